/- A part of the proof. -/
import Derived.Test.YtholdcjomliiiaaGreatDoorW2P2
import Derived.Test.YtholdcjomliiiaaGreatDoorW2P2
import Derived.Test.YtholdcjomliiiaaGreatDoorW2P2
import Derived.Test.YtholdcjomliiiaaGreatDoorW2P2
import Derived.Test.YtholdcjomliiiaaGreatDoorW2P2
import Derived.Test.YtholdcjomliiiaaGreatDoorW2T2
import Derived.KernelRfl
import Derived.Test.YtholdcjomliiiaaGreatDoorW2P1
import Derived.Test.YtholdcjomliiiaaGreatDoorW2P1
set_option linter.all false
noncomputable section
namespace Go.Proofs
open Go Go.RowKit Go.Vm
open Option renaming some→C
open Bool renaming true→t_,false→f_
variable {x p:Qm}{l:L_ QK}{L:L_ Qm}{now b a v:Int}{q:QBg}{i:Nat}{n:Qc}{m M:L_ Bag}{o:Qd}{c:QF}{e:Qs}
def Qpv {α:Type}{l:L_ α}(p:α->Bool){body:Int->O_ (Int⊕Int)}(hs:∀(i:Nat) x,l[i]? = C x->body (i:Int)=C (bif p x then .inl ((i+1:Nat):Int)else .inr (i:Int)))(hf:body (l.length:Int)=C (.inr (l.length:Int))):
  ∃k:Nat,Qq body 0=C (k:Int)/\k<=l.length/\(∀i x,i<k->l[i]? = C x->p x=t_)/\∀x,l[k]? = C x->p x=f_:=by
 have h:=Cf (body:=body) l.length (λi s=>s=(i:Int)/\∀j x,j<i->l[j]? = C x->p x=t_) (λr=>∃k:Nat,r=(k:Int)/\k<=l.length/\(∀i x,i<k->l[i]? = C x->p x=t_)/\∀x,l[k]? = C x->p x=f_) (λi s hi hI=>by
  obtain⟨rfl,h2⟩:=hI;have hx:l[i]? = C l[i]:=Qv hi;rw[hs i _ hx];cases hp:p l[i]with
  |true=>
   refine .inl ⟨_,rfl,rfl,λj x hj O=>?_⟩;by_cases e:j=i
   ·subst e;rw[hx]at O;cases O;exact hp
   exact h2 j x (by omega) O
  |false=>exact .inr ⟨_,rfl,i,rfl,by omega,h2,λx hx'=>by rw[hx]at hx';cases hx';exact hp⟩) (λs hI=>by
  obtain⟨rfl,h2⟩:=hI;exact⟨_,hf,l.length,rfl,Yk _,h2,λx hx=>by rw[SA (Yk _)]at hx;cases hx⟩) 0 ⟨rfl,λj x hj=>by omega⟩
 obtain⟨r,hr,k,rfl,h1,h2,h3⟩:=h;exact⟨k,hr,h1,h2,h3⟩
def Qtb:∀{l:L_ Qm} {k:Nat},k<=l.length->(∀i y,i<k->l[i]? = C y->decide (y.Id<=x.Id)=t_)->(∀y,l[k]? = C y->decide (y.Id<=x.Id)=f_)->ahead x l=k
 |[],k,O,_,_=>by
  have:k=0:=by simpa using O
  subst this;rfl
 |y::l,0,_,_,h=>by
  have:=h y rfl;rw[ahead,if_neg (by simpa using this)]
 |y::l,k+1,O,h2,h=>by
  have:=h2 0 y (by omega) rfl;rw[ahead,if_pos (by simpa using this),Qtb (l:=l) (k:=k) (by simpa using O) (λi z hi hz=>h2 (i+1) z (by omega) (by simpa using hz)) (λz hz=>h z (by simpa using hz))]
def QwJ {l:L_ Qm}(hf:∀y∈l,lens y<=1000)(hx:lens x<=1000)(hl:l.length+1<=4294967296)(hm:l.length<=maxLen):Ni l x=C (QbW l x):=by
 unfold Ni;have hd:(dropL l x.Id).length<=l.length:=Vo _ _;rw[Qpu hf (by omega) hm,Qa];unfold QbW;generalize dropL l x.Id=d at hd;obtain⟨k,O,h2,h3,h4⟩:=Qpv (l:=d) (λy=>decide (y.Id<=x.Id)) (body:=λst=>Cd d x st) (λi y h=>by
  show Cd d x (i:Int)=_;unfold Cd Qay Qaz;rw[ZF h,Qr,Bi h,Qa,Qa,Qo (Xf.1 h).1 (by omega)];cases decide (y.Id<=x.Id)<;>rfl) (by
  show Cd d x (d.length:Int)=_;unfold Cd Qay Qaz;rw[ZG];rfl)
 rw[O,Qa];have ha:=Qtb h2 h3 h4;unfold QgG;rw[XM,BO (by simp;omega),Qa,Yv (by simp;omega),Qa,Qly hx,Qa,Yv (by simp;omega),Qa,BO (by simp;omega),Qa,Yv (by simp;omega),Qa,Qrc,ha];simp;rw[YV (by simp)]
def CO (L:L_ Qm):Nat->L_ Ky
 |0=>[]|i+1=>match L[i]? with
  |some x=>if (∀y∈L.take i,y.Id≠x.Id)/\0<x.Until then CO L i++[(x.Until,x.Id)]else CO L i
  |none=>CO L i
def QcW (L:L_ Qm):∀i,(CO L i).length<=i
 |0=>Yk _|i+1=>by
  rw[CO];have:=QcW L i;split
  ·split
   ·simp;omega
   omega
  omega
def Qpw:∀{i:Nat} {p:Ky},p∈CO L i->∃x∈L.take i,x.Id=p.2
 |0,p,h=>by cases h
 |i+1,p,h=>by
  have up:∀{x},x∈L.take i->x∈L.take (i+1):=λ{x} hx=>by rw[JY];exact SB _ hx
  rw[CO]at h;split at h
  ·rename_i x hx;split at h
   ·rcases YT.1 h with h|h
    ·obtain⟨y,O,e⟩:=Qpw h;exact⟨y,up O,e⟩
    simp at h;subst h;exact⟨x,by rw[JY,hx];simp,rfl⟩
   obtain⟨y,O,e⟩:=Qpw h;exact⟨y,up O,e⟩
  obtain⟨y,O,e⟩:=Qpw h;exact⟨y,up O,e⟩
def Qrd (hL:L.length<=80){S:L_ Ky}(hS:Srt S)(hp:S.Perm (CO L L.length)):HF L now=C (QbX now S):=by
 have mx:(80:Nat)<=maxLen:=by decide
 unfold HF QfX;rw[Qa];have h:=Cf (body:=λst:Int×L_ (Int×Bool)×L_ (O_ Nat)×L_ (Int×O_ Nat)×L_ Qk=>Ee L st.1 st.2.1 st.2.2.1 st.2.2.2.1 st.2.2.2.2) L.length (λi s=>s.1=(i:Int)/\(∀k,(Xg s.2.1 k).getD f_=t_↔∃y∈L.take i,y.Id=k)/\OkQ s.2.2.1 s.2.2.2.1 s.2.2.2.2/\(Jc s.2.2.2.2 s.2.2.1).Perm (CO L i)/\∀k,Xg s.2.2.2.1 k≠none->∃y∈L.take i,y.Id=k)
  (λr=>OkQ r.1 r.2.1 r.2.2/\(Jc r.2.2 r.1).Perm (CO L L.length)) (λi s hi hs=>by
  obtain⟨j,m,l,mm,t⟩:=s;obtain⟨rfl,hm,hq,O,hmm⟩:=hs;replace hm:∀k,(Xg m k).getD f_=t_↔∃y∈L.take i,y.Id=k:=hm;replace hq:OkQ l mm t:=hq;replace O:(Jc t l).Perm (CO L i):=O;replace hmm:∀k,Xg mm k≠none->∃y∈L.take i,y.Id=k:=hmm;left;have hx:L[i]? = C L[i]:=Qv hi;have htk:L.take (i+1)=L.take i++[L[i]]:=by rw[JY,hx];rfl
  have hm':∀k,(Xg (YQ UP m L[i].Id t_) k).getD f_=t_↔∃y∈L.take (i+1),y.Id=k:=λk=>by
   rw[BX,htk];by_cases e:k=L[i].Id
   ·rw[if_pos e];exact⟨λ_=>⟨L[i],Qg0 _ (LA.2 rfl),e.symm⟩,λ_=>rfl⟩
   rw[if_neg e,hm];refine⟨λ⟨y,h1,h2⟩=>⟨y,SB _ h1,h2⟩,λ⟨y,h1,h2⟩=>?_⟩;rcases YT.1 h1 with h1|h1
   ·exact⟨y,h1,h2⟩
   simp at h1;subst h1;exact absurd h2.symm e
  show ∃s',Ee L (i:Int) m l mm t=_/\_;unfold Ee PP;rw[ZF hx,Bi hx,Qr,Qa,Qo hi (by omega)];have hpr:CO L (i+1)=if (∀y∈L.take i,y.Id≠L[i].Id)/\0<L[i].Until then CO L i++[(L[i].Until,L[i].Id)]else CO L i:=by rw[CO,hx]
  have hlen:l.length<=i:=by
   have:=O.length_eq;rw[Ei]at this;have:=QcW L i;omega
  by_cases c1:∃y∈L.take i,y.Id=L[i].Id
  ·rw[(hm _).2 c1];refine⟨_,rfl,rfl,hm',hq,?_,λk O=>?_⟩
   ·rw[hpr,if_neg λh=>by obtain⟨y,h1,h2⟩:=c1;exact h.1 y h1 h2];exact O
   obtain⟨y,h1,h2⟩:=hmm k O;exact⟨y,by rw[htk];exact SB _ h1,h2⟩
  ·rw[Bool.eq_false_iff.2 λh=>c1 ((hm _).1 h)];have c1':∀y∈L.take i,y.Id≠L[i].Id:=λy h1 h2=>c1 ⟨y,h1,h2⟩;by_cases c2:0<L[i].Until
   ·rw[Ql c2];obtain⟨r,hr,g1,g2,g3,v,g4⟩:=Qzj hq (by omega) (id:=L[i].Id) (at_:=L[i].Until) (by
     cases hmg:Xg mm L[i].Id with|none=>rfl|some v=>exact absurd (hmm _ (by rw[hmg];simp)) c1)
    simp only[Qcq,Bool.and_self,Qr];rw[hr,Qa];refine⟨_,rfl,rfl,hm',g1,?_,λk O=>?_⟩
    ·rw[hpr,if_pos ⟨c1',c2⟩];exact g3.trans (O.append_right _)
    replace O:Xg r.2.2.2 k≠none:=O;rw[g4,BX]at O;by_cases e:k=L[i].Id
    ·exact⟨L[i],by rw[htk];exact Qg0 _ (LA.2 rfl),e.symm⟩
    rw[if_neg e]at O;obtain⟨y,h1,h2⟩:=hmm k O;exact⟨y,by rw[htk];exact SB _ h1,h2⟩
   rw[Qn c2];refine⟨_,rfl,rfl,hm',hq,?_,λk O=>?_⟩
   ·rw[hpr,if_neg λh=>c2 h.2];exact O
   obtain⟨y,h1,h2⟩:=hmm k O;exact⟨y,by rw[htk];exact SB _ h1,h2⟩) (λs hs=>by
  obtain⟨j,m,l,mm,t⟩:=s;obtain⟨rfl,hm,hq,O,hmm⟩:=hs;refine⟨(l,mm,t),?_,hq,O⟩;show Ee L (L.length:Int) m l mm t=_;unfold Ee;rw[ZG];rfl) (0,[],[],[],[]) ⟨rfl,λk=>by simp[Xg],⟨⟨(λo h=>by cases h),(λe h=>by cases h)⟩,(λq h=>by cases h),λc _ h=>by cases h⟩,List.Perm.refl _,λk h=>absurd rfl h⟩
 obtain⟨r,hr,hq,O⟩:=h;show((Qq (λst=>Ee L st.1 st.2.1 st.2.2.1 st.2.2.2.1 st.2.2.2.2) (0,[],[],[],[])).bind _)=_;rw[hr,Qa];unfold Qal RU;have hlen:r.1.length<=80:=by
  have:=O.length_eq;rw[Ei]at this;have:=QcW L L.length;omega
 obtain⟨v,hv⟩:∃v,Km r.1 r.2.1 r.2.2=C v:=by
  rcases QhU r.2.1 hq.h with⟨_,e⟩|⟨_,e⟩<;>exact⟨_,e⟩
 obtain⟨q,h4,h5⟩:=Qta (now:=now) S hq.h hq.k hS (hp.trans O.symm) hv.symm (out:=[]) (by simp;omega);rw[hv,Qa,h4,Qa];unfold VX;rw[Qa,h5,FR]
def CQ (p:Int×Int):Ky:=(p.2,p.1)
def Qyf {id:Int}(hm:q.length<=maxLen)(h:∀p∈q,p.1≠id):En ⟨q⟩ id=C (-1):=by
 unfold En;have h0:=h;have h:=QbC (body:=λst=>JK ⟨q⟩ id st) (l:=q) (λi=>(i:Int)) (λ_ y=>y.1==id) (λi=>.inl (i:Int)) (.inr ()) (λi y hi O=>by
  show JK ⟨q⟩ id (i:Int)=_;unfold JK;rw[ZF O,Bi O,Qo hi hm];simp only[Qr,Qa];cases (y.1==id)<;>rfl) (by
  show JK ⟨q⟩ id (q.length:Int)=_;unfold JK;rw[ZG];rfl) (s0:=0) rfl
 rw[h];cases hs:KM (λ_ y=>y.1==id) 0 q with
 |none=>rfl|some i=>
  obtain⟨j,x,_,hx,he⟩:=QcL hs;exact absurd (by simpa using he) (h0 x (XB hx))
def Qzl {id at_:Int}(hl:q.length<=80)(hs:Srt (q.map CQ))(h:∀p∈q,p.1≠id):∃q2,EP ⟨q⟩ id at_=C (0,⟨q2⟩)/\Srt (q2.map CQ)/\(q2.map CQ).Perm (q.map CQ++[(at_,id)]):=by
 have mx:(80:Nat)<=maxLen:=by decide
 unfold EP;rw[Qyf (by omega) h,Qa,Qn (by decide),Qe,Qn (show ¬(4096:Int)<=(q.length:Int) by omega),Qe];obtain⟨k,h1,h2,h3,h4⟩:=Qpv (l:=q) (λy=>decide (Lw (CQ y) (at_,id))) (body:=λst=>JW ⟨q⟩ at_ id st) (λi y hy=>by
  show JW ⟨q⟩ at_ id (i:Int)=_;unfold JW Ap Aq;rw[ZF hy,Qr,Bi hy,Qa,Qa,Qa,Qo (Xf.1 hy).1 (by omega)];have hd:∀p:Prop,[Decidable p]->(p↔Lw (CQ y) (at_,id))->decide p=decide (Lw (CQ y) (at_,id)):=λp _ hp=>decide_eq_decide.2 hp;by_cases c1:y.2<at_
  ·rw[Ql c1,Ql (show Lw (CQ y) (at_,id)from .inl c1)];rfl
  ·rw[Qn c1,Qe];by_cases c2:y.2=at_
   ·rw[show(y.2==at_)=t_ by simpa using c2,Qr,Qa,hd (y.1<id) ⟨λh=>.inr ⟨c2,h⟩,λh=>by rcases h with h|h;exact absurd h c1;exact h.2⟩];cases decide (Lw (CQ y) (at_,id))<;>rfl
   rw[show(y.2==at_)=f_ by simpa using c2,Qe,Qa,Qn (p:=Lw (CQ y) (at_,id)) (by
    rintro (h|h)
    ·exact c1 h
    exact c2 h.1)]
   rfl) (by
  show JW ⟨q⟩ at_ id (q.length:Int)=_;unfold JW Ap Aq;rw[ZG];rfl)
 rw[h1,Qa];unfold Lt;rw[XM,BO (by simp;omega),Qa,Yv (by simp;omega),Qa,Yv (by simp;omega),Qa,BO (by simp;omega),Qa,Yv (by simp;omega),Qa];refine⟨_,rfl,?_,?_⟩
 ·simp only[FR,List.drop_zero,Nat.sub_zero,Kh];rw[YV (l:=q.drop k) (by simp),QaU,QaU,List.map_take,List.map_drop];unfold Srt at *;rw[Qg2];refine⟨hs.sublist (List.take_sublist _ _),?_,?_⟩
  ·show List.Pairwise Dq ((at_,id)::(List.map CQ q).drop k);refine Bu.2 ⟨λz O=>?_,hs.sublist (List.drop_sublist _ _)⟩;by_cases hk:k<q.length
   ·have hd:(List.map CQ q).drop k=CQ q[k]::(List.map CQ q).drop (k+1):=by
     rw[NE (by simpa using hk)];simp
    have h5:Dq (at_,id) (CQ q[k]):=by
     have:=h4 _ (Qv hk);exact of_decide_eq_false this
    rw[hd]at O;rcases XP.1 O with rfl|O
    ·exact h5
    have:=hs.sublist (List.drop_sublist k _);rw[hd]at this;exact h5.trans (List.rel_of_pairwise_cons this O)
   rw[List.drop_eq_nil_of_le (by simp;omega)]at O;cases O
  intro a ha b hb;have ha':Dq a (at_,id):=by
   obtain⟨i,hi,rfl⟩:=Ej.1 ha;have hi2:i<k/\i<q.length:=by simp at hi;omega
   have:=Xe (h3 i _ hi2.1 (Qv hi2.2));rw[Qct,List.getElem_map];exact this.le
  rcases XP.1 (show b∈(at_,id)::(List.map CQ q).drop k from hb)with rfl|hb
  ·exact ha'
  have h6:=hs;rw[<-QiN k (List.map CQ q),Qg2]at h6;exact h6.2.2 a ha b hb
 simp only[FR,List.drop_zero,Nat.sub_zero,Kh];rw[YV (l:=q.drop k) (by simp),QaU,QaU];have:(q.map CQ)=(q.take k).map CQ++(q.drop k).map CQ:=by rw[<-QaU,QiN]
 rw[this,Kh];exact List.Perm.append_left _ List.perm_append_comm
def Qui : ∀(q:QBg) {now:Int} {out:LI_},q.length+out.length<=1000->∃q2,Qq (λst=>YJ now st.1 st.2) (q,out)=C (out++QbX now (q.map CQ),q2)
 |[],now,out,_=>by
  rw[Yl];refine⟨⟨[]⟩,?_⟩;show((YJ now [] out).bind _)=_;simp[QbX,YJ,Gg,Gh]
 |p::q,now,out,hl=>by
  rw[Yl];simp only[WI]at hl;by_cases h:p.2<=now
  ·obtain⟨q2,h2⟩:=Qui q (now:=now) (out:=out++[p.1]) (by simp;omega);have O:YJ now (p::q) out=C (.inl (q,out++[p.1])):=by
    unfold YJ Gg Gh;rw[Ql (show(0:Int)<((p::q).length:Int) by simp),Qr,show idx (p::q) 0=C p from rfl,Qa,Qa,Ql h,Qr,Qa,Yv (by simp;omega),Qa,BO (by simp),Qa,Yv (by simp;omega),Qa];simp
   refine⟨q2,(congrArg (λo=>Option.bind o _) O).trans (h2.trans ?_)⟩;unfold QbX;rw[GC,List.takeWhile_cons_of_pos (p:=λs:Ky=>decide (s.1<=now)) (a:=CQ p) (Ql h),GC,Kh];rfl
  have O:YJ now (p::q) out=C (.inr (out,⟨p::q⟩)):=by
   unfold YJ Gg Gh;rw[Ql (show(0:Int)<((p::q).length:Int) by simp),Qr,show idx (p::q) 0=C p from rfl,Qa,Qa,Qn h];rfl
  refine⟨⟨p::q⟩,(congrArg (λo=>Option.bind o _) O).trans ?_⟩;unfold QbX;rw[GC,List.takeWhile_cons_of_neg (p:=λs:Ky=>decide (s.1<=now)) (a:=CQ p) (by rw[show decide ((CQ p).1<=now)=f_ from Qn h];decide)];show C (out,_)=_;simp
def Qtc (hi:i<L.length):KM (λ_ y=>y.Id==L[i].Id) 0 L=C i↔∀y∈L.take i,y.Id≠L[i].Id:=by
 constructor
 ·intro h y hy e;obtain⟨j,hj,rfl⟩:=Ej.1 hy;have hj2:j<i/\j<L.length:=by simp at hj;omega
  have key:∀(l:L_ Qm) (k n:Nat),KM (λ_ y=>y.Id==L[i].Id) k l=C n->∀m x,k+m<n->l[m]? = C x->(x.Id==L[i].Id)=f_:=by
   intro l
   induction l with
   |nil=>intro k n h;cases h
   |cons z l ih=>
    intro k n h m x hm O;rw[KM]at h;cases hz:(z.Id==L[i].Id)with
    |true=>rw[hz]at h;cases h;omega
    |false=>
     rw[hz]at h;cases m with
     |zero=>cases O;exact hz
     |succ m=>exact ih (k+1) n h m x (by omega) O
  have:=key L 0 i h j L[j] (by omega) (Qv hj2.2);rw[Qct]at e;simp[e]at this
 intro h;have key:∀(l:L_ Qm) (k m:Nat) x,l[m]? = C x->(x.Id==L[i].Id)=t_->(∀j y,j<m->l[j]? = C y->(y.Id==L[i].Id)=f_)->KM (λ_ y=>y.Id==L[i].Id) k l=C (k+m):=by
  intro l
  induction l with
  |nil=>intro k m x O;cases O
  |cons z l ih=>
   intro k m x O he hj;rw[KM];cases m with
   |zero=>cases O;rw[he];rfl
   |succ m=>
    rw[hj 0 z (by omega) rfl,Qe,ih (k+1) m x O he λj y hj' hy=>hj (j+1) y (by omega) hy];congr 1;omega
 have:=key L 0 i L[i] (Qv hi) (by simp) λj y hj hy=>by
  have hjl:j<L.length:=by omega
  rw[Qv hjl]at hy;cases hy;have:=h L[j] (Ej.2 ⟨j,by simp;omega,by rw[Qct]⟩);simpa using this
 simpa using this
def Qzm (hL:L.length<=80):∃S,Srt S/\S.Perm (CO L L.length)/\Ss L now=C (QbX now S):=by
 have mx:(80:Nat)<=maxLen:=by decide
 unfold Ss Qf7;rw[Qa];have h:=Cf (body:=λst:Int×QQ=>Ce L st.1 st.2) L.length (λi s=>s.1=(i:Int)/\Srt (s.2.L.map CQ)/\(s.2.L.map CQ).Perm (CO L i))
  (λr=>Srt (r.L.map CQ)/\(r.L.map CQ).Perm (CO L L.length)) (λi s hi hs=>by
  obtain⟨j,⟨q⟩⟩:=s;obtain⟨rfl,O,hp⟩:=hs;replace O:Srt (q.map CQ):=O;replace hp:(q.map CQ).Perm (CO L i):=hp;left;have hx:L[i]? = C L[i]:=Qv hi;have hpr:CO L (i+1)=if (∀y∈L.take i,y.Id≠L[i].Id)/\0<L[i].Until then CO L i++[(L[i].Until,L[i].Id)]else CO L i:=by rw[CO,hx]
  have hlen:q.length<=i:=by
   have:=hp.length_eq;rw[Dx]at this;have:=QcW L i;omega
  show ∃s',Ce L (i:Int) ⟨q⟩=_/\_;unfold Ce;rw[ZF hx,Qr];have g2:QaD L (i:Int)=C (decide ((∀y∈L.take i,y.Id≠L[i].Id)/\0<L[i].Until)):=by
   unfold QaD;rw[Bi hx,Qa,Qpt (by omega),Qa,Qa];by_cases c:∀y∈L.take i,y.Id≠L[i].Id
   ·rw[(Qtc hi).2 c];show(bif (i:Int)==(i:Int)then _ else _)=_;rw[beq_self_eq_true,Qr];congr 1;exact decide_eq_decide.2 ⟨λh=>⟨c,h⟩,λh=>h.2⟩
   have hf:decide ((∀y∈L.take i,y.Id≠L[i].Id)/\0<L[i].Until)=f_:=Qn λh=>c h.1;rw[hf];have hne:((KM (λ_ y=>y.Id==L[i].Id) 0 L).elim (-1:Int) (λi=>(i:Int))==(i:Int))=f_:=by
    cases hs:KM (λ_ y=>y.Id==L[i].Id) 0 L with
    |none=>simp|some k=>
     have:k≠i:=λe=>c ((Qtc hi).1 (e▸hs));simp;omega
   rw[hne];rfl
  rw[g2,Qa];unfold QgI Rh;rw[Qo hi (by omega)];by_cases c:(∀y∈L.take i,y.Id≠L[i].Id)/\0<L[i].Until
  ·rw[Ql c,Qr,Bi hx,Qa,Qa];obtain⟨q2,g1,g3,g4⟩:=Qzl (q:=q) (id:=L[i].Id) (at_:=L[i].Until) (by omega) O (λp hp' e=>by
    obtain⟨y,hy,e2⟩:=Qpw (hp.mem_iff.1 (Yt.2 ⟨p,hp',rfl⟩));exact c.1 y hy (e2.trans e))
   rw[g1,Qa];refine⟨_,rfl,rfl,g3,?_⟩;rw[hpr,if_pos c];exact g4.trans (hp.append_right _)
  ·rw[Qn c];exact⟨_,rfl,rfl,O,by rw[hpr,if_neg c];exact hp⟩) (λs hs=>by
  obtain⟨j,⟨q⟩⟩:=s;obtain⟨rfl,O,hp⟩:=hs;refine⟨⟨q⟩,?_,O,hp⟩;show Ce L (L.length:Int) ⟨q⟩=_;unfold Ce;rw[ZG];rfl) (0,⟨[]⟩) ⟨rfl,List.Pairwise.nil,List.Perm.refl _⟩
 obtain⟨⟨q⟩,hr,O,hp⟩:=h;rw[hr,Qa];unfold QgJ CM;have hlen:q.length<=80:=by
  have:=hp.length_eq;simp only[Dx]at this;have:=QcW L L.length;omega
 obtain⟨q2,h2⟩:=Qui q (now:=now) (out:=[]) (by simp;omega);refine⟨q.map CQ,O,hp,?_⟩;rw[h2,Qa];unfold Lu;rw[Qa,FR]
def XL (n:Qc)(m:L_ Bag):Prop:=KF n 1024 m/\MX n m
def XL.len (O:XL n m)(h:QT n):QV (QV λ_=>True) m:=O.1.len h (by omega)
def QhV {c:Nat}(h:QT n)(hm:KF n c m)(hl:MX n m):XL n m:=by
 refine⟨⟨hm.1,λb hb=>?_⟩,hl⟩;have hr:=(hm.2 b hb).1;refine⟨hr,?_⟩;obtain⟨j,hj,rfl⟩:=Ej.1 hb;have hj2:j<n.Places.length:=by have:=hm.1;omega
 by_cases c0:(m[j]).length=0
 ·omega
 have O:(m[j]).length-1<(m[j]).length:=by omega
 have h1:=Qud hr.1 (a:=0) (λp hp=>(hr.2 p hp).1) ((m[j]).length-1) O;have h2:=Eh hr.1.nd (Xc O);have h3:=(hr.2 _ (Xc O)).2.1;obtain⟨z,hz,hk⟩:=hl j _ _ (Qv hj) (Qv hj2) _ (by rw[h2];omega);have:=WG (KW _ _ h.k.1) hz;omega
def QgS {x:L_ Bag}(h:QT n)(hg:XL n m)(ho:Xv n o)(hD:YP n m o=C (x,0)):XL n x:=by
 obtain⟨hm,hl⟩:=hg;have hpl:=h.pl;have hm1:=hm.1;have hx:=WG (Qvd n m o 1024 h hm (by omega) ho) hD rfl;obtain⟨t,hT,hG⟩:=Qx4 hD;obtain⟨hCk,need,hN,hL⟩:=Qpp hT;obtain⟨hnd,hndl⟩:=WG (Nj n o h ho) hN rfl;have ht:=WG (Qpo n m o 1024 h hm (by omega) ho) hT rfl;obtain⟨_,eL⟩:=(WG (Qgf n m need 1024 20 h hm hnd (by omega)) hL).1 rfl;have htl:MX n t:=λj b p hb hp k hk=>by
  have hj:=(Xf.1 hp).1;obtain⟨a,ha,ha1,ha2⟩:=Qfw hm hj;obtain⟨u,hu,hu1,hu2⟩:=Qfw hnd hj;obtain⟨p',O,hp2⟩:=eL j a u ha hu;have O:t[j]? = C p':=O;rw[hb]at O;cases O;have q:=Qug (by omega) hp2;have:=hu1.cnt k;have:=q.2.2.2.2 k;exact hl j a p ha hp k (by omega)
 exact QhV h hx (WG (Qs4 n t o (1024+20) h ht htl (by omega) ho) hG rfl)
def QwK (h:QT n)(hg:XL n m)(ho:Xv n o):Qg (KV n m o) λr=>r.2=0->XL n r.1/\Yb n m o=C 0/\∃O,Yr n o=C (O,0)/\Jd m O=C (r.1,0):=by
 obtain⟨hm,hl⟩:=hg;have hpl:=h.pl;have hm1:=hm.1;obtain⟨⟨t,c⟩,hT,hmk⟩:=Qpo n m o 1024 h hm (by omega) ho;refine⟨_,hT,λh0=>?_⟩;replace h0:c=0:=h0;subst h0;obtain⟨hCk,O,hN,hL⟩:=Qpp hT;obtain⟨hnd,hndl⟩:=WG (Nj n o h ho) hN rfl;obtain⟨_,eL⟩:=(WG (Qgf n m O 1024 20 h hm hnd (by omega)) hL).1 rfl;refine⟨QhV h (hmk rfl) λj b p hb hp k hk=>?_,hCk,O,hN,hL⟩;have hj:=(Xf.1 hp).1;obtain⟨a,ha,ha1,ha2⟩:=Qfw hm hj;obtain⟨u,hu,hu1,hu2⟩:=Qfw hnd hj;obtain⟨p',hp',hp2⟩:=eL j a u ha hu;have hp':t[j]? = C p':=hp';have hb:t[j]? = C b:=hb;rw[hb]at hp';cases hp';have q:=Qug (by omega) hp2;have:=hu1.cnt k;have:=q.2.2.2.2 k;exact hl j a p ha hp k (by omega)
def Qre (h:QT n)(O:XL n m)(ho:Xv n o):Qg (WC n m o) λr=>r.2=0->XL n r.1:=by
 obtain⟨⟨t,c⟩,hT,hmk⟩:=Qwy n m o 1024 h O.1 (by omega) ho;have hl:=WG (Qs4 n m o 1024 h O.1 O.2 (by omega) ho) hT;exact⟨_,hT,λh0=>QhV h (hmk h0) (hl h0)⟩
def Qrf (h:QT n)(hg:XL n m)(ho:Xv n o):Qg (BV n m o) λr=>r.2=0->XL n r.1:=by
 unfold BV;refine T0 (Nj n o h ho) λy hy=>?_;refine T1 (λhc=>T2 λh=>absurd h (by simpa using hc)) λhc2=>?_;obtain⟨hym,hyl⟩:=hy (by simpa using hc2);obtain⟨r,hr,hmk⟩:=Qq5 n m y.1 1024 20 h hg.1 hym (by omega);have hsp:=WG (QjX n m y.1 1024 20 h hg.1 hym (by omega)) hr;rw[hr,Qa];refine T2 λh0=>QhV h (hmk h0) λj b p hb hp k hk=>?_;obtain⟨_,ze⟩:=hsp.1 h0;have hj:j<n.Places.length:=(Xf.1 hp).1;obtain⟨u,hu,hu1,hu2⟩:=Qfw hg.1 hj;obtain⟨v,hv,hv1,hv2⟩:=Qfw hym hj;obtain⟨s,O,hs2⟩:=ze j u v hu hv;have O:r.1[j]? = C s:=O;have hb:r.1[j]? = C b:=hb;rw[hb]at O;cases O;have q:=Qwz (by omega) hs2;by_cases c0:0<QJ u k
 ·exact hg.2 j u p hu hp k c0
 have:=hu1.cnt k;have:=q.2.2.2 k;exact hyl j v p hv hp k (by omega)
def Qvk {s:L_ Qm}(h:s.length<=1000000000):Wf s=C s:=by
 unfold Wf;rw[Yv (by simp;omega),Qa,FR]
structure Qtd (c:QF):Prop where
 m:c.M.length<=100000
 b:∀b∈c.M,b.length<=100000
 i:c.Items.length<=1000
 f:∀x∈c.Items,x.Mode.Vars.length<=20000/\x.Mode.Ins.length<=20000/\x.Mode.Outs.length<=20000
def Qtd.fit (h:Qtd c):∀x∈c.Items,ZX x:=λx O=>by have:=h.f x O;unfold ZX;omega
def QhW (h:Qtd c):YN c=C c:=by
 have mx:(1000:Nat)<=maxLen:=by decide
 have hi:=h.i;unfold YN;have hM:=h.m;rw[Lk c.M (by omega) (λb hb=>by have:=h.b b hb;omega),Qa,Qvk (by omega),Qa];have main:Qg (Qq (λst=>FX c.Items st.1 st.2) (0,c.Items)) λq=>q=c.Items:=by
  refine Qg.up c.Items.length (λst=>st.1) (λst=>st.2=c.Items) rfl rfl (λi st O hn hJ=>?_);obtain⟨x,l⟩:=st;replace O:x=(i:Int):=O;subst O;replace hJ:l=c.Items:=hJ;subst hJ;show Qg (FX c.Items i c.Items) _;unfold FX;refine T1 (λhc=>?_) (λ_=>T2 (Qp rfl));simp only[Qw]at hc;have i1:i<c.Items.length:=by omega
  have hx:=Qv i1;have hf:=h.f _ (Xc i1);rw[QG,hx,Qa,QaI (by omega),Qa,QaI (by omega),Qa,QaI (by omega),Qa,Qa];refine T2 (QH ⟨i1,Qo i1 (by omega),?_⟩);show c.Items.set (i:Int).toNat _=c.Items;rw[XM];exact List.ext_getElem? λj=>by
   rw[List.getElem?_set];split
   ·rename_i e;subst e;rw[hx]
   rfl
 obtain⟨q,q1,rfl⟩:=main;rw[q1,Qa];all_goals rfl
def QcO (n:Qc)(o:Qd):Prop:=(∃a,Yr n o=C (a,0))/\∃b,Ah n o=C (b,0)
structure Kb (n:Qc) (c:QF):Prop where
 g:XL n c.M
 n1:1<=c.Next/\c.Next<=1099511627776
 n2:0<=c.Now/\c.Now<=1099511627776
 up:upF c.Next 0 c.Items=t_
 len:c.Items.length<=64
 f:∀x∈c.Items,Xv n x.Mode/\QcO n x.Mode
def Kb.lens (h:QT n)(O:Kb n c):Qtd c:=by
 have hpl:=h.pl;have hl:=O.len;exact⟨by have:=O.g.1.1;omega,λb hb=>by have:=(O.g.1.2 b hb).2;omega,by omega,λx hx=>by have:=(O.f x hx).1;unfold Xv at this;omega⟩
def QwL (h:QT n)(hm:Xv n x.Mode):∃b,LG x n=C b/\(b=f_↔QcO n x.Mode):=by
 obtain⟨⟨a,p⟩,h1,_⟩:=Nj n x.Mode h hm;obtain⟨⟨b,q⟩,h2,_⟩:=Qkm n x.Mode h hm;unfold LG QcO;rw[h1,h2,Qa,Qa];refine⟨_,rfl,?_⟩;simp only[Ku,KA];constructor
 ·rintro ⟨rfl,rfl⟩;exact⟨⟨a,rfl⟩,b,rfl⟩
 rintro ⟨⟨a',O⟩,b',e2⟩;simp only[Option.some.injEq,Prod.mk.injEq]at O e2;exact⟨O.2,e2.2⟩
def Qvl (h:QT n){l:L_ Qm}(hl:l.length<=maxLen)(hm:∀x∈l,Xv n x.Mode):∃b,JM l n=C b/\(b=f_↔∀x∈l,QcO n x.Mode):=by
 unfold JM Dg;have main:Qg (Qq (λst=>JL l n st) 0) λq=>(∀r,q=.inl r->0<=r/\∃x∈l,¬QcO n x.Mode)/\(q=.inr ()->∀x∈l,QcO n x.Mode):=by
  refine Qg.up l.length (λst=>st) (λst=>∀(j:Nat) x,(j:Int)<st->l[j]? = C x->QcO n x.Mode) rfl (λj x hj=>by omega) (λi st hi hn hJ=>?_);replace hi:st=(i:Int):=hi;subst hi;show Qg (JL l n i) _;unfold JL;refine T1 (λhc=>?_) (λhc=>T2 (Qp ⟨λr e=>(by cases e),λ_ x hx=>?_⟩))
  ·simp only[Qw]at hc;have i1:i<l.length:=by omega
   have hx:=Qv i1;obtain⟨b,hb,hb2⟩:=QwL h (hm _ (Xc i1));rw[QG,hx,Qa,hb,Qa];cases b with
   |true=>exact T2 (Qp ⟨λr e=>by cases e;exact⟨by omega,_,Xc i1,λhB=>by have:=hb2.2 hB;cases this⟩,λe=>by cases e⟩)
   |false=>
    refine T2 (QH ⟨i1,Qo i1 hl,λj x hj O=>?_⟩);rw[Qo i1 hl]at hj;by_cases cj:j=i
    ·subst cj;rw[hx]at O;cases O;exact hb2.1 rfl
    exact hJ j x (by omega) O
  simp only[QU]at hc;obtain⟨j,hj,rfl⟩:=Ej.1 hx;exact hJ j _ (by omega) (Qv hj)
 obtain⟨q,q1,q2,q3⟩:=main;rw[q1,Qa];rcases q with r|q
 ·obtain⟨h0,x,hx,hB⟩:=q2 r rfl;exact⟨t_,by show C (decide (0<=r))=_;rw[Ql h0],⟨λe=>(by cases e),λe=>absurd (e x hx) hB⟩⟩
 exact⟨f_,rfl,λ_=>q3 rfl,λ_=>rfl⟩
def Qrg (h:QT n)(O:Kb n c):Ux n c=C t_:=by
 have hL:=O.lens h;have hi:=hL.i;have mx:(1000:Nat)<=maxLen:=by decide
 obtain⟨b,b1,b2⟩:=Qvl h (l:=c.Items) (by omega) λx hx=>(O.f x hx).1;have hb:=b2.2 λx hx=>(O.f x hx).2;subst hb;have h1:=O.n1;have h2:=O.n2;have hlen:=O.len;unfold Ux Qb2;rw[Qr5 h O.g.1 (by omega) O.g.2,Qa,show(!t_)=f_ from rfl,Qe,Qn (by omega),Qe,Qn (by omega),Qe,Qn (by omega),Qe,Qn (by omega),Qe,
  Qx9 (by omega),Qa,O.up,Ql (by omega)]
 show RI c n f_=_;unfold RI;rw[Qe,b1];rfl
def RB (b:Xj):Prop:=1<=b.Most/\b.Most<=16/\1<=b.Enough/\b.Enough<=b.Most/\0<=b.Open/\b.Open<=b.Most/\0<=b.Done/\b.Done<=b.Most/\0<=b.Failed/\b.Failed<=b.Most/\1<=b.Open+b.Done+b.Failed/\b.Open+b.Done+b.Failed<=b.Most
instance (b : Xj):Decidable (RB b):=Classical.propDecidable _
def Qte {b:Xj}(h:0<=b.Open/\b.Open<=16)(O:0<=b.Done/\b.Done<=16)(h3:0<=b.Failed/\b.Failed<=16):Ir b=C (b.Open+b.Done+b.Failed):=by
 unfold Ir;rw[Xb (n:=b.Open+b.Done) (by omega),Xb (by omega)]
def Vd (b:Xj):JR b=C (decide (RB b)):=by
 unfold JR NN;simp only[Hs,Qa];have hl:=TS (body:=λst=>Yy b st) (l:=[b.Open,b.Done,b.Failed]) (λi=>(i:Int)) (λ_ x=>!(decide (0<=x)&&decide (x<=b.Most))) (.inl ()) (.inr ()) (λi x hi hx=>by
    show Yy b (i:Int)=_;unfold Yy;rw[ZF hx,Bi hx,Qo hi (by show 3<=_;decide)];simp only[Qr,Qa,Hs];cases (!(decide (0<=x)&&decide (x<=b.Most)))<;>rfl) (by
    show Yy b (([b.Open,b.Done,b.Failed].length:Nat):Int)=_;unfold Yy;rw[ZG];rfl) (s0:=0) rfl
 have no:∀c,¬RB b->c=t_->EG b c=C (decide (RB b)):=λc h1 h2=>by subst h2;rw[Qn h1];rfl
 by_cases O:1<=b.Most/\b.Most<=16
 ·rw[Ql O.1,Ql O.2,show(!(t_&&t_))=f_ from rfl,Qe,Qa];by_cases c2:1<=b.Enough/\b.Enough<=b.Most
  ·rw[Ql c2.1,Ql c2.2,show(!(t_&&t_))=f_ from rfl];unfold EG;rw[Qe,hl];have ha:HI (λ(_:Nat) (x:Int)=>!(decide (0<=x)&&decide (x<=b.Most))) 0 [b.Open,b.Done,b.Failed]=!decide ((0<=b.Open/\b.Open<=b.Most)/\(0<=b.Done/\b.Done<=b.Most)/\(0<=b.Failed/\b.Failed<=b.Most)):=by
    simp only[HI,Vk];rw[HN];simp only[KG,Ga,Vj,QU];omega
   rw[ha];by_cases c3:(0<=b.Open/\b.Open<=b.Most)/\(0<=b.Done/\b.Done<=b.Most)/\(0<=b.Failed/\b.Failed<=b.Most)
   ·rw[Ql c3];show VA b=_;unfold VA;rw[Qte (by omega) (by omega) (by omega),Qa,Hs,Qa];congr 1;rw[HN];simp only[QN,Qw];unfold RB;constructor
    ·intro h;refine⟨?_,?_,?_,?_,?_,?_,?_,?_,?_,?_,?_,?_⟩<;>omega
    intro h;omega
   rw[Qn c3,Qn (λh:RB b=>c3 (by unfold RB at h;omega))];rfl
  exact no _ (λh=>c2 (by unfold RB at h;omega)) (by rw[Ga,Vj];simp only[QU];omega)
 have hb:(!(decide (1<=b.Most)&&decide (b.Most<=16)))=t_:=by rw[Ga,Vj];simp only[QU];omega
 rw[hb];exact no _ (λh=>O (by unfold RB at h;omega)) rfl
def QhX (b:Xj):KU b=C (decide (RB b)&&(decide (b.Enough<=b.Done)||decide (b.Open=0))):=by
 unfold KU PF Qae;rw[Vd,Qa,Sd];cases decide (RB b)<;>cases decide (b.Enough<=b.Done)<;>rfl
def Qfy {b:Xj}:Mw b=t_↔RB b/\b.Done<b.Enough/\b.Open≠0:=by
 unfold Mw;rw[Vd,QhX];simp only[QcZ,QN,Qw,Ga,Vj,Ku,QU];constructor
 ·rintro ⟨O,h⟩;rcases h with h|h
  ·exact absurd O h
  exact⟨O,by omega,h.2⟩
 rintro ⟨O,h,h3⟩;exact⟨O,.inr ⟨by omega,h3⟩⟩
def Qrh {b:Xj}(hb:Mw b=t_)(v:QR):∃e O,DC v b=C (e,O)/\(e=0->RB O)/\O.Most=b.Most:=by
 obtain⟨h1,h2,h3⟩:=Qfy.1 hb;have h:∀w:Int,∃e O,Dv b w=C (e,O)/\(w<=2->0<=w->e=0->RB O)/\O.Most=b.Most:=λw=>by
  unfold Dv;rw[Vd,QhX,Ql h1,Qa,Qa,Qn (by omega),Qn h3];show ∃e O,(bif w==0 then _ else _)=C (e,O)/\_;unfold RB at h1;by_cases w0:w=0
  ·rw[Sd,Ql w0,Qr,Qte (by omega) (by omega) (by omega),Qa,Sd];by_cases cm:b.Open+b.Done+b.Failed=b.Most
   ·rw[Ql cm];exact⟨_,_,rfl,λ_ _ e=>(by cases e),rfl⟩
   rw[Qn cm,Xb (by omega)];exact⟨_,_,rfl,λ_ _ _=>by unfold RB;simp only;omega,rfl⟩
  rw[Sd,Qn w0,Qe,Sd,Sd];by_cases w1:w=1
  ·rw[Ql w1,Qr];unfold Uy DB;simp only;rw[Xb (n:=b.Open-1) (by omega),Xb (n:=b.Done+1) (by omega),Xb (n:=b.Failed-1) (by omega),Xb (n:=b.Failed-1+1) (by omega)];exact⟨_,_,rfl,λ_ _ _=>by unfold RB;simp only;omega,rfl⟩
  rw[Qn w1,Qe];by_cases w2:w=2
  ·rw[Ql w2,Qr];unfold Uy DB;rw[Xb (n:=b.Open-1) (by omega),Xb (n:=b.Failed+1) (by omega)];exact⟨_,_,rfl,λ_ _ _=>by unfold RB;simp only;omega,rfl⟩
  rw[Qn w2];exact⟨_,_,rfl,λu1 u2 _=>absurd u2 (by omega),rfl⟩
 unfold DC PJ Nb Nc;obtain⟨e0,b0,s0,t0,u0⟩:=h 0;obtain⟨e1,b1,s1,t1,u1⟩:=h 1;obtain⟨e2,b2,s2,t2,u2⟩:=h 2;rw[s0,s1,s2];cases v.call.Do==4 with
 |true=>exact⟨_,_,rfl,t0 (by omega) (by omega),u0⟩|false=>
  cases v.call.Do==2 with|true=>exact⟨_,_,rfl,t1 (by omega) (by omega),u1⟩|false=>exact⟨_,_,rfl,t2 (by omega) (by omega),u2⟩
def Qyg (m:Int×Int×Int)(k:Int):∃e b,Cw m k=C (e,b)/\(e=0->Mw b=t_):=by
 have k3:∀m:Int×Int×Int,∃e b,EI k m=C (e,b)/\(e=0->Mw b=t_):=λm=>by
  unfold EI VU VV;simp only[Hs,Qa];by_cases h:m.1<1
  ·rw[Ql h];exact⟨_,_,rfl,λe=>by cases e⟩
  rw[Qn h,Qe];by_cases O:m.1<=m.2.1/\m.2.1<=16
  ·rw[Ql O.1,Ql O.2,show(!(t_&&t_))=f_ from rfl,Qe];by_cases c3:1<=m.2.2/\m.2.2<=m.2.1
   ·rw[Ql c3.1,Ql c3.2,show(!(t_&&t_))=f_ from rfl,Qe,Qa];by_cases c4:m.1<=k/\k<=m.2.1
    ·rw[Ql c4.1,Ql c4.2,show(!(t_&&t_))=f_ from rfl,Qe];exact⟨_,_,rfl,λ_=>Qfy.2 (by unfold RB;simp only;omega)⟩
    have:(!(decide (m.1<=k)&&decide (k<=m.2.1)))=t_:=by rw[Ga,Vj];simp only[QU];omega
    rw[this];exact⟨_,_,rfl,λe=>by cases e⟩
   have:(!(decide (1<=m.2.2)&&decide (m.2.2<=m.2.1)))=t_:=by rw[Ga,Vj];simp only[QU];omega
   rw[this];exact⟨_,_,rfl,λe=>by cases e⟩
  have:(!(decide (m.1<=m.2.1)&&decide (m.2.1<=16)))=t_:=by rw[Ga,Vj];simp only[QU];omega
  rw[this];exact⟨_,_,rfl,λe=>by cases e⟩
 unfold Cw;cases ((m.1==0)&&((m.2.1==0)&&(m.2.2==0)))with|true=>exact k3 _|false=>exact k3 _
def Qyh {a:L_ Bag}(h:QT n)(hm:QV (QV λ_=>True) m)(ho:Xv n o)(hc:Yb n m o=C 0)(ha:Yr n o=C (a,0)):QcO n o/\∃e,idx n.Tasks o.Task=C e/\e∈n.Tasks:=by
 obtain⟨_,e,he,_,_,_,b,O,_,_,hg⟩:=Av.1 ((Vc h hm ho).1 hc);obtain⟨k1,k2,_⟩:=BP h O;rw[he]at k1;cases k1;refine⟨⟨⟨a,ha⟩,?_⟩,_,he,k2⟩;unfold YY at O;obtain⟨⟨x1,x2⟩,hx,O⟩:=QI O;rcases Xy O with⟨c,O⟩|⟨c,O⟩
 ·simp only[Option.some.injEq,Prod.mk.injEq]at O;simp only[O.1]at c;cases c
 simp only[KA]at c;subst c;rw[he,Qa]at O;simp only[Option.some.injEq,Prod.mk.injEq,true_and]at O;unfold Ym at hg;obtain⟨⟨y1,y2⟩,hy,hg⟩:=QI hg;simp only[Option.some.injEq]at hg;subst hg;refine⟨y1,?_⟩;unfold Ah;rw[hx,Qa,show((0:Int) != 0)=f_ from rfl,Qe,he,Qa];rw[<-O]at hy;simp only at hy;rw[hy];rfl
def QtW (h:QT n)(hm:QV (QV λ_=>True) m)(ho:Xv n o)(hc:Yb n m o=C 0):∃e,idx n.Tasks o.Task=C e/\e∈n.Tasks:=by
 obtain⟨_,e,O,_,_,_,b,hb,_⟩:=Av.1 ((Vc h hm ho).1 hc);obtain⟨k1,k2,_⟩:=BP h hb;rw[O]at k1;cases k1;exact⟨_,O,k2⟩
structure EOk (n:Qc):Prop where
 h:QT n
 a:∀t∈n.Tasks,0<=t.After/\t.After<=65536
 j:∀m o,XL n m->Xv n o->Yb n m o=C 0->∃q,WF n m o 64=C q
def Quj (l:L_ Qm)(id:Int):(dropL l id).length<=l.length:=Vo _ _
def Qtf {l:L_ Qm}(x:Qm):(QbW l x).length=(dropL l x.Id).length+1:=Qs5 x _
def Kb.drop (h:Kb n c)(hM:XL n M)(id:Int):Kb n ⟨M,dropL c.Items id,c.Next,c.Now⟩:=by
 obtain⟨u1,u2⟩:=Lm.1 h.up;refine⟨hM,h.n1,h.n2,Lm.2 ⟨u1.drop id,λx O=>u2 x (QaK.1 O).1⟩,?_,λx O=>h.f x (QaK.1 O).1⟩;have:=Quj c.Items id;have:=h.len;show(dropL c.Items id).length<=64;omega
def Kb.put (O:Kb n c)(hM:XL n M){nx:Int}(h1:c.Next<=nx)(h2:nx<=1099511627776)(hx:0<x.Id/\x.Id<nx/\0<=x.Until/\Mw x.Batch=t_)(hm:Xv n x.Mode/\QcO n x.Mode)(hl:(QbW c.Items x).length<=64):Kb n ⟨M,QbW c.Items x,nx,c.Now⟩:=by
 obtain⟨u1,u2⟩:=Lm.1 O.up;have n1:=O.n1;refine⟨hM,⟨by show 1<=nx;omega,h2⟩,O.n2,Lm.2 ⟨u1.put x,λy h=>?_⟩,hl,λy h=>?_⟩
 ·rcases Quh.1 h with rfl|⟨h,_⟩
  ·exact hx
  have:=u2 y h;exact⟨this.1,by show y.Id<nx;omega,this.2.2⟩
 rcases Quh.1 h with rfl|⟨h,_⟩
 ·exact hm
 exact O.f y h
def Kb.fit (h:QT n)(O:Kb n c):∀x∈c.Items,ZX x:=(O.lens h).fit
def Bt (h:Kb n c):c.Items.length<=maxLen:=by
 have:=h.len;have mx:(64:Nat)<=maxLen:=by decide
 omega
def Quk (hc:Kb n c)(k:Xt):∃e x,JE ⟨n,c,k⟩=C (e,x)/\((e=0/\x∈c.Items/\x.Id=k.Id)\/(e≠0/\(∀y∈c.Items,y.Id≠k.Id)/\(0<k.Id->k.Id<c.Next->e=12))):=by
 have hm:=Bt hc;unfold JE;by_cases hx:∃x∈c.Items,x.Id=k.Id
 ·obtain⟨x,hx,he⟩:=hx;obtain⟨i,y,h1,h2,h3⟩:=Qfx hm hx he;show ∃e x,((KR c.Items k.Id).bind _)=_/\_;rw[h1,Qa,Ql (by omega),Qr,QG,h2];exact⟨0,y,rfl,.inl ⟨rfl,XB h2,h3⟩⟩
 have O:∀y∈c.Items,y.Id≠k.Id:=λy hy e=>hx ⟨y,hy,e⟩;show ∃e x,((KR c.Items k.Id).bind _)=_/\_;rw[Qrb hm O,Qa,Qn (by omega),Qe];by_cases c1:0<k.Id
 ·by_cases c2:k.Id<c.Next
  ·simp only[Ql c1,Ql c2];exact⟨12,_,rfl,.inr ⟨by omega,O,λ_ _=>rfl⟩⟩
  simp only[Ql c1,Qn c2];exact⟨3,_,rfl,.inr ⟨by omega,O,λ_ h=>absurd h c2⟩⟩
 simp only[Qn c1];exact⟨3,_,rfl,.inr ⟨by omega,O,λh=>absurd h c1⟩⟩
def QwM (h:QT n)(O:Kb n c)(k:Xt)(hp:Xv n p.Mode):∃e v,Wc ⟨n,c,k⟩ p=C (e,v)/\(e=0->∃M,WC n c.M p.Mode=C (M,0)/\XL n M/\v=⟨n,⟨M,dropL c.Items p.Id,c.Next,c.Now⟩,k⟩):=by
 obtain⟨⟨M,e⟩,hG,hg⟩:=Qre h O.g hp;have hl:=O.len;unfold Wc;simp only;rw[hG,Qa,ND];by_cases c0:e=0
 ·subst c0;rw[Ql rfl,show(!t_)=f_ from rfl,Qe,Qko (O.fit h) (by omega) (Bt O)];exact⟨0,_,rfl,λ_=>⟨M,rfl,hg rfl,rfl⟩⟩
 simp only[Qn c0];exact⟨e,_,rfl,λh=>absurd h c0⟩
def Qfz (h:QT n)(O:Kb n c)(k:Xt)(hp:Xv n p.Mode):∃e v,YA ⟨n,c,k⟩ p=C (e,v)/\(e=0->∃M,BV n c.M p.Mode=C (M,0)/\XL n M/\v=⟨n,⟨M,dropL c.Items p.Id,c.Next,c.Now⟩,k⟩):=by
 obtain⟨⟨M,e⟩,hG,hg⟩:=Qrf h O.g hp;have hl:=O.len;unfold YA;simp only;rw[hG,Qa,ND];by_cases c0:e=0
 ·subst c0;rw[Ql rfl,show(!t_)=f_ from rfl,Qe,Qko (O.fit h) (by omega) (Bt O)];exact⟨0,_,rfl,λ_=>⟨M,rfl,hg rfl,rfl⟩⟩
 simp only[Qn c0];exact⟨e,_,rfl,λh=>absurd h c0⟩
inductive Eff (n:Qc) (c:QF) (k:Xt):QF->Qz->Prop
 |start (x:Qm) (e:QL) (need M:List Bag) (hd:k.Do=1) (hx:x.Id=c.Next) (hm:x.Mode=k.Mode) (he:idx n.Tasks k.Mode.Task=C e) (hu:x.Until=if 0<e.After then c.Now+e.After else 0) (hN:Yr n k.Mode=C (need,0)) (hT:Jd c.M need=C (M,0)):Eff n c k ⟨M,QbW c.Items x,c.Next+1,c.Now⟩ ⟨0,x.Id,[]⟩
 |keep (x y:Qm) (hd:k.Do≠1) (hy:y∈c.Items) (hx:x.Id=y.Id):Eff n c k ⟨c.M,QbW c.Items x,c.Next,c.Now⟩ ⟨0,x.Id,[]⟩
 |shut (y:Qm) (M:List Bag) (hd:k.Do≠1) (hy:y∈c.Items) (hB:k.Do=5->BV n c.M y.Mode=C (M,0)) (hk:y.Id=k.Id):Eff n c k ⟨M,dropL c.Items y.Id,c.Next,c.Now⟩ ⟨0,y.Id,[y.Id]⟩
 |tick (ds:List Int) (M:List Bag) (hd:k.Do=6) (hn:ds.Nodup) (hi:∀d∈ds,∃x∈c.Items,x.Id=d) (hD:HF c.Items (c.Now+1)=C ds):Eff n c k ⟨M,ds.foldl dropL c.Items,c.Next,c.Now+1⟩ ⟨0,0,ds⟩
def QtX (h:QT n)(hc:Kb n c)(k:Xt)(hd:k.Do≠1)(hd5:k.Do≠5):∃e a v,WD ⟨n,c,k⟩=C (e,a,v)/\(e=0->Kb n v.now/\Eff n c k v.now a)/\((∀y∈c.Items,y.Id≠k.Id)->0<k.Id->k.Id<c.Next->e=12):=by
 obtain⟨e,x,hf,hx⟩:=Quk hc k;have hl:=hc.len;unfold WD;rw[hf,Qa];rcases hx with⟨rfl,hx,hi⟩|⟨h0,O,h12⟩
 ·obtain⟨u1,u2⟩:=Lm.1 hc.up;have hxx:=u2 x hx;obtain⟨e,b,hb,hr,_⟩:=Qrh hxx.2.2.2 ⟨n,c,k⟩;obtain⟨m1,m2⟩:=hc.f x hx;rw[show((0:Int)==0)=t_ from rfl,Qr,hb,Qa];have n12:∀{q:Prop},(∀y∈c.Items,y.Id≠k.Id)->q:=λO=>absurd hi (O x hx);show ∃e' a v,YB ⟨n,c,k⟩ e ⟨x.Id,x.Mode,b,x.Until⟩=_/\_;unfold YB;rw[ND];by_cases c0:e=0
  ·rw[Ql c0,show(!t_)=f_ from rfl,Qe];simp only;rw[QhX,Qa,Ql (hr c0)];have hB:=hr c0;by_cases c1:b.Enough<=b.Done\/b.Open=0
   ·have:(t_&&(decide (b.Enough<=b.Done)||decide (b.Open=0)))=t_:=by
     rcases c1 with c1|c1
     ·rw[Ql c1];rfl
     rw[Ql c1,Bool.or_true];rfl
    rw[this,show(!t_)=f_ from rfl,Qe];have hw:∃w,BU b=C w:=by
     unfold BU PL Qaj;rw[Vd];cases decide (RB b)<;>exact⟨_,rfl⟩
    obtain⟨w,hw⟩:=hw;rw[hw,Qa];cases w with
    |true=>
     obtain⟨e2,v,hv,hv0⟩:=QwM h hc k (p:=⟨x.Id,x.Mode,b,x.Until⟩) m1;rw[Qr,hv];refine⟨_,_,_,rfl,λhz=>?_,λO=>n12 O⟩;obtain⟨M,g1,g2,rfl⟩:=hv0 hz;exact⟨hc.drop g2 _,.shut x M hd hx (λh=>absurd h hd5) hi⟩
    |false=>
     obtain⟨e2,v,hv,hv0⟩:=Qfz h hc k (p:=⟨x.Id,x.Mode,b,x.Until⟩) m1;rw[Qe,hv];refine⟨_,_,_,rfl,λhz=>?_,λO=>n12 O⟩;obtain⟨M,g1,g2,rfl⟩:=hv0 hz;exact⟨hc.drop g2 _,.shut x M hd hx (λh=>absurd h hd5) hi⟩
   have:(t_&&(decide (b.Enough<=b.Done)||decide (b.Open=0)))=f_:=by
    rw[Qn (λh=>c1 (.inl h)),Qn (λh=>c1 (.inr h))];rfl
   have hg:Mw b=t_:=Qfy.2 ⟨hB,by omega,λh=>c1 (.inr h)⟩;have hF:=hc.fit h x hx;rw[this,show(!f_)=t_ from rfl,Qr,Qs6 (hc.fit h) (x:=⟨x.Id,x.Mode,b,x.Until⟩) hF (by omega) (Bt hc)];refine⟨_,_,_,rfl,λ_=>⟨?_,.keep ⟨x.Id,x.Mode,b,x.Until⟩ x hd hx rfl⟩,λO=>n12 O⟩;refine hc.put hc.g (x:=⟨x.Id,x.Mode,b,x.Until⟩) (Int.le_refl _) hc.n1.2 ⟨hxx.1,hxx.2.1,hxx.2.2.1,hg⟩ ⟨m1,m2⟩ ?_;have:=Qnw u1 hx;have:=Qtf (l:=c.Items) ⟨x.Id,x.Mode,b,x.Until⟩;simp only at this;omega
  simp only[Qn c0];exact⟨e,_,_,rfl,λh=>absurd h c0,λO=>n12 O⟩
 rw[Sd,Qn h0,Qe];unfold YB;rw[ND,Qn h0];exact⟨e,_,_,rfl,λh=>absurd h h0,λ_=>h12⟩
def QwN (h:QT n)(hc:Kb n c)(k:Xt)(hd:k.Do=5):∃e a v,DE ⟨n,c,k⟩=C (e,a,v)/\(e=0->Kb n v.now/\Eff n c k v.now a)/\((∀y∈c.Items,y.Id≠k.Id)->0<k.Id->k.Id<c.Next->e=12):=by
 obtain⟨e,x,hf,hx⟩:=Quk hc k;unfold DE;rw[hf,Qa,ND];rcases hx with⟨rfl,hx,hi⟩|⟨h0,O,h12⟩
 ·obtain⟨m1,m2⟩:=hc.f x hx;obtain⟨e2,v,hv,hv0⟩:=Qfz h hc k (p:=x) m1;rw[Ql rfl,show(!t_)=f_ from rfl,Qe,hv];refine⟨_,_,_,rfl,λhz=>?_,λO=>absurd hi (O x hx)⟩;obtain⟨M,g1,g2,rfl⟩:=hv0 hz;exact⟨hc.drop g2 _,.shut x M (by omega) hx (λ_=>g1) hi⟩
 simp only[Qn h0];exact⟨e,_,_,rfl,λh=>absurd h h0,λ_=>h12⟩
def QwO (H:EOk n)(O:Kb n c)(k:Xt)(hk:Xv n k.Mode)(hd:k.Do=1):∃e a v,Gm ⟨n,c,k⟩=C (e,a,v)/\(e=0->Kb n v.now/\Eff n c k v.now a):=by
 have h:=H.h;have hl:=O.len;have n1:=O.n1;have n2:=O.n2;obtain⟨r,hr,_⟩:=QaH n c.M k.Mode h (O.g.1.len h (by decide)) hk;unfold Gm;simp only;rw[hr,Qa,ND];by_cases c0:r=0
 case neg=>
  simp only[Qn c0];exact⟨r,_,_,rfl,λh=>absurd h c0⟩
 subst c0;rw[Ql rfl,show(!t_)=f_ from rfl,Qe];obtain⟨⟨M,e⟩,hT,hG⟩:=QwK h O.g hk;obtain⟨⟨need,e2⟩,hN,_⟩:=Nj n k.Mode h hk;obtain⟨t,ht,htm⟩:=QtW h (O.g.1.len h (by decide)) hk hr;obtain⟨z,hR⟩:=H.j c.M k.Mode O.g hk hr;rw[hR,Qa];cases hz:(z != 1)with
 |true=>exact⟨13,_,_,rfl,λh=>by cases h⟩
 |false=>
 rw[Qe,ht,Qa];obtain⟨q,b,hb,hb0⟩:=Qyg t.Many k.Num;rw[hb,Qa,ND];by_cases c1:q=0
 case neg=>
  simp only[Qn c1];exact⟨q,_,_,rfl,λh=>absurd h c1⟩
 subst c1;have hgb:=hb0 rfl;rw[Ql rfl,show(!t_)=f_ from rfl,Qe];by_cases c2:64<=(c.Items.length:Int)
 ·rw[Ql c2];exact⟨2,_,_,rfl,λh=>by cases h⟩
 rw[Qn c2,Qe,Sd];by_cases c3:c.Next=1099511627776
 ·rw[Ql c3];exact⟨1,_,_,rfl,λh=>by cases h⟩
 rw[Qn c3,Qe];have hA:=H.a t htm;obtain⟨u1,u2⟩:=Lm.1 O.up;have k1:∀u:Int,0<=u->(u=if 0<t.After then c.Now+t.After else 0)->∃e a v,Kr ⟨n,c,k⟩ ⟨c.Next,k.Mode,b,u⟩=C (e,a,v)/\(e=0->Kb n v.now/\Eff n c k v.now a):=λu hu he=>by
  unfold Kr;simp only;rw[hT,Qa,ND];by_cases c4:e=0
  ·subst c4;obtain⟨g1,g2,need',g3,g4⟩:=hG rfl;have hF:ZX (⟨c.Next,k.Mode,b,u⟩:Qm):=by have:=hk;unfold Xv at this;unfold ZX;simp only;omega
   rw[Ql rfl,show(!t_)=f_ from rfl,Qe,Qs6 (O.fit h) hF (by omega) (Bt O),Xb (by omega)];refine⟨_,_,_,rfl,λ_=>⟨?_,.start ⟨c.Next,k.Mode,b,u⟩ t need' M hd rfl rfl ht he g3 g4⟩⟩;refine O.put g1 (by omega) (by omega) (x:=⟨c.Next,k.Mode,b,u⟩) ⟨by show 0<c.Next;omega,by show c.Next<c.Next+1;omega,hu,hgb⟩ ⟨hk,(Qyh h (O.g.1.len h (by decide)) hk g2 g3).1⟩ ?_;have:=Qtf (l:=c.Items) ⟨c.Next,k.Mode,b,u⟩;have:=Quj c.Items c.Next;simp only at *;omega
  simp only[Qn c4];exact⟨e,_,_,rfl,λh=>absurd h c4⟩
 by_cases c5:0<t.After
 ·rw[Ql c5,Qr,Xb (by omega)];exact k1 _ (by omega) (by rw[if_pos c5])
 rw[Qn c5,Qe];exact k1 _ (by omega) (by rw[if_neg c5])
def Qtg (hu:Up L):∀i,i<=L.length->CO L i=((L.take i).filter λx=>decide (0<x.Until)).map λx=>(x.Until,x.Id)
 |0,_=>by simp[CO]|i+1,hi=>by
  have hx:L[i]? = C L[i]:=Qv (by omega);have O:∀y∈L.take i,y.Id≠L[i].Id:=λy hy e=>by
   obtain⟨j,hj,rfl⟩:=Ej.1 hy;rw[Kv]at hj;rw[Qct]at e;have:=QeD.1 hu j i (by omega) (by omega) (by omega);omega
  rw[CO,hx,Qtg hu i (by omega),JY,hx];simp only[Option.toList_some,QaT,QaU];by_cases c:0<L[i].Until
  ·rw[if_pos ⟨O,c⟩];simp[c]
  rw[if_neg λh=>c h.2];simp[c]
open Classical in
def Qnz:∀{S:L_ Ky},Srt S->∀s,s∈S.takeWhile (λs=>decide (s.1<=now))↔s∈S/\s.1<=now
 |[],_,s=>by simp|a::S,hS,s=>by
  have O:=Bu.1 hS;rw[List.takeWhile_cons];by_cases c:a.1<=now
  ·rw[if_pos (Ql c),XP,XP,Qnz O.2];constructor
   ·rintro (rfl|⟨h,k⟩)
    ·exact⟨.inl rfl,c⟩
    exact⟨.inr h,k⟩
   rintro ⟨rfl|h,k⟩
   ·exact .inl rfl
   exact .inr ⟨h,k⟩
  rw[if_neg (by simpa using c)];constructor
  ·intro h;cases h
  rintro ⟨h,k⟩;rcases XP.1 h with rfl|h
  ·exact absurd k c
  have:=O.1 s h;unfold Dq Lw at this;omega
open Classical in
def QwP (hu:Up L)(hL:L.length<=80)(now:Int):∃ds,HF L now=C ds/\ds.Nodup/\(∀d,d∈ds↔∃x∈L,x.Id=d/\0<x.Until/\x.Until<=now)/\ds.length<=L.length:=by
 have hS:Srt ((CO L L.length).mergeSort λa b=>decide (Dq a b)):=by
  have:=List.pairwise_mergeSort (le:=λa b:Ky=>decide (Dq a b)) (λa b c h k=>Ql ((Xe h).trans (Xe k))) (λa b=>by
   by_cases h:Dq a b
   ·rw[Ql h];rfl
   rw[Ql (Dq.tot h),Bool.or_true]) (CO L L.length)
  exact this.imp λh=>Xe h
 have hp:=List.mergeSort_perm (CO L L.length) λa b=>decide (Dq a b);refine⟨_,Qrd hL hS hp,?_,λd=>?_,?_⟩
 rotate_left 2
 ·unfold QbX;rw[Dx];have h1:=(List.takeWhile_sublist (λs:Ky=>decide (s.1<=now)) (l:=(CO L L.length).mergeSort λa b=>decide (Dq a b))).length_le;have h2:=hp.length_eq;have h3:=QcW L L.length;omega
 ·have O:=Qtg hu L.length (Yk _);rw[Uf]at O;have hn:((CO L L.length).map Prod.snd).Nodup:=by
   rw[O,QaW];have:(L.map λx=>x.Id).Nodup:=by
    rw[List.nodup_iff_pairwise_ne,QaY];exact(show List.Pairwise (λa b:Qm=>a.Id<b.Id) L from hu).imp λh=>by omega
   exact this.sublist (List.Sublist.map _ List.filter_sublist)
  exact((hp.map Prod.snd).nodup_iff.2 hn).sublist ((List.takeWhile_sublist _).map _)
 unfold QbX;rw[Yt];have O:=Qtg hu L.length (Yk _);rw[Uf]at O;constructor
 ·rintro ⟨s,hs,rfl⟩;obtain⟨h1,h2⟩:=(Qnz hS s).1 hs;have h3:=hp.mem_iff.1 h1;rw[O,Yt]at h3;obtain⟨x,hx,rfl⟩:=h3;rw[FP]at hx;exact⟨x,hx.1,rfl,Xe hx.2,h2⟩
 rintro ⟨x,hx,rfl,h1,h2⟩;refine⟨(x.Until,x.Id),(Qnz hS _).2 ⟨hp.mem_iff.2 ?_,h2⟩,rfl⟩;rw[O,Yt];exact⟨x,FP.2 ⟨hx,Ql h1⟩,rfl⟩
def QjZ:∀{ds:LI_} {l:L_ Qm},x∈ds.foldl dropL l↔x∈l/\x.Id ∉ ds
 |[],l=>by simp|d::ds,l=>by
  rw[List.foldl_cons,QjZ,QaK,XP,not_or];exact⟨λh=>⟨h.1.1,h.1.2,h.2⟩,λh=>⟨⟨h.1,h.2.1⟩,h.2.2⟩⟩
def Qzn (h:QT n)(hc:Kb n c)(k:Xt)(hd:k.Do=6):∃e a v,Ef ⟨n,c,k⟩=C (e,a,v)/\(e=0->Kb n v.now/\Eff n c k v.now a):=by
 have hl:=hc.len;have n2:=hc.n2;have mx:(80:Nat)<=maxLen:=by decide
 obtain⟨u1,u2⟩:=Lm.1 hc.up;unfold Ef;simp only;rw[Sd];by_cases c1:c.Now=1099511627776
 ·rw[Ql c1];exact⟨1,_,_,rfl,λh=>by cases h⟩
 rw[Qn c1,Qe,Xb (by omega)];obtain⟨ds,hds,hn,hi,hdl⟩:=QwP u1 (by omega) (c.Now+1);rw[hds,Qa];have hc1:Kb n ⟨c.M,c.Items,c.Next,c.Now+1⟩:=⟨hc.g,hc.n1,⟨by show 0<=c.Now+1;omega,by show c.Now+1<=_;omega⟩,hc.up,hc.len,hc.f⟩;have main:Qg (Qq (λst=>YS ds st.1 st.2) (0,(⟨n,⟨c.M,c.Items,c.Next,c.Now+1⟩,k⟩:QR))) λq=>(∀r,q=.inl r->r.1≠0)/\(∀r,q=.inr r->∃M,r=⟨n,⟨M,ds.foldl dropL c.Items,c.Next,c.Now+1⟩,k⟩/\Kb n r.now):=by
  refine Qg.up ds.length (λst:Int×QR=>st.1) (λst:Int×QR=>∃M,Kb n ⟨M,(ds.take st.1.toNat).foldl dropL c.Items,c.Next,c.Now+1⟩/\st.2=⟨n,⟨M,(ds.take st.1.toNat).foldl dropL c.Items,c.Next,c.Now+1⟩,k⟩) rfl ⟨c.M,hc1,rfl⟩ (λi st hi2 hn2 hJ=>?_);obtain⟨j,v⟩:=st;replace hi2:j=(i:Int):=hi2;subst hi2;obtain⟨M,O,hv⟩:=hJ;replace hv:v=⟨n,⟨M,(ds.take i).foldl dropL c.Items,c.Next,c.Now+1⟩,k⟩:=hv;replace O:Kb n ⟨M,(ds.take i).foldl dropL c.Items,c.Next,c.Now+1⟩:=O;subst hv;show Qg (YS ds i ⟨n,⟨M,(ds.take i).foldl dropL c.Items,c.Next,c.Now+1⟩,k⟩) _;unfold YS;refine T1 (λhlt=>?_) (λhlt=>T2 (Qp ⟨λr e=>(by cases e),λr e=>?_⟩))
  ·simp only[Qw]at hlt;have i1:i<ds.length:=by omega
   have hx:=Qv i1;obtain⟨x,x1,x2,_⟩:=(hi ds[i]).1 (Xc i1);have x3:x∈(ds.take i).foldl dropL c.Items:=QjZ.2 ⟨x1,λhm=>by
    rw[x2]at hm;obtain⟨j,hj,e⟩:=Ej.1 hm;rw[Kv]at hj;rw[Qct]at e;exact absurd e ((QeD.1 (List.nodup_iff_pairwise_ne.1 hn)) j i (by omega) i1 (by omega))⟩
   obtain⟨p,y,f1,f2,f3⟩:=Qfx (Bt O) x3 x2;simp only;rw[QG,hx,Qa];show Qg ((KR ((ds.take i).foldl dropL c.Items) ds[i]).bind _) _;rw[f1,Qa,QG,f2,Qa];obtain⟨m1,m2⟩:=O.f y (XB f2);obtain⟨e,v,hv,hv0⟩:=Qfz h O k (p:=y) m1;rw[hv,Qa];refine T1 (λhz=>T2 (Qp ⟨λr e=>by cases e;simpa using hz,λr e=>by cases e⟩)) (λhz=>?_);simp only[KA]at hz;obtain⟨M',g1,g2,rfl⟩:=hv0 hz;have e1:(ds.take (i+1)).foldl dropL c.Items=dropL ((ds.take i).foldl dropL c.Items) y.Id:=by
    rw[JY,hx,List.foldl_append,f3];rfl
   refine T2 (QH ⟨i1,Qo i1 (by omega),?_⟩);rw[Qo i1 (by omega)];refine⟨M',?_,?_⟩
   ·show Kb n ⟨M',(ds.take (i+1)).foldl dropL c.Items,c.Next,c.Now+1⟩;rw[e1];exact O.drop g2 _
   show(⟨n,_,k⟩:QR)=⟨n,⟨M',(ds.take (i+1)).foldl dropL c.Items,c.Next,c.Now+1⟩,k⟩;rw[e1]
  simp only[QU]at hlt;have:ds.take i=ds:=YV (by omega);rw[this]at O e;cases e;exact⟨M,rfl,O⟩
 obtain⟨q,q1,q2,q3⟩:=main;rw[q1,Qa];rcases q with r|r
 ·have:=q2 r rfl;exact⟨r.1,_,_,rfl,λh=>absurd h this⟩
 obtain⟨M,rfl,O⟩:=q3 r rfl;exact⟨0,_,_,rfl,λ_=>⟨O,.tick ds M hd hn (λd hd=>by obtain⟨x,h1,h2,_⟩:=(hi d).1 hd;exact⟨x,h1,h2⟩) hds⟩⟩
def QyG (H:EOk n)(hc:Kb n c)(k:Xt)(hk:Xv n k.Mode):∃c' a,Nd n c k=C (c',a)/\Kb n c'/\((a.Err≠0/\c'=c/\a.Id=0/\a.Closed=[])\/Eff n c k c' a)/\(2<=k.Do->k.Do<=5->(∀y∈c.Items,y.Id≠k.Id)->0<k.Id->k.Id<c.Next->a.Err=12):=by
 have h:=H.h;have hL:=QhW (hc.lens h);have hR:=Qrg h hc;unfold Nd;rw[hL,Qa];unfold FY WX;simp only[Sd];have ins:k.Do≠1->k.Do≠5->∃c' a,IL n c c k ()=C (c',a)/\Kb n c'/\((a.Err≠0/\c'=c/\a.Id=0/\a.Closed=[])\/Eff n c k c' a)/\(2<=k.Do->k.Do<=5->(∀y∈c.Items,y.Id≠k.Id)->0<k.Id->k.Id<c.Next->a.Err=12):=λhd hd5=>by
  obtain⟨e,a,v,h1,h2,h3⟩:=QtX h hc k hd hd5;unfold IL;rw[hR,Qa,show(!t_)=f_ from rfl,Qe,h1,Qa,ND];by_cases O:e=0
  ·rw[Ql O];obtain⟨g1,g2⟩:=h2 O;refine⟨_,_,rfl,g1,.inr g2,λ_ _ x1 x2 x3=>?_⟩;have:=h3 x1 x2 x3;omega
  simp only[Qn O];rw[show(!f_)=t_ from rfl,Qr,hL];exact⟨c,_,rfl,hc,.inl ⟨O,rfl,rfl,rfl⟩,λ_ _=>h3⟩
 by_cases d1:k.Do=1
 ·rw[Ql d1];show ∃c' a,IM n c c k ()=_/\_;obtain⟨e,a,v,h1,h2⟩:=QwO H hc k hk d1;unfold IM;rw[hR,Qa,show(!t_)=f_ from rfl,Qe,h1,Qa,ND];by_cases O:e=0
  ·rw[Ql O];obtain⟨g1,g2⟩:=h2 O;exact⟨_,_,rfl,g1,.inr g2,λhh=>absurd hh (by omega)⟩
  simp only[Qn O];rw[show(!f_)=t_ from rfl,Qr,hL];exact⟨c,_,rfl,hc,.inl ⟨O,rfl,rfl,rfl⟩,λhh=>absurd hh (by omega)⟩
 rw[Qn d1,Qe];by_cases d2:k.Do=2
 ·rw[Ql d2];exact ins d1 (by omega)
 rw[Qn d2,Qe];by_cases d3:k.Do=3
 ·rw[Ql d3];exact ins d1 (by omega)
 rw[Qn d3,Qe];by_cases d4:k.Do=4
 ·rw[Ql d4];exact ins d1 (by omega)
 rw[Qn d4,Qe];by_cases d5:k.Do=5
 ·rw[Ql d5];show ∃c' a,IN n c c k ()=_/\_;obtain⟨e,a,v,h1,h2,h3⟩:=QwN h hc k d5;unfold IN;rw[hR,Qa,show(!t_)=f_ from rfl,Qe,h1,Qa,ND];by_cases O:e=0
  ·rw[Ql O];obtain⟨g1,g2⟩:=h2 O;refine⟨_,_,rfl,g1,.inr g2,λ_ _ x1 x2 x3=>?_⟩;have:=h3 x1 x2 x3;omega
  simp only[Qn O];rw[show(!f_)=t_ from rfl,Qr,hL];exact⟨c,_,rfl,hc,.inl ⟨O,rfl,rfl,rfl⟩,λ_ _=>h3⟩
 rw[Qn d5,Qe];by_cases d6:k.Do=6
 ·rw[Ql d6];show ∃c' a,IP n c c k ()=_/\_;obtain⟨e,a,v,h1,h2⟩:=Qzn h hc k d6;unfold IP;rw[hR,Qa,show(!t_)=f_ from rfl,Qe,h1,Qa,ND];by_cases O:e=0
  ·rw[Ql O];obtain⟨g1,g2⟩:=h2 O;exact⟨_,_,rfl,g1,.inr g2,λ_ hh=>absurd hh (by omega)⟩
  simp only[Qn O];rw[show(!f_)=t_ from rfl,Qr,hL];exact⟨c,_,rfl,hc,.inl ⟨O,rfl,rfl,rfl⟩,λ_ hh=>absurd hh (by omega)⟩
 rw[Qn d6,Qe];show ∃c' a,IQ c ()=_/\_;unfold IQ;rw[hL];exact⟨c,_,rfl,hc,.inl ⟨by show(1:Int)≠0;omega,rfl,rfl,rfl⟩,λh1 h2=>by omega⟩
def Qzo : QbO=C t_:=by kernel_rfl
def Qvm (n1:Qc)(k2:Int)(h:Ko n1 k2=C 0):∃t,idx n1.Tasks k2=C t/\GJ t=C t_:=by
 unfold Ko at h;obtain⟨x5,_,h⟩:=QI h;rcases Xy h with⟨_,h⟩|⟨_,h⟩
 ·cases h
 obtain⟨x7,_,h⟩:=QI h;rcases Xy h with⟨c,h⟩|⟨_,h⟩
 ·simp only[Option.some.injEq]at h;rw[h]at c;cases c
 obtain⟨e9,he9,h⟩:=QI h;obtain⟨e10,he10,h⟩:=QI h;rw[he9]at he10;cases he10;obtain⟨_,_,h⟩:=QI h;obtain⟨_,_,h⟩:=QI h;obtain⟨_,_,h⟩:=QI h;obtain⟨_,_,h⟩:=QI h;obtain⟨x15,O,h⟩:=QI h;have bad:∀a b:Int,(a=-1->b≠0)->(a≠-1->a≠0)->x15=(a,b)->False:=λa b ha hb e=>by
  subst e;simp only at h;rcases Xy h with⟨c,h⟩|⟨c,h⟩
  ·simp only[beq_iff_eq]at c;simp only[Option.some.injEq]at h;exact ha c h
  simp only[beq_eq_false_iff_ne]at c;simp only[Option.some.injEq]at h;exact hb c h
 have ne:∀{x:Int},(x==0)=f_->x≠0:=λ{x} h=>by simpa using h
 unfold GU at O;obtain⟨x20,_,O⟩:=QI O;rcases Xy O with⟨_,O⟩|⟨_,O⟩
 ·exact(bad _ _ (λh=>absurd h (by decide)) (λ_=>by decide) (Option.some.inj O).symm).elim
 obtain⟨x22,_,O⟩:=QI O;rcases Xy O with⟨_,O⟩|⟨_,O⟩
 ·exact(bad _ _ (λh=>absurd h (by decide)) (λ_=>by decide) (Option.some.inj O).symm).elim
 obtain⟨x24,h24,O⟩:=QI O;rcases Xy O with⟨_,O⟩|⟨c,O⟩
 ·exact(bad _ _ (λh=>absurd h (by decide)) (λ_=>by decide) (Option.some.inj O).symm).elim
 obtain⟨x26,h26,O⟩:=QI O;unfold AM at h26;obtain⟨y,_,h26⟩:=QI h26;rw[<-Option.some.inj h26]at O;rcases Xy O with⟨c,O⟩|⟨_,O⟩
 ·exact(bad _ _ (λ_=>ne (by simpa using c)) (λh=>absurd rfl h) (Option.some.inj O).symm).elim
 obtain⟨x28,_,O⟩:=QI O;rcases Xy O with⟨_,O⟩|⟨_,O⟩
 ·exact(bad _ _ (λh=>absurd h (by decide)) (λ_=>by decide) (Option.some.inj O).symm).elim
 obtain⟨x30,_,O⟩:=QI O;rcases Xy O with⟨_,O⟩|⟨_,O⟩
 ·exact(bad _ _ (λh=>absurd h (by decide)) (λ_=>by decide) (Option.some.inj O).symm).elim
 obtain⟨x32,h32,O⟩:=QI O;unfold Ak at h32;obtain⟨y2,_,h32⟩:=QI h32;rw[<-Option.some.inj h32]at O;rcases Xy O with⟨c,O⟩|⟨_,O⟩
 ·exact(bad _ _ (λ_=>ne (by simpa using c)) (λh=>absurd rfl h) (Option.some.inj O).symm).elim
 obtain⟨x34,h34,O⟩:=QI O;unfold Al at h34;obtain⟨y3,_,h34⟩:=QI h34;rw[<-Option.some.inj h34]at O;rcases Xy O with⟨c,O⟩|⟨_,O⟩
 ·exact(bad _ _ (λ_=>ne (by simpa using c)) (λh=>absurd rfl h) (Option.some.inj O).symm).elim
 obtain⟨x36,h36,O⟩:=QI O;unfold Am at h36;obtain⟨y4,_,h36⟩:=QI h36;rw[<-Option.some.inj h36]at O;rcases Xy O with⟨c,O⟩|⟨_,O⟩
 ·exact(bad _ _ (λ_=>ne (by simpa using c)) (λh=>absurd rfl h) (Option.some.inj O).symm).elim
 obtain⟨x38,h38,O⟩:=QI O;rcases Xy O with⟨_,O⟩|⟨c,O⟩
 ·exact(bad _ _ (λh=>absurd h (by decide)) (λ_=>by decide) (Option.some.inj O).symm).elim
 unfold Hk at h38;obtain⟨z,hz,h38⟩:=QI h38;cases h38;refine⟨e9,he9,?_⟩;rw[hz];simpa using c
def QAt (m:Int×Int×Int):Prop:=(m.1=0/\m.2.1=0/\m.2.2=0)\/(1<=m.1/\m.1<=m.2.1/\m.2.1<=16/\1<=m.2.2/\m.2.2<=m.2.1)
def Qyi {t:QL}(h:GJ t=C t_):(0<=t.After/\t.After<=65536)/\QAt t.Many:=by
 unfold GJ TF at h;obtain⟨x,O,h⟩:=QI h;cases h;unfold TE at O;obtain⟨_,_,O⟩:=QI O;rcases Xy O with⟨_,O⟩|⟨_,O⟩
 case inr=>cases O
 obtain⟨_,_,O⟩:=QI O;rcases Xy O with⟨_,O⟩|⟨_,O⟩
 case inr=>cases O
 rcases Xy O with⟨c1,O⟩|⟨_,O⟩
 case inr=>cases O
 rcases Xy O with⟨c2,O⟩|⟨_,O⟩
 case inr=>cases O
 have O:=Option.some.inj O;simp only[KG,QN,Qw,beq_iff_eq]at O c1 c2;exact⟨⟨c1,c2⟩,O⟩
def QwQ (n1:Qc)(h:Xu n1){p:Vv}(O:Ex n1=C (0,p)):∀t∈n1.Tasks,GJ t=C t_:=by
 unfold Ex at O;obtain⟨x6,_,O⟩:=QI O;rcases Xy O with⟨c,O⟩|⟨_,O⟩
 ·simp only[Option.some.injEq,Prod.mk.injEq]at O;rw[O.1]at c;cases c
 obtain⟨x8,_,O⟩:=QI O;rcases Xy O with⟨c,O⟩|⟨_,O⟩
 ·simp only[Option.some.injEq,Prod.mk.injEq]at O;rw[O.1]at c;cases c
 obtain⟨x10,_,O⟩:=QI O;rcases Xy O with⟨c,O⟩|⟨_,O⟩
 ·simp only[Option.some.injEq,Prod.mk.injEq]at O;rw[O.1]at c;cases c
 obtain⟨x12,h12,O⟩:=QI O;rcases Xy O with⟨c,O⟩|⟨c,O⟩
 ·simp only[Option.some.injEq,Prod.mk.injEq]at O;rw[O.1]at c;cases c
 simp only[KA]at c;obtain⟨r,hr,hr2⟩:=Qge n1.Tasks n1 h h.2.2.1;rw[h12]at hr;cases hr;intro t ht;obtain⟨j,hj,rfl⟩:=Ej.1 ht;obtain⟨t,h1,h2⟩:=Qvm n1 j (hr2 c j hj);rw[QG,Qv hj]at h1;cases h1;exact h2
def QwR (n:Qc)(b:Int)(hn:Xu n)(h:An n b=C t_):∀t∈n.Tasks,GJ t=C t_:=by
 unfold An at h;obtain⟨_,_,h⟩:=QI h;rcases Xy h with⟨_,h⟩|⟨_,h⟩
 ·cases h
 obtain⟨m,hm,h⟩:=QI h;obtain⟨r,h,h2⟩:=QI h;cases h2;unfold OY at h;obtain⟨x,h10,h⟩:=QI h;obtain⟨y,hy,h⟩:=QI h;cases h;unfold Zk at hy;rcases Xy hy with⟨c,hy⟩|⟨_,hy⟩
 case inr=>cases hy
 subst c;replace h:=h10;unfold CC at h;obtain⟨_,_,h⟩:=QI h;obtain⟨_,_,h⟩:=QI h;rcases Xy h with⟨_,h⟩|⟨_,h⟩
 ·cases h
 obtain⟨x11,h11,h⟩:=QI h;obtain⟨x12,O,h⟩:=QI h;unfold Oc at h;rcases Xy h with⟨_,h⟩|⟨c,h⟩
 ·cases h
 unfold Oa at O;rcases Xy O with⟨_,O⟩|⟨c2,_⟩
 ·cases O;cases c
 simp only[KA]at c2;obtain⟨a,b⟩:=x11;simp only at c2;subst c2;exact QwQ n hn h11
def Qzp (n:Qc)(l:L_ Xt)(hl:l.length<=maxLen):Qg (SO l) λr=>r=t_->l.length<=24/\∀k∈l,Xv n k.Mode:=by
 unfold SO;refine T1 (λ_=>T2 λh=>by cases h) λO=>?_;simp only[QU]at O;refine T0 (P:=λq=>q=.inr ()->∀k∈l,Xv n k.Mode) ?_ λq hq=>?_
 ·refine Qg.up l.length (λst=>st) (λst=>∀(j:Nat) k,(j:Int)<st->l[j]? = C k->Xv n k.Mode) rfl (λj t hj=>by omega) (λi st hi hn2 hJ=>?_);replace hi:st=(i:Int):=hi;subst hi;show Qg (TG l i) _;unfold TG;refine T1 (λO=>?_) (λO=>T2 (Qp λ_ k hk=>?_))
  ·simp only[Qw]at O;have i1:i<l.length:=by omega
   have hx:=Qv i1;unfold QdO QdP;rw[QG,hx];simp only[Qa];have go:∀b:Bool,(b=f_->Xv n l[i].Mode)->Qg (bif b then C (Sum.inr (Sum.inl ()))else C (.inl (Qh ((i:Int)+1)))) λo=>(∀s',o=.inl s'->i<l.length/\s'=((i+1:Nat):Int)/\∀(j:Nat) k,(j:Int)<s'->l[j]? = C k->Xv n k.Mode)/\∀r:Unit⊕Unit,o=.inr r->r=.inr ()->∀k∈l,Xv n k.Mode:=λb hb=>by
    refine T1 (λ_=>T2 (Qp λe=>by cases e)) λhj=>T2 (QH (ix:=λst:Int=>st) (J:=λst:Int=>∀(j:Nat) k,(j:Int)<st->l[j]? = C k->Xv n k.Mode) ⟨i1,Qo i1 hl,λj t hj2 ht=>?_⟩);rw[Qo i1 hl]at hj2;by_cases cj:j=i
    ·subst cj;rw[hx]at ht;cases ht;exact hb hj
    exact hJ j t (by omega) ht
   by_cases c1:20<(l[i].Mode.Vars.length:Int)
   ·rw[Ql c1];exact go t_ λh=>by cases h
   rw[Qn c1,Qe];by_cases c2:20<(l[i].Mode.Ins.length:Int)
   ·rw[Ql c2];exact go t_ λh=>by cases h
   rw[Qn c2,Qe,Qa];exact go _ λh=>by simp only[QU]at h;unfold Xv;omega
  simp only[QU]at O;obtain⟨j,hj,rfl⟩:=Ej.1 hk;exact hJ j _ (by omega) (Qv hj)
 rcases q with q|q
 ·exact T2 λh=>by cases h
 exact T2 λ_=>⟨by omega,hq rfl⟩
def Qri : ∀{ds:LI_} {l:L_ Qm},Up l->ds.Nodup->(∀d∈ds,∃x∈l,x.Id=d)->(ds.foldl dropL l).length+ds.length=l.length
 |[],l,_,_,_=>rfl|d::ds,l,hu,h,hi=>by
  rw[NI]at h;obtain⟨x,hx,rfl⟩:=hi d Yc;have h1:=Qnw hu hx;have h2:=Qri (ds:=ds) (hu.drop x.Id) h.2 λe O=>by
   obtain⟨y,hy,rfl⟩:=hi e (Ys _ O);exact⟨y,QaK.2 ⟨hy,λe2=>h.1 (by rw[<-e2];exact O)⟩,rfl⟩
  rw[List.foldl_cons,WI];omega
def Qzq (h:QT n)(hc:Kb n c):Qx7 c:=by
 obtain⟨h1,O,h3,h4⟩:=hc.lens h;have mx:(100000:Nat)<=maxLen:=by decide
 refine⟨by omega,λb hb=>by have:=O b hb;omega,by omega,λx hx=>?_⟩;have:=h4 x hx;exact⟨by omega,by omega,by omega⟩
def QwS (h:Qx7 c):Pi c c=C t_:=by rw[Qvi h];exact congrArg C (@decide_eq_true _ (Classical.propDecidable _) rfl)
def XW (a:Int):Prop:=-9223372036854775808<=a/\a<=9223372036854775807
instance (a : Int):Decidable (XW a):=by unfold XW;infer_instance
def QcP (x:Int):IntKind.u64.wrap x=x % 18446744073709551616:=rfl
def Mx {x:Int}(h:0<=x/\x<18446744073709551616):IntKind.u64.wrap x=x:=by rw[QcP];omega
def Qpx {x:Int}(h:0<=x):Wd .u64 x 32=x / 4294967296:=by
 unfold Wd;rw[show min ((32:Int).toNat) (IntKind.bits .u64)=32 from rfl,Int.fdiv_eq_ediv_of_nonneg _ (by decide)];rfl
def Qvn {x:Int}(h:0<=x/\x<18446744073709551616):Eo .u64 x 4294967295=x % 4294967296:=by
 unfold Eo;have e:((BitVec.ofInt (IntKind.bits .u64) x &&& BitVec.ofInt (IntKind.bits .u64) 4294967295).toNat:Int)=x % 4294967296:=by
  rw[BitVec.toNat_and,BitVec.toNat_ofInt,BitVec.toNat_ofInt];have O:(x % ((2:Nat) ^ (IntKind.bits .u64):Nat)).toNat=x.toNat:=by
   show(x % 18446744073709551616).toNat=x.toNat;omega
  have h2:((4294967295:Int) % ((2:Nat) ^ (IntKind.bits .u64):Nat)).toNat=2 ^ 32-1:=by decide
  rw[O,h2,Nat.and_two_pow_sub_one_eq_mod];omega
 rw[e];exact Mx (by omega)
def Qpy {x y:Int}(O:0<=x/\x<=4294967295)(h:0<=y/\y<=4294967295):0<=x*y/\x*y<=18446744065119617025:=by
 refine⟨Int.mul_nonneg O.1 h.1,?_⟩;have:=Int.mul_le_mul O.2 h.2 h.1 (by decide);omega
def Qvo {x y:Int}(h:0<=x/\x<18446744073709551616)(O:0<=y/\y<18446744073709551616):ER x y=C (x*y / 18446744073709551616,x*y % 18446744073709551616):=by
 unfold ER;rw[Qpx h.1,Qpx O.1,Qvn h,Qvn O,QcP (x*y)];have e:x*y=(x / 4294967296)*(y / 4294967296)*18446744073709551616+((x / 4294967296)*(y % 4294967296)+(x % 4294967296)*(y / 4294967296))*4294967296+(x % 4294967296)*(y % 4294967296):=by
  have h1:x=(x / 4294967296)*4294967296+x % 4294967296:=by omega
  have h2:y=(y / 4294967296)*4294967296+y % 4294967296:=by omega
  generalize x / 4294967296=a at *;generalize x % 4294967296=b at *;generalize y / 4294967296=c at *;generalize y % 4294967296=d at *;subst h1 h2
  grind
 rw[e];have b1:=Qpy (x:=x / 4294967296) (y:=y / 4294967296) (by omega) (by omega);have b2:=Qpy (x:=x / 4294967296) (y:=y % 4294967296) (by omega) (by omega);have b3:=Qpy (x:=x % 4294967296) (y:=y / 4294967296) (by omega) (by omega);have b4:=Qpy (x:=x % 4294967296) (y:=y % 4294967296) (by omega) (by omega);generalize x / 4294967296*(y / 4294967296)=p at *;generalize x / 4294967296*(y % 4294967296)=q at *;generalize x % 4294967296*(y / 4294967296)=r at *;generalize x % 4294967296*(y % 4294967296)=s at *;rw[Mx (x:=s) (by omega),Qpx (x:=s) (by omega),Mx (x:=q) (by omega),Mx (x:=q+s / 4294967296) (by omega),Qpx (x:=q+s / 4294967296) (by omega),Qvn (x:=q+s / 4294967296) (by omega),Mx (x:=r) (by omega),Mx (x:=p) (by omega),
  Mx (x:=(q+s / 4294967296) % 4294967296+r) (by omega),Qpx (x:=(q+s / 4294967296) % 4294967296+r) (by omega),Mx (x:=p+(q+s / 4294967296) / 4294967296) (by omega),Mx (by omega)]
 congr 2;omega
def UN (a:Int):Int:=if a<0 then -a else a
def Qrj (h:XW a):Hz a=C (UN a):=by
 unfold Hz UN XW at *;by_cases c:a<0
 ·rw[Ql c,Qr,if_pos c,QcP,QcP];congr 1;omega
 rw[Qn c,Qe,if_neg c,QcP];congr 1;omega
def Qul (a b:Int):UN a*UN b=UN (a*b):=by
 unfold UN;by_cases h:a<0<;>by_cases O:b<0
 ·rw[if_pos h,if_pos O,if_neg (by have:=Int.mul_pos_of_neg_of_neg h O;omega),Int.neg_mul_neg]
 ·rw[if_pos h,if_neg O];by_cases c3:b=0
  ·subst c3;simp
  rw[if_pos (Int.mul_neg_of_neg_of_pos h (by omega)),Int.neg_mul]
 ·rw[if_neg h,if_pos O];by_cases c3:a=0
  ·subst c3;simp
  rw[if_pos (Int.mul_neg_of_pos_of_neg (by omega) O),Int.mul_neg]
 rw[if_neg h,if_neg O,if_neg (by have:=Int.mul_nonneg (show 0<=a by omega) (show 0<=b by omega);omega)]
def QaM (a b:Int):Int×Int:=if XW (a*b)then(a*b,0)else(0,6)
def Qj0 (ha:XW a)(hb:XW b):Cc a b=C (QaM a b):=by
 unfold Cc;have h1:0<=UN a/\UN a<=9223372036854775808:=by unfold UN XW at *;split<;>omega
 have h2:0<=UN b/\UN b<=9223372036854775808:=by unfold UN XW at *;split<;>omega
 have h3:0<=UN a*UN b:=Int.mul_nonneg h1.1 h2.1;rw[Qrj ha,Qa,Qrj hb,Qa,Qvo (by omega) (by omega),Qa];rw[Qul]at h3 ⊢;have sg:(decide (a<0) != decide (b<0))=t_\/(decide (a<0) != decide (b<0))=f_:=by cases (decide (a<0) != decide (b<0))<;>simp
 have hsg:(decide (a<0) != decide (b<0))=t_->a*b<=0:=λh=>by
  by_cases c1:a<0<;>by_cases c2:b<0<;>simp[c1,c2]at h
  ·exact Int.mul_nonpos_of_nonpos_of_nonneg (by omega) (by omega)
  exact Int.mul_nonpos_of_nonneg_of_nonpos (by omega) (by omega)
 have hsg2:(decide (a<0) != decide (b<0))=f_->0<=a*b:=λh=>by
  by_cases c1:a<0<;>by_cases c2:b<0<;>simp[c1,c2]at h
  ·have:=Int.mul_pos_of_neg_of_neg c1 c2;omega
  exact Int.mul_nonneg (by omega) (by omega)
 have hw:XW (a*b)->Qh (a*b)=a*b:=λh=>Xb h;generalize hm:a*b=m at *;unfold QaM;rw[hm];unfold UN at h3 ⊢;rcases sg with c|c
 ·rw[c,Qr];have:=hsg c;unfold DV;rw[hm,QcP];simp only;by_cases O:XW m
  ·rw[if_pos O,hw O];unfold XW at O;rw[Qn (by split<;>omega),Qn (by split<;>omega)];rfl
  rw[if_neg O];have:decide (0<(if m<0 then -m else m) / 18446744073709551616)=t_\/decide ((9223372036854775807+1) % 18446744073709551616<(if m<0 then -m else m) % 18446744073709551616)=t_:=by
   unfold XW at O;rw[Qw,Qw];split<;>omega
  rcases this with h|h
  ·rw[h];rfl
  rw[h,Bool.or_true];rfl
 rw[c,Qe];have:=hsg2 c;unfold DV;rw[hm];simp only;by_cases O:XW m
 ·rw[if_pos O,hw O];unfold XW at O;rw[Qn (by split<;>omega),Qn (by split<;>omega)];rfl
 rw[if_neg O];have:decide (0<(if m<0 then -m else m) / 18446744073709551616)=t_\/decide ((9223372036854775807:Int)<(if m<0 then -m else m) % 18446744073709551616)=t_:=by
  unfold XW at O;rw[Qw,Qw];split<;>omega
 rcases this with h|h
 ·rw[h];rfl
 rw[h,Bool.or_true];rfl
def Qth (a b:Int):Int×Int:=if XW (a+b)then(a+b,0)else(0,6)
def Qyj (ha:XW a)(hb:XW b):LF a b=C (Qth a b):=by
 unfold LF Qth;by_cases ci:XW (a+b)
 ·rw[if_pos ci,Xb ci];have:((decide (a<0)==decide (b<0))&&(decide (a+b<0) != decide (a<0)))=f_:=by
   by_cases h:a<0<;>by_cases O:b<0<;>simp[h,O]<;>omega
  rw[this];rfl
 rw[if_neg ci];have hw:Qh (a+b)=if a+b<0 then a+b+18446744073709551616 else a+b-18446744073709551616:=by
  rw[QaE];unfold wrap64 XW at *;split<;>omega
 have:((decide (a<0)==decide (b<0))&&(decide (Qh (a+b)<0) != decide (a<0)))=t_:=by
  rw[hw];unfold XW at *;by_cases h:a<0<;>by_cases O:b<0<;>by_cases c3:a+b<0<;>simp[h,O,c3]<;>omega
 rw[this];rfl
def QAu (h:XW a)(O:XW b):KD 3 a b=C (QaM a b):=by
 unfold KD;rw[show((3:Int)==1)=f_ from rfl,Qe,show((3:Int)==2)=f_ from rfl,Qe,show((3:Int)==3)=t_ from rfl,Qr,Qj0 h O];rfl
def QAv (h:XW a)(O:XW b):KD 1 a b=C (Qth a b):=by
 unfold KD;rw[show((1:Int)==1)=t_ from rfl,Qr,Qyj h O];rfl
def Qzr (O:XW a)(hb:XW b):GK 1 a b=C (Qth a b):=by
 unfold GK;show(Qa8 a b).bind _=_;unfold Qa8 Qth;have h:(bif (decide (0<b))then((decide ((Qh (9223372036854775807-b))<a))||((decide (b<0))&&(decide (a<(Qh ((-9223372036854775808)-b))))))else((decide (b<0))&&(decide (a<(Qh ((-9223372036854775808)-b))))))=decide (¬XW (a+b)):=by
  unfold XW at *;by_cases b1:0<b
  ·rw[Ql b1,Qr,Qn (by omega:¬b<0),QaP,Vk,Xb (by omega)];exact decide_eq_decide.2 (by omega)
  rw[Qn b1,Qe];by_cases b2:b<0
  ·rw[Ql b2,QaQ,Xb (by omega)];exact decide_eq_decide.2 (by omega)
  rw[Qn b2,QaP,eq_comm,QU];omega
 rw[h];by_cases c:XW (a+b)
 ·rw[Qn (by simpa using c),Qe,Xb c,if_pos c];rfl
 rw[Ql c,Qr,if_neg c];rfl
def QwT {x y:Int}(hx:0<=x/\x<=9223372036854775807)(hy:0<y/\y<=9223372036854775807)(ha:x=UN a)(hb:y=UN b)(ha0:a≠0):(Lb x a b y).bind (λx16=>FF x16.1 x16.2)=C (QaM a b):=by
 have hm:x*y=UN (a*b):=by rw[ha,hb,Qul]
 unfold Lb;rw[BO (by simpa using (by omega:y≠0)),Qa,Int.tdiv_eq_ediv_of_nonneg (by decide)];have d1:0<=9223372036854775807 / y:=Int.ediv_nonneg (by decide) (by omega);have d2:9223372036854775807 / y<=9223372036854775807:=Int.ediv_le_self _ (by decide);rw[Xb (by omega)];have le1:x<=9223372036854775807 / y↔x*y<=9223372036854775807:=Int.le_ediv_iff_mul_le hy.1;by_cases c:x<=9223372036854775807 / y
 ·have:=le1.1 c;have hin:XW (a*b):=by unfold XW UN at *;split at hm<;>omega
  rw[Ql c,Qr,Xb hin];unfold QaM;rw[if_pos hin];rfl
 have:=λh=>c (le1.2 h);rw[Qn c,Qe];unfold QgF;have sg:(bif (decide (a<0))then((decide (0<b))||((decide (0<a))&&(decide (b<0))))else((decide (0<a))&&(decide (b<0))))=decide (a*b<0):=by
  have hb0:b≠0:=by intro h;subst h;unfold UN at hb;simp at hb;omega
  by_cases c1:a<0<;>by_cases c2:b<0
  ·have:=Int.mul_pos_of_neg_of_neg c1 c2;rw[Ql c1,Qn (by omega:¬0<b),Qn (by omega:¬0<a),Qn (by omega:¬a*b<0)];rfl
  ·have:=Int.mul_neg_of_neg_of_pos c1 (by omega:0<b);rw[Ql c1,Ql (by omega:0<b),Ql this];rfl
  ·have:=Int.mul_neg_of_pos_of_neg (by omega:0<a) c2;rw[Qn c1,Ql (by omega:0<a),Ql c2,Ql this];rfl
  have:=Int.mul_nonneg (by omega:0<=a) (by omega:0<=b);rw[Qn c1,Qn c2,Qn (by omega:¬a*b<0),Bool.and_false];rfl
 rw[sg];by_cases c3:a*b<0
 ·rw[Ql c3,Qr,BO (by simpa using (by omega:y≠0)),Qa,Xb (by omega:-9223372036854775808<=y-1/\y-1<=9223372036854775807),Xb (by omega:-9223372036854775808<=9223372036854775807-(y-1)/\9223372036854775807-(y-1)<=9223372036854775807),Xb (by omega:-9223372036854775808<=x-1/\x-1<=9223372036854775807),Int.tdiv_eq_ediv_of_nonneg (by omega)];have d3:0<=(9223372036854775807-(y-1)) / y:=Int.ediv_nonneg (by omega) (by omega);have d4:(9223372036854775807-(y-1)) / y<=9223372036854775807-(y-1):=Int.ediv_le_self _ (by omega);rw[Xb (by omega)];have O:x-1<=(9223372036854775807-(y-1)) / y↔(x-1)*y<=9223372036854775807-(y-1):=Int.le_ediv_iff_mul_le hy.1;have e3:(x-1)*y=x*y-y:=by rw[Int.sub_mul,Int.one_mul]
  rw[e3]at O;unfold UN at hm;rw[if_pos c3]at hm;unfold QaM;by_cases c4:x-1<=(9223372036854775807-(y-1)) / y
  ·have h4:=O.1 c4;have e4:x*y=9223372036854775808:=by omega
   rw[Ql c4,Qr,e4,if_pos (by unfold XW;omega),show a*b=-9223372036854775808 by omega];rfl
  have h4:=λh=>c4 (O.2 h);rw[Qn c4,Qe,if_neg (by unfold XW;omega)];rfl
 rw[Qn c3,Qe];unfold UN at hm;rw[if_neg c3]at hm;unfold QaM;rw[if_neg (by unfold XW;omega)];rfl
def Qzs (ha:XW a)(hb:XW b):GK 3 a b=C (QaM a b):=by
 unfold GK;show(Qba a b).bind _=_;unfold Qba;by_cases z:a=0\/b=0
 ·rw[show((a==0)||(b==0))=t_ by simpa using z,Qr];have:a*b=0:=Int.mul_eq_zero.2 z;unfold QaM;rw[this];rfl
 rw[show((a==0)||(b==0))=f_ by simpa using z,Qe];simp only[not_or]at z;by_cases m:a=-9223372036854775808\/b=-9223372036854775808
 ·rw[show((a==(-9223372036854775808))||(b==(-9223372036854775808)))=t_ by simpa using m,Qr];by_cases o:a=1\/b=1
  ·rw[show((a==1)||(b==1))=t_ by simpa using o,Qr];have h:XW (a*b):=by
    rcases o with rfl|rfl
    ·rwa[Int.one_mul]
    rwa[Int.mul_one]
   rw[Xb h];unfold QaM;rw[if_pos h];rfl
  rw[show((a==1)||(b==1))=f_ by simpa using o,Qe];simp only[not_or]at o;have h:¬XW (a*b):=by
   unfold XW;rcases m with rfl|rfl
   ·omega
   omega
  unfold QaM;rw[if_neg h];rfl
 rw[show((a==(-9223372036854775808))||(b==(-9223372036854775808)))=f_ by simpa using m,Qe];simp only[not_or]at m;unfold XW at ha hb;have k4:∀x,0<=x/\x<=9223372036854775807->x=UN a->(Lc b a x).bind (λO=>FF O.1 O.2)=C (QaM a b):=λx hx he=>by
  unfold Lc;by_cases c:b<0
  ·rw[Ql c,Qr,Xb (by omega)];exact QwT hx (by omega) he (by unfold UN;rw[if_pos c];omega) z.1
  rw[Qn c,Qe];exact QwT hx (by omega) he (by unfold UN;rw[if_neg c]) z.1
 by_cases c:a<0
 ·rw[Ql c,Qr,Xb (by omega)];exact k4 _ (by omega) (by unfold UN;rw[if_pos c];omega)
 rw[Qn c,Qe];exact k4 _ (by omega) (by unfold UN;rw[if_neg c])
def eqO {o p:O_ QLL}(h:decide (o=p)=t_):o=p:=Xe h
set_option maxRecDepth 100000 in
def Qek (O h:Int):EN O h=Ju O h:=by
 by_cases hg:((decide (h<0))||((decide (16<h))||((O==3)&&(decide (4<h)))))=t_
 ·unfold Ju EN;rw[hg,Qr,Qr]
 have hg':=hg;simp only[KG,QN,Qw,beq_iff_eq,not_or,not_and]at hg;obtain⟨h0,h1,h2⟩:=hg;by_cases e1:O=1
 ·subst e1;rcases Qs1 h0 h1 with rfl|rfl|rfl|rfl|rfl|rfl|rfl|rfl|rfl|rfl|rfl|rfl|rfl|rfl|rfl|rfl|rfl<;>exact eqO (by kernel_rfl)
 by_cases e2:O=2
 ·subst e2;rcases Qs1 h0 h1 with rfl|rfl|rfl|rfl|rfl|rfl|rfl|rfl|rfl|rfl|rfl|rfl|rfl|rfl|rfl|rfl|rfl<;>exact eqO (by kernel_rfl)
 by_cases e3:O=3
 ·subst e3;have h3:=h2 rfl;have:h=0\/h=1\/h=2\/h=3\/h=4:=by omega
  rcases this with rfl|rfl|rfl|rfl|rfl<;>exact eqO (by kernel_rfl)
 have f1:(O==1)=f_:=by simpa using e1
 have f2:(O==2)=f_:=by simpa using e2
 have f3:(O==3)=f_:=by simpa using e3
 have t0:∃l,Qq (λst=>Qby h st.1 st.2) (0,([]:LI_))=C l:=by
  rcases Qs1 h0 h1 with rfl|rfl|rfl|rfl|rfl|rfl|rfl|rfl|rfl|rfl|rfl|rfl|rfl|rfl|rfl|rfl|rfl<;>exact Option.isSome_iff_exists.1 (by kernel_rfl)
 obtain⟨l,hl⟩:=t0;rw[Lz]at hg';unfold Ju EN;rw[hg',Qe,Qe,hl,Qa];unfold ZR;rw[f1,f2,f3];rfl
def Qzt (ha:XW a)(hb:XW b):GK 2 a b=KD 2 a b:=by
 unfold GK KD;show(Qa9 a b).bind _=(DU a b).bind _;unfold Qa9 DU;have h:(bif (decide (b<0))then((decide ((Qh (9223372036854775807+b))<a))||((decide (0<b))&&(decide (a<(Qh ((-9223372036854775808)+b))))))else((decide (0<b))&&(decide (a<(Qh ((-9223372036854775808)+b))))))=decide (¬XW (a-b)):=by
  unfold XW at *;by_cases b1:b<0
  ·rw[Ql b1,Qr,Qn (by omega:¬0<b),QaP,Vk,Xb (by omega)];exact decide_eq_decide.2 (by omega)
  rw[Qn b1,Qe];by_cases b2:0<b
  ·rw[Ql b2,QaQ,Xb (by omega)];exact decide_eq_decide.2 (by omega)
  rw[Qn b2,QaP,eq_comm,QU];omega
 have O:(((decide (a<0)) != (decide (b<0)))&&((decide ((Qh (a-b))<0)) != (decide (a<0))))=decide (¬XW (a-b)):=by
  have e:Qh (a-b)=wrap64 (a-b):=QaE _;rw[e];unfold wrap64 XW at *;apply HN.2;simp only[QN,bne_iff_ne,ne_eq,decide_eq_decide,Qw];omega
 rw[h,O];by_cases c:XW (a-b)
 ·rw[Qn (by simpa using c),Qe,Qe];rfl
 rw[Ql c,Qr,Qr];rfl
def QwU {op:Int}(h:XW a)(O:XW b):GK op a b=KD op a b:=by
 by_cases h1:op=1
 ·subst h1;rw[Qzr h O,QAv h O]
 by_cases h2:op=2
 ·subst h2;exact Qzt h O
 by_cases h3:op=3
 ·subst h3;rw[Qzs h O,QAu h O]
 unfold GK KD;have b1:(op==1)=f_:=by simpa using h1
 have b2:(op==2)=f_:=by simpa using h2
 have b3:(op==3)=f_:=by simpa using h3
 have y:∀c:Bool,Ey c=C (bif c then 1 else 0)/\KK c=C (bif c then 1 else 0,0):=λc=>by cases c<;>exact⟨rfl,rfl⟩
 rw[b1,b2,b3];simp only[Qe];by_cases h4:op=4
 ·subst h4;unfold FG WL;rw[show((4:Int)==4)=t_ from rfl,Qr,Qr,Qr];by_cases c:b=0
  ·subst c;rfl
  rw[show(b==0)=f_ by simpa using c,Qe,Qe,BO (by simpa using c)];cases ((a==(-9223372036854775808))&&(b==(-1)))<;>rfl
 by_cases h5:op=5
 ·subst h5;unfold FG WL;rw[show((5:Int)==4)=f_ from rfl,show((5:Int)==5)=t_ from rfl,Qe,Qr,Qr,Qe,Qe];by_cases c:b=0
  ·subst c;rfl
  rw[show(b==0)=f_ by simpa using c,Qe,Qe,BO (by simpa using c)];cases ((a==(-9223372036854775808))&&(b==(-1)))<;>rfl
 have b4:(op==4)=f_:=by simpa using h4
 have b5:(op==5)=f_:=by simpa using h5
 rw[b4,b5];unfold FG Qic Qid Qie Qif VI Qdl VJ Qdm;simp only[Qe,λc=>(y c).1,λc=>(y c).2,Qa];cases (op==6)<;>cases (op==7)<;>cases (op==8)<;>cases (op==9)<;>cases (op==10)<;>cases (op==11)<;>cases (a != 0)<;>rfl
def Qsf (x:Int):XW (Qh x):=by
 have e:Qh x=wrap64 x:=QaE _;rw[e];unfold wrap64 XW;omega
def QyH {op:Int}(ha:XW a)(hb:XW b){r:Int×Int}(h:KD op a b=C r):XW r.1:=by
 have z:XW 0:=by unfold XW;omega
 have o:XW 1:=by unfold XW;omega
 have y:∀c:Bool,∃n,KK c=C (n,0)/\XW n:=λc=>by cases c;exact⟨0,rfl,z⟩;exact⟨1,rfl,o⟩
 have yy:∀(c:Bool) {r:Int×Int},((KK c).bind λx=>C (x.1,x.2))=C r->XW r.1:=λc r h=>by
  obtain⟨n,e,hn⟩:=y c;rw[e]at h;cases h;exact hn
 have tm:XW (Int.tmod a b):=by
  by_cases hb0:b=0
  ·subst hb0;rw[Int.tmod_zero];exact ha
  unfold XW at *;have h2:(Int.tmod a b).natAbs<b.natAbs:=by rw[Int.natAbs_tmod];exact Nat.mod_lt _ (by omega)
  omega
 have q:∀{r:Int×Int×Int},WL a b=C r->XW r.1/\XW r.2.1:=λ{r} h=>by
  unfold WL at h;rcases Xy h with⟨_,h⟩|⟨_,h⟩
  ·cases h;exact⟨z,z⟩
  rcases Xy h with⟨_,h⟩|⟨_,h⟩
  ·cases h;exact⟨z,z⟩
  obtain⟨_,_,h⟩:=QI h;obtain⟨_,_,h⟩:=QI h;cases h;exact⟨Qsf _,tm⟩
 unfold KD at h;rcases Xy h with⟨_,h⟩|⟨_,h⟩
 ·obtain⟨x,O,h⟩:=QI h;cases h;unfold LF at O;rcases Xy O with⟨_,h⟩|⟨_,h⟩<;>cases h
  ·exact z
  exact Qsf _
 rcases Xy h with⟨_,h⟩|⟨_,h⟩
 ·obtain⟨x,O,h⟩:=QI h;cases h;unfold DU at O;rcases Xy O with⟨_,h⟩|⟨_,h⟩<;>cases h
  ·exact z
  exact Qsf _
 rcases Xy h with⟨_,h⟩|⟨_,h⟩
 ·obtain⟨x,O,h⟩:=QI h;cases h;rw[Qj0 ha hb]at O;unfold QaM at O;split at O<;>cases O
  ·assumption
  exact z
 rcases Xy h with⟨_,h⟩|⟨_,h⟩
 ·obtain⟨x,O,h⟩:=QI h;cases h;exact(q O).1
 rcases Xy h with⟨_,h⟩|⟨_,h⟩
 ·obtain⟨x,O,h⟩:=QI h;cases h;exact(q O).2
 iterate 4
  rcases Xy h with⟨_,h⟩|⟨_,h⟩
  ·exact yy _ h
 rcases Xy h with⟨_,h⟩|⟨_,h⟩
 ·obtain⟨x,O,h⟩:=QI h;cases h;unfold VI at O;rcases Xy O with⟨_,h⟩|⟨_,h⟩<;>exact yy _ h
 rcases Xy h with⟨_,h⟩|⟨_,h⟩
 ·obtain⟨x,O,h⟩:=QI h;cases h;unfold VJ at O;rcases Xy O with⟨_,h⟩|⟨_,h⟩<;>exact yy _ h
 cases h;exact z
def QwV {α:Type}{l:L_ α}(p:α->Bool){body:Int->O_ (Int⊕(Int⊕Unit))}(O:∀(i:Nat) x,i<l.length->l[i]? = C x->body (i:Int)=C (bif p x then .inr (.inl (i:Int))else .inl ((i+1:Nat):Int)))(h:body (l.length:Int)=C (.inr (.inr ()))):
  Qq body 0=C ((KM (λ_ x=>p x) 0 l).elim (Sum.inr ()) λi=>Sum.inl (i:Int)):=
 QbC (λi:Nat=>(i:Int)) (λ_ x=>p x) (λi=>Sum.inl (i:Int)) (Sum.inr ()) O h rfl
def QyI {α:Type}(p:α->Bool)(l:L_ α):decide (0<=(KM (λ_ x=>p x) 0 l).elim (-1:Int) λi=>(i:Int))=l.any p:=by
 cases h:KM (λ_ x=>p x) 0 l with
 |none=>
  have:=Qo6 h;symm;rw[show decide ((0:Int)<=(none:O_ Nat).elim (-1:Int) λi=>(i:Int))=f_ from rfl,List.any_eq_false];intro x hx;obtain⟨i,hi⟩:=NH.1 hx;simpa using this i x hi
 |some n=>
  obtain⟨i,x,h1,O,h3⟩:=QcL h;symm;rw[show decide ((0:Int)<=(C n).elim (-1:Int) λi=>(i:Int))=t_ from Ql (Int.natCast_nonneg n),Aw];exact⟨x,XB O,h3⟩
def Qum {α:Type}(f:α->Bool):∀(l:L_ α) (k:Nat) (t:Bool),UW (λ(_:Nat) (t:Bool) x=>(bif t then .inl (f x)else .inr t:Bool⊕Bool)) (λt=>t) k t l=(t&&l.all f)
 |[],_,t=>by simp[UW]|x::l,k,t=>by
  rw[UW];cases t with|true=>rw[Qr,Sum.elim_inl,Qum f l];simp|false=>rfl
def Qvp (n:Nat)(e:Qs):EL n e=WB n e:=by
 have:∀n,EL n=WB n:=λn=>by
  induction n with
  |zero=>rfl|succ n h=>
   funext e;show Zp (EL n) e=PG (WB n) e;rw[h];rfl
 rw[this]
def QwW (n:Nat)(e:Qs):UG n e=Du n e:=by
 have:∀n,UG n=Du n:=λn=>by
  induction n with
  |zero=>rfl|succ n h=>
   funext e;show Qaw (UG n) e=SG (Du n) e;rw[h];rfl
 rw[this]
def Qvq {O:Qs->Int->O_ Bool}{p:Qs->Bool}(hl:e.Kids.length<=maxLen)(h:∀k∈e.Kids,O k v=C (p k))(ok:Bool):Wp e O v ok=C (ok&&e.Kids.all p):=by
 unfold Wp;rw[Pj (body:=λst=>UH e O v st.1 st.2) (l:=e.Kids) (λi (t:Bool)=>(t,(i:Int))) (λ_ t x=>bif t then .inl (p x)else .inr t) (λt=>t) (λi t x hi hx=>by
  show UH e O v t (i:Int)=_;unfold UH;rw[Ql (by omega),QaQ];cases t with
  |false=>rfl|true=>rw[Qr,QG,hx,Qa,h x (XB hx),Qa,Qo hi hl];rfl) (λt=>by
  show UH e O v t (e.Kids.length:Int)=_;unfold UH;rw[Qn (by omega),QaP];rfl) ok (s0:=(ok,0)) rfl,Qum]
 rfl
def QwX {l:L_ Qs}{O:Qs->Int->O_ Bool}{p:Qs->Bool}(hl:l.length<=maxLen)(h:∀k∈l,O k v=C (p k)):Ya O l v=C (!(l.all p)):=by
 unfold Ya Kk;rw[QwV (l:=l) (λk=>!p k) (λi x hi hx=>by
  show XZ l O v i=_;unfold XZ PH;rw[Ql (by omega),Qr,QG,hx,Qa,h x (XB hx),Qa,Qa,Qo hi hl];cases p x<;>rfl) (by
  show XZ l O v l.length=_;unfold XZ;rw[Qn (by omega),Qe])]
 have e:(!(l.all p))=l.any λk=>!p k:=by rw[List.all_eq_not_any_not,Bool.not_not]
 rw[e,<-QyI];cases KM (λ_ k=>!p k) 0 l<;>rfl
def Qpz : ∀(n:Nat) (e:Qs) (v:Int),WZ e->SizeOf.sizeOf e<=n->EM n e v=Jt n e v
 |0,e,_,_,h=>absurd e.pos (by omega)|n+1,e,v,he,h=>by
  have hkl:=(Dp he).1;have tot:∀k∈e.Kids,Jt n k v=C ((Jt n k v).getD f_):=λk hk=>by
   obtain⟨r,hr,_⟩:=TT n k v ((Dp he).2 k hk) (by have:=QbD hk;omega);rw[hr];rfl
  have tot2:∀k∈e.Kids,EM n k v=C ((Jt n k v).getD f_):=λk hk=>by
   rw[Qpz n k v ((Dp he).2 k hk) (by have:=QbD hk;omega)];exact tot k hk
  show Oo (EM n) e v=Iv (Jt n) e v;have k3:=Qvq hkl tot2;generalize hp:(λk=>(Jt n k v).getD f_)=p at *;have c3:Ya (Jt n) e.Kids v=C (!(e.Kids.all p)):=QwX hkl λk hk=>by rw[<-hp];exact tot k hk
  unfold Oo Mh Qd1 Qd2 Iv VD VE QbT ON Si Cb Ca;rw[c3];simp only[k3,Qa];by_cases h1:e.Kind=1
  ·simp only[h1,show((1:Int)==1)=t_ from rfl,show((1:Int)==2)=f_ from rfl,show((1:Int)==5)=f_ from rfl,Qr,Qe,Qa,QaP];by_cases c:(e.Kids.length:Int)=0
   ·rw[show((e.Kids.length:Int)==0)=t_ by simpa using c,show((e.Kids.length:Int) != 0)=f_ by simpa using c];simp
   rw[show((e.Kids.length:Int)==0)=f_ by simpa using c,show((e.Kids.length:Int) != 0)=t_ by simpa using c];rfl
  by_cases h2:e.Kind=2
  ·simp only[h2,show((2:Int)==1)=f_ from rfl,show((2:Int)==2)=t_ from rfl,show((2:Int)==5)=f_ from rfl,Qr,Qe,Qa,QaQ];by_cases c:(e.Kids.length:Int)=0
   ·rw[show((e.Kids.length:Int)==0)=t_ by simpa using c,show((e.Kids.length:Int) != 0)=f_ by simpa using c];by_cases d:0<=e.Num
    ·by_cases f:e.Num<v
     ·rw[Ql d,Ql f,Qn (by omega:¬e.Num<0),Qn (by omega:¬v<=e.Num)];simp
     rw[Ql d,Qn f,Qn (by omega:¬e.Num<0),Ql (by omega:v<=e.Num)];simp
    rw[Qn d,Ql (by omega:e.Num<0)];simp
   rw[show((e.Kids.length:Int)==0)=f_ by simpa using c,show((e.Kids.length:Int) != 0)=t_ by simpa using c];simp
  have b1:(e.Kind==1)=f_:=by simpa using h1
  have b2:(e.Kind==2)=f_:=by simpa using h2
  simp only[b1,b2,Qe,QaP];have O:∀(m:Int) (q:Bool),((bif ((e.Kids.length:Int) != m)then C f_ else(bif q then C f_ else C (!(!(e.Kids.all p))))):O_ Bool)=C ((((e.Kids.length:Int)==m)&&!q)&&e.Kids.all p):=λm q=>by
   by_cases c:(e.Kids.length:Int)=m
   ·rw[show((e.Kids.length:Int)==m)=t_ by simpa using c,show((e.Kids.length:Int) != m)=f_ by simpa using c];cases q<;>simp
   rw[show((e.Kids.length:Int)==m)=f_ by simpa using c,show((e.Kids.length:Int) != m)=t_ by simpa using c];rfl
  have neg:((e.Kids.length:Int) != -1)=t_:=by simp
  by_cases h3:e.Kind=3
  ·have:=O 1 f_;simp only[h3,show((3:Int)==3)=t_ from rfl,show((3:Int)==5)=f_ from rfl,Qr,Qe,Qa]at this ⊢;rw[this];simp
  by_cases h4:e.Kind=4
  ·have:=O 1 f_;simp only[h4,show((4:Int)==3)=f_ from rfl,show((4:Int)==4)=t_ from rfl,show((4:Int)==5)=f_ from rfl,Qr,Qe,Qa]at this ⊢;rw[this];simp
  have b3:(e.Kind==3)=f_:=by simpa using h3
  have b4:(e.Kind==4)=f_:=by simpa using h4
  simp only[b3,b4,Qe];by_cases h5:e.Kind=5
  ·have:=O 2 (!((decide (1<=e.Num))&&(decide (e.Num<=11))));simp only[h5,show((5:Int)==5)=t_ from rfl,Qr,Qe,Qa]at this ⊢;rw[this];cases ((e.Kids.length:Int)==2)<;>simp
  have b5:(e.Kind==5)=f_:=by simpa using h5
  simp only[b5,Qe];by_cases h6:e.Kind=6
  ·have:=O 3 f_;simp only[h6,show((6:Int)==6)=t_ from rfl,Qr,Qe,Qa]at this ⊢;rw[this];simp
  have b6:(e.Kind==6)=f_:=by simpa using h6
  simp only[b6,Qe,Qa,neg,Qr,QaP]
def Qvr (e:Qs)(v:Int)(h:WZ e):SV e v=Ac e v:=by
 unfold SV Ac Qd3 VG QbS VC Qd0 Qa4 QbU VF;rw[Qvp,QwW,Qpz _ e v h (Yk _)]
 all_goals rfl
inductive RE : Qs->Prop where
 |mk (e:Qs):XW e.Num->(∀k∈e.Kids,RE k)->RE e
def Qrk : ∀(n:Nat) (v:LI_) (e:Qs),POk v.length e->RE e->(∀x∈v,XW x)->SizeOf.sizeOf e<=n->∃r,XU n v e=C r/\UI n e v=C r/\XW r.1
 |0,_,e,_,_,_,h=>absurd e.pos (by omega)|n+1,v,e,he,hr,hv,h=>by
  cases he with
  |mk _ hk h2 h3 h5 h6 hp=>
  cases hr with
  |mk _ hnum hkr=>
  have z:XW 0:=by unfold XW;omega
  have o:XW 1:=by unfold XW;omega
  have sub:∀(j:Nat) (hj:j<e.Kids.length),∃r,XU n v (e.Kids[j])=C r/\UI n (e.Kids[j]) v=C r/\XW r.1:=λj hj=>
   Qrk n v _ (hp _ (Xc hj)) (hkr _ (Xc hj)) hv (by have:=QbD (Xc hj);omega)
  have kid:∀(j:Nat) (hj:j<e.Kids.length),idx e.Kids (j:Int)=C e.Kids[j]:=λj hj=>by rw[QG,Qv hj]
  show ∃r,Bm (XU n) v e=C r/\Re (UI n) e v=C r/\XW r.1;unfold Bm Re WK Wa;by_cases k1:e.Kind=1
  ·rw[k1];exact⟨(e.Num,0),rfl,rfl,hnum⟩
  by_cases k2:e.Kind=2
  ·have hh:=h2 k2;have hx:idx v e.Num=C (v[e.Num.toNat]'(by omega)):=Sv hh.1 hh.2;rw[k2];refine⟨(v[e.Num.toNat]'(by omega),0),?_,?_,hv _ (Xc _)⟩
   ·show(Ae e v)=_;unfold Ae CY;rw[hx];rfl
   show(idx v e.Num).bind _=_;rw[hx];rfl
  have b1:(e.Kind==1)=f_:=by simpa using k1
  have b2:(e.Kind==2)=f_:=by simpa using k2
  have l1:1<=e.Kids.length:=by
   by_cases k3:e.Kind=3\/e.Kind=4
   ·have:=h3 k3;omega
   by_cases k5:e.Kind=5
   ·have:=h5 k5;omega
   have:=h6 (by omega);omega
  obtain⟨a,a1,a2,a3⟩:=sub 0 (by omega);have O:idx e.Kids 0=C (e.Kids[0]'(by omega)):=kid 0 (by omega);rw[b1,b2];simp only[Qe,O,Qa,a2];by_cases k34:e.Kind=3\/e.Kind=4
  ·have ed:((bif e.Kind==3 then bif e.Kind==3 then C (.inr (.inr (.inl v)))else bif e.Kind==5 then C (.inr (.inr (.inr (.inl v))))else C (.inr (.inr (.inr (.inr v))))else bif e.Kind==4 then C (.inr (.inr (.inl v)))else bif e.Kind==5 then C (.inr (.inr (.inr (.inl v))))else C (.inr (.inr (.inr (.inr v))))):O_ (LI_⊕(LI_⊕(LI_⊕(LI_⊕LI_)))))=C (.inr (.inr (.inl v))):=by
    rcases k34 with k|k<;>rw[k]<;>rfl
   rw[ed];show ∃r,De (XU n) e v=C r/\_;unfold De Bl;rw[O,Qa,a1,Qa];cases hz:(a.2 != 0)with
   |true=>exact⟨(0,a.2),rfl,rfl,z⟩|false=>
    simp only[Qe];rcases k34 with k|k
    ·rw[k];simp only[show((3:Int)==3)=t_ from rfl,Qr];unfold VL;rw[QwU z a3];have hd:=HJ 2 0 a.1;obtain⟨d,hd,_⟩:=hd;rw[hd];exact⟨d,rfl,rfl,QyH z a3 hd⟩
    rw[k];simp only[show((4:Int)==3)=f_ from rfl,show((4:Int)==4)=t_ from rfl,Qr,Qe];by_cases c:a.1=0
    ·rw[c];exact⟨(1,0),rfl,rfl,o⟩
    have:(a.1==0)=f_:=by simpa using c
    rw[this];refine⟨(0,0),?_,rfl,z⟩;show(((KK (a.1==0)).bind _).bind _).bind _=_;rw[this];rfl
  have n3:¬e.Kind=3:=λk=>k34 (.inl k);have n4:¬e.Kind=4:=λk=>k34 (.inr k);have b3:(e.Kind==3)=f_:=by simpa using n3
  have b4:(e.Kind==4)=f_:=by simpa using n4
  rw[b3,b4];simp only[Qe];by_cases k5:e.Kind=5
  ·have hl:=h5 k5;obtain⟨b,c1,c2,c3⟩:=sub 1 (by omega);have kid1:idx e.Kids 1=C (e.Kids[1]'(by omega)):=kid 1 (by omega);rw[k5];show ∃r,Af (XU n) e v=C r/\_;unfold Af PI DW;simp only[O,kid1,Qa,a1,c1,c2,show((5:Int)==6)=f_ from rfl,Qe];cases hz:(a.2 != 0)with
   |true=>exact⟨(0,a.2),rfl,rfl,z⟩|false=>
    simp only[Qe];cases hq:((e.Num==10)&&(a.1==0))with
    |true=>
     have:a.1=0:=by simp at hq;exact hq.2
     rw[this];exact⟨(0,0),rfl,rfl,z⟩
    |false=>
     simp only[Qe];have rest:∃r,((bif (b.2 != 0)then C (0,b.2)else(KD e.Num a.1 b.1).bind λx16=>C (x16.1,x16.2)):O_ (Int×Int))=C r/\((bif (b.2 != 0)then C (0,b.2)else(GK e.Num a.1 b.1).bind λx16=>C (x16.1,x16.2)):O_ (Int×Int))=C r/\XW r.1:=by
      rw[QwU a3 c3];obtain⟨d,hd,_⟩:=HJ e.Num a.1 b.1;rw[hd];cases (b.2 != 0)with|true=>exact⟨(0,b.2),rfl,rfl,z⟩|false=>exact⟨d,rfl,rfl,QyH a3 c3 hd⟩
     obtain⟨r,r1,r2,r3⟩:=rest;cases h11:(e.Num==11)with
     |false=>
      simp only[Qe,QaP];exact⟨r,by rw[r1];rfl,r2,r3⟩
     |true=>
      simp only[Qr,QaQ];cases ha:(a.1 != 0)with
      |true=>
       refine⟨(1,0),?_,rfl,o⟩;simp only[Qr];show(((KK (a.1 != 0)).bind _).bind _).bind _=_;rw[ha];rfl
      |false=>
       simp only[Qe];exact⟨r,by rw[r1];rfl,r2,r3⟩
  have k6:e.Kind=6:=by omega
  have hl:=h6 k6;obtain⟨b,c1,c2,c3⟩:=sub 1 (by omega);obtain⟨d,d1,d2,d3⟩:=sub 2 (by omega);have kid1:idx e.Kids 1=C (e.Kids[1]'(by omega)):=kid 1 (by omega);have kid2:idx e.Kids 2=C (e.Kids[2]'(by omega)):=kid 2 (by omega);rw[k6];show ∃r,Ag (XU n) e v=C r/\_;unfold Ag HR;simp only[O,kid1,kid2,Qa,a1,c1,c2,d1,d2,show((6:Int)==6)=t_ from rfl,Qr];cases hz:(a.2 != 0)with
  |true=>exact⟨(0,a.2),rfl,rfl,z⟩|false=>
   simp only[Qe];cases (a.1 != 0)with|true=>exact⟨b,rfl,rfl,c3⟩|false=>exact⟨d,rfl,rfl,d3⟩
def Qrl {v:LI_}(h:WZ e)(hr:RE e)(hv:∀x∈v,XW x):∃r,HA e v=C r/\Pb e v=C r/\XW r.1:=by
 unfold HA Pb NP Qd4;rw[Qvr e _ h];obtain⟨b,hb,O⟩:=Rn e v.length h;rw[hb,Qa,Qa];cases b with
 |false=>exact⟨(0,1),rfl,rfl,by unfold XW;decide⟩|true=>
  obtain⟨r,r1,r2,r3⟩:=Qrk _ v e (O rfl) hr hv (Yk _);rw[r1,r2];exact⟨r,rfl,rfl,r3⟩
def QhY {σ τ ρ π:Type}{b1:σ->O_ (σ⊕ρ)}{b2:τ->O_ (τ⊕π)}(n:Nat)(I:Nat->σ->τ->Prop)(O:ρ->π->Prop)
  (step:∀i s t,i<=n->I i s t->(i<n/\∃s' t',b1 s=C (.inl s')/\b2 t=C (.inl t')/\I (i+1) s' t')\/∃r q,b1 s=C (.inr r)/\b2 t=C (.inr q)/\O r q):∀s t,I 0 s t->∃r q,Qq b1 s=C r/\Qq b2 t=C q/\O r q:=by
 have key:∀k i s t,i+k=n->I i s t->∃r q,Qq b1 s=C r/\Qq b2 t=C q/\O r q:=by
  intro k
  induction k with
  |zero=>
   intro i s t hk hI;rcases step i s t (by omega) hI with⟨h,_⟩|⟨r,q,h1,h2,h3⟩
   ·omega
   exact⟨r,q,by rw[Yl,h1];rfl,by rw[Yl,h2];rfl,h3⟩
  |succ k ih=>
   intro i s t hk hI;rcases step i s t (by omega) hI with⟨_,s',t',h1,h2,h3⟩|⟨r,q,h1,h2,h3⟩
   ·obtain⟨r,q,e1,e2,e3⟩:=ih (i+1) s' t' (by omega) h3;exact⟨r,q,by rw[Yl,h1];exact e1,by rw[Yl,h2];exact e2,e3⟩
   exact⟨r,q,by rw[Yl,h1];rfl,by rw[Yl,h2];rfl,h3⟩
 exact λs t h=>key n 0 s t (by omega) h
def Qj1 {a b:ByteArray}:KT a b=t_↔a=b:=by
 unfold KT;rw[beq_iff_eq,ByteArray.toList_eq,ByteArray.toList_eq];exact⟨λh=>ByteArray.ext (Array.toList_inj.1 h),λh=>by rw[h]⟩
def Qti (a b:ByteArray):KT a b=decide (a=b):=by
 by_cases h:a=b
 ·rw[Ql h];exact Qj1.2 h
 rw[Qn h,<-Lz,Qj1];exact h
def Qrm (s:ByteArray):Pa s=GD s:=by
 have e0:decide ((s.size:Int)<1)=KT s (⟨#[]⟩:ByteArray):=by
  rw[Qti];apply decide_eq_decide.2;constructor
  ·intro h;obtain⟨a⟩:=s;have:a=#[]:=Quu (by have h:((a.size:Nat):Int)<1:=h;omega);rw[this]
  intro h;subst h;decide
 have g1:Zn s=LD s:=by
  unfold Zn LD;rw[e0];rfl
 have l4:∀i,Om s i=Uu s i:=λi=>by
  unfold Om Uu Qe5;cases h:sidx s i with
  |none=>rfl|some c=>
   simp only[Qa];congr 1;unfold Tj Rb AA QbR Qe6 Tk;simp only[Qa];generalize (bif (decide (97<=c))then((decide (c<=122))||((decide (65<=c))&&(decide (c<=90))))else((decide (65<=c))&&(decide (c<=90))))=q;cases q with
   |true=>rfl|false=>
    by_cases O:c<48
    ·rw[Ql O,Qn (by omega:¬48<=c)];rfl
    rw[Qn O,Ql (by omega:48<=c)];by_cases h2:57<c
    ·rw[Ql h2,Qn (by omega:¬c<=57)];rfl
    rw[Qn h2,Ql (by omega:c<=57)];rfl
 unfold Pa GD Qe7 Tn;rw[g1,show(λst=>Om s st)=λst=>Uu s st from funext l4];rfl
def QqL {α:Type}(f:α->Bool):∀(l:L_ α) (k:Nat) (t:Bool),UW (λ(_:Nat) (t:Bool) x=>(.inl (t&&f x):Bool⊕Bool)) (λt=>t) k t l=(t&&l.all f)
 |[],_,t=>by simp[UW]|x::l,k,t=>by rw[UW,Sum.elim_inl,QqL f l];simp[Bool.and_assoc]
def Had (m:L_ (ByteArray×Bool))(l:L_ ByteArray):Prop:=∀k,(Xg m k).getD f_=l.any λe=>KT e k
def Had.add {m:L_ (ByteArray×Bool)}{l:L_ ByteArray}(h:Had m l)(x:ByteArray):Had (YQ TX m x t_) (l++[x]):=λk=>by
 rw[BX,List.any_append,<-h k];by_cases e:k=x
 ·subst e;rw[if_pos rfl];have:KT k k=t_:=Qj1.2 rfl;simp[this]
 rw[if_neg e];have:KT x k=f_:=by rw[Qti];exact Qn λh=>e h.symm
 simp[this]
def Qvs {l:L_ ByteArray}(h:QV AT l):∃b,BZ l=C b/\SQ l=C b:=by
 have nm:∀x∈l,∃b,GD x=C b:=λx hx=>(Hr x (h.2 x hx)).tot;obtain⟨r,q,e1,e2,e3⟩:=QhY (b1:=λst:Int×L_ (ByteArray×Bool)=>DS l st.1 st.2) (b2:=λst:Int=>CD l st) l.length (λi s t=>s.1=(i:Int)/\t=(i:Int)/\Had s.2 (l.take i)) (λr q=>r=q) (λi s t hi hI=>by
  obtain⟨a,m⟩:=s;obtain⟨h1,h2,h3⟩:=hI;replace h1:a=(i:Int):=h1;subst h1 h2;replace h3:Had m (l.take i):=h3;show(i<l.length/\∃s' t',DS l i m=_/\CD l i=_/\_)\/∃r q,DS l i m=_/\CD l i=_/\_;unfold DS CD RA RC;by_cases O:i<l.length
  ·have hx:l[i]? = C l[i]:=Qv O;obtain⟨b,hb⟩:=nm _ (Xc O);have il:=Pj (body:=λst:Bool×Int=>UD i l st.1 st.2) (l:=l.take i) (λk (t:Bool)=>(t,(k:Int))) (λ_ t e=>.inl (t&&!KT e l[i])) (λt=>t) (λk t x hk hkx=>by
    rw[Kv]at hk;have hkx:l[k]? = C x:=by rw[Kd,if_pos (by omega)]at hkx;exact hkx
    show UD i l t (k:Int)=_;unfold UD QdS QdT;rw[Ql (by omega),Qr,QG,hkx,QG,hx,Qo O h.1 |> λ_=>Qo (show k<l.length by omega) h.1];cases t<;>rfl) (λt=>by
    show UD i l t ((l.take i).length:Int)=_;unfold UD;rw[Kv,Qn (by omega)];rfl) b (s0:=(b,0)) rfl
   rw[QqL]at il;rw[Ql (show(i:Int)<(l.length:Int) by omega),Qr,Qr,QG,hx,Qa,Qa,Qrm,hb,Qa,Qa,il,Qa,Qo O h.1];unfold QdU;rw[h3 l[i],Qo O h.1];have ea:(l.take i).all (λe=>!KT e l[i])=!((l.take i).any λe=>KT e l[i]):=by rw[List.not_any_eq_all_not]
   rw[ea];cases b with
   |false=>right;exact⟨_,_,rfl,rfl,rfl⟩|true=>
    cases hq:(l.take i).any λe=>KT e l[i]with
    |true=>right;exact⟨_,_,rfl,rfl,rfl⟩|false=>
     left;refine⟨O,_,_,rfl,rfl,rfl,rfl,?_⟩;rw[JY,hx];exact h3.add _
  right;rw[Qn (show ¬(i:Int)<(l.length:Int) by omega)];exact⟨_,_,rfl,rfl,rfl⟩) (0,[]) 0 ⟨rfl,rfl,λk=>rfl⟩
 subst e3;unfold BZ SQ;rw[e1,e2];rcases r with r|r
 ·exact⟨f_,rfl,rfl⟩
 exact⟨t_,rfl,rfl⟩
structure Qj2 (c:QK) (s:Int):Prop where
 b:1<=s/\s<=1024
 i:c.Kind=1->c.Lo<=c.Hi/\s=c.Hi-c.Lo+1
def IC (c:QK):Prop:=XW c.Lo/\XW c.Hi
def Qzu {lo O:Int}(hl:XW lo)(hh:XW O):Fz lo O=C (if O<lo then 0 else if O-lo<1024 then O-lo+1 else 1025):=by
 unfold Fz;by_cases h:O<lo
 ·rw[Ql h,if_pos h];rfl
 rw[Qn h,if_neg h,Qe];have e:IntKind.u64.wrap (IntKind.u64.wrap O-IntKind.u64.wrap lo)=O-lo:=by
  rw[QcP,QcP,QcP];unfold XW at *;omega
 rw[e];unfold min2;by_cases h2:O-lo<1024
 ·rw[if_pos h2];by_cases h3:1024<O-lo
  ·omega
  rw[if_neg h3,Xb (n:=O-lo) (by omega),Xb (by omega)]
 rw[if_neg h2];split
 ·rfl
 have:O-lo=1024:=by omega
 rw[this];rfl
def Pp (n:Int):Bool:=decide (n<1)||decide (1024<n)
def Qun {n:Int}(h:Pp n=f_):1<=n/\n<=1024:=by
 unfold Pp at h;simp only[Ku,QU]at h;omega
def QA7 {c:QK}{out:LI_}(hc:IC c)(hN:QV AT c.Names)(ho:out.length=i):∃n n',FA c out=C n/\(∀ok,TI c out (i:Int) ok=Kt ok out i n')/\((n'=n/\(Pp n=f_->Qj2 c n))\/(Pp n=t_/\Pp n'=t_)):=by
 unfold FA TI;have z:Pp 0=t_:=rfl;by_cases k1:c.Kind=1
 ·rw[show(c.Kind==1)=t_ by simpa using k1];simp only[Qr];rw[Qzu hc.1 hc.2,Qa];obtain⟨c1,c2⟩:=hc;unfold XW at c1 c2;by_cases a1:c.Hi<c.Lo
  ·rw[if_pos a1,Qn (by omega:¬c.Lo<=c.Hi),QaP];exact⟨0,0,rfl,λ_=>rfl,.inr ⟨z,z⟩⟩
  rw[if_neg a1,Ql (by omega:c.Lo<=c.Hi),QaQ];by_cases a2:0<=c.Lo\/c.Hi<c.Lo+1024
  ·have O:(decide (0<=c.Lo)||decide (c.Hi<Qh (c.Lo+1024)))=t_:=by
    by_cases a3:0<=c.Lo
    ·rw[Ql a3,Bool.true_or]
    rw[Xb (by omega),Ql (by omega:c.Hi<c.Lo+1024),Bool.or_true]
   rw[O];simp only[Qr];have e1:Qh (c.Hi-c.Lo)=c.Hi-c.Lo:=Xb (by omega);rw[e1];unfold min2;by_cases a4:c.Hi-c.Lo<1024
   ·rw[if_pos a4,if_neg (by omega:¬1024<c.Hi-c.Lo),Xb (by omega)];exact⟨_,_,rfl,λ_=>rfl,.inl ⟨rfl,λhb=>⟨Qun hb,λ_=>⟨by omega,rfl⟩⟩⟩⟩
   rw[if_neg a4];refine⟨_,_,rfl,λ_=>rfl,.inr ⟨rfl,?_⟩⟩;have:(if (1024:Int)<c.Hi-c.Lo then 1024 else c.Hi-c.Lo)=1024:=by split<;>omega
   rw[this];rfl
  rw[Qn (by omega:¬0<=c.Lo),Qco,Xb (by omega),Qn (by omega:¬c.Hi<c.Lo+1024),if_neg (by omega)];exact⟨_,_,rfl,λ_=>rfl,.inr ⟨rfl,z⟩⟩
 rw[show(c.Kind==1)=f_ by simpa using k1];simp only[Qe];have nk:∀n,Pp n=f_->Qj2 c n:=λn hb=>⟨Qun hb,λh=>absurd h k1⟩;by_cases k2:c.Kind=2
 ·rw[show(c.Kind==2)=t_ by simpa using k2];simp only[Qr];obtain⟨b,b1,b2⟩:=Qvs hN;rw[b1,b2];cases b with|true=>exact⟨_,_,rfl,λ_=>rfl,.inl ⟨rfl,nk _⟩⟩|false=>exact⟨0,0,rfl,λ_=>rfl,.inr ⟨z,z⟩⟩
 rw[show(c.Kind==2)=f_ by simpa using k2];simp only[Qe];by_cases k3:c.Kind=3
 ·rw[show(c.Kind==3)=t_ by simpa using k3];simp only[Qr];have O:((decide (0<=min2 c.First c.Then))&&(decide (max2 c.First c.Then<(out.length:Int))))=((decide (0<=c.First))&&((decide (c.First<(i:Int)))&&((decide (0<=c.Then))&&(decide (c.Then<(i:Int)))))):=by
   apply HN.2;simp only[QN,Qw,Rj,Rk,ho];omega
  rw[O];cases hq:((decide (0<=c.First))&&((decide (c.First<(i:Int)))&&((decide (0<=c.Then))&&(decide (c.Then<(i:Int))))))with
  |false=>exact⟨0,0,rfl,λ_=>rfl,.inr ⟨z,z⟩⟩|true=>
   simp only[QN,Qw]at hq;simp only[Qr];rw[Sv hq.1 (by omega),Sv hq.2.2.1 (by omega)];exact⟨_,_,rfl,λ_=>rfl,.inl ⟨rfl,nk _⟩⟩
 rw[show(c.Kind==3)=f_ by simpa using k3];exact⟨0,0,rfl,λ_=>rfl,.inr ⟨z,z⟩⟩
def Qvt (h:QV JG l)(hc:∀c∈l,IC c):∃x b,Uv l=C (x,b)/\SR l=C x/\(b=f_->x=[])/\(b=t_->x.length=l.length/\∀(j:Nat) c s,l[j]? = C c->x[j]? = C s->Qj2 c s):=by
 unfold Uv SR;by_cases h32:32<l.length
 ·rw[Ql (show(32:Int)<(l.length:Int) by omega)];exact⟨[],f_,rfl,rfl,λ_=>rfl,λh=>by cases h⟩
 rw[Qn (show ¬(32:Int)<(l.length:Int) by omega),Qe,Qe];have hm:(2048:Nat)<=maxLen:=by decide
 obtain⟨r,q,e1,e2,e3⟩:=QhY (b1:=λst:Int×L_ (ByteArray×Bool)×LI_=>DT l st.1 st.2.1 st.2.2) (b2:=λst:Int×LI_=>CE l st.1 st.2) l.length
  (λi s t=>s.1=(i:Int)/\t=((i:Int),s.2.2)/\Had s.2.1 ((l.take i).map QK.Name)/\s.2.2.length=i/\∀(j:Nat) c z,l[j]? = C c->s.2.2[j]? = C z->Qj2 c z)
  (λr q=>r=q/\∀x,r=.inr x->x.length=l.length/\∀(j:Nat) c z,l[j]? = C c->x[j]? = C z->Qj2 c z) (λi s t hi hI=>by
  obtain⟨a,m,out⟩:=s;obtain⟨h1,h2,h3,h4,h5⟩:=hI;replace h1:a=(i:Int):=h1;subst h1 h2;replace h3:Had m ((l.take i).map QK.Name):=h3;replace h4:out.length=i:=h4;replace h5:∀(j:Nat) c z,l[j]? = C c->out[j]? = C z->Qj2 c z:=h5;show(i<l.length/\∃s' t',DT l i m out=_/\CE l i out=_/\_)\/∃r q,DT l i m out=_/\CE l i out=_/\_;unfold DT CE RG RH;by_cases O:i<l.length
  ·have hx:l[i]? = C l[i]:=Qv O;have hmem:=Xc O;obtain⟨b,hb,_⟩:=Hr l[i].Name (h.2 _ hmem).1;have il:=Pj (body:=λst:Bool×Int=>UE i l l[i] st.1 st.2) (l:=l.take i) (λk (t:Bool)=>(t,(k:Int))) (λ_ t e=>.inl (t&&!KT e.Name l[i].Name)) (λt=>t) (λk t x hk hkx=>by
    rw[Kv]at hk;have hkx:l[k]? = C x:=by rw[Kd,if_pos (by omega)]at hkx;exact hkx
    show UE i l l[i] t (k:Int)=_;unfold UE QdV QdW;rw[Ql (by omega),Qr,QG,hkx,Qo (show k<l.length by omega) h.1];cases t<;>rfl) (λt=>by
    show UE i l l[i] t ((l.take i).length:Int)=_;unfold UE;rw[Kv,Qn (by omega)];rfl) b (s0:=(b,0)) rfl
   rw[QqL]at il;rw[Ql (show(i:Int)<(l.length:Int) by omega),Qr,Qr,QG,hx,Qa,Qa,Qrm,hb];have ea:(l.take i).all (λe=>!KT e.Name l[i].Name)=!(((l.take i).map QK.Name).any λe=>KT e l[i].Name):=by rw[List.any_map,List.not_any_eq_all_not];rfl
   generalize hq:((l.take i).map QK.Name).any (λe=>KT e l[i].Name)=had;obtain⟨n,n',s1,s2,s3⟩:=QA7 (i:=i) (hc _ hmem) (h.2 _ hmem).2.2.2.2.1 h4;rw[s1];simp only[Qa];rw[il];simp only[Qa];rw[h3 l[i].Name,ea,hq,s2];unfold Kt;have hbs:∀n,((decide (n<1))||(decide (1024<n)))=Pp n:=λ_=>rfl;rw[hbs];have ebad:((bif !b then C t_ else bif had then C t_ else bif decide (n<1)then C t_ else C (decide (1024<n))):O_ Bool)=C (!b||(had||Pp n)):=by
    unfold Pp;cases b<;>cases had<;>cases decide (n<1)<;>rfl
   rw[ebad,Qa];have stop:∀n n':Int,Pp n'=t_\/(b&&!had)=f_->(!b||(had||Pp n))=t_->∃(r:Unit⊕LI_) (q:Unit⊕LI_),((bif (!b||(had||Pp n))then C (.inr (.inl ()))else(chk (decide (out.length+[n].length<=4294967296))).bind λ_=>C (.inl (Qh ((i:Int)+1),YQ TX m l[i].Name t_,out++[n]))):O_ ((Int×L_ (ByteArray×Bool)×LI_)⊕(Unit⊕LI_)))=C (.inr r)/\((bif (!(b&&!had)||Pp n')then C (.inr (.inl ()))else(chk (decide (out.length+[n'].length<=4294967296))).bind λ_=>C (.inl (Qh ((i:Int)+1),out++[n']))):O_ ((Int×LI_)⊕(Unit⊕LI_)))=C (.inr q)/\r=q/\∀x,r=.inr x->x.length=l.length/\∀(j:Nat) c z,l[j]? = C c->x[j]? = C z->Qj2 c z:=λn n' h1 h2=>by
    refine⟨.inl (),.inl (),by rw[h2];rfl,?_,rfl,λx hx=>by cases hx⟩;rcases h1 with h1|h1<;>rw[h1]<;>simp
   by_cases hg:b=t_/\had=f_/\Pp n=f_
   ·obtain⟨g1,g2,g3⟩:=hg;rcases s3 with⟨s4,s5⟩|⟨s4,_⟩
    ·subst s4 g1 g2;rw[g3];simp only[Jq,Qcq,QaO,Vk,Qe];left;rw[Yv (by simp;omega),Qa,Qa];refine⟨O,_,_,rfl,rfl,Qo O h.1,by rw[Qo O h.1],?_,by simp;omega,λj c z hj hz=>?_⟩
     ·rw[JY,hx,QaU];exact h3.add _
     replace hz:(out++[n'])[j]? = C z:=hz;by_cases hjl:j<out.length
     ·rw[Jh hjl]at hz;exact h5 j c z hj hz
     rw[Kc (by omega)]at hz;have:j=i:=by
      have:=(Xf.1 hz).1;simp at this;omega
     subst this;rw[hx]at hj;cases hj;rw[h4,Nat.sub_self]at hz;cases hz;exact s5 g3
    rw[g3]at s4;cases s4
   right;refine stop n n' ?_ ?_
   ·rcases s3 with⟨s4,_⟩|⟨_,s4⟩
    ·subst s4;cases b<;>cases had<;>cases hb2:Pp n'<;>simp_all
    exact .inl s4
   cases b<;>cases had<;>cases hb2:Pp n<;>simp_all
  right;rw[Qn (show ¬(i:Int)<(l.length:Int) by omega)];exact⟨_,_,rfl,rfl,rfl,λx hx=>by cases hx;exact⟨by show out.length=_;omega,h5⟩⟩) (0,[],[]) (0,[]) ⟨rfl,rfl,λk=>rfl,rfl,λj c z _ h=>by simp at h⟩
 obtain⟨e3,e4⟩:=e3;subst e3;rw[e1,e2];rcases r with r|r
 ·exact⟨[],f_,rfl,rfl,λ_=>rfl,λh=>by cases h⟩
 exact⟨r,t_,rfl,rfl,(λh=>by cases h),λ_=>e4 r rfl⟩
def QqM (h:QV JG l)(hc:∀c∈l,IC c)(k:Int):
  (EK l k=C 0/\∃x,Gt l k=C (f_,x))\/
  ∃c x s,l[k.toNat]? = C c/\0<=k/\k.toNat<l.length/\x[k.toNat]? = C s/\Qj2 c s/\EK l k=C s/\Gt l k=C (t_,JD.mk l x k):=by
 obtain⟨x,b,h1,h2,h3,h4⟩:=Qvt h hc;unfold EK Gt;rw[h1,h2,Qa,Qa];cases b with
 |false=>
  rw[h3 rfl];refine .inl ⟨?_,_,rfl⟩;have:((decide (k<0))||(decide ((([]:LI_).length:Int)<=k)))=t_:=by simp;omega
  rw[this];rfl
 |true=>
  obtain⟨h5,h6⟩:=h4 rfl;rw[h5];cases hq:((decide (k<0))||(decide ((l.length:Int)<=k)))with
  |true=>exact .inl ⟨rfl,_,rfl⟩|false=>
   simp only[Ku,QU]at hq;have e1:l[k.toNat]? = C (l[k.toNat]'(by omega)):=Qv (by omega);have O:x[k.toNat]? = C (x[k.toNat]'(by omega)):=Qv (by omega);exact .inr ⟨_,x,_,e1,by omega,by omega,O,h6 _ _ _ e1 O,by rw[Qe,DO (by omega),O];rfl,rfl⟩
def Qrn (h:QV JG l)(hc:∀c∈l,IC c)(k:Int):EK l k=Jg l k:=by
 unfold Jg;rcases QqM h hc k with⟨O,x,e2⟩|⟨c,x,s,h1,h2,h3,h4,h5,O,e2⟩
 ·rw[O,e2];rfl
 rw[O,e2,Qa];show C s=(idx x k).bind _;rw[DO h2,h4];rfl
def Qtj {x:LI_}{k s:Int}(O:0<=k)(hs:x[k.toNat]? = C s)(m:Int):Wg (JD.mk l x k) m=C (decide (0<=m)&&decide (m<s)):=by
 unfold Wg Uk ZO;by_cases h:0<=m
 ·rw[Ql h,Qr,QaQ];show((idx x k).bind _).bind _=_;rw[DO O,hs];rfl
 rw[Qn h];rfl
def QwY {x:LI_}{k:Int}{c:QK}(h:0<=k)(O:l[k.toNat]? = C c):KC (JD.mk l x k)=C c:=by
 unfold KC;show(idx l k).bind _=_;rw[DO h,O];rfl
def QtY (h:QV JG l)(hc:∀c∈l,IC c)(k m:Int):∃r,Gd l k m=C r/\Rc l k m=C r/\XW r.1:=by
 have z:XW 0:=by unfold XW;omega
 unfold Gd Rc Qb9 Qca FZ Ha;rcases QqM h hc k with⟨e1,x,e2⟩|⟨c,x,s,h1,h2,h3,h4,h5,e1,e2⟩
 ·rw[e1,e2,Qa,Qa];refine⟨(0,f_),rfl,?_,z⟩;by_cases O:m<0
  ·rw[Ql O];rfl
  rw[Qn O,Qe,Qa,Ql (by omega:0<=m)];rfl
 rw[e1,e2,Qa,Qa];simp only[Jq,Qe];rw[Qtj h2 h4,Qa,Qa];have e3:(bif decide (m<0)then C t_ else C (decide (s<=m)):O_ Bool)=C (!(decide (0<=m)&&decide (m<s))):=by
  by_cases O:m<0
  ·rw[Ql O,Qn (by omega:¬0<=m)];rfl
  rw[Qn O,Ql (by omega:0<=m)];by_cases hs:s<=m
  ·rw[Ql hs,Qn (by omega:¬m<s)];rfl
  rw[Qn hs,Ql (by omega:m<s)];rfl
 rw[e3,Qa,DO h2,h1];cases hq:(!(decide (0<=m)&&decide (m<s)))with
 |true=>exact⟨(0,f_),rfl,rfl,z⟩|false=>
  simp only[CR,QN,Qw]at hq;have hb:=h5.b;rw[QwY h2 h1,Qa,Qa,Qe];cases (c.Kind==1)with|true=>exact⟨_,rfl,rfl,Qsf _⟩|false=>exact⟨_,rfl,rfl,by unfold XW;omega⟩
def QnA {s first n:Int}(hs:s<=1024)(hf:XW first)(hl:first+s-1<=9223372036854775807):ET s n first=C (bif (decide (0<=n-first)&&decide (n-first<s))then(n-first,t_)else(0,f_)):=by
 unfold ET;unfold XW at hf;have hm:(2048:Nat)<=maxLen:=by decide
 obtain⟨r,hr,h1⟩:=Cf (body:=λst:Int=>DX s first n st) s.toNat (λi st=>st=(i:Int)/\∀j:Nat,j<i->first+j≠n) (λr=>r=bif (decide (0<=n-first)&&decide (n-first<s))then .inl (n-first)else .inr ()) (λi st hi h=>by
  obtain⟨rfl,h⟩:=h;show(∃s',DX s first n i=_/\_)\/∃r,DX s first n i=_/\_
  unfold DX;rw[Ql (by omega),Qr,Xb (n:=first+i) (by omega)]
  by_cases e:first+i=n
  ·right;rw[show(first+(i:Int)==n)=t_ by simpa using e,Qr]
   refine⟨_,rfl,?_⟩;rw[Ql (by omega),Ql (by omega),show n-first=(i:Int) by omega];rfl
  ·left;rw[show(first+(i:Int)==n)=f_ by simpa using e,Qe]
   refine⟨_,rfl,Xb (by omega),λj hj=>?_⟩;by_cases O:j=i
   ·subst O;exact e
   exact h j (by omega)) (λst h=>by
  obtain⟨rfl,h⟩:=h;show ∃r,DX s first n (s.toNat:Int)=_/\_
  unfold DX;rw[Qn (by omega),Qe];refine⟨_,rfl,?_⟩;by_cases c:0<=n-first/\n-first<s
  ·have:=h (n-first).toNat (by omega)
   omega
  have:(decide (0<=n-first)&&decide (n-first<s))=f_:=by
   apply Bool.eq_false_iff.2;simp only[ne_eq,QN,Qw];exact c
  rw[this];rfl) 0 ⟨rfl,λj hj=>by omega⟩
 rw[hr,h1,Qa];cases (decide (0<=n-first)&&decide (n-first<s))<;>rfl
def QtZ (h:QV JG l)(hc:∀c∈l,IC c)(k n:Int)(hn:XW n):∃r,Ge l k n=C r/\Rf l k n=C r:=by
 unfold Ge Rf Qcd Qce;rcases QqM h hc k with⟨e1,x,e2⟩|⟨c,x,s,h1,h2,h3,h4,h5,e1,e2⟩
 ·rw[e1,e2,Qa,Qa];refine⟨(0,f_),rfl,?_⟩;show ET 0 n 0=_;rw[QnA (by omega) (by unfold XW;omega) (by omega)];have:(decide (0<=n-0)&&decide (n-0<0))=f_:=by
   apply Bool.eq_false_iff.2;simp only[ne_eq,QN,Qw];omega
  rw[this];rfl
 rw[e1,e2,Qa,Qa];simp only[Jq,Qe];have hb:=h5.b;have O:=XB h1;obtain⟨c1,c2⟩:=hc c O;rw[QwY h2 h1,Qa,Ql (by omega:0<s),Qr,DO h2,h1];simp only[Qa];unfold Wb;by_cases k1:c.Kind=1
 ·rw[show(c.Kind==1)=t_ by simpa using k1];simp only[Qr];obtain⟨g1,g2⟩:=h5.i k1;unfold XW at c1 c2 hn;rw[QnA hb.2 c1 (by omega)];by_cases q:n<c.Lo\/c.Hi<n
  ·have:((decide (n<c.Lo))||(decide (c.Hi<n)))=t_:=by simpa using q
   rw[this,Qr];have:(decide (0<=n-c.Lo)&&decide (n-c.Lo<s))=f_:=by
    apply Bool.eq_false_iff.2;simp only[ne_eq,QN,Qw];omega
   rw[this];exact⟨_,rfl,rfl⟩
  have:((decide (n<c.Lo))||(decide (c.Hi<n)))=f_:=by simpa using q
  rw[this,Qe,Xb (by omega),Qtj h2 h4,Qa,Ql (by omega:0<=n-c.Lo),Ql (by omega:n-c.Lo<s)];exact⟨_,rfl,rfl⟩
 rw[show(c.Kind==1)=f_ by simpa using k1];simp only[Qe];rw[QnA hb.2 (by unfold XW;omega) (by omega),Qtj h2 h4,Qa,show n-0=n by omega];cases (decide (0<=n)&&decide (n<s))with|true=>exact⟨_,rfl,rfl⟩|false=>exact⟨_,rfl,rfl⟩
end Go.Proofs
