/- A part of the proof. -/
import Derived.Test.YtdogcfnkpfekmaaGreatDoorN3P4
import Derived.Test.YtdogcfnkpfekmaaGreatDoorN3P4
import Derived.Test.YtdogcfnkpfekmaaGreatDoorN3P4
import Derived.Test.YtdogcfnkpfekmaaGreatDoorN3XPlA
import Derived.Test.YtdogcfnkpfekmaaGreatDoorN3P4
import Derived.Test.YtdogcfnkpfekmaaGreatDoorN3P3
import Derived.Test.YtdogcfnkpfekmaaGreatDoorN3T2
import Derived.KernelRfl
import Derived.Test.YtdogcfnkpfekmaaGreatDoorN3P2
import Derived.Test.YtdogcfnkpfekmaaGreatDoorN3P4
import Derived.Test.YtdogcfnkpfekmaaGreatDoorN3P3
set_option linter.all false
noncomputable section
namespace Go.Proofs
open Go Go.RowKit Go.Vm Go.Rk
section
variable {n:Qd}{m:L_ Bag}{b tokens:Int}{s:Qu}{k:Nat}{f:LI_}{z:L_ Bag}
def Qwz (hS:SOk n m b tokens s)(hf:DH s.States.length (es s) [(k:Int)] f)(hz:s.States[k]? = some z):∀(d a:Nat) (x:L_ Bag),av f (a:Int)=(d:Int)->s.States[a]? = some x->VA n x (WY s f d (a:Int))=some z/\∀o∈WY s f d (a:Int),Yf n o:=by
 intro d
 induction d with
 | zero=>
  intro a x ha hx;rcases hf.back (a:Int) (by omega)with⟨_,h1⟩|⟨v,_,_,h3,h4⟩
  ·have:a=k:=by simp at h1;omega
   subst this;rw[hx]at hz;cases hz;exact⟨rfl,λo ho=>by simp[WY]at ho⟩
  omega
 | succ d ih=>
  intro a x ha hx;obtain⟨n',j,e,_,O,hj,hnx,h0,h1⟩:=Qpa hf (a:=(a:Int)) (by omega);obtain⟨j',e',hjj,h,hfr⟩:=Qam O;have:j=j':=by omega
  subst this;rw[hj]at h;cases h;obtain⟨i,j2,x',y,g1,g2,g3,g4,g5,g6⟩:=hS.edge e (Xt hj);have:i=a:=by omega
  subst this;rw[hx]at g3;cases g3;rw[WY,hnx];simp only;rw[g2];obtain⟨k1,k2⟩:=ih j2 y (by rw[<-g2];omega) g4;refine⟨?_,λo ho=>?_⟩
  ·rw[VA,g5,Qa];exact k1
  rcases XV.1 ho with rfl | ho
  ·exact g6
  exact k2 o ho
def QwA (hS:SOk n m b tokens s)(O:DH s.States.length (es s) [(k:Int)] f)(hk:k<s.States.length):0<=av f 0:=by
 have key:∀j:Nat,j<s.States.length->0<=av f (j:Int)->0<=av f 0:=by
  intro j
  induction j using Nat.strongRecOn with
  | _ j ih=>
   intro hj h;by_cases c:j=0
   ·subst c;exact h
   obtain⟨e,he,i,g1,g2,g3⟩:=hS.tree j (by omega) hj;have:=O.edge (i:Int) (j:Int) (Qiw.2 ⟨e,he,g1,g3⟩) ⟨by omega,by omega⟩ ⟨by omega,by omega⟩ h;exact ih i g2 (by omega) this.1
 have:=O.goal (k:Int) (by simp) ⟨by omega,by omega⟩;exact key k hk (by omega)
def Qgy (h:QT n)(hS:SOk n m b tokens s)(hb:b<=31)(hE:s.Edges.length<=130023424)(hz:s.States[k]? = some z):∃p,YE s (k:Int)=some p/\VA n m p=some z/\(∀o∈p,Yf n o)/\p.length<s.States.length:=by
 have hk:=(QX.1 hz).1;obtain⟨f,hf⟩:=Qyn s.States.length (es s) [(k:Int)];have hm:QK b<=31:=by unfold QK min2;split<;>omega
 have hpl:=h.pl;have hl:=hS.len;have O:KV s:=⟨⟨by unfold maxLen;omega,by unfold maxLen;omega,λy hy=>by
  have hg:=hS.good y hy;have:=hg.1.1;exact⟨by unfold maxLen;omega,λb hb=>by have:=(hg.1.2 b hb).2;unfold maxLen;omega⟩⟩,by omega,hE⟩
 have h0:=QwA hS hf hk;obtain⟨r,hr⟩:=hS.head;obtain⟨c1,c2⟩:=Qwz hS hf hz (av f 0).toNat 0 m (by show av f 0=_;omega) (by rw[hr];rfl);refine⟨_,QnX O ⟨by omega,by omega⟩ hf,c1,c2,?_⟩;have:=QnW (s:=s) (f:=f) (av f 0).toNat 0;rcases hf.lt 0 with h1 | h1
 ·omega
 omega
end
end Go.Proofs
namespace Go.Rk
section
variable {α:Type}(f:α->Int)
def kv (l:List α)(i:Nat):Int:=match l[i]? with | some x=>f x | none=>0
def UC (l:List α)(n:Nat):Prop:=∀i,0<i->i<n->kv f l ((i-1) / 2)<=kv f l i
variable {f:α->Int}
def Am {l:List α}{i:Nat}{x:α}(h:l[i]? = some x):kv f l i=f x:=by unfold kv;rw[h]
def PX {l:List α}{i j:Nat}{x y:α}(hi:l[i]? = some x)(h:l[j]? = some y)(k:Nat):
  kv f ((l.set i y).set j x) k=if k=j then kv f l i else if k=i then kv f l j else kv f l k:=by
 have O:=(List.getElem?_eq_some_iff.1 hi).1;have h2:=(List.getElem?_eq_some_iff.1 h).1;rw[Am hi,Am h];unfold kv;rw[List.getElem?_set];by_cases a:k=j
 ·subst a;rw[if_pos rfl,if_pos (by simpa using h2),if_pos rfl]
 rw[if_neg (λe=>a e.symm),if_neg a,List.getElem?_set];by_cases b:k=i
 ·subst b;rw[if_pos rfl,if_pos O,if_pos rfl]
 rw[if_neg (λe=>b e.symm),if_neg b]
def QlZ {l:List α}{i j:Nat}{x y:α}(hi:l[i]? = some x)(hj:l[j]? = some y):((l.set i y).set j x).Perm l:=by
 obtain⟨h,rfl⟩:=List.getElem?_eq_some_iff.1 hi;obtain⟨O,rfl⟩:=List.getElem?_eq_some_iff.1 hj;exact List.set_set_perm h O
def Qef (f:α->Int)(l:List α)(n j:Nat):Prop:=(∀i,0<i->i<n->i≠j->kv f l ((i-1) / 2)<=kv f l i)/\∀c,0<c->c<n->(c-1) / 2=j->0<j->kv f l ((j-1) / 2)<=kv f l c
def Qef.step {l:List α}{n j:Nat}{x y:α}(h:Qef f l n j)(h0:0<j)(hi:l[(j-1) / 2]? = some x)(O:l[j]? = some y)(hlt:f y<f x)(hn:j<n):
  Qef f ((l.set ((j-1) / 2) y).set j x) n ((j-1) / 2):=by
 obtain⟨ha,hb⟩:=h;rw[<-Am (f:=f) hi,<-Am (f:=f) O]at hlt;refine⟨λi h1 h2 h3=>?_,λc h1 h2 h3 h4=>?_⟩
 ·rw[PX hi O,PX hi O];by_cases e:i=j
  ·subst e;rw[if_pos rfl,if_neg (by omega),if_pos rfl];omega
  rw[if_neg e,if_neg h3];have h5:=ha i h1 h2 e;by_cases e1:(i-1) / 2=j
  ·rw[if_pos e1];exact hb i h1 h2 e1 h0
  rw[if_neg e1];by_cases e2:(i-1) / 2=(j-1) / 2
  ·rw[if_pos e2];rw[e2]at h5;omega
  rw[if_neg e2];exact h5
 rw[PX hi O,PX hi O];rw[if_neg (by omega),if_neg (by omega)];have h5:=ha ((j-1) / 2) h4 (by omega) (by omega);by_cases e:c=j
 ·rw[if_pos e];exact h5
 rw[if_neg e,if_neg (by omega)];have h6:=ha c h1 h2 e;rw[h3]at h6;omega
def Qef.done {l:List α}{n j:Nat}(h:Qef f l n j)(hd:j=0\/kv f l ((j-1) / 2)<=kv f l j):UC f l n:=λi O hn=>by
 by_cases e:i=j
 ·subst e;rcases hd with h | h
  ·omega
  exact h
 exact h.1 i O hn e
def Qeg (f:α->Int)(l:List α)(n i:Nat):Prop:=(∀k,0<k->k<n->(k-1) / 2≠i->kv f l ((k-1) / 2)<=kv f l k)/\∀c,0<c->c<n->(c-1) / 2=i->0<i->kv f l ((i-1) / 2)<=kv f l c
def Qeg.step {l:List α}{n i j:Nat}{x y:α}(h:Qeg f l n i)(h0:0<j)(O:(j-1) / 2=i)(hi:l[i]? = some x)(hj:l[j]? = some y)(hlt:f y<f x)(hn:j<n)
  (hmin:∀k,0<k->k<n->(k-1) / 2=i->kv f l j<=kv f l k):Qeg f ((l.set i y).set j x) n j:=by
 obtain⟨ha,hb⟩:=h;rw[<-Am (f:=f) hi,<-Am (f:=f) hj]at hlt;refine⟨λk h1 h2 h3=>?_,λc h1 h2 h3 h4=>?_⟩
 ·rw[PX hi hj,PX hi hj];rw[if_neg h3];by_cases e1:(k-1) / 2=i
  ·rw[if_pos e1];by_cases e2:k=j
   ·rw[if_pos e2];omega
   rw[if_neg e2,if_neg (by omega)];exact hmin k h1 h2 e1
  rw[if_neg e1,if_neg (λe=>e1 (by subst e;exact O))];by_cases e2:k=i
  ·subst e2;rw[if_pos rfl];exact hb j h0 hn O h1
  rw[if_neg e2];exact ha k h1 h2 e1
 rw[PX hi hj,PX hi hj];rw[if_neg (by omega),if_pos O,if_neg (by omega),if_neg (by omega),<-h3];exact ha c h1 h2 (by omega)
def Qeg.done {l:List α}{n i:Nat}(h:Qeg f l n i)(hd:∀k,0<k->k<n->(k-1) / 2=i->kv f l i<=kv f l k):UC f l n:=λk O hn=>by
 by_cases e:(k-1) / 2=i
 ·rw[e];exact hd k O hn e
 exact h.1 k O hn e
def UC.least {l:List α}{n:Nat}(h:UC f l n):∀i,i<n->kv f l 0<=kv f l i:=by
 intro i
 induction i using Nat.strongRecOn with
 | _ i O=>
  intro hi;by_cases e:i=0
  ·subst e;exact Int.le_refl _
  have h1:=h i (by omega) hi;have h2:=O ((i-1) / 2) (by omega) (by omega);omega
def UC.append {l:List α}{x:α}(h:UC f l l.length):Qef f (l++[x]) (l.length+1) l.length:=by
 have e:∀k,k<l.length->kv f (l++[x]) k=kv f l k:=λk hk=>by unfold kv;rw[List.getElem?_append_left hk]
 refine⟨λi O h1 h2=>?_,λc O h1 h2 h3=>by omega⟩;rw[e _ (by omega),e _ (by omega)];exact h i O (by omega)
def UC.swap {l:List α}{n:Nat}{x y:α}(h:UC f l (n+1))(hi:l[0]? = some x)(hj:l[n]? = some y):Qeg f ((l.set 0 y).set n x) n 0:=by
 refine⟨λk O h1 h2=>?_,λc O h1 h2 h3=>by omega⟩;rw[PX hi hj,PX hi hj,if_neg (by omega),if_neg (by omega),if_neg (by omega),if_neg (by omega)];exact h k O (by omega)
def UC.congr {l m:List α}{n:Nat}(h:UC f l n)(e:∀k,k<n->m[k]? = l[k]?):UC f m n:=λi h0 O=>by
 have:=h i h0 O;unfold kv at *;rw[e _ O,e _ (by omega)];exact this
end
end Go.Rk
noncomputable section
namespace Go.Proofs
open Go Go.RowKit Go.Vm Go.Rk
open Option renaming some→C
variable {b:L_ Rw}{n:Qd}{m:Mk}{s:Qu}
def Qvn {l:L_ Rw}{k v:Int}(h:∀p∈l,p.1<k):XL WI l k v=l++[(k,v)]:=by
 have h1:Qr l k=none:=by
  induction l with
  | nil=>rfl
  | cons p l ih=>
   have h0:=h p XD;show(if p.1=k then _ else _)=none;rw[if_neg (by omega)];exact ih λq O=>h q (Yb _ O)
 unfold XL;rw[h1];clear h1;show BL WI l k v=_
 induction l with
 | nil=>rfl
 | cons p l ih=>
  have h0:=h p XD;show(if WI k p.1=true then _ else _)=_;rw[if_neg (by unfold WI;simp;omega),ih λq O=>h q (Yb _ O)];rfl
def QtO (hb:b.length<=maxLen):HS b=C (bif VD b then .inr b else .inl ()):=by
 unfold HS;rw[Qqj hb,Qa];cases hr:VD b with
 | false=>rfl
 | true=>
  obtain⟨_,hp⟩:=QgQ.1 hr;have key:∃r,Qh (λst:Int×L_ Rw=>Uc b st.1 st.2) (0,[])=C r/\r=b:=by
   refine JC b.length (λi s=>s=((i:Int),b.take i)) (λr=>r=b) (λi s hi hs=>.inl ?_) (λs hs=>?_) (0,[]) rfl
   ·subst hs;have h:(i:Int)<b.length:=by omega
    refine⟨(((i+1:Nat):Int),b.take (i+1)),?_,rfl⟩;unfold Uc;simp only[h,decide_true,Ql,Qs,Qp hi,Qa,Qj hi hb];rw[Qvn]
    ·rw[Td hi]
    intro p hp';obtain⟨j,hj⟩:=En.1 hp';obtain⟨O,rfl⟩:=QX.1 hj;rw[KX]at O;rw[List.getElem_take];exact(Qa7.1 hp) j i (by omega) hi (by omega)
   subst hs;refine⟨b,?_,rfl⟩;unfold Uc;simp
  obtain⟨r,h,h2⟩:=key;simp only[JD,Qi,Ql];rw[h,h2];rfl
def QrF (n:Int):L_ Rw->Int
 | []=>n
 | p::l=>QrF (Qe (n+p.2)) l
def BV (b:L_ Rw):Int:=bif VD b then QrF 0 b else 0
def QgR (hb:b.length<=maxLen):AQ b=C (BV b):=by
 unfold AQ;rw[QtO hb,Qa,BV];cases VD b with
 | false=>rfl
 | true=>
  simp only[Ql,Sum.elim_inr];unfold NS;have O:∀(l:L_ Rw) n,JY (λst (p:Rw)=>Wa st p.1 p.2) n l=C (.inl (QrF n l)):=by
   intro l
   induction l with
   | nil=>intro n;rfl
   | cons p l ih=>intro n;exact ih _
  have hswap:∀s (p q:Rw),JY (λst (p:Rw)=>Wa st p.1 p.2) s [p,q]=JY (λst (p:Rw)=>Wa st p.1 p.2) s [q,p]:=by
   intro s p q;rw[O,O];simp only[QrF,Qfi];congr 3;omega
  rw[HQ.2 ⟨λl' h=>Qub hswap h 0,O b 0⟩];rfl
def QgS (h:b.length<=maxLen):Ej b=C (BV b):=by
 unfold Ej;rw[Qqk h,Qa,BV];cases VD b with
 | false=>rw[Yl];simp[WU,Qcl]
 | true=>
  have:=CZ (body:=λst:Int×Int=>WU b true st.1 st.2) (l:=b) (λi t=>(t,(i:Int))) (λi t x=>.inl (Qe (t+x.2))) (λt=>t) ?_ ?_ 0 (s0:=(0,0)) rfl
  ·rw[this,Qa];have:∀(l:L_ Rw) k t,DE (λi t (x:Rw)=>(.inl (Qe (t+x.2)):Int⊕Int)) (λt=>t) k t l=QrF t l:=by
    intro l
    induction l with
    | nil=>intro k t;rfl
    | cons x l ih=>intro k t;exact ih _ _
   rw[this];rfl
  ·intro i t x hi hx;have O:(i:Int)<b.length:=by omega
   unfold WU;simp only[O,decide_true,Ql,Qs,hx,Qa,Qj hi h,Zs];rfl
  intro t;unfold WU;simp
def Zq (n:Qd)(m:Mk):Bool:=decide (m.length=n.Places.length)&&(decide (0<=n.To)&&decide (n.To<m.length))&&!BT (λi b=>BV b != (bif (i:Int)==n.To then 1 else 0)) 0 m
def Qgz (hm:okM m):Uu n m=C (decide (0<=n.To)&&(decide (n.To<m.length)&&((m[n.To.toNat]?).map λb=>decide (0<BV b)).getD false)):=by
 unfold Uu Qdp Qdq;by_cases h:0<=n.To
 ·by_cases O:n.To<m.length
  ·have hb:m[n.To.toNat]? = C (m[n.To.toNat]'(by omega)):=Qp (by omega);have:=QgR (hm.get hb);simp only[h,O,decide_true,Ql,YI h,hb,Qa,this,UD,Ki,GI]
  simp[h,O]
 simp[h]
def Zr (hm:okM m):Bi n m=C (Zq n m):=by
 unfold Bi Qdr;rw[Qgz hm,Zq];by_cases h0:m.length=n.Places.length
 ·have h:((m.length:Int) != (n.Places.length:Int))=false:=by rw[h0];simp
  have h0d:decide (m.length=n.Places.length)=true:=Qt h0;simp only[h,h0d,decide_true,Qi,Qa,UD];by_cases h1:0<=n.To
  ·by_cases h2:n.To<m.length
   ·have O:n.To<n.Places.length:=by rw[<-h0];exact h2
    have hb:m[n.To.toNat]? = C (m[n.To.toNat]'(by omega)):=Qp (by omega);have e:Qh (λst=>Mh m n st) 0=C (bif BT (λi b=>BV b != (bif (i:Int)==n.To then 1 else 0)) 0 m then .inl ()else .inr ():Unit⊕Unit):=by
     refine SH (l:=m) (λi=>(i:Int)) _ (Sum.inl ()) (Sum.inr ()) ?_ ?_ rfl
     ·intro i x hi hx;have h3:(i:Int)<m.length:=by omega
      have:=QgR (hm.get hx);unfold Mh Mg;simp only[h3,decide_true,Ql,Qs,hx,Qa,this,Qj hi hm.1];cases (i:Int)==n.To with
      | true=>show(bif BV x != 1 then _ else _)=C (bif BV x != 1 then _ else _);cases BV x != 1<;>rfl
      | false=>show(bif BV x != 0 then _ else _)=C (bif BV x != 0 then _ else _);cases BV x != 0<;>rfl
     unfold Mh;simp
    simp only[h1,h2,O,decide_true,UD,hb,Ki,GI];unfold CD;rw[e];by_cases h4:0<BV (m[n.To.toNat]'(by omega))
    ·simp only[h4,decide_true,JD,Qi];cases BT _ 0 m<;>rfl
    simp only[h4,decide_false,PY,Ql];congr 1;symm;rw[Fy,Qgi];refine⟨n.To.toNat,_,hb,?_⟩;have:(((0+n.To.toNat:Nat):Int)==n.To)=true:=by simp;omega
    rw[this];simp;omega
   have O:¬n.To<n.Places.length:=by rw[<-h0];exact h2
   simp[h1,h2,O,CD]
  simp[h1,CD]
 have h:((m.length:Int) != (n.Places.length:Int))=true:=by simp;omega
 simp[h,h0,CD]
def QgT (hm:okM m):Ll n m=C (Zq n m):=by
 unfold Ll;rw[Zq];by_cases h0:m.length=n.Places.length
 ·have h:((m.length:Int) != (n.Places.length:Int))=false:=by rw[h0];simp
  have h0d:decide (m.length=n.Places.length)=true:=Qt h0;by_cases h1:0<=n.To
  ·by_cases h2:n.To<m.length
   ·have h2':n.To<n.Places.length:=by rw[<-h0];exact h2
    have h1':¬n.To<0:=by omega
    have O:¬(m.length:Int)<=n.To:=by omega
    have e:Qh (λst=>IK m n st) 0=C (bif BT (λi b=>BV b != (bif (i:Int)==n.To then 1 else 0)) 0 m then .inl ()else .inr ():Unit⊕Unit):=by
     refine SH (l:=m) (λi=>(i:Int)) _ (Sum.inl ()) (Sum.inr ()) ?_ ?_ rfl
     ·intro i x hi hx;have h3:(i:Int)<m.length:=by omega
      have:=QgS (hm.get hx);unfold IK;simp only[h3,decide_true,Ql,Qs,hx,Qa,this,Qj hi hm.1];cases hc:(i:Int)==n.To
      ·simp only[Qi];have:((i:Int) != n.To)=true:=by rw[bne,hc];rfl
       rw[this,UD];show(bif BV x != 0 then _ else _)=C (bif BV x != 0 then _ else _);cases BV x != 0<;>rfl
      simp only[Ql];have:((i:Int) != n.To)=false:=by rw[bne,hc];rfl
      rw[this,SY,Ta];show(bif BV x != 1 then _ else _)=C (bif BV x != 1 then _ else _);cases BV x != 1<;>rfl
     unfold IK;simp
    simp only[h,h0d,h1,h1',h2,O,decide_true,decide_false,UD,Ta,Qi,e,Qa];cases BT _ 0 m<;>rfl
   have h2':¬n.To<n.Places.length:=by rw[<-h0];exact h2
   have O:(m.length:Int)<=n.To:=by omega
   simp[h,h0d,h1,h2,O]
  have h1':n.To<0:=by omega
  simp[h,h0d,h1,h1']
 have h:((m.length:Int) != (n.Places.length:Int))=true:=by simp;omega
 simp[h,h0]
def Qan (n:Qd)(s:Qu):LI_:=Km (Zq n) 0 s.States
def QtP (h:KV s):TN n s=C (Qan n s):=by
 unfold TN;rw[Hw (l:=s.States) (Zq n)]
 ·rfl
 ·intro i O x ha hi hx;have h1:(i:Int)<s.States.length:=by omega
  have hst:=h.st;have hc:decide (O.length+([(i:Int)]:LI_).length<=4294967296)=true:=Qt (by simp;omega);simp only[TM,Mj,h1,decide_true,Ql,Qs,hx,Qa,Qj hi h.ok.1,Zr (h.get hx),GV hc];cases Zq n x<;>rfl
 intro O;simp[TM]
def Qqn (h:KV s):RD n s=C (Qan n s):=by
 unfold RD;rw[Hw (l:=s.States) (Zq n)]
 ·rfl
 ·intro i O x ha hi hx;have h1:(i:Int)<s.States.length:=by omega
  have hst:=h.st;have hc:decide (O.length+([(i:Int)]:LI_).length<=4294967296)=true:=Qt (by simp;omega);simp only[SD,IL,h1,decide_true,Ql,Qs,hx,Qa,Qj hi h.ok.1,QgT (h.get hx),GV hc];cases Zq n x<;>rfl
 intro O;simp[SD]
end Go.Proofs
noncomputable section
namespace Go.Proofs
open Go Go.RowKit Go.Vm Go.Rk
open Option renaming some→C
variable {n:Nat}
abbrev Sp := QA
def fk (x:Sp):Int:=x.far
def Qeh {l:L_ Sp}{i k:Nat}{x y:Sp}(hx:l[i]? = C x)(h:l[k]? = C y):Ea l (i:Int) (k:Int)=C ((l.set i y).set k x):=by
 have O:=(QX.1 h).1;unfold Ea;simp only[Qs,hx,h,Qa,Xs];rw[Qp (by simpa using O)];rfl
def Qei {l:L_ Sp}{i k:Nat}{x y:Sp}(h:l[i]? = C x)(O:l[k]? = C y):GZ l (i:Int) (k:Int)=C (decide (fk x<fk y)):=by
 unfold GZ;simp only[Qs,h,O,Qa];rfl
def Qxv (hn:n<=1000000000):∀(j:Nat) (l:L_ Sp),l.length=n->j<n->Qef fk l n j->∃l',BC l (j:Int)=C l'/\l'.Perm l/\UC fk l' n:=by
 intro j l hl hj O;unfold BC;have key:∃r,Qh (λst:Int×L_ Sp=>Fp st.1 st.2) ((j:Int),l)=C r/\(r.Perm l/\UC fk r n):=by
  refine SL (λs:Int×L_ Sp=>∃j:Nat,s.1=(j:Int)/\s.2.length=n/\j<n/\Qef fk s.2 n j/\s.2.Perm l) (λs:Int×L_ Sp=>s.1.toNat) (λr=>r.Perm l/\UC fk r n) ?_ ((j:Int),l) ⟨j,rfl,hl,hj,O,List.Perm.refl _⟩;rintro ⟨j0,l⟩ ⟨j,rfl,hl,hj,O,hp⟩;simp only at hl hj O hp ⊢;unfold Fp PO;by_cases h0:j=0
  ·subst h0;right;refine⟨l,?_,hp,O.done (.inl rfl)⟩;rw[show(Qe (Int.tdiv (Qe (((0:Nat):Int)-1)) 2)==((0:Nat):Int))=true by rw[Xh (n:=((0:Nat):Int)-1) (by omega),Xh (by decide)];rfl];rfl
  have e1:Qe ((j:Int)-1)=((j-1:Nat):Int):=by rw[Xh (by omega)];omega
  have e2:Qe (Int.tdiv ((j-1:Nat):Int) 2)=(((j-1) / 2:Nat):Int):=by
   rw[show Int.tdiv ((j-1:Nat):Int) 2=(((j-1) / 2:Nat):Int)from rfl,Xh (by omega)]
  have hx:l[(j-1) / 2]? = C (l[(j-1) / 2]'(by omega)):=Qp (by omega);have hy:l[j]? = C (l[j]'(by omega)):=Qp (by omega);have e3:((((j-1) / 2:Nat):Int)==(j:Int))=false:=by simp;omega
  simp only[e1,e2,e3,Qi,Qei hy hx,Qa];unfold PP;by_cases h:fk (l[j]'(by omega))<fk (l[(j-1) / 2]'(by omega))
  ·left;refine⟨((((j-1) / 2:Nat):Int),(l.set ((j-1) / 2) (l[j]'(by omega))).set j (l[(j-1) / 2]'(by omega))),?_,⟨(j-1) / 2,rfl,by simpa using hl,by omega,O.step (by omega) hx hy h hj,(QlZ hx hy).trans hp⟩,by simp;omega⟩;simp only[h,decide_true,JD,Qi,e1,e2,Qeh hx hy,Qa];rw[YR (by simp)];rfl
  right;refine⟨l,?_,hp,O.done (.inr ?_)⟩
  ·simp only[h,decide_false,PY,Ql]
  rw[Am hx,Am hy];omega
 obtain⟨r,h1,h2⟩:=key;exact⟨r,by rw[h1];rfl,h2⟩
def QpI {l:L_ Sp}(x:Sp)(h:UC fk l l.length)(hn:l.length<1000000000):∃O,Gs l x=C O/\O.Perm (x::l)/\UC fk O O.length:=by
 obtain⟨O,h1,h2,h3⟩:=Qxv (n:=l.length+1) (by omega) l.length (l++[x]) (by simp) (by omega) h.append;refine⟨O,?_,h2.trans (List.perm_append_singleton _ _),by rw[h2.length_eq];simpa using h3⟩;unfold Gs Pq Bj;have e:Qe ((((l++[x]).length:Nat):Int)-1)=(l.length:Int):=by rw[Xh (by simp;omega)];simp
 rw[YR (by simp;omega)];simp only[Qa,e,h1]
def Qvo (hn:n<=1000000000)(l:L_ Sp)(hl:l.length=n+1)(hu:Qeg fk l n 0):∃b l',Gt l 0 (n:Int)=C (b,l')/\l'.Perm l/\UC fk l' n/\l'[n]? = l[n]? := by
 unfold Gt;have key:∃r,Qh (λst:Int×L_ Sp=>Bl (n:Int) st.1 st.2) (0,l)=C r/\(r.2.Perm l/\UC fk r.2 n/\r.2[n]? = l[n]?):=by
  refine SL (λs:Int×L_ Sp=>∃i:Nat,s.1=(i:Int)/\s.2.length=n+1/\i<=n/\Qeg fk s.2 n i/\s.2.Perm l/\s.2[n]? = l[n]?) (λs:Int×L_ Sp=>n-s.1.toNat) (λr:Int×L_ Sp=>r.2.Perm l/\UC fk r.2 n/\r.2[n]? = l[n]?) ?_ (0,l) ⟨0,rfl,hl,by omega,hu,List.Perm.refl _,rfl⟩;rintro ⟨j0,s⟩ ⟨i,rfl,hl,hi,hu,hp,hq⟩;simp only at hl hi hu hp hq ⊢;unfold Bl;have e1:Qe (Qe (2*(i:Int))+1)=((2*i+1:Nat):Int):=by rw[Xh (n:=2*(i:Int)) (by omega),Xh (by omega)];omega
  have e2:Qe (((2*i+1:Nat):Int)+1)=((2*i+2:Nat):Int):=by rw[Xh (by omega)];omega
  have e4:decide (((2*i+1:Nat):Int)<0)=false:=Qz (by omega);rw[e1,e4,Ta];by_cases h0:(n:Int)<=((2*i+1:Nat):Int)
  ·right;refine⟨((i:Int),s),by rw[Qt h0];rfl,hp,hu.done λk h1 h2 h3=>by omega,hq⟩
  rw[Qz h0,Qi];have hg:∃j:Nat,0<j/\(j-1) / 2=i/\j<n/\(∀k,0<k->k<n->(k-1) / 2=i->kv fk s j<=kv fk s k)/\
    (Bk (i:Int) (n:Int) s).bind (λx21=>WQ s (i:Int) x21)=WP s (i:Int) (j:Int):=by
   have h:s[2*i+1]? = C (s[2*i+1]'(by omega)):=Qp (by omega);unfold Bk;rw[e1,e2];by_cases h2:((2*i+2:Nat):Int)<n
   ·have O:s[2*i+2]? = C (s[2*i+2]'(by omega)):=Qp (by omega);by_cases h3:fk (s[2*i+2]'(by omega))<fk (s[2*i+1]'(by omega))
    ·refine⟨2*i+2,by omega,by omega,by omega,λk k1 k2 k3=>?_,?_⟩
     ·have:k=2*i+1\/k=2*i+2:=by omega
      rcases this with rfl | rfl
      ·rw[Am h,Am O];omega
      omega
     simp only[h2,decide_true,Ql,Qei O h,h3,Qa,WQ,e1,e2]
    refine⟨2*i+1,by omega,by omega,by omega,λk k1 k2 k3=>?_,?_⟩
    ·have:k=2*i+1\/k=2*i+2:=by omega
     rcases this with rfl | rfl
     ·omega
     rw[Am h,Am O];omega
    simp only[h2,decide_true,Ql,Qei O h,h3,decide_false,Qi,Qa,WQ,e1,e2]
   refine⟨2*i+1,by omega,by omega,by omega,λk k1 k2 k3=>?_,?_⟩
   ·have:k=2*i+1:=by omega
    subst this;omega
   simp only[h2,decide_false,Qi,Qa,WQ,e1]
  obtain⟨j,j1,j2,j3,j4,he⟩:=hg;rw[he];have h:s[i]? = C (s[i]'(by omega)):=Qp (by omega);have O:s[j]? = C (s[j]'(by omega)):=Qp (by omega);unfold WP;rw[Qei O h,Qa];by_cases hlt:fk (s[j]'(by omega))<fk (s[i]'(by omega))
  ·left;refine⟨((j:Int),(s.set i (s[j]'(by omega))).set j (s[i]'(by omega))),?_,⟨j,rfl,by simpa using hl,by omega,hu.step j1 j2 h O hlt j3 j4,(QlZ h O).trans hp,?_⟩,by simp;omega⟩
   ·simp only[hlt,decide_true,JD,Qi,Qeh h O,Qa];rw[YR (by simp)];rfl
   rw[ND (by omega),ND (by omega)];exact hq
  right;refine⟨((i:Int),s),by simp only[hlt,decide_false,PY,Ql],hp,hu.done λk k1 k2 k3=>?_,hq⟩;have:=j4 k k1 k2 k3;rw[Am O]at this;rw[Am h];omega
 obtain⟨r,h1,h2⟩:=key;exact⟨_,r.2,by rw[h1];rfl,h2⟩
def QwB {l:L_ Sp}(h:UC fk l l.length)(h0:l≠[])(hn:l.length<1000000000):∃x O,AB l=C (x,O)/\l.Perm (x::O)/\UC fk O O.length/\∀y∈O,fk x<=fk y:=by
 obtain⟨n,hl⟩:∃n,l.length=n+1:=⟨l.length-1,by have:=List.length_pos_iff.2 h0;omega⟩;have hx:l[0]? = C (l[0]'(by omega)):=Qp (by omega);have hy:l[n]? = C (l[n]'(by omega)):=Qp (by omega);rw[hl]at h;have hsl:((l.set 0 (l[n]'(by omega))).set n (l[0]'(by omega))).length=n+1:=by simpa using hl
 obtain⟨b,O,h1,h2,h3,h4⟩:=Qvo (n:=n) (by omega) _ hsl (h.swap hx hy);rw[Zw (by simp;omega)]at h4;have hl':O.length=n+1:=by rw[h2.length_eq,hsl]
 have e:Qe ((l.length:Int)-1)=(n:Int):=by rw[Xh (by omega)];omega
 have e':Qe ((O.length:Int)-1)=(n:Int):=by rw[Xh (by omega)];omega
 have hsp:O=O.take n++[l[0]'(by omega)]:=by
  have:=List.take_append_drop n O;rw[Fz (by omega),List.drop_eq_nil_of_le (by omega)]at this;obtain⟨_,h5⟩:=QX.1 h4;rw[h5]at this;exact this.symm
 have hp:l.Perm ((l[0]'(by omega))::O.take n):=by
  refine((QlZ hx hy).symm.trans h2.symm).trans ?_;have:(O.take n++[l[0]'(by omega)]).Perm ((l[0]'(by omega))::O.take n):=List.perm_append_singleton _ _;rwa[<-hsp]at this
 refine⟨l[0]'(by omega),O.take n,?_,hp,?_,λy hy'=>?_⟩
 ·unfold AB Bj Sl;have:=Qeh hx hy;simp only[Int.natCast_zero]at this;simp only[Qa,e,show(0:Int)=((0:Nat):Int)from rfl,Qeh hx hy];rw[YR (by simp)];simp only[Qa];rw[show Gt ((l.set 0 (l[n]'(by omega))).set n (l[0]'(by omega))) ((0:Nat):Int) (n:Int)=C (b,O)from h1];simp only[Qa,e',Qs,h4];rw[GV (by simp[hl'])];simp
 ·rw[KX,IU (by omega)];exact h3.congr λk hk=>List.getElem?_take_of_lt hk
 have hm:y∈l:=hp.symm.subset (Yb _ hy');obtain⟨i,hi⟩:=En.1 hm;have:=h.least i (by have:=(QX.1 hi).1;omega);rw[Am hi,Am hx]at this;exact this
end Go.Proofs
noncomputable section
namespace Go.Proofs
open Go Go.RowKit Go.Vm Go.Rk
variable {s:Qu}{m:L_ (Int×LI_)}{gs:LI_}
def Qxw {k:Int}:Nm s k=some (decide (Yt s.States.length k)):=by
 unfold Nm;refine congrArg some ?_;rw[NC,decide_eq_true_iff,QJ,decide_eq_true_iff,decide_eq_true_iff];exact Iff.rfl
def Qse {e:QC}:Rb s e=some (cnt s e):=by
 unfold Rb Qb2 Qb3 Nm cnt;cases (decide (0<=e.From)&&decide (e.From<(s.States.length:Int)))<;>rfl
def Qvp (h:KV s):∃m,Qh (λst:Int×L_ (Int×LI_)=>Re s st.1 st.2) (0,[])=some m/\∀k,(Qr m k).getD []=Js (s.Edges.filter (cnt s)) k:=by
 have hed:=h.ed;refine JC s.Edges.length (λi st=>st.1=(i:Int)/\∀k,(Qr st.2 k).getD []=Js ((s.Edges.take i).filter (cnt s)) k) _ (λi st hi hs=>?_) (λst hs=>?_) (0,[]) ⟨rfl,λk=>by simp[Js,Qr]⟩
 ·obtain⟨j,m⟩:=st;obtain⟨hj,O⟩:=hs;simp only at hj O;subst hj;left;have h1:(i:Int)<s.Edges.length:=by omega
  have ht:s.Edges.take (i+1)=s.Edges.take i++[s.Edges[i]]:=Td hi;unfold Re Rc;simp only[h1,decide_true,Ql,Qs,Qp hi,Qa,Qse,Qj hi h.ok.2.1];cases hc:cnt s s.Edges[i]with
  | false=>
   refine⟨_,rfl,rfl,λk=>?_⟩;rw[ht,Tb,Bx,hc];simpa using O k
  | true=>
   have hlen:(Js ((s.Edges.take i).filter (cnt s)) s.Edges[i].To).length<=130023424:=by
    unfold Js;rw[EY];refine XZ (LV _ _) (XZ (LV _ _) ?_);rw[KX];omega
   simp only[Ql,O];rw[YR (show(Js ((s.Edges.take i).filter (cnt s)) s.Edges[i].To).length+([s.Edges[i].From]:LI_).length<=4294967296 by simp only[Bz];omega)];refine⟨_,rfl,rfl,λk=>?_⟩;simp only[Kb];have e:Js ((s.Edges.take (i+1)).filter (cnt s)) k=Js ((s.Edges.take i).filter (cnt s)) k++(if s.Edges[i].To=k then [s.Edges[i].From]else []):=by
    rw[ht,Tb,Bx,hc];unfold Js;by_cases c:s.Edges[i].To=k<;>simp[c]
   rw[e];by_cases c:k=s.Edges[i].To
   ·subst c;simp
   rw[if_neg c,if_neg (λe=>c e.symm),O k];simp
 obtain⟨j,m⟩:=st;obtain⟨hj,O⟩:=hs;simp only at hj O;subst hj;refine⟨m,by simp[Re],λk=>?_⟩;rw[O k,UG]
def Qvq (h:KV s):Qh (λst:Int×LI_=>Lf s st.1 st.2) (0,List.replicate (s.States.length:Int).toNat 0)=some (List.replicate s.States.length (-1)):=by
 have key:∃r,Qh (λst:Int×LI_=>Lf s st.1 st.2) (0,List.replicate (s.States.length:Int).toNat 0)=some r/\r=List.replicate s.States.length (-1):=by
  refine JC s.States.length (λi st=>st=((i:Int),List.replicate i (-1)++List.replicate (s.States.length-i) 0)) _ (λi st hi hs=>?_) (λst hs=>?_) _ (by simp)
  ·subst hs;left;have O:(i:Int)<((List.replicate (s.States.length:Int).toNat (0:Int)).length:Int):=by simp;omega
   have e:s.States.length-i=(s.States.length-(i+1))+1:=by omega
   have hx:(List.replicate i (-1:Int)++List.replicate (s.States.length-i) (0:Int))[i]? = some 0:=by
    rw[Kn (by simp),e];simp
   refine⟨(((i+1:Nat):Int),List.replicate (i+1) (-1)++List.replicate (s.States.length-(i+1)) 0),?_,rfl⟩;unfold Lf;simp only[O,decide_true,Ql,Qs,hx,Qa,Qj hi h.ok.1];rw[show((i:Int)).toNat=i from rfl,QiC _ _ (by simp),e];simp[List.replicate_succ' (n:=i),List.replicate_succ]
  subst hs;refine⟨_,?_,rfl⟩;unfold Lf;simp
 obtain⟨r,O,h2⟩:=key;rw[O,h2]
structure QrG (s:Qu) (gs:List Int) (M:Nat) (out:List Int) (w:List Sp):Prop where
 len:out.length=s.States.length
 lo:∀k,-1<=av out k
 hp:UC fk w w.length
 goal:∀g,g∈gs->Yt s.States.length g->av out g=0\/QA.mk g 0∈w
 edge:∀u v,(u,v)∈es s->Yt s.States.length u->Yt s.States.length v->0<=av out v->(0<=av out u/\av out u<=av out v+1)\/QA.mk u (av out v+1)∈w
 back:∀k,0<=av out k->(av out k=0/\k∈gs)\/∃v,(k,v)∈es s/\Yt s.States.length v/\0<=av out v/\av out k=av out v+1
 wt:∀x,x∈w->Yt s.States.length x.state/\((x.far=0/\x.state∈gs)\/∃v,(x.state,v)∈es s/\Yt s.States.length v/\0<=av out v/\x.far=av out v+1)
 ord:∀k x,x∈w->av out k<=x.far
 bnd:∀x,x∈w->x.far+((w.length+((s.Edges.filter (cnt s)).countP λe=>decide (av out e.To<0)):Nat):Int)<=M
 sz:w.length+((s.Edges.filter (cnt s)).countP λe=>decide (av out e.To<0))<=M
def QtQ {x:Sp}{w0:L_ Sp}(r:L_ Sp)(fr:LI_)(hm:(Qr m x.state).getD []=fr)(hw:UC fk r r.length)(hb:r.length+fr.length<1000000000)(hx:0<=x.far/\x.far<=1000000000):
  ∃l,Qh (λst:Int×L_ Sp=>Rh m (x,w0) st.1 st.2) (0,r)=some l/\UC fk l l.length/\l.length=r.length+fr.length/\∀y,y∈l↔y∈r\/∃u∈fr,y=QA.mk u (x.far+1):=by
 refine JC fr.length (λi st=>st.1=(i:Int)/\UC fk st.2 st.2.length/\st.2.length=r.length+i/\∀y,y∈st.2↔y∈r\/∃u∈fr.take i,y=QA.mk u (x.far+1)) _ (λi st hi hs=>?_) (λst hs=>?_) (0,r) ⟨rfl,hw,rfl,by simp⟩
 ·obtain⟨j,l⟩:=st;obtain⟨hj,O,h2,h3⟩:=hs;simp only at hj O h2 h3;subst hj;left;have hi':(i:Int)<fr.length:=by omega
  obtain⟨l',p1,p2,p3⟩:=QpI (QA.mk fr[i] (x.far+1)) O (by omega);unfold Rh;simp only[hm,hi',decide_true,Ql,Qs,Qp hi,Qa,Xh (show -9223372036854775808<=x.far+1/\x.far+1<=9223372036854775807 by omega),p1,Qj hi (show fr.length<=maxLen by unfold maxLen;omega)];refine⟨_,rfl,rfl,p3,by rw[p2.length_eq];simp;omega,λy=>?_⟩;rw[p2.mem_iff,XV,h3,Td hi];simp only[XU,Da];constructor
  ·rintro (h | h | ⟨u,hu,h⟩)
   ·exact .inr ⟨_,.inr rfl,h⟩
   ·exact .inl h
   exact .inr ⟨u,.inl hu,h⟩
  rintro (h | ⟨u,hu | hu,h⟩)
  ·exact .inr (.inl h)
  ·exact .inr (.inr ⟨u,hu,h⟩)
  subst hu;exact .inl h
 obtain⟨j,l⟩:=st;obtain⟨hj,O,h2,h3⟩:=hs;simp only at hj O h2 h3;subst hj;refine⟨l,?_,O,h2,λy=>by rw[h3,UG]⟩;unfold Rh;simp[hm]
def QrG.round {M:Nat}(hM:M<=200000000)(hm:∀k,(Qr m k).getD []=Js (s.Edges.filter (cnt s)) k){out:LI_}{w:L_ Sp}(I:QrG s gs M out w)(hw:w≠[]):
  ∃out' w',Ri m out w=some (.inl (out',w'))/\QrG s gs M out' w'/\w'.length+((s.Edges.filter (cnt s)).countP λe=>decide (av out' e.To<0))<w.length+((s.Edges.filter (cnt s)).countP λe=>decide (av out e.To<0)):=by
 have hsz:=I.sz;have hpos:=List.length_pos_iff.2 hw;obtain⟨x,r,p1,p2,p3,p4⟩:=QwB I.hp hw (by omega);have hxm:x∈w:=p2.symm.subset XD;have hrm:∀y∈r,y∈w:=λy hy=>p2.symm.subset (Yb _ hy);have hmem:∀y,y∈w->y=x\/y∈r:=λy hy=>XV.1 (p2.subset hy);have hlen:w.length=r.length+1:=by rw[p2.length_eq];rfl
 obtain⟨hxr,hxw⟩:=I.wt x hxm;have hxr':Yt out.length x.state:=by rw[I.len];exact hxr
 have hx0:0<=x.far:=by
  rcases hxw with⟨h,_⟩|⟨v,_,_,h1,h2⟩<;>omega
 have hxb:=I.bnd x hxm;have hgo:=EA hxr';unfold Ri LN;have hwl:(0:Int)<w.length:=by omega
 simp only[Qa,hwl,decide_true,Ql,p1,YI hxr.1,hgo];by_cases hs:0<=av out x.state
 ·
  refine⟨out,r,by simp[hs],?_,by omega⟩;have hle:=I.ord x.state x hxm;refine { len:=I.len,lo:=I.lo,hp:=p3,goal:=λg hg hr=>?_,edge:=λu v h1 h2 h3 h4=>?_,back:=I.back,wt:=λy hy=>I.wt y (hrm y hy),ord:=λk y hy=>I.ord k y (hrm y hy),bnd:=λy hy=>by have:=I.bnd y (hrm y hy);omega,sz:=by omega }
  ·rcases I.goal g hg hr with h | h
   ·exact .inl h
   rcases hmem _ h with h | h
   ·subst h;left;simp only at hs hle;omega
   exact .inr h
  rcases I.edge u v h1 h2 h3 h4 with h | h
  ·exact .inl h
  rcases hmem _ h with h | h
  ·subst h;left;simp only at hs hle;exact⟨hs,hle⟩
  exact .inr h
 
 have hold:av out x.state=-1:=by have:=I.lo x.state;omega
 have O:∀k,av (out.set x.state.toNat x.far) k=if k=x.state then x.far else av out k:=QnV x.far hxr';have hne:∀k,0<=av out k->k≠x.state:=λk hk e=>by subst e;omega
 have hcount:(s.Edges.filter (cnt s)).countP (λe=>decide (av out e.To<0))=(s.Edges.filter (cnt s)).countP (λe=>decide (av (out.set x.state.toNat x.far) e.To<0))+(Js (s.Edges.filter (cnt s)) x.state).length:=by
  unfold Js;rw[EY,<-List.countP_eq_length_filter];refine Qix λe he=>?_;rw[O];by_cases c:e.To=x.state
  ·left;refine⟨by rw[c];simp;omega,.inr ⟨by rw[if_pos c];simp;omega,by simp[c]⟩⟩
  rw[if_neg c];by_cases c2:av out e.To<0
  ·left;exact⟨by simp[c2],.inl ⟨by simp[c2],by simp[c]⟩⟩
  right;exact⟨by simp[c2],by simp[c2],by simp[c]⟩
 obtain⟨l,q1,q2,q3,q4⟩:=QtQ (m:=m) (x:=x) (w0:=r) r _ (hm x.state) p3 (by omega) ⟨hx0,by omega⟩;refine⟨out.set x.state.toNat x.far,l,by simp only[hs,decide_false,Qi];rw[q1];rfl,?_,by omega⟩;have hadd:∀u,u∈Js (s.Edges.filter (cnt s)) x.state->QA.mk u (x.far+1)∈l:=λu hu=>(q4 _).2 (.inr ⟨u,hu,rfl⟩);have hkeep:∀y,y∈r->y∈l:=λy hy=>(q4 _).2 (.inl hy);have hall:∀k,av (out.set x.state.toNat x.far) k<=x.far:=λk=>by
  rw[O];split
  ·exact Qa2 _
  exact I.ord k x hxm
 refine { len:=by simpa using I.len,lo:=λk=>?_,hp:=q2,goal:=λg hg hr=>?_,edge:=λu v h1 h2 h3 h4=>?_,back:=λk hk=>?_,wt:=λy hy=>?_,ord:=λk y hy=>?_,bnd:=λy hy=>?_,sz:=by omega }
 ·rw[O];split
  ·omega
  exact I.lo k
 ·rw[O];by_cases c:g=x.state
  ·rw[if_pos c];rcases I.goal g hg hr with h | h
   ·rw[c]at h;omega
   have h5:=I.ord x.state _ h;rcases hmem _ h with h | h
   ·rw[<-h];exact .inl rfl
   have:=p4 _ h;simp only[fk]at this;left;omega
  rw[if_neg c];rcases I.goal g hg hr with h | h
  ·exact .inl h
  rcases hmem _ h with h | h
  ·rw[<-h]at c;exact absurd rfl c
  exact .inr (hkeep _ h)
 ·rw[O,O];rw[O]at h4;by_cases cv:v=x.state
  ·rw[if_pos cv];right;exact hadd u (Qeb.2 ⟨cv▸h1,h2,hxr⟩)
  rw[if_neg cv]at h4 ⊢;rcases I.edge u v h1 h2 h3 h4 with⟨h5,h6⟩|h
  ·rw[if_neg (hne u h5)];exact .inl ⟨h5,h6⟩
  rcases hmem _ h with h | h
  ·left;have e1:x.state=u:=by rw[<-h]
   have e2:x.far=av out v+1:=by rw[<-h]
   rw[if_pos e1.symm];omega
  exact .inr (hkeep _ h)
 ·rw[O]at hk ⊢;by_cases c:k=x.state
  ·rw[if_pos c];subst c;rcases hxw with⟨h1,h2⟩|⟨v,h1,h2,h3,h4⟩
   ·exact .inl ⟨h1,h2⟩
   exact .inr ⟨v,h1,h2,by rw[O,if_neg (hne v h3)];exact⟨h3,h4⟩⟩
  rw[if_neg c]at hk ⊢;rcases I.back k hk with h | ⟨v,h1,h2,h3,h4⟩
  ·exact .inl h
  exact .inr ⟨v,h1,h2,by rw[O,if_neg (hne v h3)];exact⟨h3,h4⟩⟩
 ·rcases(q4 y).1 hy with h | ⟨u,hu,rfl⟩
  ·obtain⟨h1,h2⟩:=I.wt y (hrm y h);refine⟨h1,?_⟩;rcases h2 with h | ⟨v,h1,h2,h3,h4⟩
   ·exact .inl h
   exact .inr ⟨v,h1,h2,by rw[O,if_neg (hne v h3)];exact⟨h3,h4⟩⟩
  obtain⟨h1,h2,h3⟩:=Qeb.1 hu;exact⟨h2,.inr ⟨x.state,h1,h3,by rw[O,if_pos rfl];exact⟨hx0,rfl⟩⟩⟩
 ·have:=hall k;rcases(q4 y).1 hy with h | ⟨u,hu,rfl⟩
  ·have:=p4 y h;unfold fk at this;omega
  simp only;omega
 rcases(q4 y).1 hy with h | ⟨u,hu,rfl⟩
 ·have:=I.bnd y (hrm y h);omega
 simp only;omega
def QwC (h:KV s)(hg:gs.length<=1000):∃out,Oi s gs=some out/\DH s.States.length (es s) gs out:=by
 obtain⟨m,m1,m2⟩:=Qvp h;have hed:=h.ed;unfold Oi;rw[m1];simp only[Qa];unfold QeZ;rw[GV (by have:=h.st;simp;omega)];simp only[Qa];rw[Qvq h];simp only[Qa];unfold QeY;have hav:∀k,av (List.replicate s.States.length (-1)) k=-1:=λk=>by
  by_cases hr:Yt (List.replicate s.States.length (-1:Int)).length k
  ·have O:=EA hr;rw[List.getElem?_replicate]at O;split at O
   ·exact(Option.some.inj O).symm
   cases O
  exact VC hr
 have hcp:∀l:L_ QC,l.countP (λe=>decide (av (List.replicate s.States.length (-1)) e.To<0))=l.length:=λl=>by
  rw[List.countP_eq_length];intro e _;rw[hav];rfl
 have hce:(s.Edges.filter (cnt s)).length<=s.Edges.length:=LV _ _;have k1:∃w,Qh (λst:Int×L_ Sp=>Rg gs s st.1 st.2) (0,[])=some w/\QrG s gs 130024424 (List.replicate s.States.length (-1)) w:=by
  refine JC gs.length (λi st=>st.1=(i:Int)/\UC fk st.2 st.2.length/\st.2.length<=i/\∀y,y∈st.2↔∃g∈gs.take i,Yt s.States.length g/\y=QA.mk g 0) _ (λi st hi hs=>?_) (λst hs=>?_) (0,[]) ⟨rfl,λi _ h=>by simp at h,Yx _,by simp⟩
  ·obtain⟨j,l⟩:=st;obtain⟨hj,O,h2,h3⟩:=hs;simp only at hj O h2 h3;subst hj;left;have hi':(i:Int)<gs.length:=by omega
   unfold Rg Rf;simp only[hi',decide_true,Ql,Qs,Qp hi,Qa,Qxw,Qj hi (show gs.length<=maxLen by unfold maxLen;omega)];by_cases c:Yt s.States.length gs[i]
   ·obtain⟨l',p1,p2,p3⟩:=QpI (QA.mk gs[i] 0) O (by omega);simp only[c,decide_true,Ql,p1,Qa];refine⟨(((i+1:Nat):Int),l'),rfl,rfl,p3,by rw[p2.length_eq];simp;omega,λy=>?_⟩;rw[p2.mem_iff,XV,h3,Td hi];simp only[XU,Da];constructor
    ·rintro (h | ⟨g,hg,h⟩)
     ·exact⟨_,.inr rfl,c,h⟩
     exact⟨g,.inl hg,h⟩
    rintro ⟨g,hg | hg,O,h2⟩
    ·exact .inr ⟨g,hg,O,h2⟩
    subst hg;exact .inl h2
   simp only[c,decide_false,Qi];refine⟨(((i+1:Nat):Int),l),rfl,rfl,O,by simp only;omega,λy=>?_⟩;rw[h3,Td hi];simp only[XU,Da];constructor
   ·rintro ⟨g,hg,h⟩;exact⟨g,.inl hg,h⟩
   rintro ⟨g,hg | hg,O,h2⟩
   ·exact⟨g,hg,O,h2⟩
   subst hg;exact absurd O c
  obtain⟨j,l⟩:=st;obtain⟨hj,O,h2,h3⟩:=hs;simp only at hj O h2 h3;subst hj;rw[UG]at h3;refine⟨l,by simp[Rg],?_⟩;have hm:∀y,y∈l->Yt s.States.length y.state/\y.state∈gs/\y.far=0:=λy hy=>by
   obtain⟨g,g1,g2,rfl⟩:=(h3 y).1 hy;exact⟨g2,g1,rfl⟩
  refine { len:=by simp,lo:=λk=>by rw[hav];omega,hp:=O,goal:=λg hg hr=>.inr ((h3 _).2 ⟨g,hg,hr,rfl⟩),edge:=λu v _ _ _ h=>by rw[hav]at h;omega,back:=λk hk=>by rw[hav]at hk;omega,wt:=λy hy=>⟨(hm y hy).1,.inl ⟨(hm y hy).2.2,(hm y hy).2.1⟩⟩,ord:=λk y hy=>by rw[hav,(hm y hy).2.2];omega,bnd:=λy hy=>?_,sz:=?_ }
  ·rw[(hm y hy).2.2,hcp];omega
  rw[hcp];omega
 obtain⟨w,w1,w2⟩:=k1;rw[w1];simp only[Qa];unfold QeX;have k2:∃r,Qh (λst:LI_×L_ Sp=>Ri m st.1 st.2) (List.replicate s.States.length (-1),w)=some r/\DH s.States.length (es s) gs r:=by
  refine SL (λst:LI_×L_ Sp=>QrG s gs 130024424 st.1 st.2) (λst:LI_×L_ Sp=>st.2.length+((s.Edges.filter (cnt s)).countP λe=>decide (av st.1 e.To<0))) _ ?_ _ w2;rintro ⟨out,w⟩ I;simp only at I;by_cases hw:w=[]
  ·right;subst hw;refine⟨out,rfl,{ len:=I.len,lo:=I.lo,goal:=λg O h2=>?_,edge:=λu v O h2 h3 h4=>?_,back:=I.back }⟩
   ·rcases I.goal g O h2 with h | h
    ·exact h
    cases h
   rcases I.edge u v O h2 h3 h4 with h | h
   ·exact h
   cases h
  left;obtain⟨out',w',O,h2,h3⟩:=I.round (by omega) m2 hw;exact⟨(out',w'),O,h2,h3⟩
 obtain⟨r,r1,r2⟩:=k2;exact⟨r,by rw[r1];rfl,r2⟩
end Go.Proofs
noncomputable section
namespace Go.Proofs
open Go Go.RowKit Go.Vm Go.Rk
variable {s:Qu}{gs:LI_}
def QtR {e:QC}:RF s e=some (cnt s e):=by
 unfold RF cnt;simp only[Bool.and_assoc]
def QtS (h:KV s):Qh (λst:Int×LI_=>Hv st.1 st.2) (0,List.replicate (s.States.length:Int).toNat 0)=some (List.replicate s.States.length (-1)):=by
 have key:∃r,Qh (λst:Int×LI_=>Hv st.1 st.2) (0,List.replicate (s.States.length:Int).toNat 0)=some r/\r=List.replicate s.States.length (-1):=by
  refine JC s.States.length (λi st=>st=((i:Int),List.replicate i (-1)++List.replicate (s.States.length-i) 0)) _ (λi st hi hs=>?_) (λst hs=>?_) _ (by simp)
  ·subst hs;left;have O:(i:Int)<((List.replicate i (-1:Int)++List.replicate (s.States.length-i) (0:Int)).length:Int):=by simp;omega
   have e:s.States.length-i=(s.States.length-(i+1))+1:=by omega
   have hx:(List.replicate i (-1:Int)++List.replicate (s.States.length-i) (0:Int))[i]? = some 0:=by
    rw[Kn (by simp),e];simp
   refine⟨(((i+1:Nat):Int),List.replicate (i+1) (-1)++List.replicate (s.States.length-(i+1)) 0),?_,rfl⟩;unfold Hv;simp only[O,decide_true,Ql,Qs,hx,Qa,Qj hi h.ok.1];rw[show((i:Int)).toNat=i from rfl,QiC _ _ (by simp),e];simp[List.replicate_succ' (n:=i),List.replicate_succ]
  subst hs;refine⟨_,?_,rfl⟩;unfold Hv;simp
 obtain⟨r,O,h2⟩:=key;rw[O,h2]
def Qsf {r:Nat}{out:LI_}(h:KV s)(hr:r<=1000)(I:Fu s gs r 0 out):∃O,Qh (λst:Int×LI_=>OL s (r:Int) st.1 st.2) (0,out)=some O/\Fu s gs r s.Edges.length O:=by
 refine JC s.Edges.length (λi st=>st.1=(i:Int)/\Fu s gs r i st.2) _ (λi st hi hs=>.inl ?_) (λst hs=>?_) (0,out) ⟨rfl,I⟩
 ·obtain⟨j,o⟩:=st;obtain⟨hj,I⟩:=hs;simp only at hj I;subst hj;have hi':(i:Int)<s.Edges.length:=by omega
  have he:s.Edges[i]? = some s.Edges[i]:=Qp hi;unfold OL Qff Qfg OK;simp only[hi',decide_true,Ql,Qs,he,Qa,QtR,Qj hi h.ok.2.1];cases c1:cnt s s.Edges[i]with
  | false=>exact⟨_,rfl,rfl,I.stay he λh=>by rw[c1]at h;cases h⟩
  | true=>
   obtain⟨hr1,hr2⟩:=Qbt.1 c1;have g1:=EA (out:=o) (k:=s.Edges[i].To) (by rw[I.len];exact hr2);have g2:=EA (out:=o) (k:=s.Edges[i].From) (by rw[I.len];exact hr1);simp only[Ql,YI hr1.1,YI hr2.1,g1,g2,Qa];by_cases c2:av o s.Edges[i].To=r
   ·rw[show(av o s.Edges[i].To==(r:Int))=true by simpa using c2];simp only[Ql,Qa];by_cases c3:av o s.Edges[i].From<0
    ·simp only[c3,decide_true,Ql,Qa];rw[Xh (show -9223372036854775808<=(r:Int)+1/\(r:Int)+1<=9223372036854775807 by omega)];exact⟨_,rfl,rfl,I.step he c1 c2 c3⟩
    simp only[c3,decide_false,Qi];exact⟨_,rfl,rfl,I.stay he λ_ _=>c3⟩
   rw[show(av o s.Edges[i].To==(r:Int))=false by simpa using c2];exact⟨_,rfl,rfl,I.stay he λ_ h=>absurd h c2⟩
 obtain⟨j,o⟩:=st;obtain⟨hj,I⟩:=hs;simp only at hj I;subst hj;exact⟨o,by simp[OL],I⟩
def Qvr (h:KV s)(hg:gs.length<=1000):∃out,LA s gs=some out/\DH s.States.length (es s) gs out:=by
 have hst:=h.st;unfold LA;rw[GV (by simp;omega)];simp only[Qa];rw[QtS h];simp only[Qa];unfold QdY;have k1:∃o,Qh (λst:Int×LI_=>OJ gs st.1 st.2) (0,List.replicate s.States.length (-1))=some o/\Fu s gs 0 0 o:=by
  refine JC gs.length (λi st=>st.1=(i:Int)/\st.2.length=s.States.length/\∀k,(av st.2 k=-1\/av st.2 k=0)/\(av st.2 k=0↔k∈gs.take i/\Yt s.States.length k)) _ (λi st hi hs=>.inl ?_) (λst hs=>?_) _ ⟨rfl,by simp,λk=>⟨.inl (Qft _ _),by rw[Qft];simp⟩⟩
  ·obtain⟨j,o⟩:=st;obtain⟨hj,h1,O⟩:=hs;simp only at hj h1 O;subst hj;have hi':(i:Int)<gs.length:=by omega
   have he:gs[i]? = some gs[i]:=Qp hi;unfold OJ Qfd Qfe OI;simp only[hi',decide_true,Ql,Qs,he,Qa,Qj hi (show gs.length<=maxLen by unfold maxLen;omega)];have hgs:gs.take (i+1)=gs.take i++[gs[i]]:=Td hi;have hstay:¬Yt s.States.length gs[i]->∀k,(k∈gs.take i/\Yt s.States.length k)↔(k∈gs.take (i+1)/\Yt s.States.length k):=λhn k=>by
    rw[hgs,XU,Da];constructor
    ·rintro ⟨a,b⟩;exact⟨.inl a,b⟩
    rintro ⟨a | a,b⟩
    ·exact⟨a,b⟩
    subst a;exact absurd b hn
   by_cases c1:0<=gs[i]
   ·simp only[c1,decide_true,Ql,Qa];by_cases c2:gs[i]<o.length
    ·have hr:Yt o.length gs[i]:=⟨c1,c2⟩;simp only[c2,decide_true,Ql,Qa,YI c1,EA hr];refine⟨_,rfl,rfl,by simpa using h1,λk=>?_⟩;simp only[QnV 0 hr];rw[hgs,XU,Da];by_cases c:k=gs[i]
     ·rw[if_pos c];refine⟨.inr rfl,λ_=>⟨.inr c,?_⟩,λ_=>rfl⟩;rw[c,<-h1];exact hr
     rw[if_neg c];obtain⟨a,b⟩:=O k;refine⟨a,b.trans ⟨λ⟨x,y⟩=>⟨.inl x,y⟩,?_⟩⟩;rintro ⟨x | x,y⟩
     ·exact⟨x,y⟩
     exact absurd x c
    simp only[c2,decide_false,Qi,Qa];refine⟨_,rfl,rfl,h1,λk=>⟨(O k).1,(O k).2.trans (hstay (λhr=>c2 ?_) k)⟩⟩;rw[h1];exact hr.2
   simp only[c1,decide_false,Qi,Qa];exact⟨_,rfl,rfl,h1,λk=>⟨(O k).1,(O k).2.trans (hstay (λhr=>c1 hr.1) k)⟩⟩
  obtain⟨j,o⟩:=st;obtain⟨hj,h1,O⟩:=hs;simp only at hj h1 O;subst hj;rw[UG]at O;refine⟨o,by simp[OJ],{ len:=h1,lo:=λk=>by rcases(O k).1 with h | h<;>omega,goal:=λg a b=>(O g).2.2 ⟨a,b⟩,back:=λk hk=>.inl ?_,hi:=λk=>by rcases(O k).1 with h | h<;>omega,hi0:=λ_ k=>by rcases(O k).1 with h | h<;>omega,old:=λu v _ _ _ a b=>by omega,cur:=λj _ hj=>by omega }⟩;have e:av o k=0:=by rcases(O k).1 with h | h<;>omega
  exact⟨e,((O k).2.1 e).1⟩
 obtain⟨o,o1,o2⟩:=k1;rw[o1];simp only[Qa];unfold QdX;have k2:∃r,Qh (λst:Int×LI_=>MK s st.1 st.2) (0,o)=some r/\Fu s gs s.States.length 0 r:=by
  refine JC s.States.length (λi st=>st.1=(i:Int)/\Fu s gs i 0 st.2) _ (λi st hi hs=>.inl ?_) (λst hs=>?_) _ ⟨rfl,o2⟩
  ·obtain⟨j,o⟩:=st;obtain⟨hj,I⟩:=hs;simp only at hj I;subst hj;obtain⟨o',h1,O⟩:=Qsf h (by omega) I;have hi':(i:Int)<(o.length:Int):=by rw[I.len];omega
   unfold MK QdW;simp only[hi',decide_true,Ql,h1,Qa,Qj hi h.ok.1];exact⟨_,rfl,rfl,O.next⟩
  obtain⟨j,o⟩:=st;obtain⟨hj,I⟩:=hs;simp only at hj I;subst hj;exact⟨o,by simp[MK,I.len],I⟩
 obtain⟨r,r1,I⟩:=k2;refine⟨r,by rw[r1];rfl,{ len:=I.len,lo:=I.lo,goal:=I.goal,edge:=λu v h1 O h3 h4=>?_,back:=I.back }⟩;refine I.old u v h1 O h3 h4 ?_;rcases QtJ I.len I.back v with h | h
 ·exact h
 unfold Yt at h3;omega
def Qxx (h:KV s)(hg:gs.length<=1000):∃out,Oi s gs=some out/\LA s gs=some out/\DH s.States.length (es s) gs out:=by
 obtain⟨a,a1,O⟩:=QwC h hg;obtain⟨b,b1,b2⟩:=Qvr h hg;obtain rfl:=O.unique b2;exact⟨a,a1,b1,O⟩
end Go.Proofs
noncomputable section
namespace Go.Proofs
open Go Go.RowKit Go.Vm Go.Rk
variable {n:Qd}{s:Qu}
def QtT (h:KV s):(Qan n s).length<=1000:=by
 have:=QlY (Zq n) s.States 0;have:=h.st;unfold Qan;omega
structure Ql0 (n:Qd) (s:Qu) (f:List Int):Prop where
 few:KV s
 far:Oi s (Qan n s)=some f
 ref:LA s (Qan n s)=some f
 is:DH s.States.length (es s) (Qan n s) f
def QsB (h:KV s):∃f,Ql0 n s f:=by
 obtain⟨f,O,h2,h3⟩:=Qxx (gs:=Qan n s) h (QtT h);exact⟨f,h,O,h2,h3⟩
section
variable {n:Qd}{s:Qu}{f:LI_}(E:Ql0 n s f)
include E
theorem Ql0.len : f.length<=40:=by rw[E.is.len];exact E.few.st
theorem Qvs : ZH n s=some f:=by
 unfold ZH;simp only[QtP E.few,Qa,E.far]
theorem QpJ : Lw n s=some (Km (λx=>decide (x<0)) 0 f):=by
 have hl:=E.len;unfold Lw;rw[Qvs E,Qa,Hw (l:=f) (λx=>decide (x<0))]
 ·rfl
 ·intro i h x ha hi hx;have O:(i:Int)<f.length:=by omega
  have hc:decide (h.length+([(i:Int)]:LI_).length<=4294967296)=true:=Qt (by simp;omega);simp only[VX,Oj,O,decide_true,Ql,Qs,hx,Qa,Qj hi (show f.length<=maxLen by unfold maxLen;omega),GV hc];cases decide (x<0)<;>rfl
 intro h;simp[VX]
theorem QrH : Vt n s=some (Km (λx=>decide (x<0)) 0 f):=by
 have hl:=E.len;unfold Vt;rw[Qqn E.few,Qa,E.ref,Qa,Hw (l:=f) (λx=>decide (x<0))]
 ·rfl
 ·intro i h x ha hi hx;have O:(i:Int)<f.length:=by omega
  have hc:decide (h.length+([(i:Int)]:LI_).length<=4294967296)=true:=Qt (by simp;omega);simp only[Vs,ML,O,decide_true,Ql,Qs,hx,Qa,Qj hi (show f.length<=maxLen by unfold maxLen;omega),GV hc];cases decide (x<0)<;>rfl
 intro h;simp[Vs]
end
section
variable {n:Qd}{s:Qu}{f:LI_}(E:Ql0 n s f)
include E
end
section
variable {n:Qd}{s:Qu}{f:LI_}(E:Ql0 n s f)
include E
end
section
variable {n:Qd}{s:Qu}{f:LI_}(E:Ql0 n s f)
include E
end
end Go.Proofs
noncomputable section
namespace Go.Proofs
open Go Go.RowKit Go.Vm Go.Rk
variable {s:Qu}{l:LI_}{x:Int}
def QwD {α:Type}(key:α->Int):∀{l m:L_ α},l.Pairwise (λx y=>key x<key y)->m.Pairwise (λx y=>key x<key y)->(∀x,x∈l↔x∈m)->l=m:=by
 intro l
 induction l with
 | nil=>
  intro m _ _ h;cases m with
  | nil=>rfl
  | cons y m=>exact absurd ((h y).2 XD) (by simp)
 | cons x l ih=>
  intro m hl hm h;cases m with
  | nil=>exact absurd ((h x).1 XD) (by simp)
  | cons y m=>
   obtain⟨hl1,hl2⟩:=FA.1 hl;obtain⟨hm1,hm2⟩:=FA.1 hm;have e:x=y:=by
    rcases XV.1 ((h x).1 XD)with O | O
    ·exact O
    rcases XV.1 ((h y).2 XD)with h2 | h2
    ·exact h2.symm
    have:=hm1 x O;have:=hl1 y h2;omega
   subst e;rw[ih hl2 hm2 λz=>?_];constructor
   ·intro hz;rcases XV.1 ((h z).1 (Yb _ hz))with O | O
    ·subst O;have:=hl1 z hz;omega
    exact O
   intro hz;rcases XV.1 ((h z).2 (Yb _ hz))with O | O
   ·subst O;have:=hm1 z hz;omega
   exact O
def XR (s:Qu):LI_:=s.Edges.map λe=>e.Mode.Task
def QnY (h:KV s):Aa s=some (JH (Kq (XR s))):=by
 have O:=h.ed;unfold Aa;have key:∃r,Qh (λst:Int×LI_=>Ih s st.1 st.2) (0,[])=some r/\r=XR s:=by
  refine JC s.Edges.length (λi st=>st=((i:Int),(XR s).take i)) _ (λi st hi hs=>.inl ?_) (λst hs=>?_) _ (by simp)
  ·subst hs;have h1:(i:Int)<s.Edges.length:=by omega
   have hg:(XR s)[i]? = some s.Edges[i].Mode.Task:=by unfold XR;rw[Yn,Qp hi];rfl
   have hl:i<(XR s).length:=by unfold XR;simpa using hi
   have ht:(XR s).take (i+1)=(XR s).take i++[s.Edges[i].Mode.Task]:=by
    rw[Td hl];congr 2;rw[Qp hl]at hg;exact Option.some.inj hg
   unfold Ih;simp only[h1,decide_true,Ql,Qs,Qp hi,Qa,Qj hi h.ok.2.1];rw[YR (by simp;omega),Qa];exact⟨_,rfl,by rw[ht]⟩
  subst hs;refine⟨(XR s).take s.Edges.length,by simp[Ih],?_⟩;rw[JE (by unfold XR;simp)]
 obtain⟨r,r1,r2⟩:=key;subst r2;have hl:(XR s).length<=130023424:=by unfold XR;simpa using O
 rw[r1,Qa];unfold Qb7 YS Kk;rw[YR (by omega)];simp only[Qa];rw[YR (WJ _)];simp only[Qa];rw[YR (by rw[WJ];omega)];rfl
def Fv (t:Int):LI_->LI_
 | []=>[t]
 | x::r=>if x<t then x::Fv t r else if x=t then x::r else t::x::r
def QwE (t:Int):∀l:LI_,(Fv t l).length<=l.length+1:=by
 intro l
 induction l with
 | nil=>simp[Fv]
 | cons x r h=>
  rw[Fv];split
  ·simpa using h
  split<;>simp
def QrI {t y:Int}:∀{l:LI_},y∈Fv t l↔y=t\/y∈l:=by
 intro l
 induction l with
 | nil=>simp[Fv]
 | cons x r O=>
  rw[Fv];split
  ·rw[XV,O,XV];constructor
   ·rintro (h | h | h)<;>simp[h]
   rintro (h | h | h)<;>simp[h]
  split
  ·rename_i h;subst h;simp
  simp
def Qvt {t:Int}:∀{l:LI_},l.Pairwise (·<·)->(Fv t l).Pairwise (·<·):=by
 intro l
 induction l with
 | nil=>intro _;simp[Fv]
 | cons x r ih=>
  intro h;obtain⟨h1,h2⟩:=FA.1 h;rw[Fv];split
  ·rename_i hlt;refine FA.2 ⟨λy O=>?_,ih h2⟩;rcases QrI.1 O with rfl | O
   ·exact hlt
   exact h1 y O
  split
  ·exact h
  refine FA.2 ⟨λy O=>?_,h⟩;rcases XV.1 O with rfl | O
  ·omega
  have:=h1 y O;omega
def VE (t:Int):LI_->Nat
 | []=>0
 | x::r=>if x<t then VE t r+1 else 0
def Qxy (t:Int):∀l:LI_,VE t l<=l.length:=by
 intro l
 induction l with
 | nil=>simp[VE]
 | cons x r h=>
  rw[VE];split
  ·simpa using h
  simp
def QwF (t:Int):∀l:LI_,Fv t l=if l[VE t l]? = some t then l else l.take (VE t l)++[t]++l.drop (VE t l):=by
 intro l
 induction l with
 | nil=>simp[Fv,VE]
 | cons x r h=>
  rw[Fv,VE];split
  ·rw[h];simp only[Qfy,List.take_succ_cons,List.drop_succ_cons];split<;>simp
  simp only[Ql2,Option.some.injEq];split<;>simp
def QwG (t:Int):∀(l:LI_) (k:Nat),(KM (λ_ x=>!decide (x<t)) k l).elim (((k+l.length:Nat):Int)) (λi=>(i:Int))=((k+VE t l:Nat):Int):=by
 intro l
 induction l with
 | nil=>intro k;simp[KM,VE]
 | cons x r O=>
  intro k;rw[KM,VE];by_cases h:x<t
  ·simp only[h,decide_true,JD,Qi,if_true];have:=O (k+1);rw[We,show k+(r.length+1)=k+1+r.length by omega,this];congr 1;omega
  simp[h]
def Qqo (h:KV s):Lm s=some ((XR s).foldl (λo t=>Fv t o) []):=by
 have hed:=h.ed;unfold Lm;have key:∃r,Qh (λst:Int×LI_=>IP s st.1 st.2) (0,[])=some r/\r=(XR s).foldl (λo t=>Fv t o) []:=by
  refine JC s.Edges.length (λi st=>st.1=(i:Int)/\st.2=((XR s).take i).foldl (λo t=>Fv t o) []/\st.2.length<=i) _ (λi st hi hs=>.inl ?_) (λst hs=>?_) _ ⟨rfl,by simp,by simp⟩
  ·obtain⟨j,o⟩:=st;obtain⟨hj,ho,O⟩:=hs;simp only at hj ho O;subst hj;have h1:(i:Int)<s.Edges.length:=by omega
   have hg:(XR s)[i]? = some s.Edges[i].Mode.Task:=by unfold XR;rw[Yn,Qp hi];rfl
   have hl:i<(XR s).length:=by unfold XR;simpa using hi
   have ht:(XR s).take (i+1)=(XR s).take i++[s.Edges[i].Mode.Task]:=by
    rw[Td hl];congr 2;rw[Qp hl]at hg;exact Option.some.inj hg
   unfold IP;simp only[h1,decide_true,Ql,Qs,Qp hi,Qa];have hin:Qh (λst=>IN o s.Edges[i] st) 0=some ((VE s.Edges[i].Mode.Task o:Nat):Int):=by
    rw[SS (l:=o) (s0:=0) (λi=>(i:Int)) (λ_ x=>!decide (x<s.Edges[i].Mode.Task)) (λi=>(i:Int)) (o.length:Int) ?_ ?_ rfl]
    ·have:=QwG s.Edges[i].Mode.Task o 0;simp only[Ui]at this;rw[this]
    ·intro q x hq hx;have h2:(q:Int)<o.length:=by omega
     unfold IN SE SF;simp only[h2,decide_true,Ql,Qs,hx,Qa,Qj hq (show o.length<=maxLen by unfold maxLen;omega)];cases decide (x<s.Edges[i].Mode.Task)<;>rfl
    unfold IN SE SF;simp
   rw[hin];simp only[Qa];refine⟨(((i+1:Nat):Int),Fv s.Edges[i].Mode.Task o),?_,rfl,?_,?_⟩
   ·have hp:=Qxy s.Edges[i].Mode.Task o;generalize hP:VE s.Edges[i].Mode.Task o=p at hp ⊢;have hins:=QwF s.Edges[i].Mode.Task o;rw[hP]at hins;unfold QcK;have hg5:SG (p:Int) o s.Edges[i]=some (!decide (o[p]? = some s.Edges[i].Mode.Task)):=by
     unfold SG;by_cases c:p=o.length
     ·subst c;simp
     have hpl:p<o.length:=by omega
     have e1:((p:Int)==(o.length:Int))=false:=by simp;omega
     rw[e1,Qi,Qs,Qp hpl,Qa];by_cases d:o[p]=s.Edges[i].Mode.Task<;>simp[d]
    rw[hg5,Qa,hins];unfold QcJ IM;by_cases d:o[p]? = some s.Edges[i].Mode.Task
    ·simp only[d,decide_true,JD,Qi,if_true,Qj hi h.ok.2.1]
    simp only[d,decide_false,PY,Ql,if_false,Qj hi h.ok.2.1];rw[GV (by simp;omega)];simp only[Qa];rw[YR (by simp;omega)];simp only[Qa];rw[YR (by simp;omega)];simp only[Qa];rw[GV (by simp;omega)];simp only[Qa];rw[YR (by simp;omega)];simp only[Qa,Xs,List.drop_zero,Nat.sub_zero,LW];rw[JE (l:=o.drop p) (by simp)]
   ·simp only;rw[ht,List.foldl_append,<-ho];rfl
   have:=QwE s.Edges[i].Mode.Task o;simp only;omega
  obtain⟨j,o⟩:=st;obtain⟨hj,ho,O⟩:=hs;simp only at hj ho O;subst hj;refine⟨o,by simp[IP],?_⟩;rw[ho,JE (by unfold XR;simp)]
 obtain⟨r,r1,r2⟩:=key;rw[r1,r2];rfl
def QyX : ∀(l o:LI_),o.Pairwise (·<·)->(l.foldl (λo t=>Fv t o) o).Pairwise (·<·)/\∀x,x∈l.foldl (λo t=>Fv t o) o↔x∈o\/x∈l:=by
 intro l
 induction l with
 | nil=>intro o h;exact⟨h,λx=>by simp⟩
 | cons t l ih=>
  intro o h;obtain⟨O,h2⟩:=ih (Fv t o) (Qvt h);refine⟨O,λx=>?_⟩;rw[List.foldl_cons,h2,QrI,XV];constructor
  ·rintro ((h | h) | h)<;>simp[h]
  rintro (h | h | h)<;>simp[h]
def QpK:x∈Kq l↔x∈l:=(Tq l).mem_iff
def QnZ (l:LI_):(Kq l).Pairwise (·<=·):=Qeo l
def Qiy:x∈JH l↔x∈l:=by
 unfold JH Lib.compact Lib.compactUpTo;rw[YB];constructor
 ·rintro ⟨i,hi,rfl⟩;have h:=Eo.1 (Ua.1 hi).1;have:l.toArray[i]! = l[i]:=by simp[h]
  rw[this];exact Xn h
 intro hx;obtain⟨i,hi,rfl⟩:=Ct.1 hx;have key:∀i (hi:i<l.length),∃a,a∈(List.range l.length).filter (Lib.keeps l.toArray)/\l.toArray[a]! = l[i]:=by
  intro i
  induction i with
  | zero=>
   intro hi;exact⟨0,Ua.2 ⟨Eo.2 hi,by simp[Lib.keeps]⟩,by simp[hi]⟩
  | succ i ih=>
   intro hi;by_cases c:l[i+1]=l[i]
   ·rw[c];exact ih (by omega)
   refine⟨i+1,Ua.2 ⟨Eo.2 hi,?_⟩,by simp[hi]⟩;have O:l.toArray[i+1]! = l[i+1]:=by simp[hi]
   have h2:l.toArray[i]! = l[i]:=by simp[show i<l.length by omega]
   unfold Lib.keeps;rw[Nat.add_sub_cancel,O,h2];simpa using c
 exact key i hi
def Qn0 (h:l.Pairwise (·<=·)):(JH l).Pairwise (·<·):=by
 unfold JH Lib.compact Lib.compactUpTo;rw[Zx];have hp:((List.range l.length).filter (Lib.keeps l.toArray)).Pairwise (·<·):=List.Pairwise.filter _ List.pairwise_lt_range;refine hp.imp_of_mem λ{i j} hi hj hij=>?_;have hjl:=Eo.1 (Ua.1 hj).1;have O:=(Ua.1 hj).2;have e:∀k,k<l.length->l.toArray[k]! = l.getD k 0:=λk O=>by simp[O]
 unfold Lib.keeps at O;rw[decide_eq_true_iff]at O;rw[e i (by omega),e j hjl];rw[e j hjl,e (j-1) (by omega)]at O;have mono:∀a b,a<=b->b<l.length->l.getD a 0<=l.getD b 0:=λa b hab hb=>by
  rcases Nat.lt_or_eq_of_le hab with h1 | h1
  ·have:=Qa7.1 h a b (by omega) hb h1;simpa[show a<l.length by omega,hb] using this
  subst h1;exact Qa2 _
 have h1:=mono i (j-1) (by omega) (by omega);have h2:=mono (j-1) j (by omega) hjl;rcases O with O | O
 ·omega
 omega
def QtU (h:KV s):∃p,Aa s=some p/\Lm s=some p/\p.length<=130023424:=by
 have O:=h.ed;have hl:(XR s).length<=130023424:=by unfold XR;simpa using O
 have e:JH (Kq (XR s))=(XR s).foldl (λo t=>Fv t o) []:=by
  obtain⟨h1,h2⟩:=QyX (XR s) [] List.Pairwise.nil;exact QwD (λx:Int=>x) (Qn0 (QnZ _)) h1 λx=>by rw[Qiy,QpK,h2];simp
 refine⟨_,QnY h,by rw[Qqo h,e],?_⟩;unfold JH Lib.compact Lib.compactUpTo;rw[EY];refine XZ (LV _ _) ?_;rw[Qa4,WJ];exact hl
end Go.Proofs
noncomputable section
namespace Go.Proofs
open Go Go.RowKit Go.Vm Go.Rk
open Option renaming some→C
variable {n:Qd}{s:Qu}{l:LI_}{m:L_ Bag}
def endB (n:Qd)(m:Mk):Bool:=decide (0<=n.To)&&(decide (n.To<m.length)&&((m[n.To.toNat]?).map λb=>decide (0<BV b)).getD false)
def LU (n:Qd)(m:Mk):Bool:=endB n m&&!Zq n m
def QwH {m:Mk}(h:okM m):GN m (QV.mk n s)=C (LU n m):=by
 unfold GN HH;rw[show Uu (QV.mk n s).net m=C (endB n m)from Qgz h,Qa];unfold LU;cases endB n m with
 | true=>rw[Ql,show Bi (QV.mk n s).net m=C (Zq n m)from Zr h];rfl
 | false=>rfl
def QgU (h:KV s):DU (QV.mk n s)=C ((KM (λ_ m=>LU n m) 0 s.States).elim (-1) λi=>(i:Int)):=by
 unfold DU Kl;show((Qh (λst=>Xz s.States (QV.mk n s) st) 0).bind _).bind _=_;rw[SS (body:=λst=>Xz s.States (QV.mk n s) st) (s0:=(0:Int)) (l:=s.States) (λi=>(i:Int)) (λ_ m=>LU n m) (λi=>.inl (i:Int)) (.inr ()) (λi x hi O=>by
  show Xz s.States (QV.mk n s) i=_;unfold Xz;rw[Qt (by omega),Ql,Qs,O,Qa,QwH (h.get O),Qa,Qj hi h.ok.1];cases LU n x<;>rfl) (by
  show Xz s.States (QV.mk n s) s.States.length=_;unfold Xz;rw[Qz (by omega),Qi]) rfl]
 cases KM (λ_ m=>LU n m) 0 s.States<;>rfl
def Qvu (hl:l.length<=maxLen)(k:Int):XW l k=C (decide (k∈l)):=by
 unfold XW Wc;rw[SS (body:=λst=>XE l k st) (s0:=(0:Int)) (l:=l) (λi=>(i:Int)) (λ_ y=>k==y) (λi=>.inl (i:Int)) (.inr ()) (λi x hi hx=>by
  show XE l k i=_;unfold XE;rw[Qt (by omega),Ql,Qs,hx,Qa,Qj hi hl];cases (k==x)<;>rfl) (by
  show XE l k l.length=_;unfold XE;rw[Qz (by omega),Qi]) rfl]
 cases h:KM (λ_ y=>k==y) 0 l with
 | none=>
  rw[Qz λhk=>?_]
  ·rfl
  obtain⟨i,hi,e⟩:=Ct.1 hk;have:=Qbm h i _ (Qp hi);rw[e]at this;simp at this
 | some i=>
  obtain⟨j,x,h1,O,h3⟩:=Qbl h;rw[Qt (by have:=Xt O;rw[show k=x by simpa using h3];exact this)];show C (decide (0<=(i:Int)))=_;rw[Qt (by omega)]
def QwI (h:l.Pairwise (·<=·)):(JH l).length<=l.length:=QgP ((Qn0 h).imp λO=>by omega) λx hx=>Qiy.1 hx
def Qvv (h:KV s)(ht:n.Tasks.length<=4096):Qg (Ky (QV.mk n s)) λl=>(∀t∈l,0<=t/\t<n.Tasks.length/\t ∉ XR s)/\(l=[]->∀k:Nat,k<n.Tasks.length->(k:Int)∈XR s):=by
 have mx:(130023424:Nat)<=maxLen:=by decide
 have hed:=h.ed;unfold Ky;rw[show Aa (QV.mk n s).space=C (JH (Kq (XR s)))from QnY h,Qa];have O:∀x:Int,x∈JH (Kq (XR s))↔x∈XR s:=λx=>Qiy.trans QpK;have hlen:(JH (Kq (XR s))).length<=maxLen:=by
  have h1:=QwI (QnZ (XR s));have h2:=(Tq (XR s)).length_eq;have h3:(XR s).length=s.Edges.length:=EY _;omega
 generalize JH (Kq (XR s))=D at O hlen ⊢;refine T0 (Qg.up n.Tasks.length (λst:Int×LI_=>st.1) (λst=>(st.2.length:Int)<=st.1/\(∀t∈st.2,0<=t/\t<n.Tasks.length/\t ∉ XR s)/\(st.2=[]->∀k:Nat,(k:Int)<st.1->(k:Int)∈XR s)) (Q:=λl:LI_=>(∀t∈l,0<=t/\t<n.Tasks.length/\t ∉ XR s)/\(l=[]->∀k:Nat,k<n.Tasks.length->(k:Int)∈XR s)) rfl ⟨by simp,λt h=>(by cases h),λ_ k hk=>by omega⟩ (λi st hi hn hJ=>?_)) (λq hq=>T2 hq);obtain⟨x,l⟩:=st;replace hi:x=(i:Int):=hi;subst hi;obtain⟨j1,j2,j3⟩:(l.length:Int)<=(i:Int)/\(∀t∈l,0<=t/\t<n.Tasks.length/\t ∉ XR s)/\(l=[]->∀k:Nat,(k:Int)<(i:Int)->(k:Int)∈XR s):=hJ;show Qg (Wy (QV.mk n s) D i l) _;unfold Wy;refine T1 (λhc=>?_) (λhc=>T2 (Qn ⟨j2,λe k hk=>j3 e k ?_⟩))
 ·replace hc:decide ((i:Int)<(n.Tasks.length:Int))=true:=hc;simp only[Qx]at hc;have i1:i<n.Tasks.length:=by omega
  have hw:Qe ((i:Int)+1)=((i+1:Nat):Int):=Qj i1 (by omega:n.Tasks.length<=maxLen);rw[Qvu hlen,Qa];have k1:∀l':LI_,(l'.length:Int)<=(i:Int)+1->(∀t∈l',0<=t/\t<n.Tasks.length/\t ∉ XR s)->(l'=[]->∀k:Nat,(k:Int)<(i:Int)+1->(k:Int)∈XR s)->Qg (Gu i l') λo=>(∀s',o=.inl s'->i<n.Tasks.length/\s'.1=((i+1:Nat):Int)/\((s'.2.length:Int)<=s'.1/\(∀t∈s'.2,0<=t/\t<n.Tasks.length/\t ∉ XR s)/\(s'.2=[]->∀k:Nat,(k:Int)<s'.1->(k:Int)∈XR s)))/\∀r:LI_,o=.inr r->(∀t∈r,0<=t/\t<n.Tasks.length/\t ∉ XR s)/\(r=[]->∀k:Nat,k<n.Tasks.length->(k:Int)∈XR s):=λl' h1 h2 h3=>by
   unfold Gu;refine T2 ⟨λs' e=>?_,λq e=>by cases e⟩;cases e;refine⟨i1,hw,?_,h2,?_⟩
   ·show(l'.length:Int)<=Qe _;rw[hw];omega
   show l'=[]->∀k:Nat,(k:Int)<Qe _->_;rw[hw];intro e k hk;exact h3 e k (by omega)
  by_cases c:(i:Int)∈D
  ·rw[Qt c];refine k1 l (by omega) j2 λe k hk=>?_;by_cases ck:k=i
   ·subst ck;exact(O _).1 c
   exact j3 e k (by omega)
  rw[Qz c];refine T0 (T5 (by simp;omega)) λ_ _=>k1 _ (by simp;omega) (λt ht=>?_) λe=>by simp at e
  rcases XU.1 ht with ht | ht
  ·exact j2 t ht
  simp at ht;subst ht;exact⟨by omega,by omega,λhk=>c ((O _).2 hk)⟩
 replace hc:decide ((i:Int)<(n.Tasks.length:Int))=false:=hc;simp only[QS]at hc;omega
def Qvw {b tokens:Int}(h:QT n)(O:SOk n m b tokens s)(hb:b<=31)(hE:s.Edges.length<=130023424):KV s:=by
 have hm:QK b<=31:=by unfold QK min2;split<;>omega
 have hpl:=h.pl;have hl:=O.len;exact⟨⟨by unfold maxLen;omega,by unfold maxLen;omega,λy hy=>by
  have hg:=O.good y hy;have:=hg.1.1;exact⟨by unfold maxLen;omega,λb hb=>by have:=(hg.1.2 b hb).2;unfold maxLen;omega⟩⟩,by omega,hE⟩
inductive Told (n:Qd) (s:Qu):Xe->Prop where
 | un:s.Full=false->Told n s (Xe.mk 3 0 0 [])
 | im (k:Nat) (x:Mk) (p:List Qc):s.States[k]? = C x->LU n x=true->YE s (k:Int)=C p->Told n s (Xe.mk 2 1 0 p)
 | lo (k:Nat) (x:Mk) (p:List Qc):s.States[k]? = C x->YE s (k:Int)=C p->Told n s (Xe.mk 2 2 0 p)
 | de (t:Int):0<=t->t<n.Tasks.length->Told n s (Xe.mk 2 3 t [])
 | so (f:List Int):s.Full=true->(∀x∈s.States,LU n x=false)->Ql0 n s f->(∀k:Nat,k<s.States.length->0<=av f (k:Int))->(∀k:Nat,k<n.Tasks.length->(k:Int)∈XR s)->Told n s (Xe.mk 1 0 0 [])
def QtV {b tokens:Int}(h:QT n)(hS:SOk n m b tokens s)(hb:b<=31)(hE:s.Edges.length<=130023424):Qg (KP n s) (Told n s):=by
 have hF:=Qvw h hS hb hE;have htl:=h.tl;unfold KP;refine T1 (λc=>T2 (.un (by simpa using c))) λc=>?_;have c:s.Full=true:=by simpa using c
 have p1:Uv (QV.mk n s)=(match KM (λ_ m=>LU n m) 0 s.States with
   | some k=>(YE s (k:Int)).bind λp=>C (false,Xe.mk 2 1 0 p)
   | none=>C (true,Xe.mk 0 0 0 [])):=by
  unfold Uv;rw[QgU hF,Qa];cases KM (λ_ m=>LU n m) 0 s.States with
  | some k=>
   show(bif decide ((k:Int)<0)then _ else _)=_;rw[Qz (by omega)];rfl
  | none=>rfl
 rw[p1];cases hs:KM (λ_ m=>LU n m) 0 s.States with
 | some k=>
  obtain⟨i,x,e,hx,hp⟩:=Qbl hs;rw[Ui]at e;subst e;obtain⟨p,q1,_⟩:=Qgy h hS hb hE hx;simp only;rw[q1,Qa,Qa];exact T2 (.im k x p hx hp q1)
 | none=>
  have him:∀x∈s.States,LU n x=false:=λx hx=>by
   obtain⟨i,hi,rfl⟩:=Ct.1 hx;exact Qbm hs i _ (Qp hi)
  simp only;rw[Qa];show Qg ((Wx (QV.mk n s)).bind _) _;obtain⟨f,hf⟩:=QsB (n:=n) hF;have p2:Wx (QV.mk n s)=(bif ((((Km (λx=>decide (x<0)) 0 f).length:Int))==0)then C (true,Xe.mk 0 0 0 [])else(idx (Km (λx=>decide (x<0)) 0 f) 0).bind λe=>(YE s e).bind λp=>C (false,Xe.mk 2 2 0 p)):=by
   unfold Wx;rw[show Lw (QV.mk n s).net (QV.mk n s).space=C (Km (λx=>decide (x<0)) 0 f)from QpJ hf,Qa]
  rw[p2];cases hL:Km (λx=>decide (x<0)) 0 f with
  | cons e r=>
   have he:e∈Km (λx=>decide (x<0)) 0 f:=by rw[hL];exact XD
   obtain⟨i,y,hi,_,rfl⟩:=Qgh.1 he;have O:=(QX.1 hi).1;rw[hf.is.len]at O;obtain⟨p,q1,_⟩:=Qgy h hS hb hE (Qp O);rw[show((((((0+i:Nat):Int)::r).length:Int))==0)=false by simp;omega,Qi];show Qg (((C ((0+i:Nat):Int)).bind _).bind _) _;rw[Qa,Ui,q1,Qa,Qa];exact T2 (.lo i _ p (Qp O) q1)
  | nil=>
   rw[show(((([]:LI_).length:Int))==0)=true from rfl,Ql,Qa];show Qg ((Ew (QV.mk n s)).bind _) _;have hav:∀k:Nat,k<s.States.length->0<=av f (k:Int):=λk hk=>by
    rcases Int.lt_or_le (av f (k:Int)) 0 with h0 | h0
    ·have hin:Yt f.length (k:Int):=by rw[hf.is.len];exact⟨by omega,by omega⟩
     have hg:=EA hin;rw[Xs]at hg;have:(k:Int)∈Km (λx=>decide (x<0)) 0 f:=Qgh.2 ⟨k,_,hg,Qt h0,by simp⟩;rw[hL]at this;cases this
    exact h0
   obtain⟨D,d1,d2,d3⟩:=Qvv (n:=n) hF (by omega);unfold Ew;rw[d1,Qa];cases D with
   | nil=>exact T2 (.so f c him hf hav (d3 rfl))
   | cons t r=>
    have:=d2 t XD;rw[show((((t::r).length:Int))==0)=false by simp;omega,Qi];exact T2 (.de t this.1 this.2.1)
end Go.Proofs
noncomputable section
namespace Go.Proofs
open Go Go.RowKit Go.Vm Go.Rk
variable {n:Qd}
def Qvx {b c:Int}(tokens:Int)(h:QnU n b)(O:c<=31):Mf n c tokens=some (DW n (Ez n) c tokens):=by
 unfold Mf;rw[h.first,Qa,QsA c tokens h.net h.bd h.good O];rfl
def QrJ {m:L_ Bag}{b t:Int}(h:(DW n m b t).Full=true):0<b:=by
 rcases Int.lt_or_le 0 b with c | c
 ·exact c
 unfold DW at h;rw[if_pos c]at h;cases h
def QtW {b c:Int}(tokens:Int)(h:QnU n b)(O:c<=31):∃v,Gc n c tokens=some v/\KP n (DW n (Ez n) c tokens)=some v/\Told n (DW n (Ez n) c tokens) v:=by
 unfold Gc;rw[Qvx tokens h O,Qa];cases hf:(DW n (Ez n) c tokens).Full with
 | true=>
  have h0:=QrJ hf;obtain⟨v,h1,h2⟩:=QtV h.net (QlW (tokens:=tokens) h.net h.bd h.pl h.good h0) O (Qiv h.net h.bd h.good O);rw[h1];exact⟨v,rfl,rfl,h2⟩
 | false=>
  have e:KP n (DW n (Ez n) c tokens)=some (Xe.mk 3 0 0 []):=by unfold KP;rw[hf];rfl
  rw[e];exact⟨_,rfl,rfl,.un hf⟩
set_option maxRecDepth 1000000 in
def Qxz : Qax=some true:=by kernel_rfl
end Go.Proofs
noncomputable section
namespace Go.Proofs
open Go Go.RowKit Go.Vm Go.Rk
variable {n:Qd}
def QwJ {m:L_ Bag}(h:QT n)(O:Xv n m):okM m:=by
 have hpl:=h.pl;exact⟨by rw[O.1.1];unfold maxLen;omega,λb hb=>by have:=(O.1.2 b hb).2;unfold maxLen;omega⟩
def QrK {b tokens:Int}{v:Xe}(h:QnU n b)(hT:Told n (DW n (Ez n) b tokens) v)(h0:0<b)(h2:v.Told=2):JM n v=some true:=by
 have hb:=h.bud;have hS:=QlW (tokens:=tokens) h.net h.bd h.pl h.good h0;have hE:=Qiv (tokens:=tokens) h.net h.bd h.good (by omega:b<=31);generalize DW n (Ez n) b tokens=s at hT hS hE;have run:∀{k:Nat} {x:Mk} {p:L_ Qc},s.States[k]? = some x->YE s (k:Int)=some p->TO n (Ez n) p=some (x,(p.length:Int)):=λ{k x p} O hp=>by
  obtain⟨p',q1,q2,q3,q4⟩:=Qgy h.net hS (by omega) hE O;rw[hp]at q1;cases q1;have hl:=hS.len;have hm:QK b<=31:=by unfold QK min2;split<;>omega
  exact Qx7 h.net h.good.1 (by omega) (by omega) q2
 cases hT with
 | un _=>cases h2
 | im k x p O hi hp=>
  have hr:=run O hp;have hm:=QwJ h.net (hS.good x (Xt O));unfold JM;simp only[show((2:Int) != 2)=false from rfl,show((1:Int)==3)=false from rfl,Qi];rw[h.first,Qa,hr,Qa];simp only[show((1:Int)==1)=true from rfl,Ql];unfold Qae;simp only[show((p.length:Int)==(p.length:Int))=true by simp,Ql];rw[show Uu n x=some (endB n x)from Qgz hm,Qa];unfold LU at hi;rw[QJ]at hi;rw[hi.1,Ql,Zr hm,Qa,hi.2];rfl
 | lo k x p O hp=>
  have hr:=run O hp;unfold JM;simp only[show((2:Int) != 2)=false from rfl,show((2:Int)==3)=false from rfl,Qi];rw[h.first,Qa,hr,Qa];simp only[show((2:Int)==1)=false from rfl,show((2:Int)==2)=true from rfl,Ql,Qi];simp
 | de t t0 t1=>
  unfold JM;simp[t0,t1]
 | so f _ _ _ _ _=>cases h2
end Go.Proofs
noncomputable section
namespace Go.Proofs
open Go Go.RowKit Go.Vm Go.Rk
variable {n:Qd}{s:Qu}
def Qsg {m:Mk}(hm:okM m):RC n m=some (endB n m):=by
 unfold RC QcF QcG endB;by_cases h:0<=n.To
 ·by_cases O:n.To<m.length
  ·have hb:m[n.To.toNat]? = some (m[n.To.toNat]'(by omega)):=Qp (by omega);have:=QgS (hm.get hb);simp only[h,O,decide_true,Ql,YI h,hb,Qa,this,UD,Ki,GI];congr 1
  simp[h,O]
 simp[h]
def Qsh (h:KV s):OD n s=some ((KM (λ_ m=>LU n m) 0 s.States).elim (-1) λi=>(i:Int)):=by
 unfold OD;rw[SS (body:=λst=>Ee s n st) (s0:=(0:Int)) (l:=s.States) (λi=>(i:Int)) (λ_ m=>LU n m) (λi=>.inl (i:Int)) (.inr ()) (λi x hi O=>by
  show Ee s n i=_;unfold Ee;rw[Qt (by omega),Ql,Qs,O,Qa,Qsg (h.get O),Qa,Qa,QgT (h.get O),Qa,Qj hi h.ok.1];unfold LU;cases (endB n x&&!Zq n x)<;>rfl) (by
  show Ee s n s.States.length=_;unfold Ee;rw[Qz (by omega),Qi]) rfl]
 cases KM (λ_ m=>LU n m) 0 s.States<;>rfl
def QxA (k:Int):∀(l:LI_) (i:Nat) (t:Bool),DE (λ(_:Nat) (t:Bool) x=>(.inl (t||(x==k)):Bool⊕Bool)) (λt=>t) i t l=(t||l.any λx=>x==k):=by
 intro l
 induction l with
 | nil=>intro i t;simp[DE]
 | cons x l h=>intro i t;rw[DE,Sum.elim_inl,h,List.any_cons,Bool.or_assoc]
def Qyo {l:LI_}(hl:l.length<=maxLen)(k:Int):Qh (λst:Bool×Int=>GU l k st.1 st.2) (false,0)=some (decide (k∈l)):=by
 rw[CZ (body:=λst:Bool×Int=>GU l k st.1 st.2) (l:=l) (λi (t:Bool)=>(t,(i:Int))) (λ(_:Nat) (t:Bool) x=>(.inl (t||(x==k)):Bool⊕Bool)) (λt=>t) (λi t x hi O=>by
  show GU l k t i=_;unfold GU QdZ Qd0;rw[Qt (by omega),Ql,Qs,O,Qa,Qj hi hl];cases t<;>rfl) (λt=>by
  show GU l k t l.length=_;unfold GU;rw[Qz (by omega),Qi]) false (s0:=(false,(0:Int))) rfl,QxA,SZ]
 congr 1;by_cases h:k∈l
 ·rw[Qt h];exact EX.2 ⟨k,h,by simp⟩
 rw[Qz h];refine List.any_eq_false.2 λx O e=>h ?_;have:=beq_iff_eq.1 e;exact this▸O
def Qvy (h:KV s):Vv n s=Ky (QV.mk n s):=by
 obtain⟨p,O,h2,h3⟩:=QtU h;have hp:p.length<=maxLen:=by unfold maxLen;omega
 unfold Vv Ky;rw[h2,show Aa (QV.mk n s).space=some p from O,Qa,Qa];have e:(λst:Int×LI_=>MM n p st.1 st.2)=λst=>Wy (QV.mk n s) p st.1 st.2:=by
  funext ⟨k,l⟩;show MM n p k l=Wy (QV.mk n s) p k l;unfold MM Wy;rw[Qyo hp,Qvu hp];rfl
 rw[e];all_goals rfl
def QtX (h:KV s):Cr n s=KP n s:=by
 obtain⟨f,E⟩:=QsB (n:=n) h;have hp:∀k:Int,Bw s k=YE s k:=λk=>by
  obtain⟨p,h1,h2,_⟩:=Qvm (k:=k) h;rw[h1,h2]
 unfold Cr KP Uv Wx Ew;rw[Qsh h,QgU h,QrH E,Qvy h];simp only[hp,Qa];rw[show Lw (QV.mk n s).net (QV.mk n s).space=_ from QpJ E,Qa];cases s.Full with
 | false=>rfl
 | true=>
  simp only[JD,Qi];cases KM (λ_ m=>LU n m) 0 s.States with
  | some k=>
   simp only[Option.elim_some];have a:(0:Int)<=(k:Int):=by omega
   have b:¬((k:Int)<0):=by omega
   simp only[a,b,decide_true,decide_false,Ql,Qi];cases YE s (k:Int)<;>rfl
  | none=>
   simp only[Option.elim_none];have a:¬((0:Int)<=-1):=by omega
   have b:(-1:Int)<0:=by omega
   simp only[a,b,decide_true,decide_false,Ql,Qi,Qa,JD];generalize Km (λx=>decide (x<0)) 0 f=L;cases L with
   | cons x L=>
    have O:(((x::L).length:Int)==0)=false:=by simp only[We,beq_eq_false_iff_ne];omega
    have e2:decide (0<((x::L).length:Int))=true:=Qt (by simp only[We];omega);rw[O,e2,Ql,Qi];simp only[show idx (x::L) 0=some x from rfl,Qa];cases YE s x<;>rfl
   | nil=>
    rw[show((([]:LI_).length:Int)==0)=true from rfl,show decide (0<(([]:LI_).length:Int))=false from rfl,Ql,Qi,Qa];simp only[JD,Qi];cases Ky (QV.mk n s)with
    | none=>rfl
    | some D=>
     rw[Qa,Qa];cases D with
     | cons x D=>
      have O:(((x::D).length:Int)==0)=false:=by simp only[We,beq_eq_false_iff_ne];omega
      have e2:decide (0<((x::D).length:Int))=true:=Qt (by simp only[We];omega);rw[O,e2,Ql,Qi];rfl
     | nil=>rfl
end Go.Proofs
noncomputable section
namespace Go.Proofs
open Go Go.RowKit Go.Vm Go.Rk
variable {n:Qd}
def Qsi {b:Int}(hn:Xo n)(hr:Rch n)(h:Hm n b=some true):n.Places.length<=70/\∀p∈n.Places,p.First.length<=400:=by
 obtain⟨f,f1,O⟩:=QpH hn hr;unfold Hm at h;rw[f1,Qa]at h;cases f with
 | false=>cases h
 | true=>exact⟨(O rfl).1.2.1,(O rfl).2⟩
def QyY {v:Xe}(O:v.Trace.length<=maxLen)(h:∀o∈v.Trace,Yf n o):Vx v v=some true:=by
 unfold Vx Qd3 Qd4;simp only[beq_self_eq_true,Ql];rw[Qtu O h];rfl
def Qsj (n:Qd)(b tokens:Int)(hn:Xo n)(hR:RN n)(hr:Rch n):Uy n b tokens=some true:=by
 unfold Uy;rw[Qxz,Qa];obtain⟨f,hf,hf2⟩:=Qwt n b hn hr;rw[hf,Qa];cases f with
 | false=>rfl
 | true=>
  have h:=hf2 rfl;have hb:=h.bud;obtain⟨p1,p2⟩:=Qsi hn hr hf;have hc:b<=31:=by omega
  obtain⟨v,h1,h2,h3⟩:=QtW tokens h hc;have e2:MH n b tokens=some (DW n (Ez n) b tokens):=by
   unfold MH;rw[Qvk p1 p2,h.first,Qa,QtI b tokens h.net hR h.bd h.pl h.good hc,QsA b tokens h.net h.bd h.good hc];rfl
  have key:Cr n (DW n (Ez n) b tokens)=some v/\v.Trace.length<=maxLen/\(∀o∈v.Trace,Yf n o)/\JM n v=some (v.Told==2):=by
   cases O:(DW n (Ez n) b tokens).Full with
   | false=>
    have:KP n (DW n (Ez n) b tokens)=some (Xe.mk 3 0 0 []):=by unfold KP;rw[O];rfl
    rw[h2]at this;cases this;refine⟨by unfold Cr;rw[O];rfl,by simp,λo ho=>(by cases ho),?_⟩;unfold JM;rfl
   | true=>
    have h0:=QrJ O;have hS:=QlW (tokens:=tokens) h.net h.bd h.pl h.good h0;have hE:=Qiv (tokens:=tokens) h.net h.bd h.good hc;have hFew:=Qvw h.net hS hc hE;have hw:=QrK h h3 h0;rw[QtX hFew,h2];have tr:∀{k:Nat} {x:Mk} {p:L_ Qc},(DW n (Ez n) b tokens).States[k]? = some x->YE (DW n (Ez n) b tokens) (k:Int)=some p->p.length<=maxLen/\∀o∈p,Yf n o:=λ{k x p} hx hp=>by
     obtain⟨p',q1,q2,q3,q4⟩:=Qgy h.net hS hc hE hx;rw[hp]at q1;cases q1;have hl:=hS.len;have hm:QK b<=31:=by unfold QK min2;split<;>omega
     exact⟨by unfold maxLen;omega,q3⟩
    refine⟨rfl,?_⟩;cases h3 with
    | un hu=>rw[O]at hu;cases hu
    | im k x p hx hi hp=>
     obtain⟨t1,t2⟩:=tr hx hp;exact⟨t1,t2,hw rfl⟩
    | lo k x p hx hp=>
     obtain⟨t1,t2⟩:=tr hx hp;exact⟨t1,t2,hw rfl⟩
    | de t t0 t1=>exact⟨by simp,λo ho=>(by cases ho),hw rfl⟩
    | so f _ _ _ _ _=>exact⟨by simp,λo ho=>(by cases ho),by unfold JM;rfl⟩
  obtain⟨k1,k2,k3,k4⟩:=key;show(Gc n b tokens).bind _=_;rw[h1,Qa];unfold SQ;rw[Ql];have e3:RG n b tokens=some v:=by
   unfold RG;rw[e2,Qa,k1];rfl
  rw[e3,Qa,QyY k2 k3,Qa,Ql,k4,Qa];simp[SR]
end Go.Proofs
