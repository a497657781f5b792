/- A part of the proof. -/
import Derived.Test.YtopbdpofkfimkaaGreatDoorS2P2
import Derived.Test.YtopbdpofkfimkaaGreatDoorS2P2
import Derived.Test.YtopbdpofkfimkaaGreatDoorS2P2
import Derived.Test.YtopbdpofkfimkaaGreatDoorS2XPlA
import Derived.Test.YtopbdpofkfimkaaGreatDoorS2T3
import Derived.KernelRfl
import Derived.Test.YtopbdpofkfimkaaGreatDoorS2P2
import Derived.Test.YtopbdpofkfimkaaGreatDoorS2P2
set_option linter.all false
noncomputable section
namespace Go.Proofs
open Go Go.RowKit Go.Vm Go.Rk
open Option renaming some→C
variable {s:QN}{k:Int}{m:QBg}{mi:L_ (Int×LI_)}
def Qj0:Bs k s=C (decide (Ja s.States.length k)):=by
 unfold Bs;refine congrArg C ?_;rw[QgM,decide_eq_true_iff,QL,decide_eq_true_iff,decide_eq_true_iff];exact Iff.rfl
def Quq {e:Xj}:VR e s=C (cnt s e):=by
 unfold VR cnt;rw[Qj0,Qj0,Qh];by_cases h:Ja s.States.length e.From
 ·have O:=h.1;have h2:=h.2;simp only[h,O,h2,decide_true,Xi,Qh,Bool.true_and];refine congrArg C ?_;rw[QgM,decide_eq_true_iff,QL,decide_eq_true_iff,decide_eq_true_iff];exact Iff.rfl
 simp only[h,decide_false,Xn];refine congrArg C ?_;have:(decide (0<=e.From)&&decide (e.From<(s.States.length:Int)))=false:=by
  rw[<-Zf,QL,decide_eq_true_iff,decide_eq_true_iff];exact h
 rw[this];rfl
def Qtf (h:FO s):∃m,Qx (λst:Int×L_ (Int×LI_)=>Og s st.1 st.2) (0,[])=C m/\∀k,(Qy m k).getD []=Jt (s.Edges.filter (cnt s)) k:=by
 have hed:=h.ed;refine FJ s.Edges.length (λi st=>st.1=(i:Int)/\∀k,(Qy st.2 k).getD []=Jt ((s.Edges.take i).filter (cnt s)) k) _ (λi st hi hs=>?_) (λst hs=>?_) (0,[]) ⟨rfl,λk=>by simp[Jt,Qy]⟩
 ·obtain⟨j,m⟩:=st;obtain⟨hj,O⟩:=hs;simp only at hj O;subst hj;left;have h1:(i:Int)<s.Edges.length:=by omega
  have ht:s.Edges.take (i+1)=s.Edges.take i++[s.Edges[i]]:=Qby hi;unfold Og Qgq Oe;simp only[h1,decide_true,Xi,Xe,QI hi,Qh,Quq,QE hi h.ok.2.1];cases hc:cnt s s.Edges[i]with
  |false=>
   refine⟨_,rfl,rfl,λk=>?_⟩;rw[ht,Sy,Bz,hc];simpa using O k
  |true=>
   have hlen:(Jt ((s.Edges.take i).filter (cnt s)) s.Edges[i].To).length<=130023424:=by
    unfold Jt;rw[KO];refine Yx (Nq _ _) (Yx (Nq _ _) ?_);rw[Kd];omega
   simp only[Xi,O];rw[EX (show(Jt ((s.Edges.take i).filter (cnt s)) s.Edges[i].To).length+([s.Edges[i].From]:LI_).length<=4294967296 by simp only[Hj];omega)];refine⟨_,rfl,rfl,λk=>?_⟩;simp only[Wx];have e:Jt ((s.Edges.take (i+1)).filter (cnt s)) k=Jt ((s.Edges.take i).filter (cnt s)) k++(if s.Edges[i].To=k then [s.Edges[i].From]else []):=by
    rw[ht,Sy,Bz,hc];unfold Jt;by_cases c:s.Edges[i].To=k<;>simp[c]
   rw[e];by_cases c:k=s.Edges[i].To
   ·subst c;simp
   rw[if_neg c,if_neg (λe=>c e.symm),O k];simp
 obtain⟨j,m⟩:=st;obtain⟨hj,O⟩:=hs;simp only at hj O;subst hj;refine⟨m,by simp[Og],λk=>?_⟩;rw[O k,Hm]
def left (N:Nat)(m:QBg):Nat:=(List.range N).countP λj:Nat=>(Qy m (j:Int)).isNone
def QsP {N:Nat}{u v:Int}(O:Ja N u)(hn:Qy m u=none):left N m=left N (XF Wk m u v)+1:=by
 unfold left;have h1:(List.range N).countP (λj:Nat=>decide ((j:Int)=u))=1:=by
  obtain⟨n,rfl⟩:∃n:Nat,u=(n:Int):=⟨u.toNat,by have:=O.1;omega⟩;have h:n<N:=by have:=O.2;omega
  have:(λj:Nat=>decide ((j:Int)=(n:Int)))=λj=>j==n:=by
   funext j;rw[QgM,decide_eq_true_iff,beq_iff_eq];omega
  rw[this,<-List.count_eq_countP];have:=List.nodup_range (n:=N);rw[List.Nodup.count this,if_pos (Ea.2 h)]
 rw[<-h1];refine QjZ λj _=>?_;rw[Wx];by_cases c:(j:Int)=u
 ·left;subst c;simp[hn]
 rw[if_neg c];cases Qy m (j:Int)with|none=>left;simp[c]|some x=>right;simp[c]
structure QsQ (s:QN) (k:Int) (m:List (Int×Int)) (w:List Int):Prop where
 rng:∀j d,Qy m j=C d->Ja s.States.length j/\0<=d/\d+(left s.States.length m:Int)<=s.States.length
 goal:Qy m k=C 0
 back:∀j d,Qy m j=C d->(d=0/\j=k)\/∃v d',(j,v)∈es s/\Ja s.States.length v/\Qy m v=C d'/\d=d'+1
 wait:∀x,x∈w->∃d,Qy m x=C d
 edge:∀u v d,(u,v)∈es s->Ja s.States.length u->Ja s.States.length v->Qy m v=C d->v∈w\/∃c,Qy m u=C c/\c<=d+1
 sort:w.Pairwise λx y=>∀a b,Qy m x=C a->Qy m y=C b->a<=b
 near:∀x r,w=x::r->∀j d a,Qy m j=C d->Qy m x=C a->d<=a+1
 few:w.length+left s.States.length m<=s.States.length+1
structure BIn (s:QN) (m0:List (Int×Int)) (w0:List Int) (x dx:Int) (i:Nat) (m:List (Int×Int)) (w:List Int):Prop where
 mono:∀j d,Qy m0 j=C d->Qy m j=C d
 new:∀j d,Qy m j=C d->Qy m0 j=C d\/(Qy m0 j=none/\d=dx+1/\(j,x)∈es s/\Ja s.States.length j/\j∈w)
 app:∃ws,w=w0++ws/\∀y,y∈ws->Qy m y=C (dx+1)
 done:∀u,u∈(Jt (s.Edges.filter (cnt s)) x).take i->∃c,Qy m u=C c
 sz:w.length+left s.States.length m=w0.length+left s.States.length m0
def Qur {m0:QBg}{x:Int}{r:LI_}{dx:Int}(h:FO s)(hmi:∀k,(Qy mi k).getD []=Jt (s.Edges.filter (cnt s)) k)(I:QsQ s k m0 (x::r))(hx:Qy m0 x=C dx):
  ∃q,Qx (λst:Int×QBg×LI_=>Oi mi x st.1 st.2.1 st.2.2) (0,m0,x::r)=C q/\BIn s m0 (x::r) x dx (Jt (s.Edges.filter (cnt s)) x).length q.1 q.2:=by
 have hst:=h.st;have hed:=h.ed;have hfl:(Jt (s.Edges.filter (cnt s)) x).length<=130023424:=by
  unfold Jt;rw[KO];exact Yx (Nq _ _) (Yx (Nq _ _) hed)
 refine FJ (Jt (s.Edges.filter (cnt s)) x).length (λi st=>st.1=(i:Int)/\BIn s m0 (x::r) x dx i st.2.1 st.2.2) _ (λi st hi hs=>.inl ?_) (λst hs=>?_) (0,m0,x::r)
  ⟨rfl,λj d h=>h,λj d h=>.inl h,⟨[],by simp,by simp⟩,by simp,rfl⟩
 ·obtain⟨j,m,w⟩:=st;obtain⟨hj,J⟩:=hs;simp only at hj J;subst hj;have hi':(i:Int)<(Jt (s.Edges.filter (cnt s)) x).length:=by omega
  have hgu:=QI hi;generalize hu:(Jt (s.Edges.filter (cnt s)) x)[i]=u at hgu;have hum:u∈Jt (s.Edges.filter (cnt s)) x:=by rw[<-hu];exact Jc _
  obtain⟨hue,hur,_⟩:=QeQ.1 hum;have htk:(Jt (s.Edges.filter (cnt s)) x).take (i+1)=(Jt (s.Edges.filter (cnt s)) x).take i++[u]:=by rw[Qby hi,hu]
  obtain⟨ws,hw,hws⟩:=J.app;have hsz:=J.sz;have hfew:=I.few;unfold Oi Oh;simp only[hmi,hi',decide_true,Xi,Xe,hgu,Qh,QE hi (show(Jt (s.Edges.filter (cnt s)) x).length<=maxLen by unfold maxLen;omega)];cases hmu:Qy m u with
  |some c=>
   simp only[Option.isSome_some,DT,Xn];refine⟨_,rfl,rfl,{ J with done:=λy hy=>?_ }⟩;rw[htk,Jy,Hk]at hy;rcases hy with hy|rfl
   ·exact J.done y hy
   exact⟨c,hmu⟩
  |none=>
   have hw0:w[0]? = C x:=by rw[hw];rfl
   have hd:=(I.rng x dx hx).2;have e1:Qf ((Qy m x).getD 0+1)=dx+1:=by rw[J.mono x dx hx];exact YH (by simp only[GG];omega)
   have e2:idx w 0=C x:=by rw[show(0:Int)=((0:Nat):Int)from rfl,Xe];exact hw0
   simp only[Option.isSome_none,Qbw,Xi,e1,e2,Qh];have hls:=QsP (v:=dx+1) hur hmu;have hwl:w.length=(x::r).length+ws.length:=by rw[hw,YR]
   have hll:left s.States.length m0<=s.States.length:=by unfold left;refine Yx List.countP_le_length ?_;simp
   have hw2:w.length<=200:=by omega
   rw[EX (by simp only[Hj];omega)];refine⟨_,rfl,rfl,{ mono:=λj d O=>?_,new:=λj d O=>?_,app:=⟨ws++[u],by rw[hw];simp,λy hy=>?_⟩,done:=λy hy=>?_,sz:=?_ }⟩
   ·simp only[Wx];by_cases c:j=u
    ·subst c;rw[J.mono j d O]at hmu;cases hmu
    rw[if_neg c];exact J.mono j d O
   ·simp only[Wx]at O;by_cases c:j=u
    ·subst c;rw[if_pos rfl]at O;cases O;right;refine⟨?_,rfl,hue,hur,by simp⟩;cases h0:Qy m0 j with|none=>rfl|some d=>rw[J.mono j d h0]at hmu;cases hmu
    rw[if_neg c]at O;rcases J.new j d O with h|⟨a,b,c1,c2,c3⟩
    ·exact .inl h
    exact .inr ⟨a,b,c1,c2,Zj _ c3⟩
   ·simp only[Wx];by_cases c:y=u
    ·rw[if_pos c]
    rw[if_neg c];rcases Jy.1 hy with h|h
    ·exact hws y h
    exact absurd (Hk.1 h) c
   ·rw[htk,Jy,Hk]at hy;simp only[Wx];by_cases c:y=u
    ·exact⟨_,if_pos c⟩
    rw[if_neg c];rcases hy with hy|hy
    ·exact J.done y hy
    exact absurd hy c
   simp only[YR,Hj];omega
 obtain⟨j,m,w⟩:=st;obtain⟨hj,J⟩:=hs;simp only at hj J;subst hj;exact⟨(m,w),by simp[Oi,hmi],J⟩
def QvH {w:LI_}(h:FO s)(hmi:∀k,(Qy mi k).getD []=Jt (s.Edges.filter (cnt s)) k)(I:QsQ s k m w)(hw:w≠[]):
  ∃m' w',Oj mi m w=C (.inl (m',w'))/\QsQ s k m' w'/\w'.length+left s.States.length m'<w.length+left s.States.length m:=by
 cases w with
 |nil=>exact absurd rfl hw|cons x r=>
  obtain⟨dx,hx⟩:=I.wait x Yd;obtain⟨⟨m',w'⟩,h1,J⟩:=Qur h hmi I hx;simp only at J;obtain⟨ws,hws,hwd⟩:=J.app;have O:=J.sz;have hfew:=I.few;have hdx:=I.rng x dx hx;have hnear:=I.near x r rfl;have hall:∀j d,Qy m' j=C d->d<=dx+1:=λj d hj=>by
   rcases J.new j d hj with h|⟨_,h,_⟩
   ·exact hnear j d dx h hx
   omega
  have hx':=J.mono x dx hx;refine⟨m',r++ws,?_,?_,by rw[hws]at O;simp at O ⊢;omega⟩
  ·unfold Oj Qgr;have e0:(0:Int)<((x::r).length:Int):=by simp only[DU];omega
   have e2:idx (x::r) 0=C x:=by rw[show(0:Int)=((0:Nat):Int)from rfl,Xe];rfl
   simp only[e0,decide_true,Xi,e2,Qh,h1];rw[QbX (by rw[hws];simp)];simp[hws]
  have old:∀y,y∈r->∃d,Qy m y=C d:=λy hy=>I.wait y (Yq _ hy);have hs:=QgQ.1 I.sort;refine { rng:=λj d hj=>?_,goal:=J.mono _ _ I.goal,back:=λj d hj=>?_,wait:=λy hy=>?_,edge:=λu v d q1 q2 q3 q4=>?_,sort:=?_,near:=λy q hq j d a hj ha=>?_,few:=?_ }
  ·have hl:left s.States.length m'<=left s.States.length m:=by rw[hws]at O;simp at O;omega
   rcases J.new j d hj with h|⟨a,b,c,e,f⟩
   ·obtain⟨p,q,t⟩:=I.rng j d h;exact⟨p,q,by omega⟩
   refine⟨e,by omega,?_⟩;have hwl:1<=ws.length:=by
    rw[hws]at f;rcases Jy.1 f with g|g
    ·obtain⟨d',hd'⟩:=I.wait j g;rw[a]at hd';cases hd'
    exact List.length_pos_of_mem g
   rw[hws]at O;simp only[YR]at O;omega
  ·rcases J.new j d hj with h|⟨a,b,c,e,f⟩
   ·rcases I.back j d h with h|⟨v,d',p,q,t,u⟩
    ·exact .inl h
    exact .inr ⟨v,d',p,q,J.mono _ _ t,u⟩
   exact .inr ⟨x,dx,c,hdx.1,hx',b⟩
  ·rcases Jy.1 hy with h|h
   ·obtain⟨d,hd⟩:=old y h;exact⟨d,J.mono _ _ hd⟩
   exact⟨_,hwd y h⟩
  ·by_cases c:v=x
   ·subst c;right;rw[hx']at q4;cases q4;obtain⟨c,hc⟩:=J.done u (by rw[Hm];exact QeQ.2 ⟨q1,q2,q3⟩);exact⟨c,hc,hall u c hc⟩
   rcases J.new v d q4 with h|⟨a,b,_,_,f⟩
   ·rcases I.edge u v d q1 q2 q3 h with g|⟨c',g1,g2⟩
    ·rcases Yw.1 g with g|g
     ·exact absurd g c
     exact .inl (Zj _ g)
    exact .inr ⟨c',J.mono _ _ g1,g2⟩
   left;rw[hws]at f;rcases Jy.1 f with g|g
   ·obtain⟨d',hd'⟩:=I.wait v g;rw[a]at hd';cases hd'
   exact List.mem_append_right _ g
  ·rw[Qm4];refine⟨(hs.2).imp_of_mem λ{a b} ha hb hab p q hp hq=>?_,?_,λa ha b hb p q hp hq=>?_⟩
   ·obtain⟨p',hp'⟩:=old a ha;obtain⟨q',hq'⟩:=old b hb;rw[J.mono _ _ hp']at hp;rw[J.mono _ _ hq']at hq;cases hp;cases hq;exact hab _ _ hp' hq'
   ·refine List.pairwise_of_forall_mem_list λa ha b hb p q hp hq=>?_;rw[hwd a ha]at hp;rw[hwd b hb]at hq;cases hp;cases hq;exact Int.le_refl _
   rw[hwd b hb]at hq;cases hq;exact hall a p hp
  ·have h5:dx<=a:=by
    have hym:y∈r++ws:=by rw[hq];exact Yd
    rcases Jy.1 hym with h|h
    ·obtain⟨a',ha'⟩:=old y h;rw[J.mono _ _ ha']at ha;cases ha;exact hs.1 y h dx _ hx ha'
    rw[hwd y h]at ha;cases ha;omega
   have:=hall j d hj;omega
  rw[hws]at O;simp only[YR,DU]at O hfew ⊢;omega
def Qw5 (h:FO s)(hk:Ja s.States.length k){f:LI_}(hf:El s.States.length (es s) [k] f):∃m,Zw s k=C m/\(∀j,Qy m j=if 0<=av f j then C (av f j)else none):=by
 obtain⟨mi,m1,m2⟩:=Qtf h;have hst:=h.st;unfold Zw;rw[Qj0,Qh];simp only[hk,decide_true,DT,Xn,m1,Qh];unfold QeG;have g0:∀j,Qy (XF Wk ([]:QBg) k 0) j=if j=k then C 0 else none:=λj=>by rw[Wx];rfl
 have gk:Qy (XF Wk ([]:QBg) k 0) k=C 0:=by rw[g0,if_pos rfl]
 have gs:∀j d,Qy (XF Wk ([]:QBg) k 0) j=C d->j=k/\d=0:=λj d O=>by
  rw[g0]at O;split at O
  ·rename_i e;cases O;exact⟨e,rfl⟩
  cases O
 have hleft:left s.States.length (XF Wk ([]:QBg) k 0)+1=s.States.length:=by
  rw[<-QsP (m:=[]) hk rfl];unfold left;have e:(λj:Nat=>(Qy ([]:QBg) (j:Int)).isNone)=λ_=>true:=rfl;rw[e];simp
 have key:∃r,Qx (λst:QBg×LI_=>Oj mi st.1 st.2) (XF Wk [] k 0,[k])=C r/\QsQ s k r []:=by
  refine ZF (λst:QBg×LI_=>QsQ s k st.1 st.2) (λst:QBg×LI_=>st.2.length+left s.States.length st.1) _ ?_ (XF Wk [] k 0,[k]) ?_
  ·rintro ⟨m,w⟩ I;simp only at I;by_cases hw:w=[]
   ·subst hw;right;exact⟨m,rfl,I⟩
   left;obtain⟨m',w',a,b,c⟩:=QvH h m2 I hw;exact⟨(m',w'),a,b,c⟩
  refine { rng:=λj d O=>?_,goal:=gk,back:=λj d O=>.inl ((gs j d O).symm),wait:=λx hx=>?_,edge:=λu v d _ _ _ h4=>?_,sort:=QgR _ _,near:=λx r hr j d a O ha=>?_,few:=by simp;omega }
  ·obtain⟨rfl,rfl⟩:=gs j d O;exact⟨hk,Int.le_refl _,by simp only;omega⟩
  ·rw[Hk]at hx;subst hx;exact⟨0,gk⟩
  ·left;rw[(gs v d h4).1];exact Hk.2 rfl
  rw[(gs j d O).2,(gs x a ha).2];omega
 obtain⟨m,r1,I⟩:=key;refine⟨m,by rw[r1];rfl,?_⟩;have hv:∀j,av ((List.range s.States.length).map λj:Nat=>(Qy m (j:Int)).getD (-1)) j=(Qy m j).getD (-1):=λj=>by
  by_cases hr:Ja s.States.length j
  ·obtain⟨n,rfl⟩:∃n:Nat,j=(n:Int):=⟨j.toNat,by have:=hr.1;omega⟩;refine Qzn (by omega) ?_;rw[Ya,List.getElem?_range (by have:=hr.2;omega)];rfl
  rw[QdA (by simpa using hr)];cases hm:Qy m j with|none=>rfl|some d=>exact absurd (I.rng j d hm).1 hr
 have hsome:∀j,0<=(Qy m j).getD (-1)->Qy m j=C ((Qy m j).getD (-1)):=λj O=>by
  cases hm:Qy m j with|none=>rw[hm]at O;simp at O|some d=>rfl
 have hI:El s.States.length (es s) [k] ((List.range s.States.length).map λj:Nat=>(Qy m (j:Int)).getD (-1)):=by
  refine { len:=by simp,lo:=λj=>?_,goal:=λg hg _=>?_,edge:=λu v h1 h2 h3 h4=>?_,back:=λj O=>?_ }
  ·rw[hv];cases hm:Qy m j with|none=>simp|some d=>have:=(I.rng j d hm).2;simp only[GG];omega
  ·rw[Hk]at hg;subst hg;rw[hv,I.goal];rfl
  ·rw[hv]at h4;rw[hv,hv];rcases I.edge u v _ h1 h2 h3 (hsome v h4)with h|⟨c,c1,c2⟩
   ·cases h
   rw[c1];have:=(I.rng u c c1).2;simp only[GG];omega
  rw[hv]at O;rcases I.back j _ (hsome j O)with⟨h1,h2⟩|⟨v,d',a,b,c,e⟩
  ·left;rw[hv];exact⟨h1,by rw[h2];exact Hk.2 rfl⟩
  right;refine⟨v,a,b,?_⟩;rw[hv,hv,c];have:=(I.rng v d' c).2;simp only[GG];omega
 have:=hf.unique hI;intro j;have e:av f j=(Qy m j).getD (-1):=by rw[this];exact hv j
 rw[e];cases hm:Qy m j with|none=>simp|some d=>have:=(I.rng j d hm).2.1;simp[this]
def Qw6 (h:FO s)(k:Int):Zx s k=C (Dg (λe:Xj=>e.From==k) 0 s.Edges):=by
 have hed:=h.ed;unfold Zx;rw[Qdq (l:=s.Edges) (λe:Xj=>e.From==k)]
 ·rfl
 ·intro i O x ha hi hx;have h1:(i:Int)<s.Edges.length:=by omega
  have hc:decide (O.length+([(i:Int)]:LI_).length<=4294967296)=true:=Yy (by simp;omega);simp only[VS,Ok,h1,decide_true,Xi,Xe,hx,Qh,QE hi h.ok.2.1,QbX hc];cases x.From==k<;>rfl
 intro O;simp[VS]
end Go.Proofs
noncomputable section
namespace Go.Proofs
open Go Go.RowKit Go.Vm Go.Rk
variable {a:Int}{e:Xj}
def QsR {α:Type}(p:α->Bool):∀(l:L_ α) k,(Dg p k l).length<=l.length:=by
 intro l
 induction l with
 |nil=>intro k;simp[Dg]|cons x l h=>
  intro k;rw[Dg];have:=h (k+1);cases p x
  ·simp;omega
  simp;omega
def Qkq (s:QN)(f:LI_)(a:Int)(_:Nat)(x:Int):Bool:=((s.Edges[x.toNat]?).map λe=>decide (0<=av f e.To)&&(av f e.To==av f a-1)).getD false
def nx (s:QN)(f:LI_)(a:Int):O_ Xj:=(EY (Qkq s f a) 0 (Dg (λe:Xj=>e.From==a) 0 s.Edges)).bind λi=>((Dg (λe:Xj=>e.From==a) 0 s.Edges)[i]?).bind λx=>s.Edges[x.toNat]?
def EG (s:QN)(f:LI_):Nat->Int->L_ Qq
 |0,_=>[]|d+1,a=>match nx s f a with|some e=>e.Mode::EG s f d e.To|none=>[]
section
variable {s:QN}{k:Int}{f:LI_}
def Qj1 {i:Nat}{x:Int}(hx:(Dg (λe:Xj=>e.From==a) 0 s.Edges)[i]? = some x):∃j e,x=((j:Nat):Int)/\s.Edges[j]? = some e/\e.From=a:=by
 obtain⟨j,e,h,O,h3⟩:=Qdp.1 (XG hx);exact⟨j,e,by rw[h3];simp,h,by simpa using O⟩
def Qj2 {n j:Nat}(h:s.Edges[j]? = some e):Qkq s f a n ((j:Nat):Int)=(decide (0<=av f e.To)&&(av f e.To==av f a-1)):=by
 unfold Qkq;rw[Jb,h];rfl
def Qtv (hf:El s.States.length (es s) [k] f)(hp:0<av f a):∃n j e,EY (Qkq s f a) 0 (Dg (λe:Xj=>e.From==a) 0 s.Edges)=some n/\(Dg (λe:Xj=>e.From==a) 0 s.Edges)[n]? = some ((j:Nat):Int)/\
  s.Edges[j]? = some e/\nx s f a=some e/\0<=av f e.To/\av f e.To=av f a-1:=by
 cases hs:EY (Qkq s f a) 0 (Dg (λe:Xj=>e.From==a) 0 s.Edges)with
 |none=>
  exfalso;rcases hf.back a (by omega)with⟨h1,_⟩|⟨v,h1,O,h,h4⟩
  ·omega
  obtain⟨e,e1,e2,rfl⟩:=QgK.1 h1;obtain⟨j,hj⟩:=GD.1 e1;have hm:((j:Nat):Int)∈Dg (λe:Xj=>e.From==a) 0 s.Edges:=Qdp.2 ⟨j,e,hj,by simpa using e2,by simp⟩;obtain⟨i,hi⟩:=GD.1 hm;have:=QbZ hs i _ hi;rw[Qj2 hj]at this;have h5:(decide (0<=av f e.To)&&(av f e.To==av f a-1))=true:=by
   simp only[QL,QT,beq_iff_eq];omega
  rw[h5]at this;cases this
 |some n=>
  obtain⟨i,x,h1,O,h⟩:=QbY hs;obtain rfl:n=i:=by omega
  obtain⟨j,e,rfl,h4,h5⟩:=Qj1 O;rw[Qj2 h4]at h;simp only[QL,QT,beq_iff_eq]at h;refine⟨n,j,e,rfl,O,h4,?_,h.1,h.2⟩;unfold nx;rw[hs,Qh,O,Qh,Jb,h4]
def Qtg (hf:El s.States.length (es s) [k] f)(hp:0<av f a)(h:nx s f a=some e)(O:av f e.To=av f a-1):EG s f (av f a).toNat a=e.Mode::EG s f (av f e.To).toNat e.To:=by
 have:(av f a).toNat=(av f e.To).toNat+1:=by omega
 rw[this,EG,h]
def Qus : ∀(d:Nat) (a:Int),(EG s f d a).length<=d:=by
 intro d
 induction d with
 |zero=>intro a;simp[EG]|succ d h=>
  intro a;rw[EG];cases nx s f a with|none=>simp|some e=>simpa using h e.To
def Qut (h:FO s)(hk:Ja s.States.length k)(hf:El s.States.length (es s) [k] f):Wt s k=some (EG s f (av f 0).toNat 0):=by
 obtain⟨m,m1,m2⟩:=Qw5 h hk hf;have hst:=h.st;have hed:=h.ed;have hle:∀j,av f j<=40:=λj=>by
  rcases hf.lt j with h|h
  ·omega
  unfold Ja at hk;omega
 unfold Wt;rw[m1,Qh];by_cases h0:0<=av f 0
 ·have e0:Qy m 0=some (av f 0):=by rw[m2,if_pos h0]
  simp only[e0,Option.isSome_some,DT,Xn];have key:∃r,Qx (λst:L_ Qq×Int=>Tu m s st.1 st.2) ([],0)=some r/\r=EG s f (av f 0).toNat 0:=by
   refine ZF (λst:L_ Qq×Int=>0<=av f st.2/\st.1++EG s f (av f st.2).toNat st.2=EG s f (av f 0).toNat 0/\(st.1.length:Int)+av f st.2=av f 0) (λst:L_ Qq×Int=>(av f st.2).toNat) _ ?_ ([],0) ⟨h0,by simp,by simp⟩;rintro ⟨out,a⟩ ⟨ha,hl,hlen⟩;simp only at ha hl hlen;have ea:Qy m a=some (av f a):=by rw[m2,if_pos ha]
   unfold Tu;simp only[ea,GG];by_cases hp:0<av f a
   ·left;have hla:=hle a;obtain⟨n,j,e,n1,n2,n3,n4,n5,n6⟩:=Qtv hf hp;have O:Wh (Dg (λe:Xj=>e.From==a) 0 s.Edges) m s a=some (n:Int):=by
     have hll:=QsR (λe:Xj=>e.From==a) s.Edges 0;unfold Wh;rw[QeK (l:=Dg (λe:Xj=>e.From==a) 0 s.Edges) (s0:=0) (λi=>(i:Int)) (Qkq s f a) (λi=>Sum.inl (i:Int)) (Sum.inr ()) ?_ ?_ rfl]
     ·rw[n1];rfl
     ·intro i x hi hx;have h1:(i:Int)<(Dg (λe:Xj=>e.From==a) 0 s.Edges).length:=by omega
      obtain⟨j,e,rfl,h3,h4⟩:=Qj1 hx;unfold Dx VT;simp only[h1,decide_true,Xi,Xe,hx,h3,Qh,ea,GG,YH (show -9223372036854775808<=av f a-1/\av f a-1<=9223372036854775807 by omega),QE hi (show(Dg (λe:Xj=>e.From==a) 0 s.Edges).length<=maxLen by unfold maxLen;omega)];rw[Qj2 h3];have:((Qy m e.To).isSome&&((Qy m e.To).getD 0==av f a-1))=(decide (0<=av f e.To)&&(av f e.To==av f a-1)):=by
       rw[m2];by_cases c:0<=av f e.To
       ·simp[c]
       simp[c]
      rw[<-this];cases ((Qy m e.To).isSome&&((Qy m e.To).getD 0==av f a-1))<;>rfl
     simp[Dx]
    refine⟨(out++[e.Mode],e.To),?_,⟨n5,?_,by simp;omega⟩,by simp only;omega⟩
    ·have h0':=hle 0;simp only[hp,decide_true,Xi,Qw6 h,Qh,O,Xe,n2,n3];rw[EX (by simp;omega)];rfl
    rw[<-hl,Qtg hf hp n4 n6];simp
   right;refine⟨out,by simp[hp],?_⟩;rw[<-hl,show(av f a).toNat=0 by omega];simp[EG]
  obtain⟨r,r1,r2⟩:=key;rw[r1,r2];rfl
 have e0:Qy m 0=none:=by rw[m2,if_neg h0]
 have:=hf.lo 0;rw[show(av f 0).toNat=0 by omega];simp[e0,EG]
end
end Go.Proofs
noncomputable section
namespace Go.Rk
open Go Go.Vm
def least {p:Nat->Prop}:∀n,p n->∃m,p m/\∀j,j<m->¬p j:=by
 intro n
 induction n using Nat.strongRecOn with
 |_ n ih=>
  intro O;by_cases c:∃j,j<n/\p j
  ·obtain⟨j,h,hp⟩:=c;exact ih j h hp
  exact⟨n,O,λj h hp=>c ⟨j,h,hp⟩⟩
def Stp (N:Nat)(es:(L_ (Int×Int)))(gs:(L_ Int)):Nat->Int->Prop
 |0,k=>Ja N k/\k∈gs|n+1,k=>Ja N k/\∃v,(k,v)∈es/\Ja N v/\Stp N es gs n v
open Classical in
def HX (N:Nat)(es:(L_ (Int×Int)))(gs:(L_ Int))(k:Int):Int:=if h:∃n,Stp N es gs n k then((Classical.choose (least (p:=λn=>Stp N es gs n k) (Classical.choose h) (Classical.choose_spec h)):Nat):Int)else -1
def QeR {N:Nat}{es:(L_ (Int×Int))}{gs:(L_ Int)}{k:Int}(h:0<=HX N es gs k):Stp N es gs (HX N es gs k).toNat k/\∀j,j<(HX N es gs k).toNat->¬Stp N es gs j k:=by
 unfold HX at h ⊢;split at h
 ·rename_i O;rw[dif_pos O,Jb];exact Classical.choose_spec (least (p:=λn=>Stp N es gs n k) (Classical.choose O) (Classical.choose_spec O))
 omega
def Qqj {N:Nat}{es:(L_ (Int×Int))}{gs:(L_ Int)}{k:Int}{n:Nat}(h:Stp N es gs n k):0<=HX N es gs k/\HX N es gs k<=n:=by
 have hc:∃n,Stp N es gs n k:=⟨n,h⟩;have O:0<=HX N es gs k:=by unfold HX;rw[dif_pos hc];omega
 refine⟨O,?_⟩;have:=(QeR O).2;by_cases c:HX N es gs k<=n
 ·exact c
 exact absurd h (this n (by omega))
def Qx2 {N:Nat}{es:(L_ (Int×Int))}{gs:(L_ Int)}(k:Int):-1<=HX N es gs k:=by
 unfold HX;split<;>omega
def Qzp (N:Nat)(es:(L_ (Int×Int)))(gs:(L_ Int)):∃f,El N es gs f:=by
 have O:∀k,av ((List.range N).map λi:Nat=>HX N es gs i) k=if Ja N k then HX N es gs k else -1:=λk=>by
  by_cases c:Ja N k
  ·rw[if_pos c];have h:=PL (out:=(List.range N).map λi:Nat=>HX N es gs i) (k:=k) (by simpa using c);have hk:k.toNat<N:=by unfold Ja at c;omega
   rw[Ya,List.getElem?_range hk,Jh]at h;have:=Option.some.inj h;rw[<-this];unfold Ja at c;rw[show((k.toNat:Nat):Int)=k by omega]
  rw[if_neg c];exact QdA (by simpa using c)
 refine⟨(List.range N).map λi:Nat=>HX N es gs i,by simp,λk=>?_,λg hg hr=>?_,λu v he hu hv h0=>?_,λk hk=>?_⟩
 ·rw[O];split
  ·exact Qx2 k
  omega
 ·rw[O,if_pos hr];have:=Qqj (show Stp N es gs 0 g from⟨hr,hg⟩);omega
 ·rw[O v,if_pos hv]at h0;rw[O u,O v,if_pos hu,if_pos hv];have h1:=(QeR h0).1;have:=Qqj (show Stp N es gs ((HX N es gs v).toNat+1) u from⟨hu,v,he,hv,h1⟩);omega
 have hr:Ja N k:=by
  by_cases c:Ja N k
  ·exact c
  rw[O,if_neg c]at hk;omega
 rw[O,if_pos hr]at hk ⊢;obtain⟨h1,h2⟩:=QeR hk;cases hn:(HX N es gs k).toNat with
 |zero=>
  rw[hn]at h1;exact .inl ⟨by omega,h1.2⟩
 |succ d=>
  rw[hn]at h1 h2;obtain⟨_,v,he,hv,hs⟩:=h1;have hd:=Qqj hs;refine .inr ⟨v,he,hv,by rw[O,if_pos hv];exact hd.1,?_⟩;rw[O,if_pos hv];by_cases c:(HX N es gs v).toNat<d
  ·exact absurd (show Stp N es gs ((HX N es gs v).toNat+1) k from⟨hr,v,he,hv,(QeR hd.1).1⟩) (h2 _ (by omega))
  omega
end Go.Rk
noncomputable section
namespace Go.Proofs
open Go Go.RowKit Go.Vm Go.Rk
section
variable {n:Qg}{m:L_ Bag}{b tokens:Int}{s:QN}{k:Nat}{f:LI_}{z:L_ Bag}
def Qw7 (hS:SOk n m b tokens s)(hf:El s.States.length (es s) [(k:Int)] f)(hz:s.States[k]? = some z):∀(d a:Nat) (x:L_ Bag),av f (a:Int)=(d:Int)->s.States[a]? = some x->TT n x (EG s f d (a:Int))=some z/\∀o∈EG s f d (a:Int),Wy n o:=by
 intro d
 induction d with
 |zero=>
  intro a x ha hx;rcases hf.back (a:Int) (by omega)with⟨_,h1⟩|⟨v,_,_,h3,h4⟩
  ·have:a=k:=by simp at h1;omega
   subst this;rw[hx]at hz;cases hz;exact⟨rfl,λo ho=>by simp[EG]at ho⟩
  omega
 |succ d ih=>
  intro a x ha hx;obtain⟨n',j,e,_,O,hj,hnx,h0,h1⟩:=Qtv hf (a:=(a:Int)) (by omega);obtain⟨j',e',hjj,h,hfr⟩:=Qj1 O;have:j=j':=by omega
  subst this;rw[hj]at h;cases h;obtain⟨i,j2,x',y,g1,g2,g3,g4,g5,g6⟩:=hS.edge e (XG hj);have:i=a:=by omega
  subst this;rw[hx]at g3;cases g3;rw[EG,hnx];simp only;rw[g2];obtain⟨k1,k2⟩:=ih j2 y (by rw[<-g2];omega) g4;refine⟨?_,λo ho=>?_⟩
  ·rw[TT,g5,Qh];exact k1
  rcases Yw.1 ho with rfl|ho
  ·exact g6
  exact k2 o ho
def Qw8 (hS:SOk n m b tokens s)(O:El s.States.length (es s) [(k:Int)] f)(hk:k<s.States.length):0<=av f 0:=by
 have key:∀j:Nat,j<s.States.length->0<=av f (j:Int)->0<=av f 0:=by
  intro j
  induction j using Nat.strongRecOn with
  |_ j ih=>
   intro hj h;by_cases c:j=0
   ·subst c;exact h
   obtain⟨e,he,i,g1,g2,g3⟩:=hS.tree j (by omega) hj;have:=O.edge (i:Int) (j:Int) (QgK.2 ⟨e,he,g1,g3⟩) ⟨by omega,by omega⟩ ⟨by omega,by omega⟩ h;exact ih i g2 (by omega) this.1
 have:=O.goal (k:Int) (by simp) ⟨by omega,by omega⟩;exact key k hk (by omega)
def QmZ (h:XE n)(hS:SOk n m b tokens s)(hb:b<=31)(hE:s.Edges.length<=130023424)(hz:s.States[k]? = some z):∃p,Wt s (k:Int)=some p/\TT n m p=some z/\(∀o∈p,Wy n o)/\p.length<s.States.length:=by
 have hk:=(QX.1 hz).1;obtain⟨f,hf⟩:=Qzp s.States.length (es s) [(k:Int)];have hm:Xt b<=31:=by unfold Xt min2;split<;>omega
 have hpl:=h.pl;have hl:=hS.len;have O:FO s:=⟨⟨by unfold maxLen;omega,by unfold maxLen;omega,λy hy=>by
  have hg:=hS.good y hy;have:=hg.1.1;exact⟨by unfold maxLen;omega,λb hb=>by have:=(hg.1.2 b hb).2;unfold maxLen;omega⟩⟩,by omega,hE⟩
 have h0:=Qw8 hS hf hk;obtain⟨r,hr⟩:=hS.head;obtain⟨c1,c2⟩:=Qw7 hS hf hz (av f 0).toNat 0 m (by show av f 0=_;omega) (by rw[hr];rfl);refine⟨_,Qut O ⟨by omega,by omega⟩ hf,c1,c2,?_⟩;have:=Qus (s:=s) (f:=f) (av f 0).toNat 0;rcases hf.lt 0 with h1|h1
 ·omega
 omega
end
end Go.Proofs
namespace Go.Rk
section
variable {α:Type}(f:α->Int)
def kv (l:List α)(i:Nat):Int:=match l[i]? with|some x=>f x|none=>0
def EH (l:List α)(n:Nat):Prop:=∀i,0<i->i<n->kv f l ((i-1) / 2)<=kv f l i
variable {f:α->Int}
def Ut {l:List α}{i:Nat}{x:α}(h:l[i]? = some x):kv f l i=f x:=by unfold kv;rw[h]
def PM {l:List α}{i j:Nat}{x y:α}(hi:l[i]? = some x)(h:l[j]? = some y)(k:Nat):
  kv f ((l.set i y).set j x) k=if k=j then kv f l i else if k=i then kv f l j else kv f l k:=by
 have O:=(List.getElem?_eq_some_iff.1 hi).1;have h2:=(List.getElem?_eq_some_iff.1 h).1;rw[Ut hi,Ut h];unfold kv;rw[List.getElem?_set];by_cases a:k=j
 ·subst a;rw[if_pos rfl,if_pos (by simpa using h2),if_pos rfl]
 rw[if_neg (λe=>a e.symm),if_neg a,List.getElem?_set];by_cases b:k=i
 ·subst b;rw[if_pos rfl,if_pos O,if_pos rfl]
 rw[if_neg (λe=>b e.symm),if_neg b]
def Qm0 {l:List α}{i j:Nat}{x y:α}(hi:l[i]? = some x)(hj:l[j]? = some y):((l.set i y).set j x).Perm l:=by
 obtain⟨h,rfl⟩:=List.getElem?_eq_some_iff.1 hi;obtain⟨O,rfl⟩:=List.getElem?_eq_some_iff.1 hj;exact List.set_set_perm h O
def QeS (f:α->Int)(l:List α)(n j:Nat):Prop:=(∀i,0<i->i<n->i≠j->kv f l ((i-1) / 2)<=kv f l i)/\∀c,0<c->c<n->(c-1) / 2=j->0<j->kv f l ((j-1) / 2)<=kv f l c
def QeS.step {l:List α}{n j:Nat}{x y:α}(h:QeS f l n j)(h0:0<j)(hi:l[(j-1) / 2]? = some x)(O:l[j]? = some y)(hlt:f y<f x)(hn:j<n):
  QeS f ((l.set ((j-1) / 2) y).set j x) n ((j-1) / 2):=by
 obtain⟨ha,hb⟩:=h;rw[<-Ut (f:=f) hi,<-Ut (f:=f) O]at hlt;refine⟨λi h1 h2 h3=>?_,λc h1 h2 h3 h4=>?_⟩
 ·rw[PM hi O,PM hi O];by_cases e:i=j
  ·subst e;rw[if_pos rfl,if_neg (by omega),if_pos rfl];omega
  rw[if_neg e,if_neg h3];have h5:=ha i h1 h2 e;by_cases e1:(i-1) / 2=j
  ·rw[if_pos e1];exact hb i h1 h2 e1 h0
  rw[if_neg e1];by_cases e2:(i-1) / 2=(j-1) / 2
  ·rw[if_pos e2];rw[e2]at h5;omega
  rw[if_neg e2];exact h5
 rw[PM hi O,PM hi O];rw[if_neg (by omega),if_neg (by omega)];have h5:=ha ((j-1) / 2) h4 (by omega) (by omega);by_cases e:c=j
 ·rw[if_pos e];exact h5
 rw[if_neg e,if_neg (by omega)];have h6:=ha c h1 h2 e;rw[h3]at h6;omega
def QeS.done {l:List α}{n j:Nat}(h:QeS f l n j)(hd:j=0\/kv f l ((j-1) / 2)<=kv f l j):EH f l n:=λi O hn=>by
 by_cases e:i=j
 ·subst e;rcases hd with h|h
  ·omega
  exact h
 exact h.1 i O hn e
def QeT (f:α->Int)(l:List α)(n i:Nat):Prop:=(∀k,0<k->k<n->(k-1) / 2≠i->kv f l ((k-1) / 2)<=kv f l k)/\∀c,0<c->c<n->(c-1) / 2=i->0<i->kv f l ((i-1) / 2)<=kv f l c
def QeT.step {l:List α}{n i j:Nat}{x y:α}(h:QeT f l n i)(h0:0<j)(O:(j-1) / 2=i)(hi:l[i]? = some x)(hj:l[j]? = some y)(hlt:f y<f x)(hn:j<n)
  (hmin:∀k,0<k->k<n->(k-1) / 2=i->kv f l j<=kv f l k):QeT f ((l.set i y).set j x) n j:=by
 obtain⟨ha,hb⟩:=h;rw[<-Ut (f:=f) hi,<-Ut (f:=f) hj]at hlt;refine⟨λk h1 h2 h3=>?_,λc h1 h2 h3 h4=>?_⟩
 ·rw[PM hi hj,PM hi hj];rw[if_neg h3];by_cases e1:(k-1) / 2=i
  ·rw[if_pos e1];by_cases e2:k=j
   ·rw[if_pos e2];omega
   rw[if_neg e2,if_neg (by omega)];exact hmin k h1 h2 e1
  rw[if_neg e1,if_neg (λe=>e1 (by subst e;exact O))];by_cases e2:k=i
  ·subst e2;rw[if_pos rfl];exact hb j h0 hn O h1
  rw[if_neg e2];exact ha k h1 h2 e1
 rw[PM hi hj,PM hi hj];rw[if_neg (by omega),if_pos O,if_neg (by omega),if_neg (by omega),<-h3];exact ha c h1 h2 (by omega)
def QeT.done {l:List α}{n i:Nat}(h:QeT f l n i)(hd:∀k,0<k->k<n->(k-1) / 2=i->kv f l i<=kv f l k):EH f l n:=λk O hn=>by
 by_cases e:(k-1) / 2=i
 ·rw[e];exact hd k O hn e
 exact h.1 k O hn e
def EH.least {l:List α}{n:Nat}(h:EH f l n):∀i,i<n->kv f l 0<=kv f l i:=by
 intro i
 induction i using Nat.strongRecOn with
 |_ i O=>
  intro hi;by_cases e:i=0
  ·subst e;exact Int.le_refl _
  have h1:=h i (by omega) hi;have h2:=O ((i-1) / 2) (by omega) (by omega);omega
def EH.append {l:List α}{x:α}(h:EH f l l.length):QeS f (l++[x]) (l.length+1) l.length:=by
 have e:∀k,k<l.length->kv f (l++[x]) k=kv f l k:=λk hk=>by unfold kv;rw[List.getElem?_append_left hk]
 refine⟨λi O h1 h2=>?_,λc O h1 h2 h3=>by omega⟩;rw[e _ (by omega),e _ (by omega)];exact h i O (by omega)
def EH.swap {l:List α}{n:Nat}{x y:α}(h:EH f l (n+1))(hi:l[0]? = some x)(hj:l[n]? = some y):QeT f ((l.set 0 y).set n x) n 0:=by
 refine⟨λk O h1 h2=>?_,λc O h1 h2 h3=>by omega⟩;rw[PM hi hj,PM hi hj,if_neg (by omega),if_neg (by omega),if_neg (by omega),if_neg (by omega)];exact h k O (by omega)
def EH.congr {l m:List α}{n:Nat}(h:EH f l n)(e:∀k,k<n->m[k]? = l[k]?):EH f m n:=λi h0 O=>by
 have:=h i h0 O;unfold kv at *;rw[e _ O,e _ (by omega)];exact this
end
end Go.Rk
noncomputable section
namespace Go.Proofs
open Go Go.RowKit Go.Vm Go.Rk
variable {b:L_ Rw}{n:Qg}{m:Mk}
def QvI {l:L_ Rw}{k v:Int}(h:∀p∈l,p.1<k):XF Wk l k v=l++[(k,v)]:=by
 have h1:Qy l k=none:=by
  induction l with
  |nil=>rfl|cons p l ih=>
   have h0:=h p Yd;show(if p.1=k then _ else _)=none;rw[if_neg (by omega)];exact ih λq O=>h q (Yq _ O)
 unfold XF;rw[h1];clear h1;show AX Wk l k v=_
 induction l with
 |nil=>rfl|cons p l ih=>
  have h0:=h p Yd;show(if Wk k p.1=true then _ else _)=_;rw[if_neg (by unfold Wk;simp;omega),ih λq O=>h q (Yq _ O)];rfl
def Quu (hb:b.length<=maxLen):HH b=some (bif QjY b then .inr b else .inl ()):=by
 unfold HH;rw[Qrx hb,Qh];cases hr:QjY b with
 |false=>rfl|true=>
  obtain⟨_,hp⟩:=Qry.1 hr;have key:∃r,Qx (λst:Int×L_ Rw=>Eh b st.1 st.2) (0,[])=some r/\r=b:=by
   refine FJ b.length (λi s=>s=((i:Int),b.take i)) (λr=>r=b) (λi s hi hs=>.inl ?_) (λs hs=>?_) (0,[]) rfl
   ·subst hs;have h:(i:Int)<b.length:=by omega
    refine⟨(((i+1:Nat):Int),b.take (i+1)),?_,rfl⟩;unfold Eh;simp only[h,decide_true,Xi,Xe,QI hi,Qh,QE hi hb];rw[QvI]
    ·rw[Qby hi]
    intro p hp';obtain⟨j,hj⟩:=GD.1 hp';obtain⟨O,rfl⟩:=QX.1 hj;rw[Kd]at O;rw[List.getElem_take];exact(List.pairwise_iff_getElem.1 hp) j i (by omega) hi (by omega)
   subst hs;refine⟨b,?_,rfl⟩;unfold Eh;simp
  obtain⟨r,h,h2⟩:=key;simp only[DT,Xn,Xi];rw[h,h2];rfl
def Quv (n:Int):L_ Rw->Int
 |[]=>n|p::l=>Quv (Qf (n+p.2)) l
def Ze (b:L_ Rw):Int:=bif QjY b then Quv 0 b else 0
def Qh3 (hb:b.length<=maxLen):UX b=some (Ze b):=by
 unfold UX;rw[Quu hb,Qh,Ze];cases QjY b with
 |false=>rfl|true=>
  simp only[Xi,Sum.elim_inr];unfold Od;have O:∀(l:L_ Rw) n,JP (λst (p:Rw)=>KG st p.1 p.2) n l=some (.inl (Quv n l)):=by
   intro l
   induction l with|nil=>intro n;rfl|cons p l ih=>intro n;exact ih _
  have hswap:∀s (p q:Rw),JP (λst (p:Rw)=>KG st p.1 p.2) s [p,q]=JP (λst (p:Rw)=>KG st p.1 p.2) s [q,p]:=by
   intro s p q;rw[O,O];simp only[Quv,Qkm];congr 3;omega
  rw[Hp.2 ⟨λl' h=>QuN hswap h 0,O b 0⟩];rfl
def QdB (n:Qg)(m:Mk):Bool:=decide (m.length=n.Places.length)&&(decide (0<=n.To)&&decide (n.To<m.length))&&!QhA (λi b=>Ze b != (bif (i:Int)==n.To then 1 else 0)) 0 m
def TV (hm:okM m):Ws n m=some (decide (0<=n.To)&&(decide (n.To<m.length)&&((m[n.To.toNat]?).map λb=>decide (0<Ze b)).getD false)):=by
 unfold Ws QeD QeE;by_cases h:0<=n.To
 ·by_cases O:n.To<m.length
  ·have hb:m[n.To.toNat]? = some (m[n.To.toNat]'(by omega)):=QI (by omega);have:=Qh3 (hm.get hb);simp only[h,O,decide_true,Xi,Bw h,hb,Qh,this,Bool.true_and,Jh,GG]
  simp[h,O]
 simp[h]
def UY (hm:okM m):Ky n m=some (QdB n m):=by
 unfold Ky Tt;rw[TV hm,QdB];by_cases h0:m.length=n.Places.length
 ·have h:((m.length:Int) != (n.Places.length:Int))=false:=by rw[h0];simp
  have h0d:decide (m.length=n.Places.length)=true:=Yy h0;simp only[h,h0d,decide_true,Xn,Qh,Bool.true_and];by_cases h1:0<=n.To
  ·by_cases h2:n.To<m.length
   ·have O:n.To<n.Places.length:=by rw[<-h0];exact h2
    have hb:m[n.To.toNat]? = some (m[n.To.toNat]'(by omega)):=QI (by omega);have e:Qx (λst=>LU m n st) 0=some (bif QhA (λi b=>Ze b != (bif (i:Int)==n.To then 1 else 0)) 0 m then .inl ()else .inr ():Unit⊕Unit):=by
     refine Qwz (l:=m) (λi=>(i:Int)) _ (Sum.inl ()) (Sum.inr ()) ?_ ?_ rfl
     ·intro i x hi hx;have h3:(i:Int)<m.length:=by omega
      have:=Qh3 (hm.get hx);unfold LU LT;simp only[h3,decide_true,Xi,Xe,hx,Qh,this,QE hi hm.1];cases (i:Int)==n.To with
      |true=>show(bif Ze x != 1 then _ else _)=some (bif Ze x != 1 then _ else _);cases Ze x != 1<;>rfl
      |false=>show(bif Ze x != 0 then _ else _)=some (bif Ze x != 0 then _ else _);cases Ze x != 0<;>rfl
     unfold LU;simp
    simp only[h1,h2,O,decide_true,Bool.true_and,hb,Jh,GG];unfold BU;rw[e];by_cases h4:0<Ze (m[n.To.toNat]'(by omega))
    ·simp only[h4,decide_true,DT,Xn];cases QhA _ 0 m<;>rfl
    simp only[h4,decide_false,Qbw,Xi];congr 1;symm;rw[Hg,Qwy];refine⟨n.To.toNat,_,hb,?_⟩;have:(((0+n.To.toNat:Nat):Int)==n.To)=true:=by simp;omega
    rw[this];simp;omega
   have O:¬n.To<n.Places.length:=by rw[<-h0];exact h2
   simp[h1,h2,O,BU]
  simp[h1,BU]
 have h:((m.length:Int) != (n.Places.length:Int))=true:=by simp;omega
 simp[h,h0,BU]
def QdC (n:Qg)(s:QN):LI_:=Dg (QdB n) 0 s.States
def QoW {s:QN}(h:FO s):Nf n s=some (QdC n s):=by
 unfold Nf;rw[Qdq (l:=s.States) (QdB n)]
 ·rfl
 ·intro i O x ha hi hx;have h1:(i:Int)<s.States.length:=by omega
  have hst:=h.st;have hc:decide (O.length+([(i:Int)]:LI_).length<=4294967296)=true:=Yy (by simp;omega);simp only[Tv,LZ,h1,decide_true,Xi,Xe,hx,Qh,QE hi h.ok.1,UY (h.get hx),QbX hc];cases QdB n x<;>rfl
 intro O;simp[Tv]
end Go.Proofs
noncomputable section
namespace Go.Proofs
open Go Go.RowKit Go.Vm Go.Rk
open Option renaming some→C
variable {n:Nat}
abbrev Sp := QF
def fk (x:Sp):Int:=x.far
def QeU {l:L_ Sp}{i k:Nat}{x y:Sp}(hx:l[i]? = C x)(h:l[k]? = C y):Gs l (i:Int) (k:Int)=C ((l.set i y).set k x):=by
 have O:=(QX.1 h).1;unfold Gs;simp only[Xe,hx,h,Qh,Jb];rw[QI (by simpa using O)];rfl
def QeV {l:L_ Sp}{i k:Nat}{x y:Sp}(h:l[i]? = C x)(O:l[k]? = C y):Gr l (i:Int) (k:Int)=C (decide (fk x<fk y)):=by
 unfold Gr;simp only[Xe,h,O,Qh];rfl
def Qx3 (hn:n<=1000000000):∀(j:Nat) (l:L_ Sp),l.length=n->j<n->QeS fk l n j->∃l',AQ l (j:Int)=C l'/\l'.Perm l/\EH fk l' n:=by
 intro j l hl hj O;unfold AQ;have key:∃r,Qx (λst:Int×L_ Sp=>Cu st.1 st.2) ((j:Int),l)=C r/\(r.Perm l/\EH fk r n):=by
  refine ZF (λs:Int×L_ Sp=>∃j:Nat,s.1=(j:Int)/\s.2.length=n/\j<n/\QeS fk s.2 n j/\s.2.Perm l) (λs:Int×L_ Sp=>s.1.toNat) (λr=>r.Perm l/\EH fk r n) ?_ ((j:Int),l) ⟨j,rfl,hl,hj,O,List.Perm.refl _⟩;rintro ⟨j0,l⟩ ⟨j,rfl,hl,hj,O,hp⟩;simp only at hl hj O hp ⊢;unfold Cu PF;by_cases h0:j=0
  ·subst h0;right;refine⟨l,?_,hp,O.done (.inl rfl)⟩;rw[show(Qf (Int.tdiv (Qf (((0:Nat):Int)-1)) 2)==((0:Nat):Int))=true by rw[YH (n:=((0:Nat):Int)-1) (by omega),YH (by decide)];rfl];rfl
  have e1:Qf ((j:Int)-1)=((j-1:Nat):Int):=by rw[YH (by omega)];omega
  have e2:Qf (Int.tdiv ((j-1:Nat):Int) 2)=(((j-1) / 2:Nat):Int):=by
   rw[show Int.tdiv ((j-1:Nat):Int) 2=(((j-1) / 2:Nat):Int)from rfl,YH (by omega)]
  have hx:l[(j-1) / 2]? = C (l[(j-1) / 2]'(by omega)):=QI (by omega);have hy:l[j]? = C (l[j]'(by omega)):=QI (by omega);have e3:((((j-1) / 2:Nat):Int)==(j:Int))=false:=by simp;omega
  simp only[e1,e2,e3,Xn,QeV hy hx,Qh];unfold PG;by_cases h:fk (l[j]'(by omega))<fk (l[(j-1) / 2]'(by omega))
  ·left;refine⟨((((j-1) / 2:Nat):Int),(l.set ((j-1) / 2) (l[j]'(by omega))).set j (l[(j-1) / 2]'(by omega))),?_,⟨(j-1) / 2,rfl,by simpa using hl,by omega,O.step (by omega) hx hy h hj,(Qm0 hx hy).trans hp⟩,by simp;omega⟩;simp only[h,decide_true,DT,Xn,e1,e2,QeU hx hy,Qh];rw[EX (by simp)];rfl
  right;refine⟨l,?_,hp,O.done (.inr ?_)⟩
  ·simp only[h,decide_false,Qbw,Xi]
  rw[Ut hx,Ut hy];omega
 obtain⟨r,h1,h2⟩:=key;exact⟨r,by rw[h1];rfl,h2⟩
def QqO {l:L_ Sp}(x:Sp)(h:EH fk l l.length)(hn:l.length<1000000000):∃O,DB l x=C O/\O.Perm (x::l)/\EH fk O O.length:=by
 obtain⟨O,h1,h2,h3⟩:=Qx3 (n:=l.length+1) (by omega) l.length (l++[x]) (by simp) (by omega) h.append;refine⟨O,?_,h2.trans (List.perm_append_singleton _ _),by rw[h2.length_eq];simpa using h3⟩;unfold DB Pa Ax;have e:Qf ((((l++[x]).length:Nat):Int)-1)=(l.length:Int):=by rw[YH (by simp;omega)];simp
 rw[EX (by simp;omega)];simp only[Qh,e,h1]
def QvJ (hn:n<=1000000000)(l:L_ Sp)(hl:l.length=n+1)(hu:QeT fk l n 0):∃b l',DC l 0 (n:Int)=C (b,l')/\l'.Perm l/\EH fk l' n/\l'[n]? = l[n]? := by
 unfold DC;have key:∃r,Qx (λst:Int×L_ Sp=>Az (n:Int) st.1 st.2) (0,l)=C r/\(r.2.Perm l/\EH fk r.2 n/\r.2[n]? = l[n]?):=by
  refine ZF (λs:Int×L_ Sp=>∃i:Nat,s.1=(i:Int)/\s.2.length=n+1/\i<=n/\QeT fk s.2 n i/\s.2.Perm l/\s.2[n]? = l[n]?) (λs:Int×L_ Sp=>n-s.1.toNat) (λr:Int×L_ Sp=>r.2.Perm l/\EH fk r.2 n/\r.2[n]? = l[n]?) ?_ (0,l) ⟨0,rfl,hl,by omega,hu,List.Perm.refl _,rfl⟩;rintro ⟨j0,s⟩ ⟨i,rfl,hl,hi,hu,hp,hq⟩;simp only at hl hi hu hp hq ⊢;unfold Az;have e1:Qf (Qf (2*(i:Int))+1)=((2*i+1:Nat):Int):=by rw[YH (n:=2*(i:Int)) (by omega),YH (by omega)];omega
  have e2:Qf (((2*i+1:Nat):Int)+1)=((2*i+2:Nat):Int):=by rw[YH (by omega)];omega
  have e4:decide (((2*i+1:Nat):Int)<0)=false:=Kh (by omega);rw[e1,e4,Bool.or_false];by_cases h0:(n:Int)<=((2*i+1:Nat):Int)
  ·right;refine⟨((i:Int),s),by rw[Yy h0];rfl,hp,hu.done λk h1 h2 h3=>by omega,hq⟩
  rw[Kh h0,Xn];have hg:∃j:Nat,0<j/\(j-1) / 2=i/\j<n/\(∀k,0<k->k<n->(k-1) / 2=i->kv fk s j<=kv fk s k)/\
    (Ay (i:Int) (n:Int) s).bind (λx21=>Wv s (i:Int) x21)=Wu s (i:Int) (j:Int):=by
   have h:s[2*i+1]? = C (s[2*i+1]'(by omega)):=QI (by omega);unfold Ay;rw[e1,e2];by_cases h2:((2*i+2:Nat):Int)<n
   ·have O:s[2*i+2]? = C (s[2*i+2]'(by omega)):=QI (by omega);by_cases h3:fk (s[2*i+2]'(by omega))<fk (s[2*i+1]'(by omega))
    ·refine⟨2*i+2,by omega,by omega,by omega,λk k1 k2 k3=>?_,?_⟩
     ·have:k=2*i+1\/k=2*i+2:=by omega
      rcases this with rfl|rfl
      ·rw[Ut h,Ut O];omega
      omega
     simp only[h2,decide_true,Xi,QeV O h,h3,Qh,Wv,e1,e2]
    refine⟨2*i+1,by omega,by omega,by omega,λk k1 k2 k3=>?_,?_⟩
    ·have:k=2*i+1\/k=2*i+2:=by omega
     rcases this with rfl|rfl
     ·omega
     rw[Ut h,Ut O];omega
    simp only[h2,decide_true,Xi,QeV O h,h3,decide_false,Xn,Qh,Wv,e1,e2]
   refine⟨2*i+1,by omega,by omega,by omega,λk k1 k2 k3=>?_,?_⟩
   ·have:k=2*i+1:=by omega
    subst this;omega
   simp only[h2,decide_false,Xn,Qh,Wv,e1]
  obtain⟨j,j1,j2,j3,j4,he⟩:=hg;rw[he];have h:s[i]? = C (s[i]'(by omega)):=QI (by omega);have O:s[j]? = C (s[j]'(by omega)):=QI (by omega);unfold Wu;rw[QeV O h,Qh];by_cases hlt:fk (s[j]'(by omega))<fk (s[i]'(by omega))
  ·left;refine⟨((j:Int),(s.set i (s[j]'(by omega))).set j (s[i]'(by omega))),?_,⟨j,rfl,by simpa using hl,by omega,hu.step j1 j2 h O hlt j3 j4,(Qm0 h O).trans hp,?_⟩,by simp;omega⟩
   ·simp only[hlt,decide_true,DT,Xn,QeU h O,Qh];rw[EX (by simp)];rfl
   rw[SA (by omega),SA (by omega)];exact hq
  right;refine⟨((i:Int),s),by simp only[hlt,decide_false,Qbw,Xi],hp,hu.done λk k1 k2 k3=>?_,hq⟩;have:=j4 k k1 k2 k3;rw[Ut O]at this;rw[Ut h];omega
 obtain⟨r,h1,h2⟩:=key;exact⟨_,r.2,by rw[h1];rfl,h2⟩
def Qw9 {l:L_ Sp}(h:EH fk l l.length)(h0:l≠[])(hn:l.length<1000000000):∃x O,UO l=C (x,O)/\l.Perm (x::O)/\EH fk O O.length/\∀y∈O,fk x<=fk y:=by
 obtain⟨n,hl⟩:∃n,l.length=n+1:=⟨l.length-1,by have:=List.length_pos_iff.2 h0;omega⟩;have hx:l[0]? = C (l[0]'(by omega)):=QI (by omega);have hy:l[n]? = C (l[n]'(by omega)):=QI (by omega);rw[hl]at h;have hsl:((l.set 0 (l[n]'(by omega))).set n (l[0]'(by omega))).length=n+1:=by simpa using hl
 obtain⟨b,O,h1,h2,h3,h4⟩:=QvJ (n:=n) (by omega) _ hsl (h.swap hx hy);rw[Qbx (by simp;omega)]at h4;have hl':O.length=n+1:=by rw[h2.length_eq,hsl]
 have e:Qf ((l.length:Int)-1)=(n:Int):=by rw[YH (by omega)];omega
 have e':Qf ((O.length:Int)-1)=(n:Int):=by rw[YH (by omega)];omega
 have hsp:O=O.take n++[l[0]'(by omega)]:=by
  have:=List.take_append_drop n O;rw[Sx (by omega),List.drop_eq_nil_of_le (by omega)]at this;obtain⟨_,h5⟩:=QX.1 h4;rw[h5]at this;exact this.symm
 have hp:l.Perm ((l[0]'(by omega))::O.take n):=by
  refine((Qm0 hx hy).symm.trans h2.symm).trans ?_;have:(O.take n++[l[0]'(by omega)]).Perm ((l[0]'(by omega))::O.take n):=List.perm_append_singleton _ _;rwa[<-hsp]at this
 refine⟨l[0]'(by omega),O.take n,?_,hp,?_,λy hy'=>?_⟩
 ·unfold UO Ax RT;have:=QeU hx hy;simp only[Int.natCast_zero]at this;simp only[Qh,e,show(0:Int)=((0:Nat):Int)from rfl,QeU hx hy];rw[EX (by simp)];simp only[Qh];rw[show DC ((l.set 0 (l[n]'(by omega))).set n (l[0]'(by omega))) ((0:Nat):Int) (n:Int)=C (b,O)from h1];simp only[Qh,e',Xe,h4];rw[QbX (by simp[hl'])];simp
 ·rw[Kd,HZ (by omega)];exact h3.congr λk hk=>List.getElem?_take_of_lt hk
 have hm:y∈l:=hp.symm.subset (Yq _ hy');obtain⟨i,hi⟩:=GD.1 hm;have:=h.least i (by have:=(QX.1 hi).1;omega);rw[Ut hi,Ut hx]at this;exact this
end Go.Proofs
noncomputable section
namespace Go.Proofs
open Go Go.RowKit Go.Vm Go.Rk
variable {s:QN}{m:L_ (Int×LI_)}{gs:LI_}
def Qtw {k:Int}:He s k=some (decide (Ja s.States.length k)):=by
 unfold He;refine congrArg some ?_;rw[QgM,decide_eq_true_iff,QL,decide_eq_true_iff,decide_eq_true_iff];exact Iff.rfl
def QlQ {e:Xj}:II s e=some (cnt s e):=by
 unfold II Qdd Qde He cnt;cases (decide (0<=e.From)&&decide (e.From<(s.States.length:Int)))<;>rfl
def QvK (h:FO s):∃m,Qx (λst:Int×L_ (Int×LI_)=>Rf s st.1 st.2) (0,[])=some m/\∀k,(Qy m k).getD []=Jt (s.Edges.filter (cnt s)) k:=by
 have hed:=h.ed;refine FJ s.Edges.length (λi st=>st.1=(i:Int)/\∀k,(Qy st.2 k).getD []=Jt ((s.Edges.take i).filter (cnt s)) k) _ (λi st hi hs=>?_) (λst hs=>?_) (0,[]) ⟨rfl,λk=>by simp[Jt,Qy]⟩
 ·obtain⟨j,m⟩:=st;obtain⟨hj,O⟩:=hs;simp only at hj O;subst hj;left;have h1:(i:Int)<s.Edges.length:=by omega
  have ht:s.Edges.take (i+1)=s.Edges.take i++[s.Edges[i]]:=Qby hi;unfold Rf Re;simp only[h1,decide_true,Xi,Xe,QI hi,Qh,QlQ,QE hi h.ok.2.1];cases hc:cnt s s.Edges[i]with
  |false=>
   refine⟨_,rfl,rfl,λk=>?_⟩;rw[ht,Sy,Bz,hc];simpa using O k
  |true=>
   have hlen:(Jt ((s.Edges.take i).filter (cnt s)) s.Edges[i].To).length<=130023424:=by
    unfold Jt;rw[KO];refine Yx (Nq _ _) (Yx (Nq _ _) ?_);rw[Kd];omega
   simp only[Xi,O];rw[EX (show(Jt ((s.Edges.take i).filter (cnt s)) s.Edges[i].To).length+([s.Edges[i].From]:LI_).length<=4294967296 by simp only[Hj];omega)];refine⟨_,rfl,rfl,λk=>?_⟩;simp only[Wx];have e:Jt ((s.Edges.take (i+1)).filter (cnt s)) k=Jt ((s.Edges.take i).filter (cnt s)) k++(if s.Edges[i].To=k then [s.Edges[i].From]else []):=by
    rw[ht,Sy,Bz,hc];unfold Jt;by_cases c:s.Edges[i].To=k<;>simp[c]
   rw[e];by_cases c:k=s.Edges[i].To
   ·subst c;simp
   rw[if_neg c,if_neg (λe=>c e.symm),O k];simp
 obtain⟨j,m⟩:=st;obtain⟨hj,O⟩:=hs;simp only at hj O;subst hj;refine⟨m,by simp[Rf],λk=>?_⟩;rw[O k,Hm]
def QvL (h:FO s):Qx (λst:Int×LI_=>IJ s st.1 st.2) (0,List.replicate (s.States.length:Int).toNat 0)=some (List.replicate s.States.length (-1)):=by
 have key:∃r,Qx (λst:Int×LI_=>IJ s st.1 st.2) (0,List.replicate (s.States.length:Int).toNat 0)=some r/\r=List.replicate s.States.length (-1):=by
  refine FJ s.States.length (λi st=>st=((i:Int),List.replicate i (-1)++List.replicate (s.States.length-i) 0)) _ (λi st hi hs=>?_) (λst hs=>?_) _ (by simp)
  ·subst hs;left;have O:(i:Int)<((List.replicate (s.States.length:Int).toNat (0:Int)).length:Int):=by simp;omega
   have e:s.States.length-i=(s.States.length-(i+1))+1:=by omega
   have hx:(List.replicate i (-1:Int)++List.replicate (s.States.length-i) (0:Int))[i]? = some 0:=by
    rw[YJ (by simp),e];simp
   refine⟨(((i+1:Nat):Int),List.replicate (i+1) (-1)++List.replicate (s.States.length-(i+1)) 0),?_,rfl⟩;unfold IJ;simp only[O,decide_true,Xi,Xe,hx,Qh,QE hi h.ok.1];rw[show((i:Int)).toNat=i from rfl,List.set_append_right _ _ (by simp),e];simp[List.replicate_succ' (n:=i),List.replicate_succ]
  subst hs;refine⟨_,?_,rfl⟩;unfold IJ;simp
 obtain⟨r,O,h2⟩:=key;rw[O,h2]
structure QsS (s:QN) (gs:List Int) (M:Nat) (out:List Int) (w:List Sp):Prop where
 len:out.length=s.States.length
 lo:∀k,-1<=av out k
 hp:EH fk w w.length
 goal:∀g,g∈gs->Ja s.States.length g->av out g=0\/QF.mk g 0∈w
 edge:∀u v,(u,v)∈es s->Ja s.States.length u->Ja s.States.length v->0<=av out v->(0<=av out u/\av out u<=av out v+1)\/QF.mk u (av out v+1)∈w
 back:∀k,0<=av out k->(av out k=0/\k∈gs)\/∃v,(k,v)∈es s/\Ja s.States.length v/\0<=av out v/\av out k=av out v+1
 wt:∀x,x∈w->Ja s.States.length x.state/\((x.far=0/\x.state∈gs)\/∃v,(x.state,v)∈es s/\Ja s.States.length v/\0<=av out v/\x.far=av out v+1)
 ord:∀k x,x∈w->av out k<=x.far
 bnd:∀x,x∈w->x.far+((w.length+((s.Edges.filter (cnt s)).countP λe=>decide (av out e.To<0)):Nat):Int)<=M
 sz:w.length+((s.Edges.filter (cnt s)).countP λe=>decide (av out e.To<0))<=M
def Quw {x:Sp}{w0:L_ Sp}(r:L_ Sp)(fr:LI_)(hm:(Qy m x.state).getD []=fr)(hw:EH fk r r.length)(hb:r.length+fr.length<1000000000)(hx:0<=x.far/\x.far<=1000000000):
  ∃l,Qx (λst:Int×L_ Sp=>Ri m (x,w0) st.1 st.2) (0,r)=some l/\EH fk l l.length/\l.length=r.length+fr.length/\∀y,y∈l↔y∈r\/∃u∈fr,y=QF.mk u (x.far+1):=by
 refine FJ fr.length (λi st=>st.1=(i:Int)/\EH fk st.2 st.2.length/\st.2.length=r.length+i/\∀y,y∈st.2↔y∈r\/∃u∈fr.take i,y=QF.mk u (x.far+1)) _ (λi st hi hs=>?_) (λst hs=>?_) (0,r) ⟨rfl,hw,rfl,by simp⟩
 ·obtain⟨j,l⟩:=st;obtain⟨hj,O,h2,h3⟩:=hs;simp only at hj O h2 h3;subst hj;left;have hi':(i:Int)<fr.length:=by omega
  obtain⟨l',p1,p2,p3⟩:=QqO (QF.mk fr[i] (x.far+1)) O (by omega);unfold Ri;simp only[hm,hi',decide_true,Xi,Xe,QI hi,Qh,YH (show -9223372036854775808<=x.far+1/\x.far+1<=9223372036854775807 by omega),p1,QE hi (show fr.length<=maxLen by unfold maxLen;omega)];refine⟨_,rfl,rfl,p3,by rw[p2.length_eq];simp;omega,λy=>?_⟩;rw[p2.mem_iff,Yw,h3,Qby hi];simp only[Jy,Hk];constructor
  ·rintro (h|h|⟨u,hu,h⟩)
   ·exact .inr ⟨_,.inr rfl,h⟩
   ·exact .inl h
   exact .inr ⟨u,.inl hu,h⟩
  rintro (h|⟨u,hu|hu,h⟩)
  ·exact .inr (.inl h)
  ·exact .inr (.inr ⟨u,hu,h⟩)
  subst hu;exact .inl h
 obtain⟨j,l⟩:=st;obtain⟨hj,O,h2,h3⟩:=hs;simp only at hj O h2 h3;subst hj;refine⟨l,?_,O,h2,λy=>by rw[h3,Hm]⟩;unfold Ri;simp[hm]
def QsS.round {M:Nat}(hM:M<=200000000)(hm:∀k,(Qy m k).getD []=Jt (s.Edges.filter (cnt s)) k){out:LI_}{w:L_ Sp}(I:QsS s gs M out w)(hw:w≠[]):
  ∃out' w',Rj m out w=some (.inl (out',w'))/\QsS s gs M out' w'/\w'.length+((s.Edges.filter (cnt s)).countP λe=>decide (av out' e.To<0))<w.length+((s.Edges.filter (cnt s)).countP λe=>decide (av out e.To<0)):=by
 have hsz:=I.sz;have hpos:=List.length_pos_iff.2 hw;obtain⟨x,r,p1,p2,p3,p4⟩:=Qw9 I.hp hw (by omega);have hxm:x∈w:=p2.symm.subset Yd;have hrm:∀y∈r,y∈w:=λy hy=>p2.symm.subset (Yq _ hy);have hmem:∀y,y∈w->y=x\/y∈r:=λy hy=>Yw.1 (p2.subset hy);have hlen:w.length=r.length+1:=by rw[p2.length_eq];rfl
 obtain⟨hxr,hxw⟩:=I.wt x hxm;have hxr':Ja out.length x.state:=by rw[I.len];exact hxr
 have hx0:0<=x.far:=by
  rcases hxw with⟨h,_⟩|⟨v,_,_,h1,h2⟩<;>omega
 have hxb:=I.bnd x hxm;have hgo:=PL hxr';unfold Rj Lq;have hwl:(0:Int)<w.length:=by omega
 simp only[Qh,hwl,decide_true,Xi,p1,Bw hxr.1,hgo];by_cases hs:0<=av out x.state
 ·
  refine⟨out,r,by simp[hs],?_,by omega⟩;have hle:=I.ord x.state x hxm;refine { len:=I.len,lo:=I.lo,hp:=p3,goal:=λg hg hr=>?_,edge:=λu v h1 h2 h3 h4=>?_,back:=I.back,wt:=λy hy=>I.wt y (hrm y hy),ord:=λk y hy=>I.ord k y (hrm y hy),bnd:=λy hy=>by have:=I.bnd y (hrm y hy);omega,sz:=by omega }
  ·rcases I.goal g hg hr with h|h
   ·exact .inl h
   rcases hmem _ h with h|h
   ·subst h;left;simp only at hs hle;omega
   exact .inr h
  rcases I.edge u v h1 h2 h3 h4 with h|h
  ·exact .inl h
  rcases hmem _ h with h|h
  ·subst h;left;simp only at hs hle;exact⟨hs,hle⟩
  exact .inr h
 
 have hold:av out x.state=-1:=by have:=I.lo x.state;omega
 have O:∀k,av (out.set x.state.toNat x.far) k=if k=x.state then x.far else av out k:=QvG x.far hxr';have hne:∀k,0<=av out k->k≠x.state:=λk hk e=>by subst e;omega
 have hcount:(s.Edges.filter (cnt s)).countP (λe=>decide (av out e.To<0))=(s.Edges.filter (cnt s)).countP (λe=>decide (av (out.set x.state.toNat x.far) e.To<0))+(Jt (s.Edges.filter (cnt s)) x.state).length:=by
  unfold Jt;rw[KO,<-List.countP_eq_length_filter];refine QjZ λe he=>?_;rw[O];by_cases c:e.To=x.state
  ·left;refine⟨by rw[c];simp;omega,.inr ⟨by rw[if_pos c];simp;omega,by simp[c]⟩⟩
  rw[if_neg c];by_cases c2:av out e.To<0
  ·left;exact⟨by simp[c2],.inl ⟨by simp[c2],by simp[c]⟩⟩
  right;exact⟨by simp[c2],by simp[c2],by simp[c]⟩
 obtain⟨l,q1,q2,q3,q4⟩:=Quw (m:=m) (x:=x) (w0:=r) r _ (hm x.state) p3 (by omega) ⟨hx0,by omega⟩;refine⟨out.set x.state.toNat x.far,l,by simp only[hs,decide_false,Xn];rw[q1];rfl,?_,by omega⟩;have hadd:∀u,u∈Jt (s.Edges.filter (cnt s)) x.state->QF.mk u (x.far+1)∈l:=λu hu=>(q4 _).2 (.inr ⟨u,hu,rfl⟩);have hkeep:∀y,y∈r->y∈l:=λy hy=>(q4 _).2 (.inl hy);have hall:∀k,av (out.set x.state.toNat x.far) k<=x.far:=λk=>by
  rw[O];split
  ·exact Int.le_refl _
  exact I.ord k x hxm
 refine { len:=by simpa using I.len,lo:=λk=>?_,hp:=q2,goal:=λg hg hr=>?_,edge:=λu v h1 h2 h3 h4=>?_,back:=λk hk=>?_,wt:=λy hy=>?_,ord:=λk y hy=>?_,bnd:=λy hy=>?_,sz:=by omega }
 ·rw[O];split
  ·omega
  exact I.lo k
 ·rw[O];by_cases c:g=x.state
  ·rw[if_pos c];rcases I.goal g hg hr with h|h
   ·rw[c]at h;omega
   have h5:=I.ord x.state _ h;rcases hmem _ h with h|h
   ·rw[<-h];exact .inl rfl
   have:=p4 _ h;simp only[fk]at this;left;omega
  rw[if_neg c];rcases I.goal g hg hr with h|h
  ·exact .inl h
  rcases hmem _ h with h|h
  ·rw[<-h]at c;exact absurd rfl c
  exact .inr (hkeep _ h)
 ·rw[O,O];rw[O]at h4;by_cases cv:v=x.state
  ·rw[if_pos cv];right;exact hadd u (QeQ.2 ⟨cv▸h1,h2,hxr⟩)
  rw[if_neg cv]at h4 ⊢;rcases I.edge u v h1 h2 h3 h4 with⟨h5,h6⟩|h
  ·rw[if_neg (hne u h5)];exact .inl ⟨h5,h6⟩
  rcases hmem _ h with h|h
  ·left;have e1:x.state=u:=by rw[<-h]
   have e2:x.far=av out v+1:=by rw[<-h]
   rw[if_pos e1.symm];omega
  exact .inr (hkeep _ h)
 ·rw[O]at hk ⊢;by_cases c:k=x.state
  ·rw[if_pos c];subst c;rcases hxw with⟨h1,h2⟩|⟨v,h1,h2,h3,h4⟩
   ·exact .inl ⟨h1,h2⟩
   exact .inr ⟨v,h1,h2,by rw[O,if_neg (hne v h3)];exact⟨h3,h4⟩⟩
  rw[if_neg c]at hk ⊢;rcases I.back k hk with h|⟨v,h1,h2,h3,h4⟩
  ·exact .inl h
  exact .inr ⟨v,h1,h2,by rw[O,if_neg (hne v h3)];exact⟨h3,h4⟩⟩
 ·rcases(q4 y).1 hy with h|⟨u,hu,rfl⟩
  ·obtain⟨h1,h2⟩:=I.wt y (hrm y h);refine⟨h1,?_⟩;rcases h2 with h|⟨v,h1,h2,h3,h4⟩
   ·exact .inl h
   exact .inr ⟨v,h1,h2,by rw[O,if_neg (hne v h3)];exact⟨h3,h4⟩⟩
  obtain⟨h1,h2,h3⟩:=QeQ.1 hu;exact⟨h2,.inr ⟨x.state,h1,h3,by rw[O,if_pos rfl];exact⟨hx0,rfl⟩⟩⟩
 ·have:=hall k;rcases(q4 y).1 hy with h|⟨u,hu,rfl⟩
  ·have:=p4 y h;unfold fk at this;omega
  simp only;omega
 rcases(q4 y).1 hy with h|⟨u,hu,rfl⟩
 ·have:=I.bnd y (hrm y h);omega
 simp only;omega
def Qxa (h:FO s)(hg:gs.length<=1000):∃out,Ol s gs=some out/\El s.States.length (es s) gs out:=by
 obtain⟨m,m1,m2⟩:=QvK h;have hed:=h.ed;unfold Ol;rw[m1];simp only[Qh];unfold Qgv;rw[QbX (by have:=h.st;simp;omega)];simp only[Qh];rw[QvL h];simp only[Qh];unfold Qgu;have hav:∀k,av (List.replicate s.States.length (-1)) k=-1:=λk=>by
  by_cases hr:Ja (List.replicate s.States.length (-1:Int)).length k
  ·have O:=PL hr;rw[List.getElem?_replicate]at O;split at O
   ·exact(Option.some.inj O).symm
   cases O
  exact QdA hr
 have hcp:∀l:L_ Xj,l.countP (λe=>decide (av (List.replicate s.States.length (-1)) e.To<0))=l.length:=λl=>by
  rw[List.countP_eq_length];intro e _;rw[hav];rfl
 have hce:(s.Edges.filter (cnt s)).length<=s.Edges.length:=Nq _ _;have k1:∃w,Qx (λst:Int×L_ Sp=>Rh gs s st.1 st.2) (0,[])=some w/\QsS s gs 130024424 (List.replicate s.States.length (-1)) w:=by
  refine FJ gs.length (λi st=>st.1=(i:Int)/\EH fk st.2 st.2.length/\st.2.length<=i/\∀y,y∈st.2↔∃g∈gs.take i,Ja s.States.length g/\y=QF.mk g 0) _ (λi st hi hs=>?_) (λst hs=>?_) (0,[]) ⟨rfl,λi _ h=>by simp at h,YK _,by simp⟩
  ·obtain⟨j,l⟩:=st;obtain⟨hj,O,h2,h3⟩:=hs;simp only at hj O h2 h3;subst hj;left;have hi':(i:Int)<gs.length:=by omega
   unfold Rh Rg;simp only[hi',decide_true,Xi,Xe,QI hi,Qh,Qtw,QE hi (show gs.length<=maxLen by unfold maxLen;omega)];by_cases c:Ja s.States.length gs[i]
   ·obtain⟨l',p1,p2,p3⟩:=QqO (QF.mk gs[i] 0) O (by omega);simp only[c,decide_true,Xi,p1,Qh];refine⟨(((i+1:Nat):Int),l'),rfl,rfl,p3,by rw[p2.length_eq];simp;omega,λy=>?_⟩;rw[p2.mem_iff,Yw,h3,Qby hi];simp only[Jy,Hk];constructor
    ·rintro (h|⟨g,hg,h⟩)
     ·exact⟨_,.inr rfl,c,h⟩
     exact⟨g,.inl hg,h⟩
    rintro ⟨g,hg|hg,O,h2⟩
    ·exact .inr ⟨g,hg,O,h2⟩
    subst hg;exact .inl h2
   simp only[c,decide_false,Xn];refine⟨(((i+1:Nat):Int),l),rfl,rfl,O,by simp only;omega,λy=>?_⟩;rw[h3,Qby hi];simp only[Jy,Hk];constructor
   ·rintro ⟨g,hg,h⟩;exact⟨g,.inl hg,h⟩
   rintro ⟨g,hg|hg,O,h2⟩
   ·exact⟨g,hg,O,h2⟩
   subst hg;exact absurd O c
  obtain⟨j,l⟩:=st;obtain⟨hj,O,h2,h3⟩:=hs;simp only at hj O h2 h3;subst hj;rw[Hm]at h3;refine⟨l,by simp[Rh],?_⟩;have hm:∀y,y∈l->Ja s.States.length y.state/\y.state∈gs/\y.far=0:=λy hy=>by
   obtain⟨g,g1,g2,rfl⟩:=(h3 y).1 hy;exact⟨g2,g1,rfl⟩
  refine { len:=by simp,lo:=λk=>by rw[hav];omega,hp:=O,goal:=λg hg hr=>.inr ((h3 _).2 ⟨g,hg,hr,rfl⟩),edge:=λu v _ _ _ h=>by rw[hav]at h;omega,back:=λk hk=>by rw[hav]at hk;omega,wt:=λy hy=>⟨(hm y hy).1,.inl ⟨(hm y hy).2.2,(hm y hy).2.1⟩⟩,ord:=λk y hy=>by rw[hav,(hm y hy).2.2];omega,bnd:=λy hy=>?_,sz:=?_ }
  ·rw[(hm y hy).2.2,hcp];omega
  rw[hcp];omega
 obtain⟨w,w1,w2⟩:=k1;rw[w1];simp only[Qh];unfold Qgt;have k2:∃r,Qx (λst:LI_×L_ Sp=>Rj m st.1 st.2) (List.replicate s.States.length (-1),w)=some r/\El s.States.length (es s) gs r:=by
  refine ZF (λst:LI_×L_ Sp=>QsS s gs 130024424 st.1 st.2) (λst:LI_×L_ Sp=>st.2.length+((s.Edges.filter (cnt s)).countP λe=>decide (av st.1 e.To<0))) _ ?_ _ w2;rintro ⟨out,w⟩ I;simp only at I;by_cases hw:w=[]
  ·right;subst hw;refine⟨out,rfl,{ len:=I.len,lo:=I.lo,goal:=λg O h2=>?_,edge:=λu v O h2 h3 h4=>?_,back:=I.back }⟩
   ·rcases I.goal g O h2 with h|h
    ·exact h
    cases h
   rcases I.edge u v O h2 h3 h4 with h|h
   ·exact h
   cases h
  left;obtain⟨out',w',O,h2,h3⟩:=I.round (by omega) m2 hw;exact⟨(out',w'),O,h2,h3⟩
 obtain⟨r,r1,r2⟩:=k2;exact⟨r,by rw[r1];rfl,r2⟩
end Go.Proofs
noncomputable section
namespace Go.Proofs
open Go Go.RowKit Go.Vm Go.Rk
variable {n:Qg}{s:QN}
def Qux (h:FO s):(QdC n s).length<=1000:=by
 have:=QsR (QdB n) s.States 0;have:=h.st;unfold QdC;omega
structure QfE (n:Qg) (s:QN) (f:List Int):Prop where
 few:FO s
 far:Ol s (QdC n s)=some f
 is:El s.States.length (es s) (QdC n s) f
def Qx4 (h:FO s):∃f,QfE n s f:=by
 obtain⟨f,O,h2⟩:=Qxa (gs:=QdC n s) h (Qux h);exact⟨f,h,O,h2⟩
section
variable {n:Qg}{s:QN}{f:LI_}(E:QfE n s f)
include E
theorem QfE.len : f.length<=40:=by rw[E.is.len];exact E.few.st
theorem QfE.le40 (k:Int):av f k<=40:=by
 have:=E.few.st;rcases E.is.lt k with h|h
 ·omega
 by_cases O:Ja f.length k
 ·rw[E.is.len]at O;unfold Ja at O;omega
 rw[QdA O];omega
theorem QqP : PH n s=some f:=by
 unfold PH;simp only[QoW E.few,Qh,E.far]
theorem QvM : PI n s=some (Dg (λx=>decide (x<0)) 0 f):=by
 have hl:=E.len;unfold PI;rw[QqP E,Qh,Qdq (l:=f) (λx=>decide (x<0))]
 ·rfl
 ·intro i h x ha hi hx;have O:(i:Int)<f.length:=by omega
  have hc:decide (h.length+([(i:Int)]:LI_).length<=4294967296)=true:=Yy (by simp;omega);simp only[VU,Om,O,decide_true,Xi,Xe,hx,Qh,QE hi (show f.length<=maxLen by unfold maxLen;omega),QbX hc];cases decide (x<0)<;>rfl
 intro h;simp[VU]
end
section
variable {n:Qg}{s:QN}{f:LI_}(E:QfE n s f)
include E
end
def QhJ (s:QN)(f:LI_)(k:Int)(e:Xj):Bool:=cnt s e&&(e.From==k&&av f e.To==av f k-1)
def Md (s:QN)(f:LI_)(k:Int):Int:=if 0<av f k then(EY (λ_ e=>QhJ s f k e) 0 s.Edges).elim (-1) (λi=>(i:Int))else -1
section
variable {n:Qg}{s:QN}{f:LI_}(E:QfE n s f)
include E
theorem QlR (k:Int):IP s f k=some (Md s f k):=by
 unfold IP Qdm Md;rw[Qtw,Qh];by_cases O:Ja s.States.length k
 ·have hr':Ja f.length k:=by rw[E.is.len];exact O
  simp only[O,decide_true,DT,Xn,Bw O.1,PL hr',Qh];unfold Qdn;by_cases h0:0<av f k
  ·have h:¬av f k<=0:=by omega
   simp only[h,decide_false,Xn,if_pos h0];unfold Ww;rw[QeK (l:=s.Edges) (s0:=0) (λi=>(i:Int)) (λ_ e=>QhJ s f k e) (λi=>Sum.inl (i:Int)) (Sum.inr ()) ?_ ?_ rfl]
   ·cases EY (λ_ e=>QhJ s f k e) 0 s.Edges<;>rfl
   ·intro i e hi he;have h1:(i:Int)<s.Edges.length:=by omega
    have hcl:Ma e s k f=some (QhJ s f k e):=by
     unfold Ma Qay Qaz QhJ;rw[QlQ,Qh];cases hc:cnt s e with
     |false=>rfl|true=>
      obtain⟨_,hr2⟩:=Zd.1 hc;have hr2':Ja f.length e.To:=by rw[E.is.len];exact hr2
      simp only[Xi,Bool.true_and];cases e.From==k with
      |false=>rfl|true=>
       have:=E.le40 k;have:=E.is.lo k;simp only[Xi,Bool.true_and,Bw hr2.1,Bw O.1,PL hr',PL hr2',Qh,YH (show -9223372036854775808<=av f k-1/\av f k-1<=9223372036854775807 by omega)]
    unfold Kz;simp only[h1,decide_true,Xi,Xe,he,Qh,hcl,QE hi E.few.ok.2.1];cases QhJ s f k e<;>rfl
   simp[Kz]
  have h:av f k<=0:=by omega
  simp only[h,decide_true,Xi,if_neg h0]
 have h0:¬0<av f k:=by rw[QdA (by rw[E.is.len];exact O)];omega
 simp only[O,decide_false,Qbw,Xi,Qh,if_neg h0];rfl
theorem Qxb {k:Int}(h:¬0<av f k):Md s f k=-1:=by unfold Md;rw[if_neg h]
theorem QsT {k:Int}(h:0<av f k):∃i e,Md s f k=((i:Nat):Int)/\s.Edges[i]? = some e/\e.From=k/\Ja s.States.length e.To/\av f e.To=av f k-1:=by
 unfold Md;rw[if_pos h];cases hs:EY (λ_ e=>QhJ s f k e) 0 s.Edges with
 |none=>
  exfalso;rcases E.is.back k (by omega)with⟨h1,_⟩|⟨v,h1,h2,O,h4⟩
  ·omega
  obtain⟨e,e1,rfl,rfl⟩:=QgK.1 h1;obtain⟨j,hj⟩:=GD.1 e1;have:=QbZ hs j e hj;have hc:cnt s e=true:=Zd.2 ⟨E.is.rng (by omega),h2⟩;unfold QhJ at this;rw[hc]at this;simp at this;omega
 |some i=>
  obtain⟨j,e,h1,h2,O⟩:=QbY hs;obtain rfl:i=j:=by omega
  unfold QhJ at O;rw[QL,QL,Zd]at O;exact⟨i,e,rfl,h2,by simpa using O.2.1,O.1.2,by simpa using O.2.2⟩
end
def HY (s:QN)(f:LI_):Nat->Int->LI_
 |0,_=>[]|d+1,k=>Md s f k::HY s f d (((s.Edges[(Md s f k).toNat]?).map (·.To)).getD 0)
section
variable {n:Qg}{s:QN}{f:LI_}(E:QfE n s f)
include E
theorem QqQ : ∀(d:Nat) (k:Int),(HY s f d k).length=d:=by
 intro d
 induction d with|zero=>intro k;rfl|succ d h=>intro k;simp[HY,h]
theorem Qxc : ∀(d:Nat) (k:Int) (out:LI_),(av f k).toNat=d->out.length+d<=1000->Qx (λst:Int×LI_=>Bv s f st.1 st.2) (Md s f k,out)=some (out++HY s f d k):=by
 intro d
 induction d with
 |zero=>
  intro k out hd ho;rw[Qxb E (by omega),Wi];simp[Bv,HY]
 |succ d ih=>
  intro k out hd ho;obtain⟨i,e,h,O,h3,h4,h5⟩:=QsT E (k:=k) (by omega);have:=ih e.To (out++[Md s f k]) (by omega) (by simp;omega);have h6:(0:Int)<=((i:Nat):Int):=by omega
  have hb:Bv s f (Md s f k) out=some (.inl (Md s f e.To,out++[Md s f k])):=by
   unfold Bv;rw[h];simp only[h6,decide_true,Xi];rw[EX (by simp;omega)];simp only[Qh,Xe,O,QlR E]
  rw[Wi];show(Bv s f (Md s f k) out).bind _=_;rw[hb,Qh];simp only;rw[this,HY,h];simp only[Jb,O,Jh,GG,WC,List.singleton_append]
theorem Qxd (k:Int):QbW n s k=some (HY s f (av f k).toNat k):=by
 unfold QbW;have:=E.le40 k;simp only[QqP E,Qh,QlR E];rw[Qxc E _ k [] rfl (by simp;omega)];rfl
end
end Go.Proofs
noncomputable section
namespace Go.Proofs
open Go Go.RowKit Go.Vm Go.Rk
variable {l:LI_}{x:Int}
def XW (s:QN):LI_:=s.Edges.map λe=>e.Mode.Task
def QoX {s:QN}(h:FO s):Bt s=some (KQ (Jr (XW s))):=by
 have O:=h.ed;unfold Bt;have key:∃r,Qx (λst:Int×LI_=>HT s st.1 st.2) (0,[])=some r/\r=XW s:=by
  refine FJ s.Edges.length (λi st=>st=((i:Int),(XW s).take i)) _ (λi st hi hs=>.inl ?_) (λst hs=>?_) _ (by simp)
  ·subst hs;have h1:(i:Int)<s.Edges.length:=by omega
   have hg:(XW s)[i]? = some s.Edges[i].Mode.Task:=by unfold XW;rw[Ya,QI hi];rfl
   have hl:i<(XW s).length:=by unfold XW;simpa using hi
   have ht:(XW s).take (i+1)=(XW s).take i++[s.Edges[i].Mode.Task]:=by
    rw[Qby hl];congr 2;rw[QI hl]at hg;exact Option.some.inj hg
   unfold HT;simp only[h1,decide_true,Xi,Xe,QI hi,Qh,QE hi h.ok.2.1];rw[EX (by simp;omega),Qh];exact⟨_,rfl,by rw[ht]⟩
  subst hs;refine⟨(XW s).take s.Edges.length,by simp[HT],?_⟩;rw[DW (by unfold XW;simp)]
 obtain⟨r,r1,r2⟩:=key;subst r2;have hl:(XW s).length<=130023424:=by unfold XW;simpa using O
 rw[r1,Qh];unfold Qdi Yv AA;rw[EX (by omega)];simp only[Qh];rw[EX (Ms _)];simp only[Qh];rw[EX (by rw[Ms];omega)];rfl
def QqR:x∈Jr l↔x∈l:=(QbF l).mem_iff
def QoY (l:LI_):(Jr l).Pairwise (·<=·):=QlA l
def Qj3:x∈KQ l↔x∈l:=by
 unfold KQ Lib.compact Lib.compactUpTo;rw[Ye];constructor
 ·rintro ⟨i,hi,rfl⟩;have h:=Ea.1 (AD.1 hi).1;have:l.toArray[i]! = l[i]:=by simp[h]
  rw[this];exact Jc h
 intro hx;obtain⟨i,hi,rfl⟩:=Lr.1 hx;have key:∀i (hi:i<l.length),∃a,a∈(List.range l.length).filter (Lib.keeps l.toArray)/\l.toArray[a]! = l[i]:=by
  intro i
  induction i with
  |zero=>
   intro hi;exact⟨0,AD.2 ⟨Ea.2 hi,by simp[Lib.keeps]⟩,by simp[hi]⟩
  |succ i ih=>
   intro hi;by_cases c:l[i+1]=l[i]
   ·rw[c];exact ih (by omega)
   refine⟨i+1,AD.2 ⟨Ea.2 hi,?_⟩,by simp[hi]⟩;have O:l.toArray[i+1]! = l[i+1]:=by simp[hi]
   have h2:l.toArray[i]! = l[i]:=by simp[show i<l.length by omega]
   unfold Lib.keeps;rw[Nat.add_sub_cancel,O,h2];simpa using c
 exact key i hi
def QoZ (h:l.Pairwise (·<=·)):(KQ l).Pairwise (·<·):=by
 unfold KQ Lib.compact Lib.compactUpTo;rw[Zk];have hp:((List.range l.length).filter (Lib.keeps l.toArray)).Pairwise (·<·):=List.Pairwise.filter _ List.pairwise_lt_range;refine hp.imp_of_mem λ{i j} hi hj hij=>?_;have hjl:=Ea.1 (AD.1 hj).1;have O:=(AD.1 hj).2;have e:∀k,k<l.length->l.toArray[k]! = l.getD k 0:=λk O=>by simp[O]
 unfold Lib.keeps at O;rw[decide_eq_true_iff]at O;rw[e i (by omega),e j hjl];rw[e j hjl,e (j-1) (by omega)]at O;have mono:∀a b,a<=b->b<l.length->l.getD a 0<=l.getD b 0:=λa b hab hb=>by
  rcases Nat.lt_or_eq_of_le hab with h1|h1
  ·have:=List.pairwise_iff_getElem.1 h a b (by omega) hb h1;simpa[show a<l.length by omega,hb] using this
  subst h1;exact Int.le_refl _
 have h1:=mono i (j-1) (by omega) (by omega);have h2:=mono (j-1) j (by omega) hjl;rcases O with O|O
 ·omega
 omega
end Go.Proofs
noncomputable section
namespace Go.Proofs
open Go Go.RowKit Go.Vm Go.Rk
open Option renaming some→C
variable {n:Qg}{s:QN}{l:LI_}{m:L_ Bag}
def Qj4 (n:Qg)(m:Mk):Bool:=decide (0<=n.To)&&(decide (n.To<m.length)&&((m[n.To.toNat]?).map λb=>decide (0<Ze b)).getD false)
def Pf (n:Qg)(m:Mk):Bool:=Qj4 n m&&!QdB n m
def Qxe {m:Mk}(h:okM m):Gk m (Xk.mk n s)=C (Pf n m):=by
 unfold Gk Hd;rw[show Ws (Xk.mk n s).net m=C (Qj4 n m)from TV h,Qh];unfold Pf;cases Qj4 n m with|true=>rw[Xi,show Ky (Xk.mk n s).net m=C (QdB n m)from UY h];rfl|false=>rfl
def Qrz (h:FO s):Ek (Xk.mk n s)=C ((EY (λ_ m=>Pf n m) 0 s.States).elim (-1) λi=>(i:Int)):=by
 unfold Ek Kc;show((Qx (λst=>Xy s.States (Xk.mk n s) st) 0).bind _).bind _=_;rw[QeK (body:=λst=>Xy s.States (Xk.mk n s) st) (s0:=(0:Int)) (l:=s.States) (λi=>(i:Int)) (λ_ m=>Pf n m) (λi=>.inl (i:Int)) (.inr ()) (λi x hi O=>by
  show Xy s.States (Xk.mk n s) i=_;unfold Xy;rw[Yy (by omega),Xi,Xe,O,Qh,Qxe (h.get O),Qh,QE hi h.ok.1];cases Pf n x<;>rfl) (by
  show Xy s.States (Xk.mk n s) s.States.length=_;unfold Xy;rw[Kh (by omega),Xn]) rfl]
 cases EY (λ_ m=>Pf n m) 0 s.States<;>rfl
def Qzq (hl:l.length<=maxLen)(k:Int):Yi l k=C (decide (k∈l)):=by
 unfold Yi WY;rw[QeK (body:=λst=>YE l k st) (s0:=(0:Int)) (l:=l) (λi=>(i:Int)) (λ_ y=>k==y) (λi=>.inl (i:Int)) (.inr ()) (λi x hi hx=>by
  show YE l k i=_;unfold YE;rw[Yy (by omega),Xi,Xe,hx,Qh,QE hi hl];cases (k==x)<;>rfl) (by
  show YE l k l.length=_;unfold YE;rw[Kh (by omega),Xn]) rfl]
 cases h:EY (λ_ y=>k==y) 0 l with
 |none=>
  rw[Kh λhk=>?_]
  ·rfl
  obtain⟨i,hi,e⟩:=Lr.1 hk;have:=QbZ h i _ (QI hi);rw[e]at this;simp at this
 |some i=>
  obtain⟨j,x,h1,O,h3⟩:=QbY h;rw[Yy (by have:=XG O;rw[show k=x by simpa using h3];exact this)];show C (decide (0<=(i:Int)))=_;rw[Yy (by omega)]
def Qxf (h:l.Pairwise (·<=·)):(KQ l).length<=l.length:=Rm ((QoZ h).imp λO=>by omega) λx hx=>Qj3.1 hx
def QvN (h:FO s)(ht:n.Tasks.length<=4096):Qk (Cb (Xk.mk n s)) λl=>(∀t∈l,0<=t/\t<n.Tasks.length/\t ∉ XW s)/\(l=[]->∀k:Nat,k<n.Tasks.length->(k:Int)∈XW s):=by
 have mx:(130023424:Nat)<=maxLen:=by decide
 have hed:=h.ed;unfold Cb;rw[show Bt (Xk.mk n s).space=C (KQ (Jr (XW s)))from QoX h,Qh];have O:∀x:Int,x∈KQ (Jr (XW s))↔x∈XW s:=λx=>Qj3.trans QqR;have hlen:(KQ (Jr (XW s))).length<=maxLen:=by
  have h1:=Qxf (QoY (XW s));have h2:=(QbF (XW s)).length_eq;have h3:(XW s).length=s.Edges.length:=KO _;omega
 generalize KQ (Jr (XW s))=D at O hlen ⊢;refine T0 (Qk.up n.Tasks.length (λst:Int×LI_=>st.1) (λst=>(st.2.length:Int)<=st.1/\(∀t∈st.2,0<=t/\t<n.Tasks.length/\t ∉ XW s)/\(st.2=[]->∀k:Nat,(k:Int)<st.1->(k:Int)∈XW s)) (Q:=λl:LI_=>(∀t∈l,0<=t/\t<n.Tasks.length/\t ∉ XW s)/\(l=[]->∀k:Nat,k<n.Tasks.length->(k:Int)∈XW s)) rfl ⟨by simp,λt h=>(by cases h),λ_ k hk=>by omega⟩ (λi st hi hn hJ=>?_)) (λq hq=>T2 hq);obtain⟨x,l⟩:=st;replace hi:x=(i:Int):=hi;subst hi;obtain⟨j1,j2,j3⟩:(l.length:Int)<=(i:Int)/\(∀t∈l,0<=t/\t<n.Tasks.length/\t ∉ XW s)/\(l=[]->∀k:Nat,(k:Int)<(i:Int)->(k:Int)∈XW s):=hJ;show Qk (FF (Xk.mk n s) D i l) _;unfold FF;refine T1 (λhc=>?_) (λhc=>T2 (Qw ⟨j2,λe k hk=>j3 e k ?_⟩))
 ·replace hc:decide ((i:Int)<(n.Tasks.length:Int))=true:=hc;simp only[QT]at hc;have i1:i<n.Tasks.length:=by omega
  have hw:Qf ((i:Int)+1)=((i+1:Nat):Int):=QE i1 (by omega:n.Tasks.length<=maxLen);rw[Qzq hlen,Qh];have k1:∀l':LI_,(l'.length:Int)<=(i:Int)+1->(∀t∈l',0<=t/\t<n.Tasks.length/\t ∉ XW s)->(l'=[]->∀k:Nat,(k:Int)<(i:Int)+1->(k:Int)∈XW s)->Qk (DE i l') λo=>(∀s',o=.inl s'->i<n.Tasks.length/\s'.1=((i+1:Nat):Int)/\((s'.2.length:Int)<=s'.1/\(∀t∈s'.2,0<=t/\t<n.Tasks.length/\t ∉ XW s)/\(s'.2=[]->∀k:Nat,(k:Int)<s'.1->(k:Int)∈XW s)))/\∀r:LI_,o=.inr r->(∀t∈r,0<=t/\t<n.Tasks.length/\t ∉ XW s)/\(r=[]->∀k:Nat,k<n.Tasks.length->(k:Int)∈XW s):=λl' h1 h2 h3=>by
   unfold DE;refine T2 ⟨λs' e=>?_,λq e=>by cases e⟩;cases e;refine⟨i1,hw,?_,h2,?_⟩
   ·show(l'.length:Int)<=Qf _;rw[hw];omega
   show l'=[]->∀k:Nat,(k:Int)<Qf _->_;rw[hw];intro e k hk;exact h3 e k (by omega)
  by_cases c:(i:Int)∈D
  ·rw[Yy c];refine k1 l (by omega) j2 λe k hk=>?_;by_cases ck:k=i
   ·subst ck;exact(O _).1 c
   exact j3 e k (by omega)
  rw[Kh c];refine T0 (T5 (by simp;omega)) λ_ _=>k1 _ (by simp;omega) (λt ht=>?_) λe=>by simp at e
  rcases Jy.1 ht with ht|ht
  ·exact j2 t ht
  simp at ht;subst ht;exact⟨by omega,by omega,λhk=>c ((O _).2 hk)⟩
 replace hc:decide ((i:Int)<(n.Tasks.length:Int))=false:=hc;simp only[XA]at hc;omega
def Qzr {b tokens:Int}(h:XE n)(O:SOk n m b tokens s)(hb:b<=31)(hE:s.Edges.length<=130023424):FO s:=by
 have hm:Xt b<=31:=by unfold Xt min2;split<;>omega
 have hpl:=h.pl;have hl:=O.len;exact⟨⟨by unfold maxLen;omega,by unfold maxLen;omega,λy hy=>by
  have hg:=O.good y hy;have:=hg.1.1;exact⟨by unfold maxLen;omega,λb hb=>by have:=(hg.1.2 b hb).2;unfold maxLen;omega⟩⟩,by omega,hE⟩
inductive Told (n:Qg) (s:QN):XT->Prop where
 |un:s.Full=false->Told n s (XT.mk 3 0 0 [])
 |im (k:Nat) (x:Mk) (p:List Qq):s.States[k]? = C x->Pf n x=true->Wt s (k:Int)=C p->Told n s (XT.mk 2 1 0 p)
 |lo (k:Nat) (x:Mk) (p:List Qq):s.States[k]? = C x->Wt s (k:Int)=C p->Told n s (XT.mk 2 2 0 p)
 |de (t:Int):0<=t->t<n.Tasks.length->Told n s (XT.mk 2 3 t [])
 |so (f:List Int):s.Full=true->(∀x∈s.States,Pf n x=false)->QfE n s f->(∀k:Nat,k<s.States.length->0<=av f (k:Int))->(∀k:Nat,k<n.Tasks.length->(k:Int)∈XW s)->Told n s (XT.mk 1 0 0 [])
def Quy {b tokens:Int}(h:XE n)(hS:SOk n m b tokens s)(hb:b<=31)(hE:s.Edges.length<=130023424):Qk (Um n s) (Told n s):=by
 have hF:=Qzr h hS hb hE;have htl:=h.tl;unfold Um;refine T1 (λc=>T2 (.un (by simpa using c))) λc=>?_;have c:s.Full=true:=by simpa using c
 have p1:Ca (Xk.mk n s)=(match EY (λ_ m=>Pf n m) 0 s.States with
   |some k=>(Wt s (k:Int)).bind λp=>C (false,XT.mk 2 1 0 p)|none=>C (true,XT.mk 0 0 0 [])):=by
  unfold Ca;rw[Qrz hF,Qh];cases EY (λ_ m=>Pf n m) 0 s.States with
  |some k=>
   show(bif decide ((k:Int)<0)then _ else _)=_;rw[Kh (by omega)];rfl
  |none=>rfl
 rw[p1];cases hs:EY (λ_ m=>Pf n m) 0 s.States with
 |some k=>
  obtain⟨i,x,e,hx,hp⟩:=QbY hs;rw[DY]at e;subst e;obtain⟨p,q1,_⟩:=QmZ h hS hb hE hx;simp only;rw[q1,Qh,Qh];exact T2 (.im k x p hx hp q1)
 |none=>
  have him:∀x∈s.States,Pf n x=false:=λx hx=>by
   obtain⟨i,hi,rfl⟩:=Lr.1 hx;exact QbZ hs i _ (QI hi)
  simp only;rw[Qh];show Qk ((DD (Xk.mk n s)).bind _) _;obtain⟨f,hf⟩:=Qx4 (n:=n) hF;have p2:DD (Xk.mk n s)=(bif ((((Dg (λx=>decide (x<0)) 0 f).length:Int))==0)then C (true,XT.mk 0 0 0 [])else(idx (Dg (λx=>decide (x<0)) 0 f) 0).bind λe=>(Wt s e).bind λp=>C (false,XT.mk 2 2 0 p)):=by
   unfold DD;rw[show PI (Xk.mk n s).net (Xk.mk n s).space=C (Dg (λx=>decide (x<0)) 0 f)from QvM hf,Qh]
  rw[p2];cases hL:Dg (λx=>decide (x<0)) 0 f with
  |cons e r=>
   have he:e∈Dg (λx=>decide (x<0)) 0 f:=by rw[hL];exact Yd
   obtain⟨i,y,hi,_,rfl⟩:=Qdp.1 he;have O:=(QX.1 hi).1;rw[hf.is.len]at O;obtain⟨p,q1,_⟩:=QmZ h hS hb hE (QI O);rw[show((((((0+i:Nat):Int)::r).length:Int))==0)=false by simp;omega,Xn];show Qk (((C ((0+i:Nat):Int)).bind _).bind _) _;rw[Qh,DY,q1,Qh,Qh];exact T2 (.lo i _ p (QI O) q1)
  |nil=>
   rw[show(((([]:LI_).length:Int))==0)=true from rfl,Xi,Qh];show Qk ((AR (Xk.mk n s)).bind _) _;have hav:∀k:Nat,k<s.States.length->0<=av f (k:Int):=λk hk=>by
    rcases Int.lt_or_le (av f (k:Int)) 0 with h0|h0
    ·have hin:Ja f.length (k:Int):=by rw[hf.is.len];exact⟨by omega,by omega⟩
     have hg:=PL hin;rw[Jb]at hg;have:(k:Int)∈Dg (λx=>decide (x<0)) 0 f:=Qdp.2 ⟨k,_,hg,Yy h0,by simp⟩;rw[hL]at this;cases this
    exact h0
   obtain⟨D,d1,d2,d3⟩:=QvN (n:=n) hF (by omega);unfold AR;rw[d1,Qh];cases D with
   |nil=>exact T2 (.so f c him hf hav (d3 rfl))|cons t r=>
    have:=d2 t Yd;rw[show((((t::r).length:Int))==0)=false by simp;omega,Xn];exact T2 (.de t this.1 this.2.1)
end Go.Proofs
noncomputable section
namespace Go.Proofs
open Go Go.RowKit Go.Vm Go.Rk
variable {n:Qg}{m:L_ Bag}
def QqS {b c:Int}(tokens:Int)(h:QoV n b)(O:c<=31):BW n c tokens=some (Wz n (Gm n) c tokens):=by
 unfold BW;rw[h.first,Qh,Qx1 c tokens h.net h.bd h.good O];rfl
def QsU {b t:Int}(h:(Wz n m b t).Full=true):0<b:=by
 rcases Int.lt_or_le 0 b with c|c
 ·exact c
 unfold Wz at h;rw[if_pos c]at h;cases h
def Quz {b c:Int}(tokens:Int)(h:QoV n b)(O:c<=31):∃v,IK n c tokens=some v/\Um n (Wz n (Gm n) c tokens)=some v/\Told n (Wz n (Gm n) c tokens) v:=by
 unfold IK;rw[QqS tokens h O,Qh];cases hf:(Wz n (Gm n) c tokens).Full with
 |true=>
  have h0:=QsU hf;obtain⟨v,h1,h2⟩:=Quy h.net (QmY (tokens:=tokens) h.net h.bd h.pl h.good h0) O (QqN h.net h.bd h.good O);rw[h1];exact⟨v,rfl,rfl,h2⟩
 |false=>
  have e:Um n (Wz n (Gm n) c tokens)=some (XT.mk 3 0 0 []):=by unfold Um;rw[hf];rfl
  rw[e];exact⟨_,rfl,rfl,.un hf⟩
set_option maxRecDepth 100000
def QvO : QbV=some true:=by kernel_rfl
def QrG (n:Qg):Prop:=n.Places.length*48<=140737488351232/\∀p∈n.Places,p.First.length*16<=140737488351232
def QvP (hr:QrG n):Qk (WZ n) λm=>m.length=n.Places.length/\∀b∈m,b.length<=8796093022208:=by
 obtain⟨hp,hf⟩:=hr;unfold WZ;refine T0 (Qk.up n.Places.length (λst=>st.1) (λst=>(st.2.length:Int)=st.1/\∀b∈st.2,b.length<=8796093022208) (Q:=λm:L_ Bag=>m.length=n.Places.length/\∀b∈m,b.length<=8796093022208) rfl ⟨rfl,λb h=>by cases h⟩ (λi st hi hn hJ=>?_)) (λq hq=>T2 hq);obtain⟨x,l⟩:=st;replace hi:x=(i:Int):=hi;subst hi;obtain⟨j1,j2⟩:(l.length:Int)=(i:Int)/\∀b∈l,b.length<=8796093022208:=hJ;show Qk (SY n i l) _;unfold SY;refine T1 (λhc=>?_) (λhc=>T2 (Qw ?_))
 ·simp only[QT]at hc;have i1:i<n.Places.length:=by omega
  have hpl:=hf _ (Jc i1);rw[Xe,QI i1,Qh];have hw:Qf ((i:Int)+1)=((i+1:Nat):Int):=QE i1 (by unfold maxLen;omega:n.Places.length<=maxLen);have k1:∀b:Bag,b.length<=8796093022208->Qk (ES l i b) λo=>(∀s',o=.inl s'->i<n.Places.length/\s'.1=((i+1:Nat):Int)/\(s'.2.length:Int)=s'.1/\∀b∈s'.2,b.length<=8796093022208)/\∀r:L_ Bag,o=.inr r->r.length=n.Places.length/\∀b∈r,b.length<=8796093022208:=λb hb=>by
   unfold ES;refine T0 (T5 (by simp;omega)) λ_ _=>?_;refine T2 (QY (ix:=λst:Int×L_ Bag=>st.1) (J:=λst:Int×L_ Bag=>(st.2.length:Int)=st.1/\∀b∈st.2,b.length<=8796093022208) ⟨i1,hw,by show((l++[b]).length:Int)=Qf _;rw[hw];simp;omega,λb' O=>?_⟩);rcases Jy.1 O with O|O
   ·exact j2 b' O
   simp at O;subst O;exact hb
  unfold Jj;rw[EX (by simp;omega)];simp only[Qh,Qd6];refine T1 (λhc2=>?_) λ_=>k1 _ (by omega);rw[show VC ([0]:LI_)=some [(0,1)]from QoQ 0,Qh];rcases Nm (n.Places[i]).First [(0,1)] (by simp;omega)with⟨_,e⟩|⟨_,_,_,e⟩|⟨_,_,r,e,h1,_,h2⟩
  ·rw[e,Qh];exact k1 _ (by omega)
  ·rw[e,Qh];exact k1 _ (by omega)
  rw[e,Qh];exact k1 _ (by simp at h2;show r.length<=8796093022208;omega)
 simp only[XA]at hc;exact⟨by show l.length=_;omega,j2⟩
def Qx5 : Qfz []=some true:=by kernel_rfl
def Qxg (hn:Xu n)(hm:WZ n=some m)(hl:Xg (Xg λ_=>True) m):Qk (TN n ⟨m,[],1,0⟩) λr=>r=true->XE n/\BdJ n/\KN n m:=by
 unfold TN;simp only;rw[Qx5,Qh];refine T1 (λ_=>T2 λh=>by cases h) λhc=>?_;rw[hm,Qh];refine T0 (Qze n m hn hl).self λf hf=>?_;refine T1 (λ_=>T2 λh=>by cases h) λO=>?_;simp only[DH,Hg,XA]at O;obtain⟨c1,c2⟩:=O;subst c1;obtain⟨h1,h2,h3⟩:=hf.2 rfl;refine T0 (P:=λq=>q=.inr ()->∀t∈n.Tasks,t.Join≠3) ?_ λq hq=>?_
 ·refine Qk.up n.Tasks.length (λst=>st) (λst=>∀(j:Nat) t,(j:Int)<st->n.Tasks[j]? = some t->t.Join≠3) rfl (λj t hj=>by omega) (λi st hi hn2 hJ=>?_);replace hi:st=(i:Int):=hi;subst hi;show Qk (TL n i) _;unfold TL;refine T1 (λhc=>?_) (λhc=>T2 (Qw λ_ t ht=>?_))
  ·simp only[QT]at hc;have i1:i<n.Tasks.length:=by omega
   have hx:=QI i1;rw[Xe,hx,Qh];refine T1 (λ_=>T2 (Qw λe=>by cases e)) λhj=>T2 (QY ⟨i1,QE i1 hn.2.2.1.1,λj t hj2 ht=>?_⟩);rw[QE i1 hn.2.2.1.1]at hj2;by_cases cj:j=i
   ·subst cj;rw[hx]at ht;cases ht;simpa using hj
   exact hJ j t (by omega) ht
  simp only[XA]at hc;obtain⟨j,hj,rfl⟩:=Lr.1 ht;exact hJ j _ (by omega) (QI hj)
 rcases q with q|q
 ·exact T2 λh=>by cases h
 show Qk (TM _) _;unfold TM;simp only;rw[Qh2 h1 h2 (by omega),Qh];exact T2 λ_=>⟨h1,⟨QxV n m h1 hf.1,hq rfl⟩,⟨h2,h3⟩⟩
def Qz6 (b:Int)(hn:Xu n)(hr:QrG n):Qk (HU n b) λr=>r=true->QoV n b:=by
 obtain⟨m,h,hm1,O⟩:=QvP hr;unfold HU SZ;rw[h,Qh,Qh];have hr1:=hr.1;refine T0 (Qxg hn h ⟨by unfold maxLen;omega,λb hb=>⟨by have:=O b hb;unfold maxLen;omega,λ_ _=>trivial⟩⟩) λf hf=>T2 λe=>?_;simp only[QL,QT]at e;obtain⟨e1,e2,_,e3⟩:=e;obtain⟨g1,g2,g3⟩:=hf e1;have ef:Gm n=m:=by unfold Gm;rw[h];rfl
 exact⟨g1,g2,by omega,by rw[ef];exact g3,by rw[ef];exact h,by omega⟩
end Go.Proofs
noncomputable section
namespace Go.Proofs
open Go Go.RowKit Go.Vm Go.Rk
open Option renaming some→C
variable {n:Qg}{m:L_ Bag}{tokens:Int}{s:QN}
def Qm1 (h:XE n)(O:KN n m):okM m:=by
 have hpl:=h.pl;exact⟨by rw[O.1.1];unfold maxLen;omega,λb hb=>by have:=(O.1.2 b hb).2;unfold maxLen;omega⟩
def Qj5 {b:Int}{v:XT}(h:QoV n b)(hT:Told n (Wz n (Gm n) b tokens) v)(h0:0<b)(h2:v.Told=2):WS n v=C true:=by
 have hb:=h.bud;have hS:=QmY (tokens:=tokens) h.net h.bd h.pl h.good h0;have hE:=QqN (tokens:=tokens) h.net h.bd h.good (by omega:b<=31);generalize Wz n (Gm n) b tokens=s at hT hS hE;have run:∀{k:Nat} {x:Mk} {p:L_ Qq},s.States[k]? = C x->Wt s (k:Int)=C p->TO n (Gm n) p=C (x,(p.length:Int)):=λ{k x p} O hp=>by
  obtain⟨p',q1,q2,q3,q4⟩:=QmZ h.net hS (by omega) hE O;rw[hp]at q1;cases q1;have hl:=hS.len;have hm:Xt b<=31:=by unfold Xt min2;split<;>omega
  exact Qzg h.net h.good.1 (by omega) (by omega) q2
 cases hT with
 |un _=>cases h2
 |im k x p O hi hp=>
  have hr:=run O hp;have hm:=Qm1 h.net (hS.good x (XG O));unfold WS;simp only[show((2:Int) != 2)=false from rfl,show((1:Int)==3)=false from rfl,Xn];rw[h.first,Qh,hr,Qh];simp only[show((1:Int)==1)=true from rfl,Xi];unfold Qax;simp only[show((p.length:Int)==(p.length:Int))=true by simp,Xi];rw[show Ws n x=C (Qj4 n x)from TV hm,Qh];unfold Pf at hi;rw[QL]at hi;rw[hi.1,Xi,UY hm,Qh,hi.2];rfl
 |lo k x p O hp=>
  have hr:=run O hp;unfold WS;simp only[show((2:Int) != 2)=false from rfl,show((2:Int)==3)=false from rfl,Xn];rw[h.first,Qh,hr,Qh];simp only[show((2:Int)==1)=false from rfl,show((2:Int)==2)=true from rfl,Xi,Xn];simp
 |de t t0 t1=>
  unfold WS;simp[t0,t1]
 |so f _ _ _ _ _=>cases h2
def Qx6 {b:Int}{f:LI_}(hS:SOk n m b tokens s)(E:QfE n s f)(hav:∀k:Nat,k<s.States.length->0<=av f (k:Int)){k:Nat}{x:L_ Bag}(hx:s.States[k]? = C x):
  Qk (Qx (λst=>CM (HY s f (av f k).toNat k) s n st.1 st.2) (x,0)) λq=>∃y,q=.inr y/\y∈s.States/\QdB n y=true:=by
 have hk:=(QX.1 hx).1;have h0:=hav k hk;have hwl:=QqQ E (av f k).toNat k;have h40:=E.le40 k;generalize hw:HY s f (av f k).toNat k=w at hwl ⊢;refine Qk.up w.length (λst=>st.2) (λst=>∃a:Nat,s.States[a]? = C st.1/\av f (a:Int)=av f k-st.2/\w.drop st.2.toNat=HY s f ((av f k).toNat-st.2.toNat) a) rfl ⟨k,hx,by simp,by simpa using hw.symm⟩ (λi st hi hn hJ=>?_);obtain⟨y,j⟩:=st;replace hi:j=(i:Int):=hi;subst hi;obtain⟨a,ha,h3,h4⟩:∃a:Nat,s.States[a]? = C y/\av f (a:Int)=av f k-(i:Int)/\w.drop (i:Int).toNat=HY s f ((av f k).toNat-(i:Int).toNat) a:=hJ;rw[Jb]at h4;show Qk (CM w s n y i) _;unfold CM;refine T1 (λhc=>?_) (λhc=>T2 (Qw ⟨y,rfl,XG ha,?_⟩))
 ·simp only[QT]at hc;have O:i<w.length:=by omega
  obtain⟨q,e,n1,n2,n3,n4,n5⟩:=QsT E (k:=(a:Int)) (by omega);have hd:(av f k).toNat-i=((av f k).toNat-(i+1))+1:=by omega
  rw[hd,HY,n1,Sx O]at h4;simp only[Jb,n2,Jh,GG,List.cons.injEq]at h4;obtain⟨h5,h6⟩:=h4;have hwi:w[i]? = C (q:Int):=by rw[QI O,h5]
  obtain⟨a',c,u,z,e1,e2,e3,e4,e5,e6⟩:=hS.edge e (XG n2);have haa:a'=a:=by omega
  subst haa;rw[ha]at e3;cases e3;rw[Xe,hwi,Qh,Xe,n2,Qh,e5,Qh];have h:w.length<=maxLen:=by unfold maxLen;omega
  refine T2 (QY (ix:=λst:L_ Bag×Int=>st.2) (J:=λst:L_ Bag×Int=>∃a:Nat,s.States[a]? = C st.1/\av f (a:Int)=av f k-st.2/\w.drop st.2.toNat=HY s f ((av f k).toNat-st.2.toNat) a) ⟨O,QE O h,c,e4,?_,?_⟩)
  ·show av f (c:Int)=av f k-Qf ((i:Int)+1);rw[QE O h,<-e2,n5];omega
  show w.drop (Qf ((i:Int)+1)).toNat=HY s f ((av f k).toNat-(Qf ((i:Int)+1)).toNat) c;rw[QE O h,Jb,<-e2];exact h6
 simp only[XA]at hc;have ha0:av f (a:Int)=0:=by omega
 rcases E.is.back (a:Int) (by omega)with⟨_,hg⟩|⟨v,_,_,hv,he⟩
 ·unfold QdC at hg;obtain⟨i',y',g1,g2,g3⟩:=Qdp.1 hg;have:i'=a:=by omega
  subst this;rw[ha]at g1;cases g1;exact g2
 omega
def QvQ {b:Int}(h:XE n)(hS:SOk n m b tokens s)(hall:∀k:Nat,k<n.Tasks.length->(k:Int)∈XW s):(KQ (Jr (XW s))).length=n.Tasks.length:=by
 have O:∀x:Int,x∈KQ (Jr (XW s))↔x∈XW s:=λx=>Qj3.trans QqR;have hnd:(KQ (Jr (XW s))).Nodup:=(QoZ (QoY (XW s))).imp λhab=>by omega
 have hrn:((List.range n.Tasks.length).map λk:Nat=>(k:Int)).Nodup:=Zk.2 (List.nodup_range.imp λhne h=>hne (by omega));have h1:=Rm hnd (m:=(List.range n.Tasks.length).map λk:Nat=>(k:Int)) λx hx=>by
  have hx:=(O x).1 hx;unfold XW at hx;obtain⟨e,he,rfl⟩:=Ye.1 hx;obtain⟨_,_,u,z,_,_,_,_,e5,_⟩:=hS.edge e he;obtain⟨t,ht,_⟩:=QxR h e5;unfold idx at ht;split at ht
  ·rename_i h0;have:=(QX.1 ht).1;exact Ye.2 ⟨e.Mode.Task.toNat,Ea.2 this,by omega⟩
  cases ht
 have h2:=Rm hrn (m:=KQ (Jr (XW s))) λx hx=>by
  obtain⟨k,hk,rfl⟩:=Ye.1 hx;exact(O _).2 (hall k (Ea.1 hk))
 rw[KO,Qd5]at h1 h2;omega
def Qx7 {x:Mk}(hm:okM x)(hi:Pf n x=false):Qj4 n x=QdB n x:=by
 unfold Pf at hi;cases O:QdB n x with
 |true=>
  cases he:Qj4 n x with
  |true=>rfl|false=>
   have h:=UY (n:=n) hm;rw[O]at h;unfold Ky Tt at h;rw[show Ws n x=C (Qj4 n x)from TV hm,he]at h;cases hl:((x.length:Int) != (n.Places.length:Int))<;>rw[hl]at h<;>cases h
 |false=>
  rw[O]at hi;simpa using hi
def Qxh (n:Qg)(b tokens:Int)(hn:Xu n)(hr:QrG n)(hg:QbV=C true):FH n b tokens=C true:=by
 unfold FH;rw[hg,Qh];obtain⟨f,hf,hf2⟩:=Qz6 b hn hr;rw[hf,Qh];cases hc:f with
 |false=>rfl|true=>
  simp only[DT,Bool.or_false,Xn];have hF:=hf2 hc;have hb:=hF.bud;have h:=hF.net;obtain⟨v,h1,hj,hT⟩:=Quz (c:=b) tokens hF (by omega);rw[h1,Qh];by_cases c3:v.Told=3
  ·rw[show(v.Told==3)=true by simpa using c3,Xi]
  rw[show(v.Told==3)=false by simpa using c3,Xn];by_cases c2:v.Told=2
  ·rw[show(v.Told==2)=true by simpa using c2,Xi];have pos:∀{k:Nat} {x:Mk},(Wz n (Gm n) b tokens).States[k]? = C x->0<b:=λ{k x} O=>by
    rcases Int.lt_or_le 0 b with h0|h0
    ·exact h0
    unfold Wz at O;rw[if_pos h0]at O;simp at O
   have:WS n v=C true:=by
    cases hT with
    |un _=>cases c2
    |so f _ _ _ _ _=>cases c2
    |im k x p O hi hp=>exact Qj5 hF (.im k x p O hi hp) (pos O) rfl|lo k x p O hp=>exact Qj5 hF (.lo k x p O hp) (pos O) rfl|de t t0 t1=>unfold WS;simp[t0,t1]
   rw[this];rfl
  rw[show(v.Told==2)=false by simpa using c2,Xn,QqS tokens hF (by omega),Qh];have hfull:(Wz n (Gm n) b tokens).Full=true/\(∀x∈(Wz n (Gm n) b tokens).States,Pf n x=false)/\∃f,QfE n (Wz n (Gm n) b tokens) f/\(∀k:Nat,k<(Wz n (Gm n) b tokens).States.length->0<=av f (k:Int))/\(∀k:Nat,k<n.Tasks.length->(k:Int)∈XW (Wz n (Gm n) b tokens)):=by
   cases hT with|un _=>exact absurd rfl c3|im k x p O hi hp=>exact absurd rfl c2|lo k x p O hp=>exact absurd rfl c2|de t t0 t1=>exact absurd rfl c2|so f a1 a2 a3 a4 a5=>exact⟨a1,a2,f,a3,a4,a5⟩
  obtain⟨hfu,him,f,E,hav,hall⟩:=hfull;have h0:=QsU hfu;have hS:=QmY (tokens:=tokens) h hF.bd hF.pl hF.good h0;generalize Wz n (Gm n) b tokens=s at hfu him E hav hall hS;have hFew:=E.few;have hsl:=hS.len;have hm2:(Xt b:Int)<=max2 b 0:=by unfold Xt min2 max2;split<;>split<;>omega
  have hfl:=E.is.len;rw[QoW hFew,Qh,E.far,Qh];have g1:Pb b s f n=C false:=by
   unfold Pb;rw[Kh (by omega),Xn,show((f.length:Int) != (s.States.length:Int))=false by rw[hfl];simp,Xn,QoX hFew,Qh,QvQ h hS hall];simp
  rw[g1,Qh];unfold QaA;rw[Xn];have main:Qk (Qx (λst=>CN s f n st) 0) λq:Unit⊕Unit=>q=.inr ():=by
   refine Qk.up s.States.length (λst=>st) (λst=>True) rfl trivial (λk st hi hn2 _=>?_);replace hi:st=(k:Int):=hi;subst hi;show Qk (CN s f n k) _;unfold CN;refine T1 (λhc=>?_) (λhc=>T2 (Qw rfl));simp only[QT]at hc;have hk:k<s.States.length:=by omega
   have O:=QI hk;generalize s.States[k]=x at O;have hxm:=XG O;have hm:=Qm1 h (hS.good x hxm);have hak:=hav k hk;have hfk:f[k]? = C (av f (k:Int)):=by
    have:k<f.length:=by omega
    rw[QI this];unfold av;simp[QI this]
   have g2:Pc f k s n=C false:=by
    unfold Pc;rw[Xe,hfk,Qh,Kh (by omega),Xn,Xe,O,Qh,show Ws n x=C (Qj4 n x)from TV hm,Qh,Qh,UY hm,Qh,Qx7 hm (him x hxm)];simp
   rw[g2,Qh];unfold Qbr;rw[Xn,Xe,O,Qh,Qxd E (k:Int),Qh];obtain⟨q,q1,y,rfl,hy,hfy⟩:=Qx6 hS E hav O;rw[q1,Qh];show Qk (Pd n f k (HY s f (av f k).toNat k) y) _;unfold Pd Qbp;rw[UY (Qm1 h (hS.good y hy)),Qh,hfy,DT,Xn,Xe,hfk,Qh,QqQ E (av f k).toNat k,show(((av f k).toNat:Int) != av f (k:Int))=false by simp;omega,Qh];unfold Qbq;rw[Xn];exact T2 (QY (ix:=λst:Int=>st) (J:=λ_:Int=>True) ⟨hk,QE hk (by have:=hFew.st;unfold maxLen;omega),trivial⟩)
  obtain⟨q,q1,rfl⟩:=main;rw[q1,Qh];rfl
end Go.Proofs
