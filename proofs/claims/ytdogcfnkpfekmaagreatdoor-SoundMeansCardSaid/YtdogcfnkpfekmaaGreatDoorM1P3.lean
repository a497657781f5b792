/- A part of the proof. -/
import Derived.Test.YtdogcfnkpfekmaaGreatDoorM1P2
import Derived.Test.YtdogcfnkpfekmaaGreatDoorM1P2
import Derived.Test.YtdogcfnkpfekmaaGreatDoorM1XPlA
import Derived.Test.YtdogcfnkpfekmaaGreatDoorM1T2
import Derived.Test.YtdogcfnkpfekmaaGreatDoorM1P2
import Derived.KernelRfl
import Derived.Test.YtdogcfnkpfekmaaGreatDoorM1P2
set_option linter.all false
noncomputable section
namespace Go.Proofs
open Go Go.RowKit Go.Vm
structure Qpc (n:Qf) (m:List Bag) (b tokens:Int) (a:Nat) (st:SSt):Prop where
 good:∀y∈st.1,Yg n y
 apart:Ln XQ st.1
 len:st.1.length<=Xu b
 head:∃r,st.1=m::r
 edge:∀e∈st.2.1,∃(i j:Nat) (x y:List Bag),e.From=(i:Int)/\e.To=(j:Int)/\i<a/\st.1[i]? = some x/\st.1[j]? = some y/\XU n x e.Mode=some (y,0)/\Wc n e.Mode
 asc:st.2.1.Pairwise λe f=>e.From<=f.From
 full:st.2.2=true->∀(i:Nat) (x:List Bag),i<a->st.1[i]? = some x->Qbx x<=tokens/\(Ke n x b).2=true/\(st.2.1.filter λe=>e.From==(i:Int)).map (·.Mode)=(Ke n x b).1/\∀o∈(Ke n x b).1,∃y∈st.1,XU n x o=some (y,0)
 tree:∀k:Nat,0<k->k<st.1.length->∃e∈st.2.1,∃i:Nat,e.From=(i:Int)/\i<k/\e.To=(k:Int)
structure QhG (n:Qf) (m:List Bag) (b tokens:Int) (a:Nat) (x:List Bag) (fl:Bool) (done:List Qk) (st:SSt):Prop where
 good:∀y∈st.1,Yg n y
 apart:Ln XQ st.1
 len:st.1.length<=Xu b
 head:∃r,st.1=m::r
 here:st.1[a]? = some x
 edge:∀e∈st.2.1,∃(i j:Nat) (x y:List Bag),e.From=(i:Int)/\e.To=(j:Int)/\i<a+1/\st.1[i]? = some x/\st.1[j]? = some y/\XU n x e.Mode=some (y,0)/\Wc n e.Mode
 asc:st.2.1.Pairwise λe f=>e.From<=f.From
 full:st.2.2=true->fl=true/\∀(i:Nat) (x:List Bag),i<a->st.1[i]? = some x->Qbx x<=tokens/\(Ke n x b).2=true/\(st.2.1.filter λe=>e.From==(i:Int)).map (·.Mode)=(Ke n x b).1/\∀o∈(Ke n x b).1,∃y∈st.1,XU n x o=some (y,0)
 now:st.2.2=true->(st.2.1.filter λe=>e.From==(a:Int)).map (·.Mode)=done/\∀o∈done,∃y∈st.1,XU n x o=some (y,0)
 tree:∀k:Nat,0<k->k<st.1.length->∃e∈st.2.1,∃i:Nat,e.From=(i:Int)/\i<k/\e.To=(k:Int)
section
variable {n:Qf}{m:L_ Bag}{b tokens:Int}{a:Nat}
def QgO {E:L_ QW}{e:QW}{i:Nat}(h:e.From=(a:Int))(hi:i<a):(E++[e]).filter (λe=>e.From==(i:Int))=E.filter λe=>e.From==(i:Int):=by
 rw[NF,Am,if_neg (by rw[h];simp;omega),List.filter_nil,Vr]
def Qh1 {E:L_ QW}{e:QW}(h:e.From=(a:Int)):(E++[e]).filter (λe=>e.From==(a:Int))=(E.filter λe=>e.From==(a:Int))++[e]:=by
 rw[NF,Am,if_pos (by rw[h];simp),List.filter_nil]
def Qos (h:Xn n)(hp:n.Places.length<=64){x:L_ Bag}{fl:Bool}{done:L_ Qk}{st:SSt}{o:Qk}(I:QhG n m b tokens a x fl done st)(ho:Wc n o):QhG n m b tokens a x fl (done++[o]) (Wt (Xu b) n x a st o):=by
 have hgx:=I.good x (XE I.here)
 have hal:=(Xa.1 I.here).1
 unfold Wt
 obtain⟨⟨y,c⟩,hD,_⟩:=QkV n x o 1024 h hgx.1 (by omega) ho
 rw[hD]
 simp only
 have down:QhG n m b tokens a x fl (done++[o]) (st.1,st.2.1,false):=⟨I.good,I.apart,I.len,I.head,I.here,I.edge,I.asc,λe=>(by cases e),λe=>(by cases e),I.tree⟩
 by_cases c0:c=0
 ·subst c0
  rw[if_pos rfl]
  have hgy:=QaE h hgx ho hD
  have ascs:∀k:Int,(st.2.1++[QW.mk (a:Int) k o]).Pairwise λe f=>e.From<=f.From:=λk=>by
   rw[QfD]
   refine⟨I.asc,Vu _ _,λe he f hf=>?_⟩
   simp at hf;subst hf
   obtain⟨i,_,_,_,h1,_,h2,_⟩:=I.edge e he
   show e.From<=(a:Int)
   omega
  cases hk:Fc st.1 (XQ y)with
  | some k=>
   simp only
   obtain⟨z,hz,hzk⟩:=Qmv hk
   have hzy:z=y:=Qop h hp (I.good z (XE hz)) hgy hzk
   subst hzy
   refine⟨I.good,I.apart,I.len,I.head,I.here,λe he=>?_,ascs _,λhf=>?_,λhf=>?_,λk' h1 h2=>?_⟩
   ·rcases YI.1 he with he | he
    ·exact I.edge e he
    simp at he;subst he
    exact⟨a,k,x,z,rfl,rfl,by omega,I.here,hz,hD,ho⟩
   ·obtain⟨f1,f2⟩:=I.full hf
    refine⟨f1,λi u hi hu=>?_⟩
    rw[QgO rfl hi]
    exact f2 i u hi hu
   ·obtain⟨f1,f2⟩:=I.now hf
    show(List.filter _ (st.2.1++[_])).map _=_/\_
    rw[Qh1 rfl,List.map_append,f1]
    refine⟨rfl,λo' D=>?_⟩
    rcases YI.1 D with D | D
    ·exact f2 o' D
    simp at D;subst D;exact⟨z,XE hz,hD⟩
   obtain⟨e,he,r⟩:=I.tree k' h1 h2
   exact⟨e,PH _ he,r⟩
  | none=>
   simp only
   by_cases cl:Xu b<=st.1.length
   ·rw[if_pos cl];exact down
   rw[if_neg cl]
   have hnone:=Qmw hk
   have hap:Ln XQ (st.1++[y]):=I.apart.add (by
    unfold Qhv
    exact List.any_eq_false.2 λu hu=>by simpa using hnone u hu)
   have up:∀{i:Nat} {u:L_ Bag},st.1[i]? = some u->(st.1++[y])[i]? = some u:=λ{i u} hu=>by
    rw[Jx ((Xa.1 hu).1)];exact hu
   have hnew:(st.1++[y])[st.1.length]? = some y:=by rw[Wg (Jp _),Nat.sub_self];rfl
   refine⟨λz hz=>?_,hap,by simp;omega,?_,up I.here,λe he=>?_,ascs _,λhf=>?_,λhf=>?_,λk' h1 h2=>?_⟩
   ·rcases YI.1 hz with hz | hz
    ·exact I.good z hz
    simp at hz;subst hz;exact hgy
   ·obtain⟨r,hr⟩:=I.head
    exact⟨r++[y],by show st.1++[y]=_;rw[hr];rfl⟩
   ·rcases YI.1 he with he | he
    ·obtain⟨i,j,u,v,h1,h2,h3,h4,h5,h6⟩:=I.edge e he
     exact⟨i,j,u,v,h1,h2,h3,up h4,up h5,h6⟩
    simp at he;subst he
    exact⟨a,st.1.length,x,y,rfl,rfl,by omega,up I.here,hnew,hD,ho⟩
   ·obtain⟨f1,f2⟩:=I.full hf
    refine⟨f1,λi u hi hu=>?_⟩
    have hu':st.1[i]? = some u:=by
     have hu:(st.1++[y])[i]? = some u:=hu
     rw[Jx (by omega)]at hu;exact hu
    obtain⟨g1,g2,g3,g4⟩:=f2 i u hi hu'
    rw[QgO rfl hi]
    refine⟨g1,g2,g3,λo' D=>?_⟩
    obtain⟨z,hz,hz2⟩:=g4 o' D
    exact⟨z,PH _ hz,hz2⟩
   ·obtain⟨f1,f2⟩:=I.now hf
    show(List.filter _ (st.2.1++[_])).map _=_/\_
    rw[Qh1 rfl,List.map_append,f1]
    refine⟨rfl,λo' D=>?_⟩
    rcases YI.1 D with D | D
    ·obtain⟨z,hz,hz2⟩:=f2 o' D
     exact⟨z,PH _ hz,hz2⟩
    simp at D;subst D;exact⟨y,by simp,hD⟩
   by_cases ck:k'=st.1.length
   ·subst ck
    exact⟨QW.mk (a:Int) (st.1.length:Int) o,by simp,a,rfl,hal,rfl⟩
   have h2:k'<(st.1++[y]).length:=h2
   obtain⟨e,he,r⟩:=I.tree k' h1 (by simp at h2;omega)
   exact⟨e,PH _ he,r⟩
 rw[if_neg c0];exact down
def QnC (h:Xn n)(hp:n.Places.length<=64){x:L_ Bag}{fl:Bool}:∀{X done:L_ Qk} {st:SSt},QhG n m b tokens a x fl done st->(∀o∈X,Wc n o)->QhG n m b tokens a x fl (done++X) (X.foldl (Wt (Xu b) n x a) st):=by
 intro X
 induction X with
 | nil=>intro done st I _;simpa using I
 | cons o X ih=>
  intro done st I ho
  have:=ih (Qos h hp I (ho o XR)) λo' D=>ho o' (XZ _ D)
  rw[WI]at this
  exact this
def QnD (h:Xn n)(hbd:Bd n)(hp:n.Places.length<=64):∀(f:Nat) {st:SSt} {a:Nat},Xu b<f+a->Qpc n m b tokens a st->∃a',Qpc n m b tokens a' (ET n b tokens f st a)/\(ET n b tokens f st a).1.length<=a':=by
 intro f
 induction f with
 | zero=>intro st a hf I;exact⟨a,I,by have:=I.len;show st.1.length<=a;omega⟩
 | succ f ih=>
  intro st a hf I
  rw[ET]
  cases hx:st.1[a]? with
  | none=>exact⟨a,I,List.getElem?_eq_none_iff.1 hx⟩
  | some x=>
   simp only
   have hgx:=I.good x (XE hx)
   by_cases ct:tokens<Qbx x
   ·rw[if_pos ct]
    exact ih (by omega) ⟨I.good,I.apart,I.len,I.head,λe he=>by
     obtain⟨i,j,u,v,D,h2,h3,h4⟩:=I.edge e he
     exact⟨i,j,u,v,D,h2,by omega,h4⟩,I.asc,λe=>(by cases e),I.tree⟩
   rw[if_neg ct]
   obtain⟨q1,q2,q3⟩:=QdE b h hbd hgx
   have M0:QhG n m b tokens a x (st.2.2&&(Ke n x b).2) [] (st.1,st.2.1,st.2.2&&(Ke n x b).2):=⟨I.good,I.apart,I.len,I.head,hx,λe he=>by
    obtain⟨i,j,u,v,D,h2,h3,h4⟩:=I.edge e he
    exact⟨i,j,u,v,D,h2,by omega,h4⟩,I.asc,λe=>⟨e,I.full (QJ _ _▸e).1⟩,λe=>⟨by
    rw[List.filter_eq_nil_iff.2 λe he=>by
     obtain⟨i,_,_,_,D,_,h3,_⟩:=I.edge e he
     rw[D];simp;omega];rfl,λo ho=>by cases ho⟩,I.tree⟩
   have M:=QnC h hp M0 λo ho=>Vb h (hgx.len h) (q3 o ho)
   rw[Vs]at M
   refine ih (by omega) ⟨M.good,M.apart,M.len,M.head,M.edge,M.asc,λhf i u hi hu=>?_,M.tree⟩
   obtain⟨f1,f2⟩:=M.full hf
   by_cases ci:i=a
   ·subst ci
    have:u=x:=Option.some.inj (hu.symm.trans M.here)
    subst this
    obtain⟨f3,f4⟩:=M.now hf
    rw[QJ]at f1
    exact⟨by omega,f1.2,f3,f4⟩
   exact f2 i u (by omega) hu
end
def Wd (n:Qf)(m:L_ Bag)(b tokens:Int):QD:=if b<=0 then QD.mk [] [] false else QD.mk (ET n b tokens (Xu b+1) ([m],[],true) 0).1 (ET n b tokens (Xu b+1) ([m],[],true) 0).2.1 (ET n b tokens (Xu b+1) ([m],[],true) 0).2.2
structure SOk (n:Qf) (m:List Bag) (b tokens:Int) (s:QD):Prop where
 good:∀y∈s.States,Yg n y
 apart:Ln XQ s.States
 len:s.States.length<=Xu b
 head:∃r,s.States=m::r
 edge:∀e∈s.Edges,∃(i j:Nat) (x y:List Bag),e.From=(i:Int)/\e.To=(j:Int)/\s.States[i]? = some x/\s.States[j]? = some y/\XU n x e.Mode=some (y,0)/\Wc n e.Mode
 asc:s.Edges.Pairwise λe f=>e.From<=f.From
 full:s.Full=true->∀(i:Nat) (x:List Bag),s.States[i]? = some x->Qbx x<=tokens/\(Ke n x b).2=true/\(s.Edges.filter λe=>e.From==(i:Int)).map (·.Mode)=(Ke n x b).1/\∀o∈(Ke n x b).1,∃y∈s.States,XU n x o=some (y,0)
 tree:∀k:Nat,0<k->k<s.States.length->∃e∈s.Edges,∃i:Nat,e.From=(i:Int)/\i<k/\e.To=(k:Int)
def Qfv {n:Qf}{m:L_ Bag}{b tokens:Int}(h:Xn n)(hbd:Bd n)(hp:n.Places.length<=64)(hg:Yg n m)(hb:0<b):SOk n m b tokens (Wd n m b tokens):=by
 have hm:1<=Xu b:=by unfold Xu min2;split<;>omega
 obtain⟨a',I,hl⟩:=QnD (m:=m) (b:=b) (tokens:=tokens) h hbd hp (Xu b+1) (st:=([m],[],true)) (a:=0) (by omega) ⟨λy hy=>by simp at hy;subst hy;exact hg,Vu _ _,hm,⟨[],rfl⟩,λe he=>(by cases he),List.Pairwise.nil,λ_ i x hi=>by omega,λk h1 D=>by simp at D;omega⟩
 unfold Wd
 rw[if_neg (by omega)]
 exact⟨I.good,I.apart,I.len,I.head,λe he=>by
  obtain⟨i,j,u,v,h1,D,_,h4⟩:=I.edge e he
  exact⟨i,j,u,v,h1,D,h4⟩,I.asc,λhf i x hx=>I.full hf i x (by have h3:i<(ET n b tokens (Xu b+1) ([m],[],true) 0).1.length:=(Xa.1 hx).1;omega) hx,I.tree⟩
def Qot {n:Qf}{m:L_ Bag}(b tokens:Int)(h:Xn n)(D:Bd n)(hg:Yg n m)(hb:b<=31):Ih n m b tokens=some (Wd n m b tokens):=by
 rw[Qmx b tokens h D hg hb]
 unfold Wd
 by_cases c:b<=0
 ·simp only[if_pos c]
 simp only[if_neg c]
def Rch (n:Qf):Prop:=(∀p∈n.Places,p.First.length*16<=140737488351232)/\∀c∈n.Colours,c.Names.length*16<=140737488351232
def Qmy {n:Qf}(hk:Xr n)(hr:Rch n):Qg (Be n) λr=>r=true->(n.Colours.length<=40/\n.Places.length<=70/\n.Tasks.length<=70)/\∀p∈n.Places,p.First.length<=400:=by
 unfold Be
 refine T1 (λ_=>T2 λh=>by cases h) λD=>?_
 simp only[KC,Xm]at D
 refine T6 (P:=λr=>r=true->∀p∈n.Places,p.First.length<=400) ?_ λr hr2 e=>⟨by omega,hr2 e⟩
 refine T0 (Qg.up n.Colours.length (λst=>st.2) (λst=>0<=st.1/\st.1<=400) (Q:=λq:Unit⊕Int=>∀x,q=.inr x->0<=x/\x<=400) rfl ⟨by show(0:Int)<=0;omega,by show(0:Int)<=400;omega⟩ (λi st hi hn hJ=>?_)) (λq hq=>?_)
 ·obtain⟨a,x⟩:=st
  replace hi:x=(i:Int):=hi
  subst hi
  obtain⟨j1,j2⟩:0<=a/\a<=400:=hJ
  show Qg (BY n a i) _
  unfold BY
  refine T1 (λD=>?_) (λ_=>T2 (Qm λx e=>by cases e;exact⟨j1,j2⟩))
  simp only[QI]at D
  refine T0 (T4 (by omega) (by omega)).self λe he=>?_
  obtain⟨he,hm⟩:=he
  have hel:=hr.2 e hm
  have hw:Qi (a+(e.Names.length:Int))=a+(e.Names.length:Int):=Yf (by omega)
  refine T0 (P:=λy=>y=false->a+(e.Names.length:Int)<=400) ?_ λy hy=>?_
  ·unfold Ps
   rw[he,Qd,hw]
   exact T1 (λ_=>T2 λh=>by cases h) λ_=>T2 λh=>by simpa using h
  unfold Pu
  refine T1 (λ_=>T2 (Qm λx e=>by cases e)) λhyf=>?_
  have hle:=hy hyf
  refine T0 (Qg.up e.Names.length (λst=>st) (λ_=>True) (Q:=λ_=>True) rfl trivial (λi2 st hi2 hn2 _=>?_)) (λq _=>?_)
  ·show Qg (BX n i st) _
   unfold BX
   simp only[he,Qd]
   refine T1 (λD=>?_) (λ_=>T2 (Qm trivial))
   simp only[QI]at D
   refine T0 (T4 (by omega) (by omega)) λs _=>?_
   refine T1 (λ_=>T2 (Qm trivial)) λ_=>?_
   exact T2 (QK ⟨by omega,by rw[hi2];exact Qv (by omega) (hk.1.2 e hm).2.2.2.2.1.1,trivial⟩)
  rcases q with q | q
  ·exact T2 (Qm λx e=>by cases e)
  refine T2 (QK ⟨by omega,Qv (by omega) hk.1.1,?_⟩)
  show 0<=Qi (a+(e.Names.length:Int))/\Qi (a+(e.Names.length:Int))<=400
  rw[hw];omega
 rcases q with q | q
 ·exact T2 λh=>by cases h
 have hq:=hq q rfl
 show Qg (AI n q) _
 unfold AI
 refine T0 (Qg.up n.Places.length (λst=>st.2) (λst=>0<=st.1/\st.1<=400+st.2*8796093022208/\∀(j:Nat) p,(j:Int)<st.2->n.Places[j]? = some p->(p.First.length:Int)<=st.1) (Q:=λq:Unit⊕Int=>∀x,q=.inr x->∀p∈n.Places,(p.First.length:Int)<=x) rfl ⟨hq.1,by show q<=400+0*8796093022208;omega,λj p hj=>by simp at hj;omega⟩ (λi st hi hn hJ=>?_)) (λq hq=>?_)
 ·obtain⟨a,x⟩:=st
  replace hi:x=(i:Int):=hi
  subst hi
  obtain⟨j1,j2,j3⟩:0<=a/\a<=400+(i:Int)*8796093022208/\∀(j:Nat) p,(j:Int)<(i:Int)->n.Places[j]? = some p->(p.First.length:Int)<=a:=hJ
  show Qg (BZ n a i) _
  unfold BZ
  refine T1 (λD=>?_) (λD=>T2 (Qm λx e p hp=>?_))
  ·simp only[QI]at D
   have i1:i<n.Places.length:=by omega
   rw[QT,Qx i1,Qd,Qd]
   have hpl:=hr.1 _ (XV i1)
   have hw:Qi (a+((n.Places[i]).First.length:Int))=a+((n.Places[i]).First.length:Int):=Yf (by omega)
   have hw2:Qi ((i:Int)+1)=((i+1:Nat):Int):=Qv i1 hk.2.1.1
   refine T1 (λ_=>T2 (Qm λx e=>by cases e)) λ_=>T2 (QK ⟨i1,hw2,?_⟩)
   show 0<=Qi (a+((n.Places[i]).First.length:Int))/\Qi (a+((n.Places[i]).First.length:Int))<=400+Qi ((i:Int)+1)*8796093022208/\∀(j:Nat) p,(j:Int)<Qi ((i:Int)+1)->n.Places[j]? = some p->(p.First.length:Int)<=Qi (a+((n.Places[i]).First.length:Int))
   rw[hw,hw2]
   refine⟨by omega,by omega,λj p hj hp=>?_⟩
   by_cases cj:j=i
   ·subst cj
    rw[Qx i1]at hp;cases hp;omega
   have:=j3 j p (by omega) hp;omega
  cases e
  simp only[Xm]at D
  obtain⟨j,hj,rfl⟩:=Hb.1 hp
  exact j3 j _ (by omega) (Qx hj)
 rcases q with q | q
 ·exact T2 λh=>by cases h
 exact(Qj6 n hk q).mono λr hr2 e p hp=>by have:=hr2 e;have:=hq q rfl p hp;omega
def Qlc {n:Qf}(hp:n.Places.length<=70)(hf:∀p∈n.Places,p.First.length<=400):Qg (Dy n) λm=>m.length=n.Places.length/\∀b∈m,b.length<=401:=by
 unfold Dy
 refine T0 (Qg.up n.Places.length (λst=>st.1) (λst=>(st.2.length:Int)=st.1/\∀b∈st.2,b.length<=401) (Q:=λm:L_ Bag=>m.length=n.Places.length/\∀b∈m,b.length<=401) rfl ⟨rfl,λb h=>by cases h⟩ (λi st hi hn hJ=>?_)) (λq hq=>T2 hq)
 obtain⟨x,l⟩:=st
 replace hi:x=(i:Int):=hi
 subst hi
 obtain⟨j1,j2⟩:(l.length:Int)=(i:Int)/\∀b∈l,b.length<=401:=hJ
 show Qg (NT n i l) _
 unfold NT
 refine T1 (λhc=>?_) (λhc=>T2 (Qm ?_))
 ·simp only[QI]at hc
  have i1:i<n.Places.length:=by omega
  have hpl:=hf _ (XV i1)
  rw[QT,Qx i1,Qd]
  have hw:Qi ((i:Int)+1)=((i+1:Nat):Int):=Qv i1 (by unfold maxLen;omega:n.Places.length<=maxLen)
  have k1:∀b:Bag,b.length<=401->Qg (GZ l i b) λo=>(∀s',o=.inl s'->i<n.Places.length/\s'.1=((i+1:Nat):Int)/\(s'.2.length:Int)=s'.1/\∀b∈s'.2,b.length<=401)/\∀r:L_ Bag,o=.inr r->r.length=n.Places.length/\∀b∈r,b.length<=401:=λb hb=>by
   unfold GZ
   refine T0 (T5 (by simp;omega)) λ_ _=>?_
   refine T2 (QK (ix:=λst:Int×L_ Bag=>st.1) (J:=λst:Int×L_ Bag=>(st.2.length:Int)=st.1/\∀b∈st.2,b.length<=401) ⟨i1,hw,by show((l++[b]).length:Int)=Qi _;rw[hw];simp;omega,λb' D=>?_⟩)
   rcases YI.1 D with D | D
   ·exact j2 b' D
   simp at D;subst D;exact hb
  unfold YQ
  rw[GE (by simp;omega)]
  simp only[Qd,Vs]
  refine T1 (λhc2=>?_) λ_=>k1 _ (by omega)
  rw[show Pc ([0]:LI_)=some [(0,1)]from QgJ 0,Qd]
  rcases Iq (n.Places[i]).First [(0,1)] (by simp;omega)with⟨_,e⟩|⟨_,_,_,e⟩|⟨_,_,r,e,h1,_,h2⟩
  ·rw[e,Qd];exact k1 _ (by omega)
  ·rw[e,Qd];exact k1 _ (by omega)
  rw[e,Qd];exact k1 _ (by simp at h2;show r.length<=401;omega)
 simp only[Xm]at hc
 exact⟨by show l.length=_;omega,j2⟩
def De (n:Qf):L_ Bag:=(Dy n).getD []
structure QgP (n:Qf) (b:Int):Prop where
 net:Xn n
 bd:Bd n
 pl:n.Places.length<=64
 good:Yg n (De n)
 first:Dy n=some (De n)
 bud:b<=16
def QnE (n:Qf)(b:Int)(hn:Xr n)(hr:Rch n):Qg (OJ n b) λr=>r=true->QgP n b:=by
 unfold OJ
 refine T0 (Qmy hn hr) λf hf=>?_
 refine T1 (λ_=>T2 λh=>by cases h) λhc=>?_
 simp only[KC,Bi,Xm]at hc
 obtain⟨h1,h2⟩:=hf hc.1
 refine T0 (Qlc h1.2.1 h2).self λm hm=>?_
 obtain⟨D,hm1,hm2⟩:=hm
 refine T0 (Qnw n m _ hn ⟨by unfold maxLen;omega,λb hb=>⟨by have:=hm2 b hb;unfold maxLen;omega,λ_ _=>trivial⟩⟩) λr hr2=>?_
 refine T2 λe=>?_
 obtain⟨g1,g2,g3,_⟩:=hr2 e
 have ef:De n=m:=by unfold De;rw[D];rfl
 exact⟨g1,g2,by omega,by rw[ef];exact g3,by rw[ef];exact D,by omega⟩
def Qmz {n:Qf}{a:L_ Bag}(h:Xn n)(D:Yg n a):Ud a a=some true:=QhC h D.1 (by omega)
def QmA {n:Qf}{s:QD}{m:L_ Bag}(h:Xn n)(hs:∀y∈s.States,Yg n y)(hl:s.States.length<=4096)(hm:Yg n m):Qg (OL s m) λr=>(r=-1/\m ∉ s.States)\/∃i:Nat,r=(i:Int)/\s.States[i]? = some m:=by
 unfold OL Ji
 refine T0 (P:=λr=>(r=-1/\m ∉ s.States)\/∃i:Nat,r=(i:Int)/\s.States[i]? = some m) ?_ λr hr=>T2 hr
 refine T0 (Qg.up s.States.length (λst=>st) (λst=>m ∉ s.States.take st.toNat) (Q:=λq:Int⊕Unit=>(∀r,q=.inl r->∃i:Nat,r=(i:Int)/\s.States[i]? = some m)/\(q=.inr ()->m ∉ s.States)) rfl (by simp) (λi st hi hn hJ=>?_)) (λq hq=>?_)
 ·replace hi:st=(i:Int):=hi
  subst hi
  replace hJ:m ∉ s.States.take (i:Int).toNat:=hJ
  rw[XP]at hJ
  show Qg (YU s.States m i) _
  unfold YU Pw
  refine T1 (λhc=>?_) (λhc=>T2 (Qm ⟨λr e=>(by cases e),λ_=>?_⟩))
  ·simp only[QI]at hc
   have D:i<s.States.length:=by omega
   have hgi:=hs _ (XV D)
   rw[QT,Qx D,Qd]
   by_cases e:s.States[i]=m
   ·rw[e,Qmz h hm]
    simp only[Qd,QY]
    exact T2 (Qm ⟨λr e'=>(by cases e';exact⟨i,rfl,by rw[Qx D,e]⟩),λe=>by cases e⟩)
   obtain⟨r,hr,hr2⟩:=QhF h hgi hm
   have:r=false:=by
    cases r with
    | false=>rfl
    | true=>exact absurd (hr2 rfl) e
   subst this
   rw[hr]
   simp only[Qd,Xh]
   have hw:Qi ((i:Int)+1)=((i+1:Nat):Int):=Qv D (by unfold maxLen;omega:s.States.length<=maxLen)
   refine T2 (QK ⟨D,hw,?_⟩)
   show m ∉ s.States.take (Qi ((i:Int)+1)).toNat
   rw[hw,XP,DV,Qx D]
   simp only[Option.toList_some,YI,Ao,not_or]
   exact⟨hJ,λe'=>e e'.symm⟩
  simp only[Xm]at hc
  rwa[Kl (by omega)]at hJ
 rcases q with q | q
 ·exact T2 (.inr (hq.1 q rfl))
 exact T2 (.inl ⟨rfl,hq.2 rfl⟩)
def Qdh {n:Qf}{m:L_ Bag}{b tokens:Int}(h:Xn n)(hbd:Bd n)(hg:Yg n m)(hb:b<=31):(Wd n m b tokens).Edges.length<=130023424:=by
 have key:∀(K:Nat),K=4194304->∀(f:Nat) (st:SSt) (a:Nat),(∀y∈st.1,Yg n y)->st.1.length<=Xu b->st.2.1.length<=a*K->a<=Xu b->(ET n b tokens f st a).2.1.length<=Xu b*K:=by
  intro K hK
  intro f
  induction f with
  | zero=>intro st a _ _ h3 h4;exact Ym h3 (YZ _ h4)
  | succ f ih=>
   intro st a h1 h2 h3 h4
   rw[ET]
   cases hx:st.1[a]? with
   | none=>exact Ym h3 (YZ _ h4)
   | some x=>
    simp only
    have ha:=(Xa.1 hx).1
    have D:=h1 x (XE hx)
    split
    ·exact ih _ _ h1 h2 (by show st.2.1.length<=(a+1)*K;rw[Nat.succ_mul];omega) (by omega)
    obtain⟨q1,q2,q3⟩:=QdE b h hbd D
    obtain⟨g1,g2,g3⟩:=Qh0 (a:=(a:Int)) (most:=Xu b) h D (X:=(Ke n x b).1) (st:=(st.1,st.2.1,st.2.2&&(Ke n x b).2)) (λo ho=>Vb h (D.len h) (q3 o ho)) h1 h2
    exact ih _ _ g1 g2 (by rw[Nat.succ_mul];simp only at g3;omega) (by omega)
 unfold Wd
 split
 ·simp
 have hm:1<=Xu b/\Xu b<=31:=by unfold Xu min2;split<;>omega
 have:=key 4194304 rfl (Xu b+1) ([m],[],true) 0 (λy hy=>by simp at hy;subst hy;exact hg) (by simp;omega) (by simp) (by omega)
 show List.length _<=_
 have h2:Xu b*4194304<=31*4194304:=YZ _ hm.2
 exact Ym this h2
end Go.Proofs
namespace Go.Rk
def YH (N:Nat)(k:Int):Prop:=0<=k/\k<N
instance (N : Nat) (k:Int):Decidable (YH N k):=inferInstanceAs (Decidable (_/\_))
def av (out:List Int)(k:Int):Int:=if 0<=k then out.getD k.toNat (-1)else -1
def Vd {out:List Int}{k:Int}(h:¬YH out.length k):av out k=-1:=by
 unfold av
 split
 ·rename_i D
  rw[List.getD_eq_getElem?_getD,List.getElem?_eq_none (by unfold YH at h;omega)];rfl
 rfl
def Qpd {out:List Int}{k:Int}{x:Int}(D:0<=k)(h:out[k.toNat]? = some x):av out k=x:=by
 unfold av;rw[if_pos D,List.getD_eq_getElem?_getD,h];rfl
def Mp {out:List Int}{k:Int}(h:YH out.length k):out[k.toNat]? = some (av out k):=by
 unfold av;rw[if_pos h.1,List.getD_eq_getElem?_getD]
 have:k.toNat<out.length:=by unfold YH at h;omega
 rw[List.getElem?_eq_getElem this];rfl
def QmB {out:List Int}{k:Int}(x:Int)(h:YH out.length k)(j:Int):av (out.set k.toNat x) j=if j=k then x else av out j:=by
 unfold av
 by_cases D:0<=j
 ·rw[if_pos D,List.getD_eq_getElem?_getD,List.getElem?_set,List.getD_eq_getElem?_getD]
  have:=h.1;have h2:=h.2
  by_cases e:j=k
  ·subst e;rw[if_pos rfl,if_pos (by omega),if_pos rfl];rfl
  rw[if_neg (by omega),if_neg e,if_pos D]
 rw[if_neg D,if_neg (by have:=h.1;omega),if_neg D]
def Qpe {a b:List Int}(hl:a.length=b.length)(h:∀k,YH a.length k->av a k=av b k):a=b:=by
 apply List.ext_getElem? 
 intro i
 by_cases hi:i<a.length
 ·have h1:=h i ⟨by omega,by omega⟩
  have D:=@Mp a i ⟨by omega,by omega⟩
  have h3:=@Mp b i ⟨by omega,by omega⟩
  simp only[Int.toNat_natCast]at D h3
  rw[D,h3,h1]
 rw[List.getElem?_eq_none (by omega),List.getElem?_eq_none (by omega)]
structure GF (N:Nat) (es:List (Int×Int)) (gs:List Int) (out:List Int):Prop where
 len:out.length=N
 lo:∀k,-1<=av out k
 goal:∀g,g∈gs->YH N g->av out g=0
 edge:∀u v,(u,v)∈es->YH N u->YH N v->0<=av out v->0<=av out u/\av out u<=av out v+1
 back:∀k,0<=av out k->(av out k=0/\k∈gs)\/∃v,(k,v)∈es/\YH N v/\0<=av out v/\av out k=av out v+1
variable {N:Nat}{es:List (Int×Int)}{gs:List Int}{a b:List Int}
def GF.rng (h:GF N es gs a){k:Int}(hk:0<=av a k):YH N k:=by
 by_cases D:YH a.length k
 ·rw[h.len]at D;exact D
 rw[Vd D]at hk;omega
def GF.le (h:GF N es gs a)(D:GF N es gs b):∀n:Nat,∀k,av a k=n->0<=av b k/\av b k<=n:=by
 intro n
 induction n with
 | zero=>
  intro k hk
  rcases h.back k (by omega)with⟨_,hg⟩|⟨v,_,_,_,hv⟩
  ·rw[D.goal k hg (h.rng (by omega))];omega
  omega
 | succ n ih=>
  intro k hk
  have hr:=h.rng (k:=k) (by omega)
  rcases h.back k (by omega)with⟨h0,_⟩|⟨v,he,hv,h1,h2⟩
  ·omega
  obtain⟨h3,h4⟩:=ih v (by omega)
  have:=D.edge k v he hr hv h3
  omega
def GF.unique (h:GF N es gs a)(D:GF N es gs b):a=b:=by
 refine Qpe (by rw[h.len,D.len]) λk _=>?_
 have la:=h.lo k;have lb:=D.lo k
 by_cases h1:0<=av a k
 ·have x:=h.le D (av a k).toNat k (by omega)
  have y:=D.le h (av b k).toNat k (by omega)
  omega
 by_cases h2:0<=av b k
 ·have y:=D.le h (av b k).toNat k (by omega);omega
 omega
def MN : ∀{l m:List Int},l.Nodup->(∀x,x∈l->x∈m)->l.length<=m.length:=by
 intro l
 induction l with
 | nil=>intro m _ _;simp
 | cons x l ih=>
  intro m h hs
  rw[List.nodup_cons]at h
  have hx:=hs x List.mem_cons_self
  have:=ih (m:=m.erase x) h.2 λy hy=>by
   have D:y≠x:=λe=>h.1 (e▸hy)
   exact(List.mem_erase_of_ne D).2 (hs y (List.mem_cons_of_mem _ hy))
  rw[List.length_erase_of_mem hx]at this
  have:=List.length_pos_of_mem hx
  simp only[List.length_cons];omega
def QnF (hl:a.length=N)(h:∀k,0<=av a k->(av a k=0/\k∈gs)\/∃v,(k,v)∈es/\YH N v/\0<=av a v/\av a k=av a v+1):∀n:Nat,∀k,av a k=n->∀m:Nat,m<=n->∃j,YH N j/\av a j=m:=by
 have rng:∀{k:Int},0<=av a k->YH N k:=λ{k} D=>by
  by_cases hr:YH a.length k
  ·rw[hl]at hr;exact hr
  rw[Vd hr]at D;omega
 intro n
 induction n with
 | zero=>intro k D m hm;exact⟨k,rng (by omega),by omega⟩
 | succ n ih=>
  intro k D m hm
  by_cases e:m=n+1
  ·exact⟨k,rng (by omega),by omega⟩
  rcases h k (by omega)with⟨h0,_⟩|⟨v,he,hv,h1,h2⟩
  ·omega
  exact ih v (by omega) m (by omega)
def QpQ (hl:a.length=N)(D:∀k,0<=av a k->(av a k=0/\k∈gs)\/∃v,(k,v)∈es/\YH N v/\0<=av a v/\av a k=av a v+1)(k:Int):av a k<(N:Int)\/N=0:=by
 by_cases h:0<=av a k
 ·left
  have hs:=QnF hl D (av a k).toNat k (by omega)
  have:((List.range ((av a k).toNat+1)).map (λi:Nat=>(i:Int))).length<=a.length:=by
   refine MN ?_ λx hx=>?_
   ·rw[List.Nodup,List.pairwise_map]
    exact(List.nodup_range).imp λh e=>h (by omega)
   obtain⟨i,hi,rfl⟩:=List.mem_map.1 hx
   rw[List.mem_range]at hi
   obtain⟨j,hj,he⟩:=hs i (by omega)
   rw[<-he]
   rw[<-hl]at hj
   exact List.mem_of_getElem? (Mp hj)
  simp only[List.length_map,List.length_range]at this
  rw[hl]at this
  omega
 omega
def GF.lt (h:GF N es gs a)(k:Int):av a k<(N:Int)\/N=0:=QpQ h.len h.back k
end Go.Rk
noncomputable section
namespace Go.Proofs
open Go Go.RowKit Go.Vm Go.Rk
abbrev Rw := Int×Int
def Qby (h:Int)(x:Rw):Bool:=decide (x.1<=h)||(decide (x.2<1)||decide (1048576<x.2))
def Iv : Int->L_ Rw->Bool
 | _,[]=>true
 | h,x::l=>bif Qby h x then false else Iv x.1 l
def Qdi (b:L_ Rw):Bool:=Iv (-1) b
def Qiz {b:L_ Rw}(D:b.length<=maxLen):Kg b=some (Qdi b):=by
 unfold Kg
 rw[Zd (l:=b) (s0:=(-1,0)) (λi (t:Int)=>(t,(i:Int))) (λi t x=>bif Qby t x then .inr (.inl ())else .inl x.1) (λ_=>.inr ()) ?_ ?_ (-1) rfl]
 ·have:∀(l:L_ Rw) k t,Sum.elim (λ(q:Unit)=>IH) (λ(q:Unit)=>II) (BA (λi t x=>bif Qby t x then .inr (.inl ())else .inl x.1) (λ_=>.inr ()) k t l)=some (Iv t l):=by
   intro l
   induction l with
   | nil=>intro k t;rfl
   | cons x l ih=>
    intro k t
    rw[BA,Iv]
    cases Qby t x with
    | true=>rfl
    | false=>exact ih _ _
  exact this b 0 (-1)
 ·intro i t x hi hx
  have h:(i:Int)<b.length:=by omega
  unfold Kf
  simp only[h,decide_true,QY,QT,hx,Qd,Qv hi D]
  show(bif Qby t x then _ else _)=_
  cases Qby t x<;>rfl
 intro t
 unfold Kf
 simp
def QiA : ∀{l:L_ Rw} {D:Int},Iv D l=true↔(∀x∈l,D<x.1/\1<=x.2/\x.2<=1048576)/\l.Pairwise λx y=>x.1<y.1:=by
 intro l
 induction l with
 | nil=>intro D;simp[Iv]
 | cons x l ih=>
  intro D
  have e:Qby D x=false↔D<x.1/\1<=x.2/\x.2<=1048576:=by
   unfold Qby
   simp only[KC,Xm,Int.not_le,Int.not_lt]
  rw[Iv,Jc,Vt]
  cases hb:Qby D x with
  | true=>
   rw[hb]at e
   simp only[QY,Bool.false_eq_true,false_iff]
   rintro ⟨⟨h,_⟩,_⟩
   exact absurd (e.2 h) (by simp)
  | false=>
   have h0:=e.1 hb
   simp only[Xh]
   rw[ih]
   constructor
   ·rintro ⟨h1,h2⟩
    exact⟨⟨h0,λy hy=>⟨by have:=(h1 y hy).1;omega,(h1 y hy).2⟩⟩,λy hy=>(h1 y hy).1,h2⟩
   rintro ⟨⟨_,h1⟩,h2,h3⟩
   exact⟨λy hy=>⟨h2 y hy,(h1 y hy).2⟩,h3⟩
abbrev Mk := L_ (L_ Rw)
def okM (m:Mk):Prop:=m.length<=maxLen/\∀b∈m,b.length<=maxLen
def okM.get {m:Mk}(h:okM m){i:Nat}{b:L_ Rw}(D:m[i]? = some b):b.length<=maxLen:=h.2 b (XE D)
def Qqd (s:QD):Prop:=s.States.length<=maxLen/\s.Edges.length<=maxLen/\∀m∈s.States,okM m
structure Cp (s:QD):Prop where
 ok:Qqd s
 st:s.States.length<=40
 ed:s.Edges.length<=130023424
def Cp.get {s:QD}(h:Cp s){i:Nat}{m:Mk}(D:s.States[i]? = some m):okM m:=h.ok.2.2 m (XE D)
def cnt (s:QD)(e:QW):Bool:=(decide (0<=e.From)&&decide (e.From<(s.States.length:Int)))&&(decide (0<=e.To)&&decide (e.To<(s.States.length:Int)))
def PB {s:QD}{e:QW}:cnt s e=true↔YH s.States.length e.From/\YH s.States.length e.To:=by
 unfold cnt YH;simp only[QJ,QI]
def YW (l:L_ QW)(k:Int):LI_:=(l.filter λe=>e.To==k).map (·.From)
def es (s:QD):QBg:=s.Edges.map λe=>(e.From,e.To)
def QaG {s:QD}{u v:Int}:(u,v)∈es s↔∃e∈s.Edges,e.From=u/\e.To=v:=by
 unfold es;rw[Yh];simp only[Prod.mk.injEq]
def Zj {s:QD}{u k:Int}:u∈YW (s.Edges.filter (cnt s)) k↔(u,k)∈es s/\YH s.States.length u/\YH s.States.length k:=by
 unfold YW
 rw[QaG,Yh]
 constructor
 ·rintro ⟨e,he,rfl⟩
  rw[Ex,Ex,PB]at he
  obtain⟨⟨D,h2,h3⟩,h⟩:=he
  have h:e.To=k:=by simpa using h
  exact⟨⟨e,D,rfl,h⟩,h2,h▸h3⟩
 rintro ⟨⟨e,D,rfl,rfl⟩,h2,h3⟩
 exact⟨e,by rw[Ex,Ex,PB];exact⟨⟨D,h2,h3⟩,by simp⟩,rfl⟩
def Qdj {α:Type}{p D q:α->Bool}:∀{l:L_ α},(∀e∈l,(p e=true/\((D e=true/\q e=false)\/(D e=false/\q e=true)))\/(p e=false/\D e=false/\q e=false))->l.countP p=l.countP D+l.countP q:=by
 intro l
 induction l with
 | nil=>intro _;rfl
 | cons x l ih=>
  intro h
  have h1:=ih λe he=>h e (XZ _ he)
  rw[List.countP_cons,List.countP_cons,List.countP_cons,h1]
  rcases h x XR with⟨a,⟨b,c⟩|⟨b,c⟩⟩|⟨a,b,c⟩<;>simp[a,b,c]<;>omega
end Go.Proofs
noncomputable section
namespace Go.Proofs
open Go Go.RowKit Go.Vm Go.Rk
structure Qbz (s:QD) (gs:List Int) (r:Nat) (i:Nat) (out:List Int):Prop where
 len:out.length=s.States.length
 lo:∀k,-1<=av out k
 goal:∀g,g∈gs->YH s.States.length g->av out g=0
 back:∀k,0<=av out k->(av out k=0/\k∈gs)\/∃v,(k,v)∈es s/\YH s.States.length v/\0<=av out v/\av out k=av out v+1
 hi:∀k,av out k<=r+1
 hi0:i=0->∀k,av out k<=r
 old:∀u v,(u,v)∈es s->YH s.States.length u->YH s.States.length v->0<=av out v->av out v<r->0<=av out u/\av out u<=av out v+1
 cur:∀(j:Nat) e,j<i->s.Edges[j]? = some e->cnt s e=true->av out e.To=r->0<=av out e.From
def Qbz.step {s:QD}{gs:LI_}{r i:Nat}{out:LI_}{e:QW}(I:Qbz s gs r i out)(he:s.Edges[i]? = some e)(c1:cnt s e=true)(c2:av out e.To=r)(c3:av out e.From<0):Qbz s gs r (i+1) (out.set e.From.toNat ((r:Int)+1)):=by
 obtain⟨hr1,hr2⟩:=PB.1 c1
 have hr1':YH out.length e.From:=by rw[I.len];exact hr1
 have D:∀k,av (out.set e.From.toNat ((r:Int)+1)) k=if k=e.From then(r:Int)+1 else av out k:=QmB _ hr1'
 have hne:∀k,0<=av out k->k≠e.From:=λk hk e=>by subst e;omega
 refine { len:=by simpa using I.len,lo:=λk=>?_,goal:=λg h1 h2=>?_,back:=λk hk=>?_,hi:=λk=>?_,hi0:=λh=>by omega,old:=λu v h1 h2 h3 h4 h5=>?_,cur:=λj e' hj he' hc h=>?_ }
 ·rw[D];split
  ·omega
  exact I.lo k
 ·rw[D,if_neg (hne g (by rw[I.goal g h1 h2];omega))];exact I.goal g h1 h2
 ·rw[D]at hk ⊢
  by_cases c:k=e.From
  ·rw[if_pos c]
   refine .inr ⟨e.To,QaG.2 ⟨e,XE he,c.symm,rfl⟩,hr2,?_⟩
   rw[D,if_neg (hne e.To (by omega))];omega
  rw[if_neg c]at hk ⊢
  rcases I.back k hk with h | ⟨v,h1,h2,h3,h4⟩
  ·exact .inl h
  exact .inr ⟨v,h1,h2,by rw[D,if_neg (hne v h3)];exact⟨h3,h4⟩⟩
 ·rw[D];split
  ·omega
  exact I.hi k
 ·rw[D]at h4 h5
  by_cases c:v=e.From
  ·rw[if_pos c]at h5;omega
  rw[if_neg c]at h4 h5
  obtain⟨h6,h7⟩:=I.old u v h1 h2 h3 h4 h5
  rw[D,if_neg (hne u h6),D,if_neg c];exact⟨h6,h7⟩
 rw[D]at h ⊢
 by_cases c:e'.To=e.From
 ·rw[if_pos c]at h;omega
 rw[if_neg c]at h
 by_cases c':e'.From=e.From
 ·rw[if_pos c'];omega
 rw[if_neg c']
 by_cases hji:j=i
 ·subst hji;rw[he]at he';cases he';exact absurd rfl c'
 exact I.cur j e' (by omega) he' hc h
def Qbz.stay {s:QD}{gs:LI_}{r i:Nat}{out:LI_}{e:QW}(I:Qbz s gs r i out)(he:s.Edges[i]? = some e)(c:cnt s e=true->av out e.To=r->¬av out e.From<0):Qbz s gs r (i+1) out:=by
 refine { I with hi0:=λh=>by omega,cur:=λj e' hj D hc h=>?_ }
 by_cases hji:j=i
 ·subst hji;rw[he]at D;cases D
  have:=c hc h;omega
 exact I.cur j e' (by omega) D hc h
def Qbz.next {s:QD}{gs:LI_}{r:Nat}{out:LI_}(I:Qbz s gs r s.Edges.length out):Qbz s gs (r+1) 0 out:=by
 refine { I with hi:=λk=>by have:=I.hi k;omega,hi0:=λ_ k=>by have:=I.hi k;omega,old:=λu v D h2 h3 h4 h5=>?_,cur:=λj e' h=>by omega }
 by_cases c:av out v<r
 ·exact I.old u v D h2 h3 h4 c
 obtain⟨e,e1,rfl,rfl⟩:=QaG.1 D
 obtain⟨j,h⟩:=Ey.1 e1
 have h6:=I.cur j e (Xa.1 h).1 h (PB.2 ⟨h2,h3⟩) (by omega)
 have:=I.hi e.From
 omega
end Go.Proofs
noncomputable section
namespace Go.Proofs
open Go Go.RowKit Go.Vm Go.Rk
def Qdk {s:QD}{k:Int}:Ah k s=some (decide (YH s.States.length k)):=by
 unfold Ah
 refine congrArg some ?_
 rw[QaI,decide_eq_true_iff,QJ,decide_eq_true_iff,decide_eq_true_iff];exact Iff.rfl
def Qld {s:QD}{e:QW}:Pm e s=some (cnt s e):=by
 unfold Pm cnt
 rw[Qdk,Qdk,Qd]
 by_cases h:YH s.States.length e.From
 ·have D:=h.1;have h2:=h.2
  simp only[h,D,h2,decide_true,QY,Qd,Bool.true_and]
  refine congrArg some ?_
  rw[QaI,decide_eq_true_iff,QJ,decide_eq_true_iff,decide_eq_true_iff];exact Iff.rfl
 simp only[h,decide_false,Xh]
 refine congrArg some ?_
 have:(decide (0<=e.From)&&decide (e.From<(s.States.length:Int)))=false:=by
  rw[<-PE,QJ,decide_eq_true_iff,decide_eq_true_iff];exact h
 rw[this];rfl
def QjX {s:QD}(h:Cp s):∃m,QE (λst:Int×L_ (Int×LI_)=>IV s st.1 st.2) (0,[])=some m/\∀k,(Qs m k).getD []=YW (s.Edges.filter (cnt s)) k:=by
 have hed:=h.ed
 refine Ci s.Edges.length (λi st=>st.1=(i:Int)/\∀k,(Qs st.2 k).getD []=YW ((s.Edges.take i).filter (cnt s)) k) _ (λi st hi hs=>?_) (λst hs=>?_) (0,[]) ⟨rfl,λk=>by simp[YW,Qs]⟩
 ·obtain⟨j,m⟩:=st
  obtain⟨hj,D⟩:=hs
  simp only at hj D
  subst hj
  left
  have h1:(i:Int)<s.Edges.length:=by omega
  have ht:s.Edges.take (i+1)=s.Edges.take i++[s.Edges[i]]:=Sn hi
  unfold IV Qae IU
  simp only[h1,decide_true,QY,QT,Qx hi,Qd,Qld,Qv hi h.ok.2.1]
  cases hc:cnt s s.Edges[i]with
  | false=>
   refine⟨_,rfl,rfl,λk=>?_⟩
   rw[ht,NF,Am,hc]
   simpa using D k
  | true=>
   have hlen:(YW ((s.Edges.take i).filter (cnt s)) s.Edges[i].To).length<=130023424:=by
    unfold YW
    rw[Gs]
    refine Ym (IA _ _) (Ym (IA _ _) ?_)
    rw[WJ];omega
   simp only[QY,D]
   rw[GE (show(YW ((s.Edges.take i).filter (cnt s)) s.Edges[i].To).length+([s.Edges[i].From]:LI_).length<=4294967296 by simp only[CA];omega)]
   refine⟨_,rfl,rfl,λk=>?_⟩
   simp only[Wa]
   have e:YW ((s.Edges.take (i+1)).filter (cnt s)) k=YW ((s.Edges.take i).filter (cnt s)) k++(if s.Edges[i].To=k then [s.Edges[i].From]else []):=by
    rw[ht,NF,Am,hc]
    unfold YW
    by_cases c:s.Edges[i].To=k<;>simp[c]
   rw[e]
   by_cases c:k=s.Edges[i].To
   ·subst c;simp
   rw[if_neg c,if_neg (λe=>c e.symm),D k];simp
 obtain⟨j,m⟩:=st
 obtain⟨hj,D⟩:=hs
 simp only at hj D
 subst hj
 refine⟨m,by simp[IV],λk=>?_⟩
 rw[D k,Hc]
def left (N:Nat)(m:QBg):Nat:=(List.range N).countP λj:Nat=>(Qs m (j:Int)).isNone
def QjB {N:Nat}{m:QBg}{u v:Int}(D:YH N u)(hn:Qs m u=none):left N m=left N (XG KM m u v)+1:=by
 unfold left
 have h1:(List.range N).countP (λj:Nat=>decide ((j:Int)=u))=1:=by
  obtain⟨n,rfl⟩:∃n:Nat,u=(n:Int):=⟨u.toNat,by have:=D.1;omega⟩
  have h:n<N:=by have:=D.2;omega
  have:(λj:Nat=>decide ((j:Int)=(n:Int)))=λj=>j==n:=by
   funext j;rw[QaI,decide_eq_true_iff,beq_iff_eq];omega
  rw[this,<-List.count_eq_countP]
  have:=List.nodup_range (n:=N)
  rw[List.Nodup.count this,if_pos (Gu.2 h)]
 rw[<-h1]
 refine Qdj λj _=>?_
 rw[Wa]
 by_cases c:(j:Int)=u
 ·left;subst c;simp[hn]
 rw[if_neg c]
 cases Qs m (j:Int)with
 | none=>left;simp[c]
 | some x=>right;simp[c]
structure QjC (s:QD) (k:Int) (m:List (Int×Int)) (w:List Int):Prop where
 rng:∀j d,Qs m j=some d->YH s.States.length j/\0<=d/\d+(left s.States.length m:Int)<=s.States.length
 goal:Qs m k=some 0
 back:∀j d,Qs m j=some d->(d=0/\j=k)\/∃v d',(j,v)∈es s/\YH s.States.length v/\Qs m v=some d'/\d=d'+1
 wait:∀x,x∈w->∃d,Qs m x=some d
 edge:∀u v d,(u,v)∈es s->YH s.States.length u->YH s.States.length v->Qs m v=some d->v∈w\/∃c,Qs m u=some c/\c<=d+1
 sort:w.Pairwise λx y=>∀a b,Qs m x=some a->Qs m y=some b->a<=b
 near:∀x r,w=x::r->∀j d a,Qs m j=some d->Qs m x=some a->d<=a+1
 few:w.length+left s.States.length m<=s.States.length+1
structure BIn (s:QD) (m0:List (Int×Int)) (w0:List Int) (x dx:Int) (i:Nat) (m:List (Int×Int)) (w:List Int):Prop where
 mono:∀j d,Qs m0 j=some d->Qs m j=some d
 new:∀j d,Qs m j=some d->Qs m0 j=some d\/(Qs m0 j=none/\d=dx+1/\(j,x)∈es s/\YH s.States.length j/\j∈w)
 app:∃ws,w=w0++ws/\∀y,y∈ws->Qs m y=some (dx+1)
 done:∀u,u∈(YW (s.Edges.filter (cnt s)) x).take i->∃c,Qs m u=some c
 sz:w.length+left s.States.length m=w0.length+left s.States.length m0
def Qle {s:QD}{k:Int}{mi:L_ (Int×LI_)}{m0:QBg}{x:Int}{r:LI_}{dx:Int}(h:Cp s)(hmi:∀k,(Qs mi k).getD []=YW (s.Edges.filter (cnt s)) k)(I:QjC s k m0 (x::r))(hx:Qs m0 x=some dx):
  ∃q,QE (λst:Int×QBg×LI_=>IX mi x st.1 st.2.1 st.2.2) (0,m0,x::r)=some q/\BIn s m0 (x::r) x dx (YW (s.Edges.filter (cnt s)) x).length q.1 q.2:=by
 have hst:=h.st;have hed:=h.ed
 have hfl:(YW (s.Edges.filter (cnt s)) x).length<=130023424:=by
  unfold YW
  rw[Gs]
  exact Ym (IA _ _) (Ym (IA _ _) hed)
 refine Ci (YW (s.Edges.filter (cnt s)) x).length (λi st=>st.1=(i:Int)/\BIn s m0 (x::r) x dx i st.2.1 st.2.2) _ (λi st hi hs=>.inl ?_) (λst hs=>?_) (0,m0,x::r)
  ⟨rfl,λj d h=>h,λj d h=>.inl h,⟨[],by simp,by simp⟩,by simp,rfl⟩
 ·obtain⟨j,m,w⟩:=st
  obtain⟨hj,J⟩:=hs
  simp only at hj J
  subst hj
  have hi':(i:Int)<(YW (s.Edges.filter (cnt s)) x).length:=by omega
  have hgu:=Qx hi
  generalize hu:(YW (s.Edges.filter (cnt s)) x)[i]=u at hgu
  have hum:u∈YW (s.Edges.filter (cnt s)) x:=by rw[<-hu];exact XV _
  obtain⟨hue,hur,_⟩:=Zj.1 hum
  have htk:(YW (s.Edges.filter (cnt s)) x).take (i+1)=(YW (s.Edges.filter (cnt s)) x).take i++[u]:=by rw[Sn hi,hu]
  obtain⟨ws,hw,hws⟩:=J.app
  have hsz:=J.sz
  have hfew:=I.few
  unfold IX IW
  simp only[hmi,hi',decide_true,QY,QT,hgu,Qd,Qv hi (show(YW (s.Edges.filter (cnt s)) x).length<=maxLen by unfold maxLen;omega)]
  cases hmu:Qs m u with
  | some c=>
   simp only[Option.isSome_some,GV,Xh]
   refine⟨_,rfl,rfl,{ J with done:=λy hy=>?_ }⟩
   rw[htk,YI,Ao]at hy
   rcases hy with hy | rfl
   ·exact J.done y hy
   exact⟨c,hmu⟩
  | none=>
   have hw0:w[0]? = some x:=by rw[hw];rfl
   have hd:=(I.rng x dx hx).2
   have e1:Qi ((Qs m x).getD 0+1)=dx+1:=by rw[J.mono x dx hx];exact Yf (by simp only[GH];omega)
   have e2:idx w 0=some x:=by rw[show(0:Int)=((0:Nat):Int)from rfl,QT];exact hw0
   simp only[Option.isSome_none,Si,QY,e1,e2,Qd]
   have hls:=QjB (v:=dx+1) hur hmu
   have hwl:w.length=(x::r).length+ws.length:=by rw[hw,Kc]
   have hll:left s.States.length m0<=s.States.length:=by unfold left;refine Ym List.countP_le_length ?_;simp
   have hw2:w.length<=200:=by omega
   rw[GE (by simp only[CA];omega)]
   refine⟨_,rfl,rfl,{ mono:=λj d D=>?_,new:=λj d D=>?_,app:=⟨ws++[u],by rw[hw];simp,λy hy=>?_⟩,done:=λy hy=>?_,sz:=?_ }⟩
   ·simp only[Wa]
    by_cases c:j=u
    ·subst c;rw[J.mono j d D]at hmu;cases hmu
    rw[if_neg c];exact J.mono j d D
   ·simp only[Wa]at D
    by_cases c:j=u
    ·subst c
     rw[if_pos rfl]at D;cases D
     right
     refine⟨?_,rfl,hue,hur,by simp⟩
     cases h0:Qs m0 j with
     | none=>rfl
     | some d=>rw[J.mono j d h0]at hmu;cases hmu
    rw[if_neg c]at D
    rcases J.new j d D with h | ⟨a,b,c1,c2,c3⟩
    ·exact .inl h
    exact .inr ⟨a,b,c1,c2,PH _ c3⟩
   ·simp only[Wa]
    by_cases c:y=u
    ·rw[if_pos c]
    rw[if_neg c]
    rcases YI.1 hy with h | h
    ·exact hws y h
    exact absurd (Ao.1 h) c
   ·rw[htk,YI,Ao]at hy
    simp only[Wa]
    by_cases c:y=u
    ·exact⟨_,if_pos c⟩
    rw[if_neg c]
    rcases hy with hy | hy
    ·exact J.done y hy
    exact absurd hy c
   simp only[Kc,CA];omega
 obtain⟨j,m,w⟩:=st
 obtain⟨hj,J⟩:=hs
 simp only at hj J
 subst hj
 exact⟨(m,w),by simp[IX,hmi],J⟩
def QmC {s:QD}{k:Int}{mi:L_ (Int×LI_)}{m:QBg}{w:LI_}(h:Cp s)(hmi:∀k,(Qs mi k).getD []=YW (s.Edges.filter (cnt s)) k)(I:QjC s k m w)(hw:w≠[]):
  ∃m' w',IY mi m w=some (.inl (m',w'))/\QjC s k m' w'/\w'.length+left s.States.length m'<w.length+left s.States.length m:=by
 cases w with
 | nil=>exact absurd rfl hw
 | cons x r=>
  obtain⟨dx,hx⟩:=I.wait x XR
  obtain⟨⟨m',w'⟩,h1,J⟩:=Qle h hmi I hx
  simp only at J
  obtain⟨ws,hws,hwd⟩:=J.app
  have D:=J.sz
  have hfew:=I.few
  have hdx:=I.rng x dx hx
  have hnear:=I.near x r rfl
  have hall:∀j d,Qs m' j=some d->d<=dx+1:=λj d hj=>by
   rcases J.new j d hj with h | ⟨_,h,_⟩
   ·exact hnear j d dx h hx
   omega
  have hx':=J.mono x dx hx
  refine⟨m',r++ws,?_,?_,by rw[hws]at D;simp at D ⊢;omega⟩
  ·unfold IY Qaf
   have e0:(0:Int)<((x::r).length:Int):=by simp only[DU];omega
   have e2:idx (x::r) 0=some x:=by rw[show(0:Int)=((0:Nat):Int)from rfl,QT];rfl
   simp only[e0,decide_true,QY,e2,Qd,h1]
   rw[PS (by rw[hws];simp)]
   simp[hws]
  have old:∀y,y∈r->∃d,Qs m y=some d:=λy hy=>I.wait y (XZ _ hy)
  have hs:=Vt.1 I.sort
  refine { rng:=λj d hj=>?_,goal:=J.mono _ _ I.goal,back:=λj d hj=>?_,wait:=λy hy=>?_,edge:=λu v d q1 q2 q3 q4=>?_,sort:=?_,near:=λy q hq j d a hj ha=>?_,few:=?_ }
  ·have hl:left s.States.length m'<=left s.States.length m:=by rw[hws]at D;simp at D;omega
   rcases J.new j d hj with h | ⟨a,b,c,e,f⟩
   ·obtain⟨p,q,t⟩:=I.rng j d h;exact⟨p,q,by omega⟩
   refine⟨e,by omega,?_⟩
   have hwl:1<=ws.length:=by
    rw[hws]at f
    rcases YI.1 f with g | g
    ·obtain⟨d',hd'⟩:=I.wait j g;rw[a]at hd';cases hd'
    exact List.length_pos_of_mem g
   rw[hws]at D;simp only[Kc]at D;omega
  ·rcases J.new j d hj with h | ⟨a,b,c,e,f⟩
   ·rcases I.back j d h with h | ⟨v,d',p,q,t,u⟩
    ·exact .inl h
    exact .inr ⟨v,d',p,q,J.mono _ _ t,u⟩
   exact .inr ⟨x,dx,c,hdx.1,hx',b⟩
  ·rcases YI.1 hy with h | h
   ·obtain⟨d,hd⟩:=old y h;exact⟨d,J.mono _ _ hd⟩
   exact⟨_,hwd y h⟩
  ·by_cases c:v=x
   ·subst c
    right
    rw[hx']at q4;cases q4
    obtain⟨c,hc⟩:=J.done u (by rw[Hc];exact Zj.2 ⟨q1,q2,q3⟩)
    exact⟨c,hc,hall u c hc⟩
   rcases J.new v d q4 with h | ⟨a,b,_,_,f⟩
   ·rcases I.edge u v d q1 q2 q3 h with g | ⟨c',g1,g2⟩
    ·rcases Yl.1 g with g | g
     ·exact absurd g c
     exact .inl (PH _ g)
    exact .inr ⟨c',J.mono _ _ g1,g2⟩
   left
   rw[hws]at f
   rcases YI.1 f with g | g
   ·obtain⟨d',hd'⟩:=I.wait v g;rw[a]at hd';cases hd'
   exact List.mem_append_right _ g
  ·rw[QfD]
   refine⟨(hs.2).imp_of_mem λ{a b} ha hb hab p q hp hq=>?_,?_,λa ha b hb p q hp hq=>?_⟩
   ·obtain⟨p',hp'⟩:=old a ha
    obtain⟨q',hq'⟩:=old b hb
    rw[J.mono _ _ hp']at hp;rw[J.mono _ _ hq']at hq;cases hp;cases hq
    exact hab _ _ hp' hq'
   ·refine List.pairwise_of_forall_mem_list λa ha b hb p q hp hq=>?_
    rw[hwd a ha]at hp;rw[hwd b hb]at hq;cases hp;cases hq;exact Int.le_refl _
   rw[hwd b hb]at hq;cases hq
   exact hall a p hp
  ·have h5:dx<=a:=by
    have hym:y∈r++ws:=by rw[hq];exact XR
    rcases YI.1 hym with h | h
    ·obtain⟨a',ha'⟩:=old y h
     rw[J.mono _ _ ha']at ha;cases ha
     exact hs.1 y h dx _ hx ha'
    rw[hwd y h]at ha;cases ha;omega
   have:=hall j d hj;omega
  rw[hws]at D;simp only[Kc,DU]at D hfew ⊢;omega
def QnG {s:QD}{k:Int}(h:Cp s)(hk:YH s.States.length k){f:LI_}(hf:GF s.States.length (es s) [k] f):∃m,PQ s k=some m/\(∀j,Qs m j=if 0<=av f j then some (av f j)else none):=by
 obtain⟨mi,m1,m2⟩:=QjX h
 have hst:=h.st
 unfold PQ
 rw[Qdk,Qd]
 simp only[hk,decide_true,GV,Xh,m1,Qd]
 unfold VU
 have g0:∀j,Qs (XG KM ([]:QBg) k 0) j=if j=k then some 0 else none:=λj=>by rw[Wa];rfl
 have gk:Qs (XG KM ([]:QBg) k 0) k=some 0:=by rw[g0,if_pos rfl]
 have gs:∀j d,Qs (XG KM ([]:QBg) k 0) j=some d->j=k/\d=0:=λj d D=>by
  rw[g0]at D
  split at D
  ·rename_i e;cases D;exact⟨e,rfl⟩
  cases D
 have hleft:left s.States.length (XG KM ([]:QBg) k 0)+1=s.States.length:=by
  rw[<-QjB (m:=[]) hk rfl]
  unfold left
  have e:(λj:Nat=>(Qs ([]:QBg) (j:Int)).isNone)=λ_=>true:=rfl
  rw[e];simp
 have key:∃r,QE (λst:QBg×LI_=>IY mi st.1 st.2) (XG KM [] k 0,[k])=some r/\QjC s k r []:=by
  refine PZ (λst:QBg×LI_=>QjC s k st.1 st.2) (λst:QBg×LI_=>st.2.length+left s.States.length st.1) _ ?_ (XG KM [] k 0,[k]) ?_
  ·rintro ⟨m,w⟩ I
   simp only at I
   by_cases hw:w=[]
   ·subst hw;right;exact⟨m,rfl,I⟩
   left
   obtain⟨m',w',a,b,c⟩:=QmC h m2 I hw
   exact⟨(m',w'),a,b,c⟩
  refine { rng:=λj d D=>?_,goal:=gk,back:=λj d D=>.inl ((gs j d D).symm),wait:=λx hx=>?_,edge:=λu v d _ _ _ h4=>?_,sort:=Vu _ _,near:=λx r hr j d a D ha=>?_,few:=by simp;omega }
  ·obtain⟨rfl,rfl⟩:=gs j d D;exact⟨hk,Int.le_refl _,by simp only;omega⟩
  ·rw[Ao]at hx;subst hx;exact⟨0,gk⟩
  ·left;rw[(gs v d h4).1];exact Ao.2 rfl
  rw[(gs j d D).2,(gs x a ha).2];omega
 obtain⟨m,r1,I⟩:=key
 refine⟨m,by rw[r1];rfl,?_⟩
 have hv:∀j,av ((List.range s.States.length).map λj:Nat=>(Qs m (j:Int)).getD (-1)) j=(Qs m j).getD (-1):=λj=>by
  by_cases hr:YH s.States.length j
  ·obtain⟨n,rfl⟩:∃n:Nat,j=(n:Int):=⟨j.toNat,by have:=hr.1;omega⟩
   refine Qpd (by omega) ?_
   rw[XY,List.getElem?_range (by have:=hr.2;omega)];rfl
  rw[Vd (by simpa using hr)]
  cases hm:Qs m j with
  | none=>rfl
  | some d=>exact absurd (I.rng j d hm).1 hr
 have hsome:∀j,0<=(Qs m j).getD (-1)->Qs m j=some ((Qs m j).getD (-1)):=λj D=>by
  cases hm:Qs m j with
  | none=>rw[hm]at D;simp at D
  | some d=>rfl
 have hI:GF s.States.length (es s) [k] ((List.range s.States.length).map λj:Nat=>(Qs m (j:Int)).getD (-1)):=by
  refine { len:=by simp,lo:=λj=>?_,goal:=λg hg _=>?_,edge:=λu v h1 h2 h3 h4=>?_,back:=λj D=>?_ }
  ·rw[hv]
   cases hm:Qs m j with
   | none=>simp
   | some d=>have:=(I.rng j d hm).2;simp only[GH];omega
  ·rw[Ao]at hg;subst hg;rw[hv,I.goal];rfl
  ·rw[hv]at h4
   rw[hv,hv]
   rcases I.edge u v _ h1 h2 h3 (hsome v h4)with h | ⟨c,c1,c2⟩
   ·cases h
   rw[c1];have:=(I.rng u c c1).2;simp only[GH];omega
  rw[hv]at D
  rcases I.back j _ (hsome j D)with⟨h1,h2⟩|⟨v,d',a,b,c,e⟩
  ·left;rw[hv];exact⟨h1,by rw[h2];exact Ao.2 rfl⟩
  right
  refine⟨v,a,b,?_⟩
  rw[hv,hv,c]
  have:=(I.rng v d' c).2
  simp only[GH];omega
 have:=hf.unique hI
 intro j
 have e:av f j=(Qs m j).getD (-1):=by rw[this];exact hv j
 rw[e]
 cases hm:Qs m j with
 | none=>simp
 | some d=>have:=(I.rng j d hm).2.1;simp[this]
def QjD {s:QD}(h:Cp s)(k:Int):Md s k=some (Ws (λe:QW=>e.From==k) 0 s.Edges):=by
 have hed:=h.ed
 unfold Md
 rw[TT (l:=s.Edges) (λe:QW=>e.From==k)]
 ·rfl
 ·intro i D x ha hi hx
  have h1:(i:Int)<s.Edges.length:=by omega
  have hc:decide (D.length+([(i:Int)]:LI_).length<=4294967296)=true:=Yu (by simp;omega)
  simp only[Pn,IZ,h1,decide_true,QY,QT,hx,Qd,Qv hi h.ok.2.1,PS hc]
  cases x.From==k<;>rfl
 intro D;simp[Pn]
end Go.Proofs
noncomputable section
namespace Go.Proofs
open Go Go.RowKit Go.Vm Go.Rk
def Qfw {α:Type}(p:α->Bool):∀(l:L_ α) k,(Ws p k l).length<=l.length:=by
 intro l
 induction l with
 | nil=>intro k;simp[Ws]
 | cons x l h=>
  intro k
  rw[Ws]
  have:=h (k+1)
  cases p x
  ·simp;omega
  simp;omega
def QdF (s:QD)(f:LI_)(a:Int)(_:Nat)(x:Int):Bool:=((s.Edges[x.toNat]?).map λe=>decide (0<=av f e.To)&&(av f e.To==av f a-1)).getD false
def nx (s:QD)(f:LI_)(a:Int):O_ QW:=(Ej (QdF s f a) 0 (Ws (λe:QW=>e.From==a) 0 s.Edges)).bind λi=>((Ws (λe:QW=>e.From==a) 0 s.Edges)[i]?).bind λx=>s.Edges[x.toNat]?
def GT (s:QD)(f:LI_):Nat->Int->L_ Qk
 | 0,_=>[]
 | d+1,a=>match nx s f a with
  | some e=>e.Mode::GT s f d e.To
  | none=>[]
section
variable {s:QD}{k:Int}{f:LI_}
def Qdl {a:Int}{i:Nat}{x:Int}(hx:(Ws (λe:QW=>e.From==a) 0 s.Edges)[i]? = some x):∃j e,x=((j:Nat):Int)/\s.Edges[j]? = some e/\e.From=a:=by
 obtain⟨j,e,h,D,h3⟩:=Px.1 (XE hx)
 exact⟨j,e,by rw[h3];simp,h,by simpa using D⟩
def Qdm {a:Int}{n j:Nat}{e:QW}(h:s.Edges[j]? = some e):QdF s f a n ((j:Nat):Int)=(decide (0<=av f e.To)&&(av f e.To==av f a-1)):=by
 unfold QdF
 rw[XP,h];rfl
def Qkg (hf:GF s.States.length (es s) [k] f){a:Int}(hp:0<av f a):∃n j e,Ej (QdF s f a) 0 (Ws (λe:QW=>e.From==a) 0 s.Edges)=some n/\(Ws (λe:QW=>e.From==a) 0 s.Edges)[n]? = some ((j:Nat):Int)/\
  s.Edges[j]? = some e/\nx s f a=some e/\0<=av f e.To/\av f e.To=av f a-1:=by
 cases hs:Ej (QdF s f a) 0 (Ws (λe:QW=>e.From==a) 0 s.Edges)with
 | none=>
  exfalso
  rcases hf.back a (by omega)with⟨h1,_⟩|⟨v,h1,D,h,h4⟩
  ·omega
  obtain⟨e,e1,e2,rfl⟩:=QaG.1 h1
  obtain⟨j,hj⟩:=Ey.1 e1
  have hm:((j:Nat):Int)∈Ws (λe:QW=>e.From==a) 0 s.Edges:=Px.2 ⟨j,e,hj,by simpa using e2,by simp⟩
  obtain⟨i,hi⟩:=Ey.1 hm
  have:=SF hs i _ hi
  rw[Qdm hj]at this
  have h5:(decide (0<=av f e.To)&&(av f e.To==av f a-1))=true:=by
   simp only[QJ,QI,beq_iff_eq];omega
  rw[h5]at this;cases this
 | some n=>
  obtain⟨i,x,h1,D,h⟩:=SE hs
  obtain rfl:n=i:=by omega
  obtain⟨j,e,rfl,h4,h5⟩:=Qdl D
  rw[Qdm h4]at h
  simp only[QJ,QI,beq_iff_eq]at h
  refine⟨n,j,e,rfl,D,h4,?_,h.1,h.2⟩
  unfold nx
  rw[hs,Qd,D,Qd,XP,h4]
def QjY (hf:GF s.States.length (es s) [k] f){a:Int}(hp:0<av f a){e:QW}(h:nx s f a=some e)(D:av f e.To=av f a-1):GT s f (av f a).toNat a=e.Mode::GT s f (av f e.To).toNat e.To:=by
 have:(av f a).toNat=(av f e.To).toNat+1:=by omega
 rw[this,GT,h]
def Qlf : ∀(d:Nat) (a:Int),(GT s f d a).length<=d:=by
 intro d
 induction d with
 | zero=>intro a;simp[GT]
 | succ d h=>
  intro a
  rw[GT]
  cases nx s f a with
  | none=>simp
  | some e=>simpa using h e.To
def Qlg (h:Cp s)(hk:YH s.States.length k)(hf:GF s.States.length (es s) [k] f):KU s k=some (GT s f (av f 0).toNat 0):=by
 obtain⟨m,m1,m2⟩:=QnG h hk hf
 have hst:=h.st;have hed:=h.ed
 have hle:∀j,av f j<=40:=λj=>by
  rcases hf.lt j with h | h
  ·omega
  unfold YH at hk;omega
 unfold KU
 rw[m1,Qd]
 by_cases h0:0<=av f 0
 ·have e0:Qs m 0=some (av f 0):=by rw[m2,if_pos h0]
  simp only[e0,Option.isSome_some,GV,Xh]
  have key:∃r,QE (λst:L_ Qk×Int=>Ol m s st.1 st.2) ([],0)=some r/\r=GT s f (av f 0).toNat 0:=by
   refine PZ (λst:L_ Qk×Int=>0<=av f st.2/\st.1++GT s f (av f st.2).toNat st.2=GT s f (av f 0).toNat 0/\(st.1.length:Int)+av f st.2=av f 0) (λst:L_ Qk×Int=>(av f st.2).toNat) _ ?_ ([],0) ⟨h0,by simp,by simp⟩
   rintro ⟨out,a⟩ ⟨ha,hl,hlen⟩
   simp only at ha hl hlen
   have ea:Qs m a=some (av f a):=by rw[m2,if_pos ha]
   unfold Ol
   simp only[ea,GH]
   by_cases hp:0<av f a
   ·left
    have hla:=hle a
    obtain⟨n,j,e,n1,n2,n3,n4,n5,n6⟩:=Qkg hf hp
    have D:KH (Ws (λe:QW=>e.From==a) 0 s.Edges) m s a=some (n:Int):=by
     have hll:=Qfw (λe:QW=>e.From==a) s.Edges 0
     unfold KH
     rw[Ze (l:=Ws (λe:QW=>e.From==a) 0 s.Edges) (s0:=0) (λi=>(i:Int)) (QdF s f a) (λi=>Sum.inl (i:Int)) (Sum.inr ()) ?_ ?_ rfl]
     ·rw[n1];rfl
     ·intro i x hi hx
      have h1:(i:Int)<(Ws (λe:QW=>e.From==a) 0 s.Edges).length:=by omega
      obtain⟨j,e,rfl,h3,h4⟩:=Qdl hx
      unfold WQ Po
      simp only[h1,decide_true,QY,QT,hx,h3,Qd,ea,GH,Yf (show -9223372036854775808<=av f a-1/\av f a-1<=9223372036854775807 by omega),Qv hi (show(Ws (λe:QW=>e.From==a) 0 s.Edges).length<=maxLen by unfold maxLen;omega)]
      rw[Qdm h3]
      have:((Qs m e.To).isSome&&((Qs m e.To).getD 0==av f a-1))=(decide (0<=av f e.To)&&(av f e.To==av f a-1)):=by
       rw[m2]
       by_cases c:0<=av f e.To
       ·simp[c]
       simp[c]
      rw[<-this]
      cases ((Qs m e.To).isSome&&((Qs m e.To).getD 0==av f a-1))<;>rfl
     simp[WQ]
    refine⟨(out++[e.Mode],e.To),?_,⟨n5,?_,by simp;omega⟩,by simp only;omega⟩
    ·have h0':=hle 0
     simp only[hp,decide_true,QY,QjD h,Qd,D,QT,n2,n3]
     rw[GE (by simp;omega)];rfl
    rw[<-hl,QjY hf hp n4 n6];simp
   right
   refine⟨out,by simp[hp],?_⟩
   rw[<-hl,show(av f a).toNat=0 by omega];simp[GT]
  obtain⟨r,r1,r2⟩:=key
  rw[r1,r2];rfl
 have e0:Qs m 0=none:=by rw[m2,if_neg h0]
 have:=hf.lo 0
 rw[show(av f 0).toNat=0 by omega]
 simp[e0,GT]
end
end Go.Proofs
noncomputable section
namespace Go.Rk
open Go Go.Vm
def least {p:Nat->Prop}:∀n,p n->∃m,p m/\∀j,j<m->¬p j:=by
 intro n
 induction n using Nat.strongRecOn with
 | _ n ih=>
  intro D
  by_cases c:∃j,j<n/\p j
  ·obtain⟨j,h,hp⟩:=c
   exact ih j h hp
  exact⟨n,D,λj h hp=>c ⟨j,h,hp⟩⟩
def Stp (N:Nat)(es:(L_ (Int×Int)))(gs:(L_ Int)):Nat->Int->Prop
 | 0,k=>YH N k/\k∈gs
 | n+1,k=>YH N k/\∃v,(k,v)∈es/\YH N v/\Stp N es gs n v
open Classical in
def Fd (N:Nat)(es:(L_ (Int×Int)))(gs:(L_ Int))(k:Int):Int:=if h:∃n,Stp N es gs n k then((Classical.choose (least (p:=λn=>Stp N es gs n k) (Classical.choose h) (Classical.choose_spec h)):Nat):Int)else -1
def Zk {N:Nat}{es:(L_ (Int×Int))}{gs:(L_ Int)}{k:Int}(h:0<=Fd N es gs k):Stp N es gs (Fd N es gs k).toNat k/\∀j,j<(Fd N es gs k).toNat->¬Stp N es gs j k:=by
 unfold Fd at h ⊢
 split at h
 ·rename_i D
  rw[dif_pos D,XP]
  exact Classical.choose_spec (least (p:=λn=>Stp N es gs n k) (Classical.choose D) (Classical.choose_spec D))
 omega
def QhH {N:Nat}{es:(L_ (Int×Int))}{gs:(L_ Int)}{k:Int}{n:Nat}(h:Stp N es gs n k):0<=Fd N es gs k/\Fd N es gs k<=n:=by
 have hc:∃n,Stp N es gs n k:=⟨n,h⟩
 have D:0<=Fd N es gs k:=by unfold Fd;rw[dif_pos hc];omega
 refine⟨D,?_⟩
 have:=(Zk D).2
 by_cases c:Fd N es gs k<=n
 ·exact c
 exact absurd h (this n (by omega))
def Qou {N:Nat}{es:(L_ (Int×Int))}{gs:(L_ Int)}(k:Int):-1<=Fd N es gs k:=by
 unfold Fd;split<;>omega
def Qpf (N:Nat)(es:(L_ (Int×Int)))(gs:(L_ Int)):∃f,GF N es gs f:=by
 have D:∀k,av ((List.range N).map λi:Nat=>Fd N es gs i) k=if YH N k then Fd N es gs k else -1:=λk=>by
  by_cases c:YH N k
  ·rw[if_pos c]
   have h:=Mp (out:=(List.range N).map λi:Nat=>Fd N es gs i) (k:=k) (by simpa using c)
   have hk:k.toNat<N:=by unfold YH at c;omega
   rw[XY,List.getElem?_range hk,JD]at h
   have:=Option.some.inj h
   rw[<-this]
   unfold YH at c
   rw[show((k.toNat:Nat):Int)=k by omega]
  rw[if_neg c]
  exact Vd (by simpa using c)
 refine⟨(List.range N).map λi:Nat=>Fd N es gs i,by simp,λk=>?_,λg hg hr=>?_,λu v he hu hv h0=>?_,λk hk=>?_⟩
 ·rw[D];split
  ·exact Qou k
  omega
 ·rw[D,if_pos hr]
  have:=QhH (show Stp N es gs 0 g from⟨hr,hg⟩)
  omega
 ·rw[D v,if_pos hv]at h0
  rw[D u,D v,if_pos hu,if_pos hv]
  have h1:=(Zk h0).1
  have:=QhH (show Stp N es gs ((Fd N es gs v).toNat+1) u from⟨hu,v,he,hv,h1⟩)
  omega
 have hr:YH N k:=by
  by_cases c:YH N k
  ·exact c
  rw[D,if_neg c]at hk;omega
 rw[D,if_pos hr]at hk ⊢
 obtain⟨h1,h2⟩:=Zk hk
 cases hn:(Fd N es gs k).toNat with
 | zero=>
  rw[hn]at h1
  exact .inl ⟨by omega,h1.2⟩
 | succ d=>
  rw[hn]at h1 h2
  obtain⟨_,v,he,hv,hs⟩:=h1
  have hd:=QhH hs
  refine .inr ⟨v,he,hv,by rw[D,if_pos hv];exact hd.1,?_⟩
  rw[D,if_pos hv]
  by_cases c:(Fd N es gs v).toNat<d
  ·exact absurd (show Stp N es gs ((Fd N es gs v).toNat+1) k from⟨hr,v,he,hv,(Zk hd.1).1⟩) (h2 _ (by omega))
  omega
end Go.Rk
noncomputable section
namespace Go.Proofs
open Go Go.RowKit Go.Vm Go.Rk
section
variable {n:Qf}{m:L_ Bag}{b tokens:Int}{s:QD}{k:Nat}{f:LI_}{z:L_ Bag}
def QnH (hS:SOk n m b tokens s)(hf:GF s.States.length (es s) [(k:Int)] f)(hz:s.States[k]? = some z):∀(d a:Nat) (x:L_ Bag),av f (a:Int)=(d:Int)->s.States[a]? = some x->OP n x (GT s f d (a:Int))=some z/\∀o∈GT s f d (a:Int),Wc n o:=by
 intro d
 induction d with
 | zero=>
  intro a x ha hx
  rcases hf.back (a:Int) (by omega)with⟨_,h1⟩|⟨v,_,_,h3,h4⟩
  ·have:a=k:=by simp at h1;omega
   subst this
   rw[hx]at hz;cases hz
   exact⟨rfl,λo ho=>by simp[GT]at ho⟩
  omega
 | succ d ih=>
  intro a x ha hx
  obtain⟨n',j,e,_,D,hj,hnx,h0,h1⟩:=Qkg hf (a:=(a:Int)) (by omega)
  obtain⟨j',e',hjj,h,hfr⟩:=Qdl D
  have:j=j':=by omega
  subst this
  rw[hj]at h;cases h
  obtain⟨i,j2,x',y,g1,g2,g3,g4,g5,g6⟩:=hS.edge e (XE hj)
  have:i=a:=by omega
  subst this
  rw[hx]at g3;cases g3
  rw[GT,hnx]
  simp only
  rw[g2]
  obtain⟨k1,k2⟩:=ih j2 y (by rw[<-g2];omega) g4
  refine⟨?_,λo ho=>?_⟩
  ·rw[OP,g5,Qd];exact k1
  rcases Yl.1 ho with rfl | ho
  ·exact g6
  exact k2 o ho
def QnI (hS:SOk n m b tokens s)(D:GF s.States.length (es s) [(k:Int)] f)(hk:k<s.States.length):0<=av f 0:=by
 have key:∀j:Nat,j<s.States.length->0<=av f (j:Int)->0<=av f 0:=by
  intro j
  induction j using Nat.strongRecOn with
  | _ j ih=>
   intro hj h
   by_cases c:j=0
   ·subst c;exact h
   obtain⟨e,he,i,g1,g2,g3⟩:=hS.tree j (by omega) hj
   have:=D.edge (i:Int) (j:Int) (QaG.2 ⟨e,he,g1,g3⟩) ⟨by omega,by omega⟩ ⟨by omega,by omega⟩ h
   exact ih i g2 (by omega) this.1
 have:=D.goal (k:Int) (by simp) ⟨by omega,by omega⟩
 exact key k hk (by omega)
def Qfx (h:Xn n)(hS:SOk n m b tokens s)(hb:b<=31)(hE:s.Edges.length<=130023424)(hz:s.States[k]? = some z):∃p,KU s (k:Int)=some p/\OP n m p=some z/\(∀o∈p,Wc n o)/\p.length<s.States.length:=by
 have hk:=(Xa.1 hz).1
 obtain⟨f,hf⟩:=Qpf s.States.length (es s) [(k:Int)]
 have hm:Xu b<=31:=by unfold Xu min2;split<;>omega
 have hpl:=h.pl
 have hl:=hS.len
 have D:Cp s:=⟨⟨by unfold maxLen;omega,by unfold maxLen;omega,λy hy=>by
  have hg:=hS.good y hy
  have:=hg.1.1
  exact⟨by unfold maxLen;omega,λb hb=>by have:=(hg.1.2 b hb).2;unfold maxLen;omega⟩⟩,by omega,hE⟩
 have h0:=QnI hS hf hk
 obtain⟨r,hr⟩:=hS.head
 obtain⟨c1,c2⟩:=QnH hS hf hz (av f 0).toNat 0 m (by show av f 0=_;omega) (by rw[hr];rfl)
 refine⟨_,Qlg D ⟨by omega,by omega⟩ hf,c1,c2,?_⟩
 have:=Qlf (s:=s) (f:=f) (av f 0).toNat 0
 rcases hf.lt 0 with h1 | h1
 ·omega
 omega
end
end Go.Proofs
namespace Go.Rk
section
variable {α:Type}(f:α->Int)
def kv (l:List α)(i:Nat):Int:=match l[i]? with | some x=>f x | none=>0
def GU (l:List α)(n:Nat):Prop:=∀i,0<i->i<n->kv f l ((i-1) / 2)<=kv f l i
variable {f:α->Int}
def Ew {l:List α}{i:Nat}{x:α}(h:l[i]? = some x):kv f l i=f x:=by unfold kv;rw[h]
def Mq {l:List α}{i j:Nat}{x y:α}(hi:l[i]? = some x)(h:l[j]? = some y)(k:Nat):
  kv f ((l.set i y).set j x) k=if k=j then kv f l i else if k=i then kv f l j else kv f l k:=by
 have D:=(List.getElem?_eq_some_iff.1 hi).1
 have h2:=(List.getElem?_eq_some_iff.1 h).1
 rw[Ew hi,Ew h]
 unfold kv
 rw[List.getElem?_set]
 by_cases a:k=j
 ·subst a;rw[if_pos rfl,if_pos (by simpa using h2),if_pos rfl]
 rw[if_neg (λe=>a e.symm),if_neg a,List.getElem?_set]
 by_cases b:k=i
 ·subst b;rw[if_pos rfl,if_pos D,if_pos rfl]
 rw[if_neg (λe=>b e.symm),if_neg b]
def Qfy {l:List α}{i j:Nat}{x y:α}(hi:l[i]? = some x)(hj:l[j]? = some y):((l.set i y).set j x).Perm l:=by
 obtain⟨h,rfl⟩:=List.getElem?_eq_some_iff.1 hi
 obtain⟨D,rfl⟩:=List.getElem?_eq_some_iff.1 hj
 exact List.set_set_perm h D
def Zl (f:α->Int)(l:List α)(n j:Nat):Prop:=(∀i,0<i->i<n->i≠j->kv f l ((i-1) / 2)<=kv f l i)/\∀c,0<c->c<n->(c-1) / 2=j->0<j->kv f l ((j-1) / 2)<=kv f l c
def Zl.step {l:List α}{n j:Nat}{x y:α}(h:Zl f l n j)(h0:0<j)(hi:l[(j-1) / 2]? = some x)(D:l[j]? = some y)(hlt:f y<f x)(hn:j<n):
  Zl f ((l.set ((j-1) / 2) y).set j x) n ((j-1) / 2):=by
 obtain⟨ha,hb⟩:=h
 rw[<-Ew (f:=f) hi,<-Ew (f:=f) D]at hlt
 refine⟨λi h1 h2 h3=>?_,λc h1 h2 h3 h4=>?_⟩
 ·rw[Mq hi D,Mq hi D]
  by_cases e:i=j
  ·subst e;rw[if_pos rfl,if_neg (by omega),if_pos rfl];omega
  rw[if_neg e,if_neg h3]
  have h5:=ha i h1 h2 e
  by_cases e1:(i-1) / 2=j
  ·rw[if_pos e1];exact hb i h1 h2 e1 h0
  rw[if_neg e1]
  by_cases e2:(i-1) / 2=(j-1) / 2
  ·rw[if_pos e2];rw[e2]at h5;omega
  rw[if_neg e2];exact h5
 rw[Mq hi D,Mq hi D]
 rw[if_neg (by omega),if_neg (by omega)]
 have h5:=ha ((j-1) / 2) h4 (by omega) (by omega)
 by_cases e:c=j
 ·rw[if_pos e];exact h5
 rw[if_neg e,if_neg (by omega)]
 have h6:=ha c h1 h2 e
 rw[h3]at h6;omega
def Zl.done {l:List α}{n j:Nat}(h:Zl f l n j)(hd:j=0\/kv f l ((j-1) / 2)<=kv f l j):GU f l n:=λi D hn=>by
 by_cases e:i=j
 ·subst e;rcases hd with h | h
  ·omega
  exact h
 exact h.1 i D hn e
def Zm (f:α->Int)(l:List α)(n i:Nat):Prop:=(∀k,0<k->k<n->(k-1) / 2≠i->kv f l ((k-1) / 2)<=kv f l k)/\∀c,0<c->c<n->(c-1) / 2=i->0<i->kv f l ((i-1) / 2)<=kv f l c
def Zm.step {l:List α}{n i j:Nat}{x y:α}(h:Zm f l n i)(h0:0<j)(D:(j-1) / 2=i)(hi:l[i]? = some x)(hj:l[j]? = some y)(hlt:f y<f x)(hn:j<n)
  (hmin:∀k,0<k->k<n->(k-1) / 2=i->kv f l j<=kv f l k):Zm f ((l.set i y).set j x) n j:=by
 obtain⟨ha,hb⟩:=h
 rw[<-Ew (f:=f) hi,<-Ew (f:=f) hj]at hlt
 refine⟨λk h1 h2 h3=>?_,λc h1 h2 h3 h4=>?_⟩
 ·rw[Mq hi hj,Mq hi hj]
  rw[if_neg h3]
  by_cases e1:(k-1) / 2=i
  ·rw[if_pos e1]
   by_cases e2:k=j
   ·rw[if_pos e2];omega
   rw[if_neg e2,if_neg (by omega)];exact hmin k h1 h2 e1
  rw[if_neg e1,if_neg (λe=>e1 (by subst e;exact D))]
  by_cases e2:k=i
  ·subst e2;rw[if_pos rfl];exact hb j h0 hn D h1
  rw[if_neg e2];exact ha k h1 h2 e1
 rw[Mq hi hj,Mq hi hj]
 rw[if_neg (by omega),if_pos D,if_neg (by omega),if_neg (by omega),<-h3]
 exact ha c h1 h2 (by omega)
def Zm.done {l:List α}{n i:Nat}(h:Zm f l n i)(hd:∀k,0<k->k<n->(k-1) / 2=i->kv f l i<=kv f l k):GU f l n:=λk D hn=>by
 by_cases e:(k-1) / 2=i
 ·rw[e];exact hd k D hn e
 exact h.1 k D hn e
def GU.least {l:List α}{n:Nat}(h:GU f l n):∀i,i<n->kv f l 0<=kv f l i:=by
 intro i
 induction i using Nat.strongRecOn with
 | _ i D=>
  intro hi
  by_cases e:i=0
  ·subst e;exact Int.le_refl _
  have h1:=h i (by omega) hi
  have h2:=D ((i-1) / 2) (by omega) (by omega)
  omega
def GU.append {l:List α}{x:α}(h:GU f l l.length):Zl f (l++[x]) (l.length+1) l.length:=by
 have e:∀k,k<l.length->kv f (l++[x]) k=kv f l k:=λk hk=>by unfold kv;rw[List.getElem?_append_left hk]
 refine⟨λi D h1 h2=>?_,λc D h1 h2 h3=>by omega⟩
 rw[e _ (by omega),e _ (by omega)]
 exact h i D (by omega)
def GU.swap {l:List α}{n:Nat}{x y:α}(h:GU f l (n+1))(hi:l[0]? = some x)(hj:l[n]? = some y):Zm f ((l.set 0 y).set n x) n 0:=by
 refine⟨λk D h1 h2=>?_,λc D h1 h2 h3=>by omega⟩
 rw[Mq hi hj,Mq hi hj,if_neg (by omega),if_neg (by omega),if_neg (by omega),if_neg (by omega)]
 exact h k D (by omega)
def GU.congr {l m:List α}{n:Nat}(h:GU f l n)(e:∀k,k<n->m[k]? = l[k]?):GU f m n:=λi h0 D=>by
 have:=h i h0 D
 unfold kv at *
 rw[e _ D,e _ (by omega)];exact this
end
end Go.Rk
noncomputable section
namespace Go.Proofs
open Go Go.RowKit Go.Vm Go.Rk
def QmD {l:L_ Rw}{k v:Int}(h:∀p∈l,p.1<k):XG KM l k v=l++[(k,v)]:=by
 have h1:Qs l k=none:=by
  induction l with
  | nil=>rfl
  | cons p l ih=>
   have h0:=h p XR
   show(if p.1=k then _ else _)=none
   rw[if_neg (by omega)]
   exact ih λq D=>h q (XZ _ D)
 unfold XG
 rw[h1]
 clear h1
 show UQ KM l k v=_
 induction l with
 | nil=>rfl
 | cons p l ih=>
  have h0:=h p XR
  show(if KM k p.1=true then _ else _)=_
  rw[if_neg (by unfold KM;simp;omega),ih λq D=>h q (XZ _ D)];rfl
def Qlh {b:L_ Rw}(hb:b.length<=maxLen):CE b=some (bif Qdi b then .inr b else .inl ()):=by
 unfold CE
 rw[Qiz hb,Qd]
 cases hr:Qdi b with
 | false=>rfl
 | true=>
  obtain⟨_,hp⟩:=QiA.1 hr
  have key:∃r,QE (λst:Int×L_ Rw=>Dq b st.1 st.2) (0,[])=some r/\r=b:=by
   refine Ci b.length (λi s=>s=((i:Int),b.take i)) (λr=>r=b) (λi s hi hs=>.inl ?_) (λs hs=>?_) (0,[]) rfl
   ·subst hs
    have h:(i:Int)<b.length:=by omega
    refine⟨(((i+1:Nat):Int),b.take (i+1)),?_,rfl⟩
    unfold Dq
    simp only[h,decide_true,QY,QT,Qx hi,Qd,Qv hi hb]
    rw[QmD]
    ·rw[Sn hi]
    intro p hp'
    obtain⟨j,hj⟩:=Ey.1 hp'
    obtain⟨D,rfl⟩:=Xa.1 hj
    rw[WJ]at D
    rw[List.getElem_take]
    exact(QfE.1 hp) j i (by omega) hi (by omega)
   subst hs
   refine⟨b,?_,rfl⟩
   unfold Dq
   simp
  obtain⟨r,h,h2⟩:=key
  simp only[GV,Xh,QY]
  rw[h,h2];rfl
def Qli (n:Int):L_ Rw->Int
 | []=>n
 | p::l=>Qli (Qi (n+p.2)) l
def PC (b:L_ Rw):Int:=bif Qdi b then Qli 0 b else 0
def QbQ {b:L_ Rw}(hb:b.length<=maxLen):Ua b=some (PC b):=by
 unfold Ua
 rw[Qlh hb,Qd,PC]
 cases Qdi b with
 | false=>rfl
 | true=>
  simp only[QY,Sum.elim_inr]
  unfold BL
  have D:∀(l:L_ Rw) n,Jv (λst (p:Rw)=>Kh st p.1 p.2) n l=some (.inl (Qli n l)):=by
   intro l
   induction l with
   | nil=>intro n;rfl
   | cons p l ih=>intro n;exact ih _
  have hswap:∀s (p q:Rw),Jv (λst (p:Rw)=>Kh st p.1 p.2) s [p,q]=Jv (λst (p:Rw)=>Kh st p.1 p.2) s [q,p]:=by
   intro s p q
   rw[D,D]
   simp only[Qli,QdB]
   congr 3;omega
  rw[CD.2 ⟨λl' h=>QlB hswap h 0,D b 0⟩]
  rfl
def QbA (n:Qf)(m:Mk):Bool:=decide (m.length=n.Places.length)&&(decide (0<=n.To)&&decide (n.To<m.length))&&!Qbr (λi b=>PC b != (bif (i:Int)==n.To then 1 else 0)) 0 m
def SJ {n:Qf}{m:Mk}(hm:okM m):WG n m=some (decide (0<=n.To)&&(decide (n.To<m.length)&&((m[n.To.toNat]?).map λb=>decide (0<PC b)).getD false)):=by
 unfold WG VR VS
 by_cases h:0<=n.To
 ·by_cases D:n.To<m.length
  ·have hb:m[n.To.toNat]? = some (m[n.To.toNat]'(by omega)):=Qx (by omega)
   have:=QbQ (hm.get hb)
   simp only[h,D,decide_true,QY,Gq h,hb,Qd,this,Bool.true_and,JD,GH]
  simp[h,D]
 simp[h]
def Cq {n:Qf}{m:Mk}(hm:okM m):DE n m=some (QbA n m):=by
 unfold DE VT
 rw[SJ hm,QbA]
 by_cases h0:m.length=n.Places.length
 ·have h:((m.length:Int) != (n.Places.length:Int))=false:=by rw[h0];simp
  have h0d:decide (m.length=n.Places.length)=true:=Yu h0
  simp only[h,h0d,decide_true,Xh,Qd,Bool.true_and]
  by_cases h1:0<=n.To
  ·by_cases h2:n.To<m.length
   ·have D:n.To<n.Places.length:=by rw[<-h0];exact h2
    have hb:m[n.To.toNat]? = some (m[n.To.toNat]'(by omega)):=Qx (by omega)
    have e:QE (λst=>Hp m n st) 0=some (bif Qbr (λi b=>PC b != (bif (i:Int)==n.To then 1 else 0)) 0 m then .inl ()else .inr ():Unit⊕Unit):=by
     refine Qm9 (l:=m) (λi=>(i:Int)) _ (Sum.inl ()) (Sum.inr ()) ?_ ?_ rfl
     ·intro i x hi hx
      have h3:(i:Int)<m.length:=by omega
      have:=QbQ (hm.get hx)
      unfold Hp Ho
      simp only[h3,decide_true,QY,QT,hx,Qd,this,Qv hi hm.1]
      cases (i:Int)==n.To with
      | true=>show(bif PC x != 1 then _ else _)=some (bif PC x != 1 then _ else _);cases PC x != 1<;>rfl
      | false=>show(bif PC x != 0 then _ else _)=some (bif PC x != 0 then _ else _);cases PC x != 0<;>rfl
     unfold Hp;simp
    simp only[h1,h2,D,decide_true,Bool.true_and,hb,JD,GH]
    unfold AC
    rw[e]
    by_cases h4:0<PC (m[n.To.toNat]'(by omega))
    ·simp only[h4,decide_true,GV,Xh]
     cases Qbr _ 0 m<;>rfl
    simp only[h4,decide_false,Si,QY]
    congr 1
    symm
    rw[Bi,Qm8]
    refine⟨n.To.toNat,_,hb,?_⟩
    have:(((0+n.To.toNat:Nat):Int)==n.To)=true:=by simp;omega
    rw[this]
    simp;omega
   have D:¬n.To<n.Places.length:=by rw[<-h0];exact h2
   simp[h1,h2,D,AC]
  simp[h1,AC]
 have h:((m.length:Int) != (n.Places.length:Int))=true:=by simp;omega
 simp[h,h0,AC]
def Ve (n:Qf)(s:QD):LI_:=Ws (QbA n) 0 s.States
def Qlj {n:Qf}{s:QD}(h:Cp s):On n s=some (Ve n s):=by
 unfold On
 rw[TT (l:=s.States) (QbA n)]
 ·rfl
 ·intro i D x ha hi hx
  have h1:(i:Int)<s.States.length:=by omega
  have hst:=h.st
  have hc:decide (D.length+([(i:Int)]:LI_).length<=4294967296)=true:=Yu (by simp;omega)
  simp only[Om,Hr,h1,decide_true,QY,QT,hx,Qd,Qv hi h.ok.1,Cq (h.get hx),PS hc]
  cases QbA n x<;>rfl
 intro D;simp[Om]
end Go.Proofs
noncomputable section
namespace Go.Proofs
open Go Go.RowKit Go.Vm Go.Rk
abbrev Sp := QA
def fk (x:Sp):Int:=x.far
def Zn {l:L_ Sp}{i k:Nat}{x y:Sp}(hx:l[i]? = some x)(h:l[k]? = some y):DM l (i:Int) (k:Int)=some ((l.set i y).set k x):=by
 have D:=(Xa.1 h).1
 unfold DM
 simp only[QT,hx,h,Qd,XP]
 rw[Qx (by simpa using D)];rfl
def Zo {l:L_ Sp}{i k:Nat}{x y:Sp}(h:l[i]? = some x)(D:l[k]? = some y):DL l (i:Int) (k:Int)=some (decide (fk x<fk y)):=by
 unfold DL
 simp only[QT,h,D,Qd];rfl
def Qov {n:Nat}(hn:n<=1000000000):∀(j:Nat) (l:L_ Sp),l.length=n->j<n->Zl fk l n j->∃l',UE l (j:Int)=some l'/\l'.Perm l/\GU fk l' n:=by
 intro j l hl hj D
 unfold UE
 have key:∃r,QE (λst:Int×L_ Sp=>GB st.1 st.2) ((j:Int),l)=some r/\(r.Perm l/\GU fk r n):=by
  refine PZ (λs:Int×L_ Sp=>∃j:Nat,s.1=(j:Int)/\s.2.length=n/\j<n/\Zl fk s.2 n j/\s.2.Perm l) (λs:Int×L_ Sp=>s.1.toNat) (λr=>r.Perm l/\GU fk r n) ?_ ((j:Int),l) ⟨j,rfl,hl,hj,D,List.Perm.refl _⟩
  rintro ⟨j0,l⟩ ⟨j,rfl,hl,hj,D,hp⟩
  simp only at hl hj D hp ⊢
  unfold GB Me
  by_cases h0:j=0
  ·subst h0
   right
   refine⟨l,?_,hp,D.done (.inl rfl)⟩
   rw[show(Qi (Int.tdiv (Qi (((0:Nat):Int)-1)) 2)==((0:Nat):Int))=true by rw[Yf (n:=((0:Nat):Int)-1) (by omega),Yf (by decide)];rfl]
   rfl
  have e1:Qi ((j:Int)-1)=((j-1:Nat):Int):=by rw[Yf (by omega)];omega
  have e2:Qi (Int.tdiv ((j-1:Nat):Int) 2)=(((j-1) / 2:Nat):Int):=by
   rw[show Int.tdiv ((j-1:Nat):Int) 2=(((j-1) / 2:Nat):Int)from rfl,Yf (by omega)]
  have hx:l[(j-1) / 2]? = some (l[(j-1) / 2]'(by omega)):=Qx (by omega)
  have hy:l[j]? = some (l[j]'(by omega)):=Qx (by omega)
  have e3:((((j-1) / 2:Nat):Int)==(j:Int))=false:=by simp;omega
  simp only[e1,e2,e3,Xh,Zo hy hx,Qd]
  unfold GA
  by_cases h:fk (l[j]'(by omega))<fk (l[(j-1) / 2]'(by omega))
  ·left
   refine⟨((((j-1) / 2:Nat):Int),(l.set ((j-1) / 2) (l[j]'(by omega))).set j (l[(j-1) / 2]'(by omega))),?_,⟨(j-1) / 2,rfl,by simpa using hl,by omega,D.step (by omega) hx hy h hj,(Qfy hx hy).trans hp⟩,by simp;omega⟩
   simp only[h,decide_true,GV,Xh,e1,e2,Zn hx hy,Qd]
   rw[GE (by simp)];rfl
  right
  refine⟨l,?_,hp,D.done (.inr ?_)⟩
  ·simp only[h,decide_false,Si,QY]
  rw[Ew hx,Ew hy];omega
 obtain⟨r,h1,h2⟩:=key
 exact⟨r,by rw[h1];rfl,h2⟩
def Qh2 {l:L_ Sp}(x:Sp)(h:GU fk l l.length)(hn:l.length<1000000000):∃D,WZ l x=some D/\D.Perm (x::l)/\GU fk D D.length:=by
 obtain⟨D,h1,h2,h3⟩:=Qov (n:=l.length+1) (by omega) l.length (l++[x]) (by simp) (by omega) h.append
 refine⟨D,?_,h2.trans (List.perm_append_singleton _ _),by rw[h2.length_eq];simpa using h3⟩
 unfold WZ LJ Up
 have e:Qi ((((l++[x]).length:Nat):Int)-1)=(l.length:Int):=by rw[Yf (by simp;omega)];simp
 rw[GE (by simp;omega)]
 simp only[Qd,e,h1]
def QmE {n:Nat}(hn:n<=1000000000)(l:L_ Sp)(hl:l.length=n+1)(hu:Zm fk l n 0):∃b l',Da l 0 (n:Int)=some (b,l')/\l'.Perm l/\GU fk l' n/\l'[n]? = l[n]? := by
 unfold Da
 have key:∃r,QE (λst:Int×L_ Sp=>Ur (n:Int) st.1 st.2) (0,l)=some r/\(r.2.Perm l/\GU fk r.2 n/\r.2[n]? = l[n]?):=by
  refine PZ (λs:Int×L_ Sp=>∃i:Nat,s.1=(i:Int)/\s.2.length=n+1/\i<=n/\Zm fk s.2 n i/\s.2.Perm l/\s.2[n]? = l[n]?) (λs:Int×L_ Sp=>n-s.1.toNat) (λr:Int×L_ Sp=>r.2.Perm l/\GU fk r.2 n/\r.2[n]? = l[n]?) ?_ (0,l) ⟨0,rfl,hl,by omega,hu,List.Perm.refl _,rfl⟩
  rintro ⟨j0,s⟩ ⟨i,rfl,hl,hi,hu,hp,hq⟩
  simp only at hl hi hu hp hq ⊢
  unfold Ur
  have e1:Qi (Qi (2*(i:Int))+1)=((2*i+1:Nat):Int):=by rw[Yf (n:=2*(i:Int)) (by omega),Yf (by omega)];omega
  have e2:Qi (((2*i+1:Nat):Int)+1)=((2*i+2:Nat):Int):=by rw[Yf (by omega)];omega
  have e4:decide (((2*i+1:Nat):Int)<0)=false:=JM (by omega)
  rw[e1,e4,Bool.or_false]
  by_cases h0:(n:Int)<=((2*i+1:Nat):Int)
  ·right
   refine⟨((i:Int),s),by rw[Yu h0];rfl,hp,hu.done λk h1 h2 h3=>by omega,hq⟩
  rw[JM h0,Xh]
  have hg:∃j:Nat,0<j/\(j-1) / 2=i/\j<n/\(∀k,0<k->k<n->(k-1) / 2=i->kv fk s j<=kv fk s k)/\
    (Uq (i:Int) (n:Int) s).bind (λx21=>KW s (i:Int) x21)=KV s (i:Int) (j:Int):=by
   have h:s[2*i+1]? = some (s[2*i+1]'(by omega)):=Qx (by omega)
   unfold Uq
   rw[e1,e2]
   by_cases h2:((2*i+2:Nat):Int)<n
   ·have D:s[2*i+2]? = some (s[2*i+2]'(by omega)):=Qx (by omega)
    by_cases h3:fk (s[2*i+2]'(by omega))<fk (s[2*i+1]'(by omega))
    ·refine⟨2*i+2,by omega,by omega,by omega,λk k1 k2 k3=>?_,?_⟩
     ·have:k=2*i+1\/k=2*i+2:=by omega
      rcases this with rfl | rfl
      ·rw[Ew h,Ew D];omega
      omega
     simp only[h2,decide_true,QY,Zo D h,h3,Qd,KW,e1,e2]
    refine⟨2*i+1,by omega,by omega,by omega,λk k1 k2 k3=>?_,?_⟩
    ·have:k=2*i+1\/k=2*i+2:=by omega
     rcases this with rfl | rfl
     ·omega
     rw[Ew h,Ew D];omega
    simp only[h2,decide_true,QY,Zo D h,h3,decide_false,Xh,Qd,KW,e1,e2]
   refine⟨2*i+1,by omega,by omega,by omega,λk k1 k2 k3=>?_,?_⟩
   ·have:k=2*i+1:=by omega
    subst this;omega
   simp only[h2,decide_false,Xh,Qd,KW,e1]
  obtain⟨j,j1,j2,j3,j4,he⟩:=hg
  rw[he]
  have h:s[i]? = some (s[i]'(by omega)):=Qx (by omega)
  have D:s[j]? = some (s[j]'(by omega)):=Qx (by omega)
  unfold KV
  rw[Zo D h,Qd]
  by_cases hlt:fk (s[j]'(by omega))<fk (s[i]'(by omega))
  ·left
   refine⟨((j:Int),(s.set i (s[j]'(by omega))).set j (s[i]'(by omega))),?_,⟨j,rfl,by simpa using hl,by omega,hu.step j1 j2 h D hlt j3 j4,(Qfy h D).trans hp,?_⟩,by simp;omega⟩
   ·simp only[hlt,decide_true,GV,Xh,Zn h D,Qd]
    rw[GE (by simp)];rfl
   rw[Ix (by omega),Ix (by omega)];exact hq
  right
  refine⟨((i:Int),s),by simp only[hlt,decide_false,Si,QY],hp,hu.done λk k1 k2 k3=>?_,hq⟩
  have:=j4 k k1 k2 k3
  rw[Ew D]at this
  rw[Ew h];omega
 obtain⟨r,h1,h2⟩:=key
 exact⟨_,r.2,by rw[h1];rfl,h2⟩
def QnJ {l:L_ Sp}(h:GU fk l l.length)(h0:l≠[])(hn:l.length<1000000000):∃x D,EN l=some (x,D)/\l.Perm (x::D)/\GU fk D D.length/\∀y∈D,fk x<=fk y:=by
 obtain⟨n,hl⟩:∃n,l.length=n+1:=⟨l.length-1,by have:=List.length_pos_iff.2 h0;omega⟩
 have hx:l[0]? = some (l[0]'(by omega)):=Qx (by omega)
 have hy:l[n]? = some (l[n]'(by omega)):=Qx (by omega)
 rw[hl]at h
 have hsl:((l.set 0 (l[n]'(by omega))).set n (l[0]'(by omega))).length=n+1:=by simpa using hl
 obtain⟨b,D,h1,h2,h3,h4⟩:=QmE (n:=n) (by omega) _ hsl (h.swap hx hy)
 rw[PG (by simp;omega)]at h4
 have hl':D.length=n+1:=by rw[h2.length_eq,hsl]
 have e:Qi ((l.length:Int)-1)=(n:Int):=by rw[Yf (by omega)];omega
 have e':Qi ((D.length:Int)-1)=(n:Int):=by rw[Yf (by omega)];omega
 have hsp:D=D.take n++[l[0]'(by omega)]:=by
  have:=List.take_append_drop n D
  rw[Mr (by omega),List.drop_eq_nil_of_le (by omega)]at this
  obtain⟨_,h5⟩:=Xa.1 h4
  rw[h5]at this;exact this.symm
 have hp:l.Perm ((l[0]'(by omega))::D.take n):=by
  refine((Qfy hx hy).symm.trans h2.symm).trans ?_
  have:(D.take n++[l[0]'(by omega)]).Perm ((l[0]'(by omega))::D.take n):=List.perm_append_singleton _ _
  rwa[<-hsp]at this
 refine⟨l[0]'(by omega),D.take n,?_,hp,?_,λy hy'=>?_⟩
 ·unfold EN Up Nn
  have:=Zn hx hy
  simp only[Int.natCast_zero]at this
  simp only[Qd,e,show(0:Int)=((0:Nat):Int)from rfl,Zn hx hy]
  rw[GE (by simp)]
  simp only[Qd]
  rw[show Da ((l.set 0 (l[n]'(by omega))).set n (l[0]'(by omega))) ((0:Nat):Int) (n:Int)=some (b,D)from h1]
  simp only[Qd,e',QT,h4]
  rw[PS (by simp[hl'])]
  simp
 ·rw[WJ,Fe (by omega)]
  exact h3.congr λk hk=>List.getElem?_take_of_lt hk
 have hm:y∈l:=hp.symm.subset (XZ _ hy')
 obtain⟨i,hi⟩:=Ey.1 hm
 have:=h.least i (by have:=(Xa.1 hi).1;omega)
 rw[Ew hi,Ew hx]at this
 exact this
end Go.Proofs
noncomputable section
namespace Go.Proofs
open Go Go.RowKit Go.Vm Go.Rk
def Qkh {s:QD}{k:Int}:Cx s k=some (decide (YH s.States.length k)):=by
 unfold Cx
 refine congrArg some ?_
 rw[QaI,decide_eq_true_iff,QJ,decide_eq_true_iff,decide_eq_true_iff];exact Iff.rfl
def QeC {s:QD}{e:QW}:Fs s e=some (cnt s e):=by
 unfold Fs Tu Tv Cx cnt
 cases (decide (0<=e.From)&&decide (e.From<(s.States.length:Int)))<;>rfl
def QmF {s:QD}(h:Cp s):∃m,QE (λst:Int×L_ (Int×LI_)=>My s st.1 st.2) (0,[])=some m/\∀k,(Qs m k).getD []=YW (s.Edges.filter (cnt s)) k:=by
 have hed:=h.ed
 refine Ci s.Edges.length (λi st=>st.1=(i:Int)/\∀k,(Qs st.2 k).getD []=YW ((s.Edges.take i).filter (cnt s)) k) _ (λi st hi hs=>?_) (λst hs=>?_) (0,[]) ⟨rfl,λk=>by simp[YW,Qs]⟩
 ·obtain⟨j,m⟩:=st
  obtain⟨hj,D⟩:=hs
  simp only at hj D
  subst hj
  left
  have h1:(i:Int)<s.Edges.length:=by omega
  have ht:s.Edges.take (i+1)=s.Edges.take i++[s.Edges[i]]:=Sn hi
  unfold My Mx
  simp only[h1,decide_true,QY,QT,Qx hi,Qd,QeC,Qv hi h.ok.2.1]
  cases hc:cnt s s.Edges[i]with
  | false=>
   refine⟨_,rfl,rfl,λk=>?_⟩
   rw[ht,NF,Am,hc]
   simpa using D k
  | true=>
   have hlen:(YW ((s.Edges.take i).filter (cnt s)) s.Edges[i].To).length<=130023424:=by
    unfold YW
    rw[Gs]
    refine Ym (IA _ _) (Ym (IA _ _) ?_)
    rw[WJ];omega
   simp only[QY,D]
   rw[GE (show(YW ((s.Edges.take i).filter (cnt s)) s.Edges[i].To).length+([s.Edges[i].From]:LI_).length<=4294967296 by simp only[CA];omega)]
   refine⟨_,rfl,rfl,λk=>?_⟩
   simp only[Wa]
   have e:YW ((s.Edges.take (i+1)).filter (cnt s)) k=YW ((s.Edges.take i).filter (cnt s)) k++(if s.Edges[i].To=k then [s.Edges[i].From]else []):=by
    rw[ht,NF,Am,hc]
    unfold YW
    by_cases c:s.Edges[i].To=k<;>simp[c]
   rw[e]
   by_cases c:k=s.Edges[i].To
   ·subst c;simp
   rw[if_neg c,if_neg (λe=>c e.symm),D k];simp
 obtain⟨j,m⟩:=st
 obtain⟨hj,D⟩:=hs
 simp only at hj D
 subst hj
 refine⟨m,by simp[My],λk=>?_⟩
 rw[D k,Hc]
def QmG {s:QD}(h:Cp s):QE (λst:Int×LI_=>Ft s st.1 st.2) (0,List.replicate (s.States.length:Int).toNat 0)=some (List.replicate s.States.length (-1)):=by
 have key:∃r,QE (λst:Int×LI_=>Ft s st.1 st.2) (0,List.replicate (s.States.length:Int).toNat 0)=some r/\r=List.replicate s.States.length (-1):=by
  refine Ci s.States.length (λi st=>st=((i:Int),List.replicate i (-1)++List.replicate (s.States.length-i) 0)) _ (λi st hi hs=>?_) (λst hs=>?_) _ (by simp)
  ·subst hs
   left
   have D:(i:Int)<((List.replicate (s.States.length:Int).toNat (0:Int)).length:Int):=by simp;omega
   have e:s.States.length-i=(s.States.length-(i+1))+1:=by omega
   have hx:(List.replicate i (-1:Int)++List.replicate (s.States.length-i) (0:Int))[i]? = some 0:=by
    rw[Wg (by simp),e];simp
   refine⟨(((i+1:Nat):Int),List.replicate (i+1) (-1)++List.replicate (s.States.length-(i+1)) 0),?_,rfl⟩
   unfold Ft
   simp only[D,decide_true,QY,QT,hx,Qd,Qv hi h.ok.1]
   rw[show((i:Int)).toNat=i from rfl,List.set_append_right _ _ (by simp),e]
   simp[List.replicate_succ' (n:=i),List.replicate_succ]
  subst hs
  refine⟨_,?_,rfl⟩
  unfold Ft
  simp
 obtain⟨r,D,h2⟩:=key
 rw[D,h2]
structure QjE (s:QD) (gs:List Int) (M:Nat) (out:List Int) (w:List Sp):Prop where
 len:out.length=s.States.length
 lo:∀k,-1<=av out k
 hp:GU fk w w.length
 goal:∀g,g∈gs->YH s.States.length g->av out g=0\/QA.mk g 0∈w
 edge:∀u v,(u,v)∈es s->YH s.States.length u->YH s.States.length v->0<=av out v->(0<=av out u/\av out u<=av out v+1)\/QA.mk u (av out v+1)∈w
 back:∀k,0<=av out k->(av out k=0/\k∈gs)\/∃v,(k,v)∈es s/\YH s.States.length v/\0<=av out v/\av out k=av out v+1
 wt:∀x,x∈w->YH s.States.length x.state/\((x.far=0/\x.state∈gs)\/∃v,(x.state,v)∈es s/\YH s.States.length v/\0<=av out v/\x.far=av out v+1)
 ord:∀k x,x∈w->av out k<=x.far
 bnd:∀x,x∈w->x.far+((w.length+((s.Edges.filter (cnt s)).countP λe=>decide (av out e.To<0)):Nat):Int)<=M
 sz:w.length+((s.Edges.filter (cnt s)).countP λe=>decide (av out e.To<0))<=M
def Qlk {m:L_ (Int×LI_)}{x:Sp}{w0:L_ Sp}(r:L_ Sp)(fr:LI_)(hm:(Qs m x.state).getD []=fr)(hw:GU fk r r.length)(hb:r.length+fr.length<1000000000)(hx:0<=x.far/\x.far<=1000000000):
  ∃l,QE (λst:Int×L_ Sp=>MB m (x,w0) st.1 st.2) (0,r)=some l/\GU fk l l.length/\l.length=r.length+fr.length/\∀y,y∈l↔y∈r\/∃u∈fr,y=QA.mk u (x.far+1):=by
 refine Ci fr.length (λi st=>st.1=(i:Int)/\GU fk st.2 st.2.length/\st.2.length=r.length+i/\∀y,y∈st.2↔y∈r\/∃u∈fr.take i,y=QA.mk u (x.far+1)) _ (λi st hi hs=>?_) (λst hs=>?_) (0,r) ⟨rfl,hw,rfl,by simp⟩
 ·obtain⟨j,l⟩:=st
  obtain⟨hj,D,h2,h3⟩:=hs
  simp only at hj D h2 h3
  subst hj
  left
  have hi':(i:Int)<fr.length:=by omega
  obtain⟨l',p1,p2,p3⟩:=Qh2 (QA.mk fr[i] (x.far+1)) D (by omega)
  unfold MB
  simp only[hm,hi',decide_true,QY,QT,Qx hi,Qd,Yf (show -9223372036854775808<=x.far+1/\x.far+1<=9223372036854775807 by omega),p1,Qv hi (show fr.length<=maxLen by unfold maxLen;omega)]
  refine⟨_,rfl,rfl,p3,by rw[p2.length_eq];simp;omega,λy=>?_⟩
  rw[p2.mem_iff,Yl,h3,Sn hi]
  simp only[YI,Ao]
  constructor
  ·rintro (h | h | ⟨u,hu,h⟩)
   ·exact .inr ⟨_,.inr rfl,h⟩
   ·exact .inl h
   exact .inr ⟨u,.inl hu,h⟩
  rintro (h | ⟨u,hu | hu,h⟩)
  ·exact .inr (.inl h)
  ·exact .inr (.inr ⟨u,hu,h⟩)
  subst hu;exact .inl h
 obtain⟨j,l⟩:=st
 obtain⟨hj,D,h2,h3⟩:=hs
 simp only at hj D h2 h3
 subst hj
 refine⟨l,?_,D,h2,λy=>by rw[h3,Hc]⟩
 unfold MB
 simp[hm]
def QjE.round {s:QD}{gs:LI_}{M:Nat}{m:L_ (Int×LI_)}(hM:M<=200000000)(hm:∀k,(Qs m k).getD []=YW (s.Edges.filter (cnt s)) k){out:LI_}{w:L_ Sp}(I:QjE s gs M out w)(hw:w≠[]):
  ∃out' w',MC m out w=some (.inl (out',w'))/\QjE s gs M out' w'/\w'.length+((s.Edges.filter (cnt s)).countP λe=>decide (av out' e.To<0))<w.length+((s.Edges.filter (cnt s)).countP λe=>decide (av out e.To<0)):=by
 have hsz:=I.sz
 have hpos:=List.length_pos_iff.2 hw
 obtain⟨x,r,p1,p2,p3,p4⟩:=QnJ I.hp hw (by omega)
 have hxm:x∈w:=p2.symm.subset XR
 have hrm:∀y∈r,y∈w:=λy hy=>p2.symm.subset (XZ _ hy)
 have hmem:∀y,y∈w->y=x\/y∈r:=λy hy=>Yl.1 (p2.subset hy)
 have hlen:w.length=r.length+1:=by rw[p2.length_eq];rfl
 obtain⟨hxr,hxw⟩:=I.wt x hxm
 have hxr':YH out.length x.state:=by rw[I.len];exact hxr
 have hx0:0<=x.far:=by
  rcases hxw with⟨h,_⟩|⟨v,_,_,h1,h2⟩<;>omega
 have hxb:=I.bnd x hxm
 have hgo:=Mp hxr'
 unfold MC FU
 have hwl:(0:Int)<w.length:=by omega
 simp only[Qd,hwl,decide_true,QY,p1,Gq hxr.1,hgo]
 by_cases hs:0<=av out x.state
 ·
  refine⟨out,r,by simp[hs],?_,by omega⟩
  have hle:=I.ord x.state x hxm
  refine { len:=I.len,lo:=I.lo,hp:=p3,goal:=λg hg hr=>?_,edge:=λu v h1 h2 h3 h4=>?_,back:=I.back,wt:=λy hy=>I.wt y (hrm y hy),ord:=λk y hy=>I.ord k y (hrm y hy),bnd:=λy hy=>by have:=I.bnd y (hrm y hy);omega,sz:=by omega }
  ·rcases I.goal g hg hr with h | h
   ·exact .inl h
   rcases hmem _ h with h | h
   ·subst h;left;simp only at hs hle;omega
   exact .inr h
  rcases I.edge u v h1 h2 h3 h4 with h | h
  ·exact .inl h
  rcases hmem _ h with h | h
  ·subst h;left;simp only at hs hle;exact⟨hs,hle⟩
  exact .inr h
 
 have hold:av out x.state=-1:=by have:=I.lo x.state;omega
 have D:∀k,av (out.set x.state.toNat x.far) k=if k=x.state then x.far else av out k:=QmB x.far hxr'
 have hne:∀k,0<=av out k->k≠x.state:=λk hk e=>by subst e;omega
 have hcount:(s.Edges.filter (cnt s)).countP (λe=>decide (av out e.To<0))=(s.Edges.filter (cnt s)).countP (λe=>decide (av (out.set x.state.toNat x.far) e.To<0))+(YW (s.Edges.filter (cnt s)) x.state).length:=by
  unfold YW
  rw[Gs,<-List.countP_eq_length_filter]
  refine Qdj λe he=>?_
  rw[D]
  by_cases c:e.To=x.state
  ·left;refine⟨by rw[c];simp;omega,.inr ⟨by rw[if_pos c];simp;omega,by simp[c]⟩⟩
  rw[if_neg c]
  by_cases c2:av out e.To<0
  ·left;exact⟨by simp[c2],.inl ⟨by simp[c2],by simp[c]⟩⟩
  right;exact⟨by simp[c2],by simp[c2],by simp[c]⟩
 obtain⟨l,q1,q2,q3,q4⟩:=Qlk (m:=m) (x:=x) (w0:=r) r _ (hm x.state) p3 (by omega) ⟨hx0,by omega⟩
 refine⟨out.set x.state.toNat x.far,l,by simp only[hs,decide_false,Xh];rw[q1];rfl,?_,by omega⟩
 have hadd:∀u,u∈YW (s.Edges.filter (cnt s)) x.state->QA.mk u (x.far+1)∈l:=λu hu=>(q4 _).2 (.inr ⟨u,hu,rfl⟩)
 have hkeep:∀y,y∈r->y∈l:=λy hy=>(q4 _).2 (.inl hy)
 have hall:∀k,av (out.set x.state.toNat x.far) k<=x.far:=λk=>by
  rw[D];split
  ·exact Int.le_refl _
  exact I.ord k x hxm
 refine { len:=by simpa using I.len,lo:=λk=>?_,hp:=q2,goal:=λg hg hr=>?_,edge:=λu v h1 h2 h3 h4=>?_,back:=λk hk=>?_,wt:=λy hy=>?_,ord:=λk y hy=>?_,bnd:=λy hy=>?_,sz:=by omega }
 ·rw[D];split
  ·omega
  exact I.lo k
 ·rw[D]
  by_cases c:g=x.state
  ·rw[if_pos c]
   rcases I.goal g hg hr with h | h
   ·rw[c]at h;omega
   have h5:=I.ord x.state _ h
   rcases hmem _ h with h | h
   ·rw[<-h];exact .inl rfl
   have:=p4 _ h
   simp only[fk]at this
   left;omega
  rw[if_neg c]
  rcases I.goal g hg hr with h | h
  ·exact .inl h
  rcases hmem _ h with h | h
  ·rw[<-h]at c;exact absurd rfl c
  exact .inr (hkeep _ h)
 ·rw[D,D]
  rw[D]at h4
  by_cases cv:v=x.state
  ·rw[if_pos cv]
   right
   exact hadd u (Zj.2 ⟨cv▸h1,h2,hxr⟩)
  rw[if_neg cv]at h4 ⊢
  rcases I.edge u v h1 h2 h3 h4 with⟨h5,h6⟩|h
  ·rw[if_neg (hne u h5)];exact .inl ⟨h5,h6⟩
  rcases hmem _ h with h | h
  ·left
   have e1:x.state=u:=by rw[<-h]
   have e2:x.far=av out v+1:=by rw[<-h]
   rw[if_pos e1.symm];omega
  exact .inr (hkeep _ h)
 ·rw[D]at hk ⊢
  by_cases c:k=x.state
  ·rw[if_pos c]
   subst c
   rcases hxw with⟨h1,h2⟩|⟨v,h1,h2,h3,h4⟩
   ·exact .inl ⟨h1,h2⟩
   exact .inr ⟨v,h1,h2,by rw[D,if_neg (hne v h3)];exact⟨h3,h4⟩⟩
  rw[if_neg c]at hk ⊢
  rcases I.back k hk with h | ⟨v,h1,h2,h3,h4⟩
  ·exact .inl h
  exact .inr ⟨v,h1,h2,by rw[D,if_neg (hne v h3)];exact⟨h3,h4⟩⟩
 ·rcases(q4 y).1 hy with h | ⟨u,hu,rfl⟩
  ·obtain⟨h1,h2⟩:=I.wt y (hrm y h)
   refine⟨h1,?_⟩
   rcases h2 with h | ⟨v,h1,h2,h3,h4⟩
   ·exact .inl h
   exact .inr ⟨v,h1,h2,by rw[D,if_neg (hne v h3)];exact⟨h3,h4⟩⟩
  obtain⟨h1,h2,h3⟩:=Zj.1 hu
  exact⟨h2,.inr ⟨x.state,h1,h3,by rw[D,if_pos rfl];exact⟨hx0,rfl⟩⟩⟩
 ·have:=hall k
  rcases(q4 y).1 hy with h | ⟨u,hu,rfl⟩
  ·have:=p4 y h;unfold fk at this;omega
  simp only;omega
 rcases(q4 y).1 hy with h | ⟨u,hu,rfl⟩
 ·have:=I.bnd y (hrm y h);omega
 simp only;omega
def QnK {s:QD}{gs:LI_}(h:Cp s)(hg:gs.length<=1000):∃out,Oq s gs=some out/\GF s.States.length (es s) gs out:=by
 obtain⟨m,m1,m2⟩:=QmF h
 have hed:=h.ed
 unfold Oq
 rw[m1]
 simp only[Qd]
 unfold Qak
 rw[PS (by have:=h.st;simp;omega)]
 simp only[Qd]
 rw[QmG h]
 simp only[Qd]
 unfold Qaj
 have hav:∀k,av (List.replicate s.States.length (-1)) k=-1:=λk=>by
  by_cases hr:YH (List.replicate s.States.length (-1:Int)).length k
  ·have D:=Mp hr
   rw[List.getElem?_replicate]at D
   split at D
   ·exact(Option.some.inj D).symm
   cases D
  exact Vd hr
 have hcp:∀l:L_ QW,l.countP (λe=>decide (av (List.replicate s.States.length (-1)) e.To<0))=l.length:=λl=>by
  rw[List.countP_eq_length];intro e _;rw[hav];rfl
 have hce:(s.Edges.filter (cnt s)).length<=s.Edges.length:=IA _ _
 have k1:∃w,QE (λst:Int×L_ Sp=>MA gs s st.1 st.2) (0,[])=some w/\QjE s gs 130024424 (List.replicate s.States.length (-1)) w:=by
  refine Ci gs.length (λi st=>st.1=(i:Int)/\GU fk st.2 st.2.length/\st.2.length<=i/\∀y,y∈st.2↔∃g∈gs.take i,YH s.States.length g/\y=QA.mk g 0) _ (λi st hi hs=>?_) (λst hs=>?_) (0,[]) ⟨rfl,λi _ h=>by simp at h,Jp _,by simp⟩
  ·obtain⟨j,l⟩:=st
   obtain⟨hj,D,h2,h3⟩:=hs
   simp only at hj D h2 h3
   subst hj
   left
   have hi':(i:Int)<gs.length:=by omega
   unfold MA Mz
   simp only[hi',decide_true,QY,QT,Qx hi,Qd,Qkh,Qv hi (show gs.length<=maxLen by unfold maxLen;omega)]
   by_cases c:YH s.States.length gs[i]
   ·obtain⟨l',p1,p2,p3⟩:=Qh2 (QA.mk gs[i] 0) D (by omega)
    simp only[c,decide_true,QY,p1,Qd]
    refine⟨(((i+1:Nat):Int),l'),rfl,rfl,p3,by rw[p2.length_eq];simp;omega,λy=>?_⟩
    rw[p2.mem_iff,Yl,h3,Sn hi]
    simp only[YI,Ao]
    constructor
    ·rintro (h | ⟨g,hg,h⟩)
     ·exact⟨_,.inr rfl,c,h⟩
     exact⟨g,.inl hg,h⟩
    rintro ⟨g,hg | hg,D,h2⟩
    ·exact .inr ⟨g,hg,D,h2⟩
    subst hg;exact .inl h2
   simp only[c,decide_false,Xh]
   refine⟨(((i+1:Nat):Int),l),rfl,rfl,D,by simp only;omega,λy=>?_⟩
   rw[h3,Sn hi]
   simp only[YI,Ao]
   constructor
   ·rintro ⟨g,hg,h⟩;exact⟨g,.inl hg,h⟩
   rintro ⟨g,hg | hg,D,h2⟩
   ·exact⟨g,hg,D,h2⟩
   subst hg;exact absurd D c
  obtain⟨j,l⟩:=st
  obtain⟨hj,D,h2,h3⟩:=hs
  simp only at hj D h2 h3
  subst hj
  rw[Hc]at h3
  refine⟨l,by simp[MA],?_⟩
  have hm:∀y,y∈l->YH s.States.length y.state/\y.state∈gs/\y.far=0:=λy hy=>by
   obtain⟨g,g1,g2,rfl⟩:=(h3 y).1 hy;exact⟨g2,g1,rfl⟩
  refine { len:=by simp,lo:=λk=>by rw[hav];omega,hp:=D,goal:=λg hg hr=>.inr ((h3 _).2 ⟨g,hg,hr,rfl⟩),edge:=λu v _ _ _ h=>by rw[hav]at h;omega,back:=λk hk=>by rw[hav]at hk;omega,wt:=λy hy=>⟨(hm y hy).1,.inl ⟨(hm y hy).2.2,(hm y hy).2.1⟩⟩,ord:=λk y hy=>by rw[hav,(hm y hy).2.2];omega,bnd:=λy hy=>?_,sz:=?_ }
  ·rw[(hm y hy).2.2,hcp];omega
  rw[hcp];omega
 obtain⟨w,w1,w2⟩:=k1
 rw[w1]
 simp only[Qd]
 unfold Qai
 have k2:∃r,QE (λst:LI_×L_ Sp=>MC m st.1 st.2) (List.replicate s.States.length (-1),w)=some r/\GF s.States.length (es s) gs r:=by
  refine PZ (λst:LI_×L_ Sp=>QjE s gs 130024424 st.1 st.2) (λst:LI_×L_ Sp=>st.2.length+((s.Edges.filter (cnt s)).countP λe=>decide (av st.1 e.To<0))) _ ?_ _ w2
  rintro ⟨out,w⟩ I
  simp only at I
  by_cases hw:w=[]
  ·right
   subst hw
   refine⟨out,rfl,{ len:=I.len,lo:=I.lo,goal:=λg D h2=>?_,edge:=λu v D h2 h3 h4=>?_,back:=I.back }⟩
   ·rcases I.goal g D h2 with h | h
    ·exact h
    cases h
   rcases I.edge u v D h2 h3 h4 with h | h
   ·exact h
   cases h
  left
  obtain⟨out',w',D,h2,h3⟩:=I.round (by omega) m2 hw
  exact⟨(out',w'),D,h2,h3⟩
 obtain⟨r,r1,r2⟩:=k2
 exact⟨r,by rw[r1];rfl,r2⟩
end Go.Proofs
noncomputable section
namespace Go.Proofs
open Go Go.RowKit Go.Vm Go.Rk
def Qll {n:Qf}{s:QD}(h:Cp s):(Ve n s).length<=1000:=by
 have:=Qfw (QbA n) s.States 0
 have:=h.st
 unfold Ve;omega
structure ZS (n:Qf) (s:QD) (f:List Int):Prop where
 few:Cp s
 far:Oq s (Ve n s)=some f
 is:GF s.States.length (es s) (Ve n s) f
def Qow {n:Qf}{s:QD}(h:Cp s):∃f,ZS n s f:=by
 obtain⟨f,D,h2⟩:=QnK (gs:=Ve n s) h (Qll h)
 exact⟨f,h,D,h2⟩
section
variable {n:Qf}{s:QD}{f:LI_}(E:ZS n s f)
include E
theorem ZS.len : f.length<=40:=by rw[E.is.len];exact E.few.st
theorem ZS.le40 (k:Int):av f k<=40:=by
 have:=E.few.st
 rcases E.is.lt k with h | h
 ·omega
 by_cases D:YH f.length k
 ·rw[E.is.len]at D;unfold YH at D;omega
 rw[Vd D];omega
theorem Qh3 : Mg n s=some f:=by
 unfold Mg
 simp only[Qlj E.few,Qd,E.far]
theorem QmH : Mh n s=some (Ws (λx=>decide (x<0)) 0 f):=by
 have hl:=E.len
 unfold Mh
 rw[Qh3 E,Qd,TT (l:=f) (λx=>decide (x<0))]
 ·rfl
 ·intro i h x ha hi hx
  have D:(i:Int)<f.length:=by omega
  have hc:decide (h.length+([(i:Int)]:LI_).length<=4294967296)=true:=Yu (by simp;omega)
  simp only[Pp,La,D,decide_true,QY,QT,hx,Qd,Qv hi (show f.length<=maxLen by unfold maxLen;omega),PS hc]
  cases decide (x<0)<;>rfl
 intro h;simp[Pp]
end
section
variable {n:Qf}{s:QD}{f:LI_}(E:ZS n s f)
include E
end
def QbB (s:QD)(f:LI_)(k:Int)(e:QW):Bool:=cnt s e&&(e.From==k&&av f e.To==av f k-1)
def HF (s:QD)(f:LI_)(k:Int):Int:=if 0<av f k then(Ej (λ_ e=>QbB s f k e) 0 s.Edges).elim (-1) (λi=>(i:Int))else -1
section
variable {n:Qf}{s:QD}{f:LI_}(E:ZS n s f)
include E
theorem QeD (k:Int):FA s f k=some (HF s f k):=by
 unfold FA TQ HF
 rw[Qkh,Qd]
 by_cases D:YH s.States.length k
 ·have hr':YH f.length k:=by rw[E.is.len];exact D
  simp only[D,decide_true,GV,Xh,Gq D.1,Mp hr',Qd]
  unfold TR
  by_cases h0:0<av f k
  ·have h:¬av f k<=0:=by omega
   simp only[h,decide_false,Xh,if_pos h0]
   unfold KZ
   rw[Ze (l:=s.Edges) (s0:=0) (λi=>(i:Int)) (λ_ e=>QbB s f k e) (λi=>Sum.inl (i:Int)) (Sum.inr ()) ?_ ?_ rfl]
   ·cases Ej (λ_ e=>QbB s f k e) 0 s.Edges<;>rfl
   ·intro i e hi he
    have h1:(i:Int)<s.Edges.length:=by omega
    have hcl:HC e s k f=some (QbB s f k e):=by
     unfold HC Rq Rr QbB
     rw[QeC,Qd]
     cases hc:cnt s e with
     | false=>rfl
     | true=>
      obtain⟨_,hr2⟩:=PB.1 hc
      have hr2':YH f.length e.To:=by rw[E.is.len];exact hr2
      simp only[QY,Bool.true_and]
      cases e.From==k with
      | false=>rfl
      | true=>
       have:=E.le40 k;have:=E.is.lo k
       simp only[QY,Bool.true_and,Gq hr2.1,Gq D.1,Mp hr',Mp hr2',Qd,Yf (show -9223372036854775808<=av f k-1/\av f k-1<=9223372036854775807 by omega)]
    unfold Kb
    simp only[h1,decide_true,QY,QT,he,Qd,hcl,Qv hi E.few.ok.2.1]
    cases QbB s f k e<;>rfl
   simp[Kb]
  have h:av f k<=0:=by omega
  simp only[h,decide_true,QY,if_neg h0]
 have h0:¬0<av f k:=by rw[Vd (by rw[E.is.len];exact D)];omega
 simp only[D,decide_false,Si,QY,Qd,if_neg h0]
 rfl
theorem QnL {k:Int}(h:¬0<av f k):HF s f k=-1:=by unfold HF;rw[if_neg h]
theorem QjF {k:Int}(h:0<av f k):∃i e,HF s f k=((i:Nat):Int)/\s.Edges[i]? = some e/\e.From=k/\YH s.States.length e.To/\av f e.To=av f k-1:=by
 unfold HF
 rw[if_pos h]
 cases hs:Ej (λ_ e=>QbB s f k e) 0 s.Edges with
 | none=>
  exfalso
  rcases E.is.back k (by omega)with⟨h1,_⟩|⟨v,h1,h2,D,h4⟩
  ·omega
  obtain⟨e,e1,rfl,rfl⟩:=QaG.1 h1
  obtain⟨j,hj⟩:=Ey.1 e1
  have:=SF hs j e hj
  have hc:cnt s e=true:=PB.2 ⟨E.is.rng (by omega),h2⟩
  unfold QbB at this
  rw[hc]at this
  simp at this
  omega
 | some i=>
  obtain⟨j,e,h1,h2,D⟩:=SE hs
  obtain rfl:i=j:=by omega
  unfold QbB at D
  rw[QJ,QJ,PB]at D
  exact⟨i,e,rfl,h2,by simpa using D.2.1,D.1.2,by simpa using D.2.2⟩
end
def AS (s:QD)(f:LI_):Nat->Int->LI_
 | 0,_=>[]
 | d+1,k=>HF s f k::AS s f d (((s.Edges[(HF s f k).toNat]?).map (·.To)).getD 0)
section
variable {n:Qf}{s:QD}{f:LI_}(E:ZS n s f)
include E
theorem Qh4 : ∀(d:Nat) (k:Int),(AS s f d k).length=d:=by
 intro d
 induction d with
 | zero=>intro k;rfl
 | succ d h=>intro k;simp[AS,h]
theorem QnM : ∀(d:Nat) (k:Int) (out:LI_),(av f k).toNat=d->out.length+d<=1000->QE (λst:Int×LI_=>Ak s f st.1 st.2) (HF s f k,out)=some (out++AS s f d k):=by
 intro d
 induction d with
 | zero=>
  intro k out hd ho
  rw[QnL E (by omega),KJ]
  simp[Ak,AS]
 | succ d ih=>
  intro k out hd ho
  obtain⟨i,e,h,D,h3,h4,h5⟩:=QjF E (k:=k) (by omega)
  have:=ih e.To (out++[HF s f k]) (by omega) (by simp;omega)
  have h6:(0:Int)<=((i:Nat):Int):=by omega
  have hb:Ak s f (HF s f k) out=some (.inl (HF s f e.To,out++[HF s f k])):=by
   unfold Ak
   rw[h]
   simp only[h6,decide_true,QY]
   rw[GE (by simp;omega)]
   simp only[Qd,QT,D,QeD E]
  rw[KJ]
  show(Ak s f (HF s f k) out).bind _=_
  rw[hb,Qd]
  simp only
  rw[this,AS,h]
  simp only[XP,D,JD,GH,WI,List.singleton_append]
theorem QnN (k:Int):SD n s k=some (AS s f (av f k).toNat k):=by
 unfold SD
 have:=E.le40 k
 simp only[Qh3 E,Qd,QeD E]
 rw[QnM E _ k [] rfl (by simp;omega)]
 rfl
end
end Go.Proofs
noncomputable section
namespace Go.Proofs
open Go Go.RowKit Go.Vm Go.Rk
def XN (s:QD):LI_:=s.Edges.map λe=>e.Mode.Task
def QgQ {s:QD}(h:Cp s):Ai s=some (Jz (JG (XN s))):=by
 have D:=h.ed
 unfold Ai
 have key:∃r,QE (λst:Int×LI_=>CN s st.1 st.2) (0,[])=some r/\r=XN s:=by
  refine Ci s.Edges.length (λi st=>st=((i:Int),(XN s).take i)) _ (λi st hi hs=>.inl ?_) (λst hs=>?_) _ (by simp)
  ·subst hs
   have h1:(i:Int)<s.Edges.length:=by omega
   have hg:(XN s)[i]? = some s.Edges[i].Mode.Task:=by unfold XN;rw[XY,Qx hi];rfl
   have hl:i<(XN s).length:=by unfold XN;simpa using hi
   have ht:(XN s).take (i+1)=(XN s).take i++[s.Edges[i].Mode.Task]:=by
    rw[Sn hl]
    congr 2
    rw[Qx hl]at hg;exact Option.some.inj hg
   unfold CN
   simp only[h1,decide_true,QY,QT,Qx hi,Qd,Qv hi h.ok.2.1]
   rw[GE (by simp;omega),Qd]
   exact⟨_,rfl,by rw[ht]⟩
  subst hs
  refine⟨(XN s).take s.Edges.length,by simp[CN],?_⟩
  rw[Kl (by unfold XN;simp)]
 obtain⟨r,r1,r2⟩:=key
 subst r2
 have hl:(XN s).length<=130023424:=by unfold XN;simpa using D
 rw[r1,Qd]
 unfold TB YF KT
 rw[GE (by omega)]
 simp only[Qd]
 rw[GE (Cu _)]
 simp only[Qd]
 rw[GE (by rw[Cu];omega)]
 rfl
def Qh5 {l:LI_}{x:Int}:x∈JG l↔x∈l:=(NR l).mem_iff
def QgR (l:LI_):(JG l).Pairwise (·<=·):=Zv l
def Qdn {l:LI_}{x:Int}:x∈Jz l↔x∈l:=by
 unfold Jz Lib.compact Lib.compactUpTo
 rw[Yh]
 constructor
 ·rintro ⟨i,hi,rfl⟩
  have h:=Gu.1 (Ex.1 hi).1
  have:l.toArray[i]! = l[i]:=by simp[h]
  rw[this];exact XV h
 intro hx
 obtain⟨i,hi,rfl⟩:=Hb.1 hx
 have key:∀i (hi:i<l.length),∃a,a∈(List.range l.length).filter (Lib.keeps l.toArray)/\l.toArray[a]! = l[i]:=by
  intro i
  induction i with
  | zero=>
   intro hi
   exact⟨0,Ex.2 ⟨Gu.2 hi,by simp[Lib.keeps]⟩,by simp[hi]⟩
  | succ i ih=>
   intro hi
   by_cases c:l[i+1]=l[i]
   ·rw[c];exact ih (by omega)
   refine⟨i+1,Ex.2 ⟨Gu.2 hi,?_⟩,by simp[hi]⟩
   have D:l.toArray[i+1]! = l[i+1]:=by simp[hi]
   have h2:l.toArray[i]! = l[i]:=by simp[show i<l.length by omega]
   unfold Lib.keeps
   rw[Nat.add_sub_cancel,D,h2]
   simpa using c
 exact key i hi
def QgS {l:LI_}(h:l.Pairwise (·<=·)):(Jz l).Pairwise (·<·):=by
 unfold Jz Lib.compact Lib.compactUpTo
 rw[NH]
 have hp:((List.range l.length).filter (Lib.keeps l.toArray)).Pairwise (·<·):=List.Pairwise.filter _ List.pairwise_lt_range
 refine hp.imp_of_mem λ{i j} hi hj hij=>?_
 have hjl:=Gu.1 (Ex.1 hj).1
 have D:=(Ex.1 hj).2
 have e:∀k,k<l.length->l.toArray[k]! = l.getD k 0:=λk D=>by simp[D]
 unfold Lib.keeps at D
 rw[decide_eq_true_iff]at D
 rw[e i (by omega),e j hjl]
 rw[e j hjl,e (j-1) (by omega)]at D
 have mono:∀a b,a<=b->b<l.length->l.getD a 0<=l.getD b 0:=λa b hab hb=>by
  rcases Nat.lt_or_eq_of_le hab with h1 | h1
  ·have:=QfE.1 h a b (by omega) hb h1
   simpa[show a<l.length by omega,hb] using this
  subst h1;exact Int.le_refl _
 have h1:=mono i (j-1) (by omega) (by omega)
 have h2:=mono (j-1) j (by omega) hjl
 rcases D with D | D
 ·omega
 omega
end Go.Proofs
noncomputable section
namespace Go.Proofs
open Go Go.RowKit Go.Vm Go.Rk
def endB (n:Qf)(m:Mk):Bool:=decide (0<=n.To)&&(decide (n.To<m.length)&&((m[n.To.toNat]?).map λb=>decide (0<PC b)).getD false)
def LN (n:Qf)(m:Mk):Bool:=endB n m&&!QbA n m
def QnO {n:Qf}{s:QD}{m:Mk}(h:okM m):DG m (QV.mk n s)=some (LN n m):=by
 unfold DG Cw
 rw[show WG (QV.mk n s).net m=some (endB n m)from SJ h,Qd]
 unfold LN
 cases endB n m with
 | true=>rw[QY,show DE (QV.mk n s).net m=some (QbA n m)from Cq h];rfl
 | false=>rfl
def QiB {n:Qf}{s:QD}(h:Cp s):WH (QV.mk n s)=some ((Ej (λ_ m=>LN n m) 0 s.States).elim (-1) λi=>(i:Int)):=by
 unfold WH JF
 show((QE (λst=>Xz s.States (QV.mk n s) st) 0).bind _).bind _=_
 rw[Ze (body:=λst=>Xz s.States (QV.mk n s) st) (s0:=(0:Int)) (l:=s.States) (λi=>(i:Int)) (λ_ m=>LN n m) (λi=>.inl (i:Int)) (.inr ()) (λi x hi D=>by
  show Xz s.States (QV.mk n s) i=_
  unfold Xz
  rw[Yu (by omega),QY,QT,D,Qd,QnO (h.get D),Qd,Qv hi h.ok.1]
  cases LN n x<;>rfl) (by
  show Xz s.States (QV.mk n s) s.States.length=_
  unfold Xz
  rw[JM (by omega),Xh]) rfl]
 cases Ej (λ_ m=>LN n m) 0 s.States<;>rfl
def Qpg {l:LI_}(hl:l.length<=maxLen)(k:Int):XW l k=some (decide (k∈l)):=by
 unfold XW WF
 rw[Ze (body:=λst=>Yp l k st) (s0:=(0:Int)) (l:=l) (λi=>(i:Int)) (λ_ y=>k==y) (λi=>.inl (i:Int)) (.inr ()) (λi x hi hx=>by
  show Yp l k i=_
  unfold Yp
  rw[Yu (by omega),QY,QT,hx,Qd,Qv hi hl]
  cases (k==x)<;>rfl) (by
  show Yp l k l.length=_
  unfold Yp
  rw[JM (by omega),Xh]) rfl]
 cases h:Ej (λ_ y=>k==y) 0 l with
 | none=>
  rw[JM λhk=>?_]
  ·rfl
  obtain⟨i,hi,e⟩:=Hb.1 hk
  have:=SF h i _ (Qx hi)
  rw[e]at this;simp at this
 | some i=>
  obtain⟨j,x,h1,D,h3⟩:=SE h
  rw[Yu (by have:=XE D;rw[show k=x by simpa using h3];exact this)]
  show some (decide (0<=(i:Int)))=_
  rw[Yu (by omega)]
def QnP {l:LI_}(h:l.Pairwise (·<=·)):(Jz l).length<=l.length:=MN ((QgS h).imp λD=>by omega) λx hx=>Qdn.1 hx
def QmI {n:Qf}{s:QD}(h:Cp s)(ht:n.Tasks.length<=4096):Qg (GO (QV.mk n s)) λl=>(∀t∈l,0<=t/\t<n.Tasks.length/\t ∉ XN s)/\(l=[]->∀k:Nat,k<n.Tasks.length->(k:Int)∈XN s):=by
 have mx:(130023424:Nat)<=maxLen:=by decide
 have hed:=h.ed
 unfold GO
 rw[show Ai (QV.mk n s).space=some (Jz (JG (XN s)))from QgQ h,Qd]
 have hmem:∀x:Int,x∈Jz (JG (XN s))↔x∈XN s:=λx=>Qdn.trans Qh5
 have hlen:(Jz (JG (XN s))).length<=maxLen:=by
  have h1:=QnP (QgR (XN s))
  have h2:=(NR (XN s)).length_eq
  have h3:(XN s).length=s.Edges.length:=Gs _
  omega
 generalize Jz (JG (XN s))=D at hmem hlen ⊢
 refine T0 (Qg.up n.Tasks.length (λst:Int×LI_=>st.1) (λst=>(st.2.length:Int)<=st.1/\(∀t∈st.2,0<=t/\t<n.Tasks.length/\t ∉ XN s)/\(st.2=[]->∀k:Nat,(k:Int)<st.1->(k:Int)∈XN s)) (Q:=λl:LI_=>(∀t∈l,0<=t/\t<n.Tasks.length/\t ∉ XN s)/\(l=[]->∀k:Nat,k<n.Tasks.length->(k:Int)∈XN s)) rfl ⟨by simp,λt h=>(by cases h),λ_ k hk=>by omega⟩ (λi st hi hn hJ=>?_)) (λq hq=>T2 hq)
 obtain⟨x,l⟩:=st
 replace hi:x=(i:Int):=hi
 subst hi
 obtain⟨j1,j2,j3⟩:(l.length:Int)<=(i:Int)/\(∀t∈l,0<=t/\t<n.Tasks.length/\t ∉ XN s)/\(l=[]->∀k:Nat,(k:Int)<(i:Int)->(k:Int)∈XN s):=hJ
 show Qg (BW (QV.mk n s) D i l) _
 unfold BW
 refine T1 (λhc=>?_) (λhc=>T2 (Qm ⟨j2,λe k hk=>j3 e k ?_⟩))
 ·replace hc:decide ((i:Int)<(n.Tasks.length:Int))=true:=hc
  simp only[QI]at hc
  have i1:i<n.Tasks.length:=by omega
  have hw:Qi ((i:Int)+1)=((i+1:Nat):Int):=Qv i1 (by omega:n.Tasks.length<=maxLen)
  rw[Qpg hlen,Qd]
  have k1:∀l':LI_,(l'.length:Int)<=(i:Int)+1->(∀t∈l',0<=t/\t<n.Tasks.length/\t ∉ XN s)->(l'=[]->∀k:Nat,(k:Int)<(i:Int)+1->(k:Int)∈XN s)->Qg (Dc i l') λo=>(∀s',o=.inl s'->i<n.Tasks.length/\s'.1=((i+1:Nat):Int)/\((s'.2.length:Int)<=s'.1/\(∀t∈s'.2,0<=t/\t<n.Tasks.length/\t ∉ XN s)/\(s'.2=[]->∀k:Nat,(k:Int)<s'.1->(k:Int)∈XN s)))/\∀r:LI_,o=.inr r->(∀t∈r,0<=t/\t<n.Tasks.length/\t ∉ XN s)/\(r=[]->∀k:Nat,k<n.Tasks.length->(k:Int)∈XN s):=λl' h1 h2 h3=>by
   unfold Dc
   refine T2 ⟨λs' e=>?_,λq e=>by cases e⟩
   cases e
   refine⟨i1,hw,?_,h2,?_⟩
   ·show(l'.length:Int)<=Qi _;rw[hw];omega
   show l'=[]->∀k:Nat,(k:Int)<Qi _->_
   rw[hw];intro e k hk;exact h3 e k (by omega)
  by_cases c:(i:Int)∈D
  ·rw[Yu c]
   refine k1 l (by omega) j2 λe k hk=>?_
   by_cases ck:k=i
   ·subst ck;exact(hmem _).1 c
   exact j3 e k (by omega)
  rw[JM c]
  refine T0 (T5 (by simp;omega)) λ_ _=>k1 _ (by simp;omega) (λt ht=>?_) λe=>by simp at e
  rcases YI.1 ht with ht | ht
  ·exact j2 t ht
  simp at ht;subst ht;exact⟨by omega,by omega,λhk=>c ((hmem _).2 hk)⟩
 replace hc:decide ((i:Int)<(n.Tasks.length:Int))=false:=hc
 simp only[Xm]at hc
 omega
def Qph {n:Qf}{m:L_ Bag}{b tokens:Int}{s:QD}(h:Xn n)(D:SOk n m b tokens s)(hb:b<=31)(hE:s.Edges.length<=130023424):Cp s:=by
 have hm:Xu b<=31:=by unfold Xu min2;split<;>omega
 have hpl:=h.pl
 have hl:=D.len
 exact⟨⟨by unfold maxLen;omega,by unfold maxLen;omega,λy hy=>by
  have hg:=D.good y hy
  have:=hg.1.1
  exact⟨by unfold maxLen;omega,λb hb=>by have:=(hg.1.2 b hb).2;unfold maxLen;omega⟩⟩,by omega,hE⟩
inductive Told (n:Qf) (s:QD):Xp->Prop where
 | un:s.Full=false->Told n s (Xp.mk 3 0 0 [])
 | im (k:Nat) (x:Mk) (p:List Qk):s.States[k]? = some x->LN n x=true->KU s (k:Int)=some p->Told n s (Xp.mk 2 1 0 p)
 | lo (k:Nat) (x:Mk) (p:List Qk):s.States[k]? = some x->KU s (k:Int)=some p->Told n s (Xp.mk 2 2 0 p)
 | de (t:Int):0<=t->t<n.Tasks.length->Told n s (Xp.mk 2 3 t [])
 | so (f:List Int):s.Full=true->(∀x∈s.States,LN n x=false)->ZS n s f->(∀k:Nat,k<s.States.length->0<=av f (k:Int))->(∀k:Nat,k<n.Tasks.length->(k:Int)∈XN s)->Told n s (Xp.mk 1 0 0 [])
def Qlm {n:Qf}{m:L_ Bag}{b tokens:Int}{s:QD}(h:Xn n)(hS:SOk n m b tokens s)(hb:b<=31)(hE:s.Edges.length<=130023424):Qg (En n s) (Told n s):=by
 have hF:=Qph h hS hb hE
 have htl:=h.tl
 unfold En
 refine T1 (λc=>T2 (.un (by simpa using c))) λc=>?_
 have c:s.Full=true:=by simpa using c
 have p1:AH (QV.mk n s)=(match Ej (λ_ m=>LN n m) 0 s.States with
   | some k=>(KU s (k:Int)).bind λp=>some (false,Xp.mk 2 1 0 p)
   | none=>some (true,Xp.mk 0 0 0 [])):=by
  unfold AH
  rw[QiB hF,Qd]
  cases Ej (λ_ m=>LN n m) 0 s.States with
  | some k=>
   show(bif decide ((k:Int)<0)then _ else _)=_
   rw[JM (by omega)];rfl
  | none=>rfl
 rw[p1]
 cases hs:Ej (λ_ m=>LN n m) 0 s.States with
 | some k=>
  obtain⟨i,x,e,hx,hp⟩:=SE hs
  rw[Ff]at e
  subst e
  obtain⟨p,q1,_⟩:=Qfx h hS hb hE hx
  simp only
  rw[q1,Qd,Qd]
  exact T2 (.im k x p hx hp q1)
 | none=>
  have him:∀x∈s.States,LN n x=false:=λx hx=>by
   obtain⟨i,hi,rfl⟩:=Hb.1 hx
   exact SF hs i _ (Qx hi)
  simp only
  rw[Qd]
  show Qg ((Db (QV.mk n s)).bind _) _
  obtain⟨f,hf⟩:=Qow (n:=n) hF
  have p2:Db (QV.mk n s)=(bif ((((Ws (λx=>decide (x<0)) 0 f).length:Int))==0)then some (true,Xp.mk 0 0 0 [])else(idx (Ws (λx=>decide (x<0)) 0 f) 0).bind λe=>(KU s e).bind λp=>some (false,Xp.mk 2 2 0 p)):=by
   unfold Db
   rw[show Mh (QV.mk n s).net (QV.mk n s).space=some (Ws (λx=>decide (x<0)) 0 f)from QmH hf,Qd]
  rw[p2]
  cases hL:Ws (λx=>decide (x<0)) 0 f with
  | cons e r=>
   have he:e∈Ws (λx=>decide (x<0)) 0 f:=by rw[hL];exact XR
   obtain⟨i,y,hi,_,rfl⟩:=Px.1 he
   have hil:=(Xa.1 hi).1
   rw[hf.is.len]at hil
   obtain⟨p,q1,_⟩:=Qfx h hS hb hE (Qx hil)
   rw[show((((((0+i:Nat):Int)::r).length:Int))==0)=false by simp;omega,Xh]
   show Qg (((some ((0+i:Nat):Int)).bind _).bind _) _
   rw[Qd,Ff,q1,Qd,Qd]
   exact T2 (.lo i _ p (Qx hil) q1)
  | nil=>
   rw[show(((([]:LI_).length:Int))==0)=true from rfl,QY,Qd]
   show Qg ((UF (QV.mk n s)).bind _) _
   have hav:∀k:Nat,k<s.States.length->0<=av f (k:Int):=λk hk=>by
    rcases Int.lt_or_le (av f (k:Int)) 0 with h0 | h0
    ·have hin:YH f.length (k:Int):=by rw[hf.is.len];exact⟨by omega,by omega⟩
     have hg:=Mp hin
     rw[XP]at hg
     have:(k:Int)∈Ws (λx=>decide (x<0)) 0 f:=Px.2 ⟨k,_,hg,Yu h0,by simp⟩
     rw[hL]at this;cases this
    exact h0
   obtain⟨D,d1,d2,d3⟩:=QmI (n:=n) hF (by omega)
   unfold UF
   rw[d1,Qd]
   cases D with
   | nil=>exact T2 (.so f c him hf hav (d3 rfl))
   | cons t r=>
    have:=d2 t XR
    rw[show((((t::r).length:Int))==0)=false by simp;omega,Xh]
    exact T2 (.de t this.1 this.2.1)
end Go.Proofs
noncomputable section
namespace Go.Proofs
open Go Go.RowKit Go.Vm Go.Rk
def Qh6 {n:Qf}{b c:Int}(tokens:Int)(h:QgP n b)(D:c<=31):AB n c tokens=some (Wd n (De n) c tokens):=by
 unfold AB
 rw[h.first,Qd,Qot c tokens h.net h.bd h.good D];rfl
def QjG {n:Qf}{m:L_ Bag}{b t:Int}(h:(Wd n m b t).Full=true):0<b:=by
 rcases Int.lt_or_le 0 b with c | c
 ·exact c
 unfold Wd at h;rw[if_pos c]at h;cases h
def Qln {n:Qf}{b c:Int}(tokens:Int)(h:QgP n b)(D:c<=31):∃v,DQ n c tokens=some v/\En n (Wd n (De n) c tokens)=some v/\Told n (Wd n (De n) c tokens) v:=by
 unfold DQ
 rw[Qh6 tokens h D,Qd]
 cases hf:(Wd n (De n) c tokens).Full with
 | true=>
  have h0:=QjG hf
  obtain⟨v,h1,h2⟩:=Qlm h.net (Qfv (tokens:=tokens) h.net h.bd h.pl h.good h0) D (Qdh h.net h.bd h.good D)
  rw[h1];exact⟨v,rfl,rfl,h2⟩
 | false=>
  have e:En n (Wd n (De n) c tokens)=some (Xp.mk 3 0 0 []):=by unfold En;rw[hf];rfl
  rw[e];exact⟨_,rfl,rfl,.un hf⟩
def Qox : RJ=some true:=by kernel_rfl
end Go.Proofs
noncomputable section
namespace Go.Proofs
open Go Go.RowKit Go.Vm Go.Rk
def Qoy (x:Int):0<=Wi .i64 x 1023/\Wi .i64 x 1023<=1023:=by
 unfold Wi
 have h:(BitVec.ofInt (IntKind.bits .i64) x &&& BitVec.ofInt (IntKind.bits .i64) 1023).toNat<=1023:=by
  rw[BitVec.toNat_and];exact Ym Nat.and_le_right (by decide)
 generalize (BitVec.ofInt (IntKind.bits .i64) x &&& BitVec.ofInt (IntKind.bits .i64) 1023).toNat=k at h ⊢
 have:IntKind.wrap .i64 (k:Int)=k:=Yf (n:=(k:Int)) (by omega)
 rw[this];omega
def Qfz {n:Qf}{m:L_ Bag}(h:Xn n)(D:Yg n m):okM m:=by
 have hpl:=h.pl
 exact⟨by rw[D.1.1];unfold maxLen;omega,λb hb=>by have:=(D.1.2 b hb).2;unfold maxLen;omega⟩
def Qdo {n:Qf}{b tokens:Int}{v:Xp}(h:QgP n b)(hT:Told n (Wd n (De n) b tokens) v)(h0:0<b)(h2:v.Told=2):Jg n v=some true:=by
 have hb:=h.bud
 have hS:=Qfv (tokens:=tokens) h.net h.bd h.pl h.good h0
 have hE:=Qdh (tokens:=tokens) h.net h.bd h.good (by omega:b<=31)
 generalize Wd n (De n) b tokens=s at hT hS hE
 have run:∀{k:Nat} {x:Mk} {p:L_ Qk},s.States[k]? = some x->KU s (k:Int)=some p->Ot n (De n) p=some (x,(p.length:Int)):=λ{k x p} D hp=>by
  obtain⟨p',q1,q2,q3,q4⟩:=Qfx h.net hS (by omega) hE D
  rw[hp]at q1;cases q1
  have hl:=hS.len
  have hm:Xu b<=31:=by unfold Xu min2;split<;>omega
  exact Qo6 h.net h.good.1 (by omega) (by omega) q2
 cases hT with
 | un _=>cases h2
 | im k x p D hi hp=>
  have hr:=run D hp
  have hm:=Qfz h.net (hS.good x (XE D))
  unfold Jg
  simp only[show((2:Int) != 2)=false from rfl,show((1:Int)==3)=false from rfl,Xh]
  rw[h.first,Qd,hr,Qd]
  simp only[show((1:Int)==1)=true from rfl,QY]
  unfold Rn
  simp only[show((p.length:Int)==(p.length:Int))=true by simp,QY]
  rw[show WG n x=some (endB n x)from SJ hm,Qd]
  unfold LN at hi
  rw[QJ]at hi
  rw[hi.1,QY,Cq hm,Qd,hi.2];rfl
 | lo k x p D hp=>
  have hr:=run D hp
  unfold Jg
  simp only[show((2:Int) != 2)=false from rfl,show((2:Int)==3)=false from rfl,Xh]
  rw[h.first,Qd,hr,Qd]
  simp only[show((2:Int)==1)=false from rfl,show((2:Int)==2)=true from rfl,QY,Xh]
  simp
 | de t t0 t1=>
  unfold Jg
  simp[t0,t1]
 | so f _ _ _ _ _=>cases h2
def Qoz {n:Qf}{m:Mk}(h:okM m)(j:Nat):Cf (j:Int) n m=some (LN n m):=by
 unfold Cf
 rw[JM (by omega),Xh,show WG n m=some (endB n m)from SJ h,Qd]
 unfold LN
 cases endB n m with
 | true=>rw[QY,Cq h];rfl
 | false=>rfl
def QoA {n:Qf}{m:L_ Bag}{b tokens:Int}{s:QD}{f:LI_}(hS:SOk n m b tokens s)(E:ZS n s f)(hav:∀k:Nat,k<s.States.length->0<=av f (k:Int)){k:Nat}{x:L_ Bag}(hx:s.States[k]? = some x):
  Qg (QE (λst=>Ei (AS s f (av f k).toNat k) s n st.1 st.2) (x,0)) λq=>∃y,q=.inr y/\y∈s.States/\QbA n y=true:=by
 have hk:=(Xa.1 hx).1
 have h0:=hav k hk
 have hwl:=Qh4 E (av f k).toNat k
 have h40:=E.le40 k
 generalize hw:AS s f (av f k).toNat k=w at hwl ⊢
 refine Qg.up w.length (λst=>st.2) (λst=>∃a:Nat,s.States[a]? = some st.1/\av f (a:Int)=av f k-st.2/\w.drop st.2.toNat=AS s f ((av f k).toNat-st.2.toNat) a) rfl ⟨k,hx,by simp,by simpa using hw.symm⟩ (λi st hi hn hJ=>?_)
 obtain⟨y,j⟩:=st
 replace hi:j=(i:Int):=hi
 subst hi
 obtain⟨a,ha,h3,h4⟩:∃a:Nat,s.States[a]? = some y/\av f (a:Int)=av f k-(i:Int)/\w.drop (i:Int).toNat=AS s f ((av f k).toNat-(i:Int).toNat) a:=hJ
 rw[XP]at h4
 show Qg (Ei w s n y i) _
 unfold Ei
 refine T1 (λhc=>?_) (λhc=>T2 (Qm ⟨y,rfl,XE ha,?_⟩))
 ·simp only[QI]at hc
  have D:i<w.length:=by omega
  obtain⟨q,e,n1,n2,n3,n4,n5⟩:=QjF E (k:=(a:Int)) (by omega)
  have hd:(av f k).toNat-i=((av f k).toNat-(i+1))+1:=by omega
  rw[hd,AS,n1,Mr D]at h4
  simp only[XP,n2,JD,GH,List.cons.injEq]at h4
  obtain⟨h5,h6⟩:=h4
  have hwi:w[i]? = some (q:Int):=by rw[Qx D,h5]
  obtain⟨a',c,u,z,e1,e2,e3,e4,e5,e6⟩:=hS.edge e (XE n2)
  have haa:a'=a:=by omega
  subst haa
  rw[ha]at e3;cases e3
  rw[QT,hwi,Qd,QT,n2,Qd,e5,Qd]
  have h:w.length<=maxLen:=by unfold maxLen;omega
  refine T2 (QK (ix:=λst:L_ Bag×Int=>st.2) (J:=λst:L_ Bag×Int=>∃a:Nat,s.States[a]? = some st.1/\av f (a:Int)=av f k-st.2/\w.drop st.2.toNat=AS s f ((av f k).toNat-st.2.toNat) a) ⟨D,Qv D h,c,e4,?_,?_⟩)
  ·show av f (c:Int)=av f k-Qi ((i:Int)+1)
   rw[Qv D h,<-e2,n5];omega
  show w.drop (Qi ((i:Int)+1)).toNat=AS s f ((av f k).toNat-(Qi ((i:Int)+1)).toNat) c
  rw[Qv D h,XP,<-e2];exact h6
 simp only[Xm]at hc
 have ha0:av f (a:Int)=0:=by omega
 rcases E.is.back (a:Int) (by omega)with⟨_,hg⟩|⟨v,_,_,hv,he⟩
 ·unfold Ve at hg
  obtain⟨i',y',g1,g2,g3⟩:=Px.1 hg
  have:i'=a:=by omega
  subst this
  rw[ha]at g1;cases g1;exact g2
 omega
def QmJ {n:Qf}{m:L_ Bag}{b tokens:Int}{s:QD}(h:Xn n)(hS:SOk n m b tokens s)(hall:∀k:Nat,k<n.Tasks.length->(k:Int)∈XN s):(Jz (JG (XN s))).length=n.Tasks.length:=by
 have D:∀x:Int,x∈Jz (JG (XN s))↔x∈XN s:=λx=>Qdn.trans Qh5
 have hnd:(Jz (JG (XN s))).Nodup:=(QgS (QgR (XN s))).imp λhab=>by omega
 have hrn:((List.range n.Tasks.length).map λk:Nat=>(k:Int)).Nodup:=NH.2 (List.nodup_range.imp λhne h=>hne (by omega))
 have h1:=MN hnd (m:=(List.range n.Tasks.length).map λk:Nat=>(k:Int)) λx hx=>by
  have hx:=(D x).1 hx
  unfold XN at hx
  obtain⟨e,he,rfl⟩:=Yh.1 hx
  obtain⟨_,_,u,z,_,_,_,_,e5,_⟩:=hS.edge e he
  obtain⟨t,ht,_⟩:=Qok h e5
  unfold idx at ht
  split at ht
  ·rename_i h0
   have:=(Xa.1 ht).1
   exact Yh.2 ⟨e.Mode.Task.toNat,Gu.2 this,by omega⟩
  cases ht
 have h2:=MN hrn (m:=Jz (JG (XN s))) λx hx=>by
  obtain⟨k,hk,rfl⟩:=Yh.1 hx
  exact(D _).2 (hall k (Gu.1 hk))
 rw[Gs,Sk]at h1 h2
 omega
def QjZ (n:Qf)(b tokens:Int)(D:LI_)(hn:Xr n)(hr:Rch n):GQ n b tokens D=some true:=by
 unfold GQ
 rw[Qox,Qd]
 obtain⟨f,hf,hf2⟩:=QnE n b hn hr
 rw[hf,Qd]
 cases hc:((!f)||(decide (8<(D.length:Int))))with
 | true=>rfl
 | false=>
  simp only[Xh]
  simp only[KC,Bi,Xm]at hc
  obtain⟨c1,c2⟩:=hc
  have hF:=hf2 c1
  have hb:=hF.bud
  have h:=hF.net
  obtain⟨v,h1,hj,hT⟩:=Qln (c:=b) tokens hF (by omega)
  rw[h1,Qd]
  by_cases c:v.Told=1
  rotate_left
  ·rw[show(v.Told != 1)=true by simpa using c,QY]
   have g1:Ce true v n=some true:=by
    unfold Ce
    cases hT with
    | un _=>rfl
    | so f _ _ _ _ _=>exact absurd rfl c
    | im k x p hx hi hp=>
     have h0:0<b:=by
      rcases Int.lt_or_le 0 b with h0 | h0
      ·exact h0
      unfold Wd at hx;rw[if_pos h0]at hx;simp at hx
     have:=Qdo hF (.im k x p hx hi hp) h0 rfl
     simp only[show((2:Int)==3)=false from rfl,show((2:Int)==2)=true from rfl,QY,Xh]
     rw[this];rfl
    | lo k x p hx hp=>
     have h0:0<b:=by
      rcases Int.lt_or_le 0 b with h0 | h0
      ·exact h0
      unfold Wd at hx;rw[if_pos h0]at hx;simp at hx
     have:=Qdo hF (.lo k x p hx hp) h0 rfl
     simp only[show((2:Int)==3)=false from rfl,show((2:Int)==2)=true from rfl,QY,Xh]
     rw[this];rfl
    | de t t0 t1=>
     have:Jg n (Xp.mk 2 3 t [])=some true:=by
      unfold Jg
      simp[t0,t1]
     simp only[show((2:Int)==3)=false from rfl,show((2:Int)==2)=true from rfl,QY,Xh]
     rw[this];rfl
   rw[g1];rfl
  rw[show(v.Told != 1)=false by simpa using c,Xh,Qh6 tokens hF (by omega),Qd,hF.first,Qd]
  have hfull:(Wd n (De n) b tokens).Full=true/\(∀x∈(Wd n (De n) b tokens).States,LN n x=false)/\∃f,ZS n (Wd n (De n) b tokens) f/\(∀k:Nat,k<(Wd n (De n) b tokens).States.length->0<=av f (k:Int))/\(∀k:Nat,k<n.Tasks.length->(k:Int)∈XN (Wd n (De n) b tokens)):=by
   cases hT with
   | un _=>cases c
   | im k x p hx hi hp=>cases c
   | lo k x p hx hp=>cases c
   | de t t0 t1=>cases c
   | so f a1 a2 a3 a4 a5=>exact⟨a1,a2,f,a3,a4,a5⟩
  obtain⟨hfu,him,f,E,hav,hall⟩:=hfull
  have h0:=QjG hfu
  have hS:=Qfv (tokens:=tokens) h hF.bd hF.pl hF.good h0
  have hE:=Qdh (tokens:=tokens) h hF.bd hF.good (by omega:b<=31)
  generalize Wd n (De n) b tokens=s at hfu him E hav hall hS hE
  have hFew:=E.few
  have hm31:Xu b<=31:=by unfold Xu min2;split<;>omega
  have hsl:=hS.len
  have main:Qg (QE (λst=>GD D s n st.1 st.2) (De n,0)) λq:Unit⊕Unit=>q=.inr ():=by
   refine Qg.up (D.length+1) (λst=>st.2) (λst=>st.1∈s.States) rfl (by obtain⟨r,hr⟩:=hS.head;show De n∈s.States;rw[hr];exact XR) (λi st hi hn2 hJ=>?_)
   obtain⟨x,x2⟩:=st
   replace hi:x2=(i:Int):=hi
   subst hi
   replace hJ:x∈s.States:=hJ
   have hg:=hS.good x hJ
   have hm:=Qfz h hg
   show Qg (GD D s n x i) _
   unfold GD
   refine T1 (λhc=>?_) (λhc=>T2 (Qm rfl))
   simp only[QI]at hc
   obtain⟨r,hr1,hr2⟩:=QmA (s:=s) h hS.good (by omega) hg
   rw[hr1,Qd]
   rcases hr2 with⟨_,hno⟩|⟨k,rfl,hx⟩
   ·exact absurd hJ hno
   rw[Qoz hm,Qd,him x hJ]
   unfold Nw
   rw[Xh,QnN E (k:Int),Qd]
   obtain⟨q,q1,y,rfl,hy,hfy⟩:=QoA hS E hav hx
   rw[q1,Qd]
   show Qg (Ch n s (AS s f (av f k).toNat k) k i D x y) _
   unfold Ch
   have hk:=(Xa.1 hx).1
   have hwl:=Qh4 E (av f k).toNat k
   have hlt:=E.is.lt (k:Int)
   have hak:=hav k hk
   have g6:Cg n y s (AS s f (av f k).toNat k)=some false:=by
    unfold Cg
    rw[Cq (Qfz h (hS.good y hy)),Qd,hfy]
    show some (decide ((s.States.length:Int)<=((AS s f (av f k).toNat k).length:Int)))=_
    rw[JM (by omega)]
   rw[g6,Qd]
   unfold Nv
   rw[Xh,QjD hFew (k:Int),Qd]
   have hil:=Qfw (λe:QW=>e.From==(k:Int)) s.Edges 0
   have hout:∀j∈Ws (λe:QW=>e.From==(k:Int)) 0 s.Edges,∃(q:Nat) (e:QW),j=(q:Int)/\s.Edges[q]? = some e/\e.From=(k:Int):=λj hj=>by
    obtain⟨q,e,g1,g2,g3⟩:=Px.1 hj
    exact⟨q,e,by omega,g1,by simpa using g2⟩
   generalize Ws (λe:QW=>e.From==(k:Int)) 0 s.Edges=O at hil hout ⊢
   refine T1 (λ_=>T2 (Qm rfl)) λhc2=>?_
   simp only[KC,beq_eq_false_iff_ne,ne_eq]at hc2
   obtain⟨d1,d2⟩:=hc2
   have i1:i<D.length:=by omega
   rw[QT,Qx i1,Qd,PS (by simpa using d2),Qd]
   have ha:=Qoy D[i]
   generalize Wi .i64 D[i] 1023=u at ha
   have ho:(0:Int)<(O.length:Int):=by omega
   have t0:=Int.tmod_nonneg (O.length:Int) ha.1
   have t1:=Int.tmod_lt_of_pos u ho
   generalize Int.tmod u (O.length:Int)=p at t0 t1 ⊢
   have p1:p.toNat<O.length:=by omega
   obtain⟨q,e,e0,e1,e2⟩:=hout _ (XV p1)
   rw[Gq t0,Qx p1,Qd,e0,QT,e1,Qd]
   obtain⟨a',cc,u',z,f1,f2,f3,f4,f5,f6⟩:=hS.edge e (XE e1)
   have:a'=k:=by omega
   subst this
   rw[hx]at f3;cases f3
   rw[f5,Qd]
   exact T2 (QK (ix:=λst:L_ Bag×Int=>st.2) (J:=λst:L_ Bag×Int=>st.1∈s.States) ⟨by omega,Qv i1 (by unfold maxLen;omega),XE f4⟩)
  obtain⟨q,q1,rfl⟩:=main
  rw[q1,Qd]
  show Bg true s n=some true
  unfold Bg Ml
  rw[QY,QgQ hFew,Qd,QmJ h hS hall]
  simp[Mm]
end Go.Proofs
