/- A part of the proof; what it holds is told at each theorem. -/
import Derived.Test.YtdogcfnkpfekmaaGreatDoorG1P2
import Derived.Test.YtdogcfnkpfekmaaGreatDoorG1P2
import Derived.Test.YtdogcfnkpfekmaaGreatDoorG1XPlA
import Derived.Test.YtdogcfnkpfekmaaGreatDoorG1T2
import Derived.Test.YtdogcfnkpfekmaaGreatDoorG1P2
import Derived.KernelRfl
set_option linter.all false
noncomputable section
namespace Go.Proofs
open Go Go.RowKit Go.Vm
structure Qoe (n:Qe) (m:List Bag) (b tokens:Int) (a:Nat) (st:NS):Prop where
 good:∀y∈st.1,XZ n y
 apart:IC XK st.1
 len:st.1.length<=Xg b
 head:∃r,st.1=m::r
 edge:∀e∈st.2.1,∃(i j:Nat) (x y:List Bag),e.From=(i:Int)/\e.To=(j:Int)/\i<a/\st.1[i]? = some x/\st.1[j]? = some y/\Yc n x e.Mode=some (y,0)/\Kv n e.Mode
 asc:st.2.1.Pairwise λe f=>e.From<=f.From
 full:st.2.2=true->∀(i:Nat) (x:List Bag),i<a->st.1[i]? = some x->VO x<=tokens/\(YR n x b).2=true/\(st.2.1.filter λe=>e.From==(i:Int)).map (·.Mode)=(YR n x b).1/\∀o∈(YR n x b).1,∃y∈st.1,Yc n x o=some (y,0)
 tree:∀k:Nat,0<k->k<st.1.length->∃e∈st.2.1,∃i:Nat,e.From=(i:Int)/\i<k/\e.To=(k:Int)
structure QgO (n:Qe) (m:List Bag) (b tokens:Int) (a:Nat) (x:List Bag) (fl:Bool) (done:List Qj) (st:NS):Prop where
 good:∀y∈st.1,XZ n y
 apart:IC XK st.1
 len:st.1.length<=Xg b
 head:∃r,st.1=m::r
 here:st.1[a]? = some x
 edge:∀e∈st.2.1,∃(i j:Nat) (x y:List Bag),e.From=(i:Int)/\e.To=(j:Int)/\i<a+1/\st.1[i]? = some x/\st.1[j]? = some y/\Yc n x e.Mode=some (y,0)/\Kv n e.Mode
 asc:st.2.1.Pairwise λe f=>e.From<=f.From
 full:st.2.2=true->fl=true/\∀(i:Nat) (x:List Bag),i<a->st.1[i]? = some x->VO x<=tokens/\(YR n x b).2=true/\(st.2.1.filter λe=>e.From==(i:Int)).map (·.Mode)=(YR n x b).1/\∀o∈(YR n x b).1,∃y∈st.1,Yc n x o=some (y,0)
 now:st.2.2=true->(st.2.1.filter λe=>e.From==(a:Int)).map (·.Mode)=done/\∀o∈done,∃y∈st.1,Yc n x o=some (y,0)
 tree:∀k:Nat,0<k->k<st.1.length->∃e∈st.2.1,∃i:Nat,e.From=(i:Int)/\i<k/\e.To=(k:Int)
section
variable {n:Qe}{m:L_ Bag}{b tokens:Int}{a:Nat}
def QfW {E:L_ QZ}{e:QZ}{i:Nat}(h:e.From=(a:Int))(hi:i<a):(E++[e]).filter (λe=>e.From==(i:Int))=E.filter λe=>e.From==(i:Int):=by
 rw[Fp,GJ,if_neg (by rw[h];simp;omega),List.filter_nil,OG]
def Qg8 {E:L_ QZ}{e:QZ}(h:e.From=(a:Int)):(E++[e]).filter (λe=>e.From==(a:Int))=(E.filter λe=>e.From==(a:Int))++[e]:=by
 rw[Fp,GJ,if_pos (by rw[h];simp),List.filter_nil]
def Qnw (h:Xn n)(hp:n.Places.length<=64){x:L_ Bag}{fl:Bool}{done:L_ Qj}{st:NS}{o:Qj}(I:QgO n m b tokens a x fl done st)(ho:Kv n o):QgO n m b tokens a x fl (done++[o]) (Jh (Xg b) n x a st o):=by
 have hgx:=I.good x (XG I.here)
 have hal:=(QX.1 I.here).1
 unfold Jh
 obtain⟨⟨y,c⟩,hD,_⟩:=QjV n x o 1024 h hgx.1 (by omega) ho
 rw[hD]
 simp only
 have down:QgO n m b tokens a x fl (done++[o]) (st.1,st.2.1,false):=⟨I.good,I.apart,I.len,I.head,I.here,I.edge,I.asc,λe=>(by cases e),λe=>(by cases e),I.tree⟩
 by_cases c0:c=0
 ·subst c0
  rw[if_pos rfl]
  have hgy:=Zx h hgx ho hD
  have ascs:∀k:Int,(st.2.1++[QZ.mk (a:Int) k o]).Pairwise λe f=>e.From<=f.From:=λk=>by
   rw[QeM]
   refine⟨I.asc,Tp _ _,λe he f hf=>?_⟩
   simp at hf;subst hf
   obtain⟨i,_,_,_,h1,_,h2,_⟩:=I.edge e he
   show e.From<=(a:Int)
   omega
  cases hk:AF st.1 (XK y)with
  | some k=>
   simp only
   obtain⟨z,hz,hzk⟩:=Qlv hk
   have hzy:z=y:=Qns h hp (I.good z (XG hz)) hgy hzk
   subst hzy
   refine⟨I.good,I.apart,I.len,I.head,I.here,λe he=>?_,ascs _,λhf=>?_,λhf=>?_,λk' h1 h2=>?_⟩
   ·rcases YF.1 he with he | he
    ·exact I.edge e he
    simp at he;subst he
    exact⟨a,k,x,z,rfl,rfl,by omega,I.here,hz,hD,ho⟩
   ·obtain⟨f1,f2⟩:=I.full hf
    refine⟨f1,λi u hi hu=>?_⟩
    rw[QfW rfl hi]
    exact f2 i u hi hu
   ·obtain⟨f1,f2⟩:=I.now hf
    show(List.filter _ (st.2.1++[_])).map _=_/\_
    rw[Qg8 rfl,List.map_append,f1]
    refine⟨rfl,λo' D=>?_⟩
    rcases YF.1 D with D | D
    ·exact f2 o' D
    simp at D;subst D;exact⟨z,XG hz,hD⟩
   obtain⟨e,he,r⟩:=I.tree k' h1 h2
   exact⟨e,OJ _ he,r⟩
  | none=>
   simp only
   by_cases cl:Xg b<=st.1.length
   ·rw[if_pos cl];exact down
   rw[if_neg cl]
   have hnone:=Qlw hk
   have hap:IC XK (st.1++[y]):=I.apart.add (by
    unfold QgD
    exact List.any_eq_false.2 λu hu=>by simpa using hnone u hu)
   have up:∀{i:Nat} {u:L_ Bag},st.1[i]? = some u->(st.1++[y])[i]? = some u:=λ{i u} hu=>by
    rw[Jd ((QX.1 hu).1)];exact hu
   have hnew:(st.1++[y])[st.1.length]? = some y:=by rw[Ki (Jn _),Nat.sub_self];rfl
   refine⟨λz hz=>?_,hap,by simp;omega,?_,up I.here,λe he=>?_,ascs _,λhf=>?_,λhf=>?_,λk' h1 h2=>?_⟩
   ·rcases YF.1 hz with hz | hz
    ·exact I.good z hz
    simp at hz;subst hz;exact hgy
   ·obtain⟨r,hr⟩:=I.head
    exact⟨r++[y],by show st.1++[y]=_;rw[hr];rfl⟩
   ·rcases YF.1 he with he | he
    ·obtain⟨i,j,u,v,h1,h2,h3,h4,h5,h6⟩:=I.edge e he
     exact⟨i,j,u,v,h1,h2,h3,up h4,up h5,h6⟩
    simp at he;subst he
    exact⟨a,st.1.length,x,y,rfl,rfl,by omega,up I.here,hnew,hD,ho⟩
   ·obtain⟨f1,f2⟩:=I.full hf
    refine⟨f1,λi u hi hu=>?_⟩
    have hu':st.1[i]? = some u:=by
     have hu:(st.1++[y])[i]? = some u:=hu
     rw[Jd (by omega)]at hu;exact hu
    obtain⟨g1,g2,g3,g4⟩:=f2 i u hi hu'
    rw[QfW rfl hi]
    refine⟨g1,g2,g3,λo' D=>?_⟩
    obtain⟨z,hz,hz2⟩:=g4 o' D
    exact⟨z,OJ _ hz,hz2⟩
   ·obtain⟨f1,f2⟩:=I.now hf
    show(List.filter _ (st.2.1++[_])).map _=_/\_
    rw[Qg8 rfl,List.map_append,f1]
    refine⟨rfl,λo' D=>?_⟩
    rcases YF.1 D with D | D
    ·obtain⟨z,hz,hz2⟩:=f2 o' D
     exact⟨z,OJ _ hz,hz2⟩
    simp at D;subst D;exact⟨y,by simp,hD⟩
   by_cases ck:k'=st.1.length
   ·subst ck
    exact⟨QZ.mk (a:Int) (st.1.length:Int) o,by simp,a,rfl,hal,rfl⟩
   have h2:k'<(st.1++[y]).length:=h2
   obtain⟨e,he,r⟩:=I.tree k' h1 (by simp at h2;omega)
   exact⟨e,OJ _ he,r⟩
 rw[if_neg c0];exact down
def QmG (h:Xn n)(hp:n.Places.length<=64){x:L_ Bag}{fl:Bool}:∀{X done:L_ Qj} {st:NS},QgO n m b tokens a x fl done st->(∀o∈X,Kv n o)->QgO n m b tokens a x fl (done++X) (X.foldl (Jh (Xg b) n x a) st):=by
 intro X
 induction X with
 | nil=>intro done st I _;simpa using I
 | cons o X ih=>
  intro done st I ho
  have:=ih (Qnw h hp I (ho o XM)) λo' D=>ho o' (XR _ D)
  rw[Wn]at this
  exact this
def QmH (h:Xn n)(hbd:Bd n)(hp:n.Places.length<=64):∀(f:Nat) {st:NS} {a:Nat},Xg b<f+a->Qoe n m b tokens a st->∃a',Qoe n m b tokens a' (KH n b tokens f st a)/\(KH n b tokens f st a).1.length<=a':=by
 intro f
 induction f with
 | zero=>intro st a hf I;exact⟨a,I,by have:=I.len;show st.1.length<=a;omega⟩
 | succ f ih=>
  intro st a hf I
  rw[KH]
  cases hx:st.1[a]? with
  | none=>exact⟨a,I,List.getElem?_eq_none_iff.1 hx⟩
  | some x=>
   simp only
   have hgx:=I.good x (XG hx)
   by_cases ct:tokens<VO x
   ·rw[if_pos ct]
    exact ih (by omega) ⟨I.good,I.apart,I.len,I.head,λe he=>by
     obtain⟨i,j,u,v,D,h2,h3,h4⟩:=I.edge e he
     exact⟨i,j,u,v,D,h2,by omega,h4⟩,I.asc,λe=>(by cases e),I.tree⟩
   rw[if_neg ct]
   obtain⟨q1,q2,q3⟩:=Zz b h hbd hgx
   have M0:QgO n m b tokens a x (st.2.2&&(YR n x b).2) [] (st.1,st.2.1,st.2.2&&(YR n x b).2):=⟨I.good,I.apart,I.len,I.head,hx,λe he=>by
    obtain⟨i,j,u,v,D,h2,h3,h4⟩:=I.edge e he
    exact⟨i,j,u,v,D,h2,by omega,h4⟩,I.asc,λe=>⟨e,I.full (QH _ _▸e).1⟩,λe=>⟨by
    rw[List.filter_eq_nil_iff.2 λe he=>by
     obtain⟨i,_,_,_,D,_,h3,_⟩:=I.edge e he
     rw[D];simp;omega];rfl,λo ho=>by cases ho⟩,I.tree⟩
   have M:=QmG h hp M0 λo ho=>Lx h (hgx.len h) (q3 o ho)
   rw[Rh]at M
   refine ih (by omega) ⟨M.good,M.apart,M.len,M.head,M.edge,M.asc,λhf i u hi hu=>?_,M.tree⟩
   obtain⟨f1,f2⟩:=M.full hf
   by_cases ci:i=a
   ·subst ci
    have:u=x:=Option.some.inj (hu.symm.trans M.here)
    subst this
    obtain⟨f3,f4⟩:=M.now hf
    rw[QH]at f1
    exact⟨by omega,f1.2,f3,f4⟩
   exact f2 i u (by omega) hu
end
def Da (n:Qe)(m:L_ Bag)(b tokens:Int):QN:=if b<=0 then QN.mk [] [] false else QN.mk (KH n b tokens (Xg b+1) ([m],[],true) 0).1 (KH n b tokens (Xg b+1) ([m],[],true) 0).2.1 (KH n b tokens (Xg b+1) ([m],[],true) 0).2.2
structure SOk (n:Qe) (m:List Bag) (b tokens:Int) (s:QN):Prop where
 good:∀y∈s.States,XZ n y
 apart:IC XK s.States
 len:s.States.length<=Xg b
 head:∃r,s.States=m::r
 edge:∀e∈s.Edges,∃(i j:Nat) (x y:List Bag),e.From=(i:Int)/\e.To=(j:Int)/\s.States[i]? = some x/\s.States[j]? = some y/\Yc n x e.Mode=some (y,0)/\Kv n e.Mode
 asc:s.Edges.Pairwise λe f=>e.From<=f.From
 full:s.Full=true->∀(i:Nat) (x:List Bag),s.States[i]? = some x->VO x<=tokens/\(YR n x b).2=true/\(s.Edges.filter λe=>e.From==(i:Int)).map (·.Mode)=(YR n x b).1/\∀o∈(YR n x b).1,∃y∈s.States,Yc n x o=some (y,0)
 tree:∀k:Nat,0<k->k<s.States.length->∃e∈s.Edges,∃i:Nat,e.From=(i:Int)/\i<k/\e.To=(k:Int)
def QmI {n:Qe}{m:L_ Bag}{b tokens:Int}(h:Xn n)(hbd:Bd n)(hp:n.Places.length<=64)(hg:XZ n m)(hb:0<b):SOk n m b tokens (Da n m b tokens):=by
 have hm:1<=Xg b:=by unfold Xg min2;split<;>omega
 obtain⟨a',I,hl⟩:=QmH (m:=m) (b:=b) (tokens:=tokens) h hbd hp (Xg b+1) (st:=([m],[],true)) (a:=0) (by omega) ⟨λy hy=>by simp at hy;subst hy;exact hg,Tp _ _,hm,⟨[],rfl⟩,λe he=>(by cases he),List.Pairwise.nil,λ_ i x hi=>by omega,λk h1 D=>by simp at D;omega⟩
 unfold Da
 rw[if_neg (by omega)]
 exact⟨I.good,I.apart,I.len,I.head,λe he=>by
  obtain⟨i,j,u,v,h1,D,_,h4⟩:=I.edge e he
  exact⟨i,j,u,v,h1,D,h4⟩,I.asc,λhf i x hx=>I.full hf i x (by have h3:i<(KH n b tokens (Xg b+1) ([m],[],true) 0).1.length:=(QX.1 hx).1;omega) hx,I.tree⟩
def Qnx {n:Qe}{m:L_ Bag}(b tokens:Int)(h:Xn n)(D:Bd n)(hg:XZ n m)(hb:b<=31):Hv n m b tokens=some (Da n m b tokens):=by
 rw[Qlx b tokens h D hg hb]
 unfold Da
 by_cases c:b<=0
 ·simp only[if_pos c]
 simp only[if_neg c]
def Rch (n:Qe):Prop:=(∀p∈n.Places,p.First.length*16<=140737488351232)/\∀c∈n.Colours,c.Names.length*16<=140737488351232
def Qly {n:Qe}(hk:Xm n)(hr:Rch n):Qd (AD n) λr=>r=true->(n.Colours.length<=40/\n.Places.length<=70/\n.Tasks.length<=70)/\∀p∈n.Places,p.First.length<=400:=by
 unfold AD
 refine T1 (λ_=>T2 λh=>by cases h) λD=>?_
 simp only[KZ,Xj]at D
 refine T6 (P:=λr=>r=true->∀p∈n.Places,p.First.length<=400) ?_ λr hr2 e=>⟨by omega,hr2 e⟩
 refine T0 (Qd.up n.Colours.length (λst=>st.2) (λst=>0<=st.1/\st.1<=400) (Q:=λq:Unit⊕Int=>∀x,q=.inr x->0<=x/\x<=400) rfl ⟨by show(0:Int)<=0;omega,by show(0:Int)<=400;omega⟩ (λi st hi hn hJ=>?_)) (λq hq=>?_)
 ·obtain⟨a,x⟩:=st
  replace hi:x=(i:Int):=hi
  subst hi
  obtain⟨j1,j2⟩:0<=a/\a<=400:=hJ
  show Qd (BA n a i) _
  unfold BA
  refine T1 (λD=>?_) (λ_=>T2 (Qn λx e=>by cases e;exact⟨j1,j2⟩))
  simp only[QK]at D
  refine T0 (T4 (by omega) (by omega)).self λe he=>?_
  obtain⟨he,hm⟩:=he
  have hel:=hr.2 e hm
  have hw:Qi (a+(e.Names.length:Int))=a+(e.Names.length:Int):=XX (by omega)
  refine T0 (P:=λy=>y=false->a+(e.Names.length:Int)<=400) ?_ λy hy=>?_
  ·unfold Oz
   rw[he,Qf,hw]
   exact T1 (λ_=>T2 λh=>by cases h) λ_=>T2 λh=>by simpa using h
  unfold OA
  refine T1 (λ_=>T2 (Qn λx e=>by cases e)) λhyf=>?_
  have hle:=hy hyf
  refine T0 (Qd.up e.Names.length (λst=>st) (λ_=>True) (Q:=λ_=>True) rfl trivial (λi2 st hi2 hn2 _=>?_)) (λq _=>?_)
  ·show Qd (Bz n i st) _
   unfold Bz
   simp only[he,Qf]
   refine T1 (λD=>?_) (λ_=>T2 (Qn trivial))
   simp only[QK]at D
   refine T0 (T4 (by omega) (by omega)) λs _=>?_
   refine T1 (λ_=>T2 (Qn trivial)) λ_=>?_
   exact T2 (QO ⟨by omega,by rw[hi2];exact Qy (by omega) (hk.1.2 e hm).2.2.2.2.1.1,trivial⟩)
  rcases q with q | q
  ·exact T2 (Qn λx e=>by cases e)
  refine T2 (QO ⟨by omega,Qy (by omega) hk.1.1,?_⟩)
  show 0<=Qi (a+(e.Names.length:Int))/\Qi (a+(e.Names.length:Int))<=400
  rw[hw];omega
 rcases q with q | q
 ·exact T2 λh=>by cases h
 have hq:=hq q rfl
 show Qd (Aj n q) _
 unfold Aj
 refine T0 (Qd.up n.Places.length (λst=>st.2) (λst=>0<=st.1/\st.1<=400+st.2*8796093022208/\∀(j:Nat) p,(j:Int)<st.2->n.Places[j]? = some p->(p.First.length:Int)<=st.1) (Q:=λq:Unit⊕Int=>∀x,q=.inr x->∀p∈n.Places,(p.First.length:Int)<=x) rfl ⟨hq.1,by show q<=400+0*8796093022208;omega,λj p hj=>by simp at hj;omega⟩ (λi st hi hn hJ=>?_)) (λq hq=>?_)
 ·obtain⟨a,x⟩:=st
  replace hi:x=(i:Int):=hi
  subst hi
  obtain⟨j1,j2,j3⟩:0<=a/\a<=400+(i:Int)*8796093022208/\∀(j:Nat) p,(j:Int)<(i:Int)->n.Places[j]? = some p->(p.First.length:Int)<=a:=hJ
  show Qd (BB n a i) _
  unfold BB
  refine T1 (λD=>?_) (λD=>T2 (Qn λx e p hp=>?_))
  ·simp only[QK]at D
   have i1:i<n.Places.length:=by omega
   rw[Xd,Qz i1,Qf,Qf]
   have hpl:=hr.1 _ (Yf i1)
   have hw:Qi (a+((n.Places[i]).First.length:Int))=a+((n.Places[i]).First.length:Int):=XX (by omega)
   have hw2:Qi ((i:Int)+1)=((i+1:Nat):Int):=Qy i1 hk.2.1.1
   refine T1 (λ_=>T2 (Qn λx e=>by cases e)) λ_=>T2 (QO ⟨i1,hw2,?_⟩)
   show 0<=Qi (a+((n.Places[i]).First.length:Int))/\Qi (a+((n.Places[i]).First.length:Int))<=400+Qi ((i:Int)+1)*8796093022208/\∀(j:Nat) p,(j:Int)<Qi ((i:Int)+1)->n.Places[j]? = some p->(p.First.length:Int)<=Qi (a+((n.Places[i]).First.length:Int))
   rw[hw,hw2]
   refine⟨by omega,by omega,λj p hj hp=>?_⟩
   by_cases cj:j=i
   ·subst cj
    rw[Qz i1]at hp;cases hp;omega
   have:=j3 j p (by omega) hp;omega
  cases e
  simp only[Xj]at D
  obtain⟨j,hj,rfl⟩:=Fs.1 hp
  exact j3 j _ (by omega) (Qz hj)
 rcases q with q | q
 ·exact T2 λh=>by cases h
 exact(Qi7 n hk q).mono λr hr2 e p hp=>by have:=hr2 e;have:=hq q rfl p hp;omega
def Qka {n:Qe}(hp:n.Places.length<=70)(hf:∀p∈n.Places,p.First.length<=400):Qd (Gz n) λm=>m.length=n.Places.length/\∀b∈m,b.length<=401:=by
 unfold Gz
 refine T0 (Qd.up n.Places.length (λst=>st.1) (λst=>(st.2.length:Int)=st.1/\∀b∈st.2,b.length<=401) (Q:=λm:L_ Bag=>m.length=n.Places.length/\∀b∈m,b.length<=401) rfl ⟨rfl,λb h=>by cases h⟩ (λi st hi hn hJ=>?_)) (λq hq=>T2 hq)
 obtain⟨x,l⟩:=st
 replace hi:x=(i:Int):=hi
 subst hi
 obtain⟨j1,j2⟩:(l.length:Int)=(i:Int)/\∀b∈l,b.length<=401:=hJ
 show Qd (MV n i l) _
 unfold MV
 refine T1 (λhc=>?_) (λhc=>T2 (Qn ?_))
 ·simp only[QK]at hc
  have i1:i<n.Places.length:=by omega
  have hpl:=hf _ (Yf i1)
  rw[Xd,Qz i1,Qf]
  have hw:Qi ((i:Int)+1)=((i+1:Nat):Int):=Qy i1 (by unfold maxLen;omega:n.Places.length<=maxLen)
  have k1:∀b:Bag,b.length<=401->Qd (GO l i b) λo=>(∀s',o=.inl s'->i<n.Places.length/\s'.1=((i+1:Nat):Int)/\(s'.2.length:Int)=s'.1/\∀b∈s'.2,b.length<=401)/\∀r:L_ Bag,o=.inr r->r.length=n.Places.length/\∀b∈r,b.length<=401:=λb hb=>by
   unfold GO
   refine T0 (T5 (by simp;omega)) λ_ _=>?_
   refine T2 (QO (ix:=λst:Int×L_ Bag=>st.1) (J:=λst:Int×L_ Bag=>(st.2.length:Int)=st.1/\∀b∈st.2,b.length<=401) ⟨i1,hw,by show((l++[b]).length:Int)=Qi _;rw[hw];simp;omega,λb' D=>?_⟩)
   rcases YF.1 D with D | D
   ·exact j2 b' D
   simp at D;subst D;exact hb
  unfold YL
  rw[Gr (by simp;omega)]
  simp only[Qf,Rh]
  refine T1 (λhc2=>?_) λ_=>k1 _ (by omega)
  rw[show Og ([0]:L_ Int)=some [(0,1)]from QfR 0,Qf]
  rcases HE (n.Places[i]).First [(0,1)] (by simp;omega)with⟨_,e⟩|⟨_,_,_,e⟩|⟨_,_,r,e,h1,_,h2⟩
  ·rw[e,Qf];exact k1 _ (by omega)
  ·rw[e,Qf];exact k1 _ (by omega)
  rw[e,Qf];exact k1 _ (by simp at h2;show r.length<=401;omega)
 simp only[Xj]at hc
 exact⟨by show l.length=_;omega,j2⟩
def CS (n:Qe):L_ Bag:=(Gz n).getD []
structure QfX (n:Qe) (b:Int):Prop where
 net:Xn n
 bd:Bd n
 pl:n.Places.length<=64
 good:XZ n (CS n)
 first:Gz n=some (CS n)
 bud:b<=16
def QmJ (n:Qe)(b:Int)(hn:Xm n)(hr:Rch n):Qd (NJ n b) λr=>r=true->QfX n b:=by
 unfold NJ
 refine T0 (Qly hn hr) λf hf=>?_
 refine T1 (λ_=>T2 λh=>by cases h) λhc=>?_
 simp only[KZ,AH,Xj]at hc
 obtain⟨h1,h2⟩:=hf hc.1
 refine T0 (Qka h1.2.1 h2).self λm hm=>?_
 obtain⟨D,hm1,hm2⟩:=hm
 refine T0 (QmA n m _ hn ⟨by unfold maxLen;omega,λb hb=>⟨by have:=hm2 b hb;unfold maxLen;omega,λ_ _=>trivial⟩⟩) λr hr2=>?_
 refine T2 λe=>?_
 obtain⟨g1,g2,g3,_⟩:=hr2 e
 have ef:CS n=m:=by unfold CS;rw[D];rfl
 exact⟨g1,g2,by omega,by rw[ef];exact g3,by rw[ef];exact D,by omega⟩
def Qlz {n:Qe}{m:L_ Bag}{b tokens:Int}(h:Xn n)(hbd:Bd n)(hg:XZ n m)(hb:b<=31):(Da n m b tokens).Edges.length<=130023424:=by
 have key:∀(K:Nat),K=4194304->∀(f:Nat) (st:NS) (a:Nat),(∀y∈st.1,XZ n y)->st.1.length<=Xg b->st.2.1.length<=a*K->a<=Xg b->(KH n b tokens f st a).2.1.length<=Xg b*K:=by
  intro K hK
  intro f
  induction f with
  | zero=>intro st a _ _ h3 h4;exact Yh h3 (YS _ h4)
  | succ f ih=>
   intro st a h1 h2 h3 h4
   rw[KH]
   cases hx:st.1[a]? with
   | none=>exact Yh h3 (YS _ h4)
   | some x=>
    simp only
    have ha:=(QX.1 hx).1
    have D:=h1 x (XG hx)
    split
    ·exact ih _ _ h1 h2 (by show st.2.1.length<=(a+1)*K;rw[Nat.succ_mul];omega) (by omega)
    obtain⟨q1,q2,q3⟩:=Zz b h hbd D
    obtain⟨g1,g2,g3⟩:=Qcs (a:=(a:Int)) (most:=Xg b) h D (X:=(YR n x b).1) (st:=(st.1,st.2.1,st.2.2&&(YR n x b).2)) (λo ho=>Lx h (D.len h) (q3 o ho)) h1 h2
    exact ih _ _ g1 g2 (by rw[Nat.succ_mul];simp only at g3;omega) (by omega)
 unfold Da
 split
 ·simp
 have hm:1<=Xg b/\Xg b<=31:=by unfold Xg min2;split<;>omega
 have:=key 4194304 rfl (Xg b+1) ([m],[],true) 0 (λy hy=>by simp at hy;subst hy;exact hg) (by simp;omega) (by simp) (by omega)
 show List.length _<=_
 have h2:Xg b*4194304<=31*4194304:=YS _ hm.2
 exact Yh this h2
end Go.Proofs
namespace Go.Rk
def YV (N:Nat)(k:Int):Prop:=0<=k/\k<N
instance (N : Nat) (k:Int):Decidable (YV N k):=inferInstanceAs (Decidable (_/\_))
def av (out:List Int)(k:Int):Int:=if 0<=k then out.getD k.toNat (-1)else -1
def Qct {out:List Int}{k:Int}(h:¬YV out.length k):av out k=-1:=by
 unfold av
 split
 ·rename_i D
  rw[List.getD_eq_getElem?_getD,List.getElem?_eq_none (by unfold YV at h;omega)];rfl
 rfl
def Qof {out:List Int}{k:Int}{x:Int}(D:0<=k)(h:out[k.toNat]? = some x):av out k=x:=by
 unfold av;rw[if_pos D,List.getD_eq_getElem?_getD,h];rfl
def SX {out:List Int}{k:Int}(h:YV out.length k):out[k.toNat]? = some (av out k):=by
 unfold av;rw[if_pos h.1,List.getD_eq_getElem?_getD]
 have:k.toNat<out.length:=by unfold YV at h;omega
 rw[List.getElem?_eq_getElem this];rfl
def QlA {out:List Int}{k:Int}(x:Int)(h:YV out.length k)(j:Int):av (out.set k.toNat x) j=if j=k then x else av out j:=by
 unfold av
 by_cases D:0<=j
 ·rw[if_pos D,List.getD_eq_getElem?_getD,List.getElem?_set,List.getD_eq_getElem?_getD]
  have:=h.1;have h2:=h.2
  by_cases e:j=k
  ·subst e;rw[if_pos rfl,if_pos (by omega),if_pos rfl];rfl
  rw[if_neg (by omega),if_neg e,if_pos D]
 rw[if_neg D,if_neg (by have:=h.1;omega),if_neg D]
def Qog {a b:List Int}(hl:a.length=b.length)(h:∀k,YV a.length k->av a k=av b k):a=b:=by
 apply List.ext_getElem? 
 intro i
 by_cases hi:i<a.length
 ·have h1:=h i ⟨by omega,by omega⟩
  have D:=@SX a i ⟨by omega,by omega⟩
  have h3:=@SX b i ⟨by omega,by omega⟩
  simp only[Int.toNat_natCast]at D h3
  rw[D,h3,h1]
 rw[List.getElem?_eq_none (by omega),List.getElem?_eq_none (by omega)]
structure Gs (N:Nat) (es:List (Int×Int)) (gs:List Int) (out:List Int):Prop where
 len:out.length=N
 lo:∀k,-1<=av out k
 goal:∀g,g∈gs->YV N g->av out g=0
 edge:∀u v,(u,v)∈es->YV N u->YV N v->0<=av out v->0<=av out u/\av out u<=av out v+1
 back:∀k,0<=av out k->(av out k=0/\k∈gs)\/∃v,(k,v)∈es/\YV N v/\0<=av out v/\av out k=av out v+1
variable {N:Nat}{es:List (Int×Int)}{gs:List Int}{a b:List Int}
def Gs.rng (h:Gs N es gs a){k:Int}(hk:0<=av a k):YV N k:=by
 by_cases D:YV a.length k
 ·rw[h.len]at D;exact D
 rw[Qct D]at hk;omega
def Gs.le (h:Gs N es gs a)(D:Gs N es gs b):∀n:Nat,∀k,av a k=n->0<=av b k/\av b k<=n:=by
 intro n
 induction n with
 | zero=>
  intro k hk
  rcases h.back k (by omega)with⟨_,hg⟩|⟨v,_,_,_,hv⟩
  ·rw[D.goal k hg (h.rng (by omega))];omega
  omega
 | succ n ih=>
  intro k hk
  have hr:=h.rng (k:=k) (by omega)
  rcases h.back k (by omega)with⟨h0,_⟩|⟨v,he,hv,h1,h2⟩
  ·omega
  obtain⟨h3,h4⟩:=ih v (by omega)
  have:=D.edge k v he hr hv h3
  omega
def Gs.unique (h:Gs N es gs a)(D:Gs N es gs b):a=b:=by
 refine Qog (by rw[h.len,D.len]) λk _=>?_
 have la:=h.lo k;have lb:=D.lo k
 by_cases h1:0<=av a k
 ·have x:=h.le D (av a k).toNat k (by omega)
  have y:=D.le h (av b k).toNat k (by omega)
  omega
 by_cases h2:0<=av b k
 ·have y:=D.le h (av b k).toNat k (by omega);omega
 omega
def QaW : ∀{l m:List Int},l.Nodup->(∀x,x∈l->x∈m)->l.length<=m.length:=by
 intro l
 induction l with
 | nil=>intro m _ _;simp
 | cons x l ih=>
  intro m h hs
  rw[List.nodup_cons]at h
  have hx:=hs x List.mem_cons_self
  have:=ih (m:=m.erase x) h.2 λy hy=>by
   have D:y≠x:=λe=>h.1 (e▸hy)
   exact(List.mem_erase_of_ne D).2 (hs y (List.mem_cons_of_mem _ hy))
  rw[List.length_erase_of_mem hx]at this
  have:=List.length_pos_of_mem hx
  simp only[List.length_cons];omega
def QmK (hl:a.length=N)(h:∀k,0<=av a k->(av a k=0/\k∈gs)\/∃v,(k,v)∈es/\YV N v/\0<=av a v/\av a k=av a v+1):∀n:Nat,∀k,av a k=n->∀m:Nat,m<=n->∃j,YV N j/\av a j=m:=by
 have rng:∀{k:Int},0<=av a k->YV N k:=λ{k} D=>by
  by_cases hr:YV a.length k
  ·rw[hl]at hr;exact hr
  rw[Qct hr]at D;omega
 intro n
 induction n with
 | zero=>intro k D m hm;exact⟨k,rng (by omega),by omega⟩
 | succ n ih=>
  intro k D m hm
  by_cases e:m=n+1
  ·exact⟨k,rng (by omega),by omega⟩
  rcases h k (by omega)with⟨h0,_⟩|⟨v,he,hv,h1,h2⟩
  ·omega
  exact ih v (by omega) m (by omega)
def QoS (hl:a.length=N)(D:∀k,0<=av a k->(av a k=0/\k∈gs)\/∃v,(k,v)∈es/\YV N v/\0<=av a v/\av a k=av a v+1)(k:Int):av a k<(N:Int)\/N=0:=by
 by_cases h:0<=av a k
 ·left
  have hs:=QmK hl D (av a k).toNat k (by omega)
  have:((List.range ((av a k).toNat+1)).map (λi:Nat=>(i:Int))).length<=a.length:=by
   refine QaW ?_ λx hx=>?_
   ·rw[List.Nodup,List.pairwise_map]
    exact(List.nodup_range).imp λh e=>h (by omega)
   obtain⟨i,hi,rfl⟩:=List.mem_map.1 hx
   rw[List.mem_range]at hi
   obtain⟨j,hj,he⟩:=hs i (by omega)
   rw[<-he]
   rw[<-hl]at hj
   exact List.mem_of_getElem? (SX hj)
  simp only[List.length_map,List.length_range]at this
  rw[hl]at this
  omega
 omega
def Gs.lt (h:Gs N es gs a)(k:Int):av a k<(N:Int)\/N=0:=QoS h.len h.back k
end Go.Rk
noncomputable section
namespace Go.Proofs
open Go Go.RowKit Go.Vm Go.Rk
abbrev Rw := Int×Int
def QaG (h:Int)(x:Rw):Bool:=decide (x.1<=h)||(decide (x.2<1)||decide (1048576<x.2))
def HF : Int->L_ Rw->Bool
 | _,[]=>true
 | h,x::l=>bif QaG h x then false else HF x.1 l
def Qcu (b:L_ Rw):Bool:=HF (-1) b
def QhA {b:L_ Rw}(D:b.length<=maxLen):Wx b=some (Qcu b):=by
 unfold Wx
 rw[TZ (l:=b) (s0:=(-1,0)) (λi (t:Int)=>(t,(i:Int))) (λi t x=>bif QaG t x then .inr (.inl ())else .inl x.1) (λ_=>.inr ()) ?_ ?_ (-1) rfl]
 ·have:∀(l:L_ Rw) k t,Sum.elim (λ(q:Unit)=>HR) (λ(q:Unit)=>HS) (Ba (λi t x=>bif QaG t x then .inr (.inl ())else .inl x.1) (λ_=>.inr ()) k t l)=some (HF t l):=by
   intro l
   induction l with
   | nil=>intro k t;rfl
   | cons x l ih=>
    intro k t
    rw[Ba,HF]
    cases QaG t x with
    | true=>rfl
    | false=>exact ih _ _
  exact this b 0 (-1)
 ·intro i t x hi hx
  have h:(i:Int)<b.length:=by omega
  unfold Kd
  simp only[h,decide_true,Xq,Xd,hx,Qf,Qy hi D]
  show(bif QaG t x then _ else _)=_
  cases QaG t x<;>rfl
 intro t
 unfold Kd
 simp
def QhB : ∀{l:L_ Rw} {D:Int},HF D l=true↔(∀x∈l,D<x.1/\1<=x.2/\x.2<=1048576)/\l.Pairwise λx y=>x.1<y.1:=by
 intro l
 induction l with
 | nil=>intro D;simp[HF]
 | cons x l ih=>
  intro D
  have e:QaG D x=false↔D<x.1/\1<=x.2/\x.2<=1048576:=by
   unfold QaG
   simp only[KZ,Xj,Int.not_le,Int.not_lt]
  rw[HF,YZ,Tn]
  cases hb:QaG D x with
  | true=>
   rw[hb]at e
   simp only[Xq,Bool.false_eq_true,false_iff]
   rintro ⟨⟨h,_⟩,_⟩
   exact absurd (e.2 h) (by simp)
  | false=>
   have h0:=e.1 hb
   simp only[Xw]
   rw[ih]
   constructor
   ·rintro ⟨h1,h2⟩
    exact⟨⟨h0,λy hy=>⟨by have:=(h1 y hy).1;omega,(h1 y hy).2⟩⟩,λy hy=>(h1 y hy).1,h2⟩
   rintro ⟨⟨_,h1⟩,h2,h3⟩
   exact⟨λy hy=>⟨h2 y hy,(h1 y hy).2⟩,h3⟩
abbrev Mk := L_ (L_ Rw)
def okM (m:Mk):Prop:=m.length<=maxLen/\∀b∈m,b.length<=maxLen
def okM.get {m:Mk}(h:okM m){i:Nat}{b:L_ Rw}(D:m[i]? = some b):b.length<=maxLen:=h.2 b (XG D)
def Qph (s:QN):Prop:=s.States.length<=maxLen/\s.Edges.length<=maxLen/\∀m∈s.States,okM m
structure BL (s:QN):Prop where
 ok:Qph s
 st:s.States.length<=40
 ed:s.Edges.length<=130023424
def BL.get {s:QN}(h:BL s){i:Nat}{m:Mk}(D:s.States[i]? = some m):okM m:=h.ok.2.2 m (XG D)
def cnt (s:QN)(e:QZ):Bool:=(decide (0<=e.From)&&decide (e.From<(s.States.length:Int)))&&(decide (0<=e.To)&&decide (e.To<(s.States.length:Int)))
def QcQ {s:QN}{e:QZ}:cnt s e=true↔YV s.States.length e.From/\YV s.States.length e.To:=by
 unfold cnt YV;simp only[QH,QK]
def YU (l:L_ QZ)(k:Int):L_ Int:=(l.filter λe=>e.To==k).map (·.From)
def es (s:QN):L_ (Int×Int):=s.Edges.map λe=>(e.From,e.To)
def Qcv {s:QN}{u v:Int}:(u,v)∈es s↔∃e∈s.Edges,e.From=u/\e.To=v:=by
 unfold es;rw[Ys];simp only[Prod.mk.injEq]
def Ve {s:QN}{u k:Int}:u∈YU (s.Edges.filter (cnt s)) k↔(u,k)∈es s/\YV s.States.length u/\YV s.States.length k:=by
 unfold YU
 rw[Qcv,Ys]
 constructor
 ·rintro ⟨e,he,rfl⟩
  rw[Eo,Eo,QcQ]at he
  obtain⟨⟨D,h2,h3⟩,h⟩:=he
  have h:e.To=k:=by simpa using h
  exact⟨⟨e,D,rfl,h⟩,h2,h▸h3⟩
 rintro ⟨⟨e,D,rfl,rfl⟩,h2,h3⟩
 exact⟨e,by rw[Eo,Eo,QcQ];exact⟨⟨D,h2,h3⟩,by simp⟩,rfl⟩
def Qcw {α:Type}{p D q:α->Bool}:∀{l:L_ α},(∀e∈l,(p e=true/\((D e=true/\q e=false)\/(D e=false/\q e=true)))\/(p e=false/\D e=false/\q e=false))->l.countP p=l.countP D+l.countP q:=by
 intro l
 induction l with
 | nil=>intro _;rfl
 | cons x l ih=>
  intro h
  have h1:=ih λe he=>h e (XR _ he)
  rw[List.countP_cons,List.countP_cons,List.countP_cons,h1]
  rcases h x XM with⟨a,⟨b,c⟩|⟨b,c⟩⟩|⟨a,b,c⟩<;>simp[a,b,c]<;>omega
end Go.Proofs
noncomputable section
namespace Go.Proofs
open Go Go.RowKit Go.Vm Go.Rk
structure QaH (s:QN) (gs:List Int) (r:Nat) (i:Nat) (out:List Int):Prop where
 len:out.length=s.States.length
 lo:∀k,-1<=av out k
 goal:∀g,g∈gs->YV s.States.length g->av out g=0
 back:∀k,0<=av out k->(av out k=0/\k∈gs)\/∃v,(k,v)∈es s/\YV s.States.length v/\0<=av out v/\av out k=av out v+1
 hi:∀k,av out k<=r+1
 hi0:i=0->∀k,av out k<=r
 old:∀u v,(u,v)∈es s->YV s.States.length u->YV s.States.length v->0<=av out v->av out v<r->0<=av out u/\av out u<=av out v+1
 cur:∀(j:Nat) e,j<i->s.Edges[j]? = some e->cnt s e=true->av out e.To=r->0<=av out e.From
def QaH.step {s:QN}{gs:L_ Int}{r i:Nat}{out:L_ Int}{e:QZ}(I:QaH s gs r i out)(he:s.Edges[i]? = some e)(c1:cnt s e=true)(c2:av out e.To=r)(c3:av out e.From<0):QaH s gs r (i+1) (out.set e.From.toNat ((r:Int)+1)):=by
 obtain⟨hr1,hr2⟩:=QcQ.1 c1
 have hr1':YV out.length e.From:=by rw[I.len];exact hr1
 have D:∀k,av (out.set e.From.toNat ((r:Int)+1)) k=if k=e.From then(r:Int)+1 else av out k:=QlA _ hr1'
 have hne:∀k,0<=av out k->k≠e.From:=λk hk e=>by subst e;omega
 refine { len:=by simpa using I.len,lo:=λk=>?_,goal:=λg h1 h2=>?_,back:=λk hk=>?_,hi:=λk=>?_,hi0:=λh=>by omega,old:=λu v h1 h2 h3 h4 h5=>?_,cur:=λj e' hj he' hc h=>?_ }
 ·rw[D];split
  ·omega
  exact I.lo k
 ·rw[D,if_neg (hne g (by rw[I.goal g h1 h2];omega))];exact I.goal g h1 h2
 ·rw[D]at hk ⊢
  by_cases c:k=e.From
  ·rw[if_pos c]
   refine .inr ⟨e.To,Qcv.2 ⟨e,XG he,c.symm,rfl⟩,hr2,?_⟩
   rw[D,if_neg (hne e.To (by omega))];omega
  rw[if_neg c]at hk ⊢
  rcases I.back k hk with h | ⟨v,h1,h2,h3,h4⟩
  ·exact .inl h
  exact .inr ⟨v,h1,h2,by rw[D,if_neg (hne v h3)];exact⟨h3,h4⟩⟩
 ·rw[D];split
  ·omega
  exact I.hi k
 ·rw[D]at h4 h5
  by_cases c:v=e.From
  ·rw[if_pos c]at h5;omega
  rw[if_neg c]at h4 h5
  obtain⟨h6,h7⟩:=I.old u v h1 h2 h3 h4 h5
  rw[D,if_neg (hne u h6),D,if_neg c];exact⟨h6,h7⟩
 rw[D]at h ⊢
 by_cases c:e'.To=e.From
 ·rw[if_pos c]at h;omega
 rw[if_neg c]at h
 by_cases c':e'.From=e.From
 ·rw[if_pos c'];omega
 rw[if_neg c']
 by_cases hji:j=i
 ·subst hji;rw[he]at he';cases he';exact absurd rfl c'
 exact I.cur j e' (by omega) he' hc h
def QaH.stay {s:QN}{gs:L_ Int}{r i:Nat}{out:L_ Int}{e:QZ}(I:QaH s gs r i out)(he:s.Edges[i]? = some e)(c:cnt s e=true->av out e.To=r->¬av out e.From<0):QaH s gs r (i+1) out:=by
 refine { I with hi0:=λh=>by omega,cur:=λj e' hj D hc h=>?_ }
 by_cases hji:j=i
 ·subst hji;rw[he]at D;cases D
  have:=c hc h;omega
 exact I.cur j e' (by omega) D hc h
def QaH.next {s:QN}{gs:L_ Int}{r:Nat}{out:L_ Int}(I:QaH s gs r s.Edges.length out):QaH s gs (r+1) 0 out:=by
 refine { I with hi:=λk=>by have:=I.hi k;omega,hi0:=λ_ k=>by have:=I.hi k;omega,old:=λu v D h2 h3 h4 h5=>?_,cur:=λj e' h=>by omega }
 by_cases c:av out v<r
 ·exact I.old u v D h2 h3 h4 c
 obtain⟨e,e1,rfl,rfl⟩:=Qcv.1 D
 obtain⟨j,h⟩:=Um.1 e1
 have h6:=I.cur j e (QX.1 h).1 h (QcQ.2 ⟨h2,h3⟩) (by omega)
 have:=I.hi e.From
 omega
end Go.Proofs
noncomputable section
namespace Go.Proofs
open Go Go.RowKit Go.Vm Go.Rk
def Qcx {s:QN}{k:Int}:UR k s=some (decide (YV s.States.length k)):=by
 unfold UR
 refine congrArg some ?_
 rw[Ti,decide_eq_true_iff,QH,decide_eq_true_iff,decide_eq_true_iff];exact Iff.rfl
def Qkb {s:QN}{e:QZ}:Ot e s=some (cnt s e):=by
 unfold Ot cnt
 rw[Qcx,Qcx,Qf]
 by_cases h:YV s.States.length e.From
 ·have D:=h.1;have h2:=h.2
  simp only[h,D,h2,decide_true,Xq,Qf,Bool.true_and]
  refine congrArg some ?_
  rw[Ti,decide_eq_true_iff,QH,decide_eq_true_iff,decide_eq_true_iff];exact Iff.rfl
 simp only[h,decide_false,Xw]
 refine congrArg some ?_
 have:(decide (0<=e.From)&&decide (e.From<(s.States.length:Int)))=false:=by
  rw[<-OF,QH,decide_eq_true_iff,decide_eq_true_iff];exact h
 rw[this];rfl
def QiX {s:QN}(h:BL s):∃m,QD (λst:Int×L_ (Int×L_ Int)=>Ih s st.1 st.2) (0,[])=some m/\∀k,(Qq m k).getD []=YU (s.Edges.filter (cnt s)) k:=by
 have hed:=h.ed
 refine CX s.Edges.length (λi st=>st.1=(i:Int)/\∀k,(Qq st.2 k).getD []=YU ((s.Edges.take i).filter (cnt s)) k) _ (λi st hi hs=>?_) (λst hs=>?_) (0,[]) ⟨rfl,λk=>by simp[YU,Qq]⟩
 ·obtain⟨j,m⟩:=st
  obtain⟨hj,D⟩:=hs
  simp only at hj D
  subst hj
  left
  have h1:(i:Int)<s.Edges.length:=by omega
  have ht:s.Edges.take (i+1)=s.Edges.take i++[s.Edges[i]]:=Ri hi
  unfold Ih Za Ig
  simp only[h1,decide_true,Xq,Xd,Qz hi,Qf,Qkb,Qy hi h.ok.2.1]
  cases hc:cnt s s.Edges[i]with
  | false=>
   refine⟨_,rfl,rfl,λk=>?_⟩
   rw[ht,Fp,GJ,hc]
   simpa using D k
  | true=>
   have hlen:(YU ((s.Edges.take i).filter (cnt s)) s.Edges[i].To).length<=130023424:=by
    unfold YU
    rw[GK]
    refine Yh (Fq _ _) (Yh (Fq _ _) ?_)
    rw[Wo];omega
   simp only[Xq,D]
   rw[Gr (show(YU ((s.Edges.take i).filter (cnt s)) s.Edges[i].To).length+([s.Edges[i].From]:L_ Int).length<=4294967296 by simp only[BU];omega)]
   refine⟨_,rfl,rfl,λk=>?_⟩
   simp only[JJ]
   have e:YU ((s.Edges.take (i+1)).filter (cnt s)) k=YU ((s.Edges.take i).filter (cnt s)) k++(if s.Edges[i].To=k then [s.Edges[i].From]else []):=by
    rw[ht,Fp,GJ,hc]
    unfold YU
    by_cases c:s.Edges[i].To=k<;>simp[c]
   rw[e]
   by_cases c:k=s.Edges[i].To
   ·subst c;simp
   rw[if_neg c,if_neg (λe=>c e.symm),D k];simp
 obtain⟨j,m⟩:=st
 obtain⟨hj,D⟩:=hs
 simp only at hj D
 subst hj
 refine⟨m,by simp[Ih],λk=>?_⟩
 rw[D k,Ft]
def left (N:Nat)(m:L_ (Int×Int)):Nat:=(List.range N).countP λj:Nat=>(Qq m (j:Int)).isNone
def QiA {N:Nat}{m:L_ (Int×Int)}{u v:Int}(D:YV N u)(hn:Qq m u=none):left N m=left N (XD KM m u v)+1:=by
 unfold left
 have h1:(List.range N).countP (λj:Nat=>decide ((j:Int)=u))=1:=by
  obtain⟨n,rfl⟩:∃n:Nat,u=(n:Int):=⟨u.toNat,by have:=D.1;omega⟩
  have h:n<N:=by have:=D.2;omega
  have:(λj:Nat=>decide ((j:Int)=(n:Int)))=λj=>j==n:=by
   funext j;rw[Ti,decide_eq_true_iff,beq_iff_eq];omega
  rw[this,<-List.count_eq_countP]
  have:=List.nodup_range (n:=N)
  rw[List.Nodup.count this,if_pos (Ep.2 h)]
 rw[<-h1]
 refine Qcw λj _=>?_
 rw[JJ]
 by_cases c:(j:Int)=u
 ·left;subst c;simp[hn]
 rw[if_neg c]
 cases Qq m (j:Int)with
 | none=>left;simp[c]
 | some x=>right;simp[c]
structure QiB (s:QN) (k:Int) (m:List (Int×Int)) (w:List Int):Prop where
 rng:∀j d,Qq m j=some d->YV s.States.length j/\0<=d/\d+(left s.States.length m:Int)<=s.States.length
 goal:Qq m k=some 0
 back:∀j d,Qq m j=some d->(d=0/\j=k)\/∃v d',(j,v)∈es s/\YV s.States.length v/\Qq m v=some d'/\d=d'+1
 wait:∀x,x∈w->∃d,Qq m x=some d
 edge:∀u v d,(u,v)∈es s->YV s.States.length u->YV s.States.length v->Qq m v=some d->v∈w\/∃c,Qq m u=some c/\c<=d+1
 sort:w.Pairwise λx y=>∀a b,Qq m x=some a->Qq m y=some b->a<=b
 near:∀x r,w=x::r->∀j d a,Qq m j=some d->Qq m x=some a->d<=a+1
 few:w.length+left s.States.length m<=s.States.length+1
structure BIn (s:QN) (m0:List (Int×Int)) (w0:List Int) (x dx:Int) (i:Nat) (m:List (Int×Int)) (w:List Int):Prop where
 mono:∀j d,Qq m0 j=some d->Qq m j=some d
 new:∀j d,Qq m j=some d->Qq m0 j=some d\/(Qq m0 j=none/\d=dx+1/\(j,x)∈es s/\YV s.States.length j/\j∈w)
 app:∃ws,w=w0++ws/\∀y,y∈ws->Qq m y=some (dx+1)
 done:∀u,u∈(YU (s.Edges.filter (cnt s)) x).take i->∃c,Qq m u=some c
 sz:w.length+left s.States.length m=w0.length+left s.States.length m0
def Qkc {s:QN}{k:Int}{mi:L_ (Int×L_ Int)}{m0:L_ (Int×Int)}{x:Int}{r:L_ Int}{dx:Int}(h:BL s)(hmi:∀k,(Qq mi k).getD []=YU (s.Edges.filter (cnt s)) k)(I:QiB s k m0 (x::r))(hx:Qq m0 x=some dx):
  ∃q,QD (λst:Int×L_ (Int×Int)×L_ Int=>Ij mi x st.1 st.2.1 st.2.2) (0,m0,x::r)=some q/\BIn s m0 (x::r) x dx (YU (s.Edges.filter (cnt s)) x).length q.1 q.2:=by
 have hst:=h.st;have hed:=h.ed
 have hfl:(YU (s.Edges.filter (cnt s)) x).length<=130023424:=by
  unfold YU
  rw[GK]
  exact Yh (Fq _ _) (Yh (Fq _ _) hed)
 refine CX (YU (s.Edges.filter (cnt s)) x).length (λi st=>st.1=(i:Int)/\BIn s m0 (x::r) x dx i st.2.1 st.2.2) _ (λi st hi hs=>.inl ?_) (λst hs=>?_) (0,m0,x::r)
  ⟨rfl,λj d h=>h,λj d h=>.inl h,⟨[],by simp,by simp⟩,by simp,rfl⟩
 ·obtain⟨j,m,w⟩:=st
  obtain⟨hj,J⟩:=hs
  simp only at hj J
  subst hj
  have hi':(i:Int)<(YU (s.Edges.filter (cnt s)) x).length:=by omega
  have hgu:=Qz hi
  generalize hu:(YU (s.Edges.filter (cnt s)) x)[i]=u at hgu
  have hum:u∈YU (s.Edges.filter (cnt s)) x:=by rw[<-hu];exact Yf _
  obtain⟨hue,hur,_⟩:=Ve.1 hum
  have htk:(YU (s.Edges.filter (cnt s)) x).take (i+1)=(YU (s.Edges.filter (cnt s)) x).take i++[u]:=by rw[Ri hi,hu]
  obtain⟨ws,hw,hws⟩:=J.app
  have hsz:=J.sz
  have hfew:=I.few
  unfold Ij Ii
  simp only[hmi,hi',decide_true,Xq,Xd,hgu,Qf,Qy hi (show(YU (s.Edges.filter (cnt s)) x).length<=maxLen by unfold maxLen;omega)]
  cases hmu:Qq m u with
  | some c=>
   simp only[Option.isSome_some,En,Xw]
   refine⟨_,rfl,rfl,{ J with done:=λy hy=>?_ }⟩
   rw[htk,YF,AI]at hy
   rcases hy with hy | rfl
   ·exact J.done y hy
   exact⟨c,hmu⟩
  | none=>
   have hw0:w[0]? = some x:=by rw[hw];rfl
   have hd:=(I.rng x dx hx).2
   have e1:Qi ((Qq m x).getD 0+1)=dx+1:=by rw[J.mono x dx hx];exact XX (by simp only[Eg];omega)
   have e2:idx w 0=some x:=by rw[show(0:Int)=((0:Nat):Int)from rfl,Xd];exact hw0
   simp only[Option.isSome_none,Tk,Xq,e1,e2,Qf]
   have hls:=QiA (v:=dx+1) hur hmu
   have hwl:w.length=(x::r).length+ws.length:=by rw[hw,Kb]
   have hll:left s.States.length m0<=s.States.length:=by unfold left;refine Yh List.countP_le_length ?_;simp
   have hw2:w.length<=200:=by omega
   rw[Gr (by simp only[BU];omega)]
   refine⟨_,rfl,rfl,{ mono:=λj d D=>?_,new:=λj d D=>?_,app:=⟨ws++[u],by rw[hw];simp,λy hy=>?_⟩,done:=λy hy=>?_,sz:=?_ }⟩
   ·simp only[JJ]
    by_cases c:j=u
    ·subst c;rw[J.mono j d D]at hmu;cases hmu
    rw[if_neg c];exact J.mono j d D
   ·simp only[JJ]at D
    by_cases c:j=u
    ·subst c
     rw[if_pos rfl]at D;cases D
     right
     refine⟨?_,rfl,hue,hur,by simp⟩
     cases h0:Qq m0 j with
     | none=>rfl
     | some d=>rw[J.mono j d h0]at hmu;cases hmu
    rw[if_neg c]at D
    rcases J.new j d D with h | ⟨a,b,c1,c2,c3⟩
    ·exact .inl h
    exact .inr ⟨a,b,c1,c2,OJ _ c3⟩
   ·simp only[JJ]
    by_cases c:y=u
    ·rw[if_pos c]
    rw[if_neg c]
    rcases YF.1 hy with h | h
    ·exact hws y h
    exact absurd (AI.1 h) c
   ·rw[htk,YF,AI]at hy
    simp only[JJ]
    by_cases c:y=u
    ·exact⟨_,if_pos c⟩
    rw[if_neg c]
    rcases hy with hy | hy
    ·exact J.done y hy
    exact absurd hy c
   simp only[Kb,BU];omega
 obtain⟨j,m,w⟩:=st
 obtain⟨hj,J⟩:=hs
 simp only at hj J
 subst hj
 exact⟨(m,w),by simp[Ij,hmi],J⟩
def QlB {s:QN}{k:Int}{mi:L_ (Int×L_ Int)}{m:L_ (Int×Int)}{w:L_ Int}(h:BL s)(hmi:∀k,(Qq mi k).getD []=YU (s.Edges.filter (cnt s)) k)(I:QiB s k m w)(hw:w≠[]):
  ∃m' w',Ik mi m w=some (.inl (m',w'))/\QiB s k m' w'/\w'.length+left s.States.length m'<w.length+left s.States.length m:=by
 cases w with
 | nil=>exact absurd rfl hw
 | cons x r=>
  obtain⟨dx,hx⟩:=I.wait x XM
  obtain⟨⟨m',w'⟩,h1,J⟩:=Qkc h hmi I hx
  simp only at J
  obtain⟨ws,hws,hwd⟩:=J.app
  have D:=J.sz
  have hfew:=I.few
  have hdx:=I.rng x dx hx
  have hnear:=I.near x r rfl
  have hall:∀j d,Qq m' j=some d->d<=dx+1:=λj d hj=>by
   rcases J.new j d hj with h | ⟨_,h,_⟩
   ·exact hnear j d dx h hx
   omega
  have hx':=J.mono x dx hx
  refine⟨m',r++ws,?_,?_,by rw[hws]at D;simp at D ⊢;omega⟩
  ·unfold Ik Zb
   have e0:(0:Int)<((x::r).length:Int):=by simp only[DP];omega
   have e2:idx (x::r) 0=some x:=by rw[show(0:Int)=((0:Nat):Int)from rfl,Xd];rfl
   simp only[e0,decide_true,Xq,e2,Qf,h1]
   rw[Rz (by rw[hws];simp)]
   simp[hws]
  have old:∀y,y∈r->∃d,Qq m y=some d:=λy hy=>I.wait y (XR _ hy)
  have hs:=Tn.1 I.sort
  refine { rng:=λj d hj=>?_,goal:=J.mono _ _ I.goal,back:=λj d hj=>?_,wait:=λy hy=>?_,edge:=λu v d q1 q2 q3 q4=>?_,sort:=?_,near:=λy q hq j d a hj ha=>?_,few:=?_ }
  ·have hl:left s.States.length m'<=left s.States.length m:=by rw[hws]at D;simp at D;omega
   rcases J.new j d hj with h | ⟨a,b,c,e,f⟩
   ·obtain⟨p,q,t⟩:=I.rng j d h;exact⟨p,q,by omega⟩
   refine⟨e,by omega,?_⟩
   have hwl:1<=ws.length:=by
    rw[hws]at f
    rcases YF.1 f with g | g
    ·obtain⟨d',hd'⟩:=I.wait j g;rw[a]at hd';cases hd'
    exact List.length_pos_of_mem g
   rw[hws]at D;simp only[Kb]at D;omega
  ·rcases J.new j d hj with h | ⟨a,b,c,e,f⟩
   ·rcases I.back j d h with h | ⟨v,d',p,q,t,u⟩
    ·exact .inl h
    exact .inr ⟨v,d',p,q,J.mono _ _ t,u⟩
   exact .inr ⟨x,dx,c,hdx.1,hx',b⟩
  ·rcases YF.1 hy with h | h
   ·obtain⟨d,hd⟩:=old y h;exact⟨d,J.mono _ _ hd⟩
   exact⟨_,hwd y h⟩
  ·by_cases c:v=x
   ·subst c
    right
    rw[hx']at q4;cases q4
    obtain⟨c,hc⟩:=J.done u (by rw[Ft];exact Ve.2 ⟨q1,q2,q3⟩)
    exact⟨c,hc,hall u c hc⟩
   rcases J.new v d q4 with h | ⟨a,b,_,_,f⟩
   ·rcases I.edge u v d q1 q2 q3 h with g | ⟨c',g1,g2⟩
    ·rcases Yg.1 g with g | g
     ·exact absurd g c
     exact .inl (OJ _ g)
    exact .inr ⟨c',J.mono _ _ g1,g2⟩
   left
   rw[hws]at f
   rcases YF.1 f with g | g
   ·obtain⟨d',hd'⟩:=I.wait v g;rw[a]at hd';cases hd'
   exact List.mem_append_right _ g
  ·rw[QeM]
   refine⟨(hs.2).imp_of_mem λ{a b} ha hb hab p q hp hq=>?_,?_,λa ha b hb p q hp hq=>?_⟩
   ·obtain⟨p',hp'⟩:=old a ha
    obtain⟨q',hq'⟩:=old b hb
    rw[J.mono _ _ hp']at hp;rw[J.mono _ _ hq']at hq;cases hp;cases hq
    exact hab _ _ hp' hq'
   ·refine List.pairwise_of_forall_mem_list λa ha b hb p q hp hq=>?_
    rw[hwd a ha]at hp;rw[hwd b hb]at hq;cases hp;cases hq;exact Int.le_refl _
   rw[hwd b hb]at hq;cases hq
   exact hall a p hp
  ·have h5:dx<=a:=by
    have hym:y∈r++ws:=by rw[hq];exact XM
    rcases YF.1 hym with h | h
    ·obtain⟨a',ha'⟩:=old y h
     rw[J.mono _ _ ha']at ha;cases ha
     exact hs.1 y h dx _ hx ha'
    rw[hwd y h]at ha;cases ha;omega
   have:=hall j d hj;omega
  rw[hws]at D;simp only[Kb,DP]at D hfew ⊢;omega
def QmL {s:QN}{k:Int}(h:BL s)(hk:YV s.States.length k){f:L_ Int}(hf:Gs s.States.length (es s) [k] f):∃m,OT s k=some m/\(∀j,Qq m j=if 0<=av f j then some (av f j)else none):=by
 obtain⟨mi,m1,m2⟩:=QiX h
 have hst:=h.st
 unfold OT
 rw[Qcx,Qf]
 simp only[hk,decide_true,En,Xw,m1,Qf]
 unfold TQ
 have g0:∀j,Qq (XD KM ([]:L_ (Int×Int)) k 0) j=if j=k then some 0 else none:=λj=>by rw[JJ];rfl
 have gk:Qq (XD KM ([]:L_ (Int×Int)) k 0) k=some 0:=by rw[g0,if_pos rfl]
 have gs:∀j d,Qq (XD KM ([]:L_ (Int×Int)) k 0) j=some d->j=k/\d=0:=λj d D=>by
  rw[g0]at D
  split at D
  ·rename_i e;cases D;exact⟨e,rfl⟩
  cases D
 have hleft:left s.States.length (XD KM ([]:L_ (Int×Int)) k 0)+1=s.States.length:=by
  rw[<-QiA (m:=[]) hk rfl]
  unfold left
  have e:(λj:Nat=>(Qq ([]:L_ (Int×Int)) (j:Int)).isNone)=λ_=>true:=rfl
  rw[e];simp
 have key:∃r,QD (λst:L_ (Int×Int)×L_ Int=>Ik mi st.1 st.2) (XD KM [] k 0,[k])=some r/\QiB s k r []:=by
  refine Pd (λst:L_ (Int×Int)×L_ Int=>QiB s k st.1 st.2) (λst:L_ (Int×Int)×L_ Int=>st.2.length+left s.States.length st.1) _ ?_ (XD KM [] k 0,[k]) ?_
  ·rintro ⟨m,w⟩ I
   simp only at I
   by_cases hw:w=[]
   ·subst hw;right;exact⟨m,rfl,I⟩
   left
   obtain⟨m',w',a,b,c⟩:=QlB h m2 I hw
   exact⟨(m',w'),a,b,c⟩
  refine { rng:=λj d D=>?_,goal:=gk,back:=λj d D=>.inl ((gs j d D).symm),wait:=λx hx=>?_,edge:=λu v d _ _ _ h4=>?_,sort:=Tp _ _,near:=λx r hr j d a D ha=>?_,few:=by simp;omega }
  ·obtain⟨rfl,rfl⟩:=gs j d D;exact⟨hk,Int.le_refl _,by simp only;omega⟩
  ·rw[AI]at hx;subst hx;exact⟨0,gk⟩
  ·left;rw[(gs v d h4).1];exact AI.2 rfl
  rw[(gs j d D).2,(gs x a ha).2];omega
 obtain⟨m,r1,I⟩:=key
 refine⟨m,by rw[r1];rfl,?_⟩
 have hv:∀j,av ((List.range s.States.length).map λj:Nat=>(Qq m (j:Int)).getD (-1)) j=(Qq m j).getD (-1):=λj=>by
  by_cases hr:YV s.States.length j
  ·obtain⟨n,rfl⟩:∃n:Nat,j=(n:Int):=⟨j.toNat,by have:=hr.1;omega⟩
   refine Qof (by omega) ?_
   rw[XQ,List.getElem?_range (by have:=hr.2;omega)];rfl
  rw[Qct (by simpa using hr)]
  cases hm:Qq m j with
  | none=>rfl
  | some d=>exact absurd (I.rng j d hm).1 hr
 have hsome:∀j,0<=(Qq m j).getD (-1)->Qq m j=some ((Qq m j).getD (-1)):=λj D=>by
  cases hm:Qq m j with
  | none=>rw[hm]at D;simp at D
  | some d=>rfl
 have hI:Gs s.States.length (es s) [k] ((List.range s.States.length).map λj:Nat=>(Qq m (j:Int)).getD (-1)):=by
  refine { len:=by simp,lo:=λj=>?_,goal:=λg hg _=>?_,edge:=λu v h1 h2 h3 h4=>?_,back:=λj D=>?_ }
  ·rw[hv]
   cases hm:Qq m j with
   | none=>simp
   | some d=>have:=(I.rng j d hm).2;simp only[Eg];omega
  ·rw[AI]at hg;subst hg;rw[hv,I.goal];rfl
  ·rw[hv]at h4
   rw[hv,hv]
   rcases I.edge u v _ h1 h2 h3 (hsome v h4)with h | ⟨c,c1,c2⟩
   ·cases h
   rw[c1];have:=(I.rng u c c1).2;simp only[Eg];omega
  rw[hv]at D
  rcases I.back j _ (hsome j D)with⟨h1,h2⟩|⟨v,d',a,b,c,e⟩
  ·left;rw[hv];exact⟨h1,by rw[h2];exact AI.2 rfl⟩
  right
  refine⟨v,a,b,?_⟩
  rw[hv,hv,c]
  have:=(I.rng v d' c).2
  simp only[Eg];omega
 have:=hf.unique hI
 intro j
 have e:av f j=(Qq m j).getD (-1):=by rw[this];exact hv j
 rw[e]
 cases hm:Qq m j with
 | none=>simp
 | some d=>have:=(I.rng j d hm).2.1;simp[this]
def QmM {s:QN}(h:BL s)(k:Int):OU s k=some (WE (λe:QZ=>e.From==k) 0 s.Edges):=by
 have hed:=h.ed
 unfold OU
 rw[SN (l:=s.Edges) (λe:QZ=>e.From==k)]
 ·rfl
 ·intro i D x ha hi hx
  have h1:(i:Int)<s.Edges.length:=by omega
  have hc:decide (D.length+([(i:Int)]:L_ Int).length<=4294967296)=true:=Yw (by simp;omega)
  simp only[Ou,Il,h1,decide_true,Xq,Xd,hx,Qf,Qy hi h.ok.2.1,Rz hc]
  cases x.From==k<;>rfl
 intro D;simp[Ou]
end Go.Proofs
noncomputable section
namespace Go.Proofs
open Go Go.RowKit Go.Vm Go.Rk
def QiC {α:Type}(p:α->Bool):∀(l:L_ α) k,(WE p k l).length<=l.length:=by
 intro l
 induction l with
 | nil=>intro k;simp[WE]
 | cons x l h=>
  intro k
  rw[WE]
  have:=h (k+1)
  cases p x
  ·simp;omega
  simp;omega
def QcR (s:QN)(f:L_ Int)(a:Int)(_:Nat)(x:Int):Bool:=((s.Edges[x.toNat]?).map λe=>decide (0<=av f e.To)&&(av f e.To==av f a-1)).getD false
def nx (s:QN)(f:L_ Int)(a:Int):O_ QZ:=(Ar (QcR s f a) 0 (WE (λe:QZ=>e.From==a) 0 s.Edges)).bind λi=>((WE (λe:QZ=>e.From==a) 0 s.Edges)[i]?).bind λx=>s.Edges[x.toNat]?
def GG (s:QN)(f:L_ Int):Nat->Int->L_ Qj
 | 0,_=>[]
 | d+1,a=>match nx s f a with
  | some e=>e.Mode::GG s f d e.To
  | none=>[]
section
variable {s:QN}{k:Int}{f:L_ Int}
def Qcy {a:Int}{i:Nat}{x:Int}(hx:(WE (λe:QZ=>e.From==a) 0 s.Edges)[i]? = some x):∃j e,x=((j:Nat):Int)/\s.Edges[j]? = some e/\e.From=a:=by
 obtain⟨j,e,h,D,h3⟩:=Qax.1 (XG hx)
 exact⟨j,e,by rw[h3];simp,h,by simpa using D⟩
def Qcz {a:Int}{n j:Nat}{e:QZ}(h:s.Edges[j]? = some e):QcR s f a n ((j:Nat):Int)=(decide (0<=av f e.To)&&(av f e.To==av f a-1)):=by
 unfold QcR
 rw[Ye,h];rfl
def Qjg (hf:Gs s.States.length (es s) [k] f){a:Int}(hp:0<av f a):∃n j e,Ar (QcR s f a) 0 (WE (λe:QZ=>e.From==a) 0 s.Edges)=some n/\(WE (λe:QZ=>e.From==a) 0 s.Edges)[n]? = some ((j:Nat):Int)/\
  s.Edges[j]? = some e/\nx s f a=some e/\0<=av f e.To/\av f e.To=av f a-1:=by
 cases hs:Ar (QcR s f a) 0 (WE (λe:QZ=>e.From==a) 0 s.Edges)with
 | none=>
  exfalso
  rcases hf.back a (by omega)with⟨h1,_⟩|⟨v,h1,D,h,h4⟩
  ·omega
  obtain⟨e,e1,e2,rfl⟩:=Qcv.1 h1
  obtain⟨j,hj⟩:=Um.1 e1
  have hm:((j:Nat):Int)∈WE (λe:QZ=>e.From==a) 0 s.Edges:=Qax.2 ⟨j,e,hj,by simpa using e2,by simp⟩
  obtain⟨i,hi⟩:=Um.1 hm
  have:=QaA hs i _ hi
  rw[Qcz hj]at this
  have h5:(decide (0<=av f e.To)&&(av f e.To==av f a-1))=true:=by
   simp only[QH,QK,beq_iff_eq];omega
  rw[h5]at this;cases this
 | some n=>
  obtain⟨i,x,h1,D,h⟩:=Qaz hs
  obtain rfl:n=i:=by omega
  obtain⟨j,e,rfl,h4,h5⟩:=Qcy D
  rw[Qcz h4]at h
  simp only[QH,QK,beq_iff_eq]at h
  refine⟨n,j,e,rfl,D,h4,?_,h.1,h.2⟩
  unfold nx
  rw[hs,Qf,D,Qf,Ye,h4]
def QiY (hf:Gs s.States.length (es s) [k] f){a:Int}(hp:0<av f a){e:QZ}(h:nx s f a=some e)(D:av f e.To=av f a-1):GG s f (av f a).toNat a=e.Mode::GG s f (av f e.To).toNat e.To:=by
 have:(av f a).toNat=(av f e.To).toNat+1:=by omega
 rw[this,GG,h]
def Qkd : ∀(d:Nat) (a:Int),(GG s f d a).length<=d:=by
 intro d
 induction d with
 | zero=>intro a;simp[GG]
 | succ d h=>
  intro a
  rw[GG]
  cases nx s f a with
  | none=>simp
  | some e=>simpa using h e.To
def Qke (h:BL s)(hk:YV s.States.length k)(hf:Gs s.States.length (es s) [k] f):WD s k=some (GG s f (av f 0).toNat 0):=by
 obtain⟨m,m1,m2⟩:=QmL h hk hf
 have hst:=h.st;have hed:=h.ed
 have hle:∀j,av f j<=40:=λj=>by
  rcases hf.lt j with h | h
  ·omega
  unfold YV at hk;omega
 unfold WD
 rw[m1,Qf]
 by_cases h0:0<=av f 0
 ·have e0:Qq m 0=some (av f 0):=by rw[m2,if_pos h0]
  simp only[e0,Option.isSome_some,En,Xw]
  have key:∃r,QD (λst:L_ Qj×Int=>Np m s st.1 st.2) ([],0)=some r/\r=GG s f (av f 0).toNat 0:=by
   refine Pd (λst:L_ Qj×Int=>0<=av f st.2/\st.1++GG s f (av f st.2).toNat st.2=GG s f (av f 0).toNat 0/\(st.1.length:Int)+av f st.2=av f 0) (λst:L_ Qj×Int=>(av f st.2).toNat) _ ?_ ([],0) ⟨h0,by simp,by simp⟩
   rintro ⟨out,a⟩ ⟨ha,hl,hlen⟩
   simp only at ha hl hlen
   have ea:Qq m a=some (av f a):=by rw[m2,if_pos ha]
   unfold Np
   simp only[ea,Eg]
   by_cases hp:0<av f a
   ·left
    have hla:=hle a
    obtain⟨n,j,e,n1,n2,n3,n4,n5,n6⟩:=Qjg hf hp
    have D:KG (WE (λe:QZ=>e.From==a) 0 s.Edges) m s a=some (n:Int):=by
     have hll:=QiC (λe:QZ=>e.From==a) s.Edges 0
     unfold KG
     rw[Qcb (l:=WE (λe:QZ=>e.From==a) 0 s.Edges) (s0:=0) (λi=>(i:Int)) (QcR s f a) (λi=>Sum.inl (i:Int)) (Sum.inr ()) ?_ ?_ rfl]
     ·rw[n1];rfl
     ·intro i x hi hx
      have h1:(i:Int)<(WE (λe:QZ=>e.From==a) 0 s.Edges).length:=by omega
      obtain⟨j,e,rfl,h3,h4⟩:=Qcy hx
      unfold WR Ov
      simp only[h1,decide_true,Xq,Xd,hx,h3,Qf,ea,Eg,XX (show -9223372036854775808<=av f a-1/\av f a-1<=9223372036854775807 by omega),Qy hi (show(WE (λe:QZ=>e.From==a) 0 s.Edges).length<=maxLen by unfold maxLen;omega)]
      rw[Qcz h3]
      have:((Qq m e.To).isSome&&((Qq m e.To).getD 0==av f a-1))=(decide (0<=av f e.To)&&(av f e.To==av f a-1)):=by
       rw[m2]
       by_cases c:0<=av f e.To
       ·simp[c]
       simp[c]
      rw[<-this]
      cases ((Qq m e.To).isSome&&((Qq m e.To).getD 0==av f a-1))<;>rfl
     simp[WR]
    refine⟨(out++[e.Mode],e.To),?_,⟨n5,?_,by simp;omega⟩,by simp only;omega⟩
    ·have h0':=hle 0
     simp only[hp,decide_true,Xq,QmM h,Qf,D,Xd,n2,n3]
     rw[Gr (by simp;omega)];rfl
    rw[<-hl,QiY hf hp n4 n6];simp
   right
   refine⟨out,by simp[hp],?_⟩
   rw[<-hl,show(av f a).toNat=0 by omega];simp[GG]
  obtain⟨r,r1,r2⟩:=key
  rw[r1,r2];rfl
 have e0:Qq m 0=none:=by rw[m2,if_neg h0]
 have:=hf.lo 0
 rw[show(av f 0).toNat=0 by omega]
 simp[e0,GG]
end
end Go.Proofs
noncomputable section
namespace Go.Rk
open Go Go.Vm
def least {p:Nat->Prop}:∀n,p n->∃m,p m/\∀j,j<m->¬p j:=by
 intro n
 induction n using Nat.strongRecOn with
 | _ n ih=>
  intro D
  by_cases c:∃j,j<n/\p j
  ·obtain⟨j,h,hp⟩:=c
   exact ih j h hp
  exact⟨n,D,λj h hp=>c ⟨j,h,hp⟩⟩
def Stp (N:Nat)(es:L_ (Int×Int))(gs:L_ Int):Nat->Int->Prop
 | 0,k=>YV N k/\k∈gs
 | n+1,k=>YV N k/\∃v,(k,v)∈es/\YV N v/\Stp N es gs n v
open Classical in
def Cv (N:Nat)(es:L_ (Int×Int))(gs:L_ Int)(k:Int):Int:=if h:∃n,Stp N es gs n k then((Classical.choose (least (p:=λn=>Stp N es gs n k) (Classical.choose h) (Classical.choose_spec h)):Nat):Int)else -1
def Vf {N:Nat}{es:L_ (Int×Int)}{gs:L_ Int}{k:Int}(h:0<=Cv N es gs k):Stp N es gs (Cv N es gs k).toNat k/\∀j,j<(Cv N es gs k).toNat->¬Stp N es gs j k:=by
 unfold Cv at h ⊢
 split at h
 ·rename_i D
  rw[dif_pos D,Ye]
  exact Classical.choose_spec (least (p:=λn=>Stp N es gs n k) (Classical.choose D) (Classical.choose_spec D))
 omega
def QgP {N:Nat}{es:L_ (Int×Int)}{gs:L_ Int}{k:Int}{n:Nat}(h:Stp N es gs n k):0<=Cv N es gs k/\Cv N es gs k<=n:=by
 have hc:∃n,Stp N es gs n k:=⟨n,h⟩
 have D:0<=Cv N es gs k:=by unfold Cv;rw[dif_pos hc];omega
 refine⟨D,?_⟩
 have:=(Vf D).2
 by_cases c:Cv N es gs k<=n
 ·exact c
 exact absurd h (this n (by omega))
def Qny {N:Nat}{es:L_ (Int×Int)}{gs:L_ Int}(k:Int):-1<=Cv N es gs k:=by
 unfold Cv;split<;>omega
def Qoh (N:Nat)(es:L_ (Int×Int))(gs:L_ Int):∃f,Gs N es gs f:=by
 have D:∀k,av ((List.range N).map λi:Nat=>Cv N es gs i) k=if YV N k then Cv N es gs k else -1:=λk=>by
  by_cases c:YV N k
  ·rw[if_pos c]
   have h:=SX (out:=(List.range N).map λi:Nat=>Cv N es gs i) (k:=k) (by simpa using c)
   have hk:k.toNat<N:=by unfold YV at c;omega
   rw[XQ,List.getElem?_range hk,JT]at h
   have:=Option.some.inj h
   rw[<-this]
   unfold YV at c
   rw[show((k.toNat:Nat):Int)=k by omega]
  rw[if_neg c]
  exact Qct (by simpa using c)
 refine⟨(List.range N).map λi:Nat=>Cv N es gs i,by simp,λk=>?_,λg hg hr=>?_,λu v he hu hv h0=>?_,λk hk=>?_⟩
 ·rw[D];split
  ·exact Qny k
  omega
 ·rw[D,if_pos hr]
  have:=QgP (show Stp N es gs 0 g from⟨hr,hg⟩)
  omega
 ·rw[D v,if_pos hv]at h0
  rw[D u,D v,if_pos hu,if_pos hv]
  have h1:=(Vf h0).1
  have:=QgP (show Stp N es gs ((Cv N es gs v).toNat+1) u from⟨hu,v,he,hv,h1⟩)
  omega
 have hr:YV N k:=by
  by_cases c:YV N k
  ·exact c
  rw[D,if_neg c]at hk;omega
 rw[D,if_pos hr]at hk ⊢
 obtain⟨h1,h2⟩:=Vf hk
 cases hn:(Cv N es gs k).toNat with
 | zero=>
  rw[hn]at h1
  exact .inl ⟨by omega,h1.2⟩
 | succ d=>
  rw[hn]at h1 h2
  obtain⟨_,v,he,hv,hs⟩:=h1
  have hd:=QgP hs
  refine .inr ⟨v,he,hv,by rw[D,if_pos hv];exact hd.1,?_⟩
  rw[D,if_pos hv]
  by_cases c:(Cv N es gs v).toNat<d
  ·exact absurd (show Stp N es gs ((Cv N es gs v).toNat+1) k from⟨hr,v,he,hv,(Vf hd.1).1⟩) (h2 _ (by omega))
  omega
end Go.Rk
noncomputable section
namespace Go.Proofs
open Go Go.RowKit Go.Vm Go.Rk
section
variable {n:Qe}{m:L_ Bag}{b tokens:Int}{s:QN}{k:Nat}{f:L_ Int}{z:L_ Bag}
def QmN (hS:SOk n m b tokens s)(hf:Gs s.States.length (es s) [(k:Int)] f)(hz:s.States[k]? = some z):∀(d a:Nat) (x:L_ Bag),av f (a:Int)=(d:Int)->s.States[a]? = some x->QhJ n x (GG s f d (a:Int))=some z/\∀o∈GG s f d (a:Int),Kv n o:=by
 intro d
 induction d with
 | zero=>
  intro a x ha hx
  rcases hf.back (a:Int) (by omega)with⟨_,h1⟩|⟨v,_,_,h3,h4⟩
  ·have:a=k:=by simp at h1;omega
   subst this
   rw[hx]at hz;cases hz
   exact⟨rfl,λo ho=>by simp[GG]at ho⟩
  omega
 | succ d ih=>
  intro a x ha hx
  obtain⟨n',j,e,_,D,hj,hnx,h0,h1⟩:=Qjg hf (a:=(a:Int)) (by omega)
  obtain⟨j',e',hjj,h,hfr⟩:=Qcy D
  have:j=j':=by omega
  subst this
  rw[hj]at h;cases h
  obtain⟨i,j2,x',y,g1,g2,g3,g4,g5,g6⟩:=hS.edge e (XG hj)
  have:i=a:=by omega
  subst this
  rw[hx]at g3;cases g3
  rw[GG,hnx]
  simp only
  rw[g2]
  obtain⟨k1,k2⟩:=ih j2 y (by rw[<-g2];omega) g4
  refine⟨?_,λo ho=>?_⟩
  ·rw[QhJ,g5,Qf];exact k1
  rcases Yg.1 ho with rfl | ho
  ·exact g6
  exact k2 o ho
def QmO (hS:SOk n m b tokens s)(D:Gs s.States.length (es s) [(k:Int)] f)(hk:k<s.States.length):0<=av f 0:=by
 have key:∀j:Nat,j<s.States.length->0<=av f (j:Int)->0<=av f 0:=by
  intro j
  induction j using Nat.strongRecOn with
  | _ j ih=>
   intro hj h
   by_cases c:j=0
   ·subst c;exact h
   obtain⟨e,he,i,g1,g2,g3⟩:=hS.tree j (by omega) hj
   have:=D.edge (i:Int) (j:Int) (Qcv.2 ⟨e,he,g1,g3⟩) ⟨by omega,by omega⟩ ⟨by omega,by omega⟩ h
   exact ih i g2 (by omega) this.1
 have:=D.goal (k:Int) (by simp) ⟨by omega,by omega⟩
 exact key k hk (by omega)
def QiD (h:Xn n)(hS:SOk n m b tokens s)(hb:b<=31)(hE:s.Edges.length<=130023424)(hz:s.States[k]? = some z):∃p,WD s (k:Int)=some p/\QhJ n m p=some z/\(∀o∈p,Kv n o)/\p.length<s.States.length:=by
 have hk:=(QX.1 hz).1
 obtain⟨f,hf⟩:=Qoh s.States.length (es s) [(k:Int)]
 have hm:Xg b<=31:=by unfold Xg min2;split<;>omega
 have hpl:=h.pl
 have hl:=hS.len
 have D:BL s:=⟨⟨by unfold maxLen;omega,by unfold maxLen;omega,λy hy=>by
  have hg:=hS.good y hy
  have:=hg.1.1
  exact⟨by unfold maxLen;omega,λb hb=>by have:=(hg.1.2 b hb).2;unfold maxLen;omega⟩⟩,by omega,hE⟩
 have h0:=QmO hS hf hk
 obtain⟨r,hr⟩:=hS.head
 obtain⟨c1,c2⟩:=QmN hS hf hz (av f 0).toNat 0 m (by show av f 0=_;omega) (by rw[hr];rfl)
 refine⟨_,Qke D ⟨by omega,by omega⟩ hf,c1,c2,?_⟩
 have:=Qkd (s:=s) (f:=f) (av f 0).toNat 0
 rcases hf.lt 0 with h1 | h1
 ·omega
 omega
end
end Go.Proofs
namespace Go.Rk
section
variable {α:Type}(f:α->Int)
def kv (l:List α)(i:Nat):Int:=match l[i]? with | some x=>f x | none=>0
def GH (l:List α)(n:Nat):Prop:=∀i,0<i->i<n->kv f l ((i-1) / 2)<=kv f l i
variable {f:α->Int}
def Em {l:List α}{i:Nat}{x:α}(h:l[i]? = some x):kv f l i=f x:=by unfold kv;rw[h]
def Lz {l:List α}{i j:Nat}{x y:α}(hi:l[i]? = some x)(h:l[j]? = some y)(k:Nat):
  kv f ((l.set i y).set j x) k=if k=j then kv f l i else if k=i then kv f l j else kv f l k:=by
 have D:=(List.getElem?_eq_some_iff.1 hi).1
 have h2:=(List.getElem?_eq_some_iff.1 h).1
 rw[Em hi,Em h]
 unfold kv
 rw[List.getElem?_set]
 by_cases a:k=j
 ·subst a;rw[if_pos rfl,if_pos (by simpa using h2),if_pos rfl]
 rw[if_neg (λe=>a e.symm),if_neg a,List.getElem?_set]
 by_cases b:k=i
 ·subst b;rw[if_pos rfl,if_pos D,if_pos rfl]
 rw[if_neg (λe=>b e.symm),if_neg b]
def QeG {l:List α}{i j:Nat}{x y:α}(hi:l[i]? = some x)(hj:l[j]? = some y):((l.set i y).set j x).Perm l:=by
 obtain⟨h,rfl⟩:=List.getElem?_eq_some_iff.1 hi
 obtain⟨D,rfl⟩:=List.getElem?_eq_some_iff.1 hj
 exact List.set_set_perm h D
def Vg (f:α->Int)(l:List α)(n j:Nat):Prop:=(∀i,0<i->i<n->i≠j->kv f l ((i-1) / 2)<=kv f l i)/\∀c,0<c->c<n->(c-1) / 2=j->0<j->kv f l ((j-1) / 2)<=kv f l c
def Vg.step {l:List α}{n j:Nat}{x y:α}(h:Vg f l n j)(h0:0<j)(hi:l[(j-1) / 2]? = some x)(D:l[j]? = some y)(hlt:f y<f x)(hn:j<n):
  Vg f ((l.set ((j-1) / 2) y).set j x) n ((j-1) / 2):=by
 obtain⟨ha,hb⟩:=h
 rw[<-Em (f:=f) hi,<-Em (f:=f) D]at hlt
 refine⟨λi h1 h2 h3=>?_,λc h1 h2 h3 h4=>?_⟩
 ·rw[Lz hi D,Lz hi D]
  by_cases e:i=j
  ·subst e;rw[if_pos rfl,if_neg (by omega),if_pos rfl];omega
  rw[if_neg e,if_neg h3]
  have h5:=ha i h1 h2 e
  by_cases e1:(i-1) / 2=j
  ·rw[if_pos e1];exact hb i h1 h2 e1 h0
  rw[if_neg e1]
  by_cases e2:(i-1) / 2=(j-1) / 2
  ·rw[if_pos e2];rw[e2]at h5;omega
  rw[if_neg e2];exact h5
 rw[Lz hi D,Lz hi D]
 rw[if_neg (by omega),if_neg (by omega)]
 have h5:=ha ((j-1) / 2) h4 (by omega) (by omega)
 by_cases e:c=j
 ·rw[if_pos e];exact h5
 rw[if_neg e,if_neg (by omega)]
 have h6:=ha c h1 h2 e
 rw[h3]at h6;omega
def Vg.done {l:List α}{n j:Nat}(h:Vg f l n j)(hd:j=0\/kv f l ((j-1) / 2)<=kv f l j):GH f l n:=λi D hn=>by
 by_cases e:i=j
 ·subst e;rcases hd with h | h
  ·omega
  exact h
 exact h.1 i D hn e
def Vh (f:α->Int)(l:List α)(n i:Nat):Prop:=(∀k,0<k->k<n->(k-1) / 2≠i->kv f l ((k-1) / 2)<=kv f l k)/\∀c,0<c->c<n->(c-1) / 2=i->0<i->kv f l ((i-1) / 2)<=kv f l c
def Vh.step {l:List α}{n i j:Nat}{x y:α}(h:Vh f l n i)(h0:0<j)(D:(j-1) / 2=i)(hi:l[i]? = some x)(hj:l[j]? = some y)(hlt:f y<f x)(hn:j<n)
  (hmin:∀k,0<k->k<n->(k-1) / 2=i->kv f l j<=kv f l k):Vh f ((l.set i y).set j x) n j:=by
 obtain⟨ha,hb⟩:=h
 rw[<-Em (f:=f) hi,<-Em (f:=f) hj]at hlt
 refine⟨λk h1 h2 h3=>?_,λc h1 h2 h3 h4=>?_⟩
 ·rw[Lz hi hj,Lz hi hj]
  rw[if_neg h3]
  by_cases e1:(k-1) / 2=i
  ·rw[if_pos e1]
   by_cases e2:k=j
   ·rw[if_pos e2];omega
   rw[if_neg e2,if_neg (by omega)];exact hmin k h1 h2 e1
  rw[if_neg e1,if_neg (λe=>e1 (by subst e;exact D))]
  by_cases e2:k=i
  ·subst e2;rw[if_pos rfl];exact hb j h0 hn D h1
  rw[if_neg e2];exact ha k h1 h2 e1
 rw[Lz hi hj,Lz hi hj]
 rw[if_neg (by omega),if_pos D,if_neg (by omega),if_neg (by omega),<-h3]
 exact ha c h1 h2 (by omega)
def Vh.done {l:List α}{n i:Nat}(h:Vh f l n i)(hd:∀k,0<k->k<n->(k-1) / 2=i->kv f l i<=kv f l k):GH f l n:=λk D hn=>by
 by_cases e:(k-1) / 2=i
 ·rw[e];exact hd k D hn e
 exact h.1 k D hn e
def GH.least {l:List α}{n:Nat}(h:GH f l n):∀i,i<n->kv f l 0<=kv f l i:=by
 intro i
 induction i using Nat.strongRecOn with
 | _ i D=>
  intro hi
  by_cases e:i=0
  ·subst e;exact Int.le_refl _
  have h1:=h i (by omega) hi
  have h2:=D ((i-1) / 2) (by omega) (by omega)
  omega
def GH.append {l:List α}{x:α}(h:GH f l l.length):Vg f (l++[x]) (l.length+1) l.length:=by
 have e:∀k,k<l.length->kv f (l++[x]) k=kv f l k:=λk hk=>by unfold kv;rw[List.getElem?_append_left hk]
 refine⟨λi D h1 h2=>?_,λc D h1 h2 h3=>by omega⟩
 rw[e _ (by omega),e _ (by omega)]
 exact h i D (by omega)
def GH.swap {l:List α}{n:Nat}{x y:α}(h:GH f l (n+1))(hi:l[0]? = some x)(hj:l[n]? = some y):Vh f ((l.set 0 y).set n x) n 0:=by
 refine⟨λk D h1 h2=>?_,λc D h1 h2 h3=>by omega⟩
 rw[Lz hi hj,Lz hi hj,if_neg (by omega),if_neg (by omega),if_neg (by omega),if_neg (by omega)]
 exact h k D (by omega)
def GH.congr {l m:List α}{n:Nat}(h:GH f l n)(e:∀k,k<n->m[k]? = l[k]?):GH f m n:=λi h0 D=>by
 have:=h i h0 D
 unfold kv at *
 rw[e _ D,e _ (by omega)];exact this
end
end Go.Rk
noncomputable section
namespace Go.Proofs
open Go Go.RowKit Go.Vm Go.Rk
def QlC {l:L_ Rw}{k v:Int}(h:∀p∈l,p.1<k):XD KM l k v=l++[(k,v)]:=by
 have h1:Qq l k=none:=by
  induction l with
  | nil=>rfl
  | cons p l ih=>
   have h0:=h p XM
   show(if p.1=k then _ else _)=none
   rw[if_neg (by omega)]
   exact ih λq D=>h q (XR _ D)
 unfold XD
 rw[h1]
 clear h1
 show UB KM l k v=_
 induction l with
 | nil=>rfl
 | cons p l ih=>
  have h0:=h p XM
  show(if KM k p.1=true then _ else _)=_
  rw[if_neg (by unfold KM;simp;omega),ih λq D=>h q (XR _ D)];rfl
def Qkf {b:L_ Rw}(hb:b.length<=maxLen):BZ b=some (bif Qcu b then .inr b else .inl ()):=by
 unfold BZ
 rw[QhA hb,Qf]
 cases hr:Qcu b with
 | false=>rfl
 | true=>
  obtain⟨_,hp⟩:=QhB.1 hr
  have key:∃r,QD (λst:Int×L_ Rw=>Dk b st.1 st.2) (0,[])=some r/\r=b:=by
   refine CX b.length (λi s=>s=((i:Int),b.take i)) (λr=>r=b) (λi s hi hs=>.inl ?_) (λs hs=>?_) (0,[]) rfl
   ·subst hs
    have h:(i:Int)<b.length:=by omega
    refine⟨(((i+1:Nat):Int),b.take (i+1)),?_,rfl⟩
    unfold Dk
    simp only[h,decide_true,Xq,Xd,Qz hi,Qf,Qy hi hb]
    rw[QlC]
    ·rw[Ri hi]
    intro p hp'
    obtain⟨j,hj⟩:=Um.1 hp'
    obtain⟨D,rfl⟩:=QX.1 hj
    rw[Wo]at D
    rw[List.getElem_take]
    exact(QeN.1 hp) j i (by omega) hi (by omega)
   subst hs
   refine⟨b,?_,rfl⟩
   unfold Dk
   simp
  obtain⟨r,h,h2⟩:=key
  simp only[En,Xw,Xq]
  rw[h,h2];rfl
def Qkg (n:Int):L_ Rw->Int
 | []=>n
 | p::l=>Qkg (Qi (n+p.2)) l
def OE (b:L_ Rw):Int:=bif Qcu b then Qkg 0 b else 0
def QaX {b:L_ Rw}(hb:b.length<=maxLen):ER b=some (OE b):=by
 unfold ER
 rw[Qkf hb,Qf,OE]
 cases Qcu b with
 | false=>rfl
 | true=>
  simp only[Xq,Sum.elim_inr]
  unfold Bn
  have D:∀(l:L_ Rw) n,Jt (λst (p:Rw)=>Ke st p.1 p.2) n l=some (.inl (Qkg n l)):=by
   intro l
   induction l with
   | nil=>intro n;rfl
   | cons p l ih=>intro n;exact ih _
  have hswap:∀s (p q:Rw),Jt (λst (p:Rw)=>Ke st p.1 p.2) s [p,q]=Jt (λst (p:Rw)=>Ke st p.1 p.2) s [q,p]:=by
   intro s p q
   rw[D,D]
   simp only[Qkg,QcN]
   congr 3;omega
  rw[BY.2 ⟨λl' h=>QkD hswap h 0,D b 0⟩]
  rfl
def QcA (n:Qe)(m:Mk):Bool:=decide (m.length=n.Places.length)&&(decide (0<=n.To)&&decide (n.To<m.length))&&!Qay (λi b=>OE b != (bif (i:Int)==n.To then 1 else 0)) 0 m
def QfY {n:Qe}{m:Mk}(hm:okM m):Ud n m=some (decide (0<=n.To)&&(decide (n.To<m.length)&&((m[n.To.toNat]?).map λb=>decide (0<OE b)).getD false)):=by
 unfold Ud TN TO
 by_cases h:0<=n.To
 ·by_cases D:n.To<m.length
  ·have hb:m[n.To.toNat]? = some (m[n.To.toNat]'(by omega)):=Qz (by omega)
   have:=QaX (hm.get hb)
   simp only[h,D,decide_true,Xq,BG h,hb,Qf,this,Bool.true_and,JT,Eg]
  simp[h,D]
 simp[h]
def ZA {n:Qe}{m:Mk}(hm:okM m):Ue n m=some (QcA n m):=by
 unfold Ue TP
 rw[QfY hm,QcA]
 by_cases h0:m.length=n.Places.length
 ·have h:((m.length:Int) != (n.Places.length:Int))=false:=by rw[h0];simp
  have h0d:decide (m.length=n.Places.length)=true:=Yw h0
  simp only[h,h0d,decide_true,Xw,Qf,Bool.true_and]
  by_cases h1:0<=n.To
  ·by_cases h2:n.To<m.length
   ·have D:n.To<n.Places.length:=by rw[<-h0];exact h2
    have hb:m[n.To.toNat]? = some (m[n.To.toNat]'(by omega)):=Qz (by omega)
    have e:QD (λst=>FF m n st) 0=some (bif Qay (λi b=>OE b != (bif (i:Int)==n.To then 1 else 0)) 0 m then .inl ()else .inr ():Unit⊕Unit):=by
     refine Qmd (l:=m) (λi=>(i:Int)) _ (Sum.inl ()) (Sum.inr ()) ?_ ?_ rfl
     ·intro i x hi hx
      have h3:(i:Int)<m.length:=by omega
      have:=QaX (hm.get hx)
      unfold FF FE
      simp only[h3,decide_true,Xq,Xd,hx,Qf,this,Qy hi hm.1]
      cases (i:Int)==n.To with
      | true=>show(bif OE x != 1 then _ else _)=some (bif OE x != 1 then _ else _);cases OE x != 1<;>rfl
      | false=>show(bif OE x != 0 then _ else _)=some (bif OE x != 0 then _ else _);cases OE x != 0<;>rfl
     unfold FF;simp
    simp only[h1,h2,D,decide_true,Bool.true_and,hb,JT,Eg]
    unfold Ae
    rw[e]
    by_cases h4:0<OE (m[n.To.toNat]'(by omega))
    ·simp only[h4,decide_true,En,Xw]
     cases Qay _ 0 m<;>rfl
    simp only[h4,decide_false,Tk,Xq]
    congr 1
    symm
    rw[AH,Qmc]
    refine⟨n.To.toNat,_,hb,?_⟩
    have:(((0+n.To.toNat:Nat):Int)==n.To)=true:=by simp;omega
    rw[this]
    simp;omega
   have D:¬n.To<n.Places.length:=by rw[<-h0];exact h2
   simp[h1,h2,D,Ae]
  simp[h1,Ae]
 have h:((m.length:Int) != (n.Places.length:Int))=true:=by simp;omega
 simp[h,h0,Ae]
def ZB (n:Qe)(s:QN):L_ Int:=WE (QcA n) 0 s.States
def Qkh {n:Qe}{s:QN}(h:BL s):Nr n s=some (ZB n s):=by
 unfold Nr
 rw[SN (l:=s.States) (QcA n)]
 ·rfl
 ·intro i D x ha hi hx
  have h1:(i:Int)<s.States.length:=by omega
  have hst:=h.st
  have hc:decide (D.length+([(i:Int)]:L_ Int).length<=4294967296)=true:=Yw (by simp;omega)
  simp only[Nq,FH,h1,decide_true,Xq,Xd,hx,Qf,Qy hi h.ok.1,ZA (h.get hx),Rz hc]
  cases QcA n x<;>rfl
 intro D;simp[Nq]
end Go.Proofs
noncomputable section
namespace Go.Proofs
open Go Go.RowKit Go.Vm Go.Rk
abbrev Sp := Qw
def fk (x:Sp):Int:=x.far
def Vi {l:L_ Sp}{i k:Nat}{x y:Sp}(hx:l[i]? = some x)(h:l[k]? = some y):DE l (i:Int) (k:Int)=some ((l.set i y).set k x):=by
 have D:=(QX.1 h).1
 unfold DE
 simp only[Xd,hx,h,Qf,Ye]
 rw[Qz (by simpa using D)];rfl
def Vj {l:L_ Sp}{i k:Nat}{x y:Sp}(h:l[i]? = some x)(D:l[k]? = some y):DD l (i:Int) (k:Int)=some (decide (fk x<fk y)):=by
 unfold DD
 simp only[Xd,h,D,Qf];rfl
def Qnz {n:Nat}(hn:n<=1000000000):∀(j:Nat) (l:L_ Sp),l.length=n->j<n->Vg fk l n j->∃l',Uq l (j:Int)=some l'/\l'.Perm l/\GH fk l' n:=by
 intro j l hl hj D
 unfold Uq
 have key:∃r,QD (λst:Int×L_ Sp=>Gp st.1 st.2) ((j:Int),l)=some r/\(r.Perm l/\GH fk r n):=by
  refine Pd (λs:Int×L_ Sp=>∃j:Nat,s.1=(j:Int)/\s.2.length=n/\j<n/\Vg fk s.2 n j/\s.2.Perm l) (λs:Int×L_ Sp=>s.1.toNat) (λr=>r.Perm l/\GH fk r n) ?_ ((j:Int),l) ⟨j,rfl,hl,hj,D,List.Perm.refl _⟩
  rintro ⟨j0,l⟩ ⟨j,rfl,hl,hj,D,hp⟩
  simp only at hl hj D hp ⊢
  unfold Gp Lq
  by_cases h0:j=0
  ·subst h0
   right
   refine⟨l,?_,hp,D.done (.inl rfl)⟩
   rw[show(Qi (Int.tdiv (Qi (((0:Nat):Int)-1)) 2)==((0:Nat):Int))=true by rw[XX (n:=((0:Nat):Int)-1) (by omega),XX (by decide)];rfl]
   rfl
  have e1:Qi ((j:Int)-1)=((j-1:Nat):Int):=by rw[XX (by omega)];omega
  have e2:Qi (Int.tdiv ((j-1:Nat):Int) 2)=(((j-1) / 2:Nat):Int):=by
   rw[show Int.tdiv ((j-1:Nat):Int) 2=(((j-1) / 2:Nat):Int)from rfl,XX (by omega)]
  have hx:l[(j-1) / 2]? = some (l[(j-1) / 2]'(by omega)):=Qz (by omega)
  have hy:l[j]? = some (l[j]'(by omega)):=Qz (by omega)
  have e3:((((j-1) / 2:Nat):Int)==(j:Int))=false:=by simp;omega
  simp only[e1,e2,e3,Xw,Vj hy hx,Qf]
  unfold Gn
  by_cases h:fk (l[j]'(by omega))<fk (l[(j-1) / 2]'(by omega))
  ·left
   refine⟨((((j-1) / 2:Nat):Int),(l.set ((j-1) / 2) (l[j]'(by omega))).set j (l[(j-1) / 2]'(by omega))),?_,⟨(j-1) / 2,rfl,by simpa using hl,by omega,D.step (by omega) hx hy h hj,(QeG hx hy).trans hp⟩,by simp;omega⟩
   simp only[h,decide_true,En,Xw,e1,e2,Vi hx hy,Qf]
   rw[Gr (by simp)];rfl
  right
  refine⟨l,?_,hp,D.done (.inr ?_)⟩
  ·simp only[h,decide_false,Tk,Xq]
  rw[Em hx,Em hy];omega
 obtain⟨r,h1,h2⟩:=key
 exact⟨r,by rw[h1];rfl,h2⟩
def Qg9 {l:L_ Sp}(x:Sp)(h:GH fk l l.length)(hn:l.length<1000000000):∃D,WV l x=some D/\D.Perm (x::l)/\GH fk D D.length:=by
 obtain⟨D,h1,h2,h3⟩:=Qnz (n:=l.length+1) (by omega) l.length (l++[x]) (by simp) (by omega) h.append
 refine⟨D,?_,h2.trans (List.perm_append_singleton _ _),by rw[h2.length_eq];simpa using h3⟩
 unfold WV IX Uf
 have e:Qi ((((l++[x]).length:Nat):Int)-1)=(l.length:Int):=by rw[XX (by simp;omega)];simp
 rw[Gr (by simp;omega)]
 simp only[Qf,e,h1]
def QlD {n:Nat}(hn:n<=1000000000)(l:L_ Sp)(hl:l.length=n+1)(hu:Vh fk l n 0):∃b l',WW l 0 (n:Int)=some (b,l')/\l'.Perm l/\GH fk l' n/\l'[n]? = l[n]? := by
 unfold WW
 have key:∃r,QD (λst:Int×L_ Sp=>Uh (n:Int) st.1 st.2) (0,l)=some r/\(r.2.Perm l/\GH fk r.2 n/\r.2[n]? = l[n]?):=by
  refine Pd (λs:Int×L_ Sp=>∃i:Nat,s.1=(i:Int)/\s.2.length=n+1/\i<=n/\Vh fk s.2 n i/\s.2.Perm l/\s.2[n]? = l[n]?) (λs:Int×L_ Sp=>n-s.1.toNat) (λr:Int×L_ Sp=>r.2.Perm l/\GH fk r.2 n/\r.2[n]? = l[n]?) ?_ (0,l) ⟨0,rfl,hl,by omega,hu,List.Perm.refl _,rfl⟩
  rintro ⟨j0,s⟩ ⟨i,rfl,hl,hi,hu,hp,hq⟩
  simp only at hl hi hu hp hq ⊢
  unfold Uh
  have e1:Qi (Qi (2*(i:Int))+1)=((2*i+1:Nat):Int):=by rw[XX (n:=2*(i:Int)) (by omega),XX (by omega)];omega
  have e2:Qi (((2*i+1:Nat):Int)+1)=((2*i+2:Nat):Int):=by rw[XX (by omega)];omega
  have e4:decide (((2*i+1:Nat):Int)<0)=false:=KJ (by omega)
  rw[e1,e4,Bool.or_false]
  by_cases h0:(n:Int)<=((2*i+1:Nat):Int)
  ·right
   refine⟨((i:Int),s),by rw[Yw h0];rfl,hp,hu.done λk h1 h2 h3=>by omega,hq⟩
  rw[KJ h0,Xw]
  have hg:∃j:Nat,0<j/\(j-1) / 2=i/\j<n/\(∀k,0<k->k<n->(k-1) / 2=i->kv fk s j<=kv fk s k)/\
    (Ug (i:Int) (n:Int) s).bind (λx21=>KV s (i:Int) x21)=KU s (i:Int) (j:Int):=by
   have h:s[2*i+1]? = some (s[2*i+1]'(by omega)):=Qz (by omega)
   unfold Ug
   rw[e1,e2]
   by_cases h2:((2*i+2:Nat):Int)<n
   ·have D:s[2*i+2]? = some (s[2*i+2]'(by omega)):=Qz (by omega)
    by_cases h3:fk (s[2*i+2]'(by omega))<fk (s[2*i+1]'(by omega))
    ·refine⟨2*i+2,by omega,by omega,by omega,λk k1 k2 k3=>?_,?_⟩
     ·have:k=2*i+1\/k=2*i+2:=by omega
      rcases this with rfl | rfl
      ·rw[Em h,Em D];omega
      omega
     simp only[h2,decide_true,Xq,Vj D h,h3,Qf,KV,e1,e2]
    refine⟨2*i+1,by omega,by omega,by omega,λk k1 k2 k3=>?_,?_⟩
    ·have:k=2*i+1\/k=2*i+2:=by omega
     rcases this with rfl | rfl
     ·omega
     rw[Em h,Em D];omega
    simp only[h2,decide_true,Xq,Vj D h,h3,decide_false,Xw,Qf,KV,e1,e2]
   refine⟨2*i+1,by omega,by omega,by omega,λk k1 k2 k3=>?_,?_⟩
   ·have:k=2*i+1:=by omega
    subst this;omega
   simp only[h2,decide_false,Xw,Qf,KV,e1]
  obtain⟨j,j1,j2,j3,j4,he⟩:=hg
  rw[he]
  have h:s[i]? = some (s[i]'(by omega)):=Qz (by omega)
  have D:s[j]? = some (s[j]'(by omega)):=Qz (by omega)
  unfold KU
  rw[Vj D h,Qf]
  by_cases hlt:fk (s[j]'(by omega))<fk (s[i]'(by omega))
  ·left
   refine⟨((j:Int),(s.set i (s[j]'(by omega))).set j (s[i]'(by omega))),?_,⟨j,rfl,by simpa using hl,by omega,hu.step j1 j2 h D hlt j3 j4,(QeG h D).trans hp,?_⟩,by simp;omega⟩
   ·simp only[hlt,decide_true,En,Xw,Vi h D,Qf]
    rw[Gr (by simp)];rfl
   rw[HI (by omega),HI (by omega)];exact hq
  right
  refine⟨((i:Int),s),by simp only[hlt,decide_false,Tk,Xq],hp,hu.done λk k1 k2 k3=>?_,hq⟩
  have:=j4 k k1 k2 k3
  rw[Em D]at this
  rw[Em h];omega
 obtain⟨r,h1,h2⟩:=key
 exact⟨_,r.2,by rw[h1];rfl,h2⟩
def QmP {l:L_ Sp}(h:GH fk l l.length)(h0:l≠[])(hn:l.length<1000000000):∃x D,EF l=some (x,D)/\l.Perm (x::D)/\GH fk D D.length/\∀y∈D,fk x<=fk y:=by
 obtain⟨n,hl⟩:∃n,l.length=n+1:=⟨l.length-1,by have:=List.length_pos_iff.2 h0;omega⟩
 have hx:l[0]? = some (l[0]'(by omega)):=Qz (by omega)
 have hy:l[n]? = some (l[n]'(by omega)):=Qz (by omega)
 rw[hl]at h
 have hsl:((l.set 0 (l[n]'(by omega))).set n (l[0]'(by omega))).length=n+1:=by simpa using hl
 obtain⟨b,D,h1,h2,h3,h4⟩:=QlD (n:=n) (by omega) _ hsl (h.swap hx hy)
 rw[OI (by simp;omega)]at h4
 have hl':D.length=n+1:=by rw[h2.length_eq,hsl]
 have e:Qi ((l.length:Int)-1)=(n:Int):=by rw[XX (by omega)];omega
 have e':Qi ((D.length:Int)-1)=(n:Int):=by rw[XX (by omega)];omega
 have hsp:D=D.take n++[l[0]'(by omega)]:=by
  have:=List.take_append_drop n D
  rw[OH (by omega),List.drop_eq_nil_of_le (by omega)]at this
  obtain⟨_,h5⟩:=QX.1 h4
  rw[h5]at this;exact this.symm
 have hp:l.Perm ((l[0]'(by omega))::D.take n):=by
  refine((QeG hx hy).symm.trans h2.symm).trans ?_
  have:(D.take n++[l[0]'(by omega)]).Perm ((l[0]'(by omega))::D.take n):=List.perm_append_singleton _ _
  rwa[<-hsp]at this
 refine⟨l[0]'(by omega),D.take n,?_,hp,?_,λy hy'=>?_⟩
 ·unfold EF Uf Mv
  have:=Vi hx hy
  simp only[Int.natCast_zero]at this
  simp only[Qf,e,show(0:Int)=((0:Nat):Int)from rfl,Vi hx hy]
  rw[Gr (by simp)]
  simp only[Qf]
  rw[show WW ((l.set 0 (l[n]'(by omega))).set n (l[0]'(by omega))) ((0:Nat):Int) (n:Int)=some (b,D)from h1]
  simp only[Qf,e',Xd,h4]
  rw[Rz (by simp[hl'])]
  simp
 ·rw[Wo,Cw (by omega)]
  exact h3.congr λk hk=>List.getElem?_take_of_lt hk
 have hm:y∈l:=hp.symm.subset (XR _ hy')
 obtain⟨i,hi⟩:=Um.1 hm
 have:=h.least i (by have:=(QX.1 hi).1;omega)
 rw[Em hi,Em hx]at this
 exact this
end Go.Proofs
noncomputable section
namespace Go.Proofs
open Go Go.RowKit Go.Vm Go.Rk
def QnA {s:QN}{k:Int}:Hw s k=some (decide (YV s.States.length k)):=by
 unfold Hw
 refine congrArg some ?_
 rw[Ti,decide_eq_true_iff,QH,decide_eq_true_iff,decide_eq_true_iff];exact Iff.rfl
def QiZ {s:QN}{e:QZ}:LG s e=some (cnt s e):=by
 unfold LG Ss Su Hw cnt
 cases (decide (0<=e.From)&&decide (e.From<(s.States.length:Int)))<;>rfl
def QlE {s:QN}(h:BL s):∃m,QD (λst:Int×L_ (Int×L_ Int)=>LI s st.1 st.2) (0,[])=some m/\∀k,(Qq m k).getD []=YU (s.Edges.filter (cnt s)) k:=by
 have hed:=h.ed
 refine CX s.Edges.length (λi st=>st.1=(i:Int)/\∀k,(Qq st.2 k).getD []=YU ((s.Edges.take i).filter (cnt s)) k) _ (λi st hi hs=>?_) (λst hs=>?_) (0,[]) ⟨rfl,λk=>by simp[YU,Qq]⟩
 ·obtain⟨j,m⟩:=st
  obtain⟨hj,D⟩:=hs
  simp only at hj D
  subst hj
  left
  have h1:(i:Int)<s.Edges.length:=by omega
  have ht:s.Edges.take (i+1)=s.Edges.take i++[s.Edges[i]]:=Ri hi
  unfold LI LH
  simp only[h1,decide_true,Xq,Xd,Qz hi,Qf,QiZ,Qy hi h.ok.2.1]
  cases hc:cnt s s.Edges[i]with
  | false=>
   refine⟨_,rfl,rfl,λk=>?_⟩
   rw[ht,Fp,GJ,hc]
   simpa using D k
  | true=>
   have hlen:(YU ((s.Edges.take i).filter (cnt s)) s.Edges[i].To).length<=130023424:=by
    unfold YU
    rw[GK]
    refine Yh (Fq _ _) (Yh (Fq _ _) ?_)
    rw[Wo];omega
   simp only[Xq,D]
   rw[Gr (show(YU ((s.Edges.take i).filter (cnt s)) s.Edges[i].To).length+([s.Edges[i].From]:L_ Int).length<=4294967296 by simp only[BU];omega)]
   refine⟨_,rfl,rfl,λk=>?_⟩
   simp only[JJ]
   have e:YU ((s.Edges.take (i+1)).filter (cnt s)) k=YU ((s.Edges.take i).filter (cnt s)) k++(if s.Edges[i].To=k then [s.Edges[i].From]else []):=by
    rw[ht,Fp,GJ,hc]
    unfold YU
    by_cases c:s.Edges[i].To=k<;>simp[c]
   rw[e]
   by_cases c:k=s.Edges[i].To
   ·subst c;simp
   rw[if_neg c,if_neg (λe=>c e.symm),D k];simp
 obtain⟨j,m⟩:=st
 obtain⟨hj,D⟩:=hs
 simp only at hj D
 subst hj
 refine⟨m,by simp[LI],λk=>?_⟩
 rw[D k,Ft]
def QlF {s:QN}(h:BL s):QD (λst:Int×L_ Int=>CJ s st.1 st.2) (0,List.replicate (s.States.length:Int).toNat 0)=some (List.replicate s.States.length (-1)):=by
 have key:∃r,QD (λst:Int×L_ Int=>CJ s st.1 st.2) (0,List.replicate (s.States.length:Int).toNat 0)=some r/\r=List.replicate s.States.length (-1):=by
  refine CX s.States.length (λi st=>st=((i:Int),List.replicate i (-1)++List.replicate (s.States.length-i) 0)) _ (λi st hi hs=>?_) (λst hs=>?_) _ (by simp)
  ·subst hs
   left
   have D:(i:Int)<((List.replicate (s.States.length:Int).toNat (0:Int)).length:Int):=by simp;omega
   have e:s.States.length-i=(s.States.length-(i+1))+1:=by omega
   have hx:(List.replicate i (-1:Int)++List.replicate (s.States.length-i) (0:Int))[i]? = some 0:=by
    rw[Ki (by simp),e];simp
   refine⟨(((i+1:Nat):Int),List.replicate (i+1) (-1)++List.replicate (s.States.length-(i+1)) 0),?_,rfl⟩
   unfold CJ
   simp only[D,decide_true,Xq,Xd,hx,Qf,Qy hi h.ok.1]
   rw[show((i:Int)).toNat=i from rfl,List.set_append_right _ _ (by simp),e]
   simp[List.replicate_succ' (n:=i),List.replicate_succ]
  subst hs
  refine⟨_,?_,rfl⟩
  unfold CJ
  simp
 obtain⟨r,D,h2⟩:=key
 rw[D,h2]
structure QiE (s:QN) (gs:List Int) (M:Nat) (out:List Int) (w:List Sp):Prop where
 len:out.length=s.States.length
 lo:∀k,-1<=av out k
 hp:GH fk w w.length
 goal:∀g,g∈gs->YV s.States.length g->av out g=0\/Qw.mk g 0∈w
 edge:∀u v,(u,v)∈es s->YV s.States.length u->YV s.States.length v->0<=av out v->(0<=av out u/\av out u<=av out v+1)\/Qw.mk u (av out v+1)∈w
 back:∀k,0<=av out k->(av out k=0/\k∈gs)\/∃v,(k,v)∈es s/\YV s.States.length v/\0<=av out v/\av out k=av out v+1
 wt:∀x,x∈w->YV s.States.length x.state/\((x.far=0/\x.state∈gs)\/∃v,(x.state,v)∈es s/\YV s.States.length v/\0<=av out v/\x.far=av out v+1)
 ord:∀k x,x∈w->av out k<=x.far
 bnd:∀x,x∈w->x.far+((w.length+((s.Edges.filter (cnt s)).countP λe=>decide (av out e.To<0)):Nat):Int)<=M
 sz:w.length+((s.Edges.filter (cnt s)).countP λe=>decide (av out e.To<0))<=M
def Qki {m:L_ (Int×L_ Int)}{x:Sp}{w0:L_ Sp}(r:L_ Sp)(fr:L_ Int)(hm:(Qq m x.state).getD []=fr)(hw:GH fk r r.length)(hb:r.length+fr.length<1000000000)(hx:0<=x.far/\x.far<=1000000000):
  ∃l,QD (λst:Int×L_ Sp=>LL m (x,w0) st.1 st.2) (0,r)=some l/\GH fk l l.length/\l.length=r.length+fr.length/\∀y,y∈l↔y∈r\/∃u∈fr,y=Qw.mk u (x.far+1):=by
 refine CX fr.length (λi st=>st.1=(i:Int)/\GH fk st.2 st.2.length/\st.2.length=r.length+i/\∀y,y∈st.2↔y∈r\/∃u∈fr.take i,y=Qw.mk u (x.far+1)) _ (λi st hi hs=>?_) (λst hs=>?_) (0,r) ⟨rfl,hw,rfl,by simp⟩
 ·obtain⟨j,l⟩:=st
  obtain⟨hj,D,h2,h3⟩:=hs
  simp only at hj D h2 h3
  subst hj
  left
  have hi':(i:Int)<fr.length:=by omega
  obtain⟨l',p1,p2,p3⟩:=Qg9 (Qw.mk fr[i] (x.far+1)) D (by omega)
  unfold LL
  simp only[hm,hi',decide_true,Xq,Xd,Qz hi,Qf,XX (show -9223372036854775808<=x.far+1/\x.far+1<=9223372036854775807 by omega),p1,Qy hi (show fr.length<=maxLen by unfold maxLen;omega)]
  refine⟨_,rfl,rfl,p3,by rw[p2.length_eq];simp;omega,λy=>?_⟩
  rw[p2.mem_iff,Yg,h3,Ri hi]
  simp only[YF,AI]
  constructor
  ·rintro (h | h | ⟨u,hu,h⟩)
   ·exact .inr ⟨_,.inr rfl,h⟩
   ·exact .inl h
   exact .inr ⟨u,.inl hu,h⟩
  rintro (h | ⟨u,hu | hu,h⟩)
  ·exact .inr (.inl h)
  ·exact .inr (.inr ⟨u,hu,h⟩)
  subst hu;exact .inl h
 obtain⟨j,l⟩:=st
 obtain⟨hj,D,h2,h3⟩:=hs
 simp only at hj D h2 h3
 subst hj
 refine⟨l,?_,D,h2,λy=>by rw[h3,Ft]⟩
 unfold LL
 simp[hm]
def QiE.round {s:QN}{gs:L_ Int}{M:Nat}{m:L_ (Int×L_ Int)}(hM:M<=200000000)(hm:∀k,(Qq m k).getD []=YU (s.Edges.filter (cnt s)) k){out:L_ Int}{w:L_ Sp}(I:QiE s gs M out w)(hw:w≠[]):
  ∃out' w',LM m out w=some (.inl (out',w'))/\QiE s gs M out' w'/\w'.length+((s.Edges.filter (cnt s)).countP λe=>decide (av out' e.To<0))<w.length+((s.Edges.filter (cnt s)).countP λe=>decide (av out e.To<0)):=by
 have hsz:=I.sz
 have hpos:=List.length_pos_iff.2 hw
 obtain⟨x,r,p1,p2,p3,p4⟩:=QmP I.hp hw (by omega)
 have hxm:x∈w:=p2.symm.subset XM
 have hrm:∀y∈r,y∈w:=λy hy=>p2.symm.subset (XR _ hy)
 have hmem:∀y,y∈w->y=x\/y∈r:=λy hy=>Yg.1 (p2.subset hy)
 have hlen:w.length=r.length+1:=by rw[p2.length_eq];rfl
 obtain⟨hxr,hxw⟩:=I.wt x hxm
 have hxr':YV out.length x.state:=by rw[I.len];exact hxr
 have hx0:0<=x.far:=by
  rcases hxw with⟨h,_⟩|⟨v,_,_,h1,h2⟩<;>omega
 have hxb:=I.bnd x hxm
 have hgo:=SX hxr'
 unfold LM Fh
 have hwl:(0:Int)<w.length:=by omega
 simp only[Qf,hwl,decide_true,Xq,p1,BG hxr.1,hgo]
 by_cases hs:0<=av out x.state
 ·
  refine⟨out,r,by simp[hs],?_,by omega⟩
  have hle:=I.ord x.state x hxm
  refine { len:=I.len,lo:=I.lo,hp:=p3,goal:=λg hg hr=>?_,edge:=λu v h1 h2 h3 h4=>?_,back:=I.back,wt:=λy hy=>I.wt y (hrm y hy),ord:=λk y hy=>I.ord k y (hrm y hy),bnd:=λy hy=>by have:=I.bnd y (hrm y hy);omega,sz:=by omega }
  ·rcases I.goal g hg hr with h | h
   ·exact .inl h
   rcases hmem _ h with h | h
   ·subst h;left;simp only at hs hle;omega
   exact .inr h
  rcases I.edge u v h1 h2 h3 h4 with h | h
  ·exact .inl h
  rcases hmem _ h with h | h
  ·subst h;left;simp only at hs hle;exact⟨hs,hle⟩
  exact .inr h
 
 have hold:av out x.state=-1:=by have:=I.lo x.state;omega
 have D:∀k,av (out.set x.state.toNat x.far) k=if k=x.state then x.far else av out k:=QlA x.far hxr'
 have hne:∀k,0<=av out k->k≠x.state:=λk hk e=>by subst e;omega
 have hcount:(s.Edges.filter (cnt s)).countP (λe=>decide (av out e.To<0))=(s.Edges.filter (cnt s)).countP (λe=>decide (av (out.set x.state.toNat x.far) e.To<0))+(YU (s.Edges.filter (cnt s)) x.state).length:=by
  unfold YU
  rw[GK,<-List.countP_eq_length_filter]
  refine Qcw λe he=>?_
  rw[D]
  by_cases c:e.To=x.state
  ·left;refine⟨by rw[c];simp;omega,.inr ⟨by rw[if_pos c];simp;omega,by simp[c]⟩⟩
  rw[if_neg c]
  by_cases c2:av out e.To<0
  ·left;exact⟨by simp[c2],.inl ⟨by simp[c2],by simp[c]⟩⟩
  right;exact⟨by simp[c2],by simp[c2],by simp[c]⟩
 obtain⟨l,q1,q2,q3,q4⟩:=Qki (m:=m) (x:=x) (w0:=r) r _ (hm x.state) p3 (by omega) ⟨hx0,by omega⟩
 refine⟨out.set x.state.toNat x.far,l,by simp only[hs,decide_false,Xw];rw[q1];rfl,?_,by omega⟩
 have hadd:∀u,u∈YU (s.Edges.filter (cnt s)) x.state->Qw.mk u (x.far+1)∈l:=λu hu=>(q4 _).2 (.inr ⟨u,hu,rfl⟩)
 have hkeep:∀y,y∈r->y∈l:=λy hy=>(q4 _).2 (.inl hy)
 have hall:∀k,av (out.set x.state.toNat x.far) k<=x.far:=λk=>by
  rw[D];split
  ·exact Int.le_refl _
  exact I.ord k x hxm
 refine { len:=by simpa using I.len,lo:=λk=>?_,hp:=q2,goal:=λg hg hr=>?_,edge:=λu v h1 h2 h3 h4=>?_,back:=λk hk=>?_,wt:=λy hy=>?_,ord:=λk y hy=>?_,bnd:=λy hy=>?_,sz:=by omega }
 ·rw[D];split
  ·omega
  exact I.lo k
 ·rw[D]
  by_cases c:g=x.state
  ·rw[if_pos c]
   rcases I.goal g hg hr with h | h
   ·rw[c]at h;omega
   have h5:=I.ord x.state _ h
   rcases hmem _ h with h | h
   ·rw[<-h];exact .inl rfl
   have:=p4 _ h
   simp only[fk]at this
   left;omega
  rw[if_neg c]
  rcases I.goal g hg hr with h | h
  ·exact .inl h
  rcases hmem _ h with h | h
  ·rw[<-h]at c;exact absurd rfl c
  exact .inr (hkeep _ h)
 ·rw[D,D]
  rw[D]at h4
  by_cases cv:v=x.state
  ·rw[if_pos cv]
   right
   exact hadd u (Ve.2 ⟨cv▸h1,h2,hxr⟩)
  rw[if_neg cv]at h4 ⊢
  rcases I.edge u v h1 h2 h3 h4 with⟨h5,h6⟩|h
  ·rw[if_neg (hne u h5)];exact .inl ⟨h5,h6⟩
  rcases hmem _ h with h | h
  ·left
   have e1:x.state=u:=by rw[<-h]
   have e2:x.far=av out v+1:=by rw[<-h]
   rw[if_pos e1.symm];omega
  exact .inr (hkeep _ h)
 ·rw[D]at hk ⊢
  by_cases c:k=x.state
  ·rw[if_pos c]
   subst c
   rcases hxw with⟨h1,h2⟩|⟨v,h1,h2,h3,h4⟩
   ·exact .inl ⟨h1,h2⟩
   exact .inr ⟨v,h1,h2,by rw[D,if_neg (hne v h3)];exact⟨h3,h4⟩⟩
  rw[if_neg c]at hk ⊢
  rcases I.back k hk with h | ⟨v,h1,h2,h3,h4⟩
  ·exact .inl h
  exact .inr ⟨v,h1,h2,by rw[D,if_neg (hne v h3)];exact⟨h3,h4⟩⟩
 ·rcases(q4 y).1 hy with h | ⟨u,hu,rfl⟩
  ·obtain⟨h1,h2⟩:=I.wt y (hrm y h)
   refine⟨h1,?_⟩
   rcases h2 with h | ⟨v,h1,h2,h3,h4⟩
   ·exact .inl h
   exact .inr ⟨v,h1,h2,by rw[D,if_neg (hne v h3)];exact⟨h3,h4⟩⟩
  obtain⟨h1,h2,h3⟩:=Ve.1 hu
  exact⟨h2,.inr ⟨x.state,h1,h3,by rw[D,if_pos rfl];exact⟨hx0,rfl⟩⟩⟩
 ·have:=hall k
  rcases(q4 y).1 hy with h | ⟨u,hu,rfl⟩
  ·have:=p4 y h;unfold fk at this;omega
  simp only;omega
 rcases(q4 y).1 hy with h | ⟨u,hu,rfl⟩
 ·have:=I.bnd y (hrm y h);omega
 simp only;omega
def QmQ {s:QN}{gs:L_ Int}(h:BL s)(hg:gs.length<=1000):∃out,Ns s gs=some out/\Gs s.States.length (es s) gs out:=by
 obtain⟨m,m1,m2⟩:=QlE h
 have hed:=h.ed
 unfold Ns
 rw[m1]
 simp only[Qf]
 unfold Zf
 rw[Rz (by have:=h.st;simp;omega)]
 simp only[Qf]
 rw[QlF h]
 simp only[Qf]
 unfold Ze
 have hav:∀k,av (List.replicate s.States.length (-1)) k=-1:=λk=>by
  by_cases hr:YV (List.replicate s.States.length (-1:Int)).length k
  ·have D:=SX hr
   rw[List.getElem?_replicate]at D
   split at D
   ·exact(Option.some.inj D).symm
   cases D
  exact Qct hr
 have hcp:∀l:L_ QZ,l.countP (λe=>decide (av (List.replicate s.States.length (-1)) e.To<0))=l.length:=λl=>by
  rw[List.countP_eq_length];intro e _;rw[hav];rfl
 have hce:(s.Edges.filter (cnt s)).length<=s.Edges.length:=Fq _ _
 have k1:∃w,QD (λst:Int×L_ Sp=>LK gs s st.1 st.2) (0,[])=some w/\QiE s gs 130024424 (List.replicate s.States.length (-1)) w:=by
  refine CX gs.length (λi st=>st.1=(i:Int)/\GH fk st.2 st.2.length/\st.2.length<=i/\∀y,y∈st.2↔∃g∈gs.take i,YV s.States.length g/\y=Qw.mk g 0) _ (λi st hi hs=>?_) (λst hs=>?_) (0,[]) ⟨rfl,λi _ h=>by simp at h,Jn _,by simp⟩
  ·obtain⟨j,l⟩:=st
   obtain⟨hj,D,h2,h3⟩:=hs
   simp only at hj D h2 h3
   subst hj
   left
   have hi':(i:Int)<gs.length:=by omega
   unfold LK LJ
   simp only[hi',decide_true,Xq,Xd,Qz hi,Qf,QnA,Qy hi (show gs.length<=maxLen by unfold maxLen;omega)]
   by_cases c:YV s.States.length gs[i]
   ·obtain⟨l',p1,p2,p3⟩:=Qg9 (Qw.mk gs[i] 0) D (by omega)
    simp only[c,decide_true,Xq,p1,Qf]
    refine⟨(((i+1:Nat):Int),l'),rfl,rfl,p3,by rw[p2.length_eq];simp;omega,λy=>?_⟩
    rw[p2.mem_iff,Yg,h3,Ri hi]
    simp only[YF,AI]
    constructor
    ·rintro (h | ⟨g,hg,h⟩)
     ·exact⟨_,.inr rfl,c,h⟩
     exact⟨g,.inl hg,h⟩
    rintro ⟨g,hg | hg,D,h2⟩
    ·exact .inr ⟨g,hg,D,h2⟩
    subst hg;exact .inl h2
   simp only[c,decide_false,Xw]
   refine⟨(((i+1:Nat):Int),l),rfl,rfl,D,by simp only;omega,λy=>?_⟩
   rw[h3,Ri hi]
   simp only[YF,AI]
   constructor
   ·rintro ⟨g,hg,h⟩;exact⟨g,.inl hg,h⟩
   rintro ⟨g,hg | hg,D,h2⟩
   ·exact⟨g,hg,D,h2⟩
   subst hg;exact absurd D c
  obtain⟨j,l⟩:=st
  obtain⟨hj,D,h2,h3⟩:=hs
  simp only at hj D h2 h3
  subst hj
  rw[Ft]at h3
  refine⟨l,by simp[LK],?_⟩
  have hm:∀y,y∈l->YV s.States.length y.state/\y.state∈gs/\y.far=0:=λy hy=>by
   obtain⟨g,g1,g2,rfl⟩:=(h3 y).1 hy;exact⟨g2,g1,rfl⟩
  refine { len:=by simp,lo:=λk=>by rw[hav];omega,hp:=D,goal:=λg hg hr=>.inr ((h3 _).2 ⟨g,hg,hr,rfl⟩),edge:=λu v _ _ _ h=>by rw[hav]at h;omega,back:=λk hk=>by rw[hav]at hk;omega,wt:=λy hy=>⟨(hm y hy).1,.inl ⟨(hm y hy).2.2,(hm y hy).2.1⟩⟩,ord:=λk y hy=>by rw[hav,(hm y hy).2.2];omega,bnd:=λy hy=>?_,sz:=?_ }
  ·rw[(hm y hy).2.2,hcp];omega
  rw[hcp];omega
 obtain⟨w,w1,w2⟩:=k1
 rw[w1]
 simp only[Qf]
 unfold Zd
 have k2:∃r,QD (λst:L_ Int×L_ Sp=>LM m st.1 st.2) (List.replicate s.States.length (-1),w)=some r/\Gs s.States.length (es s) gs r:=by
  refine Pd (λst:L_ Int×L_ Sp=>QiE s gs 130024424 st.1 st.2) (λst:L_ Int×L_ Sp=>st.2.length+((s.Edges.filter (cnt s)).countP λe=>decide (av st.1 e.To<0))) _ ?_ _ w2
  rintro ⟨out,w⟩ I
  simp only at I
  by_cases hw:w=[]
  ·right
   subst hw
   refine⟨out,rfl,{ len:=I.len,lo:=I.lo,goal:=λg D h2=>?_,edge:=λu v D h2 h3 h4=>?_,back:=I.back }⟩
   ·rcases I.goal g D h2 with h | h
    ·exact h
    cases h
   rcases I.edge u v D h2 h3 h4 with h | h
   ·exact h
   cases h
  left
  obtain⟨out',w',D,h2,h3⟩:=I.round (by omega) m2 hw
  exact⟨(out',w'),D,h2,h3⟩
 obtain⟨r,r1,r2⟩:=k2
 exact⟨r,by rw[r1];rfl,r2⟩
end Go.Proofs
noncomputable section
namespace Go.Proofs
open Go Go.RowKit Go.Vm Go.Rk
def Qkj {n:Qe}{s:QN}(h:BL s):(ZB n s).length<=1000:=by
 have:=QiC (QcA n) s.States 0
 have:=h.st
 unfold ZB;omega
structure QeH (n:Qe) (s:QN) (f:List Int):Prop where
 few:BL s
 far:Ns s (ZB n s)=some f
 is:Gs s.States.length (es s) (ZB n s) f
def QnB {n:Qe}{s:QN}(h:BL s):∃f,QeH n s f:=by
 obtain⟨f,D,h2⟩:=QmQ (gs:=ZB n s) h (Qkj h)
 exact⟨f,h,D,h2⟩
section
variable {n:Qe}{s:QN}{f:L_ Int}(E:QeH n s f)
include E
def QeH.len : f.length<=40:=by rw[E.is.len];exact E.few.st
def QlG : OV n s=some f:=by
 unfold OV
 simp only[Qkh E.few,Qf,E.far]
def QlH : Ls n s=some (WE (λx=>decide (x<0)) 0 f):=by
 have hl:=E.len
 unfold Ls
 rw[QlG E,Qf,SN (l:=f) (λx=>decide (x<0))]
 ·rfl
 ·intro i h x ha hi hx
  have D:(i:Int)<f.length:=by omega
  have hc:decide (h.length+([(i:Int)]:L_ Int).length<=4294967296)=true:=Yw (by simp;omega)
  simp only[Ow,Im,D,decide_true,Xq,Xd,hx,Qf,Qy hi (show f.length<=maxLen by unfold maxLen;omega),Rz hc]
  cases decide (x<0)<;>rfl
 intro h;simp[Ow]
end
section
variable {n:Qe}{s:QN}{f:L_ Int}(E:QeH n s f)
include E
end
section
variable {n:Qe}{s:QN}{f:L_ Int}(E:QeH n s f)
include E
end
section
variable {n:Qe}{s:QN}{f:L_ Int}(E:QeH n s f)
include E
end
end Go.Proofs
noncomputable section
namespace Go.Proofs
open Go Go.RowKit Go.Vm Go.Rk
def Yq (s:QN):L_ Int:=s.Edges.map λe=>e.Mode.Task
def Qkk {s:QN}(h:BL s):CK s=some (Km (KC (Yq s))):=by
 have D:=h.ed
 unfold CK
 have key:∃r,QD (λst:Int×L_ Int=>Cg s st.1 st.2) (0,[])=some r/\r=Yq s:=by
  refine CX s.Edges.length (λi st=>st=((i:Int),(Yq s).take i)) _ (λi st hi hs=>.inl ?_) (λst hs=>?_) _ (by simp)
  ·subst hs
   have h1:(i:Int)<s.Edges.length:=by omega
   have hg:(Yq s)[i]? = some s.Edges[i].Mode.Task:=by unfold Yq;rw[XQ,Qz hi];rfl
   have hl:i<(Yq s).length:=by unfold Yq;simpa using hi
   have ht:(Yq s).take (i+1)=(Yq s).take i++[s.Edges[i].Mode.Task]:=by
    rw[Ri hl]
    congr 2
    rw[Qz hl]at hg;exact Option.some.inj hg
   unfold Cg
   simp only[h1,decide_true,Xq,Xd,Qz hi,Qf,Qy hi h.ok.2.1]
   rw[Gr (by simp;omega),Qf]
   exact⟨_,rfl,by rw[ht]⟩
  subst hs
  refine⟨(Yq s).take s.Edges.length,by simp[Cg],?_⟩
  rw[Wp (by unfold Yq;simp)]
 obtain⟨r,r1,r2⟩:=key
 subst r2
 have hl:(Yq s).length<=130023424:=by unfold Yq;simpa using D
 rw[r1,Qf]
 unfold Sy YA KS
 rw[Gr (by omega)]
 simp only[Qf]
 rw[Gr (BP _)]
 simp only[Qf]
 rw[Gr (by rw[BP];omega)]
 rfl
def QlI {l:L_ Int}{x:Int}:x∈KC l↔x∈l:=(MT l).mem_iff
def Qkl (l:L_ Int):(KC l).Pairwise (·<=·):=Vr l
def Qha {l:L_ Int}{x:Int}:x∈Km l↔x∈l:=by
 unfold Km Lib.compact Lib.compactUpTo
 rw[Ys]
 constructor
 ·rintro ⟨i,hi,rfl⟩
  have h:=Ep.1 (Eo.1 hi).1
  have:l.toArray[i]! = l[i]:=by simp[h]
  rw[this];exact Yf h
 intro hx
 obtain⟨i,hi,rfl⟩:=Fs.1 hx
 have key:∀i (hi:i<l.length),∃a,a∈(List.range l.length).filter (Lib.keeps l.toArray)/\l.toArray[a]! = l[i]:=by
  intro i
  induction i with
  | zero=>
   intro hi
   exact⟨0,Eo.2 ⟨Ep.2 hi,by simp[Lib.keeps]⟩,by simp[hi]⟩
  | succ i ih=>
   intro hi
   by_cases c:l[i+1]=l[i]
   ·rw[c];exact ih (by omega)
   refine⟨i+1,Eo.2 ⟨Ep.2 hi,?_⟩,by simp[hi]⟩
   have D:l.toArray[i+1]! = l[i+1]:=by simp[hi]
   have h2:l.toArray[i]! = l[i]:=by simp[show i<l.length by omega]
   unfold Lib.keeps
   rw[Nat.add_sub_cancel,D,h2]
   simpa using c
 exact key i hi
def Qkm {l:L_ Int}(h:l.Pairwise (·<=·)):(Km l).Pairwise (·<·):=by
 unfold Km Lib.compact Lib.compactUpTo
 rw[OK]
 have hp:((List.range l.length).filter (Lib.keeps l.toArray)).Pairwise (·<·):=List.Pairwise.filter _ List.pairwise_lt_range
 refine hp.imp_of_mem λ{i j} hi hj hij=>?_
 have hjl:=Ep.1 (Eo.1 hj).1
 have D:=(Eo.1 hj).2
 have e:∀k,k<l.length->l.toArray[k]! = l.getD k 0:=λk D=>by simp[D]
 unfold Lib.keeps at D
 rw[decide_eq_true_iff]at D
 rw[e i (by omega),e j hjl]
 rw[e j hjl,e (j-1) (by omega)]at D
 have mono:∀a b,a<=b->b<l.length->l.getD a 0<=l.getD b 0:=λa b hab hb=>by
  rcases Nat.lt_or_eq_of_le hab with h1 | h1
  ·have:=QeN.1 h a b (by omega) hb h1
   simpa[show a<l.length by omega,hb] using this
  subst h1;exact Int.le_refl _
 have h1:=mono i (j-1) (by omega) (by omega)
 have h2:=mono (j-1) j (by omega) hjl
 rcases D with D | D
 ·omega
 omega
end Go.Proofs
noncomputable section
namespace Go.Proofs
open Go Go.RowKit Go.Vm Go.Rk
def endB (n:Qe)(m:Mk):Bool:=decide (0<=n.To)&&(decide (n.To<m.length)&&((m[n.To.toNat]?).map λb=>decide (0<OE b)).getD false)
def PK (n:Qe)(m:Mk):Bool:=endB n m&&!QcA n m
def QmR {n:Qe}{s:QN}{m:Mk}(h:okM m):Dy m (QS.mk n s)=some (PK n m):=by
 unfold Dy BR
 rw[show Ud (QS.mk n s).net m=some (endB n m)from QfY h,Qf]
 unfold PK
 cases endB n m with
 | true=>rw[Xq,show Ue (QS.mk n s).net m=some (QcA n m)from ZA h];rfl
 | false=>rfl
def QhC {n:Qe}{s:QN}(h:BL s):WC (QS.mk n s)=some ((Ar (λ_ m=>PK n m) 0 s.States).elim (-1) λi=>(i:Int)):=by
 unfold WC JD
 show((QD (λst=>Xx s.States (QS.mk n s) st) 0).bind _).bind _=_
 rw[Qcb (body:=λst=>Xx s.States (QS.mk n s) st) (s0:=(0:Int)) (l:=s.States) (λi=>(i:Int)) (λ_ m=>PK n m) (λi=>.inl (i:Int)) (.inr ()) (λi x hi D=>by
  show Xx s.States (QS.mk n s) i=_
  unfold Xx
  rw[Yw (by omega),Xq,Xd,D,Qf,QmR (h.get D),Qf,Qy hi h.ok.1]
  cases PK n x<;>rfl) (by
  show Xx s.States (QS.mk n s) s.States.length=_
  unfold Xx
  rw[KJ (by omega),Xw]) rfl]
 cases Ar (λ_ m=>PK n m) 0 s.States<;>rfl
def Qoi {l:L_ Int}(hl:l.length<=maxLen)(k:Int):XO l k=some (decide (k∈l)):=by
 unfold XO WB
 rw[Qcb (body:=λst=>Yl l k st) (s0:=(0:Int)) (l:=l) (λi=>(i:Int)) (λ_ y=>k==y) (λi=>.inl (i:Int)) (.inr ()) (λi x hi hx=>by
  show Yl l k i=_
  unfold Yl
  rw[Yw (by omega),Xq,Xd,hx,Qf,Qy hi hl]
  cases (k==x)<;>rfl) (by
  show Yl l k l.length=_
  unfold Yl
  rw[KJ (by omega),Xw]) rfl]
 cases h:Ar (λ_ y=>k==y) 0 l with
 | none=>
  rw[KJ λhk=>?_]
  ·rfl
  obtain⟨i,hi,e⟩:=Fs.1 hk
  have:=QaA h i _ (Qz hi)
  rw[e]at this;simp at this
 | some i=>
  obtain⟨j,x,h1,D,h3⟩:=Qaz h
  rw[Yw (by have:=XG D;rw[show k=x by simpa using h3];exact this)]
  show some (decide (0<=(i:Int)))=_
  rw[Yw (by omega)]
def QmS {l:L_ Int}(h:l.Pairwise (·<=·)):(Km l).length<=l.length:=QaW ((Qkm h).imp λD=>by omega) λx hx=>Qha.1 hx
def QlJ {n:Qe}{s:QN}(h:BL s)(ht:n.Tasks.length<=4096):Qd (GB (QS.mk n s)) λl=>(∀t∈l,0<=t/\t<n.Tasks.length/\t ∉ Yq s)/\(l=[]->∀k:Nat,k<n.Tasks.length->(k:Int)∈Yq s):=by
 have mx:(130023424:Nat)<=maxLen:=by decide
 have hed:=h.ed
 unfold GB
 rw[show CK (QS.mk n s).space=some (Km (KC (Yq s)))from Qkk h,Qf]
 have hmem:∀x:Int,x∈Km (KC (Yq s))↔x∈Yq s:=λx=>Qha.trans QlI
 have hlen:(Km (KC (Yq s))).length<=maxLen:=by
  have h1:=QmS (Qkl (Yq s))
  have h2:=(MT (Yq s)).length_eq
  have h3:(Yq s).length=s.Edges.length:=GK _
  omega
 generalize Km (KC (Yq s))=D at hmem hlen ⊢
 refine T0 (Qd.up n.Tasks.length (λst:Int×L_ Int=>st.1) (λst=>(st.2.length:Int)<=st.1/\(∀t∈st.2,0<=t/\t<n.Tasks.length/\t ∉ Yq s)/\(st.2=[]->∀k:Nat,(k:Int)<st.1->(k:Int)∈Yq s)) (Q:=λl:L_ Int=>(∀t∈l,0<=t/\t<n.Tasks.length/\t ∉ Yq s)/\(l=[]->∀k:Nat,k<n.Tasks.length->(k:Int)∈Yq s)) rfl ⟨by simp,λt h=>(by cases h),λ_ k hk=>by omega⟩ (λi st hi hn hJ=>?_)) (λq hq=>T2 hq)
 obtain⟨x,l⟩:=st
 replace hi:x=(i:Int):=hi
 subst hi
 obtain⟨j1,j2,j3⟩:(l.length:Int)<=(i:Int)/\(∀t∈l,0<=t/\t<n.Tasks.length/\t ∉ Yq s)/\(l=[]->∀k:Nat,(k:Int)<(i:Int)->(k:Int)∈Yq s):=hJ
 show Qd (Bx (QS.mk n s) D i l) _
 unfold Bx
 refine T1 (λhc=>?_) (λhc=>T2 (Qn ⟨j2,λe k hk=>j3 e k ?_⟩))
 ·replace hc:decide ((i:Int)<(n.Tasks.length:Int))=true:=hc
  simp only[QK]at hc
  have i1:i<n.Tasks.length:=by omega
  have hw:Qi ((i:Int)+1)=((i+1:Nat):Int):=Qy i1 (by omega:n.Tasks.length<=maxLen)
  rw[Qoi hlen,Qf]
  have k1:∀l':L_ Int,(l'.length:Int)<=(i:Int)+1->(∀t∈l',0<=t/\t<n.Tasks.length/\t ∉ Yq s)->(l'=[]->∀k:Nat,(k:Int)<(i:Int)+1->(k:Int)∈Yq s)->Qd (WY i l') λo=>(∀s',o=.inl s'->i<n.Tasks.length/\s'.1=((i+1:Nat):Int)/\((s'.2.length:Int)<=s'.1/\(∀t∈s'.2,0<=t/\t<n.Tasks.length/\t ∉ Yq s)/\(s'.2=[]->∀k:Nat,(k:Int)<s'.1->(k:Int)∈Yq s)))/\∀r:L_ Int,o=.inr r->(∀t∈r,0<=t/\t<n.Tasks.length/\t ∉ Yq s)/\(r=[]->∀k:Nat,k<n.Tasks.length->(k:Int)∈Yq s):=λl' h1 h2 h3=>by
   unfold WY
   refine T2 ⟨λs' e=>?_,λq e=>by cases e⟩
   cases e
   refine⟨i1,hw,?_,h2,?_⟩
   ·show(l'.length:Int)<=Qi _;rw[hw];omega
   show l'=[]->∀k:Nat,(k:Int)<Qi _->_
   rw[hw];intro e k hk;exact h3 e k (by omega)
  by_cases c:(i:Int)∈D
  ·rw[Yw c]
   refine k1 l (by omega) j2 λe k hk=>?_
   by_cases ck:k=i
   ·subst ck;exact(hmem _).1 c
   exact j3 e k (by omega)
  rw[KJ c]
  refine T0 (T5 (by simp;omega)) λ_ _=>k1 _ (by simp;omega) (λt ht=>?_) λe=>by simp at e
  rcases YF.1 ht with ht | ht
  ·exact j2 t ht
  simp at ht;subst ht;exact⟨by omega,by omega,λhk=>c ((hmem _).2 hk)⟩
 replace hc:decide ((i:Int)<(n.Tasks.length:Int))=false:=hc
 simp only[Xj]at hc
 omega
def Qoj {n:Qe}{m:L_ Bag}{b tokens:Int}{s:QN}(h:Xn n)(D:SOk n m b tokens s)(hb:b<=31)(hE:s.Edges.length<=130023424):BL s:=by
 have hm:Xg b<=31:=by unfold Xg min2;split<;>omega
 have hpl:=h.pl
 have hl:=D.len
 exact⟨⟨by unfold maxLen;omega,by unfold maxLen;omega,λy hy=>by
  have hg:=D.good y hy
  have:=hg.1.1
  exact⟨by unfold maxLen;omega,λb hb=>by have:=(hg.1.2 b hb).2;unfold maxLen;omega⟩⟩,by omega,hE⟩
inductive Told (n:Qe) (s:QN):Xr->Prop where
 | un:s.Full=false->Told n s (Xr.mk 3 0 0 [])
 | im (k:Nat) (x:Mk) (p:List Qj):s.States[k]? = some x->PK n x=true->WD s (k:Int)=some p->Told n s (Xr.mk 2 1 0 p)
 | lo (k:Nat) (x:Mk) (p:List Qj):s.States[k]? = some x->WD s (k:Int)=some p->Told n s (Xr.mk 2 2 0 p)
 | de (t:Int):0<=t->t<n.Tasks.length->Told n s (Xr.mk 2 3 t [])
 | so (f:List Int):s.Full=true->(∀x∈s.States,PK n x=false)->QeH n s f->(∀k:Nat,k<s.States.length->0<=av f (k:Int))->(∀k:Nat,k<n.Tasks.length->(k:Int)∈Yq s)->Told n s (Xr.mk 1 0 0 [])
def Qkn {n:Qe}{m:L_ Bag}{b tokens:Int}{s:QN}(h:Xn n)(hS:SOk n m b tokens s)(hb:b<=31)(hE:s.Edges.length<=130023424):Qd (WI n s) (Told n s):=by
 have hF:=Qoj h hS hb hE
 have htl:=h.tl
 unfold WI
 refine T1 (λc=>T2 (.un (by simpa using c))) λc=>?_
 have c:s.Full=true:=by simpa using c
 have p1:Ai (QS.mk n s)=(match Ar (λ_ m=>PK n m) 0 s.States with
   | some k=>(WD s (k:Int)).bind λp=>some (false,Xr.mk 2 1 0 p)
   | none=>some (true,Xr.mk 0 0 0 [])):=by
  unfold Ai
  rw[QhC hF,Qf]
  cases Ar (λ_ m=>PK n m) 0 s.States with
  | some k=>
   show(bif decide ((k:Int)<0)then _ else _)=_
   rw[KJ (by omega)];rfl
  | none=>rfl
 rw[p1]
 cases hs:Ar (λ_ m=>PK n m) 0 s.States with
 | some k=>
  obtain⟨i,x,e,hx,hp⟩:=Qaz hs
  rw[Cx]at e
  subst e
  obtain⟨p,q1,_⟩:=QiD h hS hb hE hx
  simp only
  rw[q1,Qf,Qf]
  exact T2 (.im k x p hx hp q1)
 | none=>
  have him:∀x∈s.States,PK n x=false:=λx hx=>by
   obtain⟨i,hi,rfl⟩:=Fs.1 hx
   exact QaA hs i _ (Qz hi)
  simp only
  rw[Qf]
  show Qd ((WX (QS.mk n s)).bind _) _
  obtain⟨f,hf⟩:=QnB (n:=n) hF
  have p2:WX (QS.mk n s)=(bif ((((WE (λx=>decide (x<0)) 0 f).length:Int))==0)then some (true,Xr.mk 0 0 0 [])else(idx (WE (λx=>decide (x<0)) 0 f) 0).bind λe=>(WD s e).bind λp=>some (false,Xr.mk 2 2 0 p)):=by
   unfold WX
   rw[show Ls (QS.mk n s).net (QS.mk n s).space=some (WE (λx=>decide (x<0)) 0 f)from QlH hf,Qf]
  rw[p2]
  cases hL:WE (λx=>decide (x<0)) 0 f with
  | cons e r=>
   have he:e∈WE (λx=>decide (x<0)) 0 f:=by rw[hL];exact XM
   obtain⟨i,y,hi,_,rfl⟩:=Qax.1 he
   have hil:=(QX.1 hi).1
   rw[hf.is.len]at hil
   obtain⟨p,q1,_⟩:=QiD h hS hb hE (Qz hil)
   rw[show((((((0+i:Nat):Int)::r).length:Int))==0)=false by simp;omega,Xw]
   show Qd (((some ((0+i:Nat):Int)).bind _).bind _) _
   rw[Qf,Cx,q1,Qf,Qf]
   exact T2 (.lo i _ p (Qz hil) q1)
  | nil=>
   rw[show(((([]:L_ Int).length:Int))==0)=true from rfl,Xq,Qf]
   show Qd ((Ur (QS.mk n s)).bind _) _
   have hav:∀k:Nat,k<s.States.length->0<=av f (k:Int):=λk hk=>by
    rcases Int.lt_or_le (av f (k:Int)) 0 with h0 | h0
    ·have hin:YV f.length (k:Int):=by rw[hf.is.len];exact⟨by omega,by omega⟩
     have hg:=SX hin
     rw[Ye]at hg
     have:(k:Int)∈WE (λx=>decide (x<0)) 0 f:=Qax.2 ⟨k,_,hg,Yw h0,by simp⟩
     rw[hL]at this;cases this
    exact h0
   obtain⟨D,d1,d2,d3⟩:=QlJ (n:=n) hF (by omega)
   unfold Ur
   rw[d1,Qf]
   cases D with
   | nil=>exact T2 (.so f c him hf hav (d3 rfl))
   | cons t r=>
    have:=d2 t XM
    rw[show((((t::r).length:Int))==0)=false by simp;omega,Xw]
    exact T2 (.de t this.1 this.2.1)
end Go.Proofs
noncomputable section
namespace Go.Proofs
open Go Go.RowKit Go.Vm Go.Rk
def QoT {α:Type}{l:L_ α}{i:Nat}(h:i<l.length):l.take (i+1)=l.take i++[l[i]]:=by rw[Un,Qz h];rfl
def Kw (n:Qe)(m:L_ Bag)(h t:Int):Int:=match idx n.Tasks t with
 | some e=>if e.Join=3 then QfT n m t h else 1
 | none=>0
def QeI {n:Qe}{m:L_ Bag}{o:Qj}(h:Int)(D:JC n m o=some 0):Ps n m o h=Kw n m h o.Task:=by
 unfold Ps Kw
 cases idx n.Tasks o.Task<;>exact if_pos D
def KI (n:Qe)(m:L_ Bag)(b:Int)(X:L_ Qj):L_ Qj×Bool:=(X.filter λo=>Kw n m b o.Task==1,X.all λo=>Kw n m b o.Task != 2)
def QnC {n:Qe}{m:L_ Bag}(b:Int)(h:Xn n)(hb:Bd n)(hg:XZ n m):DK n m b 9223372036854775807=some (KI n m b (YM n m)):=by
 have hml:=hg.len h
 have hal:=QgL m h hb
 have mx:(4194304:Nat)<=maxLen:=by decide
 unfold DK
 rw[QeE n m 9223372036854775807 h hml (by omega) (by omega) (.inr (by omega)),Qf]
 have e0:(YM n m).take (9223372036854775807:Int).toNat=YM n m:=Wp (by omega)
 rw[e0]
 have hok:=λo=>Lx (o:=o) h hml
 have hck:∀o∈YM n m,JC n m o=some 0:=λo ho=>(Qcr h hml (hok o ho)).2 (QgK.1 ho)
 generalize hX:YM n m=X at hal hok hck
 have main:Qd (QD (λst:Bool×Int×L_ Qj×L_ (Int×Int)=>WQ X n m b st.1 st.2.1 st.2.2.1 st.2.2.2) (true,0,[],[])) λq=>q.2=(KI n m b X).1/\q.1=(KI n m b X).2:=by
  refine Qd.up X.length (λst=>st.2.1) (λst=>st.2.2.1=(KI n m b (X.take st.2.1.toNat)).1/\st.1=(KI n m b (X.take st.2.1.toNat)).2/\∀k v,Qq st.2.2.2 k=some v->v=Kw n m b k) rfl ⟨rfl,rfl,λk v hv=>by cases hv⟩ (λi st hi hn hJ=>?_)
  obtain⟨kn,x,l,mm⟩:=st
  replace hi:x=(i:Int):=hi
  subst hi
  obtain⟨j1,j2,j3⟩:l=(KI n m b (X.take (i:Int).toNat)).1/\kn=(KI n m b (X.take (i:Int).toNat)).2/\∀k v,Qq mm k=some v->v=Kw n m b k:=hJ
  rw[Ye]at j1 j2
  show Qd (WQ X n m b kn i l mm) _
  unfold WQ
  refine T1 (λhc=>?_) (λhc=>T2 (Qn ?_))
  ·simp only[QK]at hc
   have i1:i<X.length:=by omega
   have hw:Qi ((i:Int)+1)=((i+1:Nat):Int):=Qy i1 (by omega:X.length<=maxLen)
   have ho:=Yf i1
   rw[Xd,Qz i1,Qf]
   have ht:X.take (i+1)=X.take i++[X[i]]:=QoT i1
   have hll:l.length<=i:=by rw[j1];unfold KI;exact Yh (Fq _ _) (by rw[Wo];omega)
   generalize X[i]=o at ho ht ⊢
   have hoo:=hok o ho
   rw[Qiv o b h hb hg hoo,QeI b (hck o ho),Qf]
   have fin:∀D:L_ (Int×Int),Qq D o.Task=some (Kw n m b o.Task)->(∀k v,Qq D k=some v->v=Kw n m b k)->
     ∃s',KT o l i kn D=some (.inl s')/\i<X.length/\s'.2.1=((i+1:Nat):Int)/\(s'.2.2.1=(KI n m b (X.take s'.2.1.toNat)).1/\s'.1=(KI n m b (X.take s'.2.1.toNat)).2/\∀k v,Qq s'.2.2.2 k=some v->v=Kw n m b k):=λD f1 f2=>by
    unfold KT WP
    rw[f1]
    simp only[Eg]
    have hw2:(Qi ((i:Int)+1)).toNat=i+1:=by rw[hw,Ye]
    by_cases c1:Kw n m b o.Task=1
    ·rw[c1,show((1:Int)==1)=true from rfl,Xq,Gr (by simp;omega),Qf]
     refine⟨_,rfl,i1,hw,?_,?_,f2⟩
     ·show l++[o]=(KI n m b (X.take (Qi ((i:Int)+1)).toNat)).1
      rw[hw2,ht,j1]
      unfold KI
      rw[Fp,GJ,if_pos (by simpa using c1),List.filter_nil]
     show kn=(KI n m b (X.take (Qi ((i:Int)+1)).toNat)).2
     rw[hw2,ht,j2]
     unfold KI
     rw[List.all_append,HG,List.all_nil,c1];simp
    rw[show(Kw n m b o.Task==1)=false by simpa using c1,Xw]
    by_cases c2:Kw n m b o.Task=2
    ·rw[c2,show((2:Int)==2)=true from rfl,Xq]
     refine⟨_,rfl,i1,hw,?_,?_,f2⟩
     ·show l=(KI n m b (X.take (Qi ((i:Int)+1)).toNat)).1
      rw[hw2,ht,j1]
      unfold KI
      rw[Fp,GJ,if_neg (by simpa using c1),List.filter_nil,OG]
     show false=(KI n m b (X.take (Qi ((i:Int)+1)).toNat)).2
     rw[hw2,ht]
     unfold KI
     rw[List.all_append,HG,c2];simp
    rw[show(Kw n m b o.Task==2)=false by simpa using c2,Xw]
    refine⟨_,rfl,i1,hw,?_,?_,f2⟩
    ·show l=(KI n m b (X.take (Qi ((i:Int)+1)).toNat)).1
     rw[hw2,ht,j1]
     unfold KI
     rw[Fp,GJ,if_neg (by simpa using c1),List.filter_nil,OG]
    show kn=(KI n m b (X.take (Qi ((i:Int)+1)).toNat)).2
    rw[hw2,ht,j2]
    unfold KI
    rw[List.all_append,HG,List.all_nil,show(Kw n m b o.Task != 2)=true by simpa using c2];simp
   have out:∀D:L_ (Int×Int),Qq D o.Task=some (Kw n m b o.Task)->(∀k v,Qq D k=some v->v=Kw n m b k)->Qd (KT o l i kn D) λr=>(∀s',r=.inl s'->i<X.length/\s'.2.1=((i+1:Nat):Int)/\(s'.2.2.1=(KI n m b (X.take s'.2.1.toNat)).1/\s'.1=(KI n m b (X.take s'.2.1.toNat)).2/\∀k v,Qq s'.2.2.2 k=some v->v=Kw n m b k))/\∀q:Bool×L_ Qj,r=.inr q->q.2=(KI n m b X).1/\q.1=(KI n m b X).2:=λD f1 f2=>by
    obtain⟨s',e,g⟩:=fin D f1 f2
    rw[e]
    exact T2 ⟨λs'' e2=>(by cases e2;exact g),λq e2=>by cases e2⟩
   cases hv:Qq mm o.Task with
   | some v=>
    rw[show(!(some v).isSome)=false from rfl,Xw]
    have:=j3 _ _ hv
    subst this
    exact out mm hv j3
   | none=>
    rw[show(!(none:O_ Int).isSome)=true from rfl,Xq]
    refine out _ (by rw[JJ,if_pos rfl]) λk v hkv=>?_
    rw[JJ]at hkv
    split at hkv
    ·rename_i e
     subst e
     exact(Option.some.inj hkv).symm
    exact j3 k v hkv
  simp only[Xj]at hc
  rw[Wp (by omega)]at j1 j2
  exact⟨j1,j2⟩
 obtain⟨⟨q1,q2⟩,hq,h1,h2⟩:=main
 rw[hq,Qf]
 replace h1:q2=_:=h1
 replace h2:q1=_:=h2
 subst h1 h2
 rfl
def QeJ {n:Qe}{m:L_ Bag}(b:Int)(h:Xn n)(D:Bd n)(hg:XZ n m):YR n m b=KI n m b (YM n m):=by
 unfold YR
 rw[QnC b h D hg];rfl
def QlK {n:Qe}{m:L_ Bag}{b b':Int}(hab:b<=b')(h:Xn n)(hb:Bd n)(hg:XZ n m)(hk:(YR n m b).2=true):YR n m b'=YR n m b:=by
 have hml:=hg.len h
 rw[QeJ b h hb hg]at hk
 rw[QeJ b h hb hg,QeJ b' h hb hg]
 have key:∀o∈YM n m,Kw n m b' o.Task=Kw n m b o.Task:=λo D=>by
  have hc:=(Qcr h hml (Lx h hml D)).2 (QgK.1 D)
  have h2:Kw n m b o.Task≠2:=by
   have:=Xz.1 hk o D
   simpa using this
  rw[<-QeI b hc]at h2 ⊢
  rw[<-QeI b' hc]
  exact Qj8 o hab h2
 unfold KI
 have e1:(YM n m).filter (λo=>Kw n m b' o.Task==1)=(YM n m).filter λo=>Kw n m b o.Task==1:=List.filter_congr λo D=>by rw[key o D]
 have e2:((YM n m).all λo=>Kw n m b' o.Task != 2)=(YM n m).all λo=>Kw n m b o.Task != 2:=by
  rw[Ti,Xz,Xz]
  exact⟨λg o D=>(key o D)▸g o D,λg o D=>(key o D).symm▸g o D⟩
 rw[e1,e2]
def QmT {n:Qe}{x:L_ Bag}{a:Int}{most:Nat}{st:NS}{o:Qj}(h:(Jh most n x a st o).2.2=true):st.2.2=true:=by
 unfold Jh at h
 cases hD:Yc n x o with
 | none=>rw[hD]at h;exact h
 | some r=>
  obtain⟨y,c⟩:=r
  rw[hD]at h
  simp only at h
  by_cases D:c=0
  ·rw[if_pos D]at h
   cases hk:AF st.1 (XK y)with
   | some k=>rw[hk]at h;exact h
   | none=>
    rw[hk]at h
    simp only at h
    split at h
    ·cases h
    exact h
  rw[if_neg D]at h;cases h
def QcB {n:Qe}{x:L_ Bag}{a:Int}{most:Nat}:∀{X:L_ Qj} {st:NS},(X.foldl (Jh most n x a) st).2.2=true->st.2.2=true:=by
 intro X
 induction X with
 | nil=>intro st h;exact h
 | cons o X D=>intro st h;exact QmT (D (by rwa[Tl]at h))
def Qhb {n:Qe}{b t:Int}:∀(f:Nat) {st:NS} {a:Nat},(KH n b t f st a).2.2=true->st.2.2=true:=by
 intro f
 induction f with
 | zero=>intro st a h;exact h
 | succ f ih=>
  intro st a h
  rw[KH]at h
  cases D:st.1[a]? with
  | none=>rw[D]at h;exact h
  | some x=>
   rw[D]at h
   simp only at h
   split at h
   ·have:=ih h;cases this
   have:=QcB (ih h)
   rw[QH]at this
   exact this.1
def QmU {n:Qe}{x:L_ Bag}{a:Int}{p q:Nat}(hpq:p<=q){st:NS}{o:Qj}(h:(Jh p n x a st o).2.2=true):Jh q n x a st o=Jh p n x a st o:=by
 unfold Jh at h ⊢
 cases hD:Yc n x o with
 | none=>rfl
 | some r=>
  obtain⟨y,c⟩:=r
  rw[hD]at h
  simp only at h ⊢
  by_cases D:c=0
  ·rw[if_pos D]at h
   rw[if_pos D,if_pos D]
   cases hk:AF st.1 (XK y)with
   | some k=>rfl
   | none=>
    rw[hk]at h
    simp only at h ⊢
    by_cases cl:p<=st.1.length
    ·rw[if_pos cl]at h;cases h
    rw[if_neg cl]
    by_cases cq:q<=st.1.length
    ·omega
    rw[if_neg cq]
  rw[if_neg D,if_neg D]
def QlL {n:Qe}{x:L_ Bag}{a:Int}{p q:Nat}(D:p<=q):∀{X:L_ Qj} {st:NS},(X.foldl (Jh p n x a) st).2.2=true->X.foldl (Jh q n x a) st=X.foldl (Jh p n x a) st:=by
 intro X
 induction X with
 | nil=>intro st _;rfl
 | cons o X ih=>
  intro st h
  rw[Tl]at h
  rw[Tl,Tl,QmU D (QcB h)]
  exact ih h
def QlM {n:Qe}{b b' t t':Int}(hb:b<=b')(ht:t<=t')(h:Xn n)(hbd:Bd n):∀(f D:Nat) {st:NS} {a:Nat},f<=D->Xg b<f+a->st.1.length<=Xg b->(∀y∈st.1,XZ n y)->(KH n b t f st a).2.2=true->KH n b' t' D st a=KH n b t f st a:=by
 have hm:Xg b<=Xg b':=by
  unfold Xg min2
  repeat' split
  all_goals omega
 intro f
 induction f with
 | zero=>
  intro D st a _ h2 h3 _ _
  cases D with
  | zero=>rfl
  | succ D=>rw[KH,KH,ZF (by omega)]
 | succ f ih=>
  intro D st a h1 h2 h3 hg hf
  cases D with
  | zero=>omega
  | succ D=>
   rw[KH]at hf ⊢
   rw[KH]
   cases hx:st.1[a]? with
   | none=>rfl
   | some x=>
    rw[hx]at hf
    simp only at hf ⊢
    have hgx:=hg x (XG hx)
    by_cases ct:t<VO x
    ·rw[if_pos ct]at hf
     have:=Qhb _ hf
     cases this
    rw[if_neg ct]at hf
    rw[if_neg ct,if_neg (by omega)]
    have hd:=Qhb _ hf
    have hd2:=QcB hd
    simp only[QH]at hd2
    obtain⟨_,_,q3⟩:=Zz b h hbd hgx
    have hok:∀o∈(YR n x b).1,Kv n o:=λo ho=>Lx h (hgx.len h) (q3 o ho)
    obtain⟨g1,g2,_⟩:=Qcs (a:=(a:Int)) (most:=Xg b) h hgx (X:=(YR n x b).1) (st:=(st.1,st.2.1,st.2.2&&(YR n x b).2)) hok hg h3
    rw[QlK hb h hbd hgx hd2.2,QlL hm hd]
    exact ih D (by omega) (by omega) g2 g1 hf
def Qko {n:Qe}{m:L_ Bag}{b b' t t':Int}(hb:b<=b')(ht:t<=t')(h:Xn n)(hbd:Bd n)(hg:XZ n m)(D:(Da n m b t).Full=true):Da n m b' t'=Da n m b t:=by
 unfold Da at D ⊢
 by_cases c:b<=0
 ·rw[if_pos c]at D;cases D
 rw[if_neg c]at D
 rw[if_neg c,if_neg (by omega)]
 have hm:1<=Xg b:=by unfold Xg min2;split<;>omega
 have hm2:Xg b<=Xg b':=by
  unfold Xg min2
  repeat' split
  all_goals omega
 rw[QlM hb ht h hbd (Xg b+1) (Xg b'+1) (st:=([m],[],true)) (a:=0) (by omega) (by omega) hm (λy hy=>by simp at hy;subst hy;exact hg) D]
def QlN {n:Qe}{b c:Int}(tokens:Int)(h:QfX n b)(D:c<=31):FD n c tokens=some (Da n (CS n) c tokens):=by
 unfold FD
 rw[h.first,Qf,Qnx c tokens h.net h.bd h.good D];rfl
def QmV {n:Qe}{m:L_ Bag}{b t:Int}(h:(Da n m b t).Full=true):0<b:=by
 rcases Int.lt_or_le 0 b with c | c
 ·exact c
 unfold Da at h;rw[if_pos c]at h;cases h
def RE {n:Qe}{b c:Int}(tokens:Int)(h:QfX n b)(D:c<=31):∃v,JV n c tokens=some v/\WI n (Da n (CS n) c tokens)=some v/\Told n (Da n (CS n) c tokens) v:=by
 unfold JV
 rw[QlN tokens h D,Qf]
 cases hf:(Da n (CS n) c tokens).Full with
 | true=>
  have h0:=QmV hf
  obtain⟨v,h1,h2⟩:=Qkn h.net (QmI (tokens:=tokens) h.net h.bd h.pl h.good h0) D (Qlz h.net h.bd h.good D)
  rw[h1];exact⟨v,rfl,rfl,h2⟩
 | false=>
  have e:WI n (Da n (CS n) c tokens)=some (Xr.mk 3 0 0 []):=by unfold WI;rw[hf];rfl
  rw[e];exact⟨_,rfl,rfl,.un hf⟩
def Qkp {n:Qe}{b c c' t t':Int}(D:QfX n b)(hc:c<=c')(hc':c'<=31)(ht:t<=t'){v v':Xr}(h1:JV n c t=some v)(h2:JV n c' t'=some v')(hv:v.Told≠3):v'=v:=by
 obtain⟨u,e1,e2,e3⟩:=RE t D (by omega:c<=31)
 rw[h1]at e1;cases e1
 obtain⟨u',f1,f2,f3⟩:=RE t' D hc'
 rw[h2]at f1;cases f1
 have h:(Da n (CS n) c t).Full=true:=by
  cases hf:(Da n (CS n) c t).Full with
  | true=>rfl
  | false=>
   have:WI n (Da n (CS n) c t)=some (Xr.mk 3 0 0 []):=by unfold WI;rw[hf];rfl
   rw[e2]at this;cases this;exact absurd rfl hv
 rw[Qko hc ht D.net D.bd D.good h,e2]at f2
 exact(Option.some.inj f2).symm
def QnD : PF=some true:=by kernel_rfl
end Go.Proofs
noncomputable section
namespace Go.Proofs
open Go Go.RowKit Go.Vm Go.Rk
def Qi0 (n:Qe)(b tokens h:Int)(hn:Xm n)(hr:Rch n):GD n b tokens h=some true:=by
 unfold GD
 rw[QnD,Qf]
 obtain⟨f,hf,hf2⟩:=QmJ n b hn hr
 rw[hf,Qf]
 cases hc:((!f)||((decide (h<0))||((decide (10<h))||((decide (1048576<tokens))||(decide (b<0))))))with
 | true=>rfl
 | false=>
  simp only[Xw]
  simp only[KZ,AH,Xj]at hc
  obtain⟨c1,c2,c3,c4,c5⟩:=hc
  have D:=hf2 c1
  have hb:=D.bud
  have hmx:0<=max2 tokens 0/\tokens<=max2 tokens 0/\max2 tokens 0<=1048576:=by unfold max2;split<;>omega
  rw[XX (by omega),XX (by omega)]
  obtain⟨v,h1,_⟩:=RE (c:=b) tokens D (by omega)
  obtain⟨v',h2,_⟩:=RE (c:=b+h) (max2 tokens 0+h) D (by omega)
  have hv:=Qkp D (by omega:b<=b+h) (by omega) (by omega:tokens<=max2 tokens 0+h) h1 h2
  rw[h1,h2,Qf,Qf]
  by_cases c:v.Told=3
  ·rw[show(v.Told==3)=true by simpa using c];rfl
  rw[hv c];simp
end Go.Proofs
