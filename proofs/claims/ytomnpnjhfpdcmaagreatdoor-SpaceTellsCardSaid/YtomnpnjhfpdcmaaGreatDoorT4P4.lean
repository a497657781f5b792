/- A part of the proof. -/
import Derived.Test.YtomnpnjhfpdcmaaGreatDoorT4P3
import Derived.Test.YtomnpnjhfpdcmaaGreatDoorT4P3
import Derived.Test.YtomnpnjhfpdcmaaGreatDoorT4P3
import Derived.Test.YtomnpnjhfpdcmaaGreatDoorT4P3
import Derived.Test.YtomnpnjhfpdcmaaGreatDoorT4P3
import Derived.Test.YtomnpnjhfpdcmaaGreatDoorT4P3
import Derived.Test.YtomnpnjhfpdcmaaGreatDoorT4T3
import Derived.KernelRfl
set_option linter.all false
noncomputable section
namespace Go.Proofs
open Go Go.RowKit Go.Vm
def QqW {n:Qk}{m:L_ Bag}(budget:Int)(h:Xd n)(hb:Bd n)(hg:Xz n m):Qj (Gz n m budget 9223372036854775807) λr=>r.1.length<=4194304/\∀o∈r.1,o∈YW n m:=by
 have hml:=hg.len h
 have hal:=QeY m h hb
 unfold Gz
 rw[QcD n m 9223372036854775807 h hml (by omega) (by omega) (.inr (by omega)),Qd]
 have e0:(YW n m).take (9223372036854775807:Int).toNat=YW n m:=JR (by omega)
 rw[e0]
 have hok:=λo=>Rj (o:=o) h hml
 refine T0 (Qj.up (YW n m).length (λst=>st.2.1) (λst=>(st.2.2.1.length:Int)<=st.2.1/\∀o∈st.2.2.1,o∈YW n m) (Q:=λq:Bool×L_ Qg=>q.2.length<=4194304/\∀o∈q.2,o∈YW n m) rfl ⟨by simp,λo h=>(by cases h)⟩ (λi st hi hn hJ=>?_)) (λq hq=>T2 hq)
 obtain⟨known,x,l,mm⟩:=st
 replace hi:x=(i:Int):=hi
 subst hi
 obtain⟨j1,j2⟩:(l.length:Int)<=(i:Int)/\∀o∈l,o∈YW n m:=hJ
 show Qj (Kk (YW n m) n m budget known i l mm) _
 unfold Kk
 refine T1 (λhc=>?_) (λhc=>T2 (Qq ⟨by show l.length<=_;omega,j2⟩))
 simp only[QB]at hc
 have i1:i<(YW n m).length:=by omega
 have hw:Qi ((i:Int)+1)=((i+1:Nat):Int):=Qt i1 (by unfold maxLen;omega:(YW n m).length<=maxLen)
 have ho:=Xn i1
 rw[QP,Qy i1,Qd]
 generalize (YW n m)[i]=o at ho ⊢
 have k1:∀(D:Bool) l' mm',(l'.length:Int)<=(i:Int)+1->(∀o∈l',o∈YW n m)->Qj (Dj i D l' mm') λr=>(∀s',r=.inl s'->i<(YW n m).length/\s'.2.1=((i+1:Nat):Int)/\(s'.2.2.1.length:Int)<=s'.2.1/\∀o∈s'.2.2.1,o∈YW n m)/\∀q:Bool×L_ Qg,r=.inr q->q.2.length<=4194304/\∀o∈q.2,o∈YW n m:=λD l' mm' h1 h2=>by
  unfold Dj
  exact T2 (QJ (ix:=λst:Bool×Int×L_ Qg×QBg=>st.2.1) (J:=λst:Bool×Int×L_ Qg×QBg=>(st.2.2.1.length:Int)<=st.2.1/\∀o∈st.2.2.1,o∈YW n m) ⟨i1,hw,by show(l'.length:Int)<=Qi _;rw[hw];omega,h2⟩)
 have k2:∀mm',Qj (Dk o l i known mm') λr=>(∀s',r=.inl s'->i<(YW n m).length/\s'.2.1=((i+1:Nat):Int)/\(s'.2.2.1.length:Int)<=s'.2.1/\∀o∈s'.2.2.1,o∈YW n m)/\∀q:Bool×L_ Qg,r=.inr q->q.2.length<=4194304/\∀o∈q.2,o∈YW n m:=λmm'=>by
  unfold Dk
  refine T1 (λc1=>?_) λc1=>T1 (λc2=>k1 _ _ _ (by omega) j2) λc2=>k1 _ _ _ (by omega) j2
  refine T0 (T5 (by simp;omega)) λ_ _=>k1 _ _ _ (by simp;omega) λo' ho'=>?_
  rcases YD.1 ho' with ho' | ho'
  ·exact j2 o' ho'
  simp at ho';subst ho';exact ho
 refine T1 (λc=>?_) λc=>k2 _
 rw[QmU o budget h hb hg (hok o ho),Qd]
 exact k2 _
def JE (n:Qk)(m:L_ Bag)(budget:Int):L_ Qg×Bool:=(Gz n m budget 9223372036854775807).getD ([],false)
def Qe0 {n:Qk}{m:L_ Bag}(budget:Int)(h:Xd n)(hb:Bd n)(hg:Xz n m):Gz n m budget 9223372036854775807=some (JE n m budget)/\(JE n m budget).1.length<=4194304/\∀o∈(JE n m budget).1,o∈YW n m:=by
 obtain⟨r,D,h2⟩:=QqW budget h hb hg
 unfold JE
 rw[D];exact⟨rfl,h2⟩
def AH (L:L_ (L_ Bag))(s:ByteArray):O_ Nat:=L.findIdx? λy=>decide (Xt y=s)
def FI (mm:L_ (ByteArray×Int))(L:L_ (L_ Bag)):Prop:=∀s,QR mm s=(AH L s).map λi=>(i:Int)
def QqX (L:L_ (L_ Bag))(y:L_ Bag)(s:ByteArray):AH (L++[y]) s=match AH L s with
  | some i=>some i
  | none=>if Xt y=s then some L.length else none:=by
 unfold AH
 rw[List.findIdx?_append]
 cases L.findIdx? λy=>decide (Xt y=s)with
 | some i=>rfl
 | none=>
  by_cases c:Xt y=s
  ·simp[c,List.findIdx?_cons]
  simp[c,List.findIdx?_cons]
def FI.add {mm:L_ (ByteArray×Int)}{L:L_ (L_ Bag)}(h:FI mm L){y:L_ Bag}(D:AH L (Xt y)=none):FI (YI OM mm (Xt y) (L.length:Int)) (L++[y]):=λs=>by
 rw[UM,QqX]
 by_cases c:s=Xt y
 ·subst c
  rw[if_pos rfl,D];simp
 rw[if_neg c,h s]
 cases AH L s with
 | some i=>rfl
 | none=>simp only;rw[if_neg λe=>c e.symm]
def QW (b:Int):Nat:=(min2 b 4096).toNat
def QrG {n:Qk}{m:L_ Bag}(h:Xd n)(D:Xz n m):Sf m=some (Xt m):=QjF h D
def QjL {n:Qk}{mm:L_ (ByteArray×Int)}{L:L_ (L_ Bag)}(b:Int)(E:L_ QY)(full:Bool){y:L_ Bag}(h:Xd n)(hg:Xz n y)(hI:FI mm L)(hb:0<b):
  ∃k D mm',WR n.Colours n.Places n.Tasks n.From n.To b mm L E full y=some (k,D,n.Colours,n.Places,n.Tasks,n.From,n.To,b,full,mm')/\FI mm' D/\
   ((∃i:Nat,AH L (Xt y)=some i/\k=(i:Int)/\D=L)\/(AH L (Xt y)=none/\QW b<=L.length/\k=-1/\D=L)\/(AH L (Xt y)=none/\¬QW b<=L.length/\k=(L.length:Int)/\D=L++[y])):=by
 have hmost:(QW b:Int)=min2 b 4096:=by unfold QW min2;split<;>omega
 have hm2:QW b<=4096:=by unfold QW min2;split<;>omega
 unfold WR
 rw[QrG h hg,Qd,hI (Xt y)]
 cases hp:AH L (Xt y)with
 | some i=>exact⟨i,L,mm,rfl,hI,.inl ⟨i,rfl,rfl,rfl⟩⟩
 | none=>
  simp only[MQ,Option.isSome_none,Qs]
  cases hc:decide (min2 b 4096<=(L.length:Int))with
  | true=>exact⟨-1,L,mm,rfl,hI,.inr (.inl ⟨by trivial,by have:=Xo hc;omega,rfl,rfl⟩)⟩
  | false=>
   have hc':=of_decide_eq_false hc
   simp only[Qs,Qd]
   rw[WJ (by simp;omega),Qd]
   exact⟨L.length,L++[y],_,rfl,hI.add hp,.inr (.inr ⟨by trivial,by omega,rfl,rfl⟩)⟩
abbrev SSt := L_ (L_ Bag)×L_ QY×Bool
def Yr (most:Nat)(n:Qk)(x:L_ Bag)(a:Int)(st:SSt)(o:Qg):SSt:=match Yh n x o with
 | some (y,c)=>if c=0 then(match AH st.1 (Xt y)with
   | some k=>(st.1,st.2.1++[QY.mk a (k:Int) o],st.2.2)
   | none=>if most<=st.1.length then(st.1,st.2.1,false)else(st.1++[y],st.2.1++[QY.mk a (st.1.length:Int) o],st.2.2))
  else(st.1,st.2.1,false)
 | none=>st
def QoK {n:Qk}{mm:L_ (ByteArray×Int)}{L:L_ (L_ Bag)}{E:L_ QY}{full:Bool}{x:L_ Bag}{a:Nat}(b:Int)(h:Xd n)(hbd:Bd n)(hg:Xz n x)(hI:FI mm L)(hb:0<b)(hx:L[a]? = some x)(hE:E.length<=134217728):
  ∃D,let T:=(JE n x b).1.foldl (Yr (QW b) n x a) (L,E,full&&(JE n x b).2)
   Em n.Colours n.Places n.Tasks n.From n.To b mm L E full a=some (T.1,T.2.1,n.Colours,n.Places,n.Tasks,n.From,n.To,b,T.2.2,D)/\FI D T.1:=by
 obtain⟨hf,hfl,hfm⟩:=Qe0 b h hbd hg
 unfold Em
 rw[QP,hx,Qd,show Qk.mk n.Colours n.Places n.Tasks n.From n.To=n from rfl,hf,Qd]
 have g1:Uz full (JE n x b)=some (full&&(JE n x b).2):=by
  unfold Uz;cases full<;>rfl
 rw[g1,Qd]
 have hok:∀o∈(JE n x b).1,XQ n o:=λo ho=>Rj h (hg.len h) (hfm o ho)
 unfold DK
 generalize hX:(JE n x b).1=X at hfl hok ⊢
 generalize (full&&(JE n x b).2)=full0
 have main:Qj (Qu (λst=>KO (JE n x b) x a st.1 st.2.1 st.2.2.1 st.2.2.2.1 st.2.2.2.2.1 st.2.2.2.2.2.1 st.2.2.2.2.2.2.1 st.2.2.2.2.2.2.2.1 st.2.2.2.2.2.2.2.2.1 st.2.2.2.2.2.2.2.2.2.1 st.2.2.2.2.2.2.2.2.2.2) ((0:Int),n.Colours,n.Places,n.Tasks,n.From,n.To,b,full0,mm,E,L))
   λq=>∃D,q=(n.Colours,n.Places,n.Tasks,n.From,n.To,b,(X.foldl (Yr (QW b) n x a) (L,E,full0)).2.2,D,(X.foldl (Yr (QW b) n x a) (L,E,full0)).2.1,(X.foldl (Yr (QW b) n x a) (L,E,full0)).1)/\FI D (X.foldl (Yr (QW b) n x a) (L,E,full0)).1:=by
  refine Qj.up X.length (λst=>st.1) (λst=>st.2.1=n.Colours/\st.2.2.1=n.Places/\st.2.2.2.1=n.Tasks/\st.2.2.2.2.1=n.From/\st.2.2.2.2.2.1=n.To/\st.2.2.2.2.2.2.1=b/\FI st.2.2.2.2.2.2.2.2.1 st.2.2.2.2.2.2.2.2.2.2/\(st.2.2.2.2.2.2.2.2.2.1.length:Int)<=E.length+st.1/\(X.drop st.1.toNat).foldl (Yr (QW b) n x a) (st.2.2.2.2.2.2.2.2.2.2,st.2.2.2.2.2.2.2.2.2.1,st.2.2.2.2.2.2.2.1)=X.foldl (Yr (QW b) n x a) (L,E,full0)) rfl ⟨rfl,rfl,rfl,rfl,rfl,rfl,hI,by simp,rfl⟩ (λi st hi hn hJ=>?_)
  obtain⟨i',c,p,t,fr,tz,b',fu,mm,E',L'⟩:=st
  replace hi:i'=(i:Int):=hi
  subst hi
  obtain⟨e1,e2,e3,e4,e5,e6,j1,j2,j3⟩:c=n.Colours/\p=n.Places/\t=n.Tasks/\fr=n.From/\tz=n.To/\b'=b/\FI mm L'/\(E'.length:Int)<=E.length+(i:Int)/\(X.drop (i:Int).toNat).foldl (Yr (QW b) n x a) (L',E',fu)=X.foldl (Yr (QW b) n x a) (L,E,full0):=hJ
  subst e1;subst e2;subst e3;subst e4;subst e5;subst e6
  rw[XC]at j3
  show Qj (KO (JE n x b') x a i n.Colours n.Places n.Tasks n.From n.To b' fu mm E' L') _
  unfold KO
  rw[hX]
  refine T1 (λhc=>?_) (λhc=>T2 (Qq ?_))
  ·simp only[QB]at hc
   have i1:i<X.length:=by omega
   have hw:Qi ((i:Int)+1)=((i+1:Nat):Int):=Qt i1 (by unfold maxLen;omega:X.length<=maxLen)
   rw[QP,Qy i1,Qd,show Qk.mk n.Colours n.Places n.Tasks n.From n.To=n from rfl]
   rw[Lt i1,List.foldl_cons]at j3
   have ho:=hok _ (Xn i1)
   generalize X[i]=o at ho j3 ⊢
   obtain⟨⟨y,cc⟩,hD,_⟩:=QmF n x o 1024 h hg.1 (by omega) ho
   rw[hD,Qd]
   have next:∀(fu':Bool) D E'' L'',FI D L''->(E''.length:Int)<=E.length+((i:Int)+1)->Yr (QW b') n x a (L',E',fu) o=(L'',E'',fu')->
     Qj (KM i n.Colours n.Places n.Tasks n.From n.To b' fu' D E'' L'') λr=>(∀s',r=.inl s'->i<X.length/\s'.1=((i+1:Nat):Int)/\(s'.2.1=n.Colours/\s'.2.2.1=n.Places/\s'.2.2.2.1=n.Tasks/\s'.2.2.2.2.1=n.From/\s'.2.2.2.2.2.1=n.To/\s'.2.2.2.2.2.2.1=b'/\FI s'.2.2.2.2.2.2.2.2.1 s'.2.2.2.2.2.2.2.2.2.2/\(s'.2.2.2.2.2.2.2.2.2.1.length:Int)<=E.length+s'.1/\(X.drop s'.1.toNat).foldl (Yr (QW b') n x a) (s'.2.2.2.2.2.2.2.2.2.2,s'.2.2.2.2.2.2.2.2.2.1,s'.2.2.2.2.2.2.2.1)=X.foldl (Yr (QW b') n x a) (L,E,full0)))/\
      ∀q,r=.inr q->∃D,q=(n.Colours,n.Places,n.Tasks,n.From,n.To,b',(X.foldl (Yr (QW b') n x a) (L,E,full0)).2.2,D,(X.foldl (Yr (QW b') n x a) (L,E,full0)).2.1,(X.foldl (Yr (QW b') n x a) (L,E,full0)).1)/\FI D (X.foldl (Yr (QW b') n x a) (L,E,full0)).1:=λfu' D E'' L'' f1 f2 f3=>by
    unfold KM
    refine T2 ⟨λs' e=>?_,λq e=>by cases e⟩
    cases e
    refine⟨i1,hw,rfl,rfl,rfl,rfl,rfl,rfl,f1,by show(E''.length:Int)<=_+Qi _;rw[hw];omega,?_⟩
    show(X.drop (Qi ((i:Int)+1)).toNat).foldl (Yr (QW b') n x a) (L'',E'',fu')=_
    rw[hw,XC,<-j3,f3]
   by_cases c0:cc=0
   ·subst c0
    have hgy:=TX h hg ho hD
    simp only[show((0:Int)==0)=true from rfl,Qz]
    obtain⟨k,L'',mm'',hs,f1,f2⟩:=QjL b' E' fu h hgy j1 hb
    rw[hs,Qd]
    simp only
    unfold KN
    rcases f2 with⟨p,p1,rfl,rfl⟩|⟨p1,p2,rfl,rfl⟩|⟨p1,p2,rfl,rfl⟩
    ·rw[QK (by omega),Qs]
     refine T0 (T5 (by simp;omega)) λ_ _=>next _ _ _ _ f1 (by simp;omega) ?_
     unfold Yr;rw[hD];simp only;rw[if_pos trivial,p1]
    ·rw[show decide ((-1:Int)<0)=true from rfl,Qz]
     refine next _ _ _ _ f1 (by omega) ?_
     unfold Yr;rw[hD];simp only;rw[if_pos trivial,p1];simp only;rw[if_pos p2]
    rw[QK (by omega),Qs]
    refine T0 (T5 (by simp;omega)) λ_ _=>next _ _ _ _ f1 (by simp;omega) ?_
    unfold Yr;rw[hD];simp only;rw[if_pos trivial,p1];simp only;rw[if_neg p2]
   rw[show(cc==0)=false by simpa using c0,Qs]
   unfold KN
   rw[show decide ((-1:Int)<0)=true from rfl,Qz]
   refine next _ _ _ _ j1 (by omega) ?_
   unfold Yr;rw[hD];simp only;rw[if_neg c0]
  simp only[QX]at hc
  rw[QbQ (by omega),List.foldl_nil]at j3
  rw[<-j3]
  exact⟨mm,rfl,j1⟩
 obtain⟨q,hq1,D,rfl,hq2⟩:=main
 refine⟨D,?_,hq2⟩
 rw[hq1];rfl
def SY (x:L_ Bag):Int:=Qi (tS x x.length)
def Gn (n:Qk)(b tokens:Int):Nat->SSt->Nat->SSt
 | 0,st,_=>st
 | f+1,st,a=>match st.1[a]? with
  | none=>st
  | some x=>if tokens<SY x then Gn n b tokens f (st.1,st.2.1,false) (a+1)
   else Gn n b tokens f ((JE n x b).1.foldl (Yr (QW b) n x a) (st.1,st.2.1,st.2.2&&(JE n x b).2)) (a+1)
def Qm0 {n:Qk}{x:L_ Bag}{a:Int}{most:Nat}{st:SSt}{o:Qg}(h:Xd n)(hg:Xz n x)(ho:XQ n o)(hs:∀y∈st.1,Xz n y):∀y∈(Yr most n x a st o).1,Xz n y:=by
 unfold Yr
 cases hD:Yh n x o with
 | none=>exact hs
 | some r=>
  obtain⟨y,c⟩:=r
  simp only
  by_cases c0:c=0
  ·subst c0
   rw[if_pos rfl]
   cases AH st.1 (Xt y)with
   | some k=>exact hs
   | none=>
    simp only
    split
    ·exact hs
    intro z D
    rcases YD.1 D with D | D
    ·exact hs z D
    simp at D;subst D;exact TX h hg ho hD
  rw[if_neg c0];exact hs
def QnH {n:Qk}{x:L_ Bag}{a:Int}{most:Nat}{st:SSt}{o:Qg}(h:st.1.length<=most):(Yr most n x a st o).1.length<=most/\(Yr most n x a st o).2.1.length<=st.2.1.length+1:=by
 unfold Yr
 cases hD:Yh n x o with
 | none=>exact⟨h,by simp⟩
 | some r=>
  obtain⟨y,c⟩:=r
  simp only
  by_cases D:c=0
  ·rw[if_pos D]
   cases AH st.1 (Xt y)with
   | some k=>exact⟨h,by simp⟩
   | none=>
    simp only
    split
    ·exact⟨h,by simp⟩
    exact⟨by simp;omega,by simp⟩
  rw[if_neg D];exact⟨h,by simp⟩
def QeE {n:Qk}{x:L_ Bag}{a:Int}{most:Nat}(h:Xd n)(hg:Xz n x):∀{X:L_ Qg} {st:SSt},(∀o∈X,XQ n o)->(∀y∈st.1,Xz n y)->st.1.length<=most->(∀y∈(X.foldl (Yr most n x a) st).1,Xz n y)/\(X.foldl (Yr most n x a) st).1.length<=most/\(X.foldl (Yr most n x a) st).2.1.length<=st.2.1.length+X.length:=by
 intro X
 induction X with
 | nil=>intro st _ hs D;exact⟨hs,D,by simp⟩
 | cons o X ih=>
  intro st ho hs D
  have h1:=QnH (n:=n) (x:=x) (a:=a) (o:=o) D
  obtain⟨k1,k2,k3⟩:=ih (st:=Yr most n x a st o) (λo' ho'=>ho o' (Yo _ ho')) (Qm0 h hg (ho o XY) hs) h1.1
  rw[List.foldl_cons]
  exact⟨k1,k2,by simp;omega⟩
def Qlm {n:Qk}{m:L_ Bag}(b tokens:Int)(h:Xd n)(hbd:Bd n)(hg:Xz n m)(hb:b<=31):
  CI n m b tokens=some (if b<=0 then XV.mk [] [] false else let r:=Gn n b tokens (QW b+1) ([m],[],true) 0;XV.mk r.1 r.2.1 r.2.2):=by
 have hpl:=h.pl
 have hm1:=hg.1.1
 unfold CI
 by_cases c0:b<=0
 ·rw[QE c0,if_pos c0];rfl
 rw[QK c0,if_neg c0,Qs,Lp m (by omega) (λb hb=>by have:=(hg.1.2 b hb).2;omega),Qd]
 have hmost:(QW b:Int)=b:=by unfold QW min2;split<;>omega
 obtain⟨k,L',mm',hs,f1,f2⟩:=QjL (mm:=[]) (L:=[]) b [] true h hg (λs=>rfl) (by omega)
 rw[hs,Qd]
 have hL:L'=[m]:=by
  rcases f2 with⟨i,p1,_,_⟩|⟨_,p2,_,_⟩|⟨_,_,_,e⟩
  ·simp[AH]at p1
  ·simp at p2;omega
  simpa using e
 subst hL
 simp only
 generalize hR:Gn n b tokens (QW b+1) ([m],[],true) 0=R
 have main:Qj (Qu (λst=>Bp tokens st.1 st.2.1 st.2.2.1 st.2.2.2.1 st.2.2.2.2.1 st.2.2.2.2.2.1 st.2.2.2.2.2.2.1 st.2.2.2.2.2.2.2.1 st.2.2.2.2.2.2.2.2.1 st.2.2.2.2.2.2.2.2.2.1 st.2.2.2.2.2.2.2.2.2.2) ((0:Int),n.Colours,n.Places,n.Tasks,n.From,n.To,b,true,mm',[m],([]:L_ QY)))
   λq=>∃mm,q=(n.Colours,n.Places,n.Tasks,n.From,n.To,b,R.2.2,mm,R.1,R.2.1):=by
  refine Qj.up (QW b) (λst=>st.1) (λst=>st.2.1=n.Colours/\st.2.2.1=n.Places/\st.2.2.2.1=n.Tasks/\st.2.2.2.2.1=n.From/\st.2.2.2.2.2.1=n.To/\st.2.2.2.2.2.2.1=b/\FI st.2.2.2.2.2.2.2.2.1 st.2.2.2.2.2.2.2.2.2.1/\(∀y∈st.2.2.2.2.2.2.2.2.2.1,Xz n y)/\st.2.2.2.2.2.2.2.2.2.1.length<=QW b/\(st.2.2.2.2.2.2.2.2.2.2.length:Int)<=st.1*4194304/\Gn n b tokens (QW b+1-st.1.toNat) (st.2.2.2.2.2.2.2.2.2.1,st.2.2.2.2.2.2.2.2.2.2,st.2.2.2.2.2.2.2.1) st.1.toNat=R) rfl ⟨rfl,rfl,rfl,rfl,rfl,rfl,f1,λy hy=>by simp at hy;subst hy;exact hg,by show 1<=_;omega,by simp,hR⟩ (λi st hi hn hJ=>?_)
  obtain⟨i',c,p,t,fr,tz,D,fu,mm,L,E⟩:=st
  replace hi:i'=(i:Int):=hi
  subst hi
  obtain⟨e1,e2,e3,e4,e5,e6,j1,j2,j3,j4,j5⟩:c=n.Colours/\p=n.Places/\t=n.Tasks/\fr=n.From/\tz=n.To/\D=b/\FI mm L/\(∀y∈L,Xz n y)/\L.length<=QW b/\(E.length:Int)<=(i:Int)*4194304/\Gn n b tokens (QW b+1-(i:Int).toNat) (L,E,fu) (i:Int).toNat=R:=hJ
  subst e1;subst e2;subst e3;subst e4;subst e5;subst e6
  rw[XC,show QW D+1-i=(QW D-i)+1 by omega,Gn]at j5
  show Qj (Bp tokens i n.Colours n.Places n.Tasks n.From n.To D fu mm L E) _
  unfold Bp
  refine T1 (λhc=>?_) (λhc=>T2 (Qq ?_))
  ·simp only[QB]at hc
   have i1:i<L.length:=by omega
   have hx:=Qy i1
   have hgx:=j2 _ (Xn i1)
   rw[QP,hx,Qd]
   simp only[hx]at j5
   generalize L[i]=x at hx hgx j5 ⊢
   rw[SX h hgx.1 (by omega),Qd]
   have hw:Qi ((i:Int)+1)=((i+1:Nat):Int):=Qt (by omega:i<QW D) (by unfold maxLen;omega)
   have next:∀(fu':Bool) mm' L' E',FI mm' L'->(∀y∈L',Xz n y)->L'.length<=QW D->(E'.length:Int)<=((i:Int)+1)*4194304->Gn n D tokens (QW D-i) (L',E',fu') (i+1)=R->
     Qj (Bo i n.Colours n.Places n.Tasks n.From n.To D fu' mm' L' E') λr=>(∀s',r=.inl s'->i<QW D/\s'.1=((i+1:Nat):Int)/\(s'.2.1=n.Colours/\s'.2.2.1=n.Places/\s'.2.2.2.1=n.Tasks/\s'.2.2.2.2.1=n.From/\s'.2.2.2.2.2.1=n.To/\s'.2.2.2.2.2.2.1=D/\FI s'.2.2.2.2.2.2.2.2.1 s'.2.2.2.2.2.2.2.2.2.1/\(∀y∈s'.2.2.2.2.2.2.2.2.2.1,Xz n y)/\s'.2.2.2.2.2.2.2.2.2.1.length<=QW D/\(s'.2.2.2.2.2.2.2.2.2.2.length:Int)<=s'.1*4194304/\Gn n D tokens (QW D+1-s'.1.toNat) (s'.2.2.2.2.2.2.2.2.2.1,s'.2.2.2.2.2.2.2.2.2.2,s'.2.2.2.2.2.2.2.1) s'.1.toNat=R))/\
      ∀q,r=.inr q->∃mm,q=(n.Colours,n.Places,n.Tasks,n.From,n.To,D,R.2.2,mm,R.1,R.2.1):=λfu' mm' L' E' g1 g2 g3 g4 g5=>by
    unfold Bo
    refine T2 ⟨λs' e=>?_,λq e=>by cases e⟩
    cases e
    refine⟨by omega,hw,rfl,rfl,rfl,rfl,rfl,rfl,g1,g2,g3,by show(E'.length:Int)<=Qi _*_;rw[hw];omega,?_⟩
    show Gn n D tokens (QW D+1-(Qi ((i:Int)+1)).toNat) (L',E',fu') (Qi ((i:Int)+1)).toNat=R
    rw[hw,XC,show QW D+1-(i+1)=QW D-i by omega]
    exact g5
   refine T1 (λhc2=>?_) λhc2=>?_
   ·rw[if_pos (show tokens<SY x by simpa[SY] using hc2)]at j5
    exact next _ _ _ _ j1 j2 j3 (by omega) j5
   rw[if_neg (show ¬tokens<SY x by simpa[SY] using hc2)]at j5
   obtain⟨mm',hl,f3⟩:=QoK (full:=fu) (E:=E) D h hbd hgx j1 (by omega) hx (by omega)
   rw[hl,Qd]
   obtain⟨q1,q2,q3⟩:=Qe0 D h hbd hgx
   obtain⟨g1,g2,g3⟩:=QeE (a:=(i:Int)) (most:=QW D) h hgx (X:=(JE n x D).1) (st:=(L,E,fu&&(JE n x D).2)) (λo ho=>Rj h (hgx.len h) (q3 o ho)) j2 j3
   exact next _ _ _ _ f3 g1 g2 (by simp only at g3 ⊢;omega) j5
  simp only[QX]at hc
  rw[Sa (show L.length<=i by omega)]at j5
  rw[<-j5]
  exact⟨mm,rfl⟩
 obtain⟨q,hq1,mm,rfl⟩:=main
 rw[hq1];rfl
section
variable {n:Qk}{m:L_ Bag}{b tokens:Int}{a:Nat}
end
def Rch (n:Qk):Prop:=(∀p∈n.Places,p.First.length*16<=140737488351232)/\∀c∈n.Colours,c.Names.length*16<=140737488351232
def Qln {n:Qk}(hk:Xp n)(hr:Rch n):Qj (Cb n) λr=>r=true->(n.Colours.length<=40/\n.Places.length<=70/\n.Tasks.length<=70)/\∀p∈n.Places,p.First.length<=400:=by
 unfold Cb
 refine T1 (λ_=>T2 λh=>by cases h) λD=>?_
 simp only[Kw,QX]at D
 refine T6 (P:=λr=>r=true->∀p∈n.Places,p.First.length<=400) ?_ λr hr2 e=>⟨by omega,hr2 e⟩
 refine T0 (Qj.up n.Colours.length (λst=>st.2) (λst=>0<=st.1/\st.1<=400) (Q:=λq:Unit⊕Int=>∀x,q=.inr x->0<=x/\x<=400) rfl ⟨by show(0:Int)<=0;omega,by show(0:Int)<=400;omega⟩ (λi st hi hn hJ=>?_)) (λq hq=>?_)
 ·obtain⟨a,x⟩:=st
  replace hi:x=(i:Int):=hi
  subst hi
  obtain⟨j1,j2⟩:0<=a/\a<=400:=hJ
  show Qj (CL n a i) _
  unfold CL
  refine T1 (λD=>?_) (λ_=>T2 (Qq λx e=>by cases e;exact⟨j1,j2⟩))
  simp only[QB]at D
  refine T0 (T4 (by omega) (by omega)).self λe he=>?_
  obtain⟨he,hm⟩:=he
  have hel:=hr.2 e hm
  have hw:Qi (a+(e.Names.length:Int))=a+(e.Names.length:Int):=XD (by omega)
  refine T0 (P:=λy=>y=false->a+(e.Names.length:Int)<=400) ?_ λy hy=>?_
  ·unfold RK
   rw[he,Qd,hw]
   exact T1 (λ_=>T2 λh=>by cases h) λ_=>T2 λh=>by simpa using h
  unfold RL
  refine T1 (λ_=>T2 (Qq λx e=>by cases e)) λhyf=>?_
  have hle:=hy hyf
  refine T0 (Qj.up e.Names.length (λst=>st) (λ_=>True) (Q:=λ_=>True) rfl trivial (λi2 st hi2 hn2 _=>?_)) (λq _=>?_)
  ·show Qj (CK n i st) _
   unfold CK
   simp only[he,Qd]
   refine T1 (λD=>?_) (λ_=>T2 (Qq trivial))
   simp only[QB]at D
   refine T0 (T4 (by omega) (by omega)) λs _=>?_
   refine T1 (λ_=>T2 (Qq trivial)) λ_=>?_
   exact T2 (QJ ⟨by omega,by rw[hi2];exact Qt (by omega) (hk.1.2 e hm).2.2.2.2.1.1,trivial⟩)
  rcases q with q | q
  ·exact T2 (Qq λx e=>by cases e)
  refine T2 (QJ ⟨by omega,Qt (by omega) hk.1.1,?_⟩)
  show 0<=Qi (a+(e.Names.length:Int))/\Qi (a+(e.Names.length:Int))<=400
  rw[hw];omega
 rcases q with q | q
 ·exact T2 λh=>by cases h
 have hq:=hq q rfl
 show Qj (Bv n q) _
 unfold Bv
 refine T0 (Qj.up n.Places.length (λst=>st.2) (λst=>0<=st.1/\st.1<=400+st.2*8796093022208/\∀(j:Nat) p,(j:Int)<st.2->n.Places[j]? = some p->(p.First.length:Int)<=st.1) (Q:=λq:Unit⊕Int=>∀x,q=.inr x->∀p∈n.Places,(p.First.length:Int)<=x) rfl ⟨hq.1,by show q<=400+0*8796093022208;omega,λj p hj=>by simp at hj;omega⟩ (λi st hi hn hJ=>?_)) (λq hq=>?_)
 ·obtain⟨a,x⟩:=st
  replace hi:x=(i:Int):=hi
  subst hi
  obtain⟨j1,j2,j3⟩:0<=a/\a<=400+(i:Int)*8796093022208/\∀(j:Nat) p,(j:Int)<(i:Int)->n.Places[j]? = some p->(p.First.length:Int)<=a:=hJ
  show Qj (CM n a i) _
  unfold CM
  refine T1 (λD=>?_) (λD=>T2 (Qq λx e p hp=>?_))
  ·simp only[QB]at D
   have i1:i<n.Places.length:=by omega
   rw[QP,Qy i1,Qd,Qd]
   have hpl:=hr.1 _ (Xn i1)
   have hw:Qi (a+((n.Places[i]).First.length:Int))=a+((n.Places[i]).First.length:Int):=XD (by omega)
   have hw2:Qi ((i:Int)+1)=((i+1:Nat):Int):=Qt i1 hk.2.1.1
   refine T1 (λ_=>T2 (Qq λx e=>by cases e)) λ_=>T2 (QJ ⟨i1,hw2,?_⟩)
   show 0<=Qi (a+((n.Places[i]).First.length:Int))/\Qi (a+((n.Places[i]).First.length:Int))<=400+Qi ((i:Int)+1)*8796093022208/\∀(j:Nat) p,(j:Int)<Qi ((i:Int)+1)->n.Places[j]? = some p->(p.First.length:Int)<=Qi (a+((n.Places[i]).First.length:Int))
   rw[hw,hw2]
   refine⟨by omega,by omega,λj p hj hp=>?_⟩
   by_cases cj:j=i
   ·subst cj
    rw[Qy i1]at hp;cases hp;omega
   have:=j3 j p (by omega) hp;omega
  cases e
  simp only[QX]at D
  obtain⟨j,hj,rfl⟩:=HX.1 hp
  exact j3 j _ (by omega) (Qy hj)
 rcases q with q | q
 ·exact T2 λh=>by cases h
 exact(Qnw n hk q).mono λr hr2 e p hp=>by have:=hr2 e;have:=hq q rfl p hp;omega
def QoL {n:Qk}(hp:n.Places.length<=70)(hf:∀p∈n.Places,p.First.length<=400):Qj (Gb n) λm=>m.length=n.Places.length/\∀b∈m,b.length<=401:=by
 unfold Gb
 refine T0 (Qj.up n.Places.length (λst=>st.1) (λst=>(st.2.length:Int)=st.1/\∀b∈st.2,b.length<=401) (Q:=λm:L_ Bag=>m.length=n.Places.length/\∀b∈m,b.length<=401) rfl ⟨rfl,λb h=>by cases h⟩ (λi st hi hn hJ=>?_)) (λq hq=>T2 hq)
 obtain⟨x,l⟩:=st
 replace hi:x=(i:Int):=hi
 subst hi
 obtain⟨j1,j2⟩:(l.length:Int)=(i:Int)/\∀b∈l,b.length<=401:=hJ
 show Qj (WG n i l) _
 unfold WG
 refine T1 (λhc=>?_) (λhc=>T2 (Qq ?_))
 ·simp only[QB]at hc
  have i1:i<n.Places.length:=by omega
  have hpl:=hf _ (Xn i1)
  rw[QP,Qy i1,Qd]
  have hw:Qi ((i:Int)+1)=((i+1:Nat):Int):=Qt i1 (by unfold maxLen;omega:n.Places.length<=maxLen)
  have k1:∀b:Bag,b.length<=401->Qj (WF l i b) λo=>(∀s',o=.inl s'->i<n.Places.length/\s'.1=((i+1:Nat):Int)/\(s'.2.length:Int)=s'.1/\∀b∈s'.2,b.length<=401)/\∀r:L_ Bag,o=.inr r->r.length=n.Places.length/\∀b∈r,b.length<=401:=λb hb=>by
   unfold WF
   refine T0 (T5 (by simp;omega)) λ_ _=>?_
   refine T2 (QJ (ix:=λst:Int×L_ Bag=>st.1) (J:=λst:Int×L_ Bag=>(st.2.length:Int)=st.1/\∀b∈st.2,b.length<=401) ⟨i1,hw,by show((l++[b]).length:Int)=Qi _;rw[hw];simp;omega,λb' D=>?_⟩)
   rcases YD.1 D with D | D
   ·exact j2 b' D
   simp at D;subst D;exact hb
  unfold Yz
  rw[WJ (by simp;omega)]
  simp only[Qd,Nm]
  refine T1 (λhc2=>?_) λ_=>k1 _ (by omega)
  rw[show NS ([0]:LI_)=some [(0,1)]from Ri 0,Qd]
  rcases EA (n.Places[i]).First [(0,1)] (by simp;omega)with⟨_,e⟩|⟨_,_,_,e⟩|⟨_,_,r,e,h1,_,h2⟩
  ·rw[e,Qd];exact k1 _ (by omega)
  ·rw[e,Qd];exact k1 _ (by omega)
  rw[e,Qd];exact k1 _ (by simp at h2;show r.length<=401;omega)
 simp only[QX]at hc
 exact⟨by show l.length=_;omega,j2⟩
def QbL (n:Qk):L_ Bag:=(Gb n).getD []
structure Qsl (n:Qk) (b:Int):Prop where
 net:Xd n
 bd:Bd n
 pl:n.Places.length<=64
 good:Xz n (QbL n)
 first:Gb n=some (QbL n)
 bud:b<=16
def QqY (n:Qk)(b:Int)(hn:Xp n)(hr:Rch n):Qj (CR n b) λr=>r=true->Qsl n b:=by
 unfold CR
 refine T0 (Qln hn hr) λf hf=>?_
 refine T1 (λ_=>T2 λh=>by cases h) λhc=>?_
 simp only[Kw,Fp,QX]at hc
 obtain⟨h1,h2⟩:=hf hc.1
 refine T0 (QoL h1.2.1 h2).self λm hm=>?_
 obtain⟨D,hm1,hm2⟩:=hm
 refine T0 (QqR n m _ hn ⟨by unfold maxLen;omega,λb hb=>⟨by have:=hm2 b hb;unfold maxLen;omega,λ_ _=>trivial⟩⟩) λr hr2=>?_
 refine T2 λe=>?_
 obtain⟨g1,g2,g3,_⟩:=hr2 e
 have ef:QbL n=m:=by unfold QbL;rw[D];rfl
 exact⟨g1,g2,by omega,by rw[ef];exact g3,by rw[ef];exact D,by omega⟩
def QoM {n:Qk}{m:L_ Bag}(budget:Int)(h:Xd n)(hr:RN n)(hb:Bd n)(hp:n.Places.length<=64)(hg:Xz n m):∃r,Gz n m budget 9223372036854775807=some r/\PY n m budget 9223372036854775807=some r/\r.1.length<=4194304/\∀o∈r.1,XQ n o:=by
 have hml:=hg.len h
 have mx:(4194304:Nat)<=maxLen:=by decide
 have hal:=QeY m h hb
 unfold Gz PY
 rw[QmP h hr hml (by unfold XJ;omega) (.inr λk=>Yb (QeD m (k:Int) h hb) (by omega)),QcD n m 9223372036854775807 h hml (by omega) (by omega) (.inr (by omega)),Qd,Qd]
 have e0:(YW n m).take (9223372036854775807:Int).toNat=YW n m:=JR (by omega)
 rw[e0]
 have hmem:∀o∈YW n m,o∈YW n m:=λo ho=>ho
 have hlen:(YW n m).length<=4194304:=hal
 have hok:=λo=>Rj (o:=o) h hml
 have hck:∀o∈YW n m,Yv n m o=some 0:=λo ho=>(QaN h hml (hok o ho)).2 (QnA.1 ho)
 obtain⟨X,hX⟩:∃X,X=YW n m:=⟨_,rfl⟩
 rw[<-hX]
 replace hmem:∀o∈X,o∈YW n m:=λo ho=>hX▸ho
 rw[<-hX]at hlen
 have main:∃r q,Qu (λst:Bool×Int×L_ Qg×QBg=>Kk X n m budget st.1 st.2.1 st.2.2.1 st.2.2.2) (true,0,[],[])=some r/\Qu (λst:Bool×Int×L_ Qg=>ET X n m budget st.1 st.2.1 st.2.2) (true,0,[])=some q/\(r=q/\r.2.length<=4194304/\∀o∈r.2,XQ n o):=by
  refine Zz (b1:=λst:Bool×Int×L_ Qg×QBg=>Kk X n m budget st.1 st.2.1 st.2.2.1 st.2.2.2) (b2:=λst:Bool×Int×L_ Qg=>ET X n m budget st.1 st.2.1 st.2.2) X.length
   (λi s t=>s.1=t.1/\s.2.1=(i:Int)/\t.2.1=(i:Int)/\s.2.2.1=t.2.2/\s.2.2.1.length<=i/\(∀o∈s.2.2.1,XQ n o)/\∀k v,QR s.2.2.2 k=some v->v=Fe n m budget k) (λr q=>r=q/\r.2.length<=4194304/\∀o∈r.2,XQ n o) (λi s t hn hI=>?_) (true,0,[],[]) (true,0,[]) ⟨rfl,rfl,rfl,rfl,YY _,λo ho=>(by cases ho),λk v hv=>(by cases hv)⟩
  obtain⟨kn,x,l,mm⟩:=s
  obtain⟨kn',x',l'⟩:=t
  obtain⟨a1,a2,a3,a4,a5,a6,a7⟩:=hI
  replace a1:kn=kn':=a1
  replace a2:x=(i:Int):=a2
  replace a3:x'=(i:Int):=a3
  replace a4:l=l':=a4
  subst a1 a2 a3 a4
  replace a5:l.length<=i:=a5
  replace a6:∀o∈l,XQ n o:=a6
  replace a7:∀k v,QR mm k=some v->v=Fe n m budget k:=a7
  show(_/\∃s' t',Kk X n m budget kn i l mm=_/\ET X n m budget kn i l=_/\_)\/∃r q,Kk X n m budget kn i l mm=_/\ET X n m budget kn i l=_/\_
  unfold Kk ET
  by_cases hc:i<X.length
  ·left
   refine⟨hc,?_⟩
   have hw:Qi ((i:Int)+1)=((i+1:Nat):Int):=Qt hc (by omega:X.length<=maxLen)
   have ho:=hmem _ (Xn hc)
   rw[QE (by omega:(i:Int)<(X.length:Int)),Qz,Qz,QP,Qy hc,Qd,Qd]
   generalize X[i]=o at ho ⊢
   have hoo:=hok o ho
   rw[Qp1 o budget h hr hb hp hg hoo,QmU o budget h hb hg hoo,QqV budget (hck o ho),Qd,Qd,Qd]
   have fin:∀mm':QBg,QR mm' o.Task=some (Fe n m budget o.Task)->(∀k v,QR mm' k=some v->v=Fe n m budget k)->
     ∃s' t',Dk o l i kn mm'=some (.inl s')/\(bif (Fe n m budget o.Task==1)then(chk (decide (l.length+([o]:L_ Qg).length<=4294967296))).bind λ_=>ES (Fe n m budget o.Task) i kn (l++([o]:L_ Qg))else ES (Fe n m budget o.Task) i kn l)=some (.inl t')/\
      (s'.1=t'.1/\s'.2.1=((i+1:Nat):Int)/\t'.2.1=((i+1:Nat):Int)/\s'.2.2.1=t'.2.2/\s'.2.2.1.length<=i+1/\(∀o∈s'.2.2.1,XQ n o)/\∀k v,QR s'.2.2.2 k=some v->v=Fe n m budget k):=λmm' f1 f2=>by
    unfold Dk ES Dj IE
    rw[f1]
    simp only[Va]
    by_cases c1:Fe n m budget o.Task=1
    ·rw[c1]
     rw[show((1:Int)==1)=true from rfl,show((1:Int)==2)=false from rfl,Qz,Qz,Qs,WJ (by simp;omega),Qd,Qd]
     exact⟨_,_,rfl,rfl,rfl,hw,hw,rfl,by simp;omega,λo' D=>by
      rcases YD.1 D with D | D
      ·exact a6 o' D
      simp at D;subst D;exact hoo,f2⟩
    rw[show(Fe n m budget o.Task==1)=false by simpa using c1,Qs,Qs]
    cases (Fe n m budget o.Task==2)with
    | true=>exact⟨_,_,rfl,rfl,rfl,hw,hw,rfl,by show l.length<=i+1;omega,a6,f2⟩
    | false=>exact⟨_,_,rfl,rfl,rfl,hw,hw,rfl,by show l.length<=i+1;omega,a6,f2⟩
   cases hv:QR mm o.Task with
   | some v=>
    rw[show(!(some v).isSome)=false from rfl,Qs]
    have:=a7 _ _ hv
    subst this
    exact fin mm hv a7
   | none=>
    rw[show(!(none:O_ Int).isSome)=true from rfl,Qz]
    refine fin _ (by rw[UM,if_pos rfl]) λk v hkv=>?_
    rw[UM]at hkv
    split at hkv
    ·rename_i e
     subst e
     exact(Option.some.inj hkv).symm
    exact a7 k v hkv
  right
  rw[QK (by omega:¬(i:Int)<(X.length:Int)),Qs,Qs]
  exact⟨_,_,rfl,rfl,rfl,by show l.length<=4194304;omega,a6⟩
 obtain⟨r,q,h1,h2,h3,h4,h5⟩:=main
 rw[h1,h2,Qd,Qd]
 subst h3
 exact⟨_,rfl,rfl,h4,h5⟩
def Qp2 : ∀{l:Bag} {p:Int×Int},UF (l++[p])=UF l+p.2:=by
 intro l p
 induction l with
 | nil=>simp[UF]
 | cons q l h=>rw[QbP,UF,UF,h];omega
def QoN {b:Bag}(hb:Rt b)(h:b.length<=maxLen):NC b=some (Qi (UF b)):=by
 unfold NC
 rw[Fm h,Qd,show GA (-1) b=true from YQ.2 hb]
 have main:Qj (Qu (λst=>FP b true st.1 st.2) (0,0)) λq=>q=Qi (UF b):=by
  refine Qj.up b.length (λst=>st.2) (λst=>st.1=Qi (UF (b.take st.2.toNat))) rfl (by show(0:Int)=Qi 0;decide) (λi st hi hn hJ=>?_)
  obtain⟨t,x⟩:=st
  replace hi:x=(i:Int):=hi
  subst hi
  replace hJ:t=Qi (UF (b.take (i:Int).toNat)):=hJ
  subst hJ
  rw[XC]
  show Qj (FP b true (Qi (UF (b.take i))) i) _
  unfold FP
  rw[Tw]
  refine T1 (λhc=>?_) (λhc=>T2 (Qq ?_))
  ·simp only[QB]at hc
   have D:i<b.length:=by omega
   rw[QP,Qy D,Qd]
   refine T2 (QJ ⟨D,Qt D h,?_⟩)
   show Qi (Qi (UF (b.take i))+b[i].2)=Qi (UF (b.take (Qi ((i:Int)+1)).toNat))
   rw[Qt D h,XC,Wj D,Qp2,QeT]
  simp only[QX]at hc
  rw[JR (by omega)]
 obtain⟨q,q1,rfl⟩:=main
 rw[q1];rfl
def Qp3 {n:Qk}{m:L_ Bag}(h:Xd n)(hg:Xz n m):ND m=UZ m:=by
 have hpl:=h.pl
 have mx:(70:Nat)<=maxLen:=by decide
 have hml:m.length<=maxLen:=by rw[hg.1.1];omega
 have he:ND m=(Qu (λst=>FQ m st.1 st.2) (0,0)).bind λq=>some q:=rfl
 have he2:UZ m=(Qu (λst=>KG m st.1 st.2) (0,0)).bind λq=>some q:=rfl
 rw[he,he2]
 congr 1
 refine SH m.length (λi s=>s.2=(i:Int)) (λi s hs=>?_) (λi s s' hs D=>?_) _ rfl
 ·obtain⟨t,x⟩:=s
  replace hs:x=(i:Int):=hs
  subst hs
  show FQ m t i=KG m t i
  unfold FQ KG
  by_cases c:(i:Int)<(m.length:Int)
  ·have i1:i<m.length:=by omega
   have hr:=hg.rt _ (Xn i1)
   rw[QE c,Qz,Qz,QP,Qy i1,Qd,Qd,QoN hr.1 hr.2,Qey _ hr.1 hr.2]
  rw[QK c];rfl
 obtain⟨t,x⟩:=s
 replace hs:x=(i:Int):=hs
 subst hs
 replace D:KG m t i=some (.inl s'):=D
 unfold KG at D
 rcases Xy D with⟨c,D⟩|⟨_,D⟩
 ·simp only[QB]at c
  have i1:i<m.length:=by omega
  obtain⟨e,_,D⟩:=Qv D
  obtain⟨v,_,D⟩:=Qv D
  cases D
  exact⟨i1,Qt i1 hml⟩
 cases D
def Qp4 {n:Qk}(hp:n.Places.length<=70)(hf:∀p∈n.Places,p.First.length<=400):NB n=Gb n:=by
 have mx:(70:Nat)<=maxLen:=by decide
 have he:NB n=(Qu (λst=>FO n st.1 st.2) (0,([]:L_ Bag))).bind λq=>some q:=rfl
 have he2:Gb n=(Qu (λst=>WG n st.1 st.2) (0,([]:L_ Bag))).bind λq=>some q:=rfl
 rw[he,he2]
 congr 1
 refine SH n.Places.length (λi s=>s.1=(i:Int)) (λi s D=>?_) (λi s s' D h=>?_) _ rfl
 ·obtain⟨x,l⟩:=s
  replace D:x=(i:Int):=D
  subst D
  show FO n i l=WG n i l
  unfold FO WG
  by_cases c:(i:Int)<(n.Places.length:Int)
  ·have i1:i<n.Places.length:=by omega
   have hpl:=hf _ (Xn i1)
   rw[QE c,Qz,Qz,QP,Qy i1,Qd,Qd]
   unfold Yz
   rw[WJ (by simp;omega),WJ (by simp;omega)]
   simp only[Qd,Nm]
   rw[show NS ([0]:LI_)=some [(0,1)]from Ri 0,Qd,QhU (by simp;omega)]
   rfl
  rw[QK c];rfl
 obtain⟨x,l⟩:=s
 replace D:x=(i:Int):=D
 subst D
 replace h:WG n i l=some (.inl s'):=h
 unfold WG at h
 rcases Xy h with⟨c,h⟩|⟨_,h⟩
 ·simp only[QB]at c
  have i1:i<n.Places.length:=by omega
  have k1:∀{b},WF l i b=some (.inl s')->i<n.Places.length/\s'.1=((i+1:Nat):Int):=λhk=>by
   unfold WF at hk
   obtain⟨_,_,hk⟩:=Qv hk
   cases hk
   exact⟨i1,Qt i1 (by omega)⟩
  obtain⟨e,_,h⟩:=Qv h
  obtain⟨v,_,h⟩:=Qv h
  rcases Xy h with⟨_,h⟩|⟨_,h⟩
  ·obtain⟨_,_,h⟩:=Qv h
   obtain⟨_,_,h⟩:=Qv h
   rcases Xy h with⟨_,h⟩|⟨_,h⟩
   ·exact k1 h
   exact k1 h
  exact k1 h
 cases h
def atK (L:L_ (L_ Bag))(y:L_ Bag):Int:=match AH L (Xt y)with
 | some i=>(i:Int)
 | none=>-1
def QqZ {n:Qk}(h:Xd n)(hp:n.Places.length<=64){L:L_ (L_ Bag)}(E:L_ QY)(f:Bool){y:L_ Bag}(hl:L.length<=maxLen)(hL:∀x∈L,Xz n x)(hy:Xz n y):BH L E f y=some (atK L y):=by
 unfold BH
 have main:Qj (Qu (λst=>BG L y st) 0) λq=>(∀r,q=.inl r->∃i:Nat,r=(i:Int)/\AH L (Xt y)=some i)/\(q=.inr ()->AH L (Xt y)=none):=by
  refine Qj.up L.length (λst=>st) (λst=>∀(j:Nat) z,(j:Int)<st->L[j]? = some z->z≠y) rfl (λj z hj=>by omega) (λi st hi hn hJ=>?_)
  replace hi:st=(i:Int):=hi
  subst hi
  show Qj (BG L y i) _
  unfold BG
  refine T1 (λhc=>?_) (λhc=>T2 (Qq ⟨λr e=>(by cases e),λ_=>?_⟩))
  ·simp only[QB]at hc
   have D:i<L.length:=by omega
   rw[QP,Qy D,Qd,QjK h (hL _ (Xn D)) hy,Qd]
   by_cases c:L[i]=y
   ·rw[QE c]
    refine T2 (Qq ⟨λr e=>?_,λe=>by cases e⟩)
    cases e
    refine⟨i,rfl,?_⟩
    unfold AH
    refine List.findIdx?_eq_some_iff_getElem.2 ⟨D,QE (congrArg Xt c),λj hj=>?_⟩
    have hne:=hJ j _ (by omega) (Qy (by omega:j<L.length))
    simp only[QB]
    exact λe=>hne (QkS h hp (hL _ (Xn _)) hy e)
   rw[QK c]
   refine T2 (QJ ⟨D,Qt D hl,λj z hj hz=>?_⟩)
   rw[Qt D hl]at hj
   by_cases cj:j=i
   ·subst cj
    rw[Qy D]at hz
    cases hz;exact c
   exact hJ j z (by omega) hz
  simp only[QX]at hc
  unfold AH
  refine List.findIdx?_eq_none_iff.2 λz hz=>QK λe=>?_
  obtain⟨j,hj,rfl⟩:=HX.1 hz
  exact hJ j _ (by omega) (Qy hj) (QkS h hp (hL _ hz) hy e)
 obtain⟨q,q1,q2,q3⟩:=main
 rw[q1,Qd]
 unfold atK
 rcases q with q | q
 ·obtain⟨i,rfl,hi⟩:=q2 _ rfl
  rw[hi];rfl
 rw[q3 rfl];rfl
def Qm1 {b:Int}(h:0<b):min2 (max2 b 0) 4096=(QW b:Int):=by
 unfold QW max2 min2
 repeat' split
 all_goals omega
def Qsm {n:Qk}{x:L_ Bag}{a:Int}{most:Nat}{st:SSt}{o:Qg}{j:Nat}{z:L_ Bag}(h:st.1[j]? = some z):(Yr most n x a st o).1[j]? = some z:=by
 unfold Yr
 cases hD:Yh n x o with
 | none=>exact h
 | some r=>
  obtain⟨y,c⟩:=r
  simp only
  by_cases D:c=0
  ·rw[if_pos D]
   cases AH st.1 (Xt y)with
   | some k=>exact h
   | none=>
    simp only
    split
    ·exact h
    exact(Jz (Xj.1 h).1).trans h
  rw[if_neg D];exact h
def Qno {n:Qk}{L:L_ (L_ Bag)}{E:L_ QY}{full:Bool}{x:L_ Bag}{a:Nat}(b:Int)(X:L_ Qg)(kn:Bool)(h:Xd n)(hr:RN n)(hp:n.Places.length<=64)(hg:Xz n x)(hL:∀y∈L,Xz n y)(hl:L.length<=QW b)(hb:0<b)(hx:L[a]? = some x)(hE:E.length<=134217728)(hX:∀o∈X,XQ n o)(hXl:X.length<=4194304):
  Qu (λst=>EU (X,kn) a n b st.1 st.2.1 st.2.2.1 st.2.2.2) ((0:Int),full,L,E)=some ((X.foldl (Yr (QW b) n x a) (L,E,full)).2.2,(X.foldl (Yr (QW b) n x a) (L,E,full)).1,(X.foldl (Yr (QW b) n x a) (L,E,full)).2.1):=by
 have hm2:QW b<=4096:=by unfold QW min2;split<;>omega
 have mx:(4194304:Nat)<=maxLen:=by decide
 have main:Qj (Qu (λst=>EU (X,kn) a n b st.1 st.2.1 st.2.2.1 st.2.2.2) ((0:Int),full,L,E)) λq=>q=((X.foldl (Yr (QW b) n x a) (L,E,full)).2.2,(X.foldl (Yr (QW b) n x a) (L,E,full)).1,(X.foldl (Yr (QW b) n x a) (L,E,full)).2.1):=by
  refine Qj.up X.length (λst=>st.1) (λst=>st.2.2.1[a]? = some x/\(∀y∈st.2.2.1,Xz n y)/\st.2.2.1.length<=QW b/\(st.2.2.2.length:Int)<=E.length+st.1/\(X.drop st.1.toNat).foldl (Yr (QW b) n x a) (st.2.2.1,st.2.2.2,st.2.1)=X.foldl (Yr (QW b) n x a) (L,E,full)) rfl ⟨hx,hL,hl,by simp,rfl⟩ (λi st hi hn hJ=>?_)
  obtain⟨i',fu,L',E'⟩:=st
  replace hi:i'=(i:Int):=hi
  subst hi
  obtain⟨j1,j2,j3,j4,j5⟩:L'[a]? = some x/\(∀y∈L',Xz n y)/\L'.length<=QW b/\(E'.length:Int)<=E.length+(i:Int)/\(X.drop (i:Int).toNat).foldl (Yr (QW b) n x a) (L',E',fu)=X.foldl (Yr (QW b) n x a) (L,E,full):=hJ
  rw[XC]at j5
  show Qj (EU (X,kn) a n b i fu L' E') _
  unfold EU
  refine T1 (λhc=>?_) (λhc=>T2 (Qq ?_))
  ·replace hc:decide ((i:Int)<(X.length:Int))=true:=hc
   simp only[QB]at hc
   have i1:i<X.length:=by omega
   have hw:Qi ((i:Int)+1)=((i+1:Nat):Int):=Qt i1 (by omega:X.length<=maxLen)
   have ho:=hX _ (Xn i1)
   have hix:idx (X,kn).1 (i:Int)=some X[i]:=by rw[QP];exact Qy i1
   rw[QP,j1,Qd,hix,Qd]
   rw[Lt i1,List.foldl_cons]at j5
   have k3:∀(k:Int) D,BJ (X,kn) i E' a fu k D=(chk (decide (E'.length+([QY.mk a k X[i]]:L_ QY).length<=4294967296))).bind λ_=>Gk i fu D (E'++[QY.mk a k X[i]]):=λk D=>by
    unfold BJ
    rw[hix,Qd]
   generalize X[i]=o at ho j5 k3 ⊢
   rw[QnE h hr (c:=1024) (by omega) hg.1 ho]
   obtain⟨⟨y,cc⟩,hD,_⟩:=QmF n x o 1024 h hg.1 (by omega) ho
   rw[hD,Qd]
   have next:∀(fu':Bool) E'' D,(E''.length:Int)<=E.length+((i:Int)+1)->Yr (QW b) n x a (L',E',fu) o=(D,E'',fu')->
     Qj (Gk i fu' D E'') λr=>(∀s',r=.inl s'->i<X.length/\s'.1=((i+1:Nat):Int)/\(s'.2.2.1[a]? = some x/\(∀y∈s'.2.2.1,Xz n y)/\s'.2.2.1.length<=QW b/\(s'.2.2.2.length:Int)<=E.length+s'.1/\(X.drop s'.1.toNat).foldl (Yr (QW b) n x a) (s'.2.2.1,s'.2.2.2,s'.2.1)=X.foldl (Yr (QW b) n x a) (L,E,full)))/\
      ∀q,r=.inr q->q=((X.foldl (Yr (QW b) n x a) (L,E,full)).2.2,(X.foldl (Yr (QW b) n x a) (L,E,full)).1,(X.foldl (Yr (QW b) n x a) (L,E,full)).2.1):=λfu' E'' D f2 f3=>by
    have g1:=Qsm (n:=n) (x:=x) (a:=(a:Int)) (most:=QW b) (st:=(L',E',fu)) (o:=o) j1
    have g2:=Qm0 (a:=(a:Int)) (most:=QW b) (st:=(L',E',fu)) h hg ho j2
    have g3:=(QnH (n:=n) (x:=x) (a:=(a:Int)) (o:=o) (st:=(L',E',fu)) j3).1
    rw[f3]at g1 g2 g3
    unfold Gk
    refine T2 ⟨λs' e=>?_,λq e=>by cases e⟩
    cases e
    refine⟨i1,hw,g1,g2,g3,by show(E''.length:Int)<=_+Qi _;rw[hw];omega,?_⟩
    show(X.drop (Qi ((i:Int)+1)).toNat).foldl (Yr (QW b) n x a) (D,E'',fu')=_
    rw[hw,XC,<-j5,f3]
   by_cases c0:cc=0
   ·subst c0
    have hgy:=TX h hg ho hD
    rw[show((((y,(0:Int)):L_ Bag×Int).2) != 0)=false from rfl,Qs]
    show Qj ((BH L' E' fu y).bind _) _
    rw[QqZ h hp E' fu (by omega) j2 hgy,Qd]
    unfold atK
    cases hk:AH L' (Xt y)with
    | some p=>
     simp only
     rw[QK (by omega),Qs,k3]
     refine T0 (T5 (by simp;omega)) λ_ _=>next _ _ _ (by simp;omega) ?_
     unfold Yr;rw[hD];simp only;rw[if_pos trivial,hk]
    | none=>
     simp only
     rw[show decide ((-1:Int)<0)=true from rfl,Qz,Qm1 hb]
     by_cases c:QW b<=L'.length
     ·rw[QE (by omega),Qz]
      refine next _ _ _ (by omega) ?_
      unfold Yr;rw[hD];simp only;rw[if_pos trivial,hk];simp only;rw[if_pos c]
     rw[QK (by omega),Qs,WJ (by simp;omega),Qd,k3]
     refine T0 (T5 (by simp;omega)) λ_ _=>next _ _ _ (by simp;omega) ?_
     unfold Yr;rw[hD];simp only;rw[if_pos trivial,hk];simp only;rw[if_neg c]
   rw[show((((y,cc):L_ Bag×Int).2) != 0)=true by simpa using c0,Qz]
   refine next _ _ _ (by omega) ?_
   unfold Yr;rw[hD];simp only;rw[if_neg c0]
  replace hc:decide ((i:Int)<(X.length:Int))=false:=hc
  simp only[QX]at hc
  rw[QbQ (by omega),List.foldl_nil]at j5
  rw[<-j5]
 obtain⟨q,hq1,rfl⟩:=main
 exact hq1
def QoO {n:Qk}{m:L_ Bag}(b tokens:Int)(h:Xd n)(hr:RN n)(hbd:Bd n)(hp:n.Places.length<=64)(hg:Xz n m)(hb:b<=31):PZ n m b tokens=CI n m b tokens:=by
 rw[Qlm b tokens h hbd hg hb]
 have hpl:=h.pl
 unfold PZ
 by_cases c0:b<=0
 ·rw[if_pos c0,show(min2 (max2 b 0) 4096==0)=true by rw[show max2 b 0=0 by unfold max2;split<;>omega];rfl];rfl
 rw[if_neg c0,Qm1 (by omega)]
 have hmost:(QW b:Int)=b:=by unfold QW min2;split<;>omega
 rw[show((QW b:Int)==0)=false by simp;omega,Qs]
 generalize hR:Gn n b tokens (QW b+1) ([m],[],true) 0=R
 have main:Qj (Qu (λst=>BL tokens n b st.1 st.2.1 st.2.2.1 st.2.2.2) ((0:Int),true,([m]:L_ (L_ Bag)),([]:L_ QY))) λq=>q=(R.2.2,R.1,R.2.1):=by
  refine Qj.up (QW b) (λst=>st.1) (λst=>(∀y∈st.2.2.1,Xz n y)/\st.2.2.1.length<=QW b/\(st.2.2.2.length:Int)<=st.1*4194304/\Gn n b tokens (QW b+1-st.1.toNat) (st.2.2.1,st.2.2.2,st.2.1) st.1.toNat=R) rfl ⟨λy hy=>by simp at hy;subst hy;exact hg,by show 1<=_;omega,by simp,hR⟩ (λi st hi hn hJ=>?_)
  obtain⟨i',fu,L,E⟩:=st
  replace hi:i'=(i:Int):=hi
  subst hi
  obtain⟨j2,j3,j4,j5⟩:(∀y∈L,Xz n y)/\L.length<=QW b/\(E.length:Int)<=(i:Int)*4194304/\Gn n b tokens (QW b+1-(i:Int).toNat) (L,E,fu) (i:Int).toNat=R:=hJ
  rw[XC,show QW b+1-i=(QW b-i)+1 by omega,Gn]at j5
  show Qj (BL tokens n b i fu L E) _
  unfold BL
  refine T1 (λhc=>?_) (λhc=>T2 (Qq ?_))
  ·simp only[QB]at hc
   have i1:i<L.length:=by omega
   have hx:=Qy i1
   have hgx:=j2 _ (Xn i1)
   rw[QP,hx,Qd]
   simp only[hx]at j5
   generalize L[i]=x at hx hgx j5 ⊢
   rw[Qp3 h hgx,SX h hgx.1 (by omega),Qd]
   have hw:Qi ((i:Int)+1)=((i+1:Nat):Int):=Qt (by omega:i<QW b) (by unfold maxLen;omega)
   have next:∀(fu':Bool) L' E',(∀y∈L',Xz n y)->L'.length<=QW b->(E'.length:Int)<=((i:Int)+1)*4194304->Gn n b tokens (QW b-i) (L',E',fu') (i+1)=R->
     Qj (BI i fu' L' E') λr=>(∀D,r=.inl D->i<QW b/\D.1=((i+1:Nat):Int)/\((∀y∈D.2.2.1,Xz n y)/\D.2.2.1.length<=QW b/\(D.2.2.2.length:Int)<=D.1*4194304/\Gn n b tokens (QW b+1-D.1.toNat) (D.2.2.1,D.2.2.2,D.2.1) D.1.toNat=R))/\
      ∀q,r=.inr q->q=(R.2.2,R.1,R.2.1):=λfu' L' E' g2 g3 g4 g5=>by
    unfold BI
    refine T2 ⟨λD e=>?_,λq e=>by cases e⟩
    cases e
    refine⟨by omega,hw,g2,g3,by show(E'.length:Int)<=Qi _*_;rw[hw];omega,?_⟩
    show Gn n b tokens (QW b+1-(Qi ((i:Int)+1)).toNat) (L',E',fu') (Qi ((i:Int)+1)).toNat=R
    rw[hw,XC,show QW b+1-(i+1)=QW b-i by omega]
    exact g5
   refine T1 (λhc2=>?_) λhc2=>?_
   ·rw[if_pos (show tokens<SY x by simpa[SY] using hc2)]at j5
    exact next _ _ _ j2 j3 (by omega) j5
   rw[if_neg (show ¬tokens<SY x by simpa[SY] using hc2)]at j5
   obtain⟨q1,q2,q3⟩:=Qe0 b h hbd hgx
   obtain⟨r,f1,f2,_,_⟩:=QoM b h hr hbd hp hgx
   rw[q1]at f1
   cases f1
   rw[Qd,f2,Qd]
   have hok:∀o∈(JE n x b).1,XQ n o:=λo ho=>Rj h (hgx.len h) (q3 o ho)
   obtain⟨g1,g2,g3⟩:=QeE (a:=(i:Int)) (most:=QW b) h hgx (X:=(JE n x b).1) (st:=(L,E,fu&&(JE n x b).2)) hok j2 j3
   generalize JE n x b=T at q2 hok j5 g1 g2 g3 ⊢
   obtain⟨X,kn⟩:=T
   have fin:Qj (Gl (X,kn) i n b L E (fu&&kn)) λr=>(∀D,r=.inl D->i<QW b/\D.1=((i+1:Nat):Int)/\((∀y∈D.2.2.1,Xz n y)/\D.2.2.1.length<=QW b/\(D.2.2.2.length:Int)<=D.1*4194304/\Gn n b tokens (QW b+1-D.1.toNat) (D.2.2.1,D.2.2.2,D.2.1) D.1.toNat=R))/\
     ∀q,r=.inr q->q=(R.2.2,R.1,R.2.1):=by
    unfold Gl
    rw[Qno b X kn h hr hp hgx j2 j3 (by omega) hx (by omega) hok q2,Qd]
    show Qj (BK i _ _ _) _
    unfold BK
    exact next _ _ _ g1 g2 (by simp only at g3 q2 ⊢;omega) j5
   show Qj (bif (!kn)then Gl (X,kn) i n b L E false else Gl (X,kn) i n b L E fu) _
   cases kn with
   | true=>rw[Tw]at fin;exact fin
   | false=>rw[Bool.and_false]at fin;exact fin
  simp only[QX]at hc
  rw[Sa (show L.length<=i by omega)]at j5
  rw[<-j5]
 obtain⟨q,hq1,rfl⟩:=main
 rw[hq1];rfl
def QrH : SQ=some true:=by kernel_rfl
def Qnp {n:Qk}{o:Qg}(h:XQ n o):Rb o o=some true:=by
 have mx:(20:Nat)<=maxLen:=by decide
 unfold Rb QaH QaI
 obtain⟨D,h2,h3⟩:=h
 rw[show(o.Task==o.Task)=true by simp,QeX _ _ (by omega),QeX _ _ (by omega),QeX _ _ (by omega)]
 simp
def Qnq {n:Qk}{s:XV}(h:Xd n)(hs:∀y∈s.States,Xz n y)(hl:s.States.length<=4096)(hE:s.Edges.length<=134217728)(hm:∀e∈s.Edges,XQ n e.Mode):Rf s s=some true:=by
 have mx:(134217728:Nat)<=maxLen:=by decide
 unfold Rf
 rw[show(((s.States.length:Int) != (s.States.length:Int))||(((s.Edges.length:Int) != (s.Edges.length:Int))||(s.Full != s.Full)))=false by simp,Qs]
 have m1:Qj (Qu (λst=>IG s s st) 0) λq:Unit⊕Unit=>q=.inr ():=by
  refine Qj.up s.States.length (λst=>st) (λ_=>True) rfl trivial (λi st hi hn _=>?_)
  replace hi:st=(i:Int):=hi
  subst hi
  show Qj (IG s s i) _
  unfold IG
  refine T1 (λhc=>?_) (λ_=>T2 (Qq rfl))
  simp only[QB]at hc
  have D:i<s.States.length:=by omega
  rw[QP,Qy D,Qd,Qd,QlL ((hs _ (Xn D)).len h),Qd]
  exact T2 (QJ ⟨D,Qt D (by omega),trivial⟩)
 obtain⟨q,q1,rfl⟩:=m1
 rw[q1,Qd]
 show Re s s=some true
 unfold Re
 have m2:Qj (Qu (λst=>IH s s st) 0) λq:Unit⊕Unit=>q=.inr ():=by
  refine Qj.up s.Edges.length (λst=>st) (λ_=>True) rfl trivial (λi st hi hn _=>?_)
  replace hi:st=(i:Int):=hi
  subst hi
  show Qj (IH s s i) _
  unfold IH
  refine T1 (λhc=>?_) (λ_=>T2 (Qq rfl))
  simp only[QB]at hc
  have D:i<s.Edges.length:=by omega
  have hx:=Qy D
  have g3:Rc true s (i:Int) s=some false:=by
   unfold Rc
   rw[show(!true)=false from rfl,Qs,QP,hx,Qd,Qd,show(s.Edges[i].From != s.Edges[i].From)=false by simp,Qs,Qd,Qd]
   simp
  rw[QP,hx,Qd,Qd,Qnp (hm _ (Xn D)),Qd,g3,Qd]
  exact T2 (QJ ⟨D,Qt D (by omega),trivial⟩)
 obtain⟨q,q1,rfl⟩:=m2
 rw[q1,Qd];rfl
def Qp5 {n:Qk}{x:L_ Bag}{a:Int}{most:Nat}{st:SSt}{o:Qg}(ho:XQ n o)(D:∀e∈st.2.1,XQ n e.Mode):∀e∈(Yr most n x a st o).2.1,XQ n e.Mode:=by
 have add:∀(k:Int),∀e∈st.2.1++[QY.mk a k o],XQ n e.Mode:=λk e h=>by
  rcases YD.1 h with h | h
  ·exact D e h
  simp at h;subst h;exact ho
 unfold Yr
 cases hD:Yh n x o with
 | none=>exact D
 | some r=>
  obtain⟨y,c⟩:=r
  simp only
  by_cases c0:c=0
  ·rw[if_pos c0]
   cases AH st.1 (Xt y)with
   | some k=>exact add _
   | none=>
    simp only
    split
    ·exact D
    exact add _
  rw[if_neg c0];exact D
def QoP {n:Qk}{x:L_ Bag}{a:Int}{most:Nat}:∀{X:L_ Qg} {st:SSt},(∀o∈X,XQ n o)->(∀e∈st.2.1,XQ n e.Mode)->∀e∈(X.foldl (Yr most n x a) st).2.1,XQ n e.Mode:=by
 intro X
 induction X with
 | nil=>intro st _ D;exact D
 | cons o X ih=>
  intro st ho D
  rw[List.foldl_cons]
  exact ih (λo' h=>ho o' (Yo _ h)) (Qp5 (ho o XY) D)
def Qq0 {n:Qk}{b t:Int}{K:Nat}(hK:4194304<=K)(h:Xd n)(hbd:Bd n):∀(f N:Nat) {st:SSt} {a:Nat},(∀y∈st.1,Xz n y)->st.1.length<=QW b->(∀e∈st.2.1,XQ n e.Mode)->st.2.1.length<=N->
  (∀y∈(Gn n b t f st a).1,Xz n y)/\(Gn n b t f st a).1.length<=QW b/\(∀e∈(Gn n b t f st a).2.1,XQ n e.Mode)/\(Gn n b t f st a).2.1.length<=N+f*K:=by
 intro f
 induction f with
 | zero=>intro N st a h1 h2 h3 h4;rw[Cu];exact⟨h1,h2,h3,h4⟩
 | succ f ih=>
  intro N st a h1 h2 h3 h4
  rw[Gn,Nat.succ_mul]
  cases hx:st.1[a]? with
  | none=>exact⟨h1,h2,h3,Yb h4 (Nat.le_add_right _ _)⟩
  | some x=>
   simp only
   have D:=h1 x (XH hx)
   split
   ·obtain⟨k1,k2,k3,k4⟩:=ih N (st:=(st.1,st.2.1,false)) (a:=a+1) h1 h2 h3 h4
    exact⟨k1,k2,k3,by generalize f*K=u at k4 ⊢;omega⟩
   obtain⟨q1,q2,q3⟩:=Qe0 b h hbd D
   have hok:∀o∈(JE n x b).1,XQ n o:=λo ho=>Rj h (D.len h) (q3 o ho)
   obtain⟨g1,g2,g3⟩:=QeE (a:=(a:Int)) (most:=QW b) h D (X:=(JE n x b).1) (st:=(st.1,st.2.1,st.2.2&&(JE n x b).2)) hok h1 h2
   have g4:=QoP (x:=x) (a:=(a:Int)) (most:=QW b) (st:=(st.1,st.2.1,st.2.2&&(JE n x b).2)) hok h3
   obtain⟨k1,k2,k3,k4⟩:=ih (N+K) (a:=a+1) g1 g2 g4 (Yb g3 (Nat.add_le_add h4 (Yb q2 hK)))
   exact⟨k1,k2,k3,by generalize f*K=u at k4 ⊢;omega⟩
def QoQ {n:Qk}{b:Int}(hn:Xp n)(hr:Rch n)(h:CR n b=some true):n.Places.length<=70/\∀p∈n.Places,p.First.length<=400:=by
 obtain⟨f,f1,D⟩:=Qln hn hr
 unfold CR at h
 rw[f1,Qd]at h
 cases f with
 | false=>cases h
 | true=>exact⟨(D rfl).1.2.1,(D rfl).2⟩
def Qnr (n:Qk)(b tokens:Int)(hn:Xp n)(hR:RN n)(hr:Rch n):Ey n b tokens=some true:=by
 unfold Ey
 rw[QrH,Qd]
 obtain⟨f,hf,hf2⟩:=QqY n b hn hr
 rw[hf,Qd]
 cases f with
 | false=>rfl
 | true=>
  have h:=hf2 rfl
  have hb:=h.bud
  obtain⟨p1,p2⟩:=QoQ hn hr hf
  obtain⟨S,D,hS1,hS2,hS3,hS4⟩:∃S:XV,CI n (QbL n) b tokens=some S/\(∀y∈S.States,Xz n y)/\S.States.length<=4096/\(∀e∈S.Edges,XQ n e.Mode)/\S.Edges.length<=134217728:=by
   rw[Qlm b tokens h.net h.bd h.good (by omega)]
   by_cases c:b<=0
   ·rw[if_pos c];exact⟨_,rfl,λy hy=>(by cases hy),by simp,λe he=>(by cases he),by simp⟩
   rw[if_neg c]
   have hm:1<=QW b/\QW b<=16:=by unfold QW min2;split<;>omega
   obtain⟨k1,k2,k3,k4⟩:=Qq0 (t:=tokens) (YY 4194304) h.net h.bd (QW b+1) 0 (b:=b) (st:=([QbL n],[],true)) (a:=0) (λy hy=>by simp at hy;subst hy;exact h.good) hm.1 (λe he=>by cases he) (YY 0)
   have h3:0+(QW b+1)*4194304<=17*4194304:=by rw[US];exact JP _ (by omega)
   exact⟨_,rfl,k1,Yb k2 (by omega),k3,Yb k4 (Yb h3 (by decide))⟩
  have e1:Gf n b tokens=some S:=by
   unfold Gf
   rw[h.first,Qd,D];rfl
  have e2:IF n b tokens=some S:=by
   unfold IF
   rw[Qp4 p1 p2,h.first,Qd,QoO b tokens h.net hR h.bd h.pl h.good (by omega),D];rfl
  have D:=Qnq h.net hS1 hS2 hS4 hS3
  show(CZ true n b tokens).bind _=_
  unfold CZ
  rw[Qz,e1,Qd,e2,Qd,D];rfl
end Go.Proofs
