/- A part of the proof. -/
import Derived.Test.YtkocdcoeinjdbaaGreatDoorK1P1
import Derived.Test.YtkocdcoeinjdbaaGreatDoorK1P1
import Derived.Test.YtkocdcoeinjdbaaGreatDoorK1P1
import Derived.Test.YtkocdcoeinjdbaaGreatDoorK1P1
import Derived.KernelRfl
import Derived.Test.YtkocdcoeinjdbaaGreatDoorK1T2
import Derived.Test.YtkocdcoeinjdbaaGreatDoorK1XPlA
set_option linter.all false
noncomputable section
namespace Go.Proofs
open Go Go.RowKit Go.Vm
def Qhf {n:Ql}{c:Nat}{m:L_ Bag}(h:Yl n)(hm:Ka n c m)(hc:c<=1000000)(hl:Fa n m):Ex n m=some true:=by
 have hpl:=h.pl
 have hm1:=hm.1
 unfold Ex
 rw[show((m.length:Int) != (n.Places.length:Int))=false by simp;omega,QR]
 obtain⟨r,h1,h2⟩:=(Qo.up (body:=λst=>Gd m n st) m.length (λst=>st) (λ_=>True) (Q:=λq:Unit⊕Unit=>q=.inr ()) (s0:=(0:Int)) rfl trivial (λi st hi hn hJ=>by
  show Qo (Gd m n st) _
  unfold Gd
  refine T1 (λhc=>?_) (λ_=>T2 (Qy rfl))
  simp only[QV]at hc
  have i1:i<m.length:=by omega
  have i2:i<n.Places.length:=by omega
  rw[hi,XQ,Ba i1,Qg,XQ,Ba i2,Qg]
  refine T0 (UO n.Colours (n.Places[i]).Colour h.k.1).self λsz hsz=>?_
  have hb:=hm.2 _ (Yp i1)
  have hbl:=hb.2
  refine T0 (P:=λr=>r=false) ?_ λx hx=>?_
  ·unfold Mk
   rw[Sl _ (by unfold maxLen;omega),Qg,GA.2 hb.1]
   simp only[FQ,QR]
   refine T1 (λh0=>?_) (λ_=>T2 rfl)
   simp only[QV]at h0
   have y:(m[i]).length-1<(m[i]).length:=by omega
   rw[Ja (by omega),show((m[i]).length:Int)-1=(((m[i]).length-1:Nat):Int) by omega,XQ,Ba y,Qg]
   refine T2 ?_
   have hcn:=HG hb.1.1.nd (Yp y)
   have hpos:=hb.1.2 _ (Yp y)
   obtain⟨z,D,hz2⟩:=hl i _ _ (Ba i1) (Ba i2) _ (by rw[hcn];omega)
   rw[hsz.1]at D
   cases D
   exact QZ (by omega)
  subst hx
  unfold Ml
  exact T2 (QX ⟨i1,QH i1 (by unfold maxLen;omega),trivial⟩)))
 rw[h1,h2];rfl
def Pd : Bag->Int
 | []=>0
 | p::l=>p.2+Pd l
def Qkn {l m:Bag}(h:l.Perm m):Pd l=Pd m:=by
 induction h with
 | nil=>rfl
 | cons p _ ih=>simp only[Pd,ih]
 | swap p q l=>simp only[Pd];omega
 | trans _ _ y D=>rw[y,D]
def Qid (b:Bag)(hr:Rt b)(h:b.length<=maxLen):Cg b=some (Qs (Pd b)):=by
 unfold Cg
 rw[TL b h,GA.2 hr]
 show Hr b=_
 unfold Hr
 have y:∀(l:Bag) (s:Int),Wd (λst (p:Int×Int)=>Du st p.1 p.2) (Qs s) l=some (.inl (Qs (s+Pd l))):=by
  intro l
  induction l with
  | nil=>intro s;simp[Wd,Pd]
  | cons p l ih=>
   intro s
   simp only[Wd]
   rw[show Du (Qs s) p.1 p.2=some (.inl (Qs (s+p.2)))from by unfold Du;rw[Qck]]
   simp only[Qg,Sum.elim_inl]
   rw[ih,Pd,Int.add_assoc]
 have D:BJ (λst (p:Int×Int)=>Du st p.1 p.2) (0:Int) b=some (.inl (Qs (Pd b))):=by
  have e0:(0:Int)=Qs 0:=by decide
  rw[e0]
  refine FX.2 ⟨λl' hp=>?_,by rw[y];simp⟩
  rw[y,y,Qkn hp]
 rw[D];rfl
def tS (m:L_ Bag):Nat->Int
 | 0=>0
 | i+1=>tS m i+Pd (m.getD i [])
def Qhg {n:Ql}{c:Nat}{m:L_ Bag}(h:Yl n)(hm:Ka n c m)(hc:c<=1000000):MY m=some (Qs (tS m m.length)):=by
 have hpl:=h.pl
 have hm1:=hm.1
 unfold MY
 obtain⟨r,h1,h2⟩:=(Qo.up (body:=λst=>CX m st.1 st.2) m.length (λst=>st.2) (λst=>st.1=Qs (tS m st.2.toNat)) (Q:=λq=>q=Qs (tS m m.length)) (s0:=((0:Int),(0:Int))) rfl (by show(0:Int)=Qs 0;decide) (λi st hi hn D=>by
  obtain⟨a,x⟩:=st
  replace hi:x=(i:Int):=hi
  replace D:a=Qs (tS m x.toNat):=D
  subst hi
  show Qo (CX m a i) _
  unfold CX
  refine T1 (λhc=>?_) (λhc=>T2 (Qy ?_))
  ·simp only[QV]at hc
   have y:i<m.length:=by omega
   have hb:=hm.2 _ (Yp y)
   rw[XQ,Ba y,Qg,Qid _ hb.1 (by have:=hb.2;unfold maxLen;omega),Qg]
   have hw:Qs ((i:Int)+1)=((i+1:Nat):Int):=QH y (by unfold maxLen;omega)
   refine T2 (QX ⟨y,hw,?_⟩)
   show Qs (a+Qs (Pd m[i]))=Qs (tS m (Qs ((i:Int)+1)).toNat)
   rw[hw,D,Qck,Int.add_comm,Qck,LX,LX,tS,Od,Ba y,Int.add_comm];rfl
  simp only[XG]at hc
  rw[D,show(i:Int).toNat=m.length by omega]))
 rw[h1,h2];rfl
def Qlu (n:Ql)(m:L_ Bag)(o:Qr)(c:Nat)(h:Yl n)(hm:Ka n c m)(hl:Fa n m)(hc:c<=900000)(ho:YR n o):Qo (Eg n m o) λr=>r.2=0->Fa n r.1:=by
 have hpl:=h.pl
 have hm1:=hm.1
 unfold Eg
 refine T0 (Qgq n o h ho) λy hy=>?_
 refine T1 (λhc=>T2 λh=>absurd h (by simpa using hc)) λhc2=>?_
 obtain⟨⟨hy,hyl⟩,h1,h2⟩:=hy (by simpa using hc2)
 rw[So m (by omega) (λb D=>by have:=(hm.2 b D).2;omega),Qg]
 refine T0 (T4 h1 h2) λe he=>?_
 have hcl:=(h.tk e he).2.2.2
 refine T0 (Qo.up e.Cancel.length (λst=>st.1) (λst=>Ka n c st.2/\Fa n st.2) (Q:=λq=>Ka n c q/\Fa n q) rfl ⟨hm,hl⟩ (λi st hi hn hJ=>?_)) (λq hq=>?_)
 ·obtain⟨x,l⟩:=st
  replace hi:x=(i:Int):=hi
  replace hJ:Ka n c l/\Fa n l:=hJ
  show Qo (AN e x l) _
  unfold AN
  refine T1 (λhc=>?_) (λ_=>T2 (Qy hJ))
  simp only[QV]at hc
  refine T0 (T4 (by omega) (by omega)) λk _=>?_
  have next:∀l,Ka n c l/\Fa n l->Qo (Dt x l) λo=>(∀s',o=.inl s'->i<e.Cancel.length/\s'.1=((i+1:Nat):Int)/\Ka n c s'.2/\Fa n s'.2)/\∀r:L_ QBg,o=.inr r->Ka n c r/\Fa n r:=λl hl=>by
   unfold Dt
   exact T2 (QX (ix:=λst:Int×L_ QBg=>st.1) (J:=λst:Int×L_ QBg=>Ka n c st.2/\Fa n st.2) ⟨by omega,by subst hi;exact QH (by omega) (by unfold maxLen;omega:e.Cancel.length<=maxLen),hl⟩)
  refine T1 (λhc3=>?_) λ_=>next l hJ
  simp only[QJ,QV]at hc3
  refine T0 (T4 hc3.1 hc3.2) λ_ _=>?_
  refine next _ ⟨⟨by simpa using hJ.1.1,λb D=>?_⟩,λj b p D hp k' hk=>?_⟩
  ·rcases Zj D with rfl | D
   ·exact⟨Rt.nil,by simp⟩
   exact hJ.1.2 b D
  by_cases cj:k.toNat=j
  ·subst cj
   rw[Oe (by omega)]at D
   cases D
   simp[QY,Xa]at hk
  rw[LY cj]at D
  exact hJ.2 j b p D hp k' hk
 show Qo (AO y q) _
 unfold AO
 refine T0 (Qb3 n q y.1 c 20 h hq.1 hy (by omega)) λz hz=>T2 λhz0=>?_
 obtain⟨zl,ze⟩:=hz.1 hz0
 intro j b p D hp k hk
 have hj:j<n.Places.length:=(Xd.1 hp).1
 obtain⟨u,hu,hu1,hu2⟩:=Qco hq.1 hj
 obtain⟨v,hv,hv1,hv2⟩:=Qco hy hj
 obtain⟨s,hs1,hs2⟩:=ze j u v hu hv
 have hs1:z.1[j]? = some s:=hs1
 have D:z.1[j]? = some b:=D
 rw[D]at hs1;cases hs1
 have q:=(Qkm (by omega) hs2).2.2.2 k
 by_cases c0:0<QY u k
 ·exact hq.2 j u p hu hp k c0
 exact hyl j v p hv hp k (by omega)
def Sp (n:Ql)(t:QT):LI_:=t.Vars.map λv=>(YF n.Colours v.Colour).getD 0
def gdB (b:Xw)(r:LI_):Bool:=decide (XY b r=some 0)
def Qie (n:Ql)(m:L_ QBg)(h:Int)(y outs:L_ LI_)(p:LI_):L_ Qr:=match Js n m h p with
 | some (c,b)=>if c=0/\XW b=some 0 then y.flatMap λe=>if XX b e=some 0 then(outs.filter (gdB b)).map λo=>Qr.mk h p e o else []else []
 | none=>[]
def PB (y h:Int):L_ LI_:=(KB y h).getD []
def Qif (n:Ql)(m:L_ QBg)(h:Int):L_ Qr:=match idx n.Tasks h with
 | some t=>(binds (Sp n t)).flatMap (Qie n m h (PB t.Join t.Ins.length) (PB t.Split t.Outs.length))
 | none=>[]
def Qko {n:Ql}{m:L_ QBg}{y:Int}{D outs:L_ LI_}{p:LI_}{o:Qr}:
  o∈Qie n m y D outs p↔o.Task=y/\o.Vars=p/\o.Ins∈D/\o.Outs∈outs/\∃b,Js n m y p=some (0,b)/\XW b=some 0/\XX b o.Ins=some 0/\XY b o.Outs=some 0:=by
 unfold Qie
 cases hb:Js n m y p with
 | none=>simp
 | some x=>
  obtain⟨c,b⟩:=x
  simp only
  by_cases hc:c=0/\XW b=some 0
  ·rw[if_pos hc]
   obtain⟨rfl,hg⟩:=hc
   simp only[List.mem_flatMap]
   constructor
   ·rintro ⟨e,he,h⟩
    by_cases ht:XX b e=some 0
    ·rw[if_pos ht]at h
     obtain⟨r,hr,rfl⟩:=Ye.1 h
     obtain⟨h1,h2⟩:=FT.1 hr
     exact⟨rfl,rfl,he,h1,b,rfl,hg,ht,XB h2⟩
    rw[if_neg ht]at h;cases h
   rintro ⟨h1,h2,h3,h4,b',h5,h6,h7,h8⟩
   cases h5
   refine⟨o.Ins,h3,?_⟩
   rw[if_pos h7]
   refine Ye.2 ⟨o.Outs,FT.2 ⟨h4,QP h8⟩,?_⟩
   cases o
   simp only at h1 h2
   subst h1;subst h2;rfl
  rw[if_neg hc]
  constructor
  ·intro h;cases h
  rintro ⟨_,_,_,_,b',h5,h6,_⟩
  cases h5
  exact absurd ⟨rfl,h6⟩ hc
def Qb4 {n:Ql}{m:L_ QBg}{h:Int}{o:Qr}:
  o∈Qif n m h↔o.Task=h/\∃e,idx n.Tasks h=some e/\inB (Sp n e) o.Vars/\o.Ins∈PB e.Join e.Ins.length/\o.Outs∈PB e.Split e.Outs.length/\∃b,Js n m h o.Vars=some (0,b)/\XW b=some 0/\XX b o.Ins=some 0/\XY b o.Outs=some 0:=by
 unfold Qif
 cases he:idx n.Tasks h with
 | none=>simp
 | some e=>
  simp only[List.mem_flatMap,Qke,Qko,Option.some.injEq,exists_eq_left']
  constructor
  ·rintro ⟨p,y,D,rfl,h3,h4,h5⟩
   exact⟨D,y,h3,h4,h5⟩
  rintro ⟨y,D,h3,h4,h5⟩
  exact⟨o.Vars,D,y,rfl,h3,h4,h5⟩
def Qjw (a b:LI_)(ha:a.length<=maxLen):Jb a b=some (decide (a=b)):=by
 have key:Qo (Jb a b) λr=>r=decide (a=b):=by
  unfold Jb
  refine T1 (λhc=>T2 ?_) λhc=>?_
  ·rw[QZ λe=>by subst e;simp at hc]
  simp only[Kj]at hc
  have hc:a.length=b.length:=by omega
  refine T0 (Qo.up a.length (λst=>st) (λst=>a.take st.toNat=b.take st.toNat) (Q:=λq:Unit⊕Unit=>(q=.inl ()->a≠b)/\(q=.inr ()->a=b)) rfl rfl (λi st hi hn D=>?_)) (λq hq=>?_)
  ·replace hi:st=(i:Int):=hi
   subst hi
   replace D:a.take (i:Int).toNat=b.take (i:Int).toNat:=D
   rw[LX]at D
   show Qo (JY a b i) _
   unfold JY
   refine T1 (λy=>?_) (λy=>T2 (Qy ⟨λe=>(by cases e),λ_=>?_⟩))
   ·simp only[QV]at y
    have i1:i<a.length:=by omega
    have i2:i<b.length:=by omega
    rw[XQ,QW i1,Qg,XQ,QW i2,Qg]
    refine T1 (λh=>T2 (Qy ⟨λ_ e=>?_,λe=>by cases e⟩)) λh=>?_
    ·subst e;simp at h
    have hw:Qs ((i:Int)+1)=((i+1:Nat):Int):=QH i1 ha
    refine T2 (QX ⟨i1,hw,?_⟩)
    show a.take (Qs ((i:Int)+1)).toNat=b.take (Qs ((i:Int)+1)).toNat
    rw[hw,LX,Oj,Oj,D,QW i1,QW i2]
    simp only[Kj]at h
    rw[h]
   simp only[XG]at y
   rwa[CD (by omega),CD (by omega)]at D
  rcases q with q | q
  ·exact T2 (QZ (hq.1 rfl)).symm
  exact T2 (QP (hq.2 rfl)).symm
 obtain⟨r,h1,h2⟩:=key
 rw[h1,h2]
def Qng (y h:Int):KB y h=some (PB y h)/\Qia (PB y h):=by
 obtain⟨r,D,h2⟩:=QgI y h
 unfold PB
 rw[D]
 exact⟨rfl,h2⟩
def Oy (y h:Int)(row:LI_):WR y h row=some (decide (row∈PB y h)):=by
 have key:Qo (WR y h row) λr=>r=decide (row∈PB y h):=by
  unfold WR Ki Wb
  obtain⟨e,hx⟩:=Qng y h
  rw[e,Qg]
  generalize PB y h=x at hx
  have hl:=hx.1
  have key:Qo ((QO (λst=>YA x row st) 0)) λq:Int⊕Unit=>(∀k,q=.inl k->0<=k/\row∈x)/\(q=.inr ()->row ∉ x):=by
   refine Qo.up x.length (λst=>st) (λst=>row ∉ x.take st.toNat) rfl (by simp) (λi st hi hn hJ=>?_)
   replace hi:st=(i:Int):=hi
   subst hi
   replace hJ:row ∉ x.take (i:Int).toNat:=hJ
   rw[LX]at hJ
   show Qo (YA x row i) _
   unfold YA CI
   refine T1 (λhc=>?_) (λhc=>T2 (Qy ⟨λk e=>(by cases e),λ_=>?_⟩))
   ·simp only[QV]at hc
    have i1:i<x.length:=by omega
    have:=hx.2 _ (Yp i1)
    rw[XQ,QW i1,Qg,Qjw _ _ (by unfold maxLen;omega)]
    simp only[Qg]
    refine T1 (λD=>T2 (Qy ⟨λk e=>(by cases e;exact⟨by omega,by rw[<-XB D];exact Yp i1⟩),λe=>by cases e⟩)) λD=>?_
    have hw:Qs ((i:Int)+1)=((i+1:Nat):Int):=QH i1 (by unfold maxLen;omega:x.length<=maxLen)
    refine T2 (QX ⟨i1,hw,?_⟩)
    show row ∉ x.take (Qs ((i:Int)+1)).toNat
    rw[hw,LX,Oj,QW i1]
    simp only[Option.toList_some,Ur,SO,not_or]
    exact⟨hJ,λe=>of_decide_eq_false D e.symm⟩
   simp only[XG]at hc
   rwa[CD (by omega)]at hJ
  obtain⟨q,hq1,hq2⟩:=key
  rw[hq1]
  rcases q with q | q
  ·have:=hq2.1 q rfl
   refine T2 ?_
   rw[QP this.2]
   exact QP this.1
  refine T2 ?_
  rw[QZ (hq2.2 rfl)];rfl
 obtain⟨r,h1,h2⟩:=key
 rw[h1,h2]
def Qkp (l:L_ Xj)(k m:Int)(hl:Xf JW l):Qo (Ge l k m) λr=>r.2=true->0<=m/\∃z,YF l k=some z/\m<z:=by
 unfold Ge YF
 refine T0 (BY l k hl).self λx hx=>?_
 obtain⟨hxe,hx⟩:=hx
 refine T0 (P:=λr=>r=false->x.1=true/\0<=m/\∃h:0<=k/\k<(x.2.sizes.length:Int),m<x.2.sizes[k.toNat]'(by omega)) ?_ λr hr=>?_
 ·unfold Fu
  refine T1 (λ_=>T2 λh=>by cases h) λD=>?_
  have D:x.1=true:=by simpa using D
  have h:=hx.2 D
  have hk:k.toNat<x.2.sizes.length:=by omega
  have ei:idx x.2.sizes k=some x.2.sizes[k.toNat]:=Qfd h.1.1 h.1.2
  refine T0 (P:=λy=>y=true->0<=m/\m<x.2.sizes[k.toNat]) ?_ λy hy=>T2 λhf=>?_
  ·unfold Wg
   refine T0 (P:=λy=>y=true->0<=m/\m<x.2.sizes[k.toNat]) ?_ λy hy=>T2 hy
   unfold EP
   refine T1 (λhc2=>?_) λ_=>T2 λh=>by cases h
   rw[h.2.1,ei,Qg]
   exact T2 λh=>⟨by simpa using hc2,by simpa using h⟩
  have:=hy (by simpa using hf)
  exact⟨D,this.1,h.1,this.2⟩
 unfold Fv
 refine T1 (λ_=>T2 λh=>by cases h) λD=>?_
 obtain⟨h1,h2,h3,h4⟩:=hr D
 have h:=hx.2 h1
 have fin:0<=m/\∃z,((Ef l k).bind λx5=>bif (!x5.1)then some 0 else(idx x5.2.sizes k).bind λe7=>some e7)=some z/\m<z:=⟨h2,x.2.sizes[k.toNat]'(by omega),by
  rw[hxe,Qg,h1]
  simp only[FQ,QR]
  rw[Qfd h3.1 h3.2];rfl,h4⟩
 refine T0 (AZ x.2 (by omega)) λ_ _=>?_
 refine T1 (λ_=>?_) λ_=>T2 λ_=>fin
 exact T0 (AZ x.2 (by omega)) λ_ _=>T2 λ_=>fin
def Qnh {l d:LI_}(h:d.length=l.length)(D:∀(j:Nat) x s,d[j]? = some x->l[j]? = some s->0<=x/\x<s):inB l d:=by
 induction l generalizing d with
 | nil=>cases d with
  | nil=>trivial
  | cons x d=>simp at h
 | cons s r ih=>cases d with
  | nil=>simp at h
  | cons x d=>
   have:=D 0 x s rfl rfl
   exact⟨this.1,.inr this.2,ih (by simpa using h) λj y z h1 h2=>D (j+1) y z (by simpa using h1) (by simpa using h2)⟩
def Qni (n:Ql)(task:Int)(y:LI_)(h:Yl n):Qo (GK n task y) λr=>r.2=0->∃e,idx n.Tasks task=some e/\e∈n.Tasks/\inB (Sp n e) y/\∀s∈Sp n e,0<s:=by
 unfold GK
 refine T1 (λ_=>T2 λh=>by cases h) λhc=>?_
 simp only[KL,XG]at hc
 refine T0 (T4 (by omega) (by omega)).self λe he=>?_
 have hv:=(h.tk e he.2).1
 have ke:=h.k.2.2.1.2 e he.2
 refine T1 (λ_=>T2 λh=>by cases h) λhl=>?_
 simp only[Kj]at hl
 have hl:y.length=e.Vars.length:=by omega
 refine T0 (T5 (by simp only[QJ,QV];omega)) λ_ _=>?_
 refine T0 (Qo.up e.Vars.length (λst=>st.1) (λst=>st.2.length=e.Vars.length/\∀(j:Nat) x s,(j:Int)<st.1->y[j]? = some x->(Sp n e)[j]? = some s->0<=x/\x<s) (Q:=λq:Unit⊕LI_=>∀out,q=.inr out->inB (Sp n e) y/\∀s∈Sp n e,0<s) rfl ⟨by simp,λj x s D=>by simp at D;omega⟩ (λi st hi hn hJ=>?_)) (λq hq=>?_)
 ·obtain⟨x,l⟩:=st
  replace hi:x=(i:Int):=hi
  subst hi
  obtain⟨hJ,hJ2⟩:l.length=e.Vars.length/\∀(j:Nat) x s,(j:Int)<(i:Int)->y[j]? = some x->(Sp n e)[j]? = some s->0<=x/\x<s:=hJ
  show Qo (BL e y n i l) _
  unfold BL
  refine T1 (λhc=>?_) (λhc=>T2 (Qy λout _=>?_))
  ·simp only[QV]at hc
   have i1:i<e.Vars.length:=by omega
   have i2:i<y.length:=by omega
   rw[XQ,QW i1,Qg,XQ,QW i2,Qg]
   refine T0 (Qkp _ _ _ h.k.1) λc hc3=>?_
   refine T1 (λ_=>T2 (Qy λout e=>by cases e)) λhc4=>?_
   obtain⟨h1,z,h2,h3⟩:=hc3 (by simpa using hc4)
   refine T0 (T4 (by omega) (by omega)) λd _=>?_
   have hw:Qs ((i:Int)+1)=((i+1:Nat):Int):=QH i1 (by unfold maxLen;omega:e.Vars.length<=maxLen)
   refine T2 (QX ⟨i1,hw,by simpa using hJ,λj x s D hx hs=>?_⟩)
   replace D:(j:Int)<Qs ((i:Int)+1):=D
   rw[hw]at D
   by_cases cj:j=i
   ·subst cj
    rw[QW i2]at hx
    cases hx
    unfold Sp at hs
    rw[XU,QW i1,DK,h2]at hs
    cases hs
    exact⟨h1,h3⟩
   exact hJ2 j x s (by omega) hx hs
  simp only[XG]at hc
  have hb:∀(j:Nat) x s,y[j]? = some x->(Sp n e)[j]? = some s->0<=x/\x<s:=λj x s hx hs=>hJ2 j x s (by have:=(Xd.1 hx).1;omega) hx hs
  refine⟨Qnh (by simp[Sp,hl]) hb,λs hs=>?_⟩
  obtain⟨j,D,rfl⟩:=Bh.1 hs
  have hj2:j<y.length:=by simp[Sp]at D;omega
  have:=hb j _ _ (QW hj2) (QW D)
  omega
 rcases q with q | q
 ·exact T2 λh=>by cases h
 exact T2 λ_=>⟨e,he.1,he.2,hq q rfl⟩
def PU {n:Ql}{m:L_ QBg}{y:Int}{D:LI_}{b:Xw}(h:Yl n)(e:Js n m y D=some (0,b)):idx n.Tasks y=some b.task/\b.task∈n.Tasks/\b.net=n/\b.m=m/\(inB (Sp n b.task) D/\∀s∈Sp n b.task,0<s)/\GK n y D=some (b.env,0):=by
 unfold Js at e
 obtain⟨x,hx,e⟩:=Qm e
 obtain⟨x1,x2⟩:=x
 rcases Xq e with⟨c,e⟩|⟨c,e⟩
 ·simp only[Option.some.injEq,Prod.mk.injEq]at e
  simp only[e.1]at c;cases c
 simp only[Kj]at c
 subst c
 obtain⟨t,ht,h1,h2⟩:=NW (Qni n y D h) hx rfl
 rw[ht,Qg]at e
 simp only[Option.some.injEq,Prod.mk.injEq,true_and]at e
 subst e
 exact⟨ht,h1,rfl,rfl,h2,hx⟩
def QgK {n:Ql}{m:L_ QBg}{o:Qr}(h:Yl n)(hm:Xf (Xf λ_=>True) m)(ho:YR n o):Jt n m o=some 0↔o∈Qif n m o.Task:=by
 rw[Qb4]
 constructor
 ·intro e
  unfold Jt at e
  obtain⟨x,hx,e⟩:=Qm e
  obtain⟨c,b⟩:=x
  have k3:∀g,KN (c,b) o g=some 0->g=0/\o.Ins∈PB b.task.Join b.task.Ins.length/\o.Outs∈PB b.task.Split b.task.Outs.length/\XX b o.Ins=some 0/\XY b o.Outs=some 0:=λg e=>by
   unfold KN at e
   rcases Xq e with⟨c2,e⟩|⟨c2,e⟩
   ·simp only[Option.some.injEq]at e;rw[e]at c2;cases c2
   simp only[Kj]at c2
   obtain⟨y,D,e⟩:=Qm e
   unfold CJ at D
   rw[Oy,Qg]at D
   unfold CK at e
   rcases Xq e with⟨_,e⟩|⟨c3,e⟩
   ·cases e
   subst c3
   rcases Xq D with⟨_,D⟩|⟨c4,D⟩
   ·cases D
   rw[Oy,Qg]at D
   simp only[Ac,QV]at c4
   simp only[Option.some.injEq,Ac,QV]at D
   obtain⟨z,hz,e⟩:=Qm e
   rcases Xq e with⟨c5,e⟩|⟨c5,e⟩
   ·simp only[Option.some.injEq]at e;rw[e]at c5;cases c5
   simp only[Kj]at c5
   subst c5
   obtain⟨w,hw,e⟩:=Qm e
   simp only[Option.some.injEq]at e
   subst e
   exact⟨c2,c4,D,hz,hw⟩
  have fin:c=0->XW b=some 0->(o.Ins∈PB b.task.Join b.task.Ins.length/\o.Outs∈PB b.task.Split b.task.Outs.length/\XX b o.Ins=some 0/\XY b o.Outs=some 0)->o.Task=o.Task/\∃e,idx n.Tasks o.Task=some e/\inB (Sp n e) o.Vars/\o.Ins∈PB e.Join e.Ins.length/\o.Outs∈PB e.Split e.Outs.length/\∃b,Js n m o.Task o.Vars=some (0,b)/\XW b=some 0/\XX b o.Ins=some 0/\XY b o.Outs=some 0:=λhc hg q=>by
   subst hc
   obtain⟨h1,_,_,_,h2,_⟩:=PU h hx
   exact⟨rfl,b.task,h1,h2.1,q.1,q.2.1,b,hx,hg,q.2.2.1,q.2.2.2⟩
  rcases Xq e with⟨c1,e⟩|⟨c1,e⟩
  ·simp only[beq_iff_eq]at c1
   obtain⟨g,hg,e⟩:=Qm e
   obtain⟨rfl,q⟩:=k3 g e
   exact fin c1 hg q
  have e1:=(k3 _ e).1
  simp only[beq_eq_false_iff_ne]at c1
  exact absurd e1 c1
 rintro ⟨_,e,he,h1,h2,h3,b,hb,hg,ht,hv⟩
 obtain⟨k1,k2,_⟩:=PU h hb
 rw[he]at k1;cases k1
 unfold Jt
 rw[hb,Qg]
 simp only[show((0:Int)==0)=true from rfl,XE,hg,Qg]
 unfold KN
 simp only[show((0:Int) != 0)=false from rfl,QR]
 unfold CJ
 rw[Oy,Qg,QP h2]
 simp only[FQ,QR]
 rw[Oy,Qg,QP h3,Qg]
 unfold CK
 simp only[FQ,QR,ht,Qg,show((0:Int) != 0)=false from rfl,hv]
open Classical in
def Qcp {α:Type}{a b:L_ α}(hl:a.length=b.length)(hm:a.length<=maxLen){body:Int->O_ (Int⊕(Unit⊕Unit))}
  (hs:∀(i:Nat) x y,a[i]? = some x->b[i]? = some y->body (i:Int)=some (bif !(decide (x=y))then .inr (.inl ())else .inl (Qs ((i:Int)+1))))
  (hf:body (a.length:Int)=some (.inr (.inr ()))):QO body 0=some (bif decide (a=b)then .inr ()else .inl ()):=by
 have h:=QdU (body:=body) (l:=a) (λi=>(i:Int)) (λi x=>!(decide (b[i]? = some x))) (.inl ()) (.inr ()) (λi x D hx=>by
  have hy:=QW (show i<b.length by omega)
  rw[hs i x _ hx hy,hy,QH D hm]
  have:decide (some b[i]=some x)=decide (x=b[i]):=by rw[decide_eq_decide];exact⟨λh=>(Option.some.inj h).symm,λh=>by rw[h]⟩
  rw[this]) hf rfl
 refine Eq.trans h ?_
 congr 1
 by_cases e:a=b
 ·subst e
  have:Pb (λi x=>!(decide (a[i]? = some x))) 0 a=false:=Qfe.2 λi x hx=>by simp[hx]
  rw[this];simp
 have:Pb (λi x=>!(decide (b[i]? = some x))) 0 a=true:=by
  rw[<-PE,Qfe]
  intro h'
  refine e (List.ext_getElem? λi=>?_)
  by_cases D:i<a.length
  ·have:=h' i a[i] (QW D)
   simp only[Ac,QV]at this
   rw[this,QW D]
  rw[List.getElem?_eq_none (by omega),List.getElem?_eq_none (by omega)]
 rw[this];simp[e]
open Classical in
def LB (a b:Int):(a==b)=decide (a=b):=by rw[PC];simp
open Classical in
def Cy (a b:Int):(a != b)=!decide (a=b):=by rw[PC];simp
def LC {α:Type}{l:L_ α}{i:Nat}{x:α}(h:l[i]? = some x):idx l (i:Int)=some x:=by rw[XQ];exact h
def ltN {α:Type}{l:L_ α}{i:Nat}{x:α}(h:l[i]? = some x):decide ((i:Int)<(l.length:Int))=true:=QP (by have:=(Xd.1 h).1;omega)
def ltE {n:Nat}:decide ((n:Int)<(n:Int))=false:=QZ (by omega)
def Qho {α:Type}{a b:L_ α}(h:a.length=b.length):((a.length:Int) != (b.length:Int))=false:=by simp[h]
def Qfy {α:Type}{a b:L_ α}(h:¬a.length=b.length):((a.length:Int) != (b.length:Int))=true:=by simp;omega
open Classical in
def Qgr {a b:LI_}(hm:a.length<=maxLen):DT a b=some (decide (a=b)):=by
 unfold DT
 by_cases h:a.length=b.length
 ·rw[Qho h,Qcp h hm (λi x y D hy=>by
   show UF a b (i:Int)=_
   unfold UF
   rw[ltN D,LC D,LC hy]
   simp only[XE,Qg,Cy]
   by_cases e:x=y<;>simp[e]) (by
   show UF a b (a.length:Int)=_
   unfold UF
   rw[ltE];rfl)]
  by_cases e:a=b<;>simp[e,Tr,Ts]
 rw[Qfy h]
 have:a≠b:=λe=>h (by rw[e])
 simp[this]
open Classical in
def Qmj (x y:Int×Int):((x.1==y.1)&&(x.2==y.2))=decide (x=y):=by
 rw[PC];simp[Prod.ext_iff]
open Classical in
def Qmk {a b:QBg}(hm:a.length<=maxLen):Nb a b=some (decide (a=b)):=by
 unfold Nb
 by_cases h:a.length=b.length
 ·rw[Qho h,Qcp h hm (λi x y D hy=>by
   show UN a b (i:Int)=_
   unfold UN
   rw[ltN D,LC D,LC hy]
   simp only[XE,Qg]
   rw[Qmj]
   by_cases e:x=y<;>simp[e]) (by
   show UN a b (a.length:Int)=_
   unfold UN
   rw[ltE];rfl)]
  by_cases e:a=b<;>simp[e,TC,TD]
 rw[Qfy h]
 have:a≠b:=λe=>h (by rw[e])
 simp[this]
open Classical in
def Qog {a b:L_ QBg}(hm:a.length<=maxLen)(hx:∀x∈a,x.length<=maxLen):BB a b=some (decide (a=b)):=by
 unfold BB
 by_cases D:a.length=b.length
 ·rw[Qho D,Qcp D hm (λi x y h hy=>by
   show Dj a b (i:Int)=_
   unfold Dj
   rw[ltN h,LC h,LC hy]
   simp only[XE,Qg]
   rw[Qmk (hx x (XP h))]
   by_cases e:x=y<;>simp[e]) (by
   show Dj a b (a.length:Int)=_
   unfold Dj
   rw[ltE];rfl)]
  by_cases e:a=b<;>simp[e,Nn,No]
 rw[Qfy D]
 have:a≠b:=λe=>D (by rw[e])
 simp[this]
def lenM (o:Qr):Prop:=o.Vars.length<=maxLen/\o.Ins.length<=maxLen/\o.Outs.length<=maxLen
def Qnj (a b:Qr):a=b↔a.Task=b.Task/\a.Vars=b.Vars/\a.Ins=b.Ins/\a.Outs=b.Outs:=by
 cases a;cases b;simp
def Qml (a b:Xi):a=b↔a.Most=b.Most/\a.Enough=b.Enough/\a.Open=b.Open/\a.Done=b.Done/\a.Failed=b.Failed:=by
 cases a;cases b;simp
def Qnk (a b:Qu):a=b↔a.Id=b.Id/\a.Mode=b.Mode/\a.Batch=b.Batch/\a.Until=b.Until:=by
 cases a;cases b;simp
def Qnl (a b:QK):a=b↔a.M=b.M/\a.Items=b.Items/\a.Next=b.Next/\a.Now=b.Now:=by
 cases a;cases b;simp
open Classical in
def Qmm {a b:Qr}(h:lenM a):Nc a b=some (decide (a=b)):=by
 unfold Nc TE TF
 rw[Qgr h.1,Qgr h.2.1,Qgr h.2.2]
 simp only[LB]
 by_cases y:a.Task=b.Task<;>by_cases D:a.Vars=b.Vars<;>by_cases e3:a.Ins=b.Ins<;>by_cases e4:a.Outs=b.Outs<;>simp[Qnj,y,D,e3,e4]
open Classical in
def Qnm (a b:Xi):((a.Most==b.Most)&&((a.Enough==b.Enough)&&((a.Open==b.Open)&&((a.Done==b.Done)&&(a.Failed==b.Failed)))))=decide (a=b):=by
 rw[PC];simp[Qml]
open Classical in
def Qmn {a b:Qu}(h:lenM a.Mode):BC a b=some (decide (a=b)):=by
 unfold BC Np Nq
 rw[Qmm h,Qnm]
 simp only[LB]
 by_cases y:a.Id=b.Id<;>by_cases D:a.Batch=b.Batch<;>by_cases e3:a.Until=b.Until<;>by_cases e4:a.Mode=b.Mode<;>simp[Qnk,y,D,e3,e4]
open Classical in
def Qoh {a b:L_ Qu}(hm:a.length<=maxLen)(hx:∀x∈a,lenM x.Mode):La a b=some (decide (a=b)):=by
 unfold La
 by_cases D:a.length=b.length
 ·rw[Qho D,Qcp D hm (λi x y h hy=>by
   show EI a b (i:Int)=_
   unfold EI
   rw[ltN h,LC h,LC hy]
   simp only[XE,Qg]
   rw[Qmn (hx x (XP h))]
   by_cases e:x=y<;>simp[e]) (by
   show EI a b (a.length:Int)=_
   unfold EI
   rw[ltE];rfl)]
  by_cases e:a=b<;>simp[e,Se,Sf]
 rw[Qfy D]
 have:a≠b:=λe=>D (by rw[e])
 simp[this]
def Qlv (c:QK):Prop:=c.M.length<=maxLen/\(∀x∈c.M,x.length<=maxLen)/\c.Items.length<=maxLen/\∀x∈c.Items,lenM x.Mode
open Classical in
def Qjx {a b:QK}(h:Qlv a):FI a b=some (decide (a=b)):=by
 unfold FI TG TH
 rw[Qog h.1 h.2.1,Qoh h.2.2.1 h.2.2.2]
 simp only[LB]
 by_cases y:a.Next=b.Next<;>by_cases D:a.Now=b.Now<;>by_cases e3:a.M=b.M<;>by_cases e4:a.Items=b.Items<;>simp[Qnl,y,D,e3,e4]
def Sq (x:Qu):Prop:=x.Mode.Vars.length<=17592186044416/\x.Mode.Ins.length<=17592186044416/\x.Mode.Outs.length<=17592186044416
def NX {s:LI_}(h:s.length<=17592186044416):Xn s=some s:=by
 unfold Xn
 rw[BD (by show(0+s.length)*8<=140737488355328;omega)];simp
def QgL {x:Qu}(h:Sq x):AG x=some x:=by
 unfold AG
 rw[NX h.1,NX h.2.1,NX h.2.2];rfl
def dropL (l:L_ Qu)(id:Int):L_ Qu:=l.filter λx=>x.Id != id
def Qgs {l:L_ Qu}{id:Int}(hf:∀x∈l,Sq x)(hl:l.length<=4294967296)(hm:l.length<=maxLen):AH l id=some (dropL l id):=by
 unfold AH
 have h:=Qcm (body:=λst:Int×L_ Qu=>Gg l id st.1 st.2) l.length (λi s=>s=((i:Int),dropL (l.take i) id)) (λr=>r=dropL l id) (λi s hi hs=>by
  subst hs
  left
  have hx:l[i]? = some l[i]:=QW hi
  have D:l.take (i+1)=l.take i++[l[i]]:=by rw[Oj,hx];rfl
  show ∃s',Gg l id (i:Int) (dropL (l.take i) id)=_/\_
  unfold Gg
  rw[ltN hx,LC hx]
  simp only[XE,Qg]
  have hlen:(dropL (l.take i) id).length<=i:=by
   refine Jx (Qcb _ _) ?_
   simp;omega
  by_cases e:l[i].Id=id
  ·have y:(l[i].Id != id)=false:=by simp[e]
   rw[y]
   refine⟨_,rfl,?_⟩
   rw[D];unfold dropL;rw[List.filter_append,Ad,y,QH hi hm];simp
  ·have y:(l[i].Id != id)=true:=by simp[e]
   rw[y,XE,QgL (hf _ (Yp hi)),Qg,BD (by simp;omega),Qg]
   refine⟨_,rfl,?_⟩
   rw[D];unfold dropL;rw[List.filter_append,Ad,y,QH hi hm];simp) (λs hs=>by
  subst hs
  refine⟨_,?_,rfl⟩
  show Gg l id (l.length:Int) (dropL (l.take l.length) id)=_
  unfold Gg
  rw[ltE,Mb];rfl) (0,[]) rfl
 obtain⟨r,hr,rfl⟩:=h
 rw[hr];rfl
def Sr (x:Qu):L_ Qu->L_ Qu
 | []=>[x]
 | y::r=>if x.Id<y.Id then x::y::r else y::Sr x r
def Pf (l:L_ Qu)(x:Qu):L_ Qu:=Sr x (dropL l x.Id)
def Qig (x:Qu):∀l:L_ Qu,(Sr x l).length=l.length+1
 | []=>rfl
 | y::r=>by rw[Sr];split<;>simp[Qig x r]
def Qb5 (x:Qu):∀l:L_ Qu,(Sr x l).Perm (x::l)
 | []=>List.Perm.refl _
 | y::r=>by
  rw[Sr];split
  ·exact List.Perm.refl _
  exact(List.Perm.cons y (Qb5 x r)).trans (List.Perm.swap x y r)
def QgM (x:Qu):∀(l:L_ Qu) (k:Nat),(match EW (λ_ y=>decide (x.Id<y.Id)) k l with | some i=>k<=i/\i-k<=l.length/\Sr x l=l.take (i-k)++x::l.drop (i-k) | none=>Sr x l=l++[x])
 | [],k=>rfl
 | y::r,k=>by
  rw[EW,Sr]
  by_cases h:x.Id<y.Id
  ·simp[h]
  have D:=QgM x r (k+1)
  rw[QZ h,QR,if_neg h]
  cases hs:EW (λ_ y=>decide (x.Id<y.Id)) (k+1) r with
  | none=>rw[hs]at D;simp only at D;rw[D];rfl
  | some i=>
   rw[hs]at D;simp only at D
   obtain⟨h1,h2,h3⟩:=D
   refine⟨by omega,by simp;omega,?_⟩
   rw[h3,show i-k=(i-(k+1))+1 by omega];rfl
def Qlw {l:L_ Qu}{x:Qu}(hm:l.length<=maxLen):YJ l x=some ((EW (λ_ y=>decide (x.Id<y.Id)) 0 l).elim (-1) λi=>(i:Int)):=by
 unfold YJ
 have h:=QgG (body:=λst=>XN l x st) (l:=l) (λi=>(i:Int)) (λ_ y=>decide (x.Id<y.Id)) (λi=>.inl (i:Int)) (.inr ()) (λi y hi D=>by
  show XN l x (i:Int)=_
  unfold XN OV
  rw[ltN D,LC D,QH hi hm]
  simp only[XE,Qg]
  cases decide (x.Id<y.Id)<;>rfl) (by
  show XN l x (l.length:Int)=_
  unfold XN
  rw[ltE];rfl) (s0:=0) rfl
 rw[h]
 cases EW (λ_ y=>decide (x.Id<y.Id)) 0 l<;>rfl
def QgN {l:L_ Qu}{x:Qu}{i:Nat}(h:i<=l.length)(y:l.length+1<=4294967296):Yg l (i:Int) [x]=some (l.take i++x::l.drop i):=by
 show(chk _).bind _=_
 rw[Qaf (by simp;omega)]
 simp
def Qoi {α:Type}{p:Prop}[Decidable p](h:p)(a b:α):(bif decide p then a else b)=a:=by rw[QP h];rfl
def Qoj {α:Type}{p:Prop}[Decidable p](h:¬p)(a b:α):(bif decide p then a else b)=b:=by rw[QZ h];rfl
def Qkq {l:L_ Qu}{x:Qu}(hf:∀x∈l,Sq x)(hx:Sq x)(hl:l.length+1<=4294967296)(hm:l.length<=maxLen):Im l x=some (Pf l x):=by
 unfold Im
 have hd:(dropL l x.Id).length<=l.length:=Qcb _ _
 rw[Qgs hf (by omega) hm,Qg,Qlw (by omega),Qg]
 have h:=QgM x (dropL l x.Id) 0
 unfold Hj
 rw[QgL hx]
 unfold Pf
 cases hs:EW (λ_ y=>decide (x.Id<y.Id)) 0 (dropL l x.Id)with
 | none=>
  rw[hs]at h;simp only at h
  rw[h]
  simp only[Option.elim,Qg]
  refine(Qoi (by decide) _ _).trans ?_
  show(Yg (dropL l x.Id) ((dropL l x.Id).length:Int) [x]).bind some=_
  rw[QgN (YV _) (by omega)]
  simp
 | some i=>
  rw[hs]at h;simp only at h
  obtain⟨_,D,h3⟩:=h
  rw[Nat.sub_zero]at D h3
  simp only[Option.elim,Qg]
  refine(Qoj (by omega) _ _).trans ?_
  show(Yg (dropL l x.Id) (i:Int) [x]).bind some=_
  rw[h3,QgN D (by omega)]
  rfl
def Up (l:L_ Qu):Prop:=l.Pairwise λa b=>a.Id<b.Id
def Up.ext : ∀{l m:L_ Qu},Up l->Up m->(∀x,x∈l↔x∈m)->l=m
 | [],[],_,_,_=>rfl
 | [],y::m,_,_,h=>by have:=(h y).2 YB;cases this
 | x::l,[],_,_,h=>by have:=(h x).1 YB;cases this
 | x::l,y::m,hl,hm,h=>by
  obtain⟨l1,l2⟩:=CC.1 hl
  obtain⟨m1,m2⟩:=CC.1 hm
  have e:x=y:=by
   rcases XO.1 ((h x).1 YB)with e | hx
   ·exact e
   rcases XO.1 ((h y).2 YB)with e | hy
   ·exact e.symm
   have:=m1 x hx;have:=l1 y hy;omega
  subst e
  rw[Up.ext l2 m2 λz=>?_]
  have:=h z
  simp only[XO]at this
  constructor
  ·intro D
   rcases this.1 (.inr D)with e | h'
   ·subst e;have:=l1 z D;omega
   exact h'
  intro D
  rcases this.2 (.inr D)with e | h'
  ·subst e;have:=m1 z D;omega
  exact h'
def Up.drop {l:L_ Qu}(h:Up l)(id:Int):Up (dropL l id):=List.Pairwise.filter _ h
def FP {l:L_ Qu}{id:Int}{x:Qu}:x∈dropL l id↔x∈l/\x.Id≠id:=by simp[dropL,FT]
def Up.ins {x:Qu}:∀{l:L_ Qu},Up l->(∀y∈l,y.Id≠x.Id)->Up (Sr x l)
 | [],_,_=>List.pairwise_singleton _ _
 | y::r,h,hn=>by
  obtain⟨h1,h2⟩:=CC.1 h
  rw[Sr]
  split
  ·rename_i hlt
   refine CC.2 ⟨λz D=>?_,h⟩
   rcases XO.1 D with rfl | D
   ·exact hlt
   have:=h1 z D;omega
  rename_i hge
  have hy:=hn y YB
  refine CC.2 ⟨λz D=>?_,Up.ins h2 λz D=>hn z (Jk _ D)⟩
  rcases XO.1 ((Qb5 x r).mem_iff.1 D)with rfl | D
  ·omega
  exact h1 z D
def Up.put {l:L_ Qu}(h:Up l)(x:Qu):Up (Pf l x):=(h.drop x.Id).ins λy D=>(FP.1 D).2
def Zl {l:L_ Qu}{x z:Qu}:z∈Pf l x↔z=x\/(z∈l/\z.Id≠x.Id):=by
 unfold Pf
 rw[(Qb5 x _).mem_iff,XO,FP]
def LP (n y h:Int):Wa n y h=some (decide (y<=n)&&decide (n<=h)):=rfl
open Classical in
def Qih (b:Xi):∃r,Km b=some r:=by
 unfold Km Mm
 simp only[LP,Qg]
 have h:∀c:Bool,∃r,Ux b c=some r:=λc=>by
  unfold Ux
  cases c with
  | true=>exact⟨_,rfl⟩
  | false=>
   have h:=QdU (body:=λst=>YX b st) (l:=[b.Open,b.Done,b.Failed]) (λi=>(i:Int)) (λ_ x=>!(decide (0<=x)&&decide (x<=b.Most))) (.inl ()) (.inr ()) (λi x D y=>by
    show YX b (i:Int)=_
    unfold YX
    rw[ltN y,LC y,QH D (by show 3<=_;decide)]
    simp only[XE,Qg,LP]
    cases (!(decide (0<=x)&&decide (x<=b.Most)))<;>rfl) (by
    show YX b (([b.Open,b.Done,b.Failed].length:Nat):Int)=_
    unfold YX
    rw[ltE];rfl) (s0:=0) rfl
   rw[QR,h]
   cases Pb (λ(_:Nat) (x:Int)=>!(decide (0<=x)&&decide (x<=b.Most))) 0 [b.Open,b.Done,b.Failed]<;>exact⟨_,rfl⟩
 cases (!(decide (1<=b.Most)&&decide (b.Most<=16)))with
 | true=>exact h _
 | false=>exact h _
def Ng (b:Xi):Bool:=((Km b).getD false)&&!(((WF b).getD true))
def Qlx (b:Xi):∃r,WF b=some r:=by
 obtain⟨r,h⟩:=Qih b
 unfold WF Nz NA
 rw[h]
 cases r with
 | true=>simp only[Qg,XE];cases decide (b.Enough<=b.Done)<;>exact⟨_,rfl⟩
 | false=>exact⟨_,rfl⟩
def Qmo (b:Xi):((Km b).bind λx=>bif !x then some true else(WF b).bind λy=>some y)=some (!Ng b):=by
 obtain⟨r,D⟩:=Qih b
 obtain⟨q,h⟩:=Qlx b
 unfold Ng
 rw[D,h]
 cases r<;>cases q<;>rfl
def OK (next h:Int)(x:Qu):Bool:=decide (h<x.Id)&&decide (x.Id<next)&&decide (0<=x.Until)&&Ng x.Batch
def upF (next:Int):Int->L_ Qu->Bool
 | _,[]=>true
 | h,x::l=>OK next h x&&upF next x.Id l
def Qmp (x:Qu)(h next:Int):Lk x h next=some (!OK next h x):=by
 unfold Lk
 have:=Qmo x.Batch
 unfold OK
 by_cases y:x.Id<=h
 ·rw[QP y,QZ (show ¬h<x.Id by omega)];rfl
 rw[QZ y,QP (show h<x.Id by omega)]
 by_cases D:next<=x.Id
 ·rw[QP D,QZ (show ¬x.Id<next by omega)];rfl
 rw[QZ D,QP (show x.Id<next by omega)]
 by_cases h3:x.Until<0
 ·rw[QP h3,QZ (show ¬0<=x.Until by omega)];rfl
 rw[QZ h3,QP (show 0<=x.Until by omega)]
 simp only[QR,Bool.true_and]
 exact this
def Qly {l:L_ Qu}{next:Int}(hm:l.length<=maxLen):IQ l next=some (upF next 0 l&&decide ((l.length:Int)<=64)):=by
 unfold IQ
 have h:=TI (body:=λst:Int×Int=>Dn l next st.1 st.2) (l:=l) (λi t=>(t,(i:Int))) (λi t x=>bif OK next t x then .inl x.Id else .inr (.inl ())) (λ_=>.inr ()) (λi t x D y=>by
  show Dn l next t (i:Int)=_
  unfold Dn RD
  rw[ltN y,LC y,QH D hm]
  simp only[XE,Qg,Qmp]
  cases OK next t x<;>rfl) (λt=>by
  show Dn l next t (l.length:Int)=_
  unfold Dn
  rw[ltE];rfl) 0 (s0:=(0,0)) rfl
 rw[h]
 have key:∀(l:L_ Qu) (i:Nat) (t:Int),HE (λ(_:Nat) (t:Int) (x:Qu)=>bif OK next t x then Sum.inl x.Id else Sum.inr (Sum.inl ())) (λ_=>(Sum.inr ():Unit⊕Unit)) i t l=bif upF next t l then .inr ()else .inl ():=by
  intro l
  induction l with
  | nil=>intro i t;rfl
  | cons x l ih=>
   intro i t
   rw[HE,upF]
   cases OK next t x with
   | true=>simpa using ih (i+1) x.Id
   | false=>rfl
 rw[key]
 cases upF next 0 l<;>rfl
def HH {next:Int}:∀{l:L_ Qu} {D:Int},upF next D l=true↔Up l/\∀x∈l,D<x.Id/\x.Id<next/\0<=x.Until/\Ng x.Batch=true
 | [],D=>⟨λ_=>⟨List.Pairwise.nil,λx h=>by cases h⟩,λ_=>rfl⟩
 | x::l,D=>by
  rw[upF,QJ,HH (l:=l)]
  unfold OK Up
  simp only[QJ,QV,CC,XO,forall_eq_or_imp]
  constructor
  ·rintro ⟨⟨⟨⟨a1,a2⟩,a3⟩,a4⟩,a5,a6⟩
   exact⟨⟨λy hy=>(a6 y hy).1,a5⟩,⟨a1,a2,a3,a4⟩,λy hy=>⟨by have:=(a6 y hy).1;omega,(a6 y hy).2⟩⟩
  rintro ⟨⟨a1,a5⟩,⟨b1,b2,b3,b4⟩,a6⟩
  exact⟨⟨⟨⟨b1,b2⟩,b3⟩,b4⟩,a5,λy hy=>⟨a1 y hy,(a6 y hy).2⟩⟩
def lens (x:Qu):Nat:=x.Mode.Vars.length+x.Mode.Ins.length+x.Mode.Outs.length
def Sq.of {x:Qu}(h:lens x<=1000):Sq x:=by unfold lens at h;unfold Sq;omega
def Qmq {m:Qr}(h:m.Vars.length<=17592186044416/\m.Ins.length<=17592186044416/\m.Outs.length<=17592186044416):lenM m:=by
 have:(17592186044416:Nat)<=maxLen:=by decide
 exact⟨Jx h.1 this,Jx h.2.1 this,Jx h.2.2 this⟩
def Sq.lenM {x:Qu}(h:Sq x):lenM x.Mode:=Qmq (by unfold Sq at h;omega)
section
variable {Pe:Int->Int->Prop}
def HOk (Pe:Int->Int->Prop)(l:L_ (O_ Nat))(t:L_ Qh):Prop:=(∀o∈l,∃k,o=some k/\k<t.length)/\∀e∈t,Pe e.id e.at_
def HOk.at {l:L_ (O_ Nat)}{t:L_ Qh}(h:HOk Pe l t){i:Int}(h0:0<=i)(h1:i<l.length):∃k e,idx l i=some (some k)/\t[k]? = some e/\k<t.length/\Pe e.id e.at_/\some k∈l:=by
 have D:i.toNat<l.length:=by omega
 obtain⟨k,hk,y⟩:=h.1 _ (Yp D)
 refine⟨k,t[k],?_,QW y,y,h.2 _ (Yp y),?_⟩
 ·rw[Qcl h0,QW D,hk]
 rw[<-hk];exact Yp D
def HOk.setT {l:L_ (O_ Nat)}{t:L_ Qh}(h:HOk Pe l t){k:Nat}{e:Qh}(hk:t[k]? = some e)(v:Int):HOk Pe l (t.set k ⟨e.id,e.at_,v⟩):=by
 refine⟨λo ho=>?_,λx y=>?_⟩
 ·obtain⟨j,D,h2⟩:=h.1 o ho
  exact⟨j,D,by rw[Zn];exact h2⟩
 rcases Zo y with y | rfl
 ·exact h.2 x y
 exact h.2 e (XP hk)
def HOk.setL {l:L_ (O_ Nat)}{t:L_ Qh}(h:HOk Pe l t){o:O_ Nat}(D:o∈l)(i:Nat):HOk Pe (l.set i o) t:=by
 refine⟨λx y=>?_,h.2⟩
 rcases Zo y with y | rfl
 ·exact h.1 x y
 exact h.1 _ D
def Qlz {a b:Nat}(h:a<=b){o:O_ Nat}(y:Ru a o=true):Ru b o=true:=by
 cases o with
 | none=>rfl
 | some k=>simp only[Ru,QV]at y ⊢;omega
def QlA {m:L_ (Int×O_ Nat)}{k:Int}{v:O_ Nat}{q:Int×O_ Nat}(h:q∈YP Dy m k v):q=(k,v)\/q∈m:=by
 have D:∀m:L_ (Int×O_ Nat),q∈Ci Dy m k v->q=(k,v)\/q∈m:=by
  intro m
  induction m with
  | nil=>intro h;exact .inl (by simpa[Ci] using h)
  | cons p m y=>
   obtain⟨a,x⟩:=p
   intro h
   rw[Ci]at h
   split at h
   ·rcases XO.1 h with h | h
    ·exact .inl h
    exact .inr h
   rcases XO.1 h with h | h
   ·exact .inr (h▸YB)
   exact(y h).imp id (Jk _)
 have rep:∀m:L_ (Int×O_ Nat),q∈Fj m k v->q=(k,v)\/q∈m:=by
  intro m
  induction m with
  | nil=>intro h;cases h
  | cons p m y=>
   obtain⟨a,x⟩:=p
   intro h
   rw[Fj]at h
   split at h
   ·rcases XO.1 h with h | h
    ·exact .inl h
    exact .inr (Jk _ h)
   rcases XO.1 h with h | h
   ·exact .inr (h▸YB)
   exact(y h).imp id (Jk _)
 unfold YP at h
 split at h
 ·exact rep m h
 exact D m h
end
def QiN {l:L_ Qu}{id:Int}(hm:l.length<=maxLen):JO l id=some ((EW (λ_ y=>y.Id==id) 0 l).elim (-1) λi=>(i:Int)):=by
 unfold JO JN
 have h:=QgG (body:=λst=>XM l id st) (l:=l) (λi=>(i:Int)) (λ_ y=>y.Id==id) (λi=>.inl (i:Int)) (.inr ()) (λi y hi D=>by
  show XM l id (i:Int)=_
  unfold XM NH
  rw[ltN D,LC D,QH hi hm]
  simp only[XE,Qg]
  cases (y.Id==id)<;>rfl) (by
  show XM l id (l.length:Int)=_
  unfold XM
  rw[ltE];rfl) (s0:=0) rfl
 rw[h]
 cases EW (λ_ y=>y.Id==id) 0 l<;>rfl
def QgO {l:L_ Qu}{id:Int}(hm:l.length<=maxLen)(h:∀x∈l,x.Id≠id):JO l id=some (-1):=by
 rw[QiN hm]
 cases hs:EW (λ_ y=>y.Id==id) 0 l with
 | none=>rfl
 | some i=>
  obtain⟨j,x,_,hx,D⟩:=Qff hs
  exact absurd (by simpa using D) (h x (XP hx))
def Qb6 {l:L_ Qu}{id:Int}(hm:l.length<=maxLen){x:Qu}(hx:x∈l)(h:x.Id=id):∃i:Nat,∃y,JO l id=some (i:Int)/\l[i]? = some y/\y.Id=id:=by
 rw[QiN hm]
 cases D:EW (λ_ y=>y.Id==id) 0 l with
 | none=>
  obtain⟨i,hi,rfl⟩:=Bh.1 hx
  have:=Qjq D i _ (QW hi)
  simp[h]at this
 | some i=>
  obtain⟨j,y,e,hy,h⟩:=Qff D
  rw[Ae]at e;subst e
  exact⟨i,y,rfl,hy,by simpa using h⟩
def Up.inj : ∀{l:L_ Qu},Up l->∀{x y:Qu},x∈l->y∈l->x.Id=y.Id->x=y
 | [],_,_,_,h,_,_=>by cases h
 | z::l,h,x,y,hx,hy,e=>by
  obtain⟨h1,h2⟩:=CC.1 h
  rcases XO.1 hx with ex | hx'
  ·rcases XO.1 hy with ey | D
   ·rw[ex,ey]
   have:=h1 y D;rw[ex]at e;omega
  rcases XO.1 hy with ey | D
  ·have:=h1 x hx';rw[ey]at e;omega
  exact Up.inj h2 hx' D e
def QgP {l:L_ Qu}{id:Int}(h:∀x∈l,x.Id≠id):dropL l id=l:=List.filter_eq_self.2 λx y=>by simpa using h x y
def Ss : ∀{l:L_ Qu} {x:Qu},Up l->x∈l->(dropL l x.Id).length+1=l.length
 | [],_,_,h=>by cases h
 | z::l,x,h,D=>by
  obtain⟨h1,h2⟩:=CC.1 h
  unfold dropL
  rcases XO.1 D with rfl | D
  ·have hn:∀y∈l,y.Id≠x.Id:=λy hy=>by have:=h1 y hy;omega
   rw[Ad,if_neg (by simp)]
   have:=QgP hn
   unfold dropL at this
   rw[this];rfl
  have:=h1 x D
  have ih:=Ss h2 D
  unfold dropL at ih
  rw[Ad,if_pos (by simp;omega),GB,ih,GB]
abbrev Ky := Int×Int
def LQ (a b:Ky):Prop:=a.1<b.1\/(a.1=b.1/\a.2<b.2)
instance (a b:Ky):Decidable (LQ a b):=by unfold LQ;infer_instance
def KO (a b:Ky):Prop:=¬LQ b a
def KO.refl (a:Ky):KO a a:=by unfold KO LQ;omega
def KO.trans {a b c:Ky}(h:KO a b)(k:KO b c):KO a c:=by unfold KO LQ at *;omega
def LQ.le {a b:Ky}(h:LQ a b):KO a b:=by unfold KO LQ at *;omega
def KO.anti {a b:Ky}(h:KO a b)(k:KO b a):a=b:=by
 obtain⟨y,D⟩:=a
 obtain⟨b1,b2⟩:=b
 unfold KO LQ at *
 simp only at h k
 have:y=b1:=by omega
 have:D=b2:=by omega
 subst_vars;rfl
def KO.tot {a b:Ky}(h:¬KO a b):KO b a:=by unfold KO LQ at *;omega
def gt (K:L_ Ky)(i:Nat):Ky:=K.getD i (0,0)
def Qfz {K:L_ Ky}{i:Nat}(h:i<K.length):gt K i=K[i]:=by simp[gt,h]
def swp (i j:Nat)(K:L_ Ky):L_ Ky:=(K.set i (gt K j)).set j (gt K i)
def Qcq {i j:Nat}{K:L_ Ky}(D:i<K.length)(hj:j<K.length)(c:Nat):gt (swp i j K) c=if c=j then gt K i else if c=i then gt K j else gt K c:=by
 unfold swp
 conv=>lhs;unfold gt
 rw[Od]
 by_cases h:c=j
 ·subst h;rw[if_pos rfl,Oe (by simpa using hj)];rfl
 rw[if_neg h,LY (Ne.symm h)]
 by_cases y:c=i
 ·subst y;rw[if_pos rfl,Oe D];rfl
 rw[if_neg y,LY (Ne.symm y)];unfold gt;rw[Od]
def Qd8 {i j:Nat}{K:L_ Ky}(hi:i<K.length)(hj:j<K.length):(swp i j K).Perm K:=by
 rw[List.perm_iff_count]
 intro a
 unfold swp
 rw[Qfz hi,Qfz hj]
 have h1:j<(K.set i K[j]).length:=by simpa using hj
 rw[List.count_set h1,List.count_set hi]
 have D:(K.set i K[j])[j]=K[j]:=by
  rw[List.getElem_set];split<;>simp_all
 rw[D]
 have c1:K[i]∈K:=Yp hi
 have c2:K[j]∈K:=Yp hj
 by_cases h:K[i]=a<;>by_cases y:K[j]=a
 ·have:=List.count_pos_iff.2 (h▸c1);simp[h,y];omega
 ·have:=List.count_pos_iff.2 (h▸c1);simp[h,y];omega
 ·have:=List.count_pos_iff.2 (y▸c2);simp[h,y]
 simp[h,y]
def NY (n:Nat)(K:L_ Ky):Prop:=∀c,0<c->c<n->KO (gt K ((c-1) / 2)) (gt K c)
def NY.min {n:Nat}{K:L_ Ky}(h:NY n K):∀c,c<n->KO (gt K 0) (gt K c):=by
 intro c
 induction c using Nat.strongRecOn with
 | ind c ih=>
  intro D
  by_cases y:c=0
  ·subst y;exact KO.refl _
  exact(ih ((c-1) / 2) (by omega) (by omega)).trans (h c (by omega) D)
def Qak (n:Nat)(K:L_ Ky)(j:Nat):Prop:=(∀c,0<c->c<n->c≠j->KO (gt K ((c-1) / 2)) (gt K c))/\∀c,0<c->c<n->(c-1) / 2=j->0<j->KO (gt K ((j-1) / 2)) (gt K c)
def Qak.done {n j:Nat}{K:L_ Ky}(h:Qak n K j)(y:j=0\/KO (gt K ((j-1) / 2)) (gt K j)):NY n K:=λc D hc=>by
 by_cases e:c=j
 ·subst e
  rcases y with rfl | y
  ·omega
  exact y
 exact h.1 c D hc e
def Qak.up {n j:Nat}{K:L_ Ky}(h:Qak n K j)(hj:j<n)(hn:n<=K.length)(h0:j≠0)(hlt:LQ (gt K j) (gt K ((j-1) / 2))):Qak n (swp ((j-1) / 2) j K) ((j-1) / 2):=by
 have hi:(j-1) / 2<K.length:=by omega
 have hj2:j<K.length:=by omega
 have g:=Qcq (i:=(j-1) / 2) (j:=j) hi hj2
 generalize hI:(j-1) / 2=i at *
 have hij:i<j:=by omega
 constructor
 ·intro c y D ci
  rw[g,g]
  by_cases e:c=j
  ·subst e
   rw[if_pos rfl,hI,if_neg (by omega),if_pos rfl];exact hlt.le
  rw[if_neg e,if_neg ci]
  by_cases p:(c-1) / 2=j
  ·rw[if_pos p]
   have:=h.2 c y D p (by omega)
   rwa[hI]at this
  rw[if_neg p]
  by_cases p2:(c-1) / 2=i
  ·rw[if_pos p2]
   have:=h.1 c y D e
   rw[p2]at this
   exact hlt.le.trans this
  rw[if_neg p2];exact h.1 c y D e
 intro c y D p i0
 have hp:(i-1) / 2<i:=by omega
 rw[g,g,if_neg (by omega),if_neg (by omega)]
 have hgi:KO (gt K ((i-1) / 2)) (gt K i):=h.1 i i0 (by omega) (by omega)
 by_cases e:c=j
 ·subst e;rw[if_pos rfl];exact hgi
 rw[if_neg e,if_neg (by omega)]
 have:=h.1 c y D e
 rw[p]at this
 exact hgi.trans this
def Qal (n:Nat)(K:L_ Ky)(i:Nat):Prop:=(∀c,0<c->c<n->(c-1) / 2≠i->KO (gt K ((c-1) / 2)) (gt K c))/\∀c,0<c->c<n->(c-1) / 2=i->0<i->KO (gt K ((i-1) / 2)) (gt K c)
def Qal.done {n i:Nat}{K:L_ Ky}(h:Qal n K i)(hc:∀c,0<c->c<n->(c-1) / 2=i->KO (gt K i) (gt K c)):NY n K:=λc D y=>by
 by_cases e:(c-1) / 2=i
 ·rw[e];exact hc c D y e
 exact h.1 c D y e
def Qal.down {n i j:Nat}{K:L_ Ky}(h:Qal n K i)(hj:j<n)(hn:n<=K.length)(hp:(j-1) / 2=i)(h0:0<j)(hlt:LQ (gt K j) (gt K i))(ho:∀c,0<c->c<n->(c-1) / 2=i->KO (gt K j) (gt K c)):Qal n (swp i j K) j:=by
 have hij:i<j:=by omega
 have g:=Qcq (i:=i) (j:=j) (K:=K) (by omega) (by omega)
 constructor
 ·intro c y D p
  rw[g,g,if_neg p]
  by_cases e:c=j
  ·subst e;rw[if_pos rfl,hp,if_pos rfl];exact hlt.le
  rw[if_neg e]
  by_cases p2:(c-1) / 2=i
  ·rw[if_pos p2,if_neg (by omega)];exact ho c y D p2
  rw[if_neg p2]
  by_cases e2:c=i
  ·subst e2;rw[if_pos rfl];exact h.2 j h0 hj hp y
  rw[if_neg e2];exact h.1 c y D p2
 intro c y D p _
 rw[g,g,hp,if_neg (by omega),if_pos rfl,if_neg (by omega),if_neg (by omega)]
 have:=h.1 c y D (by omega)
 rwa[p]at this
def Srt (S:L_ Ky):Prop:=S.Pairwise KO
def QlB {s:Ky}{S K:L_ Ky}(hS:Srt (s::S))(hp:(s::S).Perm K)(hh:NY K.length K)(y:0<K.length):gt K 0=s:=by
 have h1:gt K 0∈s::S:=hp.mem_iff.2 (by rw[Qfz y];exact Yp y)
 have h2:KO s (gt K 0):=by
  rcases XO.1 h1 with h | h
  ·rw[h];exact KO.refl _
  exact List.rel_of_pairwise_cons hS h
 have h3:s∈K:=hp.mem_iff.1 YB
 obtain⟨i,D,rfl⟩:=Bh.1 h3
 have:=hh.min i D
 rw[Qfz D]at this
 exact this.anti h2
def ky (t:L_ Qh)(o:O_ Nat):Ky:=match o with
 | some k=>match t[k]? with
  | some e=>(e.at_,e.id)
  | none=>(0,0)
 | none=>(0,0)
def PX (t:L_ Qh)(k:Nat):ky t (some k)=match t[k]? with
  | some e=>(e.at_,e.id)
  | none=>(0,0):=rfl
def Ym (t:L_ Qh)(l:L_ (O_ Nat)):L_ Ky:=l.map (ky t)
abbrev Nr (l:L_ (O_ Nat))(t:L_ Qh):Prop:=HOk (λ_ _=>True) l t
def Wu (t:L_ Qh)(l:L_ (O_ Nat)):(Ym t l).length=l.length:=by simp[Ym]
def Qii {l:L_ (O_ Nat)}{t:L_ Qh}(h:Nr l t){i:Nat}(hi:i<l.length):∃k e,idx l (i:Int)=some (some k)/\t[k]? = some e/\gt (Ym t l) i=(e.at_,e.id):=by
 obtain⟨k,e,y,D,_⟩:=h.at (i:=(i:Int)) (by omega) (by omega)
 refine⟨k,e,y,D,?_⟩
 rw[XQ]at y
 unfold gt Ym
 rw[Od,XU,y]
 show ky t (some k)=_
 rw[PX,D]
def Qam {l:L_ (O_ Nat)}{t:L_ Qh}(h:Nr l t){i j:Nat}(hi:i<l.length)(hj:j<l.length):KC l i j t=some (decide (LQ (gt (Ym t l) i) (gt (Ym t l) j))):=by
 obtain⟨k,e,h1,h2,h3⟩:=Qii h hi
 obtain⟨k',e',h1',h2',h3'⟩:=Qii h hj
 unfold KC HI HJ
 simp only[h1,h1',h2,h2',Qg,h3,h3']
 have hd:∀p:Prop,[Decidable p]->(p↔LQ (e.at_,e.id) (e'.at_,e'.id))->decide p=decide (LQ (e.at_,e.id) (e'.at_,e'.id)):=λp _ hp=>decide_eq_decide.2 hp
 by_cases y:e.at_<e'.at_
 ·rw[QP y,XE,Qg,QP (show LQ _ _ from .inl y)]
 rw[QZ y,QR]
 by_cases D:e.at_=e'.at_
 ·rw[show(e.at_==e'.at_)=true by simpa using D,XE,Qg]
  exact congrArg some (hd _ ⟨λh=>.inr ⟨D,h⟩,λh=>by rcases h with h | h;exact absurd h y;exact h.2⟩)
 rw[show(e.at_==e'.at_)=false by simpa using D,QR,Qg,QZ]
 rintro (h | h)
 ·exact y h
 exact D h.1
def Qij {t:L_ Qh}{k:Nat}{e:Qh}(h:t[k]? = some e)(v:Int)(o:O_ Nat):ky (t.set k ⟨e.id,e.at_,v⟩) o=ky t o:=by
 cases o with
 | none=>rfl
 | some m=>
  rw[PX,PX]
  by_cases c:k=m
  ·subst c
   have:=(Xd.1 h).1
   rw[Oe this,h]
  rw[LY c]
def Qd9 {l:L_ (O_ Nat)}{t:L_ Qh}(h:Nr l t){i j:Nat}(hi:i<l.length)(hj:j<l.length):
  ∃p,JI l i j t=some p/\Nr p.1 p.2/\p.1.length=l.length/\p.2.length=t.length/\Ym p.2 p.1=swp i j (Ym t l):=by
 obtain⟨k,e,h1,h2,h3,_,m1⟩:=h.at (i:=(i:Int)) (by omega) (by omega)
 obtain⟨k',e',D,h2',h3',_,m1'⟩:=h.at (i:=(j:Int)) (by omega) (by omega)
 have hA:Nr (l.set (i:Int).toNat (some k')) t:=h.setL m1' _
 have lA:(l.set (i:Int).toNat (some k')).length=l.length:=Zn
 obtain⟨kA,eA,hA1,hA2,_⟩:=hA.at (i:=(j:Int)) (by omega) (by rw[lA];omega)
 have hB:Nr ((l.set (i:Int).toNat (some k')).set (j:Int).toNat (some k)) t:=by
  refine⟨λx hx=>?_,h.2⟩
  rcases Zo hx with hx | rfl
  ·exact hA.1 x hx
  exact h.1 _ m1
 have lB:((l.set (i:Int).toNat (some k')).set (j:Int).toNat (some k)).length=l.length:=by rw[Zn,Zn]
 obtain⟨k1,y,g1,g2,_⟩:=hB.at (i:=(i:Int)) (by omega) (by rw[lB];omega)
 obtain⟨k2,e2,f1,f2,f3,_⟩:=hB.at (i:=(j:Int)) (by omega) (by rw[lB];omega)
 have hC:=hB.setT g2 (i:Int)
 have lt2:k2<(t.set k1 ⟨y.id,y.at_,(i:Int)⟩).length:=by rw[Zn];exact f3
 have g3:(t.set k1 ⟨y.id,y.at_,(i:Int)⟩)[k2]? = some (t.set k1 ⟨y.id,y.at_,(i:Int)⟩)[k2]:=QW lt2
 have hD:=hC.setT g3 (j:Int)
 refine⟨(_,_),?_,hD,lB,by simp,?_⟩
 ·unfold JI
  simp only[h1,D,hA1,g1,f1,g2,g3,Qg]
 have e1':gt (Ym t l) i=ky t (some k):=by
  rw[XQ]at h1
  unfold gt Ym;rw[Od,XU,h1];rfl
 have e2':gt (Ym t l) j=ky t (some k'):=by
  rw[XQ]at D
  unfold gt Ym;rw[Od,XU,D];rfl
 unfold swp
 rw[e1',e2']
 show List.map _ _=_
 have hf:∀o,ky ((t.set k1 ⟨y.id,y.at_,(i:Int)⟩).set k2 ⟨(t.set k1 ⟨y.id,y.at_,(i:Int)⟩)[k2].id,(t.set k1 ⟨y.id,y.at_,(i:Int)⟩)[k2].at_,(j:Int)⟩) o=ky t o:=λo=>by rw[Qij g3,Qij g2]
 rw[Og λo _=>hf o,List.map_set,List.map_set]
 rfl
def Qnn : ∀(j:Nat) {l:L_ (O_ Nat)} {t:L_ Qh},Nr l t->j<l.length->l.length<=4000000->
  ∃p,QO (λst=>KV st.1 st.2.1 st.2.2) ((j:Int),t,l)=some p/\Nr p.2 p.1/\p.2.length=l.length/\p.1.length=t.length/\(Ym p.1 p.2).Perm (Ym t l)/\(Qak l.length (Ym t l) j->NY l.length (Ym p.1 p.2)):=by
 intro j
 induction j using Nat.strongRecOn with
 | ind j ih=>
  intro l t h hj hl
  have hi:(Qs (Int.tdiv (Qs ((j:Int)-1)) 2))=(((j-1) / 2:Nat):Int):=by
   by_cases D:j=0
   ·subst D;decide
   rw[Ja (n:=(j:Int)-1) (by omega)]
   have:Int.tdiv ((j:Int)-1) 2=(((j-1) / 2:Nat):Int):=by
    rw[show(j:Int)-1=((j-1:Nat):Int) by omega]
    exact(Int.ofNat_tdiv (j-1) 2).symm
   rw[this,Ja (by omega)]
  rw[WH]
  show ∃p,(KV (j:Int) t l).bind _=some p/\_
  unfold KV Iw
  rw[hi]
  by_cases e:(j-1) / 2=j
  ·have D:j=0:=by omega
   rw[e,beq_self_eq_true]
   exact⟨_,rfl,h,rfl,rfl,List.Perm.refl _,λy=>y.done (.inl D)⟩
  have e1:((((j-1) / 2:Nat):Int)==(j:Int))=false:=by simp;omega
  have hlt:(j-1) / 2<j:=by omega
  rw[e1,QR,Qam h hj (by omega),Qg,Qg]
  unfold DH
  by_cases c:LQ (gt (Ym t l) j) (gt (Ym t l) ((j-1) / 2))
  ·rw[QP c,hi]
   obtain⟨p,hp,h1,h2,h3,h4⟩:=Qd9 h (i:=(j-1) / 2) (j:=j) (by omega) hj
   rw[FQ,QR,hp,Qg,BD h2,Qg]
   obtain⟨q,g1,g2,g3,g4,g5,g6⟩:=ih ((j-1) / 2) hlt h1 (by omega) (by omega)
   refine⟨q,g1,g2,by omega,by omega,?_,λy=>?_⟩
   ·rw[h4]at g5
    exact g5.trans (Qd8 (by rw[Wu];omega) (by rw[Wu];omega))
   rw[h4,h2]at g6
   exact g6 (y.up hj (by rw[Wu];exact YV _) (by omega) c)
  rw[QZ c]
  exact⟨_,rfl,h,rfl,rfl,List.Perm.refl _,λy=>y.done (.inr c)⟩
def Qmr {n i:Nat}{l:L_ (O_ Nat)}{t:L_ Qh}(h:Nr l t)(hi:i<l.length)(hn:n<=l.length)(hl:l.length<=4000000):
  (n<=2*i+1/\Ju (n:Int) (i:Int) t l=some (.inr ((i:Int),t,l)))\/
  ∃j:Nat,i<j/\j<n/\(j-1) / 2=i/\(∀c,0<c->c<n->(c-1) / 2=i->KO (gt (Ym t l) j) (gt (Ym t l) c))/\Ju (n:Int) (i:Int) t l=Yu l (i:Int) t (j:Int):=by
 unfold Ju
 have e1:Qs ((Qs (2*(i:Int)))+1)=((2*i+1:Nat):Int):=by
  rw[Qck,Ja (by omega)];omega
 have e2:Qs (((2*i+1:Nat):Int)+1)=((2*i+2:Nat):Int):=by rw[Ja (by omega)];omega
 rw[e1]
 by_cases hc:n<=2*i+1
 ·rw[QP (show(n:Int)<=((2*i+1:Nat):Int) by omega)]
  exact .inl ⟨hc,rfl⟩
 right
 rw[QZ (show ¬(n:Int)<=((2*i+1:Nat):Int) by omega),QZ (show ¬((2*i+1:Nat):Int)<0 by omega),Bool.or_false,QR]
 unfold Fz
 rw[e1,e2]
 have two:∀c,0<c->c<n->(c-1) / 2=i->c=2*i+1\/c=2*i+2:=λc y D p=>by omega
 by_cases hc2:2*i+2<n
 ·rw[QP (show((2*i+2:Nat):Int)<(n:Int) by omega),XE,Qam h (by omega) (by omega),Qg,Qg]
  unfold EC
  rw[e1,e2]
  by_cases cl:LQ (gt (Ym t l) (2*i+2)) (gt (Ym t l) (2*i+1))
  ·rw[QP cl]
   exact⟨2*i+2,by omega,hc2,by omega,λc y D p=>by
    rcases two c y D p with rfl | rfl
    ·exact cl.le
    exact KO.refl _,rfl⟩
  rw[QZ cl]
  exact⟨2*i+1,by omega,by omega,by omega,λc y D p=>by
   rcases two c y D p with rfl | rfl
   ·exact KO.refl _
   exact cl,rfl⟩
 rw[QZ (show ¬((2*i+2:Nat):Int)<(n:Int) by omega),QR,Qg]
 unfold EC
 rw[e1]
 exact⟨2*i+1,by omega,by omega,by omega,λc y D p=>by
  have:c=2*i+1:=by omega
  subst this;exact KO.refl _,rfl⟩
def QlC {n:Nat}:∀(m i:Nat) {l:L_ (O_ Nat)} {t:L_ Qh},n-i=m->Nr l t->i<l.length->n<=l.length->l.length<=4000000->
  ∃p,QO (λst=>Ju (n:Int) st.1 st.2.1 st.2.2) ((i:Int),t,l)=some p/\Nr p.2.2 p.2.1/\p.2.2.length=l.length/\p.2.1.length=t.length/\(Ym p.2.1 p.2.2).Perm (Ym t l)/\(∀c,n<=c->gt (Ym p.2.1 p.2.2) c=gt (Ym t l) c)/\
   (Qal n (Ym t l) i->NY n (Ym p.2.1 p.2.2)):=by
 intro m
 induction m using Nat.strongRecOn with
 | ind m ih=>
  intro i l t hm h D hn hl
  rw[WH]
  rcases Qmr h D hn hl with⟨hc,hs⟩|⟨j,hij,hj,hpj,ho,hs⟩
  ·exact⟨((i:Int),t,l),(congrArg (λo=>Option.bind o _) hs).trans rfl,h,rfl,rfl,List.Perm.refl _,λ_ _=>rfl,λy=>y.done λc _ cn p=>by omega⟩
  by_cases c:LQ (gt (Ym t l) j) (gt (Ym t l) i)
  ·obtain⟨p,hp,h1,h2,h3,h4⟩:=Qd9 h (i:=i) (j:=j) D (by omega)
   have hk:Yu l (i:Int) t (j:Int)=some (.inl ((j:Int),p.2,p.1)):=by
    unfold Yu
    rw[Qam h (by omega) D,Qg,QP c,FQ,QR,hp,Qg,BD h2,Qg]
   obtain⟨q,g1,g2,g3,g4,g5,g6,g7⟩:=ih (n-j) (by omega) j rfl h1 (by omega) (by omega) (by omega)
   rw[h4]at g5 g6 g7
   refine⟨q,(congrArg (λo=>Option.bind o _) (hs.trans hk)).trans g1,g2,by omega,by omega,g5.trans (Qd8 (by rw[Wu];omega) (by rw[Wu];omega)),λc cn=>?_,λy=>g7 (y.down hj (by rw[Wu];exact hn) hpj (by omega) c ho)⟩
   rw[g6 c cn,Qcq (by rw[Wu];omega) (by rw[Wu];omega),if_neg (by omega),if_neg (by omega)]
  have hk:Yu l (i:Int) t (j:Int)=some (.inr ((i:Int),t,l)):=by
   unfold Yu
   rw[Qam h (by omega) D,Qg,QZ c];rfl
  exact⟨((i:Int),t,l),(congrArg (λo=>Option.bind o _) (hs.trans hk)).trans rfl,h,rfl,rfl,List.Perm.refl _,λ_ _=>rfl,λy=>y.done λd d0 dn dp=>KO.trans c (ho d d0 dn dp)⟩
structure OkQ (l:List (Option Nat)) (m:List (Int×Option Nat)) (t:List Qh):Prop where
 h:Nr l t
 p:∀q∈m,Ru t.length q.2=true
 k:NY l.length (Ym t l)
def Qno {l:L_ (O_ Nat)}{t:L_ Qh}(h:Nr l t)(e:Qh):Ym (t++[e]) l=Ym t l:=by
 unfold Ym
 refine Og λo D=>?_
 obtain⟨k,rfl,y⟩:=h.1 o D
 rw[PX,PX,YN y]
def Qms {l:L_ (O_ Nat)}{m:L_ (Int×O_ Nat)}{t:L_ Qh}(h:OkQ l m t)(hn:l.length<4096){id at_:Int}(hm:Xa m id=none):
  ∃r,GQ l m id at_ t=some r/\OkQ r.2.1 r.2.2.2 r.2.2.1/\r.2.1.length=l.length+1/\(Ym r.2.2.1 r.2.1).Perm (Ym t l++[(at_,id)])/\∃v,r.2.2.2=YP Dy m id v:=by
 obtain⟨h1,h2,h3⟩:=h
 unfold GQ
 rw[hm]
 show ∃r,(bif false then _ else _)=some r/\_
 unfold Gz
 rw[QR,Qg,show((l.length:Int)==4096)=false by simp;omega]
 have c1:l.all (Ru t.length)=true:=XD.2 λo y=>by
  obtain⟨k,rfl,hk⟩:=h1.1 o y
  simpa[Ru] using hk
 have c2:(m.all λq=>Ru t.length q.2)=true:=XD.2 h2
 rw[QR,Qaf c1,Qg,Qaf c2,Qg]
 unfold AR Bl
 have g0:(t++[(Qh.mk id at_ 0)])[t.length]? = some (Qh.mk id at_ 0):=by simp
 rw[Qg,g0,Qg,BD (by simp;omega),Qg,Qg]
 have D:Nr (l++[some t.length]) (t++[Qh.mk id at_ 0]):=by
  refine⟨λo y=>?_,λ_ _=>trivial⟩
  rcases Ur.1 y with y | y
  ·obtain⟨k,e,hk⟩:=h1.1 o y
   exact⟨k,e,by simp;omega⟩
  rw[SO]at y
  exact⟨t.length,y,by simp⟩
 have hq2:=D.setT g0 (l.length:Int)
 have ln:(l++[some t.length]).length=l.length+1:=by simp
 show ∃r,((KR (l++[some t.length]) _).bind _).bind _=some r/\_
 unfold KR
 rw[Qg,ln]
 have ew:Qs (((l.length+1:Nat):Int)-1)=(l.length:Int):=by rw[Ja (by omega)];omega
 rw[ew]
 unfold Cq
 obtain⟨p,g1,g2,g3,g4,g5,g6⟩:=Qnn l.length hq2 (by omega) (by omega)
 have hk:Ym ((t++[Qh.mk id at_ 0]).set t.length ⟨id,at_,(l.length:Int)⟩) (l++[some t.length])=Ym t l++[(at_,id)]:=by
  have:∀o,ky ((t++[Qh.mk id at_ 0]).set t.length ⟨id,at_,(l.length:Int)⟩) o=ky (t++[Qh.mk id at_ 0]) o:=Qij g0 _
  show List.map _ _=_
  rw[Og λo _=>this o,List.map_append]
  show Ym (t++[Qh.mk id at_ 0]) l++[ky (t++[Qh.mk id at_ 0]) (some t.length)]=_
  rw[Qno h1,PX,g0]
 have hx:Qak (l.length+1) (Ym t l++[(at_,id)]) l.length:=by
  have gl:∀c,c<l.length->gt (Ym t l++[(at_,id)]) c=gt (Ym t l) c:=λc hc=>by
   unfold gt
   rw[Od,YN (by rw[Wu];exact hc),Od]
  refine⟨λc c0 cn ce=>?_,λc c0 cn p _=>by omega⟩
  rw[gl c (by omega),gl _ (by omega)]
  exact h3 c c0 (by omega)
 rw[hk]at g5 g6
 rw[ln]at g6 g3
 have gh:=g6 hx
 refine⟨_,(congrArg (λo=>Option.bind (Option.bind (Option.bind o _) _) _) g1).trans rfl,⟨g2,λq D=>?_,?_⟩,g3,g5,_,rfl⟩
 ·have lt:p.1.length=t.length+1:=by rw[g4];simp
  show Ru p.1.length q.2=true
  rw[lt]
  rcases QlA D with rfl | D
  ·simp[Ru]
  exact Qlz (Us _) (h2 q D)
 show NY p.2.length (Ym p.1 p.2)
 rw[g3];exact gh
def Qan {l:L_ (O_ Nat)}(m:L_ (Int×O_ Nat)){t:L_ Qh}(h:Nr l t):(l=[]/\YY l m t=some (0,0,false))\/(0<l.length/\YY l m t=some ((gt (Ym t l) 0).2,(gt (Ym t l) 0).1,true)):=by
 unfold YY Gz
 rw[Qg]
 by_cases D:l.length=0
 ·have:=LZ.1 D
  subst this
  exact .inl ⟨rfl,rfl⟩
 right
 refine⟨by omega,?_⟩
 rw[show((l.length:Int)==0)=false by simp;intro h;exact D (by simp[h])]
 obtain⟨k,e,y,h2,h3⟩:=Qii h (i:=0) (by omega)
 have y:idx l 0=some (some k):=y
 rw[QR,y,Qg,Qg,h2,Qg,Qg,Qg,h2,Qg,h3]
def QlD {K:L_ Ky}{n:Nat}(h:K.length=n+1):K=K.take n++[gt K n]:=by
 have e:K.drop n=[gt K n]:=by
  rw[List.drop_eq_getElem_cons (by omega),Qfz (by omega),List.drop_eq_nil_of_le (by omega)]
 rw[<-e,List.take_append_drop]
def Qmt {l:L_ (O_ Nat)}(m:L_ (Int×O_ Nat)){t:L_ Qh}(h1:Nr l t)(h3:NY l.length (Ym t l))(hl:0<l.length)(hn:l.length<=4000000):
  ∃r,GR l m t=some r/\Nr r.2.1 r.2.2/\NY r.2.1.length (Ym r.2.2 r.2.1)/\r.2.1.length+1=l.length/\(gt (Ym t l) 0::Ym r.2.2 r.2.1).Perm (Ym t l):=by
 unfold GR KR
 have ew:Qs ((l.length:Int)-1)=((l.length-1:Nat):Int):=by rw[Ja (by omega)];omega
 rw[Qg,ew]
 obtain⟨p,hp,g1,g2,g3,g4⟩:=Qd9 h1 (i:=0) (j:=l.length-1) (by omega) (by omega)
 have hp:JI l 0 ((l.length-1:Nat):Int) t=some p:=hp
 rw[hp,Qg,BD g2,Qg]
 unfold AS
 obtain⟨q,f1,f2,f3,f4,f5,f6,f7⟩:=QlC (n:=l.length-1) _ 0 rfl g1 (by omega) (by omega) (by omega)
 have e0:QO (λst=>Ju ((l.length-1:Nat):Int) st.1 st.2.1 st.2.2) (0,p.2,p.1)=some q:=f1
 rw[e0,Qg]
 unfold FA
 rw[Qg]
 unfold Cr
 show ∃r,((idx q.2.2 (Qs ((q.2.2.length:Int)-1))).bind _).bind _=some r/\_
 rw[g2]at f3
 rw[f3,ew]
 obtain⟨k,e,i1,i2,i3,_⟩:=f2.at (i:=((l.length-1:Nat):Int)) (by omega) (by omega)
 rw[i1,Qg]
 rw[Qaf (by simp),Qg,Qg]
 have tk:(q.2.2.take (((l.length-1:Nat):Int)).toNat).length=l.length-1:=by rw[WV];omega
 have kl:(Ym t l).length=l.length:=Wu t l
 have sw:=λc=>Qcq (i:=0) (j:=l.length-1) (K:=Ym t l) (by omega) (by omega) c
 rw[g4]at f5 f6 f7
 have hd:Qal (l.length-1) (swp 0 (l.length-1) (Ym t l)) 0:=by
  refine⟨λc c0 cn p=>?_,λc c0 cn p h0=>by omega⟩
  rw[sw,sw,if_neg (by omega),if_neg p,if_neg (by omega),if_neg (by omega)]
  exact h3 c c0 (by omega)
 have hh:=f7 hd
 have h:gt (Ym q.2.1 q.2.2) (l.length-1)=gt (Ym t l) 0:=by rw[f6 _ (YV _),sw,if_pos rfl]
 have y:(Ym q.2.1 q.2.2).Perm (Ym t l):=f5.trans (Qd8 (by omega) (by omega))
 have ktk:Ym q.2.1 (q.2.2.take (((l.length-1:Nat):Int)).toNat)=(Ym q.2.1 q.2.2).take (l.length-1):=by
  unfold Ym;rw[LX,List.map_take]
 refine⟨_,rfl,⟨λo ho=>f2.1 o (CA ho),f2.2⟩,?_,?_,?_⟩
 ·show NY (q.2.2.take (((l.length-1:Nat):Int)).toNat).length (Ym q.2.1 (q.2.2.take (((l.length-1:Nat):Int)).toNat))
  rw[tk,ktk]
  intro c c0 cn
  have D:∀c,c<l.length-1->gt ((Ym q.2.1 q.2.2).take (l.length-1)) c=gt (Ym q.2.1 q.2.2) c:=λc hc=>by
   unfold gt
   rw[Od,JE,if_pos hc,Od]
  rw[D c cn,D _ (by omega)]
  exact hh c c0 cn
 ·show(q.2.2.take (((l.length-1:Nat):Int)).toNat).length+1=l.length
  omega
 show(gt (Ym t l) 0::Ym q.2.1 (q.2.2.take (((l.length-1:Nat):Int)).toNat)).Perm (Ym t l)
 rw[ktk]
 have:=QlD (K:=Ym q.2.1 q.2.2) (n:=l.length-1) (by rw[Wu];omega)
 rw[h]at this
 refine(List.perm_append_comm (l₁:=[gt (Ym t l) 0])).trans ?_
 rw[<-this];exact y
def Qea (now:Int)(S:L_ Ky):LI_:=(S.takeWhile λs=>decide (s.1<=now)).map Prod.snd
def Qik {now:Int}:∀(S:L_ Ky) {id at_:Int} {is:Bool} {out:LI_} {m:L_ (Int×O_ Nat)} {t:L_ Qh} {l:L_ (O_ Nat)},Nr l t->NY l.length (Ym t l)->Srt S->S.Perm (Ym t l)->
  (some (id,at_,is)=YY l m t)->out.length+l.length<=4000000->
  ∃r,QO (λst=>JJ now st.1 st.2.1 st.2.2.1 st.2.2.2.1 st.2.2.2.2.1 st.2.2.2.2.2.1 st.2.2.2.2.2.2) (id,at_,is,out,m,t,l)=some r/\r.1=out++Qea now S:=by
 intro S
 induction S with
 | nil=>
  intro id at_ is out m t l h hh hs hp D hc
  have hl:l=[]:=by
   have:=hp.length_eq
   rw[Wu]at this
   exact LZ.1 this.symm
  subst hl
  rcases Qan m h with⟨_,e⟩|⟨h0,_⟩
  ·rw[e]at D;cases D
   rw[WH]
   exact⟨_,rfl,by simp[Qea]⟩
  cases h0
 | cons s S ih=>
  intro id at_ is out m t l h hh hs hp D hc
  have hl:0<l.length:=by
   have:=hp.length_eq
   rw[Wu]at this;simp at this;omega
  rcases Qan m h with⟨e,_⟩|⟨_,e⟩
  ·subst e;cases hl
  have h0:=QlB hs hp (by rw[Wu];exact hh) (by rw[Wu];exact hl)
  rw[e,h0]at D;cases D
  rw[WH]
  show ∃r,((JJ now s.2 s.1 true out m t l).bind _)=some r/\_
  by_cases ha:s.1<=now
  ·obtain⟨r,hr,k1,k2,k3,k4⟩:=Qmt m h hh hl (by omega)
   rw[h0]at k4
   have hp2:S.Perm (Ym r.2.2 r.2.1):=(List.perm_cons s).1 (hp.trans k4.symm)
   obtain⟨v,hv⟩:∃v,YY r.2.1 (Ar m s.2) r.2.2=some v:=by
    rcases Qan (Ar m s.2) k1 with⟨_,e⟩|⟨_,e⟩<;>exact⟨_,e⟩
   obtain⟨q,g1,g2⟩:=ih (id:=v.1) (at_:=v.2.1) (is:=v.2.2) (out:=out++[s.2]) (m:=Ar m s.2) k1 k2 (List.Pairwise.of_cons hs) hp2 hv.symm (by rw[KZ,IJ];omega)
   have y:JJ now s.2 s.1 true out m t l=some (.inl (v.1,v.2.1,v.2.2,out++[s.2],Ar m s.2,r.2.2,r.2.1)):=by
    unfold JJ
    rw[QP ha,Bool.and_true,XE,BD (by rw[IJ];omega),Qg,hr,Qg,hv,Qg]
   refine⟨q,(congrArg (λo=>Option.bind o _) y).trans g1,?_⟩
   rw[g2]
   unfold Qea
   rw[List.takeWhile_cons_of_pos (by simpa using ha),GC,EK];rfl
  have y:JJ now s.2 s.1 true out m t l=some (.inr (out,m,t,l)):=by
   unfold JJ
   rw[QZ ha];rfl
  refine⟨_,(congrArg (λo=>Option.bind o _) y).trans rfl,?_⟩
  unfold Qea
  rw[List.takeWhile_cons_of_neg (by simpa using ha)];simp
def IG (L:L_ Qu):Nat->L_ Ky
 | 0=>[]
 | i+1=>match L[i]? with
  | some x=>if (∀y∈L.take i,y.Id≠x.Id)/\0<x.Until then IG L i++[(x.Until,x.Id)]else IG L i
  | none=>IG L i
def Qcr (L:L_ Qu):∀i,(IG L i).length<=i
 | 0=>YV _
 | i+1=>by
  rw[IG]
  have:=Qcr L i
  split
  ·split
   ·simp;omega
   omega
  omega
def Qkr {L:L_ Qu}{now:Int}(hL:L.length<=80){S:L_ Ky}(hS:Srt S)(hp:S.Perm (IG L L.length)):Ce L now=some (Qea now S):=by
 have mx:(80:Nat)<=maxLen:=by decide
 unfold Ce Vn
 rw[Qg]
 have h:=Qcm (body:=λst:Int×L_ (Int×Bool)×L_ (O_ Nat)×L_ (Int×O_ Nat)×L_ Qh=>Wr L st.1 st.2.1 st.2.2.1 st.2.2.2.1 st.2.2.2.2) L.length (λi s=>s.1=(i:Int)/\(∀k,(Xa s.2.1 k).getD false=true↔∃y∈L.take i,y.Id=k)/\OkQ s.2.2.1 s.2.2.2.1 s.2.2.2.2/\(Ym s.2.2.2.2 s.2.2.1).Perm (IG L i)/\∀k,Xa s.2.2.2.1 k≠none->∃y∈L.take i,y.Id=k)
  (λr=>OkQ r.1 r.2.1 r.2.2/\(Ym r.2.2 r.1).Perm (IG L L.length)) (λi s hi hs=>by
  obtain⟨j,m,l,mm,t⟩:=s
  obtain⟨rfl,hm,hq,D,hmm⟩:=hs
  replace hm:∀k,(Xa m k).getD false=true↔∃y∈L.take i,y.Id=k:=hm
  replace hq:OkQ l mm t:=hq
  replace D:(Ym t l).Perm (IG L i):=D
  replace hmm:∀k,Xa mm k≠none->∃y∈L.take i,y.Id=k:=hmm
  left
  have hx:L[i]? = some L[i]:=QW hi
  have htk:L.take (i+1)=L.take i++[L[i]]:=by rw[Oj,hx];rfl
  have hm':∀k,(Xa (YP Dy m L[i].Id true) k).getD false=true↔∃y∈L.take (i+1),y.Id=k:=λk=>by
   rw[FJ,htk]
   by_cases e:k=L[i].Id
   ·rw[if_pos e]
    exact⟨λ_=>⟨L[i],List.mem_append_right _ (SO.2 rfl),e.symm⟩,λ_=>rfl⟩
   rw[if_neg e,hm]
   refine⟨λ⟨y,h1,h2⟩=>⟨y,SN _ h1,h2⟩,λ⟨y,h1,h2⟩=>?_⟩
   rcases Ur.1 h1 with h1 | h1
   ·exact⟨y,h1,h2⟩
   simp at h1;subst h1;exact absurd h2.symm e
  show ∃s',Wr L (i:Int) m l mm t=_/\_
  unfold Wr Hk
  rw[ltN hx,LC hx,XE,Qg,QH hi (by omega)]
  have hpr:IG L (i+1)=if (∀y∈L.take i,y.Id≠L[i].Id)/\0<L[i].Until then IG L i++[(L[i].Until,L[i].Id)]else IG L i:=by rw[IG,hx]
  have hlen:l.length<=i:=by
   have:=D.length_eq
   rw[Wu]at this
   have:=Qcr L i
   omega
  by_cases c1:∃y∈L.take i,y.Id=L[i].Id
  ·rw[(hm _).2 c1]
   refine⟨_,rfl,rfl,hm',hq,?_,λk D=>?_⟩
   ·rw[hpr,if_neg λh=>by obtain⟨y,h1,h2⟩:=c1;exact h.1 y h1 h2];exact D
   obtain⟨y,h1,h2⟩:=hmm k D
   exact⟨y,by rw[htk];exact SN _ h1,h2⟩
  ·rw[Bool.eq_false_iff.2 λh=>c1 ((hm _).1 h)]
   have c1':∀y∈L.take i,y.Id≠L[i].Id:=λy h1 h2=>c1 ⟨y,h1,h2⟩
   by_cases c2:0<L[i].Until
   ·rw[QP c2]
    obtain⟨r,hr,g1,g2,g3,v,g4⟩:=Qms hq (by omega) (id:=L[i].Id) (at_:=L[i].Until) (by
     cases hmg:Xa mm L[i].Id with
     | none=>rfl
     | some v=>exact absurd (hmm _ (by rw[hmg];simp)) c1)
    simp only[Bool.not_false,Bool.and_self,XE]
    rw[hr,Qg]
    refine⟨_,rfl,rfl,hm',g1,?_,λk D=>?_⟩
    ·rw[hpr,if_pos ⟨c1',c2⟩]
     exact g3.trans (D.append_right _)
    replace D:Xa r.2.2.2 k≠none:=D
    rw[g4,FJ]at D
    by_cases e:k=L[i].Id
    ·exact⟨L[i],by rw[htk];exact List.mem_append_right _ (SO.2 rfl),e.symm⟩
    rw[if_neg e]at D
    obtain⟨y,h1,h2⟩:=hmm k D
    exact⟨y,by rw[htk];exact SN _ h1,h2⟩
   rw[QZ c2]
   refine⟨_,rfl,rfl,hm',hq,?_,λk D=>?_⟩
   ·rw[hpr,if_neg λh=>c2 h.2];exact D
   obtain⟨y,h1,h2⟩:=hmm k D
   exact⟨y,by rw[htk];exact SN _ h1,h2⟩) (λs hs=>by
  obtain⟨j,m,l,mm,t⟩:=s
  obtain⟨rfl,hm,hq,D,hmm⟩:=hs
  refine⟨(l,mm,t),?_,hq,D⟩
  show Wr L (L.length:Int) m l mm t=_
  unfold Wr
  rw[ltE];rfl) (0,[],[],[],[]) ⟨rfl,λk=>by simp[Xa],⟨⟨(λo h=>by cases h),(λe h=>by cases h)⟩,(λq h=>by cases h),λc _ h=>by cases h⟩,List.Perm.refl _,λk h=>absurd rfl h⟩
 obtain⟨r,hr,hq,D⟩:=h
 show((QO (λst=>Wr L st.1 st.2.1 st.2.2.1 st.2.2.2.1 st.2.2.2.2) (0,[],[],[],[])).bind _)=_
 rw[hr,Qg]
 unfold Hl HZ
 have hlen:r.1.length<=80:=by
  have:=D.length_eq
  rw[Wu]at this
  have:=Qcr L L.length
  omega
 obtain⟨v,hv⟩:∃v,YY r.1 r.2.1 r.2.2=some v:=by
  rcases Qan r.2.1 hq.h with⟨_,e⟩|⟨_,e⟩<;>exact⟨_,e⟩
 obtain⟨q,h4,h5⟩:=Qik (now:=now) S hq.h hq.k hS (hp.trans D.symm) hv.symm (out:=[]) (by simp;omega)
 rw[hv,Qg,h4,Qg]
 unfold MB
 rw[Qg,h5,Zp]
def LD (n:Ql)(m:L_ Bag):Prop:=Ka n 1024 m/\Fa n m
def LD.len {n:Ql}{m:L_ Bag}(y:LD n m)(h:Yl n):Xf (Xf λ_=>True) m:=y.1.len h (by omega)
def Qeb {n:Ql}{m:L_ Bag}{c:Nat}(h:Yl n)(hm:Ka n c m)(hl:Fa n m):LD n m:=by
 refine⟨⟨hm.1,λb hb=>?_⟩,hl⟩
 have D:=(hm.2 b hb).1
 refine⟨D,?_⟩
 obtain⟨j,hj,rfl⟩:=Bh.1 hb
 have hj2:j<n.Places.length:=by have:=hm.1;omega
 by_cases c0:(m[j]).length=0
 ·omega
 have y:(m[j]).length-1<(m[j]).length:=by omega
 have h1:=QiL D.1 (a:=0) (λp hp=>(D.2 p hp).1) ((m[j]).length-1) y
 have h2:=HG D.1.nd (Yp y)
 have h3:=(D.2 _ (Yp y)).2.1
 obtain⟨z,hz,hk⟩:=hl j _ _ (QW hj) (QW hj2) _ (by rw[h2];omega)
 have:=NW (UO _ _ h.k.1) hz
 omega
def Qks {n:Ql}{m:L_ Bag}{o:Qr}(h:Yl n)(hg:LD n m)(ho:YR n o):Qo (UW n m o) λr=>r.2=0->LD n r.1/\Jt n m o=some 0/\∃y,Kr n o=some (y,0)/\JH m y=some (r.1,0):=by
 obtain⟨hm,hl⟩:=hg
 have hpl:=h.pl
 have hm1:=hm.1
 obtain⟨⟨t,c⟩,hT,hmk⟩:=Qne n m o 1024 h hm (by omega) ho
 refine⟨_,hT,λh0=>?_⟩
 replace h0:c=0:=h0
 subst h0
 obtain⟨hCk,y,hN,hL⟩:=Qjv hT
 obtain⟨hnd,hndl⟩:=NW (Zk n o h ho) hN rfl
 obtain⟨_,eL⟩:=(NW (QiC n m y 1024 20 h hm hnd (by omega)) hL).1 rfl
 refine⟨Qeb h (hmk rfl) λj b p hb hp k hk=>?_,hCk,y,hN,hL⟩
 have hj:=(Xd.1 hp).1
 obtain⟨a,ha,ha1,ha2⟩:=Qco hm hj
 obtain⟨u,hu,hu1,hu2⟩:=Qco hnd hj
 obtain⟨p',D,hp2⟩:=eL j a u ha hu
 have D:t[j]? = some p':=D
 have hb:t[j]? = some b:=hb
 rw[hb]at D;cases D
 have q:=Qmi (by omega) hp2
 have:=hu1.cnt k
 have:=q.2.2.2.2 k
 exact hl j a p ha hp k (by omega)
def Qkt {n:Ql}{m:L_ Bag}{o:Qr}(h:Yl n)(y:LD n m)(ho:YR n o):Qo (Eg n m o) λr=>r.2=0->LD n r.1:=by
 obtain⟨⟨t,c⟩,hT,D⟩:=Qnf n m o 1024 h y.1 (by omega) ho
 have hl:=NW (Qlu n m o 1024 h y.1 y.2 (by omega) ho) hT
 exact⟨_,hT,λh0=>Qeb h (D h0) (hl h0)⟩
def Qku {n:Ql}{m:L_ Bag}{o:Qr}(h:Yl n)(hg:LD n m)(ho:YR n o):Qo (Cd n m o) λr=>r.2=0->LD n r.1:=by
 unfold Cd
 refine T0 (Zk n o h ho) λy hy=>?_
 refine T1 (λhc=>T2 λh=>absurd h (by simpa using hc)) λhc2=>?_
 obtain⟨hym,hyl⟩:=hy (by simpa using hc2)
 obtain⟨r,hr,hmk⟩:=QgJ n m y.1 1024 20 h hg.1 hym (by omega)
 have hsp:=NW (Qb3 n m y.1 1024 20 h hg.1 hym (by omega)) hr
 rw[hr,Qg]
 refine T2 λh0=>Qeb h (hmk h0) λj b p hb hp k hk=>?_
 obtain⟨_,ze⟩:=hsp.1 h0
 have hj:j<n.Places.length:=(Xd.1 hp).1
 obtain⟨u,hu,hu1,hu2⟩:=Qco hg.1 hj
 obtain⟨v,hv,hv1,hv2⟩:=Qco hym hj
 obtain⟨s,D,hs2⟩:=ze j u v hu hv
 have D:r.1[j]? = some s:=D
 have hb:r.1[j]? = some b:=hb
 rw[hb]at D;cases D
 have q:=Qkm (by omega) hs2
 by_cases c0:0<QY u k
 ·exact hg.2 j u p hu hp k c0
 have:=hu1.cnt k
 have:=q.2.2.2 k
 exact hyl j v p hv hp k (by omega)
def Qjy {s:L_ Qu}(h:s.length<=1000000000):YM s=some s:=by
 unfold YM
 rw[BD (by simp;omega),Qg,Zp]
structure Qjz (c:QK):Prop where
 m:c.M.length<=100000
 b:∀b∈c.M,b.length<=100000
 i:c.Items.length<=1000
 f:∀x∈c.Items,x.Mode.Vars.length<=20000/\x.Mode.Ins.length<=20000/\x.Mode.Outs.length<=20000
def Qjz.fit {c:QK}(h:Qjz c):∀x∈c.Items,Sq x:=λx y=>by have:=h.f x y;unfold Sq;omega
def QjA {c:QK}(h:Qjz c):Yk c=some c:=by
 have mx:(1000:Nat)<=maxLen:=by decide
 have hi:=h.i
 unfold Yk
 have hM:=h.m
 rw[So c.M (by omega) (λb hb=>by have:=h.b b hb;omega),Qg,Qjy (by omega),Qg]
 have D:Qo (QO (λst=>DQ c.Items st.1 st.2) (0,c.Items)) λq=>q=c.Items:=by
  refine Qo.up c.Items.length (λst=>st.1) (λst=>st.2=c.Items) rfl rfl (λi st y hn hJ=>?_)
  obtain⟨x,l⟩:=st
  replace y:x=(i:Int):=y
  subst y
  replace hJ:l=c.Items:=hJ
  subst hJ
  show Qo (DQ c.Items i c.Items) _
  unfold DQ
  refine T1 (λhc=>?_) (λ_=>T2 (Qy rfl))
  simp only[QV]at hc
  have i1:i<c.Items.length:=by omega
  have hx:=QW i1
  have hf:=h.f _ (Yp i1)
  rw[XQ,hx,Qg,NX (by omega),Qg,NX (by omega),Qg,NX (by omega),Qg,Qg]
  refine T2 (QX ⟨i1,QH i1 (by omega),?_⟩)
  show c.Items.set (i:Int).toNat _=c.Items
  rw[LX]
  exact List.ext_getElem? λj=>by
   rw[List.getElem?_set]
   split
   ·rename_i e;subst e;rw[hx]
   rfl
 obtain⟨q,q1,rfl⟩:=D
 rw[q1,Qg];rfl
def PV (n:Ql)(o:Qr):Prop:=(∃a,Kr n o=some (a,0))/\∃b,Ez n o=some (b,0)
structure WA (n:Ql) (c:QK):Prop where
 g:LD n c.M
 n1:1<=c.Next/\c.Next<=1099511627776
 n2:0<=c.Now/\c.Now<=1099511627776
 up:upF c.Next 0 c.Items=true
 len:c.Items.length<=64
 f:∀x∈c.Items,YR n x.Mode/\PV n x.Mode
def WA.lens {n:Ql}{c:QK}(h:Yl n)(y:WA n c):Qjz c:=by
 have hpl:=h.pl
 have hl:=y.len
 exact⟨by have:=y.g.1.1;omega,λb D=>by have:=(y.g.1.2 b D).2;omega,by omega,λx hx=>by have:=(y.f x hx).1;unfold YR at this;omega⟩
def Qkv {n:Ql}{x:Qu}(h:Yl n)(hm:YR n x.Mode):∃b,Bk x n=some b/\(b=false↔PV n x.Mode):=by
 obtain⟨⟨a,p⟩,h1,_⟩:=Zk n x.Mode h hm
 obtain⟨⟨b,q⟩,h2,_⟩:=Qgq n x.Mode h hm
 unfold Bk PV
 rw[h1,h2,Qg,Qg]
 refine⟨_,rfl,?_⟩
 simp only[KL,Kj]
 constructor
 ·rintro ⟨rfl,rfl⟩;exact⟨⟨a,rfl⟩,b,rfl⟩
 rintro ⟨⟨a',y⟩,b',D⟩
 simp only[Option.some.injEq,Prod.mk.injEq]at y D
 exact⟨y.2,D.2⟩
def QjB {n:Ql}(h:Yl n){l:L_ Qu}(hl:l.length<=maxLen)(hm:∀x∈l,YR n x.Mode):∃b,YI l n=some b/\(b=false↔∀x∈l,PV n x.Mode):=by
 unfold YI Ks
 have main:Qo (QO (λst=>YH l n st) 0) λq=>(∀r,q=.inl r->0<=r/\∃x∈l,¬PV n x.Mode)/\(q=.inr ()->∀x∈l,PV n x.Mode):=by
  refine Qo.up l.length (λst=>st) (λst=>∀(j:Nat) x,(j:Int)<st->l[j]? = some x->PV n x.Mode) rfl (λj x hj=>by omega) (λi st hi hn hJ=>?_)
  replace hi:st=(i:Int):=hi
  subst hi
  show Qo (YH l n i) _
  unfold YH
  refine T1 (λhc=>?_) (λhc=>T2 (Qy ⟨λr e=>(by cases e),λ_ x D=>?_⟩))
  ·simp only[QV]at hc
   have i1:i<l.length:=by omega
   have D:=QW i1
   obtain⟨b,hb,hb2⟩:=Qkv h (hm _ (Yp i1))
   rw[XQ,D,Qg,hb,Qg]
   cases b with
   | true=>exact T2 (Qy ⟨λr e=>by cases e;exact⟨by omega,_,Yp i1,λhB=>by have:=hb2.2 hB;cases this⟩,λe=>by cases e⟩)
   | false=>
    refine T2 (QX ⟨i1,QH i1 hl,λj x hj y=>?_⟩)
    rw[QH i1 hl]at hj
    by_cases cj:j=i
    ·subst cj;rw[D]at y;cases y;exact hb2.1 rfl
    exact hJ j x (by omega) y
  simp only[XG]at hc
  obtain⟨j,hj,rfl⟩:=Bh.1 D
  exact hJ j _ (by omega) (QW hj)
 obtain⟨q,q1,q2,q3⟩:=main
 rw[q1,Qg]
 rcases q with r | q
 ·obtain⟨h0,x,D,hB⟩:=q2 r rfl
  exact⟨true,by show some (decide (0<=r))=_;rw[QP h0],⟨λe=>(by cases e),λe=>absurd (e x D) hB⟩⟩
 exact⟨false,rfl,λ_=>q3 rfl,λ_=>rfl⟩
def QgQ {n:Ql}{c:QK}(h:Yl n)(y:WA n c):Wq n c=some true:=by
 have hL:=y.lens h
 have hi:=hL.i
 have mx:(1000:Nat)<=maxLen:=by decide
 obtain⟨b,b1,b2⟩:=QjB h (l:=c.Items) (by omega) λx D=>(y.f x D).1
 have hb:=b2.2 λx D=>(y.f x D).2
 subst hb
 have h1:=y.n1
 have h2:=y.n2
 have hlen:=y.len
 unfold Wq Pp
 rw[Qhf h y.g.1 (by omega) y.g.2,Qg,show(!true)=false from rfl,QR,QZ (by omega),QR,QZ (by omega),QR,QZ (by omega),QR,QZ (by omega),QR,
  Qly (by omega),Qg,y.up,QP (by omega)]
 show HW c n false=_
 unfold HW
 rw[QR,b1];rfl
def RB (b:Xi):Prop:=1<=b.Most/\b.Most<=16/\1<=b.Enough/\b.Enough<=b.Most/\0<=b.Open/\b.Open<=b.Most/\0<=b.Done/\b.Done<=b.Most/\0<=b.Failed/\b.Failed<=b.Most/\1<=b.Open+b.Done+b.Failed/\b.Open+b.Done+b.Failed<=b.Most
instance (b : Xi):Decidable (RB b):=Classical.propDecidable _
def Qil {b:Xi}(h:0<=b.Open/\b.Open<=16)(y:0<=b.Done/\b.Done<=16)(D:0<=b.Failed/\b.Failed<=16):Ft b=some (b.Open+b.Done+b.Failed):=by
 unfold Ft
 rw[Ja (n:=b.Open+b.Done) (by omega),Ja (by omega)]
def TM (b:Xi):Km b=some (decide (RB b)):=by
 unfold Km Mm
 simp only[LP,Qg]
 have hl:=QdU (body:=λst=>YX b st) (l:=[b.Open,b.Done,b.Failed]) (λi=>(i:Int)) (λ_ x=>!(decide (0<=x)&&decide (x<=b.Most))) (.inl ()) (.inr ()) (λi x hi hx=>by
    show YX b (i:Int)=_
    unfold YX
    rw[ltN hx,LC hx,QH hi (by show 3<=_;decide)]
    simp only[XE,Qg,LP]
    cases (!(decide (0<=x)&&decide (x<=b.Most)))<;>rfl) (by
    show YX b (([b.Open,b.Done,b.Failed].length:Nat):Int)=_
    unfold YX
    rw[ltE];rfl) (s0:=0) rfl
 have no:∀c,¬RB b->c=true->Ux b c=some (decide (RB b)):=λc h1 h2=>by subst h2;rw[QZ h1];rfl
 by_cases y:1<=b.Most/\b.Most<=16
 ·rw[QP y.1,QP y.2,show(!(true&&true))=false from rfl,QR,Qg]
  by_cases D:1<=b.Enough/\b.Enough<=b.Most
  ·rw[QP D.1,QP D.2,show(!(true&&true))=false from rfl]
   unfold Ux
   rw[QR,hl]
   have ha:Pb (λ(_:Nat) (x:Int)=>!(decide (0<=x)&&decide (x<=b.Most))) 0 [b.Open,b.Done,b.Failed]=!decide ((0<=b.Open/\b.Open<=b.Most)/\(0<=b.Done/\b.Done<=b.Most)/\(0<=b.Failed/\b.Failed<=b.Most)):=by
    simp only[Pb,Bool.or_false]
    rw[PC]
    simp only[Kw,KY,SM,XG]
    omega
   rw[ha]
   by_cases c3:(0<=b.Open/\b.Open<=b.Most)/\(0<=b.Done/\b.Done<=b.Most)/\(0<=b.Failed/\b.Failed<=b.Most)
   ·rw[QP c3]
    show CF b=_
    unfold CF
    rw[Qil (by omega) (by omega) (by omega),Qg,LP,Qg]
    congr 1
    rw[PC]
    simp only[QJ,QV]
    unfold RB
    constructor
    ·intro h;refine⟨?_,?_,?_,?_,?_,?_,?_,?_,?_,?_,?_,?_⟩<;>omega
    intro h;omega
   rw[QZ c3,QZ (λh:RB b=>c3 (by unfold RB at h;omega))];rfl
  exact no _ (λh=>D (by unfold RB at h;omega)) (by rw[KY,SM];simp only[XG];omega)
 have hb:(!(decide (1<=b.Most)&&decide (b.Most<=16)))=true:=by rw[KY,SM];simp only[XG];omega
 rw[hb]
 exact no _ (λh=>y (by unfold RB at h;omega)) rfl
def Qec (b:Xi):WF b=some (decide (RB b)&&(decide (b.Enough<=b.Done)||decide (b.Open=0))):=by
 unfold WF Nz NA
 rw[TM,Qg,LB]
 cases decide (RB b)<;>cases decide (b.Enough<=b.Done)<;>rfl
def Qb7 {b:Xi}:Ng b=true↔RB b/\b.Done<b.Enough/\b.Open≠0:=by
 unfold Ng
 rw[TM,Qec]
 simp only[PZ,QJ,QV,KY,SM,KL,XG]
 constructor
 ·rintro ⟨y,h⟩
  rcases h with h | h
  ·exact absurd y h
  exact⟨y,by omega,h.2⟩
 rintro ⟨y,h,D⟩;exact⟨y,.inr ⟨by omega,D⟩⟩
def Qkw {b:Xi}(hb:Ng b=true)(v:QF):∃e y,GL v b=some (e,y)/\(e=0->RB y)/\y.Most=b.Most:=by
 obtain⟨h1,h2,h3⟩:=Qb7.1 hb
 have h:∀w:Int,∃e y,Cc b w=some (e,y)/\(w<=2->0<=w->e=0->RB y)/\y.Most=b.Most:=λw=>by
  unfold Cc
  rw[TM,Qec,QP h1,Qg,Qg,QZ (by omega),QZ h3]
  show ∃e y,(bif w==0 then _ else _)=some (e,y)/\_
  unfold RB at h1
  by_cases w0:w=0
  ·rw[LB,QP w0,XE,Qil (by omega) (by omega) (by omega),Qg,LB]
   by_cases cm:b.Open+b.Done+b.Failed=b.Most
   ·rw[QP cm];exact⟨_,_,rfl,λ_ _ e=>(by cases e),rfl⟩
   rw[QZ cm,Ja (by omega)]
   exact⟨_,_,rfl,λ_ _ _=>by unfold RB;simp only;omega,rfl⟩
  rw[LB,QZ w0,QR,LB,LB]
  by_cases w1:w=1
  ·rw[QP w1,XE]
   unfold El Ek
   simp only
   rw[Ja (n:=b.Open-1) (by omega),Ja (n:=b.Done+1) (by omega),Ja (n:=b.Failed-1) (by omega),Ja (n:=b.Failed-1+1) (by omega)]
   exact⟨_,_,rfl,λ_ _ _=>by unfold RB;simp only;omega,rfl⟩
  rw[QZ w1,QR]
  by_cases w2:w=2
  ·rw[QP w2,XE]
   unfold El Ek
   rw[Ja (n:=b.Open-1) (by omega),Ja (n:=b.Failed+1) (by omega)]
   exact⟨_,_,rfl,λ_ _ _=>by unfold RB;simp only;omega,rfl⟩
  rw[QZ w2];exact⟨_,_,rfl,λu1 D _=>absurd D (by omega),rfl⟩
 unfold GL ZY Vh Vi
 obtain⟨e0,b0,s0,t0,u0⟩:=h 0
 obtain⟨e1,b1,s1,t1,u1⟩:=h 1
 obtain⟨e2,b2,s2,t2,D⟩:=h 2
 rw[s0,s1,s2]
 cases v.call.Do==4 with
 | true=>exact⟨_,_,rfl,t0 (by omega) (by omega),u0⟩
 | false=>
  cases v.call.Do==2 with
  | true=>exact⟨_,_,rfl,t1 (by omega) (by omega),u1⟩
  | false=>exact⟨_,_,rfl,t2 (by omega) (by omega),D⟩
def QlE (m:Int×Int×Int)(k:Int):∃e b,Mz m k=some (e,b)/\(e=0->Ng b=true):=by
 have k3:∀m:Int×Int×Int,∃e b,UD k m=some (e,b)/\(e=0->Ng b=true):=λm=>by
  unfold UD Tm CL
  simp only[LP,Qg]
  by_cases h:m.1<1
  ·rw[QP h];exact⟨_,_,rfl,λe=>by cases e⟩
  rw[QZ h,QR]
  by_cases y:m.1<=m.2.1/\m.2.1<=16
  ·rw[QP y.1,QP y.2,show(!(true&&true))=false from rfl,QR]
   by_cases D:1<=m.2.2/\m.2.2<=m.2.1
   ·rw[QP D.1,QP D.2,show(!(true&&true))=false from rfl,QR,Qg]
    by_cases c4:m.1<=k/\k<=m.2.1
    ·rw[QP c4.1,QP c4.2,show(!(true&&true))=false from rfl,QR]
     exact⟨_,_,rfl,λ_=>Qb7.2 (by unfold RB;simp only;omega)⟩
    have:(!(decide (m.1<=k)&&decide (k<=m.2.1)))=true:=by rw[KY,SM];simp only[XG];omega
    rw[this];exact⟨_,_,rfl,λe=>by cases e⟩
   have:(!(decide (1<=m.2.2)&&decide (m.2.2<=m.2.1)))=true:=by rw[KY,SM];simp only[XG];omega
   rw[this];exact⟨_,_,rfl,λe=>by cases e⟩
  have:(!(decide (m.1<=m.2.1)&&decide (m.2.1<=16)))=true:=by rw[KY,SM];simp only[XG];omega
  rw[this];exact⟨_,_,rfl,λe=>by cases e⟩
 unfold Mz
 cases ((m.1==0)&&((m.2.1==0)&&(m.2.2==0)))with
 | true=>exact k3 _
 | false=>exact k3 _
def QlF {n:Ql}{m:L_ Bag}{o:Qr}{a:L_ Bag}(h:Yl n)(hm:Xf (Xf λ_=>True) m)(ho:YR n o)(hc:Jt n m o=some 0)(ha:Kr n o=some (a,0)):PV n o/\∃e,idx n.Tasks o.Task=some e/\e∈n.Tasks:=by
 obtain⟨_,e,he,_,_,_,b,y,_,_,D⟩:=Qb4.1 ((QgK h hm ho).1 hc)
 obtain⟨k1,k2,_⟩:=PU h y
 rw[he]at k1;cases k1
 refine⟨⟨⟨a,ha⟩,?_⟩,_,he,k2⟩
 unfold Js at y
 obtain⟨⟨x1,x2⟩,hx,y⟩:=Qm y
 rcases Xq y with⟨c,y⟩|⟨c,y⟩
 ·simp only[Option.some.injEq,Prod.mk.injEq]at y
  simp only[y.1]at c;cases c
 simp only[Kj]at c
 subst c
 rw[he,Qg]at y
 simp only[Option.some.injEq,Prod.mk.injEq,true_and]at y
 unfold XY at D
 obtain⟨⟨y1,y2⟩,hy,D⟩:=Qm D
 simp only[Option.some.injEq]at D
 subst D
 refine⟨y1,?_⟩
 unfold Ez
 rw[hx,Qg,show((0:Int) != 0)=false from rfl,QR,he,Qg]
 rw[<-y]at hy
 simp only at hy
 rw[hy];rfl
def QiD {n:Ql}{m:L_ Bag}{o:Qr}(h:Yl n)(hm:Xf (Xf λ_=>True) m)(ho:YR n o)(hc:Jt n m o=some 0):∃e,idx n.Tasks o.Task=some e/\e∈n.Tasks:=by
 obtain⟨_,e,y,_,_,_,b,hb,_⟩:=Qb4.1 ((QgK h hm ho).1 hc)
 obtain⟨D,k2,_⟩:=PU h hb
 rw[y]at D;cases D
 exact⟨_,y,k2⟩
structure EOk (n:Ql):Prop where
 h:Yl n
 a:∀t∈n.Tasks,0<=t.After/\t.After<=65536
 j:∀t∈n.Tasks,t.Join≠3
def QiO (l:L_ Qu)(id:Int):(dropL l id).length<=l.length:=Qcb _ _
def Qcs {l:L_ Qu}(x:Qu):(Pf l x).length=(dropL l x.Id).length+1:=Qig x _
def WA.drop {n:Ql}{c:QK}(h:WA n c){M:L_ Bag}(D:LD n M)(id:Int):WA n ⟨M,dropL c.Items id,c.Next,c.Now⟩:=by
 obtain⟨u1,u2⟩:=HH.1 h.up
 refine⟨D,h.n1,h.n2,HH.2 ⟨u1.drop id,λx y=>u2 x (FP.1 y).1⟩,?_,λx y=>h.f x (FP.1 y).1⟩
 have:=QiO c.Items id
 have:=h.len
 show(dropL c.Items id).length<=64
 omega
def WA.put {n:Ql}{c:QK}(D:WA n c){M:L_ Bag}(hM:LD n M){x:Qu}{nx:Int}(h1:c.Next<=nx)(h2:nx<=1099511627776)(hx:0<x.Id/\x.Id<nx/\0<=x.Until/\Ng x.Batch=true)(hm:YR n x.Mode/\PV n x.Mode)(hl:(Pf c.Items x).length<=64):WA n ⟨M,Pf c.Items x,nx,c.Now⟩:=by
 obtain⟨u1,u2⟩:=HH.1 D.up
 have n1:=D.n1
 refine⟨hM,⟨by show 1<=nx;omega,h2⟩,D.n2,HH.2 ⟨u1.put x,λy h=>?_⟩,hl,λy h=>?_⟩
 ·rcases Zl.1 h with rfl | ⟨h,_⟩
  ·exact hx
  have:=u2 y h
  exact⟨this.1,by show y.Id<nx;omega,this.2.2⟩
 rcases Zl.1 h with rfl | ⟨h,_⟩
 ·exact hm
 exact D.f y h
def WA.fit {n:Ql}{c:QK}(h:Yl n)(y:WA n c):∀x∈c.Items,Sq x:=(y.lens h).fit
def OL {n:Ql}{c:QK}(h:WA n c):c.Items.length<=maxLen:=by
 have:=h.len
 have mx:(64:Nat)<=maxLen:=by decide
 omega
def QiP {n:Ql}{c:QK}(hc:WA n c)(k:Xy):∃e x,DS ⟨n,c,k⟩=some (e,x)/\((e=0/\x∈c.Items/\x.Id=k.Id)\/(e≠0/\(∀y∈c.Items,y.Id≠k.Id)/\(0<k.Id->k.Id<c.Next->e=12))):=by
 have hm:=OL hc
 unfold DS
 by_cases hx:∃x∈c.Items,x.Id=k.Id
 ·obtain⟨x,hx,he⟩:=hx
  obtain⟨i,y,h1,h2,h3⟩:=Qb6 hm hx he
  show ∃e x,((JO c.Items k.Id).bind _)=_/\_
  rw[h1,Qg,QP (by omega),XE,XQ,h2]
  exact⟨0,y,rfl,.inl ⟨rfl,XP h2,h3⟩⟩
 have D:∀y∈c.Items,y.Id≠k.Id:=λy hy e=>hx ⟨y,hy,e⟩
 show ∃e x,((JO c.Items k.Id).bind _)=_/\_
 rw[QgO hm D,Qg,QZ (by omega),QR]
 by_cases c1:0<k.Id
 ·by_cases c2:k.Id<c.Next
  ·simp only[QP c1,QP c2]
   exact⟨12,_,rfl,.inr ⟨by omega,D,λ_ _=>rfl⟩⟩
  simp only[QP c1,QZ c2]
  exact⟨3,_,rfl,.inr ⟨by omega,D,λ_ h=>absurd h c2⟩⟩
 simp only[QZ c1]
 exact⟨3,_,rfl,.inr ⟨by omega,D,λh=>absurd h c1⟩⟩
def Qkx {n:Ql}{c:QK}(h:Yl n)(y:WA n c)(k:Xy){p:Qu}(hp:YR n p.Mode):∃e v,UC ⟨n,c,k⟩ p=some (e,v)/\(e=0->∃M,Eg n c.M p.Mode=some (M,0)/\LD n M/\v=⟨n,⟨M,dropL c.Items p.Id,c.Next,c.Now⟩,k⟩):=by
 obtain⟨⟨M,e⟩,hG,hg⟩:=Qkt h y.g hp
 have hl:=y.len
 unfold UC
 simp only
 rw[hG,Qg,Cy]
 by_cases D:e=0
 ·subst D
  rw[QP rfl,show(!true)=false from rfl,QR,Qgs (y.fit h) (by omega) (OL y)]
  exact⟨0,_,rfl,λ_=>⟨M,rfl,hg rfl,rfl⟩⟩
 simp only[QZ D]
 exact⟨e,_,rfl,λh=>absurd h D⟩
def Qb8 {n:Ql}{c:QK}(h:Yl n)(y:WA n c)(k:Xy){p:Qu}(hp:YR n p.Mode):∃e v,Kg ⟨n,c,k⟩ p=some (e,v)/\(e=0->∃M,Cd n c.M p.Mode=some (M,0)/\LD n M/\v=⟨n,⟨M,dropL c.Items p.Id,c.Next,c.Now⟩,k⟩):=by
 obtain⟨⟨M,e⟩,hG,hg⟩:=Qku h y.g hp
 have hl:=y.len
 unfold Kg
 simp only
 rw[hG,Qg,Cy]
 by_cases D:e=0
 ·subst D
  rw[QP rfl,show(!true)=false from rfl,QR,Qgs (y.fit h) (by omega) (OL y)]
  exact⟨0,_,rfl,λ_=>⟨M,rfl,hg rfl,rfl⟩⟩
 simp only[QZ D]
 exact⟨e,_,rfl,λh=>absurd h D⟩
inductive Eff (n:Ql) (c:QK) (k:Xy):QK->QA->Prop
 | start (x:Qu) (e:QT) (need M:List Bag) (hd:k.Do=1) (hx:x.Id=c.Next) (hm:x.Mode=k.Mode) (he:idx n.Tasks k.Mode.Task=some e) (hu:x.Until=if 0<e.After then c.Now+e.After else 0) (hN:Kr n k.Mode=some (need,0)) (hT:JH c.M need=some (M,0)):Eff n c k ⟨M,Pf c.Items x,c.Next+1,c.Now⟩ ⟨0,x.Id,[]⟩
 | keep (x y:Qu) (hd:k.Do≠1) (hy:y∈c.Items) (hx:x.Id=y.Id):Eff n c k ⟨c.M,Pf c.Items x,c.Next,c.Now⟩ ⟨0,x.Id,[]⟩
 | shut (y:Qu) (M:List Bag) (hd:k.Do≠1) (hy:y∈c.Items) (hB:k.Do=5->Cd n c.M y.Mode=some (M,0)) (hk:y.Id=k.Id):Eff n c k ⟨M,dropL c.Items y.Id,c.Next,c.Now⟩ ⟨0,y.Id,[y.Id]⟩
 | tick (ds:List Int) (M:List Bag) (hd:k.Do=6) (hn:ds.Nodup) (hi:∀d∈ds,∃x∈c.Items,x.Id=d) (hD:Ce c.Items (c.Now+1)=some ds):Eff n c k ⟨M,ds.foldl dropL c.Items,c.Next,c.Now+1⟩ ⟨0,0,ds⟩
def QiE {n:Ql}{c:QK}(h:Yl n)(hc:WA n c)(k:Xy)(hd:k.Do≠1)(hd5:k.Do≠5):∃e a v,DD ⟨n,c,k⟩=some (e,a,v)/\(e=0->WA n v.now/\Eff n c k v.now a)/\((∀y∈c.Items,y.Id≠k.Id)->0<k.Id->k.Id<c.Next->e=12):=by
 obtain⟨e,x,hf,hx⟩:=QiP hc k
 have hl:=hc.len
 unfold DD
 rw[hf,Qg]
 rcases hx with⟨rfl,hx,hi⟩|⟨h0,D,h12⟩
 ·obtain⟨u1,u2⟩:=HH.1 hc.up
  have hxx:=u2 x hx
  obtain⟨e,b,hb,hr,_⟩:=Qkw hxx.2.2.2 ⟨n,c,k⟩
  obtain⟨m1,m2⟩:=hc.f x hx
  rw[show((0:Int)==0)=true from rfl,XE,hb,Qg]
  have n12:∀{q:Prop},(∀y∈c.Items,y.Id≠k.Id)->q:=λD=>absurd hi (D x hx)
  show ∃e' a v,Jd ⟨n,c,k⟩ e ⟨x.Id,x.Mode,b,x.Until⟩=_/\_
  unfold Jd
  rw[Cy]
  by_cases c0:e=0
  ·rw[QP c0,show(!true)=false from rfl,QR]
   simp only
   rw[Qec,Qg,QP (hr c0)]
   have hB:=hr c0
   by_cases c1:b.Enough<=b.Done\/b.Open=0
   ·have:(true&&(decide (b.Enough<=b.Done)||decide (b.Open=0)))=true:=by
     rcases c1 with c1 | c1
     ·rw[QP c1];rfl
     rw[QP c1,Bool.or_true];rfl
    rw[this,show(!true)=false from rfl,QR]
    have hw:∃w,Ou b=some w:=by
     unfold Ou VR VS
     rw[TM]
     cases decide (RB b)<;>exact⟨_,rfl⟩
    obtain⟨w,hw⟩:=hw
    rw[hw,Qg]
    cases w with
    | true=>
     obtain⟨e2,v,hv,hv0⟩:=Qkx h hc k (p:=⟨x.Id,x.Mode,b,x.Until⟩) m1
     rw[XE,hv]
     refine⟨_,_,_,rfl,λhz=>?_,λD=>n12 D⟩
     obtain⟨M,g1,g2,rfl⟩:=hv0 hz
     exact⟨hc.drop g2 _,.shut x M hd hx (λh=>absurd h hd5) hi⟩
    | false=>
     obtain⟨e2,v,hv,hv0⟩:=Qb8 h hc k (p:=⟨x.Id,x.Mode,b,x.Until⟩) m1
     rw[QR,hv]
     refine⟨_,_,_,rfl,λhz=>?_,λD=>n12 D⟩
     obtain⟨M,g1,g2,rfl⟩:=hv0 hz
     exact⟨hc.drop g2 _,.shut x M hd hx (λh=>absurd h hd5) hi⟩
   have:(true&&(decide (b.Enough<=b.Done)||decide (b.Open=0)))=false:=by
    rw[QZ (λh=>c1 (.inl h)),QZ (λh=>c1 (.inr h))];rfl
   have hg:Ng b=true:=Qb7.2 ⟨hB,by omega,λh=>c1 (.inr h)⟩
   have hF:=hc.fit h x hx
   rw[this,show(!false)=true from rfl,XE,Qkq (hc.fit h) (x:=⟨x.Id,x.Mode,b,x.Until⟩) hF (by omega) (OL hc)]
   refine⟨_,_,_,rfl,λ_=>⟨?_,.keep ⟨x.Id,x.Mode,b,x.Until⟩ x hd hx rfl⟩,λD=>n12 D⟩
   refine hc.put hc.g (x:=⟨x.Id,x.Mode,b,x.Until⟩) (Int.le_refl _) hc.n1.2 ⟨hxx.1,hxx.2.1,hxx.2.2.1,hg⟩ ⟨m1,m2⟩ ?_
   have:=Ss u1 hx
   have:=Qcs (l:=c.Items) ⟨x.Id,x.Mode,b,x.Until⟩
   simp only at this
   omega
  simp only[QZ c0]
  exact⟨e,_,_,rfl,λh=>absurd h c0,λD=>n12 D⟩
 rw[LB,QZ h0,QR]
 unfold Jd
 rw[Cy,QZ h0]
 exact⟨e,_,_,rfl,λh=>absurd h h0,λ_=>h12⟩
def Qky {n:Ql}{c:QK}(h:Yl n)(hc:WA n c)(k:Xy)(hd:k.Do=5):∃e a v,GP ⟨n,c,k⟩=some (e,a,v)/\(e=0->WA n v.now/\Eff n c k v.now a)/\((∀y∈c.Items,y.Id≠k.Id)->0<k.Id->k.Id<c.Next->e=12):=by
 obtain⟨e,x,hf,hx⟩:=QiP hc k
 unfold GP
 rw[hf,Qg,Cy]
 rcases hx with⟨rfl,hx,hi⟩|⟨h0,D,h12⟩
 ·obtain⟨m1,m2⟩:=hc.f x hx
  obtain⟨e2,v,hv,hv0⟩:=Qb8 h hc k (p:=x) m1
  rw[QP rfl,show(!true)=false from rfl,QR,hv]
  refine⟨_,_,_,rfl,λhz=>?_,λD=>absurd hi (D x hx)⟩
  obtain⟨M,g1,g2,rfl⟩:=hv0 hz
  exact⟨hc.drop g2 _,.shut x M (by omega) hx (λ_=>g1) hi⟩
 simp only[QZ h0]
 exact⟨e,_,_,rfl,λh=>absurd h h0,λ_=>h12⟩
def Qkz {n:Ql}{c:QK}(H:EOk n)(y:WA n c)(k:Xy)(D:YR n k.Mode)(hd:k.Do=1):∃e a v,EQ ⟨n,c,k⟩=some (e,a,v)/\(e=0->WA n v.now/\Eff n c k v.now a):=by
 have h:=H.h
 have hl:=y.len
 have n1:=y.n1
 have n2:=y.n2
 obtain⟨r,hr,_⟩:=QiM n c.M k.Mode h (y.g.1.len h (by decide)) D
 unfold EQ
 simp only
 rw[hr,Qg,Cy]
 by_cases c0:r=0
 case neg=>
  simp only[QZ c0]
  exact⟨r,_,_,rfl,λh=>absurd h c0⟩
 subst c0
 rw[QP rfl,show(!true)=false from rfl,QR]
 obtain⟨⟨M,e⟩,hT,hG⟩:=Qks h y.g D
 obtain⟨⟨need,e2⟩,hN,_⟩:=Zk n k.Mode h D
 obtain⟨t,ht,htm⟩:=QiD h (y.g.1.len h (by decide)) D hr
 have hR:AQ n c.M k.Mode 64=some 1:=by
  unfold AQ
  rw[hr,Qg,show((0:Int) != 0)=false from rfl,QR,ht,Qg,Cy,QZ (H.j t htm)];rfl
 rw[hR,Qg,show((1:Int) != 1)=false from rfl,QR,ht,Qg]
 obtain⟨q,b,hb,hb0⟩:=QlE t.Many k.Num
 rw[hb,Qg,Cy]
 by_cases c1:q=0
 case neg=>
  simp only[QZ c1]
  exact⟨q,_,_,rfl,λh=>absurd h c1⟩
 subst c1
 have hgb:=hb0 rfl
 rw[QP rfl,show(!true)=false from rfl,QR]
 by_cases c2:64<=(c.Items.length:Int)
 ·rw[QP c2];exact⟨2,_,_,rfl,λh=>by cases h⟩
 rw[QZ c2,QR,LB]
 by_cases c3:c.Next=1099511627776
 ·rw[QP c3];exact⟨1,_,_,rfl,λh=>by cases h⟩
 rw[QZ c3,QR]
 have hA:=H.a t htm
 obtain⟨u1,u2⟩:=HH.1 y.up
 have k1:∀u:Int,0<=u->(u=if 0<t.After then c.Now+t.After else 0)->∃e a v,KU ⟨n,c,k⟩ ⟨c.Next,k.Mode,b,u⟩=some (e,a,v)/\(e=0->WA n v.now/\Eff n c k v.now a):=λu hu he=>by
  unfold KU
  simp only
  rw[hT,Qg,Cy]
  by_cases c4:e=0
  ·subst c4
   obtain⟨g1,g2,need',g3,g4⟩:=hG rfl
   have hF:Sq (⟨c.Next,k.Mode,b,u⟩:Qu):=by have:=D;unfold YR at this;unfold Sq;simp only;omega
   rw[QP rfl,show(!true)=false from rfl,QR,Qkq (y.fit h) hF (by omega) (OL y),Ja (by omega)]
   refine⟨_,_,_,rfl,λ_=>⟨?_,.start ⟨c.Next,k.Mode,b,u⟩ t need' M hd rfl rfl ht he g3 g4⟩⟩
   refine y.put g1 (by omega) (by omega) (x:=⟨c.Next,k.Mode,b,u⟩) ⟨by show 0<c.Next;omega,by show c.Next<c.Next+1;omega,hu,hgb⟩ ⟨D,(QlF h (y.g.1.len h (by decide)) D g2 g3).1⟩ ?_
   have:=Qcs (l:=c.Items) ⟨c.Next,k.Mode,b,u⟩
   have:=QiO c.Items c.Next
   simp only at *
   omega
  simp only[QZ c4]
  exact⟨e,_,_,rfl,λh=>absurd h c4⟩
 by_cases c5:0<t.After
 ·rw[QP c5,XE,Ja (by omega)]
  exact k1 _ (by omega) (by rw[if_pos c5])
 rw[QZ c5,QR]
 exact k1 _ (by omega) (by rw[if_neg c5])
def Qim {L:L_ Qu}(hu:Up L):∀i,i<=L.length->IG L i=((L.take i).filter λx=>decide (0<x.Until)).map λx=>(x.Until,x.Id)
 | 0,_=>by simp[IG]
 | i+1,hi=>by
  have hx:L[i]? = some L[i]:=QW (by omega)
  have D:∀y∈L.take i,y.Id≠L[i].Id:=λy hy e=>by
   obtain⟨j,hj,rfl⟩:=Bh.1 hy
   rw[WV]at hj
   rw[List.getElem_take]at e
   have:=List.pairwise_iff_getElem.1 hu j i (by omega) (by omega) (by omega)
   omega
  rw[IG,hx,Qim hu i (by omega),Oj,hx]
  simp only[Option.toList_some,List.filter_append,List.map_append]
  by_cases c:0<L[i].Until
  ·rw[if_pos ⟨D,c⟩];simp[c]
  rw[if_neg λh=>c h.2];simp[c]
open Classical in
def Qed {now:Int}:∀{S:L_ Ky},Srt S->∀s,s∈S.takeWhile (λs=>decide (s.1<=now))↔s∈S/\s.1<=now
 | [],_,s=>by simp
 | a::S,D,s=>by
  have y:=CC.1 D
  rw[List.takeWhile_cons]
  by_cases c:a.1<=now
  ·rw[if_pos (QP c),XO,XO,Qed y.2]
   constructor
   ·rintro (rfl | ⟨h,k⟩)
    ·exact⟨.inl rfl,c⟩
    exact⟨.inr h,k⟩
   rintro ⟨rfl | h,k⟩
   ·exact .inl rfl
   exact .inr ⟨h,k⟩
  rw[if_neg (by simpa using c)]
  constructor
  ·intro h;cases h
  rintro ⟨h,k⟩
  rcases XO.1 h with rfl | h
  ·exact absurd k c
  have:=y.1 s h
  unfold KO LQ at this
  omega
open Classical in
def Qnp {L:L_ Qu}(hu:Up L)(hL:L.length<=80)(now:Int):∃ds,Ce L now=some ds/\ds.Nodup/\(∀d,d∈ds↔∃x∈L,x.Id=d/\0<x.Until/\x.Until<=now)/\ds.length<=L.length:=by
 have hS:Srt ((IG L L.length).mergeSort λa b=>decide (KO a b)):=by
  have:=List.pairwise_mergeSort (le:=λa b:Ky=>decide (KO a b)) (λa b c h k=>QP ((XB h).trans (XB k))) (λa b=>by
   by_cases h:KO a b
   ·rw[QP h];rfl
   rw[QP (KO.tot h),Bool.or_true]) (IG L L.length)
  exact this.imp λh=>XB h
 have hp:=List.mergeSort_perm (IG L L.length) λa b=>decide (KO a b)
 refine⟨_,Qkr hL hS hp,?_,λd=>?_,?_⟩
 rotate_left 2
 ·unfold Qea
  rw[FR]
  have h1:=(List.takeWhile_sublist (λs:Ky=>decide (s.1<=now)) (l:=(IG L L.length).mergeSort λa b=>decide (KO a b))).length_le
  have h2:=hp.length_eq
  have h3:=Qcr L L.length
  omega
 ·have y:=Qim hu L.length (YV _)
  rw[Mb]at y
  have hn:((IG L L.length).map Prod.snd).Nodup:=by
   rw[y,Oh]
   have:(L.map λx=>x.Id).Nodup:=by
    rw[List.nodup_iff_pairwise_ne,PF]
    exact(show List.Pairwise (λa b:Qu=>a.Id<b.Id) L from hu).imp λh=>by omega
   exact this.sublist (List.Sublist.map _ List.filter_sublist)
  exact((hp.map Prod.snd).nodup_iff.2 hn).sublist ((List.takeWhile_sublist _).map _)
 unfold Qea
 rw[Ye]
 have y:=Qim hu L.length (YV _)
 rw[Mb]at y
 constructor
 ·rintro ⟨s,hs,rfl⟩
  obtain⟨h1,h2⟩:=(Qed hS s).1 hs
  have h3:=hp.mem_iff.1 h1
  rw[y,Ye]at h3
  obtain⟨x,D,rfl⟩:=h3
  rw[FT]at D
  exact⟨x,D.1,rfl,XB D.2,h2⟩
 rintro ⟨x,D,rfl,h1,h2⟩
 refine⟨(x.Until,x.Id),(Qed hS _).2 ⟨hp.mem_iff.2 ?_,h2⟩,rfl⟩
 rw[y,Ye]
 exact⟨x,FT.2 ⟨D,QP h1⟩,rfl⟩
def TN {x:Qu}:∀{ds:LI_} {l:L_ Qu},x∈ds.foldl dropL l↔x∈l/\x.Id ∉ ds
 | [],l=>by simp
 | d::ds,l=>by
  rw[List.foldl_cons,TN,FP,XO,not_or]
  exact⟨λh=>⟨h.1.1,h.1.2,h.2⟩,λh=>⟨⟨h.1,h.2.1⟩,h.2.2⟩⟩
def Qmu {n:Ql}{c:QK}(h:Yl n)(hc:WA n c)(k:Xy)(hd:k.Do=6):∃e a v,UE ⟨n,c,k⟩=some (e,a,v)/\(e=0->WA n v.now/\Eff n c k v.now a):=by
 have hl:=hc.len
 have n2:=hc.n2
 have mx:(80:Nat)<=maxLen:=by decide
 obtain⟨u1,u2⟩:=HH.1 hc.up
 unfold UE
 simp only
 rw[LB]
 by_cases c1:c.Now=1099511627776
 ·rw[QP c1];exact⟨1,_,_,rfl,λh=>by cases h⟩
 rw[QZ c1,QR,Ja (by omega)]
 obtain⟨ds,hds,hn,hi,hdl⟩:=Qnp u1 (by omega) (c.Now+1)
 rw[hds,Qg]
 have hc1:WA n ⟨c.M,c.Items,c.Next,c.Now+1⟩:=⟨hc.g,hc.n1,⟨by show 0<=c.Now+1;omega,by show c.Now+1<=_;omega⟩,hc.up,hc.len,hc.f⟩
 have main:Qo (QO (λst=>Ws ds st.1 st.2) (0,(⟨n,⟨c.M,c.Items,c.Next,c.Now+1⟩,k⟩:QF))) λq=>(∀r,q=.inl r->r.1≠0)/\(∀r,q=.inr r->∃M,r=⟨n,⟨M,ds.foldl dropL c.Items,c.Next,c.Now+1⟩,k⟩/\WA n r.now):=by
  refine Qo.up ds.length (λst:Int×QF=>st.1) (λst:Int×QF=>∃M,WA n ⟨M,(ds.take st.1.toNat).foldl dropL c.Items,c.Next,c.Now+1⟩/\st.2=⟨n,⟨M,(ds.take st.1.toNat).foldl dropL c.Items,c.Next,c.Now+1⟩,k⟩) rfl ⟨c.M,hc1,rfl⟩ (λi st hi2 hn2 hJ=>?_)
  obtain⟨j,v⟩:=st
  replace hi2:j=(i:Int):=hi2
  subst hi2
  obtain⟨M,D,hv⟩:=hJ
  replace hv:v=⟨n,⟨M,(ds.take i).foldl dropL c.Items,c.Next,c.Now+1⟩,k⟩:=hv
  replace D:WA n ⟨M,(ds.take i).foldl dropL c.Items,c.Next,c.Now+1⟩:=D
  subst hv
  show Qo (Ws ds i ⟨n,⟨M,(ds.take i).foldl dropL c.Items,c.Next,c.Now+1⟩,k⟩) _
  unfold Ws
  refine T1 (λhlt=>?_) (λhlt=>T2 (Qy ⟨λr e=>(by cases e),λr e=>?_⟩))
  ·simp only[QV]at hlt
   have i1:i<ds.length:=by omega
   have hx:=QW i1
   obtain⟨x,x1,x2,_⟩:=(hi ds[i]).1 (Yp i1)
   have x3:x∈(ds.take i).foldl dropL c.Items:=TN.2 ⟨x1,λhm=>by
    rw[x2]at hm
    obtain⟨j,hj,e⟩:=Bh.1 hm
    rw[WV]at hj
    rw[List.getElem_take]at e
    exact absurd e ((List.pairwise_iff_getElem.1 (List.nodup_iff_pairwise_ne.1 hn)) j i (by omega) i1 (by omega))⟩
   obtain⟨p,y,f1,f2,f3⟩:=Qb6 (OL D) x3 x2
   simp only
   rw[XQ,hx,Qg]
   show Qo ((JO ((ds.take i).foldl dropL c.Items) ds[i]).bind _) _
   rw[f1,Qg,XQ,f2,Qg]
   obtain⟨m1,m2⟩:=D.f y (XP f2)
   obtain⟨e,v,hv,hv0⟩:=Qb8 h D k (p:=y) m1
   rw[hv,Qg]
   refine T1 (λhz=>T2 (Qy ⟨λr e=>by cases e;simpa using hz,λr e=>by cases e⟩)) (λhz=>?_)
   simp only[Kj]at hz
   obtain⟨M',g1,g2,rfl⟩:=hv0 hz
   have e1:(ds.take (i+1)).foldl dropL c.Items=dropL ((ds.take i).foldl dropL c.Items) y.Id:=by
    rw[Oj,hx,List.foldl_append,f3];rfl
   refine T2 (QX ⟨i1,QH i1 (by omega),?_⟩)
   rw[QH i1 (by omega)]
   refine⟨M',?_,?_⟩
   ·show WA n ⟨M',(ds.take (i+1)).foldl dropL c.Items,c.Next,c.Now+1⟩
    rw[e1];exact D.drop g2 _
   show(⟨n,_,k⟩:QF)=⟨n,⟨M',(ds.take (i+1)).foldl dropL c.Items,c.Next,c.Now+1⟩,k⟩
   rw[e1]
  simp only[XG]at hlt
  have:ds.take i=ds:=CD (by omega)
  rw[this]at D e
  cases e
  exact⟨M,rfl,D⟩
 obtain⟨q,q1,q2,q3⟩:=main
 rw[q1,Qg]
 rcases q with r | r
 ·have:=q2 r rfl
  exact⟨r.1,_,_,rfl,λh=>absurd h this⟩
 obtain⟨M,rfl,D⟩:=q3 r rfl
 exact⟨0,_,_,rfl,λ_=>⟨D,.tick ds M hd hn (λd hd=>by obtain⟨x,h1,h2,_⟩:=(hi d).1 hd;exact⟨x,h1,h2⟩) hds⟩⟩
def QlQ {n:Ql}{c:QK}(H:EOk n)(hc:WA n c)(k:Xy)(hk:YR n k.Mode):∃c' a,Cf n c k=some (c',a)/\WA n c'/\((a.Err≠0/\c'=c/\a.Id=0/\a.Closed=[])\/Eff n c k c' a)/\(2<=k.Do->k.Do<=5->(∀y∈c.Items,y.Id≠k.Id)->0<k.Id->k.Id<c.Next->a.Err=12):=by
 have h:=H.h
 have hL:=QjA (hc.lens h)
 have hR:=QgQ h hc
 unfold Cf
 rw[hL,Qg]
 unfold Fs Wn
 simp only[LB]
 have ins:k.Do≠1->k.Do≠5->∃c' a,Hm n c c k ()=some (c',a)/\WA n c'/\((a.Err≠0/\c'=c/\a.Id=0/\a.Closed=[])\/Eff n c k c' a)/\(2<=k.Do->k.Do<=5->(∀y∈c.Items,y.Id≠k.Id)->0<k.Id->k.Id<c.Next->a.Err=12):=λhd hd5=>by
  obtain⟨e,a,v,h1,h2,h3⟩:=QiE h hc k hd hd5
  unfold Hm
  rw[hR,Qg,show(!true)=false from rfl,QR,h1,Qg,Cy]
  by_cases D:e=0
  ·rw[QP D]
   obtain⟨g1,g2⟩:=h2 D
   refine⟨_,_,rfl,g1,.inr g2,λ_ _ x1 x2 x3=>?_⟩
   have:=h3 x1 x2 x3
   omega
  simp only[QZ D]
  rw[show(!false)=true from rfl,XE,hL]
  exact⟨c,_,rfl,hc,.inl ⟨D,rfl,rfl,rfl⟩,λ_ _=>h3⟩
 by_cases d1:k.Do=1
 ·rw[QP d1]
  show ∃c' a,Hn n c c k ()=_/\_
  obtain⟨e,a,v,h1,h2⟩:=Qkz H hc k hk d1
  unfold Hn
  rw[hR,Qg,show(!true)=false from rfl,QR,h1,Qg,Cy]
  by_cases D:e=0
  ·rw[QP D]
   obtain⟨g1,g2⟩:=h2 D
   exact⟨_,_,rfl,g1,.inr g2,λhh=>absurd hh (by omega)⟩
  simp only[QZ D]
  rw[show(!false)=true from rfl,XE,hL]
  exact⟨c,_,rfl,hc,.inl ⟨D,rfl,rfl,rfl⟩,λhh=>absurd hh (by omega)⟩
 rw[QZ d1,QR]
 by_cases d2:k.Do=2
 ·rw[QP d2];exact ins d1 (by omega)
 rw[QZ d2,QR]
 by_cases d3:k.Do=3
 ·rw[QP d3];exact ins d1 (by omega)
 rw[QZ d3,QR]
 by_cases d4:k.Do=4
 ·rw[QP d4];exact ins d1 (by omega)
 rw[QZ d4,QR]
 by_cases d5:k.Do=5
 ·rw[QP d5]
  show ∃c' a,Ho n c c k ()=_/\_
  obtain⟨e,a,v,h1,h2,h3⟩:=Qky h hc k d5
  unfold Ho
  rw[hR,Qg,show(!true)=false from rfl,QR,h1,Qg,Cy]
  by_cases D:e=0
  ·rw[QP D]
   obtain⟨g1,g2⟩:=h2 D
   refine⟨_,_,rfl,g1,.inr g2,λ_ _ x1 x2 x3=>?_⟩
   have:=h3 x1 x2 x3
   omega
  simp only[QZ D]
  rw[show(!false)=true from rfl,XE,hL]
  exact⟨c,_,rfl,hc,.inl ⟨D,rfl,rfl,rfl⟩,λ_ _=>h3⟩
 rw[QZ d5,QR]
 by_cases d6:k.Do=6
 ·rw[QP d6]
  show ∃c' a,Hp n c c k ()=_/\_
  obtain⟨e,a,v,h1,h2⟩:=Qmu h hc k d6
  unfold Hp
  rw[hR,Qg,show(!true)=false from rfl,QR,h1,Qg,Cy]
  by_cases D:e=0
  ·rw[QP D]
   obtain⟨g1,g2⟩:=h2 D
   exact⟨_,_,rfl,g1,.inr g2,λ_ hh=>absurd hh (by omega)⟩
  simp only[QZ D]
  rw[show(!false)=true from rfl,XE,hL]
  exact⟨c,_,rfl,hc,.inl ⟨D,rfl,rfl,rfl⟩,λ_ hh=>absurd hh (by omega)⟩
 rw[QZ d6,QR]
 show ∃c' a,Hq c ()=_/\_
 unfold Hq
 rw[hL]
 exact⟨c,_,rfl,hc,.inl ⟨by show(1:Int)≠0;omega,rfl,rfl,rfl⟩,λh1 h2=>by omega⟩
def Qmv : OY=some true:=by kernel_rfl
def QjC (n1:Ql)(k2:Int)(h:JT n1 k2=some 0):∃t,idx n1.Tasks k2=some t/\Wc t=some true:=by
 unfold JT at h
 obtain⟨x5,_,h⟩:=Qm h
 rcases Xq h with⟨_,h⟩|⟨_,h⟩
 ·cases h
 obtain⟨x7,_,h⟩:=Qm h
 rcases Xq h with⟨c,h⟩|⟨_,h⟩
 ·simp only[Option.some.injEq]at h;rw[h]at c;cases c
 obtain⟨e9,he9,h⟩:=Qm h
 obtain⟨e10,he10,h⟩:=Qm h
 rw[he9]at he10;cases he10
 obtain⟨_,_,h⟩:=Qm h
 obtain⟨_,_,h⟩:=Qm h
 obtain⟨_,_,h⟩:=Qm h
 obtain⟨_,_,h⟩:=Qm h
 obtain⟨x15,D,h⟩:=Qm h
 have bad:∀a b:Int,(a=-1->b≠0)->(a≠-1->a≠0)->x15=(a,b)->False:=λa b ha hb e=>by
  subst e
  simp only at h
  rcases Xq h with⟨c,h⟩|⟨c,h⟩
  ·simp only[beq_iff_eq]at c;simp only[Option.some.injEq]at h;exact ha c h
  simp only[beq_eq_false_iff_ne]at c;simp only[Option.some.injEq]at h;exact hb c h
 have ne:∀{x:Int},(x==0)=false->x≠0:=λ{x} h=>by simpa using h
 unfold Dv at D
 obtain⟨x20,_,D⟩:=Qm D
 rcases Xq D with⟨_,D⟩|⟨_,D⟩
 ·exact(bad _ _ (λh=>absurd h (by decide)) (λ_=>by decide) (Option.some.inj D).symm).elim
 obtain⟨x22,_,D⟩:=Qm D
 rcases Xq D with⟨_,D⟩|⟨_,D⟩
 ·exact(bad _ _ (λh=>absurd h (by decide)) (λ_=>by decide) (Option.some.inj D).symm).elim
 obtain⟨x24,h24,D⟩:=Qm D
 rcases Xq D with⟨_,D⟩|⟨c,D⟩
 ·exact(bad _ _ (λh=>absurd h (by decide)) (λ_=>by decide) (Option.some.inj D).symm).elim
 obtain⟨x26,h26,D⟩:=Qm D
 unfold UK at h26
 obtain⟨y,_,h26⟩:=Qm h26
 rw[<-Option.some.inj h26]at D
 rcases Xq D with⟨c,D⟩|⟨_,D⟩
 ·exact(bad _ _ (λ_=>ne (by simpa using c)) (λh=>absurd rfl h) (Option.some.inj D).symm).elim
 obtain⟨x28,_,D⟩:=Qm D
 rcases Xq D with⟨_,D⟩|⟨_,D⟩
 ·exact(bad _ _ (λh=>absurd h (by decide)) (λ_=>by decide) (Option.some.inj D).symm).elim
 obtain⟨x30,_,D⟩:=Qm D
 rcases Xq D with⟨_,D⟩|⟨_,D⟩
 ·exact(bad _ _ (λh=>absurd h (by decide)) (λ_=>by decide) (Option.some.inj D).symm).elim
 obtain⟨x32,h32,D⟩:=Qm D
 unfold DV at h32
 obtain⟨y2,_,h32⟩:=Qm h32
 rw[<-Option.some.inj h32]at D
 rcases Xq D with⟨c,D⟩|⟨_,D⟩
 ·exact(bad _ _ (λ_=>ne (by simpa using c)) (λh=>absurd rfl h) (Option.some.inj D).symm).elim
 obtain⟨x34,h34,D⟩:=Qm D
 unfold DW at h34
 obtain⟨y3,_,h34⟩:=Qm h34
 rw[<-Option.some.inj h34]at D
 rcases Xq D with⟨c,D⟩|⟨_,D⟩
 ·exact(bad _ _ (λ_=>ne (by simpa using c)) (λh=>absurd rfl h) (Option.some.inj D).symm).elim
 obtain⟨x36,h36,D⟩:=Qm D
 unfold DX at h36
 obtain⟨y4,_,h36⟩:=Qm h36
 rw[<-Option.some.inj h36]at D
 rcases Xq D with⟨c,D⟩|⟨_,D⟩
 ·exact(bad _ _ (λ_=>ne (by simpa using c)) (λh=>absurd rfl h) (Option.some.inj D).symm).elim
 obtain⟨x38,h38,D⟩:=Qm D
 rcases Xq D with⟨_,D⟩|⟨c,D⟩
 ·exact(bad _ _ (λh=>absurd h (by decide)) (λ_=>by decide) (Option.some.inj D).symm).elim
 unfold UM at h38
 obtain⟨z,hz,h38⟩:=Qm h38
 cases h38
 refine⟨e9,he9,?_⟩
 rw[hz]
 simpa using c
def QkA (m:Int×Int×Int):Prop:=(m.1=0/\m.2.1=0/\m.2.2=0)\/(1<=m.1/\m.1<=m.2.1/\m.2.1<=16/\1<=m.2.2/\m.2.2<=m.2.1)
def Qin {t:QT}(h:Wc t=some true):(0<=t.After/\t.After<=65536)/\QkA t.Many:=by
 unfold Wc Lz at h
 obtain⟨x,y,h⟩:=Qm h
 cases h
 unfold Lx at y
 obtain⟨_,_,y⟩:=Qm y
 rcases Xq y with⟨_,y⟩|⟨_,y⟩
 case inr=>cases y
 obtain⟨_,_,y⟩:=Qm y
 rcases Xq y with⟨_,y⟩|⟨_,y⟩
 case inr=>cases y
 rcases Xq y with⟨D,y⟩|⟨_,y⟩
 case inr=>cases y
 rcases Xq y with⟨c2,y⟩|⟨_,y⟩
 case inr=>cases y
 have y:=Option.some.inj y
 simp only[Kw,QJ,QV,beq_iff_eq]at y D c2
 exact⟨⟨D,c2⟩,y⟩
def QkB (n1:Ql)(h:Xp n1){p:Gb}(y:Ej n1=some (0,p)):∀t∈n1.Tasks,Wc t=some true:=by
 unfold Ej at y
 obtain⟨x6,_,y⟩:=Qm y
 rcases Xq y with⟨c,y⟩|⟨_,y⟩
 ·simp only[Option.some.injEq,Prod.mk.injEq]at y;rw[y.1]at c;cases c
 obtain⟨x8,_,y⟩:=Qm y
 rcases Xq y with⟨c,y⟩|⟨_,y⟩
 ·simp only[Option.some.injEq,Prod.mk.injEq]at y;rw[y.1]at c;cases c
 obtain⟨x10,_,y⟩:=Qm y
 rcases Xq y with⟨c,y⟩|⟨_,y⟩
 ·simp only[Option.some.injEq,Prod.mk.injEq]at y;rw[y.1]at c;cases c
 obtain⟨x12,D,y⟩:=Qm y
 rcases Xq y with⟨c,y⟩|⟨c,y⟩
 ·simp only[Option.some.injEq,Prod.mk.injEq]at y;rw[y.1]at c;cases c
 simp only[Kj]at c
 obtain⟨r,hr,hr2⟩:=Qdf n1.Tasks n1 h h.2.2.1
 rw[D]at hr;cases hr
 intro t ht
 obtain⟨j,hj,rfl⟩:=Bh.1 ht
 obtain⟨t,h1,h2⟩:=QjC n1 j (hr2 c j hj)
 rw[XQ,QW hj]at h1
 cases h1
 exact h2
def Qhp (n:Ql):Prop:=n.Places.length*48<=140737488351232/\∀p∈n.Places,p.First.length*16<=140737488351232
def QkC {n:Ql}(hr:Qhp n):Qo (Ew n) λm=>m.length=n.Places.length/\∀b∈m,b.length<=8796093022208:=by
 obtain⟨hp,hf⟩:=hr
 unfold Ew
 refine T0 (Qo.up n.Places.length (λst=>st.1) (λst=>(st.2.length:Int)=st.1/\∀b∈st.2,b.length<=8796093022208) (Q:=λm:L_ Bag=>m.length=n.Places.length/\∀b∈m,b.length<=8796093022208) rfl ⟨rfl,λb h=>by cases h⟩ (λi st hi hn hJ=>?_)) (λq hq=>T2 hq)
 obtain⟨x,l⟩:=st
 replace hi:x=(i:Int):=hi
 subst hi
 obtain⟨j1,j2⟩:(l.length:Int)=(i:Int)/\∀b∈l,b.length<=8796093022208:=hJ
 show Qo (Mj n i l) _
 unfold Mj
 refine T1 (λhc=>?_) (λhc=>T2 (Qy ?_))
 ·simp only[QV]at hc
  have i1:i<n.Places.length:=by omega
  have hpl:=hf _ (Yp i1)
  rw[XQ,QW i1,Qg]
  have hw:Qs ((i:Int)+1)=((i+1:Nat):Int):=QH i1 (by unfold maxLen;omega:n.Places.length<=maxLen)
  have k1:∀b:Bag,b.length<=8796093022208->Qo (Gc l i b) λo=>(∀D,o=.inl D->i<n.Places.length/\D.1=((i+1:Nat):Int)/\(D.2.length:Int)=D.1/\∀b∈D.2,b.length<=8796093022208)/\∀r:L_ Bag,o=.inr r->r.length=n.Places.length/\∀b∈r,b.length<=8796093022208:=λb hb=>by
   unfold Gc
   refine T0 (T5 (by simp;omega)) λ_ _=>?_
   refine T2 (QX (ix:=λst:Int×L_ Bag=>st.1) (J:=λst:Int×L_ Bag=>(st.2.length:Int)=st.1/\∀b∈st.2,b.length<=8796093022208) ⟨i1,hw,by show((l++[b]).length:Int)=Qs _;rw[hw];simp;omega,λb' y=>?_⟩)
   rcases Ur.1 y with y | y
   ·exact j2 b' y
   simp at y;subst y;exact hb
  unfold YE
  rw[BD (by simp;omega)]
  simp only[Qg,Zp]
  refine T1 (λhc2=>?_) λ_=>k1 _ (by omega)
  rw[show Nv ([0]:LI_)=some [(0,1)]from Qfx 0,Qg]
  rcases FO (n.Places[i]).First [(0,1)] (by simp;omega)with⟨_,e⟩|⟨_,_,_,e⟩|⟨_,_,r,e,h1,_,h2⟩
  ·rw[e,Qg];exact k1 _ (by omega)
  ·rw[e,Qg];exact k1 _ (by omega)
  rw[e,Qg];exact k1 _ (by simp at h2;show r.length<=8796093022208;omega)
 simp only[XG]at hc
 exact⟨by show l.length=_;omega,j2⟩
def QlG (n1:Ql)(m:L_ QBg)(h:Xp n1)(hm:Xf (Xf λ_=>True) m)(y:AW n1 m=some true):Yl n1/\LD n1 m/\∀t∈n1.Tasks,Wc t=some true:=by
 obtain⟨r,hr,hr2⟩:=Qkh n1 m h hm
 rw[y]at hr;cases hr
 obtain⟨h1,h2,h3⟩:=hr2 rfl
 refine⟨h1,⟨h2,h3⟩,?_⟩
 unfold AW at y
 obtain⟨_,_,y⟩:=Qm y
 obtain⟨_,_,y⟩:=Qm y
 rcases Xq y with⟨_,y⟩|⟨_,y⟩
 ·cases y
 obtain⟨x11,h11,y⟩:=Qm y
 obtain⟨x12,D,y⟩:=Qm y
 unfold MX at y
 rcases Xq y with⟨_,y⟩|⟨c,y⟩
 ·cases y
 unfold MV at D
 rcases Xq D with⟨_,D⟩|⟨c2,_⟩
 ·cases D;cases c
 simp only[Kj]at c2
 obtain⟨a,b⟩:=x11
 simp only at c2
 subst c2
 exact QkB n1 h h11
structure Qnq (n:Ql) (m:List Bag):Prop where
 e:EOk n
 c:WA n ⟨m,[],1,0⟩
 k:∀t∈n.Tasks,QkA t.Many
 t:n.Tasks.length<=6
 p:m.length<=12
def Qmw : Vq []=some true:=by kernel_rfl
def QlH {n:Ql}(hn:Xp n){m:L_ Bag}(hm:Ew n=some m)(hl:Xf (Xf λ_=>True) m):Qo (Na n ⟨m,[],1,0⟩) λr=>r=true->Qnq n m:=by
 unfold Na
 simp only
 rw[Qmw,Qg]
 refine T1 (λ_=>T2 λh=>by cases h) λD=>?_
 have hp:m.length<=12:=by
  simp only[KL,XG]at D
  omega
 rw[hm,Qg]
 refine T0 (Qkh n m hn hl).self λf hf=>?_
 refine T1 (λ_=>T2 λh=>by cases h) λhc2=>?_
 simp only[KL,Ac,XG]at hc2
 obtain⟨c1,c2⟩:=hc2
 subst c1
 obtain⟨h1,h2,h3⟩:=QlG n m hn hl hf.1
 refine T0 (P:=λq=>q=.inr ()->∀t∈n.Tasks,t.Join≠3) ?_ λq hq=>?_
 ·refine Qo.up n.Tasks.length (λst=>st) (λst=>∀(j:Nat) t,(j:Int)<st->n.Tasks[j]? = some t->t.Join≠3) rfl (λj t hj=>by omega) (λi st hi hn2 hJ=>?_)
  replace hi:st=(i:Int):=hi
  subst hi
  show Qo (MZ n i) _
  unfold MZ
  refine T1 (λD=>?_) (λD=>T2 (Qy λ_ t y=>?_))
  ·simp only[QV]at D
   have i1:i<n.Tasks.length:=by omega
   have hx:=QW i1
   rw[XQ,hx,Qg]
   refine T1 (λ_=>T2 (Qy λe=>by cases e)) λhj=>T2 (QX ⟨i1,QH i1 hn.2.2.1.1,λj t hj2 y=>?_⟩)
   rw[QH i1 hn.2.2.1.1]at hj2
   by_cases cj:j=i
   ·subst cj;rw[hx]at y;cases y;simpa using hj
   exact hJ j t (by omega) y
  simp only[XG]at D
  obtain⟨j,hj,rfl⟩:=Bh.1 y
  exact hJ j _ (by omega) (QW hj)
 rcases q with q | q
 ·exact T2 λh=>by cases h
 show Qo (CY _) _
 unfold CY
 simp only
 rw[Qhg h1 h2.1 (by omega),Qg]
 refine T2 λ_=>⟨⟨h1,λt y=>(Qin (h3 t y)).1,hq rfl⟩,⟨h2,⟨by show(1:Int)<=1;omega,by show(1:Int)<=_;omega⟩,⟨by show(0:Int)<=0;omega,by show(0:Int)<=_;omega⟩,rfl,by show 0<=64;omega,λx hx=>by cases hx⟩,λt y=>(Qin (h3 t y)).2,by omega,hp⟩
def Qmx {n:Ql}(hn:Xp n)(hr:Qhp n):∃m,Ew n=some m/\Fq n=some ⟨m,[],1,0⟩/\Xf (Xf λ_=>True) m:=by
 obtain⟨m,h,h1,y⟩:=QkC hr
 refine⟨m,h,by unfold Fq;rw[h];rfl,⟨by have:=hn.2.1.1;omega,λb D=>⟨by have:=y b D;unfold maxLen;omega,λ_ _=>trivial⟩⟩⟩
def Qmy (n:Ql)(l:L_ Xy)(hl:l.length<=maxLen):Qo (IZ l) λr=>r=true->l.length<=24/\∀k∈l,YR n k.Mode:=by
 unfold IZ
 refine T1 (λ_=>T2 λh=>by cases h) λy=>?_
 simp only[XG]at y
 refine T0 (P:=λq=>q=.inr ()->∀k∈l,YR n k.Mode) ?_ λq hq=>?_
 ·refine Qo.up l.length (λst=>st) (λst=>∀(j:Nat) k,(j:Int)<st->l[j]? = some k->YR n k.Mode) rfl (λj t D=>by omega) (λi st hi hn2 hJ=>?_)
  replace hi:st=(i:Int):=hi
  subst hi
  show Qo (LA l i) _
  unfold LA
  refine T1 (λy=>?_) (λy=>T2 (Qy λ_ k hk=>?_))
  ·simp only[QV]at y
   have i1:i<l.length:=by omega
   have hx:=QW i1
   unfold Sc Sd
   rw[XQ,hx]
   simp only[Qg]
   have go:∀b:Bool,(b=false->YR n l[i].Mode)->Qo (bif b then some (Sum.inr (Sum.inl ()))else some (.inl (Qs ((i:Int)+1)))) λo=>(∀s',o=.inl s'->i<l.length/\s'=((i+1:Nat):Int)/\∀(j:Nat) k,(j:Int)<s'->l[j]? = some k->YR n k.Mode)/\∀r:Unit⊕Unit,o=.inr r->r=.inr ()->∀k∈l,YR n k.Mode:=λb hb=>by
    refine T1 (λ_=>T2 (Qy λe=>by cases e)) λD=>T2 (QX (ix:=λst:Int=>st) (J:=λst:Int=>∀(j:Nat) k,(j:Int)<st->l[j]? = some k->YR n k.Mode) ⟨i1,QH i1 hl,λj t hj2 ht=>?_⟩)
    rw[QH i1 hl]at hj2
    by_cases cj:j=i
    ·subst cj;rw[hx]at ht;cases ht;exact hb D
    exact hJ j t (by omega) ht
   by_cases c1:20<(l[i].Mode.Vars.length:Int)
   ·rw[QP c1];exact go true λh=>by cases h
   rw[QZ c1,QR]
   by_cases c2:20<(l[i].Mode.Ins.length:Int)
   ·rw[QP c2];exact go true λh=>by cases h
   rw[QZ c2,QR,Qg]
   exact go _ λh=>by simp only[XG]at h;unfold YR;omega
  simp only[XG]at y
  obtain⟨j,D,rfl⟩:=Bh.1 hk
  exact hJ j _ (by omega) (QW D)
 rcases q with q | q
 ·exact T2 λh=>by cases h
 exact T2 λ_=>⟨by omega,hq rfl⟩
def QgR : ∀{ds:LI_} {l:L_ Qu},Up l->ds.Nodup->(∀d∈ds,∃x∈l,x.Id=d)->(ds.foldl dropL l).length+ds.length=l.length
 | [],l,_,_,_=>rfl
 | d::ds,l,hu,h,hi=>by
  rw[CB]at h
  obtain⟨x,hx,rfl⟩:=hi d YB
  have h1:=Ss hu hx
  have h2:=QgR (ds:=ds) (hu.drop x.Id) h.2 λe D=>by
   obtain⟨y,hy,rfl⟩:=hi e (Jk _ D)
   exact⟨y,FP.2 ⟨hy,λe2=>h.1 (by rw[<-e2];exact D)⟩,rfl⟩
  rw[List.foldl_cons,GB]
  omega
def Qb9 (c:QK)(l:LI_):Prop:=∀d∈l,0<d/\d<c.Next/\∀x∈c.Items,x.Id≠d
def QgS {n:Ql}{c c':QK}{k:Xy}{a:QA}{L:LI_}{g:Int}(hc:WA n c)(hE:Eff n c k c' a)(hL:Qb9 c L)(hg:c.Next=g+1)(hi:(c.Items.length:Int)=g-L.length):
  a.Err=0/\Qb9 c' (L++a.Closed)/\c.Now<=c'.Now/\((k.Do=1/\a.Id=c.Next/\(∃x∈c'.Items,x.Id=a.Id)/\c'.Next=g+2/\(c'.Items.length:Int)=g+1-(L++a.Closed).length)\/(k.Do≠1/\c'.Next=g+1/\(c'.Items.length:Int)=g-(L++a.Closed).length)):=by
 obtain⟨u1,u2⟩:=HH.1 hc.up
 cases hE with
 | start x e need M h hx hm he hu hN hT=>
  have hno:∀y∈c.Items,y.Id≠x.Id:=λy D=>by have:=(u2 y D).2.1;omega
  refine⟨rfl,λd h=>?_,Int.le_refl _,.inl ⟨h,hx,⟨x,Zl.2 (.inl rfl),rfl⟩,by show c.Next+1=_;omega,?_⟩⟩
  ·rw[IH]at h
   obtain⟨h1,h2,h3⟩:=hL d h
   refine⟨h1,by show d<c.Next+1;omega,λy D=>?_⟩
   rcases Zl.1 D with rfl | ⟨D,_⟩
   ·omega
   exact h3 y D
  show((Pf c.Items x).length:Int)=g+1-((L++[]).length:Int)
  rw[Qcs,QgP hno,IH]
  push_cast
  omega
 | keep x y h D hx=>
  refine⟨rfl,λd h=>?_,Int.le_refl _,.inr ⟨h,hg,?_⟩⟩
  ·rw[IH]at h
   obtain⟨h1,h2,h3⟩:=hL d h
   refine⟨h1,h2,λz hz=>?_⟩
   rcases Zl.1 hz with rfl | ⟨hz,_⟩
   ·rw[hx];exact h3 y D
   exact h3 z hz
  show((Pf c.Items x).length:Int)=g-((L++[]).length:Int)
  have:=Ss u1 D
  rw[Qcs,hx,IH]
  push_cast
  omega
 | shut y M h D hB hk=>
  refine⟨rfl,λd h=>?_,Int.le_refl _,.inr ⟨h,hg,?_⟩⟩
  ·rcases Ur.1 h with h | h
   ·obtain⟨h1,h2,h3⟩:=hL d h
    exact⟨h1,h2,λz hz=>h3 z (FP.1 hz).1⟩
   rw[SO]at h
   subst h
   exact⟨(u2 y D).1,(u2 y D).2.1,λz hz=>(FP.1 hz).2⟩
  show((dropL c.Items y.Id).length:Int)=g-((L++[y.Id]).length:Int)
  have:=Ss u1 D
  rw[KZ,IJ]
  push_cast
  omega
 | tick ds M h hn hI hD=>
  refine⟨rfl,λd h=>?_,by show c.Now<=c.Now+1;omega,.inr ⟨by omega,hg,?_⟩⟩
  ·rcases Ur.1 h with h | h
   ·obtain⟨h1,h2,h3⟩:=hL d h
    exact⟨h1,h2,λz hz=>h3 z (TN.1 hz).1⟩
   obtain⟨x,hx,rfl⟩:=hI d h
   exact⟨(u2 x hx).1,(u2 x hx).2.1,λz hz e=>(TN.1 hz).2 (by rw[e];exact h)⟩
  show((ds.foldl dropL c.Items).length:Int)=g-((L++ds).length:Int)
  have:=QgR u1 hn hI
  rw[KZ]
  push_cast
  omega
def Qmz {n:Ql}{c:QK}(h:Yl n)(hc:WA n c):Qlv c:=by
 obtain⟨h1,y,h3,D⟩:=hc.lens h
 have mx:(100000:Nat)<=maxLen:=by decide
 refine⟨by omega,λb hb=>by have:=y b hb;omega,by omega,λx hx=>?_⟩
 have:=D x hx
 exact⟨by omega,by omega,by omega⟩
def QkD {c:QK}(h:Qlv c):FI c c=some true:=by rw[Qjx h];exact congrArg some (@decide_eq_true _ (Classical.propDecidable _) rfl)
def QlI {n:Ql}(H:EOk n){c h:QK}{a:QA}{L:LI_}{i g:Int}(hc:WA n h)(hL:Qb9 h (L++a.Closed))(hg:h.Next=g+1)(hi:(h.Items.length:Int)=g-(L++a.Closed).length)(hN:c.Now<=h.Now)(hg2:g<=1000):JV L (h,a) n c i g=some (.inl (g,Qs (i+1),h,L++a.Closed)):=by
 have y:(L++a.Closed).length<=1000:=by omega
 have hlen2:L.length+a.Closed.length<=1000:=by rw[KZ]at y;exact y
 have mx:(1000:Nat)<=maxLen:=by decide
 unfold JV
 simp only
 rw[BD (by omega),Qg]
 have main:Qo (QO (λst=>DJ L (h,a) n st) 0) λq=>q=.inr ():=by
  refine Qo.up (L++a.Closed).length (λst=>st) (λ_=>True) rfl trivial (λj st hj hn2 hJ=>?_)
  replace hj:st=(j:Int):=hj
  subst hj
  show Qo (DJ L (h,a) n j) _
  unfold DJ
  simp only
  refine T1 (λhc2=>?_) (λhc2=>T2 (Qy rfl))
  simp only[QV]at hc2
  have i1:j<(L++a.Closed).length:=by omega
  have hx:=QW i1
  obtain⟨d1,d2,d3⟩:=hL _ (Yp i1)
  obtain⟨c2,b,hD,_,_,D⟩:=QlQ H hc ⟨2,(L++a.Closed)[j],⟨0,[],[],[]⟩,0⟩ ⟨by show 0<=20;omega,by show 0<=20;omega,by show 0<=20;omega⟩
  have D:=D (by show(2:Int)<=2;omega) (by show(2:Int)<=5;omega) d3 d1 d2
  rw[XQ,hx,Qg,hD,Qg]
  unfold IB
  simp only
  rw[D,show((12:Int) != 12)=false from rfl,QR,XQ,hx,Qg,QgO (OL hc) d3,Qg,Qg]
  exact T2 (QX ⟨i1,QH i1 (by omega),trivial⟩)
 obtain⟨q,q1,rfl⟩:=main
 rw[q1,Qg]
 show UZ (h,a) g L c i=_
 unfold UZ
 simp only
 rw[Ja (n:=g-_) (by omega),Ja (n:=g+1) (by omega),Cy,Cy,QP hi,QP hg,QZ (by omega)]
 rfl
def QiF (n:Ql)(l:L_ Xy)(hn:Xp n)(hr:Qhp n)(hl:l.length<=maxLen):Dk n l=some true:=by
 obtain⟨m,hm,hN,hml⟩:=Qmx hn hr
 obtain⟨f,hf,hf2⟩:=QlH hn hm hml
 obtain⟨g,hg,hg2⟩:=Qmy n l hl
 unfold Dk
 rw[Qmv,Qg,hN,Qg,hf,Qg,hg,Qg]
 cases hc:((!f)||(!g))with
 | true=>rfl
 | false=>
  simp only[KL,Ac]at hc
  have hF:=hf2 hc.1
  obtain⟨hl2,hk⟩:=hg2 hc.2
  have H:=hF.e
  have main:Qo (QO (λst:Int×Int×QK×LI_=>Da l n st.1 st.2.1 st.2.2.1 st.2.2.2) (0,0,⟨m,[],1,0⟩,([]:LI_))) λq=>q=.inr ():=by
   refine Qo.up l.length (λst:Int×Int×QK×LI_=>st.2.1) (λst:Int×Int×QK×LI_=>WA n st.2.2.1/\Qb9 st.2.2.1 st.2.2.2/\st.2.2.1.Next=st.1+1/\(st.2.2.1.Items.length:Int)=st.1-st.2.2.2.length/\st.1<=st.2.1) rfl ⟨hF.c,λd hd=>(by cases hd),rfl,rfl,Int.le_refl _⟩ (λi st hi hn2 hJ=>?_)
   obtain⟨gv,x,c,L⟩:=st
   replace hi:x=(i:Int):=hi
   subst hi
   obtain⟨hc,hL,h1,h2,h3⟩:WA n c/\Qb9 c L/\c.Next=gv+1/\(c.Items.length:Int)=gv-L.length/\gv<=(i:Int):=hJ
   show Qo (Da l n gv i c L) _
   unfold Da
   refine T1 (λhlt=>?_) (λhlt=>T2 (Qy rfl))
   simp only[QV]at hlt
   have i1:i<l.length:=by omega
   have hx:=QW i1
   have hgv:0<=gv:=by omega
   obtain⟨c',a,hD,hc',hE,_⟩:=QlQ H hc l[i] (hk _ (Yp i1))
   rw[XQ,hx,Qg,hD,Qg]
   have g1:UY n (c',a) c=some false:=by
    unfold UY
    simp only
    rw[QgQ H.h hc',Qg,show(!true)=false from rfl,QR,Cy]
    rcases hE with⟨e1,e2,e3,e4⟩|hE
    ·subst e2
     rw[QZ e1,show(!false)=true from rfl,XE,QkD (Qmz H.h hc'),Qg,show(!true)=false from rfl,QR,e3,e4]
     rfl
    rw[(QgS hc hE hL h1 h2).1];rfl
   rw[g1,Qg]
   unfold HL
   rw[QR]
   have fin:∀g':Int,Qb9 c' (L++a.Closed)->c'.Next=g'+1->(c'.Items.length:Int)=g'-(L++a.Closed).length->c.Now<=c'.Now->g'<=(i:Int)+1->Qo (JV L (c',a) n c i g') λo=>(∀D:Int×Int×QK×LI_,o=.inl D->i<l.length/\D.2.1=((i+1:Nat):Int)/\WA n D.2.2.1/\Qb9 D.2.2.1 D.2.2.2/\D.2.2.1.Next=D.1+1/\(D.2.2.1.Items.length:Int)=D.1-D.2.2.2.length/\D.1<=D.2.1)/\∀r:Unit⊕Unit,o=.inr r->r=.inr ():=λg' k1 k2 k3 k4 k5=>by
    rw[QlI H hc' k1 k2 k3 k4 (by omega)]
    have hw:=QH i1 hl
    exact T2 (QX (ix:=λst:Int×Int×QK×LI_=>st.2.1) (J:=λst:Int×Int×QK×LI_=>WA n st.2.2.1/\Qb9 st.2.2.1 st.2.2.2/\st.2.2.1.Next=st.1+1/\(st.2.2.1.Items.length:Int)=st.1-st.2.2.2.length/\st.1<=st.2.1) ⟨i1,hw,hc',k1,k2,k3,by show g'<=Qs _;rw[hw];omega⟩)
   unfold IC
   simp only
   rw[LB]
   rcases hE with⟨e1,e2,e3,e4⟩|hE
   ·subst e2
    rw[QZ e1,QR,Qg]
    unfold Uh
    rw[QR]
    exact fin gv (by rw[e4,IH];exact hL) h1 (by rw[e4,IH];exact h2) (Int.le_refl _) (by omega)
   obtain⟨e0,q1,q2,q3⟩:=QgS hc hE hL h1 h2
   rw[QP e0,XE,XQ,hx,Qg,Qg,LB]
   unfold Uh
   rcases q3 with⟨d1,d2,⟨x,d3,d4⟩,d5,d6⟩|⟨d1,d2,d3⟩
   ·rw[QP d1,XE]
    unfold ID
    simp only
    obtain⟨p,y,f1,_,_⟩:=Qb6 (OL hc') d3 d4
    rw[Ja (by omega),Cy,QP (by omega),show(!true)=false from rfl,QR,f1,Qg,QZ (by omega),Qg]
    unfold HK
    rw[QR,Ja (by omega)]
    exact fin (gv+1) q1 (by omega) (by omega) q2 (by omega)
   rw[QZ d1,QR]
   exact fin gv q1 d2 d3 q2 (by omega)
  obtain⟨q,q1,rfl⟩:=main
  simp only[QR]
  rw[q1];rfl
end Go.Proofs
