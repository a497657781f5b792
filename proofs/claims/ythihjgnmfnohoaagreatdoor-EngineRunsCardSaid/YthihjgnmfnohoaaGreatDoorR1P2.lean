/- A part of the proof. -/
import Derived.Test.YthihjgnmfnohoaaGreatDoorR1P1
import Derived.Test.YthihjgnmfnohoaaGreatDoorR1P1
import Derived.Test.YthihjgnmfnohoaaGreatDoorR1P1
import Derived.Test.YthihjgnmfnohoaaGreatDoorR1P1
import Derived.KernelRfl
import Derived.Test.YthihjgnmfnohoaaGreatDoorR1T2
import Derived.Test.YthihjgnmfnohoaaGreatDoorR1XPlA
set_option linter.all false
noncomputable section
namespace Go.Proofs
open Go Go.RowKit Go.Vm
open Option renaming some→C
variable {n:Qh}{c:Qz}{m M:L_ Bag}{O next now:Int}{o:Qo}{i k j:Nat}{x:Qg}{l L:L_ Qg}{p:Prop}{t:L_ Qe}{e:Qe}{q:QBg}{b:QZ}
def QnZ {c:Nat}(h:XE n)(hm:Kz n c m)(hc:c<=1000000)(hl:LK n m):AQ n m=C true:=by
 have hpl:=h.pl;have hm1:=hm.1;unfold AQ;rw[show((m.length:Int) != (n.Places.length:Int))=false by simp;omega,Qd];obtain⟨r,h1,h2⟩:=(Qk.up (body:=λst=>Um m n st) m.length (λst=>st) (λ_=>True) (Q:=λq:Unit⊕Unit=>q=.inr ()) (s0:=(0:Int)) rfl trivial (λi st hi hn hJ=>by
  show Qk (Um m n st) _;unfold Um;refine T1 (λhc=>?_) (λ_=>T2 (Qv rfl));simp only[QG]at hc;have i1:i<m.length:=by omega
  have i2:i<n.Places.length:=by omega
  rw[hi,QQ,KR i1,Qa,QQ,KR i2,Qa];refine T0 (UB n.Colours (n.Places[i]).Colour h.k.1).self λsz hsz=>?_;have hb:=hm.2 _ (Xs i1);have hbl:=hb.2;refine T0 (P:=λr=>r=false) ?_ λx hx=>?_
  ·unfold PY;rw[Qbj _ (by unfold maxLen;omega),Qa,YV.2 hb.1];simp only[Jo,Qd];refine T1 (λh0=>?_) (λ_=>T2 rfl);simp only[QG]at h0;have O:(m[i]).length-1<(m[i]).length:=by omega
   rw[Xj (by omega),show((m[i]).length:Int)-1=(((m[i]).length-1:Nat):Int) by omega,QQ,KR O,Qa];refine T2 ?_;have hcn:=Eu hb.1.1.nd (Xs O);have hpos:=hb.1.2 _ (Xs O);obtain⟨z,hz1,hz2⟩:=hl i _ _ (KR i1) (KR i2) _ (by rw[hcn];omega);rw[hsz.1]at hz1;cases hz1;exact Qj (by omega)
  subst hx;unfold PZ;exact T2 (QV ⟨i1,Qr i1 (by unfold maxLen;omega),trivial⟩)))
 rw[h1,h2];rfl
def VQ : Bag->Int
 | []=>0
 | p::l=>p.2+VQ l
def QrY {l m:Bag}(h:l.Perm m):VQ l=VQ m:=by
 induction h with
 | nil=>rfl
 | cons p _ ih=>simp only[VQ,ih]
 | swap p q l=>simp only[VQ];omega
 | trans _ _ O ih2=>rw[O,ih2]
def Qo2 (b:Bag)(hr:Rt b)(h:b.length<=maxLen):IB b=C (Qm (VQ b)):=by
 unfold IB;rw[Qcs b h,YV.2 hr];show Ta b=_;unfold Ta;have O:∀(l:Bag) (s:Int),DK (λst (p:Int×Int)=>Ej st p.1 p.2) (Qm s) l=C (.inl (Qm (s+VQ l))):=by
  intro l
  induction l with
  | nil=>intro s;simp[DK,VQ]
  | cons p l ih=>
   intro s;simp only[DK];rw[show Ej (Qm s) p.1 p.2=C (.inl (Qm (s+p.2)))from by unfold Ej;rw[QgV]];simp only[Qa,Sum.elim_inl];rw[ih,VQ,Int.add_assoc]
 have h0:HZ (λst (p:Int×Int)=>Ej st p.1 p.2) (0:Int) b=C (.inl (Qm (VQ b))):=by
  have e0:(0:Int)=Qm 0:=by decide
  rw[e0];refine MB.2 ⟨λl' hp=>?_,by rw[O];simp⟩;rw[O,O,QrY hp]
 rw[h0];rfl
def tS (m:L_ Bag):Nat->Int
 | 0=>0
 | i+1=>tS m i+VQ (m.getD i [])
def Qn0 {c:Nat}(h:XE n)(hm:Kz n c m)(hc:c<=1000000):RS m=C (Qm (tS m m.length)):=by
 have hpl:=h.pl;have hm1:=hm.1;unfold RS;obtain⟨r,h1,h2⟩:=(Qk.up (body:=λst=>LA m st.1 st.2) m.length (λst=>st.2) (λst=>st.1=Qm (tS m st.2.toNat)) (Q:=λq=>q=Qm (tS m m.length)) (s0:=((0:Int),(0:Int))) rfl (by show(0:Int)=Qm 0;decide) (λi st hi hn hJ=>by
  obtain⟨a,x⟩:=st;replace hi:x=(i:Int):=hi;replace hJ:a=Qm (tS m x.toNat):=hJ;subst hi;show Qk (LA m a i) _;unfold LA;refine T1 (λhc=>?_) (λhc=>T2 (Qv ?_))
  ·simp only[QG]at hc;have O:i<m.length:=by omega
   have hb:=hm.2 _ (Xs O);rw[QQ,KR O,Qa,Qo2 _ hb.1 (by have:=hb.2;unfold maxLen;omega),Qa];have hw:Qm ((i:Int)+1)=((i+1:Nat):Int):=Qr O (by unfold maxLen;omega);refine T2 (QV ⟨O,hw,?_⟩);show Qm (a+Qm (VQ m[i]))=Qm (tS m (Qm ((i:Int)+1)).toNat);rw[hw,hJ,QgV,Int.add_comm,QgV,Ue,Ue,tS,Ok,KR O,Int.add_comm];rfl
  simp only[Xq]at hc;rw[hJ,show(i:Int).toNat=m.length by omega]))
 rw[h1,h2];rfl
def Qte (n:Qh)(m:L_ Bag)(o:Qo)(c:Nat)(h:XE n)(hm:Kz n c m)(hl:LK n m)(hc:c<=900000)(ho:XL n o):Qk (Gm n m o) λr=>r.2=0->LK n r.1:=by
 have hpl:=h.pl;have hm1:=hm.1;unfold Gm;refine T0 (QgY n o h ho) λy hy=>?_;refine T1 (λhc=>T2 λh=>absurd h (by simpa using hc)) λhc2=>?_;obtain⟨⟨hy,hyl⟩,h1,h2⟩:=hy (by simpa using hc2);rw[Sq m (by omega) (λb O=>by have:=(hm.2 b O).2;omega),Qa];refine T0 (T4 h1 h2) λe he=>?_;have hcl:=(h.tk e he).2.2.2;refine T0 (Qk.up e.Cancel.length (λst=>st.1) (λst=>Kz n c st.2/\LK n st.2) (Q:=λq=>Kz n c q/\LK n q) rfl ⟨hm,hl⟩ (λi st hi hn hJ=>?_)) (λq hq=>?_)
 ·obtain⟨x,l⟩:=st;replace hi:x=(i:Int):=hi;replace hJ:Kz n c l/\LK n l:=hJ;show Qk (Jm e x l) _;unfold Jm;refine T1 (λhc=>?_) (λ_=>T2 (Qv hJ));simp only[QG]at hc;refine T0 (T4 (by omega) (by omega)) λk _=>?_;have next:∀l,Kz n c l/\LK n l->Qk (DV x l) λo=>(∀s',o=.inl s'->i<e.Cancel.length/\s'.1=((i+1:Nat):Int)/\Kz n c s'.2/\LK n s'.2)/\∀r:L_ QBg,o=.inr r->Kz n c r/\LK n r:=λl hl=>by
   unfold DV;exact T2 (QV (ix:=λst:Int×L_ QBg=>st.1) (J:=λst:Int×L_ QBg=>Kz n c st.2/\LK n st.2) ⟨by omega,by subst hi;exact Qr (by omega) (by unfold maxLen;omega:e.Cancel.length<=maxLen),hl⟩)
  refine T1 (λhc3=>?_) λ_=>next l hJ;simp only[QH,QG]at hc3;refine T0 (T4 hc3.1 hc3.2) λ_ _=>?_;refine next _ ⟨⟨by simpa using hJ.1.1,λb O=>?_⟩,λj b p O hp k' hk=>?_⟩
  ·rcases Tw O with rfl | O
   ·exact⟨Rt.nil,by simp⟩
   exact hJ.1.2 b O
  by_cases cj:k.toNat=j
  ·subst cj;rw[TJ (by omega)]at O;cases O;simp[QD,Xa]at hk
  rw[PO cj]at O;exact hJ.2 j b p O hp k' hk
 show Qk (AB y q) _;unfold AB;refine T0 (QgD n q y.1 c 20 h hq.1 hy (by omega)) λz hz=>T2 λhz0=>?_;obtain⟨zl,ze⟩:=hz.1 hz0;intro j b p O hp k hk;have hj:j<n.Places.length:=(Xb.1 hp).1;obtain⟨u,hu,hu1,hu2⟩:=QgZ hq.1 hj;obtain⟨v,hv,hv1,hv2⟩:=QgZ hy hj;obtain⟨s,hs1,hs2⟩:=ze j u v hu hv;have hs1:z.1[j]? = C s:=hs1;have O:z.1[j]? = C b:=O;rw[O]at hs1;cases hs1;have q:=(QrX (by omega) hs2).2.2.2 k;by_cases c0:0<QD u k
 ·exact hq.2 j u p hu hp k c0
 exact hyl j v p hv hp k (by omega)
def szB (n:Qh)(t:QW):LI_:=t.Vars.map λv=>(YL n.Colours v.Colour).getD 0
def gdB (b:Xm)(r:LI_):Bool:=decide (Yd b r=C 0)
def Qo3 (n:Qh)(m:L_ QBg)(h:Int)(O outs:L_ LI_)(p:LI_):L_ Qo:=match Jx n m h p with
 | some (c,b)=>if c=0/\Yb b=C 0 then O.flatMap λe=>if XS b e=C 0 then(outs.filter (gdB b)).map λo=>Qo.mk h p e o else []else []
 | none=>[]
def Mu (O h:Int):L_ LI_:=(YT O h).getD []
def Qo4 (n:Qh)(m:L_ QBg)(h:Int):L_ Qo:=match idx n.Tasks h with
 | some t=>(binds (szB n t)).flatMap (Qo3 n m h (Mu t.Join t.Ins.length) (Mu t.Split t.Outs.length))
 | none=>[]
def QrZ {m:L_ QBg}{ins outs:L_ LI_}{p:LI_}:
  o∈Qo3 n m O ins outs p↔o.Task=O/\o.Vars=p/\o.Ins∈ins/\o.Outs∈outs/\∃b,Jx n m O p=C (0,b)/\Yb b=C 0/\XS b o.Ins=C 0/\Yd b o.Outs=C 0:=by
 unfold Qo3;cases hb:Jx n m O p with
 | none=>simp
 | some x=>
  obtain⟨c,b⟩:=x;simp only;by_cases hc:c=0/\Yb b=C 0
  ·rw[if_pos hc];obtain⟨rfl,hg⟩:=hc;simp only[List.mem_flatMap];constructor
   ·rintro ⟨e,he,h⟩;by_cases ht:XS b e=C 0
    ·rw[if_pos ht]at h;obtain⟨r,hr,rfl⟩:=Yv.1 h;obtain⟨h1,h2⟩:=Mx.1 hr;exact⟨rfl,rfl,he,h1,b,rfl,hg,ht,Xc h2⟩
    rw[if_neg ht]at h;cases h
   rintro ⟨h1,h2,h3,h4,b',h5,h6,h7,h8⟩;cases h5;refine⟨o.Ins,h3,?_⟩;rw[if_pos h7];refine Yv.2 ⟨o.Outs,Mx.2 ⟨h4,Qi h8⟩,?_⟩;cases o;simp only at h1 h2;subst h1;subst h2;rfl
  rw[if_neg hc];constructor
  ·intro h;cases h
  rintro ⟨_,_,_,_,b',h5,h6,_⟩;cases h5;exact absurd ⟨rfl,h6⟩ hc
def VA {m:L_ QBg}{h:Int}:
  o∈Qo4 n m h↔o.Task=h/\∃e,idx n.Tasks h=C e/\inB (szB n e) o.Vars/\o.Ins∈Mu e.Join e.Ins.length/\o.Outs∈Mu e.Split e.Outs.length/\∃b,Jx n m h o.Vars=C (0,b)/\Yb b=C 0/\XS b o.Ins=C 0/\Yd b o.Outs=C 0:=by
 unfold Qo4;cases he:idx n.Tasks h with
 | none=>simp
 | some e=>
  simp only[List.mem_flatMap,QrQ,QrZ,Option.some.injEq,exists_eq_left'];constructor
  ·rintro ⟨p,O,h2,rfl,h3,h4,h5⟩;exact⟨h2,O,h3,h4,h5⟩
  rintro ⟨O,h2,h3,h4,h5⟩;exact⟨o.Vars,h2,O,rfl,h3,h4,h5⟩
def Qlv (a b:LI_)(ha:a.length<=maxLen):JQ a b=C (decide (a=b)):=by
 have key:Qk (JQ a b) λr=>r=decide (a=b):=by
  unfold JQ;refine T1 (λhc=>T2 ?_) λhc=>?_
  ·rw[Qj λe=>by subst e;simp at hc]
  simp only[KJ]at hc;have hc:a.length=b.length:=by omega
  refine T0 (Qk.up a.length (λst=>st) (λst=>a.take st.toNat=b.take st.toNat) (Q:=λq:Unit⊕Unit=>(q=.inl ()->a≠b)/\(q=.inr ()->a=b)) rfl rfl (λi st hi hn hJ=>?_)) (λq hq=>?_)
  ·replace hi:st=(i:Int):=hi;subst hi;replace hJ:a.take (i:Int).toNat=b.take (i:Int).toNat:=hJ;rw[Ue]at hJ;show Qk (Wf a b i) _;unfold Wf;refine T1 (λO=>?_) (λO=>T2 (Qv ⟨λe=>(by cases e),λ_=>?_⟩))
   ·simp only[QG]at O;have i1:i<a.length:=by omega
    have i2:i<b.length:=by omega
    rw[QQ,QN i1,Qa,QQ,QN i2,Qa];refine T1 (λh=>T2 (Qv ⟨λ_ e=>?_,λe=>by cases e⟩)) λh=>?_
    ·subst e;simp at h
    have hw:Qm ((i:Int)+1)=((i+1:Nat):Int):=Qr i1 ha;refine T2 (QV ⟨i1,hw,?_⟩);show a.take (Qm ((i:Int)+1)).toNat=b.take (Qm ((i:Int)+1)).toNat;rw[hw,Ue,UU,UU,hJ,QN i1,QN i2];simp only[KJ]at h;rw[h]
   simp only[Xq]at O;rwa[UV (by omega),UV (by omega)]at hJ
  rcases q with q | q
  ·exact T2 (Qj (hq.1 rfl)).symm
  exact T2 (Qi (hq.2 rfl)).symm
 obtain⟨r,h1,h2⟩:=key;rw[h1,h2]
def Qr0 (O h:Int):YT O h=C (Mu O h)/\QoY (Mu O h):=by
 obtain⟨r,h1,h2⟩:=Qm9 O h;unfold Mu;rw[h1];exact⟨rfl,h2⟩
def IH (O h:Int)(row:LI_):GL O h row=C (decide (row∈Mu O h)):=by
 have key:Qk (GL O h row) λr=>r=decide (row∈Mu O h):=by
  unfold GL Ws DE;obtain⟨e,hx⟩:=Qr0 O h;rw[e,Qa];generalize Mu O h=x at hx;have hl:=hx.1;have key:Qk ((Qt (λst=>Jc x row st) 0)) λq:Int⊕Unit=>(∀k,q=.inl k->0<=k/\row∈x)/\(q=.inr ()->row ∉ x):=by
   refine Qk.up x.length (λst=>st) (λst=>row ∉ x.take st.toNat) rfl (by simp) (λi st hi hn hJ=>?_);replace hi:st=(i:Int):=hi;subst hi;replace hJ:row ∉ x.take (i:Int).toNat:=hJ;rw[Ue]at hJ;show Qk (Jc x row i) _;unfold Jc Ln;refine T1 (λhc=>?_) (λhc=>T2 (Qv ⟨λk e=>(by cases e),λ_=>?_⟩))
   ·simp only[QG]at hc;have i1:i<x.length:=by omega
    have:=hx.2 _ (Xs i1);rw[QQ,QN i1,Qa,Qlv _ _ (by unfold maxLen;omega)];simp only[Qa];refine T1 (λhc2=>T2 (Qv ⟨λk e=>(by cases e;exact⟨by omega,by rw[<-Xc hc2];exact Xs i1⟩),λe=>by cases e⟩)) λhc2=>?_;have hw:Qm ((i:Int)+1)=((i+1:Nat):Int):=Qr i1 (by unfold maxLen;omega:x.length<=maxLen);refine T2 (QV ⟨i1,hw,?_⟩);show row ∉ x.take (Qm ((i:Int)+1)).toNat;rw[hw,Ue,UU,QN i1];simp only[Option.toList_some,Wr,Lf,not_or];exact⟨hJ,λe=>of_decide_eq_false hc2 e.symm⟩
   simp only[Xq]at hc;rwa[UV (by omega)]at hJ
  obtain⟨q,hq1,hq2⟩:=key;rw[hq1];rcases q with q | q
  ·have:=hq2.1 q rfl;refine T2 ?_;rw[Qi this.2];exact Qi this.1
  refine T2 ?_;rw[Qj (hq2.2 rfl)];rfl
 obtain⟨r,h1,h2⟩:=key;rw[h1,h2]
def Qr1 (l:L_ QR)(k m:Int)(hl:QX Jk l):Qk (Dj l k m) λr=>r.2=true->0<=m/\∃z,YL l k=C z/\m<z:=by
 unfold Dj YL;refine T0 (Ir l k hl).self λx hx=>?_;obtain⟨hxe,hx⟩:=hx;refine T0 (P:=λr=>r=false->x.1=true/\0<=m/\∃h:0<=k/\k<(x.2.sizes.length:Int),m<x.2.sizes[k.toNat]'(by omega)) ?_ λr hr=>?_
 ·unfold Cc;refine T1 (λ_=>T2 λh=>by cases h) λO=>?_;have O:x.1=true:=by simpa using O
  have h:=hx.2 O;have hk:k.toNat<x.2.sizes.length:=by omega
  have ei:idx x.2.sizes k=C x.2.sizes[k.toNat]:=So h.1.1 h.1.2;refine T0 (P:=λy=>y=true->0<=m/\m<x.2.sizes[k.toNat]) ?_ λy hy=>T2 λhf=>?_
  ·unfold KC;refine T0 (P:=λy=>y=true->0<=m/\m<x.2.sizes[k.toNat]) ?_ λy hy=>T2 hy;unfold GX;refine T1 (λhc2=>?_) λ_=>T2 λh=>by cases h
   rw[h.2.1,ei,Qa];exact T2 λh=>⟨by simpa using hc2,by simpa using h⟩
  have:=hy (by simpa using hf);exact⟨O,this.1,h.1,this.2⟩
 unfold Cd;refine T1 (λ_=>T2 λh=>by cases h) λO=>?_;obtain⟨h1,h2,h3,h4⟩:=hr O;have h:=hx.2 h1;have fin:0<=m/\∃z,((Du l k).bind λx5=>bif (!x5.1)then C 0 else(idx x5.2.sizes k).bind λe7=>C e7)=C z/\m<z:=⟨h2,x.2.sizes[k.toNat]'(by omega),by
  rw[hxe,Qa,h1];simp only[Jo,Qd];rw[So h3.1 h3.2];rfl,h4⟩
 refine T0 (FV x.2 (by omega)) λ_ _=>?_;refine T1 (λ_=>?_) λ_=>T2 λ_=>fin;exact T0 (FV x.2 (by omega)) λ_ _=>T2 λ_=>fin
def Qvg {l d:LI_}(h:d.length=l.length)(O:∀(j:Nat) x s,d[j]? = C x->l[j]? = C s->0<=x/\x<s):inB l d:=by
 induction l generalizing d with
 | nil=>cases d with
  | nil=>trivial
  | cons x d=>simp at h
 | cons s r ih=>cases d with
  | nil=>simp at h
  | cons x d=>
   have:=O 0 x s rfl rfl;exact⟨this.1,.inr this.2,ih (by simpa using h) λj y z h1 h2=>O (j+1) y z (by simpa using h1) (by simpa using h2)⟩
def Qvh (n:Qh)(task:Int)(O:LI_)(h:XE n):Qk (WM n task O) λr=>r.2=0->∃e,idx n.Tasks task=C e/\e∈n.Tasks/\inB (szB n e) O/\∀s∈szB n e,0<s:=by
 unfold WM;refine T1 (λ_=>T2 λh=>by cases h) λhc=>?_;simp only[KS,Xq]at hc;refine T0 (T4 (by omega) (by omega)).self λe he=>?_;have hv:=(h.tk e he.2).1;have ke:=h.k.2.2.1.2 e he.2;refine T1 (λ_=>T2 λh=>by cases h) λhl=>?_;simp only[KJ]at hl;have hl:O.length=e.Vars.length:=by omega
 refine T0 (T5 (by simp only[QH,QG];omega)) λ_ _=>?_;refine T0 (Qk.up e.Vars.length (λst=>st.1) (λst=>st.2.length=e.Vars.length/\∀(j:Nat) x s,(j:Int)<st.1->O[j]? = C x->(szB n e)[j]? = C s->0<=x/\x<s) (Q:=λq:Unit⊕LI_=>∀out,q=.inr out->inB (szB n e) O/\∀s∈szB n e,0<s) rfl ⟨by simp,λj x s hj=>by simp at hj;omega⟩ (λi st hi hn hJ=>?_)) (λq hq=>?_)
 ·obtain⟨x,l⟩:=st;replace hi:x=(i:Int):=hi;subst hi;obtain⟨hJ,hJ2⟩:l.length=e.Vars.length/\∀(j:Nat) x s,(j:Int)<(i:Int)->O[j]? = C x->(szB n e)[j]? = C s->0<=x/\x<s:=hJ;show Qk (DD e O n i l) _;unfold DD;refine T1 (λhc=>?_) (λhc=>T2 (Qv λout _=>?_))
  ·simp only[QG]at hc;have i1:i<e.Vars.length:=by omega
   have i2:i<O.length:=by omega
   rw[QQ,QN i1,Qa,QQ,QN i2,Qa];refine T0 (Qr1 _ _ _ h.k.1) λc hc3=>?_;refine T1 (λ_=>T2 (Qv λout e=>by cases e)) λhc4=>?_;obtain⟨h1,z,h2,h3⟩:=hc3 (by simpa using hc4);refine T0 (T4 (by omega) (by omega)) λd _=>?_;have hw:Qm ((i:Int)+1)=((i+1:Nat):Int):=Qr i1 (by unfold maxLen;omega:e.Vars.length<=maxLen);refine T2 (QV ⟨i1,hw,by simpa using hJ,λj x s hj hx hs=>?_⟩);replace hj:(j:Int)<Qm ((i:Int)+1):=hj;rw[hw]at hj;by_cases cj:j=i
   ·subst cj;rw[QN i2]at hx;cases hx;unfold szB at hs;rw[Yh,QN i1,GR,h2]at hs;cases hs;exact⟨h1,h3⟩
   exact hJ2 j x s (by omega) hx hs
  simp only[Xq]at hc;have hb:∀(j:Nat) x s,O[j]? = C x->(szB n e)[j]? = C s->0<=x/\x<s:=λj x s hx hs=>hJ2 j x s (by have:=(Xb.1 hx).1;omega) hx hs;refine⟨Qvg (by simp[szB,hl]) hb,λs hs=>?_⟩;obtain⟨j,hj,rfl⟩:=Ug.1 hs;have hj2:j<O.length:=by simp[szB]at hj;omega
  have:=hb j _ _ (QN hj2) (QN hj);omega
 rcases q with q | q
 ·exact T2 λh=>by cases h
 exact T2 λ_=>⟨e,he.1,he.2,hq q rfl⟩
def Nq {m:L_ QBg}{vars:LI_}{b:Xm}(h:XE n)(e:Jx n m O vars=C (0,b)):idx n.Tasks O=C b.task/\b.task∈n.Tasks/\b.net=n/\b.m=m/\(inB (szB n b.task) vars/\∀s∈szB n b.task,0<s)/\WM n O vars=C (b.env,0):=by
 unfold Jx at e;obtain⟨x,hx,e⟩:=QU e;obtain⟨x1,x2⟩:=x;rcases XU e with⟨c,e⟩|⟨c,e⟩
 ·simp only[Option.some.injEq,Prod.mk.injEq]at e;simp only[e.1]at c;cases c
 simp only[KJ]at c;subst c;obtain⟨t,ht,h1,h2⟩:=AG (Qvh n O vars h) hx rfl;rw[ht,Qa]at e;simp only[Option.some.injEq,Prod.mk.injEq,true_and]at e;subst e;exact⟨ht,h1,rfl,rfl,h2,hx⟩
def Qct {m:L_ QBg}(h:XE n)(hm:QX (QX λ_=>True) m)(ho:XL n o):Yl n m o=C 0↔o∈Qo4 n m o.Task:=by
 rw[VA];constructor
 ·intro e;unfold Yl at e;obtain⟨x,hx,e⟩:=QU e;obtain⟨c,b⟩:=x;have k3:∀g,JN (c,b) o g=C 0->g=0/\o.Ins∈Mu b.task.Join b.task.Ins.length/\o.Outs∈Mu b.task.Split b.task.Outs.length/\XS b o.Ins=C 0/\Yd b o.Outs=C 0:=λg e=>by
   unfold JN at e;rcases XU e with⟨c2,e⟩|⟨c2,e⟩
   ·simp only[Option.some.injEq]at e;rw[e]at c2;cases c2
   simp only[KJ]at c2;obtain⟨y,O,e⟩:=QU e;unfold Ce at O;rw[IH,Qa]at O;unfold Cf at e;rcases XU e with⟨_,e⟩|⟨c3,e⟩
   ·cases e
   subst c3;rcases XU O with⟨_,O⟩|⟨c4,O⟩
   ·cases O
   rw[IH,Qa]at O;simp only[Bk,QG]at c4;simp only[Option.some.injEq,Bk,QG]at O;obtain⟨z,hz,e⟩:=QU e;rcases XU e with⟨c5,e⟩|⟨c5,e⟩
   ·simp only[Option.some.injEq]at e;rw[e]at c5;cases c5
   simp only[KJ]at c5;subst c5;obtain⟨w,hw,e⟩:=QU e;simp only[Option.some.injEq]at e;subst e;exact⟨c2,c4,O,hz,hw⟩
  have fin:c=0->Yb b=C 0->(o.Ins∈Mu b.task.Join b.task.Ins.length/\o.Outs∈Mu b.task.Split b.task.Outs.length/\XS b o.Ins=C 0/\Yd b o.Outs=C 0)->o.Task=o.Task/\∃e,idx n.Tasks o.Task=C e/\inB (szB n e) o.Vars/\o.Ins∈Mu e.Join e.Ins.length/\o.Outs∈Mu e.Split e.Outs.length/\∃b,Jx n m o.Task o.Vars=C (0,b)/\Yb b=C 0/\XS b o.Ins=C 0/\Yd b o.Outs=C 0:=λhc hg q=>by
   subst hc;obtain⟨h1,_,_,_,h2,_⟩:=Nq h hx;exact⟨rfl,b.task,h1,h2.1,q.1,q.2.1,b,hx,hg,q.2.2.1,q.2.2.2⟩
  rcases XU e with⟨c1,e⟩|⟨c1,e⟩
  ·simp only[beq_iff_eq]at c1;obtain⟨g,hg,e⟩:=QU e;obtain⟨rfl,q⟩:=k3 g e;exact fin c1 hg q
  have e1:=(k3 _ e).1;simp only[beq_eq_false_iff_ne]at c1;exact absurd e1 c1
 rintro ⟨_,e,he,h1,h2,h3,b,hb,hg,ht,hv⟩;obtain⟨k1,k2,_⟩:=Nq h hb;rw[he]at k1;cases k1;unfold Yl;rw[hb,Qa];simp only[show((0:Int)==0)=true from rfl,Qq,hg,Qa];unfold JN;simp only[show((0:Int) != 0)=false from rfl,Qd];unfold Ce;rw[IH,Qa,Qi h2];simp only[Jo,Qd];rw[IH,Qa,Qi h3,Qa];unfold Cf;simp only[Jo,Qd,ht,Qa,show((0:Int) != 0)=false from rfl,hv]
open Classical in
def Qg0 {α:Type}{a b:L_ α}(hl:a.length=b.length)(hm:a.length<=maxLen){body:Int->O_ (Int⊕(Unit⊕Unit))}
  (hs:∀(i:Nat) x y,a[i]? = C x->b[i]? = C y->body (i:Int)=C (bif !(decide (x=y))then .inr (.inl ())else .inl (Qm ((i:Int)+1))))
  (hf:body (a.length:Int)=C (.inr (.inr ()))):Qt body 0=C (bif decide (a=b)then .inr ()else .inl ()):=by
 have h:=Px (body:=body) (l:=a) (λi=>(i:Int)) (λi x=>!(decide (b[i]? = C x))) (.inl ()) (.inr ()) (λi x O hx=>by
  have hy:=QN (show i<b.length by omega);rw[hs i x _ hx hy,hy,Qr O hm];have:decide (C b[i]=C x)=decide (x=b[i]):=by rw[decide_eq_decide];exact⟨λh=>(Option.some.inj h).symm,λh=>by rw[h]⟩
  rw[this]) hf rfl
 refine Eq.trans h ?_;congr 1;by_cases e:a=b
 ·subst e;have:CJ (λi x=>!(decide (a[i]? = C x))) 0 a=false:=ZK.2 λi x hx=>by simp[hx]
  rw[this];simp
 have:CJ (λi x=>!(decide (b[i]? = C x))) 0 a=true:=by
  rw[<-Zv,ZK];intro h';refine e (List.ext_getElem? λi=>?_);by_cases O:i<a.length
  ·have:=h' i a[i] (QN O);simp only[Bk,QG]at this;rw[this,QN O]
  rw[List.getElem?_eq_none (by omega),List.getElem?_eq_none (by omega)]
 rw[this];simp[e]
open Classical in
def NO (a b:Int):(a==b)=decide (a=b):=by rw[IZ];simp
open Classical in
def HQ (a b:Int):(a != b)=!decide (a=b):=by rw[IZ];simp
def UM {α:Type}{l:L_ α}{x:α}(h:l[i]? = C x):idx l (i:Int)=C x:=by rw[QQ];exact h
def Sr {α:Type}{l:L_ α}{x:α}(h:l[i]? = C x):decide ((i:Int)<(l.length:Int))=true:=Qi (by have:=(Xb.1 h).1;omega)
def Ss {n:Nat}:decide ((n:Int)<(n:Int))=false:=Qj (by omega)
def Qoa {α:Type}{a b:L_ α}(h:a.length=b.length):((a.length:Int) != (b.length:Int))=false:=by simp[h]
def Qlw {α:Type}{a b:L_ α}(h:¬a.length=b.length):((a.length:Int) != (b.length:Int))=true:=by simp;omega
open Classical in
def QmQ {a b:LI_}(hm:a.length<=maxLen):Wx a b=C (decide (a=b)):=by
 unfold Wx;by_cases h:a.length=b.length
 ·rw[Qoa h,Qg0 h hm (λi x y O hy=>by
   show Cg a b (i:Int)=_;unfold Cg;rw[Sr O,UM O,UM hy];simp only[Qq,Qa,HQ];by_cases e:x=y<;>simp[e]) (by
   show Cg a b (a.length:Int)=_;unfold Cg;rw[Ss];rfl)]
  by_cases e:a=b<;>simp[e,QbV,QbW]
 rw[Qlw h];have:a≠b:=λe=>h (by rw[e]);simp[this]
open Classical in
def Quh (x y:Int×Int):((x.1==y.1)&&(x.2==y.2))=decide (x=y):=by
 rw[IZ];simp[Prod.ext_iff]
open Classical in
def Qui {a b:QBg}(hm:a.length<=maxLen):Sm a b=C (decide (a=b)):=by
 unfold Sm;by_cases h:a.length=b.length
 ·rw[Qoa h,Qg0 h hm (λi x y O hy=>by
   show Cs a b (i:Int)=_;unfold Cs;rw[Sr O,UM O,UM hy];simp only[Qq,Qa];rw[Quh];by_cases e:x=y<;>simp[e]) (by
   show Cs a b (a.length:Int)=_;unfold Cs;rw[Ss];rfl)]
  by_cases e:a=b<;>simp[e,Qck,Qcl]
 rw[Qlw h];have:a≠b:=λe=>h (by rw[e]);simp[this]
open Classical in
def Qwv {a b:L_ QBg}(hm:a.length<=maxLen)(hx:∀x∈a,x.length<=maxLen):HN a b=C (decide (a=b)):=by
 unfold HN;by_cases O:a.length=b.length
 ·rw[Qoa O,Qg0 O hm (λi x y h hy=>by
   show GZ a b (i:Int)=_;unfold GZ;rw[Sr h,UM h,UM hy];simp only[Qq,Qa];rw[Qui (hx x (Xx h))];by_cases e:x=y<;>simp[e]) (by
   show GZ a b (a.length:Int)=_;unfold GZ;rw[Ss];rfl)]
  by_cases e:a=b<;>simp[e,SF,SG]
 rw[Qlw O];have:a≠b:=λe=>O (by rw[e]);simp[this]
def lenM (o:Qo):Prop:=o.Vars.length<=maxLen/\o.Ins.length<=maxLen/\o.Outs.length<=maxLen
def Qvi (a b:Qo):a=b↔a.Task=b.Task/\a.Vars=b.Vars/\a.Ins=b.Ins/\a.Outs=b.Outs:=by
 cases a;cases b;simp
def Quj (a b:QZ):a=b↔a.Most=b.Most/\a.Enough=b.Enough/\a.Open=b.Open/\a.Done=b.Done/\a.Failed=b.Failed:=by
 cases a;cases b;simp
def Qvj (a b:Qg):a=b↔a.Id=b.Id/\a.Mode=b.Mode/\a.Batch=b.Batch/\a.Until=b.Until:=by
 cases a;cases b;simp
def Qvk (a b:Qz):a=b↔a.M=b.M/\a.Items=b.Items/\a.Next=b.Next/\a.Now=b.Now:=by
 cases a;cases b;simp
open Classical in
def Quk {a b:Qo}(h:lenM a):Sn a b=C (decide (a=b)):=by
 unfold Sn Qcm Qcn;rw[QmQ h.1,QmQ h.2.1,QmQ h.2.2];simp only[NO];by_cases O:a.Task=b.Task<;>by_cases e2:a.Vars=b.Vars<;>by_cases e3:a.Ins=b.Ins<;>by_cases e4:a.Outs=b.Outs<;>simp[Qvi,O,e2,e3,e4]
open Classical in
def Qvl (a b:QZ):((a.Most==b.Most)&&((a.Enough==b.Enough)&&((a.Open==b.Open)&&((a.Done==b.Done)&&(a.Failed==b.Failed)))))=decide (a=b):=by
 rw[IZ];simp[Quj]
open Classical in
def Qul {a b:Qg}(h:lenM a.Mode):HO a b=C (decide (a=b)):=by
 unfold HO SH SI;rw[Quk h,Qvl];simp only[NO];by_cases O:a.Id=b.Id<;>by_cases e2:a.Batch=b.Batch<;>by_cases e3:a.Until=b.Until<;>by_cases e4:a.Mode=b.Mode<;>simp[Qvj,O,e2,e3,e4]
open Classical in
def Qww {a b:L_ Qg}(hm:a.length<=maxLen)(hx:∀x∈a,lenM x.Mode):OL a b=C (decide (a=b)):=by
 unfold OL;by_cases O:a.length=b.length
 ·rw[Qoa O,Qg0 O hm (λi x y h hy=>by
   show Bg a b (i:Int)=_;unfold Bg;rw[Sr h,UM h,UM hy];simp only[Qq,Qa];rw[Qul (hx x (Xx h))];by_cases e:x=y<;>simp[e]) (by
   show Bg a b (a.length:Int)=_;unfold Bg;rw[Ss];rfl)]
  by_cases e:a=b<;>simp[e,Qbd,Qbe]
 rw[Qlw O];have:a≠b:=λe=>O (by rw[e]);simp[this]
def Qtf (c:Qz):Prop:=c.M.length<=maxLen/\(∀x∈c.M,x.length<=maxLen)/\c.Items.length<=maxLen/\∀x∈c.Items,lenM x.Mode
open Classical in
def QqP {a b:Qz}(h:Qtf a):Mp a b=C (decide (a=b)):=by
 unfold Mp Qco Qcp;rw[Qwv h.1 h.2.1,Qww h.2.2.1 h.2.2.2];simp only[NO];by_cases O:a.Next=b.Next<;>by_cases e2:a.Now=b.Now<;>by_cases e3:a.M=b.M<;>by_cases e4:a.Items=b.Items<;>simp[Qvk,O,e2,e3,e4]
def SJ (x:Qg):Prop:=x.Mode.Vars.length<=17592186044416/\x.Mode.Ins.length<=17592186044416/\x.Mode.Outs.length<=17592186044416
def Tz {s:LI_}(h:s.length<=17592186044416):Xt s=C s:=by
 unfold Xt;rw[YI (by show(0+s.length)*8<=140737488355328;omega)];simp
def Qnb (h:SJ x):Fs x=C x:=by
 unfold Fs;rw[Tz h.1,Tz h.2.1,Tz h.2.2];rfl
def dropL (l:L_ Qg)(id:Int):L_ Qg:=l.filter λx=>x.Id != id
def Qg1 {id:Int}(hf:∀x∈l,SJ x)(hl:l.length<=4294967296)(hm:l.length<=maxLen):ET l id=C (dropL l id):=by
 unfold ET;have h:=AE (body:=λst:Int×L_ Qg=>Un l id st.1 st.2) l.length (λi s=>s=((i:Int),dropL (l.take i) id)) (λr=>r=dropL l id) (λi s hi hs=>by
  subst hs;left;have hx:l[i]? = C l[i]:=QN hi;have htk:l.take (i+1)=l.take i++[l[i]]:=by rw[UU,hx];rfl
  show ∃s',Un l id (i:Int) (dropL (l.take i) id)=_/\_;unfold Un;rw[Sr hx,UM hx];simp only[Qq,Qa];have hlen:(dropL (l.take i) id).length<=i:=by
   refine YC (QbE _ _) ?_;simp;omega
  by_cases e:l[i].Id=id
  ·have O:(l[i].Id != id)=false:=by simp[e]
   rw[O];refine⟨_,rfl,?_⟩;rw[htk];unfold dropL;rw[QdL,Bl,O,Qr hi hm];simp
  ·have O:(l[i].Id != id)=true:=by simp[e]
   rw[O,Qq,Qnb (hf _ (Xs hi)),Qa,YI (by simp;omega),Qa];refine⟨_,rfl,?_⟩;rw[htk];unfold dropL;rw[QdL,Bl,O,Qr hi hm];simp) (λs hs=>by
  subst hs;refine⟨_,?_,rfl⟩;show Un l id (l.length:Int) (dropL (l.take l.length) id)=_;unfold Un;rw[Ss,BY];rfl) (0,[]) rfl
 obtain⟨r,hr,rfl⟩:=h;rw[hr];rfl
def TA (x:Qg):L_ Qg->L_ Qg
 | []=>[x]
 | y::r=>if x.Id<y.Id then x::y::r else y::TA x r
def VR (l:L_ Qg)(x:Qg):L_ Qg:=TA x (dropL l x.Id)
def Qo5 (x:Qg):∀l:L_ Qg,(TA x l).length=l.length+1
 | []=>rfl
 | y::r=>by rw[TA];split<;>simp[Qo5 x r]
def QgE (x:Qg):∀l:L_ Qg,(TA x l).Perm (x::l)
 | []=>List.Perm.refl _
 | y::r=>by
  rw[TA];split
  ·exact List.Perm.refl _
  exact(List.Perm.cons y (QgE x r)).trans (List.Perm.swap x y r)
def Qnc (x:Qg):∀(l:L_ Qg) (k:Nat),(match Kg (λ_ y=>decide (x.Id<y.Id)) k l with | some i=>k<=i/\i-k<=l.length/\TA x l=l.take (i-k)++x::l.drop (i-k) | none=>TA x l=l++[x])
 | [],k=>rfl
 | y::r,k=>by
  rw[Kg,TA];by_cases h:x.Id<y.Id
  ·simp[h]
  have O:=Qnc x r (k+1);rw[Qj h,Qd,if_neg h];cases hs:Kg (λ_ y=>decide (x.Id<y.Id)) (k+1) r with
  | none=>rw[hs]at O;simp only at O;rw[O];rfl
  | some i=>
   rw[hs]at O;simp only at O;obtain⟨h1,h2,h3⟩:=O;refine⟨by omega,by simp;omega,?_⟩;rw[h3,show i-k=(i-(k+1))+1 by omega];rfl
def Qtg (hm:l.length<=maxLen):Js l x=C ((Kg (λ_ y=>decide (x.Id<y.Id)) 0 l).elim (-1) λi=>(i:Int)):=by
 unfold Js;have h:=Vy (body:=λst=>XY l x st) (l:=l) (λi=>(i:Int)) (λ_ y=>decide (x.Id<y.Id)) (λi=>.inl (i:Int)) (.inr ()) (λi y hi O=>by
  show XY l x (i:Int)=_;unfold XY VG;rw[Sr O,UM O,Qr hi hm];simp only[Qq,Qa];cases decide (x.Id<y.Id)<;>rfl) (by
  show XY l x (l.length:Int)=_;unfold XY;rw[Ss];rfl) (s0:=0) rfl
 rw[h];cases Kg (λ_ y=>decide (x.Id<y.Id)) 0 l<;>rfl
def Qnd (h:i<=l.length)(O:l.length+1<=4294967296):YA l (i:Int) [x]=C (l.take i++x::l.drop i):=by
 show(chk _).bind _=_;rw[Am (by simp;omega)];simp
def Qwx {α:Type}[Decidable p](h:p)(a b:α):(bif decide p then a else b)=a:=by rw[Qi h];rfl
def Qwy {α:Type}[Decidable p](h:¬p)(a b:α):(bif decide p then a else b)=b:=by rw[Qj h];rfl
def Qo6 (hf:∀x∈l,SJ x)(hx:SJ x)(hl:l.length+1<=4294967296)(hm:l.length<=maxLen):EC l x=C (VR l x):=by
 unfold EC;have hd:(dropL l x.Id).length<=l.length:=QbE _ _;rw[Qg1 hf (by omega) hm,Qa,Qtg (by omega),Qa];have h:=Qnc x (dropL l x.Id) 0;unfold MP;rw[Qnb hx];unfold VR;cases hs:Kg (λ_ y=>decide (x.Id<y.Id)) 0 (dropL l x.Id)with
 | none=>
  rw[hs]at h;simp only at h;rw[h];simp only[Option.elim,Qa];refine(Qwx (by decide) _ _).trans ?_;show(YA (dropL l x.Id) ((dropL l x.Id).length:Int) [x]).bind C=_;rw[Qnd (Yj _) (by omega)];simp
 | some i=>
  rw[hs]at h;simp only at h;obtain⟨_,O,h3⟩:=h;rw[Nat.sub_zero]at O h3;simp only[Option.elim,Qa];refine(Qwy (by omega) _ _).trans ?_;show(YA (dropL l x.Id) (i:Int) [x]).bind C=_;rw[h3,Qnd O (by omega)];rfl
def Up (l:L_ Qg):Prop:=l.Pairwise λa b=>a.Id<b.Id
def Up.ext : ∀{l m:L_ Qg},Up l->Up m->(∀x,x∈l↔x∈m)->l=m
 | [],[],_,_,_=>rfl
 | [],y::m,_,_,h=>by have:=(h y).2 YY;cases this
 | x::l,[],_,_,h=>by have:=(h x).1 YY;cases this
 | x::l,y::m,hl,hm,h=>by
  obtain⟨l1,l2⟩:=Hk.1 hl;obtain⟨m1,m2⟩:=Hk.1 hm;have e:x=y:=by
   rcases XT.1 ((h x).1 YY)with e | hx
   ·exact e
   rcases XT.1 ((h y).2 YY)with e | hy
   ·exact e.symm
   have:=m1 x hx;have:=l1 y hy;omega
  subst e;rw[Up.ext l2 m2 λz=>?_];have:=h z;simp only[XT]at this;constructor
  ·intro O;rcases this.1 (.inr O)with e | h'
   ·subst e;have:=l1 z O;omega
   exact h'
  intro O;rcases this.2 (.inr O)with e | h'
  ·subst e;have:=m1 z O;omega
  exact h'
def Up.drop (h:Up l)(id:Int):Up (dropL l id):=List.Pairwise.filter _ h
def TB {id:Int}:x∈dropL l id↔x∈l/\x.Id≠id:=by simp[dropL,Mx]
def Up.ins:∀{l:L_ Qg},Up l->(∀y∈l,y.Id≠x.Id)->Up (TA x l)
 | [],_,_=>List.pairwise_singleton _ _
 | y::r,h,hn=>by
  obtain⟨h1,h2⟩:=Hk.1 h;rw[TA];split
  ·rename_i hlt;refine Hk.2 ⟨λz O=>?_,h⟩;rcases XT.1 O with rfl | O
   ·exact hlt
   have:=h1 z O;omega
  rename_i hge;have hy:=hn y YY;refine Hk.2 ⟨λz O=>?_,Up.ins h2 λz O=>hn z (Kb _ O)⟩;rcases XT.1 ((QgE x r).mem_iff.1 O)with rfl | O
  ·omega
  exact h1 z O
def Up.put (h:Up l)(x:Qg):Up (VR l x):=(h.drop x.Id).ins λy O=>(TB.1 O).2
def QpX {z:Qg}:z∈VR l x↔z=x\/(z∈l/\z.Id≠x.Id):=by
 unfold VR;rw[(QgE x _).mem_iff,XT,TB]
def Cv (n O h:Int):DC n O h=C (decide (O<=n)&&decide (n<=h)):=rfl
open Classical in
def QjD (b:QZ):∃r,Jw b=C r:=by
 unfold Jw Lk;simp only[Cv,Qa];have h:∀c:Bool,∃r,Gw b c=C r:=λc=>by
  unfold Gw;cases c with
  | true=>exact⟨_,rfl⟩
  | false=>
   have h:=Px (body:=λst=>Yi b st) (l:=[b.Open,b.Done,b.Failed]) (λi=>(i:Int)) (λ_ x=>!(decide (0<=x)&&decide (x<=b.Most))) (.inl ()) (.inr ()) (λi x hi O=>by
    show Yi b (i:Int)=_;unfold Yi;rw[Sr O,UM O,Qr hi (by show 3<=_;decide)];simp only[Qq,Qa,Cv];cases (!(decide (0<=x)&&decide (x<=b.Most)))<;>rfl) (by
    show Yi b (([b.Open,b.Done,b.Failed].length:Nat):Int)=_;unfold Yi;rw[Ss];rfl) (s0:=0) rfl
   rw[Qd,h];cases CJ (λ(_:Nat) (x:Int)=>!(decide (0<=x)&&decide (x<=b.Most))) 0 [b.Open,b.Done,b.Failed]<;>exact⟨_,rfl⟩
 cases (!(decide (1<=b.Most)&&decide (b.Most<=16)))with
 | true=>exact h _
 | false=>exact h _
def HR (b:QZ):Bool:=((Jw b).getD false)&&!(((Kr b).getD true))
def Qo7 (b:QZ):∃r,Kr b=C r:=by
 obtain⟨r,h⟩:=QjD b;unfold Kr MK SR;rw[h];cases r with
 | true=>simp only[Qa,Qq];cases decide (b.Enough<=b.Done)<;>exact⟨_,rfl⟩
 | false=>exact⟨_,rfl⟩
def Qum (b:QZ):((Jw b).bind λx=>bif !x then C true else(Kr b).bind λy=>C y)=C (!HR b):=by
 obtain⟨r,O⟩:=QjD b;obtain⟨q,h⟩:=Qo7 b;unfold HR;rw[O,h];cases r<;>cases q<;>rfl
def US (next h:Int)(x:Qg):Bool:=decide (h<x.Id)&&decide (x.Id<next)&&decide (0<=x.Until)&&HR x.Batch
def upF (next:Int):Int->L_ Qg->Bool
 | _,[]=>true
 | h,x::l=>US next h x&&upF next x.Id l
def Qun (x:Qg)(h next:Int):Pa x h next=C (!US next h x):=by
 unfold Pa;have:=Qum x.Batch;unfold US;by_cases O:x.Id<=h
 ·rw[Qi O,Qj (show ¬h<x.Id by omega)];rfl
 rw[Qj O,Qi (show h<x.Id by omega)];by_cases h2:next<=x.Id
 ·rw[Qi h2,Qj (show ¬x.Id<next by omega)];rfl
 rw[Qj h2,Qi (show x.Id<next by omega)];by_cases h3:x.Until<0
 ·rw[Qi h3,Qj (show ¬0<=x.Until by omega)];rfl
 rw[Qj h3,Qi (show 0<=x.Until by omega)];simp only[Qd,TH];exact this
def Qth (hm:l.length<=maxLen):Ot l next=C (upF next 0 l&&decide ((l.length:Int)<=64)):=by
 unfold Ot;have h:=Mq (body:=λst:Int×Int=>Eg l next st.1 st.2) (l:=l) (λi t=>(t,(i:Int))) (λi t x=>bif US next t x then .inl x.Id else .inr (.inl ())) (λ_=>.inr ()) (λi t x hi O=>by
  show Eg l next t (i:Int)=_;unfold Eg Qas;rw[Sr O,UM O,Qr hi hm];simp only[Qq,Qa,Qun];cases US next t x<;>rfl) (λt=>by
  show Eg l next t (l.length:Int)=_;unfold Eg;rw[Ss];rfl) 0 (s0:=(0,0)) rfl
 rw[h];have key:∀(l:L_ Qg) (i:Nat) (t:Int),EF (λ(_:Nat) (t:Int) (x:Qg)=>bif US next t x then Sum.inl x.Id else Sum.inr (Sum.inl ())) (λ_=>(Sum.inr ():Unit⊕Unit)) i t l=bif upF next t l then .inr ()else .inl ():=by
  intro l
  induction l with
  | nil=>intro i t;rfl
  | cons x l ih=>
   intro i t;rw[EF,upF];cases US next t x with
   | true=>simpa using ih (i+1) x.Id
   | false=>rfl
 rw[key];cases upF next 0 l<;>rfl
def FW:∀{l:L_ Qg} {O:Int},upF next O l=true↔Up l/\∀x∈l,O<x.Id/\x.Id<next/\0<=x.Until/\HR x.Batch=true
 | [],O=>⟨λ_=>⟨List.Pairwise.nil,λx h=>by cases h⟩,λ_=>rfl⟩
 | x::l,O=>by
  rw[upF,QH,FW (l:=l)];unfold US Up;simp only[QH,QG,Hk,XT,forall_eq_or_imp];constructor
  ·rintro ⟨⟨⟨⟨a1,a2⟩,a3⟩,a4⟩,a5,a6⟩;exact⟨⟨λy hy=>(a6 y hy).1,a5⟩,⟨a1,a2,a3,a4⟩,λy hy=>⟨by have:=(a6 y hy).1;omega,(a6 y hy).2⟩⟩
  rintro ⟨⟨a1,a5⟩,⟨b1,b2,b3,b4⟩,a6⟩;exact⟨⟨⟨⟨b1,b2⟩,b3⟩,b4⟩,a5,λy hy=>⟨a1 y hy,(a6 y hy).2⟩⟩
def lens (x:Qg):Nat:=x.Mode.Vars.length+x.Mode.Ins.length+x.Mode.Outs.length
def SJ.of (h:lens x<=1000):SJ x:=by unfold lens at h;unfold SJ;omega
def Quo {m:Qo}(h:m.Vars.length<=17592186044416/\m.Ins.length<=17592186044416/\m.Outs.length<=17592186044416):lenM m:=by
 have:(17592186044416:Nat)<=maxLen:=by decide
 exact⟨YC h.1 this,YC h.2.1 this,YC h.2.2 this⟩
def SJ.lenM (h:SJ x):lenM x.Mode:=Quo (by unfold SJ at h;omega)
section
variable {Pe:Int->Int->Prop}
def HOk (Pe:Int->Int->Prop)(l:L_ (O_ Nat))(t:L_ Qe):Prop:=(∀o∈l,∃k,o=C k/\k<t.length)/\∀e∈t,Pe e.id e.at_
def HOk.at {l:L_ (O_ Nat)}(h:HOk Pe l t){i:Int}(h0:0<=i)(h1:i<l.length):∃k e,idx l i=C (C k)/\t[k]? = C e/\k<t.length/\Pe e.id e.at_/\C k∈l:=by
 have hi:i.toNat<l.length:=by omega
 obtain⟨k,hk,O⟩:=h.1 _ (Xs hi);refine⟨k,t[k],?_,QN O,O,h.2 _ (Xs O),?_⟩
 ·rw[IG h0,QN hi,hk]
 rw[<-hk];exact Xs hi
def HOk.setT {l:L_ (O_ Nat)}(h:HOk Pe l t)(hk:t[k]? = C e)(v:Int):HOk Pe l (t.set k ⟨e.id,e.at_,v⟩):=by
 refine⟨λo ho=>?_,λx O=>?_⟩
 ·obtain⟨j,h1,h2⟩:=h.1 o ho;exact⟨j,h1,by rw[QdM];exact h2⟩
 rcases QdN O with O | rfl
 ·exact h.2 x O
 exact h.2 e (Xx hk)
def HOk.setL {l:L_ (O_ Nat)}(h:HOk Pe l t){o:O_ Nat}(ho:o∈l)(i:Nat):HOk Pe (l.set i o) t:=by
 refine⟨λx O=>?_,h.2⟩;rcases QdN O with O | rfl
 ·exact h.1 x O
 exact h.1 _ ho
def Qti {a b:Nat}(h:a<=b){o:O_ Nat}(O:okP a o=true):okP b o=true:=by
 cases o with
 | none=>rfl
 | some k=>simp only[okP,QG]at O ⊢;omega
def Qtj {m:L_ (Int×O_ Nat)}{k:Int}{v:O_ Nat}{q:Int×O_ Nat}(h:q∈Jl Ey m k v):q=(k,v)\/q∈m:=by
 have ins:∀m:L_ (Int×O_ Nat),q∈II Ey m k v->q=(k,v)\/q∈m:=by
  intro m
  induction m with
  | nil=>intro h;exact .inl (by simpa[II] using h)
  | cons p m O=>
   obtain⟨a,x⟩:=p;intro h;rw[II]at h;split at h
   ·rcases XT.1 h with h | h
    ·exact .inl h
    exact .inr h
   rcases XT.1 h with h | h
   ·exact .inr (h▸YY)
   exact(O h).imp id (Kb _)
 have rep:∀m:L_ (Int×O_ Nat),q∈LV m k v->q=(k,v)\/q∈m:=by
  intro m
  induction m with
  | nil=>intro h;cases h
  | cons p m O=>
   obtain⟨a,x⟩:=p;intro h;rw[LV]at h;split at h
   ·rcases XT.1 h with h | h
    ·exact .inl h
    exact .inr (Kb _ h)
   rcases XT.1 h with h | h
   ·exact .inr (h▸YY)
   exact(O h).imp id (Kb _)
 unfold Jl at h;split at h
 ·exact rep m h
 exact ins m h
end
def QmR {id:Int}(hm:l.length<=maxLen):Kl l id=C ((Kg (λ_ y=>y.Id==id) 0 l).elim (-1) λi=>(i:Int)):=by
 unfold Kl KK;have h:=Vy (body:=λst=>XX l id st) (l:=l) (λi=>(i:Int)) (λ_ y=>y.Id==id) (λi=>.inl (i:Int)) (.inr ()) (λi y hi O=>by
  show XX l id (i:Int)=_;unfold XX SV;rw[Sr O,UM O,Qr hi hm];simp only[Qq,Qa];cases (y.Id==id)<;>rfl) (by
  show XX l id (l.length:Int)=_;unfold XX;rw[Ss];rfl) (s0:=0) rfl
 rw[h];cases Kg (λ_ y=>y.Id==id) 0 l<;>rfl
def Qne {id:Int}(hm:l.length<=maxLen)(h:∀x∈l,x.Id≠id):Kl l id=C (-1):=by
 rw[QmR hm];cases hs:Kg (λ_ y=>y.Id==id) 0 l with
 | none=>rfl
 | some i=>
  obtain⟨j,x,_,hx,O⟩:=ZL hs;exact absurd (by simpa using O) (h x (Xx hx))
def Qcu {id:Int}(hm:l.length<=maxLen)(hx:x∈l)(h:x.Id=id):∃i:Nat,∃y,Kl l id=C (i:Int)/\l[i]? = C y/\y.Id=id:=by
 rw[QmR hm];cases O:Kg (λ_ y=>y.Id==id) 0 l with
 | none=>
  obtain⟨i,hi,rfl⟩:=Ug.1 hx;have:=Qlg O i _ (QN hi);simp[h]at this
 | some i=>
  obtain⟨j,y,e,hy,h⟩:=ZL O;rw[Gq]at e;subst e;exact⟨i,y,rfl,hy,by simpa using h⟩
def Up.inj : ∀{l:L_ Qg},Up l->∀{x y:Qg},x∈l->y∈l->x.Id=y.Id->x=y
 | [],_,_,_,h,_,_=>by cases h
 | z::l,h,x,y,hx,hy,e=>by
  obtain⟨h1,h2⟩:=Hk.1 h;rcases XT.1 hx with ex | hx'
  ·rcases XT.1 hy with ey | O
   ·rw[ex,ey]
   have:=h1 y O;rw[ex]at e;omega
  rcases XT.1 hy with ey | O
  ·have:=h1 x hx';rw[ey]at e;omega
  exact Up.inj h2 hx' O e
def Qr2 {id:Int}(h:∀x∈l,x.Id≠id):dropL l id=l:=List.filter_eq_self.2 λx O=>by simpa using h x O
def QjE : ∀{l:L_ Qg} {x:Qg},Up l->x∈l->(dropL l x.Id).length+1=l.length
 | [],_,_,h=>by cases h
 | z::l,x,h,O=>by
  obtain⟨h1,h2⟩:=Hk.1 h;unfold dropL;rcases XT.1 O with rfl | O
  ·have hn:∀y∈l,y.Id≠x.Id:=λy hy=>by have:=h1 y hy;omega
   rw[Bl,if_neg (by simp)];have:=Qr2 hn;unfold dropL at this;rw[this];rfl
  have:=h1 x O;have ih:=QjE h2 O;unfold dropL at ih;rw[Bl,if_pos (by simp;omega),Uf,ih,Uf]
abbrev Ky := Int×Int
def Hg (a b:Ky):Prop:=a.1<b.1\/(a.1=b.1/\a.2<b.2)
instance (a b:Ky):Decidable (Hg a b):=by unfold Hg;infer_instance
def WE (a b:Ky):Prop:=¬Hg b a
def WE.refl (a:Ky):WE a a:=by unfold WE Hg;omega
def WE.trans {a b c:Ky}(h:WE a b)(k:WE b c):WE a c:=by unfold WE Hg at *;omega
def Hg.le {a b:Ky}(h:Hg a b):WE a b:=by unfold WE Hg at *;omega
def WE.anti {a b:Ky}(h:WE a b)(k:WE b a):a=b:=by
 obtain⟨O,a2⟩:=a;obtain⟨b1,b2⟩:=b;unfold WE Hg at *;simp only at h k;have:O=b1:=by omega
 have:a2=b2:=by omega
 subst_vars;rfl
def WE.tot {a b:Ky}(h:¬WE a b):WE b a:=by unfold WE Hg at *;omega
def gt (K:L_ Ky)(i:Nat):Ky:=K.getD i (0,0)
def Qlx {K:L_ Ky}(h:i<K.length):gt K i=K[i]:=by simp[gt,h]
def swp (i j:Nat)(K:L_ Ky):L_ Ky:=(K.set i (gt K j)).set j (gt K i)
def Qg2 {K:L_ Ky}(hi:i<K.length)(hj:j<K.length)(c:Nat):gt (swp i j K) c=if c=j then gt K i else if c=i then gt K j else gt K c:=by
 unfold swp
 conv=>lhs;unfold gt
 rw[Ok];by_cases h:c=j
 ·subst h;rw[if_pos rfl,TJ (by simpa using hj)];rfl
 rw[if_neg h,PO (Ne.symm h)];by_cases O:c=i
 ·subst O;rw[if_pos rfl,TJ hi];rfl
 rw[if_neg O,PO (Ne.symm O)];unfold gt;rw[Ok]
def QjF {K:L_ Ky}(hi:i<K.length)(hj:j<K.length):(swp i j K).Perm K:=by
 rw[List.perm_iff_count];intro a;unfold swp;rw[Qlx hi,Qlx hj];have h1:j<(K.set i K[j]).length:=by simpa using hj
 rw[List.count_set h1,List.count_set hi];have hget:(K.set i K[j])[j]=K[j]:=by
  rw[List.getElem_set];split<;>simp_all
 rw[hget];have c1:K[i]∈K:=Xs hi;have c2:K[j]∈K:=Xs hj;by_cases h:K[i]=a<;>by_cases O:K[j]=a
 ·have:=List.count_pos_iff.2 (h▸c1);simp[h,O];omega
 ·have:=List.count_pos_iff.2 (h▸c1);simp[h,O];omega
 ·have:=List.count_pos_iff.2 (O▸c2);simp[h,O]
 simp[h,O]
def TC (n:Nat)(K:L_ Ky):Prop:=∀c,0<c->c<n->WE (gt K ((c-1) / 2)) (gt K c)
def TC.min {n:Nat}{K:L_ Ky}(h:TC n K):∀c,c<n->WE (gt K 0) (gt K c):=by
 intro c
 induction c using Nat.strongRecOn with
 | ind c ih=>
  intro hc;by_cases O:c=0
  ·subst O;exact WE.refl _
  exact(ih ((c-1) / 2) (by omega) (by omega)).trans (h c (by omega) hc)
def QeD (n:Nat)(K:L_ Ky)(j:Nat):Prop:=(∀c,0<c->c<n->c≠j->WE (gt K ((c-1) / 2)) (gt K c))/\∀c,0<c->c<n->(c-1) / 2=j->0<j->WE (gt K ((j-1) / 2)) (gt K c)
def QeD.done {n:Nat}{K:L_ Ky}(h:QeD n K j)(O:j=0\/WE (gt K ((j-1) / 2)) (gt K j)):TC n K:=λc h0 hc=>by
 by_cases e:c=j
 ·subst e;rcases O with rfl | O
  ·omega
  exact O
 exact h.1 c h0 hc e
def QeD.up {n:Nat}{K:L_ Ky}(h:QeD n K j)(hj:j<n)(hn:n<=K.length)(h0:j≠0)(hlt:Hg (gt K j) (gt K ((j-1) / 2))):QeD n (swp ((j-1) / 2) j K) ((j-1) / 2):=by
 have hi:(j-1) / 2<K.length:=by omega
 have hj2:j<K.length:=by omega
 have g:=Qg2 (i:=(j-1) / 2) (j:=j) hi hj2;generalize hI:(j-1) / 2=i at *;have hij:i<j:=by omega
 constructor
 ·intro c O cn ci;rw[g,g];by_cases e:c=j
  ·subst e;rw[if_pos rfl,hI,if_neg (by omega),if_pos rfl];exact hlt.le
  rw[if_neg e,if_neg ci];by_cases p:(c-1) / 2=j
  ·rw[if_pos p];have:=h.2 c O cn p (by omega);rwa[hI]at this
  rw[if_neg p];by_cases p2:(c-1) / 2=i
  ·rw[if_pos p2];have:=h.1 c O cn e;rw[p2]at this;exact hlt.le.trans this
  rw[if_neg p2];exact h.1 c O cn e
 intro c O cn p i0;have hp:(i-1) / 2<i:=by omega
 rw[g,g,if_neg (by omega),if_neg (by omega)];have hgi:WE (gt K ((i-1) / 2)) (gt K i):=h.1 i i0 (by omega) (by omega);by_cases e:c=j
 ·subst e;rw[if_pos rfl];exact hgi
 rw[if_neg e,if_neg (by omega)];have:=h.1 c O cn e;rw[p]at this;exact hgi.trans this
def QeE (n:Nat)(K:L_ Ky)(i:Nat):Prop:=(∀c,0<c->c<n->(c-1) / 2≠i->WE (gt K ((c-1) / 2)) (gt K c))/\∀c,0<c->c<n->(c-1) / 2=i->0<i->WE (gt K ((i-1) / 2)) (gt K c)
def QeE.done {n:Nat}{K:L_ Ky}(h:QeE n K i)(hc:∀c,0<c->c<n->(c-1) / 2=i->WE (gt K i) (gt K c)):TC n K:=λc h0 O=>by
 by_cases e:(c-1) / 2=i
 ·rw[e];exact hc c h0 O e
 exact h.1 c h0 O e
def QeE.down {n:Nat}{K:L_ Ky}(h:QeE n K i)(hj:j<n)(hn:n<=K.length)(hp:(j-1) / 2=i)(h0:0<j)(hlt:Hg (gt K j) (gt K i))(ho:∀c,0<c->c<n->(c-1) / 2=i->WE (gt K j) (gt K c)):QeE n (swp i j K) j:=by
 have hij:i<j:=by omega
 have g:=Qg2 (i:=i) (j:=j) (K:=K) (by omega) (by omega);constructor
 ·intro c O cn p;rw[g,g,if_neg p];by_cases e:c=j
  ·subst e;rw[if_pos rfl,hp,if_pos rfl];exact hlt.le
  rw[if_neg e];by_cases p2:(c-1) / 2=i
  ·rw[if_pos p2,if_neg (by omega)];exact ho c O cn p2
  rw[if_neg p2];by_cases e2:c=i
  ·subst e2;rw[if_pos rfl];exact h.2 j h0 hj hp O
  rw[if_neg e2];exact h.1 c O cn p2
 intro c O cn p _;rw[g,g,hp,if_neg (by omega),if_pos rfl,if_neg (by omega),if_neg (by omega)];have:=h.1 c O cn (by omega);rwa[p]at this
def Srt (S:L_ Ky):Prop:=S.Pairwise WE
def Qtk {s:Ky}{S K:L_ Ky}(hS:Srt (s::S))(hp:(s::S).Perm K)(hh:TC K.length K)(O:0<K.length):gt K 0=s:=by
 have h1:gt K 0∈s::S:=hp.mem_iff.2 (by rw[Qlx O];exact Xs O);have h2:WE s (gt K 0):=by
  rcases XT.1 h1 with h | h
  ·rw[h];exact WE.refl _
  exact List.rel_of_pairwise_cons hS h
 have h3:s∈K:=hp.mem_iff.1 YY;obtain⟨i,hi,rfl⟩:=Ug.1 h3;have:=hh.min i hi;rw[Qlx hi]at this;exact this.anti h2
def ky (t:L_ Qe)(o:O_ Nat):Ky:=match o with
 | some k=>match t[k]? with
  | some e=>(e.at_,e.id)
  | none=>(0,0)
 | none=>(0,0)
def ZU (t:L_ Qe)(k:Nat):ky t (C k)=match t[k]? with
  | some e=>(e.at_,e.id)
  | none=>(0,0):=rfl
def YJ (t:L_ Qe)(l:L_ (O_ Nat)):L_ Ky:=l.map (ky t)
abbrev SK (l:L_ (O_ Nat))(t:L_ Qe):Prop:=HOk (λ_ _=>True) l t
def DZ (t:L_ Qe)(l:L_ (O_ Nat)):(YJ t l).length=l.length:=by simp[YJ]
def Qo8 {l:L_ (O_ Nat)}(h:SK l t)(hi:i<l.length):∃k e,idx l (i:Int)=C (C k)/\t[k]? = C e/\gt (YJ t l) i=(e.at_,e.id):=by
 obtain⟨k,e,O,h2,_⟩:=h.at (i:=(i:Int)) (by omega) (by omega);refine⟨k,e,O,h2,?_⟩;rw[QQ]at O;unfold gt YJ;rw[Ok,Yh,O];show ky t (C k)=_;rw[ZU,h2]
def QeF {l:L_ (O_ Nat)}(h:SK l t)(hi:i<l.length)(hj:j<l.length):WQ l i j t=C (decide (Hg (gt (YJ t l) i) (gt (YJ t l) j))):=by
 obtain⟨k,e,h1,h2,h3⟩:=Qo8 h hi;obtain⟨k',e',h1',h2',h3'⟩:=Qo8 h hj;unfold WQ Nt Nu;simp only[h1,h1',h2,h2',Qa,h3,h3'];have hd:∀p:Prop,[Decidable p]->(p↔Hg (e.at_,e.id) (e'.at_,e'.id))->decide p=decide (Hg (e.at_,e.id) (e'.at_,e'.id)):=λp _ hp=>decide_eq_decide.2 hp;by_cases O:e.at_<e'.at_
 ·rw[Qi O,Qq,Qa,Qi (show Hg _ _ from .inl O)]
 rw[Qj O,Qd];by_cases c2:e.at_=e'.at_
 ·rw[show(e.at_==e'.at_)=true by simpa using c2,Qq,Qa];exact congrArg C (hd _ ⟨λh=>.inr ⟨c2,h⟩,λh=>by rcases h with h | h;exact absurd h O;exact h.2⟩)
 rw[show(e.at_==e'.at_)=false by simpa using c2,Qd,Qa,Qj];rintro (h | h)
 ·exact O h
 exact c2 h.1
def Qo9 (h:t[k]? = C e)(v:Int)(o:O_ Nat):ky (t.set k ⟨e.id,e.at_,v⟩) o=ky t o:=by
 cases o with
 | none=>rfl
 | some m=>
  rw[ZU,ZU];by_cases c:k=m
  ·subst c;have:=(Xb.1 h).1;rw[TJ this,h]
  rw[PO c]
def QjG {l:L_ (O_ Nat)}(h:SK l t)(hi:i<l.length)(hj:j<l.length):
  ∃p,KE l i j t=C p/\SK p.1 p.2/\p.1.length=l.length/\p.2.length=t.length/\YJ p.2 p.1=swp i j (YJ t l):=by
 obtain⟨k,e,h1,h2,h3,_,m1⟩:=h.at (i:=(i:Int)) (by omega) (by omega);obtain⟨k',e',h1',h2',h3',_,m1'⟩:=h.at (i:=(j:Int)) (by omega) (by omega);have hA:SK (l.set (i:Int).toNat (C k')) t:=h.setL m1' _;have lA:(l.set (i:Int).toNat (C k')).length=l.length:=QdM;obtain⟨kA,eA,hA1,hA2,_⟩:=hA.at (i:=(j:Int)) (by omega) (by rw[lA];omega);have hB:SK ((l.set (i:Int).toNat (C k')).set (j:Int).toNat (C k)) t:=by
  refine⟨λx hx=>?_,h.2⟩;rcases QdN hx with hx | rfl
  ·exact hA.1 x hx
  exact h.1 _ m1
 have lB:((l.set (i:Int).toNat (C k')).set (j:Int).toNat (C k)).length=l.length:=by rw[QdM,QdM]
 obtain⟨k1,O,g1,g2,_⟩:=hB.at (i:=(i:Int)) (by omega) (by rw[lB];omega);obtain⟨k2,e2,f1,f2,f3,_⟩:=hB.at (i:=(j:Int)) (by omega) (by rw[lB];omega);have hC:=hB.setT g2 (i:Int);have lt2:k2<(t.set k1 ⟨O.id,O.at_,(i:Int)⟩).length:=by rw[QdM];exact f3
 have g3:(t.set k1 ⟨O.id,O.at_,(i:Int)⟩)[k2]? = C (t.set k1 ⟨O.id,O.at_,(i:Int)⟩)[k2]:=QN lt2;have hD:=hC.setT g3 (j:Int);refine⟨(_,_),?_,hD,lB,by simp,?_⟩
 ·unfold KE;simp only[h1,h1',hA1,g1,f1,g2,g3,Qa]
 have e1':gt (YJ t l) i=ky t (C k):=by
  rw[QQ]at h1;unfold gt YJ;rw[Ok,Yh,h1];rfl
 have e2':gt (YJ t l) j=ky t (C k'):=by
  rw[QQ]at h1';unfold gt YJ;rw[Ok,Yh,h1'];rfl
 unfold swp;rw[e1',e2'];show List.map _ _=_;have hf:∀o,ky ((t.set k1 ⟨O.id,O.at_,(i:Int)⟩).set k2 ⟨(t.set k1 ⟨O.id,O.at_,(i:Int)⟩)[k2].id,(t.set k1 ⟨O.id,O.at_,(i:Int)⟩)[k2].at_,(j:Int)⟩) o=ky t o:=λo=>by rw[Qo9 g3,Qo9 g2]
 rw[TL λo _=>hf o,List.map_set,List.map_set];rfl
def Qvm : ∀(j:Nat) {l:L_ (O_ Nat)} {t:L_ Qe},SK l t->j<l.length->l.length<=4000000->
  ∃p,Qt (λst=>ED st.1 st.2.1 st.2.2) ((j:Int),t,l)=C p/\SK p.2 p.1/\p.2.length=l.length/\p.1.length=t.length/\(YJ p.1 p.2).Perm (YJ t l)/\(QeD l.length (YJ t l) j->TC l.length (YJ p.1 p.2)):=by
 intro j
 induction j using Nat.strongRecOn with
 | ind j ih=>
  intro l t h hj hl;have hi:(Qm (Int.tdiv (Qm ((j:Int)-1)) 2))=(((j-1) / 2:Nat):Int):=by
   by_cases h0:j=0
   ·subst h0;decide
   rw[Xj (n:=(j:Int)-1) (by omega)];have:Int.tdiv ((j:Int)-1) 2=(((j-1) / 2:Nat):Int):=by
    rw[show(j:Int)-1=((j-1:Nat):Int) by omega];exact(Int.ofNat_tdiv (j-1) 2).symm
   rw[this,Xj (by omega)]
  rw[Yn];show ∃p,(ED (j:Int) t l).bind _=C p/\_;unfold ED NY;rw[hi];by_cases e:(j-1) / 2=j
  ·have h0:j=0:=by omega
   rw[e,beq_self_eq_true];exact⟨_,rfl,h,rfl,rfl,List.Perm.refl _,λO=>O.done (.inl h0)⟩
  have e1:((((j-1) / 2:Nat):Int)==(j:Int))=false:=by simp;omega
  have hlt:(j-1) / 2<j:=by omega
  rw[e1,Qd,QeF h hj (by omega),Qa,Qa];unfold NZ;by_cases c:Hg (gt (YJ t l) j) (gt (YJ t l) ((j-1) / 2))
  ·rw[Qi c,hi];obtain⟨p,hp,h1,h2,h3,h4⟩:=QjG h (i:=(j-1) / 2) (j:=j) (by omega) hj;rw[Jo,Qd,hp,Qa,YI h2,Qa];obtain⟨q,g1,g2,g3,g4,g5,g6⟩:=ih ((j-1) / 2) hlt h1 (by omega) (by omega);refine⟨q,g1,g2,by omega,by omega,?_,λO=>?_⟩
   ·rw[h4]at g5;exact g5.trans (QjF (by rw[DZ];omega) (by rw[DZ];omega))
   rw[h4,h2]at g6;exact g6 (O.up hj (by rw[DZ];exact Yj _) (by omega) c)
  rw[Qj c];exact⟨_,rfl,h,rfl,rfl,List.Perm.refl _,λO=>O.done (.inr c)⟩
def Qup {n:Nat}{l:L_ (O_ Nat)}(h:SK l t)(hi:i<l.length)(hn:n<=l.length)(hl:l.length<=4000000):
  (n<=2*i+1/\Km (n:Int) (i:Int) t l=C (.inr ((i:Int),t,l)))\/
  ∃j:Nat,i<j/\j<n/\(j-1) / 2=i/\(∀c,0<c->c<n->(c-1) / 2=i->WE (gt (YJ t l) j) (gt (YJ t l) c))/\Km (n:Int) (i:Int) t l=YQ l (i:Int) t (j:Int):=by
 unfold Km;have e1:Qm ((Qm (2*(i:Int)))+1)=((2*i+1:Nat):Int):=by
  rw[QgV,Xj (by omega)];omega
 have e2:Qm (((2*i+1:Nat):Int)+1)=((2*i+2:Nat):Int):=by rw[Xj (by omega)];omega
 rw[e1];by_cases hc:n<=2*i+1
 ·rw[Qi (show(n:Int)<=((2*i+1:Nat):Int) by omega)];exact .inl ⟨hc,rfl⟩
 right;rw[Qj (show ¬(n:Int)<=((2*i+1:Nat):Int) by omega),Qj (show ¬((2*i+1:Nat):Int)<0 by omega),QbD,Qd];unfold Mg;rw[e1,e2];have two:∀c,0<c->c<n->(c-1) / 2=i->c=2*i+1\/c=2*i+2:=λc O cn p=>by omega
 by_cases hc2:2*i+2<n
 ·rw[Qi (show((2*i+2:Nat):Int)<(n:Int) by omega),Qq,QeF h (by omega) (by omega),Qa,Qa];unfold AU;rw[e1,e2];by_cases cl:Hg (gt (YJ t l) (2*i+2)) (gt (YJ t l) (2*i+1))
  ·rw[Qi cl];exact⟨2*i+2,by omega,hc2,by omega,λc O cn p=>by
    rcases two c O cn p with rfl | rfl
    ·exact cl.le
    exact WE.refl _,rfl⟩
  rw[Qj cl];exact⟨2*i+1,by omega,by omega,by omega,λc O cn p=>by
   rcases two c O cn p with rfl | rfl
   ·exact WE.refl _
   exact cl,rfl⟩
 rw[Qj (show ¬((2*i+2:Nat):Int)<(n:Int) by omega),Qd,Qa];unfold AU;rw[e1];exact⟨2*i+1,by omega,by omega,by omega,λc O cn p=>by
  have:c=2*i+1:=by omega
  subst this;exact WE.refl _,rfl⟩
def Qtl {n:Nat}:∀(m i:Nat) {l:L_ (O_ Nat)} {t:L_ Qe},n-i=m->SK l t->i<l.length->n<=l.length->l.length<=4000000->
  ∃p,Qt (λst=>Km (n:Int) st.1 st.2.1 st.2.2) ((i:Int),t,l)=C p/\SK p.2.2 p.2.1/\p.2.2.length=l.length/\p.2.1.length=t.length/\(YJ p.2.1 p.2.2).Perm (YJ t l)/\(∀c,n<=c->gt (YJ p.2.1 p.2.2) c=gt (YJ t l) c)/\
   (QeE n (YJ t l) i->TC n (YJ p.2.1 p.2.2)):=by
 intro m
 induction m using Nat.strongRecOn with
 | ind m ih=>
  intro i l t hm h hi hn hl;rw[Yn];rcases Qup h hi hn hl with⟨hc,hs⟩|⟨j,hij,hj,hpj,ho,hs⟩
  ·exact⟨((i:Int),t,l),(congrArg (λo=>Option.bind o _) hs).trans rfl,h,rfl,rfl,List.Perm.refl _,λ_ _=>rfl,λO=>O.done λc _ cn p=>by omega⟩
  by_cases c:Hg (gt (YJ t l) j) (gt (YJ t l) i)
  ·obtain⟨p,hp,h1,h2,h3,h4⟩:=QjG h (i:=i) (j:=j) hi (by omega);have hk:YQ l (i:Int) t (j:Int)=C (.inl ((j:Int),p.2,p.1)):=by
    unfold YQ;rw[QeF h (by omega) hi,Qa,Qi c,Jo,Qd,hp,Qa,YI h2,Qa]
   obtain⟨q,g1,g2,g3,g4,g5,g6,g7⟩:=ih (n-j) (by omega) j rfl h1 (by omega) (by omega) (by omega);rw[h4]at g5 g6 g7;refine⟨q,(congrArg (λo=>Option.bind o _) (hs.trans hk)).trans g1,g2,by omega,by omega,g5.trans (QjF (by rw[DZ];omega) (by rw[DZ];omega)),λc cn=>?_,λO=>g7 (O.down hj (by rw[DZ];exact hn) hpj (by omega) c ho)⟩;rw[g6 c cn,Qg2 (by rw[DZ];omega) (by rw[DZ];omega),if_neg (by omega),if_neg (by omega)]
  have hk:YQ l (i:Int) t (j:Int)=C (.inr ((i:Int),t,l)):=by
   unfold YQ;rw[QeF h (by omega) hi,Qa,Qj c];rfl
  exact⟨((i:Int),t,l),(congrArg (λo=>Option.bind o _) (hs.trans hk)).trans rfl,h,rfl,rfl,List.Perm.refl _,λ_ _=>rfl,λO=>O.done λd d0 dn dp=>WE.trans c (ho d d0 dn dp)⟩
structure OkQ (l:List (Option Nat)) (m:List (Int×Option Nat)) (t:List Qe):Prop where
 h:SK l t
 p:∀q∈m,okP t.length q.2=true
 k:TC l.length (YJ t l)
def Qvn {l:L_ (O_ Nat)}(h:SK l t)(e:Qe):YJ (t++[e]) l=YJ t l:=by
 unfold YJ;refine TL λo ho=>?_;obtain⟨k,rfl,O⟩:=h.1 o ho;rw[ZU,ZU,Jp O]
def Quq {l:L_ (O_ Nat)}{m:L_ (Int×O_ Nat)}(h:OkQ l m t)(hn:l.length<4096){id at_:Int}(hm:Xa m id=none):
  ∃r,Af l m id at_ t=C r/\OkQ r.2.1 r.2.2.2 r.2.2.1/\r.2.1.length=l.length+1/\(YJ r.2.2.1 r.2.1).Perm (YJ t l++[(at_,id)])/\∃v,r.2.2.2=Jl Ey m id v:=by
 obtain⟨h1,h2,h3⟩:=h;unfold Af;rw[hm];show ∃r,(bif false then _ else _)=C r/\_;unfold UR;rw[Qd,Qa,show((l.length:Int)==4096)=false by simp;omega];have c1:l.all (okP t.length)=true:=XG.2 λo O=>by
  obtain⟨k,rfl,hk⟩:=h1.1 o O;simpa[okP] using hk
 have c2:(m.all λq=>okP t.length q.2)=true:=XG.2 h2;rw[Qd,Am c1,Qa,Am c2,Qa];unfold Fx Hr;have g0:(t++[(Qe.mk id at_ 0)])[t.length]? = C (Qe.mk id at_ 0):=by simp
 rw[Qa,g0,Qa,YI (by simp;omega),Qa,Qa];have hq:SK (l++[C t.length]) (t++[Qe.mk id at_ 0]):=by
  refine⟨λo O=>?_,λ_ _=>trivial⟩;rcases Wr.1 O with O | O
  ·obtain⟨k,e,hk⟩:=h1.1 o O;exact⟨k,e,by simp;omega⟩
  rw[Lf]at O;exact⟨t.length,O,by simp⟩
 have hq2:=hq.setT g0 (l.length:Int);have ln:(l++[C t.length]).length=l.length+1:=by simp
 show ∃r,((Dt (l++[C t.length]) _).bind _).bind _=C r/\_;unfold Dt;rw[Qa,ln];have ew:Qm (((l.length+1:Nat):Int)-1)=(l.length:Int):=by rw[Xj (by omega)];omega
 rw[ew];unfold IQ;obtain⟨p,g1,g2,g3,g4,g5,g6⟩:=Qvm l.length hq2 (by omega) (by omega);have hk:YJ ((t++[Qe.mk id at_ 0]).set t.length ⟨id,at_,(l.length:Int)⟩) (l++[C t.length])=YJ t l++[(at_,id)]:=by
  have:∀o,ky ((t++[Qe.mk id at_ 0]).set t.length ⟨id,at_,(l.length:Int)⟩) o=ky (t++[Qe.mk id at_ 0]) o:=Qo9 g0 _;show List.map _ _=_;rw[TL λo _=>this o,TK];show YJ (t++[Qe.mk id at_ 0]) l++[ky (t++[Qe.mk id at_ 0]) (C t.length)]=_;rw[Qvn h1,ZU,g0]
 have hx:QeD (l.length+1) (YJ t l++[(at_,id)]) l.length:=by
  have gl:∀c,c<l.length->gt (YJ t l++[(at_,id)]) c=gt (YJ t l) c:=λc hc=>by
   unfold gt;rw[Ok,Jp (by rw[DZ];exact hc),Ok]
  refine⟨λc c0 cn ce=>?_,λc c0 cn p _=>by omega⟩;rw[gl c (by omega),gl _ (by omega)];exact h3 c c0 (by omega)
 rw[hk]at g5 g6;rw[ln]at g6 g3;have gh:=g6 hx;refine⟨_,(congrArg (λo=>Option.bind (Option.bind (Option.bind o _) _) _) g1).trans rfl,⟨g2,λq hq=>?_,?_⟩,g3,g5,_,rfl⟩
 ·have lt:p.1.length=t.length+1:=by rw[g4];simp
  show okP p.1.length q.2=true;rw[lt];rcases Qtj hq with rfl | hq
  ·simp[okP]
  exact Qti (EG _) (h2 q hq)
 show TC p.2.length (YJ p.1 p.2);rw[g3];exact gh
def QeG {l:L_ (O_ Nat)}(m:L_ (Int×O_ Nat))(h:SK l t):(l=[]/\JO l m t=C (0,0,false))\/(0<l.length/\JO l m t=C ((gt (YJ t l) 0).2,(gt (YJ t l) 0).1,true)):=by
 unfold JO UR;rw[Qa];by_cases h0:l.length=0
 ·have:=PP.1 h0;subst this;exact .inl ⟨rfl,rfl⟩
 right;refine⟨by omega,?_⟩;rw[show((l.length:Int)==0)=false by simp;intro h;exact h0 (by simp[h])];obtain⟨k,e,O,h2,h3⟩:=Qo8 h (i:=0) (by omega);have O:idx l 0=C (C k):=O;rw[Qd,O,Qa,Qa,h2,Qa,Qa,Qa,h2,Qa,h3]
def Qtm {K:L_ Ky}{n:Nat}(h:K.length=n+1):K=K.take n++[gt K n]:=by
 have e:K.drop n=[gt K n]:=by
  rw[Qn2 (by omega),Qlx (by omega),List.drop_eq_nil_of_le (by omega)]
 rw[<-e,QjP]
def Qur {l:L_ (O_ Nat)}(m:L_ (Int×O_ Nat))(h1:SK l t)(h3:TC l.length (YJ t l))(hl:0<l.length)(hn:l.length<=4000000):
  ∃r,Ag l m t=C r/\SK r.2.1 r.2.2/\TC r.2.1.length (YJ r.2.2 r.2.1)/\r.2.1.length+1=l.length/\(gt (YJ t l) 0::YJ r.2.2 r.2.1).Perm (YJ t l):=by
 unfold Ag Dt;have ew:Qm ((l.length:Int)-1)=((l.length-1:Nat):Int):=by rw[Xj (by omega)];omega
 rw[Qa,ew];obtain⟨p,hp,g1,g2,g3,g4⟩:=QjG h1 (i:=0) (j:=l.length-1) (by omega) (by omega);have hp:KE l 0 ((l.length-1:Nat):Int) t=C p:=hp;rw[hp,Qa,YI g2,Qa];unfold Fy;obtain⟨q,f1,f2,f3,f4,f5,f6,f7⟩:=Qtl (n:=l.length-1) _ 0 rfl g1 (by omega) (by omega) (by omega);have e0:Qt (λst=>Km ((l.length-1:Nat):Int) st.1 st.2.1 st.2.2) (0,p.2,p.1)=C q:=f1;rw[e0,Qa];unfold Mh;rw[Qa];unfold IR;show ∃r,((idx q.2.2 (Qm ((q.2.2.length:Int)-1))).bind _).bind _=C r/\_;rw[g2]at f3;rw[f3,ew];obtain⟨k,e,i1,i2,i3,_⟩:=f2.at (i:=((l.length-1:Nat):Int)) (by omega) (by omega);rw[i1,Qa];rw[Am (by simp),Qa,Qa];have tk:(q.2.2.take (((l.length-1:Nat):Int)).toNat).length=l.length-1:=by rw[Wq];omega
 have kl:(YJ t l).length=l.length:=DZ t l;have sw:=λc=>Qg2 (i:=0) (j:=l.length-1) (K:=YJ t l) (by omega) (by omega) c;rw[g4]at f5 f6 f7;have hd:QeE (l.length-1) (swp 0 (l.length-1) (YJ t l)) 0:=by
  refine⟨λc c0 cn p=>?_,λc c0 cn p h0=>by omega⟩;rw[sw,sw,if_neg (by omega),if_neg p,if_neg (by omega),if_neg (by omega)];exact h3 c c0 (by omega)
 have hh:=f7 hd;have h:gt (YJ q.2.1 q.2.2) (l.length-1)=gt (YJ t l) 0:=by rw[f6 _ (Yj _),sw,if_pos rfl]
 have O:(YJ q.2.1 q.2.2).Perm (YJ t l):=f5.trans (QjF (by omega) (by omega));have ktk:YJ q.2.1 (q.2.2.take (((l.length-1:Nat):Int)).toNat)=(YJ q.2.1 q.2.2).take (l.length-1):=by
  unfold YJ;rw[Ue,List.map_take]
 refine⟨_,rfl,⟨λo ho=>f2.1 o (Ld ho),f2.2⟩,?_,?_,?_⟩
 ·show TC (q.2.2.take (((l.length-1:Nat):Int)).toNat).length (YJ q.2.1 (q.2.2.take (((l.length-1:Nat):Int)).toNat));rw[tk,ktk];intro c c0 cn;have gtk:∀c,c<l.length-1->gt ((YJ q.2.1 q.2.2).take (l.length-1)) c=gt (YJ q.2.1 q.2.2) c:=λc hc=>by
   unfold gt;rw[Ok,Ka,if_pos hc,Ok]
  rw[gtk c cn,gtk _ (by omega)];exact hh c c0 cn
 ·show(q.2.2.take (((l.length-1:Nat):Int)).toNat).length+1=l.length;omega
 show(gt (YJ t l) 0::YJ q.2.1 (q.2.2.take (((l.length-1:Nat):Int)).toNat)).Perm (YJ t l);rw[ktk];have:=Qtm (K:=YJ q.2.1 q.2.2) (n:=l.length-1) (by rw[DZ];omega);rw[h]at this;refine(List.perm_append_comm (l₁:=[gt (YJ t l) 0])).trans ?_;rw[<-this];exact O
def VS (now:Int)(S:L_ Ky):LI_:=(S.takeWhile λs=>decide (s.1<=now)).map Prod.snd
def Qpa:∀(S:L_ Ky) {id at_:Int} {is:Bool} {out:LI_} {m:L_ (Int×O_ Nat)} {t:L_ Qe} {l:L_ (O_ Nat)},SK l t->TC l.length (YJ t l)->Srt S->S.Perm (YJ t l)->
  (C (id,at_,is)=JO l m t)->out.length+l.length<=4000000->
  ∃r,Qt (λst=>KF now st.1 st.2.1 st.2.2.1 st.2.2.2.1 st.2.2.2.2.1 st.2.2.2.2.2.1 st.2.2.2.2.2.2) (id,at_,is,out,m,t,l)=C r/\r.1=out++VS now S:=by
 intro S
 induction S with
 | nil=>
  intro id at_ is out m t l h hh hs hp hi hc;have hl:l=[]:=by
   have:=hp.length_eq;rw[DZ]at this;exact PP.1 this.symm
  subst hl;rcases QeG m h with⟨_,e⟩|⟨h0,_⟩
  ·rw[e]at hi;cases hi;rw[Yn];exact⟨_,rfl,by simp[VS]⟩
  cases h0
 | cons s S ih=>
  intro id at_ is out m t l h hh hs hp hi hc;have hl:0<l.length:=by
   have:=hp.length_eq;rw[DZ]at this;simp at this;omega
  rcases QeG m h with⟨e,_⟩|⟨_,e⟩
  ·subst e;cases hl
  have h0:=Qtk hs hp (by rw[DZ];exact hh) (by rw[DZ];exact hl);rw[e,h0]at hi;cases hi;rw[Yn];show ∃r,((KF now s.2 s.1 true out m t l).bind _)=C r/\_;by_cases ha:s.1<=now
  ·obtain⟨r,hr,k1,k2,k3,k4⟩:=Qur m h hh hl (by omega);rw[h0]at k4;have hp2:S.Perm (YJ r.2.2 r.2.1):=(List.perm_cons s).1 (hp.trans k4.symm);obtain⟨v,hv⟩:∃v,JO r.2.1 (Fg m s.2) r.2.2=C v:=by
    rcases QeG (Fg m s.2) k1 with⟨_,e⟩|⟨_,e⟩<;>exact⟨_,e⟩
   obtain⟨q,g1,g2⟩:=ih (id:=v.1) (at_:=v.2.1) (is:=v.2.2) (out:=out++[s.2]) (m:=Fg m s.2) k1 k2 (List.Pairwise.of_cons hs) hp2 hv.symm (by rw[Gb,Ol];omega);have O:KF now s.2 s.1 true out m t l=C (.inl (v.1,v.2.1,v.2.2,out++[s.2],Fg m s.2,r.2.2,r.2.1)):=by
    unfold KF;rw[Qi ha,QbC,Qq,YI (by rw[Ol];omega),Qa,hr,Qa,hv,Qa]
   refine⟨q,(congrArg (λo=>Option.bind o _) O).trans g1,?_⟩;rw[g2];unfold VS;rw[List.takeWhile_cons_of_pos (by simpa using ha),Gp,Ga];rfl
  have O:KF now s.2 s.1 true out m t l=C (.inr (out,m,t,l)):=by
   unfold KF;rw[Qj ha];rfl
  refine⟨_,(congrArg (λo=>Option.bind o _) O).trans rfl,?_⟩;unfold VS;rw[List.takeWhile_cons_of_neg (by simpa using ha)];simp
def RtB (b:QZ):Prop:=1<=b.Most/\b.Most<=16/\1<=b.Enough/\b.Enough<=b.Most/\0<=b.Open/\0<=b.Done/\0<=b.Failed/\b.Open<=16/\b.Done<=16/\b.Failed<=16/\1<=b.Open+b.Done+b.Failed/\b.Open+b.Done+b.Failed<=b.Most
open Classical in
def Qr3 (b:QZ):GM b=C (decide (RtB b)):=by
 unfold GM;by_cases h:b.Most<1\/16<b.Most\/b.Enough<1\/b.Most<b.Enough\/b.Open<0\/b.Done<0\/b.Failed<0\/16<b.Open\/16<b.Done\/16<b.Failed
 ·have e:((decide (b.Most<1))||((decide (16<b.Most))||((decide (b.Enough<1))||((decide (b.Most<b.Enough))||((decide (b.Open<0))||((decide (b.Done<0))||((decide (b.Failed<0))||((decide (16<b.Open))||((decide (16<b.Done))||(decide (16<b.Failed)))))))))) )=true:=by
   simp only[KT,QG];exact h
  rw[e,Qq,Qj];unfold RtB;omega
 have e:((decide (b.Most<1))||((decide (16<b.Most))||((decide (b.Enough<1))||((decide (b.Most<b.Enough))||((decide (b.Open<0))||((decide (b.Done<0))||((decide (b.Failed<0))||((decide (16<b.Open))||((decide (16<b.Done))||(decide (16<b.Failed)))))))))) )=false:=by
  rw[<-Hj];simp only[KT,QG];exact h
 rw[e,Qd,Xj (n:=b.Open+b.Done) (by omega),Xj (by omega)];congr 1;rw[IZ,QH,QG,QG,QG];unfold RtB;omega
open Classical in
def QqQ (b:QZ):Jw b=C (decide (RtB b)):=by
 unfold Jw Lk;simp only[Cv,Qa];have k5:Gw b false=C (!(CJ (λ(_:Nat) (x:Int)=>!(decide (0<=x)&&decide (x<=b.Most))) 0 [b.Open,b.Done,b.Failed])&&(decide (1<=Qm (Qm (b.Open+b.Done)+b.Failed))&&decide (Qm (Qm (b.Open+b.Done)+b.Failed)<=b.Most))):=by
  unfold Gw;have h:=Px (body:=λst=>Yi b st) (l:=[b.Open,b.Done,b.Failed]) (λi=>(i:Int)) (λ_ x=>!(decide (0<=x)&&decide (x<=b.Most))) (.inl ()) (.inr ()) (λi x hi hx=>by
   show Yi b (i:Int)=_;unfold Yi;rw[Sr hx,UM hx,Qr hi (by show 3<=_;decide)];simp only[Qq,Qa,Cv];cases (!(decide (0<=x)&&decide (x<=b.Most)))<;>rfl) (by
   show Yi b (([b.Open,b.Done,b.Failed].length:Nat):Int)=_;unfold Yi;rw[Ss];rfl) (s0:=0) rfl
  rw[Qd,h];cases CJ (λ(_:Nat) (x:Int)=>!(decide (0<=x)&&decide (x<=b.Most))) 0 [b.Open,b.Done,b.Failed]<;>rfl
 cases O:(decide (1<=b.Most)&&decide (b.Most<=16))with
 | true=>
  rw[QH,QG,QG]at O;cases d2:(decide (1<=b.Enough)&&decide (b.Enough<=b.Most))with
  | true=>
   rw[QH,QG,QG]at d2;refine k5.trans ?_;congr 1;rw[IZ];simp only[CJ,QH,Di,KS,Bk,QG,and_true];unfold RtB;constructor
   ·rintro ⟨⟨c1,c2,c3⟩,c4⟩;rw[Xj (n:=b.Open+b.Done) (by omega),Xj (by omega)]at c4;omega
   intro h;rw[Xj (n:=b.Open+b.Done) (by omega),Xj (by omega)];omega
  | false=>
   refine Eq.trans (b:=C false) rfl (congrArg C (Qj λh=>?_).symm);rw[TF,Xq,Xq]at d2;unfold RtB at h;omega
 | false=>
  refine Eq.trans (b:=C false) rfl (congrArg C (Qj λh=>?_).symm);rw[TF,Xq,Xq]at O;unfold RtB at h;omega
def Nr (b:QZ):GM b=Jw b:=by rw[Qr3,QqQ]
def VB (b:QZ):FJ b=Kr b:=by
 unfold FJ Kr Qb8 MK;rw[Nr];rfl
def QpK (hm:l.length<=maxLen):OG l next=C (upF next 0 l&&decide ((l.length:Int)<=64)):=by
 unfold OG;by_cases O:(64:Int)<l.length
 ·rw[Qi O,Qj (show ¬(l.length:Int)<=64 by omega),Bool.and_false];rfl
 rw[Qj O,Qi (show(l.length:Int)<=64 by omega),QbC,Qd];have h:=Qlf (body:=λst=>En l next st) (l:=l) (λi t=>0<=t/\(i=0->t=0)/\∀j,i=j+1->∃y,l[j]? = C y/\t=y.Id) (λi _=>(i:Int)) (λi t x=>bif US next t x then .inl x.Id else .inr (.inl ())) (λ_=>.inr ()) (λi t x hj hi hx=>by
  obtain⟨j0,j1,j2⟩:=hj;refine⟨?_,λt' e=>?_⟩
  ·show En l next (i:Int)=_;unfold En;rw[Sr hx,Qq,UM hx,Qa,Nr,VB];obtain⟨r,hr⟩:=QjD x.Batch;obtain⟨q,hq⟩:=Qo7 x.Batch;have hg:HR x.Batch=(r&&!q):=by unfold HR;rw[hr,hq];rfl
   rw[hr,hq,Qa,Qa];have hgo:Pq r q x next (i:Int) l=C (!US next t x):=by
    unfold Pq US;rw[hg];cases r with
    | false=>simp
    | true=>
     cases q with
     | true=>simp
     | false=>
      rw[Jo,Qd,Qd];by_cases c1:x.Until<0
      ·rw[Qi c1,Qj (show ¬0<=x.Until by omega)];simp
      rw[Qj c1,Qi (show 0<=x.Until by omega),Qd];by_cases c2:x.Id<1
      ·rw[Qi c2,Qj (show ¬t<x.Id by omega)];simp
      rw[Qj c2,Qd];by_cases c3:next<=x.Id
      ·rw[Qi c3,Qj (show ¬x.Id<next by omega)];simp
      rw[Qj c3,Qi (show x.Id<next by omega),Qd];cases i with
      | zero=>
       rw[j1 rfl,Qi (show(0:Int)<x.Id by omega)];rfl
      | succ j=>
       obtain⟨y,hy,rfl⟩:=j2 j rfl;have ew:Qm (((j+1:Nat):Int)-1)=(j:Int):=by unfold maxLen at hm;rw[Xj (by omega)];omega
       rw[Qi (show(0:Int)<((j+1:Nat):Int) by omega),Qq,ew,UM hy,Qa];by_cases c4:x.Id<=y.Id
       ·rw[Qi c4,Qj (show ¬y.Id<x.Id by omega)];rfl
       rw[Qj c4,Qi (show y.Id<x.Id by omega)];rfl
   rw[hgo,Qa];unfold Qa6;rw[Qr hi hm];cases US next t x<;>rfl
  ·cases hk:US next t x with
   | false=>rw[hk]at e;cases e
   | true=>
    rw[hk]at e;cases e;have hk2:=hk;unfold US at hk2;simp only[QH,QG]at hk2;exact⟨by omega,λh=>by omega,λj e=>⟨x,by rw[show j=i by omega];exact hx,rfl⟩⟩) (λt _=>by
  show En l next (l.length:Int)=_;unfold En;rw[Ss];rfl) 0 ⟨Int.le_refl _,λ_=>rfl,λj e=>by omega⟩ (s0:=0) rfl
 rw[h];have key:∀(l:L_ Qg) (i:Nat) (t:Int),EF (λ(_:Nat) (t:Int) (x:Qg)=>bif US next t x then Sum.inl x.Id else Sum.inr (Sum.inl ())) (λ_=>(Sum.inr ():Unit⊕Unit)) i t l=bif upF next t l then .inr ()else .inl ():=by
  intro l
  induction l with
  | nil=>intro i t;rfl
  | cons x l ih=>
   intro i t;rw[EF,upF];cases US next t x with
   | true=>simpa using ih (i+1) x.Id
   | false=>rfl
 rw[key];cases upF next 0 l<;>rfl
def Qly {id:Int}(hm:l.length<=maxLen):Be l id=C ((Kg (λ_ y=>y.Id==id) 0 l).elim (-1) λi=>(i:Int)):=by
 unfold Be;have h:=Vy (body:=λst=>Uy l id st) (l:=l) (λi=>(i:Int)) (λ_ y=>y.Id==id) (λi=>.inl (i:Int)) (.inr ()) (λi y hi O=>by
  show Uy l id (i:Int)=_;unfold Uy;rw[Sr O,UM O,Qr hi hm];simp only[Qq,Qa];cases (y.Id==id)<;>rfl) (by
  show Uy l id (l.length:Int)=_;unfold Uy;rw[Ss];rfl) (s0:=0) rfl
 rw[h];cases Kg (λ_ y=>y.Id==id) 0 l<;>rfl
def Qh4 (h:lens x<=1000):Bc x=C x:=by
 unfold lens at h;unfold Bc Pw;rw[YI (by simp;omega),Qa,YI (by simp;omega),Qa,YI (by simp;omega),Qa];rfl
def Qlz {id:Int}(hf:∀x∈l,lens x<=1000)(hl:l.length<=4294967296)(hm:l.length<=maxLen):FR l id=C (dropL l id):=by
 unfold FR;have h:=AE (body:=λst:Int×L_ Qg=>Ux l id st.1 st.2) l.length (λi s=>s=((i:Int),dropL (l.take i) id)) (λr=>r=dropL l id) (λi s hi hs=>by
  subst hs;left;have hx:l[i]? = C l[i]:=QN hi;have htk:l.take (i+1)=l.take i++[l[i]]:=by rw[UU,hx];rfl
  show ∃s',Ux l id (i:Int) (dropL (l.take i) id)=_/\_;unfold Ux;rw[Sr hx,UM hx];simp only[Qq,Qa];have hlen:(dropL (l.take i) id).length<=i:=by
   refine YC (QbE _ _) ?_;simp;omega
  by_cases e:l[i].Id=id
  ·have O:(l[i].Id != id)=false:=by simp[e]
   rw[O];refine⟨_,rfl,?_⟩;rw[htk];unfold dropL;rw[QdL,Bl,O,Qr hi hm];simp
  ·have O:(l[i].Id != id)=true:=by simp[e]
   rw[O,Qq,Qh4 (hf _ (Xs hi)),Qa,YI (by simp;omega),Qa];refine⟨_,rfl,?_⟩;rw[htk];unfold dropL;rw[QdL,Bl,O,Qr hi hm];simp) (λs hs=>by
  subst hs;refine⟨_,?_,rfl⟩;show Ux l id (l.length:Int) (dropL (l.take l.length) id)=_;unfold Ux;rw[Ss,BY];rfl) (0,[]) rfl
 obtain⟨r,hr,rfl⟩:=h;rw[hr];rfl
def ahead (x:Qg):L_ Qg->Nat
 | []=>0
 | y::l=>if y.Id<=x.Id then ahead x l+1 else 0
def Qnf (x:Qg):∀l,TA x l=l.take (ahead x l)++x::l.drop (ahead x l)
 | []=>rfl
 | y::l=>by
  rw[ahead];unfold TA;by_cases c:y.Id<=x.Id
  ·rw[if_pos c,List.take_succ_cons,List.drop_succ_cons,List.cons_append,<-Qnf x l];simp[show ¬x.Id<y.Id by omega]
  rw[if_neg c];simp[show x.Id<y.Id by omega]
def QlA {α:Type}{l:L_ α}(p:α->Bool){body:Int->O_ (Int⊕Int)}(hs:∀(i:Nat) x,l[i]? = C x->body (i:Int)=C (bif p x then .inl ((i+1:Nat):Int)else .inr (i:Int)))(hf:body (l.length:Int)=C (.inr (l.length:Int))):
  ∃k:Nat,Qt body 0=C (k:Int)/\k<=l.length/\(∀i x,i<k->l[i]? = C x->p x=true)/\∀x,l[k]? = C x->p x=false:=by
 have h:=AE (body:=body) l.length (λi s=>s=(i:Int)/\∀j x,j<i->l[j]? = C x->p x=true) (λr=>∃k:Nat,r=(k:Int)/\k<=l.length/\(∀i x,i<k->l[i]? = C x->p x=true)/\∀x,l[k]? = C x->p x=false) (λi s hi hI=>by
  obtain⟨rfl,h2⟩:=hI;have hx:l[i]? = C l[i]:=QN hi;rw[hs i _ hx];cases hp:p l[i]with
  | true=>
   refine .inl ⟨_,rfl,rfl,λj x hj O=>?_⟩;by_cases e:j=i
   ·subst e;rw[hx]at O;cases O;exact hp
   exact h2 j x (by omega) O
  | false=>exact .inr ⟨_,rfl,i,rfl,by omega,h2,λx hx'=>by rw[hx]at hx';cases hx';exact hp⟩) (λs hI=>by
  obtain⟨rfl,h2⟩:=hI;exact⟨_,hf,l.length,rfl,Yj _,h2,λx hx=>by rw[List.getElem?_eq_none (Yj _)]at hx;cases hx⟩) 0 ⟨rfl,λj x hj=>by omega⟩
 obtain⟨r,hr,k,rfl,h1,h2,h3⟩:=h;exact⟨k,hr,h1,h2,h3⟩
def Qpb:∀{l:L_ Qg} {k:Nat},k<=l.length->(∀i y,i<k->l[i]? = C y->decide (y.Id<=x.Id)=true)->(∀y,l[k]? = C y->decide (y.Id<=x.Id)=false)->ahead x l=k
 | [],k,O,_,_=>by
  have:k=0:=by simpa using O
  subst this;rfl
 | y::l,0,_,_,h=>by
  have:=h y rfl;rw[ahead,if_neg (by simpa using this)]
 | y::l,k+1,O,h2,h=>by
  have:=h2 0 y (by omega) rfl;rw[ahead,if_pos (by simpa using this),Qpb (l:=l) (k:=k) (by simpa using O) (λi z hi hz=>h2 (i+1) z (by omega) (by simpa using hz)) (λz hz=>h z (by simpa using hz))]
def Qr4 (hf:∀y∈l,lens y<=1000)(hx:lens x<=1000)(hl:l.length+1<=4294967296)(hm:l.length<=maxLen):IF l x=C (VR l x):=by
 unfold IF;have hd:(dropL l x.Id).length<=l.length:=QbE _ _;rw[Qlz hf (by omega) hm,Qa];unfold VR;generalize dropL l x.Id=d at hd;obtain⟨k,O,h2,h3,h4⟩:=QlA (l:=d) (λy=>decide (y.Id<=x.Id)) (body:=λst=>AC d x st) (λi y h=>by
  show AC d x (i:Int)=_;unfold AC Tn Tp;rw[Sr h,Qq,UM h,Qa,Qa,Qr (Xb.1 h).1 (by omega)];cases decide (y.Id<=x.Id)<;>rfl) (by
  show AC d x (d.length:Int)=_;unfold AC Tn Tp;rw[Ss];rfl)
 rw[O,Qa];have ha:=Qpb h2 h3 h4;unfold Qdx;rw[Ue,Am (by simp;omega),Qa,YI (by simp;omega),Qa,Qh4 hx,Qa,YI (by simp;omega),Qa,Am (by simp;omega),Qa,YI (by simp;omega),Qa,Qnf,ha];simp;rw[UV (by simp)]
def Bi (L:L_ Qg):Nat->L_ Ky
 | 0=>[]
 | i+1=>match L[i]? with
  | some x=>if (∀y∈L.take i,y.Id≠x.Id)/\0<x.Until then Bi L i++[(x.Until,x.Id)]else Bi L i
  | none=>Bi L i
def ZV (L:L_ Qg):∀i,(Bi L i).length<=i
 | 0=>Yj _
 | i+1=>by
  rw[Bi];have:=ZV L i;split
  ·split
   ·simp;omega
   omega
  omega
def QlB:∀{i:Nat} {p:Ky},p∈Bi L i->∃x∈L.take i,x.Id=p.2
 | 0,p,h=>by cases h
 | i+1,p,h=>by
  have up:∀{x},x∈L.take i->x∈L.take (i+1):=λ{x} hx=>by rw[UU];exact TN _ hx
  rw[Bi]at h;split at h
  ·rename_i x hx;split at h
   ·rcases Wr.1 h with h | h
    ·obtain⟨y,O,e⟩:=QlB h;exact⟨y,up O,e⟩
    simp at h;subst h;exact⟨x,by rw[UU,hx];simp,rfl⟩
   obtain⟨y,O,e⟩:=QlB h;exact⟨y,up O,e⟩
  obtain⟨y,O,e⟩:=QlB h;exact⟨y,up O,e⟩
def Qng (hL:L.length<=80){S:L_ Ky}(hS:Srt S)(hp:S.Perm (Bi L L.length)):CG L now=C (VS now S):=by
 have mx:(80:Nat)<=maxLen:=by decide
 unfold CG QcU;rw[Qa];have h:=AE (body:=λst:Int×L_ (Int×Bool)×L_ (O_ Nat)×L_ (Int×O_ Nat)×L_ Qe=>DW L st.1 st.2.1 st.2.2.1 st.2.2.2.1 st.2.2.2.2) L.length (λi s=>s.1=(i:Int)/\(∀k,(Xa s.2.1 k).getD false=true↔∃y∈L.take i,y.Id=k)/\OkQ s.2.2.1 s.2.2.2.1 s.2.2.2.2/\(YJ s.2.2.2.2 s.2.2.1).Perm (Bi L i)/\∀k,Xa s.2.2.2.1 k≠none->∃y∈L.take i,y.Id=k)
  (λr=>OkQ r.1 r.2.1 r.2.2/\(YJ r.2.2 r.1).Perm (Bi L L.length)) (λi s hi hs=>by
  obtain⟨j,m,l,mm,t⟩:=s;obtain⟨rfl,hm,hq,O,hmm⟩:=hs;replace hm:∀k,(Xa m k).getD false=true↔∃y∈L.take i,y.Id=k:=hm;replace hq:OkQ l mm t:=hq;replace O:(YJ t l).Perm (Bi L i):=O;replace hmm:∀k,Xa mm k≠none->∃y∈L.take i,y.Id=k:=hmm;left;have hx:L[i]? = C L[i]:=QN hi;have htk:L.take (i+1)=L.take i++[L[i]]:=by rw[UU,hx];rfl
  have hm':∀k,(Xa (Jl Ey m L[i].Id true) k).getD false=true↔∃y∈L.take (i+1),y.Id=k:=λk=>by
   rw[He,htk];by_cases e:k=L[i].Id
   ·rw[if_pos e];exact⟨λ_=>⟨L[i],QjN _ (Lf.2 rfl),e.symm⟩,λ_=>rfl⟩
   rw[if_neg e,hm];refine⟨λ⟨y,h1,h2⟩=>⟨y,TN _ h1,h2⟩,λ⟨y,h1,h2⟩=>?_⟩;rcases Wr.1 h1 with h1 | h1
   ·exact⟨y,h1,h2⟩
   simp at h1;subst h1;exact absurd h2.symm e
  show ∃s',DW L (i:Int) m l mm t=_/\_;unfold DW MR;rw[Sr hx,UM hx,Qq,Qa,Qr hi (by omega)];have hpr:Bi L (i+1)=if (∀y∈L.take i,y.Id≠L[i].Id)/\0<L[i].Until then Bi L i++[(L[i].Until,L[i].Id)]else Bi L i:=by rw[Bi,hx]
  have hlen:l.length<=i:=by
   have:=O.length_eq;rw[DZ]at this;have:=ZV L i;omega
  by_cases c1:∃y∈L.take i,y.Id=L[i].Id
  ·rw[(hm _).2 c1];refine⟨_,rfl,rfl,hm',hq,?_,λk O=>?_⟩
   ·rw[hpr,if_neg λh=>by obtain⟨y,h1,h2⟩:=c1;exact h.1 y h1 h2];exact O
   obtain⟨y,h1,h2⟩:=hmm k O;exact⟨y,by rw[htk];exact TN _ h1,h2⟩
  ·rw[Bool.eq_false_iff.2 λh=>c1 ((hm _).1 h)];have c1':∀y∈L.take i,y.Id≠L[i].Id:=λy h1 h2=>c1 ⟨y,h1,h2⟩;by_cases c2:0<L[i].Until
   ·rw[Qi c2];obtain⟨r,hr,g1,g2,g3,v,g4⟩:=Quq hq (by omega) (id:=L[i].Id) (at_:=L[i].Until) (by
     cases hmg:Xa mm L[i].Id with
     | none=>rfl
     | some v=>exact absurd (hmm _ (by rw[hmg];simp)) c1)
    simp only[Zw,Bool.and_self,Qq];rw[hr,Qa];refine⟨_,rfl,rfl,hm',g1,?_,λk O=>?_⟩
    ·rw[hpr,if_pos ⟨c1',c2⟩];exact g3.trans (O.append_right _)
    replace O:Xa r.2.2.2 k≠none:=O;rw[g4,He]at O;by_cases e:k=L[i].Id
    ·exact⟨L[i],by rw[htk];exact QjN _ (Lf.2 rfl),e.symm⟩
    rw[if_neg e]at O;obtain⟨y,h1,h2⟩:=hmm k O;exact⟨y,by rw[htk];exact TN _ h1,h2⟩
   rw[Qj c2];refine⟨_,rfl,rfl,hm',hq,?_,λk O=>?_⟩
   ·rw[hpr,if_neg λh=>c2 h.2];exact O
   obtain⟨y,h1,h2⟩:=hmm k O;exact⟨y,by rw[htk];exact TN _ h1,h2⟩) (λs hs=>by
  obtain⟨j,m,l,mm,t⟩:=s;obtain⟨rfl,hm,hq,O,hmm⟩:=hs;refine⟨(l,mm,t),?_,hq,O⟩;show DW L (L.length:Int) m l mm t=_;unfold DW;rw[Ss];rfl) (0,[],[],[],[]) ⟨rfl,λk=>by simp[Xa],⟨⟨(λo h=>by cases h),(λe h=>by cases h)⟩,(λq h=>by cases h),λc _ h=>by cases h⟩,List.Perm.refl _,λk h=>absurd rfl h⟩
 obtain⟨r,hr,hq,O⟩:=h;show((Qt (λst=>DW L st.1 st.2.1 st.2.2.1 st.2.2.2.1 st.2.2.2.2) (0,[],[],[],[])).bind _)=_;rw[hr,Qa];unfold SY NI;have hlen:r.1.length<=80:=by
  have:=O.length_eq;rw[DZ]at this;have:=ZV L L.length;omega
 obtain⟨v,hv⟩:∃v,JO r.1 r.2.1 r.2.2=C v:=by
  rcases QeG r.2.1 hq.h with⟨_,e⟩|⟨_,e⟩<;>exact⟨_,e⟩
 obtain⟨q,h4,h5⟩:=Qpa (now:=now) S hq.h hq.k hS (hp.trans O.symm) hv.symm (out:=[]) (by simp;omega);rw[hv,Qa,h4,Qa];unfold Rx;rw[Qa,h5,My]
def Bj (p:Int×Int):Ky:=(p.2,p.1)
def Qtn {id:Int}(hm:q.length<=maxLen)(h:∀p∈q,p.1≠id):Gd ⟨q⟩ id=C (-1):=by
 unfold Gd;have h0:=h;have h:=Vy (body:=λst=>Jn ⟨q⟩ id st) (l:=q) (λi=>(i:Int)) (λ_ y=>y.1==id) (λi=>.inl (i:Int)) (.inr ()) (λi y hi O=>by
  show Jn ⟨q⟩ id (i:Int)=_;unfold Jn;rw[Sr O,UM O,Qr hi hm];simp only[Qq,Qa];cases (y.1==id)<;>rfl) (by
  show Jn ⟨q⟩ id (q.length:Int)=_;unfold Jn;rw[Ss];rfl) (s0:=0) rfl
 rw[h];cases hs:Kg (λ_ y=>y.1==id) 0 q with
 | none=>rfl
 | some i=>
  obtain⟨j,x,_,hx,he⟩:=ZL hs;exact absurd (by simpa using he) (h0 x (Xx hx))
def Qus {id at_:Int}(hl:q.length<=80)(hs:Srt (q.map Bj))(h:∀p∈q,p.1≠id):∃q2,GC ⟨q⟩ id at_=C (0,⟨q2⟩)/\Srt (q2.map Bj)/\(q2.map Bj).Perm (q.map Bj++[(at_,id)]):=by
 have mx:(80:Nat)<=maxLen:=by decide
 unfold GC;rw[Qtn (by omega) h,Qa,Qj (by decide),Qd,Qj (show ¬(4096:Int)<=(q.length:Int) by omega),Qd];obtain⟨k,h1,h2,h3,h4⟩:=QlA (l:=q) (λy=>decide (Hg (Bj y) (at_,id))) (body:=λst=>JC ⟨q⟩ at_ id st) (λi y hy=>by
  show JC ⟨q⟩ at_ id (i:Int)=_;unfold JC EZ Ua;rw[Sr hy,Qq,UM hy,Qa,Qa,Qa,Qr (Xb.1 hy).1 (by omega)];have hd:∀p:Prop,[Decidable p]->(p↔Hg (Bj y) (at_,id))->decide p=decide (Hg (Bj y) (at_,id)):=λp _ hp=>decide_eq_decide.2 hp;by_cases c1:y.2<at_
  ·rw[Qi c1,Qi (show Hg (Bj y) (at_,id)from .inl c1)];rfl
  ·rw[Qj c1,Qd];by_cases c2:y.2=at_
   ·rw[show(y.2==at_)=true by simpa using c2,Qq,Qa,hd (y.1<id) ⟨λh=>.inr ⟨c2,h⟩,λh=>by rcases h with h | h;exact absurd h c1;exact h.2⟩];cases decide (Hg (Bj y) (at_,id))<;>rfl
   rw[show(y.2==at_)=false by simpa using c2,Qd,Qa,Qj (p:=Hg (Bj y) (at_,id)) (by
    rintro (h | h)
    ·exact c1 h
    exact c2 h.1)]
   rfl) (by
  show JC ⟨q⟩ at_ id (q.length:Int)=_;unfold JC EZ Ua;rw[Ss];rfl)
 rw[h1,Qa];unfold Hc;rw[Ue,Am (by simp;omega),Qa,YI (by simp;omega),Qa,YI (by simp;omega),Qa,Am (by simp;omega),Qa,YI (by simp;omega),Qa];refine⟨_,rfl,?_,?_⟩
 ·simp only[My,List.drop_zero,Nat.sub_zero,Ga];rw[UV (l:=q.drop k) (by simp),TK,TK,List.map_take,List.map_drop];unfold Srt at *;rw[QjO];refine⟨hs.sublist (List.take_sublist _ _),?_,?_⟩
  ·show List.Pairwise WE ((at_,id)::(List.map Bj q).drop k);refine Hk.2 ⟨λz O=>?_,hs.sublist (List.drop_sublist _ _)⟩;by_cases hk:k<q.length
   ·have hd:(List.map Bj q).drop k=Bj q[k]::(List.map Bj q).drop (k+1):=by
     rw[Qn2 (by simpa using hk)];simp
    have h5:WE (at_,id) (Bj q[k]):=by
     have:=h4 _ (QN hk);exact of_decide_eq_false this
    rw[hd]at O;rcases XT.1 O with rfl | O
    ·exact h5
    have:=hs.sublist (List.drop_sublist k _);rw[hd]at this;exact h5.trans (List.rel_of_pairwise_cons this O)
   rw[List.drop_eq_nil_of_le (by simp;omega)]at O;cases O
  intro a ha b hb;have ha':WE a (at_,id):=by
   obtain⟨i,hi,rfl⟩:=Ug.1 ha;have hi2:i<k/\i<q.length:=by simp at hi;omega
   have:=Xc (h3 i _ hi2.1 (QN hi2.2));rw[Zx,List.getElem_map];exact this.le
  rcases XT.1 (show b∈(at_,id)::(List.map Bj q).drop k from hb)with rfl | hb
  ·exact ha'
  have h6:=hs;rw[<-QjP k (List.map Bj q),QjO]at h6;exact h6.2.2 a ha b hb
 simp only[My,List.drop_zero,Nat.sub_zero,Ga];rw[UV (l:=q.drop k) (by simp),TK,TK];have:(q.map Bj)=(q.take k).map Bj++(q.drop k).map Bj:=by rw[<-TK,QjP]
 rw[this,Ga];exact List.Perm.append_left _ List.perm_append_comm
def QpY : ∀(q:QBg) {now:Int} {out:LI_},q.length+out.length<=1000->∃q2,Qt (λst=>Ys now st.1 st.2) (q,out)=C (out++VS now (q.map Bj),q2)
 | [],now,out,_=>by
  rw[Yn];refine⟨⟨[]⟩,?_⟩;show((Ys now [] out).bind _)=_;simp[VS,Ys,Dm,Dn]
 | p::q,now,out,hl=>by
  rw[Yn];simp only[Uf]at hl;by_cases h:p.2<=now
  ·obtain⟨q2,h2⟩:=QpY q (now:=now) (out:=out++[p.1]) (by simp;omega);have O:Ys now (p::q) out=C (.inl (q,out++[p.1])):=by
    unfold Ys Dm Dn;rw[Qi (show(0:Int)<((p::q).length:Int) by simp),Qq,show idx (p::q) 0=C p from rfl,Qa,Qa,Qi h,Qq,Qa,YI (by simp;omega),Qa,Am (by simp),Qa,YI (by simp;omega),Qa];simp
   refine⟨q2,(congrArg (λo=>Option.bind o _) O).trans (h2.trans ?_)⟩;unfold VS;rw[Gp,List.takeWhile_cons_of_pos (p:=λs:Ky=>decide (s.1<=now)) (a:=Bj p) (Qi h),Gp,Ga];rfl
  have O:Ys now (p::q) out=C (.inr (out,⟨p::q⟩)):=by
   unfold Ys Dm Dn;rw[Qi (show(0:Int)<((p::q).length:Int) by simp),Qq,show idx (p::q) 0=C p from rfl,Qa,Qa,Qj h];rfl
  refine⟨⟨p::q⟩,(congrArg (λo=>Option.bind o _) O).trans ?_⟩;unfold VS;rw[Gp,List.takeWhile_cons_of_neg (p:=λs:Ky=>decide (s.1<=now)) (a:=Bj p) (by rw[show decide ((Bj p).1<=now)=false from Qj h];decide)];show C (out,_)=_;simp
def Qpc (hi:i<L.length):Kg (λ_ y=>y.Id==L[i].Id) 0 L=C i↔∀y∈L.take i,y.Id≠L[i].Id:=by
 constructor
 ·intro h y hy e;obtain⟨j,hj,rfl⟩:=Ug.1 hy;have hj2:j<i/\j<L.length:=by simp at hj;omega
  have key:∀(l:L_ Qg) (k n:Nat),Kg (λ_ y=>y.Id==L[i].Id) k l=C n->∀m x,k+m<n->l[m]? = C x->(x.Id==L[i].Id)=false:=by
   intro l
   induction l with
   | nil=>intro k n h;cases h
   | cons z l ih=>
    intro k n h m x hm O;rw[Kg]at h;cases hz:(z.Id==L[i].Id)with
    | true=>rw[hz]at h;cases h;omega
    | false=>
     rw[hz]at h;cases m with
     | zero=>cases O;exact hz
     | succ m=>exact ih (k+1) n h m x (by omega) O
  have:=key L 0 i h j L[j] (by omega) (QN hj2.2);rw[Zx]at e;simp[e]at this
 intro h;have key:∀(l:L_ Qg) (k m:Nat) x,l[m]? = C x->(x.Id==L[i].Id)=true->(∀j y,j<m->l[j]? = C y->(y.Id==L[i].Id)=false)->Kg (λ_ y=>y.Id==L[i].Id) k l=C (k+m):=by
  intro l
  induction l with
  | nil=>intro k m x O;cases O
  | cons z l ih=>
   intro k m x O he hj;rw[Kg];cases m with
   | zero=>cases O;rw[he];rfl
   | succ m=>
    rw[hj 0 z (by omega) rfl,Qd,ih (k+1) m x O he λj y hj' hy=>hj (j+1) y (by omega) hy];congr 1;omega
 have:=key L 0 i L[i] (QN hi) (by simp) λj y hj hy=>by
  have hjl:j<L.length:=by omega
  rw[QN hjl]at hy;cases hy;have:=h L[j] (Ug.2 ⟨j,by simp;omega,by rw[Zx]⟩);simpa using this
 simpa using this
def Qut (hL:L.length<=80):∃S,Srt S/\S.Perm (Bi L L.length)/\Oh L now=C (VS now S):=by
 have mx:(80:Nat)<=maxLen:=by decide
 unfold Oh Qc5;rw[Qa];have h:=AE (body:=λst:Int×QI=>AD L st.1 st.2) L.length (λi s=>s.1=(i:Int)/\Srt (s.2.L.map Bj)/\(s.2.L.map Bj).Perm (Bi L i))
  (λr=>Srt (r.L.map Bj)/\(r.L.map Bj).Perm (Bi L L.length)) (λi s hi hs=>by
  obtain⟨j,⟨q⟩⟩:=s;obtain⟨rfl,O,hp⟩:=hs;replace O:Srt (q.map Bj):=O;replace hp:(q.map Bj).Perm (Bi L i):=hp;left;have hx:L[i]? = C L[i]:=QN hi;have hpr:Bi L (i+1)=if (∀y∈L.take i,y.Id≠L[i].Id)/\0<L[i].Until then Bi L i++[(L[i].Until,L[i].Id)]else Bi L i:=by rw[Bi,hx]
  have hlen:q.length<=i:=by
   have:=hp.length_eq;rw[EA]at this;have:=ZV L i;omega
  show ∃s',AD L (i:Int) ⟨q⟩=_/\_;unfold AD;rw[Sr hx,Qq];have g2:Tt L (i:Int)=C (decide ((∀y∈L.take i,y.Id≠L[i].Id)/\0<L[i].Until)):=by
   unfold Tt;rw[UM hx,Qa,Qly (by omega),Qa,Qa];by_cases c:∀y∈L.take i,y.Id≠L[i].Id
   ·rw[(Qpc hi).2 c];show(bif (i:Int)==(i:Int)then _ else _)=_;rw[beq_self_eq_true,Qq];congr 1;exact decide_eq_decide.2 ⟨λh=>⟨c,h⟩,λh=>h.2⟩
   have hf:decide ((∀y∈L.take i,y.Id≠L[i].Id)/\0<L[i].Until)=false:=Qj λh=>c h.1;rw[hf];have hne:((Kg (λ_ y=>y.Id==L[i].Id) 0 L).elim (-1:Int) (λi=>(i:Int))==(i:Int))=false:=by
    cases hs:Kg (λ_ y=>y.Id==L[i].Id) 0 L with
    | none=>simp
    | some k=>
     have:k≠i:=λe=>c ((Qpc hi).1 (e▸hs));simp;omega
   rw[hne];rfl
  rw[g2,Qa];unfold Qdz Nj;rw[Qr hi (by omega)];by_cases c:(∀y∈L.take i,y.Id≠L[i].Id)/\0<L[i].Until
  ·rw[Qi c,Qq,UM hx,Qa,Qa];obtain⟨q2,g1,g3,g4⟩:=Qus (q:=q) (id:=L[i].Id) (at_:=L[i].Until) (by omega) O (λp hp' e=>by
    obtain⟨y,hy,e2⟩:=QlB (hp.mem_iff.1 (Yv.2 ⟨p,hp',rfl⟩));exact c.1 y hy (e2.trans e))
   rw[g1,Qa];refine⟨_,rfl,rfl,g3,?_⟩;rw[hpr,if_pos c];exact g4.trans (hp.append_right _)
  ·rw[Qj c];exact⟨_,rfl,rfl,O,by rw[hpr,if_neg c];exact hp⟩) (λs hs=>by
  obtain⟨j,⟨q⟩⟩:=s;obtain⟨rfl,O,hp⟩:=hs;refine⟨⟨q⟩,?_,O,hp⟩;show AD L (L.length:Int) ⟨q⟩=_;unfold AD;rw[Ss];rfl) (0,⟨[]⟩) ⟨rfl,List.Pairwise.nil,List.Perm.refl _⟩
 obtain⟨⟨q⟩,hr,O,hp⟩:=h;rw[hr,Qa];unfold QdA Bf;have hlen:q.length<=80:=by
  have:=hp.length_eq;simp only[EA]at this;have:=ZV L L.length;omega
 obtain⟨q2,h2⟩:=QpY q (now:=now) (out:=[]) (by simp;omega);refine⟨q.map Bj,O,hp,?_⟩;rw[h2,Qa];unfold Hd;rw[Qa,My]
def IY (n:Qh)(m:L_ Bag):Prop:=Kz n 1024 m/\LK n m
def IY.len (O:IY n m)(h:XE n):QX (QX λ_=>True) m:=O.1.len h (by omega)
def QjH {c:Nat}(h:XE n)(hm:Kz n c m)(hl:LK n m):IY n m:=by
 refine⟨⟨hm.1,λb hb=>?_⟩,hl⟩;have hr:=(hm.2 b hb).1;refine⟨hr,?_⟩;obtain⟨j,hj,rfl⟩:=Ug.1 hb;have hj2:j<n.Places.length:=by have:=hm.1;omega
 by_cases c0:(m[j]).length=0
 ·omega
 have O:(m[j]).length-1<(m[j]).length:=by omega
 have h1:=QpW hr.1 (a:=0) (λp hp=>(hr.2 p hp).1) ((m[j]).length-1) O;have h2:=Eu hr.1.nd (Xs O);have h3:=(hr.2 _ (Xs O)).2.1;obtain⟨z,hz,hk⟩:=hl j _ _ (QN hj) (QN hj2) _ (by rw[h2];omega);have:=AG (UB _ _ h.k.1) hz;omega
def Qr5 (h:XE n)(hg:IY n m)(ho:XL n o):Qk (WJ n m o) λr=>r.2=0->IY n r.1/\Yl n m o=C 0/\∃O,Yf n o=C (O,0)/\YK m O=C (r.1,0):=by
 obtain⟨hm,hl⟩:=hg;have hpl:=h.pl;have hm1:=hm.1;obtain⟨⟨t,c⟩,hT,hmk⟩:=Qve n m o 1024 h hm (by omega) ho;refine⟨_,hT,λh0=>?_⟩;replace h0:c=0:=h0;subst h0;obtain⟨hCk,O,hN,hL⟩:=QqO hT;obtain⟨hnd,hndl⟩:=AG (Np n o h ho) hN rfl;obtain⟨_,eL⟩:=(AG (Qh3 n m O 1024 20 h hm hnd (by omega)) hL).1 rfl;refine⟨QjH h (hmk rfl) λj b p hb hp k hk=>?_,hCk,O,hN,hL⟩;have hj:=(Xb.1 hp).1;obtain⟨a,ha,ha1,ha2⟩:=QgZ hm hj;obtain⟨u,hu,hu1,hu2⟩:=QgZ hnd hj;obtain⟨p',hp',hp2⟩:=eL j a u ha hu;have hp':t[j]? = C p':=hp';have hb:t[j]? = C b:=hb;rw[hb]at hp';cases hp';have q:=Quf (by omega) hp2;have:=hu1.cnt k;have:=q.2.2.2.2 k;exact hl j a p ha hp k (by omega)
def Qnh (h:XE n)(O:IY n m)(ho:XL n o):Qk (Gm n m o) λr=>r.2=0->IY n r.1:=by
 obtain⟨⟨t,c⟩,hT,hmk⟩:=Qvf n m o 1024 h O.1 (by omega) ho;have hl:=AG (Qte n m o 1024 h O.1 O.2 (by omega) ho) hT;exact⟨_,hT,λh0=>QjH h (hmk h0) (hl h0)⟩
def Qni (h:XE n)(hg:IY n m)(ho:XL n o):Qk (Av n m o) λr=>r.2=0->IY n r.1:=by
 unfold Av;refine T0 (Np n o h ho) λy hy=>?_;refine T1 (λhc=>T2 λh=>absurd h (by simpa using hc)) λhc2=>?_;obtain⟨hym,hyl⟩:=hy (by simpa using hc2);obtain⟨r,hr,hmk⟩:=Qna n m y.1 1024 20 h hg.1 hym (by omega);have hsp:=AG (QgD n m y.1 1024 20 h hg.1 hym (by omega)) hr;rw[hr,Qa];refine T2 λh0=>QjH h (hmk h0) λj b p hb hp k hk=>?_;obtain⟨_,ze⟩:=hsp.1 h0;have hj:j<n.Places.length:=(Xb.1 hp).1;obtain⟨u,hu,hu1,hu2⟩:=QgZ hg.1 hj;obtain⟨v,hv,hv1,hv2⟩:=QgZ hym hj;obtain⟨s,O,hs2⟩:=ze j u v hu hv;have O:r.1[j]? = C s:=O;have hb:r.1[j]? = C b:=hb;rw[hb]at O;cases O;have q:=QrX (by omega) hs2;by_cases c0:0<QD u k
 ·exact hg.2 j u p hu hp k c0
 have:=hu1.cnt k;have:=q.2.2.2 k;exact hyl j v p hv hp k (by omega)
def QqR {s:L_ Qg}(h:s.length<=1000000000):KB s=C s:=by
 unfold KB;rw[YI (by simp;omega),Qa,My]
structure Qpd (c:Qz):Prop where
 m:c.M.length<=100000
 b:∀b∈c.M,b.length<=100000
 i:c.Items.length<=1000
 f:∀x∈c.Items,x.Mode.Vars.length<=20000/\x.Mode.Ins.length<=20000/\x.Mode.Outs.length<=20000
def Qpd.fit (h:Qpd c):∀x∈c.Items,SJ x:=λx O=>by have:=h.f x O;unfold SJ;omega
def QeH (h:Qpd c):Yw c=C c:=by
 have mx:(1000:Nat)<=maxLen:=by decide
 have hi:=h.i;unfold Yw;have hM:=h.m;rw[Sq c.M (by omega) (λb hb=>by have:=h.b b hb;omega),Qa,QqR (by omega),Qa];have main:Qk (Qt (λst=>Ca c.Items st.1 st.2) (0,c.Items)) λq=>q=c.Items:=by
  refine Qk.up c.Items.length (λst=>st.1) (λst=>st.2=c.Items) rfl rfl (λi st O hn hJ=>?_);obtain⟨x,l⟩:=st;replace O:x=(i:Int):=O;subst O;replace hJ:l=c.Items:=hJ;subst hJ;show Qk (Ca c.Items i c.Items) _;unfold Ca;refine T1 (λhc=>?_) (λ_=>T2 (Qv rfl));simp only[QG]at hc;have i1:i<c.Items.length:=by omega
  have hx:=QN i1;have hf:=h.f _ (Xs i1);rw[QQ,hx,Qa,Tz (by omega),Qa,Tz (by omega),Qa,Tz (by omega),Qa,Qa];refine T2 (QV ⟨i1,Qr i1 (by omega),?_⟩);show c.Items.set (i:Int).toNat _=c.Items;rw[Ue];exact List.ext_getElem? λj=>by
   rw[List.getElem?_set];split
   ·rename_i e;subst e;rw[hx]
   rfl
 obtain⟨q,q1,rfl⟩:=main;rw[q1,Qa];all_goals rfl
def ZO (n:Qh)(o:Qo):Prop:=(∃a,Yf n o=C (a,0))/\∃b,ES n o=C (b,0)
structure JF (n:Qh) (c:Qz):Prop where
 g:IY n c.M
 n1:1<=c.Next/\c.Next<=1099511627776
 n2:0<=c.Now/\c.Now<=1099511627776
 up:upF c.Next 0 c.Items=true
 len:c.Items.length<=64
 f:∀x∈c.Items,XL n x.Mode/\ZO n x.Mode
def JF.lens (h:XE n)(O:JF n c):Qpd c:=by
 have hpl:=h.pl;have hl:=O.len;exact⟨by have:=O.g.1.1;omega,λb hb=>by have:=(O.g.1.2 b hb).2;omega,by omega,λx hx=>by have:=(O.f x hx).1;unfold XL at this;omega⟩
def Qr6 (h:XE n)(hm:XL n x.Mode):∃b,Hq x n=C b/\(b=false↔ZO n x.Mode):=by
 obtain⟨⟨a,p⟩,h1,_⟩:=Np n x.Mode h hm;obtain⟨⟨b,q⟩,h2,_⟩:=QgY n x.Mode h hm;unfold Hq ZO;rw[h1,h2,Qa,Qa];refine⟨_,rfl,?_⟩;simp only[KS,KJ];constructor
 ·rintro ⟨rfl,rfl⟩;exact⟨⟨a,rfl⟩,b,rfl⟩
 rintro ⟨⟨a',O⟩,b',e2⟩;simp only[Option.some.injEq,Prod.mk.injEq]at O e2;exact⟨O.2,e2.2⟩
def QqS (h:XE n)(hl:l.length<=maxLen)(hm:∀x∈l,XL n x.Mode):∃b,Jr l n=C b/\(b=false↔∀x∈l,ZO n x.Mode):=by
 unfold Jr Ww;have main:Qk (Qt (λst=>Jq l n st) 0) λq=>(∀r,q=.inl r->0<=r/\∃x∈l,¬ZO n x.Mode)/\(q=.inr ()->∀x∈l,ZO n x.Mode):=by
  refine Qk.up l.length (λst=>st) (λst=>∀(j:Nat) x,(j:Int)<st->l[j]? = C x->ZO n x.Mode) rfl (λj x hj=>by omega) (λi st hi hn hJ=>?_);replace hi:st=(i:Int):=hi;subst hi;show Qk (Jq l n i) _;unfold Jq;refine T1 (λhc=>?_) (λhc=>T2 (Qv ⟨λr e=>(by cases e),λ_ x hx=>?_⟩))
  ·simp only[QG]at hc;have i1:i<l.length:=by omega
   have hx:=QN i1;obtain⟨b,hb,hb2⟩:=Qr6 h (hm _ (Xs i1));rw[QQ,hx,Qa,hb,Qa];cases b with
   | true=>exact T2 (Qv ⟨λr e=>by cases e;exact⟨by omega,_,Xs i1,λhB=>by have:=hb2.2 hB;cases this⟩,λe=>by cases e⟩)
   | false=>
    refine T2 (QV ⟨i1,Qr i1 hl,λj x hj O=>?_⟩);rw[Qr i1 hl]at hj;by_cases cj:j=i
    ·subst cj;rw[hx]at O;cases O;exact hb2.1 rfl
    exact hJ j x (by omega) O
  simp only[Xq]at hc;obtain⟨j,hj,rfl⟩:=Ug.1 hx;exact hJ j _ (by omega) (QN hj)
 obtain⟨q,q1,q2,q3⟩:=main;rw[q1,Qa];rcases q with r | q
 ·obtain⟨h0,x,hx,hB⟩:=q2 r rfl;exact⟨true,by show C (decide (0<=r))=_;rw[Qi h0],⟨λe=>(by cases e),λe=>absurd (e x hx) hB⟩⟩
 exact⟨false,rfl,λ_=>q3 rfl,λ_=>rfl⟩
def Qnj (h:XE n)(O:JF n c):Eh n c=C true:=by
 have hL:=O.lens h;have hi:=hL.i;have mx:(1000:Nat)<=maxLen:=by decide
 obtain⟨b,b1,b2⟩:=QqS h (l:=c.Items) (by omega) λx hx=>(O.f x hx).1;have hb:=b2.2 λx hx=>(O.f x hx).2;subst hb;have h1:=O.n1;have h2:=O.n2;have hlen:=O.len;unfold Eh VX;rw[QnZ h O.g.1 (by omega) O.g.2,Qa,show(!true)=false from rfl,Qd,Qj (by omega),Qd,Qj (by omega),Qd,Qj (by omega),Qd,Qj (by omega),Qd,
  Qth (by omega),Qa,O.up,Qi (by omega)]
 show NF c n false=_;unfold NF;rw[Qd,b1];rfl
def RB (b:QZ):Prop:=1<=b.Most/\b.Most<=16/\1<=b.Enough/\b.Enough<=b.Most/\0<=b.Open/\b.Open<=b.Most/\0<=b.Done/\b.Done<=b.Most/\0<=b.Failed/\b.Failed<=b.Most/\1<=b.Open+b.Done+b.Failed/\b.Open+b.Done+b.Failed<=b.Most
instance (b : QZ):Decidable (RB b):=Classical.propDecidable _
def Qpe (h:0<=b.Open/\b.Open<=16)(O:0<=b.Done/\b.Done<=16)(h3:0<=b.Failed/\b.Failed<=16):Fj b=C (b.Open+b.Done+b.Failed):=by
 unfold Fj;rw[Xj (n:=b.Open+b.Done) (by omega),Xj (by omega)]
def PI (b:QZ):Jw b=C (decide (RB b)):=by
 unfold Jw Lk;simp only[Cv,Qa];have hl:=Px (body:=λst=>Yi b st) (l:=[b.Open,b.Done,b.Failed]) (λi=>(i:Int)) (λ_ x=>!(decide (0<=x)&&decide (x<=b.Most))) (.inl ()) (.inr ()) (λi x hi hx=>by
    show Yi b (i:Int)=_;unfold Yi;rw[Sr hx,UM hx,Qr hi (by show 3<=_;decide)];simp only[Qq,Qa,Cv];cases (!(decide (0<=x)&&decide (x<=b.Most)))<;>rfl) (by
    show Yi b (([b.Open,b.Done,b.Failed].length:Nat):Int)=_;unfold Yi;rw[Ss];rfl) (s0:=0) rfl
 have no:∀c,¬RB b->c=true->Gw b c=C (decide (RB b)):=λc h1 h2=>by subst h2;rw[Qj h1];rfl
 by_cases O:1<=b.Most/\b.Most<=16
 ·rw[Qi O.1,Qi O.2,show(!(true&&true))=false from rfl,Qd,Qa];by_cases c2:1<=b.Enough/\b.Enough<=b.Most
  ·rw[Qi c2.1,Qi c2.2,show(!(true&&true))=false from rfl];unfold Gw;rw[Qd,hl];have ha:CJ (λ(_:Nat) (x:Int)=>!(decide (0<=x)&&decide (x<=b.Most))) 0 [b.Open,b.Done,b.Failed]=!decide ((0<=b.Open/\b.Open<=b.Most)/\(0<=b.Done/\b.Done<=b.Most)/\(0<=b.Failed/\b.Failed<=b.Most)):=by
    simp only[CJ,QbD];rw[IZ];simp only[KT,Di,TF,Xq];omega
   rw[ha];by_cases c3:(0<=b.Open/\b.Open<=b.Most)/\(0<=b.Done/\b.Done<=b.Most)/\(0<=b.Failed/\b.Failed<=b.Most)
   ·rw[Qi c3];show Ra b=_;unfold Ra;rw[Qpe (by omega) (by omega) (by omega),Qa,Cv,Qa];congr 1;rw[IZ];simp only[QH,QG];unfold RB;constructor
    ·intro h;refine⟨?_,?_,?_,?_,?_,?_,?_,?_,?_,?_,?_,?_⟩<;>omega
    intro h;omega
   rw[Qj c3,Qj (λh:RB b=>c3 (by unfold RB at h;omega))];rfl
  exact no _ (λh=>c2 (by unfold RB at h;omega)) (by rw[Di,TF];simp only[Xq];omega)
 have hb:(!(decide (1<=b.Most)&&decide (b.Most<=16)))=true:=by rw[Di,TF];simp only[Xq];omega
 rw[hb];exact no _ (λh=>O (by unfold RB at h;omega)) rfl
def QeI (b:QZ):Kr b=C (decide (RB b)&&(decide (b.Enough<=b.Done)||decide (b.Open=0))):=by
 unfold Kr MK SR;rw[PI,Qa,NO];cases decide (RB b)<;>cases decide (b.Enough<=b.Done)<;>rfl
def Qcv:HR b=true↔RB b/\b.Done<b.Enough/\b.Open≠0:=by
 unfold HR;rw[PI,QeI];simp only[ZZ,QH,QG,Di,TF,KS,Xq];constructor
 ·rintro ⟨O,h⟩;rcases h with h | h
  ·exact absurd O h
  exact⟨O,by omega,h.2⟩
 rintro ⟨O,h,h3⟩;exact⟨O,.inr ⟨by omega,h3⟩⟩
def Qnk (hb:HR b=true)(v:QK):∃e O,WO v b=C (e,O)/\(e=0->RB O)/\O.Most=b.Most:=by
 obtain⟨h1,h2,h3⟩:=Qcv.1 hb;have h:∀w:Int,∃e O,WH b w=C (e,O)/\(w<=2->0<=w->e=0->RB O)/\O.Most=b.Most:=λw=>by
  unfold WH;rw[PI,QeI,Qi h1,Qa,Qa,Qj (by omega),Qj h3];show ∃e O,(bif w==0 then _ else _)=C (e,O)/\_;unfold RB at h1;by_cases w0:w=0
  ·rw[NO,Qi w0,Qq,Qpe (by omega) (by omega) (by omega),Qa,NO];by_cases cm:b.Open+b.Done+b.Failed=b.Most
   ·rw[Qi cm];exact⟨_,_,rfl,λ_ _ e=>(by cases e),rfl⟩
   rw[Qj cm,Xj (by omega)];exact⟨_,_,rfl,λ_ _ _=>by unfold RB;simp only;omega,rfl⟩
  rw[NO,Qj w0,Qd,NO,NO];by_cases w1:w=1
  ·rw[Qi w1,Qq];unfold Ei WN;simp only;rw[Xj (n:=b.Open-1) (by omega),Xj (n:=b.Done+1) (by omega),Xj (n:=b.Failed-1) (by omega),Xj (n:=b.Failed-1+1) (by omega)];exact⟨_,_,rfl,λ_ _ _=>by unfold RB;simp only;omega,rfl⟩
  rw[Qj w1,Qd];by_cases w2:w=2
  ·rw[Qi w2,Qq];unfold Ei WN;rw[Xj (n:=b.Open-1) (by omega),Xj (n:=b.Failed+1) (by omega)];exact⟨_,_,rfl,λ_ _ _=>by unfold RB;simp only;omega,rfl⟩
  rw[Qj w2];exact⟨_,_,rfl,λu1 u2 _=>absurd u2 (by omega),rfl⟩
 unfold WO MO Iy Iz;obtain⟨e0,b0,s0,t0,u0⟩:=h 0;obtain⟨e1,b1,s1,t1,u1⟩:=h 1;obtain⟨e2,b2,s2,t2,u2⟩:=h 2;rw[s0,s1,s2];cases v.call.Do==4 with
 | true=>exact⟨_,_,rfl,t0 (by omega) (by omega),u0⟩
 | false=>
  cases v.call.Do==2 with
  | true=>exact⟨_,_,rfl,t1 (by omega) (by omega),u1⟩
  | false=>exact⟨_,_,rfl,t2 (by omega) (by omega),u2⟩
def Qto (m:Int×Int×Int)(k:Int):∃e b,AT m k=C (e,b)/\(e=0->HR b=true):=by
 have k3:∀m:Int×Int×Int,∃e b,Gx k m=C (e,b)/\(e=0->HR b=true):=λm=>by
  unfold Gx Ru Rv;simp only[Cv,Qa];by_cases h:m.1<1
  ·rw[Qi h];exact⟨_,_,rfl,λe=>by cases e⟩
  rw[Qj h,Qd];by_cases O:m.1<=m.2.1/\m.2.1<=16
  ·rw[Qi O.1,Qi O.2,show(!(true&&true))=false from rfl,Qd];by_cases c3:1<=m.2.2/\m.2.2<=m.2.1
   ·rw[Qi c3.1,Qi c3.2,show(!(true&&true))=false from rfl,Qd,Qa];by_cases c4:m.1<=k/\k<=m.2.1
    ·rw[Qi c4.1,Qi c4.2,show(!(true&&true))=false from rfl,Qd];exact⟨_,_,rfl,λ_=>Qcv.2 (by unfold RB;simp only;omega)⟩
    have:(!(decide (m.1<=k)&&decide (k<=m.2.1)))=true:=by rw[Di,TF];simp only[Xq];omega
    rw[this];exact⟨_,_,rfl,λe=>by cases e⟩
   have:(!(decide (1<=m.2.2)&&decide (m.2.2<=m.2.1)))=true:=by rw[Di,TF];simp only[Xq];omega
   rw[this];exact⟨_,_,rfl,λe=>by cases e⟩
  have:(!(decide (m.1<=m.2.1)&&decide (m.2.1<=16)))=true:=by rw[Di,TF];simp only[Xq];omega
  rw[this];exact⟨_,_,rfl,λe=>by cases e⟩
 unfold AT;cases ((m.1==0)&&((m.2.1==0)&&(m.2.2==0)))with
 | true=>exact k3 _
 | false=>exact k3 _
def Qtp {a:L_ Bag}(h:XE n)(hm:QX (QX λ_=>True) m)(ho:XL n o)(hc:Yl n m o=C 0)(ha:Yf n o=C (a,0)):ZO n o/\∃e,idx n.Tasks o.Task=C e/\e∈n.Tasks:=by
 obtain⟨_,e,he,_,_,_,b,O,_,_,hg⟩:=VA.1 ((Qct h hm ho).1 hc);obtain⟨k1,k2,_⟩:=Nq h O;rw[he]at k1;cases k1;refine⟨⟨⟨a,ha⟩,?_⟩,_,he,k2⟩;unfold Jx at O;obtain⟨⟨x1,x2⟩,hx,O⟩:=QU O;rcases XU O with⟨c,O⟩|⟨c,O⟩
 ·simp only[Option.some.injEq,Prod.mk.injEq]at O;simp only[O.1]at c;cases c
 simp only[KJ]at c;subst c;rw[he,Qa]at O;simp only[Option.some.injEq,Prod.mk.injEq,true_and]at O;unfold Yd at hg;obtain⟨⟨y1,y2⟩,hy,hg⟩:=QU hg;simp only[Option.some.injEq]at hg;subst hg;refine⟨y1,?_⟩;unfold ES;rw[hx,Qa,show((0:Int) != 0)=false from rfl,Qd,he,Qa];rw[<-O]at hy;simp only at hy;rw[hy];rfl
def QpL (h:XE n)(hm:QX (QX λ_=>True) m)(ho:XL n o)(hc:Yl n m o=C 0):∃e,idx n.Tasks o.Task=C e/\e∈n.Tasks:=by
 obtain⟨_,e,O,_,_,_,b,hb,_⟩:=VA.1 ((Qct h hm ho).1 hc);obtain⟨k1,k2,_⟩:=Nq h hb;rw[O]at k1;cases k1;exact⟨_,O,k2⟩
structure EOk (n:Qh):Prop where
 h:XE n
 a:∀t∈n.Tasks,0<=t.After/\t.After<=65536
 j:∀t∈n.Tasks,t.Join≠3
def QpZ (l:L_ Qg)(id:Int):(dropL l id).length<=l.length:=QbE _ _
def Qp0 (x:Qg):(VR l x).length=(dropL l x.Id).length+1:=Qo5 x _
def JF.drop (h:JF n c)(hM:IY n M)(id:Int):JF n ⟨M,dropL c.Items id,c.Next,c.Now⟩:=by
 obtain⟨u1,u2⟩:=FW.1 h.up;refine⟨hM,h.n1,h.n2,FW.2 ⟨u1.drop id,λx O=>u2 x (TB.1 O).1⟩,?_,λx O=>h.f x (TB.1 O).1⟩;have:=QpZ c.Items id;have:=h.len;show(dropL c.Items id).length<=64;omega
def JF.put (O:JF n c)(hM:IY n M){nx:Int}(h1:c.Next<=nx)(h2:nx<=1099511627776)(hx:0<x.Id/\x.Id<nx/\0<=x.Until/\HR x.Batch=true)(hm:XL n x.Mode/\ZO n x.Mode)(hl:(VR c.Items x).length<=64):JF n ⟨M,VR c.Items x,nx,c.Now⟩:=by
 obtain⟨u1,u2⟩:=FW.1 O.up;have n1:=O.n1;refine⟨hM,⟨by show 1<=nx;omega,h2⟩,O.n2,FW.2 ⟨u1.put x,λy h=>?_⟩,hl,λy h=>?_⟩
 ·rcases QpX.1 h with rfl | ⟨h,_⟩
  ·exact hx
  have:=u2 y h;exact⟨this.1,by show y.Id<nx;omega,this.2.2⟩
 rcases QpX.1 h with rfl | ⟨h,_⟩
 ·exact hm
 exact O.f y h
def JF.fit (h:XE n)(O:JF n c):∀x∈c.Items,SJ x:=(O.lens h).fit
def UT (h:JF n c):c.Items.length<=maxLen:=by
 have:=h.len;have mx:(64:Nat)<=maxLen:=by decide
 omega
def Qp1 (hc:JF n c)(k:Xh):∃e x,Jj ⟨n,c,k⟩=C (e,x)/\((e=0/\x∈c.Items/\x.Id=k.Id)\/(e≠0/\(∀y∈c.Items,y.Id≠k.Id)/\(0<k.Id->k.Id<c.Next->e=12))):=by
 have hm:=UT hc;unfold Jj;by_cases hx:∃x∈c.Items,x.Id=k.Id
 ·obtain⟨x,hx,he⟩:=hx;obtain⟨i,y,h1,h2,h3⟩:=Qcu hm hx he;show ∃e x,((Kl c.Items k.Id).bind _)=_/\_;rw[h1,Qa,Qi (by omega),Qq,QQ,h2];exact⟨0,y,rfl,.inl ⟨rfl,Xx h2,h3⟩⟩
 have O:∀y∈c.Items,y.Id≠k.Id:=λy hy e=>hx ⟨y,hy,e⟩;show ∃e x,((Kl c.Items k.Id).bind _)=_/\_;rw[Qne hm O,Qa,Qj (by omega),Qd];by_cases c1:0<k.Id
 ·by_cases c2:k.Id<c.Next
  ·simp only[Qi c1,Qi c2];exact⟨12,_,rfl,.inr ⟨by omega,O,λ_ _=>rfl⟩⟩
  simp only[Qi c1,Qj c2];exact⟨3,_,rfl,.inr ⟨by omega,O,λ_ h=>absurd h c2⟩⟩
 simp only[Qj c1];exact⟨3,_,rfl,.inr ⟨by omega,O,λh=>absurd h c1⟩⟩
def Qr7 (h:XE n)(O:JF n c)(k:Xh){p:Qg}(hp:XL n p.Mode):∃e v,Kx ⟨n,c,k⟩ p=C (e,v)/\(e=0->∃M,Gm n c.M p.Mode=C (M,0)/\IY n M/\v=⟨n,⟨M,dropL c.Items p.Id,c.Next,c.Now⟩,k⟩):=by
 obtain⟨⟨M,e⟩,hG,hg⟩:=Qnh h O.g hp;have hl:=O.len;unfold Kx;simp only;rw[hG,Qa,HQ];by_cases c0:e=0
 ·subst c0;rw[Qi rfl,show(!true)=false from rfl,Qd,Qg1 (O.fit h) (by omega) (UT O)];exact⟨0,_,rfl,λ_=>⟨M,rfl,hg rfl,rfl⟩⟩
 simp only[Qj c0];exact⟨e,_,rfl,λh=>absurd h c0⟩
def Qcw (h:XE n)(O:JF n c)(k:Xh){p:Qg}(hp:XL n p.Mode):∃e v,Yk ⟨n,c,k⟩ p=C (e,v)/\(e=0->∃M,Av n c.M p.Mode=C (M,0)/\IY n M/\v=⟨n,⟨M,dropL c.Items p.Id,c.Next,c.Now⟩,k⟩):=by
 obtain⟨⟨M,e⟩,hG,hg⟩:=Qni h O.g hp;have hl:=O.len;unfold Yk;simp only;rw[hG,Qa,HQ];by_cases c0:e=0
 ·subst c0;rw[Qi rfl,show(!true)=false from rfl,Qd,Qg1 (O.fit h) (by omega) (UT O)];exact⟨0,_,rfl,λ_=>⟨M,rfl,hg rfl,rfl⟩⟩
 simp only[Qj c0];exact⟨e,_,rfl,λh=>absurd h c0⟩
inductive Eff (n:Qh) (c:Qz) (k:Xh):Qz->Qu->Prop
 | start (x:Qg) (e:QW) (need M:List Bag) (hd:k.Do=1) (hx:x.Id=c.Next) (hm:x.Mode=k.Mode) (he:idx n.Tasks k.Mode.Task=C e) (hu:x.Until=if 0<e.After then c.Now+e.After else 0) (hN:Yf n k.Mode=C (need,0)) (hT:YK c.M need=C (M,0)):Eff n c k ⟨M,VR c.Items x,c.Next+1,c.Now⟩ ⟨0,x.Id,[]⟩
 | keep (x y:Qg) (hd:k.Do≠1) (hy:y∈c.Items) (hx:x.Id=y.Id):Eff n c k ⟨c.M,VR c.Items x,c.Next,c.Now⟩ ⟨0,x.Id,[]⟩
 | shut (y:Qg) (M:List Bag) (hd:k.Do≠1) (hy:y∈c.Items) (hB:k.Do=5->Av n c.M y.Mode=C (M,0)) (hk:y.Id=k.Id):Eff n c k ⟨M,dropL c.Items y.Id,c.Next,c.Now⟩ ⟨0,y.Id,[y.Id]⟩
 | tick (ds:List Int) (M:List Bag) (hd:k.Do=6) (hn:ds.Nodup) (hi:∀d∈ds,∃x∈c.Items,x.Id=d) (hD:CG c.Items (c.Now+1)=C ds):Eff n c k ⟨M,ds.foldl dropL c.Items,c.Next,c.Now+1⟩ ⟨0,0,ds⟩
def QpM (h:XE n)(hc:JF n c)(k:Xh)(hd:k.Do≠1)(hd5:k.Do≠5):∃e a v,KX ⟨n,c,k⟩=C (e,a,v)/\(e=0->JF n v.now/\Eff n c k v.now a)/\((∀y∈c.Items,y.Id≠k.Id)->0<k.Id->k.Id<c.Next->e=12):=by
 obtain⟨e,x,hf,hx⟩:=Qp1 hc k;have hl:=hc.len;unfold KX;rw[hf,Qa];rcases hx with⟨rfl,hx,hi⟩|⟨h0,O,h12⟩
 ·obtain⟨u1,u2⟩:=FW.1 hc.up;have hxx:=u2 x hx;obtain⟨e,b,hb,hr,_⟩:=Qnk hxx.2.2.2 ⟨n,c,k⟩;obtain⟨m1,m2⟩:=hc.f x hx;rw[show((0:Int)==0)=true from rfl,Qq,hb,Qa];have n12:∀{q:Prop},(∀y∈c.Items,y.Id≠k.Id)->q:=λO=>absurd hi (O x hx);show ∃e' a v,Ym ⟨n,c,k⟩ e ⟨x.Id,x.Mode,b,x.Until⟩=_/\_;unfold Ym;rw[HQ];by_cases c0:e=0
  ·rw[Qi c0,show(!true)=false from rfl,Qd];simp only;rw[QeI,Qa,Qi (hr c0)];have hB:=hr c0;by_cases c1:b.Enough<=b.Done\/b.Open=0
   ·have:(true&&(decide (b.Enough<=b.Done)||decide (b.Open=0)))=true:=by
     rcases c1 with c1 | c1
     ·rw[Qi c1];rfl
     rw[Qi c1,Bool.or_true];rfl
    rw[this,show(!true)=false from rfl,Qd];have hw:∃w,Au b=C w:=by
     unfold Au MQ SX;rw[PI];cases decide (RB b)<;>exact⟨_,rfl⟩
    obtain⟨w,hw⟩:=hw;rw[hw,Qa];cases w with
    | true=>
     obtain⟨e2,v,hv,hv0⟩:=Qr7 h hc k (p:=⟨x.Id,x.Mode,b,x.Until⟩) m1;rw[Qq,hv];refine⟨_,_,_,rfl,λhz=>?_,λO=>n12 O⟩;obtain⟨M,g1,g2,rfl⟩:=hv0 hz;exact⟨hc.drop g2 _,.shut x M hd hx (λh=>absurd h hd5) hi⟩
    | false=>
     obtain⟨e2,v,hv,hv0⟩:=Qcw h hc k (p:=⟨x.Id,x.Mode,b,x.Until⟩) m1;rw[Qd,hv];refine⟨_,_,_,rfl,λhz=>?_,λO=>n12 O⟩;obtain⟨M,g1,g2,rfl⟩:=hv0 hz;exact⟨hc.drop g2 _,.shut x M hd hx (λh=>absurd h hd5) hi⟩
   have:(true&&(decide (b.Enough<=b.Done)||decide (b.Open=0)))=false:=by
    rw[Qj (λh=>c1 (.inl h)),Qj (λh=>c1 (.inr h))];rfl
   have hg:HR b=true:=Qcv.2 ⟨hB,by omega,λh=>c1 (.inr h)⟩;have hF:=hc.fit h x hx;rw[this,show(!false)=true from rfl,Qq,Qo6 (hc.fit h) (x:=⟨x.Id,x.Mode,b,x.Until⟩) hF (by omega) (UT hc)];refine⟨_,_,_,rfl,λ_=>⟨?_,.keep ⟨x.Id,x.Mode,b,x.Until⟩ x hd hx rfl⟩,λO=>n12 O⟩;refine hc.put hc.g (x:=⟨x.Id,x.Mode,b,x.Until⟩) (Int.le_refl _) hc.n1.2 ⟨hxx.1,hxx.2.1,hxx.2.2.1,hg⟩ ⟨m1,m2⟩ ?_;have:=QjE u1 hx;have:=Qp0 (l:=c.Items) ⟨x.Id,x.Mode,b,x.Until⟩;simp only at this;omega
  simp only[Qj c0];exact⟨e,_,_,rfl,λh=>absurd h c0,λO=>n12 O⟩
 rw[NO,Qj h0,Qd];unfold Ym;rw[HQ,Qj h0];exact⟨e,_,_,rfl,λh=>absurd h h0,λ_=>h12⟩
def Qr8 (h:XE n)(hc:JF n c)(k:Xh)(hd:k.Do=5):∃e a v,WP ⟨n,c,k⟩=C (e,a,v)/\(e=0->JF n v.now/\Eff n c k v.now a)/\((∀y∈c.Items,y.Id≠k.Id)->0<k.Id->k.Id<c.Next->e=12):=by
 obtain⟨e,x,hf,hx⟩:=Qp1 hc k;unfold WP;rw[hf,Qa,HQ];rcases hx with⟨rfl,hx,hi⟩|⟨h0,O,h12⟩
 ·obtain⟨m1,m2⟩:=hc.f x hx;obtain⟨e2,v,hv,hv0⟩:=Qcw h hc k (p:=x) m1;rw[Qi rfl,show(!true)=false from rfl,Qd,hv];refine⟨_,_,_,rfl,λhz=>?_,λO=>absurd hi (O x hx)⟩;obtain⟨M,g1,g2,rfl⟩:=hv0 hz;exact⟨hc.drop g2 _,.shut x M (by omega) hx (λ_=>g1) hi⟩
 simp only[Qj h0];exact⟨e,_,_,rfl,λh=>absurd h h0,λ_=>h12⟩
def Qr9 (H:EOk n)(O:JF n c)(k:Xh)(hk:XL n k.Mode)(hd:k.Do=1):∃e a v,Dq ⟨n,c,k⟩=C (e,a,v)/\(e=0->JF n v.now/\Eff n c k v.now a):=by
 have h:=H.h;have hl:=O.len;have n1:=O.n1;have n2:=O.n2;obtain⟨r,hr,_⟩:=QgX n c.M k.Mode h (O.g.1.len h (by decide)) hk;unfold Dq;simp only;rw[hr,Qa,HQ];by_cases c0:r=0
 case neg=>
  simp only[Qj c0];exact⟨r,_,_,rfl,λh=>absurd h c0⟩
 subst c0;rw[Qi rfl,show(!true)=false from rfl,Qd];obtain⟨⟨M,e⟩,hT,hG⟩:=Qr5 h O.g hk;obtain⟨⟨need,e2⟩,hN,_⟩:=Np n k.Mode h hk;obtain⟨t,ht,htm⟩:=QpL h (O.g.1.len h (by decide)) hk hr;have hR:KZ n c.M k.Mode 64=C 1:=by
  unfold KZ;rw[hr,Qa,show((0:Int) != 0)=false from rfl,Qd,ht,Qa,HQ,Qj (H.j t htm)];rfl
 rw[hR,Qa,show((1:Int) != 1)=false from rfl,Qd,ht,Qa];obtain⟨q,b,hb,hb0⟩:=Qto t.Many k.Num;rw[hb,Qa,HQ];by_cases c1:q=0
 case neg=>
  simp only[Qj c1];exact⟨q,_,_,rfl,λh=>absurd h c1⟩
 subst c1;have hgb:=hb0 rfl;rw[Qi rfl,show(!true)=false from rfl,Qd];by_cases c2:64<=(c.Items.length:Int)
 ·rw[Qi c2];exact⟨2,_,_,rfl,λh=>by cases h⟩
 rw[Qj c2,Qd,NO];by_cases c3:c.Next=1099511627776
 ·rw[Qi c3];exact⟨1,_,_,rfl,λh=>by cases h⟩
 rw[Qj c3,Qd];have hA:=H.a t htm;obtain⟨u1,u2⟩:=FW.1 O.up;have k1:∀u:Int,0<=u->(u=if 0<t.After then c.Now+t.After else 0)->∃e a v,JR ⟨n,c,k⟩ ⟨c.Next,k.Mode,b,u⟩=C (e,a,v)/\(e=0->JF n v.now/\Eff n c k v.now a):=λu hu he=>by
  unfold JR;simp only;rw[hT,Qa,HQ];by_cases c4:e=0
  ·subst c4;obtain⟨g1,g2,need',g3,g4⟩:=hG rfl;have hF:SJ (⟨c.Next,k.Mode,b,u⟩:Qg):=by have:=hk;unfold XL at this;unfold SJ;simp only;omega
   rw[Qi rfl,show(!true)=false from rfl,Qd,Qo6 (O.fit h) hF (by omega) (UT O),Xj (by omega)];refine⟨_,_,_,rfl,λ_=>⟨?_,.start ⟨c.Next,k.Mode,b,u⟩ t need' M hd rfl rfl ht he g3 g4⟩⟩;refine O.put g1 (by omega) (by omega) (x:=⟨c.Next,k.Mode,b,u⟩) ⟨by show 0<c.Next;omega,by show c.Next<c.Next+1;omega,hu,hgb⟩ ⟨hk,(Qtp h (O.g.1.len h (by decide)) hk g2 g3).1⟩ ?_;have:=Qp0 (l:=c.Items) ⟨c.Next,k.Mode,b,u⟩;have:=QpZ c.Items c.Next;simp only at *;omega
  simp only[Qj c4];exact⟨e,_,_,rfl,λh=>absurd h c4⟩
 by_cases c5:0<t.After
 ·rw[Qi c5,Qq,Xj (by omega)];exact k1 _ (by omega) (by rw[if_pos c5])
 rw[Qj c5,Qd];exact k1 _ (by omega) (by rw[if_neg c5])
def Qpf (hu:Up L):∀i,i<=L.length->Bi L i=((L.take i).filter λx=>decide (0<x.Until)).map λx=>(x.Until,x.Id)
 | 0,_=>by simp[Bi]
 | i+1,hi=>by
  have hx:L[i]? = C L[i]:=QN (by omega);have O:∀y∈L.take i,y.Id≠L[i].Id:=λy hy e=>by
   obtain⟨j,hj,rfl⟩:=Ug.1 hy;rw[Wq]at hj;rw[Zx]at e;have:=QgO.1 hu j i (by omega) (by omega) (by omega);omega
  rw[Bi,hx,Qpf hu i (by omega),UU,hx];simp only[Option.toList_some,QdL,TK];by_cases c:0<L[i].Until
  ·rw[if_pos ⟨O,c⟩];simp[c]
  rw[if_neg λh=>c h.2];simp[c]
open Classical in
def QjI:∀{S:L_ Ky},Srt S->∀s,s∈S.takeWhile (λs=>decide (s.1<=now))↔s∈S/\s.1<=now
 | [],_,s=>by simp
 | a::S,hS,s=>by
  have O:=Hk.1 hS;rw[List.takeWhile_cons];by_cases c:a.1<=now
  ·rw[if_pos (Qi c),XT,XT,QjI O.2];constructor
   ·rintro (rfl | ⟨h,k⟩)
    ·exact⟨.inl rfl,c⟩
    exact⟨.inr h,k⟩
   rintro ⟨rfl | h,k⟩
   ·exact .inl rfl
   exact .inr ⟨h,k⟩
  rw[if_neg (by simpa using c)];constructor
  ·intro h;cases h
  rintro ⟨h,k⟩;rcases XT.1 h with rfl | h
  ·exact absurd k c
  have:=O.1 s h;unfold WE Hg at this;omega
open Classical in
def Qsa (hu:Up L)(hL:L.length<=80)(now:Int):∃ds,CG L now=C ds/\ds.Nodup/\(∀d,d∈ds↔∃x∈L,x.Id=d/\0<x.Until/\x.Until<=now)/\ds.length<=L.length:=by
 have hS:Srt ((Bi L L.length).mergeSort λa b=>decide (WE a b)):=by
  have:=List.pairwise_mergeSort (le:=λa b:Ky=>decide (WE a b)) (λa b c h k=>Qi ((Xc h).trans (Xc k))) (λa b=>by
   by_cases h:WE a b
   ·rw[Qi h];rfl
   rw[Qi (WE.tot h),Bool.or_true]) (Bi L L.length)
  exact this.imp λh=>Xc h
 have hp:=List.mergeSort_perm (Bi L L.length) λa b=>decide (WE a b);refine⟨_,Qng hL hS hp,?_,λd=>?_,?_⟩
 rotate_left 2
 ·unfold VS;rw[EA];have h1:=(List.takeWhile_sublist (λs:Ky=>decide (s.1<=now)) (l:=(Bi L L.length).mergeSort λa b=>decide (WE a b))).length_le;have h2:=hp.length_eq;have h3:=ZV L L.length;omega
 ·have O:=Qpf hu L.length (Yj _);rw[BY]at O;have hn:((Bi L L.length).map Prod.snd).Nodup:=by
   rw[O,TM];have:(L.map λx=>x.Id).Nodup:=by
    rw[List.nodup_iff_pairwise_ne,Zy];exact(show List.Pairwise (λa b:Qg=>a.Id<b.Id) L from hu).imp λh=>by omega
   exact this.sublist (List.Sublist.map _ List.filter_sublist)
  exact((hp.map Prod.snd).nodup_iff.2 hn).sublist ((List.takeWhile_sublist _).map _)
 unfold VS;rw[Yv];have O:=Qpf hu L.length (Yj _);rw[BY]at O;constructor
 ·rintro ⟨s,hs,rfl⟩;obtain⟨h1,h2⟩:=(QjI hS s).1 hs;have h3:=hp.mem_iff.1 h1;rw[O,Yv]at h3;obtain⟨x,hx,rfl⟩:=h3;rw[Mx]at hx;exact⟨x,hx.1,rfl,Xc hx.2,h2⟩
 rintro ⟨x,hx,rfl,h1,h2⟩;refine⟨(x.Until,x.Id),(QjI hS _).2 ⟨hp.mem_iff.2 ?_,h2⟩,rfl⟩;rw[O,Yv];exact⟨x,Mx.2 ⟨hx,Qi h1⟩,rfl⟩
def QgF:∀{ds:LI_} {l:L_ Qg},x∈ds.foldl dropL l↔x∈l/\x.Id ∉ ds
 | [],l=>by simp
 | d::ds,l=>by
  rw[List.foldl_cons,QgF,TB,XT,not_or];exact⟨λh=>⟨h.1.1,h.1.2,h.2⟩,λh=>⟨⟨h.1,h.2.1⟩,h.2.2⟩⟩
def Quu (h:XE n)(hc:JF n c)(k:Xh)(hd:k.Do=6):∃e a v,DX ⟨n,c,k⟩=C (e,a,v)/\(e=0->JF n v.now/\Eff n c k v.now a):=by
 have hl:=hc.len;have n2:=hc.n2;have mx:(80:Nat)<=maxLen:=by decide
 obtain⟨u1,u2⟩:=FW.1 hc.up;unfold DX;simp only;rw[NO];by_cases c1:c.Now=1099511627776
 ·rw[Qi c1];exact⟨1,_,_,rfl,λh=>by cases h⟩
 rw[Qj c1,Qd,Xj (by omega)];obtain⟨ds,hds,hn,hi,hdl⟩:=Qsa u1 (by omega) (c.Now+1);rw[hds,Qa];have hc1:JF n ⟨c.M,c.Items,c.Next,c.Now+1⟩:=⟨hc.g,hc.n1,⟨by show 0<=c.Now+1;omega,by show c.Now+1<=_;omega⟩,hc.up,hc.len,hc.f⟩;have main:Qk (Qt (λst=>YB ds st.1 st.2) (0,(⟨n,⟨c.M,c.Items,c.Next,c.Now+1⟩,k⟩:QK))) λq=>(∀r,q=.inl r->r.1≠0)/\(∀r,q=.inr r->∃M,r=⟨n,⟨M,ds.foldl dropL c.Items,c.Next,c.Now+1⟩,k⟩/\JF n r.now):=by
  refine Qk.up ds.length (λst:Int×QK=>st.1) (λst:Int×QK=>∃M,JF n ⟨M,(ds.take st.1.toNat).foldl dropL c.Items,c.Next,c.Now+1⟩/\st.2=⟨n,⟨M,(ds.take st.1.toNat).foldl dropL c.Items,c.Next,c.Now+1⟩,k⟩) rfl ⟨c.M,hc1,rfl⟩ (λi st hi2 hn2 hJ=>?_);obtain⟨j,v⟩:=st;replace hi2:j=(i:Int):=hi2;subst hi2;obtain⟨M,O,hv⟩:=hJ;replace hv:v=⟨n,⟨M,(ds.take i).foldl dropL c.Items,c.Next,c.Now+1⟩,k⟩:=hv;replace O:JF n ⟨M,(ds.take i).foldl dropL c.Items,c.Next,c.Now+1⟩:=O;subst hv;show Qk (YB ds i ⟨n,⟨M,(ds.take i).foldl dropL c.Items,c.Next,c.Now+1⟩,k⟩) _;unfold YB;refine T1 (λhlt=>?_) (λhlt=>T2 (Qv ⟨λr e=>(by cases e),λr e=>?_⟩))
  ·simp only[QG]at hlt;have i1:i<ds.length:=by omega
   have hx:=QN i1;obtain⟨x,x1,x2,_⟩:=(hi ds[i]).1 (Xs i1);have x3:x∈(ds.take i).foldl dropL c.Items:=QgF.2 ⟨x1,λhm=>by
    rw[x2]at hm;obtain⟨j,hj,e⟩:=Ug.1 hm;rw[Wq]at hj;rw[Zx]at e;exact absurd e ((QgO.1 (List.nodup_iff_pairwise_ne.1 hn)) j i (by omega) i1 (by omega))⟩
   obtain⟨p,y,f1,f2,f3⟩:=Qcu (UT O) x3 x2;simp only;rw[QQ,hx,Qa];show Qk ((Kl ((ds.take i).foldl dropL c.Items) ds[i]).bind _) _;rw[f1,Qa,QQ,f2,Qa];obtain⟨m1,m2⟩:=O.f y (Xx f2);obtain⟨e,v,hv,hv0⟩:=Qcw h O k (p:=y) m1;rw[hv,Qa];refine T1 (λhz=>T2 (Qv ⟨λr e=>by cases e;simpa using hz,λr e=>by cases e⟩)) (λhz=>?_);simp only[KJ]at hz;obtain⟨M',g1,g2,rfl⟩:=hv0 hz;have e1:(ds.take (i+1)).foldl dropL c.Items=dropL ((ds.take i).foldl dropL c.Items) y.Id:=by
    rw[UU,hx,List.foldl_append,f3];rfl
   refine T2 (QV ⟨i1,Qr i1 (by omega),?_⟩);rw[Qr i1 (by omega)];refine⟨M',?_,?_⟩
   ·show JF n ⟨M',(ds.take (i+1)).foldl dropL c.Items,c.Next,c.Now+1⟩;rw[e1];exact O.drop g2 _
   show(⟨n,_,k⟩:QK)=⟨n,⟨M',(ds.take (i+1)).foldl dropL c.Items,c.Next,c.Now+1⟩,k⟩;rw[e1]
  simp only[Xq]at hlt;have:ds.take i=ds:=UV (by omega);rw[this]at O e;cases e;exact⟨M,rfl,O⟩
 obtain⟨q,q1,q2,q3⟩:=main;rw[q1,Qa];rcases q with r | r
 ·have:=q2 r rfl;exact⟨r.1,_,_,rfl,λh=>absurd h this⟩
 obtain⟨M,rfl,O⟩:=q3 r rfl;exact⟨0,_,_,rfl,λ_=>⟨O,.tick ds M hd hn (λd hd=>by obtain⟨x,h1,h2,_⟩:=(hi d).1 hd;exact⟨x,h1,h2⟩) hds⟩⟩
def QtE (H:EOk n)(hc:JF n c)(k:Xh)(hk:XL n k.Mode):∃c' a,IA n c k=C (c',a)/\JF n c'/\((a.Err≠0/\c'=c/\a.Id=0/\a.Closed=[])\/Eff n c k c' a)/\(2<=k.Do->k.Do<=5->(∀y∈c.Items,y.Id≠k.Id)->0<k.Id->k.Id<c.Next->a.Err=12):=by
 have h:=H.h;have hL:=QeH (hc.lens h);have hR:=Qnj h hc;unfold IA;rw[hL,Qa];unfold Cb Wn;simp only[NO];have ins:k.Do≠1->k.Do≠5->∃c' a,Fz n c c k ()=C (c',a)/\JF n c'/\((a.Err≠0/\c'=c/\a.Id=0/\a.Closed=[])\/Eff n c k c' a)/\(2<=k.Do->k.Do<=5->(∀y∈c.Items,y.Id≠k.Id)->0<k.Id->k.Id<c.Next->a.Err=12):=λhd hd5=>by
  obtain⟨e,a,v,h1,h2,h3⟩:=QpM h hc k hd hd5;unfold Fz;rw[hR,Qa,show(!true)=false from rfl,Qd,h1,Qa,HQ];by_cases O:e=0
  ·rw[Qi O];obtain⟨g1,g2⟩:=h2 O;refine⟨_,_,rfl,g1,.inr g2,λ_ _ x1 x2 x3=>?_⟩;have:=h3 x1 x2 x3;omega
  simp only[Qj O];rw[show(!false)=true from rfl,Qq,hL];exact⟨c,_,rfl,hc,.inl ⟨O,rfl,rfl,rfl⟩,λ_ _=>h3⟩
 by_cases d1:k.Do=1
 ·rw[Qi d1];show ∃c' a,FA n c c k ()=_/\_;obtain⟨e,a,v,h1,h2⟩:=Qr9 H hc k hk d1;unfold FA;rw[hR,Qa,show(!true)=false from rfl,Qd,h1,Qa,HQ];by_cases O:e=0
  ·rw[Qi O];obtain⟨g1,g2⟩:=h2 O;exact⟨_,_,rfl,g1,.inr g2,λhh=>absurd hh (by omega)⟩
  simp only[Qj O];rw[show(!false)=true from rfl,Qq,hL];exact⟨c,_,rfl,hc,.inl ⟨O,rfl,rfl,rfl⟩,λhh=>absurd hh (by omega)⟩
 rw[Qj d1,Qd];by_cases d2:k.Do=2
 ·rw[Qi d2];exact ins d1 (by omega)
 rw[Qj d2,Qd];by_cases d3:k.Do=3
 ·rw[Qi d3];exact ins d1 (by omega)
 rw[Qj d3,Qd];by_cases d4:k.Do=4
 ·rw[Qi d4];exact ins d1 (by omega)
 rw[Qj d4,Qd];by_cases d5:k.Do=5
 ·rw[Qi d5];show ∃c' a,FB n c c k ()=_/\_;obtain⟨e,a,v,h1,h2,h3⟩:=Qr8 h hc k d5;unfold FB;rw[hR,Qa,show(!true)=false from rfl,Qd,h1,Qa,HQ];by_cases O:e=0
  ·rw[Qi O];obtain⟨g1,g2⟩:=h2 O;refine⟨_,_,rfl,g1,.inr g2,λ_ _ x1 x2 x3=>?_⟩;have:=h3 x1 x2 x3;omega
  simp only[Qj O];rw[show(!false)=true from rfl,Qq,hL];exact⟨c,_,rfl,hc,.inl ⟨O,rfl,rfl,rfl⟩,λ_ _=>h3⟩
 rw[Qj d5,Qd];by_cases d6:k.Do=6
 ·rw[Qi d6];show ∃c' a,FC n c c k ()=_/\_;obtain⟨e,a,v,h1,h2⟩:=Quu h hc k d6;unfold FC;rw[hR,Qa,show(!true)=false from rfl,Qd,h1,Qa,HQ];by_cases O:e=0
  ·rw[Qi O];obtain⟨g1,g2⟩:=h2 O;exact⟨_,_,rfl,g1,.inr g2,λ_ hh=>absurd hh (by omega)⟩
  simp only[Qj O];rw[show(!false)=true from rfl,Qq,hL];exact⟨c,_,rfl,hc,.inl ⟨O,rfl,rfl,rfl⟩,λ_ hh=>absurd hh (by omega)⟩
 rw[Qj d6,Qd];show ∃c' a,FD c ()=_/\_;unfold FD;rw[hL];exact⟨c,_,rfl,hc,.inl ⟨by show(1:Int)≠0;omega,rfl,rfl,rfl⟩,λh1 h2=>by omega⟩
def Quv : VJ=C true:=by kernel_rfl
end Go.Proofs
