/- A part of the proof. -/
import Derived.Test.YtdogcfnkpfekmaaGreatDoorN3P3
import Derived.Test.YtdogcfnkpfekmaaGreatDoorN3P3
import Derived.Test.YtdogcfnkpfekmaaGreatDoorN3P3
import Derived.Test.YtdogcfnkpfekmaaGreatDoorN3P3
import Derived.Test.YtdogcfnkpfekmaaGreatDoorN3P3
import Derived.Test.YtdogcfnkpfekmaaGreatDoorN3P3
import Derived.Test.YtdogcfnkpfekmaaGreatDoorN3XPlA
import Derived.Test.YtdogcfnkpfekmaaGreatDoorN3T2
set_option linter.all false
noncomputable section
namespace Go.Proofs
open Go Go.RowKit Go.Vm
open Option renaming some→C
variable {l:LI_}{n:Qd}{m y x:L_ Bag}{fl full:Bool}{o:Qc}{L:L_ (L_ Bag)}{s:ByteArray}{i most:Nat}{mm:L_ (ByteArray×Int)}{E:L_ QC}{a b:Int}{e:QC}
def asc_ext : ∀{a b:LI_},a.Pairwise (·<·)->b.Pairwise (·<·)->(∀k,k∈a↔k∈b)->a=b:=by
 intro a
 induction a with
 | nil=>
  intro b _ _ e;cases b with
  | nil=>rfl
  | cons y s=>have:=(e y).2 XD;cases this
 | cons x r ih=>
  intro b ha hb e;cases b with
  | nil=>have:=(e x).1 XD;cases this
  | cons y s=>
   obtain⟨a1,a2⟩:=FA.1 ha;obtain⟨b1,b2⟩:=FA.1 hb;have h1:x=y:=by
    rcases XV.1 ((e x).1 XD)with h | h
    ·exact h
    rcases XV.1 ((e y).2 XD)with h' | h'
    ·exact h'.symm
    have:=b1 x h;have:=a1 y h';omega
   subst h1;refine congrArg (x::·) (ih a2 b2 λk=>?_);constructor
   ·intro O;rcases XV.1 ((e k).1 (Yb _ O))with h | h
    ·subst h;have:=a1 k O;omega
    exact h
   intro O;rcases XV.1 ((e k).2 (Yb _ O))with h | h
   ·subst h;have:=b1 k O;omega
   exact h
def QtD:∀(j:Nat) (h:j<l.length),l[j]∈JH l:=by
 intro j
 induction j with
 | zero=>
  intro h;unfold JH Lib.compact Lib.compactUpTo;refine YB.2 ⟨0,Ua.2 ⟨Eo.2 h,?_⟩,OT h⟩;unfold Lib.keeps;simp
 | succ j ih=>
  intro h;have O:j<l.length:=by omega
  by_cases e:l[j+1]=l[j]
  ·rw[e];exact ih O
  unfold JH Lib.compact Lib.compactUpTo;refine YB.2 ⟨j+1,Ua.2 ⟨Eo.2 h,?_⟩,OT h⟩;unfold Lib.keeps;rw[show j+1-1=j from rfl,OT h,OT O];exact Qt (.inr e)
def Qqi {x:Int}:x∈JH l↔x∈l:=⟨QpA,λh=>by
 obtain⟨j,O,rfl⟩:=Ct.1 h;exact QtD j O⟩
def EmP (n:Qd)(m:L_ Bag)(h:Int)(r:LI_):Prop:=∀k,k∈r↔Nz m k/\∃e,idx n.Tasks h=C e/\∃a∈e.Ins,a.Place=k
def Qr8 (n:Qd)(m:L_ Bag)(task:Int)(h:QT n):Qg (Dd n m task) λr=>EmP n m task r/\r.Pairwise (·<·):=by
 unfold Dd;refine T1 (λhc=>T2 ⟨λk=>⟨λh=>(by cases h),λ⟨_,e,he,_⟩=>?_⟩,List.Pairwise.nil⟩) λhc=>?_
 ·obtain⟨h0,O⟩:=Yo he;have:=(QX.1 O).1;simp only[KW,Qx]at hc;omega
 simp only[JT,QS]at hc;refine T0 (T4 (by omega) (by omega)).self λe he=>?_;have hil:=(h.tk e he.2).2.1;refine T0 (Qg.up e.Ins.length (λst=>st.1) (λst=>(st.2.length:Int)<=st.1/\∀k,k∈st.2↔Nz m k/\∃a∈e.Ins.take st.1.toNat,a.Place=k) (Q:=λq:LI_=>q.length<=16/\∀k,k∈q↔Nz m k/\∃a∈e.Ins,a.Place=k) rfl ⟨by simp,λk=>⟨λh=>(by cases h),λ⟨_,a,ha,_⟩=>(by cases ha)⟩⟩ (λi st hi hn hJ=>?_)) (λq hq=>?_)
 ·obtain⟨x,l⟩:=st;replace hi:x=(i:Int):=hi;subst hi;obtain⟨j1,j2⟩:(l.length:Int)<=(i:Int)/\∀k,k∈l↔Nz m k/\∃a∈e.Ins.take (i:Int).toNat,a.Place=k:=hJ;rw[Xs]at j2;show Qg (Ak e m i l) _;unfold Ak;refine T1 (λhc2=>?_) (λhc2=>T2 (Qn ⟨by omega,?_⟩))
  rotate_left
  ·simp only[QS]at hc2;rw[JE (by omega)]at j2;exact j2
  simp only[Qx]at hc2;have i1:i<e.Ins.length:=by omega
  have hw:Qe ((i:Int)+1)=((i+1:Nat):Int):=Qj i1 (by unfold maxLen;omega:e.Ins.length<=maxLen);rw[Qs,Qp i1,Qa];refine T0 (P:=λy=>y=true↔Nz m (e.Ins[i]).Place) ?_ λy hy=>?_
  ·unfold Pj;refine T1 (λc1=>?_) λc1=>T2 ⟨λh=>(by cases h),λh=>absurd h.1 (by simpa using c1)⟩;refine T1 (λc2=>?_) λc2=>T2 ⟨λh=>(by cases h),λh=>absurd h.2.1 (by simpa using c2)⟩;simp only[Qx]at c1 c2;have hk:(e.Ins[i]).Place.toNat<m.length:=by omega
   rw[YI c1,Qp hk,Qa];refine T2 ⟨λhz=>⟨c1,c2,?_⟩,λhz=>?_⟩
   ·simp only[beq_iff_eq]at hz;rw[Qp hk,HO.1 (show(m[(e.Ins[i]).Place.toNat]).length=0 by omega)]
   have:=hz.2.2;rw[Qp hk]at this;rw[Option.some.inj this];rfl
  unfold Pk Aj;have put:∀k,(∃a∈e.Ins.take (i+1),a.Place=k)↔(∃a∈e.Ins.take i,a.Place=k)\/(e.Ins[i]).Place=k:=λk=>by
   rw[WX i1];constructor
   ·rintro ⟨a,ha,rfl⟩;rcases XU.1 ha with ha | ha
    ·exact .inl ⟨a,ha,rfl⟩
    simp at ha;subst ha;exact .inr rfl
   rintro (⟨a,ha,rfl⟩|rfl)
   ·exact⟨a,NG _ ha,rfl⟩
   exact⟨_,QiB _ (by simp),rfl⟩
  refine T1 (λc1=>?_) λc1=>?_
  ·refine T0 (T5 (by simp;omega)) λ_ _=>?_;refine T2 (QG ⟨i1,hw,by show((l++[_]).length:Int)<=Qe _;rw[hw];simp;omega,λk=>?_⟩);show k∈l++[_]↔Nz m k/\∃a∈e.Ins.take (Qe ((i:Int)+1)).toNat,a.Place=k;rw[hw,Xs,put k,XU,j2 k];constructor
   ·rintro (⟨O,h2⟩|hk)
    ·exact⟨O,.inl h2⟩
    simp at hk;subst hk;exact⟨hy.1 c1,.inr rfl⟩
   rintro ⟨O,h2 | rfl⟩
   ·exact .inl ⟨O,h2⟩
   exact .inr (by simp)
  refine T2 (QG ⟨i1,hw,by show(l.length:Int)<=Qe _;rw[hw];omega,λk=>?_⟩);show k∈l↔Nz m k/\∃a∈e.Ins.take (Qe ((i:Int)+1)).toNat,a.Place=k;rw[hw,Xs,put k,j2 k];constructor
  ·rintro ⟨O,h2⟩;exact⟨O,.inl h2⟩
  rintro ⟨O,h2 | rfl⟩
  ·exact⟨O,h2⟩
  have:=hy.2 O;rw[c1]at this;cases this
 obtain⟨q1,q2⟩:=hq;show Qg (Al q) _;unfold Al;rw[Qgo _ (by omega),Qa];refine T0 (T5 (by simp[WJ])) λ_ _=>?_;unfold Kk;rw[YR (by rw[WJ];omega),Qa,Qa];refine T2 ⟨λk=>?_,QpB (Qrr q)⟩;rw[Qqi,QpC,q2 k];constructor
 ·rintro ⟨O,h2⟩;exact⟨O,e,he.1,h2⟩
 rintro ⟨O,e',he',h2⟩;rw[he.1]at he';cases he';exact⟨O,h2⟩
def Qry (n:Qd)(m:L_ Bag)(O:Int)(h:QT n)(hl:m.length<=70):Qg (Lk n m O) λr=>EmP n m O r/\r.Pairwise (·<·):=by
 have mx:(70:Nat)<=maxLen:=by decide
 unfold Lk;by_cases hc:0<=O/\O<n.Tasks.length
 ·obtain⟨e,he,hmem⟩:=T4 hc.1 hc.2;have hil:=(h.tk e hmem).2.1;refine T0 (Qg.up m.length (λst=>st.1) (λst=>((st.2.length:Int)<=st.1/\st.2.Pairwise (·<·))/\∀k,k∈st.2↔k<st.1/\Nz m k/\∃a∈e.Ins,a.Place=k) (Q:=λq:LI_=>(∀k,k∈q↔Nz m k/\∃a∈e.Ins,a.Place=k)/\q.Pairwise (·<·)) rfl ⟨⟨by simp,List.Pairwise.nil⟩,λk=>⟨λh=>(by cases h),λ⟨h1,h2,_⟩=>absurd h2.1 (by show ¬0<=k;have:k<(0:Int):=h1;omega)⟩⟩ (λi st hi hn hJ=>?_)) (λq hq=>?_)
  ·obtain⟨x,l⟩:=st;replace hi:x=(i:Int):=hi;subst hi;obtain⟨⟨j1,j3⟩,j2⟩:((l.length:Int)<=(i:Int)/\l.Pairwise (·<·))/\∀k,k∈l↔k<(i:Int)/\Nz m k/\∃a∈e.Ins,a.Place=k:=hJ;show Qg (Bu m O n i l) _;unfold Bu;rw[Qt hc.1,Qt hc.2,Zs,Zs];refine T1 (λhc2=>?_) (λhc2=>T2 (Qn ⟨λk=>?_,j3⟩))
   rotate_left
   ·simp only[QS]at hc2;rw[j2 k];exact⟨λh=>h.2,λh=>⟨by have:=h.1.2.1;omega,h⟩⟩
   simp only[Qx]at hc2;have i1:i<m.length:=by omega
   have hw:Qe ((i:Int)+1)=((i+1:Nat):Int):=Qj i1 (by omega:m.length<=maxLen);refine T0 (P:=λb=>b=true↔∃a∈e.Ins,a.Place=(i:Int)) (Qg.up e.Ins.length (λst=>st.2) (λst=>st.1=true↔∃a∈e.Ins.take st.2.toNat,a.Place=(i:Int)) rfl ⟨λh=>(by cases h),λ⟨a,ha,_⟩=>(by cases ha)⟩ (λj st hj hn2 hK=>?_)) λb hb=>?_
   ·obtain⟨b,x⟩:=st;replace hj:x=(j:Int):=hj;subst hj;replace hK:b=true↔∃a∈e.Ins.take (j:Int).toNat,a.Place=(i:Int):=hK;rw[Xs]at hK;show Qg (SA n O i b j) _;unfold SA;rw[he,Qa];refine T1 (λhc3=>?_) (λhc3=>T2 (Qn ?_))
    rotate_left
    ·simp only[QS]at hc3;rw[JE (by omega)]at hK;exact hK
    simp only[Qx]at hc3;have k1:j<e.Ins.length:=by omega
    have hw2:Qe ((j:Int)+1)=((j+1:Nat):Int):=Qj k1 (by unfold maxLen;omega:e.Ins.length<=maxLen);refine T0 (P:=λy=>y=true↔(b=true\/(e.Ins[j]).Place=(i:Int))) ?_ λy hy=>?_
    ·unfold QcA;refine T1 (λc=>T2 ⟨λ_=>.inl c,λ_=>rfl⟩) λc=>?_;rw[he,Qa,Qs,Qp k1,Qa];refine T2 ⟨λh=>.inr (by simpa using h),λh=>?_⟩;rcases h with h | h
     ·rw[c]at h;cases h
     simpa using h
    unfold QcB;refine T2 (QG ⟨k1,hw2,?_⟩);show y=true↔∃a∈e.Ins.take (Qe ((j:Int)+1)).toNat,a.Place=(i:Int);rw[hw2,Xs,WX k1,hy,hK];constructor
    ·rintro (⟨a,ha,e1⟩|e1)
     ·exact⟨a,NG _ ha,e1⟩
     exact⟨_,QiB _ (by simp),e1⟩
    rintro ⟨a,ha,e1⟩;rcases XU.1 ha with ha | ha
    ·exact .inl ⟨a,ha,e1⟩
    simp at ha;subst ha;exact .inr e1
   show Qg (SB m i l b) _;unfold SB;have hmi:=Qp i1;refine T0 (P:=λy=>y=true↔Nz m i/\∃a∈e.Ins,a.Place=(i:Int)) ?_ λy hy=>?_
   ·unfold QcC;refine T1 (λc=>?_) λc=>T2 ⟨λh=>(by cases h),λh=>by have:=hb.2 h.2;rw[c]at this;cases this⟩;rw[Qs,hmi,Qa];refine T2 ⟨λhz=>⟨⟨by omega,by omega,?_⟩,hb.1 c⟩,λhz=>?_⟩
    ·simp only[beq_iff_eq]at hz;rw[Xs,hmi,HO.1 (show(m[i]).length=0 by omega)]
    have:=hz.1.2.2;rw[Xs,hmi]at this;rw[Option.some.inj this];rfl
   unfold QcD IH;refine T1 (λc1=>?_) λc1=>?_
   ·refine T0 (T5 (by simp;omega)) λ_ _=>?_;refine T2 (QG ⟨i1,hw,⟨by show((l++[_]).length:Int)<=Qe _;rw[hw];simp;omega,?_⟩,λk=>?_⟩)
    ·refine Qfz.2 ⟨j3,by simp,λa ha c hc'=>?_⟩;simp at hc';subst hc';exact((j2 a).1 ha).1
    show k∈l++[(i:Int)]↔k<Qe ((i:Int)+1)/\_;rw[hw,XU,j2 k];constructor
    ·rintro (h1 | hk)
     ·exact⟨by omega,h1.2⟩
     simp at hk;subst hk;exact⟨by omega,hy.1 c1⟩
    rintro ⟨h1,h2⟩;by_cases ck:k=(i:Int)
    ·exact .inr (by simp[ck])
    exact .inl ⟨by omega,h2⟩
   refine T2 (QG ⟨i1,hw,⟨by show(l.length:Int)<=Qe _;rw[hw];omega,j3⟩,λk=>?_⟩);show k∈l↔k<Qe ((i:Int)+1)/\_;rw[hw,j2 k];constructor
   ·rintro ⟨h1,h2⟩;exact⟨by omega,h2⟩
   rintro ⟨h1,h2⟩;refine⟨?_,h2⟩;by_cases ck:k=(i:Int)
   ·subst ck;have:=hy.2 h2;rw[c1]at this;cases this
   omega
  show Qg (Bv q) _;unfold Bv;refine T2 ⟨λk=>?_,hq.2⟩;rw[hq.1 k];exact⟨λ⟨a,b⟩=>⟨a,e,he,b⟩,λ⟨a,e',h1,b⟩=>by rw[he]at h1;cases h1;exact⟨a,b⟩⟩
 refine T0 (P:=λq:LI_=>q=[]) (Qg.up 0 (λst=>st.1) (λst=>st.2=[]) rfl rfl (λi st hi hn hJ=>?_)) λq hq=>?_
 ·obtain⟨x,l⟩:=st;replace hJ:l=[]:=hJ;subst hJ;show Qg (Bu m O n x []) _;unfold Bu;have:(decide (0<=O)&&decide (O<(n.Tasks.length:Int)))=false:=by
   rw[Bool.and_eq_false_iff,QS,QS];omega
  rw[this,Bool.and_false];exact T2 (Qn rfl)
 subst hq;show Qg (Bv []) _;unfold Bv;refine T2 ⟨λk=>⟨λh=>(by cases h),λ⟨_,e,he,_⟩=>?_⟩,List.Pairwise.nil⟩;obtain⟨h0,h1⟩:=Yo he;have:=(QX.1 h1).1;omega
def Qve (O:Int)(h:QT n)(hl:m.length<=70):Lk n m O=C (HB n m O):=by
 obtain⟨r,r1,r2,r3⟩:=Qry n m O h hl;obtain⟨s,s1,s2,s3⟩:=Qr8 n m O h;unfold HB;rw[r1,s1,asc_ext r3 s3 λk=>(r2 k).trans (s2 k).symm];rfl
def Qxq : ∀{l:LI_} {a N:Nat},l.Pairwise (·<·)->(∀k∈l,(a:Int)<=k/\k<N)->a<=N->l.length+a<=N:=by
 intro l
 induction l with
 | nil=>intro a N _ _ h;simpa using h
 | cons x r ih=>
  intro a N h hk ha;obtain⟨h1,h2⟩:=FA.1 h;have hx:=hk x XD;have:=ih (a:=x.toNat+1) (N:=N) h2 (λk O=>by have:=h1 k O;have:=hk k (Yb _ O);omega) (by omega);rw[We];omega
def Qzn {l:L_ (L_ Bag)}{e:LI_}(i:Nat)(hi:i<l.length)(he:e.length<=maxLen)(hk:∀k∈e,0<=k/\k<(l[i]).length):Qg (Qh (λst=>II e (l,fl) i st) 0) λq=>(q=.inl ()->BU e l[i]=true)/\(q=.inr ()->BU e l[i]=false):=by
 have hx:=Qp hi;generalize l[i]=x at hk hx ⊢;refine Qg.up e.length (λst=>st) (λst=>BU (e.take st.toNat) x=false) rfl rfl (λj st hj hn hJ=>?_);replace hj:st=(j:Int):=hj;subst hj;rw[Xs]at hJ;show Qg (II e (l,fl) i j) _;unfold II;refine T1 (λhc=>?_) (λhc=>T2 (Qn ⟨λh=>(by cases h),λ_=>?_⟩))
 ·simp only[Qx]at hc;have O:j<e.length:=by omega
  obtain⟨k0,k1⟩:=hk _ (Xn O);have k2:(e[j]).toNat<x.length:=by omega
  simp only;rw[Qs,hx,Qa,Qs,Qp O,Qa,YI k0,Qp k2,Qa];have hd:((x[(e[j]).toNat]?).getD [])=x[(e[j]).toNat]:=by rw[Qp k2];rfl
  refine T1 (λc=>T2 (Qn ⟨λ_=>?_,λh=>by cases h⟩)) λc=>T2 (QG ⟨O,Qj O he,?_⟩)
  ·exact EX.2 ⟨e[j],Xn O,by rw[hd];exact c⟩
  rw[Qj O he,Xs,WX O];unfold BU at hJ ⊢;rw[List.any_append,hJ,SZ,List.any_cons,List.any_nil,Ta,hd];exact c
 simp only[QS]at hc;rw[JE (by omega)]at hJ;exact hJ
def Qvf (o:Qc)(budget:Int)(h:QT n)(hr:RN n)(hb:Bd n)(hp:n.Places.length<=64)(hg:Xv n m)(ho:Yf n o):RB n m o budget=C (QcX n m o budget):=by
 have hml:=hg.len h;have hpl:=h.pl;have mx:(4096:Nat)<=maxLen:=by decide
 unfold RB;rw[Qgr h hr hml ho];obtain⟨x,hx,_⟩:=Qfq n m o h hml ho;rw[hx,Qa];by_cases c:x=0
 rotate_left
 ·rw[show(x != 0)=true by simpa using c];unfold QcX;rw[if_neg (by rw[hx];simpa using c)];rfl
 subst c;obtain⟨e,he,hmem⟩:=QnP h hml ho hx;rw[show((0:Int) != 0)=false from rfl,Qi,he,Qa];unfold QcX;rw[if_pos hx,he];simp only;by_cases c3:e.Join=3
 rotate_left
 ·rw[show(e.Join != 3)=true by simpa using c3,if_neg c3];rfl
 rw[show(e.Join != 3)=false by simpa using c3,Qi,if_pos c3,Qr7 o.Task budget h hr hb hp hg,Qa,Qve o.Task h (by rw[hg.1.1];omega),Qa];obtain⟨_,e1,e2⟩:=Qrs n m o.Task h;obtain⟨g1,g2,_,_⟩:=QnN (w:=o.Task) (budget:=budget) h hg;have hmo:=Qfr budget;have hel:(HB n m o.Task).length<=maxLen:=by
  have hs:(HB n m o.Task).length<=m.length:=by have:=Qxq (a:=0) (N:=m.length) e2 (λk hk=>⟨(e1 k hk).1,(e1 k hk).2.1⟩) (MU _);omega
  rw[hg.1.1]at hs;omega
 unfold QnO;generalize Fd n o.Task budget m=R at g1 g2;obtain⟨l,fl⟩:=R;replace g1:∀x∈l,Xv n x:=g1;replace g2:l.length<=QY budget:=g2;generalize HB n m o.Task=E at e1 hel ⊢;have main:Qg (Qh (λst=>IJ (l,fl) E st) 0) λq=>(q=.inl ()->l.any (BU E)=true)/\(q=.inr ()->l.any (BU E)=false):=by
  refine Qg.up l.length (λst=>st) (λst=>(l.take st.toNat).any (BU E)=false) rfl rfl (λi st hi hn hJ=>?_);replace hi:st=(i:Int):=hi;subst hi;rw[Xs]at hJ;show Qg (IJ (l,fl) E i) _;unfold IJ;refine T1 (λO=>?_) (λO=>T2 (Qn ⟨λh=>(by cases h),λ_=>?_⟩))
  ·replace O:decide ((i:Int)<(l.length:Int))=true:=O;simp only[Qx]at O;have i1:i<l.length:=by omega
   obtain⟨q,q1,q2,q3⟩:=Qzn (fl:=fl) i i1 hel λk hk=>by
    have h1:=e1 k hk;have h2:=(g1 _ (Xn i1)).1.1;have h3:=hg.1.1;exact⟨h1.1,by have:=h1.2.1;omega⟩
   rw[q1,Qa];rcases q with q | q
   ·exact T2 (Qn ⟨λ_=>EX.2 ⟨_,Xn i1,q2 rfl⟩,λh=>by cases h⟩)
   refine T2 (QG ⟨i1,Qj i1 (by omega),?_⟩);rw[Qj i1 (by omega),Xs,WX i1,List.any_append,hJ,SZ,List.any_cons,List.any_nil,Ta];exact q3 rfl
  replace O:decide ((i:Int)<(l.length:Int))=false:=O;simp only[QS]at O;rw[JE (by omega)]at hJ;exact hJ
 obtain⟨q,q1,q2,q3⟩:=main;rw[q1,Qa];rcases q with q | q
 ·show QcE=C (if l.any (BU E)=true then 0 else if fl=true then 1 else 2);rw[if_pos (q2 rfl)];rfl
 show SC (l,fl)=C (if l.any (BU E)=true then 0 else if fl=true then 1 else 2);rw[if_neg (by rw[q3 rfl];decide)];unfold SC;cases fl<;>rfl
def HC (n:Qd)(m:L_ Bag)(budget t:Int):Int:=match idx n.Tasks t with
 | some e=>if e.Join=3 then QnO n m t budget else 1
 | none=>0
def Qwo (budget:Int)(h:YD n m o=C 0):QcX n m o budget=HC n m budget o.Task:=by
 unfold QcX HC;cases idx n.Tasks o.Task<;>exact if_pos h
def Qwp (budget:Int)(h:QT n)(hb:Bd n)(hg:Xv n m):Qg (Ei n m budget 9223372036854775807) λr=>r.1.length<=4194304/\∀o∈r.1,o∈Ja n m:=by
 have hml:=hg.len h;have hal:=QiR m h hb;unfold Ei;rw[Qgq n m 9223372036854775807 h hml (by omega) (by omega) (.inr (by omega)),Qa];have e0:(Ja n m).take (9223372036854775807:Int).toNat=Ja n m:=JE (by omega);rw[e0];have hok:=λo=>PW (o:=o) h hml;refine T0 (Qg.up (Ja n m).length (λst=>st.2.1) (λst=>(st.2.2.1.length:Int)<=st.2.1/\∀o∈st.2.2.1,o∈Ja n m) (Q:=λq:Bool×L_ Qc=>q.2.length<=4194304/\∀o∈q.2,o∈Ja n m) rfl ⟨by simp,λo h=>(by cases h)⟩ (λi st hi hn hJ=>?_)) (λq hq=>T2 hq);obtain⟨known,x,l,mm⟩:=st;replace hi:x=(i:Int):=hi;subst hi;obtain⟨j1,j2⟩:(l.length:Int)<=(i:Int)/\∀o∈l,o∈Ja n m:=hJ;show Qg (WO (Ja n m) n m budget known i l mm) _;unfold WO;refine T1 (λhc=>?_) (λhc=>T2 (Qn ⟨by show l.length<=_;omega,j2⟩));simp only[Qx]at hc;have i1:i<(Ja n m).length:=by omega
 have hw:Qe ((i:Int)+1)=((i+1:Nat):Int):=Qj i1 (by unfold maxLen;omega:(Ja n m).length<=maxLen);have ho:=Xn i1;rw[Qs,Qp i1,Qa];generalize (Ja n m)[i]=o at ho ⊢;have k1:∀(O:Bool) l' mm',(l'.length:Int)<=(i:Int)+1->(∀o∈l',o∈Ja n m)->Qg (Gh i O l' mm') λr=>(∀s',r=.inl s'->i<(Ja n m).length/\s'.2.1=((i+1:Nat):Int)/\(s'.2.2.1.length:Int)<=s'.2.1/\∀o∈s'.2.2.1,o∈Ja n m)/\∀q:Bool×L_ Qc,r=.inr q->q.2.length<=4194304/\∀o∈q.2,o∈Ja n m:=λO l' mm' h1 h2=>by
  unfold Gh;exact T2 (QG (ix:=λst:Bool×Int×L_ Qc×QBg=>st.2.1) (J:=λst:Bool×Int×L_ Qc×QBg=>(st.2.2.1.length:Int)<=st.2.1/\∀o∈st.2.2.1,o∈Ja n m) ⟨i1,hw,by show(l'.length:Int)<=Qe _;rw[hw];omega,h2⟩)
 have k2:∀mm',Qg (Gi o l i known mm') λr=>(∀s',r=.inl s'->i<(Ja n m).length/\s'.2.1=((i+1:Nat):Int)/\(s'.2.2.1.length:Int)<=s'.2.1/\∀o∈s'.2.2.1,o∈Ja n m)/\∀q:Bool×L_ Qc,r=.inr q->q.2.length<=4194304/\∀o∈q.2,o∈Ja n m:=λmm'=>by
  unfold Gi;refine T1 (λc1=>?_) λc1=>T1 (λc2=>k1 _ _ _ (by omega) j2) λc2=>k1 _ _ _ (by omega) j2;refine T0 (T5 (by simp;omega)) λ_ _=>k1 _ _ _ (by simp;omega) λo' ho'=>?_;rcases XU.1 ho' with ho' | ho'
  ·exact j2 o' ho'
  simp at ho';subst ho';exact ho
 refine T1 (λc=>?_) λc=>k2 _;rw[Qrt o budget h hb hg (hok o ho),Qa];exact k2 _
def JX (n:Qd)(m:L_ Bag)(budget:Int):L_ Qc×Bool:=(Ei n m budget 9223372036854775807).getD ([],false)
def Qfs (budget:Int)(h:QT n)(hb:Bd n)(hg:Xv n m):Ei n m budget 9223372036854775807=C (JX n m budget)/\(JX n m budget).1.length<=4194304/\∀o∈(JX n m budget).1,o∈Ja n m:=by
 obtain⟨r,O,h2⟩:=Qwp budget h hb hg;unfold JX;rw[O];exact⟨rfl,h2⟩
def UB (L:L_ (L_ Bag))(s:ByteArray):O_ Nat:=L.findIdx? λy=>decide (Xp y=s)
def FI (mm:L_ (ByteArray×Int))(L:L_ (L_ Bag)):Prop:=∀s,Qr mm s=(UB L s).map λi=>(i:Int)
def Qwq (L:L_ (L_ Bag))(y:L_ Bag)(s:ByteArray):UB (L++[y]) s=match UB L s with
  | some i=>C i
  | none=>if Xp y=s then C L.length else none:=by
 unfold UB;rw[List.findIdx?_append];cases L.findIdx? λy=>decide (Xp y=s)with
 | some i=>rfl
 | none=>
  by_cases c:Xp y=s
  ·simp[c,List.findIdx?_cons]
  simp[c,List.findIdx?_cons]
def Qvg (h:UB L s=C i):∃y,L[i]? = C y/\Xp y=s:=by
 unfold UB at h;obtain⟨O,h2,_⟩:=List.findIdx?_eq_some_iff_getElem.1 h;exact⟨L[i],Qp O,Xd h2⟩
def Qvh (h:UB L s=none):∀y∈L,Xp y≠s:=λy O e=>by
 unfold UB at h;have:=List.findIdx?_eq_none_iff.1 h y O;exact absurd (Qt e) (by rw[this];decide)
def FI.add (h:FI mm L)(O:UB L (Xp y)=none):FI (XL SO mm (Xp y) (L.length:Int)) (L++[y]):=λs=>by
 rw[Kb,Qwq];by_cases c:s=Xp y
 ·subst c;rw[if_pos rfl,O];simp
 rw[if_neg c,h s];cases UB L s with
 | some i=>rfl
 | none=>simp only;rw[if_neg λe=>c e.symm]
def QK (b:Int):Nat:=(min2 b 4096).toNat
def Qxr (h:QT n)(O:Xv n m):ZE m=C (Xp m):=QnM h O
def QnS (b:Int)(E:L_ QC)(full:Bool)(h:QT n)(hg:Xv n y)(hI:FI mm L)(hb:0<b):
  ∃k O mm',DN n.Colours n.Places n.Tasks n.From n.To b mm L E full y=C (k,O,n.Colours,n.Places,n.Tasks,n.From,n.To,b,full,mm')/\FI mm' O/\
   ((∃i:Nat,UB L (Xp y)=C i/\k=(i:Int)/\O=L)\/(UB L (Xp y)=none/\QK b<=L.length/\k=-1/\O=L)\/(UB L (Xp y)=none/\¬QK b<=L.length/\k=(L.length:Int)/\O=L++[y])):=by
 have hmost:(QK b:Int)=min2 b 4096:=by unfold QK min2;split<;>omega
 have hm2:QK b<=4096:=by unfold QK min2;split<;>omega
 unfold DN;rw[Qxr h hg,Qa,hI (Xp y)];cases hp:UB L (Xp y)with
 | some i=>exact⟨i,L,mm,rfl,hI,.inl ⟨i,rfl,rfl,rfl⟩⟩
 | none=>
  simp only[PB,Option.isSome_none,Qi];cases hc:decide (min2 b 4096<=(L.length:Int))with
  | true=>exact⟨-1,L,mm,rfl,hI,.inr (.inl ⟨by trivial,by have:=Xd hc;omega,rfl,rfl⟩)⟩
  | false=>
   have hc':=of_decide_eq_false hc;simp only[Qi,Qa];rw[YR (by simp;omega),Qa];exact⟨L.length,L++[y],_,rfl,hI.add hp,.inr (.inr ⟨by trivial,by omega,rfl,rfl⟩)⟩
abbrev SSt := L_ (L_ Bag)×L_ QC×Bool
def YA (most:Nat)(n:Qd)(x:L_ Bag)(a:Int)(st:SSt)(o:Qc):SSt:=match Yg n x o with
 | some (y,c)=>if c=0 then(match UB st.1 (Xp y)with
   | some k=>(st.1,st.2.1++[QC.mk a (k:Int) o],st.2.2)
   | none=>if most<=st.1.length then(st.1,st.2.1,false)else(st.1++[y],st.2.1++[QC.mk a (st.1.length:Int) o],st.2.2))
  else(st.1,st.2.1,false)
 | none=>st
def QtE {a:Nat}(b:Int)(h:QT n)(hbd:Bd n)(hg:Xv n x)(hI:FI mm L)(hb:0<b)(hx:L[a]? = C x)(hE:E.length<=134217728):
  ∃O,let T:=(JX n x b).1.foldl (YA (QK b) n x a) (L,E,full&&(JX n x b).2)
   Ue n.Colours n.Places n.Tasks n.From n.To b mm L E full a=C (T.1,T.2.1,n.Colours,n.Places,n.Tasks,n.From,n.To,b,T.2.2,O)/\FI O T.1:=by
 obtain⟨hf,hfl,hfm⟩:=Qfs b h hbd hg;unfold Ue;rw[Qs,hx,Qa,show Qd.mk n.Colours n.Places n.Tasks n.From n.To=n from rfl,hf,Qa];have g1:AA full (JX n x b)=C (full&&(JX n x b).2):=by
  unfold AA;cases full<;>rfl
 rw[g1,Qa];have hok:∀o∈(JX n x b).1,Yf n o:=λo ho=>PW h (hg.len h) (hfm o ho);unfold Md;generalize hX:(JX n x b).1=X at hfl hok ⊢;generalize (full&&(JX n x b).2)=full0;have main:Qg (Qh (λst=>Gx (JX n x b) x a st.1 st.2.1 st.2.2.1 st.2.2.2.1 st.2.2.2.2.1 st.2.2.2.2.2.1 st.2.2.2.2.2.2.1 st.2.2.2.2.2.2.2.1 st.2.2.2.2.2.2.2.2.1 st.2.2.2.2.2.2.2.2.2.1 st.2.2.2.2.2.2.2.2.2.2) ((0:Int),n.Colours,n.Places,n.Tasks,n.From,n.To,b,full0,mm,E,L))
   λq=>∃O,q=(n.Colours,n.Places,n.Tasks,n.From,n.To,b,(X.foldl (YA (QK b) n x a) (L,E,full0)).2.2,O,(X.foldl (YA (QK b) n x a) (L,E,full0)).2.1,(X.foldl (YA (QK b) n x a) (L,E,full0)).1)/\FI O (X.foldl (YA (QK b) n x a) (L,E,full0)).1:=by
  refine Qg.up X.length (λst=>st.1) (λst=>st.2.1=n.Colours/\st.2.2.1=n.Places/\st.2.2.2.1=n.Tasks/\st.2.2.2.2.1=n.From/\st.2.2.2.2.2.1=n.To/\st.2.2.2.2.2.2.1=b/\FI st.2.2.2.2.2.2.2.2.1 st.2.2.2.2.2.2.2.2.2.2/\(st.2.2.2.2.2.2.2.2.2.1.length:Int)<=E.length+st.1/\(X.drop st.1.toNat).foldl (YA (QK b) n x a) (st.2.2.2.2.2.2.2.2.2.2,st.2.2.2.2.2.2.2.2.2.1,st.2.2.2.2.2.2.2.1)=X.foldl (YA (QK b) n x a) (L,E,full0)) rfl ⟨rfl,rfl,rfl,rfl,rfl,rfl,hI,by simp,rfl⟩ (λi st hi hn hJ=>?_);obtain⟨i',c,p,t,fr,tz,b',fu,mm,E',L'⟩:=st;replace hi:i'=(i:Int):=hi;subst hi;obtain⟨e1,e2,e3,e4,e5,e6,j1,j2,j3⟩:c=n.Colours/\p=n.Places/\t=n.Tasks/\fr=n.From/\tz=n.To/\b'=b/\FI mm L'/\(E'.length:Int)<=E.length+(i:Int)/\(X.drop (i:Int).toNat).foldl (YA (QK b) n x a) (L',E',fu)=X.foldl (YA (QK b) n x a) (L,E,full0):=hJ;subst e1;subst e2;subst e3;subst e4;subst e5;subst e6;rw[Xs]at j3;show Qg (Gx (JX n x b') x a i n.Colours n.Places n.Tasks n.From n.To b' fu mm E' L') _;unfold Gx;rw[hX];refine T1 (λhc=>?_) (λhc=>T2 (Qn ?_))
  ·simp only[Qx]at hc;have i1:i<X.length:=by omega
   have hw:Qe ((i:Int)+1)=((i+1:Nat):Int):=Qj i1 (by unfold maxLen;omega:X.length<=maxLen);rw[Qs,Qp i1,Qa,show Qd.mk n.Colours n.Places n.Tasks n.From n.To=n from rfl];rw[Fz i1,List.foldl_cons]at j3;have ho:=hok _ (Xn i1);generalize X[i]=o at ho j3 ⊢;obtain⟨⟨y,cc⟩,hD,_⟩:=Qo4 n x o 1024 h hg.1 (by omega) ho;rw[hD,Qa];have next:∀(fu':Bool) O E'' L'',FI O L''->(E''.length:Int)<=E.length+((i:Int)+1)->YA (QK b') n x a (L',E',fu) o=(L'',E'',fu')->
     Qg (Wo i n.Colours n.Places n.Tasks n.From n.To b' fu' O E'' L'') λr=>(∀s',r=.inl s'->i<X.length/\s'.1=((i+1:Nat):Int)/\(s'.2.1=n.Colours/\s'.2.2.1=n.Places/\s'.2.2.2.1=n.Tasks/\s'.2.2.2.2.1=n.From/\s'.2.2.2.2.2.1=n.To/\s'.2.2.2.2.2.2.1=b'/\FI s'.2.2.2.2.2.2.2.2.1 s'.2.2.2.2.2.2.2.2.2.2/\(s'.2.2.2.2.2.2.2.2.2.1.length:Int)<=E.length+s'.1/\(X.drop s'.1.toNat).foldl (YA (QK b') n x a) (s'.2.2.2.2.2.2.2.2.2.2,s'.2.2.2.2.2.2.2.2.2.1,s'.2.2.2.2.2.2.2.1)=X.foldl (YA (QK b') n x a) (L,E,full0)))/\
      ∀q,r=.inr q->∃O,q=(n.Colours,n.Places,n.Tasks,n.From,n.To,b',(X.foldl (YA (QK b') n x a) (L,E,full0)).2.2,O,(X.foldl (YA (QK b') n x a) (L,E,full0)).2.1,(X.foldl (YA (QK b') n x a) (L,E,full0)).1)/\FI O (X.foldl (YA (QK b') n x a) (L,E,full0)).1:=λfu' O E'' L'' f1 f2 f3=>by
    unfold Wo;refine T2 ⟨λs' e=>?_,λq e=>by cases e⟩;cases e;refine⟨i1,hw,rfl,rfl,rfl,rfl,rfl,rfl,f1,by show(E''.length:Int)<=_+Qe _;rw[hw];omega,?_⟩;show(X.drop (Qe ((i:Int)+1)).toNat).foldl (YA (QK b') n x a) (L'',E'',fu')=_;rw[hw,Xs,<-j3,f3]
   by_cases c0:cc=0
   ·subst c0;have hgy:=Zo h hg ho hD;simp only[show((0:Int)==0)=true from rfl,Ql];obtain⟨k,L'',mm'',hs,f1,f2⟩:=QnS b' E' fu h hgy j1 hb;rw[hs,Qa];simp only;unfold Wp;rcases f2 with⟨p,p1,rfl,rfl⟩|⟨p1,p2,rfl,rfl⟩|⟨p1,p2,rfl,rfl⟩
    ·rw[Qz (by omega),Qi];refine T0 (T5 (by simp;omega)) λ_ _=>next _ _ _ _ f1 (by simp;omega) ?_;unfold YA;rw[hD];simp only;rw[if_pos trivial,p1]
    ·rw[show decide ((-1:Int)<0)=true from rfl,Ql];refine next _ _ _ _ f1 (by omega) ?_;unfold YA;rw[hD];simp only;rw[if_pos trivial,p1];simp only;rw[if_pos p2]
    rw[Qz (by omega),Qi];refine T0 (T5 (by simp;omega)) λ_ _=>next _ _ _ _ f1 (by simp;omega) ?_;unfold YA;rw[hD];simp only;rw[if_pos trivial,p1];simp only;rw[if_neg p2]
   rw[show(cc==0)=false by simpa using c0,Qi];unfold Wp;rw[show decide ((-1:Int)<0)=true from rfl,Ql];refine next _ _ _ _ j1 (by omega) ?_;unfold YA;rw[hD];simp only;rw[if_neg c0]
  simp only[QS]at hc;rw[Qfx (by omega),List.foldl_nil]at j3;rw[<-j3];exact⟨mm,rfl,j1⟩
 obtain⟨q,hq1,O,rfl,hq2⟩:=main;refine⟨O,?_,hq2⟩;rw[hq1];rfl
def Zp (x:L_ Bag):Int:=Qe (tS x x.length)
def Dl (n:Qd)(b tokens:Int):Nat->SSt->Nat->SSt
 | 0,st,_=>st
 | f+1,st,a=>match st.1[a]? with
  | none=>st
  | some x=>if tokens<Zp x then Dl n b tokens f (st.1,st.2.1,false) (a+1)
   else Dl n b tokens f ((JX n x b).1.foldl (YA (QK b) n x a) (st.1,st.2.1,st.2.2&&(JX n x b).2)) (a+1)
def Qrz {st:SSt}(h:QT n)(hg:Xv n x)(ho:Yf n o)(hs:∀y∈st.1,Xv n y):∀y∈(YA most n x a st o).1,Xv n y:=by
 unfold YA;cases hD:Yg n x o with
 | none=>exact hs
 | some r=>
  obtain⟨y,c⟩:=r;simp only;by_cases c0:c=0
  ·subst c0;rw[if_pos rfl];cases UB st.1 (Xp y)with
   | some k=>exact hs
   | none=>
    simp only;split
    ·exact hs
    intro z O;rcases XU.1 O with O | O
    ·exact hs z O
    simp at O;subst O;exact Zo h hg ho hD
  rw[if_neg c0];exact hs
def Qsz {st:SSt}(h:st.1.length<=most):(YA most n x a st o).1.length<=most/\(YA most n x a st o).2.1.length<=st.2.1.length+1:=by
 unfold YA;cases hD:Yg n x o with
 | none=>exact⟨h,by simp⟩
 | some r=>
  obtain⟨y,c⟩:=r;simp only;by_cases O:c=0
  ·rw[if_pos O];cases UB st.1 (Xp y)with
   | some k=>exact⟨h,by simp⟩
   | none=>
    simp only;split
    ·exact⟨h,by simp⟩
    exact⟨by simp;omega,by simp⟩
  rw[if_neg O];exact⟨h,by simp⟩
def Qiu (h:QT n)(hg:Xv n x):∀{X:L_ Qc} {st:SSt},(∀o∈X,Yf n o)->(∀y∈st.1,Xv n y)->st.1.length<=most->(∀y∈(X.foldl (YA most n x a) st).1,Xv n y)/\(X.foldl (YA most n x a) st).1.length<=most/\(X.foldl (YA most n x a) st).2.1.length<=st.2.1.length+X.length:=by
 intro X
 induction X with
 | nil=>intro st _ hs O;exact⟨hs,O,by simp⟩
 | cons o X ih=>
  intro st ho hs O;have h1:=Qsz (n:=n) (x:=x) (a:=a) (o:=o) O;obtain⟨k1,k2,k3⟩:=ih (st:=YA most n x a st o) (λo' ho'=>ho o' (Yb _ ho')) (Qrz h hg (ho o XD) hs) h1.1;rw[List.foldl_cons];exact⟨k1,k2,by simp;omega⟩
def QpF (b tokens:Int)(h:QT n)(hbd:Bd n)(hg:Xv n m)(hb:b<=31):
  Hd n m b tokens=C (if b<=0 then Qu.mk [] [] false else let r:=Dl n b tokens (QK b+1) ([m],[],true) 0;Qu.mk r.1 r.2.1 r.2.2):=by
 have hpl:=h.pl;have hm1:=hg.1.1;unfold Hd;by_cases c0:b<=0
 ·rw[Qt c0,if_pos c0];rfl
 rw[Qz c0,if_neg c0,Qi,Hz m (by omega) (λb hb=>by have:=(hg.1.2 b hb).2;omega),Qa];have hmost:(QK b:Int)=b:=by unfold QK min2;split<;>omega
 obtain⟨k,L',mm',hs,f1,f2⟩:=QnS (mm:=[]) (L:=[]) b [] true h hg (λs=>rfl) (by omega);rw[hs,Qa];have hL:L'=[m]:=by
  rcases f2 with⟨i,p1,_,_⟩|⟨_,p2,_,_⟩|⟨_,_,_,e⟩
  ·simp[UB]at p1
  ·simp at p2;omega
  simpa using e
 subst hL;simp only;generalize hR:Dl n b tokens (QK b+1) ([m],[],true) 0=R;have main:Qg (Qh (λst=>Me tokens st.1 st.2.1 st.2.2.1 st.2.2.2.1 st.2.2.2.2.1 st.2.2.2.2.2.1 st.2.2.2.2.2.2.1 st.2.2.2.2.2.2.2.1 st.2.2.2.2.2.2.2.2.1 st.2.2.2.2.2.2.2.2.2.1 st.2.2.2.2.2.2.2.2.2.2) ((0:Int),n.Colours,n.Places,n.Tasks,n.From,n.To,b,true,mm',[m],([]:L_ QC)))
   λq=>∃mm,q=(n.Colours,n.Places,n.Tasks,n.From,n.To,b,R.2.2,mm,R.1,R.2.1):=by
  refine Qg.up (QK b) (λst=>st.1) (λst=>st.2.1=n.Colours/\st.2.2.1=n.Places/\st.2.2.2.1=n.Tasks/\st.2.2.2.2.1=n.From/\st.2.2.2.2.2.1=n.To/\st.2.2.2.2.2.2.1=b/\FI st.2.2.2.2.2.2.2.2.1 st.2.2.2.2.2.2.2.2.2.1/\(∀y∈st.2.2.2.2.2.2.2.2.2.1,Xv n y)/\st.2.2.2.2.2.2.2.2.2.1.length<=QK b/\(st.2.2.2.2.2.2.2.2.2.2.length:Int)<=st.1*4194304/\Dl n b tokens (QK b+1-st.1.toNat) (st.2.2.2.2.2.2.2.2.2.1,st.2.2.2.2.2.2.2.2.2.2,st.2.2.2.2.2.2.2.1) st.1.toNat=R) rfl ⟨rfl,rfl,rfl,rfl,rfl,rfl,f1,λy hy=>by simp at hy;subst hy;exact hg,by show 1<=_;omega,by simp,hR⟩ (λi st hi hn hJ=>?_);obtain⟨i',c,p,t,fr,tz,O,fu,mm,L,E⟩:=st;replace hi:i'=(i:Int):=hi;subst hi;obtain⟨e1,e2,e3,e4,e5,e6,j1,j2,j3,j4,j5⟩:c=n.Colours/\p=n.Places/\t=n.Tasks/\fr=n.From/\tz=n.To/\O=b/\FI mm L/\(∀y∈L,Xv n y)/\L.length<=QK b/\(E.length:Int)<=(i:Int)*4194304/\Dl n b tokens (QK b+1-(i:Int).toNat) (L,E,fu) (i:Int).toNat=R:=hJ;subst e1;subst e2;subst e3;subst e4;subst e5;subst e6;rw[Xs,show QK O+1-i=(QK O-i)+1 by omega,Dl]at j5;show Qg (Me tokens i n.Colours n.Places n.Tasks n.From n.To O fu mm L E) _;unfold Me;refine T1 (λhc=>?_) (λhc=>T2 (Qn ?_))
  ·simp only[Qx]at hc;have i1:i<L.length:=by omega
   have hx:=Qp i1;have hgx:=j2 _ (Xn i1);rw[Qs,hx,Qa];simp only[hx]at j5;generalize L[i]=x at hx hgx j5 ⊢;rw[QaE h hgx.1 (by omega),Qa];have hw:Qe ((i:Int)+1)=((i+1:Nat):Int):=Qj (by omega:i<QK O) (by unfold maxLen;omega);have next:∀(fu':Bool) mm' L' E',FI mm' L'->(∀y∈L',Xv n y)->L'.length<=QK O->(E'.length:Int)<=((i:Int)+1)*4194304->Dl n O tokens (QK O-i) (L',E',fu') (i+1)=R->
     Qg (CC i n.Colours n.Places n.Tasks n.From n.To O fu' mm' L' E') λr=>(∀s',r=.inl s'->i<QK O/\s'.1=((i+1:Nat):Int)/\(s'.2.1=n.Colours/\s'.2.2.1=n.Places/\s'.2.2.2.1=n.Tasks/\s'.2.2.2.2.1=n.From/\s'.2.2.2.2.2.1=n.To/\s'.2.2.2.2.2.2.1=O/\FI s'.2.2.2.2.2.2.2.2.1 s'.2.2.2.2.2.2.2.2.2.1/\(∀y∈s'.2.2.2.2.2.2.2.2.2.1,Xv n y)/\s'.2.2.2.2.2.2.2.2.2.1.length<=QK O/\(s'.2.2.2.2.2.2.2.2.2.2.length:Int)<=s'.1*4194304/\Dl n O tokens (QK O+1-s'.1.toNat) (s'.2.2.2.2.2.2.2.2.2.1,s'.2.2.2.2.2.2.2.2.2.2,s'.2.2.2.2.2.2.2.1) s'.1.toNat=R))/\
      ∀q,r=.inr q->∃mm,q=(n.Colours,n.Places,n.Tasks,n.From,n.To,O,R.2.2,mm,R.1,R.2.1):=λfu' mm' L' E' g1 g2 g3 g4 g5=>by
    unfold CC;refine T2 ⟨λs' e=>?_,λq e=>by cases e⟩;cases e;refine⟨by omega,hw,rfl,rfl,rfl,rfl,rfl,rfl,g1,g2,g3,by show(E'.length:Int)<=Qe _*_;rw[hw];omega,?_⟩;show Dl n O tokens (QK O+1-(Qe ((i:Int)+1)).toNat) (L',E',fu') (Qe ((i:Int)+1)).toNat=R;rw[hw,Xs,show QK O+1-(i+1)=QK O-i by omega];exact g5
   refine T1 (λhc2=>?_) λhc2=>?_
   ·rw[if_pos (show tokens<Zp x by simpa[Zp] using hc2)]at j5;exact next _ _ _ _ j1 j2 j3 (by omega) j5
   rw[if_neg (show ¬tokens<Zp x by simpa[Zp] using hc2)]at j5;obtain⟨mm',hl,f3⟩:=QtE (full:=fu) (E:=E) O h hbd hgx j1 (by omega) hx (by omega);rw[hl,Qa];obtain⟨q1,q2,q3⟩:=Qfs O h hbd hgx;obtain⟨g1,g2,g3⟩:=Qiu (a:=(i:Int)) (most:=QK O) h hgx (X:=(JX n x O).1) (st:=(L,E,fu&&(JX n x O).2)) (λo ho=>PW h (hgx.len h) (q3 o ho)) j2 j3;exact next _ _ _ _ f3 g1 g2 (by simp only at g3 ⊢;omega) j5
  simp only[QS]at hc;rw[Zv (show L.length<=i by omega)]at j5;rw[<-j5];exact⟨mm,rfl⟩
 obtain⟨q,hq1,mm,rfl⟩:=main;rw[hq1];rfl
structure Qyj (n:Qd) (m:List Bag) (b tokens:Int) (a:Nat) (st:SSt):Prop where
 good:∀y∈st.1,Xv n y
 apart:OQ Xp st.1
 len:st.1.length<=QK b
 head:∃r,st.1=m::r
 edge:∀e∈st.2.1,∃(i j:Nat) (x y:List Bag),e.From=(i:Int)/\e.To=(j:Int)/\i<a/\st.1[i]? = C x/\st.1[j]? = C y/\Yg n x e.Mode=C (y,0)/\Yf n e.Mode
 asc:st.2.1.Pairwise λe f=>e.From<=f.From
 full:st.2.2=true->∀(i:Nat) (x:List Bag),i<a->st.1[i]? = C x->Zp x<=tokens/\(JX n x b).2=true/\(st.2.1.filter λe=>e.From==(i:Int)).map (·.Mode)=(JX n x b).1/\∀o∈(JX n x b).1,∃y∈st.1,Yg n x o=C (y,0)
 tree:∀k:Nat,0<k->k<st.1.length->∃e∈st.2.1,∃i:Nat,e.From=(i:Int)/\i<k/\e.To=(k:Int)
structure Qo9 (n:Qd) (m:List Bag) (b tokens:Int) (a:Nat) (x:List Bag) (fl:Bool) (done:List Qc) (st:SSt):Prop where
 good:∀y∈st.1,Xv n y
 apart:OQ Xp st.1
 len:st.1.length<=QK b
 head:∃r,st.1=m::r
 here:st.1[a]? = C x
 edge:∀e∈st.2.1,∃(i j:Nat) (x y:List Bag),e.From=(i:Int)/\e.To=(j:Int)/\i<a+1/\st.1[i]? = C x/\st.1[j]? = C y/\Yg n x e.Mode=C (y,0)/\Yf n e.Mode
 asc:st.2.1.Pairwise λe f=>e.From<=f.From
 full:st.2.2=true->fl=true/\∀(i:Nat) (x:List Bag),i<a->st.1[i]? = C x->Zp x<=tokens/\(JX n x b).2=true/\(st.2.1.filter λe=>e.From==(i:Int)).map (·.Mode)=(JX n x b).1/\∀o∈(JX n x b).1,∃y∈st.1,Yg n x o=C (y,0)
 now:st.2.2=true->(st.2.1.filter λe=>e.From==(a:Int)).map (·.Mode)=done/\∀o∈done,∃y∈st.1,Yg n x o=C (y,0)
 tree:∀k:Nat,0<k->k<st.1.length->∃e∈st.2.1,∃i:Nat,e.From=(i:Int)/\i<k/\e.To=(k:Int)
section
variable {n:Qd}{m:L_ Bag}{b tokens:Int}{a:Nat}
def QnT (h:e.From=(a:Int))(hi:i<a):(E++[e]).filter (λe=>e.From==(i:Int))=E.filter λe=>e.From==(i:Int):=by
 rw[Tb,Bx,if_neg (by rw[h];simp;omega),List.filter_nil,Qda]
def QpG (h:e.From=(a:Int)):(E++[e]).filter (λe=>e.From==(a:Int))=(E.filter λe=>e.From==(a:Int))++[e]:=by
 rw[Tb,Bx,if_pos (by rw[h];simp),List.filter_nil]
def Qxs (h:QT n)(hp:n.Places.length<=64){done:L_ Qc}{st:SSt}(I:Qo9 n m b tokens a x fl done st)(ho:Yf n o):Qo9 n m b tokens a x fl (done++[o]) (YA (QK b) n x a st o):=by
 have hgx:=I.good x (Xt I.here);have hal:=(QX.1 I.here).1;unfold YA;obtain⟨⟨y,c⟩,hD,_⟩:=Qo4 n x o 1024 h hgx.1 (by omega) ho;rw[hD];simp only;have down:Qo9 n m b tokens a x fl (done++[o]) (st.1,st.2.1,false):=⟨I.good,I.apart,I.len,I.head,I.here,I.edge,I.asc,λe=>(by cases e),λe=>(by cases e),I.tree⟩;by_cases c0:c=0
 ·subst c0;rw[if_pos rfl];have hgy:=Zo h hgx ho hD;have ascs:∀k:Int,(st.2.1++[QC.mk (a:Int) k o]).Pairwise λe f=>e.From<=f.From:=λk=>by
   rw[Qfz];refine⟨I.asc,Qdb _ _,λe he f hf=>?_⟩;simp at hf;subst hf;obtain⟨i,_,_,_,h1,_,h2,_⟩:=I.edge e he;show e.From<=(a:Int);omega
  cases hk:UB st.1 (Xp y)with
  | some k=>
   simp only;obtain⟨z,hz,hzk⟩:=Qvg hk;have hzy:z=y:=QiT h hp (I.good z (Xt hz)) hgy hzk;subst hzy;refine⟨I.good,I.apart,I.len,I.head,I.here,λe he=>?_,ascs _,λhf=>?_,λhf=>?_,λk' h1 h2=>?_⟩
   ·rcases XU.1 he with he | he
    ·exact I.edge e he
    simp at he;subst he;exact⟨a,k,x,z,rfl,rfl,by omega,I.here,hz,hD,ho⟩
   ·obtain⟨f1,f2⟩:=I.full hf;refine⟨f1,λi u hi hu=>?_⟩;rw[QnT rfl hi];exact f2 i u hi hu
   ·obtain⟨f1,f2⟩:=I.now hf;show(List.filter _ (st.2.1++[_])).map _=_/\_;rw[QpG rfl,List.map_append,f1];refine⟨rfl,λo' O=>?_⟩;rcases XU.1 O with O | O
    ·exact f2 o' O
    simp at O;subst O;exact⟨z,Xt hz,hD⟩
   obtain⟨e,he,r⟩:=I.tree k' h1 h2;exact⟨e,NG _ he,r⟩
  | none=>
   simp only;by_cases cl:QK b<=st.1.length
   ·rw[if_pos cl];exact down
   rw[if_neg cl];have hnone:=Qvh hk;have hap:OQ Xp (st.1++[y]):=I.apart.add (by
    unfold Qia;exact List.any_eq_false.2 λu hu=>by simpa using hnone u hu)
   have up:∀{i:Nat} {u:L_ Bag},st.1[i]? = C u->(st.1++[y])[i]? = C u:=λ{i u} hu=>by
    rw[Jo ((QX.1 hu).1)];exact hu
   have hnew:(st.1++[y])[st.1.length]? = C y:=by rw[Kn (Yx _),Tf];rfl
   refine⟨λz hz=>?_,hap,by simp;omega,?_,up I.here,λe he=>?_,ascs _,λhf=>?_,λhf=>?_,λk' h1 h2=>?_⟩
   ·rcases XU.1 hz with hz | hz
    ·exact I.good z hz
    simp at hz;subst hz;exact hgy
   ·obtain⟨r,hr⟩:=I.head;exact⟨r++[y],by show st.1++[y]=_;rw[hr];rfl⟩
   ·rcases XU.1 he with he | he
    ·obtain⟨i,j,u,v,h1,h2,h3,h4,h5,h6⟩:=I.edge e he;exact⟨i,j,u,v,h1,h2,h3,up h4,up h5,h6⟩
    simp at he;subst he;exact⟨a,st.1.length,x,y,rfl,rfl,by omega,up I.here,hnew,hD,ho⟩
   ·obtain⟨f1,f2⟩:=I.full hf;refine⟨f1,λi u hi hu=>?_⟩;have hu':st.1[i]? = C u:=by
     have hu:(st.1++[y])[i]? = C u:=hu;rw[Jo (by omega)]at hu;exact hu
    obtain⟨g1,g2,g3,g4⟩:=f2 i u hi hu';rw[QnT rfl hi];refine⟨g1,g2,g3,λo' O=>?_⟩;obtain⟨z,hz,hz2⟩:=g4 o' O;exact⟨z,NG _ hz,hz2⟩
   ·obtain⟨f1,f2⟩:=I.now hf;show(List.filter _ (st.2.1++[_])).map _=_/\_;rw[QpG rfl,List.map_append,f1];refine⟨rfl,λo' O=>?_⟩;rcases XU.1 O with O | O
    ·obtain⟨z,hz,hz2⟩:=f2 o' O;exact⟨z,NG _ hz,hz2⟩
    simp at O;subst O;exact⟨y,by simp,hD⟩
   by_cases ck:k'=st.1.length
   ·subst ck;exact⟨QC.mk (a:Int) (st.1.length:Int) o,by simp,a,rfl,hal,rfl⟩
   have h2:k'<(st.1++[y]).length:=h2;obtain⟨e,he,r⟩:=I.tree k' h1 (by simp at h2;omega);exact⟨e,NG _ he,r⟩
 rw[if_neg c0];exact down
def Qwr (h:QT n)(hp:n.Places.length<=64):∀{X done:L_ Qc} {st:SSt},Qo9 n m b tokens a x fl done st->(∀o∈X,Yf n o)->Qo9 n m b tokens a x fl (done++X) (X.foldl (YA (QK b) n x a) st):=by
 intro X
 induction X with
 | nil=>intro done st I _;simpa using I
 | cons o X ih=>
  intro done st I ho;have:=ih (Qxs h hp I (ho o XD)) λo' O=>ho o' (Yb _ O);rw[Dz]at this;exact this
def Qws (h:QT n)(hbd:Bd n)(hp:n.Places.length<=64):∀(f:Nat) {st:SSt} {a:Nat},QK b<f+a->Qyj n m b tokens a st->∃a',Qyj n m b tokens a' (Dl n b tokens f st a)/\(Dl n b tokens f st a).1.length<=a':=by
 intro f
 induction f with
 | zero=>intro st a hf I;exact⟨a,I,by have:=I.len;show st.1.length<=a;omega⟩
 | succ f ih=>
  intro st a hf I;rw[Dl];cases hx:st.1[a]? with
  | none=>exact⟨a,I,List.getElem?_eq_none_iff.1 hx⟩
  | some x=>
   simp only;have hgx:=I.good x (Xt hx);by_cases ct:tokens<Zp x
   ·rw[if_pos ct];exact ih (by omega) ⟨I.good,I.apart,I.len,I.head,λe he=>by
     obtain⟨i,j,u,v,O,h2,h3,h4⟩:=I.edge e he;exact⟨i,j,u,v,O,h2,by omega,h4⟩,I.asc,λe=>(by cases e),I.tree⟩
   rw[if_neg ct];obtain⟨q1,q2,q3⟩:=Qfs b h hbd hgx;have M0:Qo9 n m b tokens a x (st.2.2&&(JX n x b).2) [] (st.1,st.2.1,st.2.2&&(JX n x b).2):=⟨I.good,I.apart,I.len,I.head,hx,λe he=>by
    obtain⟨i,j,u,v,O,h2,h3,h4⟩:=I.edge e he;exact⟨i,j,u,v,O,h2,by omega,h4⟩,I.asc,λe=>⟨e,I.full (QJ _ _▸e).1⟩,λe=>⟨by
    rw[List.filter_eq_nil_iff.2 λe he=>by
     obtain⟨i,_,_,_,O,_,h3,_⟩:=I.edge e he;rw[O];simp;omega];rfl,λo ho=>by cases ho⟩,I.tree⟩
   have M:=Qwr h hp M0 λo ho=>PW h (hgx.len h) (q3 o ho);rw[LW]at M;refine ih (by omega) ⟨M.good,M.apart,M.len,M.head,M.edge,M.asc,λhf i u hi hu=>?_,M.tree⟩;obtain⟨f1,f2⟩:=M.full hf;by_cases ci:i=a
   ·subst ci;have:u=x:=Option.some.inj (hu.symm.trans M.here);subst this;obtain⟨f3,f4⟩:=M.now hf;rw[QJ]at f1;exact⟨by omega,f1.2,f3,f4⟩
   exact f2 i u (by omega) hu
end
def DW (n:Qd)(m:L_ Bag)(b tokens:Int):Qu:=if b<=0 then Qu.mk [] [] false else Qu.mk (Dl n b tokens (QK b+1) ([m],[],true) 0).1 (Dl n b tokens (QK b+1) ([m],[],true) 0).2.1 (Dl n b tokens (QK b+1) ([m],[],true) 0).2.2
structure SOk (n:Qd) (m:List Bag) (b tokens:Int) (s:Qu):Prop where
 good:∀y∈s.States,Xv n y
 apart:OQ Xp s.States
 len:s.States.length<=QK b
 head:∃r,s.States=m::r
 edge:∀e∈s.Edges,∃(i j:Nat) (x y:List Bag),e.From=(i:Int)/\e.To=(j:Int)/\s.States[i]? = C x/\s.States[j]? = C y/\Yg n x e.Mode=C (y,0)/\Yf n e.Mode
 asc:s.Edges.Pairwise λe f=>e.From<=f.From
 full:s.Full=true->∀(i:Nat) (x:List Bag),s.States[i]? = C x->Zp x<=tokens/\(JX n x b).2=true/\(s.Edges.filter λe=>e.From==(i:Int)).map (·.Mode)=(JX n x b).1/\∀o∈(JX n x b).1,∃y∈s.States,Yg n x o=C (y,0)
 tree:∀k:Nat,0<k->k<s.States.length->∃e∈s.Edges,∃i:Nat,e.From=(i:Int)/\i<k/\e.To=(k:Int)
def QlW {tokens:Int}(h:QT n)(hbd:Bd n)(hp:n.Places.length<=64)(hg:Xv n m)(hb:0<b):SOk n m b tokens (DW n m b tokens):=by
 have hm:1<=QK b:=by unfold QK min2;split<;>omega
 obtain⟨a',I,hl⟩:=Qws (m:=m) (b:=b) (tokens:=tokens) h hbd hp (QK b+1) (st:=([m],[],true)) (a:=0) (by omega) ⟨λy hy=>by simp at hy;subst hy;exact hg,Qdb _ _,hm,⟨[],rfl⟩,λe he=>(by cases he),List.Pairwise.nil,λ_ i x hi=>by omega,λk h1 O=>by simp at O;omega⟩;unfold DW;rw[if_neg (by omega)];exact⟨I.good,I.apart,I.len,I.head,λe he=>by
  obtain⟨i,j,u,v,h1,O,_,h4⟩:=I.edge e he;exact⟨i,j,u,v,h1,O,h4⟩,I.asc,λhf i x hx=>I.full hf i x (by have h3:i<(Dl n b tokens (QK b+1) ([m],[],true) 0).1.length:=(QX.1 hx).1;omega) hx,I.tree⟩
def QsA (b tokens:Int)(h:QT n)(O:Bd n)(hg:Xv n m)(hb:b<=31):Hd n m b tokens=C (DW n m b tokens):=by
 rw[QpF b tokens h O hg hb];unfold DW;by_cases c:b<=0
 ·simp only[if_pos c]
 simp only[if_neg c]
def Rch (n:Qd):Prop:=(∀p∈n.Places,p.First.length*16<=140737488351232)/\∀c∈n.Colours,c.Names.length*16<=140737488351232
def QpH (hk:Xo n)(hr:Rch n):Qg (Fq n) λr=>r=true->(n.Colours.length<=40/\n.Places.length<=70/\n.Tasks.length<=70)/\∀p∈n.Places,p.First.length<=400:=by
 unfold Fq;refine T1 (λ_=>T2 λh=>by cases h) λO=>?_;simp only[JT,QS]at O;refine T6 (P:=λr=>r=true->∀p∈n.Places,p.First.length<=400) ?_ λr hr2 e=>⟨by omega,hr2 e⟩;refine T0 (Qg.up n.Colours.length (λst=>st.2) (λst=>0<=st.1/\st.1<=400) (Q:=λq:Unit⊕Int=>∀x,q=.inr x->0<=x/\x<=400) rfl ⟨by show(0:Int)<=0;omega,by show(0:Int)<=400;omega⟩ (λi st hi hn hJ=>?_)) (λq hq=>?_)
 ·obtain⟨a,x⟩:=st;replace hi:x=(i:Int):=hi;subst hi;obtain⟨j1,j2⟩:0<=a/\a<=400:=hJ;show Qg (Hf n a i) _;unfold Hf;refine T1 (λO=>?_) (λ_=>T2 (Qn λx e=>by cases e;exact⟨j1,j2⟩));simp only[Qx]at O;refine T0 (T4 (by omega) (by omega)).self λe he=>?_;obtain⟨he,hm⟩:=he;have hel:=hr.2 e hm;have hw:Qe (a+(e.Names.length:Int))=a+(e.Names.length:Int):=Xh (by omega);refine T0 (P:=λy=>y=false->a+(e.Names.length:Int)<=400) ?_ λy hy=>?_
  ·unfold Za;rw[he,Qa,hw];exact T1 (λ_=>T2 λh=>by cases h) λ_=>T2 λh=>by simpa using h
  unfold Zb;refine T1 (λ_=>T2 (Qn λx e=>by cases e)) λhyf=>?_;have hle:=hy hyf;refine T0 (Qg.up e.Names.length (λst=>st) (λ_=>True) (Q:=λ_=>True) rfl trivial (λi2 st hi2 hn2 _=>?_)) (λq _=>?_)
  ·show Qg (He n i st) _;unfold He;simp only[he,Qa];refine T1 (λO=>?_) (λ_=>T2 (Qn trivial));simp only[Qx]at O;refine T0 (T4 (by omega) (by omega)) λs _=>?_;refine T1 (λ_=>T2 (Qn trivial)) λ_=>?_;exact T2 (QG ⟨by omega,by rw[hi2];exact Qj (by omega) (hk.1.2 e hm).2.2.2.2.1.1,trivial⟩)
  rcases q with q | q
  ·exact T2 (Qn λx e=>by cases e)
  refine T2 (QG ⟨by omega,Qj (by omega) hk.1.1,?_⟩);show 0<=Qe (a+(e.Names.length:Int))/\Qe (a+(e.Names.length:Int))<=400;rw[hw];omega
 rcases q with q | q
 ·exact T2 λh=>by cases h
 have hq:=hq q rfl;show Qg (CH n q) _;unfold CH;refine T0 (Qg.up n.Places.length (λst=>st.2) (λst=>0<=st.1/\st.1<=400+st.2*8796093022208/\∀(j:Nat) p,(j:Int)<st.2->n.Places[j]? = C p->(p.First.length:Int)<=st.1) (Q:=λq:Unit⊕Int=>∀x,q=.inr x->∀p∈n.Places,(p.First.length:Int)<=x) rfl ⟨hq.1,by show q<=400+0*8796093022208;omega,λj p hj=>by simp at hj;omega⟩ (λi st hi hn hJ=>?_)) (λq hq=>?_)
 ·obtain⟨a,x⟩:=st;replace hi:x=(i:Int):=hi;subst hi;obtain⟨j1,j2,j3⟩:0<=a/\a<=400+(i:Int)*8796093022208/\∀(j:Nat) p,(j:Int)<(i:Int)->n.Places[j]? = C p->(p.First.length:Int)<=a:=hJ;show Qg (Hg n a i) _;unfold Hg;refine T1 (λO=>?_) (λO=>T2 (Qn λx e p hp=>?_))
  ·simp only[Qx]at O;have i1:i<n.Places.length:=by omega
   rw[Qs,Qp i1,Qa,Qa];have hpl:=hr.1 _ (Xn i1);have hw:Qe (a+((n.Places[i]).First.length:Int))=a+((n.Places[i]).First.length:Int):=Xh (by omega);have hw2:Qe ((i:Int)+1)=((i+1:Nat):Int):=Qj i1 hk.2.1.1;refine T1 (λ_=>T2 (Qn λx e=>by cases e)) λ_=>T2 (QG ⟨i1,hw2,?_⟩);show 0<=Qe (a+((n.Places[i]).First.length:Int))/\Qe (a+((n.Places[i]).First.length:Int))<=400+Qe ((i:Int)+1)*8796093022208/\∀(j:Nat) p,(j:Int)<Qe ((i:Int)+1)->n.Places[j]? = C p->(p.First.length:Int)<=Qe (a+((n.Places[i]).First.length:Int));rw[hw,hw2];refine⟨by omega,by omega,λj p hj hp=>?_⟩;by_cases cj:j=i
   ·subst cj;rw[Qp i1]at hp;cases hp;omega
   have:=j3 j p (by omega) hp;omega
  cases e;simp only[QS]at O;obtain⟨j,hj,rfl⟩:=Ct.1 hp;exact j3 j _ (by omega) (Qp hj)
 rcases q with q | q
 ·exact T2 λh=>by cases h
 exact(Qso n hk q).mono λr hr2 e p hp=>by have:=hr2 e;have:=hq q rfl p hp;omega
def QtF (hp:n.Places.length<=70)(hf:∀p∈n.Places,p.First.length<=400):Qg (DM n) λm=>m.length=n.Places.length/\∀b∈m,b.length<=401:=by
 unfold DM;refine T0 (Qg.up n.Places.length (λst=>st.1) (λst=>(st.2.length:Int)=st.1/\∀b∈st.2,b.length<=401) (Q:=λm:L_ Bag=>m.length=n.Places.length/\∀b∈m,b.length<=401) rfl ⟨rfl,λb h=>by cases h⟩ (λi st hi hn hJ=>?_)) (λq hq=>T2 hq);obtain⟨x,l⟩:=st;replace hi:x=(i:Int):=hi;subst hi;obtain⟨j1,j2⟩:(l.length:Int)=(i:Int)/\∀b∈l,b.length<=401:=hJ;show Qg (DB n i l) _;unfold DB;refine T1 (λhc=>?_) (λhc=>T2 (Qn ?_))
 ·simp only[Qx]at hc;have i1:i<n.Places.length:=by omega
  have hpl:=hf _ (Xn i1);rw[Qs,Qp i1,Qa];have hw:Qe ((i:Int)+1)=((i+1:Nat):Int):=Qj i1 (by unfold maxLen;omega:n.Places.length<=maxLen);have k1:∀b:Bag,b.length<=401->Qg (DA l i b) λo=>(∀s',o=.inl s'->i<n.Places.length/\s'.1=((i+1:Nat):Int)/\(s'.2.length:Int)=s'.1/\∀b∈s'.2,b.length<=401)/\∀r:L_ Bag,o=.inr r->r.length=n.Places.length/\∀b∈r,b.length<=401:=λb hb=>by
   unfold DA;refine T0 (T5 (by simp;omega)) λ_ _=>?_;refine T2 (QG (ix:=λst:Int×L_ Bag=>st.1) (J:=λst:Int×L_ Bag=>(st.2.length:Int)=st.1/\∀b∈st.2,b.length<=401) ⟨i1,hw,by show((l++[b]).length:Int)=Qe _;rw[hw];simp;omega,λb' O=>?_⟩);rcases XU.1 O with O | O
   ·exact j2 b' O
   simp at O;subst O;exact hb
  unfold Jh;rw[YR (by simp;omega)];simp only[Qa,LW];refine T1 (λhc2=>?_) λ_=>k1 _ (by omega);rw[show RO ([0]:LI_)=C [(0,1)]from Vz 0,Qa];rcases UA (n.Places[i]).First [(0,1)] (by simp;omega)with⟨_,e⟩|⟨_,_,_,e⟩|⟨_,_,r,e,h1,_,h2⟩
  ·rw[e,Qa];exact k1 _ (by omega)
  ·rw[e,Qa];exact k1 _ (by omega)
  rw[e,Qa];exact k1 _ (by simp at h2;show r.length<=401;omega)
 simp only[QS]at hc;exact⟨by show l.length=_;omega,j2⟩
def Ez (n:Qd):L_ Bag:=(DM n).getD []
structure QnU (n:Qd) (b:Int):Prop where
 net:QT n
 bd:Bd n
 pl:n.Places.length<=64
 good:Xv n (Ez n)
 first:DM n=C (Ez n)
 bud:b<=16
def Qwt (n:Qd)(b:Int)(hn:Xo n)(hr:Rch n):Qg (Hm n b) λr=>r=true->QnU n b:=by
 unfold Hm;refine T0 (QpH hn hr) λf hf=>?_;refine T1 (λ_=>T2 λh=>by cases h) λhc=>?_;simp only[JT,Fy,QS]at hc;obtain⟨h1,h2⟩:=hf hc.1;refine T0 (QtF h1.2.1 h2).self λm hm=>?_;obtain⟨O,hm1,hm2⟩:=hm;refine T0 (Qwk n m _ hn ⟨by unfold maxLen;omega,λb hb=>⟨by have:=hm2 b hb;unfold maxLen;omega,λ_ _=>trivial⟩⟩) λr hr2=>?_;refine T2 λe=>?_;obtain⟨g1,g2,g3,_⟩:=hr2 e;have ef:Ez n=m:=by unfold Ez;rw[O];rfl
 exact⟨g1,g2,by omega,by rw[ef];exact g3,by rw[ef];exact O,by omega⟩
def Qiv {tokens:Int}(h:QT n)(hbd:Bd n)(hg:Xv n m)(hb:b<=31):(DW n m b tokens).Edges.length<=130023424:=by
 have key:∀(K:Nat),K=4194304->∀(f:Nat) (st:SSt) (a:Nat),(∀y∈st.1,Xv n y)->st.1.length<=QK b->st.2.1.length<=a*K->a<=QK b->(Dl n b tokens f st a).2.1.length<=QK b*K:=by
  intro K hK;intro f
  induction f with
  | zero=>intro st a _ _ h3 h4;exact XZ h3 (Jx _ h4)
  | succ f ih=>
   intro st a h1 h2 h3 h4;rw[Dl];cases hx:st.1[a]? with
   | none=>exact XZ h3 (Jx _ h4)
   | some x=>
    simp only;have ha:=(QX.1 hx).1;have O:=h1 x (Xt hx);split
    ·exact ih _ _ h1 h2 (by show st.2.1.length<=(a+1)*K;rw[Nat.succ_mul];omega) (by omega)
    obtain⟨q1,q2,q3⟩:=Qfs b h hbd O;obtain⟨g1,g2,g3⟩:=Qiu (a:=(a:Int)) (most:=QK b) h O (X:=(JX n x b).1) (st:=(st.1,st.2.1,st.2.2&&(JX n x b).2)) (λo ho=>PW h (O.len h) (q3 o ho)) h1 h2;exact ih _ _ g1 g2 (by rw[Nat.succ_mul];simp only at g3;omega) (by omega)
 unfold DW;split
 ·simp
 have hm:1<=QK b/\QK b<=31:=by unfold QK min2;split<;>omega
 have:=key 4194304 rfl (QK b+1) ([m],[],true) 0 (λy hy=>by simp at hy;subst hy;exact hg) (by simp;omega) (by simp) (by omega);show List.length _<=_;have h2:QK b*4194304<=31*4194304:=Jx _ hm.2;exact XZ this h2
def QtG (budget:Int)(h:QT n)(hr:RN n)(hb:Bd n)(hp:n.Places.length<=64)(hg:Xv n m):∃r,Ei n m budget 9223372036854775807=C r/\Vo n m budget 9223372036854775807=C r/\r.1.length<=4194304/\∀o∈r.1,Yf n o:=by
 have hml:=hg.len h;have mx:(4194304:Nat)<=maxLen:=by decide
 have hal:=QiR m h hb;unfold Ei Vo;rw[Qro h hr hml (by unfold XI;omega) (.inr λk=>XZ (Qit m (k:Int) h hb) (by omega)),Qgq n m 9223372036854775807 h hml (by omega) (by omega) (.inr (by omega)),Qa,Qa];have e0:(Ja n m).take (9223372036854775807:Int).toNat=Ja n m:=JE (by omega);rw[e0];have hmem:∀o∈Ja n m,o∈Ja n m:=λo ho=>ho;have hlen:(Ja n m).length<=4194304:=hal;have hok:=λo=>PW (o:=o) h hml;have hck:∀o∈Ja n m,YD n m o=C 0:=λo ho=>(Qea h hml (hok o ho)).2 (Qss.1 ho);obtain⟨X,hX⟩:∃X,X=Ja n m:=⟨_,rfl⟩;rw[<-hX];replace hmem:∀o∈X,o∈Ja n m:=λo ho=>hX▸ho;rw[<-hX]at hlen;have main:∃r q,Qh (λst:Bool×Int×L_ Qc×QBg=>WO X n m budget st.1 st.2.1 st.2.2.1 st.2.2.2) (true,0,[],[])=C r/\Qh (λst:Bool×Int×L_ Qc=>UV X n m budget st.1 st.2.1 st.2.2) (true,0,[])=C q/\(r=q/\r.2.length<=4194304/\∀o∈r.2,Yf n o):=by
  refine QcU (b1:=λst:Bool×Int×L_ Qc×QBg=>WO X n m budget st.1 st.2.1 st.2.2.1 st.2.2.2) (b2:=λst:Bool×Int×L_ Qc=>UV X n m budget st.1 st.2.1 st.2.2) X.length
   (λi s t=>s.1=t.1/\s.2.1=(i:Int)/\t.2.1=(i:Int)/\s.2.2.1=t.2.2/\s.2.2.1.length<=i/\(∀o∈s.2.2.1,Yf n o)/\∀k v,Qr s.2.2.2 k=C v->v=HC n m budget k) (λr q=>r=q/\r.2.length<=4194304/\∀o∈r.2,Yf n o) (λi s t hn hI=>?_) (true,0,[],[]) (true,0,[]) ⟨rfl,rfl,rfl,rfl,Yx _,λo ho=>(by cases ho),λk v hv=>(by cases hv)⟩
  obtain⟨kn,x,l,mm⟩:=s;obtain⟨kn',x',l'⟩:=t;obtain⟨a1,a2,a3,a4,a5,a6,a7⟩:=hI;replace a1:kn=kn':=a1;replace a2:x=(i:Int):=a2;replace a3:x'=(i:Int):=a3;replace a4:l=l':=a4;subst a1 a2 a3 a4;replace a5:l.length<=i:=a5;replace a6:∀o∈l,Yf n o:=a6;replace a7:∀k v,Qr mm k=C v->v=HC n m budget k:=a7;show(_/\∃s' t',WO X n m budget kn i l mm=_/\UV X n m budget kn i l=_/\_)\/∃r q,WO X n m budget kn i l mm=_/\UV X n m budget kn i l=_/\_;unfold WO UV;by_cases hc:i<X.length
  ·left;refine⟨hc,?_⟩;have hw:Qe ((i:Int)+1)=((i+1:Nat):Int):=Qj hc (by omega:X.length<=maxLen);have ho:=hmem _ (Xn hc);rw[Qt (by omega:(i:Int)<(X.length:Int)),Ql,Ql,Qs,Qp hc,Qa,Qa];generalize X[i]=o at ho ⊢;have hoo:=hok o ho;rw[Qvf o budget h hr hb hp hg hoo,Qrt o budget h hb hg hoo,Qwo budget (hck o ho),Qa,Qa,Qa];have fin:∀mm':QBg,Qr mm' o.Task=C (HC n m budget o.Task)->(∀k v,Qr mm' k=C v->v=HC n m budget k)->
     ∃s' t',Gi o l i kn mm'=C (.inl s')/\(bif (HC n m budget o.Task==1)then(chk (decide (l.length+([o]:L_ Qc).length<=4294967296))).bind λ_=>UU (HC n m budget o.Task) i kn (l++([o]:L_ Qc))else UU (HC n m budget o.Task) i kn l)=C (.inl t')/\
      (s'.1=t'.1/\s'.2.1=((i+1:Nat):Int)/\t'.2.1=((i+1:Nat):Int)/\s'.2.2.1=t'.2.2/\s'.2.2.1.length<=i+1/\(∀o∈s'.2.2.1,Yf n o)/\∀k v,Qr s'.2.2.2 k=C v->v=HC n m budget k):=λmm' f1 f2=>by
    unfold Gi UU Gh MF;rw[f1];simp only[GI];by_cases c1:HC n m budget o.Task=1
    ·rw[c1];rw[show((1:Int)==1)=true from rfl,show((1:Int)==2)=false from rfl,Ql,Ql,Qi,YR (by simp;omega),Qa,Qa];exact⟨_,_,rfl,rfl,rfl,hw,hw,rfl,by simp;omega,λo' O=>by
      rcases XU.1 O with O | O
      ·exact a6 o' O
      simp at O;subst O;exact hoo,f2⟩
    rw[show(HC n m budget o.Task==1)=false by simpa using c1,Qi,Qi];cases (HC n m budget o.Task==2)with
    | true=>exact⟨_,_,rfl,rfl,rfl,hw,hw,rfl,by show l.length<=i+1;omega,a6,f2⟩
    | false=>exact⟨_,_,rfl,rfl,rfl,hw,hw,rfl,by show l.length<=i+1;omega,a6,f2⟩
   cases hv:Qr mm o.Task with
   | some v=>
    rw[show(!(C v).isSome)=false from rfl,Qi];have:=a7 _ _ hv;subst this;exact fin mm hv a7
   | none=>
    rw[show(!(none:O_ Int).isSome)=true from rfl,Ql];refine fin _ (by rw[Kb,if_pos rfl]) λk v hkv=>?_;rw[Kb]at hkv;split at hkv
    ·rename_i e;subst e;exact(Option.some.inj hkv).symm
    exact a7 k v hkv
  right;rw[Qz (by omega:¬(i:Int)<(X.length:Int)),Qi,Qi];exact⟨_,_,rfl,rfl,rfl,by show l.length<=4194304;omega,a6⟩
 obtain⟨r,q,h1,h2,h3,h4,h5⟩:=main;rw[h1,h2,Qa,Qa];subst h3;exact⟨_,rfl,rfl,h4,h5⟩
def Qvi : ∀{l:Bag} {p:Int×Int},AI (l++[p])=AI l+p.2:=by
 intro l p
 induction l with
 | nil=>simp[AI]
 | cons q l h=>rw[Qfw,AI,AI,h];omega
def QtH {b:Bag}(hb:Rt b)(h:b.length<=maxLen):Ej b=C (Qe (AI b)):=by
 unfold Ej;rw[HL h,Qa,show Ek (-1) b=true from YV.2 hb];have main:Qg (Qh (λst=>WU b true st.1 st.2) (0,0)) λq=>q=Qe (AI b):=by
  refine Qg.up b.length (λst=>st.2) (λst=>st.1=Qe (AI (b.take st.2.toNat))) rfl (by show(0:Int)=Qe 0;decide) (λi st hi hn hJ=>?_);obtain⟨t,x⟩:=st;replace hi:x=(i:Int):=hi;subst hi;replace hJ:t=Qe (AI (b.take (i:Int).toNat)):=hJ;subst hJ;rw[Xs];show Qg (WU b true (Qe (AI (b.take i))) i) _;unfold WU;rw[Zs];refine T1 (λhc=>?_) (λhc=>T2 (Qn ?_))
  ·simp only[Qx]at hc;have O:i<b.length:=by omega
   rw[Qs,Qp O,Qa];refine T2 (QG ⟨O,Qj O h,?_⟩);show Qe (Qe (AI (b.take i))+b[i].2)=Qe (AI (b.take (Qe ((i:Int)+1)).toNat));rw[Qj O h,Xs,WX O,Qvi,Qfi]
  simp only[QS]at hc;rw[JE (by omega)]
 obtain⟨q,q1,rfl⟩:=main;rw[q1];rfl
def Qvj (h:QT n)(hg:Xv n m):Rv m=Bc m:=by
 have hpl:=h.pl;have mx:(70:Nat)<=maxLen:=by decide
 have hml:m.length<=maxLen:=by rw[hg.1.1];omega
 have he:Rv m=(Qh (λst=>Iz m st.1 st.2) (0,0)).bind λq=>C q:=rfl;have he2:Bc m=(Qh (λst=>Wi m st.1 st.2) (0,0)).bind λq=>C q:=rfl;rw[he,he2];congr 1;refine Qal m.length (λi s=>s.2=(i:Int)) (λi s hs=>?_) (λi s s' hs O=>?_) _ rfl
 ·obtain⟨t,x⟩:=s;replace hs:x=(i:Int):=hs;subst hs;show Iz m t i=Wi m t i;unfold Iz Wi;by_cases c:(i:Int)<(m.length:Int)
  ·have i1:i<m.length:=by omega
   have hr:=hg.rt _ (Xn i1);rw[Qt c,Ql,Ql,Qs,Qp i1,Qa,Qa,QtH hr.1 hr.2,Qio _ hr.1 hr.2]
  rw[Qz c];rfl
 obtain⟨t,x⟩:=s;replace hs:x=(i:Int):=hs;subst hs;replace O:Wi m t i=C (.inl s'):=O;unfold Wi at O;rcases Ye O with⟨c,O⟩|⟨_,O⟩
 ·simp only[Qx]at c;have i1:i<m.length:=by omega
  obtain⟨e,_,O⟩:=QU O;obtain⟨v,_,O⟩:=QU O;cases O;exact⟨i1,Qj i1 hml⟩
 cases O
def Qvk (hp:n.Places.length<=70)(hf:∀p∈n.Places,p.First.length<=400):Ru n=DM n:=by
 have mx:(70:Nat)<=maxLen:=by decide
 have he:Ru n=(Qh (λst=>Iy n st.1 st.2) (0,([]:L_ Bag))).bind λq=>C q:=rfl;have he2:DM n=(Qh (λst=>DB n st.1 st.2) (0,([]:L_ Bag))).bind λq=>C q:=rfl;rw[he,he2];congr 1;refine Qal n.Places.length (λi s=>s.1=(i:Int)) (λi s O=>?_) (λi s s' O h=>?_) _ rfl
 ·obtain⟨x,l⟩:=s;replace O:x=(i:Int):=O;subst O;show Iy n i l=DB n i l;unfold Iy DB;by_cases c:(i:Int)<(n.Places.length:Int)
  ·have i1:i<n.Places.length:=by omega
   have hpl:=hf _ (Xn i1);rw[Qt c,Ql,Ql,Qs,Qp i1,Qa,Qa];unfold Jh;rw[YR (by simp;omega),YR (by simp;omega)];simp only[Qa,LW];rw[show RO ([0]:LI_)=C [(0,1)]from Vz 0,Qa,QlT (by simp;omega)];rfl
  rw[Qz c];rfl
 obtain⟨x,l⟩:=s;replace O:x=(i:Int):=O;subst O;replace h:DB n i l=C (.inl s'):=h;unfold DB at h;rcases Ye h with⟨c,h⟩|⟨_,h⟩
 ·simp only[Qx]at c;have i1:i<n.Places.length:=by omega
  have k1:∀{b},DA l i b=C (.inl s')->i<n.Places.length/\s'.1=((i+1:Nat):Int):=λhk=>by
   unfold DA at hk;obtain⟨_,_,hk⟩:=QU hk;cases hk;exact⟨i1,Qj i1 (by omega)⟩
  obtain⟨e,_,h⟩:=QU h;obtain⟨v,_,h⟩:=QU h;rcases Ye h with⟨_,h⟩|⟨_,h⟩
  ·obtain⟨_,_,h⟩:=QU h;obtain⟨_,_,h⟩:=QU h;rcases Ye h with⟨_,h⟩|⟨_,h⟩
   ·exact k1 h
   exact k1 h
  exact k1 h
 cases h
def atK (L:L_ (L_ Bag))(y:L_ Bag):Int:=match UB L (Xp y)with
 | some i=>(i:Int)
 | none=>-1
def Qwu (h:QT n)(hp:n.Places.length<=64)(E:L_ QC)(f:Bool)(hl:L.length<=maxLen)(hL:∀x∈L,Xv n x)(hy:Xv n y):CU L E f y=C (atK L y):=by
 unfold CU;have main:Qg (Qh (λst=>CS L y st) 0) λq=>(∀r,q=.inl r->∃i:Nat,r=(i:Int)/\UB L (Xp y)=C i)/\(q=.inr ()->UB L (Xp y)=none):=by
  refine Qg.up L.length (λst=>st) (λst=>∀(j:Nat) z,(j:Int)<st->L[j]? = C z->z≠y) rfl (λj z hj=>by omega) (λi st hi hn hJ=>?_);replace hi:st=(i:Int):=hi;subst hi;show Qg (CS L y i) _;unfold CS;refine T1 (λhc=>?_) (λhc=>T2 (Qn ⟨λr e=>(by cases e),λ_=>?_⟩))
  ·simp only[Qx]at hc;have O:i<L.length:=by omega
   rw[Qs,Qp O,Qa,QnR h (hL _ (Xn O)) hy,Qa];by_cases c:L[i]=y
   ·rw[Qt c];refine T2 (Qn ⟨λr e=>?_,λe=>by cases e⟩);cases e;refine⟨i,rfl,?_⟩;unfold UB;refine List.findIdx?_eq_some_iff_getElem.2 ⟨O,Qt (congrArg Xp c),λj hj=>?_⟩;have hne:=hJ j _ (by omega) (Qp (by omega:j<L.length));simp only[Qx];exact λe=>hne (QiT h hp (hL _ (Xn _)) hy e)
   rw[Qz c];refine T2 (QG ⟨O,Qj O hl,λj z hj hz=>?_⟩);rw[Qj O hl]at hj;by_cases cj:j=i
   ·subst cj;rw[Qp O]at hz;cases hz;exact c
   exact hJ j z (by omega) hz
  simp only[QS]at hc;unfold UB;refine List.findIdx?_eq_none_iff.2 λz hz=>Qz λe=>?_;obtain⟨j,hj,rfl⟩:=Ct.1 hz;exact hJ j _ (by omega) (Qp hj) (QiT h hp (hL _ hz) hy e)
 obtain⟨q,q1,q2,q3⟩:=main;rw[q1,Qa];unfold atK;rcases q with q | q
 ·obtain⟨i,rfl,hi⟩:=q2 _ rfl;rw[hi];rfl
 rw[q3 rfl];rfl
def QrA (h:0<b):min2 (max2 b 0) 4096=(QK b:Int):=by
 unfold QK max2 min2
 repeat' split
 all_goals omega
def Qyk {st:SSt}{j:Nat}{z:L_ Bag}(h:st.1[j]? = C z):(YA most n x a st o).1[j]? = C z:=by
 unfold YA;cases hD:Yg n x o with
 | none=>exact h
 | some r=>
  obtain⟨y,c⟩:=r;simp only;by_cases O:c=0
  ·rw[if_pos O];cases UB st.1 (Xp y)with
   | some k=>exact h
   | none=>
    simp only;split
    ·exact h
    exact(Jo (QX.1 h).1).trans h
  rw[if_neg O];exact h
def Qr9 {a:Nat}(b:Int)(X:L_ Qc)(kn:Bool)(h:QT n)(hr:RN n)(hp:n.Places.length<=64)(hg:Xv n x)(hL:∀y∈L,Xv n y)(hl:L.length<=QK b)(hb:0<b)(hx:L[a]? = C x)(hE:E.length<=134217728)(hX:∀o∈X,Yf n o)(hXl:X.length<=4194304):
  Qh (λst=>CX (X,kn) a n b st.1 st.2.1 st.2.2.1 st.2.2.2) ((0:Int),full,L,E)=C ((X.foldl (YA (QK b) n x a) (L,E,full)).2.2,(X.foldl (YA (QK b) n x a) (L,E,full)).1,(X.foldl (YA (QK b) n x a) (L,E,full)).2.1):=by
 have hm2:QK b<=4096:=by unfold QK min2;split<;>omega
 have mx:(4194304:Nat)<=maxLen:=by decide
 have main:Qg (Qh (λst=>CX (X,kn) a n b st.1 st.2.1 st.2.2.1 st.2.2.2) ((0:Int),full,L,E)) λq=>q=((X.foldl (YA (QK b) n x a) (L,E,full)).2.2,(X.foldl (YA (QK b) n x a) (L,E,full)).1,(X.foldl (YA (QK b) n x a) (L,E,full)).2.1):=by
  refine Qg.up X.length (λst=>st.1) (λst=>st.2.2.1[a]? = C x/\(∀y∈st.2.2.1,Xv n y)/\st.2.2.1.length<=QK b/\(st.2.2.2.length:Int)<=E.length+st.1/\(X.drop st.1.toNat).foldl (YA (QK b) n x a) (st.2.2.1,st.2.2.2,st.2.1)=X.foldl (YA (QK b) n x a) (L,E,full)) rfl ⟨hx,hL,hl,by simp,rfl⟩ (λi st hi hn hJ=>?_);obtain⟨i',fu,L',E'⟩:=st;replace hi:i'=(i:Int):=hi;subst hi;obtain⟨j1,j2,j3,j4,j5⟩:L'[a]? = C x/\(∀y∈L',Xv n y)/\L'.length<=QK b/\(E'.length:Int)<=E.length+(i:Int)/\(X.drop (i:Int).toNat).foldl (YA (QK b) n x a) (L',E',fu)=X.foldl (YA (QK b) n x a) (L,E,full):=hJ;rw[Xs]at j5;show Qg (CX (X,kn) a n b i fu L' E') _;unfold CX;refine T1 (λhc=>?_) (λhc=>T2 (Qn ?_))
  ·replace hc:decide ((i:Int)<(X.length:Int))=true:=hc;simp only[Qx]at hc;have i1:i<X.length:=by omega
   have hw:Qe ((i:Int)+1)=((i+1:Nat):Int):=Qj i1 (by omega:X.length<=maxLen);have ho:=hX _ (Xn i1);have hix:idx (X,kn).1 (i:Int)=C X[i]:=by rw[Qs];exact Qp i1
   rw[Qs,j1,Qa,hix,Qa];rw[Fz i1,List.foldl_cons]at j5;have k3:∀(k:Int) O,CW (X,kn) i E' a fu k O=(chk (decide (E'.length+([QC.mk a k X[i]]:L_ QC).length<=4294967296))).bind λ_=>GS i fu O (E'++[QC.mk a k X[i]]):=λk O=>by
    unfold CW;rw[hix,Qa]
   generalize X[i]=o at ho j5 k3 ⊢;rw[Qsw h hr (c:=1024) (by omega) hg.1 ho];obtain⟨⟨y,cc⟩,hD,_⟩:=Qo4 n x o 1024 h hg.1 (by omega) ho;rw[hD,Qa];have next:∀(fu':Bool) E'' O,(E''.length:Int)<=E.length+((i:Int)+1)->YA (QK b) n x a (L',E',fu) o=(O,E'',fu')->
     Qg (GS i fu' O E'') λr=>(∀s',r=.inl s'->i<X.length/\s'.1=((i+1:Nat):Int)/\(s'.2.2.1[a]? = C x/\(∀y∈s'.2.2.1,Xv n y)/\s'.2.2.1.length<=QK b/\(s'.2.2.2.length:Int)<=E.length+s'.1/\(X.drop s'.1.toNat).foldl (YA (QK b) n x a) (s'.2.2.1,s'.2.2.2,s'.2.1)=X.foldl (YA (QK b) n x a) (L,E,full)))/\
      ∀q,r=.inr q->q=((X.foldl (YA (QK b) n x a) (L,E,full)).2.2,(X.foldl (YA (QK b) n x a) (L,E,full)).1,(X.foldl (YA (QK b) n x a) (L,E,full)).2.1):=λfu' E'' O f2 f3=>by
    have g1:=Qyk (n:=n) (x:=x) (a:=(a:Int)) (most:=QK b) (st:=(L',E',fu)) (o:=o) j1;have g2:=Qrz (a:=(a:Int)) (most:=QK b) (st:=(L',E',fu)) h hg ho j2;have g3:=(Qsz (n:=n) (x:=x) (a:=(a:Int)) (o:=o) (st:=(L',E',fu)) j3).1;rw[f3]at g1 g2 g3;unfold GS;refine T2 ⟨λs' e=>?_,λq e=>by cases e⟩;cases e;refine⟨i1,hw,g1,g2,g3,by show(E''.length:Int)<=_+Qe _;rw[hw];omega,?_⟩;show(X.drop (Qe ((i:Int)+1)).toNat).foldl (YA (QK b) n x a) (O,E'',fu')=_;rw[hw,Xs,<-j5,f3]
   by_cases c0:cc=0
   ·subst c0;have hgy:=Zo h hg ho hD;rw[show((((y,(0:Int)):L_ Bag×Int).2) != 0)=false from rfl,Qi];show Qg ((CU L' E' fu y).bind _) _;rw[Qwu h hp E' fu (by omega) j2 hgy,Qa];unfold atK;cases hk:UB L' (Xp y)with
    | some p=>
     simp only;rw[Qz (by omega),Qi,k3];refine T0 (T5 (by simp;omega)) λ_ _=>next _ _ _ (by simp;omega) ?_;unfold YA;rw[hD];simp only;rw[if_pos trivial,hk]
    | none=>
     simp only;rw[show decide ((-1:Int)<0)=true from rfl,Ql,QrA hb];by_cases c:QK b<=L'.length
     ·rw[Qt (by omega),Ql];refine next _ _ _ (by omega) ?_;unfold YA;rw[hD];simp only;rw[if_pos trivial,hk];simp only;rw[if_pos c]
     rw[Qz (by omega),Qi,YR (by simp;omega),Qa,k3];refine T0 (T5 (by simp;omega)) λ_ _=>next _ _ _ (by simp;omega) ?_;unfold YA;rw[hD];simp only;rw[if_pos trivial,hk];simp only;rw[if_neg c]
   rw[show((((y,cc):L_ Bag×Int).2) != 0)=true by simpa using c0,Ql];refine next _ _ _ (by omega) ?_;unfold YA;rw[hD];simp only;rw[if_neg c0]
  replace hc:decide ((i:Int)<(X.length:Int))=false:=hc;simp only[QS]at hc;rw[Qfx (by omega),List.foldl_nil]at j5;rw[<-j5]
 obtain⟨q,hq1,rfl⟩:=main;exact hq1
def QtI (b tokens:Int)(h:QT n)(hr:RN n)(hbd:Bd n)(hp:n.Places.length<=64)(hg:Xv n m)(hb:b<=31):Vq n m b tokens=Hd n m b tokens:=by
 rw[QpF b tokens h hbd hg hb];have hpl:=h.pl;unfold Vq;by_cases c0:b<=0
 ·rw[if_pos c0,show(min2 (max2 b 0) 4096==0)=true by rw[show max2 b 0=0 by unfold max2;split<;>omega];rfl];rfl
 rw[if_neg c0,QrA (by omega)];have hmost:(QK b:Int)=b:=by unfold QK min2;split<;>omega
 rw[show((QK b:Int)==0)=false by simp;omega,Qi];generalize hR:Dl n b tokens (QK b+1) ([m],[],true) 0=R;have main:Qg (Qh (λst=>MG tokens n b st.1 st.2.1 st.2.2.1 st.2.2.2) ((0:Int),true,([m]:L_ (L_ Bag)),([]:L_ QC))) λq=>q=(R.2.2,R.1,R.2.1):=by
  refine Qg.up (QK b) (λst=>st.1) (λst=>(∀y∈st.2.2.1,Xv n y)/\st.2.2.1.length<=QK b/\(st.2.2.2.length:Int)<=st.1*4194304/\Dl n b tokens (QK b+1-st.1.toNat) (st.2.2.1,st.2.2.2,st.2.1) st.1.toNat=R) rfl ⟨λy hy=>by simp at hy;subst hy;exact hg,by show 1<=_;omega,by simp,hR⟩ (λi st hi hn hJ=>?_);obtain⟨i',fu,L,E⟩:=st;replace hi:i'=(i:Int):=hi;subst hi;obtain⟨j2,j3,j4,j5⟩:(∀y∈L,Xv n y)/\L.length<=QK b/\(E.length:Int)<=(i:Int)*4194304/\Dl n b tokens (QK b+1-(i:Int).toNat) (L,E,fu) (i:Int).toNat=R:=hJ;rw[Xs,show QK b+1-i=(QK b-i)+1 by omega,Dl]at j5;show Qg (MG tokens n b i fu L E) _;unfold MG;refine T1 (λhc=>?_) (λhc=>T2 (Qn ?_))
  ·simp only[Qx]at hc;have i1:i<L.length:=by omega
   have hx:=Qp i1;have hgx:=j2 _ (Xn i1);rw[Qs,hx,Qa];simp only[hx]at j5;generalize L[i]=x at hx hgx j5 ⊢;rw[Qvj h hgx,QaE h hgx.1 (by omega),Qa];have hw:Qe ((i:Int)+1)=((i+1:Nat):Int):=Qj (by omega:i<QK b) (by unfold maxLen;omega);have next:∀(fu':Bool) L' E',(∀y∈L',Xv n y)->L'.length<=QK b->(E'.length:Int)<=((i:Int)+1)*4194304->Dl n b tokens (QK b-i) (L',E',fu') (i+1)=R->
     Qg (CV i fu' L' E') λr=>(∀O,r=.inl O->i<QK b/\O.1=((i+1:Nat):Int)/\((∀y∈O.2.2.1,Xv n y)/\O.2.2.1.length<=QK b/\(O.2.2.2.length:Int)<=O.1*4194304/\Dl n b tokens (QK b+1-O.1.toNat) (O.2.2.1,O.2.2.2,O.2.1) O.1.toNat=R))/\
      ∀q,r=.inr q->q=(R.2.2,R.1,R.2.1):=λfu' L' E' g2 g3 g4 g5=>by
    unfold CV;refine T2 ⟨λO e=>?_,λq e=>by cases e⟩;cases e;refine⟨by omega,hw,g2,g3,by show(E'.length:Int)<=Qe _*_;rw[hw];omega,?_⟩;show Dl n b tokens (QK b+1-(Qe ((i:Int)+1)).toNat) (L',E',fu') (Qe ((i:Int)+1)).toNat=R;rw[hw,Xs,show QK b+1-(i+1)=QK b-i by omega];exact g5
   refine T1 (λhc2=>?_) λhc2=>?_
   ·rw[if_pos (show tokens<Zp x by simpa[Zp] using hc2)]at j5;exact next _ _ _ j2 j3 (by omega) j5
   rw[if_neg (show ¬tokens<Zp x by simpa[Zp] using hc2)]at j5;obtain⟨q1,q2,q3⟩:=Qfs b h hbd hgx;obtain⟨r,f1,f2,_,_⟩:=QtG b h hr hbd hp hgx;rw[q1]at f1;cases f1;rw[Qa,f2,Qa];have hok:∀o∈(JX n x b).1,Yf n o:=λo ho=>PW h (hgx.len h) (q3 o ho);obtain⟨g1,g2,g3⟩:=Qiu (a:=(i:Int)) (most:=QK b) h hgx (X:=(JX n x b).1) (st:=(L,E,fu&&(JX n x b).2)) hok j2 j3;generalize JX n x b=T at q2 hok j5 g1 g2 g3 ⊢;obtain⟨X,kn⟩:=T;have fin:Qg (GT (X,kn) i n b L E (fu&&kn)) λr=>(∀O,r=.inl O->i<QK b/\O.1=((i+1:Nat):Int)/\((∀y∈O.2.2.1,Xv n y)/\O.2.2.1.length<=QK b/\(O.2.2.2.length:Int)<=O.1*4194304/\Dl n b tokens (QK b+1-O.1.toNat) (O.2.2.1,O.2.2.2,O.2.1) O.1.toNat=R))/\
     ∀q,r=.inr q->q=(R.2.2,R.1,R.2.1):=by
    unfold GT;rw[Qr9 b X kn h hr hp hgx j2 j3 (by omega) hx (by omega) hok q2,Qa];show Qg (Vp i _ _ _) _;unfold Vp;exact next _ _ _ g1 g2 (by simp only at g3 q2 ⊢;omega) j5
   show Qg (bif (!kn)then GT (X,kn) i n b L E false else GT (X,kn) i n b L E fu) _;cases kn with
   | true=>rw[Zs]at fin;exact fin
   | false=>rw[Bool.and_false]at fin;exact fin
  simp only[QS]at hc;rw[Zv (show L.length<=i by omega)]at j5;rw[<-j5]
 obtain⟨q,hq1,rfl⟩:=main;rw[hq1];rfl
end Go.Proofs
namespace Go.Rk
def Yt (N:Nat)(k:Int):Prop:=0<=k/\k<N
instance (N : Nat) (k:Int):Decidable (Yt N k):=inferInstanceAs (Decidable (_/\_))
def av (out:List Int)(k:Int):Int:=if 0<=k then out.getD k.toNat (-1)else -1
def VC {out:List Int}{k:Int}(h:¬Yt out.length k):av out k=-1:=by
 unfold av;split
 ·rename_i O;rw[List.getD_eq_getElem?_getD,List.getElem?_eq_none (by unfold Yt at h;omega)];rfl
 rfl
def Qyl {out:List Int}{k:Int}{x:Int}(O:0<=k)(h:out[k.toNat]? = some x):av out k=x:=by
 unfold av;rw[if_pos O,List.getD_eq_getElem?_getD,h];rfl
def EA {out:List Int}{k:Int}(h:Yt out.length k):out[k.toNat]? = some (av out k):=by
 unfold av;rw[if_pos h.1,List.getD_eq_getElem?_getD];have:k.toNat<out.length:=by unfold Yt at h;omega
 rw[List.getElem?_eq_getElem this];rfl
def QnV {out:List Int}{k:Int}(x:Int)(h:Yt out.length k)(j:Int):av (out.set k.toNat x) j=if j=k then x else av out j:=by
 unfold av;by_cases O:0<=j
 ·rw[if_pos O,List.getD_eq_getElem?_getD,List.getElem?_set,List.getD_eq_getElem?_getD];have:=h.1;have h2:=h.2;by_cases e:j=k
  ·subst e;rw[if_pos rfl,if_pos (by omega),if_pos rfl];rfl
  rw[if_neg (by omega),if_neg e,if_pos O]
 rw[if_neg O,if_neg (by have:=h.1;omega),if_neg O]
def Qym {a b:List Int}(hl:a.length=b.length)(h:∀k,Yt a.length k->av a k=av b k):a=b:=by
 apply List.ext_getElem? ;intro i;by_cases hi:i<a.length
 ·have h1:=h i ⟨by omega,by omega⟩;have O:=@EA a i ⟨by omega,by omega⟩;have h3:=@EA b i ⟨by omega,by omega⟩;simp only[Int.toNat_natCast]at O h3;rw[O,h3,h1]
 rw[List.getElem?_eq_none (by omega),List.getElem?_eq_none (by omega)]
structure DH (N:Nat) (es:List (Int×Int)) (gs:List Int) (out:List Int):Prop where
 len:out.length=N
 lo:∀k,-1<=av out k
 goal:∀g,g∈gs->Yt N g->av out g=0
 edge:∀u v,(u,v)∈es->Yt N u->Yt N v->0<=av out v->0<=av out u/\av out u<=av out v+1
 back:∀k,0<=av out k->(av out k=0/\k∈gs)\/∃v,(k,v)∈es/\Yt N v/\0<=av out v/\av out k=av out v+1
variable {N:Nat}{es:List (Int×Int)}{gs:List Int}{a b:List Int}
def DH.rng (h:DH N es gs a){k:Int}(hk:0<=av a k):Yt N k:=by
 by_cases O:Yt a.length k
 ·rw[h.len]at O;exact O
 rw[VC O]at hk;omega
def DH.le (h:DH N es gs a)(O:DH N es gs b):∀n:Nat,∀k,av a k=n->0<=av b k/\av b k<=n:=by
 intro n
 induction n with
 | zero=>
  intro k hk;rcases h.back k (by omega)with⟨_,hg⟩|⟨v,_,_,_,hv⟩
  ·rw[O.goal k hg (h.rng (by omega))];omega
  omega
 | succ n ih=>
  intro k hk;have hr:=h.rng (k:=k) (by omega);rcases h.back k (by omega)with⟨h0,_⟩|⟨v,he,hv,h1,h2⟩
  ·omega
  obtain⟨h3,h4⟩:=ih v (by omega);have:=O.edge k v he hr hv h3;omega
def DH.unique (h:DH N es gs a)(O:DH N es gs b):a=b:=by
 refine Qym (by rw[h.len,O.len]) λk _=>?_;have la:=h.lo k;have lb:=O.lo k;by_cases h1:0<=av a k
 ·have x:=h.le O (av a k).toNat k (by omega);have y:=O.le h (av b k).toNat k (by omega);omega
 by_cases h2:0<=av b k
 ·have y:=O.le h (av b k).toNat k (by omega);omega
 omega
def QgP : ∀{l m:List Int},l.Nodup->(∀x,x∈l->x∈m)->l.length<=m.length:=by
 intro l
 induction l with
 | nil=>intro m _ _;simp
 | cons x l ih=>
  intro m h hs;rw[List.nodup_cons]at h;have hx:=hs x List.mem_cons_self;have:=ih (m:=m.erase x) h.2 λy hy=>by
   have O:y≠x:=λe=>h.1 (e▸hy);exact(List.mem_erase_of_ne O).2 (hs y (List.mem_cons_of_mem _ hy))
  rw[List.length_erase_of_mem hx]at this;have:=List.length_pos_of_mem hx;simp only[List.length_cons];omega
def Qwv (hl:a.length=N)(h:∀k,0<=av a k->(av a k=0/\k∈gs)\/∃v,(k,v)∈es/\Yt N v/\0<=av a v/\av a k=av a v+1):∀n:Nat,∀k,av a k=n->∀m:Nat,m<=n->∃j,Yt N j/\av a j=m:=by
 have rng:∀{k:Int},0<=av a k->Yt N k:=λ{k} O=>by
  by_cases hr:Yt a.length k
  ·rw[hl]at hr;exact hr
  rw[VC hr]at O;omega
 intro n
 induction n with
 | zero=>intro k O m hm;exact⟨k,rng (by omega),by omega⟩
 | succ n ih=>
  intro k O m hm;by_cases e:m=n+1
  ·exact⟨k,rng (by omega),by omega⟩
  rcases h k (by omega)with⟨h0,_⟩|⟨v,he,hv,h1,h2⟩
  ·omega
  exact ih v (by omega) m (by omega)
def QtJ (hl:a.length=N)(O:∀k,0<=av a k->(av a k=0/\k∈gs)\/∃v,(k,v)∈es/\Yt N v/\0<=av a v/\av a k=av a v+1)(k:Int):av a k<(N:Int)\/N=0:=by
 by_cases h:0<=av a k
 ·left;have hs:=Qwv hl O (av a k).toNat k (by omega);have:((List.range ((av a k).toNat+1)).map (λi:Nat=>(i:Int))).length<=a.length:=by
   refine QgP ?_ λx hx=>?_
   ·rw[List.Nodup,List.pairwise_map];exact(List.nodup_range).imp λh e=>h (by omega)
   obtain⟨i,hi,rfl⟩:=List.mem_map.1 hx;rw[List.mem_range]at hi;obtain⟨j,hj,he⟩:=hs i (by omega);rw[<-he];rw[<-hl]at hj;exact List.mem_of_getElem? (EA hj)
  simp only[List.length_map,List.length_range]at this;rw[hl]at this;omega
 omega
def DH.lt (h:DH N es gs a)(k:Int):av a k<(N:Int)\/N=0:=QtJ h.len h.back k
end Go.Rk
noncomputable section
namespace Go.Proofs
open Go Go.RowKit Go.Vm Go.Rk
variable {i:Nat}{s:Qu}
abbrev Rw := Int×Int
def Qgw (h:Int)(x:Rw):Bool:=decide (x.1<=h)||(decide (x.2<1)||decide (1048576<x.2))
def NA : Int->L_ Rw->Bool
 | _,[]=>true
 | h,x::l=>bif Qgw h x then false else NA x.1 l
def VD (b:L_ Rw):Bool:=NA (-1) b
def Qqj {b:L_ Rw}(O:b.length<=maxLen):DL b=some (VD b):=by
 unfold DL;rw[CZ (l:=b) (s0:=(-1,0)) (λi (t:Int)=>(t,(i:Int))) (λi t x=>bif Qgw t x then .inr (.inl ())else .inl x.1) (λ_=>.inr ()) ?_ ?_ (-1) rfl]
 ·have:∀(l:L_ Rw) k t,Sum.elim (λ(q:Unit)=>NM) (λ(q:Unit)=>NN) (DE (λi t x=>bif Qgw t x then .inr (.inl ())else .inl x.1) (λ_=>.inr ()) k t l)=some (NA t l):=by
   intro l
   induction l with
   | nil=>intro k t;rfl
   | cons x l ih=>
    intro k t;rw[DE,NA];cases Qgw t x with
    | true=>rfl
    | false=>exact ih _ _
  exact this b 0 (-1)
 ·intro i t x hi hx;have h:(i:Int)<b.length:=by omega
  unfold KZ;simp only[h,decide_true,Ql,Qs,hx,Qa,Qj hi O];show(bif Qgw t x then _ else _)=_;cases Qgw t x<;>rfl
 intro t;unfold KZ;simp
def QgQ : ∀{l:L_ Rw} {O:Int},NA O l=true↔(∀x∈l,O<x.1/\1<=x.2/\x.2<=1048576)/\l.Pairwise λx y=>x.1<y.1:=by
 intro l
 induction l with
 | nil=>intro O;simp[NA]
 | cons x l ih=>
  intro O;have e:Qgw O x=false↔O<x.1/\1<=x.2/\x.2<=1048576:=by
   unfold Qgw;simp only[JT,QS,Int.not_le,Int.not_lt]
  rw[NA,JA,FA];cases hb:Qgw O x with
  | true=>
   rw[hb]at e;simp only[Ql,Bool.false_eq_true,false_iff];rintro ⟨⟨h,_⟩,_⟩;exact absurd (e.2 h) (by simp)
  | false=>
   have h0:=e.1 hb;simp only[Qi];rw[ih];constructor
   ·rintro ⟨h1,h2⟩;exact⟨⟨h0,λy hy=>⟨by have:=(h1 y hy).1;omega,(h1 y hy).2⟩⟩,λy hy=>(h1 y hy).1,h2⟩
   rintro ⟨⟨_,h1⟩,h2,h3⟩;exact⟨λy hy=>⟨h2 y hy,(h1 y hy).2⟩,h3⟩
def QlX (b:L_ Rw)(i:Nat)(x:Rw):Bool:=decide (x.1<0)||(decide (x.2<1)||(decide (1048576<x.2)||(decide (0<i)&&((b[i-1]?).map (λy=>decide (x.1<=y.1))).getD false)))
def Qsa {b:L_ Rw}(hb:b.length<=maxLen):Jk b=some (!BT (QlX b) 0 b):=by
 unfold Jk;rw[SH (l:=b) (s0:=0) (λi=>(i:Int)) (QlX b) (.inl ()) (.inr ()) ?_ ?_ rfl]
 ·cases BT (QlX b) 0 b<;>rfl
 ·intro i x hi hx;have h1:(i:Int)<b.length:=by omega
  unfold KK So Sq;simp only[h1,decide_true,Ql,Qs,hx,Qa,Qj hi hb];unfold QlX;by_cases h:x.1<0
  ·simp[h]
  by_cases O:x.2<1
  ·simp[h,O]
  by_cases c3:1048576<x.2
  ·simp[h,O,c3]
  by_cases c4:0<i
  ·have e:Qe ((i:Int)-1)=((i-1:Nat):Int):=by unfold maxLen at hb;rw[Xh (by omega)];omega
   have hy:b[i-1]? = some b[i-1]:=Qp (by omega);have c5:(0:Int)<i:=by omega
   simp only[h,O,c3,c4,c5,e,Qs,hy,decide_false,decide_true,Ql,Qi,Qa,SZ,UD,Ki,GI];by_cases c6:x.1<=b[i-1].1<;>simp[c6]
  have c5:¬(0:Int)<i:=by omega
  simp[h,O,c3,c4,c5]
 unfold KK;simp
def QtK (b:L_ Rw):(!BT (QlX b) 0 b)=VD b:=by
 rw[NC,An,Qbk,VD,QgQ];constructor
 ·intro h;have hv:∀(i:Nat) x,b[i]? = some x->0<=x.1/\1<=x.2/\x.2<=1048576/\(0<i->∀y,b[i-1]? = some y->y.1<x.1):=λi x O=>by
   have:=h i x O;unfold QlX at this;simp only[JT,QS,Int.not_lt,Bool.and_eq_false_iff]at this;obtain⟨h1,h2,h3,h4⟩:=this;refine⟨h1,h2,h3,λhi y hy=>?_⟩;rcases h4 with h4 | h4
   ·omega
   rw[hy]at h4;simpa using h4
  refine⟨λx O=>?_,?_⟩
  ·obtain⟨i,hi⟩:=En.1 O;have:=hv i x hi;omega
  have hm:∀n i:Nat,∀x y,b[i]? = some x->b[i+n+1]? = some y->x.1<y.1:=by
   intro n
   induction n with
   | zero=>intro i x y O hy;exact(hv (i+1) y hy).2.2.2 (by omega) x (by simpa using O)
   | succ n ih=>
    intro i x y O hy;have hlt:=(QX.1 hy).1;have hz:b[i+n+1]? = some b[i+n+1]:=Qp (by omega);have h1:=ih i x _ O hz;have h2:=(hv (i+(n+1)+1) y hy).2.2.2 (by omega) b[i+n+1] (by rw[<-hz];congr 1);omega
  rw[Qa7];intro i j hi hj hij;refine hm (j-i-1) i _ _ (Qp hi) ?_;rw[show i+(j-i-1)+1=j by omega];exact Qp hj
 rintro ⟨h1,h2⟩ i x O;have hi:=(QX.1 O).1;have:=h1 x (Xt O);unfold QlX;simp only[JT,QS,Int.not_lt,Bool.and_eq_false_iff];refine⟨by omega,by omega,by omega,?_⟩;by_cases c:0<i
 ·right;rw[Qa7]at h2;have h3:=h2 (i-1) i (by omega) hi (by omega);rw[Qp (by omega)];obtain⟨_,rfl⟩:=QX.1 O;simpa using h3
 left;exact c
def Qqk {b:L_ Rw}(h:b.length<=maxLen):Jk b=some (VD b):=by rw[Qsa h,QtK]
abbrev Mk := L_ (L_ Rw)
def okM (m:Mk):Prop:=m.length<=maxLen/\∀b∈m,b.length<=maxLen
def okM.get {m:Mk}(h:okM m){b:L_ Rw}(O:m[i]? = some b):b.length<=maxLen:=h.2 b (Xt O)
def Qzo (s:Qu):Prop:=s.States.length<=maxLen/\s.Edges.length<=maxLen/\∀m∈s.States,okM m
structure KV (s:Qu):Prop where
 ok:Qzo s
 st:s.States.length<=40
 ed:s.Edges.length<=130023424
def KV.get (h:KV s){m:Mk}(O:s.States[i]? = some m):okM m:=h.ok.2.2 m (Xt O)
def cnt (s:Qu)(e:QC):Bool:=(decide (0<=e.From)&&decide (e.From<(s.States.length:Int)))&&(decide (0<=e.To)&&decide (e.To<(s.States.length:Int)))
def Qbt {e:QC}:cnt s e=true↔Yt s.States.length e.From/\Yt s.States.length e.To:=by
 unfold cnt Yt;simp only[QJ,Qx]
def Js (l:L_ QC)(k:Int):LI_:=(l.filter λe=>e.To==k).map (·.From)
def es (s:Qu):QBg:=s.Edges.map λe=>(e.From,e.To)
def Qiw {u v:Int}:(u,v)∈es s↔∃e∈s.Edges,e.From=u/\e.To=v:=by
 unfold es;rw[YB];simp only[Prod.mk.injEq]
def Qeb {u k:Int}:u∈Js (s.Edges.filter (cnt s)) k↔(u,k)∈es s/\Yt s.States.length u/\Yt s.States.length k:=by
 unfold Js;rw[Qiw,YB];constructor
 ·rintro ⟨e,he,rfl⟩;rw[Ua,Ua,Qbt]at he;obtain⟨⟨O,h2,h3⟩,h⟩:=he;have h:e.To=k:=by simpa using h
  exact⟨⟨e,O,rfl,h⟩,h2,h▸h3⟩
 rintro ⟨⟨e,O,rfl,rfl⟩,h2,h3⟩;exact⟨e,by rw[Ua,Ua,Qbt];exact⟨⟨O,h2,h3⟩,by simp⟩,rfl⟩
def Qix {α:Type}{p O q:α->Bool}:∀{l:L_ α},(∀e∈l,(p e=true/\((O e=true/\q e=false)\/(O e=false/\q e=true)))\/(p e=false/\O e=false/\q e=false))->l.countP p=l.countP O+l.countP q:=by
 intro l
 induction l with
 | nil=>intro _;rfl
 | cons x l ih=>
  intro h;have h1:=ih λe he=>h e (Yb _ he);rw[List.countP_cons,List.countP_cons,List.countP_cons,h1];rcases h x XD with⟨a,⟨b,c⟩|⟨b,c⟩⟩|⟨a,b,c⟩<;>simp[a,b,c]<;>omega
end Go.Proofs
noncomputable section
namespace Go.Proofs
open Go Go.RowKit Go.Vm Go.Rk
variable {s:Qu}{gs out:LI_}{r:Nat}{e:QC}
def Qft (N:Nat)(k:Int):av (List.replicate N (-1)) k=-1:=by
 by_cases O:Yt (List.replicate N (-1:Int)).length k
 ·have h:=EA O;rw[List.getElem?_replicate]at h;split at h
  ·exact(Option.some.inj h).symm
  cases h
 exact VC O
def QrB (h:KV s):Qh (λst:Int×LI_=>Hu st.1 st.2) (0,List.replicate (s.States.length:Int).toNat 0)=some (List.replicate s.States.length (-1)):=by
 have key:∃r,Qh (λst:Int×LI_=>Hu st.1 st.2) (0,List.replicate (s.States.length:Int).toNat 0)=some r/\r=List.replicate s.States.length (-1):=by
  refine JC s.States.length (λi st=>st=((i:Int),List.replicate i (-1)++List.replicate (s.States.length-i) 0)) _ (λi st hi hs=>?_) (λst hs=>?_) _ (by simp)
  ·subst hs;left;have O:(i:Int)<((List.replicate i (-1:Int)++List.replicate (s.States.length-i) (0:Int)).length:Int):=by simp;omega
   have e:s.States.length-i=(s.States.length-(i+1))+1:=by omega
   have hx:(List.replicate i (-1:Int)++List.replicate (s.States.length-i) (0:Int))[i]? = some 0:=by
    rw[Kn (by simp),e];simp
   refine⟨(((i+1:Nat):Int),List.replicate (i+1) (-1)++List.replicate (s.States.length-(i+1)) 0),?_,rfl⟩;unfold Hu;simp only[O,decide_true,Ql,Qs,hx,Qa,Qj hi h.ok.1];rw[show((i:Int)).toNat=i from rfl,QiC _ _ (by simp),e];simp[List.replicate_succ' (n:=i),List.replicate_succ]
  subst hs;refine⟨_,?_,rfl⟩;unfold Hu;simp
 obtain⟨r,O,h2⟩:=key;rw[O,h2]
structure Fu (s:Qu) (gs:List Int) (r:Nat) (i:Nat) (out:List Int):Prop where
 len:out.length=s.States.length
 lo:∀k,-1<=av out k
 goal:∀g,g∈gs->Yt s.States.length g->av out g=0
 back:∀k,0<=av out k->(av out k=0/\k∈gs)\/∃v,(k,v)∈es s/\Yt s.States.length v/\0<=av out v/\av out k=av out v+1
 hi:∀k,av out k<=r+1
 hi0:i=0->∀k,av out k<=r
 old:∀u v,(u,v)∈es s->Yt s.States.length u->Yt s.States.length v->0<=av out v->av out v<r->0<=av out u/\av out u<=av out v+1
 cur:∀(j:Nat) e,j<i->s.Edges[j]? = some e->cnt s e=true->av out e.To=r->0<=av out e.From
def Fu.step {i:Nat}(I:Fu s gs r i out)(he:s.Edges[i]? = some e)(c1:cnt s e=true)(c2:av out e.To=r)(c3:av out e.From<0):Fu s gs r (i+1) (out.set e.From.toNat ((r:Int)+1)):=by
 obtain⟨hr1,hr2⟩:=Qbt.1 c1;have hr1':Yt out.length e.From:=by rw[I.len];exact hr1
 have O:∀k,av (out.set e.From.toNat ((r:Int)+1)) k=if k=e.From then(r:Int)+1 else av out k:=QnV _ hr1';have hne:∀k,0<=av out k->k≠e.From:=λk hk e=>by subst e;omega
 refine { len:=by simpa using I.len,lo:=λk=>?_,goal:=λg h1 h2=>?_,back:=λk hk=>?_,hi:=λk=>?_,hi0:=λh=>by omega,old:=λu v h1 h2 h3 h4 h5=>?_,cur:=λj e' hj he' hc h=>?_ }
 ·rw[O];split
  ·omega
  exact I.lo k
 ·rw[O,if_neg (hne g (by rw[I.goal g h1 h2];omega))];exact I.goal g h1 h2
 ·rw[O]at hk ⊢;by_cases c:k=e.From
  ·rw[if_pos c];refine .inr ⟨e.To,Qiw.2 ⟨e,Xt he,c.symm,rfl⟩,hr2,?_⟩;rw[O,if_neg (hne e.To (by omega))];omega
  rw[if_neg c]at hk ⊢;rcases I.back k hk with h | ⟨v,h1,h2,h3,h4⟩
  ·exact .inl h
  exact .inr ⟨v,h1,h2,by rw[O,if_neg (hne v h3)];exact⟨h3,h4⟩⟩
 ·rw[O];split
  ·omega
  exact I.hi k
 ·rw[O]at h4 h5;by_cases c:v=e.From
  ·rw[if_pos c]at h5;omega
  rw[if_neg c]at h4 h5;obtain⟨h6,h7⟩:=I.old u v h1 h2 h3 h4 h5;rw[O,if_neg (hne u h6),O,if_neg c];exact⟨h6,h7⟩
 rw[O]at h ⊢;by_cases c:e'.To=e.From
 ·rw[if_pos c]at h;omega
 rw[if_neg c]at h;by_cases c':e'.From=e.From
 ·rw[if_pos c'];omega
 rw[if_neg c'];by_cases hji:j=i
 ·subst hji;rw[he]at he';cases he';exact absurd rfl c'
 exact I.cur j e' (by omega) he' hc h
def Fu.stay {i:Nat}(I:Fu s gs r i out)(he:s.Edges[i]? = some e)(c:cnt s e=true->av out e.To=r->¬av out e.From<0):Fu s gs r (i+1) out:=by
 refine { I with hi0:=λh=>by omega,cur:=λj e' hj O hc h=>?_ };by_cases hji:j=i
 ·subst hji;rw[he]at O;cases O;have:=c hc h;omega
 exact I.cur j e' (by omega) O hc h
def Fu.next (I:Fu s gs r s.Edges.length out):Fu s gs (r+1) 0 out:=by
 refine { I with hi:=λk=>by have:=I.hi k;omega,hi0:=λ_ k=>by have:=I.hi k;omega,old:=λu v O h2 h3 h4 h5=>?_,cur:=λj e' h=>by omega };by_cases c:av out v<r
 ·exact I.old u v O h2 h3 h4 c
 obtain⟨e,e1,rfl,rfl⟩:=Qiw.1 O;obtain⟨j,h⟩:=En.1 e1;have h6:=I.cur j e (QX.1 h).1 h (Qbt.2 ⟨h2,h3⟩) (by omega);have:=I.hi e.From;omega
def Qxt {o:LI_}(hl:o.length=s.States.length):Zh e o (r:Int)=some (!(cnt s e&&((av o e.To==(r:Int))&&decide (av o e.From<0)))):=by
 unfold Zh cnt;rw[hl];by_cases O:e.From<0
 ·have:¬0<=e.From:=by omega
  simp[O,this]
 by_cases a2:(s.States.length:Int)<=e.From
 ·have:¬e.From<(s.States.length:Int):=by omega
  simp[O,a2,this]
 by_cases a3:e.To<0
 ·have:¬0<=e.To:=by omega
  simp[O,a2,a3,this]
 by_cases a4:(s.States.length:Int)<=e.To
 ·have:¬e.To<(s.States.length:Int):=by omega
  simp[O,a2,a3,a4,this]
 have b1:0<=e.From:=by omega
 have b2:e.From<(s.States.length:Int):=by omega
 have b3:0<=e.To:=by omega
 have b4:e.To<(s.States.length:Int):=by omega
 have g1:=EA (out:=o) (k:=e.To) ⟨b3,by omega⟩;have g2:=EA (out:=o) (k:=e.From) ⟨b1,by omega⟩;simp only[O,a2,a3,a4,b1,b2,b3,b4,decide_true,decide_false,Qi,YI,g1,g2,Qa,UD];by_cases c:av o e.To=(r:Int)
 ·have c':(av o e.To != (r:Int))=false:=by simp[c]
  have h:(av o e.To==(r:Int))=true:=by simp[c]
  simp only[c',h,Qi,UD];by_cases d:av o e.From<0
  ·have:¬0<=av o e.From:=by omega
   simp[d,this]
  have:0<=av o e.From:=by omega
  simp[d,this]
 have c':(av o e.To != (r:Int))=true:=by simp[c]
 have h:(av o e.To==(r:Int))=false:=by simp[c]
 simp[c',h]
def Qql (h:KV s)(hr:r<=1000)(I:Fu s gs r 0 out):∃O,Qh (λst:Int×LI_=>OF s (r:Int) st.1 st.2) (0,out)=some O/\Fu s gs r s.Edges.length O:=by
 refine JC s.Edges.length (λi st=>st.1=(i:Int)/\Fu s gs r i st.2) _ (λi st hi hs=>.inl ?_) (λst hs=>?_) (0,out) ⟨rfl,I⟩
 ·obtain⟨j,o⟩:=st;obtain⟨hj,I⟩:=hs;simp only at hj I;subst hj;have hi':(i:Int)<s.Edges.length:=by omega
  have he:s.Edges[i]? = some s.Edges[i]:=Qp hi;unfold OF Qfa OE;simp only[hi',decide_true,Ql,Qs,he,Qa,Qxt I.len,Qj hi h.ok.2.1];cases c1:cnt s s.Edges[i]with
  | false=>exact⟨_,rfl,rfl,I.stay he λh=>by rw[c1]at h;cases h⟩
  | true=>
   obtain⟨hr1,hr2⟩:=Qbt.1 c1;have g2:=EA (out:=o) (k:=s.Edges[i].From) (by rw[I.len];exact hr1);by_cases c2:av o s.Edges[i].To=r
   ·rw[show(av o s.Edges[i].To==(r:Int))=true by simpa using c2];by_cases c3:av o s.Edges[i].From<0
    ·simp only[c3,decide_true,Bool.and_self,JD,Qi,YI hr1.1,g2,Qa];rw[Xh (show -9223372036854775808<=(r:Int)+1/\(r:Int)+1<=9223372036854775807 by omega)];exact⟨_,rfl,rfl,I.step he c1 c2 c3⟩
    simp only[c3,decide_false,Bool.and_false,PY,Ql];exact⟨_,rfl,rfl,I.stay he λ_ _=>c3⟩
   rw[show(av o s.Edges[i].To==(r:Int))=false by simpa using c2];exact⟨_,rfl,rfl,I.stay he λ_ h=>absurd h c2⟩
 obtain⟨j,o⟩:=st;obtain⟨hj,I⟩:=hs;simp only at hj I;subst hj;exact⟨o,by simp[OF],I⟩
def Qsb (k:Int)(h:KV s):∃out,ZN s k=some out/\DH s.States.length (es s) [k] out:=by
 have hst:=h.st;unfold ZN;rw[GV (by simp;omega)];simp only[Qa];rw[QrB h];simp only[Qa];unfold Qfc;by_cases hr:Yt s.States.length k
 ·have hb:(decide (k<0)||decide (((List.replicate s.States.length (-1:Int)).length:Int)<=k))=false:=by
   unfold Yt at hr;simp only[Tc,JT,QS];omega
  have hr':Yt (List.replicate s.States.length (-1:Int)).length k:=by simpa using hr
  rw[hb,Qi,YI hr.1,EA hr',Qa];have O:∀j,av ((List.replicate s.States.length (-1:Int)).set k.toNat 0) j=if j=k then 0 else -1:=λj=>by rw[QnV 0 hr',Qft]
  have o2:Fu s [k] 0 0 ((List.replicate s.States.length (-1:Int)).set k.toNat 0):=by
   refine { len:=by simp,lo:=λj=>by rw[O];split<;>omega,goal:=λg a b=>by rw[O,if_pos (Da.1 a)],back:=λj hj=>.inl ?_,hi:=λj=>by rw[O];split<;>omega,hi0:=λ_ j=>by rw[O];split<;>omega,old:=λu v _ _ _ a b=>by omega,cur:=λj _ hj=>by omega };rw[O]at hj ⊢;by_cases c:j=k
   ·rw[if_pos c];exact⟨rfl,by simp[c]⟩
   rw[if_neg c]at hj;omega
  have k2:∃r,Qh (λst:Int×LI_=>OG s st.1 st.2) (0,(List.replicate s.States.length (-1:Int)).set k.toNat 0)=some r/\Fu s [k] s.States.length 0 r:=by
   refine JC s.States.length (λi st=>st.1=(i:Int)/\Fu s [k] i 0 st.2) _ (λi st hi hs=>.inl ?_) (λst hs=>?_) _ ⟨rfl,o2⟩
   ·obtain⟨j,o⟩:=st;obtain⟨hj,I⟩:=hs;simp only at hj I;subst hj;obtain⟨o',h1,h2⟩:=Qql h (by omega) I;have hi':(i:Int)<(o.length:Int):=by rw[I.len];omega
    unfold OG Qfb;simp only[hi',decide_true,Ql,h1,Qa,Qj hi h.ok.1];exact⟨_,rfl,rfl,h2.next⟩
   obtain⟨j,o⟩:=st;obtain⟨hj,I⟩:=hs;simp only at hj I;subst hj;exact⟨o,by simp[OG,I.len],I⟩
  obtain⟨r,r1,I⟩:=k2;refine⟨r,by rw[r1];rfl,{ len:=I.len,lo:=I.lo,goal:=I.goal,edge:=λu v h1 h2 h3 h4=>?_,back:=I.back }⟩;refine I.old u v h1 h2 h3 h4 ?_;rcases QtJ I.len I.back v with h | h
  ·exact h
  unfold Yt at h3;omega
 have hb:(decide (k<0)||decide (((List.replicate s.States.length (-1:Int)).length:Int)<=k))=true:=by
  unfold Yt at hr;simp only[Tc,KW,Qx];omega
 rw[hb,Ql];refine⟨_,rfl,{ len:=by simp,lo:=λj=>by rw[Qft];omega,goal:=λg a b=>absurd (Da.1 a▸b) hr,edge:=λu v h1 h2 h3 h4=>by rw[Qft]at h4;omega,back:=λj hj=>by rw[Qft]at hj;omega }⟩
end Go.Proofs
noncomputable section
namespace Go.Proofs
open Go Go.RowKit Go.Vm Go.Rk
open Option renaming some→C
variable {s:Qu}{k:Int}{m:QBg}{mi:L_ (Int×LI_)}
def Qec:Cg k s=C (decide (Yt s.States.length k)):=by
 unfold Cg;refine congrArg C ?_;rw[NC,decide_eq_true_iff,QJ,decide_eq_true_iff,decide_eq_true_iff];exact Iff.rfl
def QtL {e:QC}:VU e s=C (cnt s e):=by
 unfold VU cnt;rw[Qec,Qec,Qa];by_cases h:Yt s.States.length e.From
 ·have O:=h.1;have h2:=h.2;simp only[h,O,h2,decide_true,Ql,Qa,UD];refine congrArg C ?_;rw[NC,decide_eq_true_iff,QJ,decide_eq_true_iff,decide_eq_true_iff];exact Iff.rfl
 simp only[h,decide_false,Qi];refine congrArg C ?_;have:(decide (0<=e.From)&&decide (e.From<(s.States.length:Int)))=false:=by
  rw[<-HN,QJ,decide_eq_true_iff,decide_eq_true_iff];exact h
 rw[this];rfl
def Qsc (h:KV s):∃m,Qh (λst:Int×L_ (Int×LI_)=>Oc s st.1 st.2) (0,[])=C m/\∀k,(Qr m k).getD []=Js (s.Edges.filter (cnt s)) k:=by
 have hed:=h.ed;refine JC s.Edges.length (λi st=>st.1=(i:Int)/\∀k,(Qr st.2 k).getD []=Js ((s.Edges.take i).filter (cnt s)) k) _ (λi st hi hs=>?_) (λst hs=>?_) (0,[]) ⟨rfl,λk=>by simp[Js,Qr]⟩
 ·obtain⟨j,m⟩:=st;obtain⟨hj,O⟩:=hs;simp only at hj O;subst hj;left;have h1:(i:Int)<s.Edges.length:=by omega
  have ht:s.Edges.take (i+1)=s.Edges.take i++[s.Edges[i]]:=Td hi;unfold Oc QeU Oa;simp only[h1,decide_true,Ql,Qs,Qp hi,Qa,QtL,Qj hi h.ok.2.1];cases hc:cnt s s.Edges[i]with
  | false=>
   refine⟨_,rfl,rfl,λk=>?_⟩;rw[ht,Tb,Bx,hc];simpa using O k
  | true=>
   have hlen:(Js ((s.Edges.take i).filter (cnt s)) s.Edges[i].To).length<=130023424:=by
    unfold Js;rw[EY];refine XZ (LV _ _) (XZ (LV _ _) ?_);rw[KX];omega
   simp only[Ql,O];rw[YR (show(Js ((s.Edges.take i).filter (cnt s)) s.Edges[i].To).length+([s.Edges[i].From]:LI_).length<=4294967296 by simp only[Bz];omega)];refine⟨_,rfl,rfl,λk=>?_⟩;simp only[Kb];have e:Js ((s.Edges.take (i+1)).filter (cnt s)) k=Js ((s.Edges.take i).filter (cnt s)) k++(if s.Edges[i].To=k then [s.Edges[i].From]else []):=by
    rw[ht,Tb,Bx,hc];unfold Js;by_cases c:s.Edges[i].To=k<;>simp[c]
   rw[e];by_cases c:k=s.Edges[i].To
   ·subst c;simp
   rw[if_neg c,if_neg (λe=>c e.symm),O k];simp
 obtain⟨j,m⟩:=st;obtain⟨hj,O⟩:=hs;simp only at hj O;subst hj;refine⟨m,by simp[Oc],λk=>?_⟩;rw[O k,UG]
def left (N:Nat)(m:QBg):Nat:=(List.range N).countP λj:Nat=>(Qr m (j:Int)).isNone
def QrC {N:Nat}{u v:Int}(O:Yt N u)(hn:Qr m u=none):left N m=left N (XL WI m u v)+1:=by
 unfold left;have h1:(List.range N).countP (λj:Nat=>decide ((j:Int)=u))=1:=by
  obtain⟨n,rfl⟩:∃n:Nat,u=(n:Int):=⟨u.toNat,by have:=O.1;omega⟩;have h:n<N:=by have:=O.2;omega
  have:(λj:Nat=>decide ((j:Int)=(n:Int)))=λj=>j==n:=by
   funext j;rw[NC,decide_eq_true_iff,beq_iff_eq];omega
  rw[this,<-List.count_eq_countP];have:=List.nodup_range (n:=N);rw[List.Nodup.count this,if_pos (Eo.2 h)]
 rw[<-h1];refine Qix λj _=>?_;rw[Kb];by_cases c:(j:Int)=u
 ·left;subst c;simp[hn]
 rw[if_neg c];cases Qr m (j:Int)with
 | none=>left;simp[c]
 | some x=>right;simp[c]
structure QrD (s:Qu) (k:Int) (m:List (Int×Int)) (w:List Int):Prop where
 rng:∀j d,Qr m j=C d->Yt s.States.length j/\0<=d/\d+(left s.States.length m:Int)<=s.States.length
 goal:Qr m k=C 0
 back:∀j d,Qr m j=C d->(d=0/\j=k)\/∃v d',(j,v)∈es s/\Yt s.States.length v/\Qr m v=C d'/\d=d'+1
 wait:∀x,x∈w->∃d,Qr m x=C d
 edge:∀u v d,(u,v)∈es s->Yt s.States.length u->Yt s.States.length v->Qr m v=C d->v∈w\/∃c,Qr m u=C c/\c<=d+1
 sort:w.Pairwise λx y=>∀a b,Qr m x=C a->Qr m y=C b->a<=b
 near:∀x r,w=x::r->∀j d a,Qr m j=C d->Qr m x=C a->d<=a+1
 few:w.length+left s.States.length m<=s.States.length+1
structure BIn (s:Qu) (m0:List (Int×Int)) (w0:List Int) (x dx:Int) (i:Nat) (m:List (Int×Int)) (w:List Int):Prop where
 mono:∀j d,Qr m0 j=C d->Qr m j=C d
 new:∀j d,Qr m j=C d->Qr m0 j=C d\/(Qr m0 j=none/\d=dx+1/\(j,x)∈es s/\Yt s.States.length j/\j∈w)
 app:∃ws,w=w0++ws/\∀y,y∈ws->Qr m y=C (dx+1)
 done:∀u,u∈(Js (s.Edges.filter (cnt s)) x).take i->∃c,Qr m u=C c
 sz:w.length+left s.States.length m=w0.length+left s.States.length m0
def QtM {m0:QBg}{x:Int}{r:LI_}{dx:Int}(h:KV s)(hmi:∀k,(Qr mi k).getD []=Js (s.Edges.filter (cnt s)) k)(I:QrD s k m0 (x::r))(hx:Qr m0 x=C dx):
  ∃q,Qh (λst:Int×QBg×LI_=>Oe mi x st.1 st.2.1 st.2.2) (0,m0,x::r)=C q/\BIn s m0 (x::r) x dx (Js (s.Edges.filter (cnt s)) x).length q.1 q.2:=by
 have hst:=h.st;have hed:=h.ed;have hfl:(Js (s.Edges.filter (cnt s)) x).length<=130023424:=by
  unfold Js;rw[EY];exact XZ (LV _ _) (XZ (LV _ _) hed)
 refine JC (Js (s.Edges.filter (cnt s)) x).length (λi st=>st.1=(i:Int)/\BIn s m0 (x::r) x dx i st.2.1 st.2.2) _ (λi st hi hs=>.inl ?_) (λst hs=>?_) (0,m0,x::r)
  ⟨rfl,λj d h=>h,λj d h=>.inl h,⟨[],by simp,by simp⟩,by simp,rfl⟩
 ·obtain⟨j,m,w⟩:=st;obtain⟨hj,J⟩:=hs;simp only at hj J;subst hj;have hi':(i:Int)<(Js (s.Edges.filter (cnt s)) x).length:=by omega
  have hgu:=Qp hi;generalize hu:(Js (s.Edges.filter (cnt s)) x)[i]=u at hgu;have hum:u∈Js (s.Edges.filter (cnt s)) x:=by rw[<-hu];exact Xn _
  obtain⟨hue,hur,_⟩:=Qeb.1 hum;have htk:(Js (s.Edges.filter (cnt s)) x).take (i+1)=(Js (s.Edges.filter (cnt s)) x).take i++[u]:=by rw[Td hi,hu]
  obtain⟨ws,hw,hws⟩:=J.app;have hsz:=J.sz;have hfew:=I.few;unfold Oe Od;simp only[hmi,hi',decide_true,Ql,Qs,hgu,Qa,Qj hi (show(Js (s.Edges.filter (cnt s)) x).length<=maxLen by unfold maxLen;omega)];cases hmu:Qr m u with
  | some c=>
   simp only[Option.isSome_some,JD,Qi];refine⟨_,rfl,rfl,{ J with done:=λy hy=>?_ }⟩;rw[htk,XU,Da]at hy;rcases hy with hy | rfl
   ·exact J.done y hy
   exact⟨c,hmu⟩
  | none=>
   have hw0:w[0]? = C x:=by rw[hw];rfl
   have hd:=(I.rng x dx hx).2;have e1:Qe ((Qr m x).getD 0+1)=dx+1:=by rw[J.mono x dx hx];exact Xh (by simp only[GI];omega)
   have e2:idx w 0=C x:=by rw[show(0:Int)=((0:Nat):Int)from rfl,Qs];exact hw0
   simp only[Option.isSome_none,PY,Ql,e1,e2,Qa];have hls:=QrC (v:=dx+1) hur hmu;have hwl:w.length=(x::r).length+ws.length:=by rw[hw,Jp]
   have hll:left s.States.length m0<=s.States.length:=by unfold left;refine XZ List.countP_le_length ?_;simp
   have hw2:w.length<=200:=by omega
   rw[YR (by simp only[Bz];omega)];refine⟨_,rfl,rfl,{ mono:=λj d O=>?_,new:=λj d O=>?_,app:=⟨ws++[u],by rw[hw];simp,λy hy=>?_⟩,done:=λy hy=>?_,sz:=?_ }⟩
   ·simp only[Kb];by_cases c:j=u
    ·subst c;rw[J.mono j d O]at hmu;cases hmu
    rw[if_neg c];exact J.mono j d O
   ·simp only[Kb]at O;by_cases c:j=u
    ·subst c;rw[if_pos rfl]at O;cases O;right;refine⟨?_,rfl,hue,hur,by simp⟩;cases h0:Qr m0 j with
     | none=>rfl
     | some d=>rw[J.mono j d h0]at hmu;cases hmu
    rw[if_neg c]at O;rcases J.new j d O with h | ⟨a,b,c1,c2,c3⟩
    ·exact .inl h
    exact .inr ⟨a,b,c1,c2,NG _ c3⟩
   ·simp only[Kb];by_cases c:y=u
    ·rw[if_pos c]
    rw[if_neg c];rcases XU.1 hy with h | h
    ·exact hws y h
    exact absurd (Da.1 h) c
   ·rw[htk,XU,Da]at hy;simp only[Kb];by_cases c:y=u
    ·exact⟨_,if_pos c⟩
    rw[if_neg c];rcases hy with hy | hy
    ·exact J.done y hy
    exact absurd hy c
   simp only[Jp,Bz];omega
 obtain⟨j,m,w⟩:=st;obtain⟨hj,J⟩:=hs;simp only at hj J;subst hj;exact⟨(m,w),by simp[Oe,hmi],J⟩
def Qvl {w:LI_}(h:KV s)(hmi:∀k,(Qr mi k).getD []=Js (s.Edges.filter (cnt s)) k)(I:QrD s k m w)(hw:w≠[]):
  ∃m' w',Og mi m w=C (.inl (m',w'))/\QrD s k m' w'/\w'.length+left s.States.length m'<w.length+left s.States.length m:=by
 cases w with
 | nil=>exact absurd rfl hw
 | cons x r=>
  obtain⟨dx,hx⟩:=I.wait x XD;obtain⟨⟨m',w'⟩,h1,J⟩:=QtM h hmi I hx;simp only at J;obtain⟨ws,hws,hwd⟩:=J.app;have O:=J.sz;have hfew:=I.few;have hdx:=I.rng x dx hx;have hnear:=I.near x r rfl;have hall:∀j d,Qr m' j=C d->d<=dx+1:=λj d hj=>by
   rcases J.new j d hj with h | ⟨_,h,_⟩
   ·exact hnear j d dx h hx
   omega
  have hx':=J.mono x dx hx;refine⟨m',r++ws,?_,?_,by rw[hws]at O;simp at O ⊢;omega⟩
  ·unfold Og QeV;have e0:(0:Int)<((x::r).length:Int):=by simp only[We];omega
   have e2:idx (x::r) 0=C x:=by rw[show(0:Int)=((0:Nat):Int)from rfl,Qs];rfl
   simp only[e0,decide_true,Ql,e2,Qa,h1];rw[GV (by rw[hws];simp)];simp[hws]
  have old:∀y,y∈r->∃d,Qr m y=C d:=λy hy=>I.wait y (Yb _ hy);have hs:=FA.1 I.sort;refine { rng:=λj d hj=>?_,goal:=J.mono _ _ I.goal,back:=λj d hj=>?_,wait:=λy hy=>?_,edge:=λu v d q1 q2 q3 q4=>?_,sort:=?_,near:=λy q hq j d a hj ha=>?_,few:=?_ }
  ·have hl:left s.States.length m'<=left s.States.length m:=by rw[hws]at O;simp at O;omega
   rcases J.new j d hj with h | ⟨a,b,c,e,f⟩
   ·obtain⟨p,q,t⟩:=I.rng j d h;exact⟨p,q,by omega⟩
   refine⟨e,by omega,?_⟩;have hwl:1<=ws.length:=by
    rw[hws]at f;rcases XU.1 f with g | g
    ·obtain⟨d',hd'⟩:=I.wait j g;rw[a]at hd';cases hd'
    exact List.length_pos_of_mem g
   rw[hws]at O;simp only[Jp]at O;omega
  ·rcases J.new j d hj with h | ⟨a,b,c,e,f⟩
   ·rcases I.back j d h with h | ⟨v,d',p,q,t,u⟩
    ·exact .inl h
    exact .inr ⟨v,d',p,q,J.mono _ _ t,u⟩
   exact .inr ⟨x,dx,c,hdx.1,hx',b⟩
  ·rcases XU.1 hy with h | h
   ·obtain⟨d,hd⟩:=old y h;exact⟨d,J.mono _ _ hd⟩
   exact⟨_,hwd y h⟩
  ·by_cases c:v=x
   ·subst c;right;rw[hx']at q4;cases q4;obtain⟨c,hc⟩:=J.done u (by rw[UG];exact Qeb.2 ⟨q1,q2,q3⟩);exact⟨c,hc,hall u c hc⟩
   rcases J.new v d q4 with h | ⟨a,b,_,_,f⟩
   ·rcases I.edge u v d q1 q2 q3 h with g | ⟨c',g1,g2⟩
    ·rcases XV.1 g with g | g
     ·exact absurd g c
     exact .inl (NG _ g)
    exact .inr ⟨c',J.mono _ _ g1,g2⟩
   left;rw[hws]at f;rcases XU.1 f with g | g
   ·obtain⟨d',hd'⟩:=I.wait v g;rw[a]at hd';cases hd'
   exact QiB _ g
  ·rw[Qfz];refine⟨(hs.2).imp_of_mem λ{a b} ha hb hab p q hp hq=>?_,?_,λa ha b hb p q hp hq=>?_⟩
   ·obtain⟨p',hp'⟩:=old a ha;obtain⟨q',hq'⟩:=old b hb;rw[J.mono _ _ hp']at hp;rw[J.mono _ _ hq']at hq;cases hp;cases hq;exact hab _ _ hp' hq'
   ·refine List.pairwise_of_forall_mem_list λa ha b hb p q hp hq=>?_;rw[hwd a ha]at hp;rw[hwd b hb]at hq;cases hp;cases hq;exact Qa2 _
   rw[hwd b hb]at hq;cases hq;exact hall a p hp
  ·have h5:dx<=a:=by
    have hym:y∈r++ws:=by rw[hq];exact XD
    rcases XU.1 hym with h | h
    ·obtain⟨a',ha'⟩:=old y h;rw[J.mono _ _ ha']at ha;cases ha;exact hs.1 y h dx _ hx ha'
    rw[hwd y h]at ha;cases ha;omega
   have:=hall j d hj;omega
  rw[hws]at O;simp only[Jp,We]at O hfew ⊢;omega
def Qww (h:KV s)(hk:Yt s.States.length k){f:LI_}(hf:DH s.States.length (es s) [k] f):∃m,PN s k=C m/\(∀j,Qr m j=if 0<=av f j then C (av f j)else none):=by
 obtain⟨mi,m1,m2⟩:=Qsc h;have hst:=h.st;unfold PN;rw[Qec,Qa];simp only[hk,decide_true,JD,Qi,m1,Qa];unfold Qds;have g0:∀j,Qr (XL WI ([]:QBg) k 0) j=if j=k then C 0 else none:=λj=>by rw[Kb];rfl
 have gk:Qr (XL WI ([]:QBg) k 0) k=C 0:=by rw[g0,if_pos rfl]
 have gs:∀j d,Qr (XL WI ([]:QBg) k 0) j=C d->j=k/\d=0:=λj d O=>by
  rw[g0]at O;split at O
  ·rename_i e;cases O;exact⟨e,rfl⟩
  cases O
 have hleft:left s.States.length (XL WI ([]:QBg) k 0)+1=s.States.length:=by
  rw[<-QrC (m:=[]) hk rfl];unfold left;have e:(λj:Nat=>(Qr ([]:QBg) (j:Int)).isNone)=λ_=>true:=rfl;rw[e];simp
 have key:∃r,Qh (λst:QBg×LI_=>Og mi st.1 st.2) (XL WI [] k 0,[k])=C r/\QrD s k r []:=by
  refine SL (λst:QBg×LI_=>QrD s k st.1 st.2) (λst:QBg×LI_=>st.2.length+left s.States.length st.1) _ ?_ (XL WI [] k 0,[k]) ?_
  ·rintro ⟨m,w⟩ I;simp only at I;by_cases hw:w=[]
   ·subst hw;right;exact⟨m,rfl,I⟩
   left;obtain⟨m',w',a,b,c⟩:=Qvl h m2 I hw;exact⟨(m',w'),a,b,c⟩
  refine { rng:=λj d O=>?_,goal:=gk,back:=λj d O=>.inl ((gs j d O).symm),wait:=λx hx=>?_,edge:=λu v d _ _ _ h4=>?_,sort:=Qdb _ _,near:=λx r hr j d a O ha=>?_,few:=by simp;omega }
  ·obtain⟨rfl,rfl⟩:=gs j d O;exact⟨hk,Qa2 _,by simp only;omega⟩
  ·rw[Da]at hx;subst hx;exact⟨0,gk⟩
  ·left;rw[(gs v d h4).1];exact Da.2 rfl
  rw[(gs j d O).2,(gs x a ha).2];omega
 obtain⟨m,r1,I⟩:=key;refine⟨m,by rw[r1];rfl,?_⟩;have hv:∀j,av ((List.range s.States.length).map λj:Nat=>(Qr m (j:Int)).getD (-1)) j=(Qr m j).getD (-1):=λj=>by
  by_cases hr:Yt s.States.length j
  ·obtain⟨n,rfl⟩:∃n:Nat,j=(n:Int):=⟨j.toNat,by have:=hr.1;omega⟩;refine Qyl (by omega) ?_;rw[Yn,List.getElem?_range (by have:=hr.2;omega)];rfl
  rw[VC (by simpa using hr)];cases hm:Qr m j with
  | none=>rfl
  | some d=>exact absurd (I.rng j d hm).1 hr
 have hsome:∀j,0<=(Qr m j).getD (-1)->Qr m j=C ((Qr m j).getD (-1)):=λj O=>by
  cases hm:Qr m j with
  | none=>rw[hm]at O;simp at O
  | some d=>rfl
 have hI:DH s.States.length (es s) [k] ((List.range s.States.length).map λj:Nat=>(Qr m (j:Int)).getD (-1)):=by
  refine { len:=by simp,lo:=λj=>?_,goal:=λg hg _=>?_,edge:=λu v h1 h2 h3 h4=>?_,back:=λj O=>?_ }
  ·rw[hv];cases hm:Qr m j with
   | none=>simp
   | some d=>have:=(I.rng j d hm).2;simp only[GI];omega
  ·rw[Da]at hg;subst hg;rw[hv,I.goal];rfl
  ·rw[hv]at h4;rw[hv,hv];rcases I.edge u v _ h1 h2 h3 (hsome v h4)with h | ⟨c,c1,c2⟩
   ·cases h
   rw[c1];have:=(I.rng u c c1).2;simp only[GI];omega
  rw[hv]at O;rcases I.back j _ (hsome j O)with⟨h1,h2⟩|⟨v,d',a,b,c,e⟩
  ·left;rw[hv];exact⟨h1,by rw[h2];exact Da.2 rfl⟩
  right;refine⟨v,a,b,?_⟩;rw[hv,hv,c];have:=(I.rng v d' c).2;simp only[GI];omega
 have:=hf.unique hI;intro j;have e:av f j=(Qr m j).getD (-1):=by rw[this];exact hv j
 rw[e];cases hm:Qr m j with
 | none=>simp
 | some d=>have:=(I.rng j d hm).2.1;simp[this]
def Qwx (h:KV s)(k:Int):ZG s k=C (Km (λe:QC=>e.From==k) 0 s.Edges):=by
 have hed:=h.ed;unfold ZG;rw[Hw (l:=s.Edges) (λe:QC=>e.From==k)]
 ·rfl
 ·intro i O x ha hi hx;have h1:(i:Int)<s.Edges.length:=by omega
  have hc:decide (O.length+([(i:Int)]:LI_).length<=4294967296)=true:=Qt (by simp;omega);simp only[VV,Oh,h1,decide_true,Ql,Qs,hx,Qa,Qj hi h.ok.2.1,GV hc];cases x.From==k<;>rfl
 intro O;simp[VV]
end Go.Proofs
noncomputable section
namespace Go.Proofs
open Go Go.RowKit Go.Vm Go.Rk
open Option renaming some→C
variable {a:Int}{e:QC}
def QlY {α:Type}(p:α->Bool):∀(l:L_ α) k,(Km p k l).length<=l.length:=by
 intro l
 induction l with
 | nil=>intro k;simp[Km]
 | cons x l h=>
  intro k;rw[Km];have:=h (k+1);cases p x
  ·simp;omega
  simp;omega
def QtN {α ρ σ:Type}{body:σ->O_ (σ⊕ρ)}{l:L_ α}(mk h:Nat->σ)(p:Nat->α->Bool)(O:Nat->ρ)(r2:ρ)
  (hs:∀i x,i<l.length->l[i]? = C x->body (mk i)=C (.inl (bif p i x then h i else mk (i+1))))
  (hd:∀i x,i<l.length->l[i]? = C x->body (h i)=C (.inr (O i)))
  (hf:body (mk l.length)=C (.inr r2)) {s0:σ} (h0:s0=mk 0):Qh body s0=C ((KM p 0 l).elim r2 O):=by
 subst h0;have key:∀k i,i+k=l.length->Qh body (mk i)=C ((KM p i (l.drop i)).elim r2 O):=by
  intro k
  induction k with
  | zero=>
   intro i hk;obtain rfl:i=l.length:=by omega
   rw[Yl,hf,List.drop_length];rfl
  | succ k ih=>
   intro i hk;have hi:i<l.length:=by omega
   have hx:=Qp hi;rw[Yl,hs i _ hi hx,Fz hi,KM];cases hp:p i l[i]with
   | true=>
    show Qh body (h i)=_;rw[Yl,hd i _ hi hx];rfl
   | false=>exact ih (i+1) (by omega)
 exact key l.length 0 (by omega)
def Qgx (s:Qu)(f:LI_)(a:Int)(_:Nat)(x:Int):Bool:=((s.Edges[x.toNat]?).map λe=>decide (0<=av f e.To)&&(av f e.To==av f a-1)).getD false
def nx (s:Qu)(f:LI_)(a:Int):O_ QC:=(KM (Qgx s f a) 0 (Km (λe:QC=>e.From==a) 0 s.Edges)).bind λi=>((Km (λe:QC=>e.From==a) 0 s.Edges)[i]?).bind λx=>s.Edges[x.toNat]?
def WY (s:Qu)(f:LI_):Nat->Int->L_ Qc
 | 0,_=>[]
 | d+1,a=>match nx s f a with
  | some e=>e.Mode::WY s f d e.To
  | none=>[]
section
variable {s:Qu}{k:Int}{f:LI_}
def Qam {i:Nat}{x:Int}(hx:(Km (λe:QC=>e.From==a) 0 s.Edges)[i]? = C x):∃j e,x=((j:Nat):Int)/\s.Edges[j]? = C e/\e.From=a:=by
 obtain⟨j,e,h,O,h3⟩:=Qgh.1 (Xt hx);exact⟨j,e,by rw[h3];simp,h,by simpa using O⟩
def Qed {n j:Nat}(h:s.Edges[j]? = C e):Qgx s f a n ((j:Nat):Int)=(decide (0<=av f e.To)&&(av f e.To==av f a-1)):=by
 unfold Qgx;rw[Xs,h];rfl
def Qpa (hf:DH s.States.length (es s) [k] f)(hp:0<av f a):∃n j e,KM (Qgx s f a) 0 (Km (λe:QC=>e.From==a) 0 s.Edges)=C n/\(Km (λe:QC=>e.From==a) 0 s.Edges)[n]? = C ((j:Nat):Int)/\
  s.Edges[j]? = C e/\nx s f a=C e/\0<=av f e.To/\av f e.To=av f a-1:=by
 cases hs:KM (Qgx s f a) 0 (Km (λe:QC=>e.From==a) 0 s.Edges)with
 | none=>
  exfalso;rcases hf.back a (by omega)with⟨h1,_⟩|⟨v,h1,O,h,h4⟩
  ·omega
  obtain⟨e,e1,e2,rfl⟩:=Qiw.1 h1;obtain⟨j,hj⟩:=En.1 e1;have hm:((j:Nat):Int)∈Km (λe:QC=>e.From==a) 0 s.Edges:=Qgh.2 ⟨j,e,hj,by simpa using e2,by simp⟩;obtain⟨i,hi⟩:=En.1 hm;have:=Qbm hs i _ hi;rw[Qed hj]at this;have h5:(decide (0<=av f e.To)&&(av f e.To==av f a-1))=true:=by
   simp only[QJ,Qx,beq_iff_eq];omega
  rw[h5]at this;cases this
 | some n=>
  obtain⟨i,x,h1,O,h⟩:=Qbl hs;obtain rfl:n=i:=by omega
  obtain⟨j,e,rfl,h4,h5⟩:=Qam O;rw[Qed h4]at h;simp only[QJ,Qx,beq_iff_eq]at h;refine⟨n,j,e,rfl,O,h4,?_,h.1,h.2⟩;unfold nx;rw[hs,Qa,O,Qa,Xs,h4]
def Qj6 (hf:DH s.States.length (es s) [k] f)(hp:0<av f a)(h:nx s f a=C e)(O:av f e.To=av f a-1):WY s f (av f a).toNat a=e.Mode::WY s f (av f e.To).toNat e.To:=by
 have:(av f a).toNat=(av f e.To).toNat+1:=by omega
 rw[this,WY,h]
def QnW : ∀(d:Nat) (a:Int),(WY s f d a).length<=d:=by
 intro d
 induction d with
 | zero=>intro a;simp[WY]
 | succ d h=>
  intro a;rw[WY];cases nx s f a with
  | none=>simp
  | some e=>simpa using h e.To
def QnX (h:KV s)(hk:Yt s.States.length k)(hf:DH s.States.length (es s) [k] f):YE s k=C (WY s f (av f 0).toNat 0):=by
 obtain⟨m,m1,m2⟩:=Qww h hk hf;have hst:=h.st;have hed:=h.ed;have hle:∀j,av f j<=40:=λj=>by
  rcases hf.lt j with h | h
  ·omega
  unfold Yt at hk;omega
 unfold YE;rw[m1,Qa];by_cases h0:0<=av f 0
 ·have e0:Qr m 0=C (av f 0):=by rw[m2,if_pos h0]
  simp only[e0,Option.isSome_some,JD,Qi];have key:∃r,Qh (λst:L_ Qc×Int=>TL m s st.1 st.2) ([],0)=C r/\r=WY s f (av f 0).toNat 0:=by
   refine SL (λst:L_ Qc×Int=>0<=av f st.2/\st.1++WY s f (av f st.2).toNat st.2=WY s f (av f 0).toNat 0/\(st.1.length:Int)+av f st.2=av f 0) (λst:L_ Qc×Int=>(av f st.2).toNat) _ ?_ ([],0) ⟨h0,by simp,by simp⟩;rintro ⟨out,a⟩ ⟨ha,hl,hlen⟩;simp only at ha hl hlen;have ea:Qr m a=C (av f a):=by rw[m2,if_pos ha]
   unfold TL;simp only[ea,GI];by_cases hp:0<av f a
   ·left;have hla:=hle a;obtain⟨n,j,e,n1,n2,n3,n4,n5,n6⟩:=Qpa hf hp;have O:WE (Km (λe:QC=>e.From==a) 0 s.Edges) m s a=C (n:Int):=by
     have hll:=QlY (λe:QC=>e.From==a) s.Edges 0;unfold WE;rw[SS (l:=Km (λe:QC=>e.From==a) 0 s.Edges) (s0:=0) (λi=>(i:Int)) (Qgx s f a) (λi=>Sum.inl (i:Int)) (Sum.inr ()) ?_ ?_ rfl]
     ·rw[n1];rfl
     ·intro i x hi hx;have h1:(i:Int)<(Km (λe:QC=>e.From==a) 0 s.Edges).length:=by omega
      obtain⟨j,e,rfl,h3,h4⟩:=Qam hx;unfold Gj VW;simp only[h1,decide_true,Ql,Qs,hx,h3,Qa,ea,GI,Xh (show -9223372036854775808<=av f a-1/\av f a-1<=9223372036854775807 by omega),Qj hi (show(Km (λe:QC=>e.From==a) 0 s.Edges).length<=maxLen by unfold maxLen;omega)];rw[Qed h3];have:((Qr m e.To).isSome&&((Qr m e.To).getD 0==av f a-1))=(decide (0<=av f e.To)&&(av f e.To==av f a-1)):=by
       rw[m2];by_cases c:0<=av f e.To
       ·simp[c]
       simp[c]
      rw[<-this];cases ((Qr m e.To).isSome&&((Qr m e.To).getD 0==av f a-1))<;>rfl
     simp[Gj]
    refine⟨(out++[e.Mode],e.To),?_,⟨n5,?_,by simp;omega⟩,by simp only;omega⟩
    ·have h0':=hle 0;simp only[hp,decide_true,Ql,Qwx h,Qa,O,Qs,n2,n3];rw[YR (by simp;omega)];rfl
    rw[<-hl,Qj6 hf hp n4 n6];simp
   right;refine⟨out,by simp[hp],?_⟩;rw[<-hl,show(av f a).toNat=0 by omega];simp[WY]
  obtain⟨r,r1,r2⟩:=key;rw[r1,r2];rfl
 have e0:Qr m 0=none:=by rw[m2,if_neg h0]
 have:=hf.lo 0;rw[show(av f 0).toNat=0 by omega];simp[e0,WY]
def Qsd (h:KV s)(k:Int):ZO s k=C (Km (λe:QC=>e.From==k) 0 s.Edges):=by
 have hed:=h.ed;unfold ZO;rw[Hw (l:=s.Edges) (λe:QC=>e.From==k)]
 ·rfl
 ·intro i O x ha hi hx;have h1:(i:Int)<s.Edges.length:=by omega
  have hc:decide (O.length+([(i:Int)]:LI_).length<=4294967296)=true:=Qt (by simp;omega);simp only[Zi,OH,h1,decide_true,Ql,Qs,hx,Qa,Qj hi h.ok.2.1,GV hc];cases x.From==k<;>rfl
 intro O;simp[Zi]
def QrE (h:KV s)(hN:0<s.States.length)(hf:DH s.States.length (es s) [k] f)(h0:0<=av f 0):Qh (λst:Int×L_ Qc=>MJ f s st.1 st.2) (0,[])=C (.inr (WY s f (av f 0).toNat 0)):=by
 have hst:=h.st;have hed:=h.ed;have hle:∀j,av f j<=40:=λj=>by
  rcases hf.lt j with h | h
  ·omega
  omega
 have key:∃r,Qh (λst:Int×L_ Qc=>MJ f s st.1 st.2) (0,[])=C r/\r=.inr (WY s f (av f 0).toNat 0):=by
  refine SL (λst:Int×L_ Qc=>0<=av f st.1/\st.2++WY s f (av f st.1).toNat st.1=WY s f (av f 0).toNat 0/\(st.2.length:Int)+av f st.1=av f 0) (λst:Int×L_ Qc=>(av f st.1).toNat) _ ?_ (0,[]) ⟨h0,by simp,by simp⟩;rintro ⟨a,out⟩ ⟨ha,hl,hlen⟩;simp only at ha hl hlen;have hra:=hf.rng ha;have ga:=EA (out:=f) (k:=a) (by rw[hf.len];exact hra);unfold MJ;simp only[YI hra.1,ga,Qa];by_cases hp:0<av f a
  ·left;have hla:=hle a;obtain⟨n,j,e,n1,n2,n3,n4,n5,n6⟩:=Qpa hf hp;have O:Qh (λst:Int×Int=>CY (Km (λe:QC=>e.From==a) 0 s.Edges) s f a st.1 st.2) (-1,0)=C ((j:Nat):Int):=by
    have hll:=QlY (λe:QC=>e.From==a) s.Edges 0;rw[QtN (l:=Km (λe:QC=>e.From==a) 0 s.Edges) (s0:=((-1:Int),(0:Int))) (λi=>((-1:Int),(i:Int))) (λi=>(((Km (λe:QC=>e.From==a) 0 s.Edges)[i]?).getD 0,((i+1:Nat):Int))) (Qgx s f a) (λi=>((Km (λe:QC=>e.From==a) 0 s.Edges)[i]?).getD 0) (-1) ?_ ?_ ?_ rfl]
    ·rw[n1];simp[n2]
    ·intro i x hi hx;have h1:(i:Int)<(Km (λe:QC=>e.From==a) 0 s.Edges).length:=by omega
     obtain⟨j,e,rfl,h3,h4⟩:=Qam hx;unfold CY QdT MI;have hg:Vr e f a=C (decide (0<=av f e.To)&&(av f e.To==av f a-1)):=by
      unfold Vr;by_cases c1:0<=e.To
      ·by_cases c2:e.To<(f.length:Int)
       ·simp only[c1,c2,decide_true,Ql,YI c1,EA (show Yt f.length e.To from⟨c1,c2⟩),YI hra.1,ga,Qa,Xh (show -9223372036854775808<=av f a-1/\av f a-1<=9223372036854775807 by omega)];by_cases c3:av f e.To=av f a-1
        ·have:0<=av f e.To:=by omega
         simp[c3];omega
        simp[c3]
       have:av f e.To=-1:=VC λhr=>c2 hr.2;simp[c1,c2,this]
      have:av f e.To=-1:=VC λhr=>c1 hr.1;simp[c1,this]
     have hi2:=Qj hi (show(Km (λe:QC=>e.From==a) 0 s.Edges).length<=maxLen by unfold maxLen;omega);simp only[h1,decide_true,UD,show decide ((-1:Int)<0)=true from rfl,Ql,Qs,hx,h3,Qa,hg,hi2,Qed h3,GI];cases (decide (0<=av f e.To)&&(av f e.To==av f a-1))<;>rfl
    ·intro i x hi hx;obtain⟨j,e,rfl,h3,h4⟩:=Qam hx;unfold CY;have:¬((j:Nat):Int)<0:=by omega
     simp[hx,this]
    unfold CY;simp
   refine⟨(e.To,out++[e.Mode]),?_,⟨n5,?_,by simp;omega⟩,by simp only;omega⟩
   ·have h0':=hle 0;unfold QdU;have:¬((j:Nat):Int)<0:=by omega
    simp only[hp,decide_true,Ql,Qsd h,Qa,O,this,decide_false,Qi,Qs,n3];rw[YR (by simp;omega)];rfl
   simp only;rw[<-hl,Qj6 hf hp n4 n6];simp
  right;refine⟨.inr out,by simp[hp],?_⟩;rw[<-hl,show(av f a).toNat=0 by omega];simp[WY]
 obtain⟨r,r1,r2⟩:=key;rw[r1,r2]
def Qqm (h:KV s):∃f,DH s.States.length (es s) [k] f/\Bw s k=C (WY s f (av f 0).toNat 0):=by
 obtain⟨f,f1,O⟩:=Qsb k h;refine⟨f,O,?_⟩;unfold Bw;rw[f1,Qa];unfold QdS;by_cases hN:f.length=0
 ·have:av f 0=-1:=VC λhr=>by unfold Yt at hr;omega
  rw[hN,this];rfl
 have hr0:Yt f.length 0:=⟨Qa2 _,by omega⟩;have e1:((f.length:Int)==0)=false:=by
  cases hc:((f.length:Int)==0)with
  | false=>rfl
  | true=>have:=beq_iff_eq.1 hc;omega
 simp only[e1,Qi,YI (Qa2 0),EA hr0,Qa];unfold QcI;by_cases h0:0<=av f 0
 ·have:¬av f 0<0:=by omega
  simp only[this,decide_false,Qi];rw[QrE h (by have:=O.len;omega) O h0];rfl
 have:av f 0<0:=by omega
 simp only[this,decide_true,Ql];rw[show(av f 0).toNat=0 by omega];rfl
def Qwy (h:KV s)(O:¬Yt s.States.length k):YE s k=C []:=by
 unfold YE PN;rw[Qec,Qa];simp only[O,decide_false,PY,Ql,Qa];simp[Qr]
def Qvm (h:KV s):∃p,YE s k=C p/\Bw s k=C p/\p.length<=100:=by
 obtain⟨f,O,h2⟩:=Qqm (k:=k) h;have hst:=h.st;by_cases hk:Yt s.States.length k
 ·refine⟨_,QnX h hk O,h2,?_⟩;have:=QnW (s:=s) (f:=f) (av f 0).toNat 0;have:=O.lt 0;unfold Yt at hk;omega
 have hz:av f 0<=0:=by
  apply Classical.byContradiction;intro hn;have key:∀d:Nat,∀a,av f a=d->False:=by
   intro d
   induction d with
   | zero=>
    intro a ha;rcases O.back a (by omega)with⟨_,h3⟩|⟨v,_,_,h3,h4⟩
    ·exact hk (Da.1 h3▸O.rng (k:=a) (by omega))
    omega
   | succ d ih=>
    intro a ha;rcases O.back a (by omega)with⟨h3,_⟩|⟨v,_,_,h3,h4⟩
    ·omega
    exact ih v (by omega)
  exact key (av f 0).toNat 0 (by omega)
 refine⟨[],Qwy h hk,?_,by simp⟩;rw[h2,show(av f 0).toNat=0 by omega];rfl
end
end Go.Proofs
noncomputable section
namespace Go.Rk
open Go Go.Vm
def least {p:Nat->Prop}:∀n,p n->∃m,p m/\∀j,j<m->¬p j:=by
 intro n
 induction n using Nat.strongRecOn with
 | _ n ih=>
  intro O;by_cases c:∃j,j<n/\p j
  ·obtain⟨j,h,hp⟩:=c;exact ih j h hp
  exact⟨n,O,λj h hp=>c ⟨j,h,hp⟩⟩
def Stp (N:Nat)(es:(L_ (Int×Int)))(gs:(L_ Int)):Nat->Int->Prop
 | 0,k=>Yt N k/\k∈gs
 | n+1,k=>Yt N k/\∃v,(k,v)∈es/\Yt N v/\Stp N es gs n v
open Classical in
def IS (N:Nat)(es:(L_ (Int×Int)))(gs:(L_ Int))(k:Int):Int:=if h:∃n,Stp N es gs n k then((Classical.choose (least (p:=λn=>Stp N es gs n k) (Classical.choose h) (Classical.choose_spec h)):Nat):Int)else -1
def Qee {N:Nat}{es:(L_ (Int×Int))}{gs:(L_ Int)}{k:Int}(h:0<=IS N es gs k):Stp N es gs (IS N es gs k).toNat k/\∀j,j<(IS N es gs k).toNat->¬Stp N es gs j k:=by
 unfold IS at h ⊢;split at h
 ·rename_i O;rw[dif_pos O,Xs];exact Classical.choose_spec (least (p:=λn=>Stp N es gs n k) (Classical.choose O) (Classical.choose_spec O))
 omega
def Qpb {N:Nat}{es:(L_ (Int×Int))}{gs:(L_ Int)}{k:Int}{n:Nat}(h:Stp N es gs n k):0<=IS N es gs k/\IS N es gs k<=n:=by
 have hc:∃n,Stp N es gs n k:=⟨n,h⟩;have O:0<=IS N es gs k:=by unfold IS;rw[dif_pos hc];omega
 refine⟨O,?_⟩;have:=(Qee O).2;by_cases c:IS N es gs k<=n
 ·exact c
 exact absurd h (this n (by omega))
def Qxu {N:Nat}{es:(L_ (Int×Int))}{gs:(L_ Int)}(k:Int):-1<=IS N es gs k:=by
 unfold IS;split<;>omega
def Qyn (N:Nat)(es:(L_ (Int×Int)))(gs:(L_ Int)):∃f,DH N es gs f:=by
 have O:∀k,av ((List.range N).map λi:Nat=>IS N es gs i) k=if Yt N k then IS N es gs k else -1:=λk=>by
  by_cases c:Yt N k
  ·rw[if_pos c];have h:=EA (out:=(List.range N).map λi:Nat=>IS N es gs i) (k:=k) (by simpa using c);have hk:k.toNat<N:=by unfold Yt at c;omega
   rw[Yn,List.getElem?_range hk,Ki]at h;have:=Option.some.inj h;rw[<-this];unfold Yt at c;rw[show((k.toNat:Nat):Int)=k by omega]
  rw[if_neg c];exact VC (by simpa using c)
 refine⟨(List.range N).map λi:Nat=>IS N es gs i,by simp,λk=>?_,λg hg hr=>?_,λu v he hu hv h0=>?_,λk hk=>?_⟩
 ·rw[O];split
  ·exact Qxu k
  omega
 ·rw[O,if_pos hr];have:=Qpb (show Stp N es gs 0 g from⟨hr,hg⟩);omega
 ·rw[O v,if_pos hv]at h0;rw[O u,O v,if_pos hu,if_pos hv];have h1:=(Qee h0).1;have:=Qpb (show Stp N es gs ((IS N es gs v).toNat+1) u from⟨hu,v,he,hv,h1⟩);omega
 have hr:Yt N k:=by
  by_cases c:Yt N k
  ·exact c
  rw[O,if_neg c]at hk;omega
 rw[O,if_pos hr]at hk ⊢;obtain⟨h1,h2⟩:=Qee hk;cases hn:(IS N es gs k).toNat with
 | zero=>
  rw[hn]at h1;exact .inl ⟨by omega,h1.2⟩
 | succ d=>
  rw[hn]at h1 h2;obtain⟨_,v,he,hv,hs⟩:=h1;have hd:=Qpb hs;refine .inr ⟨v,he,hv,by rw[O,if_pos hv];exact hd.1,?_⟩;rw[O,if_pos hv];by_cases c:(IS N es gs v).toNat<d
  ·exact absurd (show Stp N es gs ((IS N es gs v).toNat+1) k from⟨hr,v,he,hv,(Qee hd.1).1⟩) (h2 _ (by omega))
  omega
end Go.Rk
