/- A part of the proof. -/
import Derived.Test.YthihjgnmfnohoaaGreatDoorR1P3
set_option linter.all false
noncomputable section
namespace Go.Proofs
open Go Go.RowKit Go.Vm
open Option renaming some→C
variable {n:Qh}{c:Qz}
def Qtu {σ τ ρ ρ':Type}{b1:σ->O_ (σ⊕ρ)}{b2:τ->O_ (τ⊕ρ')}(g:σ->τ)(f:ρ->ρ')(n:Nat)(I:Nat->σ->Prop)(he:∀i s,I i s->b2 (g s)=(b1 s).map (Sum.map g f))(hn:∀i s O,I i s->b1 s=C (.inl O)->i<n/\I (i+1) O):∀s0,I 0 s0->Qt b2 (g s0)=(Qt b1 s0).map f:=by
 have key:∀(k i:Nat) s,n<=i+k->I i s->Qt b2 (g s)=(Qt b1 s).map f:=by
  intro k
  induction k with
  | zero=>
   intro i s hk hI;rw[Yn,Yn (body:=b1),he i s hI];cases hb:b1 s with
   | none=>rfl
   | some o=>
    cases o with
    | inr r=>rfl
    | inl O=>have:=(hn i s O hI hb).1;omega
  | succ k ih=>
   intro i s hk hI;rw[Yn,Yn (body:=b1),he i s hI];cases hb:b1 s with
   | none=>rfl
   | some o=>
    cases o with
    | inr r=>rfl
    | inl O=>exact ih (i+1) O (by omega) (hn i s O hI hb).2
 exact λs0 h=>key n 0 s0 (by omega) h
def Qnr (h:XE n)(k:Xh){ds:LI_}(hn:ds.Nodup)(hi:∀d∈ds,∃x∈c.Items,x.Id=d){M:L_ Bag}{i:Nat}(i1:i<ds.length)(hC:JF n ⟨M,(ds.take i).foldl dropL c.Items,c.Next,c.Now+1⟩):
  ∃(p:Nat) (y:Qg) (e:Int) (v:QK),Kl ((ds.take i).foldl dropL c.Items) ds[i]=C (p:Int)/\((ds.take i).foldl dropL c.Items)[p]? = C y/\XL n y.Mode/\Yk ⟨n,⟨M,(ds.take i).foldl dropL c.Items,c.Next,c.Now+1⟩,k⟩ y=C (e,v)/\(e=0->∃O,JF n ⟨O,(ds.take (i+1)).foldl dropL c.Items,c.Next,c.Now+1⟩/\v=⟨n,⟨O,(ds.take (i+1)).foldl dropL c.Items,c.Next,c.Now+1⟩,k⟩):=by
 have hx:=QN i1;obtain⟨x,x1,x2⟩:=hi ds[i] (Xs i1);have x3:x∈(ds.take i).foldl dropL c.Items:=QgF.2 ⟨x1,λhm=>by
  rw[x2]at hm;obtain⟨j,hj,e⟩:=Ug.1 hm;rw[Wq]at hj;rw[Zx]at e;exact absurd e ((QgO.1 (List.nodup_iff_pairwise_ne.1 hn)) j i (by omega) i1 (by omega))⟩
 obtain⟨p,y,f1,f2,f3⟩:=Qcu (UT hC) x3 x2;obtain⟨m1,m2⟩:=hC.f y (Xx f2);obtain⟨e,v,hv,hv0⟩:=Qcw h hC k (p:=y) m1;refine⟨p,y,e,v,f1,f2,m1,hv,λhz=>?_⟩;obtain⟨O,g1,g2,rfl⟩:=hv0 hz;have e1:(ds.take (i+1)).foldl dropL c.Items=dropL ((ds.take i).foldl dropL c.Items) y.Id:=by
  rw[UU,hx,List.foldl_append,f3];rfl
 exact⟨O,by rw[e1];exact hC.drop g2 _,by rw[e1]⟩
def Qsu (h:XE n)(hr:RN n)(hc:JF n c)(k:Xh):Mo n c=(DX ⟨n,c,k⟩).bind λr=>C (Fa c r):=by
 have hl:=hc.len;have n2:=hc.n2;have mx:(80:Nat)<=maxLen:=by decide
 obtain⟨u1,u2⟩:=FW.1 hc.up;unfold Mo DX;simp only;rw[NO];by_cases c1:c.Now=1099511627776
 ·rw[Qi c1];rfl
 rw[Qj c1,Qd,Qd,Xj (by omega),Qss (by omega)];obtain⟨ds,hds,hn,hi,hdl⟩:=Qsa u1 (by omega) (c.Now+1);rw[hds,Qa,Qa];have hC0:JF n ⟨c.M,c.Items,c.Next,c.Now+1⟩:=⟨hc.g,hc.n1,⟨by show 0<=c.Now+1;omega,by show c.Now+1<=_;omega⟩,hc.up,hc.len,hc.f⟩;have hL:=Qtu (b1:=λst=>YB ds st.1 st.2) (b2:=λst=>Cr ds n c st.1 st.2) (λs=>(s.1,s.2.now)) (Sum.map (λq=>Fa c (q.1,⟨0,0,[]⟩,q.2)) (λv=>v.now)) ds.length (λi s=>s.1=(i:Int)/\∃M,JF n ⟨M,(ds.take i).foldl dropL c.Items,c.Next,c.Now+1⟩/\s.2=⟨n,⟨M,(ds.take i).foldl dropL c.Items,c.Next,c.Now+1⟩,k⟩)
  (λi s hI=>by
   obtain⟨x,v⟩:=s;obtain⟨hx,M,hC,hv⟩:=hI;replace hx:x=(i:Int):=hx;replace hv:v=_:=hv;subst hx hv;show Cr ds n c i ⟨M,(ds.take i).foldl dropL c.Items,c.Next,c.Now+1⟩=(YB ds i ⟨n,⟨M,(ds.take i).foldl dropL c.Items,c.Next,c.Now+1⟩,k⟩).map _;unfold Cr YB;by_cases i1:i<ds.length
   ·obtain⟨p,y,e,v,f1,f2,m1,hv,_⟩:=Qnr h k hn (λd hd=>by obtain⟨x,h1,h2,_⟩:=(hi d).1 hd;exact⟨x,h1,h2⟩) i1 hC;rw[Qi (by omega),Qq,Qq,QQ,KR i1];simp only[Qa];have hF:=ZR (id:=ds[i]) (UT hC);simp only at hF;rw[hF,f1];simp only[Qa];rw[QQ,f2];simp only[Qa];rw[Qh7 h hr hC k m1 false,Qd,hv];simp only[Qa];cases hz:(e != 0)with
    | true=>simp only[Qq,GR,Sum.map_inr,Sum.map_inl];unfold Yx Fa;simp only[hz,Qq,Qa]
    | false=>rfl
   rw[Qj (by omega)];rfl)
  (λi s s' hI O=>by
   obtain⟨x,v⟩:=s;obtain⟨hx,M,hC,hv⟩:=hI;replace hx:x=(i:Int):=hx;replace hv:v=_:=hv;subst hx hv;replace O:YB ds i ⟨n,⟨M,(ds.take i).foldl dropL c.Items,c.Next,c.Now+1⟩,k⟩=C (.inl s'):=O;unfold YB at O;by_cases i1:i<ds.length
   ·obtain⟨p,y,e,v,f1,f2,m1,hv,hv0⟩:=Qnr h k hn (λd hd=>by obtain⟨x,h1,h2,_⟩:=(hi d).1 hd;exact⟨x,h1,h2⟩) i1 hC;rw[Qi (by omega),Qq,QQ,KR i1,Qa]at O;simp only at O;rw[f1,Qa,QQ,f2,Qa,hv,Qa,HQ]at O;by_cases e0:e=0
    ·simp only[Qi e0,Jo,Qd]at O;cases O;obtain⟨M',q1,q2⟩:=hv0 e0;exact⟨i1,Qr i1 (by omega),M',q1,q2⟩
    simp only[Qj e0,Zw,Qq]at O;cases O
   rw[Qj (by omega),Qd]at O;cases O)
  (0,⟨n,⟨c.M,c.Items,c.Next,c.Now+1⟩,k⟩) ⟨rfl,c.M,hC0,rfl⟩
 replace hL:Qt (λst=>Cr ds n c st.1 st.2) (0,(⟨c.M,c.Items,c.Next,c.Now+1⟩:Qz))=_:=hL;rw[hL];cases Qt (λst=>YB ds st.1 st.2) (0,⟨n,⟨c.M,c.Items,c.Next,c.Now+1⟩,k⟩)with
 | none=>rfl
 | some q=>cases q<;>rfl
def Qsv (h:XE n)(hr:RN n)(hc:JF n c)(k:Xh)(hk:XL n k.Mode)(hR:Yl n c.M k.Mode=C 0->BV n c.M k.Mode 64=KZ n c.M k.Mode 64):ZJ n c k=IA n c k:=by
 have hL:=QeH (hc.lens h);have hE:=Qnj h hc;unfold ZJ IA;rw[QpQ (hc.lens h),Qa,Qsr h hr hc,Qa,Jo,Qd,hL,Qa];unfold Cb Wn BW;simp only[NO];have fin:∀x:O_ (Int×Qu×QK),((x.bind λr=>C (Fa c r)).bind λx13=>C (x13.1,x13.2))=x.bind λO=>bif (O.1 != 0)then(Yw c).bind λx20=>C (x20,(⟨O.1,0,[]⟩:Qu))else C (O.2.2.now,O.2.1):=λx=>by
  cases x with
  | none=>rfl
  | some r=>
   rw[hL];unfold Fa;simp only[Qa];cases r.1 != 0<;>rfl
 have ins:k.Do≠5->((WC n c k).bind λx16=>C (x16.1,x16.2))=Fz n c c k ():=λhd5=>by
  unfold Fz;rw[hE,Qa,Jo,Qd,Qst h hr hc k hd5,fin]
 by_cases d1:k.Do=1
 ·rw[Qi d1,Qq];show _=FA n c c k ();unfold FA;rw[hE,Qa,Jo,Qd,Qra h hr hc k hk hR,fin]
 rw[Qj d1,Qd,Qd];by_cases d2:k.Do=2
 ·rw[Qi d2];exact ins (by omega)
 rw[Qj d2,Qd,Qd];by_cases d3:k.Do=3
 ·rw[Qi d3];exact ins (by omega)
 rw[Qj d3,Qd,Qd];by_cases d4:k.Do=4
 ·rw[Qi d4];exact ins (by omega)
 rw[Qj d4,Qd,Qd];by_cases d5:k.Do=5
 ·rw[Qi d5];show((WC n c k).bind λx16=>C (x16.1,x16.2))=FB n c c k ();unfold FB;rw[hE,Qa,Jo,Qd,Qn1 h hr hc k d5,fin]
 rw[Qj d5,Qd,Qd];by_cases d6:k.Do=6
 ·rw[Qi d6];show((Mo n c).bind λO=>C (O.1,O.2))=FC n c c k ();unfold FC;rw[hE,Qa,Jo,Qd,Qsu h hr hc k,fin]
 rw[Qj d6];show _=FD c ();unfold FD;rw[hL];rfl
def Qrb {c':Qz}{k:Xh}{a:Qu}(O:JF n c)(hE:Eff n c k c' a):a.Closed.length<=64:=by
 obtain⟨u1,u2⟩:=FW.1 O.up;have hl:=O.len;cases hE with
 | start x e need M h hx hm he hu hN hT=>exact LQ _
 | keep x y h hy hx=>exact LQ _
 | shut y M h hy hB hk=>show 1<=64;omega
 | tick ds M h hn hI hD=>
  have:=Qnl u1 hn hI;show ds.length<=64;omega
def Qtv (H:EOk n)(hr:RN n)(O:JF n c){l:L_ Xh}(hl:l.length<=24)(hk:∀k∈l,XL n k.Mode):∃c' out,FE n c l=C (out,c')/\Vd n c l=C (out,c')/\JF n c'/\out.length<=24/\∀a∈out,a.Closed.length<=64:=by
 have mx:(24:Nat)<=maxLen:=by decide
 have rd:∀{c:Qz} {k:Xh},JF n c->XL n k.Mode->BV n c.M k.Mode 64=KZ n c.M k.Mode 64:=λ{c k} O hk=>by
  unfold BV KZ;rw[QeK H.h hr (O.g.1.len H.h (by decide)) hk]
 have main:Qk (Qt (λst:Int×Qz×L_ Qu=>Wg l n st.1 st.2.1 st.2.2) (0,c,([]:L_ Qu))) λq=>JF n q.1/\q.2.length<=24/\∀a∈q.2,a.Closed.length<=64:=by
  refine Qk.up l.length (λst:Int×Qz×L_ Qu=>st.1) (λst:Int×Qz×L_ Qu=>JF n st.2.1/\(st.2.2.length:Int)=st.1/\∀a∈st.2.2,a.Closed.length<=64) rfl ⟨O,rfl,λa h=>by cases h⟩ (λi st hi hn2 hJ=>?_);obtain⟨x,c,L⟩:=st;replace hi:x=(i:Int):=hi;subst hi;obtain⟨O,h1,h2⟩:JF n c/\(L.length:Int)=(i:Int)/\∀a∈L,a.Closed.length<=64:=hJ;show Qk (Wg l n i c L) _;unfold Wg;refine T1 (λhlt=>?_) (λhlt=>T2 (Qv ⟨O,by show L.length<=24;omega,h2⟩));simp only[QG]at hlt;have i1:i<l.length:=by omega
  obtain⟨c',a,hD,hc',hE,_⟩:=QtE H O l[i] (hk _ (Xs i1));rw[QQ,KR i1,Qa,hD,Qa,YI (by simp;omega),Qa];have hw:=Qr i1 (by omega);refine T2 (QV ⟨i1,hw,hc',by show((L++[a]).length:Int)=Qm _;rw[hw,Gb,Ol];push_cast;omega,λb hb=>?_⟩);rcases Wr.1 hb with hb | hb
  ·exact h2 b hb
  rw[Lf]at hb;subst hb;rcases hE with⟨_,_,_,e4⟩|hE
  ·rw[e4];exact LQ _
  exact Qrb O hE
 have same:Qt (λst:Int×Qz×L_ Qu=>Nk l n st.1 st.2.1 st.2.2) (0,c,([]:L_ Qu))=Qt (λst:Int×Qz×L_ Qu=>Wg l n st.1 st.2.1 st.2.2) (0,c,([]:L_ Qu)):=by
  refine QgK l.length (λi st=>st.1=(i:Int)/\JF n st.2.1) (λi st hI=>?_) (λi st s' hI hs=>?_) _ ⟨rfl,O⟩
  ·obtain⟨x,c,L⟩:=st;obtain⟨hx,O⟩:=hI;replace hx:x=(i:Int):=hx;replace O:JF n c:=O;subst hx;show Nk l n i c L=Wg l n i c L;unfold Nk Wg;by_cases i1:i<l.length
   ·have hm:=hk _ (Xs i1);rw[QQ,KR i1,Qa,Qa,Qsv H.h hr O l[i] hm λ_=>rd O hm]
   rw[Qj (by omega)];rfl
  obtain⟨x,c,L⟩:=st;obtain⟨hx,O⟩:=hI;replace hx:x=(i:Int):=hx;replace O:JF n c:=O;subst hx;replace hs:Wg l n i c L=C (.inl s'):=hs;unfold Wg at hs;by_cases i1:i<l.length
  ·obtain⟨c',a,hD,hc',_⟩:=QtE H O l[i] (hk _ (Xs i1));rw[Qi (by omega),Qq,QQ,KR i1,Qa,hD,Qa]at hs;obtain⟨_,_,hs⟩:=QU hs;cases hs;exact⟨i1,Qr i1 (by omega),hc'⟩
  rw[Qj (by omega),Qd]at hs;cases hs
 obtain⟨⟨c',out⟩,q1,q2,q3,q4⟩:=main;refine⟨c',out,?_,?_,q2,q3,q4⟩
 ·unfold FE;rw[QeH (O.lens H.h),Qa,q1];rfl
 unfold Vd;rw[same,q1];rfl
def Qpt {l:L_ Qu}(hl:l.length<=maxLen)(h:∀a∈l,a.Closed.length<=maxLen):LI l l=C true:=by
 have O:Qk (Qt (λst=>Ct l l st) 0) λq=>q=.inr ():=by
  refine Qk.up l.length (λst=>st) (λ_=>True) rfl trivial (λj st hj hn2 hJ=>?_);replace hj:st=(j:Int):=hj;subst hj;show Qk (Ct l l j) _;unfold Ct;refine T1 (λhc=>?_) (λ_=>T2 (Qv rfl));simp only[QG]at hc;have i1:j<l.length:=by omega
  unfold Vx;simp only[QQ,KR i1,Qa,HQ,decide_true,Jo,Qd];rw[Qp5 _ _ (h _ (Xs i1)),Qi rfl];exact T2 (QV ⟨i1,Qr i1 hl,trivial⟩)
 obtain⟨q,q1,rfl⟩:=O;unfold LI;rw[HQ,Qi rfl,Jo,Qd,q1];rfl
def Qrc (n:Qh)(l:L_ Xh)(hn:Xo n)(hR:RN n)(hr:Qob n)(hl:l.length<=maxLen):Ub n l=C true:=by
 obtain⟨m,hm,hN,hml⟩:=Qux hn hr;obtain⟨f,hf,hf2⟩:=Qtr hn hm hml;obtain⟨g,hg,hg2⟩:=Quy n l hl;unfold Ub;rw[Quv,Qa,hN,Qa,hf,Qa,hg,Qa];cases hc:((!f)||(!g))with
 | true=>rfl
 | false=>
  simp only[KS,Bk]at hc;have O:=hf2 hc.1;obtain⟨hl2,hk⟩:=hg2 hc.2;obtain⟨c,out,h1,h2,h3,h4,h5⟩:=Qtv O.e hR O.c hl2 hk;have mx:(64:Nat)<=maxLen:=by decide
  rw[Qd,h1,h2,Qa,Qa];unfold PH;simp only[Qq];rw[Qse (Quz O.e.h h3),Qa,Qq,Qpt (by omega) λa ha=>by have:=h5 a ha;omega];rfl
end Go.Proofs
