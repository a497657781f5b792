/- A part of the proof. -/
import Derived.Test.YtkocdcoeinjdbaaGreatDoorK2P2
import Derived.Test.YtkocdcoeinjdbaaGreatDoorK2T2
import Derived.KernelRfl
set_option linter.all false
noncomputable section
namespace Go.Proofs
open Go Go.RowKit Go.Vm
def Qib {L:L_ Qw}(hu:Up L):∀i,i<=L.length->Lk L i=((L.take i).filter λx=>decide (0<x.Until)).map λx=>(x.Until,x.Id)
 | 0,_=>by simp[Lk]
 | i+1,hi=>by
  have hx:L[i]? = some L[i]:=QR (by omega)
  have D:∀y∈L.take i,y.Id≠L[i].Id:=λy hy e=>by
   obtain⟨j,hj,rfl⟩:=BX.1 hy
   rw[KS]at hj
   rw[List.getElem_take]at e
   have:=List.pairwise_iff_getElem.1 hu j i (by omega) (by omega) (by omega)
   omega
  rw[Lk,hx,Qib hu i (by omega),AQ,hx]
  simp only[Option.toList_some,SY,List.map_append]
  by_cases c:0<L[i].Until
  ·rw[if_pos ⟨D,c⟩];simp[c]
  rw[if_neg λh=>c h.2];simp[c]
open Classical in
def Qei {now:Int}:∀{S:L_ Ky},Srt S->∀s,s∈S.takeWhile (λs=>decide (s.1<=now))↔s∈S/\s.1<=now
 | [],_,s=>by simp
 | a::S,D,s=>by
  have y:=Fu.1 D
  rw[List.takeWhile_cons]
  by_cases c:a.1<=now
  ·rw[if_pos (QN c),XQ,XQ,Qei y.2]
   constructor
   ·rintro (rfl | ⟨h,k⟩)
    ·exact⟨.inl rfl,c⟩
    exact⟨.inr h,k⟩
   rintro ⟨rfl | h,k⟩
   ·exact .inl rfl
   exact .inr ⟨h,k⟩
  rw[if_neg (by simpa using c)]
  constructor
  ·intro h;cases h
  rintro ⟨h,k⟩
  rcases XQ.1 h with rfl | h
  ·exact absurd k c
  have:=y.1 s h
  unfold Wl Mn at this
  omega
open Classical in
def Qic {L:L_ Qw}(hu:Up L)(hL:L.length<=80)(now:Int):∃ds,CR L now=some ds/\ds.Nodup/\(∀d,d∈ds↔∃x∈L,x.Id=d/\0<x.Until/\x.Until<=now)/\ds.length<=L.length:=by
 have hS:Srt ((Lk L L.length).mergeSort λa b=>decide (Wl a b)):=by
  have:=List.pairwise_mergeSort (le:=λa b:Ky=>decide (Wl a b)) (λa b c h k=>QN ((XC h).trans (XC k))) (λa b=>by
   by_cases h:Wl a b
   ·rw[QN h];rfl
   rw[QN (Wl.tot h),Bool.or_true]) (Lk L L.length)
  exact this.imp λh=>XC h
 have hp:=List.mergeSort_perm (Lk L L.length) λa b=>decide (Wl a b)
 refine⟨_,Qkp hL hS hp,?_,λd=>?_,?_⟩
 rotate_left 2
 ·unfold Qef
  rw[BW]
  have h1:=(List.takeWhile_sublist (λs:Ky=>decide (s.1<=now)) (l:=(Lk L L.length).mergeSort λa b=>decide (Wl a b))).length_le
  have h2:=hp.length_eq
  have h3:=Qcx L L.length
  omega
 ·have y:=Qib hu L.length (YZ _)
  rw[Ln]at y
  have hn:((Lk L L.length).map Prod.snd).Nodup:=by
   rw[y,OB]
   have:(L.map λx=>x.Id).Nodup:=by
    rw[List.nodup_iff_pairwise_ne,PU]
    exact(show List.Pairwise (λa b:Qw=>a.Id<b.Id) L from hu).imp λh=>by omega
   exact this.sublist (List.Sublist.map _ List.filter_sublist)
  exact((hp.map Prod.snd).nodup_iff.2 hn).sublist ((List.takeWhile_sublist _).map _)
 unfold Qef
 rw[Yl]
 have y:=Qib hu L.length (YZ _)
 rw[Ln]at y
 constructor
 ·rintro ⟨s,hs,rfl⟩
  obtain⟨h1,h2⟩:=(Qei hS s).1 hs
  have h3:=hp.mem_iff.1 h1
  rw[y,Yl]at h3
  obtain⟨x,D,rfl⟩:=h3
  rw[Fq]at D
  exact⟨x,D.1,rfl,XC D.2,h2⟩
 rintro ⟨x,D,rfl,h1,h2⟩
 refine⟨(x.Until,x.Id),(Qei hS _).2 ⟨hp.mem_iff.2 ?_,h2⟩,rfl⟩
 rw[y,Yl]
 exact⟨x,Fq.2 ⟨D,QN h1⟩,rfl⟩
def TU {x:Qw}:∀{ds:LI_} {l:L_ Qw},x∈ds.foldl dropL l↔x∈l/\x.Id ∉ ds
 | [],l=>by simp
 | d::ds,l=>by
  rw[List.foldl_cons,TU,Cq,XQ,not_or]
  exact⟨λh=>⟨h.1.1,h.1.2,h.2⟩,λh=>⟨⟨h.1,h.2.1⟩,h.2.2⟩⟩
def Ql6 {n:Ql}{c:QT}(h:Ya n)(hc:Ki n c)(k:Xt)(hd:k.Do=6):∃e a v,KK ⟨n,c,k⟩=some (e,a,v)/\(e=0->Ki n v.now/\Eff n c k v.now a):=by
 have hl:=hc.len
 have n2:=hc.n2
 have mx:(80:Nat)<=maxLen:=by decide
 obtain⟨u1,u2⟩:=Uc.1 hc.up
 unfold KK
 simp only
 rw[IN]
 by_cases c1:c.Now=1099511627776
 ·rw[QN c1];exact⟨1,_,_,rfl,λh=>by cases h⟩
 rw[QZ c1,QJ,Yg (by omega)]
 obtain⟨ds,hds,hn,hi,hdl⟩:=Qic u1 (by omega) (c.Now+1)
 rw[hds,Qc]
 have hc1:Ki n ⟨c.M,c.Items,c.Next,c.Now+1⟩:=⟨hc.g,hc.n1,⟨by show 0<=c.Now+1;omega,by show c.Now+1<=_;omega⟩,hc.up,hc.len,hc.f⟩
 have main:Qj (QQ (λst=>Yd ds st.1 st.2) (0,(⟨n,⟨c.M,c.Items,c.Next,c.Now+1⟩,k⟩:QB))) λq=>(∀r,q=.inl r->r.1≠0)/\(∀r,q=.inr r->∃M,r=⟨n,⟨M,ds.foldl dropL c.Items,c.Next,c.Now+1⟩,k⟩/\Ki n r.now):=by
  refine Qj.up ds.length (λst:Int×QB=>st.1) (λst:Int×QB=>∃M,Ki n ⟨M,(ds.take st.1.toNat).foldl dropL c.Items,c.Next,c.Now+1⟩/\st.2=⟨n,⟨M,(ds.take st.1.toNat).foldl dropL c.Items,c.Next,c.Now+1⟩,k⟩) rfl ⟨c.M,hc1,rfl⟩ (λi st hi2 hn2 hJ=>?_)
  obtain⟨j,v⟩:=st
  replace hi2:j=(i:Int):=hi2
  subst hi2
  obtain⟨M,D,hv⟩:=hJ
  replace hv:v=⟨n,⟨M,(ds.take i).foldl dropL c.Items,c.Next,c.Now+1⟩,k⟩:=hv
  replace D:Ki n ⟨M,(ds.take i).foldl dropL c.Items,c.Next,c.Now+1⟩:=D
  subst hv
  show Qj (Yd ds i ⟨n,⟨M,(ds.take i).foldl dropL c.Items,c.Next,c.Now+1⟩,k⟩) _
  unfold Yd
  refine T1 (λhlt=>?_) (λhlt=>T2 (Qu ⟨λr e=>(by cases e),λr e=>?_⟩))
  ·simp only[QM]at hlt
   have i1:i<ds.length:=by omega
   have hx:=QR i1
   obtain⟨x,x1,x2,_⟩:=(hi ds[i]).1 (XW i1)
   have x3:x∈(ds.take i).foldl dropL c.Items:=TU.2 ⟨x1,λhm=>by
    rw[x2]at hm
    obtain⟨j,hj,e⟩:=BX.1 hm
    rw[KS]at hj
    rw[List.getElem_take]at e
    exact absurd e ((List.pairwise_iff_getElem.1 (List.nodup_iff_pairwise_ne.1 hn)) j i (by omega) i1 (by omega))⟩
   obtain⟨p,y,f1,f2,f3⟩:=Qcd (Ll D) x3 x2
   simp only
   rw[XH,hx,Qc]
   show Qj ((Wt ((ds.take i).foldl dropL c.Items) ds[i]).bind _) _
   rw[f1,Qc,XH,f2,Qc]
   obtain⟨m1,m2⟩:=D.f y (XU f2)
   obtain⟨e,v,hv,hv0⟩:=Qcg h D k (p:=y) m1
   rw[hv,Qc]
   refine T1 (λhz=>T2 (Qu ⟨λr e=>by cases e;simpa using hz,λr e=>by cases e⟩)) (λhz=>?_)
   simp only[JZ]at hz
   obtain⟨M',g1,g2,rfl⟩:=hv0 hz
   have e1:(ds.take (i+1)).foldl dropL c.Items=dropL ((ds.take i).foldl dropL c.Items) y.Id:=by
    rw[AQ,hx,List.foldl_append,f3];rfl
   refine T2 (QP ⟨i1,QE i1 (by omega),?_⟩)
   rw[QE i1 (by omega)]
   refine⟨M',?_,?_⟩
   ·show Ki n ⟨M',(ds.take (i+1)).foldl dropL c.Items,c.Next,c.Now+1⟩
    rw[e1];exact D.drop g2 _
   show(⟨n,_,k⟩:QB)=⟨n,⟨M',(ds.take (i+1)).foldl dropL c.Items,c.Next,c.Now+1⟩,k⟩
   rw[e1]
  simp only[Xo]at hlt
  have:ds.take i=ds:=UB (by omega)
  rw[this]at D e
  cases e
  exact⟨M,rfl,D⟩
 obtain⟨q,q1,q2,q3⟩:=main
 rw[q1,Qc]
 rcases q with r | r
 ·have:=q2 r rfl
  exact⟨r.1,_,_,rfl,λh=>absurd h this⟩
 obtain⟨M,rfl,D⟩:=q3 r rfl
 exact⟨0,_,_,rfl,λ_=>⟨D,.tick ds M hd hn (λd hd=>by obtain⟨x,h1,h2,_⟩:=(hi d).1 hd;exact⟨x,h1,h2⟩) hds⟩⟩
def Qcy {n:Ql}{c:QT}(H:EOk n)(hc:Ki n c)(k:Xt)(hk:Yu n k.Mode):∃c' a,YH n c k=some (c',a)/\Ki n c'/\((a.Err≠0/\c'=c/\a.Id=0/\a.Closed=[])\/Eff n c k c' a)/\(2<=k.Do->k.Do<=5->(∀y∈c.Items,y.Id≠k.Id)->0<k.Id->k.Id<c.Next->a.Err=12):=by
 have h:=H.h
 have hL:=ND (hc.lens h)
 have hR:=TS h hc
 unfold YH
 rw[hL,Qc]
 unfold GA WN
 simp only[IN]
 have ins:k.Do≠1->k.Do≠5->∃c' a,HY n c c k ()=some (c',a)/\Ki n c'/\((a.Err≠0/\c'=c/\a.Id=0/\a.Closed=[])\/Eff n c k c' a)/\(2<=k.Do->k.Do<=5->(∀y∈c.Items,y.Id≠k.Id)->0<k.Id->k.Id<c.Next->a.Err=12):=λhd hd5=>by
  obtain⟨e,a,v,h1,h2,h3⟩:=Qiw h hc k hd hd5
  unfold HY
  rw[hR,Qc,show(!true)=false from rfl,QJ,h1,Qc,HE]
  by_cases D:e=0
  ·rw[QN D]
   obtain⟨g1,g2⟩:=h2 D
   refine⟨_,_,rfl,g1,.inr g2,λ_ _ x1 x2 x3=>?_⟩
   have:=h3 x1 x2 x3
   omega
  simp only[QZ D]
  rw[show(!false)=true from rfl,XK,hL]
  exact⟨c,_,rfl,hc,.inl ⟨D,rfl,rfl,rfl⟩,λ_ _=>h3⟩
 by_cases d1:k.Do=1
 ·rw[QN d1]
  show ∃c' a,EY n c c k ()=_/\_
  obtain⟨e,a,v,h1,h2⟩:=Qkx H hc k hk d1
  unfold EY
  rw[hR,Qc,show(!true)=false from rfl,QJ,h1,Qc,HE]
  by_cases D:e=0
  ·rw[QN D]
   obtain⟨g1,g2⟩:=h2 D
   exact⟨_,_,rfl,g1,.inr g2,λhh=>absurd hh (by omega)⟩
  simp only[QZ D]
  rw[show(!false)=true from rfl,XK,hL]
  exact⟨c,_,rfl,hc,.inl ⟨D,rfl,rfl,rfl⟩,λhh=>absurd hh (by omega)⟩
 rw[QZ d1,QJ]
 by_cases d2:k.Do=2
 ·rw[QN d2];exact ins d1 (by omega)
 rw[QZ d2,QJ]
 by_cases d3:k.Do=3
 ·rw[QN d3];exact ins d1 (by omega)
 rw[QZ d3,QJ]
 by_cases d4:k.Do=4
 ·rw[QN d4];exact ins d1 (by omega)
 rw[QZ d4,QJ]
 by_cases d5:k.Do=5
 ·rw[QN d5]
  show ∃c' a,EZ n c c k ()=_/\_
  obtain⟨e,a,v,h1,h2,h3⟩:=Qkw h hc k d5
  unfold EZ
  rw[hR,Qc,show(!true)=false from rfl,QJ,h1,Qc,HE]
  by_cases D:e=0
  ·rw[QN D]
   obtain⟨g1,g2⟩:=h2 D
   refine⟨_,_,rfl,g1,.inr g2,λ_ _ x1 x2 x3=>?_⟩
   have:=h3 x1 x2 x3
   omega
  simp only[QZ D]
  rw[show(!false)=true from rfl,XK,hL]
  exact⟨c,_,rfl,hc,.inl ⟨D,rfl,rfl,rfl⟩,λ_ _=>h3⟩
 rw[QZ d5,QJ]
 by_cases d6:k.Do=6
 ·rw[QN d6]
  show ∃c' a,Ua n c c k ()=_/\_
  obtain⟨e,a,v,h1,h2⟩:=Ql6 h hc k d6
  unfold Ua
  rw[hR,Qc,show(!true)=false from rfl,QJ,h1,Qc,HE]
  by_cases D:e=0
  ·rw[QN D]
   obtain⟨g1,g2⟩:=h2 D
   exact⟨_,_,rfl,g1,.inr g2,λ_ hh=>absurd hh (by omega)⟩
  simp only[QZ D]
  rw[show(!false)=true from rfl,XK,hL]
  exact⟨c,_,rfl,hc,.inl ⟨D,rfl,rfl,rfl⟩,λ_ hh=>absurd hh (by omega)⟩
 rw[QZ d6,QJ]
 show ∃c' a,HZ c ()=_/\_
 unfold HZ
 rw[hL]
 exact⟨c,_,rfl,hc,.inl ⟨by show(1:Int)≠0;omega,rfl,rfl,rfl⟩,λh1 h2=>by omega⟩
def QiL : Lv=some true:=by kernel_rfl
def QjC (n1:Ql)(k2:Int)(h:Kg n1 k2=some 0):∃t,idx n1.Tasks k2=some t/\WB t=some true:=by
 unfold Kg at h
 obtain⟨x5,_,h⟩:=Qp h
 rcases Xn h with⟨_,h⟩|⟨_,h⟩
 ·cases h
 obtain⟨x7,_,h⟩:=Qp h
 rcases Xn h with⟨c,h⟩|⟨_,h⟩
 ·simp only[Option.some.injEq]at h;rw[h]at c;cases c
 obtain⟨e9,he9,h⟩:=Qp h
 obtain⟨e10,he10,h⟩:=Qp h
 rw[he9]at he10;cases he10
 obtain⟨_,_,h⟩:=Qp h
 obtain⟨_,_,h⟩:=Qp h
 obtain⟨_,_,h⟩:=Qp h
 obtain⟨_,_,h⟩:=Qp h
 obtain⟨x15,D,h⟩:=Qp h
 have bad:∀a b:Int,(a=-1->b≠0)->(a≠-1->a≠0)->x15=(a,b)->False:=λa b ha hb e=>by
  subst e
  simp only at h
  rcases Xn h with⟨c,h⟩|⟨c,h⟩
  ·simp only[beq_iff_eq]at c;simp only[Option.some.injEq]at h;exact ha c h
  simp only[beq_eq_false_iff_ne]at c;simp only[Option.some.injEq]at h;exact hb c h
 have ne:∀{x:Int},(x==0)=false->x≠0:=λ{x} h=>by simpa using h
 unfold Gb at D
 obtain⟨x20,_,D⟩:=Qp D
 rcases Xn D with⟨_,D⟩|⟨_,D⟩
 ·exact(bad _ _ (λh=>absurd h (by decide)) (λ_=>by decide) (Option.some.inj D).symm).elim
 obtain⟨x22,_,D⟩:=Qp D
 rcases Xn D with⟨_,D⟩|⟨_,D⟩
 ·exact(bad _ _ (λh=>absurd h (by decide)) (λ_=>by decide) (Option.some.inj D).symm).elim
 obtain⟨x24,h24,D⟩:=Qp D
 rcases Xn D with⟨_,D⟩|⟨c,D⟩
 ·exact(bad _ _ (λh=>absurd h (by decide)) (λ_=>by decide) (Option.some.inj D).symm).elim
 obtain⟨x26,h26,D⟩:=Qp D
 unfold Ay at h26
 obtain⟨y,_,h26⟩:=Qp h26
 rw[<-Option.some.inj h26]at D
 rcases Xn D with⟨c,D⟩|⟨_,D⟩
 ·exact(bad _ _ (λ_=>ne (by simpa using c)) (λh=>absurd rfl h) (Option.some.inj D).symm).elim
 obtain⟨x28,_,D⟩:=Qp D
 rcases Xn D with⟨_,D⟩|⟨_,D⟩
 ·exact(bad _ _ (λh=>absurd h (by decide)) (λ_=>by decide) (Option.some.inj D).symm).elim
 obtain⟨x30,_,D⟩:=Qp D
 rcases Xn D with⟨_,D⟩|⟨_,D⟩
 ·exact(bad _ _ (λh=>absurd h (by decide)) (λ_=>by decide) (Option.some.inj D).symm).elim
 obtain⟨x32,h32,D⟩:=Qp D
 unfold GE at h32
 obtain⟨y2,_,h32⟩:=Qp h32
 rw[<-Option.some.inj h32]at D
 rcases Xn D with⟨c,D⟩|⟨_,D⟩
 ·exact(bad _ _ (λ_=>ne (by simpa using c)) (λh=>absurd rfl h) (Option.some.inj D).symm).elim
 obtain⟨x34,h34,D⟩:=Qp D
 unfold GF at h34
 obtain⟨y3,_,h34⟩:=Qp h34
 rw[<-Option.some.inj h34]at D
 rcases Xn D with⟨c,D⟩|⟨_,D⟩
 ·exact(bad _ _ (λ_=>ne (by simpa using c)) (λh=>absurd rfl h) (Option.some.inj D).symm).elim
 obtain⟨x36,h36,D⟩:=Qp D
 unfold GG at h36
 obtain⟨y4,_,h36⟩:=Qp h36
 rw[<-Option.some.inj h36]at D
 rcases Xn D with⟨c,D⟩|⟨_,D⟩
 ·exact(bad _ _ (λ_=>ne (by simpa using c)) (λh=>absurd rfl h) (Option.some.inj D).symm).elim
 obtain⟨x38,h38,D⟩:=Qp D
 rcases Xn D with⟨_,D⟩|⟨c,D⟩
 ·exact(bad _ _ (λh=>absurd h (by decide)) (λ_=>by decide) (Option.some.inj D).symm).elim
 unfold AA at h38
 obtain⟨z,hz,h38⟩:=Qp h38
 cases h38
 refine⟨e9,he9,?_⟩
 rw[hz]
 simpa using c
def Qch (m:Int×Int×Int):Prop:=(m.1=0/\m.2.1=0/\m.2.2=0)\/(1<=m.1/\m.1<=m.2.1/\m.2.1<=16/\1<=m.2.2/\m.2.2<=m.2.1)
def Qid {t:QS}(h:WB t=some true):(0<=t.After/\t.After<=65536)/\Qch t.Many:=by
 unfold WB Ma at h
 obtain⟨x,y,h⟩:=Qp h
 cases h
 unfold LZ at y
 obtain⟨_,_,y⟩:=Qp y
 rcases Xn y with⟨_,y⟩|⟨_,y⟩
 case inr=>cases y
 obtain⟨_,_,y⟩:=Qp y
 rcases Xn y with⟨_,y⟩|⟨_,y⟩
 case inr=>cases y
 rcases Xn y with⟨D,y⟩|⟨_,y⟩
 case inr=>cases y
 rcases Xn y with⟨c2,y⟩|⟨_,y⟩
 case inr=>cases y
 have y:=Option.some.inj y
 simp only[KR,QL,QM,beq_iff_eq]at y D c2
 exact⟨⟨D,c2⟩,y⟩
def Qky (n1:Ql)(h:Xm n1){p:GM}(y:EV n1=some (0,p)):∀t∈n1.Tasks,WB t=some true:=by
 unfold EV at y
 obtain⟨x6,_,y⟩:=Qp y
 rcases Xn y with⟨c,y⟩|⟨_,y⟩
 ·simp only[Option.some.injEq,Prod.mk.injEq]at y;rw[y.1]at c;cases c
 obtain⟨x8,_,y⟩:=Qp y
 rcases Xn y with⟨c,y⟩|⟨_,y⟩
 ·simp only[Option.some.injEq,Prod.mk.injEq]at y;rw[y.1]at c;cases c
 obtain⟨x10,_,y⟩:=Qp y
 rcases Xn y with⟨c,y⟩|⟨_,y⟩
 ·simp only[Option.some.injEq,Prod.mk.injEq]at y;rw[y.1]at c;cases c
 obtain⟨x12,D,y⟩:=Qp y
 rcases Xn y with⟨c,y⟩|⟨c,y⟩
 ·simp only[Option.some.injEq,Prod.mk.injEq]at y;rw[y.1]at c;cases c
 simp only[JZ]at c
 obtain⟨r,hr,hr2⟩:=Qdk n1.Tasks n1 h h.2.2.1
 rw[D]at hr;cases hr
 intro t ht
 obtain⟨j,hj,rfl⟩:=BX.1 ht
 obtain⟨t,h1,h2⟩:=QjC n1 j (hr2 c j hj)
 rw[XH,QR hj]at h1
 cases h1
 exact h2
def Qcz (n:Ql):Prop:=n.Places.length*48<=140737488351232/\∀p∈n.Places,p.First.length*16<=140737488351232
def Qkz {n:Ql}(hr:Qcz n):Qj (Ul n) λm=>m.length=n.Places.length/\∀b∈m,b.length<=8796093022208:=by
 obtain⟨hp,hf⟩:=hr
 unfold Ul
 refine T0 (Qj.up n.Places.length (λst=>st.1) (λst=>(st.2.length:Int)=st.1/\∀b∈st.2,b.length<=8796093022208) (Q:=λm:L_ Bag=>m.length=n.Places.length/\∀b∈m,b.length<=8796093022208) rfl ⟨rfl,λb h=>by cases h⟩ (λi st hi hn hJ=>?_)) (λq hq=>T2 hq)
 obtain⟨x,l⟩:=st
 replace hi:x=(i:Int):=hi
 subst hi
 obtain⟨j1,j2⟩:(l.length:Int)=(i:Int)/\∀b∈l,b.length<=8796093022208:=hJ
 show Qj (MG n i l) _
 unfold MG
 refine T1 (λhc=>?_) (λhc=>T2 (Qu ?_))
 ·simp only[QM]at hc
  have i1:i<n.Places.length:=by omega
  have hpl:=hf _ (XW i1)
  rw[XH,QR i1,Qc]
  have hw:Qq ((i:Int)+1)=((i+1:Nat):Int):=QE i1 (by unfold maxLen;omega:n.Places.length<=maxLen)
  have k1:∀b:Bag,b.length<=8796093022208->Qj (GN l i b) λo=>(∀D,o=.inl D->i<n.Places.length/\D.1=((i+1:Nat):Int)/\(D.2.length:Int)=D.1/\∀b∈D.2,b.length<=8796093022208)/\∀r:L_ Bag,o=.inr r->r.length=n.Places.length/\∀b∈r,b.length<=8796093022208:=λb hb=>by
   unfold GN
   refine T0 (T5 (by simp;omega)) λ_ _=>?_
   refine T2 (QP (ix:=λst:Int×L_ Bag=>st.1) (J:=λst:Int×L_ Bag=>(st.2.length:Int)=st.1/\∀b∈st.2,b.length<=8796093022208) ⟨i1,hw,by show((l++[b]).length:Int)=Qq _;rw[hw];simp;omega,λb' y=>?_⟩)
   rcases Ep.1 y with y | y
   ·exact j2 b' y
   simp at y;subst y;exact hb
  unfold YN
  rw[FN (by simp;omega)]
  simp only[Qc,PT]
  refine T1 (λhc2=>?_) λ_=>k1 _ (by omega)
  rw[show NO ([0]:LI_)=some [(0,1)]from Qfu 0,Qc]
  rcases BO (n.Places[i]).First [(0,1)] (by simp;omega)with⟨_,e⟩|⟨_,_,_,e⟩|⟨_,_,r,e,h1,_,h2⟩
  ·rw[e,Qc];exact k1 _ (by omega)
  ·rw[e,Qc];exact k1 _ (by omega)
  rw[e,Qc];exact k1 _ (by simp at h2;show r.length<=8796093022208;omega)
 simp only[Xo]at hc
 exact⟨by show l.length=_;omega,j2⟩
def Qlz (n1:Ql)(m:L_ QBg)(h:Xm n1)(hm:Xc (Xc λ_=>True) m)(y:BL n1 m=some true):Ya n1/\UX n1 m/\∀t∈n1.Tasks,WB t=some true:=by
 obtain⟨r,hr,hr2⟩:=Qkg n1 m h hm
 rw[y]at hr;cases hr
 obtain⟨h1,h2,h3⟩:=hr2 rfl
 refine⟨h1,⟨h2,h3⟩,?_⟩
 unfold BL at y
 obtain⟨_,_,y⟩:=Qp y
 obtain⟨_,_,y⟩:=Qp y
 rcases Xn y with⟨_,y⟩|⟨_,y⟩
 ·cases y
 obtain⟨x11,h11,y⟩:=Qp y
 obtain⟨x12,D,y⟩:=Qp y
 unfold Nu at y
 rcases Xn y with⟨_,y⟩|⟨c,y⟩
 ·cases y
 unfold Ns at D
 rcases Xn D with⟨_,D⟩|⟨c2,_⟩
 ·cases D;cases c
 simp only[JZ]at c2
 obtain⟨a,b⟩:=x11
 simp only at c2
 subst c2
 exact Qky n1 h h11
structure QmP (n:Ql) (m:List Bag):Prop where
 e:EOk n
 c:Ki n ⟨m,[],1,0⟩
 k:∀t∈n.Tasks,Qch t.Many
 t:n.Tasks.length<=6
 p:m.length<=12
def Ql7 : Vz []=some true:=by kernel_rfl
def Qie {n:Ql}(hn:Xm n){m:L_ Bag}(hm:Ul n=some m)(hl:Xc (Xc λ_=>True) m):Qj (Hv n ⟨m,[],1,0⟩) λr=>r=true->QmP n m:=by
 unfold Hv
 simp only
 rw[Ql7,Qc]
 refine T1 (λ_=>T2 λh=>by cases h) λD=>?_
 have hp:m.length<=12:=by
  simp only[KA,Xo]at D
  omega
 rw[hm,Qc]
 refine T0 (Qkg n m hn hl).self λf hf=>?_
 refine T1 (λ_=>T2 λh=>by cases h) λhc2=>?_
 simp only[KA,AP,Xo]at hc2
 obtain⟨c1,c2⟩:=hc2
 subst c1
 obtain⟨h1,h2,h3⟩:=Qlz n m hn hl hf.1
 refine T0 (P:=λq=>q=.inr ()->∀t∈n.Tasks,t.Join≠3) ?_ λq hq=>?_
 ·refine Qj.up n.Tasks.length (λst=>st) (λst=>∀(j:Nat) t,(j:Int)<st->n.Tasks[j]? = some t->t.Join≠3) rfl (λj t hj=>by omega) (λi st hi hn2 hJ=>?_)
  replace hi:st=(i:Int):=hi
  subst hi
  show Qj (Nw n i) _
  unfold Nw
  refine T1 (λD=>?_) (λD=>T2 (Qu λ_ t y=>?_))
  ·simp only[QM]at D
   have i1:i<n.Tasks.length:=by omega
   have hx:=QR i1
   rw[XH,hx,Qc]
   refine T1 (λ_=>T2 (Qu λe=>by cases e)) λhj=>T2 (QP ⟨i1,QE i1 hn.2.2.1.1,λj t hj2 y=>?_⟩)
   rw[QE i1 hn.2.2.1.1]at hj2
   by_cases cj:j=i
   ·subst cj;rw[hx]at y;cases y;simpa using hj
   exact hJ j t (by omega) y
  simp only[Xo]at D
  obtain⟨j,hj,rfl⟩:=BX.1 y
  exact hJ j _ (by omega) (QR hj)
 rcases q with q | q
 ·exact T2 λh=>by cases h
 show Qj (FM _) _
 unfold FM
 simp only
 rw[Qg6 h1 h2.1 (by omega),Qc]
 refine T2 λ_=>⟨⟨h1,λt y=>(Qid (h3 t y)).1,hq rfl⟩,⟨h2,⟨by show(1:Int)<=1;omega,by show(1:Int)<=_;omega⟩,⟨by show(0:Int)<=0;omega,by show(0:Int)<=_;omega⟩,rfl,by show 0<=64;omega,λx hx=>by cases hx⟩,λt y=>(Qid (h3 t y)).2,by omega,hp⟩
def QiM {n:Ql}(hn:Xm n)(hr:Qcz n):∃m,Ul n=some m/\Bk n=some ⟨m,[],1,0⟩/\Xc (Xc λ_=>True) m:=by
 obtain⟨m,h,h1,y⟩:=Qkz hr
 refine⟨m,h,by unfold Bk;rw[h];rfl,⟨by have:=hn.2.1.1;omega,λb D=>⟨by have:=y b D;unfold maxLen;omega,λ_ _=>trivial⟩⟩⟩
def Ql8 (n:Ql)(l:L_ Xt)(hl:l.length<=maxLen):Qj (LE l) λr=>r=true->l.length<=24/\∀k∈l,Yu n k.Mode:=by
 unfold LE
 refine T1 (λ_=>T2 λh=>by cases h) λy=>?_
 simp only[Xo]at y
 refine T0 (P:=λq=>q=.inr ()->∀k∈l,Yu n k.Mode) ?_ λq hq=>?_
 ·refine Qj.up l.length (λst=>st) (λst=>∀(j:Nat) k,(j:Int)<st->l[j]? = some k->Yu n k.Mode) rfl (λj t D=>by omega) (λi st hi hn2 hJ=>?_)
  replace hi:st=(i:Int):=hi
  subst hi
  show Qj (Mb l i) _
  unfold Mb
  refine T1 (λy=>?_) (λy=>T2 (Qu λ_ k hk=>?_))
  ·simp only[QM]at y
   have i1:i<l.length:=by omega
   have hx:=QR i1
   unfold Sq Sr
   rw[XH,hx]
   simp only[Qc]
   have go:∀b:Bool,(b=false->Yu n l[i].Mode)->Qj (bif b then some (Sum.inr (Sum.inl ()))else some (.inl (Qq ((i:Int)+1)))) λo=>(∀s',o=.inl s'->i<l.length/\s'=((i+1:Nat):Int)/\∀(j:Nat) k,(j:Int)<s'->l[j]? = some k->Yu n k.Mode)/\∀r:Unit⊕Unit,o=.inr r->r=.inr ()->∀k∈l,Yu n k.Mode:=λb hb=>by
    refine T1 (λ_=>T2 (Qu λe=>by cases e)) λD=>T2 (QP (ix:=λst:Int=>st) (J:=λst:Int=>∀(j:Nat) k,(j:Int)<st->l[j]? = some k->Yu n k.Mode) ⟨i1,QE i1 hl,λj t hj2 ht=>?_⟩)
    rw[QE i1 hl]at hj2
    by_cases cj:j=i
    ·subst cj;rw[hx]at ht;cases ht;exact hb D
    exact hJ j t (by omega) ht
   by_cases c1:20<(l[i].Mode.Vars.length:Int)
   ·rw[QN c1];exact go true λh=>by cases h
   rw[QZ c1,QJ]
   by_cases c2:20<(l[i].Mode.Ins.length:Int)
   ·rw[QN c2];exact go true λh=>by cases h
   rw[QZ c2,QJ,Qc]
   exact go _ λh=>by simp only[Xo]at h;unfold Yu;omega
  simp only[Xo]at y
  obtain⟨j,D,rfl⟩:=BX.1 hk
  exact hJ j _ (by omega) (QR D)
 rcases q with q | q
 ·exact T2 λh=>by cases h
 exact T2 λ_=>⟨by omega,hq rfl⟩
def QgG : ∀{ds:LI_} {l:L_ Qw},Up l->ds.Nodup->(∀d∈ds,∃x∈l,x.Id=d)->(ds.foldl dropL l).length+ds.length=l.length
 | [],l,_,_,_=>rfl
 | d::ds,l,hu,h,hi=>by
  rw[Ft]at h
  obtain⟨x,hx,rfl⟩:=hi d YF
  have h1:=Ou hu hx
  have h2:=QgG (ds:=ds) (hu.drop x.Id) h.2 λe D=>by
   obtain⟨y,hy,rfl⟩:=hi e (Jz _ D)
   exact⟨y,Cq.2 ⟨hy,λe2=>h.1 (by rw[<-e2];exact D)⟩,rfl⟩
  rw[List.foldl_cons,DG]
  omega
def Qgl (c:QT)(l:LI_):Prop:=∀d∈l,0<d/\d<c.Next/\∀x∈c.Items,x.Id≠d
def QkA {n:Ql}{c c':QT}{k:Xt}{a:Qz}{L:LI_}{g:Int}(hc:Ki n c)(hE:Eff n c k c' a)(hL:Qgl c L)(hg:c.Next=g+1)(hi:(c.Items.length:Int)=g-L.length):
  a.Err=0/\Qgl c' (L++a.Closed)/\c.Now<=c'.Now/\((k.Do=1/\a.Id=c.Next/\(∃x∈c'.Items,x.Id=a.Id)/\c'.Next=g+2/\(c'.Items.length:Int)=g+1-(L++a.Closed).length)\/(k.Do≠1/\c'.Next=g+1/\(c'.Items.length:Int)=g-(L++a.Closed).length)):=by
 obtain⟨u1,u2⟩:=Uc.1 hc.up
 cases hE with
 | start x e need M h hx hm he hu hN hT=>
  have hno:∀y∈c.Items,y.Id≠x.Id:=λy D=>by have:=(u2 y D).2.1;omega
  refine⟨rfl,λd h=>?_,Int.le_refl _,.inl ⟨h,hx,⟨x,Ro.2 (.inl rfl),rfl⟩,by show c.Next+1=_;omega,?_⟩⟩
  ·rw[Lm]at h
   obtain⟨h1,h2,h3⟩:=hL d h
   refine⟨h1,by show d<c.Next+1;omega,λy D=>?_⟩
   rcases Ro.1 D with rfl | ⟨D,_⟩
   ·omega
   exact h3 y D
  show((Fm c.Items x).length:Int)=g+1-((L++[]).length:Int)
  rw[Zv,Qce hno,Lm]
  push_cast
  omega
 | keep x y h D hx=>
  refine⟨rfl,λd h=>?_,Int.le_refl _,.inr ⟨h,hg,?_⟩⟩
  ·rw[Lm]at h
   obtain⟨h1,h2,h3⟩:=hL d h
   refine⟨h1,h2,λz hz=>?_⟩
   rcases Ro.1 hz with rfl | ⟨hz,_⟩
   ·rw[hx];exact h3 y D
   exact h3 z hz
  show((Fm c.Items x).length:Int)=g-((L++[]).length:Int)
  have:=Ou u1 D
  rw[Zv,hx,Lm]
  push_cast
  omega
 | shut y M h D hB hk=>
  refine⟨rfl,λd h=>?_,Int.le_refl _,.inr ⟨h,hg,?_⟩⟩
  ·rcases Ep.1 h with h | h
   ·obtain⟨h1,h2,h3⟩:=hL d h
    exact⟨h1,h2,λz hz=>h3 z (Cq.1 hz).1⟩
   rw[HH]at h
   subst h
   exact⟨(u2 y D).1,(u2 y D).2.1,λz hz=>(Cq.1 hz).2⟩
  show((dropL c.Items y.Id).length:Int)=g-((L++[y.Id]).length:Int)
  have:=Ou u1 D
  rw[JT,Eo]
  push_cast
  omega
 | tick ds M h hn hI hD=>
  refine⟨rfl,λd h=>?_,by show c.Now<=c.Now+1;omega,.inr ⟨by omega,hg,?_⟩⟩
  ·rcases Ep.1 h with h | h
   ·obtain⟨h1,h2,h3⟩:=hL d h
    exact⟨h1,h2,λz hz=>h3 z (TU.1 hz).1⟩
   obtain⟨x,hx,rfl⟩:=hI d h
   exact⟨(u2 x hx).1,(u2 x hx).2.1,λz hz e=>(TU.1 hz).2 (by rw[e];exact h)⟩
  show((ds.foldl dropL c.Items).length:Int)=g-((L++ds).length:Int)
  have:=QgG u1 hn hI
  rw[JT]
  push_cast
  omega
def QjD {a m:L_ Bag}(ha:Xc (Xc λ_=>True) a)(hm:Xc (Xc λ_=>True) m)(hw:Ee a m=some true):∀(j:Nat) x y,a[j]? = some x->m[j]? = some y->Rt x/\Rt y/\∀k,QV x k<=QV y k:=by
 unfold Ee XT at hw
 obtain⟨x,h,hw⟩:=Qp hw
 cases hw
 rcases Xn h with⟨_,h⟩|⟨c,h⟩
 ·cases h
 have hl:a.length=m.length:=by simp at c;omega
 have main:Qj (QQ (λst=>Xi a m st) 0) λq=>q=.inr ()->∀(j:Nat) x y,a[j]? = some x->m[j]? = some y->Rt x/\Rt y/\∀k,QV x k<=QV y k:=by
  refine Qj.up a.length (λst=>st) (λst=>∀(j:Nat) x y,(j:Int)<st->a[j]? = some x->m[j]? = some y->Rt x/\Rt y/\∀k,QV x k<=QV y k) rfl (λj x y hj=>by omega) (λi st hi hn hJ=>?_)
  replace hi:st=(i:Int):=hi
  subst hi
  show Qj (Xi a m i) _
  unfold Xi
  refine T1 (λhc=>?_) (λhc=>T2 (Qu λ_ j x y h=>?_))
  ·simp only[QM]at hc
   have D:i<a.length:=by omega
   have i2:i<m.length:=by omega
   rw[XH,EO D,Qc,XH,EO i2,Qc]
   obtain⟨r,hr,hr2⟩:=TO a[i] m[i] (ha.2 _ (XW D)).1 (hm.2 _ (XW i2)).1
   rw[hr,Qc]
   refine T1 (λ_=>T2 (Qu λe=>by cases e)) λhb=>T2 (QP ⟨D,QE D ha.1,λj x y hj h hy=>?_⟩)
   rw[QE D ha.1]at hj
   by_cases cj:j=i
   ·subst cj
    rw[EO D]at h;cases h
    rw[EO i2]at hy;cases hy
    exact hr2.1 (by simpa using hb)
   exact hJ j x y (by omega) h hy
  simp only[Xo]at hc
  exact hJ j x y (by have:=(Xe.1 h).1;omega) h
 obtain⟨q,q1,q2⟩:=main
 rw[q1,Qc]at h
 rcases q with q | q
 ·cases h
 exact q2 rfl
def QlA {n:Ql}{m:L_ Bag}{o:Qk}(h:Ya n)(hg:UX n m)(ho:Yu n o)(hc:YY n m o=some 0):∃D t,YC n o=some (D,0)/\Yr m D=some (t,0)/\Dd n m o=some (t,0):=by
 have hm:=hg.1
 obtain⟨_,e,he,_,_,_,b,hb,_,ht,_⟩:=HC.1 ((HD h (hm.len h (by omega)) ho).1 hc)
 obtain⟨k1,k2,hbn,hbm,_⟩:=NB h hb
 rw[he]at k1;cases k1
 have hE:∃env,Gk n o.Task o.Vars=some (env,0)/\b.env=env:=by
  unfold Jk at hb
  obtain⟨⟨x1,x2⟩,hx,hb⟩:=Qp hb
  rcases Xn hb with⟨c,hb⟩|⟨c,hb⟩
  ·simp only[Option.some.injEq,Prod.mk.injEq]at hb
   simp only[hb.1]at c;cases c
  simp only[JZ]at c
  subst c
  rw[he,Qc]at hb
  simp only[Option.some.injEq,Prod.mk.injEq,true_and]at hb
  exact⟨x1,hx,by rw[<-hb]⟩
 obtain⟨env,hE,hbe⟩:=hE
 unfold XM at ht
 obtain⟨⟨D,y⟩,hT,ht⟩:=Qp ht
 rcases Xn ht with⟨c,ht⟩|⟨c,ht⟩
 ·simp only[Option.some.injEq]at ht;simp only[ht]at c;cases c
 simp only[JZ]at c
 subst c
 obtain⟨w,hw,ht⟩:=Qp ht
 rcases Xn ht with⟨c,ht⟩|⟨c,ht⟩
 ·cases ht
 have c:w=true:=by simpa using c
 subst c
 rw[hbm]at hw
 rw[hbn,hbe]at hT
 have hN:YC n o=some (D,0):=by
  unfold YC
  rw[hE,Qc,show((0:Int) != 0)=false from rfl,QJ,he,Qc]
  rw[hT];rfl
 obtain⟨hnd,_⟩:=CW (Oq n o h ho) hN rfl
 have hW:=QjD (hnd.len h (by omega)) (hm.len h (by omega)) hw
 obtain⟨⟨t,z⟩,j1,j2,j3⟩:=VL n m D 1024 20 h hm hnd (by omega)
 have hz:z=0:=j3 λj x y hx hy=>by
  obtain⟨r1,r2,r3⟩:=hW j y x hy hx
  have l1:=(Qav hm hx).2.2
  have l2:=(Qav hnd hy).2.2
  exact Qll (by omega) r2 r1 r3
 subst hz
 exact⟨D,t,hN,j1,Ql0 hc hN j1⟩
def QgH {n:Ql}{m t D:L_ Bag}{o:Qk}(h:Ya n)(hg:UX n m)(ho:Yu n o)(hN:YC n o=some (D,0))(hL:Yr m D=some (t,0))(ht:UX n t):KP n t o=some (m,0):=by
 obtain⟨hm,hl⟩:=hg
 obtain⟨ht,htl⟩:=ht
 have hpl:=h.pl
 have hm1:=hm.1
 obtain⟨hnd,hndl⟩:=CW (Oq n o h ho) hN rfl
 obtain⟨_,eL⟩:=(CW (VL n m D 1024 20 h hm hnd (by omega)) hL).1 rfl
 have parts:∀(j:Nat),j<n.Places.length->∃a u p,m[j]? = some a/\D[j]? = some u/\t[j]? = some p/\Rt a/\Rt u/\Rt p/\(∀k,QV p k=QV a k-QV u k)/\∀k,QV u k<=QV a k:=λj hj=>by
  obtain⟨a,ha,ha1,ha2⟩:=TQ hm hj
  obtain⟨u,hu,hu1,hu2⟩:=TQ hnd hj
  obtain⟨p,hp,hp2⟩:=eL j a u ha hu
  have q:=QiI (by omega) hp2
  exact⟨a,u,p,ha,hu,hp,ha1,hu1,q.2.2.1,q.2.2.2.2,q.2.2.2.1⟩
 obtain⟨⟨y,c2⟩,k1,k2,k3⟩:=SF n t D 1024 20 h ht hnd (by omega)
 have hc0:c2=0:=k3 λj p u hp hu=>by
  obtain⟨a,u',p',ha,hu',hp',a1,u1,p1,e1,e2⟩:=parts j (Qav ht hp).1
  have hp:t[j]? = some p:=hp
  have hu:D[j]? = some u:=hu
  rw[hp]at hp';cases hp'
  rw[hu]at hu';cases hu'
  have l1:=(Qav ht hp).2.2
  have l2:=(Qav hnd hu).2.2
  exact QlZ (by omega) p1 u1 λk=>by have:=e1 k;have:=a1.cnt k;omega
 subst hc0
 obtain⟨yl,eY⟩:=k2 rfl
 have yl:y.length=n.Places.length:=yl
 have hy:y=m:=by
  apply List.ext_getElem?
  intro j
  by_cases hj:j<n.Places.length
  ·obtain⟨a,u,p,ha,hu,hp,a1,u1,p1,e1,e2⟩:=parts j hj
   obtain⟨z,hz1,hz2⟩:=eY j p u hp hu
   have l1:=(Qav ht hp).2.2
   have l2:=(Qav hnd hu).2.2
   have q:=Qh1 (by omega) hz2
   have:z=a:=QmH q.2.2.1 a1 λk=>by rw[q.2.2.2 k,e1 k];omega
   subst this
   have hz1:y[j]? = some z:=hz1
   rw[hz1,ha]
  rw[List.getElem?_eq_none (by omega),List.getElem?_eq_none (by omega)]
 subst hy
 unfold KP
 rw[hN,Qc]
 simp only[show((0:Int) != 0)=false from rfl,QJ]
 rw[k1];rfl
def QgI {n:Ql}(H:EOk n){m:L_ Bag}(hg:UX n m){o:Qk}(ho:o∈UW n m)(b:Int):DZ n m o b=some 1:=by
 have h:=H.h
 have D:=hg.1.len h (by omega)
 have y:=Qaw h D (Mm.1 ho)
 have hc:=(HD h D y).2 (Mm.1 ho)
 obtain⟨t,ht,htm⟩:=OQ h D y hc
 unfold DZ
 rw[hc,Qc,show((0:Int) != 0)=false from rfl,QJ,ht,Qc,HE,QZ (H.j t htm)];rfl
def QgJ {n:Ql}(H:EOk n){c:QT}(hg:UX n c.M){y:Int}(h0:0<=y)(h1:y<=4294967296):Dt n c y=some ((UW n c.M).take y.toNat):=by
 have h:=H.h
 have hA:=Qlo n c.M y h (hg.1.len h (by omega)) h0 (by omega) (.inl h1)
 unfold Dt Pu
 rw[hA,Qc]
 have hlen:((UW n c.M).take y.toNat).length<=4294967296:=by rw[KS];omega
 have mx:(4294967296:Nat)<=maxLen:=by decide
 have D:∀o∈(UW n c.M).take y.toNat,o∈UW n c.M:=λo ho=>Ai ho
 revert hlen D
 generalize (UW n c.M).take y.toNat=L
 intro hlen D
 have main:Qj (QQ (λst:Bool×Int×L_ Qk×QBg=>Uw L n c.M 64 st.1 st.2.1 st.2.2.1 st.2.2.2) (true,0,([]:L_ Qk),([]:QBg))) λq=>q.2=L:=by
  refine Qj.up L.length (λst:Bool×Int×L_ Qk×QBg=>st.2.1) (λst:Bool×Int×L_ Qk×QBg=>st.2.2.1=L.take st.2.1.toNat/\∀k v,Xb st.2.2.2 k=some v->v=1) rfl ⟨rfl,λk v hk=>by simp[Xb]at hk⟩ (λi st hi hn hJ=>?_)
  obtain⟨b,x,l,mm⟩:=st
  replace hi:x=(i:Int):=hi
  subst hi
  obtain⟨j1,j2⟩:l=L.take i/\∀k v,Xb mm k=some v->v=1:=hJ
  subst j1
  show Qj (Uw L n c.M 64 b i (L.take i) mm) _
  unfold Uw
  refine T1 (λhc=>?_) (λhc=>T2 (Qu ?_))
  ·simp only[QM]at hc
   have i1:i<L.length:=by omega
   have hx:=QR i1
   rw[XH,hx,Qc]
   have k2:∀mm:QBg,Xb mm L[i].Task=some 1->(∀k v,Xb mm k=some v->v=1)->Qj (Uv L[i] (L.take i) i b mm) λo=>(∀s':Bool×Int×L_ Qk×QBg,o=.inl s'->i<L.length/\s'.2.1=((i+1:Nat):Int)/\s'.2.2.1=L.take s'.2.1.toNat/\∀k v,Xb s'.2.2.2 k=some v->v=1)/\∀r:Bool×L_ Qk,o=.inr r->r.2=L:=λmm h1 h2=>by
    unfold Uv Uu
    rw[h1,OR,show((1:Int)==1)=true from rfl,XK]
    refine T0 (T5 (by simp;omega)) λ_ _=>?_
    have hw:=QE (n:=L.length) i1 (by omega)
    refine T2 (QP (ix:=λst:Bool×Int×L_ Qk×QBg=>st.2.1) (J:=λst:Bool×Int×L_ Qk×QBg=>st.2.2.1=L.take st.2.1.toNat/\∀k v,Xb st.2.2.2 k=some v->v=1) ⟨i1,hw,?_,h2⟩)
    show L.take i++[L[i]]=L.take (Qq ((i:Int)+1)).toNat
    rw[hw,DE,AQ,hx];rfl
   refine T1 (λhc3=>?_) (λhc3=>?_)
   ·rw[QgI H hg (D _ (XW i1)),Qc]
    refine k2 _ (by rw[AB,if_pos rfl]) λk v hk=>?_
    rw[AB]at hk
    by_cases e:k=L[i].Task
    ·rw[if_pos e]at hk;cases hk;rfl
    rw[if_neg e]at hk;exact j2 k v hk
   have hs:(Xb mm L[i].Task).isSome=true:=by simpa using hc3
   obtain⟨v,hv⟩:=Option.isSome_iff_exists.1 hs
   have:=j2 _ _ hv
   subst this
   exact k2 mm hv j2
  simp only[Xo]at hc
  show L.take i=L
  exact UB (by omega)
 obtain⟨q,q1,q2⟩:=main
 rw[q1,Qc]
 show some q.2=_
 rw[q2]
def QlB {m:Int×Int×Int}(h:Qch m):∃b,BD m (max2 m.1 1)=some (0,b):=by
 obtain⟨a,b,c⟩:=m
 unfold Qch at h
 simp only at h
 have k3:∀(a b c k:Int),1<=a->a<=b->b<=16->1<=c->c<=b->a<=k->k<=b->∃r,Dl k (a,b,c)=some (0,r):=λa b c k h1 y D h4 h5 h6 h7=>by
  unfold Dl MX Au
  simp only[HF,Qc]
  rw[QZ (by omega),QN y,QN D,QN h4,QN h5,QN h6,QN h7]
  exact⟨_,rfl⟩
 unfold BD
 simp only[IN]
 rcases h with⟨rfl,rfl,rfl⟩|⟨h1,y,D,h4,h5⟩
 ·exact k3 1 1 1 _ (by omega) (by omega) (by omega) (by omega) (by omega) (by decide) (by decide)
 rw[QZ (by omega)]
 have hm:max2 a 1=a:=by unfold max2;split<;>omega
 simp only[Bool.false_and,QJ]
 rw[hm]
 exact k3 a b c a h1 y D h4 h5 (Int.le_refl _) y
def Qif {n:Ql}(H:EOk n){c:QT}(D:Ki n c){o:Qk}(ho:o∈UW n c.M)(hl:c.Items.length<64)(hx:c.Next<1099511627776){t:QS}(ht:idx n.Tasks o.Task=some t)(htm:t∈n.Tasks)(hmk:Qch t.Many):
  ∃b y M,YC n o=some (y,0)/\Yr c.M y=some (M,0)/\Yu n o/\
   YH n c ⟨1,0,o,max2 t.Many.1 1⟩=some (⟨M,Fm c.Items ⟨c.Next,o,b,if 0<t.After then c.Now+t.After else 0⟩,c.Next+1,c.Now⟩,⟨0,c.Next,[]⟩):=by
 have h:=H.h
 have hm:=D.g.1.len h (by omega)
 have hmo:=Qaw h hm (Mm.1 ho)
 have hC:=(HD h hm hmo).2 (Mm.1 ho)
 obtain⟨y,M,hN,hL,hT⟩:=QlA h D.g hmo hC
 obtain⟨b,hb⟩:=QlB hmk
 have n1:=D.n1
 have n2:=D.n2
 have hA:=H.a t htm
 refine⟨b,y,M,hN,hL,hmo,?_⟩
 have hF:∀u,TR (⟨c.Next,o,b,u⟩:Qw):=λu=>by have:=hmo;unfold Yu at this;unfold TR;simp only;omega
 have hS:Wo ⟨n,c,⟨1,0,o,max2 t.Many.1 1⟩⟩=some (0,⟨0,c.Next,[]⟩,⟨n,⟨M,Fm c.Items ⟨c.Next,o,b,if 0<t.After then c.Now+t.After else 0⟩,c.Next+1,c.Now⟩,⟨1,0,o,max2 t.Many.1 1⟩⟩):=by
  have k1:∀u,Jp ⟨n,c,⟨1,0,o,max2 t.Many.1 1⟩⟩ ⟨c.Next,o,b,u⟩=some (0,⟨0,c.Next,[]⟩,⟨n,⟨M,Fm c.Items ⟨c.Next,o,b,u⟩,c.Next+1,c.Now⟩,⟨1,0,o,max2 t.Many.1 1⟩⟩):=λu=>by
   unfold Jp
   simp only
   rw[hT,Qc,show((0:Int) != 0)=false from rfl,QJ,Qh5 (D.fit h) (hF u) (by omega) (Ll D),Yg (by omega)]
   rfl
  unfold Wo
  simp only
  rw[hC,Qc,show((0:Int) != 0)=false from rfl,QJ,QgI H D.g ho,Qc,show((1:Int) != 1)=false from rfl,QJ,ht,Qc,hb,Qc,show((0:Int) != 0)=false from rfl,QJ,QZ (by omega),QJ,IN,QZ (by omega),QJ]
  by_cases c5:0<t.After
  ·rw[QN c5,XK,Yg (by omega),if_pos c5];exact k1 _
  rw[QZ c5,QJ,if_neg c5];exact k1 _
 unfold YH
 rw[ND (D.lens h),Qc]
 unfold GA
 simp only
 rw[show((1:Int)==1)=true from rfl,XK]
 show EY n c c ⟨1,0,o,max2 t.Many.1 1⟩ ()=_
 unfold EY
 rw[TS h D,Qc,show(!true)=false from rfl,QJ,hS]
 rfl
def QiN {n:Ql}(H:EOk n){c:QT}(y:Ki n c){k:Xt}(hk:k.Do=6){a:Qz}{v:QB}(D:KK ⟨n,c,k⟩=some (0,a,v)):YH n c k=some (v.now,a):=by
 unfold YH
 rw[ND (y.lens H.h),Qc]
 unfold GA
 simp only
 rw[hk]
 show Ua n c c k ()=_
 unfold Ua
 rw[TS H.h y,Qc,show(!true)=false from rfl,QJ,D]
 rfl
def QkB {n:Ql}(H:EOk n){c:QT}(hc:Ki n c){k:Xt}(hk:k.Do=6)(hn:c.Now<1099511627776)(hd:∀x∈c.Items,¬(0<x.Until/\x.Until<=c.Now+1)):YH n c k=some (⟨c.M,c.Items,c.Next,c.Now+1⟩,⟨0,0,[]⟩):=by
 obtain⟨u1,u2⟩:=Uc.1 hc.up
 have hl:=hc.len
 have n2:=hc.n2
 obtain⟨ds,hds,_,hi,_⟩:=Qic u1 (by omega) (c.Now+1)
 have:ds=[]:=by
  cases ds with
  | nil=>rfl
  | cons d ds=>
   obtain⟨x,hx,_,h1,h2⟩:=(hi d).1 YF
   exact absurd ⟨h1,h2⟩ (hd x hx)
 subst this
 refine QiN H hc hk (v:=⟨n,⟨c.M,c.Items,c.Next,c.Now+1⟩,k⟩) ?_
 unfold KK
 simp only
 rw[IN,QZ (by omega),QJ,Yg (by omega),hds,Qc]
 have D:Qj (QQ (λst=>Yd [] st.1 st.2) (0,(⟨n,⟨c.M,c.Items,c.Next,c.Now+1⟩,k⟩:QB))) λq=>q=.inr ⟨n,⟨c.M,c.Items,c.Next,c.Now+1⟩,k⟩:=by
  refine Qj.up 0 (λst:Int×QB=>st.1) (λst:Int×QB=>st.2=⟨n,⟨c.M,c.Items,c.Next,c.Now+1⟩,k⟩) rfl rfl (λi st h hn2 hJ=>?_)
  obtain⟨j,v⟩:=st
  replace h:j=(i:Int):=h
  replace hJ:v=_:=hJ
  subst h hJ
  show Qj (Yd [] i _) _
  unfold Yd
  refine T1 (λy=>?_) (λy=>T2 (Qu rfl))
  simp only[QM,HG]at y
  omega
 obtain⟨q,q1,rfl⟩:=D
 rw[q1];rfl
def QlC {n:Ql}(H:EOk n){c:QT}(D:Ki n c){k:Xt}(hk:k.Do=6)(hn:c.Now<1099511627776){x:Qw}(hx:c.Items=[x])(h0:0<x.Until)(h1:x.Until<=c.Now+1){M:L_ Bag}(hB:KP n c.M x.Mode=some (M,0)):YH n c k=some (⟨M,[],c.Next,c.Now+1⟩,⟨0,0,[x.Id]⟩):=by
 obtain⟨u1,u2⟩:=Uc.1 D.up
 have hl:=D.len
 have n2:=D.n2
 have mx:(80:Nat)<=maxLen:=by decide
 obtain⟨ds,hds,hnd,hi,hle⟩:=Qic u1 (by omega) (c.Now+1)
 have hds1:ds=[x.Id]:=by
  have hm:x.Id∈ds:=(hi _).2 ⟨x,by rw[hx];exact HH.2 rfl,rfl,h0,h1⟩
  rw[hx,Eo]at hle
  match ds,hm,hle with
  | [d],hm,_=>rw[HH.1 hm]
 subst hds1
 refine QiN H D hk (v:=⟨n,⟨M,[],c.Next,c.Now+1⟩,k⟩) ?_
 unfold KK
 simp only
 rw[IN,QZ (by omega),QJ,Yg (by omega),hds,Qc]
 have main:Qj (QQ (λst=>Yd [x.Id] st.1 st.2) (0,(⟨n,⟨c.M,c.Items,c.Next,c.Now+1⟩,k⟩:QB))) λq=>q=.inr ⟨n,⟨M,[],c.Next,c.Now+1⟩,k⟩:=by
  refine Qj.up 1 (λst:Int×QB=>st.1) (λst:Int×QB=>(st.1=0->st.2=⟨n,⟨c.M,c.Items,c.Next,c.Now+1⟩,k⟩)/\(st.1=1->st.2=⟨n,⟨M,[],c.Next,c.Now+1⟩,k⟩)) rfl ⟨λ_=>rfl,λh=>by cases h⟩ (λi st hi2 hn2 hJ=>?_)
  obtain⟨j,v⟩:=st
  replace hi2:j=(i:Int):=hi2
  subst hi2
  obtain⟨j0,j1⟩:((i:Int)=0->v=⟨n,⟨c.M,c.Items,c.Next,c.Now+1⟩,k⟩)/\((i:Int)=1->v=⟨n,⟨M,[],c.Next,c.Now+1⟩,k⟩):=hJ
  show Qj (Yd [x.Id] i v) _
  unfold Yd
  refine T1 (λhlt=>?_) (λhlt=>T2 (Qu ?_))
  ·simp only[QM,Eo]at hlt
   have i0:i=0:=by omega
   subst i0
   have hv:=j0 rfl
   subst hv
   have hxm:x∈c.Items:=by rw[hx];exact HH.2 rfl
   obtain⟨p,y,f1,f2,f3⟩:=Qcd (Ll D) hxm rfl
   have hy:y=x:=by
    have:=XU f2
    rw[hx,HH]at this
    exact this
   subst hy
   simp only
   rw[show idx [y.Id] ((0:Nat):Int)=some y.Id from rfl,Qc,f1,Qc,XH,f2,Qc]
   unfold Jc
   simp only
   rw[hB,Qc,show((0:Int) != 0)=false from rfl,QJ,Zu (D.fit H.h) (by omega) (Ll D),Qc,Qc,show((0:Int) != 0)=false from rfl,QJ]
   have hdr:dropL c.Items y.Id=[]:=by rw[hx];simp[dropL]
   rw[hdr]
   have hw:Qq (((0:Nat):Int)+1)=((0+1:Nat):Int):=QE (n:=1) (by omega) (by omega)
   refine T2 (QP ⟨by omega,hw,λh=>?_,λ_=>rfl⟩)
   have h:Qq (((0:Nat):Int)+1)=0:=h
   rw[hw]at h
   cases h
  simp only[Xo,Eo]at hlt
  rw[j1 (by omega)]
 obtain⟨q,q1,rfl⟩:=main
 rw[q1];rfl
def Qix (n:Ql)(D:Int)(hn:Xm n)(hr:Qcz n):DR n D=some true:=by
 obtain⟨m,hm,hN,hml⟩:=QiM hn hr
 obtain⟨f,hf,hf2⟩:=Qie hn hm hml
 unfold DR
 rw[QiL,Qc,hN,Qc,hf,Qc]
 cases hc:((!f)||((decide (D<0))||(decide (12<D))))with
 | true=>rfl
 | false=>
  simp only[KA,AP,Xo]at hc
  obtain⟨hc1,hc2,hc3⟩:=hc
  have hF:=hf2 hc1
  have H:=hF.e
  have h:=H.h
  have hg:UX n m:=hF.c.g
  rw[QJ,QgJ H (c:=⟨m,[],1,0⟩) hg (by omega) (by omega),Qc]
  show(bif ((((UW n m).take (1:Int).toNat).length:Int)==0)then _ else _)=_
  cases hA:UW n m with
  | nil=>rfl
  | cons o os=>
   have ho:o∈UW n m:=by rw[hA];exact YF
   have hmo:=Qaw h (hg.1.len h (by omega)) (Mm.1 ho)
   have hCk:=(HD h (hg.1.len h (by omega)) hmo).2 (Mm.1 ho)
   obtain⟨t,ht,htm⟩:=OQ h (hg.1.len h (by omega)) hmo hCk
   have hAf:=H.a t htm
   have htk:(o::os).take (1:Int).toNat=[o]:=rfl
   rw[htk]
   have i0:idx [o] (0:Int)=some o:=rfl
   simp only[Eo]
   rw[show(((1:Nat):Int)==0)=false from rfl,QJ,i0,Qc,ht,Qc,Qc]
   obtain⟨b,need,M,hNd,hL,_,hD⟩:=Qif H hF.c (o:=o) ho (by show 0<64;omega) (by show(1:Int)<_;omega) ht htm (hF.k t htm)
   obtain⟨c',a',hD',hC1,_⟩:=Qcy H hF.c ⟨1,0,o,max2 t.Many.1 1⟩ hmo
   rw[hD]at hD'
   simp only[Option.some.injEq,Prod.mk.injEq]at hD'
   obtain⟨e1,e2⟩:=hD'
   rw[<-e1]at hC1
   rw[hD,Qc]
   clear e1 e2
   have hput:Fm ([]:L_ Qw) ⟨1,o,b,if 0<t.After then 0+t.After else 0⟩=[⟨1,o,b,if 0<t.After then 0+t.After else 0⟩]:=rfl
   simp only at hC1 ⊢
   rw[hput]at hC1 ⊢
   rw[show((0:Int) != 0||(1:Int) != 1)=false from rfl,QJ]
   obtain⟨x,hx⟩:∃x:Qw,x=⟨1,o,b,if 0<t.After then 0+t.After else 0⟩:=⟨_,rfl⟩
   rw[<-hx]at hC1 ⊢
   have xu:x.Until=if 0<t.After then t.After else 0:=by rw[hx];simp
   have xm:x.Mode=o:=by rw[hx]
   have hMg:UX n M:=hC1.g
   have hB:KP n M x.Mode=some (m,0):=by rw[xm];exact QgH h hg hmo hNd hL hMg
   have main:Qj (QQ (λst=>Gt D n t ⟨m,[],1,0⟩ st.1 st.2) (1,(⟨M,[x],1+1,0⟩:QT))) λq=>∃d,q=.inr d/\((0<t.After/\t.After<=D/\d.Items=[])\/(¬(0<t.After/\t.After<=D)/\d.Items=[x])):=by
    refine Qj.up D.toNat (λst:Int×QT=>st.1-1) (λst:Int×QT=>Ki n st.2/\st.2.Now=st.1-1/\((0<t.After/\t.After<=st.1-1/\st.2.Items=[]/\st.2.M=m)\/(¬(0<t.After/\t.After<=st.1-1)/\st.2.Items=[x]/\st.2.M=M))) rfl ⟨hC1,rfl,.inr ⟨by show ¬(0<t.After/\t.After<=1-1);omega,rfl,rfl⟩⟩ (λi st hi hn2 hJ=>?_)
    obtain⟨z,d⟩:=st
    replace hi:z-1=(i:Int):=hi
    obtain⟨hd,hw,hs⟩:Ki n d/\d.Now=z-1/\((0<t.After/\t.After<=z-1/\d.Items=[]/\d.M=m)\/(¬(0<t.After/\t.After<=z-1)/\d.Items=[x]/\d.M=M)):=hJ
    show Qj (Gt D n t ⟨m,[],1,0⟩ z d) _
    unfold Gt
    refine T1 (λhlt=>?_) (λhlt=>T2 (Qu ?_))
    ·simp only[QM]at hlt
     have i1:i<D.toNat:=by omega
     have hzs:Qq (z+1)-1=((i+1:Nat):Int):=by rw[Yg (by omega)];omega
     have hz1:Qq (z+1)-1=z:=by rw[Yg (by omega)];omega
     have hnow:d.Now<1099511627776:=by omega
     obtain⟨c',a',hD',hC2,_⟩:=Qcy H hd ⟨6,0,⟨0,[],[],[]⟩,0⟩ ⟨by show 0<=20;omega,by show 0<=20;omega,by show 0<=20;omega⟩
     have none:((0<t.After/\t.After<=z/\d.Items=[]/\d.M=m)\/(¬(0<t.After/\t.After<=z)/\d.Items=[x]/\d.M=M))->t.After≠z->(∀y∈d.Items,¬(0<y.Until/\y.Until<=d.Now+1))->Qj ((YH n d ⟨6,0,⟨0,[],[],[]⟩,0⟩).bind λx28=>bif ((x28.2.Err != 0)||((x28.1.Now != z)||(((t.After==z) != ((x28.2.Closed.length:Int)==1))||(decide (1<(x28.2.Closed.length:Int))))))then some (.inr (.inl ()))else(Gr t z x28 ⟨m,[],1,0⟩).bind (λx34=>Gs z x28 x34)) λo=>(∀s':Int×QT,o=.inl s'->i<D.toNat/\s'.1-1=((i+1:Nat):Int)/\Ki n s'.2/\s'.2.Now=s'.1-1/\((0<t.After/\t.After<=s'.1-1/\s'.2.Items=[]/\s'.2.M=m)\/(¬(0<t.After/\t.After<=s'.1-1)/\s'.2.Items=[x]/\s'.2.M=M)))/\∀r:Unit⊕QT,o=.inr r->∃d,r=.inr d/\((0<t.After/\t.After<=D/\d.Items=[])\/(¬(0<t.After/\t.After<=D)/\d.Items=[x])):=λk1 k2 k3=>by
      have hT:=QkB H hd (k:=⟨6,0,⟨0,[],[],[]⟩,0⟩) rfl hnow k3
      rw[hT]at hD'
      simp only[Option.some.injEq,Prod.mk.injEq]at hD'
      rw[<-hD'.1]at hC2
      rw[hT,Qc]
      unfold Gr Gs
      simp only[IN,HE]
      rw[QN (show d.Now+1=z by omega),QZ k2]
      refine T2 (QP (ix:=λst:Int×QT=>st.1-1) (J:=λst:Int×QT=>Ki n st.2/\st.2.Now=st.1-1/\((0<t.After/\t.After<=st.1-1/\st.2.Items=[]/\st.2.M=m)\/(¬(0<t.After/\t.After<=st.1-1)/\st.2.Items=[x]/\st.2.M=M))) ⟨i1,hzs,hC2,?_,?_⟩)
      ·show d.Now+1=Qq (z+1)-1;omega
      show(0<t.After/\t.After<=Qq (z+1)-1/\_)\/_
      rw[hz1];exact k1
     rcases hs with⟨s1,s2,s3,s4⟩|⟨s1,s2,s3⟩
     ·exact none (.inl ⟨s1,by omega,s3,s4⟩) (by omega) λy hy=>by rw[s3]at hy;cases hy
     by_cases ce:t.After=z
     ·have hp:0<t.After:=by omega
      have hT:=QlC H hd (k:=⟨6,0,⟨0,[],[],[]⟩,0⟩) rfl hnow s2 (by rw[xu,if_pos hp];exact hp) (by rw[xu,if_pos hp];omega) (by rw[s3];exact hB)
      rw[hT]at hD'
      simp only[Option.some.injEq,Prod.mk.injEq]at hD'
      rw[<-hD'.1]at hC2
      rw[hT,Qc]
      unfold Gr Gs
      simp only[IN,HE]
      rw[QN (show d.Now+1=z by omega),QN ce,Zt h hg.1 (by omega)]
      refine T2 (QP (ix:=λst:Int×QT=>st.1-1) (J:=λst:Int×QT=>Ki n st.2/\st.2.Now=st.1-1/\((0<t.After/\t.After<=st.1-1/\st.2.Items=[]/\st.2.M=m)\/(¬(0<t.After/\t.After<=st.1-1)/\st.2.Items=[x]/\st.2.M=M))) ⟨i1,hzs,hC2,?_,.inl ⟨hp,?_,rfl,rfl⟩⟩)
      ·show d.Now+1=Qq (z+1)-1;omega
      show t.After<=Qq (z+1)-1;omega
     exact none (.inr ⟨by omega,s2,s3⟩) ce λy hy=>by
      rw[s2,HH]at hy
      subst hy
      rw[xu]
      by_cases hp:0<t.After
      ·rw[if_pos hp];omega
      rw[if_neg hp];omega
    simp only[Xo]at hlt
    have hz:z-1=D:=by omega
    rw[hz]at hs
    refine⟨d,rfl,?_⟩
    rcases hs with⟨s1,s2,s3,_⟩|⟨s1,s2,_⟩
    ·exact .inl ⟨s1,s2,s3⟩
    exact .inr ⟨s1,s2⟩
   obtain⟨q,q1,d,rfl,hd⟩:=main
   rw[q1,Qc]
   show AN true t D d=_
   unfold AN
   rcases hd with⟨d1,d2,d3⟩|⟨d1,d2⟩
   ·rw[d3,QN d1,QN d2];rfl
   rw[d2]
   by_cases hp:0<t.After
   ·rw[QN hp,QZ (λh=>d1 ⟨hp,h⟩)];rfl
   rw[QZ hp];rfl
def QmQ {n:Ql}(H:EOk n){c:QT}(D:Ki n c)(h0:c.Items=[])(h1:c.Next=1){l:L_ Xt}(hl:l.length<=24)(hk:∀k∈l,Yu n k.Mode):∃aa y,BG n c l=some (aa,y)/\Ki n y/\y.Items.length<=24/\y.Next<=25:=by
 have h:=H.h
 have mx:(24:Nat)<=maxLen:=by decide
 unfold BG
 rw[ND (D.lens h),Qc]
 have main:Qj (QQ (λst=>Av l n st.1 st.2.1 st.2.2) (0,c,([]:L_ Qz))) λq=>Ki n q.1/\q.1.Items.length<=24/\q.1.Next<=25:=by
  refine Qj.up l.length (λst:Int×QT×L_ Qz=>st.1) (λst:Int×QT×L_ Qz=>Ki n st.2.1/\(st.2.2.length:Int)=st.1/\∃(g:Int) (L:LI_),Qgl st.2.1 L/\st.2.1.Next=g+1/\(st.2.1.Items.length:Int)=g-L.length/\g<=st.1) rfl ⟨D,rfl,0,[],λd hd=>(by cases hd),h1,by show(c.Items.length:Int)=_;rw[h0];rfl,Int.le_refl _⟩ (λi st hi hn2 hJ=>?_)
  obtain⟨x,c,aa⟩:=st
  replace hi:x=(i:Int):=hi
  subst hi
  obtain⟨D,ha,g,L,hL,h1,h2,h3⟩:Ki n c/\(aa.length:Int)=(i:Int)/\∃(g:Int) (L:LI_),Qgl c L/\c.Next=g+1/\(c.Items.length:Int)=g-L.length/\g<=(i:Int):=hJ
  show Qj (Av l n i c aa) _
  unfold Av
  refine T1 (λhlt=>?_) (λhlt=>T2 (Qu ?_))
  ·simp only[QM]at hlt
   have i1:i<l.length:=by omega
   have hx:=QR i1
   obtain⟨y,a,hD,hc',hE,_⟩:=Qcy H D l[i] (hk _ (XW i1))
   rw[XH,hx,Qc,hD,Qc]
   refine T0 (T5 (by simp;omega)) λ_ _=>?_
   have hw:=QE (n:=l.length) i1 (by omega)
   refine T2 (QP (ix:=λst:Int×QT×L_ Qz=>st.1) (J:=λst:Int×QT×L_ Qz=>Ki n st.2.1/\(st.2.2.length:Int)=st.1/\∃(g:Int) (L:LI_),Qgl st.2.1 L/\st.2.1.Next=g+1/\(st.2.1.Items.length:Int)=g-L.length/\g<=st.1) ⟨i1,hw,hc',by show((aa++[a]).length:Int)=Qq _;rw[hw];simp;omega,?_⟩)
   show ∃(g:Int) (L:LI_),Qgl y L/\y.Next=g+1/\(y.Items.length:Int)=g-L.length/\g<=Qq ((i:Int)+1)
   rw[hw]
   rcases hE with⟨_,e2,_,_⟩|hE
   ·subst e2;exact⟨g,L,hL,h1,h2,by omega⟩
   obtain⟨_,q1,_,q3⟩:=QkA D hE hL h1 h2
   rcases q3 with⟨_,_,_,d5,d6⟩|⟨_,d2,d3⟩
   ·exact⟨g+1,_,q1,by omega,by omega,by omega⟩
   exact⟨g,_,q1,d2,d3,by omega⟩
  show Ki n c/\c.Items.length<=24/\c.Next<=25
  exact⟨D,by omega,by omega⟩
 obtain⟨q,q1,q2⟩:=main
 rw[q1,Qc]
 exact⟨_,_,rfl,q2⟩
def QkC {n:Ql}(H:EOk n){c:QT}(D:Ki n c){x:Qw}(hx:x∈c.Items){M:L_ Bag}(hB:KP n c.M x.Mode=some (M,0)):YH n c ⟨5,x.Id,⟨0,[],[],[]⟩,0⟩=some (⟨M,dropL c.Items x.Id,c.Next,c.Now⟩,⟨0,x.Id,[x.Id]⟩):=by
 have h:=H.h
 obtain⟨u1,u2⟩:=Uc.1 D.up
 have hl:=D.len
 obtain⟨e,y,hf,hy⟩:=Qgk D ⟨5,x.Id,⟨0,[],[],[]⟩,0⟩
 rcases hy with⟨rfl,hy,hi⟩|⟨_,hno,_⟩
 case inr=>exact absurd rfl (hno x hx)
 have hi:y.Id=x.Id:=hi
 have hyx:=u1.inj hy hx hi
 subst hyx
 have hS:KX ⟨n,c,⟨5,y.Id,⟨0,[],[],[]⟩,0⟩⟩=some (0,⟨0,y.Id,[y.Id]⟩,⟨n,⟨M,dropL c.Items y.Id,c.Next,c.Now⟩,⟨5,y.Id,⟨0,[],[],[]⟩,0⟩⟩):=by
  unfold KX
  rw[hf,Qc,show((0:Int) != 0)=false from rfl,QJ]
  unfold Jc
  simp only
  rw[hB,Qc,show((0:Int) != 0)=false from rfl,QJ,Zu (D.fit h) (by omega) (Ll D)]
  rfl
 unfold YH
 rw[ND (D.lens h),Qc]
 show EZ n c c ⟨5,y.Id,⟨0,[],[],[]⟩,0⟩ ()=_
 unfold EZ
 rw[TS h D,Qc,show(!true)=false from rfl,QJ,hS]
 rfl
def Qg8 (n:Ql)(l:L_ Xt)(hn:Xm n)(hr:Qcz n)(hl:l.length<=maxLen):WR n l=some true:=by
 obtain⟨m,hm,hN,hml⟩:=QiM hn hr
 obtain⟨f,hf,hf2⟩:=Qie hn hm hml
 obtain⟨g,hg,hg2⟩:=Ql8 n l hl
 unfold WR
 rw[QiL,Qc,hN,Qc,hf,Qc,hg,Qc]
 cases hc:((!f)||(!g))with
 | true=>rfl
 | false=>
  simp only[KA,AP]at hc
  have hF:=hf2 hc.1
  obtain⟨hl2,hk⟩:=hg2 hc.2
  have H:=hF.e
  have h:=H.h
  obtain⟨aa,c,hR,hC,hI,hX⟩:=QmQ H hF.c rfl rfl hl2 hk
  have n1:=hC.n1
  obtain⟨u1,u2⟩:=Uc.1 hC.up
  have hall:∀o∈(UW n c.M).take (3:Int).toNat,o∈UW n c.M:=λo ho=>Ai ho
  have hlen:((UW n c.M).take (3:Int).toNat).length<=3:=by rw[KS];exact Nat.min_le_left _ _
  rw[QJ,hR,Qc]
  show((Dt n c 3).bind _)=_
  rw[QgJ H hC.g (by omega) (by omega),Qc]
  revert hall hlen
  generalize (UW n c.M).take (3:Int).toNat=L
  intro hall hlen
  have mx:(3:Nat)<=maxLen:=by decide
  have main:Qj (QQ (λst=>Du L n (aa,c) st) 0) λq=>q=.inr ():=by
   refine Qj.up L.length (λst=>st) (λ_=>True) rfl trivial (λi st hi hn2 hJ=>?_)
   replace hi:st=(i:Int):=hi
   subst hi
   show Qj (Du L n (aa,c) i) _
   unfold Du
   refine T1 (λhlt=>?_) (λhlt=>T2 (Qu rfl))
   simp only[QM]at hlt
   have i1:i<L.length:=by omega
   have hx:=QR i1
   have ho:=hall _ (XW i1)
   have hmo:=Qaw h (hC.g.1.len h (by omega)) (Mm.1 ho)
   have hCk:=(HD h (hC.g.1.len h (by omega)) hmo).2 (Mm.1 ho)
   obtain⟨t,ht,htm⟩:=OQ h (hC.g.1.len h (by omega)) hmo hCk
   obtain⟨b,need,M,hNd,hL,_,hD⟩:=Qif H hC ho (by omega) (by omega) ht htm (hF.k t htm)
   obtain⟨c1,a1,hD1,D,_⟩:=Qcy H hC ⟨1,0,L[i],max2 t.Many.1 1⟩ hmo
   rw[hD]at hD1
   simp only[Option.some.injEq,Prod.mk.injEq]at hD1
   rw[<-hD1.1]at D
   rw[XH,hx]
   simp only[Qc]
   rw[ht,Qc,hD]
   simp only[Qc]
   obtain⟨x,hxe⟩:∃x:Qw,x=⟨c.Next,L[i],b,if 0<t.After then c.Now+t.After else 0⟩:=⟨_,rfl⟩
   rw[<-hxe]at D ⊢
   have hid:c.Next=x.Id:=by rw[hxe]
   have hB:KP n M x.Mode=some (c.M,0):=by rw[hxe];exact QgH h hC.g hmo hNd hL D.g
   have hxm:x∈Fm c.Items x:=Ro.2 (.inl rfl)
   have hD2:=QkC H D (x:=x) hxm hB
   simp only at hD2
   obtain⟨c2,a2,hD2',hC2,_⟩:=Qcy H D ⟨5,x.Id,⟨0,[],[],[]⟩,0⟩ ⟨by show 0<=20;omega,by show 0<=20;omega,by show 0<=20;omega⟩
   rw[hD2]at hD2'
   simp only[Option.some.injEq,Prod.mk.injEq]at hD2'
   rw[<-hD2'.1]at hC2
   obtain⟨c3,a3,hD3,_,_,h12⟩:=Qcy H hC2 ⟨5,x.Id,⟨0,[],[],[]⟩,0⟩ ⟨by show 0<=20;omega,by show 0<=20;omega,by show 0<=20;omega⟩
   have h12:=h12 (by show(2:Int)<=5;omega) (by show(5:Int)<=5;omega) (λy hy=>(Cq.1 hy).2) (by show 0<x.Id;omega) (by show x.Id<c.Next+1;omega)
   rw[<-hid]at hD2 hD3
   rw[hD2]
   simp only[Qc]
   rw[hD3]
   simp only[Qc]
   unfold Hw
   simp only
   have e1:idx [c.Next] (0:Int)=some c.Next:=rfl
   have hln:(dropL (Fm c.Items x) c.Next).length=c.Items.length:=by
    have hno:∀y∈c.Items,y.Id≠x.Id:=λy hy=>by have:=(u2 y hy).2.1;omega
    have q1:=Ou (u1.put x) hxm
    rw[Zv,Qce hno]at q1
    rw[hid];omega
   rw[h12,Zt h hC.g.1 (by omega),hln,Yg (by omega),e1]
   simp only[Qc,HE,Eo]
   simp only[decide_true,Fo,QJ]
   unfold Hx
   exact T2 (QP ⟨i1,QE i1 (by omega),trivial⟩)
  obtain⟨q,q1,rfl⟩:=main
  rw[q1];rfl
end Go.Proofs
