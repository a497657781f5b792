/- A part of the proof; what it holds is told at each theorem. -/
import Derived.Test.YtbfgchciebcbpaaGreatDoorB1P2
import Derived.Test.YtbfgchciebcbpaaGreatDoorB1P1
set_option linter.unusedVariables false
set_option linter.unusedSimpArgs false
set_option linter.unusedSectionVars false
set_option linter.deprecated false
noncomputable section
namespace Go.Proofs
open Go Go.RowKit Go.Vm
theorem QwF (n:Qm)(h:Qnh n)(hp:n.Places.length≤12)(ht:n.Tasks.length≤8):∃F E,Qb5 n=some F∧Qho n 2048 F∧Qa8 n=some E∧E.length≤1000∧(∀k∈E,0≤k∧k<(n.Places.length:Int))∧
  ((n.Places.length≤8∧(∀e∈F,e.any Qcp=false)∧∃vs m,QyW n F E vs m∧QbL n=some (Qei n.Places.length m n.Places.length,0))∨((8<n.Places.length∨∃e∈F,e.any Qcp=true)∧QbL n=some ([],2))):=by
 have m1:(2048:Nat)≤maxLen:=by decide
 obtain⟨x6,e6,h6⟩:=Qv2 n hp ht
 obtain⟨x23,e23,h23⟩:=Qv4 n h ht
 refine⟨x6,x23,e6,h6,e23,h23.1,h23.2,?_⟩
 unfold QbL
 rw [e6,Qh]
 have l6:x6.length≤2048:=by have:=h6.1;omega
 unfold QnC
 by_cases h8:n.Places.length≤8
 ·rw [Q9 (show ¬(8:Int)<(n.Places.length:Int) by omega),cond_false,QwE (by omega) (fun e he=>by have:=(h6.2 e he).1;omega),Qh,Qh]
  unfold QgY
  cases hg:(x6.any fun e=>e.any Qcp)with
  | true=>
   obtain⟨e,he,he2⟩:=QiZ.1 hg
   exact .inr ⟨.inr ⟨e,he,he2⟩,rfl⟩
  | false=>
   rw [cond_false]
   have small:∀e∈x6,e.any Qcp=false:=fun e he=>by
    have:=List.any_eq_false.1 hg e he
    simpa using this
   have mag:∀e∈x6,∀j,(vec e j).natAbs≤4:=fun e he=>QwL (h6.2 e he) (small e he)
   refine .inl ⟨h8,small,?_⟩
   have s1:=QbB (body:=fun st:Int×QO=>QcH x6 n st.1 st.2) x6.length (fun i s=>s.1=(i:Int)∧∃vs,Slv n.Places.length vs s.2∧(∀e∈x6.take i,Qz (Qco s.2) (vec e))∧∀e∈s.2,Qz (Qr5 x6 x23) (vec e.2)) (fun r=>∃vs,Slv n.Places.length vs r∧(∀e∈x6,Qz (Qco r) (vec e))∧∀e∈r,Qz (Qr5 x6 x23) (vec e.2)) (fun i s hi hs=>by
    obtain⟨a,m⟩:=s
    obtain⟨rfl,vs,hv,hsp,hor⟩:=hs
    left
    have hx:x6[i]? = some x6[i]:=QD hi
    have hmem:=Qbb hi
    show ∃s',QcH x6 n (i:Int) m=_∧_
    unfold QcH
    obtain⟨g1,vs',g2,g3,g4⟩:=Qx5 hv h8 (h6.2 _ hmem).1 (mag _ hmem)
    rw [Qaa (show(i:Int)<(x6.length:Int) by omega),cond_true,QB,hx,Qh,g1,Qh]
    refine⟨_,rfl,Qx hi (by omega),vs',g2,fun e he=>?_,Qu6 hv h8 (h6.2 _ hmem).1 (mag _ hmem) (QlP _ (Qp.2 ⟨_,hmem,rfl⟩)) hor⟩
    rw [QfH,hx]at he
    rcases Qdo.1 he with he | he
    ·exact g3 _ (hsp e he)
    ·simp at he;subst he;exact g4) (fun s hs=>by
    obtain⟨a,m⟩:=s
    obtain⟨rfl,vs,hv,hsp,hor⟩:=hs
    refine⟨m,?_,vs,hv,by rw [QlQ]at hsp;exact hsp,hor⟩
    show QcH x6 n (x6.length:Int) m=_
    unfold QcH
    rw [Q9 (by omega)];rfl) (0,[]) ⟨rfl,[],Slv.nil _,(fun e h=>by simp at h),(fun e h=>by simp at h)⟩
   obtain⟨m18,hm18,vs1,hv1,sp1,or1⟩:=s1
   rw [hm18,Qh]
   unfold Qkr
   rw [e23,Qh]
   have s2:=QbB (body:=fun st:Int×QO=>QcI x23 n st.1 st.2) x23.length (fun i s=>s.1=(i:Int)∧∃vs,Slv n.Places.length vs s.2∧(∀e∈x6,Qz (Qco s.2) (vec e))∧(∀k∈x23.take i,Qz (Qco s.2) (QoP k.toNat))∧∀e∈s.2,Qz (Qr5 x6 x23) (vec e.2)) (fun r=>∃vs,QyW n x6 x23 vs r) (fun i s hi hs=>by
    obtain⟨a,m⟩:=s
    obtain⟨rfl,vs,hv,hs1,hsp,hor⟩:=hs
    left
    have hx:x23[i]? = some x23[i]:=QD hi
    obtain⟨k0,k1⟩:=h23.2 _ (Qbb hi)
    show ∃s',QcI x23 n (i:Int) m=_∧_
    unfold QcI
    have kk:x23[i].toNat<n.Places.length:=by omega
    have kl:x23[i].toNat<(List.replicate (n.Places.length:Int).toNat (0:Int)).length:=by simp;omega
    have eu:=Qwk n.Places.length x23[i].toNat kk
    have um:∀j,(vec ((List.replicate (n.Places.length:Int).toNat (0:Int)).set x23[i].toNat 1) j).natAbs≤4:=fun j=>by
     rw [eu];unfold QoP;split<;>decide
    have ul:((List.replicate (n.Places.length:Int).toNat (0:Int)).set x23[i].toNat 1).length=n.Places.length:=by simp
    obtain⟨g1,vs',g2,g3,g4⟩:=Qx5 hv h8 ul um
    have hidx:idx (List.replicate (n.Places.length:Int).toNat (0:Int)) x23[i]=some 0:=by
     rw [QrY k0,QD kl];simp
    rw [Qaa (show(i:Int)<(x23.length:Int) by omega),cond_true,QB,hx,Qh,QdQ (by simp;omega),Qh,hidx,Qh]
    have e2:∀(s1:Int) (m2:QO) (row:List Int),QgB s1 m2 row=QdZ s1 m2 row:=fun _ _ _=>rfl
    rw [e2,g1,Qh]
    refine⟨_,rfl,Qx hi (by have:=h23.1;omega),vs',g2,fun e he=>g3 _ (hs1 e he),fun e he=>?_,Qu6 hv h8 ul um (by rw [eu];exact QrN _ (Qp.2 ⟨_,Qbb hi,rfl⟩)) hor⟩
    rw [QfH,hx]at he
    rcases Qdo.1 he with he | he
    ·exact g3 _ (hsp e he)
    ·simp at he
     subst he
     rw [eu]at g4
     exact g4) (fun s hs=>by
    obtain⟨a,m⟩:=s
    obtain⟨rfl,vs,hv,hs1,hsp,hor⟩:=hs
    refine⟨m,?_,vs,hv,hs1,by rw [QlQ]at hsp;exact hsp,hor⟩
    show QcI x23 n (x23.length:Int) m=_
    unfold QcI
    rw [Q9 (by omega)];rfl) (0,m18) ⟨rfl,vs1,hv1,sp1,(fun e h=>by simp at h),or1⟩
   obtain⟨m29,hm29,vs2,hb⟩:=s2
   refine⟨vs2,m29,hb,?_⟩
   rw [hm29,Qh]
   unfold QeX
   rw [Qxs hb.slv h8]
   rfl
 refine .inr ⟨.inl (by omega),?_⟩
 rw [Qaa (show(8:Int)<(n.Places.length:Int) by omega)]
 rfl
end Go.Proofs
noncomputable section
namespace Go.Proofs
open Go Go.RowKit Go.Vm
theorem Qyb {a b c d:Nat}(ha:0<a)(hc:0<c)(h:a*d=c*b):a / Nat.gcd a b=c / Nat.gcd c d:=by
 have hg1:0<Nat.gcd a b:=Qot _ ha
 have hg2:0<Nat.gcd c d:=Qot _ hc
 have e:c*Nat.gcd a b=a*Nat.gcd c d:=by
  rw [←Nat.gcd_mul_left,←Nat.gcd_mul_left,h,Qiq c a]
 obtain⟨x,hx⟩:=QpQ a b
 obtain⟨y,hy⟩:=QpQ c d
 generalize Nat.gcd a b=s at *
 generalize Nat.gcd c d=t at *
 subst hx hy
 rw [Qnl _ hg1,Qnl _ hg2]
 have e3:(s*t)*y=(s*t)*x:=by
  have:=e
  simp only [Nat.mul_assoc,Qiq,Nat.mul_left_comm]at this ⊢
  exact this
 exact(Nat.eq_of_mul_eq_mul_left (Nat.mul_pos hg1 hg2) e3).symm
theorem QwM {row:List Int}{e:Int×List Int}{f:Nat}(h0:vec row e.1.toNat≠0)(h1:vec e.2 e.1.toNat≠0)(h:∀j,vec row e.1.toNat*vec e.2 j=vec e.2 e.1.toNat*vec row j):(vec row e.1.toNat).natAbs / Nat.gcd (vec row e.1.toNat).natAbs (vec row f).natAbs=dd f e:=by
 unfold dd
 refine Qyb (QkM.2 h0) (QkM.2 h1) ?_
 have:=congrArg Int.natAbs (h f)
 rw [Qd5,Qd5]at this
 exact this
theorem Qyc {a b c d L:Int}(ha:a≠0)(hc:c≠0)(h:a*d=c*b)(h1:a ∣ -b*L)(h2:c ∣ -d*L):Int.tdiv (-b*L) a=Int.tdiv (-d*L) c:=by
 obtain⟨x,hx⟩:=h1
 obtain⟨y,hy⟩:=h2
 rw [hx,hy,Int.mul_tdiv_cancel_left _ ha,Int.mul_tdiv_cancel_left _ hc]
 have e:(a*c)*x=(a*c)*y:=by
  have e1:c*(a*x)=c*(-b*L):=by rw [hx]
  have e2:a*(c*y)=a*(-d*L):=by rw [hy]
  have e3:c*(-b*L)=a*(-d*L):=by
   rw [←Qba,←Qba,Int.mul_neg,Int.mul_neg,h]
  rw [QfG a c,Qba,e1,e3,←e2,QfG c a,Qba]
 exact Qvl (QiY ha hc) e
end Go.Proofs
noncomputable section
namespace Go.Proofs
open Go Go.RowKit Go.Vm
structure Qtn (N:Nat) (l:List (List Int)) (pv:List Int) (vs:List Vec) (m:QO):Prop where
 slv:Slv N vs m
 len:∀row∈l,row.length=N
 mag:∀row∈l,∀j,(vec row j).natAbs≤82575360
 pl:pv.length=N
 col:∀q:Nat,q<N→(∃(u:Nat) (row:List Int) (e:Int×List Int),pv[q]? = some (u:Int)∧l[u]? = some row∧e∈m∧e.1=(q:Int)∧vec row q≠0∧∀j,vec row q*vec e.2 j=vec e.2 q*vec row j)∨(pv[q]? = some (-1)∧∀e∈m,e.1≠(q:Int))
section
variable {n:Qm}{l:List (List Int)}{pv:List Int}{vs:List Vec}{m:QO}
theorem Qtn.all (h:Qtn n.Places.length l pv vs m)(hN:n.Places.length≤8){f:Nat}(hf:f<n.Places.length):Qq (fun st=>QbW n pv l (f:Int) st.1 st.2) (1,0)=some (Qcs f 1 m:Int):=by
 have m1:(2048:Nat)≤maxLen:=by decide
 obtain⟨Lp,Lle⟩:=Qwj h.slv hN hf
 obtain⟨_,Ld⟩:=Qod (place:=f) m 1
 have hh:=QbB (body:=fun st:Int×Int=>QbW n pv l (f:Int) st.1 st.2) n.Places.length (fun i s=>∃A:Nat,s=((A:Int),(i:Int))∧0<A∧A ∣ Qcs f 1 m∧∀e∈m,e.1.toNat<i→dd f e ∣ A) (fun r=>r=(Qcs f 1 m:Int)) (fun i s hi hs=>by
  obtain⟨A,rfl,hA,hAd,hAe⟩:=hs
  left
  have hAle:=QkR Lp hAd
  have hpi:i<pv.length:=by rw [h.pl];exact hi
  have hpw:w64 ((i:Int)+1)=((i+1:Nat):Int):=Qx hi (by omega)
  show ∃s',QbW n pv l (f:Int) (A:Int) (i:Int)=_∧_
  unfold QbW
  rw [Qaa (show(i:Int)<(n.Places.length:Int) by omega),cond_true,QB]
  rcases h.col i hi with⟨u,row,e,c1,c2,c3,c4,c5,c6⟩|⟨c1,c2⟩
  ·have hei:e.1.toNat=i:=by omega
   have rl:=h.len row (QX c2)
   have rm:=h.mag row (QX c2)
   have he0:=h.slv.ne c3
   have hdd:(vec row i).natAbs / Nat.gcd (vec row i).natAbs (vec row f).natAbs=dd f e:=by
    have:=QwM (row:=row) (e:=e) (f:=f) (by rw [hei];exact c5) he0 (by rw [hei];exact c6)
    rw [hei]at this;exact this
   have ddL:=Ld e c3
   have ddp:0<dd f e:=Nat.pos_of_dvd_of_pos ddL Lp
   have hg0:0<Nat.gcd (vec row i).natAbs (vec row f).natAbs:=Qot _ (QkM.2 c5)
   have ri:=rm i
   have rf:=rm f
   have hlc:Nat.lcm A (dd f e) ∣ Qcs f 1 m:=Nat.lcm_dvd hAd ddL
   have hlp:0<Nat.lcm A (dd f e):=Nat.lcm_pos hA ddp
   have hll:=QkR Lp hlc
   have hdl:=QkR Lp ddL
   rw [c1,Qh,Qaa (show(0:Int)≤(u:Int) by omega),cond_true,Qh,QB,c2,Qh,QB,QaM (row:=row) (by omega),Qh,Qh,QB,QaM (row:=row) (by omega),Qh,QuI (by unfold Sm;omega) (by unfold Sm;omega),Qh,QdQ (by
    have:¬((Nat.gcd (vec row i).natAbs (vec row f).natAbs:Nat):Int)=0:=by omega
    simpa using this),Qh]
   have tq:(Int.tdiv (vec row i) (Nat.gcd (vec row i).natAbs (vec row f).natAbs:Nat)).natAbs=dd f e:=by
    rw [QpM];exact hdd
   generalize Int.tdiv (vec row i) (Nat.gcd (vec row i).natAbs (vec row f).natAbs:Nat)=z at tq
   have zw:w64 z=z:=Qac (by omega)
   have k24:Qev (A:Int) (i:Int) (dd f e:Int)=some (.inl ((Nat.lcm A (dd f e):Int),((i+1:Nat):Int))):=by
    unfold Qev Qeu
    have hg:0<Nat.gcd A (dd f e):=Qot _ hA
    rw [QuI (by unfold Sm;omega) (by unfold Sm;omega),Qh,QdQ (by
     have:¬((Nat.gcd (A:Int).natAbs (dd f e:Int).natAbs:Nat):Int)=0:=by
      show ¬((Nat.gcd A (dd f e):Nat):Int)=0
      omega
     simpa using this),Qh,hpw]
    have e1:Int.tdiv (A:Int) (Nat.gcd (A:Int).natAbs (dd f e:Int).natAbs:Nat)=((A / Nat.gcd A (dd f e):Nat):Int):=rfl
    have a1:A / Nat.gcd A (dd f e)≤A:=Nat.div_le_self _ _
    have e2:=Qx7 (b:=dd f e) hA
    have e3:((A / Nat.gcd A (dd f e):Nat):Int)*(dd f e:Int)=(Nat.lcm A (dd f e):Int):=by rw [←e2];simp
    rw [e1]
    generalize A / Nat.gcd A (dd f e)=B at a1 e3
    rw [Qac (n:=(B:Int)) (by omega),e3,Qac (by omega)]
   have nxt:∀e'∈m,e'.1.toNat<i+1→dd f e' ∣ Nat.lcm A (dd f e):=fun e' he' hlt=>by
    by_cases hq:e'.1.toNat=i
    ·have:e'=e:=by
      obtain⟨k1,v1⟩:=e'
      obtain⟨k2,v2⟩:=e
      have hk:k1=k2:=by
       have x1:=(h.slv.keys _ he').1
       have x2:=(h.slv.keys _ c3).1
       have hq:k1.toNat=i:=hq
       have hei:k2.toNat=i:=hei
       have x1:k1=(k1.toNat:Int):=x1
       have x2:k2=(k2.toNat:Int):=x2
       omega
      subst hk
      have y1:=mget_of_mem h.slv.knd he'
      rw [mget_of_mem h.slv.knd c3]at y1
      cases y1;rfl
     rw [this];exact Nat.dvd_lcm_right _ _
    exact Nat.dvd_trans (hAe e' he' (by omega)) (Nat.dvd_lcm_left _ _)
   rw [zw]
   by_cases hz:z<0
   ·rw [Qaa hz,cond_true,show(0:Int)-z=(dd f e:Int) by omega,Qac (n:=(dd f e:Int)) (by omega),k24]
    exact⟨_,rfl,_,rfl,hlp,hlc,nxt⟩
   rw [Q9 hz,cond_false,show z=(dd f e:Int) by omega,k24]
   exact⟨_,rfl,_,rfl,hlp,hlc,nxt⟩
  ·rw [c1,Qh,Q9 (by omega),cond_false]
   unfold Qeu
   rw [hpw]
   refine⟨_,rfl,A,rfl,hA,hAd,fun e he hlt=>hAe e he ?_⟩
   have h1:=c2 e he
   have h2:=(h.slv.keys e he).1
   omega) (fun s hs=>by
  obtain⟨A,rfl,hA,hAd,hAe⟩:=hs
  refine⟨_,?_,rfl⟩
  have e:A=Qcs f 1 m:=Nat.dvd_antisymm hAd (Qr4 m 1 A (Nat.one_dvd _) fun e he=>hAe e he (h.slv.keys e he).2.1)
  show QbW n pv l (f:Int) (A:Int) (n.Places.length:Int)=_
  unfold QbW
  rw [Q9 (by omega),e];rfl) (1,0) ⟨1,rfl,by decide,Nat.one_dvd _,fun e he hlt=>by omega⟩
 obtain⟨r,hr,rfl⟩:=hh
 exact hr
end
end Go.Proofs
noncomputable section
namespace Go.Proofs
open Go Go.RowKit Go.Vm
theorem Qu7 {a b:Int}{L:Nat}(h:a.natAbs / Nat.gcd a.natAbs b.natAbs ∣ L):a ∣ -b*(L:Int):=by
 refine Int.natAbs_dvd_natAbs.1 ?_
 rw [Qd5,Int.natAbs_neg,Int.natAbs_natCast]
 have h1:=Nat.mul_dvd_mul (Nat.gcd_dvd_right a.natAbs b.natAbs) h
 rwa [Nat.mul_div_cancel' (QpQ a.natAbs b.natAbs)]at h1
section
variable {n:Qm}{l:List (List Int)}{pv:List Int}{vs:List Vec}{m:QO}
theorem Qtn.row (h:Qtn n.Places.length l pv vs m)(hN:n.Places.length≤8){f:Nat}(hf:f<n.Places.length):
  Qq (fun st=>QbX n pv l (f:Int) (Qcs f 1 m:Int) st.1 st.2) (0,((List.replicate (n.Places.length:Int).toNat (0:Int)).set f (Qcs f 1 m:Int)))=some (wF n.Places.length m f):=by
 have m1:(2048:Nat)≤maxLen:=by decide
 obtain⟨Lp,Lle⟩:=Qwj h.slv hN hf
 obtain⟨_,Ld⟩:=Qod (place:=f) m 1
 have kl:∀e∈m,e.1.toNat<((List.replicate n.Places.length (0:Int)).set f (Qcs f 1 m:Int)).length:=fun e he=>by
  rw [QkO,List.length_replicate];exact(h.slv.keys e he).2.1
 have hh:=QbB (body:=fun st:Int×List Int=>QbX n pv l (f:Int) (Qcs f 1 m:Int) st.1 st.2) n.Places.length
  (fun i s=>s.1=(i:Int)∧s.2.length=n.Places.length∧∀j,vec s.2 j=if j<i then vec (wF n.Places.length m f) j else vec ((List.replicate n.Places.length (0:Int)).set f (Qcs f 1 m:Int)) j) (fun r=>r=wF n.Places.length m f) (fun i s hi hs=>by
  obtain⟨a,w⟩:=s
  obtain⟨rfl,hwl,hw⟩:=hs
  replace hwl:w.length=n.Places.length:=hwl
  left
  have hpw:w64 ((i:Int)+1)=((i+1:Nat):Int):=Qx hi (by omega)
  show ∃s',QbX n pv l (f:Int) (Qcs f 1 m:Int) (i:Int) w=_∧_
  unfold QbX Qgt
  rw [Qaa (show(i:Int)<(n.Places.length:Int) by omega),cond_true,QB,hpw]
  rcases h.col i hi with⟨u,row,e,c1,c2,c3,c4,c5,c6⟩|⟨c1,c2⟩
  ·have hei:e.1.toNat=i:=by omega
   have rl:=h.len row (QX c2)
   have rm:=h.mag row (QX c2)
   have he0:=h.slv.ne c3
   have hdd:(vec row i).natAbs / Nat.gcd (vec row i).natAbs (vec row f).natAbs=dd f e:=by
    have:=QwM (row:=row) (e:=e) (f:=f) (by rw [hei];exact c5) he0 (by rw [hei];exact c6)
    rw [hei]at this;exact this
   have vin:vec (wF n.Places.length m f) i=Qmx f (Qcs f 1 m) e:=by
    unfold wF
    rw [←hei]
    exact Qr3 m _ kl (h.slv.tnd (List.Perm.refl _)) c3
   have val:Int.tdiv (-(vec row f)*(Qcs f 1 m:Int)) (vec row i)=Qmx f (Qcs f 1 m) e:=by
    unfold Qmx
    rw [hei]
    rw [hei]at he0
    exact Qyc c5 he0 (c6 f) (Qu7 (by rw [hdd];exact Ld e c3)) (Qu7 (by have:=Ld e c3;unfold dd at this;rwa [hei]at this))
   rw [vin.symm]at val
   have ri:=rm i
   have rf:=rm f
   have pr:(-(vec row f)*(Qcs f 1 m:Int)).natAbs≤82575360*2642411520:=by
    rw [Qd5];exact QkS (by omega) (by omega)
   have e5:(Int.tdiv (-(vec row f)*(Qcs f 1 m:Int)) (vec row i)).natAbs≤82575360*2642411520:=by
    rw [QpM];exact QU (Nat.div_le_self _ _) pr
   rw [c1,Qh,Qaa (show(0:Int)≤(u:Int) by omega),cond_true,Qh,QB,c2,Qh,QB,QaM (row:=row) (by omega),Qh,QB,QaM (row:=row) (by omega),Qh,QdQ (by simpa using c5),Qh,QB,QaM (row:=w) (by omega),Qh,Qff]
   have e0:(0:Int)-vec row f=-(vec row f):=by omega
   rw [e0,Qac (n:=-(vec row f)) (by omega),Qac (n:=-(vec row f)*(Qcs f 1 m:Int)) (by omega),Qac (n:=Int.tdiv _ _) (by omega),val]
   refine⟨_,rfl,rfl,by rw [QkO];exact hwl,fun j=>?_⟩
   rw [Qr2 (by omega),hw j]
   by_cases h1:j=i
   ·subst h1;rw [if_pos rfl,if_pos (by omega)]
   rw [if_neg h1]
   by_cases h2:j<i
   ·rw [if_pos h2,if_pos (by omega)]
   rw [if_neg h2,if_neg (by omega)]
  ·rw [c1,Qh,Q9 (by omega),cond_false]
   refine⟨_,rfl,rfl,hwl,fun j=>?_⟩
   rw [hw j]
   by_cases h1:j=i
   ·subst h1
    rw [if_neg (by omega),if_pos (by omega)]
    unfold wF
    rw [Qoe m _ fun e he=>⟨kl e he,fun e2=>c2 e he (by have:=(h.slv.keys e he).1;omega)⟩]
   by_cases h2:j<i
   ·rw [if_pos h2,if_pos (by omega)]
   rw [if_neg h2,if_neg (by omega)]) (fun s hs=>by
  obtain⟨a,w⟩:=s
  obtain⟨rfl,hwl,hw⟩:=hs
  replace hwl:w.length=n.Places.length:=hwl
  refine⟨w,?_,Qnj (by rw [hwl,Qwi]) fun j=>?_⟩
  ·show QbX n pv l (f:Int) (Qcs f 1 m:Int) (n.Places.length:Int) w=_
   unfold QbX
   rw [Q9 (by omega)];rfl
  rw [hw j]
  by_cases h1:j<n.Places.length
  ·rw [if_pos h1]
  rw [if_neg h1,Qb9 (by simp;omega),Qb9 (by rw [Qwi];omega)]) (0,(List.replicate (n.Places.length:Int).toNat (0:Int)).set f (Qcs f 1 m:Int)) ⟨rfl,by simp,fun j=>by rw [if_neg (by omega)];rfl⟩
 obtain⟨r,hr,rfl⟩:=hh
 exact hr
theorem Qtn.frees (h:Qtn n.Places.length l pv vs m)(hN:n.Places.length≤8):Qq (fun st=>Qbr n pv l st.1 st.2) (0,([]:List (List Int)))=some (Qei n.Places.length m n.Places.length):=by
 have m1:(2048:Nat)≤maxLen:=by decide
 have s3:=QbB (body:=fun st:Int×List (List Int)=>Qbr n pv l st.1 st.2) n.Places.length (fun i s=>s=((i:Int),Qei n.Places.length m i)) (fun r=>r=Qei n.Places.length m n.Places.length) (fun i s hi hs=>by
  subst hs
  left
  show ∃s',Qbr n pv l (i:Int) _=_∧_
  unfold Qbr Qet
  have hfl:(Qei n.Places.length m i).length≤i:=by
   unfold Qei
   rw [Qgb]
   have:=QpO (fun p:Nat=>(QbJ m (p:Int)).isNone) (List.range i)
   simpa using this
  rw [Qaa (show(i:Int)<(n.Places.length:Int) by omega),cond_true,QB,Qx hi (by omega),Quc]
  rcases h.col i hi with⟨u,row,e,c1,c2,c3,c4,c5,c6⟩|⟨c1,c2⟩
  ·have hg:QbJ m (i:Int)=some e.2:=by
    rw [←c4];exact mget_of_mem h.slv.knd c3
   rw [c1,Qh,Qaa (show(0:Int)≤(u:Int) by omega),cond_true,hg]
   exact⟨_,rfl,by simp⟩
  ·have hg:QbJ m (i:Int)=none:=by
    cases hq:QbJ m (i:Int)with
    | none=>rfl
    | some r=>exact absurd rfl (c2 _ (Qnv hq))
   rw [c1,Qh,Q9 (by omega),cond_false,hg,h.all hN hi,Qh]
   unfold QjP QjO Qet
   rw [QdQ (by simp;omega),Qh,QB,QD (by simpa using hi),Qh,Qff (n:=i),h.row hN hi,Qh,Qjy (by simp;omega),Qh,Qx hi (by omega)]
   exact⟨_,rfl,by simp⟩) (fun s hs=>by
  subst hs
  refine⟨_,?_,rfl⟩
  show Qbr n pv l (n.Places.length:Int) _=_
  unfold Qbr
  rw [Q9 (by omega)];rfl) (0,[]) (by simp [Qei])
 obtain⟨r,hr,rfl⟩:=s3
 exact hr
end
end Go.Proofs
noncomputable section
namespace Go.Proofs
open Go Go.RowKit Go.Vm
theorem QyX {x:Int}(h:-32≤x∧x≤32):Qcp x=(decide (4<x)||decide (x < -4)):=by
 unfold Qcp max2
 rw [Qac (by omega)]
 by_cases h1:4<x
 ·rw [Qaa h1,Bool.true_or];split<;>simp<;>omega
 rw [Q9 h1,QmY];split<;>(apply Bool.eq_iff_iff.2;simp;omega)
theorem Qxt {n:Qm}{F:List (List Int)}{i:Nat}{e:List Int}(hi:F[i]? = some e)(he:Eff n 32 e)(hp:n.Places.length≤12):
  Qq (fun st=>QbH n F (i:Int) st) 0=some (if e.any Qcp then .inl ()else .inr ()):=by
 have m1:(2048:Nat)≤maxLen:=by decide
 have hel:e.length=n.Places.length:=he.1
 obtain⟨r,hr,h1⟩:=QbB (body:=fun st:Int=>QbH n F (i:Int) st) n.Places.length (fun k s=>s=(k:Int)∧(e.take k).any Qcp=false) (fun r=>r=if e.any Qcp then .inl ()else .inr ()) (fun k s hk hs=>by
  obtain⟨rfl,hs⟩:=hs
  have hx:e[k]? = some e[k]:=QD (by omega)
  have hin:=he.2 _ (Qbb (l:=e) (n:=k) (by omega))
  have g1:Qkz F (i:Int) (k:Int)=some (Qcp e[k]):=by
   unfold Qkz
   rw [QB,hi,Qh,QB,hx,Qh,QyX hin]
   by_cases h4:4<e[k]
   ·rw [Qaa h4];rfl
   rw [Q9 h4,cond_false,Qh,QB,hx,Qh,QmY]
  show(∃s',QbH n F (i:Int) (k:Int)=_∧_)∨∃r,QbH n F (i:Int) (k:Int)=_∧_
  unfold QbH Qhm
  rw [Qaa (show(k:Int)<(n.Places.length:Int) by omega),cond_true,g1,Qh]
  cases hg:Qcp e[k]with
  | true=>
   right
   refine⟨_,rfl,?_⟩
   rw [if_pos (QiZ.2 ⟨_,Qbb (by omega),hg⟩)]
  | false=>
   left
   refine⟨_,rfl,Qx hk (by omega),?_⟩
   rw [QfH,hx,List.any_append,hs]
   simp [hg]) (fun s hs=>by
  obtain⟨rfl,hs⟩:=hs
  rw [Qgg (by omega)]at hs
  refine⟨_,?_,rfl⟩
  show QbH n F (i:Int) (n.Places.length:Int)=_
  unfold QbH
  rw [Q9 (by omega),hs];rfl) 0 ⟨rfl,rfl⟩
 rw [hr,h1]
theorem Qyd {n:Qm}{F:List (List Int)}(hF:Qho n 2048 F)(hp:n.Places.length≤12):
  Qq (fun st=>QbI F n st) 0=some (if F.any (fun e=>e.any Qcp)then .inl ()else .inr ()):=by
 have m1:(2048:Nat)≤maxLen:=by decide
 have hl:F.length≤2048:=by have:=hF.1;omega
 obtain⟨r,hr,h1⟩:=QbB (body:=fun st:Int=>QbI F n st) F.length (fun k s=>s=(k:Int)∧(F.take k).any (fun e=>e.any Qcp)=false) (fun r=>r=if F.any (fun e=>e.any Qcp)then .inl ()else .inr ()) (fun k s hk hs=>by
  obtain⟨rfl,hs⟩:=hs
  have hx:F[k]? = some F[k]:=QD hk
  show(∃s',QbI F n (k:Int)=_∧_)∨∃r,QbI F n (k:Int)=_∧_
  unfold QbI
  rw [Qaa (show(k:Int)<(F.length:Int) by omega),cond_true,Qxt hx (hF.2 _ (Qbb hk)) hp,Qh]
  cases hg:F[k].any Qcp with
  | true=>
   right
   refine⟨_,rfl,?_⟩
   rw [if_pos (QiZ.2 ⟨_,Qbb hk,hg⟩)]
  | false=>
   left
   refine⟨_,rfl,Qx hk (by omega),?_⟩
   rw [QfH,hx,List.any_append,hs]
   simpa using hg) (fun s hs=>by
  obtain⟨rfl,hs⟩:=hs
  rw [Qgg (by omega)]at hs
  refine⟨_,?_,rfl⟩
  show QbI F n (F.length:Int)=_
  unfold QbI
  rw [Q9 (by omega),hs];rfl) 0 ⟨rfl,rfl⟩
 rw [hr,h1]
def Qll (N:Nat)(k:Int):List Int:=(List.replicate (N:Int).toNat (0:Int)).set k.toNat 1
theorem Qz2 {n:Qm}{F:List (List Int)}{E:List Int}(hF:F.length≤2048)(hE:E.length≤1000)(hk:∀k∈E,0≤k∧k<(n.Places.length:Int))(hp:n.Places.length≤12):
  Qq (fun st=>Qch E n st.1 st.2) (0,F)=some (F++E.map (Qll n.Places.length)):=by
 have m1:(2048:Nat)≤maxLen:=by decide
 obtain⟨r,hr,rfl⟩:=QbB (body:=fun st:Int×List (List Int)=>Qch E n st.1 st.2) E.length (fun i s=>s=((i:Int),F++(E.take i).map (Qll n.Places.length))) (fun r=>r=F++E.map (Qll n.Places.length)) (fun i s hi hs=>by
  subst hs
  left
  have hx:E[i]? = some E[i]:=QD hi
  obtain⟨k0,k1⟩:=hk _ (Qbb hi)
  show ∃s',Qch E n (i:Int) _=_∧_
  unfold Qch
  have kl:E[i].toNat<(List.replicate (n.Places.length:Int).toNat (0:Int)).length:=by simp;omega
  have hidx:idx (List.replicate (n.Places.length:Int).toNat (0:Int)) E[i]=some 0:=by
   rw [QrY k0,QD kl];simp
  rw [Qaa (show(i:Int)<(E.length:Int) by omega),cond_true,QdQ (by simp;omega),Qh,QB,hx,Qh,hidx,Qh,Qjy (by simp;omega),Qh]
  refine⟨_,rfl,?_⟩
  rw [Qx hi (by omega),QfH,hx,QkP,←Qd6]
  rfl) (fun s hs=>by
  subst hs
  refine⟨_,?_,rfl⟩
  show Qch E n (E.length:Int) _=_
  unfold Qch
  rw [Q9 (by omega),Qgg (by omega)];rfl) (0,F) (by simp)
 exact hr
theorem DI.twin {n:Qm}{F:List (List Int)}{E:List Int}{vs0:List Vec}{m:QO}(hb:QyW n F E vs0 m){k:Nat}{l:List (List Int)}{pv:List Int}{g vs:List Vec}{md:QO}(hN:n.Places.length≤8)
  (hO:∀v∈(F++E.map (Qll n.Places.length)).map vec,Qz (Qco m) v) (hO2:∀v∈Qr5 F E,v∈(F++E.map (Qll n.Places.length)).map vec) (hs:∀v∈(F++E.map (Qll n.Places.length)).map vec,∀j,(v j).natAbs≤4)
  (h:DI n.Places.length ((F++E.map (Qll n.Places.length)).map vec) n.Places.length k l pv g vs md) (hmag:∀row∈l,∀j,(vec row j).natAbs≤82575360):Qtn n.Places.length l pv vs0 m:=by
 have in1:∀e∈md,Qz (Qco m) (vec e.2):=fun e he=>(h.slv.back he).transQ fun v hv=>hO v (h.vO v hv)
 have in2:∀e∈m,Qz (Qco md) (vec e.2):=fun e he=>(hb.sO e he).transQ fun v hv=>h.span v (hO2 v hv)
 refine⟨hb.slv,h.len,hmag,h.pl,fun q hq=>?_⟩
 rcases h.piv q hq with⟨u,row,h1,h2,h3,h4⟩|⟨h1,h2⟩
 ·obtain⟨e,he,hek⟩:=Slv.keys_in h.slv hb.slv in1 _ h4
  refine .inl ⟨u,row,e,h1,h3,he,hek,?_,fun j=>?_⟩
  ·have:=h.slv.ne h4
   intro e0
   exact this (QgR.2 (by simpa using e0))
  have:=Slv.line h.slv hb.slv in1 in2 h4 he hek j
  obtain⟨c,hc,hcr⟩:=Qem row
  have hq2:((q:Int),Qad row).1.toNat=q:=by simp
  rw [hq2]at this
  have this:vec e.2 q*vec (Qad row) j=vec (Qad row) q*vec e.2 j:=this
  rw [hcr j,hcr q,Qba,←this,QhR]
 refine .inr ⟨h1,fun e he hek=>h2 ?_⟩
 obtain⟨f,hf,hfk⟩:=Slv.keys_in hb.slv h.slv in2 e he
 exact Qp.2 ⟨f,hf,by rw [hfk,hek]⟩
end Go.Proofs
noncomputable section
namespace Go.Proofs
open Go Go.RowKit Go.Vm
theorem QyY {N k:Nat}{O:List Vec}{l:List (List Int)}{pv:List Int}{g vs:List Vec}{m:QO}(h:DI N O N k l pv g vs m)(hN:N≤8){row:List Int}(hr:row∈l)(j:Nat):(vec row j).natAbs≤82575360:=by
 refine(h.tidy row hr).le (by decide) (fun j=>?_) j
 obtain⟨i,hi⟩:=Qge.1 hr
 by_cases hk:i<k
 ·obtain⟨q,hq⟩:=h.top i row hk hi
  exact h.slv.le hN hq j
 obtain⟨v,hv,hvO⟩:=h.at_ hi
 obtain⟨hz,_⟩:=h.rest i row v (by omega) hi hv
 have:vec (Qad row) j=0:=by
  by_cases hj:j<N
  ·exact QgR.2 (hz j hj)
  exact Qb9 (by rw [QfY,h.len row hr];omega)
 rw [this];decide
theorem Qxu (n:Qm)(h:Qnh n)(hp:n.Places.length≤12)(ht:n.Tasks.length≤8):∃r,QbL n=some r∧Qkl n=some r∧r.1.length≤8∧∀w∈r.1,w.length≤12:=by
 obtain⟨F,E,hF,hF1,hE,hE1,hE2,hb⟩:=QwF n h hp ht
 unfold Qkl
 rw [Qv5,hF,Qh]
 have hl:F.length≤2048:=by have:=hF1.1;omega
 rcases hb with⟨h8,hg,vs,m,hb,e1⟩|⟨hg,e1⟩
 ·rw [Q9 (show ¬(8:Int)<(n.Places.length:Int) by omega),cond_false,Qyd hF1 hp,if_neg (by
   intro h0
   obtain⟨e,he,he2⟩:=QiZ.1 h0
   rw [hg e he]at he2;cases he2),Qh]
  show ∃r,_∧Qgu n F=_∧_
  unfold Qgu
  rw [Qv7 h ht,hE,Qh,Qz2 hl hE1 hE2 hp,Qh]
  unfold QjR
  have hr:∀row∈F++E.map (Qll n.Places.length),row.length=n.Places.length:=fun row hr=>by
   rcases Qdo.1 hr with hr | hr
   ·exact(hF1.2 _ hr).1
   obtain⟨k,hk,rfl⟩:=Qp.1 hr
   unfold Qll;simp
  have eu:∀k∈E,vec (Qll n.Places.length k)=QoP k.toNat:=fun k hk=>Qwk n.Places.length k.toNat (by have:=hE2 k hk;omega)
  have hs:∀row∈F++E.map (Qll n.Places.length),∀j,(vec row j).natAbs≤4:=fun row hr j=>by
   rcases Qdo.1 hr with hr | hr
   ·exact QwL (hF1.2 _ hr) (hg _ hr) j
   obtain⟨k,hk,rfl⟩:=Qp.1 hr
   rw [eu k hk];unfold QoP;split<;>decide
  obtain⟨l',pv,c1,k,g,vd,md,hd⟩:=QAq h8 hr hs (by simp;omega)
  rw [QdQ (by simp;omega),Qh,c1,Qh]
  unfold QjQ
  have tw:=DI.twin hb h8 (fun v hv=>by
    obtain⟨row,hr,rfl⟩:=Qp.1 hv
    rcases Qdo.1 hr with hr | hr
    ·exact hb.sF row hr
    ·obtain⟨k,hk,rfl⟩:=Qp.1 hr
     rw [eu k hk];exact hb.sE k hk) (fun v hv=>by
    unfold Qr5 at hv
    rw [QkP,Qcj]
    rcases Qdo.1 hv with hv | hv
    ·exact QlP _ hv
    ·obtain⟨k,hk,rfl⟩:=Qp.1 hv
     exact QrN _ (Qp.2 ⟨k,hk,eu k hk⟩)) (fun v hv j=>by
    obtain⟨row,hr,rfl⟩:=Qp.1 hv
    exact hs row hr j) hd (fun row hr j=>QyY hd h8 hr j)
  refine⟨_,e1,?_,?_,fun w hw=>?_⟩
  ·show(Qq (fun st=>Qbr n pv l' st.1 st.2) (0,([]:List (List Int)))).bind _=_
   rw [tw.frees h8];rfl
  ·show(Qei n.Places.length m n.Places.length).length≤8
   unfold Qei
   rw [Qgb]
   have:=QpO (fun p:Nat=>(QbJ m (p:Int)).isNone) (List.range n.Places.length)
   rw [QpP]at this
   omega
  have hw:w∈Qei n.Places.length m n.Places.length:=hw
  unfold Qei at hw
  obtain⟨p,hp2,rfl⟩:=Qp.1 hw
  rw [Qwi];exact hp
 refine⟨_,e1,?_,by simp,fun w hw=>by simp at hw⟩
 by_cases h8:8<n.Places.length
 ·rw [Qaa (show(8:Int)<(n.Places.length:Int) by omega)];rfl
 rcases hg with hg | ⟨e,he,hg⟩
 ·exact absurd hg h8
 rw [Q9 (show ¬(8:Int)<(n.Places.length:Int) by omega),cond_false,Qyd hF1 hp,if_pos (QiZ.2 ⟨e,he,hg⟩)];rfl
theorem Qye (a:List Int)(h:a.length≤maxLen):QgC a a=some true:=by
 unfold QgC
 rw [show((a.length:Int) != (a.length:Int))=false by simp,cond_false]
 obtain⟨r,hr,h2⟩:=QbB (body:=fun st:Int=>Qc5 a a st) a.length (fun i s=>s=(i:Int)) (fun r=>r=.inr ()) (fun i s hi hs=>by
  subst hs
  left
  show ∃s',Qc5 a a i=_∧_
  unfold Qc5
  have hx:idx a (i:Int)=some a[i]:=by rw [QB,QD hi]
  rw [Qaa (by omega),cond_true,hx,Qh,Qh]
  exact⟨_,by rw [show(a[i] != a[i])=false by simp,cond_false],Qx hi h⟩) (fun s hs=>by
  subst hs
  refine⟨_,?_,rfl⟩
  show Qc5 a a (a.length:Int)=_
  unfold Qc5
  rw [Q9 (by omega)];rfl) 0 rfl
 subst h2
 rw [hr];rfl
theorem Qyf (a:List (List Int))(h:a.length≤maxLen)(h2:∀x∈a,x.length≤maxLen):QeY a a=some true:=by
 unfold QeY
 rw [show((a.length:Int) != (a.length:Int))=false by simp,cond_false]
 obtain⟨r,hr,h3⟩:=QbB (body:=fun st:Int=>Qc6 a a st) a.length (fun i s=>s=(i:Int)) (fun r=>r=.inr ()) (fun i s hi hs=>by
  subst hs
  left
  show ∃s',Qc6 a a i=_∧_
  unfold Qc6
  have hx:idx a (i:Int)=some a[i]:=by rw [QB,QD hi]
  rw [Qaa (by omega),cond_true,hx,Qh,Qh,Qye _ (h2 _ (Qbb hi)),Qh]
  exact⟨_,rfl,Qx hi h⟩) (fun s hs=>by
  subst hs
  refine⟨_,?_,rfl⟩
  show Qc6 a a (a.length:Int)=_
  unfold Qc6
  rw [Q9 (by omega)];rfl) 0 rfl
 subst h3
 rw [hr];rfl
theorem Qyg (x:List (List Int)×Int)(h1:x.1.length≤8)(h2:∀w∈x.1,w.length≤12):Qq (fun st=>QaX x st) 0=some ():=by
 have mx:(2048:Nat)≤maxLen:=by decide
 obtain⟨r,hr,_⟩:=QbB (body:=fun st:Int=>QaX x st) x.1.length (fun i s=>s=(i:Int)) (fun _=>True) (fun i s hi hs=>by
  subst hs
  left
  show ∃s',QaX x i=_∧_
  unfold QaX
  have hx:idx x.1 (i:Int)=some x.1[i]:=by rw [QB,QD hi]
  have hl:=h2 _ (Qbb hi)
  obtain⟨r,hr,_⟩:=QbB (body:=fun st:Int=>Qbv x i st) x.1[i].length (fun k s=>s=(k:Int)) (fun _=>True) (fun k s hk hs=>by
   subst hs
   left
   show ∃s',Qbv x i k=_∧_
   unfold Qbv
   rw [hx,Qh,Qaa (by omega),cond_true,Qh,QB,QD hk,Qh]
   exact⟨_,rfl,Qx hk (by omega)⟩) (fun s hs=>by
   subst hs
   refine⟨(),?_,trivial⟩
   show Qbv x i (x.1[i].length:Int)=_
   unfold Qbv
   rw [hx,Qh,Q9 (by omega)];rfl) 0 rfl
  rw [Qaa (by omega),cond_true,hr,Qh]
  exact⟨_,rfl,Qx hi (by omega)⟩) (fun s hs=>by
  subst hs
  refine⟨(),?_,trivial⟩
  show QaX x (x.1.length:Int)=_
  unfold QaX
  rw [Q9 (by omega)];rfl) 0 rfl
 exact hr
theorem Qxv {n:Qm}(hk:QK n):Qd3 n=some true:=by
 unfold Qd3
 rw [Qxm,Qh]
 obtain⟨x5,h5,hfine⟩:=QzO n hk
 rw [h5,Qh]
 cases x5 with
 | false=>rfl
 | true=>
  rw [show(!true)=false from rfl,cond_false]
  obtain⟨hN,hp,ht⟩:=hfine rfl
  have m1:(2048:Nat)≤maxLen:=by decide
  obtain⟨r,e1,e2,l1,l2⟩:=Qxu n hN hp ht
  have hs:=Qyf r.1 (by omega) (fun w hw=>by have:=l2 w hw;omega)
  rw [e1,Qh,e2,Qh,hs,Qh,Qyg r l1 l2,Qh]
  unfold QgK QkF
  rw [e1,Qh,cond_true,cond_true,show(r.2==r.2)=true by simp,cond_true,hs]
  rfl
end Go.Proofs
