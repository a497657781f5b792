/- Walks through the program. -/
import Derived.Test.YtkocdcoeinjdbaaGreatDoorK1T1
set_option linter.all false
set_option maxRecDepth 100000
set_option maxHeartbeats 4000000
noncomputable section
namespace Go.Proofs
open Go Go.RowKit Go.Vm Go.Proofs.Tryz
def JJ (f:Int)(a:Int)(y:Int)(g:Bool)(d:LI_)(b:(L_ (Int×(O_ Nat))))(h:(L_ Qh))(i:(L_ (O_ Nat))):O_ ((Int×Int×Bool×LI_×(L_ (Int×(O_ Nat)))×(L_ Qh)×(L_ (O_ Nat)))⊕(LI_×(L_ (Int×(O_ Nat)))×(L_ Qh)×(L_ (O_ Nat)))):=bif (g&&(y<=f))then (chk (d.length+([a]:L_ Int).length<=4294967296)).bind λ_=>(GR i b h).bind λc=>(YY c.2.1 (Ar b a) c.2.2).bind λe=>some (.inl (e.1,e.2.1,e.2.2,(d++([a]:L_ Int)),(Ar b a),c.2.2,c.2.1))else some (.inr (d,b,h,i))
def MB (a:LI_)(b:(L_ (Int×(O_ Nat))))(c:(L_ Qh))(d:(L_ (O_ Nat))):O_ (LI_×(L_ (O_ Nat))×(L_ (Int×(O_ Nat)))×(L_ Qh)):=some (a,d,b,c)
def HZ (c:(L_ (O_ Nat)))(d:(L_ (Int×(O_ Nat))))(a:Int)(e:(L_ Qh)):O_ (LI_×(L_ (O_ Nat))×(L_ (Int×(O_ Nat)))×(L_ Qh)):=(YY c d e).bind λb=>(QO (λst=>JJ a st.1 st.2.1 st.2.2.1 st.2.2.2.1 st.2.2.2.2.1 st.2.2.2.2.2.1 st.2.2.2.2.2.2) (b.1,b.2.1,b.2.2,([]:L_ Int),d,e,c)).bind (λq=>MB q.1 q.2.1 q.2.2.1 q.2.2.2)
def ZZ (gA:Nat->Nat)(w:(L_ (O_ Nat)))(P:(L_ (Int×(O_ Nat))))(a:Int)(t4:(L_ Qh)):CT 222 [.L 617,.I a] [(617,.var [.own 615 w.length,.map 618]),(615,.arr 1 (w.map (Xt gA))),(618,.map (QE V.I (XI gA) P)),(619,.tbl gA 3 (t4.map Qp))] (HZ w P a t4) (λr=>(.own 600 r.1.length)) (λr=>[(600,.arr 1 (r.1.map Qb)),(615,.arr 1 (r.2.1.map (Xt gA))),(617,.var [.own 615 r.2.1.length,.map 618]),(618,.map (QE V.I (XI gA) r.2.2.1)),(619,.tbl gA 3 (r.2.2.2.map Qp))]):=
 W 42 func222 Z λC s r h=>B h λx9 a0 h=>g3_ s [14,.cm (.fn) [(617,617),(615,615),(618,618),(619,619)] [(615,615),(617,617),(618,618),(619,619)] [615] [.d] [(615,.arr 1 (w.map (Xt gA))),(617,.var [.own 615 w.length,.map 618]),(618,.map (QE V.I (XI gA) P)),(619,.tbl gA 3 (t4.map Qp))] (.tup [.I x9.1,.I x9.2.1,.b x9.2.2]),10,.adopt 5 27 1,.O 27 (.arr 1 (([]:L_ Int).map Qb)),.S 5 (.own 27 ([]:L_ Int).length)] Z (LJ gA _ _ _ _ a0) Z (congrArg (λn=>V.own 27 n) (by simp))<|lp_ h (λst=>⟨[(0,.L 617),(1,.I a),(5,.own 27 st.2.2.2.1.length),(6,.I st.1),(7,.I st.2.1),(8,.b st.2.2.1)],[(27,.arr 1 (st.2.2.2.1.map Qb)),(615,.arr 1 (st.2.2.2.2.2.2.map (Xt gA))),(617,.var [.own 615 st.2.2.2.2.2.2.length,.map 618]),(618,.map (QE V.I (XI gA) st.2.2.2.2.1)),(619,.tbl gA 3 (st.2.2.2.2.2.1.map Qp))]⟩) (λq=>(.exit 0,⟨[(5,.own 27 q.1.length)],[(27,.arr 1 (q.1.map Qb)),(615,.arr 1 (q.2.2.2.map (Xt gA))),(617,.var [.own 615 q.2.2.2.length,.map 618]),(618,.map (QE V.I (XI gA) q.2.1)),(619,.tbl gA 3 (q.2.2.1.map Qp))]⟩)) Z (λ⟨c,at_14,j,t,m,a1,y⟩ o h=>H s [2] Z<|Y ⟨[(0,.L 617),(1,.I a),(5,.own 27 t.length),(6,.I c),(20,.b (j&&(at_14<=a)))],[(27,.arr 1 (t.map Qb)),(615,.arr 1 (y.map (Xt gA))),(617,.var [.own 615 y.length,.map 618]),(618,.map (QE V.I (XI gA) m)),(619,.tbl gA 3 (a1.map Qp))]⟩ (H s [3] Z<|bO_ j (λg=>G s [.S 16 (.b true),5,.S 20 (.b (j&&(at_14<=a)))] Z ⟨(tc_ g),(cb_ (Jz g Z))⟩<|M Z) λg=>G s [.S 16 (.b false),5,.S 20 (.b (j&&(at_14<=a)))] Z ⟨(tc_ g),(cb_ (Ww g Z))⟩<|M Z)<|H s [1] Z<|I h (λp h=>X h λz h=>B h λi D h=>B h λu N h=>G s [.T,8,.v (.bd []) [] (.sl 1 (([c]:L_ Int).map Qb)),.app ((t++([c]:L_ Int)).map Qb) (t++([c]:L_ Int)).length,9,.cm (.fn) [(617,617),(615,615),(618,618),(619,619)] [(615,615),(617,617),(618,618),(619,619)] [615] [.d] [(615,.arr 1 (i.2.1.map (Xt gA))),(617,.var [.own 615 i.2.1.length,.map 618]),(618,.map (QE V.I (XI gA) m)),(619,.tbl gA 3 (i.2.2.map Qp))] (.ifc 289 (XI gA i.1)),8,.x (λσ=>σ.set 618 (.map (QE V.I (XI gA) (Ar m c)))),5,.cm (.fn) [(617,617),(615,615),(618,618),(619,619)] [(615,615),(617,617),(618,618),(619,619)] [615] [.d] [(615,.arr 1 (i.2.1.map (Xt gA))),(617,.var [.own 615 i.2.1.length,.map 618]),(618,.map (QE V.I (XI gA) (Ar m c))),(619,.tbl gA 3 (i.2.2.map Qp))] (.tup [.I u.1,.I u.2.1,.b u.2.2]),8] Z (a6_ p Z ⟨Qc,Uv z Qc,Jr,WX Qc⟩ (SB gA _ _ _ _ D) (Qe.delete (e:=V.I) (f:=(XI gA)) (l:=m) (k:=c) Z Z Z Z Z Qh1 GJ) (LJ gA _ _ _ _ N))<|rN_ h Z) λp h=>J s [.F,2] Z p<|rX_ h Z) λ⟨a2,a3,a4,a5⟩ h=>H s [9,.K [4] [27,615,617,618,619],.ren 27 600] Z<|E h Z r5_
def Hk (e:Int)(f:(L_ (Int×Bool)))(a:Qu)(b:(L_ (O_ Nat)))(c:(L_ (Int×(O_ Nat))))(d:(L_ Qh)):O_ ((Int×(L_ (Int×Bool))×(L_ (O_ Nat))×(L_ (Int×(O_ Nat)))×(L_ Qh))⊕((L_ (O_ Nat))×(L_ (Int×(O_ Nat)))×(L_ Qh))):=some (.inl ((Qs (e+1)),(YP Dy f a.Id true),b,c,d))
def Wr (h:(L_ Qu))(d:Int)(e:(L_ (Int×Bool)))(f:(L_ (O_ Nat)))(g:(L_ (Int×(O_ Nat))))(b:(L_ Qh)):O_ ((Int×(L_ (Int×Bool))×(L_ (O_ Nat))×(L_ (Int×(O_ Nat)))×(L_ Qh))⊕((L_ (O_ Nat))×(L_ (Int×(O_ Nat)))×(L_ Qh))):=bif (d<(h.length:Int))then (idx h d).bind λa=>bif ((!((Xa e a.Id).getD false))&&(0<a.Until))then (GQ f g a.Id a.Until b).bind λc=>Hk d e a c.2.1 c.2.2.2 c.2.2.1 else Hk d e a f g b else some (.inr (f,g,b))
def Hl (a:Int)(b:(L_ (O_ Nat)))(c:(L_ (Int×(O_ Nat))))(d:(L_ Qh)):O_ LI_:=(HZ b c a d).bind λe=>some e.1
def Ce (c:(L_ Qu))(a:Int):O_ LI_:=(Vn).bind λb=>(QO (λst=>Wr c st.1 st.2.1 st.2.2.1 st.2.2.2.1 st.2.2.2.2) (0,([]:(L_ (Int×Bool))),([]:L_ (O_ Nat)),b.1,b.2)).bind (λq=>Hl a q.1 q.2.1 q.2.2)
def Qf5 (gA:Nat->Nat)(u:(L_ Qu))(c:Int):CT 133 [.sl 11 (u.map Qi),.I c] [] (Ce u c) (λr=>(.own 600 r.length)) (λr=>[(600,.arr 1 (r.map Qb))]):=by
 refine W 40 func133 rfl λC g r h=>?_
 obtain⟨x4,a2,h⟩:=Qm h
 refine Qf g [7,.cm (.fn) [] [(9,1),(609,3),(610,608)] [] [] [(1,.map (QE V.I (XI gA) x4.1)),(3,.var [.Y,.map 1]),(608,.tbl gA 3 (x4.2.map Qp))] (.L 3),6,.O 10 (.map (QE V.I V.b ([]:(L_ (Int×Bool))))),7,.o (.ln u.length),4,.adoptO 609 0 614 1,.O 614 (.arr 1 (([]:L_ (O_ Nat)).map (Xt gA))),.O 609 (.var [.own 614 ([]:L_ (O_ Nat)).length,.map 9]),.K [1,5,6,11,12,13] [9,10,609,610,614]] Z (a5_ (Qf4 gA _  a2) Z Qc Z (congrArg (λn=>Ob.var [.own 614 n,.map 9]) (by simp))) ?_
 obtain⟨a3,N,h⟩:=Qm h
 refine AK.loop (body:=(λst=>Wr u st.1 st.2.1 st.2.2.1 st.2.2.2.1 st.2.2.2.2)) (λst σ=>∃gA:Nat->Nat,σ=⟨[(1,.I c),(5,.L 609),(6,.map 10),(11,.sl 11 (u.map Qi)),(12,.I (u.length:Int)),(13,.I st.1)],[(9,.map (QE V.I (XI gA) st.2.2.2.1)),(10,.map (QE V.I V.b st.2.1)),(609,.var [.own 614 st.2.2.1.length,.map 9]),(610,.tbl gA 3 (st.2.2.2.2.map Qp)),(614,.arr 1 (st.2.2.1.map (Xt gA)))]⟩) (λq e σ=>e=.exit 0/\∃gA:Nat->Nat,σ=⟨[(1,.I c),(5,.L 609)],[(9,.map (QE V.I (XI gA) q.2.1)),(609,.var [.own 614 q.1.length,.map 9]),(610,.tbl gA 3 (q.2.2.map Qp)),(614,.arr 1 (q.1.map (Xt gA)))]⟩) N (ex_ _ rfl) ?_ ?_
 ·rintro ⟨x6,m,l8,m9,a4⟩ o σ ⟨gA,rfl⟩ h
  refine tg_ g [6] ?_
  rcases Xq h with⟨p,h⟩|⟨p,h⟩
  ·obtain⟨a,P,h⟩:=Qm h
   refine Qf g [.T,6,.o (.row (Qi a)),.A (Qi a),2,.O 8 (.var (Qi a)),2] Z (a4_ p (Xb P) Z Z) ?_
   refine AK.meet (λσ=>∃gA:Nat->Nat,∃w:(L_ (O_ Nat)),∃y:(L_ (Int×(O_ Nat))),∃D:(L_ Qh),σ=⟨[(1,.I c),(5,.L 609),(6,.map 10),lk_ 8,(11,.sl 11 (u.map Qi)),(12,.I (u.length:Int)),(13,.I x6)],[(8,.var (Qi a)),(9,.map (QE V.I (XI gA) y)),(10,.map (QE V.I V.b m)),(609,.var [.own 614 w.length,.map 9]),(610,.tbl gA 3 (D.map Qp)),(614,.arr 1 (w.map (Xt gA)))]⟩/\Hk x6 m a w y D=some o) ?_ ?_
   ·refine tg_ g [1] ?_
    refine AK.meetX (λσ=>σ=⟨[(1,.I c),(5,.L 609),(6,.map 10),lk_ 8,(11,.sl 11 (u.map Qi)),(12,.I (u.length:Int)),(13,.I x6),(26,.b ((!((Xa m a.Id).getD false))&&(0<a.Until)))],[(8,.var (Qi a)),(9,.map (QE V.I (XI gA) m9)),(10,.map (QE V.I V.b m)),(609,.var [.own 614 l8.length,.map 9]),(610,.tbl gA 3 (a4.map Qp)),(614,.arr 1 (l8.map (Xt gA)))]⟩) ?_ ?_
    ·exact J g [4,.o (.any (.b ((Xa m a.Id).getD false)) none),2] Z (λσ h1 h2 _=>Qe.lookup (e:=V.I) (f:=V.b) (l:=m) (k:=a.Id) (z:=false) Z Z (QG g.n Z) (h1 _ _ Z) (h2 _ _ Z) (h1 _ _ Z) Qj6 GJ Qlh Z)<|bO_ (!((Xa m a.Id).getD false)) (λi=>G g [.S 22 (.b true),5,.S 26 (.b ((!((Xa m a.Id).getD false))&&(0<a.Until)))] Z ⟨(tc_ i),(cb_ (Jz i Z))⟩<|M Z) λi=>G g [.S 22 (.b false),5,.S 26 (.b ((!((Xa m a.Id).getD false))&&(0<a.Until)))] Z ⟨(tc_ i),(cb_ (Ww i Z))⟩<|M Z
    rintro σ rfl
    refine tg_ g [1] ?_
    rcases Xq h with⟨s,h⟩|⟨s,h⟩
    ·obtain⟨t,a0,h⟩:=Qm h
     refine Qf g [.T,6] Z (A s) ?_
     refine AK.callE (ι:=Nat->Nat) (Φ:=λ_=>True) [(617,609),(615,614),(618,9),(616,610)] [(614,615),(610,616),(609,617),(9,618)] [614,610] [.d,.d,.d] (λgA=>[(615,.arr 1 (t.2.1.map (Xt gA))),(616,.tbl gA 3 (t.2.2.1.map Qp)),(617,.var [.own 615 t.2.1.length,.map 618]),(618,.map (QE V.I (XI gA) t.2.2.2))]) (λgA=>.I t.1) (λgA=>_) rfl g (YL.fn rfl (by kernel_rfl) rfl) rfl (QG g.n rfl) rfl rfl (SA gA _ _ _ _ _ a0) (λgA=>ex_ _ rfl) λgA _=>?_
     refine tg_ g [1,.K [1,5,6,8,11,12,13] [8,9,10,609,610,614]] ?_
     exact AK.met (ex_ _ (ex_ _ (ex_ _ (ex_ _ (an_ Z h)))))
    refine Qf g [.F,1,.K [1,5,6,8,11,12,13] [8,9,10,609,610,614]] Z (A s) ?_
    exact AK.met (ex_ _ (ex_ _ (ex_ _ (ex_ _ (an_ Z h)))))
   rintro σ ⟨gA,w,y,D,rfl,h⟩
   refine Qf g [4,.x (λσ=>σ.set 10 (.map (QE V.I V.b (YP Dy m a.Id true)))),7,.K [1,5,6,11,12,13] [9,10,609,610,614]] Z (A (Qe.mapUpdate (e:=V.I) (f:=V.b) (l:=m) (k:=a.Id) (v:=true) Dy Z Z Z Z Z Z Qj6 GJ Z)) ?_
   cases h
   exact OP Z (ex_ _ Z)
  refine Qf g [.F,2,.K [1,5] [9,609,610,614]] Z (A p) ?_
  cases h
  exact Rn Z (an_ Z (ex_ _ Z))
 obtain⟨a5,a6,a7⟩:=a3
 replace h:Hl c a5 a6 a7=some r:=h
 unfold Hl at h
 rintro e σ ⟨rfl,gA,rfl⟩
 exact B h λj a1 h=>J g [6,.cm (.fn) [(617,609),(615,614),(618,9),(619,610)] [(39,600),(614,615),(609,617),(9,618),(610,619)] [614] [.d,.d] [(600,.arr 1 (j.1.map Qb)),(615,.arr 1 (j.2.1.map (Xt gA))),(617,.var [.own 615 j.2.1.length,.map 618]),(618,.map (QE V.I (XI gA) j.2.2.1)),(619,.tbl gA 3 (j.2.2.2.map Qp))] (.own 600 j.1.length),4,.K [4] [39],.ren 39 600] Z (ZZ gA _ _ _ _ _ a1)<|E h Z r1_
def Ws (g:LI_)(c:Int)(a:QF):O_ ((Int×QF)⊕((Int×QF)⊕QF)):=bif (c<(g.length:Int))then (idx g c).bind λd=>(JO a.now.Items d).bind λe=>(idx a.now.Items e).bind λf=>(Kg a f).bind λb=>bif (b.1 != 0)then some (.inr (.inl (b.1,b.2)))else some (.inl ((Qs (c+1)),b.2))else some (.inr (.inr a))
def LK (a:Int)(b:QF):O_ (Int×QA×QF):=some (a,(QA.mk 0 0 ([]:LI_)),b)
def LL (b:LI_)(a:QF):O_ (Int×QA×QF):=some (0,(QA.mk 0 0 b),a)
def UE (a:QF):O_ (Int×QA×QF):=bif (a.now.Now==1099511627776)then some (1,(QA.mk 0 0 ([]:LI_)),a)else (Ce a.now.Items (Qs (a.now.Now+1))).bind λb=>(QO (λst=>Ws b st.1 st.2) (0,(QF.mk a.net (QK.mk a.now.M a.now.Items a.now.Next (Qs (a.now.Now+1))) a.call))).bind (Sum.elim (λq=>LK q.1 q.2) (λq=>LL b q))
def VU (j):CT 73 [.L 617] [(617,.var (Qw j))] (UE j) (λr=>(.tup [.agg (Qq r.2.1),.I r.1])) (λr=>[(617,.var (Qw r.2.2))]):=by
 refine W 64 func73 rfl λC b r h=>?_
 refine tg_ b [17] ?_
 rcases Xq h with⟨l,h⟩|⟨l,h⟩
 ·refine Qf b [.T,2,.v .no [none,none,some 1] (.agg (Qq (QA.mk 0 0 ([]:LI_)))),1,.O 2 (.var (Qq (QA.mk 0 0 ([]:LI_)))),5,.K [2,3] [2,617]] Z (a3_ l Z Z) ?_
  cases h
  exact AK.done (ex_ [_,_] (an_ (an_ (ex_ _ (ex_ _ (an_ Z (an_ Z (Or.inl (an_ (Qd.ag Z) (an_ (Qd.sz Z) Z))))))) (an_ Z U)) (gives r1_)))
 obtain⟨f,y,h⟩:=Qm h
 refine Qf b [.F,14,.O 617 (.var (Qw (QF.mk j.net (QK.mk j.now.M j.now.Items j.now.Next (Qs (j.now.Now+1))) j.call))),3,.K [0,2] [2,617]] Z (a2_ l Z) ?_
 refine AK.draw2 Qd b mixed [.N,.N,.N,.N,.N,.N,.N,.N,.N,.N,.B (.co false [.d,.d] 1 (f.map Qb) f.length),.N] [] [] [0,2,4] [2,34,617] rfl rfl rfl ⟨U,⟨(Qf5 (λ_=>0) _ _ _ y),Qc,.inl rfl⟩⟩ rfl (by kernel_rfl) rfl rfl rfl ?_
 refine tg_ b [10,.K [0,2,4,35,36,37] [2,34,617]] ?_
 obtain⟨z,s,h⟩:=Qm h
 refine AK.loop (body:=(λst=>Ws f st.1 st.2)) (λst σ=>σ=⟨[(0,.L 617),lk_ 2,(4,.own 34 f.length),(35,.own 34 f.length),(36,.I (f.length:Int)),(37,.I st.1)],[(2,.var [.I 0,.I 0,.Y]),(34,.arr 1 (f.map Qb)),(617,.var (Qw st.2))]⟩) (Sum.elim (λq e σ=>e=.ret/\σ=⟨[lk_ 2,(3,.I q.1)],[(2,.var (Qq (QA.mk 0 0 ([]:LI_)))),(617,.var (Qw q.2))]⟩) (λq e σ=>e=.exit 0/\σ=⟨[lk_ 2,(4,.own 34 f.length)],[(2,.var [.I 0,.I 0,.Y]),(34,.arr 1 (f.map Qb)),(617,.var (Qw q))]⟩)) s rfl ?_ ?_
 ·rintro ⟨a2,a3⟩ o σ rfl h
  refine tg_ b [6] ?_
  rcases Xq h with⟨g,h⟩|⟨g,h⟩
  ·obtain⟨D,k,h⟩:=Qm h
   obtain⟨P,t,h⟩:=Qm h
   obtain⟨u,w,h⟩:=Qm h
   obtain⟨p,x,h⟩:=Qm h
   refine Qf b [.T,7,.o (.row (Qb D)),4,.K [0,2,4,6,35,36,37] [2,34,617]] Z (a3_ g (Yh k Z) (Xs (YC k).2)) ?_
   refine AK.draw2 Qd b mixed [.N,.N,.N,.N,.N,.N,.N,.N,.N,.N,.N,.N,.B (.C2 (.I P)),.B (.row (Qi u)),.E (.agg (Qi u)),.m (.cm (.fn) [(617,617)] [(617,617)] [] [.d,.d,.d] [(617,.var (Qw p.2))] (.I p.1) []),.N] [] [] [0,2,4,7,35,36,37] [2,34,617] rfl rfl rfl ⟨⟨⟨⟨U,(CH _ _ _ t)⟩,(Xb w)⟩,rfl⟩,⟨U,(EB _ _ _ x)⟩⟩ rfl (by kernel_rfl) rfl rfl rfl ?_
   refine Qf b [.O 617 (.var (Qw p.2)),7] Z (A Z) ?_
   refine bg_ h (λi h=>Qf b [.T,2,.v .no [none,none,some 1] (.agg (Qq (QA.mk 0 0 ([]:LI_)))),2,.O 2 (.var (Qq (QA.mk 0 0 ([]:LI_)))),6,.K [2,3] [2,617]] rfl (a3_ i rfl rfl) ?_) λi h=>Qf b [.F,7,.K [0,2,4,35,36,37] [2,34,617]] rfl (A i) ?_
   ·cases h
    exact QhE Z (an_ Z Z)
   cases h
   exact OP Z Z
  refine Qf b [.F,2,.K [2,4] [2,34,617]] Z (A g) ?_
  cases h
  exact Rn Z (an_ Z Z)
 rcases z with(⟨S,a0⟩|a1)
 ·replace h:LK S a0=some r:=h
  rintro e σ ⟨rfl,rfl⟩
  refine tg_ b [2,.K [2,3] [2,617]] ?_
  cases h
  exact AK.done (ex_ [_,_] (an_ (an_ (ex_ _ (ex_ _ (an_ Z (an_ Z (Or.inl (an_ (Qd.ag Z) (an_ (Qd.sz Z) Z))))))) (an_ Z U)) (gives r1_)))
 replace h:LL f a1=some r:=h
 rintro e σ ⟨rfl,rfl⟩
 refine Qf b [5,.A [.I 0,.I 0,.own 34 f.length],1,.O 2 (.var [.I 0,.I 0,.own 34 f.length]),4,.frz 34 (f.map Qb) [] [2],.K [2,3] [2,617]] Z (a3_ Z Z (A ⟨(KS Qc),U⟩)) ?_
 cases h
 exact AK.done (ex_ [_,_] (an_ (an_ (ex_ _ (ex_ _ (an_ Z (an_ Z (Or.inl (an_ (Qd.ag Z) (an_ (Qd.sz Z) Z))))))) (an_ Z U)) (gives r1_)))
def Hm (f:Ql)(b:QK)(g:QK)(h:Xy)(i:Unit):O_ (QK×QA):=(Wq f b).bind λc=>bif (!c)then (Yk b).bind λd=>some (d,(QA.mk 1 0 ([]:LI_)))else (DD (QF.mk f g h)).bind λa=>bif (a.1 != 0)then (Yk b).bind λe=>some (e,(QA.mk a.1 0 ([]:LI_)))else some (a.2.2.now,a.2.1)
def Hn (f:Ql)(b:QK)(g:QK)(h:Xy)(i:Unit):O_ (QK×QA):=(Wq f b).bind λc=>bif (!c)then (Yk b).bind λd=>some (d,(QA.mk 1 0 ([]:LI_)))else (EQ (QF.mk f g h)).bind λa=>bif (a.1 != 0)then (Yk b).bind λe=>some (e,(QA.mk a.1 0 ([]:LI_)))else some (a.2.2.now,a.2.1)
def Ho (f:Ql)(b:QK)(g:QK)(h:Xy)(i:Unit):O_ (QK×QA):=(Wq f b).bind λc=>bif (!c)then (Yk b).bind λd=>some (d,(QA.mk 1 0 ([]:LI_)))else (GP (QF.mk f g h)).bind λa=>bif (a.1 != 0)then (Yk b).bind λe=>some (e,(QA.mk a.1 0 ([]:LI_)))else some (a.2.2.now,a.2.1)
def Hp (f:Ql)(b:QK)(g:QK)(h:Xy)(i:Unit):O_ (QK×QA):=(Wq f b).bind λc=>bif (!c)then (Yk b).bind λd=>some (d,(QA.mk 1 0 ([]:LI_)))else (UE (QF.mk f g h)).bind λa=>bif (a.1 != 0)then (Yk b).bind λe=>some (e,(QA.mk a.1 0 ([]:LI_)))else some (a.2.2.now,a.2.1)
def Hq (b:QK)(c:Unit):O_ (QK×QA):=(Yk b).bind λa=>some (a,(QA.mk 1 0 ([]:LI_)))
def Cf (b:Ql)(a:QK)(c:Xy):O_ (QK×QA):=(Yk a).bind λd=>(Fs (QF.mk b d c)).bind (Sum.elim (λq=>Hm b a d c q) (Sum.elim (λq=>Hn b a d c q) (Sum.elim (λq=>Ho b a d c q) (Sum.elim (λq=>Hp b a d c q) (λq=>Hq a q)))))
def NJ (l f q):CT 16 [.agg (Qa l),.agg (Qt f),.agg (Xl q)] [] (Cf l f q) (λr=>(.tup [.agg (Qt r.1),.agg (Qq r.2)])) no_:=by
 refine W 47 func16 rfl λC e r h=>?_
 obtain⟨t,c8,h⟩:=Qm h
 refine tg_ e [10,.K [3,4,5,6,7] [3,4,5,6,7]] ?_
 refine AK.draw2 Qd e mixed [.E (.agg (Qa l)),.E (.agg (Qt f)),.B (.C1 (.agg (Qt t))),.E (.agg (Xl q)),.E (.agg (Qw (QF.mk l t q))),.N,.N] [] [] [3,4,6,7,8] [3,4,6,7,17] rfl rfl rfl ⟨⟨⟨⟨⟨U,rfl⟩,rfl⟩,(Yt _ _ c8)⟩,rfl⟩,rfl⟩ rfl (by kernel_rfl) rfl rfl rfl ?_
 obtain⟨x9,u,h⟩:=Qm h
 refine tg_ e [4] ?_
 rcases x9 with(c9 | (d0 | (d1 | (d2 | d3))))
 ·replace h:Hm l f t q c9=some r:=h
  obtain⟨d4,a1,h⟩:=Qm h
  refine Qf e [.cm (.fn) [(617,17)] [(17,617)] [] [.d] [(617,.var (Qw (QF.mk l t q)))] (.clo (.func 71) [.L 617] []),7,.o (.any (.b false) none),1,.A (Qa l),.A (Qt f),.o (.C2 (.b d4)),4] Z (a5_ (Wo _ u) (λσ p h2 _=>Qe.eqFn Z Z (QG e.n Z) (p _ _ Z) (p _ _ Z) Qez) Z Z (Gx _ _ _ a1)) ?_
  rcases Xq h with⟨w,h⟩|⟨w,h⟩
  ·obtain⟨a2,a3,h⟩:=Qm h
   refine Qf e [.T,2,.A (Qt f),.o (.C1 (.agg (Qt a2))),.v .no [none,none,some 1] (.agg (Qq (QA.mk 1 0 ([]:LI_)))),1,.O 6 (.var (Qt a2)),1,.O 7 (.var (Qq (QA.mk 1 0 ([]:LI_)))),4,.K [6,7] [6,7]] Z (a6_ w Z (Yt _ _ a3) Z Z Z) ?_
   cases h
   exact AK.done (ex_ [_,_] (an_ (an_ (ex_ _ (ex_ _ (an_ Z (an_ Z (Or.inl (an_ (Qd.ag Z) (an_ (Qd.sz Z) Z))))))) (an_ (ex_ _ (ex_ _ (an_ Z (an_ Z (Or.inl (an_ (Qd.ag Z) (an_ (Qd.sz Z) Z))))))) U)) (gives U)))
  obtain⟨g,a4,h⟩:=Qm h
  refine Qf e [.F,5,.cm (.clo) [(617,17)] [(17,617)] [] [.d] [(617,.var (Qw g.2.2))] (.tup [.agg (Qq g.2.1),.I g.1]),5,.O 10 (.var (Qq g.2.1)),10] Z (a3_ w (PN _ _ a4) Z) ?_
  rcases Xq h with⟨x,h⟩|⟨x,h⟩
  ·obtain⟨a5,a6,h⟩:=Qm h
   refine Qf e [.T,2,.A (Qt f),.o (.C1 (.agg (Qt a5))),1,.v .no [none,none,some 1] (.agg (Qq (QA.mk g.1 0 ([]:LI_)))),1,.O 6 (.var (Qt a5)),1,.O 7 (.var (Qq (QA.mk g.1 0 ([]:LI_)))),4,.K [6,7] [6,7]] Z (a6_ x Z (Yt _ _ a6) Z Z Z) ?_
   cases h
   exact AK.done (ex_ [_,_] (an_ (an_ (ex_ _ (ex_ _ (an_ Z (an_ Z (Or.inl (an_ (Qd.ag Z) (an_ (Qd.sz Z) Z))))))) (an_ (ex_ _ (ex_ _ (an_ Z (an_ Z (Or.inl (an_ (Qd.ag Z) (an_ (Qd.sz Z) Z))))))) U)) (gives U)))
  refine Qf e [.F,3,.K [6,7,8,10] [6,7,10,17]] Z (A x) ?_
  refine AK.draw2 Qd e mixed [.N,.N,.N,.E (.agg (Qt g.2.2.now)),.a .no (some ([],.agg (Qq g.2.1))) true,.m .s,.m .s] [6,7,8,10] [7,10,17] [6,7] [6,7] rfl rfl rfl ⟨⟨U,rfl⟩,rfl⟩ rfl (by kernel_rfl) rfl rfl rfl ?_
  refine Qf e [.O 6 (.var (Qt g.2.2.now)),.O 7 (.var (Qq g.2.1)),2,.K [6,7] [6,7]] Z (a2_ Z Z) ?_
  cases h
  exact AK.done (ex_ [_,_] (an_ (an_ (ex_ _ (ex_ _ (an_ Z (an_ Z (Or.inl (an_ (Qd.ag Z) (an_ (Qd.sz Z) Z))))))) (an_ (ex_ _ (ex_ _ (an_ Z (an_ Z (Or.inl (an_ (Qd.ag Z) (an_ (Qd.sz Z) Z))))))) U)) (gives U)))
 ·replace h:Hn l f t q d0=some r:=h
  obtain⟨d5,a7,h⟩:=Qm h
  refine Qf e [.cm (.fn) [(617,17)] [(17,617)] [] [.d] [(617,.var (Qw (QF.mk l t q)))] (.clo (.func 70) [.L 617] []),7,.o (.any (.b false) none),1,.A (Qa l),.A (Qt f),.o (.C2 (.b d5)),4] Z (a5_ (Wo _ u) (λσ p h2 _=>Qe.eqFn Z Z (QG e.n Z) (p _ _ Z) (p _ _ Z) Qez) Z Z (Gx _ _ _ a7)) ?_
  rcases Xq h with⟨y,h⟩|⟨y,h⟩
  ·obtain⟨a8,a9,h⟩:=Qm h
   refine Qf e [.T,2,.A (Qt f),.o (.C1 (.agg (Qt a8))),.v .no [none,none,some 1] (.agg (Qq (QA.mk 1 0 ([]:LI_)))),1,.O 6 (.var (Qt a8)),1,.O 7 (.var (Qq (QA.mk 1 0 ([]:LI_)))),4,.K [6,7] [6,7]] Z (a6_ y Z (Yt _ _ a9) Z Z Z) ?_
   cases h
   exact AK.done (ex_ [_,_] (an_ (an_ (ex_ _ (ex_ _ (an_ Z (an_ Z (Or.inl (an_ (Qd.ag Z) (an_ (Qd.sz Z) Z))))))) (an_ (ex_ _ (ex_ _ (an_ Z (an_ Z (Or.inl (an_ (Qd.ag Z) (an_ (Qd.sz Z) Z))))))) U)) (gives U)))
  obtain⟨i,b0,h⟩:=Qm h
  refine Qf e [.F,5,.cm (.clo) [(617,17)] [(17,617)] [] [.d] [(617,.var (Qw i.2.2))] (.tup [.agg (Qq i.2.1),.I i.1]),5,.O 10 (.var (Qq i.2.1)),10] Z (a3_ y (Vl _ _ b0) Z) ?_
  rcases Xq h with⟨z,h⟩|⟨z,h⟩
  ·obtain⟨b1,b2,h⟩:=Qm h
   refine Qf e [.T,2,.A (Qt f),.o (.C1 (.agg (Qt b1))),1,.v .no [none,none,some 1] (.agg (Qq (QA.mk i.1 0 ([]:LI_)))),1,.O 6 (.var (Qt b1)),1,.O 7 (.var (Qq (QA.mk i.1 0 ([]:LI_)))),4,.K [6,7] [6,7]] Z (a6_ z Z (Yt _ _ b2) Z Z Z) ?_
   cases h
   exact AK.done (ex_ [_,_] (an_ (an_ (ex_ _ (ex_ _ (an_ Z (an_ Z (Or.inl (an_ (Qd.ag Z) (an_ (Qd.sz Z) Z))))))) (an_ (ex_ _ (ex_ _ (an_ Z (an_ Z (Or.inl (an_ (Qd.ag Z) (an_ (Qd.sz Z) Z))))))) U)) (gives U)))
  refine Qf e [.F,3,.K [6,7,8,10] [6,7,10,17]] Z (A z) ?_
  refine AK.draw2 Qd e mixed [.N,.N,.N,.E (.agg (Qt i.2.2.now)),.a .no (some ([],.agg (Qq i.2.1))) true,.m .s,.m .s] [6,7,8,10] [7,10,17] [6,7] [6,7] rfl rfl rfl ⟨⟨U,rfl⟩,rfl⟩ rfl (by kernel_rfl) rfl rfl rfl ?_
  refine Qf e [.O 6 (.var (Qt i.2.2.now)),.O 7 (.var (Qq i.2.1)),2,.K [6,7] [6,7]] Z (a2_ Z Z) ?_
  cases h
  exact AK.done (ex_ [_,_] (an_ (an_ (ex_ _ (ex_ _ (an_ Z (an_ Z (Or.inl (an_ (Qd.ag Z) (an_ (Qd.sz Z) Z))))))) (an_ (ex_ _ (ex_ _ (an_ Z (an_ Z (Or.inl (an_ (Qd.ag Z) (an_ (Qd.sz Z) Z))))))) U)) (gives U)))
 ·replace h:Ho l f t q d1=some r:=h
  obtain⟨d6,b3,h⟩:=Qm h
  refine Qf e [.cm (.fn) [(617,17)] [(17,617)] [] [.d] [(617,.var (Qw (QF.mk l t q)))] (.clo (.func 72) [.L 617] []),7,.o (.any (.b false) none),1,.A (Qa l),.A (Qt f),.o (.C2 (.b d6)),4] Z (a5_ (Wo _ u) (λσ p h2 _=>Qe.eqFn Z Z (QG e.n Z) (p _ _ Z) (p _ _ Z) Qez) Z Z (Gx _ _ _ b3)) ?_
  rcases Xq h with⟨D,h⟩|⟨D,h⟩
  ·obtain⟨b4,b5,h⟩:=Qm h
   refine Qf e [.T,2,.A (Qt f),.o (.C1 (.agg (Qt b4))),.v .no [none,none,some 1] (.agg (Qq (QA.mk 1 0 ([]:LI_)))),1,.O 6 (.var (Qt b4)),1,.O 7 (.var (Qq (QA.mk 1 0 ([]:LI_)))),4,.K [6,7] [6,7]] Z (a6_ D Z (Yt _ _ b5) Z Z Z) ?_
   cases h
   exact AK.done (ex_ [_,_] (an_ (an_ (ex_ _ (ex_ _ (an_ Z (an_ Z (Or.inl (an_ (Qd.ag Z) (an_ (Qd.sz Z) Z))))))) (an_ (ex_ _ (ex_ _ (an_ Z (an_ Z (Or.inl (an_ (Qd.ag Z) (an_ (Qd.sz Z) Z))))))) U)) (gives U)))
  obtain⟨j,b6,h⟩:=Qm h
  refine Qf e [.F,5,.cm (.clo) [(617,17)] [(17,617)] [] [.d] [(617,.var (Qw j.2.2))] (.tup [.agg (Qq j.2.1),.I j.1]),5,.O 10 (.var (Qq j.2.1)),10] Z (a3_ D (Sx _ _ b6) Z) ?_
  rcases Xq h with⟨P,h⟩|⟨P,h⟩
  ·obtain⟨b7,b8,h⟩:=Qm h
   refine Qf e [.T,2,.A (Qt f),.o (.C1 (.agg (Qt b7))),1,.v .no [none,none,some 1] (.agg (Qq (QA.mk j.1 0 ([]:LI_)))),1,.O 6 (.var (Qt b7)),1,.O 7 (.var (Qq (QA.mk j.1 0 ([]:LI_)))),4,.K [6,7] [6,7]] Z (a6_ P Z (Yt _ _ b8) Z Z Z) ?_
   cases h
   exact AK.done (ex_ [_,_] (an_ (an_ (ex_ _ (ex_ _ (an_ Z (an_ Z (Or.inl (an_ (Qd.ag Z) (an_ (Qd.sz Z) Z))))))) (an_ (ex_ _ (ex_ _ (an_ Z (an_ Z (Or.inl (an_ (Qd.ag Z) (an_ (Qd.sz Z) Z))))))) U)) (gives U)))
  refine Qf e [.F,3,.K [6,7,8,10] [6,7,10,17]] Z (A P) ?_
  refine AK.draw2 Qd e mixed [.N,.N,.N,.E (.agg (Qt j.2.2.now)),.a .no (some ([],.agg (Qq j.2.1))) true,.m .s,.m .s] [6,7,8,10] [7,10,17] [6,7] [6,7] rfl rfl rfl ⟨⟨U,rfl⟩,rfl⟩ rfl (by kernel_rfl) rfl rfl rfl ?_
  refine Qf e [.O 6 (.var (Qt j.2.2.now)),.O 7 (.var (Qq j.2.1)),2,.K [6,7] [6,7]] Z (a2_ Z Z) ?_
  cases h
  exact AK.done (ex_ [_,_] (an_ (an_ (ex_ _ (ex_ _ (an_ Z (an_ Z (Or.inl (an_ (Qd.ag Z) (an_ (Qd.sz Z) Z))))))) (an_ (ex_ _ (ex_ _ (an_ Z (an_ Z (Or.inl (an_ (Qd.ag Z) (an_ (Qd.sz Z) Z))))))) U)) (gives U)))
 ·replace h:Hp l f t q d2=some r:=h
  obtain⟨d7,b9,h⟩:=Qm h
  refine Qf e [.cm (.fn) [(617,17)] [(17,617)] [] [.d] [(617,.var (Qw (QF.mk l t q)))] (.clo (.func 73) [.L 617] []),7,.o (.any (.b false) none),1,.A (Qa l),.A (Qt f),.o (.C2 (.b d7)),4] Z (a5_ (Wo _ u) (λσ p h2 _=>Qe.eqFn Z Z (QG e.n Z) (p _ _ Z) (p _ _ Z) Qez) Z Z (Gx _ _ _ b9)) ?_
  rcases Xq h with⟨S,h⟩|⟨S,h⟩
  ·obtain⟨c0,c1,h⟩:=Qm h
   refine Qf e [.T,2,.A (Qt f),.o (.C1 (.agg (Qt c0))),.v .no [none,none,some 1] (.agg (Qq (QA.mk 1 0 ([]:LI_)))),1,.O 6 (.var (Qt c0)),1,.O 7 (.var (Qq (QA.mk 1 0 ([]:LI_)))),4,.K [6,7] [6,7]] Z (a6_ S Z (Yt _ _ c1) Z Z Z) ?_
   cases h
   exact AK.done (ex_ [_,_] (an_ (an_ (ex_ _ (ex_ _ (an_ Z (an_ Z (Or.inl (an_ (Qd.ag Z) (an_ (Qd.sz Z) Z))))))) (an_ (ex_ _ (ex_ _ (an_ Z (an_ Z (Or.inl (an_ (Qd.ag Z) (an_ (Qd.sz Z) Z))))))) U)) (gives U)))
  obtain⟨k,c3,h⟩:=Qm h
  refine Qf e [.F,5,.cm (.clo) [(617,17)] [(17,617)] [] [.d] [(617,.var (Qw k.2.2))] (.tup [.agg (Qq k.2.1),.I k.1]),5,.O 10 (.var (Qq k.2.1)),10] Z (a3_ S (VU _ _ c3) Z) ?_
  rcases Xq h with⟨a0,h⟩|⟨a0,h⟩
  ·obtain⟨c4,c5,h⟩:=Qm h
   refine Qf e [.T,2,.A (Qt f),.o (.C1 (.agg (Qt c4))),1,.v .no [none,none,some 1] (.agg (Qq (QA.mk k.1 0 ([]:LI_)))),1,.O 6 (.var (Qt c4)),1,.O 7 (.var (Qq (QA.mk k.1 0 ([]:LI_)))),4,.K [6,7] [6,7]] Z (a6_ a0 Z (Yt _ _ c5) Z Z Z) ?_
   cases h
   exact AK.done (ex_ [_,_] (an_ (an_ (ex_ _ (ex_ _ (an_ Z (an_ Z (Or.inl (an_ (Qd.ag Z) (an_ (Qd.sz Z) Z))))))) (an_ (ex_ _ (ex_ _ (an_ Z (an_ Z (Or.inl (an_ (Qd.ag Z) (an_ (Qd.sz Z) Z))))))) U)) (gives U)))
  refine Qf e [.F,3,.K [6,7,8,10] [6,7,10,17]] Z (A a0) ?_
  refine AK.draw2 Qd e mixed [.N,.N,.N,.E (.agg (Qt k.2.2.now)),.a .no (some ([],.agg (Qq k.2.1))) true,.m .s,.m .s] [6,7,8,10] [7,10,17] [6,7] [6,7] rfl rfl rfl ⟨⟨U,rfl⟩,rfl⟩ rfl (by kernel_rfl) rfl rfl rfl ?_
  refine Qf e [.O 6 (.var (Qt k.2.2.now)),.O 7 (.var (Qq k.2.1)),2,.K [6,7] [6,7]] Z (a2_ Z Z) ?_
  cases h
  exact AK.done (ex_ [_,_] (an_ (an_ (ex_ _ (ex_ _ (an_ Z (an_ Z (Or.inl (an_ (Qd.ag Z) (an_ (Qd.sz Z) Z))))))) (an_ (ex_ _ (ex_ _ (an_ Z (an_ Z (Or.inl (an_ (Qd.ag Z) (an_ (Qd.sz Z) Z))))))) U)) (gives U)))
 replace h:Hq f d3=some r:=h
 obtain⟨c6,c7,h⟩:=Qm h
 refine Qf e [.cm (.fn) [(617,17)] [(17,617)] [] [.d] [(617,.var (Qw (QF.mk l t q)))] (.lit (.nilFunc)),7,.o (.any (.b true) none),11,.A (Qt f),.o (.C1 (.agg (Qt c6))),.v .no [none,none,some 1] (.agg (Qq (QA.mk 1 0 ([]:LI_)))),1,.O 6 (.var (Qt c6)),1,.O 7 (.var (Qq (QA.mk 1 0 ([]:LI_)))),4,.K [6,7] [6,7]] Z (a7_ (Wo _ u) (λσ p h2 _=>Qe.eqFn0 Z Z (QG e.n Z) (p _ _ Z) (p _ _ Z) Qez) Z (Yt _ _ c7) Z Z Z) ?_
 cases h
 exact AK.done (ex_ [_,_] (an_ (an_ (ex_ _ (ex_ _ (an_ Z (an_ Z (Or.inl (an_ (Qd.ag Z) (an_ (Qd.sz Z) Z))))))) (an_ (ex_ _ (ex_ _ (an_ Z (an_ Z (Or.inl (an_ (Qd.ag Z) (an_ (Qd.sz Z) Z))))))) U)) (gives U)))
def Tn (e:(L_ Xy))(g:Ql)(c:Int)(f:QK)(a:(L_ QA)):O_ ((Int×QK×(L_ QA))⊕(QK×(L_ QA))):=bif (c<(e.length:Int))then (idx e c).bind λd=>(Cf g f d).bind λb=>(chk (a.length+([b.2]:L_ QA).length<=4294967296)).bind λ_=>some (.inl ((Qs (c+1)),b.1,(a++([b.2]:L_ QA))))else some (.inr (f,a))
def Tp (a:QK)(b:(L_ QA)):O_ ((L_ QA)×QK):=some (b,a)
def RM (a:Ql)(b:QK)(c:(L_ Xy)):O_ ((L_ QA)×QK):=(Yk b).bind λd=>(QO (λst=>Tn c a st.1 st.2.1 st.2.2) (0,d,([]:L_ QA))).bind (λq=>Tp q.1 q.2)
def Tq (j w i):CT 12 [.agg (Qa j),.agg (Qt w),.sl 7 (i.map Xl)] [] (RM j w i) (λr=>(.tup [.agg (Qt r.2),.sl 3 (r.1.map Qq)])) no_:=by
 refine W 34 func12 rfl λC k r h=>?_
 obtain⟨z,x,h⟩:=Qm h
 refine Qf k [10,.A (Qt w),.o (.C1 (.agg (Qt z))),1,.O 4 (.var (Qt z)),11,.o (.ln i.length),4,.adopt 8 27 3,.O 27 (.arr 3 (([]:L_ QA).map Qq)),.S 8 (.own 27 ([]:L_ QA).length),.K [3,4,6,8,14,15,16] [3,4,6,27]] Z (a6_ Z (Yt _ _ x) Z Qc Z (congrArg (λn=>V.own 27 n) (by simp))) ?_
 obtain⟨y,l,h⟩:=Qm h
 refine AK.loop (body:=(λst=>Tn i j st.1 st.2.1 st.2.2)) (λst σ=>σ=⟨[lk_ 3,lk_ 4,lk_ 6,(8,.own 27 st.2.2.length),(14,.sl 7 (i.map Xl)),(15,.I (i.length:Int)),(16,.I st.1)],[(3,.var (Qa j)),(4,.var (Qt st.2.1)),(6,.var [.Y,.Y,.I 0,.I 0]),(27,.arr 3 (st.2.2.map Qq))]⟩) (λq e σ=>e=.exit 0/\σ=⟨[lk_ 4,lk_ 6,(8,.own 27 q.2.length)],[(4,.var (Qt q.1)),(6,.var [.Y,.Y,.I 0,.I 0]),(27,.arr 3 (q.2.map Qq))]⟩) l rfl ?_ ?_
 ·rintro ⟨N,D,m⟩ o σ rfl h
  refine tg_ k [6] ?_
  rcases Xq h with⟨b,h⟩|⟨b,h⟩
  ·obtain⟨f,p,h⟩:=Qm h
   obtain⟨a,s,h⟩:=Qm h
   obtain⟨t,h⟩:=OQ h
   refine Qf k [.T,6,.o (.row (Xl f)),.A (Xl f),2,.O 10 (.var (Xl f)),9,.A (Qa j),.A (Qt D),.A (Xl f),.o (.C3 (.tup [.agg (Qt a.1),.agg (Qq a.2)])),4,.O 4 (.var (Qt a.1)),1,.O 11 (.var (Qq a.2)),4,.A (Qq a.2),.v (.bd []) [] (.sl 3 (([a.2]:L_ QA).map Qq)),.app ((m++([a.2]:L_ QA)).map Qq) (m++([a.2]:L_ QA)).length,8,.K [3,4,6,8,14,15,16] [3,4,6,27]] Z ⟨⟨⟨⟨⟨⟨⟨⟨⟨⟨⟨⟨⟨U,b⟩,(Xb p)⟩,Z⟩,Z⟩,Z⟩,Z⟩,Z⟩,(NJ _ _ _ _ s)⟩,Z⟩,Z⟩,Z⟩,Z⟩,⟨Qc,Uv t Qc,Jr,WX Qc⟩⟩ ?_
   cases h
   exact OP Z Z
  refine Qf k [.F,2,.K [4,6,8] [4,6,27]] Z (A b) ?_
  cases h
  exact Rn Z (an_ Z Z)
 obtain⟨g,u⟩:=y
 replace h:Tp g u=some r:=h
 rintro e σ ⟨rfl,rfl⟩
 refine Qf k [4,.A (Qt g),2,.O 6 (.var (Qt g)),4,.frz 27 (u.map Qq) [7] [],.K [6,7] [6]] Z (a3_ Z Z (A (KS Qc))) ?_
 cases h
 exact AK.done (ex_ [_,_] (an_ (an_ (ex_ _ (ex_ _ (an_ Z (an_ Z (Or.inl (an_ (Qd.ag Z) (an_ (Qd.sz Z) Z))))))) (an_ Z U)) (gives U)))
def UF (c:LI_)(d:LI_)(a:Int):O_ (Int⊕(Unit⊕Unit)):=bif (a<(c.length:Int))then (idx c a).bind λe=>(idx d a).bind λb=>bif (e != b)then some (.inr (.inl ()))else some (.inl (Qs (a+1)))else some (.inr (.inr ()))
def Tr : O_ Bool:=some false
def Ts : O_ Bool:=some true
def DT (a:LI_)(b:LI_):O_ Bool:=bif ((a.length:Int) != (b.length:Int))then some false else (QO (λst=>UF a b st) 0).bind (Sum.elim (λq=>Tr) (λq=>Ts))
def UG (g j):CT 25 [.sl 1 (g.map Qb),.sl 1 (j.map Qb)] [] (DT g j) V.b no_:=
 W 26 func25 Z λC c r h=>K c [9,.o (.ln g.length),1,.o (.ln j.length),3] Z Qc Qc<|I h (λe h=>J c [.T,7] Z e<|E h Z U) λe h=>J c [.F,9] Z e<|lq_ h (λst=>⟨[(0,.sl 1 (g.map Qb)),(1,.sl 1 (j.map Qb)),(5,.I st)],[]⟩) (λq=>(.ret,⟨[(4,.b false)],[]⟩)) (λq=>(.exit 0,⟨[],[]⟩)) Z (λp o h=>J c [5,.o (.ln g.length),3] Z Qc<|I h (λf h=>B h λm k h=>B h λl i h=>G c [.T,5] Z (A f) <| 
  dr_ c [.N,.N,.B (.row (Qb m)),.N,.N,.N,.B (.row (Qb l)),.N,.N] [] [] [0,1,5,25] [] Z Z (a2_ (Xb k) (Xb i)) Z <|
  H c [1] Z<|I h (λd h=>J c [.T,8] Z d<|rR_ h Z) λd h=>J c [.F,8] Z d<|rN_ h Z) λf h=>J c [.F,2] Z f<|rX_ h Z) (λ_ h=>H c [2] Z<|E h Z U) (λ_ h=>H c [8] Z<|E h Z U)
def VV (a:Unit):O_ Int:=some 0
noncomputable def Du (D:Int)(y:Int)(h:Int):O_ (Int⊕Empty):=some (.inl (Qs (D+h)))
def NK (a:Int):O_ Int:=some a
noncomputable def Hr (h:QBg):O_ Int:=(BJ (λst p=>Du st p.1 p.2) 0 h).bind (Sum.elim (λq=>NK q) (λq=>Empty.elim q))
def Cg (a:QBg):O_ Int:=(Lf a).bind (Sum.elim (λq=>VV q) (λq=>Hr q))
def NL (z):CT 58 [.sl 2 (z.map QM)] [] (Cg z) V.I no_:=by
 refine W 23 func58 rfl λC a r h=>?_
 obtain⟨N,j,h⟩:=Qm h
 refine tg_ a [8] ?_
 rcases N with(O | v)
 ·exact have h:VV O=some r:=h;K a [.cm (.fn) [] [] [] [.d] [] (.tup [.lit (.map none),.b false]),16,.x (λσ=>(σ.set 14 .itr0).put 14 (.L 14)),3] Z (Ee _ j) (Qe.range0 Z Z (QG a.n Z) Z DP Z)<|AK.loopOnce<|J a [2,.x (λσ=>σ.put 15 (.tup [.b false])),17] Z (Qe.next0 Z Z (QG a.n Z) Z Z)<|E h Z U
 replace h:Hr v=some r:=h
 refine Qf a [.cm (.fn) [] [(10,601)] [] [.d] [(601,.map (QE V.I V.I v))] (.tup [.map 601,.b true]),16] Z (A (Ee _ j)) ?_
 refine AK.openMap (b:=10) GJ rfl λc g L7 k l=>?_
 refine Qf a [.x (λσ=>(σ.set 14 (.itr c g #[] none)).put 14 (.L 14)),3,.K [5,14] [10,14]] Z (A (Qe.range (b:=10) Z Z (QG a.n Z) Z Z DP Z)) ?_
 obtain⟨w,s,h⟩:=Qm h
 refine AK.range (body:=(λst p=>Du st p.1 p.2)) (λst seen σ=>∃cur:O_ Nat,σ=⟨[(5,.I st),lk_ 14],[(10,.mapX c g (Ck V.I V.I L7) (QE V.I V.I v)),(14,.itr c g seen cur)]⟩) (λ(q:Empty) _ _=>False) (λst e σ=>e=.exit 0/\σ=⟨[(5,.I st)],[]⟩) k l s (ex_ _ rfl) ?_ ?_
 ·rintro y seen σ ⟨cur,rfl⟩ hex
  refine tg_ a [2] ?_
  refine AK.nextT (b:=14) (m:=10) rfl rfl rfl (QG a.n rfl) rfl rfl rfl rfl ?_ ?_
  ·intro hleft
   refine tg_ a [7,.K [5] []] ?_
   exact AK.done (Or.inl (an_ hleft (an_ (λh=>(by cases h)) (an_ Z Z))))
  intro D t u i
  obtain⟨o,h⟩:=hex _ i
  have ho:=h
  replace h:Du y t u=some o:=h
  refine Qf a [10,.x (λσ=>σ.put 17 (.tup [.I t,.I u])),11,.K [5,14] [10,14]] Z (A (Qe.entryT (b:=14) (m:=10) (e:=V.I) (f:=V.I) Z Z (QG a.n Z) Z i Z Z)) ?_
  cases h
  exact AK.done (Or.inr (ex_ _ (an_ i (Or.inl (ex_ _ (an_ ho (an_ Z (ex_ _ Z))))))))
 rcases w with(y | q)
 ·replace h:NK y=some r:=h
  unfold NK at h
  rintro e σ ⟨rfl,rfl⟩
  exact H a [9] Z<|E h Z U
 exact q.elim
def QeN (a:Ql)(b:QMk):O_ Bool:=bif (0<=a.To)then bif (a.To<(b.length:Int))then (idx b a.To).bind λc=>(Cg c).bind λd=>some (decide (0<d))else some false else some false
def QeO (a:Bool):O_ Bool:=some a
def QbA (a:Ql)(b:QMk):O_ Bool:=(QeN a b).bind (λc=>QeO c)
def QeP (l g):CT 87 [.agg (Qa l),.sl 1 (g.map Qj)] [] (QbA l g) V.b no_:=
 W 24 func87 Z λC a r h=>H a [7] Z<|mV_ h (λi=>⟨[(4,.b i)],[]⟩) (λi h=>H a [5] Z<|I h (λe h=>G a [.S 8 (.b true),3,.o (.ln g.length),3] Z ⟨(tc_ e),Qc⟩<|I h (λf h=>B h λm j h=>B h λp k h=>G a [.S 15 (.b true),3,.o (.row (Qj m)),1,.o (.C1 (.I p)),4] Z ⟨⟨(tc_ f),(Xb j)⟩,(NL _ _ k)⟩<|mq_ h Z) λf h=>L a [.S 15 (.b false),10] Z f<|mq_ h Z) λe h=>L a [.S 8 (.b false),17] Z e<|mq_ h Z) λi h=>H a [2] Z<|E h Z U
def QeQ (a:QMk)(b:Ql):O_ Bool:=bif ((a.length:Int) != (b.Places.length:Int))then some true else (QbA b a).bind λc=>some (!c)
def MC (b:QBg)(c:Int)(a:Int):O_ (Int⊕(Unit⊕Unit)):=(Cg b).bind λd=>bif (d != a)then some (.inr (.inl ()))else some (.inl (Qs (c+1)))
def QeR (c:QMk)(d:Ql)(a:Int):O_ (Int⊕(Unit⊕Unit)):=bif (a<(c.length:Int))then (idx c a).bind λb=>bif (a==d.To)then MC b a 1 else MC b a 0 else some (.inr (.inr ()))
def QeS : O_ Bool:=some false
def QeT : O_ Bool:=some true
def QeU (a:QMk)(b:Ql)(c:Bool):O_ Bool:=bif c then some false else (QO (λst=>QeR a b st) 0).bind (Sum.elim (λq=>QeS) (λq=>QeT))
def QbB (a:Ql)(b:QMk):O_ Bool:=(QeQ b a).bind (λc=>QeU b a c)
def QeV (k j):CT 51 [.agg (Qa k),.sl 1 (j.map Qj)] [] (QbB k j) V.b no_:=
 W 36 func51 Z λC e r h=>H e [8] Z<|mV_ h (λw=>⟨[(1,.sl 1 (j.map Qj)),lk_ 2,(19,.b w)],[(2,.var (Qa k))]⟩) (λw h=>K e [2,.o (.ln j.length),2,.o (.ln k.Places.length),2] Z Qc Qc<|I h (λl h=>L e [.S 14 (.b true),6] Z l<|mq_ h Z) λl h=>B h λz x h=>G e [.S 14 (.b false),.A (Qa k),1,.o (.C2 (.b z)),3] Z ⟨⟨(tc_ l),Z⟩,(QeP _ _ _ x)⟩<|mq_ h Z) λw h=>H e [1] Z<|I h (λm h=>J e [.T,7] Z m<|E h Z U) λm h=>K e [.F,6,.o (.ln j.length),4] Z m Qc<|lq_ h (λst=>⟨[lk_ 2,(20,.sl 1 (j.map Qj)),(21,.I (j.length:Int)),(22,.I st)],[(2,.var (Qa k))]⟩) (λq=>(.ret,⟨[(4,.b false)],[]⟩)) (λq=>(.exit 0,⟨[],[]⟩)) Z (λs o h=>H e [6] Z<|I h (λf h=>B h λp t h=>K e [.T,7,.o (.row (Qj p)),10] Z f (Xb t)<|mE_ (λa:Int=>⟨[lk_ 2,(6,.sl 2 (p.map QM)),(7,.I a),(20,.sl 1 (j.map Qj)),(21,.I (j.length:Int)),(22,.I s)],[(2,.var (Qa k))]⟩) (λa=>MC p s a=some o) (H e [8] Z<|I h (λg h=>J e [.T,3] Z g<|me_ h Z) λg h=>J e [.F,1] Z g<|me_ h Z) λa h=>B h λy u h=>J e [3,.o (.C1 (.I y)),4] Z (NL _ _ u)<|I h (λi h=>J e [.T,8] Z i<|rR_ h Z) λi h=>J e [.F,7] Z i<|rN_ h Z) λf h=>J e [.F,2] Z f<|rX_ h Z) (λ_ h=>H e [2] Z<|E h Z U) (λ_ h=>H e [8] Z<|E h Z U)
def Qdy (b:Ql)(a:QK):O_ Bool:=(QbB b a.M).bind λc=>bif c then some ((a.Items.length:Int)==0)else some false
def Qdz (a:Bool):O_ Bool:=some a
def OX (a:Ql)(b:QK):O_ Bool:=(Qdy a b).bind (λc=>Qdz c)
def RN (f g):CT 26 [.agg (Qa f),.agg (Qt g)] [] (OX f g) V.b no_:=
 W 15 func26 Z λC e r h=>H e [8] Z<|mV_ h (λi=>⟨[(4,.b i)],[]⟩) (λi h=>B h λk j h=>K e [1,.A (Qa f),2,.o (.C2 (.b k)),1] Z Z (QeV _ _ _ j)<|I h (λa h=>G e [.S 9 (.b true),2,.o (.ln g.Items.length),4] Z ⟨(tc_ a),Qc⟩<|mq_ h Z) λa h=>L e [.S 9 (.b false),7] Z a<|mq_ h Z) λi h=>H e [2] Z<|E h Z U
def LR (c:QBg)(e:QBg)(b:Int):O_ (Int⊕(Unit⊕Unit)):=bif (b<(c.length:Int))then (idx c b).bind λd=>(idx e b).bind λa=>bif (!((d.1==a.1)&&(d.2==a.2)))then some (.inr (.inl ()))else some (.inl (Qs (b+1)))else some (.inr (.inr ()))
def LS : O_ Bool:=some false
def LT : O_ Bool:=some true
def AT (a:QBg)(b:QBg):O_ Bool:=bif ((a.length:Int) != (b.length:Int))then some false else (QO (λst=>LR a b st) 0).bind (Sum.elim (λq=>LS) (λq=>LT))
def LU (i k):CT 82 [.sl 2 (i.map QM),.sl 2 (k.map QM)] [] (AT i k) V.b no_:=
 W 26 func82 Z λC c r h=>K c [9,.o (.ln i.length),1,.o (.ln k.length),3] Z Qc Qc<|I h (λf h=>J c [.T,7] Z f<|E h Z U) λf h=>K c [.F,6,.o (.ln i.length),4] Z f Qc<|lq_ h (λst=>⟨[(0,.sl 2 (i.map QM)),(1,.sl 2 (k.map QM)),(12,.I (i.length:Int)),(13,.I st)],[]⟩) (λq=>(.ret,⟨[(4,.b false)],[]⟩)) (λq=>(.exit 0,⟨[],[]⟩)) Z (λs o h=>H c [6] Z<|I h (λg h=>B h λl m h=>B h λe j h=>G c [.T,11] Z (A g) <| 
  dr_ c [.N,.N,.B (.row (QM l)),.E (.agg (QM l)),.N,.N,.B (.row (QM e)),.E (.agg (QM e)),.B (.any (.b (!((l.1==e.1)&&(l.2==e.2)))) none)] [] [] [0,1,12,13,24] [] Z Z (a5_ (Xb m) Z (Xb j) Z (λσ p t _=>Qe.neAgg Z Z (QG c.n Z) (p _ _ Z) (p _ _ Z) Z Z (Qj4 _ _ _ _))) Z <|
  H c [1] Z<|I h (λd h=>J c [.T,8] Z d<|rR_ h Z) λd h=>J c [.F,7] Z d<|rN_ h Z) λg h=>J c [.F,2] Z g<|rX_ h Z) (λ_ h=>H c [2] Z<|E h Z U) (λ_ h=>H c [8] Z<|E h Z U)
def Qg4 (b:QBg)(c:QBg):O_ Bool:=(WE b).bind λd=>bif d then (WE c).bind λe=>bif e then (AT b c).bind λa=>some a else some false else some false
def Qg5 (a:Bool):O_ Bool:=some a
def QeW (a:QBg)(b:QBg):O_ Bool:=(Qg4 a b).bind (λc=>Qg5 c)
def Qg6 (m p):CT 46 [.sl 2 (m.map QM),.sl 2 (p.map QM)] [] (QeW m p) V.b no_:=
 W 16 func46 Z λC a r h=>H a [6] Z<|mV_ h (λi=>⟨[(4,.b i)],[]⟩) (λi h=>B h λq j h=>J a [2,.o (.C1 (.b q)),1] Z (Av _ _ j)<|I h (λe h=>B h λs k h=>G a [.S 7 (.b true),1,.o (.C1 (.b s)),2] Z ⟨(tc_ e),(Av _ _ k)⟩<|I h (λf h=>B h λl g h=>G a [.S 11 (.b true),2,.o (.C2 (.b l)),3] Z ⟨(tc_ f),(LU _ _ _ g)⟩<|mq_ h Z) λf h=>L a [.S 11 (.b false),6] Z f<|mq_ h Z) λe h=>L a [.S 7 (.b false),10] Z e<|mq_ h Z) λi h=>H a [2] Z<|E h Z U
def Wh (d:QMk)(e:QMk)(a:Int):O_ (Int⊕(Unit⊕Unit)):=bif (a<(d.length:Int))then (idx d a).bind λf=>(idx e a).bind λb=>(QeW f b).bind λc=>bif (!c)then some (.inr (.inl ()))else some (.inl (Qs (a+1)))else some (.inr (.inr ()))
def Wi : O_ Bool:=some false
def Wj : O_ Bool:=some true
def YU (a:QMk)(b:QMk):O_ Bool:=bif ((a.length:Int) != (b.length:Int))then some false else (QO (λst=>Wh a b st) 0).bind (Sum.elim (λq=>Wi) (λq=>Wj))
def Wk (i l):CT 45 [.sl 1 (i.map Qj),.sl 1 (l.map Qj),.clo (.func 46) [] []] [] (YU i l) V.b no_:=
 W 32 func45 Z λC e r h=>K e [9,.o (.ln i.length),1,.o (.ln l.length),3] Z Qc Qc<|I h (λf h=>J e [.T,7] Z f<|E h Z U) λf h=>K e [.F,6,.o (.ln i.length),4] Z f Qc<|lq_ h (λst=>⟨[(1,.sl 1 (l.map Qj)),(2,.clo (.func 46) [] []),(15,.sl 1 (i.map Qj)),(16,.I (i.length:Int)),(17,.I st)],[]⟩) (λq=>(.ret,⟨[(6,.b false)],[]⟩)) (λq=>(.exit 0,⟨[],[]⟩)) Z (λu o h=>H e [6] Z<|I h (λg h=>B h λt m h=>B h λp j h=>B h λs k h=>g4_ e [.T,7,.o (.row (Qj t)),9,.o (.row (Qj p)),9,.o (.C2 (.b s)),3] Z g (Xb m) (Xb j) (Qg6 _ _ _ k)<|I h (λa h=>J e [.T,8] Z a<|rR_ h Z) λa h=>J e [.F,7] Z a<|rN_ h Z) λg h=>J e [.F,2] Z g<|rX_ h Z) (λ_ h=>H e [2] Z<|E h Z U) (λ_ h=>H e [8] Z<|E h Z U)
def Qde (a:QMk)(b:QMk):O_ Bool:=(YU a b).bind λc=>some c
def Qf6 (c e):CT 20 [.sl 1 (c.map Qj),.sl 1 (e.map Qj)] [] (Qde c e) V.b no_:=
 W 8 func20 Z λC f r h=>B h λg a h=>J f [9,.cm (.fn) [] [] [] [.d,.d,.d] [] (.b g),4] Z (Wk _ _ _ a)<|E h Z U
def Tt (a:Ql)(b:QT):O_ (Ql×QT):=some (a,b)
def QbC (a b):CT 228 [.agg (Qa a),.agg (Qk b)] [] (Tt a b) (λ_=>(.clo (.func 294) [] [.L 3,.L 2])) (λr=>[(2,.var (Qa r.1)),(3,.var (Qk r.2))]):=
 W 6 func228 Z λC c r h=>H c [14] Z<|E h Z r2_
def GS (a:QLL):O_ QLL:=(chk ((([]:QLL).length+a.length)*24<=140737488355328)).bind λ_=>some (([]:QLL)++a)
def NM (b):CT 230 [.sl 1 (b.map QQ)] [] (GS b) (λr=>(.own 600 r.length)) (λr=>[(600,.arr 1 (r.map QQ))]):=by
 refine W 8 func230 rfl λC a r h=>?_
 unfold GS at h
 refine tg_ a [9] ?_
 refine AK.eqNil rfl rfl rfl (QG a.n rfl) rfl rfl QmU ?_ ?_
 ·intro c
  replace h:some ([]:QLL)=some r:=by simpa[chk,List.map_eq_nil_iff.1 c] using h
  exact K a [10,.adopt 2 600 1,.O 600 (.arr 1 (([]:QLL).map QQ)),.S 2 (.own 600 ([]:QLL).length)] Z Z Z<|E h Z r1_
 exact X h λd h=>g3_ a [8,.O 5 (.arr 1 (([]:QLL).map QQ)),.S 5 (.own 5 ([]:QLL).length),1,.x (λσ=>σ.app 5 1 7 (([]:QLL)++b).length ((([]:QLL)++b).map QQ)),4,.K [2] [5],.ren 5 600] Z Z Z (Qe.appSB (by_:=24) (zs:=[.Y]) (e:=43) (e':=43) (z':=1) (by':=24) Z Z (QG a.n Z) Z Z Z Qc (by kernel_rfl) (by kernel_rfl) (by kernel_rfl) Z (by decide) (by decide) (LH d Qc) Z Jr (WX Qc))<|E h Z r1_
def NN (a:LI_)(b:Xw):O_ Bool:=(XY b a).bind λc=>some (c != 0)
def Ps (a e):CT 231 [.sl 1 (a.map Qb),.L 617] [(617,.var (QD e))] (NN a e) V.b (λ_=>[(617,.var (QD e))]):=
 W 8 func231 Z λC g r h=>B h λi f h=>K g [7,.A (QD e),1,.o (.C2 (.I i)),5] Z Z (Iu _ _ _ f)<|E h Z r1_
def Ln (c:QLL)(d:Xw)(a:Int):O_ (Int⊕(Int⊕Unit)):=bif (a<(c.length:Int))then (idx c a).bind λe=>(NN e d).bind λb=>bif b then some (.inr (.inl a))else some (.inl (Qs (a+1)))else some (.inr (.inr ()))
def Lp (a:Int):O_ Int:=some a
def Lq : O_ Int:=some (-1)
def Aa (a:QLL)(b:Xw):O_ Int:=(QO (λst=>Ln a b st) 0).bind (Sum.elim (λq=>Lp q) (λq=>Lq))
def Lr (c f):CT 295 [.own 617 c.length,.clo (.func 231) [] [.L 618]] [(617,.arr 1 (c.map QQ)),(618,.var (QD f))] (Aa c f) V.I (λ_=>[(617,.arr 1 (c.map QQ)),(618,.var (QD f))]):=
 W 19 func295 Z λC e r h=>H e [14] Z<|lq_ h (λst=>⟨[(0,.own 617 c.length),(1,.clo (.func 231) [] [.L 618]),(7,.I (c.length:Int)),(8,.I st)],[(617,.arr 1 (c.map QQ)),(618,.var (QD f))]⟩) (λq=>(.ret,⟨[(4,.I q)],[(617,.arr 1 (c.map QQ)),(618,.var (QD f))]⟩)) (λq=>(.exit 0,⟨[],[(617,.arr 1 (c.map QQ)),(618,.var (QD f))]⟩)) Z (λm o h=>H e [6] Z<|I h (λg h=>B h λl i h=>B h λk j h=>g4_ e [.T,16,.o (.row (QQ l)),.cm (.clo) [(617,618)] [(618,617)] [] [.d,.d] [(617,.var (QD f))] (.b k),2] Z g (Yh i Z) (Xs (YC i).2) (Ps _ _ _ j)<|I h (λa h=>J e [.T,9] Z a<|rR_ h Z) λa h=>J e [.F,7] Z a<|rN_ h Z) λg h=>J e [.F,2] Z g<|rX_ h Z) (λp h=>H e [2] Z<|E h Z r2_) (λ_ h=>H e [8] Z<|E h Z r2_)
def KW (a:Int)(b:Int)(c:QLL):O_ ((Int×Int×QLL)⊕(Int×QLL)):=some (.inl (b,(Qs (a+1)),c))
def Eh (f:Xw)(c:Int)(b:Int)(a:QLL):O_ ((Int×Int×QLL)⊕(Int×QLL)):=bif (b<(a.length:Int))then (idx a b).bind λd=>(NN d f).bind λe=>bif (!e)then (idx a c).bind λg=>KW b (Qs (c+1)) (a.set c.toNat d)else KW b c a else some (.inr (c,a))
def Ei (a:Int)(b:QLL):O_ QLL:=(chk (decide (0<=a)&&decide (a.toNat<=b.length))).bind λ_=>(chk (decide (0<=a)&&decide (a.toNat<=(b.take a.toNat++List.replicate (b.length-a.toNat) (([]:LI_):LI_)).length))).bind λ_=>some ((b.take a.toNat++List.replicate (b.length-a.toNat) (([]:LI_):LI_)).take a.toNat)
def UH (a:QLL)(c:Xw):O_ QLL:=(Aa a c).bind λb=>bif (b==(-1))then some a else (QO (λst=>Eh c st.1 st.2.1 st.2.2) (b,(Qs (b+1)),a)).bind (λq=>Ei q.1 q.2)
def Iy (P p):CT 229 [.own 617 P.length,.clo (.func 231) [] [.L 618]] [(617,.arr 1 (P.map QQ)),(618,.var (QD p))] (UH P p) (λr=>(.own 617 r.length)) (λr=>[(617,.arr 1 (r.map QQ)),(618,.var (QD p))]):=by
 refine W 42 func229 rfl λC g r h=>?_
 obtain⟨x5,a0,h⟩:=Qm h
 refine Qf g [9,.cm (.fn) [(617,617),(618,618)] [(617,617),(618,618)] [] [.d,.d] [(617,.arr 1 (P.map QQ)),(618,.var (QD p))] (.I x5),10] Z (A (Lr _ _ _ a0)) ?_
 rcases Xq h with⟨v,h⟩|⟨v,h⟩
 ·exact J g [.T,8] Z v<|E h Z r2_
 refine Qf g [.F,11,.K [0,1,5,6] [617,618]] Z (A v) ?_
 obtain⟨a1,z,h⟩:=Qm h
 refine AK.loop (body:=(λst=>Eh p st.1 st.2.1 st.2.2)) (λst σ=>σ=⟨[(0,.own 617 st.2.2.length),(1,.clo (.func 231) [] [.L 618]),(5,.I st.1),(6,.I st.2.1)],[(617,.arr 1 (st.2.2.map QQ)),(618,.var (QD p))]⟩) (λq e σ=>e=.exit 0/\σ=⟨[(0,.own 617 q.2.length),(5,.I q.1)],[(617,.arr 1 (q.2.map QQ)),(618,.var (QD p))]⟩) z rfl ?_ ?_
 ·rintro ⟨i9,D,N⟩ o σ rfl h
  refine tg_ g [9] ?_
  refine bq_ g h [.T,2] rfl (λk h=>?_) [.F,2,.K [0,5] [617,618]] rfl λk h=>?_
  ·refine AK.meet (λσ=>∃w:Int,∃s:QLL,σ=⟨[(0,.own 617 s.length),(1,.clo (.func 231) [] [.L 618]),(5,.I w),(6,.I D)],[(617,.arr 1 (s.map QQ)),(618,.var (QD p))]⟩/\KW D w s=some o) ?_ ?_
   ·obtain⟨y,t,h⟩:=Qm h
    obtain⟨a2,O,h⟩:=Qm h
    refine Qf g [6,.o (.row (QQ y)),7,.cm (.clo) [(617,618)] [(618,617)] [] [.d,.d] [(617,.var (QD p))] (.b a2),3] Z (a3_ (Yh t Z) (Xs (YC t).2) (Ps _ _ _ O)) ?_
    rcases Xq h with⟨m,h⟩|⟨m,h⟩
    ·obtain⟨a3,u,h⟩:=Qm h
     refine Qf g [.T,6,.st (QQ a3) ((N.set i9.toNat y).map QQ),8,.S 0 (.own 617 (N.set i9.toNat y).length),.K [0,1,5,6] [617,618]] Z (a4_ m (Yh u Z) ⟨(Xs (YC u).2),Ep Z⟩ (congrArg (λn=>V.own 617 n) (by simp))) ?_
     exact AK.met (ex_ _ (ex_ _ (an_ Z h)))
    refine Qf g [.F,2,.K [0,1,5,6] [617,618]] Z (A m) ?_
    exact AK.met (ex_ _ (ex_ _ (an_ Z h)))
   rintro σ ⟨w,s,rfl,h⟩
   refine tg_ g [5,.K [0,1,5,6] [617,618]] ?_
   cases h
   exact OP Z Z
  cases h
  exact Rn Z (an_ Z Z)
 obtain⟨a,c⟩:=a1
 replace h:Ei a c=some r:=h
 rintro e σ ⟨rfl,rfl⟩
 refine tg_ g [6] ?_
 obtain⟨i,h⟩:=OQ h
 refine AK.clearTail (b:=617) (l:=a.toNat) (n:=c.length) rfl rfl rfl rfl rfl rfl (QG g.n rfl) rfl rfl Qc (Qd.es rfl) QlP rfl rfl rfl (BI.val rfl (XB (VJ i)) rfl) (XB (Ig i)) rfl ?_
 refine AK.denilA (b:=617) [some 1] rfl (QmP (f:=QQ) (x:=(([]:LI_):LI_)) (λ_=>rfl) rfl) ?_
 obtain⟨j,h⟩:=OQ h
 refine Qf g [.S 0 (.own 617 (c.take a.toNat++List.replicate (c.length-a.toNat) (([]:LI_):LI_)).length),.S 36 (.own 617 (c.take a.toNat++List.replicate (c.length-a.toNat) (([]:LI_):LI_)).length),6] Z (a2_ (QjZ (XB (Ig i))) (QjZ (XB (Ig i)))) ?_
 have a4:a.toNat=((c.take a.toNat++List.replicate (c.length-a.toNat) (([]:LI_):LI_)).take a.toNat).length:=by rw[WV,Zq (XB (Ig j))]
 exact K g [.x (λσ=>(σ.set 617 (.arr 1 (((c.take a.toNat++List.replicate (c.length-a.toNat) (([]:LI_):LI_)).take a.toNat).map QQ))).put 41 (.own 617 a.toNat)),.S 41 (.own 617 ((c.take a.toNat++List.replicate (c.length-a.toNat) (([]:LI_):LI_)).take a.toNat).length),4] Z (Qe.sliceO Z Z (QG g.n Z) Z Z (Qd.es Z) BI.no (BI.val Z (XB (VJ j)) Z) (XB (Ig j)) (by simp)) (QmI (XB (Ig j)))<|E h Z r2_
def RO (a:(Int×Xw)):O_ Bool:=bif (a.1 != 0)then some true else (XW a.2).bind λb=>some (b != 0)
def ED (a:Int)(b:(L_ Qr)):O_ ((Int×(L_ Qr))⊕((L_ Qr)⊕(L_ Qr))):=some (.inl ((Qs (a+1)),b))
def FB (f:QLL)(j:LI_)(h:LI_)(g:Int)(k:Int)(e:Int)(a:(L_ Qr)):O_ ((Int×(L_ Qr))⊕((L_ Qr)⊕(L_ Qr))):=bif (e<(f.length:Int))then (idx f e).bind λi=>(Xn j).bind λb=>(Xn h).bind λc=>(Xn i).bind λd=>(chk (a.length+([(Qr.mk g b c d)]:L_ Qr).length<=4294967296)).bind λ_=>bif (((a++[(Qr.mk g b c d)]).length:Int)==k)then some (.inr (.inl (a++[(Qr.mk g b c d)])))else some (.inl ((Qs (e+1)),(a++[(Qr.mk g b c d)])))else some (.inr (.inr a))
def FC (a:(L_ Qr)):O_ ((Int×(L_ Qr))⊕((L_ Qr)⊕(L_ Qr))):=some (.inr (.inl a))
def EE (a:Int)(b:(L_ Qr)):O_ ((Int×(L_ Qr))⊕((L_ Qr)⊕(L_ Qr))):=ED a b
def FD (g:QLL)(d:(Int×Xw))(e:QLL)(h:LI_)(i:Int)(j:Int)(a:Int)(b:(L_ Qr)):O_ ((Int×(L_ Qr))⊕((L_ Qr)⊕(L_ Qr))):=bif (a<(g.length:Int))then (idx g a).bind λc=>(XX d.2 c).bind λf=>bif (f != 0)then ED a b else (QO (λst=>FB e h c i j st.1 st.2) (0,b)).bind (Sum.elim (λq=>FC q) (λq=>EE a q))else some (.inr (.inr b))
def FE (a:(L_ Qr)):O_ ((L_ Qr)⊕(L_ Qr)):=some (.inl a)
def FF (a:(L_ Qr)):O_ ((L_ Qr)⊕(L_ Qr)):=some (.inr a)
def EF (e:(L_ Qr))(f:QLL)(a:(Int×Xw))(g:QLL)(h:LI_)(i:Int)(j:Int)(b:Bool):O_ ((L_ Qr)⊕(L_ Qr)):=bif b then some (.inr e)else (GS f).bind λc=>(UH c a.2).bind λd=>(QO (λst=>FD g a d h i j st.1 st.2) (0,e)).bind (Sum.elim (λq=>FE q) (λq=>FF q))
def LM (e:Ql)(f:QMk)(c:Int)(g:Int)(k:(L_ Qr))(h:QLL)(i:QLL)(j:(L_ Qr))(d:LI_):O_ ((L_ Qr)⊕(L_ Qr)):=(Js e f c d).bind λa=>(RO a).bind (λb=>EF j i a h d c g b)
def FG (lpl lpf:Nat)(y:Ql)(z:QMk)(k:Int)(w:Int)(l:(L_ Qr))(j:QLL)(x:QLL)(l8:(L_ Qr))(D:LI_){r:((L_ Qr)⊕(L_ Qr))}(h:LM y z k w l j x l8 D=some r):OB prog lpl (Yc lpf) (Qof (.L 618) (.L 619) (.L 620) (.L 621) (.L 622) (.L 623) (.L 624) (.L 625) (.sl 1 (D.map Qb))) [(617,.lp lpl (Yc lpf) (WU (.L 618) (.L 619) (.L 620) (.L 621) (.L 622) (.L 623) (.L 624) (.L 625)) 0),(618,.var (Qa y)),(619,.var (XV z)),(620,.var (Qb k)),(621,.var (Qb w)),(622,.var [.own 615 l.length]),(615,.arr 4 (l.map Qn)),(623,.var (Xr j)),(624,.var (Xr x)),(625,.var [.own 616 l8.length]),(616,.arr 4 (l8.map Qn))] ((Sum.elim (λq=>(Gives (.b false) [(615,.arr 4 (l.map Qn)),(616,.arr 4 (q.map Qn)),(617,.lp lpl (Yc lpf) (WU (.L 618) (.L 619) (.L 620) (.L 621) (.L 622) (.L 623) (.L 624) (.L 625)) 2),(618,.var (Qa y)),(619,.var (XV z)),(620,.var (Qb k)),(621,.var (Qb w)),(622,.var [.own 616 q.length]),(623,.var (Xr j)),(624,.var (Xr x)),(625,.var [.own 616 q.length])])) (λq=>(Gives (.b true) [(615,.arr 4 (l.map Qn)),(616,.arr 4 (q.map Qn)),(617,.lp lpl (Yc lpf) (WU (.L 618) (.L 619) (.L 620) (.L 621) (.L 622) (.L 623) (.L 624) (.L 625)) 0),(618,.var (Qa y)),(619,.var (XV z)),(620,.var (Qb k)),(621,.var (Qb w)),(622,.var [.own 615 l.length]),(623,.var (Xr j)),(624,.var (Xr x)),(625,.var [.own 616 q.length])]))) r):=by
 refine OB.walk (b:=617) 109 rfl rfl λC i=>?_
 refine tg_ i [3] ?_
 refine AK.done (an_ rfl (ex_ _ (an_ rfl ?_)))
 obtain⟨f,b1,h⟩:=Qm h
 refine Qf i [3,.A (Qa y),3,.o (.C4 (.tup [.agg (QD f.2),.I f.1])),5,.O 14 (.var (QD f.2)),5] Z (a3_ Z (Ti _ _ _ _ _ b1) Z) ?_
 obtain⟨a9,b2,h⟩:=Qm h
 replace h:EF l8 x f j D k w a9=some r:=h
 refine AK.meetX (λσ=>σ=⟨[(6,.L 620),(7,.L 621),(8,.L 622),(10,.L 623),(11,.L 624),(12,.L 625),(13,.sl 1 (D.map Qb)),lk_ 14,(69,.b a9)],[(14,.var (QD f.2)),(615,.arr 4 (l.map Qn)),(616,.arr 4 (l8.map Qn)),(617,.lp lpl (Yc lpf) (WU (.L 618) (.L 619) (.L 620) (.L 621) (.L 622) (.L 623) (.L 624) (.L 625)) 1),(618,.var (Qa y)),(619,.var (XV z)),(620,.var (Qb k)),(621,.var (Qb w)),(622,.var [.own 615 l.length]),(623,.var (Xr j)),(624,.var (Xr x)),(625,.var [.own 616 l8.length])]⟩) ?_ ?_
 ·replace h:=b2
  refine tg_ i [4] ?_
  rcases Xq h with⟨P,h⟩|⟨P,h⟩
  ·refine Qf i [.S 65 (.b true),5,.K [6,7,8,10,11,12,13,14,69] [14,615,616,617,618,619,620,621,622,623,624,625]] Z (tc_ P) ?_
   cases h
   exact mt_
  obtain⟨c5,b3,h⟩:=Qm h
  refine Qf i [.S 65 (.b false),.A (QD f.2),.o (.C1 (.I c5)),3,.K [6,7,8,10,11,12,13,14,69] [14,615,616,617,618,619,620,621,622,623,624,625]] Z ⟨⟨(tc_ P),Z⟩,(Fy _ _ b3)⟩ ?_
  cases h
  exact mt_
 rintro σ rfl
 replace h:EF l8 x f j D k w a9=some r:=h
 refine tg_ i [1] ?_
 rcases Xq h with⟨a0,h⟩|⟨a0,h⟩
 ·refine Qf i [.T,3,.K [] [615,616,617,618,619,620,621,622,623,624,625]] Z (A a0) ?_
  cases h
  refine AK.done ?_
  exact ex_ _ (an_ Z (gives rB_))
 obtain⟨b4,b5,h⟩:=Qm h
 obtain⟨g,b6,h⟩:=Qm h
 refine Qf i [.F,5,.o (.co false [.d] 1 (b4.map QQ) b4.length),1,.cm (.fn) [(617,71),(618,14)] [(71,617),(14,618)] [] [.d,.d] [(617,.arr 1 (g.map QQ)),(618,.var (QD f.2))] (.own 617 g.length),6,.o (.ln j.length),4,.K [6,7,8,12,13,14,16,74,75,76] [14,71,615,616,617,618,619,620,621,622,623,624,625]] Z (a4_ a0 ⟨(NM _ _ b5),Qc,.inl Z⟩ (Iy _ _ _ b6) Qc) ?_
 obtain⟨c6,b7,h⟩:=Qm h
 refine AK.loop (body:=(λst=>FD j f g D k w st.1 st.2)) (λst σ=>σ=⟨[(6,.L 620),(7,.L 621),(8,.L 622),(12,.L 625),(13,.sl 1 (D.map Qb)),lk_ 14,(16,.own 71 g.length),(74,.sl 1 (j.map QQ)),(75,.I (j.length:Int)),(76,.I st.1)],[(14,.var (QD f.2)),(71,.arr 1 (g.map QQ)),(615,.arr 4 (l.map Qn)),(616,.arr 4 (st.2.map Qn)),(617,.lp lpl (Yc lpf) (WU (.L 618) (.L 619) (.L 620) (.L 621) (.L 622) (.L 623) (.L 624) (.L 625)) 1),(618,.var (Qa y)),(619,.var (XV z)),(620,.var (Qb k)),(621,.var (Qb w)),(622,.var [.own 615 l.length]),(623,.var (Xr j)),(624,.var (Xr x)),(625,.var [.own 616 st.2.length])]⟩) (Sum.elim (λq e σ=>e=.ret/\σ=⟨[],[(615,.arr 4 (l.map Qn)),(616,.arr 4 (q.map Qn)),(617,.lp lpl (Yc lpf) (WU (.L 618) (.L 619) (.L 620) (.L 621) (.L 622) (.L 623) (.L 624) (.L 625)) 1),(618,.var (Qa y)),(619,.var (XV z)),(620,.var (Qb k)),(621,.var (Qb w)),(622,.var [.own 616 q.length]),(623,.var (Xr j)),(624,.var (Xr x)),(625,.var [.own 616 q.length])]⟩) (λq e σ=>e=.exit 2/\σ=⟨[],[(615,.arr 4 (l.map Qn)),(616,.arr 4 (q.map Qn)),(617,.lp lpl (Yc lpf) (WU (.L 618) (.L 619) (.L 620) (.L 621) (.L 622) (.L 623) (.L 624) (.L 625)) 1),(618,.var (Qa y)),(619,.var (XV z)),(620,.var (Qb k)),(621,.var (Qb w)),(622,.var [.own 615 l.length]),(623,.var (Xr j)),(624,.var (Xr x)),(625,.var [.own 616 q.length])]⟩)) b7 rfl ?_ ?_
 ·rintro ⟨a1,d4⟩ o σ rfl h
  refine tg_ i [6] ?_
  refine bq_ i h [.T,2] rfl (λa2 h=>?_) [.F,2,.K [] [615,616,617,618,619,620,621,622,623,624,625]] rfl λa2 h=>?_
  ·refine AK.meet (λσ=>∃a6:(L_ Qr),σ=⟨[(6,.L 620),(7,.L 621),(8,.L 622),(12,.L 625),(13,.sl 1 (D.map Qb)),lk_ 14,(16,.own 71 g.length),(74,.sl 1 (j.map QQ)),(75,.I (j.length:Int)),(76,.I a1)],[(14,.var (QD f.2)),(71,.arr 1 (g.map QQ)),(615,.arr 4 (l.map Qn)),(616,.arr 4 (a6.map Qn)),(617,.lp lpl (Yc lpf) (WU (.L 618) (.L 619) (.L 620) (.L 621) (.L 622) (.L 623) (.L 624) (.L 625)) 1),(618,.var (Qa y)),(619,.var (XV z)),(620,.var (Qb k)),(621,.var (Qb w)),(622,.var [.own 615 l.length]),(623,.var (Xr j)),(624,.var (Xr x)),(625,.var [.own 616 a6.length])]⟩/\ED a1 a6=some o) ?_ ?_
   ·obtain⟨b0,b8,h⟩:=Qm h
    obtain⟨c7,b9,h⟩:=Qm h
    refine Qf i [3,.o (.row (QQ b0)),7,.A (QD f.2),1,.o (.C2 (.I c7)),3] Z (a3_ (Xb b8) Z (Ir _ _ _ b9)) ?_
    refine bq_ i h [.T,3,.K [6,7,8,12,13,14,16,74,75,76] [14,71,615,616,617,618,619,620,621,622,623,624,625]] rfl (λa3 h=>?_) [.F,10,.K [6,7,8,12,13,14,16,18,74,75,76,84,85,86] [14,71,615,616,617,618,619,620,621,622,623,624,625]] rfl λa3 h=>?_
    ·exact AK.met (ex_ _ (an_ Z h))
    obtain⟨c8,c0,h⟩:=Qm h
    refine AK.loop (body:=(λst=>FB g D b0 k w st.1 st.2)) (λst σ=>σ=⟨[(6,.L 620),(7,.L 621),(8,.L 622),(12,.L 625),(13,.sl 1 (D.map Qb)),lk_ 14,(16,.own 71 g.length),(18,.sl 1 (b0.map Qb)),(74,.sl 1 (j.map QQ)),(75,.I (j.length:Int)),(76,.I a1),(84,.own 71 g.length),(85,.I (g.length:Int)),(86,.I st.1)],[(14,.var (QD f.2)),(71,.arr 1 (g.map QQ)),(615,.arr 4 (l.map Qn)),(616,.arr 4 (st.2.map Qn)),(617,.lp lpl (Yc lpf) (WU (.L 618) (.L 619) (.L 620) (.L 621) (.L 622) (.L 623) (.L 624) (.L 625)) 1),(618,.var (Qa y)),(619,.var (XV z)),(620,.var (Qb k)),(621,.var (Qb w)),(622,.var [.own 615 l.length]),(623,.var (Xr j)),(624,.var (Xr x)),(625,.var [.own 616 st.2.length])]⟩) (Sum.elim (λq e σ=>e=.ret/\σ=⟨[],[(615,.arr 4 (l.map Qn)),(616,.arr 4 (q.map Qn)),(617,.lp lpl (Yc lpf) (WU (.L 618) (.L 619) (.L 620) (.L 621) (.L 622) (.L 623) (.L 624) (.L 625)) 1),(618,.var (Qa y)),(619,.var (XV z)),(620,.var (Qb k)),(621,.var (Qb w)),(622,.var [.own 616 q.length]),(623,.var (Xr j)),(624,.var (Xr x)),(625,.var [.own 616 q.length])]⟩) (λq e σ=>e=.exit 4/\σ=⟨[(6,.L 620),(7,.L 621),(8,.L 622),(12,.L 625),(13,.sl 1 (D.map Qb)),lk_ 14,(16,.own 71 g.length),(74,.sl 1 (j.map QQ)),(75,.I (j.length:Int)),(76,.I a1)],[(14,.var (QD f.2)),(71,.arr 1 (g.map QQ)),(615,.arr 4 (l.map Qn)),(616,.arr 4 (q.map Qn)),(617,.lp lpl (Yc lpf) (WU (.L 618) (.L 619) (.L 620) (.L 621) (.L 622) (.L 623) (.L 624) (.L 625)) 1),(618,.var (Qa y)),(619,.var (XV z)),(620,.var (Qb k)),(621,.var (Qb w)),(622,.var [.own 615 l.length]),(623,.var (Xr j)),(624,.var (Xr x)),(625,.var [.own 616 q.length])]⟩)) c0 rfl ?_ ?_
    ·rintro ⟨d5,a7⟩ o σ rfl h
     refine tg_ i [6] ?_
     rcases Xq h with⟨a4,h⟩|⟨a4,h⟩
     ·obtain⟨c9,a8,h⟩:=Qm h
      obtain⟨p,c1,h⟩:=Qm h
      obtain⟨t,c2,h⟩:=Qm h
      obtain⟨u,c3,h⟩:=Qm h
      obtain⟨c4,h⟩:=OQ h
      refine Qf i [.T,7,.o (.row (QQ c9)),4,.K [6,7,8,12,13,14,16,18,20,74,75,76,84,85,86] [14,71,615,616,617,618,619,620,621,622,623,624,625]] Z (a3_ a4 (Yh a8 Z) (Xs (YC a8).2)) ?_
      refine AK.draw2 Qd i mixed [.N,.N,.N,.B (.cd false [.d] 1 (p.map Qb) p.length),.N,.B (.cd false [.d] 1 (t.map Qb) t.length),.N,.B (.cd false [.d] 1 (u.map Qb) u.length),.E (.agg (Qn (Qr.mk k p t u))),.a (.bd []) (some ([],.sl 4 (([(Qr.mk k p t u)]:L_ Qr).map Qn))) false,.m (.app ((a7++[(Qr.mk k p t u)]).map Qn) (a7++[(Qr.mk k p t u)]).length),.m .s] [] [] [6,7,8,12,13,14,16,18,74,75,76,84,85,86] [14,71,615,616,617,618,619,620,621,622,623,624,625] rfl rfl rfl ⟨⟨⟨⟨⟨⟨U,⟨(XJ _ _ c1),Qc⟩⟩,⟨(XJ _ _ c2),Qc⟩⟩,⟨(XJ _ _ c3),Qc⟩⟩,rfl⟩,rfl⟩,⟨Qc,Uv c4 Qc,Jr,WX Qc⟩⟩ rfl (by kernel_rfl) rfl rfl rfl ?_
      refine Qf i [.O 625 (.var [.own 616 (a7++[(Qr.mk k p t u)]).length]),9] Z (A Z) ?_
      refine bg_ h (λa5 h=>Qf i [.T,4,.O 622 (.var [.own 616 (a7++[(Qr.mk k p t u)]).length]),5,.K [] [615,616,617,618,619,620,621,622,623,624,625]] rfl (a2_ a5 rfl) ?_) λa5 h=>Qf i [.F,7,.K [6,7,8,12,13,14,16,18,74,75,76,84,85,86] [14,71,615,616,617,618,619,620,621,622,623,624,625]] rfl (A a5) ?_
      ·cases h
       exact QhE Z (an_ Z Z)
      cases h
      exact OP Z Z
     refine Qf i [.F,2,.K [6,7,8,12,13,14,16,74,75,76] [14,71,615,616,617,618,619,620,621,622,623,624,625]] Z (A a4) ?_
     cases h
     exact Rn Z (an_ Z Z)
    rcases c8 with(d0 | d1)
    ·replace h:FC d0=some o:=h
     rintro e σ ⟨rfl,rfl⟩
     refine tg_ i [3,.K [] [615,616,617,618,619,620,621,622,623,624,625]] ?_
     cases h
     exact QhE Z (an_ Z Z)
    replace h:EE a1 d1=some o:=h
    unfold EE at h
    rintro e σ ⟨rfl,rfl⟩
    refine tg_ i [2,.K [6,7,8,12,13,14,16,74,75,76] [14,71,615,616,617,618,619,620,621,622,623,624,625]] ?_
    exact AK.met (ex_ _ (an_ Z h))
   rintro σ ⟨a6,rfl,h⟩
   refine tg_ i [4,.K [6,7,8,12,13,14,16,74,75,76] [14,71,615,616,617,618,619,620,621,622,623,624,625]] ?_
   cases h
   exact OP Z Z
  cases h
  exact Rn Z (an_ Z Z)
 rcases c6 with(d2 | d3)
 ·replace h:FE d2=some r:=h
  rintro e σ ⟨rfl,rfl⟩
  refine tg_ i [2,.K [] [615,616,617,618,619,620,621,622,623,624,625]] ?_
  cases h
  refine AK.done ?_
  exact ex_ _ (an_ Z (gives rB_))
 replace h:FF d3=some r:=h
 rintro e σ ⟨rfl,rfl⟩
 refine tg_ i [2,.K [] [615,616,617,618,619,620,621,622,623,624,625]] ?_
 cases h
 refine AK.done ?_
 exact ex_ _ (an_ Z (gives rB_))
def ME (a:(L_ Qr)):O_ ((LI_×(L_ Qr))⊕((L_ Qr)⊕(L_ Qr))):=some (.inr (.inr a))
def Qaa (h:Int)(a:LI_)(f:QT)(b:Ql):O_ Bool:=bif (0<=h)then (idx a h).bind λc=>(idx f.Vars h).bind λd=>(YF b.Colours d.Colour).bind λe=>some (decide (e<=(Qs (c+1))))else some false
def Bm (a:LI_)(h:Int)(b:Bool):O_ ((Int×LI_)⊕(Int×LI_)):=bif b then (idx a h).bind λc=>some (.inl ((Qs (h-1)),(a.set h.toNat 0)))else some (.inr (h,a))
def MF (d:QT)(b:Ql)(h:Int)(a:LI_):O_ ((Int×LI_)⊕(Int×LI_)):=(Qaa h a d b).bind (λc=>Bm a h c)
def MG (b:(L_ Qr))(h:Int)(a:LI_):O_ ((LI_×(L_ Qr))⊕((L_ Qr)⊕(L_ Qr))):=bif (h<0)then some (.inr (.inl b))else (idx a h).bind λc=>(idx a h).bind λd=>some (.inl ((a.set h.toNat (Qs (c+1))),b))
def MH (d:QT)(b:Ql)(a:LI_)(c:(L_ Qr)):O_ ((LI_×(L_ Qr))⊕((L_ Qr)⊕(L_ Qr))):=(QO (λst=>MF d b st.1 st.2) ((Qs ((a.length:Int)-1)),a)).bind (λq=>MG c q.1 q.2)
def MI (e:Ql)(f:QMk)(g:Int)(h:Int)(i:(L_ Qr))(j:QLL)(k:QLL)(l:QT)(b:Ql)(a:LI_)(c:(L_ Qr)):O_ ((LI_×(L_ Qr))⊕((L_ Qr)⊕(L_ Qr))):=(Xn a).bind λd=>(LM e f g h i j k c d).bind (Sum.elim (λq=>ME q) (λq=>MH l b a q))
def MJ (a:(L_ Qr)):O_ ((L_ Qr)⊕(L_ Qr)):=some (.inl a)
def MK (a:(L_ Qr)):O_ ((L_ Qr)⊕(L_ Qr)):=some (.inr a)
def Pu (c:Ql)(d:QMk)(e:Int)(f:Int)(g:(L_ Qr))(h:QLL)(i:QLL)(j:(L_ Qr))(a:QT)(b:Ql):O_ ((L_ Qr)⊕(L_ Qr)):=(chk (decide (0<=(a.Vars.length:Int))&&decide ((a.Vars.length:Int)<=(a.Vars.length:Int))&&decide ((a.Vars.length:Int)<=4294967296))).bind λ_=>(QO (λst=>MI c d e f g h i a b st.1 st.2) ((List.replicate (a.Vars.length:Int).toNat (0:Int)),j)).bind (Sum.elim (λq=>MJ q) (λq=>MK q))
def ML (lpl lpf:Nat)(m:Ql)(p:QMk)(s:Int)(t:Int)(j:(L_ Qr))(u:QLL)(v:QLL)(l8:(L_ Qr))(l:QT)(f:Ql){r:((L_ Qr)⊕(L_ Qr))}(h:Pu m p s t j u v l8 l f=some r):QS prog 294 [.clo (.yield lpl) [] [],.L 626,.L 627] [(617,.lp lpl (Yc lpf) (WU (.L 618) (.L 619) (.L 620) (.L 621) (.L 622) (.L 623) (.L 624) (.L 625)) 0),(618,.var (Qa m)),(619,.var (XV p)),(620,.var (Qb s)),(621,.var (Qb t)),(622,.var [.own 615 j.length]),(615,.arr 4 (j.map Qn)),(623,.var (Xr u)),(624,.var (Xr v)),(625,.var [.own 616 l8.length]),(616,.arr 4 (l8.map Qn)),(626,.var (Qk l)),(627,.var (Qa f))] ((Sum.elim (λq=>(Gives (.tup []) [(615,.arr 4 (j.map Qn)),(616,.arr 4 (q.map Qn)),(617,.lp lpl (Yc lpf) (WU (.L 618) (.L 619) (.L 620) (.L 621) (.L 622) (.L 623) (.L 624) (.L 625)) 0),(618,.var (Qa m)),(619,.var (XV p)),(620,.var (Qb s)),(621,.var (Qb t)),(622,.var [.own 615 j.length]),(623,.var (Xr u)),(624,.var (Xr v)),(625,.var [.own 616 q.length]),(626,.var (Qk l)),(627,.var (Qa f))])) (λq=>(Gives (.tup []) [(615,.arr 4 (j.map Qn)),(616,.arr 4 (q.map Qn)),(617,.lp lpl (Yc lpf) (WU (.L 618) (.L 619) (.L 620) (.L 621) (.L 622) (.L 623) (.L 624) (.L 625)) 2),(618,.var (Qa m)),(619,.var (XV p)),(620,.var (Qb s)),(621,.var (Qb t)),(622,.var [.own 616 q.length]),(623,.var (Xr u)),(624,.var (Xr v)),(625,.var [.own 616 q.length]),(626,.var (Qk l)),(627,.var (Qa f))]))) r):=by
 refine wk_ 50 func294 λC k=>?_
 obtain⟨a8,h⟩:=OQ h
 refine Qf k [4,.o (.ln l.Vars.length),.o (.rows ((List.replicate (l.Vars.length:Int).toNat (0:Int)).map Qb)),.S 9 (.own 9 (List.replicate (l.Vars.length:Int).toNat (0:Int)).length),4,.K [0,1,2,4] [9,615,616,617,618,619,620,621,622,623,624,625,626,627]] Z (a3_ Qc ⟨a8,QjI Z⟩ (by simp)) ?_
 obtain⟨b6,a9,h⟩:=Qm h
 refine AK.loop (body:=(λst=>MI m p s t j u v l f st.1 st.2)) (λst σ=>σ=⟨[(0,.clo (.yield lpl) [] []),(1,.L 626),(2,.L 627),(4,.own 9 st.1.length)],[(9,.arr 1 (st.1.map Qb)),(615,.arr 4 (j.map Qn)),(616,.arr 4 (st.2.map Qn)),(617,.lp lpl (Yc lpf) (WU (.L 618) (.L 619) (.L 620) (.L 621) (.L 622) (.L 623) (.L 624) (.L 625)) 0),(618,.var (Qa m)),(619,.var (XV p)),(620,.var (Qb s)),(621,.var (Qb t)),(622,.var [.own 615 j.length]),(623,.var (Xr u)),(624,.var (Xr v)),(625,.var [.own 616 st.2.length]),(626,.var (Qk l)),(627,.var (Qa f))]⟩) (Sum.elim (λq e σ=>e=.ret/\σ=⟨[],[(615,.arr 4 (j.map Qn)),(616,.arr 4 (q.map Qn)),(617,.lp lpl (Yc lpf) (WU (.L 618) (.L 619) (.L 620) (.L 621) (.L 622) (.L 623) (.L 624) (.L 625)) 0),(618,.var (Qa m)),(619,.var (XV p)),(620,.var (Qb s)),(621,.var (Qb t)),(622,.var [.own 615 j.length]),(623,.var (Xr u)),(624,.var (Xr v)),(625,.var [.own 616 q.length]),(626,.var (Qk l)),(627,.var (Qa f))]⟩) (λq e σ=>e=.ret/\σ=⟨[],[(615,.arr 4 (j.map Qn)),(616,.arr 4 (q.map Qn)),(617,.lp lpl (Yc lpf) (WU (.L 618) (.L 619) (.L 620) (.L 621) (.L 622) (.L 623) (.L 624) (.L 625)) 2),(618,.var (Qa m)),(619,.var (XV p)),(620,.var (Qb s)),(621,.var (Qb t)),(622,.var [.own 616 q.length]),(623,.var (Xr u)),(624,.var (Xr v)),(625,.var [.own 616 q.length]),(626,.var (Qk l)),(627,.var (Qa f))]⟩)) a9 rfl ?_ ?_
 ·rintro ⟨b0,c6⟩ o σ rfl h
  obtain⟨a4,b1,h⟩:=Qm h
  obtain⟨b7,P,h⟩:=Qm h
  refine Qf k [6,.o (.co true [.o (b0.map Qb)] 1 (a4.map Qb) a4.length),.frz 12 (a4.map Qb) [12] []] Z (a2_ ⟨(QfL Z),⟨(XJ _ _ b1),Qc,.inr (Qj2 _)⟩⟩ (A (KS Qc))) ?_
  rcases b7 with(w | i)
  ·replace h:ME w=some o:=h
   refine Qf k [.x (λσ=>(σ.after [615,616] [(615,.arr 4 (j.map Qn)),(616,.arr 4 (w.map Qn)),(617,.lp lpl (Yc lpf) (WU (.L 618) (.L 619) (.L 620) (.L 621) (.L 622) (.L 623) (.L 624) (.L 625)) 2),(618,.var (Qa m)),(619,.var (XV p)),(620,.var (Qb s)),(621,.var (Qb t)),(622,.var [.own 616 w.length]),(623,.var (Xr u)),(624,.var (Xr v)),(625,.var [.own 616 w.length])]).put 13 (.b false)),7,.K [] [615,616,617,618,619,620,621,622,623,624,625,626,627]] Z (A (Qe.yieldV (b:=617) (M:=[(617,617),(618,618),(619,619),(620,620),(621,621),(622,622),(615,615),(623,623),(624,624),(625,625),(616,616)]) (N:=[(615,615),(616,616),(617,617),(618,618),(619,619),(620,620),(621,621),(622,622),(623,623),(624,624),(625,625)]) (dead:=[615,616]) (ms:=[.d,.d,.d,.d,.d,.d,.d,.d,.d,.d,.d,.d,.d,.d,.d,.d,.d,.d,.d,.d,.d,.d,.d,.d,.d,.d,.d,.d,.d,.d,.d,.d,.d,.d,.d,.d,.d,.d,.d,.d,.d,.d,.d,.d,.d,.d,.d,.d,.d,.d,.d,.d,.d,.d,.d,.d,.d,.d,.d,.d,.d,.d,.d,.d,.d,.d,.d,.d,.d,.d,.d,.d,.d,.d,.d,.d,.d,.d,.d,.d,.d,.d,.d,.d,.d,.d,.d,.d,.d,.d,.d,.d,.d,.d,.d,.d,.d,.d,.d,.d,.d,.d,.d,.d,.d,.d,.d,.d,.d]) (outs:=[(615,.arr 4 (j.map Qn)),(616,.arr 4 (w.map Qn)),(617,.lp lpl (Yc lpf) (WU (.L 618) (.L 619) (.L 620) (.L 621) (.L 622) (.L 623) (.L 624) (.L 625)) 2),(618,.var (Qa m)),(619,.var (XV p)),(620,.var (Qb s)),(621,.var (Qb t)),(622,.var [.own 616 w.length]),(623,.var (Xr u)),(624,.var (Xr v)),(625,.var [.own 616 w.length])]) (r:=.b false) Z Z Z Z Z Z Z (QG k.n Z) k.g Z Z (FG _ _ _ _ _ _ _ _ _ _ _ P))) ?_
   cases h
   exact QhE Z (an_ Z Z)
  replace h:MH l f b0 i=some o:=h
  refine Qf k [.x (λσ=>(σ.after [615,616] [(615,.arr 4 (j.map Qn)),(616,.arr 4 (i.map Qn)),(617,.lp lpl (Yc lpf) (WU (.L 618) (.L 619) (.L 620) (.L 621) (.L 622) (.L 623) (.L 624) (.L 625)) 0),(618,.var (Qa m)),(619,.var (XV p)),(620,.var (Qb s)),(621,.var (Qb t)),(622,.var [.own 615 j.length]),(623,.var (Xr u)),(624,.var (Xr v)),(625,.var [.own 616 i.length])]).put 13 (.b true)),16,.K [0,1,2,4,5] [9,615,616,617,618,619,620,621,622,623,624,625,626,627]] Z (A (Qe.yieldV (b:=617) (M:=[(617,617),(618,618),(619,619),(620,620),(621,621),(622,622),(615,615),(623,623),(624,624),(625,625),(616,616)]) (N:=[(615,615),(616,616),(617,617),(618,618),(619,619),(620,620),(621,621),(622,622),(623,623),(624,624),(625,625)]) (dead:=[615,616]) (ms:=[.d,.d,.d,.d,.d,.d,.d,.d,.d,.d,.d,.d,.d,.d,.d,.d,.d,.d,.d,.d,.d,.d,.d,.d,.d,.d,.d,.d,.d,.d,.d,.d,.d,.d,.d,.d,.d,.d,.d,.d,.d,.d,.d,.d,.d,.d,.d,.d,.d,.d,.d,.d,.d,.d,.d,.d,.d,.d,.d,.d,.d,.d,.d,.d,.d,.d,.d,.d,.d,.d,.d,.d,.d,.d,.d,.d,.d,.d,.d,.d,.d,.d,.d,.d,.d,.d,.d,.d,.d,.d,.d,.d,.d,.d,.d,.d,.d,.d,.d,.d,.d,.d,.d,.d,.d,.d,.d,.d,.d]) (outs:=[(615,.arr 4 (j.map Qn)),(616,.arr 4 (i.map Qn)),(617,.lp lpl (Yc lpf) (WU (.L 618) (.L 619) (.L 620) (.L 621) (.L 622) (.L 623) (.L 624) (.L 625)) 0),(618,.var (Qa m)),(619,.var (XV p)),(620,.var (Qb s)),(621,.var (Qb t)),(622,.var [.own 615 j.length]),(623,.var (Xr u)),(624,.var (Xr v)),(625,.var [.own 616 i.length])]) (r:=.b true) Z Z Z Z Z Z Z (QG k.n Z) k.g Z Z (FG _ _ _ _ _ _ _ _ _ _ _ P))) ?_
  obtain⟨b8,b2,h⟩:=Qm h
  refine AK.loop (body:=(λst=>MF l f st.1 st.2)) (λst σ=>σ=⟨[(0,.clo (.yield lpl) [] []),(1,.L 626),(2,.L 627),(4,.own 9 st.2.length),(5,.I st.1)],[(9,.arr 1 (st.2.map Qb)),(615,.arr 4 (j.map Qn)),(616,.arr 4 (i.map Qn)),(617,.lp lpl (Yc lpf) (WU (.L 618) (.L 619) (.L 620) (.L 621) (.L 622) (.L 623) (.L 624) (.L 625)) 0),(618,.var (Qa m)),(619,.var (XV p)),(620,.var (Qb s)),(621,.var (Qb t)),(622,.var [.own 615 j.length]),(623,.var (Xr u)),(624,.var (Xr v)),(625,.var [.own 616 i.length]),(626,.var (Qk l)),(627,.var (Qa f))]⟩) (λq e σ=>e=.exit 2/\σ=⟨[(0,.clo (.yield lpl) [] []),(1,.L 626),(2,.L 627),(4,.own 9 q.2.length),(5,.I q.1)],[(9,.arr 1 (q.2.map Qb)),(615,.arr 4 (j.map Qn)),(616,.arr 4 (i.map Qn)),(617,.lp lpl (Yc lpf) (WU (.L 618) (.L 619) (.L 620) (.L 621) (.L 622) (.L 623) (.L 624) (.L 625)) 0),(618,.var (Qa m)),(619,.var (XV p)),(620,.var (Qb s)),(621,.var (Qb t)),(622,.var [.own 615 j.length]),(623,.var (Xr u)),(624,.var (Xr v)),(625,.var [.own 616 i.length]),(626,.var (Qk l)),(627,.var (Qa f))]⟩) b2 rfl ?_ ?_
  ·rintro ⟨at_25,y⟩ o σ rfl h
   refine tg_ k [2] ?_
   obtain⟨a5,b3,h⟩:=Qm h
   replace h:Bm y at_25 a5=some o:=h
   refine AK.meetX (λσ=>σ=⟨[(0,.clo (.yield lpl) [] []),(1,.L 626),(2,.L 627),(4,.own 9 y.length),(5,.I at_25),(36,.b a5)],[(9,.arr 1 (y.map Qb)),(615,.arr 4 (j.map Qn)),(616,.arr 4 (i.map Qn)),(617,.lp lpl (Yc lpf) (WU (.L 618) (.L 619) (.L 620) (.L 621) (.L 622) (.L 623) (.L 624) (.L 625)) 0),(618,.var (Qa m)),(619,.var (XV p)),(620,.var (Qb s)),(621,.var (Qb t)),(622,.var [.own 615 j.length]),(623,.var (Xr u)),(624,.var (Xr v)),(625,.var [.own 616 i.length]),(626,.var (Qk l)),(627,.var (Qa f))]⟩) ?_ ?_
   ·replace h:=b3
    refine tg_ k [.K [0,1,2,4,5] [9,615,616,617,618,619,620,621,622,623,624,625,626,627]] ?_
    rcases Xq h with⟨z,h⟩|⟨z,h⟩
    ·obtain⟨b9,a0,h⟩:=Qm h
     obtain⟨c0,b4,h⟩:=Qm h
     obtain⟨c1,b5,h⟩:=Qm h
     refine AK.draw2 Qd k mixed [.N,.N,.E (.b true),.N,.N,.N,.B (.row (Qb b9)),.N,.N,.N,.N,.N,.N,.B (.row (Xe c0)),.N,.N,.B (.C2 (.I c1)),.N,.N] [] [] [0,1,2,4,5,36] [9,615,616,617,618,619,620,621,622,623,624,625,626,627] rfl rfl rfl ⟨⟨⟨⟨(tc_ z),(Yh a0 rfl)⟩,(Xs (YC a0).2)⟩,(Xb b4)⟩,(Bj _ _ _ b5)⟩ rfl (by kernel_rfl) rfl rfl rfl ?_
     refine tg_ k [.K [0,1,2,4,5,36] [9,615,616,617,618,619,620,621,622,623,624,625,626,627]] ?_
     cases h
     exact mt_
    refine AK.draw2 Qd k mixed [.N,.N,.E (.b false),.N,.N,.N,.N,.N,.N,.N,.N,.N,.N,.N,.N,.N,.N,.N,.N] [] [] [0,1,2,4,5,36] [9,615,616,617,618,619,620,621,622,623,624,625,626,627] rfl rfl rfl (tc_ z) rfl (by kernel_rfl) rfl rfl rfl ?_
    refine tg_ k [.K [0,1,2,4,5,36] [9,615,616,617,618,619,620,621,622,623,624,625,626,627]] ?_
    cases h
    exact mt_
   rintro σ rfl
   replace h:Bm y at_25 a5=some o:=h
   refine tg_ k [1] ?_
   rcases Xq h with⟨D,h⟩|⟨D,h⟩
   ·obtain⟨c2,a1,h⟩:=Qm h
    refine Qf k [.T,8,.st (Qb c2) ((y.set at_25.toNat 0).map Qb),8,.S 4 (.own 9 (y.set at_25.toNat 0).length),.K [0,1,2,4,5] [9,615,616,617,618,619,620,621,622,623,624,625,626,627]] Z (a4_ D (Yh a1 Z) ⟨(Xs (YC a1).2),Ep Z⟩ (congrArg (λn=>V.own 9 n) (by simp))) ?_
    cases h
    exact OP Z Z
   refine Qf k [.F,2,.K [0,1,2,4,5] [9,615,616,617,618,619,620,621,622,623,624,625,626,627]] Z (A D) ?_
   cases h
   exact Rn Z (an_ Z Z)
  obtain⟨at_29,a6⟩:=b8
  replace h:MG i at_29 a6=some o:=h
  rintro e σ ⟨rfl,rfl⟩
  refine tg_ k [9] ?_
  rcases Xq h with⟨O,h⟩|⟨O,h⟩
  ·refine Qf k [.T,3,.K [] [615,616,617,618,619,620,621,622,623,624,625,626,627]] Z (A O) ?_
   cases h
   exact QhE Z (an_ Z Z)
  obtain⟨a7,a2,h⟩:=Qm h
  obtain⟨c3,a3,h⟩:=Qm h
  refine Qf k [.F,6,.o (.row (Qb a7)),2,.st (Qb c3) ((a6.set at_29.toNat (Qs (a7+1))).map Qb),2,.S 4 (.own 9 (a6.set at_29.toNat (Qs (a7+1))).length),.K [0,1,2,4] [9,615,616,617,618,619,620,621,622,623,624,625,626,627]] Z (a6_ O (Yh a2 Z) (Xs (YC a2).2) (Yh a3 Z) ⟨(Xs (YC a3).2),Ep Z⟩ (congrArg (λn=>V.own 9 n) (by simp))) ?_
  cases h
  exact OP Z Z
 rcases b6 with(c4 | c5)
 ·replace h:MJ c4=some r:=h
  rintro e σ ⟨rfl,rfl⟩
  refine tg_ k [1,.K [] [615,616,617,618,619,620,621,622,623,624,625,626,627]] ?_
  cases h
  refine AK.done ?_
  exact ex_ [] (an_ U (gives rD_))
 replace h:MK c5=some r:=h
 rintro e σ ⟨rfl,rfl⟩
 refine tg_ k [1,.K [] [615,616,617,618,619,620,621,622,623,624,625,626,627]] ?_
 cases h
 refine AK.done ?_
 exact ex_ [] (an_ U (gives rD_))
def Tu (a:(L_ Qr)):O_ (L_ Qr):=some a
def Tv (a:(L_ Qr)):O_ (L_ Qr):=some a
def QbD (e:Ql)(h:QMk)(a:Int)(b:Int):O_ (L_ Qr):=
 bif ((a<0)||(((e.Tasks.length:Int)<=a)||(b<1)))then
 some ([]:L_ Qr)
 else
 (idx e.Tasks a).bind λc=>
 (KB c.Join (c.Ins.length:Int)).bind λf=>
 (KB c.Split (c.Outs.length:Int)).bind λg=>
 (Tt e c).bind λd=>
 (Pu e h a b ([]:L_ Qr) f g ([]:L_ Qr) d.2 d.1).bind (Sum.elim (λq=>Tu q) (λq=>Tv q))
def QeX (k y c e){r}(h:QbD k y c e=some r):QS prog 140 [.agg (Qa k),.sl 1 (y.map Qj),.I c,.I e] [] (Gives (.sl 4 (r.map Qn)) []):=by
 refine QS.walkR 109 func140 Z ntmps140 Z λC f hR=>?_
 refine tg_ f [11] ?_
 refine AK.meetX (λσ=>σ=⟨[lk_ 4,lk_ 5,lk_ 6,lk_ 7,lk_ 8,(33,.b ((c<0)||(((k.Tasks.length:Int)<=c)||(e<1))))],[(4,.var (Qa k)),(5,.var (XV y)),(6,.var (Qb c)),(7,.var (Qb e)),(8,.var [.Y])]⟩) ?_ ?_
 ·exact H f [4] Z<|bO_ (decide (c<0)) (λg=>G f [.S 23 (.b true),11,.S 33 (.b ((c<0)||(((k.Tasks.length:Int)<=c)||(e<1))))] Z ⟨(tc_ g),(cb_ (GZ g Z))⟩<|M Z) λg=>G f [.S 23 (.b false),3,.o (.ln k.Tasks.length),3] Z ⟨(tc_ g),Qc⟩<|bO_ (decide ((k.Tasks.length:Int)<=c)) (λl=>G f [.S 30 (.b true),4,.S 33 (.b ((c<0)||(((k.Tasks.length:Int)<=c)||(e<1))))] Z ⟨(tc_ l),(cb_ (Kk g (GZ l Z)))⟩<|M Z) λl=>G f [.S 30 (.b false),4,.S 33 (.b ((c<0)||(((k.Tasks.length:Int)<=c)||(e<1))))] Z ⟨(tc_ l),(cb_ (Kk g (Kk l Z)))⟩<|M Z
 rintro σ rfl
 refine tg_ f [1] ?_
 rcases Xq h with⟨p,h⟩|⟨p,h⟩
 ·refine Qf f [.T,3,.O 8 (.var [.Y]),4,.denilO 8 [some 4],.O 8 (.var (Qjk ([]:L_ Qr))),.K [8] [8]] Z (a3_ p Z Z) ?_
  cases h
  exact AK.done (ex_ [_] (an_ (an_ (ex_ _ (ex_ _ (an_ Z (an_ Z (Or.inr (an_ (Qd.ag Z) Z)))))) U) (gives U)))
 obtain⟨i,z,h⟩:=Qm h
 obtain⟨q,D,h⟩:=Qm h
 obtain⟨t,P,h⟩:=Qm h
 refine Qf f [.F,7,.o (.row (Qk i)),.A (Qk i),2,.O 9 (.var (Qk i)),3,.K [4,5,6,7,8,9] [4,5,6,7,8,9]] Z (a4_ p (Xb z) Z Z) ?_
 refine AK.draw2 Qd f mixed [.N,.N,.N,.N,.B (.ln i.Ins.length),.B (.cd false [.d,.d] 1 (q.map QQ) q.length),.N,.N,.N,.N,.B (.ln i.Outs.length),.B (.cd false [.d,.d] 1 (t.map QQ) t.length),.N,.N,.m .s,.m .s] [] [] [4,5,6,7,8,9,10,11] [4,5,6,7,8,9,10,11] rfl rfl rfl ⟨⟨⟨⟨U,Qc⟩,⟨(HY _ _ _ D),Qc⟩⟩,Qc⟩,⟨(HY _ _ _ P),Qc⟩⟩ rfl (by kernel_rfl) rfl rfl rfl ?_
 obtain⟨j,a0,h⟩:=Qm h
 refine Qf f [.O 10 (.var (Xr q)),.O 11 (.var (Xr t)),9,.A (Qa k),.A (Qk i),.cm (.fn) [] [(53,2),(609,3)] [] [.d,.d] [(2,.var (Qa j.1)),(3,.var (Qk j.2))] (.clo (.func 294) [] [.L 3,.L 2]),3,.K [4,5,6,7,8,10,11,12,53] [4,5,6,7,8,10,11,12,53,609]] Z (a5_ Z Z Z Z (QbC _ _ _ a0)) ?_
 obtain⟨a1,x,h⟩:=Qm h
 refine Qf f [.adoptO 8 0 606 4,.O 606 (.arr 4 (([]:L_ Qr).map Qn)),.O 8 (.var [.own 606 ([]:L_ Qr).length]),.adoptO 12 0 607 4,.O 607 (.arr 4 (([]:L_ Qr).map Qn)),.O 12 (.var [.own 607 ([]:L_ Qr).length])] Z (a4_ Z Z Z Z) ?_
 rcases a1 with(u | w)
 ·replace h:Tu u=some r:=h
  refine AK.rangeF 613 [4,5,6,7,8,10,11,12] [(617,613),(618,4),(619,5),(620,6),(621,7),(622,8),(615,606),(623,10),(624,11),(625,12),(616,607),(626,609),(627,53)] [(606,615),(607,616),(613,617),(4,618),(5,619),(6,620),(7,621),(8,622),(10,623),(11,624),(12,625),(609,626),(53,627)] [606,607] [.d,.d,.d] Yc f hR (λ_=>rfl) rfl rfl rfl rfl λlpl lpf=>?_
  refine ex_ [(615,.arr 4 (([]:L_ Qr).map Qn)),(616,.arr 4 (u.map Qn)),(617,.lp lpl (Yc lpf) (WU (.L 618) (.L 619) (.L 620) (.L 621) (.L 622) (.L 623) (.L 624) (.L 625)) 0),(618,.var (Qa k)),(619,.var (XV y)),(620,.var (Qb c)),(621,.var (Qb e)),(622,.var [.own 615 ([]:L_ Qr).length]),(623,.var (Xr q)),(624,.var (Xr t)),(625,.var [.own 616 u.length]),(626,.var (Qk j.2)),(627,.var (Qa j.1))] (ex_ (.tup []) (ex_ _ (ex_ _ (ex_ (WU (.L 4) (.L 5) (.L 6) (.L 7) (.L 8) (.L 10) (.L 11) (.L 12)) (ex_ 0 (an_ rfl ?_))))))
  refine an_ (ML _ _ _ _ _ _ _ _ _ _ _ _ x) (an_ rfl (an_ (bne_iff_ne.1 (show(0 != 1)=true from rfl)) ?_))
  refine QmN Z ?_
  refine Qf f [6,.O 8 (.var [.own 607 u.length]),3,.frz 607 (u.map Qn) [] [8],.K [8] [8]] Z (a2_ Z (A ⟨(KS Qc),U⟩)) ?_
  cases h
  exact AK.done (ex_ [_] (an_ (an_ (ex_ _ (ex_ _ (an_ Z (an_ Z (Or.inr (an_ (Qd.ag Z) Z)))))) U) (gives U)))
 replace h:Tv w=some r:=h
 refine AK.rangeF 613 [4,5,6,7,8,10,11,12] [(617,613),(618,4),(619,5),(620,6),(621,7),(622,8),(615,606),(623,10),(624,11),(625,12),(616,607),(626,609),(627,53)] [(606,615),(607,616),(613,617),(4,618),(5,619),(6,620),(7,621),(8,622),(10,623),(11,624),(12,625),(609,626),(53,627)] [606,607] [.d,.d,.d] Yc f hR (λ_=>rfl) rfl rfl rfl rfl λlpl lpf=>?_
 refine ex_ [(615,.arr 4 (([]:L_ Qr).map Qn)),(616,.arr 4 (w.map Qn)),(617,.lp lpl (Yc lpf) (WU (.L 618) (.L 619) (.L 620) (.L 621) (.L 622) (.L 623) (.L 624) (.L 625)) 2),(618,.var (Qa k)),(619,.var (XV y)),(620,.var (Qb c)),(621,.var (Qb e)),(622,.var [.own 616 w.length]),(623,.var (Xr q)),(624,.var (Xr t)),(625,.var [.own 616 w.length]),(626,.var (Qk j.2)),(627,.var (Qa j.1))] (ex_ (.tup []) (ex_ _ (ex_ _ (ex_ (WU (.L 4) (.L 5) (.L 6) (.L 7) (.L 8) (.L 10) (.L 11) (.L 12)) (ex_ 2 (an_ rfl ?_))))))
 refine an_ (ML _ _ _ _ _ _ _ _ _ _ _ _ x) (an_ rfl (an_ (bne_iff_ne.1 (show(2 != 1)=true from rfl)) ?_))
 refine Qob Z ?_
 refine Qf f [3,.frz 607 (w.map Qn) [] [8],.K [8] [8]] Z (A (A ⟨(KS Qc),U⟩)) ?_
 cases h
 exact AK.done (ex_ [_] (an_ (an_ (ex_ _ (ex_ _ (an_ Z (an_ Z (Or.inr (an_ (Qd.ag Z) Z)))))) U) (gives U)))
def Qg7 (e:Ql)(f:QMk)(a:Int)(d:Int)(c:(L_ Qr)):O_ ((Int×(L_ Qr))⊕(L_ Qr)):=bif (d<(e.Tasks.length:Int))then (QbD e f d (Qs (a-(c.length:Int)))).bind λb=>(chk (c.length+b.length<=4294967296)).bind λ_=>some (.inl ((Qs (d+1)),(c++b)))else some (.inr c)
def Qg8 (a:(L_ Qr)):O_ (L_ Qr):=some a
def QeY (b:Ql)(c:QMk)(a:Int):O_ (L_ Qr):=(QO (λst=>Qg7 b c a st.1 st.2) (0,([]:L_ Qr))).bind (λq=>Qg8 q)
def Qg9 (f k a):CT 80 [.agg (Qa f),.sl 1 (k.map Qj),.I a] [] (QeY f k a) (λr=>(.own 600 r.length)) (λr=>[(600,.arr 4 (r.map Qn))]):=
 W 27 func80 Z λC g r h=>g3_ g [16,.o (.ln f.Tasks.length),4,.adopt 7 15 4,.O 15 (.arr 4 (([]:L_ Qr).map Qn)),.S 7 (.own 15 ([]:L_ Qr).length)] Z Qc Z (congrArg (λn=>V.own 15 n) (by simp))<|lp_ h (λst=>⟨[(1,.sl 1 (k.map Qj)),(2,.I a),lk_ 3,(7,.own 15 st.2.length),(11,.I (f.Tasks.length:Int)),(12,.I st.1)],[(3,.var (Qa f)),(15,.arr 4 (st.2.map Qn))]⟩) (λq=>(.exit 0,⟨[(7,.own 15 q.length)],[(15,.arr 4 (q.map Qn))]⟩)) Z (λ⟨p,l⟩ o h=>H g [6] Z<|I h (λb h=>B h λe i h=>X h λj h=>g4_ g [.T,12,.A (Qa f),6,.o (.C4 (.sl 4 (e.map Qn))),.app ((l++e).map Qn) (l++e).length,8] Z b Z (QeX _ _ _ _ i) ⟨Qc,Uv j Qc,Jr,WX Qc⟩<|rN_ h Z) λb h=>J g [.F,2] Z b<|rX_ h Z) λm h=>H g [9,.K [6] [15],.ren 15 600] Z<|E h Z r1_
def Bn (b:Int)(a:Bool)(c:(L_ Qr))(d:QBg):O_ ((Bool×Int×(L_ Qr)×QBg)⊕(Bool×(L_ Qr))):=some (.inl (a,(Qs (b+1)),c,d))
def Ls (c:Qr)(d:(L_ Qr))(e:Int)(a:Bool)(b:QBg):O_ ((Bool×Int×(L_ Qr)×QBg)⊕(Bool×(L_ Qr))):=bif (((Xa b c.Task).getD 0)==1)then (chk (d.length+([c]:L_ Qr).length<=4294967296)).bind λ_=>Bn e a (d++([c]:L_ Qr)) b else bif (((Xa b c.Task).getD 0)==2)then Bn e false d b else Bn e a d b
def RP (h:(L_ Qr))(i:Ql)(j:QMk)(b:Int)(a:Bool)(d:Int)(e:(L_ Qr))(f:QBg):O_ ((Bool×Int×(L_ Qr)×QBg)⊕(Bool×(L_ Qr))):=bif (d<(h.length:Int))then (idx h d).bind λc=>bif (!(Xa f c.Task).isSome)then (AQ i j c b).bind λg=>Ls c e d a (YP Dy f c.Task g)else Ls c e d a f else some (.inr (a,e))
def Lt (a:Bool)(b:(L_ Qr)):O_ ((L_ Qr)×Bool):=some (b,a)
def Qaz (c:Ql)(d:QMk)(a:Int)(b:Int):O_ ((L_ Qr)×Bool):=(QeY c d b).bind λe=>(QO (λst=>RP e c d a st.1 st.2.1 st.2.2.1 st.2.2.2) (true,0,([]:L_ Qr),([]:QBg))).bind (λq=>Lt q.1 q.2)
def QdA (n1 m2 g u):CT 44 [.agg (Qa n1),.sl 1 (m2.map Qj),.I g,.I u] [] (Qaz n1 m2 g u) (λr=>(.tup [.sl 4 (r.1.map Qn),.b r.2])) no_:=by
 refine W 59 func44 rfl λC p r h=>?_
 obtain⟨t,b2,h⟩:=Qm h
 refine Qf p [20,.O 17 (.map (QE V.I V.I ([]:QBg))),6,.A (Qa n1),2,.o (.co false [.d,.d,.d] 4 (t.map Qn) t.length),5,.adopt 10 50 4,.O 50 (.arr 4 (([]:L_ Qr).map Qn)),.S 10 (.own 50 ([]:L_ Qr).length),.K [1,2,4,10,11,12,21,22,23] [4,17,21,50]] Z (a5_ Z Z ⟨(Qg9 _ _ _ _ b2),Qc,.inl Z⟩ Z (congrArg (λn=>V.own 50 n) (by simp))) ?_
 obtain⟨b3,a8,h⟩:=Qm h
 refine AK.loop (body:=(λst=>RP t n1 m2 g st.1 st.2.1 st.2.2.1 st.2.2.2)) (λst σ=>σ=⟨[(1,.sl 1 (m2.map Qj)),(2,.I g),lk_ 4,(10,.own 50 st.2.2.1.length),(11,.b st.1),(12,.map 17),(21,.own 21 t.length),(22,.I (t.length:Int)),(23,.I st.2.1)],[(4,.var (Qa n1)),(17,.map (QE V.I V.I st.2.2.2)),(21,.arr 4 (t.map Qn)),(50,.arr 4 (st.2.2.1.map Qn))]⟩) (λq e σ=>e=.exit 0/\σ=⟨[(10,.own 50 q.2.length),(11,.b q.1)],[(50,.arr 4 (q.2.map Qn))]⟩) a8 rfl ?_ ?_
 ·rintro ⟨s,a3,w,x⟩ o σ rfl h
  refine tg_ p [6] ?_
  refine bq_ p h [.T,2] rfl (λy h=>?_) [.F,2,.K [10,11] [50]] rfl λy h=>?_
  ·refine AK.meet (λσ=>∃j:Bool,∃a4:(L_ Qr),∃a6:QBg,σ=⟨[(1,.sl 1 (m2.map Qj)),(2,.I g),lk_ 4,(10,.own 50 a4.length),(11,.b j),(12,.map 17),(21,.own 21 t.length),(22,.I (t.length:Int)),(23,.I a3)],[(4,.var (Qa n1)),(17,.map (QE V.I V.I a6)),(21,.arr 4 (t.map Qn)),(50,.arr 4 (a4.map Qn))]⟩/\Bn a3 j a4 a6=some o) ?_ ?_
   ·obtain⟨i,a5,h⟩:=Qm h
    refine Qf p [4,.v (.row (Qn i)) [] (.agg (Qn i)),2,.O 14 (.var (Qn i)),2] Z (a4_ (Yh a5 Z) (Xs (YC a5).2) Z Z) ?_
    refine AK.meet (λσ=>∃D:QBg,σ=⟨[(1,.sl 1 (m2.map Qj)),(2,.I g),lk_ 4,(10,.own 50 w.length),(11,.b s),(12,.map 17),lk_ 14,(21,.own 21 t.length),(22,.I (t.length:Int)),(23,.I a3)],[(4,.var (Qa n1)),(14,.var (Qn i)),(17,.map (QE V.I V.I D)),(21,.arr 4 (t.map Qn)),(50,.arr 4 (w.map Qn))]⟩/\Ls i w a3 s D=some o) ?_ ?_
    ·refine Qf p [5,.o (.any (.tup [.I ((Xa x i.Task).getD 0),.b (Xa x i.Task).isSome]) none),13] Z (A (λσ h1 h2 _=>Qe.lookupOk (e:=V.I) (f:=V.I) (l:=x) (k:=i.Task) (z:=0) Z Z (QG p.n Z) (h1 _ _ Z) (h2 _ _ Z) (h1 _ _ Z) Qh0 GJ ZQ Z Z)) ?_
     rcases Xq h with⟨P,h⟩|⟨P,h⟩
     ·obtain⟨a7,a9,h⟩:=Qm h
      refine Qf p [.T,.K [1,2,4,10,11,12,14,21,22,23] [4,14,17,21,50]] Z (A P) ?_
      refine AK.draw2 Qd p mixed [.N,.N,.N,.E (.agg (Qa n1)),.N,.E (.agg (Qn i)),.N,.B (.C4 (.I a7)),.m (.any ⟨[],[(17,.map (QE V.I V.I (YP Dy x i.Task a7)))],none⟩)] [] [] [1,2,4,10,11,12,14,21,22,23] [4,14,17,21,50] rfl rfl rfl ⟨⟨⟨⟨U,rfl⟩,rfl⟩,(Pr _ _ _ _ _ a9)⟩,(λσ h1 h2=>Qe.mapUpdate (e:=V.I) (f:=V.I) (l:=x) (k:=i.Task) (v:=a7) Dy rfl rfl (h1 _ _ rfl) (h2 _ _ rfl) (h1 _ _ rfl) (h1 _ _ rfl) Qh0 GJ rfl)⟩ rfl (by kernel_rfl) rfl rfl rfl ?_
      refine tg_ p [.K [1,2,4,10,11,12,14,21,22,23] [4,14,17,21,50]] ?_
      exact AK.met (ex_ _ (an_ Z h))
     refine Qf p [.F,1,.K [1,2,4,10,11,12,14,21,22,23] [4,14,17,21,50]] Z (A P) ?_
     exact AK.met (ex_ _ (an_ Z h))
    rintro σ ⟨D,rfl,h⟩
    refine Qf p [5,.o (.any (.I ((Xa D i.Task).getD 0)) none),9] Z (A (λσ h1 h2 _=>Qe.lookup (e:=V.I) (f:=V.I) (l:=D) (k:=i.Task) (z:=0) Z Z (QG p.n Z) (h1 _ _ Z) (h2 _ _ Z) (h1 _ _ Z) Qh0 GJ ZQ Z)) ?_
    rcases Xq h with⟨a0,h⟩|⟨a0,h⟩
    ·obtain⟨b0,h⟩:=OQ h
     refine Qf p [.T,2,.A (Qn i),.v (.bd []) [] (.sl 4 (([i]:L_ Qr).map Qn)),.app ((w++([i]:L_ Qr)).map Qn) (w++([i]:L_ Qr)).length,4,.K [1,2,4,10,11,12,21,22,23] [4,17,21,50]] Z (a4_ a0 Z Z ⟨Qc,Uv b0 Qc,Jr,WX Qc⟩) ?_
     exact AK.met (ex_ _ (ex_ _ (ex_ _ (an_ Z h))))
    refine Qf p [.F,6] Z (A a0) ?_
    refine bq_ p h [.T,5,.K [1,2,4,10,11,12,21,22,23] [4,17,21,50]] rfl (λa1 h=>?_) [.F,3,.K [1,2,4,10,11,12,21,22,23] [4,17,21,50]] rfl λa1 h=>?_
    ·exact AK.met (ex_ _ (ex_ _ (ex_ _ (an_ Z h))))
    exact AK.met (ex_ _ (ex_ _ (ex_ _ (an_ Z h))))
   rintro σ ⟨j,a4,a6,rfl,h⟩
   refine tg_ p [4,.K [1,2,4,10,11,12,21,22,23] [4,17,21,50]] ?_
   cases h
   exact OP Z Z
  cases h
  exact Rn Z (an_ Z Z)
 obtain⟨a2,b1⟩:=b3
 replace h:Lt a2 b1=some r:=h
 unfold Lt at h
 rintro e σ ⟨rfl,rfl⟩
 exact J p [11,.frz 50 (b1.map Qn) [8] []] Z (A (KS Qc))<|F h Z Z U
def Tw (b:Ql)(c:QK)(a:Int):O_ (L_ Qr):=(Qaz b c.M 64 a).bind λd=>some d.1
def QbE (e g a):CT 19 [.agg (Qa e),.agg (Qt g),.I a] [] (Tw e g a) (λr=>(.sl 4 (r.map Qn))) no_:=
 W 18 func19 Z λC j r h=>B h λi f h=>K j [9,.A (Qa e),3,.o (.C4 (.tup [.sl 4 (i.1.map Qn),.b i.2])),14] Z Z (QdA _ _ _ _ _ f)<|E h Z U
def QdB (a:((L_ QA)×QK))(c:Ql)(d:QK)(b:((L_ QA)×QK)):O_ Bool:=(idx a.1 0).bind λe=>bif (e.Id==1)then (idx a.1 1).bind λf=>bif ((f.Closed.length:Int)==0)then (idx a.1 2).bind λg=>(DT g.Closed ([1]:L_ Int)).bind λh=>bif h then (idx a.1 3).bind λi=>bif (i.Err==12)then (idx a.1 4).bind λj=>bif (j.Err==3)then (idx a.1 5).bind λk=>bif (k.Err==1)then (OX c a.2).bind λl=>bif l then (OX c d).bind λm=>bif (!m)then (idx b.1 2).bind λn=>(DT n.Closed ([1]:L_ Int)).bind λo=>bif o then (idx b.1 3).bind λp=>bif (p.Err==12)then (Qde b.2.M d.M).bind λq=>bif q then bif (b.2.Now==2)then (Tw c d 9).bind λr=>some ((r.length:Int)==1)else some false else some false else some false else some false else some false else some false else some false else some false else some false else some false else some false else some false
def QdC (a:Bool):O_ Bool:=some a
def OY  : O_ Bool:=
 (Qdb).bind λa=>
 (Fq a).bind λb=>
 (RM a b ([(Xy.mk 1 0 (Qr.mk 0 ([]:LI_) ([0]:L_ Int) ([0]:L_ Int)) 2),(Xy.mk 2 1 (Qr.mk 0 ([]:LI_) ([]:LI_) ([]:LI_)) 0),(Xy.mk 2 1 (Qr.mk 0 ([]:LI_) ([]:LI_) ([]:LI_)) 0),(Xy.mk 2 1 (Qr.mk 0 ([]:LI_) ([]:LI_) ([]:LI_)) 0),(Xy.mk 2 7 (Qr.mk 0 ([]:LI_) ([]:LI_) ([]:LI_)) 0),(Xy.mk 99 0 (Qr.mk 0 ([]:LI_) ([]:LI_) ([]:LI_)) 0)]:L_ Xy)).bind λd=>
 (RM a b ([(Xy.mk 1 0 (Qr.mk 0 ([]:LI_) ([0]:L_ Int) ([0]:L_ Int)) 1),(Xy.mk 6 0 (Qr.mk 0 ([]:LI_) ([]:LI_) ([]:LI_)) 0),(Xy.mk 6 0 (Qr.mk 0 ([]:LI_) ([]:LI_) ([]:LI_)) 0),(Xy.mk 3 1 (Qr.mk 0 ([]:LI_) ([]:LI_) ([]:LI_)) 0)]:L_ Xy)).bind λe=>
 bif (((d.1.length:Int) != 6)||((e.1.length:Int) != 4))then
 some false
 else
 (QdB d a b e).bind (λc=>QdC c)
def QdD  : CT 8 [] [] (OY ) V.b no_:=
 W 135 func8 Z λC a r h=>B h λx b5 h=>B h λz b6 h=>B h λe b7 h=>B h λy b8 h=>G a [7,.o (.c false [] (.agg (Qa x))),2,.O 1 (.var (Qa x)),4,.A (Qa x),.o (.C1 (.agg (Qt z))),2,.O 2 (.var (Qt z)),4,.v (.bd []) [] (.sl 1 (([0]:L_ Int).map Qb)),.v (.bd []) [] (.sl 1 (([0]:L_ Int).map Qb)),.v .no [none,some 1,none,none] (.agg (Qn (Qr.mk 0 ([]:LI_) ([0]:L_ Int) ([0]:L_ Int)))),2,.O 3 (.var (Qn (Qr.mk 0 ([]:LI_) ([0]:L_ Int) ([0]:L_ Int)))),4,.A (Qa x),.A (Qt z),.A (Qn (Qr.mk 0 ([]:LI_) ([0]:L_ Int) ([0]:L_ Int))),.A (Xl (Xy.mk 1 0 (Qr.mk 0 ([]:LI_) ([0]:L_ Int) ([0]:L_ Int)) 2)),.v .no [none,none,none,some 1,some 1,some 1,none] (.agg (Xl (Xy.mk 2 1 (Qr.mk 0 ([]:LI_) ([]:LI_) ([]:LI_)) 0))),.v .no [none,none,none,some 1,some 1,some 1,none] (.agg (Xl (Xy.mk 2 1 (Qr.mk 0 ([]:LI_) ([]:LI_) ([]:LI_)) 0))),.v .no [none,none,none,some 1,some 1,some 1,none] (.agg (Xl (Xy.mk 2 1 (Qr.mk 0 ([]:LI_) ([]:LI_) ([]:LI_)) 0))),.v .no [none,none,none,some 1,some 1,some 1,none] (.agg (Xl (Xy.mk 2 7 (Qr.mk 0 ([]:LI_) ([]:LI_) ([]:LI_)) 0))),.v .no [none,none,none,some 1,some 1,some 1,none] (.agg (Xl (Xy.mk 99 0 (Qr.mk 0 ([]:LI_) ([]:LI_) ([]:LI_)) 0))),.v (.bd []) [] (.sl 7 (([(Xy.mk 1 0 (Qr.mk 0 ([]:LI_) ([0]:L_ Int) ([0]:L_ Int)) 2),(Xy.mk 2 1 (Qr.mk 0 ([]:LI_) ([]:LI_) ([]:LI_)) 0),(Xy.mk 2 1 (Qr.mk 0 ([]:LI_) ([]:LI_) ([]:LI_)) 0),(Xy.mk 2 1 (Qr.mk 0 ([]:LI_) ([]:LI_) ([]:LI_)) 0),(Xy.mk 2 7 (Qr.mk 0 ([]:LI_) ([]:LI_) ([]:LI_)) 0),(Xy.mk 99 0 (Qr.mk 0 ([]:LI_) ([]:LI_) ([]:LI_)) 0)]:L_ Xy).map Xl)),.o (.C3 (.tup [.agg (Qt e.2),.sl 3 (e.1.map Qq)])),5,.O 4 (.var (Qt e.2)),5,.A (Qa x),.A (Qt z),.A (Qn (Qr.mk 0 ([]:LI_) ([0]:L_ Int) ([0]:L_ Int))),.A (Xl (Xy.mk 1 0 (Qr.mk 0 ([]:LI_) ([0]:L_ Int) ([0]:L_ Int)) 1)),.v .no [none,none,none,some 1,some 1,some 1,none] (.agg (Xl (Xy.mk 6 0 (Qr.mk 0 ([]:LI_) ([]:LI_) ([]:LI_)) 0))),.v .no [none,none,none,some 1,some 1,some 1,none] (.agg (Xl (Xy.mk 6 0 (Qr.mk 0 ([]:LI_) ([]:LI_) ([]:LI_)) 0))),.v .no [none,none,none,some 1,some 1,some 1,none] (.agg (Xl (Xy.mk 3 1 (Qr.mk 0 ([]:LI_) ([]:LI_) ([]:LI_)) 0))),.v (.bd []) [] (.sl 7 (([(Xy.mk 1 0 (Qr.mk 0 ([]:LI_) ([0]:L_ Int) ([0]:L_ Int)) 1),(Xy.mk 6 0 (Qr.mk 0 ([]:LI_) ([]:LI_) ([]:LI_)) 0),(Xy.mk 6 0 (Qr.mk 0 ([]:LI_) ([]:LI_) ([]:LI_)) 0),(Xy.mk 3 1 (Qr.mk 0 ([]:LI_) ([]:LI_) ([]:LI_)) 0)]:L_ Xy).map Xl)),.o (.C3 (.tup [.agg (Qt y.2),.sl 3 (y.1.map Qq)])),5,.O 6 (.var (Qt y.2)),5] Z ⟨⟨⟨⟨⟨⟨⟨⟨⟨⟨⟨⟨⟨⟨⟨⟨⟨⟨⟨⟨⟨⟨⟨⟨⟨⟨⟨⟨⟨⟨⟨U,(QfU _  b5)⟩,Z⟩,Z⟩,(Ta _ _ b6)⟩,Z⟩,Z⟩,Z⟩,Z⟩,Z⟩,Z⟩,Z⟩,Z⟩,Z⟩,Z⟩,Z⟩,Z⟩,Z⟩,Z⟩,Z⟩,(Tq _ _ _ _ b7)⟩,Z⟩,Z⟩,Z⟩,Z⟩,Z⟩,Z⟩,Z⟩,Z⟩,Z⟩,(Tq _ _ _ _ b8)⟩,Z⟩<|Y ⟨[lk_ 1,lk_ 2,lk_ 4,(5,.sl 3 (e.1.map Qq)),lk_ 6,(7,.sl 3 (y.1.map Qq)),(47,.b (((e.1.length:Int) != 6)||((y.1.length:Int) != 4)))],[(1,.var (Qa x)),(2,.var (Qt z)),(4,.var (Qt e.2)),(6,.var (Qt y.2))]⟩ (J a [2,.o (.ln e.1.length),2] Z Qc<|bO_ ((e.1.length:Int) != 6) (λf=>G a [.S 43 (.b true),5,.S 47 (.b (((e.1.length:Int) != 6)||((y.1.length:Int) != 4)))] Z ⟨(tc_ f),(cb_ (GZ f Z))⟩<|M Z) λf=>G a [.S 43 (.b false),1,.o (.ln y.1.length),3,.S 47 (.b (((e.1.length:Int) != 6)||((y.1.length:Int) != 4)))] Z ⟨⟨(tc_ f),Qc⟩,(cb_ (Kk f Z))⟩<|M Z)<|H a [1] Z<|I h (λD h=>J a [.T,7] Z D<|E h Z U) λD h=>J a [.F,3] Z D<|mV_ h (λN=>⟨[(0,.b N)],[]⟩) (λN h=>B h λb9 P h=>J a [2,.o (.row (Qq b9)),4] Z (Xb P)<|I h (λg h=>B h λa0 a1 h=>G a [.S 53 (.b true),1,.o (.row (Qq a0)),2,.o (.ln a0.Closed.length),3] Z ⟨⟨(tc_ g),(Xb a1)⟩,Qc⟩<|I h (λi h=>B h λc0 a2 h=>B h λc1 a3 h=>G a [.S 61 (.b true),1,.o (.row (Qq c0)),2,.v (.bd []) [] (.sl 1 (([1]:L_ Int).map Qb)),.o (.C2 (.b c1)),2] Z ⟨⟨⟨(tc_ i),(Xb a2)⟩,Z⟩,(UG _ _ _ a3)⟩<|I h (λj h=>B h λc2 a4 h=>G a [.S 69 (.b true),1,.o (.row (Qq c2)),5] Z ⟨(tc_ j),(Xb a4)⟩<|I h (λk h=>B h λc3 a5 h=>G a [.S 76 (.b true),1,.o (.row (Qq c3)),5] Z ⟨(tc_ k),(Xb a5)⟩<|I h (λl h=>B h λc4 a6 h=>G a [.S 83 (.b true),1,.o (.row (Qq c4)),5] Z ⟨(tc_ l),(Xb a6)⟩<|I h (λm h=>B h λc5 a7 h=>G a [.S 90 (.b true),.A (Qa x),.A (Qt e.2),.o (.C2 (.b c5)),2] Z ⟨⟨⟨(tc_ m),Z⟩,Z⟩,(RN _ _ _ a7)⟩<|I h (λp h=>B h λc6 a8 h=>G a [.S 95 (.b true),.A (Qa x),.A (Qt z),.o (.C2 (.b c6)),3] Z ⟨⟨⟨(tc_ p),Z⟩,Z⟩,(RN _ _ _ a8)⟩<|I h (λq h=>B h λc7 a9 h=>B h λc8 b0 h=>G a [.S 101 (.b true),1,.o (.row (Qq c7)),2,.v (.bd []) [] (.sl 1 (([1]:L_ Int).map Qb)),.o (.C2 (.b c8)),2] Z ⟨⟨⟨(tc_ q),(Xb a9)⟩,Z⟩,(UG _ _ _ b0)⟩<|I h (λs h=>B h λc9 b1 h=>G a [.S 109 (.b true),1,.o (.row (Qq c9)),5] Z ⟨(tc_ s),(Xb b1)⟩<|I h (λt h=>B h λd0 b2 h=>G a [.S 116 (.b true),4,.o (.C2 (.b d0)),2] Z ⟨(tc_ t),(Qf6 _ _ _ b2)⟩<|I h (λu h=>L a [.S 123 (.b true),5] Z u<|I h (λw h=>B h λb3 b4 h=>G a [.S 128 (.b true),.A (Qa x),.A (Qt z),.o (.C3 (.sl 4 (b3.map Qn))),.o (.ln b3.length),4] Z ⟨⟨⟨⟨(tc_ w),Z⟩,Z⟩,(QbE _ _ _ _ b4)⟩,Qc⟩<|mq_ h Z) λw h=>L a [.S 128 (.b false),8] Z w<|mq_ h Z) λu h=>L a [.S 123 (.b false),13] Z u<|mq_ h Z) λt h=>L a [.S 116 (.b false),20] Z t<|mq_ h Z) λs h=>L a [.S 109 (.b false),27] Z s<|mq_ h Z) λq h=>L a [.S 101 (.b false),35] Z q<|mq_ h Z) λp h=>L a [.S 95 (.b false),41] Z p<|mq_ h Z) λm h=>L a [.S 90 (.b false),46] Z m<|mq_ h Z) λl h=>L a [.S 83 (.b false),53] Z l<|mq_ h Z) λk h=>L a [.S 76 (.b false),60] Z k<|mq_ h Z) λj h=>L a [.S 69 (.b false),67] Z j<|mq_ h Z) λi h=>L a [.S 61 (.b false),75] Z i<|mq_ h Z) λg h=>L a [.S 53 (.b false),83] Z g<|mq_ h Z) λN h=>H a [2] Z<|E h Z U
def Qf7 (b:(L_ Qu))(f:Int)(a:Int):O_ ((Int×Int)⊕Int):=bif (a<(b.length:Int))then (idx b a).bind λc=>(idx b a).bind λd=>(idx b a).bind λe=>some (.inl ((Qs ((Qs ((Qs (f+(c.Mode.Vars.length:Int)))+(d.Mode.Ins.length:Int)))+(e.Mode.Outs.length:Int))),(Qs (a+1))))else some (.inr f)
def Qf8 (a:Int):O_ Bool:=some (decide (a<=1000))
def Vq (a:(L_ Qu)):O_ Bool:=bif (80<(a.length:Int))then some false else (QO (λst=>Qf7 a st.1 st.2) (0,0)).bind (λq=>Qf8 q)
def Qf9 (f):CT 28 [.sl 11 (f.map Qi)] [] (Vq f) V.b no_:=
 W 41 func28 Z λC d r h=>J d [9,.o (.ln f.length),3] Z Qc<|I h (λe h=>J d [.T,7] Z e<|E h Z U) λe h=>J d [.F,14] Z e<|lp_ h (λst=>⟨[(0,.sl 11 (f.map Qi)),(3,.I st.1),(4,.I st.2)],[]⟩) (λq=>(.exit 0,⟨[(3,.I q)],[]⟩)) Z (λ⟨t,u⟩ o h=>J d [5,.o (.ln f.length),3] Z Qc<|I h (λc h=>B h λg i h=>B h λj k h=>B h λl p h=>G d [.T,4] Z (A c) <| 
  dr_ d [.N,.N,.N,.B (.row (Qi g)),.N,.N,.N,.B (.ln g.Mode.Vars.length),.N,.N,.N,.B (.row (Qi j)),.N,.N,.N,.B (.ln j.Mode.Ins.length),.N,.N,.N,.B (.row (Qi l)),.N,.N,.N,.B (.ln l.Mode.Outs.length),.N,.m .s] [] [] [0,3,4] [] Z Z (a6_ (Xb i) Qc (Xb k) Qc (Xb p) Qc) Z <|
  H d [7] Z<|rN_ h Z) λc h=>J d [.F,2] Z c<|rX_ h Z) λv h=>H d [10] Z<|E h Z U
def NO (f:Qv)(h:Qv->Int->O_ Int)(a:Int)(c:Int)(d:Int):O_ ((Int×Int)⊕(Unit⊕Int)):=bif (d<(f.Kids.length:Int))then (idx f.Kids d).bind λe=>(h e (Qs (a-1))).bind λb=>bif (b==0)then some (.inr (.inl ()))else bif ((Qs ((Qs (c-500))+b))<=1)then some (.inr (.inl ()))else some (.inl ((Qs ((Qs (c-500))+b)),(Qs (d+1))))else some (.inr (.inr c))
def Qga : O_ Int:=some 0
def Qgb (a:Int):O_ Int:=some (Qs (a-1))
def OZ (h:Qv->Int->O_ Int)(b:Qv)(a:Int):O_ Int:=
 bif ((a<=0)||(9<(b.Kids.length:Int)))then
 some 0
 else
 (QO (λst=>NO b h a st.1 st.2) (500,0)).bind (Sum.elim (λq=>Qga) (λq=>Qgb q))
def Gr : Nat->Qv->Int->O_ Int
 | 0,_,_=>none
 | n+1,b,a=>OZ (Gr n) b a
def Vr (b:Qv)(a:Int):O_ Int:=Gr (SizeOf.sizeOf b) b a
def QdE (y:Qv->Int->O_ Int)(D:∀(f:Qv) (a:Int) {r:Int},y f a=some r->QS prog 142 [.agg (Qx f),.I a] [] (Gives (.I r) []))(f:Qv)(a:Int):CT 142 [.agg (Qx f),.I a] [] (OZ y f a) V.I no_:=
 W 41 func142 Z λC e r h=>H e [8] Z<|Y ⟨[(1,.I a),lk_ 2,(15,.b ((a<=0)||(9<(f.Kids.length:Int))))],[(2,.var (Qx f))]⟩ (H e [4] Z<|bO_ (decide (a<=0)) (λg=>G e [.S 10 (.b true),6,.S 15 (.b ((a<=0)||(9<(f.Kids.length:Int))))] Z ⟨(tc_ g),(cb_ (GZ g Z))⟩<|M Z) λg=>G e [.S 10 (.b false),2,.o (.ln f.Kids.length),3,.S 15 (.b ((a<=0)||(9<(f.Kids.length:Int))))] Z ⟨⟨(tc_ g),Hb _⟩,(cb_ (Kk g Z))⟩<|M Z)<|H e [1] Z<|I h (λl h=>J e [.T,7] Z l<|E h Z U) λl h=>J e [.F,14] Z l<|lq_ h (λst=>⟨[(1,.I a),lk_ 2,(5,.I st.1),(6,.I st.2)],[(2,.var (Qx f))]⟩) (λq=>(.ret,⟨[(4,.I 0)],[]⟩)) (λq=>(.exit 0,⟨[(5,.I q)],[]⟩)) Z (λ⟨w,x⟩ o h=>J e [6,.o (.ln f.Kids.length),3] Z (Hb _)<|I h (λi h=>B h λm p h=>B h λt s h=>g4_ e [.T,9,.o (.row (Qx m)),.A (Qx m),2,.o (.C2 (.I t)),10] Z i (DC p) Z (D _ _ s)<|I h (λj h=>J e [.T,9] Z j<|rR_ h Z) λj h=>J e [.F,17] Z j<|I h (λk h=>J e [.T,8] Z k<|rR_ h Z) λk h=>J e [.F,8] Z k<|rN_ h Z) λi h=>J e [.F,2] Z i<|rX_ h Z) (λ_ h=>H e [2] Z<|E h Z U) (λu h=>H e [10] Z<|E h Z U)
def RQ : ∀(fuel:Nat) (b:Qv) (a:Int) {r:Int},Gr fuel b a=some r->QS prog 142 [.agg (Qx b),.I a] [] (Gives (.I r) [])
 | 0,_,_,_,h=>by cases h
 | n+1,b,a,_,h=>QdE (Gr n) (λ_ _ _ h=>RQ n _ _ h) b a _ h
def Qgc (b a){r}(h:Vr b a=some r):QS prog 142 [.agg (Qx b),.I a] [] (Gives (.I r) []):=RQ _ b a h
def Ch (a:Qv):O_ Bool:=(Vr a 60).bind λb=>some (decide (0<b))
def NP (a):CT 83 [.agg (Qx a)] [] (Ch a) V.b no_:=
 W 6 func83 Z λC f r h=>B h λg e h=>K f [8,.A (Qx a),.o (.C2 (.I g)),5] Z Z (Qgc _ _ e)<|E h Z U
def VW (d:Ql)(e:Int)(a:Int)(b:Xj):O_ Bool:=(idx d.Colours e).bind λc=>bif (100<(c.Name.size:Int))then some true else some (decide (400<(Qs (a+(b.Names.length:Int)))))
def NQ (e:Ql)(f:Int)(a:Int):O_ (Int⊕(Unit⊕Unit)):=(idx e.Colours f).bind λb=>bif (a<(b.Names.length:Int))then (idx e.Colours f).bind λc=>(idx c.Names a).bind λd=>bif (100<(d.size:Int))then some (.inr (.inl ()))else some (.inl (Qs (a+1)))else some (.inr (.inr ()))
def Qgd : O_ ((Int×Int)⊕(Unit⊕Int)):=some (.inr (.inl ()))
def Qge (a:Int)(b:Xj)(c:Int):O_ ((Int×Int)⊕(Unit⊕Int)):=some (.inl ((Qs (a+(b.Names.length:Int))),(Qs (c+1))))
def VX (e:Ql)(d:Int)(a:Int)(b:Xj)(c:Bool):O_ ((Int×Int)⊕(Unit⊕Int)):=bif c then some (.inr (.inl ()))else (QO (λst=>NQ e d st) 0).bind (Sum.elim (λq=>Qgd) (λq=>Qge a b d))
def NR (c:Ql)(a:Int)(d:Int):O_ ((Int×Int)⊕(Unit⊕Int)):=bif (d<(c.Colours.length:Int))then (idx c.Colours d).bind λb=>(VW c d a b).bind (λe=>VX c d a b e)else some (.inr (.inr a))
def Qgf : O_ Bool:=some false
def NS (c:Ql)(a:Int)(b:Int):O_ ((Int×Int)⊕(Unit⊕Int)):=bif (b<(c.Places.length:Int))then (idx c.Places b).bind λd=>(idx c.Places b).bind λe=>bif (100<(e.Name.size:Int))then some (.inr (.inl ()))else some (.inl ((Qs (a+(d.First.length:Int))),(Qs (b+1))))else some (.inr (.inr a))
def Qgg : O_ Bool:=some false
def MM (b:QT)(a:Int):O_ (Int⊕(Unit⊕Unit)):=bif (a<(b.Vars.length:Int))then (idx b.Vars a).bind λc=>bif (100<(c.Name.size:Int))then some (.inr (.inl ()))else some (.inl (Qs (a+1)))else some (.inr (.inr ()))
def QeZ : O_ ((Int×Int)⊕(Unit⊕Unit)):=some (.inr (.inl ()))
def MN (c:QT)(a:Bool)(b:Int):O_ ((Bool×Int)⊕Bool):=bif (b<(c.Ins.length:Int))then (idx c.Ins b).bind λd=>(Ch d.Expr).bind λe=>some (.inl ((a&&e),(Qs (b+1))))else some (.inr a)
def MO (c:QT)(a:Bool)(b:Int):O_ ((Bool×Int)⊕Bool):=bif (b<(c.Outs.length:Int))then (idx c.Outs b).bind λd=>(Ch d.Expr).bind λe=>some (.inl ((a&&e),(Qs (b+1))))else some (.inr a)
def MP (a:Int)(b:QT)(d:Int)(c:Bool):O_ ((Int×Int)⊕(Unit⊕Unit)):=bif (!c)then some (.inr (.inl ()))else some (.inl ((Qs ((Qs ((Qs ((Qs (a+(b.Vars.length:Int)))+(b.Ins.length:Int)))+(b.Outs.length:Int)))+(b.Cancel.length:Int))),(Qs (d+1))))
def MQ (b:QT)(a:Int)(d:Int)(c:Bool):O_ ((Int×Int)⊕(Unit⊕Unit)):=(QO (λst=>MO b st.1 st.2) (c,0)).bind (λq=>MP a b d q)
def CM (b:QT)(a:Int)(c:Int):O_ ((Int×Int)⊕(Unit⊕Unit)):=(Ch b.Guard).bind λd=>(QO (λst=>MN b st.1 st.2) (d,0)).bind (λq=>MQ b a c q)
def MR (d:Ql)(b:Int)(c:Int):O_ ((Int×Int)⊕(Unit⊕Unit)):=
 bif (c<(d.Tasks.length:Int))then
 (idx d.Tasks c).bind λa=>
 bif ((200<(Qs ((Qs ((Qs ((Qs (b+(a.Vars.length:Int)))+(a.Ins.length:Int)))+(a.Outs.length:Int)))+(a.Cancel.length:Int))))||(100<(a.Name.size:Int)))then
 some (.inr (.inl ()))
 else
 (QO (λst=>MM a st) 0).bind (Sum.elim (λq=>QeZ) (λq=>CM a b c))
 else
 some (.inr (.inr ()))
def Qe0 : O_ Bool:=some false
def Qe1 (a:Int):O_ Bool:=some (decide (a<=400))
def MS (b:Ql)(a:Int):O_ Bool:=(QO (λst=>MR b st.1 st.2) (0,0)).bind (Sum.elim (λq=>Qe0) (λq=>Qe1 a))
def MT (b:Ql)(a:Int):O_ Bool:=(QO (λst=>NS b st.1 st.2) (a,0)).bind (Sum.elim (λq=>Qgg) (λq=>MS b q))
def Ov (a:Ql):O_ Bool:=
 bif ((40<(a.Colours.length:Int))||((70<(a.Places.length:Int))||(70<(a.Tasks.length:Int))))then
 some false
 else
 (QO (λst=>NR a st.1 st.2) (0,0)).bind (Sum.elim (λq=>Qgf) (λq=>MT a q))
def Qgh (i):CT 47 [.agg (Qa i)] [] (Ov i) V.b no_:=
 W 201 func47 Z λC g r h=>H g [8] Z<|Y ⟨[lk_ 1,(31,.b ((40<(i.Colours.length:Int))||((70<(i.Places.length:Int))||(70<(i.Tasks.length:Int)))))],[(1,.var (Qa i))]⟩ (J g [3,.o (.ln i.Colours.length),2] Z Qc<|bO_ (decide (40<(i.Colours.length:Int))) (λu=>G g [.S 20 (.b true),12,.S 31 (.b ((40<(i.Colours.length:Int))||((70<(i.Places.length:Int))||(70<(i.Tasks.length:Int)))))] Z ⟨(tc_ u),(cb_ (GZ u Z))⟩<|M Z) λu=>G g [.S 20 (.b false),2,.o (.ln i.Places.length),3] Z ⟨(tc_ u),Qc⟩<|bO_ (decide (70<(i.Places.length:Int))) (λw=>G g [.S 26 (.b true),6,.S 31 (.b ((40<(i.Colours.length:Int))||((70<(i.Places.length:Int))||(70<(i.Tasks.length:Int)))))] Z ⟨(tc_ w),(cb_ (Kk u (GZ w Z)))⟩<|M Z) λw=>G g [.S 26 (.b false),2,.o (.ln i.Tasks.length),3,.S 31 (.b ((40<(i.Colours.length:Int))||((70<(i.Places.length:Int))||(70<(i.Tasks.length:Int)))))] Z ⟨⟨(tc_ w),Qc⟩,(cb_ (Kk u (Kk w Z)))⟩<|M Z)<|H g [1] Z<|I h (λb1 h=>J g [.T,7] Z b1<|E h Z U) λb1 h=>J g [.F,14] Z b1<|lq_ h (λst=>⟨[lk_ 1,(3,.I st.1),(4,.I st.2)],[(1,.var (Qa i))]⟩) (λq=>(.ret,⟨[(2,.b false)],[]⟩)) (λq=>(.exit 0,⟨[lk_ 1,(3,.I q)],[(1,.var (Qa i))]⟩)) Z (λ⟨k,i9⟩ o h=>J g [6,.o (.ln i.Colours.length),3] Z Qc<|I h (λx h=>B h λy b3 h=>g3_ g [.T,10,.o (.row (QL y)),2,.o (.ln y.Names.length),6] Z x (Xb b3) Qc<|mV_ h (λb2=>⟨[lk_ 1,(3,.I (Qs (k+(y.Names.length:Int)))),(4,.I i9),(59,.b b2)],[(1,.var (Qa i))]⟩) (λb2 h=>B h λd3 b4 h=>J g [4,.o (.row (QL d3)),5] Z (Xb b4)<|I h (λz h=>L g [.S 56 (.b true),4] Z z<|mq_ h Z) λz h=>L g [.S 56 (.b false),4] Z z<|mq_ h Z) λb2 h=>H g [1] Z<|I h (λD h=>J g [.T,9] Z D<|rR_ h Z) λD h=>J g [.F,8] Z D<|lq_ h (λst=>⟨[lk_ 1,(3,.I (Qs (k+(y.Names.length:Int)))),(4,.I i9),(5,.I st)],[(1,.var (Qa i))]⟩) (λq=>(.ret,⟨[(2,.b false)],[]⟩)) (λq=>(.exit 2,⟨[lk_ 1,(3,.I (Qs (k+(y.Names.length:Int)))),(4,.I i9)],[(1,.var (Qa i))]⟩)) Z (λe3 o h=>B h λb5 b6 h=>K g [7,.o (.row (QL b5)),2,.o (.ln b5.Names.length),3] Z (Xb b6) Qc<|I h (λN h=>B h λd4 b7 h=>B h λd5 b8 h=>g3_ g [.T,9,.o (.row (QL d4)),3,.o (.row (WY d5)),5] Z N (Xb b7) (Xb b8)<|I h (λP h=>J g [.T,8] Z P<|rR_ h Z) λP h=>J g [.F,8] Z P<|rN_ h Z) λN h=>J g [.F,2] Z N<|rX_ h Z) (λ_ h=>H g [3] Z<|rR_ h Z) (λ_ h=>H g [8] Z<|rN_ h Z)) λx h=>J g [.F,2] Z x<|rX_ h Z) (λ_ h=>H g [2] Z<|E h Z U) (λb9 h=>H g [9] Z<|lq_ h (λst=>⟨[lk_ 1,(3,.I st.1),(6,.I st.2)],[(1,.var (Qa i))]⟩) (λq=>(.ret,⟨[(2,.b false)],[]⟩)) (λq=>(.exit 4,⟨[lk_ 1,(3,.I q)],[(1,.var (Qa i))]⟩)) Z (λ⟨c0,e4⟩ o h=>J g [6,.o (.ln i.Places.length),3] Z Qc<|I h (λa0 h=>B h λc1 c2 h=>B h λd6 c3 h=>g4_ g [.T,10,.o (.row (QI c1)),2,.o (.ln c1.First.length),9,.o (.row (QI d6)),6] Z a0 (Xb c2) Qc (Xb c3)<|I h (λa1 h=>J g [.T,8] Z a1<|rR_ h Z) λa1 h=>J g [.F,8] Z a1<|rN_ h Z) λa0 h=>J g [.F,2] Z a0<|rX_ h Z) (λ_ h=>H g [2] Z<|E h Z U) (λf h=>H g [14] Z<|lq_ h (λst=>⟨[lk_ 1,(3,.I f),(7,.I st.1),(8,.I st.2)],[(1,.var (Qa i))]⟩) (λq=>(.ret,⟨[(2,.b false)],[]⟩)) (λq=>(.exit 6,⟨[(3,.I f)],[]⟩)) Z (λ⟨e,j⟩ o h=>J g [6,.o (.ln i.Tasks.length),3] Z Qc<|I h (λa2 h=>B h λa c4 h=>G g [.T,9,.o (.row (Qk a)),.A (Qk a),2,.O 9 (.var (Qk a)),7,.o (.ln a.Vars.length),3,.o (.ln a.Ins.length),3,.o (.ln a.Outs.length),3,.o (.ln a.Cancel.length),6] Z (a8_ a2 (Xb c4) Z Z Qc Qc Qc Qc)<|Y ⟨[lk_ 1,(3,.I f),(7,.I (Qs ((Qs ((Qs ((Qs (e+(a.Vars.length:Int)))+(a.Ins.length:Int)))+(a.Outs.length:Int)))+(a.Cancel.length:Int)))),(8,.I j),lk_ 9,(142,.b ((200<(Qs ((Qs ((Qs ((Qs (e+(a.Vars.length:Int)))+(a.Ins.length:Int)))+(a.Outs.length:Int)))+(a.Cancel.length:Int))))||(100<(a.Name.size:Int))))],[(1,.var (Qa i)),(9,.var (Qk a))]⟩ (H g [4] Z<|bO_ (decide (200<(Qs ((Qs ((Qs ((Qs (e+(a.Vars.length:Int)))+(a.Ins.length:Int)))+(a.Outs.length:Int)))+(a.Cancel.length:Int))))) (λl=>G g [.S 137 (.b true),6,.S 142 (.b ((200<(Qs ((Qs ((Qs ((Qs (e+(a.Vars.length:Int)))+(a.Ins.length:Int)))+(a.Outs.length:Int)))+(a.Cancel.length:Int))))||(100<(a.Name.size:Int))))] Z ⟨(tc_ l),(cb_ (GZ l Z))⟩<|M Z) λl=>G g [.S 137 (.b false),6,.S 142 (.b ((200<(Qs ((Qs ((Qs ((Qs (e+(a.Vars.length:Int)))+(a.Ins.length:Int)))+(a.Outs.length:Int)))+(a.Cancel.length:Int))))||(100<(a.Name.size:Int))))] Z ⟨(tc_ l),(cb_ (Kk l Z))⟩<|M Z)<|H g [1] Z<|I h (λa3 h=>J g [.T,9] Z a3<|rR_ h Z) λa3 h=>J g [.F,9] Z a3<|lq_ h (λst=>⟨[lk_ 1,(3,.I f),(7,.I (Qs ((Qs ((Qs ((Qs (e+(a.Vars.length:Int)))+(a.Ins.length:Int)))+(a.Outs.length:Int)))+(a.Cancel.length:Int)))),(8,.I j),lk_ 9,(10,.I st)],[(1,.var (Qa i)),(9,.var (Qk a))]⟩) (λq=>(.ret,⟨[(2,.b false)],[]⟩)) (λq=>(.exit 8,⟨[lk_ 1,(3,.I f),(7,.I (Qs ((Qs ((Qs ((Qs (e+(a.Vars.length:Int)))+(a.Ins.length:Int)))+(a.Outs.length:Int)))+(a.Cancel.length:Int)))),(8,.I j),lk_ 9],[(1,.var (Qa i)),(9,.var (Qk a))]⟩)) Z (λe5 o h=>J g [6,.o (.ln a.Vars.length),3] Z Qc<|I h (λa4 h=>B h λd7 c5 h=>K g [.T,9,.o (.row (Xe d7)),6] Z a4 (Xb c5)<|I h (λa5 h=>J g [.T,8] Z a5<|rR_ h Z) λa5 h=>J g [.F,8] Z a5<|rN_ h Z) λa4 h=>J g [.F,2] Z a4<|rX_ h Z) (λ_ h=>H g [4] Z<|rR_ h Z) (λ_ h=>have h:CM a e j=some o:=h;B h λd8 c6 h=>K g [5,.A (Qx a.Guard),.o (.C1 (.b d8)),10] Z Z (NP _ _ c6)<|lp_ h (λst=>⟨[lk_ 1,(3,.I f),(7,.I (Qs ((Qs ((Qs ((Qs (e+(a.Vars.length:Int)))+(a.Ins.length:Int)))+(a.Outs.length:Int)))+(a.Cancel.length:Int)))),(8,.I j),lk_ 9,(11,.b st.1),(12,.I st.2)],[(1,.var (Qa i)),(9,.var (Qk a))]⟩) (λq=>(.exit 10,⟨[lk_ 1,(3,.I f),(7,.I (Qs ((Qs ((Qs ((Qs (e+(a.Vars.length:Int)))+(a.Ins.length:Int)))+(a.Outs.length:Int)))+(a.Cancel.length:Int)))),(8,.I j),lk_ 9,(11,.b q)],[(1,.var (Qa i)),(9,.var (Qk a))]⟩)) Z (λ⟨s,d9⟩ o h=>J g [6,.o (.ln a.Ins.length),3] Z Qc<|I h (λa6 h=>B h λc7 c8 h=>B h λa9 c9 h=>g4_ g [.T,9,.o (.row (XL c7)),1,.A (Qx c7.Expr),.o (.C1 (.b a9)),3] Z a6 (Xb c8) Z (NP _ _ c9)<|Y ⟨[lk_ 1,(3,.I f),(7,.I (Qs ((Qs ((Qs ((Qs (e+(a.Vars.length:Int)))+(a.Ins.length:Int)))+(a.Outs.length:Int)))+(a.Cancel.length:Int)))),(8,.I j),lk_ 9,(11,.b (s&&a9)),(12,.I d9)],[(1,.var (Qa i)),(9,.var (Qk a))]⟩ (H g [3] Z<|bO_ s (λm=>G g [.S 176 (.b true),4,.S 11 (.b (s&&a9))] Z ⟨(tc_ m),(cb_ (Jz m Z))⟩<|M Z) λm=>G g [.S 176 (.b false),4,.S 11 (.b (s&&a9))] Z ⟨(tc_ m),(cb_ (Ww m Z))⟩<|M Z)<|H g [7] Z<|rN_ h Z) λa6 h=>J g [.F,2] Z a6<|rX_ h Z) λe1 h=>H g [9] Z<|lp_ h (λst=>⟨[lk_ 1,(3,.I f),(7,.I (Qs ((Qs ((Qs ((Qs (e+(a.Vars.length:Int)))+(a.Ins.length:Int)))+(a.Outs.length:Int)))+(a.Cancel.length:Int)))),(8,.I j),lk_ 9,(11,.b st.1),(14,.I st.2)],[(1,.var (Qa i)),(9,.var (Qk a))]⟩) (λq=>(.exit 12,⟨[lk_ 1,(3,.I f),(7,.I (Qs ((Qs ((Qs ((Qs (e+(a.Vars.length:Int)))+(a.Ins.length:Int)))+(a.Outs.length:Int)))+(a.Cancel.length:Int)))),(8,.I j),(11,.b q)],[(1,.var (Qa i))]⟩)) Z (λ⟨t,e0⟩ o h=>J g [6,.o (.ln a.Outs.length),3] Z Qc<|I h (λa7 h=>B h λd0 d1 h=>B h λb0 d2 h=>g4_ g [.T,9,.o (.row (XL d0)),1,.A (Qx d0.Expr),.o (.C1 (.b b0)),3] Z a7 (Xb d1) Z (NP _ _ d2)<|Y ⟨[lk_ 1,(3,.I f),(7,.I (Qs ((Qs ((Qs ((Qs (e+(a.Vars.length:Int)))+(a.Ins.length:Int)))+(a.Outs.length:Int)))+(a.Cancel.length:Int)))),(8,.I j),lk_ 9,(11,.b (t&&b0)),(14,.I e0)],[(1,.var (Qa i)),(9,.var (Qk a))]⟩ (H g [3] Z<|bO_ t (λp=>G g [.S 194 (.b true),4,.S 11 (.b (t&&b0))] Z ⟨(tc_ p),(cb_ (Jz p Z))⟩<|M Z) λp=>G g [.S 194 (.b false),4,.S 11 (.b (t&&b0))] Z ⟨(tc_ p),(cb_ (Ww p Z))⟩<|M Z)<|H g [7] Z<|rN_ h Z) λa7 h=>J g [.F,2] Z a7<|rX_ h Z) λe2 h=>H g [8] Z<|I h (λa8 h=>J g [.T,8] Z a8<|rR_ h Z) λa8 h=>J g [.F,8] Z a8<|rN_ h Z)) λa2 h=>J g [.F,2] Z a2<|rX_ h Z) (λ_ h=>H g [2] Z<|E h Z U) (λ_ h=>H g [10] Z<|E h Z U)))
def NT (c:QMk)(d:Int)(a:Int):O_ ((Int×Int)⊕Int):=bif ((a<(c.length:Int))&&(a<100))then (idx c a).bind λb=>some (.inl ((Qs (d+(b.length:Int))),(Qs (a+1))))else some (.inr d)
def Qgi (a:QMk)(b:Int):O_ Bool:=some (((a.length:Int)<=70)&&(b<=300))
def Ow (a:QMk):O_ Bool:=(QO (λst=>NT a st.1 st.2) (0,0)).bind (λq=>Qgi a q)
def Qgj (c):CT 55 [.sl 1 (c.map Qj)] [] (Ow c) V.b no_:=
 W 29 func55 Z λC d r h=>H d [17] Z<|lp_ h (λst=>⟨[(0,.sl 1 (c.map Qj)),(3,.I st.1),(4,.I st.2)],[]⟩) (λq=>(.exit 0,⟨[(0,.sl 1 (c.map Qj)),(3,.I q)],[]⟩)) Z (λ⟨l,g⟩ o h=>H d [2] Z<|Y ⟨[(0,.sl 1 (c.map Qj)),(3,.I l),(4,.I g),(12,.b ((g<(c.length:Int))&&(g<100)))],[]⟩ (J d [3,.o (.ln c.length),2] Z Qc<|bO_ (decide (g<(c.length:Int))) (λe=>G d [.S 9 (.b true),4,.S 12 (.b ((g<(c.length:Int))&&(g<100)))] Z ⟨(tc_ e),(cb_ (Jz e Z))⟩<|M Z) λe=>G d [.S 9 (.b false),4,.S 12 (.b ((g<(c.length:Int))&&(g<100)))] Z ⟨(tc_ e),(cb_ (Ww e Z))⟩<|M Z)<|H d [1] Z<|I h (λf h=>B h λi j h=>g3_ d [.T,8,.o (.row (Qj i)),1,.o (.ln i.length),10] Z f (Xb j) Qc<|rN_ h Z) λf h=>J d [.F,2] Z f<|rX_ h Z) λk h=>H d [3] Z<|Y ⟨[(2,.b (((c.length:Int)<=70)&&(k<=300)))],[]⟩ (J d [2,.o (.ln c.length),2] Z Qc<|bO_ (decide ((c.length:Int)<=70)) (λa=>G d [.S 25 (.b true),5,.S 2 (.b (((c.length:Int)<=70)&&(k<=300)))] Z ⟨(tc_ a),(cb_ (Jz a Z))⟩<|M Z) λa=>G d [.S 25 (.b false),5,.S 2 (.b (((c.length:Int)<=70)&&(k<=300)))] Z ⟨(tc_ a),(cb_ (Ww a Z))⟩<|M Z)<|H d [2] Z<|E h Z U
def IS (a:Ql):O_ Bool:=some (((a.Places.length:Int)<=64)&&((a.Tasks.length:Int)<=64))
def QdF (a):CT 91 [.L 617] [(617,.var (Qa a))] (IS a) V.b (λ_=>[(617,.var (Qa a))]):=
 W 12 func91 Z λC d r h=>H d [6] Z<|Y ⟨[(1,.b (((a.Places.length:Int)<=64)&&((a.Tasks.length:Int)<=64)))],[(617,.var (Qa a))]⟩ (J d [3,.o (.ln a.Places.length),2] Z Qc<|bO_ (decide ((a.Places.length:Int)<=64)) (λc=>G d [.S 6 (.b true),2,.o (.ln a.Tasks.length),4,.S 1 (.b (((a.Places.length:Int)<=64)&&((a.Tasks.length:Int)<=64)))] Z ⟨⟨(tc_ c),Qc⟩,(cb_ (Jz c Z))⟩<|M Z) λc=>G d [.S 6 (.b false),7,.S 1 (.b (((a.Places.length:Int)<=64)&&((a.Tasks.length:Int)<=64)))] Z ⟨(tc_ c),(cb_ (Ww c Z))⟩<|M Z)<|H d [2] Z<|E h Z r1_
def Yy (b:(L_ Xz))(a:Int):O_ Bool:=some ((0<=a)&&(a<(b.length:Int)))
def JP (d c):CT 93 [.sl 3 (d.map QI),.I c] [] (Yy d c) V.b no_:=
 W 13 func93 Z λC e r h=>H e [6] Z<|Y ⟨[(4,.b ((0<=c)&&(c<(d.length:Int))))],[]⟩ (H e [4] Z<|bO_ (decide (0<=c)) (λa=>G e [.S 7 (.b true),2,.o (.ln d.length),4,.S 4 (.b ((0<=c)&&(c<(d.length:Int))))] Z ⟨⟨(tc_ a),Qc⟩,(cb_ (Jz a Z))⟩<|M Z) λa=>G e [.S 7 (.b false),7,.S 4 (.b ((0<=c)&&(c<(d.length:Int))))] Z ⟨(tc_ a),(cb_ (Ww a Z))⟩<|M Z)<|H e [2] Z<|E h Z U
def RS (a:Ql):O_ Bool:=(Yy a.Places a.From).bind λb=>bif b then (Yy a.Places a.To).bind λc=>some c else some false
def RT (a:Bool):O_ Bool:=some a
def IT (a:Ql):O_ Bool:=(RS a).bind (λb=>RT b)
def QdG (f):CT 92 [.L 617] [(617,.var (Qa f))] (IT f) V.b (λ_=>[(617,.var (Qa f))]):=
 W 14 func92 Z λC e r h=>H e [6] Z<|mV_ h (λg=>⟨[(1,.b g)],[(617,.var (Qa f))]⟩) (λg h=>B h λk i h=>J e [5,.o (.C2 (.b k)),1] Z (JP _ _ _ i)<|I h (λa h=>B h λl j h=>G e [.S 7 (.b true),4,.o (.C2 (.b l)),3] Z ⟨(tc_ a),(JP _ _ _ j)⟩<|mq_ h Z) λa h=>L e [.S 7 (.b false),8] Z a<|mq_ h Z) λg h=>H e [2] Z<|E h Z r1_
def IU (a:Ql):O_ Bool:=some (a.From != a.To)
def QdH (a):CT 94 [.L 617] [(617,.var (Qa a))] (IU a) V.b (λ_=>[(617,.var (Qa a))]):=
 W 7 func94 Z λC c r h=>H c [16] Z<|E h Z r1_
def IV (a:Ql)(c:Int)(d:Int)(e:Int):O_ Int:=(IS a).bind λf=>bif (!f)then some c else (IT a).bind λg=>bif (!g)then some d else (IU a).bind λb=>bif (!b)then some e else some 0
def QdI (i l m p):CT 90 [.own 617 3] [(617,.var [.clo (.func 91) [] [.L 618],.I l,.clo (.func 92) [] [.L 618],.I m,.clo (.func 94) [] [.L 618],.I p]),(618,.var (Qa i))] (IV i l m p) V.I (λ_=>[(617,.var [.clo (.func 91) [] [.L 618],.I l,.clo (.func 92) [] [.L 618],.I m,.clo (.func 94) [] [.L 618],.I p]),(618,.var (Qa i))]):=
 W 18 func90 Z λC a r h=>H a [14] Z<|AK.loopN 4<|AK.rnd<|B h λu q h=>g4_ a [2,.v .no [] (.b true),10,.o (.any (.L 617) none),3,.O 4 (.var [.clo (.func 91) [] [.L 618],.I l]),6,.cm (.clo) [(617,618)] [(618,617)] [] [.d] [(617,.var (Qa i))] (.b u),3] Z Z (λσ f j _=>Qe.idxV Z Z (QG a.n Z) (f _ _ Z) (f _ _ Z) (Qd.es Z) (j _ _ Z) (by decide)) Z (QdF _ _ q)<|I h (λg h=>J a [.T,13] Z g<|E h Z r2_) λg h=>K a [.F,4,.v .no [] (.I 1),2] Z g Z<|AK.met<|AK.rnd<|B h λw s h=>g4_ a [2,.v .no [] (.b true),10,.o (.any (.loc 617 0 2) none),1,.kill 4,2,.O 4 (.var [.clo (.func 92) [] [.L 618],.I m]),6,.cm (.clo) [(617,618)] [(618,617)] [] [.d] [(617,.var (Qa i))] (.b w),3] Z Z (λσ f j _=>Qe.idxV Z Z (QG a.n Z) (f _ _ Z) (f _ _ Z) (Qd.es Z) (j _ _ Z) (by decide)) Z (QdG _ _ s)<|I h (λc h=>J a [.T,13] Z c<|E h Z r2_) λc h=>K a [.F,4,.v .no [] (.I 2),2] Z c Z<|AK.met<|AK.rnd<|B h λt k h=>g4_ a [2,.v .no [] (.b true),10,.o (.any (.loc 617 0 4) none),1,.kill 4,2,.O 4 (.var [.clo (.func 94) [] [.L 618],.I p]),6,.cm (.clo) [(617,618)] [(618,617)] [] [.d] [(617,.var (Qa i))] (.b t),3] Z Z (λσ f j _=>Qe.idxV Z Z (QG a.n Z) (f _ _ Z) (f _ _ Z) (Qd.es Z) (j _ _ Z) (by decide)) Z (QdH _ _ k)<|I h (λe h=>J a [.T,13] Z e<|E h Z r2_) λe h=>K a [.F,4,.v .no [] (.I 3),2] Z e Z<|AK.met<|AK.rnd<|J a [2,.v .no [] (.b false),15] Z Z<|E h Z r2_
def Hs (a:(L_ Xj)):O_ Bool:=(Ax a).bind λb=>some b.2
def QcK (e):CT 157 [.sl 7 (e.map QL)] [] (Hs e) V.b no_:=
 W 11 func157 Z λC g r h=>B h λf a h=>J g [8,.o (.C1 (.tup [.sl 1 (f.1.map Qb),.b f.2])),14] Z (Pk _ _ a)<|E h Z U
def ER (b:Ql)(a:Int):O_ Bool:=(chk (decide (0<=(Qs (a+1)))&&decide (0<=(Qs (a+1)).toNat)&&decide ((Qs (a+1)).toNat<=b.Colours.length))).bind λ_=>(Hs ((b.Colours.drop 0).take ((Qs (a+1)).toNat-0))).bind λc=>some c
def Vs (e f):CT 156 [.L 617,.L 618] [(617,.var (Qa e)),(618,.var (Qb f))] (ER e f) V.b (λ_=>[(617,.var (Qa e)),(618,.var (Qb f))]):=
 W 9 func156 Z λC i r h=>X h λa h=>B h λk g h=>K i [11,.o (.any (.sl 7 (((e.Colours.drop 0).take ((Qs (f+1)).toNat-0)).map QL)) none),.o (.C1 (.b k)),4] Z (λσ j l _=>Qe.sliceD Z Z (QG i.n Z) (j _ _ Z) (Qd.es Z) BI.no (BI.val (j _ _ Z) (XB (Qbf a)) Z) (XB (Qbg a)) (Jx (XB (Qbh a)) (Nat.le_of_eq Qc.symm)) Qes) (QcK _ _ g)<|E h Z r2_
def RU (x:ByteArray):O_ (L_ ByteArray):=(chk (QhT x)).bind λ_=>some (Un x)
def QaH (x){r}(h:RU x=some r):QS prog 343 [.s x] [] (Gives (.own 600 r.length) [(600,.arr 1 (r.map WY))]):=by
 obtain⟨_,a,h⟩:=Qm h
 cases h
 exact QgW Qj5 (by kernel_rfl) (by kernel_rfl) x (QfH a)
def BT  : O_ (L_ ByteArray):=(RU (⟨#[99,111,108,111,117,114,32,112,108,97,99,101,32,116,97,115,107,32,118,97,114,32,119,104,101,110,32,106,111,105,110,32,115,112,108,105,116,32,105,110,32,111,117,116,32,99,97,110,99,101,108,32,97,102,116,101,114,32,109,97,110,121,32,102,114,111,109,32,116,111,32,105,110,116,32,101,110,117,109,32,112,97,105,114,32,97,110,100,32,120,111,114,32,111,114,32,105,102]⟩:ByteArray)).bind λa=>some a
def QdJ  : CT 305 [] [] (BT ) (λr=>(.own 600 r.length)) (λr=>[(600,.arr 1 (r.map WY))]):=
 W 2 func305 Z λC c r h=>B h λb a h=>J c [7,.o (.co false [.d] 1 (b.map WY) b.length),4,.K [0] [1],.ren 1 600] Z ⟨(QaH _ a),Qc,.inl Z⟩<|E h Z r1_
def Wx (b:(L_ ByteArray))(c:ByteArray)(a:Int):O_ (Int⊕(Int⊕Unit)):=bif (a<(b.length:Int))then (idx b a).bind λd=>bif (Bi c d)then some (.inr (.inl a))else some (.inl (Qs (a+1)))else some (.inr (.inr ()))
def Wy (a:Int):O_ Int:=some a
def Wz : O_ Int:=some (-1)
def KD (a:(L_ ByteArray))(b:ByteArray):O_ Int:=(QO (λst=>Wx a b st) 0).bind (Sum.elim (λq=>Wy q) (λq=>Wz))
def LV (d e):CT 342 [.sl 1 (d.map WY),.s e] [] (KD d e) V.I no_:=
 W 19 func342 Z λC b r h=>J b [9,.o (.ln d.length),4] Z Qc<|lq_ h (λst=>⟨[(0,.sl 1 (d.map WY)),(1,.s e),(7,.I (d.length:Int)),(8,.I st)],[]⟩) (λq=>(.ret,⟨[(4,.I q)],[]⟩)) (λq=>(.exit 0,⟨[],[]⟩)) Z (λi o h=>H b [6] Z<|I h (λc h=>B h λg f h=>K b [.T,15,.o (.row (WY g)),4] Z c (Xb f)<|I h (λa h=>J b [.T,9] Z a<|rR_ h Z) λa h=>J b [.F,7] Z a<|rN_ h Z) λc h=>J b [.F,2] Z c<|rX_ h Z) (λj h=>H b [2] Z<|E h Z U) (λ_ h=>H b [8] Z<|E h Z U)
def JU (a:(L_ ByteArray))(b:ByteArray):O_ Bool:=(KD a b).bind λc=>some (decide (0<=c))
def Ia (e f):CT 304 [.sl 1 (e.map WY),.s f] [] (JU e f) V.b no_:=
 W 9 func304 Z λC g r h=>B h λi a h=>J g [9,.o (.C2 (.I i)),5] Z (LV _ _ _ a)<|E h Z U
def MU (a:ByteArray):O_ Bool:=(BT).bind λb=>(JU b a).bind λc=>some c
def Qe2 (g):CT 241 [.s g] [] (MU g) V.b no_:=
 W 6 func241 Z λC i r h=>B h λa e h=>B h λj f h=>K i [7,.o (.co false [] 1 (a.map WY) a.length),1,.o (.c true [.o (a.map WY),.d] (.b j)),4] Z ⟨(QdJ _  e),Qc,.inl Z⟩ ⟨(QfL Z),(Ia _ _ _ f)⟩<|E h Z U
def Tz (a:ByteArray):O_ Bool:=(Uo a).bind λb=>bif b then (MU a).bind λc=>some (!c)else some false
def TA (a:Bool):O_ Bool:=some a
def DU (a:ByteArray):O_ Bool:=(Tz a).bind (λb=>TA b)
def UI (j):CT 153 [.s j] [] (DU j) V.b no_:=
 W 10 func153 Z λC e r h=>H e [6] Z<|mV_ h (λf=>⟨[(2,.b f)],[]⟩) (λf h=>B h λk g h=>J e [2,.o (.C1 (.b k)),1] Z (Lj _ _ g)<|I h (λa h=>B h λl i h=>G e [.S 5 (.b true),1,.o (.C1 (.b l)),4] Z ⟨(tc_ a),(Qe2 _ _ i)⟩<|mq_ h Z) λa h=>L e [.S 5 (.b false),6] Z a<|mq_ h Z) λf h=>H e [2] Z<|E h Z U
def Gh (a:ByteArray):O_ Bool:=(DU a).bind λb=>some (!b)
def RV (e):CT 155 [.s e] [] (Gh e) V.b no_:=
 W 6 func155 Z λC f r h=>B h λg a h=>J f [8,.o (.C1 (.b g)),5] Z (UI _ _ a)<|E h Z U
def KE (b:(L_ ByteArray))(a:Int):O_ (Int⊕(Int⊕Unit)):=bif (a<(b.length:Int))then (idx b a).bind λc=>(Gh c).bind λd=>bif d then some (.inr (.inl a))else some (.inl (Qs (a+1)))else some (.inr (.inr ()))
def KF (a:Int):O_ Int:=some a
def KG : O_ Int:=some (-1)
def JK (a:(L_ ByteArray)):O_ Int:=(QO (λst=>KE a st) 0).bind (Sum.elim (λq=>KF q) (λq=>KG))
def Ht (g):CT 242 [.sl 1 (g.map WY),.clo (.func 155) [] []] [] (JK g) V.I no_:=
 W 19 func242 Z λC e r h=>J e [9,.o (.ln g.length),4] Z Qc<|lq_ h (λst=>⟨[(0,.sl 1 (g.map WY)),(1,.clo (.func 155) [] []),(7,.I (g.length:Int)),(8,.I st)],[]⟩) (λq=>(.ret,⟨[(4,.I q)],[]⟩)) (λq=>(.exit 0,⟨[],[]⟩)) Z (λm o h=>H e [6] Z<|I h (λf h=>B h λk i h=>B h λl j h=>g3_ e [.T,15,.o (.row (WY k)),1,.o (.C1 (.b l)),2] Z f (Xb i) (RV _ _ j)<|I h (λa h=>J e [.T,9] Z a<|rR_ h Z) λa h=>J e [.F,7] Z a<|rN_ h Z) λf h=>J e [.F,2] Z f<|rX_ h Z) (λp h=>H e [2] Z<|E h Z U) (λ_ h=>H e [8] Z<|E h Z U)
def Jf (a:(L_ ByteArray)):O_ Bool:=(JK a).bind λb=>some (decide (0<=b))
def Cs (c):CT 154 [.sl 1 (c.map WY),.clo (.func 155) [] []] [] (Jf c) V.b no_:=
 W 9 func154 Z λC e r h=>B h λf a h=>J e [9,.cm (.fn) [] [] [] [.d,.d] [] (.I f),5] Z (Ht _ _ a)<|E h Z U
def Iz (a:Xj):O_ Bool:=(DU a.Name).bind λb=>bif b then bif (a.Kind != 2)then some true else (Jf a.Names).bind λc=>some (!c)else some false
def IA (a:Bool):O_ Bool:=some a
def ES (a:Xj):O_ Bool:=(Iz a).bind (λb=>IA b)
def Vt (g):CT 152 [.L 617] [(617,.var (QL g))] (ES g) V.b (λ_=>[(617,.var (QL g))]):=
 W 16 func152 Z λC a r h=>H a [6] Z<|mV_ h (λi=>⟨[(1,.b i)],[(617,.var (QL g))]⟩) (λi h=>B h λl j h=>J a [3,.o (.C1 (.b l)),1] Z (UI _ _ j)<|I h (λe h=>L a [.S 5 (.b true),4] Z e<|I h (λf h=>L a [.S 9 (.b true),8] Z f<|mq_ h Z) λf h=>B h λm k h=>G a [.S 9 (.b false),2,.cm (.fn) [] [] [] [.d,.d] [] (.b m),5] Z ⟨(tc_ f),(Cs _ _ k)⟩<|mq_ h Z) λe h=>L a [.S 5 (.b false),12] Z e<|mq_ h Z) λi h=>H a [2] Z<|E h Z r1_
def Bo (b:Ql)(c:Int)(d:Int)(e:Xj)(f:Int):O_ Int:=(ER b c).bind λg=>bif (!g)then some d else (ES e).bind λa=>bif (!a)then some f else some 0
def QaI (i j k l m):CT 90 [.own 617 2] [(617,.var [.clo (.func 156) [] [.L 618,.L 619],.I k,.clo (.func 152) [] [.L 620],.I m]),(618,.var (Qa i)),(619,.var (Qb j)),(620,.var (QL l))] (Bo i j k l m) V.I (λ_=>[(617,.var [.clo (.func 156) [] [.L 618,.L 619],.I k,.clo (.func 152) [] [.L 620],.I m]),(618,.var (Qa i)),(619,.var (Qb j)),(620,.var (QL l))]):=
 W 18 func90 Z λC c r h=>H c [14] Z<|AK.loopN 3<|AK.rnd<|B h λt p h=>g4_ c [2,.v .no [] (.b true),10,.o (.any (.L 617) none),3,.O 4 (.var [.clo (.func 156) [] [.L 618,.L 619],.I k]),6,.cm (.clo) [(617,618),(618,619)] [(618,617),(619,618)] [] [.d,.d] [(617,.var (Qa i)),(618,.var (Qb j))] (.b t),3] Z Z (λσ f q _=>Qe.idxV Z Z (QG c.n Z) (f _ _ Z) (f _ _ Z) (Qd.es Z) (q _ _ Z) (by decide)) Z (Vs _ _ _ p)<|I h (λe h=>J c [.T,13] Z e<|E h Z r4_) λe h=>K c [.F,4,.v .no [] (.I 1),2] Z e Z<|AK.met<|AK.rnd<|B h λs g h=>g4_ c [2,.v .no [] (.b true),10,.o (.any (.loc 617 0 2) none),1,.kill 4,2,.O 4 (.var [.clo (.func 152) [] [.L 620],.I m]),6,.cm (.clo) [(617,620)] [(620,617)] [] [.d] [(617,.var (QL l))] (.b s),3] Z Z (λσ f q _=>Qe.idxV Z Z (QG c.n Z) (f _ _ Z) (f _ _ Z) (Qd.es Z) (q _ _ Z) (by decide)) Z (Vt _ _ g)<|I h (λa h=>J c [.T,13] Z a<|E h Z r4_) λa h=>K c [.F,4,.v .no [] (.I 2),2] Z a Z<|AK.met<|AK.rnd<|J c [2,.v .no [] (.b false),15] Z Z<|E h Z r4_
def Ak (a:Int)(b:Xj)(c:Ql):O_ Int:=(Bo c a 8 b 8).bind λd=>some d
def Qab (b c a):CT 151 [.I b,.agg (QL c),.L 617] [(617,.var (Qa a))] (Ak b c a) V.I (λ_=>[(617,.var (Qa a))]):=
 W 16 func151 Z λC f r h=>B h λg e h=>g4_ f [22,.A [.clo (.func 156) [] [.L 617,.L 3],.I 8],1,.A [.clo (.func 152) [] [.L 4],.I 8],.o (.any (.own 14 2) (some (.var [.clo (.func 156) [] [.L 617,.L 3],.I 8,.clo (.func 152) [] [.L 4],.I 8]))),.cm (.fn) [(617,14),(618,617),(619,3),(620,4)] [(14,617),(617,618),(3,619),(4,620)] [] [.d] [(617,.var [.clo (.func 156) [] [.L 618,.L 619],.I 8,.clo (.func 152) [] [.L 620],.I 8]),(618,.var (Qa a)),(619,.var (Qb b)),(620,.var (QL c))] (.I g),4] Z Z Z (λσ i j y=>Qe.buildAny Z Z (QG f.n Z) (Qd.es Z) OD Z (by decide) (by decide) (Es i Z) Z Z (y Z)) (QaI _ _ _ _ _ _ e)<|E h Z r1_
def Gs (d:(L_ Xj))(e:Ql)(a:Int):O_ (Int⊕((Int×Int)⊕Unit)):=bif (a<(d.length:Int))then (idx d a).bind λc=>(Ak a c e).bind λb=>bif (b != 0)then some (.inr (.inl (a,b)))else some (.inl (Qs (a+1)))else some (.inr (.inr ()))
def Gt (b:Int)(a:Int):O_ (Int×Int):=some (b,a)
def Gu : O_ (Int×Int):=some (0,0)
def WZ (a:(L_ Xj))(b:Ql):O_ (Int×Int):=(QO (λst=>Gs a b st) 0).bind (Sum.elim (λq=>Gt q.1 q.2) (λq=>Gu))
def Pa (g f):CT 150 [.sl 7 (g.map QL),.clo (.func 151) [] [.L 617]] [(617,.var (Qa f))] (WZ g f) (λr=>(.tup [.I r.1,.I r.2])) (λ_=>[(617,.var (Qa f))]):=
 W 25 func150 Z λC e r h=>J e [10,.o (.ln g.length),4] Z Qc<|lq_ h (λst=>⟨[(1,.clo (.func 151) [] [.L 617]),(9,.sl 7 (g.map QL)),(10,.I (g.length:Int)),(11,.I st)],[(617,.var (Qa f))]⟩) (λq=>(.ret,⟨[(4,.I q.1),(5,.I q.2)],[(617,.var (Qa f))]⟩)) (λq=>(.exit 0,⟨[],[(617,.var (Qa f))]⟩)) Z (λm o h=>H e [6] Z<|I h (λa h=>B h λc i h=>B h λk j h=>G e [.T,7,.o (.row (QL c)),.A (QL c),3,.O 7 (.var (QL c)),6,.A (QL c),.cm (.clo) [(617,617)] [(617,617)] [] [.d,.d,.d] [(617,.var (Qa f))] (.I k),9] Z (a6_ a (Xb i) Z Z Z (Qab _ _ _ _ j))<|I h (λb h=>J e [.T,11] Z b<|rR_ h Z) λb h=>J e [.F,7] Z b<|rN_ h Z) λa h=>J e [.F,2] Z a<|rX_ h Z) (λ⟨p,l⟩ h=>H e [2] Z<|F h Z Z r1_) (λ_ h=>H e [9] Z<|F h Z Z r1_)
def UJ (a:Ql):O_ (Int×Int):=(WZ a.Colours a).bind λb=>some (b.1,b.2)
def OI (a):CT 95 [.agg (Qa a)] [] (UJ a) (λr=>(.tup [.I r.1,.I r.2])) no_:=
 W 10 func95 Z λC e r h=>B h λc b h=>J e [12,.cm (.fn) [(617,1)] [(1,617)] [] [.d,.d] [(617,.var (Qa a))] (.tup [.I c.1,.I c.2]),7] Z (Pa _ _ _ b)<|F h Z Z U
def CN (a:Xz):O_ Bool:=(DU a.Name).bind λb=>some b
def QbF (a):CT 159 [.L 617] [(617,.var (QI a))] (CN a) V.b (λ_=>[(617,.var (QI a))]):=
 W 5 func159 Z λC f r h=>B h λg e h=>J f [9,.o (.C1 (.b g)),4] Z (UI _ _ e)<|E h Z r1_
def CO (a:Xz)(b:Xz):O_ Bool:=some (Bi a.Name b.Name)
def QbG (c a):CT 158 [.agg (QI c),.L 617] [(617,.var (QI a))] (CO c a) V.b (λ_=>[(617,.var (QI a))]):=
 W 9 func158 Z λC d r h=>H d [17] Z<|E h Z r1_
def JA (c:(L_ Xz))(d:Xz)(a:Int):O_ (Int⊕(Int⊕Unit)):=bif (a<(c.length:Int))then (idx c a).bind λe=>(CO e d).bind λb=>bif b then some (.inr (.inl a))else some (.inl (Qs (a+1)))else some (.inr (.inr ()))
def JB (a:Int):O_ Int:=some a
def JC : O_ Int:=some (-1)
def YO (a:(L_ Xz))(b:Xz):O_ Int:=(QO (λst=>JA a b st) 0).bind (Sum.elim (λq=>JB q) (λq=>JC))
def Bb (g e):CT 243 [.sl 3 (g.map QI),.clo (.func 158) [] [.L 617]] [(617,.var (QI e))] (YO g e) V.I (λ_=>[(617,.var (QI e))]):=
 W 19 func243 Z λC c r h=>J c [9,.o (.ln g.length),4] Z Qc<|lq_ h (λst=>⟨[(0,.sl 3 (g.map QI)),(1,.clo (.func 158) [] [.L 617]),(7,.I (g.length:Int)),(8,.I st)],[(617,.var (QI e))]⟩) (λq=>(.ret,⟨[(4,.I q)],[(617,.var (QI e))]⟩)) (λq=>(.exit 0,⟨[],[(617,.var (QI e))]⟩)) Z (λm o h=>H c [6] Z<|I h (λf h=>B h λl j h=>B h λk i h=>g4_ c [.T,15,.o (.row (QI l)),.A (QI l),.cm (.clo) [(617,617)] [(617,617)] [] [.d,.d] [(617,.var (QI e))] (.b k),2] Z f (Xb j) Z (QbG _ _ _ i)<|I h (λa h=>J c [.T,9] Z a<|rR_ h Z) λa h=>J c [.F,7] Z a<|rN_ h Z) λf h=>J c [.F,2] Z f<|rX_ h Z) (λp h=>H c [2] Z<|E h Z r1_) (λ_ h=>H c [8] Z<|E h Z r1_)
def Yz (a:(L_ Xz))(b:Xz):O_ Bool:=(YO a b).bind λc=>some (decide (0<=c))
def UX (e a):CT 161 [.sl 3 (e.map QI),.clo (.func 158) [] [.L 617]] [(617,.var (QI a))] (Yz e a) V.b (λ_=>[(617,.var (QI a))]):=
 W 9 func161 Z λC f r h=>B h λg c h=>J f [9,.cm (.fn) [(617,617)] [(617,617)] [] [.d,.d] [(617,.var (QI a))] (.I g),5] Z (Bb _ _ _ c)<|E h Z r1_
def CP (b:Ql)(a:Int)(c:Xz):O_ Bool:=(chk (decide (0<=a)&&decide (0<=a.toNat)&&decide (a.toNat<=b.Places.length))).bind λ_=>(Yz ((b.Places.drop 0).take (a.toNat-0)) c).bind λd=>some (!d)
def QbH (f g i):CT 160 [.L 617,.L 618,.L 619] [(617,.var (Qa f)),(618,.var (Qb g)),(619,.var [.clo (.func 158) [] [.L 620]]),(620,.var (QI i))] (CP f g i) V.b (λ_=>[(617,.var (Qa f)),(618,.var (Qb g)),(619,.var [.clo (.func 158) [] [.L 620]]),(620,.var (QI i))]):=
 W 11 func160 Z λC e r h=>X h λc h=>B h λl k h=>H e [6] Z <| 
  dr_ e [.N,.N,.N,.B (.any (.sl 3 (((f.Places.drop 0).take (g.toNat-0)).map QI)) none),.N,.B (.any (.b l) none),.N,.m .s] [] [] [3] [617,618,619,620] Z Z (a2_ (λσ j o _=>Qe.sliceD Z Z (QG e.n Z) (j _ _ Z) (Qd.es Z) BI.no (BI.val (j _ _ Z) (XB (Qbf c)) Z) (XB (Qbg c)) (Jx (XB (Qbh c)) (Nat.le_of_eq Qc.symm)) Qes) (λσ j o _=>Qe.callSame (md:=.cm (.fn) [(617,620)] [(620,617)] [] [.d,.d] [(617,.var (QI i))] (.b l) [620]) Qd e j o Z (a2_ (UX _ _ _ k) r1_))) Z <|
  H e [2] Z<|E h Z r4_
def Kt (b:(L_ Xj))(a:Int):O_ Bool:=some ((0<=a)&&(a<(b.length:Int)))
def Bf (d c):CT 163 [.sl 7 (d.map QL),.I c] [] (Kt d c) V.b no_:=
 W 13 func163 Z λC e r h=>H e [6] Z<|Y ⟨[(4,.b ((0<=c)&&(c<(d.length:Int))))],[]⟩ (H e [4] Z<|bO_ (decide (0<=c)) (λa=>G e [.S 7 (.b true),2,.o (.ln d.length),4,.S 4 (.b ((0<=c)&&(c<(d.length:Int))))] Z ⟨⟨(tc_ a),Qc⟩,(cb_ (Jz a Z))⟩<|M Z) λa=>G e [.S 7 (.b false),7,.S 4 (.b ((0<=c)&&(c<(d.length:Int))))] Z ⟨(tc_ a),(cb_ (Ww a Z))⟩<|M Z)<|H e [2] Z<|E h Z U
def CQ (a:Ql)(b:Xz):O_ Bool:=(Kt a.Colours b.Colour).bind λc=>some c
def QbI (a e):CT 162 [.L 617,.L 618] [(617,.var (Qa a)),(618,.var (QI e))] (CQ a e) V.b (λ_=>[(617,.var (Qa a)),(618,.var (QI e))]):=
 W 8 func162 Z λC g r h=>B h λi f h=>J g [11,.o (.C2 (.b i)),4] Z (Bf _ _ _ f)<|E h Z r2_
def CR (a:Xz):O_ Bool:=(WE a.First).bind λb=>some b
def QbJ (a):CT 164 [.L 617] [(617,.var (QI a))] (CR a) V.b (λ_=>[(617,.var (QI a))]):=
 W 5 func164 Z λC f r h=>B h λg e h=>J f [9,.o (.C1 (.b g)),4] Z (Av _ _ e)<|E h Z r1_
def Al (a:(Int×Int))(b:Int):O_ Bool:=some (decide (b<=a.1))
def Qac (a c):CT 167 [.agg (QM a),.L 617] [(617,.var (Qb c))] (Al a c) V.b (λ_=>[(617,.var (Qb c))]):=
 W 8 func167 Z λC d r h=>H d [16] Z<|E h Z r1_
def KH (c:QBg)(d:Int)(a:Int):O_ (Int⊕(Int⊕Unit)):=bif (a<(c.length:Int))then (idx c a).bind λe=>(Al e d).bind λb=>bif b then some (.inr (.inl a))else some (.inl (Qs (a+1)))else some (.inr (.inr ()))
def KI (a:Int):O_ Int:=some a
def KJ : O_ Int:=some (-1)
def JL (a:QBg)(b:Int):O_ Int:=(QO (λst=>KH a b st) 0).bind (Sum.elim (λq=>KI q) (λq=>KJ))
def Hu (g e):CT 244 [.sl 2 (g.map QM),.clo (.func 167) [] [.L 617]] [(617,.var (Qb e))] (JL g e) V.I (λ_=>[(617,.var (Qb e))]):=
 W 19 func244 Z λC c r h=>J c [9,.o (.ln g.length),4] Z Qc<|lq_ h (λst=>⟨[(0,.sl 2 (g.map QM)),(1,.clo (.func 167) [] [.L 617]),(7,.I (g.length:Int)),(8,.I st)],[(617,.var (Qb e))]⟩) (λq=>(.ret,⟨[(4,.I q)],[(617,.var (Qb e))]⟩)) (λq=>(.exit 0,⟨[],[(617,.var (Qb e))]⟩)) Z (λm o h=>H c [6] Z<|I h (λf h=>B h λl j h=>B h λk i h=>g4_ c [.T,15,.o (.row (QM l)),.A (QM l),.cm (.clo) [(617,617)] [(617,617)] [] [.d,.d] [(617,.var (Qb e))] (.b k),2] Z f (Xb j) Z (Qac _ _ _ i)<|I h (λa h=>J c [.T,9] Z a<|rR_ h Z) λa h=>J c [.F,7] Z a<|rN_ h Z) λf h=>J c [.F,2] Z f<|rX_ h Z) (λp h=>H c [2] Z<|E h Z r1_) (λ_ h=>H c [8] Z<|E h Z r1_)
def Jg (a:QBg)(b:Int):O_ Bool:=(JL a b).bind λc=>some (decide (0<=c))
def Ct (e a):CT 166 [.sl 2 (e.map QM),.clo (.func 167) [] [.L 617]] [(617,.var (Qb a))] (Jg e a) V.b (λ_=>[(617,.var (Qb a))]):=
 W 9 func166 Z λC f r h=>B h λg c h=>J f [9,.cm (.fn) [(617,617)] [(617,617)] [] [.d,.d] [(617,.var (Qb a))] (.I g),5] Z (Hu _ _ _ c)<|E h Z r1_
def CS (b:Ql)(a:Xz):O_ Bool:=(YF b.Colours a.Colour).bind λc=>(Jg a.First c).bind λd=>some (!d)
def QbK (a e):CT 165 [.L 617,.L 618] [(617,.var (Qa a)),(618,.var (QI e))] (CS a e) V.b (λ_=>[(617,.var (Qa a)),(618,.var (QI e))]):=
 W 14 func165 Z λC j r h=>B h λf g h=>B h λk i h=>g3_ j [11,.o (.C2 (.I f)),2,.O 3 (.var (Qb f)),7,.cm (.fn) [(617,3)] [(3,617)] [] [.d,.d] [(617,.var (Qb f))] (.b k),5] Z (Bj _ _ _ g) Z (Ct _ _ _ i)<|E h Z r2_
def Bp (a:Xz)(h:Int)(b:Ql)(i:Int)(j:Int)(k:Int)(l:Int)(m:Int):O_ Int:=(CN a).bind λc=>bif (!c)then some h else (CP b i a).bind λd=>bif (!d)then some j else (CQ b a).bind λe=>bif (!e)then some k else (CR a).bind λf=>bif (!f)then some l else (CS b a).bind λg=>bif (!g)then some m else some 0
def QaJ (l w m x y z D N):CT 90 [.own 617 5] [(617,.var [.clo (.func 159) [] [.L 618],.I w,.clo (.func 160) [] [.L 619,.L 620,.L 621],.I y,.clo (.func 162) [] [.L 619,.L 618],.I z,.clo (.func 164) [] [.L 618],.I D,.clo (.func 165) [] [.L 619,.L 618],.I N]),(618,.var (QI l)),(619,.var (Qa m)),(620,.var (Qb x)),(621,.var [.clo (.func 158) [] [.L 618]])] (Bp l w m x y z D N) V.I (λ_=>[(617,.var [.clo (.func 159) [] [.L 618],.I w,.clo (.func 160) [] [.L 619,.L 620,.L 621],.I y,.clo (.func 162) [] [.L 619,.L 618],.I z,.clo (.func 164) [] [.L 618],.I D,.clo (.func 165) [] [.L 619,.L 618],.I N]),(618,.var (QI l)),(619,.var (Qa m)),(620,.var (Qb x)),(621,.var [.clo (.func 158) [] [.L 618]])]):=
 W 18 func90 Z λC a r h=>H a [14] Z<|AK.loopN 6<|AK.rnd<|B h λP p h=>g4_ a [2,.v .no [] (.b true),10,.o (.any (.L 617) none),3,.O 4 (.var [.clo (.func 159) [] [.L 618],.I w]),6,.cm (.clo) [(617,618)] [(618,617)] [] [.d] [(617,.var (QI l))] (.b P),3] Z Z (λσ c k _=>Qe.idxV Z Z (QG a.n Z) (c _ _ Z) (c _ _ Z) (Qd.es Z) (k _ _ Z) (by decide)) Z (QbF _ _ p)<|I h (λe h=>J a [.T,13] Z e<|E h Z r5_) λe h=>K a [.F,4,.v .no [] (.I 1),2] Z e Z<|AK.met<|AK.rnd<|B h λS q h=>g4_ a [2,.v .no [] (.b true),10,.o (.any (.loc 617 0 2) none),1,.kill 4,2,.O 4 (.var [.clo (.func 160) [] [.L 619,.L 620,.L 621],.I y]),6,.cm (.clo) [(617,619),(618,620),(619,621),(620,618)] [(619,617),(620,618),(621,619),(618,620)] [] [.d,.d,.d] [(617,.var (Qa m)),(618,.var (Qb x)),(619,.var [.clo (.func 158) [] [.L 620]]),(620,.var (QI l))] (.b S),3] Z Z (λσ c k _=>Qe.idxV Z Z (QG a.n Z) (c _ _ Z) (c _ _ Z) (Qd.es Z) (k _ _ Z) (by decide)) Z (QbH _ _ _ _ q)<|I h (λf h=>J a [.T,13] Z f<|E h Z r5_) λf h=>K a [.F,4,.v .no [] (.I 2),2] Z f Z<|AK.met<|AK.rnd<|B h λa0 s h=>g4_ a [2,.v .no [] (.b true),10,.o (.any (.loc 617 0 4) none),1,.kill 4,2,.O 4 (.var [.clo (.func 162) [] [.L 619,.L 618],.I z]),6,.cm (.clo) [(617,619),(618,618)] [(619,617),(618,618)] [] [.d,.d] [(617,.var (Qa m)),(618,.var (QI l))] (.b a0),3] Z Z (λσ c k _=>Qe.idxV Z Z (QG a.n Z) (c _ _ Z) (c _ _ Z) (Qd.es Z) (k _ _ Z) (by decide)) Z (QbI _ _ _ s)<|I h (λg h=>J a [.T,13] Z g<|E h Z r5_) λg h=>K a [.F,4,.v .no [] (.I 3),2] Z g Z<|AK.met<|AK.rnd<|B h λa1 t h=>g4_ a [2,.v .no [] (.b true),10,.o (.any (.loc 617 0 6) none),1,.kill 4,2,.O 4 (.var [.clo (.func 164) [] [.L 618],.I D]),6,.cm (.clo) [(617,618)] [(618,617)] [] [.d] [(617,.var (QI l))] (.b a1),3] Z Z (λσ c k _=>Qe.idxV Z Z (QG a.n Z) (c _ _ Z) (c _ _ Z) (Qd.es Z) (k _ _ Z) (by decide)) Z (QbJ _ _ t)<|I h (λi h=>J a [.T,13] Z i<|E h Z r5_) λi h=>K a [.F,4,.v .no [] (.I 4),2] Z i Z<|AK.met<|AK.rnd<|B h λa2 u h=>g4_ a [2,.v .no [] (.b true),10,.o (.any (.loc 617 0 8) none),1,.kill 4,2,.O 4 (.var [.clo (.func 165) [] [.L 619,.L 618],.I N]),6,.cm (.clo) [(617,619),(618,618)] [(619,617),(618,618)] [] [.d,.d] [(617,.var (Qa m)),(618,.var (QI l))] (.b a2),3] Z Z (λσ c k _=>Qe.idxV Z Z (QG a.n Z) (c _ _ Z) (c _ _ Z) (Qd.es Z) (k _ _ Z) (by decide)) Z (QbK _ _ _ u)<|I h (λj h=>J a [.T,13] Z j<|E h Z r5_) λj h=>K a [.F,4,.v .no [] (.I 5),2] Z j Z<|AK.met<|AK.rnd<|J a [2,.v .no [] (.b false),15] Z Z<|E h Z r5_
def IW (a:Ql)(b:Int):O_ Int:=(Yy a.Places b).bind λc=>bif (!c)then some 3 else (idx a.Places b).bind λd=>(Bp d 1 a b 5 3 1 8).bind λe=>some e
def QdK (g i):CT 98 [.agg (Qa g),.I i] [] (IW g i) V.I no_:=
 W 30 func98 Z λC e r h=>B h λm j h=>J e [13,.o (.C2 (.b m)),3] Z (JP _ _ _ j)<|I h (λa h=>J e [.T,7] Z a<|E h Z U) λa h=>B h λf k h=>B h λp l h=>G e [.F,7,.o (.row (QI f)),.A (QI f),2,.O 5 (.var (QI f)),7,.O 6 (.var [.clo (.func 158) [] [.L 5]]),5,.A [.clo (.func 159) [] [.L 5],.I 1],1,.A [.clo (.func 160) [] [.L 2,.L 3,.L 6],.I 5],1,.A [.clo (.func 162) [] [.L 2,.L 5],.I 3],1,.A [.clo (.func 164) [] [.L 5],.I 1],1,.A [.clo (.func 165) [] [.L 2,.L 5],.I 8],.o (.any (.own 28 5) (some (.var [.clo (.func 159) [] [.L 5],.I 1,.clo (.func 160) [] [.L 2,.L 3,.L 6],.I 5,.clo (.func 162) [] [.L 2,.L 5],.I 3,.clo (.func 164) [] [.L 5],.I 1,.clo (.func 165) [] [.L 2,.L 5],.I 8]))),.cm (.fn) [(617,28),(618,5),(619,2),(620,3),(621,6)] [(28,617),(5,618),(2,619),(3,620),(6,621)] [] [.d] [(617,.var [.clo (.func 159) [] [.L 618],.I 1,.clo (.func 160) [] [.L 619,.L 620,.L 621],.I 5,.clo (.func 162) [] [.L 619,.L 618],.I 3,.clo (.func 164) [] [.L 618],.I 1,.clo (.func 165) [] [.L 619,.L 618],.I 8]),(618,.var (QI f)),(619,.var (Qa g)),(620,.var (Qb i)),(621,.var [.clo (.func 158) [] [.L 618]])] (.I p),4] Z (aC_ a (Xb k) Z Z Z Z Z Z Z Z (λσ q s y=>Qe.buildAny Z Z (QG e.n Z) (Qd.es Z) OD Z (by decide) (by decide) (Es q Z) Z Z (y Z)) (QaJ _ _ _ _ _ _ _ _ _ l))<|E h Z U
def IX (a:Int)(d:Xz)(b:Ql):O_ Int:=(IW b a).bind λc=>some c
def QdL (e f a):CT 97 [.I e,.agg (QI f),.L 617] [(617,.var (Qa a))] (IX e f a) V.I (λ_=>[(617,.var (Qa a))]):=
 W 9 func97 Z λC g r h=>B h λi b h=>K g [8,.A (Qa a),1,.o (.C2 (.I i)),4] Z Z (QdK _ _ _ b)<|E h Z r1_
def GT (d:(L_ Xz))(e:Ql)(a:Int):O_ (Int⊕((Int×Int)⊕Unit)):=bif (a<(d.length:Int))then (idx d a).bind λc=>(IX a c e).bind λb=>bif (b != 0)then some (.inr (.inl (a,b)))else some (.inl (Qs (a+1)))else some (.inr (.inr ()))
def GU (b:Int)(a:Int):O_ (Int×Int):=some (b,a)
def GV : O_ (Int×Int):=some (0,0)
def DI (a:(L_ Xz))(b:Ql):O_ (Int×Int):=(QO (λst=>GT a b st) 0).bind (Sum.elim (λq=>GU q.1 q.2) (λq=>GV))
def PS (g f):CT 96 [.sl 3 (g.map QI),.clo (.func 97) [] [.L 617]] [(617,.var (Qa f))] (DI g f) (λr=>(.tup [.I r.1,.I r.2])) (λ_=>[(617,.var (Qa f))]):=
 W 25 func96 Z λC e r h=>J e [10,.o (.ln g.length),4] Z Qc<|lq_ h (λst=>⟨[(1,.clo (.func 97) [] [.L 617]),(9,.sl 3 (g.map QI)),(10,.I (g.length:Int)),(11,.I st)],[(617,.var (Qa f))]⟩) (λq=>(.ret,⟨[(4,.I q.1),(5,.I q.2)],[(617,.var (Qa f))]⟩)) (λq=>(.exit 0,⟨[],[(617,.var (Qa f))]⟩)) Z (λm o h=>H e [6] Z<|I h (λa h=>B h λc i h=>B h λk j h=>G e [.T,7,.o (.row (QI c)),.A (QI c),3,.O 7 (.var (QI c)),6,.A (QI c),.cm (.clo) [(617,617)] [(617,617)] [] [.d,.d,.d] [(617,.var (Qa f))] (.I k),9] Z (a6_ a (Xb i) Z Z Z (QdL _ _ _ _ j))<|I h (λb h=>J e [.T,11] Z b<|rR_ h Z) λb h=>J e [.F,7] Z b<|rN_ h Z) λa h=>J e [.F,2] Z a<|rX_ h Z) (λ⟨p,l⟩ h=>H e [2] Z<|F h Z Z r1_) (λ_ h=>H e [9] Z<|F h Z Z r1_)
def KX (b:(L_ QT))(a:Int):O_ Bool:=some ((0<=a)&&(a<(b.length:Int)))
def CU (d c):CT 102 [.sl 14 (d.map Qk),.I c] [] (KX d c) V.b no_:=
 W 13 func102 Z λC e r h=>H e [6] Z<|Y ⟨[(4,.b ((0<=c)&&(c<(d.length:Int))))],[]⟩ (H e [4] Z<|bO_ (decide (0<=c)) (λa=>G e [.S 7 (.b true),2,.o (.ln d.length),4,.S 4 (.b ((0<=c)&&(c<(d.length:Int))))] Z ⟨⟨(tc_ a),Qc⟩,(cb_ (Jz a Z))⟩<|M Z) λa=>G e [.S 7 (.b false),7,.S 4 (.b ((0<=c)&&(c<(d.length:Int))))] Z ⟨(tc_ a),(cb_ (Ww a Z))⟩<|M Z)<|H e [2] Z<|E h Z U
def IY (a:Int)(b:Ql)(c:QT):O_ Unit:=some ()
def QdM (a b c):CT 173 [.L 617,.clo (.func 174) [] [.L 618,.L 619]] [(617,.var (Qb a)),(618,.var (Qa b)),(619,.var (Qk c))] (IY a b c) (λ_=>(.clo (.func 246) [] [.L 3,.L 2])) (λ_=>[(2,.var [.L 617]),(3,.var [.clo (.func 174) [] [.L 618,.L 619]]),(617,.var (Qb a)),(618,.var (Qa b)),(619,.var (Qk c))]):=
 W 6 func173 Z λC d r h=>H d [14] Z<|E h Z r5_
def Bq (a:Int)(b:Ql)(c:QT)(d:Int):O_ Unit:=some ()
def QaK (a b c d):CT 173 [.L 617,.clo (.func 179) [] [.L 618,.L 619,.L 620]] [(617,.var (Qb a)),(618,.var (Qa b)),(619,.var (Qk c)),(620,.var (Qb d))] (Bq a b c d) (λ_=>(.clo (.func 246) [] [.L 3,.L 2])) (λ_=>[(2,.var [.L 617]),(3,.var [.clo (.func 179) [] [.L 618,.L 619,.L 620]]),(617,.var (Qb a)),(618,.var (Qa b)),(619,.var (Qk c)),(620,.var (Qb d))]):=
 W 6 func173 Z λC e r h=>H e [14] Z<|E h Z r6_
def Br (a:Int)(b:Ql)(c:QT)(d:Int):O_ Unit:=some ()
def QaL (a b c d):CT 173 [.L 617,.clo (.func 181) [] [.L 618,.L 619,.L 620]] [(617,.var (Qb a)),(618,.var (Qa b)),(619,.var (Qk c)),(620,.var (Qb d))] (Br a b c d) (λ_=>(.clo (.func 246) [] [.L 3,.L 2])) (λ_=>[(2,.var [.L 617]),(3,.var [.clo (.func 181) [] [.L 618,.L 619,.L 620]]),(617,.var (Qb a)),(618,.var (Qa b)),(619,.var (Qk c)),(620,.var (Qb d))]):=
 W 6 func173 Z λC e r h=>H e [14] Z<|E h Z r6_
def Bs (a:Int)(b:Ql)(c:QT):O_ Unit:=some ()
def QaM (a b c):CT 173 [.L 617,.clo (.func 182) [] [.L 618,.L 619]] [(617,.var (Qb a)),(618,.var (Qa b)),(619,.var (Qk c))] (Bs a b c) (λ_=>(.clo (.func 246) [] [.L 3,.L 2])) (λ_=>[(2,.var [.L 617]),(3,.var [.clo (.func 182) [] [.L 618,.L 619]]),(617,.var (Qb a)),(618,.var (Qa b)),(619,.var (Qk c))]):=
 W 6 func173 Z λC d r h=>H d [14] Z<|E h Z r5_
def Hv (a:QT):O_ Bool:=(DU a.Name).bind λb=>some b
def QcL (a):CT 169 [.L 617] [(617,.var (Qk a))] (Hv a) V.b (λ_=>[(617,.var (Qk a))]):=
 W 5 func169 Z λC f r h=>B h λg e h=>J f [9,.o (.C1 (.b g)),4] Z (UI _ _ e)<|E h Z r1_
def Hw (a:QT)(b:QT):O_ Bool:=some (Bi a.Name b.Name)
def QcM (c a):CT 168 [.agg (Qk c),.L 617] [(617,.var (Qk a))] (Hw c a) V.b (λ_=>[(617,.var (Qk a))]):=
 W 9 func168 Z λC d r h=>H d [17] Z<|E h Z r1_
def JQ (c:(L_ QT))(d:QT)(a:Int):O_ (Int⊕(Int⊕Unit)):=bif (a<(c.length:Int))then (idx c a).bind λe=>(Hw e d).bind λb=>bif b then some (.inr (.inl a))else some (.inl (Qs (a+1)))else some (.inr (.inr ()))
def JR (a:Int):O_ Int:=some a
def JS : O_ Int:=some (-1)
def YZ (a:(L_ QT))(b:QT):O_ Int:=(QO (λst=>JQ a b st) 0).bind (Sum.elim (λq=>JR q) (λq=>JS))
def BU (g e):CT 245 [.sl 14 (g.map Qk),.clo (.func 168) [] [.L 617]] [(617,.var (Qk e))] (YZ g e) V.I (λ_=>[(617,.var (Qk e))]):=
 W 19 func245 Z λC c r h=>J c [9,.o (.ln g.length),4] Z Qc<|lq_ h (λst=>⟨[(0,.sl 14 (g.map Qk)),(1,.clo (.func 168) [] [.L 617]),(7,.I (g.length:Int)),(8,.I st)],[(617,.var (Qk e))]⟩) (λq=>(.ret,⟨[(4,.I q)],[(617,.var (Qk e))]⟩)) (λq=>(.exit 0,⟨[],[(617,.var (Qk e))]⟩)) Z (λm o h=>H c [6] Z<|I h (λf h=>B h λl j h=>B h λk i h=>g4_ c [.T,15,.o (.row (Qk l)),.A (Qk l),.cm (.clo) [(617,617)] [(617,617)] [] [.d,.d] [(617,.var (Qk e))] (.b k),2] Z f (Xb j) Z (QcM _ _ _ i)<|I h (λa h=>J c [.T,9] Z a<|rR_ h Z) λa h=>J c [.F,7] Z a<|rN_ h Z) λf h=>J c [.F,2] Z f<|rX_ h Z) (λp h=>H c [2] Z<|E h Z r1_) (λ_ h=>H c [8] Z<|E h Z r1_)
def YK (a:(L_ QT))(b:QT):O_ Bool:=(YZ a b).bind λc=>some (decide (0<=c))
def AU (e a):CT 171 [.sl 14 (e.map Qk),.clo (.func 168) [] [.L 617]] [(617,.var (Qk a))] (YK e a) V.b (λ_=>[(617,.var (Qk a))]):=
 W 9 func171 Z λC f r h=>B h λg c h=>J f [9,.cm (.fn) [(617,617)] [(617,617)] [] [.d,.d] [(617,.var (Qk a))] (.I g),5] Z (BU _ _ _ c)<|E h Z r1_
def Hx (b:Ql)(a:Int)(c:QT):O_ Bool:=(chk (decide (0<=a)&&decide (0<=a.toNat)&&decide (a.toNat<=b.Tasks.length))).bind λ_=>(YK ((b.Tasks.drop 0).take (a.toNat-0)) c).bind λd=>some (!d)
def QcN (f g i):CT 170 [.L 617,.L 618,.L 619] [(617,.var (Qa f)),(618,.var (Qb g)),(619,.var [.clo (.func 168) [] [.L 620]]),(620,.var (Qk i))] (Hx f g i) V.b (λ_=>[(617,.var (Qa f)),(618,.var (Qb g)),(619,.var [.clo (.func 168) [] [.L 620]]),(620,.var (Qk i))]):=
 W 11 func170 Z λC e r h=>X h λc h=>B h λl k h=>H e [6] Z <| 
  dr_ e [.N,.N,.N,.B (.any (.sl 14 (((f.Tasks.drop 0).take (g.toNat-0)).map Qk)) none),.N,.B (.any (.b l) none),.N,.m .s] [] [] [3] [617,618,619,620] Z Z (a2_ (λσ j o _=>Qe.sliceD Z Z (QG e.n Z) (j _ _ Z) (Qd.es Z) BI.no (BI.val (j _ _ Z) (XB (Qbf c)) Z) (XB (Qbg c)) (Jx (XB (Qbh c)) (Nat.le_of_eq Qc.symm)) Qes) (λσ j o _=>Qe.callSame (md:=.cm (.fn) [(617,620)] [(620,617)] [] [.d,.d] [(617,.var (Qk i))] (.b l) [620]) Qd e j o Z (a2_ (AU _ _ _ k) r1_))) Z <|
  H e [2] Z<|E h Z r4_
def AV (b:Int)(a:QT):O_ Bool:=some ((b<=16)&&((max2 (max2 (a.Ins.length:Int) (a.Outs.length:Int)) (a.Cancel.length:Int))<=16))
def QcO (d a):CT 172 [.L 617,.L 618] [(617,.var (Qb d)),(618,.var (Qk a))] (AV d a) V.b (λ_=>[(617,.var (Qb d)),(618,.var (Qk a))]):=
 W 18 func172 Z λC e r h=>H e [6] Z<|Y ⟨[(2,.b ((d<=16)&&((max2 (max2 (a.Ins.length:Int) (a.Outs.length:Int)) (a.Cancel.length:Int))<=16)))],[(617,.var (Qb d)),(618,.var (Qk a))]⟩ (H e [4] Z<|bO_ (decide (d<=16)) (λc=>G e [.S 5 (.b true),2,.o (.ln a.Ins.length),2,.o (.ln a.Outs.length),2,.o (.ln a.Cancel.length),.o (.any (.I (max2 (max2 (a.Ins.length:Int) (a.Outs.length:Int)) (a.Cancel.length:Int))) none),4,.S 2 (.b ((d<=16)&&((max2 (max2 (a.Ins.length:Int) (a.Outs.length:Int)) (a.Cancel.length:Int))<=16)))] Z ⟨⟨⟨⟨⟨(tc_ c),Qc⟩,Qc⟩,Qc⟩,(λσ f g _=>Qe.max3 Z Z (QG e.n Z) (f _ _ Z) (f _ _ Z) (f _ _ Z))⟩,(cb_ (Jz c Z))⟩<|M Z) λc=>G e [.S 5 (.b false),14,.S 2 (.b ((d<=16)&&((max2 (max2 (a.Ins.length:Int) (a.Outs.length:Int)) (a.Cancel.length:Int))<=16)))] Z ⟨(tc_ c),(cb_ (Ww c Z))⟩<|M Z)<|H e [2] Z<|E h Z r2_
def Gi (a:Yw):O_ Bool:=(DU a.Name).bind λb=>some b
def RW (a):CT 250 [.L 617] [(617,.var (Xe a))] (Gi a) V.b (λ_=>[(617,.var (Xe a))]):=
 W 5 func250 Z λC f r h=>B h λg e h=>J f [9,.o (.C1 (.b g)),4] Z (UI _ _ e)<|E h Z r1_
def Gj (a:Yw)(b:Yw):O_ Bool:=some (Bi a.Name b.Name)
def RX (c a):CT 249 [.agg (Xe c),.L 617] [(617,.var (Xe a))] (Gj c a) V.b (λ_=>[(617,.var (Xe a))]):=
 W 9 func249 Z λC d r h=>H d [17] Z<|E h Z r1_
def Kb (c:(L_ Yw))(d:Yw)(a:Int):O_ (Int⊕(Int⊕Unit)):=bif (a<(c.length:Int))then (idx c a).bind λe=>(Gj e d).bind λb=>bif b then some (.inr (.inl a))else some (.inl (Qs (a+1)))else some (.inr (.inr ()))
def Kc (a:Int):O_ Int:=some a
def Kd : O_ Int:=some (-1)
def Jo (a:(L_ Yw))(b:Yw):O_ Int:=(QO (λst=>Kb a b st) 0).bind (Sum.elim (λq=>Kc q) (λq=>Kd))
def Fc (g e):CT 306 [.sl 2 (g.map Xe),.clo (.func 249) [] [.L 617]] [(617,.var (Xe e))] (Jo g e) V.I (λ_=>[(617,.var (Xe e))]):=
 W 19 func306 Z λC c r h=>J c [9,.o (.ln g.length),4] Z Qc<|lq_ h (λst=>⟨[(0,.sl 2 (g.map Xe)),(1,.clo (.func 249) [] [.L 617]),(7,.I (g.length:Int)),(8,.I st)],[(617,.var (Xe e))]⟩) (λq=>(.ret,⟨[(4,.I q)],[(617,.var (Xe e))]⟩)) (λq=>(.exit 0,⟨[],[(617,.var (Xe e))]⟩)) Z (λm o h=>H c [6] Z<|I h (λf h=>B h λl j h=>B h λk i h=>g4_ c [.T,15,.o (.row (Xe l)),.A (Xe l),.cm (.clo) [(617,617)] [(617,617)] [] [.d,.d] [(617,.var (Xe e))] (.b k),2] Z f (Xb j) Z (RX _ _ _ i)<|I h (λa h=>J c [.T,9] Z a<|rR_ h Z) λa h=>J c [.F,7] Z a<|rN_ h Z) λf h=>J c [.F,2] Z f<|rX_ h Z) (λp h=>H c [2] Z<|E h Z r1_) (λ_ h=>H c [8] Z<|E h Z r1_)
def YT (a:(L_ Yw))(b:Yw):O_ Bool:=(Jo a b).bind λc=>some (decide (0<=c))
def Bt (e a):CT 252 [.sl 2 (e.map Xe),.clo (.func 249) [] [.L 617]] [(617,.var (Xe a))] (YT e a) V.b (λ_=>[(617,.var (Xe a))]):=
 W 9 func252 Z λC f r h=>B h λg c h=>J f [9,.cm (.fn) [(617,617)] [(617,617)] [] [.d,.d] [(617,.var (Xe a))] (.I g),5] Z (Fc _ _ _ c)<|E h Z r1_
def Gk (b:(L_ Yw))(a:Int)(c:Yw):O_ Bool:=(chk (decide (0<=a)&&decide (0<=a.toNat)&&decide (a.toNat<=b.length))).bind λ_=>(YT ((b.drop 0).take (a.toNat-0)) c).bind λd=>some (!d)
def RY (f g i):CT 251 [.L 617,.L 618,.L 619] [(617,.var (JD f)),(618,.var (Qb g)),(619,.var [.clo (.func 249) [] [.L 620]]),(620,.var (Xe i))] (Gk f g i) V.b (λ_=>[(617,.var (JD f)),(618,.var (Qb g)),(619,.var [.clo (.func 249) [] [.L 620]]),(620,.var (Xe i))]):=
 W 10 func251 Z λC e r h=>X h λc h=>B h λl k h=>H e [6] Z <| 
  dr_ e [.N,.N,.B (.any (.sl 2 (((f.drop 0).take (g.toNat-0)).map Xe)) none),.N,.B (.any (.b l) none),.N,.m .s] [] [] [3] [617,618,619,620] Z Z (a2_ (λσ j o _=>Qe.sliceD Z Z (QG e.n Z) (j _ _ Z) (Qd.es Z) BI.no (BI.val (j _ _ Z) (XB (Qbf c)) Z) (XB (Qbg c)) (Jx (XB (Qbh c)) (Nat.le_of_eq Qc.symm)) Qes) (λσ j o _=>Qe.callSame (md:=.cm (.fn) [(617,620)] [(620,617)] [] [.d,.d] [(617,.var (Xe i))] (.b l) [620]) Qd e j o Z (a2_ (Bt _ _ _ k) r1_))) Z <|
  H e [2] Z<|E h Z r4_
def Gl (a:Ql)(b:Yw):O_ Bool:=(Kt a.Colours b.Colour).bind λc=>some c
def RZ (a e):CT 253 [.L 617,.L 618] [(617,.var (Qa a)),(618,.var (Xe e))] (Gl a e) V.b (λ_=>[(617,.var (Qa a)),(618,.var (Xe e))]):=
 W 8 func253 Z λC g r h=>B h λi f h=>J g [11,.o (.C2 (.b i)),4] Z (Bf _ _ _ f)<|E h Z r2_
def Bu (a:Yw)(e:Int)(f:(L_ Yw))(g:Int)(h:Int)(i:Ql)(j:Int):O_ Int:=(Gi a).bind λb=>bif (!b)then some e else (Gk f g a).bind λc=>bif (!c)then some h else (Gl i a).bind λd=>bif (!d)then some j else some 0
def QaN (i p q s t u w):CT 90 [.own 617 3] [(617,.var [.clo (.func 250) [] [.L 618],.I p,.clo (.func 251) [] [.L 619,.L 620,.L 621],.I t,.clo (.func 253) [] [.L 622,.L 618],.I w]),(618,.var (Xe i)),(619,.var (JD q)),(620,.var (Qb s)),(621,.var [.clo (.func 249) [] [.L 618]]),(622,.var (Qa u))] (Bu i p q s t u w) V.I (λ_=>[(617,.var [.clo (.func 250) [] [.L 618],.I p,.clo (.func 251) [] [.L 619,.L 620,.L 621],.I t,.clo (.func 253) [] [.L 622,.L 618],.I w]),(618,.var (Xe i)),(619,.var (JD q)),(620,.var (Qb s)),(621,.var [.clo (.func 249) [] [.L 618]]),(622,.var (Qa u))]):=
 W 18 func90 Z λC a r h=>H a [14] Z<|AK.loopN 4<|AK.rnd<|B h λx j h=>g4_ a [2,.v .no [] (.b true),10,.o (.any (.L 617) none),3,.O 4 (.var [.clo (.func 250) [] [.L 618],.I p]),6,.cm (.clo) [(617,618)] [(618,617)] [] [.d] [(617,.var (Xe i))] (.b x),3] Z Z (λσ g k _=>Qe.idxV Z Z (QG a.n Z) (g _ _ Z) (g _ _ Z) (Qd.es Z) (k _ _ Z) (by decide)) Z (RW _ _ j)<|I h (λc h=>J a [.T,13] Z c<|E h Z r6_) λc h=>K a [.F,4,.v .no [] (.I 1),2] Z c Z<|AK.met<|AK.rnd<|B h λy l h=>g4_ a [2,.v .no [] (.b true),10,.o (.any (.loc 617 0 2) none),1,.kill 4,2,.O 4 (.var [.clo (.func 251) [] [.L 619,.L 620,.L 621],.I t]),6,.cm (.clo) [(617,619),(618,620),(619,621),(620,618)] [(619,617),(620,618),(621,619),(618,620)] [] [.d,.d,.d] [(617,.var (JD q)),(618,.var (Qb s)),(619,.var [.clo (.func 249) [] [.L 620]]),(620,.var (Xe i))] (.b y),3] Z Z (λσ g k _=>Qe.idxV Z Z (QG a.n Z) (g _ _ Z) (g _ _ Z) (Qd.es Z) (k _ _ Z) (by decide)) Z (RY _ _ _ _ l)<|I h (λe h=>J a [.T,13] Z e<|E h Z r6_) λe h=>K a [.F,4,.v .no [] (.I 2),2] Z e Z<|AK.met<|AK.rnd<|B h λz m h=>g4_ a [2,.v .no [] (.b true),10,.o (.any (.loc 617 0 4) none),1,.kill 4,2,.O 4 (.var [.clo (.func 253) [] [.L 622,.L 618],.I w]),6,.cm (.clo) [(617,622),(618,618)] [(622,617),(618,618)] [] [.d,.d] [(617,.var (Qa u)),(618,.var (Xe i))] (.b z),3] Z Z (λσ g k _=>Qe.idxV Z Z (QG a.n Z) (g _ _ Z) (g _ _ Z) (Qd.es Z) (k _ _ Z) (by decide)) Z (RZ _ _ _ m)<|I h (λf h=>J a [.T,13] Z f<|E h Z r6_) λf h=>K a [.F,4,.v .no [] (.I 3),2] Z f Z<|AK.met<|AK.rnd<|J a [2,.v .no [] (.b false),15] Z Z<|E h Z r6_
def ET (a:Int)(b:Yw)(c:(L_ Yw))(d:Ql):O_ Int:=(Bu b 1 c a 5 d 3).bind λe=>some e
def Vu (c e a b):CT 248 [.I c,.agg (Xe e),.L 617,.L 618] [(617,.var (JD a)),(618,.var (Qa b))] (ET c e a b) V.I (λ_=>[(617,.var (JD a)),(618,.var (Qa b))]):=
 W 17 func248 Z λC g r h=>B h λi f h=>G g [12,.O 7 (.var [.clo (.func 249) [] [.L 5]]),5,.A [.clo (.func 250) [] [.L 5],.I 1],1,.A [.clo (.func 251) [] [.L 617,.L 4,.L 7],.I 5],1,.A [.clo (.func 253) [] [.L 618,.L 5],.I 3],.o (.any (.own 15 3) (some (.var [.clo (.func 250) [] [.L 5],.I 1,.clo (.func 251) [] [.L 617,.L 4,.L 7],.I 5,.clo (.func 253) [] [.L 618,.L 5],.I 3]))),.cm (.fn) [(617,15),(618,5),(619,617),(620,4),(621,7),(622,618)] [(15,617),(5,618),(617,619),(4,620),(7,621),(618,622)] [] [.d] [(617,.var [.clo (.func 250) [] [.L 618],.I 1,.clo (.func 251) [] [.L 619,.L 620,.L 621],.I 5,.clo (.func 253) [] [.L 622,.L 618],.I 3]),(618,.var (Xe e)),(619,.var (JD a)),(620,.var (Qb c)),(621,.var [.clo (.func 249) [] [.L 618]]),(622,.var (Qa b))] (.I i),4] Z (a6_ Z Z Z Z (λσ j k y=>Qe.buildAny Z Z (QG g.n Z) (Qd.es Z) OD Z (by decide) (by decide) (Es j Z) Z Z (y Z)) (QaN _ _ _ _ _ _ _ _ f))<|E h Z r2_
def Ub (d:(L_ Yw))(e:(L_ Yw))(f:Ql)(a:Int):O_ (Int⊕((Int×Int)⊕Unit)):=bif (a<(d.length:Int))then (idx d a).bind λc=>(ET a c e f).bind λb=>bif (b != 0)then some (.inr (.inl (a,b)))else some (.inl (Qs (a+1)))else some (.inr (.inr ()))
def Uc (a:Int)(b:Int):O_ (Int×Int):=some (a,b)
def Ud : O_ (Int×Int):=some (0,0)
def GW (a:(L_ Yw))(b:(L_ Yw))(c:Ql):O_ (Int×Int):=(QO (λst=>Ub a b c st) 0).bind (Sum.elim (λq=>Uc q.1 q.2) (λq=>Ud))
def SC (i f g):CT 247 [.sl 2 (i.map Xe),.clo (.func 248) [] [.L 617,.L 618]] [(617,.var (JD f)),(618,.var (Qa g))] (GW i f g) (λr=>(.tup [.I r.1,.I r.2])) (λ_=>[(617,.var (JD f)),(618,.var (Qa g))]):=
 W 25 func247 Z λC e r h=>J e [10,.o (.ln i.length),4] Z Qc<|lq_ h (λst=>⟨[(1,.clo (.func 248) [] [.L 617,.L 618]),(9,.sl 2 (i.map Xe)),(10,.I (i.length:Int)),(11,.I st)],[(617,.var (JD f)),(618,.var (Qa g))]⟩) (λq=>(.ret,⟨[(4,.I q.1),(5,.I q.2)],[(617,.var (JD f)),(618,.var (Qa g))]⟩)) (λq=>(.exit 0,⟨[],[(617,.var (JD f)),(618,.var (Qa g))]⟩)) Z (λs o h=>H e [6] Z<|I h (λa h=>B h λc j h=>B h λl k h=>G e [.T,7,.o (.row (Xe c)),.A (Xe c),3,.O 7 (.var (Xe c)),6,.A (Xe c),.cm (.clo) [(617,617),(618,618)] [(617,617),(618,618)] [] [.d,.d,.d,.d] [(617,.var (JD f)),(618,.var (Qa g))] (.I l),9] Z (a6_ a (Xb j) Z Z Z (Vu _ _ _ _ _ k))<|I h (λb h=>J e [.T,11] Z b<|rR_ h Z) λb h=>J e [.F,7] Z b<|rN_ h Z) λa h=>J e [.F,2] Z a<|rX_ h Z) (λ⟨m,p⟩ h=>H e [2] Z<|F h Z Z r2_) (λ_ h=>H e [9] Z<|F h Z Z r2_)
def Am (b:Ql)(a:(L_ Yw)):O_ Int:=(GW a a b).bind λc=>some c.2
def Qad (a b):CT 175 [.agg (Qa a),.sl 2 (b.map Xe)] [] (Am a b) V.I no_:=
 W 14 func175 Z λC f r h=>B h λe c h=>J f [11,.cm (.fn) [(617,3),(618,2)] [(3,617),(2,618)] [] [.d,.d] [(617,.var (JD b)),(618,.var (Qa a))] (.tup [.I e.1,.I e.2]),14] Z (SC _ _ _ _ c)<|E h Z U
def Hy (a:Ql)(b:QT):O_ Int:=(Am a b.Vars).bind λc=>some c
def QcP (a b):CT 174 [.L 617,.L 618] [(617,.var (Qa a)),(618,.var (Qk b))] (Hy a b) V.I (λ_=>[(617,.var (Qa a)),(618,.var (Qk b))]):=
 W 7 func174 Z λC f r h=>B h λg e h=>K f [7,.A (Qa a),2,.o (.C2 (.I g)),4] Z Z (Qad _ _ _ e)<|E h Z r2_
def UK (b:Ql)(c:QT)(d:Int):O_ (Bool×Int):=(Hy b c).bind λa=>some ((a==0),a)
def QbL (c e j):CT 246 [.L 617,.L 620] [(617,.var [.clo (.func 174) [] [.L 618,.L 619]]),(618,.var (Qa c)),(619,.var (Qk e)),(620,.var [.L 621]),(621,.var (Qb j))] (UK c e j) (λr=>(.b r.1)) (λr=>[(617,.var [.clo (.func 174) [] [.L 618,.L 619]]),(618,.var (Qa c)),(619,.var (Qk e)),(620,.var [.L 621]),(621,.var (Qb r.2))]):=
 W 11 func246 Z λC f r h=>B h λg i h=>H f [6] Z <| 
  dr_ f [.N,.N,.B (.any (.I g) none),.N,.m .s] [] [] [1] [617,618,619,620,621] Z Z (A (λσ k l _=>Qe.callSame (md:=.cm (.clo) [(617,618),(618,619)] [(618,617),(619,618)] [] [.d,.d] [(617,.var (Qa c)),(618,.var (Qk e))] (.I g) [618,619]) Qd f k l Z (a2_ (QcP _ _ _ i) r2_))) Z <|
  J f [.O 621 (.var (Qb g)),11] Z Z<|E h Z r5_
def Lu (e:QT)(f:Ql)(a:Int)(c:Int):O_ ((Int×Int)⊕(Unit⊕Int)):=bif (c<(e.Vars.length:Int))then (idx e.Vars c).bind λd=>(YF f.Colours d.Colour).bind λb=>bif (b==0)then some (.inr (.inl ()))else some (.inl ((min2 (Qs (a*b)) 1025),(Qs (c+1))))else some (.inr (.inr a))
def Lv : O_ Int:=some 0
def Lw (a:Int):O_ Int:=some a
def BV (a:Ql)(b:Int):O_ Int:=(KX a.Tasks b).bind λc=>bif (!c)then some 0 else (idx a.Tasks b).bind λd=>(QO (λst=>Lu d a st.1 st.2) (1,0)).bind (Sum.elim (λq=>Lv) (λq=>Lw q))
def Sa (m w):CT 57 [.agg (Qa m),.I w] [] (BV m w) V.I no_:=
 W 38 func57 Z λC f r h=>B h λy p h=>J f [12,.o (.C2 (.b y)),3] Z (CU _ _ _ p)<|I h (λg h=>J f [.T,7] Z g<|E h Z U) λg h=>B h λl s h=>g3_ f [.F,13,.o (.row (Qk l)),2,.o (.ln l.Vars.length),4] Z g (Xb s) Qc<|lq_ h (λst=>⟨[lk_ 2,(5,.I st.1),(19,.sl 2 (l.Vars.map Xe)),(20,.I (l.Vars.length:Int)),(21,.I st.2)],[(2,.var (Qa m))]⟩) (λq=>(.ret,⟨[(4,.I 0)],[]⟩)) (λq=>(.exit 0,⟨[(5,.I q)],[]⟩)) Z (λ⟨x,z⟩ o h=>H f [6] Z<|I h (λa h=>B h λi j h=>B h λt k h=>G f [.T,6,.o (.row (Xe i)),.A (Xe i),2,.O 7 (.var (Xe i)),8,.o (.C2 (.I t)),10] Z (a5_ a (Xb j) Z Z (Bj _ _ _ k))<|I h (λe h=>J f [.T,9] Z e<|rR_ h Z) λe h=>J f [.F,15] Z e<|rN_ h Z) λa h=>J f [.F,2] Z a<|rX_ h Z) (λ_ h=>H f [2] Z<|E h Z U) (λu h=>H f [9] Z<|E h Z U)
def Hz (a:Ql)(b:Int):O_ Bool:=(BV a b).bind λc=>some (decide (c<=1024))
def QcQ (a e):CT 176 [.L 617,.L 618] [(617,.var (Qa a)),(618,.var (Qb e))] (Hz a e) V.b (λ_=>[(617,.var (Qa a)),(618,.var (Qb e))]):=
 W 7 func176 Z λC g r h=>B h λi f h=>K g [7,.A (Qa a),1,.o (.C2 (.I i)),5] Z Z (Sa _ _ _ f)<|E h Z r2_
def Pv (a:QT)(b:Int):O_ Bool:=(AB a.Guard b).bind λc=>bif c then bif (0<(a.Ins.length:Int))then some (decide (0<(a.Outs.length:Int)))else some false else some false
def Pw (a:Bool):O_ Bool:=some a
def HA (a:QT)(b:Int):O_ Bool:=(Pv a b).bind (λc=>Pw c)
def QcR (a i):CT 177 [.L 617,.L 618] [(617,.var (Qk a)),(618,.var (Qb i))] (HA a i) V.b (λ_=>[(617,.var (Qk a)),(618,.var (Qb i))]):=
 W 19 func177 Z λC e r h=>H e [6] Z<|mV_ h (λj=>⟨[(2,.b j)],[(617,.var (Qk a)),(618,.var (Qb i))]⟩) (λj h=>B h λl k h=>K e [2,.A (Qx a.Guard),1,.o (.C2 (.b l)),1] Z Z (Mp _ _ _ k)<|I h (λf h=>G e [.S 7 (.b true),2,.o (.ln a.Ins.length),3] Z ⟨(tc_ f),Qc⟩<|I h (λg h=>G e [.S 13 (.b true),2,.o (.ln a.Outs.length),4] Z ⟨(tc_ g),Qc⟩<|mq_ h Z) λg h=>L e [.S 13 (.b false),7] Z g<|mq_ h Z) λf h=>L e [.S 7 (.b false),13] Z f<|mq_ h Z) λj h=>H e [2] Z<|E h Z r2_
def Bv (a:Ql)(b:Yd):O_ Bool:=(Yy a.Places b.Place).bind λc=>some c
def QaO (a e):CT 259 [.L 617,.L 618] [(617,.var (Qa a)),(618,.var (XL e))] (Bv a e) V.b (λ_=>[(617,.var (Qa a)),(618,.var (XL e))]):=
 W 8 func259 Z λC g r h=>B h λi f h=>J g [11,.o (.C2 (.b i)),4] Z (JP _ _ _ f)<|E h Z r2_
def Bw (a:Yd)(b:Int):O_ Bool:=(AB a.Expr b).bind λc=>some c
def QaP (a e):CT 260 [.L 617,.L 618] [(617,.var (XL a)),(618,.var (Qb e))] (Bw a e) V.b (λ_=>[(617,.var (XL a)),(618,.var (Qb e))]):=
 W 7 func260 Z λC g r h=>B h λi f h=>K g [8,.A (Qx a.Expr),1,.o (.C2 (.b i)),4] Z Z (Mp _ _ _ f)<|E h Z r2_
def Bx (c:Ql)(b:Yd)(d:Int)(e:Int)(f:Int):O_ Int:=(Bv c b).bind λg=>bif (!g)then some d else (Bw b e).bind λa=>bif (!a)then some f else some 0
def QaQ (j f k l m):CT 90 [.own 617 2] [(617,.var [.clo (.func 259) [] [.L 618,.L 619],.I k,.clo (.func 260) [] [.L 619,.L 620],.I m]),(618,.var (Qa j)),(619,.var (XL f)),(620,.var (Qb l))] (Bx j f k l m) V.I (λ_=>[(617,.var [.clo (.func 259) [] [.L 618,.L 619],.I k,.clo (.func 260) [] [.L 619,.L 620],.I m]),(618,.var (Qa j)),(619,.var (XL f)),(620,.var (Qb l))]):=
 W 18 func90 Z λC c r h=>H c [14] Z<|AK.loopN 3<|AK.rnd<|B h λt p h=>g4_ c [2,.v .no [] (.b true),10,.o (.any (.L 617) none),3,.O 4 (.var [.clo (.func 259) [] [.L 618,.L 619],.I k]),6,.cm (.clo) [(617,618),(618,619)] [(618,617),(619,618)] [] [.d,.d] [(617,.var (Qa j)),(618,.var (XL f))] (.b t),3] Z Z (λσ g q _=>Qe.idxV Z Z (QG c.n Z) (g _ _ Z) (g _ _ Z) (Qd.es Z) (q _ _ Z) (by decide)) Z (QaO _ _ _ p)<|I h (λe h=>J c [.T,13] Z e<|E h Z r4_) λe h=>K c [.F,4,.v .no [] (.I 1),2] Z e Z<|AK.met<|AK.rnd<|B h λs i h=>g4_ c [2,.v .no [] (.b true),10,.o (.any (.loc 617 0 2) none),1,.kill 4,2,.O 4 (.var [.clo (.func 260) [] [.L 619,.L 620],.I m]),6,.cm (.clo) [(617,619),(618,620)] [(619,617),(620,618)] [] [.d,.d] [(617,.var (XL f)),(618,.var (Qb l))] (.b s),3] Z Z (λσ g q _=>Qe.idxV Z Z (QG c.n Z) (g _ _ Z) (g _ _ Z) (Qd.es Z) (q _ _ Z) (by decide)) Z (QaP _ _ _ i)<|I h (λa h=>J c [.T,13] Z a<|E h Z r4_) λa h=>K c [.F,4,.v .no [] (.I 2),2] Z a Z<|AK.met<|AK.rnd<|J c [2,.v .no [] (.b false),15] Z Z<|E h Z r4_
def HB (e:Int)(a:Yd)(b:Ql)(c:Int):O_ Int:=(Bx b a 3 c 1).bind λd=>some d
def QcS (f c a b):CT 258 [.I f,.agg (XL c),.L 617,.L 618] [(617,.var (Qa a)),(618,.var (Qb b))] (HB f c a b) V.I (λ_=>[(617,.var (Qa a)),(618,.var (Qb b))]):=
 W 13 func258 Z λC g r h=>B h λi e h=>g4_ g [9,.A [.clo (.func 259) [] [.L 617,.L 5],.I 3],1,.A [.clo (.func 260) [] [.L 5,.L 618],.I 1],.o (.any (.own 11 2) (some (.var [.clo (.func 259) [] [.L 617,.L 5],.I 3,.clo (.func 260) [] [.L 5,.L 618],.I 1]))),.cm (.fn) [(617,11),(618,617),(619,5),(620,618)] [(11,617),(617,618),(5,619),(618,620)] [] [.d] [(617,.var [.clo (.func 259) [] [.L 618,.L 619],.I 3,.clo (.func 260) [] [.L 619,.L 620],.I 1]),(618,.var (Qa a)),(619,.var (XL c)),(620,.var (Qb b))] (.I i),4] Z Z Z (λσ j k y=>Qe.buildAny Z Z (QG g.n Z) (Qd.es Z) OD Z (by decide) (by decide) (Es j Z) Z Z (y Z)) (QaQ _ _ _ _ _ _ e)<|E h Z r2_
def Ue (d:(L_ Yd))(e:Ql)(f:Int)(a:Int):O_ (Int⊕((Int×Int)⊕Unit)):=bif (a<(d.length:Int))then (idx d a).bind λc=>(HB a c e f).bind λb=>bif (b != 0)then some (.inr (.inl (a,b)))else some (.inl (Qs (a+1)))else some (.inr (.inr ()))
def Uf (a:Int)(b:Int):O_ (Int×Int):=some (a,b)
def Ug : O_ (Int×Int):=some (0,0)
def GX (a:(L_ Yd))(b:Ql)(c:Int):O_ (Int×Int):=(QO (λst=>Ue a b c st) 0).bind (Sum.elim (λq=>Uf q.1 q.2) (λq=>Ug))
def SD (i f g):CT 257 [.sl 4 (i.map XL),.clo (.func 258) [] [.L 617,.L 618]] [(617,.var (Qa f)),(618,.var (Qb g))] (GX i f g) (λr=>(.tup [.I r.1,.I r.2])) (λ_=>[(617,.var (Qa f)),(618,.var (Qb g))]):=
 W 25 func257 Z λC e r h=>J e [10,.o (.ln i.length),4] Z Qc<|lq_ h (λst=>⟨[(1,.clo (.func 258) [] [.L 617,.L 618]),(9,.sl 4 (i.map XL)),(10,.I (i.length:Int)),(11,.I st)],[(617,.var (Qa f)),(618,.var (Qb g))]⟩) (λq=>(.ret,⟨[(4,.I q.1),(5,.I q.2)],[(617,.var (Qa f)),(618,.var (Qb g))]⟩)) (λq=>(.exit 0,⟨[],[(617,.var (Qa f)),(618,.var (Qb g))]⟩)) Z (λs o h=>H e [6] Z<|I h (λa h=>B h λc j h=>B h λl k h=>G e [.T,7,.o (.row (XL c)),.A (XL c),3,.O 7 (.var (XL c)),6,.A (XL c),.cm (.clo) [(617,617),(618,618)] [(617,617),(618,618)] [] [.d,.d,.d,.d] [(617,.var (Qa f)),(618,.var (Qb g))] (.I l),9] Z (a6_ a (Xb j) Z Z Z (QcS _ _ _ _ _ k))<|I h (λb h=>J e [.T,11] Z b<|rR_ h Z) λb h=>J e [.F,7] Z b<|rN_ h Z) λa h=>J e [.F,2] Z a<|rX_ h Z) (λ⟨m,p⟩ h=>H e [2] Z<|F h Z Z r2_) (λ_ h=>H e [9] Z<|F h Z Z r2_)
def FH (b:Ql)(c:(L_ Yd))(a:Int):O_ Int:=(GX c b a).bind λd=>some d.2
def TB (b e a):CT 180 [.agg (Qa b),.sl 4 (e.map XL),.I a] [] (FH b e a) V.I no_:=
 W 16 func180 Z λC g r h=>B h λf c h=>J g [11,.cm (.fn) [(617,3),(618,5)] [(3,617),(5,618)] [] [.d,.d] [(617,.var (Qa b)),(618,.var (Qb a))] (.tup [.I f.1,.I f.2]),14] Z (SD _ _ _ _ c)<|E h Z U
def HC (a:Ql)(b:QT)(c:Int):O_ Int:=(FH a b.Ins c).bind λd=>some d
def QcT (a b e):CT 179 [.L 617,.L 618,.L 619] [(617,.var (Qa a)),(618,.var (Qk b)),(619,.var (Qb e))] (HC a b e) V.I (λ_=>[(617,.var (Qa a)),(618,.var (Qk b)),(619,.var (Qb e))]):=
 W 9 func179 Z λC g r h=>B h λi f h=>K g [7,.A (Qa a),3,.o (.C3 (.I i)),4] Z Z (TB _ _ _ _ f)<|E h Z r3_
def DV (b:Ql)(c:QT)(d:Int)(e:Int):O_ (Bool×Int):=(HC b c d).bind λa=>some ((a==0),a)
def VY (c e f k):CT 246 [.L 617,.L 621] [(617,.var [.clo (.func 179) [] [.L 618,.L 619,.L 620]]),(618,.var (Qa c)),(619,.var (Qk e)),(620,.var (Qb f)),(621,.var [.L 622]),(622,.var (Qb k))] (DV c e f k) (λr=>(.b r.1)) (λr=>[(617,.var [.clo (.func 179) [] [.L 618,.L 619,.L 620]]),(618,.var (Qa c)),(619,.var (Qk e)),(620,.var (Qb f)),(621,.var [.L 622]),(622,.var (Qb r.2))]):=
 W 11 func246 Z λC g r h=>B h λi j h=>H g [6] Z <| 
  dr_ g [.N,.N,.B (.any (.I i) none),.N,.m .s] [] [] [1] [617,618,619,620,621,622] Z Z (A (λσ l o _=>Qe.callSame (md:=.cm (.clo) [(617,618),(618,619),(619,620)] [(618,617),(619,618),(620,619)] [] [.d,.d,.d] [(617,.var (Qa c)),(618,.var (Qk e)),(619,.var (Qb f))] (.I i) [618,619,620]) Qd g l o Z (a2_ (QcT _ _ _ _ j) r3_))) Z <|
  J g [.O 622 (.var (Qb i)),11] Z Z<|E h Z r6_
def HD (a:Ql)(b:QT)(c:Int):O_ Int:=(FH a b.Outs c).bind λd=>some d
def QcU (a b e):CT 181 [.L 617,.L 618,.L 619] [(617,.var (Qa a)),(618,.var (Qk b)),(619,.var (Qb e))] (HD a b e) V.I (λ_=>[(617,.var (Qa a)),(618,.var (Qk b)),(619,.var (Qb e))]):=
 W 9 func181 Z λC g r h=>B h λi f h=>K g [7,.A (Qa a),3,.o (.C3 (.I i)),4] Z Z (TB _ _ _ _ f)<|E h Z r3_
def DW (b:Ql)(c:QT)(d:Int)(e:Int):O_ (Bool×Int):=(HD b c d).bind λa=>some ((a==0),a)
def VZ (c e f k):CT 246 [.L 617,.L 621] [(617,.var [.clo (.func 181) [] [.L 618,.L 619,.L 620]]),(618,.var (Qa c)),(619,.var (Qk e)),(620,.var (Qb f)),(621,.var [.L 622]),(622,.var (Qb k))] (DW c e f k) (λr=>(.b r.1)) (λr=>[(617,.var [.clo (.func 181) [] [.L 618,.L 619,.L 620]]),(618,.var (Qa c)),(619,.var (Qk e)),(620,.var (Qb f)),(621,.var [.L 622]),(622,.var (Qb r.2))]):=
 W 11 func246 Z λC g r h=>B h λi j h=>H g [6] Z <| 
  dr_ g [.N,.N,.B (.any (.I i) none),.N,.m .s] [] [] [1] [617,618,619,620,621,622] Z Z (A (λσ l o _=>Qe.callSame (md:=.cm (.clo) [(617,618),(618,619),(619,620)] [(618,617),(619,618),(620,619)] [] [.d,.d,.d] [(617,.var (Qa c)),(618,.var (Qk e)),(619,.var (Qb f))] (.I i) [618,619,620]) Qd g l o Z (a2_ (QcU _ _ _ _ j) r3_))) Z <|
  J g [.O 622 (.var (Qb i)),11] Z Z<|E h Z r6_
def EU (a:Ql)(b:Int):O_ Bool:=(Yy a.Places b).bind λc=>some c
def Vv (a e):CT 263 [.L 617,.L 618] [(617,.var (Qa a)),(618,.var (Qb e))] (EU a e) V.b (λ_=>[(617,.var (Qa a)),(618,.var (Qb e))]):=
 W 7 func263 Z λC g r h=>B h λi f h=>J g [10,.o (.C2 (.b i)),4] Z (JP _ _ _ f)<|E h Z r2_
def EV (b:LI_)(a:Int)(c:Int):O_ Bool:=(chk (decide (0<=a)&&decide (0<=a.toNat)&&decide (a.toNat<=b.length))).bind λ_=>(Je ((b.drop 0).take (a.toNat-0)) c).bind λd=>some (!d)
def Vx (f g j):CT 264 [.L 617,.L 618,.L 619] [(617,.var (QQ f)),(618,.var (Qb g)),(619,.var (Qb j))] (EV f g j) V.b (λ_=>[(617,.var (QQ f)),(618,.var (Qb g)),(619,.var (Qb j))]):=
 W 10 func264 Z λC i r h=>X h λe h=>B h λo k h=>H i [6] Z <| 
  dr_ i [.N,.N,.B (.any (.sl 1 (((f.drop 0).take (g.toNat-0)).map Qb)) none),.N,.B (.C2 (.b o)),.N,.m .s] [] [] [3] [617,618,619] Z Z (a2_ (λσ l p _=>Qe.sliceD Z Z (QG i.n Z) (l _ _ Z) (Qd.es Z) BI.no (BI.val (l _ _ Z) (XB (Qbf e)) Z) (XB (Qbg e)) (Jx (XB (Qbh e)) (Nat.le_of_eq Qc.symm)) Qes) (AP _ _ _ k)) Z <|
  H i [2] Z<|E h Z r3_
def Bz (c:Ql)(b:Int)(d:Int)(e:LI_)(f:Int)(g:Int):O_ Int:=(EU c b).bind λh=>bif (!h)then some d else (EV e f b).bind λa=>bif (!a)then some g else some 0
def QaR (j f k l m p):CT 90 [.own 617 2] [(617,.var [.clo (.func 263) [] [.L 618,.L 619],.I k,.clo (.func 264) [] [.L 620,.L 621,.L 619],.I p]),(618,.var (Qa j)),(619,.var (Qb f)),(620,.var (QQ l)),(621,.var (Qb m))] (Bz j f k l m p) V.I (λ_=>[(617,.var [.clo (.func 263) [] [.L 618,.L 619],.I k,.clo (.func 264) [] [.L 620,.L 621,.L 619],.I p]),(618,.var (Qa j)),(619,.var (Qb f)),(620,.var (QQ l)),(621,.var (Qb m))]):=
 W 18 func90 Z λC e r h=>H e [14] Z<|AK.loopN 3<|AK.rnd<|B h λu q h=>g4_ e [2,.v .no [] (.b true),10,.o (.any (.L 617) none),3,.O 4 (.var [.clo (.func 263) [] [.L 618,.L 619],.I k]),6,.cm (.clo) [(617,618),(618,619)] [(618,617),(619,618)] [] [.d,.d] [(617,.var (Qa j)),(618,.var (Qb f))] (.b u),3] Z Z (λσ g s _=>Qe.idxV Z Z (QG e.n Z) (g _ _ Z) (g _ _ Z) (Qd.es Z) (s _ _ Z) (by decide)) Z (Vv _ _ _ q)<|I h (λa h=>J e [.T,13] Z a<|E h Z r5_) λa h=>K e [.F,4,.v .no [] (.I 1),2] Z a Z<|AK.met<|AK.rnd<|B h λt i h=>g4_ e [2,.v .no [] (.b true),10,.o (.any (.loc 617 0 2) none),1,.kill 4,2,.O 4 (.var [.clo (.func 264) [] [.L 620,.L 621,.L 619],.I p]),6,.cm (.clo) [(617,620),(618,621),(619,619)] [(620,617),(621,618),(619,619)] [] [.d,.d,.d] [(617,.var (QQ l)),(618,.var (Qb m)),(619,.var (Qb f))] (.b t),3] Z Z (λσ g s _=>Qe.idxV Z Z (QG e.n Z) (g _ _ Z) (g _ _ Z) (Qd.es Z) (s _ _ Z) (by decide)) Z (Vx _ _ _ _ i)<|I h (λc h=>J e [.T,13] Z c<|E h Z r5_) λc h=>K e [.F,4,.v .no [] (.I 2),2] Z c Z<|AK.met<|AK.rnd<|J e [2,.v .no [] (.b false),15] Z Z<|E h Z r5_
def An (b:Int)(a:Int)(c:Ql)(d:LI_):O_ Int:=(Bz c a 3 d b 5).bind λe=>some e
def Qae (e a b c):CT 262 [.I e,.I a,.L 617,.L 618] [(617,.var (Qa b)),(618,.var (QQ c))] (An e a b c) V.I (λ_=>[(617,.var (Qa b)),(618,.var (QQ c))]):=
 W 13 func262 Z λC g r h=>B h λi f h=>g4_ g [10,.A [.clo (.func 263) [] [.L 617,.L 5],.I 3],1,.A [.clo (.func 264) [] [.L 618,.L 4,.L 5],.I 5],.o (.any (.own 11 2) (some (.var [.clo (.func 263) [] [.L 617,.L 5],.I 3,.clo (.func 264) [] [.L 618,.L 4,.L 5],.I 5]))),.cm (.fn) [(617,11),(618,617),(619,5),(620,618),(621,4)] [(11,617),(617,618),(5,619),(618,620),(4,621)] [] [.d] [(617,.var [.clo (.func 263) [] [.L 618,.L 619],.I 3,.clo (.func 264) [] [.L 620,.L 621,.L 619],.I 5]),(618,.var (Qa b)),(619,.var (Qb a)),(620,.var (QQ c)),(621,.var (Qb e))] (.I i),4] Z Z Z (λσ j k y=>Qe.buildAny Z Z (QG g.n Z) (Qd.es Z) OD Z (by decide) (by decide) (Es j Z) Z Z (y Z)) (QaR _ _ _ _ _ _ _ f)<|E h Z r2_
def Cu (d:LI_)(e:Ql)(f:LI_)(a:Int):O_ (Int⊕((Int×Int)⊕Unit)):=bif (a<(d.length:Int))then (idx d a).bind λc=>(An a c e f).bind λb=>bif (b != 0)then some (.inr (.inl (a,b)))else some (.inl (Qs (a+1)))else some (.inr (.inr ()))
def Cv (a:Int)(b:Int):O_ (Int×Int):=some (a,b)
def Cw : O_ (Int×Int):=some (0,0)
def BA (a:LI_)(b:Ql)(c:LI_):O_ (Int×Int):=(QO (λst=>Cu a b c st) 0).bind (Sum.elim (λq=>Cv q.1 q.2) (λq=>Cw))
def QaS (g e f):CT 261 [.sl 1 (g.map Qb),.clo (.func 262) [] [.L 617,.L 618]] [(617,.var (Qa e)),(618,.var (QQ f))] (BA g e f) (λr=>(.tup [.I r.1,.I r.2])) (λ_=>[(617,.var (Qa e)),(618,.var (QQ f))]):=
 W 25 func261 Z λC c r h=>J c [10,.o (.ln g.length),4] Z Qc<|lq_ h (λst=>⟨[(1,.clo (.func 262) [] [.L 617,.L 618]),(9,.sl 1 (g.map Qb)),(10,.I (g.length:Int)),(11,.I st)],[(617,.var (Qa e)),(618,.var (QQ f))]⟩) (λq=>(.ret,⟨[(4,.I q.1),(5,.I q.2)],[(617,.var (Qa e)),(618,.var (QQ f))]⟩)) (λq=>(.exit 0,⟨[],[(617,.var (Qa e)),(618,.var (QQ f))]⟩)) Z (λs o h=>H c [6] Z<|I h (λa h=>B h λk i h=>B h λl j h=>g3_ c [.T,7,.o (.row (Qb k)),10,.cm (.clo) [(617,617),(618,618)] [(617,617),(618,618)] [] [.d,.d,.d,.d] [(617,.var (Qa e)),(618,.var (QQ f))] (.I l),9] Z a (Xb i) (Qae _ _ _ _ _ j)<|I h (λb h=>J c [.T,11] Z b<|rR_ h Z) λb h=>J c [.F,7] Z b<|rN_ h Z) λa h=>J c [.F,2] Z a<|rX_ h Z) (λ⟨m,p⟩ h=>H c [2] Z<|F h Z Z r2_) (λ_ h=>H c [9] Z<|F h Z Z r2_)
def CV (b:Ql)(a:LI_):O_ Int:=(BA a b a).bind λc=>some c.2
def QbM (a b):CT 183 [.agg (Qa a),.sl 1 (b.map Qb)] [] (CV a b) V.I no_:=
 W 14 func183 Z λC f r h=>B h λe c h=>J f [11,.cm (.fn) [(617,2),(618,3)] [(2,617),(3,618)] [] [.d,.d] [(617,.var (Qa a)),(618,.var (QQ b))] (.tup [.I e.1,.I e.2]),14] Z (QaS _ _ _ _ c)<|E h Z U
def CW (a:Ql)(b:QT):O_ Int:=(CV a b.Cancel).bind λc=>some c
def QbN (a b):CT 182 [.L 617,.L 618] [(617,.var (Qa a)),(618,.var (Qk b))] (CW a b) V.I (λ_=>[(617,.var (Qa a)),(618,.var (Qk b))]):=
 W 7 func182 Z λC f r h=>B h λg e h=>K f [7,.A (Qa a),2,.o (.C2 (.I g)),4] Z Z (QbM _ _ _ e)<|E h Z r2_
def DX (b:Ql)(c:QT)(d:Int):O_ (Bool×Int):=(CW b c).bind λa=>some ((a==0),a)
def Za (c e j):CT 246 [.L 617,.L 620] [(617,.var [.clo (.func 182) [] [.L 618,.L 619]]),(618,.var (Qa c)),(619,.var (Qk e)),(620,.var [.L 621]),(621,.var (Qb j))] (DX c e j) (λr=>(.b r.1)) (λr=>[(617,.var [.clo (.func 182) [] [.L 618,.L 619]]),(618,.var (Qa c)),(619,.var (Qk e)),(620,.var [.L 621]),(621,.var (Qb r.2))]):=
 W 11 func246 Z λC f r h=>B h λg i h=>H f [6] Z <| 
  dr_ f [.N,.N,.B (.any (.I g) none),.N,.m .s] [] [] [1] [617,618,619,620,621] Z Z (A (λσ k l _=>Qe.callSame (md:=.cm (.clo) [(617,618),(618,619)] [(618,617),(619,618)] [] [.d,.d] [(617,.var (Qa c)),(618,.var (Qk e))] (.I g) [618,619]) Qd f k l Z (a2_ (QbN _ _ _ i) r2_))) Z <|
  J f [.O 621 (.var (Qb g)),11] Z Z<|E h Z r5_
def UL (a:Int)(b:(L_ Yd)):O_ Bool:=
 some ((1<=a)&&((a<=3)&&((a != 3)||((b.length:Int)<=4))))
def OJ (a g):CT 266 [.I a,.sl 4 (g.map XL)] [] (UL a g) V.b no_:=
 W 20 func266 Z λC f r h=>H f [6] Z<|Y ⟨[(4,.b ((1<=a)&&((a<=3)&&((a != 3)||((g.length:Int)<=4)))))],[]⟩ (H f [4] Z<|bO_ (decide (1<=a)) (λc=>L f [.S 7 (.b true),4] Z c<|bO_ (decide (a<=3)) (λd=>L f [.S 11 (.b true),3] Z d<|bO_ (a != 3) (λe=>G f [.S 14 (.b true),7,.S 4 (.b ((1<=a)&&((a<=3)&&((a != 3)||((g.length:Int)<=4)))))] Z ⟨(tc_ e),(cb_ (Jz c (Jz d (GZ e Z))))⟩<|M Z) λe=>G f [.S 14 (.b false),1,.o (.ln g.length),5,.S 4 (.b ((1<=a)&&((a<=3)&&((a != 3)||((g.length:Int)<=4)))))] Z ⟨⟨(tc_ e),Qc⟩,(cb_ (Jz c (Jz d (Kk e Z))))⟩<|M Z) λd=>G f [.S 11 (.b false),10,.S 4 (.b ((1<=a)&&((a<=3)&&((a != 3)||((g.length:Int)<=4)))))] Z ⟨(tc_ d),(cb_ (Jz c (Ww d Z)))⟩<|M Z) λc=>G f [.S 7 (.b false),14,.S 4 (.b ((1<=a)&&((a<=3)&&((a != 3)||((g.length:Int)<=4)))))] Z ⟨(tc_ c),(cb_ (Ww c Z))⟩<|M Z)<|H f [2] Z<|E h Z U
def Lx (a:QT):O_ Bool:=
 (UL a.Join a.Ins).bind λb=>
 bif b then
 (UL a.Split a.Outs).bind λc=>
 bif c then
 bif (0<=a.After)then
 bif (a.After<=65536)then
 some (((a.Many.1==0)&&((a.Many.2.1==0)&&(a.Many.2.2==0)))||((1<=a.Many.1)&&((a.Many.1<=a.Many.2.1)&&((a.Many.2.1<=16)&&((1<=a.Many.2.2)&&(a.Many.2.2<=a.Many.2.1))))))
 else
 some false
 else
 some false
 else
 some false
 else
 some false
def Lz (a:Bool):O_ Bool:=some a
def Wc (a:QT):O_ Bool:=(Lx a).bind (λb=>Lz b)
def QdN (a):CT 185 [.agg (Qk a)] [] (Wc a) V.b no_:=
 W 70 func185 Z λC e r h=>H e [7] Z <| 
  dr_ e [.N,.N,.N,.N,.N,.N,.N,.N,.N,.N,.N,.N] [] [] [1,3,4,5] [1] Z Z U Z <|
  H e [2] Z<|Y ⟨[lk_ 1,(6,.b (((a.Many.1==0)&&((a.Many.2.1==0)&&(a.Many.2.2==0)))||((1<=a.Many.1)&&((a.Many.1<=a.Many.2.1)&&((a.Many.2.1<=16)&&((1<=a.Many.2.2)&&(a.Many.2.2<=a.Many.2.1)))))))],[(1,.var (Qk a))]⟩ (g3_ e [2,.A (Au a.Many),.A (Au (0,0,0)),.o (.any (.b ((a.Many.1==0)&&((a.Many.2.1==0)&&(a.Many.2.2==0)))) none),1] Z Z Z (λσ y z _=>Qe.eqAgg Z Z (QG e.n Z) (y _ _ Z) (y _ _ Z) Z Z (QlO _ _ _ _ _ _))<|bO_ ((a.Many.1==0)&&((a.Many.2.1==0)&&(a.Many.2.2==0))) (λf=>G e [.S 21 (.b true),23,.S 6 (.b (((a.Many.1==0)&&((a.Many.2.1==0)&&(a.Many.2.2==0)))||((1<=a.Many.1)&&((a.Many.1<=a.Many.2.1)&&((a.Many.2.1<=16)&&((1<=a.Many.2.2)&&(a.Many.2.2<=a.Many.2.1)))))))] Z ⟨(tc_ f),(cb_ (GZ f Z))⟩<|M Z) λf=>L e [.S 21 (.b false),3] Z f<|bO_ (decide (1<=a.Many.1)) (λg=>L e [.S 24 (.b true),5] Z g<|bO_ (decide (a.Many.1<=a.Many.2.1)) (λi=>L e [.S 29 (.b true),4] Z i<|bO_ (decide (a.Many.2.1<=16)) (λj=>L e [.S 33 (.b true),4] Z j<|bO_ (decide (1<=a.Many.2.2)) (λk=>G e [.S 37 (.b true),7,.S 6 (.b (((a.Many.1==0)&&((a.Many.2.1==0)&&(a.Many.2.2==0)))||((1<=a.Many.1)&&((a.Many.1<=a.Many.2.1)&&((a.Many.2.1<=16)&&((1<=a.Many.2.2)&&(a.Many.2.2<=a.Many.2.1)))))))] Z ⟨(tc_ k),(cb_ (Kk f (Jz g (Jz i (Jz j (Jz k Z))))))⟩<|M Z) λk=>G e [.S 37 (.b false),7,.S 6 (.b (((a.Many.1==0)&&((a.Many.2.1==0)&&(a.Many.2.2==0)))||((1<=a.Many.1)&&((a.Many.1<=a.Many.2.1)&&((a.Many.2.1<=16)&&((1<=a.Many.2.2)&&(a.Many.2.2<=a.Many.2.1)))))))] Z ⟨(tc_ k),(cb_ (Kk f (Jz g (Jz i (Jz j (Ww k Z))))))⟩<|M Z) λj=>G e [.S 33 (.b false),11,.S 6 (.b (((a.Many.1==0)&&((a.Many.2.1==0)&&(a.Many.2.2==0)))||((1<=a.Many.1)&&((a.Many.1<=a.Many.2.1)&&((a.Many.2.1<=16)&&((1<=a.Many.2.2)&&(a.Many.2.2<=a.Many.2.1)))))))] Z ⟨(tc_ j),(cb_ (Kk f (Jz g (Jz i (Ww j Z)))))⟩<|M Z) λi=>G e [.S 29 (.b false),15,.S 6 (.b (((a.Many.1==0)&&((a.Many.2.1==0)&&(a.Many.2.2==0)))||((1<=a.Many.1)&&((a.Many.1<=a.Many.2.1)&&((a.Many.2.1<=16)&&((1<=a.Many.2.2)&&(a.Many.2.2<=a.Many.2.1)))))))] Z ⟨(tc_ i),(cb_ (Kk f (Jz g (Ww i Z))))⟩<|M Z) λg=>G e [.S 24 (.b false),20,.S 6 (.b (((a.Many.1==0)&&((a.Many.2.1==0)&&(a.Many.2.2==0)))||((1<=a.Many.1)&&((a.Many.1<=a.Many.2.1)&&((a.Many.2.1<=16)&&((1<=a.Many.2.2)&&(a.Many.2.2<=a.Many.2.1)))))))] Z ⟨(tc_ g),(cb_ (Kk f (Ww g Z)))⟩<|M Z)<|H e [7] Z<|mV_ h (λu=>⟨[(2,.b u)],[]⟩) (λu h=>B h λw s h=>J e [6,.o (.C2 (.b w)),1] Z (OJ _ _ _ s)<|I h (λl h=>B h λx t h=>G e [.S 49 (.b true),5,.o (.C2 (.b x)),2] Z ⟨(tc_ l),(OJ _ _ _ t)⟩<|I h (λm h=>L e [.S 57 (.b true),5] Z m<|I h (λp h=>L e [.S 62 (.b true),5] Z p<|I h (λq h=>L e [.S 67 (.b true),4] Z q<|mq_ h Z) λq h=>L e [.S 67 (.b false),4] Z q<|mq_ h Z) λp h=>L e [.S 62 (.b false),9] Z p<|mq_ h Z) λm h=>L e [.S 57 (.b false),14] Z m<|mq_ h Z) λl h=>L e [.S 49 (.b false),22] Z l<|mq_ h Z) λu h=>H e [2] Z<|E h Z U
def UM (a:QT):O_ Bool:=(Wc a).bind λb=>some b
def QbO (a):CT 184 [.L 617] [(617,.var (Qk a))] (UM a) V.b (λ_=>[(617,.var (Qk a))]):=
 W 4 func184 Z λC f r h=>B h λg e h=>K f [7,.A (Qk a),.o (.C1 (.b g)),4] Z Z (QdN _ _ e)<|E h Z r1_
def Dv (b:QT)(v:Int)(f:Ql)(u:Int)(w:Int)(g:Int)(x:Int)(h:Int)(y:Int)(i:Int)(j:Int)(k:Int)(l:Int)(m:Int)(n:Int):O_ (Int×Int):=(Hv b).bind λo=>bif (!o)then some (v,h)else (Hx f u b).bind λp=>bif (!p)then some (w,h)else (AV g b).bind λq=>bif (!q)then some (x,h)else (UK f b h).bind λa=>bif (!a.1)then some (y,a.2)else (Hz f u).bind λr=>bif (!r)then some (i,a.2)else (HA b g).bind λs=>bif (!s)then some (j,a.2)else (DV f b g a.2).bind λd=>bif (!d.1)then some (k,d.2)else (DW f b g d.2).bind λe=>bif (!e.1)then some (l,e.2)else (DX f b e.2).bind λc=>bif (!c.1)then some (m,c.2)else (UM b).bind λt=>bif (!t)then some (n,c.2)else some (0,c.2)
def QaT (f v2 u S v5 P v7 v8 v9 w x y z D N):CT 90 [.own 617 10] [(617,.var [.clo (.func 169) [] [.L 618],.I v2,.clo (.func 170) [] [.L 619,.L 620,.L 621],.I v5,.clo (.func 172) [] [.L 622,.L 618],.I v7,.clo (.func 246) [] [.L 623,.L 624],.I v9,.clo (.func 176) [] [.L 619,.L 620],.I w,.clo (.func 177) [] [.L 618,.L 622],.I x,.clo (.func 246) [] [.L 626,.L 627],.I y,.clo (.func 246) [] [.L 628,.L 629],.I z,.clo (.func 246) [] [.L 630,.L 631],.I D,.clo (.func 184) [] [.L 618],.I N]),(618,.var (Qk f)),(619,.var (Qa u)),(620,.var (Qb S)),(621,.var [.clo (.func 168) [] [.L 618]]),(622,.var (Qb P)),(623,.var [.clo (.func 174) [] [.L 619,.L 618]]),(624,.var [.L 625]),(625,.var (Qb v8)),(626,.var [.clo (.func 179) [] [.L 619,.L 618,.L 622]]),(627,.var [.L 625]),(628,.var [.clo (.func 181) [] [.L 619,.L 618,.L 622]]),(629,.var [.L 625]),(630,.var [.clo (.func 182) [] [.L 619,.L 618]]),(631,.var [.L 625])] (Dv f v2 u S v5 P v7 v8 v9 w x y z D N) (λr=>(.I r.1)) (λr=>[(617,.var [.clo (.func 169) [] [.L 618],.I v2,.clo (.func 170) [] [.L 619,.L 620,.L 621],.I v5,.clo (.func 172) [] [.L 622,.L 618],.I v7,.clo (.func 246) [] [.L 623,.L 624],.I v9,.clo (.func 176) [] [.L 619,.L 620],.I w,.clo (.func 177) [] [.L 618,.L 622],.I x,.clo (.func 246) [] [.L 626,.L 627],.I y,.clo (.func 246) [] [.L 628,.L 629],.I z,.clo (.func 246) [] [.L 630,.L 631],.I D,.clo (.func 184) [] [.L 618],.I N]),(618,.var (Qk f)),(619,.var (Qa u)),(620,.var (Qb S)),(621,.var [.clo (.func 168) [] [.L 618]]),(622,.var (Qb P)),(623,.var [.clo (.func 174) [] [.L 619,.L 618]]),(624,.var [.L 625]),(625,.var (Qb r.2)),(626,.var [.clo (.func 179) [] [.L 619,.L 618,.L 622]]),(627,.var [.L 625]),(628,.var [.clo (.func 181) [] [.L 619,.L 618,.L 622]]),(629,.var [.L 625]),(630,.var [.clo (.func 182) [] [.L 619,.L 618]]),(631,.var [.L 625])]):=
 W 18 func90 Z λC a r h=>H a [14] Z<|AK.loopN 11<|AK.rnd<|B h λb4 a0 h=>g4_ a [2,.v .no [] (.b true),10,.o (.any (.L 617) none),3,.O 4 (.var [.clo (.func 169) [] [.L 618],.I v2]),6,.cm (.clo) [(617,618)] [(618,617)] [] [.d] [(617,.var (Qk f))] (.b b4),3] Z Z (λσ c e _=>Qe.idxV Z Z (QG a.n Z) (c _ _ Z) (c _ _ Z) (Qd.es Z) (e _ _ Z) (by decide)) Z (QcL _ _ a0)<|I h (λg h=>J a [.T,13] Z g<|E h Z rF_) λg h=>K a [.F,4,.v .no [] (.I 1),2] Z g Z<|AK.met<|AK.rnd<|B h λb5 a1 h=>g4_ a [2,.v .no [] (.b true),10,.o (.any (.loc 617 0 2) none),1,.kill 4,2,.O 4 (.var [.clo (.func 170) [] [.L 619,.L 620,.L 621],.I v5]),6,.cm (.clo) [(617,619),(618,620),(619,621),(620,618)] [(619,617),(620,618),(621,619),(618,620)] [] [.d,.d,.d] [(617,.var (Qa u)),(618,.var (Qb S)),(619,.var [.clo (.func 168) [] [.L 620]]),(620,.var (Qk f))] (.b b5),3] Z Z (λσ c e _=>Qe.idxV Z Z (QG a.n Z) (c _ _ Z) (c _ _ Z) (Qd.es Z) (e _ _ Z) (by decide)) Z (QcN _ _ _ _ a1)<|I h (λi h=>J a [.T,13] Z i<|E h Z rF_) λi h=>K a [.F,4,.v .no [] (.I 2),2] Z i Z<|AK.met<|AK.rnd<|B h λb6 a2 h=>g4_ a [2,.v .no [] (.b true),10,.o (.any (.loc 617 0 4) none),1,.kill 4,2,.O 4 (.var [.clo (.func 172) [] [.L 622,.L 618],.I v7]),6,.cm (.clo) [(617,622),(618,618)] [(622,617),(618,618)] [] [.d,.d] [(617,.var (Qb P)),(618,.var (Qk f))] (.b b6),3] Z Z (λσ c e _=>Qe.idxV Z Z (QG a.n Z) (c _ _ Z) (c _ _ Z) (Qd.es Z) (e _ _ Z) (by decide)) Z (QcO _ _ _ a2)<|I h (λj h=>J a [.T,13] Z j<|E h Z rF_) λj h=>K a [.F,4,.v .no [] (.I 3),2] Z j Z<|AK.met<|AK.rnd<|B h λa3 a4 h=>g4_ a [2,.v .no [] (.b true),10,.o (.any (.loc 617 0 6) none),1,.kill 4,2,.O 4 (.var [.clo (.func 246) [] [.L 623,.L 624],.I v9]),6,.cm (.clo) [(617,623),(618,619),(619,618),(620,624),(621,625)] [(623,617),(619,618),(618,619),(624,620),(625,621)] [] [.d,.d] [(617,.var [.clo (.func 174) [] [.L 618,.L 619]]),(618,.var (Qa u)),(619,.var (Qk f)),(620,.var [.L 621]),(621,.var (Qb a3.2))] (.b a3.1),3] Z Z (λσ c e _=>Qe.idxV Z Z (QG a.n Z) (c _ _ Z) (c _ _ Z) (Qd.es Z) (e _ _ Z) (by decide)) Z (QbL _ _ _ _ a4)<|I h (λk h=>J a [.T,13] Z k<|E h Z rF_) λk h=>K a [.F,4,.v .no [] (.I 4),2] Z k Z<|AK.met<|AK.rnd<|B h λb7 a5 h=>g4_ a [2,.v .no [] (.b true),10,.o (.any (.loc 617 0 8) none),1,.kill 4,2,.O 4 (.var [.clo (.func 176) [] [.L 619,.L 620],.I w]),6,.cm (.clo) [(617,619),(618,620)] [(619,617),(620,618)] [] [.d,.d] [(617,.var (Qa u)),(618,.var (Qb S))] (.b b7),3] Z Z (λσ c e _=>Qe.idxV Z Z (QG a.n Z) (c _ _ Z) (c _ _ Z) (Qd.es Z) (e _ _ Z) (by decide)) Z (QcQ _ _ _ a5)<|I h (λl h=>J a [.T,13] Z l<|E h Z rF_) λl h=>K a [.F,4,.v .no [] (.I 5),2] Z l Z<|AK.met<|AK.rnd<|B h λb8 a6 h=>g4_ a [2,.v .no [] (.b true),10,.o (.any (.loc 617 0 10) none),1,.kill 4,2,.O 4 (.var [.clo (.func 177) [] [.L 618,.L 622],.I x]),6,.cm (.clo) [(617,618),(618,622)] [(618,617),(622,618)] [] [.d,.d] [(617,.var (Qk f)),(618,.var (Qb P))] (.b b8),3] Z Z (λσ c e _=>Qe.idxV Z Z (QG a.n Z) (c _ _ Z) (c _ _ Z) (Qd.es Z) (e _ _ Z) (by decide)) Z (QcR _ _ _ a6)<|I h (λm h=>J a [.T,13] Z m<|E h Z rF_) λm h=>K a [.F,4,.v .no [] (.I 6),2] Z m Z<|AK.met<|AK.rnd<|B h λa7 a8 h=>g4_ a [2,.v .no [] (.b true),10,.o (.any (.loc 617 0 12) none),1,.kill 4,2,.O 4 (.var [.clo (.func 246) [] [.L 626,.L 627],.I y]),6,.cm (.clo) [(617,626),(618,619),(619,618),(620,622),(621,627),(622,625)] [(626,617),(619,618),(618,619),(622,620),(627,621),(625,622)] [] [.d,.d] [(617,.var [.clo (.func 179) [] [.L 618,.L 619,.L 620]]),(618,.var (Qa u)),(619,.var (Qk f)),(620,.var (Qb P)),(621,.var [.L 622]),(622,.var (Qb a7.2))] (.b a7.1),3] Z Z (λσ c e _=>Qe.idxV Z Z (QG a.n Z) (c _ _ Z) (c _ _ Z) (Qd.es Z) (e _ _ Z) (by decide)) Z (VY _ _ _ _ _ a8)<|I h (λp h=>J a [.T,13] Z p<|E h Z rF_) λp h=>K a [.F,4,.v .no [] (.I 7),2] Z p Z<|AK.met<|AK.rnd<|B h λa9 b0 h=>g4_ a [2,.v .no [] (.b true),10,.o (.any (.loc 617 0 14) none),1,.kill 4,2,.O 4 (.var [.clo (.func 246) [] [.L 628,.L 629],.I z]),6,.cm (.clo) [(617,628),(618,619),(619,618),(620,622),(621,629),(622,625)] [(628,617),(619,618),(618,619),(622,620),(629,621),(625,622)] [] [.d,.d] [(617,.var [.clo (.func 181) [] [.L 618,.L 619,.L 620]]),(618,.var (Qa u)),(619,.var (Qk f)),(620,.var (Qb P)),(621,.var [.L 622]),(622,.var (Qb a9.2))] (.b a9.1),3] Z Z (λσ c e _=>Qe.idxV Z Z (QG a.n Z) (c _ _ Z) (c _ _ Z) (Qd.es Z) (e _ _ Z) (by decide)) Z (VZ _ _ _ _ _ b0)<|I h (λq h=>J a [.T,13] Z q<|E h Z rF_) λq h=>K a [.F,4,.v .no [] (.I 8),2] Z q Z<|AK.met<|AK.rnd<|B h λb1 b2 h=>g4_ a [2,.v .no [] (.b true),10,.o (.any (.loc 617 0 16) none),1,.kill 4,2,.O 4 (.var [.clo (.func 246) [] [.L 630,.L 631],.I D]),6,.cm (.clo) [(617,630),(618,619),(619,618),(620,631),(621,625)] [(630,617),(619,618),(618,619),(631,620),(625,621)] [] [.d,.d] [(617,.var [.clo (.func 182) [] [.L 618,.L 619]]),(618,.var (Qa u)),(619,.var (Qk f)),(620,.var [.L 621]),(621,.var (Qb b1.2))] (.b b1.1),3] Z Z (λσ c e _=>Qe.idxV Z Z (QG a.n Z) (c _ _ Z) (c _ _ Z) (Qd.es Z) (e _ _ Z) (by decide)) Z (Za _ _ _ _ b2)<|I h (λs h=>J a [.T,13] Z s<|E h Z rF_) λs h=>K a [.F,4,.v .no [] (.I 9),2] Z s Z<|AK.met<|AK.rnd<|B h λb9 b3 h=>g4_ a [2,.v .no [] (.b true),10,.o (.any (.loc 617 0 18) none),1,.kill 4,2,.O 4 (.var [.clo (.func 184) [] [.L 618],.I N]),6,.cm (.clo) [(617,618)] [(618,617)] [] [.d] [(617,.var (Qk f))] (.b b9),3] Z Z (λσ c e _=>Qe.idxV Z Z (QG a.n Z) (c _ _ Z) (c _ _ Z) (Qd.es Z) (e _ _ Z) (by decide)) Z (QbO _ _ b3)<|I h (λt h=>J a [.T,13] Z t<|E h Z rF_) λt h=>K a [.F,4,.v .no [] (.I 10),2] Z t Z<|AK.met<|AK.rnd<|J a [2,.v .no [] (.b false),15] Z Z<|E h Z rF_
def JT (a:Ql)(e:Int):O_ Int:=(KX a.Tasks e).bind λg=>bif (!g)then some 3 else (UJ a).bind λf=>bif (f.2 != 0)then some f.2 else (idx a.Tasks e).bind λd=>(idx a.Tasks e).bind λb=>(IY 0 a d).bind λh=>(Bq 0 a d (b.Vars.length:Int)).bind λi=>(Br 0 a d (b.Vars.length:Int)).bind λj=>(Bs 0 a d).bind λk=>(Dv d 1 a e 5 (b.Vars.length:Int) 2 0 (-1) 2 1 (-1) (-1) (-1) 11).bind λc=>bif (c.1==(-1))then some c.2 else some c.1
def Qe3 (i z):CT 101 [.agg (Qa i),.I z] [] (JT i z) V.I no_:=
 W 68 func101 Z λC g r h=>B h λx5 D h=>J g [13,.o (.C2 (.b x5)),3] Z (CU _ _ _ D)<|I h (λk h=>J g [.T,7] Z k<|E h Z U) λk h=>B h λx7 P h=>g3_ g [.F,5,.A (Qa i),.o (.C1 (.tup [.I x7.1,.I x7.2])),13] Z k Z (OI _ _ P)<|I h (λl h=>J g [.T,8] Z l<|E h Z U) λl h=>B h λj S h=>B h λe p h=>G g [.F,3] Z (A l) <| 
  dr_ g [.N,.N,.N,.B (.row (Qk j)),.E (.agg (Qk j)),.a .no none true,.a .no none true,.a .no none true,.a (.row (Qk e)) none true,.a .no none true,.a .no none true,.a (.ln e.Vars.length) none true,.N,.N,.m .s,.m .s] [2,3] [2,3] [2,3,7,8] [2,3,7,8] Z Z (a4_ (Xb S) Z (Xb p) Qc) Z <|
  B h λa0 q h=>B h λa1 t h=>B h λa2 u h=>B h λa3 w h=>B h λx y h=>G g [.O 7 (.var (Qk j)),.O 8 (.var (Qb (e.Vars.length:Int))),6,.O 9 (.var [.clo (.func 168) [] [.L 7]]),10,.A [.clo (.func 169) [] [.L 7],.I 1],1,.A [.clo (.func 170) [] [.L 2,.L 3,.L 9],.I 5],1,.A [.clo (.func 172) [] [.L 8,.L 7],.I 2],1,.cm (.fn) [(617,10),(618,2),(619,7)] [(45,2),(609,3),(10,617),(2,618),(7,619)] [] [.d,.d] [(2,.var [.L 617]),(3,.var [.clo (.func 174) [] [.L 618,.L 619]]),(617,.var (Qb 0)),(618,.var (Qa i)),(619,.var (Qk j))] (.clo (.func 246) [] [.L 3,.L 2]),.A [.clo (.func 246) [] [.L 609,.L 45],.I (-1)],1,.A [.clo (.func 176) [] [.L 2,.L 3],.I 2],1,.A [.clo (.func 177) [] [.L 7,.L 8],.I 1],1,.cm (.fn) [(617,10),(618,2),(619,7),(620,8)] [(52,2),(610,3),(10,617),(2,618),(7,619),(8,620)] [] [.d,.d] [(2,.var [.L 617]),(3,.var [.clo (.func 179) [] [.L 618,.L 619,.L 620]]),(617,.var (Qb 0)),(618,.var (Qa i)),(619,.var (Qk j)),(620,.var (Qb (e.Vars.length:Int)))] (.clo (.func 246) [] [.L 3,.L 2]),.A [.clo (.func 246) [] [.L 610,.L 52],.I (-1)],1,.cm (.fn) [(617,10),(618,2),(619,7),(620,8)] [(55,2),(611,3),(10,617),(2,618),(7,619),(8,620)] [] [.d,.d] [(2,.var [.L 617]),(3,.var [.clo (.func 181) [] [.L 618,.L 619,.L 620]]),(617,.var (Qb 0)),(618,.var (Qa i)),(619,.var (Qk j)),(620,.var (Qb (e.Vars.length:Int)))] (.clo (.func 246) [] [.L 3,.L 2]),.A [.clo (.func 246) [] [.L 611,.L 55],.I (-1)],1,.cm (.fn) [(617,10),(618,2),(619,7)] [(58,2),(612,3),(10,617),(2,618),(7,619)] [] [.d,.d] [(2,.var [.L 617]),(3,.var [.clo (.func 182) [] [.L 618,.L 619]]),(617,.var (Qb 0)),(618,.var (Qa i)),(619,.var (Qk j))] (.clo (.func 246) [] [.L 3,.L 2]),.A [.clo (.func 246) [] [.L 612,.L 58],.I (-1)],1,.A [.clo (.func 184) [] [.L 7],.I 11],.o (.any (.own 62 10) (some (.var [.clo (.func 169) [] [.L 7],.I 1,.clo (.func 170) [] [.L 2,.L 3,.L 9],.I 5,.clo (.func 172) [] [.L 8,.L 7],.I 2,.clo (.func 246) [] [.L 609,.L 45],.I (-1),.clo (.func 176) [] [.L 2,.L 3],.I 2,.clo (.func 177) [] [.L 7,.L 8],.I 1,.clo (.func 246) [] [.L 610,.L 52],.I (-1),.clo (.func 246) [] [.L 611,.L 55],.I (-1),.clo (.func 246) [] [.L 612,.L 58],.I (-1),.clo (.func 184) [] [.L 7],.I 11]))),.cm (.fn) [(617,62),(618,7),(619,2),(620,3),(621,9),(622,8),(623,609),(624,45),(625,10),(626,610),(627,52),(628,611),(629,55),(630,612),(631,58)] [(62,617),(7,618),(2,619),(3,620),(9,621),(8,622),(609,623),(45,624),(10,625),(610,626),(52,627),(611,628),(55,629),(612,630),(58,631)] [] [.d] [(617,.var [.clo (.func 169) [] [.L 618],.I 1,.clo (.func 170) [] [.L 619,.L 620,.L 621],.I 5,.clo (.func 172) [] [.L 622,.L 618],.I 2,.clo (.func 246) [] [.L 623,.L 624],.I (-1),.clo (.func 176) [] [.L 619,.L 620],.I 2,.clo (.func 177) [] [.L 618,.L 622],.I 1,.clo (.func 246) [] [.L 626,.L 627],.I (-1),.clo (.func 246) [] [.L 628,.L 629],.I (-1),.clo (.func 246) [] [.L 630,.L 631],.I (-1),.clo (.func 184) [] [.L 618],.I 11]),(618,.var (Qk j)),(619,.var (Qa i)),(620,.var (Qb z)),(621,.var [.clo (.func 168) [] [.L 618]]),(622,.var (Qb (e.Vars.length:Int))),(623,.var [.clo (.func 174) [] [.L 619,.L 618]]),(624,.var [.L 625]),(625,.var (Qb x.2)),(626,.var [.clo (.func 179) [] [.L 619,.L 618,.L 622]]),(627,.var [.L 625]),(628,.var [.clo (.func 181) [] [.L 619,.L 618,.L 622]]),(629,.var [.L 625]),(630,.var [.clo (.func 182) [] [.L 619,.L 618]]),(631,.var [.L 625])] (.I x.1),10] Z ⟨⟨⟨⟨⟨⟨⟨⟨⟨⟨⟨⟨⟨⟨⟨⟨⟨⟨⟨U,Z⟩,Z⟩,Z⟩,Z⟩,Z⟩,Z⟩,(QdM _ _ _ _ q)⟩,Z⟩,Z⟩,Z⟩,(QaK _ _ _ _ _ t)⟩,Z⟩,(QaL _ _ _ _ _ u)⟩,Z⟩,(QaM _ _ _ _ w)⟩,Z⟩,Z⟩,(λσ h1 h2 hf=>Qe.buildAny Z Z (QG g.n Z) (Qd.es Z) OD Z (by decide) (by decide) (Es h1 Z) Z Z (hf Z))⟩,(QaT _ _ _ _ _ _ _ _ _ _ _ _ _ _ _ _ y)⟩<|I h (λf h=>J g [.T,8] Z f<|E h Z U) λf h=>J g [.F,9] Z f<|E h Z U
def BW (a:Int)(d:QT)(b:Ql):O_ Int:=(JT b a).bind λc=>some c
def QdO (e f a):CT 100 [.I e,.agg (Qk f),.L 617] [(617,.var (Qa a))] (BW e f a) V.I (λ_=>[(617,.var (Qa a))]):=
 W 9 func100 Z λC g r h=>B h λi b h=>K g [8,.A (Qa a),1,.o (.C2 (.I i)),4] Z Z (Qe3 _ _ _ b)<|E h Z r1_
def Ku (d:(L_ QT))(e:Ql)(a:Int):O_ (Int⊕((Int×Int)⊕Unit)):=bif (a<(d.length:Int))then (idx d a).bind λc=>(BW a c e).bind λb=>bif (b != 0)then some (.inr (.inl (a,b)))else some (.inl (Qs (a+1)))else some (.inr (.inr ()))
def EG (b:Int)(a:Int):O_ (Int×Int):=some (b,a)
def EH : O_ (Int×Int):=some (0,0)
def Kh (a:(L_ QT))(b:Ql):O_ (Int×Int):=(QO (λst=>Ku a b st) 0).bind (Sum.elim (λq=>EG q.1 q.2) (λq=>EH))
def Sb (g f):CT 99 [.sl 14 (g.map Qk),.clo (.func 100) [] [.L 617]] [(617,.var (Qa f))] (Kh g f) (λr=>(.tup [.I r.1,.I r.2])) (λ_=>[(617,.var (Qa f))]):=
 W 25 func99 Z λC e r h=>J e [10,.o (.ln g.length),4] Z Qc<|lq_ h (λst=>⟨[(1,.clo (.func 100) [] [.L 617]),(9,.sl 14 (g.map Qk)),(10,.I (g.length:Int)),(11,.I st)],[(617,.var (Qa f))]⟩) (λq=>(.ret,⟨[(4,.I q.1),(5,.I q.2)],[(617,.var (Qa f))]⟩)) (λq=>(.exit 0,⟨[],[(617,.var (Qa f))]⟩)) Z (λm o h=>H e [6] Z<|I h (λa h=>B h λc i h=>B h λk j h=>G e [.T,7,.o (.row (Qk c)),.A (Qk c),3,.O 7 (.var (Qk c)),6,.A (Qk c),.cm (.clo) [(617,617)] [(617,617)] [] [.d,.d,.d] [(617,.var (Qa f))] (.I k),9] Z (a6_ a (Xb i) Z Z Z (QdO _ _ _ _ j))<|I h (λb h=>J e [.T,11] Z b<|rR_ h Z) λb h=>J e [.F,7] Z b<|rN_ h Z) λa h=>J e [.F,2] Z a<|rX_ h Z) (λ⟨p,l⟩ h=>H e [2] Z<|F h Z Z r1_) (λ_ h=>H e [9] Z<|F h Z Z r1_)
def Ej (c:Ql):O_ (Int×Gb):=(IV c 2 3 1).bind λe=>bif (e != 0)then some (e,(Gb.mk 1 0))else (UJ c).bind λd=>bif (d.2 != 0)then some (d.2,(Gb.mk 2 d.1))else (DI c.Places c).bind λa=>bif (a.2 != 0)then some (a.2,(Gb.mk 3 a.1))else (Kh c.Tasks c).bind λb=>bif (b.2 != 0)then some (b.2,(Gb.mk 4 b.1))else some (0,(Gb.mk 0 0))
def Qgk (k):CT 56 [.agg (Qa k)] [] (Ej k) (λr=>(.tup [.agg (Wl r.2),.I r.1])) no_:=by
 refine W 58 func56 rfl λC e r h=>?_
 obtain⟨t,q,h⟩:=Qm h
 refine Qf e [10,.A [.clo (.func 91) [] [.L 1],.I 2],1,.A [.clo (.func 92) [] [.L 1],.I 3],1,.A [.clo (.func 94) [] [.L 1],.I 1],.o (.any (.own 17 3) (some (.var [.clo (.func 91) [] [.L 1],.I 2,.clo (.func 92) [] [.L 1],.I 3,.clo (.func 94) [] [.L 1],.I 1]))),.cm (.fn) [(617,17),(618,1)] [(17,617),(1,618)] [] [.d] [(617,.var [.clo (.func 91) [] [.L 618],.I 2,.clo (.func 92) [] [.L 618],.I 3,.clo (.func 94) [] [.L 618],.I 1]),(618,.var (Qa k))] (.I t),10] Z (a5_ Z Z Z (λσ u w y=>Qe.buildAny Z Z (QG e.n Z) (Qd.es Z) OD Z (by decide) (by decide) (Es u Z) Z Z (y Z)) (QdI _ _ _ _ _ q)) ?_
 rcases Xq h with⟨i,h⟩|⟨i,h⟩
 ·refine Qf e [.T,2,.A (Wl (Gb.mk 1 0)),2,.O 2 (.var (Wl (Gb.mk 1 0))),5,.K [2,3] [2]] Z (a3_ i Z Z) ?_
  cases h
  exact AK.done (ex_ [_,_] (an_ (an_ (ex_ _ (ex_ _ (an_ Z (an_ Z (Or.inl (an_ (Qd.ag Z) (an_ (Qd.sz Z) Z))))))) (an_ Z U)) (gives U)))
 obtain⟨p,s,h⟩:=Qm h
 refine Qf e [.F,5,.A (Qa k),.o (.C1 (.tup [.I p.1,.I p.2])),13] Z (a3_ i Z (OI _ _ s)) ?_
 rcases Xq h with⟨j,h⟩|⟨j,h⟩
 ·refine Qf e [.T,3,.A (Wl (Gb.mk 2 p.1)),2,.O 2 (.var (Wl (Gb.mk 2 p.1))),5,.K [2,3] [2]] Z (a3_ j Z Z) ?_
  cases h
  exact AK.done (ex_ [_,_] (an_ (an_ (ex_ _ (ex_ _ (an_ Z (an_ Z (Or.inl (an_ (Qd.ag Z) (an_ (Qd.sz Z) Z))))))) (an_ Z U)) (gives U)))
 obtain⟨f,l,h⟩:=Qm h
 refine Qf e [.F,8,.cm (.fn) [(617,1)] [(1,617)] [] [.d,.d] [(617,.var (Qa k))] (.tup [.I f.1,.I f.2]),13] Z (a2_ j (PS _ _ _ l)) ?_
 rcases Xq h with⟨a,h⟩|⟨a,h⟩
 ·refine Qf e [.T,3,.A (Wl (Gb.mk 3 f.1)),2,.O 2 (.var (Wl (Gb.mk 3 f.1))),5,.K [2,3] [2]] Z (a3_ a Z Z) ?_
  cases h
  exact AK.done (ex_ [_,_] (an_ (an_ (ex_ _ (ex_ _ (an_ Z (an_ Z (Or.inl (an_ (Qd.ag Z) (an_ (Qd.sz Z) Z))))))) (an_ Z U)) (gives U)))
 obtain⟨g,m,h⟩:=Qm h
 refine Qf e [.F,8,.cm (.fn) [(617,1)] [(1,617)] [] [.d,.d] [(617,.var (Qa k))] (.tup [.I g.1,.I g.2]),13] Z (a2_ a (Sb _ _ _ m)) ?_
 refine bg_ h (λb h=>Qf e [.T,3,.A (Wl (Gb.mk 4 g.1)),2,.O 2 (.var (Wl (Gb.mk 4 g.1))),5,.K [2,3] [2]] rfl (a3_ b rfl rfl) ?_) λb h=>Qf e [.F,4,.A (Wl (Gb.mk 0 0)),1,.O 2 (.var (Wl (Gb.mk 0 0))),4,.K [2,3] [2]] rfl (a3_ b rfl rfl) ?_
 ·cases h
  exact AK.done (ex_ [_,_] (an_ (an_ (ex_ _ (ex_ _ (an_ Z (an_ Z (Or.inl (an_ (Qd.ag Z) (an_ (Qd.sz Z) Z))))))) (an_ Z U)) (gives U)))
 cases h
 exact AK.done (ex_ [_,_] (an_ (an_ (ex_ _ (ex_ _ (an_ Z (an_ Z (Or.inl (an_ (Qd.ag Z) (an_ (Qd.sz Z) Z))))))) (an_ Z U)) (gives U)))
def MV (a:(Int×Gb))(c:Ql)(d:QMk):O_ Bool:=bif (a.1 != 0)then some true else (Ex c d).bind λb=>some (!b)
def MW (d:Ql)(a:Int)(b:Int):O_ ((Int×Int)⊕Int):=bif (b<(d.Tasks.length:Int))then (idx d.Tasks b).bind λc=>(BV d b).bind λe=>some (.inl ((Qs (a+(Qs (e*(Qs (1+(Qs ((c.Ins.length:Int)*(c.Outs.length:Int))))))))),(Qs (b+1))))else some (.inr a)
def Qe4 (a:Int):O_ Bool:=some (decide (a<=600))
def MX (b:Ql)(a:Bool):O_ Bool:=bif a then some false else (QO (λst=>MW b st.1 st.2) (0,0)).bind (λq=>Qe4 q)
def AW (a:Ql)(d:QMk):O_ Bool:=
 (Ov a).bind λe=>
 (Ow d).bind λf=>
 bif ((!e)||((!f)||(12<(a.Tasks.length:Int))))then
 some false
 else
 (Ej a).bind λb=>
 (MV b a d).bind (λc=>MX a c)
def Qe5 (f m2):CT 29 [.agg (Qa f),.sl 1 (m2.map Qj)] [] (AW f m2) V.b no_:=
 W 69 func29 Z λC e r h=>B h λx a3 h=>B h λy a4 h=>g3_ e [8,.A (Qa f),.o (.C1 (.b x)),6,.o (.C1 (.b y)),5] Z Z (Qgh _ _ a3) (Qgj _ _ a4)<|Y ⟨[(1,.sl 1 (m2.map Qj)),lk_ 2,(27,.b ((!x)||((!y)||(12<(f.Tasks.length:Int)))))],[(2,.var (Qa f))]⟩ (H e [4] Z<|bO_ (!x) (λg=>G e [.S 18 (.b true),10,.S 27 (.b ((!x)||((!y)||(12<(f.Tasks.length:Int)))))] Z ⟨(tc_ g),(cb_ (GZ g Z))⟩<|M Z) λg=>L e [.S 18 (.b false),4] Z g<|bO_ (!y) (λi=>G e [.S 22 (.b true),6,.S 27 (.b ((!x)||((!y)||(12<(f.Tasks.length:Int)))))] Z ⟨(tc_ i),(cb_ (Kk g (GZ i Z)))⟩<|M Z) λi=>G e [.S 22 (.b false),2,.o (.ln f.Tasks.length),3,.S 27 (.b ((!x)||((!y)||(12<(f.Tasks.length:Int)))))] Z ⟨⟨(tc_ i),Qc⟩,(cb_ (Kk g (Kk i Z)))⟩<|M Z)<|H e [1] Z<|I h (λj h=>J e [.T,7] Z j<|E h Z U) λj h=>B h λu z h=>g4_ e [.F,4,.A (Qa f),.o (.C1 (.tup [.agg (Wl u.2),.I u.1])),5,.O 7 (.var (Wl u.2)),5] Z j Z (Qgk _ _ z) Z<|mV_ h (λw=>⟨[lk_ 2,(40,.b w)],[(2,.var (Qa f))]⟩) (λw h=>H e [4] Z<|I h (λk h=>L e [.S 35 (.b true),6] Z k<|mq_ h Z) λk h=>B h λa5 D h=>G e [.S 35 (.b false),.A (Qa f),1,.o (.C2 (.b a5)),3] Z ⟨⟨(tc_ k),Z⟩,(Tb _ _ _ D)⟩<|mq_ h Z) λw h=>H e [1] Z<|I h (λl h=>J e [.T,7] Z l<|E h Z U) λl h=>J e [.F,14] Z l<|lp_ h (λst=>⟨[lk_ 2,(9,.I st.1),(10,.I st.2)],[(2,.var (Qa f))]⟩) (λq=>(.exit 0,⟨[(9,.I q)],[]⟩)) Z (λ⟨a1,a7⟩ o h=>J e [6,.o (.ln f.Tasks.length),3] Z Qc<|I h (λp h=>B h λt P h=>B h λa6 a0 h=>G e [.T,9,.o (.row (Qk t)),.A (Qk t),2,.O 11 (.var (Qk t)),2] Z (a4_ p (Xb P) Z Z) <| 
  dr_ e [.N,.E (.agg (Qa f)),.N,.B (.C2 (.I a6)),.N,.N,.B (.ln t.Ins.length),.N,.N,.B (.ln t.Outs.length),.N,.N,.N,.N,.m .s] [] [] [2,9,10] [2] Z Z (a4_ Z (Sa _ _ _ a0) Qc Qc) Z <|
  H e [7] Z<|rN_ h Z) λp h=>J e [.F,2] Z p<|rX_ h Z) λa2 h=>H e [10] Z<|E h Z U
def CX (c:QMk)(d:Int)(a:Int):O_ ((Int×Int)⊕Int):=bif (a<(c.length:Int))then (idx c a).bind λe=>(Cg e).bind λb=>some (.inl ((Qs (d+b)),(Qs (a+1))))else some (.inr d)
def Qe6 (a:Int):O_ Int:=some a
def MY (a:QMk):O_ Int:=(QO (λst=>CX a st.1 st.2) (0,0)).bind (λq=>Qe6 q)
def Qe7 (b):CT 30 [.sl 1 (b.map Qj)] [] (MY b) V.I no_:=
 W 18 func30 Z λC e r h=>J e [14,.o (.ln b.length),4] Z Qc<|lp_ h (λst=>⟨[(3,.I st.1),(6,.sl 1 (b.map Qj)),(7,.I (b.length:Int)),(8,.I st.2)],[]⟩) (λq=>(.exit 0,⟨[(3,.I q)],[]⟩)) Z (λ⟨k,l⟩ o h=>H e [6] Z<|I h (λa h=>B h λj g h=>B h λi f h=>g3_ e [.T,6,.o (.row (Qj j)),7,.o (.C1 (.I i)),9] Z a (Xb g) (NL _ _ f)<|rN_ h Z) λa h=>J e [.F,2] Z a<|rX_ h Z) λm h=>H e [9] Z<|E h Z U
def MZ (c:Ql)(a:Int):O_ (Int⊕(Unit⊕Unit)):=bif (a<(c.Tasks.length:Int))then (idx c.Tasks a).bind λb=>bif (b.Join==3)then some (.inr (.inl ()))else some (.inl (Qs (a+1)))else some (.inr (.inr ()))
def Qe8 : O_ Bool:=some false
def CY (b:QK):O_ Bool:=(MY b.M).bind λa=>some (decide (a<=1048576))
def Na (a:Ql)(b:QK):O_ Bool:=
 (Vq b.Items).bind λe=>
 bif ((!e)||((6<(b.Items.length:Int))||(12<(b.M.length:Int))))then
 some false
 else
 (Ew a).bind λc=>
 (AW a c).bind λd=>
 bif ((!d)||(6<(a.Tasks.length:Int)))then
 some false
 else
 (QO (λst=>MZ a st) 0).bind (Sum.elim (λq=>Qe8) (λq=>CY b))
def Qe9 (j f):CT 10 [.agg (Qa j),.agg (Qt f)] [] (Na j f) V.b no_:=
 W 55 func10 Z λC e r h=>B h λu D h=>J e [11,.o (.C1 (.b u)),5] Z (Qf9 _ _ D)<|Y ⟨[lk_ 2,lk_ 3,(24,.b ((!u)||((6<(f.Items.length:Int))||(12<(f.M.length:Int)))))],[(2,.var (Qa j)),(3,.var (Qt f))]⟩ (H e [4] Z<|bO_ (!u) (λi=>G e [.S 13 (.b true),12,.S 24 (.b ((!u)||((6<(f.Items.length:Int))||(12<(f.M.length:Int)))))] Z ⟨(tc_ i),(cb_ (GZ i Z))⟩<|M Z) λi=>G e [.S 13 (.b false),2,.o (.ln f.Items.length),3] Z ⟨(tc_ i),Qc⟩<|bO_ (decide (6<(f.Items.length:Int))) (λk=>G e [.S 19 (.b true),6,.S 24 (.b ((!u)||((6<(f.Items.length:Int))||(12<(f.M.length:Int)))))] Z ⟨(tc_ k),(cb_ (Kk i (GZ k Z)))⟩<|M Z) λk=>G e [.S 19 (.b false),2,.o (.ln f.M.length),3,.S 24 (.b ((!u)||((6<(f.Items.length:Int))||(12<(f.M.length:Int)))))] Z ⟨⟨(tc_ k),Qc⟩,(cb_ (Kk i (Kk k Z)))⟩<|M Z)<|H e [1] Z<|I h (λt h=>J e [.T,7] Z t<|E h Z U) λt h=>B h λv w h=>B h λl x h=>G e [.F,3] Z (A t) <| 
  dr_ e [.E (.agg (Qa j)),.E (.agg (Qa j)),.B (.cd false [.d] 1 (v.map Qj) v.length),.B (.C2 (.b l)),.N] [] [] [2,3,6] [2,3] Z Z (a4_ Z Z ⟨(SZ _ _ w),Qc⟩ (Qe5 _ _ _ x)) Z <|
  H e [3] Z<|Y ⟨[lk_ 2,lk_ 3,(36,.b ((!l)||(6<(j.Tasks.length:Int))))],[(2,.var (Qa j)),(3,.var (Qt f))]⟩ (H e [4] Z<|bO_ (!l) (λg=>G e [.S 31 (.b true),6,.S 36 (.b ((!l)||(6<(j.Tasks.length:Int))))] Z ⟨(tc_ g),(cb_ (GZ g Z))⟩<|M Z) λg=>G e [.S 31 (.b false),2,.o (.ln j.Tasks.length),3,.S 36 (.b ((!l)||(6<(j.Tasks.length:Int))))] Z ⟨⟨(tc_ g),Qc⟩,(cb_ (Kk g Z))⟩<|M Z)<|H e [1] Z<|I h (λm h=>J e [.T,7] Z m<|E h Z U) λm h=>J e [.F,9] Z m<|lq_ h (λst=>⟨[lk_ 2,lk_ 3,(7,.I st)],[(2,.var (Qa j)),(3,.var (Qt f))]⟩) (λq=>(.ret,⟨[(4,.b false)],[]⟩)) (λq=>(.exit 0,⟨[lk_ 3],[(3,.var (Qt f))]⟩)) Z (λa0 o h=>J e [6,.o (.ln j.Tasks.length),3] Z Qc<|I h (λp h=>B h λO y h=>K e [.T,9,.o (.row (Qk O)),5] Z p (Xb y)<|I h (λs h=>J e [.T,8] Z s<|rR_ h Z) λs h=>J e [.F,8] Z s<|rN_ h Z) λp h=>J e [.F,2] Z p<|rX_ h Z) (λ_ h=>H e [2] Z<|E h Z U) (λ_ h=>have h:CY f=some r:=h;B h λP z h=>J e [6,.o (.C1 (.I P)),5] Z (Qe7 _ _ z)<|E h Z U)
def Sc (a:(L_ Xy))(b:Int):O_ Bool:=(idx a b).bind λc=>bif (20<(c.Mode.Vars.length:Int))then some true else (idx a b).bind λd=>bif (20<(d.Mode.Ins.length:Int))then some true else (idx a b).bind λe=>some (decide (20<(e.Mode.Outs.length:Int)))
def Sd (a:Int)(b:Bool):O_ (Int⊕(Unit⊕Unit)):=bif b then some (.inr (.inl ()))else some (.inl (Qs (a+1)))
def LA (b:(L_ Xy))(a:Int):O_ (Int⊕(Unit⊕Unit)):=bif (a<(b.length:Int))then (Sc b a).bind (λc=>Sd a c)else some (.inr (.inr ()))
def QdP : O_ Bool:=some false
def QdQ : O_ Bool:=some true
def IZ (a:(L_ Xy)):O_ Bool:=bif (24<(a.length:Int))then some false else (QO (λst=>LA a st) 0).bind (Sum.elim (λq=>QdP) (λq=>QdQ))
def QdR (i):CT 11 [.sl 7 (i.map Xl)] [] (IZ i) V.b no_:=
 W 41 func11 Z λC a r h=>J a [9,.o (.ln i.length),3] Z Qc<|I h (λf h=>J a [.T,7] Z f<|E h Z U) λf h=>J a [.F,9] Z f<|lq_ h (λst=>⟨[(0,.sl 7 (i.map Xl)),(3,.I st)],[]⟩) (λq=>(.ret,⟨[(2,.b false)],[]⟩)) (λq=>(.exit 0,⟨[],[]⟩)) Z (λu o h=>J a [5,.o (.ln i.length),3] Z Qc<|I h (λg h=>J a [.T,5] Z g<|mV_ h (λt=>⟨[(0,.sl 7 (i.map Xl)),(3,.I u),(40,.b t)],[]⟩) (λt h=>B h λj k h=>K a [3,.o (.row (Xl j)),3,.o (.ln j.Mode.Vars.length),2] Z (Xb k) Qc<|I h (λc h=>L a [.S 21 (.b true),20] Z c<|mq_ h Z) λc h=>B h λl m h=>G a [.S 21 (.b false),2,.o (.row (Xl l)),3,.o (.ln l.Mode.Ins.length),3] Z ⟨⟨(tc_ c),(Xb m)⟩,Qc⟩<|I h (λd h=>L a [.S 31 (.b true),10] Z d<|mq_ h Z) λd h=>B h λp s h=>G a [.S 31 (.b false),2,.o (.row (Xl p)),3,.o (.ln p.Mode.Outs.length),3] Z ⟨⟨(tc_ d),(Xb s)⟩,Qc⟩<|mq_ h Z) λt h=>H a [1] Z<|I h (λe h=>J a [.T,8] Z e<|rR_ h Z) λe h=>J a [.F,8] Z e<|rN_ h Z) λg h=>J a [.F,2] Z g<|rX_ h Z) (λ_ h=>H a [2] Z<|E h Z U) (λ_ h=>H a [8] Z<|E h Z U)
def UN (c:QBg)(e:QBg)(b:Int):O_ (Int⊕(Unit⊕Unit)):=bif (b<(c.length:Int))then (idx c b).bind λd=>(idx e b).bind λa=>bif (!((d.1==a.1)&&(d.2==a.2)))then some (.inr (.inl ()))else some (.inl (Qs (b+1)))else some (.inr (.inr ()))
def TC : O_ Bool:=some false
def TD : O_ Bool:=some true
def Nb (a:QBg)(b:QBg):O_ Bool:=bif ((a.length:Int) != (b.length:Int))then some false else (QO (λst=>UN a b st) 0).bind (Sum.elim (λq=>TC) (λq=>TD))
def Qfa (i k):CT 68 [.sl 2 (i.map QM),.sl 2 (k.map QM)] [] (Nb i k) V.b no_:=
 W 26 func68 Z λC c r h=>K c [9,.o (.ln i.length),1,.o (.ln k.length),3] Z Qc Qc<|I h (λf h=>J c [.T,7] Z f<|E h Z U) λf h=>J c [.F,9] Z f<|lq_ h (λst=>⟨[(0,.sl 2 (i.map QM)),(1,.sl 2 (k.map QM)),(5,.I st)],[]⟩) (λq=>(.ret,⟨[(4,.b false)],[]⟩)) (λq=>(.exit 0,⟨[],[]⟩)) Z (λs o h=>J c [5,.o (.ln i.length),3] Z Qc<|I h (λg h=>B h λl m h=>B h λe j h=>G c [.T,5] Z (A g) <| 
  dr_ c [.N,.N,.B (.row (QM l)),.E (.agg (QM l)),.N,.N,.B (.row (QM e)),.E (.agg (QM e)),.B (.any (.b (!((l.1==e.1)&&(l.2==e.2)))) none)] [] [] [0,1,5,25] [] Z Z (a5_ (Xb m) Z (Xb j) Z (λσ p t _=>Qe.neAgg Z Z (QG c.n Z) (p _ _ Z) (p _ _ Z) Z Z (Qj4 _ _ _ _))) Z <|
  H c [1] Z<|I h (λd h=>J c [.T,8] Z d<|rR_ h Z) λd h=>J c [.F,8] Z d<|rN_ h Z) λg h=>J c [.F,2] Z g<|rX_ h Z) (λ_ h=>H c [2] Z<|E h Z U) (λ_ h=>H c [8] Z<|E h Z U)
def Dj (d:QMk)(e:QMk)(a:Int):O_ (Int⊕(Unit⊕Unit)):=bif (a<(d.length:Int))then (idx d a).bind λf=>(idx e a).bind λb=>(Nb f b).bind λc=>bif (!c)then some (.inr (.inl ()))else some (.inl (Qs (a+1)))else some (.inr (.inr ()))
def Nn : O_ Bool:=some false
def No : O_ Bool:=some true
def BB (a:QMk)(b:QMk):O_ Bool:=bif ((a.length:Int) != (b.length:Int))then some false else (QO (λst=>Dj a b st) 0).bind (Sum.elim (λq=>Nn) (λq=>No))
def QaU (j m):CT 33 [.sl 1 (j.map Qj),.sl 1 (m.map Qj)] [] (BB j m) V.b no_:=
 W 27 func33 Z λC e r h=>K e [9,.o (.ln j.length),1,.o (.ln m.length),3] Z Qc Qc<|I h (λg h=>J e [.T,7] Z g<|E h Z U) λg h=>J e [.F,9] Z g<|lq_ h (λst=>⟨[(0,.sl 1 (j.map Qj)),(1,.sl 1 (m.map Qj)),(5,.I st)],[]⟩) (λq=>(.ret,⟨[(4,.b false)],[]⟩)) (λq=>(.exit 0,⟨[],[]⟩)) Z (λv o h=>J e [5,.o (.ln j.length),3] Z Qc<|I h (λi h=>B h λu p h=>B h λs k h=>B h λt l h=>G e [.T,5] Z (A i) <| 
  dr_ e [.N,.N,.B (.row (Qj u)),.N,.N,.N,.B (.row (Qj s)),.N,.B (.C2 (.b t)),.N] [] [] [0,1,5,26] [] Z Z (a3_ (Xb p) (Xb k) (Qfa _ _ _ l)) Z <|
  H e [1] Z<|I h (λf h=>J e [.T,8] Z f<|rR_ h Z) λf h=>J e [.F,8] Z f<|rN_ h Z) λi h=>J e [.F,2] Z i<|rX_ h Z) (λ_ h=>H e [2] Z<|E h Z U) (λ_ h=>H e [8] Z<|E h Z U)
def TE (a:Qr)(b:Qr):O_ Bool:=bif (a.Task==b.Task)then (DT a.Vars b.Vars).bind λd=>bif d then (DT a.Ins b.Ins).bind λe=>bif e then (DT a.Outs b.Outs).bind λc=>some c else some false else some false else some false
def TF (a:Bool):O_ Bool:=some a
def Nc (a:Qr)(b:Qr):O_ Bool:=(TE a b).bind (λc=>TF c)
def Qfb (p q):CT 122 [.agg (Qn p),.agg (Qn q)] [] (Nc p q) V.b no_:=
 W 31 func122 Z λC e r h=>H e [8] Z<|mV_ h (λj=>⟨[(4,.b j)],[]⟩) (λj h=>H e [7] Z<|I h (λf h=>B h λs k h=>G e [.S 10 (.b true),4,.o (.C2 (.b s)),2] Z ⟨(tc_ f),(UG _ _ _ k)⟩<|I h (λg h=>B h λt l h=>G e [.S 17 (.b true),4,.o (.C2 (.b t)),2] Z ⟨(tc_ g),(UG _ _ _ l)⟩<|I h (λa h=>B h λm i h=>G e [.S 24 (.b true),4,.o (.C2 (.b m)),3] Z ⟨(tc_ a),(UG _ _ _ i)⟩<|mq_ h Z) λa h=>L e [.S 24 (.b false),8] Z a<|mq_ h Z) λg h=>L e [.S 17 (.b false),15] Z g<|mq_ h Z) λf h=>L e [.S 10 (.b false),22] Z f<|mq_ h Z) λj h=>H e [2] Z<|E h Z U
def Np (a:Qu)(b:Qu):O_ Bool:=bif (a.Id==b.Id)then bif ((a.Batch.Most==b.Batch.Most)&&((a.Batch.Enough==b.Batch.Enough)&&((a.Batch.Open==b.Batch.Open)&&((a.Batch.Done==b.Batch.Done)&&(a.Batch.Failed==b.Batch.Failed)))))then bif (a.Until==b.Until)then (Nc a.Mode b.Mode).bind λc=>some c else some false else some false else some false
def Nq (a:Bool):O_ Bool:=some a
def BC (a:Qu)(b:Qu):O_ Bool:=(Np a b).bind (λc=>Nq c)
def QaV (e f):CT 69 [.agg (Qi e),.agg (Qi f)] [] (BC e f) V.b no_:=
 W 31 func69 Z λC a r h=>H a [8] Z<|mV_ h (λk=>⟨[(4,.b k)],[]⟩) (λk h=>H a [7] Z<|I h (λg h=>G a [.S 10 (.b true),1,.A (QC e.Batch),1,.A (QC f.Batch),.o (.any (.b ((e.Batch.Most==f.Batch.Most)&&((e.Batch.Enough==f.Batch.Enough)&&((e.Batch.Open==f.Batch.Open)&&((e.Batch.Done==f.Batch.Done)&&(e.Batch.Failed==f.Batch.Failed)))))) none),2] Z ⟨⟨⟨(tc_ g),Z⟩,Z⟩,(λσ m q _=>Qe.eqAgg Z Z (QG a.n Z) (m _ _ Z) (m _ _ Z) Z Z (QnF _ _ _ _ _ _ _ _ _ _))⟩<|I h (λi h=>L a [.S 17 (.b true),7] Z i<|I h (λj h=>B h λp l h=>G a [.S 24 (.b true),1,.A (Qn e.Mode),1,.A (Qn f.Mode),.o (.C2 (.b p)),3] Z ⟨⟨⟨(tc_ j),Z⟩,Z⟩,(Qfb _ _ _ l)⟩<|mq_ h Z) λj h=>L a [.S 24 (.b false),8] Z j<|mq_ h Z) λi h=>L a [.S 17 (.b false),15] Z i<|mq_ h Z) λg h=>L a [.S 10 (.b false),22] Z g<|mq_ h Z) λk h=>H a [2] Z<|E h Z U
def EI (d:(L_ Qu))(e:(L_ Qu))(a:Int):O_ (Int⊕(Unit⊕Unit)):=bif (a<(d.length:Int))then (idx d a).bind λf=>(idx e a).bind λb=>(BC f b).bind λc=>bif (!c)then some (.inr (.inl ()))else some (.inl (Qs (a+1)))else some (.inr (.inr ()))
def Se : O_ Bool:=some false
def Sf : O_ Bool:=some true
def La (a:(L_ Qu))(b:(L_ Qu)):O_ Bool:=bif ((a.length:Int) != (b.length:Int))then some false else (QO (λst=>EI a b st) 0).bind (Sum.elim (λq=>Se) (λq=>Sf))
def QdS (j p):CT 34 [.sl 11 (j.map Qi),.sl 11 (p.map Qi)] [] (La j p) V.b no_:=
 W 29 func34 Z λC e r h=>K e [9,.o (.ln j.length),1,.o (.ln p.length),3] Z Qc Qc<|I h (λg h=>J e [.T,7] Z g<|E h Z U) λg h=>J e [.F,9] Z g<|lq_ h (λst=>⟨[(0,.sl 11 (j.map Qi)),(1,.sl 11 (p.map Qi)),(5,.I st)],[]⟩) (λq=>(.ret,⟨[(4,.b false)],[]⟩)) (λq=>(.exit 0,⟨[],[]⟩)) Z (λv o h=>J e [5,.o (.ln j.length),3] Z Qc<|I h (λi h=>B h λu s h=>B h λk l h=>B h λt m h=>G e [.T,5] Z (A i) <| 
  dr_ e [.N,.N,.B (.row (Qi u)),.E (.agg (Qi u)),.N,.N,.B (.row (Qi k)),.E (.agg (Qi k)),.B (.C2 (.b t)),.N] [] [] [0,1,5,6] [] Z Z (a5_ (Xb s) Z (Xb l) Z (QaV _ _ _ m)) Z <|
  H e [7] Z<|I h (λf h=>J e [.T,8] Z f<|rR_ h Z) λf h=>J e [.F,8] Z f<|rN_ h Z) λi h=>J e [.F,2] Z i<|rX_ h Z) (λ_ h=>H e [2] Z<|E h Z U) (λ_ h=>H e [8] Z<|E h Z U)
def TG (a:QK)(b:QK):O_ Bool:=bif (a.Next==b.Next)then bif (a.Now==b.Now)then (BB a.M b.M).bind λd=>bif d then (La a.Items b.Items).bind λc=>some c else some false else some false else some false
def TH (a:Bool):O_ Bool:=some a
def FI (a:QK)(b:QK):O_ Bool:=(TG a b).bind (λc=>TH c)
def Qfc (m p):CT 14 [.agg (Qt m),.agg (Qt p)] [] (FI m p) V.b no_:=
 W 31 func14 Z λC a r h=>H a [8] Z<|mV_ h (λj=>⟨[(4,.b j)],[]⟩) (λj h=>H a [7] Z<|I h (λe h=>L a [.S 10 (.b true),7] Z e<|I h (λf h=>B h λq k h=>G a [.S 17 (.b true),4,.o (.C2 (.b q)),2] Z ⟨(tc_ f),(QaU _ _ _ k)⟩<|I h (λg h=>B h λl i h=>G a [.S 24 (.b true),4,.o (.C2 (.b l)),3] Z ⟨(tc_ g),(QdS _ _ _ i)⟩<|mq_ h Z) λg h=>L a [.S 24 (.b false),8] Z g<|mq_ h Z) λf h=>L a [.S 17 (.b false),15] Z f<|mq_ h Z) λe h=>L a [.S 10 (.b false),22] Z e<|mq_ h Z) λj h=>H a [2] Z<|E h Z U
def UY (e:Ql)(a:(QK×QA))(b:QK):O_ Bool:=(Wq e a.1).bind λc=>bif (!c)then some true else bif (a.2.Err != 0)then (FI b a.1).bind λd=>bif (!d)then some true else bif (a.2.Id != 0)then some true else some (decide (0<(a.2.Closed.length:Int)))else some false
def IB (b:(QK×QA))(c:LI_)(a:(QK×QA))(d:Int):O_ Bool:=bif (b.2.Err != 12)then some true else (idx (c++a.2.Closed) d).bind λe=>(JO a.1.Items e).bind λf=>some (decide (0<=f))
def Vy (a:Int)(b:Bool):O_ (Int⊕(Unit⊕Unit)):=bif b then some (.inr (.inl ()))else some (.inl (Qs (a+1)))
def DJ (c:LI_)(a:(QK×QA))(g:Ql)(b:Int):O_ (Int⊕(Unit⊕Unit)):=bif (b<((c++a.2.Closed).length:Int))then (idx (c++a.2.Closed) b).bind λd=>(Cf g a.1 (Xy.mk 2 d (Qr.mk 0 ([]:LI_) ([]:LI_) ([]:LI_)) 0)).bind λe=>(IB e c a b).bind (λf=>Vy b f)else some (.inr (.inr ()))
def Vz : O_ ((Int×Int×QK×LI_)⊕(Unit⊕Unit)):=some (.inr (.inl ()))
def UZ (b:(QK×QA))(a:Int)(c:LI_)(d:QK)(e:Int):O_ ((Int×Int×QK×LI_)⊕(Unit⊕Unit)):=
 bif (((b.1.Items.length:Int) != (Qs (a-((c++b.2.Closed).length:Int))))||((b.1.Next != (Qs (a+1)))||(b.1.Now<d.Now)))then
 some (.inr (.inl ()))
 else
 some (.inl (a,(Qs (e+1)),b.1,(c++b.2.Closed)))
def JV (b:LI_)(c:(QK×QA))(f:Ql)(d:QK)(e:Int)(a:Int):O_ ((Int×Int×QK×LI_)⊕(Unit⊕Unit)):=(chk (b.length+c.2.Closed.length<=4294967296)).bind λ_=>(QO (λst=>DJ b c f st) 0).bind (Sum.elim (λq=>Vz) (λq=>UZ c a b d e))
def IC (a:(QK×QA))(d:(L_ Xy))(b:Int):O_ Bool:=bif (a.2.Err==0)then (idx d b).bind λc=>some (c.Do==1)else some false
def ID (b:(QK×QA))(a:Int):O_ Bool:=bif (b.2.Id != (Qs (a+1)))then some true else (JO b.1.Items b.2.Id).bind λc=>some (decide (c<0))
def HK (b:LI_)(c:(QK×QA))(g:Ql)(d:QK)(e:Int)(a:Int)(f:Bool):O_ ((Int×Int×QK×LI_)⊕(Unit⊕Unit)):=bif f then some (.inr (.inl ()))else JV b c g d e (Qs (a+1))
def Uh (b:(QK×QA))(a:Int)(c:LI_)(h:Ql)(d:QK)(e:Int)(f:Bool):O_ ((Int×Int×QK×LI_)⊕(Unit⊕Unit)):=bif f then (ID b a).bind (λg=>HK c b h d e a g)else JV c b h d e a
def HL (b:(QK×QA))(h:(L_ Xy))(c:Int)(a:Int)(d:LI_)(i:Ql)(e:QK)(f:Bool):O_ ((Int×Int×QK×LI_)⊕(Unit⊕Unit)):=bif f then some (.inr (.inl ()))else (IC b h c).bind (λg=>Uh b a d i e c g)
def Da (e:(L_ Xy))(f:Ql)(a:Int)(b:Int)(c:QK)(g:LI_):O_ ((Int×Int×QK×LI_)⊕(Unit⊕Unit)):=bif (b<(e.length:Int))then (idx e b).bind λh=>(Cf f c h).bind λd=>(UY f d c).bind (λi=>HL d e b a g f c i)else some (.inr (.inr ()))
def SE : O_ Bool:=some false
def SF (a:Bool):O_ Bool:=some a
def Dk (a:Ql)(b:(L_ Xy)):O_ Bool:=
 (OY).bind λc=>
 (Fq a).bind λd=>
 (Na a d).bind λe=>
 (IZ b).bind λf=>
 bif ((!e)||(!f))then
 some c
 else
 (QO (λst=>Da b a st.1 st.2.1 st.2.2.1 st.2.2.2) (0,0,d,([]:L_ Int))).bind (Sum.elim (λq=>SE) (λq=>SF c))
def VA (t x):CT 4 [.agg (Qa t),.sl 7 (x.map Xl)] [] (Dk t x) V.b no_:=
 W 157 func4 Z λC g r h=>B h λy d0 h=>B h λx6 d1 h=>B h λx7 d2 h=>B h λx8 d3 h=>G g [8,.o (.c false [] (.b y)),5,.A (Qa t),.o (.C1 (.agg (Qt x6))),2,.O 6 (.var (Qt x6)),4,.A (Qa t),.A (Qt x6),.o (.C2 (.b x7)),6,.o (.C1 (.b x8)),5] Z (a8_ (QdD _  d0) Z (Ta _ _ d1) Z Z Z (Qe9 _ _ _ d2) (QdR _ _ d3))<|Y ⟨[(1,.sl 7 (x.map Xl)),lk_ 2,(5,.b y),lk_ 6,(30,.b ((!x7)||(!x8)))],[(2,.var (Qa t)),(6,.var (Qt x6))]⟩ (H g [4] Z<|bO_ (!x7) (λu=>G g [.S 27 (.b true),4,.S 30 (.b ((!x7)||(!x8)))] Z ⟨(tc_ u),(cb_ (GZ u Z))⟩<|M Z) λu=>G g [.S 27 (.b false),4,.S 30 (.b ((!x7)||(!x8)))] Z ⟨(tc_ u),(cb_ (Kk u Z))⟩<|M Z)<|H g [1] Z<|I h (λz h=>J g [.T,8] Z z<|E h Z U) λz h=>g3_ g [.F,19,.adopt 9 99 1,.O 99 (.arr 1 (([]:L_ Int).map Qb)),.S 9 (.own 99 ([]:L_ Int).length)] Z z Z (congrArg (λn=>V.own 99 n) (by simp))<|lq_ h (λst=>⟨[(1,.sl 7 (x.map Xl)),lk_ 2,(5,.b y),lk_ 6,(9,.own 99 st.2.2.2.length),(10,.I st.1),(11,.I st.2.1)],[(2,.var (Qa t)),(6,.var (Qt st.2.2.1)),(99,.arr 1 (st.2.2.2.map Qb))]⟩) (λq=>(.ret,⟨[(4,.b false)],[]⟩)) (λq=>(.exit 0,⟨[(5,.b y)],[]⟩)) Z (λ⟨k,p,j,i⟩ o h=>J g [5,.o (.ln x.length),3] Z Qc<|I h (λD h=>B h λb9 c0 h=>B h λf c1 h=>G g [.T,5] Z (A D) <| 
  dr_ g [.E (.agg (Qa t)),.E (.agg (Qt j)),.N,.N,.B (.row (Xl b9)),.E (.agg (Xl b9)),.B (.C3 (.tup [.agg (Qt f.1),.agg (Qq f.2)])),.a .no none true true,.N,.a .no none true,.N,.N,.m .s,.m .s] [1,2,5,6,9,10,11] [2,6,99] [1,2,5,6,9,10,11,12,13] [2,6,12,13,99] Z Z (a5_ Z Z (Xb c0) Z (NJ _ _ _ _ c1)) Z <|
  K g [.O 12 (.var (Qt f.1)),.O 13 (.var (Qq f.2)),3] Z Z Z<|mV_ h (λb4=>⟨[(1,.sl 7 (x.map Xl)),lk_ 2,(5,.b y),lk_ 6,(9,.own 99 i.length),(10,.I k),(11,.I p),lk_ 12,lk_ 13,(73,.b b4)],[(2,.var (Qa t)),(6,.var (Qt j)),(12,.var (Qt f.1)),(13,.var (Qq f.2)),(99,.arr 1 (i.map Qb))]⟩) (λb4 h=>B h λd4 c2 h=>g3_ g [1,.A (Qa t),.A (Qt f.1),.o (.C2 (.b d4)),2] Z Z Z (Gx _ _ _ c2)<|I h (λP h=>L g [.S 52 (.b true),22] Z P<|mq_ h Z) λP h=>L g [.S 52 (.b false),4] Z P<|I h (λa0 h=>B h λd5 c3 h=>G g [.S 56 (.b true),.A (Qt j),.A (Qt f.1),.o (.C2 (.b d5)),2] Z ⟨⟨⟨(tc_ a0),Z⟩,Z⟩,(Qfc _ _ _ c3)⟩<|I h (λa1 h=>L g [.S 61 (.b true),13] Z a1<|mq_ h Z) λa1 h=>L g [.S 61 (.b false),5] Z a1<|I h (λa2 h=>L g [.S 66 (.b true),8] Z a2<|mq_ h Z) λa2 h=>G g [.S 66 (.b false),2,.o (.ln f.2.Closed.length),5] Z ⟨(tc_ a2),Qc⟩<|mq_ h Z) λa0 h=>L g [.S 56 (.b false),18] Z a0<|mq_ h Z) λb4 h=>H g [1] Z<|I h (λa3 h=>J g [.T,9] Z a3<|rR_ h Z) λa3 h=>J g [.F,2] Z a3<|mE_ (λe:Int=>⟨[(1,.sl 7 (x.map Xl)),lk_ 2,(5,.b y),lk_ 6,(9,.own 99 i.length),(10,.I e),(11,.I p),lk_ 12,lk_ 13],[(2,.var (Qa t)),(6,.var (Qt j)),(12,.var (Qt f.1)),(13,.var (Qq f.2)),(99,.arr 1 (i.map Qb))]⟩) (λe=>JV i f t j p e=some o) (H g [1] Z<|mV_ h (λb5=>⟨[(1,.sl 7 (x.map Xl)),lk_ 2,(5,.b y),lk_ 6,(9,.own 99 i.length),(10,.I k),(11,.I p),lk_ 12,lk_ 13,(84,.b b5)],[(2,.var (Qa t)),(6,.var (Qt j)),(12,.var (Qt f.1)),(13,.var (Qq f.2)),(99,.arr 1 (i.map Qb))]⟩) (λb5 h=>H g [5] Z<|I h (λa4 h=>B h λd6 c4 h=>G g [.S 77 (.b true),2,.o (.row (Xl d6)),5] Z ⟨(tc_ a4),(Xb c4)⟩<|mq_ h Z) λa4 h=>L g [.S 77 (.b false),8] Z a4<|mq_ h Z) λb5 h=>H g [1] Z<|I h (λa5 h=>J g [.T,8] Z a5<|mV_ h (λb6=>⟨[(1,.sl 7 (x.map Xl)),lk_ 2,(5,.b y),lk_ 6,(9,.own 99 i.length),(10,.I (Qs (k+1))),(11,.I p),lk_ 12,lk_ 13,(98,.b b6)],[(2,.var (Qa t)),(6,.var (Qt j)),(12,.var (Qt f.1)),(13,.var (Qq f.2)),(99,.arr 1 (i.map Qb))]⟩) (λb6 h=>H g [6] Z<|I h (λa6 h=>L g [.S 91 (.b true),8] Z a6<|mq_ h Z) λa6 h=>B h λd7 c5 h=>G g [.S 91 (.b false),4,.o (.C2 (.I d7)),3] Z ⟨(tc_ a6),(CH _ _ _ c5)⟩<|mq_ h Z) λb6 h=>H g [1] Z<|I h (λa7 h=>J g [.T,9] Z a7<|rR_ h Z) λa7 h=>J g [.F,1] Z a7<|me_ h Z) λa5 h=>J g [.F,1] Z a5<|me_ h Z) λe h=>X h λc6 h=>J g [5,.app ((i++f.2.Closed).map Qb) (i++f.2.Closed).length,10] Z ⟨Qc,Uv c6 Qc,Jr,WX Qc⟩<|lq_ h (λst=>⟨[(1,.sl 7 (x.map Xl)),lk_ 2,(5,.b y),lk_ 6,(9,.own 99 (i++f.2.Closed).length),(10,.I e),(11,.I p),lk_ 12,(14,.I st)],[(2,.var (Qa t)),(6,.var (Qt j)),(12,.var (Qt f.1)),(99,.arr 1 ((i++f.2.Closed).map Qb))]⟩) (λq=>(.ret,⟨[(4,.b false)],[]⟩)) (λq=>(.exit 2,⟨[(1,.sl 7 (x.map Xl)),lk_ 2,(5,.b y),lk_ 6,(9,.own 99 (i++f.2.Closed).length),(10,.I e),(11,.I p),lk_ 12],[(2,.var (Qa t)),(6,.var (Qt j)),(12,.var (Qt f.1)),(99,.arr 1 ((i++f.2.Closed).map Qb))]⟩)) Z (λd8 o h=>H g [9] Z<|I h (λa8 h=>B h λc7 b2 h=>B h λb7 c8 h=>G g [.T,5] Z (A a8) <| 
  dr_ g [.E (.agg (Qa t)),.E (.agg (Qt f.1)),.N,.N,.N,.B (.row (Qb c7)),.a .no (some ([none,none,none,some 1,some 1,some 1,none],.agg (Xl (Xy.mk 2 c7 (Qr.mk 0 ([]:LI_) ([]:LI_) ([]:LI_)) 0)))) false,.B (.C3 (.tup [.agg (Qt b7.1),.agg (Qq b7.2)])),.a .no none true true,.N,.a .no none true,.N,.N,.m .s,.m .s] [1,2,5,6,9,10,11,12,14] [2,6,12,99] [1,2,5,6,9,10,11,12,14,16] [2,6,12,16,99] Z Z (a6_ Z Z (Yh b2 Z) (Xs (YC b2).2) Z (NJ _ _ _ _ c8)) Z <|
  J g [.O 16 (.var (Qq b7.2)),2] Z Z<|mV_ h (λb8=>⟨[(1,.sl 7 (x.map Xl)),lk_ 2,(5,.b y),lk_ 6,(9,.own 99 (i++f.2.Closed).length),(10,.I e),(11,.I p),lk_ 12,(14,.I d8),(132,.b b8)],[(2,.var (Qa t)),(6,.var (Qt j)),(12,.var (Qt f.1)),(99,.arr 1 ((i++f.2.Closed).map Qb))]⟩) (λb8 h=>H g [.K [1,2,5,6,9,10,11,12,14,16] [2,6,12,16,99]] Z<|I h (λa9 h=> 
  dr_ g [.N,.N,.N,.E (.b true),.N,.N,.N,.N,.N,.N,.N,.N,.N] [] [] [1,2,5,6,9,10,11,12,14,132] [2,6,12,99] Z Z (tc_ a9) Z <|
  mq_ h Z) λa9 h=>B h λd9 b3 h=>B h λe0 c9 h=> 
  dr_ g [.N,.N,.N,.E (.b false),.N,.N,.N,.N,.N,.B (.row (Qb d9)),.B (.C2 (.I e0)),.N,.N] [] [] [1,2,5,6,9,10,11,12,14,132] [2,6,12,99] Z Z ⟨⟨⟨(tc_ a9),(Yh b3 Z)⟩,(Xs (YC b3).2)⟩,(CH _ _ _ c9)⟩ Z <|
  mq_ h Z) λb8 h=>H g [1] Z<|I h (λb0 h=>J g [.T,8] Z b0<|rR_ h Z) λb0 h=>J g [.F,8] Z b0<|rN_ h Z) λa8 h=>J g [.F,2] Z a8<|rX_ h Z) (λ_ h=>H g [4] Z<|rR_ h Z) (λ_ h=>H g [4] Z<|Y ⟨[(1,.sl 7 (x.map Xl)),lk_ 2,(5,.b y),lk_ 6,(9,.own 99 (i++f.2.Closed).length),(10,.I e),(11,.I p),lk_ 12,(154,.b (((f.1.Items.length:Int) != (Qs (e-((i++f.2.Closed).length:Int))))||((f.1.Next != (Qs (e+1)))||(f.1.Now<j.Now))))],[(2,.var (Qa t)),(6,.var (Qt j)),(12,.var (Qt f.1)),(99,.arr 1 ((i++f.2.Closed).map Qb))]⟩ (J g [3,.o (.ln f.1.Items.length),6] Z Qc<|bO_ ((f.1.Items.length:Int) != (Qs (e-((i++f.2.Closed).length:Int)))) (λl=>G g [.S 141 (.b true),14,.S 154 (.b (((f.1.Items.length:Int) != (Qs (e-((i++f.2.Closed).length:Int))))||((f.1.Next != (Qs (e+1)))||(f.1.Now<j.Now))))] Z ⟨(tc_ l),(cb_ (GZ l Z))⟩<|M Z) λl=>L g [.S 141 (.b false),7] Z l<|bO_ (f.1.Next != (Qs (e+1))) (λw=>G g [.S 148 (.b true),7,.S 154 (.b (((f.1.Items.length:Int) != (Qs (e-((i++f.2.Closed).length:Int))))||((f.1.Next != (Qs (e+1)))||(f.1.Now<j.Now))))] Z ⟨(tc_ w),(cb_ (Kk l (GZ w Z)))⟩<|M Z) λw=>G g [.S 148 (.b false),7,.S 154 (.b (((f.1.Items.length:Int) != (Qs (e-((i++f.2.Closed).length:Int))))||((f.1.Next != (Qs (e+1)))||(f.1.Now<j.Now))))] Z ⟨(tc_ w),(cb_ (Kk l (Kk w Z)))⟩<|M Z)<|H g [1] Z<|I h (λb1 h=>J g [.T,9] Z b1<|rR_ h Z) λb1 h=>g3_ g [.F,3,.A (Qt f.1),1,.O 6 (.var (Qt f.1)),8] Z b1 Z Z<|rN_ h Z)) λD h=>J g [.F,2] Z D<|rX_ h Z) (λ_ h=>H g [2] Z<|E h Z U) (λ_ h=>H g [9] Z<|E h Z U)

end Go.Proofs
