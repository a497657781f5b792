/- Walks through the program. -/
import Derived.Test.YtkocdcoeinjdbaaGreatDoorK2T1
set_option linter.all false
set_option maxRecDepth 100000
set_option maxHeartbeats 4000000
noncomputable section
namespace Go.Proofs
open Go Go.RowKit Go.Vm Go.Proofs.Tryz
def JW (f:Int)(a:Int)(y:Int)(g:Bool)(d:LI_)(b:(L_ (Int×(O_ Nat))))(h:(L_ Qh))(i:(L_ (O_ Nat))):O_ ((Int×Int×Bool×LI_×(L_ (Int×(O_ Nat)))×(L_ Qh)×(L_ (O_ Nat)))⊕(LI_×(L_ (Int×(O_ Nat)))×(L_ Qh)×(L_ (O_ Nat)))):=bif (g&&(y<=f))then (chk (d.length+([a]:L_ Int).length<=4294967296)).bind λ_=>(EE i b h).bind λc=>(Jl c.2.1 (Bg b a) c.2.2).bind λe=>some (.inl (e.1,e.2.1,e.2.2,(d++([a]:L_ Int)),(Bg b a),c.2.2,c.2.1))else some (.inr (d,b,h,i))
def MZ (a:LI_)(b:(L_ (Int×(O_ Nat))))(c:(L_ Qh))(d:(L_ (O_ Nat))):O_ (LI_×(L_ (O_ Nat))×(L_ (Int×(O_ Nat)))×(L_ Qh)):=some (a,d,b,c)
def IJ (c:(L_ (O_ Nat)))(d:(L_ (Int×(O_ Nat))))(a:Int)(e:(L_ Qh)):O_ (LI_×(L_ (O_ Nat))×(L_ (Int×(O_ Nat)))×(L_ Qh)):=(Jl c d e).bind λb=>(QQ (λst=>JW a st.1 st.2.1 st.2.2.1 st.2.2.2.1 st.2.2.2.2.1 st.2.2.2.2.2.1 st.2.2.2.2.2.2) (b.1,b.2.1,b.2.2,([]:L_ Int),d,e,c)).bind (λq=>MZ q.1 q.2.1 q.2.2.1 q.2.2.2)
def Qal (gA:Nat->Nat)(w:(L_ (O_ Nat)))(P:(L_ (Int×(O_ Nat))))(a:Int)(t4:(L_ Qh)):CT 222 [.L 617,.I a] [(617,.var [.own 615 w.length,.map 618]),(615,.arr 1 (w.map (Xw gA))),(618,.map (QG V.I (XN gA) P)),(619,.tbl gA 3 (t4.map Qs))] (IJ w P a t4) (λr=>(.own 600 r.1.length)) (λr=>[(600,.arr 1 (r.1.map Qb)),(615,.arr 1 (r.2.1.map (Xw gA))),(617,.var [.own 615 r.2.1.length,.map 618]),(618,.map (QG V.I (XN gA) r.2.2.1)),(619,.tbl gA 3 (r.2.2.2.map Qs))]):=
 W 42 func222 Z λC s r h=>B h λx9 a0 h=>g3_ s [14,.cm (.fn) [(617,617),(615,615),(618,618),(619,619)] [(615,615),(617,617),(618,618),(619,619)] [615] [.d] [(615,.arr 1 (w.map (Xw gA))),(617,.var [.own 615 w.length,.map 618]),(618,.map (QG V.I (XN gA) P)),(619,.tbl gA 3 (t4.map Qs))] (.tup [.I x9.1,.I x9.2.1,.b x9.2.2]),10,.adopt 5 27 1,.O 27 (.arr 1 (([]:L_ Int).map Qb)),.S 5 (.own 27 ([]:L_ Int).length)] Z (Mg gA _ _ _ _ a0) Z (congrArg (λn=>V.own 27 n) (by simp))<|lp_ h (λst=>⟨[(0,.L 617),(1,.I a),(5,.own 27 st.2.2.2.1.length),(6,.I st.1),(7,.I st.2.1),(8,.b st.2.2.1)],[(27,.arr 1 (st.2.2.2.1.map Qb)),(615,.arr 1 (st.2.2.2.2.2.2.map (Xw gA))),(617,.var [.own 615 st.2.2.2.2.2.2.length,.map 618]),(618,.map (QG V.I (XN gA) st.2.2.2.2.1)),(619,.tbl gA 3 (st.2.2.2.2.2.1.map Qs))]⟩) (λq=>(.exit 0,⟨[(5,.own 27 q.1.length)],[(27,.arr 1 (q.1.map Qb)),(615,.arr 1 (q.2.2.2.map (Xw gA))),(617,.var [.own 615 q.2.2.2.length,.map 618]),(618,.map (QG V.I (XN gA) q.2.1)),(619,.tbl gA 3 (q.2.2.1.map Qs))]⟩)) Z (λ⟨c,at_14,j,t,m,a1,y⟩ o h=>H s [2] Z<|Y ⟨[(0,.L 617),(1,.I a),(5,.own 27 t.length),(6,.I c),(20,.b (j&&(at_14<=a)))],[(27,.arr 1 (t.map Qb)),(615,.arr 1 (y.map (Xw gA))),(617,.var [.own 615 y.length,.map 618]),(618,.map (QG V.I (XN gA) m)),(619,.tbl gA 3 (a1.map Qs))]⟩ (H s [3] Z<|bO_ j (λg=>G s [.S 16 (.b true),5,.S 20 (.b (j&&(at_14<=a)))] Z ⟨(tc_ g),(cb_ (Jv g Z))⟩<|M Z) λg=>G s [.S 16 (.b false),5,.S 20 (.b (j&&(at_14<=a)))] Z ⟨(tc_ g),(cb_ (WC g Z))⟩<|M Z)<|H s [1] Z<|I h (λp h=>X h λz h=>B h λi D h=>B h λu N h=>G s [.T,8,.v (.bd []) [] (.sl 1 (([c]:L_ Int).map Qb)),.app ((t++([c]:L_ Int)).map Qb) (t++([c]:L_ Int)).length,9,.cm (.fn) [(617,617),(615,615),(618,618),(619,619)] [(615,615),(617,617),(618,618),(619,619)] [615] [.d] [(615,.arr 1 (i.2.1.map (Xw gA))),(617,.var [.own 615 i.2.1.length,.map 618]),(618,.map (QG V.I (XN gA) m)),(619,.tbl gA 3 (i.2.2.map Qs))] (.ifc 289 (XN gA i.1)),8,.x (λσ=>σ.set 618 (.map (QG V.I (XN gA) (Bg m c)))),5,.cm (.fn) [(617,617),(615,615),(618,618),(619,619)] [(615,615),(617,617),(618,618),(619,619)] [615] [.d] [(615,.arr 1 (i.2.1.map (Xw gA))),(617,.var [.own 615 i.2.1.length,.map 618]),(618,.map (QG V.I (XN gA) (Bg m c))),(619,.tbl gA 3 (i.2.2.map Qs))] (.tup [.I u.1,.I u.2.1,.b u.2.2]),8] Z (a6_ p Z ⟨Qd,Bd z Qd,JS,Gi Qd⟩ (SM gA _ _ _ _ D) (Qf.delete (e:=V.I) (f:=(XN gA)) (l:=m) (k:=c) Z Z Z Z Z QhO Ey) (Mg gA _ _ _ _ N))<|rN_ h Z) λp h=>J s [.F,2] Z p<|rX_ h Z) λ⟨a2,a3,a4,a5⟩ h=>H s [9,.K [4] [27,615,617,618,619],.ren 27 600] Z<|E h Z r5_
def HW (e:Int)(f:(L_ (Int×Bool)))(a:Qw)(b:(L_ (O_ Nat)))(c:(L_ (Int×(O_ Nat))))(d:(L_ Qh)):O_ ((Int×(L_ (Int×Bool))×(L_ (O_ Nat))×(L_ (Int×(O_ Nat)))×(L_ Qh))⊕((L_ (O_ Nat))×(L_ (Int×(O_ Nat)))×(L_ Qh))):=some (.inl ((Qq (e+1)),(Jd Ge f a.Id true),b,c,d))
def WQ (h:(L_ Qw))(d:Int)(e:(L_ (Int×Bool)))(f:(L_ (O_ Nat)))(g:(L_ (Int×(O_ Nat))))(b:(L_ Qh)):O_ ((Int×(L_ (Int×Bool))×(L_ (O_ Nat))×(L_ (Int×(O_ Nat)))×(L_ Qh))⊕((L_ (O_ Nat))×(L_ (Int×(O_ Nat)))×(L_ Qh))):=bif (d<(h.length:Int))then (idx h d).bind λa=>bif ((!((Xb e a.Id).getD false))&&(0<a.Until))then (ED f g a.Id a.Until b).bind λc=>HW d e a c.2.1 c.2.2.2 c.2.2.1 else HW d e a f g b else some (.inr (f,g,b))
def HX (a:Int)(b:(L_ (O_ Nat)))(c:(L_ (Int×(O_ Nat))))(d:(L_ Qh)):O_ LI_:=(IJ b c a d).bind λe=>some e.1
def CR (c:(L_ Qw))(a:Int):O_ LI_:=(Vv).bind λb=>(QQ (λst=>WQ c st.1 st.2.1 st.2.2.1 st.2.2.2.1 st.2.2.2.2) (0,([]:(L_ (Int×Bool))),([]:L_ (O_ Nat)),b.1,b.2)).bind (λq=>HX a q.1 q.2.1 q.2.2)
def QfX (gA:Nat->Nat)(u:(L_ Qw))(c:Int):CT 133 [.sl 11 (u.map Qn),.I c] [] (CR u c) (λr=>(.own 600 r.length)) (λr=>[(600,.arr 1 (r.map Qb))]):=by
 refine W 40 func133 rfl λC g r h=>?_
 obtain⟨x4,a2,h⟩:=Qp h
 refine Qg g [7,.cm (.fn) [] [(9,1),(609,3),(610,608)] [] [] [(1,.map (QG V.I (XN gA) x4.1)),(3,.var [.Y,.map 1]),(608,.tbl gA 3 (x4.2.map Qs))] (.L 3),6,.O 10 (.map (QG V.I V.b ([]:(L_ (Int×Bool))))),7,.o (.ln u.length),4,.adoptO 609 0 614 1,.O 614 (.arr 1 (([]:L_ (O_ Nat)).map (Xw gA))),.O 609 (.var [.own 614 ([]:L_ (O_ Nat)).length,.map 9]),.K [1,5,6,11,12,13] [9,10,609,610,614]] Z (a5_ (QfW gA _  a2) Z Qd Z (congrArg (λn=>Ob.var [.own 614 n,.map 9]) (by simp))) ?_
 obtain⟨a3,N,h⟩:=Qp h
 refine AK.loop (body:=(λst=>WQ u st.1 st.2.1 st.2.2.1 st.2.2.2.1 st.2.2.2.2)) (λst σ=>∃gA:Nat->Nat,σ=⟨[(1,.I c),(5,.L 609),(6,.map 10),(11,.sl 11 (u.map Qn)),(12,.I (u.length:Int)),(13,.I st.1)],[(9,.map (QG V.I (XN gA) st.2.2.2.1)),(10,.map (QG V.I V.b st.2.1)),(609,.var [.own 614 st.2.2.1.length,.map 9]),(610,.tbl gA 3 (st.2.2.2.2.map Qs)),(614,.arr 1 (st.2.2.1.map (Xw gA)))]⟩) (λq e σ=>e=.exit 0/\∃gA:Nat->Nat,σ=⟨[(1,.I c),(5,.L 609)],[(9,.map (QG V.I (XN gA) q.2.1)),(609,.var [.own 614 q.1.length,.map 9]),(610,.tbl gA 3 (q.2.2.map Qs)),(614,.arr 1 (q.1.map (Xw gA)))]⟩) N (ex_ _ rfl) ?_ ?_
 ·rintro ⟨x6,m,l8,m9,a4⟩ o σ ⟨gA,rfl⟩ h
  refine tg_ g [6] ?_
  rcases Xn h with⟨p,h⟩|⟨p,h⟩
  ·obtain⟨a,P,h⟩:=Qp h
   refine Qg g [.T,6,.o (.row (Qn a)),.A (Qn a),2,.O 8 (.var (Qn a)),2] Z (a4_ p (Xd P) Z Z) ?_
   refine AK.meet (λσ=>∃gA:Nat->Nat,∃w:(L_ (O_ Nat)),∃y:(L_ (Int×(O_ Nat))),∃D:(L_ Qh),σ=⟨[(1,.I c),(5,.L 609),(6,.map 10),lk_ 8,(11,.sl 11 (u.map Qn)),(12,.I (u.length:Int)),(13,.I x6)],[(8,.var (Qn a)),(9,.map (QG V.I (XN gA) y)),(10,.map (QG V.I V.b m)),(609,.var [.own 614 w.length,.map 9]),(610,.tbl gA 3 (D.map Qs)),(614,.arr 1 (w.map (Xw gA)))]⟩/\HW x6 m a w y D=some o) ?_ ?_
   ·refine tg_ g [1] ?_
    refine AK.meetX (λσ=>σ=⟨[(1,.I c),(5,.L 609),(6,.map 10),lk_ 8,(11,.sl 11 (u.map Qn)),(12,.I (u.length:Int)),(13,.I x6),(26,.b ((!((Xb m a.Id).getD false))&&(0<a.Until)))],[(8,.var (Qn a)),(9,.map (QG V.I (XN gA) m9)),(10,.map (QG V.I V.b m)),(609,.var [.own 614 l8.length,.map 9]),(610,.tbl gA 3 (a4.map Qs)),(614,.arr 1 (l8.map (Xw gA)))]⟩) ?_ ?_
    ·exact J g [4,.o (.any (.b ((Xb m a.Id).getD false)) none),2] Z (λσ h1 h2 _=>Qf.lookup (e:=V.I) (f:=V.b) (l:=m) (k:=a.Id) (z:=false) Z Z (QI g.n Z) (h1 _ _ Z) (h2 _ _ Z) (h1 _ _ Z) Qj4 Ey Qk6 Z)<|bO_ (!((Xb m a.Id).getD false)) (λi=>G g [.S 22 (.b true),5,.S 26 (.b ((!((Xb m a.Id).getD false))&&(0<a.Until)))] Z ⟨(tc_ i),(cb_ (Jv i Z))⟩<|M Z) λi=>G g [.S 22 (.b false),5,.S 26 (.b ((!((Xb m a.Id).getD false))&&(0<a.Until)))] Z ⟨(tc_ i),(cb_ (WC i Z))⟩<|M Z
    rintro σ rfl
    refine tg_ g [1] ?_
    rcases Xn h with⟨s,h⟩|⟨s,h⟩
    ·obtain⟨t,a0,h⟩:=Qp h
     refine Qg g [.T,6] Z (A s) ?_
     refine AK.callE (ι:=Nat->Nat) (Φ:=λ_=>True) [(617,609),(615,614),(618,9),(616,610)] [(614,615),(610,616),(609,617),(9,618)] [614,610] [.d,.d,.d] (λgA=>[(615,.arr 1 (t.2.1.map (Xw gA))),(616,.tbl gA 3 (t.2.2.1.map Qs)),(617,.var [.own 615 t.2.1.length,.map 618]),(618,.map (QG V.I (XN gA) t.2.2.2))]) (λgA=>.I t.1) (λgA=>_) rfl g (YU.fn rfl (by kernel_rfl) rfl) rfl (QI g.n rfl) rfl rfl (SL gA _ _ _ _ _ a0) (λgA=>ex_ _ rfl) λgA _=>?_
     refine tg_ g [1,.K [1,5,6,8,11,12,13] [8,9,10,609,610,614]] ?_
     exact AK.met (ex_ _ (ex_ _ (ex_ _ (ex_ _ (an_ Z h)))))
    refine Qg g [.F,1,.K [1,5,6,8,11,12,13] [8,9,10,609,610,614]] Z (A s) ?_
    exact AK.met (ex_ _ (ex_ _ (ex_ _ (ex_ _ (an_ Z h)))))
   rintro σ ⟨gA,w,y,D,rfl,h⟩
   refine Qg g [4,.x (λσ=>σ.set 10 (.map (QG V.I V.b (Jd Ge m a.Id true)))),7,.K [1,5,6,11,12,13] [9,10,609,610,614]] Z (A (Qf.mapUpdate (e:=V.I) (f:=V.b) (l:=m) (k:=a.Id) (v:=true) Ge Z Z Z Z Z Z Qj4 Ey Z)) ?_
   cases h
   exact Pi Z (ex_ _ Z)
  refine Qg g [.F,2,.K [1,5] [9,609,610,614]] Z (A p) ?_
  cases h
  exact RF Z (an_ Z (ex_ _ Z))
 obtain⟨a5,a6,a7⟩:=a3
 replace h:HX c a5 a6 a7=some r:=h
 unfold HX at h
 rintro e σ ⟨rfl,gA,rfl⟩
 exact B h λj a1 h=>J g [6,.cm (.fn) [(617,609),(615,614),(618,9),(619,610)] [(39,600),(614,615),(609,617),(9,618),(610,619)] [614] [.d,.d] [(600,.arr 1 (j.1.map Qb)),(615,.arr 1 (j.2.1.map (Xw gA))),(617,.var [.own 615 j.2.1.length,.map 618]),(618,.map (QG V.I (XN gA) j.2.2.1)),(619,.tbl gA 3 (j.2.2.2.map Qs))] (.own 600 j.1.length),4,.K [4] [39],.ren 39 600] Z (Qal gA _ _ _ _ _ a1)<|E h Z r1_
def Yd (g:LI_)(c:Int)(a:QB):O_ ((Int×QB)⊕((Int×QB)⊕QB)):=bif (c<(g.length:Int))then (idx g c).bind λd=>(Wt a.now.Items d).bind λe=>(idx a.now.Items e).bind λf=>(Jc a f).bind λb=>bif (b.1 != 0)then some (.inr (.inl (b.1,b.2)))else some (.inl ((Qq (c+1)),b.2))else some (.inr (.inr a))
def Mh (a:Int)(b:QB):O_ (Int×Qz×QB):=some (a,(Qz.mk 0 0 ([]:LI_)),b)
def Mi (b:LI_)(a:QB):O_ (Int×Qz×QB):=some (0,(Qz.mk 0 0 b),a)
def KK (a:QB):O_ (Int×Qz×QB):=bif (a.now.Now==1099511627776)then some (1,(Qz.mk 0 0 ([]:LI_)),a)else (CR a.now.Items (Qq (a.now.Now+1))).bind λb=>(QQ (λst=>Yd b st.1 st.2) (0,(QB.mk a.net (QT.mk a.now.M a.now.Items a.now.Next (Qq (a.now.Now+1))) a.call))).bind (Sum.elim (λq=>Mh q.1 q.2) (λq=>Mi b q))
def Zc (j):CT 73 [.L 617] [(617,.var (Qx j))] (KK j) (λr=>(.tup [.agg (Qr r.2.1),.I r.1])) (λr=>[(617,.var (Qx r.2.2))]):=by
 refine W 64 func73 rfl λC b r h=>?_
 refine tg_ b [17] ?_
 rcases Xn h with⟨l,h⟩|⟨l,h⟩
 ·refine Qg b [.T,2,.v .no [none,none,some 1] (.agg (Qr (Qz.mk 0 0 ([]:LI_)))),1,.O 2 (.var (Qr (Qz.mk 0 0 ([]:LI_)))),5,.K [2,3] [2,617]] Z (a3_ l Z Z) ?_
  cases h
  exact AK.done (ex_ [_,_] (an_ (an_ (ex_ _ (ex_ _ (an_ Z (an_ Z (Or.inl (an_ (Qe.ag Z) (an_ (Qe.sz Z) Z))))))) (an_ Z U)) (gives r1_)))
 obtain⟨f,y,h⟩:=Qp h
 refine Qg b [.F,14,.O 617 (.var (Qx (QB.mk j.net (QT.mk j.now.M j.now.Items j.now.Next (Qq (j.now.Now+1))) j.call))),3,.K [0,2] [2,617]] Z (a2_ l Z) ?_
 refine AK.draw2 Qe b mixed [.N,.N,.N,.N,.N,.N,.N,.N,.N,.N,.B (.co false [.d,.d] 1 (f.map Qb) f.length),.N] [] [] [0,2,4] [2,34,617] rfl rfl rfl ⟨U,⟨(QfX (λ_=>0) _ _ _ y),Qd,.inl rfl⟩⟩ rfl (by kernel_rfl) rfl rfl rfl ?_
 refine tg_ b [10,.K [0,2,4,35,36,37] [2,34,617]] ?_
 obtain⟨z,s,h⟩:=Qp h
 refine AK.loop (body:=(λst=>Yd f st.1 st.2)) (λst σ=>σ=⟨[(0,.L 617),lk_ 2,(4,.own 34 f.length),(35,.own 34 f.length),(36,.I (f.length:Int)),(37,.I st.1)],[(2,.var [.I 0,.I 0,.Y]),(34,.arr 1 (f.map Qb)),(617,.var (Qx st.2))]⟩) (Sum.elim (λq e σ=>e=.ret/\σ=⟨[lk_ 2,(3,.I q.1)],[(2,.var (Qr (Qz.mk 0 0 ([]:LI_)))),(617,.var (Qx q.2))]⟩) (λq e σ=>e=.exit 0/\σ=⟨[lk_ 2,(4,.own 34 f.length)],[(2,.var [.I 0,.I 0,.Y]),(34,.arr 1 (f.map Qb)),(617,.var (Qx q))]⟩)) s rfl ?_ ?_
 ·rintro ⟨a2,a3⟩ o σ rfl h
  refine tg_ b [6] ?_
  rcases Xn h with⟨g,h⟩|⟨g,h⟩
  ·obtain⟨D,k,h⟩:=Qp h
   obtain⟨P,t,h⟩:=Qp h
   obtain⟨u,w,h⟩:=Qp h
   obtain⟨p,x,h⟩:=Qp h
   refine Qg b [.T,7,.o (.row (Qb D)),4,.K [0,2,4,6,35,36,37] [2,34,617]] Z (a3_ g (Yx k Z) (Xz (YV k).2)) ?_
   refine AK.draw2 Qe b mixed [.N,.N,.N,.N,.N,.N,.N,.N,.N,.N,.N,.N,.B (.C2 (.I P)),.B (.row (Qn u)),.E (.agg (Qn u)),.m (.cm (.fn) [(617,617)] [(617,617)] [] [.d,.d,.d] [(617,.var (Qx p.2))] (.I p.1) []),.N] [] [] [0,2,4,7,35,36,37] [2,34,617] rfl rfl rfl ⟨⟨⟨⟨U,(Tu _ _ _ t)⟩,(Xd w)⟩,rfl⟩,⟨U,(Ur _ _ _ x)⟩⟩ rfl (by kernel_rfl) rfl rfl rfl ?_
   refine Qg b [.O 617 (.var (Qx p.2)),7] Z (A Z) ?_
   refine bg_ h (λi h=>Qg b [.T,2,.v .no [none,none,some 1] (.agg (Qr (Qz.mk 0 0 ([]:LI_)))),2,.O 2 (.var (Qr (Qz.mk 0 0 ([]:LI_)))),6,.K [2,3] [2,617]] rfl (a3_ i rfl rfl) ?_) λi h=>Qg b [.F,7,.K [0,2,4,35,36,37] [2,34,617]] rfl (A i) ?_
   ·cases h
    exact Qhr Z (an_ Z Z)
   cases h
   exact Pi Z Z
  refine Qg b [.F,2,.K [2,4] [2,34,617]] Z (A g) ?_
  cases h
  exact RF Z (an_ Z Z)
 rcases z with(⟨S,a0⟩|a1)
 ·replace h:Mh S a0=some r:=h
  rintro e σ ⟨rfl,rfl⟩
  refine tg_ b [2,.K [2,3] [2,617]] ?_
  cases h
  exact AK.done (ex_ [_,_] (an_ (an_ (ex_ _ (ex_ _ (an_ Z (an_ Z (Or.inl (an_ (Qe.ag Z) (an_ (Qe.sz Z) Z))))))) (an_ Z U)) (gives r1_)))
 replace h:Mi f a1=some r:=h
 rintro e σ ⟨rfl,rfl⟩
 refine Qg b [5,.A [.I 0,.I 0,.own 34 f.length],1,.O 2 (.var [.I 0,.I 0,.own 34 f.length]),4,.frz 34 (f.map Qb) [] [2],.K [2,3] [2,617]] Z (a3_ Z Z (A ⟨(Wr Qd),U⟩)) ?_
 cases h
 exact AK.done (ex_ [_,_] (an_ (an_ (ex_ _ (ex_ _ (an_ Z (an_ Z (Or.inl (an_ (Qe.ag Z) (an_ (Qe.sz Z) Z))))))) (an_ Z U)) (gives r1_)))
def HY (f:Ql)(b:QT)(g:QT)(h:Xt)(i:Unit):O_ (QT×Qz):=(DX f b).bind λc=>bif (!c)then (Yp b).bind λd=>some (d,(Qz.mk 1 0 ([]:LI_)))else (Gl (QB.mk f g h)).bind λa=>bif (a.1 != 0)then (Yp b).bind λe=>some (e,(Qz.mk a.1 0 ([]:LI_)))else some (a.2.2.now,a.2.1)
def EY (f:Ql)(b:QT)(g:QT)(h:Xt)(i:Unit):O_ (QT×Qz):=(DX f b).bind λc=>bif (!c)then (Yp b).bind λd=>some (d,(Qz.mk 1 0 ([]:LI_)))else (Wo (QB.mk f g h)).bind λa=>bif (a.1 != 0)then (Yp b).bind λe=>some (e,(Qz.mk a.1 0 ([]:LI_)))else some (a.2.2.now,a.2.1)
def EZ (f:Ql)(b:QT)(g:QT)(h:Xt)(i:Unit):O_ (QT×Qz):=(DX f b).bind λc=>bif (!c)then (Yp b).bind λd=>some (d,(Qz.mk 1 0 ([]:LI_)))else (KX (QB.mk f g h)).bind λa=>bif (a.1 != 0)then (Yp b).bind λe=>some (e,(Qz.mk a.1 0 ([]:LI_)))else some (a.2.2.now,a.2.1)
def Ua (f:Ql)(b:QT)(g:QT)(h:Xt)(i:Unit):O_ (QT×Qz):=(DX f b).bind λc=>bif (!c)then (Yp b).bind λd=>some (d,(Qz.mk 1 0 ([]:LI_)))else (KK (QB.mk f g h)).bind λa=>bif (a.1 != 0)then (Yp b).bind λe=>some (e,(Qz.mk a.1 0 ([]:LI_)))else some (a.2.2.now,a.2.1)
def HZ (b:QT)(c:Unit):O_ (QT×Qz):=(Yp b).bind λa=>some (a,(Qz.mk 1 0 ([]:LI_)))
def YH (b:Ql)(a:QT)(c:Xt):O_ (QT×Qz):=(Yp a).bind λd=>(GA (QB.mk b d c)).bind (Sum.elim (λq=>HY b a d c q) (Sum.elim (λq=>EY b a d c q) (Sum.elim (λq=>EZ b a d c q) (Sum.elim (λq=>Ua b a d c q) (λq=>HZ a q)))))
def Ub (l f q):CT 16 [.agg (Qa l),.agg (Qt f),.agg (XF q)] [] (YH l f q) (λr=>(.tup [.agg (Qt r.1),.agg (Qr r.2)])) no_:=by
 refine W 47 func16 rfl λC e r h=>?_
 obtain⟨t,c8,h⟩:=Qp h
 refine tg_ e [10,.K [3,4,5,6,7] [3,4,5,6,7]] ?_
 refine AK.draw2 Qe e mixed [.E (.agg (Qa l)),.E (.agg (Qt f)),.B (.C1 (.agg (Qt t))),.E (.agg (XF q)),.E (.agg (Qx (QB.mk l t q))),.N,.N] [] [] [3,4,6,7,8] [3,4,6,7,17] rfl rfl rfl ⟨⟨⟨⟨⟨U,rfl⟩,rfl⟩,(YB _ _ c8)⟩,rfl⟩,rfl⟩ rfl (by kernel_rfl) rfl rfl rfl ?_
 obtain⟨x9,u,h⟩:=Qp h
 refine tg_ e [4] ?_
 rcases x9 with(c9 | (d0 | (d1 | (d2 | d3))))
 ·replace h:HY l f t q c9=some r:=h
  obtain⟨d4,a1,h⟩:=Qp h
  refine Qg e [.cm (.fn) [(617,17)] [(17,617)] [] [.d] [(617,.var (Qx (QB.mk l t q)))] (.clo (.func 71) [.L 617] []),7,.o (.any (.b false) none),1,.A (Qa l),.A (Qt f),.o (.C2 (.b d4)),4] Z (a5_ (WO _ u) (λσ p h2 _=>Qf.eqFn Z Z (QI e.n Z) (p _ _ Z) (p _ _ Z) QeC) Z Z (AW _ _ _ a1)) ?_
  rcases Xn h with⟨w,h⟩|⟨w,h⟩
  ·obtain⟨a2,a3,h⟩:=Qp h
   refine Qg e [.T,2,.A (Qt f),.o (.C1 (.agg (Qt a2))),.v .no [none,none,some 1] (.agg (Qr (Qz.mk 1 0 ([]:LI_)))),1,.O 6 (.var (Qt a2)),1,.O 7 (.var (Qr (Qz.mk 1 0 ([]:LI_)))),4,.K [6,7] [6,7]] Z (a6_ w Z (YB _ _ a3) Z Z Z) ?_
   cases h
   exact AK.done (ex_ [_,_] (an_ (an_ (ex_ _ (ex_ _ (an_ Z (an_ Z (Or.inl (an_ (Qe.ag Z) (an_ (Qe.sz Z) Z))))))) (an_ (ex_ _ (ex_ _ (an_ Z (an_ Z (Or.inl (an_ (Qe.ag Z) (an_ (Qe.sz Z) Z))))))) U)) (gives U)))
  obtain⟨g,a4,h⟩:=Qp h
  refine Qg e [.F,5,.cm (.clo) [(617,17)] [(17,617)] [] [.d] [(617,.var (Qx g.2.2))] (.tup [.agg (Qr g.2.1),.I g.1]),5,.O 10 (.var (Qr g.2.1)),10] Z (a3_ w (Rc _ _ a4) Z) ?_
  rcases Xn h with⟨x,h⟩|⟨x,h⟩
  ·obtain⟨a5,a6,h⟩:=Qp h
   refine Qg e [.T,2,.A (Qt f),.o (.C1 (.agg (Qt a5))),1,.v .no [none,none,some 1] (.agg (Qr (Qz.mk g.1 0 ([]:LI_)))),1,.O 6 (.var (Qt a5)),1,.O 7 (.var (Qr (Qz.mk g.1 0 ([]:LI_)))),4,.K [6,7] [6,7]] Z (a6_ x Z (YB _ _ a6) Z Z Z) ?_
   cases h
   exact AK.done (ex_ [_,_] (an_ (an_ (ex_ _ (ex_ _ (an_ Z (an_ Z (Or.inl (an_ (Qe.ag Z) (an_ (Qe.sz Z) Z))))))) (an_ (ex_ _ (ex_ _ (an_ Z (an_ Z (Or.inl (an_ (Qe.ag Z) (an_ (Qe.sz Z) Z))))))) U)) (gives U)))
  refine Qg e [.F,3,.K [6,7,8,10] [6,7,10,17]] Z (A x) ?_
  refine AK.draw2 Qe e mixed [.N,.N,.N,.E (.agg (Qt g.2.2.now)),.a .no (some ([],.agg (Qr g.2.1))) true,.m .s,.m .s] [6,7,8,10] [7,10,17] [6,7] [6,7] rfl rfl rfl ⟨⟨U,rfl⟩,rfl⟩ rfl (by kernel_rfl) rfl rfl rfl ?_
  refine Qg e [.O 6 (.var (Qt g.2.2.now)),.O 7 (.var (Qr g.2.1)),2,.K [6,7] [6,7]] Z (a2_ Z Z) ?_
  cases h
  exact AK.done (ex_ [_,_] (an_ (an_ (ex_ _ (ex_ _ (an_ Z (an_ Z (Or.inl (an_ (Qe.ag Z) (an_ (Qe.sz Z) Z))))))) (an_ (ex_ _ (ex_ _ (an_ Z (an_ Z (Or.inl (an_ (Qe.ag Z) (an_ (Qe.sz Z) Z))))))) U)) (gives U)))
 ·replace h:EY l f t q d0=some r:=h
  obtain⟨d5,a7,h⟩:=Qp h
  refine Qg e [.cm (.fn) [(617,17)] [(17,617)] [] [.d] [(617,.var (Qx (QB.mk l t q)))] (.clo (.func 70) [.L 617] []),7,.o (.any (.b false) none),1,.A (Qa l),.A (Qt f),.o (.C2 (.b d5)),4] Z (a5_ (WO _ u) (λσ p h2 _=>Qf.eqFn Z Z (QI e.n Z) (p _ _ Z) (p _ _ Z) QeC) Z Z (AW _ _ _ a7)) ?_
  rcases Xn h with⟨y,h⟩|⟨y,h⟩
  ·obtain⟨a8,a9,h⟩:=Qp h
   refine Qg e [.T,2,.A (Qt f),.o (.C1 (.agg (Qt a8))),.v .no [none,none,some 1] (.agg (Qr (Qz.mk 1 0 ([]:LI_)))),1,.O 6 (.var (Qt a8)),1,.O 7 (.var (Qr (Qz.mk 1 0 ([]:LI_)))),4,.K [6,7] [6,7]] Z (a6_ y Z (YB _ _ a9) Z Z Z) ?_
   cases h
   exact AK.done (ex_ [_,_] (an_ (an_ (ex_ _ (ex_ _ (an_ Z (an_ Z (Or.inl (an_ (Qe.ag Z) (an_ (Qe.sz Z) Z))))))) (an_ (ex_ _ (ex_ _ (an_ Z (an_ Z (Or.inl (an_ (Qe.ag Z) (an_ (Qe.sz Z) Z))))))) U)) (gives U)))
  obtain⟨i,b0,h⟩:=Qp h
  refine Qg e [.F,5,.cm (.clo) [(617,17)] [(17,617)] [] [.d] [(617,.var (Qx i.2.2))] (.tup [.agg (Qr i.2.1),.I i.1]),5,.O 10 (.var (Qr i.2.1)),10] Z (a3_ y (Vu _ _ b0) Z) ?_
  rcases Xn h with⟨z,h⟩|⟨z,h⟩
  ·obtain⟨b1,b2,h⟩:=Qp h
   refine Qg e [.T,2,.A (Qt f),.o (.C1 (.agg (Qt b1))),1,.v .no [none,none,some 1] (.agg (Qr (Qz.mk i.1 0 ([]:LI_)))),1,.O 6 (.var (Qt b1)),1,.O 7 (.var (Qr (Qz.mk i.1 0 ([]:LI_)))),4,.K [6,7] [6,7]] Z (a6_ z Z (YB _ _ b2) Z Z Z) ?_
   cases h
   exact AK.done (ex_ [_,_] (an_ (an_ (ex_ _ (ex_ _ (an_ Z (an_ Z (Or.inl (an_ (Qe.ag Z) (an_ (Qe.sz Z) Z))))))) (an_ (ex_ _ (ex_ _ (an_ Z (an_ Z (Or.inl (an_ (Qe.ag Z) (an_ (Qe.sz Z) Z))))))) U)) (gives U)))
  refine Qg e [.F,3,.K [6,7,8,10] [6,7,10,17]] Z (A z) ?_
  refine AK.draw2 Qe e mixed [.N,.N,.N,.E (.agg (Qt i.2.2.now)),.a .no (some ([],.agg (Qr i.2.1))) true,.m .s,.m .s] [6,7,8,10] [7,10,17] [6,7] [6,7] rfl rfl rfl ⟨⟨U,rfl⟩,rfl⟩ rfl (by kernel_rfl) rfl rfl rfl ?_
  refine Qg e [.O 6 (.var (Qt i.2.2.now)),.O 7 (.var (Qr i.2.1)),2,.K [6,7] [6,7]] Z (a2_ Z Z) ?_
  cases h
  exact AK.done (ex_ [_,_] (an_ (an_ (ex_ _ (ex_ _ (an_ Z (an_ Z (Or.inl (an_ (Qe.ag Z) (an_ (Qe.sz Z) Z))))))) (an_ (ex_ _ (ex_ _ (an_ Z (an_ Z (Or.inl (an_ (Qe.ag Z) (an_ (Qe.sz Z) Z))))))) U)) (gives U)))
 ·replace h:EZ l f t q d1=some r:=h
  obtain⟨d6,b3,h⟩:=Qp h
  refine Qg e [.cm (.fn) [(617,17)] [(17,617)] [] [.d] [(617,.var (Qx (QB.mk l t q)))] (.clo (.func 72) [.L 617] []),7,.o (.any (.b false) none),1,.A (Qa l),.A (Qt f),.o (.C2 (.b d6)),4] Z (a5_ (WO _ u) (λσ p h2 _=>Qf.eqFn Z Z (QI e.n Z) (p _ _ Z) (p _ _ Z) QeC) Z Z (AW _ _ _ b3)) ?_
  rcases Xn h with⟨D,h⟩|⟨D,h⟩
  ·obtain⟨b4,b5,h⟩:=Qp h
   refine Qg e [.T,2,.A (Qt f),.o (.C1 (.agg (Qt b4))),.v .no [none,none,some 1] (.agg (Qr (Qz.mk 1 0 ([]:LI_)))),1,.O 6 (.var (Qt b4)),1,.O 7 (.var (Qr (Qz.mk 1 0 ([]:LI_)))),4,.K [6,7] [6,7]] Z (a6_ D Z (YB _ _ b5) Z Z Z) ?_
   cases h
   exact AK.done (ex_ [_,_] (an_ (an_ (ex_ _ (ex_ _ (an_ Z (an_ Z (Or.inl (an_ (Qe.ag Z) (an_ (Qe.sz Z) Z))))))) (an_ (ex_ _ (ex_ _ (an_ Z (an_ Z (Or.inl (an_ (Qe.ag Z) (an_ (Qe.sz Z) Z))))))) U)) (gives U)))
  obtain⟨j,b6,h⟩:=Qp h
  refine Qg e [.F,5,.cm (.clo) [(617,17)] [(17,617)] [] [.d] [(617,.var (Qx j.2.2))] (.tup [.agg (Qr j.2.1),.I j.1]),5,.O 10 (.var (Qr j.2.1)),10] Z (a3_ D (SJ _ _ b6) Z) ?_
  rcases Xn h with⟨P,h⟩|⟨P,h⟩
  ·obtain⟨b7,b8,h⟩:=Qp h
   refine Qg e [.T,2,.A (Qt f),.o (.C1 (.agg (Qt b7))),1,.v .no [none,none,some 1] (.agg (Qr (Qz.mk j.1 0 ([]:LI_)))),1,.O 6 (.var (Qt b7)),1,.O 7 (.var (Qr (Qz.mk j.1 0 ([]:LI_)))),4,.K [6,7] [6,7]] Z (a6_ P Z (YB _ _ b8) Z Z Z) ?_
   cases h
   exact AK.done (ex_ [_,_] (an_ (an_ (ex_ _ (ex_ _ (an_ Z (an_ Z (Or.inl (an_ (Qe.ag Z) (an_ (Qe.sz Z) Z))))))) (an_ (ex_ _ (ex_ _ (an_ Z (an_ Z (Or.inl (an_ (Qe.ag Z) (an_ (Qe.sz Z) Z))))))) U)) (gives U)))
  refine Qg e [.F,3,.K [6,7,8,10] [6,7,10,17]] Z (A P) ?_
  refine AK.draw2 Qe e mixed [.N,.N,.N,.E (.agg (Qt j.2.2.now)),.a .no (some ([],.agg (Qr j.2.1))) true,.m .s,.m .s] [6,7,8,10] [7,10,17] [6,7] [6,7] rfl rfl rfl ⟨⟨U,rfl⟩,rfl⟩ rfl (by kernel_rfl) rfl rfl rfl ?_
  refine Qg e [.O 6 (.var (Qt j.2.2.now)),.O 7 (.var (Qr j.2.1)),2,.K [6,7] [6,7]] Z (a2_ Z Z) ?_
  cases h
  exact AK.done (ex_ [_,_] (an_ (an_ (ex_ _ (ex_ _ (an_ Z (an_ Z (Or.inl (an_ (Qe.ag Z) (an_ (Qe.sz Z) Z))))))) (an_ (ex_ _ (ex_ _ (an_ Z (an_ Z (Or.inl (an_ (Qe.ag Z) (an_ (Qe.sz Z) Z))))))) U)) (gives U)))
 ·replace h:Ua l f t q d2=some r:=h
  obtain⟨d7,b9,h⟩:=Qp h
  refine Qg e [.cm (.fn) [(617,17)] [(17,617)] [] [.d] [(617,.var (Qx (QB.mk l t q)))] (.clo (.func 73) [.L 617] []),7,.o (.any (.b false) none),1,.A (Qa l),.A (Qt f),.o (.C2 (.b d7)),4] Z (a5_ (WO _ u) (λσ p h2 _=>Qf.eqFn Z Z (QI e.n Z) (p _ _ Z) (p _ _ Z) QeC) Z Z (AW _ _ _ b9)) ?_
  rcases Xn h with⟨S,h⟩|⟨S,h⟩
  ·obtain⟨c0,c1,h⟩:=Qp h
   refine Qg e [.T,2,.A (Qt f),.o (.C1 (.agg (Qt c0))),.v .no [none,none,some 1] (.agg (Qr (Qz.mk 1 0 ([]:LI_)))),1,.O 6 (.var (Qt c0)),1,.O 7 (.var (Qr (Qz.mk 1 0 ([]:LI_)))),4,.K [6,7] [6,7]] Z (a6_ S Z (YB _ _ c1) Z Z Z) ?_
   cases h
   exact AK.done (ex_ [_,_] (an_ (an_ (ex_ _ (ex_ _ (an_ Z (an_ Z (Or.inl (an_ (Qe.ag Z) (an_ (Qe.sz Z) Z))))))) (an_ (ex_ _ (ex_ _ (an_ Z (an_ Z (Or.inl (an_ (Qe.ag Z) (an_ (Qe.sz Z) Z))))))) U)) (gives U)))
  obtain⟨k,c3,h⟩:=Qp h
  refine Qg e [.F,5,.cm (.clo) [(617,17)] [(17,617)] [] [.d] [(617,.var (Qx k.2.2))] (.tup [.agg (Qr k.2.1),.I k.1]),5,.O 10 (.var (Qr k.2.1)),10] Z (a3_ S (Zc _ _ c3) Z) ?_
  rcases Xn h with⟨a0,h⟩|⟨a0,h⟩
  ·obtain⟨c4,c5,h⟩:=Qp h
   refine Qg e [.T,2,.A (Qt f),.o (.C1 (.agg (Qt c4))),1,.v .no [none,none,some 1] (.agg (Qr (Qz.mk k.1 0 ([]:LI_)))),1,.O 6 (.var (Qt c4)),1,.O 7 (.var (Qr (Qz.mk k.1 0 ([]:LI_)))),4,.K [6,7] [6,7]] Z (a6_ a0 Z (YB _ _ c5) Z Z Z) ?_
   cases h
   exact AK.done (ex_ [_,_] (an_ (an_ (ex_ _ (ex_ _ (an_ Z (an_ Z (Or.inl (an_ (Qe.ag Z) (an_ (Qe.sz Z) Z))))))) (an_ (ex_ _ (ex_ _ (an_ Z (an_ Z (Or.inl (an_ (Qe.ag Z) (an_ (Qe.sz Z) Z))))))) U)) (gives U)))
  refine Qg e [.F,3,.K [6,7,8,10] [6,7,10,17]] Z (A a0) ?_
  refine AK.draw2 Qe e mixed [.N,.N,.N,.E (.agg (Qt k.2.2.now)),.a .no (some ([],.agg (Qr k.2.1))) true,.m .s,.m .s] [6,7,8,10] [7,10,17] [6,7] [6,7] rfl rfl rfl ⟨⟨U,rfl⟩,rfl⟩ rfl (by kernel_rfl) rfl rfl rfl ?_
  refine Qg e [.O 6 (.var (Qt k.2.2.now)),.O 7 (.var (Qr k.2.1)),2,.K [6,7] [6,7]] Z (a2_ Z Z) ?_
  cases h
  exact AK.done (ex_ [_,_] (an_ (an_ (ex_ _ (ex_ _ (an_ Z (an_ Z (Or.inl (an_ (Qe.ag Z) (an_ (Qe.sz Z) Z))))))) (an_ (ex_ _ (ex_ _ (an_ Z (an_ Z (Or.inl (an_ (Qe.ag Z) (an_ (Qe.sz Z) Z))))))) U)) (gives U)))
 replace h:HZ f d3=some r:=h
 obtain⟨c6,c7,h⟩:=Qp h
 refine Qg e [.cm (.fn) [(617,17)] [(17,617)] [] [.d] [(617,.var (Qx (QB.mk l t q)))] (.lit (.nilFunc)),7,.o (.any (.b true) none),11,.A (Qt f),.o (.C1 (.agg (Qt c6))),.v .no [none,none,some 1] (.agg (Qr (Qz.mk 1 0 ([]:LI_)))),1,.O 6 (.var (Qt c6)),1,.O 7 (.var (Qr (Qz.mk 1 0 ([]:LI_)))),4,.K [6,7] [6,7]] Z (a7_ (WO _ u) (λσ p h2 _=>Qf.eqFn0 Z Z (QI e.n Z) (p _ _ Z) (p _ _ Z) QeC) Z (YB _ _ c7) Z Z Z) ?_
 cases h
 exact AK.done (ex_ [_,_] (an_ (an_ (ex_ _ (ex_ _ (an_ Z (an_ Z (Or.inl (an_ (Qe.ag Z) (an_ (Qe.sz Z) Z))))))) (an_ (ex_ _ (ex_ _ (an_ Z (an_ Z (Or.inl (an_ (Qe.ag Z) (an_ (Qe.sz Z) Z))))))) U)) (gives U)))
def Av (e:(L_ Xt))(g:Ql)(c:Int)(f:QT)(a:(L_ Qz)):O_ ((Int×QT×(L_ Qz))⊕(QT×(L_ Qz))):=bif (c<(e.length:Int))then (idx e c).bind λd=>(YH g f d).bind λb=>(chk (a.length+([b.2]:L_ Qz).length<=4294967296)).bind λ_=>some (.inl ((Qq (c+1)),b.1,(a++([b.2]:L_ Qz))))else some (.inr (f,a))
def TB (a:QT)(b:(L_ Qz)):O_ ((L_ Qz)×QT):=some (b,a)
def BG (a:Ql)(b:QT)(c:(L_ Xt)):O_ ((L_ Qz)×QT):=(Yp b).bind λd=>(QQ (λst=>Av c a st.1 st.2.1 st.2.2) (0,d,([]:L_ Qz))).bind (λq=>TB q.1 q.2)
def Na (j w i):CT 12 [.agg (Qa j),.agg (Qt w),.sl 7 (i.map XF)] [] (BG j w i) (λr=>(.tup [.agg (Qt r.2),.sl 3 (r.1.map Qr)])) no_:=by
 refine W 34 func12 rfl λC k r h=>?_
 obtain⟨z,x,h⟩:=Qp h
 refine Qg k [10,.A (Qt w),.o (.C1 (.agg (Qt z))),1,.O 4 (.var (Qt z)),11,.o (.ln i.length),4,.adopt 8 27 3,.O 27 (.arr 3 (([]:L_ Qz).map Qr)),.S 8 (.own 27 ([]:L_ Qz).length),.K [3,4,6,8,14,15,16] [3,4,6,27]] Z (a6_ Z (YB _ _ x) Z Qd Z (congrArg (λn=>V.own 27 n) (by simp))) ?_
 obtain⟨y,l,h⟩:=Qp h
 refine AK.loop (body:=(λst=>Av i j st.1 st.2.1 st.2.2)) (λst σ=>σ=⟨[lk_ 3,lk_ 4,lk_ 6,(8,.own 27 st.2.2.length),(14,.sl 7 (i.map XF)),(15,.I (i.length:Int)),(16,.I st.1)],[(3,.var (Qa j)),(4,.var (Qt st.2.1)),(6,.var [.Y,.Y,.I 0,.I 0]),(27,.arr 3 (st.2.2.map Qr))]⟩) (λq e σ=>e=.exit 0/\σ=⟨[lk_ 4,lk_ 6,(8,.own 27 q.2.length)],[(4,.var (Qt q.1)),(6,.var [.Y,.Y,.I 0,.I 0]),(27,.arr 3 (q.2.map Qr))]⟩) l rfl ?_ ?_
 ·rintro ⟨N,D,m⟩ o σ rfl h
  refine tg_ k [6] ?_
  rcases Xn h with⟨b,h⟩|⟨b,h⟩
  ·obtain⟨f,p,h⟩:=Qp h
   obtain⟨a,s,h⟩:=Qp h
   obtain⟨t,h⟩:=Pj h
   refine Qg k [.T,6,.o (.row (XF f)),.A (XF f),2,.O 10 (.var (XF f)),9,.A (Qa j),.A (Qt D),.A (XF f),.o (.C3 (.tup [.agg (Qt a.1),.agg (Qr a.2)])),4,.O 4 (.var (Qt a.1)),1,.O 11 (.var (Qr a.2)),4,.A (Qr a.2),.v (.bd []) [] (.sl 3 (([a.2]:L_ Qz).map Qr)),.app ((m++([a.2]:L_ Qz)).map Qr) (m++([a.2]:L_ Qz)).length,8,.K [3,4,6,8,14,15,16] [3,4,6,27]] Z ⟨⟨⟨⟨⟨⟨⟨⟨⟨⟨⟨⟨⟨U,b⟩,(Xd p)⟩,Z⟩,Z⟩,Z⟩,Z⟩,Z⟩,(Ub _ _ _ _ s)⟩,Z⟩,Z⟩,Z⟩,Z⟩,⟨Qd,Bd t Qd,JS,Gi Qd⟩⟩ ?_
   cases h
   exact Pi Z Z
  refine Qg k [.F,2,.K [4,6,8] [4,6,27]] Z (A b) ?_
  cases h
  exact RF Z (an_ Z Z)
 obtain⟨g,u⟩:=y
 replace h:TB g u=some r:=h
 rintro e σ ⟨rfl,rfl⟩
 refine Qg k [4,.A (Qt g),2,.O 6 (.var (Qt g)),4,.frz 27 (u.map Qr) [7] [],.K [6,7] [6]] Z (a3_ Z Z (A (Wr Qd))) ?_
 cases h
 exact AK.done (ex_ [_,_] (an_ (an_ (ex_ _ (ex_ _ (an_ Z (an_ Z (Or.inl (an_ (Qe.ag Z) (an_ (Qe.sz Z) Z))))))) (an_ Z U)) (gives U)))
def QeQ (c:LI_)(d:LI_)(a:Int):O_ (Int⊕(Unit⊕Unit)):=bif (a<(c.length:Int))then (idx c a).bind λe=>(idx d a).bind λb=>bif (e != b)then some (.inr (.inl ()))else some (.inl (Qq (a+1)))else some (.inr (.inr ()))
def QeR : O_ Bool:=some false
def QeS : O_ Bool:=some true
def Sc (a:LI_)(b:LI_):O_ Bool:=bif ((a.length:Int) != (b.length:Int))then some false else (QQ (λst=>QeQ a b st) 0).bind (Sum.elim (λq=>QeR) (λq=>QeS))
def TC (g j):CT 25 [.sl 1 (g.map Qb),.sl 1 (j.map Qb)] [] (Sc g j) V.b no_:=
 W 26 func25 Z λC c r h=>K c [9,.o (.ln g.length),1,.o (.ln j.length),3] Z Qd Qd<|I h (λe h=>J c [.T,7] Z e<|E h Z U) λe h=>J c [.F,9] Z e<|lq_ h (λst=>⟨[(0,.sl 1 (g.map Qb)),(1,.sl 1 (j.map Qb)),(5,.I st)],[]⟩) (λq=>(.ret,⟨[(4,.b false)],[]⟩)) (λq=>(.exit 0,⟨[],[]⟩)) Z (λp o h=>J c [5,.o (.ln g.length),3] Z Qd<|I h (λf h=>B h λm k h=>B h λl i h=>G c [.T,5] Z (A f) <| 
  dr_ c [.N,.N,.B (.row (Qb m)),.N,.N,.N,.B (.row (Qb l)),.N,.N] [] [] [0,1,5,25] [] Z Z (a2_ (Xd k) (Xd i)) Z <|
  H c [1] Z<|I h (λd h=>J c [.T,8] Z d<|rR_ h Z) λd h=>J c [.F,8] Z d<|rN_ h Z) λf h=>J c [.F,2] Z f<|rX_ h Z) (λ_ h=>H c [2] Z<|E h Z U) (λ_ h=>H c [8] Z<|E h Z U)
def Zd (a:Unit):O_ Int:=some 0
noncomputable def Ga (D:Int)(y:Int)(h:Int):O_ (Int⊕Empty):=some (.inl (Qq (D+h)))
def Od (a:Int):O_ Int:=some a
noncomputable def Ia (h:QBg):O_ Int:=(Cw (λst p=>Ga st p.1 p.2) 0 h).bind (Sum.elim (λq=>Od q) (λq=>Empty.elim q))
def CS (a:QBg):O_ Int:=(LK a).bind (Sum.elim (λq=>Zd q) (λq=>Ia q))
def Oe (z):CT 58 [.sl 2 (z.map QW)] [] (CS z) V.I no_:=by
 refine W 23 func58 rfl λC a r h=>?_
 obtain⟨N,j,h⟩:=Qp h
 refine tg_ a [8] ?_
 rcases N with(O | v)
 ·exact have h:Zd O=some r:=h;K a [.cm (.fn) [] [] [] [.d] [] (.tup [.lit (.map none),.b false]),16,.x (λσ=>(σ.set 14 .itr0).put 14 (.L 14)),3] Z (ES _ j) (Qf.range0 Z Z (QI a.n Z) Z Gy Z)<|AK.loopOnce<|J a [2,.x (λσ=>σ.put 15 (.tup [.b false])),17] Z (Qf.next0 Z Z (QI a.n Z) Z Z)<|E h Z U
 replace h:Ia v=some r:=h
 refine Qg a [.cm (.fn) [] [(10,601)] [] [.d] [(601,.map (QG V.I V.I v))] (.tup [.map 601,.b true]),16] Z (A (ES _ j)) ?_
 refine AK.openMap (b:=10) Ey rfl λc g L7 k l=>?_
 refine Qg a [.x (λσ=>(σ.set 14 (.itr c g #[] none)).put 14 (.L 14)),3,.K [5,14] [10,14]] Z (A (Qf.range (b:=10) Z Z (QI a.n Z) Z Z Gy Z)) ?_
 obtain⟨w,s,h⟩:=Qp h
 refine AK.range (body:=(λst p=>Ga st p.1 p.2)) (λst seen σ=>∃cur:O_ Nat,σ=⟨[(5,.I st),lk_ 14],[(10,.mapX c g (CZ V.I V.I L7) (QG V.I V.I v)),(14,.itr c g seen cur)]⟩) (λ(q:Empty) _ _=>False) (λst e σ=>e=.exit 0/\σ=⟨[(5,.I st)],[]⟩) k l s (ex_ _ rfl) ?_ ?_
 ·rintro y seen σ ⟨cur,rfl⟩ hex
  refine tg_ a [2] ?_
  refine AK.nextT (b:=14) (m:=10) rfl rfl rfl (QI a.n rfl) rfl rfl rfl rfl ?_ ?_
  ·intro hleft
   refine tg_ a [7,.K [5] []] ?_
   exact AK.done (Or.inl (an_ hleft (an_ (λh=>(by cases h)) (an_ Z Z))))
  intro D t u i
  obtain⟨o,h⟩:=hex _ i
  have ho:=h
  replace h:Ga y t u=some o:=h
  refine Qg a [10,.x (λσ=>σ.put 17 (.tup [.I t,.I u])),11,.K [5,14] [10,14]] Z (A (Qf.entryT (b:=14) (m:=10) (e:=V.I) (f:=V.I) Z Z (QI a.n Z) Z i Z Z)) ?_
  cases h
  exact AK.done (Or.inr (ex_ _ (an_ i (Or.inl (ex_ _ (an_ ho (an_ Z (ex_ _ Z))))))))
 rcases w with(y | q)
 ·replace h:Od y=some r:=h
  unfold Od at h
  rintro e σ ⟨rfl,rfl⟩
  exact H a [9] Z<|E h Z U
 exact q.elim
def QeT (a:Ql)(b:QMk):O_ Bool:=bif (0<=a.To)then bif (a.To<(b.length:Int))then (idx b a.To).bind λc=>(CS c).bind λd=>some (decide (0<d))else some false else some false
def QeU (a:Bool):O_ Bool:=some a
def QbK (a:Ql)(b:QMk):O_ Bool:=(QeT a b).bind (λc=>QeU c)
def QeV (l g):CT 87 [.agg (Qa l),.sl 1 (g.map Qm)] [] (QbK l g) V.b no_:=
 W 24 func87 Z λC a r h=>H a [7] Z<|mV_ h (λi=>⟨[(4,.b i)],[]⟩) (λi h=>H a [5] Z<|I h (λe h=>G a [.S 8 (.b true),3,.o (.ln g.length),3] Z ⟨(tc_ e),Qd⟩<|I h (λf h=>B h λm j h=>B h λp k h=>G a [.S 15 (.b true),3,.o (.row (Qm m)),1,.o (.C1 (.I p)),4] Z ⟨⟨(tc_ f),(Xd j)⟩,(Oe _ _ k)⟩<|mq_ h Z) λf h=>L a [.S 15 (.b false),10] Z f<|mq_ h Z) λe h=>L a [.S 8 (.b false),17] Z e<|mq_ h Z) λi h=>H a [2] Z<|E h Z U
def QeW (a:QMk)(b:Ql):O_ Bool:=bif ((a.length:Int) != (b.Places.length:Int))then some true else (QbK b a).bind λc=>some (!c)
def Nb (b:QBg)(c:Int)(a:Int):O_ (Int⊕(Unit⊕Unit)):=(CS b).bind λd=>bif (d != a)then some (.inr (.inl ()))else some (.inl (Qq (c+1)))
def QeX (c:QMk)(d:Ql)(a:Int):O_ (Int⊕(Unit⊕Unit)):=bif (a<(c.length:Int))then (idx c a).bind λb=>bif (a==d.To)then Nb b a 1 else Nb b a 0 else some (.inr (.inr ()))
def QeY : O_ Bool:=some false
def QeZ : O_ Bool:=some true
def Qe0 (a:QMk)(b:Ql)(c:Bool):O_ Bool:=bif c then some false else (QQ (λst=>QeX a b st) 0).bind (Sum.elim (λq=>QeY) (λq=>QeZ))
def QbL (a:Ql)(b:QMk):O_ Bool:=(QeW b a).bind (λc=>Qe0 b a c)
def Qe1 (k j):CT 51 [.agg (Qa k),.sl 1 (j.map Qm)] [] (QbL k j) V.b no_:=
 W 36 func51 Z λC e r h=>H e [8] Z<|mV_ h (λw=>⟨[(1,.sl 1 (j.map Qm)),lk_ 2,(19,.b w)],[(2,.var (Qa k))]⟩) (λw h=>K e [2,.o (.ln j.length),2,.o (.ln k.Places.length),2] Z Qd Qd<|I h (λl h=>L e [.S 14 (.b true),6] Z l<|mq_ h Z) λl h=>B h λz x h=>G e [.S 14 (.b false),.A (Qa k),1,.o (.C2 (.b z)),3] Z ⟨⟨(tc_ l),Z⟩,(QeV _ _ _ x)⟩<|mq_ h Z) λw h=>H e [1] Z<|I h (λm h=>J e [.T,7] Z m<|E h Z U) λm h=>K e [.F,6,.o (.ln j.length),4] Z m Qd<|lq_ h (λst=>⟨[lk_ 2,(20,.sl 1 (j.map Qm)),(21,.I (j.length:Int)),(22,.I st)],[(2,.var (Qa k))]⟩) (λq=>(.ret,⟨[(4,.b false)],[]⟩)) (λq=>(.exit 0,⟨[],[]⟩)) Z (λs o h=>H e [6] Z<|I h (λf h=>B h λp t h=>K e [.T,7,.o (.row (Qm p)),10] Z f (Xd t)<|mE_ (λa:Int=>⟨[lk_ 2,(6,.sl 2 (p.map QW)),(7,.I a),(20,.sl 1 (j.map Qm)),(21,.I (j.length:Int)),(22,.I s)],[(2,.var (Qa k))]⟩) (λa=>Nb p s a=some o) (H e [8] Z<|I h (λg h=>J e [.T,3] Z g<|me_ h Z) λg h=>J e [.F,1] Z g<|me_ h Z) λa h=>B h λy u h=>J e [3,.o (.C1 (.I y)),4] Z (Oe _ _ u)<|I h (λi h=>J e [.T,8] Z i<|rR_ h Z) λi h=>J e [.F,7] Z i<|rN_ h Z) λf h=>J e [.F,2] Z f<|rX_ h Z) (λ_ h=>H e [2] Z<|E h Z U) (λ_ h=>H e [8] Z<|E h Z U)
def QdE (b:Ql)(a:QT):O_ Bool:=(QbL b a.M).bind λc=>bif c then some ((a.Items.length:Int)==0)else some false
def QdF (a:Bool):O_ Bool:=some a
def Pr (a:Ql)(b:QT):O_ Bool:=(QdE a b).bind (λc=>QdF c)
def Sd (f g):CT 26 [.agg (Qa f),.agg (Qt g)] [] (Pr f g) V.b no_:=
 W 15 func26 Z λC e r h=>H e [8] Z<|mV_ h (λi=>⟨[(4,.b i)],[]⟩) (λi h=>B h λk j h=>K e [1,.A (Qa f),2,.o (.C2 (.b k)),1] Z Z (Qe1 _ _ _ j)<|I h (λa h=>G e [.S 9 (.b true),2,.o (.ln g.Items.length),4] Z ⟨(tc_ a),Qd⟩<|mq_ h Z) λa h=>L e [.S 9 (.b false),7] Z a<|mq_ h Z) λi h=>H e [2] Z<|E h Z U
def Kk (c:QBg)(e:QBg)(b:Int):O_ (Int⊕(Unit⊕Unit)):=bif (b<(c.length:Int))then (idx c b).bind λd=>(idx e b).bind λa=>bif (!((d.1==a.1)&&(d.2==a.2)))then some (.inr (.inl ()))else some (.inl (Qq (b+1)))else some (.inr (.inr ()))
def Mo : O_ Bool:=some false
def Mp : O_ Bool:=some true
def KZ (a:QBg)(b:QBg):O_ Bool:=bif ((a.length:Int) != (b.length:Int))then some false else (QQ (λst=>Kk a b st) 0).bind (Sum.elim (λq=>Mo) (λq=>Mp))
def Mq (i k):CT 82 [.sl 2 (i.map QW),.sl 2 (k.map QW)] [] (KZ i k) V.b no_:=
 W 26 func82 Z λC c r h=>K c [9,.o (.ln i.length),1,.o (.ln k.length),3] Z Qd Qd<|I h (λf h=>J c [.T,7] Z f<|E h Z U) λf h=>K c [.F,6,.o (.ln i.length),4] Z f Qd<|lq_ h (λst=>⟨[(0,.sl 2 (i.map QW)),(1,.sl 2 (k.map QW)),(12,.I (i.length:Int)),(13,.I st)],[]⟩) (λq=>(.ret,⟨[(4,.b false)],[]⟩)) (λq=>(.exit 0,⟨[],[]⟩)) Z (λs o h=>H c [6] Z<|I h (λg h=>B h λl m h=>B h λe j h=>G c [.T,11] Z (A g) <| 
  dr_ c [.N,.N,.B (.row (QW l)),.E (.agg (QW l)),.N,.N,.B (.row (QW e)),.E (.agg (QW e)),.B (.any (.b (!((l.1==e.1)&&(l.2==e.2)))) none)] [] [] [0,1,12,13,24] [] Z Z (a5_ (Xd m) Z (Xd j) Z (λσ p t _=>Qf.neAgg Z Z (QI c.n Z) (p _ _ Z) (p _ _ Z) Z Z (Qmn _ _ _ _))) Z <|
  H c [1] Z<|I h (λd h=>J c [.T,8] Z d<|rR_ h Z) λd h=>J c [.F,7] Z d<|rN_ h Z) λg h=>J c [.F,2] Z g<|rX_ h Z) (λ_ h=>H c [2] Z<|E h Z U) (λ_ h=>H c [8] Z<|E h Z U)
def QaL (b:QBg)(c:QBg):O_ Bool:=(Db b).bind λd=>bif d then (Db c).bind λe=>bif e then (KZ b c).bind λa=>some a else some false else some false
def QgV (a:Bool):O_ Bool:=some a
def Ri (a:QBg)(b:QBg):O_ Bool:=(QaL a b).bind (λc=>QgV c)
def QgW (m p):CT 46 [.sl 2 (m.map QW),.sl 2 (p.map QW)] [] (Ri m p) V.b no_:=
 W 16 func46 Z λC a r h=>H a [6] Z<|mV_ h (λi=>⟨[(4,.b i)],[]⟩) (λi h=>B h λq j h=>J a [2,.o (.C1 (.b q)),1] Z (Bi _ _ j)<|I h (λe h=>B h λs k h=>G a [.S 7 (.b true),1,.o (.C1 (.b s)),2] Z ⟨(tc_ e),(Bi _ _ k)⟩<|I h (λf h=>B h λl g h=>G a [.S 11 (.b true),2,.o (.C2 (.b l)),3] Z ⟨(tc_ f),(Mq _ _ _ g)⟩<|mq_ h Z) λf h=>L a [.S 11 (.b false),6] Z f<|mq_ h Z) λe h=>L a [.S 7 (.b false),10] Z e<|mq_ h Z) λi h=>H a [2] Z<|E h Z U
def XI (d:QMk)(e:QMk)(a:Int):O_ (Int⊕(Unit⊕Unit)):=bif (a<(d.length:Int))then (idx d a).bind λf=>(idx e a).bind λb=>(Ri f b).bind λc=>bif (!c)then some (.inr (.inl ()))else some (.inl (Qq (a+1)))else some (.inr (.inr ()))
def WH : O_ Bool:=some false
def WI : O_ Bool:=some true
def Yh (a:QMk)(b:QMk):O_ Bool:=bif ((a.length:Int) != (b.length:Int))then some false else (QQ (λst=>XI a b st) 0).bind (Sum.elim (λq=>WH) (λq=>WI))
def WJ (i l):CT 45 [.sl 1 (i.map Qm),.sl 1 (l.map Qm),.clo (.func 46) [] []] [] (Yh i l) V.b no_:=
 W 32 func45 Z λC e r h=>K e [9,.o (.ln i.length),1,.o (.ln l.length),3] Z Qd Qd<|I h (λf h=>J e [.T,7] Z f<|E h Z U) λf h=>K e [.F,6,.o (.ln i.length),4] Z f Qd<|lq_ h (λst=>⟨[(1,.sl 1 (l.map Qm)),(2,.clo (.func 46) [] []),(15,.sl 1 (i.map Qm)),(16,.I (i.length:Int)),(17,.I st)],[]⟩) (λq=>(.ret,⟨[(6,.b false)],[]⟩)) (λq=>(.exit 0,⟨[],[]⟩)) Z (λu o h=>H e [6] Z<|I h (λg h=>B h λt m h=>B h λp j h=>B h λs k h=>g4_ e [.T,7,.o (.row (Qm t)),9,.o (.row (Qm p)),9,.o (.C2 (.b s)),3] Z g (Xd m) (Xd j) (QgW _ _ _ k)<|I h (λa h=>J e [.T,8] Z a<|rR_ h Z) λa h=>J e [.F,7] Z a<|rN_ h Z) λg h=>J e [.F,2] Z g<|rX_ h Z) (λ_ h=>H e [2] Z<|E h Z U) (λ_ h=>H e [8] Z<|E h Z U)
def CU (a:QMk)(b:QMk):O_ Bool:=(Yh a b).bind λc=>some c
def BH (c e):CT 20 [.sl 1 (c.map Qm),.sl 1 (e.map Qm)] [] (CU c e) V.b no_:=
 W 8 func20 Z λC f r h=>B h λg a h=>J f [9,.cm (.fn) [] [] [] [.d,.d,.d] [] (.b g),4] Z (WJ _ _ _ a)<|E h Z U
def TD (a:Ql)(b:QS):O_ (Ql×QS):=some (a,b)
def QbM (a b):CT 228 [.agg (Qa a),.agg (Qi b)] [] (TD a b) (λ_=>(.clo (.func 294) [] [.L 3,.L 2])) (λr=>[(2,.var (Qa r.1)),(3,.var (Qi r.2))]):=
 W 6 func228 Z λC c r h=>H c [14] Z<|E h Z r2_
def WU (a:QLL):O_ QLL:=(chk ((([]:QLL).length+a.length)*24<=140737488355328)).bind λ_=>some (([]:QLL)++a)
def Og (b):CT 230 [.sl 1 (b.map QU)] [] (WU b) (λr=>(.own 600 r.length)) (λr=>[(600,.arr 1 (r.map QU))]):=by
 refine W 8 func230 rfl λC a r h=>?_
 unfold WU at h
 refine tg_ a [9] ?_
 refine AK.eqNil rfl rfl rfl (QI a.n rfl) rfl rfl Qmo ?_ ?_
 ·intro c
  replace h:some ([]:QLL)=some r:=by simpa[chk,List.map_eq_nil_iff.1 c] using h
  exact K a [10,.adopt 2 600 1,.O 600 (.arr 1 (([]:QLL).map QU)),.S 2 (.own 600 ([]:QLL).length)] Z Z Z<|E h Z r1_
 exact X h λd h=>g3_ a [8,.O 5 (.arr 1 (([]:QLL).map QU)),.S 5 (.own 5 ([]:QLL).length),1,.x (λσ=>σ.app 5 1 7 (([]:QLL)++b).length ((([]:QLL)++b).map QU)),4,.K [2] [5],.ren 5 600] Z Z Z (Qf.appSB (by_:=24) (zs:=[.Y]) (e:=43) (e':=43) (z':=1) (by':=24) Z Z (QI a.n Z) Z Z Z Qd (by kernel_rfl) (by kernel_rfl) (by kernel_rfl) Z (by decide) (by decide) (Me d Qd) Z JS (Gi Qd))<|E h Z r1_
def BI (a:LI_)(b:Xr):O_ Bool:=(Yf b a).bind λc=>some (c != 0)
def PL (a e):CT 231 [.sl 1 (a.map Qb),.L 617] [(617,.var (QF e))] (BI a e) V.b (λ_=>[(617,.var (QF e))]):=
 W 8 func231 Z λC g r h=>B h λi f h=>K g [7,.A (QF e),1,.o (.C2 (.I i)),5] Z Z (Lb _ _ _ f)<|E h Z r1_
def WK (c:QLL)(d:Xr)(a:Int):O_ (Int⊕(Int⊕Unit)):=bif (a<(c.length:Int))then (idx c a).bind λe=>(BI e d).bind λb=>bif b then some (.inr (.inl a))else some (.inl (Qq (a+1)))else some (.inr (.inr ()))
def LS (a:Int):O_ Int:=some a
def LT : O_ Int:=some (-1)
def KC (a:QLL)(b:Xr):O_ Int:=(QQ (λst=>WK a b st) 0).bind (Sum.elim (λq=>LS q) (λq=>LT))
def LU (c f):CT 295 [.own 617 c.length,.clo (.func 231) [] [.L 618]] [(617,.arr 1 (c.map QU)),(618,.var (QF f))] (KC c f) V.I (λ_=>[(617,.arr 1 (c.map QU)),(618,.var (QF f))]):=
 W 19 func295 Z λC e r h=>H e [14] Z<|lq_ h (λst=>⟨[(0,.own 617 c.length),(1,.clo (.func 231) [] [.L 618]),(7,.I (c.length:Int)),(8,.I st)],[(617,.arr 1 (c.map QU)),(618,.var (QF f))]⟩) (λq=>(.ret,⟨[(4,.I q)],[(617,.arr 1 (c.map QU)),(618,.var (QF f))]⟩)) (λq=>(.exit 0,⟨[],[(617,.arr 1 (c.map QU)),(618,.var (QF f))]⟩)) Z (λm o h=>H e [6] Z<|I h (λg h=>B h λl i h=>B h λk j h=>g4_ e [.T,16,.o (.row (QU l)),.cm (.clo) [(617,618)] [(618,617)] [] [.d,.d] [(617,.var (QF f))] (.b k),2] Z g (Yx i Z) (Xz (YV i).2) (PL _ _ _ j)<|I h (λa h=>J e [.T,9] Z a<|rR_ h Z) λa h=>J e [.F,7] Z a<|rN_ h Z) λg h=>J e [.F,2] Z g<|rX_ h Z) (λp h=>H e [2] Z<|E h Z r2_) (λ_ h=>H e [8] Z<|E h Z r2_)
def Ww (a:Int)(b:Int)(c:QLL):O_ ((Int×Int×QLL)⊕(Int×QLL)):=some (.inl (b,(Qq (a+1)),c))
def JN (f:Xr)(c:Int)(b:Int)(a:QLL):O_ ((Int×Int×QLL)⊕(Int×QLL)):=bif (b<(a.length:Int))then (idx a b).bind λd=>(BI d f).bind λe=>bif (!e)then (idx a c).bind λg=>Ww b (Qq (c+1)) (a.set c.toNat d)else Ww b c a else some (.inr (c,a))
def JO (a:Int)(b:QLL):O_ QLL:=(chk (decide (0<=a)&&decide (a.toNat<=b.length))).bind λ_=>(chk (decide (0<=a)&&decide (a.toNat<=(b.take a.toNat++List.replicate (b.length-a.toNat) (([]:LI_):LI_)).length))).bind λ_=>some ((b.take a.toNat++List.replicate (b.length-a.toNat) (([]:LI_):LI_)).take a.toNat)
def Kr (a:QLL)(c:Xr):O_ QLL:=(KC a c).bind λb=>bif (b==(-1))then some a else (QQ (λst=>JN c st.1 st.2.1 st.2.2) (b,(Qq (b+1)),a)).bind (λq=>JO q.1 q.2)
def Lf (P p):CT 229 [.own 617 P.length,.clo (.func 231) [] [.L 618]] [(617,.arr 1 (P.map QU)),(618,.var (QF p))] (Kr P p) (λr=>(.own 617 r.length)) (λr=>[(617,.arr 1 (r.map QU)),(618,.var (QF p))]):=by
 refine W 42 func229 rfl λC g r h=>?_
 obtain⟨x5,a0,h⟩:=Qp h
 refine Qg g [9,.cm (.fn) [(617,617),(618,618)] [(617,617),(618,618)] [] [.d,.d] [(617,.arr 1 (P.map QU)),(618,.var (QF p))] (.I x5),10] Z (A (LU _ _ _ a0)) ?_
 rcases Xn h with⟨v,h⟩|⟨v,h⟩
 ·exact J g [.T,8] Z v<|E h Z r2_
 refine Qg g [.F,11,.K [0,1,5,6] [617,618]] Z (A v) ?_
 obtain⟨a1,z,h⟩:=Qp h
 refine AK.loop (body:=(λst=>JN p st.1 st.2.1 st.2.2)) (λst σ=>σ=⟨[(0,.own 617 st.2.2.length),(1,.clo (.func 231) [] [.L 618]),(5,.I st.1),(6,.I st.2.1)],[(617,.arr 1 (st.2.2.map QU)),(618,.var (QF p))]⟩) (λq e σ=>e=.exit 0/\σ=⟨[(0,.own 617 q.2.length),(5,.I q.1)],[(617,.arr 1 (q.2.map QU)),(618,.var (QF p))]⟩) z rfl ?_ ?_
 ·rintro ⟨i9,D,N⟩ o σ rfl h
  refine tg_ g [9] ?_
  refine bq_ g h [.T,2] rfl (λk h=>?_) [.F,2,.K [0,5] [617,618]] rfl λk h=>?_
  ·refine AK.meet (λσ=>∃w:Int,∃s:QLL,σ=⟨[(0,.own 617 s.length),(1,.clo (.func 231) [] [.L 618]),(5,.I w),(6,.I D)],[(617,.arr 1 (s.map QU)),(618,.var (QF p))]⟩/\Ww D w s=some o) ?_ ?_
   ·obtain⟨y,t,h⟩:=Qp h
    obtain⟨a2,O,h⟩:=Qp h
    refine Qg g [6,.o (.row (QU y)),7,.cm (.clo) [(617,618)] [(618,617)] [] [.d,.d] [(617,.var (QF p))] (.b a2),3] Z (a3_ (Yx t Z) (Xz (YV t).2) (PL _ _ _ O)) ?_
    rcases Xn h with⟨m,h⟩|⟨m,h⟩
    ·obtain⟨a3,u,h⟩:=Qp h
     refine Qg g [.T,6,.st (QU a3) ((N.set i9.toNat y).map QU),8,.S 0 (.own 617 (N.set i9.toNat y).length),.K [0,1,5,6] [617,618]] Z (a4_ m (Yx u Z) ⟨(Xz (YV u).2),Ug Z⟩ (congrArg (λn=>V.own 617 n) (by simp))) ?_
     exact AK.met (ex_ _ (ex_ _ (an_ Z h)))
    refine Qg g [.F,2,.K [0,1,5,6] [617,618]] Z (A m) ?_
    exact AK.met (ex_ _ (ex_ _ (an_ Z h)))
   rintro σ ⟨w,s,rfl,h⟩
   refine tg_ g [5,.K [0,1,5,6] [617,618]] ?_
   cases h
   exact Pi Z Z
  cases h
  exact RF Z (an_ Z Z)
 obtain⟨a,c⟩:=a1
 replace h:JO a c=some r:=h
 rintro e σ ⟨rfl,rfl⟩
 refine tg_ g [6] ?_
 obtain⟨i,h⟩:=Pj h
 refine AK.clearTail (b:=617) (l:=a.toNat) (n:=c.length) rfl rfl rfl rfl rfl rfl (QI g.n rfl) rfl rfl Qd (Qe.es rfl) QlG rfl rfl rfl (Cv.val rfl (XC (VR i)) rfl) (XC (IQ i)) rfl ?_
 refine AK.denilA (b:=617) [some 1] rfl (Qmj (f:=QU) (x:=(([]:LI_):LI_)) (λ_=>rfl) rfl) ?_
 obtain⟨j,h⟩:=Pj h
 refine Qg g [.S 0 (.own 617 (c.take a.toNat++List.replicate (c.length-a.toNat) (([]:LI_):LI_)).length),.S 36 (.own 617 (c.take a.toNat++List.replicate (c.length-a.toNat) (([]:LI_):LI_)).length),6] Z (a2_ (QjY (XC (IQ i))) (QjY (XC (IQ i)))) ?_
 have a4:a.toNat=((c.take a.toNat++List.replicate (c.length-a.toNat) (([]:LI_):LI_)).take a.toNat).length:=by rw[KS,ZC (XC (IQ j))]
 exact K g [.x (λσ=>(σ.set 617 (.arr 1 (((c.take a.toNat++List.replicate (c.length-a.toNat) (([]:LI_):LI_)).take a.toNat).map QU))).put 41 (.own 617 a.toNat)),.S 41 (.own 617 ((c.take a.toNat++List.replicate (c.length-a.toNat) (([]:LI_):LI_)).take a.toNat).length),4] Z (Qf.sliceO Z Z (QI g.n Z) Z Z (Qe.es Z) Cv.no (Cv.val Z (XC (VR j)) Z) (XC (IQ j)) (by simp)) (Qmc (XC (IQ j)))<|E h Z r2_
def Hn (a:(Int×Xr)):O_ Bool:=bif (a.1 != 0)then some true else (XY a.2).bind λb=>some (b != 0)
def KL (a:Int)(b:(L_ Qk)):O_ ((Int×(L_ Qk))⊕((L_ Qk)⊕(L_ Qk))):=some (.inl ((Qq (a+1)),b))
def Dm (f:QLL)(j:LI_)(h:LI_)(g:Int)(k:Int)(e:Int)(a:(L_ Qk)):O_ ((Int×(L_ Qk))⊕((L_ Qk)⊕(L_ Qk))):=bif (e<(f.length:Int))then (idx f e).bind λi=>(Xs j).bind λb=>(Xs h).bind λc=>(Xs i).bind λd=>(chk (a.length+([(Qk.mk g b c d)]:L_ Qk).length<=4294967296)).bind λ_=>bif (((a++[(Qk.mk g b c d)]).length:Int)==k)then some (.inr (.inl (a++[(Qk.mk g b c d)])))else some (.inl ((Qq (e+1)),(a++[(Qk.mk g b c d)])))else some (.inr (.inr a))
def Ho (a:(L_ Qk)):O_ ((Int×(L_ Qk))⊕((L_ Qk)⊕(L_ Qk))):=some (.inr (.inl a))
def Ut (a:Int)(b:(L_ Qk)):O_ ((Int×(L_ Qk))⊕((L_ Qk)⊕(L_ Qk))):=KL a b
def Dn (g:QLL)(d:(Int×Xr))(e:QLL)(h:LI_)(i:Int)(j:Int)(a:Int)(b:(L_ Qk)):O_ ((Int×(L_ Qk))⊕((L_ Qk)⊕(L_ Qk))):=bif (a<(g.length:Int))then (idx g a).bind λc=>(XM d.2 c).bind λf=>bif (f != 0)then KL a b else (QQ (λst=>Dm e h c i j st.1 st.2) (0,b)).bind (Sum.elim (λq=>Ho q) (λq=>Ut a q))else some (.inr (.inr b))
def Hp (a:(L_ Qk)):O_ ((L_ Qk)⊕(L_ Qk)):=some (.inl a)
def Hq (a:(L_ Qk)):O_ ((L_ Qk)⊕(L_ Qk)):=some (.inr a)
def Dp (e:(L_ Qk))(f:QLL)(a:(Int×Xr))(g:QLL)(h:LI_)(i:Int)(j:Int)(b:Bool):O_ ((L_ Qk)⊕(L_ Qk)):=bif b then some (.inr e)else (WU f).bind λc=>(Kr c a.2).bind λd=>(QQ (λst=>Dn g a d h i j st.1 st.2) (0,e)).bind (Sum.elim (λq=>Hp q) (λq=>Hq q))
def GS (e:Ql)(f:QMk)(c:Int)(g:Int)(k:(L_ Qk))(h:QLL)(i:QLL)(j:(L_ Qk))(d:LI_):O_ ((L_ Qk)⊕(L_ Qk)):=(Jk e f c d).bind λa=>(Hn a).bind (λb=>Dp j i a h d c g b)
def Hr (lpl lpf:Nat)(y:Ql)(z:QMk)(k:Int)(w:Int)(l:(L_ Qk))(j:QLL)(x:QLL)(l8:(L_ Qk))(D:LI_){r:((L_ Qk)⊕(L_ Qk))}(h:GS y z k w l j x l8 D=some r):OU prog lpl (Yk lpf) (Qno (.L 618) (.L 619) (.L 620) (.L 621) (.L 622) (.L 623) (.L 624) (.L 625) (.sl 1 (D.map Qb))) [(617,.lp lpl (Yk lpf) (DD (.L 618) (.L 619) (.L 620) (.L 621) (.L 622) (.L 623) (.L 624) (.L 625)) 0),(618,.var (Qa y)),(619,.var (Yc z)),(620,.var (Qb k)),(621,.var (Qb w)),(622,.var [.own 615 l.length]),(615,.arr 4 (l.map Qo)),(623,.var (Xv j)),(624,.var (Xv x)),(625,.var [.own 616 l8.length]),(616,.arr 4 (l8.map Qo))] ((Sum.elim (λq=>(Gives (.b false) [(615,.arr 4 (l.map Qo)),(616,.arr 4 (q.map Qo)),(617,.lp lpl (Yk lpf) (DD (.L 618) (.L 619) (.L 620) (.L 621) (.L 622) (.L 623) (.L 624) (.L 625)) 2),(618,.var (Qa y)),(619,.var (Yc z)),(620,.var (Qb k)),(621,.var (Qb w)),(622,.var [.own 616 q.length]),(623,.var (Xv j)),(624,.var (Xv x)),(625,.var [.own 616 q.length])])) (λq=>(Gives (.b true) [(615,.arr 4 (l.map Qo)),(616,.arr 4 (q.map Qo)),(617,.lp lpl (Yk lpf) (DD (.L 618) (.L 619) (.L 620) (.L 621) (.L 622) (.L 623) (.L 624) (.L 625)) 0),(618,.var (Qa y)),(619,.var (Yc z)),(620,.var (Qb k)),(621,.var (Qb w)),(622,.var [.own 615 l.length]),(623,.var (Xv j)),(624,.var (Xv x)),(625,.var [.own 616 q.length])]))) r):=by
 refine OU.walk (b:=617) 109 rfl rfl λC i=>?_
 refine tg_ i [3] ?_
 refine AK.done (an_ rfl (ex_ _ (an_ rfl ?_)))
 obtain⟨f,b1,h⟩:=Qp h
 refine Qg i [3,.A (Qa y),3,.o (.C4 (.tup [.agg (QF f.2),.I f.1])),5,.O 14 (.var (QF f.2)),5] Z (a3_ Z (Tv _ _ _ _ _ b1) Z) ?_
 obtain⟨a9,b2,h⟩:=Qp h
 replace h:Dp l8 x f j D k w a9=some r:=h
 refine AK.meetX (λσ=>σ=⟨[(6,.L 620),(7,.L 621),(8,.L 622),(10,.L 623),(11,.L 624),(12,.L 625),(13,.sl 1 (D.map Qb)),lk_ 14,(69,.b a9)],[(14,.var (QF f.2)),(615,.arr 4 (l.map Qo)),(616,.arr 4 (l8.map Qo)),(617,.lp lpl (Yk lpf) (DD (.L 618) (.L 619) (.L 620) (.L 621) (.L 622) (.L 623) (.L 624) (.L 625)) 1),(618,.var (Qa y)),(619,.var (Yc z)),(620,.var (Qb k)),(621,.var (Qb w)),(622,.var [.own 615 l.length]),(623,.var (Xv j)),(624,.var (Xv x)),(625,.var [.own 616 l8.length])]⟩) ?_ ?_
 ·replace h:=b2
  refine tg_ i [4] ?_
  rcases Xn h with⟨P,h⟩|⟨P,h⟩
  ·refine Qg i [.S 65 (.b true),5,.K [6,7,8,10,11,12,13,14,69] [14,615,616,617,618,619,620,621,622,623,624,625]] Z (tc_ P) ?_
   cases h
   exact mt_
  obtain⟨c5,b3,h⟩:=Qp h
  refine Qg i [.S 65 (.b false),.A (QF f.2),.o (.C1 (.I c5)),3,.K [6,7,8,10,11,12,13,14,69] [14,615,616,617,618,619,620,621,622,623,624,625]] Z ⟨⟨(tc_ P),Z⟩,(Hk _ _ b3)⟩ ?_
  cases h
  exact mt_
 rintro σ rfl
 replace h:Dp l8 x f j D k w a9=some r:=h
 refine tg_ i [1] ?_
 rcases Xn h with⟨a0,h⟩|⟨a0,h⟩
 ·refine Qg i [.T,3,.K [] [615,616,617,618,619,620,621,622,623,624,625]] Z (A a0) ?_
  cases h
  refine AK.done ?_
  exact ex_ _ (an_ Z (gives rB_))
 obtain⟨b4,b5,h⟩:=Qp h
 obtain⟨g,b6,h⟩:=Qp h
 refine Qg i [.F,5,.o (.co false [.d] 1 (b4.map QU) b4.length),1,.cm (.fn) [(617,71),(618,14)] [(71,617),(14,618)] [] [.d,.d] [(617,.arr 1 (g.map QU)),(618,.var (QF f.2))] (.own 617 g.length),6,.o (.ln j.length),4,.K [6,7,8,12,13,14,16,74,75,76] [14,71,615,616,617,618,619,620,621,622,623,624,625]] Z (a4_ a0 ⟨(Og _ _ b5),Qd,.inl Z⟩ (Lf _ _ _ b6) Qd) ?_
 obtain⟨c6,b7,h⟩:=Qp h
 refine AK.loop (body:=(λst=>Dn j f g D k w st.1 st.2)) (λst σ=>σ=⟨[(6,.L 620),(7,.L 621),(8,.L 622),(12,.L 625),(13,.sl 1 (D.map Qb)),lk_ 14,(16,.own 71 g.length),(74,.sl 1 (j.map QU)),(75,.I (j.length:Int)),(76,.I st.1)],[(14,.var (QF f.2)),(71,.arr 1 (g.map QU)),(615,.arr 4 (l.map Qo)),(616,.arr 4 (st.2.map Qo)),(617,.lp lpl (Yk lpf) (DD (.L 618) (.L 619) (.L 620) (.L 621) (.L 622) (.L 623) (.L 624) (.L 625)) 1),(618,.var (Qa y)),(619,.var (Yc z)),(620,.var (Qb k)),(621,.var (Qb w)),(622,.var [.own 615 l.length]),(623,.var (Xv j)),(624,.var (Xv x)),(625,.var [.own 616 st.2.length])]⟩) (Sum.elim (λq e σ=>e=.ret/\σ=⟨[],[(615,.arr 4 (l.map Qo)),(616,.arr 4 (q.map Qo)),(617,.lp lpl (Yk lpf) (DD (.L 618) (.L 619) (.L 620) (.L 621) (.L 622) (.L 623) (.L 624) (.L 625)) 1),(618,.var (Qa y)),(619,.var (Yc z)),(620,.var (Qb k)),(621,.var (Qb w)),(622,.var [.own 616 q.length]),(623,.var (Xv j)),(624,.var (Xv x)),(625,.var [.own 616 q.length])]⟩) (λq e σ=>e=.exit 2/\σ=⟨[],[(615,.arr 4 (l.map Qo)),(616,.arr 4 (q.map Qo)),(617,.lp lpl (Yk lpf) (DD (.L 618) (.L 619) (.L 620) (.L 621) (.L 622) (.L 623) (.L 624) (.L 625)) 1),(618,.var (Qa y)),(619,.var (Yc z)),(620,.var (Qb k)),(621,.var (Qb w)),(622,.var [.own 615 l.length]),(623,.var (Xv j)),(624,.var (Xv x)),(625,.var [.own 616 q.length])]⟩)) b7 rfl ?_ ?_
 ·rintro ⟨a1,d4⟩ o σ rfl h
  refine tg_ i [6] ?_
  refine bq_ i h [.T,2] rfl (λa2 h=>?_) [.F,2,.K [] [615,616,617,618,619,620,621,622,623,624,625]] rfl λa2 h=>?_
  ·refine AK.meet (λσ=>∃a6:(L_ Qk),σ=⟨[(6,.L 620),(7,.L 621),(8,.L 622),(12,.L 625),(13,.sl 1 (D.map Qb)),lk_ 14,(16,.own 71 g.length),(74,.sl 1 (j.map QU)),(75,.I (j.length:Int)),(76,.I a1)],[(14,.var (QF f.2)),(71,.arr 1 (g.map QU)),(615,.arr 4 (l.map Qo)),(616,.arr 4 (a6.map Qo)),(617,.lp lpl (Yk lpf) (DD (.L 618) (.L 619) (.L 620) (.L 621) (.L 622) (.L 623) (.L 624) (.L 625)) 1),(618,.var (Qa y)),(619,.var (Yc z)),(620,.var (Qb k)),(621,.var (Qb w)),(622,.var [.own 615 l.length]),(623,.var (Xv j)),(624,.var (Xv x)),(625,.var [.own 616 a6.length])]⟩/\KL a1 a6=some o) ?_ ?_
   ·obtain⟨b0,b8,h⟩:=Qp h
    obtain⟨c7,b9,h⟩:=Qp h
    refine Qg i [3,.o (.row (QU b0)),7,.A (QF f.2),1,.o (.C2 (.I c7)),3] Z (a3_ (Xd b8) Z (La _ _ _ b9)) ?_
    refine bq_ i h [.T,3,.K [6,7,8,12,13,14,16,74,75,76] [14,71,615,616,617,618,619,620,621,622,623,624,625]] rfl (λa3 h=>?_) [.F,10,.K [6,7,8,12,13,14,16,18,74,75,76,84,85,86] [14,71,615,616,617,618,619,620,621,622,623,624,625]] rfl λa3 h=>?_
    ·exact AK.met (ex_ _ (an_ Z h))
    obtain⟨c8,c0,h⟩:=Qp h
    refine AK.loop (body:=(λst=>Dm g D b0 k w st.1 st.2)) (λst σ=>σ=⟨[(6,.L 620),(7,.L 621),(8,.L 622),(12,.L 625),(13,.sl 1 (D.map Qb)),lk_ 14,(16,.own 71 g.length),(18,.sl 1 (b0.map Qb)),(74,.sl 1 (j.map QU)),(75,.I (j.length:Int)),(76,.I a1),(84,.own 71 g.length),(85,.I (g.length:Int)),(86,.I st.1)],[(14,.var (QF f.2)),(71,.arr 1 (g.map QU)),(615,.arr 4 (l.map Qo)),(616,.arr 4 (st.2.map Qo)),(617,.lp lpl (Yk lpf) (DD (.L 618) (.L 619) (.L 620) (.L 621) (.L 622) (.L 623) (.L 624) (.L 625)) 1),(618,.var (Qa y)),(619,.var (Yc z)),(620,.var (Qb k)),(621,.var (Qb w)),(622,.var [.own 615 l.length]),(623,.var (Xv j)),(624,.var (Xv x)),(625,.var [.own 616 st.2.length])]⟩) (Sum.elim (λq e σ=>e=.ret/\σ=⟨[],[(615,.arr 4 (l.map Qo)),(616,.arr 4 (q.map Qo)),(617,.lp lpl (Yk lpf) (DD (.L 618) (.L 619) (.L 620) (.L 621) (.L 622) (.L 623) (.L 624) (.L 625)) 1),(618,.var (Qa y)),(619,.var (Yc z)),(620,.var (Qb k)),(621,.var (Qb w)),(622,.var [.own 616 q.length]),(623,.var (Xv j)),(624,.var (Xv x)),(625,.var [.own 616 q.length])]⟩) (λq e σ=>e=.exit 4/\σ=⟨[(6,.L 620),(7,.L 621),(8,.L 622),(12,.L 625),(13,.sl 1 (D.map Qb)),lk_ 14,(16,.own 71 g.length),(74,.sl 1 (j.map QU)),(75,.I (j.length:Int)),(76,.I a1)],[(14,.var (QF f.2)),(71,.arr 1 (g.map QU)),(615,.arr 4 (l.map Qo)),(616,.arr 4 (q.map Qo)),(617,.lp lpl (Yk lpf) (DD (.L 618) (.L 619) (.L 620) (.L 621) (.L 622) (.L 623) (.L 624) (.L 625)) 1),(618,.var (Qa y)),(619,.var (Yc z)),(620,.var (Qb k)),(621,.var (Qb w)),(622,.var [.own 615 l.length]),(623,.var (Xv j)),(624,.var (Xv x)),(625,.var [.own 616 q.length])]⟩)) c0 rfl ?_ ?_
    ·rintro ⟨d5,a7⟩ o σ rfl h
     refine tg_ i [6] ?_
     rcases Xn h with⟨a4,h⟩|⟨a4,h⟩
     ·obtain⟨c9,a8,h⟩:=Qp h
      obtain⟨p,c1,h⟩:=Qp h
      obtain⟨t,c2,h⟩:=Qp h
      obtain⟨u,c3,h⟩:=Qp h
      obtain⟨c4,h⟩:=Pj h
      refine Qg i [.T,7,.o (.row (QU c9)),4,.K [6,7,8,12,13,14,16,18,20,74,75,76,84,85,86] [14,71,615,616,617,618,619,620,621,622,623,624,625]] Z (a3_ a4 (Yx a8 Z) (Xz (YV a8).2)) ?_
      refine AK.draw2 Qe i mixed [.N,.N,.N,.B (.cd false [.d] 1 (p.map Qb) p.length),.N,.B (.cd false [.d] 1 (t.map Qb) t.length),.N,.B (.cd false [.d] 1 (u.map Qb) u.length),.E (.agg (Qo (Qk.mk k p t u))),.a (.bd []) (some ([],.sl 4 (([(Qk.mk k p t u)]:L_ Qk).map Qo))) false,.m (.app ((a7++[(Qk.mk k p t u)]).map Qo) (a7++[(Qk.mk k p t u)]).length),.m .s] [] [] [6,7,8,12,13,14,16,18,74,75,76,84,85,86] [14,71,615,616,617,618,619,620,621,622,623,624,625] rfl rfl rfl ⟨⟨⟨⟨⟨⟨U,⟨(XO _ _ c1),Qd⟩⟩,⟨(XO _ _ c2),Qd⟩⟩,⟨(XO _ _ c3),Qd⟩⟩,rfl⟩,rfl⟩,⟨Qd,Bd c4 Qd,JS,Gi Qd⟩⟩ rfl (by kernel_rfl) rfl rfl rfl ?_
      refine Qg i [.O 625 (.var [.own 616 (a7++[(Qk.mk k p t u)]).length]),9] Z (A Z) ?_
      refine bg_ h (λa5 h=>Qg i [.T,4,.O 622 (.var [.own 616 (a7++[(Qk.mk k p t u)]).length]),5,.K [] [615,616,617,618,619,620,621,622,623,624,625]] rfl (a2_ a5 rfl) ?_) λa5 h=>Qg i [.F,7,.K [6,7,8,12,13,14,16,18,74,75,76,84,85,86] [14,71,615,616,617,618,619,620,621,622,623,624,625]] rfl (A a5) ?_
      ·cases h
       exact Qhr Z (an_ Z Z)
      cases h
      exact Pi Z Z
     refine Qg i [.F,2,.K [6,7,8,12,13,14,16,74,75,76] [14,71,615,616,617,618,619,620,621,622,623,624,625]] Z (A a4) ?_
     cases h
     exact RF Z (an_ Z Z)
    rcases c8 with(d0 | d1)
    ·replace h:Ho d0=some o:=h
     rintro e σ ⟨rfl,rfl⟩
     refine tg_ i [3,.K [] [615,616,617,618,619,620,621,622,623,624,625]] ?_
     cases h
     exact Qhr Z (an_ Z Z)
    replace h:Ut a1 d1=some o:=h
    unfold Ut at h
    rintro e σ ⟨rfl,rfl⟩
    refine tg_ i [2,.K [6,7,8,12,13,14,16,74,75,76] [14,71,615,616,617,618,619,620,621,622,623,624,625]] ?_
    exact AK.met (ex_ _ (an_ Z h))
   rintro σ ⟨a6,rfl,h⟩
   refine tg_ i [4,.K [6,7,8,12,13,14,16,74,75,76] [14,71,615,616,617,618,619,620,621,622,623,624,625]] ?_
   cases h
   exact Pi Z Z
  cases h
  exact RF Z (an_ Z Z)
 rcases c6 with(d2 | d3)
 ·replace h:Hp d2=some r:=h
  rintro e σ ⟨rfl,rfl⟩
  refine tg_ i [2,.K [] [615,616,617,618,619,620,621,622,623,624,625]] ?_
  cases h
  refine AK.done ?_
  exact ex_ _ (an_ Z (gives rB_))
 replace h:Hq d3=some r:=h
 rintro e σ ⟨rfl,rfl⟩
 refine tg_ i [2,.K [] [615,616,617,618,619,620,621,622,623,624,625]] ?_
 cases h
 refine AK.done ?_
 exact ex_ _ (an_ Z (gives rB_))
def Nc (a:(L_ Qk)):O_ ((LI_×(L_ Qk))⊕((L_ Qk)⊕(L_ Qk))):=some (.inr (.inr a))
def Nd (h:Int)(a:LI_)(f:QS)(b:Ql):O_ Bool:=bif (0<=h)then (idx a h).bind λc=>(idx f.Vars h).bind λd=>(YO b.Colours d.Colour).bind λe=>some (decide (e<=(Qq (c+1))))else some false
def EF (a:LI_)(h:Int)(b:Bool):O_ ((Int×LI_)⊕(Int×LI_)):=bif b then (idx a h).bind λc=>some (.inl ((Qq (h-1)),(a.set h.toNat 0)))else some (.inr (h,a))
def Dq (d:QS)(b:Ql)(h:Int)(a:LI_):O_ ((Int×LI_)⊕(Int×LI_)):=(Nd h a d b).bind (λc=>EF a h c)
def EG (b:(L_ Qk))(h:Int)(a:LI_):O_ ((LI_×(L_ Qk))⊕((L_ Qk)⊕(L_ Qk))):=bif (h<0)then some (.inr (.inl b))else (idx a h).bind λc=>(idx a h).bind λd=>some (.inl ((a.set h.toNat (Qq (c+1))),b))
def EH (d:QS)(b:Ql)(a:LI_)(c:(L_ Qk)):O_ ((LI_×(L_ Qk))⊕((L_ Qk)⊕(L_ Qk))):=(QQ (λst=>Dq d b st.1 st.2) ((Qq ((a.length:Int)-1)),a)).bind (λq=>EG c q.1 q.2)
def EI (e:Ql)(f:QMk)(g:Int)(h:Int)(i:(L_ Qk))(j:QLL)(k:QLL)(l:QS)(b:Ql)(a:LI_)(c:(L_ Qk)):O_ ((LI_×(L_ Qk))⊕((L_ Qk)⊕(L_ Qk))):=(Xs a).bind λd=>(GS e f g h i j k c d).bind (Sum.elim (λq=>Nc q) (λq=>EH l b a q))
def Nf (a:(L_ Qk)):O_ ((L_ Qk)⊕(L_ Qk)):=some (.inl a)
def Ng (a:(L_ Qk)):O_ ((L_ Qk)⊕(L_ Qk)):=some (.inr a)
def AX (c:Ql)(d:QMk)(e:Int)(f:Int)(g:(L_ Qk))(h:QLL)(i:QLL)(j:(L_ Qk))(a:QS)(b:Ql):O_ ((L_ Qk)⊕(L_ Qk)):=(chk (decide (0<=(a.Vars.length:Int))&&decide ((a.Vars.length:Int)<=(a.Vars.length:Int))&&decide ((a.Vars.length:Int)<=4294967296))).bind λ_=>(QQ (λst=>EI c d e f g h i a b st.1 st.2) ((List.replicate (a.Vars.length:Int).toNat (0:Int)),j)).bind (Sum.elim (λq=>Nf q) (λq=>Ng q))
def Nh (lpl lpf:Nat)(m:Ql)(p:QMk)(s:Int)(t:Int)(j:(L_ Qk))(u:QLL)(v:QLL)(l8:(L_ Qk))(l:QS)(f:Ql){r:((L_ Qk)⊕(L_ Qk))}(h:AX m p s t j u v l8 l f=some r):QX prog 294 [.clo (.yield lpl) [] [],.L 626,.L 627] [(617,.lp lpl (Yk lpf) (DD (.L 618) (.L 619) (.L 620) (.L 621) (.L 622) (.L 623) (.L 624) (.L 625)) 0),(618,.var (Qa m)),(619,.var (Yc p)),(620,.var (Qb s)),(621,.var (Qb t)),(622,.var [.own 615 j.length]),(615,.arr 4 (j.map Qo)),(623,.var (Xv u)),(624,.var (Xv v)),(625,.var [.own 616 l8.length]),(616,.arr 4 (l8.map Qo)),(626,.var (Qi l)),(627,.var (Qa f))] ((Sum.elim (λq=>(Gives (.tup []) [(615,.arr 4 (j.map Qo)),(616,.arr 4 (q.map Qo)),(617,.lp lpl (Yk lpf) (DD (.L 618) (.L 619) (.L 620) (.L 621) (.L 622) (.L 623) (.L 624) (.L 625)) 0),(618,.var (Qa m)),(619,.var (Yc p)),(620,.var (Qb s)),(621,.var (Qb t)),(622,.var [.own 615 j.length]),(623,.var (Xv u)),(624,.var (Xv v)),(625,.var [.own 616 q.length]),(626,.var (Qi l)),(627,.var (Qa f))])) (λq=>(Gives (.tup []) [(615,.arr 4 (j.map Qo)),(616,.arr 4 (q.map Qo)),(617,.lp lpl (Yk lpf) (DD (.L 618) (.L 619) (.L 620) (.L 621) (.L 622) (.L 623) (.L 624) (.L 625)) 2),(618,.var (Qa m)),(619,.var (Yc p)),(620,.var (Qb s)),(621,.var (Qb t)),(622,.var [.own 616 q.length]),(623,.var (Xv u)),(624,.var (Xv v)),(625,.var [.own 616 q.length]),(626,.var (Qi l)),(627,.var (Qa f))]))) r):=by
 refine wk_ 50 func294 λC k=>?_
 obtain⟨a8,h⟩:=Pj h
 refine Qg k [4,.o (.ln l.Vars.length),.o (.rows ((List.replicate (l.Vars.length:Int).toNat (0:Int)).map Qb)),.S 9 (.own 9 (List.replicate (l.Vars.length:Int).toNat (0:Int)).length),4,.K [0,1,2,4] [9,615,616,617,618,619,620,621,622,623,624,625,626,627]] Z (a3_ Qd ⟨a8,QjH Z⟩ (by simp)) ?_
 obtain⟨b6,a9,h⟩:=Qp h
 refine AK.loop (body:=(λst=>EI m p s t j u v l f st.1 st.2)) (λst σ=>σ=⟨[(0,.clo (.yield lpl) [] []),(1,.L 626),(2,.L 627),(4,.own 9 st.1.length)],[(9,.arr 1 (st.1.map Qb)),(615,.arr 4 (j.map Qo)),(616,.arr 4 (st.2.map Qo)),(617,.lp lpl (Yk lpf) (DD (.L 618) (.L 619) (.L 620) (.L 621) (.L 622) (.L 623) (.L 624) (.L 625)) 0),(618,.var (Qa m)),(619,.var (Yc p)),(620,.var (Qb s)),(621,.var (Qb t)),(622,.var [.own 615 j.length]),(623,.var (Xv u)),(624,.var (Xv v)),(625,.var [.own 616 st.2.length]),(626,.var (Qi l)),(627,.var (Qa f))]⟩) (Sum.elim (λq e σ=>e=.ret/\σ=⟨[],[(615,.arr 4 (j.map Qo)),(616,.arr 4 (q.map Qo)),(617,.lp lpl (Yk lpf) (DD (.L 618) (.L 619) (.L 620) (.L 621) (.L 622) (.L 623) (.L 624) (.L 625)) 0),(618,.var (Qa m)),(619,.var (Yc p)),(620,.var (Qb s)),(621,.var (Qb t)),(622,.var [.own 615 j.length]),(623,.var (Xv u)),(624,.var (Xv v)),(625,.var [.own 616 q.length]),(626,.var (Qi l)),(627,.var (Qa f))]⟩) (λq e σ=>e=.ret/\σ=⟨[],[(615,.arr 4 (j.map Qo)),(616,.arr 4 (q.map Qo)),(617,.lp lpl (Yk lpf) (DD (.L 618) (.L 619) (.L 620) (.L 621) (.L 622) (.L 623) (.L 624) (.L 625)) 2),(618,.var (Qa m)),(619,.var (Yc p)),(620,.var (Qb s)),(621,.var (Qb t)),(622,.var [.own 616 q.length]),(623,.var (Xv u)),(624,.var (Xv v)),(625,.var [.own 616 q.length]),(626,.var (Qi l)),(627,.var (Qa f))]⟩)) a9 rfl ?_ ?_
 ·rintro ⟨b0,c6⟩ o σ rfl h
  obtain⟨a4,b1,h⟩:=Qp h
  obtain⟨b7,P,h⟩:=Qp h
  refine Qg k [6,.o (.co true [.o (b0.map Qb)] 1 (a4.map Qb) a4.length),.frz 12 (a4.map Qb) [12] []] Z (a2_ ⟨(QfD Z),⟨(XO _ _ b1),Qd,.inr (Qj2 _)⟩⟩ (A (Wr Qd))) ?_
  rcases b7 with(w | i)
  ·replace h:Nc w=some o:=h
   refine Qg k [.x (λσ=>(σ.after [615,616] [(615,.arr 4 (j.map Qo)),(616,.arr 4 (w.map Qo)),(617,.lp lpl (Yk lpf) (DD (.L 618) (.L 619) (.L 620) (.L 621) (.L 622) (.L 623) (.L 624) (.L 625)) 2),(618,.var (Qa m)),(619,.var (Yc p)),(620,.var (Qb s)),(621,.var (Qb t)),(622,.var [.own 616 w.length]),(623,.var (Xv u)),(624,.var (Xv v)),(625,.var [.own 616 w.length])]).put 13 (.b false)),7,.K [] [615,616,617,618,619,620,621,622,623,624,625,626,627]] Z (A (Qf.yieldV (b:=617) (M:=[(617,617),(618,618),(619,619),(620,620),(621,621),(622,622),(615,615),(623,623),(624,624),(625,625),(616,616)]) (N:=[(615,615),(616,616),(617,617),(618,618),(619,619),(620,620),(621,621),(622,622),(623,623),(624,624),(625,625)]) (dead:=[615,616]) (ms:=[.d,.d,.d,.d,.d,.d,.d,.d,.d,.d,.d,.d,.d,.d,.d,.d,.d,.d,.d,.d,.d,.d,.d,.d,.d,.d,.d,.d,.d,.d,.d,.d,.d,.d,.d,.d,.d,.d,.d,.d,.d,.d,.d,.d,.d,.d,.d,.d,.d,.d,.d,.d,.d,.d,.d,.d,.d,.d,.d,.d,.d,.d,.d,.d,.d,.d,.d,.d,.d,.d,.d,.d,.d,.d,.d,.d,.d,.d,.d,.d,.d,.d,.d,.d,.d,.d,.d,.d,.d,.d,.d,.d,.d,.d,.d,.d,.d,.d,.d,.d,.d,.d,.d,.d,.d,.d,.d,.d,.d]) (outs:=[(615,.arr 4 (j.map Qo)),(616,.arr 4 (w.map Qo)),(617,.lp lpl (Yk lpf) (DD (.L 618) (.L 619) (.L 620) (.L 621) (.L 622) (.L 623) (.L 624) (.L 625)) 2),(618,.var (Qa m)),(619,.var (Yc p)),(620,.var (Qb s)),(621,.var (Qb t)),(622,.var [.own 616 w.length]),(623,.var (Xv u)),(624,.var (Xv v)),(625,.var [.own 616 w.length])]) (r:=.b false) Z Z Z Z Z Z Z (QI k.n Z) k.g Z Z (Hr _ _ _ _ _ _ _ _ _ _ _ P))) ?_
   cases h
   exact Qhr Z (an_ Z Z)
  replace h:EH l f b0 i=some o:=h
  refine Qg k [.x (λσ=>(σ.after [615,616] [(615,.arr 4 (j.map Qo)),(616,.arr 4 (i.map Qo)),(617,.lp lpl (Yk lpf) (DD (.L 618) (.L 619) (.L 620) (.L 621) (.L 622) (.L 623) (.L 624) (.L 625)) 0),(618,.var (Qa m)),(619,.var (Yc p)),(620,.var (Qb s)),(621,.var (Qb t)),(622,.var [.own 615 j.length]),(623,.var (Xv u)),(624,.var (Xv v)),(625,.var [.own 616 i.length])]).put 13 (.b true)),16,.K [0,1,2,4,5] [9,615,616,617,618,619,620,621,622,623,624,625,626,627]] Z (A (Qf.yieldV (b:=617) (M:=[(617,617),(618,618),(619,619),(620,620),(621,621),(622,622),(615,615),(623,623),(624,624),(625,625),(616,616)]) (N:=[(615,615),(616,616),(617,617),(618,618),(619,619),(620,620),(621,621),(622,622),(623,623),(624,624),(625,625)]) (dead:=[615,616]) (ms:=[.d,.d,.d,.d,.d,.d,.d,.d,.d,.d,.d,.d,.d,.d,.d,.d,.d,.d,.d,.d,.d,.d,.d,.d,.d,.d,.d,.d,.d,.d,.d,.d,.d,.d,.d,.d,.d,.d,.d,.d,.d,.d,.d,.d,.d,.d,.d,.d,.d,.d,.d,.d,.d,.d,.d,.d,.d,.d,.d,.d,.d,.d,.d,.d,.d,.d,.d,.d,.d,.d,.d,.d,.d,.d,.d,.d,.d,.d,.d,.d,.d,.d,.d,.d,.d,.d,.d,.d,.d,.d,.d,.d,.d,.d,.d,.d,.d,.d,.d,.d,.d,.d,.d,.d,.d,.d,.d,.d,.d]) (outs:=[(615,.arr 4 (j.map Qo)),(616,.arr 4 (i.map Qo)),(617,.lp lpl (Yk lpf) (DD (.L 618) (.L 619) (.L 620) (.L 621) (.L 622) (.L 623) (.L 624) (.L 625)) 0),(618,.var (Qa m)),(619,.var (Yc p)),(620,.var (Qb s)),(621,.var (Qb t)),(622,.var [.own 615 j.length]),(623,.var (Xv u)),(624,.var (Xv v)),(625,.var [.own 616 i.length])]) (r:=.b true) Z Z Z Z Z Z Z (QI k.n Z) k.g Z Z (Hr _ _ _ _ _ _ _ _ _ _ _ P))) ?_
  obtain⟨b8,b2,h⟩:=Qp h
  refine AK.loop (body:=(λst=>Dq l f st.1 st.2)) (λst σ=>σ=⟨[(0,.clo (.yield lpl) [] []),(1,.L 626),(2,.L 627),(4,.own 9 st.2.length),(5,.I st.1)],[(9,.arr 1 (st.2.map Qb)),(615,.arr 4 (j.map Qo)),(616,.arr 4 (i.map Qo)),(617,.lp lpl (Yk lpf) (DD (.L 618) (.L 619) (.L 620) (.L 621) (.L 622) (.L 623) (.L 624) (.L 625)) 0),(618,.var (Qa m)),(619,.var (Yc p)),(620,.var (Qb s)),(621,.var (Qb t)),(622,.var [.own 615 j.length]),(623,.var (Xv u)),(624,.var (Xv v)),(625,.var [.own 616 i.length]),(626,.var (Qi l)),(627,.var (Qa f))]⟩) (λq e σ=>e=.exit 2/\σ=⟨[(0,.clo (.yield lpl) [] []),(1,.L 626),(2,.L 627),(4,.own 9 q.2.length),(5,.I q.1)],[(9,.arr 1 (q.2.map Qb)),(615,.arr 4 (j.map Qo)),(616,.arr 4 (i.map Qo)),(617,.lp lpl (Yk lpf) (DD (.L 618) (.L 619) (.L 620) (.L 621) (.L 622) (.L 623) (.L 624) (.L 625)) 0),(618,.var (Qa m)),(619,.var (Yc p)),(620,.var (Qb s)),(621,.var (Qb t)),(622,.var [.own 615 j.length]),(623,.var (Xv u)),(624,.var (Xv v)),(625,.var [.own 616 i.length]),(626,.var (Qi l)),(627,.var (Qa f))]⟩) b2 rfl ?_ ?_
  ·rintro ⟨at_25,y⟩ o σ rfl h
   refine tg_ k [2] ?_
   obtain⟨a5,b3,h⟩:=Qp h
   replace h:EF y at_25 a5=some o:=h
   refine AK.meetX (λσ=>σ=⟨[(0,.clo (.yield lpl) [] []),(1,.L 626),(2,.L 627),(4,.own 9 y.length),(5,.I at_25),(36,.b a5)],[(9,.arr 1 (y.map Qb)),(615,.arr 4 (j.map Qo)),(616,.arr 4 (i.map Qo)),(617,.lp lpl (Yk lpf) (DD (.L 618) (.L 619) (.L 620) (.L 621) (.L 622) (.L 623) (.L 624) (.L 625)) 0),(618,.var (Qa m)),(619,.var (Yc p)),(620,.var (Qb s)),(621,.var (Qb t)),(622,.var [.own 615 j.length]),(623,.var (Xv u)),(624,.var (Xv v)),(625,.var [.own 616 i.length]),(626,.var (Qi l)),(627,.var (Qa f))]⟩) ?_ ?_
   ·replace h:=b3
    refine tg_ k [.K [0,1,2,4,5] [9,615,616,617,618,619,620,621,622,623,624,625,626,627]] ?_
    rcases Xn h with⟨z,h⟩|⟨z,h⟩
    ·obtain⟨b9,a0,h⟩:=Qp h
     obtain⟨c0,b4,h⟩:=Qp h
     obtain⟨c1,b5,h⟩:=Qp h
     refine AK.draw2 Qe k mixed [.N,.N,.E (.b true),.N,.N,.N,.B (.row (Qb b9)),.N,.N,.N,.N,.N,.N,.B (.row (Xg c0)),.N,.N,.B (.C2 (.I c1)),.N,.N] [] [] [0,1,2,4,5,36] [9,615,616,617,618,619,620,621,622,623,624,625,626,627] rfl rfl rfl ⟨⟨⟨⟨(tc_ z),(Yx a0 rfl)⟩,(Xz (YV a0).2)⟩,(Xd b4)⟩,(BZ _ _ _ b5)⟩ rfl (by kernel_rfl) rfl rfl rfl ?_
     refine tg_ k [.K [0,1,2,4,5,36] [9,615,616,617,618,619,620,621,622,623,624,625,626,627]] ?_
     cases h
     exact mt_
    refine AK.draw2 Qe k mixed [.N,.N,.E (.b false),.N,.N,.N,.N,.N,.N,.N,.N,.N,.N,.N,.N,.N,.N,.N,.N] [] [] [0,1,2,4,5,36] [9,615,616,617,618,619,620,621,622,623,624,625,626,627] rfl rfl rfl (tc_ z) rfl (by kernel_rfl) rfl rfl rfl ?_
    refine tg_ k [.K [0,1,2,4,5,36] [9,615,616,617,618,619,620,621,622,623,624,625,626,627]] ?_
    cases h
    exact mt_
   rintro σ rfl
   replace h:EF y at_25 a5=some o:=h
   refine tg_ k [1] ?_
   rcases Xn h with⟨D,h⟩|⟨D,h⟩
   ·obtain⟨c2,a1,h⟩:=Qp h
    refine Qg k [.T,8,.st (Qb c2) ((y.set at_25.toNat 0).map Qb),8,.S 4 (.own 9 (y.set at_25.toNat 0).length),.K [0,1,2,4,5] [9,615,616,617,618,619,620,621,622,623,624,625,626,627]] Z (a4_ D (Yx a1 Z) ⟨(Xz (YV a1).2),Ug Z⟩ (congrArg (λn=>V.own 9 n) (by simp))) ?_
    cases h
    exact Pi Z Z
   refine Qg k [.F,2,.K [0,1,2,4,5] [9,615,616,617,618,619,620,621,622,623,624,625,626,627]] Z (A D) ?_
   cases h
   exact RF Z (an_ Z Z)
  obtain⟨at_29,a6⟩:=b8
  replace h:EG i at_29 a6=some o:=h
  rintro e σ ⟨rfl,rfl⟩
  refine tg_ k [9] ?_
  rcases Xn h with⟨O,h⟩|⟨O,h⟩
  ·refine Qg k [.T,3,.K [] [615,616,617,618,619,620,621,622,623,624,625,626,627]] Z (A O) ?_
   cases h
   exact Qhr Z (an_ Z Z)
  obtain⟨a7,a2,h⟩:=Qp h
  obtain⟨c3,a3,h⟩:=Qp h
  refine Qg k [.F,6,.o (.row (Qb a7)),2,.st (Qb c3) ((a6.set at_29.toNat (Qq (a7+1))).map Qb),2,.S 4 (.own 9 (a6.set at_29.toNat (Qq (a7+1))).length),.K [0,1,2,4] [9,615,616,617,618,619,620,621,622,623,624,625,626,627]] Z (a6_ O (Yx a2 Z) (Xz (YV a2).2) (Yx a3 Z) ⟨(Xz (YV a3).2),Ug Z⟩ (congrArg (λn=>V.own 9 n) (by simp))) ?_
  cases h
  exact Pi Z Z
 rcases b6 with(c4 | c5)
 ·replace h:Nf c4=some r:=h
  rintro e σ ⟨rfl,rfl⟩
  refine tg_ k [1,.K [] [615,616,617,618,619,620,621,622,623,624,625,626,627]] ?_
  cases h
  refine AK.done ?_
  exact ex_ [] (an_ U (gives rD_))
 replace h:Ng c5=some r:=h
 rintro e σ ⟨rfl,rfl⟩
 refine tg_ k [1,.K [] [615,616,617,618,619,620,621,622,623,624,625,626,627]] ?_
 cases h
 refine AK.done ?_
 exact ex_ [] (an_ U (gives rD_))
def TE (a:(L_ Qk)):O_ (L_ Qk):=some a
def TF (a:(L_ Qk)):O_ (L_ Qk):=some a
def Hs (e:Ql)(h:QMk)(a:Int)(b:Int):O_ (L_ Qk):=
 bif ((a<0)||(((e.Tasks.length:Int)<=a)||(b<1)))then
 some ([]:L_ Qk)
 else
 (idx e.Tasks a).bind λc=>
 (KW c.Join (c.Ins.length:Int)).bind λf=>
 (KW c.Split (c.Outs.length:Int)).bind λg=>
 (TD e c).bind λd=>
 (AX e h a b ([]:L_ Qk) f g ([]:L_ Qk) d.2 d.1).bind (Sum.elim (λq=>TE q) (λq=>TF q))
def Qe2 (k y c e){r}(h:Hs k y c e=some r):QX prog 140 [.agg (Qa k),.sl 1 (y.map Qm),.I c,.I e] [] (Gives (.sl 4 (r.map Qo)) []):=by
 refine QX.walkR 109 func140 Z ntmps140 Z λC f hR=>?_
 refine tg_ f [11] ?_
 refine AK.meetX (λσ=>σ=⟨[lk_ 4,lk_ 5,lk_ 6,lk_ 7,lk_ 8,(33,.b ((c<0)||(((k.Tasks.length:Int)<=c)||(e<1))))],[(4,.var (Qa k)),(5,.var (Yc y)),(6,.var (Qb c)),(7,.var (Qb e)),(8,.var [.Y])]⟩) ?_ ?_
 ·exact H f [4] Z<|bO_ (decide (c<0)) (λg=>G f [.S 23 (.b true),11,.S 33 (.b ((c<0)||(((k.Tasks.length:Int)<=c)||(e<1))))] Z ⟨(tc_ g),(cb_ (Gc g Z))⟩<|M Z) λg=>G f [.S 23 (.b false),3,.o (.ln k.Tasks.length),3] Z ⟨(tc_ g),Qd⟩<|bO_ (decide ((k.Tasks.length:Int)<=c)) (λl=>G f [.S 30 (.b true),4,.S 33 (.b ((c<0)||(((k.Tasks.length:Int)<=c)||(e<1))))] Z ⟨(tc_ l),(cb_ (JM g (Gc l Z)))⟩<|M Z) λl=>G f [.S 30 (.b false),4,.S 33 (.b ((c<0)||(((k.Tasks.length:Int)<=c)||(e<1))))] Z ⟨(tc_ l),(cb_ (JM g (JM l Z)))⟩<|M Z
 rintro σ rfl
 refine tg_ f [1] ?_
 rcases Xn h with⟨p,h⟩|⟨p,h⟩
 ·refine Qg f [.T,3,.O 8 (.var [.Y]),4,.denilO 8 [some 4],.O 8 (.var (Qji ([]:L_ Qk))),.K [8] [8]] Z (a3_ p Z Z) ?_
  cases h
  exact AK.done (ex_ [_] (an_ (an_ (ex_ _ (ex_ _ (an_ Z (an_ Z (Or.inr (an_ (Qe.ag Z) Z)))))) U) (gives U)))
 obtain⟨i,z,h⟩:=Qp h
 obtain⟨q,D,h⟩:=Qp h
 obtain⟨t,P,h⟩:=Qp h
 refine Qg f [.F,7,.o (.row (Qi i)),.A (Qi i),2,.O 9 (.var (Qi i)),3,.K [4,5,6,7,8,9] [4,5,6,7,8,9]] Z (a4_ p (Xd z) Z Z) ?_
 refine AK.draw2 Qe f mixed [.N,.N,.N,.N,.B (.ln i.Ins.length),.B (.cd false [.d,.d] 1 (q.map QU) q.length),.N,.N,.N,.N,.B (.ln i.Outs.length),.B (.cd false [.d,.d] 1 (t.map QU) t.length),.N,.N,.m .s,.m .s] [] [] [4,5,6,7,8,9,10,11] [4,5,6,7,8,9,10,11] rfl rfl rfl ⟨⟨⟨⟨U,Qd⟩,⟨(II _ _ _ D),Qd⟩⟩,Qd⟩,⟨(II _ _ _ P),Qd⟩⟩ rfl (by kernel_rfl) rfl rfl rfl ?_
 obtain⟨j,a0,h⟩:=Qp h
 refine Qg f [.O 10 (.var (Xv q)),.O 11 (.var (Xv t)),9,.A (Qa k),.A (Qi i),.cm (.fn) [] [(53,2),(609,3)] [] [.d,.d] [(2,.var (Qa j.1)),(3,.var (Qi j.2))] (.clo (.func 294) [] [.L 3,.L 2]),3,.K [4,5,6,7,8,10,11,12,53] [4,5,6,7,8,10,11,12,53,609]] Z (a5_ Z Z Z Z (QbM _ _ _ a0)) ?_
 obtain⟨a1,x,h⟩:=Qp h
 refine Qg f [.adoptO 8 0 606 4,.O 606 (.arr 4 (([]:L_ Qk).map Qo)),.O 8 (.var [.own 606 ([]:L_ Qk).length]),.adoptO 12 0 607 4,.O 607 (.arr 4 (([]:L_ Qk).map Qo)),.O 12 (.var [.own 607 ([]:L_ Qk).length])] Z (a4_ Z Z Z Z) ?_
 rcases a1 with(u | w)
 ·replace h:TE u=some r:=h
  refine AK.rangeF 613 [4,5,6,7,8,10,11,12] [(617,613),(618,4),(619,5),(620,6),(621,7),(622,8),(615,606),(623,10),(624,11),(625,12),(616,607),(626,609),(627,53)] [(606,615),(607,616),(613,617),(4,618),(5,619),(6,620),(7,621),(8,622),(10,623),(11,624),(12,625),(609,626),(53,627)] [606,607] [.d,.d,.d] Yk f hR (λ_=>rfl) rfl rfl rfl rfl λlpl lpf=>?_
  refine ex_ [(615,.arr 4 (([]:L_ Qk).map Qo)),(616,.arr 4 (u.map Qo)),(617,.lp lpl (Yk lpf) (DD (.L 618) (.L 619) (.L 620) (.L 621) (.L 622) (.L 623) (.L 624) (.L 625)) 0),(618,.var (Qa k)),(619,.var (Yc y)),(620,.var (Qb c)),(621,.var (Qb e)),(622,.var [.own 615 ([]:L_ Qk).length]),(623,.var (Xv q)),(624,.var (Xv t)),(625,.var [.own 616 u.length]),(626,.var (Qi j.2)),(627,.var (Qa j.1))] (ex_ (.tup []) (ex_ _ (ex_ _ (ex_ (DD (.L 4) (.L 5) (.L 6) (.L 7) (.L 8) (.L 10) (.L 11) (.L 12)) (ex_ 0 (an_ rfl ?_))))))
  refine an_ (Nh _ _ _ _ _ _ _ _ _ _ _ _ x) (an_ rfl (an_ (bne_iff_ne.1 (show(0 != 1)=true from rfl)) ?_))
  refine Qmh Z ?_
  refine Qg f [6,.O 8 (.var [.own 607 u.length]),3,.frz 607 (u.map Qo) [] [8],.K [8] [8]] Z (a2_ Z (A ⟨(Wr Qd),U⟩)) ?_
  cases h
  exact AK.done (ex_ [_] (an_ (an_ (ex_ _ (ex_ _ (an_ Z (an_ Z (Or.inr (an_ (Qe.ag Z) Z)))))) U) (gives U)))
 replace h:TF w=some r:=h
 refine AK.rangeF 613 [4,5,6,7,8,10,11,12] [(617,613),(618,4),(619,5),(620,6),(621,7),(622,8),(615,606),(623,10),(624,11),(625,12),(616,607),(626,609),(627,53)] [(606,615),(607,616),(613,617),(4,618),(5,619),(6,620),(7,621),(8,622),(10,623),(11,624),(12,625),(609,626),(53,627)] [606,607] [.d,.d,.d] Yk f hR (λ_=>rfl) rfl rfl rfl rfl λlpl lpf=>?_
 refine ex_ [(615,.arr 4 (([]:L_ Qk).map Qo)),(616,.arr 4 (w.map Qo)),(617,.lp lpl (Yk lpf) (DD (.L 618) (.L 619) (.L 620) (.L 621) (.L 622) (.L 623) (.L 624) (.L 625)) 2),(618,.var (Qa k)),(619,.var (Yc y)),(620,.var (Qb c)),(621,.var (Qb e)),(622,.var [.own 616 w.length]),(623,.var (Xv q)),(624,.var (Xv t)),(625,.var [.own 616 w.length]),(626,.var (Qi j.2)),(627,.var (Qa j.1))] (ex_ (.tup []) (ex_ _ (ex_ _ (ex_ (DD (.L 4) (.L 5) (.L 6) (.L 7) (.L 8) (.L 10) (.L 11) (.L 12)) (ex_ 2 (an_ rfl ?_))))))
 refine an_ (Nh _ _ _ _ _ _ _ _ _ _ _ _ x) (an_ rfl (an_ (bne_iff_ne.1 (show(2 != 1)=true from rfl)) ?_))
 refine Qnk Z ?_
 refine Qg f [3,.frz 607 (w.map Qo) [] [8],.K [8] [8]] Z (A (A ⟨(Wr Qd),U⟩)) ?_
 cases h
 exact AK.done (ex_ [_] (an_ (an_ (ex_ _ (ex_ _ (an_ Z (an_ Z (Or.inr (an_ (Qe.ag Z) Z)))))) U) (gives U)))
def Ps (e:Ql)(f:QMk)(a:Int)(d:Int)(c:(L_ Qk)):O_ ((Int×(L_ Qk))⊕(L_ Qk)):=bif (d<(e.Tasks.length:Int))then (Hs e f d (Qq (a-(c.length:Int)))).bind λb=>(chk (c.length+b.length<=4294967296)).bind λ_=>some (.inl ((Qq (d+1)),(c++b)))else some (.inr c)
def QgX (a:(L_ Qk)):O_ (L_ Qk):=some a
def Ni (b:Ql)(c:QMk)(a:Int):O_ (L_ Qk):=(QQ (λst=>Ps b c a st.1 st.2) (0,([]:L_ Qk))).bind (λq=>QgX q)
def QgY (f k a):CT 80 [.agg (Qa f),.sl 1 (k.map Qm),.I a] [] (Ni f k a) (λr=>(.own 600 r.length)) (λr=>[(600,.arr 4 (r.map Qo))]):=
 W 27 func80 Z λC g r h=>g3_ g [16,.o (.ln f.Tasks.length),4,.adopt 7 15 4,.O 15 (.arr 4 (([]:L_ Qk).map Qo)),.S 7 (.own 15 ([]:L_ Qk).length)] Z Qd Z (congrArg (λn=>V.own 15 n) (by simp))<|lp_ h (λst=>⟨[(1,.sl 1 (k.map Qm)),(2,.I a),lk_ 3,(7,.own 15 st.2.length),(11,.I (f.Tasks.length:Int)),(12,.I st.1)],[(3,.var (Qa f)),(15,.arr 4 (st.2.map Qo))]⟩) (λq=>(.exit 0,⟨[(7,.own 15 q.length)],[(15,.arr 4 (q.map Qo))]⟩)) Z (λ⟨p,l⟩ o h=>H g [6] Z<|I h (λb h=>B h λe i h=>X h λj h=>g4_ g [.T,12,.A (Qa f),6,.o (.C4 (.sl 4 (e.map Qo))),.app ((l++e).map Qo) (l++e).length,8] Z b Z (Qe2 _ _ _ _ i) ⟨Qd,Bd j Qd,JS,Gi Qd⟩<|rN_ h Z) λb h=>J g [.F,2] Z b<|rX_ h Z) λm h=>H g [9,.K [6] [15],.ren 15 600] Z<|E h Z r1_
def Uu (b:Int)(a:Bool)(c:(L_ Qk))(d:QBg):O_ ((Bool×Int×(L_ Qk)×QBg)⊕(Bool×(L_ Qk))):=some (.inl (a,(Qq (b+1)),c,d))
def Uv (c:Qk)(d:(L_ Qk))(e:Int)(a:Bool)(b:QBg):O_ ((Bool×Int×(L_ Qk)×QBg)⊕(Bool×(L_ Qk))):=bif (((Xb b c.Task).getD 0)==1)then (chk (d.length+([c]:L_ Qk).length<=4294967296)).bind λ_=>Uu e a (d++([c]:L_ Qk)) b else bif (((Xb b c.Task).getD 0)==2)then Uu e false d b else Uu e a d b
def Uw (h:(L_ Qk))(i:Ql)(j:QMk)(b:Int)(a:Bool)(d:Int)(e:(L_ Qk))(f:QBg):O_ ((Bool×Int×(L_ Qk)×QBg)⊕(Bool×(L_ Qk))):=bif (d<(h.length:Int))then (idx h d).bind λc=>bif (!(Xb f c.Task).isSome)then (DZ i j c b).bind λg=>Uv c e d a (Jd Ge f c.Task g)else Uv c e d a f else some (.inr (a,e))
def LV (a:Bool)(b:(L_ Qk)):O_ ((L_ Qk)×Bool):=some (b,a)
def Pu (c:Ql)(d:QMk)(a:Int)(b:Int):O_ ((L_ Qk)×Bool):=(Ni c d b).bind λe=>(QQ (λst=>Uw e c d a st.1 st.2.1 st.2.2.1 st.2.2.2) (true,0,([]:L_ Qk),([]:QBg))).bind (λq=>LV q.1 q.2)
def QdG (n1 m2 g u):CT 44 [.agg (Qa n1),.sl 1 (m2.map Qm),.I g,.I u] [] (Pu n1 m2 g u) (λr=>(.tup [.sl 4 (r.1.map Qo),.b r.2])) no_:=by
 refine W 59 func44 rfl λC p r h=>?_
 obtain⟨t,b2,h⟩:=Qp h
 refine Qg p [20,.O 17 (.map (QG V.I V.I ([]:QBg))),6,.A (Qa n1),2,.o (.co false [.d,.d,.d] 4 (t.map Qo) t.length),5,.adopt 10 50 4,.O 50 (.arr 4 (([]:L_ Qk).map Qo)),.S 10 (.own 50 ([]:L_ Qk).length),.K [1,2,4,10,11,12,21,22,23] [4,17,21,50]] Z (a5_ Z Z ⟨(QgY _ _ _ _ b2),Qd,.inl Z⟩ Z (congrArg (λn=>V.own 50 n) (by simp))) ?_
 obtain⟨b3,a8,h⟩:=Qp h
 refine AK.loop (body:=(λst=>Uw t n1 m2 g st.1 st.2.1 st.2.2.1 st.2.2.2)) (λst σ=>σ=⟨[(1,.sl 1 (m2.map Qm)),(2,.I g),lk_ 4,(10,.own 50 st.2.2.1.length),(11,.b st.1),(12,.map 17),(21,.own 21 t.length),(22,.I (t.length:Int)),(23,.I st.2.1)],[(4,.var (Qa n1)),(17,.map (QG V.I V.I st.2.2.2)),(21,.arr 4 (t.map Qo)),(50,.arr 4 (st.2.2.1.map Qo))]⟩) (λq e σ=>e=.exit 0/\σ=⟨[(10,.own 50 q.2.length),(11,.b q.1)],[(50,.arr 4 (q.2.map Qo))]⟩) a8 rfl ?_ ?_
 ·rintro ⟨s,a3,w,x⟩ o σ rfl h
  refine tg_ p [6] ?_
  refine bq_ p h [.T,2] rfl (λy h=>?_) [.F,2,.K [10,11] [50]] rfl λy h=>?_
  ·refine AK.meet (λσ=>∃j:Bool,∃a4:(L_ Qk),∃a6:QBg,σ=⟨[(1,.sl 1 (m2.map Qm)),(2,.I g),lk_ 4,(10,.own 50 a4.length),(11,.b j),(12,.map 17),(21,.own 21 t.length),(22,.I (t.length:Int)),(23,.I a3)],[(4,.var (Qa n1)),(17,.map (QG V.I V.I a6)),(21,.arr 4 (t.map Qo)),(50,.arr 4 (a4.map Qo))]⟩/\Uu a3 j a4 a6=some o) ?_ ?_
   ·obtain⟨i,a5,h⟩:=Qp h
    refine Qg p [4,.v (.row (Qo i)) [] (.agg (Qo i)),2,.O 14 (.var (Qo i)),2] Z (a4_ (Yx a5 Z) (Xz (YV a5).2) Z Z) ?_
    refine AK.meet (λσ=>∃D:QBg,σ=⟨[(1,.sl 1 (m2.map Qm)),(2,.I g),lk_ 4,(10,.own 50 w.length),(11,.b s),(12,.map 17),lk_ 14,(21,.own 21 t.length),(22,.I (t.length:Int)),(23,.I a3)],[(4,.var (Qa n1)),(14,.var (Qo i)),(17,.map (QG V.I V.I D)),(21,.arr 4 (t.map Qo)),(50,.arr 4 (w.map Qo))]⟩/\Uv i w a3 s D=some o) ?_ ?_
    ·refine Qg p [5,.o (.any (.tup [.I ((Xb x i.Task).getD 0),.b (Xb x i.Task).isSome]) none),13] Z (A (λσ h1 h2 _=>Qf.lookupOk (e:=V.I) (f:=V.I) (l:=x) (k:=i.Task) (z:=0) Z Z (QI p.n Z) (h1 _ _ Z) (h2 _ _ Z) (h1 _ _ Z) QhN Ey Qac Z Z)) ?_
     rcases Xn h with⟨P,h⟩|⟨P,h⟩
     ·obtain⟨a7,a9,h⟩:=Qp h
      refine Qg p [.T,.K [1,2,4,10,11,12,14,21,22,23] [4,14,17,21,50]] Z (A P) ?_
      refine AK.draw2 Qe p mixed [.N,.N,.N,.E (.agg (Qa n1)),.N,.E (.agg (Qo i)),.N,.B (.C4 (.I a7)),.m (.any ⟨[],[(17,.map (QG V.I V.I (Jd Ge x i.Task a7)))],none⟩)] [] [] [1,2,4,10,11,12,14,21,22,23] [4,14,17,21,50] rfl rfl rfl ⟨⟨⟨⟨U,rfl⟩,rfl⟩,(PK _ _ _ _ _ a9)⟩,(λσ h1 h2=>Qf.mapUpdate (e:=V.I) (f:=V.I) (l:=x) (k:=i.Task) (v:=a7) Ge rfl rfl (h1 _ _ rfl) (h2 _ _ rfl) (h1 _ _ rfl) (h1 _ _ rfl) QhN Ey rfl)⟩ rfl (by kernel_rfl) rfl rfl rfl ?_
      refine tg_ p [.K [1,2,4,10,11,12,14,21,22,23] [4,14,17,21,50]] ?_
      exact AK.met (ex_ _ (an_ Z h))
     refine Qg p [.F,1,.K [1,2,4,10,11,12,14,21,22,23] [4,14,17,21,50]] Z (A P) ?_
     exact AK.met (ex_ _ (an_ Z h))
    rintro σ ⟨D,rfl,h⟩
    refine Qg p [5,.o (.any (.I ((Xb D i.Task).getD 0)) none),9] Z (A (λσ h1 h2 _=>Qf.lookup (e:=V.I) (f:=V.I) (l:=D) (k:=i.Task) (z:=0) Z Z (QI p.n Z) (h1 _ _ Z) (h2 _ _ Z) (h1 _ _ Z) QhN Ey Qac Z)) ?_
    rcases Xn h with⟨a0,h⟩|⟨a0,h⟩
    ·obtain⟨b0,h⟩:=Pj h
     refine Qg p [.T,2,.A (Qo i),.v (.bd []) [] (.sl 4 (([i]:L_ Qk).map Qo)),.app ((w++([i]:L_ Qk)).map Qo) (w++([i]:L_ Qk)).length,4,.K [1,2,4,10,11,12,21,22,23] [4,17,21,50]] Z (a4_ a0 Z Z ⟨Qd,Bd b0 Qd,JS,Gi Qd⟩) ?_
     exact AK.met (ex_ _ (ex_ _ (ex_ _ (an_ Z h))))
    refine Qg p [.F,6] Z (A a0) ?_
    refine bq_ p h [.T,5,.K [1,2,4,10,11,12,21,22,23] [4,17,21,50]] rfl (λa1 h=>?_) [.F,3,.K [1,2,4,10,11,12,21,22,23] [4,17,21,50]] rfl λa1 h=>?_
    ·exact AK.met (ex_ _ (ex_ _ (ex_ _ (an_ Z h))))
    exact AK.met (ex_ _ (ex_ _ (ex_ _ (an_ Z h))))
   rintro σ ⟨j,a4,a6,rfl,h⟩
   refine tg_ p [4,.K [1,2,4,10,11,12,21,22,23] [4,17,21,50]] ?_
   cases h
   exact Pi Z Z
  cases h
  exact RF Z (an_ Z Z)
 obtain⟨a2,b1⟩:=b3
 replace h:LV a2 b1=some r:=h
 unfold LV at h
 rintro e σ ⟨rfl,rfl⟩
 exact J p [11,.frz 50 (b1.map Qo) [8] []] Z (A (Wr Qd))<|F h Z Z U
def Dt (b:Ql)(c:QT)(a:Int):O_ (L_ Qk):=(Pu b c.M 64 a).bind λd=>some d.1
def Ht (e g a):CT 19 [.agg (Qa e),.agg (Qt g),.I a] [] (Dt e g a) (λr=>(.sl 4 (r.map Qo))) no_:=
 W 18 func19 Z λC j r h=>B h λi f h=>K j [9,.A (Qa e),3,.o (.C4 (.tup [.sl 4 (i.1.map Qo),.b i.2])),14] Z Z (QdG _ _ _ _ _ f)<|E h Z U
def QdH (a:((L_ Qz)×QT))(c:Ql)(d:QT)(b:((L_ Qz)×QT)):O_ Bool:=(idx a.1 0).bind λe=>bif (e.Id==1)then (idx a.1 1).bind λf=>bif ((f.Closed.length:Int)==0)then (idx a.1 2).bind λg=>(Sc g.Closed ([1]:L_ Int)).bind λh=>bif h then (idx a.1 3).bind λi=>bif (i.Err==12)then (idx a.1 4).bind λj=>bif (j.Err==3)then (idx a.1 5).bind λk=>bif (k.Err==1)then (Pr c a.2).bind λl=>bif l then (Pr c d).bind λm=>bif (!m)then (idx b.1 2).bind λn=>(Sc n.Closed ([1]:L_ Int)).bind λo=>bif o then (idx b.1 3).bind λp=>bif (p.Err==12)then (CU b.2.M d.M).bind λq=>bif q then bif (b.2.Now==2)then (Dt c d 9).bind λr=>some ((r.length:Int)==1)else some false else some false else some false else some false else some false else some false else some false else some false else some false else some false else some false else some false
def QdI (a:Bool):O_ Bool:=some a
def Lv  : O_ Bool:=
 (Qdg).bind λa=>
 (Bk a).bind λb=>
 (BG a b ([(Xt.mk 1 0 (Qk.mk 0 ([]:LI_) ([0]:L_ Int) ([0]:L_ Int)) 2),(Xt.mk 2 1 (Qk.mk 0 ([]:LI_) ([]:LI_) ([]:LI_)) 0),(Xt.mk 2 1 (Qk.mk 0 ([]:LI_) ([]:LI_) ([]:LI_)) 0),(Xt.mk 2 1 (Qk.mk 0 ([]:LI_) ([]:LI_) ([]:LI_)) 0),(Xt.mk 2 7 (Qk.mk 0 ([]:LI_) ([]:LI_) ([]:LI_)) 0),(Xt.mk 99 0 (Qk.mk 0 ([]:LI_) ([]:LI_) ([]:LI_)) 0)]:L_ Xt)).bind λd=>
 (BG a b ([(Xt.mk 1 0 (Qk.mk 0 ([]:LI_) ([0]:L_ Int) ([0]:L_ Int)) 1),(Xt.mk 6 0 (Qk.mk 0 ([]:LI_) ([]:LI_) ([]:LI_)) 0),(Xt.mk 6 0 (Qk.mk 0 ([]:LI_) ([]:LI_) ([]:LI_)) 0),(Xt.mk 3 1 (Qk.mk 0 ([]:LI_) ([]:LI_) ([]:LI_)) 0)]:L_ Xt)).bind λe=>
 bif (((d.1.length:Int) != 6)||((e.1.length:Int) != 4))then
 some false
 else
 (QdH d a b e).bind (λc=>QdI c)
def Se  : CT 8 [] [] (Lv ) V.b no_:=
 W 135 func8 Z λC a r h=>B h λx b5 h=>B h λz b6 h=>B h λe b7 h=>B h λy b8 h=>G a [7,.o (.c false [] (.agg (Qa x))),2,.O 1 (.var (Qa x)),4,.A (Qa x),.o (.C1 (.agg (Qt z))),2,.O 2 (.var (Qt z)),4,.v (.bd []) [] (.sl 1 (([0]:L_ Int).map Qb)),.v (.bd []) [] (.sl 1 (([0]:L_ Int).map Qb)),.v .no [none,some 1,none,none] (.agg (Qo (Qk.mk 0 ([]:LI_) ([0]:L_ Int) ([0]:L_ Int)))),2,.O 3 (.var (Qo (Qk.mk 0 ([]:LI_) ([0]:L_ Int) ([0]:L_ Int)))),4,.A (Qa x),.A (Qt z),.A (Qo (Qk.mk 0 ([]:LI_) ([0]:L_ Int) ([0]:L_ Int))),.A (XF (Xt.mk 1 0 (Qk.mk 0 ([]:LI_) ([0]:L_ Int) ([0]:L_ Int)) 2)),.v .no [none,none,none,some 1,some 1,some 1,none] (.agg (XF (Xt.mk 2 1 (Qk.mk 0 ([]:LI_) ([]:LI_) ([]:LI_)) 0))),.v .no [none,none,none,some 1,some 1,some 1,none] (.agg (XF (Xt.mk 2 1 (Qk.mk 0 ([]:LI_) ([]:LI_) ([]:LI_)) 0))),.v .no [none,none,none,some 1,some 1,some 1,none] (.agg (XF (Xt.mk 2 1 (Qk.mk 0 ([]:LI_) ([]:LI_) ([]:LI_)) 0))),.v .no [none,none,none,some 1,some 1,some 1,none] (.agg (XF (Xt.mk 2 7 (Qk.mk 0 ([]:LI_) ([]:LI_) ([]:LI_)) 0))),.v .no [none,none,none,some 1,some 1,some 1,none] (.agg (XF (Xt.mk 99 0 (Qk.mk 0 ([]:LI_) ([]:LI_) ([]:LI_)) 0))),.v (.bd []) [] (.sl 7 (([(Xt.mk 1 0 (Qk.mk 0 ([]:LI_) ([0]:L_ Int) ([0]:L_ Int)) 2),(Xt.mk 2 1 (Qk.mk 0 ([]:LI_) ([]:LI_) ([]:LI_)) 0),(Xt.mk 2 1 (Qk.mk 0 ([]:LI_) ([]:LI_) ([]:LI_)) 0),(Xt.mk 2 1 (Qk.mk 0 ([]:LI_) ([]:LI_) ([]:LI_)) 0),(Xt.mk 2 7 (Qk.mk 0 ([]:LI_) ([]:LI_) ([]:LI_)) 0),(Xt.mk 99 0 (Qk.mk 0 ([]:LI_) ([]:LI_) ([]:LI_)) 0)]:L_ Xt).map XF)),.o (.C3 (.tup [.agg (Qt e.2),.sl 3 (e.1.map Qr)])),5,.O 4 (.var (Qt e.2)),5,.A (Qa x),.A (Qt z),.A (Qo (Qk.mk 0 ([]:LI_) ([0]:L_ Int) ([0]:L_ Int))),.A (XF (Xt.mk 1 0 (Qk.mk 0 ([]:LI_) ([0]:L_ Int) ([0]:L_ Int)) 1)),.v .no [none,none,none,some 1,some 1,some 1,none] (.agg (XF (Xt.mk 6 0 (Qk.mk 0 ([]:LI_) ([]:LI_) ([]:LI_)) 0))),.v .no [none,none,none,some 1,some 1,some 1,none] (.agg (XF (Xt.mk 6 0 (Qk.mk 0 ([]:LI_) ([]:LI_) ([]:LI_)) 0))),.v .no [none,none,none,some 1,some 1,some 1,none] (.agg (XF (Xt.mk 3 1 (Qk.mk 0 ([]:LI_) ([]:LI_) ([]:LI_)) 0))),.v (.bd []) [] (.sl 7 (([(Xt.mk 1 0 (Qk.mk 0 ([]:LI_) ([0]:L_ Int) ([0]:L_ Int)) 1),(Xt.mk 6 0 (Qk.mk 0 ([]:LI_) ([]:LI_) ([]:LI_)) 0),(Xt.mk 6 0 (Qk.mk 0 ([]:LI_) ([]:LI_) ([]:LI_)) 0),(Xt.mk 3 1 (Qk.mk 0 ([]:LI_) ([]:LI_) ([]:LI_)) 0)]:L_ Xt).map XF)),.o (.C3 (.tup [.agg (Qt y.2),.sl 3 (y.1.map Qr)])),5,.O 6 (.var (Qt y.2)),5] Z ⟨⟨⟨⟨⟨⟨⟨⟨⟨⟨⟨⟨⟨⟨⟨⟨⟨⟨⟨⟨⟨⟨⟨⟨⟨⟨⟨⟨⟨⟨⟨U,(QfM _  b5)⟩,Z⟩,Z⟩,(MH _ _ b6)⟩,Z⟩,Z⟩,Z⟩,Z⟩,Z⟩,Z⟩,Z⟩,Z⟩,Z⟩,Z⟩,Z⟩,Z⟩,Z⟩,Z⟩,Z⟩,(Na _ _ _ _ b7)⟩,Z⟩,Z⟩,Z⟩,Z⟩,Z⟩,Z⟩,Z⟩,Z⟩,Z⟩,(Na _ _ _ _ b8)⟩,Z⟩<|Y ⟨[lk_ 1,lk_ 2,lk_ 4,(5,.sl 3 (e.1.map Qr)),lk_ 6,(7,.sl 3 (y.1.map Qr)),(47,.b (((e.1.length:Int) != 6)||((y.1.length:Int) != 4)))],[(1,.var (Qa x)),(2,.var (Qt z)),(4,.var (Qt e.2)),(6,.var (Qt y.2))]⟩ (J a [2,.o (.ln e.1.length),2] Z Qd<|bO_ ((e.1.length:Int) != 6) (λf=>G a [.S 43 (.b true),5,.S 47 (.b (((e.1.length:Int) != 6)||((y.1.length:Int) != 4)))] Z ⟨(tc_ f),(cb_ (Gc f Z))⟩<|M Z) λf=>G a [.S 43 (.b false),1,.o (.ln y.1.length),3,.S 47 (.b (((e.1.length:Int) != 6)||((y.1.length:Int) != 4)))] Z ⟨⟨(tc_ f),Qd⟩,(cb_ (JM f Z))⟩<|M Z)<|H a [1] Z<|I h (λD h=>J a [.T,7] Z D<|E h Z U) λD h=>J a [.F,3] Z D<|mV_ h (λN=>⟨[(0,.b N)],[]⟩) (λN h=>B h λb9 P h=>J a [2,.o (.row (Qr b9)),4] Z (Xd P)<|I h (λg h=>B h λa0 a1 h=>G a [.S 53 (.b true),1,.o (.row (Qr a0)),2,.o (.ln a0.Closed.length),3] Z ⟨⟨(tc_ g),(Xd a1)⟩,Qd⟩<|I h (λi h=>B h λc0 a2 h=>B h λc1 a3 h=>G a [.S 61 (.b true),1,.o (.row (Qr c0)),2,.v (.bd []) [] (.sl 1 (([1]:L_ Int).map Qb)),.o (.C2 (.b c1)),2] Z ⟨⟨⟨(tc_ i),(Xd a2)⟩,Z⟩,(TC _ _ _ a3)⟩<|I h (λj h=>B h λc2 a4 h=>G a [.S 69 (.b true),1,.o (.row (Qr c2)),5] Z ⟨(tc_ j),(Xd a4)⟩<|I h (λk h=>B h λc3 a5 h=>G a [.S 76 (.b true),1,.o (.row (Qr c3)),5] Z ⟨(tc_ k),(Xd a5)⟩<|I h (λl h=>B h λc4 a6 h=>G a [.S 83 (.b true),1,.o (.row (Qr c4)),5] Z ⟨(tc_ l),(Xd a6)⟩<|I h (λm h=>B h λc5 a7 h=>G a [.S 90 (.b true),.A (Qa x),.A (Qt e.2),.o (.C2 (.b c5)),2] Z ⟨⟨⟨(tc_ m),Z⟩,Z⟩,(Sd _ _ _ a7)⟩<|I h (λp h=>B h λc6 a8 h=>G a [.S 95 (.b true),.A (Qa x),.A (Qt z),.o (.C2 (.b c6)),3] Z ⟨⟨⟨(tc_ p),Z⟩,Z⟩,(Sd _ _ _ a8)⟩<|I h (λq h=>B h λc7 a9 h=>B h λc8 b0 h=>G a [.S 101 (.b true),1,.o (.row (Qr c7)),2,.v (.bd []) [] (.sl 1 (([1]:L_ Int).map Qb)),.o (.C2 (.b c8)),2] Z ⟨⟨⟨(tc_ q),(Xd a9)⟩,Z⟩,(TC _ _ _ b0)⟩<|I h (λs h=>B h λc9 b1 h=>G a [.S 109 (.b true),1,.o (.row (Qr c9)),5] Z ⟨(tc_ s),(Xd b1)⟩<|I h (λt h=>B h λd0 b2 h=>G a [.S 116 (.b true),4,.o (.C2 (.b d0)),2] Z ⟨(tc_ t),(BH _ _ _ b2)⟩<|I h (λu h=>L a [.S 123 (.b true),5] Z u<|I h (λw h=>B h λb3 b4 h=>G a [.S 128 (.b true),.A (Qa x),.A (Qt z),.o (.C3 (.sl 4 (b3.map Qo))),.o (.ln b3.length),4] Z ⟨⟨⟨⟨(tc_ w),Z⟩,Z⟩,(Ht _ _ _ _ b4)⟩,Qd⟩<|mq_ h Z) λw h=>L a [.S 128 (.b false),8] Z w<|mq_ h Z) λu h=>L a [.S 123 (.b false),13] Z u<|mq_ h Z) λt h=>L a [.S 116 (.b false),20] Z t<|mq_ h Z) λs h=>L a [.S 109 (.b false),27] Z s<|mq_ h Z) λq h=>L a [.S 101 (.b false),35] Z q<|mq_ h Z) λp h=>L a [.S 95 (.b false),41] Z p<|mq_ h Z) λm h=>L a [.S 90 (.b false),46] Z m<|mq_ h Z) λl h=>L a [.S 83 (.b false),53] Z l<|mq_ h Z) λk h=>L a [.S 76 (.b false),60] Z k<|mq_ h Z) λj h=>L a [.S 69 (.b false),67] Z j<|mq_ h Z) λi h=>L a [.S 61 (.b false),75] Z i<|mq_ h Z) λg h=>L a [.S 53 (.b false),83] Z g<|mq_ h Z) λN h=>H a [2] Z<|E h Z U
def QfY (b:(L_ Qw))(f:Int)(a:Int):O_ ((Int×Int)⊕Int):=bif (a<(b.length:Int))then (idx b a).bind λc=>(idx b a).bind λd=>(idx b a).bind λe=>some (.inl ((Qq ((Qq ((Qq (f+(c.Mode.Vars.length:Int)))+(d.Mode.Ins.length:Int)))+(e.Mode.Outs.length:Int))),(Qq (a+1))))else some (.inr f)
def QfZ (a:Int):O_ Bool:=some (decide (a<=1000))
def Vz (a:(L_ Qw)):O_ Bool:=bif (80<(a.length:Int))then some false else (QQ (λst=>QfY a st.1 st.2) (0,0)).bind (λq=>QfZ q)
def Qf0 (f):CT 28 [.sl 11 (f.map Qn)] [] (Vz f) V.b no_:=
 W 41 func28 Z λC d r h=>J d [9,.o (.ln f.length),3] Z Qd<|I h (λe h=>J d [.T,7] Z e<|E h Z U) λe h=>J d [.F,14] Z e<|lp_ h (λst=>⟨[(0,.sl 11 (f.map Qn)),(3,.I st.1),(4,.I st.2)],[]⟩) (λq=>(.exit 0,⟨[(3,.I q)],[]⟩)) Z (λ⟨t,u⟩ o h=>J d [5,.o (.ln f.length),3] Z Qd<|I h (λc h=>B h λg i h=>B h λj k h=>B h λl p h=>G d [.T,4] Z (A c) <| 
  dr_ d [.N,.N,.N,.B (.row (Qn g)),.N,.N,.N,.B (.ln g.Mode.Vars.length),.N,.N,.N,.B (.row (Qn j)),.N,.N,.N,.B (.ln j.Mode.Ins.length),.N,.N,.N,.B (.row (Qn l)),.N,.N,.N,.B (.ln l.Mode.Outs.length),.N,.m .s] [] [] [0,3,4] [] Z Z (a6_ (Xd i) Qd (Xd k) Qd (Xd p) Qd) Z <|
  H d [7] Z<|rN_ h Z) λc h=>J d [.F,2] Z c<|rX_ h Z) λv h=>H d [10] Z<|E h Z U
def Oh (f:Qv)(h:Qv->Int->O_ Int)(a:Int)(c:Int)(d:Int):O_ ((Int×Int)⊕(Unit⊕Int)):=bif (d<(f.Kids.length:Int))then (idx f.Kids d).bind λe=>(h e (Qq (a-1))).bind λb=>bif (b==0)then some (.inr (.inl ()))else bif ((Qq ((Qq (c-500))+b))<=1)then some (.inr (.inl ()))else some (.inl ((Qq ((Qq (c-500))+b)),(Qq (d+1))))else some (.inr (.inr c))
def Qf1 : O_ Int:=some 0
def Qf2 (a:Int):O_ Int:=some (Qq (a-1))
def Pv (h:Qv->Int->O_ Int)(b:Qv)(a:Int):O_ Int:=
 bif ((a<=0)||(9<(b.Kids.length:Int)))then
 some 0
 else
 (QQ (λst=>Oh b h a st.1 st.2) (500,0)).bind (Sum.elim (λq=>Qf1) (λq=>Qf2 q))
def Ef : Nat->Qv->Int->O_ Int
 | 0,_,_=>none
 | n+1,b,a=>Pv (Ef n) b a
def VA (b:Qv)(a:Int):O_ Int:=Ef (SizeOf.sizeOf b) b a
def QdJ (y:Qv->Int->O_ Int)(D:∀(f:Qv) (a:Int) {r:Int},y f a=some r->QX prog 142 [.agg (Qy f),.I a] [] (Gives (.I r) []))(f:Qv)(a:Int):CT 142 [.agg (Qy f),.I a] [] (Pv y f a) V.I no_:=
 W 41 func142 Z λC e r h=>H e [8] Z<|Y ⟨[(1,.I a),lk_ 2,(15,.b ((a<=0)||(9<(f.Kids.length:Int))))],[(2,.var (Qy f))]⟩ (H e [4] Z<|bO_ (decide (a<=0)) (λg=>G e [.S 10 (.b true),6,.S 15 (.b ((a<=0)||(9<(f.Kids.length:Int))))] Z ⟨(tc_ g),(cb_ (Gc g Z))⟩<|M Z) λg=>G e [.S 10 (.b false),2,.o (.ln f.Kids.length),3,.S 15 (.b ((a<=0)||(9<(f.Kids.length:Int))))] Z ⟨⟨(tc_ g),HO _⟩,(cb_ (JM g Z))⟩<|M Z)<|H e [1] Z<|I h (λl h=>J e [.T,7] Z l<|E h Z U) λl h=>J e [.F,14] Z l<|lq_ h (λst=>⟨[(1,.I a),lk_ 2,(5,.I st.1),(6,.I st.2)],[(2,.var (Qy f))]⟩) (λq=>(.ret,⟨[(4,.I 0)],[]⟩)) (λq=>(.exit 0,⟨[(5,.I q)],[]⟩)) Z (λ⟨w,x⟩ o h=>J e [6,.o (.ln f.Kids.length),3] Z (HO _)<|I h (λi h=>B h λm p h=>B h λt s h=>g4_ e [.T,9,.o (.row (Qy m)),.A (Qy m),2,.o (.C2 (.I t)),10] Z i (Gj p) Z (D _ _ s)<|I h (λj h=>J e [.T,9] Z j<|rR_ h Z) λj h=>J e [.F,17] Z j<|I h (λk h=>J e [.T,8] Z k<|rR_ h Z) λk h=>J e [.F,8] Z k<|rN_ h Z) λi h=>J e [.F,2] Z i<|rX_ h Z) (λ_ h=>H e [2] Z<|E h Z U) (λu h=>H e [10] Z<|E h Z U)
def Sf : ∀(fuel:Nat) (b:Qv) (a:Int) {r:Int},Ef fuel b a=some r->QX prog 142 [.agg (Qy b),.I a] [] (Gives (.I r) [])
 | 0,_,_,_,h=>by cases h
 | n+1,b,a,_,h=>QdJ (Ef n) (λ_ _ _ h=>Sf n _ _ h) b a _ h
def Qf3 (b a){r}(h:VA b a=some r):QX prog 142 [.agg (Qy b),.I a] [] (Gives (.I r) []):=Sf _ b a h
def CV (a:Qv):O_ Bool:=(VA a 60).bind λb=>some (decide (0<b))
def Oi (a):CT 83 [.agg (Qy a)] [] (CV a) V.b no_:=
 W 6 func83 Z λC f r h=>B h λg e h=>K f [8,.A (Qy a),.o (.C2 (.I g)),5] Z Z (Qf3 _ _ e)<|E h Z U
def Ze (d:Ql)(e:Int)(a:Int)(b:Xh):O_ Bool:=(idx d.Colours e).bind λc=>bif (100<(c.Name.size:Int))then some true else some (decide (400<(Qq (a+(b.Names.length:Int)))))
def Oj (e:Ql)(f:Int)(a:Int):O_ (Int⊕(Unit⊕Unit)):=(idx e.Colours f).bind λb=>bif (a<(b.Names.length:Int))then (idx e.Colours f).bind λc=>(idx c.Names a).bind λd=>bif (100<(d.size:Int))then some (.inr (.inl ()))else some (.inl (Qq (a+1)))else some (.inr (.inr ()))
def Qf4 : O_ ((Int×Int)⊕(Unit⊕Int)):=some (.inr (.inl ()))
def Qf5 (a:Int)(b:Xh)(c:Int):O_ ((Int×Int)⊕(Unit⊕Int)):=some (.inl ((Qq (a+(b.Names.length:Int))),(Qq (c+1))))
def Zf (e:Ql)(d:Int)(a:Int)(b:Xh)(c:Bool):O_ ((Int×Int)⊕(Unit⊕Int)):=bif c then some (.inr (.inl ()))else (QQ (λst=>Oj e d st) 0).bind (Sum.elim (λq=>Qf4) (λq=>Qf5 a b d))
def Ok (c:Ql)(a:Int)(d:Int):O_ ((Int×Int)⊕(Unit⊕Int)):=bif (d<(c.Colours.length:Int))then (idx c.Colours d).bind λb=>(Ze c d a b).bind (λe=>Zf c d a b e)else some (.inr (.inr a))
def Qf6 : O_ Bool:=some false
def Ol (c:Ql)(a:Int)(b:Int):O_ ((Int×Int)⊕(Unit⊕Int)):=bif (b<(c.Places.length:Int))then (idx c.Places b).bind λd=>(idx c.Places b).bind λe=>bif (100<(e.Name.size:Int))then some (.inr (.inl ()))else some (.inl ((Qq (a+(d.First.length:Int))),(Qq (b+1))))else some (.inr (.inr a))
def Qf7 : O_ Bool:=some false
def Nj (b:QS)(a:Int):O_ (Int⊕(Unit⊕Unit)):=bif (a<(b.Vars.length:Int))then (idx b.Vars a).bind λc=>bif (100<(c.Name.size:Int))then some (.inr (.inl ()))else some (.inl (Qq (a+1)))else some (.inr (.inr ()))
def Qe3 : O_ ((Int×Int)⊕(Unit⊕Unit)):=some (.inr (.inl ()))
def Nk (c:QS)(a:Bool)(b:Int):O_ ((Bool×Int)⊕Bool):=bif (b<(c.Ins.length:Int))then (idx c.Ins b).bind λd=>(CV d.Expr).bind λe=>some (.inl ((a&&e),(Qq (b+1))))else some (.inr a)
def Nl (c:QS)(a:Bool)(b:Int):O_ ((Bool×Int)⊕Bool):=bif (b<(c.Outs.length:Int))then (idx c.Outs b).bind λd=>(CV d.Expr).bind λe=>some (.inl ((a&&e),(Qq (b+1))))else some (.inr a)
def Nm (a:Int)(b:QS)(d:Int)(c:Bool):O_ ((Int×Int)⊕(Unit⊕Unit)):=bif (!c)then some (.inr (.inl ()))else some (.inl ((Qq ((Qq ((Qq ((Qq (a+(b.Vars.length:Int)))+(b.Ins.length:Int)))+(b.Outs.length:Int)))+(b.Cancel.length:Int))),(Qq (d+1))))
def Nn (b:QS)(a:Int)(d:Int)(c:Bool):O_ ((Int×Int)⊕(Unit⊕Unit)):=(QQ (λst=>Nl b st.1 st.2) (c,0)).bind (λq=>Nm a b d q)
def FB (b:QS)(a:Int)(c:Int):O_ ((Int×Int)⊕(Unit⊕Unit)):=(CV b.Guard).bind λd=>(QQ (λst=>Nk b st.1 st.2) (d,0)).bind (λq=>Nn b a c q)
def No (d:Ql)(b:Int)(c:Int):O_ ((Int×Int)⊕(Unit⊕Unit)):=
 bif (c<(d.Tasks.length:Int))then
 (idx d.Tasks c).bind λa=>
 bif ((200<(Qq ((Qq ((Qq ((Qq (b+(a.Vars.length:Int)))+(a.Ins.length:Int)))+(a.Outs.length:Int)))+(a.Cancel.length:Int))))||(100<(a.Name.size:Int)))then
 some (.inr (.inl ()))
 else
 (QQ (λst=>Nj a st) 0).bind (Sum.elim (λq=>Qe3) (λq=>FB a b c))
 else
 some (.inr (.inr ()))
def Qe4 : O_ Bool:=some false
def Qe5 (a:Int):O_ Bool:=some (decide (a<=400))
def Np (b:Ql)(a:Int):O_ Bool:=(QQ (λst=>No b st.1 st.2) (0,0)).bind (Sum.elim (λq=>Qe4) (λq=>Qe5 a))
def Nq (b:Ql)(a:Int):O_ Bool:=(QQ (λst=>Ol b st.1 st.2) (a,0)).bind (Sum.elim (λq=>Qf7) (λq=>Np b q))
def OM (a:Ql):O_ Bool:=
 bif ((40<(a.Colours.length:Int))||((70<(a.Places.length:Int))||(70<(a.Tasks.length:Int))))then
 some false
 else
 (QQ (λst=>Ok a st.1 st.2) (0,0)).bind (Sum.elim (λq=>Qf6) (λq=>Nq a q))
def Qf8 (i):CT 47 [.agg (Qa i)] [] (OM i) V.b no_:=
 W 201 func47 Z λC g r h=>H g [8] Z<|Y ⟨[lk_ 1,(31,.b ((40<(i.Colours.length:Int))||((70<(i.Places.length:Int))||(70<(i.Tasks.length:Int)))))],[(1,.var (Qa i))]⟩ (J g [3,.o (.ln i.Colours.length),2] Z Qd<|bO_ (decide (40<(i.Colours.length:Int))) (λu=>G g [.S 20 (.b true),12,.S 31 (.b ((40<(i.Colours.length:Int))||((70<(i.Places.length:Int))||(70<(i.Tasks.length:Int)))))] Z ⟨(tc_ u),(cb_ (Gc u Z))⟩<|M Z) λu=>G g [.S 20 (.b false),2,.o (.ln i.Places.length),3] Z ⟨(tc_ u),Qd⟩<|bO_ (decide (70<(i.Places.length:Int))) (λw=>G g [.S 26 (.b true),6,.S 31 (.b ((40<(i.Colours.length:Int))||((70<(i.Places.length:Int))||(70<(i.Tasks.length:Int)))))] Z ⟨(tc_ w),(cb_ (JM u (Gc w Z)))⟩<|M Z) λw=>G g [.S 26 (.b false),2,.o (.ln i.Tasks.length),3,.S 31 (.b ((40<(i.Colours.length:Int))||((70<(i.Places.length:Int))||(70<(i.Tasks.length:Int)))))] Z ⟨⟨(tc_ w),Qd⟩,(cb_ (JM u (JM w Z)))⟩<|M Z)<|H g [1] Z<|I h (λb1 h=>J g [.T,7] Z b1<|E h Z U) λb1 h=>J g [.F,14] Z b1<|lq_ h (λst=>⟨[lk_ 1,(3,.I st.1),(4,.I st.2)],[(1,.var (Qa i))]⟩) (λq=>(.ret,⟨[(2,.b false)],[]⟩)) (λq=>(.exit 0,⟨[lk_ 1,(3,.I q)],[(1,.var (Qa i))]⟩)) Z (λ⟨k,i9⟩ o h=>J g [6,.o (.ln i.Colours.length),3] Z Qd<|I h (λx h=>B h λy b3 h=>g3_ g [.T,10,.o (.row (QK y)),2,.o (.ln y.Names.length),6] Z x (Xd b3) Qd<|mV_ h (λb2=>⟨[lk_ 1,(3,.I (Qq (k+(y.Names.length:Int)))),(4,.I i9),(59,.b b2)],[(1,.var (Qa i))]⟩) (λb2 h=>B h λd3 b4 h=>J g [4,.o (.row (QK d3)),5] Z (Xd b4)<|I h (λz h=>L g [.S 56 (.b true),4] Z z<|mq_ h Z) λz h=>L g [.S 56 (.b false),4] Z z<|mq_ h Z) λb2 h=>H g [1] Z<|I h (λD h=>J g [.T,9] Z D<|rR_ h Z) λD h=>J g [.F,8] Z D<|lq_ h (λst=>⟨[lk_ 1,(3,.I (Qq (k+(y.Names.length:Int)))),(4,.I i9),(5,.I st)],[(1,.var (Qa i))]⟩) (λq=>(.ret,⟨[(2,.b false)],[]⟩)) (λq=>(.exit 2,⟨[lk_ 1,(3,.I (Qq (k+(y.Names.length:Int)))),(4,.I i9)],[(1,.var (Qa i))]⟩)) Z (λe3 o h=>B h λb5 b6 h=>K g [7,.o (.row (QK b5)),2,.o (.ln b5.Names.length),3] Z (Xd b6) Qd<|I h (λN h=>B h λd4 b7 h=>B h λd5 b8 h=>g3_ g [.T,9,.o (.row (QK d4)),3,.o (.row (Di d5)),5] Z N (Xd b7) (Xd b8)<|I h (λP h=>J g [.T,8] Z P<|rR_ h Z) λP h=>J g [.F,8] Z P<|rN_ h Z) λN h=>J g [.F,2] Z N<|rX_ h Z) (λ_ h=>H g [3] Z<|rR_ h Z) (λ_ h=>H g [8] Z<|rN_ h Z)) λx h=>J g [.F,2] Z x<|rX_ h Z) (λ_ h=>H g [2] Z<|E h Z U) (λb9 h=>H g [9] Z<|lq_ h (λst=>⟨[lk_ 1,(3,.I st.1),(6,.I st.2)],[(1,.var (Qa i))]⟩) (λq=>(.ret,⟨[(2,.b false)],[]⟩)) (λq=>(.exit 4,⟨[lk_ 1,(3,.I q)],[(1,.var (Qa i))]⟩)) Z (λ⟨c0,e4⟩ o h=>J g [6,.o (.ln i.Places.length),3] Z Qd<|I h (λa0 h=>B h λc1 c2 h=>B h λd6 c3 h=>g4_ g [.T,10,.o (.row (QH c1)),2,.o (.ln c1.First.length),9,.o (.row (QH d6)),6] Z a0 (Xd c2) Qd (Xd c3)<|I h (λa1 h=>J g [.T,8] Z a1<|rR_ h Z) λa1 h=>J g [.F,8] Z a1<|rN_ h Z) λa0 h=>J g [.F,2] Z a0<|rX_ h Z) (λ_ h=>H g [2] Z<|E h Z U) (λf h=>H g [14] Z<|lq_ h (λst=>⟨[lk_ 1,(3,.I f),(7,.I st.1),(8,.I st.2)],[(1,.var (Qa i))]⟩) (λq=>(.ret,⟨[(2,.b false)],[]⟩)) (λq=>(.exit 6,⟨[(3,.I f)],[]⟩)) Z (λ⟨e,j⟩ o h=>J g [6,.o (.ln i.Tasks.length),3] Z Qd<|I h (λa2 h=>B h λa c4 h=>G g [.T,9,.o (.row (Qi a)),.A (Qi a),2,.O 9 (.var (Qi a)),7,.o (.ln a.Vars.length),3,.o (.ln a.Ins.length),3,.o (.ln a.Outs.length),3,.o (.ln a.Cancel.length),6] Z (a8_ a2 (Xd c4) Z Z Qd Qd Qd Qd)<|Y ⟨[lk_ 1,(3,.I f),(7,.I (Qq ((Qq ((Qq ((Qq (e+(a.Vars.length:Int)))+(a.Ins.length:Int)))+(a.Outs.length:Int)))+(a.Cancel.length:Int)))),(8,.I j),lk_ 9,(142,.b ((200<(Qq ((Qq ((Qq ((Qq (e+(a.Vars.length:Int)))+(a.Ins.length:Int)))+(a.Outs.length:Int)))+(a.Cancel.length:Int))))||(100<(a.Name.size:Int))))],[(1,.var (Qa i)),(9,.var (Qi a))]⟩ (H g [4] Z<|bO_ (decide (200<(Qq ((Qq ((Qq ((Qq (e+(a.Vars.length:Int)))+(a.Ins.length:Int)))+(a.Outs.length:Int)))+(a.Cancel.length:Int))))) (λl=>G g [.S 137 (.b true),6,.S 142 (.b ((200<(Qq ((Qq ((Qq ((Qq (e+(a.Vars.length:Int)))+(a.Ins.length:Int)))+(a.Outs.length:Int)))+(a.Cancel.length:Int))))||(100<(a.Name.size:Int))))] Z ⟨(tc_ l),(cb_ (Gc l Z))⟩<|M Z) λl=>G g [.S 137 (.b false),6,.S 142 (.b ((200<(Qq ((Qq ((Qq ((Qq (e+(a.Vars.length:Int)))+(a.Ins.length:Int)))+(a.Outs.length:Int)))+(a.Cancel.length:Int))))||(100<(a.Name.size:Int))))] Z ⟨(tc_ l),(cb_ (JM l Z))⟩<|M Z)<|H g [1] Z<|I h (λa3 h=>J g [.T,9] Z a3<|rR_ h Z) λa3 h=>J g [.F,9] Z a3<|lq_ h (λst=>⟨[lk_ 1,(3,.I f),(7,.I (Qq ((Qq ((Qq ((Qq (e+(a.Vars.length:Int)))+(a.Ins.length:Int)))+(a.Outs.length:Int)))+(a.Cancel.length:Int)))),(8,.I j),lk_ 9,(10,.I st)],[(1,.var (Qa i)),(9,.var (Qi a))]⟩) (λq=>(.ret,⟨[(2,.b false)],[]⟩)) (λq=>(.exit 8,⟨[lk_ 1,(3,.I f),(7,.I (Qq ((Qq ((Qq ((Qq (e+(a.Vars.length:Int)))+(a.Ins.length:Int)))+(a.Outs.length:Int)))+(a.Cancel.length:Int)))),(8,.I j),lk_ 9],[(1,.var (Qa i)),(9,.var (Qi a))]⟩)) Z (λe5 o h=>J g [6,.o (.ln a.Vars.length),3] Z Qd<|I h (λa4 h=>B h λd7 c5 h=>K g [.T,9,.o (.row (Xg d7)),6] Z a4 (Xd c5)<|I h (λa5 h=>J g [.T,8] Z a5<|rR_ h Z) λa5 h=>J g [.F,8] Z a5<|rN_ h Z) λa4 h=>J g [.F,2] Z a4<|rX_ h Z) (λ_ h=>H g [4] Z<|rR_ h Z) (λ_ h=>have h:FB a e j=some o:=h;B h λd8 c6 h=>K g [5,.A (Qy a.Guard),.o (.C1 (.b d8)),10] Z Z (Oi _ _ c6)<|lp_ h (λst=>⟨[lk_ 1,(3,.I f),(7,.I (Qq ((Qq ((Qq ((Qq (e+(a.Vars.length:Int)))+(a.Ins.length:Int)))+(a.Outs.length:Int)))+(a.Cancel.length:Int)))),(8,.I j),lk_ 9,(11,.b st.1),(12,.I st.2)],[(1,.var (Qa i)),(9,.var (Qi a))]⟩) (λq=>(.exit 10,⟨[lk_ 1,(3,.I f),(7,.I (Qq ((Qq ((Qq ((Qq (e+(a.Vars.length:Int)))+(a.Ins.length:Int)))+(a.Outs.length:Int)))+(a.Cancel.length:Int)))),(8,.I j),lk_ 9,(11,.b q)],[(1,.var (Qa i)),(9,.var (Qi a))]⟩)) Z (λ⟨s,d9⟩ o h=>J g [6,.o (.ln a.Ins.length),3] Z Qd<|I h (λa6 h=>B h λc7 c8 h=>B h λa9 c9 h=>g4_ g [.T,9,.o (.row (XL c7)),1,.A (Qy c7.Expr),.o (.C1 (.b a9)),3] Z a6 (Xd c8) Z (Oi _ _ c9)<|Y ⟨[lk_ 1,(3,.I f),(7,.I (Qq ((Qq ((Qq ((Qq (e+(a.Vars.length:Int)))+(a.Ins.length:Int)))+(a.Outs.length:Int)))+(a.Cancel.length:Int)))),(8,.I j),lk_ 9,(11,.b (s&&a9)),(12,.I d9)],[(1,.var (Qa i)),(9,.var (Qi a))]⟩ (H g [3] Z<|bO_ s (λm=>G g [.S 176 (.b true),4,.S 11 (.b (s&&a9))] Z ⟨(tc_ m),(cb_ (Jv m Z))⟩<|M Z) λm=>G g [.S 176 (.b false),4,.S 11 (.b (s&&a9))] Z ⟨(tc_ m),(cb_ (WC m Z))⟩<|M Z)<|H g [7] Z<|rN_ h Z) λa6 h=>J g [.F,2] Z a6<|rX_ h Z) λe1 h=>H g [9] Z<|lp_ h (λst=>⟨[lk_ 1,(3,.I f),(7,.I (Qq ((Qq ((Qq ((Qq (e+(a.Vars.length:Int)))+(a.Ins.length:Int)))+(a.Outs.length:Int)))+(a.Cancel.length:Int)))),(8,.I j),lk_ 9,(11,.b st.1),(14,.I st.2)],[(1,.var (Qa i)),(9,.var (Qi a))]⟩) (λq=>(.exit 12,⟨[lk_ 1,(3,.I f),(7,.I (Qq ((Qq ((Qq ((Qq (e+(a.Vars.length:Int)))+(a.Ins.length:Int)))+(a.Outs.length:Int)))+(a.Cancel.length:Int)))),(8,.I j),(11,.b q)],[(1,.var (Qa i))]⟩)) Z (λ⟨t,e0⟩ o h=>J g [6,.o (.ln a.Outs.length),3] Z Qd<|I h (λa7 h=>B h λd0 d1 h=>B h λb0 d2 h=>g4_ g [.T,9,.o (.row (XL d0)),1,.A (Qy d0.Expr),.o (.C1 (.b b0)),3] Z a7 (Xd d1) Z (Oi _ _ d2)<|Y ⟨[lk_ 1,(3,.I f),(7,.I (Qq ((Qq ((Qq ((Qq (e+(a.Vars.length:Int)))+(a.Ins.length:Int)))+(a.Outs.length:Int)))+(a.Cancel.length:Int)))),(8,.I j),lk_ 9,(11,.b (t&&b0)),(14,.I e0)],[(1,.var (Qa i)),(9,.var (Qi a))]⟩ (H g [3] Z<|bO_ t (λp=>G g [.S 194 (.b true),4,.S 11 (.b (t&&b0))] Z ⟨(tc_ p),(cb_ (Jv p Z))⟩<|M Z) λp=>G g [.S 194 (.b false),4,.S 11 (.b (t&&b0))] Z ⟨(tc_ p),(cb_ (WC p Z))⟩<|M Z)<|H g [7] Z<|rN_ h Z) λa7 h=>J g [.F,2] Z a7<|rX_ h Z) λe2 h=>H g [8] Z<|I h (λa8 h=>J g [.T,8] Z a8<|rR_ h Z) λa8 h=>J g [.F,8] Z a8<|rN_ h Z)) λa2 h=>J g [.F,2] Z a2<|rX_ h Z) (λ_ h=>H g [2] Z<|E h Z U) (λ_ h=>H g [10] Z<|E h Z U)))
def Om (c:QMk)(d:Int)(a:Int):O_ ((Int×Int)⊕Int):=bif ((a<(c.length:Int))&&(a<100))then (idx c a).bind λb=>some (.inl ((Qq (d+(b.length:Int))),(Qq (a+1))))else some (.inr d)
def Qf9 (a:QMk)(b:Int):O_ Bool:=some (((a.length:Int)<=70)&&(b<=300))
def ON (a:QMk):O_ Bool:=(QQ (λst=>Om a st.1 st.2) (0,0)).bind (λq=>Qf9 a q)
def Qga (c):CT 55 [.sl 1 (c.map Qm)] [] (ON c) V.b no_:=
 W 29 func55 Z λC d r h=>H d [17] Z<|lp_ h (λst=>⟨[(0,.sl 1 (c.map Qm)),(3,.I st.1),(4,.I st.2)],[]⟩) (λq=>(.exit 0,⟨[(0,.sl 1 (c.map Qm)),(3,.I q)],[]⟩)) Z (λ⟨l,g⟩ o h=>H d [2] Z<|Y ⟨[(0,.sl 1 (c.map Qm)),(3,.I l),(4,.I g),(12,.b ((g<(c.length:Int))&&(g<100)))],[]⟩ (J d [3,.o (.ln c.length),2] Z Qd<|bO_ (decide (g<(c.length:Int))) (λe=>G d [.S 9 (.b true),4,.S 12 (.b ((g<(c.length:Int))&&(g<100)))] Z ⟨(tc_ e),(cb_ (Jv e Z))⟩<|M Z) λe=>G d [.S 9 (.b false),4,.S 12 (.b ((g<(c.length:Int))&&(g<100)))] Z ⟨(tc_ e),(cb_ (WC e Z))⟩<|M Z)<|H d [1] Z<|I h (λf h=>B h λi j h=>g3_ d [.T,8,.o (.row (Qm i)),1,.o (.ln i.length),10] Z f (Xd j) Qd<|rN_ h Z) λf h=>J d [.F,2] Z f<|rX_ h Z) λk h=>H d [3] Z<|Y ⟨[(2,.b (((c.length:Int)<=70)&&(k<=300)))],[]⟩ (J d [2,.o (.ln c.length),2] Z Qd<|bO_ (decide ((c.length:Int)<=70)) (λa=>G d [.S 25 (.b true),5,.S 2 (.b (((c.length:Int)<=70)&&(k<=300)))] Z ⟨(tc_ a),(cb_ (Jv a Z))⟩<|M Z) λa=>G d [.S 25 (.b false),5,.S 2 (.b (((c.length:Int)<=70)&&(k<=300)))] Z ⟨(tc_ a),(cb_ (WC a Z))⟩<|M Z)<|H d [2] Z<|E h Z U
def Lw (a:Ql):O_ Bool:=some (((a.Places.length:Int)<=64)&&((a.Tasks.length:Int)<=64))
def QdK (a):CT 91 [.L 617] [(617,.var (Qa a))] (Lw a) V.b (λ_=>[(617,.var (Qa a))]):=
 W 12 func91 Z λC d r h=>H d [6] Z<|Y ⟨[(1,.b (((a.Places.length:Int)<=64)&&((a.Tasks.length:Int)<=64)))],[(617,.var (Qa a))]⟩ (J d [3,.o (.ln a.Places.length),2] Z Qd<|bO_ (decide ((a.Places.length:Int)<=64)) (λc=>G d [.S 6 (.b true),2,.o (.ln a.Tasks.length),4,.S 1 (.b (((a.Places.length:Int)<=64)&&((a.Tasks.length:Int)<=64)))] Z ⟨⟨(tc_ c),Qd⟩,(cb_ (Jv c Z))⟩<|M Z) λc=>G d [.S 6 (.b false),7,.S 1 (.b (((a.Places.length:Int)<=64)&&((a.Tasks.length:Int)<=64)))] Z ⟨(tc_ c),(cb_ (WC c Z))⟩<|M Z)<|H d [2] Z<|E h Z r1_
def YI (b:(L_ XB))(a:Int):O_ Bool:=some ((0<=a)&&(a<(b.length:Int)))
def Kc (d c):CT 93 [.sl 3 (d.map QH),.I c] [] (YI d c) V.b no_:=
 W 13 func93 Z λC e r h=>H e [6] Z<|Y ⟨[(4,.b ((0<=c)&&(c<(d.length:Int))))],[]⟩ (H e [4] Z<|bO_ (decide (0<=c)) (λa=>G e [.S 7 (.b true),2,.o (.ln d.length),4,.S 4 (.b ((0<=c)&&(c<(d.length:Int))))] Z ⟨⟨(tc_ a),Qd⟩,(cb_ (Jv a Z))⟩<|M Z) λa=>G e [.S 7 (.b false),7,.S 4 (.b ((0<=c)&&(c<(d.length:Int))))] Z ⟨(tc_ a),(cb_ (WC a Z))⟩<|M Z)<|H e [2] Z<|E h Z U
def Sg (a:Ql):O_ Bool:=(YI a.Places a.From).bind λb=>bif b then (YI a.Places a.To).bind λc=>some c else some false
def Sh (a:Bool):O_ Bool:=some a
def Lx (a:Ql):O_ Bool:=(Sg a).bind (λb=>Sh b)
def QdL (f):CT 92 [.L 617] [(617,.var (Qa f))] (Lx f) V.b (λ_=>[(617,.var (Qa f))]):=
 W 14 func92 Z λC e r h=>H e [6] Z<|mV_ h (λg=>⟨[(1,.b g)],[(617,.var (Qa f))]⟩) (λg h=>B h λk i h=>J e [5,.o (.C2 (.b k)),1] Z (Kc _ _ _ i)<|I h (λa h=>B h λl j h=>G e [.S 7 (.b true),4,.o (.C2 (.b l)),3] Z ⟨(tc_ a),(Kc _ _ _ j)⟩<|mq_ h Z) λa h=>L e [.S 7 (.b false),8] Z a<|mq_ h Z) λg h=>H e [2] Z<|E h Z r1_
def Lz (a:Ql):O_ Bool:=some (a.From != a.To)
def QdM (a):CT 94 [.L 617] [(617,.var (Qa a))] (Lz a) V.b (λ_=>[(617,.var (Qa a))]):=
 W 7 func94 Z λC c r h=>H c [16] Z<|E h Z r1_
def LA (a:Ql)(c:Int)(d:Int)(e:Int):O_ Int:=(Lw a).bind λf=>bif (!f)then some c else (Lx a).bind λg=>bif (!g)then some d else (Lz a).bind λb=>bif (!b)then some e else some 0
def QdN (i l m p):CT 90 [.own 617 3] [(617,.var [.clo (.func 91) [] [.L 618],.I l,.clo (.func 92) [] [.L 618],.I m,.clo (.func 94) [] [.L 618],.I p]),(618,.var (Qa i))] (LA i l m p) V.I (λ_=>[(617,.var [.clo (.func 91) [] [.L 618],.I l,.clo (.func 92) [] [.L 618],.I m,.clo (.func 94) [] [.L 618],.I p]),(618,.var (Qa i))]):=
 W 18 func90 Z λC a r h=>H a [14] Z<|AK.loopN 4<|AK.rnd<|B h λu q h=>g4_ a [2,.v .no [] (.b true),10,.o (.any (.L 617) none),3,.O 4 (.var [.clo (.func 91) [] [.L 618],.I l]),6,.cm (.clo) [(617,618)] [(618,617)] [] [.d] [(617,.var (Qa i))] (.b u),3] Z Z (λσ f j _=>Qf.idxV Z Z (QI a.n Z) (f _ _ Z) (f _ _ Z) (Qe.es Z) (j _ _ Z) (by decide)) Z (QdK _ _ q)<|I h (λg h=>J a [.T,13] Z g<|E h Z r2_) λg h=>K a [.F,4,.v .no [] (.I 1),2] Z g Z<|AK.met<|AK.rnd<|B h λw s h=>g4_ a [2,.v .no [] (.b true),10,.o (.any (.loc 617 0 2) none),1,.kill 4,2,.O 4 (.var [.clo (.func 92) [] [.L 618],.I m]),6,.cm (.clo) [(617,618)] [(618,617)] [] [.d] [(617,.var (Qa i))] (.b w),3] Z Z (λσ f j _=>Qf.idxV Z Z (QI a.n Z) (f _ _ Z) (f _ _ Z) (Qe.es Z) (j _ _ Z) (by decide)) Z (QdL _ _ s)<|I h (λc h=>J a [.T,13] Z c<|E h Z r2_) λc h=>K a [.F,4,.v .no [] (.I 2),2] Z c Z<|AK.met<|AK.rnd<|B h λt k h=>g4_ a [2,.v .no [] (.b true),10,.o (.any (.loc 617 0 4) none),1,.kill 4,2,.O 4 (.var [.clo (.func 94) [] [.L 618],.I p]),6,.cm (.clo) [(617,618)] [(618,617)] [] [.d] [(617,.var (Qa i))] (.b t),3] Z Z (λσ f j _=>Qf.idxV Z Z (QI a.n Z) (f _ _ Z) (f _ _ Z) (Qe.es Z) (j _ _ Z) (by decide)) Z (QdM _ _ k)<|I h (λe h=>J a [.T,13] Z e<|E h Z r2_) λe h=>K a [.F,4,.v .no [] (.I 3),2] Z e Z<|AK.met<|AK.rnd<|J a [2,.v .no [] (.b false),15] Z Z<|E h Z r2_
def Ib (a:(L_ Xh)):O_ Bool:=(Bl a).bind λb=>some b.2
def QcQ (e):CT 157 [.sl 7 (e.map QK)] [] (Ib e) V.b no_:=
 W 11 func157 Z λC g r h=>B h λf a h=>J g [8,.o (.C1 (.tup [.sl 1 (f.1.map Qb),.b f.2])),14] Z (PE _ _ a)<|E h Z U
def UG (b:Ql)(a:Int):O_ Bool:=(chk (decide (0<=(Qq (a+1)))&&decide (0<=(Qq (a+1)).toNat)&&decide ((Qq (a+1)).toNat<=b.Colours.length))).bind λ_=>(Ib ((b.Colours.drop 0).take ((Qq (a+1)).toNat-0))).bind λc=>some c
def VB (e f):CT 156 [.L 617,.L 618] [(617,.var (Qa e)),(618,.var (Qb f))] (UG e f) V.b (λ_=>[(617,.var (Qa e)),(618,.var (Qb f))]):=
 W 9 func156 Z λC i r h=>X h λa h=>B h λk g h=>K i [11,.o (.any (.sl 7 (((e.Colours.drop 0).take ((Qq (f+1)).toNat-0)).map QK)) none),.o (.C1 (.b k)),4] Z (λσ j l _=>Qf.sliceD Z Z (QI i.n Z) (j _ _ Z) (Qe.es Z) Cv.no (Cv.val (j _ _ Z) (XC (Qbp a)) Z) (XC (Qbq a)) (Kj (XC (Qbr a)) (Nat.le_of_eq Qd.symm)) Qev) (QcQ _ _ g)<|E h Z r2_
def Si (x:ByteArray):O_ (L_ ByteArray):=(chk (QhG x)).bind λ_=>some (Ad x)
def QaT (x){r}(h:Si x=some r):QX prog 343 [.s x] [] (Gives (.own 600 r.length) [(600,.arr 1 (r.map Di))]):=by
 obtain⟨_,a,h⟩:=Qp h
 cases h
 exact QgN Qj3 (by kernel_rfl) (by kernel_rfl) x (Qfz a)
def CF  : O_ (L_ ByteArray):=(Si (⟨#[99,111,108,111,117,114,32,112,108,97,99,101,32,116,97,115,107,32,118,97,114,32,119,104,101,110,32,106,111,105,110,32,115,112,108,105,116,32,105,110,32,111,117,116,32,99,97,110,99,101,108,32,97,102,116,101,114,32,109,97,110,121,32,102,114,111,109,32,116,111,32,105,110,116,32,101,110,117,109,32,112,97,105,114,32,97,110,100,32,120,111,114,32,111,114,32,105,102]⟩:ByteArray)).bind λa=>some a
def QdO  : CT 305 [] [] (CF ) (λr=>(.own 600 r.length)) (λr=>[(600,.arr 1 (r.map Di))]):=
 W 2 func305 Z λC c r h=>B h λb a h=>J c [7,.o (.co false [.d] 1 (b.map Di) b.length),4,.K [0] [1],.ren 1 600] Z ⟨(QaT _ a),Qd,.inl Z⟩<|E h Z r1_
def WV (b:(L_ ByteArray))(c:ByteArray)(a:Int):O_ (Int⊕(Int⊕Unit)):=bif (a<(b.length:Int))then (idx b a).bind λd=>bif (BY c d)then some (.inr (.inl a))else some (.inl (Qq (a+1)))else some (.inr (.inr ()))
def WW (a:Int):O_ Int:=some a
def WX : O_ Int:=some (-1)
def Wa (a:(L_ ByteArray))(b:ByteArray):O_ Int:=(QQ (λst=>WV a b st) 0).bind (Sum.elim (λq=>WW q) (λq=>WX))
def Mr (d e):CT 342 [.sl 1 (d.map Di),.s e] [] (Wa d e) V.I no_:=
 W 19 func342 Z λC b r h=>J b [9,.o (.ln d.length),4] Z Qd<|lq_ h (λst=>⟨[(0,.sl 1 (d.map Di)),(1,.s e),(7,.I (d.length:Int)),(8,.I st)],[]⟩) (λq=>(.ret,⟨[(4,.I q)],[]⟩)) (λq=>(.exit 0,⟨[],[]⟩)) Z (λi o h=>H b [6] Z<|I h (λc h=>B h λg f h=>K b [.T,15,.o (.row (Di g)),4] Z c (Xd f)<|I h (λa h=>J b [.T,9] Z a<|rR_ h Z) λa h=>J b [.F,7] Z a<|rN_ h Z) λc h=>J b [.F,2] Z c<|rX_ h Z) (λj h=>H b [2] Z<|E h Z U) (λ_ h=>H b [8] Z<|E h Z U)
def Kl (a:(L_ ByteArray))(b:ByteArray):O_ Bool:=(Wa a b).bind λc=>some (decide (0<=c))
def IK (e f):CT 304 [.sl 1 (e.map Di),.s f] [] (Kl e f) V.b no_:=
 W 9 func304 Z λC g r h=>B h λi a h=>J g [9,.o (.C2 (.I i)),5] Z (Mr _ _ _ a)<|E h Z U
def Nr (a:ByteArray):O_ Bool:=(CF).bind λb=>(Kl b a).bind λc=>some c
def Qe6 (g):CT 241 [.s g] [] (Nr g) V.b no_:=
 W 6 func241 Z λC i r h=>B h λa e h=>B h λj f h=>K i [7,.o (.co false [] 1 (a.map Di) a.length),1,.o (.c true [.o (a.map Di),.d] (.b j)),4] Z ⟨(QdO _  e),Qd,.inl Z⟩ ⟨(QfD Z),(IK _ _ _ f)⟩<|E h Z U
def TG (a:ByteArray):O_ Bool:=(Af a).bind λb=>bif b then (Nr a).bind λc=>some (!c)else some false
def TH (a:Bool):O_ Bool:=some a
def GD (a:ByteArray):O_ Bool:=(TG a).bind (λb=>TH b)
def Aw (j):CT 153 [.s j] [] (GD j) V.b no_:=
 W 10 func153 Z λC e r h=>H e [6] Z<|mV_ h (λf=>⟨[(2,.b f)],[]⟩) (λf h=>B h λk g h=>J e [2,.o (.C1 (.b k)),1] Z (LO _ _ g)<|I h (λa h=>B h λl i h=>G e [.S 5 (.b true),1,.o (.C1 (.b l)),4] Z ⟨(tc_ a),(Qe6 _ _ i)⟩<|mq_ h Z) λa h=>L e [.S 5 (.b false),6] Z a<|mq_ h Z) λf h=>H e [2] Z<|E h Z U
def GT (a:ByteArray):O_ Bool:=(GD a).bind λb=>some (!b)
def Sj (e):CT 155 [.s e] [] (GT e) V.b no_:=
 W 6 func155 Z λC f r h=>B h λg a h=>J f [8,.o (.C1 (.b g)),5] Z (Aw _ _ a)<|E h Z U
def Wb (b:(L_ ByteArray))(a:Int):O_ (Int⊕(Int⊕Unit)):=bif (a<(b.length:Int))then (idx b a).bind λc=>(GT c).bind λd=>bif d then some (.inr (.inl a))else some (.inl (Qq (a+1)))else some (.inr (.inr ()))
def Wc (a:Int):O_ Int:=some a
def Wd : O_ Int:=some (-1)
def JX (a:(L_ ByteArray)):O_ Int:=(QQ (λst=>Wb a st) 0).bind (Sum.elim (λq=>Wc q) (λq=>Wd))
def Ic (g):CT 242 [.sl 1 (g.map Di),.clo (.func 155) [] []] [] (JX g) V.I no_:=
 W 19 func242 Z λC e r h=>J e [9,.o (.ln g.length),4] Z Qd<|lq_ h (λst=>⟨[(0,.sl 1 (g.map Di)),(1,.clo (.func 155) [] []),(7,.I (g.length:Int)),(8,.I st)],[]⟩) (λq=>(.ret,⟨[(4,.I q)],[]⟩)) (λq=>(.exit 0,⟨[],[]⟩)) Z (λm o h=>H e [6] Z<|I h (λf h=>B h λk i h=>B h λl j h=>g3_ e [.T,15,.o (.row (Di k)),1,.o (.C1 (.b l)),2] Z f (Xd i) (Sj _ _ j)<|I h (λa h=>J e [.T,9] Z a<|rR_ h Z) λa h=>J e [.F,7] Z a<|rN_ h Z) λf h=>J e [.F,2] Z f<|rX_ h Z) (λp h=>H e [2] Z<|E h Z U) (λ_ h=>H e [8] Z<|E h Z U)
def Jt (a:(L_ ByteArray)):O_ Bool:=(JX a).bind λb=>some (decide (0<=b))
def Fg (c):CT 154 [.sl 1 (c.map Di),.clo (.func 155) [] []] [] (Jt c) V.b no_:=
 W 9 func154 Z λC e r h=>B h λf a h=>J e [9,.cm (.fn) [] [] [] [.d,.d] [] (.I f),5] Z (Ic _ _ a)<|E h Z U
def Lg (a:Xh):O_ Bool:=(GD a.Name).bind λb=>bif b then bif (a.Kind != 2)then some true else (Jt a.Names).bind λc=>some (!c)else some false
def Lh (a:Bool):O_ Bool:=some a
def UH (a:Xh):O_ Bool:=(Lg a).bind (λb=>Lh b)
def VC (g):CT 152 [.L 617] [(617,.var (QK g))] (UH g) V.b (λ_=>[(617,.var (QK g))]):=
 W 16 func152 Z λC a r h=>H a [6] Z<|mV_ h (λi=>⟨[(1,.b i)],[(617,.var (QK g))]⟩) (λi h=>B h λl j h=>J a [3,.o (.C1 (.b l)),1] Z (Aw _ _ j)<|I h (λe h=>L a [.S 5 (.b true),4] Z e<|I h (λf h=>L a [.S 9 (.b true),8] Z f<|mq_ h Z) λf h=>B h λm k h=>G a [.S 9 (.b false),2,.cm (.fn) [] [] [] [.d,.d] [] (.b m),5] Z ⟨(tc_ f),(Fg _ _ k)⟩<|mq_ h Z) λe h=>L a [.S 5 (.b false),12] Z e<|mq_ h Z) λi h=>H a [2] Z<|E h Z r1_
def Cc (b:Ql)(c:Int)(d:Int)(e:Xh)(f:Int):O_ Int:=(UG b c).bind λg=>bif (!g)then some d else (UH e).bind λa=>bif (!a)then some f else some 0
def QaU (i j k l m):CT 90 [.own 617 2] [(617,.var [.clo (.func 156) [] [.L 618,.L 619],.I k,.clo (.func 152) [] [.L 620],.I m]),(618,.var (Qa i)),(619,.var (Qb j)),(620,.var (QK l))] (Cc i j k l m) V.I (λ_=>[(617,.var [.clo (.func 156) [] [.L 618,.L 619],.I k,.clo (.func 152) [] [.L 620],.I m]),(618,.var (Qa i)),(619,.var (Qb j)),(620,.var (QK l))]):=
 W 18 func90 Z λC c r h=>H c [14] Z<|AK.loopN 3<|AK.rnd<|B h λt p h=>g4_ c [2,.v .no [] (.b true),10,.o (.any (.L 617) none),3,.O 4 (.var [.clo (.func 156) [] [.L 618,.L 619],.I k]),6,.cm (.clo) [(617,618),(618,619)] [(618,617),(619,618)] [] [.d,.d] [(617,.var (Qa i)),(618,.var (Qb j))] (.b t),3] Z Z (λσ f q _=>Qf.idxV Z Z (QI c.n Z) (f _ _ Z) (f _ _ Z) (Qe.es Z) (q _ _ Z) (by decide)) Z (VB _ _ _ p)<|I h (λe h=>J c [.T,13] Z e<|E h Z r4_) λe h=>K c [.F,4,.v .no [] (.I 1),2] Z e Z<|AK.met<|AK.rnd<|B h λs g h=>g4_ c [2,.v .no [] (.b true),10,.o (.any (.loc 617 0 2) none),1,.kill 4,2,.O 4 (.var [.clo (.func 152) [] [.L 620],.I m]),6,.cm (.clo) [(617,620)] [(620,617)] [] [.d] [(617,.var (QK l))] (.b s),3] Z Z (λσ f q _=>Qf.idxV Z Z (QI c.n Z) (f _ _ Z) (f _ _ Z) (Qe.es Z) (q _ _ Z) (by decide)) Z (VC _ _ g)<|I h (λa h=>J c [.T,13] Z a<|E h Z r4_) λa h=>K c [.F,4,.v .no [] (.I 2),2] Z a Z<|AK.met<|AK.rnd<|J c [2,.v .no [] (.b false),15] Z Z<|E h Z r4_
def AY (a:Int)(b:Xh)(c:Ql):O_ Int:=(Cc c a 8 b 8).bind λd=>some d
def Qam (b c a):CT 151 [.I b,.agg (QK c),.L 617] [(617,.var (Qa a))] (AY b c a) V.I (λ_=>[(617,.var (Qa a))]):=
 W 16 func151 Z λC f r h=>B h λg e h=>g4_ f [22,.A [.clo (.func 156) [] [.L 617,.L 3],.I 8],1,.A [.clo (.func 152) [] [.L 4],.I 8],.o (.any (.own 14 2) (some (.var [.clo (.func 156) [] [.L 617,.L 3],.I 8,.clo (.func 152) [] [.L 4],.I 8]))),.cm (.fn) [(617,14),(618,617),(619,3),(620,4)] [(14,617),(617,618),(3,619),(4,620)] [] [.d] [(617,.var [.clo (.func 156) [] [.L 618,.L 619],.I 8,.clo (.func 152) [] [.L 620],.I 8]),(618,.var (Qa a)),(619,.var (Qb b)),(620,.var (QK c))] (.I g),4] Z Z Z (λσ i j y=>Qf.buildAny Z Z (QI f.n Z) (Qe.es Z) OW Z (by decide) (by decide) (Ui i Z) Z Z (y Z)) (QaU _ _ _ _ _ _ e)<|E h Z r1_
def Eg (d:(L_ Xh))(e:Ql)(a:Int):O_ (Int⊕((Int×Int)⊕Unit)):=bif (a<(d.length:Int))then (idx d a).bind λc=>(AY a c e).bind λb=>bif (b != 0)then some (.inr (.inl (a,b)))else some (.inl (Qq (a+1)))else some (.inr (.inr ()))
def Eh (b:Int)(a:Int):O_ (Int×Int):=some (b,a)
def Ei : O_ (Int×Int):=some (0,0)
def DI (a:(L_ Xh))(b:Ql):O_ (Int×Int):=(QQ (λst=>Eg a b st) 0).bind (Sum.elim (λq=>Eh q.1 q.2) (λq=>Ei))
def Pw (g f):CT 150 [.sl 7 (g.map QK),.clo (.func 151) [] [.L 617]] [(617,.var (Qa f))] (DI g f) (λr=>(.tup [.I r.1,.I r.2])) (λ_=>[(617,.var (Qa f))]):=
 W 25 func150 Z λC e r h=>J e [10,.o (.ln g.length),4] Z Qd<|lq_ h (λst=>⟨[(1,.clo (.func 151) [] [.L 617]),(9,.sl 7 (g.map QK)),(10,.I (g.length:Int)),(11,.I st)],[(617,.var (Qa f))]⟩) (λq=>(.ret,⟨[(4,.I q.1),(5,.I q.2)],[(617,.var (Qa f))]⟩)) (λq=>(.exit 0,⟨[],[(617,.var (Qa f))]⟩)) Z (λm o h=>H e [6] Z<|I h (λa h=>B h λc i h=>B h λk j h=>G e [.T,7,.o (.row (QK c)),.A (QK c),3,.O 7 (.var (QK c)),6,.A (QK c),.cm (.clo) [(617,617)] [(617,617)] [] [.d,.d,.d] [(617,.var (Qa f))] (.I k),9] Z (a6_ a (Xd i) Z Z Z (Qam _ _ _ _ j))<|I h (λb h=>J e [.T,11] Z b<|rR_ h Z) λb h=>J e [.F,7] Z b<|rN_ h Z) λa h=>J e [.F,2] Z a<|rX_ h Z) (λ⟨p,l⟩ h=>H e [2] Z<|F h Z Z r1_) (λ_ h=>H e [9] Z<|F h Z Z r1_)
def Ax (a:Ql):O_ (Int×Int):=(DI a.Colours a).bind λb=>some (b.1,b.2)
def Pb (a):CT 95 [.agg (Qa a)] [] (Ax a) (λr=>(.tup [.I r.1,.I r.2])) no_:=
 W 10 func95 Z λC e r h=>B h λc b h=>J e [12,.cm (.fn) [(617,1)] [(1,617)] [] [.d,.d] [(617,.var (Qa a))] (.tup [.I c.1,.I c.2]),7] Z (Pw _ _ _ b)<|F h Z Z U
def FC (a:XB):O_ Bool:=(GD a.Name).bind λb=>some b
def QbN (a):CT 159 [.L 617] [(617,.var (QH a))] (FC a) V.b (λ_=>[(617,.var (QH a))]):=
 W 5 func159 Z λC f r h=>B h λg e h=>J f [9,.o (.C1 (.b g)),4] Z (Aw _ _ e)<|E h Z r1_
def FD (a:XB)(b:XB):O_ Bool:=some (BY a.Name b.Name)
def QbO (c a):CT 158 [.agg (QH c),.L 617] [(617,.var (QH a))] (FD c a) V.b (λ_=>[(617,.var (QH a))]):=
 W 9 func158 Z λC d r h=>H d [17] Z<|E h Z r1_
def JP (c:(L_ XB))(d:XB)(a:Int):O_ (Int⊕(Int⊕Unit)):=bif (a<(c.length:Int))then (idx c a).bind λe=>(FD e d).bind λb=>bif b then some (.inr (.inl a))else some (.inl (Qq (a+1)))else some (.inr (.inr ()))
def JQ (a:Int):O_ Int:=some a
def JR : O_ Int:=some (-1)
def Jb (a:(L_ XB))(b:XB):O_ Int:=(QQ (λst=>JP a b st) 0).bind (Sum.elim (λq=>JQ q) (λq=>JR))
def BQ (g e):CT 243 [.sl 3 (g.map QH),.clo (.func 158) [] [.L 617]] [(617,.var (QH e))] (Jb g e) V.I (λ_=>[(617,.var (QH e))]):=
 W 19 func243 Z λC c r h=>J c [9,.o (.ln g.length),4] Z Qd<|lq_ h (λst=>⟨[(0,.sl 3 (g.map QH)),(1,.clo (.func 158) [] [.L 617]),(7,.I (g.length:Int)),(8,.I st)],[(617,.var (QH e))]⟩) (λq=>(.ret,⟨[(4,.I q)],[(617,.var (QH e))]⟩)) (λq=>(.exit 0,⟨[],[(617,.var (QH e))]⟩)) Z (λm o h=>H c [6] Z<|I h (λf h=>B h λl j h=>B h λk i h=>g4_ c [.T,15,.o (.row (QH l)),.A (QH l),.cm (.clo) [(617,617)] [(617,617)] [] [.d,.d] [(617,.var (QH e))] (.b k),2] Z f (Xd j) Z (QbO _ _ _ i)<|I h (λa h=>J c [.T,9] Z a<|rR_ h Z) λa h=>J c [.F,7] Z a<|rN_ h Z) λf h=>J c [.F,2] Z f<|rX_ h Z) (λp h=>H c [2] Z<|E h Z r1_) (λ_ h=>H c [8] Z<|E h Z r1_)
def YJ (a:(L_ XB))(b:XB):O_ Bool:=(Jb a b).bind λc=>some (decide (0<=c))
def AM (e a):CT 161 [.sl 3 (e.map QH),.clo (.func 158) [] [.L 617]] [(617,.var (QH a))] (YJ e a) V.b (λ_=>[(617,.var (QH a))]):=
 W 9 func161 Z λC f r h=>B h λg c h=>J f [9,.cm (.fn) [(617,617)] [(617,617)] [] [.d,.d] [(617,.var (QH a))] (.I g),5] Z (BQ _ _ _ c)<|E h Z r1_
def FE (b:Ql)(a:Int)(c:XB):O_ Bool:=(chk (decide (0<=a)&&decide (0<=a.toNat)&&decide (a.toNat<=b.Places.length))).bind λ_=>(YJ ((b.Places.drop 0).take (a.toNat-0)) c).bind λd=>some (!d)
def QbP (f g i):CT 160 [.L 617,.L 618,.L 619] [(617,.var (Qa f)),(618,.var (Qb g)),(619,.var [.clo (.func 158) [] [.L 620]]),(620,.var (QH i))] (FE f g i) V.b (λ_=>[(617,.var (Qa f)),(618,.var (Qb g)),(619,.var [.clo (.func 158) [] [.L 620]]),(620,.var (QH i))]):=
 W 11 func160 Z λC e r h=>X h λc h=>B h λl k h=>H e [6] Z <| 
  dr_ e [.N,.N,.N,.B (.any (.sl 3 (((f.Places.drop 0).take (g.toNat-0)).map QH)) none),.N,.B (.any (.b l) none),.N,.m .s] [] [] [3] [617,618,619,620] Z Z (a2_ (λσ j o _=>Qf.sliceD Z Z (QI e.n Z) (j _ _ Z) (Qe.es Z) Cv.no (Cv.val (j _ _ Z) (XC (Qbp c)) Z) (XC (Qbq c)) (Kj (XC (Qbr c)) (Nat.le_of_eq Qd.symm)) Qev) (λσ j o _=>Qf.callSame (md:=.cm (.fn) [(617,620)] [(620,617)] [] [.d,.d] [(617,.var (QH i))] (.b l) [620]) Qe e j o Z (a2_ (AM _ _ _ k) r1_))) Z <|
  H e [2] Z<|E h Z r4_
def KM (b:(L_ Xh))(a:Int):O_ Bool:=some ((0<=a)&&(a<(b.length:Int)))
def BU (d c):CT 163 [.sl 7 (d.map QK),.I c] [] (KM d c) V.b no_:=
 W 13 func163 Z λC e r h=>H e [6] Z<|Y ⟨[(4,.b ((0<=c)&&(c<(d.length:Int))))],[]⟩ (H e [4] Z<|bO_ (decide (0<=c)) (λa=>G e [.S 7 (.b true),2,.o (.ln d.length),4,.S 4 (.b ((0<=c)&&(c<(d.length:Int))))] Z ⟨⟨(tc_ a),Qd⟩,(cb_ (Jv a Z))⟩<|M Z) λa=>G e [.S 7 (.b false),7,.S 4 (.b ((0<=c)&&(c<(d.length:Int))))] Z ⟨(tc_ a),(cb_ (WC a Z))⟩<|M Z)<|H e [2] Z<|E h Z U
def FF (a:Ql)(b:XB):O_ Bool:=(KM a.Colours b.Colour).bind λc=>some c
def QbQ (a e):CT 162 [.L 617,.L 618] [(617,.var (Qa a)),(618,.var (QH e))] (FF a e) V.b (λ_=>[(617,.var (Qa a)),(618,.var (QH e))]):=
 W 8 func162 Z λC g r h=>B h λi f h=>J g [11,.o (.C2 (.b i)),4] Z (BU _ _ _ f)<|E h Z r2_
def FG (a:XB):O_ Bool:=(Db a.First).bind λb=>some b
def QbR (a):CT 164 [.L 617] [(617,.var (QH a))] (FG a) V.b (λ_=>[(617,.var (QH a))]):=
 W 5 func164 Z λC f r h=>B h λg e h=>J f [9,.o (.C1 (.b g)),4] Z (Bi _ _ e)<|E h Z r1_
def AZ (a:(Int×Int))(b:Int):O_ Bool:=some (decide (b<=a.1))
def Qan (a c):CT 167 [.agg (QW a),.L 617] [(617,.var (Qb c))] (AZ a c) V.b (λ_=>[(617,.var (Qb c))]):=
 W 8 func167 Z λC d r h=>H d [16] Z<|E h Z r1_
def We (c:QBg)(d:Int)(a:Int):O_ (Int⊕(Int⊕Unit)):=bif (a<(c.length:Int))then (idx c a).bind λe=>(AZ e d).bind λb=>bif b then some (.inr (.inl a))else some (.inl (Qq (a+1)))else some (.inr (.inr ()))
def Wf (a:Int):O_ Int:=some a
def Wg : O_ Int:=some (-1)
def JY (a:QBg)(b:Int):O_ Int:=(QQ (λst=>We a b st) 0).bind (Sum.elim (λq=>Wf q) (λq=>Wg))
def Ie (g e):CT 244 [.sl 2 (g.map QW),.clo (.func 167) [] [.L 617]] [(617,.var (Qb e))] (JY g e) V.I (λ_=>[(617,.var (Qb e))]):=
 W 19 func244 Z λC c r h=>J c [9,.o (.ln g.length),4] Z Qd<|lq_ h (λst=>⟨[(0,.sl 2 (g.map QW)),(1,.clo (.func 167) [] [.L 617]),(7,.I (g.length:Int)),(8,.I st)],[(617,.var (Qb e))]⟩) (λq=>(.ret,⟨[(4,.I q)],[(617,.var (Qb e))]⟩)) (λq=>(.exit 0,⟨[],[(617,.var (Qb e))]⟩)) Z (λm o h=>H c [6] Z<|I h (λf h=>B h λl j h=>B h λk i h=>g4_ c [.T,15,.o (.row (QW l)),.A (QW l),.cm (.clo) [(617,617)] [(617,617)] [] [.d,.d] [(617,.var (Qb e))] (.b k),2] Z f (Xd j) Z (Qan _ _ _ i)<|I h (λa h=>J c [.T,9] Z a<|rR_ h Z) λa h=>J c [.F,7] Z a<|rN_ h Z) λf h=>J c [.F,2] Z f<|rX_ h Z) (λp h=>H c [2] Z<|E h Z r1_) (λ_ h=>H c [8] Z<|E h Z r1_)
def Ju (a:QBg)(b:Int):O_ Bool:=(JY a b).bind λc=>some (decide (0<=c))
def Fh (e a):CT 166 [.sl 2 (e.map QW),.clo (.func 167) [] [.L 617]] [(617,.var (Qb a))] (Ju e a) V.b (λ_=>[(617,.var (Qb a))]):=
 W 9 func166 Z λC f r h=>B h λg c h=>J f [9,.cm (.fn) [(617,617)] [(617,617)] [] [.d,.d] [(617,.var (Qb a))] (.I g),5] Z (Ie _ _ _ c)<|E h Z r1_
def FH (b:Ql)(a:XB):O_ Bool:=(YO b.Colours a.Colour).bind λc=>(Ju a.First c).bind λd=>some (!d)
def QbS (a e):CT 165 [.L 617,.L 618] [(617,.var (Qa a)),(618,.var (QH e))] (FH a e) V.b (λ_=>[(617,.var (Qa a)),(618,.var (QH e))]):=
 W 14 func165 Z λC j r h=>B h λf g h=>B h λk i h=>g3_ j [11,.o (.C2 (.I f)),2,.O 3 (.var (Qb f)),7,.cm (.fn) [(617,3)] [(3,617)] [] [.d,.d] [(617,.var (Qb f))] (.b k),5] Z (BZ _ _ _ g) Z (Fh _ _ _ i)<|E h Z r2_
def Cd (a:XB)(h:Int)(b:Ql)(i:Int)(j:Int)(k:Int)(l:Int)(m:Int):O_ Int:=(FC a).bind λc=>bif (!c)then some h else (FE b i a).bind λd=>bif (!d)then some j else (FF b a).bind λe=>bif (!e)then some k else (FG a).bind λf=>bif (!f)then some l else (FH b a).bind λg=>bif (!g)then some m else some 0
def QaV (l w m x y z D N):CT 90 [.own 617 5] [(617,.var [.clo (.func 159) [] [.L 618],.I w,.clo (.func 160) [] [.L 619,.L 620,.L 621],.I y,.clo (.func 162) [] [.L 619,.L 618],.I z,.clo (.func 164) [] [.L 618],.I D,.clo (.func 165) [] [.L 619,.L 618],.I N]),(618,.var (QH l)),(619,.var (Qa m)),(620,.var (Qb x)),(621,.var [.clo (.func 158) [] [.L 618]])] (Cd l w m x y z D N) V.I (λ_=>[(617,.var [.clo (.func 159) [] [.L 618],.I w,.clo (.func 160) [] [.L 619,.L 620,.L 621],.I y,.clo (.func 162) [] [.L 619,.L 618],.I z,.clo (.func 164) [] [.L 618],.I D,.clo (.func 165) [] [.L 619,.L 618],.I N]),(618,.var (QH l)),(619,.var (Qa m)),(620,.var (Qb x)),(621,.var [.clo (.func 158) [] [.L 618]])]):=
 W 18 func90 Z λC a r h=>H a [14] Z<|AK.loopN 6<|AK.rnd<|B h λP p h=>g4_ a [2,.v .no [] (.b true),10,.o (.any (.L 617) none),3,.O 4 (.var [.clo (.func 159) [] [.L 618],.I w]),6,.cm (.clo) [(617,618)] [(618,617)] [] [.d] [(617,.var (QH l))] (.b P),3] Z Z (λσ c k _=>Qf.idxV Z Z (QI a.n Z) (c _ _ Z) (c _ _ Z) (Qe.es Z) (k _ _ Z) (by decide)) Z (QbN _ _ p)<|I h (λe h=>J a [.T,13] Z e<|E h Z r5_) λe h=>K a [.F,4,.v .no [] (.I 1),2] Z e Z<|AK.met<|AK.rnd<|B h λS q h=>g4_ a [2,.v .no [] (.b true),10,.o (.any (.loc 617 0 2) none),1,.kill 4,2,.O 4 (.var [.clo (.func 160) [] [.L 619,.L 620,.L 621],.I y]),6,.cm (.clo) [(617,619),(618,620),(619,621),(620,618)] [(619,617),(620,618),(621,619),(618,620)] [] [.d,.d,.d] [(617,.var (Qa m)),(618,.var (Qb x)),(619,.var [.clo (.func 158) [] [.L 620]]),(620,.var (QH l))] (.b S),3] Z Z (λσ c k _=>Qf.idxV Z Z (QI a.n Z) (c _ _ Z) (c _ _ Z) (Qe.es Z) (k _ _ Z) (by decide)) Z (QbP _ _ _ _ q)<|I h (λf h=>J a [.T,13] Z f<|E h Z r5_) λf h=>K a [.F,4,.v .no [] (.I 2),2] Z f Z<|AK.met<|AK.rnd<|B h λa0 s h=>g4_ a [2,.v .no [] (.b true),10,.o (.any (.loc 617 0 4) none),1,.kill 4,2,.O 4 (.var [.clo (.func 162) [] [.L 619,.L 618],.I z]),6,.cm (.clo) [(617,619),(618,618)] [(619,617),(618,618)] [] [.d,.d] [(617,.var (Qa m)),(618,.var (QH l))] (.b a0),3] Z Z (λσ c k _=>Qf.idxV Z Z (QI a.n Z) (c _ _ Z) (c _ _ Z) (Qe.es Z) (k _ _ Z) (by decide)) Z (QbQ _ _ _ s)<|I h (λg h=>J a [.T,13] Z g<|E h Z r5_) λg h=>K a [.F,4,.v .no [] (.I 3),2] Z g Z<|AK.met<|AK.rnd<|B h λa1 t h=>g4_ a [2,.v .no [] (.b true),10,.o (.any (.loc 617 0 6) none),1,.kill 4,2,.O 4 (.var [.clo (.func 164) [] [.L 618],.I D]),6,.cm (.clo) [(617,618)] [(618,617)] [] [.d] [(617,.var (QH l))] (.b a1),3] Z Z (λσ c k _=>Qf.idxV Z Z (QI a.n Z) (c _ _ Z) (c _ _ Z) (Qe.es Z) (k _ _ Z) (by decide)) Z (QbR _ _ t)<|I h (λi h=>J a [.T,13] Z i<|E h Z r5_) λi h=>K a [.F,4,.v .no [] (.I 4),2] Z i Z<|AK.met<|AK.rnd<|B h λa2 u h=>g4_ a [2,.v .no [] (.b true),10,.o (.any (.loc 617 0 8) none),1,.kill 4,2,.O 4 (.var [.clo (.func 165) [] [.L 619,.L 618],.I N]),6,.cm (.clo) [(617,619),(618,618)] [(619,617),(618,618)] [] [.d,.d] [(617,.var (Qa m)),(618,.var (QH l))] (.b a2),3] Z Z (λσ c k _=>Qf.idxV Z Z (QI a.n Z) (c _ _ Z) (c _ _ Z) (Qe.es Z) (k _ _ Z) (by decide)) Z (QbS _ _ _ u)<|I h (λj h=>J a [.T,13] Z j<|E h Z r5_) λj h=>K a [.F,4,.v .no [] (.I 5),2] Z j Z<|AK.met<|AK.rnd<|J a [2,.v .no [] (.b false),15] Z Z<|E h Z r5_
def LB (a:Ql)(b:Int):O_ Int:=(YI a.Places b).bind λc=>bif (!c)then some 3 else (idx a.Places b).bind λd=>(Cd d 1 a b 5 3 1 8).bind λe=>some e
def QdP (g i):CT 98 [.agg (Qa g),.I i] [] (LB g i) V.I no_:=
 W 30 func98 Z λC e r h=>B h λm j h=>J e [13,.o (.C2 (.b m)),3] Z (Kc _ _ _ j)<|I h (λa h=>J e [.T,7] Z a<|E h Z U) λa h=>B h λf k h=>B h λp l h=>G e [.F,7,.o (.row (QH f)),.A (QH f),2,.O 5 (.var (QH f)),7,.O 6 (.var [.clo (.func 158) [] [.L 5]]),5,.A [.clo (.func 159) [] [.L 5],.I 1],1,.A [.clo (.func 160) [] [.L 2,.L 3,.L 6],.I 5],1,.A [.clo (.func 162) [] [.L 2,.L 5],.I 3],1,.A [.clo (.func 164) [] [.L 5],.I 1],1,.A [.clo (.func 165) [] [.L 2,.L 5],.I 8],.o (.any (.own 28 5) (some (.var [.clo (.func 159) [] [.L 5],.I 1,.clo (.func 160) [] [.L 2,.L 3,.L 6],.I 5,.clo (.func 162) [] [.L 2,.L 5],.I 3,.clo (.func 164) [] [.L 5],.I 1,.clo (.func 165) [] [.L 2,.L 5],.I 8]))),.cm (.fn) [(617,28),(618,5),(619,2),(620,3),(621,6)] [(28,617),(5,618),(2,619),(3,620),(6,621)] [] [.d] [(617,.var [.clo (.func 159) [] [.L 618],.I 1,.clo (.func 160) [] [.L 619,.L 620,.L 621],.I 5,.clo (.func 162) [] [.L 619,.L 618],.I 3,.clo (.func 164) [] [.L 618],.I 1,.clo (.func 165) [] [.L 619,.L 618],.I 8]),(618,.var (QH f)),(619,.var (Qa g)),(620,.var (Qb i)),(621,.var [.clo (.func 158) [] [.L 618]])] (.I p),4] Z (aC_ a (Xd k) Z Z Z Z Z Z Z Z (λσ q s y=>Qf.buildAny Z Z (QI e.n Z) (Qe.es Z) OW Z (by decide) (by decide) (Ui q Z) Z Z (y Z)) (QaV _ _ _ _ _ _ _ _ _ l))<|E h Z U
def LC (a:Int)(d:XB)(b:Ql):O_ Int:=(LB b a).bind λc=>some c
def QdQ (e f a):CT 97 [.I e,.agg (QH f),.L 617] [(617,.var (Qa a))] (LC e f a) V.I (λ_=>[(617,.var (Qa a))]):=
 W 9 func97 Z λC g r h=>B h λi b h=>K g [8,.A (Qa a),1,.o (.C2 (.I i)),4] Z Z (QdP _ _ _ b)<|E h Z r1_
def EJ (d:(L_ XB))(e:Ql)(a:Int):O_ (Int⊕((Int×Int)⊕Unit)):=bif (a<(d.length:Int))then (idx d a).bind λc=>(LC a c e).bind λb=>bif (b != 0)then some (.inr (.inl (a,b)))else some (.inl (Qq (a+1)))else some (.inr (.inr ()))
def EK (b:Int)(a:Int):O_ (Int×Int):=some (b,a)
def EL : O_ (Int×Int):=some (0,0)
def Gq (a:(L_ XB))(b:Ql):O_ (Int×Int):=(QQ (λst=>EJ a b st) 0).bind (Sum.elim (λq=>EK q.1 q.2) (λq=>EL))
def Rj (g f):CT 96 [.sl 3 (g.map QH),.clo (.func 97) [] [.L 617]] [(617,.var (Qa f))] (Gq g f) (λr=>(.tup [.I r.1,.I r.2])) (λ_=>[(617,.var (Qa f))]):=
 W 25 func96 Z λC e r h=>J e [10,.o (.ln g.length),4] Z Qd<|lq_ h (λst=>⟨[(1,.clo (.func 97) [] [.L 617]),(9,.sl 3 (g.map QH)),(10,.I (g.length:Int)),(11,.I st)],[(617,.var (Qa f))]⟩) (λq=>(.ret,⟨[(4,.I q.1),(5,.I q.2)],[(617,.var (Qa f))]⟩)) (λq=>(.exit 0,⟨[],[(617,.var (Qa f))]⟩)) Z (λm o h=>H e [6] Z<|I h (λa h=>B h λc i h=>B h λk j h=>G e [.T,7,.o (.row (QH c)),.A (QH c),3,.O 7 (.var (QH c)),6,.A (QH c),.cm (.clo) [(617,617)] [(617,617)] [] [.d,.d,.d] [(617,.var (Qa f))] (.I k),9] Z (a6_ a (Xd i) Z Z Z (QdQ _ _ _ _ j))<|I h (λb h=>J e [.T,11] Z b<|rR_ h Z) λb h=>J e [.F,7] Z b<|rN_ h Z) λa h=>J e [.F,2] Z a<|rX_ h Z) (λ⟨p,l⟩ h=>H e [2] Z<|F h Z Z r1_) (λ_ h=>H e [9] Z<|F h Z Z r1_)
def Wx (b:(L_ QS))(a:Int):O_ Bool:=some ((0<=a)&&(a<(b.length:Int)))
def FI (d c):CT 102 [.sl 14 (d.map Qi),.I c] [] (Wx d c) V.b no_:=
 W 13 func102 Z λC e r h=>H e [6] Z<|Y ⟨[(4,.b ((0<=c)&&(c<(d.length:Int))))],[]⟩ (H e [4] Z<|bO_ (decide (0<=c)) (λa=>G e [.S 7 (.b true),2,.o (.ln d.length),4,.S 4 (.b ((0<=c)&&(c<(d.length:Int))))] Z ⟨⟨(tc_ a),Qd⟩,(cb_ (Jv a Z))⟩<|M Z) λa=>G e [.S 7 (.b false),7,.S 4 (.b ((0<=c)&&(c<(d.length:Int))))] Z ⟨(tc_ a),(cb_ (WC a Z))⟩<|M Z)<|H e [2] Z<|E h Z U
def LD (a:Int)(b:Ql)(c:QS):O_ Unit:=some ()
def QdR (a b c):CT 173 [.L 617,.clo (.func 174) [] [.L 618,.L 619]] [(617,.var (Qb a)),(618,.var (Qa b)),(619,.var (Qi c))] (LD a b c) (λ_=>(.clo (.func 246) [] [.L 3,.L 2])) (λ_=>[(2,.var [.L 617]),(3,.var [.clo (.func 174) [] [.L 618,.L 619]]),(617,.var (Qb a)),(618,.var (Qa b)),(619,.var (Qi c))]):=
 W 6 func173 Z λC d r h=>H d [14] Z<|E h Z r5_
def Ce (a:Int)(b:Ql)(c:QS)(d:Int):O_ Unit:=some ()
def QaW (a b c d):CT 173 [.L 617,.clo (.func 179) [] [.L 618,.L 619,.L 620]] [(617,.var (Qb a)),(618,.var (Qa b)),(619,.var (Qi c)),(620,.var (Qb d))] (Ce a b c d) (λ_=>(.clo (.func 246) [] [.L 3,.L 2])) (λ_=>[(2,.var [.L 617]),(3,.var [.clo (.func 179) [] [.L 618,.L 619,.L 620]]),(617,.var (Qb a)),(618,.var (Qa b)),(619,.var (Qi c)),(620,.var (Qb d))]):=
 W 6 func173 Z λC e r h=>H e [14] Z<|E h Z r6_
def Cf (a:Int)(b:Ql)(c:QS)(d:Int):O_ Unit:=some ()
def QaX (a b c d):CT 173 [.L 617,.clo (.func 181) [] [.L 618,.L 619,.L 620]] [(617,.var (Qb a)),(618,.var (Qa b)),(619,.var (Qi c)),(620,.var (Qb d))] (Cf a b c d) (λ_=>(.clo (.func 246) [] [.L 3,.L 2])) (λ_=>[(2,.var [.L 617]),(3,.var [.clo (.func 181) [] [.L 618,.L 619,.L 620]]),(617,.var (Qb a)),(618,.var (Qa b)),(619,.var (Qi c)),(620,.var (Qb d))]):=
 W 6 func173 Z λC e r h=>H e [14] Z<|E h Z r6_
def Cg (a:Int)(b:Ql)(c:QS):O_ Unit:=some ()
def QaY (a b c):CT 173 [.L 617,.clo (.func 182) [] [.L 618,.L 619]] [(617,.var (Qb a)),(618,.var (Qa b)),(619,.var (Qi c))] (Cg a b c) (λ_=>(.clo (.func 246) [] [.L 3,.L 2])) (λ_=>[(2,.var [.L 617]),(3,.var [.clo (.func 182) [] [.L 618,.L 619]]),(617,.var (Qb a)),(618,.var (Qa b)),(619,.var (Qi c))]):=
 W 6 func173 Z λC d r h=>H d [14] Z<|E h Z r5_
def Ig (a:QS):O_ Bool:=(GD a.Name).bind λb=>some b
def QcR (a):CT 169 [.L 617] [(617,.var (Qi a))] (Ig a) V.b (λ_=>[(617,.var (Qi a))]):=
 W 5 func169 Z λC f r h=>B h λg e h=>J f [9,.o (.C1 (.b g)),4] Z (Aw _ _ e)<|E h Z r1_
def Ih (a:QS)(b:QS):O_ Bool:=some (BY a.Name b.Name)
def QcS (c a):CT 168 [.agg (Qi c),.L 617] [(617,.var (Qi a))] (Ih c a) V.b (λ_=>[(617,.var (Qi a))]):=
 W 9 func168 Z λC d r h=>H d [17] Z<|E h Z r1_
def Kd (c:(L_ QS))(d:QS)(a:Int):O_ (Int⊕(Int⊕Unit)):=bif (a<(c.length:Int))then (idx c a).bind λe=>(Ih e d).bind λb=>bif b then some (.inr (.inl a))else some (.inl (Qq (a+1)))else some (.inr (.inr ()))
def Ke (a:Int):O_ Int:=some a
def Kf : O_ Int:=some (-1)
def Jm (a:(L_ QS))(b:QS):O_ Int:=(QQ (λst=>Kd a b st) 0).bind (Sum.elim (λq=>Ke q) (λq=>Kf))
def CG (g e):CT 245 [.sl 14 (g.map Qi),.clo (.func 168) [] [.L 617]] [(617,.var (Qi e))] (Jm g e) V.I (λ_=>[(617,.var (Qi e))]):=
 W 19 func245 Z λC c r h=>J c [9,.o (.ln g.length),4] Z Qd<|lq_ h (λst=>⟨[(0,.sl 14 (g.map Qi)),(1,.clo (.func 168) [] [.L 617]),(7,.I (g.length:Int)),(8,.I st)],[(617,.var (Qi e))]⟩) (λq=>(.ret,⟨[(4,.I q)],[(617,.var (Qi e))]⟩)) (λq=>(.exit 0,⟨[],[(617,.var (Qi e))]⟩)) Z (λm o h=>H c [6] Z<|I h (λf h=>B h λl j h=>B h λk i h=>g4_ c [.T,15,.o (.row (Qi l)),.A (Qi l),.cm (.clo) [(617,617)] [(617,617)] [] [.d,.d] [(617,.var (Qi e))] (.b k),2] Z f (Xd j) Z (QcS _ _ _ i)<|I h (λa h=>J c [.T,9] Z a<|rR_ h Z) λa h=>J c [.F,7] Z a<|rN_ h Z) λf h=>J c [.F,2] Z f<|rX_ h Z) (λp h=>H c [2] Z<|E h Z r1_) (λ_ h=>H c [8] Z<|E h Z r1_)
def YT (a:(L_ QS))(b:QS):O_ Bool:=(Jm a b).bind λc=>some (decide (0<=c))
def BJ (e a):CT 171 [.sl 14 (e.map Qi),.clo (.func 168) [] [.L 617]] [(617,.var (Qi a))] (YT e a) V.b (λ_=>[(617,.var (Qi a))]):=
 W 9 func171 Z λC f r h=>B h λg c h=>J f [9,.cm (.fn) [(617,617)] [(617,617)] [] [.d,.d] [(617,.var (Qi a))] (.I g),5] Z (CG _ _ _ c)<|E h Z r1_
def Ii (b:Ql)(a:Int)(c:QS):O_ Bool:=(chk (decide (0<=a)&&decide (0<=a.toNat)&&decide (a.toNat<=b.Tasks.length))).bind λ_=>(YT ((b.Tasks.drop 0).take (a.toNat-0)) c).bind λd=>some (!d)
def QcT (f g i):CT 170 [.L 617,.L 618,.L 619] [(617,.var (Qa f)),(618,.var (Qb g)),(619,.var [.clo (.func 168) [] [.L 620]]),(620,.var (Qi i))] (Ii f g i) V.b (λ_=>[(617,.var (Qa f)),(618,.var (Qb g)),(619,.var [.clo (.func 168) [] [.L 620]]),(620,.var (Qi i))]):=
 W 11 func170 Z λC e r h=>X h λc h=>B h λl k h=>H e [6] Z <| 
  dr_ e [.N,.N,.N,.B (.any (.sl 14 (((f.Tasks.drop 0).take (g.toNat-0)).map Qi)) none),.N,.B (.any (.b l) none),.N,.m .s] [] [] [3] [617,618,619,620] Z Z (a2_ (λσ j o _=>Qf.sliceD Z Z (QI e.n Z) (j _ _ Z) (Qe.es Z) Cv.no (Cv.val (j _ _ Z) (XC (Qbp c)) Z) (XC (Qbq c)) (Kj (XC (Qbr c)) (Nat.le_of_eq Qd.symm)) Qev) (λσ j o _=>Qf.callSame (md:=.cm (.fn) [(617,620)] [(620,617)] [] [.d,.d] [(617,.var (Qi i))] (.b l) [620]) Qe e j o Z (a2_ (BJ _ _ _ k) r1_))) Z <|
  H e [2] Z<|E h Z r4_
def BK (b:Int)(a:QS):O_ Bool:=some ((b<=16)&&((max2 (max2 (a.Ins.length:Int) (a.Outs.length:Int)) (a.Cancel.length:Int))<=16))
def QcU (d a):CT 172 [.L 617,.L 618] [(617,.var (Qb d)),(618,.var (Qi a))] (BK d a) V.b (λ_=>[(617,.var (Qb d)),(618,.var (Qi a))]):=
 W 18 func172 Z λC e r h=>H e [6] Z<|Y ⟨[(2,.b ((d<=16)&&((max2 (max2 (a.Ins.length:Int) (a.Outs.length:Int)) (a.Cancel.length:Int))<=16)))],[(617,.var (Qb d)),(618,.var (Qi a))]⟩ (H e [4] Z<|bO_ (decide (d<=16)) (λc=>G e [.S 5 (.b true),2,.o (.ln a.Ins.length),2,.o (.ln a.Outs.length),2,.o (.ln a.Cancel.length),.o (.any (.I (max2 (max2 (a.Ins.length:Int) (a.Outs.length:Int)) (a.Cancel.length:Int))) none),4,.S 2 (.b ((d<=16)&&((max2 (max2 (a.Ins.length:Int) (a.Outs.length:Int)) (a.Cancel.length:Int))<=16)))] Z ⟨⟨⟨⟨⟨(tc_ c),Qd⟩,Qd⟩,Qd⟩,(λσ f g _=>Qf.max3 Z Z (QI e.n Z) (f _ _ Z) (f _ _ Z) (f _ _ Z))⟩,(cb_ (Jv c Z))⟩<|M Z) λc=>G e [.S 5 (.b false),14,.S 2 (.b ((d<=16)&&((max2 (max2 (a.Ins.length:Int) (a.Outs.length:Int)) (a.Cancel.length:Int))<=16)))] Z ⟨(tc_ c),(cb_ (WC c Z))⟩<|M Z)<|H e [2] Z<|E h Z r2_
def GU (a:Yz):O_ Bool:=(GD a.Name).bind λb=>some b
def Sk (a):CT 250 [.L 617] [(617,.var (Xg a))] (GU a) V.b (λ_=>[(617,.var (Xg a))]):=
 W 5 func250 Z λC f r h=>B h λg e h=>J f [9,.o (.C1 (.b g)),4] Z (Aw _ _ e)<|E h Z r1_
def GV (a:Yz)(b:Yz):O_ Bool:=some (BY a.Name b.Name)
def Sl (c a):CT 249 [.agg (Xg c),.L 617] [(617,.var (Xg a))] (GV c a) V.b (λ_=>[(617,.var (Xg a))]):=
 W 9 func249 Z λC d r h=>H d [17] Z<|E h Z r1_
def Kt (c:(L_ Yz))(d:Yz)(a:Int):O_ (Int⊕(Int⊕Unit)):=bif (a<(c.length:Int))then (idx c a).bind λe=>(GV e d).bind λb=>bif b then some (.inr (.inl a))else some (.inl (Qq (a+1)))else some (.inr (.inr ()))
def Ku (a:Int):O_ Int:=some a
def Kv : O_ Int:=some (-1)
def JE (a:(L_ Yz))(b:Yz):O_ Int:=(QQ (λst=>Kt a b st) 0).bind (Sum.elim (λq=>Ku q) (λq=>Kv))
def FR (g e):CT 306 [.sl 2 (g.map Xg),.clo (.func 249) [] [.L 617]] [(617,.var (Xg e))] (JE g e) V.I (λ_=>[(617,.var (Xg e))]):=
 W 19 func306 Z λC c r h=>J c [9,.o (.ln g.length),4] Z Qd<|lq_ h (λst=>⟨[(0,.sl 2 (g.map Xg)),(1,.clo (.func 249) [] [.L 617]),(7,.I (g.length:Int)),(8,.I st)],[(617,.var (Xg e))]⟩) (λq=>(.ret,⟨[(4,.I q)],[(617,.var (Xg e))]⟩)) (λq=>(.exit 0,⟨[],[(617,.var (Xg e))]⟩)) Z (λm o h=>H c [6] Z<|I h (λf h=>B h λl j h=>B h λk i h=>g4_ c [.T,15,.o (.row (Xg l)),.A (Xg l),.cm (.clo) [(617,617)] [(617,617)] [] [.d,.d] [(617,.var (Xg e))] (.b k),2] Z f (Xd j) Z (Sl _ _ _ i)<|I h (λa h=>J c [.T,9] Z a<|rR_ h Z) λa h=>J c [.F,7] Z a<|rN_ h Z) λf h=>J c [.F,2] Z f<|rX_ h Z) (λp h=>H c [2] Z<|E h Z r1_) (λ_ h=>H c [8] Z<|E h Z r1_)
def Jg (a:(L_ Yz))(b:Yz):O_ Bool:=(JE a b).bind λc=>some (decide (0<=c))
def Ch (e a):CT 252 [.sl 2 (e.map Xg),.clo (.func 249) [] [.L 617]] [(617,.var (Xg a))] (Jg e a) V.b (λ_=>[(617,.var (Xg a))]):=
 W 9 func252 Z λC f r h=>B h λg c h=>J f [9,.cm (.fn) [(617,617)] [(617,617)] [] [.d,.d] [(617,.var (Xg a))] (.I g),5] Z (FR _ _ _ c)<|E h Z r1_
def GW (b:(L_ Yz))(a:Int)(c:Yz):O_ Bool:=(chk (decide (0<=a)&&decide (0<=a.toNat)&&decide (a.toNat<=b.length))).bind λ_=>(Jg ((b.drop 0).take (a.toNat-0)) c).bind λd=>some (!d)
def Sm (f g i):CT 251 [.L 617,.L 618,.L 619] [(617,.var (Jh f)),(618,.var (Qb g)),(619,.var [.clo (.func 249) [] [.L 620]]),(620,.var (Xg i))] (GW f g i) V.b (λ_=>[(617,.var (Jh f)),(618,.var (Qb g)),(619,.var [.clo (.func 249) [] [.L 620]]),(620,.var (Xg i))]):=
 W 10 func251 Z λC e r h=>X h λc h=>B h λl k h=>H e [6] Z <| 
  dr_ e [.N,.N,.B (.any (.sl 2 (((f.drop 0).take (g.toNat-0)).map Xg)) none),.N,.B (.any (.b l) none),.N,.m .s] [] [] [3] [617,618,619,620] Z Z (a2_ (λσ j o _=>Qf.sliceD Z Z (QI e.n Z) (j _ _ Z) (Qe.es Z) Cv.no (Cv.val (j _ _ Z) (XC (Qbp c)) Z) (XC (Qbq c)) (Kj (XC (Qbr c)) (Nat.le_of_eq Qd.symm)) Qev) (λσ j o _=>Qf.callSame (md:=.cm (.fn) [(617,620)] [(620,617)] [] [.d,.d] [(617,.var (Xg i))] (.b l) [620]) Qe e j o Z (a2_ (Ch _ _ _ k) r1_))) Z <|
  H e [2] Z<|E h Z r4_
def GX (a:Ql)(b:Yz):O_ Bool:=(KM a.Colours b.Colour).bind λc=>some c
def Sn (a e):CT 253 [.L 617,.L 618] [(617,.var (Qa a)),(618,.var (Xg e))] (GX a e) V.b (λ_=>[(617,.var (Qa a)),(618,.var (Xg e))]):=
 W 8 func253 Z λC g r h=>B h λi f h=>J g [11,.o (.C2 (.b i)),4] Z (BU _ _ _ f)<|E h Z r2_
def Ci (a:Yz)(e:Int)(f:(L_ Yz))(g:Int)(h:Int)(i:Ql)(j:Int):O_ Int:=(GU a).bind λb=>bif (!b)then some e else (GW f g a).bind λc=>bif (!c)then some h else (GX i a).bind λd=>bif (!d)then some j else some 0
def QaZ (i p q s t u w):CT 90 [.own 617 3] [(617,.var [.clo (.func 250) [] [.L 618],.I p,.clo (.func 251) [] [.L 619,.L 620,.L 621],.I t,.clo (.func 253) [] [.L 622,.L 618],.I w]),(618,.var (Xg i)),(619,.var (Jh q)),(620,.var (Qb s)),(621,.var [.clo (.func 249) [] [.L 618]]),(622,.var (Qa u))] (Ci i p q s t u w) V.I (λ_=>[(617,.var [.clo (.func 250) [] [.L 618],.I p,.clo (.func 251) [] [.L 619,.L 620,.L 621],.I t,.clo (.func 253) [] [.L 622,.L 618],.I w]),(618,.var (Xg i)),(619,.var (Jh q)),(620,.var (Qb s)),(621,.var [.clo (.func 249) [] [.L 618]]),(622,.var (Qa u))]):=
 W 18 func90 Z λC a r h=>H a [14] Z<|AK.loopN 4<|AK.rnd<|B h λx j h=>g4_ a [2,.v .no [] (.b true),10,.o (.any (.L 617) none),3,.O 4 (.var [.clo (.func 250) [] [.L 618],.I p]),6,.cm (.clo) [(617,618)] [(618,617)] [] [.d] [(617,.var (Xg i))] (.b x),3] Z Z (λσ g k _=>Qf.idxV Z Z (QI a.n Z) (g _ _ Z) (g _ _ Z) (Qe.es Z) (k _ _ Z) (by decide)) Z (Sk _ _ j)<|I h (λc h=>J a [.T,13] Z c<|E h Z r6_) λc h=>K a [.F,4,.v .no [] (.I 1),2] Z c Z<|AK.met<|AK.rnd<|B h λy l h=>g4_ a [2,.v .no [] (.b true),10,.o (.any (.loc 617 0 2) none),1,.kill 4,2,.O 4 (.var [.clo (.func 251) [] [.L 619,.L 620,.L 621],.I t]),6,.cm (.clo) [(617,619),(618,620),(619,621),(620,618)] [(619,617),(620,618),(621,619),(618,620)] [] [.d,.d,.d] [(617,.var (Jh q)),(618,.var (Qb s)),(619,.var [.clo (.func 249) [] [.L 620]]),(620,.var (Xg i))] (.b y),3] Z Z (λσ g k _=>Qf.idxV Z Z (QI a.n Z) (g _ _ Z) (g _ _ Z) (Qe.es Z) (k _ _ Z) (by decide)) Z (Sm _ _ _ _ l)<|I h (λe h=>J a [.T,13] Z e<|E h Z r6_) λe h=>K a [.F,4,.v .no [] (.I 2),2] Z e Z<|AK.met<|AK.rnd<|B h λz m h=>g4_ a [2,.v .no [] (.b true),10,.o (.any (.loc 617 0 4) none),1,.kill 4,2,.O 4 (.var [.clo (.func 253) [] [.L 622,.L 618],.I w]),6,.cm (.clo) [(617,622),(618,618)] [(622,617),(618,618)] [] [.d,.d] [(617,.var (Qa u)),(618,.var (Xg i))] (.b z),3] Z Z (λσ g k _=>Qf.idxV Z Z (QI a.n Z) (g _ _ Z) (g _ _ Z) (Qe.es Z) (k _ _ Z) (by decide)) Z (Sn _ _ _ m)<|I h (λf h=>J a [.T,13] Z f<|E h Z r6_) λf h=>K a [.F,4,.v .no [] (.I 3),2] Z f Z<|AK.met<|AK.rnd<|J a [2,.v .no [] (.b false),15] Z Z<|E h Z r6_
def UI (a:Int)(b:Yz)(c:(L_ Yz))(d:Ql):O_ Int:=(Ci b 1 c a 5 d 3).bind λe=>some e
def VD (c e a b):CT 248 [.I c,.agg (Xg e),.L 617,.L 618] [(617,.var (Jh a)),(618,.var (Qa b))] (UI c e a b) V.I (λ_=>[(617,.var (Jh a)),(618,.var (Qa b))]):=
 W 17 func248 Z λC g r h=>B h λi f h=>G g [12,.O 7 (.var [.clo (.func 249) [] [.L 5]]),5,.A [.clo (.func 250) [] [.L 5],.I 1],1,.A [.clo (.func 251) [] [.L 617,.L 4,.L 7],.I 5],1,.A [.clo (.func 253) [] [.L 618,.L 5],.I 3],.o (.any (.own 15 3) (some (.var [.clo (.func 250) [] [.L 5],.I 1,.clo (.func 251) [] [.L 617,.L 4,.L 7],.I 5,.clo (.func 253) [] [.L 618,.L 5],.I 3]))),.cm (.fn) [(617,15),(618,5),(619,617),(620,4),(621,7),(622,618)] [(15,617),(5,618),(617,619),(4,620),(7,621),(618,622)] [] [.d] [(617,.var [.clo (.func 250) [] [.L 618],.I 1,.clo (.func 251) [] [.L 619,.L 620,.L 621],.I 5,.clo (.func 253) [] [.L 622,.L 618],.I 3]),(618,.var (Xg e)),(619,.var (Jh a)),(620,.var (Qb c)),(621,.var [.clo (.func 249) [] [.L 618]]),(622,.var (Qa b))] (.I i),4] Z (a6_ Z Z Z Z (λσ j k y=>Qf.buildAny Z Z (QI g.n Z) (Qe.es Z) OW Z (by decide) (by decide) (Ui j Z) Z Z (y Z)) (QaZ _ _ _ _ _ _ _ _ f))<|E h Z r2_
def UQ (d:(L_ Yz))(e:(L_ Yz))(f:Ql)(a:Int):O_ (Int⊕((Int×Int)⊕Unit)):=bif (a<(d.length:Int))then (idx d a).bind λc=>(UI a c e f).bind λb=>bif (b != 0)then some (.inr (.inl (a,b)))else some (.inl (Qq (a+1)))else some (.inr (.inr ()))
def UR (a:Int)(b:Int):O_ (Int×Int):=some (a,b)
def US : O_ (Int×Int):=some (0,0)
def EM (a:(L_ Yz))(b:(L_ Yz))(c:Ql):O_ (Int×Int):=(QQ (λst=>UQ a b c st) 0).bind (Sum.elim (λq=>UR q.1 q.2) (λq=>US))
def SN (i f g):CT 247 [.sl 2 (i.map Xg),.clo (.func 248) [] [.L 617,.L 618]] [(617,.var (Jh f)),(618,.var (Qa g))] (EM i f g) (λr=>(.tup [.I r.1,.I r.2])) (λ_=>[(617,.var (Jh f)),(618,.var (Qa g))]):=
 W 25 func247 Z λC e r h=>J e [10,.o (.ln i.length),4] Z Qd<|lq_ h (λst=>⟨[(1,.clo (.func 248) [] [.L 617,.L 618]),(9,.sl 2 (i.map Xg)),(10,.I (i.length:Int)),(11,.I st)],[(617,.var (Jh f)),(618,.var (Qa g))]⟩) (λq=>(.ret,⟨[(4,.I q.1),(5,.I q.2)],[(617,.var (Jh f)),(618,.var (Qa g))]⟩)) (λq=>(.exit 0,⟨[],[(617,.var (Jh f)),(618,.var (Qa g))]⟩)) Z (λs o h=>H e [6] Z<|I h (λa h=>B h λc j h=>B h λl k h=>G e [.T,7,.o (.row (Xg c)),.A (Xg c),3,.O 7 (.var (Xg c)),6,.A (Xg c),.cm (.clo) [(617,617),(618,618)] [(617,617),(618,618)] [] [.d,.d,.d,.d] [(617,.var (Jh f)),(618,.var (Qa g))] (.I l),9] Z (a6_ a (Xd j) Z Z Z (VD _ _ _ _ _ k))<|I h (λb h=>J e [.T,11] Z b<|rR_ h Z) λb h=>J e [.F,7] Z b<|rN_ h Z) λa h=>J e [.F,2] Z a<|rX_ h Z) (λ⟨m,p⟩ h=>H e [2] Z<|F h Z Z r2_) (λ_ h=>H e [9] Z<|F h Z Z r2_)
def Ba (b:Ql)(a:(L_ Yz)):O_ Int:=(EM a a b).bind λc=>some c.2
def Qao (a b):CT 175 [.agg (Qa a),.sl 2 (b.map Xg)] [] (Ba a b) V.I no_:=
 W 14 func175 Z λC f r h=>B h λe c h=>J f [11,.cm (.fn) [(617,3),(618,2)] [(3,617),(2,618)] [] [.d,.d] [(617,.var (Jh b)),(618,.var (Qa a))] (.tup [.I e.1,.I e.2]),14] Z (SN _ _ _ _ c)<|E h Z U
def Ij (a:Ql)(b:QS):O_ Int:=(Ba a b.Vars).bind λc=>some c
def QcV (a b):CT 174 [.L 617,.L 618] [(617,.var (Qa a)),(618,.var (Qi b))] (Ij a b) V.I (λ_=>[(617,.var (Qa a)),(618,.var (Qi b))]):=
 W 7 func174 Z λC f r h=>B h λg e h=>K f [7,.A (Qa a),2,.o (.C2 (.I g)),4] Z Z (Qao _ _ _ e)<|E h Z r2_
def Ay (b:Ql)(c:QS)(d:Int):O_ (Bool×Int):=(Ij b c).bind λa=>some ((a==0),a)
def QbT (c e j):CT 246 [.L 617,.L 620] [(617,.var [.clo (.func 174) [] [.L 618,.L 619]]),(618,.var (Qa c)),(619,.var (Qi e)),(620,.var [.L 621]),(621,.var (Qb j))] (Ay c e j) (λr=>(.b r.1)) (λr=>[(617,.var [.clo (.func 174) [] [.L 618,.L 619]]),(618,.var (Qa c)),(619,.var (Qi e)),(620,.var [.L 621]),(621,.var (Qb r.2))]):=
 W 11 func246 Z λC f r h=>B h λg i h=>H f [6] Z <| 
  dr_ f [.N,.N,.B (.any (.I g) none),.N,.m .s] [] [] [1] [617,618,619,620,621] Z Z (A (λσ k l _=>Qf.callSame (md:=.cm (.clo) [(617,618),(618,619)] [(618,617),(619,618)] [] [.d,.d] [(617,.var (Qa c)),(618,.var (Qi e))] (.I g) [618,619]) Qe f k l Z (a2_ (QcV _ _ _ i) r2_))) Z <|
  J f [.O 621 (.var (Qb g)),11] Z Z<|E h Z r5_
def LW (e:QS)(f:Ql)(a:Int)(c:Int):O_ ((Int×Int)⊕(Unit⊕Int)):=bif (c<(e.Vars.length:Int))then (idx e.Vars c).bind λd=>(YO f.Colours d.Colour).bind λb=>bif (b==0)then some (.inr (.inl ()))else some (.inl ((min2 (Qq (a*b)) 1025),(Qq (c+1))))else some (.inr (.inr a))
def LX : O_ Int:=some 0
def LY (a:Int):O_ Int:=some a
def CH (a:Ql)(b:Int):O_ Int:=(Wx a.Tasks b).bind λc=>bif (!c)then some 0 else (idx a.Tasks b).bind λd=>(QQ (λst=>LW d a st.1 st.2) (1,0)).bind (Sum.elim (λq=>LX) (λq=>LY q))
def So (m w):CT 57 [.agg (Qa m),.I w] [] (CH m w) V.I no_:=
 W 38 func57 Z λC f r h=>B h λy p h=>J f [12,.o (.C2 (.b y)),3] Z (FI _ _ _ p)<|I h (λg h=>J f [.T,7] Z g<|E h Z U) λg h=>B h λl s h=>g3_ f [.F,13,.o (.row (Qi l)),2,.o (.ln l.Vars.length),4] Z g (Xd s) Qd<|lq_ h (λst=>⟨[lk_ 2,(5,.I st.1),(19,.sl 2 (l.Vars.map Xg)),(20,.I (l.Vars.length:Int)),(21,.I st.2)],[(2,.var (Qa m))]⟩) (λq=>(.ret,⟨[(4,.I 0)],[]⟩)) (λq=>(.exit 0,⟨[(5,.I q)],[]⟩)) Z (λ⟨x,z⟩ o h=>H f [6] Z<|I h (λa h=>B h λi j h=>B h λt k h=>G f [.T,6,.o (.row (Xg i)),.A (Xg i),2,.O 7 (.var (Xg i)),8,.o (.C2 (.I t)),10] Z (a5_ a (Xd j) Z Z (BZ _ _ _ k))<|I h (λe h=>J f [.T,9] Z e<|rR_ h Z) λe h=>J f [.F,15] Z e<|rN_ h Z) λa h=>J f [.F,2] Z a<|rX_ h Z) (λ_ h=>H f [2] Z<|E h Z U) (λu h=>H f [9] Z<|E h Z U)
def Ik (a:Ql)(b:Int):O_ Bool:=(CH a b).bind λc=>some (decide (c<=1024))
def QcW (a e):CT 176 [.L 617,.L 618] [(617,.var (Qa a)),(618,.var (Qb e))] (Ik a e) V.b (λ_=>[(617,.var (Qa a)),(618,.var (Qb e))]):=
 W 7 func176 Z λC g r h=>B h λi f h=>K g [7,.A (Qa a),1,.o (.C2 (.I i)),5] Z Z (So _ _ _ f)<|E h Z r2_
def PM (a:QS)(b:Int):O_ Bool:=(Bp a.Guard b).bind λc=>bif c then bif (0<(a.Ins.length:Int))then some (decide (0<(a.Outs.length:Int)))else some false else some false
def PN (a:Bool):O_ Bool:=some a
def Il (a:QS)(b:Int):O_ Bool:=(PM a b).bind (λc=>PN c)
def QcX (a i):CT 177 [.L 617,.L 618] [(617,.var (Qi a)),(618,.var (Qb i))] (Il a i) V.b (λ_=>[(617,.var (Qi a)),(618,.var (Qb i))]):=
 W 19 func177 Z λC e r h=>H e [6] Z<|mV_ h (λj=>⟨[(2,.b j)],[(617,.var (Qi a)),(618,.var (Qb i))]⟩) (λj h=>B h λl k h=>K e [2,.A (Qy a.Guard),1,.o (.C2 (.b l)),1] Z Z (MN _ _ _ k)<|I h (λf h=>G e [.S 7 (.b true),2,.o (.ln a.Ins.length),3] Z ⟨(tc_ f),Qd⟩<|I h (λg h=>G e [.S 13 (.b true),2,.o (.ln a.Outs.length),4] Z ⟨(tc_ g),Qd⟩<|mq_ h Z) λg h=>L e [.S 13 (.b false),7] Z g<|mq_ h Z) λf h=>L e [.S 7 (.b false),13] Z f<|mq_ h Z) λj h=>H e [2] Z<|E h Z r2_
def Cj (a:Ql)(b:Ye):O_ Bool:=(YI a.Places b.Place).bind λc=>some c
def Qa0 (a e):CT 259 [.L 617,.L 618] [(617,.var (Qa a)),(618,.var (XL e))] (Cj a e) V.b (λ_=>[(617,.var (Qa a)),(618,.var (XL e))]):=
 W 8 func259 Z λC g r h=>B h λi f h=>J g [11,.o (.C2 (.b i)),4] Z (Kc _ _ _ f)<|E h Z r2_
def Ck (a:Ye)(b:Int):O_ Bool:=(Bp a.Expr b).bind λc=>some c
def Qa1 (a e):CT 260 [.L 617,.L 618] [(617,.var (XL a)),(618,.var (Qb e))] (Ck a e) V.b (λ_=>[(617,.var (XL a)),(618,.var (Qb e))]):=
 W 7 func260 Z λC g r h=>B h λi f h=>K g [8,.A (Qy a.Expr),1,.o (.C2 (.b i)),4] Z Z (MN _ _ _ f)<|E h Z r2_
def Cm (c:Ql)(b:Ye)(d:Int)(e:Int)(f:Int):O_ Int:=(Cj c b).bind λg=>bif (!g)then some d else (Ck b e).bind λa=>bif (!a)then some f else some 0
def Qa2 (j f k l m):CT 90 [.own 617 2] [(617,.var [.clo (.func 259) [] [.L 618,.L 619],.I k,.clo (.func 260) [] [.L 619,.L 620],.I m]),(618,.var (Qa j)),(619,.var (XL f)),(620,.var (Qb l))] (Cm j f k l m) V.I (λ_=>[(617,.var [.clo (.func 259) [] [.L 618,.L 619],.I k,.clo (.func 260) [] [.L 619,.L 620],.I m]),(618,.var (Qa j)),(619,.var (XL f)),(620,.var (Qb l))]):=
 W 18 func90 Z λC c r h=>H c [14] Z<|AK.loopN 3<|AK.rnd<|B h λt p h=>g4_ c [2,.v .no [] (.b true),10,.o (.any (.L 617) none),3,.O 4 (.var [.clo (.func 259) [] [.L 618,.L 619],.I k]),6,.cm (.clo) [(617,618),(618,619)] [(618,617),(619,618)] [] [.d,.d] [(617,.var (Qa j)),(618,.var (XL f))] (.b t),3] Z Z (λσ g q _=>Qf.idxV Z Z (QI c.n Z) (g _ _ Z) (g _ _ Z) (Qe.es Z) (q _ _ Z) (by decide)) Z (Qa0 _ _ _ p)<|I h (λe h=>J c [.T,13] Z e<|E h Z r4_) λe h=>K c [.F,4,.v .no [] (.I 1),2] Z e Z<|AK.met<|AK.rnd<|B h λs i h=>g4_ c [2,.v .no [] (.b true),10,.o (.any (.loc 617 0 2) none),1,.kill 4,2,.O 4 (.var [.clo (.func 260) [] [.L 619,.L 620],.I m]),6,.cm (.clo) [(617,619),(618,620)] [(619,617),(620,618)] [] [.d,.d] [(617,.var (XL f)),(618,.var (Qb l))] (.b s),3] Z Z (λσ g q _=>Qf.idxV Z Z (QI c.n Z) (g _ _ Z) (g _ _ Z) (Qe.es Z) (q _ _ Z) (by decide)) Z (Qa1 _ _ _ i)<|I h (λa h=>J c [.T,13] Z a<|E h Z r4_) λa h=>K c [.F,4,.v .no [] (.I 2),2] Z a Z<|AK.met<|AK.rnd<|J c [2,.v .no [] (.b false),15] Z Z<|E h Z r4_
def Im (e:Int)(a:Ye)(b:Ql)(c:Int):O_ Int:=(Cm b a 3 c 1).bind λd=>some d
def QcY (f c a b):CT 258 [.I f,.agg (XL c),.L 617,.L 618] [(617,.var (Qa a)),(618,.var (Qb b))] (Im f c a b) V.I (λ_=>[(617,.var (Qa a)),(618,.var (Qb b))]):=
 W 13 func258 Z λC g r h=>B h λi e h=>g4_ g [9,.A [.clo (.func 259) [] [.L 617,.L 5],.I 3],1,.A [.clo (.func 260) [] [.L 5,.L 618],.I 1],.o (.any (.own 11 2) (some (.var [.clo (.func 259) [] [.L 617,.L 5],.I 3,.clo (.func 260) [] [.L 5,.L 618],.I 1]))),.cm (.fn) [(617,11),(618,617),(619,5),(620,618)] [(11,617),(617,618),(5,619),(618,620)] [] [.d] [(617,.var [.clo (.func 259) [] [.L 618,.L 619],.I 3,.clo (.func 260) [] [.L 619,.L 620],.I 1]),(618,.var (Qa a)),(619,.var (XL c)),(620,.var (Qb b))] (.I i),4] Z Z Z (λσ j k y=>Qf.buildAny Z Z (QI g.n Z) (Qe.es Z) OW Z (by decide) (by decide) (Ui j Z) Z Z (y Z)) (Qa2 _ _ _ _ _ _ e)<|E h Z r2_
def UT (d:(L_ Ye))(e:Ql)(f:Int)(a:Int):O_ (Int⊕((Int×Int)⊕Unit)):=bif (a<(d.length:Int))then (idx d a).bind λc=>(Im a c e f).bind λb=>bif (b != 0)then some (.inr (.inl (a,b)))else some (.inl (Qq (a+1)))else some (.inr (.inr ()))
def UU (a:Int)(b:Int):O_ (Int×Int):=some (a,b)
def UV : O_ (Int×Int):=some (0,0)
def EN (a:(L_ Ye))(b:Ql)(c:Int):O_ (Int×Int):=(QQ (λst=>UT a b c st) 0).bind (Sum.elim (λq=>UU q.1 q.2) (λq=>UV))
def SO (i f g):CT 257 [.sl 4 (i.map XL),.clo (.func 258) [] [.L 617,.L 618]] [(617,.var (Qa f)),(618,.var (Qb g))] (EN i f g) (λr=>(.tup [.I r.1,.I r.2])) (λ_=>[(617,.var (Qa f)),(618,.var (Qb g))]):=
 W 25 func257 Z λC e r h=>J e [10,.o (.ln i.length),4] Z Qd<|lq_ h (λst=>⟨[(1,.clo (.func 258) [] [.L 617,.L 618]),(9,.sl 4 (i.map XL)),(10,.I (i.length:Int)),(11,.I st)],[(617,.var (Qa f)),(618,.var (Qb g))]⟩) (λq=>(.ret,⟨[(4,.I q.1),(5,.I q.2)],[(617,.var (Qa f)),(618,.var (Qb g))]⟩)) (λq=>(.exit 0,⟨[],[(617,.var (Qa f)),(618,.var (Qb g))]⟩)) Z (λs o h=>H e [6] Z<|I h (λa h=>B h λc j h=>B h λl k h=>G e [.T,7,.o (.row (XL c)),.A (XL c),3,.O 7 (.var (XL c)),6,.A (XL c),.cm (.clo) [(617,617),(618,618)] [(617,617),(618,618)] [] [.d,.d,.d,.d] [(617,.var (Qa f)),(618,.var (Qb g))] (.I l),9] Z (a6_ a (Xd j) Z Z Z (QcY _ _ _ _ _ k))<|I h (λb h=>J e [.T,11] Z b<|rR_ h Z) λb h=>J e [.F,7] Z b<|rN_ h Z) λa h=>J e [.F,2] Z a<|rX_ h Z) (λ⟨m,p⟩ h=>H e [2] Z<|F h Z Z r2_) (λ_ h=>H e [9] Z<|F h Z Z r2_)
def Hu (b:Ql)(c:(L_ Ye))(a:Int):O_ Int:=(EN c b a).bind λd=>some d.2
def TI (b e a):CT 180 [.agg (Qa b),.sl 4 (e.map XL),.I a] [] (Hu b e a) V.I no_:=
 W 16 func180 Z λC g r h=>B h λf c h=>J g [11,.cm (.fn) [(617,3),(618,5)] [(3,617),(5,618)] [] [.d,.d] [(617,.var (Qa b)),(618,.var (Qb a))] (.tup [.I f.1,.I f.2]),14] Z (SO _ _ _ _ c)<|E h Z U
def Io (a:Ql)(b:QS)(c:Int):O_ Int:=(Hu a b.Ins c).bind λd=>some d
def QcZ (a b e):CT 179 [.L 617,.L 618,.L 619] [(617,.var (Qa a)),(618,.var (Qi b)),(619,.var (Qb e))] (Io a b e) V.I (λ_=>[(617,.var (Qa a)),(618,.var (Qi b)),(619,.var (Qb e))]):=
 W 9 func179 Z λC g r h=>B h λi f h=>K g [7,.A (Qa a),3,.o (.C3 (.I i)),4] Z Z (TI _ _ _ _ f)<|E h Z r3_
def GE (b:Ql)(c:QS)(d:Int)(e:Int):O_ (Bool×Int):=(Io b c d).bind λa=>some ((a==0),a)
def Zg (c e f k):CT 246 [.L 617,.L 621] [(617,.var [.clo (.func 179) [] [.L 618,.L 619,.L 620]]),(618,.var (Qa c)),(619,.var (Qi e)),(620,.var (Qb f)),(621,.var [.L 622]),(622,.var (Qb k))] (GE c e f k) (λr=>(.b r.1)) (λr=>[(617,.var [.clo (.func 179) [] [.L 618,.L 619,.L 620]]),(618,.var (Qa c)),(619,.var (Qi e)),(620,.var (Qb f)),(621,.var [.L 622]),(622,.var (Qb r.2))]):=
 W 11 func246 Z λC g r h=>B h λi j h=>H g [6] Z <| 
  dr_ g [.N,.N,.B (.any (.I i) none),.N,.m .s] [] [] [1] [617,618,619,620,621,622] Z Z (A (λσ l o _=>Qf.callSame (md:=.cm (.clo) [(617,618),(618,619),(619,620)] [(618,617),(619,618),(620,619)] [] [.d,.d,.d] [(617,.var (Qa c)),(618,.var (Qi e)),(619,.var (Qb f))] (.I i) [618,619,620]) Qe g l o Z (a2_ (QcZ _ _ _ _ j) r3_))) Z <|
  J g [.O 622 (.var (Qb i)),11] Z Z<|E h Z r6_
def Ip (a:Ql)(b:QS)(c:Int):O_ Int:=(Hu a b.Outs c).bind λd=>some d
def Qc0 (a b e):CT 181 [.L 617,.L 618,.L 619] [(617,.var (Qa a)),(618,.var (Qi b)),(619,.var (Qb e))] (Ip a b e) V.I (λ_=>[(617,.var (Qa a)),(618,.var (Qi b)),(619,.var (Qb e))]):=
 W 9 func181 Z λC g r h=>B h λi f h=>K g [7,.A (Qa a),3,.o (.C3 (.I i)),4] Z Z (TI _ _ _ _ f)<|E h Z r3_
def GF (b:Ql)(c:QS)(d:Int)(e:Int):O_ (Bool×Int):=(Ip b c d).bind λa=>some ((a==0),a)
def Zh (c e f k):CT 246 [.L 617,.L 621] [(617,.var [.clo (.func 181) [] [.L 618,.L 619,.L 620]]),(618,.var (Qa c)),(619,.var (Qi e)),(620,.var (Qb f)),(621,.var [.L 622]),(622,.var (Qb k))] (GF c e f k) (λr=>(.b r.1)) (λr=>[(617,.var [.clo (.func 181) [] [.L 618,.L 619,.L 620]]),(618,.var (Qa c)),(619,.var (Qi e)),(620,.var (Qb f)),(621,.var [.L 622]),(622,.var (Qb r.2))]):=
 W 11 func246 Z λC g r h=>B h λi j h=>H g [6] Z <| 
  dr_ g [.N,.N,.B (.any (.I i) none),.N,.m .s] [] [] [1] [617,618,619,620,621,622] Z Z (A (λσ l o _=>Qf.callSame (md:=.cm (.clo) [(617,618),(618,619),(619,620)] [(618,617),(619,618),(620,619)] [] [.d,.d,.d] [(617,.var (Qa c)),(618,.var (Qi e)),(619,.var (Qb f))] (.I i) [618,619,620]) Qe g l o Z (a2_ (Qc0 _ _ _ _ j) r3_))) Z <|
  J g [.O 622 (.var (Qb i)),11] Z Z<|E h Z r6_
def UJ (a:Ql)(b:Int):O_ Bool:=(YI a.Places b).bind λc=>some c
def VE (a e):CT 263 [.L 617,.L 618] [(617,.var (Qa a)),(618,.var (Qb e))] (UJ a e) V.b (λ_=>[(617,.var (Qa a)),(618,.var (Qb e))]):=
 W 7 func263 Z λC g r h=>B h λi f h=>J g [10,.o (.C2 (.b i)),4] Z (Kc _ _ _ f)<|E h Z r2_
def UK (b:LI_)(a:Int)(c:Int):O_ Bool:=(chk (decide (0<=a)&&decide (0<=a.toNat)&&decide (a.toNat<=b.length))).bind λ_=>(Js ((b.drop 0).take (a.toNat-0)) c).bind λd=>some (!d)
def VF (f g j):CT 264 [.L 617,.L 618,.L 619] [(617,.var (QU f)),(618,.var (Qb g)),(619,.var (Qb j))] (UK f g j) V.b (λ_=>[(617,.var (QU f)),(618,.var (Qb g)),(619,.var (Qb j))]):=
 W 10 func264 Z λC i r h=>X h λe h=>B h λo k h=>H i [6] Z <| 
  dr_ i [.N,.N,.B (.any (.sl 1 (((f.drop 0).take (g.toNat-0)).map Qb)) none),.N,.B (.C2 (.b o)),.N,.m .s] [] [] [3] [617,618,619] Z Z (a2_ (λσ l p _=>Qf.sliceD Z Z (QI i.n Z) (l _ _ Z) (Qe.es Z) Cv.no (Cv.val (l _ _ Z) (XC (Qbp e)) Z) (XC (Qbq e)) (Kj (XC (Qbr e)) (Nat.le_of_eq Qd.symm)) Qev) (BC _ _ _ k)) Z <|
  H i [2] Z<|E h Z r3_
def Cn (c:Ql)(b:Int)(d:Int)(e:LI_)(f:Int)(g:Int):O_ Int:=(UJ c b).bind λh=>bif (!h)then some d else (UK e f b).bind λa=>bif (!a)then some g else some 0
def Qa3 (j f k l m p):CT 90 [.own 617 2] [(617,.var [.clo (.func 263) [] [.L 618,.L 619],.I k,.clo (.func 264) [] [.L 620,.L 621,.L 619],.I p]),(618,.var (Qa j)),(619,.var (Qb f)),(620,.var (QU l)),(621,.var (Qb m))] (Cn j f k l m p) V.I (λ_=>[(617,.var [.clo (.func 263) [] [.L 618,.L 619],.I k,.clo (.func 264) [] [.L 620,.L 621,.L 619],.I p]),(618,.var (Qa j)),(619,.var (Qb f)),(620,.var (QU l)),(621,.var (Qb m))]):=
 W 18 func90 Z λC e r h=>H e [14] Z<|AK.loopN 3<|AK.rnd<|B h λu q h=>g4_ e [2,.v .no [] (.b true),10,.o (.any (.L 617) none),3,.O 4 (.var [.clo (.func 263) [] [.L 618,.L 619],.I k]),6,.cm (.clo) [(617,618),(618,619)] [(618,617),(619,618)] [] [.d,.d] [(617,.var (Qa j)),(618,.var (Qb f))] (.b u),3] Z Z (λσ g s _=>Qf.idxV Z Z (QI e.n Z) (g _ _ Z) (g _ _ Z) (Qe.es Z) (s _ _ Z) (by decide)) Z (VE _ _ _ q)<|I h (λa h=>J e [.T,13] Z a<|E h Z r5_) λa h=>K e [.F,4,.v .no [] (.I 1),2] Z a Z<|AK.met<|AK.rnd<|B h λt i h=>g4_ e [2,.v .no [] (.b true),10,.o (.any (.loc 617 0 2) none),1,.kill 4,2,.O 4 (.var [.clo (.func 264) [] [.L 620,.L 621,.L 619],.I p]),6,.cm (.clo) [(617,620),(618,621),(619,619)] [(620,617),(621,618),(619,619)] [] [.d,.d,.d] [(617,.var (QU l)),(618,.var (Qb m)),(619,.var (Qb f))] (.b t),3] Z Z (λσ g s _=>Qf.idxV Z Z (QI e.n Z) (g _ _ Z) (g _ _ Z) (Qe.es Z) (s _ _ Z) (by decide)) Z (VF _ _ _ _ i)<|I h (λc h=>J e [.T,13] Z c<|E h Z r5_) λc h=>K e [.F,4,.v .no [] (.I 2),2] Z c Z<|AK.met<|AK.rnd<|J e [2,.v .no [] (.b false),15] Z Z<|E h Z r5_
def Bb (b:Int)(a:Int)(c:Ql)(d:LI_):O_ Int:=(Cn c a 3 d b 5).bind λe=>some e
def Qap (e a b c):CT 262 [.I e,.I a,.L 617,.L 618] [(617,.var (Qa b)),(618,.var (QU c))] (Bb e a b c) V.I (λ_=>[(617,.var (Qa b)),(618,.var (QU c))]):=
 W 13 func262 Z λC g r h=>B h λi f h=>g4_ g [10,.A [.clo (.func 263) [] [.L 617,.L 5],.I 3],1,.A [.clo (.func 264) [] [.L 618,.L 4,.L 5],.I 5],.o (.any (.own 11 2) (some (.var [.clo (.func 263) [] [.L 617,.L 5],.I 3,.clo (.func 264) [] [.L 618,.L 4,.L 5],.I 5]))),.cm (.fn) [(617,11),(618,617),(619,5),(620,618),(621,4)] [(11,617),(617,618),(5,619),(618,620),(4,621)] [] [.d] [(617,.var [.clo (.func 263) [] [.L 618,.L 619],.I 3,.clo (.func 264) [] [.L 620,.L 621,.L 619],.I 5]),(618,.var (Qa b)),(619,.var (Qb a)),(620,.var (QU c)),(621,.var (Qb e))] (.I i),4] Z Z Z (λσ j k y=>Qf.buildAny Z Z (QI g.n Z) (Qe.es Z) OW Z (by decide) (by decide) (Ui j Z) Z Z (y Z)) (Qa3 _ _ _ _ _ _ _ f)<|E h Z r2_
def Fi (d:LI_)(e:Ql)(f:LI_)(a:Int):O_ (Int⊕((Int×Int)⊕Unit)):=bif (a<(d.length:Int))then (idx d a).bind λc=>(Bb a c e f).bind λb=>bif (b != 0)then some (.inr (.inl (a,b)))else some (.inl (Qq (a+1)))else some (.inr (.inr ()))
def Fj (a:Int)(b:Int):O_ (Int×Int):=some (a,b)
def Fk : O_ (Int×Int):=some (0,0)
def Co (a:LI_)(b:Ql)(c:LI_):O_ (Int×Int):=(QQ (λst=>Fi a b c st) 0).bind (Sum.elim (λq=>Fj q.1 q.2) (λq=>Fk))
def Qa4 (g e f):CT 261 [.sl 1 (g.map Qb),.clo (.func 262) [] [.L 617,.L 618]] [(617,.var (Qa e)),(618,.var (QU f))] (Co g e f) (λr=>(.tup [.I r.1,.I r.2])) (λ_=>[(617,.var (Qa e)),(618,.var (QU f))]):=
 W 25 func261 Z λC c r h=>J c [10,.o (.ln g.length),4] Z Qd<|lq_ h (λst=>⟨[(1,.clo (.func 262) [] [.L 617,.L 618]),(9,.sl 1 (g.map Qb)),(10,.I (g.length:Int)),(11,.I st)],[(617,.var (Qa e)),(618,.var (QU f))]⟩) (λq=>(.ret,⟨[(4,.I q.1),(5,.I q.2)],[(617,.var (Qa e)),(618,.var (QU f))]⟩)) (λq=>(.exit 0,⟨[],[(617,.var (Qa e)),(618,.var (QU f))]⟩)) Z (λs o h=>H c [6] Z<|I h (λa h=>B h λk i h=>B h λl j h=>g3_ c [.T,7,.o (.row (Qb k)),10,.cm (.clo) [(617,617),(618,618)] [(617,617),(618,618)] [] [.d,.d,.d,.d] [(617,.var (Qa e)),(618,.var (QU f))] (.I l),9] Z a (Xd i) (Qap _ _ _ _ _ j)<|I h (λb h=>J c [.T,11] Z b<|rR_ h Z) λb h=>J c [.F,7] Z b<|rN_ h Z) λa h=>J c [.F,2] Z a<|rX_ h Z) (λ⟨m,p⟩ h=>H c [2] Z<|F h Z Z r2_) (λ_ h=>H c [9] Z<|F h Z Z r2_)
def FJ (b:Ql)(a:LI_):O_ Int:=(Co a b a).bind λc=>some c.2
def QbU (a b):CT 183 [.agg (Qa a),.sl 1 (b.map Qb)] [] (FJ a b) V.I no_:=
 W 14 func183 Z λC f r h=>B h λe c h=>J f [11,.cm (.fn) [(617,2),(618,3)] [(2,617),(3,618)] [] [.d,.d] [(617,.var (Qa a)),(618,.var (QU b))] (.tup [.I e.1,.I e.2]),14] Z (Qa4 _ _ _ _ c)<|E h Z U
def FK (a:Ql)(b:QS):O_ Int:=(FJ a b.Cancel).bind λc=>some c
def QbV (a b):CT 182 [.L 617,.L 618] [(617,.var (Qa a)),(618,.var (Qi b))] (FK a b) V.I (λ_=>[(617,.var (Qa a)),(618,.var (Qi b))]):=
 W 7 func182 Z λC f r h=>B h λg e h=>K f [7,.A (Qa a),2,.o (.C2 (.I g)),4] Z Z (QbU _ _ _ e)<|E h Z r2_
def GG (b:Ql)(c:QS)(d:Int):O_ (Bool×Int):=(FK b c).bind λa=>some ((a==0),a)
def Zi (c e j):CT 246 [.L 617,.L 620] [(617,.var [.clo (.func 182) [] [.L 618,.L 619]]),(618,.var (Qa c)),(619,.var (Qi e)),(620,.var [.L 621]),(621,.var (Qb j))] (GG c e j) (λr=>(.b r.1)) (λr=>[(617,.var [.clo (.func 182) [] [.L 618,.L 619]]),(618,.var (Qa c)),(619,.var (Qi e)),(620,.var [.L 621]),(621,.var (Qb r.2))]):=
 W 11 func246 Z λC f r h=>B h λg i h=>H f [6] Z <| 
  dr_ f [.N,.N,.B (.any (.I g) none),.N,.m .s] [] [] [1] [617,618,619,620,621] Z Z (A (λσ k l _=>Qf.callSame (md:=.cm (.clo) [(617,618),(618,619)] [(618,617),(619,618)] [] [.d,.d] [(617,.var (Qa c)),(618,.var (Qi e))] (.I g) [618,619]) Qe f k l Z (a2_ (QbV _ _ _ i) r2_))) Z <|
  J f [.O 621 (.var (Qb g)),11] Z Z<|E h Z r5_
def Az (a:Int)(b:(L_ Ye)):O_ Bool:=
 some ((1<=a)&&((a<=3)&&((a != 3)||((b.length:Int)<=4))))
def Pc (a g):CT 266 [.I a,.sl 4 (g.map XL)] [] (Az a g) V.b no_:=
 W 20 func266 Z λC f r h=>H f [6] Z<|Y ⟨[(4,.b ((1<=a)&&((a<=3)&&((a != 3)||((g.length:Int)<=4)))))],[]⟩ (H f [4] Z<|bO_ (decide (1<=a)) (λc=>L f [.S 7 (.b true),4] Z c<|bO_ (decide (a<=3)) (λd=>L f [.S 11 (.b true),3] Z d<|bO_ (a != 3) (λe=>G f [.S 14 (.b true),7,.S 4 (.b ((1<=a)&&((a<=3)&&((a != 3)||((g.length:Int)<=4)))))] Z ⟨(tc_ e),(cb_ (Jv c (Jv d (Gc e Z))))⟩<|M Z) λe=>G f [.S 14 (.b false),1,.o (.ln g.length),5,.S 4 (.b ((1<=a)&&((a<=3)&&((a != 3)||((g.length:Int)<=4)))))] Z ⟨⟨(tc_ e),Qd⟩,(cb_ (Jv c (Jv d (JM e Z))))⟩<|M Z) λd=>G f [.S 11 (.b false),10,.S 4 (.b ((1<=a)&&((a<=3)&&((a != 3)||((g.length:Int)<=4)))))] Z ⟨(tc_ d),(cb_ (Jv c (WC d Z)))⟩<|M Z) λc=>G f [.S 7 (.b false),14,.S 4 (.b ((1<=a)&&((a<=3)&&((a != 3)||((g.length:Int)<=4)))))] Z ⟨(tc_ c),(cb_ (WC c Z))⟩<|M Z)<|H f [2] Z<|E h Z U
def LZ (a:QS):O_ Bool:=
 (Az a.Join a.Ins).bind λb=>
 bif b then
 (Az a.Split a.Outs).bind λc=>
 bif c then
 bif (0<=a.After)then
 bif (a.After<=65536)then
 some (((a.Many.1==0)&&((a.Many.2.1==0)&&(a.Many.2.2==0)))||((1<=a.Many.1)&&((a.Many.1<=a.Many.2.1)&&((a.Many.2.1<=16)&&((1<=a.Many.2.2)&&(a.Many.2.2<=a.Many.2.1))))))
 else
 some false
 else
 some false
 else
 some false
 else
 some false
def Ma (a:Bool):O_ Bool:=some a
def WB (a:QS):O_ Bool:=(LZ a).bind (λb=>Ma b)
def QdS (a):CT 185 [.agg (Qi a)] [] (WB a) V.b no_:=
 W 70 func185 Z λC e r h=>H e [7] Z <| 
  dr_ e [.N,.N,.N,.N,.N,.N,.N,.N,.N,.N,.N,.N] [] [] [1,3,4,5] [1] Z Z U Z <|
  H e [2] Z<|Y ⟨[lk_ 1,(6,.b (((a.Many.1==0)&&((a.Many.2.1==0)&&(a.Many.2.2==0)))||((1<=a.Many.1)&&((a.Many.1<=a.Many.2.1)&&((a.Many.2.1<=16)&&((1<=a.Many.2.2)&&(a.Many.2.2<=a.Many.2.1)))))))],[(1,.var (Qi a))]⟩ (g3_ e [2,.A (Ae a.Many),.A (Ae (0,0,0)),.o (.any (.b ((a.Many.1==0)&&((a.Many.2.1==0)&&(a.Many.2.2==0)))) none),1] Z Z Z (λσ y z _=>Qf.eqAgg Z Z (QI e.n Z) (y _ _ Z) (y _ _ Z) Z Z (QlF _ _ _ _ _ _))<|bO_ ((a.Many.1==0)&&((a.Many.2.1==0)&&(a.Many.2.2==0))) (λf=>G e [.S 21 (.b true),23,.S 6 (.b (((a.Many.1==0)&&((a.Many.2.1==0)&&(a.Many.2.2==0)))||((1<=a.Many.1)&&((a.Many.1<=a.Many.2.1)&&((a.Many.2.1<=16)&&((1<=a.Many.2.2)&&(a.Many.2.2<=a.Many.2.1)))))))] Z ⟨(tc_ f),(cb_ (Gc f Z))⟩<|M Z) λf=>L e [.S 21 (.b false),3] Z f<|bO_ (decide (1<=a.Many.1)) (λg=>L e [.S 24 (.b true),5] Z g<|bO_ (decide (a.Many.1<=a.Many.2.1)) (λi=>L e [.S 29 (.b true),4] Z i<|bO_ (decide (a.Many.2.1<=16)) (λj=>L e [.S 33 (.b true),4] Z j<|bO_ (decide (1<=a.Many.2.2)) (λk=>G e [.S 37 (.b true),7,.S 6 (.b (((a.Many.1==0)&&((a.Many.2.1==0)&&(a.Many.2.2==0)))||((1<=a.Many.1)&&((a.Many.1<=a.Many.2.1)&&((a.Many.2.1<=16)&&((1<=a.Many.2.2)&&(a.Many.2.2<=a.Many.2.1)))))))] Z ⟨(tc_ k),(cb_ (JM f (Jv g (Jv i (Jv j (Jv k Z))))))⟩<|M Z) λk=>G e [.S 37 (.b false),7,.S 6 (.b (((a.Many.1==0)&&((a.Many.2.1==0)&&(a.Many.2.2==0)))||((1<=a.Many.1)&&((a.Many.1<=a.Many.2.1)&&((a.Many.2.1<=16)&&((1<=a.Many.2.2)&&(a.Many.2.2<=a.Many.2.1)))))))] Z ⟨(tc_ k),(cb_ (JM f (Jv g (Jv i (Jv j (WC k Z))))))⟩<|M Z) λj=>G e [.S 33 (.b false),11,.S 6 (.b (((a.Many.1==0)&&((a.Many.2.1==0)&&(a.Many.2.2==0)))||((1<=a.Many.1)&&((a.Many.1<=a.Many.2.1)&&((a.Many.2.1<=16)&&((1<=a.Many.2.2)&&(a.Many.2.2<=a.Many.2.1)))))))] Z ⟨(tc_ j),(cb_ (JM f (Jv g (Jv i (WC j Z)))))⟩<|M Z) λi=>G e [.S 29 (.b false),15,.S 6 (.b (((a.Many.1==0)&&((a.Many.2.1==0)&&(a.Many.2.2==0)))||((1<=a.Many.1)&&((a.Many.1<=a.Many.2.1)&&((a.Many.2.1<=16)&&((1<=a.Many.2.2)&&(a.Many.2.2<=a.Many.2.1)))))))] Z ⟨(tc_ i),(cb_ (JM f (Jv g (WC i Z))))⟩<|M Z) λg=>G e [.S 24 (.b false),20,.S 6 (.b (((a.Many.1==0)&&((a.Many.2.1==0)&&(a.Many.2.2==0)))||((1<=a.Many.1)&&((a.Many.1<=a.Many.2.1)&&((a.Many.2.1<=16)&&((1<=a.Many.2.2)&&(a.Many.2.2<=a.Many.2.1)))))))] Z ⟨(tc_ g),(cb_ (JM f (WC g Z)))⟩<|M Z)<|H e [7] Z<|mV_ h (λu=>⟨[(2,.b u)],[]⟩) (λu h=>B h λw s h=>J e [6,.o (.C2 (.b w)),1] Z (Pc _ _ _ s)<|I h (λl h=>B h λx t h=>G e [.S 49 (.b true),5,.o (.C2 (.b x)),2] Z ⟨(tc_ l),(Pc _ _ _ t)⟩<|I h (λm h=>L e [.S 57 (.b true),5] Z m<|I h (λp h=>L e [.S 62 (.b true),5] Z p<|I h (λq h=>L e [.S 67 (.b true),4] Z q<|mq_ h Z) λq h=>L e [.S 67 (.b false),4] Z q<|mq_ h Z) λp h=>L e [.S 62 (.b false),9] Z p<|mq_ h Z) λm h=>L e [.S 57 (.b false),14] Z m<|mq_ h Z) λl h=>L e [.S 49 (.b false),22] Z l<|mq_ h Z) λu h=>H e [2] Z<|E h Z U
def AA (a:QS):O_ Bool:=(WB a).bind λb=>some b
def QbW (a):CT 184 [.L 617] [(617,.var (Qi a))] (AA a) V.b (λ_=>[(617,.var (Qi a))]):=
 W 4 func184 Z λC f r h=>B h λg e h=>K f [7,.A (Qi a),.o (.C1 (.b g)),4] Z Z (QdS _ _ e)<|E h Z r1_
def Gb (b:QS)(v:Int)(f:Ql)(u:Int)(w:Int)(g:Int)(x:Int)(h:Int)(y:Int)(i:Int)(j:Int)(k:Int)(l:Int)(m:Int)(n:Int):O_ (Int×Int):=(Ig b).bind λo=>bif (!o)then some (v,h)else (Ii f u b).bind λp=>bif (!p)then some (w,h)else (BK g b).bind λq=>bif (!q)then some (x,h)else (Ay f b h).bind λa=>bif (!a.1)then some (y,a.2)else (Ik f u).bind λr=>bif (!r)then some (i,a.2)else (Il b g).bind λs=>bif (!s)then some (j,a.2)else (GE f b g a.2).bind λd=>bif (!d.1)then some (k,d.2)else (GF f b g d.2).bind λe=>bif (!e.1)then some (l,e.2)else (GG f b e.2).bind λc=>bif (!c.1)then some (m,c.2)else (AA b).bind λt=>bif (!t)then some (n,c.2)else some (0,c.2)
def Qa5 (f v2 u S v5 P v7 v8 v9 w x y z D N):CT 90 [.own 617 10] [(617,.var [.clo (.func 169) [] [.L 618],.I v2,.clo (.func 170) [] [.L 619,.L 620,.L 621],.I v5,.clo (.func 172) [] [.L 622,.L 618],.I v7,.clo (.func 246) [] [.L 623,.L 624],.I v9,.clo (.func 176) [] [.L 619,.L 620],.I w,.clo (.func 177) [] [.L 618,.L 622],.I x,.clo (.func 246) [] [.L 626,.L 627],.I y,.clo (.func 246) [] [.L 628,.L 629],.I z,.clo (.func 246) [] [.L 630,.L 631],.I D,.clo (.func 184) [] [.L 618],.I N]),(618,.var (Qi f)),(619,.var (Qa u)),(620,.var (Qb S)),(621,.var [.clo (.func 168) [] [.L 618]]),(622,.var (Qb P)),(623,.var [.clo (.func 174) [] [.L 619,.L 618]]),(624,.var [.L 625]),(625,.var (Qb v8)),(626,.var [.clo (.func 179) [] [.L 619,.L 618,.L 622]]),(627,.var [.L 625]),(628,.var [.clo (.func 181) [] [.L 619,.L 618,.L 622]]),(629,.var [.L 625]),(630,.var [.clo (.func 182) [] [.L 619,.L 618]]),(631,.var [.L 625])] (Gb f v2 u S v5 P v7 v8 v9 w x y z D N) (λr=>(.I r.1)) (λr=>[(617,.var [.clo (.func 169) [] [.L 618],.I v2,.clo (.func 170) [] [.L 619,.L 620,.L 621],.I v5,.clo (.func 172) [] [.L 622,.L 618],.I v7,.clo (.func 246) [] [.L 623,.L 624],.I v9,.clo (.func 176) [] [.L 619,.L 620],.I w,.clo (.func 177) [] [.L 618,.L 622],.I x,.clo (.func 246) [] [.L 626,.L 627],.I y,.clo (.func 246) [] [.L 628,.L 629],.I z,.clo (.func 246) [] [.L 630,.L 631],.I D,.clo (.func 184) [] [.L 618],.I N]),(618,.var (Qi f)),(619,.var (Qa u)),(620,.var (Qb S)),(621,.var [.clo (.func 168) [] [.L 618]]),(622,.var (Qb P)),(623,.var [.clo (.func 174) [] [.L 619,.L 618]]),(624,.var [.L 625]),(625,.var (Qb r.2)),(626,.var [.clo (.func 179) [] [.L 619,.L 618,.L 622]]),(627,.var [.L 625]),(628,.var [.clo (.func 181) [] [.L 619,.L 618,.L 622]]),(629,.var [.L 625]),(630,.var [.clo (.func 182) [] [.L 619,.L 618]]),(631,.var [.L 625])]):=
 W 18 func90 Z λC a r h=>H a [14] Z<|AK.loopN 11<|AK.rnd<|B h λb4 a0 h=>g4_ a [2,.v .no [] (.b true),10,.o (.any (.L 617) none),3,.O 4 (.var [.clo (.func 169) [] [.L 618],.I v2]),6,.cm (.clo) [(617,618)] [(618,617)] [] [.d] [(617,.var (Qi f))] (.b b4),3] Z Z (λσ c e _=>Qf.idxV Z Z (QI a.n Z) (c _ _ Z) (c _ _ Z) (Qe.es Z) (e _ _ Z) (by decide)) Z (QcR _ _ a0)<|I h (λg h=>J a [.T,13] Z g<|E h Z rF_) λg h=>K a [.F,4,.v .no [] (.I 1),2] Z g Z<|AK.met<|AK.rnd<|B h λb5 a1 h=>g4_ a [2,.v .no [] (.b true),10,.o (.any (.loc 617 0 2) none),1,.kill 4,2,.O 4 (.var [.clo (.func 170) [] [.L 619,.L 620,.L 621],.I v5]),6,.cm (.clo) [(617,619),(618,620),(619,621),(620,618)] [(619,617),(620,618),(621,619),(618,620)] [] [.d,.d,.d] [(617,.var (Qa u)),(618,.var (Qb S)),(619,.var [.clo (.func 168) [] [.L 620]]),(620,.var (Qi f))] (.b b5),3] Z Z (λσ c e _=>Qf.idxV Z Z (QI a.n Z) (c _ _ Z) (c _ _ Z) (Qe.es Z) (e _ _ Z) (by decide)) Z (QcT _ _ _ _ a1)<|I h (λi h=>J a [.T,13] Z i<|E h Z rF_) λi h=>K a [.F,4,.v .no [] (.I 2),2] Z i Z<|AK.met<|AK.rnd<|B h λb6 a2 h=>g4_ a [2,.v .no [] (.b true),10,.o (.any (.loc 617 0 4) none),1,.kill 4,2,.O 4 (.var [.clo (.func 172) [] [.L 622,.L 618],.I v7]),6,.cm (.clo) [(617,622),(618,618)] [(622,617),(618,618)] [] [.d,.d] [(617,.var (Qb P)),(618,.var (Qi f))] (.b b6),3] Z Z (λσ c e _=>Qf.idxV Z Z (QI a.n Z) (c _ _ Z) (c _ _ Z) (Qe.es Z) (e _ _ Z) (by decide)) Z (QcU _ _ _ a2)<|I h (λj h=>J a [.T,13] Z j<|E h Z rF_) λj h=>K a [.F,4,.v .no [] (.I 3),2] Z j Z<|AK.met<|AK.rnd<|B h λa3 a4 h=>g4_ a [2,.v .no [] (.b true),10,.o (.any (.loc 617 0 6) none),1,.kill 4,2,.O 4 (.var [.clo (.func 246) [] [.L 623,.L 624],.I v9]),6,.cm (.clo) [(617,623),(618,619),(619,618),(620,624),(621,625)] [(623,617),(619,618),(618,619),(624,620),(625,621)] [] [.d,.d] [(617,.var [.clo (.func 174) [] [.L 618,.L 619]]),(618,.var (Qa u)),(619,.var (Qi f)),(620,.var [.L 621]),(621,.var (Qb a3.2))] (.b a3.1),3] Z Z (λσ c e _=>Qf.idxV Z Z (QI a.n Z) (c _ _ Z) (c _ _ Z) (Qe.es Z) (e _ _ Z) (by decide)) Z (QbT _ _ _ _ a4)<|I h (λk h=>J a [.T,13] Z k<|E h Z rF_) λk h=>K a [.F,4,.v .no [] (.I 4),2] Z k Z<|AK.met<|AK.rnd<|B h λb7 a5 h=>g4_ a [2,.v .no [] (.b true),10,.o (.any (.loc 617 0 8) none),1,.kill 4,2,.O 4 (.var [.clo (.func 176) [] [.L 619,.L 620],.I w]),6,.cm (.clo) [(617,619),(618,620)] [(619,617),(620,618)] [] [.d,.d] [(617,.var (Qa u)),(618,.var (Qb S))] (.b b7),3] Z Z (λσ c e _=>Qf.idxV Z Z (QI a.n Z) (c _ _ Z) (c _ _ Z) (Qe.es Z) (e _ _ Z) (by decide)) Z (QcW _ _ _ a5)<|I h (λl h=>J a [.T,13] Z l<|E h Z rF_) λl h=>K a [.F,4,.v .no [] (.I 5),2] Z l Z<|AK.met<|AK.rnd<|B h λb8 a6 h=>g4_ a [2,.v .no [] (.b true),10,.o (.any (.loc 617 0 10) none),1,.kill 4,2,.O 4 (.var [.clo (.func 177) [] [.L 618,.L 622],.I x]),6,.cm (.clo) [(617,618),(618,622)] [(618,617),(622,618)] [] [.d,.d] [(617,.var (Qi f)),(618,.var (Qb P))] (.b b8),3] Z Z (λσ c e _=>Qf.idxV Z Z (QI a.n Z) (c _ _ Z) (c _ _ Z) (Qe.es Z) (e _ _ Z) (by decide)) Z (QcX _ _ _ a6)<|I h (λm h=>J a [.T,13] Z m<|E h Z rF_) λm h=>K a [.F,4,.v .no [] (.I 6),2] Z m Z<|AK.met<|AK.rnd<|B h λa7 a8 h=>g4_ a [2,.v .no [] (.b true),10,.o (.any (.loc 617 0 12) none),1,.kill 4,2,.O 4 (.var [.clo (.func 246) [] [.L 626,.L 627],.I y]),6,.cm (.clo) [(617,626),(618,619),(619,618),(620,622),(621,627),(622,625)] [(626,617),(619,618),(618,619),(622,620),(627,621),(625,622)] [] [.d,.d] [(617,.var [.clo (.func 179) [] [.L 618,.L 619,.L 620]]),(618,.var (Qa u)),(619,.var (Qi f)),(620,.var (Qb P)),(621,.var [.L 622]),(622,.var (Qb a7.2))] (.b a7.1),3] Z Z (λσ c e _=>Qf.idxV Z Z (QI a.n Z) (c _ _ Z) (c _ _ Z) (Qe.es Z) (e _ _ Z) (by decide)) Z (Zg _ _ _ _ _ a8)<|I h (λp h=>J a [.T,13] Z p<|E h Z rF_) λp h=>K a [.F,4,.v .no [] (.I 7),2] Z p Z<|AK.met<|AK.rnd<|B h λa9 b0 h=>g4_ a [2,.v .no [] (.b true),10,.o (.any (.loc 617 0 14) none),1,.kill 4,2,.O 4 (.var [.clo (.func 246) [] [.L 628,.L 629],.I z]),6,.cm (.clo) [(617,628),(618,619),(619,618),(620,622),(621,629),(622,625)] [(628,617),(619,618),(618,619),(622,620),(629,621),(625,622)] [] [.d,.d] [(617,.var [.clo (.func 181) [] [.L 618,.L 619,.L 620]]),(618,.var (Qa u)),(619,.var (Qi f)),(620,.var (Qb P)),(621,.var [.L 622]),(622,.var (Qb a9.2))] (.b a9.1),3] Z Z (λσ c e _=>Qf.idxV Z Z (QI a.n Z) (c _ _ Z) (c _ _ Z) (Qe.es Z) (e _ _ Z) (by decide)) Z (Zh _ _ _ _ _ b0)<|I h (λq h=>J a [.T,13] Z q<|E h Z rF_) λq h=>K a [.F,4,.v .no [] (.I 8),2] Z q Z<|AK.met<|AK.rnd<|B h λb1 b2 h=>g4_ a [2,.v .no [] (.b true),10,.o (.any (.loc 617 0 16) none),1,.kill 4,2,.O 4 (.var [.clo (.func 246) [] [.L 630,.L 631],.I D]),6,.cm (.clo) [(617,630),(618,619),(619,618),(620,631),(621,625)] [(630,617),(619,618),(618,619),(631,620),(625,621)] [] [.d,.d] [(617,.var [.clo (.func 182) [] [.L 618,.L 619]]),(618,.var (Qa u)),(619,.var (Qi f)),(620,.var [.L 621]),(621,.var (Qb b1.2))] (.b b1.1),3] Z Z (λσ c e _=>Qf.idxV Z Z (QI a.n Z) (c _ _ Z) (c _ _ Z) (Qe.es Z) (e _ _ Z) (by decide)) Z (Zi _ _ _ _ b2)<|I h (λs h=>J a [.T,13] Z s<|E h Z rF_) λs h=>K a [.F,4,.v .no [] (.I 9),2] Z s Z<|AK.met<|AK.rnd<|B h λb9 b3 h=>g4_ a [2,.v .no [] (.b true),10,.o (.any (.loc 617 0 18) none),1,.kill 4,2,.O 4 (.var [.clo (.func 184) [] [.L 618],.I N]),6,.cm (.clo) [(617,618)] [(618,617)] [] [.d] [(617,.var (Qi f))] (.b b9),3] Z Z (λσ c e _=>Qf.idxV Z Z (QI a.n Z) (c _ _ Z) (c _ _ Z) (Qe.es Z) (e _ _ Z) (by decide)) Z (QbW _ _ b3)<|I h (λt h=>J a [.T,13] Z t<|E h Z rF_) λt h=>K a [.F,4,.v .no [] (.I 10),2] Z t Z<|AK.met<|AK.rnd<|J a [2,.v .no [] (.b false),15] Z Z<|E h Z rF_
def Kg (a:Ql)(e:Int):O_ Int:=(Wx a.Tasks e).bind λg=>bif (!g)then some 3 else (Ax a).bind λf=>bif (f.2 != 0)then some f.2 else (idx a.Tasks e).bind λd=>(idx a.Tasks e).bind λb=>(LD 0 a d).bind λh=>(Ce 0 a d (b.Vars.length:Int)).bind λi=>(Cf 0 a d (b.Vars.length:Int)).bind λj=>(Cg 0 a d).bind λk=>(Gb d 1 a e 5 (b.Vars.length:Int) 2 0 (-1) 2 1 (-1) (-1) (-1) 11).bind λc=>bif (c.1==(-1))then some c.2 else some c.1
def Qe7 (i z):CT 101 [.agg (Qa i),.I z] [] (Kg i z) V.I no_:=
 W 68 func101 Z λC g r h=>B h λx5 D h=>J g [13,.o (.C2 (.b x5)),3] Z (FI _ _ _ D)<|I h (λk h=>J g [.T,7] Z k<|E h Z U) λk h=>B h λx7 P h=>g3_ g [.F,5,.A (Qa i),.o (.C1 (.tup [.I x7.1,.I x7.2])),13] Z k Z (Pb _ _ P)<|I h (λl h=>J g [.T,8] Z l<|E h Z U) λl h=>B h λj S h=>B h λe p h=>G g [.F,3] Z (A l) <| 
  dr_ g [.N,.N,.N,.B (.row (Qi j)),.E (.agg (Qi j)),.a .no none true,.a .no none true,.a .no none true,.a (.row (Qi e)) none true,.a .no none true,.a .no none true,.a (.ln e.Vars.length) none true,.N,.N,.m .s,.m .s] [2,3] [2,3] [2,3,7,8] [2,3,7,8] Z Z (a4_ (Xd S) Z (Xd p) Qd) Z <|
  B h λa0 q h=>B h λa1 t h=>B h λa2 u h=>B h λa3 w h=>B h λx y h=>G g [.O 7 (.var (Qi j)),.O 8 (.var (Qb (e.Vars.length:Int))),6,.O 9 (.var [.clo (.func 168) [] [.L 7]]),10,.A [.clo (.func 169) [] [.L 7],.I 1],1,.A [.clo (.func 170) [] [.L 2,.L 3,.L 9],.I 5],1,.A [.clo (.func 172) [] [.L 8,.L 7],.I 2],1,.cm (.fn) [(617,10),(618,2),(619,7)] [(45,2),(609,3),(10,617),(2,618),(7,619)] [] [.d,.d] [(2,.var [.L 617]),(3,.var [.clo (.func 174) [] [.L 618,.L 619]]),(617,.var (Qb 0)),(618,.var (Qa i)),(619,.var (Qi j))] (.clo (.func 246) [] [.L 3,.L 2]),.A [.clo (.func 246) [] [.L 609,.L 45],.I (-1)],1,.A [.clo (.func 176) [] [.L 2,.L 3],.I 2],1,.A [.clo (.func 177) [] [.L 7,.L 8],.I 1],1,.cm (.fn) [(617,10),(618,2),(619,7),(620,8)] [(52,2),(610,3),(10,617),(2,618),(7,619),(8,620)] [] [.d,.d] [(2,.var [.L 617]),(3,.var [.clo (.func 179) [] [.L 618,.L 619,.L 620]]),(617,.var (Qb 0)),(618,.var (Qa i)),(619,.var (Qi j)),(620,.var (Qb (e.Vars.length:Int)))] (.clo (.func 246) [] [.L 3,.L 2]),.A [.clo (.func 246) [] [.L 610,.L 52],.I (-1)],1,.cm (.fn) [(617,10),(618,2),(619,7),(620,8)] [(55,2),(611,3),(10,617),(2,618),(7,619),(8,620)] [] [.d,.d] [(2,.var [.L 617]),(3,.var [.clo (.func 181) [] [.L 618,.L 619,.L 620]]),(617,.var (Qb 0)),(618,.var (Qa i)),(619,.var (Qi j)),(620,.var (Qb (e.Vars.length:Int)))] (.clo (.func 246) [] [.L 3,.L 2]),.A [.clo (.func 246) [] [.L 611,.L 55],.I (-1)],1,.cm (.fn) [(617,10),(618,2),(619,7)] [(58,2),(612,3),(10,617),(2,618),(7,619)] [] [.d,.d] [(2,.var [.L 617]),(3,.var [.clo (.func 182) [] [.L 618,.L 619]]),(617,.var (Qb 0)),(618,.var (Qa i)),(619,.var (Qi j))] (.clo (.func 246) [] [.L 3,.L 2]),.A [.clo (.func 246) [] [.L 612,.L 58],.I (-1)],1,.A [.clo (.func 184) [] [.L 7],.I 11],.o (.any (.own 62 10) (some (.var [.clo (.func 169) [] [.L 7],.I 1,.clo (.func 170) [] [.L 2,.L 3,.L 9],.I 5,.clo (.func 172) [] [.L 8,.L 7],.I 2,.clo (.func 246) [] [.L 609,.L 45],.I (-1),.clo (.func 176) [] [.L 2,.L 3],.I 2,.clo (.func 177) [] [.L 7,.L 8],.I 1,.clo (.func 246) [] [.L 610,.L 52],.I (-1),.clo (.func 246) [] [.L 611,.L 55],.I (-1),.clo (.func 246) [] [.L 612,.L 58],.I (-1),.clo (.func 184) [] [.L 7],.I 11]))),.cm (.fn) [(617,62),(618,7),(619,2),(620,3),(621,9),(622,8),(623,609),(624,45),(625,10),(626,610),(627,52),(628,611),(629,55),(630,612),(631,58)] [(62,617),(7,618),(2,619),(3,620),(9,621),(8,622),(609,623),(45,624),(10,625),(610,626),(52,627),(611,628),(55,629),(612,630),(58,631)] [] [.d] [(617,.var [.clo (.func 169) [] [.L 618],.I 1,.clo (.func 170) [] [.L 619,.L 620,.L 621],.I 5,.clo (.func 172) [] [.L 622,.L 618],.I 2,.clo (.func 246) [] [.L 623,.L 624],.I (-1),.clo (.func 176) [] [.L 619,.L 620],.I 2,.clo (.func 177) [] [.L 618,.L 622],.I 1,.clo (.func 246) [] [.L 626,.L 627],.I (-1),.clo (.func 246) [] [.L 628,.L 629],.I (-1),.clo (.func 246) [] [.L 630,.L 631],.I (-1),.clo (.func 184) [] [.L 618],.I 11]),(618,.var (Qi j)),(619,.var (Qa i)),(620,.var (Qb z)),(621,.var [.clo (.func 168) [] [.L 618]]),(622,.var (Qb (e.Vars.length:Int))),(623,.var [.clo (.func 174) [] [.L 619,.L 618]]),(624,.var [.L 625]),(625,.var (Qb x.2)),(626,.var [.clo (.func 179) [] [.L 619,.L 618,.L 622]]),(627,.var [.L 625]),(628,.var [.clo (.func 181) [] [.L 619,.L 618,.L 622]]),(629,.var [.L 625]),(630,.var [.clo (.func 182) [] [.L 619,.L 618]]),(631,.var [.L 625])] (.I x.1),10] Z ⟨⟨⟨⟨⟨⟨⟨⟨⟨⟨⟨⟨⟨⟨⟨⟨⟨⟨⟨U,Z⟩,Z⟩,Z⟩,Z⟩,Z⟩,Z⟩,(QdR _ _ _ _ q)⟩,Z⟩,Z⟩,Z⟩,(QaW _ _ _ _ _ t)⟩,Z⟩,(QaX _ _ _ _ _ u)⟩,Z⟩,(QaY _ _ _ _ w)⟩,Z⟩,Z⟩,(λσ h1 h2 hf=>Qf.buildAny Z Z (QI g.n Z) (Qe.es Z) OW Z (by decide) (by decide) (Ui h1 Z) Z Z (hf Z))⟩,(Qa5 _ _ _ _ _ _ _ _ _ _ _ _ _ _ _ _ y)⟩<|I h (λf h=>J g [.T,8] Z f<|E h Z U) λf h=>J g [.F,9] Z f<|E h Z U
def CI (a:Int)(d:QS)(b:Ql):O_ Int:=(Kg b a).bind λc=>some c
def QdT (e f a):CT 100 [.I e,.agg (Qi f),.L 617] [(617,.var (Qa a))] (CI e f a) V.I (λ_=>[(617,.var (Qa a))]):=
 W 9 func100 Z λC g r h=>B h λi b h=>K g [8,.A (Qa a),1,.o (.C2 (.I i)),4] Z Z (Qe7 _ _ _ b)<|E h Z r1_
def KN (d:(L_ QS))(e:Ql)(a:Int):O_ (Int⊕((Int×Int)⊕Unit)):=bif (a<(d.length:Int))then (idx d a).bind λc=>(CI a c e).bind λb=>bif (b != 0)then some (.inr (.inl (a,b)))else some (.inl (Qq (a+1)))else some (.inr (.inr ()))
def Ux (b:Int)(a:Int):O_ (Int×Int):=some (b,a)
def Uy : O_ (Int×Int):=some (0,0)
def Kz (a:(L_ QS))(b:Ql):O_ (Int×Int):=(QQ (λst=>KN a b st) 0).bind (Sum.elim (λq=>Ux q.1 q.2) (λq=>Uy))
def Sp (g f):CT 99 [.sl 14 (g.map Qi),.clo (.func 100) [] [.L 617]] [(617,.var (Qa f))] (Kz g f) (λr=>(.tup [.I r.1,.I r.2])) (λ_=>[(617,.var (Qa f))]):=
 W 25 func99 Z λC e r h=>J e [10,.o (.ln g.length),4] Z Qd<|lq_ h (λst=>⟨[(1,.clo (.func 100) [] [.L 617]),(9,.sl 14 (g.map Qi)),(10,.I (g.length:Int)),(11,.I st)],[(617,.var (Qa f))]⟩) (λq=>(.ret,⟨[(4,.I q.1),(5,.I q.2)],[(617,.var (Qa f))]⟩)) (λq=>(.exit 0,⟨[],[(617,.var (Qa f))]⟩)) Z (λm o h=>H e [6] Z<|I h (λa h=>B h λc i h=>B h λk j h=>G e [.T,7,.o (.row (Qi c)),.A (Qi c),3,.O 7 (.var (Qi c)),6,.A (Qi c),.cm (.clo) [(617,617)] [(617,617)] [] [.d,.d,.d] [(617,.var (Qa f))] (.I k),9] Z (a6_ a (Xd i) Z Z Z (QdT _ _ _ _ j))<|I h (λb h=>J e [.T,11] Z b<|rR_ h Z) λb h=>J e [.F,7] Z b<|rN_ h Z) λa h=>J e [.F,2] Z a<|rX_ h Z) (λ⟨p,l⟩ h=>H e [2] Z<|F h Z Z r1_) (λ_ h=>H e [9] Z<|F h Z Z r1_)
def EV (c:Ql):O_ (Int×GM):=(LA c 2 3 1).bind λe=>bif (e != 0)then some (e,(GM.mk 1 0))else (Ax c).bind λd=>bif (d.2 != 0)then some (d.2,(GM.mk 2 d.1))else (Gq c.Places c).bind λa=>bif (a.2 != 0)then some (a.2,(GM.mk 3 a.1))else (Kz c.Tasks c).bind λb=>bif (b.2 != 0)then some (b.2,(GM.mk 4 b.1))else some (0,(GM.mk 0 0))
def Qgb (k):CT 56 [.agg (Qa k)] [] (EV k) (λr=>(.tup [.agg (WL r.2),.I r.1])) no_:=by
 refine W 58 func56 rfl λC e r h=>?_
 obtain⟨t,q,h⟩:=Qp h
 refine Qg e [10,.A [.clo (.func 91) [] [.L 1],.I 2],1,.A [.clo (.func 92) [] [.L 1],.I 3],1,.A [.clo (.func 94) [] [.L 1],.I 1],.o (.any (.own 17 3) (some (.var [.clo (.func 91) [] [.L 1],.I 2,.clo (.func 92) [] [.L 1],.I 3,.clo (.func 94) [] [.L 1],.I 1]))),.cm (.fn) [(617,17),(618,1)] [(17,617),(1,618)] [] [.d] [(617,.var [.clo (.func 91) [] [.L 618],.I 2,.clo (.func 92) [] [.L 618],.I 3,.clo (.func 94) [] [.L 618],.I 1]),(618,.var (Qa k))] (.I t),10] Z (a5_ Z Z Z (λσ u w y=>Qf.buildAny Z Z (QI e.n Z) (Qe.es Z) OW Z (by decide) (by decide) (Ui u Z) Z Z (y Z)) (QdN _ _ _ _ _ q)) ?_
 rcases Xn h with⟨i,h⟩|⟨i,h⟩
 ·refine Qg e [.T,2,.A (WL (GM.mk 1 0)),2,.O 2 (.var (WL (GM.mk 1 0))),5,.K [2,3] [2]] Z (a3_ i Z Z) ?_
  cases h
  exact AK.done (ex_ [_,_] (an_ (an_ (ex_ _ (ex_ _ (an_ Z (an_ Z (Or.inl (an_ (Qe.ag Z) (an_ (Qe.sz Z) Z))))))) (an_ Z U)) (gives U)))
 obtain⟨p,s,h⟩:=Qp h
 refine Qg e [.F,5,.A (Qa k),.o (.C1 (.tup [.I p.1,.I p.2])),13] Z (a3_ i Z (Pb _ _ s)) ?_
 rcases Xn h with⟨j,h⟩|⟨j,h⟩
 ·refine Qg e [.T,3,.A (WL (GM.mk 2 p.1)),2,.O 2 (.var (WL (GM.mk 2 p.1))),5,.K [2,3] [2]] Z (a3_ j Z Z) ?_
  cases h
  exact AK.done (ex_ [_,_] (an_ (an_ (ex_ _ (ex_ _ (an_ Z (an_ Z (Or.inl (an_ (Qe.ag Z) (an_ (Qe.sz Z) Z))))))) (an_ Z U)) (gives U)))
 obtain⟨f,l,h⟩:=Qp h
 refine Qg e [.F,8,.cm (.fn) [(617,1)] [(1,617)] [] [.d,.d] [(617,.var (Qa k))] (.tup [.I f.1,.I f.2]),13] Z (a2_ j (Rj _ _ _ l)) ?_
 rcases Xn h with⟨a,h⟩|⟨a,h⟩
 ·refine Qg e [.T,3,.A (WL (GM.mk 3 f.1)),2,.O 2 (.var (WL (GM.mk 3 f.1))),5,.K [2,3] [2]] Z (a3_ a Z Z) ?_
  cases h
  exact AK.done (ex_ [_,_] (an_ (an_ (ex_ _ (ex_ _ (an_ Z (an_ Z (Or.inl (an_ (Qe.ag Z) (an_ (Qe.sz Z) Z))))))) (an_ Z U)) (gives U)))
 obtain⟨g,m,h⟩:=Qp h
 refine Qg e [.F,8,.cm (.fn) [(617,1)] [(1,617)] [] [.d,.d] [(617,.var (Qa k))] (.tup [.I g.1,.I g.2]),13] Z (a2_ a (Sp _ _ _ m)) ?_
 refine bg_ h (λb h=>Qg e [.T,3,.A (WL (GM.mk 4 g.1)),2,.O 2 (.var (WL (GM.mk 4 g.1))),5,.K [2,3] [2]] rfl (a3_ b rfl rfl) ?_) λb h=>Qg e [.F,4,.A (WL (GM.mk 0 0)),1,.O 2 (.var (WL (GM.mk 0 0))),4,.K [2,3] [2]] rfl (a3_ b rfl rfl) ?_
 ·cases h
  exact AK.done (ex_ [_,_] (an_ (an_ (ex_ _ (ex_ _ (an_ Z (an_ Z (Or.inl (an_ (Qe.ag Z) (an_ (Qe.sz Z) Z))))))) (an_ Z U)) (gives U)))
 cases h
 exact AK.done (ex_ [_,_] (an_ (an_ (ex_ _ (ex_ _ (an_ Z (an_ Z (Or.inl (an_ (Qe.ag Z) (an_ (Qe.sz Z) Z))))))) (an_ Z U)) (gives U)))
def Ns (a:(Int×GM))(c:Ql)(d:QMk):O_ Bool:=bif (a.1 != 0)then some true else (Um c d).bind λb=>some (!b)
def Nt (d:Ql)(a:Int)(b:Int):O_ ((Int×Int)⊕Int):=bif (b<(d.Tasks.length:Int))then (idx d.Tasks b).bind λc=>(CH d b).bind λe=>some (.inl ((Qq (a+(Qq (e*(Qq (1+(Qq ((c.Ins.length:Int)*(c.Outs.length:Int))))))))),(Qq (b+1))))else some (.inr a)
def Qe8 (a:Int):O_ Bool:=some (decide (a<=600))
def Nu (b:Ql)(a:Bool):O_ Bool:=bif a then some false else (QQ (λst=>Nt b st.1 st.2) (0,0)).bind (λq=>Qe8 q)
def BL (a:Ql)(d:QMk):O_ Bool:=
 (OM a).bind λe=>
 (ON d).bind λf=>
 bif ((!e)||((!f)||(12<(a.Tasks.length:Int))))then
 some false
 else
 (EV a).bind λb=>
 (Ns b a d).bind (λc=>Nu a c)
def Qe9 (f m2):CT 29 [.agg (Qa f),.sl 1 (m2.map Qm)] [] (BL f m2) V.b no_:=
 W 69 func29 Z λC e r h=>B h λx a3 h=>B h λy a4 h=>g3_ e [8,.A (Qa f),.o (.C1 (.b x)),6,.o (.C1 (.b y)),5] Z Z (Qf8 _ _ a3) (Qga _ _ a4)<|Y ⟨[(1,.sl 1 (m2.map Qm)),lk_ 2,(27,.b ((!x)||((!y)||(12<(f.Tasks.length:Int)))))],[(2,.var (Qa f))]⟩ (H e [4] Z<|bO_ (!x) (λg=>G e [.S 18 (.b true),10,.S 27 (.b ((!x)||((!y)||(12<(f.Tasks.length:Int)))))] Z ⟨(tc_ g),(cb_ (Gc g Z))⟩<|M Z) λg=>L e [.S 18 (.b false),4] Z g<|bO_ (!y) (λi=>G e [.S 22 (.b true),6,.S 27 (.b ((!x)||((!y)||(12<(f.Tasks.length:Int)))))] Z ⟨(tc_ i),(cb_ (JM g (Gc i Z)))⟩<|M Z) λi=>G e [.S 22 (.b false),2,.o (.ln f.Tasks.length),3,.S 27 (.b ((!x)||((!y)||(12<(f.Tasks.length:Int)))))] Z ⟨⟨(tc_ i),Qd⟩,(cb_ (JM g (JM i Z)))⟩<|M Z)<|H e [1] Z<|I h (λj h=>J e [.T,7] Z j<|E h Z U) λj h=>B h λu z h=>g4_ e [.F,4,.A (Qa f),.o (.C1 (.tup [.agg (WL u.2),.I u.1])),5,.O 7 (.var (WL u.2)),5] Z j Z (Qgb _ _ z) Z<|mV_ h (λw=>⟨[lk_ 2,(40,.b w)],[(2,.var (Qa f))]⟩) (λw h=>H e [4] Z<|I h (λk h=>L e [.S 35 (.b true),6] Z k<|mq_ h Z) λk h=>B h λa5 D h=>G e [.S 35 (.b false),.A (Qa f),1,.o (.C2 (.b a5)),3] Z ⟨⟨(tc_ k),Z⟩,(Tm _ _ _ D)⟩<|mq_ h Z) λw h=>H e [1] Z<|I h (λl h=>J e [.T,7] Z l<|E h Z U) λl h=>J e [.F,14] Z l<|lp_ h (λst=>⟨[lk_ 2,(9,.I st.1),(10,.I st.2)],[(2,.var (Qa f))]⟩) (λq=>(.exit 0,⟨[(9,.I q)],[]⟩)) Z (λ⟨a1,a7⟩ o h=>J e [6,.o (.ln f.Tasks.length),3] Z Qd<|I h (λp h=>B h λt P h=>B h λa6 a0 h=>G e [.T,9,.o (.row (Qi t)),.A (Qi t),2,.O 11 (.var (Qi t)),2] Z (a4_ p (Xd P) Z Z) <| 
  dr_ e [.N,.E (.agg (Qa f)),.N,.B (.C2 (.I a6)),.N,.N,.B (.ln t.Ins.length),.N,.N,.B (.ln t.Outs.length),.N,.N,.N,.N,.m .s] [] [] [2,9,10] [2] Z Z (a4_ Z (So _ _ _ a0) Qd Qd) Z <|
  H e [7] Z<|rN_ h Z) λp h=>J e [.F,2] Z p<|rX_ h Z) λa2 h=>H e [10] Z<|E h Z U
def FL (c:QMk)(d:Int)(a:Int):O_ ((Int×Int)⊕Int):=bif (a<(c.length:Int))then (idx c a).bind λe=>(CS e).bind λb=>some (.inl ((Qq (d+b)),(Qq (a+1))))else some (.inr d)
def Qfa (a:Int):O_ Int:=some a
def Nv (a:QMk):O_ Int:=(QQ (λst=>FL a st.1 st.2) (0,0)).bind (λq=>Qfa q)
def Qfb (b):CT 30 [.sl 1 (b.map Qm)] [] (Nv b) V.I no_:=
 W 18 func30 Z λC e r h=>J e [14,.o (.ln b.length),4] Z Qd<|lp_ h (λst=>⟨[(3,.I st.1),(6,.sl 1 (b.map Qm)),(7,.I (b.length:Int)),(8,.I st.2)],[]⟩) (λq=>(.exit 0,⟨[(3,.I q)],[]⟩)) Z (λ⟨k,l⟩ o h=>H e [6] Z<|I h (λa h=>B h λj g h=>B h λi f h=>g3_ e [.T,6,.o (.row (Qm j)),7,.o (.C1 (.I i)),9] Z a (Xd g) (Oe _ _ f)<|rN_ h Z) λa h=>J e [.F,2] Z a<|rX_ h Z) λm h=>H e [9] Z<|E h Z U
def Nw (c:Ql)(a:Int):O_ (Int⊕(Unit⊕Unit)):=bif (a<(c.Tasks.length:Int))then (idx c.Tasks a).bind λb=>bif (b.Join==3)then some (.inr (.inl ()))else some (.inl (Qq (a+1)))else some (.inr (.inr ()))
def Qfc : O_ Bool:=some false
def FM (b:QT):O_ Bool:=(Nv b.M).bind λa=>some (decide (a<=1048576))
def Hv (a:Ql)(b:QT):O_ Bool:=
 (Vz b.Items).bind λe=>
 bif ((!e)||((6<(b.Items.length:Int))||(12<(b.M.length:Int))))then
 some false
 else
 (Ul a).bind λc=>
 (BL a c).bind λd=>
 bif ((!d)||(6<(a.Tasks.length:Int)))then
 some false
 else
 (QQ (λst=>Nw a st) 0).bind (Sum.elim (λq=>Qfc) (λq=>FM b))
def TJ (j f):CT 10 [.agg (Qa j),.agg (Qt f)] [] (Hv j f) V.b no_:=
 W 55 func10 Z λC e r h=>B h λu D h=>J e [11,.o (.C1 (.b u)),5] Z (Qf0 _ _ D)<|Y ⟨[lk_ 2,lk_ 3,(24,.b ((!u)||((6<(f.Items.length:Int))||(12<(f.M.length:Int)))))],[(2,.var (Qa j)),(3,.var (Qt f))]⟩ (H e [4] Z<|bO_ (!u) (λi=>G e [.S 13 (.b true),12,.S 24 (.b ((!u)||((6<(f.Items.length:Int))||(12<(f.M.length:Int)))))] Z ⟨(tc_ i),(cb_ (Gc i Z))⟩<|M Z) λi=>G e [.S 13 (.b false),2,.o (.ln f.Items.length),3] Z ⟨(tc_ i),Qd⟩<|bO_ (decide (6<(f.Items.length:Int))) (λk=>G e [.S 19 (.b true),6,.S 24 (.b ((!u)||((6<(f.Items.length:Int))||(12<(f.M.length:Int)))))] Z ⟨(tc_ k),(cb_ (JM i (Gc k Z)))⟩<|M Z) λk=>G e [.S 19 (.b false),2,.o (.ln f.M.length),3,.S 24 (.b ((!u)||((6<(f.Items.length:Int))||(12<(f.M.length:Int)))))] Z ⟨⟨(tc_ k),Qd⟩,(cb_ (JM i (JM k Z)))⟩<|M Z)<|H e [1] Z<|I h (λt h=>J e [.T,7] Z t<|E h Z U) λt h=>B h λv w h=>B h λl x h=>G e [.F,3] Z (A t) <| 
  dr_ e [.E (.agg (Qa j)),.E (.agg (Qa j)),.B (.cd false [.d] 1 (v.map Qm) v.length),.B (.C2 (.b l)),.N] [] [] [2,3,6] [2,3] Z Z (a4_ Z Z ⟨(Tl _ _ w),Qd⟩ (Qe9 _ _ _ x)) Z <|
  H e [3] Z<|Y ⟨[lk_ 2,lk_ 3,(36,.b ((!l)||(6<(j.Tasks.length:Int))))],[(2,.var (Qa j)),(3,.var (Qt f))]⟩ (H e [4] Z<|bO_ (!l) (λg=>G e [.S 31 (.b true),6,.S 36 (.b ((!l)||(6<(j.Tasks.length:Int))))] Z ⟨(tc_ g),(cb_ (Gc g Z))⟩<|M Z) λg=>G e [.S 31 (.b false),2,.o (.ln j.Tasks.length),3,.S 36 (.b ((!l)||(6<(j.Tasks.length:Int))))] Z ⟨⟨(tc_ g),Qd⟩,(cb_ (JM g Z))⟩<|M Z)<|H e [1] Z<|I h (λm h=>J e [.T,7] Z m<|E h Z U) λm h=>J e [.F,9] Z m<|lq_ h (λst=>⟨[lk_ 2,lk_ 3,(7,.I st)],[(2,.var (Qa j)),(3,.var (Qt f))]⟩) (λq=>(.ret,⟨[(4,.b false)],[]⟩)) (λq=>(.exit 0,⟨[lk_ 3],[(3,.var (Qt f))]⟩)) Z (λa0 o h=>J e [6,.o (.ln j.Tasks.length),3] Z Qd<|I h (λp h=>B h λO y h=>K e [.T,9,.o (.row (Qi O)),5] Z p (Xd y)<|I h (λs h=>J e [.T,8] Z s<|rR_ h Z) λs h=>J e [.F,8] Z s<|rN_ h Z) λp h=>J e [.F,2] Z p<|rX_ h Z) (λ_ h=>H e [2] Z<|E h Z U) (λ_ h=>have h:FM f=some r:=h;B h λP z h=>J e [6,.o (.C1 (.I P)),5] Z (Qfb _ _ z)<|E h Z U)
def Sq (a:(L_ Xt))(b:Int):O_ Bool:=(idx a b).bind λc=>bif (20<(c.Mode.Vars.length:Int))then some true else (idx a b).bind λd=>bif (20<(d.Mode.Ins.length:Int))then some true else (idx a b).bind λe=>some (decide (20<(e.Mode.Outs.length:Int)))
def Sr (a:Int)(b:Bool):O_ (Int⊕(Unit⊕Unit)):=bif b then some (.inr (.inl ()))else some (.inl (Qq (a+1)))
def Mb (b:(L_ Xt))(a:Int):O_ (Int⊕(Unit⊕Unit)):=bif (a<(b.length:Int))then (Sq b a).bind (λc=>Sr a c)else some (.inr (.inr ()))
def QdU : O_ Bool:=some false
def QdV : O_ Bool:=some true
def LE (a:(L_ Xt)):O_ Bool:=bif (24<(a.length:Int))then some false else (QQ (λst=>Mb a st) 0).bind (Sum.elim (λq=>QdU) (λq=>QdV))
def QdW (i):CT 11 [.sl 7 (i.map XF)] [] (LE i) V.b no_:=
 W 41 func11 Z λC a r h=>J a [9,.o (.ln i.length),3] Z Qd<|I h (λf h=>J a [.T,7] Z f<|E h Z U) λf h=>J a [.F,9] Z f<|lq_ h (λst=>⟨[(0,.sl 7 (i.map XF)),(3,.I st)],[]⟩) (λq=>(.ret,⟨[(2,.b false)],[]⟩)) (λq=>(.exit 0,⟨[],[]⟩)) Z (λu o h=>J a [5,.o (.ln i.length),3] Z Qd<|I h (λg h=>J a [.T,5] Z g<|mV_ h (λt=>⟨[(0,.sl 7 (i.map XF)),(3,.I u),(40,.b t)],[]⟩) (λt h=>B h λj k h=>K a [3,.o (.row (XF j)),3,.o (.ln j.Mode.Vars.length),2] Z (Xd k) Qd<|I h (λc h=>L a [.S 21 (.b true),20] Z c<|mq_ h Z) λc h=>B h λl m h=>G a [.S 21 (.b false),2,.o (.row (XF l)),3,.o (.ln l.Mode.Ins.length),3] Z ⟨⟨(tc_ c),(Xd m)⟩,Qd⟩<|I h (λd h=>L a [.S 31 (.b true),10] Z d<|mq_ h Z) λd h=>B h λp s h=>G a [.S 31 (.b false),2,.o (.row (XF p)),3,.o (.ln p.Mode.Outs.length),3] Z ⟨⟨(tc_ d),(Xd s)⟩,Qd⟩<|mq_ h Z) λt h=>H a [1] Z<|I h (λe h=>J a [.T,8] Z e<|rR_ h Z) λe h=>J a [.F,8] Z e<|rN_ h Z) λg h=>J a [.F,2] Z g<|rX_ h Z) (λ_ h=>H a [2] Z<|E h Z U) (λ_ h=>H a [8] Z<|E h Z U)
def Gr (b:QS)(c:Int)(a:(QT×Qz))(e:QT):O_ Bool:=bif (b.After==c)then (CU a.1.M e.M).bind λd=>bif (!d)then some true else some (decide (0<(a.1.Items.length:Int)))else some false
def Gs (a:Int)(b:(QT×Qz))(c:Bool):O_ ((Int×QT)⊕(Unit⊕QT)):=bif c then some (.inr (.inl ()))else some (.inl ((Qq (a+1)),b.1))
def Gt (c:Int)(g:Ql)(d:QS)(h:QT)(b:Int)(e:QT):O_ ((Int×QT)⊕(Unit⊕QT)):=
 bif (b<=c)then
 (YH g e (Xt.mk 6 0 (Qk.mk 0 ([]:LI_) ([]:LI_) ([]:LI_)) 0)).bind λa=>
 bif ((a.2.Err != 0)||((a.1.Now != b)||(((d.After==b) != ((a.2.Closed.length:Int)==1))||(1<(a.2.Closed.length:Int)))))then
 some (.inr (.inl ()))
 else
 (Gr d b a h).bind (λf=>Gs b a f)
 else
 some (.inr (.inr e))
def VG : O_ Bool:=some false
def AN (d:Bool)(b:QS)(a:Int)(c:QT):O_ Bool:=some (d&&(bif (0<b.After)then((decide (b.After<=a))==((c.Items.length:Int)==0))else(false==((c.Items.length:Int)==0))))
def DR (e:Ql)(a:Int):O_ Bool:=
 (Lv).bind λg=>
 (Bk e).bind λf=>
 (Hv e f).bind λj=>
 bif ((!j)||((a<0)||(12<a)))then
 some g
 else
 (Dt e f 1).bind λb=>
 bif ((b.length:Int)==0)then
 some g
 else
 (idx b 0).bind λh=>
 (idx e.Tasks h.Task).bind λc=>
 (idx b 0).bind λi=>
 (YH e f (Xt.mk 1 0 i (max2 c.Many.1 1))).bind λd=>
 bif ((d.2.Err != 0)||(d.2.Id != 1))then
 some false
 else
 (QQ (λst=>Gt a e c f st.1 st.2) (1,d.1)).bind (Sum.elim (λq=>VG) (λq=>AN g c a q))
def VH (P e):CT 5 [.agg (Qa P),.I e] [] (DR P e) V.b no_:=
 W 142 func5 Z λC i r h=>B h λx5 b9 h=>B h λx6 c0 h=>B h λx7 c1 h=>G i [8,.o (.c false [] (.b x5)),5,.A (Qa P),.o (.C1 (.agg (Qt x6))),2,.O 6 (.var (Qt x6)),4,.A (Qa P),.A (Qt x6),.o (.C2 (.b x7)),5] Z (a7_ (Se _  b9) Z (MH _ _ c0) Z Z Z (TJ _ _ _ c1))<|Y ⟨[(1,.I e),lk_ 2,(5,.b x5),lk_ 6,(31,.b ((!x7)||((e<0)||(12<e))))],[(2,.var (Qa P)),(6,.var (Qt x6))]⟩ (H i [4] Z<|bO_ (!x7) (λD=>G i [.S 24 (.b true),8,.S 31 (.b ((!x7)||((e<0)||(12<e))))] Z ⟨(tc_ D),(cb_ (Gc D Z))⟩<|M Z) λD=>L i [.S 24 (.b false),4] Z D<|bO_ (decide (e<0)) (λw=>G i [.S 28 (.b true),4,.S 31 (.b ((!x7)||((e<0)||(12<e))))] Z ⟨(tc_ w),(cb_ (JM D (Gc w Z)))⟩<|M Z) λw=>G i [.S 28 (.b false),4,.S 31 (.b ((!x7)||((e<0)||(12<e))))] Z ⟨(tc_ w),(cb_ (JM D (JM w Z)))⟩<|M Z)<|H i [1] Z<|I h (λa0 h=>J i [.T,8] Z a0<|E h Z U) λa0 h=>B h λb1 b2 h=>G i [.F,4,.A (Qa P),.A (Qt x6),.o (.C3 (.sl 4 (b1.map Qo))),7,.o (.ln b1.length),3] Z (a5_ a0 Z Z (Ht _ _ _ _ b2) Qd)<|I h (λa1 h=>J i [.T,8] Z a1<|E h Z U) λa1 h=>B h λc2 b3 h=>B h λg b4 h=>G i [.F,3] Z (A a1) <| 
  dr_ i [.N,.N,.N,.B (.row (Qo c2)),.N,.N,.B (.row (Qi g)),.E (.agg (Qi g)),.N,.m .s] [] [] [1,2,5,6,8,9] [2,6,9] Z Z (a3_ (Xd b3) (Xd b4) Z) Z <|
  B h λa8 b5 h=>B h λk b6 h=>G i [.O 9 (.var (Qi g)),2] Z (A Z) <| 
  dr_ i [.E (.agg (Qa P)),.E (.agg (Qt x6)),.N,.B (.row (Qo a8)),.E (.agg (Qo a8)),.N,.N,.N,.N,.E (.agg (XF (Xt.mk 1 0 a8 (max2 g.Many.1 1)))),.B (.C3 (.tup [.agg (Qt k.1),.agg (Qr k.2)])),.a .no none true true,.N,.a .no none true,.N,.N,.m .s,.m .s] [1,2,5,6,8,9] [2,6,9] [1,2,5,6,9,10,11] [2,6,9,10,11] Z Z (a6_ Z Z (Xd b5) Z Z (Ub _ _ _ _ b6)) Z <|
  K i [.O 10 (.var (Qt k.1)),.O 11 (.var (Qr k.2)),3] Z Z Z<|Y ⟨[(1,.I e),lk_ 2,(5,.b x5),lk_ 6,lk_ 9,lk_ 10,(69,.b ((k.2.Err != 0)||(k.2.Id != 1)))],[(2,.var (Qa P)),(6,.var (Qt x6)),(9,.var (Qi g)),(10,.var (Qt k.1))]⟩ (H i [5] Z<|bO_ (k.2.Err != 0) (λx=>G i [.S 65 (.b true),5,.S 69 (.b ((k.2.Err != 0)||(k.2.Id != 1)))] Z ⟨(tc_ x),(cb_ (Gc x Z))⟩<|M Z) λx=>G i [.S 65 (.b false),5,.S 69 (.b ((k.2.Err != 0)||(k.2.Id != 1)))] Z ⟨(tc_ x),(cb_ (JM x Z))⟩<|M Z)<|H i [1] Z<|I h (λa2 h=>J i [.T,7] Z a2<|E h Z U) λa2 h=>J i [.F,9] Z a2<|lq_ h (λst=>⟨[(1,.I e),lk_ 2,(5,.b x5),lk_ 6,lk_ 9,lk_ 10,(12,.I st.1)],[(2,.var (Qa P)),(6,.var (Qt x6)),(9,.var (Qi g)),(10,.var (Qt st.2))]⟩) (λq=>(.ret,⟨[(4,.b false)],[]⟩)) (λq=>(.exit 0,⟨[(1,.I e),(5,.b x5),lk_ 9,lk_ 10],[(9,.var (Qi g)),(10,.var (Qt q))]⟩)) Z (λ⟨j,a9⟩ o h=>H i [8] Z<|I h (λa3 h=>B h λf b7 h=>G i [.T,6,.A (Qa P),.A (Qt a9),.v .no [none,none,none,some 1,some 1,some 1,none] (.agg (XF (Xt.mk 6 0 (Qk.mk 0 ([]:LI_) ([]:LI_) ([]:LI_)) 0))),.o (.C3 (.tup [.agg (Qt f.1),.agg (Qr f.2)])),6,.O 13 (.var (Qt f.1)),1,.O 14 (.var (Qr f.2)),13] Z (a7_ a3 Z Z Z (Ub _ _ _ _ b7) Z Z)<|Y ⟨[(1,.I e),lk_ 2,(5,.b x5),lk_ 6,lk_ 9,lk_ 10,(12,.I j),lk_ 13,(15,.b (g.After==j)),(108,.b ((f.2.Err != 0)||((f.1.Now != j)||(((g.After==j) != ((f.2.Closed.length:Int)==1))||(1<(f.2.Closed.length:Int))))))],[(2,.var (Qa P)),(6,.var (Qt x6)),(9,.var (Qi g)),(10,.var (Qt a9)),(13,.var (Qt f.1))]⟩ (H i [5] Z<|bO_ (f.2.Err != 0) (λl=>G i [.S 89 (.b true),20,.S 108 (.b ((f.2.Err != 0)||((f.1.Now != j)||(((g.After==j) != ((f.2.Closed.length:Int)==1))||(1<(f.2.Closed.length:Int))))))] Z ⟨(tc_ l),(cb_ (Gc l Z))⟩<|M Z) λl=>L i [.S 89 (.b false),6] Z l<|bO_ (f.1.Now != j) (λt=>G i [.S 95 (.b true),14,.S 108 (.b ((f.2.Err != 0)||((f.1.Now != j)||(((g.After==j) != ((f.2.Closed.length:Int)==1))||(1<(f.2.Closed.length:Int))))))] Z ⟨(tc_ t),(cb_ (JM l (Gc t Z)))⟩<|M Z) λt=>G i [.S 95 (.b false),3,.o (.ln f.2.Closed.length),4] Z ⟨(tc_ t),Qd⟩<|bO_ ((g.After==j) != ((f.2.Closed.length:Int)==1)) (λy=>G i [.S 103 (.b true),6,.S 108 (.b ((f.2.Err != 0)||((f.1.Now != j)||(((g.After==j) != ((f.2.Closed.length:Int)==1))||(1<(f.2.Closed.length:Int))))))] Z ⟨(tc_ y),(cb_ (JM l (JM t (Gc y Z))))⟩<|M Z) λy=>G i [.S 103 (.b false),2,.o (.ln f.2.Closed.length),3,.S 108 (.b ((f.2.Err != 0)||((f.1.Now != j)||(((g.After==j) != ((f.2.Closed.length:Int)==1))||(1<(f.2.Closed.length:Int))))))] Z ⟨⟨(tc_ y),Qd⟩,(cb_ (JM l (JM t (JM y Z))))⟩<|M Z)<|H i [1] Z<|I h (λa4 h=>J i [.T,9] Z a4<|rR_ h Z) λa4 h=>J i [.F,4] Z a4<|mV_ h (λb0=>⟨[(1,.I e),lk_ 2,(5,.b x5),lk_ 6,lk_ 9,lk_ 10,(12,.I j),lk_ 13,(123,.b b0)],[(2,.var (Qa P)),(6,.var (Qt x6)),(9,.var (Qi g)),(10,.var (Qt a9)),(13,.var (Qt f.1))]⟩) (λb0 h=>H i [3] Z<|I h (λa5 h=>B h λc3 b8 h=>G i [.S 110 (.b true),4,.o (.C2 (.b c3)),2] Z ⟨(tc_ a5),(BH _ _ _ b8)⟩<|I h (λa6 h=>L i [.S 117 (.b true),7] Z a6<|mq_ h Z) λa6 h=>G i [.S 117 (.b false),2,.o (.ln f.1.Items.length),4] Z ⟨(tc_ a6),Qd⟩<|mq_ h Z) λa5 h=>L i [.S 110 (.b false),14] Z a5<|mq_ h Z) λb0 h=>H i [1] Z<|I h (λa7 h=>J i [.T,9] Z a7<|rR_ h Z) λa7 h=>g3_ i [.F,3,.A (Qt f.1),1,.O 10 (.var (Qt f.1)),8] Z a7 Z Z<|rN_ h Z) λa3 h=>J i [.F,2] Z a3<|rX_ h Z) (λ_ h=>H i [2] Z<|E h Z U) (λp h=>H i [3] Z<|Y ⟨[(4,.b (x5&&(bif (0<g.After)then((decide (g.After<=e))==((p.Items.length:Int)==0))else(false==((p.Items.length:Int)==0)))))],[]⟩ (H i [3] Z<|bO_ x5 (λu=>L i [.S 126 (.b true),4] Z u<|bO_ (decide (0<g.After)) (λz=>G i [.S 130 (.b true),7,.o (.ln p.Items.length),5,.S 4 (.b (x5&&(bif (0<g.After)then((decide (g.After<=e))==((p.Items.length:Int)==0))else(false==((p.Items.length:Int)==0)))))] Z ⟨⟨(tc_ z),Qd⟩,(cb_ (Jv u (QiR z Z)))⟩<|M Z) λz=>G i [.S 130 (.b false),7,.o (.ln p.Items.length),5,.S 4 (.b (x5&&(bif (0<g.After)then((decide (g.After<=e))==((p.Items.length:Int)==0))else(false==((p.Items.length:Int)==0)))))] Z ⟨⟨(tc_ z),Qd⟩,(cb_ (Jv u (QkF z Z)))⟩<|M Z) λu=>G i [.S 126 (.b false),17,.S 4 (.b (x5&&(bif (0<g.After)then((decide (g.After<=e))==((p.Items.length:Int)==0))else(false==((p.Items.length:Int)==0)))))] Z ⟨(tc_ u),(cb_ (WC u Z))⟩<|M Z)<|H i [2] Z<|E h Z U)
def Hw (c:(QT×Qz))(a:(QT×Qz))(d:(QT×Qz))(b:((L_ Qz)×QT)):O_ Bool:=bif (c.2.Err != 0)then some true else bif (a.2.Err != 0)then some true else bif ((a.2.Closed.length:Int) != 1)then some true else (idx a.2.Closed 0).bind λe=>bif (e != c.2.Id)then some true else bif (d.2.Err != 12)then some true else (CU a.1.M b.2.M).bind λf=>bif (!f)then some true else bif ((a.1.Items.length:Int) != (b.2.Items.length:Int))then some true else some (a.1.Next != (Qq (b.2.Next+1)))
def Hx (a:Int)(b:Bool):O_ (Int⊕(Unit⊕Unit)):=bif b then some (.inr (.inl ()))else some (.inl (Qq (a+1)))
def Du (c:(L_ Qk))(f:Ql)(d:((L_ Qz)×QT))(a:Int):O_ (Int⊕(Unit⊕Unit)):=bif (a<(c.length:Int))then (idx c a).bind λg=>(idx c a).bind λh=>(idx f.Tasks h.Task).bind λi=>(YH f d.2 (Xt.mk 1 0 g (max2 i.Many.1 1))).bind λb=>(YH f b.1 (Xt.mk 5 b.2.Id (Qk.mk 0 ([]:LI_) ([]:LI_) ([]:LI_)) 0)).bind λe=>(YH f e.1 (Xt.mk 5 b.2.Id (Qk.mk 0 ([]:LI_) ([]:LI_) ([]:LI_)) 0)).bind λj=>(Hw b e j d).bind (λk=>Hx a k)else some (.inr (.inr ()))
def Ss : O_ Bool:=some false
def Su (a:Bool):O_ Bool:=some a
def WR (a:Ql)(d:(L_ Xt)):O_ Bool:=
 (Lv).bind λe=>
 (Bk a).bind λf=>
 (Hv a f).bind λg=>
 (LE d).bind λh=>
 bif ((!g)||(!h))then
 some e
 else
 (BG a f d).bind λb=>
 (Dt a b.2 3).bind λc=>
 (QQ (λst=>Du c a b st) 0).bind (Sum.elim (λq=>Ss) (λq=>Su e))
def Sv (y l2):CT 6 [.agg (Qa y),.sl 7 (l2.map XF)] [] (WR y l2) V.b no_:=
 W 143 func6 Z λC g r h=>B h λx5 b7 h=>B h λx6 b8 h=>B h λx7 b9 h=>B h λx8 c0 h=>G g [8,.o (.c false [] (.b x5)),5,.A (Qa y),.o (.C1 (.agg (Qt x6))),2,.O 6 (.var (Qt x6)),4,.A (Qa y),.A (Qt x6),.o (.C2 (.b x7)),6,.o (.C1 (.b x8)),5] Z (a8_ (Se _  b7) Z (MH _ _ b8) Z Z Z (TJ _ _ _ b9) (QdW _ _ c0))<|Y ⟨[(1,.sl 7 (l2.map XF)),lk_ 2,(5,.b x5),lk_ 6,(30,.b ((!x7)||(!x8)))],[(2,.var (Qa y)),(6,.var (Qt x6))]⟩ (H g [4] Z<|bO_ (!x7) (λp=>G g [.S 27 (.b true),4,.S 30 (.b ((!x7)||(!x8)))] Z ⟨(tc_ p),(cb_ (Gc p Z))⟩<|M Z) λp=>G g [.S 27 (.b false),4,.S 30 (.b ((!x7)||(!x8)))] Z ⟨(tc_ p),(cb_ (JM p Z))⟩<|M Z)<|H g [1] Z<|I h (λz h=>J g [.T,8] Z z<|E h Z U) λz h=>B h λl a8 h=>B h λa3 a9 h=>G g [.F,4,.A (Qa y),.A (Qt x6),1,.o (.C3 (.tup [.agg (Qt l.2),.sl 3 (l.1.map Qr)])),4,.O 6 (.var (Qt l.2)),4,.A (Qa y),.A (Qt l.2),.o (.C3 (.sl 4 (a3.map Qo))),10] Z (a8_ z Z Z (Na _ _ _ _ a8) Z Z Z (Ht _ _ _ _ a9))<|lq_ h (λst=>⟨[lk_ 2,(5,.b x5),lk_ 6,(9,.sl 4 (a3.map Qo)),(10,.I st)],[(2,.var (Qa y)),(6,.var (Qt l.2))]⟩) (λq=>(.ret,⟨[(4,.b false)],[]⟩)) (λq=>(.exit 0,⟨[(5,.b x5)],[]⟩)) Z (λc1 o h=>J g [5,.o (.ln a3.length),3] Z Qd<|I h (λD h=>B h λa5 b0 h=>B h λc2 b1 h=>B h λb2 b3 h=>B h λw b4 h=>G g [.T,5] Z (A D) <| 
  dr_ g [.E (.agg (Qa y)),.E (.agg (Qt l.2)),.N,.N,.B (.row (Qo a5)),.E (.agg (Qo a5)),.N,.N,.N,.N,.B (.row (Qo c2)),.N,.N,.B (.row (Qi b2)),.N,.N,.N,.N,.E (.agg (XF (Xt.mk 1 0 a5 (max2 b2.Many.1 1)))),.B (.C3 (.tup [.agg (Qt w.1),.agg (Qr w.2)])),.a .no none true true,.N,.a .no none true,.N,.N,.m .s,.m .s] [2,5,6,9,10] [2,6] [2,5,6,9,10,11,12] [2,6,11,12] Z Z (a8_ Z Z (Xd b0) Z (Xd b1) (Xd b3) Z (Ub _ _ _ _ b4)) Z <|
  B h λf b5 h=>B h λa4 b6 h=>G g [.O 11 (.var (Qt w.1)),.O 12 (.var (Qr w.2)),3,.A (Qa y),.A (Qt w.1),2,.v .no [none,none,none,some 1,some 1,some 1,none] (.agg (XF (Xt.mk 5 w.2.Id (Qk.mk 0 ([]:LI_) ([]:LI_) ([]:LI_)) 0))),.o (.C3 (.tup [.agg (Qt f.1),.agg (Qr f.2)])),6,.O 13 (.var (Qt f.1)),1,.O 14 (.var (Qr f.2)),4,.A (Qa y),.A (Qt f.1),2,.v .no [none,none,none,some 1,some 1,some 1,none] (.agg (XF (Xt.mk 5 w.2.Id (Qk.mk 0 ([]:LI_) ([]:LI_) ([]:LI_)) 0))),.o (.C3 (.tup [.agg (Qt a4.1),.agg (Qr a4.2)])),6,.O 15 (.var (Qt a4.1)),1,.O 16 (.var (Qr a4.2)),3] Z ⟨⟨⟨⟨⟨⟨⟨⟨⟨⟨⟨⟨⟨⟨U,Z⟩,Z⟩,Z⟩,Z⟩,Z⟩,(Ub _ _ _ _ b5)⟩,Z⟩,Z⟩,Z⟩,Z⟩,Z⟩,(Ub _ _ _ _ b6)⟩,Z⟩,Z⟩<|mV_ h (λa6=>⟨[lk_ 2,(5,.b x5),lk_ 6,(9,.sl 4 (a3.map Qo)),(10,.I c1),(141,.b a6)],[(2,.var (Qa y)),(6,.var (Qt l.2))]⟩) (λa6 h=>H g [.K [2,5,6,9,10,12,13,14,16] [2,6,12,13,14,16]] Z<|I h (λe h=> 
  dr_ g [.N,.N,.N,.E (.b true),.N,.N,.N,.N,.N,.N,.N,.N,.N,.N,.N,.N,.N,.N,.N,.N,.N,.N,.N,.N,.N,.N,.N,.N,.N,.N,.N,.N,.N,.N,.N,.N,.N,.N,.N,.N,.N,.N,.N,.N,.N,.N,.N,.N,.N,.N,.N,.N,.N] [] [] [2,5,6,9,10,141] [2,6] Z Z (tc_ e) Z <|
  mq_ h Z) λe h=>I h (λi h=> 
  dr_ g [.N,.N,.N,.E (.b false),.N,.N,.N,.N,.E (.b true),.N,.N,.N,.N,.N,.N,.N,.N,.N,.N,.N,.N,.N,.N,.N,.N,.N,.N,.N,.N,.N,.N,.N,.N,.N,.N,.N,.N,.N,.N,.N,.N,.N,.N,.N,.N,.N,.N,.N,.N,.N,.N,.N,.N] [] [] [2,5,6,9,10,141] [2,6] Z Z ⟨(tc_ e),(cb_ i)⟩ Z <|
  mq_ h Z) λi h=>I h (λj h=> 
  dr_ g [.N,.N,.N,.E (.b false),.N,.N,.N,.N,.E (.b false),.N,.N,.B (.ln f.2.Closed.length),.N,.N,.E (.b true),.N,.N,.N,.N,.N,.N,.N,.N,.N,.N,.N,.N,.N,.N,.N,.N,.N,.N,.N,.N,.N,.N,.N,.N,.N,.N,.N,.N,.N,.N,.N,.N,.N,.N,.N,.N,.N,.N] [] [] [2,5,6,9,10,141] [2,6] Z Z ⟨⟨⟨(tc_ e),(cb_ i)⟩,Qd⟩,(cb_ j)⟩ Z <|
  mq_ h Z) λj h=>B h λP t h=>I h (λk h=> 
  dr_ g [.N,.N,.N,.E (.b false),.N,.N,.N,.N,.E (.b false),.N,.N,.B (.ln f.2.Closed.length),.N,.N,.E (.b false),.N,.N,.B (.row (Qb P)),.N,.N,.N,.N,.N,.E (.b true),.N,.N,.N,.N,.N,.N,.N,.N,.N,.N,.N,.N,.N,.N,.N,.N,.N,.N,.N,.N,.N,.N,.N,.N,.N,.N,.N,.N,.N] [] [] [2,5,6,9,10,141] [2,6] Z Z ⟨⟨⟨⟨⟨(tc_ e),(cb_ i)⟩,Qd⟩,(cb_ j)⟩,(Xd t)⟩,(cb_ k)⟩ Z <|
  mq_ h Z) λk h=>I h (λu h=> 
  dr_ g [.N,.N,.N,.E (.b false),.N,.N,.N,.N,.E (.b false),.N,.N,.B (.ln f.2.Closed.length),.N,.N,.E (.b false),.N,.N,.B (.row (Qb P)),.N,.N,.N,.N,.N,.E (.b false),.N,.N,.N,.N,.E (.b true),.N,.N,.N,.N,.N,.N,.N,.N,.N,.N,.N,.N,.N,.N,.N,.N,.N,.N,.N,.N,.N,.N,.N,.N] [] [] [2,5,6,9,10,141] [2,6] Z Z ⟨⟨⟨⟨⟨⟨(tc_ e),(cb_ i)⟩,Qd⟩,(cb_ j)⟩,(Xd t)⟩,(cb_ k)⟩,(cb_ u)⟩ Z <|
  mq_ h Z) λu h=>B h λa7 a0 h=>I h (λx h=> 
  dr_ g [.N,.N,.N,.E (.b false),.N,.N,.N,.N,.E (.b false),.N,.N,.B (.ln f.2.Closed.length),.N,.N,.E (.b false),.N,.N,.B (.row (Qb P)),.N,.N,.N,.N,.N,.E (.b false),.N,.N,.N,.N,.E (.b false),.N,.N,.N,.N,.B (.C2 (.b a7)),.N,.N,.E (.b true),.N,.N,.N,.N,.N,.N,.N,.N,.N,.N,.N,.N,.N,.N,.N,.N] [] [] [2,5,6,9,10,141] [2,6] Z Z ⟨⟨⟨⟨⟨⟨⟨⟨(tc_ e),(cb_ i)⟩,Qd⟩,(cb_ j)⟩,(Xd t)⟩,(cb_ k)⟩,(cb_ u)⟩,(BH _ _ _ a0)⟩,(cb_ x)⟩ Z <|
  mq_ h Z) λx h=>I h (λa1 h=> 
  dr_ g [.N,.N,.N,.E (.b false),.N,.N,.N,.N,.E (.b false),.N,.N,.B (.ln f.2.Closed.length),.N,.N,.E (.b false),.N,.N,.B (.row (Qb P)),.N,.N,.N,.N,.N,.E (.b false),.N,.N,.N,.N,.E (.b false),.N,.N,.N,.N,.B (.C2 (.b a7)),.N,.N,.E (.b false),.N,.N,.B (.ln f.1.Items.length),.N,.N,.B (.ln l.2.Items.length),.N,.N,.E (.b true),.N,.N,.N,.N,.N,.N,.N] [] [] [2,5,6,9,10,141] [2,6] Z Z ⟨⟨⟨⟨⟨⟨⟨⟨⟨⟨⟨(tc_ e),(cb_ i)⟩,Qd⟩,(cb_ j)⟩,(Xd t)⟩,(cb_ k)⟩,(cb_ u)⟩,(BH _ _ _ a0)⟩,(cb_ x)⟩,Qd⟩,Qd⟩,(cb_ a1)⟩ Z <|
  mq_ h Z) λa1 h=> 
  dr_ g [.N,.N,.N,.E (.b false),.N,.N,.N,.N,.E (.b false),.N,.N,.B (.ln f.2.Closed.length),.N,.N,.E (.b false),.N,.N,.B (.row (Qb P)),.N,.N,.N,.N,.N,.E (.b false),.N,.N,.N,.N,.E (.b false),.N,.N,.N,.N,.B (.C2 (.b a7)),.N,.N,.E (.b false),.N,.N,.B (.ln f.1.Items.length),.N,.N,.B (.ln l.2.Items.length),.N,.N,.E (.b false),.N,.N,.N,.N,.N,.N,.N] [] [] [2,5,6,9,10,141] [2,6] Z Z ⟨⟨⟨⟨⟨⟨⟨⟨⟨⟨⟨(tc_ e),(cb_ i)⟩,Qd⟩,(cb_ j)⟩,(Xd t)⟩,(cb_ k)⟩,(cb_ u)⟩,(BH _ _ _ a0)⟩,(cb_ x)⟩,Qd⟩,Qd⟩,(cb_ a1)⟩ Z <|
  mq_ h Z) λa6 h=>H g [1] Z<|I h (λa2 h=>J g [.T,8] Z a2<|rR_ h Z) λa2 h=>J g [.F,8] Z a2<|rN_ h Z) λD h=>J g [.F,2] Z D<|rX_ h Z) (λ_ h=>H g [2] Z<|E h Z U) (λ_ h=>H g [9] Z<|E h Z U)

end Go.Proofs
