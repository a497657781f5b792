/- Walks through the program. -/
import Derived.Test.YtdogcfnkpfekmaaGreatDoorM1T1
set_option linter.all false
set_option maxRecDepth 100000
set_option maxHeartbeats 4000000
noncomputable section
namespace Go.Proofs
open Go Go.RowKit Go.Vm Go.Proofs.Tryz
def Az (D:Int)(a:(L_ QL))(b:(L_ QP))(c:(L_ QH))(d:Int)(e:Int)(f:Int)(g:Bool)(h:(L_ (ByteArray×Int)))(i:(L_ QMk))(j:(L_ QW)):O_ ((Int×(L_ QL)×(L_ QP)×(L_ QH)×Int×Int×Int×Bool×(L_ (ByteArray×Int))×(L_ QMk)×(L_ QW))⊕((L_ QL)×(L_ QP)×(L_ QH)×Int×Int×Int×Bool×(L_ (ByteArray×Int))×(L_ QMk)×(L_ QW))):=some (.inl ((Qi (D+1)),a,b,c,d,e,f,g,h,i,j))
def AA (b:Int)(D:Int)(d:(L_ QL))(e:(L_ QP))(f:(L_ QH))(g:Int)(h:Int)(i:Int)(l:Bool)(j:(L_ (ByteArray×Int)))(c:(L_ QMk))(k:(L_ QW)):O_ ((Int×(L_ QL)×(L_ QP)×(L_ QH)×Int×Int×Int×Bool×(L_ (ByteArray×Int))×(L_ QMk)×(L_ QW))⊕((L_ QL)×(L_ QP)×(L_ QH)×Int×Int×Int×Bool×(L_ (ByteArray×Int))×(L_ QMk)×(L_ QW))):=bif (D<(c.length:Int))then (idx c D).bind λm=>(HT m).bind λn=>bif (b<n)then Az D d e f g h i false j c k else (Gz d e f g h i j c k l D).bind λa=>Az D a.2.2.1 a.2.2.2.1 a.2.2.2.2.1 a.2.2.2.2.2.1 a.2.2.2.2.2.2.1 a.2.2.2.2.2.2.2.1 a.2.2.2.2.2.2.2.2.1 a.2.2.2.2.2.2.2.2.2 a.1 a.2.1 else some (.inr (d,e,f,g,h,i,l,j,c,k))
def VQ (d:(L_ QL))(e:(L_ QP))(f:(L_ QH))(g:Int)(h:Int)(i:Int)(a:Bool)(j:(L_ (ByteArray×Int)))(b:(L_ QMk))(c:(L_ QW)):O_ QD:=some (QD.mk b c a)
def Ih (d:Qf)(e:QMk)(a:Int)(b:Int):O_ QD:=bif (a<=0)then some (QD.mk ([]:(L_ QMk)) ([]:(L_ QW)) false)else (AV e).bind λf=>(WC d.Colours d.Places d.Tasks d.From d.To a ([]:(L_ (ByteArray×Int))) ([]:L_ QMk) ([]:L_ QW) true f).bind λc=>(QE (λst=>AA b st.1 st.2.1 st.2.2.1 st.2.2.2.1 st.2.2.2.2.1 st.2.2.2.2.2.1 st.2.2.2.2.2.2.1 st.2.2.2.2.2.2.2.1 st.2.2.2.2.2.2.2.2.1 st.2.2.2.2.2.2.2.2.2.1 st.2.2.2.2.2.2.2.2.2.2) (0,c.2.2.1,c.2.2.2.1,c.2.2.2.2.1,c.2.2.2.2.2.1,c.2.2.2.2.2.2.1,c.2.2.2.2.2.2.2.1,c.2.2.2.2.2.2.2.2.1,c.2.2.2.2.2.2.2.2.2,c.2.1,([]:L_ QW))).bind (λq=>VQ q.1 q.2.1 q.2.2.1 q.2.2.2.1 q.2.2.2.2.1 q.2.2.2.2.2.1 q.2.2.2.2.2.2.1 q.2.2.2.2.2.2.2.1 q.2.2.2.2.2.2.2.2.1 q.2.2.2.2.2.2.2.2.2)
def Qf6 (i m2 a f):CT 31 [.agg (Qa i),.sl 1 (m2.map Qe),.I a,.I f] [] (Ih i m2 a f) (λr=>(.agg (Qo r))) no_:=by
 refine W 59 func31 rfl λC j r h=>?_
 refine tg_ j [13] ?_
 rcases XS h with⟨w,h⟩|⟨w,h⟩
 ·refine Qp j [.T,2,.v .no [some 1,some 6,none] (.agg (Qo (QD.mk ([]:(L_ QMk)) ([]:(L_ QW)) false))),1,.O 8 (.var (Qo (QD.mk ([]:(L_ QMk)) ([]:(L_ QW)) false))),4,.K [8] [8]] Z (a3_ w Z Z) ?_
  cases h
  exact AK.done (ex_ [_] (an_ (an_ (ex_ _ (ex_ _ (an_ Z (an_ Z (Or.inl (an_ (Qw.ag Z) (an_ (Qw.sz Z) Z))))))) U) (gives U)))
 obtain⟨x8,a7,h⟩:=Qz h
 obtain⟨k,a8,h⟩:=Qz h
 refine Qp j [.F,4,.A (Qa i),2,.O 16 (.map (QC V.s V.I ([]:(L_ (ByteArray×Int))))),.A [.sl 7 (i.Colours.map Qr),.sl 3 (i.Places.map Qq),.sl 14 (i.Tasks.map Qh),.I i.From,.I i.To,.I a,.map 16,.Y,.Y,.b false],11,.O 18 (.var [.sl 7 (i.Colours.map Qr),.sl 3 (i.Places.map Qq),.sl 14 (i.Tasks.map Qh),.I i.From,.I i.To,.I a,.map 16,.Y,.Y,.b true]),6,.o (.co false [.d] 1 (x8.map Qe) x8.length),.frz 25 (x8.map Qe) [25] [],.adoptO 18 7 609 1,.O 609 (.arr 1 (([]:L_ QMk).map Qt)),.O 18 (.var [.sl 7 (i.Colours.map Qr),.sl 3 (i.Places.map Qq),.sl 14 (i.Tasks.map Qh),.I i.From,.I i.To,.I a,.map 16,.own 609 ([]:L_ QMk).length,.Y,.b true]),.adoptO 18 8 610 6,.O 610 (.arr 6 (([]:L_ QW).map QR)),.O 18 (.var [.sl 7 (i.Colours.map Qr),.sl 3 (i.Places.map Qq),.sl 14 (i.Tasks.map Qh),.I i.From,.I i.To,.I a,.map 16,.own 609 ([]:L_ QMk).length,.own 610 ([]:L_ QW).length,.b true]),.cm (.fn) [(618,18),(619,16),(616,609),(617,610)] [(609,616),(610,617),(18,618),(16,619)] [609,610] [.d,.d] [(616,.arr 1 (k.2.1.map Qt)),(617,.arr 6 (([]:L_ QW).map QR)),(618,.var [.sl 7 (k.2.2.1.map Qr),.sl 3 (k.2.2.2.1.map Qq),.sl 14 (k.2.2.2.2.1.map Qh),.I k.2.2.2.2.2.1,.I k.2.2.2.2.2.2.1,.I k.2.2.2.2.2.2.2.1,.map 619,.own 616 k.2.1.length,.own 617 ([]:L_ QW).length,.b k.2.2.2.2.2.2.2.2.1]),(619,.map (QC V.s V.I k.2.2.2.2.2.2.2.2.2))] (.I k.1),9,.K [3,8,9,10] [8,16,18,609,610]] Z (aC_ w Z Z Z Z ⟨(IL _ _ a7),Qc,.inl Z⟩ (A (Jl Qc)) Z Z Z Z (Hg _ _ _ _ _ _ _ _ _ _ _ _ a8)) ?_
 obtain⟨a9,a3,h⟩:=Qz h
 refine AK.loop (body:=(λst=>AA f st.1 st.2.1 st.2.2.1 st.2.2.2.1 st.2.2.2.2.1 st.2.2.2.2.2.1 st.2.2.2.2.2.2.1 st.2.2.2.2.2.2.2.1 st.2.2.2.2.2.2.2.2.1 st.2.2.2.2.2.2.2.2.2.1 st.2.2.2.2.2.2.2.2.2.2)) (λst σ=>σ=⟨[(3,.I f),lk_ 8,(9,.L 18),(10,.I st.1)],[(8,.var [.Y,.Y,.b false]),(16,.map (QC V.s V.I st.2.2.2.2.2.2.2.2.1)),(18,.var [.sl 7 (st.2.1.map Qr),.sl 3 (st.2.2.1.map Qq),.sl 14 (st.2.2.2.1.map Qh),.I st.2.2.2.2.1,.I st.2.2.2.2.2.1,.I st.2.2.2.2.2.2.1,.map 16,.own 609 st.2.2.2.2.2.2.2.2.2.1.length,.own 610 st.2.2.2.2.2.2.2.2.2.2.length,.b st.2.2.2.2.2.2.2.1]),(609,.arr 1 (st.2.2.2.2.2.2.2.2.2.1.map Qt)),(610,.arr 6 (st.2.2.2.2.2.2.2.2.2.2.map QR))]⟩) (λq e σ=>e=.exit 0/\σ=⟨[lk_ 8,(9,.L 18)],[(8,.var [.Y,.Y,.b false]),(16,.map (QC V.s V.I q.2.2.2.2.2.2.2.1)),(18,.var [.sl 7 (q.1.map Qr),.sl 3 (q.2.1.map Qq),.sl 14 (q.2.2.1.map Qh),.I q.2.2.2.1,.I q.2.2.2.2.1,.I q.2.2.2.2.2.1,.map 16,.own 609 q.2.2.2.2.2.2.2.2.1.length,.own 610 q.2.2.2.2.2.2.2.2.2.length,.b q.2.2.2.2.2.2.1]),(609,.arr 1 (q.2.2.2.2.2.2.2.2.1.map Qt)),(610,.arr 6 (q.2.2.2.2.2.2.2.2.2.map QR))]⟩) a3 rfl ?_ ?_
 ·rintro ⟨at_11,b0,b1,b2,b3,b4,b5,c7,c8,b6,b7⟩ o σ rfl h
  refine tg_ j [13] ?_
  refine bq_ j h [.T,2] rfl (λl h=>?_) [.F,2,.K [8,9] [8,16,18,609,610]] rfl λl h=>?_
  ·refine AK.meet (λσ=>∃x:(L_ QL),∃y:(L_ QP),∃z:(L_ QH),∃D:Int,∃N:Int,∃P:Int,∃S:Bool,∃a0:(L_ (ByteArray×Int)),∃p:(L_ QMk),∃t:(L_ QW),σ=⟨[(3,.I f),lk_ 8,(9,.L 18),(10,.I at_11)],[(8,.var [.Y,.Y,.b false]),(16,.map (QC V.s V.I a0)),(18,.var [.sl 7 (x.map Qr),.sl 3 (y.map Qq),.sl 14 (z.map Qh),.I D,.I N,.I P,.map 16,.own 609 p.length,.own 610 t.length,.b S]),(609,.arr 1 (p.map Qt)),(610,.arr 6 (t.map QR))]⟩/\Az at_11 x y z D N P S a0 p t=some o) ?_ ?_
   ·obtain⟨b8,u,h⟩:=Qz h
    obtain⟨b9,a4,h⟩:=Qz h
    refine Qp j [11,.o (.row (Qt b8)),.o (.C1 (.I b9)),4] Z (a3_ (YJ u Z) (XT (Jf u).2) (VD _ _ a4)) ?_
    rcases XS h with⟨m,h⟩|⟨m,h⟩
    ·refine Qp j [.T,7,.O 18 (.var [.sl 7 (b0.map Qr),.sl 3 (b1.map Qq),.sl 14 (b2.map Qh),.I b3,.I b4,.I b5,.map 16,.own 609 b6.length,.own 610 b7.length,.b false]),5,.K [3,8,9,10] [8,16,18,609,610]] Z (a2_ m Z) ?_
     exact AK.met (ex_ _ (ex_ _ (ex_ _ (ex_ _ (ex_ _ (ex_ _ (ex_ _ (ex_ _ (ex_ _ (ex_ _ (an_ Z h)))))))))))
    obtain⟨g,a5,h⟩:=Qz h
    refine Qp j [.F,5,.cm (.fn) [(618,18),(619,16),(616,609),(617,610)] [(609,616),(610,617),(18,618),(16,619)] [609,610] [.d,.d] [(616,.arr 1 (g.1.map Qt)),(617,.arr 6 (g.2.1.map QR)),(618,.var [.sl 7 (g.2.2.1.map Qr),.sl 3 (g.2.2.2.1.map Qq),.sl 14 (g.2.2.2.2.1.map Qh),.I g.2.2.2.2.2.1,.I g.2.2.2.2.2.2.1,.I g.2.2.2.2.2.2.2.1,.map 619,.own 616 g.1.length,.own 617 g.2.1.length,.b g.2.2.2.2.2.2.2.2.1]),(619,.map (QC V.s V.I g.2.2.2.2.2.2.2.2.2))] (.tup []),2,.K [3,8,9,10] [8,16,18,609,610]] Z (a2_ m (SB _ _ _ _ _ _ _ _ _ _ _ _ a5)) ?_
    exact AK.met (ex_ _ (ex_ _ (ex_ _ (ex_ _ (ex_ _ (ex_ _ (ex_ _ (ex_ _ (ex_ _ (ex_ _ (an_ Z h)))))))))))
   rintro σ ⟨x,y,z,D,N,P,S,a0,p,t,rfl,h⟩
   refine tg_ j [5,.K [3,8,9,10] [8,16,18,609,610]] ?_
   cases h
   exact Zt Z Z
  cases h
  exact Qa1 Z (an_ Z Z)
 obtain⟨c0,c1,c2,c3,c4,c5,a6,c6,a1,a2⟩:=a9
 replace h:VQ c0 c1 c2 c3 c4 c5 a6 c6 a1 a2=some r:=h
 rintro e σ ⟨rfl,rfl⟩
 refine Qp j [9,.O 8 (.var [.own 609 a1.length,.own 610 a2.length,.b a6]),3,.frz 609 (a1.map Qt) [] [8],.frz 610 (a2.map QR) [] [8],.K [8] [8]] Z (a3_ Z (A ⟨(Jl Qc),(A U)⟩) (A ⟨(Jl Qc),U⟩)) ?_
 cases h
 exact AK.done (ex_ [_] (an_ (an_ (ex_ _ (ex_ _ (an_ Z (an_ Z (Or.inl (an_ (Qw.ag Z) (an_ (Qw.sz Z) Z))))))) U) (gives U)))
def AB (c:Qf)(a:Int)(b:Int):O_ QD:=(Dy c).bind λd=>(Ih c d a b).bind λe=>some e
def Rj (f b e):CT 12 [.agg (Qa f),.I b,.I e] [] (AB f b e) (λr=>(.agg (Qo r))) no_:=by
 refine W 13 func12 rfl λC g r h=>?_
 obtain⟨k,i,h⟩:=Qz h
 obtain⟨l,j,h⟩:=Qz h
 refine tg_ g [7,.K [1,2,3,6] [3,6]] ?_
 refine AK.draw2 Qw g mixed [.E (.agg (Qa f)),.E (.agg (Qa f)),.B (.cd false [.d] 1 (k.map Qe) k.length),.N,.N,.B (.C4 (.agg (Qo l))),.m .s] [] [] [6] [6] rfl rfl rfl ⟨⟨⟨⟨U,rfl⟩,rfl⟩,⟨(Hf _ _ i),Qc⟩⟩,(Qf6 _ _ _ _ _ j)⟩ rfl (by kernel_rfl) rfl rfl rfl ?_
 refine Qp g [.O 6 (.var (Qo l)),2,.K [6] [6]] Z (A Z) ?_
 cases h
 exact AK.done (ex_ [_] (an_ (an_ (ex_ _ (ex_ _ (an_ Z (an_ Z (Or.inl (an_ (Qw.ag Z) (an_ (Qw.sz Z) Z))))))) U) (gives U)))
def VR (a:Qf)(b:QMk):O_ Bool:=bif (0<=a.To)then bif (a.To<(b.length:Int))then (idx b a.To).bind λc=>(Ua c).bind λd=>some (decide (0<d))else some false else some false
def VS (a:Bool):O_ Bool:=some a
def WG (a:Qf)(b:QMk):O_ Bool:=(VR a b).bind (λc=>VS c)
def Hn (l g):CT 15 [.agg (Qa l),.sl 1 (g.map Qe)] [] (WG l g) V.b no_:=
 W 24 func15 Z λC a r h=>H a [7] Z<|mV_ h (λi=>⟨[(4,.b i)],[]⟩) (λi h=>H a [5] Z<|I h (λe h=>G a [.S 8 (.b true),3,.o (.ln g.length),3] Z ⟨(tc_ e),Qc⟩<|I h (λf h=>B h λm j h=>B h λp k h=>G a [.S 15 (.b true),3,.o (.row (Qe m)),1,.o (.C1 (.I p)),4] Z ⟨⟨(tc_ f),(Xd j)⟩,(Pe _ _ k)⟩<|mq_ h Z) λf h=>L a [.S 15 (.b false),10] Z f<|mq_ h Z) λe h=>L a [.S 8 (.b false),17] Z e<|mq_ h Z) λi h=>H a [2] Z<|E h Z U
def VT (a:QMk)(b:Qf):O_ Bool:=bif ((a.length:Int) != (b.Places.length:Int))then some true else (WG b a).bind λc=>some (!c)
def Ho (b:QBg)(c:Int)(a:Int):O_ (Int⊕(Unit⊕Unit)):=(Ua b).bind λd=>bif (d != a)then some (.inr (.inl ()))else some (.inl (Qi (c+1)))
def Hp (c:QMk)(d:Qf)(a:Int):O_ (Int⊕(Unit⊕Unit)):=bif (a<(c.length:Int))then (idx c a).bind λb=>bif (a==d.To)then Ho b a 1 else Ho b a 0 else some (.inr (.inr ()))
def Qf7 : O_ Bool:=some false
def Qf8 : O_ Bool:=some true
def AC (a:QMk)(b:Qf)(c:Bool):O_ Bool:=bif c then some false else (QE (λst=>Hp a b st) 0).bind (Sum.elim (λq=>Qf7) (λq=>Qf8))
def DE (a:Qf)(b:QMk):O_ Bool:=(VT b a).bind (λc=>AC b a c)
def AD (k j):CT 16 [.agg (Qa k),.sl 1 (j.map Qe)] [] (DE k j) V.b no_:=
 W 36 func16 Z λC e r h=>H e [8] Z<|mV_ h (λw=>⟨[(1,.sl 1 (j.map Qe)),lk_ 2,(19,.b w)],[(2,.var (Qa k))]⟩) (λw h=>K e [2,.o (.ln j.length),2,.o (.ln k.Places.length),2] Z Qc Qc<|I h (λl h=>L e [.S 14 (.b true),6] Z l<|mq_ h Z) λl h=>B h λz x h=>G e [.S 14 (.b false),.A (Qa k),1,.o (.C2 (.b z)),3] Z ⟨⟨(tc_ l),Z⟩,(Hn _ _ _ x)⟩<|mq_ h Z) λw h=>H e [1] Z<|I h (λm h=>J e [.T,7] Z m<|E h Z U) λm h=>K e [.F,6,.o (.ln j.length),4] Z m Qc<|lq_ h (λst=>⟨[lk_ 2,(20,.sl 1 (j.map Qe)),(21,.I (j.length:Int)),(22,.I st)],[(2,.var (Qa k))]⟩) (λq=>(.ret,⟨[(4,.b false)],[]⟩)) (λq=>(.exit 0,⟨[],[]⟩)) Z (λs o h=>H e [6] Z<|I h (λf h=>B h λp t h=>K e [.T,7,.o (.row (Qe p)),10] Z f (Xd t)<|mE_ (λa:Int=>⟨[lk_ 2,(6,.sl 2 (p.map QQ)),(7,.I a),(20,.sl 1 (j.map Qe)),(21,.I (j.length:Int)),(22,.I s)],[(2,.var (Qa k))]⟩) (λa=>Ho p s a=some o) (H e [8] Z<|I h (λg h=>J e [.T,3] Z g<|me_ h Z) λg h=>J e [.F,1] Z g<|me_ h Z) λa h=>B h λy u h=>J e [3,.o (.C1 (.I y)),4] Z (Pe _ _ u)<|I h (λi h=>J e [.T,8] Z i<|rR_ h Z) λi h=>J e [.F,7] Z i<|rN_ h Z) λf h=>J e [.F,2] Z f<|rX_ h Z) (λ_ h=>H e [2] Z<|E h Z U) (λ_ h=>H e [8] Z<|E h Z U)
def Cw (a:QV)(b:QMk):O_ Bool:=(WG a.net b).bind λc=>bif c then (DE a.net b).bind λd=>some (!d)else some false
def Rl (a:Bool):O_ Bool:=some a
def DG (a:QMk)(b:QV):O_ Bool:=(Cw b a).bind (λc=>Rl c)
def Rm (k e):CT 81 [.sl 1 (k.map Qe),.L 618] [(618,.var (Xf e))] (DG k e) V.b (λ_=>[(618,.var (Xf e))]):=
 W 15 func81 Z λC f r h=>H f [6] Z<|mV_ h (λg=>⟨[(3,.b g)],[(618,.var (Xf e))]⟩) (λg h=>B h λl i h=>K f [2,.A (Qa e.net),1,.o (.C2 (.b l)),1] Z Z (Hn _ _ _ i)<|I h (λa h=>B h λm j h=>G f [.S 8 (.b true),1,.A (Qa e.net),1,.o (.C2 (.b m)),4] Z ⟨⟨(tc_ a),Z⟩,(AD _ _ _ j)⟩<|mq_ h Z) λa h=>L f [.S 8 (.b false),8] Z a<|mq_ h Z) λg h=>H f [2] Z<|E h Z r1_
def Xz (c:(L_ QMk))(d:QV)(a:Int):O_ (Int⊕(Int⊕Unit)):=bif (a<(c.length:Int))then (idx c a).bind λe=>(DG e d).bind λb=>bif b then some (.inr (.inl a))else some (.inl (Qi (a+1)))else some (.inr (.inr ()))
def AE (a:Int):O_ Int:=some a
def AF : O_ Int:=some (-1)
def JF (a:(L_ QMk))(b:QV):O_ Int:=(QE (λst=>Xz a b st) 0).bind (Sum.elim (λq=>AE q) (λq=>AF))
def AG (g e):CT 35 [.sl 1 (g.map Qt),.clo (.func 81) [] [.L 618]] [(618,.var (Xf e))] (JF g e) V.I (λ_=>[(618,.var (Xf e))]):=
 W 19 func35 Z λC c r h=>J c [9,.o (.ln g.length),4] Z Qc<|lq_ h (λst=>⟨[(0,.sl 1 (g.map Qt)),(1,.clo (.func 81) [] [.L 618]),(7,.I (g.length:Int)),(8,.I st)],[(618,.var (Xf e))]⟩) (λq=>(.ret,⟨[(4,.I q)],[(618,.var (Xf e))]⟩)) (λq=>(.exit 0,⟨[],[(618,.var (Xf e))]⟩)) Z (λm o h=>H c [6] Z<|I h (λf h=>B h λl j h=>B h λk i h=>g3_ c [.T,15,.o (.row (Qt l)),1,.cm (.clo) [(618,618)] [(618,618)] [] [.d,.d] [(618,.var (Xf e))] (.b k),2] Z f (Xd j) (Rm _ _ _ i)<|I h (λa h=>J c [.T,9] Z a<|rR_ h Z) λa h=>J c [.F,7] Z a<|rN_ h Z) λf h=>J c [.F,2] Z f<|rX_ h Z) (λp h=>H c [2] Z<|E h Z r1_) (λ_ h=>H c [8] Z<|E h Z r1_)
def WH (a:QV):O_ Int:=(JF a.space.States a).bind λb=>some b
def Hq (a):CT 45 [.agg (Xf a)] [] (WH a) V.I no_:=
 W 8 func45 Z λC c r h=>B h λe b h=>J c [12,.cm (.fn) [(618,1)] [(1,618)] [] [.d,.d] [(618,.var (Xf a))] (.I e),4] Z (AG _ _ _ b)<|E h Z U
def Ah (a:Int)(b:QD):O_ Bool:=some ((0<=a)&&(a<(b.States.length:Int)))
def Nj (c d):CT 219 [.I c,.L 618] [(618,.var (Qo d))] (Ah c d) V.b (λ_=>[(618,.var (Qo d))]):=
 W 13 func219 Z λC e r h=>H e [6] Z<|Y ⟨[(3,.b ((0<=c)&&(c<(d.States.length:Int))))],[(618,.var (Qo d))]⟩ (H e [4] Z<|bO_ (decide (0<=c)) (λa=>G e [.S 6 (.b true),3,.o (.ln d.States.length),4,.S 3 (.b ((0<=c)&&(c<(d.States.length:Int))))] Z ⟨⟨(tc_ a),Qc⟩,(cb_ (Ju a Z))⟩<|M Z) λa=>G e [.S 6 (.b false),8,.S 3 (.b ((0<=c)&&(c<(d.States.length:Int))))] Z ⟨(tc_ a),(cb_ (WM a Z))⟩<|M Z)<|H e [2] Z<|E h Z r1_
def IU (b:Int)(a:(L_ (Int×LI_))):O_ ((Int×(L_ (Int×LI_)))⊕(L_ (Int×LI_))):=some (.inl ((Qi (b+1)),a))
def Pm (a:QW)(d:QD):O_ Bool:=(Ah a.From d).bind λb=>bif b then (Ah a.To d).bind λc=>some c else some false
def Qae (b:(L_ (Int×LI_)))(a:QW)(d:Int)(c:Bool):O_ ((Int×(L_ (Int×LI_)))⊕(L_ (Int×LI_))):=bif c then (chk (((Qs b a.To).getD []).length+([a.From]:L_ Int).length<=4294967296)).bind λ_=>IU d (XG KM b a.To (((Qs b a.To).getD [])++[a.From]))else IU d b
def IV (b:QD)(c:Int)(e:(L_ (Int×LI_))):O_ ((Int×(L_ (Int×LI_)))⊕(L_ (Int×LI_))):=bif (c<(b.Edges.length:Int))then (idx b.Edges c).bind λa=>(Pm a b).bind (λd=>Qae e a c d)else some (.inr e)
def IW (a:Int)(b:QBg)(c:LI_):O_ ((Int×QBg×LI_)⊕(QBg×LI_)):=some (.inl ((Qi (a+1)),b,c))
def IX (e:(L_ (Int×LI_)))(f:Int)(c:Int)(a:QBg)(b:LI_):O_ ((Int×QBg×LI_)⊕(QBg×LI_)):=bif (c<(((Qs e f).getD ([]:LI_)).length:Int))then (idx ((Qs e f).getD ([]:LI_)) c).bind λd=>bif (!(Qs a d).isSome)then (idx b 0).bind λg=>(chk (b.length+([d]:L_ Int).length<=4294967296)).bind λ_=>IW c (XG KM a d (Qi (((Qs a g).getD 0)+1))) (b++([d]:L_ Int))else IW c a b else some (.inr (a,b))
def Qaf (b:QBg)(a:LI_):O_ ((QBg×LI_)⊕QBg):=(chk (decide (0<=1)&&decide (1<=a.length))).bind λ_=>some (.inl (b,(a.drop 1)))
def IY (c:(L_ (Int×LI_)))(b:QBg)(a:LI_):O_ ((QBg×LI_)⊕QBg):=bif (0<(a.length:Int))then (idx a 0).bind λd=>(QE (λst=>IX c d st.1 st.2.1 st.2.2) (0,b,a)).bind (λq=>Qaf q.1 q.2)else some (.inr b)
def Qhf (a:QBg):O_ QBg:=some a
def VU (b:Int)(a:(L_ (Int×LI_))):O_ QBg:=(QE (λst=>IY a st.1 st.2) ((XG KM ([]:QBg) b 0),([b]:L_ Int))).bind (λq=>Qhf q)
def PQ (a:QD)(b:Int):O_ QBg:=(Ah b a).bind λc=>bif (!c)then some ([]:QBg)else (QE (λst=>IV a st.1 st.2) (0,([]:(L_ (Int×LI_))))).bind (λq=>VU b q)
def Qhg (t k2):CT 147 [.agg (Qo t),.I k2] [] (PQ t k2) (λ_=>(.map 602)) (λr=>[(602,.map (QC V.I V.I r))]):=
 W 93 func147 Z λC g r h=>B h λx5 c1 h=>K g [15,.O 16 (.map (QC V.I V.I ([]:QBg))),8,.cm (.clo) [(618,2)] [(2,618)] [] [.d,.d] [(618,.var (Qo t))] (.b x5),3] Z Z (Nj _ _ _ c1)<|I h (λb0 h=>J g [.T,8,.K [4] [16],.ren 16 602] Z b0<|E h Z r1_) λb0 h=>g4_ g [.F,4,.x (λσ=>(σ.set 22 (.grp 1 [] none)).put 22 (.map 22)),.O 22 (.grp 1 (CC V.I Qb ([]:(L_ (Int×LI_)))) none),8,.o (.ln t.Edges.length),4] Z b0 (Stp.makeGrp 1 Z Z (QU g.n Z) Z) Z Qc<|lp_ h (λst=>⟨[(1,.I k2),(5,.clo (.func 219) [] [.L 2]),(6,.map 16),(7,.map 22),(24,.sl 6 (t.Edges.map QR)),(25,.I (t.Edges.length:Int)),(26,.I st.1)],[(2,.var (Qo t)),(16,.map (QC V.I V.I ([]:QBg))),(22,.grp 1 (CC V.I Qb st.2) none)]⟩) (λq=>(.exit 0,⟨[(1,.I k2),(6,.map 16),(7,.map 22)],[(16,.map (QC V.I V.I ([]:QBg))),(22,.grp 1 (CC V.I Qb q) none)]⟩)) Z (λ⟨x8,w⟩ o h=>H g [6] Z<|I h (λy h=>J g [.T,2] Z y<|mE_ (λa5:(L_ (Int×LI_))=>⟨[(1,.I k2),(5,.clo (.func 219) [] [.L 2]),(6,.map 16),(7,.map 22),(24,.sl 6 (t.Edges.map QR)),(25,.I (t.Edges.length:Int)),(26,.I x8)],[(2,.var (Qo t)),(16,.map (QC V.I V.I ([]:QBg))),(22,.grp 1 (CC V.I Qb a5) none)]⟩) (λa5=>IU x8 a5=some o) (B h λc b2 h=>g3_ g [3,.o (.row (QR c)),.A (QR c),2,.O 9 (.var (QR c)),3] Z (Xd b2) Z Z<|mV_ h (λb1=>⟨[(1,.I k2),(5,.clo (.func 219) [] [.L 2]),(6,.map 16),(7,.map 22),lk_ 9,(24,.sl 6 (t.Edges.map QR)),(25,.I (t.Edges.length:Int)),(26,.I x8),(39,.b b1)],[(2,.var (Qo t)),(9,.var (QR c)),(16,.map (QC V.I V.I ([]:QBg))),(22,.grp 1 (CC V.I Qb w) none)]⟩) (λb1 h=>B h λc2 b3 h=>J g [4,.cm (.clo) [(618,2)] [(2,618)] [] [.d,.d] [(618,.var (Qo t))] (.b c2),1] Z (Nj _ _ _ b3)<|I h (λD h=>B h λc3 b4 h=>G g [.S 34 (.b true),3,.cm (.clo) [(618,2)] [(2,618)] [] [.d,.d] [(618,.var (Qo t))] (.b c3),2] Z ⟨(tc_ D),(Nj _ _ _ b4)⟩<|mq_ h Z) λD h=>L g [.S 34 (.b false),6] Z D<|mq_ h Z) λb1 h=>H g [1] Z<|I h (λP h=>X h λb5 h=>G g [.T] Z (A P) <| 
  dr_ g [.a .no none true,.a .no none true,.a .no none true,.N,.N,.N,.m (.any ⟨[46],[(46,.arr 1 (((Qs w c.To).getD []).map Qb)),(22,.grp 1 (CC V.I Qb w) (some (V.I c.To)))],some (46,.own 46 ((Qs w c.To).getD []).length)⟩),.a .no none true,.a .no none true,.a (.bd []) (some ([],.sl 1 (([c.From]:L_ Int).map Qb))) true,.m (.app ((((Qs w c.To).getD [])++[c.From]).map Qb) (((Qs w c.To).getD [])++[c.From]).length),.m (.any ⟨[46],[(22,.grp 1 (CC V.I Qb (XG KM w c.To (((Qs w c.To).getD [])++[c.From]))) none)],none⟩)] [1,5,6,7,9,24,25,26] [2,9,16] [1,5,6,7,24,25,26] [2,16,22] Z Z (a4_ (λσ u h2=>Stp.lookupOutT (e:=V.I) (f:=Qb) (l:=w) (k:=c.To) Z Z (QU g.n Z) (u _ _ Z) (h2 _ _ Z) (u _ _ Z) ZX KN QnV Z Z Z Z Z) Z ⟨Qc,Ja b5 Qc,Ya,Jr Qc⟩ (λσ u h2=>Stp.updateBackT (e:=V.I) (f:=Qb) (l:=w) (k:=c.To) (((Qs w c.To).getD [])++[c.From]) KM Z Z (u _ _ Z) (h2 _ _ Z) (u _ _ Z) (u _ _ Z) (h2 _ _ Z) ZX KN Z Z Z Z Z (by simp))) Z <|
  H g [1] Z<|me_ h Z) λP h=>J g [.F,2] Z P<|me_ h Z) λa5 h=>H g [4] Z<|rN_ h Z) λy h=>J g [.F,2] Z y<|rX_ h Z) λi h=>g3_ g [6,.x (λσ=>σ.set 16 (.map (QC V.I V.I (XG KM ([]:QBg) k2 0)))),7,.O 55 (.arr 1 (([k2]:L_ Int).map Qb)),.S 55 (.own 55 ([k2]:L_ Int).length),4] Z (Stp.mapUpdate (e:=V.I) (f:=V.I) (l:=([]:QBg)) (k:=k2) (v:=0) KM Z Z Z Z Z Z HS KN Z) Z Z<|AK.grpMap (b:=22) (e:=V.I) (f:=Qb) (l:=i) KN Z Z<|J g [.O 22 (.map (QC V.I (λx=>V.sl 1 (x.map Qb)) i))] Z Z<|lp_ h (λst=>⟨[(6,.map 16),(7,.map 22),(10,.own 55 st.2.length)],[(16,.map (QC V.I V.I st.1)),(22,.map (QC V.I (λx=>V.sl 1 (x.map Qb)) i)),(55,.arr 1 (st.2.map Qb))]⟩) (λq=>(.exit 2,⟨[(6,.map 16)],[(16,.map (QC V.I V.I q))]⟩)) Z (λ⟨c4,c5⟩ o h=>H g [8] Z<|I h (λa0 h=>B h λs a7 h=>G g [.T,9,.o (.row (Qb s)),.o (.any (.sl 1 (((Qs i s).getD ([]:LI_)).map Qb)) none),.o (.ln ((Qs i s).getD ([]:LI_)).length),4] Z (a5_ a0 (YJ a7 Z) (XT (Jf a7).2) (λσ u h2 _=>Stp.lookup (e:=V.I) (f:=(λx=>V.sl 1 (x.map Qb))) (l:=i) (k:=s) (z:=([]:LI_)) Z Z (QU g.n Z) (u _ _ Z) (h2 _ _ Z) (u _ _ Z) ZX KN QnW Z) Qc)<|lp_ h (λst=>⟨[(6,.map 16),(7,.map 22),(10,.own 55 st.2.2.length),(65,.sl 1 (((Qs i s).getD ([]:LI_)).map Qb)),(66,.I (((Qs i s).getD ([]:LI_)).length:Int)),(67,.I st.1)],[(16,.map (QC V.I V.I st.2.1)),(22,.map (QC V.I (λx=>V.sl 1 (x.map Qb)) i)),(55,.arr 1 (st.2.2.map Qb))]⟩) (λq=>(.exit 4,⟨[(6,.map 16),(7,.map 22),(10,.own 55 q.2.length)],[(16,.map (QC V.I V.I q.1)),(22,.map (QC V.I (λx=>V.sl 1 (x.map Qb)) i)),(55,.arr 1 (q.2.map Qb))]⟩)) Z (λ⟨b6,j,b7⟩ o h=>H g [6] Z<|I h (λa1 h=>J g [.T,2] Z a1<|mF_ (λ(a6:QBg) (a2:LI_)=>⟨[(6,.map 16),(7,.map 22),(10,.own 55 a2.length),(65,.sl 1 (((Qs i s).getD ([]:LI_)).map Qb)),(66,.I (((Qs i s).getD ([]:LI_)).length:Int)),(67,.I b6)],[(16,.map (QC V.I V.I a6)),(22,.map (QC V.I (λx=>V.sl 1 (x.map Qb)) i)),(55,.arr 1 (a2.map Qb))]⟩) (λa6 a2=>IW b6 a6 a2=some o) (B h λp b8 h=>K g [3,.o (.row (Qb p)),8,.o (.any (.tup [.I ((Qs j p).getD 0),.b (Qs j p).isSome]) none),13] Z (Xd b8) (λσ u h2 _=>Stp.lookupOk (e:=V.I) (f:=V.I) (l:=j) (k:=p) (z:=0) Z Z (QU g.n Z) (u _ _ Z) (h2 _ _ Z) (u _ _ Z) HS KN Ls Z Z)<|I h (λa3 h=>B h λa4 a8 h=>X h λb9 h=>G g [.T,7,.o (.row (Qb a4)),.o (.any (.I ((Qs j a4).getD 0)) none),1,.x (λσ=>σ.set 16 (.map (QC V.I V.I (XG KM j p (Qi (((Qs j a4).getD 0)+1)))))),5,.v (.bd []) [] (.sl 1 (([p]:L_ Int).map Qb)),.app ((b7++([p]:L_ Int)).map Qb) (b7++([p]:L_ Int)).length,3] Z (a7_ a3 (YJ a8 Z) (XT (Jf a8).2) (λσ u h2 _=>Stp.lookup (e:=V.I) (f:=V.I) (l:=j) (k:=a4) (z:=0) Z Z (QU g.n Z) (u _ _ Z) (h2 _ _ Z) (u _ _ Z) HS KN Ls Z) (Stp.mapUpdate (e:=V.I) (f:=V.I) (l:=j) (k:=p) (v:=(Qi (((Qs j a4).getD 0)+1))) KM Z Z Z Z Z Z HS KN Z) Z ⟨Qc,Ja b9 Qc,Ya,Jr Qc⟩)<|mf_ h Z) λa3 h=>J g [.F,2] Z a3<|mf_ h Z) λa6 a2 h=>H g [4] Z<|rN_ h Z) λa1 h=>J g [.F,2] Z a1<|rX_ h Z) λ⟨c6,c0⟩ h=>X h λa9 h=>J g [5,.x (λσ=>σ.app 55 1 60 (c0.drop 1).length ((c0.drop 1).map Qb)),2] Z (Stp.sliceT Z Z (QU g.n Z) Z Z Z (Qw.es Z) (EX.val Z (Xw (SX a9)) Z) (EX.none_ Z) (QlI (HO a9)) (Jp _) Qps Qpt)<|rN_ h Z) λa0 h=>J g [.F,2] Z a0<|rX_ h Z) λc7 h=>H g [9,.K [4] [16],.ren 16 602] Z<|E h Z r1_
def IZ (b:Int)(a:LI_):O_ ((Int×LI_)⊕LI_):=some (.inl ((Qi (b+1)),a))
def Pn (d:QD)(e:Int)(a:Int)(b:LI_):O_ ((Int×LI_)⊕LI_):=bif (a<(d.Edges.length:Int))then (idx d.Edges a).bind λc=>bif (c.From==e)then (chk (b.length+([a]:L_ Int).length<=4294967296)).bind λ_=>IZ a (b++([a]:L_ Int))else IZ a b else some (.inr b)
def Qhh (a:LI_):O_ LI_:=some a
def Md (a:QD)(b:Int):O_ LI_:=(QE (λst=>Pn a b st.1 st.2) (0,([]:L_ Int))).bind (λq=>Qhh q)
def Qag (e k):CT 19 [.agg (Qo e),.I k] [] (Md e k) (λr=>(.own 600 r.length)) (λr=>[(600,.arr 1 (r.map Qb))]):=
 W 26 func19 Z λC d r h=>g3_ d [16,.o (.ln e.Edges.length),4,.adopt 5 20 1,.O 20 (.arr 1 (([]:L_ Int).map Qb)),.S 5 (.own 20 ([]:L_ Int).length)] Z Qc Z (congrArg (λn=>V.own 20 n) (by simp))<|lp_ h (λst=>⟨[(1,.I k),(5,.own 20 st.2.length),(9,.sl 6 (e.Edges.map QR)),(10,.I (e.Edges.length:Int)),(11,.I st.1)],[(20,.arr 1 (st.2.map Qb))]⟩) (λq=>(.exit 0,⟨[(5,.own 20 q.length)],[(20,.arr 1 (q.map Qb))]⟩)) Z (λ⟨g,l⟩ o h=>H d [6] Z<|I h (λa h=>J d [.T,2] Z a<|mE_ (λb:LI_=>⟨[(1,.I k),(5,.own 20 b.length),(9,.sl 6 (e.Edges.map QR)),(10,.I (e.Edges.length:Int)),(11,.I g)],[(20,.arr 1 (b.map Qb))]⟩) (λb=>IZ g b=some o) (B h λf i h=>g3_ d [4,.o (.row (QR f)),.A (QR f),3,.O 7 (.var (QR f)),10] Z (Xd i) Z Z<|I h (λc h=>X h λj h=>g3_ d [.T,3,.v (.bd []) [] (.sl 1 (([g]:L_ Int).map Qb)),.app ((l++([g]:L_ Int)).map Qb) (l++([g]:L_ Int)).length,3] Z c Z ⟨Qc,Ja j Qc,Ya,Jr Qc⟩<|me_ h Z) λc h=>J d [.F,2] Z c<|me_ h Z) λb h=>H d [4] Z<|rN_ h Z) λa h=>J d [.F,2] Z a<|rX_ h Z) λm h=>H d [9,.K [4] [20],.ren 20 600] Z<|E h Z r1_
def Po (c:Int)(a:QBg)(d:QD)(e:Int):O_ Bool:=(idx d.Edges c).bind λb=>some ((Qs a b.To).isSome&&(((Qs a b.To).getD 0)==(Qi (((Qs a e).getD 0)-1))))
def Qd3 (t c p i):CT 148 [.I t,.L 618,.L 620,.L 621] [(618,.var [.map 619]),(619,.map (QC V.I V.I c)),(620,.var (Qo p)),(621,.var (Qb i))] (Po t c p i) V.b (λ_=>[(618,.var [.map 619]),(619,.map (QC V.I V.I c)),(620,.var (Qo p)),(621,.var (Qb i))]):=by
 refine W 28 func148 rfl λC j r h=>?_
 obtain⟨d,q,h⟩:=Qz h
 refine tg_ j [6,.K [0,1,2,3] [618,619,620,621]] ?_
 refine AK.draw2 Qw j mixed [.N,.N,.N,.N,.B (.row (QR d)),.N,.N,.B (.any (.tup [.I ((Qs c d.To).getD 0),.b (Qs c d.To).isSome]) none),.N,.N,.N,.N,.N] [] [] [1,3,6,7] [618,619,620,621] rfl rfl rfl ⟨⟨U,(Xd q)⟩,(λσ m s _=>Stp.lookupOk (e:=V.I) (f:=V.I) (l:=c) (k:=d.To) (z:=0) rfl rfl (QU j.n rfl) (m _ _ rfl) (s _ _ rfl) (m _ _ rfl) HS KN Ls rfl rfl)⟩ rfl (by kernel_rfl) rfl rfl rfl ?_
 refine tg_ j [2] ?_
 refine AK.meetX (λσ=>σ=⟨[(5,.b ((Qs c d.To).isSome&&(((Qs c d.To).getD 0)==(Qi (((Qs c i).getD 0)-1)))))],[(618,.var [.map 619]),(619,.map (QC V.I V.I c)),(620,.var (Qo p)),(621,.var (Qb i))]⟩) ?_ ?_
 ·refine tg_ j [3] ?_
  rcases QoC (Qs c d.To).isSome with g | g
  ·exact G j [.S 20 (.b true),3,.o (.any (.I ((Qs c i).getD 0)) none),5,.S 5 (.b ((Qs c d.To).isSome&&(((Qs c d.To).getD 0)==(Qi (((Qs c i).getD 0)-1)))))] Z ⟨⟨(tc_ g),(λσ m s _=>Stp.lookup (e:=V.I) (f:=V.I) (l:=c) (k:=i) (z:=0) Z Z (QU j.n Z) (m _ _ Z) (s _ _ Z) (m _ _ Z) HS KN Ls Z)⟩,(cb_ (Ju g Z))⟩<|M Z
  exact G j [.S 20 (.b false),9,.S 5 (.b ((Qs c d.To).isSome&&(((Qs c d.To).getD 0)==(Qi (((Qs c i).getD 0)-1)))))] Z ⟨(tc_ g),(cb_ (WM g Z))⟩<|M Z
 rintro σ rfl
 exact H j [2] Z<|E h Z r4_
def WQ (d:LI_)(e:QBg)(f:QD)(g:Int)(a:Int):O_ (Int⊕(Int⊕Unit)):=bif (a<(d.length:Int))then (idx d a).bind λb=>(Po b e f g).bind λc=>bif c then some (.inr (.inl a))else some (.inl (Qi (a+1)))else some (.inr (.inr ()))
def Nk (a:Int):O_ Int:=some a
def Nl : O_ Int:=some (-1)
def KH (a:LI_)(b:QBg)(c:QD)(d:Int):O_ Int:=(QE (λst=>WQ a b c d st) 0).bind (Sum.elim (λq=>Nk q) (λq=>Nl))
def Nm (j f g i):CT 149 [.sl 1 (j.map Qb),.clo (.func 148) [] [.L 618,.L 620,.L 621]] [(618,.var [.map 619]),(619,.map (QC V.I V.I f)),(620,.var (Qo g)),(621,.var (Qb i))] (KH j f g i) V.I (λ_=>[(618,.var [.map 619]),(619,.map (QC V.I V.I f)),(620,.var (Qo g)),(621,.var (Qb i))]):=
 W 19 func149 Z λC e r h=>J e [9,.o (.ln j.length),4] Z Qc<|lq_ h (λst=>⟨[(0,.sl 1 (j.map Qb)),(1,.clo (.func 148) [] [.L 618,.L 620,.L 621]),(7,.I (j.length:Int)),(8,.I st)],[(618,.var [.map 619]),(619,.map (QC V.I V.I f)),(620,.var (Qo g)),(621,.var (Qb i))]⟩) (λq=>(.ret,⟨[(4,.I q)],[(618,.var [.map 619]),(619,.map (QC V.I V.I f)),(620,.var (Qo g)),(621,.var (Qb i))]⟩)) (λq=>(.exit 0,⟨[],[(618,.var [.map 619]),(619,.map (QC V.I V.I f)),(620,.var (Qo g)),(621,.var (Qb i))]⟩)) Z (λs o h=>H e [6] Z<|I h (λa h=>B h λm k h=>B h λp l h=>g3_ e [.T,15,.o (.row (Qb m)),1,.cm (.clo) [(618,618),(619,619),(620,620),(621,621)] [(618,618),(619,619),(620,620),(621,621)] [] [.d,.d,.d,.d] [(618,.var [.map 619]),(619,.map (QC V.I V.I f)),(620,.var (Qo g)),(621,.var (Qb i))] (.b p),2] Z a (Xd k) (Qd3 _ _ _ _ _ l)<|I h (λc h=>J e [.T,9] Z c<|rR_ h Z) λc h=>J e [.F,7] Z c<|rN_ h Z) λa h=>J e [.F,2] Z a<|rX_ h Z) (λt h=>H e [2] Z<|E h Z r4_) (λ_ h=>H e [8] Z<|E h Z r4_)
def Ol (g:QBg)(d:QD)(a:(L_ Qk))(h:Int):O_ (((L_ Qk)×Int)⊕(L_ Qk)):=bif (0<((Qs g h).getD 0))then (Md d h).bind λc=>(KH c g d h).bind λe=>(idx c e).bind λf=>(idx d.Edges f).bind λb=>(chk (a.length+([b.Mode]:L_ Qk).length<=4294967296)).bind λ_=>some (.inl ((a++[b.Mode]),b.To))else some (.inr a)
def Qf9 (a:(L_ Qk)):O_ (L_ Qk):=some a
def KU (a:QD)(c:Int):O_ (L_ Qk):=(PQ a c).bind λb=>bif (!(Qs b 0).isSome)then some ([]:L_ Qk)else (QE (λst=>Ol b a st.1 st.2) (([]:L_ Qk),0)).bind (λq=>Qf9 q)
def VV (x k2):CT 88 [.agg (Qo x),.I k2] [] (KU x k2) (λr=>(.own 600 r.length)) (λr=>[(600,.arr 4 (r.map Qj))]):=
 W 50 func88 Z λC g r h=>B h λj a4 h=>g4_ g [8,.A (Qo x),1,.cm (.fn) [] [(15,602)] [] [.d,.d] [(602,.map (QC V.I V.I j))] (.map 602),2,.O 5 (.var [.map 15]),6,.o (.any (.tup [.I ((Qs j 0).getD 0),.b (Qs j 0).isSome]) none),13] Z Z (Qhg _ _ _ a4) Z (λσ t y _=>Stp.lookupOk (e:=V.I) (f:=V.I) (l:=j) (k:=0) (z:=0) Z Z (QU g.n Z) (t _ _ Z) (y _ _ Z) (t _ _ Z) HS KN Ls Z Z)<|I h (λu h=>g3_ g [.T,7,.adopt 4 600 4,.O 600 (.arr 4 (([]:L_ Qk).map Qj)),.S 4 (.own 600 ([]:L_ Qk).length)] Z u Z Z<|E h Z r1_) λu h=>g4_ g [.F,12,.O 9 (.var (Qb 0)),3,.adopt 8 8 4,.O 8 (.arr 4 (([]:L_ Qk).map Qj)),.S 8 (.own 8 ([]:L_ Qk).length)] Z u Z Z (congrArg (λn=>V.own 8 n) (by simp))<|lp_ h (λst=>⟨[lk_ 2,lk_ 5,(8,.own 8 st.1.length),lk_ 9],[(2,.var (Qo x)),(5,.var [.map 15]),(8,.arr 4 (st.1.map Qj)),(9,.var (Qb st.2)),(15,.map (QC V.I V.I j))]⟩) (λq=>(.exit 0,⟨[(8,.own 8 q.length)],[(8,.arr 4 (q.map Qj))]⟩)) Z (λ⟨p,at_8⟩ o h=>J g [5,.o (.any (.I ((Qs j at_8).getD 0)) none),3] Z (λσ t y _=>Stp.lookup (e:=V.I) (f:=V.I) (l:=j) (k:=at_8) (z:=0) Z Z (QU g.n Z) (t _ _ Z) (y _ _ Z) (t _ _ Z) HS KN Ls Z)<|I h (λi h=>B h λw D h=>B h λP a0 h=>B h λa5 a1 h=>B h λc a2 h=>G g [.T,12,.A (Qo x),1,.o (.co false [.d,.d] 1 (w.map Qb) w.length),4,.frz 30 (w.map Qb) [11,30] []] Z (a4_ i Z ⟨(Qag _ _ _ D),Qc,.inl Z⟩ (a2_ (Jl Qc) (Jl Qc))) <| 
  dr_ g [.N,.N,.N,.N,.N,.B (.any (.I P) none),.B (.row (Qb a5)),.N,.B (.row (QR c)),.E (.agg (QR c)),.N,.m .s] [] [] [2,5,8,9,12] [2,5,8,9,12,15] Z Z (a4_ (λσ t y _=>Stp.callSame (md:=.cm (.fn) [(618,5),(619,15),(620,2),(621,9)] [(5,618),(15,619),(2,620),(9,621)] [] [.d,.d] [(618,.var [.map 619]),(619,.map (QC V.I V.I j)),(620,.var (Qo x)),(621,.var (Qb at_8))] (.I P) [5,15,2,9]) Qw g t y Z (a2_ (Nm _ _ _ _ _ a0) r4_)) (Xd a1) (Xd a2) Z) Z <|
  X h λa3 h=>G g [.O 12 (.var (QR c)),1] Z (A Z) <| 
  dr_ g [.N,.N,.E (.agg (Qj c.Mode)),.a (.bd []) (some ([],.sl 4 (([c.Mode]:L_ Qk).map Qj))) false,.m (.app ((p++[c.Mode]).map Qj) (p++[c.Mode]).length),.a .no none true,.a .no none true,.m .s,.m .s] [2,5,9,12] [2,5,9,12,15] [2,5,8,9] [2,5,8,9,15] Z Z (a3_ Z Z ⟨Qc,Ja a3 Qc,Ya,Jr Qc⟩) Z <|
  K g [.O 9 (.var (Qb c.To)),8,.kill 9,2,.O 9 (.var (Qb c.To)),1] Z Z Z<|rN_ h Z) λi h=>J g [.F,2] Z i<|rX_ h Z) λa6 h=>H g [9,.K [4] [8],.ren 8 600] Z<|E h Z r1_
def AH (a:QV):O_ (Bool×Xp):=(WH a).bind λb=>bif (b<0)then some (true,(Xp.mk 0 0 0 ([]:(L_ Qk))))else (KU a.space b).bind λc=>some (false,(Xp.mk 2 1 0 c))
def Qah (f):CT 50 [.agg (Xf f)] [] (AH f) (λr=>(.tup [.agg (QG r.2),.b r.1])) no_:=by
 refine W 15 func50 rfl λC g r h=>?_
 obtain⟨k,i,h⟩:=Qz h
 refine Qp g [9,.A (Xf f),.o (.C1 (.I k)),10] Z (a2_ Z (Hq _ _ i)) ?_
 rcases XS h with⟨a,h⟩|⟨a,h⟩
 ·refine Qp g [.T,2,.v .no [none,none,none,some 4] (.agg (QG (Xp.mk 0 0 0 ([]:(L_ Qk))))),1,.O 2 (.var (QG (Xp.mk 0 0 0 ([]:(L_ Qk))))),5,.K [2,3] [2]] Z (a3_ a Z Z) ?_
  cases h
  exact AK.done (ex_ [_,_] (an_ (an_ (ex_ _ (ex_ _ (an_ Z (an_ Z (Or.inl (an_ (Qw.ag Z) (an_ (Qw.sz Z) Z))))))) (an_ Z U)) (gives U)))
 obtain⟨e,j,h⟩:=Qz h
 refine Qp g [.F,5,.A (Qo f.space),1,.o (.co false [.d,.d] 4 (e.map Qj) e.length),.A [.I 2,.I 1,.I 0,.own 13 e.length],1,.O 2 (.var [.I 2,.I 1,.I 0,.own 13 e.length]),4,.frz 13 (e.map Qj) [] [2],.K [2,3] [2]] Z (a6_ a Z ⟨(VV _ _ _ j),Qc,.inl Z⟩ Z Z (A ⟨(Jl Qc),U⟩)) ?_
 cases h
 exact AK.done (ex_ [_,_] (an_ (an_ (ex_ _ (ex_ _ (an_ Z (an_ Z (Or.inl (an_ (Qw.ag Z) (an_ (Qw.sz Z) Z))))))) (an_ Z U)) (gives U)))
def Hr (b:Int)(a:LI_):O_ ((Int×LI_)⊕LI_):=some (.inl ((Qi (b+1)),a))
def Om (e:QD)(f:Qf)(a:Int)(b:LI_):O_ ((Int×LI_)⊕LI_):=bif (a<(e.States.length:Int))then (idx e.States a).bind λc=>(DE f c).bind λd=>bif d then (chk (b.length+([a]:L_ Int).length<=4294967296)).bind λ_=>Hr a (b++([a]:L_ Int))else Hr a b else some (.inr b)
def Qga (a:LI_):O_ LI_:=some a
def On (a:Qf)(b:QD):O_ LI_:=(QE (λst=>Om b a st.1 st.2) (0,([]:L_ Int))).bind (λq=>Qga q)
def Qgb (j i):CT 69 [.agg (Qa j),.agg (Qo i)] [] (On j i) (λr=>(.own 600 r.length)) (λr=>[(600,.arr 1 (r.map Qb))]):=
 W 25 func69 Z λC g r h=>g3_ g [17,.o (.ln i.States.length),4,.adopt 5 19 1,.O 19 (.arr 1 (([]:L_ Int).map Qb)),.S 5 (.own 19 ([]:L_ Int).length)] Z Qc Z (congrArg (λn=>V.own 19 n) (by simp))<|lp_ h (λst=>⟨[lk_ 2,(5,.own 19 st.2.length),(9,.sl 1 (i.States.map Qt)),(10,.I (i.States.length:Int)),(11,.I st.1)],[(2,.var (Qa j)),(19,.arr 1 (st.2.map Qb))]⟩) (λq=>(.exit 0,⟨[(5,.own 19 q.length)],[(19,.arr 1 (q.map Qb))]⟩)) Z (λ⟨k,u⟩ o h=>H g [6] Z<|I h (λa h=>J g [.T,2] Z a<|mE_ (λe:LI_=>⟨[lk_ 2,(5,.own 19 e.length),(9,.sl 1 (i.States.map Qt)),(10,.I (i.States.length:Int)),(11,.I k)],[(2,.var (Qa j)),(19,.arr 1 (e.map Qb))]⟩) (λe=>Hr k e=some o) (B h λs l h=>B h λt m h=>g3_ g [4,.o (.row (Qt s)),7,.A (Qa j),1,.o (.C2 (.b t)),2] Z (Xd l) Z (AD _ _ _ m)<|I h (λf h=>X h λp h=>g3_ g [.T,3,.v (.bd []) [] (.sl 1 (([k]:L_ Int).map Qb)),.app ((u++([k]:L_ Int)).map Qb) (u++([k]:L_ Int)).length,3] Z f Z ⟨Qc,Ja p Qc,Ya,Jr Qc⟩<|me_ h Z) λf h=>J g [.F,2] Z f<|me_ h Z) λe h=>H g [4] Z<|rN_ h Z) λa h=>J g [.F,2] Z a<|rX_ h Z) λw h=>H g [9,.K [4] [19],.ren 19 600] Z<|E h Z r1_
def Cx (b:QD)(a:Int):O_ Bool:=some ((0<=a)&&(a<(b.States.length:Int)))
def Oo (d c):CT 70 [.agg (Qo d),.I c] [] (Cx d c) V.b no_:=
 W 14 func70 Z λC e r h=>H e [7] Z<|Y ⟨[(4,.b ((0<=c)&&(c<(d.States.length:Int))))],[]⟩ (H e [4] Z<|bO_ (decide (0<=c)) (λa=>G e [.S 7 (.b true),3,.o (.ln d.States.length),4,.S 4 (.b ((0<=c)&&(c<(d.States.length:Int))))] Z ⟨⟨(tc_ a),Qc⟩,(cb_ (Ju a Z))⟩<|M Z) λa=>G e [.S 7 (.b false),8,.S 4 (.b ((0<=c)&&(c<(d.States.length:Int))))] Z ⟨(tc_ a),(cb_ (WM a Z))⟩<|M Z)<|H e [2] Z<|E h Z U
def Tu (a:QD)(b:QW):O_ Bool:=(Cx a b.From).bind λc=>bif c then (Cx a b.To).bind λd=>some d else some false
def Tv (a:Bool):O_ Bool:=some a
def Fs (a:QD)(b:QW):O_ Bool:=(Tu a b).bind (λc=>Tv c)
def CK (f k):CT 73 [.agg (Qo f),.agg (QR k)] [] (Fs f k) V.b no_:=
 W 15 func73 Z λC e r h=>H e [8] Z<|mV_ h (λg=>⟨[(4,.b g)],[]⟩) (λg h=>B h λl i h=>K e [1,.A (Qo f),2,.o (.C2 (.b l)),1] Z Z (Oo _ _ _ i)<|I h (λa h=>B h λm j h=>G e [.S 9 (.b true),.A (Qo f),2,.o (.C2 (.b m)),3] Z ⟨⟨(tc_ a),Z⟩,(Oo _ _ _ j)⟩<|mq_ h Z) λa h=>L e [.S 9 (.b false),7] Z a<|mq_ h Z) λg h=>H e [2] Z<|E h Z U
def LJ (a:(L_ QA))(b:QA):O_ (L_ QA):=(chk (a.length+([b]:L_ QA).length<=4294967296)).bind λ_=>some (a++[b])
def Qbm (b c):CT 359 [.L 618,.ifc 160 (.agg (Qn c))] [(618,.var [.own 616 b.length]),(616,.arr 2 (b.map Qn))] (LJ b c) (λ_=>(.tup [])) (λr=>[(616,.arr 2 (r.map Qn)),(618,.var [.own 616 r.length])]):=by
 refine W 13 func359 rfl λC d r h=>?_
 obtain⟨e,h⟩:=Tb h
 refine tg_ d [.K [0,1] [616,618]] ?_
 refine AK.draw2 Qw d mixed [.a .no none true,.N,.N,.N,.N,.N,.a (.bd []) (some ([],.sl 2 (([c]:L_ QA).map Qn))) false,.m (.app ((b++[c]).map Qn) (b++[c]).length),.N,.m .s] [0,1] [] [] [616,618] rfl rfl rfl ⟨⟨U,rfl⟩,⟨Qc,Ja e Qc,Ya,Jr Qc⟩⟩ rfl (by kernel_rfl) rfl rfl rfl ?_
 refine Qp d [.O 618 (.var [.own 616 (b++[c]).length]),.K [] [616,618]] Z (A Z) ?_
 cases h
 refine AK.done ?_
 exact ex_ [] (an_ U (gives r2_))
def Up (a:(L_ QA)):O_ Int:=some (a.length:Int)
def OV (a):CT 111 [.own 618 a.length] [(618,.arr 2 (a.map Qn))] (Up a) V.I (λ_=>[(618,.arr 2 (a.map Qn))]):=
 W 5 func111 Z λC b r h=>H b [13] Z<|E h Z r1_
def DL (a:(L_ QA))(b:Int)(c:Int):O_ Bool:=(idx a b).bind λd=>(idx a c).bind λe=>some (decide (d.far<e.far))
def CL (e g i):CT 356 [.own 618 e.length,.I g,.I i] [(618,.arr 2 (e.map Qn))] (DL e g i) V.b (λ_=>[(618,.arr 2 (e.map Qn))]):=
 W 18 func356 Z λC f r h=>B h λj c h=>B h λk d h=>H f [6] Z <| 
  dr_ f [.N,.N,.N,.N,.B (.row (Qn j)),.N,.N,.N,.N,.B (.row (Qn k)),.N,.m .s] [] [] [6] [618] Z Z (a4_ (YJ c Z) (XT (Jf c).2) (YJ d Z) (XT (Jf d).2)) Z <|
  H f [2] Z<|E h Z r1_
def DM (a:(L_ QA))(b:Int)(c:Int):O_ (L_ QA):=(idx a c).bind λd=>(idx a b).bind λe=>(idx a b).bind λf=>(idx (a.set b.toNat d) c).bind λg=>some ((a.set b.toNat d).set c.toNat e)
def CM (b g j):CT 357 [.own 618 b.length,.I g,.I j] [(618,.arr 2 (b.map Qn))] (DM b g j) (λ_=>(.tup [])) (λr=>[(618,.arr 2 (r.map Qn))]):=by
 refine W 20 func357 rfl λC k r h=>?_
 obtain⟨i,c,h⟩:=Qz h
 obtain⟨l,d,h⟩:=Qz h
 obtain⟨n,e,h⟩:=Qz h
 obtain⟨o,f,h⟩:=Qz h
 refine tg_ k [.K [0,1,2] [618]] ?_
 refine AK.draw2 Qw k mixed [.N,.N,.a .no none true,.a .no none true,.N,.N,.N,.a (.row (Qn i)) (some ([],.agg (Qn i))) false,.N,.N,.N,.a (.row (Qn l)) (some ([],.agg (Qn l))) false,.N,.m (.st (Qn n) ((b.set g.toNat i).map Qn)),.N,.m (.st (Qn o) (((b.set g.toNat i).set j.toNat l).map Qn))] [0,1,2] [] [] [618] rfl rfl rfl ⟨⟨⟨⟨⟨⟨⟨⟨⟨⟨U,(YJ c rfl)⟩,(XT (Jf c).2)⟩,rfl⟩,(YJ d rfl)⟩,(XT (Jf d).2)⟩,rfl⟩,(YJ e rfl)⟩,⟨(XT (Jf e).2),BC rfl⟩⟩,(YJ f (by simp))⟩,⟨(XT (Jf f).2),BC rfl⟩⟩ rfl (by kernel_rfl) rfl rfl rfl ?_
 refine tg_ k [.K [] [618]] ?_
 cases h
 refine AK.done ?_
 exact ex_ [] (an_ U (gives r1_))
def Me (a:Int)(c:(L_ QA)):O_ Bool:=bif ((Qi (Int.tdiv (Qi (a-1)) 2))==a)then some true else (DL c a (Qi (Int.tdiv (Qi (a-1)) 2))).bind λb=>some (!b)
def GA (b:(L_ QA))(c:Int)(d:Bool):O_ ((Int×(L_ QA))⊕(L_ QA)):=bif d then some (.inr b)else (DM b (Qi (Int.tdiv (Qi (c-1)) 2)) c).bind λa=>(chk (a.length=b.length)).bind λ_=>some (.inl ((Qi (Int.tdiv (Qi (c-1)) 2)),a))
def GB (b:Int)(c:(L_ QA)):O_ ((Int×(L_ QA))⊕(L_ QA)):=(Me b c).bind (λa=>GA c b a)
def Mf (a:(L_ QA)):O_ (L_ QA):=some a
def UE (a:(L_ QA))(b:Int):O_ (L_ QA):=(QE (λst=>GB st.1 st.2) (b,a)).bind (λq=>Mf q)
def ZF (u w):CT 165 [.ifc 158 (.L 618),.I w] [(618,.var [.own 616 u.length]),(616,.arr 2 (u.map Qn))] (UE u w) (λ_=>(.tup [])) (λr=>[(616,.arr 2 (r.map Qn)),(618,.var [.own 616 r.length])]):=by
 refine W 23 func165 rfl λC f r h=>?_
 refine tg_ f [1,.K [0,1] [616,618]] ?_
 obtain⟨x,i,h⟩:=Qz h
 refine AK.loop (body:=(λst=>GB st.1 st.2)) (λst σ=>σ=⟨[(0,.ifc 158 (.L 618)),(1,.I st.1)],[(616,.arr 2 (st.2.map Qn)),(618,.var [.own 616 st.2.length])]⟩) (λq e σ=>e=.exit 0/\σ=⟨[],[(616,.arr 2 (q.map Qn)),(618,.var [.own 616 q.length])]⟩) i rfl ?_ ?_
 ·rintro ⟨t,j⟩ o σ rfl h
  refine Qp f [11] Z (A (by decide)) ?_
  obtain⟨g,k,h⟩:=Qz h
  replace h:GA j t g=some o:=h
  refine AK.meetX (λσ=>σ=⟨[(0,.ifc 158 (.L 618)),(1,.I t),(4,.I (Qi (Int.tdiv (Qi (t-1)) 2))),(17,.b g)],[(616,.arr 2 (j.map Qn)),(618,.var [.own 616 j.length])]⟩) ?_ ?_
  ·replace h:=k
   refine tg_ f [5] ?_
   rcases XS h with⟨a,h⟩|⟨a,h⟩
   ·refine Qp f [.S 11 (.b true),7,.K [0,1,4,17] [616,618]] Z (tc_ a) ?_
    cases h
    exact mt_
   obtain⟨v,l,h⟩:=Qz h
   refine Qp f [.S 11 (.b false),3,.cm (.mv 356 156) [(618,616)] [(616,618)] [] [.d,.d,.d] [(618,.arr 2 (j.map Qn))] (.b v),3,.K [0,1,4,17] [616,618]] Z ⟨⟨(tc_ a),Zw⟩,(CL _ _ _ _ l)⟩ ?_
   cases h
   exact mt_
  rintro σ rfl
  replace h:GA j t g=some o:=h
  refine tg_ f [1] ?_
  rcases XS h with⟨c,h⟩|⟨c,h⟩
  ·refine Qp f [.T,3,.K [] [616,618]] Z (A c) ?_
   cases h
   exact Qa1 Z (an_ Z Z)
  obtain⟨m,p,h⟩:=Qz h
  obtain⟨s,h⟩:=Tb h
  refine Qp f [.F,7,.cm (.mv 357 156) [(618,616)] [(616,618)] [] [.d,.d,.d] [(618,.arr 2 (m.map Qn))] (.tup []),.O 618 (.var [.own 616 m.length]),7,.K [0,1] [616,618]] Z (a4_ c Zx (CM _ _ _ _ p) (by simp[Xw s])) ?_
  cases h
  exact Zt Z Z
 replace h:Mf x=some r:=h
 rintro e σ ⟨rfl,rfl⟩
 refine tg_ f [1,.K [] [616,618]] ?_
 cases h
 refine AK.done ?_
 exact ex_ [] (an_ U (gives r2_))
def WZ (b:(L_ QA))(c:QA):O_ (L_ QA):=(LJ b c).bind λa=>(Up a).bind λd=>(UE a (Qi (d-1))).bind λe=>some e
def Ii (a g):CT 110 [.ifc 158 (.L 618),.ifc 160 (.agg (Qn g))] [(618,.var [.own 616 a.length]),(616,.arr 2 (a.map Qn))] (WZ a g) (λ_=>(.tup [])) (λr=>[(616,.arr 2 (r.map Qn)),(618,.var [.own 616 r.length])]):=by
 refine W 12 func110 rfl λC j r h=>?_
 obtain⟨b,c,h⟩:=Qz h
 obtain⟨k,e,h⟩:=Qz h
 obtain⟨i,f,h⟩:=Qz h
 refine Qp j [4,.cm (.me 359) [(618,618),(616,616)] [(616,616),(618,618)] [616] [.d,.d] [(616,.arr 2 (b.map Qn)),(618,.var [.own 616 b.length])] (.tup []),5,.cm (.mv 111 156) [(618,616)] [(616,618)] [] [.d] [(618,.arr 2 (b.map Qn))] (.I k),1,.cm (.fn) [(618,618),(616,616)] [(616,616),(618,618)] [616] [.d,.d] [(616,.arr 2 (i.map Qn)),(618,.var [.own 616 i.length])] (.tup []),1,.K [] [616,618]] Z (a5_ QjS (Qbm _ _ _ c) QfV (OV _ _ e) (ZF _ _ _ f)) ?_
 cases h
 refine AK.done ?_
 exact ex_ [] (an_ U (gives r2_))
def FU (a:(L_ QA)):O_ Int:=some (a.length:Int)
def ZG (a):CT 111 [.sl 2 (a.map Qn)] [] (FU a) V.I no_:=
 W 5 func111 Z λC b r h=>J b [8,.o (.ln a.length),4] Z Qc<|E h Z U
def KV (c:(L_ QA))(d:Int)(a:Int):O_ ((Int×(L_ QA))⊕(Int×(L_ QA))):=(DL c a d).bind λe=>bif (!e)then some (.inr (d,c))else (DM c d a).bind λb=>(chk (b.length=c.length)).bind λ_=>some (.inl (a,b))
def Uq (a:Int)(c:Int)(d:(L_ QA)):O_ Bool:=bif ((Qi ((Qi ((Qi (2*a))+1))+1))<c)then (DL d (Qi ((Qi ((Qi (2*a))+1))+1)) (Qi ((Qi (2*a))+1))).bind λb=>some b else some false
def KW (c:(L_ QA))(a:Int)(b:Bool):O_ ((Int×(L_ QA))⊕(Int×(L_ QA))):=bif b then KV c a (Qi ((Qi ((Qi (2*a))+1))+1))else KV c a (Qi ((Qi (2*a))+1))
def Ur (d:Int)(a:Int)(b:(L_ QA)):O_ ((Int×(L_ QA))⊕(Int×(L_ QA))):=
 bif ((d<=(Qi ((Qi (2*a))+1)))||((Qi ((Qi (2*a))+1))<0))then
 some (.inr (a,b))
 else
 (Uq a d b).bind (λc=>KW b a c)
def Tw (c:Int)(a:Int)(b:(L_ QA)):O_ (Bool×(L_ QA)):=some ((decide (c<a)),b)
def Da (b:(L_ QA))(a:Int)(c:Int):O_ (Bool×(L_ QA)):=(QE (λst=>Ur c st.1 st.2) (a,b)).bind (λq=>Tw a q.1 q.2)
def Tz (y p k):CT 166 [.ifc 158 (.L 618),.I p,.I k] [(618,.var [.own 616 y.length]),(616,.arr 2 (y.map Qn))] (Da y p k) (λr=>(.b r.1)) (λr=>[(616,.arr 2 (r.2.map Qn)),(618,.var [.own 616 r.2.length])]):=
 W 48 func166 Z λC a r h=>H a [13] Z<|lp_ h (λst=>⟨[(0,.ifc 158 (.L 618)),(1,.I p),(2,.I k),(7,.I st.1)],[(616,.arr 2 (st.2.map Qn)),(618,.var [.own 616 st.2.length])]⟩) (λq=>(.exit 0,⟨[(1,.I p),(7,.I q.1)],[(616,.arr 2 (q.2.map Qn)),(618,.var [.own 616 q.2.length])]⟩)) Z (λ⟨e,l⟩ o h=>H a [11] Z<|Y ⟨[(0,.ifc 158 (.L 618)),(1,.I p),(2,.I k),(7,.I e),(8,.I (Qi ((Qi (2*e))+1))),(21,.b ((k<=(Qi ((Qi (2*e))+1)))||((Qi ((Qi (2*e))+1))<0)))],[(616,.arr 2 (l.map Qn)),(618,.var [.own 616 l.length])]⟩ (H a [5] Z<|bO_ (decide (k<=(Qi ((Qi (2*e))+1)))) (λc=>G a [.S 18 (.b true),4,.S 21 (.b ((k<=(Qi ((Qi (2*e))+1)))||((Qi ((Qi (2*e))+1))<0)))] Z ⟨(tc_ c),(cb_ (UN c Z))⟩<|M Z) λc=>G a [.S 18 (.b false),4,.S 21 (.b ((k<=(Qi ((Qi (2*e))+1)))||((Qi ((Qi (2*e))+1))<0)))] Z ⟨(tc_ c),(cb_ (We c Z))⟩<|M Z)<|H a [1] Z<|I h (λf h=>J a [.T,3] Z f<|rX_ h Z) λf h=>J a [.F,8] Z f<|mE_ (λm:Int=>⟨[(0,.ifc 158 (.L 618)),(1,.I p),(2,.I k),(7,.I e),(9,.I m)],[(616,.arr 2 (l.map Qn)),(618,.var [.own 616 l.length])]⟩) (λm=>KV l e m=some o) (H a [8] Z<|mV_ h (λs=>⟨[(0,.ifc 158 (.L 618)),(1,.I p),(2,.I k),(7,.I e),(9,.I (Qi ((Qi (2*e))+1))),(10,.I (Qi ((Qi ((Qi (2*e))+1))+1))),(33,.b s)],[(616,.arr 2 (l.map Qn)),(618,.var [.own 616 l.length])]⟩) (λs h=>H a [5] Z<|I h (λg h=>B h λz t h=>G a [.S 28 (.b true),3,.cm (.mv 356 156) [(618,616)] [(616,618)] [] [.d,.d,.d] [(618,.arr 2 (l.map Qn))] (.b z),2] Z ⟨⟨(tc_ g),Zw⟩,(CL _ _ _ _ t)⟩<|mq_ h Z) λg h=>L a [.S 28 (.b false),6] Z g<|mq_ h Z) λs h=>H a [1] Z<|I h (λi h=>J a [.T,4] Z i<|me_ h Z) λi h=>J a [.F,1] Z i<|me_ h Z) λm h=>B h λD u h=>K a [6,.cm (.mv 356 156) [(618,616)] [(616,618)] [] [.d,.d,.d] [(618,.arr 2 (l.map Qn))] (.b D),3] Z Zw (CL _ _ _ _ u)<|I h (λj h=>J a [.T,3] Z j<|rX_ h Z) λj h=>B h λv w h=>X h λx h=>g4_ a [.F,7,.cm (.mv 357 156) [(618,616)] [(616,618)] [] [.d,.d,.d] [(618,.arr 2 (v.map Qn))] (.tup []),.O 618 (.var [.own 616 v.length]),7] Z j Zx (CM _ _ _ _ w) (by simp[Xw x])<|rN_ h Z) λ⟨N,P⟩ h=>H a [11] Z<|E h Z r2_
def Nn (a:(L_ QA)):O_ (QA×(L_ QA)):=(idx a (Qi ((a.length:Int)-1))).bind λb=>(chk (decide (0<=(Qi ((a.length:Int)-1)))&&decide ((Qi ((a.length:Int)-1)).toNat<=a.length))).bind λ_=>some (b,(a.take (Qi ((a.length:Int)-1)).toNat))
def QbX (b):CT 358 [.L 618] [(618,.var [.own 616 b.length]),(616,.arr 2 (b.map Qn))] (Nn b) (λr=>(.ifc 160 (.agg (Qn r.1)))) (λr=>[(616,.arr 2 (r.2.map Qn)),(618,.var [.own 616 r.2.length])]):=by
 refine W 27 func358 rfl λC d r h=>?_
 obtain⟨f,e,h⟩:=Qz h
 refine tg_ d [6,.K [0] [616,618]] ?_
 refine AK.draw2 Qw d mixed [.N,.N,.N,.N,.N,.N,.N,.N,.N,.a (.row (Qn f)) (some ([],.agg (Qn f))) false,.N,.m .s] [] [] [0,3] [3,616,618] rfl rfl rfl ⟨⟨⟨U,(YJ e rfl)⟩,(XT (Jf e).2)⟩,rfl⟩ rfl (by kernel_rfl) rfl rfl rfl ?_
 obtain⟨c,h⟩:=Tb h
 refine Qp d [.O 3 (.var (Qn f)),2,.K [0,3] [3,616,618]] Z (A Z) ?_
 have g:(Qi ((b.length:Int)-1)).toNat=(b.take (Qi ((b.length:Int)-1)).toNat).length:=by rw[WJ,Fe (Xw (HO c))]
 exact 
   dr_ d [.a .no none true,.N,.N,.N,.N,.N,.N,.N,.N,.m (.any ⟨[],[(616,.arr 2 ((b.take (Qi ((b.length:Int)-1)).toNat).map Qn))],some (23,.own 616 (Qi ((b.length:Int)-1)).toNat)⟩),.N,.m .s] [0,3] [3,618] [3] [3,616,618] Z Z (A (λσ i j=>Stp.sliceO Z Z (QU d.n Z) (i _ _ Z) (j _ _ Z) (Qw.es Z) EX.no (EX.val (i _ _ Z) (Xw (SX c)) Z) (Xw (HO c)) (by simp))) Z <|
   g3_ d [.O 618 (.var [.own 616 (Qi ((b.length:Int)-1)).toNat]),3,.A (Qn f),5,.O 618 (.var [.own 616 (b.take (Qi ((b.length:Int)-1)).toNat).length])] Z Z Z (congrArg (λn=>Ob.var [.own 616 n]) (by rw[<-g]))<|E h Z r2_
def EN (a:(L_ QA)):O_ (QA×(L_ QA)):=(Up a).bind λb=>(DM a 0 (Qi (b-1))).bind λc=>(chk (c.length=a.length)).bind λ_=>(Da c 0 (Qi (b-1))).bind λe=>(Nn e.2).bind λd=>some (d.1,d.2)
def Vg (a):CT 112 [.ifc 158 (.L 618)] [(618,.var [.own 616 a.length]),(616,.arr 2 (a.map Qn))] (EN a) (λr=>(.ifc 160 (.agg (Qn r.1)))) (λr=>[(616,.arr 2 (r.2.map Qn)),(618,.var [.own 616 r.2.length])]):=
 W 15 func112 Z λC m r h=>B h λo c h=>B h λl e h=>X h λf h=>B h λg i h=>B h λj k h=>G m [8,.cm (.mv 111 156) [(618,616)] [(616,618)] [] [.d] [(618,.arr 2 (a.map Qn))] (.I o),8,.cm (.mv 357 156) [(618,616)] [(616,618)] [] [.d,.d,.d] [(618,.arr 2 (l.map Qn))] (.tup []),.O 618 (.var [.own 616 l.length]),6,.cm (.fn) [(618,618),(616,616)] [(616,616),(618,618)] [616] [.d,.d,.d] [(616,.arr 2 (g.2.map Qn)),(618,.var [.own 616 g.2.length])] (.b g.1),5,.cm (.me 358) [(618,618),(616,616)] [(616,616),(618,618)] [616] [.d] [(616,.arr 2 (j.2.map Qn)),(618,.var [.own 616 j.2.length])] (.ifc 160 (.agg (Qn j.1))),4] Z (a8_ QfV (OV _ _ c) Zx (CM _ _ _ _ e) (by simp[Xw f]) (Tz _ _ _ _ i) QkO (QbX _ _ k))<|E h Z r2_
def Mx (b:Int)(a:(L_ (Int×LI_))):O_ ((Int×(L_ (Int×LI_)))⊕(L_ (Int×LI_))):=some (.inl ((Qi (b+1)),a))
def My (d:QD)(c:Int)(b:(L_ (Int×LI_))):O_ ((Int×(L_ (Int×LI_)))⊕(L_ (Int×LI_))):=bif (c<(d.Edges.length:Int))then (idx d.Edges c).bind λa=>(Fs d a).bind λe=>bif e then (chk (((Qs b a.To).getD []).length+([a.From]:L_ Int).length<=4294967296)).bind λ_=>Mx c (XG KM b a.To (((Qs b a.To).getD [])++[a.From]))else Mx c b else some (.inr b)
def Ft (c:QD)(a:Int)(b:LI_):O_ ((Int×LI_)⊕LI_):=bif (a<((List.replicate (c.States.length:Int).toNat (0:Int)).length:Int))then (idx b a).bind λd=>some (.inl ((Qi (a+1)),(b.set a.toNat (-1))))else some (.inr b)
def Mz (a:Int)(b:(L_ QA)):O_ ((Int×(L_ QA))⊕(L_ QA)):=some (.inl ((Qi (a+1)),b))
def MA (a:LI_)(g:QD)(b:Int)(c:(L_ QA)):O_ ((Int×(L_ QA))⊕(L_ QA)):=bif (b<(a.length:Int))then (idx a b).bind λd=>(Cx g d).bind λe=>bif e then (WZ c (QA.mk d 0)).bind λf=>Mz b f else Mz b c else some (.inr c)
def MB (f:(L_ (Int×LI_)))(a:(QA×(L_ QA)))(b:Int)(c:(L_ QA)):O_ ((Int×(L_ QA))⊕(L_ QA)):=bif (b<(((Qs f a.1.state).getD ([]:LI_)).length:Int))then (idx ((Qs f a.1.state).getD ([]:LI_)) b).bind λd=>(WZ c (QA.mk d (Qi (a.1.far+1)))).bind λe=>some (.inl ((Qi (b+1)),e))else some (.inr c)
def Qii (b:LI_)(a:(QA×(L_ QA)))(c:(L_ QA)):O_ ((LI_×(L_ QA))⊕LI_):=some (.inl ((b.set a.1.state.toNat a.1.far),c))
def MC (f:(L_ (Int×LI_)))(b:LI_)(c:(L_ QA)):O_ ((LI_×(L_ QA))⊕LI_):=(FU c).bind λd=>bif (0<d)then (EN c).bind λa=>(idx b a.1.state).bind λe=>bif (0<=e)then some (.inl (b,a.2))else (idx b a.1.state).bind λg=>(QE (λst=>MB f a st.1 st.2) (0,a.2)).bind (λq=>Qii b a q)else some (.inr b)
def Qij (a:LI_):O_ LI_:=some a
def Qai (c:(L_ (Int×LI_)))(a:LI_)(b:(L_ QA)):O_ LI_:=(QE (λst=>MC c st.1 st.2) (a,b)).bind (λq=>Qij q)
def Qaj (a:LI_)(c:QD)(d:(L_ (Int×LI_)))(b:LI_):O_ LI_:=(QE (λst=>MA a c st.1 st.2) (0,([]:L_ QA))).bind (λq=>Qai d b q)
def Qak (b:QD)(a:LI_)(c:(L_ (Int×LI_))):O_ LI_:=(chk (decide (0<=(b.States.length:Int))&&decide ((b.States.length:Int)<=(b.States.length:Int))&&decide ((b.States.length:Int)<=4294967296))).bind λ_=>(QE (λst=>Ft b st.1 st.2) (0,(List.replicate (b.States.length:Int).toNat (0:Int)))).bind (λq=>Qaj a b c q)
def Oq (b:QD)(a:LI_):O_ LI_:=(QE (λst=>My b st.1 st.2) (0,([]:(L_ (Int×LI_))))).bind (λq=>Qak b a q)
def Qik (s g):CT 68 [.agg (Qo s),.sl 1 (g.map Qb)] [] (Oq s g) (λr=>(.own 600 r.length)) (λr=>[(600,.arr 1 (r.map Qb))]):=
 W 104 func68 Z λC p r h=>g3_ p [8,.x (λσ=>(σ.set 16 (.grp 1 [] none)).put 16 (.map 16)),.O 16 (.grp 1 (CC V.I Qb ([]:(L_ (Int×LI_)))) none),8,.o (.ln s.Edges.length),4] Z (Stp.makeGrp 1 Z Z (QU p.n Z) Z) Z Qc<|lp_ h (λst=>⟨[(1,.sl 1 (g.map Qb)),lk_ 2,(5,.map 16),(18,.sl 6 (s.Edges.map QR)),(19,.I (s.Edges.length:Int)),(20,.I st.1)],[(2,.var (Qo s)),(16,.grp 1 (CC V.I Qb st.2) none)]⟩) (λq=>(.exit 0,⟨[(1,.sl 1 (g.map Qb)),lk_ 2,(5,.map 16)],[(2,.var (Qo s)),(16,.grp 1 (CC V.I Qb q) none)]⟩)) Z (λ⟨x5,m6⟩ o h=>H p [6] Z<|I h (λy h=>J p [.T,2] Z y<|mE_ (λa6:(L_ (Int×LI_))=>⟨[(1,.sl 1 (g.map Qb)),lk_ 2,(5,.map 16),(18,.sl 6 (s.Edges.map QR)),(19,.I (s.Edges.length:Int)),(20,.I x5)],[(2,.var (Qo s)),(16,.grp 1 (CC V.I Qb a6) none)]⟩) (λa6=>Mx x5 a6=some o) (B h λj b0 h=>B h λc8 b1 h=>G p [3,.o (.row (QR j)),.A (QR j),2,.O 7 (.var (QR j)),4,.A (Qo s),.A (QR j),.o (.C2 (.b c8)),2] Z (a6_ (Xd b0) Z Z Z Z (CK _ _ _ b1))<|I h (λD h=>X h λb2 h=>G p [.T] Z (A D) <| 
  dr_ p [.a .no none true,.a .no none true,.a .no none true,.N,.N,.N,.m (.any ⟨[33],[(33,.arr 1 (((Qs m6 j.To).getD []).map Qb)),(16,.grp 1 (CC V.I Qb m6) (some (V.I j.To)))],some (33,.own 33 ((Qs m6 j.To).getD []).length)⟩),.a .no none true,.a .no none true,.a (.bd []) (some ([],.sl 1 (([j.From]:L_ Int).map Qb))) true,.m (.app ((((Qs m6 j.To).getD [])++[j.From]).map Qb) (((Qs m6 j.To).getD [])++[j.From]).length),.m (.any ⟨[33],[(16,.grp 1 (CC V.I Qb (XG KM m6 j.To (((Qs m6 j.To).getD [])++[j.From]))) none)],none⟩)] [1,2,5,7,18,19,20] [2,7] [1,2,5,18,19,20] [2,16] Z Z (a4_ (λσ h1 h2=>Stp.lookupOutT (e:=V.I) (f:=Qb) (l:=m6) (k:=j.To) Z Z (QU p.n Z) (h1 _ _ Z) (h2 _ _ Z) (h1 _ _ Z) ZX KN QnV Z Z Z Z Z) Z ⟨Qc,Ja b2 Qc,Ya,Jr Qc⟩ (λσ h1 h2=>Stp.updateBackT (e:=V.I) (f:=Qb) (l:=m6) (k:=j.To) (((Qs m6 j.To).getD [])++[j.From]) KM Z Z (h1 _ _ Z) (h2 _ _ Z) (h1 _ _ Z) (h1 _ _ Z) (h2 _ _ Z) ZX KN Z Z Z Z Z (by simp))) Z <|
  H p [1] Z<|me_ h Z) λD h=>J p [.F,2] Z D<|me_ h Z) λa6 h=>H p [4] Z<|rN_ h Z) λy h=>J p [.F,2] Z y<|rX_ h Z) λt h=>X h λb3 h=>g3_ p [6,.o (.ln s.States.length),.o (.rows ((List.replicate (s.States.length:Int).toNat (0:Int)).map Qb)),.S 42 (.own 42 (List.replicate (s.States.length:Int).toNat (0:Int)).length),12] Z Qc ⟨b3,QiP Z⟩ (by simp)<|AK.grpMap (b:=16) (e:=V.I) (f:=Qb) (l:=t) KN Z Z<|J p [.O 16 (.map (QC V.I (λx=>V.sl 1 (x.map Qb)) t))] Z Z<|lp_ h (λst=>⟨[(1,.sl 1 (g.map Qb)),lk_ 2,(5,.map 16),(8,.own 42 st.2.length),(44,.I ((List.replicate (s.States.length:Int).toNat (0:Int)).length:Int)),(45,.I st.1)],[(2,.var (Qo s)),(16,.map (QC V.I (λx=>V.sl 1 (x.map Qb)) t)),(42,.arr 1 (st.2.map Qb))]⟩) (λq=>(.exit 2,⟨[(1,.sl 1 (g.map Qb)),lk_ 2,(5,.map 16),(8,.own 42 q.length)],[(2,.var (Qo s)),(16,.map (QC V.I (λx=>V.sl 1 (x.map Qb)) t)),(42,.arr 1 (q.map Qb))]⟩)) Z (λ⟨b4,b5⟩ o h=>H p [6] Z<|I h (λP h=>B h λc9 a7 h=>g4_ p [.T,14,.st (Qb c9) ((b5.set b4.toNat (-1)).map Qb),7,.S 8 (.own 42 (b5.set b4.toNat (-1)).length)] Z P (YJ a7 Z) ⟨(XT (Jf a7).2),BC Z⟩ (congrArg (λn=>V.own 42 n) (by simp))<|rN_ h Z) λP h=>J p [.F,2] Z P<|rX_ h Z) λu h=>g3_ p [11,.o (.ln g.length),4,.adoptO 10 0 607 2,.O 607 (.arr 2 (([]:L_ QA).map Qn)),.O 10 (.var [.own 607 ([]:L_ QA).length])] Z Qc Z (congrArg (λn=>Ob.var [.own 607 n]) (by simp))<|lp_ h (λst=>⟨[lk_ 2,(5,.map 16),(8,.own 42 u.length),lk_ 10,(52,.sl 1 (g.map Qb)),(53,.I (g.length:Int)),(54,.I st.1)],[(2,.var (Qo s)),(10,.var [.own 607 st.2.length]),(16,.map (QC V.I (λx=>V.sl 1 (x.map Qb)) t)),(42,.arr 1 (u.map Qb)),(607,.arr 2 (st.2.map Qn))]⟩) (λq=>(.exit 4,⟨[(5,.map 16),(8,.own 42 u.length),lk_ 10],[(10,.var [.own 607 q.length]),(16,.map (QC V.I (λx=>V.sl 1 (x.map Qb)) t)),(42,.arr 1 (u.map Qb)),(607,.arr 2 (q.map Qn))]⟩)) Z (λ⟨b6,d5⟩ o h=>H p [6] Z<|I h (λa0 h=>J p [.T,2] Z a0<|mE_ (λa1:(L_ QA)=>⟨[lk_ 2,(5,.map 16),(8,.own 42 u.length),lk_ 10,(52,.sl 1 (g.map Qb)),(53,.I (g.length:Int)),(54,.I b6)],[(2,.var (Qo s)),(10,.var [.own 607 a1.length]),(16,.map (QC V.I (λx=>V.sl 1 (x.map Qb)) t)),(42,.arr 1 (u.map Qb)),(607,.arr 2 (a1.map Qn))]⟩) (λa1=>Mz b6 a1=some o) (B h λb7 b8 h=>B h λd0 b9 h=>g3_ p [3,.o (.row (Qb b7)),6,.A (Qo s),1,.o (.C2 (.b d0)),2] Z (Xd b8) Z (Oo _ _ _ b9)<|I h (λa2 h=>B h λc0 c1 h=>g3_ p [.T,3,.A (Qn (QA.mk b7 0)),1,.cm (.fn) [(618,10),(616,607)] [(607,616),(10,618)] [607] [.d,.d] [(616,.arr 2 (c0.map Qn)),(618,.var [.own 616 c0.length])] (.tup []),2] Z a2 Z (Ii _ _ _ c1)<|me_ h Z) λa2 h=>J p [.F,2] Z a2<|me_ h Z) λa1 h=>H p [4] Z<|rN_ h Z) λa0 h=>J p [.F,2] Z a0<|rX_ h Z) λd6 h=>H p [4] Z<|lp_ h (λst=>⟨[(5,.map 16),(8,.own 42 st.1.length),lk_ 10],[(10,.var [.own 607 st.2.length]),(16,.map (QC V.I (λx=>V.sl 1 (x.map Qb)) t)),(42,.arr 1 (st.1.map Qb)),(607,.arr 2 (st.2.map Qn))]⟩) (λq=>(.exit 6,⟨[(8,.own 42 q.length)],[(42,.arr 1 (q.map Qb))]⟩)) Z (λ⟨w,d1⟩ o h=>B h λd2 c2 h=>J p [4,.o (.c true [.o (d1.map Qn)] (.I d2)),3] Z ⟨(OY Z),(ZG _ _ c2)⟩<|I h (λa3 h=>B h λi c3 h=>B h λd3 a8 h=>G p [.T,6,.cm (.fn) [(618,10),(616,607)] [(607,616),(10,618)] [607] [.d] [(616,.arr 2 (i.2.map Qn)),(618,.var [.own 616 i.2.length])] (.ifc 160 (.agg (Qn i.1))),3,.O 13 (.var (Qn i.1)),9,.o (.row (Qb d3)),3] Z (a5_ a3 (Vg _ _ c3) Z (YJ a8 Z) (XT (Jf a8).2))<|I h (λa4 h=>J p [.T,3] Z a4<|rN_ h Z) λa4 h=>B h λd4 a9 h=>G p [.F,10,.st (Qb d4) ((w.set i.1.state.toNat i.1.far).map Qb),7,.o (.any (.sl 1 (((Qs t i.1.state).getD ([]:LI_)).map Qb)) none),.o (.ln ((Qs t i.1.state).getD ([]:LI_)).length),4,.S 8 (.own 42 (w.set i.1.state.toNat i.1.far).length)] Z (a6_ a4 (YJ a9 Z) ⟨(XT (Jf a9).2),BC Z⟩ (λσ h1 h2 _=>Stp.lookup (e:=V.I) (f:=(λx=>V.sl 1 (x.map Qb))) (l:=t) (k:=i.1.state) (z:=([]:LI_)) Z Z (QU p.n Z) (h1 _ _ Z) (h2 _ _ Z) (h1 _ _ Z) ZX KN QnW Z) Qc (congrArg (λn=>V.own 42 n) (by simp)))<|lp_ h (λst=>⟨[(5,.map 16),(8,.own 42 (w.set i.1.state.toNat i.1.far).length),lk_ 10,lk_ 13,(88,.sl 1 (((Qs t i.1.state).getD ([]:LI_)).map Qb)),(89,.I (((Qs t i.1.state).getD ([]:LI_)).length:Int)),(90,.I st.1)],[(10,.var [.own 607 st.2.length]),(13,.var (Qn i.1)),(16,.map (QC V.I (λx=>V.sl 1 (x.map Qb)) t)),(42,.arr 1 ((w.set i.1.state.toNat i.1.far).map Qb)),(607,.arr 2 (st.2.map Qn))]⟩) (λq=>(.exit 8,⟨[(5,.map 16),(8,.own 42 (w.set i.1.state.toNat i.1.far).length),lk_ 10],[(10,.var [.own 607 q.length]),(16,.map (QC V.I (λx=>V.sl 1 (x.map Qb)) t)),(42,.arr 1 ((w.set i.1.state.toNat i.1.far).map Qb)),(607,.arr 2 (q.map Qn))]⟩)) Z (λ⟨d7,d8⟩ o h=>H p [6] Z<|I h (λa5 h=>B h λc4 c5 h=>B h λc6 c7 h=>g4_ p [.T,6,.o (.row (Qb c4)),10,.A (Qn (QA.mk c4 (Qi (i.1.far+1)))),1,.cm (.fn) [(618,10),(616,607)] [(607,616),(10,618)] [607] [.d,.d] [(616,.arr 2 (c6.map Qn)),(618,.var [.own 616 c6.length])] (.tup []),7] Z a5 (Xd c5) Z (Ii _ _ _ c7)<|rN_ h Z) λa5 h=>J p [.F,2] Z a5<|rX_ h Z) λd9 h=>H p [2] Z<|rN_ h Z) λa3 h=>J p [.F,2] Z a3<|rX_ h Z) λe0 h=>H p [9,.K [4] [42],.ren 42 600] Z<|E h Z r1_
def Mg (b:Qf)(a:QD):O_ LI_:=(On b a).bind λc=>(Oq a c).bind λd=>some d
def Qal (c b):CT 39 [.agg (Qa c),.agg (Qo b)] [] (Mg c b) (λr=>(.own 600 r.length)) (λr=>[(600,.arr 1 (r.map Qb))]):=
 W 10 func39 Z λC e r h=>B h λi f h=>B h λj g h=>H e [8] Z <| 
  dr_ e [.E (.agg (Qo b)),.E (.agg (Qa c)),.E (.agg (Qo b)),.B (.cd false [.d,.d] 1 (i.map Qb) i.length),.B (.co false [.d,.d] 1 (j.map Qb) j.length),.m .s] [] [] [4] [9] Z Z (a5_ Z Z Z ⟨(Qgb _ _ _ f),Qc⟩ ⟨(Qik _ _ _ g),Qc,.inl Z⟩) Z <|
  H e [2,.K [4] [9],.ren 9 600] Z<|E h Z r1_
def La (b:Int)(a:LI_):O_ ((Int×LI_)⊕LI_):=some (.inl ((Qi (b+1)),a))
def Pp (d:LI_)(a:Int)(b:LI_):O_ ((Int×LI_)⊕LI_):=bif (a<(d.length:Int))then (idx d a).bind λc=>bif (c<0)then (chk (b.length+([a]:L_ Int).length<=4294967296)).bind λ_=>La a (b++([a]:L_ Int))else La a b else some (.inr b)
def Qhi (a:LI_):O_ LI_:=some a
def Mh (a:Qf)(b:QD):O_ LI_:=(Mg a b).bind λc=>(QE (λst=>Pp c st.1 st.2) (0,([]:L_ Int))).bind (λq=>Qhi q)
def Qhj (k l):CT 89 [.agg (Qa k),.agg (Qo l)] [] (Mh k l) (λr=>(.own 600 r.length)) (λr=>[(600,.arr 1 (r.map Qb))]):=
 W 25 func89 Z λC e r h=>B h λf m h=>G e [15,.A (Qa k),.A (Qo l),.o (.co false [.d,.d] 1 (f.map Qb) f.length),5,.adopt 5 19 1,.O 19 (.arr 1 (([]:L_ Int).map Qb)),.S 5 (.own 19 ([]:L_ Int).length)] Z (a5_ Z Z ⟨(Qal _ _ _ m),Qc,.inl Z⟩ Z (congrArg (λn=>V.own 19 n) (by simp)))<|lp_ h (λst=>⟨[(5,.own 19 st.2.length),(10,.own 10 f.length),(11,.I (f.length:Int)),(12,.I st.1)],[(10,.arr 1 (f.map Qb)),(19,.arr 1 (st.2.map Qb))]⟩) (λq=>(.exit 0,⟨[(5,.own 19 q.length)],[(19,.arr 1 (q.map Qb))]⟩)) Z (λ⟨i,s⟩ o h=>H e [6] Z<|I h (λa h=>J e [.T,2] Z a<|mE_ (λb:LI_=>⟨[(5,.own 19 b.length),(10,.own 10 f.length),(11,.I (f.length:Int)),(12,.I i)],[(10,.arr 1 (f.map Qb)),(19,.arr 1 (b.map Qb))]⟩) (λb=>La i b=some o) (B h λp g h=>K e [5,.o (.row (Qb p)),10] Z (YJ g Z) (XT (Jf g).2)<|I h (λc h=>X h λj h=>g3_ e [.T,3,.v (.bd []) [] (.sl 1 (([i]:L_ Int).map Qb)),.app ((s++([i]:L_ Int)).map Qb) (s++([i]:L_ Int)).length,3] Z c Z ⟨Qc,Ja j Qc,Ya,Jr Qc⟩<|me_ h Z) λc h=>J e [.F,2] Z c<|me_ h Z) λb h=>H e [4] Z<|rN_ h Z) λa h=>J e [.F,2] Z a<|rX_ h Z) λt h=>H e [9,.K [4] [19],.ren 19 600] Z<|E h Z r1_
def Db (a:QV):O_ (Bool×Xp):=(Mh a.net a.space).bind λb=>bif ((b.length:Int)==0)then some (true,(Xp.mk 0 0 0 ([]:(L_ Qk))))else (idx b 0).bind λc=>(KU a.space c).bind λd=>some (false,(Xp.mk 2 2 0 d))
def TA (e):CT 51 [.agg (Xf e)] [] (Db e) (λr=>(.tup [.agg (QG r.2),.b r.1])) no_:=by
 refine W 21 func51 rfl λC f r h=>?_
 obtain⟨l,j,h⟩:=Qz h
 refine Qp f [10,.A (Qa e.net),1,.A (Qo e.space),.o (.co false [.d,.d] 1 (l.map Qb) l.length),11] Z (a3_ Z Z ⟨(Qhj _ _ _ j),Qc,.inl Z⟩) ?_
 rcases XS h with⟨c,h⟩|⟨c,h⟩
 ·refine Qp f [.T,2,.v .no [none,none,none,some 4] (.agg (QG (Xp.mk 0 0 0 ([]:(L_ Qk))))),1,.O 2 (.var (QG (Xp.mk 0 0 0 ([]:(L_ Qk))))),5,.K [2,3] [2]] Z (a3_ c Z Z) ?_
  cases h
  exact AK.done (ex_ [_,_] (an_ (an_ (ex_ _ (ex_ _ (an_ Z (an_ Z (Or.inl (an_ (Qw.ag Z) (an_ (Qw.sz Z) Z))))))) (an_ Z U)) (gives U)))
 obtain⟨p,g,h⟩:=Qz h
 obtain⟨i,k,h⟩:=Qz h
 refine Qp f [.F,3,.K [1,2,3,4] [1,2,9]] Z (A c) ?_
 refine AK.draw2 Qw f mixed [.N,.E (.agg (Qo e.space)),.N,.N,.B (.row (Qb p)),.B (.cd false [.d,.d] 4 (i.map Qj) i.length),.E (.agg (QG (Xp.mk 2 2 0 i))),.m .s,.m .s] [] [] [2,3] [2] rfl rfl rfl ⟨⟨⟨⟨⟨U,rfl⟩,(YJ g rfl)⟩,(XT (Jf g).2)⟩,⟨(VV _ _ _ k),Qc⟩⟩,rfl⟩ rfl (by kernel_rfl) rfl rfl rfl ?_
 refine Qp f [.O 2 (.var (QG (Xp.mk 2 2 0 i))),2,.K [2,3] [2]] Z (A Z) ?_
 cases h
 exact AK.done (ex_ [_,_] (an_ (an_ (ex_ _ (ex_ _ (an_ Z (an_ Z (Or.inl (an_ (Qw.ag Z) (an_ (Qw.sz Z) Z))))))) (an_ Z U)) (gives U)))
def CN (d:QD)(b:Int)(c:LI_):O_ ((Int×LI_)⊕LI_):=bif (b<(d.Edges.length:Int))then (idx d.Edges b).bind λa=>(chk (c.length+([a.Mode.Task]:L_ Int).length<=4294967296)).bind λ_=>some (.inl ((Qi (b+1)),(c++([a.Mode.Task]:L_ Int))))else some (.inr c)
def TB (c:LI_):O_ LI_:=(YF c).bind λa=>(chk (a.length=c.length)).bind λ_=>(KT a).bind λb=>some b
def Ai (a:QD):O_ LI_:=(QE (λst=>CN a st.1 st.2) (0,([]:L_ Int))).bind (λq=>TB q)
def TC (f):CT 20 [.agg (Qo f)] [] (Ai f) (λr=>(.own 600 r.length)) (λr=>[(600,.arr 1 (r.map Qb))]):=
 W 24 func20 Z λC g r h=>g3_ g [16,.o (.ln f.Edges.length),4,.adopt 3 13 1,.O 13 (.arr 1 (([]:L_ Int).map Qb)),.S 3 (.own 13 ([]:L_ Int).length)] Z Qc Z (congrArg (λn=>V.own 13 n) (by simp))<|lp_ h (λst=>⟨[(3,.own 13 st.2.length),(7,.sl 6 (f.Edges.map QR)),(8,.I (f.Edges.length:Int)),(9,.I st.1)],[(13,.arr 1 (st.2.map Qb))]⟩) (λq=>(.exit 0,⟨[(3,.own 13 q.length)],[(13,.arr 1 (q.map Qb))]⟩)) Z (λ⟨s,p⟩ o h=>H g [6] Z<|I h (λc h=>B h λa i h=>X h λj h=>G g [.T,6,.o (.row (QR a)),.A (QR a),2,.O 5 (.var (QR a)),7,.v (.bd []) [] (.sl 1 (([a.Mode.Task]:L_ Int).map Qb)),.app ((p++([a.Mode.Task]:L_ Int)).map Qb) (p++([a.Mode.Task]:L_ Int)).length,8] Z (a6_ c (Xd i) Z Z Z ⟨Qc,Ja j Qc,Ya,Jr Qc⟩)<|rN_ h Z) λc h=>J g [.F,2] Z c<|rX_ h Z) λt h=>B h λe k h=>X h λb h=>B h λl m h=>g4_ g [5,.cm (.fn) [(618,13)] [(13,618)] [] [.d] [(618,.arr 1 (e.map Qb))] (.tup []),.S 3 (.own 13 e.length),.S 20 (.own 13 e.length),5,.cm (.fn) [(618,13)] [(13,618)] [] [.d] [(618,.arr 1 (l.map Qb))] (.own 618 l.length),4,.K [2] [13],.ren 13 600] Z (Dx _ k) (by simp[Xw b]) (by simp[Xw b]) (Cv _ m)<|E h Z r1_
def Dc (b:Int)(a:LI_):O_ ((Int×LI_)⊕LI_):=some (.inl ((Qi (b+1)),a))
def BW (d:QV)(e:LI_)(a:Int)(b:LI_):O_ ((Int×LI_)⊕LI_):=bif (a<(d.net.Tasks.length:Int))then (XW e a).bind λc=>bif (!c)then (chk (b.length+([a]:L_ Int).length<=4294967296)).bind λ_=>Dc a (b++([a]:L_ Int))else Dc a b else some (.inr b)
def Qam (a:LI_):O_ LI_:=some a
def GO (a:QV):O_ LI_:=(Ai a.space).bind λb=>(QE (λst=>BW a b st.1 st.2) (0,([]:L_ Int))).bind (λq=>Qam q)
def Nu (j):CT 46 [.agg (Xf j)] [] (GO j) (λr=>(.own 600 r.length)) (λr=>[(600,.arr 1 (r.map Qb))]):=
 W 26 func46 Z λC g r h=>B h λi p h=>G g [9,.A (Qo j.space),.o (.co false [.d] 1 (i.map Qb) i.length),14,.o (.ln j.net.Tasks.length),4,.adopt 4 20 1,.O 20 (.arr 1 (([]:L_ Int).map Qb)),.S 4 (.own 20 ([]:L_ Int).length)] Z (a5_ Z ⟨(TC _ _ p),Qc,.inl Z⟩ Qc Z (congrArg (λn=>V.own 20 n) (by simp)))<|lp_ h (λst=>⟨[(3,.own 8 i.length),(4,.own 20 st.2.length),(12,.I (j.net.Tasks.length:Int)),(13,.I st.1)],[(8,.arr 1 (i.map Qb)),(20,.arr 1 (st.2.map Qb))]⟩) (λq=>(.exit 0,⟨[(4,.own 20 q.length)],[(20,.arr 1 (q.map Qb))]⟩)) Z (λ⟨k,t⟩ o h=>H g [6] Z<|I h (λa h=>J g [.T,2] Z a<|mE_ (λe:LI_=>⟨[(3,.own 8 i.length),(4,.own 20 e.length),(12,.I (j.net.Tasks.length:Int)),(13,.I k)],[(8,.arr 1 (i.map Qb)),(20,.arr 1 (e.map Qb))]⟩) (λe=>Dc k e=some o) (B h λs l h=>J g [11,.o (.c true [.o (i.map Qb),.d] (.b s)),3] Z ⟨(OY Z),(Gj _ _ _ l)⟩<|I h (λf h=>X h λm h=>g3_ g [.T,3,.v (.bd []) [] (.sl 1 (([k]:L_ Int).map Qb)),.app ((t++([k]:L_ Int)).map Qb) (t++([k]:L_ Int)).length,3] Z f Z ⟨Qc,Ja m Qc,Ya,Jr Qc⟩<|me_ h Z) λf h=>J g [.F,2] Z f<|me_ h Z) λe h=>H g [4] Z<|rN_ h Z) λa h=>J g [.F,2] Z a<|rX_ h Z) λu h=>H g [9,.K [2] [20],.ren 20 600] Z<|E h Z r1_
def UF (b:QV):O_ (Bool×Xp):=(GO b).bind λa=>bif ((a.length:Int)==0)then some (true,(Xp.mk 0 0 0 ([]:(L_ Qk))))else (idx a 0).bind λc=>some (false,(Xp.mk 2 3 c ([]:(L_ Qk))))
def ZH (e):CT 52 [.agg (Xf e)] [] (UF e) (λr=>(.tup [.agg (QG r.2),.b r.1])) no_:=by
 refine W 15 func52 rfl λC f r h=>?_
 obtain⟨j,g,h⟩:=Qz h
 refine Qp f [9,.A (Xf e),.o (.co false [.d] 1 (j.map Qb) j.length),11] Z (a2_ Z ⟨(Nu _ _ g),Qc,.inl Z⟩) ?_
 rcases XS h with⟨a,h⟩|⟨a,h⟩
 ·refine Qp f [.T,2,.v .no [none,none,none,some 4] (.agg (QG (Xp.mk 0 0 0 ([]:(L_ Qk))))),1,.O 2 (.var (QG (Xp.mk 0 0 0 ([]:(L_ Qk))))),5,.K [2,3] [2]] Z (a3_ a Z Z) ?_
  cases h
  exact AK.done (ex_ [_,_] (an_ (an_ (ex_ _ (ex_ _ (an_ Z (an_ Z (Or.inl (an_ (Qw.ag Z) (an_ (Qw.sz Z) Z))))))) (an_ Z U)) (gives U)))
 obtain⟨i,c,h⟩:=Qz h
 refine Qp f [.F,6,.o (.row (Qb i)),.v .no [none,none,none,some 4] (.agg (QG (Xp.mk 2 3 i ([]:(L_ Qk))))),1,.O 2 (.var (QG (Xp.mk 2 3 i ([]:(L_ Qk))))),4,.K [2,3] [2]] Z (a5_ a (YJ c Z) (XT (Jf c).2) Z Z) ?_
 cases h
 exact AK.done (ex_ [_,_] (an_ (an_ (ex_ _ (ex_ _ (an_ Z (an_ Z (Or.inl (an_ (Qw.ag Z) (an_ (Qw.sz Z) Z))))))) (an_ Z U)) (gives U)))
def En (c:Qf)(b:QD):O_ Xp:=bif (!b.Full)then some (Xp.mk 3 0 0 ([]:(L_ Qk)))else (AH (QV.mk c b)).bind λd=>bif (!d.1)then some d.2 else (Db (QV.mk c b)).bind λe=>bif (!e.1)then some e.2 else (UF (QV.mk c b)).bind λa=>bif (!a.1)then some a.2 else some (Xp.mk 1 0 0 ([]:(L_ Qk)))
def Qe1 (e f):CT 26 [.agg (Qa e),.agg (Qo f)] [] (En e f) (λr=>(.agg (QG r))) no_:=by
 refine W 39 func26 rfl λC a r h=>?_
 refine tg_ a [15] ?_
 refine bg_ h (λk h=>Qp a [.T,2,.v .no [none,none,none,some 4] (.agg (QG (Xp.mk 3 0 0 ([]:(L_ Qk))))),1,.O 4 (.var (QG (Xp.mk 3 0 0 ([]:(L_ Qk))))),4,.K [4] [4]] rfl (a3_ k rfl rfl) ?_) λk h=>Qp a [.F,4,.A (Qa e),.A (Qo f),.A (Xf (QV.mk e f)),2,.O 5 (.var (Xf (QV.mk e f))),5,.A (Xf (QV.mk e f)),1,.A (Xf (QV.mk e f)),1,.A (Xf (QV.mk e f)),1,.o (.any (.own 23 3) (some (.var [.clo (.func 50) [.agg (Xf (QV.mk e f))] [],.clo (.func 51) [.agg (Xf (QV.mk e f))] [],.clo (.func 52) [.agg (Xf (QV.mk e f))] []]))),5] rfl (a9_ k rfl rfl rfl rfl rfl rfl rfl (λσ j p D=>Stp.buildAny rfl rfl (QU a.n rfl) (Qw.es rfl) QlW rfl (by decide) (by decide) (Gf j rfl) rfl rfl (D rfl))) ?_
 ·cases h
  exact AK.done (ex_ [_] (an_ (an_ (ex_ _ (ex_ _ (an_ Z (an_ Z (Or.inl (an_ (Qw.ag Z) (an_ (Qw.sz Z) Z))))))) U) (gives U)))
 refine AK.loopN 4 (AK.rnd ?_)
 obtain⟨q,u,h⟩:=Qz h
 refine Qp a [2,.v .no [] (.b true),10,.o (.any (.L 23) none),7,.o (.C1 (.tup [.agg (QG q.2),.b q.1])),5,.O 8 (.var (QG q.2)),9] Z (a4_ Z (λσ j p _=>Stp.idxV Z Z (QU a.n Z) (j _ _ Z) (j _ _ Z) (Qw.es Z) (p _ _ Z) (by decide)) (Qah _ _ u) Z) ?_
 refine bg_ h (λl h=>Qp a [.T,2,.A (QG q.2),1,.O 4 (.var (QG q.2)),8,.K [4] [4]] rfl (a3_ l rfl rfl) ?_) λl h=>Qp a [.F,4,.v .no [] (.I 1),2] rfl (a2_ l rfl) ?_
 ·cases h
  exact AK.done (ex_ [_] (an_ (an_ (ex_ _ (ex_ _ (an_ Z (an_ Z (Or.inl (an_ (Qw.ag Z) (an_ (Qw.sz Z) Z))))))) U) (gives U)))
 refine AK.met (AK.rnd ?_)
 obtain⟨s,w,h⟩:=Qz h
 refine Qp a [2,.v .no [] (.b true),10,.o (.any (.loc 23 0 1) none),7,.o (.C1 (.tup [.agg (QG s.2),.b s.1])),3,.kill 8,2,.O 8 (.var (QG s.2)),9] Z (a4_ Z (λσ j p _=>Stp.idxV Z Z (QU a.n Z) (j _ _ Z) (j _ _ Z) (Qw.es Z) (p _ _ Z) (by decide)) (TA _ _ w) Z) ?_
 refine bg_ h (λm h=>Qp a [.T,2,.A (QG s.2),1,.O 4 (.var (QG s.2)),8,.K [4] [4]] rfl (a3_ m rfl rfl) ?_) λm h=>Qp a [.F,4,.v .no [] (.I 2),2] rfl (a2_ m rfl) ?_
 ·cases h
  exact AK.done (ex_ [_] (an_ (an_ (ex_ _ (ex_ _ (an_ Z (an_ Z (Or.inl (an_ (Qw.ag Z) (an_ (Qw.sz Z) Z))))))) U) (gives U)))
 refine AK.met (AK.rnd ?_)
 obtain⟨g,t,h⟩:=Qz h
 refine Qp a [2,.v .no [] (.b true),10,.o (.any (.loc 23 0 2) none),7,.o (.C1 (.tup [.agg (QG g.2),.b g.1])),3,.kill 8,2,.O 8 (.var (QG g.2)),9] Z (a4_ Z (λσ j p _=>Stp.idxV Z Z (QU a.n Z) (j _ _ Z) (j _ _ Z) (Qw.es Z) (p _ _ Z) (by decide)) (ZH _ _ t) Z) ?_
 refine bg_ h (λi h=>Qp a [.T,2,.A (QG g.2),1,.O 4 (.var (QG g.2)),8,.K [4] [4]] rfl (a3_ i rfl rfl) ?_) λi h=>Qp a [.F,4,.v .no [] (.I 3),2] rfl (a2_ i rfl) ?_
 ·cases h
  exact AK.done (ex_ [_] (an_ (an_ (ex_ _ (ex_ _ (an_ Z (an_ Z (Or.inl (an_ (Qw.ag Z) (an_ (Qw.sz Z) Z))))))) U) (gives U)))
 refine AK.met (AK.rnd ?_)
 refine Qp a [2,.v .no [] (.b false),11,.v .no [none,none,none,some 4] (.agg (QG (Xp.mk 1 0 0 ([]:(L_ Qk))))),1,.O 4 (.var (QG (Xp.mk 1 0 0 ([]:(L_ Qk))))),3,.K [4] [4]] Z (a3_ Z Z Z) ?_
 cases h
 exact AK.done (ex_ [_] (an_ (an_ (ex_ _ (ex_ _ (an_ Z (an_ Z (Or.inl (an_ (Qw.ag Z) (an_ (Qw.sz Z) Z))))))) U) (gives U)))
def DQ (c:Qf)(a:Int)(b:Int):O_ Xp:=(AB c a b).bind λd=>(En c d).bind λe=>some e
def Us (f b e):CT 8 [.agg (Qa f),.I b,.I e] [] (DQ f b e) (λr=>(.agg (QG r))) no_:=by
 refine W 13 func8 rfl λC g r h=>?_
 obtain⟨l,i,h⟩:=Qz h
 obtain⟨k,j,h⟩:=Qz h
 refine tg_ g [7,.K [1,2,3,6] [3,6]] ?_
 refine AK.draw2 Qw g mixed [.E (.agg (Qa f)),.E (.agg (Qa f)),.N,.N,.B (.C3 (.agg (Qo l))),.B (.C2 (.agg (QG k))),.m .s] [] [] [6] [6] rfl rfl rfl ⟨⟨⟨⟨U,rfl⟩,rfl⟩,(Rj _ _ _ _ i)⟩,(Qe1 _ _ _ j)⟩ rfl (by kernel_rfl) rfl rfl rfl ?_
 refine Qp g [.O 6 (.var (QG k)),2,.K [6] [6]] Z (A Z) ?_
 cases h
 exact AK.done (ex_ [_] (an_ (an_ (ex_ _ (ex_ _ (an_ Z (an_ Z (Or.inl (an_ (Qw.ag Z) (an_ (Qw.sz Z) Z))))))) U) (gives U)))
def Aj (e:(L_ Qk))(f:Qf)(b:QMk)(a:Int):O_ ((QMk×Int)⊕((QMk×Int)⊕QMk)):=bif (a<(e.length:Int))then (idx e a).bind λd=>(XU f b d).bind λc=>bif (c.2 != 0)then some (.inr (.inl (b,a)))else some (.inl (c.1,(Qi (a+1))))else some (.inr (.inr b))
def Qil (a:QMk)(b:Int):O_ (QMk×Int):=some (a,b)
def Qim (b:(L_ Qk))(a:QMk):O_ (QMk×Int):=some (a,(b.length:Int))
def Ot (b:Qf)(c:QMk)(a:(L_ Qk)):O_ (QMk×Int):=(AV c).bind λd=>(QE (λst=>Aj a b st.1 st.2) (d,0)).bind (Sum.elim (λq=>Qil q.1 q.2) (λq=>Qim a q))
def Qin (l s f):CT 30 [.agg (Qa l),.sl 1 (s.map Qe),.sl 4 (f.map Qj)] [] (Ot l s f) (λr=>(.tup [.sl 1 (r.1.map Qe),.I r.2])) no_:=
 W 37 func30 Z λC g r h=>B h λm p h=>g3_ g [10,.o (.co false [.d] 1 (m.map Qe) m.length),7,.o (.ln f.length),4,.frz 13 (m.map Qe) [1] []] Z ⟨(IL _ _ p),Qc,.inl Z⟩ Qc (A (Jl Qc))<|lq_ h (λst=>⟨[(1,.sl 1 (st.1.map Qe)),(2,.sl 4 (f.map Qj)),lk_ 3,(14,.sl 4 (f.map Qj)),(15,.I (f.length:Int)),(16,.I st.2)],[(3,.var (Qa l))]⟩) (λq=>(.ret,⟨[(6,.sl 1 (q.1.map Qe)),(7,.I q.2)],[]⟩)) (λq=>(.exit 0,⟨[(1,.sl 1 (q.map Qe)),(2,.sl 4 (f.map Qj))],[]⟩)) Z (λ⟨t,u⟩ o h=>H g [6] Z<|I h (λa h=>B h λe i h=>B h λj k h=>G g [.T,7,.o (.row (Qj e)),.A (Qj e),3,.O 9 (.var (Qj e)),4,.A (Qa l),1,.A (Qj e),.o (.C3 (.tup [.sl 1 (j.1.map Qe),.I j.2])),14] Z (a7_ a (Xd i) Z Z Z Z (Ig _ _ _ _ k))<|I h (λb h=>J g [.T,12] Z b<|rR_ h Z) λb h=>J g [.F,12] Z b<|rN_ h Z) λa h=>J g [.F,2] Z a<|rX_ h Z) (λ⟨w,x⟩ h=>H g [2] Z<|F h Z Z U) (λy h=>J g [6,.o (.ln f.length),5] Z Qc<|F h Z Z U)
def Rn (a:(QMk×Int))(e:Xp)(d:Qf):O_ Bool:=bif (a.2==(e.Trace.length:Int))then (WG d a.1).bind λb=>bif b then (DE d a.1).bind λc=>some (!c)else some false else some false
def QcO (a:Bool):O_ Bool:=some a
def Jg (c:Qf)(a:Xp):O_ Bool:=bif (a.Told != 2)then some false else bif (a.Clause==3)then some ((0<=a.Task)&&((a.Task<(c.Tasks.length:Int))&&((a.Trace.length:Int)==0)))else (Dy c).bind λd=>(Ot c d a.Trace).bind λb=>bif (a.Clause==1)then (Rn b a c).bind (λe=>QcO e)else bif (a.Clause==2)then some (b.2==(a.Trace.length:Int))else some false
def Yj (i f):CT 11 [.agg (Qa i),.agg (QG f)] [] (Jg i f) V.b no_:=
 W 66 func11 Z λC e r h=>H e [15] Z<|I h (λq h=>J e [.T,7] Z q<|E h Z U) λq h=>J e [.F,10] Z q<|I h (λs h=>J e [.T,1] Z s<|Y ⟨[(4,.b ((0<=f.Task)&&((f.Task<(i.Tasks.length:Int))&&((f.Trace.length:Int)==0))))],[]⟩ (H e [5] Z<|bO_ (decide (0<=f.Task)) (λg=>G e [.S 16 (.b true),4,.o (.ln i.Tasks.length),3] Z ⟨(tc_ g),Qc⟩<|bO_ (decide (f.Task<(i.Tasks.length:Int))) (λj=>G e [.S 24 (.b true),2,.o (.ln f.Trace.length),4,.S 4 (.b ((0<=f.Task)&&((f.Task<(i.Tasks.length:Int))&&((f.Trace.length:Int)==0))))] Z ⟨⟨(tc_ j),Qc⟩,(cb_ (Ju g (Ju j Z)))⟩<|M Z) λj=>G e [.S 24 (.b false),7,.S 4 (.b ((0<=f.Task)&&((f.Task<(i.Tasks.length:Int))&&((f.Trace.length:Int)==0))))] Z ⟨(tc_ j),(cb_ (Ju g (WM j Z)))⟩<|M Z) λg=>G e [.S 16 (.b false),15,.S 4 (.b ((0<=f.Task)&&((f.Task<(i.Tasks.length:Int))&&((f.Trace.length:Int)==0))))] Z ⟨(tc_ g),(cb_ (WM g Z))⟩<|M Z)<|H e [3] Z<|E h Z U) λs h=>B h λu w h=>B h λx y h=>G e [.F,3] Z (A s) <| 
  dr_ e [.E (.agg (Qa i)),.E (.agg (Qa i)),.B (.cd false [.d] 1 (u.map Qe) u.length),.N,.N,.B (.C3 (.tup [.sl 1 (x.1.map Qe),.I x.2])),.N,.N,.N,.N,.N] [] [] [2,3,5,6] [2,3] Z Z (a4_ Z Z ⟨(Hf _ _ w),Qc⟩ (Qin _ _ _ _ y)) Z <|
  H e [15] Z<|I h (λk h=>J e [.T,1] Z k<|mV_ h (λt=>⟨[(4,.b t)],[]⟩) (λt h=>J e [4,.o (.ln f.Trace.length),2] Z Qc<|I h (λl h=>B h λO z h=>G e [.S 48 (.b true),.A (Qa i),1,.o (.C2 (.b O)),2] Z ⟨⟨(tc_ l),Z⟩,(Hn _ _ _ z)⟩<|I h (λm h=>B h λP D h=>G e [.S 53 (.b true),.A (Qa i),1,.o (.C2 (.b P)),4] Z ⟨⟨(tc_ m),Z⟩,(AD _ _ _ D)⟩<|mq_ h Z) λm h=>L e [.S 53 (.b false),7] Z m<|mq_ h Z) λl h=>L e [.S 48 (.b false),12] Z l<|mq_ h Z) λt h=>H e [4] Z<|E h Z U) λk h=>J e [.F,6] Z k<|I h (λp h=>K e [.T,5,.o (.ln f.Trace.length),7] Z p Qc<|E h Z U) λp h=>J e [.F,9] Z p<|E h Z U
def Qan (a:Qf)(b:QD):O_ Int:=(WH (QV.mk a b)).bind λc=>some c
def Sb (a b):CT 22 [.agg (Qa a),.agg (Qo b)] [] (Qan a b) V.I no_:=
 W 9 func22 Z λC f r h=>B h λg e h=>g4_ f [9,.A (Qa a),.A (Qo b),.A (Xf (QV.mk a b)),.o (.C1 (.I g)),4] Z Z Z Z (Hq _ _ e)<|E h Z U
def QcP (a:Qf)(b:QD):O_ LI_:=(GO (QV.mk a b)).bind λc=>some c
def Qgc (a b):CT 23 [.agg (Qa a),.agg (Qo b)] [] (QcP a b) (λr=>(.own 600 r.length)) (λr=>[(600,.arr 1 (r.map Qb))]):=
 W 9 func23 Z λC f r h=>B h λe c h=>g4_ f [9,.A (Qa a),.A (Qo b),.A (Xf (QV.mk a b)),.o (.co false [.d] 1 (e.map Qb) e.length),4,.K [4] [8],.ren 8 600] Z Z Z Z ⟨(Nu _ _ c),Qc,.inl Z⟩<|E h Z r1_
def Qe2 (j:Xp)(a:Xp)(l:Xp)(k:Xp)(b:Qf):O_ Bool:=bif (j.Told==1)then bif (a.Told==2)then bif (a.Clause==1)then bif ((a.Trace.length:Int)==1)then (EY true).bind λc=>(Jg c a).bind λd=>bif d then bif (l.Told==3)then bif (k.Told==2)then bif (k.Clause==2)then (EY false).bind λe=>(Jg e j).bind λf=>bif (!f)then (Qan (Qf.mk b.Colours b.Places ([]:(L_ QH)) b.From b.To) (QD.mk ([]:(L_ QMk)) ([]:(L_ QW)) false)).bind λg=>bif (g==(-1))then (EY false).bind λh=>(QcP h (QD.mk ([]:(L_ QMk)) ([]:(L_ QW)) false)).bind λi=>some ((i.length:Int)==1)else some false else some false else some false else some false else some false else some false else some false else some false else some false else some false
def Qe3 (a:Bool):O_ Bool:=some a
def RJ  : O_ Bool:=(EY false).bind λc=>(DQ c 10 10).bind λd=>(EY true).bind λe=>(DQ e 10 10).bind λf=>(EY false).bind λg=>(DQ g 1 10).bind λh=>(EY false).bind λa=>(DQ (Qf.mk a.Colours a.Places ([]:(L_ QH)) a.From a.To) 10 10).bind λi=>(Qe2 d f h i a).bind (λb=>Qe3 b)
def Qe4  : CT 6 [] [] (RJ ) V.b no_:=
 W 74 func6 Z λC z r h=>B h λx2 a8 h=>B h λx3 a9 h=>B h λx4 b0 h=>B h λu b1 h=>B h λx6 b2 h=>B h λx7 b3 h=>B h λt b4 h=>B h λx9 b5 h=>G z [7,.o (.C1 (.agg (Qa x2))),.o (.C3 (.agg (QG x3))),2,.O 1 (.var (QG x3)),4,.o (.C1 (.agg (Qa x4))),.o (.C3 (.agg (QG u))),2,.O 2 (.var (QG u)),4,.o (.C1 (.agg (Qa x6))),.o (.C3 (.agg (QG x7))),2,.O 3 (.var (QG x7)),4,.o (.C1 (.agg (Qa t))),2,.O 4 (.var (Qa t)),6,.O 4 (.var [.sl 7 (t.Colours.map Qr),.sl 3 (t.Places.map Qq),.Y,.I t.From,.I t.To]),4,.v .no [none,none,some 14,none,none] (.agg (Qa (Qf.mk t.Colours t.Places ([]:(L_ QH)) t.From t.To))),.o (.C3 (.agg (QG x9))),2,.O 5 (.var (QG x9)),3] Z ⟨⟨⟨⟨⟨⟨⟨⟨⟨⟨⟨⟨⟨⟨⟨U,(Yr _ _ a8)⟩,(Us _ _ _ _ a9)⟩,Z⟩,(Yr _ _ b0)⟩,(Us _ _ _ _ b1)⟩,Z⟩,(Yr _ _ b2)⟩,(Us _ _ _ _ b3)⟩,Z⟩,(Yr _ _ b4)⟩,Z⟩,Z⟩,Z⟩,(Us _ _ _ _ b5)⟩,Z⟩<|mV_ h (λa1=>⟨[(0,.b a1)],[]⟩) (λa1 h=>H z [.K [0,1,2,3,4,5] [1,2,3,4,5]] Z<|I h (λe h=>I h (λf h=>I h (λg h=>I h (λi h=>B h λx k h=>B h λy l h=>I h (λj h=>I h (λp h=>I h (λq h=>I h (λw h=>B h λa2 P h=>B h λa3 S h=>I h (λD h=>B h λa4 a0 h=>I h (λT h=>B h λb6 a5 h=>B h λa6 a7 h=> 
  dr_ z [.N,.N,.N,.E (.b true),.N,.N,.N,.N,.E (.b true),.N,.N,.N,.N,.E (.b true),.N,.N,.B (.ln u.Trace.length),.N,.N,.E (.b true),.B (.C1 (.agg (Qa x))),.E (.agg (QG u)),.B (.C2 (.b y)),.N,.E (.b true),.N,.N,.N,.N,.E (.b true),.N,.N,.N,.N,.E (.b true),.N,.N,.N,.N,.E (.b true),.B (.C1 (.agg (Qa a2))),.E (.agg (QG x3)),.B (.C2 (.b a3)),.N,.N,.E (.b true),.a .no (some ([none,none,some 14,none,none],.agg (Qa (Qf.mk t.Colours t.Places ([]:(L_ QH)) t.From t.To)))) false,.a .no (some ([some 1,some 6,none],.agg (Qo (QD.mk ([]:(L_ QMk)) ([]:(L_ QW)) false)))) false,.B (.C2 (.I a4)),.N,.N,.E (.b true),.B (.C1 (.agg (Qa b6))),.a .no (some ([some 1,some 6,none],.agg (Qo (QD.mk ([]:(L_ QMk)) ([]:(L_ QW)) false)))) false,.B (.co false [.d,.d] 1 (a6.map Qb) a6.length),.N,.N,.N,.m .s] [] [] [0] [] Z Z ⟨⟨⟨⟨⟨⟨⟨⟨⟨⟨⟨⟨⟨⟨⟨⟨⟨⟨⟨⟨⟨⟨(tc_ e),(cb_ f)⟩,(cb_ g)⟩,Qc⟩,(cb_ i)⟩,(Yr _ _ k)⟩,Z⟩,(Yj _ _ _ l)⟩,(cb_ j)⟩,(cb_ p)⟩,(cb_ q)⟩,(cb_ w)⟩,(Yr _ _ P)⟩,Z⟩,(Yj _ _ _ S)⟩,(cb_ D)⟩,Z⟩,Z⟩,(Sb _ _ _ a0)⟩,(cb_ T)⟩,(Yr _ _ a5)⟩,Z⟩,⟨(Qgc _ _ _ a7),Qc,.inl Z⟩⟩ Z <|
  mq_ h Z) λT h=> 
  dr_ z [.N,.N,.N,.E (.b true),.N,.N,.N,.N,.E (.b true),.N,.N,.N,.N,.E (.b true),.N,.N,.B (.ln u.Trace.length),.N,.N,.E (.b true),.B (.C1 (.agg (Qa x))),.E (.agg (QG u)),.B (.C2 (.b y)),.N,.E (.b true),.N,.N,.N,.N,.E (.b true),.N,.N,.N,.N,.E (.b true),.N,.N,.N,.N,.E (.b true),.B (.C1 (.agg (Qa a2))),.E (.agg (QG x3)),.B (.C2 (.b a3)),.N,.N,.E (.b true),.a .no (some ([none,none,some 14,none,none],.agg (Qa (Qf.mk t.Colours t.Places ([]:(L_ QH)) t.From t.To)))) false,.a .no (some ([some 1,some 6,none],.agg (Qo (QD.mk ([]:(L_ QMk)) ([]:(L_ QW)) false)))) false,.B (.C2 (.I a4)),.N,.N,.E (.b false),.N,.N,.N,.N,.N,.N,.m .s] [] [] [0] [] Z Z ⟨⟨⟨⟨⟨⟨⟨⟨⟨⟨⟨⟨⟨⟨⟨⟨⟨⟨⟨(tc_ e),(cb_ f)⟩,(cb_ g)⟩,Qc⟩,(cb_ i)⟩,(Yr _ _ k)⟩,Z⟩,(Yj _ _ _ l)⟩,(cb_ j)⟩,(cb_ p)⟩,(cb_ q)⟩,(cb_ w)⟩,(Yr _ _ P)⟩,Z⟩,(Yj _ _ _ S)⟩,(cb_ D)⟩,Z⟩,Z⟩,(Sb _ _ _ a0)⟩,(cb_ T)⟩ Z <|
  mq_ h Z) λD h=> 
  dr_ z [.N,.N,.N,.E (.b true),.N,.N,.N,.N,.E (.b true),.N,.N,.N,.N,.E (.b true),.N,.N,.B (.ln u.Trace.length),.N,.N,.E (.b true),.B (.C1 (.agg (Qa x))),.E (.agg (QG u)),.B (.C2 (.b y)),.N,.E (.b true),.N,.N,.N,.N,.E (.b true),.N,.N,.N,.N,.E (.b true),.N,.N,.N,.N,.E (.b true),.B (.C1 (.agg (Qa a2))),.E (.agg (QG x3)),.B (.C2 (.b a3)),.N,.N,.E (.b false),.N,.N,.N,.N,.N,.N,.N,.N,.N,.N,.N,.N,.m .s] [] [] [0] [] Z Z ⟨⟨⟨⟨⟨⟨⟨⟨⟨⟨⟨⟨⟨⟨⟨(tc_ e),(cb_ f)⟩,(cb_ g)⟩,Qc⟩,(cb_ i)⟩,(Yr _ _ k)⟩,Z⟩,(Yj _ _ _ l)⟩,(cb_ j)⟩,(cb_ p)⟩,(cb_ q)⟩,(cb_ w)⟩,(Yr _ _ P)⟩,Z⟩,(Yj _ _ _ S)⟩,(cb_ D)⟩ Z <|
  mq_ h Z) λw h=> 
  dr_ z [.N,.N,.N,.E (.b true),.N,.N,.N,.N,.E (.b true),.N,.N,.N,.N,.E (.b true),.N,.N,.B (.ln u.Trace.length),.N,.N,.E (.b true),.B (.C1 (.agg (Qa x))),.E (.agg (QG u)),.B (.C2 (.b y)),.N,.E (.b true),.N,.N,.N,.N,.E (.b true),.N,.N,.N,.N,.E (.b true),.N,.N,.N,.N,.E (.b false),.N,.N,.N,.N,.N,.N,.N,.N,.N,.N,.N,.N,.N,.N,.N,.N,.N,.N,.m .s] [] [] [0] [] Z Z ⟨⟨⟨⟨⟨⟨⟨⟨⟨⟨⟨(tc_ e),(cb_ f)⟩,(cb_ g)⟩,Qc⟩,(cb_ i)⟩,(Yr _ _ k)⟩,Z⟩,(Yj _ _ _ l)⟩,(cb_ j)⟩,(cb_ p)⟩,(cb_ q)⟩,(cb_ w)⟩ Z <|
  mq_ h Z) λq h=> 
  dr_ z [.N,.N,.N,.E (.b true),.N,.N,.N,.N,.E (.b true),.N,.N,.N,.N,.E (.b true),.N,.N,.B (.ln u.Trace.length),.N,.N,.E (.b true),.B (.C1 (.agg (Qa x))),.E (.agg (QG u)),.B (.C2 (.b y)),.N,.E (.b true),.N,.N,.N,.N,.E (.b true),.N,.N,.N,.N,.E (.b false),.N,.N,.N,.N,.N,.N,.N,.N,.N,.N,.N,.N,.N,.N,.N,.N,.N,.N,.N,.N,.N,.N,.N,.m .s] [] [] [0] [] Z Z ⟨⟨⟨⟨⟨⟨⟨⟨⟨⟨(tc_ e),(cb_ f)⟩,(cb_ g)⟩,Qc⟩,(cb_ i)⟩,(Yr _ _ k)⟩,Z⟩,(Yj _ _ _ l)⟩,(cb_ j)⟩,(cb_ p)⟩,(cb_ q)⟩ Z <|
  mq_ h Z) λp h=> 
  dr_ z [.N,.N,.N,.E (.b true),.N,.N,.N,.N,.E (.b true),.N,.N,.N,.N,.E (.b true),.N,.N,.B (.ln u.Trace.length),.N,.N,.E (.b true),.B (.C1 (.agg (Qa x))),.E (.agg (QG u)),.B (.C2 (.b y)),.N,.E (.b true),.N,.N,.N,.N,.E (.b false),.N,.N,.N,.N,.N,.N,.N,.N,.N,.N,.N,.N,.N,.N,.N,.N,.N,.N,.N,.N,.N,.N,.N,.N,.N,.N,.N,.N,.m .s] [] [] [0] [] Z Z ⟨⟨⟨⟨⟨⟨⟨⟨⟨(tc_ e),(cb_ f)⟩,(cb_ g)⟩,Qc⟩,(cb_ i)⟩,(Yr _ _ k)⟩,Z⟩,(Yj _ _ _ l)⟩,(cb_ j)⟩,(cb_ p)⟩ Z <|
  mq_ h Z) λj h=> 
  dr_ z [.N,.N,.N,.E (.b true),.N,.N,.N,.N,.E (.b true),.N,.N,.N,.N,.E (.b true),.N,.N,.B (.ln u.Trace.length),.N,.N,.E (.b true),.B (.C1 (.agg (Qa x))),.E (.agg (QG u)),.B (.C2 (.b y)),.N,.E (.b false),.N,.N,.N,.N,.N,.N,.N,.N,.N,.N,.N,.N,.N,.N,.N,.N,.N,.N,.N,.N,.N,.N,.N,.N,.N,.N,.N,.N,.N,.N,.N,.N,.N,.m .s] [] [] [0] [] Z Z ⟨⟨⟨⟨⟨⟨⟨⟨(tc_ e),(cb_ f)⟩,(cb_ g)⟩,Qc⟩,(cb_ i)⟩,(Yr _ _ k)⟩,Z⟩,(Yj _ _ _ l)⟩,(cb_ j)⟩ Z <|
  mq_ h Z) λi h=> 
  dr_ z [.N,.N,.N,.E (.b true),.N,.N,.N,.N,.E (.b true),.N,.N,.N,.N,.E (.b true),.N,.N,.B (.ln u.Trace.length),.N,.N,.E (.b false),.N,.N,.N,.N,.N,.N,.N,.N,.N,.N,.N,.N,.N,.N,.N,.N,.N,.N,.N,.N,.N,.N,.N,.N,.N,.N,.N,.N,.N,.N,.N,.N,.N,.N,.N,.N,.N,.N,.m .s] [] [] [0] [] Z Z ⟨⟨⟨⟨(tc_ e),(cb_ f)⟩,(cb_ g)⟩,Qc⟩,(cb_ i)⟩ Z <|
  mq_ h Z) λg h=> 
  dr_ z [.N,.N,.N,.E (.b true),.N,.N,.N,.N,.E (.b true),.N,.N,.N,.N,.E (.b false),.N,.N,.N,.N,.N,.N,.N,.N,.N,.N,.N,.N,.N,.N,.N,.N,.N,.N,.N,.N,.N,.N,.N,.N,.N,.N,.N,.N,.N,.N,.N,.N,.N,.N,.N,.N,.N,.N,.N,.N,.N,.N,.N,.N,.m .s] [] [] [0] [] Z Z ⟨⟨(tc_ e),(cb_ f)⟩,(cb_ g)⟩ Z <|
  mq_ h Z) λf h=> 
  dr_ z [.N,.N,.N,.E (.b true),.N,.N,.N,.N,.E (.b false),.N,.N,.N,.N,.N,.N,.N,.N,.N,.N,.N,.N,.N,.N,.N,.N,.N,.N,.N,.N,.N,.N,.N,.N,.N,.N,.N,.N,.N,.N,.N,.N,.N,.N,.N,.N,.N,.N,.N,.N,.N,.N,.N,.N,.N,.N,.N,.N,.N,.m .s] [] [] [0] [] Z Z ⟨(tc_ e),(cb_ f)⟩ Z <|
  mq_ h Z) λe h=> 
  dr_ z [.N,.N,.N,.E (.b false),.N,.N,.N,.N,.N,.N,.N,.N,.N,.N,.N,.N,.N,.N,.N,.N,.N,.N,.N,.N,.N,.N,.N,.N,.N,.N,.N,.N,.N,.N,.N,.N,.N,.N,.N,.N,.N,.N,.N,.N,.N,.N,.N,.N,.N,.N,.N,.N,.N,.N,.N,.N,.N,.N,.m .s] [] [] [0] [] Z Z (tc_ e) Z <|
  mq_ h Z) λa1 h=>H z [2] Z<|E h Z U
def Pq (f:Ql)(h:Ql->Int->O_ Int)(a:Int)(c:Int)(d:Int):O_ ((Int×Int)⊕(Unit⊕Int)):=bif (d<(f.Kids.length:Int))then (idx f.Kids d).bind λe=>(h e (Qi (a-1))).bind λb=>bif (b==0)then some (.inr (.inl ()))else bif ((Qi ((Qi (c-500))+b))<=1)then some (.inr (.inl ()))else some (.inl ((Qi ((Qi (c-500))+b)),(Qi (d+1))))else some (.inr (.inr c))
def Qhk : O_ Int:=some 0
def Qhl (a:Int):O_ Int:=some (Qi (a-1))
def RK (h:Ql->Int->O_ Int)(b:Ql)(a:Int):O_ Int:=
 bif ((a<=0)||(9<(b.Kids.length:Int)))then
 some 0
 else
 (QE (λst=>Pq b h a st.1 st.2) (500,0)).bind (Sum.elim (λq=>Qhk) (λq=>Qhl q))
def Eo : Nat->Ql->Int->O_ Int
 | 0,_,_=>none
 | n+1,b,a=>RK (Eo n) b a
def ZI (b:Ql)(a:Int):O_ Int:=Eo (SizeOf.sizeOf b) b a
def Qe5 (D:Ql->Int->O_ Int)(hrec_law04_few:∀(f:Ql) (a:Int) {r:Int},D f a=some r->QX prog 83 [.agg (Qu f),.I a] [] (Gives (.I r) []))(f:Ql)(a:Int):CT 83 [.agg (Qu f),.I a] [] (RK D f a) V.I no_:=
 W 41 func83 Z λC e r h=>H e [8] Z<|Y ⟨[(1,.I a),lk_ 2,(15,.b ((a<=0)||(9<(f.Kids.length:Int))))],[(2,.var (Qu f))]⟩ (H e [4] Z<|bO_ (decide (a<=0)) (λg=>G e [.S 10 (.b true),6,.S 15 (.b ((a<=0)||(9<(f.Kids.length:Int))))] Z ⟨(tc_ g),(cb_ (UN g Z))⟩<|M Z) λg=>G e [.S 10 (.b false),2,.o (.ln f.Kids.length),3,.S 15 (.b ((a<=0)||(9<(f.Kids.length:Int))))] Z ⟨⟨(tc_ g),IF _⟩,(cb_ (We g Z))⟩<|M Z)<|H e [1] Z<|I h (λl h=>J e [.T,7] Z l<|E h Z U) λl h=>J e [.F,14] Z l<|lq_ h (λst=>⟨[(1,.I a),lk_ 2,(5,.I st.1),(6,.I st.2)],[(2,.var (Qu f))]⟩) (λq=>(.ret,⟨[(4,.I 0)],[]⟩)) (λq=>(.exit 0,⟨[(5,.I q)],[]⟩)) Z (λ⟨w,x⟩ o h=>J e [6,.o (.ln f.Kids.length),3] Z (IF _)<|I h (λi h=>B h λm p h=>B h λt s h=>g4_ e [.T,9,.o (.row (Qu m)),.A (Qu m),2,.o (.C2 (.I t)),10] Z i (Gx p) Z (hrec_law04_few _ _ s)<|I h (λj h=>J e [.T,9] Z j<|rR_ h Z) λj h=>J e [.F,17] Z j<|I h (λk h=>J e [.T,8] Z k<|rR_ h Z) λk h=>J e [.F,8] Z k<|rN_ h Z) λi h=>J e [.F,2] Z i<|rX_ h Z) (λ_ h=>H e [2] Z<|E h Z U) (λu h=>H e [10] Z<|E h Z U)
def TD : ∀(fuel:Nat) (b:Ql) (a:Int) {r:Int},Eo fuel b a=some r->QX prog 83 [.agg (Qu b),.I a] [] (Gives (.I r) [])
 | 0,_,_,_,h=>by cases h
 | n+1,b,a,_,h=>Qe5 (Eo n) (λ_ _ _ h=>TD n _ _ h) b a _ h
def Qhm (b a){r}(h:ZI b a=some r):QX prog 83 [.agg (Qu b),.I a] [] (Gives (.I r) []):=TD _ b a h
def FH (a:Ql):O_ Bool:=(ZI a 60).bind λb=>some (decide (0<b))
def Pr (a):CT 47 [.agg (Qu a)] [] (FH a) V.b no_:=
 W 6 func47 Z λC f r h=>B h λg e h=>K f [8,.A (Qu a),.o (.C2 (.I g)),5] Z Z (Qhm _ _ e)<|E h Z U
def Ps (d:Qf)(e:Int)(a:Int)(b:QL):O_ Bool:=(idx d.Colours e).bind λc=>bif (100<(c.Name.size:Int))then some true else some (decide (400<(Qi (a+(b.Names.length:Int)))))
def BX (e:Qf)(f:Int)(a:Int):O_ (Int⊕(Unit⊕Unit)):=(idx e.Colours f).bind λb=>bif (a<(b.Names.length:Int))then (idx e.Colours f).bind λc=>(idx c.Names a).bind λd=>bif (100<(d.size:Int))then some (.inr (.inl ()))else some (.inl (Qi (a+1)))else some (.inr (.inr ()))
def Qhn : O_ ((Int×Int)⊕(Unit⊕Int)):=some (.inr (.inl ()))
def Qho (a:Int)(b:QL)(c:Int):O_ ((Int×Int)⊕(Unit⊕Int)):=some (.inl ((Qi (a+(b.Names.length:Int))),(Qi (c+1))))
def Pu (e:Qf)(d:Int)(a:Int)(b:QL)(c:Bool):O_ ((Int×Int)⊕(Unit⊕Int)):=bif c then some (.inr (.inl ()))else (QE (λst=>BX e d st) 0).bind (Sum.elim (λq=>Qhn) (λq=>Qho a b d))
def BY (c:Qf)(a:Int)(d:Int):O_ ((Int×Int)⊕(Unit⊕Int)):=bif (d<(c.Colours.length:Int))then (idx c.Colours d).bind λb=>(Ps c d a b).bind (λe=>Pu c d a b e)else some (.inr (.inr a))
def Qhp : O_ Bool:=some false
def BZ (c:Qf)(a:Int)(b:Int):O_ ((Int×Int)⊕(Unit⊕Int)):=bif (b<(c.Places.length:Int))then (idx c.Places b).bind λd=>(idx c.Places b).bind λe=>bif (100<(e.Name.size:Int))then some (.inr (.inl ()))else some (.inl ((Qi (a+(d.First.length:Int))),(Qi (b+1))))else some (.inr (.inr a))
def Qhq : O_ Bool:=some false
def Ou (b:QH)(a:Int):O_ (Int⊕(Unit⊕Unit)):=bif (a<(b.Vars.length:Int))then (idx b.Vars a).bind λc=>bif (100<(c.Name.size:Int))then some (.inr (.inl ()))else some (.inl (Qi (a+1)))else some (.inr (.inr ()))
def Qgd : O_ ((Int×Int)⊕(Unit⊕Unit)):=some (.inr (.inl ()))
def Ov (c:QH)(a:Bool)(b:Int):O_ ((Bool×Int)⊕Bool):=bif (b<(c.Ins.length:Int))then (idx c.Ins b).bind λd=>(FH d.Expr).bind λe=>some (.inl ((a&&e),(Qi (b+1))))else some (.inr a)
def Ow (c:QH)(a:Bool)(b:Int):O_ ((Bool×Int)⊕Bool):=bif (b<(c.Outs.length:Int))then (idx c.Outs b).bind λd=>(FH d.Expr).bind λe=>some (.inl ((a&&e),(Qi (b+1))))else some (.inr a)
def Ox (a:Int)(b:QH)(d:Int)(c:Bool):O_ ((Int×Int)⊕(Unit⊕Unit)):=bif (!c)then some (.inr (.inl ()))else some (.inl ((Qi ((Qi ((Qi ((Qi (a+(b.Vars.length:Int)))+(b.Ins.length:Int)))+(b.Outs.length:Int)))+(b.Cancel.length:Int))),(Qi (d+1))))
def Oy (b:QH)(a:Int)(d:Int)(c:Bool):O_ ((Int×Int)⊕(Unit⊕Unit)):=(QE (λst=>Ow b st.1 st.2) (c,0)).bind (λq=>Ox a b d q)
def Oz (b:QH)(a:Int)(c:Int):O_ ((Int×Int)⊕(Unit⊕Unit)):=(FH b.Guard).bind λd=>(QE (λst=>Ov b st.1 st.2) (d,0)).bind (λq=>Oy b a c q)
def OA (d:Qf)(b:Int)(c:Int):O_ ((Int×Int)⊕(Unit⊕Unit)):=
 bif (c<(d.Tasks.length:Int))then
 (idx d.Tasks c).bind λa=>
 bif ((200<(Qi ((Qi ((Qi ((Qi (b+(a.Vars.length:Int)))+(a.Ins.length:Int)))+(a.Outs.length:Int)))+(a.Cancel.length:Int))))||(100<(a.Name.size:Int)))then
 some (.inr (.inl ()))
 else
 (QE (λst=>Ou a st) 0).bind (Sum.elim (λq=>Qgd) (λq=>Oz a b c))
 else
 some (.inr (.inr ()))
def Qge : O_ Bool:=some false
def Qgf (a:Int):O_ Bool:=some (decide (a<=400))
def OB (b:Qf)(a:Int):O_ Bool:=(QE (λst=>OA b st.1 st.2) (0,0)).bind (Sum.elim (λq=>Qge) (λq=>Qgf a))
def AI (b:Qf)(a:Int):O_ Bool:=(QE (λst=>BZ b st.1 st.2) (a,0)).bind (Sum.elim (λq=>Qhq) (λq=>OB b q))
def Be (a:Qf):O_ Bool:=
 bif ((40<(a.Colours.length:Int))||((70<(a.Places.length:Int))||(70<(a.Tasks.length:Int))))then
 some false
 else
 (QE (λst=>BY a st.1 st.2) (0,0)).bind (Sum.elim (λq=>Qhp) (λq=>AI a q))
def Qao (i):CT 24 [.agg (Qa i)] [] (Be i) V.b no_:=
 W 201 func24 Z λC f r h=>H f [8] Z<|Y ⟨[lk_ 1,(31,.b ((40<(i.Colours.length:Int))||((70<(i.Places.length:Int))||(70<(i.Tasks.length:Int)))))],[(1,.var (Qa i))]⟩ (J f [3,.o (.ln i.Colours.length),2] Z Qc<|bO_ (decide (40<(i.Colours.length:Int))) (λu=>G f [.S 20 (.b true),12,.S 31 (.b ((40<(i.Colours.length:Int))||((70<(i.Places.length:Int))||(70<(i.Tasks.length:Int)))))] Z ⟨(tc_ u),(cb_ (UN u Z))⟩<|M Z) λu=>G f [.S 20 (.b false),2,.o (.ln i.Places.length),3] Z ⟨(tc_ u),Qc⟩<|bO_ (decide (70<(i.Places.length:Int))) (λw=>G f [.S 26 (.b true),6,.S 31 (.b ((40<(i.Colours.length:Int))||((70<(i.Places.length:Int))||(70<(i.Tasks.length:Int)))))] Z ⟨(tc_ w),(cb_ (We u (UN w Z)))⟩<|M Z) λw=>G f [.S 26 (.b false),2,.o (.ln i.Tasks.length),3,.S 31 (.b ((40<(i.Colours.length:Int))||((70<(i.Places.length:Int))||(70<(i.Tasks.length:Int)))))] Z ⟨⟨(tc_ w),Qc⟩,(cb_ (We u (We w Z)))⟩<|M Z)<|H f [1] Z<|I h (λb1 h=>J f [.T,7] Z b1<|E h Z U) λb1 h=>J f [.F,14] Z b1<|lq_ h (λst=>⟨[lk_ 1,(3,.I st.1),(4,.I st.2)],[(1,.var (Qa i))]⟩) (λq=>(.ret,⟨[(2,.b false)],[]⟩)) (λq=>(.exit 0,⟨[lk_ 1,(3,.I q)],[(1,.var (Qa i))]⟩)) Z (λ⟨j,i9⟩ o h=>J f [6,.o (.ln i.Colours.length),3] Z Qc<|I h (λx h=>B h λy b3 h=>g3_ f [.T,10,.o (.row (Qr y)),2,.o (.ln y.Names.length),6] Z x (Xd b3) Qc<|mV_ h (λb2=>⟨[lk_ 1,(3,.I (Qi (j+(y.Names.length:Int)))),(4,.I i9),(59,.b b2)],[(1,.var (Qa i))]⟩) (λb2 h=>B h λd3 b4 h=>J f [4,.o (.row (Qr d3)),5] Z (Xd b4)<|I h (λz h=>L f [.S 56 (.b true),4] Z z<|mq_ h Z) λz h=>L f [.S 56 (.b false),4] Z z<|mq_ h Z) λb2 h=>H f [1] Z<|I h (λD h=>J f [.T,9] Z D<|rR_ h Z) λD h=>J f [.F,8] Z D<|lq_ h (λst=>⟨[lk_ 1,(3,.I (Qi (j+(y.Names.length:Int)))),(4,.I i9),(5,.I st)],[(1,.var (Qa i))]⟩) (λq=>(.ret,⟨[(2,.b false)],[]⟩)) (λq=>(.exit 2,⟨[lk_ 1,(3,.I (Qi (j+(y.Names.length:Int)))),(4,.I i9)],[(1,.var (Qa i))]⟩)) Z (λe3 o h=>B h λb5 b6 h=>K f [7,.o (.row (Qr b5)),2,.o (.ln b5.Names.length),3] Z (Xd b6) Qc<|I h (λN h=>B h λd4 b7 h=>B h λd5 b8 h=>g3_ f [.T,9,.o (.row (Qr d4)),3,.o (.row (DW d5)),5] Z N (Xd b7) (Xd b8)<|I h (λP h=>J f [.T,8] Z P<|rR_ h Z) λP h=>J f [.F,8] Z P<|rN_ h Z) λN h=>J f [.F,2] Z N<|rX_ h Z) (λ_ h=>H f [3] Z<|rR_ h Z) (λ_ h=>H f [8] Z<|rN_ h Z)) λx h=>J f [.F,2] Z x<|rX_ h Z) (λ_ h=>H f [2] Z<|E h Z U) (λb9 h=>H f [9] Z<|lq_ h (λst=>⟨[lk_ 1,(3,.I st.1),(6,.I st.2)],[(1,.var (Qa i))]⟩) (λq=>(.ret,⟨[(2,.b false)],[]⟩)) (λq=>(.exit 4,⟨[lk_ 1,(3,.I q)],[(1,.var (Qa i))]⟩)) Z (λ⟨c0,e4⟩ o h=>J f [6,.o (.ln i.Places.length),3] Z Qc<|I h (λa0 h=>B h λc1 c2 h=>B h λd6 c3 h=>g4_ f [.T,10,.o (.row (Qq c1)),2,.o (.ln c1.First.length),9,.o (.row (Qq d6)),6] Z a0 (Xd c2) Qc (Xd c3)<|I h (λa1 h=>J f [.T,8] Z a1<|rR_ h Z) λa1 h=>J f [.F,8] Z a1<|rN_ h Z) λa0 h=>J f [.F,2] Z a0<|rX_ h Z) (λ_ h=>H f [2] Z<|E h Z U) (λe h=>H f [14] Z<|lq_ h (λst=>⟨[lk_ 1,(3,.I e),(7,.I st.1),(8,.I st.2)],[(1,.var (Qa i))]⟩) (λq=>(.ret,⟨[(2,.b false)],[]⟩)) (λq=>(.exit 6,⟨[(3,.I e)],[]⟩)) Z (λ⟨g,k⟩ o h=>J f [6,.o (.ln i.Tasks.length),3] Z Qc<|I h (λa2 h=>B h λa c4 h=>G f [.T,9,.o (.row (Qh a)),.A (Qh a),2,.O 9 (.var (Qh a)),7,.o (.ln a.Vars.length),3,.o (.ln a.Ins.length),3,.o (.ln a.Outs.length),3,.o (.ln a.Cancel.length),6] Z (a8_ a2 (Xd c4) Z Z Qc Qc Qc Qc)<|Y ⟨[lk_ 1,(3,.I e),(7,.I (Qi ((Qi ((Qi ((Qi (g+(a.Vars.length:Int)))+(a.Ins.length:Int)))+(a.Outs.length:Int)))+(a.Cancel.length:Int)))),(8,.I k),lk_ 9,(142,.b ((200<(Qi ((Qi ((Qi ((Qi (g+(a.Vars.length:Int)))+(a.Ins.length:Int)))+(a.Outs.length:Int)))+(a.Cancel.length:Int))))||(100<(a.Name.size:Int))))],[(1,.var (Qa i)),(9,.var (Qh a))]⟩ (H f [4] Z<|bO_ (decide (200<(Qi ((Qi ((Qi ((Qi (g+(a.Vars.length:Int)))+(a.Ins.length:Int)))+(a.Outs.length:Int)))+(a.Cancel.length:Int))))) (λl=>G f [.S 137 (.b true),6,.S 142 (.b ((200<(Qi ((Qi ((Qi ((Qi (g+(a.Vars.length:Int)))+(a.Ins.length:Int)))+(a.Outs.length:Int)))+(a.Cancel.length:Int))))||(100<(a.Name.size:Int))))] Z ⟨(tc_ l),(cb_ (UN l Z))⟩<|M Z) λl=>G f [.S 137 (.b false),6,.S 142 (.b ((200<(Qi ((Qi ((Qi ((Qi (g+(a.Vars.length:Int)))+(a.Ins.length:Int)))+(a.Outs.length:Int)))+(a.Cancel.length:Int))))||(100<(a.Name.size:Int))))] Z ⟨(tc_ l),(cb_ (We l Z))⟩<|M Z)<|H f [1] Z<|I h (λa3 h=>J f [.T,9] Z a3<|rR_ h Z) λa3 h=>J f [.F,9] Z a3<|lq_ h (λst=>⟨[lk_ 1,(3,.I e),(7,.I (Qi ((Qi ((Qi ((Qi (g+(a.Vars.length:Int)))+(a.Ins.length:Int)))+(a.Outs.length:Int)))+(a.Cancel.length:Int)))),(8,.I k),lk_ 9,(10,.I st)],[(1,.var (Qa i)),(9,.var (Qh a))]⟩) (λq=>(.ret,⟨[(2,.b false)],[]⟩)) (λq=>(.exit 8,⟨[lk_ 1,(3,.I e),(7,.I (Qi ((Qi ((Qi ((Qi (g+(a.Vars.length:Int)))+(a.Ins.length:Int)))+(a.Outs.length:Int)))+(a.Cancel.length:Int)))),(8,.I k),lk_ 9],[(1,.var (Qa i)),(9,.var (Qh a))]⟩)) Z (λe5 o h=>J f [6,.o (.ln a.Vars.length),3] Z Qc<|I h (λa4 h=>B h λd7 c5 h=>K f [.T,9,.o (.row (Xi d7)),6] Z a4 (Xd c5)<|I h (λa5 h=>J f [.T,8] Z a5<|rR_ h Z) λa5 h=>J f [.F,8] Z a5<|rN_ h Z) λa4 h=>J f [.F,2] Z a4<|rX_ h Z) (λ_ h=>H f [4] Z<|rR_ h Z) (λ_ h=>B h λd8 c6 h=>K f [5,.A (Qu a.Guard),.o (.C1 (.b d8)),10] Z Z (Pr _ _ c6)<|lp_ h (λst=>⟨[lk_ 1,(3,.I e),(7,.I (Qi ((Qi ((Qi ((Qi (g+(a.Vars.length:Int)))+(a.Ins.length:Int)))+(a.Outs.length:Int)))+(a.Cancel.length:Int)))),(8,.I k),lk_ 9,(11,.b st.1),(12,.I st.2)],[(1,.var (Qa i)),(9,.var (Qh a))]⟩) (λq=>(.exit 10,⟨[lk_ 1,(3,.I e),(7,.I (Qi ((Qi ((Qi ((Qi (g+(a.Vars.length:Int)))+(a.Ins.length:Int)))+(a.Outs.length:Int)))+(a.Cancel.length:Int)))),(8,.I k),lk_ 9,(11,.b q)],[(1,.var (Qa i)),(9,.var (Qh a))]⟩)) Z (λ⟨s,d9⟩ o h=>J f [6,.o (.ln a.Ins.length),3] Z Qc<|I h (λa6 h=>B h λc7 c8 h=>B h λa9 c9 h=>g4_ f [.T,9,.o (.row (Xj c7)),1,.A (Qu c7.Expr),.o (.C1 (.b a9)),3] Z a6 (Xd c8) Z (Pr _ _ c9)<|Y ⟨[lk_ 1,(3,.I e),(7,.I (Qi ((Qi ((Qi ((Qi (g+(a.Vars.length:Int)))+(a.Ins.length:Int)))+(a.Outs.length:Int)))+(a.Cancel.length:Int)))),(8,.I k),lk_ 9,(11,.b (s&&a9)),(12,.I d9)],[(1,.var (Qa i)),(9,.var (Qh a))]⟩ (H f [3] Z<|bO_ s (λm=>G f [.S 176 (.b true),4,.S 11 (.b (s&&a9))] Z ⟨(tc_ m),(cb_ (Ju m Z))⟩<|M Z) λm=>G f [.S 176 (.b false),4,.S 11 (.b (s&&a9))] Z ⟨(tc_ m),(cb_ (WM m Z))⟩<|M Z)<|H f [7] Z<|rN_ h Z) λa6 h=>J f [.F,2] Z a6<|rX_ h Z) λe1 h=>H f [9] Z<|lp_ h (λst=>⟨[lk_ 1,(3,.I e),(7,.I (Qi ((Qi ((Qi ((Qi (g+(a.Vars.length:Int)))+(a.Ins.length:Int)))+(a.Outs.length:Int)))+(a.Cancel.length:Int)))),(8,.I k),lk_ 9,(11,.b st.1),(14,.I st.2)],[(1,.var (Qa i)),(9,.var (Qh a))]⟩) (λq=>(.exit 12,⟨[lk_ 1,(3,.I e),(7,.I (Qi ((Qi ((Qi ((Qi (g+(a.Vars.length:Int)))+(a.Ins.length:Int)))+(a.Outs.length:Int)))+(a.Cancel.length:Int)))),(8,.I k),(11,.b q)],[(1,.var (Qa i))]⟩)) Z (λ⟨t,e0⟩ o h=>J f [6,.o (.ln a.Outs.length),3] Z Qc<|I h (λa7 h=>B h λd0 d1 h=>B h λb0 d2 h=>g4_ f [.T,9,.o (.row (Xj d0)),1,.A (Qu d0.Expr),.o (.C1 (.b b0)),3] Z a7 (Xd d1) Z (Pr _ _ d2)<|Y ⟨[lk_ 1,(3,.I e),(7,.I (Qi ((Qi ((Qi ((Qi (g+(a.Vars.length:Int)))+(a.Ins.length:Int)))+(a.Outs.length:Int)))+(a.Cancel.length:Int)))),(8,.I k),lk_ 9,(11,.b (t&&b0)),(14,.I e0)],[(1,.var (Qa i)),(9,.var (Qh a))]⟩ (H f [3] Z<|bO_ t (λp=>G f [.S 194 (.b true),4,.S 11 (.b (t&&b0))] Z ⟨(tc_ p),(cb_ (Ju p Z))⟩<|M Z) λp=>G f [.S 194 (.b false),4,.S 11 (.b (t&&b0))] Z ⟨(tc_ p),(cb_ (WM p Z))⟩<|M Z)<|H f [7] Z<|rN_ h Z) λa7 h=>J f [.F,2] Z a7<|rX_ h Z) λe2 h=>H f [8] Z<|I h (λa8 h=>J f [.T,8] Z a8<|rR_ h Z) λa8 h=>J f [.F,8] Z a8<|rN_ h Z)) λa2 h=>J f [.F,2] Z a2<|rX_ h Z) (λ_ h=>H f [2] Z<|E h Z U) (λ_ h=>H f [10] Z<|E h Z U)))
def Pv (c:QMk)(d:Int)(a:Int):O_ ((Int×Int)⊕Int):=bif ((a<(c.length:Int))&&(a<100))then (idx c a).bind λb=>some (.inl ((Qi (d+(b.length:Int))),(Qi (a+1))))else some (.inr d)
def Qhr (a:QMk)(b:Int):O_ Bool:=some (((a.length:Int)<=70)&&(b<=300))
def PR (a:QMk):O_ Bool:=(QE (λst=>Pv a st.1 st.2) (0,0)).bind (λq=>Qhr a q)
def Qhs (c):CT 84 [.sl 1 (c.map Qe)] [] (PR c) V.b no_:=
 W 29 func84 Z λC d r h=>H d [17] Z<|lp_ h (λst=>⟨[(0,.sl 1 (c.map Qe)),(3,.I st.1),(4,.I st.2)],[]⟩) (λq=>(.exit 0,⟨[(0,.sl 1 (c.map Qe)),(3,.I q)],[]⟩)) Z (λ⟨l,g⟩ o h=>H d [2] Z<|Y ⟨[(0,.sl 1 (c.map Qe)),(3,.I l),(4,.I g),(12,.b ((g<(c.length:Int))&&(g<100)))],[]⟩ (J d [3,.o (.ln c.length),2] Z Qc<|bO_ (decide (g<(c.length:Int))) (λe=>G d [.S 9 (.b true),4,.S 12 (.b ((g<(c.length:Int))&&(g<100)))] Z ⟨(tc_ e),(cb_ (Ju e Z))⟩<|M Z) λe=>G d [.S 9 (.b false),4,.S 12 (.b ((g<(c.length:Int))&&(g<100)))] Z ⟨(tc_ e),(cb_ (WM e Z))⟩<|M Z)<|H d [1] Z<|I h (λf h=>B h λi j h=>g3_ d [.T,8,.o (.row (Qe i)),1,.o (.ln i.length),10] Z f (Xd j) Qc<|rN_ h Z) λf h=>J d [.F,2] Z f<|rX_ h Z) λk h=>H d [3] Z<|Y ⟨[(2,.b (((c.length:Int)<=70)&&(k<=300)))],[]⟩ (J d [2,.o (.ln c.length),2] Z Qc<|bO_ (decide ((c.length:Int)<=70)) (λa=>G d [.S 25 (.b true),5,.S 2 (.b (((c.length:Int)<=70)&&(k<=300)))] Z ⟨(tc_ a),(cb_ (Ju a Z))⟩<|M Z) λa=>G d [.S 25 (.b false),5,.S 2 (.b (((c.length:Int)<=70)&&(k<=300)))] Z ⟨(tc_ a),(cb_ (WM a Z))⟩<|M Z)<|H d [2] Z<|E h Z U
def ME (a:Qf):O_ Bool:=some (((a.Places.length:Int)<=64)&&((a.Tasks.length:Int)<=64))
def Qe6 (a):CT 134 [.L 618] [(618,.var (Qa a))] (ME a) V.b (λ_=>[(618,.var (Qa a))]):=
 W 12 func134 Z λC d r h=>H d [6] Z<|Y ⟨[(1,.b (((a.Places.length:Int)<=64)&&((a.Tasks.length:Int)<=64)))],[(618,.var (Qa a))]⟩ (J d [3,.o (.ln a.Places.length),2] Z Qc<|bO_ (decide ((a.Places.length:Int)<=64)) (λc=>G d [.S 6 (.b true),2,.o (.ln a.Tasks.length),4,.S 1 (.b (((a.Places.length:Int)<=64)&&((a.Tasks.length:Int)<=64)))] Z ⟨⟨(tc_ c),Qc⟩,(cb_ (Ju c Z))⟩<|M Z) λc=>G d [.S 6 (.b false),7,.S 1 (.b (((a.Places.length:Int)<=64)&&((a.Tasks.length:Int)<=64)))] Z ⟨(tc_ c),(cb_ (WM c Z))⟩<|M Z)<|H d [2] Z<|E h Z r1_
def YG (b:(L_ QP))(a:Int):O_ Bool:=some ((0<=a)&&(a<(b.length:Int)))
def JW (d c):CT 136 [.sl 3 (d.map Qq),.I c] [] (YG d c) V.b no_:=
 W 13 func136 Z λC e r h=>H e [6] Z<|Y ⟨[(4,.b ((0<=c)&&(c<(d.length:Int))))],[]⟩ (H e [4] Z<|bO_ (decide (0<=c)) (λa=>G e [.S 7 (.b true),2,.o (.ln d.length),4,.S 4 (.b ((0<=c)&&(c<(d.length:Int))))] Z ⟨⟨(tc_ a),Qc⟩,(cb_ (Ju a Z))⟩<|M Z) λa=>G e [.S 7 (.b false),7,.S 4 (.b ((0<=c)&&(c<(d.length:Int))))] Z ⟨(tc_ a),(cb_ (WM a Z))⟩<|M Z)<|H e [2] Z<|E h Z U
def TE (a:Qf):O_ Bool:=(YG a.Places a.From).bind λb=>bif b then (YG a.Places a.To).bind λc=>some c else some false
def TF (a:Bool):O_ Bool:=some a
def MF (a:Qf):O_ Bool:=(TE a).bind (λb=>TF b)
def Qe7 (f):CT 135 [.L 618] [(618,.var (Qa f))] (MF f) V.b (λ_=>[(618,.var (Qa f))]):=
 W 14 func135 Z λC e r h=>H e [6] Z<|mV_ h (λg=>⟨[(1,.b g)],[(618,.var (Qa f))]⟩) (λg h=>B h λk i h=>J e [5,.o (.C2 (.b k)),1] Z (JW _ _ _ i)<|I h (λa h=>B h λl j h=>G e [.S 7 (.b true),4,.o (.C2 (.b l)),3] Z ⟨(tc_ a),(JW _ _ _ j)⟩<|mq_ h Z) λa h=>L e [.S 7 (.b false),8] Z a<|mq_ h Z) λg h=>H e [2] Z<|E h Z r1_
def MG (a:Qf):O_ Bool:=some (a.From != a.To)
def Qe8 (a):CT 137 [.L 618] [(618,.var (Qa a))] (MG a) V.b (λ_=>[(618,.var (Qa a))]):=
 W 7 func137 Z λC c r h=>H c [16] Z<|E h Z r1_
def MH (a:Qf)(c:Int)(d:Int)(e:Int):O_ Int:=(ME a).bind λf=>bif (!f)then some c else (MF a).bind λg=>bif (!g)then some d else (MG a).bind λb=>bif (!b)then some e else some 0
def Qe9 (i l m p):CT 133 [.own 618 3] [(618,.var [.clo (.func 134) [] [.L 619],.I l,.clo (.func 135) [] [.L 619],.I m,.clo (.func 137) [] [.L 619],.I p]),(619,.var (Qa i))] (MH i l m p) V.I (λ_=>[(618,.var [.clo (.func 134) [] [.L 619],.I l,.clo (.func 135) [] [.L 619],.I m,.clo (.func 137) [] [.L 619],.I p]),(619,.var (Qa i))]):=
 W 18 func133 Z λC a r h=>H a [14] Z<|AK.loopN 4<|AK.rnd<|B h λu q h=>g4_ a [2,.v .no [] (.b true),10,.o (.any (.L 618) none),3,.O 4 (.var [.clo (.func 134) [] [.L 619],.I l]),6,.cm (.clo) [(618,619)] [(619,618)] [] [.d] [(618,.var (Qa i))] (.b u),3] Z Z (λσ f j _=>Stp.idxV Z Z (QU a.n Z) (f _ _ Z) (f _ _ Z) (Qw.es Z) (j _ _ Z) (by decide)) Z (Qe6 _ _ q)<|I h (λg h=>J a [.T,13] Z g<|E h Z r2_) λg h=>K a [.F,4,.v .no [] (.I 1),2] Z g Z<|AK.met<|AK.rnd<|B h λw s h=>g4_ a [2,.v .no [] (.b true),10,.o (.any (.loc 618 0 2) none),1,.kill 4,2,.O 4 (.var [.clo (.func 135) [] [.L 619],.I m]),6,.cm (.clo) [(618,619)] [(619,618)] [] [.d] [(618,.var (Qa i))] (.b w),3] Z Z (λσ f j _=>Stp.idxV Z Z (QU a.n Z) (f _ _ Z) (f _ _ Z) (Qw.es Z) (j _ _ Z) (by decide)) Z (Qe7 _ _ s)<|I h (λc h=>J a [.T,13] Z c<|E h Z r2_) λc h=>K a [.F,4,.v .no [] (.I 2),2] Z c Z<|AK.met<|AK.rnd<|B h λt k h=>g4_ a [2,.v .no [] (.b true),10,.o (.any (.loc 618 0 4) none),1,.kill 4,2,.O 4 (.var [.clo (.func 137) [] [.L 619],.I p]),6,.cm (.clo) [(618,619)] [(619,618)] [] [.d] [(618,.var (Qa i))] (.b t),3] Z Z (λσ f j _=>Stp.idxV Z Z (QU a.n Z) (f _ _ Z) (f _ _ Z) (Qw.es Z) (j _ _ Z) (by decide)) Z (Qe8 _ _ k)<|I h (λe h=>J a [.T,13] Z e<|E h Z r2_) λe h=>K a [.F,4,.v .no [] (.I 3),2] Z e Z<|AK.met<|AK.rnd<|J a [2,.v .no [] (.b false),15] Z Z<|E h Z r2_
def Lb (a:(L_ QL)):O_ Bool:=(BM a).bind λb=>some b.2
def Qd4 (e):CT 189 [.sl 7 (e.map Qr)] [] (Lb e) V.b no_:=
 W 11 func189 Z λC g r h=>B h λf a h=>J g [8,.o (.C1 (.tup [.sl 1 (f.1.map Qb),.b f.2])),14] Z (RU _ _ a)<|E h Z U
def UG (b:Qf)(a:Int):O_ Bool:=(chk (decide (0<=(Qi (a+1)))&&decide (0<=(Qi (a+1)).toNat)&&decide ((Qi (a+1)).toNat<=b.Colours.length))).bind λ_=>(Lb ((b.Colours.drop 0).take ((Qi (a+1)).toNat-0))).bind λc=>some c
def ZJ (e f):CT 188 [.L 618,.L 619] [(618,.var (Qa e)),(619,.var (Qb f))] (UG e f) V.b (λ_=>[(618,.var (Qa e)),(619,.var (Qb f))]):=
 W 9 func188 Z λC i r h=>X h λa h=>B h λk g h=>K i [11,.o (.any (.sl 7 (((e.Colours.drop 0).take ((Qi (f+1)).toNat-0)).map Qr)) none),.o (.C1 (.b k)),4] Z (λσ j l _=>Stp.sliceD Z Z (QU i.n Z) (j _ _ Z) (Qw.es Z) EX.no (EX.val (j _ _ Z) (Xw (Qcs a)) Z) (Xw (Qct a)) (Ym (Xw (Qcu a)) (Nat.le_of_eq Qc.symm)) QfS) (Qd4 _ _ g)<|E h Z r2_
def TG (x:ByteArray):O_ (L_ ByteArray):=(chk (Qjd x)).bind λ_=>some (Ab x)
def QbY (x){r}(h:TG x=some r):QX prog 308 [.s x] [] (Gives (.own 600 r.length) [(600,.arr 1 (r.map DW))]):=by
 obtain⟨_,a,h⟩:=Qz h
 cases h
 exact Qia QlS (by kernel_rfl) (by kernel_rfl) x (QgY a)
def Fu  : O_ (L_ ByteArray):=(TG (⟨#[99,111,108,111,117,114,32,112,108,97,99,101,32,116,97,115,107,32,118,97,114,32,119,104,101,110,32,106,111,105,110,32,115,112,108,105,116,32,105,110,32,111,117,116,32,99,97,110,99,101,108,32,97,102,116,101,114,32,109,97,110,121,32,102,114,111,109,32,116,111,32,105,110,116,32,101,110,117,109,32,112,97,105,114,32,97,110,100,32,120,111,114,32,111,114,32,105,102]⟩:ByteArray)).bind λa=>some a
def Qfa  : CT 288 [] [] (Fu ) (λr=>(.own 600 r.length)) (λr=>[(600,.arr 1 (r.map DW))]):=
 W 2 func288 Z λC c r h=>B h λb a h=>J c [7,.o (.co false [.d] 1 (b.map DW) b.length),4,.K [0] [1],.ren 1 600] Z ⟨(QbY _ a),Qc,.inl Z⟩<|E h Z r1_
def Dj (b:(L_ ByteArray))(c:ByteArray)(a:Int):O_ (Int⊕(Int⊕Unit)):=bif (a<(b.length:Int))then (idx b a).bind λd=>bif (CB c d)then some (.inr (.inl a))else some (.inl (Qi (a+1)))else some (.inr (.inr ()))
def Dk (a:Int):O_ Int:=some a
def Dl : O_ Int:=some (-1)
def Wl (a:(L_ ByteArray))(b:ByteArray):O_ Int:=(QE (λst=>Dj a b st) 0).bind (Sum.elim (λq=>Dk q) (λq=>Dl))
def NA (d e):CT 307 [.sl 1 (d.map DW),.s e] [] (Wl d e) V.I no_:=
 W 19 func307 Z λC b r h=>J b [9,.o (.ln d.length),4] Z Qc<|lq_ h (λst=>⟨[(0,.sl 1 (d.map DW)),(1,.s e),(7,.I (d.length:Int)),(8,.I st)],[]⟩) (λq=>(.ret,⟨[(4,.I q)],[]⟩)) (λq=>(.exit 0,⟨[],[]⟩)) Z (λi o h=>H b [6] Z<|I h (λc h=>B h λg f h=>K b [.T,15,.o (.row (DW g)),4] Z c (Xd f)<|I h (λa h=>J b [.T,9] Z a<|rR_ h Z) λa h=>J b [.F,7] Z a<|rN_ h Z) λc h=>J b [.F,2] Z c<|rX_ h Z) (λj h=>H b [2] Z<|E h Z U) (λ_ h=>H b [8] Z<|E h Z U)
def Kd (a:(L_ ByteArray))(b:ByteArray):O_ Bool:=(Wl a b).bind λc=>some (decide (0<=c))
def LK (e f):CT 287 [.sl 1 (e.map DW),.s f] [] (Kd e f) V.b no_:=
 W 9 func287 Z λC g r h=>B h λi a h=>J g [9,.o (.C2 (.I i)),5] Z (NA _ _ _ a)<|E h Z U
def OC (a:ByteArray):O_ Bool:=(Fu).bind λb=>(Kd b a).bind λc=>some c
def Qgg (g):CT 239 [.s g] [] (OC g) V.b no_:=
 W 6 func239 Z λC i r h=>B h λa e h=>B h λj f h=>K i [7,.o (.co false [] 1 (a.map DW) a.length),1,.o (.c true [.o (a.map DW),.d] (.b j)),4] Z ⟨(Qfa _  e),Qc,.inl Z⟩ ⟨(OY Z),(LK _ _ _ f)⟩<|E h Z U
def VW (a:ByteArray):O_ Bool:=(Ae a).bind λb=>bif b then (OC a).bind λc=>some (!c)else some false
def VX (a:Bool):O_ Bool:=some a
def GP (a:ByteArray):O_ Bool:=(VW a).bind (λb=>VX b)
def AJ (j):CT 185 [.s j] [] (GP j) V.b no_:=
 W 10 func185 Z λC e r h=>H e [6] Z<|mV_ h (λf=>⟨[(2,.b f)],[]⟩) (λf h=>B h λk g h=>J e [2,.o (.C1 (.b k)),1] Z (MV _ _ g)<|I h (λa h=>B h λl i h=>G e [.S 5 (.b true),1,.o (.C1 (.b l)),4] Z ⟨(tc_ a),(Qgg _ _ i)⟩<|mq_ h Z) λa h=>L e [.S 5 (.b false),6] Z a<|mq_ h Z) λf h=>H e [2] Z<|E h Z U
def Ed (a:ByteArray):O_ Bool:=(GP a).bind λb=>some (!b)
def TH (e):CT 187 [.s e] [] (Ed e) V.b no_:=
 W 6 func187 Z λC f r h=>B h λg a h=>J f [8,.o (.C1 (.b g)),5] Z (AJ _ _ a)<|E h Z U
def Wm (b:(L_ ByteArray))(a:Int):O_ (Int⊕(Int⊕Unit)):=bif (a<(b.length:Int))then (idx b a).bind λc=>(Ed c).bind λd=>bif d then some (.inr (.inl a))else some (.inl (Qi (a+1)))else some (.inr (.inr ()))
def Wn (a:Int):O_ Int:=some a
def Wo : O_ Int:=some (-1)
def JR (a:(L_ ByteArray)):O_ Int:=(QE (λst=>Wm a st) 0).bind (Sum.elim (λq=>Wn q) (λq=>Wo))
def Lc (g):CT 240 [.sl 1 (g.map DW),.clo (.func 187) [] []] [] (JR g) V.I no_:=
 W 19 func240 Z λC e r h=>J e [9,.o (.ln g.length),4] Z Qc<|lq_ h (λst=>⟨[(0,.sl 1 (g.map DW)),(1,.clo (.func 187) [] []),(7,.I (g.length:Int)),(8,.I st)],[]⟩) (λq=>(.ret,⟨[(4,.I q)],[]⟩)) (λq=>(.exit 0,⟨[],[]⟩)) Z (λm o h=>H e [6] Z<|I h (λf h=>B h λk i h=>B h λl j h=>g3_ e [.T,15,.o (.row (DW k)),1,.o (.C1 (.b l)),2] Z f (Xd i) (TH _ _ j)<|I h (λa h=>J e [.T,9] Z a<|rR_ h Z) λa h=>J e [.F,7] Z a<|rN_ h Z) λf h=>J e [.F,2] Z f<|rX_ h Z) (λp h=>H e [2] Z<|E h Z U) (λ_ h=>H e [8] Z<|E h Z U)
def Js (a:(L_ ByteArray)):O_ Bool:=(JR a).bind λb=>some (decide (0<=b))
def FV (c):CT 186 [.sl 1 (c.map DW),.clo (.func 187) [] []] [] (Js c) V.b no_:=
 W 9 func186 Z λC e r h=>B h λf a h=>J e [9,.cm (.fn) [] [] [] [.d,.d] [] (.I f),5] Z (Lc _ _ a)<|E h Z U
def Mi (a:QL):O_ Bool:=(GP a.Name).bind λb=>bif b then bif (a.Kind != 2)then some true else (Js a.Names).bind λc=>some (!c)else some false
def Mj (a:Bool):O_ Bool:=some a
def UH (a:QL):O_ Bool:=(Mi a).bind (λb=>Mj b)
def ZK (g):CT 184 [.L 618] [(618,.var (Qr g))] (UH g) V.b (λ_=>[(618,.var (Qr g))]):=
 W 16 func184 Z λC a r h=>H a [6] Z<|mV_ h (λi=>⟨[(1,.b i)],[(618,.var (Qr g))]⟩) (λi h=>B h λl j h=>J a [3,.o (.C1 (.b l)),1] Z (AJ _ _ j)<|I h (λe h=>L a [.S 5 (.b true),4] Z e<|I h (λf h=>L a [.S 9 (.b true),8] Z f<|mq_ h Z) λf h=>B h λm k h=>G a [.S 9 (.b false),2,.cm (.fn) [] [] [] [.d,.d] [] (.b m),5] Z ⟨(tc_ f),(FV _ _ k)⟩<|mq_ h Z) λe h=>L a [.S 5 (.b false),12] Z e<|mq_ h Z) λi h=>H a [2] Z<|E h Z r1_
def CO (b:Qf)(c:Int)(d:Int)(e:QL)(f:Int):O_ Int:=(UG b c).bind λg=>bif (!g)then some d else (UH e).bind λa=>bif (!a)then some f else some 0
def QbZ (i j k l m):CT 133 [.own 618 2] [(618,.var [.clo (.func 188) [] [.L 619,.L 620],.I k,.clo (.func 184) [] [.L 621],.I m]),(619,.var (Qa i)),(620,.var (Qb j)),(621,.var (Qr l))] (CO i j k l m) V.I (λ_=>[(618,.var [.clo (.func 188) [] [.L 619,.L 620],.I k,.clo (.func 184) [] [.L 621],.I m]),(619,.var (Qa i)),(620,.var (Qb j)),(621,.var (Qr l))]):=
 W 18 func133 Z λC c r h=>H c [14] Z<|AK.loopN 3<|AK.rnd<|B h λt p h=>g4_ c [2,.v .no [] (.b true),10,.o (.any (.L 618) none),3,.O 4 (.var [.clo (.func 188) [] [.L 619,.L 620],.I k]),6,.cm (.clo) [(618,619),(619,620)] [(619,618),(620,619)] [] [.d,.d] [(618,.var (Qa i)),(619,.var (Qb j))] (.b t),3] Z Z (λσ f q _=>Stp.idxV Z Z (QU c.n Z) (f _ _ Z) (f _ _ Z) (Qw.es Z) (q _ _ Z) (by decide)) Z (ZJ _ _ _ p)<|I h (λe h=>J c [.T,13] Z e<|E h Z r4_) λe h=>K c [.F,4,.v .no [] (.I 1),2] Z e Z<|AK.met<|AK.rnd<|B h λs g h=>g4_ c [2,.v .no [] (.b true),10,.o (.any (.loc 618 0 2) none),1,.kill 4,2,.O 4 (.var [.clo (.func 184) [] [.L 621],.I m]),6,.cm (.clo) [(618,621)] [(621,618)] [] [.d] [(618,.var (Qr l))] (.b s),3] Z Z (λσ f q _=>Stp.idxV Z Z (QU c.n Z) (f _ _ Z) (f _ _ Z) (Qw.es Z) (q _ _ Z) (by decide)) Z (ZK _ _ g)<|I h (λa h=>J c [.T,13] Z a<|E h Z r4_) λa h=>K c [.F,4,.v .no [] (.I 2),2] Z a Z<|AK.met<|AK.rnd<|J c [2,.v .no [] (.b false),15] Z Z<|E h Z r4_
def Bv (a:Int)(b:QL)(c:Qf):O_ Int:=(CO c a 8 b 8).bind λd=>some d
def Qbn (b c a):CT 183 [.I b,.agg (Qr c),.L 618] [(618,.var (Qa a))] (Bv b c a) V.I (λ_=>[(618,.var (Qa a))]):=
 W 16 func183 Z λC f r h=>B h λg e h=>g4_ f [22,.A [.clo (.func 188) [] [.L 618,.L 3],.I 8],1,.A [.clo (.func 184) [] [.L 4],.I 8],.o (.any (.own 14 2) (some (.var [.clo (.func 188) [] [.L 618,.L 3],.I 8,.clo (.func 184) [] [.L 4],.I 8]))),.cm (.fn) [(618,14),(619,618),(620,3),(621,4)] [(14,618),(618,619),(3,620),(4,621)] [] [.d] [(618,.var [.clo (.func 188) [] [.L 619,.L 620],.I 8,.clo (.func 184) [] [.L 621],.I 8]),(619,.var (Qa a)),(620,.var (Qb b)),(621,.var (Qr c))] (.I g),4] Z Z Z (λσ i j D=>Stp.buildAny Z Z (QU f.n Z) (Qw.es Z) Rf Z (by decide) (by decide) (Gf i Z) Z Z (D Z)) (QbZ _ _ _ _ _ _ e)<|E h Z r1_
def Ep (d:(L_ QL))(e:Qf)(a:Int):O_ (Int⊕((Int×Int)⊕Unit)):=bif (a<(d.length:Int))then (idx d a).bind λc=>(Bv a c e).bind λb=>bif (b != 0)then some (.inr (.inl (a,b)))else some (.inl (Qi (a+1)))else some (.inr (.inr ()))
def Er (b:Int)(a:Int):O_ (Int×Int):=some (b,a)
def Es : O_ (Int×Int):=some (0,0)
def DX (a:(L_ QL))(b:Qf):O_ (Int×Int):=(QE (λst=>Ep a b st) 0).bind (Sum.elim (λq=>Er q.1 q.2) (λq=>Es))
def RL (g f):CT 182 [.sl 7 (g.map Qr),.clo (.func 183) [] [.L 618]] [(618,.var (Qa f))] (DX g f) (λr=>(.tup [.I r.1,.I r.2])) (λ_=>[(618,.var (Qa f))]):=
 W 25 func182 Z λC e r h=>J e [10,.o (.ln g.length),4] Z Qc<|lq_ h (λst=>⟨[(1,.clo (.func 183) [] [.L 618]),(9,.sl 7 (g.map Qr)),(10,.I (g.length:Int)),(11,.I st)],[(618,.var (Qa f))]⟩) (λq=>(.ret,⟨[(4,.I q.1),(5,.I q.2)],[(618,.var (Qa f))]⟩)) (λq=>(.exit 0,⟨[],[(618,.var (Qa f))]⟩)) Z (λm o h=>H e [6] Z<|I h (λa h=>B h λc i h=>B h λk j h=>G e [.T,7,.o (.row (Qr c)),.A (Qr c),3,.O 7 (.var (Qr c)),6,.A (Qr c),.cm (.clo) [(618,618)] [(618,618)] [] [.d,.d,.d] [(618,.var (Qa f))] (.I k),9] Z (a6_ a (Xd i) Z Z Z (Qbn _ _ _ _ j))<|I h (λb h=>J e [.T,11] Z b<|rR_ h Z) λb h=>J e [.F,7] Z b<|rN_ h Z) λa h=>J e [.F,2] Z a<|rX_ h Z) (λ⟨p,l⟩ h=>H e [2] Z<|F h Z Z r1_) (λ_ h=>H e [9] Z<|F h Z Z r1_)
def AM (a:Qf):O_ (Int×Int):=(DX a.Colours a).bind λb=>some (b.1,b.2)
def Ro (a):CT 138 [.agg (Qa a)] [] (AM a) (λr=>(.tup [.I r.1,.I r.2])) no_:=
 W 10 func138 Z λC e r h=>B h λc b h=>J e [12,.cm (.fn) [(618,1)] [(1,618)] [] [.d,.d] [(618,.var (Qa a))] (.tup [.I c.1,.I c.2]),7] Z (RL _ _ _ b)<|F h Z Z U
def Hs (a:QP):O_ Bool:=(GP a.Name).bind λb=>some b
def QcQ (a):CT 191 [.L 618] [(618,.var (Qq a))] (Hs a) V.b (λ_=>[(618,.var (Qq a))]):=
 W 5 func191 Z λC f r h=>B h λg e h=>J f [9,.o (.C1 (.b g)),4] Z (AJ _ _ e)<|E h Z r1_
def Ht (a:QP)(b:QP):O_ Bool:=some (CB a.Name b.Name)
def QcR (c a):CT 190 [.agg (Qq c),.L 618] [(618,.var (Qq a))] (Ht c a) V.b (λ_=>[(618,.var (Qq a))]):=
 W 9 func190 Z λC d r h=>H d [17] Z<|E h Z r1_
def JJ (c:(L_ QP))(d:QP)(a:Int):O_ (Int⊕(Int⊕Unit)):=bif (a<(c.length:Int))then (idx c a).bind λe=>(Ht e d).bind λb=>bif b then some (.inr (.inl a))else some (.inl (Qi (a+1)))else some (.inr (.inr ()))
def JK (a:Int):O_ Int:=some a
def JL : O_ Int:=some (-1)
def YV (a:(L_ QP))(b:QP):O_ Int:=(QE (λst=>JJ a b st) 0).bind (Sum.elim (λq=>JK q) (λq=>JL))
def Cr (g e):CT 242 [.sl 3 (g.map Qq),.clo (.func 190) [] [.L 618]] [(618,.var (Qq e))] (YV g e) V.I (λ_=>[(618,.var (Qq e))]):=
 W 19 func242 Z λC c r h=>J c [9,.o (.ln g.length),4] Z Qc<|lq_ h (λst=>⟨[(0,.sl 3 (g.map Qq)),(1,.clo (.func 190) [] [.L 618]),(7,.I (g.length:Int)),(8,.I st)],[(618,.var (Qq e))]⟩) (λq=>(.ret,⟨[(4,.I q)],[(618,.var (Qq e))]⟩)) (λq=>(.exit 0,⟨[],[(618,.var (Qq e))]⟩)) Z (λm o h=>H c [6] Z<|I h (λf h=>B h λl j h=>B h λk i h=>g4_ c [.T,15,.o (.row (Qq l)),.A (Qq l),.cm (.clo) [(618,618)] [(618,618)] [] [.d,.d] [(618,.var (Qq e))] (.b k),2] Z f (Xd j) Z (QcR _ _ _ i)<|I h (λa h=>J c [.T,9] Z a<|rR_ h Z) λa h=>J c [.F,7] Z a<|rN_ h Z) λf h=>J c [.F,2] Z f<|rX_ h Z) (λp h=>H c [2] Z<|E h Z r1_) (λ_ h=>H c [8] Z<|E h Z r1_)
def YK (a:(L_ QP))(b:QP):O_ Bool:=(YV a b).bind λc=>some (decide (0<=c))
def Bf (e a):CT 193 [.sl 3 (e.map Qq),.clo (.func 190) [] [.L 618]] [(618,.var (Qq a))] (YK e a) V.b (λ_=>[(618,.var (Qq a))]):=
 W 9 func193 Z λC f r h=>B h λg c h=>J f [9,.cm (.fn) [(618,618)] [(618,618)] [] [.d,.d] [(618,.var (Qq a))] (.I g),5] Z (Cr _ _ _ c)<|E h Z r1_
def Hu (b:Qf)(a:Int)(c:QP):O_ Bool:=(chk (decide (0<=a)&&decide (0<=a.toNat)&&decide (a.toNat<=b.Places.length))).bind λ_=>(YK ((b.Places.drop 0).take (a.toNat-0)) c).bind λd=>some (!d)
def QcS (f g i):CT 192 [.L 618,.L 619,.L 620] [(618,.var (Qa f)),(619,.var (Qb g)),(620,.var [.clo (.func 190) [] [.L 621]]),(621,.var (Qq i))] (Hu f g i) V.b (λ_=>[(618,.var (Qa f)),(619,.var (Qb g)),(620,.var [.clo (.func 190) [] [.L 621]]),(621,.var (Qq i))]):=
 W 11 func192 Z λC e r h=>X h λc h=>B h λl k h=>H e [6] Z <| 
  dr_ e [.N,.N,.N,.B (.any (.sl 3 (((f.Places.drop 0).take (g.toNat-0)).map Qq)) none),.N,.B (.any (.b l) none),.N,.m .s] [] [] [3] [618,619,620,621] Z Z (a2_ (λσ j o _=>Stp.sliceD Z Z (QU e.n Z) (j _ _ Z) (Qw.es Z) EX.no (EX.val (j _ _ Z) (Xw (Qcs c)) Z) (Xw (Qct c)) (Ym (Xw (Qcu c)) (Nat.le_of_eq Qc.symm)) QfS) (λσ j o _=>Stp.callSame (md:=.cm (.fn) [(618,621)] [(621,618)] [] [.d,.d] [(618,.var (Qq i))] (.b l) [621]) Qw e j o Z (a2_ (Bf _ _ _ k) r1_))) Z <|
  H e [2] Z<|E h Z r4_
def KX (b:(L_ QL))(a:Int):O_ Bool:=some ((0<=a)&&(a<(b.length:Int)))
def Cy (d c):CT 195 [.sl 7 (d.map Qr),.I c] [] (KX d c) V.b no_:=
 W 13 func195 Z λC e r h=>H e [6] Z<|Y ⟨[(4,.b ((0<=c)&&(c<(d.length:Int))))],[]⟩ (H e [4] Z<|bO_ (decide (0<=c)) (λa=>G e [.S 7 (.b true),2,.o (.ln d.length),4,.S 4 (.b ((0<=c)&&(c<(d.length:Int))))] Z ⟨⟨(tc_ a),Qc⟩,(cb_ (Ju a Z))⟩<|M Z) λa=>G e [.S 7 (.b false),7,.S 4 (.b ((0<=c)&&(c<(d.length:Int))))] Z ⟨(tc_ a),(cb_ (WM a Z))⟩<|M Z)<|H e [2] Z<|E h Z U
def Hv (a:Qf)(b:QP):O_ Bool:=(KX a.Colours b.Colour).bind λc=>some c
def QcT (a e):CT 194 [.L 618,.L 619] [(618,.var (Qa a)),(619,.var (Qq e))] (Hv a e) V.b (λ_=>[(618,.var (Qa a)),(619,.var (Qq e))]):=
 W 8 func194 Z λC g r h=>B h λi f h=>J g [11,.o (.C2 (.b i)),4] Z (Cy _ _ _ f)<|E h Z r2_
def Hw (a:QP):O_ Bool:=(Kg a.First).bind λb=>some b
def QcU (a):CT 196 [.L 618] [(618,.var (Qq a))] (Hw a) V.b (λ_=>[(618,.var (Qq a))]):=
 W 5 func196 Z λC f r h=>B h λg e h=>J f [9,.o (.C1 (.b g)),4] Z (Ue _ _ e)<|E h Z r1_
def Bw (a:(Int×Int))(b:Int):O_ Bool:=some (decide (b<=a.1))
def Qbo (a c):CT 199 [.agg (QQ a),.L 618] [(618,.var (Qb c))] (Bw a c) V.b (λ_=>[(618,.var (Qb c))]):=
 W 8 func199 Z λC d r h=>H d [16] Z<|E h Z r1_
def Wp (c:QBg)(d:Int)(a:Int):O_ (Int⊕(Int⊕Unit)):=bif (a<(c.length:Int))then (idx c a).bind λe=>(Bw e d).bind λb=>bif b then some (.inr (.inl a))else some (.inl (Qi (a+1)))else some (.inr (.inr ()))
def Wq (a:Int):O_ Int:=some a
def Wr : O_ Int:=some (-1)
def JS (a:QBg)(b:Int):O_ Int:=(QE (λst=>Wp a b st) 0).bind (Sum.elim (λq=>Wq q) (λq=>Wr))
def Ld (g e):CT 243 [.sl 2 (g.map QQ),.clo (.func 199) [] [.L 618]] [(618,.var (Qb e))] (JS g e) V.I (λ_=>[(618,.var (Qb e))]):=
 W 19 func243 Z λC c r h=>J c [9,.o (.ln g.length),4] Z Qc<|lq_ h (λst=>⟨[(0,.sl 2 (g.map QQ)),(1,.clo (.func 199) [] [.L 618]),(7,.I (g.length:Int)),(8,.I st)],[(618,.var (Qb e))]⟩) (λq=>(.ret,⟨[(4,.I q)],[(618,.var (Qb e))]⟩)) (λq=>(.exit 0,⟨[],[(618,.var (Qb e))]⟩)) Z (λm o h=>H c [6] Z<|I h (λf h=>B h λl j h=>B h λk i h=>g4_ c [.T,15,.o (.row (QQ l)),.A (QQ l),.cm (.clo) [(618,618)] [(618,618)] [] [.d,.d] [(618,.var (Qb e))] (.b k),2] Z f (Xd j) Z (Qbo _ _ _ i)<|I h (λa h=>J c [.T,9] Z a<|rR_ h Z) λa h=>J c [.F,7] Z a<|rN_ h Z) λf h=>J c [.F,2] Z f<|rX_ h Z) (λp h=>H c [2] Z<|E h Z r1_) (λ_ h=>H c [8] Z<|E h Z r1_)
def Jt (a:QBg)(b:Int):O_ Bool:=(JS a b).bind λc=>some (decide (0<=c))
def FW (e a):CT 198 [.sl 2 (e.map QQ),.clo (.func 199) [] [.L 618]] [(618,.var (Qb a))] (Jt e a) V.b (λ_=>[(618,.var (Qb a))]):=
 W 9 func198 Z λC f r h=>B h λg c h=>J f [9,.cm (.fn) [(618,618)] [(618,618)] [] [.d,.d] [(618,.var (Qb a))] (.I g),5] Z (Ld _ _ _ c)<|E h Z r1_
def Hx (b:Qf)(a:QP):O_ Bool:=(YS b.Colours a.Colour).bind λc=>(Jt a.First c).bind λd=>some (!d)
def QcV (a e):CT 197 [.L 618,.L 619] [(618,.var (Qa a)),(619,.var (Qq e))] (Hx a e) V.b (λ_=>[(618,.var (Qa a)),(619,.var (Qq e))]):=
 W 14 func197 Z λC j r h=>B h λf g h=>B h λk i h=>g3_ j [11,.o (.C2 (.I f)),2,.O 3 (.var (Qb f)),7,.cm (.fn) [(618,3)] [(3,618)] [] [.d,.d] [(618,.var (Qb f))] (.b k),5] Z (CI _ _ _ g) Z (FW _ _ _ i)<|E h Z r2_
def CP (a:QP)(h:Int)(b:Qf)(i:Int)(j:Int)(k:Int)(l:Int)(m:Int):O_ Int:=(Hs a).bind λc=>bif (!c)then some h else (Hu b i a).bind λd=>bif (!d)then some j else (Hv b a).bind λe=>bif (!e)then some k else (Hw a).bind λf=>bif (!f)then some l else (Hx b a).bind λg=>bif (!g)then some m else some 0
def Qb0 (l w m x y z D N):CT 133 [.own 618 5] [(618,.var [.clo (.func 191) [] [.L 619],.I w,.clo (.func 192) [] [.L 620,.L 621,.L 622],.I y,.clo (.func 194) [] [.L 620,.L 619],.I z,.clo (.func 196) [] [.L 619],.I D,.clo (.func 197) [] [.L 620,.L 619],.I N]),(619,.var (Qq l)),(620,.var (Qa m)),(621,.var (Qb x)),(622,.var [.clo (.func 190) [] [.L 619]])] (CP l w m x y z D N) V.I (λ_=>[(618,.var [.clo (.func 191) [] [.L 619],.I w,.clo (.func 192) [] [.L 620,.L 621,.L 622],.I y,.clo (.func 194) [] [.L 620,.L 619],.I z,.clo (.func 196) [] [.L 619],.I D,.clo (.func 197) [] [.L 620,.L 619],.I N]),(619,.var (Qq l)),(620,.var (Qa m)),(621,.var (Qb x)),(622,.var [.clo (.func 190) [] [.L 619]])]):=
 W 18 func133 Z λC a r h=>H a [14] Z<|AK.loopN 6<|AK.rnd<|B h λP p h=>g4_ a [2,.v .no [] (.b true),10,.o (.any (.L 618) none),3,.O 4 (.var [.clo (.func 191) [] [.L 619],.I w]),6,.cm (.clo) [(618,619)] [(619,618)] [] [.d] [(618,.var (Qq l))] (.b P),3] Z Z (λσ c k _=>Stp.idxV Z Z (QU a.n Z) (c _ _ Z) (c _ _ Z) (Qw.es Z) (k _ _ Z) (by decide)) Z (QcQ _ _ p)<|I h (λe h=>J a [.T,13] Z e<|E h Z r5_) λe h=>K a [.F,4,.v .no [] (.I 1),2] Z e Z<|AK.met<|AK.rnd<|B h λS q h=>g4_ a [2,.v .no [] (.b true),10,.o (.any (.loc 618 0 2) none),1,.kill 4,2,.O 4 (.var [.clo (.func 192) [] [.L 620,.L 621,.L 622],.I y]),6,.cm (.clo) [(618,620),(619,621),(620,622),(621,619)] [(620,618),(621,619),(622,620),(619,621)] [] [.d,.d,.d] [(618,.var (Qa m)),(619,.var (Qb x)),(620,.var [.clo (.func 190) [] [.L 621]]),(621,.var (Qq l))] (.b S),3] Z Z (λσ c k _=>Stp.idxV Z Z (QU a.n Z) (c _ _ Z) (c _ _ Z) (Qw.es Z) (k _ _ Z) (by decide)) Z (QcS _ _ _ _ q)<|I h (λf h=>J a [.T,13] Z f<|E h Z r5_) λf h=>K a [.F,4,.v .no [] (.I 2),2] Z f Z<|AK.met<|AK.rnd<|B h λa0 s h=>g4_ a [2,.v .no [] (.b true),10,.o (.any (.loc 618 0 4) none),1,.kill 4,2,.O 4 (.var [.clo (.func 194) [] [.L 620,.L 619],.I z]),6,.cm (.clo) [(618,620),(619,619)] [(620,618),(619,619)] [] [.d,.d] [(618,.var (Qa m)),(619,.var (Qq l))] (.b a0),3] Z Z (λσ c k _=>Stp.idxV Z Z (QU a.n Z) (c _ _ Z) (c _ _ Z) (Qw.es Z) (k _ _ Z) (by decide)) Z (QcT _ _ _ s)<|I h (λg h=>J a [.T,13] Z g<|E h Z r5_) λg h=>K a [.F,4,.v .no [] (.I 3),2] Z g Z<|AK.met<|AK.rnd<|B h λa1 t h=>g4_ a [2,.v .no [] (.b true),10,.o (.any (.loc 618 0 6) none),1,.kill 4,2,.O 4 (.var [.clo (.func 196) [] [.L 619],.I D]),6,.cm (.clo) [(618,619)] [(619,618)] [] [.d] [(618,.var (Qq l))] (.b a1),3] Z Z (λσ c k _=>Stp.idxV Z Z (QU a.n Z) (c _ _ Z) (c _ _ Z) (Qw.es Z) (k _ _ Z) (by decide)) Z (QcU _ _ t)<|I h (λi h=>J a [.T,13] Z i<|E h Z r5_) λi h=>K a [.F,4,.v .no [] (.I 4),2] Z i Z<|AK.met<|AK.rnd<|B h λa2 u h=>g4_ a [2,.v .no [] (.b true),10,.o (.any (.loc 618 0 8) none),1,.kill 4,2,.O 4 (.var [.clo (.func 197) [] [.L 620,.L 619],.I N]),6,.cm (.clo) [(618,620),(619,619)] [(620,618),(619,619)] [] [.d,.d] [(618,.var (Qa m)),(619,.var (Qq l))] (.b a2),3] Z Z (λσ c k _=>Stp.idxV Z Z (QU a.n Z) (c _ _ Z) (c _ _ Z) (Qw.es Z) (k _ _ Z) (by decide)) Z (QcV _ _ _ u)<|I h (λj h=>J a [.T,13] Z j<|E h Z r5_) λj h=>K a [.F,4,.v .no [] (.I 5),2] Z j Z<|AK.met<|AK.rnd<|J a [2,.v .no [] (.b false),15] Z Z<|E h Z r5_
def MI (a:Qf)(b:Int):O_ Int:=(YG a.Places b).bind λc=>bif (!c)then some 3 else (idx a.Places b).bind λd=>(CP d 1 a b 5 3 1 8).bind λe=>some e
def Qfb (g i):CT 141 [.agg (Qa g),.I i] [] (MI g i) V.I no_:=
 W 30 func141 Z λC e r h=>B h λm j h=>J e [13,.o (.C2 (.b m)),3] Z (JW _ _ _ j)<|I h (λa h=>J e [.T,7] Z a<|E h Z U) λa h=>B h λf k h=>B h λp l h=>G e [.F,7,.o (.row (Qq f)),.A (Qq f),2,.O 5 (.var (Qq f)),7,.O 6 (.var [.clo (.func 190) [] [.L 5]]),5,.A [.clo (.func 191) [] [.L 5],.I 1],1,.A [.clo (.func 192) [] [.L 2,.L 3,.L 6],.I 5],1,.A [.clo (.func 194) [] [.L 2,.L 5],.I 3],1,.A [.clo (.func 196) [] [.L 5],.I 1],1,.A [.clo (.func 197) [] [.L 2,.L 5],.I 8],.o (.any (.own 28 5) (some (.var [.clo (.func 191) [] [.L 5],.I 1,.clo (.func 192) [] [.L 2,.L 3,.L 6],.I 5,.clo (.func 194) [] [.L 2,.L 5],.I 3,.clo (.func 196) [] [.L 5],.I 1,.clo (.func 197) [] [.L 2,.L 5],.I 8]))),.cm (.fn) [(618,28),(619,5),(620,2),(621,3),(622,6)] [(28,618),(5,619),(2,620),(3,621),(6,622)] [] [.d] [(618,.var [.clo (.func 191) [] [.L 619],.I 1,.clo (.func 192) [] [.L 620,.L 621,.L 622],.I 5,.clo (.func 194) [] [.L 620,.L 619],.I 3,.clo (.func 196) [] [.L 619],.I 1,.clo (.func 197) [] [.L 620,.L 619],.I 8]),(619,.var (Qq f)),(620,.var (Qa g)),(621,.var (Qb i)),(622,.var [.clo (.func 190) [] [.L 619]])] (.I p),4] Z (aC_ a (Xd k) Z Z Z Z Z Z Z Z (λσ q s D=>Stp.buildAny Z Z (QU e.n Z) (Qw.es Z) Rf Z (by decide) (by decide) (Gf q Z) Z Z (D Z)) (Qb0 _ _ _ _ _ _ _ _ _ l))<|E h Z U
def MJ (a:Int)(d:QP)(b:Qf):O_ Int:=(MI b a).bind λc=>some c
def Qfc (e f a):CT 140 [.I e,.agg (Qq f),.L 618] [(618,.var (Qa a))] (MJ e f a) V.I (λ_=>[(618,.var (Qa a))]):=
 W 9 func140 Z λC g r h=>B h λi b h=>K g [8,.A (Qa a),1,.o (.C2 (.I i)),4] Z Z (Qfb _ _ _ b)<|E h Z r1_
def EO (d:(L_ QP))(e:Qf)(a:Int):O_ (Int⊕((Int×Int)⊕Unit)):=bif (a<(d.length:Int))then (idx d a).bind λc=>(MJ a c e).bind λb=>bif (b != 0)then some (.inr (.inl (a,b)))else some (.inl (Qi (a+1)))else some (.inr (.inr ()))
def EP (b:Int)(a:Int):O_ (Int×Int):=some (b,a)
def EQ : O_ (Int×Int):=some (0,0)
def GC (a:(L_ QP))(b:Qf):O_ (Int×Int):=(QE (λst=>EO a b st) 0).bind (Sum.elim (λq=>EP q.1 q.2) (λq=>EQ))
def SC (g f):CT 139 [.sl 3 (g.map Qq),.clo (.func 140) [] [.L 618]] [(618,.var (Qa f))] (GC g f) (λr=>(.tup [.I r.1,.I r.2])) (λ_=>[(618,.var (Qa f))]):=
 W 25 func139 Z λC e r h=>J e [10,.o (.ln g.length),4] Z Qc<|lq_ h (λst=>⟨[(1,.clo (.func 140) [] [.L 618]),(9,.sl 3 (g.map Qq)),(10,.I (g.length:Int)),(11,.I st)],[(618,.var (Qa f))]⟩) (λq=>(.ret,⟨[(4,.I q.1),(5,.I q.2)],[(618,.var (Qa f))]⟩)) (λq=>(.exit 0,⟨[],[(618,.var (Qa f))]⟩)) Z (λm o h=>H e [6] Z<|I h (λa h=>B h λc i h=>B h λk j h=>G e [.T,7,.o (.row (Qq c)),.A (Qq c),3,.O 7 (.var (Qq c)),6,.A (Qq c),.cm (.clo) [(618,618)] [(618,618)] [] [.d,.d,.d] [(618,.var (Qa f))] (.I k),9] Z (a6_ a (Xd i) Z Z Z (Qfc _ _ _ _ j))<|I h (λb h=>J e [.T,11] Z b<|rR_ h Z) λb h=>J e [.F,7] Z b<|rN_ h Z) λa h=>J e [.F,2] Z a<|rX_ h Z) (λ⟨p,l⟩ h=>H e [2] Z<|F h Z Z r1_) (λ_ h=>H e [9] Z<|F h Z Z r1_)
def Jo (b:(L_ QH))(a:Int):O_ Bool:=some ((0<=a)&&(a<(b.length:Int)))
def Hy (d c):CT 146 [.sl 14 (d.map Qh),.I c] [] (Jo d c) V.b no_:=
 W 13 func146 Z λC e r h=>H e [6] Z<|Y ⟨[(4,.b ((0<=c)&&(c<(d.length:Int))))],[]⟩ (H e [4] Z<|bO_ (decide (0<=c)) (λa=>G e [.S 7 (.b true),2,.o (.ln d.length),4,.S 4 (.b ((0<=c)&&(c<(d.length:Int))))] Z ⟨⟨(tc_ a),Qc⟩,(cb_ (Ju a Z))⟩<|M Z) λa=>G e [.S 7 (.b false),7,.S 4 (.b ((0<=c)&&(c<(d.length:Int))))] Z ⟨(tc_ a),(cb_ (WM a Z))⟩<|M Z)<|H e [2] Z<|E h Z U
def MK (a:Int)(b:Qf)(c:QH):O_ Unit:=some ()
def Qfd (a b c):CT 205 [.L 618,.clo (.func 206) [] [.L 619,.L 620]] [(618,.var (Qb a)),(619,.var (Qa b)),(620,.var (Qh c))] (MK a b c) (λ_=>(.clo (.func 245) [] [.L 3,.L 2])) (λ_=>[(2,.var [.L 618]),(3,.var [.clo (.func 206) [] [.L 619,.L 620]]),(618,.var (Qb a)),(619,.var (Qa b)),(620,.var (Qh c))]):=
 W 6 func205 Z λC d r h=>H d [14] Z<|E h Z r5_
def CQ (a:Int)(b:Qf)(c:QH)(d:Int):O_ Unit:=some ()
def Qb1 (a b c d):CT 205 [.L 618,.clo (.func 211) [] [.L 619,.L 620,.L 621]] [(618,.var (Qb a)),(619,.var (Qa b)),(620,.var (Qh c)),(621,.var (Qb d))] (CQ a b c d) (λ_=>(.clo (.func 245) [] [.L 3,.L 2])) (λ_=>[(2,.var [.L 618]),(3,.var [.clo (.func 211) [] [.L 619,.L 620,.L 621]]),(618,.var (Qb a)),(619,.var (Qa b)),(620,.var (Qh c)),(621,.var (Qb d))]):=
 W 6 func205 Z λC e r h=>H e [14] Z<|E h Z r6_
def CR (a:Int)(b:Qf)(c:QH)(d:Int):O_ Unit:=some ()
def Qb2 (a b c d):CT 205 [.L 618,.clo (.func 213) [] [.L 619,.L 620,.L 621]] [(618,.var (Qb a)),(619,.var (Qa b)),(620,.var (Qh c)),(621,.var (Qb d))] (CR a b c d) (λ_=>(.clo (.func 245) [] [.L 3,.L 2])) (λ_=>[(2,.var [.L 618]),(3,.var [.clo (.func 213) [] [.L 619,.L 620,.L 621]]),(618,.var (Qb a)),(619,.var (Qa b)),(620,.var (Qh c)),(621,.var (Qb d))]):=
 W 6 func205 Z λC e r h=>H e [14] Z<|E h Z r6_
def CS (a:Int)(b:Qf)(c:QH):O_ Unit:=some ()
def Qb3 (a b c):CT 205 [.L 618,.clo (.func 214) [] [.L 619,.L 620]] [(618,.var (Qb a)),(619,.var (Qa b)),(620,.var (Qh c))] (CS a b c) (λ_=>(.clo (.func 245) [] [.L 3,.L 2])) (λ_=>[(2,.var [.L 618]),(3,.var [.clo (.func 214) [] [.L 619,.L 620]]),(618,.var (Qb a)),(619,.var (Qa b)),(620,.var (Qh c))]):=
 W 6 func205 Z λC d r h=>H d [14] Z<|E h Z r5_
def Le (a:QH):O_ Bool:=(GP a.Name).bind λb=>some b
def Qd5 (a):CT 201 [.L 618] [(618,.var (Qh a))] (Le a) V.b (λ_=>[(618,.var (Qh a))]):=
 W 5 func201 Z λC f r h=>B h λg e h=>J f [9,.o (.C1 (.b g)),4] Z (AJ _ _ e)<|E h Z r1_
def Lf (a:QH)(b:QH):O_ Bool:=some (CB a.Name b.Name)
def Qd6 (c a):CT 200 [.agg (Qh c),.L 618] [(618,.var (Qh a))] (Lf c a) V.b (λ_=>[(618,.var (Qh a))]):=
 W 9 func200 Z λC d r h=>H d [17] Z<|E h Z r1_
def JX (c:(L_ QH))(d:QH)(a:Int):O_ (Int⊕(Int⊕Unit)):=bif (a<(c.length:Int))then (idx c a).bind λe=>(Lf e d).bind λb=>bif b then some (.inr (.inl a))else some (.inl (Qi (a+1)))else some (.inr (.inr ()))
def JY (a:Int):O_ Int:=some a
def JZ : O_ Int:=some (-1)
def Jh (a:(L_ QH))(b:QH):O_ Int:=(QE (λst=>JX a b st) 0).bind (Sum.elim (λq=>JY q) (λq=>JZ))
def Fv (g e):CT 244 [.sl 14 (g.map Qh),.clo (.func 200) [] [.L 618]] [(618,.var (Qh e))] (Jh g e) V.I (λ_=>[(618,.var (Qh e))]):=
 W 19 func244 Z λC c r h=>J c [9,.o (.ln g.length),4] Z Qc<|lq_ h (λst=>⟨[(0,.sl 14 (g.map Qh)),(1,.clo (.func 200) [] [.L 618]),(7,.I (g.length:Int)),(8,.I st)],[(618,.var (Qh e))]⟩) (λq=>(.ret,⟨[(4,.I q)],[(618,.var (Qh e))]⟩)) (λq=>(.exit 0,⟨[],[(618,.var (Qh e))]⟩)) Z (λm o h=>H c [6] Z<|I h (λf h=>B h λl j h=>B h λk i h=>g4_ c [.T,15,.o (.row (Qh l)),.A (Qh l),.cm (.clo) [(618,618)] [(618,618)] [] [.d,.d] [(618,.var (Qh e))] (.b k),2] Z f (Xd j) Z (Qd6 _ _ _ i)<|I h (λa h=>J c [.T,9] Z a<|rR_ h Z) λa h=>J c [.F,7] Z a<|rN_ h Z) λf h=>J c [.F,2] Z f<|rX_ h Z) (λp h=>H c [2] Z<|E h Z r1_) (λ_ h=>H c [8] Z<|E h Z r1_)
def YT (a:(L_ QH))(b:QH):O_ Bool:=(Jh a b).bind λc=>some (decide (0<=c))
def Ca (e a):CT 203 [.sl 14 (e.map Qh),.clo (.func 200) [] [.L 618]] [(618,.var (Qh a))] (YT e a) V.b (λ_=>[(618,.var (Qh a))]):=
 W 9 func203 Z λC f r h=>B h λg c h=>J f [9,.cm (.fn) [(618,618)] [(618,618)] [] [.d,.d] [(618,.var (Qh a))] (.I g),5] Z (Fv _ _ _ c)<|E h Z r1_
def Lg (b:Qf)(a:Int)(c:QH):O_ Bool:=(chk (decide (0<=a)&&decide (0<=a.toNat)&&decide (a.toNat<=b.Tasks.length))).bind λ_=>(YT ((b.Tasks.drop 0).take (a.toNat-0)) c).bind λd=>some (!d)
def Qd7 (f g i):CT 202 [.L 618,.L 619,.L 620] [(618,.var (Qa f)),(619,.var (Qb g)),(620,.var [.clo (.func 200) [] [.L 621]]),(621,.var (Qh i))] (Lg f g i) V.b (λ_=>[(618,.var (Qa f)),(619,.var (Qb g)),(620,.var [.clo (.func 200) [] [.L 621]]),(621,.var (Qh i))]):=
 W 11 func202 Z λC e r h=>X h λc h=>B h λl k h=>H e [6] Z <| 
  dr_ e [.N,.N,.N,.B (.any (.sl 14 (((f.Tasks.drop 0).take (g.toNat-0)).map Qh)) none),.N,.B (.any (.b l) none),.N,.m .s] [] [] [3] [618,619,620,621] Z Z (a2_ (λσ j o _=>Stp.sliceD Z Z (QU e.n Z) (j _ _ Z) (Qw.es Z) EX.no (EX.val (j _ _ Z) (Xw (Qcs c)) Z) (Xw (Qct c)) (Ym (Xw (Qcu c)) (Nat.le_of_eq Qc.symm)) QfS) (λσ j o _=>Stp.callSame (md:=.cm (.fn) [(618,621)] [(621,618)] [] [.d,.d] [(618,.var (Qh i))] (.b l) [621]) Qw e j o Z (a2_ (Ca _ _ _ k) r1_))) Z <|
  H e [2] Z<|E h Z r4_
def Cb (b:Int)(a:QH):O_ Bool:=some ((b<=16)&&((max2 (max2 (a.Ins.length:Int) (a.Outs.length:Int)) (a.Cancel.length:Int))<=16))
def Qd8 (d a):CT 204 [.L 618,.L 619] [(618,.var (Qb d)),(619,.var (Qh a))] (Cb d a) V.b (λ_=>[(618,.var (Qb d)),(619,.var (Qh a))]):=
 W 18 func204 Z λC e r h=>H e [6] Z<|Y ⟨[(2,.b ((d<=16)&&((max2 (max2 (a.Ins.length:Int) (a.Outs.length:Int)) (a.Cancel.length:Int))<=16)))],[(618,.var (Qb d)),(619,.var (Qh a))]⟩ (H e [4] Z<|bO_ (decide (d<=16)) (λc=>G e [.S 5 (.b true),2,.o (.ln a.Ins.length),2,.o (.ln a.Outs.length),2,.o (.ln a.Cancel.length),.o (.any (.I (max2 (max2 (a.Ins.length:Int) (a.Outs.length:Int)) (a.Cancel.length:Int))) none),4,.S 2 (.b ((d<=16)&&((max2 (max2 (a.Ins.length:Int) (a.Outs.length:Int)) (a.Cancel.length:Int))<=16)))] Z ⟨⟨⟨⟨⟨(tc_ c),Qc⟩,Qc⟩,Qc⟩,(λσ f g _=>Stp.max3 Z Z (QU e.n Z) (f _ _ Z) (f _ _ Z) (f _ _ Z))⟩,(cb_ (Ju c Z))⟩<|M Z) λc=>G e [.S 5 (.b false),14,.S 2 (.b ((d<=16)&&((max2 (max2 (a.Ins.length:Int) (a.Outs.length:Int)) (a.Cancel.length:Int))<=16)))] Z ⟨(tc_ c),(cb_ (WM c Z))⟩<|M Z)<|H e [2] Z<|E h Z r2_
def Ee (a:YO):O_ Bool:=(GP a.Name).bind λb=>some b
def TI (a):CT 249 [.L 618] [(618,.var (Xi a))] (Ee a) V.b (λ_=>[(618,.var (Xi a))]):=
 W 5 func249 Z λC f r h=>B h λg e h=>J f [9,.o (.C1 (.b g)),4] Z (AJ _ _ e)<|E h Z r1_
def Ef (a:YO)(b:YO):O_ Bool:=some (CB a.Name b.Name)
def TJ (c a):CT 248 [.agg (Xi c),.L 618] [(618,.var (Xi a))] (Ef c a) V.b (λ_=>[(618,.var (Xi a))]):=
 W 9 func248 Z λC d r h=>H d [17] Z<|E h Z r1_
def Kw (c:(L_ YO))(d:YO)(a:Int):O_ (Int⊕(Int⊕Unit)):=bif (a<(c.length:Int))then (idx c a).bind λe=>(Ef e d).bind λb=>bif b then some (.inr (.inl a))else some (.inl (Qi (a+1)))else some (.inr (.inr ()))
def Kx (a:Int):O_ Int:=some a
def Ky : O_ Int:=some (-1)
def JB (a:(L_ YO))(b:YO):O_ Int:=(QE (λst=>Kw a b st) 0).bind (Sum.elim (λq=>Kx q) (λq=>Ky))
def HH (g e):CT 290 [.sl 2 (g.map Xi),.clo (.func 248) [] [.L 618]] [(618,.var (Xi e))] (JB g e) V.I (λ_=>[(618,.var (Xi e))]):=
 W 19 func290 Z λC c r h=>J c [9,.o (.ln g.length),4] Z Qc<|lq_ h (λst=>⟨[(0,.sl 2 (g.map Xi)),(1,.clo (.func 248) [] [.L 618]),(7,.I (g.length:Int)),(8,.I st)],[(618,.var (Xi e))]⟩) (λq=>(.ret,⟨[(4,.I q)],[(618,.var (Xi e))]⟩)) (λq=>(.exit 0,⟨[],[(618,.var (Xi e))]⟩)) Z (λm o h=>H c [6] Z<|I h (λf h=>B h λl j h=>B h λk i h=>g4_ c [.T,15,.o (.row (Xi l)),.A (Xi l),.cm (.clo) [(618,618)] [(618,618)] [] [.d,.d] [(618,.var (Xi e))] (.b k),2] Z f (Xd j) Z (TJ _ _ _ i)<|I h (λa h=>J c [.T,9] Z a<|rR_ h Z) λa h=>J c [.F,7] Z a<|rN_ h Z) λf h=>J c [.F,2] Z f<|rX_ h Z) (λp h=>H c [2] Z<|E h Z r1_) (λ_ h=>H c [8] Z<|E h Z r1_)
def Jd (a:(L_ YO))(b:YO):O_ Bool:=(JB a b).bind λc=>some (decide (0<=c))
def CU (e a):CT 251 [.sl 2 (e.map Xi),.clo (.func 248) [] [.L 618]] [(618,.var (Xi a))] (Jd e a) V.b (λ_=>[(618,.var (Xi a))]):=
 W 9 func251 Z λC f r h=>B h λg c h=>J f [9,.cm (.fn) [(618,618)] [(618,618)] [] [.d,.d] [(618,.var (Xi a))] (.I g),5] Z (HH _ _ _ c)<|E h Z r1_
def Eg (b:(L_ YO))(a:Int)(c:YO):O_ Bool:=(chk (decide (0<=a)&&decide (0<=a.toNat)&&decide (a.toNat<=b.length))).bind λ_=>(Jd ((b.drop 0).take (a.toNat-0)) c).bind λd=>some (!d)
def TK (f g i):CT 250 [.L 618,.L 619,.L 620] [(618,.var (Ki f)),(619,.var (Qb g)),(620,.var [.clo (.func 248) [] [.L 621]]),(621,.var (Xi i))] (Eg f g i) V.b (λ_=>[(618,.var (Ki f)),(619,.var (Qb g)),(620,.var [.clo (.func 248) [] [.L 621]]),(621,.var (Xi i))]):=
 W 10 func250 Z λC e r h=>X h λc h=>B h λl k h=>H e [6] Z <| 
  dr_ e [.N,.N,.B (.any (.sl 2 (((f.drop 0).take (g.toNat-0)).map Xi)) none),.N,.B (.any (.b l) none),.N,.m .s] [] [] [3] [618,619,620,621] Z Z (a2_ (λσ j o _=>Stp.sliceD Z Z (QU e.n Z) (j _ _ Z) (Qw.es Z) EX.no (EX.val (j _ _ Z) (Xw (Qcs c)) Z) (Xw (Qct c)) (Ym (Xw (Qcu c)) (Nat.le_of_eq Qc.symm)) QfS) (λσ j o _=>Stp.callSame (md:=.cm (.fn) [(618,621)] [(621,618)] [] [.d,.d] [(618,.var (Xi i))] (.b l) [621]) Qw e j o Z (a2_ (CU _ _ _ k) r1_))) Z <|
  H e [2] Z<|E h Z r4_
def Eh (a:Qf)(b:YO):O_ Bool:=(KX a.Colours b.Colour).bind λc=>some c
def TL (a e):CT 252 [.L 618,.L 619] [(618,.var (Qa a)),(619,.var (Xi e))] (Eh a e) V.b (λ_=>[(618,.var (Qa a)),(619,.var (Xi e))]):=
 W 8 func252 Z λC g r h=>B h λi f h=>J g [11,.o (.C2 (.b i)),4] Z (Cy _ _ _ f)<|E h Z r2_
def CV (a:YO)(e:Int)(f:(L_ YO))(g:Int)(h:Int)(i:Qf)(j:Int):O_ Int:=(Ee a).bind λb=>bif (!b)then some e else (Eg f g a).bind λc=>bif (!c)then some h else (Eh i a).bind λd=>bif (!d)then some j else some 0
def Qb4 (i p q s t u w):CT 133 [.own 618 3] [(618,.var [.clo (.func 249) [] [.L 619],.I p,.clo (.func 250) [] [.L 620,.L 621,.L 622],.I t,.clo (.func 252) [] [.L 623,.L 619],.I w]),(619,.var (Xi i)),(620,.var (Ki q)),(621,.var (Qb s)),(622,.var [.clo (.func 248) [] [.L 619]]),(623,.var (Qa u))] (CV i p q s t u w) V.I (λ_=>[(618,.var [.clo (.func 249) [] [.L 619],.I p,.clo (.func 250) [] [.L 620,.L 621,.L 622],.I t,.clo (.func 252) [] [.L 623,.L 619],.I w]),(619,.var (Xi i)),(620,.var (Ki q)),(621,.var (Qb s)),(622,.var [.clo (.func 248) [] [.L 619]]),(623,.var (Qa u))]):=
 W 18 func133 Z λC a r h=>H a [14] Z<|AK.loopN 4<|AK.rnd<|B h λx j h=>g4_ a [2,.v .no [] (.b true),10,.o (.any (.L 618) none),3,.O 4 (.var [.clo (.func 249) [] [.L 619],.I p]),6,.cm (.clo) [(618,619)] [(619,618)] [] [.d] [(618,.var (Xi i))] (.b x),3] Z Z (λσ g k _=>Stp.idxV Z Z (QU a.n Z) (g _ _ Z) (g _ _ Z) (Qw.es Z) (k _ _ Z) (by decide)) Z (TI _ _ j)<|I h (λc h=>J a [.T,13] Z c<|E h Z r6_) λc h=>K a [.F,4,.v .no [] (.I 1),2] Z c Z<|AK.met<|AK.rnd<|B h λy l h=>g4_ a [2,.v .no [] (.b true),10,.o (.any (.loc 618 0 2) none),1,.kill 4,2,.O 4 (.var [.clo (.func 250) [] [.L 620,.L 621,.L 622],.I t]),6,.cm (.clo) [(618,620),(619,621),(620,622),(621,619)] [(620,618),(621,619),(622,620),(619,621)] [] [.d,.d,.d] [(618,.var (Ki q)),(619,.var (Qb s)),(620,.var [.clo (.func 248) [] [.L 621]]),(621,.var (Xi i))] (.b y),3] Z Z (λσ g k _=>Stp.idxV Z Z (QU a.n Z) (g _ _ Z) (g _ _ Z) (Qw.es Z) (k _ _ Z) (by decide)) Z (TK _ _ _ _ l)<|I h (λe h=>J a [.T,13] Z e<|E h Z r6_) λe h=>K a [.F,4,.v .no [] (.I 2),2] Z e Z<|AK.met<|AK.rnd<|B h λz m h=>g4_ a [2,.v .no [] (.b true),10,.o (.any (.loc 618 0 4) none),1,.kill 4,2,.O 4 (.var [.clo (.func 252) [] [.L 623,.L 619],.I w]),6,.cm (.clo) [(618,623),(619,619)] [(623,618),(619,619)] [] [.d,.d] [(618,.var (Qa u)),(619,.var (Xi i))] (.b z),3] Z Z (λσ g k _=>Stp.idxV Z Z (QU a.n Z) (g _ _ Z) (g _ _ Z) (Qw.es Z) (k _ _ Z) (by decide)) Z (TL _ _ _ m)<|I h (λf h=>J a [.T,13] Z f<|E h Z r6_) λf h=>K a [.F,4,.v .no [] (.I 3),2] Z f Z<|AK.met<|AK.rnd<|J a [2,.v .no [] (.b false),15] Z Z<|E h Z r6_
def UI (a:Int)(b:YO)(c:(L_ YO))(d:Qf):O_ Int:=(CV b 1 c a 5 d 3).bind λe=>some e
def ZL (c e a b):CT 247 [.I c,.agg (Xi e),.L 618,.L 619] [(618,.var (Ki a)),(619,.var (Qa b))] (UI c e a b) V.I (λ_=>[(618,.var (Ki a)),(619,.var (Qa b))]):=
 W 17 func247 Z λC g r h=>B h λi f h=>G g [12,.O 7 (.var [.clo (.func 248) [] [.L 5]]),5,.A [.clo (.func 249) [] [.L 5],.I 1],1,.A [.clo (.func 250) [] [.L 618,.L 4,.L 7],.I 5],1,.A [.clo (.func 252) [] [.L 619,.L 5],.I 3],.o (.any (.own 15 3) (some (.var [.clo (.func 249) [] [.L 5],.I 1,.clo (.func 250) [] [.L 618,.L 4,.L 7],.I 5,.clo (.func 252) [] [.L 619,.L 5],.I 3]))),.cm (.fn) [(618,15),(619,5),(620,618),(621,4),(622,7),(623,619)] [(15,618),(5,619),(618,620),(4,621),(7,622),(619,623)] [] [.d] [(618,.var [.clo (.func 249) [] [.L 619],.I 1,.clo (.func 250) [] [.L 620,.L 621,.L 622],.I 5,.clo (.func 252) [] [.L 623,.L 619],.I 3]),(619,.var (Xi e)),(620,.var (Ki a)),(621,.var (Qb c)),(622,.var [.clo (.func 248) [] [.L 619]]),(623,.var (Qa b))] (.I i),4] Z (a6_ Z Z Z Z (λσ j k D=>Stp.buildAny Z Z (QU g.n Z) (Qw.es Z) Rf Z (by decide) (by decide) (Gf j Z) Z Z (D Z)) (Qb4 _ _ _ _ _ _ _ _ f))<|E h Z r2_
def UR (d:(L_ YO))(e:(L_ YO))(f:Qf)(a:Int):O_ (Int⊕((Int×Int)⊕Unit)):=bif (a<(d.length:Int))then (idx d a).bind λc=>(UI a c e f).bind λb=>bif (b != 0)then some (.inr (.inl (a,b)))else some (.inl (Qi (a+1)))else some (.inr (.inr ()))
def US (a:Int)(b:Int):O_ (Int×Int):=some (a,b)
def UT : O_ (Int×Int):=some (0,0)
def ER (a:(L_ YO))(b:(L_ YO))(c:Qf):O_ (Int×Int):=(QE (λst=>UR a b c st) 0).bind (Sum.elim (λq=>US q.1 q.2) (λq=>UT))
def Vh (i f g):CT 246 [.sl 2 (i.map Xi),.clo (.func 247) [] [.L 618,.L 619]] [(618,.var (Ki f)),(619,.var (Qa g))] (ER i f g) (λr=>(.tup [.I r.1,.I r.2])) (λ_=>[(618,.var (Ki f)),(619,.var (Qa g))]):=
 W 25 func246 Z λC e r h=>J e [10,.o (.ln i.length),4] Z Qc<|lq_ h (λst=>⟨[(1,.clo (.func 247) [] [.L 618,.L 619]),(9,.sl 2 (i.map Xi)),(10,.I (i.length:Int)),(11,.I st)],[(618,.var (Ki f)),(619,.var (Qa g))]⟩) (λq=>(.ret,⟨[(4,.I q.1),(5,.I q.2)],[(618,.var (Ki f)),(619,.var (Qa g))]⟩)) (λq=>(.exit 0,⟨[],[(618,.var (Ki f)),(619,.var (Qa g))]⟩)) Z (λs o h=>H e [6] Z<|I h (λa h=>B h λc j h=>B h λl k h=>G e [.T,7,.o (.row (Xi c)),.A (Xi c),3,.O 7 (.var (Xi c)),6,.A (Xi c),.cm (.clo) [(618,618),(619,619)] [(618,618),(619,619)] [] [.d,.d,.d,.d] [(618,.var (Ki f)),(619,.var (Qa g))] (.I l),9] Z (a6_ a (Xd j) Z Z Z (ZL _ _ _ _ _ k))<|I h (λb h=>J e [.T,11] Z b<|rR_ h Z) λb h=>J e [.F,7] Z b<|rN_ h Z) λa h=>J e [.F,2] Z a<|rX_ h Z) (λ⟨m,p⟩ h=>H e [2] Z<|F h Z Z r2_) (λ_ h=>H e [9] Z<|F h Z Z r2_)
def Bx (b:Qf)(a:(L_ YO)):O_ Int:=(ER a a b).bind λc=>some c.2
def Qbp (a b):CT 207 [.agg (Qa a),.sl 2 (b.map Xi)] [] (Bx a b) V.I no_:=
 W 14 func207 Z λC f r h=>B h λe c h=>J f [11,.cm (.fn) [(618,3),(619,2)] [(3,618),(2,619)] [] [.d,.d] [(618,.var (Ki b)),(619,.var (Qa a))] (.tup [.I e.1,.I e.2]),14] Z (Vh _ _ _ _ c)<|E h Z U
def Lh (a:Qf)(b:QH):O_ Int:=(Bx a b.Vars).bind λc=>some c
def Qd9 (a b):CT 206 [.L 618,.L 619] [(618,.var (Qa a)),(619,.var (Qh b))] (Lh a b) V.I (λ_=>[(618,.var (Qa a)),(619,.var (Qh b))]):=
 W 7 func206 Z λC f r h=>B h λg e h=>K f [7,.A (Qa a),2,.o (.C2 (.I g)),4] Z Z (Qbp _ _ _ e)<|E h Z r2_
def AN (b:Qf)(c:QH)(d:Int):O_ (Bool×Int):=(Lh b c).bind λa=>some ((a==0),a)
def QcW (c e j):CT 245 [.L 618,.L 621] [(618,.var [.clo (.func 206) [] [.L 619,.L 620]]),(619,.var (Qa c)),(620,.var (Qh e)),(621,.var [.L 622]),(622,.var (Qb j))] (AN c e j) (λr=>(.b r.1)) (λr=>[(618,.var [.clo (.func 206) [] [.L 619,.L 620]]),(619,.var (Qa c)),(620,.var (Qh e)),(621,.var [.L 622]),(622,.var (Qb r.2))]):=
 W 11 func245 Z λC f r h=>B h λg i h=>H f [6] Z <| 
  dr_ f [.N,.N,.B (.any (.I g) none),.N,.m .s] [] [] [1] [618,619,620,621,622] Z Z (A (λσ k l _=>Stp.callSame (md:=.cm (.clo) [(618,619),(619,620)] [(619,618),(620,619)] [] [.d,.d] [(618,.var (Qa c)),(619,.var (Qh e))] (.I g) [619,620]) Qw f k l Z (a2_ (Qd9 _ _ _ i) r2_))) Z <|
  J f [.O 622 (.var (Qb g)),11] Z Z<|E h Z r5_
def Ut (e:QH)(f:Qf)(a:Int)(c:Int):O_ ((Int×Int)⊕(Unit⊕Int)):=bif (c<(e.Vars.length:Int))then (idx e.Vars c).bind λd=>(YS f.Colours d.Colour).bind λb=>bif (b==0)then some (.inr (.inl ()))else some (.inl ((min2 (Qi (a*b)) 1025),(Qi (c+1))))else some (.inr (.inr a))
def No : O_ Int:=some 0
def Np (a:Int):O_ Int:=some a
def WL (a:Qf)(b:Int):O_ Int:=(Jo a.Tasks b).bind λc=>bif (!c)then some 0 else (idx a.Tasks b).bind λd=>(QE (λst=>Ut d a st.1 st.2) (1,0)).bind (Sum.elim (λq=>No) (λq=>Np q))
def TM (m w):CT 87 [.agg (Qa m),.I w] [] (WL m w) V.I no_:=
 W 38 func87 Z λC f r h=>B h λy p h=>J f [12,.o (.C2 (.b y)),3] Z (Hy _ _ _ p)<|I h (λg h=>J f [.T,7] Z g<|E h Z U) λg h=>B h λl s h=>g3_ f [.F,13,.o (.row (Qh l)),2,.o (.ln l.Vars.length),4] Z g (Xd s) Qc<|lq_ h (λst=>⟨[lk_ 2,(5,.I st.1),(19,.sl 2 (l.Vars.map Xi)),(20,.I (l.Vars.length:Int)),(21,.I st.2)],[(2,.var (Qa m))]⟩) (λq=>(.ret,⟨[(4,.I 0)],[]⟩)) (λq=>(.exit 0,⟨[(5,.I q)],[]⟩)) Z (λ⟨x,z⟩ o h=>H f [6] Z<|I h (λa h=>B h λi j h=>B h λt k h=>G f [.T,6,.o (.row (Xi i)),.A (Xi i),2,.O 7 (.var (Xi i)),8,.o (.C2 (.I t)),10] Z (a5_ a (Xd j) Z Z (CI _ _ _ k))<|I h (λe h=>J f [.T,9] Z e<|rR_ h Z) λe h=>J f [.F,15] Z e<|rN_ h Z) λa h=>J f [.F,2] Z a<|rX_ h Z) (λ_ h=>H f [2] Z<|E h Z U) (λu h=>H f [9] Z<|E h Z U)
def Cc (a:Qf)(b:Int):O_ Bool:=(WL a b).bind λc=>some (decide (c<=1024))
def Qea (a e):CT 208 [.L 618,.L 619] [(618,.var (Qa a)),(619,.var (Qb e))] (Cc a e) V.b (λ_=>[(618,.var (Qa a)),(619,.var (Qb e))]):=
 W 7 func208 Z λC g r h=>B h λi f h=>K g [7,.A (Qa a),1,.o (.C2 (.I i)),5] Z Z (TM _ _ _ f)<|E h Z r2_
def Sc (a:QH)(b:Int):O_ Bool:=(BQ a.Guard b).bind λc=>bif c then bif (0<(a.Ins.length:Int))then some (decide (0<(a.Outs.length:Int)))else some false else some false
def Sd (a:Bool):O_ Bool:=some a
def Li (a:QH)(b:Int):O_ Bool:=(Sc a b).bind (λc=>Sd c)
def Qeb (a i):CT 209 [.L 618,.L 619] [(618,.var (Qh a)),(619,.var (Qb i))] (Li a i) V.b (λ_=>[(618,.var (Qh a)),(619,.var (Qb i))]):=
 W 19 func209 Z λC e r h=>H e [6] Z<|mV_ h (λj=>⟨[(2,.b j)],[(618,.var (Qh a)),(619,.var (Qb i))]⟩) (λj h=>B h λl k h=>K e [2,.A (Qu a.Guard),1,.o (.C2 (.b l)),1] Z Z (NW _ _ _ k)<|I h (λf h=>G e [.S 7 (.b true),2,.o (.ln a.Ins.length),3] Z ⟨(tc_ f),Qc⟩<|I h (λg h=>G e [.S 13 (.b true),2,.o (.ln a.Outs.length),4] Z ⟨(tc_ g),Qc⟩<|mq_ h Z) λg h=>L e [.S 13 (.b false),7] Z g<|mq_ h Z) λf h=>L e [.S 7 (.b false),13] Z f<|mq_ h Z) λj h=>H e [2] Z<|E h Z r2_
def CW (a:Qf)(b:Xs):O_ Bool:=(YG a.Places b.Place).bind λc=>some c
def Qb5 (a e):CT 258 [.L 618,.L 619] [(618,.var (Qa a)),(619,.var (Xj e))] (CW a e) V.b (λ_=>[(618,.var (Qa a)),(619,.var (Xj e))]):=
 W 8 func258 Z λC g r h=>B h λi f h=>J g [11,.o (.C2 (.b i)),4] Z (JW _ _ _ f)<|E h Z r2_
def CX (a:Xs)(b:Int):O_ Bool:=(BQ a.Expr b).bind λc=>some c
def Qb6 (a e):CT 259 [.L 618,.L 619] [(618,.var (Xj a)),(619,.var (Qb e))] (CX a e) V.b (λ_=>[(618,.var (Xj a)),(619,.var (Qb e))]):=
 W 7 func259 Z λC g r h=>B h λi f h=>K g [8,.A (Qu a.Expr),1,.o (.C2 (.b i)),4] Z Z (NW _ _ _ f)<|E h Z r2_
def CY (c:Qf)(b:Xs)(d:Int)(e:Int)(f:Int):O_ Int:=(CW c b).bind λg=>bif (!g)then some d else (CX b e).bind λa=>bif (!a)then some f else some 0
def Qb7 (j f k l m):CT 133 [.own 618 2] [(618,.var [.clo (.func 258) [] [.L 619,.L 620],.I k,.clo (.func 259) [] [.L 620,.L 621],.I m]),(619,.var (Qa j)),(620,.var (Xj f)),(621,.var (Qb l))] (CY j f k l m) V.I (λ_=>[(618,.var [.clo (.func 258) [] [.L 619,.L 620],.I k,.clo (.func 259) [] [.L 620,.L 621],.I m]),(619,.var (Qa j)),(620,.var (Xj f)),(621,.var (Qb l))]):=
 W 18 func133 Z λC c r h=>H c [14] Z<|AK.loopN 3<|AK.rnd<|B h λt p h=>g4_ c [2,.v .no [] (.b true),10,.o (.any (.L 618) none),3,.O 4 (.var [.clo (.func 258) [] [.L 619,.L 620],.I k]),6,.cm (.clo) [(618,619),(619,620)] [(619,618),(620,619)] [] [.d,.d] [(618,.var (Qa j)),(619,.var (Xj f))] (.b t),3] Z Z (λσ g q _=>Stp.idxV Z Z (QU c.n Z) (g _ _ Z) (g _ _ Z) (Qw.es Z) (q _ _ Z) (by decide)) Z (Qb5 _ _ _ p)<|I h (λe h=>J c [.T,13] Z e<|E h Z r4_) λe h=>K c [.F,4,.v .no [] (.I 1),2] Z e Z<|AK.met<|AK.rnd<|B h λs i h=>g4_ c [2,.v .no [] (.b true),10,.o (.any (.loc 618 0 2) none),1,.kill 4,2,.O 4 (.var [.clo (.func 259) [] [.L 620,.L 621],.I m]),6,.cm (.clo) [(618,620),(619,621)] [(620,618),(621,619)] [] [.d,.d] [(618,.var (Xj f)),(619,.var (Qb l))] (.b s),3] Z Z (λσ g q _=>Stp.idxV Z Z (QU c.n Z) (g _ _ Z) (g _ _ Z) (Qw.es Z) (q _ _ Z) (by decide)) Z (Qb6 _ _ _ i)<|I h (λa h=>J c [.T,13] Z a<|E h Z r4_) λa h=>K c [.F,4,.v .no [] (.I 2),2] Z a Z<|AK.met<|AK.rnd<|J c [2,.v .no [] (.b false),15] Z Z<|E h Z r4_
def Lj (e:Int)(a:Xs)(b:Qf)(c:Int):O_ Int:=(CY b a 3 c 1).bind λd=>some d
def Qec (f c a b):CT 257 [.I f,.agg (Xj c),.L 618,.L 619] [(618,.var (Qa a)),(619,.var (Qb b))] (Lj f c a b) V.I (λ_=>[(618,.var (Qa a)),(619,.var (Qb b))]):=
 W 13 func257 Z λC g r h=>B h λi e h=>g4_ g [9,.A [.clo (.func 258) [] [.L 618,.L 5],.I 3],1,.A [.clo (.func 259) [] [.L 5,.L 619],.I 1],.o (.any (.own 11 2) (some (.var [.clo (.func 258) [] [.L 618,.L 5],.I 3,.clo (.func 259) [] [.L 5,.L 619],.I 1]))),.cm (.fn) [(618,11),(619,618),(620,5),(621,619)] [(11,618),(618,619),(5,620),(619,621)] [] [.d] [(618,.var [.clo (.func 258) [] [.L 619,.L 620],.I 3,.clo (.func 259) [] [.L 620,.L 621],.I 1]),(619,.var (Qa a)),(620,.var (Xj c)),(621,.var (Qb b))] (.I i),4] Z Z Z (λσ j k D=>Stp.buildAny Z Z (QU g.n Z) (Qw.es Z) Rf Z (by decide) (by decide) (Gf j Z) Z Z (D Z)) (Qb7 _ _ _ _ _ _ e)<|E h Z r2_
def UU (d:(L_ Xs))(e:Qf)(f:Int)(a:Int):O_ (Int⊕((Int×Int)⊕Unit)):=bif (a<(d.length:Int))then (idx d a).bind λc=>(Lj a c e f).bind λb=>bif (b != 0)then some (.inr (.inl (a,b)))else some (.inl (Qi (a+1)))else some (.inr (.inr ()))
def UV (a:Int)(b:Int):O_ (Int×Int):=some (a,b)
def UW : O_ (Int×Int):=some (0,0)
def ES (a:(L_ Xs))(b:Qf)(c:Int):O_ (Int×Int):=(QE (λst=>UU a b c st) 0).bind (Sum.elim (λq=>UV q.1 q.2) (λq=>UW))
def Vi (i f g):CT 256 [.sl 4 (i.map Xj),.clo (.func 257) [] [.L 618,.L 619]] [(618,.var (Qa f)),(619,.var (Qb g))] (ES i f g) (λr=>(.tup [.I r.1,.I r.2])) (λ_=>[(618,.var (Qa f)),(619,.var (Qb g))]):=
 W 25 func256 Z λC e r h=>J e [10,.o (.ln i.length),4] Z Qc<|lq_ h (λst=>⟨[(1,.clo (.func 257) [] [.L 618,.L 619]),(9,.sl 4 (i.map Xj)),(10,.I (i.length:Int)),(11,.I st)],[(618,.var (Qa f)),(619,.var (Qb g))]⟩) (λq=>(.ret,⟨[(4,.I q.1),(5,.I q.2)],[(618,.var (Qa f)),(619,.var (Qb g))]⟩)) (λq=>(.exit 0,⟨[],[(618,.var (Qa f)),(619,.var (Qb g))]⟩)) Z (λs o h=>H e [6] Z<|I h (λa h=>B h λc j h=>B h λl k h=>G e [.T,7,.o (.row (Xj c)),.A (Xj c),3,.O 7 (.var (Xj c)),6,.A (Xj c),.cm (.clo) [(618,618),(619,619)] [(618,618),(619,619)] [] [.d,.d,.d,.d] [(618,.var (Qa f)),(619,.var (Qb g))] (.I l),9] Z (a6_ a (Xd j) Z Z Z (Qec _ _ _ _ _ k))<|I h (λb h=>J e [.T,11] Z b<|rR_ h Z) λb h=>J e [.F,7] Z b<|rN_ h Z) λa h=>J e [.F,2] Z a<|rX_ h Z) (λ⟨m,p⟩ h=>H e [2] Z<|F h Z Z r2_) (λ_ h=>H e [9] Z<|F h Z Z r2_)
def Ij (b:Qf)(c:(L_ Xs))(a:Int):O_ Int:=(ES c b a).bind λd=>some d.2
def VY (b e a):CT 212 [.agg (Qa b),.sl 4 (e.map Xj),.I a] [] (Ij b e a) V.I no_:=
 W 16 func212 Z λC g r h=>B h λf c h=>J g [11,.cm (.fn) [(618,3),(619,5)] [(3,618),(5,619)] [] [.d,.d] [(618,.var (Qa b)),(619,.var (Qb a))] (.tup [.I f.1,.I f.2]),14] Z (Vi _ _ _ _ c)<|E h Z U
def Lk (a:Qf)(b:QH)(c:Int):O_ Int:=(Ij a b.Ins c).bind λd=>some d
def Qed (a b e):CT 211 [.L 618,.L 619,.L 620] [(618,.var (Qa a)),(619,.var (Qh b)),(620,.var (Qb e))] (Lk a b e) V.I (λ_=>[(618,.var (Qa a)),(619,.var (Qh b)),(620,.var (Qb e))]):=
 W 9 func211 Z λC g r h=>B h λi f h=>K g [7,.A (Qa a),3,.o (.C3 (.I i)),4] Z Z (VY _ _ _ _ f)<|E h Z r3_
def AO (b:Qf)(c:QH)(d:Int)(e:Int):O_ (Bool×Int):=(Lk b c d).bind λa=>some ((a==0),a)
def Qap (c e f k):CT 245 [.L 618,.L 622] [(618,.var [.clo (.func 211) [] [.L 619,.L 620,.L 621]]),(619,.var (Qa c)),(620,.var (Qh e)),(621,.var (Qb f)),(622,.var [.L 623]),(623,.var (Qb k))] (AO c e f k) (λr=>(.b r.1)) (λr=>[(618,.var [.clo (.func 211) [] [.L 619,.L 620,.L 621]]),(619,.var (Qa c)),(620,.var (Qh e)),(621,.var (Qb f)),(622,.var [.L 623]),(623,.var (Qb r.2))]):=
 W 11 func245 Z λC g r h=>B h λi j h=>H g [6] Z <| 
  dr_ g [.N,.N,.B (.any (.I i) none),.N,.m .s] [] [] [1] [618,619,620,621,622,623] Z Z (A (λσ l o _=>Stp.callSame (md:=.cm (.clo) [(618,619),(619,620),(620,621)] [(619,618),(620,619),(621,620)] [] [.d,.d,.d] [(618,.var (Qa c)),(619,.var (Qh e)),(620,.var (Qb f))] (.I i) [619,620,621]) Qw g l o Z (a2_ (Qed _ _ _ _ j) r3_))) Z <|
  J g [.O 623 (.var (Qb i)),11] Z Z<|E h Z r6_
def Ll (a:Qf)(b:QH)(c:Int):O_ Int:=(Ij a b.Outs c).bind λd=>some d
def Qee (a b e):CT 213 [.L 618,.L 619,.L 620] [(618,.var (Qa a)),(619,.var (Qh b)),(620,.var (Qb e))] (Ll a b e) V.I (λ_=>[(618,.var (Qa a)),(619,.var (Qh b)),(620,.var (Qb e))]):=
 W 9 func213 Z λC g r h=>B h λi f h=>K g [7,.A (Qa a),3,.o (.C3 (.I i)),4] Z Z (VY _ _ _ _ f)<|E h Z r3_
def AP (b:Qf)(c:QH)(d:Int)(e:Int):O_ (Bool×Int):=(Ll b c d).bind λa=>some ((a==0),a)
def Qaq (c e f k):CT 245 [.L 618,.L 622] [(618,.var [.clo (.func 213) [] [.L 619,.L 620,.L 621]]),(619,.var (Qa c)),(620,.var (Qh e)),(621,.var (Qb f)),(622,.var [.L 623]),(623,.var (Qb k))] (AP c e f k) (λr=>(.b r.1)) (λr=>[(618,.var [.clo (.func 213) [] [.L 619,.L 620,.L 621]]),(619,.var (Qa c)),(620,.var (Qh e)),(621,.var (Qb f)),(622,.var [.L 623]),(623,.var (Qb r.2))]):=
 W 11 func245 Z λC g r h=>B h λi j h=>H g [6] Z <| 
  dr_ g [.N,.N,.B (.any (.I i) none),.N,.m .s] [] [] [1] [618,619,620,621,622,623] Z Z (A (λσ l o _=>Stp.callSame (md:=.cm (.clo) [(618,619),(619,620),(620,621)] [(619,618),(620,619),(621,620)] [] [.d,.d,.d] [(618,.var (Qa c)),(619,.var (Qh e)),(620,.var (Qb f))] (.I i) [619,620,621]) Qw g l o Z (a2_ (Qee _ _ _ _ j) r3_))) Z <|
  J g [.O 623 (.var (Qb i)),11] Z Z<|E h Z r6_
def UJ (a:Qf)(b:Int):O_ Bool:=(YG a.Places b).bind λc=>some c
def ZM (a e):CT 262 [.L 618,.L 619] [(618,.var (Qa a)),(619,.var (Qb e))] (UJ a e) V.b (λ_=>[(618,.var (Qa a)),(619,.var (Qb e))]):=
 W 7 func262 Z λC g r h=>B h λi f h=>J g [10,.o (.C2 (.b i)),4] Z (JW _ _ _ f)<|E h Z r2_
def UK (b:LI_)(a:Int)(c:Int):O_ Bool:=(chk (decide (0<=a)&&decide (0<=a.toNat)&&decide (a.toNat<=b.length))).bind λ_=>(XW ((b.drop 0).take (a.toNat-0)) c).bind λd=>some (!d)
def ZN (f g j):CT 263 [.L 618,.L 619,.L 620] [(618,.var (QN f)),(619,.var (Qb g)),(620,.var (Qb j))] (UK f g j) V.b (λ_=>[(618,.var (QN f)),(619,.var (Qb g)),(620,.var (Qb j))]):=
 W 10 func263 Z λC i r h=>X h λe h=>B h λo k h=>H i [6] Z <| 
  dr_ i [.N,.N,.B (.any (.sl 1 (((f.drop 0).take (g.toNat-0)).map Qb)) none),.N,.B (.C2 (.b o)),.N,.m .s] [] [] [3] [618,619,620] Z Z (a2_ (λσ l p _=>Stp.sliceD Z Z (QU i.n Z) (l _ _ Z) (Qw.es Z) EX.no (EX.val (l _ _ Z) (Xw (Qcs e)) Z) (Xw (Qct e)) (Ym (Xw (Qcu e)) (Nat.le_of_eq Qc.symm)) QfS) (Gj _ _ _ k)) Z <|
  H i [2] Z<|E h Z r3_
def CZ (c:Qf)(b:Int)(d:Int)(e:LI_)(f:Int)(g:Int):O_ Int:=(UJ c b).bind λh=>bif (!h)then some d else (UK e f b).bind λa=>bif (!a)then some g else some 0
def Qb8 (j f k l m p):CT 133 [.own 618 2] [(618,.var [.clo (.func 262) [] [.L 619,.L 620],.I k,.clo (.func 263) [] [.L 621,.L 622,.L 620],.I p]),(619,.var (Qa j)),(620,.var (Qb f)),(621,.var (QN l)),(622,.var (Qb m))] (CZ j f k l m p) V.I (λ_=>[(618,.var [.clo (.func 262) [] [.L 619,.L 620],.I k,.clo (.func 263) [] [.L 621,.L 622,.L 620],.I p]),(619,.var (Qa j)),(620,.var (Qb f)),(621,.var (QN l)),(622,.var (Qb m))]):=
 W 18 func133 Z λC e r h=>H e [14] Z<|AK.loopN 3<|AK.rnd<|B h λu q h=>g4_ e [2,.v .no [] (.b true),10,.o (.any (.L 618) none),3,.O 4 (.var [.clo (.func 262) [] [.L 619,.L 620],.I k]),6,.cm (.clo) [(618,619),(619,620)] [(619,618),(620,619)] [] [.d,.d] [(618,.var (Qa j)),(619,.var (Qb f))] (.b u),3] Z Z (λσ g s _=>Stp.idxV Z Z (QU e.n Z) (g _ _ Z) (g _ _ Z) (Qw.es Z) (s _ _ Z) (by decide)) Z (ZM _ _ _ q)<|I h (λa h=>J e [.T,13] Z a<|E h Z r5_) λa h=>K e [.F,4,.v .no [] (.I 1),2] Z a Z<|AK.met<|AK.rnd<|B h λt i h=>g4_ e [2,.v .no [] (.b true),10,.o (.any (.loc 618 0 2) none),1,.kill 4,2,.O 4 (.var [.clo (.func 263) [] [.L 621,.L 622,.L 620],.I p]),6,.cm (.clo) [(618,621),(619,622),(620,620)] [(621,618),(622,619),(620,620)] [] [.d,.d,.d] [(618,.var (QN l)),(619,.var (Qb m)),(620,.var (Qb f))] (.b t),3] Z Z (λσ g s _=>Stp.idxV Z Z (QU e.n Z) (g _ _ Z) (g _ _ Z) (Qw.es Z) (s _ _ Z) (by decide)) Z (ZN _ _ _ _ i)<|I h (λc h=>J e [.T,13] Z c<|E h Z r5_) λc h=>K e [.F,4,.v .no [] (.I 2),2] Z c Z<|AK.met<|AK.rnd<|J e [2,.v .no [] (.b false),15] Z Z<|E h Z r5_
def Bz (b:Int)(a:Int)(c:Qf)(d:LI_):O_ Int:=(CZ c a 3 d b 5).bind λe=>some e
def Qbq (e a b c):CT 261 [.I e,.I a,.L 618,.L 619] [(618,.var (Qa b)),(619,.var (QN c))] (Bz e a b c) V.I (λ_=>[(618,.var (Qa b)),(619,.var (QN c))]):=
 W 13 func261 Z λC g r h=>B h λi f h=>g4_ g [10,.A [.clo (.func 262) [] [.L 618,.L 5],.I 3],1,.A [.clo (.func 263) [] [.L 619,.L 4,.L 5],.I 5],.o (.any (.own 11 2) (some (.var [.clo (.func 262) [] [.L 618,.L 5],.I 3,.clo (.func 263) [] [.L 619,.L 4,.L 5],.I 5]))),.cm (.fn) [(618,11),(619,618),(620,5),(621,619),(622,4)] [(11,618),(618,619),(5,620),(619,621),(4,622)] [] [.d] [(618,.var [.clo (.func 262) [] [.L 619,.L 620],.I 3,.clo (.func 263) [] [.L 621,.L 622,.L 620],.I 5]),(619,.var (Qa b)),(620,.var (Qb a)),(621,.var (QN c)),(622,.var (Qb e))] (.I i),4] Z Z Z (λσ j k D=>Stp.buildAny Z Z (QU g.n Z) (Qw.es Z) Rf Z (by decide) (by decide) (Gf j Z) Z Z (D Z)) (Qb8 _ _ _ _ _ _ _ f)<|E h Z r2_
def FX (d:LI_)(e:Qf)(f:LI_)(a:Int):O_ (Int⊕((Int×Int)⊕Unit)):=bif (a<(d.length:Int))then (idx d a).bind λc=>(Bz a c e f).bind λb=>bif (b != 0)then some (.inr (.inl (a,b)))else some (.inl (Qi (a+1)))else some (.inr (.inr ()))
def FY (a:Int)(b:Int):O_ (Int×Int):=some (a,b)
def FZ : O_ (Int×Int):=some (0,0)
def Fa (a:LI_)(b:Qf)(c:LI_):O_ (Int×Int):=(QE (λst=>FX a b c st) 0).bind (Sum.elim (λq=>FY q.1 q.2) (λq=>FZ))
def Qb9 (g e f):CT 260 [.sl 1 (g.map Qb),.clo (.func 261) [] [.L 618,.L 619]] [(618,.var (Qa e)),(619,.var (QN f))] (Fa g e f) (λr=>(.tup [.I r.1,.I r.2])) (λ_=>[(618,.var (Qa e)),(619,.var (QN f))]):=
 W 25 func260 Z λC c r h=>J c [10,.o (.ln g.length),4] Z Qc<|lq_ h (λst=>⟨[(1,.clo (.func 261) [] [.L 618,.L 619]),(9,.sl 1 (g.map Qb)),(10,.I (g.length:Int)),(11,.I st)],[(618,.var (Qa e)),(619,.var (QN f))]⟩) (λq=>(.ret,⟨[(4,.I q.1),(5,.I q.2)],[(618,.var (Qa e)),(619,.var (QN f))]⟩)) (λq=>(.exit 0,⟨[],[(618,.var (Qa e)),(619,.var (QN f))]⟩)) Z (λs o h=>H c [6] Z<|I h (λa h=>B h λk i h=>B h λl j h=>g3_ c [.T,7,.o (.row (Qb k)),10,.cm (.clo) [(618,618),(619,619)] [(618,618),(619,619)] [] [.d,.d,.d,.d] [(618,.var (Qa e)),(619,.var (QN f))] (.I l),9] Z a (Xd i) (Qbq _ _ _ _ _ j)<|I h (λb h=>J c [.T,11] Z b<|rR_ h Z) λb h=>J c [.F,7] Z b<|rN_ h Z) λa h=>J c [.F,2] Z a<|rX_ h Z) (λ⟨m,p⟩ h=>H c [2] Z<|F h Z Z r2_) (λ_ h=>H c [9] Z<|F h Z Z r2_)
def Hz (b:Qf)(a:LI_):O_ Int:=(Fa a b a).bind λc=>some c.2
def QcX (a b):CT 215 [.agg (Qa a),.sl 1 (b.map Qb)] [] (Hz a b) V.I no_:=
 W 14 func215 Z λC f r h=>B h λe c h=>J f [11,.cm (.fn) [(618,2),(619,3)] [(2,618),(3,619)] [] [.d,.d] [(618,.var (Qa a)),(619,.var (QN b))] (.tup [.I e.1,.I e.2]),14] Z (Qb9 _ _ _ _ c)<|E h Z U
def HA (a:Qf)(b:QH):O_ Int:=(Hz a b.Cancel).bind λc=>some c
def QcY (a b):CT 214 [.L 618,.L 619] [(618,.var (Qa a)),(619,.var (Qh b))] (HA a b) V.I (λ_=>[(618,.var (Qa a)),(619,.var (Qh b))]):=
 W 7 func214 Z λC f r h=>B h λg e h=>K f [7,.A (Qa a),2,.o (.C2 (.I g)),4] Z Z (QcX _ _ _ e)<|E h Z r2_
def AQ (b:Qf)(c:QH)(d:Int):O_ (Bool×Int):=(HA b c).bind λa=>some ((a==0),a)
def Qar (c e j):CT 245 [.L 618,.L 621] [(618,.var [.clo (.func 214) [] [.L 619,.L 620]]),(619,.var (Qa c)),(620,.var (Qh e)),(621,.var [.L 622]),(622,.var (Qb j))] (AQ c e j) (λr=>(.b r.1)) (λr=>[(618,.var [.clo (.func 214) [] [.L 619,.L 620]]),(619,.var (Qa c)),(620,.var (Qh e)),(621,.var [.L 622]),(622,.var (Qb r.2))]):=
 W 11 func245 Z λC f r h=>B h λg i h=>H f [6] Z <| 
  dr_ f [.N,.N,.B (.any (.I g) none),.N,.m .s] [] [] [1] [618,619,620,621,622] Z Z (A (λσ k l _=>Stp.callSame (md:=.cm (.clo) [(618,619),(619,620)] [(619,618),(620,619)] [] [.d,.d] [(618,.var (Qa c)),(619,.var (Qh e))] (.I g) [619,620]) Qw f k l Z (a2_ (QcY _ _ _ i) r2_))) Z <|
  J f [.O 622 (.var (Qb g)),11] Z Z<|E h Z r5_
def AR (a:Int)(b:(L_ Xs)):O_ Bool:=
 some ((1<=a)&&((a<=3)&&((a != 3)||((b.length:Int)<=4))))
def Rp (a g):CT 264 [.I a,.sl 4 (g.map Xj)] [] (AR a g) V.b no_:=
 W 20 func264 Z λC f r h=>H f [6] Z<|Y ⟨[(4,.b ((1<=a)&&((a<=3)&&((a != 3)||((g.length:Int)<=4)))))],[]⟩ (H f [4] Z<|bO_ (decide (1<=a)) (λc=>L f [.S 7 (.b true),4] Z c<|bO_ (decide (a<=3)) (λd=>L f [.S 11 (.b true),3] Z d<|bO_ (a != 3) (λe=>G f [.S 14 (.b true),7,.S 4 (.b ((1<=a)&&((a<=3)&&((a != 3)||((g.length:Int)<=4)))))] Z ⟨(tc_ e),(cb_ (Ju c (Ju d (UN e Z))))⟩<|M Z) λe=>G f [.S 14 (.b false),1,.o (.ln g.length),5,.S 4 (.b ((1<=a)&&((a<=3)&&((a != 3)||((g.length:Int)<=4)))))] Z ⟨⟨(tc_ e),Qc⟩,(cb_ (Ju c (Ju d (We e Z))))⟩<|M Z) λd=>G f [.S 11 (.b false),10,.S 4 (.b ((1<=a)&&((a<=3)&&((a != 3)||((g.length:Int)<=4)))))] Z ⟨(tc_ d),(cb_ (Ju c (WM d Z)))⟩<|M Z) λc=>G f [.S 7 (.b false),14,.S 4 (.b ((1<=a)&&((a<=3)&&((a != 3)||((g.length:Int)<=4)))))] Z ⟨(tc_ c),(cb_ (WM c Z))⟩<|M Z)<|H f [2] Z<|E h Z U
def TN (a:QH):O_ Bool:=
 (AR a.Join a.Ins).bind λb=>
 bif b then
 (AR a.Split a.Outs).bind λc=>
 bif c then
 bif (0<=a.After)then
 bif (a.After<=65536)then
 some (((a.Many.1==0)&&((a.Many.2.1==0)&&(a.Many.2.2==0)))||((1<=a.Many.1)&&((a.Many.1<=a.Many.2.1)&&((a.Many.2.1<=16)&&((1<=a.Many.2.2)&&(a.Many.2.2<=a.Many.2.1))))))
 else
 some false
 else
 some false
 else
 some false
 else
 some false
def TO (a:Bool):O_ Bool:=some a
def ML (a:QH):O_ Bool:=(TN a).bind (λb=>TO b)
def Qfe (a):CT 217 [.agg (Qh a)] [] (ML a) V.b no_:=
 W 70 func217 Z λC e r h=>H e [7] Z <| 
  dr_ e [.N,.N,.N,.N,.N,.N,.N,.N,.N,.N,.N,.N] [] [] [1,3,4,5] [1] Z Z U Z <|
  H e [2] Z<|Y ⟨[lk_ 1,(6,.b (((a.Many.1==0)&&((a.Many.2.1==0)&&(a.Many.2.2==0)))||((1<=a.Many.1)&&((a.Many.1<=a.Many.2.1)&&((a.Many.2.1<=16)&&((1<=a.Many.2.2)&&(a.Many.2.2<=a.Many.2.1)))))))],[(1,.var (Qh a))]⟩ (g3_ e [2,.A (Qg9 a.Many),.A (Qg9 (0,0,0)),.o (.any (.b ((a.Many.1==0)&&((a.Many.2.1==0)&&(a.Many.2.2==0)))) none),1] Z Z Z (λσ y z _=>Stp.eqAgg Z Z (QU e.n Z) (y _ _ Z) (y _ _ Z) Z Z (Qpv _ _ _ _ _ _))<|bO_ ((a.Many.1==0)&&((a.Many.2.1==0)&&(a.Many.2.2==0))) (λf=>G e [.S 21 (.b true),23,.S 6 (.b (((a.Many.1==0)&&((a.Many.2.1==0)&&(a.Many.2.2==0)))||((1<=a.Many.1)&&((a.Many.1<=a.Many.2.1)&&((a.Many.2.1<=16)&&((1<=a.Many.2.2)&&(a.Many.2.2<=a.Many.2.1)))))))] Z ⟨(tc_ f),(cb_ (UN f Z))⟩<|M Z) λf=>L e [.S 21 (.b false),3] Z f<|bO_ (decide (1<=a.Many.1)) (λg=>L e [.S 24 (.b true),5] Z g<|bO_ (decide (a.Many.1<=a.Many.2.1)) (λi=>L e [.S 29 (.b true),4] Z i<|bO_ (decide (a.Many.2.1<=16)) (λj=>L e [.S 33 (.b true),4] Z j<|bO_ (decide (1<=a.Many.2.2)) (λk=>G e [.S 37 (.b true),7,.S 6 (.b (((a.Many.1==0)&&((a.Many.2.1==0)&&(a.Many.2.2==0)))||((1<=a.Many.1)&&((a.Many.1<=a.Many.2.1)&&((a.Many.2.1<=16)&&((1<=a.Many.2.2)&&(a.Many.2.2<=a.Many.2.1)))))))] Z ⟨(tc_ k),(cb_ (We f (Ju g (Ju i (Ju j (Ju k Z))))))⟩<|M Z) λk=>G e [.S 37 (.b false),7,.S 6 (.b (((a.Many.1==0)&&((a.Many.2.1==0)&&(a.Many.2.2==0)))||((1<=a.Many.1)&&((a.Many.1<=a.Many.2.1)&&((a.Many.2.1<=16)&&((1<=a.Many.2.2)&&(a.Many.2.2<=a.Many.2.1)))))))] Z ⟨(tc_ k),(cb_ (We f (Ju g (Ju i (Ju j (WM k Z))))))⟩<|M Z) λj=>G e [.S 33 (.b false),11,.S 6 (.b (((a.Many.1==0)&&((a.Many.2.1==0)&&(a.Many.2.2==0)))||((1<=a.Many.1)&&((a.Many.1<=a.Many.2.1)&&((a.Many.2.1<=16)&&((1<=a.Many.2.2)&&(a.Many.2.2<=a.Many.2.1)))))))] Z ⟨(tc_ j),(cb_ (We f (Ju g (Ju i (WM j Z)))))⟩<|M Z) λi=>G e [.S 29 (.b false),15,.S 6 (.b (((a.Many.1==0)&&((a.Many.2.1==0)&&(a.Many.2.2==0)))||((1<=a.Many.1)&&((a.Many.1<=a.Many.2.1)&&((a.Many.2.1<=16)&&((1<=a.Many.2.2)&&(a.Many.2.2<=a.Many.2.1)))))))] Z ⟨(tc_ i),(cb_ (We f (Ju g (WM i Z))))⟩<|M Z) λg=>G e [.S 24 (.b false),20,.S 6 (.b (((a.Many.1==0)&&((a.Many.2.1==0)&&(a.Many.2.2==0)))||((1<=a.Many.1)&&((a.Many.1<=a.Many.2.1)&&((a.Many.2.1<=16)&&((1<=a.Many.2.2)&&(a.Many.2.2<=a.Many.2.1)))))))] Z ⟨(tc_ g),(cb_ (We f (WM g Z)))⟩<|M Z)<|H e [7] Z<|mV_ h (λu=>⟨[(2,.b u)],[]⟩) (λu h=>B h λw s h=>J e [6,.o (.C2 (.b w)),1] Z (Rp _ _ _ s)<|I h (λl h=>B h λx t h=>G e [.S 49 (.b true),5,.o (.C2 (.b x)),2] Z ⟨(tc_ l),(Rp _ _ _ t)⟩<|I h (λm h=>L e [.S 57 (.b true),5] Z m<|I h (λp h=>L e [.S 62 (.b true),5] Z p<|I h (λq h=>L e [.S 67 (.b true),4] Z q<|mq_ h Z) λq h=>L e [.S 67 (.b false),4] Z q<|mq_ h Z) λp h=>L e [.S 62 (.b false),9] Z p<|mq_ h Z) λm h=>L e [.S 57 (.b false),14] Z m<|mq_ h Z) λl h=>L e [.S 49 (.b false),22] Z l<|mq_ h Z) λu h=>H e [2] Z<|E h Z U
def HB (a:QH):O_ Bool:=(ML a).bind λb=>some b
def QcZ (a):CT 216 [.L 618] [(618,.var (Qh a))] (HB a) V.b (λ_=>[(618,.var (Qh a))]):=
 W 4 func216 Z λC f r h=>B h λg e h=>K f [7,.A (Qh a),.o (.C1 (.b g)),4] Z Z (Qfe _ _ e)<|E h Z r1_
def Gp (b:QH)(v:Int)(f:Qf)(u:Int)(w:Int)(g:Int)(x:Int)(h:Int)(y:Int)(i:Int)(j:Int)(k:Int)(l:Int)(m:Int)(n:Int):O_ (Int×Int):=(Le b).bind λo=>bif (!o)then some (v,h)else (Lg f u b).bind λp=>bif (!p)then some (w,h)else (Cb g b).bind λq=>bif (!q)then some (x,h)else (AN f b h).bind λa=>bif (!a.1)then some (y,a.2)else (Cc f u).bind λr=>bif (!r)then some (i,a.2)else (Li b g).bind λs=>bif (!s)then some (j,a.2)else (AO f b g a.2).bind λd=>bif (!d.1)then some (k,d.2)else (AP f b g d.2).bind λe=>bif (!e.1)then some (l,e.2)else (AQ f b e.2).bind λc=>bif (!c.1)then some (m,c.2)else (HB b).bind λt=>bif (!t)then some (n,c.2)else some (0,c.2)
def Qca (f v2 u S v5 P v7 v8 v9 w x y z D N):CT 133 [.own 618 10] [(618,.var [.clo (.func 201) [] [.L 619],.I v2,.clo (.func 202) [] [.L 620,.L 621,.L 622],.I v5,.clo (.func 204) [] [.L 623,.L 619],.I v7,.clo (.func 245) [] [.L 624,.L 625],.I v9,.clo (.func 208) [] [.L 620,.L 621],.I w,.clo (.func 209) [] [.L 619,.L 623],.I x,.clo (.func 245) [] [.L 627,.L 628],.I y,.clo (.func 245) [] [.L 629,.L 630],.I z,.clo (.func 245) [] [.L 631,.L 632],.I D,.clo (.func 216) [] [.L 619],.I N]),(619,.var (Qh f)),(620,.var (Qa u)),(621,.var (Qb S)),(622,.var [.clo (.func 200) [] [.L 619]]),(623,.var (Qb P)),(624,.var [.clo (.func 206) [] [.L 620,.L 619]]),(625,.var [.L 626]),(626,.var (Qb v8)),(627,.var [.clo (.func 211) [] [.L 620,.L 619,.L 623]]),(628,.var [.L 626]),(629,.var [.clo (.func 213) [] [.L 620,.L 619,.L 623]]),(630,.var [.L 626]),(631,.var [.clo (.func 214) [] [.L 620,.L 619]]),(632,.var [.L 626])] (Gp f v2 u S v5 P v7 v8 v9 w x y z D N) (λr=>(.I r.1)) (λr=>[(618,.var [.clo (.func 201) [] [.L 619],.I v2,.clo (.func 202) [] [.L 620,.L 621,.L 622],.I v5,.clo (.func 204) [] [.L 623,.L 619],.I v7,.clo (.func 245) [] [.L 624,.L 625],.I v9,.clo (.func 208) [] [.L 620,.L 621],.I w,.clo (.func 209) [] [.L 619,.L 623],.I x,.clo (.func 245) [] [.L 627,.L 628],.I y,.clo (.func 245) [] [.L 629,.L 630],.I z,.clo (.func 245) [] [.L 631,.L 632],.I D,.clo (.func 216) [] [.L 619],.I N]),(619,.var (Qh f)),(620,.var (Qa u)),(621,.var (Qb S)),(622,.var [.clo (.func 200) [] [.L 619]]),(623,.var (Qb P)),(624,.var [.clo (.func 206) [] [.L 620,.L 619]]),(625,.var [.L 626]),(626,.var (Qb r.2)),(627,.var [.clo (.func 211) [] [.L 620,.L 619,.L 623]]),(628,.var [.L 626]),(629,.var [.clo (.func 213) [] [.L 620,.L 619,.L 623]]),(630,.var [.L 626]),(631,.var [.clo (.func 214) [] [.L 620,.L 619]]),(632,.var [.L 626])]):=
 W 18 func133 Z λC a r h=>H a [14] Z<|AK.loopN 11<|AK.rnd<|B h λb4 a0 h=>g4_ a [2,.v .no [] (.b true),10,.o (.any (.L 618) none),3,.O 4 (.var [.clo (.func 201) [] [.L 619],.I v2]),6,.cm (.clo) [(618,619)] [(619,618)] [] [.d] [(618,.var (Qh f))] (.b b4),3] Z Z (λσ c e _=>Stp.idxV Z Z (QU a.n Z) (c _ _ Z) (c _ _ Z) (Qw.es Z) (e _ _ Z) (by decide)) Z (Qd5 _ _ a0)<|I h (λg h=>J a [.T,13] Z g<|E h Z rF_) λg h=>K a [.F,4,.v .no [] (.I 1),2] Z g Z<|AK.met<|AK.rnd<|B h λb5 a1 h=>g4_ a [2,.v .no [] (.b true),10,.o (.any (.loc 618 0 2) none),1,.kill 4,2,.O 4 (.var [.clo (.func 202) [] [.L 620,.L 621,.L 622],.I v5]),6,.cm (.clo) [(618,620),(619,621),(620,622),(621,619)] [(620,618),(621,619),(622,620),(619,621)] [] [.d,.d,.d] [(618,.var (Qa u)),(619,.var (Qb S)),(620,.var [.clo (.func 200) [] [.L 621]]),(621,.var (Qh f))] (.b b5),3] Z Z (λσ c e _=>Stp.idxV Z Z (QU a.n Z) (c _ _ Z) (c _ _ Z) (Qw.es Z) (e _ _ Z) (by decide)) Z (Qd7 _ _ _ _ a1)<|I h (λi h=>J a [.T,13] Z i<|E h Z rF_) λi h=>K a [.F,4,.v .no [] (.I 2),2] Z i Z<|AK.met<|AK.rnd<|B h λb6 a2 h=>g4_ a [2,.v .no [] (.b true),10,.o (.any (.loc 618 0 4) none),1,.kill 4,2,.O 4 (.var [.clo (.func 204) [] [.L 623,.L 619],.I v7]),6,.cm (.clo) [(618,623),(619,619)] [(623,618),(619,619)] [] [.d,.d] [(618,.var (Qb P)),(619,.var (Qh f))] (.b b6),3] Z Z (λσ c e _=>Stp.idxV Z Z (QU a.n Z) (c _ _ Z) (c _ _ Z) (Qw.es Z) (e _ _ Z) (by decide)) Z (Qd8 _ _ _ a2)<|I h (λj h=>J a [.T,13] Z j<|E h Z rF_) λj h=>K a [.F,4,.v .no [] (.I 3),2] Z j Z<|AK.met<|AK.rnd<|B h λa3 a4 h=>g4_ a [2,.v .no [] (.b true),10,.o (.any (.loc 618 0 6) none),1,.kill 4,2,.O 4 (.var [.clo (.func 245) [] [.L 624,.L 625],.I v9]),6,.cm (.clo) [(618,624),(619,620),(620,619),(621,625),(622,626)] [(624,618),(620,619),(619,620),(625,621),(626,622)] [] [.d,.d] [(618,.var [.clo (.func 206) [] [.L 619,.L 620]]),(619,.var (Qa u)),(620,.var (Qh f)),(621,.var [.L 622]),(622,.var (Qb a3.2))] (.b a3.1),3] Z Z (λσ c e _=>Stp.idxV Z Z (QU a.n Z) (c _ _ Z) (c _ _ Z) (Qw.es Z) (e _ _ Z) (by decide)) Z (QcW _ _ _ _ a4)<|I h (λk h=>J a [.T,13] Z k<|E h Z rF_) λk h=>K a [.F,4,.v .no [] (.I 4),2] Z k Z<|AK.met<|AK.rnd<|B h λb7 a5 h=>g4_ a [2,.v .no [] (.b true),10,.o (.any (.loc 618 0 8) none),1,.kill 4,2,.O 4 (.var [.clo (.func 208) [] [.L 620,.L 621],.I w]),6,.cm (.clo) [(618,620),(619,621)] [(620,618),(621,619)] [] [.d,.d] [(618,.var (Qa u)),(619,.var (Qb S))] (.b b7),3] Z Z (λσ c e _=>Stp.idxV Z Z (QU a.n Z) (c _ _ Z) (c _ _ Z) (Qw.es Z) (e _ _ Z) (by decide)) Z (Qea _ _ _ a5)<|I h (λl h=>J a [.T,13] Z l<|E h Z rF_) λl h=>K a [.F,4,.v .no [] (.I 5),2] Z l Z<|AK.met<|AK.rnd<|B h λb8 a6 h=>g4_ a [2,.v .no [] (.b true),10,.o (.any (.loc 618 0 10) none),1,.kill 4,2,.O 4 (.var [.clo (.func 209) [] [.L 619,.L 623],.I x]),6,.cm (.clo) [(618,619),(619,623)] [(619,618),(623,619)] [] [.d,.d] [(618,.var (Qh f)),(619,.var (Qb P))] (.b b8),3] Z Z (λσ c e _=>Stp.idxV Z Z (QU a.n Z) (c _ _ Z) (c _ _ Z) (Qw.es Z) (e _ _ Z) (by decide)) Z (Qeb _ _ _ a6)<|I h (λm h=>J a [.T,13] Z m<|E h Z rF_) λm h=>K a [.F,4,.v .no [] (.I 6),2] Z m Z<|AK.met<|AK.rnd<|B h λa7 a8 h=>g4_ a [2,.v .no [] (.b true),10,.o (.any (.loc 618 0 12) none),1,.kill 4,2,.O 4 (.var [.clo (.func 245) [] [.L 627,.L 628],.I y]),6,.cm (.clo) [(618,627),(619,620),(620,619),(621,623),(622,628),(623,626)] [(627,618),(620,619),(619,620),(623,621),(628,622),(626,623)] [] [.d,.d] [(618,.var [.clo (.func 211) [] [.L 619,.L 620,.L 621]]),(619,.var (Qa u)),(620,.var (Qh f)),(621,.var (Qb P)),(622,.var [.L 623]),(623,.var (Qb a7.2))] (.b a7.1),3] Z Z (λσ c e _=>Stp.idxV Z Z (QU a.n Z) (c _ _ Z) (c _ _ Z) (Qw.es Z) (e _ _ Z) (by decide)) Z (Qap _ _ _ _ _ a8)<|I h (λp h=>J a [.T,13] Z p<|E h Z rF_) λp h=>K a [.F,4,.v .no [] (.I 7),2] Z p Z<|AK.met<|AK.rnd<|B h λa9 b0 h=>g4_ a [2,.v .no [] (.b true),10,.o (.any (.loc 618 0 14) none),1,.kill 4,2,.O 4 (.var [.clo (.func 245) [] [.L 629,.L 630],.I z]),6,.cm (.clo) [(618,629),(619,620),(620,619),(621,623),(622,630),(623,626)] [(629,618),(620,619),(619,620),(623,621),(630,622),(626,623)] [] [.d,.d] [(618,.var [.clo (.func 213) [] [.L 619,.L 620,.L 621]]),(619,.var (Qa u)),(620,.var (Qh f)),(621,.var (Qb P)),(622,.var [.L 623]),(623,.var (Qb a9.2))] (.b a9.1),3] Z Z (λσ c e _=>Stp.idxV Z Z (QU a.n Z) (c _ _ Z) (c _ _ Z) (Qw.es Z) (e _ _ Z) (by decide)) Z (Qaq _ _ _ _ _ b0)<|I h (λq h=>J a [.T,13] Z q<|E h Z rF_) λq h=>K a [.F,4,.v .no [] (.I 8),2] Z q Z<|AK.met<|AK.rnd<|B h λb1 b2 h=>g4_ a [2,.v .no [] (.b true),10,.o (.any (.loc 618 0 16) none),1,.kill 4,2,.O 4 (.var [.clo (.func 245) [] [.L 631,.L 632],.I D]),6,.cm (.clo) [(618,631),(619,620),(620,619),(621,632),(622,626)] [(631,618),(620,619),(619,620),(632,621),(626,622)] [] [.d,.d] [(618,.var [.clo (.func 214) [] [.L 619,.L 620]]),(619,.var (Qa u)),(620,.var (Qh f)),(621,.var [.L 622]),(622,.var (Qb b1.2))] (.b b1.1),3] Z Z (λσ c e _=>Stp.idxV Z Z (QU a.n Z) (c _ _ Z) (c _ _ Z) (Qw.es Z) (e _ _ Z) (by decide)) Z (Qar _ _ _ _ b2)<|I h (λs h=>J a [.T,13] Z s<|E h Z rF_) λs h=>K a [.F,4,.v .no [] (.I 9),2] Z s Z<|AK.met<|AK.rnd<|B h λb9 b3 h=>g4_ a [2,.v .no [] (.b true),10,.o (.any (.loc 618 0 18) none),1,.kill 4,2,.O 4 (.var [.clo (.func 216) [] [.L 619],.I N]),6,.cm (.clo) [(618,619)] [(619,618)] [] [.d] [(618,.var (Qh f))] (.b b9),3] Z Z (λσ c e _=>Stp.idxV Z Z (QU a.n Z) (c _ _ Z) (c _ _ Z) (Qw.es Z) (e _ _ Z) (by decide)) Z (QcZ _ _ b3)<|I h (λt h=>J a [.T,13] Z t<|E h Z rF_) λt h=>K a [.F,4,.v .no [] (.I 10),2] Z t Z<|AK.met<|AK.rnd<|J a [2,.v .no [] (.b false),15] Z Z<|E h Z rF_
def Ka (a:Qf)(e:Int):O_ Int:=(Jo a.Tasks e).bind λg=>bif (!g)then some 3 else (AM a).bind λf=>bif (f.2 != 0)then some f.2 else (idx a.Tasks e).bind λd=>(idx a.Tasks e).bind λb=>(MK 0 a d).bind λh=>(CQ 0 a d (b.Vars.length:Int)).bind λi=>(CR 0 a d (b.Vars.length:Int)).bind λj=>(CS 0 a d).bind λk=>(Gp d 1 a e 5 (b.Vars.length:Int) 2 0 (-1) 2 1 (-1) (-1) (-1) 11).bind λc=>bif (c.1==(-1))then some c.2 else some c.1
def Qgh (i z):CT 144 [.agg (Qa i),.I z] [] (Ka i z) V.I no_:=
 W 68 func144 Z λC g r h=>B h λx5 D h=>J g [13,.o (.C2 (.b x5)),3] Z (Hy _ _ _ D)<|I h (λk h=>J g [.T,7] Z k<|E h Z U) λk h=>B h λx7 P h=>g3_ g [.F,5,.A (Qa i),.o (.C1 (.tup [.I x7.1,.I x7.2])),13] Z k Z (Ro _ _ P)<|I h (λl h=>J g [.T,8] Z l<|E h Z U) λl h=>B h λj S h=>B h λe p h=>G g [.F,3] Z (A l) <| 
  dr_ g [.N,.N,.N,.B (.row (Qh j)),.E (.agg (Qh j)),.a .no none true,.a .no none true,.a .no none true,.a (.row (Qh e)) none true,.a .no none true,.a .no none true,.a (.ln e.Vars.length) none true,.N,.N,.m .s,.m .s] [2,3] [2,3] [2,3,7,8] [2,3,7,8] Z Z (a4_ (Xd S) Z (Xd p) Qc) Z <|
  B h λa0 q h=>B h λa1 t h=>B h λa2 u h=>B h λa3 w h=>B h λx y h=>G g [.O 7 (.var (Qh j)),.O 8 (.var (Qb (e.Vars.length:Int))),6,.O 9 (.var [.clo (.func 200) [] [.L 7]]),10,.A [.clo (.func 201) [] [.L 7],.I 1],1,.A [.clo (.func 202) [] [.L 2,.L 3,.L 9],.I 5],1,.A [.clo (.func 204) [] [.L 8,.L 7],.I 2],1,.cm (.fn) [(618,10),(619,2),(620,7)] [(45,2),(611,3),(10,618),(2,619),(7,620)] [] [.d,.d] [(2,.var [.L 618]),(3,.var [.clo (.func 206) [] [.L 619,.L 620]]),(618,.var (Qb 0)),(619,.var (Qa i)),(620,.var (Qh j))] (.clo (.func 245) [] [.L 3,.L 2]),.A [.clo (.func 245) [] [.L 611,.L 45],.I (-1)],1,.A [.clo (.func 208) [] [.L 2,.L 3],.I 2],1,.A [.clo (.func 209) [] [.L 7,.L 8],.I 1],1,.cm (.fn) [(618,10),(619,2),(620,7),(621,8)] [(52,2),(612,3),(10,618),(2,619),(7,620),(8,621)] [] [.d,.d] [(2,.var [.L 618]),(3,.var [.clo (.func 211) [] [.L 619,.L 620,.L 621]]),(618,.var (Qb 0)),(619,.var (Qa i)),(620,.var (Qh j)),(621,.var (Qb (e.Vars.length:Int)))] (.clo (.func 245) [] [.L 3,.L 2]),.A [.clo (.func 245) [] [.L 612,.L 52],.I (-1)],1,.cm (.fn) [(618,10),(619,2),(620,7),(621,8)] [(55,2),(613,3),(10,618),(2,619),(7,620),(8,621)] [] [.d,.d] [(2,.var [.L 618]),(3,.var [.clo (.func 213) [] [.L 619,.L 620,.L 621]]),(618,.var (Qb 0)),(619,.var (Qa i)),(620,.var (Qh j)),(621,.var (Qb (e.Vars.length:Int)))] (.clo (.func 245) [] [.L 3,.L 2]),.A [.clo (.func 245) [] [.L 613,.L 55],.I (-1)],1,.cm (.fn) [(618,10),(619,2),(620,7)] [(58,2),(614,3),(10,618),(2,619),(7,620)] [] [.d,.d] [(2,.var [.L 618]),(3,.var [.clo (.func 214) [] [.L 619,.L 620]]),(618,.var (Qb 0)),(619,.var (Qa i)),(620,.var (Qh j))] (.clo (.func 245) [] [.L 3,.L 2]),.A [.clo (.func 245) [] [.L 614,.L 58],.I (-1)],1,.A [.clo (.func 216) [] [.L 7],.I 11],.o (.any (.own 62 10) (some (.var [.clo (.func 201) [] [.L 7],.I 1,.clo (.func 202) [] [.L 2,.L 3,.L 9],.I 5,.clo (.func 204) [] [.L 8,.L 7],.I 2,.clo (.func 245) [] [.L 611,.L 45],.I (-1),.clo (.func 208) [] [.L 2,.L 3],.I 2,.clo (.func 209) [] [.L 7,.L 8],.I 1,.clo (.func 245) [] [.L 612,.L 52],.I (-1),.clo (.func 245) [] [.L 613,.L 55],.I (-1),.clo (.func 245) [] [.L 614,.L 58],.I (-1),.clo (.func 216) [] [.L 7],.I 11]))),.cm (.fn) [(618,62),(619,7),(620,2),(621,3),(622,9),(623,8),(624,611),(625,45),(626,10),(627,612),(628,52),(629,613),(630,55),(631,614),(632,58)] [(62,618),(7,619),(2,620),(3,621),(9,622),(8,623),(611,624),(45,625),(10,626),(612,627),(52,628),(613,629),(55,630),(614,631),(58,632)] [] [.d] [(618,.var [.clo (.func 201) [] [.L 619],.I 1,.clo (.func 202) [] [.L 620,.L 621,.L 622],.I 5,.clo (.func 204) [] [.L 623,.L 619],.I 2,.clo (.func 245) [] [.L 624,.L 625],.I (-1),.clo (.func 208) [] [.L 620,.L 621],.I 2,.clo (.func 209) [] [.L 619,.L 623],.I 1,.clo (.func 245) [] [.L 627,.L 628],.I (-1),.clo (.func 245) [] [.L 629,.L 630],.I (-1),.clo (.func 245) [] [.L 631,.L 632],.I (-1),.clo (.func 216) [] [.L 619],.I 11]),(619,.var (Qh j)),(620,.var (Qa i)),(621,.var (Qb z)),(622,.var [.clo (.func 200) [] [.L 619]]),(623,.var (Qb (e.Vars.length:Int))),(624,.var [.clo (.func 206) [] [.L 620,.L 619]]),(625,.var [.L 626]),(626,.var (Qb x.2)),(627,.var [.clo (.func 211) [] [.L 620,.L 619,.L 623]]),(628,.var [.L 626]),(629,.var [.clo (.func 213) [] [.L 620,.L 619,.L 623]]),(630,.var [.L 626]),(631,.var [.clo (.func 214) [] [.L 620,.L 619]]),(632,.var [.L 626])] (.I x.1),10] Z ⟨⟨⟨⟨⟨⟨⟨⟨⟨⟨⟨⟨⟨⟨⟨⟨⟨⟨⟨U,Z⟩,Z⟩,Z⟩,Z⟩,Z⟩,Z⟩,(Qfd _ _ _ _ q)⟩,Z⟩,Z⟩,Z⟩,(Qb1 _ _ _ _ _ t)⟩,Z⟩,(Qb2 _ _ _ _ _ u)⟩,Z⟩,(Qb3 _ _ _ _ w)⟩,Z⟩,Z⟩,(λσ h1 h2 hf=>Stp.buildAny Z Z (QU g.n Z) (Qw.es Z) Rf Z (by decide) (by decide) (Gf h1 Z) Z Z (hf Z))⟩,(Qca _ _ _ _ _ _ _ _ _ _ _ _ _ _ _ _ y)⟩<|I h (λf h=>J g [.T,8] Z f<|E h Z U) λf h=>J g [.F,9] Z f<|E h Z U
def Fw (a:Int)(d:QH)(b:Qf):O_ Int:=(Ka b a).bind λc=>some c
def Qff (e f a):CT 143 [.I e,.agg (Qh f),.L 618] [(618,.var (Qa a))] (Fw e f a) V.I (λ_=>[(618,.var (Qa a))]):=
 W 9 func143 Z λC g r h=>B h λi b h=>K g [8,.A (Qa a),1,.o (.C2 (.I i)),4] Z Z (Qgh _ _ _ b)<|E h Z r1_
def KY (d:(L_ QH))(e:Qf)(a:Int):O_ (Int⊕((Int×Int)⊕Unit)):=bif (a<(d.length:Int))then (idx d a).bind λc=>(Fw a c e).bind λb=>bif (b != 0)then some (.inr (.inl (a,b)))else some (.inl (Qi (a+1)))else some (.inr (.inr ()))
def Uu (b:Int)(a:Int):O_ (Int×Int):=some (b,a)
def Uv : O_ (Int×Int):=some (0,0)
def KB (a:(L_ QH))(b:Qf):O_ (Int×Int):=(QE (λst=>KY a b st) 0).bind (Sum.elim (λq=>Uu q.1 q.2) (λq=>Uv))
def TP (g f):CT 142 [.sl 14 (g.map Qh),.clo (.func 143) [] [.L 618]] [(618,.var (Qa f))] (KB g f) (λr=>(.tup [.I r.1,.I r.2])) (λ_=>[(618,.var (Qa f))]):=
 W 25 func142 Z λC e r h=>J e [10,.o (.ln g.length),4] Z Qc<|lq_ h (λst=>⟨[(1,.clo (.func 143) [] [.L 618]),(9,.sl 14 (g.map Qh)),(10,.I (g.length:Int)),(11,.I st)],[(618,.var (Qa f))]⟩) (λq=>(.ret,⟨[(4,.I q.1),(5,.I q.2)],[(618,.var (Qa f))]⟩)) (λq=>(.exit 0,⟨[],[(618,.var (Qa f))]⟩)) Z (λm o h=>H e [6] Z<|I h (λa h=>B h λc i h=>B h λk j h=>G e [.T,7,.o (.row (Qh c)),.A (Qh c),3,.O 7 (.var (Qh c)),6,.A (Qh c),.cm (.clo) [(618,618)] [(618,618)] [] [.d,.d,.d] [(618,.var (Qa f))] (.I k),9] Z (a6_ a (Xd i) Z Z Z (Qff _ _ _ _ j))<|I h (λb h=>J e [.T,11] Z b<|rR_ h Z) λb h=>J e [.F,7] Z b<|rN_ h Z) λa h=>J e [.F,2] Z a<|rX_ h Z) (λ⟨p,l⟩ h=>H e [2] Z<|F h Z Z r1_) (λ_ h=>H e [9] Z<|F h Z Z r1_)
def Uc (c:Qf):O_ (Int×GY):=(MH c 2 3 1).bind λe=>bif (e != 0)then some (e,(GY.mk 1 0))else (AM c).bind λd=>bif (d.2 != 0)then some (d.2,(GY.mk 2 d.1))else (GC c.Places c).bind λa=>bif (a.2 != 0)then some (a.2,(GY.mk 3 a.1))else (KB c.Tasks c).bind λb=>bif (b.2 != 0)then some (b.2,(GY.mk 4 b.1))else some (0,(GY.mk 0 0))
def Qht (k):CT 85 [.agg (Qa k)] [] (Uc k) (λr=>(.tup [.agg (WX r.2),.I r.1])) no_:=by
 refine W 58 func85 rfl λC e r h=>?_
 obtain⟨t,q,h⟩:=Qz h
 refine Qp e [10,.A [.clo (.func 134) [] [.L 1],.I 2],1,.A [.clo (.func 135) [] [.L 1],.I 3],1,.A [.clo (.func 137) [] [.L 1],.I 1],.o (.any (.own 17 3) (some (.var [.clo (.func 134) [] [.L 1],.I 2,.clo (.func 135) [] [.L 1],.I 3,.clo (.func 137) [] [.L 1],.I 1]))),.cm (.fn) [(618,17),(619,1)] [(17,618),(1,619)] [] [.d] [(618,.var [.clo (.func 134) [] [.L 619],.I 2,.clo (.func 135) [] [.L 619],.I 3,.clo (.func 137) [] [.L 619],.I 1]),(619,.var (Qa k))] (.I t),10] Z (a5_ Z Z Z (λσ u w D=>Stp.buildAny Z Z (QU e.n Z) (Qw.es Z) Rf Z (by decide) (by decide) (Gf u Z) Z Z (D Z)) (Qe9 _ _ _ _ _ q)) ?_
 rcases XS h with⟨i,h⟩|⟨i,h⟩
 ·refine Qp e [.T,2,.A (WX (GY.mk 1 0)),2,.O 2 (.var (WX (GY.mk 1 0))),5,.K [2,3] [2]] Z (a3_ i Z Z) ?_
  cases h
  exact AK.done (ex_ [_,_] (an_ (an_ (ex_ _ (ex_ _ (an_ Z (an_ Z (Or.inl (an_ (Qw.ag Z) (an_ (Qw.sz Z) Z))))))) (an_ Z U)) (gives U)))
 obtain⟨p,s,h⟩:=Qz h
 refine Qp e [.F,5,.A (Qa k),.o (.C1 (.tup [.I p.1,.I p.2])),13] Z (a3_ i Z (Ro _ _ s)) ?_
 rcases XS h with⟨j,h⟩|⟨j,h⟩
 ·refine Qp e [.T,3,.A (WX (GY.mk 2 p.1)),2,.O 2 (.var (WX (GY.mk 2 p.1))),5,.K [2,3] [2]] Z (a3_ j Z Z) ?_
  cases h
  exact AK.done (ex_ [_,_] (an_ (an_ (ex_ _ (ex_ _ (an_ Z (an_ Z (Or.inl (an_ (Qw.ag Z) (an_ (Qw.sz Z) Z))))))) (an_ Z U)) (gives U)))
 obtain⟨f,l,h⟩:=Qz h
 refine Qp e [.F,8,.cm (.fn) [(618,1)] [(1,618)] [] [.d,.d] [(618,.var (Qa k))] (.tup [.I f.1,.I f.2]),13] Z (a2_ j (SC _ _ _ l)) ?_
 rcases XS h with⟨a,h⟩|⟨a,h⟩
 ·refine Qp e [.T,3,.A (WX (GY.mk 3 f.1)),2,.O 2 (.var (WX (GY.mk 3 f.1))),5,.K [2,3] [2]] Z (a3_ a Z Z) ?_
  cases h
  exact AK.done (ex_ [_,_] (an_ (an_ (ex_ _ (ex_ _ (an_ Z (an_ Z (Or.inl (an_ (Qw.ag Z) (an_ (Qw.sz Z) Z))))))) (an_ Z U)) (gives U)))
 obtain⟨g,m,h⟩:=Qz h
 refine Qp e [.F,8,.cm (.fn) [(618,1)] [(1,618)] [] [.d,.d] [(618,.var (Qa k))] (.tup [.I g.1,.I g.2]),13] Z (a2_ a (TP _ _ _ m)) ?_
 refine bg_ h (λb h=>Qp e [.T,3,.A (WX (GY.mk 4 g.1)),2,.O 2 (.var (WX (GY.mk 4 g.1))),5,.K [2,3] [2]] rfl (a3_ b rfl rfl) ?_) λb h=>Qp e [.F,4,.A (WX (GY.mk 0 0)),1,.O 2 (.var (WX (GY.mk 0 0))),4,.K [2,3] [2]] rfl (a3_ b rfl rfl) ?_
 ·cases h
  exact AK.done (ex_ [_,_] (an_ (an_ (ex_ _ (ex_ _ (an_ Z (an_ Z (Or.inl (an_ (Qw.ag Z) (an_ (Qw.sz Z) Z))))))) (an_ Z U)) (gives U)))
 cases h
 exact AK.done (ex_ [_,_] (an_ (an_ (ex_ _ (ex_ _ (an_ Z (an_ Z (Or.inl (an_ (Qw.ag Z) (an_ (Qw.sz Z) Z))))))) (an_ Z U)) (gives U)))
def VZ (a:QBg)(b:Int):O_ Bool:=(Kg a).bind λc=>bif (!c)then some true else bif (0<(a.length:Int))then (idx a (Qi ((a.length:Int)-1))).bind λd=>some (decide (b<=d.1))else some false
def Za (b:Int)(a:Bool):O_ (Int⊕(Unit⊕Unit)):=bif a then some (.inr (.inl ()))else some (.inl (Qi (b+1)))
def OD (e:QMk)(f:Qf)(a:Int):O_ (Int⊕(Unit⊕Unit)):=bif (a<(e.length:Int))then (idx e a).bind λg=>(idx f.Places a).bind λb=>(YS f.Colours b.Colour).bind λc=>(VZ g c).bind (λd=>Za a d)else some (.inr (.inr ()))
def Qgi : O_ Bool:=some false
def Qgj : O_ Bool:=some true
def OE (a:Qf)(b:QMk):O_ Bool:=bif ((b.length:Int) != (a.Places.length:Int))then some false else (QE (λst=>OD b a st) 0).bind (Sum.elim (λq=>Qgi) (λq=>Qgj))
def Qgk (p j):CT 86 [.agg (Qa p),.sl 1 (j.map Qe)] [] (OE p j) V.b no_:=
 W 50 func86 Z λC e r h=>K e [10,.o (.ln j.length),2,.o (.ln p.Places.length),3] Z Qc Qc<|I h (λk h=>J e [.T,7] Z k<|E h Z U) λk h=>K e [.F,6,.o (.ln j.length),4] Z k Qc<|lq_ h (λst=>⟨[lk_ 2,(14,.sl 1 (j.map Qe)),(15,.I (j.length:Int)),(16,.I st)],[(2,.var (Qa p))]⟩) (λq=>(.ret,⟨[(4,.b false)],[]⟩)) (λq=>(.exit 0,⟨[],[]⟩)) Z (λP o h=>H e [6] Z<|I h (λl h=>B h λw x h=>B h λy s h=>B h λz t h=>G e [.T,7,.o (.row (Qe w)),6] Z (a2_ l (Xd x)) <| 
  dr_ e [.N,.N,.N,.N,.N,.B (.row (Qq y)),.N,.N,.B (.C2 (.I z)),.N] [] [] [2,6,7,14,15,16] [2] Z Z (a2_ (Xd s) (CI _ _ _ t)) Z <|
  H e [2] Z<|mV_ h (λm=>⟨[lk_ 2,(14,.sl 1 (j.map Qe)),(15,.I (j.length:Int)),(16,.I P),(48,.b m)],[(2,.var (Qa p))]⟩) (λm h=>B h λD u h=>J e [2,.o (.C1 (.b D)),2] Z (Ue _ _ u)<|I h (λf h=>L e [.S 33 (.b true),16] Z f<|mq_ h Z) λf h=>G e [.S 33 (.b false),1,.o (.ln w.length),2] Z ⟨(tc_ f),Qc⟩<|I h (λg h=>B h λO v h=>G e [.S 37 (.b true),2,.o (.ln w.length),1,.o (.row (QQ O)),7] Z ⟨⟨(tc_ g),Qc⟩,(Xd v)⟩<|mq_ h Z) λg h=>L e [.S 37 (.b false),12] Z g<|mq_ h Z) λm h=>H e [1] Z<|I h (λi h=>J e [.T,8] Z i<|rR_ h Z) λi h=>J e [.F,7] Z i<|rN_ h Z) λl h=>J e [.F,2] Z l<|rX_ h Z) (λ_ h=>H e [2] Z<|E h Z U) (λ_ h=>H e [8] Z<|E h Z U)
def OF (a:(Int×GY))(c:Qf)(d:QMk):O_ Bool:=bif (a.1 != 0)then some true else (OE c d).bind λb=>some (!b)
def OG (d:Qf)(a:Int)(b:Int):O_ ((Int×Int)⊕Int):=bif (b<(d.Tasks.length:Int))then (idx d.Tasks b).bind λc=>(WL d b).bind λe=>some (.inl ((Qi (a+(Qi (e*(Qi (1+(Qi ((c.Ins.length:Int)*(c.Outs.length:Int))))))))),(Qi (b+1))))else some (.inr a)
def Qgl (a:Int):O_ Bool:=some (decide (a<=600))
def OH (b:Qf)(a:Bool):O_ Bool:=bif a then some false else (QE (λst=>OG b st.1 st.2) (0,0)).bind (λq=>Qgl q)
def Cd (a:Qf)(d:QMk):O_ Bool:=
 (Be a).bind λe=>
 (PR d).bind λf=>
 bif ((!e)||((!f)||(12<(a.Tasks.length:Int))))then
 some false
 else
 (Uc a).bind λb=>
 (OF b a d).bind (λc=>OH a c)
def Qgm (f m2):CT 48 [.agg (Qa f),.sl 1 (m2.map Qe)] [] (Cd f m2) V.b no_:=
 W 69 func48 Z λC e r h=>B h λx a3 h=>B h λy a4 h=>g3_ e [8,.A (Qa f),.o (.C1 (.b x)),6,.o (.C1 (.b y)),5] Z Z (Qao _ _ a3) (Qhs _ _ a4)<|Y ⟨[(1,.sl 1 (m2.map Qe)),lk_ 2,(27,.b ((!x)||((!y)||(12<(f.Tasks.length:Int)))))],[(2,.var (Qa f))]⟩ (H e [4] Z<|bO_ (!x) (λg=>G e [.S 18 (.b true),10,.S 27 (.b ((!x)||((!y)||(12<(f.Tasks.length:Int)))))] Z ⟨(tc_ g),(cb_ (UN g Z))⟩<|M Z) λg=>L e [.S 18 (.b false),4] Z g<|bO_ (!y) (λi=>G e [.S 22 (.b true),6,.S 27 (.b ((!x)||((!y)||(12<(f.Tasks.length:Int)))))] Z ⟨(tc_ i),(cb_ (We g (UN i Z)))⟩<|M Z) λi=>G e [.S 22 (.b false),2,.o (.ln f.Tasks.length),3,.S 27 (.b ((!x)||((!y)||(12<(f.Tasks.length:Int)))))] Z ⟨⟨(tc_ i),Qc⟩,(cb_ (We g (We i Z)))⟩<|M Z)<|H e [1] Z<|I h (λj h=>J e [.T,7] Z j<|E h Z U) λj h=>B h λu z h=>g4_ e [.F,4,.A (Qa f),.o (.C1 (.tup [.agg (WX u.2),.I u.1])),5,.O 7 (.var (WX u.2)),5] Z j Z (Qht _ _ z) Z<|mV_ h (λw=>⟨[lk_ 2,(40,.b w)],[(2,.var (Qa f))]⟩) (λw h=>H e [4] Z<|I h (λk h=>L e [.S 35 (.b true),6] Z k<|mq_ h Z) λk h=>B h λa5 D h=>G e [.S 35 (.b false),.A (Qa f),1,.o (.C2 (.b a5)),3] Z ⟨⟨(tc_ k),Z⟩,(Qgk _ _ _ D)⟩<|mq_ h Z) λw h=>H e [1] Z<|I h (λl h=>J e [.T,7] Z l<|E h Z U) λl h=>J e [.F,14] Z l<|lp_ h (λst=>⟨[lk_ 2,(9,.I st.1),(10,.I st.2)],[(2,.var (Qa f))]⟩) (λq=>(.exit 0,⟨[(9,.I q)],[]⟩)) Z (λ⟨a1,a7⟩ o h=>J e [6,.o (.ln f.Tasks.length),3] Z Qc<|I h (λp h=>B h λt P h=>B h λa6 a0 h=>G e [.T,9,.o (.row (Qh t)),.A (Qh t),2,.O 11 (.var (Qh t)),2] Z (a4_ p (Xd P) Z Z) <| 
  dr_ e [.N,.E (.agg (Qa f)),.N,.B (.C2 (.I a6)),.N,.N,.B (.ln t.Ins.length),.N,.N,.B (.ln t.Outs.length),.N,.N,.N,.N,.m .s] [] [] [2,9,10] [2] Z Z (a4_ Z (TM _ _ _ a0) Qc Qc) Z <|
  H e [7] Z<|rN_ h Z) λp h=>J e [.F,2] Z p<|rX_ h Z) λa2 h=>H e [10] Z<|E h Z U
def Zb (c:Bool)(a:Int)(d:Qf)(e:QMk):O_ Bool:=bif c then bif (a<=12)then bif ((d.Tasks.length:Int)<=6)then (HT e).bind λb=>some (decide (b<=30))else some false else some false else some false
def Zc (a:Bool):O_ Bool:=some a
def OI (b:Qf)(c:QMk)(a:Int):O_ Bool:=(Cd b c).bind λd=>(Zb d a b c).bind (λe=>Zc e)
def Qgn (k q a):CT 25 [.agg (Qa k),.sl 1 (q.map Qe),.I a] [] (OI k q a) V.b no_:=
 W 27 func25 Z λC f r h=>B h λs l h=>K f [8,.A (Qa k),1,.o (.C2 (.b s)),4] Z Z (Qgm _ _ _ l)<|mV_ h (λm=>⟨[(6,.b m)],[]⟩) (λm h=>H f [3] Z<|I h (λg h=>L f [.S 12 (.b true),4] Z g<|I h (λi h=>G f [.S 16 (.b true),2,.o (.ln k.Tasks.length),3] Z ⟨(tc_ i),Qc⟩<|I h (λe h=>B h λp j h=>G f [.S 22 (.b true),1,.o (.C1 (.I p)),4] Z ⟨(tc_ e),(VD _ _ j)⟩<|mq_ h Z) λe h=>L f [.S 22 (.b false),6] Z e<|mq_ h Z) λi h=>L f [.S 16 (.b false),12] Z i<|mq_ h Z) λg h=>L f [.S 12 (.b false),16] Z g<|mq_ h Z) λm h=>H f [2] Z<|E h Z U
def OJ (b:Qf)(a:Int):O_ Bool:=
 (Be b).bind λe=>
 bif ((!e)||((16<a)||((6<(b.Tasks.length:Int))||(8<(b.Places.length:Int)))))then
 some false
 else
 (Dy b).bind λc=>
 (OI b c (min2 a 12)).bind λd=>
 some d
def Qgo (f e):CT 7 [.agg (Qa f),.I e] [] (OJ f e) V.b no_:=
 W 32 func7 Z λC i r h=>B h λm t h=>K i [8,.A (Qa f),.o (.C1 (.b m)),5] Z Z (Qao _ _ t)<|Y ⟨[(1,.I e),lk_ 2,(25,.b ((!m)||((16<e)||((6<(f.Tasks.length:Int))||(8<(f.Places.length:Int))))))],[(2,.var (Qa f))]⟩ (H i [4] Z<|bO_ (!m) (λg=>G i [.S 10 (.b true),16,.S 25 (.b ((!m)||((16<e)||((6<(f.Tasks.length:Int))||(8<(f.Places.length:Int))))))] Z ⟨(tc_ g),(cb_ (UN g Z))⟩<|M Z) λg=>L i [.S 10 (.b false),4] Z g<|bO_ (decide (16<e)) (λj=>G i [.S 14 (.b true),12,.S 25 (.b ((!m)||((16<e)||((6<(f.Tasks.length:Int))||(8<(f.Places.length:Int))))))] Z ⟨(tc_ j),(cb_ (We g (UN j Z)))⟩<|M Z) λj=>G i [.S 14 (.b false),2,.o (.ln f.Tasks.length),3] Z ⟨(tc_ j),Qc⟩<|bO_ (decide (6<(f.Tasks.length:Int))) (λk=>G i [.S 20 (.b true),6,.S 25 (.b ((!m)||((16<e)||((6<(f.Tasks.length:Int))||(8<(f.Places.length:Int))))))] Z ⟨(tc_ k),(cb_ (We g (We j (UN k Z))))⟩<|M Z) λk=>G i [.S 20 (.b false),2,.o (.ln f.Places.length),3,.S 25 (.b ((!m)||((16<e)||((6<(f.Tasks.length:Int))||(8<(f.Places.length:Int))))))] Z ⟨⟨(tc_ k),Qc⟩,(cb_ (We g (We j (We k Z))))⟩<|M Z)<|H i [1] Z<|I h (λl h=>J i [.T,7] Z l<|E h Z U) λl h=>B h λp q h=>B h λu s h=>G i [.F,3] Z (A l) <| 
  dr_ i [.E (.agg (Qa f)),.E (.agg (Qa f)),.B (.cd false [.d] 1 (p.map Qe) p.length),.N,.N,.B (.C3 (.b u)),.N] [] [] [4] [] Z Z (a4_ Z Z ⟨(Hf _ _ q),Qc⟩ (Qgn _ _ _ _ s)) Z <|
  H i [2] Z<|E h Z U
def YB (c:QBg)(e:QBg)(b:Int):O_ (Int⊕(Unit⊕Unit)):=bif (b<(c.length:Int))then (idx c b).bind λd=>(idx e b).bind λa=>bif (!((d.1==a.1)&&(d.2==a.2)))then some (.inr (.inl ()))else some (.inl (Qi (b+1)))else some (.inr (.inr ()))
def NB : O_ Bool:=some false
def NC : O_ Bool:=some true
def Yt (a:QBg)(b:QBg):O_ Bool:=bif ((a.length:Int) != (b.length:Int))then some false else (QE (λst=>YB a b st) 0).bind (Sum.elim (λq=>NB) (λq=>NC))
def ND (i k):CT 109 [.sl 2 (i.map QQ),.sl 2 (k.map QQ)] [] (Yt i k) V.b no_:=
 W 26 func109 Z λC c r h=>K c [9,.o (.ln i.length),1,.o (.ln k.length),3] Z Qc Qc<|I h (λf h=>J c [.T,7] Z f<|E h Z U) λf h=>K c [.F,6,.o (.ln i.length),4] Z f Qc<|lq_ h (λst=>⟨[(0,.sl 2 (i.map QQ)),(1,.sl 2 (k.map QQ)),(12,.I (i.length:Int)),(13,.I st)],[]⟩) (λq=>(.ret,⟨[(4,.b false)],[]⟩)) (λq=>(.exit 0,⟨[],[]⟩)) Z (λs o h=>H c [6] Z<|I h (λg h=>B h λl m h=>B h λe j h=>G c [.T,11] Z (A g) <| 
  dr_ c [.N,.N,.B (.row (QQ l)),.E (.agg (QQ l)),.N,.N,.B (.row (QQ e)),.E (.agg (QQ e)),.B (.any (.b (!((l.1==e.1)&&(l.2==e.2)))) none)] [] [] [0,1,12,13,24] [] Z Z (a5_ (Xd m) Z (Xd j) Z (λσ p t _=>Stp.neAgg Z Z (QU c.n Z) (p _ _ Z) (p _ _ Z) Z Z (Qpu _ _ _ _))) Z <|
  H c [1] Z<|I h (λd h=>J c [.T,8] Z d<|rR_ h Z) λd h=>J c [.F,7] Z d<|rN_ h Z) λg h=>J c [.F,2] Z g<|rX_ h Z) (λ_ h=>H c [2] Z<|E h Z U) (λ_ h=>H c [8] Z<|E h Z U)
def RM (b:QBg)(c:QBg):O_ Bool:=(Kg b).bind λd=>bif d then (Kg c).bind λe=>bif e then (Yt b c).bind λa=>some a else some false else some false
def Qio (a:Bool):O_ Bool:=some a
def OK (a:QBg)(b:QBg):O_ Bool:=(RM a b).bind (λc=>Qio c)
def Qip (m p):CT 66 [.sl 2 (m.map QQ),.sl 2 (p.map QQ)] [] (OK m p) V.b no_:=
 W 16 func66 Z λC a r h=>H a [6] Z<|mV_ h (λi=>⟨[(4,.b i)],[]⟩) (λi h=>B h λq j h=>J a [2,.o (.C1 (.b q)),1] Z (Ue _ _ j)<|I h (λe h=>B h λs k h=>G a [.S 7 (.b true),1,.o (.C1 (.b s)),2] Z ⟨(tc_ e),(Ue _ _ k)⟩<|I h (λf h=>B h λl g h=>G a [.S 11 (.b true),2,.o (.C2 (.b l)),3] Z ⟨(tc_ f),(ND _ _ _ g)⟩<|mq_ h Z) λf h=>L a [.S 11 (.b false),6] Z f<|mq_ h Z) λe h=>L a [.S 7 (.b false),10] Z e<|mq_ h Z) λi h=>H a [2] Z<|E h Z U
def Xg (d:QMk)(e:QMk)(a:Int):O_ (Int⊕(Unit⊕Unit)):=bif (a<(d.length:Int))then (idx d a).bind λf=>(idx e a).bind λb=>(OK f b).bind λc=>bif (!c)then some (.inr (.inl ()))else some (.inl (Qi (a+1)))else some (.inr (.inr ()))
def WR : O_ Bool:=some false
def WS : O_ Bool:=some true
def XH (a:QMk)(b:QMk):O_ Bool:=bif ((a.length:Int) != (b.length:Int))then some false else (QE (λst=>Xg a b st) 0).bind (Sum.elim (λq=>WR) (λq=>WS))
def WT (i l):CT 65 [.sl 1 (i.map Qe),.sl 1 (l.map Qe),.clo (.func 66) [] []] [] (XH i l) V.b no_:=
 W 32 func65 Z λC e r h=>K e [9,.o (.ln i.length),1,.o (.ln l.length),3] Z Qc Qc<|I h (λf h=>J e [.T,7] Z f<|E h Z U) λf h=>K e [.F,6,.o (.ln i.length),4] Z f Qc<|lq_ h (λst=>⟨[(1,.sl 1 (l.map Qe)),(2,.clo (.func 66) [] []),(15,.sl 1 (i.map Qe)),(16,.I (i.length:Int)),(17,.I st)],[]⟩) (λq=>(.ret,⟨[(6,.b false)],[]⟩)) (λq=>(.exit 0,⟨[],[]⟩)) Z (λu o h=>H e [6] Z<|I h (λg h=>B h λt m h=>B h λp j h=>B h λs k h=>g4_ e [.T,7,.o (.row (Qe t)),9,.o (.row (Qe p)),9,.o (.C2 (.b s)),3] Z g (Xd m) (Xd j) (Qip _ _ _ k)<|I h (λa h=>J e [.T,8] Z a<|rR_ h Z) λa h=>J e [.F,7] Z a<|rN_ h Z) λg h=>J e [.F,2] Z g<|rX_ h Z) (λ_ h=>H e [2] Z<|E h Z U) (λ_ h=>H e [8] Z<|E h Z U)
def Ud (a:QMk)(b:QMk):O_ Bool:=(XH a b).bind λc=>some c
def Qhu (c e):CT 37 [.sl 1 (c.map Qe),.sl 1 (e.map Qe)] [] (Ud c e) V.b no_:=
 W 8 func37 Z λC f r h=>B h λg a h=>J f [9,.cm (.fn) [] [] [] [.d,.d,.d] [] (.b g),4] Z (WT _ _ _ a)<|E h Z U
def Pw (a:QMk)(b:QMk):O_ Bool:=(Ud a b).bind λc=>some c
def Qef (f a):CT 36 [.sl 1 (f.map Qe),.L 618] [(618,.var (Qt a))] (Pw f a) V.b (λ_=>[(618,.var (Qt a))]):=
 W 7 func36 Z λC g r h=>B h λi e h=>J g [9,.o (.C2 (.b i)),4] Z (Qhu _ _ _ e)<|E h Z r1_
def YU (c:(L_ QMk))(d:QMk)(a:Int):O_ (Int⊕(Int⊕Unit)):=bif (a<(c.length:Int))then (idx c a).bind λe=>(Pw e d).bind λb=>bif b then some (.inr (.inl a))else some (.inl (Qi (a+1)))else some (.inr (.inr ()))
def Uw (a:Int):O_ Int:=some a
def Ux : O_ Int:=some (-1)
def Ji (a:(L_ QMk))(b:QMk):O_ Int:=(QE (λst=>YU a b st) 0).bind (Sum.elim (λq=>Uw q) (λq=>Ux))
def Uy (g e):CT 35 [.sl 1 (g.map Qt),.clo (.func 36) [] [.L 618]] [(618,.var (Qt e))] (Ji g e) V.I (λ_=>[(618,.var (Qt e))]):=
 W 19 func35 Z λC c r h=>J c [9,.o (.ln g.length),4] Z Qc<|lq_ h (λst=>⟨[(0,.sl 1 (g.map Qt)),(1,.clo (.func 36) [] [.L 618]),(7,.I (g.length:Int)),(8,.I st)],[(618,.var (Qt e))]⟩) (λq=>(.ret,⟨[(4,.I q)],[(618,.var (Qt e))]⟩)) (λq=>(.exit 0,⟨[],[(618,.var (Qt e))]⟩)) Z (λm o h=>H c [6] Z<|I h (λf h=>B h λl j h=>B h λk i h=>g3_ c [.T,15,.o (.row (Qt l)),1,.cm (.clo) [(618,618)] [(618,618)] [] [.d,.d] [(618,.var (Qt e))] (.b k),2] Z f (Xd j) (Qef _ _ _ i)<|I h (λa h=>J c [.T,9] Z a<|rR_ h Z) λa h=>J c [.F,7] Z a<|rN_ h Z) λf h=>J c [.F,2] Z f<|rX_ h Z) (λp h=>H c [2] Z<|E h Z r1_) (λ_ h=>H c [8] Z<|E h Z r1_)
def OL (a:QD)(b:QMk):O_ Int:=(Ji a.States b).bind λc=>some c
def Qgp (c a):CT 14 [.agg (Qo c),.sl 1 (a.map Qe)] [] (OL c a) V.I no_:=
 W 9 func14 Z λC e r h=>B h λf b h=>J e [12,.cm (.fn) [(618,3)] [(3,618)] [] [.d,.d] [(618,.var (Qt a))] (.I f),4] Z (Uy _ _ _ b)<|E h Z U
def Rq (f:QD)(a:QW)(d:Int)(e:LI_):O_ Bool:=(Fs f a).bind λg=>bif g then bif (a.From==d)then (idx e a.To).bind λb=>(idx e d).bind λc=>some (b==(Qi (c-1)))else some false else some false
def Rr (a:Bool):O_ Bool:=some a
def HC (a:QW)(b:QD)(c:Int)(d:LI_):O_ Bool:=(Rq b a c d).bind (λe=>Rr e)
def Qc0 (k g p q):CT 72 [.agg (QR k),.L 618,.L 619,.L 620] [(618,.var (Qo g)),(619,.var (Qb p)),(620,.var (QN q))] (HC k g p q) V.b (λ_=>[(618,.var (Qo g)),(619,.var (Qb p)),(620,.var (QN q))]):=
 W 28 func72 Z λC j r h=>H j [7] Z<|mV_ h (λt=>⟨[(5,.b t)],[(618,.var (Qo g)),(619,.var (Qb p)),(620,.var (QN q))]⟩) (λt h=>B h λu i h=>H j [.K [1,2,3,4,5] [4,618,619,620]] Z<|I h (λf h=>I h (λe h=>B h λv l h=>B h λw o h=> 
  dr_ j [.E (.agg (Qo g)),.E (.agg (QR k)),.B (.C2 (.b u)),.E (.b true),.N,.N,.N,.N,.N,.E (.b true),.N,.N,.N,.B (.row (Qb v)),.N,.N,.N,.B (.row (Qb w)),.N,.N,.N,.N,.m .s] [] [] [5] [618,619,620] Z Z (a7_ Z Z (CK _ _ _ i) (cb_ f) (cb_ e) (Xd l) (Xd o)) Z <|
  mq_ h Z) λe h=> 
  dr_ j [.E (.agg (Qo g)),.E (.agg (QR k)),.B (.C2 (.b u)),.E (.b true),.N,.N,.N,.N,.N,.E (.b false),.N,.N,.N,.N,.N,.N,.N,.N,.N,.N,.N,.N,.m .s] [] [] [5] [618,619,620] Z Z (a5_ Z Z (CK _ _ _ i) (cb_ f) (cb_ e)) Z <|
  mq_ h Z) λf h=> 
  dr_ j [.E (.agg (Qo g)),.E (.agg (QR k)),.B (.C2 (.b u)),.E (.b false),.N,.N,.N,.N,.N,.N,.N,.N,.N,.N,.N,.N,.N,.N,.N,.N,.N,.N,.m .s] [] [] [5] [618,619,620] Z Z (a4_ Z Z (CK _ _ _ i) (cb_ f)) Z <|
  mq_ h Z) λt h=>H j [2] Z<|E h Z r3_
def Kb (d:(L_ QW))(e:QD)(f:Int)(g:LI_)(a:Int):O_ (Int⊕(Int⊕Unit)):=bif (a<(d.length:Int))then (idx d a).bind λb=>(HC b e f g).bind λc=>bif c then some (.inr (.inl a))else some (.inl (Qi (a+1)))else some (.inr (.inr ()))
def Fx (a:Int):O_ Int:=some a
def Fy : O_ Int:=some (-1)
def KZ (a:(L_ QW))(b:QD)(c:Int)(d:LI_):O_ Int:=(QE (λst=>Kb a b c d st) 0).bind (Sum.elim (λq=>Fx q) (λq=>Fy))
def Fz (j f g i):CT 71 [.sl 6 (j.map QR),.clo (.func 72) [] [.L 618,.L 619,.L 620]] [(618,.var (Qo f)),(619,.var (Qb g)),(620,.var (QN i))] (KZ j f g i) V.I (λ_=>[(618,.var (Qo f)),(619,.var (Qb g)),(620,.var (QN i))]):=
 W 19 func71 Z λC e r h=>J e [9,.o (.ln j.length),4] Z Qc<|lq_ h (λst=>⟨[(0,.sl 6 (j.map QR)),(1,.clo (.func 72) [] [.L 618,.L 619,.L 620]),(7,.I (j.length:Int)),(8,.I st)],[(618,.var (Qo f)),(619,.var (Qb g)),(620,.var (QN i))]⟩) (λq=>(.ret,⟨[(4,.I q)],[(618,.var (Qo f)),(619,.var (Qb g)),(620,.var (QN i))]⟩)) (λq=>(.exit 0,⟨[],[(618,.var (Qo f)),(619,.var (Qb g)),(620,.var (QN i))]⟩)) Z (λs o h=>H e [6] Z<|I h (λa h=>B h λk l h=>B h λp m h=>g4_ e [.T,15,.o (.row (QR k)),.A (QR k),.cm (.clo) [(618,618),(619,619),(620,620)] [(618,618),(619,619),(620,620)] [] [.d,.d,.d,.d] [(618,.var (Qo f)),(619,.var (Qb g)),(620,.var (QN i))] (.b p),2] Z a (Xd l) Z (Qc0 _ _ _ _ _ m)<|I h (λc h=>J e [.T,9] Z c<|rR_ h Z) λc h=>J e [.F,7] Z c<|rN_ h Z) λa h=>J e [.F,2] Z a<|rX_ h Z) (λt h=>H e [2] Z<|E h Z r3_) (λ_ h=>H e [8] Z<|E h Z r3_)
def TQ (d:QD)(c:Int)(a:LI_):O_ Bool:=(Cx d c).bind λe=>bif (!e)then some true else (idx a c).bind λb=>some (decide (b<=0))
def TR (c:QD)(d:Int)(a:LI_)(e:Bool):O_ Int:=bif e then some (-1)else (KZ c.Edges c d a).bind λb=>some b
def FA (b:QD)(a:LI_)(c:Int):O_ Int:=(TQ b c a).bind (λd=>TR b c a d)
def TS (i a l):CT 40 [.agg (Qo i),.sl 1 (a.map Qb),.I l] [] (FA i a l) V.I no_:=
 W 22 func40 Z λC f r h=>H f [10] Z<|mV_ h (λm=>⟨[lk_ 3,lk_ 4,lk_ 5,(17,.b m)],[(3,.var (Qo i)),(4,.var (QN a)),(5,.var (Qb l))]⟩) (λm h=>B h λt p h=>K f [1,.A (Qo i),1,.o (.C2 (.b t)),2] Z Z (Oo _ _ _ p)<|I h (λg h=>L f [.S 11 (.b true),7] Z g<|mq_ h Z) λg h=>B h λq j h=>G f [.S 11 (.b false),2,.o (.row (Qb q)),4] Z ⟨(tc_ g),(Xd j)⟩<|mq_ h Z) λm h=>H f [1] Z<|I h (λe h=>J f [.T,7] Z e<|E h Z U) λe h=>B h λs k h=>K f [.F,7,.cm (.fn) [(618,3),(619,5),(620,4)] [(3,618),(5,619),(4,620)] [] [.d,.d] [(618,.var (Qo i)),(619,.var (Qb l)),(620,.var (QN a))] (.I s),4] Z e (Fz _ _ _ _ _ k)<|E h Z U
def Ak (e:QD)(f:LI_)(b:Int)(a:LI_):O_ ((Int×LI_)⊕LI_):=bif (0<=b)then (chk (a.length+([b]:L_ Int).length<=4294967296)).bind λ_=>(idx e.Edges b).bind λc=>(FA e f c.To).bind λd=>some (.inl (d,(a++[b])))else some (.inr a)
def Qiq (a:LI_):O_ LI_:=some a
def SD (c:Qf)(a:QD)(d:Int):O_ LI_:=(Mg c a).bind λb=>(FA a b d).bind λe=>(QE (λst=>Ak a b st.1 st.2) (e,([]:L_ Int))).bind (λq=>Qiq q)
def Qir (p g D):CT 17 [.agg (Qa p),.agg (Qo g),.I D] [] (SD p g D) (λr=>(.own 600 r.length)) (λr=>[(600,.arr 1 (r.map Qb))]):=
 W 34 func17 Z λC f r h=>B h λi t h=>B h λP u h=>G f [9,.A (Qa p),.A (Qo g),.o (.co false [.d,.d] 1 (i.map Qb) i.length),11,.A (Qo g),2,.o (.c true [.d,.o (i.map Qb),.d] (.I P)),4,.adopt 8 8 1,.O 8 (.arr 1 (([]:L_ Int).map Qb)),.S 8 (.own 8 ([]:L_ Int).length)] Z (a7_ Z Z ⟨(Qal _ _ _ t),Qc,.inl Z⟩ Z ⟨(OY Z),(TS _ _ _ _ u)⟩ Z (congrArg (λn=>V.own 8 n) (by simp)))<|lp_ h (λst=>⟨[lk_ 4,(7,.own 12 i.length),(8,.own 8 st.2.length),(9,.I st.1)],[(4,.var (Qo g)),(8,.arr 1 (st.2.map Qb)),(12,.arr 1 (i.map Qb))]⟩) (λq=>(.exit 0,⟨[(8,.own 8 q.length)],[(8,.arr 1 (q.map Qb))]⟩)) Z (λ⟨w,e⟩ o h=>H f [7] Z<|I h (λb h=>X h λj h=>B h λx k h=>G f [.T,4] Z (A b) <| 
  dr_ f [.N,.N,.a (.bd []) (some ([],.sl 1 (([w]:L_ Int).map Qb))) false,.m (.app ((e++[w]).map Qb) (e++[w]).length),.a .no none true,.a .no none true,.a .no none true,.a (.row (QR x)) none true,.a .no none true,.a .no none true,.m .s,.N] [4,7,9] [4,12] [2,4,7,8] [4,8,12] Z Z (a3_ Z ⟨Qc,Ja j Qc,Ya,Jr Qc⟩ (Xd k)) Z <|
  B h λy l h=>K f [3,.A (Qo g),2,.o (.c true [.d,.o (i.map Qb),.d] (.I y)),2] Z Z ⟨(OY Z),(TS _ _ _ _ l)⟩<|rN_ h Z) λb h=>J f [.F,2] Z b<|rX_ h Z) λz h=>H f [9,.K [6] [8],.ren 8 600] Z<|E h Z r1_
def Ce (e:Bool)(a:Xp)(d:Qf):O_ Bool:=bif e then bif (a.Told==3)then bif (a.Clause==0)then some true else bif (a.Told==2)then (Jg d a).bind λb=>some b else some false else bif (a.Told==2)then (Jg d a).bind λc=>some c else some false else some false
def Qas (a:Bool):O_ Bool:=some a
def Cf (b:Int)(e:Qf)(a:QMk):O_ Bool:=bif (b<0)then some true else (WG e a).bind λc=>bif c then (DE e a).bind λd=>some (!d)else some false
def Ei (b:LI_)(d:QD)(g:Qf)(h:QMk)(a:Int):O_ ((QMk×Int)⊕(Unit⊕QMk)):=bif (a<(b.length:Int))then (idx b a).bind λe=>(idx d.Edges e).bind λf=>(XU g h f.Mode).bind λc=>bif (c.2 != 0)then some (.inr (.inl ()))else some (.inl (c.1,(Qi (a+1))))else some (.inr (.inr h))
def Qat : O_ ((QMk×Int)⊕(Unit⊕Unit)):=some (.inr (.inl ()))
def Cg (d:Qf)(h:QMk)(a:QD)(b:LI_):O_ Bool:=(DE d h).bind λc=>bif (!c)then some true else some (decide ((a.States.length:Int)<=(b.length:Int)))
def Nv (d:QD)(f:Int)(c:Int)(a:LI_)(l:Qf)(g:QMk)(h:Bool):O_ ((QMk×Int)⊕(Unit⊕Unit)):=
 bif h then
 some (.inr (.inl ()))
 else
 (Md d f).bind λb=>
 bif ((c==(a.length:Int))||((b.length:Int)==0))then
 some (.inr (.inr ()))
 else
 (idx a c).bind λi=>
 (chk ((b.length:Int) != 0)).bind λ_=>
 (idx b (Int.tmod (Wi .i64 i 1023) (b.length:Int))).bind λj=>
 (idx d.Edges j).bind λk=>
 (XU l g k.Mode).bind λe=>
 bif (e.2 != 0)then
 some (.inr (.inl ()))
 else
 some (.inl (e.1,(Qi (c+1))))
def Ch (h:Qf)(b:QD)(c:LI_)(d:Int)(e:Int)(a:LI_)(f:QMk)(D:QMk):O_ ((QMk×Int)⊕(Unit⊕Unit)):=(Cg h D b c).bind (λg=>Nv b d e a h f g)
def Nw (f:Qf)(b:QD)(c:Int)(d:QMk)(g:Int)(a:LI_)(h:Bool):O_ ((QMk×Int)⊕(Unit⊕Unit)):=bif h then some (.inr (.inl ()))else (SD f b c).bind λe=>(QE (λst=>Ei e b f st.1 st.2) (d,0)).bind (Sum.elim (λq=>Qat) (λq=>Ch f b e c g a d q))
def GD (a:LI_)(c:QD)(g:Qf)(b:QMk)(d:Int):O_ ((QMk×Int)⊕(Unit⊕Unit)):=bif (d<=(a.length:Int))then (OL c b).bind λe=>(Cf e g b).bind (λf=>Nw g c e b d a f)else some (.inr (.inr ()))
def ZO : O_ Bool:=some false
def Ml (c:Bool)(a:QD)(d:Qf):O_ Bool:=bif c then (Ai a).bind λb=>some ((b.length:Int)==(d.Tasks.length:Int))else some false
def Mm (a:Bool):O_ Bool:=some a
def Bg (c:Bool)(a:QD)(d:Qf):O_ Bool:=(Ml c a d).bind (λb=>Mm b)
def GQ (d:Qf)(a:Int)(b:Int)(c:LI_):O_ Bool:=
 (RJ).bind λg=>
 (OJ d a).bind λj=>
 bif ((!j)||(8<(c.length:Int)))then
 some g
 else
 (DQ d a b).bind λe=>
 bif (e.Told != 1)then
 (Ce g e d).bind (λh=>Qas h)
 else
 (AB d a b).bind λf=>
 (Dy d).bind λi=>
 (QE (λst=>GD c f d st.1 st.2) (i,0)).bind (Sum.elim (λq=>ZO) (λq=>Bg g f d))
def Qau (i j k e):CT 5 [.agg (Qa i),.I j,.I k,.sl 1 (e.map Qb)] [] (GQ i j k e) V.b no_:=
 W 182 func5 Z λC f r h=>B h λx7 e7 h=>B h λx8 e8 h=>g3_ f [8,.o (.c false [] (.b x7)),5,.A (Qa i),1,.o (.C2 (.b x8)),5] Z (Qe4 _  e7) Z (Qgo _ _ _ e8)<|Y ⟨[(1,.I j),(2,.I k),(3,.sl 1 (e.map Qb)),lk_ 4,(9,.b x7),(35,.b ((!x8)||(8<(e.length:Int))))],[(4,.var (Qa i))]⟩ (H f [4] Z<|bO_ (!x8) (λp=>G f [.S 31 (.b true),5,.S 35 (.b ((!x8)||(8<(e.length:Int))))] Z ⟨(tc_ p),(cb_ (UN p Z))⟩<|M Z) λp=>G f [.S 31 (.b false),1,.o (.ln e.length),3,.S 35 (.b ((!x8)||(8<(e.length:Int))))] Z ⟨⟨(tc_ p),Qc⟩,(cb_ (We p Z))⟩<|M Z)<|H f [1] Z<|I h (λx h=>J f [.T,8] Z x<|E h Z U) λx h=>B h λb5 c4 h=>g4_ f [.F,4,.A (Qa i),2,.o (.C3 (.agg (QG b5))),2,.O 11 (.var (QG b5)),10] Z x Z (Us _ _ _ _ c4) Z<|I h (λy h=>J f [.T,1] Z y<|mV_ h (λb9=>⟨[(8,.b b9)],[]⟩) (λb9 h=>H f [3] Z<|I h (λz h=>L f [.S 45 (.b true),4] Z z<|I h (λD h=>L f [.S 49 (.b true),5] Z D<|I h (λP h=>L f [.S 54 (.b true),12] Z P<|mq_ h Z) λP h=>L f [.S 54 (.b false),4] Z P<|I h (λa0 h=>B h λe9 c5 h=>G f [.S 58 (.b true),.A (Qa i),.A (QG b5),.o (.C2 (.b e9)),5] Z ⟨⟨⟨(tc_ a0),Z⟩,Z⟩,(Yj _ _ _ c5)⟩<|mq_ h Z) λa0 h=>L f [.S 58 (.b false),8] Z a0<|mq_ h Z) λD h=>L f [.S 49 (.b false),9] Z D<|I h (λa1 h=>B h λf0 c6 h=>G f [.S 58 (.b true),.A (Qa i),.A (QG b5),.o (.C2 (.b f0)),5] Z ⟨⟨⟨(tc_ a1),Z⟩,Z⟩,(Yj _ _ _ c6)⟩<|mq_ h Z) λa1 h=>L f [.S 58 (.b false),8] Z a1<|mq_ h Z) λz h=>L f [.S 45 (.b false),21] Z z<|mq_ h Z) λb9 h=>H f [3] Z<|E h Z U) λy h=>B h λg c7 h=>B h λc0 c8 h=>G f [.F,4,.A (Qa i),2,.o (.C3 (.agg (Qo g))),2,.O 12 (.var (Qo g)),4,.A (Qa i),.o (.co false [.d] 1 (c0.map Qe) c0.length),10,.frz 70 (c0.map Qe) [13] []] Z (a7_ y Z (Rj _ _ _ _ c7) Z Z ⟨(Hf _ _ c8),Qc,.inl Z⟩ (A (Jl Qc)))<|lq_ h (λst=>⟨[(3,.sl 1 (e.map Qb)),lk_ 4,(9,.b x7),lk_ 12,(13,.sl 1 (st.1.map Qe)),(14,.I st.2)],[(4,.var (Qa i)),(12,.var (Qo g))]⟩) (λq=>(.ret,⟨[(8,.b false)],[]⟩)) (λq=>(.exit 0,⟨[lk_ 4,(9,.b x7),lk_ 12],[(4,.var (Qa i)),(12,.var (Qo g))]⟩)) Z (λ⟨a2,l⟩ o h=>J f [5,.o (.ln e.length),3] Z Qc<|I h (λa3 h=>B h λa4 c9 h=>g3_ f [.T,6,.A (Qo g),1,.o (.C2 (.I a4)),5] Z a3 Z (Qgp _ _ _ c9)<|mV_ h (λc1=>⟨[(3,.sl 1 (e.map Qb)),lk_ 4,(9,.b x7),lk_ 12,(13,.sl 1 (a2.map Qe)),(14,.I l),(15,.I a4),(92,.b c1)],[(4,.var (Qa i)),(12,.var (Qo g))]⟩) (λc1 h=>H f [4] Z<|I h (λa5 h=>L f [.S 82 (.b true),11] Z a5<|mq_ h Z) λa5 h=>B h λf1 d0 h=>G f [.S 82 (.b false),.A (Qa i),1,.o (.C2 (.b f1)),1] Z ⟨⟨(tc_ a5),Z⟩,(Hn _ _ _ d0)⟩<|I h (λa6 h=>B h λf2 d1 h=>G f [.S 86 (.b true),.A (Qa i),1,.o (.C2 (.b f2)),4] Z ⟨⟨(tc_ a6),Z⟩,(AD _ _ _ d1)⟩<|mq_ h Z) λa6 h=>L f [.S 86 (.b false),7] Z a6<|mq_ h Z) λc1 h=>H f [1] Z<|I h (λa7 h=>J f [.T,9] Z a7<|rR_ h Z) λa7 h=>B h λw d2 h=>g4_ f [.F,4,.A (Qa i),.A (Qo g),1,.o (.co false [.d,.d,.d] 1 (w.map Qb) w.length),16] Z a7 Z Z ⟨(Qir _ _ _ _ d2),Qc,.inl Z⟩<|lq_ h (λst=>⟨[(3,.sl 1 (e.map Qb)),lk_ 4,(9,.b x7),lk_ 12,(13,.sl 1 (a2.map Qe)),(14,.I l),(15,.I a4),(16,.own 96 w.length),(17,.sl 1 (st.1.map Qe)),(18,.I st.2)],[(4,.var (Qa i)),(12,.var (Qo g)),(96,.arr 1 (w.map Qb))]⟩) (λq=>(.ret,⟨[(8,.b false)],[]⟩)) (λq=>(.exit 2,⟨[(3,.sl 1 (e.map Qb)),lk_ 4,(9,.b x7),lk_ 12,(13,.sl 1 (a2.map Qe)),(14,.I l),(15,.I a4),(16,.own 96 w.length),(17,.sl 1 (q.map Qe))],[(4,.var (Qa i)),(12,.var (Qo g)),(96,.arr 1 (w.map Qb))]⟩)) Z (λ⟨end_40,f6⟩ o h=>H f [9] Z<|I h (λa8 h=>B h λf3 b7 h=>B h λd3 d4 h=>B h λd5 d6 h=>G f [.T,5] Z (A a8) <| 
  dr_ f [.E (.agg (Qa i)),.N,.N,.N,.N,.N,.N,.B (.row (Qb f3)),.B (.row (QR d3)),.N,.E (.agg (Qj d3.Mode)),.B (.C3 (.tup [.sl 1 (d5.1.map Qe),.I d5.2])),.N,.N,.N,.N,.N] [] [] [3,4,9,12,13,14,15,16,18,19,20] [4,12,96] Z Z (a6_ Z (YJ b7 Z) (XT (Jf b7).2) (Xd d4) Z (Ig _ _ _ _ d6)) Z <|
  H f [8] Z<|I h (λa9 h=>J f [.T,9] Z a9<|rR_ h Z) λa9 h=>J f [.F,13] Z a9<|rN_ h Z) λa8 h=>J f [.F,2] Z a8<|rX_ h Z) (λ_ h=>H f [4] Z<|rR_ h Z) (λend_44 h=>H f [4] Z<|mV_ h (λc2=>⟨[(3,.sl 1 (e.map Qb)),lk_ 4,(9,.b x7),lk_ 12,(13,.sl 1 (a2.map Qe)),(14,.I l),(15,.I a4),(133,.b c2)],[(4,.var (Qa i)),(12,.var (Qo g))]⟩) (λc2 h=>B h λf4 d7 h=>K f [1,.A (Qa i),1,.o (.C2 (.b f4)),2] Z Z (AD _ _ _ d7)<|I h (λb0 h=>L f [.S 126 (.b true),8] Z b0<|mq_ h Z) λb0 h=>G f [.S 126 (.b false),4,.o (.ln g.States.length),3] Z ⟨(tc_ b0),Qc⟩<|mq_ h Z) λc2 h=>H f [1] Z<|I h (λb1 h=>J f [.T,9] Z b1<|rR_ h Z) λb1 h=>B h λu d8 h=>g3_ f [.F,4,.A (Qo g),1,.o (.co false [.d,.d] 1 (u.map Qb) u.length),5] Z b1 Z ⟨(Qag _ _ _ d8),Qc,.inl Z⟩<|Y ⟨[(3,.sl 1 (e.map Qb)),lk_ 4,(9,.b x7),lk_ 12,(13,.sl 1 (a2.map Qe)),(14,.I l),(21,.own 136 u.length),(145,.b ((l==(e.length:Int))||((u.length:Int)==0)))],[(4,.var (Qa i)),(12,.var (Qo g)),(136,.arr 1 (u.map Qb))]⟩ (J f [3,.o (.ln e.length),2] Z Qc<|bO_ (l==(e.length:Int)) (λt=>G f [.S 141 (.b true),5,.S 145 (.b ((l==(e.length:Int))||((u.length:Int)==0)))] Z ⟨(tc_ t),(cb_ (UN t Z))⟩<|M Z) λt=>G f [.S 141 (.b false),5,.S 145 (.b ((l==(e.length:Int))||((u.length:Int)==0)))] Z ⟨(tc_ t),(cb_ (We t Z))⟩<|M Z)<|H f [1] Z<|I h (λb2 h=>J f [.T,4] Z b2<|rX_ h Z) λb2 h=>B h λd9 e0 h=>X h λe1 h=>B h λf5 b8 h=>B h λb6 e2 h=>G f [.F,3] Z (A b2) <| 
  dr_ f [.N,.N,.N,.N,.N,.B (.row (Qb d9)),.N,.B (.any (.I (Wi .i64 d9 1023)) none),.N,.N,.N,.N,.B (.row (Qb f5)),.B (.row (QR b6)),.E (.agg (QR b6)),.N,.m .s] [] [] [3,4,9,12,13,14,22] [4,12,22] Z Z (a7_ (Xd e0) (λσ h1 h2 _=>Stp.andB Z Z (QU f.n Z) (h1 _ _ Z) (h1 _ _ Z)) (neZ e1) (YJ b8 Z) (XT (Jf b8).2) (Xd e2) Z) Z <|
  B h λe3 e4 h=>g4_ f [.O 22 (.var (QR b6)),3,.A (Qa i),2,.A (Qj b6.Mode),.o (.C3 (.tup [.sl 1 (e3.1.map Qe),.I e3.2])),14] Z Z Z Z (Ig _ _ _ _ e4)<|I h (λb3 h=>J f [.T,9] Z b3<|rR_ h Z) λb3 h=>J f [.F,13] Z b3<|rN_ h Z)) λa3 h=>J f [.F,2] Z a3<|rX_ h Z) (λ_ h=>H f [2] Z<|E h Z U) (λ_ h=>H f [3] Z<|mV_ h (λc3=>⟨[(8,.b c3)],[]⟩) (λc3 h=>H f [.K [4,9,12] [4,12]] Z<|I h (λb4 h=>B h λe5 e6 h=> 
  dr_ f [.N,.E (.b true),.E (.agg (Qo g)),.B (.co false [.d] 1 (e5.map Qb) e5.length),.N,.N,.N,.B (.ln i.Tasks.length),.N,.N,.N] [] [] [8] [] Z Z ⟨⟨⟨(tc_ b4),Z⟩,⟨(TC _ _ e6),Qc,.inl Z⟩⟩,Qc⟩ Z <|
  mq_ h Z) λb4 h=> 
  dr_ f [.N,.E (.b false),.N,.N,.N,.N,.N,.N,.N,.N,.N] [] [] [8] [] Z Z (tc_ b4) Z <|
  mq_ h Z) λc3 h=>H f [2] Z<|E h Z U)

end Go.Proofs
