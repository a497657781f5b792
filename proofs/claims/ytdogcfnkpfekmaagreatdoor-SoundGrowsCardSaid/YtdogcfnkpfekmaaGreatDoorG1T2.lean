/- What functions of the program do, as functions over plain data, and the walks that show it: printed by a program. -/
import Derived.Test.YtdogcfnkpfekmaaGreatDoorG1T1
set_option linter.all false
set_option maxRecDepth 100000
set_option maxHeartbeats 4000000
noncomputable section
namespace Go.Proofs
open Go Go.RowKit Go.Vm Go.Proofs.Tryz
def EE (a:Bool)(b:((L_ Qj)×Bool)):O_ Bool:=bif a then some b.2 else some false
def Kr (a:Int)(b:(L_ QI))(c:(L_ QM))(d:(L_ QG))(e:Int)(f:Int)(g:Int)(h:Bool)(i:(L_ (ByteArray×Int)))(j:(L_ QZ))(k:(L_ QMk)):O_ ((Int×(L_ QI)×(L_ QM)×(L_ QG)×Int×Int×Int×Bool×(L_ (ByteArray×Int))×(L_ QZ)×(L_ QMk))⊕((L_ QI)×(L_ QM)×(L_ QG)×Int×Int×Int×Bool×(L_ (ByteArray×Int))×(L_ QZ)×(L_ QMk))):=some (.inl ((Qi (a+1)),b,c,d,e,f,g,h,i,j,k))
def Ks (c:Int)(a:(L_ QZ))(D:Int)(d:Qj)(b:Int)(e:(L_ QI))(f:(L_ QM))(g:(L_ QG))(h:Int)(i:Int)(j:Int)(m:Bool)(k:(L_ (ByteArray×Int)))(l:(L_ QMk)):O_ ((Int×(L_ QI)×(L_ QM)×(L_ QG)×Int×Int×Int×Bool×(L_ (ByteArray×Int))×(L_ QZ)×(L_ QMk))⊕((L_ QI)×(L_ QM)×(L_ QG)×Int×Int×Int×Bool×(L_ (ByteArray×Int))×(L_ QZ)×(L_ QMk))):=bif (b<0)then Kr c e f g h i j false k a l else (chk (a.length+([(QZ.mk D b d)]:L_ QZ).length<=4294967296)).bind λ_=>Kr c e f g h i j m k (a++[(QZ.mk D b d)]) l
def Kt (n:((L_ Qj)×Bool))(p:QMk)(D:Int)(b:Int)(c:(L_ QI))(d:(L_ QM))(e:(L_ QG))(f:Int)(g:Int)(i:Int)(j:Bool)(k:(L_ (ByteArray×Int)))(h:(L_ QZ))(l:(L_ QMk)):O_ ((Int×(L_ QI)×(L_ QM)×(L_ QG)×Int×Int×Int×Bool×(L_ (ByteArray×Int))×(L_ QZ)×(L_ QMk))⊕((L_ QI)×(L_ QM)×(L_ QG)×Int×Int×Int×Bool×(L_ (ByteArray×Int))×(L_ QZ)×(L_ QMk))):=bif (b<(n.1.length:Int))then (idx n.1 b).bind λm=>(Yc (Qe.mk c d e f g) p m).bind λo=>bif (o.2==0)then (Wy c d e f g i k l h j o.1).bind λa=>Ks b h D m a.1 a.2.2.1 a.2.2.2.1 a.2.2.2.2.1 a.2.2.2.2.2.1 a.2.2.2.2.2.2.1 a.2.2.2.2.2.2.2.1 a.2.2.2.2.2.2.2.2.1 a.2.2.2.2.2.2.2.2.2 a.2.1 else Ks b h D m (-1) c d e f g i j k l else some (.inr (c,d,e,f,g,i,j,k,h,l))
def FC (a:(L_ QI))(b:(L_ QM))(c:(L_ QG))(d:Int)(e:Int)(f:Int)(g:Bool)(h:(L_ (ByteArray×Int)))(i:(L_ QZ))(j:(L_ QMk)):O_ ((L_ QMk)×(L_ QZ)×(L_ QI)×(L_ QM)×(L_ QG)×Int×Int×Int×Bool×(L_ (ByteArray×Int))):=some (j,i,a,b,c,d,e,f,g,h)
def Dd (a:((L_ Qj)×Bool))(b:QMk)(D:Int)(d:(L_ QI))(e:(L_ QM))(f:(L_ QG))(g:Int)(h:Int)(i:Int)(j:(L_ (ByteArray×Int)))(k:(L_ QZ))(l:(L_ QMk))(c:Bool):O_ ((L_ QMk)×(L_ QZ)×(L_ QI)×(L_ QM)×(L_ QG)×Int×Int×Int×Bool×(L_ (ByteArray×Int))):=(QD (λst=>Kt a b D st.1 st.2.1 st.2.2.1 st.2.2.2.1 st.2.2.2.2.1 st.2.2.2.2.2.1 st.2.2.2.2.2.2.1 st.2.2.2.2.2.2.2.1 st.2.2.2.2.2.2.2.2.1 st.2.2.2.2.2.2.2.2.2.1 st.2.2.2.2.2.2.2.2.2.2) (0,d,e,f,g,h,i,c,j,k,l)).bind (λq=>FC q.1 q.2.1 q.2.2.1 q.2.2.2.1 q.2.2.2.2.1 q.2.2.2.2.2.1 q.2.2.2.2.2.2.1 q.2.2.2.2.2.2.2.1 q.2.2.2.2.2.2.2.2.1 q.2.2.2.2.2.2.2.2.2)
def Gm (e:(L_ QI))(f:(L_ QM))(g:(L_ QG))(h:Int)(i:Int)(j:Int)(l:(L_ (ByteArray×Int)))(k:(L_ QMk))(m:(L_ QZ))(c:Bool)(D:Int):O_ ((L_ QMk)×(L_ QZ)×(L_ QI)×(L_ QM)×(L_ QG)×Int×Int×Int×Bool×(L_ (ByteArray×Int))):=(idx k D).bind λa=>(DK (Qe.mk e f g h i) a j 9223372036854775807).bind λb=>(EE c b).bind (λd=>Dd b a D e f g h i j l m k d)
def Rx (v1 v2 v3 v4 v5 v6 m7 l8 l9 b8 at_11):CT 62 [.L 618,.I at_11] [(618,.var [.sl 7 (v1.map Qr),.sl 3 (v2.map Qp),.sl 14 (v3.map Qg),.I v4,.I v5,.I v6,.map 619,.own 616 l8.length,.own 617 l9.length,.b b8]),(619,.map (QB V.s V.I m7)),(616,.arr 1 (l8.map Qx)),(617,.arr 6 (l9.map Xb))] (Gm v1 v2 v3 v4 v5 v6 m7 l8 l9 b8 at_11) (λ_=>(.tup [])) (λr=>[(616,.arr 1 (r.1.map Qx)),(617,.arr 6 (r.2.1.map Xb)),(618,.var [.sl 7 (r.2.2.1.map Qr),.sl 3 (r.2.2.2.1.map Qp),.sl 14 (r.2.2.2.2.1.map Qg),.I r.2.2.2.2.2.1,.I r.2.2.2.2.2.2.1,.I r.2.2.2.2.2.2.2.1,.map 619,.own 616 r.1.length,.own 617 r.2.1.length,.b r.2.2.2.2.2.2.2.2.1]),(619,.map (QB V.s V.I r.2.2.2.2.2.2.2.2.2))]):=by
 refine W 88 func62 rfl λC i r h=>?_
 obtain⟨l,a7,h⟩:=Qv h
 obtain⟨f,b9,h⟩:=Qv h
 refine Qo i [9,.o (.row (Qx l)),4,.K [0,1,4] [616,617,618,619]] Z (a2_ (YN a7 Z) (XU (Jr a7).2)) ?_
 refine AK.draw2 Qt i mixed [.N,.N,.N,.E (.agg (Qa (Qe.mk v1 v2 v3 v4 v5))),.N,.N,.N,.N,.N,.B (.C4 (.tup [.sl 4 (f.1.map Qk),.b f.2])),.N,.N,.N,.N,.N] [] [] [0,1,4,5,6] [616,617,618,619] rfl rfl rfl ⟨⟨U,rfl⟩,(Qd8 _ _ _ _ _ b9)⟩ rfl (by kernel_rfl) rfl rfl rfl ?_
 refine tg_ i [2] ?_
 obtain⟨a8,c0,h⟩:=Qv h
 replace h:Dd f l at_11 v1 v2 v3 v4 v5 v6 m7 l9 l8 a8=some r:=h
 refine AK.meetX (λσ=>σ=⟨[(0,.L 618),(1,.I at_11),(4,.sl 1 (l.map Qh)),(5,.sl 4 (f.1.map Qk))],[(616,.arr 1 (l8.map Qx)),(617,.arr 6 (l9.map Xb)),(618,.var [.sl 7 (v1.map Qr),.sl 3 (v2.map Qp),.sl 14 (v3.map Qg),.I v4,.I v5,.I v6,.map 619,.own 616 l8.length,.own 617 l9.length,.b a8]),(619,.map (QB V.s V.I m7))]⟩) ?_ ?_
 ·replace h:=c0
  refine tg_ i [8] ?_
  refine bg_ h (λu h=>Qo i [.S 39 (.b true),6,.O 618 (.var [.sl 7 (v1.map Qr),.sl 3 (v2.map Qp),.sl 14 (v3.map Qg),.I v4,.I v5,.I v6,.map 619,.own 616 l8.length,.own 617 l9.length,.b f.2]),1,.K [0,1,4,5] [616,617,618,619]] rfl ⟨(tc_ u),rfl⟩ ?_) λu h=>Qo i [.S 39 (.b false),6,.O 618 (.var [.sl 7 (v1.map Qr),.sl 3 (v2.map Qp),.sl 14 (v3.map Qg),.I v4,.I v5,.I v6,.map 619,.own 616 l8.length,.own 617 l9.length,.b false]),1,.K [0,1,4,5] [616,617,618,619]] rfl ⟨(tc_ u),rfl⟩ ?_
  ·cases h
   exact mt_
  cases h
  exact mt_
 rintro σ rfl
 replace h:Dd f l at_11 v1 v2 v3 v4 v5 v6 m7 l9 l8 a8=some r:=h
 refine Qo i [4,.o (.ln f.1.length),4,.K [0,1,4,45,46,47] [616,617,618,619]] Z (A Qc) ?_
 obtain⟨c7,c1,h⟩:=Qv h
 refine AK.loop (body:=(λst=>Kt f l at_11 st.1 st.2.1 st.2.2.1 st.2.2.2.1 st.2.2.2.2.1 st.2.2.2.2.2.1 st.2.2.2.2.2.2.1 st.2.2.2.2.2.2.2.1 st.2.2.2.2.2.2.2.2.1 st.2.2.2.2.2.2.2.2.2.1 st.2.2.2.2.2.2.2.2.2.2)) (λst σ=>σ=⟨[(0,.L 618),(1,.I at_11),(4,.sl 1 (l.map Qh)),(45,.sl 4 (f.1.map Qk)),(46,.I (f.1.length:Int)),(47,.I st.1)],[(616,.arr 1 (st.2.2.2.2.2.2.2.2.2.2.map Qx)),(617,.arr 6 (st.2.2.2.2.2.2.2.2.2.1.map Xb)),(618,.var [.sl 7 (st.2.1.map Qr),.sl 3 (st.2.2.1.map Qp),.sl 14 (st.2.2.2.1.map Qg),.I st.2.2.2.2.1,.I st.2.2.2.2.2.1,.I st.2.2.2.2.2.2.1,.map 619,.own 616 st.2.2.2.2.2.2.2.2.2.2.length,.own 617 st.2.2.2.2.2.2.2.2.2.1.length,.b st.2.2.2.2.2.2.2.1]),(619,.map (QB V.s V.I st.2.2.2.2.2.2.2.2.1))]⟩) (λq e σ=>e=.exit 0/\σ=⟨[],[(616,.arr 1 (q.2.2.2.2.2.2.2.2.2.map Qx)),(617,.arr 6 (q.2.2.2.2.2.2.2.2.1.map Xb)),(618,.var [.sl 7 (q.1.map Qr),.sl 3 (q.2.1.map Qp),.sl 14 (q.2.2.1.map Qg),.I q.2.2.2.1,.I q.2.2.2.2.1,.I q.2.2.2.2.2.1,.map 619,.own 616 q.2.2.2.2.2.2.2.2.2.length,.own 617 q.2.2.2.2.2.2.2.2.1.length,.b q.2.2.2.2.2.2.1]),(619,.map (QB V.s V.I q.2.2.2.2.2.2.2.1))]⟩) c1 rfl ?_ ?_
 ·rintro ⟨a3,c8,c9,d0,d1,d2,e3,e4,e5,k,e6⟩ o σ rfl h
  refine tg_ i [6] ?_
  refine bq_ i h [.T,2] rfl (λw h=>?_) [.F,2,.K [] [616,617,618,619]] rfl λw h=>?_
  ·refine AK.meet (λσ=>∃a9:(L_ QI),∃b0:(L_ QM),∃b1:(L_ QG),∃b2:Int,∃b3:Int,∃b4:Int,∃b5:Bool,∃b6:(L_ (ByteArray×Int)),∃a4:(L_ QZ),∃a5:(L_ QMk),σ=⟨[(0,.L 618),(1,.I at_11),(4,.sl 1 (l.map Qh)),(45,.sl 4 (f.1.map Qk)),(46,.I (f.1.length:Int)),(47,.I a3)],[(616,.arr 1 (a5.map Qx)),(617,.arr 6 (a4.map Xb)),(618,.var [.sl 7 (a9.map Qr),.sl 3 (b0.map Qp),.sl 14 (b1.map Qg),.I b2,.I b3,.I b4,.map 619,.own 616 a5.length,.own 617 a4.length,.b b5]),(619,.map (QB V.s V.I b6))]⟩/\Kr a3 a9 b0 b1 b2 b3 b4 b5 b6 a4 a5=some o) ?_ ?_
   ·obtain⟨g,c2,h⟩:=Qv h
    obtain⟨c3,c4,h⟩:=Qv h
    refine Qo i [3,.o (.row (Qk g)),.A (Qk g),2,.O 8 (.var (Qk g)),3,.K [0,1,4,8,45,46,47] [8,616,617,618,619]] Z (a3_ (Xi c2) Z Z) ?_
    refine AK.draw2 Qt i mixed [.N,.N,.N,.E (.agg (Qa (Qe.mk c8 c9 d0 d1 d2))),.N,.E (.agg (Qk g)),.B (.C3 (.tup [.sl 1 (c3.1.map Qh),.I c3.2])),.N,.N,.N,.N,.N] [] [] [0,1,4,8,9,10,45,46,47] [8,616,617,618,619] rfl rfl rfl ⟨⟨⟨U,rfl⟩,rfl⟩,(Sq _ _ _ _ c4)⟩ rfl (by kernel_rfl) rfl rfl rfl ?_
    refine tg_ i [6] ?_
    refine AK.meet (λσ=>∃p:Int,∃x:(L_ QI),∃y:(L_ QM),∃z:(L_ QG),∃D:Int,∃P:Int,∃a0:Int,∃a6:Bool,∃b7:(L_ (ByteArray×Int)),∃t:(L_ QMk),σ=⟨[(0,.L 618),(1,.I at_11),(4,.sl 1 (l.map Qh)),lk_ 8,(11,.I p),(45,.sl 4 (f.1.map Qk)),(46,.I (f.1.length:Int)),(47,.I a3)],[(8,.var (Qk g)),(616,.arr 1 (t.map Qx)),(617,.arr 6 (k.map Xb)),(618,.var [.sl 7 (x.map Qr),.sl 3 (y.map Qp),.sl 14 (z.map Qg),.I D,.I P,.I a0,.map 619,.own 616 t.length,.own 617 k.length,.b a6]),(619,.map (QB V.s V.I b7))]⟩/\Ks a3 k at_11 g p x y z D P a0 a6 b7 t=some o) ?_ ?_
    ·refine tg_ i [6] ?_
     rcases XN h with⟨a1,h⟩|⟨a1,h⟩
     ·obtain⟨j,c5,h⟩:=Qv h
      refine Qo i [.T,3,.cm (.fn) [(618,618),(619,619),(616,616),(617,617)] [(616,616),(617,617),(618,618),(619,619)] [616,617] [.d,.d] [(616,.arr 1 (j.2.1.map Qx)),(617,.arr 6 (k.map Xb)),(618,.var [.sl 7 (j.2.2.1.map Qr),.sl 3 (j.2.2.2.1.map Qp),.sl 14 (j.2.2.2.2.1.map Qg),.I j.2.2.2.2.2.1,.I j.2.2.2.2.2.2.1,.I j.2.2.2.2.2.2.2.1,.map 619,.own 616 j.2.1.length,.own 617 k.length,.b j.2.2.2.2.2.2.2.2.1]),(619,.map (QB V.s V.I j.2.2.2.2.2.2.2.2.2))] (.I j.1),2,.K [0,1,4,8,11,45,46,47] [8,616,617,618,619]] Z (a2_ a1 (Fx _ _ _ _ _ _ _ _ _ _ _ _ c5)) ?_
      exact AK.met (ex_ _ (ex_ _ (ex_ _ (ex_ _ (ex_ _ (ex_ _ (ex_ _ (ex_ _ (ex_ _ (ex_ _ (an_ Z h)))))))))))
     refine Qo i [.F,1,.K [0,1,4,8,11,45,46,47] [8,616,617,618,619]] Z (A a1) ?_
     exact AK.met (ex_ _ (ex_ _ (ex_ _ (ex_ _ (ex_ _ (ex_ _ (ex_ _ (ex_ _ (ex_ _ (ex_ _ (an_ Z h)))))))))))
    rintro σ ⟨p,x,y,z,D,P,a0,a6,b7,t,rfl,h⟩
    refine tg_ i [7] ?_
    rcases XN h with⟨a2,h⟩|⟨a2,h⟩
    ·refine Qo i [.T,7,.O 618 (.var [.sl 7 (x.map Qr),.sl 3 (y.map Qp),.sl 14 (z.map Qg),.I D,.I P,.I a0,.map 619,.own 616 t.length,.own 617 k.length,.b false]),5,.K [0,1,4,45,46,47] [616,617,618,619]] Z (a2_ a2 Z) ?_
     exact AK.met (ex_ _ (ex_ _ (ex_ _ (ex_ _ (ex_ _ (ex_ _ (ex_ _ (ex_ _ (ex_ _ (ex_ _ (an_ Z h)))))))))))
    obtain⟨c6,h⟩:=RX h
    refine Qo i [.F,2,.K [0,1,4,8,11,45,46,47] [8,616,617,618,619]] Z (A a2) ?_
    refine AK.draw2 Qt i mixed [.a .no none true,.N,.N,.N,.N,.N,.N,.N,.E (.agg (Qk g)),.E (.agg (Xb (QZ.mk at_11 p g))),.a (.bd []) (some ([],.sl 6 (([(QZ.mk at_11 p g)]:L_ QZ).map Xb))) false,.m (.app ((k++[(QZ.mk at_11 p g)]).map Xb) (k++[(QZ.mk at_11 p g)]).length),.N,.N,.N,.m .s] [0,1,4,8,11,45,46,47] [8,616,619] [0,1,4,45,46,47] [616,617,618,619] rfl rfl rfl ⟨⟨⟨⟨U,rfl⟩,rfl⟩,rfl⟩,⟨Qc,Jf c6 Qc,XY,Jw Qc⟩⟩ rfl (by kernel_rfl) rfl rfl rfl ?_
    refine Qo i [.O 618 (.var [.sl 7 (x.map Qr),.sl 3 (y.map Qp),.sl 14 (z.map Qg),.I D,.I P,.I a0,.map 619,.own 616 t.length,.own 617 (k++[(QZ.mk at_11 p g)]).length,.b a6]),1,.K [0,1,4,45,46,47] [616,617,618,619]] Z (A Z) ?_
    exact AK.met (ex_ _ (ex_ _ (ex_ _ (ex_ _ (ex_ _ (ex_ _ (ex_ _ (ex_ _ (ex_ _ (ex_ _ (an_ Z h)))))))))))
   rintro σ ⟨a9,b0,b1,b2,b3,b4,b5,b6,a4,a5,rfl,h⟩
   refine tg_ i [4,.K [0,1,4,45,46,47] [616,617,618,619]] ?_
   cases h
   exact Vp Z Z
  cases h
  exact ZX Z (an_ Z Z)
 obtain⟨d3,d4,d5,d6,d7,d8,d9,e0,e1,e2⟩:=c7
 replace h:FC d3 d4 d5 d6 d7 d8 d9 e0 e1 e2=some r:=h
 rintro e σ ⟨rfl,rfl⟩
 refine tg_ i [1,.K [] [616,617,618,619]] ?_
 cases h
 refine AK.done ?_
 exact ex_ [] (an_ U (gives r4_))
def Ac (D:Int)(a:(L_ QI))(b:(L_ QM))(c:(L_ QG))(d:Int)(e:Int)(f:Int)(g:Bool)(h:(L_ (ByteArray×Int)))(i:(L_ QMk))(j:(L_ QZ)):O_ ((Int×(L_ QI)×(L_ QM)×(L_ QG)×Int×Int×Int×Bool×(L_ (ByteArray×Int))×(L_ QMk)×(L_ QZ))⊕((L_ QI)×(L_ QM)×(L_ QG)×Int×Int×Int×Bool×(L_ (ByteArray×Int))×(L_ QMk)×(L_ QZ))):=some (.inl ((Qi (D+1)),a,b,c,d,e,f,g,h,i,j))
def Ad (b:Int)(D:Int)(d:(L_ QI))(e:(L_ QM))(f:(L_ QG))(g:Int)(h:Int)(i:Int)(l:Bool)(j:(L_ (ByteArray×Int)))(c:(L_ QMk))(k:(L_ QZ)):O_ ((Int×(L_ QI)×(L_ QM)×(L_ QG)×Int×Int×Int×Bool×(L_ (ByteArray×Int))×(L_ QMk)×(L_ QZ))⊕((L_ QI)×(L_ QM)×(L_ QG)×Int×Int×Int×Bool×(L_ (ByteArray×Int))×(L_ QMk)×(L_ QZ))):=bif (D<(c.length:Int))then (idx c D).bind λm=>(Hj m).bind λn=>bif (b<n)then Ac D d e f g h i false j c k else (Gm d e f g h i j c k l D).bind λa=>Ac D a.2.2.1 a.2.2.2.1 a.2.2.2.2.1 a.2.2.2.2.2.1 a.2.2.2.2.2.2.1 a.2.2.2.2.2.2.2.1 a.2.2.2.2.2.2.2.2.1 a.2.2.2.2.2.2.2.2.2 a.1 a.2.1 else some (.inr (d,e,f,g,h,i,l,j,c,k))
def TM (d:(L_ QI))(e:(L_ QM))(f:(L_ QG))(g:Int)(h:Int)(i:Int)(a:Bool)(j:(L_ (ByteArray×Int)))(b:(L_ QMk))(c:(L_ QZ)):O_ QN:=some (QN.mk b c a)
def Hv (d:Qe)(e:QMk)(a:Int)(b:Int):O_ QN:=bif (a<=0)then some (QN.mk ([]:(L_ QMk)) ([]:(L_ QZ)) false)else (Aw e).bind λf=>(Wy d.Colours d.Places d.Tasks d.From d.To a ([]:(L_ (ByteArray×Int))) ([]:L_ QMk) ([]:L_ QZ) true f).bind λc=>(QD (λst=>Ad b st.1 st.2.1 st.2.2.1 st.2.2.2.1 st.2.2.2.2.1 st.2.2.2.2.2.1 st.2.2.2.2.2.2.1 st.2.2.2.2.2.2.2.1 st.2.2.2.2.2.2.2.2.1 st.2.2.2.2.2.2.2.2.2.1 st.2.2.2.2.2.2.2.2.2.2) (0,c.2.2.1,c.2.2.2.1,c.2.2.2.2.1,c.2.2.2.2.2.1,c.2.2.2.2.2.2.1,c.2.2.2.2.2.2.2.1,c.2.2.2.2.2.2.2.2.1,c.2.2.2.2.2.2.2.2.2,c.2.1,([]:L_ QZ))).bind (λq=>TM q.1 q.2.1 q.2.2.1 q.2.2.2.1 q.2.2.2.2.1 q.2.2.2.2.2.1 q.2.2.2.2.2.2.1 q.2.2.2.2.2.2.2.1 q.2.2.2.2.2.2.2.2.1 q.2.2.2.2.2.2.2.2.2)
def Qfe (i m2 a f):CT 31 [.agg (Qa i),.sl 1 (m2.map Qh),.I a,.I f] [] (Hv i m2 a f) (λr=>(.agg (QF r))) no_:=by
 refine W 59 func31 rfl λC j r h=>?_
 refine tg_ j [13] ?_
 rcases XN h with⟨w,h⟩|⟨w,h⟩
 ·refine Qo j [.T,2,.v .no [some 1,some 6,none] (.agg (QF (QN.mk ([]:(L_ QMk)) ([]:(L_ QZ)) false))),1,.O 8 (.var (QF (QN.mk ([]:(L_ QMk)) ([]:(L_ QZ)) false))),4,.K [8] [8]] Z (a3_ w Z Z) ?_
  cases h
  exact AK.done (ex_ [_] (an_ (an_ (ex_ _ (ex_ _ (an_ Z (an_ Z (Or.inl (an_ (Qt.ag Z) (an_ (Qt.sz Z) Z))))))) U) (gives U)))
 obtain⟨x8,a7,h⟩:=Qv h
 obtain⟨k,a8,h⟩:=Qv h
 refine Qo j [.F,4,.A (Qa i),2,.O 16 (.map (QB V.s V.I ([]:(L_ (ByteArray×Int))))),.A [.sl 7 (i.Colours.map Qr),.sl 3 (i.Places.map Qp),.sl 14 (i.Tasks.map Qg),.I i.From,.I i.To,.I a,.map 16,.Y,.Y,.b false],11,.O 18 (.var [.sl 7 (i.Colours.map Qr),.sl 3 (i.Places.map Qp),.sl 14 (i.Tasks.map Qg),.I i.From,.I i.To,.I a,.map 16,.Y,.Y,.b true]),6,.o (.co false [.d] 1 (x8.map Qh) x8.length),.frz 25 (x8.map Qh) [25] [],.adoptO 18 7 609 1,.O 609 (.arr 1 (([]:L_ QMk).map Qx)),.O 18 (.var [.sl 7 (i.Colours.map Qr),.sl 3 (i.Places.map Qp),.sl 14 (i.Tasks.map Qg),.I i.From,.I i.To,.I a,.map 16,.own 609 ([]:L_ QMk).length,.Y,.b true]),.adoptO 18 8 610 6,.O 610 (.arr 6 (([]:L_ QZ).map Xb)),.O 18 (.var [.sl 7 (i.Colours.map Qr),.sl 3 (i.Places.map Qp),.sl 14 (i.Tasks.map Qg),.I i.From,.I i.To,.I a,.map 16,.own 609 ([]:L_ QMk).length,.own 610 ([]:L_ QZ).length,.b true]),.cm (.fn) [(618,18),(619,16),(616,609),(617,610)] [(609,616),(610,617),(18,618),(16,619)] [609,610] [.d,.d] [(616,.arr 1 (k.2.1.map Qx)),(617,.arr 6 (([]:L_ QZ).map Xb)),(618,.var [.sl 7 (k.2.2.1.map Qr),.sl 3 (k.2.2.2.1.map Qp),.sl 14 (k.2.2.2.2.1.map Qg),.I k.2.2.2.2.2.1,.I k.2.2.2.2.2.2.1,.I k.2.2.2.2.2.2.2.1,.map 619,.own 616 k.2.1.length,.own 617 ([]:L_ QZ).length,.b k.2.2.2.2.2.2.2.2.1]),(619,.map (QB V.s V.I k.2.2.2.2.2.2.2.2.2))] (.I k.1),9,.K [3,8,9,10] [8,16,18,609,610]] Z (aC_ w Z Z Z Z ⟨(HW _ _ a7),Qc,.inl Z⟩ (A (Js Qc)) Z Z Z Z (Fx _ _ _ _ _ _ _ _ _ _ _ _ a8)) ?_
 obtain⟨a9,a3,h⟩:=Qv h
 refine AK.loop (body:=(λst=>Ad f st.1 st.2.1 st.2.2.1 st.2.2.2.1 st.2.2.2.2.1 st.2.2.2.2.2.1 st.2.2.2.2.2.2.1 st.2.2.2.2.2.2.2.1 st.2.2.2.2.2.2.2.2.1 st.2.2.2.2.2.2.2.2.2.1 st.2.2.2.2.2.2.2.2.2.2)) (λst σ=>σ=⟨[(3,.I f),lk_ 8,(9,.L 18),(10,.I st.1)],[(8,.var [.Y,.Y,.b false]),(16,.map (QB V.s V.I st.2.2.2.2.2.2.2.2.1)),(18,.var [.sl 7 (st.2.1.map Qr),.sl 3 (st.2.2.1.map Qp),.sl 14 (st.2.2.2.1.map Qg),.I st.2.2.2.2.1,.I st.2.2.2.2.2.1,.I st.2.2.2.2.2.2.1,.map 16,.own 609 st.2.2.2.2.2.2.2.2.2.1.length,.own 610 st.2.2.2.2.2.2.2.2.2.2.length,.b st.2.2.2.2.2.2.2.1]),(609,.arr 1 (st.2.2.2.2.2.2.2.2.2.1.map Qx)),(610,.arr 6 (st.2.2.2.2.2.2.2.2.2.2.map Xb))]⟩) (λq e σ=>e=.exit 0/\σ=⟨[lk_ 8,(9,.L 18)],[(8,.var [.Y,.Y,.b false]),(16,.map (QB V.s V.I q.2.2.2.2.2.2.2.1)),(18,.var [.sl 7 (q.1.map Qr),.sl 3 (q.2.1.map Qp),.sl 14 (q.2.2.1.map Qg),.I q.2.2.2.1,.I q.2.2.2.2.1,.I q.2.2.2.2.2.1,.map 16,.own 609 q.2.2.2.2.2.2.2.2.1.length,.own 610 q.2.2.2.2.2.2.2.2.2.length,.b q.2.2.2.2.2.2.1]),(609,.arr 1 (q.2.2.2.2.2.2.2.2.1.map Qx)),(610,.arr 6 (q.2.2.2.2.2.2.2.2.2.map Xb))]⟩) a3 rfl ?_ ?_
 ·rintro ⟨at_11,b0,b1,b2,b3,b4,b5,c7,c8,b6,b7⟩ o σ rfl h
  refine tg_ j [13] ?_
  refine bq_ j h [.T,2] rfl (λl h=>?_) [.F,2,.K [8,9] [8,16,18,609,610]] rfl λl h=>?_
  ·refine AK.meet (λσ=>∃x:(L_ QI),∃y:(L_ QM),∃z:(L_ QG),∃D:Int,∃N:Int,∃P:Int,∃S:Bool,∃a0:(L_ (ByteArray×Int)),∃p:(L_ QMk),∃t:(L_ QZ),σ=⟨[(3,.I f),lk_ 8,(9,.L 18),(10,.I at_11)],[(8,.var [.Y,.Y,.b false]),(16,.map (QB V.s V.I a0)),(18,.var [.sl 7 (x.map Qr),.sl 3 (y.map Qp),.sl 14 (z.map Qg),.I D,.I N,.I P,.map 16,.own 609 p.length,.own 610 t.length,.b S]),(609,.arr 1 (p.map Qx)),(610,.arr 6 (t.map Xb))]⟩/\Ac at_11 x y z D N P S a0 p t=some o) ?_ ?_
   ·obtain⟨b8,u,h⟩:=Qv h
    obtain⟨b9,a4,h⟩:=Qv h
    refine Qo j [11,.o (.row (Qx b8)),.o (.C1 (.I b9)),4] Z (a3_ (YN u Z) (XU (Jr u).2) (Tz _ _ a4)) ?_
    rcases XN h with⟨m,h⟩|⟨m,h⟩
    ·refine Qo j [.T,7,.O 18 (.var [.sl 7 (b0.map Qr),.sl 3 (b1.map Qp),.sl 14 (b2.map Qg),.I b3,.I b4,.I b5,.map 16,.own 609 b6.length,.own 610 b7.length,.b false]),5,.K [3,8,9,10] [8,16,18,609,610]] Z (a2_ m Z) ?_
     exact AK.met (ex_ _ (ex_ _ (ex_ _ (ex_ _ (ex_ _ (ex_ _ (ex_ _ (ex_ _ (ex_ _ (ex_ _ (an_ Z h)))))))))))
    obtain⟨g,a5,h⟩:=Qv h
    refine Qo j [.F,5,.cm (.fn) [(618,18),(619,16),(616,609),(617,610)] [(609,616),(610,617),(18,618),(16,619)] [609,610] [.d,.d] [(616,.arr 1 (g.1.map Qx)),(617,.arr 6 (g.2.1.map Xb)),(618,.var [.sl 7 (g.2.2.1.map Qr),.sl 3 (g.2.2.2.1.map Qp),.sl 14 (g.2.2.2.2.1.map Qg),.I g.2.2.2.2.2.1,.I g.2.2.2.2.2.2.1,.I g.2.2.2.2.2.2.2.1,.map 619,.own 616 g.1.length,.own 617 g.2.1.length,.b g.2.2.2.2.2.2.2.2.1]),(619,.map (QB V.s V.I g.2.2.2.2.2.2.2.2.2))] (.tup []),2,.K [3,8,9,10] [8,16,18,609,610]] Z (a2_ m (Rx _ _ _ _ _ _ _ _ _ _ _ _ a5)) ?_
    exact AK.met (ex_ _ (ex_ _ (ex_ _ (ex_ _ (ex_ _ (ex_ _ (ex_ _ (ex_ _ (ex_ _ (ex_ _ (an_ Z h)))))))))))
   rintro σ ⟨x,y,z,D,N,P,S,a0,p,t,rfl,h⟩
   refine tg_ j [5,.K [3,8,9,10] [8,16,18,609,610]] ?_
   cases h
   exact Vp Z Z
  cases h
  exact ZX Z (an_ Z Z)
 obtain⟨c0,c1,c2,c3,c4,c5,a6,c6,a1,a2⟩:=a9
 replace h:TM c0 c1 c2 c3 c4 c5 a6 c6 a1 a2=some r:=h
 rintro e σ ⟨rfl,rfl⟩
 refine Qo j [9,.O 8 (.var [.own 609 a1.length,.own 610 a2.length,.b a6]),3,.frz 609 (a1.map Qx) [] [8],.frz 610 (a2.map Xb) [] [8],.K [8] [8]] Z (a3_ Z (A ⟨(Js Qc),(A U)⟩) (A ⟨(Js Qc),U⟩)) ?_
 cases h
 exact AK.done (ex_ [_] (an_ (an_ (ex_ _ (ex_ _ (an_ Z (an_ Z (Or.inl (an_ (Qt.ag Z) (an_ (Qt.sz Z) Z))))))) U) (gives U)))
def FD (c:Qe)(a:Int)(b:Int):O_ QN:=(Gz c).bind λd=>(Hv c d a b).bind λe=>some e
def QbW (f b e):CT 12 [.agg (Qa f),.I b,.I e] [] (FD f b e) (λr=>(.agg (QF r))) no_:=by
 refine W 13 func12 rfl λC g r h=>?_
 obtain⟨k,i,h⟩:=Qv h
 obtain⟨l,j,h⟩:=Qv h
 refine tg_ g [7,.K [1,2,3,6] [3,6]] ?_
 refine AK.draw2 Qt g mixed [.E (.agg (Qa f)),.E (.agg (Qa f)),.B (.cd false [.d] 1 (k.map Qh) k.length),.N,.N,.B (.C4 (.agg (QF l))),.m .s] [] [] [6] [6] rfl rfl rfl ⟨⟨⟨⟨U,rfl⟩,rfl⟩,⟨(MW _ _ i),Qc⟩⟩,(Qfe _ _ _ _ _ j)⟩ rfl (by kernel_rfl) rfl rfl rfl ?_
 refine Qo g [.O 6 (.var (QF l)),2,.K [6] [6]] Z (A Z) ?_
 cases h
 exact AK.done (ex_ [_] (an_ (an_ (ex_ _ (ex_ _ (an_ Z (an_ Z (Or.inl (an_ (Qt.ag Z) (an_ (Qt.sz Z) Z))))))) U) (gives U)))
def TN (a:Qe)(b:QMk):O_ Bool:=bif (0<=a.To)then bif (a.To<(b.length:Int))then (idx b a.To).bind λc=>(ER c).bind λd=>some (decide (0<d))else some false else some false
def TO (a:Bool):O_ Bool:=some a
def Ud (a:Qe)(b:QMk):O_ Bool:=(TN a b).bind (λc=>TO c)
def Nn (l g):CT 15 [.agg (Qa l),.sl 1 (g.map Qh)] [] (Ud l g) V.b no_:=
 W 24 func15 Z λC a r h=>H a [7] Z<|mV_ h (λi=>⟨[(4,.b i)],[]⟩) (λi h=>H a [5] Z<|I h (λe h=>G a [.S 8 (.b true),3,.o (.ln g.length),3] Z ⟨(tc_ e),Qc⟩<|I h (λf h=>B h λm j h=>B h λp k h=>G a [.S 15 (.b true),3,.o (.row (Qh m)),1,.o (.C1 (.I p)),4] Z ⟨⟨(tc_ f),(Xi j)⟩,(Oi _ _ k)⟩<|mq_ h Z) λf h=>L a [.S 15 (.b false),10] Z f<|mq_ h Z) λe h=>L a [.S 8 (.b false),17] Z e<|mq_ h Z) λi h=>H a [2] Z<|E h Z U
def TP (a:QMk)(b:Qe):O_ Bool:=bif ((a.length:Int) != (b.Places.length:Int))then some true else (Ud b a).bind λc=>some (!c)
def FE (b:QBg)(c:Int)(a:Int):O_ (Int⊕(Unit⊕Unit)):=(ER b).bind λd=>bif (d != a)then some (.inr (.inl ()))else some (.inl (Qi (c+1)))
def FF (c:QMk)(d:Qe)(a:Int):O_ (Int⊕(Unit⊕Unit)):=bif (a<(c.length:Int))then (idx c a).bind λb=>bif (a==d.To)then FE b a 1 else FE b a 0 else some (.inr (.inr ()))
def Qff : O_ Bool:=some false
def Qfg : O_ Bool:=some true
def Ae (a:QMk)(b:Qe)(c:Bool):O_ Bool:=bif c then some false else (QD (λst=>FF a b st) 0).bind (Sum.elim (λq=>Qff) (λq=>Qfg))
def Ue (a:Qe)(b:QMk):O_ Bool:=(TP b a).bind (λc=>Ae b a c)
def No (k j):CT 16 [.agg (Qa k),.sl 1 (j.map Qh)] [] (Ue k j) V.b no_:=
 W 36 func16 Z λC e r h=>H e [8] Z<|mV_ h (λw=>⟨[(1,.sl 1 (j.map Qh)),lk_ 2,(19,.b w)],[(2,.var (Qa k))]⟩) (λw h=>K e [2,.o (.ln j.length),2,.o (.ln k.Places.length),2] Z Qc Qc<|I h (λl h=>L e [.S 14 (.b true),6] Z l<|mq_ h Z) λl h=>B h λz x h=>G e [.S 14 (.b false),.A (Qa k),1,.o (.C2 (.b z)),3] Z ⟨⟨(tc_ l),Z⟩,(Nn _ _ _ x)⟩<|mq_ h Z) λw h=>H e [1] Z<|I h (λm h=>J e [.T,7] Z m<|E h Z U) λm h=>K e [.F,6,.o (.ln j.length),4] Z m Qc<|lq_ h (λst=>⟨[lk_ 2,(20,.sl 1 (j.map Qh)),(21,.I (j.length:Int)),(22,.I st)],[(2,.var (Qa k))]⟩) (λq=>(.ret,⟨[(4,.b false)],[]⟩)) (λq=>(.exit 0,⟨[],[]⟩)) Z (λs o h=>H e [6] Z<|I h (λf h=>B h λp t h=>K e [.T,7,.o (.row (Qh p)),10] Z f (Xi t)<|mE_ (λa:Int=>⟨[lk_ 2,(6,.sl 2 (p.map QT)),(7,.I a),(20,.sl 1 (j.map Qh)),(21,.I (j.length:Int)),(22,.I s)],[(2,.var (Qa k))]⟩) (λa=>FE p s a=some o) (H e [8] Z<|I h (λg h=>J e [.T,3] Z g<|me_ h Z) λg h=>J e [.F,1] Z g<|me_ h Z) λa h=>B h λy u h=>J e [3,.o (.C1 (.I y)),4] Z (Oi _ _ u)<|I h (λi h=>J e [.T,8] Z i<|rR_ h Z) λi h=>J e [.F,7] Z i<|rN_ h Z) λf h=>J e [.F,2] Z f<|rX_ h Z) (λ_ h=>H e [2] Z<|E h Z U) (λ_ h=>H e [8] Z<|E h Z U)
def BR (a:QS)(b:QMk):O_ Bool:=(Ud a.net b).bind λc=>bif c then (Ue a.net b).bind λd=>some (!d)else some false
def Pm (a:Bool):O_ Bool:=some a
def Dy (a:QMk)(b:QS):O_ Bool:=(BR b a).bind (λc=>Pm c)
def Pn (k e):CT 81 [.sl 1 (k.map Qh),.L 618] [(618,.var (Xc e))] (Dy k e) V.b (λ_=>[(618,.var (Xc e))]):=
 W 15 func81 Z λC f r h=>H f [6] Z<|mV_ h (λg=>⟨[(3,.b g)],[(618,.var (Xc e))]⟩) (λg h=>B h λl i h=>K f [2,.A (Qa e.net),1,.o (.C2 (.b l)),1] Z Z (Nn _ _ _ i)<|I h (λa h=>B h λm j h=>G f [.S 8 (.b true),1,.A (Qa e.net),1,.o (.C2 (.b m)),4] Z ⟨⟨(tc_ a),Z⟩,(No _ _ _ j)⟩<|mq_ h Z) λa h=>L f [.S 8 (.b false),8] Z a<|mq_ h Z) λg h=>H f [2] Z<|E h Z r1_
def Xx (c:(L_ QMk))(d:QS)(a:Int):O_ (Int⊕(Int⊕Unit)):=bif (a<(c.length:Int))then (idx c a).bind λe=>(Dy e d).bind λb=>bif b then some (.inr (.inl a))else some (.inl (Qi (a+1)))else some (.inr (.inr ()))
def Af (a:Int):O_ Int:=some a
def Ag : O_ Int:=some (-1)
def JD (a:(L_ QMk))(b:QS):O_ Int:=(QD (λst=>Xx a b st) 0).bind (Sum.elim (λq=>Af q) (λq=>Ag))
def Ah (g e):CT 35 [.sl 1 (g.map Qx),.clo (.func 81) [] [.L 618]] [(618,.var (Xc e))] (JD g e) V.I (λ_=>[(618,.var (Xc e))]):=
 W 19 func35 Z λC c r h=>J c [9,.o (.ln g.length),4] Z Qc<|lq_ h (λst=>⟨[(0,.sl 1 (g.map Qx)),(1,.clo (.func 81) [] [.L 618]),(7,.I (g.length:Int)),(8,.I st)],[(618,.var (Xc e))]⟩) (λq=>(.ret,⟨[(4,.I q)],[(618,.var (Xc e))]⟩)) (λq=>(.exit 0,⟨[],[(618,.var (Xc e))]⟩)) Z (λm o h=>H c [6] Z<|I h (λf h=>B h λl j h=>B h λk i h=>g3_ c [.T,15,.o (.row (Qx l)),1,.cm (.clo) [(618,618)] [(618,618)] [] [.d,.d] [(618,.var (Xc e))] (.b k),2] Z f (Xi j) (Pn _ _ _ i)<|I h (λa h=>J c [.T,9] Z a<|rR_ h Z) λa h=>J c [.F,7] Z a<|rN_ h Z) λf h=>J c [.F,2] Z f<|rX_ h Z) (λp h=>H c [2] Z<|E h Z r1_) (λ_ h=>H c [8] Z<|E h Z r1_)
def WC (a:QS):O_ Int:=(JD a.space.States a).bind λb=>some b
def FG (a):CT 45 [.agg (Xc a)] [] (WC a) V.I no_:=
 W 8 func45 Z λC c r h=>B h λe b h=>J c [12,.cm (.fn) [(618,1)] [(1,618)] [] [.d,.d] [(618,.var (Xc a))] (.I e),4] Z (Ah _ _ _ b)<|E h Z U
def UR (a:Int)(b:QN):O_ Bool:=some ((0<=a)&&(a<(b.States.length:Int)))
def Mr (c d):CT 219 [.I c,.L 618] [(618,.var (QF d))] (UR c d) V.b (λ_=>[(618,.var (QF d))]):=
 W 13 func219 Z λC e r h=>H e [6] Z<|Y ⟨[(3,.b ((0<=c)&&(c<(d.States.length:Int))))],[(618,.var (QF d))]⟩ (H e [4] Z<|bO_ (decide (0<=c)) (λa=>G e [.S 6 (.b true),3,.o (.ln d.States.length),4,.S 3 (.b ((0<=c)&&(c<(d.States.length:Int))))] Z ⟨⟨(tc_ a),Qc⟩,(cb_ (Yx a Z))⟩<|M Z) λa=>G e [.S 6 (.b false),8,.S 3 (.b ((0<=c)&&(c<(d.States.length:Int))))] Z ⟨(tc_ a),(cb_ (KL a Z))⟩<|M Z)<|H e [2] Z<|E h Z r1_
def Ig (b:Int)(a:(L_ (Int×LI_))):O_ ((Int×(L_ (Int×LI_)))⊕(L_ (Int×LI_))):=some (.inl ((Qi (b+1)),a))
def Ot (a:QZ)(d:QN):O_ Bool:=(UR a.From d).bind λb=>bif b then (UR a.To d).bind λc=>some c else some false
def Za (b:(L_ (Int×LI_)))(a:QZ)(d:Int)(c:Bool):O_ ((Int×(L_ (Int×LI_)))⊕(L_ (Int×LI_))):=bif c then (chk (((Qq b a.To).getD []).length+([a.From]:L_ Int).length<=4294967296)).bind λ_=>Ig d (XD KM b a.To (((Qq b a.To).getD [])++[a.From]))else Ig d b
def Ih (b:QN)(c:Int)(e:(L_ (Int×LI_))):O_ ((Int×(L_ (Int×LI_)))⊕(L_ (Int×LI_))):=bif (c<(b.Edges.length:Int))then (idx b.Edges c).bind λa=>(Ot a b).bind (λd=>Za e a c d)else some (.inr e)
def Ii (a:Int)(b:QBg)(c:LI_):O_ ((Int×QBg×LI_)⊕(QBg×LI_)):=some (.inl ((Qi (a+1)),b,c))
def Ij (e:(L_ (Int×LI_)))(f:Int)(c:Int)(a:QBg)(b:LI_):O_ ((Int×QBg×LI_)⊕(QBg×LI_)):=bif (c<(((Qq e f).getD ([]:LI_)).length:Int))then (idx ((Qq e f).getD ([]:LI_)) c).bind λd=>bif (!(Qq a d).isSome)then (idx b 0).bind λg=>(chk (b.length+([d]:L_ Int).length<=4294967296)).bind λ_=>Ii c (XD KM a d (Qi (((Qq a g).getD 0)+1))) (b++([d]:L_ Int))else Ii c a b else some (.inr (a,b))
def Zb (b:QBg)(a:LI_):O_ ((QBg×LI_)⊕QBg):=(chk (decide (0<=1)&&decide (1<=a.length))).bind λ_=>some (.inl (b,(a.drop 1)))
def Ik (c:(L_ (Int×LI_)))(b:QBg)(a:LI_):O_ ((QBg×LI_)⊕QBg):=bif (0<(a.length:Int))then (idx a 0).bind λd=>(QD (λst=>Ij c d st.1 st.2.1 st.2.2) (0,b,a)).bind (λq=>Zb q.1 q.2)else some (.inr b)
def Qgm (a:QBg):O_ QBg:=some a
def TQ (b:Int)(a:(L_ (Int×LI_))):O_ QBg:=(QD (λst=>Ik a st.1 st.2) ((XD KM ([]:QBg) b 0),([b]:L_ Int))).bind (λq=>Qgm q)
def OT (a:QN)(b:Int):O_ QBg:=(UR b a).bind λc=>bif (!c)then some ([]:QBg)else (QD (λst=>Ih a st.1 st.2) (0,([]:(L_ (Int×LI_))))).bind (λq=>TQ b q)
def Qgn (t k2):CT 147 [.agg (QF t),.I k2] [] (OT t k2) (λ_=>(.map 602)) (λr=>[(602,.map (QB V.I V.I r))]):=
 W 93 func147 Z λC g r h=>B h λx5 c1 h=>K g [15,.O 16 (.map (QB V.I V.I ([]:QBg))),8,.cm (.clo) [(618,2)] [(2,618)] [] [.d,.d] [(618,.var (QF t))] (.b x5),3] Z Z (Mr _ _ _ c1)<|I h (λb0 h=>J g [.T,8,.K [4] [16],.ren 16 602] Z b0<|E h Z r1_) λb0 h=>g4_ g [.F,4,.x (λσ=>(σ.set 22 (.grp 1 [] none)).put 22 (.map 22)),.O 22 (.grp 1 (BX V.I Qb ([]:(L_ (Int×LI_)))) none),8,.o (.ln t.Edges.length),4] Z b0 (Stp.makeGrp 1 Z Z (QR g.n Z) Z) Z Qc<|lp_ h (λst=>⟨[(1,.I k2),(5,.clo (.func 219) [] [.L 2]),(6,.map 16),(7,.map 22),(24,.sl 6 (t.Edges.map Xb)),(25,.I (t.Edges.length:Int)),(26,.I st.1)],[(2,.var (QF t)),(16,.map (QB V.I V.I ([]:QBg))),(22,.grp 1 (BX V.I Qb st.2) none)]⟩) (λq=>(.exit 0,⟨[(1,.I k2),(6,.map 16),(7,.map 22)],[(16,.map (QB V.I V.I ([]:QBg))),(22,.grp 1 (BX V.I Qb q) none)]⟩)) Z (λ⟨x8,w⟩ o h=>H g [6] Z<|I h (λy h=>J g [.T,2] Z y<|mE_ (λa5:(L_ (Int×LI_))=>⟨[(1,.I k2),(5,.clo (.func 219) [] [.L 2]),(6,.map 16),(7,.map 22),(24,.sl 6 (t.Edges.map Xb)),(25,.I (t.Edges.length:Int)),(26,.I x8)],[(2,.var (QF t)),(16,.map (QB V.I V.I ([]:QBg))),(22,.grp 1 (BX V.I Qb a5) none)]⟩) (λa5=>Ig x8 a5=some o) (B h λc b2 h=>g3_ g [3,.o (.row (Xb c)),.A (Xb c),2,.O 9 (.var (Xb c)),3] Z (Xi b2) Z Z<|mV_ h (λb1=>⟨[(1,.I k2),(5,.clo (.func 219) [] [.L 2]),(6,.map 16),(7,.map 22),lk_ 9,(24,.sl 6 (t.Edges.map Xb)),(25,.I (t.Edges.length:Int)),(26,.I x8),(39,.b b1)],[(2,.var (QF t)),(9,.var (Xb c)),(16,.map (QB V.I V.I ([]:QBg))),(22,.grp 1 (BX V.I Qb w) none)]⟩) (λb1 h=>B h λc2 b3 h=>J g [4,.cm (.clo) [(618,2)] [(2,618)] [] [.d,.d] [(618,.var (QF t))] (.b c2),1] Z (Mr _ _ _ b3)<|I h (λD h=>B h λc3 b4 h=>G g [.S 34 (.b true),3,.cm (.clo) [(618,2)] [(2,618)] [] [.d,.d] [(618,.var (QF t))] (.b c3),2] Z ⟨(tc_ D),(Mr _ _ _ b4)⟩<|mq_ h Z) λD h=>L g [.S 34 (.b false),6] Z D<|mq_ h Z) λb1 h=>H g [1] Z<|I h (λP h=>X h λb5 h=>G g [.T,.K [1,5,6,7,9,24,25,26] [2,9,16,22]] Z (A P) <| 
  dr_ g [.a .no none true,.a .no none true,.a .no none true,.N,.N,.N,.m (.any ⟨[46],[(46,.arr 1 (((Qq w c.To).getD []).map Qb)),(22,.grp 1 (BX V.I Qb w) (some (V.I c.To)))],some (46,.own 46 ((Qq w c.To).getD []).length)⟩),.a .no none true,.a .no none true,.a (.bd []) (some ([],.sl 1 (([c.From]:L_ Int).map Qb))) true,.m (.app ((((Qq w c.To).getD [])++[c.From]).map Qb) (((Qq w c.To).getD [])++[c.From]).length),.m (.any ⟨[46],[(22,.grp 1 (BX V.I Qb (XD KM w c.To (((Qq w c.To).getD [])++[c.From]))) none)],none⟩)] [1,5,6,7,9,24,25,26] [2,9,16] [1,5,6,7,24,25,26] [2,16,22] Z Z (a4_ (λσ u h2=>Stp.lookupOutT (e:=V.I) (f:=Qb) (l:=w) (k:=c.To) Z Z (QR g.n Z) (u _ _ Z) (h2 _ _ Z) (u _ _ Z) VT KN Qm1 Z Z Z Z Z) Z ⟨Qc,Jf b5 Qc,XY,Jw Qc⟩ (λσ u h2=>Stp.updateBackT (e:=V.I) (f:=Qb) (l:=w) (k:=c.To) (((Qq w c.To).getD [])++[c.From]) KM Z Z (u _ _ Z) (h2 _ _ Z) (u _ _ Z) (u _ _ Z) (h2 _ _ Z) VT KN Z Z Z Z Z (by simp))) Z <|
  H g [1] Z<|me_ h Z) λP h=>J g [.F,2] Z P<|me_ h Z) λa5 h=>H g [4] Z<|rN_ h Z) λy h=>J g [.F,2] Z y<|rX_ h Z) λi h=>g3_ g [6,.x (λσ=>σ.set 16 (.map (QB V.I V.I (XD KM ([]:QBg) k2 0)))),7,.O 55 (.arr 1 (([k2]:L_ Int).map Qb)),.S 55 (.own 55 ([k2]:L_ Int).length),4] Z (Stp.mapUpdate (e:=V.I) (f:=V.I) (l:=([]:QBg)) (k:=k2) (v:=0) KM Z Z Z Z Z Z Hh KN Z) Z Z<|AK.grpMap (b:=22) (e:=V.I) (f:=Qb) (l:=i) KN Z Z<|J g [.O 22 (.map (QB V.I (λx=>V.sl 1 (x.map Qb)) i))] Z Z<|lp_ h (λst=>⟨[(6,.map 16),(7,.map 22),(10,.own 55 st.2.length)],[(16,.map (QB V.I V.I st.1)),(22,.map (QB V.I (λx=>V.sl 1 (x.map Qb)) i)),(55,.arr 1 (st.2.map Qb))]⟩) (λq=>(.exit 2,⟨[(6,.map 16)],[(16,.map (QB V.I V.I q))]⟩)) Z (λ⟨c4,c5⟩ o h=>H g [8] Z<|I h (λa0 h=>B h λs a7 h=>G g [.T,9,.o (.row (Qb s)),.o (.any (.sl 1 (((Qq i s).getD ([]:LI_)).map Qb)) none),.o (.ln ((Qq i s).getD ([]:LI_)).length),4] Z (a5_ a0 (YN a7 Z) (XU (Jr a7).2) (λσ u h2 _=>Stp.lookup (e:=V.I) (f:=(λx=>V.sl 1 (x.map Qb))) (l:=i) (k:=s) (z:=([]:LI_)) Z Z (QR g.n Z) (u _ _ Z) (h2 _ _ Z) (u _ _ Z) VT KN Qm2 Z) Qc)<|lp_ h (λst=>⟨[(6,.map 16),(7,.map 22),(10,.own 55 st.2.2.length),(65,.sl 1 (((Qq i s).getD ([]:LI_)).map Qb)),(66,.I (((Qq i s).getD ([]:LI_)).length:Int)),(67,.I st.1)],[(16,.map (QB V.I V.I st.2.1)),(22,.map (QB V.I (λx=>V.sl 1 (x.map Qb)) i)),(55,.arr 1 (st.2.2.map Qb))]⟩) (λq=>(.exit 4,⟨[(6,.map 16),(7,.map 22),(10,.own 55 q.2.length)],[(16,.map (QB V.I V.I q.1)),(22,.map (QB V.I (λx=>V.sl 1 (x.map Qb)) i)),(55,.arr 1 (q.2.map Qb))]⟩)) Z (λ⟨b6,j,b7⟩ o h=>H g [6] Z<|I h (λa1 h=>J g [.T,2] Z a1<|mF_ (λ(a6:QBg) (a2:LI_)=>⟨[(6,.map 16),(7,.map 22),(10,.own 55 a2.length),(65,.sl 1 (((Qq i s).getD ([]:LI_)).map Qb)),(66,.I (((Qq i s).getD ([]:LI_)).length:Int)),(67,.I b6)],[(16,.map (QB V.I V.I a6)),(22,.map (QB V.I (λx=>V.sl 1 (x.map Qb)) i)),(55,.arr 1 (a2.map Qb))]⟩) (λa6 a2=>Ii b6 a6 a2=some o) (B h λp b8 h=>K g [3,.o (.row (Qb p)),8,.o (.any (.tup [.I ((Qq j p).getD 0),.b (Qq j p).isSome]) none),13] Z (Xi b8) (λσ u h2 _=>Stp.lookupOk (e:=V.I) (f:=V.I) (l:=j) (k:=p) (z:=0) Z Z (QR g.n Z) (u _ _ Z) (h2 _ _ Z) (u _ _ Z) Hh KN IG Z Z)<|I h (λa3 h=>B h λa4 a8 h=>X h λb9 h=>G g [.T,7,.o (.row (Qb a4)),.o (.any (.I ((Qq j a4).getD 0)) none),1,.x (λσ=>σ.set 16 (.map (QB V.I V.I (XD KM j p (Qi (((Qq j a4).getD 0)+1)))))),5,.v (.bd []) [] (.sl 1 (([p]:L_ Int).map Qb)),.app ((b7++([p]:L_ Int)).map Qb) (b7++([p]:L_ Int)).length,3] Z (a7_ a3 (YN a8 Z) (XU (Jr a8).2) (λσ u h2 _=>Stp.lookup (e:=V.I) (f:=V.I) (l:=j) (k:=a4) (z:=0) Z Z (QR g.n Z) (u _ _ Z) (h2 _ _ Z) (u _ _ Z) Hh KN IG Z) (Stp.mapUpdate (e:=V.I) (f:=V.I) (l:=j) (k:=p) (v:=(Qi (((Qq j a4).getD 0)+1))) KM Z Z Z Z Z Z Hh KN Z) Z ⟨Qc,Jf b9 Qc,XY,Jw Qc⟩)<|mf_ h Z) λa3 h=>J g [.F,2] Z a3<|mf_ h Z) λa6 a2 h=>H g [4] Z<|rN_ h Z) λa1 h=>J g [.F,2] Z a1<|rX_ h Z) λ⟨c6,c0⟩ h=>X h λa9 h=>J g [5,.x (λσ=>σ.app 55 1 60 (c0.drop 1).length ((c0.drop 1).map Qb)),2] Z (Stp.sliceT Z Z (QR g.n Z) Z Z Z (Qt.es Z) (EO.val Z (Xs (RT a9)) Z) (EO.none_ Z) (QkK (Hc a9)) (Jn _) Qov Qow)<|rN_ h Z) λa0 h=>J g [.F,2] Z a0<|rX_ h Z) λc7 h=>H g [9,.K [4] [16],.ren 16 602] Z<|E h Z r1_
def Il (b:Int)(a:LI_):O_ ((Int×LI_)⊕LI_):=some (.inl ((Qi (b+1)),a))
def Ou (d:QN)(e:Int)(a:Int)(b:LI_):O_ ((Int×LI_)⊕LI_):=bif (a<(d.Edges.length:Int))then (idx d.Edges a).bind λc=>bif (c.From==e)then (chk (b.length+([a]:L_ Int).length<=4294967296)).bind λ_=>Il a (b++([a]:L_ Int))else Il a b else some (.inr b)
def Qgo (a:LI_):O_ LI_:=some a
def OU (a:QN)(b:Int):O_ LI_:=(QD (λst=>Ou a b st.1 st.2) (0,([]:L_ Int))).bind (λq=>Qgo q)
def Qgp (e k):CT 19 [.agg (QF e),.I k] [] (OU e k) (λr=>(.own 600 r.length)) (λr=>[(600,.arr 1 (r.map Qb))]):=
 W 26 func19 Z λC d r h=>g3_ d [16,.o (.ln e.Edges.length),4,.adopt 5 20 1,.O 20 (.arr 1 (([]:L_ Int).map Qb)),.S 5 (.own 20 ([]:L_ Int).length)] Z Qc Z (congrArg (λn=>V.own 20 n) (by simp))<|lp_ h (λst=>⟨[(1,.I k),(5,.own 20 st.2.length),(9,.sl 6 (e.Edges.map Xb)),(10,.I (e.Edges.length:Int)),(11,.I st.1)],[(20,.arr 1 (st.2.map Qb))]⟩) (λq=>(.exit 0,⟨[(5,.own 20 q.length)],[(20,.arr 1 (q.map Qb))]⟩)) Z (λ⟨g,l⟩ o h=>H d [6] Z<|I h (λa h=>J d [.T,2] Z a<|mE_ (λb:LI_=>⟨[(1,.I k),(5,.own 20 b.length),(9,.sl 6 (e.Edges.map Xb)),(10,.I (e.Edges.length:Int)),(11,.I g)],[(20,.arr 1 (b.map Qb))]⟩) (λb=>Il g b=some o) (B h λf i h=>g3_ d [4,.o (.row (Xb f)),.A (Xb f),3,.O 7 (.var (Xb f)),10] Z (Xi i) Z Z<|I h (λc h=>X h λj h=>g3_ d [.T,3,.v (.bd []) [] (.sl 1 (([g]:L_ Int).map Qb)),.app ((l++([g]:L_ Int)).map Qb) (l++([g]:L_ Int)).length,3] Z c Z ⟨Qc,Jf j Qc,XY,Jw Qc⟩<|me_ h Z) λc h=>J d [.F,2] Z c<|me_ h Z) λb h=>H d [4] Z<|rN_ h Z) λa h=>J d [.F,2] Z a<|rX_ h Z) λm h=>H d [9,.K [4] [20],.ren 20 600] Z<|E h Z r1_
def Ov (c:Int)(a:QBg)(d:QN)(e:Int):O_ Bool:=(idx d.Edges c).bind λb=>some ((Qq a b.To).isSome&&(((Qq a b.To).getD 0)==(Qi (((Qq a e).getD 0)-1))))
def Qdf (t c p i):CT 148 [.I t,.L 618,.L 620,.L 621] [(618,.var [.map 619]),(619,.map (QB V.I V.I c)),(620,.var (QF p)),(621,.var (Qb i))] (Ov t c p i) V.b (λ_=>[(618,.var [.map 619]),(619,.map (QB V.I V.I c)),(620,.var (QF p)),(621,.var (Qb i))]):=by
 refine W 28 func148 rfl λC j r h=>?_
 obtain⟨d,q,h⟩:=Qv h
 refine tg_ j [6,.K [0,1,2,3] [618,619,620,621]] ?_
 refine AK.draw2 Qt j mixed [.N,.N,.N,.N,.B (.row (Xb d)),.N,.N,.B (.any (.tup [.I ((Qq c d.To).getD 0),.b (Qq c d.To).isSome]) none),.N,.N,.N,.N,.N] [] [] [1,3,6,7] [618,619,620,621] rfl rfl rfl ⟨⟨U,(Xi q)⟩,(λσ m s _=>Stp.lookupOk (e:=V.I) (f:=V.I) (l:=c) (k:=d.To) (z:=0) rfl rfl (QR j.n rfl) (m _ _ rfl) (s _ _ rfl) (m _ _ rfl) Hh KN IG rfl rfl)⟩ rfl (by kernel_rfl) rfl rfl rfl ?_
 refine tg_ j [2] ?_
 refine AK.meetX (λσ=>σ=⟨[(5,.b ((Qq c d.To).isSome&&(((Qq c d.To).getD 0)==(Qi (((Qq c i).getD 0)-1)))))],[(618,.var [.map 619]),(619,.map (QB V.I V.I c)),(620,.var (QF p)),(621,.var (Qb i))]⟩) ?_ ?_
 ·refine tg_ j [3] ?_
  rcases QnF (Qq c d.To).isSome with g | g
  ·exact G j [.S 20 (.b true),3,.o (.any (.I ((Qq c i).getD 0)) none),5,.S 5 (.b ((Qq c d.To).isSome&&(((Qq c d.To).getD 0)==(Qi (((Qq c i).getD 0)-1)))))] Z ⟨⟨(tc_ g),(λσ m s _=>Stp.lookup (e:=V.I) (f:=V.I) (l:=c) (k:=i) (z:=0) Z Z (QR j.n Z) (m _ _ Z) (s _ _ Z) (m _ _ Z) Hh KN IG Z)⟩,(cb_ (Yx g Z))⟩<|M Z
  exact G j [.S 20 (.b false),9,.S 5 (.b ((Qq c d.To).isSome&&(((Qq c d.To).getD 0)==(Qi (((Qq c i).getD 0)-1)))))] Z ⟨(tc_ g),(cb_ (KL g Z))⟩<|M Z
 rintro σ rfl
 exact H j [2] Z<|E h Z r4_
def WR (d:LI_)(e:QBg)(f:QN)(g:Int)(a:Int):O_ (Int⊕(Int⊕Unit)):=bif (a<(d.length:Int))then (idx d a).bind λb=>(Ov b e f g).bind λc=>bif c then some (.inr (.inl a))else some (.inl (Qi (a+1)))else some (.inr (.inr ()))
def Ms (a:Int):O_ Int:=some a
def Mt : O_ Int:=some (-1)
def KG (a:LI_)(b:QBg)(c:QN)(d:Int):O_ Int:=(QD (λst=>WR a b c d st) 0).bind (Sum.elim (λq=>Ms q) (λq=>Mt))
def Mu (j f g i):CT 149 [.sl 1 (j.map Qb),.clo (.func 148) [] [.L 618,.L 620,.L 621]] [(618,.var [.map 619]),(619,.map (QB V.I V.I f)),(620,.var (QF g)),(621,.var (Qb i))] (KG j f g i) V.I (λ_=>[(618,.var [.map 619]),(619,.map (QB V.I V.I f)),(620,.var (QF g)),(621,.var (Qb i))]):=
 W 19 func149 Z λC e r h=>J e [9,.o (.ln j.length),4] Z Qc<|lq_ h (λst=>⟨[(0,.sl 1 (j.map Qb)),(1,.clo (.func 148) [] [.L 618,.L 620,.L 621]),(7,.I (j.length:Int)),(8,.I st)],[(618,.var [.map 619]),(619,.map (QB V.I V.I f)),(620,.var (QF g)),(621,.var (Qb i))]⟩) (λq=>(.ret,⟨[(4,.I q)],[(618,.var [.map 619]),(619,.map (QB V.I V.I f)),(620,.var (QF g)),(621,.var (Qb i))]⟩)) (λq=>(.exit 0,⟨[],[(618,.var [.map 619]),(619,.map (QB V.I V.I f)),(620,.var (QF g)),(621,.var (Qb i))]⟩)) Z (λs o h=>H e [6] Z<|I h (λa h=>B h λm k h=>B h λp l h=>g3_ e [.T,15,.o (.row (Qb m)),1,.cm (.clo) [(618,618),(619,619),(620,620),(621,621)] [(618,618),(619,619),(620,620),(621,621)] [] [.d,.d,.d,.d] [(618,.var [.map 619]),(619,.map (QB V.I V.I f)),(620,.var (QF g)),(621,.var (Qb i))] (.b p),2] Z a (Xi k) (Qdf _ _ _ _ _ l)<|I h (λc h=>J e [.T,9] Z c<|rR_ h Z) λc h=>J e [.F,7] Z c<|rN_ h Z) λa h=>J e [.F,2] Z a<|rX_ h Z) (λt h=>H e [2] Z<|E h Z r4_) (λ_ h=>H e [8] Z<|E h Z r4_)
def Np (g:QBg)(d:QN)(a:(L_ Qj))(h:Int):O_ (((L_ Qj)×Int)⊕(L_ Qj)):=bif (0<((Qq g h).getD 0))then (OU d h).bind λc=>(KG c g d h).bind λe=>(idx c e).bind λf=>(idx d.Edges f).bind λb=>(chk (a.length+([b.Mode]:L_ Qj).length<=4294967296)).bind λ_=>some (.inl ((a++[b.Mode]),b.To))else some (.inr a)
def Qfh (a:(L_ Qj)):O_ (L_ Qj):=some a
def WD (a:QN)(c:Int):O_ (L_ Qj):=(OT a c).bind λb=>bif (!(Qq b 0).isSome)then some ([]:L_ Qj)else (QD (λst=>Np b a st.1 st.2) (([]:L_ Qj),0)).bind (λq=>Qfh q)
def TR (x k2):CT 88 [.agg (QF x),.I k2] [] (WD x k2) (λr=>(.own 600 r.length)) (λr=>[(600,.arr 4 (r.map Qk))]):=
 W 50 func88 Z λC g r h=>B h λj a4 h=>g4_ g [8,.A (QF x),1,.cm (.fn) [] [(15,602)] [] [.d,.d] [(602,.map (QB V.I V.I j))] (.map 602),2,.O 5 (.var [.map 15]),6,.o (.any (.tup [.I ((Qq j 0).getD 0),.b (Qq j 0).isSome]) none),13] Z Z (Qgn _ _ _ a4) Z (λσ t y _=>Stp.lookupOk (e:=V.I) (f:=V.I) (l:=j) (k:=0) (z:=0) Z Z (QR g.n Z) (t _ _ Z) (y _ _ Z) (t _ _ Z) Hh KN IG Z Z)<|I h (λu h=>g3_ g [.T,7,.adopt 4 600 4,.O 600 (.arr 4 (([]:L_ Qj).map Qk)),.S 4 (.own 600 ([]:L_ Qj).length)] Z u Z Z<|E h Z r1_) λu h=>g4_ g [.F,12,.O 9 (.var (Qb 0)),3,.adopt 8 8 4,.O 8 (.arr 4 (([]:L_ Qj).map Qk)),.S 8 (.own 8 ([]:L_ Qj).length)] Z u Z Z (congrArg (λn=>V.own 8 n) (by simp))<|lp_ h (λst=>⟨[lk_ 2,lk_ 5,(8,.own 8 st.1.length),lk_ 9],[(2,.var (QF x)),(5,.var [.map 15]),(8,.arr 4 (st.1.map Qk)),(9,.var (Qb st.2)),(15,.map (QB V.I V.I j))]⟩) (λq=>(.exit 0,⟨[(8,.own 8 q.length)],[(8,.arr 4 (q.map Qk))]⟩)) Z (λ⟨p,at_8⟩ o h=>J g [5,.o (.any (.I ((Qq j at_8).getD 0)) none),3] Z (λσ t y _=>Stp.lookup (e:=V.I) (f:=V.I) (l:=j) (k:=at_8) (z:=0) Z Z (QR g.n Z) (t _ _ Z) (y _ _ Z) (t _ _ Z) Hh KN IG Z)<|I h (λi h=>B h λw D h=>B h λP a0 h=>B h λa5 a1 h=>B h λc a2 h=>G g [.T,12,.A (QF x),1,.o (.co false [.d,.d] 1 (w.map Qb) w.length),4,.frz 30 (w.map Qb) [11,30] [],.K [2,5,8,9,10,11] [2,5,8,9,15]] Z (a4_ i Z ⟨(Qgp _ _ _ D),Qc,.inl Z⟩ (a2_ (Js Qc) (Js Qc))) <| 
  dr_ g [.N,.N,.N,.N,.N,.B (.any (.I P) none),.B (.row (Qb a5)),.N,.B (.row (Xb c)),.E (.agg (Xb c)),.N,.m .s] [] [] [2,5,8,9,12] [2,5,8,9,12,15] Z Z (a4_ (λσ t y _=>Stp.callSame (md:=.cm (.fn) [(618,5),(619,15),(620,2),(621,9)] [(5,618),(15,619),(2,620),(9,621)] [] [.d,.d] [(618,.var [.map 619]),(619,.map (QB V.I V.I j)),(620,.var (QF x)),(621,.var (Qb at_8))] (.I P) [5,15,2,9]) Qt g t y Z (a2_ (Mu _ _ _ _ _ a0) r4_)) (Xi a1) (Xi a2) Z) Z <|
  X h λa3 h=>G g [.O 12 (.var (Xb c)),1,.K [2,5,8,9,12] [2,5,8,9,12,15]] Z (A Z) <| 
  dr_ g [.N,.N,.E (.agg (Qk c.Mode)),.a (.bd []) (some ([],.sl 4 (([c.Mode]:L_ Qj).map Qk))) false,.m (.app ((p++[c.Mode]).map Qk) (p++[c.Mode]).length),.a .no none true,.a .no none true,.m .s,.m .s] [2,5,9,12] [2,5,9,12,15] [2,5,8,9] [2,5,8,9,15] Z Z (a3_ Z Z ⟨Qc,Jf a3 Qc,XY,Jw Qc⟩) Z <|
  K g [.O 9 (.var (Qb c.To)),8,.kill 9,2,.O 9 (.var (Qb c.To)),1] Z Z Z<|rN_ h Z) λi h=>J g [.F,2] Z i<|rX_ h Z) λa6 h=>H g [9,.K [4] [8],.ren 8 600] Z<|E h Z r1_
def Ai (a:QS):O_ (Bool×Xr):=(WC a).bind λb=>bif (b<0)then some (true,(Xr.mk 0 0 0 ([]:(L_ Qj))))else (WD a.space b).bind λc=>some (false,(Xr.mk 2 1 0 c))
def Zc (f):CT 50 [.agg (Xc f)] [] (Ai f) (λr=>(.tup [.agg (QE r.2),.b r.1])) no_:=by
 refine W 15 func50 rfl λC g r h=>?_
 obtain⟨k,i,h⟩:=Qv h
 refine Qo g [9,.A (Xc f),.o (.C1 (.I k)),10] Z (a2_ Z (FG _ _ i)) ?_
 rcases XN h with⟨a,h⟩|⟨a,h⟩
 ·refine Qo g [.T,2,.v .no [none,none,none,some 4] (.agg (QE (Xr.mk 0 0 0 ([]:(L_ Qj))))),1,.O 2 (.var (QE (Xr.mk 0 0 0 ([]:(L_ Qj))))),5,.K [2,3] [2]] Z (a3_ a Z Z) ?_
  cases h
  exact AK.done (ex_ [_,_] (an_ (an_ (ex_ _ (ex_ _ (an_ Z (an_ Z (Or.inl (an_ (Qt.ag Z) (an_ (Qt.sz Z) Z))))))) (an_ Z U)) (gives U)))
 obtain⟨e,j,h⟩:=Qv h
 refine Qo g [.F,5,.A (QF f.space),1,.o (.co false [.d,.d] 4 (e.map Qk) e.length),.A [.I 2,.I 1,.I 0,.own 13 e.length],1,.O 2 (.var [.I 2,.I 1,.I 0,.own 13 e.length]),4,.frz 13 (e.map Qk) [] [2],.K [2,3] [2]] Z (a6_ a Z ⟨(TR _ _ _ j),Qc,.inl Z⟩ Z Z (A ⟨(Js Qc),U⟩)) ?_
 cases h
 exact AK.done (ex_ [_,_] (an_ (an_ (ex_ _ (ex_ _ (an_ Z (an_ Z (Or.inl (an_ (Qt.ag Z) (an_ (Qt.sz Z) Z))))))) (an_ Z U)) (gives U)))
def FH (b:Int)(a:LI_):O_ ((Int×LI_)⊕LI_):=some (.inl ((Qi (b+1)),a))
def Nq (e:QN)(f:Qe)(a:Int)(b:LI_):O_ ((Int×LI_)⊕LI_):=bif (a<(e.States.length:Int))then (idx e.States a).bind λc=>(Ue f c).bind λd=>bif d then (chk (b.length+([a]:L_ Int).length<=4294967296)).bind λ_=>FH a (b++([a]:L_ Int))else FH a b else some (.inr b)
def Qfi (a:LI_):O_ LI_:=some a
def Nr (a:Qe)(b:QN):O_ LI_:=(QD (λst=>Nq b a st.1 st.2) (0,([]:L_ Int))).bind (λq=>Qfi q)
def Qfj (j i):CT 69 [.agg (Qa j),.agg (QF i)] [] (Nr j i) (λr=>(.own 600 r.length)) (λr=>[(600,.arr 1 (r.map Qb))]):=
 W 25 func69 Z λC g r h=>g3_ g [17,.o (.ln i.States.length),4,.adopt 5 19 1,.O 19 (.arr 1 (([]:L_ Int).map Qb)),.S 5 (.own 19 ([]:L_ Int).length)] Z Qc Z (congrArg (λn=>V.own 19 n) (by simp))<|lp_ h (λst=>⟨[lk_ 2,(5,.own 19 st.2.length),(9,.sl 1 (i.States.map Qx)),(10,.I (i.States.length:Int)),(11,.I st.1)],[(2,.var (Qa j)),(19,.arr 1 (st.2.map Qb))]⟩) (λq=>(.exit 0,⟨[(5,.own 19 q.length)],[(19,.arr 1 (q.map Qb))]⟩)) Z (λ⟨k,u⟩ o h=>H g [6] Z<|I h (λa h=>J g [.T,2] Z a<|mE_ (λe:LI_=>⟨[lk_ 2,(5,.own 19 e.length),(9,.sl 1 (i.States.map Qx)),(10,.I (i.States.length:Int)),(11,.I k)],[(2,.var (Qa j)),(19,.arr 1 (e.map Qb))]⟩) (λe=>FH k e=some o) (B h λs l h=>B h λt m h=>g3_ g [4,.o (.row (Qx s)),7,.A (Qa j),1,.o (.C2 (.b t)),2] Z (Xi l) Z (No _ _ _ m)<|I h (λf h=>X h λp h=>g3_ g [.T,3,.v (.bd []) [] (.sl 1 (([k]:L_ Int).map Qb)),.app ((u++([k]:L_ Int)).map Qb) (u++([k]:L_ Int)).length,3] Z f Z ⟨Qc,Jf p Qc,XY,Jw Qc⟩<|me_ h Z) λf h=>J g [.F,2] Z f<|me_ h Z) λe h=>H g [4] Z<|rN_ h Z) λa h=>J g [.F,2] Z a<|rX_ h Z) λw h=>H g [9,.K [4] [19],.ren 19 600] Z<|E h Z r1_
def Hw (b:QN)(a:Int):O_ Bool:=some ((0<=a)&&(a<(b.States.length:Int)))
def Sr (d c):CT 70 [.agg (QF d),.I c] [] (Hw d c) V.b no_:=
 W 14 func70 Z λC e r h=>H e [7] Z<|Y ⟨[(4,.b ((0<=c)&&(c<(d.States.length:Int))))],[]⟩ (H e [4] Z<|bO_ (decide (0<=c)) (λa=>G e [.S 7 (.b true),3,.o (.ln d.States.length),4,.S 4 (.b ((0<=c)&&(c<(d.States.length:Int))))] Z ⟨⟨(tc_ a),Qc⟩,(cb_ (Yx a Z))⟩<|M Z) λa=>G e [.S 7 (.b false),8,.S 4 (.b ((0<=c)&&(c<(d.States.length:Int))))] Z ⟨(tc_ a),(cb_ (KL a Z))⟩<|M Z)<|H e [2] Z<|E h Z U
def Ss (a:QN)(b:QZ):O_ Bool:=(Hw a b.From).bind λc=>bif c then (Hw a b.To).bind λd=>some d else some false
def Su (a:Bool):O_ Bool:=some a
def LG (a:QN)(b:QZ):O_ Bool:=(Ss a b).bind (λc=>Su c)
def Qd9 (f k):CT 73 [.agg (QF f),.agg (Xb k)] [] (LG f k) V.b no_:=
 W 15 func73 Z λC e r h=>H e [8] Z<|mV_ h (λg=>⟨[(4,.b g)],[]⟩) (λg h=>B h λl i h=>K e [1,.A (QF f),2,.o (.C2 (.b l)),1] Z Z (Sr _ _ _ i)<|I h (λa h=>B h λm j h=>G e [.S 9 (.b true),.A (QF f),2,.o (.C2 (.b m)),3] Z ⟨⟨(tc_ a),Z⟩,(Sr _ _ _ j)⟩<|mq_ h Z) λa h=>L e [.S 9 (.b false),7] Z a<|mq_ h Z) λg h=>H e [2] Z<|E h Z U
def IX (a:(L_ Qw))(b:Qw):O_ (L_ Qw):=(chk (a.length+([b]:L_ Qw).length<=4294967296)).bind λ_=>some (a++[b])
def Qas (b c):CT 359 [.L 618,.ifc 160 (.agg (Qm c))] [(618,.var [.own 616 b.length]),(616,.arr 2 (b.map Qm))] (IX b c) (λ_=>(.tup [])) (λr=>[(616,.arr 2 (r.map Qm)),(618,.var [.own 616 r.length])]):=by
 refine W 13 func359 rfl λC d r h=>?_
 obtain⟨e,h⟩:=RX h
 refine tg_ d [.K [0,1] [616,618]] ?_
 refine AK.draw2 Qt d mixed [.a .no none true,.N,.N,.N,.N,.N,.a (.bd []) (some ([],.sl 2 (([c]:L_ Qw).map Qm))) false,.m (.app ((b++[c]).map Qm) (b++[c]).length),.N,.m .s] [0,1] [] [] [616,618] rfl rfl rfl ⟨⟨U,rfl⟩,⟨Qc,Jf e Qc,XY,Jw Qc⟩⟩ rfl (by kernel_rfl) rfl rfl rfl ?_
 refine Qo d [.O 618 (.var [.own 616 (b++[c]).length]),.K [] [616,618]] Z (A Z) ?_
 cases h
 refine AK.done ?_
 exact ex_ [] (an_ U (gives r2_))
def Uf (a:(L_ Qw)):O_ Int:=some (a.length:Int)
def NX (a):CT 111 [.own 618 a.length] [(618,.arr 2 (a.map Qm))] (Uf a) V.I (λ_=>[(618,.arr 2 (a.map Qm))]):=
 W 5 func111 Z λC b r h=>H b [13] Z<|E h Z r1_
def DD (a:(L_ Qw))(b:Int)(c:Int):O_ Bool:=(idx a b).bind λd=>(idx a c).bind λe=>some (decide (d.far<e.far))
def Ce (e g i):CT 356 [.own 618 e.length,.I g,.I i] [(618,.arr 2 (e.map Qm))] (DD e g i) V.b (λ_=>[(618,.arr 2 (e.map Qm))]):=
 W 18 func356 Z λC f r h=>B h λj c h=>B h λk d h=>H f [6,.K [0,1,2,6] [618]] Z <| 
  dr_ f [.N,.N,.N,.N,.B (.row (Qm j)),.N,.N,.N,.N,.B (.row (Qm k)),.N,.m .s] [] [] [6] [618] Z Z (a4_ (YN c Z) (XU (Jr c).2) (YN d Z) (XU (Jr d).2)) Z <|
  H f [2] Z<|E h Z r1_
def DE (a:(L_ Qw))(b:Int)(c:Int):O_ (L_ Qw):=(idx a c).bind λd=>(idx a b).bind λe=>(idx a b).bind λf=>(idx (a.set b.toNat d) c).bind λg=>some ((a.set b.toNat d).set c.toNat e)
def Cf (b g j):CT 357 [.own 618 b.length,.I g,.I j] [(618,.arr 2 (b.map Qm))] (DE b g j) (λ_=>(.tup [])) (λr=>[(618,.arr 2 (r.map Qm))]):=by
 refine W 20 func357 rfl λC k r h=>?_
 obtain⟨i,c,h⟩:=Qv h
 obtain⟨l,d,h⟩:=Qv h
 obtain⟨n,e,h⟩:=Qv h
 obtain⟨o,f,h⟩:=Qv h
 refine tg_ k [.K [0,1,2] [618]] ?_
 refine AK.draw2 Qt k mixed [.N,.N,.a .no none true,.a .no none true,.N,.N,.N,.a (.row (Qm i)) (some ([],.agg (Qm i))) false,.N,.N,.N,.a (.row (Qm l)) (some ([],.agg (Qm l))) false,.N,.m (.st (Qm n) ((b.set g.toNat i).map Qm)),.N,.m (.st (Qm o) (((b.set g.toNat i).set j.toNat l).map Qm))] [0,1,2] [] [] [618] rfl rfl rfl ⟨⟨⟨⟨⟨⟨⟨⟨⟨⟨U,(YN c rfl)⟩,(XU (Jr c).2)⟩,rfl⟩,(YN d rfl)⟩,(XU (Jr d).2)⟩,rfl⟩,(YN e rfl)⟩,⟨(XU (Jr e).2),Bf rfl⟩⟩,(YN f (by simp))⟩,⟨(XU (Jr f).2),Bf rfl⟩⟩ rfl (by kernel_rfl) rfl rfl rfl ?_
 refine tg_ k [.K [] [618]] ?_
 cases h
 refine AK.done ?_
 exact ex_ [] (an_ U (gives r1_))
def Lq (a:Int)(c:(L_ Qw)):O_ Bool:=bif ((Qi (Int.tdiv (Qi (a-1)) 2))==a)then some true else (DD c a (Qi (Int.tdiv (Qi (a-1)) 2))).bind λb=>some (!b)
def Gn (b:(L_ Qw))(c:Int)(d:Bool):O_ ((Int×(L_ Qw))⊕(L_ Qw)):=bif d then some (.inr b)else (DE b (Qi (Int.tdiv (Qi (c-1)) 2)) c).bind λa=>(chk (a.length=b.length)).bind λ_=>some (.inl ((Qi (Int.tdiv (Qi (c-1)) 2)),a))
def Gp (b:Int)(c:(L_ Qw)):O_ ((Int×(L_ Qw))⊕(L_ Qw)):=(Lq b c).bind (λa=>Gn c b a)
def Lr (a:(L_ Qw)):O_ (L_ Qw):=some a
def Uq (a:(L_ Qw))(b:Int):O_ (L_ Qw):=(QD (λst=>Gp st.1 st.2) (b,a)).bind (λq=>Lr q)
def VC (u w):CT 165 [.ifc 158 (.L 618),.I w] [(618,.var [.own 616 u.length]),(616,.arr 2 (u.map Qm))] (Uq u w) (λ_=>(.tup [])) (λr=>[(616,.arr 2 (r.map Qm)),(618,.var [.own 616 r.length])]):=by
 refine W 23 func165 rfl λC f r h=>?_
 refine tg_ f [1,.K [0,1] [616,618]] ?_
 obtain⟨x,i,h⟩:=Qv h
 refine AK.loop (body:=(λst=>Gp st.1 st.2)) (λst σ=>σ=⟨[(0,.ifc 158 (.L 618)),(1,.I st.1)],[(616,.arr 2 (st.2.map Qm)),(618,.var [.own 616 st.2.length])]⟩) (λq e σ=>e=.exit 0/\σ=⟨[],[(616,.arr 2 (q.map Qm)),(618,.var [.own 616 q.length])]⟩) i rfl ?_ ?_
 ·rintro ⟨t,j⟩ o σ rfl h
  refine Qo f [11] Z (A (by decide)) ?_
  obtain⟨g,k,h⟩:=Qv h
  replace h:Gn j t g=some o:=h
  refine AK.meetX (λσ=>σ=⟨[(0,.ifc 158 (.L 618)),(1,.I t),(4,.I (Qi (Int.tdiv (Qi (t-1)) 2))),(17,.b g)],[(616,.arr 2 (j.map Qm)),(618,.var [.own 616 j.length])]⟩) ?_ ?_
  ·replace h:=k
   refine tg_ f [5] ?_
   rcases XN h with⟨a,h⟩|⟨a,h⟩
   ·refine Qo f [.S 11 (.b true),7,.K [0,1,4,17] [616,618]] Z (tc_ a) ?_
    cases h
    exact mt_
   obtain⟨v,l,h⟩:=Qv h
   refine Qo f [.S 11 (.b false),3,.cm (.mv 356 156) [(618,616)] [(616,618)] [] [.d,.d,.d] [(618,.arr 2 (j.map Qm))] (.b v),3,.K [0,1,4,17] [616,618]] Z ⟨⟨(tc_ a),Vs⟩,(Ce _ _ _ _ l)⟩ ?_
   cases h
   exact mt_
  rintro σ rfl
  replace h:Gn j t g=some o:=h
  refine tg_ f [1] ?_
  rcases XN h with⟨c,h⟩|⟨c,h⟩
  ·refine Qo f [.T,3,.K [] [616,618]] Z (A c) ?_
   cases h
   exact ZX Z (an_ Z Z)
  obtain⟨m,p,h⟩:=Qv h
  obtain⟨s,h⟩:=RX h
  refine Qo f [.F,7,.cm (.mv 357 156) [(618,616)] [(616,618)] [] [.d,.d,.d] [(618,.arr 2 (m.map Qm))] (.tup []),.O 618 (.var [.own 616 m.length]),7,.K [0,1] [616,618]] Z (a4_ c Vt (Cf _ _ _ _ p) (by simp[Xs s])) ?_
  cases h
  exact Vp Z Z
 replace h:Lr x=some r:=h
 rintro e σ ⟨rfl,rfl⟩
 refine tg_ f [1,.K [] [616,618]] ?_
 cases h
 refine AK.done ?_
 exact ex_ [] (an_ U (gives r2_))
def WV (b:(L_ Qw))(c:Qw):O_ (L_ Qw):=(IX b c).bind λa=>(Uf a).bind λd=>(Uq a (Qi (d-1))).bind λe=>some e
def Hx (a g):CT 110 [.ifc 158 (.L 618),.ifc 160 (.agg (Qm g))] [(618,.var [.own 616 a.length]),(616,.arr 2 (a.map Qm))] (WV a g) (λ_=>(.tup [])) (λr=>[(616,.arr 2 (r.map Qm)),(618,.var [.own 616 r.length])]):=by
 refine W 12 func110 rfl λC j r h=>?_
 obtain⟨b,c,h⟩:=Qv h
 obtain⟨k,e,h⟩:=Qv h
 obtain⟨i,f,h⟩:=Qv h
 refine Qo j [4,.cm (.me 359) [(618,618),(616,616)] [(616,616),(618,618)] [616] [.d,.d] [(616,.arr 2 (b.map Qm)),(618,.var [.own 616 b.length])] (.tup []),5,.cm (.mv 111 156) [(618,616)] [(616,618)] [] [.d] [(618,.arr 2 (b.map Qm))] (.I k),1,.cm (.fn) [(618,618),(616,616)] [(616,616),(618,618)] [616] [.d,.d] [(616,.arr 2 (i.map Qm)),(618,.var [.own 616 i.length])] (.tup []),1,.K [] [616,618]] Z (a5_ QiQ (Qas _ _ _ c) Qe3 (NX _ _ e) (VC _ _ _ f)) ?_
 cases h
 refine AK.done ?_
 exact ex_ [] (an_ U (gives r2_))
def Fh (a:(L_ Qw)):O_ Int:=some (a.length:Int)
def VD (a):CT 111 [.sl 2 (a.map Qm)] [] (Fh a) V.I no_:=
 W 5 func111 Z λC b r h=>J b [8,.o (.ln a.length),4] Z Qc<|E h Z U
def KU (c:(L_ Qw))(d:Int)(a:Int):O_ ((Int×(L_ Qw))⊕(Int×(L_ Qw))):=(DD c a d).bind λe=>bif (!e)then some (.inr (d,c))else (DE c d a).bind λb=>(chk (b.length=c.length)).bind λ_=>some (.inl (a,b))
def Ug (a:Int)(c:Int)(d:(L_ Qw)):O_ Bool:=bif ((Qi ((Qi ((Qi (2*a))+1))+1))<c)then (DD d (Qi ((Qi ((Qi (2*a))+1))+1)) (Qi ((Qi (2*a))+1))).bind λb=>some b else some false
def KV (c:(L_ Qw))(a:Int)(b:Bool):O_ ((Int×(L_ Qw))⊕(Int×(L_ Qw))):=bif b then KU c a (Qi ((Qi ((Qi (2*a))+1))+1))else KU c a (Qi ((Qi (2*a))+1))
def Uh (d:Int)(a:Int)(b:(L_ Qw)):O_ ((Int×(L_ Qw))⊕(Int×(L_ Qw))):=
 bif ((d<=(Qi ((Qi (2*a))+1)))||((Qi ((Qi (2*a))+1))<0))then
 some (.inr (a,b))
 else
 (Ug a d b).bind (λc=>KV b a c)
def Sv (c:Int)(a:Int)(b:(L_ Qw)):O_ (Bool×(L_ Qw)):=some ((decide (c<a)),b)
def WW (b:(L_ Qw))(a:Int)(c:Int):O_ (Bool×(L_ Qw)):=(QD (λst=>Uh c st.1 st.2) (a,b)).bind (λq=>Sv a q.1 q.2)
def Sw (y p k):CT 166 [.ifc 158 (.L 618),.I p,.I k] [(618,.var [.own 616 y.length]),(616,.arr 2 (y.map Qm))] (WW y p k) (λr=>(.b r.1)) (λr=>[(616,.arr 2 (r.2.map Qm)),(618,.var [.own 616 r.2.length])]):=
 W 48 func166 Z λC a r h=>H a [13] Z<|lp_ h (λst=>⟨[(0,.ifc 158 (.L 618)),(1,.I p),(2,.I k),(7,.I st.1)],[(616,.arr 2 (st.2.map Qm)),(618,.var [.own 616 st.2.length])]⟩) (λq=>(.exit 0,⟨[(1,.I p),(7,.I q.1)],[(616,.arr 2 (q.2.map Qm)),(618,.var [.own 616 q.2.length])]⟩)) Z (λ⟨e,l⟩ o h=>H a [11] Z<|Y ⟨[(0,.ifc 158 (.L 618)),(1,.I p),(2,.I k),(7,.I e),(8,.I (Qi ((Qi (2*e))+1))),(21,.b ((k<=(Qi ((Qi (2*e))+1)))||((Qi ((Qi (2*e))+1))<0)))],[(616,.arr 2 (l.map Qm)),(618,.var [.own 616 l.length])]⟩ (H a [5] Z<|bO_ (decide (k<=(Qi ((Qi (2*e))+1)))) (λc=>G a [.S 18 (.b true),4,.S 21 (.b ((k<=(Qi ((Qi (2*e))+1)))||((Qi ((Qi (2*e))+1))<0)))] Z ⟨(tc_ c),(cb_ (Eh c Z))⟩<|M Z) λc=>G a [.S 18 (.b false),4,.S 21 (.b ((k<=(Qi ((Qi (2*e))+1)))||((Qi ((Qi (2*e))+1))<0)))] Z ⟨(tc_ c),(cb_ (Ji c Z))⟩<|M Z)<|H a [1] Z<|I h (λf h=>J a [.T,3] Z f<|rX_ h Z) λf h=>J a [.F,8] Z f<|mE_ (λm:Int=>⟨[(0,.ifc 158 (.L 618)),(1,.I p),(2,.I k),(7,.I e),(9,.I m)],[(616,.arr 2 (l.map Qm)),(618,.var [.own 616 l.length])]⟩) (λm=>KU l e m=some o) (H a [8] Z<|mV_ h (λs=>⟨[(0,.ifc 158 (.L 618)),(1,.I p),(2,.I k),(7,.I e),(9,.I (Qi ((Qi (2*e))+1))),(10,.I (Qi ((Qi ((Qi (2*e))+1))+1))),(33,.b s)],[(616,.arr 2 (l.map Qm)),(618,.var [.own 616 l.length])]⟩) (λs h=>H a [5] Z<|I h (λg h=>B h λz t h=>G a [.S 28 (.b true),3,.cm (.mv 356 156) [(618,616)] [(616,618)] [] [.d,.d,.d] [(618,.arr 2 (l.map Qm))] (.b z),2] Z ⟨⟨(tc_ g),Vs⟩,(Ce _ _ _ _ t)⟩<|mq_ h Z) λg h=>L a [.S 28 (.b false),6] Z g<|mq_ h Z) λs h=>H a [1] Z<|I h (λi h=>J a [.T,4] Z i<|me_ h Z) λi h=>J a [.F,1] Z i<|me_ h Z) λm h=>B h λD u h=>K a [6,.cm (.mv 356 156) [(618,616)] [(616,618)] [] [.d,.d,.d] [(618,.arr 2 (l.map Qm))] (.b D),3] Z Vs (Ce _ _ _ _ u)<|I h (λj h=>J a [.T,3] Z j<|rX_ h Z) λj h=>B h λv w h=>X h λx h=>g4_ a [.F,7,.cm (.mv 357 156) [(618,616)] [(616,618)] [] [.d,.d,.d] [(618,.arr 2 (v.map Qm))] (.tup []),.O 618 (.var [.own 616 v.length]),7] Z j Vt (Cf _ _ _ _ w) (by simp[Xs x])<|rN_ h Z) λ⟨N,P⟩ h=>H a [11] Z<|E h Z r2_
def Mv (a:(L_ Qw)):O_ (Qw×(L_ Qw)):=(idx a (Qi ((a.length:Int)-1))).bind λb=>(chk (decide (0<=(Qi ((a.length:Int)-1)))&&decide ((Qi ((a.length:Int)-1)).toNat<=a.length))).bind λ_=>some (b,(a.take (Qi ((a.length:Int)-1)).toNat))
def Qa4 (b):CT 358 [.L 618] [(618,.var [.own 616 b.length]),(616,.arr 2 (b.map Qm))] (Mv b) (λr=>(.ifc 160 (.agg (Qm r.1)))) (λr=>[(616,.arr 2 (r.2.map Qm)),(618,.var [.own 616 r.2.length])]):=by
 refine W 27 func358 rfl λC d r h=>?_
 obtain⟨f,e,h⟩:=Qv h
 refine tg_ d [6,.K [0] [616,618]] ?_
 refine AK.draw2 Qt d mixed [.N,.N,.N,.N,.N,.N,.N,.N,.N,.a (.row (Qm f)) (some ([],.agg (Qm f))) false,.N,.m .s] [] [] [0,3] [3,616,618] rfl rfl rfl ⟨⟨⟨U,(YN e rfl)⟩,(XU (Jr e).2)⟩,rfl⟩ rfl (by kernel_rfl) rfl rfl rfl ?_
 obtain⟨c,h⟩:=RX h
 refine Qo d [.O 3 (.var (Qm f)),2,.K [0,3] [3,616,618]] Z (A Z) ?_
 have g:(Qi ((b.length:Int)-1)).toNat=(b.take (Qi ((b.length:Int)-1)).toNat).length:=by rw[Wo,Cw (Xs (Hc c))]
 exact 
   dr_ d [.a .no none true,.N,.N,.N,.N,.N,.N,.N,.N,.m (.any ⟨[],[(616,.arr 2 ((b.take (Qi ((b.length:Int)-1)).toNat).map Qm))],some (23,.own 616 (Qi ((b.length:Int)-1)).toNat)⟩),.N,.m .s] [0,3] [3,618] [3] [3,616,618] Z Z (A (λσ i j=>Stp.sliceO Z Z (QR d.n Z) (i _ _ Z) (j _ _ Z) (Qt.es Z) EO.no (EO.val (i _ _ Z) (Xs (RT c)) Z) (Xs (Hc c)) (by simp))) Z <|
   g3_ d [.O 618 (.var [.own 616 (Qi ((b.length:Int)-1)).toNat]),3,.A (Qm f),5,.O 618 (.var [.own 616 (b.take (Qi ((b.length:Int)-1)).toNat).length])] Z Z Z (congrArg (λn=>Ob.var [.own 616 n]) (by rw[<-g]))<|E h Z r2_
def EF (a:(L_ Qw)):O_ (Qw×(L_ Qw)):=(Uf a).bind λb=>(DE a 0 (Qi (b-1))).bind λc=>(chk (c.length=a.length)).bind λ_=>(WW c 0 (Qi (b-1))).bind λe=>(Mv e.2).bind λd=>some (d.1,d.2)
def SZ (a):CT 112 [.ifc 158 (.L 618)] [(618,.var [.own 616 a.length]),(616,.arr 2 (a.map Qm))] (EF a) (λr=>(.ifc 160 (.agg (Qm r.1)))) (λr=>[(616,.arr 2 (r.2.map Qm)),(618,.var [.own 616 r.2.length])]):=
 W 15 func112 Z λC m r h=>B h λo c h=>B h λl e h=>X h λf h=>B h λg i h=>B h λj k h=>G m [8,.cm (.mv 111 156) [(618,616)] [(616,618)] [] [.d] [(618,.arr 2 (a.map Qm))] (.I o),8,.cm (.mv 357 156) [(618,616)] [(616,618)] [] [.d,.d,.d] [(618,.arr 2 (l.map Qm))] (.tup []),.O 618 (.var [.own 616 l.length]),6,.cm (.fn) [(618,618),(616,616)] [(616,616),(618,618)] [616] [.d,.d,.d] [(616,.arr 2 (g.2.map Qm)),(618,.var [.own 616 g.2.length])] (.b g.1),5,.cm (.me 358) [(618,618),(616,616)] [(616,616),(618,618)] [616] [.d] [(616,.arr 2 (j.2.map Qm)),(618,.var [.own 616 j.2.length])] (.ifc 160 (.agg (Qm j.1))),4] Z (a8_ Qe3 (NX _ _ c) Vt (Cf _ _ _ _ e) (by simp[Xs f]) (Sw _ _ _ _ i) QjN (Qa4 _ _ k))<|E h Z r2_
def LH (b:Int)(a:(L_ (Int×LI_))):O_ ((Int×(L_ (Int×LI_)))⊕(L_ (Int×LI_))):=some (.inl ((Qi (b+1)),a))
def LI (d:QN)(c:Int)(b:(L_ (Int×LI_))):O_ ((Int×(L_ (Int×LI_)))⊕(L_ (Int×LI_))):=bif (c<(d.Edges.length:Int))then (idx d.Edges c).bind λa=>(LG d a).bind λe=>bif e then (chk (((Qq b a.To).getD []).length+([a.From]:L_ Int).length<=4294967296)).bind λ_=>LH c (XD KM b a.To (((Qq b a.To).getD [])++[a.From]))else LH c b else some (.inr b)
def CJ (c:QN)(a:Int)(b:LI_):O_ ((Int×LI_)⊕LI_):=bif (a<((List.replicate (c.States.length:Int).toNat (0:Int)).length:Int))then (idx b a).bind λd=>some (.inl ((Qi (a+1)),(b.set a.toNat (-1))))else some (.inr b)
def LJ (a:Int)(b:(L_ Qw)):O_ ((Int×(L_ Qw))⊕(L_ Qw)):=some (.inl ((Qi (a+1)),b))
def LK (a:LI_)(g:QN)(b:Int)(c:(L_ Qw)):O_ ((Int×(L_ Qw))⊕(L_ Qw)):=bif (b<(a.length:Int))then (idx a b).bind λd=>(Hw g d).bind λe=>bif e then (WV c (Qw.mk d 0)).bind λf=>LJ b f else LJ b c else some (.inr c)
def LL (f:(L_ (Int×LI_)))(a:(Qw×(L_ Qw)))(b:Int)(c:(L_ Qw)):O_ ((Int×(L_ Qw))⊕(L_ Qw)):=bif (b<(((Qq f a.1.state).getD ([]:LI_)).length:Int))then (idx ((Qq f a.1.state).getD ([]:LI_)) b).bind λd=>(WV c (Qw.mk d (Qi (a.1.far+1)))).bind λe=>some (.inl ((Qi (b+1)),e))else some (.inr c)
def Qhn (b:LI_)(a:(Qw×(L_ Qw)))(c:(L_ Qw)):O_ ((LI_×(L_ Qw))⊕LI_):=some (.inl ((b.set a.1.state.toNat a.1.far),c))
def LM (f:(L_ (Int×LI_)))(b:LI_)(c:(L_ Qw)):O_ ((LI_×(L_ Qw))⊕LI_):=(Fh c).bind λd=>bif (0<d)then (EF c).bind λa=>(idx b a.1.state).bind λe=>bif (0<=e)then some (.inl (b,a.2))else (idx b a.1.state).bind λg=>(QD (λst=>LL f a st.1 st.2) (0,a.2)).bind (λq=>Qhn b a q)else some (.inr b)
def Qho (a:LI_):O_ LI_:=some a
def Zd (c:(L_ (Int×LI_)))(a:LI_)(b:(L_ Qw)):O_ LI_:=(QD (λst=>LM c st.1 st.2) (a,b)).bind (λq=>Qho q)
def Ze (a:LI_)(c:QN)(d:(L_ (Int×LI_)))(b:LI_):O_ LI_:=(QD (λst=>LK a c st.1 st.2) (0,([]:L_ Qw))).bind (λq=>Zd d b q)
def Zf (b:QN)(a:LI_)(c:(L_ (Int×LI_))):O_ LI_:=(chk (decide (0<=(b.States.length:Int))&&decide ((b.States.length:Int)<=(b.States.length:Int))&&decide ((b.States.length:Int)<=4294967296))).bind λ_=>(QD (λst=>CJ b st.1 st.2) (0,(List.replicate (b.States.length:Int).toNat (0:Int)))).bind (λq=>Ze a b c q)
def Ns (b:QN)(a:LI_):O_ LI_:=(QD (λst=>LI b st.1 st.2) (0,([]:(L_ (Int×LI_))))).bind (λq=>Zf b a q)
def Qhp (s g):CT 68 [.agg (QF s),.sl 1 (g.map Qb)] [] (Ns s g) (λr=>(.own 600 r.length)) (λr=>[(600,.arr 1 (r.map Qb))]):=
 W 104 func68 Z λC p r h=>g3_ p [8,.x (λσ=>(σ.set 16 (.grp 1 [] none)).put 16 (.map 16)),.O 16 (.grp 1 (BX V.I Qb ([]:(L_ (Int×LI_)))) none),8,.o (.ln s.Edges.length),4] Z (Stp.makeGrp 1 Z Z (QR p.n Z) Z) Z Qc<|lp_ h (λst=>⟨[(1,.sl 1 (g.map Qb)),lk_ 2,(5,.map 16),(18,.sl 6 (s.Edges.map Xb)),(19,.I (s.Edges.length:Int)),(20,.I st.1)],[(2,.var (QF s)),(16,.grp 1 (BX V.I Qb st.2) none)]⟩) (λq=>(.exit 0,⟨[(1,.sl 1 (g.map Qb)),lk_ 2,(5,.map 16)],[(2,.var (QF s)),(16,.grp 1 (BX V.I Qb q) none)]⟩)) Z (λ⟨x5,m6⟩ o h=>H p [6] Z<|I h (λy h=>J p [.T,2] Z y<|mE_ (λa6:(L_ (Int×LI_))=>⟨[(1,.sl 1 (g.map Qb)),lk_ 2,(5,.map 16),(18,.sl 6 (s.Edges.map Xb)),(19,.I (s.Edges.length:Int)),(20,.I x5)],[(2,.var (QF s)),(16,.grp 1 (BX V.I Qb a6) none)]⟩) (λa6=>LH x5 a6=some o) (B h λj b0 h=>B h λc8 b1 h=>G p [3,.o (.row (Xb j)),.A (Xb j),2,.O 7 (.var (Xb j)),4,.A (QF s),.A (Xb j),.o (.C2 (.b c8)),2] Z (a6_ (Xi b0) Z Z Z Z (Qd9 _ _ _ b1))<|I h (λD h=>X h λb2 h=>G p [.T,.K [1,2,5,7,18,19,20] [2,7,16]] Z (A D) <| 
  dr_ p [.a .no none true,.a .no none true,.a .no none true,.N,.N,.N,.m (.any ⟨[33],[(33,.arr 1 (((Qq m6 j.To).getD []).map Qb)),(16,.grp 1 (BX V.I Qb m6) (some (V.I j.To)))],some (33,.own 33 ((Qq m6 j.To).getD []).length)⟩),.a .no none true,.a .no none true,.a (.bd []) (some ([],.sl 1 (([j.From]:L_ Int).map Qb))) true,.m (.app ((((Qq m6 j.To).getD [])++[j.From]).map Qb) (((Qq m6 j.To).getD [])++[j.From]).length),.m (.any ⟨[33],[(16,.grp 1 (BX V.I Qb (XD KM m6 j.To (((Qq m6 j.To).getD [])++[j.From]))) none)],none⟩)] [1,2,5,7,18,19,20] [2,7] [1,2,5,18,19,20] [2,16] Z Z (a4_ (λσ h1 h2=>Stp.lookupOutT (e:=V.I) (f:=Qb) (l:=m6) (k:=j.To) Z Z (QR p.n Z) (h1 _ _ Z) (h2 _ _ Z) (h1 _ _ Z) VT KN Qm1 Z Z Z Z Z) Z ⟨Qc,Jf b2 Qc,XY,Jw Qc⟩ (λσ h1 h2=>Stp.updateBackT (e:=V.I) (f:=Qb) (l:=m6) (k:=j.To) (((Qq m6 j.To).getD [])++[j.From]) KM Z Z (h1 _ _ Z) (h2 _ _ Z) (h1 _ _ Z) (h1 _ _ Z) (h2 _ _ Z) VT KN Z Z Z Z Z (by simp))) Z <|
  H p [1] Z<|me_ h Z) λD h=>J p [.F,2] Z D<|me_ h Z) λa6 h=>H p [4] Z<|rN_ h Z) λy h=>J p [.F,2] Z y<|rX_ h Z) λt h=>X h λb3 h=>g3_ p [6,.o (.ln s.States.length),.o (.rows ((List.replicate (s.States.length:Int).toNat (0:Int)).map Qb)),.S 42 (.own 42 (List.replicate (s.States.length:Int).toNat (0:Int)).length),12] Z Qc ⟨b3,QhQ Z⟩ (by simp)<|AK.grpMap (b:=16) (e:=V.I) (f:=Qb) (l:=t) KN Z Z<|J p [.O 16 (.map (QB V.I (λx=>V.sl 1 (x.map Qb)) t))] Z Z<|lp_ h (λst=>⟨[(1,.sl 1 (g.map Qb)),lk_ 2,(5,.map 16),(8,.own 42 st.2.length),(44,.I ((List.replicate (s.States.length:Int).toNat (0:Int)).length:Int)),(45,.I st.1)],[(2,.var (QF s)),(16,.map (QB V.I (λx=>V.sl 1 (x.map Qb)) t)),(42,.arr 1 (st.2.map Qb))]⟩) (λq=>(.exit 2,⟨[(1,.sl 1 (g.map Qb)),lk_ 2,(5,.map 16),(8,.own 42 q.length)],[(2,.var (QF s)),(16,.map (QB V.I (λx=>V.sl 1 (x.map Qb)) t)),(42,.arr 1 (q.map Qb))]⟩)) Z (λ⟨b4,b5⟩ o h=>H p [6] Z<|I h (λP h=>B h λc9 a7 h=>g4_ p [.T,14,.st (Qb c9) ((b5.set b4.toNat (-1)).map Qb),7,.S 8 (.own 42 (b5.set b4.toNat (-1)).length)] Z P (YN a7 Z) ⟨(XU (Jr a7).2),Bf Z⟩ (congrArg (λn=>V.own 42 n) (by simp))<|rN_ h Z) λP h=>J p [.F,2] Z P<|rX_ h Z) λu h=>g3_ p [11,.o (.ln g.length),4,.adoptO 10 0 607 2,.O 607 (.arr 2 (([]:L_ Qw).map Qm)),.O 10 (.var [.own 607 ([]:L_ Qw).length])] Z Qc Z (congrArg (λn=>Ob.var [.own 607 n]) (by simp))<|lp_ h (λst=>⟨[lk_ 2,(5,.map 16),(8,.own 42 u.length),lk_ 10,(52,.sl 1 (g.map Qb)),(53,.I (g.length:Int)),(54,.I st.1)],[(2,.var (QF s)),(10,.var [.own 607 st.2.length]),(16,.map (QB V.I (λx=>V.sl 1 (x.map Qb)) t)),(42,.arr 1 (u.map Qb)),(607,.arr 2 (st.2.map Qm))]⟩) (λq=>(.exit 4,⟨[(5,.map 16),(8,.own 42 u.length),lk_ 10],[(10,.var [.own 607 q.length]),(16,.map (QB V.I (λx=>V.sl 1 (x.map Qb)) t)),(42,.arr 1 (u.map Qb)),(607,.arr 2 (q.map Qm))]⟩)) Z (λ⟨b6,d5⟩ o h=>H p [6] Z<|I h (λa0 h=>J p [.T,2] Z a0<|mE_ (λa1:(L_ Qw)=>⟨[lk_ 2,(5,.map 16),(8,.own 42 u.length),lk_ 10,(52,.sl 1 (g.map Qb)),(53,.I (g.length:Int)),(54,.I b6)],[(2,.var (QF s)),(10,.var [.own 607 a1.length]),(16,.map (QB V.I (λx=>V.sl 1 (x.map Qb)) t)),(42,.arr 1 (u.map Qb)),(607,.arr 2 (a1.map Qm))]⟩) (λa1=>LJ b6 a1=some o) (B h λb7 b8 h=>B h λd0 b9 h=>g3_ p [3,.o (.row (Qb b7)),6,.A (QF s),1,.o (.C2 (.b d0)),2] Z (Xi b8) Z (Sr _ _ _ b9)<|I h (λa2 h=>B h λc0 c1 h=>g3_ p [.T,3,.A (Qm (Qw.mk b7 0)),1,.cm (.fn) [(618,10),(616,607)] [(607,616),(10,618)] [607] [.d,.d] [(616,.arr 2 (c0.map Qm)),(618,.var [.own 616 c0.length])] (.tup []),2] Z a2 Z (Hx _ _ _ c1)<|me_ h Z) λa2 h=>J p [.F,2] Z a2<|me_ h Z) λa1 h=>H p [4] Z<|rN_ h Z) λa0 h=>J p [.F,2] Z a0<|rX_ h Z) λd6 h=>H p [4] Z<|lp_ h (λst=>⟨[(5,.map 16),(8,.own 42 st.1.length),lk_ 10],[(10,.var [.own 607 st.2.length]),(16,.map (QB V.I (λx=>V.sl 1 (x.map Qb)) t)),(42,.arr 1 (st.1.map Qb)),(607,.arr 2 (st.2.map Qm))]⟩) (λq=>(.exit 6,⟨[(8,.own 42 q.length)],[(42,.arr 1 (q.map Qb))]⟩)) Z (λ⟨w,d1⟩ o h=>B h λd2 c2 h=>J p [4,.o (.c true [.o (d1.map Qm)] (.I d2)),3] Z ⟨(VR Z),(VD _ _ c2)⟩<|I h (λa3 h=>B h λi c3 h=>B h λd3 a8 h=>G p [.T,6,.cm (.fn) [(618,10),(616,607)] [(607,616),(10,618)] [607] [.d] [(616,.arr 2 (i.2.map Qm)),(618,.var [.own 616 i.2.length])] (.ifc 160 (.agg (Qm i.1))),3,.O 13 (.var (Qm i.1)),9,.o (.row (Qb d3)),3] Z (a5_ a3 (SZ _ _ c3) Z (YN a8 Z) (XU (Jr a8).2))<|I h (λa4 h=>J p [.T,3] Z a4<|rN_ h Z) λa4 h=>B h λd4 a9 h=>G p [.F,10,.st (Qb d4) ((w.set i.1.state.toNat i.1.far).map Qb),7,.o (.any (.sl 1 (((Qq t i.1.state).getD ([]:LI_)).map Qb)) none),.o (.ln ((Qq t i.1.state).getD ([]:LI_)).length),4,.S 8 (.own 42 (w.set i.1.state.toNat i.1.far).length)] Z (a6_ a4 (YN a9 Z) ⟨(XU (Jr a9).2),Bf Z⟩ (λσ h1 h2 _=>Stp.lookup (e:=V.I) (f:=(λx=>V.sl 1 (x.map Qb))) (l:=t) (k:=i.1.state) (z:=([]:LI_)) Z Z (QR p.n Z) (h1 _ _ Z) (h2 _ _ Z) (h1 _ _ Z) VT KN Qm2 Z) Qc (congrArg (λn=>V.own 42 n) (by simp)))<|lp_ h (λst=>⟨[(5,.map 16),(8,.own 42 (w.set i.1.state.toNat i.1.far).length),lk_ 10,lk_ 13,(88,.sl 1 (((Qq t i.1.state).getD ([]:LI_)).map Qb)),(89,.I (((Qq t i.1.state).getD ([]:LI_)).length:Int)),(90,.I st.1)],[(10,.var [.own 607 st.2.length]),(13,.var (Qm i.1)),(16,.map (QB V.I (λx=>V.sl 1 (x.map Qb)) t)),(42,.arr 1 ((w.set i.1.state.toNat i.1.far).map Qb)),(607,.arr 2 (st.2.map Qm))]⟩) (λq=>(.exit 8,⟨[(5,.map 16),(8,.own 42 (w.set i.1.state.toNat i.1.far).length),lk_ 10],[(10,.var [.own 607 q.length]),(16,.map (QB V.I (λx=>V.sl 1 (x.map Qb)) t)),(42,.arr 1 ((w.set i.1.state.toNat i.1.far).map Qb)),(607,.arr 2 (q.map Qm))]⟩)) Z (λ⟨d7,d8⟩ o h=>H p [6] Z<|I h (λa5 h=>B h λc4 c5 h=>B h λc6 c7 h=>g4_ p [.T,6,.o (.row (Qb c4)),10,.A (Qm (Qw.mk c4 (Qi (i.1.far+1)))),1,.cm (.fn) [(618,10),(616,607)] [(607,616),(10,618)] [607] [.d,.d] [(616,.arr 2 (c6.map Qm)),(618,.var [.own 616 c6.length])] (.tup []),7] Z a5 (Xi c5) Z (Hx _ _ _ c7)<|rN_ h Z) λa5 h=>J p [.F,2] Z a5<|rX_ h Z) λd9 h=>H p [2] Z<|rN_ h Z) λa3 h=>J p [.F,2] Z a3<|rX_ h Z) λe0 h=>H p [9,.K [4] [42],.ren 42 600] Z<|E h Z r1_
def OV (b:Qe)(a:QN):O_ LI_:=(Nr b a).bind λc=>(Ns a c).bind λd=>some d
def Qgq (c b):CT 39 [.agg (Qa c),.agg (QF b)] [] (OV c b) (λr=>(.own 600 r.length)) (λr=>[(600,.arr 1 (r.map Qb))]):=
 W 10 func39 Z λC e r h=>B h λi f h=>B h λj g h=>H e [8,.K [2,3,4] [2,3]] Z <| 
  dr_ e [.E (.agg (QF b)),.E (.agg (Qa c)),.E (.agg (QF b)),.B (.cd false [.d,.d] 1 (i.map Qb) i.length),.B (.co false [.d,.d] 1 (j.map Qb) j.length),.m .s] [] [] [4] [9] Z Z (a5_ Z Z Z ⟨(Qfj _ _ _ f),Qc⟩ ⟨(Qhp _ _ _ g),Qc,.inl Z⟩) Z <|
  H e [2,.K [4] [9],.ren 9 600] Z<|E h Z r1_
def Im (b:Int)(a:LI_):O_ ((Int×LI_)⊕LI_):=some (.inl ((Qi (b+1)),a))
def Ow (d:LI_)(a:Int)(b:LI_):O_ ((Int×LI_)⊕LI_):=bif (a<(d.length:Int))then (idx d a).bind λc=>bif (c<0)then (chk (b.length+([a]:L_ Int).length<=4294967296)).bind λ_=>Im a (b++([a]:L_ Int))else Im a b else some (.inr b)
def Qgr (a:LI_):O_ LI_:=some a
def Ls (a:Qe)(b:QN):O_ LI_:=(OV a b).bind λc=>(QD (λst=>Ow c st.1 st.2) (0,([]:L_ Int))).bind (λq=>Qgr q)
def Qgs (k l):CT 89 [.agg (Qa k),.agg (QF l)] [] (Ls k l) (λr=>(.own 600 r.length)) (λr=>[(600,.arr 1 (r.map Qb))]):=
 W 25 func89 Z λC e r h=>B h λf m h=>G e [15,.A (Qa k),.A (QF l),.o (.co false [.d,.d] 1 (f.map Qb) f.length),5,.adopt 5 19 1,.O 19 (.arr 1 (([]:L_ Int).map Qb)),.S 5 (.own 19 ([]:L_ Int).length)] Z (a5_ Z Z ⟨(Qgq _ _ _ m),Qc,.inl Z⟩ Z (congrArg (λn=>V.own 19 n) (by simp)))<|lp_ h (λst=>⟨[(5,.own 19 st.2.length),(10,.own 10 f.length),(11,.I (f.length:Int)),(12,.I st.1)],[(10,.arr 1 (f.map Qb)),(19,.arr 1 (st.2.map Qb))]⟩) (λq=>(.exit 0,⟨[(5,.own 19 q.length)],[(19,.arr 1 (q.map Qb))]⟩)) Z (λ⟨i,s⟩ o h=>H e [6] Z<|I h (λa h=>J e [.T,2] Z a<|mE_ (λb:LI_=>⟨[(5,.own 19 b.length),(10,.own 10 f.length),(11,.I (f.length:Int)),(12,.I i)],[(10,.arr 1 (f.map Qb)),(19,.arr 1 (b.map Qb))]⟩) (λb=>Im i b=some o) (B h λp g h=>K e [5,.o (.row (Qb p)),10] Z (YN g Z) (XU (Jr g).2)<|I h (λc h=>X h λj h=>g3_ e [.T,3,.v (.bd []) [] (.sl 1 (([i]:L_ Int).map Qb)),.app ((s++([i]:L_ Int)).map Qb) (s++([i]:L_ Int)).length,3] Z c Z ⟨Qc,Jf j Qc,XY,Jw Qc⟩<|me_ h Z) λc h=>J e [.F,2] Z c<|me_ h Z) λb h=>H e [4] Z<|rN_ h Z) λa h=>J e [.F,2] Z a<|rX_ h Z) λt h=>H e [9,.K [4] [19],.ren 19 600] Z<|E h Z r1_
def WX (a:QS):O_ (Bool×Xr):=(Ls a.net a.space).bind λb=>bif ((b.length:Int)==0)then some (true,(Xr.mk 0 0 0 ([]:(L_ Qj))))else (idx b 0).bind λc=>(WD a.space c).bind λd=>some (false,(Xr.mk 2 2 0 d))
def Sx (e):CT 51 [.agg (Xc e)] [] (WX e) (λr=>(.tup [.agg (QE r.2),.b r.1])) no_:=by
 refine W 21 func51 rfl λC f r h=>?_
 obtain⟨l,j,h⟩:=Qv h
 refine Qo f [10,.A (Qa e.net),1,.A (QF e.space),.o (.co false [.d,.d] 1 (l.map Qb) l.length),11] Z (a3_ Z Z ⟨(Qgs _ _ _ j),Qc,.inl Z⟩) ?_
 rcases XN h with⟨c,h⟩|⟨c,h⟩
 ·refine Qo f [.T,2,.v .no [none,none,none,some 4] (.agg (QE (Xr.mk 0 0 0 ([]:(L_ Qj))))),1,.O 2 (.var (QE (Xr.mk 0 0 0 ([]:(L_ Qj))))),5,.K [2,3] [2]] Z (a3_ c Z Z) ?_
  cases h
  exact AK.done (ex_ [_,_] (an_ (an_ (ex_ _ (ex_ _ (an_ Z (an_ Z (Or.inl (an_ (Qt.ag Z) (an_ (Qt.sz Z) Z))))))) (an_ Z U)) (gives U)))
 obtain⟨p,g,h⟩:=Qv h
 obtain⟨i,k,h⟩:=Qv h
 refine Qo f [.F,3,.K [1,2,3,4] [1,2,9]] Z (A c) ?_
 refine AK.draw2 Qt f mixed [.N,.E (.agg (QF e.space)),.N,.N,.B (.row (Qb p)),.B (.cd false [.d,.d] 4 (i.map Qk) i.length),.E (.agg (QE (Xr.mk 2 2 0 i))),.m .s,.m .s] [] [] [2,3] [2] rfl rfl rfl ⟨⟨⟨⟨⟨U,rfl⟩,(YN g rfl)⟩,(XU (Jr g).2)⟩,⟨(TR _ _ _ k),Qc⟩⟩,rfl⟩ rfl (by kernel_rfl) rfl rfl rfl ?_
 refine Qo f [.O 2 (.var (QE (Xr.mk 2 2 0 i))),2,.K [2,3] [2]] Z (A Z) ?_
 cases h
 exact AK.done (ex_ [_,_] (an_ (an_ (ex_ _ (ex_ _ (an_ Z (an_ Z (Or.inl (an_ (Qt.ag Z) (an_ (Qt.sz Z) Z))))))) (an_ Z U)) (gives U)))
def Cg (d:QN)(b:Int)(c:LI_):O_ ((Int×LI_)⊕LI_):=bif (b<(d.Edges.length:Int))then (idx d.Edges b).bind λa=>(chk (c.length+([a.Mode.Task]:L_ Int).length<=4294967296)).bind λ_=>some (.inl ((Qi (b+1)),(c++([a.Mode.Task]:L_ Int))))else some (.inr c)
def Sy (c:LI_):O_ LI_:=(YA c).bind λa=>(chk (a.length=c.length)).bind λ_=>(KS a).bind λb=>some b
def CK (a:QN):O_ LI_:=(QD (λst=>Cg a st.1 st.2) (0,([]:L_ Int))).bind (λq=>Sy q)
def Qea (f):CT 20 [.agg (QF f)] [] (CK f) (λr=>(.own 600 r.length)) (λr=>[(600,.arr 1 (r.map Qb))]):=
 W 24 func20 Z λC g r h=>g3_ g [16,.o (.ln f.Edges.length),4,.adopt 3 13 1,.O 13 (.arr 1 (([]:L_ Int).map Qb)),.S 3 (.own 13 ([]:L_ Int).length)] Z Qc Z (congrArg (λn=>V.own 13 n) (by simp))<|lp_ h (λst=>⟨[(3,.own 13 st.2.length),(7,.sl 6 (f.Edges.map Xb)),(8,.I (f.Edges.length:Int)),(9,.I st.1)],[(13,.arr 1 (st.2.map Qb))]⟩) (λq=>(.exit 0,⟨[(3,.own 13 q.length)],[(13,.arr 1 (q.map Qb))]⟩)) Z (λ⟨s,p⟩ o h=>H g [6] Z<|I h (λc h=>B h λa i h=>X h λj h=>G g [.T,6,.o (.row (Xb a)),.A (Xb a),2,.O 5 (.var (Xb a)),7,.v (.bd []) [] (.sl 1 (([a.Mode.Task]:L_ Int).map Qb)),.app ((p++([a.Mode.Task]:L_ Int)).map Qb) (p++([a.Mode.Task]:L_ Int)).length,8] Z (a6_ c (Xi i) Z Z Z ⟨Qc,Jf j Qc,XY,Jw Qc⟩)<|rN_ h Z) λc h=>J g [.F,2] Z c<|rX_ h Z) λt h=>B h λe k h=>X h λb h=>B h λl m h=>g4_ g [5,.cm (.fn) [(618,13)] [(13,618)] [] [.d] [(618,.arr 1 (e.map Qb))] (.tup []),.S 3 (.own 13 e.length),.S 20 (.own 13 e.length),5,.cm (.fn) [(618,13)] [(13,618)] [] [.d] [(618,.arr 1 (l.map Qb))] (.own 618 l.length),4,.K [2] [13],.ren 13 600] Z (Dp _ k) (by simp[Xs b]) (by simp[Xs b]) (BQ _ m)<|E h Z r1_
def WY (b:Int)(a:LI_):O_ ((Int×LI_)⊕LI_):=some (.inl ((Qi (b+1)),a))
def Bx (d:QS)(e:LI_)(a:Int)(b:LI_):O_ ((Int×LI_)⊕LI_):=bif (a<(d.net.Tasks.length:Int))then (XO e a).bind λc=>bif (!c)then (chk (b.length+([a]:L_ Int).length<=4294967296)).bind λ_=>WY a (b++([a]:L_ Int))else WY a b else some (.inr b)
def Zg (a:LI_):O_ LI_:=some a
def GB (a:QS):O_ LI_:=(CK a.space).bind λb=>(QD (λst=>Bx a b st.1 st.2) (0,([]:L_ Int))).bind (λq=>Zg q)
def MC (j):CT 46 [.agg (Xc j)] [] (GB j) (λr=>(.own 600 r.length)) (λr=>[(600,.arr 1 (r.map Qb))]):=
 W 26 func46 Z λC g r h=>B h λi p h=>G g [9,.A (QF j.space),.o (.co false [.d] 1 (i.map Qb) i.length),14,.o (.ln j.net.Tasks.length),4,.adopt 4 20 1,.O 20 (.arr 1 (([]:L_ Int).map Qb)),.S 4 (.own 20 ([]:L_ Int).length)] Z (a5_ Z ⟨(Qea _ _ p),Qc,.inl Z⟩ Qc Z (congrArg (λn=>V.own 20 n) (by simp)))<|lp_ h (λst=>⟨[(3,.own 8 i.length),(4,.own 20 st.2.length),(12,.I (j.net.Tasks.length:Int)),(13,.I st.1)],[(8,.arr 1 (i.map Qb)),(20,.arr 1 (st.2.map Qb))]⟩) (λq=>(.exit 0,⟨[(4,.own 20 q.length)],[(20,.arr 1 (q.map Qb))]⟩)) Z (λ⟨k,t⟩ o h=>H g [6] Z<|I h (λa h=>J g [.T,2] Z a<|mE_ (λe:LI_=>⟨[(3,.own 8 i.length),(4,.own 20 e.length),(12,.I (j.net.Tasks.length:Int)),(13,.I k)],[(8,.arr 1 (i.map Qb)),(20,.arr 1 (e.map Qb))]⟩) (λe=>WY k e=some o) (B h λs l h=>J g [11,.o (.c true [.o (i.map Qb),.d] (.b s)),3] Z ⟨(VR Z),(Gd _ _ _ l)⟩<|I h (λf h=>X h λm h=>g3_ g [.T,3,.v (.bd []) [] (.sl 1 (([k]:L_ Int).map Qb)),.app ((t++([k]:L_ Int)).map Qb) (t++([k]:L_ Int)).length,3] Z f Z ⟨Qc,Jf m Qc,XY,Jw Qc⟩<|me_ h Z) λf h=>J g [.F,2] Z f<|me_ h Z) λe h=>H g [4] Z<|rN_ h Z) λa h=>J g [.F,2] Z a<|rX_ h Z) λu h=>H g [9,.K [2] [20],.ren 20 600] Z<|E h Z r1_
def Ur (b:QS):O_ (Bool×Xr):=(GB b).bind λa=>bif ((a.length:Int)==0)then some (true,(Xr.mk 0 0 0 ([]:(L_ Qj))))else (idx a 0).bind λc=>some (false,(Xr.mk 2 3 c ([]:(L_ Qj))))
def VE (e):CT 52 [.agg (Xc e)] [] (Ur e) (λr=>(.tup [.agg (QE r.2),.b r.1])) no_:=by
 refine W 15 func52 rfl λC f r h=>?_
 obtain⟨j,g,h⟩:=Qv h
 refine Qo f [9,.A (Xc e),.o (.co false [.d] 1 (j.map Qb) j.length),11] Z (a2_ Z ⟨(MC _ _ g),Qc,.inl Z⟩) ?_
 rcases XN h with⟨a,h⟩|⟨a,h⟩
 ·refine Qo f [.T,2,.v .no [none,none,none,some 4] (.agg (QE (Xr.mk 0 0 0 ([]:(L_ Qj))))),1,.O 2 (.var (QE (Xr.mk 0 0 0 ([]:(L_ Qj))))),5,.K [2,3] [2]] Z (a3_ a Z Z) ?_
  cases h
  exact AK.done (ex_ [_,_] (an_ (an_ (ex_ _ (ex_ _ (an_ Z (an_ Z (Or.inl (an_ (Qt.ag Z) (an_ (Qt.sz Z) Z))))))) (an_ Z U)) (gives U)))
 obtain⟨i,c,h⟩:=Qv h
 refine Qo f [.F,6,.o (.row (Qb i)),.v .no [none,none,none,some 4] (.agg (QE (Xr.mk 2 3 i ([]:(L_ Qj))))),1,.O 2 (.var (QE (Xr.mk 2 3 i ([]:(L_ Qj))))),4,.K [2,3] [2]] Z (a5_ a (YN c Z) (XU (Jr c).2) Z Z) ?_
 cases h
 exact AK.done (ex_ [_,_] (an_ (an_ (ex_ _ (ex_ _ (an_ Z (an_ Z (Or.inl (an_ (Qt.ag Z) (an_ (Qt.sz Z) Z))))))) (an_ Z U)) (gives U)))
def WI (c:Qe)(b:QN):O_ Xr:=bif (!b.Full)then some (Xr.mk 3 0 0 ([]:(L_ Qj)))else (Ai (QS.mk c b)).bind λd=>bif (!d.1)then some d.2 else (WX (QS.mk c b)).bind λe=>bif (!e.1)then some e.2 else (Ur (QS.mk c b)).bind λa=>bif (!a.1)then some a.2 else some (Xr.mk 1 0 0 ([]:(L_ Qj)))
def Qeb (e f):CT 26 [.agg (Qa e),.agg (QF f)] [] (WI e f) (λr=>(.agg (QE r))) no_:=by
 refine W 39 func26 rfl λC a r h=>?_
 refine tg_ a [15] ?_
 refine bg_ h (λk h=>Qo a [.T,2,.v .no [none,none,none,some 4] (.agg (QE (Xr.mk 3 0 0 ([]:(L_ Qj))))),1,.O 4 (.var (QE (Xr.mk 3 0 0 ([]:(L_ Qj))))),4,.K [4] [4]] rfl (a3_ k rfl rfl) ?_) λk h=>Qo a [.F,4,.A (Qa e),.A (QF f),.A (Xc (QS.mk e f)),2,.O 5 (.var (Xc (QS.mk e f))),5,.A (Xc (QS.mk e f)),1,.A (Xc (QS.mk e f)),1,.A (Xc (QS.mk e f)),1,.o (.any (.own 23 3) (some (.var [.clo (.func 50) [.agg (Xc (QS.mk e f))] [],.clo (.func 51) [.agg (Xc (QS.mk e f))] [],.clo (.func 52) [.agg (Xc (QS.mk e f))] []]))),5] rfl (a9_ k rfl rfl rfl rfl rfl rfl rfl (λσ j p D=>Stp.buildAny rfl rfl (QR a.n rfl) (Qt.es rfl) QkY rfl (by decide) (by decide) (DZ j rfl) rfl rfl (D rfl))) ?_
 ·cases h
  exact AK.done (ex_ [_] (an_ (an_ (ex_ _ (ex_ _ (an_ Z (an_ Z (Or.inl (an_ (Qt.ag Z) (an_ (Qt.sz Z) Z))))))) U) (gives U)))
 refine AK.loopN 4 (AK.rnd ?_)
 obtain⟨q,u,h⟩:=Qv h
 refine Qo a [2,.v .no [] (.b true),10,.o (.any (.L 23) none),7,.o (.C1 (.tup [.agg (QE q.2),.b q.1])),5,.O 8 (.var (QE q.2)),9] Z (a4_ Z (λσ j p _=>Stp.idxV Z Z (QR a.n Z) (j _ _ Z) (j _ _ Z) (Qt.es Z) (p _ _ Z) (by decide)) (Zc _ _ u) Z) ?_
 refine bg_ h (λl h=>Qo a [.T,2,.A (QE q.2),1,.O 4 (.var (QE q.2)),8,.K [4] [4]] rfl (a3_ l rfl rfl) ?_) λl h=>Qo a [.F,4,.v .no [] (.I 1),2] rfl (a2_ l rfl) ?_
 ·cases h
  exact AK.done (ex_ [_] (an_ (an_ (ex_ _ (ex_ _ (an_ Z (an_ Z (Or.inl (an_ (Qt.ag Z) (an_ (Qt.sz Z) Z))))))) U) (gives U)))
 refine AK.met (AK.rnd ?_)
 obtain⟨s,w,h⟩:=Qv h
 refine Qo a [2,.v .no [] (.b true),10,.o (.any (.loc 23 0 1) none),7,.o (.C1 (.tup [.agg (QE s.2),.b s.1])),3,.kill 8,2,.O 8 (.var (QE s.2)),9] Z (a4_ Z (λσ j p _=>Stp.idxV Z Z (QR a.n Z) (j _ _ Z) (j _ _ Z) (Qt.es Z) (p _ _ Z) (by decide)) (Sx _ _ w) Z) ?_
 refine bg_ h (λm h=>Qo a [.T,2,.A (QE s.2),1,.O 4 (.var (QE s.2)),8,.K [4] [4]] rfl (a3_ m rfl rfl) ?_) λm h=>Qo a [.F,4,.v .no [] (.I 2),2] rfl (a2_ m rfl) ?_
 ·cases h
  exact AK.done (ex_ [_] (an_ (an_ (ex_ _ (ex_ _ (an_ Z (an_ Z (Or.inl (an_ (Qt.ag Z) (an_ (Qt.sz Z) Z))))))) U) (gives U)))
 refine AK.met (AK.rnd ?_)
 obtain⟨g,t,h⟩:=Qv h
 refine Qo a [2,.v .no [] (.b true),10,.o (.any (.loc 23 0 2) none),7,.o (.C1 (.tup [.agg (QE g.2),.b g.1])),3,.kill 8,2,.O 8 (.var (QE g.2)),9] Z (a4_ Z (λσ j p _=>Stp.idxV Z Z (QR a.n Z) (j _ _ Z) (j _ _ Z) (Qt.es Z) (p _ _ Z) (by decide)) (VE _ _ t) Z) ?_
 refine bg_ h (λi h=>Qo a [.T,2,.A (QE g.2),1,.O 4 (.var (QE g.2)),8,.K [4] [4]] rfl (a3_ i rfl rfl) ?_) λi h=>Qo a [.F,4,.v .no [] (.I 3),2] rfl (a2_ i rfl) ?_
 ·cases h
  exact AK.done (ex_ [_] (an_ (an_ (ex_ _ (ex_ _ (an_ Z (an_ Z (Or.inl (an_ (Qt.ag Z) (an_ (Qt.sz Z) Z))))))) U) (gives U)))
 refine AK.met (AK.rnd ?_)
 refine Qo a [2,.v .no [] (.b false),11,.v .no [none,none,none,some 4] (.agg (QE (Xr.mk 1 0 0 ([]:(L_ Qj))))),1,.O 4 (.var (QE (Xr.mk 1 0 0 ([]:(L_ Qj))))),3,.K [4] [4]] Z (a3_ Z Z Z) ?_
 cases h
 exact AK.done (ex_ [_] (an_ (an_ (ex_ _ (ex_ _ (an_ Z (an_ Z (Or.inl (an_ (Qt.ag Z) (an_ (Qt.sz Z) Z))))))) U) (gives U)))
def JV (c:Qe)(a:Int)(b:Int):O_ Xr:=(FD c a b).bind λd=>(WI c d).bind λe=>some e
def Gh (f b e):CT 8 [.agg (Qa f),.I b,.I e] [] (JV f b e) (λr=>(.agg (QE r))) no_:=by
 refine W 13 func8 rfl λC g r h=>?_
 obtain⟨l,i,h⟩:=Qv h
 obtain⟨k,j,h⟩:=Qv h
 refine tg_ g [7,.K [1,2,3,6] [3,6]] ?_
 refine AK.draw2 Qt g mixed [.E (.agg (Qa f)),.E (.agg (Qa f)),.N,.N,.B (.C3 (.agg (QF l))),.B (.C2 (.agg (QE k))),.m .s] [] [] [6] [6] rfl rfl rfl ⟨⟨⟨⟨U,rfl⟩,rfl⟩,(QbW _ _ _ _ i)⟩,(Qeb _ _ _ j)⟩ rfl (by kernel_rfl) rfl rfl rfl ?_
 refine Qo g [.O 6 (.var (QE k)),2,.K [6] [6]] Z (A Z) ?_
 cases h
 exact AK.done (ex_ [_] (an_ (an_ (ex_ _ (ex_ _ (an_ Z (an_ Z (Or.inl (an_ (Qt.ag Z) (an_ (Qt.sz Z) Z))))))) U) (gives U)))
def Qhq (e:(L_ Qj))(f:Qe)(b:QMk)(a:Int):O_ ((QMk×Int)⊕((QMk×Int)⊕QMk)):=bif (a<(e.length:Int))then (idx e a).bind λd=>(Yc f b d).bind λc=>bif (c.2 != 0)then some (.inr (.inl (b,a)))else some (.inl (c.1,(Qi (a+1))))else some (.inr (.inr b))
def Qhr (a:QMk)(b:Int):O_ (QMk×Int):=some (a,b)
def Qhs (b:(L_ Qj))(a:QMk):O_ (QMk×Int):=some (a,(b.length:Int))
def Qfk (b:Qe)(c:QMk)(a:(L_ Qj)):O_ (QMk×Int):=(Aw c).bind λd=>(QD (λst=>Qhq a b st.1 st.2) (d,0)).bind (Sum.elim (λq=>Qhr q.1 q.2) (λq=>Qhs a q))
def Qht (l s f):CT 30 [.agg (Qa l),.sl 1 (s.map Qh),.sl 4 (f.map Qk)] [] (Qfk l s f) (λr=>(.tup [.sl 1 (r.1.map Qh),.I r.2])) no_:=
 W 37 func30 Z λC g r h=>B h λm p h=>g3_ g [10,.o (.co false [.d] 1 (m.map Qh) m.length),7,.o (.ln f.length),4,.frz 13 (m.map Qh) [1] []] Z ⟨(HW _ _ p),Qc,.inl Z⟩ Qc (A (Js Qc))<|lq_ h (λst=>⟨[(1,.sl 1 (st.1.map Qh)),(2,.sl 4 (f.map Qk)),lk_ 3,(14,.sl 4 (f.map Qk)),(15,.I (f.length:Int)),(16,.I st.2)],[(3,.var (Qa l))]⟩) (λq=>(.ret,⟨[(6,.sl 1 (q.1.map Qh)),(7,.I q.2)],[]⟩)) (λq=>(.exit 0,⟨[(1,.sl 1 (q.map Qh)),(2,.sl 4 (f.map Qk))],[]⟩)) Z (λ⟨t,u⟩ o h=>H g [6] Z<|I h (λa h=>B h λe i h=>B h λj k h=>G g [.T,7,.o (.row (Qk e)),.A (Qk e),3,.O 9 (.var (Qk e)),4,.A (Qa l),1,.A (Qk e),.o (.C3 (.tup [.sl 1 (j.1.map Qh),.I j.2])),14] Z (a7_ a (Xi i) Z Z Z Z (Sq _ _ _ _ k))<|I h (λb h=>J g [.T,12] Z b<|rR_ h Z) λb h=>J g [.F,12] Z b<|rN_ h Z) λa h=>J g [.F,2] Z a<|rX_ h Z) (λ⟨w,x⟩ h=>H g [2] Z<|F h Z Z U) (λy h=>J g [6,.o (.ln f.length),5] Z Qc<|F h Z Z U)
def QbX (a:(QMk×Int))(e:Xr)(d:Qe):O_ Bool:=bif (a.2==(e.Trace.length:Int))then (Ud d a.1).bind λb=>bif b then (Ue d a.1).bind λc=>some (!c)else some false else some false
def QbY (a:Bool):O_ Bool:=some a
def Nt (c:Qe)(a:Xr):O_ Bool:=bif (a.Told != 2)then some false else bif (a.Clause==3)then some ((0<=a.Task)&&((a.Task<(c.Tasks.length:Int))&&((a.Trace.length:Int)==0)))else (Gz c).bind λd=>(Qfk c d a.Trace).bind λb=>bif (a.Clause==1)then (QbX b a c).bind (λe=>QbY e)else bif (a.Clause==2)then some (b.2==(a.Trace.length:Int))else some false
def YK (i f):CT 11 [.agg (Qa i),.agg (QE f)] [] (Nt i f) V.b no_:=
 W 66 func11 Z λC e r h=>H e [15] Z<|I h (λq h=>J e [.T,7] Z q<|E h Z U) λq h=>J e [.F,10] Z q<|I h (λs h=>J e [.T,1] Z s<|Y ⟨[(4,.b ((0<=f.Task)&&((f.Task<(i.Tasks.length:Int))&&((f.Trace.length:Int)==0))))],[]⟩ (H e [5] Z<|bO_ (decide (0<=f.Task)) (λg=>G e [.S 16 (.b true),4,.o (.ln i.Tasks.length),3] Z ⟨(tc_ g),Qc⟩<|bO_ (decide (f.Task<(i.Tasks.length:Int))) (λj=>G e [.S 24 (.b true),2,.o (.ln f.Trace.length),4,.S 4 (.b ((0<=f.Task)&&((f.Task<(i.Tasks.length:Int))&&((f.Trace.length:Int)==0))))] Z ⟨⟨(tc_ j),Qc⟩,(cb_ (Yx g (Yx j Z)))⟩<|M Z) λj=>G e [.S 24 (.b false),7,.S 4 (.b ((0<=f.Task)&&((f.Task<(i.Tasks.length:Int))&&((f.Trace.length:Int)==0))))] Z ⟨(tc_ j),(cb_ (Yx g (KL j Z)))⟩<|M Z) λg=>G e [.S 16 (.b false),15,.S 4 (.b ((0<=f.Task)&&((f.Task<(i.Tasks.length:Int))&&((f.Trace.length:Int)==0))))] Z ⟨(tc_ g),(cb_ (KL g Z))⟩<|M Z)<|H e [3] Z<|E h Z U) λs h=>B h λu w h=>B h λx y h=>G e [.F,3,.K [2,3] [2,3]] Z (A s) <| 
  dr_ e [.E (.agg (Qa i)),.E (.agg (Qa i)),.B (.cd false [.d] 1 (u.map Qh) u.length),.N,.N,.B (.C3 (.tup [.sl 1 (x.1.map Qh),.I x.2])),.N,.N,.N,.N,.N] [] [] [2,3,5,6] [2,3] Z Z (a4_ Z Z ⟨(MW _ _ w),Qc⟩ (Qht _ _ _ _ y)) Z <|
  H e [15] Z<|I h (λk h=>J e [.T,1] Z k<|mV_ h (λt=>⟨[(4,.b t)],[]⟩) (λt h=>J e [4,.o (.ln f.Trace.length),2] Z Qc<|I h (λl h=>B h λO z h=>G e [.S 48 (.b true),.A (Qa i),1,.o (.C2 (.b O)),2] Z ⟨⟨(tc_ l),Z⟩,(Nn _ _ _ z)⟩<|I h (λm h=>B h λP D h=>G e [.S 53 (.b true),.A (Qa i),1,.o (.C2 (.b P)),4] Z ⟨⟨(tc_ m),Z⟩,(No _ _ _ D)⟩<|mq_ h Z) λm h=>L e [.S 53 (.b false),7] Z m<|mq_ h Z) λl h=>L e [.S 48 (.b false),12] Z l<|mq_ h Z) λt h=>H e [4] Z<|E h Z U) λk h=>J e [.F,6] Z k<|I h (λp h=>K e [.T,5,.o (.ln f.Trace.length),7] Z p Qc<|E h Z U) λp h=>J e [.F,9] Z p<|E h Z U
def Zh (a:Qe)(b:QN):O_ Int:=(WC (QS.mk a b)).bind λc=>some c
def PW (a b):CT 22 [.agg (Qa a),.agg (QF b)] [] (Zh a b) V.I no_:=
 W 9 func22 Z λC f r h=>B h λg e h=>g4_ f [9,.A (Qa a),.A (QF b),.A (Xc (QS.mk a b)),.o (.C1 (.I g)),4] Z Z Z Z (FG _ _ e)<|E h Z U
def QbZ (a:Qe)(b:QN):O_ LI_:=(GB (QS.mk a b)).bind λc=>some c
def Qfl (a b):CT 23 [.agg (Qa a),.agg (QF b)] [] (QbZ a b) (λr=>(.own 600 r.length)) (λr=>[(600,.arr 1 (r.map Qb))]):=
 W 9 func23 Z λC f r h=>B h λe c h=>g4_ f [9,.A (Qa a),.A (QF b),.A (Xc (QS.mk a b)),.o (.co false [.d] 1 (e.map Qb) e.length),4,.K [4] [8],.ren 8 600] Z Z Z Z ⟨(MC _ _ c),Qc,.inl Z⟩<|E h Z r1_
def Qec (j:Xr)(a:Xr)(l:Xr)(k:Xr)(b:Qe):O_ Bool:=bif (j.Told==1)then bif (a.Told==2)then bif (a.Clause==1)then bif ((a.Trace.length:Int)==1)then (EP true).bind λc=>(Nt c a).bind λd=>bif d then bif (l.Told==3)then bif (k.Told==2)then bif (k.Clause==2)then (EP false).bind λe=>(Nt e j).bind λf=>bif (!f)then (Zh (Qe.mk b.Colours b.Places ([]:(L_ QG)) b.From b.To) (QN.mk ([]:(L_ QMk)) ([]:(L_ QZ)) false)).bind λg=>bif (g==(-1))then (EP false).bind λh=>(QbZ h (QN.mk ([]:(L_ QMk)) ([]:(L_ QZ)) false)).bind λi=>some ((i.length:Int)==1)else some false else some false else some false else some false else some false else some false else some false else some false else some false else some false
def Qed (a:Bool):O_ Bool:=some a
def PF  : O_ Bool:=(EP false).bind λc=>(JV c 10 10).bind λd=>(EP true).bind λe=>(JV e 10 10).bind λf=>(EP false).bind λg=>(JV g 1 10).bind λh=>(EP false).bind λa=>(JV (Qe.mk a.Colours a.Places ([]:(L_ QG)) a.From a.To) 10 10).bind λi=>(Qec d f h i a).bind (λb=>Qed b)
def Qee  : CT 6 [] [] (PF ) V.b no_:=
 W 74 func6 Z λC z r h=>B h λx2 a8 h=>B h λx3 a9 h=>B h λx4 b0 h=>B h λu b1 h=>B h λx6 b2 h=>B h λx7 b3 h=>B h λt b4 h=>B h λx9 b5 h=>G z [7,.o (.C1 (.agg (Qa x2))),.o (.C3 (.agg (QE x3))),2,.O 1 (.var (QE x3)),4,.o (.C1 (.agg (Qa x4))),.o (.C3 (.agg (QE u))),2,.O 2 (.var (QE u)),4,.o (.C1 (.agg (Qa x6))),.o (.C3 (.agg (QE x7))),2,.O 3 (.var (QE x7)),4,.o (.C1 (.agg (Qa t))),2,.O 4 (.var (Qa t)),6,.O 4 (.var [.sl 7 (t.Colours.map Qr),.sl 3 (t.Places.map Qp),.Y,.I t.From,.I t.To]),4,.v .no [none,none,some 14,none,none] (.agg (Qa (Qe.mk t.Colours t.Places ([]:(L_ QG)) t.From t.To))),.o (.C3 (.agg (QE x9))),2,.O 5 (.var (QE x9)),3] Z ⟨⟨⟨⟨⟨⟨⟨⟨⟨⟨⟨⟨⟨⟨⟨U,(Yn _ _ a8)⟩,(Gh _ _ _ _ a9)⟩,Z⟩,(Yn _ _ b0)⟩,(Gh _ _ _ _ b1)⟩,Z⟩,(Yn _ _ b2)⟩,(Gh _ _ _ _ b3)⟩,Z⟩,(Yn _ _ b4)⟩,Z⟩,Z⟩,Z⟩,(Gh _ _ _ _ b5)⟩,Z⟩<|mV_ h (λa1=>⟨[(0,.b a1)],[]⟩) (λa1 h=>H z [.K [0,1,2,3,4,5] [1,2,3,4,5]] Z<|I h (λe h=>I h (λf h=>I h (λg h=>I h (λi h=>B h λx k h=>B h λy l h=>I h (λj h=>I h (λp h=>I h (λq h=>I h (λw h=>B h λa2 P h=>B h λa3 S h=>I h (λD h=>B h λa4 a0 h=>I h (λT h=>B h λb6 a5 h=>B h λa6 a7 h=> 
  dr_ z [.N,.N,.N,.E (.b true),.N,.N,.N,.N,.E (.b true),.N,.N,.N,.N,.E (.b true),.N,.N,.B (.ln u.Trace.length),.N,.N,.E (.b true),.B (.C1 (.agg (Qa x))),.E (.agg (QE u)),.B (.C2 (.b y)),.N,.E (.b true),.N,.N,.N,.N,.E (.b true),.N,.N,.N,.N,.E (.b true),.N,.N,.N,.N,.E (.b true),.B (.C1 (.agg (Qa a2))),.E (.agg (QE x3)),.B (.C2 (.b a3)),.N,.N,.E (.b true),.a .no (some ([none,none,some 14,none,none],.agg (Qa (Qe.mk t.Colours t.Places ([]:(L_ QG)) t.From t.To)))) false,.a .no (some ([some 1,some 6,none],.agg (QF (QN.mk ([]:(L_ QMk)) ([]:(L_ QZ)) false)))) false,.B (.C2 (.I a4)),.N,.N,.E (.b true),.B (.C1 (.agg (Qa b6))),.a .no (some ([some 1,some 6,none],.agg (QF (QN.mk ([]:(L_ QMk)) ([]:(L_ QZ)) false)))) false,.B (.co false [.d,.d] 1 (a6.map Qb) a6.length),.N,.N,.N,.m .s] [] [] [0] [] Z Z ⟨⟨⟨⟨⟨⟨⟨⟨⟨⟨⟨⟨⟨⟨⟨⟨⟨⟨⟨⟨⟨⟨(tc_ e),(cb_ f)⟩,(cb_ g)⟩,Qc⟩,(cb_ i)⟩,(Yn _ _ k)⟩,Z⟩,(YK _ _ _ l)⟩,(cb_ j)⟩,(cb_ p)⟩,(cb_ q)⟩,(cb_ w)⟩,(Yn _ _ P)⟩,Z⟩,(YK _ _ _ S)⟩,(cb_ D)⟩,Z⟩,Z⟩,(PW _ _ _ a0)⟩,(cb_ T)⟩,(Yn _ _ a5)⟩,Z⟩,⟨(Qfl _ _ _ a7),Qc,.inl Z⟩⟩ Z <|
  mq_ h Z) λT h=> 
  dr_ z [.N,.N,.N,.E (.b true),.N,.N,.N,.N,.E (.b true),.N,.N,.N,.N,.E (.b true),.N,.N,.B (.ln u.Trace.length),.N,.N,.E (.b true),.B (.C1 (.agg (Qa x))),.E (.agg (QE u)),.B (.C2 (.b y)),.N,.E (.b true),.N,.N,.N,.N,.E (.b true),.N,.N,.N,.N,.E (.b true),.N,.N,.N,.N,.E (.b true),.B (.C1 (.agg (Qa a2))),.E (.agg (QE x3)),.B (.C2 (.b a3)),.N,.N,.E (.b true),.a .no (some ([none,none,some 14,none,none],.agg (Qa (Qe.mk t.Colours t.Places ([]:(L_ QG)) t.From t.To)))) false,.a .no (some ([some 1,some 6,none],.agg (QF (QN.mk ([]:(L_ QMk)) ([]:(L_ QZ)) false)))) false,.B (.C2 (.I a4)),.N,.N,.E (.b false),.N,.N,.N,.N,.N,.N,.m .s] [] [] [0] [] Z Z ⟨⟨⟨⟨⟨⟨⟨⟨⟨⟨⟨⟨⟨⟨⟨⟨⟨⟨⟨(tc_ e),(cb_ f)⟩,(cb_ g)⟩,Qc⟩,(cb_ i)⟩,(Yn _ _ k)⟩,Z⟩,(YK _ _ _ l)⟩,(cb_ j)⟩,(cb_ p)⟩,(cb_ q)⟩,(cb_ w)⟩,(Yn _ _ P)⟩,Z⟩,(YK _ _ _ S)⟩,(cb_ D)⟩,Z⟩,Z⟩,(PW _ _ _ a0)⟩,(cb_ T)⟩ Z <|
  mq_ h Z) λD h=> 
  dr_ z [.N,.N,.N,.E (.b true),.N,.N,.N,.N,.E (.b true),.N,.N,.N,.N,.E (.b true),.N,.N,.B (.ln u.Trace.length),.N,.N,.E (.b true),.B (.C1 (.agg (Qa x))),.E (.agg (QE u)),.B (.C2 (.b y)),.N,.E (.b true),.N,.N,.N,.N,.E (.b true),.N,.N,.N,.N,.E (.b true),.N,.N,.N,.N,.E (.b true),.B (.C1 (.agg (Qa a2))),.E (.agg (QE x3)),.B (.C2 (.b a3)),.N,.N,.E (.b false),.N,.N,.N,.N,.N,.N,.N,.N,.N,.N,.N,.N,.m .s] [] [] [0] [] Z Z ⟨⟨⟨⟨⟨⟨⟨⟨⟨⟨⟨⟨⟨⟨⟨(tc_ e),(cb_ f)⟩,(cb_ g)⟩,Qc⟩,(cb_ i)⟩,(Yn _ _ k)⟩,Z⟩,(YK _ _ _ l)⟩,(cb_ j)⟩,(cb_ p)⟩,(cb_ q)⟩,(cb_ w)⟩,(Yn _ _ P)⟩,Z⟩,(YK _ _ _ S)⟩,(cb_ D)⟩ Z <|
  mq_ h Z) λw h=> 
  dr_ z [.N,.N,.N,.E (.b true),.N,.N,.N,.N,.E (.b true),.N,.N,.N,.N,.E (.b true),.N,.N,.B (.ln u.Trace.length),.N,.N,.E (.b true),.B (.C1 (.agg (Qa x))),.E (.agg (QE u)),.B (.C2 (.b y)),.N,.E (.b true),.N,.N,.N,.N,.E (.b true),.N,.N,.N,.N,.E (.b true),.N,.N,.N,.N,.E (.b false),.N,.N,.N,.N,.N,.N,.N,.N,.N,.N,.N,.N,.N,.N,.N,.N,.N,.N,.m .s] [] [] [0] [] Z Z ⟨⟨⟨⟨⟨⟨⟨⟨⟨⟨⟨(tc_ e),(cb_ f)⟩,(cb_ g)⟩,Qc⟩,(cb_ i)⟩,(Yn _ _ k)⟩,Z⟩,(YK _ _ _ l)⟩,(cb_ j)⟩,(cb_ p)⟩,(cb_ q)⟩,(cb_ w)⟩ Z <|
  mq_ h Z) λq h=> 
  dr_ z [.N,.N,.N,.E (.b true),.N,.N,.N,.N,.E (.b true),.N,.N,.N,.N,.E (.b true),.N,.N,.B (.ln u.Trace.length),.N,.N,.E (.b true),.B (.C1 (.agg (Qa x))),.E (.agg (QE u)),.B (.C2 (.b y)),.N,.E (.b true),.N,.N,.N,.N,.E (.b true),.N,.N,.N,.N,.E (.b false),.N,.N,.N,.N,.N,.N,.N,.N,.N,.N,.N,.N,.N,.N,.N,.N,.N,.N,.N,.N,.N,.N,.N,.m .s] [] [] [0] [] Z Z ⟨⟨⟨⟨⟨⟨⟨⟨⟨⟨(tc_ e),(cb_ f)⟩,(cb_ g)⟩,Qc⟩,(cb_ i)⟩,(Yn _ _ k)⟩,Z⟩,(YK _ _ _ l)⟩,(cb_ j)⟩,(cb_ p)⟩,(cb_ q)⟩ Z <|
  mq_ h Z) λp h=> 
  dr_ z [.N,.N,.N,.E (.b true),.N,.N,.N,.N,.E (.b true),.N,.N,.N,.N,.E (.b true),.N,.N,.B (.ln u.Trace.length),.N,.N,.E (.b true),.B (.C1 (.agg (Qa x))),.E (.agg (QE u)),.B (.C2 (.b y)),.N,.E (.b true),.N,.N,.N,.N,.E (.b false),.N,.N,.N,.N,.N,.N,.N,.N,.N,.N,.N,.N,.N,.N,.N,.N,.N,.N,.N,.N,.N,.N,.N,.N,.N,.N,.N,.N,.m .s] [] [] [0] [] Z Z ⟨⟨⟨⟨⟨⟨⟨⟨⟨(tc_ e),(cb_ f)⟩,(cb_ g)⟩,Qc⟩,(cb_ i)⟩,(Yn _ _ k)⟩,Z⟩,(YK _ _ _ l)⟩,(cb_ j)⟩,(cb_ p)⟩ Z <|
  mq_ h Z) λj h=> 
  dr_ z [.N,.N,.N,.E (.b true),.N,.N,.N,.N,.E (.b true),.N,.N,.N,.N,.E (.b true),.N,.N,.B (.ln u.Trace.length),.N,.N,.E (.b true),.B (.C1 (.agg (Qa x))),.E (.agg (QE u)),.B (.C2 (.b y)),.N,.E (.b false),.N,.N,.N,.N,.N,.N,.N,.N,.N,.N,.N,.N,.N,.N,.N,.N,.N,.N,.N,.N,.N,.N,.N,.N,.N,.N,.N,.N,.N,.N,.N,.N,.N,.m .s] [] [] [0] [] Z Z ⟨⟨⟨⟨⟨⟨⟨⟨(tc_ e),(cb_ f)⟩,(cb_ g)⟩,Qc⟩,(cb_ i)⟩,(Yn _ _ k)⟩,Z⟩,(YK _ _ _ l)⟩,(cb_ j)⟩ Z <|
  mq_ h Z) λi h=> 
  dr_ z [.N,.N,.N,.E (.b true),.N,.N,.N,.N,.E (.b true),.N,.N,.N,.N,.E (.b true),.N,.N,.B (.ln u.Trace.length),.N,.N,.E (.b false),.N,.N,.N,.N,.N,.N,.N,.N,.N,.N,.N,.N,.N,.N,.N,.N,.N,.N,.N,.N,.N,.N,.N,.N,.N,.N,.N,.N,.N,.N,.N,.N,.N,.N,.N,.N,.N,.N,.m .s] [] [] [0] [] Z Z ⟨⟨⟨⟨(tc_ e),(cb_ f)⟩,(cb_ g)⟩,Qc⟩,(cb_ i)⟩ Z <|
  mq_ h Z) λg h=> 
  dr_ z [.N,.N,.N,.E (.b true),.N,.N,.N,.N,.E (.b true),.N,.N,.N,.N,.E (.b false),.N,.N,.N,.N,.N,.N,.N,.N,.N,.N,.N,.N,.N,.N,.N,.N,.N,.N,.N,.N,.N,.N,.N,.N,.N,.N,.N,.N,.N,.N,.N,.N,.N,.N,.N,.N,.N,.N,.N,.N,.N,.N,.N,.N,.m .s] [] [] [0] [] Z Z ⟨⟨(tc_ e),(cb_ f)⟩,(cb_ g)⟩ Z <|
  mq_ h Z) λf h=> 
  dr_ z [.N,.N,.N,.E (.b true),.N,.N,.N,.N,.E (.b false),.N,.N,.N,.N,.N,.N,.N,.N,.N,.N,.N,.N,.N,.N,.N,.N,.N,.N,.N,.N,.N,.N,.N,.N,.N,.N,.N,.N,.N,.N,.N,.N,.N,.N,.N,.N,.N,.N,.N,.N,.N,.N,.N,.N,.N,.N,.N,.N,.N,.m .s] [] [] [0] [] Z Z ⟨(tc_ e),(cb_ f)⟩ Z <|
  mq_ h Z) λe h=> 
  dr_ z [.N,.N,.N,.E (.b false),.N,.N,.N,.N,.N,.N,.N,.N,.N,.N,.N,.N,.N,.N,.N,.N,.N,.N,.N,.N,.N,.N,.N,.N,.N,.N,.N,.N,.N,.N,.N,.N,.N,.N,.N,.N,.N,.N,.N,.N,.N,.N,.N,.N,.N,.N,.N,.N,.N,.N,.N,.N,.N,.N,.m .s] [] [] [0] [] Z Z (tc_ e) Z <|
  mq_ h Z) λa1 h=>H z [2] Z<|E h Z U
def Ox (f:Ql)(h:Ql->Int->O_ Int)(a:Int)(c:Int)(d:Int):O_ ((Int×Int)⊕(Unit⊕Int)):=bif (d<(f.Kids.length:Int))then (idx f.Kids d).bind λe=>(h e (Qi (a-1))).bind λb=>bif (b==0)then some (.inr (.inl ()))else bif ((Qi ((Qi (c-500))+b))<=1)then some (.inr (.inl ()))else some (.inl ((Qi ((Qi (c-500))+b)),(Qi (d+1))))else some (.inr (.inr c))
def Qgt : O_ Int:=some 0
def Qgu (a:Int):O_ Int:=some (Qi (a-1))
def PG (h:Ql->Int->O_ Int)(b:Ql)(a:Int):O_ Int:=
 bif ((a<=0)||(9<(b.Kids.length:Int)))then
 some 0
 else
 (QD (λst=>Ox b h a st.1 st.2) (500,0)).bind (Sum.elim (λq=>Qgt) (λq=>Qgu q))
def Ec : Nat->Ql->Int->O_ Int
 | 0,_,_=>none
 | n+1,b,a=>PG (Ec n) b a
def VF (b:Ql)(a:Int):O_ Int:=Ec (SizeOf.sizeOf b) b a
def Qef (D:Ql->Int->O_ Int)(hrec_law04_few:∀(f:Ql) (a:Int) {r:Int},D f a=some r->QU prog 83 [.agg (Qs f),.I a] [] (Gives (.I r) []))(f:Ql)(a:Int):CT 83 [.agg (Qs f),.I a] [] (PG D f a) V.I no_:=
 W 41 func83 Z λC e r h=>H e [8] Z<|Y ⟨[(1,.I a),lk_ 2,(15,.b ((a<=0)||(9<(f.Kids.length:Int))))],[(2,.var (Qs f))]⟩ (H e [4] Z<|bO_ (decide (a<=0)) (λg=>G e [.S 10 (.b true),6,.S 15 (.b ((a<=0)||(9<(f.Kids.length:Int))))] Z ⟨(tc_ g),(cb_ (Eh g Z))⟩<|M Z) λg=>G e [.S 10 (.b false),2,.o (.ln f.Kids.length),3,.S 15 (.b ((a<=0)||(9<(f.Kids.length:Int))))] Z ⟨⟨(tc_ g),HP _⟩,(cb_ (Ji g Z))⟩<|M Z)<|H e [1] Z<|I h (λl h=>J e [.T,7] Z l<|E h Z U) λl h=>J e [.F,14] Z l<|lq_ h (λst=>⟨[(1,.I a),lk_ 2,(5,.I st.1),(6,.I st.2)],[(2,.var (Qs f))]⟩) (λq=>(.ret,⟨[(4,.I 0)],[]⟩)) (λq=>(.exit 0,⟨[(5,.I q)],[]⟩)) Z (λ⟨w,x⟩ o h=>J e [6,.o (.ln f.Kids.length),3] Z (HP _)<|I h (λi h=>B h λm p h=>B h λt s h=>g4_ e [.T,9,.o (.row (Qs m)),.A (Qs m),2,.o (.C2 (.I t)),10] Z i (Gk p) Z (hrec_law04_few _ _ s)<|I h (λj h=>J e [.T,9] Z j<|rR_ h Z) λj h=>J e [.F,17] Z j<|I h (λk h=>J e [.T,8] Z k<|rR_ h Z) λk h=>J e [.F,8] Z k<|rN_ h Z) λi h=>J e [.F,2] Z i<|rX_ h Z) (λ_ h=>H e [2] Z<|E h Z U) (λu h=>H e [10] Z<|E h Z U)
def SA : ∀(fuel:Nat) (b:Ql) (a:Int) {r:Int},Ec fuel b a=some r->QU prog 83 [.agg (Qs b),.I a] [] (Gives (.I r) [])
 | 0,_,_,_,h=>by cases h
 | n+1,b,a,_,h=>Qef (Ec n) (λ_ _ _ h=>SA n _ _ h) b a _ h
def Qgv (b a){r}(h:VF b a=some r):QU prog 83 [.agg (Qs b),.I a] [] (Gives (.I r) []):=SA _ b a h
def CW (a:Ql):O_ Bool:=(VF a 60).bind λb=>some (decide (0<b))
def Oy (a):CT 47 [.agg (Qs a)] [] (CW a) V.b no_:=
 W 6 func47 Z λC f r h=>B h λg e h=>K f [8,.A (Qs a),.o (.C2 (.I g)),5] Z Z (Qgv _ _ e)<|E h Z U
def Oz (d:Qe)(e:Int)(a:Int)(b:QI):O_ Bool:=(idx d.Colours e).bind λc=>bif (100<(c.Name.size:Int))then some true else some (decide (400<(Qi (a+(b.Names.length:Int)))))
def Bz (e:Qe)(f:Int)(a:Int):O_ (Int⊕(Unit⊕Unit)):=(idx e.Colours f).bind λb=>bif (a<(b.Names.length:Int))then (idx e.Colours f).bind λc=>(idx c.Names a).bind λd=>bif (100<(d.size:Int))then some (.inr (.inl ()))else some (.inl (Qi (a+1)))else some (.inr (.inr ()))
def Qgw : O_ ((Int×Int)⊕(Unit⊕Int)):=some (.inr (.inl ()))
def Qgx (a:Int)(b:QI)(c:Int):O_ ((Int×Int)⊕(Unit⊕Int)):=some (.inl ((Qi (a+(b.Names.length:Int))),(Qi (c+1))))
def OA (e:Qe)(d:Int)(a:Int)(b:QI)(c:Bool):O_ ((Int×Int)⊕(Unit⊕Int)):=bif c then some (.inr (.inl ()))else (QD (λst=>Bz e d st) 0).bind (Sum.elim (λq=>Qgw) (λq=>Qgx a b d))
def BA (c:Qe)(a:Int)(d:Int):O_ ((Int×Int)⊕(Unit⊕Int)):=bif (d<(c.Colours.length:Int))then (idx c.Colours d).bind λb=>(Oz c d a b).bind (λe=>OA c d a b e)else some (.inr (.inr a))
def Qgy : O_ Bool:=some false
def BB (c:Qe)(a:Int)(b:Int):O_ ((Int×Int)⊕(Unit⊕Int)):=bif (b<(c.Places.length:Int))then (idx c.Places b).bind λd=>(idx c.Places b).bind λe=>bif (100<(e.Name.size:Int))then some (.inr (.inl ()))else some (.inl ((Qi (a+(d.First.length:Int))),(Qi (b+1))))else some (.inr (.inr a))
def Qgz : O_ Bool:=some false
def Nu (b:QG)(a:Int):O_ (Int⊕(Unit⊕Unit)):=bif (a<(b.Vars.length:Int))then (idx b.Vars a).bind λc=>bif (100<(c.Name.size:Int))then some (.inr (.inl ()))else some (.inl (Qi (a+1)))else some (.inr (.inr ()))
def Qfm : O_ ((Int×Int)⊕(Unit⊕Unit)):=some (.inr (.inl ()))
def Nv (c:QG)(a:Bool)(b:Int):O_ ((Bool×Int)⊕Bool):=bif (b<(c.Ins.length:Int))then (idx c.Ins b).bind λd=>(CW d.Expr).bind λe=>some (.inl ((a&&e),(Qi (b+1))))else some (.inr a)
def Nw (c:QG)(a:Bool)(b:Int):O_ ((Bool×Int)⊕Bool):=bif (b<(c.Outs.length:Int))then (idx c.Outs b).bind λd=>(CW d.Expr).bind λe=>some (.inl ((a&&e),(Qi (b+1))))else some (.inr a)
def Nx (a:Int)(b:QG)(d:Int)(c:Bool):O_ ((Int×Int)⊕(Unit⊕Unit)):=bif (!c)then some (.inr (.inl ()))else some (.inl ((Qi ((Qi ((Qi ((Qi (a+(b.Vars.length:Int)))+(b.Ins.length:Int)))+(b.Outs.length:Int)))+(b.Cancel.length:Int))),(Qi (d+1))))
def Ny (b:QG)(a:Int)(d:Int)(c:Bool):O_ ((Int×Int)⊕(Unit⊕Unit)):=(QD (λst=>Nw b st.1 st.2) (c,0)).bind (λq=>Nx a b d q)
def Nz (b:QG)(a:Int)(c:Int):O_ ((Int×Int)⊕(Unit⊕Unit)):=(CW b.Guard).bind λd=>(QD (λst=>Nv b st.1 st.2) (d,0)).bind (λq=>Ny b a c q)
def NA (d:Qe)(b:Int)(c:Int):O_ ((Int×Int)⊕(Unit⊕Unit)):=
 bif (c<(d.Tasks.length:Int))then
 (idx d.Tasks c).bind λa=>
 bif ((200<(Qi ((Qi ((Qi ((Qi (b+(a.Vars.length:Int)))+(a.Ins.length:Int)))+(a.Outs.length:Int)))+(a.Cancel.length:Int))))||(100<(a.Name.size:Int)))then
 some (.inr (.inl ()))
 else
 (QD (λst=>Nu a st) 0).bind (Sum.elim (λq=>Qfm) (λq=>Nz a b c))
 else
 some (.inr (.inr ()))
def Qfn : O_ Bool:=some false
def Qfo (a:Int):O_ Bool:=some (decide (a<=400))
def NB (b:Qe)(a:Int):O_ Bool:=(QD (λst=>NA b st.1 st.2) (0,0)).bind (Sum.elim (λq=>Qfn) (λq=>Qfo a))
def Aj (b:Qe)(a:Int):O_ Bool:=(QD (λst=>BB b st.1 st.2) (a,0)).bind (Sum.elim (λq=>Qgz) (λq=>NB b q))
def AD (a:Qe):O_ Bool:=
 bif ((40<(a.Colours.length:Int))||((70<(a.Places.length:Int))||(70<(a.Tasks.length:Int))))then
 some false
 else
 (QD (λst=>BA a st.1 st.2) (0,0)).bind (Sum.elim (λq=>Qgy) (λq=>Aj a q))
def Zi (i):CT 24 [.agg (Qa i)] [] (AD i) V.b no_:=
 W 201 func24 Z λC f r h=>H f [8] Z<|Y ⟨[lk_ 1,(31,.b ((40<(i.Colours.length:Int))||((70<(i.Places.length:Int))||(70<(i.Tasks.length:Int)))))],[(1,.var (Qa i))]⟩ (J f [3,.o (.ln i.Colours.length),2] Z Qc<|bO_ (decide (40<(i.Colours.length:Int))) (λu=>G f [.S 20 (.b true),12,.S 31 (.b ((40<(i.Colours.length:Int))||((70<(i.Places.length:Int))||(70<(i.Tasks.length:Int)))))] Z ⟨(tc_ u),(cb_ (Eh u Z))⟩<|M Z) λu=>G f [.S 20 (.b false),2,.o (.ln i.Places.length),3] Z ⟨(tc_ u),Qc⟩<|bO_ (decide (70<(i.Places.length:Int))) (λw=>G f [.S 26 (.b true),6,.S 31 (.b ((40<(i.Colours.length:Int))||((70<(i.Places.length:Int))||(70<(i.Tasks.length:Int)))))] Z ⟨(tc_ w),(cb_ (Ji u (Eh w Z)))⟩<|M Z) λw=>G f [.S 26 (.b false),2,.o (.ln i.Tasks.length),3,.S 31 (.b ((40<(i.Colours.length:Int))||((70<(i.Places.length:Int))||(70<(i.Tasks.length:Int)))))] Z ⟨⟨(tc_ w),Qc⟩,(cb_ (Ji u (Ji w Z)))⟩<|M Z)<|H f [1] Z<|I h (λb1 h=>J f [.T,7] Z b1<|E h Z U) λb1 h=>J f [.F,14] Z b1<|lq_ h (λst=>⟨[lk_ 1,(3,.I st.1),(4,.I st.2)],[(1,.var (Qa i))]⟩) (λq=>(.ret,⟨[(2,.b false)],[]⟩)) (λq=>(.exit 0,⟨[lk_ 1,(3,.I q)],[(1,.var (Qa i))]⟩)) Z (λ⟨j,i9⟩ o h=>J f [6,.o (.ln i.Colours.length),3] Z Qc<|I h (λx h=>B h λy b3 h=>g3_ f [.T,10,.o (.row (Qr y)),2,.o (.ln y.Names.length),6] Z x (Xi b3) Qc<|mV_ h (λb2=>⟨[lk_ 1,(3,.I (Qi (j+(y.Names.length:Int)))),(4,.I i9),(59,.b b2)],[(1,.var (Qa i))]⟩) (λb2 h=>B h λd3 b4 h=>J f [4,.o (.row (Qr d3)),5] Z (Xi b4)<|I h (λz h=>L f [.S 56 (.b true),4] Z z<|mq_ h Z) λz h=>L f [.S 56 (.b false),4] Z z<|mq_ h Z) λb2 h=>H f [1] Z<|I h (λD h=>J f [.T,9] Z D<|rR_ h Z) λD h=>J f [.F,8] Z D<|lq_ h (λst=>⟨[lk_ 1,(3,.I (Qi (j+(y.Names.length:Int)))),(4,.I i9),(5,.I st)],[(1,.var (Qa i))]⟩) (λq=>(.ret,⟨[(2,.b false)],[]⟩)) (λq=>(.exit 2,⟨[lk_ 1,(3,.I (Qi (j+(y.Names.length:Int)))),(4,.I i9)],[(1,.var (Qa i))]⟩)) Z (λe3 o h=>B h λb5 b6 h=>K f [7,.o (.row (Qr b5)),2,.o (.ln b5.Names.length),3] Z (Xi b6) Qc<|I h (λN h=>B h λd4 b7 h=>B h λd5 b8 h=>g3_ f [.T,9,.o (.row (Qr d4)),3,.o (.row (DR d5)),5] Z N (Xi b7) (Xi b8)<|I h (λP h=>J f [.T,8] Z P<|rR_ h Z) λP h=>J f [.F,8] Z P<|rN_ h Z) λN h=>J f [.F,2] Z N<|rX_ h Z) (λ_ h=>H f [3] Z<|rR_ h Z) (λ_ h=>H f [8] Z<|rN_ h Z)) λx h=>J f [.F,2] Z x<|rX_ h Z) (λ_ h=>H f [2] Z<|E h Z U) (λb9 h=>H f [9] Z<|lq_ h (λst=>⟨[lk_ 1,(3,.I st.1),(6,.I st.2)],[(1,.var (Qa i))]⟩) (λq=>(.ret,⟨[(2,.b false)],[]⟩)) (λq=>(.exit 4,⟨[lk_ 1,(3,.I q)],[(1,.var (Qa i))]⟩)) Z (λ⟨c0,e4⟩ o h=>J f [6,.o (.ln i.Places.length),3] Z Qc<|I h (λa0 h=>B h λc1 c2 h=>B h λd6 c3 h=>g4_ f [.T,10,.o (.row (Qp c1)),2,.o (.ln c1.First.length),9,.o (.row (Qp d6)),6] Z a0 (Xi c2) Qc (Xi c3)<|I h (λa1 h=>J f [.T,8] Z a1<|rR_ h Z) λa1 h=>J f [.F,8] Z a1<|rN_ h Z) λa0 h=>J f [.F,2] Z a0<|rX_ h Z) (λ_ h=>H f [2] Z<|E h Z U) (λe h=>H f [14] Z<|lq_ h (λst=>⟨[lk_ 1,(3,.I e),(7,.I st.1),(8,.I st.2)],[(1,.var (Qa i))]⟩) (λq=>(.ret,⟨[(2,.b false)],[]⟩)) (λq=>(.exit 6,⟨[(3,.I e)],[]⟩)) Z (λ⟨g,k⟩ o h=>J f [6,.o (.ln i.Tasks.length),3] Z Qc<|I h (λa2 h=>B h λa c4 h=>G f [.T,9,.o (.row (Qg a)),.A (Qg a),2,.O 9 (.var (Qg a)),7,.o (.ln a.Vars.length),3,.o (.ln a.Ins.length),3,.o (.ln a.Outs.length),3,.o (.ln a.Cancel.length),6] Z (a8_ a2 (Xi c4) Z Z Qc Qc Qc Qc)<|Y ⟨[lk_ 1,(3,.I e),(7,.I (Qi ((Qi ((Qi ((Qi (g+(a.Vars.length:Int)))+(a.Ins.length:Int)))+(a.Outs.length:Int)))+(a.Cancel.length:Int)))),(8,.I k),lk_ 9,(142,.b ((200<(Qi ((Qi ((Qi ((Qi (g+(a.Vars.length:Int)))+(a.Ins.length:Int)))+(a.Outs.length:Int)))+(a.Cancel.length:Int))))||(100<(a.Name.size:Int))))],[(1,.var (Qa i)),(9,.var (Qg a))]⟩ (H f [4] Z<|bO_ (decide (200<(Qi ((Qi ((Qi ((Qi (g+(a.Vars.length:Int)))+(a.Ins.length:Int)))+(a.Outs.length:Int)))+(a.Cancel.length:Int))))) (λl=>G f [.S 137 (.b true),6,.S 142 (.b ((200<(Qi ((Qi ((Qi ((Qi (g+(a.Vars.length:Int)))+(a.Ins.length:Int)))+(a.Outs.length:Int)))+(a.Cancel.length:Int))))||(100<(a.Name.size:Int))))] Z ⟨(tc_ l),(cb_ (Eh l Z))⟩<|M Z) λl=>G f [.S 137 (.b false),6,.S 142 (.b ((200<(Qi ((Qi ((Qi ((Qi (g+(a.Vars.length:Int)))+(a.Ins.length:Int)))+(a.Outs.length:Int)))+(a.Cancel.length:Int))))||(100<(a.Name.size:Int))))] Z ⟨(tc_ l),(cb_ (Ji l Z))⟩<|M Z)<|H f [1] Z<|I h (λa3 h=>J f [.T,9] Z a3<|rR_ h Z) λa3 h=>J f [.F,9] Z a3<|lq_ h (λst=>⟨[lk_ 1,(3,.I e),(7,.I (Qi ((Qi ((Qi ((Qi (g+(a.Vars.length:Int)))+(a.Ins.length:Int)))+(a.Outs.length:Int)))+(a.Cancel.length:Int)))),(8,.I k),lk_ 9,(10,.I st)],[(1,.var (Qa i)),(9,.var (Qg a))]⟩) (λq=>(.ret,⟨[(2,.b false)],[]⟩)) (λq=>(.exit 8,⟨[lk_ 1,(3,.I e),(7,.I (Qi ((Qi ((Qi ((Qi (g+(a.Vars.length:Int)))+(a.Ins.length:Int)))+(a.Outs.length:Int)))+(a.Cancel.length:Int)))),(8,.I k),lk_ 9],[(1,.var (Qa i)),(9,.var (Qg a))]⟩)) Z (λe5 o h=>J f [6,.o (.ln a.Vars.length),3] Z Qc<|I h (λa4 h=>B h λd7 c5 h=>K f [.T,9,.o (.row (Xe d7)),6] Z a4 (Xi c5)<|I h (λa5 h=>J f [.T,8] Z a5<|rR_ h Z) λa5 h=>J f [.F,8] Z a5<|rN_ h Z) λa4 h=>J f [.F,2] Z a4<|rX_ h Z) (λ_ h=>H f [4] Z<|rR_ h Z) (λ_ h=>B h λd8 c6 h=>K f [5,.A (Qs a.Guard),.o (.C1 (.b d8)),10] Z Z (Oy _ _ c6)<|lp_ h (λst=>⟨[lk_ 1,(3,.I e),(7,.I (Qi ((Qi ((Qi ((Qi (g+(a.Vars.length:Int)))+(a.Ins.length:Int)))+(a.Outs.length:Int)))+(a.Cancel.length:Int)))),(8,.I k),lk_ 9,(11,.b st.1),(12,.I st.2)],[(1,.var (Qa i)),(9,.var (Qg a))]⟩) (λq=>(.exit 10,⟨[lk_ 1,(3,.I e),(7,.I (Qi ((Qi ((Qi ((Qi (g+(a.Vars.length:Int)))+(a.Ins.length:Int)))+(a.Outs.length:Int)))+(a.Cancel.length:Int)))),(8,.I k),lk_ 9,(11,.b q)],[(1,.var (Qa i)),(9,.var (Qg a))]⟩)) Z (λ⟨s,d9⟩ o h=>J f [6,.o (.ln a.Ins.length),3] Z Qc<|I h (λa6 h=>B h λc7 c8 h=>B h λa9 c9 h=>g4_ f [.T,9,.o (.row (Xf c7)),1,.A (Qs c7.Expr),.o (.C1 (.b a9)),3] Z a6 (Xi c8) Z (Oy _ _ c9)<|Y ⟨[lk_ 1,(3,.I e),(7,.I (Qi ((Qi ((Qi ((Qi (g+(a.Vars.length:Int)))+(a.Ins.length:Int)))+(a.Outs.length:Int)))+(a.Cancel.length:Int)))),(8,.I k),lk_ 9,(11,.b (s&&a9)),(12,.I d9)],[(1,.var (Qa i)),(9,.var (Qg a))]⟩ (H f [3] Z<|bO_ s (λm=>G f [.S 176 (.b true),4,.S 11 (.b (s&&a9))] Z ⟨(tc_ m),(cb_ (Yx m Z))⟩<|M Z) λm=>G f [.S 176 (.b false),4,.S 11 (.b (s&&a9))] Z ⟨(tc_ m),(cb_ (KL m Z))⟩<|M Z)<|H f [7] Z<|rN_ h Z) λa6 h=>J f [.F,2] Z a6<|rX_ h Z) λe1 h=>H f [9] Z<|lp_ h (λst=>⟨[lk_ 1,(3,.I e),(7,.I (Qi ((Qi ((Qi ((Qi (g+(a.Vars.length:Int)))+(a.Ins.length:Int)))+(a.Outs.length:Int)))+(a.Cancel.length:Int)))),(8,.I k),lk_ 9,(11,.b st.1),(14,.I st.2)],[(1,.var (Qa i)),(9,.var (Qg a))]⟩) (λq=>(.exit 12,⟨[lk_ 1,(3,.I e),(7,.I (Qi ((Qi ((Qi ((Qi (g+(a.Vars.length:Int)))+(a.Ins.length:Int)))+(a.Outs.length:Int)))+(a.Cancel.length:Int)))),(8,.I k),(11,.b q)],[(1,.var (Qa i))]⟩)) Z (λ⟨t,e0⟩ o h=>J f [6,.o (.ln a.Outs.length),3] Z Qc<|I h (λa7 h=>B h λd0 d1 h=>B h λb0 d2 h=>g4_ f [.T,9,.o (.row (Xf d0)),1,.A (Qs d0.Expr),.o (.C1 (.b b0)),3] Z a7 (Xi d1) Z (Oy _ _ d2)<|Y ⟨[lk_ 1,(3,.I e),(7,.I (Qi ((Qi ((Qi ((Qi (g+(a.Vars.length:Int)))+(a.Ins.length:Int)))+(a.Outs.length:Int)))+(a.Cancel.length:Int)))),(8,.I k),lk_ 9,(11,.b (t&&b0)),(14,.I e0)],[(1,.var (Qa i)),(9,.var (Qg a))]⟩ (H f [3] Z<|bO_ t (λp=>G f [.S 194 (.b true),4,.S 11 (.b (t&&b0))] Z ⟨(tc_ p),(cb_ (Yx p Z))⟩<|M Z) λp=>G f [.S 194 (.b false),4,.S 11 (.b (t&&b0))] Z ⟨(tc_ p),(cb_ (KL p Z))⟩<|M Z)<|H f [7] Z<|rN_ h Z) λa7 h=>J f [.F,2] Z a7<|rX_ h Z) λe2 h=>H f [8] Z<|I h (λa8 h=>J f [.T,8] Z a8<|rR_ h Z) λa8 h=>J f [.F,8] Z a8<|rN_ h Z)) λa2 h=>J f [.F,2] Z a2<|rX_ h Z) (λ_ h=>H f [2] Z<|E h Z U) (λ_ h=>H f [10] Z<|E h Z U)))
def OB (c:QMk)(d:Int)(a:Int):O_ ((Int×Int)⊕Int):=bif ((a<(c.length:Int))&&(a<100))then (idx c a).bind λb=>some (.inl ((Qi (d+(b.length:Int))),(Qi (a+1))))else some (.inr d)
def QgA (a:QMk)(b:Int):O_ Bool:=some (((a.length:Int)<=70)&&(b<=300))
def OW (a:QMk):O_ Bool:=(QD (λst=>OB a st.1 st.2) (0,0)).bind (λq=>QgA a q)
def QgB (c):CT 84 [.sl 1 (c.map Qh)] [] (OW c) V.b no_:=
 W 29 func84 Z λC d r h=>H d [17] Z<|lp_ h (λst=>⟨[(0,.sl 1 (c.map Qh)),(3,.I st.1),(4,.I st.2)],[]⟩) (λq=>(.exit 0,⟨[(0,.sl 1 (c.map Qh)),(3,.I q)],[]⟩)) Z (λ⟨l,g⟩ o h=>H d [2] Z<|Y ⟨[(0,.sl 1 (c.map Qh)),(3,.I l),(4,.I g),(12,.b ((g<(c.length:Int))&&(g<100)))],[]⟩ (J d [3,.o (.ln c.length),2] Z Qc<|bO_ (decide (g<(c.length:Int))) (λe=>G d [.S 9 (.b true),4,.S 12 (.b ((g<(c.length:Int))&&(g<100)))] Z ⟨(tc_ e),(cb_ (Yx e Z))⟩<|M Z) λe=>G d [.S 9 (.b false),4,.S 12 (.b ((g<(c.length:Int))&&(g<100)))] Z ⟨(tc_ e),(cb_ (KL e Z))⟩<|M Z)<|H d [1] Z<|I h (λf h=>B h λi j h=>g3_ d [.T,8,.o (.row (Qh i)),1,.o (.ln i.length),10] Z f (Xi j) Qc<|rN_ h Z) λf h=>J d [.F,2] Z f<|rX_ h Z) λk h=>H d [3] Z<|Y ⟨[(2,.b (((c.length:Int)<=70)&&(k<=300)))],[]⟩ (J d [2,.o (.ln c.length),2] Z Qc<|bO_ (decide ((c.length:Int)<=70)) (λa=>G d [.S 25 (.b true),5,.S 2 (.b (((c.length:Int)<=70)&&(k<=300)))] Z ⟨(tc_ a),(cb_ (Yx a Z))⟩<|M Z) λa=>G d [.S 25 (.b false),5,.S 2 (.b (((c.length:Int)<=70)&&(k<=300)))] Z ⟨(tc_ a),(cb_ (KL a Z))⟩<|M Z)<|H d [2] Z<|E h Z U
def LN (a:Qe):O_ Bool:=some (((a.Places.length:Int)<=64)&&((a.Tasks.length:Int)<=64))
def Qeg (a):CT 134 [.L 618] [(618,.var (Qa a))] (LN a) V.b (λ_=>[(618,.var (Qa a))]):=
 W 12 func134 Z λC d r h=>H d [6] Z<|Y ⟨[(1,.b (((a.Places.length:Int)<=64)&&((a.Tasks.length:Int)<=64)))],[(618,.var (Qa a))]⟩ (J d [3,.o (.ln a.Places.length),2] Z Qc<|bO_ (decide ((a.Places.length:Int)<=64)) (λc=>G d [.S 6 (.b true),2,.o (.ln a.Tasks.length),4,.S 1 (.b (((a.Places.length:Int)<=64)&&((a.Tasks.length:Int)<=64)))] Z ⟨⟨(tc_ c),Qc⟩,(cb_ (Yx c Z))⟩<|M Z) λc=>G d [.S 6 (.b false),7,.S 1 (.b (((a.Places.length:Int)<=64)&&((a.Tasks.length:Int)<=64)))] Z ⟨(tc_ c),(cb_ (KL c Z))⟩<|M Z)<|H d [2] Z<|E h Z r1_
def YB (b:(L_ QM))(a:Int):O_ Bool:=some ((0<=a)&&(a<(b.length:Int)))
def JW (d c):CT 136 [.sl 3 (d.map Qp),.I c] [] (YB d c) V.b no_:=
 W 13 func136 Z λC e r h=>H e [6] Z<|Y ⟨[(4,.b ((0<=c)&&(c<(d.length:Int))))],[]⟩ (H e [4] Z<|bO_ (decide (0<=c)) (λa=>G e [.S 7 (.b true),2,.o (.ln d.length),4,.S 4 (.b ((0<=c)&&(c<(d.length:Int))))] Z ⟨⟨(tc_ a),Qc⟩,(cb_ (Yx a Z))⟩<|M Z) λa=>G e [.S 7 (.b false),7,.S 4 (.b ((0<=c)&&(c<(d.length:Int))))] Z ⟨(tc_ a),(cb_ (KL a Z))⟩<|M Z)<|H e [2] Z<|E h Z U
def SB (a:Qe):O_ Bool:=(YB a.Places a.From).bind λb=>bif b then (YB a.Places a.To).bind λc=>some c else some false
def SC (a:Bool):O_ Bool:=some a
def LO (a:Qe):O_ Bool:=(SB a).bind (λb=>SC b)
def Qeh (f):CT 135 [.L 618] [(618,.var (Qa f))] (LO f) V.b (λ_=>[(618,.var (Qa f))]):=
 W 14 func135 Z λC e r h=>H e [6] Z<|mV_ h (λg=>⟨[(1,.b g)],[(618,.var (Qa f))]⟩) (λg h=>B h λk i h=>J e [5,.o (.C2 (.b k)),1] Z (JW _ _ _ i)<|I h (λa h=>B h λl j h=>G e [.S 7 (.b true),4,.o (.C2 (.b l)),3] Z ⟨(tc_ a),(JW _ _ _ j)⟩<|mq_ h Z) λa h=>L e [.S 7 (.b false),8] Z a<|mq_ h Z) λg h=>H e [2] Z<|E h Z r1_
def LP (a:Qe):O_ Bool:=some (a.From != a.To)
def Qei (a):CT 137 [.L 618] [(618,.var (Qa a))] (LP a) V.b (λ_=>[(618,.var (Qa a))]):=
 W 7 func137 Z λC c r h=>H c [16] Z<|E h Z r1_
def LQ (a:Qe)(c:Int)(d:Int)(e:Int):O_ Int:=(LN a).bind λf=>bif (!f)then some c else (LO a).bind λg=>bif (!g)then some d else (LP a).bind λb=>bif (!b)then some e else some 0
def Qej (i l m p):CT 133 [.own 618 3] [(618,.var [.clo (.func 134) [] [.L 619],.I l,.clo (.func 135) [] [.L 619],.I m,.clo (.func 137) [] [.L 619],.I p]),(619,.var (Qa i))] (LQ i l m p) V.I (λ_=>[(618,.var [.clo (.func 134) [] [.L 619],.I l,.clo (.func 135) [] [.L 619],.I m,.clo (.func 137) [] [.L 619],.I p]),(619,.var (Qa i))]):=
 W 18 func133 Z λC a r h=>H a [14] Z<|AK.loopN 4<|AK.rnd<|B h λu q h=>g4_ a [2,.v .no [] (.b true),10,.o (.any (.L 618) none),3,.O 4 (.var [.clo (.func 134) [] [.L 619],.I l]),6,.cm (.clo) [(618,619)] [(619,618)] [] [.d] [(618,.var (Qa i))] (.b u),3] Z Z (λσ f j _=>Stp.idxV Z Z (QR a.n Z) (f _ _ Z) (f _ _ Z) (Qt.es Z) (j _ _ Z) (by decide)) Z (Qeg _ _ q)<|I h (λg h=>J a [.T,13] Z g<|E h Z r2_) λg h=>K a [.F,4,.v .no [] (.I 1),2] Z g Z<|AK.met<|AK.rnd<|B h λw s h=>g4_ a [2,.v .no [] (.b true),10,.o (.any (.loc 618 0 2) none),1,.kill 4,2,.O 4 (.var [.clo (.func 135) [] [.L 619],.I m]),6,.cm (.clo) [(618,619)] [(619,618)] [] [.d] [(618,.var (Qa i))] (.b w),3] Z Z (λσ f j _=>Stp.idxV Z Z (QR a.n Z) (f _ _ Z) (f _ _ Z) (Qt.es Z) (j _ _ Z) (by decide)) Z (Qeh _ _ s)<|I h (λc h=>J a [.T,13] Z c<|E h Z r2_) λc h=>K a [.F,4,.v .no [] (.I 2),2] Z c Z<|AK.met<|AK.rnd<|B h λt k h=>g4_ a [2,.v .no [] (.b true),10,.o (.any (.loc 618 0 4) none),1,.kill 4,2,.O 4 (.var [.clo (.func 137) [] [.L 619],.I p]),6,.cm (.clo) [(618,619)] [(619,618)] [] [.d] [(618,.var (Qa i))] (.b t),3] Z Z (λσ f j _=>Stp.idxV Z Z (QR a.n Z) (f _ _ Z) (f _ _ Z) (Qt.es Z) (j _ _ Z) (by decide)) Z (Qei _ _ k)<|I h (λe h=>J a [.T,13] Z e<|E h Z r2_) λe h=>K a [.F,4,.v .no [] (.I 3),2] Z e Z<|AK.met<|AK.rnd<|J a [2,.v .no [] (.b false),15] Z Z<|E h Z r2_
def Io (a:(L_ QI)):O_ Bool:=(Bo a).bind λb=>some b.2
def Qdg (e):CT 189 [.sl 7 (e.map Qr)] [] (Io e) V.b no_:=
 W 11 func189 Z λC g r h=>B h λf a h=>J g [8,.o (.C1 (.tup [.sl 1 (f.1.map Qb),.b f.2])),14] Z (PP _ _ a)<|E h Z U
def Us (b:Qe)(a:Int):O_ Bool:=(chk (decide (0<=(Qi (a+1)))&&decide (0<=(Qi (a+1)).toNat)&&decide ((Qi (a+1)).toNat<=b.Colours.length))).bind λ_=>(Io ((b.Colours.drop 0).take ((Qi (a+1)).toNat-0))).bind λc=>some c
def VG (e f):CT 188 [.L 618,.L 619] [(618,.var (Qa e)),(619,.var (Qb f))] (Us e f) V.b (λ_=>[(618,.var (Qa e)),(619,.var (Qb f))]):=
 W 9 func188 Z λC i r h=>X h λa h=>B h λk g h=>K i [11,.o (.any (.sl 7 (((e.Colours.drop 0).take ((Qi (f+1)).toNat-0)).map Qr)) none),.o (.C1 (.b k)),4] Z (λσ j l _=>Stp.sliceD Z Z (QR i.n Z) (j _ _ Z) (Qt.es Z) EO.no (EO.val (j _ _ Z) (Xs (QbA a)) Z) (Xs (QbB a)) (Yh (Xs (QbC a)) (Nat.le_of_eq Qc.symm)) Qe0) (Qdg _ _ g)<|E h Z r2_
def SD (x:ByteArray):O_ (L_ ByteArray):=(chk (Qid x)).bind λ_=>some (UM x)
def Qa5 (x){r}(h:SD x=some r):QU prog 308 [.s x] [] (Gives (.own 600 r.length) [(600,.arr 1 (r.map DR))]):=by
 obtain⟨_,a,h⟩:=Qv h
 cases h
 exact Qhf QkU (by kernel_rfl) (by kernel_rfl) x (Qf4 a)
def CL  : O_ (L_ ByteArray):=(SD (⟨#[99,111,108,111,117,114,32,112,108,97,99,101,32,116,97,115,107,32,118,97,114,32,119,104,101,110,32,106,111,105,110,32,115,112,108,105,116,32,105,110,32,111,117,116,32,99,97,110,99,101,108,32,97,102,116,101,114,32,109,97,110,121,32,102,114,111,109,32,116,111,32,105,110,116,32,101,110,117,109,32,112,97,105,114,32,97,110,100,32,120,111,114,32,111,114,32,105,102]⟩:ByteArray)).bind λa=>some a
def Qek  : CT 288 [] [] (CL ) (λr=>(.own 600 r.length)) (λr=>[(600,.arr 1 (r.map DR))]):=
 W 2 func288 Z λC c r h=>B h λb a h=>J c [7,.o (.co false [.d] 1 (b.map DR) b.length),4,.K [0] [1],.ren 1 600] Z ⟨(Qa5 _ a),Qc,.inl Z⟩<|E h Z r1_
def De (b:(L_ ByteArray))(c:ByteArray)(a:Int):O_ (Int⊕(Int⊕Unit)):=bif (a<(b.length:Int))then (idx b a).bind λd=>bif (BV c d)then some (.inr (.inl a))else some (.inl (Qi (a+1)))else some (.inr (.inr ()))
def Df (a:Int):O_ Int:=some a
def Dg : O_ Int:=some (-1)
def Wf (a:(L_ ByteArray))(b:ByteArray):O_ Int:=(QD (λst=>De a b st) 0).bind (Sum.elim (λq=>Df q) (λq=>Dg))
def MH (d e):CT 307 [.sl 1 (d.map DR),.s e] [] (Wf d e) V.I no_:=
 W 19 func307 Z λC b r h=>J b [9,.o (.ln d.length),4] Z Qc<|lq_ h (λst=>⟨[(0,.sl 1 (d.map DR)),(1,.s e),(7,.I (d.length:Int)),(8,.I st)],[]⟩) (λq=>(.ret,⟨[(4,.I q)],[]⟩)) (λq=>(.exit 0,⟨[],[]⟩)) Z (λi o h=>H b [6] Z<|I h (λc h=>B h λg f h=>K b [.T,15,.o (.row (DR g)),4] Z c (Xi f)<|I h (λa h=>J b [.T,9] Z a<|rR_ h Z) λa h=>J b [.F,7] Z a<|rN_ h Z) λc h=>J b [.F,2] Z c<|rX_ h Z) (λj h=>H b [2] Z<|E h Z U) (λ_ h=>H b [8] Z<|E h Z U)
def Kc (a:(L_ ByteArray))(b:ByteArray):O_ Bool:=(Wf a b).bind λc=>some (decide (0<=c))
def IY (e f):CT 287 [.sl 1 (e.map DR),.s f] [] (Kc e f) V.b no_:=
 W 9 func287 Z λC g r h=>B h λi a h=>J g [9,.o (.C2 (.I i)),5] Z (MH _ _ _ a)<|E h Z U
def NC (a:ByteArray):O_ Bool:=(CL).bind λb=>(Kc b a).bind λc=>some c
def Qfp (g):CT 239 [.s g] [] (NC g) V.b no_:=
 W 6 func239 Z λC i r h=>B h λa e h=>B h λj f h=>K i [7,.o (.co false [] 1 (a.map DR) a.length),1,.o (.c true [.o (a.map DR),.d] (.b j)),4] Z ⟨(Qek _  e),Qc,.inl Z⟩ ⟨(VR Z),(IY _ _ _ f)⟩<|E h Z U
def TS (a:ByteArray):O_ Bool:=(UP a).bind λb=>bif b then (NC a).bind λc=>some (!c)else some false
def TT (a:Bool):O_ Bool:=some a
def GC (a:ByteArray):O_ Bool:=(TS a).bind (λb=>TT b)
def Ak (j):CT 185 [.s j] [] (GC j) V.b no_:=
 W 10 func185 Z λC e r h=>H e [6] Z<|mV_ h (λf=>⟨[(2,.b f)],[]⟩) (λf h=>B h λk g h=>J e [2,.o (.C1 (.b k)),1] Z (Md _ _ g)<|I h (λa h=>B h λl i h=>G e [.S 5 (.b true),1,.o (.C1 (.b l)),4] Z ⟨(tc_ a),(Qfp _ _ i)⟩<|mq_ h Z) λa h=>L e [.S 5 (.b false),6] Z a<|mq_ h Z) λf h=>H e [2] Z<|E h Z U
def GS (a:ByteArray):O_ Bool:=(GC a).bind λb=>some (!b)
def SE (e):CT 187 [.s e] [] (GS e) V.b no_:=
 W 6 func187 Z λC f r h=>B h λg a h=>J f [8,.o (.C1 (.b g)),5] Z (Ak _ _ a)<|E h Z U
def Wg (b:(L_ ByteArray))(a:Int):O_ (Int⊕(Int⊕Unit)):=bif (a<(b.length:Int))then (idx b a).bind λc=>(GS c).bind λd=>bif d then some (.inr (.inl a))else some (.inl (Qi (a+1)))else some (.inr (.inr ()))
def Wh (a:Int):O_ Int:=some a
def Wi : O_ Int:=some (-1)
def JP (a:(L_ ByteArray)):O_ Int:=(QD (λst=>Wg a st) 0).bind (Sum.elim (λq=>Wh q) (λq=>Wi))
def Ip (g):CT 240 [.sl 1 (g.map DR),.clo (.func 187) [] []] [] (JP g) V.I no_:=
 W 19 func240 Z λC e r h=>J e [9,.o (.ln g.length),4] Z Qc<|lq_ h (λst=>⟨[(0,.sl 1 (g.map DR)),(1,.clo (.func 187) [] []),(7,.I (g.length:Int)),(8,.I st)],[]⟩) (λq=>(.ret,⟨[(4,.I q)],[]⟩)) (λq=>(.exit 0,⟨[],[]⟩)) Z (λm o h=>H e [6] Z<|I h (λf h=>B h λk i h=>B h λl j h=>g3_ e [.T,15,.o (.row (DR k)),1,.o (.C1 (.b l)),2] Z f (Xi i) (SE _ _ j)<|I h (λa h=>J e [.T,9] Z a<|rR_ h Z) λa h=>J e [.F,7] Z a<|rN_ h Z) λf h=>J e [.F,2] Z f<|rX_ h Z) (λp h=>H e [2] Z<|E h Z U) (λ_ h=>H e [8] Z<|E h Z U)
def Jp (a:(L_ ByteArray)):O_ Bool:=(JP a).bind λb=>some (decide (0<=b))
def Fi (c):CT 186 [.sl 1 (c.map DR),.clo (.func 187) [] []] [] (Jp c) V.b no_:=
 W 9 func186 Z λC e r h=>B h λf a h=>J e [9,.cm (.fn) [] [] [] [.d,.d] [] (.I f),5] Z (Ip _ _ a)<|E h Z U
def Lt (a:QI):O_ Bool:=(GC a.Name).bind λb=>bif b then bif (a.Kind != 2)then some true else (Jp a.Names).bind λc=>some (!c)else some false
def Lu (a:Bool):O_ Bool:=some a
def Ut (a:QI):O_ Bool:=(Lt a).bind (λb=>Lu b)
def VH (g):CT 184 [.L 618] [(618,.var (Qr g))] (Ut g) V.b (λ_=>[(618,.var (Qr g))]):=
 W 16 func184 Z λC a r h=>H a [6] Z<|mV_ h (λi=>⟨[(1,.b i)],[(618,.var (Qr g))]⟩) (λi h=>B h λl j h=>J a [3,.o (.C1 (.b l)),1] Z (Ak _ _ j)<|I h (λe h=>L a [.S 5 (.b true),4] Z e<|I h (λf h=>L a [.S 9 (.b true),8] Z f<|mq_ h Z) λf h=>B h λm k h=>G a [.S 9 (.b false),2,.cm (.fn) [] [] [] [.d,.d] [] (.b m),5] Z ⟨(tc_ f),(Fi _ _ k)⟩<|mq_ h Z) λe h=>L a [.S 5 (.b false),12] Z e<|mq_ h Z) λi h=>H a [2] Z<|E h Z r1_
def Ch (b:Qe)(c:Int)(d:Int)(e:QI)(f:Int):O_ Int:=(Us b c).bind λg=>bif (!g)then some d else (Ut e).bind λa=>bif (!a)then some f else some 0
def Qa6 (i j k l m):CT 133 [.own 618 2] [(618,.var [.clo (.func 188) [] [.L 619,.L 620],.I k,.clo (.func 184) [] [.L 621],.I m]),(619,.var (Qa i)),(620,.var (Qb j)),(621,.var (Qr l))] (Ch i j k l m) V.I (λ_=>[(618,.var [.clo (.func 188) [] [.L 619,.L 620],.I k,.clo (.func 184) [] [.L 621],.I m]),(619,.var (Qa i)),(620,.var (Qb j)),(621,.var (Qr l))]):=
 W 18 func133 Z λC c r h=>H c [14] Z<|AK.loopN 3<|AK.rnd<|B h λt p h=>g4_ c [2,.v .no [] (.b true),10,.o (.any (.L 618) none),3,.O 4 (.var [.clo (.func 188) [] [.L 619,.L 620],.I k]),6,.cm (.clo) [(618,619),(619,620)] [(619,618),(620,619)] [] [.d,.d] [(618,.var (Qa i)),(619,.var (Qb j))] (.b t),3] Z Z (λσ f q _=>Stp.idxV Z Z (QR c.n Z) (f _ _ Z) (f _ _ Z) (Qt.es Z) (q _ _ Z) (by decide)) Z (VG _ _ _ p)<|I h (λe h=>J c [.T,13] Z e<|E h Z r4_) λe h=>K c [.F,4,.v .no [] (.I 1),2] Z e Z<|AK.met<|AK.rnd<|B h λs g h=>g4_ c [2,.v .no [] (.b true),10,.o (.any (.loc 618 0 2) none),1,.kill 4,2,.O 4 (.var [.clo (.func 184) [] [.L 621],.I m]),6,.cm (.clo) [(618,621)] [(621,618)] [] [.d] [(618,.var (Qr l))] (.b s),3] Z Z (λσ f q _=>Stp.idxV Z Z (QR c.n Z) (f _ _ Z) (f _ _ Z) (Qt.es Z) (q _ _ Z) (by decide)) Z (VH _ _ g)<|I h (λa h=>J c [.T,13] Z a<|E h Z r4_) λa h=>K c [.F,4,.v .no [] (.I 2),2] Z a Z<|AK.met<|AK.rnd<|J c [2,.v .no [] (.b false),15] Z Z<|E h Z r4_
def AW (a:Int)(b:QI)(c:Qe):O_ Int:=(Ch c a 8 b 8).bind λd=>some d
def Qat (b c a):CT 183 [.I b,.agg (Qr c),.L 618] [(618,.var (Qa a))] (AW b c a) V.I (λ_=>[(618,.var (Qa a))]):=
 W 16 func183 Z λC f r h=>B h λg e h=>g4_ f [22,.A [.clo (.func 188) [] [.L 618,.L 3],.I 8],1,.A [.clo (.func 184) [] [.L 4],.I 8],.o (.any (.own 14 2) (some (.var [.clo (.func 188) [] [.L 618,.L 3],.I 8,.clo (.func 184) [] [.L 4],.I 8]))),.cm (.fn) [(618,14),(619,618),(620,3),(621,4)] [(14,618),(618,619),(3,620),(4,621)] [] [.d] [(618,.var [.clo (.func 188) [] [.L 619,.L 620],.I 8,.clo (.func 184) [] [.L 621],.I 8]),(619,.var (Qa a)),(620,.var (Qb b)),(621,.var (Qr c))] (.I g),4] Z Z Z (λσ i j D=>Stp.buildAny Z Z (QR f.n Z) (Qt.es Z) Pi Z (by decide) (by decide) (DZ i Z) Z Z (D Z)) (Qa6 _ _ _ _ _ _ e)<|E h Z r1_
def Ed (d:(L_ QI))(e:Qe)(a:Int):O_ (Int⊕((Int×Int)⊕Unit)):=bif (a<(d.length:Int))then (idx d a).bind λc=>(AW a c e).bind λb=>bif (b != 0)then some (.inr (.inl (a,b)))else some (.inl (Qi (a+1)))else some (.inr (.inr ()))
def Ee (b:Int)(a:Int):O_ (Int×Int):=some (b,a)
def Ef : O_ (Int×Int):=some (0,0)
def DS (a:(L_ QI))(b:Qe):O_ (Int×Int):=(QD (λst=>Ed a b st) 0).bind (Sum.elim (λq=>Ee q.1 q.2) (λq=>Ef))
def PH (g f):CT 182 [.sl 7 (g.map Qr),.clo (.func 183) [] [.L 618]] [(618,.var (Qa f))] (DS g f) (λr=>(.tup [.I r.1,.I r.2])) (λ_=>[(618,.var (Qa f))]):=
 W 25 func182 Z λC e r h=>J e [10,.o (.ln g.length),4] Z Qc<|lq_ h (λst=>⟨[(1,.clo (.func 183) [] [.L 618]),(9,.sl 7 (g.map Qr)),(10,.I (g.length:Int)),(11,.I st)],[(618,.var (Qa f))]⟩) (λq=>(.ret,⟨[(4,.I q.1),(5,.I q.2)],[(618,.var (Qa f))]⟩)) (λq=>(.exit 0,⟨[],[(618,.var (Qa f))]⟩)) Z (λm o h=>H e [6] Z<|I h (λa h=>B h λc i h=>B h λk j h=>G e [.T,7,.o (.row (Qr c)),.A (Qr c),3,.O 7 (.var (Qr c)),6,.A (Qr c),.cm (.clo) [(618,618)] [(618,618)] [] [.d,.d,.d] [(618,.var (Qa f))] (.I k),9] Z (a6_ a (Xi i) Z Z Z (Qat _ _ _ _ j))<|I h (λb h=>J e [.T,11] Z b<|rR_ h Z) λb h=>J e [.F,7] Z b<|rN_ h Z) λa h=>J e [.F,2] Z a<|rX_ h Z) (λ⟨p,l⟩ h=>H e [2] Z<|F h Z Z r1_) (λ_ h=>H e [9] Z<|F h Z Z r1_)
def Al (a:Qe):O_ (Int×Int):=(DS a.Colours a).bind λb=>some (b.1,b.2)
def Po (a):CT 138 [.agg (Qa a)] [] (Al a) (λr=>(.tup [.I r.1,.I r.2])) no_:=
 W 10 func138 Z λC e r h=>B h λc b h=>J e [12,.cm (.fn) [(618,1)] [(1,618)] [] [.d,.d] [(618,.var (Qa a))] (.tup [.I c.1,.I c.2]),7] Z (PH _ _ _ b)<|F h Z Z U
def FJ (a:QM):O_ Bool:=(GC a.Name).bind λb=>some b
def Qb0 (a):CT 191 [.L 618] [(618,.var (Qp a))] (FJ a) V.b (λ_=>[(618,.var (Qp a))]):=
 W 5 func191 Z λC f r h=>B h λg e h=>J f [9,.o (.C1 (.b g)),4] Z (Ak _ _ e)<|E h Z r1_
def FK (a:QM)(b:QM):O_ Bool:=some (BV a.Name b.Name)
def Qb1 (c a):CT 190 [.agg (Qp c),.L 618] [(618,.var (Qp a))] (FK c a) V.b (λ_=>[(618,.var (Qp a))]):=
 W 9 func190 Z λC d r h=>H d [17] Z<|E h Z r1_
def JG (c:(L_ QM))(d:QM)(a:Int):O_ (Int⊕(Int⊕Unit)):=bif (a<(c.length:Int))then (idx c a).bind λe=>(FK e d).bind λb=>bif b then some (.inr (.inl a))else some (.inl (Qi (a+1)))else some (.inr (.inr ()))
def JH (a:Int):O_ Int:=some a
def JI : O_ Int:=some (-1)
def YT (a:(L_ QM))(b:QM):O_ Int:=(QD (λst=>JG a b st) 0).bind (Sum.elim (λq=>JH q) (λq=>JI))
def BM (g e):CT 242 [.sl 3 (g.map Qp),.clo (.func 190) [] [.L 618]] [(618,.var (Qp e))] (YT g e) V.I (λ_=>[(618,.var (Qp e))]):=
 W 19 func242 Z λC c r h=>J c [9,.o (.ln g.length),4] Z Qc<|lq_ h (λst=>⟨[(0,.sl 3 (g.map Qp)),(1,.clo (.func 190) [] [.L 618]),(7,.I (g.length:Int)),(8,.I st)],[(618,.var (Qp e))]⟩) (λq=>(.ret,⟨[(4,.I q)],[(618,.var (Qp e))]⟩)) (λq=>(.exit 0,⟨[],[(618,.var (Qp e))]⟩)) Z (λm o h=>H c [6] Z<|I h (λf h=>B h λl j h=>B h λk i h=>g4_ c [.T,15,.o (.row (Qp l)),.A (Qp l),.cm (.clo) [(618,618)] [(618,618)] [] [.d,.d] [(618,.var (Qp e))] (.b k),2] Z f (Xi j) Z (Qb1 _ _ _ i)<|I h (λa h=>J c [.T,9] Z a<|rR_ h Z) λa h=>J c [.F,7] Z a<|rN_ h Z) λf h=>J c [.F,2] Z f<|rX_ h Z) (λp h=>H c [2] Z<|E h Z r1_) (λ_ h=>H c [8] Z<|E h Z r1_)
def YC (a:(L_ QM))(b:QM):O_ Bool:=(YT a b).bind λc=>some (decide (0<=c))
def AE (e a):CT 193 [.sl 3 (e.map Qp),.clo (.func 190) [] [.L 618]] [(618,.var (Qp a))] (YC e a) V.b (λ_=>[(618,.var (Qp a))]):=
 W 9 func193 Z λC f r h=>B h λg c h=>J f [9,.cm (.fn) [(618,618)] [(618,618)] [] [.d,.d] [(618,.var (Qp a))] (.I g),5] Z (BM _ _ _ c)<|E h Z r1_
def FL (b:Qe)(a:Int)(c:QM):O_ Bool:=(chk (decide (0<=a)&&decide (0<=a.toNat)&&decide (a.toNat<=b.Places.length))).bind λ_=>(YC ((b.Places.drop 0).take (a.toNat-0)) c).bind λd=>some (!d)
def Qb2 (f g i):CT 192 [.L 618,.L 619,.L 620] [(618,.var (Qa f)),(619,.var (Qb g)),(620,.var [.clo (.func 190) [] [.L 621]]),(621,.var (Qp i))] (FL f g i) V.b (λ_=>[(618,.var (Qa f)),(619,.var (Qb g)),(620,.var [.clo (.func 190) [] [.L 621]]),(621,.var (Qp i))]):=
 W 11 func192 Z λC e r h=>X h λc h=>B h λl k h=>H e [6,.K [0,1,2,3] [618,619,620,621]] Z <| 
  dr_ e [.N,.N,.N,.B (.any (.sl 3 (((f.Places.drop 0).take (g.toNat-0)).map Qp)) none),.N,.B (.any (.b l) none),.N,.m .s] [] [] [3] [618,619,620,621] Z Z (a2_ (λσ j o _=>Stp.sliceD Z Z (QR e.n Z) (j _ _ Z) (Qt.es Z) EO.no (EO.val (j _ _ Z) (Xs (QbA c)) Z) (Xs (QbB c)) (Yh (Xs (QbC c)) (Nat.le_of_eq Qc.symm)) Qe0) (λσ j o _=>Stp.callSame (md:=.cm (.fn) [(618,621)] [(621,618)] [] [.d,.d] [(618,.var (Qp i))] (.b l) [621]) Qt e j o Z (a2_ (AE _ _ _ k) r1_))) Z <|
  H e [2] Z<|E h Z r4_
def KW (b:(L_ QI))(a:Int):O_ Bool:=some ((0<=a)&&(a<(b.length:Int)))
def BS (d c):CT 195 [.sl 7 (d.map Qr),.I c] [] (KW d c) V.b no_:=
 W 13 func195 Z λC e r h=>H e [6] Z<|Y ⟨[(4,.b ((0<=c)&&(c<(d.length:Int))))],[]⟩ (H e [4] Z<|bO_ (decide (0<=c)) (λa=>G e [.S 7 (.b true),2,.o (.ln d.length),4,.S 4 (.b ((0<=c)&&(c<(d.length:Int))))] Z ⟨⟨(tc_ a),Qc⟩,(cb_ (Yx a Z))⟩<|M Z) λa=>G e [.S 7 (.b false),7,.S 4 (.b ((0<=c)&&(c<(d.length:Int))))] Z ⟨(tc_ a),(cb_ (KL a Z))⟩<|M Z)<|H e [2] Z<|E h Z U
def FN (a:Qe)(b:QM):O_ Bool:=(KW a.Colours b.Colour).bind λc=>some c
def Qb3 (a e):CT 194 [.L 618,.L 619] [(618,.var (Qa a)),(619,.var (Qp e))] (FN a e) V.b (λ_=>[(618,.var (Qa a)),(619,.var (Qp e))]):=
 W 8 func194 Z λC g r h=>B h λi f h=>J g [11,.o (.C2 (.b i)),4] Z (BS _ _ _ f)<|E h Z r2_
def FO (a:QM):O_ Bool:=(Wx a.First).bind λb=>some b
def Qb4 (a):CT 196 [.L 618] [(618,.var (Qp a))] (FO a) V.b (λ_=>[(618,.var (Qp a))]):=
 W 5 func196 Z λC f r h=>B h λg e h=>J f [9,.o (.C1 (.b g)),4] Z (HT _ _ e)<|E h Z r1_
def AX (a:(Int×Int))(b:Int):O_ Bool:=some (decide (b<=a.1))
def Qau (a c):CT 199 [.agg (QT a),.L 618] [(618,.var (Qb c))] (AX a c) V.b (λ_=>[(618,.var (Qb c))]):=
 W 8 func199 Z λC d r h=>H d [16] Z<|E h Z r1_
def Wj (c:QBg)(d:Int)(a:Int):O_ (Int⊕(Int⊕Unit)):=bif (a<(c.length:Int))then (idx c a).bind λe=>(AX e d).bind λb=>bif b then some (.inr (.inl a))else some (.inl (Qi (a+1)))else some (.inr (.inr ()))
def Wk (a:Int):O_ Int:=some a
def Wl : O_ Int:=some (-1)
def JQ (a:QBg)(b:Int):O_ Int:=(QD (λst=>Wj a b st) 0).bind (Sum.elim (λq=>Wk q) (λq=>Wl))
def Iq (g e):CT 243 [.sl 2 (g.map QT),.clo (.func 199) [] [.L 618]] [(618,.var (Qb e))] (JQ g e) V.I (λ_=>[(618,.var (Qb e))]):=
 W 19 func243 Z λC c r h=>J c [9,.o (.ln g.length),4] Z Qc<|lq_ h (λst=>⟨[(0,.sl 2 (g.map QT)),(1,.clo (.func 199) [] [.L 618]),(7,.I (g.length:Int)),(8,.I st)],[(618,.var (Qb e))]⟩) (λq=>(.ret,⟨[(4,.I q)],[(618,.var (Qb e))]⟩)) (λq=>(.exit 0,⟨[],[(618,.var (Qb e))]⟩)) Z (λm o h=>H c [6] Z<|I h (λf h=>B h λl j h=>B h λk i h=>g4_ c [.T,15,.o (.row (QT l)),.A (QT l),.cm (.clo) [(618,618)] [(618,618)] [] [.d,.d] [(618,.var (Qb e))] (.b k),2] Z f (Xi j) Z (Qau _ _ _ i)<|I h (λa h=>J c [.T,9] Z a<|rR_ h Z) λa h=>J c [.F,7] Z a<|rN_ h Z) λf h=>J c [.F,2] Z f<|rX_ h Z) (λp h=>H c [2] Z<|E h Z r1_) (λ_ h=>H c [8] Z<|E h Z r1_)
def Jq (a:QBg)(b:Int):O_ Bool:=(JQ a b).bind λc=>some (decide (0<=c))
def Fj (e a):CT 198 [.sl 2 (e.map QT),.clo (.func 199) [] [.L 618]] [(618,.var (Qb a))] (Jq e a) V.b (λ_=>[(618,.var (Qb a))]):=
 W 9 func198 Z λC f r h=>B h λg c h=>J f [9,.cm (.fn) [(618,618)] [(618,618)] [] [.d,.d] [(618,.var (Qb a))] (.I g),5] Z (Iq _ _ _ c)<|E h Z r1_
def FP (b:Qe)(a:QM):O_ Bool:=(YP b.Colours a.Colour).bind λc=>(Jq a.First c).bind λd=>some (!d)
def Qb5 (a e):CT 197 [.L 618,.L 619] [(618,.var (Qa a)),(619,.var (Qp e))] (FP a e) V.b (λ_=>[(618,.var (Qa a)),(619,.var (Qp e))]):=
 W 14 func197 Z λC j r h=>B h λf g h=>B h λk i h=>g3_ j [11,.o (.C2 (.I f)),2,.O 3 (.var (Qb f)),7,.cm (.fn) [(618,3)] [(3,618)] [] [.d,.d] [(618,.var (Qb f))] (.b k),5] Z (Cd _ _ _ g) Z (Fj _ _ _ i)<|E h Z r2_
def Ci (a:QM)(h:Int)(b:Qe)(i:Int)(j:Int)(k:Int)(l:Int)(m:Int):O_ Int:=(FJ a).bind λc=>bif (!c)then some h else (FL b i a).bind λd=>bif (!d)then some j else (FN b a).bind λe=>bif (!e)then some k else (FO a).bind λf=>bif (!f)then some l else (FP b a).bind λg=>bif (!g)then some m else some 0
def Qa7 (l w m x y z D N):CT 133 [.own 618 5] [(618,.var [.clo (.func 191) [] [.L 619],.I w,.clo (.func 192) [] [.L 620,.L 621,.L 622],.I y,.clo (.func 194) [] [.L 620,.L 619],.I z,.clo (.func 196) [] [.L 619],.I D,.clo (.func 197) [] [.L 620,.L 619],.I N]),(619,.var (Qp l)),(620,.var (Qa m)),(621,.var (Qb x)),(622,.var [.clo (.func 190) [] [.L 619]])] (Ci l w m x y z D N) V.I (λ_=>[(618,.var [.clo (.func 191) [] [.L 619],.I w,.clo (.func 192) [] [.L 620,.L 621,.L 622],.I y,.clo (.func 194) [] [.L 620,.L 619],.I z,.clo (.func 196) [] [.L 619],.I D,.clo (.func 197) [] [.L 620,.L 619],.I N]),(619,.var (Qp l)),(620,.var (Qa m)),(621,.var (Qb x)),(622,.var [.clo (.func 190) [] [.L 619]])]):=
 W 18 func133 Z λC a r h=>H a [14] Z<|AK.loopN 6<|AK.rnd<|B h λP p h=>g4_ a [2,.v .no [] (.b true),10,.o (.any (.L 618) none),3,.O 4 (.var [.clo (.func 191) [] [.L 619],.I w]),6,.cm (.clo) [(618,619)] [(619,618)] [] [.d] [(618,.var (Qp l))] (.b P),3] Z Z (λσ c k _=>Stp.idxV Z Z (QR a.n Z) (c _ _ Z) (c _ _ Z) (Qt.es Z) (k _ _ Z) (by decide)) Z (Qb0 _ _ p)<|I h (λe h=>J a [.T,13] Z e<|E h Z r5_) λe h=>K a [.F,4,.v .no [] (.I 1),2] Z e Z<|AK.met<|AK.rnd<|B h λS q h=>g4_ a [2,.v .no [] (.b true),10,.o (.any (.loc 618 0 2) none),1,.kill 4,2,.O 4 (.var [.clo (.func 192) [] [.L 620,.L 621,.L 622],.I y]),6,.cm (.clo) [(618,620),(619,621),(620,622),(621,619)] [(620,618),(621,619),(622,620),(619,621)] [] [.d,.d,.d] [(618,.var (Qa m)),(619,.var (Qb x)),(620,.var [.clo (.func 190) [] [.L 621]]),(621,.var (Qp l))] (.b S),3] Z Z (λσ c k _=>Stp.idxV Z Z (QR a.n Z) (c _ _ Z) (c _ _ Z) (Qt.es Z) (k _ _ Z) (by decide)) Z (Qb2 _ _ _ _ q)<|I h (λf h=>J a [.T,13] Z f<|E h Z r5_) λf h=>K a [.F,4,.v .no [] (.I 2),2] Z f Z<|AK.met<|AK.rnd<|B h λa0 s h=>g4_ a [2,.v .no [] (.b true),10,.o (.any (.loc 618 0 4) none),1,.kill 4,2,.O 4 (.var [.clo (.func 194) [] [.L 620,.L 619],.I z]),6,.cm (.clo) [(618,620),(619,619)] [(620,618),(619,619)] [] [.d,.d] [(618,.var (Qa m)),(619,.var (Qp l))] (.b a0),3] Z Z (λσ c k _=>Stp.idxV Z Z (QR a.n Z) (c _ _ Z) (c _ _ Z) (Qt.es Z) (k _ _ Z) (by decide)) Z (Qb3 _ _ _ s)<|I h (λg h=>J a [.T,13] Z g<|E h Z r5_) λg h=>K a [.F,4,.v .no [] (.I 3),2] Z g Z<|AK.met<|AK.rnd<|B h λa1 t h=>g4_ a [2,.v .no [] (.b true),10,.o (.any (.loc 618 0 6) none),1,.kill 4,2,.O 4 (.var [.clo (.func 196) [] [.L 619],.I D]),6,.cm (.clo) [(618,619)] [(619,618)] [] [.d] [(618,.var (Qp l))] (.b a1),3] Z Z (λσ c k _=>Stp.idxV Z Z (QR a.n Z) (c _ _ Z) (c _ _ Z) (Qt.es Z) (k _ _ Z) (by decide)) Z (Qb4 _ _ t)<|I h (λi h=>J a [.T,13] Z i<|E h Z r5_) λi h=>K a [.F,4,.v .no [] (.I 4),2] Z i Z<|AK.met<|AK.rnd<|B h λa2 u h=>g4_ a [2,.v .no [] (.b true),10,.o (.any (.loc 618 0 8) none),1,.kill 4,2,.O 4 (.var [.clo (.func 197) [] [.L 620,.L 619],.I N]),6,.cm (.clo) [(618,620),(619,619)] [(620,618),(619,619)] [] [.d,.d] [(618,.var (Qa m)),(619,.var (Qp l))] (.b a2),3] Z Z (λσ c k _=>Stp.idxV Z Z (QR a.n Z) (c _ _ Z) (c _ _ Z) (Qt.es Z) (k _ _ Z) (by decide)) Z (Qb5 _ _ _ u)<|I h (λj h=>J a [.T,13] Z j<|E h Z r5_) λj h=>K a [.F,4,.v .no [] (.I 5),2] Z j Z<|AK.met<|AK.rnd<|J a [2,.v .no [] (.b false),15] Z Z<|E h Z r5_
def LR (a:Qe)(b:Int):O_ Int:=(YB a.Places b).bind λc=>bif (!c)then some 3 else (idx a.Places b).bind λd=>(Ci d 1 a b 5 3 1 8).bind λe=>some e
def Qel (g i):CT 141 [.agg (Qa g),.I i] [] (LR g i) V.I no_:=
 W 30 func141 Z λC e r h=>B h λm j h=>J e [13,.o (.C2 (.b m)),3] Z (JW _ _ _ j)<|I h (λa h=>J e [.T,7] Z a<|E h Z U) λa h=>B h λf k h=>B h λp l h=>G e [.F,7,.o (.row (Qp f)),.A (Qp f),2,.O 5 (.var (Qp f)),7,.O 6 (.var [.clo (.func 190) [] [.L 5]]),5,.A [.clo (.func 191) [] [.L 5],.I 1],1,.A [.clo (.func 192) [] [.L 2,.L 3,.L 6],.I 5],1,.A [.clo (.func 194) [] [.L 2,.L 5],.I 3],1,.A [.clo (.func 196) [] [.L 5],.I 1],1,.A [.clo (.func 197) [] [.L 2,.L 5],.I 8],.o (.any (.own 28 5) (some (.var [.clo (.func 191) [] [.L 5],.I 1,.clo (.func 192) [] [.L 2,.L 3,.L 6],.I 5,.clo (.func 194) [] [.L 2,.L 5],.I 3,.clo (.func 196) [] [.L 5],.I 1,.clo (.func 197) [] [.L 2,.L 5],.I 8]))),.cm (.fn) [(618,28),(619,5),(620,2),(621,3),(622,6)] [(28,618),(5,619),(2,620),(3,621),(6,622)] [] [.d] [(618,.var [.clo (.func 191) [] [.L 619],.I 1,.clo (.func 192) [] [.L 620,.L 621,.L 622],.I 5,.clo (.func 194) [] [.L 620,.L 619],.I 3,.clo (.func 196) [] [.L 619],.I 1,.clo (.func 197) [] [.L 620,.L 619],.I 8]),(619,.var (Qp f)),(620,.var (Qa g)),(621,.var (Qb i)),(622,.var [.clo (.func 190) [] [.L 619]])] (.I p),4] Z (aC_ a (Xi k) Z Z Z Z Z Z Z Z (λσ q s D=>Stp.buildAny Z Z (QR e.n Z) (Qt.es Z) Pi Z (by decide) (by decide) (DZ q Z) Z Z (D Z)) (Qa7 _ _ _ _ _ _ _ _ _ l))<|E h Z U
def LS (a:Int)(d:QM)(b:Qe):O_ Int:=(LR b a).bind λc=>some c
def Qem (e f a):CT 140 [.I e,.agg (Qp f),.L 618] [(618,.var (Qa a))] (LS e f a) V.I (λ_=>[(618,.var (Qa a))]):=
 W 9 func140 Z λC g r h=>B h λi b h=>K g [8,.A (Qa a),1,.o (.C2 (.I i)),4] Z Z (Qel _ _ _ b)<|E h Z r1_
def EG (d:(L_ QM))(e:Qe)(a:Int):O_ (Int⊕((Int×Int)⊕Unit)):=bif (a<(d.length:Int))then (idx d a).bind λc=>(LS a c e).bind λb=>bif (b != 0)then some (.inr (.inl (a,b)))else some (.inl (Qi (a+1)))else some (.inr (.inr ()))
def EH (b:Int)(a:Int):O_ (Int×Int):=some (b,a)
def EI : O_ (Int×Int):=some (0,0)
def Gq (a:(L_ QM))(b:Qe):O_ (Int×Int):=(QD (λst=>EG a b st) 0).bind (Sum.elim (λq=>EH q.1 q.2) (λq=>EI))
def Ry (g f):CT 139 [.sl 3 (g.map Qp),.clo (.func 140) [] [.L 618]] [(618,.var (Qa f))] (Gq g f) (λr=>(.tup [.I r.1,.I r.2])) (λ_=>[(618,.var (Qa f))]):=
 W 25 func139 Z λC e r h=>J e [10,.o (.ln g.length),4] Z Qc<|lq_ h (λst=>⟨[(1,.clo (.func 140) [] [.L 618]),(9,.sl 3 (g.map Qp)),(10,.I (g.length:Int)),(11,.I st)],[(618,.var (Qa f))]⟩) (λq=>(.ret,⟨[(4,.I q.1),(5,.I q.2)],[(618,.var (Qa f))]⟩)) (λq=>(.exit 0,⟨[],[(618,.var (Qa f))]⟩)) Z (λm o h=>H e [6] Z<|I h (λa h=>B h λc i h=>B h λk j h=>G e [.T,7,.o (.row (Qp c)),.A (Qp c),3,.O 7 (.var (Qp c)),6,.A (Qp c),.cm (.clo) [(618,618)] [(618,618)] [] [.d,.d,.d] [(618,.var (Qa f))] (.I k),9] Z (a6_ a (Xi i) Z Z Z (Qem _ _ _ _ j))<|I h (λb h=>J e [.T,11] Z b<|rR_ h Z) λb h=>J e [.F,7] Z b<|rN_ h Z) λa h=>J e [.F,2] Z a<|rX_ h Z) (λ⟨p,l⟩ h=>H e [2] Z<|F h Z Z r1_) (λ_ h=>H e [9] Z<|F h Z Z r1_)
def Jm (b:(L_ QG))(a:Int):O_ Bool:=some ((0<=a)&&(a<(b.length:Int)))
def FQ (d c):CT 146 [.sl 14 (d.map Qg),.I c] [] (Jm d c) V.b no_:=
 W 13 func146 Z λC e r h=>H e [6] Z<|Y ⟨[(4,.b ((0<=c)&&(c<(d.length:Int))))],[]⟩ (H e [4] Z<|bO_ (decide (0<=c)) (λa=>G e [.S 7 (.b true),2,.o (.ln d.length),4,.S 4 (.b ((0<=c)&&(c<(d.length:Int))))] Z ⟨⟨(tc_ a),Qc⟩,(cb_ (Yx a Z))⟩<|M Z) λa=>G e [.S 7 (.b false),7,.S 4 (.b ((0<=c)&&(c<(d.length:Int))))] Z ⟨(tc_ a),(cb_ (KL a Z))⟩<|M Z)<|H e [2] Z<|E h Z U
def LT (a:Int)(b:Qe)(c:QG):O_ Unit:=some ()
def Qen (a b c):CT 205 [.L 618,.clo (.func 206) [] [.L 619,.L 620]] [(618,.var (Qb a)),(619,.var (Qa b)),(620,.var (Qg c))] (LT a b c) (λ_=>(.clo (.func 245) [] [.L 3,.L 2])) (λ_=>[(2,.var [.L 618]),(3,.var [.clo (.func 206) [] [.L 619,.L 620]]),(618,.var (Qb a)),(619,.var (Qa b)),(620,.var (Qg c))]):=
 W 6 func205 Z λC d r h=>H d [14] Z<|E h Z r5_
def Cj (a:Int)(b:Qe)(c:QG)(d:Int):O_ Unit:=some ()
def Qa8 (a b c d):CT 205 [.L 618,.clo (.func 211) [] [.L 619,.L 620,.L 621]] [(618,.var (Qb a)),(619,.var (Qa b)),(620,.var (Qg c)),(621,.var (Qb d))] (Cj a b c d) (λ_=>(.clo (.func 245) [] [.L 3,.L 2])) (λ_=>[(2,.var [.L 618]),(3,.var [.clo (.func 211) [] [.L 619,.L 620,.L 621]]),(618,.var (Qb a)),(619,.var (Qa b)),(620,.var (Qg c)),(621,.var (Qb d))]):=
 W 6 func205 Z λC e r h=>H e [14] Z<|E h Z r6_
def Ck (a:Int)(b:Qe)(c:QG)(d:Int):O_ Unit:=some ()
def Qa9 (a b c d):CT 205 [.L 618,.clo (.func 213) [] [.L 619,.L 620,.L 621]] [(618,.var (Qb a)),(619,.var (Qa b)),(620,.var (Qg c)),(621,.var (Qb d))] (Ck a b c d) (λ_=>(.clo (.func 245) [] [.L 3,.L 2])) (λ_=>[(2,.var [.L 618]),(3,.var [.clo (.func 213) [] [.L 619,.L 620,.L 621]]),(618,.var (Qb a)),(619,.var (Qa b)),(620,.var (Qg c)),(621,.var (Qb d))]):=
 W 6 func205 Z λC e r h=>H e [14] Z<|E h Z r6_
def Cm (a:Int)(b:Qe)(c:QG):O_ Unit:=some ()
def Qba (a b c):CT 205 [.L 618,.clo (.func 214) [] [.L 619,.L 620]] [(618,.var (Qb a)),(619,.var (Qa b)),(620,.var (Qg c))] (Cm a b c) (λ_=>(.clo (.func 245) [] [.L 3,.L 2])) (λ_=>[(2,.var [.L 618]),(3,.var [.clo (.func 214) [] [.L 619,.L 620]]),(618,.var (Qb a)),(619,.var (Qa b)),(620,.var (Qg c))]):=
 W 6 func205 Z λC d r h=>H d [14] Z<|E h Z r5_
def Ir (a:QG):O_ Bool:=(GC a.Name).bind λb=>some b
def Qdh (a):CT 201 [.L 618] [(618,.var (Qg a))] (Ir a) V.b (λ_=>[(618,.var (Qg a))]):=
 W 5 func201 Z λC f r h=>B h λg e h=>J f [9,.o (.C1 (.b g)),4] Z (Ak _ _ e)<|E h Z r1_
def Iu (a:QG)(b:QG):O_ Bool:=some (BV a.Name b.Name)
def Qdi (c a):CT 200 [.agg (Qg c),.L 618] [(618,.var (Qg a))] (Iu c a) V.b (λ_=>[(618,.var (Qg a))]):=
 W 9 func200 Z λC d r h=>H d [17] Z<|E h Z r1_
def JX (c:(L_ QG))(d:QG)(a:Int):O_ (Int⊕(Int⊕Unit)):=bif (a<(c.length:Int))then (idx c a).bind λe=>(Iu e d).bind λb=>bif b then some (.inr (.inl a))else some (.inl (Qi (a+1)))else some (.inr (.inr ()))
def JY (a:Int):O_ Int:=some a
def JZ : O_ Int:=some (-1)
def Jg (a:(L_ QG))(b:QG):O_ Int:=(QD (λst=>JX a b st) 0).bind (Sum.elim (λq=>JY q) (λq=>JZ))
def CM (g e):CT 244 [.sl 14 (g.map Qg),.clo (.func 200) [] [.L 618]] [(618,.var (Qg e))] (Jg g e) V.I (λ_=>[(618,.var (Qg e))]):=
 W 19 func244 Z λC c r h=>J c [9,.o (.ln g.length),4] Z Qc<|lq_ h (λst=>⟨[(0,.sl 14 (g.map Qg)),(1,.clo (.func 200) [] [.L 618]),(7,.I (g.length:Int)),(8,.I st)],[(618,.var (Qg e))]⟩) (λq=>(.ret,⟨[(4,.I q)],[(618,.var (Qg e))]⟩)) (λq=>(.exit 0,⟨[],[(618,.var (Qg e))]⟩)) Z (λm o h=>H c [6] Z<|I h (λf h=>B h λl j h=>B h λk i h=>g4_ c [.T,15,.o (.row (Qg l)),.A (Qg l),.cm (.clo) [(618,618)] [(618,618)] [] [.d,.d] [(618,.var (Qg e))] (.b k),2] Z f (Xi j) Z (Qdi _ _ _ i)<|I h (λa h=>J c [.T,9] Z a<|rR_ h Z) λa h=>J c [.F,7] Z a<|rN_ h Z) λf h=>J c [.F,2] Z f<|rX_ h Z) (λp h=>H c [2] Z<|E h Z r1_) (λ_ h=>H c [8] Z<|E h Z r1_)
def YQ (a:(L_ QG))(b:QG):O_ Bool:=(Jg a b).bind λc=>some (decide (0<=c))
def BC (e a):CT 203 [.sl 14 (e.map Qg),.clo (.func 200) [] [.L 618]] [(618,.var (Qg a))] (YQ e a) V.b (λ_=>[(618,.var (Qg a))]):=
 W 9 func203 Z λC f r h=>B h λg c h=>J f [9,.cm (.fn) [(618,618)] [(618,618)] [] [.d,.d] [(618,.var (Qg a))] (.I g),5] Z (CM _ _ _ c)<|E h Z r1_
def Iv (b:Qe)(a:Int)(c:QG):O_ Bool:=(chk (decide (0<=a)&&decide (0<=a.toNat)&&decide (a.toNat<=b.Tasks.length))).bind λ_=>(YQ ((b.Tasks.drop 0).take (a.toNat-0)) c).bind λd=>some (!d)
def Qdj (f g i):CT 202 [.L 618,.L 619,.L 620] [(618,.var (Qa f)),(619,.var (Qb g)),(620,.var [.clo (.func 200) [] [.L 621]]),(621,.var (Qg i))] (Iv f g i) V.b (λ_=>[(618,.var (Qa f)),(619,.var (Qb g)),(620,.var [.clo (.func 200) [] [.L 621]]),(621,.var (Qg i))]):=
 W 11 func202 Z λC e r h=>X h λc h=>B h λl k h=>H e [6,.K [0,1,2,3] [618,619,620,621]] Z <| 
  dr_ e [.N,.N,.N,.B (.any (.sl 14 (((f.Tasks.drop 0).take (g.toNat-0)).map Qg)) none),.N,.B (.any (.b l) none),.N,.m .s] [] [] [3] [618,619,620,621] Z Z (a2_ (λσ j o _=>Stp.sliceD Z Z (QR e.n Z) (j _ _ Z) (Qt.es Z) EO.no (EO.val (j _ _ Z) (Xs (QbA c)) Z) (Xs (QbB c)) (Yh (Xs (QbC c)) (Nat.le_of_eq Qc.symm)) Qe0) (λσ j o _=>Stp.callSame (md:=.cm (.fn) [(618,621)] [(621,618)] [] [.d,.d] [(618,.var (Qg i))] (.b l) [621]) Qt e j o Z (a2_ (BC _ _ _ k) r1_))) Z <|
  H e [2] Z<|E h Z r4_
def BD (b:Int)(a:QG):O_ Bool:=some ((b<=16)&&((max2 (max2 (a.Ins.length:Int) (a.Outs.length:Int)) (a.Cancel.length:Int))<=16))
def Qdk (d a):CT 204 [.L 618,.L 619] [(618,.var (Qb d)),(619,.var (Qg a))] (BD d a) V.b (λ_=>[(618,.var (Qb d)),(619,.var (Qg a))]):=
 W 18 func204 Z λC e r h=>H e [6] Z<|Y ⟨[(2,.b ((d<=16)&&((max2 (max2 (a.Ins.length:Int) (a.Outs.length:Int)) (a.Cancel.length:Int))<=16)))],[(618,.var (Qb d)),(619,.var (Qg a))]⟩ (H e [4] Z<|bO_ (decide (d<=16)) (λc=>G e [.S 5 (.b true),2,.o (.ln a.Ins.length),2,.o (.ln a.Outs.length),2,.o (.ln a.Cancel.length),.o (.any (.I (max2 (max2 (a.Ins.length:Int) (a.Outs.length:Int)) (a.Cancel.length:Int))) none),4,.S 2 (.b ((d<=16)&&((max2 (max2 (a.Ins.length:Int) (a.Outs.length:Int)) (a.Cancel.length:Int))<=16)))] Z ⟨⟨⟨⟨⟨(tc_ c),Qc⟩,Qc⟩,Qc⟩,(λσ f g _=>Stp.max3 Z Z (QR e.n Z) (f _ _ Z) (f _ _ Z) (f _ _ Z))⟩,(cb_ (Yx c Z))⟩<|M Z) λc=>G e [.S 5 (.b false),14,.S 2 (.b ((d<=16)&&((max2 (max2 (a.Ins.length:Int) (a.Outs.length:Int)) (a.Cancel.length:Int))<=16)))] Z ⟨(tc_ c),(cb_ (KL c Z))⟩<|M Z)<|H e [2] Z<|E h Z r2_
def GT (a:YI):O_ Bool:=(GC a.Name).bind λb=>some b
def SF (a):CT 249 [.L 618] [(618,.var (Xe a))] (GT a) V.b (λ_=>[(618,.var (Xe a))]):=
 W 5 func249 Z λC f r h=>B h λg e h=>J f [9,.o (.C1 (.b g)),4] Z (Ak _ _ e)<|E h Z r1_
def GU (a:YI)(b:YI):O_ Bool:=some (BV a.Name b.Name)
def SG (c a):CT 248 [.agg (Xe c),.L 618] [(618,.var (Xe a))] (GU c a) V.b (λ_=>[(618,.var (Xe a))]):=
 W 9 func248 Z λC d r h=>H d [17] Z<|E h Z r1_
def Kx (c:(L_ YI))(d:YI)(a:Int):O_ (Int⊕(Int⊕Unit)):=bif (a<(c.length:Int))then (idx c a).bind λe=>(GU e d).bind λb=>bif b then some (.inr (.inl a))else some (.inl (Qi (a+1)))else some (.inr (.inr ()))
def Ky (a:Int):O_ Int:=some a
def Kz : O_ Int:=some (-1)
def Jy (a:(L_ YI))(b:YI):O_ Int:=(QD (λst=>Kx a b st) 0).bind (Sum.elim (λq=>Ky q) (λq=>Kz))
def FY (g e):CT 290 [.sl 2 (g.map Xe),.clo (.func 248) [] [.L 618]] [(618,.var (Xe e))] (Jy g e) V.I (λ_=>[(618,.var (Xe e))]):=
 W 19 func290 Z λC c r h=>J c [9,.o (.ln g.length),4] Z Qc<|lq_ h (λst=>⟨[(0,.sl 2 (g.map Xe)),(1,.clo (.func 248) [] [.L 618]),(7,.I (g.length:Int)),(8,.I st)],[(618,.var (Xe e))]⟩) (λq=>(.ret,⟨[(4,.I q)],[(618,.var (Xe e))]⟩)) (λq=>(.exit 0,⟨[],[(618,.var (Xe e))]⟩)) Z (λm o h=>H c [6] Z<|I h (λf h=>B h λl j h=>B h λk i h=>g4_ c [.T,15,.o (.row (Xe l)),.A (Xe l),.cm (.clo) [(618,618)] [(618,618)] [] [.d,.d] [(618,.var (Xe e))] (.b k),2] Z f (Xi j) Z (SG _ _ _ i)<|I h (λa h=>J c [.T,9] Z a<|rR_ h Z) λa h=>J c [.F,7] Z a<|rN_ h Z) λf h=>J c [.F,2] Z f<|rX_ h Z) (λp h=>H c [2] Z<|E h Z r1_) (λ_ h=>H c [8] Z<|E h Z r1_)
def Ja (a:(L_ YI))(b:YI):O_ Bool:=(Jy a b).bind λc=>some (decide (0<=c))
def Cn (e a):CT 251 [.sl 2 (e.map Xe),.clo (.func 248) [] [.L 618]] [(618,.var (Xe a))] (Ja e a) V.b (λ_=>[(618,.var (Xe a))]):=
 W 9 func251 Z λC f r h=>B h λg c h=>J f [9,.cm (.fn) [(618,618)] [(618,618)] [] [.d,.d] [(618,.var (Xe a))] (.I g),5] Z (FY _ _ _ c)<|E h Z r1_
def GV (b:(L_ YI))(a:Int)(c:YI):O_ Bool:=(chk (decide (0<=a)&&decide (0<=a.toNat)&&decide (a.toNat<=b.length))).bind λ_=>(Ja ((b.drop 0).take (a.toNat-0)) c).bind λd=>some (!d)
def SH (f g i):CT 250 [.L 618,.L 619,.L 620] [(618,.var (Kf f)),(619,.var (Qb g)),(620,.var [.clo (.func 248) [] [.L 621]]),(621,.var (Xe i))] (GV f g i) V.b (λ_=>[(618,.var (Kf f)),(619,.var (Qb g)),(620,.var [.clo (.func 248) [] [.L 621]]),(621,.var (Xe i))]):=
 W 10 func250 Z λC e r h=>X h λc h=>B h λl k h=>H e [6,.K [0,1,2,3] [618,619,620,621]] Z <| 
  dr_ e [.N,.N,.B (.any (.sl 2 (((f.drop 0).take (g.toNat-0)).map Xe)) none),.N,.B (.any (.b l) none),.N,.m .s] [] [] [3] [618,619,620,621] Z Z (a2_ (λσ j o _=>Stp.sliceD Z Z (QR e.n Z) (j _ _ Z) (Qt.es Z) EO.no (EO.val (j _ _ Z) (Xs (QbA c)) Z) (Xs (QbB c)) (Yh (Xs (QbC c)) (Nat.le_of_eq Qc.symm)) Qe0) (λσ j o _=>Stp.callSame (md:=.cm (.fn) [(618,621)] [(621,618)] [] [.d,.d] [(618,.var (Xe i))] (.b l) [621]) Qt e j o Z (a2_ (Cn _ _ _ k) r1_))) Z <|
  H e [2] Z<|E h Z r4_
def GW (a:Qe)(b:YI):O_ Bool:=(KW a.Colours b.Colour).bind λc=>some c
def SI (a e):CT 252 [.L 618,.L 619] [(618,.var (Qa a)),(619,.var (Xe e))] (GW a e) V.b (λ_=>[(618,.var (Qa a)),(619,.var (Xe e))]):=
 W 8 func252 Z λC g r h=>B h λi f h=>J g [11,.o (.C2 (.b i)),4] Z (BS _ _ _ f)<|E h Z r2_
def Co (a:YI)(e:Int)(f:(L_ YI))(g:Int)(h:Int)(i:Qe)(j:Int):O_ Int:=(GT a).bind λb=>bif (!b)then some e else (GV f g a).bind λc=>bif (!c)then some h else (GW i a).bind λd=>bif (!d)then some j else some 0
def Qbb (i p q s t u w):CT 133 [.own 618 3] [(618,.var [.clo (.func 249) [] [.L 619],.I p,.clo (.func 250) [] [.L 620,.L 621,.L 622],.I t,.clo (.func 252) [] [.L 623,.L 619],.I w]),(619,.var (Xe i)),(620,.var (Kf q)),(621,.var (Qb s)),(622,.var [.clo (.func 248) [] [.L 619]]),(623,.var (Qa u))] (Co i p q s t u w) V.I (λ_=>[(618,.var [.clo (.func 249) [] [.L 619],.I p,.clo (.func 250) [] [.L 620,.L 621,.L 622],.I t,.clo (.func 252) [] [.L 623,.L 619],.I w]),(619,.var (Xe i)),(620,.var (Kf q)),(621,.var (Qb s)),(622,.var [.clo (.func 248) [] [.L 619]]),(623,.var (Qa u))]):=
 W 18 func133 Z λC a r h=>H a [14] Z<|AK.loopN 4<|AK.rnd<|B h λx j h=>g4_ a [2,.v .no [] (.b true),10,.o (.any (.L 618) none),3,.O 4 (.var [.clo (.func 249) [] [.L 619],.I p]),6,.cm (.clo) [(618,619)] [(619,618)] [] [.d] [(618,.var (Xe i))] (.b x),3] Z Z (λσ g k _=>Stp.idxV Z Z (QR a.n Z) (g _ _ Z) (g _ _ Z) (Qt.es Z) (k _ _ Z) (by decide)) Z (SF _ _ j)<|I h (λc h=>J a [.T,13] Z c<|E h Z r6_) λc h=>K a [.F,4,.v .no [] (.I 1),2] Z c Z<|AK.met<|AK.rnd<|B h λy l h=>g4_ a [2,.v .no [] (.b true),10,.o (.any (.loc 618 0 2) none),1,.kill 4,2,.O 4 (.var [.clo (.func 250) [] [.L 620,.L 621,.L 622],.I t]),6,.cm (.clo) [(618,620),(619,621),(620,622),(621,619)] [(620,618),(621,619),(622,620),(619,621)] [] [.d,.d,.d] [(618,.var (Kf q)),(619,.var (Qb s)),(620,.var [.clo (.func 248) [] [.L 621]]),(621,.var (Xe i))] (.b y),3] Z Z (λσ g k _=>Stp.idxV Z Z (QR a.n Z) (g _ _ Z) (g _ _ Z) (Qt.es Z) (k _ _ Z) (by decide)) Z (SH _ _ _ _ l)<|I h (λe h=>J a [.T,13] Z e<|E h Z r6_) λe h=>K a [.F,4,.v .no [] (.I 2),2] Z e Z<|AK.met<|AK.rnd<|B h λz m h=>g4_ a [2,.v .no [] (.b true),10,.o (.any (.loc 618 0 4) none),1,.kill 4,2,.O 4 (.var [.clo (.func 252) [] [.L 623,.L 619],.I w]),6,.cm (.clo) [(618,623),(619,619)] [(623,618),(619,619)] [] [.d,.d] [(618,.var (Qa u)),(619,.var (Xe i))] (.b z),3] Z Z (λσ g k _=>Stp.idxV Z Z (QR a.n Z) (g _ _ Z) (g _ _ Z) (Qt.es Z) (k _ _ Z) (by decide)) Z (SI _ _ _ m)<|I h (λf h=>J a [.T,13] Z f<|E h Z r6_) λf h=>K a [.F,4,.v .no [] (.I 3),2] Z f Z<|AK.met<|AK.rnd<|J a [2,.v .no [] (.b false),15] Z Z<|E h Z r6_
def Uu (a:Int)(b:YI)(c:(L_ YI))(d:Qe):O_ Int:=(Co b 1 c a 5 d 3).bind λe=>some e
def VI (c e a b):CT 247 [.I c,.agg (Xe e),.L 618,.L 619] [(618,.var (Kf a)),(619,.var (Qa b))] (Uu c e a b) V.I (λ_=>[(618,.var (Kf a)),(619,.var (Qa b))]):=
 W 17 func247 Z λC g r h=>B h λi f h=>G g [12,.O 7 (.var [.clo (.func 248) [] [.L 5]]),5,.A [.clo (.func 249) [] [.L 5],.I 1],1,.A [.clo (.func 250) [] [.L 618,.L 4,.L 7],.I 5],1,.A [.clo (.func 252) [] [.L 619,.L 5],.I 3],.o (.any (.own 15 3) (some (.var [.clo (.func 249) [] [.L 5],.I 1,.clo (.func 250) [] [.L 618,.L 4,.L 7],.I 5,.clo (.func 252) [] [.L 619,.L 5],.I 3]))),.cm (.fn) [(618,15),(619,5),(620,618),(621,4),(622,7),(623,619)] [(15,618),(5,619),(618,620),(4,621),(7,622),(619,623)] [] [.d] [(618,.var [.clo (.func 249) [] [.L 619],.I 1,.clo (.func 250) [] [.L 620,.L 621,.L 622],.I 5,.clo (.func 252) [] [.L 623,.L 619],.I 3]),(619,.var (Xe e)),(620,.var (Kf a)),(621,.var (Qb c)),(622,.var [.clo (.func 248) [] [.L 619]]),(623,.var (Qa b))] (.I i),4] Z (a6_ Z Z Z Z (λσ j k D=>Stp.buildAny Z Z (QR g.n Z) (Qt.es Z) Pi Z (by decide) (by decide) (DZ j Z) Z Z (D Z)) (Qbb _ _ _ _ _ _ _ _ f))<|E h Z r2_
def UC (d:(L_ YI))(e:(L_ YI))(f:Qe)(a:Int):O_ (Int⊕((Int×Int)⊕Unit)):=bif (a<(d.length:Int))then (idx d a).bind λc=>(Uu a c e f).bind λb=>bif (b != 0)then some (.inr (.inl (a,b)))else some (.inl (Qi (a+1)))else some (.inr (.inr ()))
def UD (a:Int)(b:Int):O_ (Int×Int):=some (a,b)
def UE : O_ (Int×Int):=some (0,0)
def EJ (a:(L_ YI))(b:(L_ YI))(c:Qe):O_ (Int×Int):=(QD (λst=>UC a b c st) 0).bind (Sum.elim (λq=>UD q.1 q.2) (λq=>UE))
def Ta (i f g):CT 246 [.sl 2 (i.map Xe),.clo (.func 247) [] [.L 618,.L 619]] [(618,.var (Kf f)),(619,.var (Qa g))] (EJ i f g) (λr=>(.tup [.I r.1,.I r.2])) (λ_=>[(618,.var (Kf f)),(619,.var (Qa g))]):=
 W 25 func246 Z λC e r h=>J e [10,.o (.ln i.length),4] Z Qc<|lq_ h (λst=>⟨[(1,.clo (.func 247) [] [.L 618,.L 619]),(9,.sl 2 (i.map Xe)),(10,.I (i.length:Int)),(11,.I st)],[(618,.var (Kf f)),(619,.var (Qa g))]⟩) (λq=>(.ret,⟨[(4,.I q.1),(5,.I q.2)],[(618,.var (Kf f)),(619,.var (Qa g))]⟩)) (λq=>(.exit 0,⟨[],[(618,.var (Kf f)),(619,.var (Qa g))]⟩)) Z (λs o h=>H e [6] Z<|I h (λa h=>B h λc j h=>B h λl k h=>G e [.T,7,.o (.row (Xe c)),.A (Xe c),3,.O 7 (.var (Xe c)),6,.A (Xe c),.cm (.clo) [(618,618),(619,619)] [(618,618),(619,619)] [] [.d,.d,.d,.d] [(618,.var (Kf f)),(619,.var (Qa g))] (.I l),9] Z (a6_ a (Xi j) Z Z Z (VI _ _ _ _ _ k))<|I h (λb h=>J e [.T,11] Z b<|rR_ h Z) λb h=>J e [.F,7] Z b<|rN_ h Z) λa h=>J e [.F,2] Z a<|rX_ h Z) (λ⟨m,p⟩ h=>H e [2] Z<|F h Z Z r2_) (λ_ h=>H e [9] Z<|F h Z Z r2_)
def AY (b:Qe)(a:(L_ YI)):O_ Int:=(EJ a a b).bind λc=>some c.2
def Qav (a b):CT 207 [.agg (Qa a),.sl 2 (b.map Xe)] [] (AY a b) V.I no_:=
 W 14 func207 Z λC f r h=>B h λe c h=>J f [11,.cm (.fn) [(618,3),(619,2)] [(3,618),(2,619)] [] [.d,.d] [(618,.var (Kf b)),(619,.var (Qa a))] (.tup [.I e.1,.I e.2]),14] Z (Ta _ _ _ _ c)<|E h Z U
def Iw (a:Qe)(b:QG):O_ Int:=(AY a b.Vars).bind λc=>some c
def Qdl (a b):CT 206 [.L 618,.L 619] [(618,.var (Qa a)),(619,.var (Qg b))] (Iw a b) V.I (λ_=>[(618,.var (Qa a)),(619,.var (Qg b))]):=
 W 7 func206 Z λC f r h=>B h λg e h=>K f [7,.A (Qa a),2,.o (.C2 (.I g)),4] Z Z (Qav _ _ _ e)<|E h Z r2_
def Am (b:Qe)(c:QG)(d:Int):O_ (Bool×Int):=(Iw b c).bind λa=>some ((a==0),a)
def Qb6 (c e j):CT 245 [.L 618,.L 621] [(618,.var [.clo (.func 206) [] [.L 619,.L 620]]),(619,.var (Qa c)),(620,.var (Qg e)),(621,.var [.L 622]),(622,.var (Qb j))] (Am c e j) (λr=>(.b r.1)) (λr=>[(618,.var [.clo (.func 206) [] [.L 619,.L 620]]),(619,.var (Qa c)),(620,.var (Qg e)),(621,.var [.L 622]),(622,.var (Qb r.2))]):=
 W 11 func245 Z λC f r h=>B h λg i h=>H f [6,.K [0,1] [618,619,620,621,622]] Z <| 
  dr_ f [.N,.N,.B (.any (.I g) none),.N,.m .s] [] [] [1] [618,619,620,621,622] Z Z (A (λσ k l _=>Stp.callSame (md:=.cm (.clo) [(618,619),(619,620)] [(619,618),(620,619)] [] [.d,.d] [(618,.var (Qa c)),(619,.var (Qg e))] (.I g) [619,620]) Qt f k l Z (a2_ (Qdl _ _ _ i) r2_))) Z <|
  J f [.O 622 (.var (Qb g)),11] Z Z<|E h Z r5_
def Ui (e:QG)(f:Qe)(a:Int)(c:Int):O_ ((Int×Int)⊕(Unit⊕Int)):=bif (c<(e.Vars.length:Int))then (idx e.Vars c).bind λd=>(YP f.Colours d.Colour).bind λb=>bif (b==0)then some (.inr (.inl ()))else some (.inl ((min2 (Qi (a*b)) 1025),(Qi (c+1))))else some (.inr (.inr a))
def Mw : O_ Int:=some 0
def Mx (a:Int):O_ Int:=some a
def WJ (a:Qe)(b:Int):O_ Int:=(Jm a.Tasks b).bind λc=>bif (!c)then some 0 else (idx a.Tasks b).bind λd=>(QD (λst=>Ui d a st.1 st.2) (1,0)).bind (Sum.elim (λq=>Mw) (λq=>Mx q))
def SJ (m w):CT 87 [.agg (Qa m),.I w] [] (WJ m w) V.I no_:=
 W 38 func87 Z λC f r h=>B h λy p h=>J f [12,.o (.C2 (.b y)),3] Z (FQ _ _ _ p)<|I h (λg h=>J f [.T,7] Z g<|E h Z U) λg h=>B h λl s h=>g3_ f [.F,13,.o (.row (Qg l)),2,.o (.ln l.Vars.length),4] Z g (Xi s) Qc<|lq_ h (λst=>⟨[lk_ 2,(5,.I st.1),(19,.sl 2 (l.Vars.map Xe)),(20,.I (l.Vars.length:Int)),(21,.I st.2)],[(2,.var (Qa m))]⟩) (λq=>(.ret,⟨[(4,.I 0)],[]⟩)) (λq=>(.exit 0,⟨[(5,.I q)],[]⟩)) Z (λ⟨x,z⟩ o h=>H f [6] Z<|I h (λa h=>B h λi j h=>B h λt k h=>G f [.T,6,.o (.row (Xe i)),.A (Xe i),2,.O 7 (.var (Xe i)),8,.o (.C2 (.I t)),10] Z (a5_ a (Xi j) Z Z (Cd _ _ _ k))<|I h (λe h=>J f [.T,9] Z e<|rR_ h Z) λe h=>J f [.F,15] Z e<|rN_ h Z) λa h=>J f [.F,2] Z a<|rX_ h Z) (λ_ h=>H f [2] Z<|E h Z U) (λu h=>H f [9] Z<|E h Z U)
def BE (a:Qe)(b:Int):O_ Bool:=(WJ a b).bind λc=>some (decide (c<=1024))
def Qdm (a e):CT 208 [.L 618,.L 619] [(618,.var (Qa a)),(619,.var (Qb e))] (BE a e) V.b (λ_=>[(618,.var (Qa a)),(619,.var (Qb e))]):=
 W 7 func208 Z λC g r h=>B h λi f h=>K g [7,.A (Qa a),1,.o (.C2 (.I i)),5] Z Z (SJ _ _ _ f)<|E h Z r2_
def PX (a:QG)(b:Int):O_ Bool:=(Bs a.Guard b).bind λc=>bif c then bif (0<(a.Ins.length:Int))then some (decide (0<(a.Outs.length:Int)))else some false else some false
def PY (a:Bool):O_ Bool:=some a
def Ix (a:QG)(b:Int):O_ Bool:=(PX a b).bind (λc=>PY c)
def Qdn (a i):CT 209 [.L 618,.L 619] [(618,.var (Qg a)),(619,.var (Qb i))] (Ix a i) V.b (λ_=>[(618,.var (Qg a)),(619,.var (Qb i))]):=
 W 19 func209 Z λC e r h=>H e [6] Z<|mV_ h (λj=>⟨[(2,.b j)],[(618,.var (Qg a)),(619,.var (Qb i))]⟩) (λj h=>B h λl k h=>K e [2,.A (Qs a.Guard),1,.o (.C2 (.b l)),1] Z Z (MZ _ _ _ k)<|I h (λf h=>G e [.S 7 (.b true),2,.o (.ln a.Ins.length),3] Z ⟨(tc_ f),Qc⟩<|I h (λg h=>G e [.S 13 (.b true),2,.o (.ln a.Outs.length),4] Z ⟨(tc_ g),Qc⟩<|mq_ h Z) λg h=>L e [.S 13 (.b false),7] Z g<|mq_ h Z) λf h=>L e [.S 7 (.b false),13] Z f<|mq_ h Z) λj h=>H e [2] Z<|E h Z r2_
def Cp (a:Qe)(b:Xo):O_ Bool:=(YB a.Places b.Place).bind λc=>some c
def Qbc (a e):CT 258 [.L 618,.L 619] [(618,.var (Qa a)),(619,.var (Xf e))] (Cp a e) V.b (λ_=>[(618,.var (Qa a)),(619,.var (Xf e))]):=
 W 8 func258 Z λC g r h=>B h λi f h=>J g [11,.o (.C2 (.b i)),4] Z (JW _ _ _ f)<|E h Z r2_
def Cq (a:Xo)(b:Int):O_ Bool:=(Bs a.Expr b).bind λc=>some c
def Qbd (a e):CT 259 [.L 618,.L 619] [(618,.var (Xf a)),(619,.var (Qb e))] (Cq a e) V.b (λ_=>[(618,.var (Xf a)),(619,.var (Qb e))]):=
 W 7 func259 Z λC g r h=>B h λi f h=>K g [8,.A (Qs a.Expr),1,.o (.C2 (.b i)),4] Z Z (MZ _ _ _ f)<|E h Z r2_
def Cr (c:Qe)(b:Xo)(d:Int)(e:Int)(f:Int):O_ Int:=(Cp c b).bind λg=>bif (!g)then some d else (Cq b e).bind λa=>bif (!a)then some f else some 0
def Qbe (j f k l m):CT 133 [.own 618 2] [(618,.var [.clo (.func 258) [] [.L 619,.L 620],.I k,.clo (.func 259) [] [.L 620,.L 621],.I m]),(619,.var (Qa j)),(620,.var (Xf f)),(621,.var (Qb l))] (Cr j f k l m) V.I (λ_=>[(618,.var [.clo (.func 258) [] [.L 619,.L 620],.I k,.clo (.func 259) [] [.L 620,.L 621],.I m]),(619,.var (Qa j)),(620,.var (Xf f)),(621,.var (Qb l))]):=
 W 18 func133 Z λC c r h=>H c [14] Z<|AK.loopN 3<|AK.rnd<|B h λt p h=>g4_ c [2,.v .no [] (.b true),10,.o (.any (.L 618) none),3,.O 4 (.var [.clo (.func 258) [] [.L 619,.L 620],.I k]),6,.cm (.clo) [(618,619),(619,620)] [(619,618),(620,619)] [] [.d,.d] [(618,.var (Qa j)),(619,.var (Xf f))] (.b t),3] Z Z (λσ g q _=>Stp.idxV Z Z (QR c.n Z) (g _ _ Z) (g _ _ Z) (Qt.es Z) (q _ _ Z) (by decide)) Z (Qbc _ _ _ p)<|I h (λe h=>J c [.T,13] Z e<|E h Z r4_) λe h=>K c [.F,4,.v .no [] (.I 1),2] Z e Z<|AK.met<|AK.rnd<|B h λs i h=>g4_ c [2,.v .no [] (.b true),10,.o (.any (.loc 618 0 2) none),1,.kill 4,2,.O 4 (.var [.clo (.func 259) [] [.L 620,.L 621],.I m]),6,.cm (.clo) [(618,620),(619,621)] [(620,618),(621,619)] [] [.d,.d] [(618,.var (Xf f)),(619,.var (Qb l))] (.b s),3] Z Z (λσ g q _=>Stp.idxV Z Z (QR c.n Z) (g _ _ Z) (g _ _ Z) (Qt.es Z) (q _ _ Z) (by decide)) Z (Qbd _ _ _ i)<|I h (λa h=>J c [.T,13] Z a<|E h Z r4_) λa h=>K c [.F,4,.v .no [] (.I 2),2] Z a Z<|AK.met<|AK.rnd<|J c [2,.v .no [] (.b false),15] Z Z<|E h Z r4_
def Iy (e:Int)(a:Xo)(b:Qe)(c:Int):O_ Int:=(Cr b a 3 c 1).bind λd=>some d
def Qdo (f c a b):CT 257 [.I f,.agg (Xf c),.L 618,.L 619] [(618,.var (Qa a)),(619,.var (Qb b))] (Iy f c a b) V.I (λ_=>[(618,.var (Qa a)),(619,.var (Qb b))]):=
 W 13 func257 Z λC g r h=>B h λi e h=>g4_ g [9,.A [.clo (.func 258) [] [.L 618,.L 5],.I 3],1,.A [.clo (.func 259) [] [.L 5,.L 619],.I 1],.o (.any (.own 11 2) (some (.var [.clo (.func 258) [] [.L 618,.L 5],.I 3,.clo (.func 259) [] [.L 5,.L 619],.I 1]))),.cm (.fn) [(618,11),(619,618),(620,5),(621,619)] [(11,618),(618,619),(5,620),(619,621)] [] [.d] [(618,.var [.clo (.func 258) [] [.L 619,.L 620],.I 3,.clo (.func 259) [] [.L 620,.L 621],.I 1]),(619,.var (Qa a)),(620,.var (Xf c)),(621,.var (Qb b))] (.I i),4] Z Z Z (λσ j k D=>Stp.buildAny Z Z (QR g.n Z) (Qt.es Z) Pi Z (by decide) (by decide) (DZ j Z) Z Z (D Z)) (Qbe _ _ _ _ _ _ e)<|E h Z r2_
def UF (d:(L_ Xo))(e:Qe)(f:Int)(a:Int):O_ (Int⊕((Int×Int)⊕Unit)):=bif (a<(d.length:Int))then (idx d a).bind λc=>(Iy a c e f).bind λb=>bif (b != 0)then some (.inr (.inl (a,b)))else some (.inl (Qi (a+1)))else some (.inr (.inr ()))
def UG (a:Int)(b:Int):O_ (Int×Int):=some (a,b)
def UH : O_ (Int×Int):=some (0,0)
def EK (a:(L_ Xo))(b:Qe)(c:Int):O_ (Int×Int):=(QD (λst=>UF a b c st) 0).bind (Sum.elim (λq=>UG q.1 q.2) (λq=>UH))
def Tb (i f g):CT 256 [.sl 4 (i.map Xf),.clo (.func 257) [] [.L 618,.L 619]] [(618,.var (Qa f)),(619,.var (Qb g))] (EK i f g) (λr=>(.tup [.I r.1,.I r.2])) (λ_=>[(618,.var (Qa f)),(619,.var (Qb g))]):=
 W 25 func256 Z λC e r h=>J e [10,.o (.ln i.length),4] Z Qc<|lq_ h (λst=>⟨[(1,.clo (.func 257) [] [.L 618,.L 619]),(9,.sl 4 (i.map Xf)),(10,.I (i.length:Int)),(11,.I st)],[(618,.var (Qa f)),(619,.var (Qb g))]⟩) (λq=>(.ret,⟨[(4,.I q.1),(5,.I q.2)],[(618,.var (Qa f)),(619,.var (Qb g))]⟩)) (λq=>(.exit 0,⟨[],[(618,.var (Qa f)),(619,.var (Qb g))]⟩)) Z (λs o h=>H e [6] Z<|I h (λa h=>B h λc j h=>B h λl k h=>G e [.T,7,.o (.row (Xf c)),.A (Xf c),3,.O 7 (.var (Xf c)),6,.A (Xf c),.cm (.clo) [(618,618),(619,619)] [(618,618),(619,619)] [] [.d,.d,.d,.d] [(618,.var (Qa f)),(619,.var (Qb g))] (.I l),9] Z (a6_ a (Xi j) Z Z Z (Qdo _ _ _ _ _ k))<|I h (λb h=>J e [.T,11] Z b<|rR_ h Z) λb h=>J e [.F,7] Z b<|rN_ h Z) λa h=>J e [.F,2] Z a<|rX_ h Z) (λ⟨m,p⟩ h=>H e [2] Z<|F h Z Z r2_) (λ_ h=>H e [9] Z<|F h Z Z r2_)
def Hy (b:Qe)(c:(L_ Xo))(a:Int):O_ Int:=(EK c b a).bind λd=>some d.2
def TU (b e a):CT 212 [.agg (Qa b),.sl 4 (e.map Xf),.I a] [] (Hy b e a) V.I no_:=
 W 16 func212 Z λC g r h=>B h λf c h=>J g [11,.cm (.fn) [(618,3),(619,5)] [(3,618),(5,619)] [] [.d,.d] [(618,.var (Qa b)),(619,.var (Qb a))] (.tup [.I f.1,.I f.2]),14] Z (Tb _ _ _ _ c)<|E h Z U
def Iz (a:Qe)(b:QG)(c:Int):O_ Int:=(Hy a b.Ins c).bind λd=>some d
def Qdp (a b e):CT 211 [.L 618,.L 619,.L 620] [(618,.var (Qa a)),(619,.var (Qg b)),(620,.var (Qb e))] (Iz a b e) V.I (λ_=>[(618,.var (Qa a)),(619,.var (Qg b)),(620,.var (Qb e))]):=
 W 9 func211 Z λC g r h=>B h λi f h=>K g [7,.A (Qa a),3,.o (.C3 (.I i)),4] Z Z (TU _ _ _ _ f)<|E h Z r3_
def An (b:Qe)(c:QG)(d:Int)(e:Int):O_ (Bool×Int):=(Iz b c d).bind λa=>some ((a==0),a)
def Zj (c e f k):CT 245 [.L 618,.L 622] [(618,.var [.clo (.func 211) [] [.L 619,.L 620,.L 621]]),(619,.var (Qa c)),(620,.var (Qg e)),(621,.var (Qb f)),(622,.var [.L 623]),(623,.var (Qb k))] (An c e f k) (λr=>(.b r.1)) (λr=>[(618,.var [.clo (.func 211) [] [.L 619,.L 620,.L 621]]),(619,.var (Qa c)),(620,.var (Qg e)),(621,.var (Qb f)),(622,.var [.L 623]),(623,.var (Qb r.2))]):=
 W 11 func245 Z λC g r h=>B h λi j h=>H g [6,.K [0,1] [618,619,620,621,622,623]] Z <| 
  dr_ g [.N,.N,.B (.any (.I i) none),.N,.m .s] [] [] [1] [618,619,620,621,622,623] Z Z (A (λσ l o _=>Stp.callSame (md:=.cm (.clo) [(618,619),(619,620),(620,621)] [(619,618),(620,619),(621,620)] [] [.d,.d,.d] [(618,.var (Qa c)),(619,.var (Qg e)),(620,.var (Qb f))] (.I i) [619,620,621]) Qt g l o Z (a2_ (Qdp _ _ _ _ j) r3_))) Z <|
  J g [.O 623 (.var (Qb i)),11] Z Z<|E h Z r6_
def IA (a:Qe)(b:QG)(c:Int):O_ Int:=(Hy a b.Outs c).bind λd=>some d
def Qdq (a b e):CT 213 [.L 618,.L 619,.L 620] [(618,.var (Qa a)),(619,.var (Qg b)),(620,.var (Qb e))] (IA a b e) V.I (λ_=>[(618,.var (Qa a)),(619,.var (Qg b)),(620,.var (Qb e))]):=
 W 9 func213 Z λC g r h=>B h λi f h=>K g [7,.A (Qa a),3,.o (.C3 (.I i)),4] Z Z (TU _ _ _ _ f)<|E h Z r3_
def Ao (b:Qe)(c:QG)(d:Int)(e:Int):O_ (Bool×Int):=(IA b c d).bind λa=>some ((a==0),a)
def Zk (c e f k):CT 245 [.L 618,.L 622] [(618,.var [.clo (.func 213) [] [.L 619,.L 620,.L 621]]),(619,.var (Qa c)),(620,.var (Qg e)),(621,.var (Qb f)),(622,.var [.L 623]),(623,.var (Qb k))] (Ao c e f k) (λr=>(.b r.1)) (λr=>[(618,.var [.clo (.func 213) [] [.L 619,.L 620,.L 621]]),(619,.var (Qa c)),(620,.var (Qg e)),(621,.var (Qb f)),(622,.var [.L 623]),(623,.var (Qb r.2))]):=
 W 11 func245 Z λC g r h=>B h λi j h=>H g [6,.K [0,1] [618,619,620,621,622,623]] Z <| 
  dr_ g [.N,.N,.B (.any (.I i) none),.N,.m .s] [] [] [1] [618,619,620,621,622,623] Z Z (A (λσ l o _=>Stp.callSame (md:=.cm (.clo) [(618,619),(619,620),(620,621)] [(619,618),(620,619),(621,620)] [] [.d,.d,.d] [(618,.var (Qa c)),(619,.var (Qg e)),(620,.var (Qb f))] (.I i) [619,620,621]) Qt g l o Z (a2_ (Qdq _ _ _ _ j) r3_))) Z <|
  J g [.O 623 (.var (Qb i)),11] Z Z<|E h Z r6_
def Uv (a:Qe)(b:Int):O_ Bool:=(YB a.Places b).bind λc=>some c
def VJ (a e):CT 262 [.L 618,.L 619] [(618,.var (Qa a)),(619,.var (Qb e))] (Uv a e) V.b (λ_=>[(618,.var (Qa a)),(619,.var (Qb e))]):=
 W 7 func262 Z λC g r h=>B h λi f h=>J g [10,.o (.C2 (.b i)),4] Z (JW _ _ _ f)<|E h Z r2_
def Uw (b:LI_)(a:Int)(c:Int):O_ Bool:=(chk (decide (0<=a)&&decide (0<=a.toNat)&&decide (a.toNat<=b.length))).bind λ_=>(XO ((b.drop 0).take (a.toNat-0)) c).bind λd=>some (!d)
def VK (f g j):CT 263 [.L 618,.L 619,.L 620] [(618,.var (QQ f)),(619,.var (Qb g)),(620,.var (Qb j))] (Uw f g j) V.b (λ_=>[(618,.var (QQ f)),(619,.var (Qb g)),(620,.var (Qb j))]):=
 W 10 func263 Z λC i r h=>X h λe h=>B h λo k h=>H i [6,.K [0,1,2,3] [618,619,620]] Z <| 
  dr_ i [.N,.N,.B (.any (.sl 1 (((f.drop 0).take (g.toNat-0)).map Qb)) none),.N,.B (.C2 (.b o)),.N,.m .s] [] [] [3] [618,619,620] Z Z (a2_ (λσ l p _=>Stp.sliceD Z Z (QR i.n Z) (l _ _ Z) (Qt.es Z) EO.no (EO.val (l _ _ Z) (Xs (QbA e)) Z) (Xs (QbB e)) (Yh (Xs (QbC e)) (Nat.le_of_eq Qc.symm)) Qe0) (Gd _ _ _ k)) Z <|
  H i [2] Z<|E h Z r3_
def Cs (c:Qe)(b:Int)(d:Int)(e:LI_)(f:Int)(g:Int):O_ Int:=(Uv c b).bind λh=>bif (!h)then some d else (Uw e f b).bind λa=>bif (!a)then some g else some 0
def Qbf (j f k l m p):CT 133 [.own 618 2] [(618,.var [.clo (.func 262) [] [.L 619,.L 620],.I k,.clo (.func 263) [] [.L 621,.L 622,.L 620],.I p]),(619,.var (Qa j)),(620,.var (Qb f)),(621,.var (QQ l)),(622,.var (Qb m))] (Cs j f k l m p) V.I (λ_=>[(618,.var [.clo (.func 262) [] [.L 619,.L 620],.I k,.clo (.func 263) [] [.L 621,.L 622,.L 620],.I p]),(619,.var (Qa j)),(620,.var (Qb f)),(621,.var (QQ l)),(622,.var (Qb m))]):=
 W 18 func133 Z λC e r h=>H e [14] Z<|AK.loopN 3<|AK.rnd<|B h λu q h=>g4_ e [2,.v .no [] (.b true),10,.o (.any (.L 618) none),3,.O 4 (.var [.clo (.func 262) [] [.L 619,.L 620],.I k]),6,.cm (.clo) [(618,619),(619,620)] [(619,618),(620,619)] [] [.d,.d] [(618,.var (Qa j)),(619,.var (Qb f))] (.b u),3] Z Z (λσ g s _=>Stp.idxV Z Z (QR e.n Z) (g _ _ Z) (g _ _ Z) (Qt.es Z) (s _ _ Z) (by decide)) Z (VJ _ _ _ q)<|I h (λa h=>J e [.T,13] Z a<|E h Z r5_) λa h=>K e [.F,4,.v .no [] (.I 1),2] Z a Z<|AK.met<|AK.rnd<|B h λt i h=>g4_ e [2,.v .no [] (.b true),10,.o (.any (.loc 618 0 2) none),1,.kill 4,2,.O 4 (.var [.clo (.func 263) [] [.L 621,.L 622,.L 620],.I p]),6,.cm (.clo) [(618,621),(619,622),(620,620)] [(621,618),(622,619),(620,620)] [] [.d,.d,.d] [(618,.var (QQ l)),(619,.var (Qb m)),(620,.var (Qb f))] (.b t),3] Z Z (λσ g s _=>Stp.idxV Z Z (QR e.n Z) (g _ _ Z) (g _ _ Z) (Qt.es Z) (s _ _ Z) (by decide)) Z (VK _ _ _ _ i)<|I h (λc h=>J e [.T,13] Z c<|E h Z r5_) λc h=>K e [.F,4,.v .no [] (.I 2),2] Z c Z<|AK.met<|AK.rnd<|J e [2,.v .no [] (.b false),15] Z Z<|E h Z r5_
def AZ (b:Int)(a:Int)(c:Qe)(d:LI_):O_ Int:=(Cs c a 3 d b 5).bind λe=>some e
def Qaw (e a b c):CT 261 [.I e,.I a,.L 618,.L 619] [(618,.var (Qa b)),(619,.var (QQ c))] (AZ e a b c) V.I (λ_=>[(618,.var (Qa b)),(619,.var (QQ c))]):=
 W 13 func261 Z λC g r h=>B h λi f h=>g4_ g [10,.A [.clo (.func 262) [] [.L 618,.L 5],.I 3],1,.A [.clo (.func 263) [] [.L 619,.L 4,.L 5],.I 5],.o (.any (.own 11 2) (some (.var [.clo (.func 262) [] [.L 618,.L 5],.I 3,.clo (.func 263) [] [.L 619,.L 4,.L 5],.I 5]))),.cm (.fn) [(618,11),(619,618),(620,5),(621,619),(622,4)] [(11,618),(618,619),(5,620),(619,621),(4,622)] [] [.d] [(618,.var [.clo (.func 262) [] [.L 619,.L 620],.I 3,.clo (.func 263) [] [.L 621,.L 622,.L 620],.I 5]),(619,.var (Qa b)),(620,.var (Qb a)),(621,.var (QQ c)),(622,.var (Qb e))] (.I i),4] Z Z Z (λσ j k D=>Stp.buildAny Z Z (QR g.n Z) (Qt.es Z) Pi Z (by decide) (by decide) (DZ j Z) Z Z (D Z)) (Qbf _ _ _ _ _ _ _ f)<|E h Z r2_
def Fk (d:LI_)(e:Qe)(f:LI_)(a:Int):O_ (Int⊕((Int×Int)⊕Unit)):=bif (a<(d.length:Int))then (idx d a).bind λc=>(AZ a c e f).bind λb=>bif (b != 0)then some (.inr (.inl (a,b)))else some (.inl (Qi (a+1)))else some (.inr (.inr ()))
def Fl (a:Int)(b:Int):O_ (Int×Int):=some (a,b)
def Fm : O_ (Int×Int):=some (0,0)
def Ct (a:LI_)(b:Qe)(c:LI_):O_ (Int×Int):=(QD (λst=>Fk a b c st) 0).bind (Sum.elim (λq=>Fl q.1 q.2) (λq=>Fm))
def Qbg (g e f):CT 260 [.sl 1 (g.map Qb),.clo (.func 261) [] [.L 618,.L 619]] [(618,.var (Qa e)),(619,.var (QQ f))] (Ct g e f) (λr=>(.tup [.I r.1,.I r.2])) (λ_=>[(618,.var (Qa e)),(619,.var (QQ f))]):=
 W 25 func260 Z λC c r h=>J c [10,.o (.ln g.length),4] Z Qc<|lq_ h (λst=>⟨[(1,.clo (.func 261) [] [.L 618,.L 619]),(9,.sl 1 (g.map Qb)),(10,.I (g.length:Int)),(11,.I st)],[(618,.var (Qa e)),(619,.var (QQ f))]⟩) (λq=>(.ret,⟨[(4,.I q.1),(5,.I q.2)],[(618,.var (Qa e)),(619,.var (QQ f))]⟩)) (λq=>(.exit 0,⟨[],[(618,.var (Qa e)),(619,.var (QQ f))]⟩)) Z (λs o h=>H c [6] Z<|I h (λa h=>B h λk i h=>B h λl j h=>g3_ c [.T,7,.o (.row (Qb k)),10,.cm (.clo) [(618,618),(619,619)] [(618,618),(619,619)] [] [.d,.d,.d,.d] [(618,.var (Qa e)),(619,.var (QQ f))] (.I l),9] Z a (Xi i) (Qaw _ _ _ _ _ j)<|I h (λb h=>J c [.T,11] Z b<|rR_ h Z) λb h=>J c [.F,7] Z b<|rN_ h Z) λa h=>J c [.F,2] Z a<|rX_ h Z) (λ⟨m,p⟩ h=>H c [2] Z<|F h Z Z r2_) (λ_ h=>H c [9] Z<|F h Z Z r2_)
def FR (b:Qe)(a:LI_):O_ Int:=(Ct a b a).bind λc=>some c.2
def Qb7 (a b):CT 215 [.agg (Qa a),.sl 1 (b.map Qb)] [] (FR a b) V.I no_:=
 W 14 func215 Z λC f r h=>B h λe c h=>J f [11,.cm (.fn) [(618,2),(619,3)] [(2,618),(3,619)] [] [.d,.d] [(618,.var (Qa a)),(619,.var (QQ b))] (.tup [.I e.1,.I e.2]),14] Z (Qbg _ _ _ _ c)<|E h Z U
def FT (a:Qe)(b:QG):O_ Int:=(FR a b.Cancel).bind λc=>some c
def Qb8 (a b):CT 214 [.L 618,.L 619] [(618,.var (Qa a)),(619,.var (Qg b))] (FT a b) V.I (λ_=>[(618,.var (Qa a)),(619,.var (Qg b))]):=
 W 7 func214 Z λC f r h=>B h λg e h=>K f [7,.A (Qa a),2,.o (.C2 (.I g)),4] Z Z (Qb7 _ _ _ e)<|E h Z r2_
def Ap (b:Qe)(c:QG)(d:Int):O_ (Bool×Int):=(FT b c).bind λa=>some ((a==0),a)
def Zl (c e j):CT 245 [.L 618,.L 621] [(618,.var [.clo (.func 214) [] [.L 619,.L 620]]),(619,.var (Qa c)),(620,.var (Qg e)),(621,.var [.L 622]),(622,.var (Qb j))] (Ap c e j) (λr=>(.b r.1)) (λr=>[(618,.var [.clo (.func 214) [] [.L 619,.L 620]]),(619,.var (Qa c)),(620,.var (Qg e)),(621,.var [.L 622]),(622,.var (Qb r.2))]):=
 W 11 func245 Z λC f r h=>B h λg i h=>H f [6,.K [0,1] [618,619,620,621,622]] Z <| 
  dr_ f [.N,.N,.B (.any (.I g) none),.N,.m .s] [] [] [1] [618,619,620,621,622] Z Z (A (λσ k l _=>Stp.callSame (md:=.cm (.clo) [(618,619),(619,620)] [(619,618),(620,619)] [] [.d,.d] [(618,.var (Qa c)),(619,.var (Qg e))] (.I g) [619,620]) Qt f k l Z (a2_ (Qb8 _ _ _ i) r2_))) Z <|
  J f [.O 622 (.var (Qb g)),11] Z Z<|E h Z r5_
def Aq (a:Int)(b:(L_ Xo)):O_ Bool:=
 some ((1<=a)&&((a<=3)&&((a != 3)||((b.length:Int)<=4))))
def Pp (a g):CT 264 [.I a,.sl 4 (g.map Xf)] [] (Aq a g) V.b no_:=
 W 20 func264 Z λC f r h=>H f [6] Z<|Y ⟨[(4,.b ((1<=a)&&((a<=3)&&((a != 3)||((g.length:Int)<=4)))))],[]⟩ (H f [4] Z<|bO_ (decide (1<=a)) (λc=>L f [.S 7 (.b true),4] Z c<|bO_ (decide (a<=3)) (λd=>L f [.S 11 (.b true),3] Z d<|bO_ (a != 3) (λe=>G f [.S 14 (.b true),7,.S 4 (.b ((1<=a)&&((a<=3)&&((a != 3)||((g.length:Int)<=4)))))] Z ⟨(tc_ e),(cb_ (Yx c (Yx d (Eh e Z))))⟩<|M Z) λe=>G f [.S 14 (.b false),1,.o (.ln g.length),5,.S 4 (.b ((1<=a)&&((a<=3)&&((a != 3)||((g.length:Int)<=4)))))] Z ⟨⟨(tc_ e),Qc⟩,(cb_ (Yx c (Yx d (Ji e Z))))⟩<|M Z) λd=>G f [.S 11 (.b false),10,.S 4 (.b ((1<=a)&&((a<=3)&&((a != 3)||((g.length:Int)<=4)))))] Z ⟨(tc_ d),(cb_ (Yx c (KL d Z)))⟩<|M Z) λc=>G f [.S 7 (.b false),14,.S 4 (.b ((1<=a)&&((a<=3)&&((a != 3)||((g.length:Int)<=4)))))] Z ⟨(tc_ c),(cb_ (KL c Z))⟩<|M Z)<|H f [2] Z<|E h Z U
def SK (a:QG):O_ Bool:=
 (Aq a.Join a.Ins).bind λb=>
 bif b then
 (Aq a.Split a.Outs).bind λc=>
 bif c then
 bif (0<=a.After)then
 bif (a.After<=65536)then
 some (((a.Many.1==0)&&((a.Many.2.1==0)&&(a.Many.2.2==0)))||((1<=a.Many.1)&&((a.Many.1<=a.Many.2.1)&&((a.Many.2.1<=16)&&((1<=a.Many.2.2)&&(a.Many.2.2<=a.Many.2.1))))))
 else
 some false
 else
 some false
 else
 some false
 else
 some false
def SL (a:Bool):O_ Bool:=some a
def LU (a:QG):O_ Bool:=(SK a).bind (λb=>SL b)
def Qeo (a):CT 217 [.agg (Qg a)] [] (LU a) V.b no_:=
 W 70 func217 Z λC e r h=>H e [7,.K [1] [1]] Z <| 
  dr_ e [.N,.N,.N,.N,.N,.N,.N,.N,.N,.N,.N,.N] [] [] [1,3,4,5] [1] Z Z U Z <|
  H e [2] Z<|Y ⟨[lk_ 1,(6,.b (((a.Many.1==0)&&((a.Many.2.1==0)&&(a.Many.2.2==0)))||((1<=a.Many.1)&&((a.Many.1<=a.Many.2.1)&&((a.Many.2.1<=16)&&((1<=a.Many.2.2)&&(a.Many.2.2<=a.Many.2.1)))))))],[(1,.var (Qg a))]⟩ (g3_ e [2,.A (Qgg a.Many),.A (Qgg (0,0,0)),.o (.any (.b ((a.Many.1==0)&&((a.Many.2.1==0)&&(a.Many.2.2==0)))) none),1] Z Z Z (λσ y z _=>Stp.eqAgg Z Z (QR e.n Z) (y _ _ Z) (y _ _ Z) Z Z (Qox _ _ _ _ _ _))<|bO_ ((a.Many.1==0)&&((a.Many.2.1==0)&&(a.Many.2.2==0))) (λf=>G e [.S 21 (.b true),23,.S 6 (.b (((a.Many.1==0)&&((a.Many.2.1==0)&&(a.Many.2.2==0)))||((1<=a.Many.1)&&((a.Many.1<=a.Many.2.1)&&((a.Many.2.1<=16)&&((1<=a.Many.2.2)&&(a.Many.2.2<=a.Many.2.1)))))))] Z ⟨(tc_ f),(cb_ (Eh f Z))⟩<|M Z) λf=>L e [.S 21 (.b false),3] Z f<|bO_ (decide (1<=a.Many.1)) (λg=>L e [.S 24 (.b true),5] Z g<|bO_ (decide (a.Many.1<=a.Many.2.1)) (λi=>L e [.S 29 (.b true),4] Z i<|bO_ (decide (a.Many.2.1<=16)) (λj=>L e [.S 33 (.b true),4] Z j<|bO_ (decide (1<=a.Many.2.2)) (λk=>G e [.S 37 (.b true),7,.S 6 (.b (((a.Many.1==0)&&((a.Many.2.1==0)&&(a.Many.2.2==0)))||((1<=a.Many.1)&&((a.Many.1<=a.Many.2.1)&&((a.Many.2.1<=16)&&((1<=a.Many.2.2)&&(a.Many.2.2<=a.Many.2.1)))))))] Z ⟨(tc_ k),(cb_ (Ji f (Yx g (Yx i (Yx j (Yx k Z))))))⟩<|M Z) λk=>G e [.S 37 (.b false),7,.S 6 (.b (((a.Many.1==0)&&((a.Many.2.1==0)&&(a.Many.2.2==0)))||((1<=a.Many.1)&&((a.Many.1<=a.Many.2.1)&&((a.Many.2.1<=16)&&((1<=a.Many.2.2)&&(a.Many.2.2<=a.Many.2.1)))))))] Z ⟨(tc_ k),(cb_ (Ji f (Yx g (Yx i (Yx j (KL k Z))))))⟩<|M Z) λj=>G e [.S 33 (.b false),11,.S 6 (.b (((a.Many.1==0)&&((a.Many.2.1==0)&&(a.Many.2.2==0)))||((1<=a.Many.1)&&((a.Many.1<=a.Many.2.1)&&((a.Many.2.1<=16)&&((1<=a.Many.2.2)&&(a.Many.2.2<=a.Many.2.1)))))))] Z ⟨(tc_ j),(cb_ (Ji f (Yx g (Yx i (KL j Z)))))⟩<|M Z) λi=>G e [.S 29 (.b false),15,.S 6 (.b (((a.Many.1==0)&&((a.Many.2.1==0)&&(a.Many.2.2==0)))||((1<=a.Many.1)&&((a.Many.1<=a.Many.2.1)&&((a.Many.2.1<=16)&&((1<=a.Many.2.2)&&(a.Many.2.2<=a.Many.2.1)))))))] Z ⟨(tc_ i),(cb_ (Ji f (Yx g (KL i Z))))⟩<|M Z) λg=>G e [.S 24 (.b false),20,.S 6 (.b (((a.Many.1==0)&&((a.Many.2.1==0)&&(a.Many.2.2==0)))||((1<=a.Many.1)&&((a.Many.1<=a.Many.2.1)&&((a.Many.2.1<=16)&&((1<=a.Many.2.2)&&(a.Many.2.2<=a.Many.2.1)))))))] Z ⟨(tc_ g),(cb_ (Ji f (KL g Z)))⟩<|M Z)<|H e [7] Z<|mV_ h (λu=>⟨[(2,.b u)],[]⟩) (λu h=>B h λw s h=>J e [6,.o (.C2 (.b w)),1] Z (Pp _ _ _ s)<|I h (λl h=>B h λx t h=>G e [.S 49 (.b true),5,.o (.C2 (.b x)),2] Z ⟨(tc_ l),(Pp _ _ _ t)⟩<|I h (λm h=>L e [.S 57 (.b true),5] Z m<|I h (λp h=>L e [.S 62 (.b true),5] Z p<|I h (λq h=>L e [.S 67 (.b true),4] Z q<|mq_ h Z) λq h=>L e [.S 67 (.b false),4] Z q<|mq_ h Z) λp h=>L e [.S 62 (.b false),9] Z p<|mq_ h Z) λm h=>L e [.S 57 (.b false),14] Z m<|mq_ h Z) λl h=>L e [.S 49 (.b false),22] Z l<|mq_ h Z) λu h=>H e [2] Z<|E h Z U
def FU (a:QG):O_ Bool:=(LU a).bind λb=>some b
def Qb9 (a):CT 216 [.L 618] [(618,.var (Qg a))] (FU a) V.b (λ_=>[(618,.var (Qg a))]):=
 W 4 func216 Z λC f r h=>B h λg e h=>K f [7,.A (Qg a),.o (.C1 (.b g)),4] Z Z (Qeo _ _ e)<|E h Z r1_
def Gi (b:QG)(v:Int)(f:Qe)(u:Int)(w:Int)(g:Int)(x:Int)(h:Int)(y:Int)(i:Int)(j:Int)(k:Int)(l:Int)(m:Int)(n:Int):O_ (Int×Int):=(Ir b).bind λo=>bif (!o)then some (v,h)else (Iv f u b).bind λp=>bif (!p)then some (w,h)else (BD g b).bind λq=>bif (!q)then some (x,h)else (Am f b h).bind λa=>bif (!a.1)then some (y,a.2)else (BE f u).bind λr=>bif (!r)then some (i,a.2)else (Ix b g).bind λs=>bif (!s)then some (j,a.2)else (An f b g a.2).bind λd=>bif (!d.1)then some (k,d.2)else (Ao f b g d.2).bind λe=>bif (!e.1)then some (l,e.2)else (Ap f b e.2).bind λc=>bif (!c.1)then some (m,c.2)else (FU b).bind λt=>bif (!t)then some (n,c.2)else some (0,c.2)
def Qbh (f v2 u S v5 P v7 v8 v9 w x y z D N):CT 133 [.own 618 10] [(618,.var [.clo (.func 201) [] [.L 619],.I v2,.clo (.func 202) [] [.L 620,.L 621,.L 622],.I v5,.clo (.func 204) [] [.L 623,.L 619],.I v7,.clo (.func 245) [] [.L 624,.L 625],.I v9,.clo (.func 208) [] [.L 620,.L 621],.I w,.clo (.func 209) [] [.L 619,.L 623],.I x,.clo (.func 245) [] [.L 627,.L 628],.I y,.clo (.func 245) [] [.L 629,.L 630],.I z,.clo (.func 245) [] [.L 631,.L 632],.I D,.clo (.func 216) [] [.L 619],.I N]),(619,.var (Qg f)),(620,.var (Qa u)),(621,.var (Qb S)),(622,.var [.clo (.func 200) [] [.L 619]]),(623,.var (Qb P)),(624,.var [.clo (.func 206) [] [.L 620,.L 619]]),(625,.var [.L 626]),(626,.var (Qb v8)),(627,.var [.clo (.func 211) [] [.L 620,.L 619,.L 623]]),(628,.var [.L 626]),(629,.var [.clo (.func 213) [] [.L 620,.L 619,.L 623]]),(630,.var [.L 626]),(631,.var [.clo (.func 214) [] [.L 620,.L 619]]),(632,.var [.L 626])] (Gi f v2 u S v5 P v7 v8 v9 w x y z D N) (λr=>(.I r.1)) (λr=>[(618,.var [.clo (.func 201) [] [.L 619],.I v2,.clo (.func 202) [] [.L 620,.L 621,.L 622],.I v5,.clo (.func 204) [] [.L 623,.L 619],.I v7,.clo (.func 245) [] [.L 624,.L 625],.I v9,.clo (.func 208) [] [.L 620,.L 621],.I w,.clo (.func 209) [] [.L 619,.L 623],.I x,.clo (.func 245) [] [.L 627,.L 628],.I y,.clo (.func 245) [] [.L 629,.L 630],.I z,.clo (.func 245) [] [.L 631,.L 632],.I D,.clo (.func 216) [] [.L 619],.I N]),(619,.var (Qg f)),(620,.var (Qa u)),(621,.var (Qb S)),(622,.var [.clo (.func 200) [] [.L 619]]),(623,.var (Qb P)),(624,.var [.clo (.func 206) [] [.L 620,.L 619]]),(625,.var [.L 626]),(626,.var (Qb r.2)),(627,.var [.clo (.func 211) [] [.L 620,.L 619,.L 623]]),(628,.var [.L 626]),(629,.var [.clo (.func 213) [] [.L 620,.L 619,.L 623]]),(630,.var [.L 626]),(631,.var [.clo (.func 214) [] [.L 620,.L 619]]),(632,.var [.L 626])]):=
 W 18 func133 Z λC a r h=>H a [14] Z<|AK.loopN 11<|AK.rnd<|B h λb4 a0 h=>g4_ a [2,.v .no [] (.b true),10,.o (.any (.L 618) none),3,.O 4 (.var [.clo (.func 201) [] [.L 619],.I v2]),6,.cm (.clo) [(618,619)] [(619,618)] [] [.d] [(618,.var (Qg f))] (.b b4),3] Z Z (λσ c e _=>Stp.idxV Z Z (QR a.n Z) (c _ _ Z) (c _ _ Z) (Qt.es Z) (e _ _ Z) (by decide)) Z (Qdh _ _ a0)<|I h (λg h=>J a [.T,13] Z g<|E h Z rF_) λg h=>K a [.F,4,.v .no [] (.I 1),2] Z g Z<|AK.met<|AK.rnd<|B h λb5 a1 h=>g4_ a [2,.v .no [] (.b true),10,.o (.any (.loc 618 0 2) none),1,.kill 4,2,.O 4 (.var [.clo (.func 202) [] [.L 620,.L 621,.L 622],.I v5]),6,.cm (.clo) [(618,620),(619,621),(620,622),(621,619)] [(620,618),(621,619),(622,620),(619,621)] [] [.d,.d,.d] [(618,.var (Qa u)),(619,.var (Qb S)),(620,.var [.clo (.func 200) [] [.L 621]]),(621,.var (Qg f))] (.b b5),3] Z Z (λσ c e _=>Stp.idxV Z Z (QR a.n Z) (c _ _ Z) (c _ _ Z) (Qt.es Z) (e _ _ Z) (by decide)) Z (Qdj _ _ _ _ a1)<|I h (λi h=>J a [.T,13] Z i<|E h Z rF_) λi h=>K a [.F,4,.v .no [] (.I 2),2] Z i Z<|AK.met<|AK.rnd<|B h λb6 a2 h=>g4_ a [2,.v .no [] (.b true),10,.o (.any (.loc 618 0 4) none),1,.kill 4,2,.O 4 (.var [.clo (.func 204) [] [.L 623,.L 619],.I v7]),6,.cm (.clo) [(618,623),(619,619)] [(623,618),(619,619)] [] [.d,.d] [(618,.var (Qb P)),(619,.var (Qg f))] (.b b6),3] Z Z (λσ c e _=>Stp.idxV Z Z (QR a.n Z) (c _ _ Z) (c _ _ Z) (Qt.es Z) (e _ _ Z) (by decide)) Z (Qdk _ _ _ a2)<|I h (λj h=>J a [.T,13] Z j<|E h Z rF_) λj h=>K a [.F,4,.v .no [] (.I 3),2] Z j Z<|AK.met<|AK.rnd<|B h λa3 a4 h=>g4_ a [2,.v .no [] (.b true),10,.o (.any (.loc 618 0 6) none),1,.kill 4,2,.O 4 (.var [.clo (.func 245) [] [.L 624,.L 625],.I v9]),6,.cm (.clo) [(618,624),(619,620),(620,619),(621,625),(622,626)] [(624,618),(620,619),(619,620),(625,621),(626,622)] [] [.d,.d] [(618,.var [.clo (.func 206) [] [.L 619,.L 620]]),(619,.var (Qa u)),(620,.var (Qg f)),(621,.var [.L 622]),(622,.var (Qb a3.2))] (.b a3.1),3] Z Z (λσ c e _=>Stp.idxV Z Z (QR a.n Z) (c _ _ Z) (c _ _ Z) (Qt.es Z) (e _ _ Z) (by decide)) Z (Qb6 _ _ _ _ a4)<|I h (λk h=>J a [.T,13] Z k<|E h Z rF_) λk h=>K a [.F,4,.v .no [] (.I 4),2] Z k Z<|AK.met<|AK.rnd<|B h λb7 a5 h=>g4_ a [2,.v .no [] (.b true),10,.o (.any (.loc 618 0 8) none),1,.kill 4,2,.O 4 (.var [.clo (.func 208) [] [.L 620,.L 621],.I w]),6,.cm (.clo) [(618,620),(619,621)] [(620,618),(621,619)] [] [.d,.d] [(618,.var (Qa u)),(619,.var (Qb S))] (.b b7),3] Z Z (λσ c e _=>Stp.idxV Z Z (QR a.n Z) (c _ _ Z) (c _ _ Z) (Qt.es Z) (e _ _ Z) (by decide)) Z (Qdm _ _ _ a5)<|I h (λl h=>J a [.T,13] Z l<|E h Z rF_) λl h=>K a [.F,4,.v .no [] (.I 5),2] Z l Z<|AK.met<|AK.rnd<|B h λb8 a6 h=>g4_ a [2,.v .no [] (.b true),10,.o (.any (.loc 618 0 10) none),1,.kill 4,2,.O 4 (.var [.clo (.func 209) [] [.L 619,.L 623],.I x]),6,.cm (.clo) [(618,619),(619,623)] [(619,618),(623,619)] [] [.d,.d] [(618,.var (Qg f)),(619,.var (Qb P))] (.b b8),3] Z Z (λσ c e _=>Stp.idxV Z Z (QR a.n Z) (c _ _ Z) (c _ _ Z) (Qt.es Z) (e _ _ Z) (by decide)) Z (Qdn _ _ _ a6)<|I h (λm h=>J a [.T,13] Z m<|E h Z rF_) λm h=>K a [.F,4,.v .no [] (.I 6),2] Z m Z<|AK.met<|AK.rnd<|B h λa7 a8 h=>g4_ a [2,.v .no [] (.b true),10,.o (.any (.loc 618 0 12) none),1,.kill 4,2,.O 4 (.var [.clo (.func 245) [] [.L 627,.L 628],.I y]),6,.cm (.clo) [(618,627),(619,620),(620,619),(621,623),(622,628),(623,626)] [(627,618),(620,619),(619,620),(623,621),(628,622),(626,623)] [] [.d,.d] [(618,.var [.clo (.func 211) [] [.L 619,.L 620,.L 621]]),(619,.var (Qa u)),(620,.var (Qg f)),(621,.var (Qb P)),(622,.var [.L 623]),(623,.var (Qb a7.2))] (.b a7.1),3] Z Z (λσ c e _=>Stp.idxV Z Z (QR a.n Z) (c _ _ Z) (c _ _ Z) (Qt.es Z) (e _ _ Z) (by decide)) Z (Zj _ _ _ _ _ a8)<|I h (λp h=>J a [.T,13] Z p<|E h Z rF_) λp h=>K a [.F,4,.v .no [] (.I 7),2] Z p Z<|AK.met<|AK.rnd<|B h λa9 b0 h=>g4_ a [2,.v .no [] (.b true),10,.o (.any (.loc 618 0 14) none),1,.kill 4,2,.O 4 (.var [.clo (.func 245) [] [.L 629,.L 630],.I z]),6,.cm (.clo) [(618,629),(619,620),(620,619),(621,623),(622,630),(623,626)] [(629,618),(620,619),(619,620),(623,621),(630,622),(626,623)] [] [.d,.d] [(618,.var [.clo (.func 213) [] [.L 619,.L 620,.L 621]]),(619,.var (Qa u)),(620,.var (Qg f)),(621,.var (Qb P)),(622,.var [.L 623]),(623,.var (Qb a9.2))] (.b a9.1),3] Z Z (λσ c e _=>Stp.idxV Z Z (QR a.n Z) (c _ _ Z) (c _ _ Z) (Qt.es Z) (e _ _ Z) (by decide)) Z (Zk _ _ _ _ _ b0)<|I h (λq h=>J a [.T,13] Z q<|E h Z rF_) λq h=>K a [.F,4,.v .no [] (.I 8),2] Z q Z<|AK.met<|AK.rnd<|B h λb1 b2 h=>g4_ a [2,.v .no [] (.b true),10,.o (.any (.loc 618 0 16) none),1,.kill 4,2,.O 4 (.var [.clo (.func 245) [] [.L 631,.L 632],.I D]),6,.cm (.clo) [(618,631),(619,620),(620,619),(621,632),(622,626)] [(631,618),(620,619),(619,620),(632,621),(626,622)] [] [.d,.d] [(618,.var [.clo (.func 214) [] [.L 619,.L 620]]),(619,.var (Qa u)),(620,.var (Qg f)),(621,.var [.L 622]),(622,.var (Qb b1.2))] (.b b1.1),3] Z Z (λσ c e _=>Stp.idxV Z Z (QR a.n Z) (c _ _ Z) (c _ _ Z) (Qt.es Z) (e _ _ Z) (by decide)) Z (Zl _ _ _ _ b2)<|I h (λs h=>J a [.T,13] Z s<|E h Z rF_) λs h=>K a [.F,4,.v .no [] (.I 9),2] Z s Z<|AK.met<|AK.rnd<|B h λb9 b3 h=>g4_ a [2,.v .no [] (.b true),10,.o (.any (.loc 618 0 18) none),1,.kill 4,2,.O 4 (.var [.clo (.func 216) [] [.L 619],.I N]),6,.cm (.clo) [(618,619)] [(619,618)] [] [.d] [(618,.var (Qg f))] (.b b9),3] Z Z (λσ c e _=>Stp.idxV Z Z (QR a.n Z) (c _ _ Z) (c _ _ Z) (Qt.es Z) (e _ _ Z) (by decide)) Z (Qb9 _ _ b3)<|I h (λt h=>J a [.T,13] Z t<|E h Z rF_) λt h=>K a [.F,4,.v .no [] (.I 10),2] Z t Z<|AK.met<|AK.rnd<|J a [2,.v .no [] (.b false),15] Z Z<|E h Z rF_
def Ka (a:Qe)(e:Int):O_ Int:=(Jm a.Tasks e).bind λg=>bif (!g)then some 3 else (Al a).bind λf=>bif (f.2 != 0)then some f.2 else (idx a.Tasks e).bind λd=>(idx a.Tasks e).bind λb=>(LT 0 a d).bind λh=>(Cj 0 a d (b.Vars.length:Int)).bind λi=>(Ck 0 a d (b.Vars.length:Int)).bind λj=>(Cm 0 a d).bind λk=>(Gi d 1 a e 5 (b.Vars.length:Int) 2 0 (-1) 2 1 (-1) (-1) (-1) 11).bind λc=>bif (c.1==(-1))then some c.2 else some c.1
def Qfq (i z):CT 144 [.agg (Qa i),.I z] [] (Ka i z) V.I no_:=
 W 68 func144 Z λC g r h=>B h λx5 D h=>J g [13,.o (.C2 (.b x5)),3] Z (FQ _ _ _ D)<|I h (λk h=>J g [.T,7] Z k<|E h Z U) λk h=>B h λx7 P h=>g3_ g [.F,5,.A (Qa i),.o (.C1 (.tup [.I x7.1,.I x7.2])),13] Z k Z (Po _ _ P)<|I h (λl h=>J g [.T,8] Z l<|E h Z U) λl h=>B h λj S h=>B h λe p h=>G g [.F,3,.K [2,3] [2,3]] Z (A l) <| 
  dr_ g [.N,.N,.N,.B (.row (Qg j)),.E (.agg (Qg j)),.a .no none true,.a .no none true,.a .no none true,.a (.row (Qg e)) none true,.a .no none true,.a .no none true,.a (.ln e.Vars.length) none true,.N,.N,.m .s,.m .s] [2,3] [2,3] [2,3,7,8] [2,3,7,8] Z Z (a4_ (Xi S) Z (Xi p) Qc) Z <|
  B h λa0 q h=>B h λa1 t h=>B h λa2 u h=>B h λa3 w h=>B h λx y h=>G g [.O 7 (.var (Qg j)),.O 8 (.var (Qb (e.Vars.length:Int))),6,.O 9 (.var [.clo (.func 200) [] [.L 7]]),10,.A [.clo (.func 201) [] [.L 7],.I 1],1,.A [.clo (.func 202) [] [.L 2,.L 3,.L 9],.I 5],1,.A [.clo (.func 204) [] [.L 8,.L 7],.I 2],1,.cm (.fn) [(618,10),(619,2),(620,7)] [(45,2),(611,3),(10,618),(2,619),(7,620)] [] [.d,.d] [(2,.var [.L 618]),(3,.var [.clo (.func 206) [] [.L 619,.L 620]]),(618,.var (Qb 0)),(619,.var (Qa i)),(620,.var (Qg j))] (.clo (.func 245) [] [.L 3,.L 2]),.A [.clo (.func 245) [] [.L 611,.L 45],.I (-1)],1,.A [.clo (.func 208) [] [.L 2,.L 3],.I 2],1,.A [.clo (.func 209) [] [.L 7,.L 8],.I 1],1,.cm (.fn) [(618,10),(619,2),(620,7),(621,8)] [(52,2),(612,3),(10,618),(2,619),(7,620),(8,621)] [] [.d,.d] [(2,.var [.L 618]),(3,.var [.clo (.func 211) [] [.L 619,.L 620,.L 621]]),(618,.var (Qb 0)),(619,.var (Qa i)),(620,.var (Qg j)),(621,.var (Qb (e.Vars.length:Int)))] (.clo (.func 245) [] [.L 3,.L 2]),.A [.clo (.func 245) [] [.L 612,.L 52],.I (-1)],1,.cm (.fn) [(618,10),(619,2),(620,7),(621,8)] [(55,2),(613,3),(10,618),(2,619),(7,620),(8,621)] [] [.d,.d] [(2,.var [.L 618]),(3,.var [.clo (.func 213) [] [.L 619,.L 620,.L 621]]),(618,.var (Qb 0)),(619,.var (Qa i)),(620,.var (Qg j)),(621,.var (Qb (e.Vars.length:Int)))] (.clo (.func 245) [] [.L 3,.L 2]),.A [.clo (.func 245) [] [.L 613,.L 55],.I (-1)],1,.cm (.fn) [(618,10),(619,2),(620,7)] [(58,2),(614,3),(10,618),(2,619),(7,620)] [] [.d,.d] [(2,.var [.L 618]),(3,.var [.clo (.func 214) [] [.L 619,.L 620]]),(618,.var (Qb 0)),(619,.var (Qa i)),(620,.var (Qg j))] (.clo (.func 245) [] [.L 3,.L 2]),.A [.clo (.func 245) [] [.L 614,.L 58],.I (-1)],1,.A [.clo (.func 216) [] [.L 7],.I 11],.o (.any (.own 62 10) (some (.var [.clo (.func 201) [] [.L 7],.I 1,.clo (.func 202) [] [.L 2,.L 3,.L 9],.I 5,.clo (.func 204) [] [.L 8,.L 7],.I 2,.clo (.func 245) [] [.L 611,.L 45],.I (-1),.clo (.func 208) [] [.L 2,.L 3],.I 2,.clo (.func 209) [] [.L 7,.L 8],.I 1,.clo (.func 245) [] [.L 612,.L 52],.I (-1),.clo (.func 245) [] [.L 613,.L 55],.I (-1),.clo (.func 245) [] [.L 614,.L 58],.I (-1),.clo (.func 216) [] [.L 7],.I 11]))),.cm (.fn) [(618,62),(619,7),(620,2),(621,3),(622,9),(623,8),(624,611),(625,45),(626,10),(627,612),(628,52),(629,613),(630,55),(631,614),(632,58)] [(62,618),(7,619),(2,620),(3,621),(9,622),(8,623),(611,624),(45,625),(10,626),(612,627),(52,628),(613,629),(55,630),(614,631),(58,632)] [] [.d] [(618,.var [.clo (.func 201) [] [.L 619],.I 1,.clo (.func 202) [] [.L 620,.L 621,.L 622],.I 5,.clo (.func 204) [] [.L 623,.L 619],.I 2,.clo (.func 245) [] [.L 624,.L 625],.I (-1),.clo (.func 208) [] [.L 620,.L 621],.I 2,.clo (.func 209) [] [.L 619,.L 623],.I 1,.clo (.func 245) [] [.L 627,.L 628],.I (-1),.clo (.func 245) [] [.L 629,.L 630],.I (-1),.clo (.func 245) [] [.L 631,.L 632],.I (-1),.clo (.func 216) [] [.L 619],.I 11]),(619,.var (Qg j)),(620,.var (Qa i)),(621,.var (Qb z)),(622,.var [.clo (.func 200) [] [.L 619]]),(623,.var (Qb (e.Vars.length:Int))),(624,.var [.clo (.func 206) [] [.L 620,.L 619]]),(625,.var [.L 626]),(626,.var (Qb x.2)),(627,.var [.clo (.func 211) [] [.L 620,.L 619,.L 623]]),(628,.var [.L 626]),(629,.var [.clo (.func 213) [] [.L 620,.L 619,.L 623]]),(630,.var [.L 626]),(631,.var [.clo (.func 214) [] [.L 620,.L 619]]),(632,.var [.L 626])] (.I x.1),10] Z ⟨⟨⟨⟨⟨⟨⟨⟨⟨⟨⟨⟨⟨⟨⟨⟨⟨⟨⟨U,Z⟩,Z⟩,Z⟩,Z⟩,Z⟩,Z⟩,(Qen _ _ _ _ q)⟩,Z⟩,Z⟩,Z⟩,(Qa8 _ _ _ _ _ t)⟩,Z⟩,(Qa9 _ _ _ _ _ u)⟩,Z⟩,(Qba _ _ _ _ w)⟩,Z⟩,Z⟩,(λσ h1 h2 hf=>Stp.buildAny Z Z (QR g.n Z) (Qt.es Z) Pi Z (by decide) (by decide) (DZ h1 Z) Z Z (hf Z))⟩,(Qbh _ _ _ _ _ _ _ _ _ _ _ _ _ _ _ _ y)⟩<|I h (λf h=>J g [.T,8] Z f<|E h Z U) λf h=>J g [.F,9] Z f<|E h Z U
def CN (a:Int)(d:QG)(b:Qe):O_ Int:=(Ka b a).bind λc=>some c
def Qep (e f a):CT 143 [.I e,.agg (Qg f),.L 618] [(618,.var (Qa a))] (CN e f a) V.I (λ_=>[(618,.var (Qa a))]):=
 W 9 func143 Z λC g r h=>B h λi b h=>K g [8,.A (Qa a),1,.o (.C2 (.I i)),4] Z Z (Qfq _ _ _ b)<|E h Z r1_
def KX (d:(L_ QG))(e:Qe)(a:Int):O_ (Int⊕((Int×Int)⊕Unit)):=bif (a<(d.length:Int))then (idx d a).bind λc=>(CN a c e).bind λb=>bif (b != 0)then some (.inr (.inl (a,b)))else some (.inl (Qi (a+1)))else some (.inr (.inr ()))
def Uj (b:Int)(a:Int):O_ (Int×Int):=some (b,a)
def Uk : O_ (Int×Int):=some (0,0)
def KB (a:(L_ QG))(b:Qe):O_ (Int×Int):=(QD (λst=>KX a b st) 0).bind (Sum.elim (λq=>Uj q.1 q.2) (λq=>Uk))
def SM (g f):CT 142 [.sl 14 (g.map Qg),.clo (.func 143) [] [.L 618]] [(618,.var (Qa f))] (KB g f) (λr=>(.tup [.I r.1,.I r.2])) (λ_=>[(618,.var (Qa f))]):=
 W 25 func142 Z λC e r h=>J e [10,.o (.ln g.length),4] Z Qc<|lq_ h (λst=>⟨[(1,.clo (.func 143) [] [.L 618]),(9,.sl 14 (g.map Qg)),(10,.I (g.length:Int)),(11,.I st)],[(618,.var (Qa f))]⟩) (λq=>(.ret,⟨[(4,.I q.1),(5,.I q.2)],[(618,.var (Qa f))]⟩)) (λq=>(.exit 0,⟨[],[(618,.var (Qa f))]⟩)) Z (λm o h=>H e [6] Z<|I h (λa h=>B h λc i h=>B h λk j h=>G e [.T,7,.o (.row (Qg c)),.A (Qg c),3,.O 7 (.var (Qg c)),6,.A (Qg c),.cm (.clo) [(618,618)] [(618,618)] [] [.d,.d,.d] [(618,.var (Qa f))] (.I k),9] Z (a6_ a (Xi i) Z Z Z (Qep _ _ _ _ j))<|I h (λb h=>J e [.T,11] Z b<|rR_ h Z) λb h=>J e [.F,7] Z b<|rN_ h Z) λa h=>J e [.F,2] Z a<|rX_ h Z) (λ⟨p,l⟩ h=>H e [2] Z<|F h Z Z r1_) (λ_ h=>H e [9] Z<|F h Z Z r1_)
def ET (c:Qe):O_ (Int×GN):=(LQ c 2 3 1).bind λe=>bif (e != 0)then some (e,(GN.mk 1 0))else (Al c).bind λd=>bif (d.2 != 0)then some (d.2,(GN.mk 2 d.1))else (Gq c.Places c).bind λa=>bif (a.2 != 0)then some (a.2,(GN.mk 3 a.1))else (KB c.Tasks c).bind λb=>bif (b.2 != 0)then some (b.2,(GN.mk 4 b.1))else some (0,(GN.mk 0 0))
def QgC (k):CT 85 [.agg (Qa k)] [] (ET k) (λr=>(.tup [.agg (WT r.2),.I r.1])) no_:=by
 refine W 58 func85 rfl λC e r h=>?_
 obtain⟨t,q,h⟩:=Qv h
 refine Qo e [10,.A [.clo (.func 134) [] [.L 1],.I 2],1,.A [.clo (.func 135) [] [.L 1],.I 3],1,.A [.clo (.func 137) [] [.L 1],.I 1],.o (.any (.own 17 3) (some (.var [.clo (.func 134) [] [.L 1],.I 2,.clo (.func 135) [] [.L 1],.I 3,.clo (.func 137) [] [.L 1],.I 1]))),.cm (.fn) [(618,17),(619,1)] [(17,618),(1,619)] [] [.d] [(618,.var [.clo (.func 134) [] [.L 619],.I 2,.clo (.func 135) [] [.L 619],.I 3,.clo (.func 137) [] [.L 619],.I 1]),(619,.var (Qa k))] (.I t),10] Z (a5_ Z Z Z (λσ u w D=>Stp.buildAny Z Z (QR e.n Z) (Qt.es Z) Pi Z (by decide) (by decide) (DZ u Z) Z Z (D Z)) (Qej _ _ _ _ _ q)) ?_
 rcases XN h with⟨i,h⟩|⟨i,h⟩
 ·refine Qo e [.T,2,.A (WT (GN.mk 1 0)),2,.O 2 (.var (WT (GN.mk 1 0))),5,.K [2,3] [2]] Z (a3_ i Z Z) ?_
  cases h
  exact AK.done (ex_ [_,_] (an_ (an_ (ex_ _ (ex_ _ (an_ Z (an_ Z (Or.inl (an_ (Qt.ag Z) (an_ (Qt.sz Z) Z))))))) (an_ Z U)) (gives U)))
 obtain⟨p,s,h⟩:=Qv h
 refine Qo e [.F,5,.A (Qa k),.o (.C1 (.tup [.I p.1,.I p.2])),13] Z (a3_ i Z (Po _ _ s)) ?_
 rcases XN h with⟨j,h⟩|⟨j,h⟩
 ·refine Qo e [.T,3,.A (WT (GN.mk 2 p.1)),2,.O 2 (.var (WT (GN.mk 2 p.1))),5,.K [2,3] [2]] Z (a3_ j Z Z) ?_
  cases h
  exact AK.done (ex_ [_,_] (an_ (an_ (ex_ _ (ex_ _ (an_ Z (an_ Z (Or.inl (an_ (Qt.ag Z) (an_ (Qt.sz Z) Z))))))) (an_ Z U)) (gives U)))
 obtain⟨f,l,h⟩:=Qv h
 refine Qo e [.F,8,.cm (.fn) [(618,1)] [(1,618)] [] [.d,.d] [(618,.var (Qa k))] (.tup [.I f.1,.I f.2]),13] Z (a2_ j (Ry _ _ _ l)) ?_
 rcases XN h with⟨a,h⟩|⟨a,h⟩
 ·refine Qo e [.T,3,.A (WT (GN.mk 3 f.1)),2,.O 2 (.var (WT (GN.mk 3 f.1))),5,.K [2,3] [2]] Z (a3_ a Z Z) ?_
  cases h
  exact AK.done (ex_ [_,_] (an_ (an_ (ex_ _ (ex_ _ (an_ Z (an_ Z (Or.inl (an_ (Qt.ag Z) (an_ (Qt.sz Z) Z))))))) (an_ Z U)) (gives U)))
 obtain⟨g,m,h⟩:=Qv h
 refine Qo e [.F,8,.cm (.fn) [(618,1)] [(1,618)] [] [.d,.d] [(618,.var (Qa k))] (.tup [.I g.1,.I g.2]),13] Z (a2_ a (SM _ _ _ m)) ?_
 refine bg_ h (λb h=>Qo e [.T,3,.A (WT (GN.mk 4 g.1)),2,.O 2 (.var (WT (GN.mk 4 g.1))),5,.K [2,3] [2]] rfl (a3_ b rfl rfl) ?_) λb h=>Qo e [.F,4,.A (WT (GN.mk 0 0)),1,.O 2 (.var (WT (GN.mk 0 0))),4,.K [2,3] [2]] rfl (a3_ b rfl rfl) ?_
 ·cases h
  exact AK.done (ex_ [_,_] (an_ (an_ (ex_ _ (ex_ _ (an_ Z (an_ Z (Or.inl (an_ (Qt.ag Z) (an_ (Qt.sz Z) Z))))))) (an_ Z U)) (gives U)))
 cases h
 exact AK.done (ex_ [_,_] (an_ (an_ (ex_ _ (ex_ _ (an_ Z (an_ Z (Or.inl (an_ (Qt.ag Z) (an_ (Qt.sz Z) Z))))))) (an_ Z U)) (gives U)))
def TV (a:QBg)(b:Int):O_ Bool:=(Wx a).bind λc=>bif (!c)then some true else bif (0<(a.length:Int))then (idx a (Qi ((a.length:Int)-1))).bind λd=>some (decide (b<=d.1))else some false
def TW (b:Int)(a:Bool):O_ (Int⊕(Unit⊕Unit)):=bif a then some (.inr (.inl ()))else some (.inl (Qi (b+1)))
def ND (e:QMk)(f:Qe)(a:Int):O_ (Int⊕(Unit⊕Unit)):=bif (a<(e.length:Int))then (idx e a).bind λg=>(idx f.Places a).bind λb=>(YP f.Colours b.Colour).bind λc=>(TV g c).bind (λd=>TW a d)else some (.inr (.inr ()))
def Qfr : O_ Bool:=some false
def Qfs : O_ Bool:=some true
def NE (a:Qe)(b:QMk):O_ Bool:=bif ((b.length:Int) != (a.Places.length:Int))then some false else (QD (λst=>ND b a st) 0).bind (Sum.elim (λq=>Qfr) (λq=>Qfs))
def Qft (p j):CT 86 [.agg (Qa p),.sl 1 (j.map Qh)] [] (NE p j) V.b no_:=
 W 50 func86 Z λC e r h=>K e [10,.o (.ln j.length),2,.o (.ln p.Places.length),3] Z Qc Qc<|I h (λk h=>J e [.T,7] Z k<|E h Z U) λk h=>K e [.F,6,.o (.ln j.length),4] Z k Qc<|lq_ h (λst=>⟨[lk_ 2,(14,.sl 1 (j.map Qh)),(15,.I (j.length:Int)),(16,.I st)],[(2,.var (Qa p))]⟩) (λq=>(.ret,⟨[(4,.b false)],[]⟩)) (λq=>(.exit 0,⟨[],[]⟩)) Z (λP o h=>H e [6] Z<|I h (λl h=>B h λw x h=>B h λy s h=>B h λz t h=>G e [.T,7,.o (.row (Qh w)),6,.K [2,5,6,14,15,16] [2]] Z (a2_ l (Xi x)) <| 
  dr_ e [.N,.N,.N,.N,.N,.B (.row (Qp y)),.N,.N,.B (.C2 (.I z)),.N] [] [] [2,6,7,14,15,16] [2] Z Z (a2_ (Xi s) (Cd _ _ _ t)) Z <|
  H e [2] Z<|mV_ h (λm=>⟨[lk_ 2,(14,.sl 1 (j.map Qh)),(15,.I (j.length:Int)),(16,.I P),(48,.b m)],[(2,.var (Qa p))]⟩) (λm h=>B h λD u h=>J e [2,.o (.C1 (.b D)),2] Z (HT _ _ u)<|I h (λf h=>L e [.S 33 (.b true),16] Z f<|mq_ h Z) λf h=>G e [.S 33 (.b false),1,.o (.ln w.length),2] Z ⟨(tc_ f),Qc⟩<|I h (λg h=>B h λO v h=>G e [.S 37 (.b true),2,.o (.ln w.length),1,.o (.row (QT O)),7] Z ⟨⟨(tc_ g),Qc⟩,(Xi v)⟩<|mq_ h Z) λg h=>L e [.S 37 (.b false),12] Z g<|mq_ h Z) λm h=>H e [1] Z<|I h (λi h=>J e [.T,8] Z i<|rR_ h Z) λi h=>J e [.F,7] Z i<|rN_ h Z) λl h=>J e [.F,2] Z l<|rX_ h Z) (λ_ h=>H e [2] Z<|E h Z U) (λ_ h=>H e [8] Z<|E h Z U)
def NF (a:(Int×GN))(c:Qe)(d:QMk):O_ Bool:=bif (a.1 != 0)then some true else (NE c d).bind λb=>some (!b)
def NG (d:Qe)(a:Int)(b:Int):O_ ((Int×Int)⊕Int):=bif (b<(d.Tasks.length:Int))then (idx d.Tasks b).bind λc=>(WJ d b).bind λe=>some (.inl ((Qi (a+(Qi (e*(Qi (1+(Qi ((c.Ins.length:Int)*(c.Outs.length:Int))))))))),(Qi (b+1))))else some (.inr a)
def Qfu (a:Int):O_ Bool:=some (decide (a<=600))
def NH (b:Qe)(a:Bool):O_ Bool:=bif a then some false else (QD (λst=>NG b st.1 st.2) (0,0)).bind (λq=>Qfu q)
def BF (a:Qe)(d:QMk):O_ Bool:=
 (AD a).bind λe=>
 (OW d).bind λf=>
 bif ((!e)||((!f)||(12<(a.Tasks.length:Int))))then
 some false
 else
 (ET a).bind λb=>
 (NF b a d).bind (λc=>NH a c)
def Qfv (f m2):CT 48 [.agg (Qa f),.sl 1 (m2.map Qh)] [] (BF f m2) V.b no_:=
 W 69 func48 Z λC e r h=>B h λx a3 h=>B h λy a4 h=>g3_ e [8,.A (Qa f),.o (.C1 (.b x)),6,.o (.C1 (.b y)),5] Z Z (Zi _ _ a3) (QgB _ _ a4)<|Y ⟨[(1,.sl 1 (m2.map Qh)),lk_ 2,(27,.b ((!x)||((!y)||(12<(f.Tasks.length:Int)))))],[(2,.var (Qa f))]⟩ (H e [4] Z<|bO_ (!x) (λg=>G e [.S 18 (.b true),10,.S 27 (.b ((!x)||((!y)||(12<(f.Tasks.length:Int)))))] Z ⟨(tc_ g),(cb_ (Eh g Z))⟩<|M Z) λg=>L e [.S 18 (.b false),4] Z g<|bO_ (!y) (λi=>G e [.S 22 (.b true),6,.S 27 (.b ((!x)||((!y)||(12<(f.Tasks.length:Int)))))] Z ⟨(tc_ i),(cb_ (Ji g (Eh i Z)))⟩<|M Z) λi=>G e [.S 22 (.b false),2,.o (.ln f.Tasks.length),3,.S 27 (.b ((!x)||((!y)||(12<(f.Tasks.length:Int)))))] Z ⟨⟨(tc_ i),Qc⟩,(cb_ (Ji g (Ji i Z)))⟩<|M Z)<|H e [1] Z<|I h (λj h=>J e [.T,7] Z j<|E h Z U) λj h=>B h λu z h=>g4_ e [.F,4,.A (Qa f),.o (.C1 (.tup [.agg (WT u.2),.I u.1])),5,.O 7 (.var (WT u.2)),5] Z j Z (QgC _ _ z) Z<|mV_ h (λw=>⟨[lk_ 2,(40,.b w)],[(2,.var (Qa f))]⟩) (λw h=>H e [4] Z<|I h (λk h=>L e [.S 35 (.b true),6] Z k<|mq_ h Z) λk h=>B h λa5 D h=>G e [.S 35 (.b false),.A (Qa f),1,.o (.C2 (.b a5)),3] Z ⟨⟨(tc_ k),Z⟩,(Qft _ _ _ D)⟩<|mq_ h Z) λw h=>H e [1] Z<|I h (λl h=>J e [.T,7] Z l<|E h Z U) λl h=>J e [.F,14] Z l<|lp_ h (λst=>⟨[lk_ 2,(9,.I st.1),(10,.I st.2)],[(2,.var (Qa f))]⟩) (λq=>(.exit 0,⟨[(9,.I q)],[]⟩)) Z (λ⟨a1,a7⟩ o h=>J e [6,.o (.ln f.Tasks.length),3] Z Qc<|I h (λp h=>B h λt P h=>B h λa6 a0 h=>G e [.T,9,.o (.row (Qg t)),.A (Qg t),2,.O 11 (.var (Qg t)),2,.K [2,9,10,11] [2,11]] Z (a4_ p (Xi P) Z Z) <| 
  dr_ e [.N,.E (.agg (Qa f)),.N,.B (.C2 (.I a6)),.N,.N,.B (.ln t.Ins.length),.N,.N,.B (.ln t.Outs.length),.N,.N,.N,.N,.m .s] [] [] [2,9,10] [2] Z Z (a4_ Z (SJ _ _ _ a0) Qc Qc) Z <|
  H e [7] Z<|rN_ h Z) λp h=>J e [.F,2] Z p<|rX_ h Z) λa2 h=>H e [10] Z<|E h Z U
def TX (c:Bool)(a:Int)(d:Qe)(e:QMk):O_ Bool:=bif c then bif (a<=12)then bif ((d.Tasks.length:Int)<=6)then (Hj e).bind λb=>some (decide (b<=30))else some false else some false else some false
def TY (a:Bool):O_ Bool:=some a
def NI (b:Qe)(c:QMk)(a:Int):O_ Bool:=(BF b c).bind λd=>(TX d a b c).bind (λe=>TY e)
def Qfw (k q a):CT 25 [.agg (Qa k),.sl 1 (q.map Qh),.I a] [] (NI k q a) V.b no_:=
 W 27 func25 Z λC f r h=>B h λs l h=>K f [8,.A (Qa k),1,.o (.C2 (.b s)),4] Z Z (Qfv _ _ _ l)<|mV_ h (λm=>⟨[(6,.b m)],[]⟩) (λm h=>H f [3] Z<|I h (λg h=>L f [.S 12 (.b true),4] Z g<|I h (λi h=>G f [.S 16 (.b true),2,.o (.ln k.Tasks.length),3] Z ⟨(tc_ i),Qc⟩<|I h (λe h=>B h λp j h=>G f [.S 22 (.b true),1,.o (.C1 (.I p)),4] Z ⟨(tc_ e),(Tz _ _ j)⟩<|mq_ h Z) λe h=>L f [.S 22 (.b false),6] Z e<|mq_ h Z) λi h=>L f [.S 16 (.b false),12] Z i<|mq_ h Z) λg h=>L f [.S 12 (.b false),16] Z g<|mq_ h Z) λm h=>H f [2] Z<|E h Z U
def NJ (b:Qe)(a:Int):O_ Bool:=
 (AD b).bind λe=>
 bif ((!e)||((16<a)||((6<(b.Tasks.length:Int))||(8<(b.Places.length:Int)))))then
 some false
 else
 (Gz b).bind λc=>
 (NI b c (min2 a 12)).bind λd=>
 some d
def Qfx (f e):CT 7 [.agg (Qa f),.I e] [] (NJ f e) V.b no_:=
 W 32 func7 Z λC i r h=>B h λm t h=>K i [8,.A (Qa f),.o (.C1 (.b m)),5] Z Z (Zi _ _ t)<|Y ⟨[(1,.I e),lk_ 2,(25,.b ((!m)||((16<e)||((6<(f.Tasks.length:Int))||(8<(f.Places.length:Int))))))],[(2,.var (Qa f))]⟩ (H i [4] Z<|bO_ (!m) (λg=>G i [.S 10 (.b true),16,.S 25 (.b ((!m)||((16<e)||((6<(f.Tasks.length:Int))||(8<(f.Places.length:Int))))))] Z ⟨(tc_ g),(cb_ (Eh g Z))⟩<|M Z) λg=>L i [.S 10 (.b false),4] Z g<|bO_ (decide (16<e)) (λj=>G i [.S 14 (.b true),12,.S 25 (.b ((!m)||((16<e)||((6<(f.Tasks.length:Int))||(8<(f.Places.length:Int))))))] Z ⟨(tc_ j),(cb_ (Ji g (Eh j Z)))⟩<|M Z) λj=>G i [.S 14 (.b false),2,.o (.ln f.Tasks.length),3] Z ⟨(tc_ j),Qc⟩<|bO_ (decide (6<(f.Tasks.length:Int))) (λk=>G i [.S 20 (.b true),6,.S 25 (.b ((!m)||((16<e)||((6<(f.Tasks.length:Int))||(8<(f.Places.length:Int))))))] Z ⟨(tc_ k),(cb_ (Ji g (Ji j (Eh k Z))))⟩<|M Z) λk=>G i [.S 20 (.b false),2,.o (.ln f.Places.length),3,.S 25 (.b ((!m)||((16<e)||((6<(f.Tasks.length:Int))||(8<(f.Places.length:Int))))))] Z ⟨⟨(tc_ k),Qc⟩,(cb_ (Ji g (Ji j (Ji k Z))))⟩<|M Z)<|H i [1] Z<|I h (λl h=>J i [.T,7] Z l<|E h Z U) λl h=>B h λp q h=>B h λu s h=>G i [.F,3,.K [1,2] [2]] Z (A l) <| 
  dr_ i [.E (.agg (Qa f)),.E (.agg (Qa f)),.B (.cd false [.d] 1 (p.map Qh) p.length),.N,.N,.B (.C3 (.b u)),.N] [] [] [4] [] Z Z (a4_ Z Z ⟨(MW _ _ q),Qc⟩ (Qfw _ _ _ _ s)) Z <|
  H i [2] Z<|E h Z U
def GD (f:Qe)(a:Int)(b:Int)(c:Int):O_ Bool:=
 (PF).bind λg=>
 (NJ f a).bind λh=>
 bif ((!h)||((c<0)||((10<c)||((1048576<b)||(a<0)))))then
 some g
 else
 (JV f a b).bind λd=>
 (JV f (Qi (a+c)) (Qi ((max2 b 0)+c))).bind λe=>
 some (g&&((d.Told==3)||((d.Told==e.Told)&&((d.Clause==e.Clause)&&((d.Task==e.Task)&&((d.Trace.length:Int)==(e.Trace.length:Int)))))))
def Zm (D i g e):CT 4 [.agg (Qa D),.I i,.I g,.I e] [] (GD D i g e) V.b no_:=
 W 85 func4 Z λC m r h=>B h λy a0 h=>B h λz a1 h=>g3_ m [8,.o (.c false [] (.b y)),5,.A (Qa D),1,.o (.C2 (.b z)),5] Z (Qee _  a0) Z (Qfx _ _ _ a1)<|Y ⟨[(1,.I i),(2,.I g),(3,.I e),lk_ 4,(9,.b y),(34,.b ((!z)||((e<0)||((10<e)||((1048576<g)||(i<0))))))],[(4,.var (Qa D))]⟩ (H m [4] Z<|bO_ (!z) (λk=>G m [.S 19 (.b true),16,.S 34 (.b ((!z)||((e<0)||((10<e)||((1048576<g)||(i<0))))))] Z ⟨(tc_ k),(cb_ (Eh k Z))⟩<|M Z) λk=>L m [.S 19 (.b false),4] Z k<|bO_ (decide (e<0)) (λp=>G m [.S 23 (.b true),12,.S 34 (.b ((!z)||((e<0)||((10<e)||((1048576<g)||(i<0))))))] Z ⟨(tc_ p),(cb_ (Ji k (Eh p Z)))⟩<|M Z) λp=>L m [.S 23 (.b false),4] Z p<|bO_ (decide (10<e)) (λs=>G m [.S 27 (.b true),8,.S 34 (.b ((!z)||((e<0)||((10<e)||((1048576<g)||(i<0))))))] Z ⟨(tc_ s),(cb_ (Ji k (Ji p (Eh s Z))))⟩<|M Z) λs=>L m [.S 27 (.b false),4] Z s<|bO_ (decide (1048576<g)) (λu=>G m [.S 31 (.b true),4,.S 34 (.b ((!z)||((e<0)||((10<e)||((1048576<g)||(i<0))))))] Z ⟨(tc_ u),(cb_ (Ji k (Ji p (Ji s (Eh u Z)))))⟩<|M Z) λu=>G m [.S 31 (.b false),4,.S 34 (.b ((!z)||((e<0)||((10<e)||((1048576<g)||(i<0))))))] Z ⟨(tc_ u),(cb_ (Ji k (Ji p (Ji s (Ji u Z)))))⟩<|M Z)<|H m [1] Z<|I h (λx h=>J m [.T,8] Z x<|E h Z U) λx h=>B h λa N h=>B h λf P h=>G m [.F,4,.A (Qa D),2,.o (.C3 (.agg (QE a))),2,.O 11 (.var (QE a)),4,.A (Qa D),7,.o (.C3 (.agg (QE f))),2,.O 12 (.var (QE f)),3] Z (a7_ x Z (Gh _ _ _ _ N) Z Z (Gh _ _ _ _ P) Z)<|Y ⟨[(8,.b (y&&((a.Told==3)||((a.Told==f.Told)&&((a.Clause==f.Clause)&&((a.Task==f.Task)&&((a.Trace.length:Int)==(f.Trace.length:Int))))))))],[]⟩ (H m [3] Z<|bO_ y (λj=>L m [.S 50 (.b true),4] Z j<|bO_ (a.Told==3) (λl=>G m [.S 54 (.b true),32,.S 8 (.b (y&&((a.Told==3)||((a.Told==f.Told)&&((a.Clause==f.Clause)&&((a.Task==f.Task)&&((a.Trace.length:Int)==(f.Trace.length:Int))))))))] Z ⟨(tc_ l),(cb_ (Yx j (Eh l Z)))⟩<|M Z) λl=>L m [.S 54 (.b false),6] Z l<|bO_ (a.Told==f.Told) (λq=>L m [.S 60 (.b true),7] Z q<|bO_ (a.Clause==f.Clause) (λt=>L m [.S 67 (.b true),7] Z t<|bO_ (a.Task==f.Task) (λw=>G m [.S 74 (.b true),2,.o (.ln a.Trace.length),2,.o (.ln f.Trace.length),6,.S 8 (.b (y&&((a.Told==3)||((a.Told==f.Told)&&((a.Clause==f.Clause)&&((a.Task==f.Task)&&((a.Trace.length:Int)==(f.Trace.length:Int))))))))] Z ⟨⟨⟨(tc_ w),Qc⟩,Qc⟩,(cb_ (Yx j (Ji l (Yx q (Yx t (Yx w Z))))))⟩<|M Z) λw=>G m [.S 74 (.b false),12,.S 8 (.b (y&&((a.Told==3)||((a.Told==f.Told)&&((a.Clause==f.Clause)&&((a.Task==f.Task)&&((a.Trace.length:Int)==(f.Trace.length:Int))))))))] Z ⟨(tc_ w),(cb_ (Yx j (Ji l (Yx q (Yx t (KL w Z))))))⟩<|M Z) λt=>G m [.S 67 (.b false),19,.S 8 (.b (y&&((a.Told==3)||((a.Told==f.Told)&&((a.Clause==f.Clause)&&((a.Task==f.Task)&&((a.Trace.length:Int)==(f.Trace.length:Int))))))))] Z ⟨(tc_ t),(cb_ (Yx j (Ji l (Yx q (KL t Z)))))⟩<|M Z) λq=>G m [.S 60 (.b false),26,.S 8 (.b (y&&((a.Told==3)||((a.Told==f.Told)&&((a.Clause==f.Clause)&&((a.Task==f.Task)&&((a.Trace.length:Int)==(f.Trace.length:Int))))))))] Z ⟨(tc_ q),(cb_ (Yx j (Ji l (KL q Z))))⟩<|M Z) λj=>G m [.S 50 (.b false),36,.S 8 (.b (y&&((a.Told==3)||((a.Told==f.Told)&&((a.Clause==f.Clause)&&((a.Task==f.Task)&&((a.Trace.length:Int)==(f.Trace.length:Int))))))))] Z ⟨(tc_ j),(cb_ (KL j Z))⟩<|M Z)<|H m [2] Z<|E h Z U

end Go.Proofs
