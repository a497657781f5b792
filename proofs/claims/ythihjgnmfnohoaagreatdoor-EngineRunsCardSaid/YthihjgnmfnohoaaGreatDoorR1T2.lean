/- Walks through the program. -/
import Derived.Test.YthihjgnmfnohoaaGreatDoorR1T1
set_option linter.all false
set_option maxRecDepth 100000
set_option maxHeartbeats 4000000
noncomputable section
namespace Go.Proofs
open Go Go.RowKit Go.Vm Go.Proofs.Tryz
open Option renaming some→Q,bind→j_
open Sum renaming inl→y_,inr→i_
variable (a e:Int)(k:QZ)(r:Bool)(d i0:QBg)(m:(L_ Qg))(c:Int)(b:Qh)(g:Int)(m0:ByteArray)(h j0:QMk)(t:Qo)(c0:Qn)(j:Int)(i:LI_)(e0:Int)(n:QK)(f:Qz)(f1:(L_ ByteArray))(h0:(L_ QR))(o j2:Int)(h3:Qn->O_ Int)(d3:Qn)(k2:LI_->Qn->O_ (Int×Int))(g1:LI_)(i1:Qn)(f0:(L_ (O_ Nat)))(g2:(L_ (Int×(O_ Nat))))(k1:(L_ Qe))(e3:Qz)(g0:Xh)(l:QW)(p:Int)(j3:(QBg×QBg))(m1:Qn->Int->O_ Bool)(c2:Qn)(k0:Int)(l3:LI_)(q g3:Qg)(j1:Int)(c1:QMk)(i3:(QMk×Int))(d4:QMk)(d2:QLL)(d1:(Int×Int×Int))(f3:Int)(d0:Bool)(e1:QBg)(l0:Qh)(s:Int)(m3:(Bool×Ji))(c3:Int)(e2:LI_)(c4:(L_ Qn))(f2:Int)
def Bq:O_ Bool:=j_ (chk (decide (0<=(Qm (g+1)))&&decide (0<=(Qm (g+1)).toNat)&&decide ((Qm (g+1)).toNat<=b.Colours.length))) λ_=>j_ (MS ((b.Colours.drop 0).take ((Qm (g+1)).toNat-0))) λc=>Q c
def Qc0 {c d}:CT 115 [.L 619,.L 620] [(619,.W Qf c),(620,.W Qb d)] (Bq c d) V.b (λ_=>[(619,.W Qf c),(620,.W Qb d)]):=
 W 9 func115 Z<|kA_ λa=>K [11,.o (.any (.sl 7 (((c.Colours.drop 0).take ((Qm (d+1)).toNat-0)).map XI)) none)] Z (λf=>(a1_ (λσ e g _=>Qc.sliceD Z Z (QJ f.n Z) (e _ _ Z) (QA.es Z) DJ.no (DJ.val (e _ _ Z) (Xc (HW a)) Z) (Xc (HX a)) (YC (Xc (Vi a)) (Fb Qw.symm)) Oo)))<|A 0 Qhk Z λh=>E 4 Z
def QaN:O_ (L_ ByteArray):=j_ (chk (QoD m0)) λ_=>Q (BM m0)
def Qe5 (x){r}(h:QaN x=Q r):QP prog 318 [.s x] [] (Gives (.P 600 r) [(600,.R 1 Hm r)]):=by
 obtain⟨_,a,h⟩:=QU h;cases h;exact Qnv QrG (by kernel_rfl) (by kernel_rfl) x (QlM a)
def Ik  : O_ (L_ ByteArray):=(QaN (⟨#[99,111,108,111,117,114,32,112,108,97,99,101,32,116,97,115,107,32,118,97,114,32,119,104,101,110,32,106,111,105,110,32,115,112,108,105,116,32,105,110,32,111,117,116,32,99,97,110,99,101,108,32,97,102,116,101,114,32,109,97,110,121,32,102,114,111,109,32,116,111,32,105,110,116,32,101,110,117,109,32,112,97,105,114,32,97,110,100,32,120,111,114,32,111,114,32,105,102]⟩:ByteArray)).bind λa=>Q a
def QiG : CT 275 [] [] (Ik ) (λr=>(.P 600 r)) (λr=>[(600,.R 1 Hm r)]):=
 W 2 func275 Z<|B λb a=>G [7,.o (.co false [.d] 1 (b.map Hm) b.length),4,.ren 1 600] Z ⟨(Qe5 _ a),Qw,.inl Z⟩<|E 0 Z
def Gf (c:ByteArray)(a:Int):O_ (Int⊕(Int⊕Unit)):=bif (a<(f1.length:Int))then j_ (idx f1 a) λd=>bif (Kq c d)then Q (i_ (y_ a))else Q (y_ (Qm (a+1)))else Q (i_ (i_ ()))
def Gg:O_ Int:=Q a
def Gh : O_ Int:=Q (-1)
def WR (b:ByteArray):O_ Int:=j_ (Qt (λst=>Gf f1 b st) 0) (Sum.elim (λq=>Gg q) (λq=>Gh))
def PN {a b}:CT 317 [.M 1 Hm a,.s b] [] (WR a b) V.I no_:=
 W 19 func317 Z<|N 9 Z<|F 4 [0,1,7] [] (λst=>([(8,.I st)],[])) [] [] (λq=>(.ret,([(4,.I q)],[]))) [] [] (λq=>(.exit 0,([],[]))) Z (λc=>I 6 Z (J 15 Z λd=>I 4 Z (L 9 Z)<|R 7 Z)<|X 2 Z) (λe=>E 2 Z) (λ_=>E 8 Z)
def KU (b:ByteArray):O_ Bool:=j_ (WR f1 b) λc=>Q (decide (0<=c))
def NJ {a c}:CT 274 [.M 1 Hm a,.s c] [] (KU a c) V.b no_:=
 W 9 func274 Z<|A 9 PN Z λd=>E 5 Z
def RM:O_ Bool:=j_ (Ik) λb=>j_ (KU b m0) λc=>Q c
def QkF {a}:CT 201 [.s a] [] (RM a) V.b no_:=
 W 6 func201 Z<|oC_ 7 [] QiG Z λc=>cV_ 1 [.o _,.d] NJ Z λe=>E 4 Z
def Qb1:O_ Bool:=j_ (DB m0) λb=>bif b then j_ (RM m0) λc=>Q (!c)else Q false
def Qb2:O_ Bool:=Q r
def EU:O_ Bool:=j_ (Qb1 m0) (λb=>Qb2 b)
def Ci {a}:CT 112 [.s a] [] (EU a) V.b no_:=
 W 10 func112 Z<|mV_ 6 [] [] (λc=>([(2,.b c)],[])) Z (A 2 OZ Z λd=>I 1 Z (A 1 QkF Z λe=>M 4 Z)<|M 6 Z) λc=>E 2 Z
def Uo:O_ Bool:=j_ (EU m0) λb=>Q (!b)
def QaO {a}:CT 114 [.s a] [] (Uo a) V.b no_:=
 W 6 func114 Z<|A 8 Ci Z λc=>E 5 Z
def WS:O_ (Int⊕(Int⊕Unit)):=bif (o<(f1.length:Int))then j_ (idx f1 o) λc=>j_ (Uo c) λd=>bif d then Q (i_ (y_ o))else Q (y_ (Qm (o+1)))else Q (i_ (i_ ()))
def WT:O_ Int:=Q a
def WU : O_ Int:=Q (-1)
def KG:O_ Int:=j_ (Qt (λst=>WS f1 st) 0) (Sum.elim (λq=>WT q) (λq=>WU))
def MT {a}:CT 202 [.M 1 Hm a,.clo (.func 114) [] []] [] (KG a) V.I no_:=
 W 19 func202 Z<|N 9 Z<|F 4 [0,1,7] [] (λst=>([(8,.I st)],[])) [] [] (λq=>(.ret,([(4,.I q)],[]))) [] [] (λq=>(.exit 0,([],[]))) Z (λb=>I 6 Z (J 15 Z λc=>A 1 QaO Z λd=>I 2 Z (L 9 Z)<|R 7 Z)<|X 2 Z) (λe=>E 2 Z) (λ_=>E 8 Z)
def JV:O_ Bool:=j_ (KG f1) λb=>Q (decide (0<=b))
def IS {a}:CT 113 [.M 1 Hm a,.clo (.func 114) [] []] [] (JV a) V.b no_:=
 W 9 func113 Z<|S 9 .fn [] MT Z λc=>E 5 Z
def Oe (a:QR):O_ Bool:=j_ (EU a.Name) λb=>bif b then bif (a.Kind != 2)then Q true else j_ (JV a.Names) λc=>Q (!c)else Q false
def Og:O_ Bool:=Q r
def Br (a:QR):O_ Bool:=j_ (Oe a) (λb=>Og b)
def Qc1 {a}:CT 111 [.L 619] [(619,.W XI a)] (Br a) V.b (λ_=>[(619,.W XI a)]):=
 W 16 func111 Z<|mV_ 6 [] [619] (λc=>([(1,.b c)],[])) Z (A 3 Ci Z λd=>I 1 Z (I 4 Z (M 8 Z)<|S 2 .fn [] IS Z λe=>M 5 Z)<|M 12 Z) λc=>E 2 Z
def Ht (e:QR)(f:Int):O_ Int:=j_ (Bq b g) λc=>bif (!c)then Q j else j_ (Br e) λa=>bif (!a)then Q f else Q 0
def Qe6 {a b c d e}:CT 60 [.own 619 2] [(619,.var [.clo (.func 115) [] [.L 620,.L 621],.I c,.clo (.func 111) [] [.L 622],.I e]),(620,.W Qf a),(621,.W Qb b),(622,.W XI d)] (Ht a b c d e) V.I (λ_=>[(619,.var [.clo (.func 115) [] [.L 620,.L 621],.I c,.clo (.func 111) [] [.L 622],.I e]),(620,.W Qf a),(621,.W Qb b),(622,.W XI d)]):=
 W 18 func60 Z<|lN_ 14 3 Z<|vI_ 13 619 0 Z<|S 9 .clo [(619,620),(620,621)] Qc0 Z λg=>I 3 Z (E 13 Z)<|rd_ 7 Z<|vI_ 13 619 2 Z<|gT_ [1,.kill 4,8] Z<|S 0 .clo [(619,622)] Qc1 Z λf=>I 3 Z (E 13 Z)<|rd_ 7 Z<|E 18 Z
def CU (b:QR)(c:Qh):O_ Int:=j_ (Ht c a 8 b 8) λd=>Q d
def Qeu {b c a}:CT 110 [.I b,.G XI c,.L 619] [(619,.W Qf a)] (CU b c a) V.I (λ_=>[(619,.W Qf a)]):=
 W 16 func110 Z<|K [25,.o (.any (.own 14 2) (Q (.var [.clo (.func 115) [] [.L 619,.L 3],.I 8,.clo (.func 111) [] [.L 4],.I 8])))] Z (λd=>(a1_ (λσ e f h=>Qc.buildAny Z Z (QJ d.n Z) (QA.es Z) Vl Z (by decide) (by decide) (AN e Z) Z Z (h Z))))<|S 0 .fn [(619,14),(620,619),(621,3),(622,4)] Qe6 Z λg=>E 4 Z
def UH:O_ (Int⊕((Int×Int)⊕Unit)):=bif (s<(h0.length:Int))then j_ (idx h0 s) λc=>j_ (CU s c l0) λb=>bif (b != 0)then Q (i_ (y_ (s,b)))else Q (y_ (Qm (s+1)))else Q (i_ (i_ ()))
def UI:O_ (Int×Int):=Q (a,e)
def UJ : O_ (Int×Int):=Q (0,0)
def GP:O_ (Int×Int):=j_ (Qt (λst=>UH h0 l0 st) 0) (Sum.elim (λq=>UI q.1 q.2) (λq=>UJ))
def VL {b a}:CT 109 [.M 7 XI b,.clo (.func 110) [] [.L 619]] [(619,.W Qf a)] (GP b a) (λr=>(.tup [.I r.1,.I r.2])) (λ_=>[(619,.W Qf a)]):=
 W 25 func109 Z<|N 10 Z<|F 4 [1,9,10] [619] (λst=>([(11,.I st)],[])) [] [619] (λq=>(.ret,([(4,.I q.1),(5,.I q.2)],[]))) [] [619] (λq=>(.exit 0,([],[]))) Z (λf=>I 6 Z (J 7 Z λc=>S 11 .clo [(619,619)] Qeu Z λd=>I 9 Z (L 11 Z)<|R 7 Z)<|X 2 Z) (λ⟨g,e⟩=>E 2 Z) (λ_=>E 9 Z)
def Cj:O_ (Int×Int):=j_ (GP b.Colours b) λa=>Q (a.1,a.2)
def Vp {a}:CT 65 [.G Qf a] [] (Cj a) (λr=>(.tup [.I r.1,.I r.2])) no_:=
 W 10 func65 Z<|S 12 .fn [(619,1)] VL Z λb=>E 7 Z
def Lq (a:XR):O_ Bool:=j_ (EU a.Name) λb=>Q b
def Qf3 {a}:CT 118 [.L 619] [(619,.W Xk a)] (Lq a) V.b (λ_=>[(619,.W Xk a)]):=
 W 5 func118 Z<|A 9 Ci Z λc=>E 4 Z
def Lr (a:XR)(b:XR):O_ Bool:=Q (Kq a.Name b.Name)
def Qf4 {c a}:CT 117 [.G Xk c,.L 619] [(619,.W Xk a)] (Lr c a) V.b (λ_=>[(619,.W Xk a)]):=
 W 9 func117 Z<|E 17 Z
def Ks (c:(L_ XR))(d:XR)(a:Int):O_ (Int⊕(Int⊕Unit)):=bif (a<(c.length:Int))then j_ (idx c a) λe=>j_ (Lr e d) λb=>bif b then Q (i_ (y_ a))else Q (y_ (Qm (a+1)))else Q (i_ (i_ ()))
def Kt:O_ Int:=Q a
def Ku : O_ Int:=Q (-1)
def JA (a:(L_ XR))(b:XR):O_ Int:=j_ (Qt (λst=>Ks a b st) 0) (Sum.elim (λq=>Kt q) (λq=>Ku))
def FX {b a}:CT 204 [.M 3 Xk b,.clo (.func 117) [] [.L 619]] [(619,.W Xk a)] (JA b a) V.I (λ_=>[(619,.W Xk a)]):=
 W 19 func204 Z<|N 9 Z<|F 4 [0,1,7] [619] (λst=>([(8,.I st)],[])) [] [619] (λq=>(.ret,([(4,.I q)],[]))) [] [619] (λq=>(.exit 0,([],[]))) Z (λd=>I 6 Z (J 15 Z λe=>S 1 .clo [(619,619)] Qf4 Z λc=>I 2 Z (L 9 Z)<|R 7 Z)<|X 2 Z) (λf=>E 2 Z) (λ_=>E 8 Z)
def Ja (a:(L_ XR))(b:XR):O_ Bool:=j_ (JA a b) λc=>Q (decide (0<=c))
def CH {c a}:CT 120 [.M 3 Xk c,.clo (.func 117) [] [.L 619]] [(619,.W Xk a)] (Ja c a) V.b (λ_=>[(619,.W Xk a)]):=
 W 9 func120 Z<|S 9 .fn [(619,619)] FX Z λd=>E 5 Z
def Ls (c:XR):O_ Bool:=j_ (chk (decide (0<=g)&&decide (0<=g.toNat)&&decide (g.toNat<=b.Places.length))) λ_=>j_ (Ja ((b.Places.drop 0).take (g.toNat-0)) c) λd=>Q (!d)
def Qf5 {e f g}:CT 119 [.L 619,.L 620,.L 621] [(619,.W Qf e),(620,.W Qb f),(621,.var [.clo (.func 117) [] [.L 622]]),(622,.W Xk g)] (Ls e f g) V.b (λ_=>[(619,.W Qf e),(620,.W Qb f),(621,.var [.clo (.func 117) [] [.L 622]]),(622,.W Xk g)]):=
 W 11 func119 Z<|kA_ λc=>B λj i=>UF 6 Z [.N,.N,.N,.B (.any (.sl 3 (((e.Places.drop 0).take (f.toNat-0)).map Xk)) none),.N,.B (.any (.b j) none),.N,.m .s] [] [] [3] [619,620,621,622] Z Z (λk=>(a2_ (λσ h l _=>Qc.sliceD Z Z (QJ k.n Z) (h _ _ Z) (QA.es Z) DJ.no (DJ.val (h _ _ Z) (Xc (HW c)) Z) (Xc (HX c)) (YC (Xc (Vi c)) (Fb Qw.symm)) Oo) (λσ h l _=>Qc.callSame (md:=.cm (.fn) [(619,622)] [(622,619)] [] [.d,.d] [(619,.W Xk g)] (.b j) [622]) QA k h l Z (a2_ (CH _ i) r1_)))) Z<|E 2 Z
def Wy:O_ Bool:=Q ((0<=o)&&(o<(h0.length:Int)))
def Hb {d c}:CT 122 [.M 7 XI d,.I c] [] (Wy d c) V.b no_:=
 W 13 func122 Z<|T 6 [] [] ([(4,.b ((0<=c)&&(c<(d.length:Int))))],[]) Z (H 4 Z (λa=>N 2 Z<|Y 4 4 Z (XW a Z)) λa=>Y 7 4 Z (Yy a Z))<|E 2 Z
def Lt (a:XR):O_ Bool:=j_ (Wy b.Colours a.Colour) λc=>Q c
def Qf6 {a c}:CT 121 [.L 619,.L 620] [(619,.W Qf a),(620,.W Xk c)] (Lt a c) V.b (λ_=>[(619,.W Qf a),(620,.W Xk c)]):=
 W 8 func121 Z<|A 11 Hb Z λd=>E 4 Z
def Lu (a:XR):O_ Bool:=j_ (Gl a.First) λb=>Q b
def Qf7 {a}:CT 123 [.L 619] [(619,.W Xk a)] (Lu a) V.b (λ_=>[(619,.W Xk a)]):=
 W 5 func123 Z<|A 9 Fh Z λc=>E 4 Z
def CV (a:(Int×Int))(b:Int):O_ Bool:=Q (decide (b<=a.1))
def Qev {a c}:CT 126 [.G Qy a,.L 619] [(619,.W Qb c)] (CV a c) V.b (λ_=>[(619,.W Qb c)]):=
 W 8 func126 Z<|E 16 Z
def WV:O_ (Int⊕(Int⊕Unit)):=bif (g<(d.length:Int))then j_ (idx d g) λe=>j_ (CV e c) λb=>bif b then Q (i_ (y_ g))else Q (y_ (Qm (g+1)))else Q (i_ (i_ ()))
def WW:O_ Int:=Q a
def WX : O_ Int:=Q (-1)
def KH:O_ Int:=j_ (Qt (λst=>WV d c st) 0) (Sum.elim (λq=>WW q) (λq=>WX))
def MU {b a}:CT 205 [.M 2 Qy b,.clo (.func 126) [] [.L 619]] [(619,.W Qb a)] (KH b a) V.I (λ_=>[(619,.W Qb a)]):=
 W 19 func205 Z<|N 9 Z<|F 4 [0,1,7] [619] (λst=>([(8,.I st)],[])) [] [619] (λq=>(.ret,([(4,.I q)],[]))) [] [619] (λq=>(.exit 0,([],[]))) Z (λd=>I 6 Z (J 15 Z λe=>S 1 .clo [(619,619)] Qev Z λc=>I 2 Z (L 9 Z)<|R 7 Z)<|X 2 Z) (λf=>E 2 Z) (λ_=>E 8 Z)
def JW:O_ Bool:=j_ (KH d c) λa=>Q (decide (0<=a))
def IT {c a}:CT 125 [.M 2 Qy c,.clo (.func 126) [] [.L 619]] [(619,.W Qb a)] (JW c a) V.b (λ_=>[(619,.W Qb a)]):=
 W 9 func125 Z<|S 9 .fn [(619,619)] MU Z λd=>E 5 Z
def Lv (a:XR):O_ Bool:=j_ (YL b.Colours a.Colour) λc=>j_ (JW a.First c) λd=>Q (!d)
def Qf8 {a c}:CT 124 [.L 619,.L 620] [(619,.W Qf a),(620,.W Xk c)] (Lv a c) V.b (λ_=>[(619,.W Qf a),(620,.W Xk c)]):=
 W 14 func124 Z<|A 11 Ho Z λd=>S 9 .fn [(619,3)] IT Z λe=>E 5 Z
def Hu (a:XR)(h:Int)(b:Qh)(i:Int)(j:Int)(k:Int)(l:Int)(m:Int):O_ Int:=j_ (Lq a) λc=>bif (!c)then Q h else j_ (Ls b i a) λd=>bif (!d)then Q j else j_ (Lt b a) λe=>bif (!e)then Q k else j_ (Lu a) λf=>bif (!f)then Q l else j_ (Lv b a) λg=>bif (!g)then Q m else Q 0
def Qe7 {a b c d e f g h}:CT 60 [.own 619 5] [(619,.var [.clo (.func 118) [] [.L 620],.I b,.clo (.func 119) [] [.L 621,.L 622,.L 623],.I e,.clo (.func 121) [] [.L 621,.L 620],.I f,.clo (.func 123) [] [.L 620],.I g,.clo (.func 124) [] [.L 621,.L 620],.I h]),(620,.W Xk a),(621,.W Qf c),(622,.W Qb d),(623,.var [.clo (.func 117) [] [.L 620]])] (Hu a b c d e f g h) V.I (λ_=>[(619,.var [.clo (.func 118) [] [.L 620],.I b,.clo (.func 119) [] [.L 621,.L 622,.L 623],.I e,.clo (.func 121) [] [.L 621,.L 620],.I f,.clo (.func 123) [] [.L 620],.I g,.clo (.func 124) [] [.L 621,.L 620],.I h]),(620,.W Xk a),(621,.W Qf c),(622,.W Qb d),(623,.var [.clo (.func 117) [] [.L 620]])]):=
 W 18 func60 Z<|lN_ 14 6 Z<|vI_ 13 619 0 Z<|S 9 .clo [(619,620)] Qf3 Z λi=>I 3 Z (E 13 Z)<|rd_ 7 Z<|vI_ 13 619 2 Z<|gT_ [1,.kill 4,8] Z<|S 0 .clo [(619,621),(620,622),(621,623),(622,620)] Qf5 Z λj=>I 3 Z (E 13 Z)<|rd_ 7 Z<|vI_ 13 619 4 Z<|gT_ [1,.kill 4,8] Z<|S 0 .clo [(619,621),(620,620)] Qf6 Z λk=>I 3 Z (E 13 Z)<|rd_ 7 Z<|vI_ 13 619 6 Z<|gT_ [1,.kill 4,8] Z<|S 0 .clo [(619,620)] Qf7 Z λl=>I 3 Z (E 13 Z)<|rd_ 7 Z<|vI_ 13 619 8 Z<|gT_ [1,.kill 4,8] Z<|S 0 .clo [(619,621),(620,620)] Qf8 Z λm=>I 3 Z (E 13 Z)<|rd_ 7 Z<|E 18 Z
def Oz:O_ Int:=j_ (YX b.Places g) λc=>bif (!c)then Q 3 else j_ (idx b.Places g) λd=>j_ (Hu d 1 b g 5 3 1 8) λe=>Q e
def QiH {a b}:CT 68 [.G Qf a,.I b] [] (Oz a b) V.I no_:=
 W 30 func68 Z<|A 13 KL Z λe=>I 3 Z (E 7 Z)<|J 7 Z λf=>K [24,.o (.any (.own 28 5) (Q (.var [.clo (.func 118) [] [.L 5],.I 1,.clo (.func 119) [] [.L 2,.L 3,.L 6],.I 5,.clo (.func 121) [] [.L 2,.L 5],.I 3,.clo (.func 123) [] [.L 5],.I 1,.clo (.func 124) [] [.L 2,.L 5],.I 8])))] Z (λc=>(a1_ (λσ d g O=>Qc.buildAny Z Z (QJ c.n Z) (QA.es Z) Vl Z (by decide) (by decide) (AN d Z) Z Z (O Z))))<|S 0 .fn [(619,28),(620,5),(621,2),(622,3),(623,6)] Qe7 Z λh=>E 4 Z
def OA (d:XR)(b:Qh):O_ Int:=j_ (Oz b a) λc=>Q c
def QiI {b c a}:CT 67 [.I b,.G Xk c,.L 619] [(619,.W Qf a)] (OA b c a) V.I (λ_=>[(619,.W Qf a)]):=
 W 9 func67 Z<|A 10 QiH Z λd=>E 4 Z
def Ah (d:(L_ XR))(e:Qh)(a:Int):O_ (Int⊕((Int×Int)⊕Unit)):=bif (a<(d.length:Int))then j_ (idx d a) λc=>j_ (OA a c e) λb=>bif (b != 0)then Q (i_ (y_ (a,b)))else Q (y_ (Qm (a+1)))else Q (i_ (i_ ()))
def Ai:O_ (Int×Int):=Q (a,e)
def Aj : O_ (Int×Int):=Q (0,0)
def EE (a:(L_ XR))(b:Qh):O_ (Int×Int):=j_ (Qt (λst=>Ah a b st) 0) (Sum.elim (λq=>Ai q.1 q.2) (λq=>Aj))
def ZH {b a}:CT 66 [.M 3 Xk b,.clo (.func 67) [] [.L 619]] [(619,.W Qf a)] (EE b a) (λr=>(.tup [.I r.1,.I r.2])) (λ_=>[(619,.W Qf a)]):=
 W 25 func66 Z<|N 10 Z<|F 4 [1,9,10] [619] (λst=>([(11,.I st)],[])) [] [619] (λq=>(.ret,([(4,.I q.1),(5,.I q.2)],[]))) [] [619] (λq=>(.exit 0,([],[]))) Z (λf=>I 6 Z (J 7 Z λc=>S 11 .clo [(619,619)] QiI Z λd=>I 9 Z (L 11 Z)<|R 7 Z)<|X 2 Z) (λ⟨g,e⟩=>E 2 Z) (λ_=>E 9 Z)
def Dz (b:(L_ QW))(a:Int):O_ Bool:=Q ((0<=a)&&(a<(b.length:Int)))
def Lw {d c}:CT 73 [.M 14 QC d,.I c] [] (Dz d c) V.b no_:=
 W 13 func73 Z<|T 6 [] [] ([(4,.b ((0<=c)&&(c<(d.length:Int))))],[]) Z (H 4 Z (λa=>N 2 Z<|Y 4 4 Z (XW a Z)) λa=>Y 7 4 Z (Yy a Z))<|E 2 Z
def OB (a:Int)(b:Qh)(c:QW):O_ Unit:=Q ()
def QiJ {a b c}:CT 132 [.L 619,.clo (.func 133) [] [.L 620,.L 621]] [(619,.W Qb a),(620,.W Qf b),(621,.W QC c)] (OB a b c) (λ_=>(.clo (.func 207) [] [.L 3,.L 2])) (λ_=>[(2,.var [.L 619]),(3,.var [.clo (.func 133) [] [.L 620,.L 621]]),(619,.W Qb a),(620,.W Qf b),(621,.W QC c)]):=
 W 6 func132 Z<|E 14 Z
def Hv (a:Int)(b:Qh)(c:QW)(d:Int):O_ Unit:=Q ()
def Qe8 {a b c d}:CT 132 [.L 619,.clo (.func 138) [] [.L 620,.L 621,.L 622]] [(619,.W Qb a),(620,.W Qf b),(621,.W QC c),(622,.W Qb d)] (Hv a b c d) (λ_=>(.clo (.func 207) [] [.L 3,.L 2])) (λ_=>[(2,.var [.L 619]),(3,.var [.clo (.func 138) [] [.L 620,.L 621,.L 622]]),(619,.W Qb a),(620,.W Qf b),(621,.W QC c),(622,.W Qb d)]):=
 W 6 func132 Z<|E 14 Z
def Hw (a:Int)(b:Qh)(c:QW)(d:Int):O_ Unit:=Q ()
def Qe9 {a b c d}:CT 132 [.L 619,.clo (.func 140) [] [.L 620,.L 621,.L 622]] [(619,.W Qb a),(620,.W Qf b),(621,.W QC c),(622,.W Qb d)] (Hw a b c d) (λ_=>(.clo (.func 207) [] [.L 3,.L 2])) (λ_=>[(2,.var [.L 619]),(3,.var [.clo (.func 140) [] [.L 620,.L 621,.L 622]]),(619,.W Qb a),(620,.W Qf b),(621,.W QC c),(622,.W Qb d)]):=
 W 6 func132 Z<|E 14 Z
def Hx (a:Int)(b:Qh)(c:QW):O_ Unit:=Q ()
def Qfa {a b c}:CT 132 [.L 619,.clo (.func 141) [] [.L 620,.L 621]] [(619,.W Qb a),(620,.W Qf b),(621,.W QC c)] (Hx a b c) (λ_=>(.clo (.func 207) [] [.L 3,.L 2])) (λ_=>[(2,.var [.L 619]),(3,.var [.clo (.func 141) [] [.L 620,.L 621]]),(619,.W Qb a),(620,.W Qf b),(621,.W QC c)]):=
 W 6 func132 Z<|E 14 Z
def MV:O_ Bool:=j_ (EU l.Name) λb=>Q b
def Qhl {a}:CT 128 [.L 619] [(619,.W QC a)] (MV a) V.b (λ_=>[(619,.W QC a)]):=
 W 5 func128 Z<|A 9 Ci Z λc=>E 4 Z
def MW (b:QW):O_ Bool:=Q (Kq l.Name b.Name)
def Qhm {c a}:CT 127 [.G QC c,.L 619] [(619,.W QC a)] (MW c a) V.b (λ_=>[(619,.W QC a)]):=
 W 9 func127 Z<|E 17 Z
def KM (c:(L_ QW))(d:QW)(a:Int):O_ (Int⊕(Int⊕Unit)):=bif (a<(c.length:Int))then j_ (idx c a) λe=>j_ (MW e d) λb=>bif b then Q (i_ (y_ a))else Q (y_ (Qm (a+1)))else Q (i_ (i_ ()))
def KN:O_ Int:=Q a
def KO : O_ Int:=Q (-1)
def JP (a:(L_ QW))(b:QW):O_ Int:=j_ (Qt (λst=>KM a b st) 0) (Sum.elim (λq=>KN q) (λq=>KO))
def Il {b a}:CT 206 [.M 14 QC b,.clo (.func 127) [] [.L 619]] [(619,.W QC a)] (JP b a) V.I (λ_=>[(619,.W QC a)]):=
 W 19 func206 Z<|N 9 Z<|F 4 [0,1,7] [619] (λst=>([(8,.I st)],[])) [] [619] (λq=>(.ret,([(4,.I q)],[]))) [] [619] (λq=>(.exit 0,([],[]))) Z (λd=>I 6 Z (J 15 Z λe=>S 1 .clo [(619,619)] Qhm Z λc=>I 2 Z (L 9 Z)<|R 7 Z)<|X 2 Z) (λf=>E 2 Z) (λ_=>E 8 Z)
def Jt (a:(L_ QW))(b:QW):O_ Bool:=j_ (JP a b) λc=>Q (decide (0<=c))
def FG {c a}:CT 130 [.M 14 QC c,.clo (.func 127) [] [.L 619]] [(619,.W QC a)] (Jt c a) V.b (λ_=>[(619,.W QC a)]):=
 W 9 func130 Z<|S 9 .fn [(619,619)] Il Z λd=>E 5 Z
def MX:O_ Bool:=j_ (chk (decide (0<=g)&&decide (0<=g.toNat)&&decide (g.toNat<=b.Tasks.length))) λ_=>j_ (Jt ((b.Tasks.drop 0).take (g.toNat-0)) l) λd=>Q (!d)
def Qhn {e f g}:CT 129 [.L 619,.L 620,.L 621] [(619,.W Qf e),(620,.W Qb f),(621,.var [.clo (.func 127) [] [.L 622]]),(622,.W QC g)] (MX e f g) V.b (λ_=>[(619,.W Qf e),(620,.W Qb f),(621,.var [.clo (.func 127) [] [.L 622]]),(622,.W QC g)]):=
 W 11 func129 Z<|kA_ λc=>B λj i=>UF 6 Z [.N,.N,.N,.B (.any (.sl 14 (((e.Tasks.drop 0).take (f.toNat-0)).map QC)) none),.N,.B (.any (.b j) none),.N,.m .s] [] [] [3] [619,620,621,622] Z Z (λk=>(a2_ (λσ h l _=>Qc.sliceD Z Z (QJ k.n Z) (h _ _ Z) (QA.es Z) DJ.no (DJ.val (h _ _ Z) (Xc (HW c)) Z) (Xc (HX c)) (YC (Xc (Vi c)) (Fb Qw.symm)) Oo) (λσ h l _=>Qc.callSame (md:=.cm (.fn) [(619,622)] [(622,619)] [] [.d,.d] [(619,.W QC g)] (.b j) [622]) QA k h l Z (a2_ (FG _ i) r1_)))) Z<|E 2 Z
def FH:O_ Bool:=Q ((a<=16)&&((max2 (max2 (l.Ins.length:Int) (l.Outs.length:Int)) (l.Cancel.length:Int))<=16))
def Qho {d a}:CT 131 [.L 619,.L 620] [(619,.W Qb d),(620,.W QC a)] (FH d a) V.b (λ_=>[(619,.W Qb d),(620,.W QC a)]):=
 W 18 func131 Z<|T 6 [] [619,620] ([(2,.b ((d<=16)&&((max2 (max2 (a.Ins.length:Int) (a.Outs.length:Int)) (a.Cancel.length:Int))<=16)))],[]) Z (H 4 Z (λc=>N 2 Z<|N 2 Z<|N 2 Z<|K [.o (.any (.I (max2 (max2 (a.Ins.length:Int) (a.Outs.length:Int)) (a.Cancel.length:Int))) none),4] Z (λf=>(a1_ (λσ e g _=>Qc.max3 Z Z (QJ f.n Z) (e _ _ Z) (e _ _ Z) (e _ _ Z))))<|Y 0 2 Z (XW c Z)) λc=>Y 14 2 Z (Yy c Z))<|E 2 Z
def Uq (a:Je):O_ Bool:=j_ (EU a.Name) λb=>Q b
def QaP {a}:CT 211 [.L 619] [(619,.W Yz a)] (Uq a) V.b (λ_=>[(619,.W Yz a)]):=
 W 5 func211 Z<|A 9 Ci Z λc=>E 4 Z
def Ur (a:Je)(b:Je):O_ Bool:=Q (Kq a.Name b.Name)
def QaQ {c a}:CT 210 [.G Yz c,.L 619] [(619,.W Yz a)] (Ur c a) V.b (λ_=>[(619,.W Yz a)]):=
 W 9 func210 Z<|E 17 Z
def Wi (c:(L_ Je))(d:Je)(a:Int):O_ (Int⊕(Int⊕Unit)):=bif (a<(c.length:Int))then j_ (idx c a) λe=>j_ (Ur e d) λb=>bif b then Q (i_ (y_ a))else Q (y_ (Qm (a+1)))else Q (i_ (i_ ()))
def Wj:O_ Int:=Q a
def Wk : O_ Int:=Q (-1)
def Kf (a:(L_ Je))(b:Je):O_ Int:=j_ (Qt (λst=>Wi a b st) 0) (Sum.elim (λq=>Wj q) (λq=>Wk))
def LM {b a}:CT 277 [.M 2 Yz b,.clo (.func 210) [] [.L 619]] [(619,.W Yz a)] (Kf b a) V.I (λ_=>[(619,.W Yz a)]):=
 W 19 func277 Z<|N 9 Z<|F 4 [0,1,7] [619] (λst=>([(8,.I st)],[])) [] [619] (λq=>(.ret,([(4,.I q)],[]))) [] [619] (λq=>(.exit 0,([],[]))) Z (λd=>I 6 Z (J 15 Z λe=>S 1 .clo [(619,619)] QaQ Z λc=>I 2 Z (L 9 Z)<|R 7 Z)<|X 2 Z) (λf=>E 2 Z) (λ_=>E 8 Z)
def JI (a:(L_ Je))(b:Je):O_ Bool:=j_ (Kf a b) λc=>Q (decide (0<=c))
def Hy {c a}:CT 213 [.M 2 Yz c,.clo (.func 210) [] [.L 619]] [(619,.W Yz a)] (JI c a) V.b (λ_=>[(619,.W Yz a)]):=
 W 9 func213 Z<|S 9 .fn [(619,619)] LM Z λd=>E 5 Z
def Us (b:(L_ Je))(a:Int)(c:Je):O_ Bool:=j_ (chk (decide (0<=a)&&decide (0<=a.toNat)&&decide (a.toNat<=b.length))) λ_=>j_ (JI ((b.drop 0).take (a.toNat-0)) c) λd=>Q (!d)
def QaR {e f g}:CT 212 [.L 619,.L 620,.L 621] [(619,.W Aq e),(620,.W Qb f),(621,.var [.clo (.func 210) [] [.L 622]]),(622,.W Yz g)] (Us e f g) V.b (λ_=>[(619,.W Aq e),(620,.W Qb f),(621,.var [.clo (.func 210) [] [.L 622]]),(622,.W Yz g)]):=
 W 10 func212 Z<|kA_ λc=>B λj i=>UF 6 Z [.N,.N,.B (.any (.sl 2 (((e.drop 0).take (f.toNat-0)).map Yz)) none),.N,.B (.any (.b j) none),.N,.m .s] [] [] [3] [619,620,621,622] Z Z (λk=>(a2_ (λσ h l _=>Qc.sliceD Z Z (QJ k.n Z) (h _ _ Z) (QA.es Z) DJ.no (DJ.val (h _ _ Z) (Xc (HW c)) Z) (Xc (HX c)) (YC (Xc (Vi c)) (Fb Qw.symm)) Oo) (λσ h l _=>Qc.callSame (md:=.cm (.fn) [(619,622)] [(622,619)] [] [.d,.d] [(619,.W Yz g)] (.b j) [622]) QA k h l Z (a2_ (Hy _ i) r1_)))) Z<|E 2 Z
def Ut (a:Je):O_ Bool:=j_ (Wy b.Colours a.Colour) λc=>Q c
def QaS {a c}:CT 214 [.L 619,.L 620] [(619,.W Qf a),(620,.W Yz c)] (Ut a c) V.b (λ_=>[(619,.W Qf a),(620,.W Yz c)]):=
 W 8 func214 Z<|A 11 Hb Z λd=>E 4 Z
def Hz (a:Je)(e:Int)(f:(L_ Je))(g:Int)(h:Int)(i:Qh)(j:Int):O_ Int:=j_ (Uq a) λb=>bif (!b)then Q e else j_ (Us f g a) λc=>bif (!c)then Q h else j_ (Ut i a) λd=>bif (!d)then Q j else Q 0
def Qfb {a b c d e f g}:CT 60 [.own 619 3] [(619,.var [.clo (.func 211) [] [.L 620],.I b,.clo (.func 212) [] [.L 621,.L 622,.L 623],.I e,.clo (.func 214) [] [.L 624,.L 620],.I g]),(620,.W Yz a),(621,.W Aq c),(622,.W Qb d),(623,.var [.clo (.func 210) [] [.L 620]]),(624,.W Qf f)] (Hz a b c d e f g) V.I (λ_=>[(619,.var [.clo (.func 211) [] [.L 620],.I b,.clo (.func 212) [] [.L 621,.L 622,.L 623],.I e,.clo (.func 214) [] [.L 624,.L 620],.I g]),(620,.W Yz a),(621,.W Aq c),(622,.W Qb d),(623,.var [.clo (.func 210) [] [.L 620]]),(624,.W Qf f)]):=
 W 18 func60 Z<|lN_ 14 4 Z<|vI_ 13 619 0 Z<|S 9 .clo [(619,620)] QaP Z λh=>I 3 Z (E 13 Z)<|rd_ 7 Z<|vI_ 13 619 2 Z<|gT_ [1,.kill 4,8] Z<|S 0 .clo [(619,621),(620,622),(621,623),(622,620)] QaR Z λi=>I 3 Z (E 13 Z)<|rd_ 7 Z<|vI_ 13 619 4 Z<|gT_ [1,.kill 4,8] Z<|S 0 .clo [(619,624),(620,620)] QaS Z λj=>I 3 Z (E 13 Z)<|rd_ 7 Z<|E 18 Z
def Bs (b:Je)(c:(L_ Je))(d:Qh):O_ Int:=j_ (Hz b 1 c a 5 d 3) λe=>Q e
def Qc2 {c d a b}:CT 209 [.I c,.G Yz d,.L 619,.L 620] [(619,.W Aq a),(620,.W Qf b)] (Bs c d a b) V.I (λ_=>[(619,.W Aq a),(620,.W Qf b)]):=
 W 17 func209 Z<|K [22,.o (.any (.own 15 3) (Q (.var [.clo (.func 211) [] [.L 5],.I 1,.clo (.func 212) [] [.L 619,.L 4,.L 7],.I 5,.clo (.func 214) [] [.L 620,.L 5],.I 3])))] Z (λe=>(a1_ (λσ f g O=>Qc.buildAny Z Z (QJ e.n Z) (QA.es Z) Vl Z (by decide) (by decide) (AN f Z) Z Z (O Z))))<|S 0 .fn [(619,15),(620,5),(621,619),(622,4),(623,7),(624,620)] Qfb Z λh=>E 4 Z
def BB (d:(L_ Je))(e:(L_ Je))(f:Qh)(a:Int):O_ (Int⊕((Int×Int)⊕Unit)):=bif (a<(d.length:Int))then j_ (idx d a) λc=>j_ (Bs a c e f) λb=>bif (b != 0)then Q (i_ (y_ (a,b)))else Q (y_ (Qm (a+1)))else Q (i_ (i_ ()))
def BC:O_ (Int×Int):=Q (a,e)
def BD : O_ (Int×Int):=Q (0,0)
def Ak (a:(L_ Je))(b:(L_ Je))(c:Qh):O_ (Int×Int):=j_ (Qt (λst=>BB a b c st) 0) (Sum.elim (λq=>BC q.1 q.2) (λq=>BD))
def Qbt {c a b}:CT 208 [.M 2 Yz c,.clo (.func 209) [] [.L 619,.L 620]] [(619,.W Aq a),(620,.W Qf b)] (Ak c a b) (λr=>(.tup [.I r.1,.I r.2])) (λ_=>[(619,.W Aq a),(620,.W Qf b)]):=
 W 25 func208 Z<|N 10 Z<|F 4 [1,9,10] [619,620] (λst=>([(11,.I st)],[])) [] [619,620] (λq=>(.ret,([(4,.I q.1),(5,.I q.2)],[]))) [] [619,620] (λq=>(.exit 0,([],[]))) Z (λh=>I 6 Z (J 7 Z λd=>S 11 .clo [(619,619),(620,620)] Qc2 Z λe=>I 9 Z (L 11 Z)<|R 7 Z)<|X 2 Z) (λ⟨f,g⟩=>E 2 Z) (λ_=>E 9 Z)
def CW (a:(L_ Je)):O_ Int:=j_ (Ak a a b) λc=>Q c.2
def Qew {a b}:CT 134 [.G Qf a,.M 2 Yz b] [] (CW a b) V.I no_:=
 W 14 func134 Z<|S 11 .fn [(619,3),(620,2)] Qbt Z λc=>E 14 Z
def MY:O_ Int:=j_ (CW b l.Vars) λc=>Q c
def Qhp {a b}:CT 133 [.L 619,.L 620] [(619,.W Qf a),(620,.W QC b)] (MY a b) V.I (λ_=>[(619,.W Qf a),(620,.W QC b)]):=
 W 7 func133 Z<|A 10 Qew Z λc=>E 4 Z
def Ck (d:Int):O_ (Bool×Int):=j_ (MY b l) λa=>Q ((a==0),a)
def Qf9 {c e g}:CT 207 [.L 619,.L 622] [(619,.var [.clo (.func 133) [] [.L 620,.L 621]]),(620,.W Qf c),(621,.W QC e),(622,.var [.L 623]),(623,.W Qb g)] (Ck c e g) (λr=>(.b r.1)) (λr=>[(619,.var [.clo (.func 133) [] [.L 620,.L 621]]),(620,.W Qf c),(621,.W QC e),(622,.var [.L 623]),(623,.W Qb r.2)]):=
 W 11 func207 Z<|B λh f=>UF 6 Z [.N,.N,.B (.any (.I h) none),.N,.m .s] [] [] [1] [619,620,621,622,623] Z Z (λi=>(a1_ (λσ j k _=>Qc.callSame (md:=.cm (.clo) [(619,620),(620,621)] [(620,619),(621,620)] [] [.d,.d] [(619,.W Qf c),(620,.W QC e)] (.I h) [620,621]) QA i j k Z (a2_ (Qhp _ f) r2_)))) Z<|E 11 Z
def Pi:O_ ((Int×Int)⊕(Unit⊕Int)):=bif (c3<(l.Vars.length:Int))then j_ (idx l.Vars c3) λd=>j_ (YL l0.Colours d.Colour) λb=>bif (b==0)then Q (i_ (y_ ()))else Q (y_ ((min2 (Qm (s*b)) 1025),(Qm (c3+1))))else Q (i_ (i_ s))
def Pj : O_ Int:=Q 0
def Pk:O_ Int:=Q a
def Im:O_ Int:=j_ (Dz b.Tasks g) λc=>bif (!c)then Q 0 else j_ (idx b.Tasks g) λd=>j_ (Qt (λst=>Pi d b st.1 st.2) (1,0)) (Sum.elim (λq=>Pj) (λq=>Pk q))
def QaT {b c}:CT 37 [.G Qf b,.I c] [] (Im b c) V.I no_:=
 W 38 func37 Z<|A 12 Lw Z λg=>I 3 Z (E 7 Z)<|J 13 Z λh=>N 2 Z<|F 4 [2,19,20] [2] (λst=>([(5,.I st.1),(21,.I st.2)],[])) [] [] (λq=>(.ret,([(4,.I 0)],[]))) [] [] (λq=>(.exit 0,([(5,.I q)],[]))) Z (λ⟨d,i⟩=>I 6 Z (J 6 Z λe=>A 11 Ho Z λf=>I 10 Z (L 9 Z)<|R 15 Z)<|X 2 Z) (λ_=>E 2 Z) (λa=>E 9 Z)
def MZ:O_ Bool:=j_ (Im b g) λc=>Q (decide (c<=1024))
def Qhq {a c}:CT 135 [.L 619,.L 620] [(619,.W Qf a),(620,.W Qb c)] (MZ a c) V.b (λ_=>[(619,.W Qf a),(620,.W Qb c)]):=
 W 7 func135 Z<|A 9 QaT Z λd=>E 5 Z
def Zc:O_ Bool:=j_ (EN l.Guard p) λc=>bif c then bif (0<(l.Ins.length:Int))then Q (decide (0<(l.Outs.length:Int)))else Q false else Q false
def Zd:O_ Bool:=Q r
def Na:O_ Bool:=j_ (Zc l p) (λc=>Zd c)
def Qhr {a c}:CT 136 [.L 619,.L 620] [(619,.W QC a),(620,.W Qb c)] (Na a c) V.b (λ_=>[(619,.W QC a),(620,.W Qb c)]):=
 W 19 func136 Z<|mV_ 6 [] [619,620] (λd=>([(2,.b d)],[])) Z (A 4 Ri Z λe=>I 1 Z (N 2 Z<|I 3 Z (N 2 Z<|M 4 Z)<|M 7 Z)<|M 13 Z) λd=>E 2 Z
def HA (a:Jf):O_ Bool:=j_ (YX b.Places a.Place) λc=>Q c
def Qfc {a c}:CT 220 [.L 619,.L 620] [(619,.W Qf a),(620,.W Kj c)] (HA a c) V.b (λ_=>[(619,.W Qf a),(620,.W Kj c)]):=
 W 8 func220 Z<|A 11 KL Z λd=>E 4 Z
def HB (a:Jf)(b:Int):O_ Bool:=j_ (EN a.Expr b) λc=>Q c
def Qfd {a c}:CT 221 [.L 619,.L 620] [(619,.W Kj a),(620,.W Qb c)] (HB a c) V.b (λ_=>[(619,.W Kj a),(620,.W Qb c)]):=
 W 7 func221 Z<|A 10 Ri Z λd=>E 4 Z
def HC (c:Jf)(d:Int)(e:Int)(f:Int):O_ Int:=j_ (HA b c) λg=>bif (!g)then Q d else j_ (HB c e) λa=>bif (!a)then Q f else Q 0
def Qfe {a b c d e}:CT 60 [.own 619 2] [(619,.var [.clo (.func 220) [] [.L 620,.L 621],.I c,.clo (.func 221) [] [.L 621,.L 622],.I e]),(620,.W Qf a),(621,.W Kj b),(622,.W Qb d)] (HC a b c d e) V.I (λ_=>[(619,.var [.clo (.func 220) [] [.L 620,.L 621],.I c,.clo (.func 221) [] [.L 621,.L 622],.I e]),(620,.W Qf a),(621,.W Kj b),(622,.W Qb d)]):=
 W 18 func60 Z<|lN_ 14 3 Z<|vI_ 13 619 0 Z<|S 9 .clo [(619,620),(620,621)] Qfc Z λg=>I 3 Z (E 13 Z)<|rd_ 7 Z<|vI_ 13 619 2 Z<|gT_ [1,.kill 4,8] Z<|S 0 .clo [(619,621),(620,622)] Qfd Z λf=>I 3 Z (E 13 Z)<|rd_ 7 Z<|E 18 Z
def Nb (e:Int)(a:Jf)(b:Qh)(c:Int):O_ Int:=j_ (HC b a 3 c 1) λd=>Q d
def Qhs {c d a b}:CT 219 [.I c,.G Kj d,.L 619,.L 620] [(619,.W Qf a),(620,.W Qb b)] (Nb c d a b) V.I (λ_=>[(619,.W Qf a),(620,.W Qb b)]):=
 W 13 func219 Z<|K [12,.o (.any (.own 11 2) (Q (.var [.clo (.func 220) [] [.L 619,.L 5],.I 3,.clo (.func 221) [] [.L 5,.L 620],.I 1])))] Z (λe=>(a1_ (λσ f g O=>Qc.buildAny Z Z (QJ e.n Z) (QA.es Z) Vl Z (by decide) (by decide) (AN f Z) Z Z (O Z))))<|S 0 .fn [(619,11),(620,619),(621,5),(622,620)] Qfe Z λh=>E 4 Z
def BE (d:(L_ Jf))(e:Qh)(f:Int)(a:Int):O_ (Int⊕((Int×Int)⊕Unit)):=bif (a<(d.length:Int))then j_ (idx d a) λc=>j_ (Nb a c e f) λb=>bif (b != 0)then Q (i_ (y_ (a,b)))else Q (y_ (Qm (a+1)))else Q (i_ (i_ ()))
def BF:O_ (Int×Int):=Q (a,e)
def BG : O_ (Int×Int):=Q (0,0)
def Al (a:(L_ Jf))(b:Qh)(c:Int):O_ (Int×Int):=j_ (Qt (λst=>BE a b c st) 0) (Sum.elim (λq=>BF q.1 q.2) (λq=>BG))
def Qbu {c a b}:CT 218 [.M 4 Kj c,.clo (.func 219) [] [.L 619,.L 620]] [(619,.W Qf a),(620,.W Qb b)] (Al c a b) (λr=>(.tup [.I r.1,.I r.2])) (λ_=>[(619,.W Qf a),(620,.W Qb b)]):=
 W 25 func218 Z<|N 10 Z<|F 4 [1,9,10] [619,620] (λst=>([(11,.I st)],[])) [] [619,620] (λq=>(.ret,([(4,.I q.1),(5,.I q.2)],[]))) [] [619,620] (λq=>(.exit 0,([],[]))) Z (λh=>I 6 Z (J 7 Z λd=>S 11 .clo [(619,619),(620,620)] Qhs Z λe=>I 9 Z (L 11 Z)<|R 7 Z)<|X 2 Z) (λ⟨f,g⟩=>E 2 Z) (λ_=>E 9 Z)
def Mj (c:(L_ Jf))(a:Int):O_ Int:=j_ (Al c b a) λd=>Q d.2
def Qb3 {b c a}:CT 139 [.G Qf b,.M 4 Kj c,.I a] [] (Mj b c a) V.I no_:=
 W 16 func139 Z<|S 11 .fn [(619,3),(620,5)] Qbu Z λd=>E 14 Z
def Nc:O_ Int:=j_ (Mj b l.Ins p) λd=>Q d
def Qht {a b c}:CT 138 [.L 619,.L 620,.L 621] [(619,.W Qf a),(620,.W QC b),(621,.W Qb c)] (Nc a b c) V.I (λ_=>[(619,.W Qf a),(620,.W QC b),(621,.W Qb c)]):=
 W 9 func138 Z<|A 11 Qb3 Z λd=>E 4 Z
def EV (e:Int):O_ (Bool×Int):=j_ (Nc b l p) λa=>Q ((a==0),a)
def Qdq {c e f h}:CT 207 [.L 619,.L 623] [(619,.var [.clo (.func 138) [] [.L 620,.L 621,.L 622]]),(620,.W Qf c),(621,.W QC e),(622,.W Qb f),(623,.var [.L 624]),(624,.W Qb h)] (EV c e f h) (λr=>(.b r.1)) (λr=>[(619,.var [.clo (.func 138) [] [.L 620,.L 621,.L 622]]),(620,.W Qf c),(621,.W QC e),(622,.W Qb f),(623,.var [.L 624]),(624,.W Qb r.2)]):=
 W 11 func207 Z<|B λi g=>UF 6 Z [.N,.N,.B (.any (.I i) none),.N,.m .s] [] [] [1] [619,620,621,622,623,624] Z Z (λj=>(a1_ (λσ k l _=>Qc.callSame (md:=.cm (.clo) [(619,620),(620,621),(621,622)] [(620,619),(621,620),(622,621)] [] [.d,.d,.d] [(619,.W Qf c),(620,.W QC e),(621,.W Qb f)] (.I i) [620,621,622]) QA j k l Z (a2_ (Qht _ g) r3_)))) Z<|E 11 Z
def Nd:O_ Int:=j_ (Mj b l.Outs p) λd=>Q d
def Qhu {a b c}:CT 140 [.L 619,.L 620,.L 621] [(619,.W Qf a),(620,.W QC b),(621,.W Qb c)] (Nd a b c) V.I (λ_=>[(619,.W Qf a),(620,.W QC b),(621,.W Qb c)]):=
 W 9 func140 Z<|A 11 Qb3 Z λd=>E 4 Z
def EW (e:Int):O_ (Bool×Int):=j_ (Nd b l p) λa=>Q ((a==0),a)
def Qdr {c e f h}:CT 207 [.L 619,.L 623] [(619,.var [.clo (.func 140) [] [.L 620,.L 621,.L 622]]),(620,.W Qf c),(621,.W QC e),(622,.W Qb f),(623,.var [.L 624]),(624,.W Qb h)] (EW c e f h) (λr=>(.b r.1)) (λr=>[(619,.var [.clo (.func 140) [] [.L 620,.L 621,.L 622]]),(620,.W Qf c),(621,.W QC e),(622,.W Qb f),(623,.var [.L 624]),(624,.W Qb r.2)]):=
 W 11 func207 Z<|B λi g=>UF 6 Z [.N,.N,.B (.any (.I i) none),.N,.m .s] [] [] [1] [619,620,621,622,623,624] Z Z (λj=>(a1_ (λσ k l _=>Qc.callSame (md:=.cm (.clo) [(619,620),(620,621),(621,622)] [(620,619),(621,620),(622,621)] [] [.d,.d,.d] [(619,.W Qf c),(620,.W QC e),(621,.W Qb f)] (.I i) [620,621,622]) QA j k l Z (a2_ (Qhu _ g) r3_)))) Z<|E 11 Z
def Bt:O_ Bool:=j_ (YX b.Places g) λc=>Q c
def Qc3 {a c}:CT 224 [.L 619,.L 620] [(619,.W Qf a),(620,.W Qb c)] (Bt a c) V.b (λ_=>[(619,.W Qf a),(620,.W Qb c)]):=
 W 7 func224 Z<|A 10 KL Z λd=>E 4 Z
def Bu:O_ Bool:=j_ (chk (decide (0<=e0)&&decide (0<=e0.toNat)&&decide (e0.toNat<=i.length))) λ_=>j_ (YH ((i.drop 0).take (e0.toNat-0)) o) λd=>Q (!d)
def Qc4 {f g h}:CT 225 [.L 619,.L 620,.L 621] [(619,.W XA f),(620,.W Qb g),(621,.W Qb h)] (Bu f g h) V.b (λ_=>[(619,.W XA f),(620,.W Qb g),(621,.W Qb h)]):=
 W 10 func225 Z<|kA_ λe=>B λk i=>UF 6 Z [.N,.N,.B (.any (.sl 1 (((f.drop 0).take (g.toNat-0)).map Qb)) none),.N,.B (.C2 (.b k)),.N,.m .s] [] [] [3] [619,620,621] Z Z (λl=>(a2_ (λσ j o _=>Qc.sliceD Z Z (QJ l.n Z) (j _ _ Z) (QA.es Z) DJ.no (DJ.val (j _ _ Z) (Xc (HW e)) Z) (Xc (HX e)) (YC (Xc (Vi e)) (Fb Qw.symm)) Oo) (Fw _ i))) Z<|E 2 Z
def HD:O_ Int:=j_ (Bt b g) λh=>bif (!h)then Q j else j_ (Bu i e0 g) λa=>bif (!a)then Q o else Q 0
def Qff {a b c d e f}:CT 60 [.own 619 2] [(619,.var [.clo (.func 224) [] [.L 620,.L 621],.I c,.clo (.func 225) [] [.L 622,.L 623,.L 621],.I f]),(620,.W Qf a),(621,.W Qb b),(622,.W XA d),(623,.W Qb e)] (HD a b c d e f) V.I (λ_=>[(619,.var [.clo (.func 224) [] [.L 620,.L 621],.I c,.clo (.func 225) [] [.L 622,.L 623,.L 621],.I f]),(620,.W Qf a),(621,.W Qb b),(622,.W XA d),(623,.W Qb e)]):=
 W 18 func60 Z<|lN_ 14 3 Z<|vI_ 13 619 0 Z<|S 9 .clo [(619,620),(620,621)] Qc3 Z λh=>I 3 Z (E 13 Z)<|rd_ 7 Z<|vI_ 13 619 2 Z<|gT_ [1,.kill 4,8] Z<|S 0 .clo [(619,622),(620,623),(621,621)] Qc4 Z λg=>I 3 Z (E 13 Z)<|rd_ 7 Z<|E 18 Z
def CX:O_ Int:=j_ (HD b e 3 i a 5) λc=>Q c
def Qex {d a b c}:CT 223 [.I d,.I a,.L 619,.L 620] [(619,.W Qf b),(620,.W XA c)] (CX d a b c) V.I (λ_=>[(619,.W Qf b),(620,.W XA c)]):=
 W 13 func223 Z<|K [13,.o (.any (.own 11 2) (Q (.var [.clo (.func 224) [] [.L 619,.L 5],.I 3,.clo (.func 225) [] [.L 620,.L 4,.L 5],.I 5])))] Z (λe=>(a1_ (λσ f g O=>Qc.buildAny Z Z (QJ e.n Z) (QA.es Z) Vl Z (by decide) (by decide) (AN f Z) Z Z (O Z))))<|S 0 .fn [(619,11),(620,619),(621,5),(622,620),(623,4)] Qff Z λh=>E 4 Z
def IU:O_ (Int⊕((Int×Int)⊕Unit)):=bif (f2<(i.length:Int))then j_ (idx i f2) λc=>j_ (CX f2 c l0 e2) λb=>bif (b != 0)then Q (i_ (y_ (f2,b)))else Q (y_ (Qm (f2+1)))else Q (i_ (i_ ()))
def IV:O_ (Int×Int):=Q (a,e)
def IW : O_ (Int×Int):=Q (0,0)
def HE:O_ (Int×Int):=j_ (Qt (λst=>IU i l0 e2 st) 0) (Sum.elim (λq=>IV q.1 q.2) (λq=>IW))
def Qfg {c a b}:CT 222 [.M 1 Qb c,.clo (.func 223) [] [.L 619,.L 620]] [(619,.W Qf a),(620,.W XA b)] (HE c a b) (λr=>(.tup [.I r.1,.I r.2])) (λ_=>[(619,.W Qf a),(620,.W XA b)]):=
 W 25 func222 Z<|N 10 Z<|F 4 [1,9,10] [619,620] (λst=>([(11,.I st)],[])) [] [619,620] (λq=>(.ret,([(4,.I q.1),(5,.I q.2)],[]))) [] [619,620] (λq=>(.exit 0,([],[]))) Z (λh=>I 6 Z (J 7 Z λd=>S 10 .clo [(619,619),(620,620)] Qex Z λe=>I 9 Z (L 11 Z)<|R 7 Z)<|X 2 Z) (λ⟨f,g⟩=>E 2 Z) (λ_=>E 9 Z)
def Lx:O_ Int:=j_ (HE i b i) λc=>Q c.2
def Qga {a b}:CT 142 [.G Qf a,.M 1 Qb b] [] (Lx a b) V.I no_:=
 W 14 func142 Z<|S 11 .fn [(619,2),(620,3)] Qfg Z λc=>E 14 Z
def Lz:O_ Int:=j_ (Lx b l.Cancel) λc=>Q c
def Qgb {a b}:CT 141 [.L 619,.L 620] [(619,.W Qf a),(620,.W QC b)] (Lz a b) V.I (λ_=>[(619,.W Qf a),(620,.W QC b)]):=
 W 7 func141 Z<|A 10 Qga Z λc=>E 4 Z
def EX (d:Int):O_ (Bool×Int):=j_ (Lz b l) λa=>Q ((a==0),a)
def Qds {c e g}:CT 207 [.L 619,.L 622] [(619,.var [.clo (.func 141) [] [.L 620,.L 621]]),(620,.W Qf c),(621,.W QC e),(622,.var [.L 623]),(623,.W Qb g)] (EX c e g) (λr=>(.b r.1)) (λr=>[(619,.var [.clo (.func 141) [] [.L 620,.L 621]]),(620,.W Qf c),(621,.W QC e),(622,.var [.L 623]),(623,.W Qb r.2)]):=
 W 11 func207 Z<|B λh f=>UF 6 Z [.N,.N,.B (.any (.I h) none),.N,.m .s] [] [] [1] [619,620,621,622,623] Z Z (λi=>(a1_ (λσ j k _=>Qc.callSame (md:=.cm (.clo) [(619,620),(620,621)] [(620,619),(621,620)] [] [.d,.d] [(619,.W Qf c),(620,.W QC e)] (.I h) [620,621]) QA i j k Z (a2_ (Qgb _ f) r2_)))) Z<|E 11 Z
def Cm (b:(L_ Jf)):O_ Bool:=
 Q ((1<=a)&&((a<=3)&&((a != 3)||((b.length:Int)<=4))))
def Vq {e f}:CT 227 [.I e,.M 4 Kj f] [] (Cm e f) V.b no_:=
 W 20 func227 Z<|T 6 [] [] ([(4,.b ((1<=e)&&((e<=3)&&((e != 3)||((f.length:Int)<=4)))))],[]) Z (H 4 Z (λa=>H 4 Z (λc=>H 3 Z (λd=>Y 7 4 Z (XW a (XW c (YW d Z)))) λd=>N 1 Z<|Y 5 4 Z (XW a (XW c (Xe d Z)))) λc=>Y 10 4 Z (XW a (Yy c Z))) λa=>Y 14 4 Z (Yy a Z))<|E 2 Z
def Pm:O_ Bool:=
 j_ (Cm l.Join l.Ins) λb=>
 bif b then
 j_ (Cm l.Split l.Outs) λc=>
 bif c then
 bif (0<=l.After)then
 bif (l.After<=65536)then
 Q (((l.Many.1==0)&&((l.Many.2.1==0)&&(l.Many.2.2==0)))||((1<=l.Many.1)&&((l.Many.1<=l.Many.2.1)&&((l.Many.2.1<=16)&&((1<=l.Many.2.2)&&(l.Many.2.2<=l.Many.2.1))))))
 else
 Q false
 else
 Q false
 else
 Q false
 else
 Q false
def Pn:O_ Bool:=Q r
def DH:O_ Bool:=j_ (Pm l) (λb=>Pn b)
def QiK {a}:CT 144 [.G QC a] [] (DH a) V.b no_:=
 W 70 func144 Z<|D 7 Z (dz_ [(11,.N)]) [] [] [1,3,4,5] [1] Z Z U Z<|T 2 [1] [1] ([(6,.b (((a.Many.1==0)&&((a.Many.2.1==0)&&(a.Many.2.2==0)))||((1<=a.Many.1)&&((a.Many.1<=a.Many.2.1)&&((a.Many.2.1<=16)&&((1<=a.Many.2.2)&&(a.Many.2.2<=a.Many.2.1)))))))],[]) Z (K [4,.o (.any (.b ((a.Many.1==0)&&((a.Many.2.1==0)&&(a.Many.2.2==0)))) none),1] Z (λj=>(a1_ (λσ h m _=>Qc.eqAgg Z Z (QJ j.n Z) (h _ _ Z) (h _ _ Z) Z Z (QqE _ _ _ _ _ _))))<|H 0 Z (λc=>Y 23 6 Z (YW c Z)) λc=>H 3 Z (λd=>H 5 Z (λe=>H 4 Z (λf=>H 4 Z (λg=>Y 7 6 Z (Xe c (XW d (XW e (XW f (XW g Z)))))) λg=>Y 7 6 Z (Xe c (XW d (XW e (XW f (Yy g Z)))))) λf=>Y 11 6 Z (Xe c (XW d (XW e (Yy f Z))))) λe=>Y 15 6 Z (Xe c (XW d (Yy e Z)))) λd=>Y 20 6 Z (Xe c (Yy d Z)))<|mV_ 7 [] [] (λi=>([(2,.b i)],[])) Z (A 6 Vq Z λk=>I 1 Z (A 5 Vq Z λl=>I 2 Z (I 5 Z (I 5 Z (M 4 Z)<|M 4 Z)<|M 9 Z)<|M 14 Z)<|M 22 Z) λi=>E 2 Z
def Cn:O_ Bool:=j_ (DH l) λb=>Q b
def Qgc {a}:CT 143 [.L 619] [(619,.W QC a)] (Cn a) V.b (λ_=>[(619,.W QC a)]):=
 W 4 func143 Z<|A 8 QiK Z λc=>E 4 Z
def Ek (x:Int)(h:Int)(y:Int)(i:Int)(j:Int)(k:Int)(b:Int)(m:Int)(n:Int):O_ (Int×Int):=j_ (MV l) λo=>bif (!o)then Q (p,h)else j_ (MX l0 s l) λf=>bif (!f)then Q (c3,h)else j_ (FH f2 l) λq=>bif (!q)then Q (x,h)else j_ (Ck l0 l h) λa=>bif (!a.1)then Q (y,a.2)else j_ (MZ l0 s) λr=>bif (!r)then Q (i,a.2)else j_ (Na l f2) λg=>bif (!g)then Q (j,a.2)else j_ (EV l0 l f2 a.2) λd=>bif (!d.1)then Q (k,d.2)else j_ (EW l0 l f2 d.2) λe=>bif (!e.1)then Q (b,e.2)else j_ (EX l0 l e.2) λc=>bif (!c.1)then Q (m,c.2)else j_ (Cn l) λt=>bif (!t)then Q (n,c.2)else Q (0,c.2)
def Qfh {g h i j k l m p o a b c d e f}:CT 60 [.own 619 10] [(619,.var [.clo (.func 128) [] [.L 620],.I h,.clo (.func 129) [] [.L 621,.L 622,.L 623],.I k,.clo (.func 131) [] [.L 624,.L 620],.I m,.clo (.func 207) [] [.L 625,.L 626],.I o,.clo (.func 135) [] [.L 621,.L 622],.I a,.clo (.func 136) [] [.L 620,.L 624],.I b,.clo (.func 207) [] [.L 628,.L 629],.I c,.clo (.func 207) [] [.L 630,.L 631],.I d,.clo (.func 207) [] [.L 632,.L 633],.I e,.clo (.func 143) [] [.L 620],.I f]),(620,.W QC g),(621,.W Qf i),(622,.W Qb j),(623,.var [.clo (.func 127) [] [.L 620]]),(624,.W Qb l),(625,.var [.clo (.func 133) [] [.L 621,.L 620]]),(626,.var [.L 627]),(627,.W Qb p),(628,.var [.clo (.func 138) [] [.L 621,.L 620,.L 624]]),(629,.var [.L 627]),(630,.var [.clo (.func 140) [] [.L 621,.L 620,.L 624]]),(631,.var [.L 627]),(632,.var [.clo (.func 141) [] [.L 621,.L 620]]),(633,.var [.L 627])] (Ek g h i j k l m p o a b c d e f) (λr=>(.I r.1)) (λr=>[(619,.var [.clo (.func 128) [] [.L 620],.I h,.clo (.func 129) [] [.L 621,.L 622,.L 623],.I k,.clo (.func 131) [] [.L 624,.L 620],.I m,.clo (.func 207) [] [.L 625,.L 626],.I o,.clo (.func 135) [] [.L 621,.L 622],.I a,.clo (.func 136) [] [.L 620,.L 624],.I b,.clo (.func 207) [] [.L 628,.L 629],.I c,.clo (.func 207) [] [.L 630,.L 631],.I d,.clo (.func 207) [] [.L 632,.L 633],.I e,.clo (.func 143) [] [.L 620],.I f]),(620,.W QC g),(621,.W Qf i),(622,.W Qb j),(623,.var [.clo (.func 127) [] [.L 620]]),(624,.W Qb l),(625,.var [.clo (.func 133) [] [.L 621,.L 620]]),(626,.var [.L 627]),(627,.W Qb r.2),(628,.var [.clo (.func 138) [] [.L 621,.L 620,.L 624]]),(629,.var [.L 627]),(630,.var [.clo (.func 140) [] [.L 621,.L 620,.L 624]]),(631,.var [.L 627]),(632,.var [.clo (.func 141) [] [.L 621,.L 620]]),(633,.var [.L 627])]):=
 W 18 func60 Z<|lN_ 14 11 Z<|vI_ 13 619 0 Z<|S 9 .clo [(619,620)] Qhl Z λq=>I 3 Z (E 13 Z)<|rd_ 7 Z<|vI_ 13 619 2 Z<|gT_ [1,.kill 4,8] Z<|S 0 .clo [(619,621),(620,622),(621,623),(622,620)] Qhn Z λs=>I 3 Z (E 13 Z)<|rd_ 7 Z<|vI_ 13 619 4 Z<|gT_ [1,.kill 4,8] Z<|S 0 .clo [(619,624),(620,620)] Qho Z λt=>I 3 Z (E 13 Z)<|rd_ 7 Z<|vI_ 13 619 6 Z<|gT_ [1,.kill 4,8] Z<|S 0 .clo [(619,625),(620,621),(621,620),(622,626),(623,627)] Qf9 Z λu=>I 3 Z (E 13 Z)<|rd_ 7 Z<|vI_ 13 619 8 Z<|gT_ [1,.kill 4,8] Z<|S 0 .clo [(619,621),(620,622)] Qhq Z λv=>I 3 Z (E 13 Z)<|rd_ 7 Z<|vI_ 13 619 10 Z<|gT_ [1,.kill 4,8] Z<|S 0 .clo [(619,620),(620,624)] Qhr Z λw=>I 3 Z (E 13 Z)<|rd_ 7 Z<|vI_ 13 619 12 Z<|gT_ [1,.kill 4,8] Z<|S 0 .clo [(619,628),(620,621),(621,620),(622,624),(623,629),(624,627)] Qdq Z λx=>I 3 Z (E 13 Z)<|rd_ 7 Z<|vI_ 13 619 14 Z<|gT_ [1,.kill 4,8] Z<|S 0 .clo [(619,630),(620,621),(621,620),(622,624),(623,631),(624,627)] Qdr Z λy=>I 3 Z (E 13 Z)<|rd_ 7 Z<|vI_ 13 619 16 Z<|gT_ [1,.kill 4,8] Z<|S 0 .clo [(619,632),(620,621),(621,620),(622,633),(623,627)] Qds Z λz=>I 3 Z (E 13 Z)<|rd_ 7 Z<|vI_ 13 619 18 Z<|gT_ [1,.kill 4,8] Z<|S 0 .clo [(619,620)] Qgc Z λC=>I 3 Z (E 13 Z)<|rd_ 7 Z<|E 18 Z
def KP:O_ Int:=j_ (Dz b.Tasks g) λa=>bif (!a)then Q 3 else j_ (Cj b) λf=>bif (f.2 != 0)then Q f.2 else j_ (idx b.Tasks g) λd=>j_ (idx b.Tasks g) λe=>j_ (OB 0 b d) λh=>j_ (Hv 0 b d (e.Vars.length:Int)) λi=>j_ (Hw 0 b d (e.Vars.length:Int)) λj=>j_ (Hx 0 b d) λk=>j_ (Ek d 1 b g 5 (e.Vars.length:Int) 2 0 (-1) 2 1 (-1) (-1) (-1) 11) λc=>bif (c.1==(-1))then Q c.2 else Q c.1
def QkG {e f}:CT 71 [.G Qf e,.I f] [] (KP e f) V.I no_:=
 W 68 func71 Z<|A 13 Lw Z λr=>I 3 Z (E 7 Z)<|A 6 Vp Z λt=>I 13 Z (E 8 Z)<|B λg d=>B λb c=>D 3 Z [.N,.N,.N,.B (.row (QC g)),.N,.a .no none true,.a .no none true,.a .no none true,.a (.row (QC b)) none true,.a .no none true,.a .no none true,.a (.ln b.Vars.length) none true,.N,.N,.m .s,.m .s] [2,3] [2,3] [2,3,7,8] [2,3,7,8] Z Z (a3_ (Xw d) (Xw c) Qw) Z<|zA_ 22 .fn [(619,10),(620,2),(621,7)] [(45,2),(611,3),(10,619),(2,620),(7,621)] [] QiJ Z λh=>zA_ 6 .fn [(619,10),(620,2),(621,7),(622,8)] [(52,2),(612,3),(10,619),(2,620),(7,621),(8,622)] [] Qe8 Z λi=>zA_ 2 .fn [(619,10),(620,2),(621,7),(622,8)] [(55,2),(613,3),(10,619),(2,620),(7,621),(8,622)] [] Qe9 Z λj=>zA_ 2 .fn [(619,10),(620,2),(621,7)] [(58,2),(614,3),(10,619),(2,620),(7,621)] [] Qfa Z λk=>K [3,.o (.any (.own 62 10) (Q (.var [.clo (.func 128) [] [.L 7],.I 1,.clo (.func 129) [] [.L 2,.L 3,.L 9],.I 5,.clo (.func 131) [] [.L 8,.L 7],.I 2,.clo (.func 207) [] [.L 611,.L 45],.I (-1),.clo (.func 135) [] [.L 2,.L 3],.I 2,.clo (.func 136) [] [.L 7,.L 8],.I 1,.clo (.func 207) [] [.L 612,.L 52],.I (-1),.clo (.func 207) [] [.L 613,.L 55],.I (-1),.clo (.func 207) [] [.L 614,.L 58],.I (-1),.clo (.func 143) [] [.L 7],.I 11])))] Z (λl=>(a1_ (λσ p u O=>Qc.buildAny Z Z (QJ l.n Z) (QA.es Z) Vl Z (by decide) (by decide) (AN p Z) Z Z (O Z))))<|S 0 .fn [(619,62),(620,7),(621,2),(622,3),(623,9),(624,8),(625,611),(626,45),(627,10),(628,612),(629,52),(630,613),(631,55),(632,614),(633,58)] Qfh Z λq=>I 10 Z (E 8 Z)<|E 9 Z
def Io (d:QW)(b:Qh):O_ Int:=j_ (KP b a) λc=>Q c
def QiL {b c a}:CT 70 [.I b,.G QC c,.L 619] [(619,.W Qf a)] (Io b c a) V.I (λ_=>[(619,.W Qf a)]):=
 W 9 func70 Z<|A 10 QkG Z λd=>E 4 Z
def Wz (d:(L_ QW))(e:Qh)(a:Int):O_ (Int⊕((Int×Int)⊕Unit)):=bif (a<(d.length:Int))then j_ (idx d a) λc=>j_ (Io a c e) λb=>bif (b != 0)then Q (i_ (y_ (a,b)))else Q (y_ (Qm (a+1)))else Q (i_ (i_ ()))
def AW:O_ (Int×Int):=Q (a,e)
def AX : O_ (Int×Int):=Q (0,0)
def Wo (a:(L_ QW))(b:Qh):O_ (Int×Int):=j_ (Qt (λst=>Wz a b st) 0) (Sum.elim (λq=>AW q.1 q.2) (λq=>AX))
def QaU {b a}:CT 69 [.M 14 QC b,.clo (.func 70) [] [.L 619]] [(619,.W Qf a)] (Wo b a) (λr=>(.tup [.I r.1,.I r.2])) (λ_=>[(619,.W Qf a)]):=
 W 25 func69 Z<|N 10 Z<|F 4 [1,9,10] [619] (λst=>([(11,.I st)],[])) [] [619] (λq=>(.ret,([(4,.I q.1),(5,.I q.2)],[]))) [] [619] (λq=>(.exit 0,([],[]))) Z (λf=>I 6 Z (J 7 Z λc=>S 11 .clo [(619,619)] QiL Z λd=>I 9 Z (L 11 Z)<|R 7 Z)<|X 2 Z) (λ⟨g,e⟩=>E 2 Z) (λ_=>E 9 Z)
def Aw:O_ (Int×TT):=j_ (Oy b 2 3 1) λe=>bif (e != 0)then Q (e,(TT.mk 1 0))else j_ (Cj b) λd=>bif (d.2 != 0)then Q (d.2,(TT.mk 2 d.1))else j_ (EE b.Places b) λa=>bif (a.2 != 0)then Q (a.2,(TT.mk 3 a.1))else j_ (Wo b.Tasks b) λc=>bif (c.2 != 0)then Q (c.2,(TT.mk 4 c.1))else Q (0,(TT.mk 0 0))
def Qms {a}:CT 35 [.G Qf a] [] (Aw a) (λr=>(.tup [.G QrF r.2,.I r.1])) no_:=
 W 58 func35 Z<|K [15,.o (.any (.own 17 3) (Q (.var [.clo (.func 61) [] [.L 1],.I 2,.clo (.func 62) [] [.L 1],.I 3,.clo (.func 64) [] [.L 1],.I 1])))] Z (λb=>(a1_ (λσ c f O=>Qc.buildAny Z Z (QJ b.n Z) (QA.es Z) Vl Z (by decide) (by decide) (AN c Z) Z Z (O Z))))<|S 0 .fn [(619,17),(620,1)] QiF Z λg=>I 10 Z (E 10 Z)<|A 6 Vp Z λh=>I 13 Z (E 11 Z)<|S 8 .fn [(619,1)] ZH Z λd=>I 13 Z (E 11 Z)<|S 8 .fn [(619,1)] QaU Z λe=>I 13 Z (E 11 Z)<|E 10 Z
def RO (a:(Int×TT))(c:Qh)(d:QMk):O_ Bool:=bif (a.1 != 0)then Q true else j_ (AQ c d) λb=>Q (!b)
def RP:O_ ((Int×Int)⊕Int):=bif (j<(b.Tasks.length:Int))then j_ (idx b.Tasks j) λc=>j_ (Im b j) λe=>Q (y_ ((Qm (g+(Qm (e*(Qm (1+(Qm ((c.Ins.length:Int)*(c.Outs.length:Int))))))))),(Qm (j+1))))else Q (i_ g)
def RQ:O_ Bool:=bif d0 then Q false else j_ (Qt (λst=>RP b st.1 st.2) (0,0)) (λq=>Q (decide (q<=600)))
def FI:O_ Bool:=
 j_ (TW b) λe=>
 j_ (TX h) λf=>
 bif ((!e)||((!f)||(12<(b.Tasks.length:Int))))then
 Q false
 else
 j_ (Aw b) λa=>
 j_ (RO a b h) (λc=>RQ b c)
def QkI {l o}:CT 19 [.G Qf l,.M 1 Ql o] [] (FI l o) V.b no_:=
 W 69 func19 Z<|A 9 Qmp Z λp=>A 6 Qmr Z λr=>T 5 [1,2] [2] ([(27,.b ((!p)||((!r)||(12<(l.Tasks.length:Int)))))],[]) Z (H 4 Z (λe=>Y 10 27 Z (YW e Z)) λe=>H 4 Z (λf=>Y 6 27 Z (Xe e (YW f Z))) λf=>N 2 Z<|Y 3 27 Z (Xe e (Xe f Z)))<|I 1 Z (E 7 Z)<|A 5 Qms Z λt=>mV_ 10 [2] [2] (λg=>([(40,.b g)],[])) Z (I 4 Z (M 6 Z)<|A 2 QbO Z λu=>M 3 Z) λg=>I 1 Z (E 7 Z)<|lA_ 14 [2] [2] (λst=>([(9,.I st.1),(10,.I st.2)],[])) [] [] (λq=>(.exit 0,([(9,.I q)],[]))) Z (λ⟨j,v⟩=>N 6 Z<|I 3 Z (J 9 Z λh=>B λn i=>D 5 Z (dz_ [(3,.B (.C2 (.I n))),(2,.B (.ln h.Ins.length)),(2,.B (.ln h.Outs.length)),(4,.m .s)]) [] [] [2,9,10] [2] Z Z (a3_ (QaT _ i) Qw Qw) Z<|R 7 Z)<|X 2 Z) λk=>E 10 Z
def LA:O_ ((Int×Int)⊕Int):=bif (e0<(h.length:Int))then j_ (idx h e0) λe=>j_ (IB e) λb=>Q (y_ ((Qm (j+b)),(Qm (e0+1))))else Q (i_ j)
def RS:O_ Int:=j_ (Qt (λst=>LA h st.1 st.2) (0,0)) (λq=>Q q)
def QkK {a}:CT 20 [.M 1 Ql a] [] (RS a) V.I no_:=
 W 18 func20 Z<|N 14 Z<|lA_ 4 [6,7] [] (λst=>([(3,.I st.1),(8,.I st.2)],[])) [] [] (λq=>(.exit 0,([(3,.I q)],[]))) Z (λ⟨c,d⟩=>I 6 Z (J 6 Z λe=>A 7 Tb Z λb=>R 9 Z)<|X 2 Z) λf=>E 9 Z
def RT:O_ (Int⊕(Unit⊕Unit)):=bif (g<(b.Tasks.length:Int))then j_ (idx b.Tasks g) λa=>bif (a.Join==3)then Q (i_ (y_ ()))else Q (y_ (Qm (g+1)))else Q (i_ (i_ ()))
def RU:O_ Bool:=j_ (RS f.M) λa=>Q (decide (a<=1048576))
def RV:O_ Bool:=
 j_ (QcY f.Items) λe=>
 bif ((!e)||((6<(f.Items.length:Int))||(12<(f.M.length:Int))))then
 Q false
 else
 j_ (AP b) λc=>
 j_ (FI b c) λd=>
 bif ((!d)||(6<(b.Tasks.length:Int)))then
 Q false
 else
 j_ (Qt (λst=>RT b st) 0) (Sum.elim (λq=>Q false) (λq=>RU f))
def QkM {m l}:CT 6 [.G Qf m,.G Xv l] [] (RV m l) V.b no_:=
 W 55 func6 Z<|A 11 Qmh Z λn=>T 5 [2,3] [2,3] ([(24,.b ((!n)||((6<(l.Items.length:Int))||(12<(l.M.length:Int)))))],[]) Z (H 4 Z (λf=>Y 12 24 Z (YW f Z)) λf=>N 2 Z<|H 3 Z (λg=>Y 6 24 Z (Xe f (YW g Z))) λg=>N 2 Z<|Y 3 24 Z (Xe f (Xe g Z)))<|I 1 Z (E 7 Z)<|B λh i=>B λj k=>D 3 Z [.N,.N,.B (.cd false [.d] 1 (h.map Ql) h.length),.B (.C2 (.b j)),.N] [] [] [2,3,6] [2,3] Z Z (a2_ ⟨(QbM _ i),Qw⟩ (QkI _ k)) Z<|T 3 [2,3] [2,3] ([(36,.b ((!j)||(6<(m.Tasks.length:Int))))],[]) Z (H 4 Z (λe=>Y 6 36 Z (YW e Z)) λe=>N 2 Z<|Y 3 36 Z (Xe e Z))<|I 1 Z (E 7 Z)<|F 9 [2,3] [2,3] (λst=>([(7,.I st)],[])) [] [] (λq=>(.ret,([(4,.b false)],[]))) [3] [3] (λq=>(.exit 0,([],[]))) Z (λo=>N 6 Z<|I 3 Z (J 9 Z λp=>I 5 Z (L 8 Z)<|R 8 Z)<|X 2 Z) (λ_=>E 2 Z) (λ_=>A 6 QkK Z λr=>E 5 Z)
def QaV (a:(L_ Xh))(b:Int):O_ Bool:=j_ (idx a b) λc=>bif (20<(c.Mode.Vars.length:Int))then Q true else j_ (idx a b) λd=>bif (20<(d.Mode.Ins.length:Int))then Q true else j_ (idx a b) λe=>Q (decide (20<(e.Mode.Outs.length:Int)))
def QaW:O_ (Int⊕(Unit⊕Unit)):=bif r then Q (i_ (y_ ()))else Q (y_ (Qm (a+1)))
def Po (b:(L_ Xh))(a:Int):O_ (Int⊕(Unit⊕Unit)):=bif (a<(b.length:Int))then j_ (QaV b a) (λc=>QaW a c)else Q (i_ (i_ ()))
def OC (a:(L_ Xh)):O_ Bool:=bif (24<(a.length:Int))then Q false else j_ (Qt (λst=>Po a st) 0) (Sum.elim (λq=>Q false) (λq=>Q true))
def QiO {a}:CT 7 [.M 7 YF a] [] (OC a) V.b no_:=
 W 41 func7 Z<|N 9 Z<|I 3 Z (E 7 Z)<|F 9 [0] [] (λst=>([(3,.I st)],[])) [] [] (λq=>(.ret,([(2,.b false)],[]))) [] [] (λq=>(.exit 0,([],[]))) Z (λg=>N 5 Z<|I 3 Z (mV_ 5 [0,3] [] (λc=>([(40,.b c)],[])) Z (J 3 Z λd=>N 3 Z<|I 2 Z (M 20 Z)<|J 2 Z λe=>N 3 Z<|I 3 Z (M 10 Z)<|J 2 Z λf=>N 3 Z<|M 3 Z) λc=>I 1 Z (L 8 Z)<|R 8 Z)<|X 2 Z) (λ_=>E 2 Z) (λ_=>E 8 Z)
def Bv:O_ ((Int×QMk)⊕QMk):=bif (o<(f.M.length:Int))then j_ (idx f.M o) λa=>j_ (chk (([]:QBg).length+a.length<=4294967296)) λ_=>j_ (chk (c1.length+([(([]:QBg)++a)]:L_ QBg).length<=4294967296)) λ_=>Q (y_ ((Qm (o+1)),(c1++([(([]:QBg)++a)]:L_ QBg))))else Q (i_ c1)
def Bw (c:(L_ Qg)):O_ ((Int×(L_ Qg))⊕(L_ Qg)):=bif (o<(f.Items.length:Int))then j_ (idx f.Items o) λa=>j_ (chk (([]:L_ Int).length+a.Mode.Vars.length<=4294967296)) λ_=>j_ (chk (([]:L_ Int).length+a.Mode.Ins.length<=4294967296)) λ_=>j_ (chk (([]:L_ Int).length+a.Mode.Outs.length<=4294967296)) λ_=>j_ (chk (c.length+([(Qg.mk a.Id (Qo.mk a.Mode.Task (([]:L_ Int)++a.Mode.Vars) (([]:L_ Int)++a.Mode.Ins) (([]:L_ Int)++a.Mode.Outs)) a.Batch a.Until)]:L_ Qg).length<=4294967296)) λ_=>Q (y_ ((Qm (o+1)),(c++([(Qg.mk a.Id (Qo.mk a.Mode.Task (([]:L_ Int)++a.Mode.Vars) (([]:L_ Int)++a.Mode.Ins) (([]:L_ Int)++a.Mode.Outs)) a.Batch a.Until)]:L_ Qg))))else Q (i_ c)
def SC:O_ Qz:=j_ (Qt (λst=>Bw f st.1 st.2) (0,([]:L_ Qg))) (λq=>Q (Qz.mk c1 q f.Next f.Now))
def HF:O_ Qz:=j_ (Qt (λst=>Bv f st.1 st.2) (0,([]:L_ QBg))) (λq=>SC f q)
def Qfj {j}:CT 44 [.G Xv j] [] (HF j) (λr=>(.G Xv r)) no_:=
 W 68 func44 Z<|aD_ 18 3 15 1 Z<|lA_ 0 [1,2] [1,2] (λst=>([(3,.P 15 st.2),(4,.I st.1)],[(15,.R 1 Ql st.2)])) [1,2] [1,2] (λq=>(.exit 0,([(3,.P 15 q)],[(15,.R 1 Ql q)]))) Z (λ⟨t,u⟩=>N 6 Z<|I 3 Z (J 10 Z λk=>pB_ 1 Qy Z<|zF_ 0 16 [22] [] Z<|pA_ 0 1 Ql Z<|R 9 Z)<|X 2 Z) λl=>aD_ 14 5 57 11 Z<|lA_ 0 [1,2,3] [1,2,15] (λst=>([(5,.P 57 st.2),(6,.I st.1)],[(57,.R 11 Qp st.2)])) [1,2,3] [1,2,15] (λq=>(.exit 2,([(5,.P 57 q)],[(57,.R 11 Qp q)]))) Z (λ⟨o,p⟩=>N 6 Z<|I 3 Z (J 9 Z λc=>kA_ λe=>kA_ λf=>kA_ λg=>UF 6 Z (dz_ [(3,.B (.any .e0 none)),(3,.B (.any (.M 1 Qb c.Mode.Vars) none)),(0,.B (.any .e0 none)),(3,.B (.any (.M 1 Qb c.Mode.Ins) none)),(0,.B (.any .e0 none)),(3,.B (.any (.M 1 Qb c.Mode.Outs) none)),(2,.m .s)]) [] [] [1,2,3,5,6,7] [1,2,7,15,57] Z Z (λd=>(a6_ (λσ b h _=>Qc.bld0 Z Z (QJ d.n Z) (QA.es Z) (QA.zv Z)) (λσ b h _=>Qc.appE0 Z Z (QJ d.n Z) (b _ _ Z) (QA.es Z) (QA.es Z) (QA.zv Z) Z (by decide) (by decide) (by decide) (by rw[EA];simpa using e) (b _ _ Z)) (λσ b h _=>Qc.bld0 Z Z (QJ d.n Z) (QA.es Z) (QA.zv Z)) (λσ b h _=>Qc.appE0 Z Z (QJ d.n Z) (b _ _ Z) (QA.es Z) (QA.es Z) (QA.zv Z) Z (by decide) (by decide) (by decide) (by rw[EA];simpa using f) (b _ _ Z)) (λσ b h _=>Qc.bld0 Z Z (QJ d.n Z) (QA.es Z) (QA.zv Z)) (λσ b h _=>Qc.appE0 Z Z (QJ d.n Z) (b _ _ Z) (QA.es Z) (QA.es Z) (QA.zv Z) Z (by decide) (by decide) (by decide) (by rw[EA];simpa using g) (b _ _ Z)))) Z<|pA_ 4 11 Qp Z<|R 9 Z)<|X 2 Z) λi=>g2_ [15,.frz 15 (l.map Ql) [] [2],.frz 57 (i.map Qp) [] [2]] Z (a1_ ⟨(Wb Qw),(a1_ U)⟩) (a1_ ⟨(Wb Qw),U⟩)<|E 0 Z
def QaX:O_ Bool:=j_ (idx d c) λg=>bif (g.1<0)then Q true else j_ (idx d c) λa=>bif (a.2<1)then Q true else j_ (idx d c) λb=>bif (1048576<b.2)then Q true else bif (0<c)then j_ (idx d c) λe=>j_ (idx d (Qm (c-1))) λf=>Q (decide (e.1<=f.1))else Q false
def QaY:O_ (Int⊕(Unit⊕Unit)):=bif r then Q (i_ (y_ ()))else Q (y_ (Qm (a+1)))
def DR:O_ (Int⊕(Unit⊕Unit)):=bif (c<(d.length:Int))then j_ (QaX d c) (λa=>QaY c a)else Q (i_ (i_ ()))
def KQ:O_ Bool:=j_ (Qt (λst=>DR d st) 0) (Sum.elim (λq=>Q false) (λq=>Q true))
def WA {r}:CT 162 [.M 2 Qy r] [] (KQ r) V.b no_:=
 W 50 func162 Z<|F 12 [0] [] (λst=>([(3,.I st)],[])) [] [] (λq=>(.ret,([(2,.b false)],[]))) [] [] (λq=>(.exit 0,([],[]))) Z (λt=>N 5 Z<|I 3 Z (mV_ 5 [0,3] [] (λs=>([(49,.b s)],[])) Z (B λl g=>jF_ (λc=>D 0 Z (dz_ [(2,.B (.row (Qy l))),(3,.E (.b true)),(32,.N)]) [] [] [0,3,49] [] Z Z (a2_ (Xw g) (cb_ c)) Z<|M 0 Z) λc=>B λj e=>jF_ (λd=>D 0 Z (dz_ [(2,.B (.row (Qy l))),(3,.E (.b false)),(2,.B (.row (Qy j))),(4,.E (.b true)),(24,.N)]) [] [] [0,3,49] [] Z Z (a4_ (Xw g) (cb_ c) (Xw e) (cb_ d)) Z<|M 0 Z) λd=>B λk h=>jF_ (λf=>D 0 Z (dz_ [(2,.B (.row (Qy l))),(3,.E (.b false)),(2,.B (.row (Qy j))),(4,.E (.b false)),(2,.B (.row (Qy k))),(4,.E (.b true)),(16,.N)]) [] [] [0,3,49] [] Z Z (a6_ (Xw g) (cb_ c) (Xw e) (cb_ d) (Xw h) (cb_ f)) Z<|M 0 Z) λf=>jF_ (λi=>B λo m=>B λp n=>D 0 Z (dz_ [(2,.B (.row (Qy l))),(3,.E (.b false)),(2,.B (.row (Qy j))),(4,.E (.b false)),(2,.B (.row (Qy k))),(4,.E (.b false)),(2,.E (.b true)),(2,.B (.row (Qy o))),(5,.B (.row (Qy p))),(4,.N)]) [] [] [0,3,49] [] Z Z (a9_ (Xw g) (cb_ c) (Xw e) (cb_ d) (Xw h) (cb_ f) (cb_ i) (Xw m) (Xw n)) Z<|M 0 Z) λi=>D 0 Z (dz_ [(2,.B (.row (Qy l))),(3,.E (.b false)),(2,.B (.row (Qy j))),(4,.E (.b false)),(2,.B (.row (Qy k))),(4,.E (.b false)),(2,.E (.b false)),(13,.N)]) [] [] [0,3,49] [] Z Z (a7_ (Xw g) (cb_ c) (Xw e) (cb_ d) (Xw h) (cb_ f) (cb_ i)) Z<|M 0 Z) λs=>I 1 Z (L 8 Z)<|R 8 Z)<|X 2 Z) (λ_=>E 2 Z) (λ_=>E 8 Z)
def Nf:O_ Bool:=
 Q (bif (97<=a)then((a<=122)||((65<=a)&&(a<=90)))else((65<=a)&&(a<=90)))
def Ze {d}:CT 326 [.i .u8 d] [] (Nf d) V.b no_:=
 W 17 func326 Z<|T 6 [] [] ([(2,.b (bif (97<=d)then((d<=122)||((65<=d)&&(d<=90)))else((65<=d)&&(d<=90))))],[]) Z (H 4 Z (λa=>H 4 Z (λc=>Y 9 2 Z (OP a (YW c Z))) λc=>H 3 Z (λe=>Y 6 2 Z (OP a (Xe c (XW e Z)))) λe=>Y 6 2 Z (OP a (Xe c (Yy e Z)))) λa=>H 7 Z (λf=>Y 6 2 Z (QcE a (XW f Z))) λf=>Y 6 2 Z (QcE a (Yy f Z)))<|E 2 Z
def VM:O_ Bool:=Q ((48<=a)&&(a<=57))
def QiR {c}:CT 327 [.i .u8 c] [] (VM c) V.b no_:=
 W 9 func327 Z<|T 6 [] [] ([(2,.b ((48<=c)&&(c<=57)))],[]) Z (H 4 Z (λa=>Y 5 2 Z (XW a Z)) λa=>Y 5 2 Z (Yy a Z))<|E 2 Z
def RW:O_ Bool:=bif ((m0.size:Int)<1)then Q true else bif (32<(m0.size:Int))then Q true else j_ (sidx m0 0) λb=>j_ (Nf b) λc=>Q (!c)
def Qb4:O_ Bool:=j_ (sidx m0 j) λc=>j_ (Nf c) λd=>bif (!d)then j_ (sidx m0 j) λe=>j_ (VM e) λf=>bif (!f)then j_ (sidx m0 j) λg=>Q (g != 95)else Q false else Q false
def Qb5:O_ (Int⊕(Unit⊕Unit)):=bif r then Q (i_ (y_ ()))else Q (y_ (Qm (a+1)))
def LB:O_ (Int⊕(Unit⊕Unit)):=bif (j<(m0.size:Int))then j_ (Qb4 m0 j) (λb=>Qb5 j b)else Q (i_ (i_ ()))
def Qb6:O_ Bool:=bif d0 then Q false else j_ (Qt (λst=>LB m0 st) 0) (Sum.elim (λq=>Q false) (λq=>Q true))
def Mk:O_ Bool:=j_ (RW m0) (λb=>Qb6 m0 b)
def Qb7 {j}:CT 294 [.s j] [] (Mk j) V.b no_:=
 W 42 func294 Z<|mV_ 7 [0] [] (λk=>([(17,.b k)],[])) Z (I 5 Z (M 11 Z)<|I 5 Z (M 6 Z)<|B λl f=>G [1,.o (.num l)] Z f<|A 0 Ze Z λt=>M 3 Z) λk=>I 1 Z (E 7 Z)<|F 9 [0] [] (λst=>([(3,.I st)],[])) [] [] (λq=>(.ret,([(2,.b false)],[]))) [] [] (λq=>(.exit 0,([],[]))) Z (λm=>I 9 Z (mV_ 5 [0,3] [] (λa=>([(41,.b a)],[])) Z (B λg c=>G [3,.o (.num g)] Z c<|A 0 Ze Z λp=>I 2 Z (B λh d=>G [2,.o (.num h)] Z d<|A 0 QiR Z λr=>I 3 Z (B λi e=>G [2,.o (.num i),3] Z e<|M 0 Z)<|M 6 Z)<|M 13 Z) λa=>I 1 Z (L 8 Z)<|R 8 Z)<|X 2 Z) (λ_=>E 2 Z) (λ_=>E 8 Z)
def QaZ:O_ Bool:=bif r then j_ (idx f1 o) λc=>j_ (idx f1 j2) λd=>Q (!Kq c d)else Q false
def Qa0:O_ ((Bool×Int)⊕Bool):=Q (y_ (r,(Qm (a+1))))
def El:O_ ((Bool×Int)⊕Bool):=bif (s<a)then j_ (QaZ d0 f1 s a) (λc=>Qa0 s c)else Q (i_ d0)
def Qa1:O_ (Int⊕(Unit⊕Unit)):=bif (!r)then Q (i_ (y_ ()))else Q (y_ (Qm (a+1)))
def AY:O_ (Int⊕(Unit⊕Unit)):=bif (o<(f1.length:Int))then j_ (idx f1 o) λc=>j_ (Mk c) λd=>j_ (Qt (λst=>El o f1 st.1 st.2) (d,0)) (λq=>Qa1 o q)else Q (i_ (i_ ()))
def OD:O_ Bool:=j_ (Qt (λst=>AY f1 st) 0) (Sum.elim (λq=>Q false) (λq=>Q true))
def QiU {i}:CT 295 [.M 1 Hm i] [] (OD i) V.b no_:=
 W 36 func295 Z<|F 12 [0] [] (λst=>([(3,.I st)],[])) [] [] (λq=>(.ret,([(2,.b false)],[]))) [] [] (λq=>(.exit 0,([],[]))) Z (λn=>N 5 Z<|I 3 Z (J 8 Z λo=>A 1 Qb7 Z λp=>lA_ 10 [0,3] [] (λst=>([(4,.b st.1),(5,.I st.2)],[])) [0,3] [] (λq=>(.exit 2,([(4,.b q)],[]))) Z (λ⟨k,l⟩=>I 8 Z (mV_ 4 [0,3,5] [] (λd=>([(4,.b d)],[])) Z (jF_ (λc=>B λg e=>B λh f=>D 0 Z (dz_ [(1,.E (.b true)),(2,.B (.row (Hm g))),(3,.B (.row (Hm h))),(3,.m .s)]) [] [] [0,3,4,5] [] Z Z ⟨⟨(tc_ c),(Xw e)⟩,(Xw f)⟩ Z<|M 0 Z) λc=>D 0 Z (dz_ [(1,.E (.b false)),(10,.m .s)]) [] [] [0,3,4,5] [] Z Z (tc_ c) Z<|M 0 Z) λd=>R 7 Z)<|X 2 Z) λj=>I 8 Z (L 8 Z)<|R 8 Z)<|X 2 Z) (λ_=>E 2 Z) (λ_=>E 8 Z)
def Qa2 (c:QR):O_ Bool:=bif r then j_ (idx h0 o) λd=>Q (!Kq d.Name c.Name)else Q false
def Qa3:O_ ((Bool×Int)⊕Bool):=Q (y_ (r,(Qm (a+1))))
def Em (d:QR)(e:Bool)(b:Int):O_ ((Bool×Int)⊕Bool):=bif (b<a)then j_ (Qa2 e h0 b d) (λc=>Qa3 b c)else Q (i_ e)
def JS:O_ ((Int×LI_)⊕(Unit⊕LI_)):=
 bif ((!r)||((o<1)||(1024<o)))then
 Q (i_ (y_ ()))
 else
 j_ (chk (i.length+([o]:L_ Int).length<=4294967296)) λ_=>
 Q (y_ ((Qm (e0+1)),(i++([o]:L_ Int))))
def Pp (a:QR)(c:LI_)(d:Int)(b:Bool):O_ ((Int×LI_)⊕(Unit⊕LI_)):=
 bif (a.Kind==1)then
 bif ((a.Lo<=a.Hi)&&((0<=a.Lo)||(a.Hi<(Qm (a.Lo+1024)))))then
 JS b c d (Qm ((min2 (Qm (a.Hi-a.Lo)) 1024)+1))
 else
 JS b c d 0
 else
 bif (a.Kind==2)then
 j_ (OD a.Names) λe=>
 bif e then
 JS b c d (a.Names.length:Int)
 else
 JS b c d 0
 else
 bif (a.Kind==3)then
 bif ((0<=a.First)&&((a.First<d)&&((0<=a.Then)&&(a.Then<d))))then
 j_ (idx c a.First) λf=>
 j_ (idx c a.Then) λg=>
 JS b c d (Qm (f*g))
 else
 JS b c d 0
 else
 JS b c d 0
def AZ:O_ ((Int×LI_)⊕(Unit⊕LI_)):=bif (o<(h0.length:Int))then j_ (idx h0 o) λa=>j_ (Mk a.Name) λd=>j_ (Qt (λst=>Em o h0 a st.1 st.2) (d,0)) (λq=>Pp a g1 o q)else Q (i_ (i_ g1))
def OE:O_ LI_:=bif (32<(h0.length:Int))then Q ([]:L_ Int)else j_ (Qt (λst=>AZ h0 st.1 st.2) (0,([]:L_ Int))) (Sum.elim (λq=>Q ([]:L_ Int)) (λq=>Q q))
def QiX {C}:CT 246 [.M 7 XI C] [] (OE C) (λr=>(.P 600 r)) (λr=>[(600,.R 1 Qb r)]):=
 W 128 func246 Z<|N 9 Z<|I 3 Z (aD_ 7 2 600 1 Z<|E 0 Z)<|aD_ 14 3 123 1 Z<|F 0 [0] [] (λst=>([(3,.P 123 st.2),(4,.I st.1)],[(123,.R 1 Qb st.2)])) [] [] (λq=>(.ret,([(2,.Y)],[]))) [] [] (λq=>(.exit 0,([(3,.P 123 q)],[(123,.R 1 Qb q)]))) Z (λ⟨w,l7⟩=>N 5 Z<|I 3 Z (J 8 Z λc=>A 9 Qb7 Z λa0=>lA_ 10 [0,3,4,5] [5,123] (λst=>([(6,.b st.1),(7,.I st.2)],[])) [0,3,4,5] [5,123] (λq=>(.exit 2,([(6,.b q)],[]))) Z (λ⟨O,a1⟩=>I 8 Z (mV_ 4 [0,3,4,5,7] [5,123] (λo=>([(6,.b o)],[])) Z (jF_ (λi=>B λx v=>D 0 Z (dz_ [(1,.E (.b true)),(2,.B (.row (XI x))),(6,.m .s)]) [] [] [0,3,4,5,6,7] [5,123] Z Z ⟨(tc_ i),(Xw v)⟩ Z<|M 0 Z) λi=>D 0 Z (dz_ [(1,.E (.b false)),(9,.m .s)]) [] [] [0,3,4,5,6,7] [5,123] Z Z (tc_ i) Z<|M 0 Z) λo=>R 7 Z)<|X 2 Z) λp=>mE_ 7 [0,3,4,6] [123] (λh:Int=>([(8,.I h)],[])) (λh=>JS p l7 w h) Z (I 13 Z (T 1 [0,3,4,5,6,8] [5,123] ([(63,.b ((c.Lo<=c.Hi)&&((0<=c.Lo)||(c.Hi<(Qm (c.Lo+1024))))))],[]) Z (H 7 Z (λe=>H 4 Z (λj=>Y 9 63 Z (XW e (YW j Z))) λj=>Y 9 63 Z (XW e (Xe j Z))) λe=>Y 13 63 Z (Yy e Z))<|I 1 Z (P 11 Z Z)<|P 2 Z Z)<|I 6 Z (A 4 QiU Z λa2=>I 8 Z (N 3 Z<|P 3 Z Z)<|P 2 Z Z)<|I 6 Z (T 1 [0,3,4,5,6,8] [5,123] ([(101,.b ((0<=c.First)&&((c.First<w)&&((0<=c.Then)&&(c.Then<w)))))],[]) Z (H 5 Z (λd=>H 6 Z (λf=>H 5 Z (λk=>Y 6 101 Z (XW d (XW f (XW k Z)))) λk=>Y 6 101 Z (XW d (XW f (Yy k Z)))) λf=>Y 11 101 Z (XW d (Yy f Z))) λd=>Y 17 101 Z (Yy d Z))<|I 1 Z (B λy t=>B λz u=>D 0 Z [.N,.N,.N,.N,.B (.row (Qb y)),.N,.N,.N,.N,.B (.row (Qb z)),.N,.m .s] [] [] [0,3,4,6,8] [123] Z Z (a4_ (YZ t Z) (Xz (Jd t).2) (YZ u Z) (Xz (Jd u).2)) Z<|P 1 Z Z)<|P 2 Z Z)<|P 2 Z Z) λh=>T 2 [0,3,4,8] [123] ([(122,.b ((!p)||((h<1)||(1024<h))))],[]) Z (H 4 Z (λg=>Y 8 122 Z (YW g Z)) λg=>H 4 Z (λl=>Y 4 122 Z (Xe g (YW l Z))) λl=>Y 4 122 Z (Xe g (Xe l Z)))<|I 1 Z (L 9 Z)<|pA_ 5 1 Qb Z<|R 9 Z)<|X 2 Z) (λ_=>aD_ 2 2 600 1 Z<|E 0 Z) (λa3=>gT_ [9,.ren 123 600] Z<|E 0 Z)
def EY:O_ Int:=
 j_ (OE h0) λb=>
 bif ((o<0)||((b.length:Int)<=o))then
 Q 0
 else
 j_ (idx b o) λd=>
 Q d
def RX {e c}:CT 163 [.M 7 XI e,.I c] [] (EY e c) V.I no_:=
 W 20 func163 Z<|oC_ 8 [.d] QiX Z λf=>T 5 [1,5] [7] ([(15,.b ((c<0)||((f.length:Int)<=c)))],[]) Z (H 4 Z (λa=>Y 6 15 Z (YW a Z)) λa=>Y 6 15 Z (Xe a Z))<|I 1 Z (E 7 Z)<|vA_ 7 Qb Z λg=>E 4 Z
def Qa4:O_ Bool:=bif r then j_ (idx h j) λd=>j_ (idx d e0) λe=>Q (decide (e.1<o))else Q false
def HG:O_ ((Bool×Int)⊕Bool):=j_ (idx h j) λe=>bif (s<(e.length:Int))then j_ (Qa4 d0 h j s e0) (λc=>Q (y_ (c,(Qm (s+1)))))else Q (i_ d0)
def Qa5:O_ (Int⊕(Unit⊕Unit)):=bif (!r)then Q (i_ (y_ ()))else Q (y_ (Qm (a+1)))
def HH:O_ (Int⊕(Unit⊕Unit)):=bif (s<(h.length:Int))then j_ (idx h s) λg=>j_ (KQ g) λc=>j_ (idx l0.Places s) λd=>j_ (EY l0.Colours d.Colour) λe=>j_ (Qt (λst=>HG h s e st.1 st.2) (c,0)) (λq=>Qa5 s q)else Q (i_ (i_ ()))
def OF:O_ Bool:=bif ((h.length:Int) != (b.Places.length:Int))then Q false else j_ (Qt (λst=>HH h b st) 0) (Sum.elim (λq=>Q false) (λq=>Q true))
def Qi1 {j k}:CT 85 [.G Qf j,.M 1 Ql k] [] (OF j k) V.b no_:=
 W 59 func85 Z<|N 10 Z<|N 2 Z<|I 3 Z (E 7 Z)<|F 9 [1,2] [2] (λst=>([(5,.I st)],[])) [] [] (λq=>(.ret,([(4,.b false)],[]))) [] [] (λq=>(.exit 0,([],[]))) Z (λt=>N 5 Z<|I 3 Z (J 8 Z λu=>A 1 WA Z λn=>B λh f=>B λi g=>D 4 Z (dz_ [(5,.B (.row (Xk h))),(2,.B (.C2 (.I i))),(0,.N)]) [] [] [1,2,5,6,7] [2] Z Z (a2_ (Xw f) (RX _ g)) Z<|lA_ 8 [1,2,5,7] [2] (λst=>([(6,.b st.1),(8,.I st.2)],[])) [1,2,5] [2] (λq=>(.exit 2,([(6,.b q)],[]))) Z (λ⟨l,o⟩=>J 6 Z λp=>N 1 Z<|I 3 Z (mV_ 4 [1,2,5,7,8] [2] (λe=>([(6,.b e)],[])) Z (I 3 Z (J 2 Z λr=>J 2 Z λs=>M 7 Z)<|M 13 Z) λe=>R 7 Z)<|X 2 Z) λm=>I 8 Z (L 8 Z)<|R 8 Z)<|X 2 Z) (λ_=>E 2 Z) (λ_=>E 8 Z)
def GM:O_ Bool:=
 bif ((k.Most<1)||((16<k.Most)||((k.Enough<1)||((k.Most<k.Enough)||((k.Open<0)||((k.Done<0)||((k.Failed<0)||((16<k.Open)||((16<k.Done)||(16<k.Failed))))))))))then
 Q false
 else
 Q ((1<=(Qm ((Qm (k.Open+k.Done))+k.Failed)))&&((Qm ((Qm (k.Open+k.Done))+k.Failed))<=k.Most))
def HI {d}:CT 164 [.G XK d] [] (GM d) V.b no_:=
 W 70 func164 Z<|T 8 [1] [1] ([(53,.b ((d.Most<1)||((16<d.Most)||((d.Enough<1)||((d.Most<d.Enough)||((d.Open<0)||((d.Done<0)||((d.Failed<0)||((16<d.Open)||((16<d.Done)||(16<d.Failed)))))))))))],[]) Z (H 5 Z (λa=>Y 47 53 Z (YW a Z)) λa=>H 5 Z (λc=>Y 42 53 Z (Xe a (YW c Z))) λc=>H 5 Z (λf=>Y 37 53 Z (Xe a (Xe c (YW f Z)))) λf=>H 7 Z (λg=>Y 30 53 Z (Xe a (Xe c (Xe f (YW g Z))))) λg=>H 5 Z (λi=>Y 25 53 Z (Xe a (Xe c (Xe f (Xe g (YW i Z)))))) λi=>H 5 Z (λe=>Y 20 53 Z (Xe a (Xe c (Xe f (Xe g (Xe i (YW e Z))))))) λe=>H 5 Z (λh=>Y 15 53 Z (Xe a (Xe c (Xe f (Xe g (Xe i (Xe e (YW h Z)))))))) λh=>H 5 Z (λj=>Y 10 53 Z (Xe a (Xe c (Xe f (Xe g (Xe i (Xe e (Xe h (YW j Z))))))))) λj=>H 5 Z (λk=>Y 5 53 Z (Xe a (Xe c (Xe f (Xe g (Xe i (Xe e (Xe h (Xe j (YW k Z)))))))))) λk=>Y 5 53 Z (Xe a (Xe c (Xe f (Xe g (Xe i (Xe e (Xe h (Xe j (Xe k Z))))))))))<|I 1 Z (E 7 Z)<|T 16 [] [] ([(2,.b ((1<=(Qm ((Qm (d.Open+d.Done))+d.Failed)))&&((Qm ((Qm (d.Open+d.Done))+d.Failed))<=d.Most)))],[]) Z (H 4 Z (λl=>Y 7 2 Z (XW l Z)) λl=>Y 7 2 Z (Yy l Z))<|E 2 Z
def Qb8:O_ Bool:=j_ (GM k) λb=>bif b then bif (k.Enough<=k.Done)then Q true else Q (k.Open==0)else Q false
def FJ:O_ Bool:=j_ (Qb8 k) (λb=>Q b)
def RY {a}:CT 98 [.G XK a] [] (FJ a) V.b no_:=
 W 17 func98 Z<|mV_ 7 [] [] (λc=>([(2,.b c)],[])) Z (A 2 HI Z λd=>I 1 Z (I 6 Z (M 7 Z)<|M 7 Z)<|M 13 Z) λc=>E 2 Z
def Pq (a:Qg)(h:Int)(e:Int)(f:(L_ Qg)):O_ Bool:=bif (!r)then Q true else bif d0 then Q true else bif (a.Until<0)then Q true else bif (a.Id<1)then Q true else bif (h<=a.Id)then Q true else bif (0<e)then j_ (idx f (Qm (e-1))) λd=>Q (decide (a.Id<=d.Id))else Q false
def Qa6:O_ (Int⊕(Unit⊕Unit)):=bif r then Q (i_ (y_ ()))else Q (y_ (Qm (a+1)))
def En:O_ (Int⊕(Unit⊕Unit)):=bif (g<(m.length:Int))then j_ (idx m g) λa=>j_ (GM a.Batch) λd=>j_ (FJ a.Batch) λe=>j_ (Pq d e a c g m) (λf=>Qa6 g f)else Q (i_ (i_ ()))
def OG:O_ Bool:=bif (64<(m.length:Int))then Q false else j_ (Qt (λst=>En m c st) 0) (Sum.elim (λq=>Q false) (λq=>Q true))
def Qi4 {l next_2}:CT 86 [.M 11 Qp l,.I next_2] [] (OG l next_2) V.b no_:=
 W 64 func86 Z<|N 9 Z<|I 3 Z (E 7 Z)<|F 9 [0,1] [] (λst=>([(5,.I st)],[])) [] [] (λq=>(.ret,([(4,.b false)],[]))) [] [] (λq=>(.exit 0,([],[]))) Z (λo=>N 5 Z<|I 3 Z (J 8 Z λp=>A 9 HI Z λm=>A 7 RY Z λn=>mV_ 4 [0,1,5] [] (λi=>([(63,.b i)],[])) Z (jF_ (λc=>D 0 Z (dz_ [(2,.E (.b true)),(32,.N)]) [] [] [0,1,5,63] [] Z Z (tc_ c) Z<|M 0 Z) λc=>jF_ (λd=>D 0 Z (dz_ [(2,.E (.b false)),(2,.E (.b true)),(29,.N)]) [] [] [0,1,5,63] [] Z Z ⟨(tc_ c),(cb_ d)⟩ Z<|M 0 Z) λd=>jF_ (λe=>D 0 Z (dz_ [(2,.E (.b false)),(2,.E (.b false)),(4,.E (.b true)),(24,.N)]) [] [] [0,1,5,63] [] Z Z ⟨⟨(tc_ c),(cb_ d)⟩,(cb_ e)⟩ Z<|M 0 Z) λe=>jF_ (λf=>D 0 Z (dz_ [(2,.E (.b false)),(2,.E (.b false)),(4,.E (.b false)),(4,.E (.b true)),(19,.N)]) [] [] [0,1,5,63] [] Z Z ⟨⟨⟨(tc_ c),(cb_ d)⟩,(cb_ e)⟩,(cb_ f)⟩ Z<|M 0 Z) λf=>jF_ (λg=>D 0 Z (dz_ [(2,.E (.b false)),(2,.E (.b false)),(4,.E (.b false)),(4,.E (.b false)),(5,.E (.b true)),(13,.N)]) [] [] [0,1,5,63] [] Z Z ⟨⟨⟨⟨(tc_ c),(cb_ d)⟩,(cb_ e)⟩,(cb_ f)⟩,(cb_ g)⟩ Z<|M 0 Z) λg=>jF_ (λh=>B λk j=>D 0 Z (dz_ [(2,.E (.b false)),(2,.E (.b false)),(4,.E (.b false)),(4,.E (.b false)),(5,.E (.b false)),(2,.E (.b true)),(5,.B (.row (Qp k))),(4,.N)]) [] [] [0,1,5,63] [] Z Z ⟨⟨⟨⟨⟨⟨(tc_ c),(cb_ d)⟩,(cb_ e)⟩,(cb_ f)⟩,(cb_ g)⟩,(cb_ h)⟩,(Xw j)⟩ Z<|M 0 Z) λh=>D 0 Z (dz_ [(2,.E (.b false)),(2,.E (.b false)),(4,.E (.b false)),(4,.E (.b false)),(5,.E (.b false)),(2,.E (.b false)),(10,.N)]) [] [] [0,1,5,63] [] Z Z ⟨⟨⟨⟨⟨(tc_ c),(cb_ d)⟩,(cb_ e)⟩,(cb_ f)⟩,(cb_ g)⟩,(cb_ h)⟩ Z<|M 0 Z) λi=>I 1 Z (L 8 Z)<|R 8 Z)<|X 2 Z) (λ_=>E 2 Z) (λ_=>E 8 Z)
def Zf:O_ Bool:=bif (a<0)then Q true else j_ (EY h0 o) λb=>Q (decide (b<=a))
def Zg:O_ (Int×Bool):=bif d0 then Q (0,false)else j_ (idx h0 o) λa=>bif (a.Kind==1)then j_ (idx h0 o) λb=>Q ((Qm (b.Lo+j2)),true)else Q (j2,true)
def Ng:O_ (Int×Bool):=j_ (Zf j2 h0 o) (λd=>Zg h0 o j2 d)
def Qhv {a c d}:CT 247 [.M 7 XI a,.I c,.I d] [] (Ng a c d) (λr=>(.tup [.I r.1,.b r.2])) no_:=
 W 31 func247 Z<|mV_ 8 [0,1,2] [] (λe=>([(16,.b e)],[])) Z (I 4 Z (M 7 Z)<|A 3 RX Z λf=>M 3 Z) λe=>I 1 Z (E 8 Z)<|J 7 Z λg=>I 5 Z (J 4 Z λh=>E 10 Z)<|E 10 Z
def FK:O_ ((Int×LI_)⊕(Unit⊕LI_)):=bif (s<(l.Vars.length:Int))then j_ (idx l.Vars s) λf=>j_ (idx l3 s) λg=>j_ (Ng l0.Colours f.Colour g) λd=>bif (!d.2)then Q (i_ (y_ ()))else j_ (chk (e2.length+([d.1]:L_ Int).length<=4294967296)) λ_=>Q (y_ ((Qm (s+1)),(e2++([d.1]:L_ Int))))else Q (i_ (i_ e2))
def IE:O_ (LI_×Int):=
 bif ((g<0)||((b.Tasks.length:Int)<=g))then
 Q (([]:L_ Int),3)
 else
 j_ (idx b.Tasks g) λc=>
 bif ((i.length:Int) != (c.Vars.length:Int))then
 Q (([]:L_ Int),1)
 else
 j_ (Qt (λst=>FK c i b st.1 st.2) (0,([]:L_ Int))) (Sum.elim (λq=>Q (([]:L_ Int),1)) (λq=>Q (q,0)))
def Tk {l e f}:CT 165 [.G Qf l,.I e,.M 1 Qb f] [] (IE l e f) (λr=>(.tup [.M 1 Qb r.1,.I r.2])) no_:=
 W 61 func165 Z<|T 9 [1,2,3] [3] ([(21,.b ((e<0)||((l.Tasks.length:Int)<=e)))],[]) Z (H 4 Z (λg=>Y 7 21 Z (YW g Z)) λg=>N 3 Z<|Y 3 21 Z (Xe g Z))<|I 1 Z (gT_ [8,.denil 6 [Q 1]] Z<|E 0 Z)<|J 7 Z λp=>N 9 Z<|N 1 Z<|I 3 Z (gT_ [8,.denil 6 [Q 1]] Z<|E 0 Z)<|aD_ 14 9 56 1 Z<|F 0 [2,3,8] [3] (λst=>([(9,.P 56 st.2),(10,.I st.1)],[(56,.R 1 Qb st.2)])) [] [] (λq=>(.ret,([(6,.Y),(7,.I 1)],[]))) [] [] (λq=>(.exit 0,([(9,.P 56 q)],[(56,.R 1 Qb q)]))) Z (λ⟨s,t⟩=>N 5 Z<|I 3 Z (B λm h=>B λo i=>B λj k=>D 5 Z (dz_ [(4,.B (.row (Yz m))),(4,.B (.row (Qb o))),(1,.B (.C3 (.tup [.I j.1,.b j.2]))),(4,.N)]) [] [] [2,3,8,9,10,11,12] [3,56] Z Z (a3_ (Xw h) (Xw i) (Qhv _ k)) Z<|I 8 Z (L 10 Z)<|pA_ 5 1 Qb Z<|R 9 Z)<|X 2 Z) (λ_=>gT_ [2,.denil 6 [Q 1]] Z<|E 0 Z) (λu=>zF_ 10 56 [6] [] Z<|E 0 Z)
def RZ:O_ Int:=j_ (Qt (λst=>bif (st.2<(d3.Kids.length:Int))then j_ (idx d3.Kids st.2) λf=>j_ (h3 f) λg=>Q (y_ ((max2 st.1 g),(Qm (st.2+1))))else Q (i_ st.1)) (0,0)) (λq=>Q (Qm (q+1)))
def Gz : Nat->Qn->O_ Int
 | 0,_=>none
 | n+1,a=>RZ (Gz n) a
def VN:O_ Int:=Gz (SizeOf.sizeOf c0) c0
def Qgd {O:Qn->O_ Int}{hrec_ref04_Depth:∀(a:Qn) {r:Int},O a=Q r->QP prog 298 [.G QS a] [] (Gives (.I r) [])}{a:Qn}:CT 298 [.G QS a] [] (RZ O a) V.I no_:=
 W 22 func298 Z<|lA_ 18 [1] [1] (λst=>([(3,.I st.1),(4,.I st.2)],[])) [] [] (λq=>(.exit 0,([(3,.I q)],[]))) Z (λ⟨g,h⟩=>nR_ 6 Ab Z<|I 3 Z (xR_ 9 JL Z λi f=>B λe b=>G [1,.o (.C1 (.I e)),10] Z (hrec_ref04_Depth _ b)<|R 0 Z)<|X 2 Z) λj=>E 10 Z
def Vr : ∀(fuel:Nat) (a:Qn) {r:Int},Gz fuel a=Q r->QP prog 298 [.G QS a] [] (Gives (.I r) [])
 | 0,_,_,h=>by cases h
 | n+1,a,_,h=>@Qgd (Gz n) (λ_ _ h=>Vr n _ h) a _ h
def Qi7 (a){r}(h:VN a=Q r):QP prog 298 [.G QS a] [] (Gives (.I r) []):=Vr _ a h
def Tl:O_ Int:=j_ (Qt (λst=>bif (st.2<(d3.Kids.length:Int))then j_ (idx d3.Kids st.2) λf=>j_ (h3 f) λg=>Q (y_ ((Qm (st.1+g)),(Qm (st.2+1))))else Q (i_ st.1)) (1,0)) (λq=>Q q)
def Eo : Nat->Qn->O_ Int
 | 0,_=>none
 | n+1,a=>Tl (Eo n) a
def Qa7:O_ Int:=Eo (SizeOf.sizeOf c0) c0
def Qhw {O:Qn->O_ Int}{hrec_ref04_Size:∀(a:Qn) {r:Int},O a=Q r->QP prog 299 [.G QS a] [] (Gives (.I r) [])}{a:Qn}:CT 299 [.G QS a] [] (Tl O a) V.I no_:=
 W 21 func299 Z<|lA_ 18 [1] [1] (λst=>([(3,.I st.1),(4,.I st.2)],[])) [] [] (λq=>(.exit 0,([(3,.I q)],[]))) Z (λ⟨g,h⟩=>nR_ 6 Ab Z<|I 3 Z (xR_ 9 JL Z λi f=>B λe b=>G [1,.o (.C1 (.I e)),10] Z (hrec_ref04_Size _ b)<|R 0 Z)<|X 2 Z) λj=>E 9 Z
def Zh : ∀(fuel:Nat) (a:Qn) {r:Int},Eo fuel a=Q r->QP prog 299 [.G QS a] [] (Gives (.I r) [])
 | 0,_,_,h=>by cases h
 | n+1,a,_,h=>@Qhw (Eo n) (λ_ _ h=>Zh n _ h) a _ h
def QkS (a){r}(h:Qa7 a=Q r):QP prog 299 [.G QS a] [] (Gives (.I r) []):=Zh _ a h
def VO:O_ Bool:=Q ((1<=a)&&(a<=11))
def Qi8 {JE}:CT 328 [.I JE] [] (VO JE) V.b no_:=
 W 9 func328 Z<|T 6 [] [] ([(2,.b ((1<=JE)&&(JE<=11)))],[]) Z (H 4 Z (λa=>Y 5 2 Z (XW a Z)) λa=>Y 5 2 Z (Yy a Z))<|E 2 Z
def Ep:O_ ((Bool×Int)⊕Bool):=bif ((s<(c0.Kids.length:Int))&&d0)then j_ (idx c0.Kids s) λd=>j_ (m1 d k0) λe=>Q (y_ (e,(Qm (s+1))))else Q (i_ d0)
def KI:O_ Bool:=j_ (Qt (λst=>Ep c0 m1 k0 st.1 st.2) (d0,0)) (λq=>Q q)
def Qa8:O_ Bool:=bif ((c0.Kids.length:Int)==2)then j_ (VO c0.Num) λa=>Q a else Q false
def Qa9:O_ Bool:=KI c0 m1 k0 d0
def HJ:O_ Bool:=bif d0 then KI c0 m1 k0 ((c0.Kids.length:Int)==1)else bif (c0.Kind==5)then j_ (Qa8 c0) (λc=>Qa9 c0 m1 k0 c)else bif (c0.Kind==6)then KI c0 m1 k0 ((c0.Kids.length:Int)==3)else KI c0 m1 k0 false
def LC:O_ Bool:=bif (c2.Kind==1)then KI c2 m1 k0 ((c2.Kids.length:Int)==0)else bif (c2.Kind==2)then KI c2 m1 k0 (((c2.Kids.length:Int)==0)&&((0<=c2.Num)&&(c2.Num<k0)))else bif (c2.Kind==3)then HJ c2 m1 k0 (c2.Kind==3)else HJ c2 m1 k0 (c2.Kind==4)
def GA : Nat->Qn->Int->O_ Bool
 | 0,_,_=>none
 | n+1,b,a=>LC (GA n) b a
def VP:O_ Bool:=GA (SizeOf.sizeOf c0) c0 j
def Qge {O:Qn->Int->O_ Bool}{hrec_ref04_parts:∀(f:Qn) (a:Int) {r:Bool},O f a=Q r->QP prog 300 [.G QS f,.I a] [] (Gives (.b r) [])}{f:Qn}{a:Int}:CT 300 [.G QS f,.I a] [] (LC O f a) V.b no_:=
 W 66 func300 Z<|nR_ 10 Ab Z<|mE_ 8 [1,2,5] [2] (λi:Bool=>([(6,.b i)],[])) (λi=>KI f O a i) Z (I 13 Z (P 6 Z Z)<|I 6 Z (T 0 [1,2,5] [2] ([(6,.b (((f.Kids.length:Int)==0)&&((0<=f.Num)&&(f.Num<a))))],[]) Z (H 4 Z (λe=>H 5 Z (λg=>Y 7 6 Z (XW e (XW g Z))) λg=>Y 7 6 Z (XW e (Yy g Z))) λe=>Y 12 6 Z (Yy e Z))<|P 1 Z Z)<|mE_ 0 [1,2,5,6,12] [2] (λj:Bool=>([(32,.b j)],[])) (λj=>HJ f O a j) Z (I 6 Z (P 1 Z Z)<|P 4 Z Z) λj=>I 0 Z (P 6 Z Z)<|I 6 Z (mV_ 0 [1,2,5] [2] (λk=>([(6,.b k)],[])) Z (I 4 Z (A 2 Qi8 Z λt=>M 3 Z)<|M 6 Z) λk=>P 1 Z Z)<|I 6 Z (P 6 Z Z)<|P 2 Z Z) λi=>lA_ 7 [1,2,5] [2] (λst=>([(6,.b st.1),(7,.I st.2)],[])) [] [] (λq=>(.exit 1,([(6,.b q)],[]))) Z (λ⟨m,u⟩=>T 2 [1,2,5,6,7] [2] ([(55,.b ((u<(f.Kids.length:Int))&&m))],[]) Z (H 5 Z (λh=>Y 3 55 Z (XW h Z)) λh=>Y 3 55 Z (Yy h Z))<|I 1 Z (xR_ 8 JL Z λv s=>B λp l=>G [2,.o (.C2 (.b p)),9] Z (hrec_ref04_parts _ _ l)<|R 0 Z)<|X 2 Z) λw=>E 9 Z
def Vs : ∀(fuel:Nat) (c:Qn) (a:Int) {r:Bool},GA fuel c a=Q r->QP prog 300 [.G QS c,.I a] [] (Gives (.b r) [])
 | 0,_,_,_,h=>by cases h
 | n+1,c,a,_,h=>@Qge (GA n) (λ_ _ _ h=>Vs n _ _ h) c a _ h
def Qja (c a){r}(h:VP c a=Q r):QP prog 300 [.G QS c,.I a] [] (Gives (.b r) []):=Vs _ c a h
def Qba:O_ Bool:=j_ (VN c0) λd=>bif (d<=40)then j_ (Qa7 c0) λe=>bif (e<=400)then j_ (VP c0 j) λc=>Q c else Q false else Q false
def OH:O_ Bool:=j_ (Qba c0 j) (λc=>Q c)
def Qjc {i a}:CT 250 [.G QS i,.I a] [] (OH i a) V.b no_:=
 W 18 func250 Z<|mV_ 7 [] [] (λj=>([(4,.b j)],[])) Z (B λk f=>G [2,.o (.C1 (.I k)),2] Z (Qi7 _ f)<|I 0 Z (B λl g=>G [1,.o (.C1 (.I l)),3] Z (QkS _ g)<|I 0 Z (B λh e=>G [2,.o (.C2 (.b h)),3] Z (Qja _ _ e)<|M 0 Z)<|M 6 Z)<|M 11 Z) λj=>E 2 Z
def TY:O_ (Int×Bool):=
 bif (bif (0<e)then(((Qm (9223372036854775807-e))<a)||((e<0)&&(a<(Qm ((-9223372036854775808)-e)))))else((e<0)&&(a<(Qm ((-9223372036854775808)-e)))))then
 Q (0,false)
 else
 Q ((Qm (a+e)),true)
def Qmv {g f}:CT 329 [.I g,.I f] [] (TY g f) (λr=>(.tup [.I r.1,.b r.2])) no_:=
 W 27 func329 Z<|T 8 [0,1] [] ([(23,.b (bif (0<f)then(((Qm (9223372036854775807-f))<g)||((f<0)&&(g<(Qm ((-9223372036854775808)-f)))))else((f<0)&&(g<(Qm ((-9223372036854775808)-f))))))],[]) Z (H 4 Z (λa=>H 6 Z (λe=>Y 10 23 Z (OP a (YW e Z))) λe=>H 3 Z (λc=>Y 7 23 Z (OP a (Xe e (XW c Z)))) λc=>Y 7 23 Z (OP a (Xe e (Yy c Z)))) λa=>H 9 Z (λd=>Y 7 23 Z (QcE a (XW d Z))) λd=>Y 7 23 Z (QcE a (Yy d Z)))<|I 1 Z (E 8 Z)<|E 12 Z
def TZ:O_ (Int×Bool):=
 bif (bif (e<0)then(((Qm (9223372036854775807+e))<a)||((0<e)&&(a<(Qm ((-9223372036854775808)+e)))))else((0<e)&&(a<(Qm ((-9223372036854775808)+e)))))then
 Q (0,false)
 else
 Q ((Qm (a-e)),true)
def Qmw {g f}:CT 330 [.I g,.I f] [] (TZ g f) (λr=>(.tup [.I r.1,.b r.2])) no_:=
 W 27 func330 Z<|T 8 [0,1] [] ([(23,.b (bif (f<0)then(((Qm (9223372036854775807+f))<g)||((0<f)&&(g<(Qm ((-9223372036854775808)+f)))))else((0<f)&&(g<(Qm ((-9223372036854775808)+f))))))],[]) Z (H 4 Z (λa=>H 6 Z (λe=>Y 10 23 Z (OP a (YW e Z))) λe=>H 3 Z (λc=>Y 7 23 Z (OP a (Xe e (XW c Z)))) λc=>Y 7 23 Z (OP a (Xe e (Yy c Z)))) λa=>H 9 Z (λd=>Y 7 23 Z (QcE a (XW d Z))) λd=>Y 7 23 Z (QcE a (Yy d Z)))<|I 1 Z (E 8 Z)<|E 12 Z
def Qdt:O_ Bool:=
 bif (bif (a<0)then((0<e)||((0<a)&&(e<0)))else((0<a)&&(e<0)))then
 j_ (chk (c != 0)) λ_=>
 bif ((Qm (g-1))<=(Qm (Int.tdiv (Qm (9223372036854775807-(Qm (c-1)))) c)))then
 Q ((Qm (g*c))==(-9223372036854775808))
 else
 Q false
 else
 Q false
def Tm:O_ (Int×Bool):=bif r then Q ((-9223372036854775808),true)else Q (0,false)
def FL:O_ (Int×Bool):=j_ (chk (g != 0)) λ_=>bif (a<=(Qm (Int.tdiv 9223372036854775807 g)))then Q ((Qm (e*c)),true)else j_ (Qdt e c g a) (λb=>Tm b)
def FM:O_ (Int×Bool):=bif (a<0)then FL c e a (Qm (0-a))else FL c e a a
def Va:O_ (Int×Bool):=
 bif ((a==0)||(e==0))then
 Q (0,true)
 else
 bif ((a==(-9223372036854775808))||(e==(-9223372036854775808)))then
 bif ((a==1)||(e==1))then
 Q ((Qm (a*e)),true)
 else
 Q (0,false)
 else
 bif (a<0)then
 FM e a (Qm (0-a))
 else
 FM e a a
def Qmx {p q}:CT 331 [.I p,.I q] [] (Va p q) (λr=>(.tup [.I r.1,.b r.2])) no_:=
 W 78 func331 Z<|@λC r=>T 8 [0,1] [] ([(14,.b ((p==0)||(q==0)))],[]) Z (H 4 Z (λt=>Y 4 14 Z (YW t Z)) λt=>Y 4 14 Z (Xe t Z))<|I 1 Z (E 8 Z)<|T 4 [0,1] [] ([(20,.b ((p==(-9223372036854775808))||(q==(-9223372036854775808))))],[]) Z (H 4 Z (λe=>Y 4 20 Z (YW e Z)) λe=>Y 4 20 Z (Xe e Z))<|I 1 Z (T 2 [0,1] [] ([(26,.b ((p==1)||(q==1)))],[]) Z (H 4 Z (λf=>Y 4 26 Z (YW f Z)) λf=>Y 4 26 Z (Xe f Z))<|I 1 Z (E 12 Z)<|E 10 Z)<|mE_ 8 [0,1] [] (λg:Int=>([(6,.I g)],[])) (λg=>FM q p g) Z (I 6 Z (P 5 Z Z)<|P 1 Z Z) λg=>mE_ 6 [0,1,6] [] (λs:Int=>([(7,.I s)],[])) (λs=>FL g p q s) Z (I 6 Z (P 5 Z Z)<|P 1 Z Z) λs=>T 1 [0,1,6,7] [] ([(8,.b (bif (p<0)then((0<q)||((0<p)&&(q<0)))else((0<p)&&(q<0))))],[]) Z (H 4 Z (λa=>H 4 Z (λc=>Y 9 8 Z (OP a (YW c Z))) λc=>H 3 Z (λi=>Y 6 8 Z (OP a (Xe c (XW i Z)))) λi=>Y 6 8 Z (OP a (Xe c (Yy i Z)))) λa=>H 7 Z (λj=>Y 6 8 Z (QcE a (XW j Z))) λj=>Y 6 8 Z (QcE a (Yy j Z)))<|kA_ λv=>(λd h=>by
   refine Yq d [10] rfl (a1_ (neZ v)) ?_;refine bg_ h (λk h=>Yq d [.T,11,.K [4,5] []] rfl (a1_ k) ?_) λk h=>Yq d [.F,4] rfl (a1_ k) ?_
   ·exact E 0 Z d h
   obtain⟨u,w,h⟩:=QU h;replace h:Tm u=Q r:=h;refine AK.meetX (λσ=>σ=⟨[(77,.b u)],[]⟩) ?_ ?_
   ·replace h:=w;refine tg_ d [3] ?_;rcases XU h with⟨l,h⟩|⟨l,h⟩
    ·obtain⟨x,h⟩:=Qws h;refine Yq d [.S 62 (.b true),10] rfl ⟨(tc_ l),(neZ x)⟩ ?_;refine bg_ h (λm h=>Yq d [.S 72 (.b true),6,.K [77] []] rfl (tc_ m) ?_) λm h=>Yq d [.S 72 (.b false),6,.K [77] []] rfl (tc_ m) ?_
     ·cases h;exact mt_
     cases h;exact mt_
    refine Yq d [.S 62 (.b false),16,.K [77] []] rfl (tc_ l) ?_;cases h;exact mt_
   rintro σ rfl;replace h:Tm u=Q r:=h;refine tg_ d [1] ?_;refine bg_ h (λo h=>Yq d [.T,8,.K [4,5] []] rfl (a1_ o) ?_) λo h=>Yq d [.F,9,.K [4,5] []] rfl (a1_ o) ?_
   ·exact E 0 Z d h
   exact E 0 Z d h)
def Gn:O_ Int:=bif r then Q 1 else Q 0
def DY {a}:CT 332 [.b a] [] (Gn a) V.I no_:=
 W 4 func332 Z<|I 11 Z (E 7 Z)<|E 8 Z
def BQ:O_ (Int×Int):=bif (!r)then Q (0,6)else Q (a,0)
def QeU:O_ Int:=bif (a != 0)then j_ (Gn (e != 0)) λc=>Q c else j_ (Gn false) λb=>Q b
def QeV:O_ (Int×Int):=Q (a,0)
def QeW:O_ Int:=bif (a != 0)then j_ (Gn true) λc=>Q c else j_ (Gn (e != 0)) λb=>Q b
def QeX:O_ (Int×Int):=Q (a,0)
def BR:O_ (Int×Int):=bif d0 then bif (a==0)then Q (0,7)else bif ((e==(-9223372036854775808))&&(a==(-1)))then Q (0,6)else bif (c==4)then j_ (chk (a != 0)) λ_=>Q ((Qm (Int.tdiv e a)),0)else j_ (chk (a != 0)) λ_=>Q ((Int.tmod e a),0)else bif (c==6)then j_ (Gn (e==a)) λd=>Q (d,0)else bif (c==7)then j_ (Gn (e != a)) λb=>Q (b,0)else bif (c==8)then j_ (Gn (decide (e<a))) λf=>Q (f,0)else bif (c==9)then j_ (Gn (decide (e<=a))) λg=>Q (g,0)else bif (c==10)then j_ (QeU e a) (λh=>QeV h)else bif (c==11)then j_ (QeW e a) (λi=>QeX i)else Q (0,1)
def DI:O_ (Int×Int):=bif (a==1)then j_ (TY e c) λb=>BQ b.1 b.2 else bif (a==2)then j_ (TZ e c) λd=>BQ d.1 d.2 else bif (a==3)then j_ (Va e c) λf=>BQ f.1 f.2 else bif (a==4)then BR c e a (a==4)else BR c e a (a==5)
def QeY {JE k l}:CT 301 [.I JE,.I k,.I l] [] (DI JE k l) (λr=>(.tup [.I r.1,.I r.2])) no_:=
 W 99 func301 Z<|mF_ 16 [] [] (λ(m:Int) (c:Bool)=>([(8,.I m),(9,.b c)],[])) (λm c=>BQ m c) Z (I 12 Z (A 3 Qmv Z λo=>fA_ 7 Z Z)<|I 6 Z (A 3 Qmw Z λp=>fA_ 7 Z Z)<|I 6 Z (A 3 Qmx Z λq=>fA_ 7 Z Z)<|mE_ 0 [0,1,2,10] [] (λd:Bool=>([(35,.b d)],[])) (λd=>BR l k JE d) Z (I 6 Z (P 1 Z Z)<|P 4 Z Z) λd=>I 0 Z (I 7 Z (E 10 Z)<|T 4 [0,1,2] [] ([(45,.b ((k==(-9223372036854775808))&&(l==(-1))))],[]) Z (H 4 Z (λa=>Y 4 45 Z (XW a Z)) λa=>Y 4 45 Z (Yy a Z))<|I 1 Z (E 10 Z)<|I 9 Z (kA_ λe=>(λf h=>by
   refine Yq f [13,.K [6,7] []] rfl (a1_ (neZ e)) ?_;exact E 0 Z f h))<|kA_ λg=>(λf h=>by
   refine Yq f [14,.K [6,7] []] rfl (a1_ (neZ g)) ?_;exact E 0 Z f h))<|I 6 Z (A 5 DY Z λs=>E 7 Z)<|I 6 Z (A 5 DY Z λt=>E 7 Z)<|I 6 Z (A 5 DY Z λu=>E 7 Z)<|I 6 Z (A 5 DY Z λv=>E 7 Z)<|I 6 Z (mV_ 1 [] [] (λi=>([(6,.I i),(7,.I 0)],[])) Z (I 4 Z (A 3 DY Z λw=>M 3 Z)<|A 3 DY Z λx=>M 3 Z) λi=>E 4 Z)<|I 6 Z (mV_ 1 [] [] (λj=>([(6,.I j),(7,.I 0)],[])) Z (I 4 Z (A 3 DY Z λy=>M 3 Z)<|A 3 DY Z λz=>M 3 Z) λj=>E 4 Z)<|E 9 Z) λm c=>I 7 Z (E 8 Z)<|E 10 Z
def Nh (O:Qn->LI_->O_ (Int×Int))(c:Qn)(a:LI_):O_ (Int×Int):=bif (c.Kind==1)then Q (c.Num,0)else bif (c.Kind==2)then j_ (idx a c.Num) λm=>Q (m,0)else j_ (idx c.Kids 0) λi=>j_ (O i a) λb=>bif (b.2 != 0)then Q (0,b.2)else bif (c.Kind==3)then j_ (DI 2 0 b.1) λe=>Q (e.1,e.2)else bif (c.Kind==4)then bif (b.1==0)then Q (1,0)else Q (0,0)else bif (c.Kind==6)then bif (b.1 != 0)then j_ (idx c.Kids 1) λj=>j_ (O j a) λf=>Q (f.1,f.2)else j_ (idx c.Kids 2) λk=>j_ (O k a) λg=>Q (g.1,g.2)else bif ((c.Num==10)&&(b.1==0))then Q (0,0)else bif ((c.Num==11)&&(b.1 != 0))then Q (1,0)else j_ (idx c.Kids 1) λl=>j_ (O l a) λd=>bif (d.2 != 0)then Q (0,d.2)else j_ (DI c.Num b.1 d.1) λh=>Q (h.1,h.2)
def Er : Nat->Qn->LI_->O_ (Int×Int)
 | 0,_,_=>none
 | n+1,b,a=>Nh (Er n) b a
def Qbb:O_ (Int×Int):=Er (SizeOf.sizeOf c0) c0 i
def Qhx {rec_ref04_eval:Qn->LI_->O_ (Int×Int)}{hrec_ref04_eval:∀(h:Qn) (a:LI_) {r:(Int×Int)},rec_ref04_eval h a=Q r->QP prog 251 [.G QS h,.M 1 Qb a] [] (Gives (.tup [.I r.1,.I r.2]) [])}{h:Qn}{a:LI_}:CT 251 [.G QS h,.M 1 Qb a] [] (Nh rec_ref04_eval h a) (λr=>(.tup [.I r.1,.I r.2])) no_:=
 W 100 func251 Z<|I 21 Z (E 11 Z)<|I 6 Z (J 5 Z λe9=>E 8 Z)<|xR_ 7 JL Z λw s=>B λg i=>G [2,.o (.C2 (.tup [.I g.1,.I g.2])),14] Z (hrec_ref04_eval _ _ i)<|I 0 Z (E 9 Z)<|I 16 Z (A 3 QeY Z λx=>E 9 Z)<|I 6 Z (I 7 Z (E 10 Z)<|E 11 Z)<|I 6 Z (I 7 Z (xR_ 4 JL Z λy t=>B λj k=>G [2,.o (.C2 (.tup [.I j.1,.I j.2])),10] Z (hrec_ref04_eval _ _ k)<|E 0 Z)<|xR_ 6 JL Z λz u=>B λl m=>G [2,.o (.C2 (.tup [.I l.1,.I l.2])),9] Z (hrec_ref04_eval _ _ m)<|E 0 Z)<|T 5 [1,2,6] [2] ([(73,.b ((h.Num==10)&&(g.1==0)))],[]) Z (H 5 Z (λe=>Y 4 73 Z (XW e Z)) λe=>Y 4 73 Z (Yy e Z))<|I 1 Z (E 8 Z)<|T 4 [1,2,6] [2] ([(80,.b ((h.Num==11)&&(g.1 != 0)))],[]) Z (H 5 Z (λf=>Y 4 80 Z (XW f Z)) λf=>Y 4 80 Z (Yy f Z))<|I 1 Z (E 8 Z)<|xR_ 6 JL Z λC v=>B λp q=>G [2,.o (.C2 (.tup [.I p.1,.I p.2])),14] Z (hrec_ref04_eval _ _ q)<|I 0 Z (E 9 Z)<|A 8 QeY Z λO=>E 7 Z
def Zi : ∀(fuel:Nat) (b:Qn) (a:LI_) {r:(Int×Int)},Er fuel b a=Q r->QP prog 251 [.G QS b,.M 1 Qb a] [] (Gives (.tup [.I r.1,.I r.2]) [])
 | 0,_,_,_,h=>by cases h
 | n+1,b,a,_,h=>@Qhx (Er n) (λ_ _ _ h=>Zi n _ _ h) b a _ h
def QkT (b a){r}(h:Qbb b a=Q r):QP prog 251 [.G QS b,.M 1 Qb a] [] (Gives (.tup [.I r.1,.I r.2]) []):=Zi _ b a h
def Ml:O_ (Int×Int):=j_ (OH c0 (i.length:Int)) λd=>bif (!d)then Q (0,1)else j_ (Qbb c0 i) λc=>Q (c.1,c.2)
def Qb9 {e a}:CT 167 [.G QS e,.M 1 Qb a] [] (Ml e a) (λr=>(.tup [.I r.1,.I r.2])) no_:=
 W 18 func167 Z<|N 11 Z<|A 0 Qjc Z λg=>I 10 Z (E 8 Z)<|B λf b=>G [6,.o (.C2 (.tup [.I f.1,.I f.2])),7] Z (QkT _ _ b)<|E 0 Z
def Dg:O_ (Int⊕(Int⊕Unit)):=bif (g<a)then bif ((Qm (e+g))==c)then Q (i_ (y_ g))else Q (y_ (Qm (g+1)))else Q (i_ (i_ ()))
def GF:O_ (Int×Bool):=j_ (Qt (λst=>Dg a c e st) 0) (Sum.elim (λq=>Q (q,true)) (λq=>Q (0,false)))
def Zj:O_ Bool:=bif (0<a)then j_ (idx h0 o) λb=>Q (b.Kind==1)else Q false
def Zk:O_ (Int×Bool):=bif d0 then j_ (idx h0 o) λb=>GF j2 p b.Lo else GF j2 p 0
def Ni:O_ (Int×Bool):=j_ (EY h0 o) λd=>j_ (Zj d h0 o) (λc=>Zk h0 o d j2 c)
def QhA {e f d}:CT 248 [.M 7 XI e,.I f,.I d] [] (Ni e f d) (λr=>(.tup [.I r.1,.b r.2])) no_:=
 W 40 func248 Z<|A 10 RX Z λg=>mE_ 8 [2,8] [] (λa:Int=>([(9,.I a)],[])) (λa=>GF g d a) Z (mV_ 1 [0,1,2,8,9] [] (λc=>([(23,.b c)],[])) Z (I 4 Z (J 2 Z λh=>M 5 Z)<|M 8 Z) λc=>I 1 Z (J 3 Z λi=>P 4 Z Z)<|P 1 Z Z) λa=>F 7 [2,8,9] [] (λst=>([(10,.I st)],[])) [] [] (λq=>(.ret,([(6,.I q),(7,.b true)],[]))) [] [] (λq=>(.exit 0,([],[]))) Z (λj=>I 8 Z (I 13 Z (L 10 Z)<|R 8 Z)<|X 2 Z) (λk=>E 2 Z) (λ_=>E 9 Z)
def DS:O_ (Int⊕(Int⊕Unit)):=bif ((c3<(d.length:Int))&&d0)then j_ (idx d c3) λc=>bif (c.1==s)then j_ (idx d c3) λa=>Q (i_ (y_ a.2))else Q (y_ (Qm (c3+1)))else Q (i_ (i_ ()))
def BS:O_ Int:=j_ (KQ d) λa=>j_ (Qt (λst=>DS d a c st) 0) (Sum.elim (λq=>Q q) (λq=>Q 0))
def Pr {c d}:CT 296 [.M 2 Qy c,.I d] [] (BS c d) V.I no_:=
 W 30 func296 Z<|A 8 WA Z λe=>F 10 [0,1,5] [] (λst=>([(6,.I st)],[])) [] [] (λq=>(.ret,([(4,.I q)],[]))) [] [] (λq=>(.exit 0,([],[]))) Z (λf=>T 2 [0,1,5,6] [] ([(15,.b ((f<(c.length:Int))&&e))],[]) Z (N 3 Z<|H 2 Z (λa=>Y 3 15 Z (XW a Z)) λa=>Y 3 15 Z (Yy a Z))<|I 1 Z (J 8 Z λg=>I 6 Z (J 4 Z λh=>L 8 Z)<|R 8 Z)<|X 2 Z) (λi=>E 2 Z) (λ_=>E 8 Z)
def LD:O_ ((Bool×Int×QBg)⊕(Bool×QBg)):=Q (y_ (r,(Qm (a+1)),d))
def Co:O_ ((Bool×Int×QBg)⊕(Bool×QBg)):=j_ (idx d c) λe=>bif (e.1 != g)then j_ (idx d c) λa=>j_ (chk (e1.length+([a]:QBg).length<=4294967296)) λ_=>LD c d0 (e1++([a]:QBg))else LD c d0 e1
def Qca:O_ Bool:=bif (!r)then j_ (idx d c) λb=>Q (decide (g<=b.1))else Q false
def LE:O_ ((Bool×Int×QBg)⊕(Bool×QBg)):=Co d c g true e1
def Qcb (b:Bool)(g:Bool):O_ ((Bool×Int×QBg)⊕(Bool×QBg)):=bif g then bif (0<a)then j_ (chk (d.length+([(c,a)]:QBg).length<=4294967296)) λ_=>LE e1 s c (d++([(c,a)]:QBg))else LE e1 s c d else Co e1 s c b d
def Uu (f:QBg):O_ ((Bool×Int×QBg)⊕(Bool×QBg)):=bif (s<(d.length:Int))then j_ (Qca d0 d s c) (λa=>Qcb g f c d s d0 a)else Q (i_ (d0,f))
def LF:O_ QBg:=Q d
def Sa:O_ QBg:=bif ((!r)&&(0<a))then j_ (chk (d.length+([(e,a)]:QBg).length<=4294967296)) λ_=>LF (d++([(e,a)]:QBg))else LF d
def Mm:O_ QBg:=j_ (Qt (λst=>Uu d c g st.1 st.2.1 st.2.2) (false,0,([]:QBg))) (λq=>Sa g c q.1 q.2)
def Qcc {k l m}:CT 297 [.M 2 Qy k,.I l,.I m] [] (Mm k l m) (λr=>(.P 600 r)) (λr=>[(600,.R 2 Qy r)]):=
 W 62 func297 Z<|aD_ 22 7 29 2 Z<|lA_ 0 [0,1,2] [] (λst=>([(7,.P 29 st.2.2),(8,.b st.1),(9,.I st.2.1)],[(29,.R 2 Qy st.2.2)])) [1,2] [] (λq=>(.exit 0,([(7,.P 29 q.2),(8,.b q.1)],[(29,.R 2 Qy q.2)]))) Z (λ⟨o,p,w⟩=>N 5 Z<|I 3 Z (mF_ 2 [0,1,2,9] [] (λ(a:Bool) (d:QBg)=>([(7,.P 29 d),(8,.b a)],[(29,.R 2 Qy d)])) (λa d=>LD p a d) Z (mF_ 1 [0,1,2,9] [] (λ(c:Bool) (e:QBg)=>([(7,.P 29 e),(8,.b c)],[(29,.R 2 Qy e)])) (λc e=>Co k p l c e) Z (mV_ 1 [0,1,2,7,8,9] [29] (λj=>([(26,.b j)],[])) Z (I 4 Z (J 2 Z λs=>M 6 Z)<|M 9 Z) λj=>I 1 Z (mE_ 0 [0,1,2,9] [] (λf:QBg=>([(7,.P 29 f)],[(29,.R 2 Qy f)])) (λf=>LE k p l f) Z (I 6 Z (pA_ 5 2 Qy Z<|P 2 Z Z)<|P 1 Z Z) λf=>fA_ 3 Z Z)<|fA_ 1 Z Z) λc e=>J 4 Z λt=>I 6 Z (J 4 Z λu=>pA_ 1 2 Qy Z<|fA_ 3 Z Z)<|fA_ 2 Z Z) λa d=>R 5 Z)<|X 2 Z) λ⟨i,v⟩=>mE_ 2 [] [] (λg:QBg=>([(7,.P 29 g)],[(29,.R 2 Qy g)])) (λg=>LF g) Z (T 1 [1,2,7] [29] ([(54,.b ((!i)&&(0<m)))],[]) Z (H 4 Z (λh=>Y 4 54 Z (XW h Z)) λh=>Y 4 54 Z (Yy h Z))<|I 1 Z (pA_ 5 2 Qy Z<|P 2 Z Z)<|P 1 Z Z) λg=>gT_ [7,.ren 29 600] Z<|E 0 Z
def Qdu:O_ Bool:=j_ (KQ d) λb=>bif (!b)then Q true else j_ (KQ i0) λa=>Q (!a)
def Es:O_ ((Int×QBg)⊕(Unit⊕QBg)):=bif (c<(d.length:Int))then j_ (idx d c) λf=>j_ (BS e1 f.1) λa=>j_ (idx d c) λb=>bif (1048576<(Qm (a+b.2)))then Q (i_ (y_ ()))else j_ (idx d c) λg=>j_ (Mm e1 g.1 (Qm (a+b.2))) λh=>Q (y_ ((Qm (c+1)),h))else Q (i_ (i_ e1))
def Qdv:O_ (QBg×Int):=bif d0 then Q (([]:QBg),1)else j_ (chk (([]:QBg).length+d.length<=4294967296)) λ_=>j_ (Qt (λst=>Es i0 st.1 st.2) (0,(([]:QBg)++d))) (Sum.elim (λq=>Q (([]:QBg),2)) (λq=>Q (q,0)))
def CI:O_ (QBg×Int):=j_ (Qdu d i0) (λc=>Qdv d i0 c)
def Qdw {l m}:CT 249 [.M 2 Qy l,.M 2 Qy m] [] (CI l m) (λr=>(.tup [.M 2 Qy r.1,.I r.2])) no_:=
 W 50 func249 Z<|mV_ 8 [0,1] [] (λp=>([(16,.b p)],[])) Z (A 2 WA Z λx=>I 2 Z (M 5 Z)<|A 1 WA Z λs=>M 3 Z) λp=>I 1 Z (gT_ [8,.denil 4 [Q 2]] Z<|E 0 Z)<|pB_ 6 Qy Z<|gT_ [10,.ren 17 605] Z<|F 0 [1] [] (λst=>([(6,.P 605 st.2),(7,.I st.1)],[(605,.R 2 Qy st.2)])) [] [] (λq=>(.ret,([(4,.Y),(5,.I 2)],[]))) [] [] (λq=>(.exit 0,([(6,.P 605 q)],[(605,.R 2 Qy q)]))) Z (λ⟨t,e⟩=>N 5 Z<|I 3 Z (B λi f=>B λj g=>B λk h=>D 5 Z (dz_ [(3,.B (.row (Qy i))),(2,.B (.c true [.o (e.map Qy),.d] (.I j))),(2,.B (.row (Qy k))),(3,.N)]) [] [] [1,6,7,8] [605] Z Z (a3_ (Xw f) ⟨(QlQ Z),(Pr _ g)⟩ (Xw h)) Z<|I 8 Z (L 10 Z)<|J 6 Z λu=>G [3,.frz 605 (e.map Qy) [6,41] []] Z (a2_ (Wb Qw) (Wb Qw))<|oC_ 0 [.d,.d,.d] Qcc Z λv=>gT_ [9,.ren 48 605] Z<|R 0 Z)<|X 2 Z) (λ_=>gT_ [2,.denil 4 [Q 2]] Z<|E 0 Z) (λw=>zF_ 10 605 [4] [] Z<|E 0 Z)
def CY (j:(L_ Jf))(h:LI_)(k:Qh)(e:Int)(c:QMk):O_ ((Int×QMk)⊕(Int⊕QMk)):=
 bif (e<(i.length:Int))then
 j_ (idx i e) λd=>
 bif ((d<0)||((j.length:Int)<=d))then
 Q (i_ (y_ 11))
 else
 j_ (idx j d) λl=>
 j_ (Ml l.Expr h) λf=>
 bif (f.2 != 0)then
 Q (i_ (y_ f.2))
 else
 j_ (idx j d) λb=>
 bif ((b.Place<0)||((k.Places.length:Int)<=b.Place))then
 Q (i_ (y_ 3))
 else
 j_ (idx k.Places b.Place) λm=>
 j_ (Ni k.Colours m.Colour f.1) λa=>
 bif (!a.2)then
 Q (i_ (y_ 8))
 else
 j_ (idx c b.Place) λn=>
 j_ (CI n ([(a.1,1)]:QBg)) λg=>
 bif (g.2 != 0)then
 Q (i_ (y_ g.2))
 else
 j_ (idx c b.Place) λo=>
 Q (y_ ((Qm (e+1)),(c.set b.Place.toNat g.1)))
 else
 Q (i_ (i_ c))
def Et (d:(L_ Jf))(a:LI_)(c:LI_):O_ (QMk×Int):=j_ (chk (decide (0<=(b.Places.length:Int))&&decide ((b.Places.length:Int)<=(b.Places.length:Int))&&decide ((b.Places.length:Int)<=4294967296))) λ_=>j_ (Qt (λst=>CY a d c b st.1 st.2) (0,(List.replicate (b.Places.length:Int).toNat (([]:QBg):QBg)))) (Sum.elim (λq=>Q (([]:L_ QBg),q)) (λq=>Q (q,0)))
def NK {m y e j}:CT 166 [.G Qf m,.M 4 Kj y,.M 1 Qb e,.M 1 Qb j] [] (Et m y e j) (λr=>(.tup [.M 1 Ql r.1,.I r.2])) no_:=
 W 103 func166 Z<|N 11 Z<|kA_ λz=>G [.o (.rows (List.replicate (m.Places.length:Int).toNat [.Y]))] Z ⟨z,Z⟩<|QlZ (AK.denilA (b:=23) [Q 2] Z (Qj2 (f:=Ql) (x:=([]:QBg)) Z))<|G [.S 23 (.own 23 (List.replicate (m.Places.length:Int).toNat (([]:QBg):QBg)).length),10] Z (by simp)<|F 0 [1,2,3,4] [4] (λst=>([(10,.P 23 st.2),(11,.I st.1)],[(23,.R 1 Ql st.2)])) [] [] (λq=>(.ret,([(8,.Y),(9,.I q)],[]))) [] [] (λq=>(.exit 0,([(10,.P 23 q)],[(23,.R 1 Ql q)]))) Z (λ⟨a0,p⟩=>N 5 Z<|I 3 Z (J 8 Z λs=>T 6 [1,2,3,4,10,11,12] [4,23] ([(41,.b ((s<0)||((y.length:Int)<=s)))],[]) Z (H 4 Z (λg=>Y 6 41 Z (YW g Z)) λg=>N 2 Z<|Y 3 41 Z (Xe g Z))<|I 1 Z (L 10 Z)<|J 6 Z λa1=>A 3 Qb9 Z λa2=>I 14 Z (L 11 Z)<|J 6 Z λi=>T 7 [1,2,3,4,10,11,13,15] [4,23] ([(68,.b ((i.Place<0)||((m.Places.length:Int)<=i.Place)))],[]) Z (H 4 Z (λh=>Y 7 68 Z (YW h Z)) λh=>N 3 Z<|Y 3 68 Z (Xe h Z))<|I 1 Z (L 10 Z)<|B λC t=>B λl u=>D 3 Z (dz_ [(5,.B (.row (Xk C))),(3,.B (.C3 (.tup [.I l.1,.b l.2]))),(4,.N)]) [] [] [1,2,3,4,10,11,15,16,17] [4,23] Z Z (a2_ (Xw t) (QhA _ u)) Z<|I 8 Z (L 10 Z)<|vA_ 7 Ql Z λa3=>G [2,.v (.bd []) [] (.sl 2 (([(l.1,1)]:QBg).map Qy))] Z Z<|A 0 Qdw Z λw=>I 14 Z (L 11 Z)<|B λO k=>g3_ [7,.st (Ql O) ((p.set i.Place.toNat w.1).map Ql),8,.S 10 (.own 23 (p.set i.Place.toNat w.1).length)] Z (YZ k Z) ⟨(Xz (Jd k).2),EI Z⟩ (congrArg (λn=>V.own 23 n) (by simp))<|R 0 Z)<|X 2 Z) (λa4=>gT_ [2,.denil 8 [Q 1]] Z<|E 0 Z) (λa5=>zF_ 10 23 [8] [] Z<|E 0 Z)
def UK:O_ (QMk×Int):=j_ (IE b t.Task t.Vars) λd=>bif (d.2 != 0)then Q (([]:L_ QBg),d.2)else j_ (idx b.Tasks t.Task) λe=>j_ (Et b e.Ins t.Ins d.1) λa=>Q (a.1,a.2)
def HK {g h}:CT 87 [.G Qf g,.G QE h] [] (UK g h) (λr=>(.tup [.M 1 Ql r.1,.I r.2])) no_:=
 W 34 func87 Z<|A 15 Tk Z λj=>I 14 Z (gT_ [9,.denil 4 [Q 1]] Z<|E 0 Z)<|B λi f=>B λb e=>D 3 Z (dz_ [(5,.B (.row (QC i))),(5,.B (.C4 (.tup [.M 1 Ql b.1,.I b.2]))),(2,.m .s),(0,.m .s)]) [] [] [4,5] [] Z Z (a2_ (Xw f) (NK _ e)) Z<|E 2 Z
def UL:O_ (QMk×Int):=j_ (IE b t.Task t.Vars) λd=>bif (d.2 != 0)then Q (([]:L_ QBg),d.2)else j_ (idx b.Tasks t.Task) λe=>j_ (Et b e.Outs t.Outs d.1) λa=>Q (a.1,a.2)
def Ps {g h}:CT 88 [.G Qf g,.G QE h] [] (UL g h) (λr=>(.tup [.M 1 Ql r.1,.I r.2])) no_:=
 W 34 func88 Z<|A 15 Tk Z λj=>I 14 Z (gT_ [9,.denil 4 [Q 1]] Z<|E 0 Z)<|B λi f=>B λb e=>D 3 Z (dz_ [(5,.B (.row (QC i))),(5,.B (.C4 (.tup [.M 1 Ql b.1,.I b.2]))),(2,.m .s),(0,.m .s)]) [] [] [4,5] [] Z Z (a2_ (Xw f) (NK _ e)) Z<|E 2 Z
def HL:O_ (Int⊕(Unit⊕Unit)):=
 bif (s<(f.Items.length:Int))then
 j_ (idx f.Items s) λc=>
 j_ (UK l0 c.Mode) λd=>
 j_ (idx f.Items s) λe=>
 j_ (UL l0 e.Mode) λa=>
 bif ((d.2 != 0)||(a.2 != 0))then
 Q (i_ (y_ ()))
 else
 Q (y_ (Qm (s+1)))
 else
 Q (i_ (i_ ()))
def OI:O_ Bool:=
 j_ (OF b f.M) λc=>
 j_ (OG f.Items f.Next) λd=>
 bif ((!c)||((!d)||((f.Next<1)||((1099511627776<f.Next)||((f.Now<0)||(1099511627776<f.Now))))))then
 Q false
 else
 j_ (Qt (λst=>HL f b st) 0) (Sum.elim (λq=>Q false) (λq=>Q true))
def Qjh {u m}:CT 45 [.G Qf u,.G Xv m] [] (OI u m) V.b no_:=
 W 82 func45 Z<|A 12 Qi1 Z λv=>A 9 Qi4 Z λw=>T 5 [2,3] [2,3] ([(46,.b ((!v)||((!w)||((m.Next<1)||((1099511627776<m.Next)||((m.Now<0)||(1099511627776<m.Now)))))))],[]) Z (H 4 Z (λf=>Y 24 46 Z (YW f Z)) λf=>H 4 Z (λh=>Y 20 46 Z (Xe f (YW h Z))) λh=>H 5 Z (λe=>Y 15 46 Z (Xe f (Xe h (YW e Z)))) λe=>H 5 Z (λg=>Y 10 46 Z (Xe f (Xe h (Xe e (YW g Z))))) λg=>H 5 Z (λi=>Y 5 46 Z (Xe f (Xe h (Xe e (Xe g (YW i Z)))))) λi=>Y 5 46 Z (Xe f (Xe h (Xe e (Xe g (Xe i Z))))))<|I 1 Z (E 7 Z)<|F 9 [2,3] [2,3] (λst=>([(7,.I st)],[])) [] [] (λq=>(.ret,([(4,.b false)],[]))) [] [] (λq=>(.exit 0,([],[]))) Z (λx=>N 6 Z<|I 3 Z (B λs n=>B λk o=>D 5 Z (dz_ [(4,.B (.row (Qp s))),(2,.B (.C2 (.tup [.M 1 Ql k.1,.I k.2]))),(4,.N)]) [] [] [2,3,7,9] [2,3] Z Z (a2_ (Xw n) (HK _ o)) Z<|B λt p=>B λl r=>D 2 Z (dz_ [(4,.B (.row (Qp t))),(2,.B (.C2 (.tup [.M 1 Ql l.1,.I l.2]))),(4,.N)]) [] [] [2,3,7,9,11] [2,3] Z Z (a2_ (Xw p) (Ps _ r)) Z<|T 2 [2,3,7] [2,3] ([(81,.b ((k.2 != 0)||(l.2 != 0)))],[]) Z (H 4 Z (λj=>Y 4 81 Z (YW j Z)) λj=>Y 4 81 Z (Xe j Z))<|I 1 Z (L 8 Z)<|R 8 Z)<|X 2 Z) (λ_=>E 2 Z) (λ_=>E 8 Z)
def Yx:O_ (Qz×Qu):=Q (f,(Qu.mk o 0 ([]:LI_)))
def YU {b a}:CT 46 [.G Xv b,.I a] [] (Yx b a) (λr=>(.tup [.G Xv r.1,.G QF r.2])) no_:=
 W 9 func46 Z<|G [11,.v .no [none,none,Q 1] (.agg (QF (Qu.mk a 0 ([]:LI_)))),5] Z Z<|E 0 Z
def Vt:O_ ((Int×LI_)⊕LI_):=bif (e<a)then j_ (chk (i.length+([e]:L_ Int).length<=4294967296)) λ_=>Q (y_ ((Qm (e+1)),(i++([e]:L_ Int))))else Q (i_ i)
def Cp:O_ QLL:=Q d2
def Mn:O_ ((Int×Int×LI_)⊕LI_):=Q (y_ ((Qm (Int.tdiv a 2)),(Qm (e+1)),i))
def SD:O_ QLL:=bif (a==1)then Q ([i]:QLL)else bif (a==2)then j_ (Qt (λst=>bif (st.1<e)then j_ (chk (st.2.length+([([st.1]:L_ Int)]:QLL).length<=4294967296)) λd=>Q (y_ ((Qm (st.1+1)),(st.2++([([st.1]:L_ Int)]:QLL))))else Q (i_ st.2)) (0,([]:QLL))) (λq=>Cp q)else bif (a==3)then j_ (Qt (λst=>bif (st.2<e)then Q (y_ ((Qm (2*st.1)),(Qm (st.2+1))))else Q (i_ st.1)) (1,0)) (λq=>j_ (Qt (λb=>bif (b.1<q)then j_ (Qt (λf=>bif (f.2.1<e)then bif ((Int.tmod f.1 2)==1)then j_ (chk (f.2.2.length+([f.2.1]:L_ Int).length<=4294967296)) λk=>Mn f.1 f.2.1 (f.2.2++([f.2.1]:L_ Int))else Mn f.1 f.2.1 f.2.2 else Q (i_ f.2.2)) (b.1,0,([]:L_ Int))) (λl=>j_ (chk (b.2.length+([l]:QLL).length<=4294967296)) λm=>Q (y_ ((Qm (b.1+1)),(b.2++([l]:QLL)))))else Q (i_ b.2)) (1,([]:QLL))) (λn=>Cp n))else Cp ([]:QLL)
def Cq:O_ QLL:=
 bif ((e<0)||((16<e)||((a==3)&&(4<e))))then
 Q ([]:QLL)
 else
 j_ (Qt (λst=>Vt e st.1 st.2) (0,([]:L_ Int))) (λq=>SD a e q)
def Qgl {c a}:CT 252 [.I c,.I a] [] (Cq c a) (λr=>(.P 600 r)) (λr=>[(600,.R 1 XA r)]):=
 W 89 func252 Z<|T 7 [0,1] [] ([(28,.b ((a<0)||((16<a)||((c==3)&&(4<a)))))],[]) Z (H 4 Z (λd=>Y 12 28 Z (YW d Z)) λd=>H 4 Z (λg=>Y 8 28 Z (Xe d (YW g Z))) λg=>H 3 Z (λh=>Y 5 28 Z (Xe d (Xe g (XW h Z)))) λh=>Y 5 28 Z (Xe d (Xe g (Yy h Z))))<|I 1 Z (aD_ 7 4 600 1 Z<|E 0 Z)<|aD_ 19 6 34 1 Z<|lA_ 0 [0,1,5] [] (λst=>([(6,.P 34 st.2),(7,.I st.1)],[(34,.R 1 Qb st.2)])) [0,1,5] [] (λq=>(.exit 0,([(6,.P 34 q)],[(34,.R 1 Qb q)]))) Z (λ⟨s,t⟩=>I 8 Z (pA_ 7 1 Qb Z<|R 9 Z)<|X 2 Z) λi=>mE_ 2 [] [] (λe:QLL=>([(5,.P 604 e)],[(604,.R 1 XA e)])) (λe=>Cp e) Z (I 12 Z (g2_ [3,.frz 34 (i.map Qb) [6,41] [],1,.O 42 (.arr 1 (([i]:QLL).map XA)),6,.ren 42 600] Z (a2_ (Wb Qw) (Wb Qw)) Z<|E 0 Z)<|I 6 Z (aD_ 6 5 50 1 Z<|lA_ 0 [1] [] (λst=>([(5,.P 50 st.2),(8,.I st.1)],[(50,.R 1 XA st.2)])) [] [] (λq=>(.exit 3,([(5,.P 50 q)],[(50,.R 1 XA q)]))) Z (λ⟨j,u⟩=>I 8 Z (G [7,.v (.bd []) [] (.sl 1 (([j]:L_ Int).map Qb))] Z Z<|pA_ 0 1 XA Z<|R 9 Z)<|X 2 Z) λw=>gT_ [2,.ren 50 604] Z<|P 0 Z Z)<|I 6 Z (lA_ 12 [1,5] [] (λst=>([(9,.I st.1),(10,.I st.2)],[])) [1,5] [] (λq=>(.exit 5,([(9,.I q)],[]))) Z (λ⟨k,x⟩=>I 8 Z (R 16 Z)<|X 2 Z) λl=>aD_ 8 5 84 1 Z<|lA_ 0 [1,9] [] (λst=>([(5,.P 84 st.2),(11,.I st.1)],[(84,.R 1 XA st.2)])) [] [] (λq=>(.exit 7,([(5,.P 84 q)],[(84,.R 1 XA q)]))) Z (λ⟨y,z⟩=>I 8 Z (aD_ 22 12 78 1 Z<|lA_ 0 [1,5,9,11] [84] (λst=>([(12,.P 78 st.2.2),(13,.I st.1),(14,.I st.2.1)],[(78,.R 1 Qb st.2.2)])) [1,5,9,11] [84] (λq=>(.exit 9,([(12,.P 78 q)],[(78,.R 1 Qb q)]))) Z (λ⟨m,o,C⟩=>I 8 Z (mE_ 4 [1,5,9,11,13,14] [84] (λf:LI_=>([(12,.P 78 f)],[(78,.R 1 Qb f)])) (λf=>Mn m o f) Z (G [7] Z (by decide)<|I 0 Z (pA_ 3 1 Qb Z<|P 2 Z Z)<|P 1 Z Z) λf=>G [12] Z (by decide)<|R 0 Z)<|X 2 Z) λp=>G [5,.frz 78 (p.map Qb) [12,85] []] Z (a2_ (Wb Qw) (Wb Qw))<|pA_ 0 1 XA Z<|R 9 Z)<|X 2 Z) λa0=>gT_ [2,.ren 84 604] Z<|P 0 Z Z)<|aD_ 2 5 604 1 Z<|P 0 Z Z) λe=>gT_ [7,.ren 604 600] Z<|E 0 Z
def GG:O_ (Int⊕(Unit⊕Unit)):=bif (f2<(d2.length:Int))then j_ (idx d2 f2) λc=>j_ (Wx c e2) λd=>bif d then Q (i_ (y_ ()))else Q (y_ (Qm (f2+1)))else Q (i_ (i_ ()))
def FN:O_ Bool:=j_ (Cq a e) λd=>j_ (Qt (λst=>GG d i st) 0) (Sum.elim (λq=>Q true) (λq=>Q false))
def Zl {a c e}:CT 168 [.I a,.I c,.M 1 Qb e] [] (FN a c e) V.b no_:=
 W 24 func168 Z<|oC_ 9 [.d,.d] Qgl Z λh=>F 10 [2,7] [11] (λst=>([(8,.I st)],[])) [] [] (λq=>(.ret,([(6,.b true)],[]))) [] [] (λq=>(.exit 0,([],[]))) Z (λi=>I 9 Z (vA_ 9 XA Z λf=>A 1 Gy Z λg=>I 2 Z (L 8 Z)<|R 8 Z)<|X 2 Z) (λ_=>E 2 Z) (λ_=>E 8 Z)
def Zm:O_ Bool:=j_ (KQ d) λc=>bif (!c)then Q true else j_ (KQ i0) λa=>Q (!a)
def GH:O_ (Int⊕(Unit⊕Unit)):=bif (c<(d.length:Int))then j_ (idx d c) λa=>j_ (idx d c) λb=>j_ (BS i0 b.1) λe=>bif (e<a.2)then Q (i_ (y_ ()))else Q (y_ (Qm (c+1)))else Q (i_ (i_ ()))
def Zn:O_ Bool:=bif d0 then Q false else j_ (Qt (λst=>GH d i0 st) 0) (Sum.elim (λq=>Q false) (λq=>Q true))
def FO:O_ Bool:=j_ (Zm d i0) (λc=>Zn d i0 c)
def Zo {k l}:CT 253 [.M 2 Qy k,.M 2 Qy l] [] (FO k l) V.b no_:=
 W 33 func253 Z<|mV_ 7 [0,1] [] (λm=>([(13,.b m)],[])) Z (A 2 WA Z λo=>I 2 Z (M 5 Z)<|A 1 WA Z λp=>M 3 Z) λm=>I 1 Z (E 7 Z)<|F 9 [0,1] [] (λst=>([(5,.I st)],[])) [] [] (λq=>(.ret,([(4,.b false)],[]))) [] [] (λq=>(.exit 0,([],[]))) Z (λn=>N 5 Z<|I 3 Z (B λh e=>B λi f=>B λj g=>D 5 Z (dz_ [(2,.B (.row (Qy h))),(5,.B (.row (Qy i))),(2,.B (.C2 (.I j))),(0,.N)]) [] [] [0,1,5,32] [] Z Z (a3_ (Xw e) (Xw f) (Pr _ g)) Z<|I 1 Z (L 8 Z)<|R 8 Z)<|X 2 Z) (λ_=>E 2 Z) (λ_=>E 8 Z)
def NL:O_ (Int⊕(Unit⊕Unit)):=bif (j<(h.length:Int))then j_ (idx h j) λf=>j_ (idx j0 j) λb=>j_ (FO f b) λc=>bif (!c)then Q (i_ (y_ ()))else Q (y_ (Qm (j+1)))else Q (i_ (i_ ()))
def FP:O_ Bool:=bif ((h.length:Int) != (j0.length:Int))then Q false else j_ (Qt (λst=>NL h j0 st) 0) (Sum.elim (λq=>Q false) (λq=>Q true))
def Zp {j k}:CT 169 [.M 1 Ql j,.M 1 Ql k] [] (FP j k) V.b no_:=
 W 29 func169 Z<|N 9 Z<|N 1 Z<|I 3 Z (E 7 Z)<|F 9 [0,1] [] (λst=>([(5,.I st)],[])) [] [] (λq=>(.ret,([(4,.b false)],[]))) [] [] (λq=>(.exit 0,([],[]))) Z (λm=>N 5 Z<|I 3 Z (B λl g=>B λh e=>B λi f=>D 5 Z [.N,.N,.B (.row (Ql l)),.N,.N,.N,.B (.row (Ql h)),.N,.B (.C2 (.b i)),.N] [] [] [0,1,5,6] [] Z Z (a3_ (Xw g) (Xw e) (Zo _ f)) Z<|I 7 Z (L 8 Z)<|R 8 Z)<|X 2 Z) (λ_=>E 2 Z) (λ_=>E 8 Z)
def BT:O_ (Int⊕(Unit⊕Unit)):=bif (o<(i.length:Int))then j_ (idx i o) λd=>bif (d==e0)then Q (i_ (y_ ()))else Q (y_ (Qm (o+1)))else Q (i_ (i_ ()))
def ZI:O_ Bool:=j_ (Qt (λst=>BT i e0 st) 0) (Sum.elim (λq=>Q true) (λq=>Q false))
def QnS {a c}:CT 170 [.M 1 Qb a,.I c] [] (ZI a c) V.b no_:=
 W 18 func170 Z<|F 12 [0,1] [] (λst=>([(5,.I st)],[])) [] [] (λq=>(.ret,([(4,.b true)],[]))) [] [] (λq=>(.exit 0,([],[]))) Z (λd=>N 5 Z<|I 3 Z (J 8 Z λe=>I 5 Z (L 8 Z)<|R 8 Z)<|X 2 Z) (λ_=>E 2 Z) (λ_=>E 8 Z)
def Vb:O_ LI_:=j_ (Qt (λst=>j_ (bif (st<(i.length:Int))then j_ (idx i st) λe=>Q (decide (e<e0))else Q false) (λf=>bif f then Q (y_ (Qm (st+1)))else Q (i_ st))) 0) (λq=>j_ (chk (decide (0<=q)&&decide (0<=q.toNat)&&decide (q.toNat<=i.length))) λc=>j_ (chk (([]:L_ Int).length+((i.drop 0).take (q.toNat-0)).length<=4294967296)) λc=>j_ (chk ((([]:L_ Int)++((i.drop 0).take (q.toNat-0))).length+([e0]:L_ Int).length<=4294967296)) λc=>j_ (chk (decide (0<=q)&&decide (q.toNat<=i.length)&&decide (i.length<=i.length))) λc=>j_ (chk (((([]:L_ Int)++((i.drop 0).take (q.toNat-0)))++[e0]).length+((i.drop q.toNat).take (i.length-q.toNat)).length<=4294967296)) λc=>Q (((([]:L_ Int)++((i.drop 0).take (q.toNat-0)))++[e0])++((i.drop q.toNat).take (i.length-q.toNat))))
def QmE {c g}:CT 171 [.M 1 Qb c,.I g] [] (Vb c g) (λr=>(.P 600 r)) (λr=>[(600,.R 1 Qb r)]):=
 W 32 func171 Z<|lA_ 12 [0,1] [] (λst=>([(5,.I st)],[])) [0,1] [] (λq=>(.exit 0,([(5,.I q)],[]))) Z (λat_4=>mV_ 2 [0,1,5] [] (λo=>([(17,.b o)],[])) Z (N 3 Z<|I 2 Z (J 2 Z λs=>M 5 Z)<|M 8 Z) λo=>I 1 Z (R 9 Z)<|X 2 Z) λO=>kA_ λd=>kA_ λh=>kA_ λi=>kA_ λe=>kA_ λj=>UF 3 Z [.N,.N,.N,.B (.any (.sl 1 (((c.drop 0).take (O.toNat-0)).map Qb)) none),.m (.app ((([]:L_ Int)++((c.drop 0).take (O.toNat-0))).map Qb) (([]:L_ Int)++((c.drop 0).take (O.toNat-0))).length),.a .no none true,.a (.bd []) (Q ([],.sl 1 (([g]:L_ Int).map Qb))) true,.m (.app (((([]:L_ Int)++((c.drop 0).take (O.toNat-0)))++[g]).map Qb) ((([]:L_ Int)++((c.drop 0).take (O.toNat-0)))++[g]).length),.a .no none true,.a .no none true,.a (.any (.sl 1 (((c.drop O.toNat).take (c.length-O.toNat)).map Qb)) none) none true,.m (.app ((((([]:L_ Int)++((c.drop 0).take (O.toNat-0)))++[g])++((c.drop O.toNat).take (c.length-O.toNat))).map Qb) (((([]:L_ Int)++((c.drop 0).take (O.toNat-0)))++[g])++((c.drop O.toNat).take (c.length-O.toNat))).length),.N] [0,1,5] [] [4] [20] Z Z (λp=>(a6_ (λσ k t _=>Qc.sliceD Z Z (QJ p.n Z) (k _ _ Z) (QA.es Z) DJ.no (DJ.val (k _ _ Z) (Xc (HW d)) Z) (Xc (HX d)) (YC (Xc (Vi d)) (Fb Qw.symm)) Oo) ⟨(Qw (f:=Qb) (l:=([]:L_ Int))),HY h Qw,(KV (f:=Qb) (l:=([]:L_ Int)) (m:=((c.drop 0).take (O.toNat-0)))),Ui (l:=([]:L_ Int)) Qw⟩ Z ⟨Qw,HY i Qw,KV,Ui Qw⟩ (λσ k t _=>Qc.sliceD Z Z (QJ p.n Z) (k _ _ Z) (QA.es Z) (DJ.val (k _ _ Z) (Xc (HW e)) Z) (DJ.none_ Qw) (Xc (HX e)) (Fb Qw.symm) Oo) ⟨Qw,HY j Qw,KV,Ui Qw⟩)) Z<|gT_ [2,.ren 20 600] Z<|E 0 Z
def Pu:O_ (Int⊕(Unit⊕Unit)):=Q (y_ (Qm (a+1)))
def Qbc:O_ Bool:=bif (i3.2==0)then j_ (FP i3.1 d4) λb=>Q b else Q false
def WB (g:Qo)(h:Qh)(i:(LI_×Int))(j:QMk)(a:Int):O_ (Int⊕(Unit⊕Unit)):=bif ((a<(l.Ins.length:Int))&&(l.Join==3))then j_ (ZI g.Ins a) λc=>bif c then Pu a else j_ (Vb g.Ins a) λd=>j_ (Et h l.Ins d i.1) λe=>j_ (Qbc e j) (λf=>bif f then Q (i_ (y_ ()))else Pu a)else Q (i_ (i_ ()))
def Ba:O_ Int:=j_ (UL b t) λa=>Q a.2
def BU:O_ Int:=
 j_ (IE b t.Task t.Vars) λe=>
 bif (e.2 != 0)then
 Q e.2
 else
 j_ (idx b.Tasks t.Task) λc=>
 j_ (Ml c.Guard e.1) λf=>
 bif (f.2 != 0)then
 Q f.2
 else
 bif (f.1==0)then
 Q 9
 else
 j_ (FN c.Join (c.Ins.length:Int) t.Ins) λg=>
 j_ (FN c.Split (c.Outs.length:Int) t.Outs) λa=>
 bif ((!g)||(!a))then
 Q 11
 else
 j_ (UK b t) λd=>
 bif (d.2 != 0)then
 Q d.2
 else
 j_ (FP d.1 h) λi=>
 bif (!i)then
 Q 10
 else
 j_ (Qt (λst=>WB c t b e h st) 0) (Sum.elim (λq=>Q 11) (λq=>Ba b t))
def Pv {o p r}:CT 89 [.G Qf o,.M 1 Ql p,.G QE r] [] (BU o p r) V.I no_:=
 W 124 func89 Z<|A 14 Tk Z λy=>I 14 Z (E 8 Z)<|J 8 Z λs=>A 10 Qb9 Z λz=>I 14 Z (E 8 Z)<|I 9 Z (E 7 Z)<|N 8 Z<|A 2 Zl Z λm=>N 9 Z<|A 2 Zl Z λn=>T 5 [1,3,5,7,9] [3,5,9] ([(68,.b ((!m)||(!n)))],[]) Z (H 4 Z (λe=>Y 4 68 Z (YW e Z)) λe=>Y 4 68 Z (Xe e Z))<|I 1 Z (E 7 Z)<|A 6 HK Z λt=>I 14 Z (E 8 Z)<|A 7 Zp Z λu=>I 3 Z (E 7 Z)<|F 9 [1,3,5,7,9] [3,5,9] (λst=>([(14,.I st)],[])) [] [] (λq=>(.ret,([(6,.I 11)],[]))) [3,5] [3,5] (λq=>(.exit 0,([],[]))) Z (λg=>T 2 [1,3,5,7,9,14] [3,5,9] ([(91,.b ((g<(s.Ins.length:Int))&&(s.Join==3)))],[]) Z (N 4 Z<|H 2 Z (λf=>Y 5 91 Z (XW f Z)) λf=>Y 5 91 Z (Yy f Z))<|I 1 Z (mU_ 2 [1,3,5,7,9,14] [3,5,9] ([],[]) (Pu g) Z (A 7 QnS Z λv=>I 2 Z (uA_ 3 Z Z)<|B λh i=>B λj k=>D 3 Z (dz_ [(6,.B (.cd false [.d,.d] 1 (h.map Qb) h.length)),(1,.B (.C4 (.tup [.M 1 Ql j.1,.I j.2]))),(4,.N)]) [] [] [1,3,5,7,9,14,15,16] [3,5,9] Z Z (a2_ ⟨(QmE _ i),Qw⟩ (NK _ k)) Z<|mV_ 2 [1,3,5,7,9,14] [3,5,9] (λl=>([(116,.b l)],[])) Z (I 4 Z (A 2 Zp Z λw=>M 2 Z)<|M 5 Z) λl=>I 1 Z (L 8 Z)<|uA_ 2 Z Z)<|R 5 Z)<|X 2 Z) (λ_=>E 2 Z) (λ_=>A 6 Ps Z λx=>E 13 Z)
def BV (a:Int):O_ Int:=j_ (BU b h t) λe=>bif (e != 0)then Q 0 else j_ (idx b.Tasks t.Task) λf=>bif (f.Join != 3)then Q 1 else none
def Qjk {b c d a}:CT 90 [.G Qf b,.M 1 Ql c,.G QE d,.I a] [] (BV b c d a) V.I no_:=
 W 66 func90 Z<|A 13 Pv Z λe=>I 3 Z (E 7 Z)<|J 9 Z λf=>I 5 Z (E 7 Z)<|nO_
def Bb:O_ (Int×QZ):=
 bif ((d1.1<1)||((d1.2.1<d1.1)||((16<d1.2.1)||((d1.2.2<1)||((d1.2.1<d1.2.2)||((a<d1.1)||(d1.2.1<a)))))))then
 Q (1,(QZ.mk 0 0 0 0 0))
 else
 Q (0,(QZ.mk d1.2.1 d1.2.2 a 0 0))
def OJ:O_ (Int×QZ):=bif ((d1.1==0)&&((d1.2.1==0)&&(d1.2.2==0)))then Bb f3 (1,1,1)else Bb f3 d1
def Qjl {c j}:CT 91 [.G ZT c,.I j] [] (OJ c j) (λr=>(.tup [.G XK r.2,.I r.1])) no_:=
 W 54 func91 Z<|mE_ 7 [1,2,4] [4] (λa:(Int×Int×Int)=>([],[(2,.W ZT a)])) (λa=>Bb j a) Z (K [4,.o (.any (.b ((c.1==0)&&((c.2.1==0)&&(c.2.2==0)))) none),2] Z (λl=>(a1_ (λσ k m _=>Qc.eqAgg Z Z (QJ l.n Z) (k _ _ Z) (k _ _ Z) Z Z (QqE _ _ _ _ _ _))))<|I 0 Z (P 4 Z Z)<|P 1 Z Z) λa=>T 23 [1,4,7,8] [4] ([(48,.b ((a.1<1)||((a.2.1<a.1)||((16<a.2.1)||((a.2.2<1)||((a.2.1<a.2.2)||((j<a.1)||(a.2.1<j))))))))],[]) Z (H 4 Z (λf=>Y 28 48 Z (YW f Z)) λf=>H 5 Z (λd=>Y 23 48 Z (Xe f (YW d Z))) λd=>H 4 Z (λe=>Y 19 48 Z (Xe f (Xe d (YW e Z)))) λe=>H 4 Z (λg=>Y 15 48 Z (Xe f (Xe d (Xe e (YW g Z))))) λg=>H 5 Z (λh=>Y 10 48 Z (Xe f (Xe d (Xe e (Xe g (YW h Z)))))) λh=>H 5 Z (λi=>Y 5 48 Z (Xe f (Xe d (Xe e (Xe g (Xe h (YW i Z))))))) λi=>Y 5 48 Z (Xe f (Xe d (Xe e (Xe g (Xe h (Xe i Z)))))))<|I 1 Z (E 9 Z)<|E 13 Z
def Qcd:O_ Bool:=j_ (KQ d) λb=>bif (!b)then Q true else j_ (KQ i0) λa=>Q (!a)
def Uv:O_ ((Int×QBg)⊕QBg):=bif (c<(d.length:Int))then j_ (idx d c) λa=>j_ (idx d c) λe=>j_ (BS i0 e.1) λf=>j_ (idx d c) λg=>j_ (Mm e1 a.1 (Qm (f-g.2))) λh=>Q (y_ ((Qm (c+1)),h))else Q (i_ e1)
def Qce:O_ (QBg×Int):=bif d0 then Q (([]:QBg),1)else j_ (FO d i0) λb=>bif (!b)then Q (([]:QBg),10)else j_ (chk (([]:QBg).length+i0.length<=4294967296)) λ_=>j_ (Qt (λst=>Uv d i0 st.1 st.2) (0,(([]:QBg)++i0))) (λq=>Q (q,0))
def FQ:O_ (QBg×Int):=j_ (Qcd d i0) (λc=>Qce i0 d c)
def QkV {t u}:CT 257 [.M 2 Qy t,.M 2 Qy u] [] (FQ t u) (λr=>(.tup [.M 2 Qy r.1,.I r.2])) no_:=
 W 50 func257 Z<|mV_ 8 [0,1] [] (λv=>([(15,.b v)],[])) Z (A 2 WA Z λO=>I 2 Z (M 5 Z)<|A 1 WA Z λw=>M 3 Z) λv=>I 1 Z (gT_ [8,.denil 4 [Q 2]] Z<|E 0 Z)<|A 7 Zo Z λx=>I 3 Z (gT_ [8,.denil 4 [Q 2]] Z<|E 0 Z)<|pB_ 6 Qy Z<|gT_ [10,.ren 20 605] Z<|lA_ 0 [0,1] [] (λst=>([(6,.P 605 st.2),(7,.I st.1)],[(605,.R 2 Qy st.2)])) [] [] (λq=>(.exit 0,([(6,.P 605 q)],[(605,.R 2 Qy q)]))) Z (λ⟨y,z⟩=>N 5 Z<|I 3 Z (zF_ 4 605 [6] [] Z<|B λk e=>B λl f=>B λo g=>B λp h=>B λi j=>D 0 Z (dz_ [(3,.B (.row (Qy k))),(5,.B (.row (Qy l))),(2,.B (.C2 (.I o))),(2,.B (.row (Qy p))),(3,.B (.co false [.d,.d,.d] 2 (i.map Qy) i.length)),(0,.m .s)]) [] [] [0,1,6,7] [48] Z Z (a5_ (Xw e) (Xw f) (Pr _ g) (Xw h) ⟨(Qcc _ j),Qw,.inl Z⟩) Z<|gT_ [7,.ren 48 605] Z<|R 0 Z)<|X 2 Z) λC=>zF_ 10 605 [4] [] Z<|E 0 Z
def LG:O_ ((Int×QMk)⊕(Int⊕QMk)):=Q (y_ ((Qm (a+1)),h))
def Uw (a:QMk):O_ ((Int×QMk)⊕(Int⊕QMk)):=bif ((s<(h.length:Int))&&(s<(j0.length:Int)))then bif d0 then j_ (idx h s) λd=>j_ (idx j0 s) λi=>j_ (CI d i) λb=>bif (b.2 != 0)then Q (i_ (y_ b.2))else j_ (chk (a.length+([b.1]:L_ QBg).length<=4294967296)) λ_=>LG s (a++([b.1]:L_ QBg))else j_ (idx h s) λj=>j_ (idx j0 s) λk=>j_ (FQ j k) λc=>bif (c.2 != 0)then Q (i_ (y_ c.2))else j_ (chk (a.length+([c.1]:L_ QBg).length<=4294967296)) λ_=>LG s (a++([c.1]:L_ QBg))else Q (i_ (i_ a))
def GB:O_ (QMk×Int):=j_ (Qt (λst=>Uw h j0 d0 st.1 st.2) (0,([]:L_ QBg))) (Sum.elim (λq=>Q (([]:L_ QBg),q)) (λq=>Q (q,0)))
def Sb {s t g}:CT 174 [.M 1 Ql s,.M 1 Ql t,.b g] [] (GB s t g) (λr=>(.tup [.M 1 Ql r.1,.I r.2])) no_:=
 W 66 func174 Z<|aD_ 18 8 606 1 Z<|F 0 [0,1,2] [] (λst=>([(8,.P 606 st.2),(9,.I st.1)],[(606,.R 1 Ql st.2)])) [] [] (λq=>(.ret,([(6,.Y),(7,.I q)],[]))) [] [] (λq=>(.exit 0,([(8,.P 606 q)],[(606,.R 1 Ql q)]))) Z (λ⟨u,z⟩=>T 2 [0,1,2,8,9] [606] ([(23,.b ((u<(s.length:Int))&&(u<(t.length:Int))))],[]) Z (N 3 Z<|H 2 Z (λe=>N 2 Z<|Y 3 23 Z (XW e Z)) λe=>Y 6 23 Z (Yy e Z))<|I 1 Z (mE_ 2 [0,1,2,9] [] (λf:QMk=>([(8,.P 606 f)],[(606,.R 1 Ql f)])) (λf=>LG u f) Z (I 7 Z (B λv h=>B λw i=>B λj k=>D 1 Z (dz_ [(2,.B (.row (Ql v))),(3,.B (.row (Ql w))),(1,.B (.C2 (.tup [.M 2 Qy j.1,.I j.2]))),(4,.N)]) [] [] [0,1,2,8,9,10,11] [606] Z Z (a3_ (Xw h) (Xw i) (Qdw _ k)) Z<|I 8 Z (L 12 Z)<|pA_ 6 1 Ql Z<|P 6 Z Z)<|B λx l=>B λy m=>B λo p=>D 3 Z (dz_ [(2,.B (.row (Ql x))),(3,.B (.row (Ql y))),(1,.B (.C2 (.tup [.M 2 Qy o.1,.I o.2]))),(4,.N)]) [] [] [0,1,2,8,9,12,13] [606] Z Z (a3_ (Xw l) (Xw m) (QkV _ p)) Z<|I 8 Z (L 11 Z)<|pA_ 5 1 Ql Z<|P 3 Z Z) λf=>R 5 Z)<|X 2 Z) (λC=>gT_ [2,.denil 6 [Q 1]] Z<|E 0 Z) (λO=>zF_ 10 606 [6] [] Z<|E 0 Z)
def Sc:O_ (QMk×Int):=j_ (BU b h t) λf=>bif (f != 0)then Q (([]:L_ QBg),f)else j_ (UK b t) λc=>j_ (GB h c.1 false) λa=>Q (a.1,a.2)
def QkY {a b c}:CT 92 [.G Qf a,.M 1 Ql b,.G QE c] [] (Sc a b c) (λr=>(.tup [.M 1 Ql r.1,.I r.2])) no_:=
 W 29 func92 Z<|A 13 Pv Z λf=>I 10 Z (gT_ [9,.denil 6 [Q 1]] Z<|E 0 Z)<|A 6 HK Z λd=>A 11 Sb Z λe=>E 7 Z
def Pw:O_ Qo:=j_ (chk (([]:L_ Int).length+t.Vars.length<=4294967296)) λ_=>j_ (chk (([]:L_ Int).length+t.Ins.length<=4294967296)) λ_=>j_ (chk (([]:L_ Int).length+t.Outs.length<=4294967296)) λ_=>Q (Qo.mk t.Task (([]:L_ Int)++t.Vars) (([]:L_ Int)++t.Ins) (([]:L_ Int)++t.Outs))
def Qfm {d}:CT 258 [.G QE d] [] (Pw d) (λr=>(.G QE r)) no_:=
 W 18 func258 Z<|kA_ λf=>kA_ λg=>kA_ λh=>UF 7 Z [.N,.N,.B (.any .e0 none),.N,.N,.B (.any (.M 1 Qb d.Vars) none),.B (.any .e0 none),.N,.N,.B (.any (.M 1 Qb d.Ins) none),.B (.any .e0 none),.N,.N,.B (.any (.M 1 Qb d.Outs) none),.N,.m .s] [] [] [2] [2] Z Z (λc=>(a6_ (λσ b e _=>Qc.bld0 Z Z (QJ c.n Z) (QA.es Z) (QA.zv Z)) (λσ b e _=>Qc.appE0 Z Z (QJ c.n Z) (b _ _ Z) (QA.es Z) (QA.es Z) (QA.zv Z) Z (by decide) (by decide) (by decide) (by rw[EA];simpa using f) (b _ _ Z)) (λσ b e _=>Qc.bld0 Z Z (QJ c.n Z) (QA.es Z) (QA.zv Z)) (λσ b e _=>Qc.appE0 Z Z (QJ c.n Z) (b _ _ Z) (QA.es Z) (QA.es Z) (QA.zv Z) Z (by decide) (by decide) (by decide) (by rw[EA];simpa using g) (b _ _ Z)) (λσ b e _=>Qc.bld0 Z Z (QJ c.n Z) (QA.es Z) (QA.zv Z)) (λσ b e _=>Qc.appE0 Z Z (QJ c.n Z) (b _ _ Z) (QA.es Z) (QA.es Z) (QA.zv Z) Z (by decide) (by decide) (by decide) (by rw[EA];simpa using h) (b _ _ Z)))) Z<|E 2 Z
def Bc:O_ Qg:=j_ (Pw q.Mode) λb=>Q (Qg.mk q.Id b q.Batch q.Until)
def SE {a}:CT 176 [.G Qp a] [] (Bc a) (λr=>(.G Qp r)) no_:=
 W 8 func176 Z<|A 10 Qfm Z λb=>E 11 Z
def Sd:O_ ((Int×(L_ Qg))⊕(L_ Qg)):=Q (y_ ((Qm (a+1)),m))
def Ux (a:(L_ Qg)):O_ ((Int×(L_ Qg))⊕(L_ Qg)):=bif (g<(m.length:Int))then j_ (idx m g) λf=>bif (f.Id != c)then j_ (idx m g) λd=>j_ (Bc d) λb=>j_ (chk (a.length+([b]:L_ Qg).length<=4294967296)) λ_=>Sd g (a++([b]:L_ Qg))else Sd g a else Q (i_ a)
def FR:O_ (L_ Qg):=j_ (Qt (λst=>Ux m c st.1 st.2) (0,([]:L_ Qg))) (λq=>Q q)
def Qcf {c b}:CT 175 [.M 11 Qp c,.I b] [] (FR c b) (λr=>(.P 600 r)) (λr=>[(600,.R 11 Qp r)]):=
 W 29 func175 Z<|aD_ 17 5 20 11 Z<|lA_ 0 [0,1] [] (λst=>([(5,.P 20 st.2),(6,.I st.1)],[(20,.R 11 Qp st.2)])) [] [] (λq=>(.exit 0,([(5,.P 20 q)],[(20,.R 11 Qp q)]))) Z (λ⟨d,h⟩=>N 5 Z<|I 3 Z (mE_ 2 [0,1,6] [] (λa:(L_ Qg)=>([(5,.P 20 a)],[(20,.R 11 Qp a)])) (λa=>Sd d a) Z (J 5 Z λe=>I 6 Z (J 4 Z λf=>A 1 SE Z λg=>pA_ 0 11 Qp Z<|P 3 Z Z)<|P 2 Z Z) λa=>R 5 Z)<|X 2 Z) λi=>gT_ [9,.ren 20 600] Z<|E 0 Z
def Tn:O_ Bool:=bif (a<(m.length:Int))then j_ (idx m a) λb=>Q (decide (b.Id<=q.Id))else Q false
def Tp:O_ (Int⊕Int):=bif r then Q (y_ (Qm (a+1)))else Q (i_ a)
def AC:O_ (Int⊕Int):=j_ (Tn j1 m q) (λd=>Tp j1 d)
def Qdx:O_ (L_ Qg):=j_ (chk (decide (0<=j1)&&decide (0<=j1.toNat)&&decide (j1.toNat<=m.length))) λ_=>j_ (chk (([]:L_ Qg).length+((m.drop 0).take (j1.toNat-0)).length<=4294967296)) λ_=>j_ (Bc q) λc=>j_ (chk ((([]:L_ Qg)++((m.drop 0).take (j1.toNat-0))).length+([c]:L_ Qg).length<=4294967296)) λ_=>j_ (chk (decide (0<=j1)&&decide (j1.toNat<=m.length)&&decide (m.length<=m.length))) λ_=>j_ (chk (((([]:L_ Qg)++((m.drop 0).take (j1.toNat-0)))++[c]).length+((m.drop j1.toNat).take (m.length-j1.toNat)).length<=4294967296)) λ_=>Q (((([]:L_ Qg)++((m.drop 0).take (j1.toNat-0)))++[c])++((m.drop j1.toNat).take (m.length-j1.toNat)))
def IF:O_ (L_ Qg):=j_ (FR m q.Id) λb=>j_ (Qt (λst=>AC b q st) 0) (λa=>Qdx b q a)
def Qdy {y w}:CT 93 [.M 11 Qp y,.G Qp w] [] (IF y w) (λr=>(.P 600 r)) (λr=>[(600,.R 11 Qp r)]):=
 W 40 func93 Z<|oC_ 11 [.d,.d] Qcf Z λe=>lA_ 10 [3,5] [3,10] (λst=>([(6,.I st)],[])) [3,5] [3,10] (λq=>(.exit 0,([(6,.I q)],[]))) Z (λk5=>mV_ 2 [3,5,6] [3,10] (λz=>([(24,.b z)],[])) Z (jF_ (λi=>B λx k=>D 0 Z [.N,.N,.N,.N,.E (.b true),.N,.N,.N,.N,.B (.row (Qp x)),.N,.N,.N,.N] [] [] [3,5,6,24] [3,10] Z Z ⟨⟨(tc_ i),(YZ k Z)⟩,(Xz (Jd k).2)⟩ Z<|M 0 Z) λi=>D 0 Z (dz_ [(4,.E (.b false)),(8,.N)]) [] [] [3,5,6,24] [3,10] Z Z (tc_ i) Z<|M 0 Z) λz=>I 1 Z (R 9 Z)<|X 2 Z) λg=>zF_ 3 10 [5] [] Z<|kA_ λj=>kA_ λp=>B λh s=>kA_ λt=>kA_ λo=>kA_ λu=>UF 0 Z [.N,.N,.N,.B (.any (.sl 11 (((e.drop 0).take (g.toNat-0)).map Qp)) none),.m (.app ((([]:L_ Qg)++((e.drop 0).take (g.toNat-0))).map Qp) (([]:L_ Qg)++((e.drop 0).take (g.toNat-0))).length),.a .no (Q ([],.G Qp w)) true,.B (.C1 (.G Qp h)),.a (.bd []) (Q ([],.sl 11 (([h]:L_ Qg).map Qp))) false,.m (.app (((([]:L_ Qg)++((e.drop 0).take (g.toNat-0)))++[h]).map Qp) ((([]:L_ Qg)++((e.drop 0).take (g.toNat-0)))++[h]).length),.a .no none true,.a .no none true,.a (.any (.sl 11 (((e.drop g.toNat).take (e.length-g.toNat)).map Qp)) none) none true,.m (.app ((((([]:L_ Qg)++((e.drop 0).take (g.toNat-0)))++[h])++((e.drop g.toNat).take (e.length-g.toNat))).map Qp) (((([]:L_ Qg)++((e.drop 0).take (g.toNat-0)))++[h])++((e.drop g.toNat).take (e.length-g.toNat))).length),.N] [3,5,6] [3] [4] [27] Z Z (λC=>(a8_ (λσ v O _=>Qc.sliceD Z Z (QJ C.n Z) (v _ _ Z) (QA.es Z) DJ.no (DJ.val (v _ _ Z) (Xc (HW j)) Z) (Xc (HX j)) (YC (Xc (Vi j)) (Fb Qw.symm)) Oo) ⟨(Qw (f:=Qp) (l:=([]:L_ Qg))),HY p Qw,(KV (f:=Qp) (l:=([]:L_ Qg)) (m:=((e.drop 0).take (g.toNat-0)))),Ui (l:=([]:L_ Qg)) Qw⟩ Z (SE _ s) Z ⟨Qw,HY t Qw,KV,Ui Qw⟩ (λσ v O _=>Qc.sliceD Z Z (QJ C.n Z) (v _ _ Z) (QA.es Z) (DJ.val (v _ _ Z) (Xc (HW o)) Z) (DJ.none_ Qw) (Xc (HX o)) (Fb Qw.symm) Oo) ⟨Qw,HY u Qw,KV,Ui Qw⟩)) Z<|gT_ [2,.ren 27 600] Z<|E 0 Z
def Bd (c:Qg):O_ (Qz×Qu):=j_ (IF f.Items c) λd=>Q ((Qz.mk i3.1 d (Qm (f.Next+1)) f.Now),(Qu.mk 0 f.Next ([]:LI_)))
def OK:O_ (Qz×Qu):=j_ (BU b f.M g0.Mode) λm=>bif (m != 0)then j_ (Yx f m) λe=>Q (e.1,e.2)else j_ (BV b f.M g0.Mode 64) λl=>bif (l != 1)then j_ (Yx f 13) λa=>Q (a.1,a.2)else j_ (idx b.Tasks g0.Mode.Task) λd=>j_ (OJ d.Many g0.Num) λc=>bif (c.1 != 0)then j_ (Yx f c.1) λg=>Q (g.1,g.2)else bif (64<=(f.Items.length:Int))then j_ (Yx f 2) λh=>Q (h.1,h.2)else bif (f.Next==1099511627776)then j_ (Yx f 1) λi=>Q (i.1,i.2)else j_ (Sc b f.M g0.Mode) λj=>bif (0<d.After)then Bd f j (Qg.mk f.Next g0.Mode c.2 (Qm (f.Now+d.After)))else Bd f j (Qg.mk f.Next g0.Mode c.2 0)
def Qjm {f b g}:CT 47 [.G Qf f,.G Xv b,.G YF g] [] (OK f b g) (λr=>(.tup [.G Xv r.1,.G QF r.2])) no_:=
 W 116 func47 Z<|A 16 Pv Z λq=>I 10 Z (A 4 YU Z λh=>E 8 Z)<|A 10 Qjk Z λi=>I 3 Z (A 3 YU Z λj=>E 8 Z)<|J 9 Z λk=>A 11 Qjl Z λl=>I 15 Z (A 4 YU Z λm=>E 8 Z)<|N 7 Z<|I 3 Z (A 3 YU Z λo=>E 8 Z)<|I 10 Z (A 3 YU Z λp=>E 8 Z)<|A 9 QkY Z λc=>mE_ 19 [4,6,7,11,13] [4,6,7] (λa:Qg=>([],[(13,.W Qp a)])) (λa=>Bd b c a) Z (I 7 Z (P 9 Z Z)<|P 1 Z Z) λa=>oC_ 19 [.d,.d] Qdy Z λe=>g2_ [17,.v .no [none,none,Q 1] (.agg (QF (Qu.mk 0 b.Next ([]:LI_)))),5,.frz 107 (e.map Qp) [] [6]] Z Z (a1_ ⟨(Wb Qw),U⟩)<|E 0 Z
def Uy:O_ (Int⊕(Int⊕Unit)):=bif (g<(m.length:Int))then j_ (idx m g) λd=>bif (d.Id==c)then Q (i_ (y_ g))else Q (y_ (Qm (g+1)))else Q (i_ (i_ ()))
def Be:O_ Int:=j_ (Qt (λst=>Uy m c st) 0) (Sum.elim (λq=>Q q) (λq=>Q (-1)))
def Se {b a}:CT 94 [.M 11 Qp b,.I a] [] (Be b a) V.I no_:=
 W 20 func94 Z<|F 12 [0,1] [] (λst=>([(5,.I st)],[])) [] [] (λq=>(.ret,([(4,.I q)],[]))) [] [] (λq=>(.exit 0,([],[]))) Z (λc=>N 5 Z<|I 3 Z (J 8 Z λd=>I 6 Z (L 9 Z)<|R 8 Z)<|X 2 Z) (λe=>E 2 Z) (λ_=>E 8 Z)
def DA:O_ (Int×QZ):=j_ (GM k) λe=>bif (!e)then Q (1,k)else j_ (FJ k) λd=>bif d then Q (12,k)else bif ((0<c)&&((Qm ((Qm (k.Open+k.Done))+k.Failed))==k.Most))then Q (2,k)else Q (0,(QZ.mk k.Most k.Enough (Qm (k.Open+c)) (Qm (k.Done+g)) (Qm (k.Failed+j))))
def Sf {e open_2 c a}:CT 177 [.G XK e,.I open_2,.I c,.I a] [] (DA e open_2 c a) (λr=>(.tup [.G XK r.2,.I r.1])) no_:=
 W 49 func177 Z<|A 11 HI Z λg=>I 3 Z (E 9 Z)<|A 6 RY Z λf=>I 2 Z (E 9 Z)<|T 4 [1,2,3,4,8] [4,8] ([(31,.b ((0<open_2)&&((Qm ((Qm (e.Open+e.Done))+e.Failed))==e.Most)))],[]) Z (H 4 Z (λd=>Y 13 31 Z (XW d Z)) λd=>Y 13 31 Z (Yy d Z))<|I 1 Z (E 9 Z)<|E 40 Z
def Vc:O_ (Int×QZ):=j_ (DA k 1 0 0) λa=>Q (a.1,a.2)
def QmF {a}:CT 95 [.G XK a] [] (Vc a) (λr=>(.tup [.G XK r.2,.I r.1])) no_:=
 W 8 func95 Z<|A 10 Sf Z λb=>E 7 Z
def Sg:O_ (Int×QZ):=j_ (DA k (-1) 1 0) λa=>Q (a.1,a.2)
def Qk2 {a}:CT 96 [.G XK a] [] (Sg a) (λr=>(.tup [.G XK r.2,.I r.1])) no_:=
 W 8 func96 Z<|A 10 Sf Z λb=>E 7 Z
def Sh:O_ (Int×QZ):=j_ (DA k (-1) 0 1) λa=>Q (a.1,a.2)
def Qk3 {a}:CT 97 [.G XK a] [] (Sh a) (λr=>(.tup [.G XK r.2,.I r.1])) no_:=
 W 8 func97 Z<|A 10 Sf Z λb=>E 7 Z
def Qcg:O_ Bool:=j_ (GM k) λb=>bif b then Q (decide (k.Enough<=k.Done))else Q false
def Si:O_ Bool:=j_ (Qcg k) (λb=>Q b)
def Qk5 {a}:CT 99 [.G XK a] [] (Si a) V.b no_:=
 W 12 func99 Z<|mV_ 7 [] [] (λc=>([(2,.b c)],[])) Z (A 2 HI Z λd=>I 1 Z (M 8 Z)<|M 8 Z) λc=>E 2 Z
def Sj:O_ (QMk×Int):=j_ (UK b t) λc=>bif (c.2 != 0)then Q (([]:L_ QBg),c.2)else j_ (GB h c.1 true) λa=>Q (a.1,a.2)
def Qk6 {a b c}:CT 178 [.G Qf a,.M 1 Ql b,.G QE c] [] (Sj a b c) (λr=>(.tup [.M 1 Ql r.1,.I r.2])) no_:=
 W 24 func178 Z<|A 12 HK Z λe=>I 14 Z (gT_ [9,.denil 6 [Q 1]] Z<|E 0 Z)<|A 6 Sb Z λd=>E 7 Z
def Sk:O_ ((Int×QMk)⊕QMk):=Q (y_ ((Qm (a+1)),h))
def Qch:O_ Bool:=j_ (idx l.Cancel p) λd=>bif (0<=d)then j_ (idx l.Cancel p) λe=>Q (decide (e<(c1.length:Int)))else Q false
def Qci:O_ ((Int×QMk)⊕QMk):=bif d0 then j_ (idx l.Cancel p) λc=>j_ (idx c1 c) λf=>Sk p (c1.set c.toNat ([]:QBg))else Sk p c1
def LH:O_ ((Int×QMk)⊕QMk):=bif (p<(l.Cancel.length:Int))then j_ (Qch l p c1) (λd=>Qci l p c1 d)else Q (i_ c1)
def Qcj:O_ (QMk×Int):=j_ (GB d4 i3.1 true) λa=>Q (a.1,a.2)
def Sl:O_ (QMk×Int):=j_ (UL b t) λa=>bif (a.2 != 0)then Q (([]:L_ QBg),a.2)else j_ (chk (([]:L_ QBg).length+h.length<=4294967296)) λ_=>j_ (idx b.Tasks t.Task) λc=>j_ (Qt (λst=>LH c st.1 st.2) (0,(([]:L_ QBg)++h))) (λq=>Qcj a q)
def Qk7 {j k l}:CT 179 [.G Qf j,.M 1 Ql k,.G QE l] [] (Sl j k l) (λr=>(.tup [.M 1 Ql r.1,.I r.2])) no_:=
 W 63 func179 Z<|A 12 Ps Z λt=>I 14 Z (gT_ [9,.denil 6 [Q 1]] Z<|E 0 Z)<|pB_ 6 Ql Z<|J 9 Z λm=>lA_ 12 [8,11] [] (λst=>([(10,.P 22 st.2),(12,.I st.1)],[(22,.R 1 Ql st.2)])) [8] [] (λq=>(.exit 0,([(10,.P 22 q)],[(22,.R 1 Ql q)]))) Z (λ⟨g,d⟩=>N 5 Z<|I 3 Z (mE_ 2 [8,11,12] [] (λa:QMk=>([(10,.P 22 a)],[(22,.R 1 Ql a)])) (λa=>Sk g a) Z (mV_ 2 [8,10,11,12] [22] (λe=>([(51,.b e)],[])) Z (J 3 Z λo=>I 3 Z (J 2 Z λp=>M 6 Z)<|M 9 Z) λe=>I 1 Z (J 4 Z λf=>B λh c=>g3_ [2,.x (λσ=>σ.set 22 (.arr 1 ((d.set f.toNat ([]:QBg)).map Ql))),2,.S 10 (.own 22 (d.set f.toNat ([]:QBg)).length)] Z (YZ c Z) (Qc.storeNil (zz:=2) (r:=Ql h) Z Z Z Z (Xz (Jd c).2) Z (QA.sz Z) Z (EI Z)) (congrArg (λn=>V.own 22 n) (by simp))<|P 0 Z Z)<|P 2 Z Z) λa=>R 5 Z)<|X 2 Z) λi=>G [6,.frz 22 (i.map Ql) [10,58] []] Z (a2_ (Wb Qw) (Wb Qw))<|A 0 Sb Z λs=>E 7 Z
def CZ:O_ (Int×Qz):=bif (f3 != 0)then Q (f3,f)else j_ (FR f.Items q.Id) λd=>Q (0,(Qz.mk c1 d f.Next f.Now))
def FT:O_ (Int×Qz):=j_ (Sj b f.M q.Mode) λa=>bif d0 then j_ (Sl b f.M q.Mode) λc=>CZ f q c.1 c.2 else CZ f q a.1 a.2
def Zq {i f g c}:CT 100 [.G Qf i,.G Xv f,.G Qp g,.b c] [] (FT i f g c) (λr=>(.tup [.G Xv r.2,.I r.1])) no_:=
 W 44 func100 Z<|A 16 Qk6 Z λk=>mF_ 7 [5,6,8] [5,6,8] (λ(e:QMk) (a:Int)=>([(10,.M 1 Ql e),(11,.I a)],[])) (λe a=>CZ f g e a) Z (I 5 Z (A 6 Qk7 Z λj=>fA_ 6 Z Z)<|fA_ 1 Z Z) λe a=>I 7 Z (E 10 Z)<|oC_ 15 [.d,.d] Qcf Z λh=>G [12,.frz 41 (h.map Qp) [] [8]] Z (a1_ ⟨(Wb Qw),U⟩)<|E 0 Z
def Dl (a:Bool)(b:Bool)(e:Qg):O_ (Qz×Qu):=bif (!a)then j_ (IF f.Items e) λh=>Q ((Qz.mk f.M h f.Next f.Now),(Qu.mk 0 g0.Id ([]:LI_)))else j_ (FT l0 f e b) λc=>bif (c.1 != 0)then j_ (Yx f c.1) λd=>Q (d.1,d.2)else Q (c.2,(Qu.mk 0 g0.Id ([g0.Id]:L_ Int)))
def Uz (b:Qg)(a:Int)(c:QZ):O_ (Qz×Qu):=bif (a != 0)then j_ (Yx f a) λd=>Q (d.1,d.2)else j_ (FJ c) λe=>j_ (Si c) λg=>Dl f g0 l0 e g (Qg.mk b.Id b.Mode c b.Until)
def WC:O_ (Qz×Qu):=j_ (Be f.Items g0.Id) λj=>bif (j<0)then bif ((1<=g0.Id)&&(g0.Id<f.Next))then j_ (Yx f 12) λd=>Q (d.1,d.2)else j_ (Yx f 3) λe=>Q (e.1,e.2)else j_ (idx f.Items j) λa=>bif (g0.Do != 5)then bif (g0.Do==4)then j_ (Vc a.Batch) λc=>Uz f g0 b a c.1 c.2 else bif (g0.Do==2)then j_ (Sg a.Batch) λg=>Uz f g0 b a g.1 g.2 else j_ (Sh a.Batch) λh=>Uz f g0 b a h.1 h.2 else Dl f g0 b true false a
def Qk8 {l k j}:CT 48 [.G Qf l,.G Xv k,.G YF j] [] (WC l k j) (λr=>(.tup [.G Xv r.1,.G QF r.2])) no_:=
 W 119 func48 Z<|A 15 Se Z λx8=>I 10 Z (T 2 [4,6,7] [4,6,7] ([(32,.b ((1<=j.Id)&&(j.Id<k.Next)))],[]) Z (H 5 Z (λg=>Y 7 32 Z (XW g Z)) λg=>Y 7 32 Z (Yy g Z))<|I 1 Z (A 3 YU Z λq=>E 9 Z)<|A 5 YU Z λt=>E 8 Z)<|J 7 Z λo=>Qvc 15 [3,4,5,6,7,9] [3,4,5,6,7] (λ(c:Bool) (e:Bool) (h:Qg)=>([(10,.b c),(11,.b e)],[(9,.W Qp h)])) (λc e h=>Dl k j l c e h) Z (I 7 Z (mF_ 10 [3,4,5,6,7,9,12] [3,4,5,6,7,9] (λ(f:Int) (i:QZ)=>([(13,.I f)],[(12,.W XK i)])) (λf i=>Uz k j l o f i) Z (I 13 Z (A 3 QmF Z λu=>fA_ 7 Z Z)<|I 6 Z (A 3 Qk2 Z λv=>fA_ 7 Z Z)<|A 3 Qk3 Z λw=>fA_ 7 Z Z) λf i=>I 7 Z (A 4 YU Z λx=>E 9 Z)<|A 12 RY Z λy=>A 5 Qk5 Z λz=>QoM 2 Z Z)<|QoM 1 Z Z) λc e h=>I 7 Z (oC_ 5 [.d,.d] Qdy Z λp=>D 5 Z [.N,.a .no none true,.a .no none true,.a .no (Q ([none,none,Q 1],.agg (QF (Qu.mk 0 j.Id ([]:LI_))))) true,.m .s,.m .s] [4,5,6,7] [4,5,7,91] [6,7] [6,7,91] Z Z (a1_ Z) Z<|G [3,.frz 91 (p.map Qp) [] [6]] Z (a1_ ⟨(Wb Qw),U⟩)<|E 0 Z)<|A 8 Zq Z λC=>I 15 Z (A 4 YU Z λO=>E 8 Z)<|D 3 Z [.N,.a .no none true,.a .no none true,.a .no none true,.a .no none true,.a (.bd []) (Q ([],.sl 1 (([j.Id]:L_ Int).map Qb))) true,.a .no none true,.m .s,.m .s] [5,6,7,14] [5,7,14] [6,7] [6,7] Z Z (a1_ Z) Z<|E 2 Z
def Qc5  : O_ QI:=Q (QI.mk ([]:QBg))
def QmG : CT 180 [] [] (Qc5 ) (λ_=>(.L 2)) (λr=>[(2,.W XD r)]):=
 W 3 func180 Z<|G [7,.v .no [Q 2] (.agg (XD (QI.mk ([]:QBg)))),5] Z Z<|E 0 Z
def Jn (c:QI)(b:Int)(a:Int):O_ (Int⊕(Int⊕Unit)):=bif (a<(c.L.length:Int))then j_ (idx c.L a) λd=>bif (d.1==b)then Q (i_ (y_ a))else Q (y_ (Qm (a+1)))else Q (i_ (i_ ()))
def Gd (b:QI)(a:Int):O_ Int:=j_ (Qt (λst=>Jn b a st) 0) (Sum.elim (λq=>Q q) (λq=>Q (-1)))
def Ts {b a}:CT 259 [.L 619,.I a] [(619,.W XD b)] (Gd b a) V.I (λ_=>[(619,.W XD b)]):=
 W 26 func259 Z<|F 12 [0,1] [619] (λst=>([(5,.I st)],[])) [] [619] (λq=>(.ret,([(4,.I q)],[]))) [] [619] (λq=>(.exit 0,([],[]))) Z (λc=>N 8 Z<|I 3 Z (J 11 Z λd=>I 6 Z (L 9 Z)<|R 8 Z)<|X 2 Z) (λe=>E 2 Z) (λ_=>E 8 Z)
def EZ (b:QI)(h:Int)(c:Int):O_ Bool:=bif (a<(b.L.length:Int))then j_ (idx b.L a) λd=>bif (d.2<h)then Q true else j_ (idx b.L a) λe=>bif (e.2==h)then j_ (idx b.L a) λf=>Q (decide (f.1<c))else Q false else Q false
def Ua:O_ (Int⊕Int):=bif r then Q (y_ (Qm (a+1)))else Q (i_ a)
def JC (d:QI)(h:Int)(b:Int)(a:Int):O_ (Int⊕Int):=j_ (EZ a d h b) (λc=>Ua a c)
def Hc (b:QI)(c:Int)(h:Int)(a:Int):O_ (Int×QI):=j_ (chk (decide (0<=a)&&decide (0<=a.toNat)&&decide (a.toNat<=b.L.length))) λ_=>j_ (chk (([]:QBg).length+((b.L.drop 0).take (a.toNat-0)).length<=4294967296)) λ_=>j_ (chk ((([]:QBg)++((b.L.drop 0).take (a.toNat-0))).length+([(c,h)]:QBg).length<=4294967296)) λ_=>j_ (chk (decide (0<=a)&&decide (a.toNat<=b.L.length)&&decide (b.L.length<=b.L.length))) λ_=>j_ (chk (((([]:QBg)++((b.L.drop 0).take (a.toNat-0)))++[(c,h)]).length+((b.L.drop a.toNat).take (b.L.length-a.toNat)).length<=4294967296)) λ_=>Q (0,(QI.mk (((([]:QBg)++((b.L.drop 0).take (a.toNat-0)))++[(c,h)])++((b.L.drop a.toNat).take (b.L.length-a.toNat)))))
def GC (b:QI)(a:Int)(h:Int):O_ (Int×QI):=j_ (Gd b a) λc=>bif (0<=c)then Q (5,b)else bif (4096<=(b.L.length:Int))then Q (2,b)else j_ (Qt (λst=>JC b h a st) 0) (λq=>Hc b a h q)
def Vu {d e at_3}:CT 181 [.L 619,.I e,.I at_3] [(619,.W XD d)] (GC d e at_3) (λr=>(.I r.1)) (λr=>[(619,.W XD r.2)]):=
 W 86 func181 Z<|S 10 .fn [(619,619)] Ts Z λz=>I 3 Z (E 7 Z)<|N 9 Z<|I 3 Z (E 7 Z)<|lA_ 9 [0,1,2] [619] (λst=>([(7,.I st)],[])) [0,1,2] [619] (λq=>(.exit 0,([(7,.I q)],[]))) Z (λu=>mV_ 2 [0,1,2,7] [619] (λi=>([(60,.b i)],[])) Z (N 6 Z<|I 2 Z (J 5 Z λv=>I 5 Z (M 25 Z)<|J 5 Z λw=>I 5 Z (J 5 Z λx=>M 8 Z)<|M 14 Z)<|M 36 Z) λi=>I 1 Z (R 9 Z)<|X 2 Z) λc=>kA_ λg=>kA_ λj=>kA_ λk=>kA_ λh=>kA_ λo=>UF 3 Z [.a .no none true,.N,.N,.N,.N,.N,.N,.B (.any (.sl 2 (((d.L.drop 0).take (c.toNat-0)).map Qy)) none),.m (.app ((([]:QBg)++((d.L.drop 0).take (c.toNat-0))).map Qy) (([]:QBg)++((d.L.drop 0).take (c.toNat-0))).length),.a .no none true,.a .no none true,.a .no (Q ([],.agg (Qy (e,at_3)))) true,.a (.bd []) (Q ([],.sl 2 (([(e,at_3)]:QBg).map Qy))) true,.m (.app (((([]:QBg)++((d.L.drop 0).take (c.toNat-0)))++[(e,at_3)]).map Qy) ((([]:QBg)++((d.L.drop 0).take (c.toNat-0)))++[(e,at_3)]).length),.a .no none true,.a .no none true,.a .no none true,.a .no none true,.a .no none true,.a (.any (.sl 2 (((d.L.drop c.toNat).take (d.L.length-c.toNat)).map Qy)) none) none true,.m (.app ((((([]:QBg)++((d.L.drop 0).take (c.toNat-0)))++[(e,at_3)])++((d.L.drop c.toNat).take (d.L.length-c.toNat))).map Qy) (((([]:QBg)++((d.L.drop 0).take (c.toNat-0)))++[(e,at_3)])++((d.L.drop c.toNat).take (d.L.length-c.toNat))).length),.N,.N,.m .s] [0,1,2,7] [619] [] [64,619] Z Z (λt=>(a7_ (λσ p y _=>Qc.sliceD Z Z (QJ t.n Z) (p _ _ Z) (QA.es Z) DJ.no (DJ.val (p _ _ Z) (Xc (HW g)) Z) (Xc (HX g)) (YC (Xc (Vi g)) (Fb Qw.symm)) Oo) ⟨(Qw (f:=Qy) (l:=([]:QBg))),HY j Qw,(KV (f:=Qy) (l:=([]:QBg)) (m:=((d.L.drop 0).take (c.toNat-0)))),Ui (l:=([]:QBg)) Qw⟩ Z Z ⟨Qw,HY k Qw,KV,Ui Qw⟩ (λσ p y _=>Qc.sliceD Z Z (QJ t.n Z) (p _ _ Z) (QA.es Z) (DJ.val (p _ _ Z) (Xc (HW h)) Z) (DJ.none_ Qw) (Xc (HX h)) (Fb Qw.symm) Oo) ⟨Qw,HY o Qw,KV,Ui Qw⟩)) Z<|G [7,.frz 64 ((((([]:QBg)++((d.L.drop 0).take (c.toNat-0)))++[(e,at_3)])++((d.L.drop c.toNat).take (d.L.length-c.toNat))).map Qy) [] [619]] Z (a1_ ⟨(Wb Qw),U⟩)<|E 0 Z
def Dm:O_ Bool:=bif (0<(d.length:Int))then j_ (idx d 0) λb=>Q (decide (b.2<=c))else Q false
def Dn:O_ ((QBg×LI_)⊕(LI_×QI)):=bif d0 then j_ (idx d 0) λb=>j_ (chk (i.length+([b.1]:L_ Int).length<=4294967296)) λ_=>j_ (chk (decide (0<=1)&&decide (1<=d.length)&&decide (d.length<=d.length))) λ_=>j_ (chk (([]:QBg).length+((d.drop 1).take (d.length-1)).length<=4294967296)) λ_=>Q (y_ ((([]:QBg)++((d.drop 1).take (d.length-1))),(i++([b.1]:L_ Int))))else Q (i_ (i,(QI.mk d)))
def Ys:O_ ((QBg×LI_)⊕(LI_×QI)):=j_ (Dm d a) (λb=>Dn d i b)
def Hd (a:QI):O_ (LI_×QI):=Q (i,a)
def Bf (b:QI)(a:Int):O_ (LI_×QI):=j_ (Qt (λst=>Ys a st.1 st.2) (b.L,([]:L_ Int))) (λq=>Hd q.1 q.2)
def Vv {f a}:CT 182 [.L 619,.I a] [(619,.W XD f)] (Bf f a) (λr=>(.P 600 r.1)) (λr=>[(600,.R 1 Qb r.1),(619,.W XD r.2)]):=
 W 44 func182 Z<|aD_ 12 5 23 1 Z<|lA_ 0 [0,1] [] (λst=>([(5,.P 23 st.2)],[(23,.R 1 Qb st.2),(619,.var (XD (QI.mk st.1)))])) [] [] (λq=>(.exit 0,([(5,.P 23 q.1)],[(23,.R 1 Qb q.1),(619,.W XD q.2)]))) Z (λ⟨e,l⟩=>mV_ 2 [0,1,5] [23,619] (λd=>([(22,.b d)],[])) Z (N 5 Z<|I 2 Z (J 4 Z λh=>M 6 Z)<|M 11 Z) λd=>I 1 Z (J 10 Z λi=>pA_ 2 1 Qb Z<|kA_ λc=>K [10,.o (.any (.sl 2 (((e.drop 1).take (e.length-1)).map Qy)) none)] Z (λj=>(a1_ (λσ g m _=>Qc.sliceD Z Z (QJ j.n Z) (g _ _ Z) (QA.es Z) (DJ.val (g _ _ Z) (Xc (HW c)) Z) (DJ.none_ Qw) (Xc (HX c)) (Fb Qw.symm) Oo)))<|pB_ 0 Qy Z<|G [5,.frz 34 ((([]:QBg)++((e.drop 1).take (e.length-1))).map Qy) [] [619]] Z (a1_ ⟨(Wb Qw),U⟩)<|R 0 Z)<|X 2 Z) λ⟨p,k⟩=>gT_ [9,.ren 23 600] Z<|E 0 Z
def Nj (b:QI):O_ ((Int×QI)⊕QI):=Q (y_ ((Qm (a+1)),b))
def Tt:O_ Bool:=j_ (idx m c) λa=>j_ (Be m a.Id) λd=>bif (d==c)then j_ (idx m c) λe=>Q (decide (0<e.Until))else Q false
def Qdz (g:QI)(b:Bool):O_ ((Int×QI)⊕QI):=bif b then j_ (idx m c) λa=>j_ (idx m c) λd=>j_ (GC g a.Id d.Until) λe=>Nj c e.2 else Nj c g
def AD (d:QI):O_ ((Int×QI)⊕QI):=bif (c<(m.length:Int))then j_ (Tt m c) (λa=>Qdz m c d a)else Q (i_ d)
def QdA (b:QI):O_ LI_:=j_ (Bf b a) λc=>Q c.1
def Oh:O_ LI_:=j_ (Qc5) λa=>j_ (Qt (λst=>AD m st.1 st.2) (0,a)) (λq=>QdA c q)
def QmH {o e}:CT 101 [.M 11 Qp o,.I e] [] (Oh o e) (λr=>(.P 600 r)) (λr=>[(600,.R 1 Qb r)]):=
 W 46 func101 Z<|zA_ 7 .fn [] [(7,2)] [] QmG Z λx=>lA_ 10 [0,1,5] [] (λst=>([(6,.I st.1)],[(7,.W XD st.2)])) [1,5] [] (λq=>(.exit 0,([],[(7,.W XD q)]))) Z (λ⟨p,y⟩=>N 5 Z<|I 3 Z (mE_ 2 [0,1,5,6] [] (λc:QI=>([],[(7,.W XD c)])) (λc=>Nj p c) Z (mV_ 2 [0,1,5,6] [7] (λf=>([(30,.b f)],[])) Z (J 4 Z λs=>A 2 Se Z λt=>I 3 Z (J 2 Z λu=>M 5 Z)<|M 8 Z) λf=>I 1 Z (B λk g=>B λl h=>B λi j=>D 0 Z [.N,.N,.N,.B (.row (Qp k)),.N,.N,.N,.N,.B (.row (Qp l)),.N,.N,.m (.cm (.fn) [(619,7)] [(7,619)] [] [.d,.d,.d] [(619,.W XD i.2)] (.I i.1) [])] [] [] [0,1,5,6] [7] Z Z (a3_ (Xw g) (Xw h) (a1_ (Vu _ j))) Z<|P 1 Z Z)<|P 2 Z Z) λc=>R 5 Z)<|X 2 Z) λv=>zA_ 6 .fn [(619,7)] [(45,600),(7,619)] [] Vv Z λw=>gT_ [4,.ren 45 600] Z<|E 0 Z
def Cr (j:Qz)(b:Int)(a:Qz):O_ ((Int×Qz)⊕((Qz×Qu)⊕Qz)):=bif (b<(i.length:Int))then j_ (idx i b) λe=>j_ (Be a.Items e) λf=>j_ (idx a.Items f) λg=>j_ (FT l0 a g false) λc=>bif (c.1 != 0)then j_ (Yx j c.1) λd=>Q (i_ (y_ (d.1,d.2)))else Q (y_ ((Qm (b+1)),c.2))else Q (i_ (i_ a))
def Mo:O_ (Qz×Qu):=bif (f.Now==1099511627776)then j_ (Yx f 1) λa=>Q (a.1,a.2)else j_ (Oh f.Items (Qm (f.Now+1))) λc=>j_ (Qt (λst=>Cr c b f st.1 st.2) (0,(Qz.mk f.M f.Items f.Next (Qm (f.Now+1))))) (Sum.elim (λq=>Q (q.1,q.2)) (λq=>Q (q,(Qu.mk 0 0 c))))
def Qlb {j k}:CT 49 [.G Qf j,.G Xv k] [] (Mo j k) (λr=>(.tup [.G Xv r.1,.G QF r.2])) no_:=
 W 64 func49 Z<|I 16 Z (A 3 YU Z λy=>E 8 Z)<|oC_ 24 [.d,.d] QmH Z λl=>F 10 [2,3,4,5,6,7] [2,3,4,5,28] (λst=>([(8,.I st.1)],[(6,.W Xv st.2)])) [4,5] [] (λq=>(.ret,([],[(4,.W Xv q.1),(5,.W QF q.2)]))) [4,5,6,7] [4,5,28] (λq=>(.exit 0,([],[(6,.W Xv q)]))) Z (λ⟨o,p⟩=>I 9 Z (B λh b=>B λi e=>B λf g=>D 5 Z [.N,.N,.N,.N,.N,.N,.N,.B (.row (Qb h)),.B (.C2 (.I i)),.B (.row (Qp f)),.E (.G Qp f),.N,.m .s] [] [] [2,3,4,5,6,7,8,9] [2,3,4,5,6,9,28] Z Z (a5_ (YZ b Z) (Xz (Jd b).2) (Se _ e) (Xw g) Z) Z<|A 6 Zq Z λt=>I 15 Z (A 4 YU Z λu=>L 10 Z)<|R 13 Z)<|X 2 Z) (λ⟨v,w⟩=>E 2 Z) (λx=>G [12,.frz 28 (l.map Qb) [] [5]] Z (a1_ ⟨(Wb Qw),U⟩)<|E 0 Z)
def BW:O_ (Qz×Qu):=bif d0 then j_ (WC b f g0) λa=>Q (a.1,a.2)else bif (g0.Do==6)then j_ (Mo b f) λd=>Q (d.1,d.2)else j_ (Yx f 1) λc=>Q (c.1,c.2)
def ZJ:O_ (Qz×Qu):=j_ (HF f) λa=>j_ (OI b a) λg=>bif (!g)then j_ (Yx a 1) λd=>Q (d.1,d.2)else bif (g0.Do==1)then j_ (OK b a g0) λe=>Q (e.1,e.2)else bif (g0.Do==2)then BW b a g0 (g0.Do==2)else bif (g0.Do==3)then BW b a g0 (g0.Do==3)else bif (g0.Do==4)then BW b a g0 (g0.Do==4)else BW b a g0 (g0.Do==5)
def QnT {c e d}:CT 23 [.G Qf c,.G Xv e,.G YF d] [] (ZJ c e d) (λr=>(.tup [.G Xv r.1,.G QF r.2])) no_:=
 W 52 func23 Z<|A 12 Qfj Z λf=>A 7 Qjh Z λl=>I 10 Z (A 3 YU Z λg=>E 8 Z)<|I 16 Z (A 5 Qjm Z λh=>E 9 Z)<|mE_ 0 [3,4,5,6,7,21] [3,4,5,6,7] (λa:Bool=>([(30,.b a)],[])) (λa=>BW c f d a) Z (I 6 Z (P 1 Z Z)<|I 6 Z (P 1 Z Z)<|I 6 Z (P 1 Z Z)<|P 4 Z Z) λa=>I 0 Z (A 5 Qk8 Z λi=>E 9 Z)<|I 6 Z (A 4 Qlb Z λj=>E 9 Z)<|A 6 YU Z λk=>E 7 Z
def Nk (e:(L_ Xh))(g:Qh)(b:Int)(f:Qz)(c:(L_ Qu)):O_ ((Int×Qz×(L_ Qu))⊕(Qz×(L_ Qu))):=bif (b<(e.length:Int))then j_ (idx e b) λd=>j_ (ZJ g f d) λa=>j_ (chk (c.length+([a.2]:L_ Qu).length<=4294967296)) λ_=>Q (y_ ((Qm (b+1)),a.1,(c++([a.2]:L_ Qu))))else Q (i_ (f,c))
def Vd (c:(L_ Xh)):O_ ((L_ Qu)×Qz):=j_ (Qt (λst=>Nk c b st.1 st.2.1 st.2.2) (0,f,([]:L_ Qu))) (λq=>Q (q.2,q.1))
def QmJ {h i j}:CT 9 [.G Qf h,.G Xv i,.M 7 YF j] [] (Vd h i j) (λr=>(.tup [.G Xv r.2,.M 3 QF r.1])) no_:=
 W 35 func9 Z<|aD_ 20 8 29 3 Z<|lA_ 0 [2,3,4,6] [3,6] (λst=>([(8,.P 29 st.2.2),(9,.I st.1)],[(4,.W Xv st.2.1),(29,.R 3 QF st.2.2)])) [4,6] [6] (λq=>(.exit 0,([(8,.P 29 q.2)],[(4,.W Xv q.1),(29,.R 3 QF q.2)]))) Z (λ⟨o,k,p⟩=>N 5 Z<|I 3 Z (B λb e=>B λf g=>D 5 Z [.E (.G Qf h),.E (.G Xv k),.N,.N,.B (.row (YF b)),.E (.G YF b),.B (.C3 (.tup [.G Xv f.1,.G QF f.2])),.a .no none true true,.N,.a .no none true,.N,.N,.m .s,.m .s] [2,3,4,6,8,9] [3,4,6,29] [2,3,4,6,8,9,10,11] [3,4,6,10,11,29] Z Z (a5_ Z Z (Xw e) Z (QnT _ g)) Z<|pA_ 10 3 QF Z<|R 9 Z)<|X 2 Z) λ⟨l,n⟩=>zF_ 11 29 [7] [] Z<|E 0 Z
def Cs:O_ (Int⊕(Unit⊕Unit)):=bif (c<(d.length:Int))then j_ (idx d c) λb=>j_ (idx i0 c) λa=>bif (!((b.1==a.1)&&(b.2==a.2)))then Q (i_ (y_ ()))else Q (y_ (Qm (c+1)))else Q (i_ (i_ ()))
def Qck : O_ Bool:=Q false
def Qcl : O_ Bool:=Q true
def Sm:O_ Bool:=bif ((d.length:Int) != (i0.length:Int))then Q false else j_ (Qt (λst=>Cs d i0 st) 0) (Sum.elim (λq=>Qck) (λq=>Qcl))
def Qlc {g h}:CT 50 [.M 2 Qy g,.M 2 Qy h] [] (Sm g h) V.b no_:=
 W 26 func50 Z<|N 9 Z<|N 1 Z<|I 3 Z (E 7 Z)<|F 9 [0,1] [] (λst=>([(5,.I st)],[])) [] [] (λq=>(.ret,([(4,.b false)],[]))) [] [] (λq=>(.exit 0,([],[]))) Z (λk=>N 5 Z<|I 3 Z (B λe f=>B λc d=>UF 5 Z [.N,.N,.B (.row (Qy e)),.N,.N,.N,.B (.row (Qy c)),.N,.B (.any (.b (!((e.1==c.1)&&(e.2==c.2)))) none)] [] [] [0,1,5,25] [] Z Z (λj=>(a3_ (Xw f) (Xw d) (λσ i l _=>Qc.neAgg Z Z (QJ j.n Z) (i _ _ Z) (i _ _ Z) Z Z (QtB _ _ _ _)))) Z<|I 1 Z (L 8 Z)<|R 8 Z)<|X 2 Z) (λ_=>E 2 Z) (λ_=>E 8 Z)
def GZ:O_ (Int⊕(Unit⊕Unit)):=bif (j<(h.length:Int))then j_ (idx h j) λf=>j_ (idx j0 j) λb=>j_ (Sm f b) λc=>bif (!c)then Q (i_ (y_ ()))else Q (y_ (Qm (j+1)))else Q (i_ (i_ ()))
def SF : O_ Bool:=Q false
def SG : O_ Bool:=Q true
def HN:O_ Bool:=bif ((h.length:Int) != (j0.length:Int))then Q false else j_ (Qt (λst=>GZ h j0 st) 0) (Sum.elim (λq=>SF) (λq=>SG))
def Qfn {j k}:CT 24 [.M 1 Ql j,.M 1 Ql k] [] (HN j k) V.b no_:=
 W 27 func24 Z<|N 9 Z<|N 1 Z<|I 3 Z (E 7 Z)<|F 9 [0,1] [] (λst=>([(5,.I st)],[])) [] [] (λq=>(.ret,([(4,.b false)],[]))) [] [] (λq=>(.exit 0,([],[]))) Z (λm=>N 5 Z<|I 3 Z (B λl g=>B λh e=>B λi f=>D 5 Z [.N,.N,.B (.row (Ql l)),.N,.N,.N,.B (.row (Ql h)),.N,.B (.C2 (.b i)),.N] [] [] [0,1,5,26] [] Z Z (a3_ (Xw g) (Xw e) (Qlc _ f)) Z<|I 1 Z (L 8 Z)<|R 8 Z)<|X 2 Z) (λ_=>E 2 Z) (λ_=>E 8 Z)
def Qcm (b:Qo):O_ Bool:=bif (t.Task==b.Task)then j_ (Wx t.Vars b.Vars) λd=>bif d then j_ (Wx t.Ins b.Ins) λe=>bif e then j_ (Wx t.Outs b.Outs) λc=>Q c else Q false else Q false else Q false
def Qcn:O_ Bool:=Q r
def Sn (b:Qo):O_ Bool:=j_ (Qcm t b) (λc=>Qcn c)
def Qld {a c}:CT 102 [.G QE a,.G QE c] [] (Sn a c) V.b no_:=
 W 31 func102 Z<|mV_ 8 [] [] (λd=>([(4,.b d)],[])) Z (I 7 Z (A 4 Gy Z λf=>I 2 Z (A 4 Gy Z λg=>I 2 Z (A 4 Gy Z λe=>M 3 Z)<|M 8 Z)<|M 15 Z)<|M 22 Z) λd=>E 2 Z
def SH:O_ Bool:=bif (q.Id==g3.Id)then bif ((q.Batch.Most==g3.Batch.Most)&&((q.Batch.Enough==g3.Batch.Enough)&&((q.Batch.Open==g3.Batch.Open)&&((q.Batch.Done==g3.Batch.Done)&&(q.Batch.Failed==g3.Batch.Failed)))))then bif (q.Until==g3.Until)then j_ (Sn q.Mode g3.Mode) λc=>Q c else Q false else Q false else Q false
def SI:O_ Bool:=Q r
def HO:O_ Bool:=j_ (SH q g3) (λc=>SI c)
def Qfo {a c}:CT 51 [.G Qp a,.G Qp c] [] (HO a c) V.b no_:=
 W 31 func51 Z<|mV_ 8 [] [] (λd=>([(4,.b d)],[])) Z (I 7 Z (K [4,.o (.any (.b ((a.Batch.Most==c.Batch.Most)&&((a.Batch.Enough==c.Batch.Enough)&&((a.Batch.Open==c.Batch.Open)&&((a.Batch.Done==c.Batch.Done)&&(a.Batch.Failed==c.Batch.Failed)))))) none),2] Z (λf=>(a1_ (λσ e g _=>Qc.eqAgg Z Z (QJ f.n Z) (e _ _ Z) (e _ _ Z) Z Z (QvJ _ _ _ _ _ _ _ _ _ _))))<|I 0 Z (I 7 Z (A 4 Qld Z λh=>M 3 Z)<|M 8 Z)<|M 15 Z)<|M 22 Z) λd=>E 2 Z
def Bg (e:(L_ Qg))(a:Int):O_ (Int⊕(Unit⊕Unit)):=bif (a<(m.length:Int))then j_ (idx m a) λf=>j_ (idx e a) λb=>j_ (HO f b) λc=>bif (!c)then Q (i_ (y_ ()))else Q (y_ (Qm (a+1)))else Q (i_ (i_ ()))
def Qbd : O_ Bool:=Q false
def Qbe : O_ Bool:=Q true
def OL (b:(L_ Qg)):O_ Bool:=bif ((m.length:Int) != (b.length:Int))then Q false else j_ (Qt (λst=>Bg m b st) 0) (Sum.elim (λq=>Qbd) (λq=>Qbe))
def Qjn {j k}:CT 25 [.M 11 Qp j,.M 11 Qp k] [] (OL j k) V.b no_:=
 W 29 func25 Z<|N 9 Z<|N 1 Z<|I 3 Z (E 7 Z)<|F 9 [0,1] [] (λst=>([(5,.I st)],[])) [] [] (λq=>(.ret,([(4,.b false)],[]))) [] [] (λq=>(.exit 0,([],[]))) Z (λm=>N 5 Z<|I 3 Z (B λl g=>B λh e=>B λi f=>D 5 Z [.N,.N,.B (.row (Qp l)),.N,.N,.N,.B (.row (Qp h)),.N,.B (.C2 (.b i)),.N] [] [] [0,1,5,6] [] Z Z (a3_ (Xw g) (Xw e) (Qfo _ f)) Z<|I 7 Z (L 8 Z)<|R 8 Z)<|X 2 Z) (λ_=>E 2 Z) (λ_=>E 8 Z)
def Qco:O_ Bool:=bif (f.Next==e3.Next)then bif (f.Now==e3.Now)then j_ (HN f.M e3.M) λd=>bif d then j_ (OL f.Items e3.Items) λc=>Q c else Q false else Q false else Q false
def Qcp:O_ Bool:=Q r
def Mp:O_ Bool:=j_ (Qco f e3) (λc=>Qcp c)
def Qle {a c}:CT 10 [.G Xv a,.G Xv c] [] (Mp a c) V.b no_:=
 W 31 func10 Z<|mV_ 8 [] [] (λd=>([(4,.b d)],[])) Z (I 7 Z (I 7 Z (A 4 Qfn Z λf=>I 2 Z (A 4 Qjn Z λe=>M 3 Z)<|M 8 Z)<|M 15 Z)<|M 22 Z) λd=>E 2 Z
def Vx (b:(L_ Qu))(a:Int)(c:(L_ Qu)):O_ Bool:=j_ (idx b a) λd=>j_ (idx c a) λe=>bif (d.Err != e.Err)then Q true else j_ (idx b a) λf=>j_ (idx c a) λg=>bif (f.Id != g.Id)then Q true else j_ (idx b a) λh=>j_ (idx c a) λi=>j_ (Wx h.Closed i.Closed) λj=>Q (!j)
def Ct (b:(L_ Qu))(c:(L_ Qu))(a:Int):O_ (Int⊕(Unit⊕Unit)):=bif (a<(b.length:Int))then j_ (Vx b a c) (λd=>bif d then Q (i_ (y_ ()))else Q (y_ (Qm (a+1))))else Q (i_ (i_ ()))
def LI (a:(L_ Qu))(b:(L_ Qu)):O_ Bool:=bif ((a.length:Int) != (b.length:Int))then Q false else j_ (Qt (λst=>Ct a b st) 0) (Sum.elim (λq=>Q false) (λq=>Q true))
def Qgp {v w}:CT 11 [.M 3 QF v,.M 3 QF w] [] (LI v w) V.b no_:=
 W 55 func11 Z<|N 9 Z<|N 1 Z<|I 3 Z (E 7 Z)<|F 9 [0,1] [] (λst=>([(5,.I st)],[])) [] [] (λq=>(.ret,([(4,.b false)],[]))) [] [] (λq=>(.exit 0,([],[]))) Z (λy=>N 5 Z<|I 3 Z (mV_ 5 [0,1,5] [] (λx=>([(54,.b x)],[])) Z (B λk f=>B λl g=>jF_ (λe=>D 0 Z (dz_ [(2,.B (.row (QF k))),(4,.B (.row (QF l))),(3,.E (.b true)),(25,.N)]) [] [] [0,1,5,54] [] Z Z (a3_ (Xw f) (Xw g) (cb_ e)) Z<|M 0 Z) λe=>B λm i=>B λn j=>jF_ (λh=>D 0 Z (dz_ [(2,.B (.row (QF k))),(4,.B (.row (QF l))),(3,.E (.b false)),(2,.B (.row (QF m))),(4,.B (.row (QF n))),(4,.E (.b true)),(12,.N)]) [] [] [0,1,5,54] [] Z Z (a6_ (Xw f) (Xw g) (cb_ e) (Xw i) (Xw j) (cb_ h)) Z<|M 0 Z) λh=>B λs o=>B λt p=>B λu r=>D 0 Z (dz_ [(2,.B (.row (QF k))),(4,.B (.row (QF l))),(3,.E (.b false)),(2,.B (.row (QF m))),(4,.B (.row (QF n))),(4,.E (.b false)),(2,.B (.row (QF s))),(4,.B (.row (QF t))),(2,.B (.C2 (.b u))),(1,.N)]) [] [] [0,1,5,54] [] Z Z (a9_ (Xw f) (Xw g) (cb_ e) (Xw i) (Xw j) (cb_ h) (Xw o) (Xw p) (Gy _ r)) Z<|M 0 Z) λx=>I 1 Z (L 8 Z)<|R 8 Z)<|X 2 Z) (λ_=>E 2 Z) (λ_=>E 8 Z)
def PH (a:((L_ Qu)×Qz))(b:((L_ Qu)×Qz)):O_ Bool:=bif r then j_ (Mp a.2 b.2) λc=>bif c then j_ (LI a.1 b.1) λd=>Q d else Q false else Q false
def Ub (a:(L_ Xh)):O_ Bool:=
 j_ (VJ) λg=>
 j_ (Mb b) λc=>
 j_ (RV b c) λh=>
 j_ (OC a) λi=>
 bif ((!h)||(!i))then
 Q g
 else
 j_ (FE b c a) λd=>
 j_ (Vd b c a) λe=>
 j_ (PH g d e) (λf=>Q f)
def QdC {d e}:CT 3 [.G Qf d,.M 7 YF e] [] (Ub d e) V.b no_:=
 W 53 func3 Z<|A 8 QiA Z λl=>A 6 QbN Z λm=>A 8 QkM Z λf=>A 6 QiO Z λg=>T 5 [1,2,5,6] [2,6] ([(26,.b ((!f)||(!g)))],[]) Z (H 4 Z (λa=>Y 4 26 Z (YW a Z)) λa=>Y 4 26 Z (Xe a Z))<|I 1 Z (E 8 Z)<|A 7 Ry Z λh=>A 13 QmJ Z λi=>mV_ 9 [] [] (λc=>([(4,.b c)],[])) Z (I 3 Z (A 2 Qle Z λj=>I 2 Z (A 2 Qgp Z λk=>M 3 Z)<|M 6 Z)<|M 11 Z) λc=>E 2 Z

end Go.Proofs
