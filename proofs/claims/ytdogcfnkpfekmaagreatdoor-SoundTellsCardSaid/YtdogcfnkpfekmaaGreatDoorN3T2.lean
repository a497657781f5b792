/- Walks through the program. -/
import Derived.Test.YtdogcfnkpfekmaaGreatDoorN3T1
set_option linter.all false
set_option maxRecDepth 100000
set_option maxHeartbeats 4000000
noncomputable section
namespace Go.Proofs
open Go Go.RowKit Go.Vm Go.Proofs.Tryz
open Option renaming some→Q,bind→j_
open Sum renaming inl→y_,inr→i_
variable (a g:Int)(d:LI_)(n:Bool)(f l0:QBg)(c:Qd)(h:Qu)(b i:Int)(e:QMk)(o i0:Int)(g1:ByteArray)(r:Qc)(q:Qm)(l1:Int)(j0:QMk)(j:LI_)(f3:QV)(m1:(L_ ByteArray))(s:(L_ QD))(m j1:Int)(m3:Qm->O_ Int)(f4:Qm)(g3:LI_->Qm->O_ (Int×Int))(e3:LI_)(e2:Qm)(t:(L_ QA))(m0 i3:Int)(l:QF)(f1:Int)(e4:(QBg×QBg))(k0:QLL)(i2:Qm->Int->O_ Bool)(j2:Qm)(f2:Int)(p:Bool)(k1:LI_)(d2:QMk)(k3:(QMk×Int))(j4:QMk)(f0:Qd)(k:Int)(i1:(L_ (Int×LI_)))(g0:QC)(d1:(L_ QMk))(l3:(L_ QC))(e1:QBg)(g4:(Bool×Jd))(h0:Int)(e0:LI_)(i4:(L_ Qm))(g2:Int)(h3:(L_ XT))(h4:LI_)(d4:Qd)(j3:Int)(d3:QMk)
def YY (a:(L_ Xb))(b:Xb):O_ Bool:=j_ (Jr a b) λc=>Q (decide (0<=c))
def Fs {c a}:CT 193 [.M 3 QW c,.clo (.func 190) [] [.L 621]] [(621,.W QW a)] (YY c a) V.b (λ_=>[(621,.W QW a)]):=
 W 9 func193 Z<|S 9 .fn [(621,621)] HD Z λd=>E 5 Z
def Mn (a:Xb):O_ Bool:=j_ (chk (decide (0<=b)&&decide (0<=b.toNat)&&decide (b.toNat<=c.Places.length))) λ_=>j_ (YY ((c.Places.drop 0).take (b.toNat-0)) a) λd=>Q (!d)
def QhP {e f g}:CT 192 [.L 621,.L 622,.L 623] [(621,.W Qf e),(622,.W Qb f),(623,.var [.clo (.func 190) [] [.L 624]]),(624,.W QW g)] (Mn e f g) V.b (λ_=>[(621,.W Qf e),(622,.W Qb f),(623,.var [.clo (.func 190) [] [.L 624]]),(624,.W QW g)]):=
 W 11 func192 Z<|kA_ λc=>B λj i=>BM 6 Z [.N,.N,.N,.B (.any (.sl 3 (((e.Places.drop 0).take (f.toNat-0)).map QW)) none),.N,.B (.any (.b j) none),.N,.m .s] [] [] [3] [621,622,623,624] Z Z (λk=>(a2_ (λσ h l _=>Stp.sliceD Z Z (Xk k.n Z) (h _ _ Z) (Xg.es Z) GC.no (GC.val (h _ _ Z) (Xd (Tl c)) Z) (Xd (Tm c)) (XZ (Xd (QbF c)) (PA Qq.symm)) Qbb) (λσ h l _=>Stp.callSame (md:=.cm (.fn) [(621,624)] [(624,621)] [] [.d,.d] [(621,.W QW g)] (.b j) [624]) Xg k h l Z (a2_ (Fs _ i) r1_)))) Z<|E 2 Z
def WR:O_ Bool:=Q ((0<=m)&&(m<(s.length:Int)))
def HI {d c}:CT 195 [.M 7 Xf d,.I c] [] (WR d c) V.b no_:=
 W 13 func195 Z<|T 6 [] [] ([(4,.b ((0<=c)&&(c<(d.length:Int))))],[]) Z (H 4 Z (λa=>N 2 Z<|Y 4 4 Z (XB a Z)) λa=>Y 7 4 Z (Yh a Z))<|E 2 Z
def Mo (b:Xb):O_ Bool:=j_ (WR c.Colours b.Colour) λa=>Q a
def QhQ {a c}:CT 194 [.L 621,.L 622] [(621,.W Qf a),(622,.W QW c)] (Mo a c) V.b (λ_=>[(621,.W Qf a),(622,.W QW c)]):=
 W 8 func194 Z<|A 11 HI Z λd=>E 4 Z
def Mp (a:Xb):O_ Bool:=j_ (DL a.First) λb=>Q b
def QhR {a}:CT 196 [.L 621] [(621,.W QW a)] (Mp a) V.b (λ_=>[(621,.W QW a)]):=
 W 5 func196 Z<|A 9 NO Z λc=>E 4 Z
def FL (a:(Int×Int))(b:Int):O_ Bool:=Q (decide (b<=a.1))
def Qge {a c}:CT 199 [.G QI a,.L 621] [(621,.W Qb c)] (FL a c) V.b (λ_=>[(621,.W Qb c)]):=
 W 8 func199 Z<|E 16 Z
def Di:O_ (Int⊕(Int⊕Unit)):=bif (i<(f.length:Int))then j_ (idx f i) λe=>j_ (FL e b) λa=>bif a then Q (i_ (y_ i))else Q (y_ (Qe (i+1)))else Q (i_ (i_ ()))
def Dj:O_ Int:=Q a
def Dk : O_ Int:=Q (-1)
def KJ:O_ Int:=j_ (Qh (λst=>Di f b st) 0) (Sum.elim (λq=>Dj q) (λq=>Dk))
def Om {b a}:CT 243 [.M 2 QI b,.clo (.func 199) [] [.L 621]] [(621,.W Qb a)] (KJ b a) V.I (λ_=>[(621,.W Qb a)]):=
 W 19 func243 Z<|N 9 Z<|F 4 [0,1,7] [621] (λst=>([(8,.I st)],[])) [] [621] (λq=>(.ret,([(4,.I q)],[]))) [] [621] (λq=>(.exit 0,([],[]))) Z (λd=>I 6 Z (J 15 Z λe=>S 1 .clo [(621,621)] Qge Z λc=>I 2 Z (L 9 Z)<|R 7 Z)<|X 2 Z) (λf=>E 2 Z) (λ_=>E 8 Z)
def JW:O_ Bool:=j_ (KJ f b) λc=>Q (decide (0<=c))
def LP {c a}:CT 198 [.M 2 QI c,.clo (.func 199) [] [.L 621]] [(621,.W Qb a)] (JW c a) V.b (λ_=>[(621,.W Qb a)]):=
 W 9 func198 Z<|S 9 .fn [(621,621)] Om Z λd=>E 5 Z
def Mq (a:Xb):O_ Bool:=j_ (YK c.Colours a.Colour) λb=>j_ (JW a.First b) λd=>Q (!d)
def QhS {a c}:CT 197 [.L 621,.L 622] [(621,.W Qf a),(622,.W QW c)] (Mq a c) V.b (λ_=>[(621,.W Qf a),(622,.W QW c)]):=
 W 14 func197 Z<|A 11 HY Z λd=>S 9 .fn [(621,3)] LP Z λe=>E 5 Z
def Ij (a:Xb)(h:Int)(b:Qd)(i:Int)(j:Int)(k:Int)(l:Int)(m:Int):O_ Int:=j_ (Ml a) λc=>bif (!c)then Q h else j_ (Mn b i a) λd=>bif (!d)then Q j else j_ (Mo b a) λe=>bif (!e)then Q k else j_ (Mp a) λf=>bif (!f)then Q l else j_ (Mq b a) λg=>bif (!g)then Q m else Q 0
def Qg1 {a b c d e f g h}:CT 133 [.own 621 5] [(621,.var [.clo (.func 191) [] [.L 622],.I b,.clo (.func 192) [] [.L 623,.L 624,.L 625],.I e,.clo (.func 194) [] [.L 623,.L 622],.I f,.clo (.func 196) [] [.L 622],.I g,.clo (.func 197) [] [.L 623,.L 622],.I h]),(622,.W QW a),(623,.W Qf c),(624,.W Qb d),(625,.var [.clo (.func 190) [] [.L 622]])] (Ij a b c d e f g h) V.I (λ_=>[(621,.var [.clo (.func 191) [] [.L 622],.I b,.clo (.func 192) [] [.L 623,.L 624,.L 625],.I e,.clo (.func 194) [] [.L 623,.L 622],.I f,.clo (.func 196) [] [.L 622],.I g,.clo (.func 197) [] [.L 623,.L 622],.I h]),(622,.W QW a),(623,.W Qf c),(624,.W Qb d),(625,.var [.clo (.func 190) [] [.L 622]])]):=
 W 18 func133 Z<|lN_ 14 6 Z<|vI_ 13 621 0 Z<|S 9 .clo [(621,622)] QhN Z λi=>I 3 Z (E 13 Z)<|rd_ 7 Z<|vI_ 13 621 2 Z<|gT_ [1,.kill 4,8] Z<|S 0 .clo [(621,623),(622,624),(623,625),(624,622)] QhP Z λj=>I 3 Z (E 13 Z)<|rd_ 7 Z<|vI_ 13 621 4 Z<|gT_ [1,.kill 4,8] Z<|S 0 .clo [(621,623),(622,622)] QhQ Z λk=>I 3 Z (E 13 Z)<|rd_ 7 Z<|vI_ 13 621 6 Z<|gT_ [1,.kill 4,8] Z<|S 0 .clo [(621,622)] QhR Z λl=>I 3 Z (E 13 Z)<|rd_ 7 Z<|vI_ 13 621 8 Z<|gT_ [1,.kill 4,8] Z<|S 0 .clo [(621,623),(622,622)] QhS Z λm=>I 3 Z (E 13 Z)<|rd_ 7 Z<|E 18 Z
def Ro:O_ Int:=j_ (YX c.Places b) λa=>bif (!a)then Q 3 else j_ (idx c.Places b) λd=>j_ (Ij d 1 c b 5 3 1 8) λe=>Q e
def QkI {a b}:CT 141 [.G Qf a,.I b] [] (Ro a b) V.I no_:=
 W 30 func141 Z<|A 13 KQ Z λe=>I 3 Z (E 7 Z)<|J 7 Z λf=>K [24,.o (.any (.own 28 5) (Q (.var [.clo (.func 191) [] [.L 5],.I 1,.clo (.func 192) [] [.L 2,.L 3,.L 6],.I 5,.clo (.func 194) [] [.L 2,.L 5],.I 3,.clo (.func 196) [] [.L 5],.I 1,.clo (.func 197) [] [.L 2,.L 5],.I 8])))] Z (λc=>(a1_ (λσ d g O=>Stp.buildAny Z Z (Xk c.n Z) (Xg.es Z) ZZ Z (by decide) (by decide) (EB d Z) Z Z (O Z))))<|S 0 .fn [(621,28),(622,5),(623,2),(624,3),(625,6)] Qg1 Z λh=>E 4 Z
def Rp (d:Xb)(b:Qd):O_ Int:=j_ (Ro b a) λc=>Q c
def QkJ {b c a}:CT 140 [.I b,.G QW c,.L 621] [(621,.W Qf a)] (Rp b c a) V.I (λ_=>[(621,.W Qf a)]):=
 W 9 func140 Z<|A 10 QkI Z λd=>E 4 Z
def AC (d:(L_ Xb))(e:Qd)(a:Int):O_ (Int⊕((Int×Int)⊕Unit)):=bif (a<(d.length:Int))then j_ (idx d a) λc=>j_ (Rp a c e) λb=>bif (b != 0)then Q (i_ (y_ (a,b)))else Q (y_ (Qe (a+1)))else Q (i_ (i_ ()))
def AD:O_ (Int×Int):=Q (a,g)
def AE : O_ (Int×Int):=Q (0,0)
def Uf (a:(L_ Xb))(b:Qd):O_ (Int×Int):=j_ (Qh (λst=>AC a b st) 0) (Sum.elim (λq=>AD q.1 q.2) (λq=>AE))
def Qbi {b a}:CT 139 [.M 3 QW b,.clo (.func 140) [] [.L 621]] [(621,.W Qf a)] (Uf b a) (λr=>(.tup [.I r.1,.I r.2])) (λ_=>[(621,.W Qf a)]):=
 W 25 func139 Z<|N 10 Z<|F 4 [1,9,10] [621] (λst=>([(11,.I st)],[])) [] [621] (λq=>(.ret,([(4,.I q.1),(5,.I q.2)],[]))) [] [621] (λq=>(.exit 0,([],[]))) Z (λf=>I 6 Z (J 7 Z λc=>S 11 .clo [(621,621)] QkJ Z λd=>I 9 Z (L 11 Z)<|R 7 Z)<|X 2 Z) (λ⟨g,e⟩=>E 2 Z) (λ_=>E 9 Z)
def JR (b:(L_ QF))(a:Int):O_ Bool:=Q ((0<=a)&&(a<(b.length:Int)))
def Mr {d c}:CT 146 [.M 14 Qy d,.I c] [] (JR d c) V.b no_:=
 W 13 func146 Z<|T 6 [] [] ([(4,.b ((0<=c)&&(c<(d.length:Int))))],[]) Z (H 4 Z (λa=>N 2 Z<|Y 4 4 Z (XB a Z)) λa=>Y 7 4 Z (Yh a Z))<|E 2 Z
def Rq (a:Int)(b:Qd)(c:QF):O_ Unit:=Q ()
def QkK {a b c}:CT 205 [.L 621,.clo (.func 206) [] [.L 622,.L 623]] [(621,.W Qb a),(622,.W Qf b),(623,.W Qy c)] (Rq a b c) (λ_=>(.clo (.func 245) [] [.L 3,.L 2])) (λ_=>[(2,.var [.L 621]),(3,.var [.clo (.func 206) [] [.L 622,.L 623]]),(621,.W Qb a),(622,.W Qf b),(623,.W Qy c)]):=
 W 6 func205 Z<|E 14 Z
def Ik (a:Int)(b:Qd)(c:QF)(d:Int):O_ Unit:=Q ()
def Qg2 {a b c d}:CT 205 [.L 621,.clo (.func 211) [] [.L 622,.L 623,.L 624]] [(621,.W Qb a),(622,.W Qf b),(623,.W Qy c),(624,.W Qb d)] (Ik a b c d) (λ_=>(.clo (.func 245) [] [.L 3,.L 2])) (λ_=>[(2,.var [.L 621]),(3,.var [.clo (.func 211) [] [.L 622,.L 623,.L 624]]),(621,.W Qb a),(622,.W Qf b),(623,.W Qy c),(624,.W Qb d)]):=
 W 6 func205 Z<|E 14 Z
def Il (a:Int)(b:Qd)(c:QF)(d:Int):O_ Unit:=Q ()
def Qg3 {a b c d}:CT 205 [.L 621,.clo (.func 213) [] [.L 622,.L 623,.L 624]] [(621,.W Qb a),(622,.W Qf b),(623,.W Qy c),(624,.W Qb d)] (Il a b c d) (λ_=>(.clo (.func 245) [] [.L 3,.L 2])) (λ_=>[(2,.var [.L 621]),(3,.var [.clo (.func 213) [] [.L 622,.L 623,.L 624]]),(621,.W Qb a),(622,.W Qf b),(623,.W Qy c),(624,.W Qb d)]):=
 W 6 func205 Z<|E 14 Z
def Im (a:Int)(b:Qd)(c:QF):O_ Unit:=Q ()
def Qg4 {a b c}:CT 205 [.L 621,.clo (.func 214) [] [.L 622,.L 623]] [(621,.W Qb a),(622,.W Qf b),(623,.W Qy c)] (Im a b c) (λ_=>(.clo (.func 245) [] [.L 3,.L 2])) (λ_=>[(2,.var [.L 621]),(3,.var [.clo (.func 214) [] [.L 622,.L 623]]),(621,.W Qb a),(622,.W Qf b),(623,.W Qy c)]):=
 W 6 func205 Z<|E 14 Z
def On:O_ Bool:=j_ (Uw l.Name) λb=>Q b
def Qji {a}:CT 201 [.L 621] [(621,.W Qy a)] (On a) V.b (λ_=>[(621,.W Qy a)]):=
 W 5 func201 Z<|A 9 CI Z λc=>E 4 Z
def Oo (b:QF):O_ Bool:=Q (Ko l.Name b.Name)
def Qjj {c a}:CT 200 [.G Qy c,.L 621] [(621,.W Qy a)] (Oo c a) V.b (λ_=>[(621,.W Qy a)]):=
 W 9 func200 Z<|E 17 Z
def KR (c:(L_ QF))(d:QF)(a:Int):O_ (Int⊕(Int⊕Unit)):=bif (a<(c.length:Int))then j_ (idx c a) λe=>j_ (Oo e d) λb=>bif b then Q (i_ (y_ a))else Q (y_ (Qe (a+1)))else Q (i_ (i_ ()))
def KS:O_ Int:=Q a
def KT : O_ Int:=Q (-1)
def JN (a:(L_ QF))(b:QF):O_ Int:=j_ (Qh (λst=>KR a b st) 0) (Sum.elim (λq=>KS q) (λq=>KT))
def Lh {b a}:CT 244 [.M 14 Qy b,.clo (.func 200) [] [.L 621]] [(621,.W Qy a)] (JN b a) V.I (λ_=>[(621,.W Qy a)]):=
 W 19 func244 Z<|N 9 Z<|F 4 [0,1,7] [621] (λst=>([(8,.I st)],[])) [] [621] (λq=>(.ret,([(4,.I q)],[]))) [] [621] (λq=>(.exit 0,([],[]))) Z (λd=>I 6 Z (J 15 Z λe=>S 1 .clo [(621,621)] Qjj Z λc=>I 2 Z (L 9 Z)<|R 7 Z)<|X 2 Z) (λf=>E 2 Z) (λ_=>E 8 Z)
def Jj (a:(L_ QF))(b:QF):O_ Bool:=j_ (JN a b) λc=>Q (decide (0<=c))
def Hh {c a}:CT 203 [.M 14 Qy c,.clo (.func 200) [] [.L 621]] [(621,.W Qy a)] (Jj c a) V.b (λ_=>[(621,.W Qy a)]):=
 W 9 func203 Z<|S 9 .fn [(621,621)] Lh Z λd=>E 5 Z
def Oq:O_ Bool:=j_ (chk (decide (0<=b)&&decide (0<=b.toNat)&&decide (b.toNat<=c.Tasks.length))) λ_=>j_ (Jj ((c.Tasks.drop 0).take (b.toNat-0)) l) λd=>Q (!d)
def Qjk {e f g}:CT 202 [.L 621,.L 622,.L 623] [(621,.W Qf e),(622,.W Qb f),(623,.var [.clo (.func 200) [] [.L 624]]),(624,.W Qy g)] (Oq e f g) V.b (λ_=>[(621,.W Qf e),(622,.W Qb f),(623,.var [.clo (.func 200) [] [.L 624]]),(624,.W Qy g)]):=
 W 11 func202 Z<|kA_ λc=>B λj i=>BM 6 Z [.N,.N,.N,.B (.any (.sl 14 (((e.Tasks.drop 0).take (f.toNat-0)).map Qy)) none),.N,.B (.any (.b j) none),.N,.m .s] [] [] [3] [621,622,623,624] Z Z (λk=>(a2_ (λσ h l _=>Stp.sliceD Z Z (Xk k.n Z) (h _ _ Z) (Xg.es Z) GC.no (GC.val (h _ _ Z) (Xd (Tl c)) Z) (Xd (Tm c)) (XZ (Xd (QbF c)) (PA Qq.symm)) Qbb) (λσ h l _=>Stp.callSame (md:=.cm (.fn) [(621,624)] [(624,621)] [] [.d,.d] [(621,.W Qy g)] (.b j) [624]) Xg k h l Z (a2_ (Hh _ i) r1_)))) Z<|E 2 Z
def Hj:O_ Bool:=Q ((a<=16)&&((max2 (max2 (l.Ins.length:Int) (l.Outs.length:Int)) (l.Cancel.length:Int))<=16))
def Qjl {d a}:CT 204 [.L 621,.L 622] [(621,.W Qb d),(622,.W Qy a)] (Hj d a) V.b (λ_=>[(621,.W Qb d),(622,.W Qy a)]):=
 W 18 func204 Z<|T 6 [] [621,622] ([(2,.b ((d<=16)&&((max2 (max2 (a.Ins.length:Int) (a.Outs.length:Int)) (a.Cancel.length:Int))<=16)))],[]) Z (H 4 Z (λc=>N 2 Z<|N 2 Z<|N 2 Z<|K [.o (.any (.I (max2 (max2 (a.Ins.length:Int) (a.Outs.length:Int)) (a.Cancel.length:Int))) none),4] Z (λf=>(a1_ (λσ e g _=>Stp.max3 Z Z (Xk f.n Z) (e _ _ Z) (e _ _ Z) (e _ _ Z))))<|Y 0 2 Z (XB c Z)) λc=>Y 14 2 Z (Yh c Z))<|E 2 Z
def UN (a:Ju):O_ Bool:=j_ (Uw a.Name) λb=>Q b
def Qcd {a}:CT 249 [.L 621] [(621,.W Yw a)] (UN a) V.b (λ_=>[(621,.W Yw a)]):=
 W 5 func249 Z<|A 9 CI Z λc=>E 4 Z
def UO (a:Ju)(b:Ju):O_ Bool:=Q (Ko a.Name b.Name)
def Qce {c a}:CT 248 [.G Yw c,.L 621] [(621,.W Yw a)] (UO c a) V.b (λ_=>[(621,.W Yw a)]):=
 W 9 func248 Z<|E 17 Z
def Ws (c:(L_ Ju))(d:Ju)(a:Int):O_ (Int⊕(Int⊕Unit)):=bif (a<(c.length:Int))then j_ (idx c a) λe=>j_ (UO e d) λb=>bif b then Q (i_ (y_ a))else Q (y_ (Qe (a+1)))else Q (i_ (i_ ()))
def Wt:O_ Int:=Q a
def Wu : O_ Int:=Q (-1)
def Kg (a:(L_ Ju))(b:Ju):O_ Int:=j_ (Qh (λst=>Ws a b st) 0) (Sum.elim (λq=>Wt q) (λq=>Wu))
def MP {b a}:CT 290 [.M 2 Yw b,.clo (.func 248) [] [.L 621]] [(621,.W Yw a)] (Kg b a) V.I (λ_=>[(621,.W Yw a)]):=
 W 19 func290 Z<|N 9 Z<|F 4 [0,1,7] [621] (λst=>([(8,.I st)],[])) [] [621] (λq=>(.ret,([(4,.I q)],[]))) [] [621] (λq=>(.exit 0,([],[]))) Z (λd=>I 6 Z (J 15 Z λe=>S 1 .clo [(621,621)] Qce Z λc=>I 2 Z (L 9 Z)<|R 7 Z)<|X 2 Z) (λf=>E 2 Z) (λ_=>E 8 Z)
def JB (a:(L_ Ju))(b:Ju):O_ Bool:=j_ (Kg a b) λc=>Q (decide (0<=c))
def Io {c a}:CT 251 [.M 2 Yw c,.clo (.func 248) [] [.L 621]] [(621,.W Yw a)] (JB c a) V.b (λ_=>[(621,.W Yw a)]):=
 W 9 func251 Z<|S 9 .fn [(621,621)] MP Z λd=>E 5 Z
def UP (b:(L_ Ju))(a:Int)(c:Ju):O_ Bool:=j_ (chk (decide (0<=a)&&decide (0<=a.toNat)&&decide (a.toNat<=b.length))) λ_=>j_ (JB ((b.drop 0).take (a.toNat-0)) c) λd=>Q (!d)
def Qcf {e f g}:CT 250 [.L 621,.L 622,.L 623] [(621,.W Cw e),(622,.W Qb f),(623,.var [.clo (.func 248) [] [.L 624]]),(624,.W Yw g)] (UP e f g) V.b (λ_=>[(621,.W Cw e),(622,.W Qb f),(623,.var [.clo (.func 248) [] [.L 624]]),(624,.W Yw g)]):=
 W 10 func250 Z<|kA_ λc=>B λj i=>BM 6 Z [.N,.N,.B (.any (.sl 2 (((e.drop 0).take (f.toNat-0)).map Yw)) none),.N,.B (.any (.b j) none),.N,.m .s] [] [] [3] [621,622,623,624] Z Z (λk=>(a2_ (λσ h l _=>Stp.sliceD Z Z (Xk k.n Z) (h _ _ Z) (Xg.es Z) GC.no (GC.val (h _ _ Z) (Xd (Tl c)) Z) (Xd (Tm c)) (XZ (Xd (QbF c)) (PA Qq.symm)) Qbb) (λσ h l _=>Stp.callSame (md:=.cm (.fn) [(621,624)] [(624,621)] [] [.d,.d] [(621,.W Yw g)] (.b j) [624]) Xg k h l Z (a2_ (Io _ i) r1_)))) Z<|E 2 Z
def UQ (b:Ju):O_ Bool:=j_ (WR c.Colours b.Colour) λa=>Q a
def Qcg {a c}:CT 252 [.L 621,.L 622] [(621,.W Qf a),(622,.W Yw c)] (UQ a c) V.b (λ_=>[(621,.W Qf a),(622,.W Yw c)]):=
 W 8 func252 Z<|A 11 HI Z λd=>E 4 Z
def Ip (a:Ju)(e:Int)(f:(L_ Ju))(g:Int)(h:Int)(i:Qd)(j:Int):O_ Int:=j_ (UN a) λb=>bif (!b)then Q e else j_ (UP f g a) λc=>bif (!c)then Q h else j_ (UQ i a) λd=>bif (!d)then Q j else Q 0
def Qg5 {a b c d e f g}:CT 133 [.own 621 3] [(621,.var [.clo (.func 249) [] [.L 622],.I b,.clo (.func 250) [] [.L 623,.L 624,.L 625],.I e,.clo (.func 252) [] [.L 626,.L 622],.I g]),(622,.W Yw a),(623,.W Cw c),(624,.W Qb d),(625,.var [.clo (.func 248) [] [.L 622]]),(626,.W Qf f)] (Ip a b c d e f g) V.I (λ_=>[(621,.var [.clo (.func 249) [] [.L 622],.I b,.clo (.func 250) [] [.L 623,.L 624,.L 625],.I e,.clo (.func 252) [] [.L 626,.L 622],.I g]),(622,.W Yw a),(623,.W Cw c),(624,.W Qb d),(625,.var [.clo (.func 248) [] [.L 622]]),(626,.W Qf f)]):=
 W 18 func133 Z<|lN_ 14 4 Z<|vI_ 13 621 0 Z<|S 9 .clo [(621,622)] Qcd Z λh=>I 3 Z (E 13 Z)<|rd_ 7 Z<|vI_ 13 621 2 Z<|gT_ [1,.kill 4,8] Z<|S 0 .clo [(621,623),(622,624),(623,625),(624,622)] Qcf Z λi=>I 3 Z (E 13 Z)<|rd_ 7 Z<|vI_ 13 621 4 Z<|gT_ [1,.kill 4,8] Z<|S 0 .clo [(621,626),(622,622)] Qcg Z λj=>I 3 Z (E 13 Z)<|rd_ 7 Z<|E 18 Z
def BF (b:Ju)(c:(L_ Ju))(d:Qd):O_ Int:=j_ (Ip b 1 c a 5 d 3) λe=>Q e
def QeE {c d a b}:CT 247 [.I c,.G Yw d,.L 621,.L 622] [(621,.W Cw a),(622,.W Qf b)] (BF c d a b) V.I (λ_=>[(621,.W Cw a),(622,.W Qf b)]):=
 W 17 func247 Z<|K [22,.o (.any (.own 15 3) (Q (.var [.clo (.func 249) [] [.L 5],.I 1,.clo (.func 250) [] [.L 621,.L 4,.L 7],.I 5,.clo (.func 252) [] [.L 622,.L 5],.I 3])))] Z (λe=>(a1_ (λσ f g O=>Stp.buildAny Z Z (Xk e.n Z) (Xg.es Z) ZZ Z (by decide) (by decide) (EB f Z) Z Z (O Z))))<|S 0 .fn [(621,15),(622,5),(623,621),(624,4),(625,7),(626,622)] Qg5 Z λh=>E 4 Z
def BN (d:(L_ Ju))(e:(L_ Ju))(f:Qd)(a:Int):O_ (Int⊕((Int×Int)⊕Unit)):=bif (a<(d.length:Int))then j_ (idx d a) λc=>j_ (BF a c e f) λb=>bif (b != 0)then Q (i_ (y_ (a,b)))else Q (y_ (Qe (a+1)))else Q (i_ (i_ ()))
def BO:O_ (Int×Int):=Q (a,g)
def BP : O_ (Int×Int):=Q (0,0)
def AG (a:(L_ Ju))(b:(L_ Ju))(c:Qd):O_ (Int×Int):=j_ (Qh (λst=>BN a b c st) 0) (Sum.elim (λq=>BO q.1 q.2) (λq=>BP))
def Qc0 {c a b}:CT 246 [.M 2 Yw c,.clo (.func 247) [] [.L 621,.L 622]] [(621,.W Cw a),(622,.W Qf b)] (AG c a b) (λr=>(.tup [.I r.1,.I r.2])) (λ_=>[(621,.W Cw a),(622,.W Qf b)]):=
 W 25 func246 Z<|N 10 Z<|F 4 [1,9,10] [621,622] (λst=>([(11,.I st)],[])) [] [621,622] (λq=>(.ret,([(4,.I q.1),(5,.I q.2)],[]))) [] [621,622] (λq=>(.exit 0,([],[]))) Z (λh=>I 6 Z (J 7 Z λd=>S 11 .clo [(621,621),(622,622)] QeE Z λe=>I 9 Z (L 11 Z)<|R 7 Z)<|X 2 Z) (λ⟨f,g⟩=>E 2 Z) (λ_=>E 9 Z)
def FN (a:(L_ Ju)):O_ Int:=j_ (AG a a c) λb=>Q b.2
def Qgf {a b}:CT 207 [.G Qf a,.M 2 Yw b] [] (FN a b) V.I no_:=
 W 14 func207 Z<|S 11 .fn [(621,3),(622,2)] Qc0 Z λc=>E 14 Z
def Ot:O_ Int:=j_ (FN c l.Vars) λa=>Q a
def Qjm {a b}:CT 206 [.L 621,.L 622] [(621,.W Qf a),(622,.W Qy b)] (Ot a b) V.I (λ_=>[(621,.W Qf a),(622,.W Qy b)]):=
 W 7 func206 Z<|A 10 Qgf Z λc=>E 4 Z
def CK (d:Int):O_ (Bool×Int):=j_ (Ot c l) λa=>Q ((a==0),a)
def QhT {c e g}:CT 245 [.L 621,.L 624] [(621,.var [.clo (.func 206) [] [.L 622,.L 623]]),(622,.W Qf c),(623,.W Qy e),(624,.var [.L 625]),(625,.W Qb g)] (CK c e g) (λr=>(.b r.1)) (λr=>[(621,.var [.clo (.func 206) [] [.L 622,.L 623]]),(622,.W Qf c),(623,.W Qy e),(624,.var [.L 625]),(625,.W Qb r.2)]):=
 W 11 func245 Z<|B λh f=>BM 6 Z [.N,.N,.B (.any (.I h) none),.N,.m .s] [] [] [1] [621,622,623,624,625] Z Z (λi=>(a1_ (λσ j k _=>Stp.callSame (md:=.cm (.clo) [(621,622),(622,623)] [(622,621),(623,622)] [] [.d,.d] [(621,.W Qf c),(622,.W Qy e)] (.I h) [622,623]) Xg i j k Z (a2_ (Qjm _ f) r2_)))) Z<|E 11 Z
def Bn:O_ ((Int×Int)⊕(Unit⊕Int)):=bif (h0<(l.Vars.length:Int))then j_ (idx l.Vars h0) λd=>j_ (YK f0.Colours d.Colour) λb=>bif (b==0)then Q (i_ (y_ ()))else Q (y_ ((min2 (Qe (k*b)) 1025),(Qe (h0+1))))else Q (i_ (i_ k))
def Sm : O_ Int:=Q 0
def Sn:O_ Int:=Q a
def Gd:O_ Int:=j_ (JR c.Tasks b) λa=>bif (!a)then Q 0 else j_ (idx c.Tasks b) λd=>j_ (Qh (λst=>Bn d c st.1 st.2) (1,0)) (Sum.elim (λq=>Sm) (λq=>Sn q))
def Qch {b c}:CT 87 [.G Qf b,.I c] [] (Gd b c) V.I no_:=
 W 38 func87 Z<|A 12 Mr Z λg=>I 3 Z (E 7 Z)<|J 13 Z λh=>N 2 Z<|F 4 [2,19,20] [2] (λst=>([(5,.I st.1),(21,.I st.2)],[])) [] [] (λq=>(.ret,([(4,.I 0)],[]))) [] [] (λq=>(.exit 0,([(5,.I q)],[]))) Z (λ⟨d,i⟩=>I 6 Z (J 6 Z λe=>A 11 HY Z λf=>I 10 Z (L 9 Z)<|R 15 Z)<|X 2 Z) (λ_=>E 2 Z) (λa=>E 9 Z)
def Hk:O_ Bool:=j_ (Gd c b) λa=>Q (decide (a<=1024))
def Qjn {a c}:CT 208 [.L 621,.L 622] [(621,.W Qf a),(622,.W Qb c)] (Hk a c) V.b (λ_=>[(621,.W Qf a),(622,.W Qb c)]):=
 W 7 func208 Z<|A 9 Qch Z λd=>E 5 Z
def QaL:O_ Bool:=j_ (Up l.Guard f1) λc=>bif c then bif (0<(l.Ins.length:Int))then Q (decide (0<(l.Outs.length:Int)))else Q false else Q false
def QaM:O_ Bool:=Q n
def Ou:O_ Bool:=j_ (QaL l f1) (λc=>QaM c)
def Qjo {a c}:CT 209 [.L 621,.L 622] [(621,.W Qy a),(622,.W Qb c)] (Ou a c) V.b (λ_=>[(621,.W Qy a),(622,.W Qb c)]):=
 W 19 func209 Z<|mV_ 6 [] [621,622] (λd=>([(2,.b d)],[])) Z (A 4 TA Z λe=>I 1 Z (N 2 Z<|I 3 Z (N 2 Z<|M 4 Z)<|M 7 Z)<|M 13 Z) λd=>E 2 Z
def Iq (b:XT):O_ Bool:=j_ (YX c.Places b.Place) λa=>Q a
def Qg6 {a c}:CT 258 [.L 621,.L 622] [(621,.W Qf a),(622,.W Yz c)] (Iq a c) V.b (λ_=>[(621,.W Qf a),(622,.W Yz c)]):=
 W 8 func258 Z<|A 11 KQ Z λd=>E 4 Z
def Ir (a:XT)(b:Int):O_ Bool:=j_ (Up a.Expr b) λc=>Q c
def Qg7 {a c}:CT 259 [.L 621,.L 622] [(621,.W Yz a),(622,.W Qb c)] (Ir a c) V.b (λ_=>[(621,.W Yz a),(622,.W Qb c)]):=
 W 7 func259 Z<|A 10 TA Z λd=>E 4 Z
def Iu (b:XT)(d:Int)(e:Int)(f:Int):O_ Int:=j_ (Iq c b) λg=>bif (!g)then Q d else j_ (Ir b e) λa=>bif (!a)then Q f else Q 0
def Qg8 {a b c d e}:CT 133 [.own 621 2] [(621,.var [.clo (.func 258) [] [.L 622,.L 623],.I c,.clo (.func 259) [] [.L 623,.L 624],.I e]),(622,.W Qf a),(623,.W Yz b),(624,.W Qb d)] (Iu a b c d e) V.I (λ_=>[(621,.var [.clo (.func 258) [] [.L 622,.L 623],.I c,.clo (.func 259) [] [.L 623,.L 624],.I e]),(622,.W Qf a),(623,.W Yz b),(624,.W Qb d)]):=
 W 18 func133 Z<|lN_ 14 3 Z<|vI_ 13 621 0 Z<|S 9 .clo [(621,622),(622,623)] Qg6 Z λg=>I 3 Z (E 13 Z)<|rd_ 7 Z<|vI_ 13 621 2 Z<|gT_ [1,.kill 4,8] Z<|S 0 .clo [(621,623),(622,624)] Qg7 Z λf=>I 3 Z (E 13 Z)<|rd_ 7 Z<|E 18 Z
def Ov (e:Int)(a:XT)(b:Qd)(c:Int):O_ Int:=j_ (Iu b a 3 c 1) λd=>Q d
def Qjp {c d a b}:CT 257 [.I c,.G Yz d,.L 621,.L 622] [(621,.W Qf a),(622,.W Qb b)] (Ov c d a b) V.I (λ_=>[(621,.W Qf a),(622,.W Qb b)]):=
 W 13 func257 Z<|K [12,.o (.any (.own 11 2) (Q (.var [.clo (.func 258) [] [.L 621,.L 5],.I 3,.clo (.func 259) [] [.L 5,.L 622],.I 1])))] Z (λe=>(a1_ (λσ f g O=>Stp.buildAny Z Z (Xk e.n Z) (Xg.es Z) ZZ Z (by decide) (by decide) (EB f Z) Z Z (O Z))))<|S 0 .fn [(621,11),(622,621),(623,5),(624,622)] Qg8 Z λh=>E 4 Z
def BQ (a:Int):O_ (Int⊕((Int×Int)⊕Unit)):=bif (a<(h3.length:Int))then j_ (idx h3 a) λc=>j_ (Ov a c d4 j3) λb=>bif (b != 0)then Q (i_ (y_ (a,b)))else Q (y_ (Qe (a+1)))else Q (i_ (i_ ()))
def BR:O_ (Int×Int):=Q (a,g)
def BS : O_ (Int×Int):=Q (0,0)
def AH:O_ (Int×Int):=j_ (Qh (λst=>BQ h3 d4 j3 st) 0) (Sum.elim (λq=>BR q.1 q.2) (λq=>BS))
def Qc1 {c a b}:CT 256 [.M 4 Yz c,.clo (.func 257) [] [.L 621,.L 622]] [(621,.W Qf a),(622,.W Qb b)] (AH c a b) (λr=>(.tup [.I r.1,.I r.2])) (λ_=>[(621,.W Qf a),(622,.W Qb b)]):=
 W 25 func256 Z<|N 10 Z<|F 4 [1,9,10] [621,622] (λst=>([(11,.I st)],[])) [] [621,622] (λq=>(.ret,([(4,.I q.1),(5,.I q.2)],[]))) [] [621,622] (λq=>(.exit 0,([],[]))) Z (λh=>I 6 Z (J 7 Z λd=>S 11 .clo [(621,621),(622,622)] Qjp Z λe=>I 9 Z (L 11 Z)<|R 7 Z)<|X 2 Z) (λ⟨f,g⟩=>E 2 Z) (λ_=>E 9 Z)
def No:O_ Int:=j_ (AH h3 c j3) λd=>Q d.2
def Qdw {b c a}:CT 212 [.G Qf b,.M 4 Yz c,.I a] [] (No b c a) V.I no_:=
 W 16 func212 Z<|S 11 .fn [(621,3),(622,5)] Qc1 Z λd=>E 14 Z
def Ow:O_ Int:=j_ (No c l.Ins f1) λd=>Q d
def Qjq {a b c}:CT 211 [.L 621,.L 622,.L 623] [(621,.W Qf a),(622,.W Qy b),(623,.W Qb c)] (Ow a b c) V.I (λ_=>[(621,.W Qf a),(622,.W Qy b),(623,.W Qb c)]):=
 W 9 func211 Z<|A 11 Qdw Z λd=>E 4 Z
def CL (e:Int):O_ (Bool×Int):=j_ (Ow c l f1) λa=>Q ((a==0),a)
def Qe3 {c e f h}:CT 245 [.L 621,.L 625] [(621,.var [.clo (.func 211) [] [.L 622,.L 623,.L 624]]),(622,.W Qf c),(623,.W Qy e),(624,.W Qb f),(625,.var [.L 626]),(626,.W Qb h)] (CL c e f h) (λr=>(.b r.1)) (λr=>[(621,.var [.clo (.func 211) [] [.L 622,.L 623,.L 624]]),(622,.W Qf c),(623,.W Qy e),(624,.W Qb f),(625,.var [.L 626]),(626,.W Qb r.2)]):=
 W 11 func245 Z<|B λi g=>BM 6 Z [.N,.N,.B (.any (.I i) none),.N,.m .s] [] [] [1] [621,622,623,624,625,626] Z Z (λj=>(a1_ (λσ k l _=>Stp.callSame (md:=.cm (.clo) [(621,622),(622,623),(623,624)] [(622,621),(623,622),(624,623)] [] [.d,.d,.d] [(621,.W Qf c),(622,.W Qy e),(623,.W Qb f)] (.I i) [622,623,624]) Xg j k l Z (a2_ (Qjq _ g) r3_)))) Z<|E 11 Z
def Ox:O_ Int:=j_ (No c l.Outs f1) λd=>Q d
def Qjr {a b c}:CT 213 [.L 621,.L 622,.L 623] [(621,.W Qf a),(622,.W Qy b),(623,.W Qb c)] (Ox a b c) V.I (λ_=>[(621,.W Qf a),(622,.W Qy b),(623,.W Qb c)]):=
 W 9 func213 Z<|A 11 Qdw Z λd=>E 4 Z
def CM (e:Int):O_ (Bool×Int):=j_ (Ox c l f1) λa=>Q ((a==0),a)
def Qe4 {c e f h}:CT 245 [.L 621,.L 625] [(621,.var [.clo (.func 213) [] [.L 622,.L 623,.L 624]]),(622,.W Qf c),(623,.W Qy e),(624,.W Qb f),(625,.var [.L 626]),(626,.W Qb h)] (CM c e f h) (λr=>(.b r.1)) (λr=>[(621,.var [.clo (.func 213) [] [.L 622,.L 623,.L 624]]),(622,.W Qf c),(623,.W Qy e),(624,.W Qb f),(625,.var [.L 626]),(626,.W Qb r.2)]):=
 W 11 func245 Z<|B λi g=>BM 6 Z [.N,.N,.B (.any (.I i) none),.N,.m .s] [] [] [1] [621,622,623,624,625,626] Z Z (λj=>(a1_ (λσ k l _=>Stp.callSame (md:=.cm (.clo) [(621,622),(622,623),(623,624)] [(622,621),(623,622),(624,623)] [] [.d,.d,.d] [(621,.W Qf c),(622,.W Qy e),(623,.W Qb f)] (.I i) [622,623,624]) Xg j k l Z (a2_ (Qjr _ g) r3_)))) Z<|E 11 Z
def BG:O_ Bool:=j_ (YX c.Places b) λa=>Q a
def QeF {a c}:CT 262 [.L 621,.L 622] [(621,.W Qf a),(622,.W Qb c)] (BG a c) V.b (λ_=>[(621,.W Qf a),(622,.W Qb c)]):=
 W 7 func262 Z<|A 10 KQ Z λd=>E 4 Z
def BH:O_ Bool:=j_ (chk (decide (0<=b)&&decide (0<=b.toNat)&&decide (b.toNat<=d.length))) λ_=>j_ (XW ((d.drop 0).take (b.toNat-0)) i) λa=>Q (!a)
def QeG {f g h}:CT 263 [.L 621,.L 622,.L 623] [(621,.W Xy f),(622,.W Qb g),(623,.W Qb h)] (BH f g h) V.b (λ_=>[(621,.W Xy f),(622,.W Qb g),(623,.W Qb h)]):=
 W 10 func263 Z<|kA_ λe=>B λk i=>BM 6 Z [.N,.N,.B (.any (.sl 1 (((f.drop 0).take (g.toNat-0)).map Qb)) none),.N,.B (.C2 (.b k)),.N,.m .s] [] [] [3] [621,622,623] Z Z (λl=>(a2_ (λσ j o _=>Stp.sliceD Z Z (Xk l.n Z) (j _ _ Z) (Xg.es Z) GC.no (GC.val (j _ _ Z) (Xd (Tl e)) Z) (Xd (Tm e)) (XZ (Xd (QbF e)) (PA Qq.symm)) Qbb) (EF _ i))) Z<|E 2 Z
def Iv:O_ Int:=j_ (BG c b) λh=>bif (!h)then Q i else j_ (BH j m b) λa=>bif (!a)then Q j1 else Q 0
def Qg9 {a b c d e f}:CT 133 [.own 621 2] [(621,.var [.clo (.func 262) [] [.L 622,.L 623],.I c,.clo (.func 263) [] [.L 624,.L 625,.L 623],.I f]),(622,.W Qf a),(623,.W Qb b),(624,.W Xy d),(625,.W Qb e)] (Iv a b c d e f) V.I (λ_=>[(621,.var [.clo (.func 262) [] [.L 622,.L 623],.I c,.clo (.func 263) [] [.L 624,.L 625,.L 623],.I f]),(622,.W Qf a),(623,.W Qb b),(624,.W Xy d),(625,.W Qb e)]):=
 W 18 func133 Z<|lN_ 14 3 Z<|vI_ 13 621 0 Z<|S 9 .clo [(621,622),(622,623)] QeF Z λh=>I 3 Z (E 13 Z)<|rd_ 7 Z<|vI_ 13 621 2 Z<|gT_ [1,.kill 4,8] Z<|S 0 .clo [(621,624),(622,625),(623,623)] QeG Z λg=>I 3 Z (E 13 Z)<|rd_ 7 Z<|E 18 Z
def FO:O_ Int:=j_ (Iv c g 3 j a 5) λe=>Q e
def Qgg {d a b c}:CT 261 [.I d,.I a,.L 621,.L 622] [(621,.W Qf b),(622,.W Xy c)] (FO d a b c) V.I (λ_=>[(621,.W Qf b),(622,.W Xy c)]):=
 W 13 func261 Z<|K [13,.o (.any (.own 11 2) (Q (.var [.clo (.func 262) [] [.L 621,.L 5],.I 3,.clo (.func 263) [] [.L 622,.L 4,.L 5],.I 5])))] Z (λe=>(a1_ (λσ f g O=>Stp.buildAny Z Z (Xk e.n Z) (Xg.es Z) ZZ Z (by decide) (by decide) (EB f Z) Z Z (O Z))))<|S 0 .fn [(621,11),(622,621),(623,5),(624,622),(625,4)] Qg9 Z λh=>E 4 Z
def LQ:O_ (Int⊕((Int×Int)⊕Unit)):=bif (m<(d.length:Int))then j_ (idx d m) λa=>j_ (FO m a c j) λb=>bif (b != 0)then Q (i_ (y_ (m,b)))else Q (y_ (Qe (m+1)))else Q (i_ (i_ ()))
def LR:O_ (Int×Int):=Q (a,g)
def LS : O_ (Int×Int):=Q (0,0)
def Iw:O_ (Int×Int):=j_ (Qh (λst=>LQ d c j st) 0) (Sum.elim (λq=>LR q.1 q.2) (λq=>LS))
def Qha {c a b}:CT 260 [.M 1 Qb c,.clo (.func 261) [] [.L 621,.L 622]] [(621,.W Qf a),(622,.W Xy b)] (Iw c a b) (λr=>(.tup [.I r.1,.I r.2])) (λ_=>[(621,.W Qf a),(622,.W Xy b)]):=
 W 25 func260 Z<|N 10 Z<|F 4 [1,9,10] [621,622] (λst=>([(11,.I st)],[])) [] [621,622] (λq=>(.ret,([(4,.I q.1),(5,.I q.2)],[]))) [] [621,622] (λq=>(.exit 0,([],[]))) Z (λh=>I 6 Z (J 7 Z λd=>S 10 .clo [(621,621),(622,622)] Qgg Z λe=>I 9 Z (L 11 Z)<|R 7 Z)<|X 2 Z) (λ⟨f,g⟩=>E 2 Z) (λ_=>E 9 Z)
def Ms:O_ Int:=j_ (Iw j c j) λa=>Q a.2
def QhU {a b}:CT 215 [.G Qf a,.M 1 Qb b] [] (Ms a b) V.I no_:=
 W 14 func215 Z<|S 11 .fn [(621,2),(622,3)] Qha Z λc=>E 14 Z
def Mt:O_ Int:=j_ (Ms c l.Cancel) λa=>Q a
def QhV {a b}:CT 214 [.L 621,.L 622] [(621,.W Qf a),(622,.W Qy b)] (Mt a b) V.I (λ_=>[(621,.W Qf a),(622,.W Qy b)]):=
 W 7 func214 Z<|A 10 QhU Z λc=>E 4 Z
def CN (d:Int):O_ (Bool×Int):=j_ (Mt c l) λa=>Q ((a==0),a)
def Qe5 {c e g}:CT 245 [.L 621,.L 624] [(621,.var [.clo (.func 214) [] [.L 622,.L 623]]),(622,.W Qf c),(623,.W Qy e),(624,.var [.L 625]),(625,.W Qb g)] (CN c e g) (λr=>(.b r.1)) (λr=>[(621,.var [.clo (.func 214) [] [.L 622,.L 623]]),(622,.W Qf c),(623,.W Qy e),(624,.var [.L 625]),(625,.W Qb r.2)]):=
 W 11 func245 Z<|B λh f=>BM 6 Z [.N,.N,.B (.any (.I h) none),.N,.m .s] [] [] [1] [621,622,623,624,625] Z Z (λi=>(a1_ (λσ j k _=>Stp.callSame (md:=.cm (.clo) [(621,622),(622,623)] [(622,621),(623,622)] [] [.d,.d] [(621,.W Qf c),(622,.W Qy e)] (.I h) [622,623]) Xg i j k Z (a2_ (QhV _ f) r2_)))) Z<|E 11 Z
def CO:O_ Bool:=
 Q ((1<=a)&&((a<=3)&&((a != 3)||((h3.length:Int)<=4))))
def Qag {e f}:CT 264 [.I e,.M 4 Yz f] [] (CO e f) V.b no_:=
 W 20 func264 Z<|T 6 [] [] ([(4,.b ((1<=e)&&((e<=3)&&((e != 3)||((f.length:Int)<=4)))))],[]) Z (H 4 Z (λa=>H 4 Z (λc=>H 3 Z (λd=>Y 7 4 Z (XB a (XB c (KO d Z)))) λd=>N 1 Z<|Y 5 4 Z (XB a (XB c (Yv d Z)))) λc=>Y 10 4 Z (XB a (Yh c Z))) λa=>Y 14 4 Z (Yh a Z))<|E 2 Z
def Qci:O_ Bool:=
 j_ (CO l.Join l.Ins) λb=>
 bif b then
 j_ (CO l.Split l.Outs) λc=>
 bif c then
 bif (0<=l.After)then
 bif (l.After<=65536)then
 Q (((l.Many.1==0)&&((l.Many.2.1==0)&&(l.Many.2.2==0)))||((1<=l.Many.1)&&((l.Many.1<=l.Many.2.1)&&((l.Many.2.1<=16)&&((1<=l.Many.2.2)&&(l.Many.2.2<=l.Many.2.1))))))
 else
 Q false
 else
 Q false
 else
 Q false
 else
 Q false
def Qcj:O_ Bool:=Q n
def Rr:O_ Bool:=j_ (Qci l) (λb=>Qcj b)
def QkL {a}:CT 217 [.G Qy a] [] (Rr a) V.b no_:=
 W 70 func217 Z<|D 7 Z (dz_ [(11,.N)]) [] [] [1,3,4,5] [1] Z Z U Z<|T 2 [1] [1] ([(6,.b (((a.Many.1==0)&&((a.Many.2.1==0)&&(a.Many.2.2==0)))||((1<=a.Many.1)&&((a.Many.1<=a.Many.2.1)&&((a.Many.2.1<=16)&&((1<=a.Many.2.2)&&(a.Many.2.2<=a.Many.2.1)))))))],[]) Z (K [4,.o (.any (.b ((a.Many.1==0)&&((a.Many.2.1==0)&&(a.Many.2.2==0)))) none),1] Z (λj=>(a1_ (λσ h m _=>Stp.eqAgg Z Z (Xk j.n Z) (h _ _ Z) (h _ _ Z) Z Z (QyB _ _ _ _ _ _))))<|H 0 Z (λc=>Y 23 6 Z (KO c Z)) λc=>H 3 Z (λd=>H 5 Z (λe=>H 4 Z (λf=>H 4 Z (λg=>Y 7 6 Z (Yv c (XB d (XB e (XB f (XB g Z)))))) λg=>Y 7 6 Z (Yv c (XB d (XB e (XB f (Yh g Z)))))) λf=>Y 11 6 Z (Yv c (XB d (XB e (Yh f Z))))) λe=>Y 15 6 Z (Yv c (XB d (Yh e Z)))) λd=>Y 20 6 Z (Yv c (Yh d Z)))<|mV_ 7 [] [] (λi=>([(2,.b i)],[])) Z (A 6 Qag Z λk=>I 1 Z (A 5 Qag Z λl=>I 2 Z (I 5 Z (I 5 Z (M 4 Z)<|M 4 Z)<|M 9 Z)<|M 14 Z)<|M 22 Z) λi=>E 2 Z
def Mu:O_ Bool:=j_ (Rr l) λb=>Q b
def QhW {a}:CT 216 [.L 621] [(621,.W Qy a)] (Mu a) V.b (λ_=>[(621,.W Qy a)]):=
 W 4 func216 Z<|A 8 QkL Z λc=>E 4 Z
def EH (h:Int)(y:Int)(i:Int)(j:Int)(b:Int)(f:Int)(m:Int)(n:Int):O_ (Int×Int):=j_ (On l) λo=>bif (!o)then Q (f1,h)else j_ (Oq f0 k l) λp=>bif (!p)then Q (h0,h)else j_ (Hj g2 l) λq=>bif (!q)then Q (j3,h)else j_ (CK f0 l h) λa=>bif (!a.1)then Q (y,a.2)else j_ (Hk f0 k) λr=>bif (!r)then Q (i,a.2)else j_ (Ou l g2) λs=>bif (!s)then Q (j,a.2)else j_ (CL f0 l g2 a.2) λd=>bif (!d.1)then Q (b,d.2)else j_ (CM f0 l g2 d.2) λe=>bif (!e.1)then Q (f,e.2)else j_ (CN f0 l e.2) λc=>bif (!c.1)then Q (m,c.2)else j_ (Mu l) λt=>bif (!t)then Q (n,c.2)else Q (0,c.2)
def Qhb {g h i j k l m p o a b c d e f}:CT 133 [.own 621 10] [(621,.var [.clo (.func 201) [] [.L 622],.I h,.clo (.func 202) [] [.L 623,.L 624,.L 625],.I k,.clo (.func 204) [] [.L 626,.L 622],.I m,.clo (.func 245) [] [.L 627,.L 628],.I o,.clo (.func 208) [] [.L 623,.L 624],.I a,.clo (.func 209) [] [.L 622,.L 626],.I b,.clo (.func 245) [] [.L 630,.L 631],.I c,.clo (.func 245) [] [.L 632,.L 633],.I d,.clo (.func 245) [] [.L 634,.L 635],.I e,.clo (.func 216) [] [.L 622],.I f]),(622,.W Qy g),(623,.W Qf i),(624,.W Qb j),(625,.var [.clo (.func 200) [] [.L 622]]),(626,.W Qb l),(627,.var [.clo (.func 206) [] [.L 623,.L 622]]),(628,.var [.L 629]),(629,.W Qb p),(630,.var [.clo (.func 211) [] [.L 623,.L 622,.L 626]]),(631,.var [.L 629]),(632,.var [.clo (.func 213) [] [.L 623,.L 622,.L 626]]),(633,.var [.L 629]),(634,.var [.clo (.func 214) [] [.L 623,.L 622]]),(635,.var [.L 629])] (EH g h i j k l m p o a b c d e f) (λr=>(.I r.1)) (λr=>[(621,.var [.clo (.func 201) [] [.L 622],.I h,.clo (.func 202) [] [.L 623,.L 624,.L 625],.I k,.clo (.func 204) [] [.L 626,.L 622],.I m,.clo (.func 245) [] [.L 627,.L 628],.I o,.clo (.func 208) [] [.L 623,.L 624],.I a,.clo (.func 209) [] [.L 622,.L 626],.I b,.clo (.func 245) [] [.L 630,.L 631],.I c,.clo (.func 245) [] [.L 632,.L 633],.I d,.clo (.func 245) [] [.L 634,.L 635],.I e,.clo (.func 216) [] [.L 622],.I f]),(622,.W Qy g),(623,.W Qf i),(624,.W Qb j),(625,.var [.clo (.func 200) [] [.L 622]]),(626,.W Qb l),(627,.var [.clo (.func 206) [] [.L 623,.L 622]]),(628,.var [.L 629]),(629,.W Qb r.2),(630,.var [.clo (.func 211) [] [.L 623,.L 622,.L 626]]),(631,.var [.L 629]),(632,.var [.clo (.func 213) [] [.L 623,.L 622,.L 626]]),(633,.var [.L 629]),(634,.var [.clo (.func 214) [] [.L 623,.L 622]]),(635,.var [.L 629])]):=
 W 18 func133 Z<|lN_ 14 11 Z<|vI_ 13 621 0 Z<|S 9 .clo [(621,622)] Qji Z λq=>I 3 Z (E 13 Z)<|rd_ 7 Z<|vI_ 13 621 2 Z<|gT_ [1,.kill 4,8] Z<|S 0 .clo [(621,623),(622,624),(623,625),(624,622)] Qjk Z λs=>I 3 Z (E 13 Z)<|rd_ 7 Z<|vI_ 13 621 4 Z<|gT_ [1,.kill 4,8] Z<|S 0 .clo [(621,626),(622,622)] Qjl Z λt=>I 3 Z (E 13 Z)<|rd_ 7 Z<|vI_ 13 621 6 Z<|gT_ [1,.kill 4,8] Z<|S 0 .clo [(621,627),(622,623),(623,622),(624,628),(625,629)] QhT Z λu=>I 3 Z (E 13 Z)<|rd_ 7 Z<|vI_ 13 621 8 Z<|gT_ [1,.kill 4,8] Z<|S 0 .clo [(621,623),(622,624)] Qjn Z λv=>I 3 Z (E 13 Z)<|rd_ 7 Z<|vI_ 13 621 10 Z<|gT_ [1,.kill 4,8] Z<|S 0 .clo [(621,622),(622,626)] Qjo Z λw=>I 3 Z (E 13 Z)<|rd_ 7 Z<|vI_ 13 621 12 Z<|gT_ [1,.kill 4,8] Z<|S 0 .clo [(621,630),(622,623),(623,622),(624,626),(625,631),(626,629)] Qe3 Z λx=>I 3 Z (E 13 Z)<|rd_ 7 Z<|vI_ 13 621 14 Z<|gT_ [1,.kill 4,8] Z<|S 0 .clo [(621,632),(622,623),(623,622),(624,626),(625,633),(626,629)] Qe4 Z λy=>I 3 Z (E 13 Z)<|rd_ 7 Z<|vI_ 13 621 16 Z<|gT_ [1,.kill 4,8] Z<|S 0 .clo [(621,634),(622,623),(623,622),(624,635),(625,629)] Qe5 Z λz=>I 3 Z (E 13 Z)<|rd_ 7 Z<|vI_ 13 621 18 Z<|gT_ [1,.kill 4,8] Z<|S 0 .clo [(621,622)] QhW Z λC=>I 3 Z (E 13 Z)<|rd_ 7 Z<|E 18 Z
def KU:O_ Int:=j_ (JR c.Tasks b) λg=>bif (!g)then Q 3 else j_ (CJ c) λf=>bif (f.2 != 0)then Q f.2 else j_ (idx c.Tasks b) λd=>j_ (idx c.Tasks b) λa=>j_ (Rq 0 c d) λh=>j_ (Ik 0 c d (a.Vars.length:Int)) λi=>j_ (Il 0 c d (a.Vars.length:Int)) λj=>j_ (Im 0 c d) λk=>j_ (EH d 1 c b 5 (a.Vars.length:Int) 2 0 (-1) 2 1 (-1) (-1) (-1) 11) λe=>bif (e.1==(-1))then Q e.2 else Q e.1
def QmK {e f}:CT 144 [.G Qf e,.I f] [] (KU e f) V.I no_:=
 W 68 func144 Z<|A 13 Mr Z λr=>I 3 Z (E 7 Z)<|A 6 Qaf Z λt=>I 13 Z (E 8 Z)<|B λg d=>B λb c=>D 3 Z [.N,.N,.N,.B (.row (Qy g)),.N,.a .no none true,.a .no none true,.a .no none true,.a (.row (Qy b)) none true,.a .no none true,.a .no none true,.a (.ln b.Vars.length) none true,.N,.N,.m .s,.m .s] [2,3] [2,3] [2,3,7,8] [2,3,7,8] Z Z (a3_ (XY d) (XY c) Qq) Z<|zA_ 22 .fn [(621,10),(622,2),(623,7)] [(45,2),(614,3),(10,621),(2,622),(7,623)] [] QkK Z λh=>zA_ 6 .fn [(621,10),(622,2),(623,7),(624,8)] [(52,2),(615,3),(10,621),(2,622),(7,623),(8,624)] [] Qg2 Z λi=>zA_ 2 .fn [(621,10),(622,2),(623,7),(624,8)] [(55,2),(616,3),(10,621),(2,622),(7,623),(8,624)] [] Qg3 Z λj=>zA_ 2 .fn [(621,10),(622,2),(623,7)] [(58,2),(617,3),(10,621),(2,622),(7,623)] [] Qg4 Z λk=>K [3,.o (.any (.own 62 10) (Q (.var [.clo (.func 201) [] [.L 7],.I 1,.clo (.func 202) [] [.L 2,.L 3,.L 9],.I 5,.clo (.func 204) [] [.L 8,.L 7],.I 2,.clo (.func 245) [] [.L 614,.L 45],.I (-1),.clo (.func 208) [] [.L 2,.L 3],.I 2,.clo (.func 209) [] [.L 7,.L 8],.I 1,.clo (.func 245) [] [.L 615,.L 52],.I (-1),.clo (.func 245) [] [.L 616,.L 55],.I (-1),.clo (.func 245) [] [.L 617,.L 58],.I (-1),.clo (.func 216) [] [.L 7],.I 11])))] Z (λl=>(a1_ (λσ p u O=>Stp.buildAny Z Z (Xk l.n Z) (Xg.es Z) ZZ Z (by decide) (by decide) (EB p Z) Z Z (O Z))))<|S 0 .fn [(621,62),(622,7),(623,2),(624,3),(625,9),(626,8),(627,614),(628,45),(629,10),(630,615),(631,52),(632,616),(633,55),(634,617),(635,58)] Qhb Z λq=>I 10 Z (E 8 Z)<|E 9 Z
def Li (d:QF)(b:Qd):O_ Int:=j_ (KU b a) λc=>Q c
def QkM {b c a}:CT 143 [.I b,.G Qy c,.L 621] [(621,.W Qf a)] (Li b c a) V.I (λ_=>[(621,.W Qf a)]):=
 W 9 func143 Z<|A 10 QmK Z λd=>E 4 Z
def WS (d:(L_ QF))(e:Qd)(a:Int):O_ (Int⊕((Int×Int)⊕Unit)):=bif (a<(d.length:Int))then j_ (idx d a) λc=>j_ (Li a c e) λb=>bif (b != 0)then Q (i_ (y_ (a,b)))else Q (y_ (Qe (a+1)))else Q (i_ (i_ ()))
def Bo:O_ (Int×Int):=Q (a,g)
def Bp : O_ (Int×Int):=Q (0,0)
def Wz (a:(L_ QF))(b:Qd):O_ (Int×Int):=j_ (Qh (λst=>WS a b st) 0) (Sum.elim (λq=>Bo q.1 q.2) (λq=>Bp))
def Qck {b a}:CT 142 [.M 14 Qy b,.clo (.func 143) [] [.L 621]] [(621,.W Qf a)] (Wz b a) (λr=>(.tup [.I r.1,.I r.2])) (λ_=>[(621,.W Qf a)]):=
 W 25 func142 Z<|N 10 Z<|F 4 [1,9,10] [621] (λst=>([(11,.I st)],[])) [] [621] (λq=>(.ret,([(4,.I q.1),(5,.I q.2)],[]))) [] [621] (λq=>(.exit 0,([],[]))) Z (λf=>I 6 Z (J 7 Z λc=>S 11 .clo [(621,621)] QkM Z λd=>I 9 Z (L 11 Z)<|R 7 Z)<|X 2 Z) (λ⟨g,e⟩=>E 2 Z) (λ_=>E 9 Z)
def AR:O_ (Int×ZC):=j_ (Rn c 2 3 1) λe=>bif (e != 0)then Q (e,(ZC.mk 1 0))else j_ (CJ c) λd=>bif (d.2 != 0)then Q (d.2,(ZC.mk 2 d.1))else j_ (Uf c.Places c) λa=>bif (a.2 != 0)then Q (a.2,(ZC.mk 3 a.1))else j_ (Wz c.Tasks c) λb=>bif (b.2 != 0)then Q (b.2,(ZC.mk 4 b.1))else Q (0,(ZC.mk 0 0))
def QoD {a}:CT 85 [.G Qf a] [] (AR a) (λr=>(.tup [.G Qur r.2,.I r.1])) no_:=
 W 58 func85 Z<|K [15,.o (.any (.own 17 3) (Q (.var [.clo (.func 134) [] [.L 1],.I 2,.clo (.func 135) [] [.L 1],.I 3,.clo (.func 137) [] [.L 1],.I 1])))] Z (λb=>(a1_ (λσ c f O=>Stp.buildAny Z Z (Xk b.n Z) (Xg.es Z) ZZ Z (by decide) (by decide) (EB c Z) Z Z (O Z))))<|S 0 .fn [(621,17),(622,1)] QkG Z λg=>I 10 Z (E 10 Z)<|A 6 Qaf Z λh=>I 13 Z (E 11 Z)<|S 8 .fn [(621,1)] Qbi Z λd=>I 13 Z (E 11 Z)<|S 8 .fn [(621,1)] Qck Z λe=>I 13 Z (E 11 Z)<|E 10 Z
def Qdx:O_ Bool:=j_ (DL f) λc=>bif (!c)then Q true else bif (0<(f.length:Int))then j_ (idx f (Qe ((f.length:Int)-1))) λd=>Q (decide (b<=d.1))else Q false
def Qdy:O_ (Int⊕(Unit⊕Unit)):=bif n then Q (i_ (y_ ()))else Q (y_ (Qe (a+1)))
def TY:O_ (Int⊕(Unit⊕Unit)):=bif (k<(e.length:Int))then j_ (idx e k) λg=>j_ (idx f0.Places k) λb=>j_ (YK f0.Colours b.Colour) λc=>j_ (Qdx g c) (λd=>Qdy k d)else Q (i_ (i_ ()))
def TZ:O_ Bool:=bif ((e.length:Int) != (c.Places.length:Int))then Q false else j_ (Qh (λst=>TY e c st) 0) (Sum.elim (λq=>Q false) (λq=>Q true))
def QmN {j k}:CT 86 [.G Qf j,.M 1 Qk k] [] (TZ j k) V.b no_:=
 W 50 func86 Z<|N 10 Z<|N 2 Z<|I 3 Z (E 7 Z)<|N 6 Z<|F 4 [2,14,15] [2] (λst=>([(16,.I st)],[])) [] [] (λq=>(.ret,([(4,.b false)],[]))) [] [] (λq=>(.exit 0,([],[]))) Z (λn=>I 6 Z (J 7 Z λo=>B λh e=>B λi f=>D 6 Z (dz_ [(5,.B (.row (QW h))),(2,.B (.C2 (.I i))),(0,.N)]) [] [] [2,6,7,14,15,16] [2] Z Z (a2_ (XY e) (HY _ f)) Z<|mV_ 2 [2,14,15,16] [2] (λg=>([(48,.b g)],[])) Z (A 2 NO Z λl=>I 2 Z (M 16 Z)<|N 1 Z<|I 2 Z (N 2 Z<|J 1 Z λm=>M 7 Z)<|M 12 Z) λg=>I 1 Z (L 8 Z)<|R 7 Z)<|X 2 Z) (λ_=>E 2 Z) (λ_=>E 8 Z)
def Va (a:(Int×ZC))(c:Qd)(d:QMk):O_ Bool:=bif (a.1 != 0)then Q true else j_ (TZ c d) λb=>Q (!b)
def Vb:O_ ((Int×Int)⊕Int):=bif (i<(c.Tasks.length:Int))then j_ (idx c.Tasks i) λa=>j_ (Gd c i) λe=>Q (y_ ((Qe (b+(Qe (e*(Qe (1+(Qe ((a.Ins.length:Int)*(a.Outs.length:Int))))))))),(Qe (i+1))))else Q (i_ b)
def Vc:O_ Bool:=bif p then Q false else j_ (Qh (λst=>Vb c st.1 st.2) (0,0)) (λq=>Q (decide (q<=600)))
def Hl:O_ Bool:=
 j_ (Fq c) λa=>
 j_ (ZI e) λf=>
 bif ((!a)||((!f)||(12<(c.Tasks.length:Int))))then
 Q false
 else
 j_ (AR c) λb=>
 j_ (Va b c e) (λd=>Vc c d)
def QmP {l o}:CT 48 [.G Qf l,.M 1 Qk o] [] (Hl l o) V.b no_:=
 W 69 func48 Z<|A 9 Qe2 Z λp=>A 6 QoC Z λr=>T 5 [1,2] [2] ([(27,.b ((!p)||((!r)||(12<(l.Tasks.length:Int)))))],[]) Z (H 4 Z (λe=>Y 10 27 Z (KO e Z)) λe=>H 4 Z (λf=>Y 6 27 Z (Yv e (KO f Z))) λf=>N 2 Z<|Y 3 27 Z (Yv e (Yv f Z)))<|I 1 Z (E 7 Z)<|A 5 QoD Z λt=>mV_ 10 [2] [2] (λg=>([(40,.b g)],[])) Z (I 4 Z (M 6 Z)<|A 2 QmN Z λu=>M 3 Z) λg=>I 1 Z (E 7 Z)<|lA_ 14 [2] [2] (λst=>([(9,.I st.1),(10,.I st.2)],[])) [] [] (λq=>(.exit 0,([(9,.I q)],[]))) Z (λ⟨j,v⟩=>N 6 Z<|I 3 Z (J 9 Z λh=>B λn i=>D 5 Z (dz_ [(3,.B (.C2 (.I n))),(2,.B (.ln h.Ins.length)),(2,.B (.ln h.Outs.length)),(4,.m .s)]) [] [] [2,9,10] [2] Z Z (a3_ (Qch _ i) Qq Qq) Z<|R 7 Z)<|X 2 Z) λk=>E 10 Z
def Qdz:O_ Bool:=bif n then bif (b<=12)then bif ((f0.Tasks.length:Int)<=6)then j_ (Bc d3) λa=>Q (decide (a<=30))else Q false else Q false else Q false
def QdA:O_ Bool:=Q n
def Vd:O_ Bool:=j_ (Hl c e) λd=>j_ (Qdz d o c e) (λa=>QdA a)
def QmQ {c d a}:CT 25 [.G Qf c,.M 1 Qk d,.I a] [] (Vd c d a) V.b no_:=
 W 27 func25 Z<|A 10 QmP Z λg=>mV_ 4 [] [] (λe=>([(6,.b e)],[])) Z (I 3 Z (I 4 Z (N 2 Z<|I 3 Z (A 1 Qdh Z λf=>M 4 Z)<|M 6 Z)<|M 12 Z)<|M 16 Z) λe=>E 2 Z
def Hm:O_ Bool:=
 j_ (Fq c) λe=>
 bif ((!e)||((16<b)||((6<(c.Tasks.length:Int))||(8<(c.Places.length:Int)))))then
 Q false
 else
 j_ (DM c) λa=>
 j_ (Vd c a (min2 b 12)) λd=>
 Q d
def QmR {l e}:CT 7 [.G Qf l,.I e] [] (Hm l e) V.b no_:=
 W 32 func7 Z<|A 9 Qe2 Z λn=>T 5 [1,2] [2] ([(25,.b ((!n)||((16<e)||((6<(l.Tasks.length:Int))||(8<(l.Places.length:Int))))))],[]) Z (H 4 Z (λf=>Y 16 25 Z (KO f Z)) λf=>H 4 Z (λg=>Y 12 25 Z (Yv f (KO g Z))) λg=>N 2 Z<|H 3 Z (λh=>Y 6 25 Z (Yv f (Yv g (KO h Z)))) λh=>N 2 Z<|Y 3 25 Z (Yv f (Yv g (Yv h Z))))<|I 1 Z (E 7 Z)<|B λi j=>B λm k=>D 3 Z [.N,.N,.B (.cd false [.d] 1 (i.map Qk) i.length),.N,.N,.B (.C3 (.b m)),.N] [] [] [4] [] Z Z (a2_ ⟨(Tr _ j),Qq⟩ (QmQ _ k)) Z<|E 2 Z
def So:O_ Bool:=j_ (idx f b) λg=>bif (g.1<0)then Q true else j_ (idx f b) λc=>bif (c.2<1)then Q true else j_ (idx f b) λd=>bif (1048576<d.2)then Q true else bif (0<b)then j_ (idx f b) λe=>j_ (idx f (Qe (b-1))) λa=>Q (decide (e.1<=a.1))else Q false
def Sq:O_ (Int⊕(Unit⊕Unit)):=bif n then Q (i_ (y_ ()))else Q (y_ (Qe (a+1)))
def KK:O_ (Int⊕(Unit⊕Unit)):=bif (b<(f.length:Int))then j_ (So f b) (λc=>Sq b c)else Q (i_ (i_ ()))
def Jk:O_ Bool:=j_ (Qh (λst=>KK f st) 0) (Sum.elim (λq=>Q false) (λq=>Q true))
def WT {r}:CT 157 [.M 2 QI r] [] (Jk r) V.b no_:=
 W 50 func157 Z<|F 12 [0] [] (λst=>([(3,.I st)],[])) [] [] (λq=>(.ret,([(2,.b false)],[]))) [] [] (λq=>(.exit 0,([],[]))) Z (λt=>N 5 Z<|I 3 Z (mV_ 5 [0,3] [] (λs=>([(49,.b s)],[])) Z (B λl g=>jF_ (λc=>D 0 Z (dz_ [(2,.B (.row (QI l))),(3,.E (.b true)),(32,.N)]) [] [] [0,3,49] [] Z Z (a2_ (XY g) (cb_ c)) Z<|M 0 Z) λc=>B λj e=>jF_ (λd=>D 0 Z (dz_ [(2,.B (.row (QI l))),(3,.E (.b false)),(2,.B (.row (QI j))),(4,.E (.b true)),(24,.N)]) [] [] [0,3,49] [] Z Z (a4_ (XY g) (cb_ c) (XY e) (cb_ d)) Z<|M 0 Z) λd=>B λk h=>jF_ (λf=>D 0 Z (dz_ [(2,.B (.row (QI l))),(3,.E (.b false)),(2,.B (.row (QI j))),(4,.E (.b false)),(2,.B (.row (QI k))),(4,.E (.b true)),(16,.N)]) [] [] [0,3,49] [] Z Z (a6_ (XY g) (cb_ c) (XY e) (cb_ d) (XY h) (cb_ f)) Z<|M 0 Z) λf=>jF_ (λi=>B λo m=>B λp n=>D 0 Z (dz_ [(2,.B (.row (QI l))),(3,.E (.b false)),(2,.B (.row (QI j))),(4,.E (.b false)),(2,.B (.row (QI k))),(4,.E (.b false)),(2,.E (.b true)),(2,.B (.row (QI o))),(5,.B (.row (QI p))),(4,.N)]) [] [] [0,3,49] [] Z Z (a9_ (XY g) (cb_ c) (XY e) (cb_ d) (XY h) (cb_ f) (cb_ i) (XY m) (XY n)) Z<|M 0 Z) λi=>D 0 Z (dz_ [(2,.B (.row (QI l))),(3,.E (.b false)),(2,.B (.row (QI j))),(4,.E (.b false)),(2,.B (.row (QI k))),(4,.E (.b false)),(2,.E (.b false)),(13,.N)]) [] [] [0,3,49] [] Z Z (a7_ (XY g) (cb_ c) (XY e) (cb_ d) (XY h) (cb_ f) (cb_ i)) Z<|M 0 Z) λs=>I 1 Z (L 8 Z)<|R 8 Z)<|X 2 Z) (λ_=>E 2 Z) (λ_=>E 8 Z)
def Gk:O_ (Int⊕(Int⊕Unit)):=bif ((h0<(f.length:Int))&&p)then j_ (idx f h0) λc=>bif (c.1==k)then j_ (idx f h0) λd=>Q (i_ (y_ d.2))else Q (y_ (Qe (h0+1)))else Q (i_ (i_ ()))
def Ci:O_ Int:=j_ (Jk f) λc=>j_ (Qh (λst=>Gk f c b st) 0) (Sum.elim (λq=>Q q) (λq=>Q 0))
def Sr {c d}:CT 158 [.M 2 QI c,.I d] [] (Ci c d) V.I no_:=
 W 30 func158 Z<|A 8 WT Z λe=>F 10 [0,1,5] [] (λst=>([(6,.I st)],[])) [] [] (λq=>(.ret,([(4,.I q)],[]))) [] [] (λq=>(.exit 0,([],[]))) Z (λf=>T 2 [0,1,5,6] [] ([(15,.b ((f<(c.length:Int))&&e))],[]) Z (N 3 Z<|H 2 Z (λa=>Y 3 15 Z (XB a Z)) λa=>Y 3 15 Z (Yh a Z))<|I 1 Z (J 8 Z λg=>I 6 Z (J 4 Z λh=>L 8 Z)<|R 8 Z)<|X 2 Z) (λi=>E 2 Z) (λ_=>E 8 Z)
def Mv:O_ ((Bool×Int×QBg)⊕(Bool×QBg)):=Q (y_ (n,(Qe (a+1)),f))
def CQ:O_ ((Bool×Int×QBg)⊕(Bool×QBg)):=j_ (idx f b) λe=>bif (e.1 != i)then j_ (idx f b) λc=>j_ (chk (e1.length+([c]:QBg).length<=4294967296)) λ_=>Mv b p (e1++([c]:QBg))else Mv b p e1
def QdB:O_ Bool:=bif (!n)then j_ (idx f b) λa=>Q (decide (i<=a.1))else Q false
def Mw:O_ ((Bool×Int×QBg)⊕(Bool×QBg)):=CQ f b i true e1
def QdC (c:Bool)(g:Bool):O_ ((Bool×Int×QBg)⊕(Bool×QBg)):=bif g then bif (0<a)then j_ (chk (f.length+([(b,a)]:QBg).length<=4294967296)) λ_=>Mw e1 h0 b (f++([(b,a)]:QBg))else Mw e1 h0 b f else CQ e1 h0 b c f
def UR:O_ ((Bool×Int×QBg)⊕(Bool×QBg)):=bif (k<(f.length:Int))then j_ (QdB p f k b) (λd=>QdC i e1 b f k p d)else Q (i_ (p,e1))
def Mx:O_ QBg:=Q f
def Ve:O_ QBg:=bif ((!n)&&(0<a))then j_ (chk (f.length+([(g,a)]:QBg).length<=4294967296)) λ_=>Mx (f++([(g,a)]:QBg))else Mx f
def Np:O_ QBg:=j_ (Qh (λst=>UR f b i st.1 st.2.1 st.2.2) (false,0,([]:QBg))) (λq=>Ve i b q.1 q.2)
def QdD {k l m}:CT 159 [.M 2 QI k,.I l,.I m] [] (Np k l m) (λr=>(.P 600 r)) (λr=>[(600,.R 2 QI r)]):=
 W 62 func159 Z<|aD_ 22 7 29 2 Z<|lA_ 0 [0,1,2] [] (λst=>([(7,.P 29 st.2.2),(8,.b st.1),(9,.I st.2.1)],[(29,.R 2 QI st.2.2)])) [1,2] [] (λq=>(.exit 0,([(7,.P 29 q.2),(8,.b q.1)],[(29,.R 2 QI q.2)]))) Z (λ⟨o,p,w⟩=>N 5 Z<|I 3 Z (mF_ 2 [0,1,2,9] [] (λ(a:Bool) (d:QBg)=>([(7,.P 29 d),(8,.b a)],[(29,.R 2 QI d)])) (λa d=>Mv p a d) Z (mF_ 1 [0,1,2,9] [] (λ(c:Bool) (e:QBg)=>([(7,.P 29 e),(8,.b c)],[(29,.R 2 QI e)])) (λc e=>CQ k p l c e) Z (mV_ 1 [0,1,2,7,8,9] [29] (λj=>([(26,.b j)],[])) Z (I 4 Z (J 2 Z λs=>M 6 Z)<|M 9 Z) λj=>I 1 Z (mE_ 0 [0,1,2,9] [] (λf:QBg=>([(7,.P 29 f)],[(29,.R 2 QI f)])) (λf=>Mw k p l f) Z (I 6 Z (pA_ 5 2 QI Z<|P 2 Z Z)<|P 1 Z Z) λf=>fA_ 3 Z Z)<|fA_ 1 Z Z) λc e=>J 4 Z λt=>I 6 Z (J 4 Z λu=>pA_ 1 2 QI Z<|fA_ 3 Z Z)<|fA_ 2 Z Z) λa d=>R 5 Z)<|X 2 Z) λ⟨i,v⟩=>mE_ 2 [] [] (λg:QBg=>([(7,.P 29 g)],[(29,.R 2 QI g)])) (λg=>Mx g) Z (T 1 [1,2,7] [29] ([(54,.b ((!i)&&(0<m)))],[]) Z (H 4 Z (λh=>Y 4 54 Z (XB h Z)) λh=>Y 4 54 Z (Yh h Z))<|I 1 Z (pA_ 5 2 QI Z<|P 2 Z Z)<|P 1 Z Z) λg=>gT_ [7,.ren 29 600] Z<|E 0 Z
def Qe6:O_ Bool:=j_ (Jk f) λd=>bif (!d)then Q true else j_ (Jk l0) λa=>Q (!a)
def EI:O_ ((Int×QBg)⊕(Unit⊕QBg)):=bif (b<(f.length:Int))then j_ (idx f b) λa=>j_ (Ci e1 a.1) λc=>j_ (idx f b) λd=>bif (1048576<(Qe (c+d.2)))then Q (i_ (y_ ()))else j_ (idx f b) λg=>j_ (Np e1 g.1 (Qe (c+d.2))) λh=>Q (y_ ((Qe (b+1)),h))else Q (i_ (i_ e1))
def Qe7:O_ (QBg×Int):=bif p then Q (([]:QBg),1)else j_ (chk (([]:QBg).length+f.length<=4294967296)) λ_=>j_ (Qh (λst=>EI l0 st.1 st.2) (0,(([]:QBg)++f))) (Sum.elim (λq=>Q (([]:QBg),2)) (λq=>Q (q,0)))
def AS:O_ (QBg×Int):=j_ (Qe6 f l0) (λc=>Qe7 f l0 c)
def Zd {l m}:CT 102 [.M 2 QI l,.M 2 QI m] [] (AS l m) (λr=>(.tup [.M 2 QI r.1,.I r.2])) no_:=
 W 50 func102 Z<|mV_ 8 [0,1] [] (λp=>([(16,.b p)],[])) Z (A 2 WT Z λx=>I 2 Z (M 5 Z)<|A 1 WT Z λs=>M 3 Z) λp=>I 1 Z (gT_ [8,.denil 4 [Q 2]] Z<|E 0 Z)<|pB_ 6 QI Z<|gT_ [10,.ren 17 605] Z<|F 0 [1] [] (λst=>([(6,.P 605 st.2),(7,.I st.1)],[(605,.R 2 QI st.2)])) [] [] (λq=>(.ret,([(4,.Y),(5,.I 2)],[]))) [] [] (λq=>(.exit 0,([(6,.P 605 q)],[(605,.R 2 QI q)]))) Z (λ⟨t,e⟩=>N 5 Z<|I 3 Z (B λi f=>B λj g=>B λk h=>D 5 Z (dz_ [(3,.B (.row (QI i))),(2,.B (.c true [.o (e.map QI),.d] (.I j))),(2,.B (.row (QI k))),(3,.N)]) [] [] [1,6,7,8] [605] Z Z (a3_ (XY f) ⟨(Qoa Z),(Sr _ g)⟩ (XY h)) Z<|I 8 Z (L 10 Z)<|J 6 Z λu=>G [3,.frz 605 (e.map QI) [6,41] []] Z (a2_ (Kj Qq) (Kj Qq))<|oC_ 0 [.d,.d,.d] QdD Z λv=>gT_ [9,.ren 48 605] Z<|R 0 Z)<|X 2 Z) (λ_=>gT_ [2,.denil 4 [Q 2]] Z<|E 0 Z) (λw=>zF_ 10 605 [4] [] Z<|E 0 Z)
def Ix:O_ ((Int×QMk)⊕QMk):=j_ (chk (e.length+([e1]:L_ QBg).length<=4294967296)) λ_=>Q (y_ ((Qe (o+1)),(e++([e1]:L_ QBg))))
def Iy:O_ ((Int×QMk)⊕QMk):=bif (b<(c.Places.length:Int))then j_ (idx c.Places b) λa=>j_ (chk (([]:QBg).length+a.First.length<=4294967296)) λ_=>bif (b==c.From)then j_ (AS (([]:QBg)++a.First) ([(0,1)]:QBg)) λd=>bif (d.2==0)then Ix e b d.1 else Ix e b (([]:QBg)++a.First)else Ix e b (([]:QBg)++a.First)else Q (i_ e)
def Ru:O_ QMk:=j_ (Qh (λst=>Iy c st.1 st.2) (0,([]:L_ QBg))) (λq=>Q q)
def QkS {c}:CT 59 [.G Qf c] [] (Ru c) (λr=>(.P 600 r)) (λr=>[(600,.R 1 Qk r)]):=
 W 42 func59 Z<|aD_ 18 3 37 1 Z<|lA_ 0 [1] [1] (λst=>([(3,.P 37 st.2),(4,.I st.1)],[(37,.R 1 Qk st.2)])) [] [] (λq=>(.exit 0,([(3,.P 37 q)],[(37,.R 1 Qk q)]))) Z (λ⟨d,e⟩=>N 6 Z<|I 3 Z (J 10 Z λb=>pB_ 2 QI Z<|mE_ 3 [1,3,4] [1,37] (λa:QBg=>([(5,.M 2 QI a)],[])) (λa=>Ix e d a) Z (I 8 Z (g2_ [4,.v (.bd []) [] (.sl 2 (([(0,1)]:QBg).map QI)),.frz 15 ((([]:QBg)++b.First).map QI) [5,22,28] []] Z Z (a3_ (Kj Qq) (Kj Qq) (Kj Qq))<|A 0 Zd Z λf=>I 13 Z (P 4 Z Z)<|P 1 Z Z)<|zF_ 1 15 [5] [] Z<|P 0 Z Z) λa=>pA_ 3 1 Qk Z<|R 9 Z)<|X 2 Z) λg=>gT_ [9,.ren 37 600] Z<|E 0 Z
def WU:O_ ((Int×Int)⊕Int):=bif ((h0<(f.length:Int))&&p)then j_ (idx f h0) λb=>Q (y_ ((Qe (k+b.2)),(Qe (h0+1))))else Q (i_ k)
def Qcl:O_ Int:=Q a
def Ej:O_ Int:=j_ (Jk f) λb=>j_ (Qh (λst=>WU f b st.1 st.2) (0,0)) (λq=>Qcl q)
def Ss {c}:CT 150 [.M 2 QI c] [] (Ej c) V.I no_:=
 W 25 func150 Z<|A 8 WT Z λd=>lA_ 15 [0,3] [] (λst=>([(4,.I st.1),(5,.I st.2)],[])) [] [] (λq=>(.exit 0,([(4,.I q)],[]))) Z (λ⟨g,e⟩=>T 2 [0,3,4,5] [] ([(14,.b ((e<(c.length:Int))&&d))],[]) Z (N 3 Z<|H 2 Z (λa=>Y 3 14 Z (XB a Z)) λa=>Y 3 14 Z (Yh a Z))<|I 1 Z (J 8 Z λf=>R 12 Z)<|X 2 Z) λh=>E 9 Z
def Iz:O_ ((Int×Int)⊕Int):=bif (i0<(e.length:Int))then j_ (idx e i0) λa=>j_ (Ej a) λb=>Q (y_ ((Qe (o+b)),(Qe (i0+1))))else Q (i_ o)
def Rv:O_ Int:=j_ (Qh (λst=>Iz e st.1 st.2) (0,0)) (λq=>Q q)
def QkU {a}:CT 98 [.M 1 Qk a] [] (Rv a) V.I no_:=
 W 19 func98 Z<|lA_ 17 [0] [] (λst=>([(3,.I st.1),(4,.I st.2)],[])) [] [] (λq=>(.exit 0,([(3,.I q)],[]))) Z (λ⟨c,d⟩=>N 5 Z<|I 3 Z (J 8 Z λe=>A 1 Ss Z λb=>R 10 Z)<|X 2 Z) λf=>E 9 Z
def Qah:O_ ((Int×LI_)⊕LI_):=bif (g<a)then j_ (chk (d.length+([g]:L_ Int).length<=4294967296)) λ_=>Q (y_ ((Qe (g+1)),(d++([g]:L_ Int))))else Q (i_ d)
def CR:O_ QLL:=Q k0
def Nq:O_ ((Int×Int×LI_)⊕LI_):=Q (y_ ((Qe (Int.tdiv a 2)),(Qe (g+1)),d))
def VK:O_ QLL:=bif (a==1)then Q ([d]:QLL)else bif (a==2)then j_ (Qh (λst=>bif (st.1<g)then j_ (chk (st.2.length+([([st.1]:L_ Int)]:QLL).length<=4294967296)) λb=>Q (y_ ((Qe (st.1+1)),(st.2++([([st.1]:L_ Int)]:QLL))))else Q (i_ st.2)) (0,([]:QLL))) (λq=>CR q)else bif (a==3)then j_ (Qh (λst=>bif (st.2<g)then Q (y_ ((Qe (2*st.1)),(Qe (st.2+1))))else Q (i_ st.1)) (1,0)) (λq=>j_ (Qh (λe=>bif (e.1<q)then j_ (Qh (λf=>bif (f.2.1<g)then bif ((Int.tmod f.1 2)==1)then j_ (chk (f.2.2.length+([f.2.1]:L_ Int).length<=4294967296)) λk=>Nq f.1 f.2.1 (f.2.2++([f.2.1]:L_ Int))else Nq f.1 f.2.1 f.2.2 else Q (i_ f.2.2)) (e.1,0,([]:L_ Int))) (λl=>j_ (chk (e.2.length+([l]:QLL).length<=4294967296)) λm=>Q (y_ ((Qe (e.1+1)),(e.2++([l]:QLL)))))else Q (i_ e.2)) (1,([]:QLL))) (λn=>CR n))else CR ([]:QLL)
def GO:O_ QLL:=
 bif ((g<0)||((16<g)||((a==3)&&(4<g))))then
 Q ([]:QLL)
 else
 j_ (Qh (λst=>Qah g st.1 st.2) (0,([]:L_ Int))) (λq=>VK a g q)
def Nr {c a}:CT 265 [.I c,.I a] [] (GO c a) (λr=>(.P 600 r)) (λr=>[(600,.R 1 Xy r)]):=
 W 89 func265 Z<|T 7 [0,1] [] ([(28,.b ((a<0)||((16<a)||((c==3)&&(4<a)))))],[]) Z (H 4 Z (λd=>Y 12 28 Z (KO d Z)) λd=>H 4 Z (λg=>Y 8 28 Z (Yv d (KO g Z))) λg=>H 3 Z (λh=>Y 5 28 Z (Yv d (Yv g (XB h Z)))) λh=>Y 5 28 Z (Yv d (Yv g (Yh h Z))))<|I 1 Z (aD_ 7 4 600 1 Z<|E 0 Z)<|aD_ 19 6 34 1 Z<|lA_ 0 [0,1,5] [] (λst=>([(6,.P 34 st.2),(7,.I st.1)],[(34,.R 1 Qb st.2)])) [0,1,5] [] (λq=>(.exit 0,([(6,.P 34 q)],[(34,.R 1 Qb q)]))) Z (λ⟨s,t⟩=>I 8 Z (pA_ 7 1 Qb Z<|R 9 Z)<|X 2 Z) λi=>mE_ 2 [] [] (λe:QLL=>([(5,.P 604 e)],[(604,.R 1 Xy e)])) (λe=>CR e) Z (I 12 Z (g2_ [3,.frz 34 (i.map Qb) [6,41] [],1,.O 42 (.arr 1 (([i]:QLL).map Xy)),6,.ren 42 600] Z (a2_ (Kj Qq) (Kj Qq)) Z<|E 0 Z)<|I 6 Z (aD_ 6 5 50 1 Z<|lA_ 0 [1] [] (λst=>([(5,.P 50 st.2),(8,.I st.1)],[(50,.R 1 Xy st.2)])) [] [] (λq=>(.exit 3,([(5,.P 50 q)],[(50,.R 1 Xy q)]))) Z (λ⟨j,u⟩=>I 8 Z (G [7,.v (.bd []) [] (.sl 1 (([j]:L_ Int).map Qb))] Z Z<|pA_ 0 1 Xy Z<|R 9 Z)<|X 2 Z) λw=>gT_ [2,.ren 50 604] Z<|P 0 Z Z)<|I 6 Z (lA_ 12 [1,5] [] (λst=>([(9,.I st.1),(10,.I st.2)],[])) [1,5] [] (λq=>(.exit 5,([(9,.I q)],[]))) Z (λ⟨k,x⟩=>I 8 Z (R 16 Z)<|X 2 Z) λl=>aD_ 8 5 84 1 Z<|lA_ 0 [1,9] [] (λst=>([(5,.P 84 st.2),(11,.I st.1)],[(84,.R 1 Xy st.2)])) [] [] (λq=>(.exit 7,([(5,.P 84 q)],[(84,.R 1 Xy q)]))) Z (λ⟨y,z⟩=>I 8 Z (aD_ 22 12 78 1 Z<|lA_ 0 [1,5,9,11] [84] (λst=>([(12,.P 78 st.2.2),(13,.I st.1),(14,.I st.2.1)],[(78,.R 1 Qb st.2.2)])) [1,5,9,11] [84] (λq=>(.exit 9,([(12,.P 78 q)],[(78,.R 1 Qb q)]))) Z (λ⟨m,o,C⟩=>I 8 Z (mE_ 4 [1,5,9,11,13,14] [84] (λf:LI_=>([(12,.P 78 f)],[(78,.R 1 Qb f)])) (λf=>Nq m o f) Z (G [7] Z (by decide)<|I 0 Z (pA_ 3 1 Qb Z<|P 2 Z Z)<|P 1 Z Z) λf=>G [12] Z (by decide)<|R 0 Z)<|X 2 Z) λp=>G [5,.frz 78 (p.map Qb) [12,85] []] Z (a2_ (Kj Qq) (Kj Qq))<|pA_ 0 1 Xy Z<|R 9 Z)<|X 2 Z) λa0=>gT_ [2,.ren 84 604] Z<|P 0 Z Z)<|aD_ 2 5 604 1 Z<|P 0 Z Z) λe=>gT_ [7,.ren 604 600] Z<|E 0 Z
def Oy:O_ Bool:=
 Q (bif (97<=a)then((a<=122)||((65<=a)&&(a<=90)))else((65<=a)&&(a<=90)))
def QaN {d}:CT 322 [.i .u8 d] [] (Oy d) V.b no_:=
 W 17 func322 Z<|T 6 [] [] ([(2,.b (bif (97<=d)then((d<=122)||((65<=d)&&(d<=90)))else((65<=d)&&(d<=90))))],[]) Z (H 4 Z (λa=>H 4 Z (λc=>Y 9 2 Z (LC a (KO c Z))) λc=>H 3 Z (λe=>Y 6 2 Z (LC a (Yv c (XB e Z)))) λe=>Y 6 2 Z (LC a (Yv c (Yh e Z)))) λa=>H 7 Z (λf=>Y 6 2 Z (Qar a (XB f Z))) λf=>Y 6 2 Z (Qar a (Yh f Z)))<|E 2 Z
def QaA:O_ Bool:=Q ((48<=a)&&(a<=57))
def QkV {c}:CT 323 [.i .u8 c] [] (QaA c) V.b no_:=
 W 9 func323 Z<|T 6 [] [] ([(2,.b ((48<=c)&&(c<=57)))],[]) Z (H 4 Z (λa=>Y 5 2 Z (XB a Z)) λa=>Y 5 2 Z (Yh a Z))<|E 2 Z
def Vf:O_ Bool:=bif ((g1.size:Int)<1)then Q true else bif (32<(g1.size:Int))then Q true else j_ (sidx g1 0) λb=>j_ (Oy b) λc=>Q (!c)
def QdE:O_ Bool:=j_ (sidx g1 l1) λc=>j_ (Oy c) λd=>bif (!d)then j_ (sidx g1 l1) λe=>j_ (QaA e) λf=>bif (!f)then j_ (sidx g1 l1) λg=>Q (g != 95)else Q false else Q false
def QdF:O_ (Int⊕(Unit⊕Unit)):=bif n then Q (i_ (y_ ()))else Q (y_ (Qe (a+1)))
def My:O_ (Int⊕(Unit⊕Unit)):=bif (l1<(g1.size:Int))then j_ (QdE g1 l1) (λb=>QdF l1 b)else Q (i_ (i_ ()))
def QdG:O_ Bool:=bif p then Q false else j_ (Qh (λst=>My g1 st) 0) (Sum.elim (λq=>Q false) (λq=>Q true))
def Ns:O_ Bool:=j_ (Vf g1) (λb=>QdG g1 b)
def QdH {j}:CT 312 [.s j] [] (Ns j) V.b no_:=
 W 42 func312 Z<|mV_ 7 [0] [] (λk=>([(17,.b k)],[])) Z (I 5 Z (M 11 Z)<|I 5 Z (M 6 Z)<|B λl f=>G [1,.o (.num l)] Z f<|A 0 QaN Z λt=>M 3 Z) λk=>I 1 Z (E 7 Z)<|F 9 [0] [] (λst=>([(3,.I st)],[])) [] [] (λq=>(.ret,([(2,.b false)],[]))) [] [] (λq=>(.exit 0,([],[]))) Z (λm=>I 9 Z (mV_ 5 [0,3] [] (λa=>([(41,.b a)],[])) Z (B λg c=>G [3,.o (.num g)] Z c<|A 0 QaN Z λp=>I 2 Z (B λh d=>G [2,.o (.num h)] Z d<|A 0 QkV Z λr=>I 3 Z (B λi e=>G [2,.o (.num i),3] Z e<|M 0 Z)<|M 6 Z)<|M 13 Z) λa=>I 1 Z (L 8 Z)<|R 8 Z)<|X 2 Z) (λ_=>E 2 Z) (λ_=>E 8 Z)
def Qcm:O_ Bool:=bif n then j_ (idx m1 m) λc=>j_ (idx m1 j1) λd=>Q (!Ko c d)else Q false
def Qcn:O_ ((Bool×Int)⊕Bool):=Q (y_ (n,(Qe (a+1))))
def EJ:O_ ((Bool×Int)⊕Bool):=bif (k<a)then j_ (Qcm p m1 k a) (λc=>Qcn k c)else Q (i_ p)
def Qco:O_ (Int⊕(Unit⊕Unit)):=bif (!n)then Q (i_ (y_ ()))else Q (y_ (Qe (a+1)))
def Bq:O_ (Int⊕(Unit⊕Unit)):=bif (m<(m1.length:Int))then j_ (idx m1 m) λc=>j_ (Ns c) λd=>j_ (Qh (λst=>EJ m m1 st.1 st.2) (d,0)) (λq=>Qco m q)else Q (i_ (i_ ()))
def Rx:O_ Bool:=j_ (Qh (λst=>Bq m1 st) 0) (Sum.elim (λq=>Q false) (λq=>Q true))
def QkY {i}:CT 313 [.M 1 HR i] [] (Rx i) V.b no_:=
 W 36 func313 Z<|F 12 [0] [] (λst=>([(3,.I st)],[])) [] [] (λq=>(.ret,([(2,.b false)],[]))) [] [] (λq=>(.exit 0,([],[]))) Z (λn=>N 5 Z<|I 3 Z (J 8 Z λo=>A 1 QdH Z λp=>lA_ 10 [0,3] [] (λst=>([(4,.b st.1),(5,.I st.2)],[])) [0,3] [] (λq=>(.exit 2,([(4,.b q)],[]))) Z (λ⟨k,l⟩=>I 8 Z (mV_ 4 [0,3,5] [] (λd=>([(4,.b d)],[])) Z (jF_ (λc=>B λg e=>B λh f=>D 0 Z (dz_ [(1,.E (.b true)),(2,.B (.row (HR g))),(3,.B (.row (HR h))),(3,.m .s)]) [] [] [0,3,4,5] [] Z Z ⟨⟨(tc_ c),(XY e)⟩,(XY f)⟩ Z<|M 0 Z) λc=>D 0 Z (dz_ [(1,.E (.b false)),(10,.m .s)]) [] [] [0,3,4,5] [] Z Z (tc_ c) Z<|M 0 Z) λd=>R 7 Z)<|X 2 Z) λj=>I 8 Z (L 8 Z)<|R 8 Z)<|X 2 Z) (λ_=>E 2 Z) (λ_=>E 8 Z)
def Qcp (c:QD):O_ Bool:=bif n then j_ (idx s m) λd=>Q (!Ko d.Name c.Name)else Q false
def Qcq:O_ ((Bool×Int)⊕Bool):=Q (y_ (n,(Qe (a+1))))
def EK (d:QD)(e:Bool)(b:Int):O_ ((Bool×Int)⊕Bool):=bif (b<a)then j_ (Qcp e s b d) (λc=>Qcq b c)else Q (i_ e)
def JS:O_ ((Int×LI_)⊕(Unit⊕LI_)):=
 bif ((!n)||((j1<1)||(1024<j1)))then
 Q (i_ (y_ ()))
 else
 j_ (chk (j.length+([j1]:L_ Int).length<=4294967296)) λ_=>
 Q (y_ ((Qe (m+1)),(j++([j1]:L_ Int))))
def Su (a:QD)(c:LI_)(d:Int)(b:Bool):O_ ((Int×LI_)⊕(Unit⊕LI_)):=
 bif (a.Kind==1)then
 bif ((a.Lo<=a.Hi)&&((0<=a.Lo)||(a.Hi<(Qe (a.Lo+1024)))))then
 JS b c d (Qe ((min2 (Qe (a.Hi-a.Lo)) 1024)+1))
 else
 JS b c d 0
 else
 bif (a.Kind==2)then
 j_ (Rx a.Names) λe=>
 bif e then
 JS b c d (a.Names.length:Int)
 else
 JS b c d 0
 else
 bif (a.Kind==3)then
 bif ((0<=a.First)&&((a.First<d)&&((0<=a.Then)&&(a.Then<d))))then
 j_ (idx c a.First) λf=>
 j_ (idx c a.Then) λg=>
 JS b c d (Qe (f*g))
 else
 JS b c d 0
 else
 JS b c d 0
def Br:O_ ((Int×LI_)⊕(Unit⊕LI_)):=bif (m<(s.length:Int))then j_ (idx s m) λa=>j_ (Ns a.Name) λd=>j_ (Qh (λst=>EK m s a st.1 st.2) (d,0)) (λq=>Su a e3 m q)else Q (i_ (i_ e3))
def Ry:O_ LI_:=bif (32<(s.length:Int))then Q ([]:L_ Int)else j_ (Qh (λst=>Br s st.1 st.2) (0,([]:L_ Int))) (Sum.elim (λq=>Q ([]:L_ Int)) (λq=>Q q))
def Qk1 {C}:CT 295 [.M 7 Xf C] [] (Ry C) (λr=>(.P 600 r)) (λr=>[(600,.R 1 Qb r)]):=
 W 128 func295 Z<|N 9 Z<|I 3 Z (aD_ 7 2 600 1 Z<|E 0 Z)<|aD_ 14 3 123 1 Z<|F 0 [0] [] (λst=>([(3,.P 123 st.2),(4,.I st.1)],[(123,.R 1 Qb st.2)])) [] [] (λq=>(.ret,([(2,.Y)],[]))) [] [] (λq=>(.exit 0,([(3,.P 123 q)],[(123,.R 1 Qb q)]))) Z (λ⟨w,l7⟩=>N 5 Z<|I 3 Z (J 8 Z λc=>A 9 QdH Z λa0=>lA_ 10 [0,3,4,5] [5,123] (λst=>([(6,.b st.1),(7,.I st.2)],[])) [0,3,4,5] [5,123] (λq=>(.exit 2,([(6,.b q)],[]))) Z (λ⟨O,a1⟩=>I 8 Z (mV_ 4 [0,3,4,5,7] [5,123] (λo=>([(6,.b o)],[])) Z (jF_ (λi=>B λx v=>D 0 Z (dz_ [(1,.E (.b true)),(2,.B (.row (Xf x))),(6,.m .s)]) [] [] [0,3,4,5,6,7] [5,123] Z Z ⟨(tc_ i),(XY v)⟩ Z<|M 0 Z) λi=>D 0 Z (dz_ [(1,.E (.b false)),(9,.m .s)]) [] [] [0,3,4,5,6,7] [5,123] Z Z (tc_ i) Z<|M 0 Z) λo=>R 7 Z)<|X 2 Z) λp=>mE_ 7 [0,3,4,6] [123] (λh:Int=>([(8,.I h)],[])) (λh=>JS p l7 w h) Z (I 13 Z (T 1 [0,3,4,5,6,8] [5,123] ([(63,.b ((c.Lo<=c.Hi)&&((0<=c.Lo)||(c.Hi<(Qe (c.Lo+1024))))))],[]) Z (H 7 Z (λe=>H 4 Z (λj=>Y 9 63 Z (XB e (KO j Z))) λj=>Y 9 63 Z (XB e (Yv j Z))) λe=>Y 13 63 Z (Yh e Z))<|I 1 Z (P 11 Z Z)<|P 2 Z Z)<|I 6 Z (A 4 QkY Z λa2=>I 8 Z (N 3 Z<|P 3 Z Z)<|P 2 Z Z)<|I 6 Z (T 1 [0,3,4,5,6,8] [5,123] ([(101,.b ((0<=c.First)&&((c.First<w)&&((0<=c.Then)&&(c.Then<w)))))],[]) Z (H 5 Z (λd=>H 6 Z (λf=>H 5 Z (λk=>Y 6 101 Z (XB d (XB f (XB k Z)))) λk=>Y 6 101 Z (XB d (XB f (Yh k Z)))) λf=>Y 11 101 Z (XB d (Yh f Z))) λd=>Y 17 101 Z (Yh d Z))<|I 1 Z (B λy t=>B λz u=>D 0 Z [.N,.N,.N,.N,.B (.row (Qb y)),.N,.N,.N,.N,.B (.row (Qb z)),.N,.m .s] [] [] [0,3,4,6,8] [123] Z Z (a4_ (Ym t Z) (XN (Yo t).2) (Ym u Z) (XN (Yo u).2)) Z<|P 1 Z Z)<|P 2 Z Z)<|P 2 Z Z) λh=>T 2 [0,3,4,8] [123] ([(122,.b ((!p)||((h<1)||(1024<h))))],[]) Z (H 4 Z (λg=>Y 8 122 Z (KO g Z)) λg=>H 4 Z (λl=>Y 4 122 Z (Yv g (KO l Z))) λl=>Y 4 122 Z (Yv g (Yv l Z)))<|I 1 Z (L 9 Z)<|pA_ 5 1 Qb Z<|R 9 Z)<|X 2 Z) (λ_=>aD_ 2 2 600 1 Z<|E 0 Z) (λa3=>gT_ [9,.ren 123 600] Z<|E 0 Z)
def Ux:O_ Int:=
 j_ (Ry s) λb=>
 bif ((m<0)||((b.length:Int)<=m))then
 Q 0
 else
 j_ (idx b m) λd=>
 Q d
def Vg {e c}:CT 266 [.M 7 Xf e,.I c] [] (Ux e c) V.I no_:=
 W 20 func266 Z<|oC_ 8 [.d] Qk1 Z λf=>T 5 [1,5] [7] ([(15,.b ((c<0)||((f.length:Int)<=c)))],[]) Z (H 4 Z (λa=>Y 6 15 Z (KO a Z)) λa=>Y 6 15 Z (Yv a Z))<|I 1 Z (E 7 Z)<|vA_ 7 Qb Z λg=>E 4 Z
def QaO:O_ Bool:=bif (a<0)then Q true else j_ (Ux s m) λb=>Q (decide (b<=a))
def QaP:O_ (Int×Bool):=bif p then Q (0,false)else j_ (idx s m) λa=>bif (a.Kind==1)then j_ (idx s m) λb=>Q ((Qe (b.Lo+j1)),true)else Q (j1,true)
def Oz:O_ (Int×Bool):=j_ (QaO j1 s m) (λd=>QaP s m j1 d)
def Qjs {a c d}:CT 296 [.M 7 Xf a,.I c,.I d] [] (Oz a c d) (λr=>(.tup [.I r.1,.b r.2])) no_:=
 W 31 func296 Z<|mV_ 8 [0,1,2] [] (λe=>([(16,.b e)],[])) Z (I 4 Z (M 7 Z)<|A 3 Vg Z λf=>M 3 Z) λe=>I 1 Z (E 8 Z)<|J 7 Z λg=>I 5 Z (J 4 Z λh=>E 10 Z)<|E 10 Z
def Hn:O_ ((Int×LI_)⊕(Unit⊕LI_)):=bif (k<(l.Vars.length:Int))then j_ (idx l.Vars k) λf=>j_ (idx k1 k) λg=>j_ (Oz f0.Colours f.Colour g) λd=>bif (!d.2)then Q (i_ (y_ ()))else j_ (chk (e0.length+([d.1]:L_ Int).length<=4294967296)) λ_=>Q (y_ ((Qe (k+1)),(e0++([d.1]:L_ Int))))else Q (i_ (i_ e0))
def Lz:O_ (LI_×Int):=
 bif ((b<0)||((c.Tasks.length:Int)<=b))then
 Q (([]:L_ Int),3)
 else
 j_ (idx c.Tasks b) λa=>
 bif ((j.length:Int) != (a.Vars.length:Int))then
 Q (([]:L_ Int),1)
 else
 j_ (Qh (λst=>Hn a j c st.1 st.2) (0,([]:L_ Int))) (Sum.elim (λq=>Q (([]:L_ Int),1)) (λq=>Q (q,0)))
def Ze {l e f}:CT 267 [.G Qf l,.I e,.M 1 Qb f] [] (Lz l e f) (λr=>(.tup [.M 1 Qb r.1,.I r.2])) no_:=
 W 61 func267 Z<|T 9 [1,2,3] [3] ([(21,.b ((e<0)||((l.Tasks.length:Int)<=e)))],[]) Z (H 4 Z (λg=>Y 7 21 Z (KO g Z)) λg=>N 3 Z<|Y 3 21 Z (Yv g Z))<|I 1 Z (gT_ [8,.denil 6 [Q 1]] Z<|E 0 Z)<|J 7 Z λp=>N 9 Z<|N 1 Z<|I 3 Z (gT_ [8,.denil 6 [Q 1]] Z<|E 0 Z)<|aD_ 14 9 56 1 Z<|F 0 [2,3,8] [3] (λst=>([(9,.P 56 st.2),(10,.I st.1)],[(56,.R 1 Qb st.2)])) [] [] (λq=>(.ret,([(6,.Y),(7,.I 1)],[]))) [] [] (λq=>(.exit 0,([(9,.P 56 q)],[(56,.R 1 Qb q)]))) Z (λ⟨s,t⟩=>N 5 Z<|I 3 Z (B λm h=>B λo i=>B λj k=>D 5 Z (dz_ [(4,.B (.row (Yw m))),(4,.B (.row (Qb o))),(1,.B (.C3 (.tup [.I j.1,.b j.2]))),(4,.N)]) [] [] [2,3,8,9,10,11,12] [3,56] Z Z (a3_ (XY h) (XY i) (Qjs _ k)) Z<|I 8 Z (L 10 Z)<|pA_ 5 1 Qb Z<|R 9 Z)<|X 2 Z) (λ_=>gT_ [2,.denil 6 [Q 1]] Z<|E 0 Z) (λu=>zF_ 10 56 [6] [] Z<|E 0 Z)
def Vh:O_ Int:=j_ (Qh (λst=>bif (st.2<(f4.Kids.length:Int))then j_ (idx f4.Kids st.2) λf=>j_ (m3 f) λg=>Q (y_ ((max2 st.1 g),(Qe (st.2+1))))else Q (i_ st.1)) (0,0)) (λq=>Q (Qe (q+1)))
def GP : Nat->Qm->O_ Int
 | 0,_=>none
 | n+1,a=>Vh (GP n) a
def QaB:O_ Int:=GP (SizeOf.sizeOf q) q
def Qh3 {O:Qm->O_ Int}{hrec_ref04_Depth:∀(a:Qm) {r:Int},O a=Q r->QN prog 314 [.G QO a] [] (Gives (.I r) [])}{a:Qm}:CT 314 [.G QO a] [] (Vh O a) V.I no_:=
 W 22 func314 Z<|lA_ 18 [1] [1] (λst=>([(3,.I st.1),(4,.I st.2)],[])) [] [] (λq=>(.exit 0,([(3,.I q)],[]))) Z (λ⟨g,h⟩=>nR_ 6 Aw Z<|I 3 Z (xR_ 9 JI Z λi f=>B λe b=>G [1,.o (.C1 (.I e)),10] Z (hrec_ref04_Depth _ b)<|R 0 Z)<|X 2 Z) λj=>E 10 Z
def Qai : ∀(fuel:Nat) (a:Qm) {r:Int},GP fuel a=Q r->QN prog 314 [.G QO a] [] (Gives (.I r) [])
 | 0,_,_,h=>by cases h
 | n+1,a,_,h=>@Qh3 (GP n) (λ_ _ h=>Qai n _ h) a _ h
def Qk4 (a){r}(h:QaB a=Q r):QN prog 314 [.G QO a] [] (Gives (.I r) []):=Qai _ a h
def Zf:O_ Int:=j_ (Qh (λst=>bif (st.2<(f4.Kids.length:Int))then j_ (idx f4.Kids st.2) λf=>j_ (m3 f) λg=>Q (y_ ((Qe (st.1+g)),(Qe (st.2+1))))else Q (i_ st.1)) (1,0)) (λq=>Q q)
def EL : Nat->Qm->O_ Int
 | 0,_=>none
 | n+1,a=>Zf (EL n) a
def Qcr:O_ Int:=EL (SizeOf.sizeOf q) q
def Qjt {O:Qm->O_ Int}{hrec_ref04_Size:∀(a:Qm) {r:Int},O a=Q r->QN prog 315 [.G QO a] [] (Gives (.I r) [])}{a:Qm}:CT 315 [.G QO a] [] (Zf O a) V.I no_:=
 W 21 func315 Z<|lA_ 18 [1] [1] (λst=>([(3,.I st.1),(4,.I st.2)],[])) [] [] (λq=>(.exit 0,([(3,.I q)],[]))) Z (λ⟨g,h⟩=>nR_ 6 Aw Z<|I 3 Z (xR_ 9 JI Z λi f=>B λe b=>G [1,.o (.C1 (.I e)),10] Z (hrec_ref04_Size _ b)<|R 0 Z)<|X 2 Z) λj=>E 9 Z
def QaQ : ∀(fuel:Nat) (a:Qm) {r:Int},EL fuel a=Q r->QN prog 315 [.G QO a] [] (Gives (.I r) [])
 | 0,_,_,h=>by cases h
 | n+1,a,_,h=>@Qjt (EL n) (λ_ _ h=>QaQ n _ h) a _ h
def QmW (a){r}(h:Qcr a=Q r):QN prog 315 [.G QO a] [] (Gives (.I r) []):=QaQ _ a h
def QaC:O_ Bool:=Q ((1<=a)&&(a<=11))
def Qk5 {Jy}:CT 324 [.I Jy] [] (QaC Jy) V.b no_:=
 W 9 func324 Z<|T 6 [] [] ([(2,.b ((1<=Jy)&&(Jy<=11)))],[]) Z (H 4 Z (λa=>Y 5 2 Z (XB a Z)) λa=>Y 5 2 Z (Yh a Z))<|E 2 Z
def EM:O_ ((Bool×Int)⊕Bool):=bif ((k<(q.Kids.length:Int))&&p)then j_ (idx q.Kids k) λd=>j_ (i2 d f2) λe=>Q (y_ (e,(Qe (k+1))))else Q (i_ p)
def KL:O_ Bool:=j_ (Qh (λst=>EM q i2 f2 st.1 st.2) (p,0)) (λa=>Q a)
def Qcs:O_ Bool:=bif ((q.Kids.length:Int)==2)then j_ (QaC q.Num) λa=>Q a else Q false
def Qct:O_ Bool:=KL q i2 f2 p
def IA:O_ Bool:=bif p then KL q i2 f2 ((q.Kids.length:Int)==1)else bif (q.Kind==5)then j_ (Qcs q) (λc=>Qct q i2 f2 c)else bif (q.Kind==6)then KL q i2 f2 ((q.Kids.length:Int)==3)else KL q i2 f2 false
def Mz:O_ Bool:=bif (j2.Kind==1)then KL j2 i2 f2 ((j2.Kids.length:Int)==0)else bif (j2.Kind==2)then KL j2 i2 f2 (((j2.Kids.length:Int)==0)&&((0<=j2.Num)&&(j2.Num<f2)))else bif (j2.Kind==3)then IA j2 i2 f2 (j2.Kind==3)else IA j2 i2 f2 (j2.Kind==4)
def GQ : Nat->Qm->Int->O_ Bool
 | 0,_,_=>none
 | n+1,b,a=>Mz (GQ n) b a
def QaD:O_ Bool:=GQ (SizeOf.sizeOf q) q l1
def Qh4 {O:Qm->Int->O_ Bool}{hrec_ref04_parts:∀(f:Qm) (a:Int) {r:Bool},O f a=Q r->QN prog 316 [.G QO f,.I a] [] (Gives (.b r) [])}{f:Qm}{a:Int}:CT 316 [.G QO f,.I a] [] (Mz O f a) V.b no_:=
 W 66 func316 Z<|nR_ 10 Aw Z<|mE_ 8 [1,2,5] [2] (λi:Bool=>([(6,.b i)],[])) (λi=>KL f O a i) Z (I 13 Z (P 6 Z Z)<|I 6 Z (T 0 [1,2,5] [2] ([(6,.b (((f.Kids.length:Int)==0)&&((0<=f.Num)&&(f.Num<a))))],[]) Z (H 4 Z (λe=>H 5 Z (λg=>Y 7 6 Z (XB e (XB g Z))) λg=>Y 7 6 Z (XB e (Yh g Z))) λe=>Y 12 6 Z (Yh e Z))<|P 1 Z Z)<|mE_ 0 [1,2,5,6,12] [2] (λj:Bool=>([(32,.b j)],[])) (λj=>IA f O a j) Z (I 6 Z (P 1 Z Z)<|P 4 Z Z) λj=>I 0 Z (P 6 Z Z)<|I 6 Z (mV_ 0 [1,2,5] [2] (λk=>([(6,.b k)],[])) Z (I 4 Z (A 2 Qk5 Z λt=>M 3 Z)<|M 6 Z) λk=>P 1 Z Z)<|I 6 Z (P 6 Z Z)<|P 2 Z Z) λi=>lA_ 7 [1,2,5] [2] (λst=>([(6,.b st.1),(7,.I st.2)],[])) [] [] (λq=>(.exit 1,([(6,.b q)],[]))) Z (λ⟨m,u⟩=>T 2 [1,2,5,6,7] [2] ([(55,.b ((u<(f.Kids.length:Int))&&m))],[]) Z (H 5 Z (λh=>Y 3 55 Z (XB h Z)) λh=>Y 3 55 Z (Yh h Z))<|I 1 Z (xR_ 8 JI Z λv s=>B λp l=>G [2,.o (.C2 (.b p)),9] Z (hrec_ref04_parts _ _ l)<|R 0 Z)<|X 2 Z) λw=>E 9 Z
def Qaj : ∀(fuel:Nat) (c:Qm) (a:Int) {r:Bool},GQ fuel c a=Q r->QN prog 316 [.G QO c,.I a] [] (Gives (.b r) [])
 | 0,_,_,_,h=>by cases h
 | n+1,c,a,_,h=>@Qh4 (GQ n) (λ_ _ _ h=>Qaj n _ _ h) c a _ h
def Qk7 (c a){r}(h:QaD c a=Q r):QN prog 316 [.G QO c,.I a] [] (Gives (.b r) []):=Qaj _ c a h
def Qcu:O_ Bool:=j_ (QaB q) λd=>bif (d<=40)then j_ (Qcr q) λe=>bif (e<=400)then j_ (QaD q l1) λc=>Q c else Q false else Q false
def Rz:O_ Bool:=j_ (Qcu q l1) (λc=>Q c)
def Qk9 {i a}:CT 297 [.G QO i,.I a] [] (Rz i a) V.b no_:=
 W 18 func297 Z<|mV_ 7 [] [] (λj=>([(4,.b j)],[])) Z (B λk f=>G [2,.o (.C1 (.I k)),2] Z (Qk4 _ f)<|I 0 Z (B λl g=>G [1,.o (.C1 (.I l)),3] Z (QmW _ g)<|I 0 Z (B λh e=>G [2,.o (.C2 (.b h)),3] Z (Qk7 _ _ e)<|M 0 Z)<|M 6 Z)<|M 11 Z) λj=>E 2 Z
def ZJ:O_ (Int×Bool):=
 bif (bif (0<g)then(((Qe (9223372036854775807-g))<a)||((g<0)&&(a<(Qe ((-9223372036854775808)-g)))))else((g<0)&&(a<(Qe ((-9223372036854775808)-g)))))then
 Q (0,false)
 else
 Q ((Qe (a+g)),true)
def QoI {g f}:CT 325 [.I g,.I f] [] (ZJ g f) (λr=>(.tup [.I r.1,.b r.2])) no_:=
 W 27 func325 Z<|T 8 [0,1] [] ([(23,.b (bif (0<f)then(((Qe (9223372036854775807-f))<g)||((f<0)&&(g<(Qe ((-9223372036854775808)-f)))))else((f<0)&&(g<(Qe ((-9223372036854775808)-f))))))],[]) Z (H 4 Z (λa=>H 6 Z (λe=>Y 10 23 Z (LC a (KO e Z))) λe=>H 3 Z (λc=>Y 7 23 Z (LC a (Yv e (XB c Z)))) λc=>Y 7 23 Z (LC a (Yv e (Yh c Z)))) λa=>H 9 Z (λd=>Y 7 23 Z (Qar a (XB d Z))) λd=>Y 7 23 Z (Qar a (Yh d Z)))<|I 1 Z (E 8 Z)<|E 12 Z
def ZK:O_ (Int×Bool):=
 bif (bif (g<0)then(((Qe (9223372036854775807+g))<a)||((0<g)&&(a<(Qe ((-9223372036854775808)+g)))))else((0<g)&&(a<(Qe ((-9223372036854775808)+g)))))then
 Q (0,false)
 else
 Q ((Qe (a-g)),true)
def QoJ {g f}:CT 326 [.I g,.I f] [] (ZK g f) (λr=>(.tup [.I r.1,.b r.2])) no_:=
 W 27 func326 Z<|T 8 [0,1] [] ([(23,.b (bif (f<0)then(((Qe (9223372036854775807+f))<g)||((0<f)&&(g<(Qe ((-9223372036854775808)+f)))))else((0<f)&&(g<(Qe ((-9223372036854775808)+f))))))],[]) Z (H 4 Z (λa=>H 6 Z (λe=>Y 10 23 Z (LC a (KO e Z))) λe=>H 3 Z (λc=>Y 7 23 Z (LC a (Yv e (XB c Z)))) λc=>Y 7 23 Z (LC a (Yv e (Yh c Z)))) λa=>H 9 Z (λd=>Y 7 23 Z (Qar a (XB d Z))) λd=>Y 7 23 Z (Qar a (Yh d Z)))<|I 1 Z (E 8 Z)<|E 12 Z
def Qe8:O_ Bool:=
 bif (bif (a<0)then((0<g)||((0<a)&&(g<0)))else((0<a)&&(g<0)))then
 j_ (chk (b != 0)) λ_=>
 bif ((Qe (i-1))<=(Qe (Int.tdiv (Qe (9223372036854775807-(Qe (b-1)))) b)))then
 Q ((Qe (i*b))==(-9223372036854775808))
 else
 Q false
 else
 Q false
def Zg:O_ (Int×Bool):=bif n then Q ((-9223372036854775808),true)else Q (0,false)
def Ho:O_ (Int×Bool):=j_ (chk (i != 0)) λ_=>bif (a<=(Qe (Int.tdiv 9223372036854775807 i)))then Q ((Qe (g*b)),true)else j_ (Qe8 g b i a) (λc=>Zg c)
def Hp:O_ (Int×Bool):=bif (a<0)then Ho b g a (Qe (0-a))else Ho b g a a
def ZL:O_ (Int×Bool):=
 bif ((a==0)||(g==0))then
 Q (0,true)
 else
 bif ((a==(-9223372036854775808))||(g==(-9223372036854775808)))then
 bif ((a==1)||(g==1))then
 Q ((Qe (a*g)),true)
 else
 Q (0,false)
 else
 bif (a<0)then
 Hp g a (Qe (0-a))
 else
 Hp g a a
def QoK {p q}:CT 327 [.I p,.I q] [] (ZL p q) (λr=>(.tup [.I r.1,.b r.2])) no_:=
 W 78 func327 Z<|@λC r=>T 8 [0,1] [] ([(14,.b ((p==0)||(q==0)))],[]) Z (H 4 Z (λt=>Y 4 14 Z (KO t Z)) λt=>Y 4 14 Z (Yv t Z))<|I 1 Z (E 8 Z)<|T 4 [0,1] [] ([(20,.b ((p==(-9223372036854775808))||(q==(-9223372036854775808))))],[]) Z (H 4 Z (λe=>Y 4 20 Z (KO e Z)) λe=>Y 4 20 Z (Yv e Z))<|I 1 Z (T 2 [0,1] [] ([(26,.b ((p==1)||(q==1)))],[]) Z (H 4 Z (λf=>Y 4 26 Z (KO f Z)) λf=>Y 4 26 Z (Yv f Z))<|I 1 Z (E 12 Z)<|E 10 Z)<|mE_ 8 [0,1] [] (λg:Int=>([(6,.I g)],[])) (λg=>Hp q p g) Z (I 6 Z (P 5 Z Z)<|P 1 Z Z) λg=>mE_ 6 [0,1,6] [] (λs:Int=>([(7,.I s)],[])) (λs=>Ho g p q s) Z (I 6 Z (P 5 Z Z)<|P 1 Z Z) λs=>T 1 [0,1,6,7] [] ([(8,.b (bif (p<0)then((0<q)||((0<p)&&(q<0)))else((0<p)&&(q<0))))],[]) Z (H 4 Z (λa=>H 4 Z (λc=>Y 9 8 Z (LC a (KO c Z))) λc=>H 3 Z (λi=>Y 6 8 Z (LC a (Yv c (XB i Z)))) λi=>Y 6 8 Z (LC a (Yv c (Yh i Z)))) λa=>H 7 Z (λj=>Y 6 8 Z (Qar a (XB j Z))) λj=>Y 6 8 Z (Qar a (Yh j Z)))<|kA_ λv=>(λd h=>by
   refine Jn d [10] rfl (a1_ (neZ v)) ?_;refine bg_ h (λk h=>Jn d [.T,11,.K [4,5] []] rfl (a1_ k) ?_) λk h=>Jn d [.F,4] rfl (a1_ k) ?_
   ·exact E 0 Z d h
   obtain⟨u,w,h⟩:=QU h;replace h:Zg u=Q r:=h;refine AK.meetX (λσ=>σ=⟨[(77,.b u)],[]⟩) ?_ ?_
   ·replace h:=w;refine tg_ d [3] ?_;rcases Ye h with⟨l,h⟩|⟨l,h⟩
    ·obtain⟨x,h⟩:=Qzk h;refine Jn d [.S 62 (.b true),10] rfl ⟨(tc_ l),(neZ x)⟩ ?_;refine bg_ h (λm h=>Jn d [.S 72 (.b true),6,.K [77] []] rfl (tc_ m) ?_) λm h=>Jn d [.S 72 (.b false),6,.K [77] []] rfl (tc_ m) ?_
     ·cases h;exact mt_
     cases h;exact mt_
    refine Jn d [.S 62 (.b false),16,.K [77] []] rfl (tc_ l) ?_;cases h;exact mt_
   rintro σ rfl;replace h:Zg u=Q r:=h;refine tg_ d [1] ?_;refine bg_ h (λo h=>Jn d [.T,8,.K [4,5] []] rfl (a1_ o) ?_) λo h=>Jn d [.F,9,.K [4,5] []] rfl (a1_ o) ?_
   ·exact E 0 Z d h
   exact E 0 Z d h)
def GH:O_ Int:=bif n then Q 1 else Q 0
def Gv {a}:CT 328 [.b a] [] (GH a) V.I no_:=
 W 4 func328 Z<|I 11 Z (E 7 Z)<|E 8 Z
def Cj:O_ (Int×Int):=bif (!n)then Q (0,6)else Q (a,0)
def QgI:O_ Int:=bif (a != 0)then j_ (GH (g != 0)) λc=>Q c else j_ (GH false) λb=>Q b
def QgJ:O_ (Int×Int):=Q (a,0)
def QgK:O_ Int:=bif (a != 0)then j_ (GH true) λc=>Q c else j_ (GH (g != 0)) λb=>Q b
def QgL:O_ (Int×Int):=Q (a,0)
def Ck:O_ (Int×Int):=bif p then bif (a==0)then Q (0,7)else bif ((g==(-9223372036854775808))&&(a==(-1)))then Q (0,6)else bif (b==4)then j_ (chk (a != 0)) λ_=>Q ((Qe (Int.tdiv g a)),0)else j_ (chk (a != 0)) λ_=>Q ((Int.tmod g a),0)else bif (b==6)then j_ (GH (g==a)) λd=>Q (d,0)else bif (b==7)then j_ (GH (g != a)) λe=>Q (e,0)else bif (b==8)then j_ (GH (decide (g<a))) λf=>Q (f,0)else bif (b==9)then j_ (GH (decide (g<=a))) λc=>Q (c,0)else bif (b==10)then j_ (QgI g a) (λh=>QgJ h)else bif (b==11)then j_ (QgK g a) (λi=>QgL i)else Q (0,1)
def Ge:O_ (Int×Int):=bif (a==1)then j_ (ZJ g b) λc=>Cj c.1 c.2 else bif (a==2)then j_ (ZK g b) λd=>Cj d.1 d.2 else bif (a==3)then j_ (ZL g b) λe=>Cj e.1 e.2 else bif (a==4)then Ck b g a (a==4)else Ck b g a (a==5)
def QgM {Jy k l}:CT 317 [.I Jy,.I k,.I l] [] (Ge Jy k l) (λr=>(.tup [.I r.1,.I r.2])) no_:=
 W 99 func317 Z<|mF_ 16 [] [] (λ(m:Int) (c:Bool)=>([(8,.I m),(9,.b c)],[])) (λm c=>Cj m c) Z (I 12 Z (A 3 QoI Z λo=>fA_ 7 Z Z)<|I 6 Z (A 3 QoJ Z λp=>fA_ 7 Z Z)<|I 6 Z (A 3 QoK Z λq=>fA_ 7 Z Z)<|mE_ 0 [0,1,2,10] [] (λd:Bool=>([(35,.b d)],[])) (λd=>Ck l k Jy d) Z (I 6 Z (P 1 Z Z)<|P 4 Z Z) λd=>I 0 Z (I 7 Z (E 10 Z)<|T 4 [0,1,2] [] ([(45,.b ((k==(-9223372036854775808))&&(l==(-1))))],[]) Z (H 4 Z (λa=>Y 4 45 Z (XB a Z)) λa=>Y 4 45 Z (Yh a Z))<|I 1 Z (E 10 Z)<|I 9 Z (kA_ λe=>(λf h=>by
   refine Jn f [13,.K [6,7] []] rfl (a1_ (neZ e)) ?_;exact E 0 Z f h))<|kA_ λg=>(λf h=>by
   refine Jn f [14,.K [6,7] []] rfl (a1_ (neZ g)) ?_;exact E 0 Z f h))<|I 6 Z (A 5 Gv Z λs=>E 7 Z)<|I 6 Z (A 5 Gv Z λt=>E 7 Z)<|I 6 Z (A 5 Gv Z λu=>E 7 Z)<|I 6 Z (A 5 Gv Z λv=>E 7 Z)<|I 6 Z (mV_ 1 [] [] (λi=>([(6,.I i),(7,.I 0)],[])) Z (I 4 Z (A 3 Gv Z λw=>M 3 Z)<|A 3 Gv Z λx=>M 3 Z) λi=>E 4 Z)<|I 6 Z (mV_ 1 [] [] (λj=>([(6,.I j),(7,.I 0)],[])) Z (I 4 Z (A 3 Gv Z λy=>M 3 Z)<|A 3 Gv Z λz=>M 3 Z) λj=>E 4 Z)<|E 9 Z) λm c=>I 7 Z (E 8 Z)<|E 10 Z
def OA (O:Qm->LI_->O_ (Int×Int))(c:Qm)(a:LI_):O_ (Int×Int):=bif (c.Kind==1)then Q (c.Num,0)else bif (c.Kind==2)then j_ (idx a c.Num) λm=>Q (m,0)else j_ (idx c.Kids 0) λi=>j_ (O i a) λb=>bif (b.2 != 0)then Q (0,b.2)else bif (c.Kind==3)then j_ (Ge 2 0 b.1) λe=>Q (e.1,e.2)else bif (c.Kind==4)then bif (b.1==0)then Q (1,0)else Q (0,0)else bif (c.Kind==6)then bif (b.1 != 0)then j_ (idx c.Kids 1) λj=>j_ (O j a) λf=>Q (f.1,f.2)else j_ (idx c.Kids 2) λk=>j_ (O k a) λg=>Q (g.1,g.2)else bif ((c.Num==10)&&(b.1==0))then Q (0,0)else bif ((c.Num==11)&&(b.1 != 0))then Q (1,0)else j_ (idx c.Kids 1) λl=>j_ (O l a) λd=>bif (d.2 != 0)then Q (0,d.2)else j_ (Ge c.Num b.1 d.1) λh=>Q (h.1,h.2)
def EN : Nat->Qm->LI_->O_ (Int×Int)
 | 0,_,_=>none
 | n+1,b,a=>OA (EN n) b a
def Qcv:O_ (Int×Int):=EN (SizeOf.sizeOf q) q j
def Qju {rec_ref04_eval:Qm->LI_->O_ (Int×Int)}{hrec_ref04_eval:∀(h:Qm) (a:LI_) {r:(Int×Int)},rec_ref04_eval h a=Q r->QN prog 298 [.G QO h,.M 1 Qb a] [] (Gives (.tup [.I r.1,.I r.2]) [])}{h:Qm}{a:LI_}:CT 298 [.G QO h,.M 1 Qb a] [] (OA rec_ref04_eval h a) (λr=>(.tup [.I r.1,.I r.2])) no_:=
 W 100 func298 Z<|I 21 Z (E 11 Z)<|I 6 Z (J 5 Z λe9=>E 8 Z)<|xR_ 7 JI Z λw s=>B λg i=>G [2,.o (.C2 (.tup [.I g.1,.I g.2])),14] Z (hrec_ref04_eval _ _ i)<|I 0 Z (E 9 Z)<|I 16 Z (A 3 QgM Z λx=>E 9 Z)<|I 6 Z (I 7 Z (E 10 Z)<|E 11 Z)<|I 6 Z (I 7 Z (xR_ 4 JI Z λy t=>B λj k=>G [2,.o (.C2 (.tup [.I j.1,.I j.2])),10] Z (hrec_ref04_eval _ _ k)<|E 0 Z)<|xR_ 6 JI Z λz u=>B λl m=>G [2,.o (.C2 (.tup [.I l.1,.I l.2])),9] Z (hrec_ref04_eval _ _ m)<|E 0 Z)<|T 5 [1,2,6] [2] ([(73,.b ((h.Num==10)&&(g.1==0)))],[]) Z (H 5 Z (λe=>Y 4 73 Z (XB e Z)) λe=>Y 4 73 Z (Yh e Z))<|I 1 Z (E 8 Z)<|T 4 [1,2,6] [2] ([(80,.b ((h.Num==11)&&(g.1 != 0)))],[]) Z (H 5 Z (λf=>Y 4 80 Z (XB f Z)) λf=>Y 4 80 Z (Yh f Z))<|I 1 Z (E 8 Z)<|xR_ 6 JI Z λC v=>B λp q=>G [2,.o (.C2 (.tup [.I p.1,.I p.2])),14] Z (hrec_ref04_eval _ _ q)<|I 0 Z (E 9 Z)<|A 8 QgM Z λO=>E 7 Z
def QaR : ∀(fuel:Nat) (b:Qm) (a:LI_) {r:(Int×Int)},EN fuel b a=Q r->QN prog 298 [.G QO b,.M 1 Qb a] [] (Gives (.tup [.I r.1,.I r.2]) [])
 | 0,_,_,_,h=>by cases h
 | n+1,b,a,_,h=>@Qju (EN n) (λ_ _ _ h=>QaR n _ _ h) b a _ h
def QmX (b a){r}(h:Qcv b a=Q r):QN prog 298 [.G QO b,.M 1 Qb a] [] (Gives (.tup [.I r.1,.I r.2]) []):=QaR _ b a h
def Nt:O_ (Int×Int):=j_ (Rz q (j.length:Int)) λd=>bif (!d)then Q (0,1)else j_ (Qcv q j) λc=>Q (c.1,c.2)
def QdI {e a}:CT 268 [.G QO e,.M 1 Qb a] [] (Nt e a) (λr=>(.tup [.I r.1,.I r.2])) no_:=
 W 18 func268 Z<|N 11 Z<|A 0 Qk9 Z λg=>I 10 Z (E 8 Z)<|B λf b=>G [6,.o (.C2 (.tup [.I f.1,.I f.2])),7] Z (QmX _ _ b)<|E 0 Z
def Hq:O_ Bool:=bif ((d.length:Int) != (j.length:Int))then Q false else j_ (Qh (λst=>bif (st<(d.length:Int))then j_ (idx d st) λf=>j_ (idx j st) λg=>bif (f != g)then Q (i_ (y_ ()))else Q (y_ (Qe (st+1)))else Q (i_ (i_ ()))) 0) (Sum.elim (λq=>Q false) (λq=>Q true))
def MA {f g}:CT 90 [.M 1 Qb f,.M 1 Qb g] [] (Hq f g) V.b no_:=
 W 26 func90 Z<|N 9 Z<|N 1 Z<|I 3 Z (E 7 Z)<|F 9 [0,1] [] (λst=>([(5,.I st)],[])) [] [] (λq=>(.ret,([(4,.b false)],[]))) [] [] (λq=>(.exit 0,([],[]))) Z (λi=>N 5 Z<|I 3 Z (B λh d=>B λe c=>D 5 Z (dz_ [(2,.B (.row (Qb h))),(3,.B (.row (Qb e))),(1,.N)]) [] [] [0,1,5,25] [] Z Z (a2_ (XY d) (XY c)) Z<|I 1 Z (L 8 Z)<|R 8 Z)<|X 2 Z) (λ_=>E 2 Z) (λ_=>E 8 Z)
def Eb:O_ (Int⊕(Unit⊕Unit)):=bif (k<(k0.length:Int))then j_ (idx k0 k) λc=>j_ (Hq c k1) λd=>bif d then Q (i_ (y_ ()))else Q (y_ (Qe (k+1)))else Q (i_ (i_ ()))
def Hr:O_ Bool:=j_ (GO a g) λb=>j_ (Qh (λst=>Eb b d st) 0) (Sum.elim (λq=>Q true) (λq=>Q false))
def QaS {a c e}:CT 269 [.I a,.I c,.M 1 Qb e] [] (Hr a c e) V.b no_:=
 W 24 func269 Z<|oC_ 9 [.d,.d] Nr Z λh=>F 10 [2,7] [11] (λst=>([(8,.I st)],[])) [] [] (λq=>(.ret,([(6,.b true)],[]))) [] [] (λq=>(.exit 0,([],[]))) Z (λi=>I 9 Z (vA_ 9 Xy Z λf=>A 1 MA Z λg=>I 2 Z (L 8 Z)<|R 8 Z)<|X 2 Z) (λ_=>E 2 Z) (λ_=>E 8 Z)
def Dx:O_ (Int⊕(Int⊕Unit)):=bif (i<a)then bif ((Qe (g+i))==b)then Q (i_ (y_ i))else Q (y_ (Qe (i+1)))else Q (i_ (i_ ()))
def Ec:O_ (Int×Bool):=j_ (Qh (λst=>Dx a b g st) 0) (Sum.elim (λq=>Q (q,true)) (λq=>Q (0,false)))
def QaT:O_ Bool:=bif (0<a)then j_ (idx s m) λb=>Q (b.Kind==1)else Q false
def QaU:O_ (Int×Bool):=bif p then j_ (idx s m) λb=>Ec j1 m0 b.Lo else Ec j1 m0 0
def OB:O_ (Int×Bool):=j_ (Ux s m) λd=>j_ (QaT d s m) (λc=>QaU s m d j1 c)
def Qjz {e f d}:CT 299 [.M 7 Xf e,.I f,.I d] [] (OB e f d) (λr=>(.tup [.I r.1,.b r.2])) no_:=
 W 40 func299 Z<|A 10 Vg Z λg=>mE_ 8 [2,8] [] (λa:Int=>([(9,.I a)],[])) (λa=>Ec g d a) Z (mV_ 1 [0,1,2,8,9] [] (λc=>([(23,.b c)],[])) Z (I 4 Z (J 2 Z λh=>M 5 Z)<|M 8 Z) λc=>I 1 Z (J 3 Z λi=>P 4 Z Z)<|P 1 Z Z) λa=>F 7 [2,8,9] [] (λst=>([(10,.I st)],[])) [] [] (λq=>(.ret,([(6,.I q),(7,.b true)],[]))) [] [] (λq=>(.exit 0,([],[]))) Z (λj=>I 8 Z (I 13 Z (L 10 Z)<|R 8 Z)<|X 2 Z) (λk=>E 2 Z) (λ_=>E 9 Z)
def FP:O_ ((Int×QMk)⊕(Int⊕QMk)):=
 bif (j3<(d.length:Int))then
 j_ (idx d j3) λa=>
 bif ((a<0)||((h3.length:Int)<=a))then
 Q (i_ (y_ 11))
 else
 j_ (idx h3 a) λl=>
 j_ (Nt l.Expr h4) λf=>
 bif (f.2 != 0)then
 Q (i_ (y_ f.2))
 else
 j_ (idx h3 a) λb=>
 bif ((b.Place<0)||((d4.Places.length:Int)<=b.Place))then
 Q (i_ (y_ 3))
 else
 j_ (idx d4.Places b.Place) λm=>
 j_ (OB d4.Colours m.Colour f.1) λi=>
 bif (!i.2)then
 Q (i_ (y_ 8))
 else
 j_ (idx d3 b.Place) λn=>
 j_ (AS n ([(i.1,1)]:QBg)) λg=>
 bif (g.2 != 0)then
 Q (i_ (y_ g.2))
 else
 j_ (idx d3 b.Place) λo=>
 Q (y_ ((Qe (j3+1)),(d3.set b.Place.toNat g.1)))
 else
 Q (i_ (i_ d3))
def EO (a:LI_):O_ (QMk×Int):=j_ (chk (decide (0<=(c.Places.length:Int))&&decide ((c.Places.length:Int)<=(c.Places.length:Int))&&decide ((c.Places.length:Int)<=4294967296))) λ_=>j_ (Qh (λst=>FP h4 h3 a c st.1 st.2) (0,(List.replicate (c.Places.length:Int).toNat (([]:QBg):QBg)))) (Sum.elim (λq=>Q (([]:L_ QBg),q)) (λq=>Q (q,0)))
def Ps {m y e j}:CT 272 [.G Qf m,.M 4 Yz y,.M 1 Qb e,.M 1 Qb j] [] (EO m y e j) (λr=>(.tup [.M 1 Qk r.1,.I r.2])) no_:=
 W 103 func272 Z<|N 11 Z<|kA_ λz=>G [.o (.rows (List.replicate (m.Places.length:Int).toNat [.Y]))] Z ⟨z,Z⟩<|Qq0 (AK.denilA (b:=23) [Q 2] Z (Qmh (f:=Qk) (x:=([]:QBg)) Z))<|G [.S 23 (.own 23 (List.replicate (m.Places.length:Int).toNat (([]:QBg):QBg)).length),10] Z (by simp)<|F 0 [1,2,3,4] [4] (λst=>([(10,.P 23 st.2),(11,.I st.1)],[(23,.R 1 Qk st.2)])) [] [] (λq=>(.ret,([(8,.Y),(9,.I q)],[]))) [] [] (λq=>(.exit 0,([(10,.P 23 q)],[(23,.R 1 Qk q)]))) Z (λ⟨a0,p⟩=>N 5 Z<|I 3 Z (J 8 Z λs=>T 6 [1,2,3,4,10,11,12] [4,23] ([(41,.b ((s<0)||((y.length:Int)<=s)))],[]) Z (H 4 Z (λg=>Y 6 41 Z (KO g Z)) λg=>N 2 Z<|Y 3 41 Z (Yv g Z))<|I 1 Z (L 10 Z)<|J 6 Z λa1=>A 3 QdI Z λa2=>I 14 Z (L 11 Z)<|J 6 Z λi=>T 7 [1,2,3,4,10,11,13,15] [4,23] ([(68,.b ((i.Place<0)||((m.Places.length:Int)<=i.Place)))],[]) Z (H 4 Z (λh=>Y 7 68 Z (KO h Z)) λh=>N 3 Z<|Y 3 68 Z (Yv h Z))<|I 1 Z (L 10 Z)<|B λC t=>B λl u=>D 3 Z (dz_ [(5,.B (.row (QW C))),(3,.B (.C3 (.tup [.I l.1,.b l.2]))),(4,.N)]) [] [] [1,2,3,4,10,11,15,16,17] [4,23] Z Z (a2_ (XY t) (Qjz _ u)) Z<|I 8 Z (L 10 Z)<|vA_ 7 Qk Z λa3=>G [2,.v (.bd []) [] (.sl 2 (([(l.1,1)]:QBg).map QI))] Z Z<|A 0 Zd Z λw=>I 14 Z (L 11 Z)<|B λO k=>g3_ [7,.st (Qk O) ((p.set i.Place.toNat w.1).map Qk),8,.S 10 (.own 23 (p.set i.Place.toNat w.1).length)] Z (Ym k Z) ⟨(XN (Yo k).2),WG Z⟩ (congrArg (λn=>V.own 23 n) (by simp))<|R 0 Z)<|X 2 Z) (λa4=>gT_ [2,.denil 8 [Q 1]] Z<|E 0 Z) (λa5=>zF_ 10 23 [8] [] Z<|E 0 Z)
def Lj:O_ (QMk×Int):=j_ (Lz c r.Task r.Vars) λd=>bif (d.2 != 0)then Q (([]:L_ QBg),d.2)else j_ (idx c.Tasks r.Task) λe=>j_ (EO c e.Ins r.Ins d.1) λa=>Q (a.1,a.2)
def Qcw {g h}:CT 224 [.G Qf g,.G Qo h] [] (Lj g h) (λr=>(.tup [.M 1 Qk r.1,.I r.2])) no_:=
 W 34 func224 Z<|A 15 Ze Z λj=>I 14 Z (gT_ [9,.denil 4 [Q 1]] Z<|E 0 Z)<|B λi f=>B λb e=>D 3 Z (dz_ [(5,.B (.row (Qy i))),(5,.B (.C4 (.tup [.M 1 Qk b.1,.I b.2]))),(2,.m .s),(0,.m .s)]) [] [] [4,5] [] Z Z (a2_ (XY f) (Ps _ e)) Z<|E 2 Z
def QaV:O_ Bool:=j_ (Jk f) λc=>bif (!c)then Q true else j_ (Jk l0) λd=>Q (!d)
def Ed:O_ (Int⊕(Unit⊕Unit)):=bif (b<(f.length:Int))then j_ (idx f b) λc=>j_ (idx f b) λd=>j_ (Ci l0 d.1) λe=>bif (e<c.2)then Q (i_ (y_ ()))else Q (y_ (Qe (b+1)))else Q (i_ (i_ ()))
def QaW:O_ Bool:=bif p then Q false else j_ (Qh (λst=>Ed f l0 st) 0) (Sum.elim (λq=>Q false) (λq=>Q true))
def EP:O_ Bool:=j_ (QaV f l0) (λc=>QaW f l0 c)
def FQ {k l}:CT 276 [.M 2 QI k,.M 2 QI l] [] (EP k l) V.b no_:=
 W 33 func276 Z<|mV_ 7 [0,1] [] (λm=>([(13,.b m)],[])) Z (A 2 WT Z λo=>I 2 Z (M 5 Z)<|A 1 WT Z λp=>M 3 Z) λm=>I 1 Z (E 7 Z)<|F 9 [0,1] [] (λst=>([(5,.I st)],[])) [] [] (λq=>(.ret,([(4,.b false)],[]))) [] [] (λq=>(.exit 0,([],[]))) Z (λn=>N 5 Z<|I 3 Z (B λh e=>B λi f=>B λj g=>D 5 Z (dz_ [(2,.B (.row (QI h))),(5,.B (.row (QI i))),(2,.B (.C2 (.I j))),(0,.N)]) [] [] [0,1,5,32] [] Z Z (a3_ (XY e) (XY f) (Sr _ g)) Z<|I 1 Z (L 8 Z)<|R 8 Z)<|X 2 Z) (λ_=>E 2 Z) (λ_=>E 8 Z)
def Pu:O_ (Int⊕(Unit⊕Unit)):=bif (m<(e.length:Int))then j_ (idx e m) λf=>j_ (idx j0 m) λb=>j_ (EP f b) λc=>bif (!c)then Q (i_ (y_ ()))else Q (y_ (Qe (m+1)))else Q (i_ (i_ ()))
def Hs:O_ Bool:=bif ((e.length:Int) != (j0.length:Int))then Q false else j_ (Qh (λst=>Pu e j0 st) 0) (Sum.elim (λq=>Q false) (λq=>Q true))
def QaX {j k}:CT 270 [.M 1 Qk j,.M 1 Qk k] [] (Hs j k) V.b no_:=
 W 29 func270 Z<|N 9 Z<|N 1 Z<|I 3 Z (E 7 Z)<|F 9 [0,1] [] (λst=>([(5,.I st)],[])) [] [] (λq=>(.ret,([(4,.b false)],[]))) [] [] (λq=>(.exit 0,([],[]))) Z (λm=>N 5 Z<|I 3 Z (B λl g=>B λh e=>B λi f=>D 5 Z [.N,.N,.B (.row (Qk l)),.N,.N,.N,.B (.row (Qk h)),.N,.B (.C2 (.b i)),.N] [] [] [0,1,5,6] [] Z Z (a3_ (XY g) (XY e) (FQ _ f)) Z<|I 7 Z (L 8 Z)<|R 8 Z)<|X 2 Z) (λ_=>E 2 Z) (λ_=>E 8 Z)
def Cm:O_ (Int⊕(Unit⊕Unit)):=bif (i<(d.length:Int))then j_ (idx d i) λa=>bif (a==b)then Q (i_ (y_ ()))else Q (y_ (Qe (i+1)))else Q (i_ (i_ ()))
def Qbj:O_ Bool:=j_ (Qh (λst=>Cm d b st) 0) (Sum.elim (λq=>Q true) (λq=>Q false))
def Qqb {a c}:CT 271 [.M 1 Qb a,.I c] [] (Qbj a c) V.b no_:=
 W 18 func271 Z<|F 12 [0,1] [] (λst=>([(5,.I st)],[])) [] [] (λq=>(.ret,([(4,.b true)],[]))) [] [] (λq=>(.exit 0,([],[]))) Z (λd=>N 5 Z<|I 3 Z (J 8 Z λe=>I 5 Z (L 8 Z)<|R 8 Z)<|X 2 Z) (λ_=>E 2 Z) (λ_=>E 8 Z)
def ZM:O_ LI_:=j_ (Qh (λst=>j_ (bif (st<(d.length:Int))then j_ (idx d st) λe=>Q (decide (e<b))else Q false) (λf=>bif f then Q (y_ (Qe (st+1)))else Q (i_ st))) 0) (λq=>j_ (chk (decide (0<=q)&&decide (0<=q.toNat)&&decide (q.toNat<=d.length))) λc=>j_ (chk (([]:L_ Int).length+((d.drop 0).take (q.toNat-0)).length<=4294967296)) λc=>j_ (chk ((([]:L_ Int)++((d.drop 0).take (q.toNat-0))).length+([b]:L_ Int).length<=4294967296)) λc=>j_ (chk (decide (0<=q)&&decide (q.toNat<=d.length)&&decide (d.length<=d.length))) λc=>j_ (chk (((([]:L_ Int)++((d.drop 0).take (q.toNat-0)))++[b]).length+((d.drop q.toNat).take (d.length-q.toNat)).length<=4294967296)) λc=>Q (((([]:L_ Int)++((d.drop 0).take (q.toNat-0)))++[b])++((d.drop q.toNat).take (d.length-q.toNat))))
def QoP {c g}:CT 273 [.M 1 Qb c,.I g] [] (ZM c g) (λr=>(.P 600 r)) (λr=>[(600,.R 1 Qb r)]):=
 W 32 func273 Z<|lA_ 12 [0,1] [] (λst=>([(5,.I st)],[])) [0,1] [] (λq=>(.exit 0,([(5,.I q)],[]))) Z (λat_4=>mV_ 2 [0,1,5] [] (λo=>([(17,.b o)],[])) Z (N 3 Z<|I 2 Z (J 2 Z λs=>M 5 Z)<|M 8 Z) λo=>I 1 Z (R 9 Z)<|X 2 Z) λO=>kA_ λd=>kA_ λh=>kA_ λi=>kA_ λe=>kA_ λj=>BM 3 Z [.N,.N,.N,.B (.any (.sl 1 (((c.drop 0).take (O.toNat-0)).map Qb)) none),.m (.app ((([]:L_ Int)++((c.drop 0).take (O.toNat-0))).map Qb) (([]:L_ Int)++((c.drop 0).take (O.toNat-0))).length),.a .no none true,.a (.bd []) (Q ([],.sl 1 (([g]:L_ Int).map Qb))) true,.m (.app (((([]:L_ Int)++((c.drop 0).take (O.toNat-0)))++[g]).map Qb) ((([]:L_ Int)++((c.drop 0).take (O.toNat-0)))++[g]).length),.a .no none true,.a .no none true,.a (.any (.sl 1 (((c.drop O.toNat).take (c.length-O.toNat)).map Qb)) none) none true,.m (.app ((((([]:L_ Int)++((c.drop 0).take (O.toNat-0)))++[g])++((c.drop O.toNat).take (c.length-O.toNat))).map Qb) (((([]:L_ Int)++((c.drop 0).take (O.toNat-0)))++[g])++((c.drop O.toNat).take (c.length-O.toNat))).length),.N] [0,1,5] [] [4] [20] Z Z (λp=>(a6_ (λσ k t _=>Stp.sliceD Z Z (Xk p.n Z) (k _ _ Z) (Xg.es Z) GC.no (GC.val (k _ _ Z) (Xd (Tl d)) Z) (Xd (Tm d)) (XZ (Xd (QbF d)) (PA Qq.symm)) Qbb) ⟨(Qq (f:=Qb) (l:=([]:L_ Int))),Af h Qq,(Kz (f:=Qb) (l:=([]:L_ Int)) (m:=((c.drop 0).take (O.toNat-0)))),UJ (l:=([]:L_ Int)) Qq⟩ Z ⟨Qq,Af i Qq,Kz,UJ Qq⟩ (λσ k t _=>Stp.sliceD Z Z (Xk p.n Z) (k _ _ Z) (Xg.es Z) (GC.val (k _ _ Z) (Xd (Tl e)) Z) (GC.none_ Qq) (Xd (Tm e)) (PA Qq.symm) Qbb) ⟨Qq,Af j Qq,Kz,UJ Qq⟩)) Z<|gT_ [2,.ren 20 600] Z<|E 0 Z
def Cn:O_ (QMk×Int):=j_ (Lz c r.Task r.Vars) λd=>bif (d.2 != 0)then Q (([]:L_ QBg),d.2)else j_ (idx c.Tasks r.Task) λe=>j_ (EO c e.Outs r.Outs d.1) λa=>Q (a.1,a.2)
def Qcx {g h}:CT 226 [.G Qf g,.G Qo h] [] (Cn g h) (λr=>(.tup [.M 1 Qk r.1,.I r.2])) no_:=
 W 34 func226 Z<|A 15 Ze Z λj=>I 14 Z (gT_ [9,.denil 4 [Q 1]] Z<|E 0 Z)<|B λi f=>B λb e=>D 3 Z (dz_ [(5,.B (.row (Qy i))),(5,.B (.C4 (.tup [.M 1 Qk b.1,.I b.2]))),(2,.m .s),(0,.m .s)]) [] [] [4,5] [] Z Z (a2_ (XY f) (Ps _ e)) Z<|E 2 Z
def Sv:O_ (Int⊕(Unit⊕Unit)):=Q (y_ (Qe (a+1)))
def Qcy:O_ Bool:=bif (k3.2==0)then j_ (Hs k3.1 j4) λb=>Q b else Q false
def WV (g:Qc)(h:Qd)(i:(LI_×Int))(j:QMk)(a:Int):O_ (Int⊕(Unit⊕Unit)):=bif ((a<(l.Ins.length:Int))&&(l.Join==3))then j_ (Qbj g.Ins a) λc=>bif c then Sv a else j_ (ZM g.Ins a) λd=>j_ (EO h l.Ins d i.1) λe=>j_ (Qcy e j) (λf=>bif f then Q (i_ (y_ ()))else Sv a)else Q (i_ (i_ ()))
def Bs:O_ Int:=j_ (Cn c r) λa=>Q a.2
def Co:O_ Int:=
 j_ (Lz c r.Task r.Vars) λa=>
 bif (a.2 != 0)then
 Q a.2
 else
 j_ (idx c.Tasks r.Task) λd=>
 j_ (Nt d.Guard a.1) λf=>
 bif (f.2 != 0)then
 Q f.2
 else
 bif (f.1==0)then
 Q 9
 else
 j_ (Hr d.Join (d.Ins.length:Int) r.Ins) λg=>
 j_ (Hr d.Split (d.Outs.length:Int) r.Outs) λh=>
 bif ((!g)||(!h))then
 Q 11
 else
 j_ (Lj c r) λb=>
 bif (b.2 != 0)then
 Q b.2
 else
 j_ (Hs b.1 e) λi=>
 bif (!i)then
 Q 10
 else
 j_ (Qh (λst=>WV d r c a e st) 0) (Sum.elim (λq=>Q 11) (λq=>Bs c r))
def Sw {o p r}:CT 221 [.G Qf o,.M 1 Qk p,.G Qo r] [] (Co o p r) V.I no_:=
 W 124 func221 Z<|A 14 Ze Z λy=>I 14 Z (E 8 Z)<|J 8 Z λs=>A 10 QdI Z λz=>I 14 Z (E 8 Z)<|I 9 Z (E 7 Z)<|N 8 Z<|A 2 QaS Z λm=>N 9 Z<|A 2 QaS Z λn=>T 5 [1,3,5,7,9] [3,5,9] ([(68,.b ((!m)||(!n)))],[]) Z (H 4 Z (λe=>Y 4 68 Z (KO e Z)) λe=>Y 4 68 Z (Yv e Z))<|I 1 Z (E 7 Z)<|A 6 Qcw Z λt=>I 14 Z (E 8 Z)<|A 7 QaX Z λu=>I 3 Z (E 7 Z)<|F 9 [1,3,5,7,9] [3,5,9] (λst=>([(14,.I st)],[])) [] [] (λq=>(.ret,([(6,.I 11)],[]))) [3,5] [3,5] (λq=>(.exit 0,([],[]))) Z (λg=>T 2 [1,3,5,7,9,14] [3,5,9] ([(91,.b ((g<(s.Ins.length:Int))&&(s.Join==3)))],[]) Z (N 4 Z<|H 2 Z (λf=>Y 5 91 Z (XB f Z)) λf=>Y 5 91 Z (Yh f Z))<|I 1 Z (mU_ 2 [1,3,5,7,9,14] [3,5,9] ([],[]) (Sv g) Z (A 7 Qqb Z λv=>I 2 Z (uA_ 3 Z Z)<|B λh i=>B λj k=>D 3 Z (dz_ [(6,.B (.cd false [.d,.d] 1 (h.map Qb) h.length)),(1,.B (.C4 (.tup [.M 1 Qk j.1,.I j.2]))),(4,.N)]) [] [] [1,3,5,7,9,14,15,16] [3,5,9] Z Z (a2_ ⟨(QoP _ i),Qq⟩ (Ps _ k)) Z<|mV_ 2 [1,3,5,7,9,14] [3,5,9] (λl=>([(116,.b l)],[])) Z (I 4 Z (A 2 QaX Z λw=>M 2 Z)<|M 5 Z) λl=>I 1 Z (L 8 Z)<|uA_ 2 Z Z)<|R 5 Z)<|X 2 Z) (λ_=>E 2 Z) (λ_=>A 6 Qcx Z λx=>E 13 Z)
def IB (b:(L_ Qc)):O_ ((Int×(L_ Qc))⊕((L_ Qc)⊕(L_ Qc))):=Q (y_ ((Qe (a+1)),b))
def EQ (i:QLL)(j:Int)(l:Qd)(m:QMk)(a:Int)(g:Int)(f:Int)(c:(L_ Qc)):O_ ((Int×(L_ Qc))⊕((L_ Qc)⊕(L_ Qc))):=bif (f<(k0.length:Int))then j_ (chk (([]:L_ Int).length+k1.length<=4294967296)) λ_=>j_ (idx i j) λd=>j_ (idx k0 f) λe=>j_ (Co l m (Qc.mk a (([]:L_ Int)++k1) d e)) λk=>bif (k==0)then j_ (chk (c.length+([(Qc.mk a (([]:L_ Int)++k1) d e)]:L_ Qc).length<=4294967296)) λ_=>bif (g<=((c++([(Qc.mk a (([]:L_ Int)++k1) d e)]:L_ Qc)).length:Int))then Q (i_ (y_ (c++([(Qc.mk a (([]:L_ Int)++k1) d e)]:L_ Qc))))else IB f (c++([(Qc.mk a (([]:L_ Int)++k1) d e)]:L_ Qc))else IB f c else Q (i_ (i_ c))
def Gl (f:QLL)(g:LI_)(h:Qd)(i:QMk)(a:Int)(b:Int)(c:Int)(e:(L_ Qc)):O_ ((Int×(L_ Qc))⊕((L_ Qc)⊕(L_ Qc))):=bif (c<(k0.length:Int))then j_ (Qh (λst=>EQ f g k0 c h i a b st.1 st.2) (0,e)) (Sum.elim (λq=>Q (i_ (y_ q))) (λq=>Q (y_ ((Qe (c+1)),q))))else Q (i_ (i_ e))
def Qcz:O_ Bool:=bif (0<=a)then j_ (idx d a) λc=>j_ (idx l.Vars a) λb=>j_ (Ux f0.Colours b.Colour) λe=>Q (decide (e<=(Qe (c+1))))else Q false
def ID:O_ ((Int×LI_)⊕(Int×LI_)):=j_ (Qcz k e0 l f0) (λc=>bif c then j_ (idx e0 k) λe=>Q (y_ ((Qe (k-1)),(e0.set k.toNat 0)))else Q (i_ (k,e0)))
def Pv (b:(L_ Qc))(h:Int)(a:LI_):O_ ((Bool×LI_×(L_ Qc))⊕((L_ Qc)⊕(L_ Qc))):=bif (0<=h)then j_ (idx a h) λc=>j_ (idx a h) λd=>Q (y_ ((decide (0<=h)),(a.set h.toNat (Qe (c+1))),b))else Q (y_ ((decide (0<=h)),a,b))
def Pw (c:(L_ Qc)):O_ ((Bool×LI_×(L_ Qc))⊕((L_ Qc)⊕(L_ Qc))):=j_ (Qh (λst=>ID l f0 st.1 st.2) ((Qe ((e0.length:Int)-1)),e0)) (λq=>Pv c q.1 q.2)
def Px (g:QLL)(i:Qd)(j:QMk)(b:Int)(c:Int)(h:QF)(a:Bool)(d:LI_)(e:(L_ Qc)):O_ ((Bool×LI_×(L_ Qc))⊕((L_ Qc)⊕(L_ Qc))):=bif a then j_ (Qh (λst=>Gl k0 g d i j b c st.1 st.2) (0,e)) (Sum.elim (λq=>Q (i_ (y_ q))) (λq=>Pw h i d q))else Q (i_ (i_ e))
def Cp:O_ (L_ Qc):=
 bif ((o<0)||(((c.Tasks.length:Int)<=o)||(i0<1)))then
 Q ([]:L_ Qc)
 else
 j_ (idx c.Tasks o) λa=>
 j_ (chk (decide (0<=(a.Vars.length:Int))&&decide ((a.Vars.length:Int)<=(a.Vars.length:Int))&&decide ((a.Vars.length:Int)<=4294967296))) λ_=>
 j_ (GO a.Join (a.Ins.length:Int)) λb=>
 j_ (GO a.Split (a.Outs.length:Int)) λf=>
 j_ (Qh (λst=>Px b f c e o i0 a st.1 st.2.1 st.2.2) (true,(List.replicate (a.Vars.length:Int).toNat (0:Int)),([]:L_ Qc))) (Sum.elim (λq=>Q q) (λq=>Q q))
def Qlg {n1 m2 e g}:CT 220 [.G Qf n1,.M 1 Qk m2,.I e,.I g] [] (Cp n1 m2 e g) (λr=>(.P 600 r)) (λr=>[(600,.R 4 Qo r)]):=
 W 130 func220 Z<|T 8 [1,2,3,4] [4] ([(31,.b ((e<0)||(((n1.Tasks.length:Int)<=e)||(g<1))))],[]) Z (H 4 Z (λk=>Y 11 31 Z (KO k Z)) λk=>N 3 Z<|H 3 Z (λx=>Y 4 31 Z (Yv k (KO x Z))) λx=>Y 4 31 Z (Yv k (Yv x Z)))<|I 1 Z (aD_ 7 8 600 4 Z<|E 0 Z)<|J 7 Z λy=>N 9 Z<|kA_ λz=>g2_ [.o (.rows ((List.replicate (y.Vars.length:Int).toNat (0:Int)).map Qb)),.S 40 (.own 40 (List.replicate (y.Vars.length:Int).toNat (0:Int)).length),9] Z ⟨z,QeM Z⟩ (by simp)<|N 0 Z<|oC_ 0 [.d,.d] Nr Z λb4=>N 9 Z<|oC_ 0 [.d,.d] Nr Z λb5=>aD_ 15 13 84 4 Z<|F 0 [1,2,3,4,9,11,12] [4,9,46,52] (λst=>([(10,.P 40 st.2.1),(13,.P 84 st.2.2),(14,.b st.1)],[(40,.R 1 Qb st.2.1),(84,.R 4 Qo st.2.2)])) [] [] (λq=>(.ret,([(8,.P 84 q)],[(84,.R 4 Qo q)]))) [] [] (λq=>(.exit 0,([(13,.P 84 q)],[(84,.R 4 Qo q)]))) Z (λ⟨a7,h,b6⟩=>I 6 Z (F 10 [1,2,3,4,9,10,11,12] [4,9,40,46,52] (λst=>([(13,.P 84 st.2),(15,.I st.1)],[(84,.R 4 Qo st.2)])) [] [] (λq=>(.ret,([(8,.P 84 q)],[(84,.R 4 Qo q)]))) [1,2,3,4,9,10,11,12] [4,9,40,46,52] (λq=>(.exit 2,([(13,.P 84 q)],[(84,.R 4 Qo q)]))) Z (λ⟨b7,b8⟩=>I 9 Z (F 10 [1,2,3,4,9,10,11,12,15] [4,9,40,46,52] (λst=>([(13,.P 84 st.2),(16,.I st.1)],[(84,.R 4 Qo st.2)])) [] [] (λq=>(.ret,([(8,.P 84 q)],[(84,.R 4 Qo q)]))) [1,2,3,4,9,10,11,12,15] [4,9,40,46,52] (λq=>(.exit 4,([(13,.P 84 q)],[(84,.R 4 Qo q)]))) Z (λ⟨a8,b9⟩=>I 9 Z (mE_ 2 [1,2,3,4,9,10,11,12,15,16] [4,9,40,46,52] (λi:(L_ Qc)=>([(13,.P 84 i)],[(84,.R 4 Qo i)])) (λi=>IB a8 i) Z (kA_ λC=>B λO p=>B λa0 t=>BM 2 Z [.a .no none true,.N,.N,.m (.any ⟨[67],[(67,.arr 1 ((([]:L_ Int)++h).map Qb))],Q (69,.own 67 (([]:L_ Int)++h).length)⟩),.a .no none true,.a .no none true,.a .no none true,.a (.row (Xy O)) none true,.a .no none true,.a .no none true,.a .no none true,.a (.row (Xy a0)) none true,.E (.agg [.I e,.own 67 (([]:L_ Int)++h).length,.M 1 Qb O,.M 1 Qb a0]),.a .no none true,.m .s] [1,2,3,4,9,10,11,12,13,15,16] [4,9,40,46,52,84] [1,2,3,4,9,10,11,12,13,15,16,17] [4,9,17,40,46,52,67,84] Z Z (λhC=>(a6_ (λσ h1 h2=>Stp.appO Z Z (Xk hC.n Z) (h1 _ _ Z) (h2 _ _ Z) Z (Qq (f:=Qb) (l:=([]:L_ Int))) (Xg.es Z) (Xg.es Z) (Xg.zv Z) Z (by decide) Z C (h1 _ _ Z) (h2 _ _ Z) (Qq (f:=Qb) (l:=h)) (Kz (f:=Qb) (l:=([]:L_ Int)) (m:=h)) (by simp)) (Ym p Z) (XN (Yo p).2) (Ym t Z) (XN (Yo t).2) Z)) Z<|G [6,.frz 67 ((([]:L_ Int)++h).map Qb) [81] [17]] Z (a2_ ⟨(Kj Qq),U⟩ ⟨(Kj Qq),U⟩)<|S 0 .fn [] Sw Z λc0=>I 3 Z (pA_ 4 4 Qo Z<|I 11 Z (L 9 Z)<|P 2 Z Z)<|P 2 Z Z) λi=>R 5 Z)<|X 2 Z) (λc1=>L 3 Z) (λc2=>R 8 Z))<|X 2 Z) (λc3=>L 3 Z) (λc4=>lA_ 12 [1,2,3,4,9,11,12,13] [4,9,46,52,84] (λst=>([(10,.P 40 st.2),(18,.I st.1)],[(40,.R 1 Qb st.2)])) [1,2,3,4,9,11,12,13] [4,9,46,52,84] (λq=>(.exit 6,([(10,.P 40 q.2),(18,.I q.1)],[(40,.R 1 Qb q.2)]))) Z (λ⟨at_52,a1⟩=>mV_ 2 [1,2,3,4,9,10,11,12,13,18] [4,9,40,46,52,84] (λa2=>([(114,.b a2)],[])) Z (jF_ (λj=>B λa9 u=>B λb0 a3=>B λb1 a4=>D 0 Z [.N,.N,.E (.b true),.N,.N,.N,.B (.row (Qb a9)),.N,.N,.N,.N,.N,.N,.B (.row (Yw b0)),.N,.N,.B (.C2 (.I b1)),.N,.N] [] [] [1,2,3,4,9,10,11,12,13,18,114] [4,9,40,46,52,84] Z Z ⟨⟨⟨⟨(tc_ j),(Ym u Z)⟩,(XN (Yo u).2)⟩,(XY a3)⟩,(Vg _ a4)⟩ Z<|M 0 Z) λj=>D 0 Z (dz_ [(2,.E (.b false)),(15,.N)]) [] [] [1,2,3,4,9,10,11,12,13,18,114] [4,9,40,46,52,84] Z Z (tc_ j) Z<|M 0 Z) λa2=>I 1 Z (B λb2 v=>g3_ [8,.st (Qb b2) ((a1.set at_52.toNat 0).map Qb),8,.S 10 (.own 40 (a1.set at_52.toNat 0).length)] Z (Ym v Z) ⟨(XN (Yo v).2),WG Z⟩ (congrArg (λn=>V.own 40 n) (by simp))<|R 0 Z)<|X 2 Z) λ⟨at_56,a5⟩=>I 14 Z (vA_ 4 Qb Z λa6=>B λb3 w=>g3_ [2,.st (Qb b3) ((a5.set at_56.toNat (Qe (a6+1))).map Qb),2,.S 10 (.own 40 (a5.set at_56.toNat (Qe (a6+1))).length)] Z (Ym w Z) ⟨(XN (Yo w).2),WG Z⟩ (congrArg (λn=>V.own 40 n) (by simp))<|R 0 Z)<|R 2 Z))<|X 2 Z) (λc5=>gT_ [2,.ren 84 600] Z<|E 0 Z) (λc6=>gT_ [9,.ren 84 600] Z<|E 0 Z)
def OC (a:(L_ Qc)):O_ ((Int×(L_ Qc))⊕(L_ Qc)):=bif (i0<(c.Tasks.length:Int))then j_ (Cp c e i0 (Qe (o-(a.length:Int)))) λb=>j_ (chk (a.length+b.length<=4294967296)) λ_=>Q (y_ ((Qe (i0+1)),(a++b)))else Q (i_ a)
def PS:O_ (L_ Qc):=j_ (Qh (λst=>OC c e o st.1 st.2) (0,([]:L_ Qc))) (λq=>Q q)
def Qe9 {e f a}:CT 152 [.G Qf e,.M 1 Qk f,.I a] [] (PS e f a) (λr=>(.P 600 r)) (λr=>[(600,.R 4 Qo r)]):=
 W 27 func152 Z<|aD_ 18 7 16 4 Z<|lA_ 0 [1,2,3] [3] (λst=>([(7,.P 16 st.2),(8,.I st.1)],[(16,.R 4 Qo st.2)])) [] [] (λq=>(.exit 0,([(7,.P 16 q)],[(16,.R 4 Qo q)]))) Z (λ⟨i,g⟩=>N 6 Z<|I 3 Z (oC_ 13 [.d,.d,.d,.d] Qlg Z λb=>kA_ λc=>G [.app ((g++b).map Qo) (g++b).length,9] Z ⟨Qq,c,Qq,Kz,by simp⟩<|R 0 Z)<|X 2 Z) λh=>gT_ [9,.ren 16 600] Z<|E 0 Z
def QdJ:O_ Bool:=j_ (Jk f) λd=>bif (!d)then Q true else j_ (Jk l0) λa=>Q (!a)
def US:O_ ((Int×QBg)⊕QBg):=bif (b<(f.length:Int))then j_ (idx f b) λd=>j_ (idx f b) λe=>j_ (Ci l0 e.1) λa=>j_ (idx f b) λg=>j_ (Np e1 d.1 (Qe (a-g.2))) λh=>Q (y_ ((Qe (b+1)),h))else Q (i_ e1)
def QdK:O_ (QBg×Int):=bif p then Q (([]:QBg),1)else j_ (EP f l0) λb=>bif (!b)then Q (([]:QBg),10)else j_ (chk (([]:QBg).length+l0.length<=4294967296)) λ_=>j_ (Qh (λst=>US f l0 st.1 st.2) (0,(([]:QBg)++l0))) (λq=>Q (q,0))
def Ht:O_ (QBg×Int):=j_ (QdJ f l0) (λc=>QdK l0 f c)
def Qm2 {t u}:CT 275 [.M 2 QI t,.M 2 QI u] [] (Ht t u) (λr=>(.tup [.M 2 QI r.1,.I r.2])) no_:=
 W 50 func275 Z<|mV_ 8 [0,1] [] (λv=>([(15,.b v)],[])) Z (A 2 WT Z λO=>I 2 Z (M 5 Z)<|A 1 WT Z λw=>M 3 Z) λv=>I 1 Z (gT_ [8,.denil 4 [Q 2]] Z<|E 0 Z)<|A 7 FQ Z λx=>I 3 Z (gT_ [8,.denil 4 [Q 2]] Z<|E 0 Z)<|pB_ 6 QI Z<|gT_ [10,.ren 20 605] Z<|lA_ 0 [0,1] [] (λst=>([(6,.P 605 st.2),(7,.I st.1)],[(605,.R 2 QI st.2)])) [] [] (λq=>(.exit 0,([(6,.P 605 q)],[(605,.R 2 QI q)]))) Z (λ⟨y,z⟩=>N 5 Z<|I 3 Z (zF_ 4 605 [6] [] Z<|B λk e=>B λl f=>B λo g=>B λp h=>B λi j=>D 0 Z (dz_ [(3,.B (.row (QI k))),(5,.B (.row (QI l))),(2,.B (.C2 (.I o))),(2,.B (.row (QI p))),(3,.B (.co false [.d,.d,.d] 2 (i.map QI) i.length)),(0,.m .s)]) [] [] [0,1,6,7] [48] Z Z (a5_ (XY e) (XY f) (Sr _ g) (XY h) ⟨(QdD _ j),Qq,.inl Z⟩) Z<|gT_ [7,.ren 48 605] Z<|R 0 Z)<|X 2 Z) λC=>zF_ 10 605 [4] [] Z<|E 0 Z
def MB:O_ ((Int×QMk)⊕(Int⊕QMk)):=Q (y_ ((Qe (a+1)),e))
def UT:O_ ((Int×QMk)⊕(Int⊕QMk)):=bif ((k<(e.length:Int))&&(k<(j0.length:Int)))then bif p then j_ (idx e k) λh=>j_ (idx j0 k) λi=>j_ (AS h i) λb=>bif (b.2 != 0)then Q (i_ (y_ b.2))else j_ (chk (d3.length+([b.1]:L_ QBg).length<=4294967296)) λ_=>MB k (d3++([b.1]:L_ QBg))else j_ (idx e k) λj=>j_ (idx j0 k) λa=>j_ (Ht j a) λc=>bif (c.2 != 0)then Q (i_ (y_ c.2))else j_ (chk (d3.length+([c.1]:L_ QBg).length<=4294967296)) λ_=>MB k (d3++([c.1]:L_ QBg))else Q (i_ (i_ d3))
def Bt:O_ (QMk×Int):=j_ (Qh (λst=>UT e j0 p st.1 st.2) (0,([]:L_ QBg))) (Sum.elim (λq=>Q (([]:L_ QBg),q)) (λq=>Q (q,0)))
def QdL {s t g}:CT 225 [.M 1 Qk s,.M 1 Qk t,.b g] [] (Bt s t g) (λr=>(.tup [.M 1 Qk r.1,.I r.2])) no_:=
 W 66 func225 Z<|aD_ 18 8 606 1 Z<|F 0 [0,1,2] [] (λst=>([(8,.P 606 st.2),(9,.I st.1)],[(606,.R 1 Qk st.2)])) [] [] (λq=>(.ret,([(6,.Y),(7,.I q)],[]))) [] [] (λq=>(.exit 0,([(8,.P 606 q)],[(606,.R 1 Qk q)]))) Z (λ⟨u,z⟩=>T 2 [0,1,2,8,9] [606] ([(23,.b ((u<(s.length:Int))&&(u<(t.length:Int))))],[]) Z (N 3 Z<|H 2 Z (λe=>N 2 Z<|Y 3 23 Z (XB e Z)) λe=>Y 6 23 Z (Yh e Z))<|I 1 Z (mE_ 2 [0,1,2,9] [] (λf:QMk=>([(8,.P 606 f)],[(606,.R 1 Qk f)])) (λf=>MB u f) Z (I 7 Z (B λv h=>B λw i=>B λj k=>D 1 Z (dz_ [(2,.B (.row (Qk v))),(3,.B (.row (Qk w))),(1,.B (.C2 (.tup [.M 2 QI j.1,.I j.2]))),(4,.N)]) [] [] [0,1,2,8,9,10,11] [606] Z Z (a3_ (XY h) (XY i) (Zd _ k)) Z<|I 8 Z (L 12 Z)<|pA_ 6 1 Qk Z<|P 6 Z Z)<|B λx l=>B λy m=>B λo p=>D 3 Z (dz_ [(2,.B (.row (Qk x))),(3,.B (.row (Qk y))),(1,.B (.C2 (.tup [.M 2 QI o.1,.I o.2]))),(4,.N)]) [] [] [0,1,2,8,9,12,13] [606] Z Z (a3_ (XY l) (XY m) (Qm2 _ p)) Z<|I 8 Z (L 11 Z)<|pA_ 5 1 Qk Z<|P 3 Z Z) λf=>R 5 Z)<|X 2 Z) (λC=>gT_ [2,.denil 6 [Q 1]] Z<|E 0 Z) (λO=>zF_ 10 606 [6] [] Z<|E 0 Z)
def Vi:O_ (QMk×Int):=j_ (Co c e r) λf=>bif (f != 0)then Q (([]:L_ QBg),f)else j_ (Lj c r) λb=>j_ (Bt e b.1 false) λa=>Q (a.1,a.2)
def Qm5 {a b c}:CT 154 [.G Qf a,.M 1 Qk b,.G Qo c] [] (Vi a b c) (λr=>(.tup [.M 1 Qk r.1,.I r.2])) no_:=
 W 29 func154 Z<|A 13 Sw Z λf=>I 10 Z (gT_ [9,.denil 6 [Q 1]] Z<|E 0 Z)<|A 6 Qcw Z λd=>A 11 QdL Z λe=>E 7 Z
def Vj:O_ ((Int×QMk)⊕QMk):=Q (y_ ((Qe (a+1)),e))
def QdM:O_ Bool:=j_ (idx l.Cancel f1) λd=>bif (0<=d)then j_ (idx l.Cancel f1) λe=>Q (decide (e<(d2.length:Int)))else Q false
def QdN (e:Bool):O_ ((Int×QMk)⊕QMk):=bif e then j_ (idx l.Cancel f1) λc=>j_ (idx d2 c) λf=>Vj f1 (d2.set c.toNat ([]:QBg))else Vj f1 d2
def MC:O_ ((Int×QMk)⊕QMk):=bif (f1<(l.Cancel.length:Int))then j_ (QdM l f1 d2) (λd=>QdN l f1 d2 d)else Q (i_ d2)
def QdO:O_ (QMk×Int):=j_ (Bt j4 k3.1 true) λa=>Q (a.1,a.2)
def Vk:O_ (QMk×Int):=j_ (Cn c r) λa=>bif (a.2 != 0)then Q (([]:L_ QBg),a.2)else j_ (chk (([]:L_ QBg).length+e.length<=4294967296)) λ_=>j_ (idx c.Tasks r.Task) λb=>j_ (Qh (λst=>MC b st.1 st.2) (0,(([]:L_ QBg)++e))) (λq=>QdO a q)
def Qm6 {j k l}:CT 155 [.G Qf j,.M 1 Qk k,.G Qo l] [] (Vk j k l) (λr=>(.tup [.M 1 Qk r.1,.I r.2])) no_:=
 W 63 func155 Z<|A 12 Qcx Z λt=>I 14 Z (gT_ [9,.denil 6 [Q 1]] Z<|E 0 Z)<|pB_ 6 Qk Z<|J 9 Z λm=>lA_ 12 [8,11] [] (λst=>([(10,.P 22 st.2),(12,.I st.1)],[(22,.R 1 Qk st.2)])) [8] [] (λq=>(.exit 0,([(10,.P 22 q)],[(22,.R 1 Qk q)]))) Z (λ⟨g,d⟩=>N 5 Z<|I 3 Z (mE_ 2 [8,11,12] [] (λa:QMk=>([(10,.P 22 a)],[(22,.R 1 Qk a)])) (λa=>Vj g a) Z (mV_ 2 [8,10,11,12] [22] (λe=>([(51,.b e)],[])) Z (J 3 Z λo=>I 3 Z (J 2 Z λp=>M 6 Z)<|M 9 Z) λe=>I 1 Z (J 4 Z λf=>B λh c=>g3_ [2,.x (λσ=>σ.set 22 (.arr 1 ((d.set f.toNat ([]:QBg)).map Qk))),2,.S 10 (.own 22 (d.set f.toNat ([]:QBg)).length)] Z (Ym c Z) (Stp.storeNil (zz:=2) (r:=Qk h) Z Z Z Z (XN (Yo c).2) Z (Xg.sz Z) Z (WG Z)) (congrArg (λn=>V.own 22 n) (by simp))<|P 0 Z Z)<|P 2 Z Z) λa=>R 5 Z)<|X 2 Z) λi=>G [6,.frz 22 (i.map Qk) [10,58] []] Z (a2_ (Kj Qq) (Kj Qq))<|A 0 QdL Z λs=>E 7 Z
def Vl:O_ (QMk×Int):=j_ (Vi c e r) λb=>bif (b.2 != 0)then Q (([]:L_ QBg),b.2)else j_ (Vk c b.1 r) λa=>Q (a.1,a.2)
def QgN {a b c}:CT 100 [.G Qf a,.M 1 Qk b,.G Qo c] [] (Vl a b c) (λr=>(.tup [.M 1 Qk r.1,.I r.2])) no_:=
 W 26 func100 Z<|A 13 Qm5 Z λe=>I 14 Z (gT_ [9,.denil 6 [Q 1]] Z<|E 0 Z)<|A 7 Qm6 Z λd=>E 7 Z
def QdP:O_ Bool:=j_ (EP f l0) λc=>bif c then j_ (EP l0 f) λd=>Q d else Q false
def QdQ:O_ Bool:=Q n
def Vn:O_ Bool:=j_ (QdP f l0) (λc=>QdQ c)
def Qm7 {a c}:CT 227 [.M 2 QI a,.M 2 QI c] [] (Vn a c) V.b no_:=
 W 13 func227 Z<|mV_ 6 [] [] (λd=>([(4,.b d)],[])) Z (A 3 FQ Z λe=>I 1 Z (A 2 FQ Z λf=>M 3 Z)<|M 6 Z) λd=>E 2 Z
def ME:O_ (Int⊕(Unit⊕Unit)):=bif (m<(e.length:Int))then j_ (idx e m) λf=>j_ (idx j0 m) λb=>j_ (Vn f b) λc=>bif (!c)then Q (i_ (y_ ()))else Q (y_ (Qe (m+1)))else Q (i_ (i_ ()))
def GR:O_ Bool:=bif ((e.length:Int) != (j0.length:Int))then Q false else j_ (Qh (λst=>ME e j0 st) 0) (Sum.elim (λq=>Q false) (λq=>Q true))
def QdR {j k}:CT 156 [.M 1 Qk j,.M 1 Qk k] [] (GR j k) V.b no_:=
 W 29 func156 Z<|N 9 Z<|N 1 Z<|I 3 Z (E 7 Z)<|F 9 [0,1] [] (λst=>([(5,.I st)],[])) [] [] (λq=>(.ret,([(4,.b false)],[]))) [] [] (λq=>(.exit 0,([],[]))) Z (λm=>N 5 Z<|I 3 Z (B λl g=>B λh e=>B λi f=>D 5 Z [.N,.N,.B (.row (Qk l)),.N,.N,.N,.B (.row (Qk h)),.N,.B (.C2 (.b i)),.N] [] [] [0,1,5,6] [] Z Z (a3_ (XY g) (XY e) (Qm7 _ f)) Z<|I 7 Z (L 8 Z)<|R 8 Z)<|X 2 Z) (λ_=>E 2 Z) (λ_=>E 8 Z)
def IE (a:Int):O_ (Int⊕(Unit⊕Unit)):=bif (a<(d1.length:Int))then j_ (idx d1 a) λd=>j_ (GR d d3) λe=>bif e then Q (i_ (y_ ()))else Q (y_ (Qe (a+1)))else Q (i_ (i_ ()))
def Cq:O_ Bool:=j_ (Qh (λst=>IE d1 d3 st) 0) (Sum.elim (λq=>Q true) (λq=>Q false))
def Qlj {a c}:CT 274 [.M 1 QE a,.M 1 Qk c] [] (Cq a c) V.b no_:=
 W 20 func274 Z<|F 12 [0,1] [] (λst=>([(5,.I st)],[])) [] [] (λq=>(.ret,([(4,.b true)],[]))) [] [] (λq=>(.exit 0,([],[]))) Z (λd=>N 5 Z<|I 3 Z (J 8 Z λe=>A 2 QdR Z λf=>I 8 Z (L 8 Z)<|R 8 Z)<|X 2 Z) (λ_=>E 2 Z) (λ_=>E 8 Z)
def ER:O_ ((Int×(L_ QMk))⊕((L_ QMk)⊕(L_ QMk))):=Q (y_ ((Qe (a+1)),d1))
def IF (f:(L_ Qc))(b:Int)(O:Int)(k:Qd)(d:Int)(c:Int)(a:(L_ QMk)):O_ ((Int×(L_ QMk))⊕((L_ QMk)⊕(L_ QMk))):=
 bif (c<(f.length:Int))then
 j_ (idx f c) λg=>
 bif (g.Task==b)then
 ER c a
 else
 j_ (idx a O) λh=>
 j_ (idx f c) λi=>
 j_ (Vl k h i) λe=>
 j_ (Cq a e.1) λj=>
 bif ((e.2 != 0)||j)then
 ER c a
 else
 bif ((min2 (max2 d 0) 4096)<=(a.length:Int))then
 Q (i_ (y_ a))
 else
 j_ (chk (a.length+([e.1]:L_ QMk).length<=4294967296)) λ_=>
 ER c (a++([e.1]:L_ QMk))
 else
 Q (i_ (i_ a))
def Sx:O_ ((Int×(L_ QMk))⊕((L_ QMk)⊕(L_ QMk))):=Q (i_ (y_ d1))
def Sy:O_ ((Int×(L_ QMk))⊕((L_ QMk)⊕(L_ QMk))):=Q (y_ ((Qe (a+1)),d1))
def IG:O_ ((Int×(L_ QMk))⊕((L_ QMk)⊕(L_ QMk))):=bif (o<(d1.length:Int))then j_ (idx d1 o) λd=>j_ (PS c d 9223372036854775807) λe=>j_ (Qh (λst=>IF e b o c i st.1 st.2) (0,d1)) (Sum.elim (λq=>Sx q) (λq=>Sy o q))else Q (i_ (i_ d1))
def RA:O_ ((L_ QMk)×Bool):=bif ((min2 (max2 i0 0) 4096)==0)then Q (([]:L_ QMk),false)else j_ (Qh (λst=>IG c o i0 st.1 st.2) (0,([e]:L_ QMk))) (Sum.elim (λq=>Q (q,false)) (λq=>Q (q,true)))
def Qlm {u v e f}:CT 222 [.G Qf u,.M 1 Qk v,.I e,.I f] [] (RA u v e f) (λr=>(.tup [.M 1 QE r.1,.b r.2])) no_:=
 W 81 func222 Z<|I 22 Z (gT_ [8,.denil 8 [Q 1]] Z<|E 0 Z)<|G [6,.O 24 (.arr 1 (([v]:L_ QMk).map QE)),10] Z Z<|F 0 [2,4,10] [4] (λst=>([(11,.P 24 st.2),(12,.I st.1)],[(24,.R 1 QE st.2)])) [] [] (λq=>(.ret,([(8,.P 24 q),(9,.b false)],[(24,.R 1 QE q)]))) [] [] (λq=>(.exit 0,([(11,.P 24 q)],[(24,.R 1 QE q)]))) Z (λ⟨at_11,C⟩=>I 9 Z (B λw i=>B λm p=>D 5 Z [.E (.G Qf u),.N,.N,.N,.B (.row (QE w)),.B (.co false [.d,.d,.d] 4 (m.map Qo) m.length),.N] [] [] [2,4,10,11,12,13] [4,24,36] Z Z (a4_ Z (Ym i Z) (XN (Yo i).2) ⟨(Qe9 _ p),Qq,.inl Z⟩) Z<|F 7 [2,4,10,12,13] [4,36] (λst=>([(11,.P 24 st.2),(14,.I st.1)],[(24,.R 1 QE st.2)])) [] [] (λq=>(.ret,([(8,.P 24 q),(9,.b false)],[(24,.R 1 QE q)]))) [2,4,10,12] [4] (λq=>(.exit 2,([(11,.P 24 q)],[(24,.R 1 QE q)]))) Z (λ⟨x,a0⟩=>I 9 Z (mE_ 2 [2,4,10,12,13,14] [4,36] (λg:(L_ QMk)=>([(11,.P 24 g)],[(24,.R 1 QE g)])) (λg=>ER x g) Z (vA_ 8 Qo Z λa1=>I 4 Z (P 3 Z Z)<|B λy j=>B λs k=>B λl t=>D 3 Z [.E (.G Qf u),.N,.N,.N,.B (.row (QE y)),.N,.N,.N,.a (.row (Qo s)) (Q ([],.G Qo s)) false,.B (.C3 (.tup [.M 1 Qk l.1,.I l.2])),.N,.N,.N,.N,.N] [] [] [2,4,10,11,12,13,14,15,16] [4,24,36] Z Z (a7_ Z (Ym j Z) (XN (Yo j).2) (Ym k Z) (XN (Yo k).2) Z (QgN _ t)) Z<|cV_ 5 [.o _,.d] Qlj Z λz=>T 5 [2,4,10,11,12,13,14,15] [4,24,36] ([(70,.b ((l.2 != 0)||z))],[]) Z (H 4 Z (λh=>Y 3 70 Z (KO h Z)) λh=>Y 3 70 Z (Yv h Z))<|I 1 Z (P 3 Z Z)<|I 11 Z (L 11 Z)<|pA_ 5 1 QE Z<|P 3 Z Z) λg=>R 5 Z)<|X 2 Z) (λa2=>L 3 Z) (λa3=>R 8 Z))<|X 2 Z) (λa4=>zF_ 2 24 [8] [] Z<|E 0 Z) (λa5=>zF_ 10 24 [8] [] Z<|E 0 Z)
def IH:O_ ((Int×LI_)⊕LI_):=Q (y_ ((Qe (a+1)),d))
def QcA:O_ Bool:=bif n then Q true else j_ (idx c.Tasks b) λa=>j_ (idx a.Ins i) λd=>Q (d.Place==o)
def QcB:O_ ((Bool×Int)⊕Bool):=Q (y_ (n,(Qe (a+1))))
def SA:O_ ((Bool×Int)⊕Bool):=j_ (idx c.Tasks b) λa=>bif (k<(a.Ins.length:Int))then j_ (QcA p c b k i) (λO=>QcB k O)else Q (i_ p)
def QcC:O_ Bool:=bif n then j_ (idx e o) λa=>Q ((a.length:Int)==0)else Q false
def QcD:O_ ((Int×LI_)⊕LI_):=bif p then j_ (chk (d.length+([b]:L_ Int).length<=4294967296)) λ_=>IH b (d++([b]:L_ Int))else IH b d
def SB:O_ ((Int×LI_)⊕LI_):=j_ (QcC p e o) (λa=>QcD j o a)
def Bu:O_ ((Int×LI_)⊕LI_):=bif ((k<(e.length:Int))&&((0<=o)&&(o<(f0.Tasks.length:Int))))then j_ (Qh (λst=>SA f0 o k st.1 st.2) (false,0)) (λq=>SB e k e0 q)else Q (i_ e0)
def Bv:O_ LI_:=Q d
def Lk:O_ LI_:=j_ (Qh (λst=>Bu e o c st.1 st.2) (0,([]:L_ Int))) (λq=>Bv q)
def Qln {g h a}:CT 223 [.G Qf g,.M 1 Qk h,.I a] [] (Lk g h a) (λr=>(.P 600 r)) (λr=>[(600,.R 1 Qb r)]):=
 W 68 func223 Z<|aD_ 18 7 63 1 Z<|lA_ 0 [1,2,3] [3] (λst=>([(7,.P 63 st.2),(8,.I st.1)],[(63,.R 1 Qb st.2)])) [] [] (λq=>(.exit 0,([(7,.P 63 q)],[(63,.R 1 Qb q)]))) Z (λ⟨i,s⟩=>T 2 [1,2,3,7,8] [3,63] ([(25,.b ((i<(h.length:Int))&&((0<=a)&&(a<(g.Tasks.length:Int)))))],[]) Z (N 3 Z<|H 2 Z (λc=>H 4 Z (λd=>N 3 Z<|Y 3 25 Z (XB c (XB d Z))) λd=>Y 7 25 Z (XB c (Yh d Z))) λc=>Y 11 25 Z (Yh c Z))<|I 1 Z (mE_ 2 [1,2,3,8] [3] (λe:LI_=>([(7,.P 63 e)],[(63,.R 1 Qb e)])) (λe=>IH i e) Z (lA_ 13 [1,2,3,7,8] [3,63] (λst=>([(9,.b st.1),(10,.I st.2)],[])) [1,2,3,7,8] [3,63] (λq=>(.exit 2,([(9,.b q)],[]))) Z (λ⟨in_16,j⟩=>J 7 Z λk=>N 2 Z<|I 3 Z (mV_ 4 [1,2,3,7,8,10] [3,63] (λO=>([(9,.b O)],[])) Z (I 3 Z (M 15 Z)<|J 3 Z λl=>J 3 Z λm=>M 7 Z) λO=>R 7 Z)<|X 2 Z) λin_20=>mV_ 3 [1,2,3,7,8] [3,63] (λf=>([(62,.b f)],[])) Z (I 3 Z (J 2 Z λo=>N 1 Z<|M 3 Z)<|M 8 Z) λf=>I 1 Z (pA_ 3 1 Qb Z<|P 3 Z Z)<|P 2 Z Z) λe=>R 5 Z)<|X 2 Z) λp=>gT_ [9,.ren 63 600] Z<|E 0 Z
def II (c:((L_ QMk)×Bool))(b:Int)(a:Int):O_ (Int⊕(Unit⊕Unit)):=bif (a<(d.length:Int))then j_ (idx c.1 b) λe=>j_ (idx d a) λf=>j_ (idx e f) λg=>bif (0<(g.length:Int))then Q (i_ (y_ ()))else Q (y_ (Qe (a+1)))else Q (i_ (i_ ()))
def IJ (b:((L_ QMk)×Bool))(c:LI_)(a:Int):O_ (Int⊕(Unit⊕Unit)):=bif (a<(b.1.length:Int))then j_ (Qh (λst=>II c b a st) 0) (Sum.elim (λq=>Q (i_ (y_ ()))) (λq=>Q (y_ (Qe (a+1)))))else Q (i_ (i_ ()))
def QcE : O_ Int:=Q 0
def SC (a:((L_ QMk)×Bool)):O_ Int:=bif a.2 then Q 1 else Q 2
def RB:O_ Int:=j_ (Co c e r) λg=>bif (g != 0)then Q 0 else j_ (idx c.Tasks r.Task) λh=>bif (h.Join != 3)then Q 1 else j_ (RA c e r.Task l1) λb=>j_ (Lk c e r.Task) λf=>j_ (Qh (λst=>IJ b f st) 0) (Sum.elim (λq=>QcE) (λq=>SC b))
def Qlq {j k l b}:CT 153 [.G Qf j,.M 1 Qk k,.G Qo l,.I b] [] (RB j k l b) V.I no_:=
 W 66 func153 Z<|A 13 Sw Z λr=>I 3 Z (E 7 Z)<|J 9 Z λs=>I 5 Z (E 7 Z)<|A 9 Qlm Z λm=>oC_ 13 [.d,.d,.d] Qln Z λn=>F 10 [9,10,11] [40] (λst=>([(12,.I st)],[])) [] [] (λq=>(.ret,([(8,.I 0)],[]))) [10] [] (λq=>(.exit 0,([],[]))) Z (λo=>N 5 Z<|I 3 Z (F 10 [9,10,11,12] [40] (λst=>([(13,.I st)],[])) [] [] (λq=>(.ret,([(8,.I 0)],[]))) [9,10,11,12] [40] (λq=>(.exit 2,([],[]))) Z (λp=>I 9 Z (B λh e=>B λi c=>B λf g=>D 5 Z [.N,.N,.B (.row (QE h)),.N,.N,.N,.N,.B (.row (Qb i)),.B (.row (Qk f)),.N,.B (.ln f.length),.N] [] [] [9,10,11,12,13,64] [40] Z Z (a5_ (XY e) (Ym c Z) (XN (Yo c).2) (XY g) Qq) Z<|I 1 Z (L 8 Z)<|R 8 Z)<|X 2 Z) (λ_=>L 3 Z) (λ_=>R 8 Z))<|X 2 Z) (λ_=>E 2 Z) (λ_=>I 8 Z (E 7 Z)<|E 8 Z)
def MF (c:(L_ Qc)):O_ ((Bool×Int×(L_ Qc))⊕(Bool×(L_ Qc))):=Q (y_ (n,(Qe (a+1)),c))
def UU (c:(L_ Qc)):O_ ((Bool×Int×(L_ Qc))⊕(Bool×(L_ Qc))):=bif (a==2)then MF g false c else MF g n c
def UV (g:(L_ Qc))(i:Qd)(j:QMk)(b:Int)(a:Bool)(c:Int)(d:(L_ Qc)):O_ ((Bool×Int×(L_ Qc))⊕(Bool×(L_ Qc))):=bif (c<(g.length:Int))then j_ (idx g c) λh=>j_ (RB i j h b) λe=>bif (e==1)then j_ (idx g c) λf=>j_ (chk (d.length+([f]:L_ Qc).length<=4294967296)) λ_=>UU e c a (d++([f]:L_ Qc))else UU e c a d else Q (i_ (a,d))
def Vo:O_ ((L_ Qc)×Bool):=j_ (PS c e i0) λa=>j_ (Qh (λst=>UV a c e o st.1 st.2.1 st.2.2) (true,0,([]:L_ Qc))) (λq=>Q (q.2,q.1))
def Qnb {s t f g}:CT 99 [.G Qf s,.M 1 Qk t,.I f,.I g] [] (Vo s t f g) (λr=>(.tup [.M 4 Qo r.1,.b r.2])) no_:=
 W 46 func99 Z<|oC_ 12 [.d,.d,.d] Qe9 Z λx=>aD_ 20 11 35 4 Z<|lA_ 0 [1,2,4,10] [4,18] (λst=>([(11,.P 35 st.2.2),(12,.b st.1),(13,.I st.2.1)],[(35,.R 4 Qo st.2.2)])) [] [] (λq=>(.exit 0,([(11,.P 35 q.2),(12,.b q.1)],[(35,.R 4 Qo q.2)]))) Z (λ⟨h,l,u⟩=>I 9 Z (mF_ 2 [1,2,4,10,13] [4,18] (λ(e:Bool) (i:(L_ Qc))=>([(11,.P 35 i),(12,.b e)],[(35,.R 4 Qo i)])) (λe i=>MF l e i) Z (B λm k=>B λn o=>D 2 Z [.E (.G Qf s),.N,.N,.N,.N,.a (.row (Qo m)) (Q ([],.G Qo m)) false,.N,.B (.C4 (.I n)),.N] [] [] [1,2,4,10,11,12,13,14] [4,18,35] Z Z (a5_ Z (Ym k Z) (XN (Yo k).2) Z (Qlq _ o)) Z<|mE_ 1 [1,2,4,10,12,13,14] [4,18] (λj:(L_ Qc)=>([(11,.P 35 j)],[(35,.R 4 Qo j)])) (λj=>UU n l h j) Z (I 6 Z (vA_ 5 Qo Z λv=>pA_ 0 4 Qo Z<|P 2 Z Z)<|P 1 Z Z) λj=>I 6 Z (fA_ 4 Z Z)<|fA_ 2 Z Z) λe i=>R 5 Z)<|X 2 Z) λ⟨p,w⟩=>zF_ 11 35 [8] [] Z<|E 0 Z
def CS (a:Int):O_ (Int⊕(Int⊕Unit)):=bif (a<(d1.length:Int))then j_ (idx d1 a) λb=>j_ (GR b d3) λc=>bif c then Q (i_ (y_ a))else Q (y_ (Qe (a+1)))else Q (i_ (i_ ()))
def CU (c:(L_ QC))(d:Bool)(b:QMk):O_ Int:=j_ (Qh (λst=>CS d1 b st) 0) (Sum.elim (λq=>Q q) (λq=>Q (-1)))
def Qh7 {a c d e}:CT 101 [.agg [.P 621 a,.P 622 c,.b d],.M 1 Qk e] [(621,.R 1 QE a),(622,.R 6 XM c)] (CU a c d e) V.I (λ_=>[(621,.R 1 QE a),(622,.R 6 XM c)]):=
 W 23 func101 Z<|F 13 [1,2] [2,621,622] (λst=>([(5,.I st)],[])) [] [621,622] (λq=>(.ret,([(4,.I q)],[]))) [] [621,622] (λq=>(.exit 0,([],[]))) Z (λh=>I 10 Z (vA_ 10 QE Z λf=>A 1 QdR Z λg=>I 8 Z (L 9 Z)<|R 8 Z)<|X 2 Z) (λi=>E 2 Z) (λ_=>E 8 Z)
def CV:O_ ((Int×Bool×(L_ QMk)×(L_ QC))⊕(Bool×(L_ QMk)×(L_ QC))):=Q (y_ ((Qe (a+1)),n,d1,l3))
def GS:O_ ((Int×Bool×(L_ QMk)×(L_ QC))⊕(Bool×(L_ QMk)×(L_ QC))):=Q (y_ ((Qe (a+1)),n,d1,l3))
def CW (e:((L_ Qc)×Bool))(a:Int)(b:(L_ QC))(h:Int)(f:Bool)(c:Int)(g:(L_ QMk)):O_ ((Int×Bool×(L_ QMk)×(L_ QC))⊕(Bool×(L_ QMk)×(L_ QC))):=j_ (idx e.1 a) λd=>j_ (chk (b.length+([(QC.mk h c d)]:L_ QC).length<=4294967296)) λ_=>GS a f g (b++[(QC.mk h c d)])
def CX (e:((L_ Qc)×Bool))(O:Int)(k:Qd)(d:Int)(b:Int)(f:Bool)(a:(L_ QMk))(c:(L_ QC)):O_ ((Int×Bool×(L_ QMk)×(L_ QC))⊕(Bool×(L_ QMk)×(L_ QC))):=bif (b<(e.1.length:Int))then j_ (idx a O) λi=>j_ (idx e.1 b) λj=>j_ (Vl k i j) λg=>bif (g.2 != 0)then GS b false a c else j_ (CU a c f g.1) λh=>bif (h<0)then bif ((min2 (max2 d 0) 4096)<=(a.length:Int))then GS b false a c else j_ (chk (a.length+([g.1]:L_ QMk).length<=4294967296)) λ_=>CW e b c O f (a.length:Int) (a++([g.1]:L_ QMk))else CW e b c O f h a else Q (i_ (f,a,c))
def Vp:O_ ((Int×Bool×(L_ QMk)×(L_ QC))⊕(Bool×(L_ QMk)×(L_ QC))):=CV a n d1 l3
def GT (b:((L_ Qc)×Bool))(h:Int)(f:Qd)(a:Int)(c:(L_ QMk))(d:(L_ QC))(e:Bool):O_ ((Int×Bool×(L_ QMk)×(L_ QC))⊕(Bool×(L_ QMk)×(L_ QC))):=j_ (Qh (λst=>CX b h f a st.1 st.2.1 st.2.2.1 st.2.2.2) (0,e,c,d)) (λq=>Vp h q.1 q.2.1 q.2.2)
def MG:O_ ((Int×Bool×(L_ QMk)×(L_ QC))⊕(Bool×(L_ QMk)×(L_ QC))):=bif (i<(d1.length:Int))then j_ (idx d1 i) λh=>j_ (Rv h) λd=>bif (a<d)then CV i false d1 l3 else j_ (idx d1 i) λj=>j_ (Vo c j b 9223372036854775807) λe=>bif (!e.2)then GT e i c b d1 l3 false else GT e i c b d1 l3 p else Q (i_ (p,d1,l3))
def Vq:O_ Qu:=bif ((min2 (max2 o 0) 4096)==0)then Q (Qu.mk ([]:(L_ QMk)) ([]:(L_ QC)) false)else j_ (Qh (λst=>MG i0 c o st.1 st.2.1 st.2.2.1 st.2.2.2) (0,true,([e]:L_ QMk),([]:L_ QC))) (λq=>Q (Qu.mk q.2.1 q.2.2 q.1))
def Qnd {C m2 e f}:CT 58 [.G Qf C,.M 1 Qk m2,.I e,.I f] [] (Vq C m2 e f) (λr=>(.G Xc r)) no_:=
 W 113 func58 Z<|I 21 Z (G [2,.v .no [Q 1,Q 6,none] (.agg (Xc (Qu.mk ([]:(L_ QMk)) ([]:(L_ QC)) false))),5] Z Z<|E 0 Z)<|g2_ [6,.O 25 (.arr 1 (([m2]:L_ QMk).map QE)),12,.adoptO 10 1 610 6,.O 10 (.var [.own 25 ([m2]:L_ QMk).length,.own 610 ([]:L_ QC).length,.b true])] Z Z (congrArg (λn=>Ob.var [.own 25 ([m2]:L_ QMk).length,.own 610 n,.b true]) (by simp))<|lA_ 0 [2,3,4,8,9,10] [4,8] (λst=>([(11,.I st.1)],[(10,.var [.P 25 st.2.2.1,.P 610 st.2.2.2,.b st.2.1]),(25,.R 1 QE st.2.2.1),(610,.R 6 XM st.2.2.2)])) [8,10] [8] (λq=>(.exit 0,([],[(10,.var [.P 25 q.2.1,.P 610 q.2.2,.b q.1]),(25,.R 1 QE q.2.1),(610,.R 6 XM q.2.2)]))) Z (λ⟨at_9,b5,a0,a1⟩=>I 10 Z (QvY 2 [2,3,4,8,9,10,11] [4,8] (λ(p:Bool) (i:(L_ QMk)) (j:(L_ QC))=>([],[(10,.var [.P 25 i,.P 610 j,.b p]),(25,.R 1 QE i),(610,.R 6 XM j)])) (λp i j=>CV at_9 p i j) Z (vA_ 8 QE Z λb6=>A 0 QkU Z λb7=>I 4 Z (QhB 9 Z Z)<|B λb1 y=>B λt a2=>D 3 Z [.E (.G Qf C),.N,.N,.N,.N,.B (.row (QE b1)),.N,.B (.C4 (.tup [.M 4 Qo t.1,.b t.2])),.N,.N,.N,.N,.N] [] [] [2,3,4,8,9,10,11,12,13] [4,8,10,25,610] Z Z (a4_ Z (Ym y Z) (XN (Yo y).2) (Qnb _ a2)) Z<|mE_ 1 [2,3,4,8,9,10,11,12] [4,8,25,610] (λu:Bool=>([],[(10,.var [.P 25 a0,.P 610 a1,.b u])])) (λu=>GT t at_9 C e a0 a1 u) Z (I 6 Z (P 4 Z Z)<|P 1 Z Z) λu=>lA_ 6 [2,3,4,8,9,10,11,12] [4,8] (λst=>([(14,.I st.1)],[(10,.var [.P 25 st.2.2.1,.P 610 st.2.2.2,.b st.2.1]),(25,.R 1 QE st.2.2.1),(610,.R 6 XM st.2.2.2)])) [2,3,4,8,9,10,11] [4,8] (λq=>(.exit 2,([],[(10,.var [.P 25 q.2.1,.P 610 q.2.2,.b q.1]),(25,.R 1 QE q.2.1),(610,.R 6 XM q.2.2)]))) Z (λ⟨a3,a4,b8,w⟩=>N 5 Z<|I 3 Z (QvY 2 [2,3,4,8,9,10,11,12,14] [4,8] (λ(x:Bool) (k:(L_ QMk)) (l:(L_ QC))=>([],[(10,.var [.P 25 k,.P 610 l,.b x]),(25,.R 1 QE k),(610,.R 6 XM l)])) (λx k l=>GS a3 x k l) Z (B λb2 z=>B λa5 a6=>B λa7 a8=>D 2 Z [.E (.G Qf C),.N,.N,.N,.N,.B (.row (QE b2)),.N,.N,.B (.row (Qo a5)),.E (.G Qo a5),.B (.C3 (.tup [.M 1 Qk a7.1,.I a7.2])),.N,.N,.N,.N,.N] [] [] [2,3,4,8,9,10,11,12,14,15,16] [4,8,10,25,610] Z Z (a6_ Z (Ym z Z) (XN (Yo z).2) (XY a6) Z (QgN _ a8)) Z<|I 8 Z (QhB 9 Z Z)<|S 6 .fn [(621,25),(622,610)] Qh7 Z λb9=>mF_ 3 [2,3,4,8,9,10,11,12,14] [4,8,610] (λ(g:Int) (o:(L_ QMk))=>([(17,.I g)],[(10,.var [.P 25 o,.P 610 w,.b a4]),(25,.R 1 QE o)])) (λg o=>CW t a3 w at_9 a4 g o) Z (I 6 Z (I 10 Z (QhB 10 Z Z)<|pA_ 14 1 QE Z<|fA_ 3 Z Z)<|fA_ 1 Z Z) λg o=>B λh a9=>kA_ λb0=>D 0 Z [.N,.N,.N,.N,.N,.N,.B (.row (Qo h)),.E (.G Qo h),.E (.agg (XM (QC.mk at_9 g h))),.a (.bd []) (Q ([],.sl 6 (([(QC.mk at_9 g h)]:L_ QC).map XM))) false,.m (.app ((w++[(QC.mk at_9 g h)]).map XM) (w++[(QC.mk at_9 g h)]).length),.N,.m .s] [] [] [2,3,4,8,9,10,11,12,14] [4,8,10,25,610] Z Z (a5_ (XY a9) Z Z Z ⟨Qq,Af b0 Qq,Kz,UJ Qq⟩) Z<|QhB 1 Z Z) λx k l=>R 5 Z)<|X 2 Z) λ⟨c0,c1,c2⟩=>QhB 2 Z Z) λp i j=>R 5 Z)<|X 2 Z) λ⟨c3,b3,b4⟩=>g2_ [9,.frz 25 (b3.map QE) [] [8],.frz 610 (b4.map XM) [] [8]] Z (a1_ ⟨(Kj Qq),(a1_ U)⟩) (a1_ ⟨(Kj Qq),U⟩)<|E 0 Z
def MH:O_ Qu:=j_ (Ru c) λd=>j_ (Vq c d b i) λe=>Q e
def Qh8 {h b e}:CT 29 [.G Qf h,.I b,.I e] [] (MH h b e) (λr=>(.G Xc r)) no_:=
 W 13 func29 Z<|B λi f=>B λj g=>D 7 Z [.N,.N,.B (.cd false [.d] 1 (i.map Qk) i.length),.N,.N,.B (.C4 (.G Xc j)),.m .s] [] [] [6] [6] Z Z (a2_ ⟨(QkS _ f),Qq⟩ (Qnd _ g)) Z<|E 2 Z
def QcF:O_ Bool:=bif (0<=c.To)then bif (c.To<(e.length:Int))then j_ (idx e c.To) λa=>j_ (Ej a) λd=>Q (decide (1<=d))else Q false else Q false
def QcG:O_ Bool:=Q n
def RC:O_ Bool:=j_ (QcF c e) (λa=>QcG a)
def Qlr {a c}:CT 91 [.G Qf a,.M 1 Qk c] [] (RC a c) V.b no_:=
 W 24 func91 Z<|mV_ 7 [] [] (λd=>([(4,.b d)],[])) Z (I 5 Z (N 3 Z<|I 3 Z (J 3 Z λe=>A 1 Ss Z λf=>M 4 Z)<|M 10 Z)<|M 17 Z) λd=>E 2 Z
def IK:O_ (Int⊕(Unit⊕Unit)):=
 bif (k<(e.length:Int))then
 j_ (idx e k) λd=>
 j_ (Ej d) λa=>
 bif (bif (k==f0.To)then((a != 1)||((k != f0.To)&&(a != 0)))else((k != f0.To)&&(a != 0)))then
 Q (i_ (y_ ()))
 else
 Q (y_ (Qe (k+1)))
 else
 Q (i_ (i_ ()))
def Ll:O_ Bool:=
 bif (((e.length:Int) != (c.Places.length:Int))||((c.To<0)||((e.length:Int)<=c.To)))then
 Q false
 else
 j_ (Qh (λst=>IK e c st) 0) (Sum.elim (λq=>Q false) (λq=>Q true))
def QcH {g j}:CT 92 [.G Qf g,.M 1 Qk j] [] (Ll g j) V.b no_:=
 W 54 func92 Z<|T 8 [1,2] [2] ([(24,.b (((j.length:Int) != (g.Places.length:Int))||((g.To<0)||((j.length:Int)<=g.To))))],[]) Z (N 2 Z<|N 2 Z<|H 2 Z (λf=>Y 12 24 Z (KO f Z)) λf=>H 5 Z (λh=>Y 7 24 Z (Yv f (KO h Z))) λh=>N 3 Z<|Y 3 24 Z (Yv f (Yv h Z)))<|I 1 Z (E 7 Z)<|F 9 [1,2] [2] (λst=>([(5,.I st)],[])) [] [] (λq=>(.ret,([(4,.b false)],[]))) [] [] (λq=>(.exit 0,([],[]))) Z (λk=>N 5 Z<|I 3 Z (J 8 Z λl=>A 1 Ss Z λi=>T 4 [1,2,5] [2] ([(53,.b (bif (k==g.To)then((i != 1)||((k != g.To)&&(i != 0)))else((k != g.To)&&(i != 0))))],[]) Z (H 6 Z (λa=>H 4 Z (λc=>Y 10 53 Z (LC a (KO c Z))) λc=>H 5 Z (λd=>Y 5 53 Z (LC a (Yv c (XB d Z)))) λd=>Y 5 53 Z (LC a (Yv c (Yh d Z)))) λa=>H 9 Z (λe=>Y 5 53 Z (Qar a (XB e Z))) λe=>Y 5 53 Z (Qar a (Yh e Z)))<|I 1 Z (L 8 Z)<|R 8 Z)<|X 2 Z) (λ_=>E 2 Z) (λ_=>E 8 Z)
def Ee:O_ (Int⊕(Int⊕Unit)):=bif (k<(h.States.length:Int))then j_ (idx h.States k) λg=>j_ (RC f0 g) λc=>j_ (idx h.States k) λd=>j_ (Ll f0 d) λe=>bif (c&&(!e))then Q (i_ (y_ k))else Q (y_ (Qe (k+1)))else Q (i_ (i_ ()))
def OD:O_ Int:=j_ (Qh (λst=>Ee h c st) 0) (Sum.elim (λq=>Q q) (λq=>Q (-1)))
def QjK {m n}:CT 54 [.G Qf m,.G Xc n] [] (OD m n) V.I no_:=
 W 35 func54 Z<|F 14 [2,3] [2,3] (λst=>([(5,.I st)],[])) [] [] (λq=>(.ret,([(4,.I q)],[]))) [] [] (λq=>(.exit 0,([],[]))) Z (λp=>N 6 Z<|I 3 Z (B λo k=>B λf g=>D 5 Z [.N,.N,.N,.N,.B (.row (QE o)),.N,.B (.C2 (.b f)),.N] [] [] [2,3,5,6] [2,3] Z Z (a2_ (XY k) (Qlr _ g)) Z<|B λl h=>B λi j=>D 2 Z [.N,.N,.N,.N,.B (.row (QE l)),.N,.B (.C2 (.b i)),.N] [] [] [2,3,5,6,7] [2,3] Z Z (a2_ (XY h) (QcH _ j)) Z<|T 2 [2,3,5] [2,3] ([(33,.b (f&&(!i)))],[]) Z (H 3 Z (λe=>Y 4 33 Z (XB e Z)) λe=>Y 4 33 Z (Yh e Z))<|I 1 Z (L 9 Z)<|R 8 Z)<|X 2 Z) (λr=>E 2 Z) (λ_=>E 8 Z)
def Hu:O_ ((Int×LI_)⊕LI_):=bif (a<(d.length:Int))then j_ (idx d a) λc=>Q (y_ ((Qe (a+1)),(d.set a.toNat (-1))))else Q (i_ d)
def OE:O_ ((Int×LI_)⊕LI_):=Q (y_ ((Qe (a+1)),d))
def Zh:O_ Bool:=bif (g0.From<0)then Q true else bif ((e0.length:Int)<=g0.From)then Q true else bif (g0.To<0)then Q true else bif ((e0.length:Int)<=g0.To)then Q true else j_ (idx e0 g0.To) λd=>bif (d != g2)then Q true else j_ (idx e0 g0.From) λe=>Q (decide (0<=e))
def Qfa (e:Bool):O_ ((Int×LI_)⊕LI_):=bif e then OE a d else j_ (idx d g0.From) λf=>OE a (d.set g0.From.toNat (Qe (h0+1)))
def OF:O_ ((Int×LI_)⊕LI_):=bif (i<(h.Edges.length:Int))then j_ (idx h.Edges i) λd=>j_ (Zh d j b) (λe=>Qfa i j d b e)else Q (i_ j)
def Qfb:O_ ((Int×LI_)⊕LI_):=Q (y_ ((Qe (a+1)),d))
def OG:O_ ((Int×LI_)⊕LI_):=bif (b<(j.length:Int))then j_ (Qh (λst=>OF h b st.1 st.2) (0,j)) (λq=>Qfb b q)else Q (i_ j)
def Qfc:O_ LI_:=
 bif ((a<0)||((j.length:Int)<=a))then
 Q j
 else
 j_ (idx j a) λd=>
 j_ (Qh (λst=>OG h st.1 st.2) (0,(j.set a.toNat 0))) (λq=>Q q)
def ZN:O_ LI_:=j_ (chk (decide (0<=(h.States.length:Int))&&decide ((h.States.length:Int)<=(h.States.length:Int))&&decide ((h.States.length:Int)<=4294967296))) λ_=>j_ (Qh (λst=>Hu st.1 st.2) (0,(List.replicate (h.States.length:Int).toNat (0:Int)))) (λq=>Qfc b h q)
def QoS {m i}:CT 93 [.G Xc m,.I i] [] (ZN m i) (λr=>(.P 600 r)) (λr=>[(600,.R 1 Qb r)]):=
 W 99 func93 Z<|N 10 Z<|kA_ λp=>g2_ [.o (.rows ((List.replicate (m.States.length:Int).toNat (0:Int)).map Qb)),.S 13 (.own 13 (List.replicate (m.States.length:Int).toNat (0:Int)).length),10] Z ⟨p,QeM Z⟩ (by simp)<|lA_ 0 [1,2] [2] (λst=>([(5,.P 13 st.2),(6,.I st.1)],[(13,.R 1 Qb st.2)])) [1,2] [2] (λq=>(.exit 0,([(5,.P 13 q)],[(13,.R 1 Qb q)]))) Z (λ⟨w,x⟩=>I 9 Z (B λs e=>g3_ [8,.st (Qb s) ((x.set w.toNat (-1)).map Qb),8,.S 5 (.own 13 (x.set w.toNat (-1)).length)] Z (Ym e Z) ⟨(XN (Yo e).2),WG Z⟩ (congrArg (λn=>V.own 13 n) (by simp))<|R 0 Z)<|X 2 Z) λh=>T 4 [1,2,5] [2,13] ([(30,.b ((i<0)||((h.length:Int)<=i)))],[]) Z (H 4 Z (λc=>Y 6 30 Z (KO c Z)) λc=>Y 6 30 Z (Yv c Z))<|I 1 Z (gT_ [8,.ren 13 600] Z<|E 0 Z)<|B λt f=>g3_ [7,.st (Qb t) ((h.set i.toNat 0).map Qb),9,.S 5 (.own 13 (h.set i.toNat 0).length)] Z (Ym f Z) ⟨(XN (Yo f).2),WG Z⟩ (congrArg (λn=>V.own 13 n) (by simp))<|lA_ 0 [2] [2] (λst=>([(5,.P 13 st.2),(7,.I st.1)],[(13,.R 1 Qb st.2)])) [] [] (λq=>(.exit 2,([(5,.P 13 q)],[(13,.R 1 Qb q)]))) Z (λ⟨a,y⟩=>I 9 Z (lA_ 10 [2,7] [2] (λst=>([(5,.P 13 st.2),(8,.I st.1)],[(13,.R 1 Qb st.2)])) [2,7] [2] (λq=>(.exit 4,([(5,.P 13 q)],[(13,.R 1 Qb q)]))) Z (λ⟨u,j⟩=>N 6 Z<|I 3 Z (mE_ 2 [2,7,8] [2] (λd:LI_=>([(5,.P 13 d)],[(13,.R 1 Qb d)])) (λd=>OE u d) Z (J 6 Z λk=>mV_ 7 [2,5,7,8,9] [2,9,13] (λl=>([(91,.b l)],[])) Z (I 5 Z (M 36 Z)<|I 7 Z (M 29 Z)<|I 5 Z (M 24 Z)<|I 7 Z (M 17 Z)<|vA_ 4 Qb Z λz=>I 4 Z (M 8 Z)<|vA_ 4 Qb Z λC=>M 3 Z) λl=>I 1 Z (P 3 Z Z)<|B λv g=>g3_ [9,.st (Qb v) ((j.set k.From.toNat (Qe (a+1))).map Qb),2,.S 5 (.own 13 (j.set k.From.toNat (Qe (a+1))).length)] Z (Ym g Z) ⟨(XN (Yo g).2),WG Z⟩ (congrArg (λn=>V.own 13 n) (by simp))<|P 0 Z Z) λd=>R 5 Z)<|X 2 Z) λO=>R 8 Z)<|X 2 Z) λa0=>gT_ [9,.ren 13 600] Z<|E 0 Z
def OH:O_ ((Int×LI_)⊕LI_):=Q (y_ ((Qe (a+1)),d))
def Zi:O_ ((Int×LI_)⊕LI_):=bif (i<(h.Edges.length:Int))then j_ (idx h.Edges i) λc=>bif (c.From==b)then j_ (chk (j.length+([i]:L_ Int).length<=4294967296)) λ_=>OH i (j++([i]:L_ Int))else OH i j else Q (i_ j)
def ZO:O_ LI_:=j_ (Qh (λst=>Zi h b st.1 st.2) (0,([]:L_ Int))) (λq=>Q q)
def QoU {b c}:CT 94 [.G Xc b,.I c] [] (ZO b c) (λr=>(.P 600 r)) (λr=>[(600,.R 1 Qb r)]):=
 W 27 func94 Z<|aD_ 18 5 22 1 Z<|lA_ 0 [1,2] [2] (λst=>([(5,.P 22 st.2),(6,.I st.1)],[(22,.R 1 Qb st.2)])) [] [] (λq=>(.exit 0,([(5,.P 22 q)],[(22,.R 1 Qb q)]))) Z (λ⟨d,f⟩=>N 6 Z<|I 3 Z (mE_ 2 [1,2,6] [2] (λa:LI_=>([(5,.P 22 a)],[(22,.R 1 Qb a)])) (λa=>OH d a) Z (J 6 Z λe=>I 6 Z (pA_ 3 1 Qb Z<|P 3 Z Z)<|P 2 Z Z) λa=>R 5 Z)<|X 2 Z) λg=>gT_ [9,.ren 22 600] Z<|E 0 Z
def QdS:O_ Bool:=bif ((d.length:Int)==0)then Q true else j_ (idx d 0) λb=>Q (decide (b<0))
def MI:O_ ((Int×Int)⊕Int):=Q (y_ (g,(Qe (a+1))))
def Vr:O_ Bool:=bif (0<=g0.To)then bif (g0.To<(e0.length:Int))then j_ (idx e0 g0.To) λc=>j_ (idx e0 g2) λd=>Q (c==(Qe (d-1)))else Q false else Q false
def QdT:O_ ((Int×Int)⊕Int):=bif p then j_ (idx d b) λa=>MI b a else MI b i
def CY:O_ ((Int×Int)⊕Int):=bif ((m0<(d.length:Int))&&(j1<0))then j_ (idx d m0) λc=>j_ (idx h.Edges c) λa=>j_ (Vr a j m) (λe=>QdT d m0 j1 e)else Q (i_ j1)
def QdU (a:(L_ Qc))(d:Int):O_ ((Int×(L_ Qc))⊕(Unit⊕(L_ Qc))):=bif (d<0)then Q (i_ (y_ ()))else j_ (idx h.Edges d) λb=>j_ (chk (a.length+([b.Mode]:L_ Qc).length<=4294967296)) λ_=>j_ (idx h.Edges d) λc=>Q (y_ (c.To,(a++([b.Mode]:L_ Qc))))
def MJ (a:(L_ Qc)):O_ ((Int×(L_ Qc))⊕(Unit⊕(L_ Qc))):=j_ (idx d b) λc=>bif (0<c)then j_ (ZO h b) λe=>j_ (Qh (λst=>CY e h d b st.1 st.2) ((-1),0)) (λq=>QdU h a q)else Q (i_ (i_ a))
def QcI:O_ (L_ Qc):=bif p then Q ([]:L_ Qc)else j_ (Qh (λst=>MJ d h st.1 st.2) (0,([]:L_ Qc))) (Sum.elim (λq=>Q ([]:L_ Qc)) (λq=>Q q))
def Bw:O_ (L_ Qc):=j_ (ZN h b) λa=>j_ (QdS a) (λd=>QcI a h d)
def QdV {w x}:CT 55 [.G Xc w,.I x] [] (Bw w x) (λr=>(.P 600 r)) (λr=>[(600,.R 4 Qo r)]):=
 W 95 func55 Z<|oC_ 10 [.d,.d] QoS Z λx5=>mV_ 5 [2,5] [2,14] (λy=>([(23,.b y)],[])) Z (I 5 Z (M 6 Z)<|vA_ 2 Qb Z λe9=>M 3 Z) λy=>I 1 Z (aD_ 7 4 600 4 Z<|E 0 Z)<|aD_ 14 6 79 4 Z<|F 0 [2,5] [2,14] (λst=>([(6,.P 79 st.2),(7,.I st.1)],[(79,.R 4 Qo st.2)])) [] [] (λq=>(.ret,([(4,.Y)],[]))) [] [] (λq=>(.exit 0,([(6,.P 79 q)],[(79,.R 4 Qo q)]))) Z (λ⟨at_12,z⟩=>vA_ 6 Qb Z λC=>I 3 Z (oC_ 7 [.d,.d] QoU Z λp=>lA_ 15 [2,5,6,7,8] [2,14,31,79] (λst=>([(9,.I st.1),(10,.I st.2)],[])) [2,5,6] [2,14,79] (λq=>(.exit 2,([(9,.I q)],[]))) Z (λ⟨next_20,j⟩=>T 2 [2,5,6,7,8,9,10] [2,14,31,79] ([(39,.b ((j<(p.length:Int))&&(next_20<0)))],[]) Z (H 6 Z (λe=>Y 4 39 Z (XB e Z)) λe=>Y 4 39 Z (Yh e Z))<|I 1 Z (mE_ 2 [2,5,6,7,8,10] [2,14,31,79] (λnext_28:Int=>([(9,.I next_28)],[])) (λnext_28=>MI j next_28) Z (B λt g=>B λk l=>D 2 Z [.N,.N,.N,.N,.N,.B (.row (Qb t)),.B (.row (XM k)),.E (.G XM k),.N,.m .s] [] [] [2,5,6,7,8,9,10,11] [2,11,14,31,79] Z Z (a4_ (Ym g Z) (XN (Yo g).2) (XY l) Z) Z<|mV_ 2 [2,5,6,7,8,9,10] [2,14,31,79] (λo=>([(72,.b o)],[])) Z (jF_ (λc=>jF_ (λf=>B λu h=>B λv i=>D 0 Z [.N,.N,.N,.E (.b true),.N,.N,.N,.N,.N,.N,.E (.b true),.N,.N,.N,.N,.B (.row (Qb u)),.N,.N,.N,.B (.row (Qb v)),.N,.N,.N] [] [] [2,5,6,7,8,9,10,72] [2,14,31,79] Z Z ⟨⟨⟨⟨⟨(tc_ c),(cb_ f)⟩,(Ym h Z)⟩,(XN (Yo h).2)⟩,(Ym i Z)⟩,(XN (Yo i).2)⟩ Z<|M 0 Z) λf=>D 0 Z (dz_ [(3,.E (.b true)),(6,.E (.b false)),(11,.N)]) [] [] [2,5,6,7,8,9,10,72] [2,14,31,79] Z Z ⟨(tc_ c),(cb_ f)⟩ Z<|M 0 Z) λc=>D 0 Z (dz_ [(3,.E (.b false)),(18,.N)]) [] [] [2,5,6,7,8,9,10,72] [2,14,31,79] Z Z (tc_ c) Z<|M 0 Z) λo=>I 1 Z (vA_ 4 Qb Z λO=>P 3 Z Z)<|P 2 Z Z) λnext_28=>R 5 Z)<|X 2 Z) λnext_24=>I 9 Z (L 8 Z)<|J 8 Z λa0=>pA_ 2 4 Qo Z<|J 7 Z λa1=>R 5 Z)<|X 2 Z) (λ_=>aD_ 2 4 600 4 Z<|E 0 Z) (λa2=>gT_ [9,.ren 79 600] Z<|E 0 Z)
def IL:O_ ((Int×LI_)⊕LI_):=Q (y_ ((Qe (a+1)),d))
def SD:O_ ((Int×LI_)⊕LI_):=bif (k<(h.States.length:Int))then j_ (idx h.States k) λc=>j_ (Ll f0 c) λd=>bif d then j_ (chk (e0.length+([k]:L_ Int).length<=4294967296)) λ_=>IL k (e0++([k]:L_ Int))else IL k e0 else Q (i_ e0)
def RD:O_ LI_:=j_ (Qh (λst=>SD h c st.1 st.2) (0,([]:L_ Int))) (λq=>Q q)
def Qlv {j k}:CT 96 [.G Qf j,.G Xc k] [] (RD j k) (λr=>(.P 600 r)) (λr=>[(600,.R 1 Qb r)]):=
 W 28 func96 Z<|aD_ 19 5 23 1 Z<|lA_ 0 [2,3] [2,3] (λst=>([(5,.P 23 st.2),(6,.I st.1)],[(23,.R 1 Qb st.2)])) [] [] (λq=>(.exit 0,([(5,.P 23 q)],[(23,.R 1 Qb q)]))) Z (λ⟨l,m⟩=>N 6 Z<|I 3 Z (mE_ 2 [2,3,6] [2,3] (λe:LI_=>([(5,.P 23 e)],[(23,.R 1 Qb e)])) (λe=>IL l e) Z (B λh f=>B λi g=>D 2 Z [.N,.N,.N,.N,.B (.row (QE h)),.N,.B (.C2 (.b i)),.N] [] [] [2,3,5,6,7] [2,3,23] Z Z (a2_ (XY f) (QcH _ g)) Z<|I 6 Z (pA_ 3 1 Qb Z<|P 3 Z Z)<|P 2 Z Z) λe=>R 5 Z)<|X 2 Z) λo=>gT_ [9,.ren 23 600] Z<|E 0 Z
def RF:O_ Bool:=Q ((0<=g0.From)&&((g0.From<(h.States.length:Int))&&((0<=g0.To)&&(g0.To<(h.States.length:Int)))))
def Qlw {f e}:CT 151 [.G Xc f,.G XM e] [] (RF f e) V.b no_:=
 W 29 func151 Z<|T 8 [] [] ([(4,.b ((0<=e.From)&&((e.From<(f.States.length:Int))&&((0<=e.To)&&(e.To<(f.States.length:Int))))))],[]) Z (H 5 Z (λa=>N 4 Z<|H 3 Z (λc=>H 5 Z (λd=>N 4 Z<|Y 4 4 Z (XB a (XB c (XB d Z)))) λd=>Y 9 4 Z (XB a (XB c (Yh d Z)))) λc=>Y 14 4 Z (XB a (Yh c Z))) λa=>Y 22 4 Z (Yh a Z))<|E 2 Z
def Hv:O_ ((Int×LI_)⊕LI_):=bif (a<(d.length:Int))then j_ (idx d a) λc=>Q (y_ ((Qe (a+1)),(d.set a.toNat (-1))))else Q (i_ d)
def OI:O_ ((Int×LI_)⊕LI_):=Q (y_ ((Qe (a+1)),d))
def Qfd:O_ Bool:=j_ (idx d b) λa=>bif (0<=a)then j_ (idx d b) λe=>Q (decide (e<(j.length:Int)))else Q false
def Qfe:O_ ((Int×LI_)⊕LI_):=bif p then j_ (idx d b) λa=>j_ (idx j a) λf=>OI b (j.set a.toNat 0)else OI b j
def OJ:O_ ((Int×LI_)⊕LI_):=bif (b<(d.length:Int))then j_ (Qfd d b j) (λa=>Qfe d b j a)else Q (i_ j)
def OK:O_ ((Int×LI_)⊕LI_):=Q (y_ ((Qe (a+1)),d))
def Qff:O_ Bool:=bif n then j_ (idx j g0.To) λe=>bif (e==h0)then j_ (idx j g0.From) λf=>Q (decide (f<0))else Q false else Q false
def Qfg (e:Bool):O_ ((Int×LI_)⊕LI_):=bif e then j_ (idx d g0.From) λf=>OK h0 (d.set g0.From.toNat (Qe (g2+1)))else OK h0 d
def OL:O_ ((Int×LI_)⊕LI_):=bif (i<(h.Edges.length:Int))then j_ (idx h.Edges i) λd=>j_ (RF h d) λf=>j_ (Qff f j d b) (λg=>Qfg j d i b g)else Q (i_ j)
def QdW:O_ ((Int×LI_)⊕LI_):=Q (y_ ((Qe (a+1)),d))
def MK:O_ ((Int×LI_)⊕LI_):=bif (b<(j.length:Int))then j_ (Qh (λst=>OL h b st.1 st.2) (0,j)) (λq=>QdW b q)else Q (i_ j)
def QdX:O_ LI_:=j_ (Qh (λst=>MK h st.1 st.2) (0,j)) (λq=>Q q)
def QdY:O_ LI_:=j_ (Qh (λst=>OJ d st.1 st.2) (0,j)) (λq=>QdX h q)
def LA:O_ LI_:=j_ (chk (decide (0<=(h.States.length:Int))&&decide ((h.States.length:Int)<=(h.States.length:Int))&&decide ((h.States.length:Int)<=4294967296))) λ_=>j_ (Qh (λst=>Hv st.1 st.2) (0,(List.replicate (h.States.length:Int).toNat (0:Int)))) (λq=>QdY j h q)
def QoV {s c}:CT 95 [.G Xc s,.M 1 Qb c] [] (LA s c) (λr=>(.P 600 r)) (λr=>[(600,.R 1 Qb r)]):=
 W 97 func95 Z<|N 10 Z<|kA_ λt=>g2_ [.o (.rows ((List.replicate (s.States.length:Int).toNat (0:Int)).map Qb)),.S 15 (.own 15 (List.replicate (s.States.length:Int).toNat (0:Int)).length),10] Z ⟨t,QeM Z⟩ (by simp)<|lA_ 0 [1,2] [2] (λst=>([(5,.P 15 st.2),(6,.I st.1)],[(15,.R 1 Qb st.2)])) [1,2] [2] (λq=>(.exit 0,([(5,.P 15 q)],[(15,.R 1 Qb q)]))) Z (λ⟨z,C⟩=>I 9 Z (B λu f=>g3_ [8,.st (Qb u) ((C.set z.toNat (-1)).map Qb),8,.S 5 (.own 15 (C.set z.toNat (-1)).length)] Z (Ym f Z) ⟨(XN (Yo f).2),WG Z⟩ (congrArg (λn=>V.own 15 n) (by simp))<|R 0 Z)<|X 2 Z) λO=>lA_ 9 [1,2] [2] (λst=>([(5,.P 15 st.2),(7,.I st.1)],[(15,.R 1 Qb st.2)])) [2] [2] (λq=>(.exit 2,([(5,.P 15 q)],[(15,.R 1 Qb q)]))) Z (λ⟨v,i⟩=>N 5 Z<|I 3 Z (mE_ 2 [1,2,7] [2] (λd:LI_=>([(5,.P 15 d)],[(15,.R 1 Qb d)])) (λd=>OI v d) Z (mV_ 2 [1,2,5,7] [2,15] (λj=>([(44,.b j)],[])) Z (J 3 Z λa0=>I 3 Z (J 2 Z λa1=>M 6 Z)<|M 9 Z) λj=>I 1 Z (J 4 Z λk=>B λw g=>g3_ [2,.st (Qb w) ((i.set k.toNat 0).map Qb),2,.S 5 (.own 15 (i.set k.toNat 0).length)] Z (Ym g Z) ⟨(XN (Yo g).2),WG Z⟩ (congrArg (λn=>V.own 15 n) (by simp))<|P 0 Z Z)<|P 2 Z Z) λd=>R 5 Z)<|X 2 Z) λa2=>lA_ 9 [2] [2] (λst=>([(5,.P 15 st.2),(8,.I st.1)],[(15,.R 1 Qb st.2)])) [] [] (λq=>(.exit 4,([(5,.P 15 q)],[(15,.R 1 Qb q)]))) Z (λ⟨a,a3⟩=>I 9 Z (lA_ 10 [2,8] [2] (λst=>([(5,.P 15 st.2),(9,.I st.1)],[(15,.R 1 Qb st.2)])) [2,8] [2] (λq=>(.exit 6,([(5,.P 15 q)],[(15,.R 1 Qb q)]))) Z (λ⟨x,l⟩=>N 6 Z<|I 3 Z (mE_ 2 [2,8,9] [2] (λe:LI_=>([(5,.P 15 e)],[(15,.R 1 Qb e)])) (λe=>OK x e) Z (J 6 Z λm=>A 9 Qlw Z λa4=>mV_ 4 [2,5,8,9,10] [2,10,15] (λp=>([(89,.b p)],[])) Z (I 3 Z (vA_ 4 Qb Z λa5=>I 4 Z (vA_ 4 Qb Z λa6=>M 3 Z)<|M 8 Z)<|M 17 Z) λp=>I 1 Z (B λy h=>g3_ [7,.st (Qb y) ((l.set m.From.toNat (Qe (a+1))).map Qb),2,.S 5 (.own 15 (l.set m.From.toNat (Qe (a+1))).length)] Z (Ym h Z) ⟨(XN (Yo h).2),WG Z⟩ (congrArg (λn=>V.own 15 n) (by simp))<|P 0 Z Z)<|P 2 Z Z) λe=>R 5 Z)<|X 2 Z) λa7=>R 8 Z)<|X 2 Z) λa8=>gT_ [9,.ren 15 600] Z<|E 0 Z
def ML:O_ ((Int×LI_)⊕LI_):=Q (y_ ((Qe (a+1)),d))
def Vs:O_ ((Int×LI_)⊕LI_):=bif (b<(d.length:Int))then j_ (idx d b) λc=>bif (c<0)then j_ (chk (j.length+([b]:L_ Int).length<=4294967296)) λ_=>ML b (j++([b]:L_ Int))else ML b j else Q (i_ j)
def Vt:O_ LI_:=j_ (RD c h) λa=>j_ (LA h a) λd=>j_ (Qh (λst=>Vs d st.1 st.2) (0,([]:L_ Int))) (λq=>Q q)
def Qni {f g}:CT 56 [.G Qf f,.G Xc g] [] (Vt f g) (λr=>(.P 600 r)) (λr=>[(600,.R 1 Qb r)]):=
 W 29 func56 Z<|B λh c=>B λi e=>D 8 Z [.N,.N,.N,.B (.cd false [.d,.d] 1 (h.map Qb) h.length),.B (.co false [.d,.d] 1 (i.map Qb) i.length),.N] [] [] [5] [12] Z Z (a2_ ⟨(Qlv _ c),Qq⟩ ⟨(QoV _ e),Qq,.inl Z⟩) Z<|aD_ 13 6 24 1 Z<|lA_ 0 [5] [12] (λst=>([(6,.P 24 st.2),(7,.I st.1)],[(24,.R 1 Qb st.2)])) [] [] (λq=>(.exit 0,([(6,.P 24 q)],[(24,.R 1 Qb q)]))) Z (λ⟨j,m⟩=>I 9 Z (mE_ 2 [5,7] [12] (λb:LI_=>([(6,.P 24 b)],[(24,.R 1 Qb b)])) (λb=>ML j b) Z (vA_ 6 Qb Z λk=>I 3 Z (pA_ 3 1 Qb Z<|P 3 Z Z)<|P 2 Z Z) λb=>R 5 Z)<|X 2 Z) λl=>gT_ [9,.ren 24 600] Z<|E 0 Z
def IM:O_ ((Int×LI_)⊕LI_):=Q (y_ ((Qe (a+1)),d))
def SE:O_ Bool:=bif (a<(d.length:Int))then j_ (idx d a) λb=>Q (decide (b<g0.Mode.Task))else Q false
def SF:O_ (Int⊕Int):=bif n then Q (y_ (Qe (a+1)))else Q (i_ a)
def IN:O_ (Int⊕Int):=j_ (SE h0 d g0) (λb=>SF h0 b)
def SG:O_ Bool:=bif (a==(d.length:Int))then Q true else j_ (idx d a) λb=>Q (b != g0.Mode.Task)
def QcJ (c:Bool):O_ ((Int×LI_)⊕LI_):=bif c then j_ (chk (decide (0<=a)&&decide (0<=a.toNat)&&decide (a.toNat<=d.length))) λ_=>j_ (chk (([]:L_ Int).length+((d.drop 0).take (a.toNat-0)).length<=4294967296)) λ_=>j_ (chk ((([]:L_ Int)++((d.drop 0).take (a.toNat-0))).length+([g0.Mode.Task]:L_ Int).length<=4294967296)) λ_=>j_ (chk (decide (0<=a)&&decide (a.toNat<=d.length)&&decide (d.length<=d.length))) λ_=>j_ (chk (((([]:L_ Int)++((d.drop 0).take (a.toNat-0)))++[g0.Mode.Task]).length+((d.drop a.toNat).take (d.length-a.toNat)).length<=4294967296)) λ_=>IM h0 (((([]:L_ Int)++((d.drop 0).take (a.toNat-0)))++[g0.Mode.Task])++((d.drop a.toNat).take (d.length-a.toNat)))else IM h0 d
def QcK:O_ ((Int×LI_)⊕LI_):=j_ (SG g2 d g0) (λb=>QcJ g2 d g0 h0 b)
def IP:O_ ((Int×LI_)⊕LI_):=bif (b<(h.Edges.length:Int))then j_ (idx h.Edges b) λa=>j_ (Qh (λst=>IN j a st) 0) (λq=>QcK j a b q)else Q (i_ j)
def Lm:O_ LI_:=j_ (Qh (λst=>IP h st.1 st.2) (0,([]:L_ Int))) (λq=>Q q)
def Qly {u}:CT 97 [.G Xc u] [] (Lm u) (λr=>(.P 600 r)) (λr=>[(600,.R 1 Qb r)]):=
 W 60 func97 Z<|aD_ 18 3 47 1 Z<|lA_ 0 [1] [1] (λst=>([(3,.P 47 st.2),(4,.I st.1)],[(47,.R 1 Qb st.2)])) [] [] (λq=>(.exit 0,([(3,.P 47 q)],[(47,.R 1 Qb q)]))) Z (λ⟨w,c⟩=>N 6 Z<|I 3 Z (mE_ 2 [1,4] [1] (λd:LI_=>([(3,.P 47 d)],[(47,.R 1 Qb d)])) (λd=>IM w d) Z (J 6 Z λe=>lA_ 13 [1,3,4,5] [1,47] (λst=>([(6,.I st)],[])) [1,3,4,5] [1,47] (λq=>(.exit 2,([(6,.I q)],[]))) Z (λat_12=>mV_ 2 [1,3,4,5,6] [1,47] (λi=>([(32,.b i)],[])) Z (I 6 Z (vA_ 3 Qb Z λx=>M 4 Z)<|M 8 Z) λi=>I 1 Z (R 9 Z)<|X 2 Z) λO=>mV_ 3 [1,3,4,5,6] [1,47] (λj=>([(46,.b j)],[])) Z (I 6 Z (M 8 Z)<|vA_ 3 Qb Z λy=>M 4 Z) λj=>I 1 Z (zF_ 0 47 [3] [] Z<|kA_ λg=>kA_ λk=>kA_ λo=>kA_ λh=>kA_ λp=>BM 0 Z [.N,.N,.N,.B (.any (.sl 1 (((c.drop 0).take (O.toNat-0)).map Qb)) none),.m (.app ((([]:L_ Int)++((c.drop 0).take (O.toNat-0))).map Qb) (([]:L_ Int)++((c.drop 0).take (O.toNat-0))).length),.a .no none true,.a (.bd []) (Q ([],.sl 1 (([e.Mode.Task]:L_ Int).map Qb))) true,.m (.app (((([]:L_ Int)++((c.drop 0).take (O.toNat-0)))++[e.Mode.Task]).map Qb) ((([]:L_ Int)++((c.drop 0).take (O.toNat-0)))++[e.Mode.Task]).length),.a .no none true,.a .no none true,.a (.any (.sl 1 (((c.drop O.toNat).take (c.length-O.toNat)).map Qb)) none) none true,.m (.app ((((([]:L_ Int)++((c.drop 0).take (O.toNat-0)))++[e.Mode.Task])++((c.drop O.toNat).take (c.length-O.toNat))).map Qb) (((([]:L_ Int)++((c.drop 0).take (O.toNat-0)))++[e.Mode.Task])++((c.drop O.toNat).take (c.length-O.toNat))).length),.m .s] [1,3,4,5,6] [1] [1,3,4] [1,47] Z Z (λv=>(a6_ (λσ t z _=>Stp.sliceD Z Z (Xk v.n Z) (t _ _ Z) (Xg.es Z) GC.no (GC.val (t _ _ Z) (Xd (Tl g)) Z) (Xd (Tm g)) (XZ (Xd (QbF g)) (PA Qq.symm)) Qbb) ⟨(Qq (f:=Qb) (l:=([]:L_ Int))),Af k Qq,(Kz (f:=Qb) (l:=([]:L_ Int)) (m:=((c.drop 0).take (O.toNat-0)))),UJ (l:=([]:L_ Int)) Qq⟩ Z ⟨Qq,Af o Qq,Kz,UJ Qq⟩ (λσ t z _=>Stp.sliceD Z Z (Xk v.n Z) (t _ _ Z) (Xg.es Z) (GC.val (t _ _ Z) (Xd (Tl h)) Z) (GC.none_ Qq) (Xd (Tm h)) (PA Qq.symm) Qbb) ⟨Qq,Af p Qq,Kz,UJ Qq⟩)) Z<|P 1 Z Z)<|P 2 Z Z) λd=>R 5 Z)<|X 2 Z) λC=>gT_ [9,.ren 47 600] Z<|E 0 Z
def Vu:O_ ((Int×LI_)⊕LI_):=Q (y_ ((Qe (a+1)),d))
def QdZ:O_ Bool:=bif n then Q true else j_ (idx j m) λb=>Q (b==j1)
def Qd0:O_ ((Bool×Int)⊕Bool):=Q (y_ (n,(Qe (a+1))))
def GU:O_ ((Bool×Int)⊕Bool):=bif (k<(d.length:Int))then j_ (QdZ p d k b) (λO=>Qd0 k O)else Q (i_ p)
def MM:O_ ((Int×LI_)⊕LI_):=bif (m<(c.Tasks.length:Int))then j_ (Qh (λst=>GU j m st.1 st.2) (false,0)) (λq=>bif (!q)then j_ (chk (e3.length+([m]:L_ Int).length<=4294967296)) λe=>Vu m (e3++([m]:L_ Int))else Vu m e3)else Q (i_ e3)
def Vv:O_ LI_:=j_ (Lm h) λa=>j_ (Qh (λst=>MM c a st.1 st.2) (0,([]:L_ Int))) (λq=>Q q)
def Qnl {c e}:CT 57 [.G Qf c,.G Xc e] [] (Vv c e) (λr=>(.P 600 r)) (λr=>[(600,.R 1 Qb r)]):=
 W 41 func57 Z<|oC_ 10 [.d] Qly Z λj=>aD_ 15 6 36 1 Z<|lA_ 0 [2,5] [2,11] (λst=>([(6,.P 36 st.2),(7,.I st.1)],[(36,.R 1 Qb st.2)])) [] [] (λq=>(.exit 0,([(6,.P 36 q)],[(36,.R 1 Qb q)]))) Z (λ⟨f,k⟩=>N 6 Z<|I 3 Z (mE_ 2 [2,5,7] [2,11] (λa:LI_=>([(6,.P 36 a)],[(36,.R 1 Qb a)])) (λa=>Vu f a) Z (lA_ 13 [2,5,6,7] [2,11,36] (λst=>([(8,.b st.1),(9,.I st.2)],[])) [2,5,6,7] [2,11,36] (λq=>(.exit 2,([(8,.b q)],[]))) Z (λ⟨in_13,g⟩=>I 9 Z (mV_ 4 [2,5,6,7,9] [2,11,36] (λO=>([(8,.b O)],[])) Z (I 3 Z (M 9 Z)<|vA_ 3 Qb Z λh=>M 5 Z) λO=>R 7 Z)<|X 2 Z) λin_17=>I 8 Z (pA_ 3 1 Qb Z<|P 3 Z Z)<|P 2 Z Z) λa=>R 5 Z)<|X 2 Z) λi=>gT_ [9,.ren 36 600] Z<|E 0 Z
def Cr:O_ Xe:=bif (!h.Full)then Q (Xe.mk 3 0 0 ([]:(L_ Qc)))else j_ (OD c h) λg=>bif (0<=g)then j_ (Bw h g) λi=>Q (Xe.mk 2 1 0 i)else j_ (Vt c h) λa=>bif (0<(a.length:Int))then j_ (idx a 0) λd=>j_ (Bw h d) λe=>Q (Xe.mk 2 2 0 e)else j_ (Vv c h) λb=>bif (0<(b.length:Int))then j_ (idx b 0) λf=>Q (Xe.mk 2 3 f ([]:(L_ Qc)))else Q (Xe.mk 1 0 0 ([]:(L_ Qc)))
def Qlz {i f}:CT 28 [.G Qf i,.G Xc f] [] (Cr i f) (λr=>(.G XO r)) no_:=
 W 44 func28 Z<|I 15 Z (G [2,.v .no [none,none,none,Q 4] (.agg (XO (Xe.mk 3 0 0 ([]:(L_ Qc))))),5] Z Z<|E 0 Z)<|A 6 QjK Z λl=>I 10 Z (oC_ 4 [.d,.d] QdV Z λj=>G [6,.frz 19 (j.map Qo) [] [4]] Z (a1_ ⟨(Kj Qq),U⟩)<|E 0 Z)<|oC_ 6 [.d,.d] Qni Z λo=>I 11 Z (B λg b=>B λc e=>D 1 Z [.E (.G Xc f),.N,.N,.B (.row (Qb g)),.B (.cd false [.d,.d] 4 (c.map Qo) c.length),.E (.agg (XO (Xe.mk 2 2 0 c))),.m .s] [] [] [4] [4] Z Z (a5_ Z (Ym b Z) (XN (Yo b).2) ⟨(QdV _ e),Qq⟩ Z) Z<|E 3 Z)<|oC_ 6 [.d,.d] Qnl Z λk=>I 11 Z (vA_ 4 Qb Z λh=>G [.v .no [none,none,none,Q 4] (.agg (XO (Xe.mk 2 3 h ([]:(L_ Qc))))),5] Z Z<|E 0 Z)<|G [4,.v .no [none,none,none,Q 4] (.agg (XO (Xe.mk 1 0 0 ([]:(L_ Qc))))),4] Z Z<|E 0 Z
def RG:O_ Xe:=j_ (MH c b i) λd=>j_ (Cr c d) λe=>Q e
def QcL {h b e}:CT 10 [.G Qf h,.I b,.I e] [] (RG h b e) (λr=>(.G XO r)) no_:=
 W 13 func10 Z<|B λi f=>B λj g=>D 7 Z [.N,.N,.N,.N,.B (.C3 (.G Xc i)),.B (.C2 (.G XO j)),.m .s] [] [] [6] [6] Z Z (a2_ (Qh8 _ f) (Qlz _ g)) Z<|E 2 Z
def Qd1 (b:Qc):O_ Bool:=bif (r.Task==b.Task)then j_ (Hq r.Vars b.Vars) λd=>bif d then j_ (Hq r.Ins b.Ins) λe=>bif e then j_ (Hq r.Outs b.Outs) λc=>Q c else Q false else Q false else Q false
def Qd2:O_ Bool:=Q n
def QcM (b:Qc):O_ Bool:=j_ (Qd1 r b) (λc=>Qd2 c)
def Qnm {a c}:CT 53 [.G Qo a,.G Qo c] [] (QcM a c) V.b no_:=
 W 31 func53 Z<|mV_ 8 [] [] (λd=>([(4,.b d)],[])) Z (I 7 Z (A 4 MA Z λf=>I 2 Z (A 4 MA Z λg=>I 2 Z (A 4 MA Z λe=>M 3 Z)<|M 8 Z)<|M 15 Z)<|M 22 Z) λd=>E 2 Z
def ES (d:(L_ Qc))(e:(L_ Qc))(a:Int):O_ (Int⊕(Unit⊕Unit)):=bif (a<(d.length:Int))then j_ (idx d a) λf=>j_ (idx e a) λb=>j_ (QcM f b) λc=>bif (!c)then Q (i_ (y_ ()))else Q (y_ (Qe (a+1)))else Q (i_ (i_ ()))
def RH (a:(L_ Qc))(b:(L_ Qc)):O_ Bool:=bif ((a.length:Int) != (b.length:Int))then Q false else j_ (Qh (λst=>ES a b st) 0) (Sum.elim (λq=>Q false) (λq=>Q true))
def QlC {j k}:CT 27 [.M 4 Qo j,.M 4 Qo k] [] (RH j k) V.b no_:=
 W 29 func27 Z<|N 9 Z<|N 1 Z<|I 3 Z (E 7 Z)<|F 9 [0,1] [] (λst=>([(5,.I st)],[])) [] [] (λq=>(.ret,([(4,.b false)],[]))) [] [] (λq=>(.exit 0,([],[]))) Z (λm=>N 5 Z<|I 3 Z (B λl g=>B λh e=>B λi f=>D 5 Z [.N,.N,.B (.row (Qo l)),.N,.N,.N,.B (.row (Qo h)),.N,.B (.C2 (.b i)),.N] [] [] [0,1,5,6] [] Z Z (a3_ (XY g) (XY e) (Qnm _ f)) Z<|I 7 Z (L 8 Z)<|R 8 Z)<|X 2 Z) (λ_=>E 2 Z) (λ_=>E 8 Z)
def Qd3 (a:Xe)(b:Xe):O_ Bool:=bif (a.Told==b.Told)then bif (a.Clause==b.Clause)then bif (a.Task==b.Task)then j_ (RH a.Trace b.Trace) λc=>Q c else Q false else Q false else Q false
def Qd4:O_ Bool:=Q n
def Vx (a:Xe)(b:Xe):O_ Bool:=j_ (Qd3 a b) (λc=>Qd4 c)
def Qd5 {a c}:CT 9 [.G XO a,.G XO c] [] (Vx a c) V.b no_:=
 W 31 func9 Z<|mV_ 8 [] [] (λd=>([(4,.b d)],[])) Z (I 7 Z (I 7 Z (I 7 Z (A 4 QlC Z λe=>M 3 Z)<|M 8 Z)<|M 15 Z)<|M 22 Z) λd=>E 2 Z
def SQ (a:Xe):O_ Bool:=bif n then j_ (RG c b i) λd=>j_ (Vx a d) λe=>bif e then j_ (JM c a) λf=>Q (f==(a.Told==2))else Q false else Q false
def SR:O_ Bool:=Q n
def Uy:O_ Bool:=j_ (Qax) λe=>j_ (Hm c b) λf=>bif (!f)then Q e else j_ (Gc c b i) λg=>j_ (SQ e c b i g) (λd=>SR d)
def Qfh {q e f}:CT 3 [.G Qf q,.I e,.I f] [] (Uy q e f) V.b no_:=
 W 39 func3 Z<|A 8 QkB Z λr=>A 7 QmR Z λt=>I 10 Z (E 8 Z)<|A 7 Bm Z λu=>mV_ 5 [] [] (λk=>([(6,.b k)],[])) Z (jF_ (λg=>B λl i=>B λn j=>jF_ (λh=>B λp o=>D 0 Z (dz_ [(1,.E (.b true)),(4,.B (.C3 (.G XO l))),(0,.B (.C2 (.b n))),(1,.E (.b true)),(2,.B (.C2 (.b p))),(5,.m .s)]) [] [] [6] [] Z Z ⟨⟨⟨⟨(tc_ g),(QcL _ i)⟩,(Qd5 _ j)⟩,(cb_ h)⟩,(YP _ o)⟩ Z<|M 0 Z) λh=>D 0 Z (dz_ [(1,.E (.b true)),(4,.B (.C3 (.G XO l))),(0,.B (.C2 (.b n))),(1,.E (.b false)),(8,.m .s)]) [] [] [6] [] Z Z ⟨⟨⟨(tc_ g),(QcL _ i)⟩,(Qd5 _ j)⟩,(cb_ h)⟩ Z<|M 0 Z) λg=>D 0 Z (dz_ [(1,.E (.b false)),(16,.m .s)]) [] [] [6] [] Z Z (tc_ g) Z<|M 0 Z) λk=>E 2 Z
end Go.Proofs
