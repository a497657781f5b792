/- What functions of the program do, as functions over plain data, and the walks that show it: printed by a program. -/
import Derived.Test.YtphohlpbjofddaaGreatDoorO4T1
set_option linter.all false
set_option maxRecDepth 100000
set_option maxHeartbeats 4000000
noncomputable section
namespace Go.Proofs
open Go Go.RowKit Go.Vm Go.Proofs.Tryz
def YB (b:(L_ Xh))(a:Int):O_ Bool:=some ((0<=a)&&(a<(b.length:Int)))
def Kc (d c):CT 101 [.sl 3 (d.map QK),.I c] [] (YB d c) V.b no_:=
 W 13 func101 Z λC e r h=>H e [6] Z<|Y ⟨[(4,.b ((0<=c)&&(c<(d.length:Int))))],[]⟩ (H e [4] Z<|bO_ (decide (0<=c)) (λa=>G e [.S 7 (.b true),2,.o (.ln d.length),4,.S 4 (.b ((0<=c)&&(c<(d.length:Int))))] Z ⟨⟨(tc_ a),Qc⟩,(cb_ (XL a Z))⟩<|M Z) λa=>G e [.S 7 (.b false),7,.S 4 (.b ((0<=c)&&(c<(d.length:Int))))] Z ⟨(tc_ a),(cb_ (Yp a Z))⟩<|M Z)<|H e [2] Z<|E h Z U
def SY (a:Qn):O_ Bool:=(YB a.Places a.From).bind λb=>bif b then (YB a.Places a.To).bind λc=>some c else some false
def SZ (a:Bool):O_ Bool:=some a
def Mj (a:Qn):O_ Bool:=(SY a).bind (λb=>SZ b)
def Qe2 (f):CT 100 [.L 617] [(617,.var (Qa f))] (Mj f) V.b (λ_=>[(617,.var (Qa f))]):=
 W 14 func100 Z λC e r h=>H e [6] Z<|mV_ h (λg=>⟨[(1,.b g)],[(617,.var (Qa f))]⟩) (λg h=>B h λk i h=>J e [5,.o (.C2 (.b k)),1] Z (Kc _ _ _ i)<|I h (λa h=>B h λl j h=>G e [.S 7 (.b true),4,.o (.C2 (.b l)),3] Z ⟨(tc_ a),(Kc _ _ _ j)⟩<|mq_ h Z) λa h=>L e [.S 7 (.b false),8] Z a<|mq_ h Z) λg h=>H e [2] Z<|E h Z r1_
def Mk (a:Qn):O_ Bool:=some (a.From != a.To)
def Qe3 (a):CT 102 [.L 617] [(617,.var (Qa a))] (Mk a) V.b (λ_=>[(617,.var (Qa a))]):=
 W 7 func102 Z λC c r h=>H c [16] Z<|E h Z r1_
def Fe (a:Qn)(c:Int)(d:Int)(e:Int):O_ Int:=(Fd a).bind λf=>bif (!f)then some c else (Mj a).bind λg=>bif (!g)then some d else (Mk a).bind λb=>bif (!b)then some e else some 0
def Qe4 (i l m p):CT 98 [.own 617 3] [(617,.var [.clo (.func 99) [] [.L 618],.I l,.clo (.func 100) [] [.L 618],.I m,.clo (.func 102) [] [.L 618],.I p]),(618,.var (Qa i))] (Fe i l m p) V.I (λ_=>[(617,.var [.clo (.func 99) [] [.L 618],.I l,.clo (.func 100) [] [.L 618],.I m,.clo (.func 102) [] [.L 618],.I p]),(618,.var (Qa i))]):=
 W 18 func98 Z λC a r h=>H a [14] Z<|AK.loopN 4<|AK.rnd<|B h λu q h=>g4_ a [2,.v .no [] (.b true),10,.o (.any (.L 617) none),3,.O 4 (.var [.clo (.func 99) [] [.L 618],.I l]),6,.cm (.clo) [(617,618)] [(618,617)] [] [.d] [(617,.var (Qa i))] (.b u),3] Z Z (λσ f j _=>Ql.idxV Z Z (QZ a.n Z) (f _ _ Z) (f _ _ Z) (QN.es Z) (j _ _ Z) (by decide)) Z (Qe1 _ _ q)<|I h (λg h=>J a [.T,13] Z g<|E h Z r2_) λg h=>K a [.F,4,.v .no [] (.I 1),2] Z g Z<|AK.met<|AK.rnd<|B h λw s h=>g4_ a [2,.v .no [] (.b true),10,.o (.any (.loc 617 0 2) none),1,.kill 4,2,.O 4 (.var [.clo (.func 100) [] [.L 618],.I m]),6,.cm (.clo) [(617,618)] [(618,617)] [] [.d] [(617,.var (Qa i))] (.b w),3] Z Z (λσ f j _=>Ql.idxV Z Z (QZ a.n Z) (f _ _ Z) (f _ _ Z) (QN.es Z) (j _ _ Z) (by decide)) Z (Qe2 _ _ s)<|I h (λc h=>J a [.T,13] Z c<|E h Z r2_) λc h=>K a [.F,4,.v .no [] (.I 2),2] Z c Z<|AK.met<|AK.rnd<|B h λt k h=>g4_ a [2,.v .no [] (.b true),10,.o (.any (.loc 617 0 4) none),1,.kill 4,2,.O 4 (.var [.clo (.func 102) [] [.L 618],.I p]),6,.cm (.clo) [(617,618)] [(618,617)] [] [.d] [(617,.var (Qa i))] (.b t),3] Z Z (λσ f j _=>Ql.idxV Z Z (QZ a.n Z) (f _ _ Z) (f _ _ Z) (QN.es Z) (j _ _ Z) (by decide)) Z (Qe3 _ _ k)<|I h (λe h=>J a [.T,13] Z e<|E h Z r2_) λe h=>K a [.F,4,.v .no [] (.I 3),2] Z e Z<|AK.met<|AK.rnd<|J a [2,.v .no [] (.b false),15] Z Z<|E h Z r2_
def IB (a:(L_ QM)):O_ Bool:=(Gi a).bind λb=>some b.2
def QdJ (e):CT 156 [.sl 7 (e.map Qt)] [] (IB e) V.b no_:=
 W 11 func156 Z λC g r h=>B h λf a h=>J g [8,.o (.C1 (.tup [.sl 1 (f.1.map Qb),.b f.2])),14] Z (Rn _ _ a)<|E h Z U
def UL (b:Qn)(a:Int):O_ Bool:=(chk (decide (0<=(Qj (a+1)))&&decide (0<=(Qj (a+1)).toNat)&&decide ((Qj (a+1)).toNat<=b.Colours.length))).bind λ_=>(IB ((b.Colours.drop 0).take ((Qj (a+1)).toNat-0))).bind λc=>some c
def Zu (e f):CT 155 [.L 617,.L 618] [(617,.var (Qa e)),(618,.var (Qb f))] (UL e f) V.b (λ_=>[(617,.var (Qa e)),(618,.var (Qb f))]):=
 W 9 func155 Z λC i r h=>X h λa h=>B h λk g h=>K i [11,.o (.any (.sl 7 (((e.Colours.drop 0).take ((Qj (f+1)).toNat-0)).map Qt)) none),.o (.C1 (.b k)),4] Z (λσ j l _=>Ql.sliceD Z Z (QZ i.n Z) (j _ _ Z) (QN.es Z) UR.no (UR.val (j _ _ Z) (Xn (SH a)) Z) (Xn (SI a)) (Jn (Xn (ZI a)) (Nat.le_of_eq Qc.symm)) QaJ) (QdJ _ _ g)<|E h Z r2_
def Ta (x:ByteArray):O_ (L_ ByteArray):=(chk (Qj8 x)).bind λ_=>some (Ae x)
def QbD (x){r}(h:Ta x=some r):QP prog 263 [.s x] [] (Gives (.own 600 r.length) [(600,.arr 1 (r.map Ki))]):=by
 obtain⟨_,a,h⟩:=Qw h
 cases h
 exact Qjd QmT (by kernel_rfl) (by kernel_rfl) x (QhI a)
def Ff  : O_ (L_ ByteArray):=(Ta (⟨#[99,111,108,111,117,114,32,112,108,97,99,101,32,116,97,115,107,32,118,97,114,32,119,104,101,110,32,106,111,105,110,32,115,112,108,105,116,32,105,110,32,111,117,116,32,99,97,110,99,101,108,32,97,102,116,101,114,32,109,97,110,121,32,102,114,111,109,32,116,111,32,105,110,116,32,101,110,117,109,32,112,97,105,114,32,97,110,100,32,120,111,114,32,111,114,32,105,102]⟩:ByteArray)).bind λa=>some a
def Qe5  : CT 253 [] [] (Ff ) (λr=>(.own 600 r.length)) (λr=>[(600,.arr 1 (r.map Ki))]):=
 W 2 func253 Z λC c r h=>B h λb a h=>J c [7,.o (.co false [.d] 1 (b.map Ki) b.length),4,.K [0] [1],.ren 1 600] Z ⟨(QbD _ a),Qc,.inl Z⟩<|E h Z r1_
def Di (b:(L_ ByteArray))(c:ByteArray)(a:Int):O_ (Int⊕(Int⊕Unit)):=bif (a<(b.length:Int))then (idx b a).bind λd=>bif (JF c d)then some (.inr (.inl a))else some (.inl (Qj (a+1)))else some (.inr (.inr ()))
def Dj (a:Int):O_ Int:=some a
def Dk : O_ Int:=some (-1)
def KX (a:(L_ ByteArray))(b:ByteArray):O_ Int:=(Qs (λst=>Di a b st) 0).bind (Sum.elim (λq=>Dj q) (λq=>Dk))
def Ns (d e):CT 262 [.sl 1 (d.map Ki),.s e] [] (KX d e) V.I no_:=
 W 19 func262 Z λC b r h=>J b [9,.o (.ln d.length),4] Z Qc<|lq_ h (λst=>⟨[(0,.sl 1 (d.map Ki)),(1,.s e),(7,.I (d.length:Int)),(8,.I st)],[]⟩) (λq=>(.ret,⟨[(4,.I q)],[]⟩)) (λq=>(.exit 0,⟨[],[]⟩)) Z (λi o h=>H b [6] Z<|I h (λc h=>B h λg f h=>K b [.T,15,.o (.row (Ki g)),4] Z c (QI f)<|I h (λa h=>J b [.T,9] Z a<|rR_ h Z) λa h=>J b [.F,7] Z a<|rN_ h Z) λc h=>J b [.F,2] Z c<|rX_ h Z) (λj h=>H b [2] Z<|E h Z U) (λ_ h=>H b [8] Z<|E h Z U)
def Kj (a:(L_ ByteArray))(b:ByteArray):O_ Bool:=(KX a b).bind λc=>some (decide (0<=c))
def Lx (e f):CT 252 [.sl 1 (e.map Ki),.s f] [] (Kj e f) V.b no_:=
 W 9 func252 Z λC g r h=>B h λi a h=>J g [9,.o (.C2 (.I i)),5] Z (Ns _ _ _ a)<|E h Z U
def Oi (a:ByteArray):O_ Bool:=(Ff).bind λb=>(Kj b a).bind λc=>some c
def QgG (g):CT 209 [.s g] [] (Oi g) V.b no_:=
 W 6 func209 Z λC i r h=>B h λa e h=>B h λj f h=>K i [7,.o (.co false [] 1 (a.map Ki) a.length),1,.o (.c true [.o (a.map Ki),.d] (.b j)),4] Z ⟨(Qe5 _  e),Qc,.inl Z⟩ ⟨(Sl Z),(Lx _ _ _ f)⟩<|E h Z U
def VC (a:ByteArray):O_ Bool:=(WF a).bind λb=>bif b then (Oi a).bind λc=>some (!c)else some false
def VD (a:Bool):O_ Bool:=some a
def GR (a:ByteArray):O_ Bool:=(VC a).bind (λb=>VD b)
def AB (j):CT 152 [.s j] [] (GR j) V.b no_:=
 W 10 func152 Z λC e r h=>H e [6] Z<|mV_ h (λf=>⟨[(2,.b f)],[]⟩) (λf h=>B h λk g h=>J e [2,.o (.C1 (.b k)),1] Z (MI _ _ g)<|I h (λa h=>B h λl i h=>G e [.S 5 (.b true),1,.o (.C1 (.b l)),4] Z ⟨(tc_ a),(QgG _ _ i)⟩<|mq_ h Z) λa h=>L e [.S 5 (.b false),6] Z a<|mq_ h Z) λf h=>H e [2] Z<|E h Z U
def Eg (a:ByteArray):O_ Bool:=(GR a).bind λb=>some (!b)
def Tb (e):CT 154 [.s e] [] (Eg e) V.b no_:=
 W 6 func154 Z λC f r h=>B h λg a h=>J f [8,.o (.C1 (.b g)),5] Z (AB _ _ a)<|E h Z U
def KY (b:(L_ ByteArray))(a:Int):O_ (Int⊕(Int⊕Unit)):=bif (a<(b.length:Int))then (idx b a).bind λc=>(Eg c).bind λd=>bif d then some (.inr (.inl a))else some (.inl (Qj (a+1)))else some (.inr (.inr ()))
def KZ (a:Int):O_ Int:=some a
def Wa : O_ Int:=some (-1)
def JY (a:(L_ ByteArray)):O_ Int:=(Qs (λst=>KY a st) 0).bind (Sum.elim (λq=>KZ q) (λq=>Wa))
def ID (g):CT 210 [.sl 1 (g.map Ki),.clo (.func 154) [] []] [] (JY g) V.I no_:=
 W 19 func210 Z λC e r h=>J e [9,.o (.ln g.length),4] Z Qc<|lq_ h (λst=>⟨[(0,.sl 1 (g.map Ki)),(1,.clo (.func 154) [] []),(7,.I (g.length:Int)),(8,.I st)],[]⟩) (λq=>(.ret,⟨[(4,.I q)],[]⟩)) (λq=>(.exit 0,⟨[],[]⟩)) Z (λm o h=>H e [6] Z<|I h (λf h=>B h λk i h=>B h λl j h=>g3_ e [.T,15,.o (.row (Ki k)),1,.o (.C1 (.b l)),2] Z f (QI i) (Tb _ _ j)<|I h (λa h=>J e [.T,9] Z a<|rR_ h Z) λa h=>J e [.F,7] Z a<|rN_ h Z) λf h=>J e [.F,2] Z f<|rX_ h Z) (λp h=>H e [2] Z<|E h Z U) (λ_ h=>H e [8] Z<|E h Z U)
def Jp (a:(L_ ByteArray)):O_ Bool:=(JY a).bind λb=>some (decide (0<=b))
def FG (c):CT 153 [.sl 1 (c.map Ki),.clo (.func 154) [] []] [] (Jp c) V.b no_:=
 W 9 func153 Z λC e r h=>B h λf a h=>J e [9,.cm (.fn) [] [] [] [.d,.d] [] (.I f),5] Z (ID _ _ a)<|E h Z U
def LT (a:QM):O_ Bool:=(GR a.Name).bind λb=>bif b then bif (a.Kind != 2)then some true else (Jp a.Names).bind λc=>some (!c)else some false
def LU (a:Bool):O_ Bool:=some a
def UM (a:QM):O_ Bool:=(LT a).bind (λb=>LU b)
def Zv (g):CT 151 [.L 617] [(617,.var (Qt g))] (UM g) V.b (λ_=>[(617,.var (Qt g))]):=
 W 16 func151 Z λC a r h=>H a [6] Z<|mV_ h (λi=>⟨[(1,.b i)],[(617,.var (Qt g))]⟩) (λi h=>B h λl j h=>J a [3,.o (.C1 (.b l)),1] Z (AB _ _ j)<|I h (λe h=>L a [.S 5 (.b true),4] Z e<|I h (λf h=>L a [.S 9 (.b true),8] Z f<|mq_ h Z) λf h=>B h λm k h=>G a [.S 9 (.b false),2,.cm (.fn) [] [] [] [.d,.d] [] (.b m),5] Z ⟨(tc_ f),(FG _ _ k)⟩<|mq_ h Z) λe h=>L a [.S 5 (.b false),12] Z e<|mq_ h Z) λi h=>H a [2] Z<|E h Z r1_
def Cu (b:Qn)(c:Int)(d:Int)(e:QM)(f:Int):O_ Int:=(UL b c).bind λg=>bif (!g)then some d else (UM e).bind λa=>bif (!a)then some f else some 0
def QbE (i j k l m):CT 98 [.own 617 2] [(617,.var [.clo (.func 155) [] [.L 618,.L 619],.I k,.clo (.func 151) [] [.L 620],.I m]),(618,.var (Qa i)),(619,.var (Qb j)),(620,.var (Qt l))] (Cu i j k l m) V.I (λ_=>[(617,.var [.clo (.func 155) [] [.L 618,.L 619],.I k,.clo (.func 151) [] [.L 620],.I m]),(618,.var (Qa i)),(619,.var (Qb j)),(620,.var (Qt l))]):=
 W 18 func98 Z λC c r h=>H c [14] Z<|AK.loopN 3<|AK.rnd<|B h λt p h=>g4_ c [2,.v .no [] (.b true),10,.o (.any (.L 617) none),3,.O 4 (.var [.clo (.func 155) [] [.L 618,.L 619],.I k]),6,.cm (.clo) [(617,618),(618,619)] [(618,617),(619,618)] [] [.d,.d] [(617,.var (Qa i)),(618,.var (Qb j))] (.b t),3] Z Z (λσ f q _=>Ql.idxV Z Z (QZ c.n Z) (f _ _ Z) (f _ _ Z) (QN.es Z) (q _ _ Z) (by decide)) Z (Zu _ _ _ p)<|I h (λe h=>J c [.T,13] Z e<|E h Z r4_) λe h=>K c [.F,4,.v .no [] (.I 1),2] Z e Z<|AK.met<|AK.rnd<|B h λs g h=>g4_ c [2,.v .no [] (.b true),10,.o (.any (.loc 617 0 2) none),1,.kill 4,2,.O 4 (.var [.clo (.func 151) [] [.L 620],.I m]),6,.cm (.clo) [(617,620)] [(620,617)] [] [.d] [(617,.var (Qt l))] (.b s),3] Z Z (λσ f q _=>Ql.idxV Z Z (QZ c.n Z) (f _ _ Z) (f _ _ Z) (QN.es Z) (q _ _ Z) (by decide)) Z (Zv _ _ g)<|I h (λa h=>J c [.T,13] Z a<|E h Z r4_) λa h=>K c [.F,4,.v .no [] (.I 2),2] Z a Z<|AK.met<|AK.rnd<|J c [2,.v .no [] (.b false),15] Z Z<|E h Z r4_
def Bt (a:Int)(b:QM)(c:Qn):O_ Int:=(Cu c a 8 b 8).bind λd=>some d
def QaZ (b c a):CT 150 [.I b,.agg (Qt c),.L 617] [(617,.var (Qa a))] (Bt b c a) V.I (λ_=>[(617,.var (Qa a))]):=
 W 16 func150 Z λC f r h=>B h λg e h=>g4_ f [22,.A [.clo (.func 155) [] [.L 617,.L 3],.I 8],1,.A [.clo (.func 151) [] [.L 4],.I 8],.o (.any (.own 14 2) (some (.var [.clo (.func 155) [] [.L 617,.L 3],.I 8,.clo (.func 151) [] [.L 4],.I 8]))),.cm (.fn) [(617,14),(618,617),(619,3),(620,4)] [(14,617),(617,618),(3,619),(4,620)] [] [.d] [(617,.var [.clo (.func 155) [] [.L 618,.L 619],.I 8,.clo (.func 151) [] [.L 620],.I 8]),(618,.var (Qa a)),(619,.var (Qb b)),(620,.var (Qt c))] (.I g),4] Z Z Z (λσ i j D=>Ql.buildAny Z Z (QZ f.n Z) (QN.es Z) PJ Z (by decide) (by decide) (Un i Z) Z Z (D Z)) (QbE _ _ _ _ _ _ e)<|E h Z r1_
def Ey (d:(L_ QM))(e:Qn)(a:Int):O_ (Int⊕((Int×Int)⊕Unit)):=bif (a<(d.length:Int))then (idx d a).bind λc=>(Bt a c e).bind λb=>bif (b != 0)then some (.inr (.inl (a,b)))else some (.inl (Qj (a+1)))else some (.inr (.inr ()))
def Ez (b:Int)(a:Int):O_ (Int×Int):=some (b,a)
def EA : O_ (Int×Int):=some (0,0)
def DY (a:(L_ QM))(b:Qn):O_ (Int×Int):=(Qs (λst=>Ey a b st) 0).bind (Sum.elim (λq=>Ez q.1 q.2) (λq=>EA))
def Rg (g f):CT 149 [.sl 7 (g.map Qt),.clo (.func 150) [] [.L 617]] [(617,.var (Qa f))] (DY g f) (λr=>(.tup [.I r.1,.I r.2])) (λ_=>[(617,.var (Qa f))]):=
 W 25 func149 Z λC e r h=>J e [10,.o (.ln g.length),4] Z Qc<|lq_ h (λst=>⟨[(1,.clo (.func 150) [] [.L 617]),(9,.sl 7 (g.map Qt)),(10,.I (g.length:Int)),(11,.I st)],[(617,.var (Qa f))]⟩) (λq=>(.ret,⟨[(4,.I q.1),(5,.I q.2)],[(617,.var (Qa f))]⟩)) (λq=>(.exit 0,⟨[],[(617,.var (Qa f))]⟩)) Z (λm o h=>H e [6] Z<|I h (λa h=>B h λc i h=>B h λk j h=>G e [.T,7,.o (.row (Qt c)),.A (Qt c),3,.O 7 (.var (Qt c)),6,.A (Qt c),.cm (.clo) [(617,617)] [(617,617)] [] [.d,.d,.d] [(617,.var (Qa f))] (.I k),9] Z (a6_ a (QI i) Z Z Z (QaZ _ _ _ _ j))<|I h (λb h=>J e [.T,11] Z b<|rR_ h Z) λb h=>J e [.F,7] Z b<|rN_ h Z) λa h=>J e [.F,2] Z a<|rX_ h Z) (λ⟨p,l⟩ h=>H e [2] Z<|F h Z Z r1_) (λ_ h=>H e [9] Z<|F h Z Z r1_)
def AC (a:Qn):O_ (Int×Int):=(DY a.Colours a).bind λb=>some (b.1,b.2)
def PO (a):CT 103 [.agg (Qa a)] [] (AC a) (λr=>(.tup [.I r.1,.I r.2])) no_:=
 W 10 func103 Z λC e r h=>B h λc b h=>J e [12,.cm (.fn) [(617,1)] [(1,617)] [] [.d,.d] [(617,.var (Qa a))] (.tup [.I c.1,.I c.2]),7] Z (Rg _ _ _ b)<|F h Z Z U
def FY (a:Xh):O_ Bool:=(GR a.Name).bind λb=>some b
def Qcu (a):CT 158 [.L 617] [(617,.var (QK a))] (FY a) V.b (λ_=>[(617,.var (QK a))]):=
 W 5 func158 Z λC f r h=>B h λg e h=>J f [9,.o (.C1 (.b g)),4] Z (AB _ _ e)<|E h Z r1_
def FZ (a:Xh)(b:Xh):O_ Bool:=some (JF a.Name b.Name)
def Qcv (c a):CT 157 [.agg (QK c),.L 617] [(617,.var (QK a))] (FZ c a) V.b (λ_=>[(617,.var (QK a))]):=
 W 9 func157 Z λC d r h=>H d [17] Z<|E h Z r1_
def JI (c:(L_ Xh))(d:Xh)(a:Int):O_ (Int⊕(Int⊕Unit)):=bif (a<(c.length:Int))then (idx c a).bind λe=>(FZ e d).bind λb=>bif b then some (.inr (.inl a))else some (.inl (Qj (a+1)))else some (.inr (.inr ()))
def JJ (a:Int):O_ Int:=some a
def JK : O_ Int:=some (-1)
def YS (a:(L_ Xh))(b:Xh):O_ Int:=(Qs (λst=>JI a b st) 0).bind (Sum.elim (λq=>JJ q) (λq=>JK))
def Cc (g e):CT 212 [.sl 3 (g.map QK),.clo (.func 157) [] [.L 617]] [(617,.var (QK e))] (YS g e) V.I (λ_=>[(617,.var (QK e))]):=
 W 19 func212 Z λC c r h=>J c [9,.o (.ln g.length),4] Z Qc<|lq_ h (λst=>⟨[(0,.sl 3 (g.map QK)),(1,.clo (.func 157) [] [.L 617]),(7,.I (g.length:Int)),(8,.I st)],[(617,.var (QK e))]⟩) (λq=>(.ret,⟨[(4,.I q)],[(617,.var (QK e))]⟩)) (λq=>(.exit 0,⟨[],[(617,.var (QK e))]⟩)) Z (λm o h=>H c [6] Z<|I h (λf h=>B h λl j h=>B h λk i h=>g4_ c [.T,15,.o (.row (QK l)),.A (QK l),.cm (.clo) [(617,617)] [(617,617)] [] [.d,.d] [(617,.var (QK e))] (.b k),2] Z f (QI j) Z (Qcv _ _ _ i)<|I h (λa h=>J c [.T,9] Z a<|rR_ h Z) λa h=>J c [.F,7] Z a<|rN_ h Z) λf h=>J c [.F,2] Z f<|rX_ h Z) (λp h=>H c [2] Z<|E h Z r1_) (λ_ h=>H c [8] Z<|E h Z r1_)
def YD (a:(L_ Xh))(b:Xh):O_ Bool:=(YS a b).bind λc=>some (decide (0<=c))
def Bc (e a):CT 160 [.sl 3 (e.map QK),.clo (.func 157) [] [.L 617]] [(617,.var (QK a))] (YD e a) V.b (λ_=>[(617,.var (QK a))]):=
 W 9 func160 Z λC f r h=>B h λg c h=>J f [9,.cm (.fn) [(617,617)] [(617,617)] [] [.d,.d] [(617,.var (QK a))] (.I g),5] Z (Cc _ _ _ c)<|E h Z r1_
def Ha (b:Qn)(a:Int)(c:Xh):O_ Bool:=(chk (decide (0<=a)&&decide (0<=a.toNat)&&decide (a.toNat<=b.Places.length))).bind λ_=>(YD ((b.Places.drop 0).take (a.toNat-0)) c).bind λd=>some (!d)
def Qcw (f g i):CT 159 [.L 617,.L 618,.L 619] [(617,.var (Qa f)),(618,.var (Qb g)),(619,.var [.clo (.func 157) [] [.L 620]]),(620,.var (QK i))] (Ha f g i) V.b (λ_=>[(617,.var (Qa f)),(618,.var (Qb g)),(619,.var [.clo (.func 157) [] [.L 620]]),(620,.var (QK i))]):=
 W 11 func159 Z λC e r h=>X h λc h=>B h λl k h=>H e [6,.K [0,1,2,3] [617,618,619,620]] Z <| 
  dr_ e [.N,.N,.N,.B (.any (.sl 3 (((f.Places.drop 0).take (g.toNat-0)).map QK)) none),.N,.B (.any (.b l) none),.N,.m .s] [] [] [3] [617,618,619,620] Z Z (a2_ (λσ j o _=>Ql.sliceD Z Z (QZ e.n Z) (j _ _ Z) (QN.es Z) UR.no (UR.val (j _ _ Z) (Xn (SH c)) Z) (Xn (SI c)) (Jn (Xn (ZI c)) (Nat.le_of_eq Qc.symm)) QaJ) (λσ j o _=>Ql.callSame (md:=.cm (.fn) [(617,620)] [(620,617)] [] [.d,.d] [(617,.var (QK i))] (.b l) [620]) QN e j o Z (a2_ (Bc _ _ _ k) r1_))) Z <|
  H e [2] Z<|E h Z r4_
def KL (b:(L_ QM))(a:Int):O_ Bool:=some ((0<=a)&&(a<(b.length:Int)))
def Cg (d c):CT 162 [.sl 7 (d.map Qt),.I c] [] (KL d c) V.b no_:=
 W 13 func162 Z λC e r h=>H e [6] Z<|Y ⟨[(4,.b ((0<=c)&&(c<(d.length:Int))))],[]⟩ (H e [4] Z<|bO_ (decide (0<=c)) (λa=>G e [.S 7 (.b true),2,.o (.ln d.length),4,.S 4 (.b ((0<=c)&&(c<(d.length:Int))))] Z ⟨⟨(tc_ a),Qc⟩,(cb_ (XL a Z))⟩<|M Z) λa=>G e [.S 7 (.b false),7,.S 4 (.b ((0<=c)&&(c<(d.length:Int))))] Z ⟨(tc_ a),(cb_ (Yp a Z))⟩<|M Z)<|H e [2] Z<|E h Z U
def Hb (a:Qn)(b:Xh):O_ Bool:=(KL a.Colours b.Colour).bind λc=>some c
def Qcx (a e):CT 161 [.L 617,.L 618] [(617,.var (Qa a)),(618,.var (QK e))] (Hb a e) V.b (λ_=>[(617,.var (Qa a)),(618,.var (QK e))]):=
 W 8 func161 Z λC g r h=>B h λi f h=>J g [11,.o (.C2 (.b i)),4] Z (Cg _ _ _ f)<|E h Z r2_
def Hc (a:Xh):O_ Bool:=(GE a.First).bind λb=>some b
def Qcy (a):CT 163 [.L 617] [(617,.var (QK a))] (Hc a) V.b (λ_=>[(617,.var (QK a))]):=
 W 5 func163 Z λC f r h=>B h λg e h=>J f [9,.o (.C1 (.b g)),4] Z (Iq _ _ e)<|E h Z r1_
def Bu (a:(Int×Int))(b:Int):O_ Bool:=some (decide (b<=a.1))
def Qa0 (a c):CT 166 [.agg (Qo a),.L 617] [(617,.var (Qb c))] (Bu a c) V.b (λ_=>[(617,.var (Qb c))]):=
 W 8 func166 Z λC d r h=>H d [16] Z<|E h Z r1_
def Wb (c:QBg)(d:Int)(a:Int):O_ (Int⊕(Int⊕Unit)):=bif (a<(c.length:Int))then (idx c a).bind λe=>(Bu e d).bind λb=>bif b then some (.inr (.inl a))else some (.inl (Qj (a+1)))else some (.inr (.inr ()))
def Wc (a:Int):O_ Int:=some a
def Wd : O_ Int:=some (-1)
def JZ (a:QBg)(b:Int):O_ Int:=(Qs (λst=>Wb a b st) 0).bind (Sum.elim (λq=>Wc q) (λq=>Wd))
def IE (g e):CT 213 [.sl 2 (g.map Qo),.clo (.func 166) [] [.L 617]] [(617,.var (Qb e))] (JZ g e) V.I (λ_=>[(617,.var (Qb e))]):=
 W 19 func213 Z λC c r h=>J c [9,.o (.ln g.length),4] Z Qc<|lq_ h (λst=>⟨[(0,.sl 2 (g.map Qo)),(1,.clo (.func 166) [] [.L 617]),(7,.I (g.length:Int)),(8,.I st)],[(617,.var (Qb e))]⟩) (λq=>(.ret,⟨[(4,.I q)],[(617,.var (Qb e))]⟩)) (λq=>(.exit 0,⟨[],[(617,.var (Qb e))]⟩)) Z (λm o h=>H c [6] Z<|I h (λf h=>B h λl j h=>B h λk i h=>g4_ c [.T,15,.o (.row (Qo l)),.A (Qo l),.cm (.clo) [(617,617)] [(617,617)] [] [.d,.d] [(617,.var (Qb e))] (.b k),2] Z f (QI j) Z (Qa0 _ _ _ i)<|I h (λa h=>J c [.T,9] Z a<|rR_ h Z) λa h=>J c [.F,7] Z a<|rN_ h Z) λf h=>J c [.F,2] Z f<|rX_ h Z) (λp h=>H c [2] Z<|E h Z r1_) (λ_ h=>H c [8] Z<|E h Z r1_)
def Jq (a:QBg)(b:Int):O_ Bool:=(JZ a b).bind λc=>some (decide (0<=c))
def FH (e a):CT 165 [.sl 2 (e.map Qo),.clo (.func 166) [] [.L 617]] [(617,.var (Qb a))] (Jq e a) V.b (λ_=>[(617,.var (Qb a))]):=
 W 9 func165 Z λC f r h=>B h λg c h=>J f [9,.cm (.fn) [(617,617)] [(617,617)] [] [.d,.d] [(617,.var (Qb a))] (.I g),5] Z (IE _ _ _ c)<|E h Z r1_
def Hd (b:Qn)(a:Xh):O_ Bool:=(Yl b.Colours a.Colour).bind λc=>(Jq a.First c).bind λd=>some (!d)
def Qcz (a e):CT 164 [.L 617,.L 618] [(617,.var (Qa a)),(618,.var (QK e))] (Hd a e) V.b (λ_=>[(617,.var (Qa a)),(618,.var (QK e))]):=
 W 14 func164 Z λC j r h=>B h λf g h=>B h λk i h=>g3_ j [11,.o (.C2 (.I f)),2,.O 3 (.var (Qb f)),7,.cm (.fn) [(617,3)] [(3,617)] [] [.d,.d] [(617,.var (Qb f))] (.b k),5] Z (Cs _ _ _ g) Z (FH _ _ _ i)<|E h Z r2_
def Cv (a:Xh)(h:Int)(b:Qn)(i:Int)(j:Int)(k:Int)(l:Int)(m:Int):O_ Int:=(FY a).bind λc=>bif (!c)then some h else (Ha b i a).bind λd=>bif (!d)then some j else (Hb b a).bind λe=>bif (!e)then some k else (Hc a).bind λf=>bif (!f)then some l else (Hd b a).bind λg=>bif (!g)then some m else some 0
def QbF (l w m x y z D N):CT 98 [.own 617 5] [(617,.var [.clo (.func 158) [] [.L 618],.I w,.clo (.func 159) [] [.L 619,.L 620,.L 621],.I y,.clo (.func 161) [] [.L 619,.L 618],.I z,.clo (.func 163) [] [.L 618],.I D,.clo (.func 164) [] [.L 619,.L 618],.I N]),(618,.var (QK l)),(619,.var (Qa m)),(620,.var (Qb x)),(621,.var [.clo (.func 157) [] [.L 618]])] (Cv l w m x y z D N) V.I (λ_=>[(617,.var [.clo (.func 158) [] [.L 618],.I w,.clo (.func 159) [] [.L 619,.L 620,.L 621],.I y,.clo (.func 161) [] [.L 619,.L 618],.I z,.clo (.func 163) [] [.L 618],.I D,.clo (.func 164) [] [.L 619,.L 618],.I N]),(618,.var (QK l)),(619,.var (Qa m)),(620,.var (Qb x)),(621,.var [.clo (.func 157) [] [.L 618]])]):=
 W 18 func98 Z λC a r h=>H a [14] Z<|AK.loopN 6<|AK.rnd<|B h λP p h=>g4_ a [2,.v .no [] (.b true),10,.o (.any (.L 617) none),3,.O 4 (.var [.clo (.func 158) [] [.L 618],.I w]),6,.cm (.clo) [(617,618)] [(618,617)] [] [.d] [(617,.var (QK l))] (.b P),3] Z Z (λσ c k _=>Ql.idxV Z Z (QZ a.n Z) (c _ _ Z) (c _ _ Z) (QN.es Z) (k _ _ Z) (by decide)) Z (Qcu _ _ p)<|I h (λe h=>J a [.T,13] Z e<|E h Z r5_) λe h=>K a [.F,4,.v .no [] (.I 1),2] Z e Z<|AK.met<|AK.rnd<|B h λS q h=>g4_ a [2,.v .no [] (.b true),10,.o (.any (.loc 617 0 2) none),1,.kill 4,2,.O 4 (.var [.clo (.func 159) [] [.L 619,.L 620,.L 621],.I y]),6,.cm (.clo) [(617,619),(618,620),(619,621),(620,618)] [(619,617),(620,618),(621,619),(618,620)] [] [.d,.d,.d] [(617,.var (Qa m)),(618,.var (Qb x)),(619,.var [.clo (.func 157) [] [.L 620]]),(620,.var (QK l))] (.b S),3] Z Z (λσ c k _=>Ql.idxV Z Z (QZ a.n Z) (c _ _ Z) (c _ _ Z) (QN.es Z) (k _ _ Z) (by decide)) Z (Qcw _ _ _ _ q)<|I h (λf h=>J a [.T,13] Z f<|E h Z r5_) λf h=>K a [.F,4,.v .no [] (.I 2),2] Z f Z<|AK.met<|AK.rnd<|B h λa0 s h=>g4_ a [2,.v .no [] (.b true),10,.o (.any (.loc 617 0 4) none),1,.kill 4,2,.O 4 (.var [.clo (.func 161) [] [.L 619,.L 618],.I z]),6,.cm (.clo) [(617,619),(618,618)] [(619,617),(618,618)] [] [.d,.d] [(617,.var (Qa m)),(618,.var (QK l))] (.b a0),3] Z Z (λσ c k _=>Ql.idxV Z Z (QZ a.n Z) (c _ _ Z) (c _ _ Z) (QN.es Z) (k _ _ Z) (by decide)) Z (Qcx _ _ _ s)<|I h (λg h=>J a [.T,13] Z g<|E h Z r5_) λg h=>K a [.F,4,.v .no [] (.I 3),2] Z g Z<|AK.met<|AK.rnd<|B h λa1 t h=>g4_ a [2,.v .no [] (.b true),10,.o (.any (.loc 617 0 6) none),1,.kill 4,2,.O 4 (.var [.clo (.func 163) [] [.L 618],.I D]),6,.cm (.clo) [(617,618)] [(618,617)] [] [.d] [(617,.var (QK l))] (.b a1),3] Z Z (λσ c k _=>Ql.idxV Z Z (QZ a.n Z) (c _ _ Z) (c _ _ Z) (QN.es Z) (k _ _ Z) (by decide)) Z (Qcy _ _ t)<|I h (λi h=>J a [.T,13] Z i<|E h Z r5_) λi h=>K a [.F,4,.v .no [] (.I 4),2] Z i Z<|AK.met<|AK.rnd<|B h λa2 u h=>g4_ a [2,.v .no [] (.b true),10,.o (.any (.loc 617 0 8) none),1,.kill 4,2,.O 4 (.var [.clo (.func 164) [] [.L 619,.L 618],.I N]),6,.cm (.clo) [(617,619),(618,618)] [(619,617),(618,618)] [] [.d,.d] [(617,.var (Qa m)),(618,.var (QK l))] (.b a2),3] Z Z (λσ c k _=>Ql.idxV Z Z (QZ a.n Z) (c _ _ Z) (c _ _ Z) (QN.es Z) (k _ _ Z) (by decide)) Z (Qcz _ _ _ u)<|I h (λj h=>J a [.T,13] Z j<|E h Z r5_) λj h=>K a [.F,4,.v .no [] (.I 5),2] Z j Z<|AK.met<|AK.rnd<|J a [2,.v .no [] (.b false),15] Z Z<|E h Z r5_
def Ml (a:Qn)(b:Int):O_ Int:=(YB a.Places b).bind λc=>bif (!c)then some 3 else (idx a.Places b).bind λd=>(Cv d 1 a b 5 3 1 8).bind λe=>some e
def Qe6 (g i):CT 106 [.agg (Qa g),.I i] [] (Ml g i) V.I no_:=
 W 30 func106 Z λC e r h=>B h λm j h=>J e [13,.o (.C2 (.b m)),3] Z (Kc _ _ _ j)<|I h (λa h=>J e [.T,7] Z a<|E h Z U) λa h=>B h λf k h=>B h λp l h=>G e [.F,7,.o (.row (QK f)),.A (QK f),2,.O 5 (.var (QK f)),7,.O 6 (.var [.clo (.func 157) [] [.L 5]]),5,.A [.clo (.func 158) [] [.L 5],.I 1],1,.A [.clo (.func 159) [] [.L 2,.L 3,.L 6],.I 5],1,.A [.clo (.func 161) [] [.L 2,.L 5],.I 3],1,.A [.clo (.func 163) [] [.L 5],.I 1],1,.A [.clo (.func 164) [] [.L 2,.L 5],.I 8],.o (.any (.own 28 5) (some (.var [.clo (.func 158) [] [.L 5],.I 1,.clo (.func 159) [] [.L 2,.L 3,.L 6],.I 5,.clo (.func 161) [] [.L 2,.L 5],.I 3,.clo (.func 163) [] [.L 5],.I 1,.clo (.func 164) [] [.L 2,.L 5],.I 8]))),.cm (.fn) [(617,28),(618,5),(619,2),(620,3),(621,6)] [(28,617),(5,618),(2,619),(3,620),(6,621)] [] [.d] [(617,.var [.clo (.func 158) [] [.L 618],.I 1,.clo (.func 159) [] [.L 619,.L 620,.L 621],.I 5,.clo (.func 161) [] [.L 619,.L 618],.I 3,.clo (.func 163) [] [.L 618],.I 1,.clo (.func 164) [] [.L 619,.L 618],.I 8]),(618,.var (QK f)),(619,.var (Qa g)),(620,.var (Qb i)),(621,.var [.clo (.func 157) [] [.L 618]])] (.I p),4] Z (aC_ a (QI k) Z Z Z Z Z Z Z Z (λσ q s D=>Ql.buildAny Z Z (QZ e.n Z) (QN.es Z) PJ Z (by decide) (by decide) (Un q Z) Z Z (D Z)) (QbF _ _ _ _ _ _ _ _ _ l))<|E h Z U
def Mm (a:Int)(d:Xh)(b:Qn):O_ Int:=(Ml b a).bind λc=>some c
def Qe7 (e f a):CT 105 [.I e,.agg (QK f),.L 617] [(617,.var (Qa a))] (Mm e f a) V.I (λ_=>[(617,.var (Qa a))]):=
 W 9 func105 Z λC g r h=>B h λi b h=>K g [8,.A (Qa a),1,.o (.C2 (.I i)),4] Z Z (Qe6 _ _ _ b)<|E h Z r1_
def EV (d:(L_ Xh))(e:Qn)(a:Int):O_ (Int⊕((Int×Int)⊕Unit)):=bif (a<(d.length:Int))then (idx d a).bind λc=>(Mm a c e).bind λb=>bif (b != 0)then some (.inr (.inl (a,b)))else some (.inl (Qj (a+1)))else some (.inr (.inr ()))
def EW (b:Int)(a:Int):O_ (Int×Int):=some (b,a)
def EX : O_ (Int×Int):=some (0,0)
def GG (a:(L_ Xh))(b:Qn):O_ (Int×Int):=(Qs (λst=>EV a b st) 0).bind (Sum.elim (λq=>EW q.1 q.2) (λq=>EX))
def Sd (g f):CT 104 [.sl 3 (g.map QK),.clo (.func 105) [] [.L 617]] [(617,.var (Qa f))] (GG g f) (λr=>(.tup [.I r.1,.I r.2])) (λ_=>[(617,.var (Qa f))]):=
 W 25 func104 Z λC e r h=>J e [10,.o (.ln g.length),4] Z Qc<|lq_ h (λst=>⟨[(1,.clo (.func 105) [] [.L 617]),(9,.sl 3 (g.map QK)),(10,.I (g.length:Int)),(11,.I st)],[(617,.var (Qa f))]⟩) (λq=>(.ret,⟨[(4,.I q.1),(5,.I q.2)],[(617,.var (Qa f))]⟩)) (λq=>(.exit 0,⟨[],[(617,.var (Qa f))]⟩)) Z (λm o h=>H e [6] Z<|I h (λa h=>B h λc i h=>B h λk j h=>G e [.T,7,.o (.row (QK c)),.A (QK c),3,.O 7 (.var (QK c)),6,.A (QK c),.cm (.clo) [(617,617)] [(617,617)] [] [.d,.d,.d] [(617,.var (Qa f))] (.I k),9] Z (a6_ a (QI i) Z Z Z (Qe7 _ _ _ _ j))<|I h (λb h=>J e [.T,11] Z b<|rR_ h Z) λb h=>J e [.F,7] Z b<|rN_ h Z) λa h=>J e [.F,2] Z a<|rX_ h Z) (λ⟨p,l⟩ h=>H e [2] Z<|F h Z Z r1_) (λ_ h=>H e [9] Z<|F h Z Z r1_)
def Jl (b:(L_ QL))(a:Int):O_ Bool:=some ((0<=a)&&(a<(b.length:Int)))
def He (d c):CT 111 [.sl 14 (d.map Qk),.I c] [] (Jl d c) V.b no_:=
 W 13 func111 Z λC e r h=>H e [6] Z<|Y ⟨[(4,.b ((0<=c)&&(c<(d.length:Int))))],[]⟩ (H e [4] Z<|bO_ (decide (0<=c)) (λa=>G e [.S 7 (.b true),2,.o (.ln d.length),4,.S 4 (.b ((0<=c)&&(c<(d.length:Int))))] Z ⟨⟨(tc_ a),Qc⟩,(cb_ (XL a Z))⟩<|M Z) λa=>G e [.S 7 (.b false),7,.S 4 (.b ((0<=c)&&(c<(d.length:Int))))] Z ⟨(tc_ a),(cb_ (Yp a Z))⟩<|M Z)<|H e [2] Z<|E h Z U
def Mn (a:Int)(b:Qn)(c:QL):O_ Unit:=some ()
def Qe8 (a b c):CT 172 [.L 617,.clo (.func 173) [] [.L 618,.L 619]] [(617,.var (Qb a)),(618,.var (Qa b)),(619,.var (Qk c))] (Mn a b c) (λ_=>(.clo (.func 215) [] [.L 3,.L 2])) (λ_=>[(2,.var [.L 617]),(3,.var [.clo (.func 173) [] [.L 618,.L 619]]),(617,.var (Qb a)),(618,.var (Qa b)),(619,.var (Qk c))]):=
 W 6 func172 Z λC d r h=>H d [14] Z<|E h Z r5_
def Cw (a:Int)(b:Qn)(c:QL)(d:Int):O_ Unit:=some ()
def QbG (a b c d):CT 172 [.L 617,.clo (.func 177) [] [.L 618,.L 619,.L 620]] [(617,.var (Qb a)),(618,.var (Qa b)),(619,.var (Qk c)),(620,.var (Qb d))] (Cw a b c d) (λ_=>(.clo (.func 215) [] [.L 3,.L 2])) (λ_=>[(2,.var [.L 617]),(3,.var [.clo (.func 177) [] [.L 618,.L 619,.L 620]]),(617,.var (Qb a)),(618,.var (Qa b)),(619,.var (Qk c)),(620,.var (Qb d))]):=
 W 6 func172 Z λC e r h=>H e [14] Z<|E h Z r6_
def Cx (a:Int)(b:Qn)(c:QL)(d:Int):O_ Unit:=some ()
def QbH (a b c d):CT 172 [.L 617,.clo (.func 179) [] [.L 618,.L 619,.L 620]] [(617,.var (Qb a)),(618,.var (Qa b)),(619,.var (Qk c)),(620,.var (Qb d))] (Cx a b c d) (λ_=>(.clo (.func 215) [] [.L 3,.L 2])) (λ_=>[(2,.var [.L 617]),(3,.var [.clo (.func 179) [] [.L 618,.L 619,.L 620]]),(617,.var (Qb a)),(618,.var (Qa b)),(619,.var (Qk c)),(620,.var (Qb d))]):=
 W 6 func172 Z λC e r h=>H e [14] Z<|E h Z r6_
def Cy (a:Int)(b:Qn)(c:QL):O_ Unit:=some ()
def QbI (a b c):CT 172 [.L 617,.clo (.func 180) [] [.L 618,.L 619]] [(617,.var (Qb a)),(618,.var (Qa b)),(619,.var (Qk c))] (Cy a b c) (λ_=>(.clo (.func 215) [] [.L 3,.L 2])) (λ_=>[(2,.var [.L 617]),(3,.var [.clo (.func 180) [] [.L 618,.L 619]]),(617,.var (Qb a)),(618,.var (Qa b)),(619,.var (Qk c))]):=
 W 6 func172 Z λC d r h=>H d [14] Z<|E h Z r5_
def IF (a:QL):O_ Bool:=(GR a.Name).bind λb=>some b
def QdK (a):CT 168 [.L 617] [(617,.var (Qk a))] (IF a) V.b (λ_=>[(617,.var (Qk a))]):=
 W 5 func168 Z λC f r h=>B h λg e h=>J f [9,.o (.C1 (.b g)),4] Z (AB _ _ e)<|E h Z r1_
def IG (a:QL)(b:QL):O_ Bool:=some (JF a.Name b.Name)
def QdL (c a):CT 167 [.agg (Qk c),.L 617] [(617,.var (Qk a))] (IG c a) V.b (λ_=>[(617,.var (Qk a))]):=
 W 9 func167 Z λC d r h=>H d [17] Z<|E h Z r1_
def Kd (c:(L_ QL))(d:QL)(a:Int):O_ (Int⊕(Int⊕Unit)):=bif (a<(c.length:Int))then (idx c a).bind λe=>(IG e d).bind λb=>bif b then some (.inr (.inl a))else some (.inl (Qj (a+1)))else some (.inr (.inr ()))
def Ke (a:Int):O_ Int:=some a
def Kf : O_ Int:=some (-1)
def Ji (a:(L_ QL))(b:QL):O_ Int:=(Qs (λst=>Kd a b st) 0).bind (Sum.elim (λq=>Ke q) (λq=>Kf))
def Fg (g e):CT 214 [.sl 14 (g.map Qk),.clo (.func 167) [] [.L 617]] [(617,.var (Qk e))] (Ji g e) V.I (λ_=>[(617,.var (Qk e))]):=
 W 19 func214 Z λC c r h=>J c [9,.o (.ln g.length),4] Z Qc<|lq_ h (λst=>⟨[(0,.sl 14 (g.map Qk)),(1,.clo (.func 167) [] [.L 617]),(7,.I (g.length:Int)),(8,.I st)],[(617,.var (Qk e))]⟩) (λq=>(.ret,⟨[(4,.I q)],[(617,.var (Qk e))]⟩)) (λq=>(.exit 0,⟨[],[(617,.var (Qk e))]⟩)) Z (λm o h=>H c [6] Z<|I h (λf h=>B h λl j h=>B h λk i h=>g4_ c [.T,15,.o (.row (Qk l)),.A (Qk l),.cm (.clo) [(617,617)] [(617,617)] [] [.d,.d] [(617,.var (Qk e))] (.b k),2] Z f (QI j) Z (QdL _ _ _ i)<|I h (λa h=>J c [.T,9] Z a<|rR_ h Z) λa h=>J c [.F,7] Z a<|rN_ h Z) λf h=>J c [.F,2] Z f<|rX_ h Z) (λp h=>H c [2] Z<|E h Z r1_) (λ_ h=>H c [8] Z<|E h Z r1_)
def YO (a:(L_ QL))(b:QL):O_ Bool:=(Ji a b).bind λc=>some (decide (0<=c))
def BP (e a):CT 170 [.sl 14 (e.map Qk),.clo (.func 167) [] [.L 617]] [(617,.var (Qk a))] (YO e a) V.b (λ_=>[(617,.var (Qk a))]):=
 W 9 func170 Z λC f r h=>B h λg c h=>J f [9,.cm (.fn) [(617,617)] [(617,617)] [] [.d,.d] [(617,.var (Qk a))] (.I g),5] Z (Fg _ _ _ c)<|E h Z r1_
def IH (b:Qn)(a:Int)(c:QL):O_ Bool:=(chk (decide (0<=a)&&decide (0<=a.toNat)&&decide (a.toNat<=b.Tasks.length))).bind λ_=>(YO ((b.Tasks.drop 0).take (a.toNat-0)) c).bind λd=>some (!d)
def QdM (f g i):CT 169 [.L 617,.L 618,.L 619] [(617,.var (Qa f)),(618,.var (Qb g)),(619,.var [.clo (.func 167) [] [.L 620]]),(620,.var (Qk i))] (IH f g i) V.b (λ_=>[(617,.var (Qa f)),(618,.var (Qb g)),(619,.var [.clo (.func 167) [] [.L 620]]),(620,.var (Qk i))]):=
 W 11 func169 Z λC e r h=>X h λc h=>B h λl k h=>H e [6,.K [0,1,2,3] [617,618,619,620]] Z <| 
  dr_ e [.N,.N,.N,.B (.any (.sl 14 (((f.Tasks.drop 0).take (g.toNat-0)).map Qk)) none),.N,.B (.any (.b l) none),.N,.m .s] [] [] [3] [617,618,619,620] Z Z (a2_ (λσ j o _=>Ql.sliceD Z Z (QZ e.n Z) (j _ _ Z) (QN.es Z) UR.no (UR.val (j _ _ Z) (Xn (SH c)) Z) (Xn (SI c)) (Jn (Xn (ZI c)) (Nat.le_of_eq Qc.symm)) QaJ) (λσ j o _=>Ql.callSame (md:=.cm (.fn) [(617,620)] [(620,617)] [] [.d,.d] [(617,.var (Qk i))] (.b l) [620]) QN e j o Z (a2_ (BP _ _ _ k) r1_))) Z <|
  H e [2] Z<|E h Z r4_
def BQ (b:Int)(a:QL):O_ Bool:=some ((b<=16)&&((max2 (max2 (a.Ins.length:Int) (a.Outs.length:Int)) (a.Cancel.length:Int))<=16))
def QdN (d a):CT 171 [.L 617,.L 618] [(617,.var (Qb d)),(618,.var (Qk a))] (BQ d a) V.b (λ_=>[(617,.var (Qb d)),(618,.var (Qk a))]):=
 W 18 func171 Z λC e r h=>H e [6] Z<|Y ⟨[(2,.b ((d<=16)&&((max2 (max2 (a.Ins.length:Int) (a.Outs.length:Int)) (a.Cancel.length:Int))<=16)))],[(617,.var (Qb d)),(618,.var (Qk a))]⟩ (H e [4] Z<|bO_ (decide (d<=16)) (λc=>G e [.S 5 (.b true),2,.o (.ln a.Ins.length),2,.o (.ln a.Outs.length),2,.o (.ln a.Cancel.length),.o (.any (.I (max2 (max2 (a.Ins.length:Int) (a.Outs.length:Int)) (a.Cancel.length:Int))) none),4,.S 2 (.b ((d<=16)&&((max2 (max2 (a.Ins.length:Int) (a.Outs.length:Int)) (a.Cancel.length:Int))<=16)))] Z ⟨⟨⟨⟨⟨(tc_ c),Qc⟩,Qc⟩,Qc⟩,(λσ f g _=>Ql.max3 Z Z (QZ e.n Z) (f _ _ Z) (f _ _ Z) (f _ _ Z))⟩,(cb_ (XL c Z))⟩<|M Z) λc=>G e [.S 5 (.b false),14,.S 2 (.b ((d<=16)&&((max2 (max2 (a.Ins.length:Int) (a.Outs.length:Int)) (a.Cancel.length:Int))<=16)))] Z ⟨(tc_ c),(cb_ (Yp c Z))⟩<|M Z)<|H e [2] Z<|E h Z r2_
def Eh (a:Yd):O_ Bool:=(GR a.Name).bind λb=>some b
def Tc (a):CT 219 [.L 617] [(617,.var (QY a))] (Eh a) V.b (λ_=>[(617,.var (QY a))]):=
 W 5 func219 Z λC f r h=>B h λg e h=>J f [9,.o (.C1 (.b g)),4] Z (AB _ _ e)<|E h Z r1_
def Ei (a:Yd)(b:Yd):O_ Bool:=some (JF a.Name b.Name)
def Td (c a):CT 218 [.agg (QY c),.L 617] [(617,.var (QY a))] (Ei c a) V.b (λ_=>[(617,.var (QY a))]):=
 W 9 func218 Z λC d r h=>H d [17] Z<|E h Z r1_
def Kx (c:(L_ Yd))(d:Yd)(a:Int):O_ (Int⊕(Int⊕Unit)):=bif (a<(c.length:Int))then (idx c a).bind λe=>(Ei e d).bind λb=>bif b then some (.inr (.inl a))else some (.inl (Qj (a+1)))else some (.inr (.inr ()))
def Ky (a:Int):O_ Int:=some a
def Kz : O_ Int:=some (-1)
def Jz (a:(L_ Yd))(b:Yd):O_ Int:=(Qs (λst=>Kx a b st) 0).bind (Sum.elim (λq=>Ky q) (λq=>Kz))
def Hx (g e):CT 255 [.sl 2 (g.map QY),.clo (.func 218) [] [.L 617]] [(617,.var (QY e))] (Jz g e) V.I (λ_=>[(617,.var (QY e))]):=
 W 19 func255 Z λC c r h=>J c [9,.o (.ln g.length),4] Z Qc<|lq_ h (λst=>⟨[(0,.sl 2 (g.map QY)),(1,.clo (.func 218) [] [.L 617]),(7,.I (g.length:Int)),(8,.I st)],[(617,.var (QY e))]⟩) (λq=>(.ret,⟨[(4,.I q)],[(617,.var (QY e))]⟩)) (λq=>(.exit 0,⟨[],[(617,.var (QY e))]⟩)) Z (λm o h=>H c [6] Z<|I h (λf h=>B h λl j h=>B h λk i h=>g4_ c [.T,15,.o (.row (QY l)),.A (QY l),.cm (.clo) [(617,617)] [(617,617)] [] [.d,.d] [(617,.var (QY e))] (.b k),2] Z f (QI j) Z (Td _ _ _ i)<|I h (λa h=>J c [.T,9] Z a<|rR_ h Z) λa h=>J c [.F,7] Z a<|rN_ h Z) λf h=>J c [.F,2] Z f<|rX_ h Z) (λp h=>H c [2] Z<|E h Z r1_) (λ_ h=>H c [8] Z<|E h Z r1_)
def YV (a:(L_ Yd))(b:Yd):O_ Bool:=(Jz a b).bind λc=>some (decide (0<=c))
def Cz (e a):CT 221 [.sl 2 (e.map QY),.clo (.func 218) [] [.L 617]] [(617,.var (QY a))] (YV e a) V.b (λ_=>[(617,.var (QY a))]):=
 W 9 func221 Z λC f r h=>B h λg c h=>J f [9,.cm (.fn) [(617,617)] [(617,617)] [] [.d,.d] [(617,.var (QY a))] (.I g),5] Z (Hx _ _ _ c)<|E h Z r1_
def Ej (b:(L_ Yd))(a:Int)(c:Yd):O_ Bool:=(chk (decide (0<=a)&&decide (0<=a.toNat)&&decide (a.toNat<=b.length))).bind λ_=>(YV ((b.drop 0).take (a.toNat-0)) c).bind λd=>some (!d)
def Te (f g i):CT 220 [.L 617,.L 618,.L 619] [(617,.var (Km f)),(618,.var (Qb g)),(619,.var [.clo (.func 218) [] [.L 620]]),(620,.var (QY i))] (Ej f g i) V.b (λ_=>[(617,.var (Km f)),(618,.var (Qb g)),(619,.var [.clo (.func 218) [] [.L 620]]),(620,.var (QY i))]):=
 W 10 func220 Z λC e r h=>X h λc h=>B h λl k h=>H e [6,.K [0,1,2,3] [617,618,619,620]] Z <| 
  dr_ e [.N,.N,.B (.any (.sl 2 (((f.drop 0).take (g.toNat-0)).map QY)) none),.N,.B (.any (.b l) none),.N,.m .s] [] [] [3] [617,618,619,620] Z Z (a2_ (λσ j o _=>Ql.sliceD Z Z (QZ e.n Z) (j _ _ Z) (QN.es Z) UR.no (UR.val (j _ _ Z) (Xn (SH c)) Z) (Xn (SI c)) (Jn (Xn (ZI c)) (Nat.le_of_eq Qc.symm)) QaJ) (λσ j o _=>Ql.callSame (md:=.cm (.fn) [(617,620)] [(620,617)] [] [.d,.d] [(617,.var (QY i))] (.b l) [620]) QN e j o Z (a2_ (Cz _ _ _ k) r1_))) Z <|
  H e [2] Z<|E h Z r4_
def Ek (a:Qn)(b:Yd):O_ Bool:=(KL a.Colours b.Colour).bind λc=>some c
def Tf (a e):CT 222 [.L 617,.L 618] [(617,.var (Qa a)),(618,.var (QY e))] (Ek a e) V.b (λ_=>[(617,.var (Qa a)),(618,.var (QY e))]):=
 W 8 func222 Z λC g r h=>B h λi f h=>J g [11,.o (.C2 (.b i)),4] Z (Cg _ _ _ f)<|E h Z r2_
def CA (a:Yd)(e:Int)(f:(L_ Yd))(g:Int)(h:Int)(i:Qn)(j:Int):O_ Int:=(Eh a).bind λb=>bif (!b)then some e else (Ej f g a).bind λc=>bif (!c)then some h else (Ek i a).bind λd=>bif (!d)then some j else some 0
def QbJ (i p q s t u w):CT 98 [.own 617 3] [(617,.var [.clo (.func 219) [] [.L 618],.I p,.clo (.func 220) [] [.L 619,.L 620,.L 621],.I t,.clo (.func 222) [] [.L 622,.L 618],.I w]),(618,.var (QY i)),(619,.var (Km q)),(620,.var (Qb s)),(621,.var [.clo (.func 218) [] [.L 618]]),(622,.var (Qa u))] (CA i p q s t u w) V.I (λ_=>[(617,.var [.clo (.func 219) [] [.L 618],.I p,.clo (.func 220) [] [.L 619,.L 620,.L 621],.I t,.clo (.func 222) [] [.L 622,.L 618],.I w]),(618,.var (QY i)),(619,.var (Km q)),(620,.var (Qb s)),(621,.var [.clo (.func 218) [] [.L 618]]),(622,.var (Qa u))]):=
 W 18 func98 Z λC a r h=>H a [14] Z<|AK.loopN 4<|AK.rnd<|B h λx j h=>g4_ a [2,.v .no [] (.b true),10,.o (.any (.L 617) none),3,.O 4 (.var [.clo (.func 219) [] [.L 618],.I p]),6,.cm (.clo) [(617,618)] [(618,617)] [] [.d] [(617,.var (QY i))] (.b x),3] Z Z (λσ g k _=>Ql.idxV Z Z (QZ a.n Z) (g _ _ Z) (g _ _ Z) (QN.es Z) (k _ _ Z) (by decide)) Z (Tc _ _ j)<|I h (λc h=>J a [.T,13] Z c<|E h Z r6_) λc h=>K a [.F,4,.v .no [] (.I 1),2] Z c Z<|AK.met<|AK.rnd<|B h λy l h=>g4_ a [2,.v .no [] (.b true),10,.o (.any (.loc 617 0 2) none),1,.kill 4,2,.O 4 (.var [.clo (.func 220) [] [.L 619,.L 620,.L 621],.I t]),6,.cm (.clo) [(617,619),(618,620),(619,621),(620,618)] [(619,617),(620,618),(621,619),(618,620)] [] [.d,.d,.d] [(617,.var (Km q)),(618,.var (Qb s)),(619,.var [.clo (.func 218) [] [.L 620]]),(620,.var (QY i))] (.b y),3] Z Z (λσ g k _=>Ql.idxV Z Z (QZ a.n Z) (g _ _ Z) (g _ _ Z) (QN.es Z) (k _ _ Z) (by decide)) Z (Te _ _ _ _ l)<|I h (λe h=>J a [.T,13] Z e<|E h Z r6_) λe h=>K a [.F,4,.v .no [] (.I 2),2] Z e Z<|AK.met<|AK.rnd<|B h λz m h=>g4_ a [2,.v .no [] (.b true),10,.o (.any (.loc 617 0 4) none),1,.kill 4,2,.O 4 (.var [.clo (.func 222) [] [.L 622,.L 618],.I w]),6,.cm (.clo) [(617,622),(618,618)] [(622,617),(618,618)] [] [.d,.d] [(617,.var (Qa u)),(618,.var (QY i))] (.b z),3] Z Z (λσ g k _=>Ql.idxV Z Z (QZ a.n Z) (g _ _ Z) (g _ _ Z) (QN.es Z) (k _ _ Z) (by decide)) Z (Tf _ _ _ m)<|I h (λf h=>J a [.T,13] Z f<|E h Z r6_) λf h=>K a [.F,4,.v .no [] (.I 3),2] Z f Z<|AK.met<|AK.rnd<|J a [2,.v .no [] (.b false),15] Z Z<|E h Z r6_
def UN (a:Int)(b:Yd)(c:(L_ Yd))(d:Qn):O_ Int:=(CA b 1 c a 5 d 3).bind λe=>some e
def Zw (c e a b):CT 217 [.I c,.agg (QY e),.L 617,.L 618] [(617,.var (Km a)),(618,.var (Qa b))] (UN c e a b) V.I (λ_=>[(617,.var (Km a)),(618,.var (Qa b))]):=
 W 17 func217 Z λC g r h=>B h λi f h=>G g [12,.O 7 (.var [.clo (.func 218) [] [.L 5]]),5,.A [.clo (.func 219) [] [.L 5],.I 1],1,.A [.clo (.func 220) [] [.L 617,.L 4,.L 7],.I 5],1,.A [.clo (.func 222) [] [.L 618,.L 5],.I 3],.o (.any (.own 15 3) (some (.var [.clo (.func 219) [] [.L 5],.I 1,.clo (.func 220) [] [.L 617,.L 4,.L 7],.I 5,.clo (.func 222) [] [.L 618,.L 5],.I 3]))),.cm (.fn) [(617,15),(618,5),(619,617),(620,4),(621,7),(622,618)] [(15,617),(5,618),(617,619),(4,620),(7,621),(618,622)] [] [.d] [(617,.var [.clo (.func 219) [] [.L 618],.I 1,.clo (.func 220) [] [.L 619,.L 620,.L 621],.I 5,.clo (.func 222) [] [.L 622,.L 618],.I 3]),(618,.var (QY e)),(619,.var (Km a)),(620,.var (Qb c)),(621,.var [.clo (.func 218) [] [.L 618]]),(622,.var (Qa b))] (.I i),4] Z (a6_ Z Z Z Z (λσ j k D=>Ql.buildAny Z Z (QZ g.n Z) (QN.es Z) PJ Z (by decide) (by decide) (Un j Z) Z Z (D Z)) (QbJ _ _ _ _ _ _ _ _ f))<|E h Z r2_
def US (d:(L_ Yd))(e:(L_ Yd))(f:Qn)(a:Int):O_ (Int⊕((Int×Int)⊕Unit)):=bif (a<(d.length:Int))then (idx d a).bind λc=>(UN a c e f).bind λb=>bif (b != 0)then some (.inr (.inl (a,b)))else some (.inl (Qj (a+1)))else some (.inr (.inr ()))
def UT (a:Int)(b:Int):O_ (Int×Int):=some (a,b)
def UU : O_ (Int×Int):=some (0,0)
def EY (a:(L_ Yd))(b:(L_ Yd))(c:Qn):O_ (Int×Int):=(Qs (λst=>US a b c st) 0).bind (Sum.elim (λq=>UT q.1 q.2) (λq=>UU))
def TW (i f g):CT 216 [.sl 2 (i.map QY),.clo (.func 217) [] [.L 617,.L 618]] [(617,.var (Km f)),(618,.var (Qa g))] (EY i f g) (λr=>(.tup [.I r.1,.I r.2])) (λ_=>[(617,.var (Km f)),(618,.var (Qa g))]):=
 W 25 func216 Z λC e r h=>J e [10,.o (.ln i.length),4] Z Qc<|lq_ h (λst=>⟨[(1,.clo (.func 217) [] [.L 617,.L 618]),(9,.sl 2 (i.map QY)),(10,.I (i.length:Int)),(11,.I st)],[(617,.var (Km f)),(618,.var (Qa g))]⟩) (λq=>(.ret,⟨[(4,.I q.1),(5,.I q.2)],[(617,.var (Km f)),(618,.var (Qa g))]⟩)) (λq=>(.exit 0,⟨[],[(617,.var (Km f)),(618,.var (Qa g))]⟩)) Z (λs o h=>H e [6] Z<|I h (λa h=>B h λc j h=>B h λl k h=>G e [.T,7,.o (.row (QY c)),.A (QY c),3,.O 7 (.var (QY c)),6,.A (QY c),.cm (.clo) [(617,617),(618,618)] [(617,617),(618,618)] [] [.d,.d,.d,.d] [(617,.var (Km f)),(618,.var (Qa g))] (.I l),9] Z (a6_ a (QI j) Z Z Z (Zw _ _ _ _ _ k))<|I h (λb h=>J e [.T,11] Z b<|rR_ h Z) λb h=>J e [.F,7] Z b<|rN_ h Z) λa h=>J e [.F,2] Z a<|rX_ h Z) (λ⟨m,p⟩ h=>H e [2] Z<|F h Z Z r2_) (λ_ h=>H e [9] Z<|F h Z Z r2_)
def Bv (b:Qn)(a:(L_ Yd)):O_ Int:=(EY a a b).bind λc=>some c.2
def Qa1 (a b):CT 174 [.agg (Qa a),.sl 2 (b.map QY)] [] (Bv a b) V.I no_:=
 W 14 func174 Z λC f r h=>B h λe c h=>J f [11,.cm (.fn) [(617,3),(618,2)] [(3,617),(2,618)] [] [.d,.d] [(617,.var (Km b)),(618,.var (Qa a))] (.tup [.I e.1,.I e.2]),14] Z (TW _ _ _ _ c)<|E h Z U
def II (a:Qn)(b:QL):O_ Int:=(Bv a b.Vars).bind λc=>some c
def QdO (a b):CT 173 [.L 617,.L 618] [(617,.var (Qa a)),(618,.var (Qk b))] (II a b) V.I (λ_=>[(617,.var (Qa a)),(618,.var (Qk b))]):=
 W 7 func173 Z λC f r h=>B h λg e h=>K f [7,.A (Qa a),2,.o (.C2 (.I g)),4] Z Z (Qa1 _ _ _ e)<|E h Z r2_
def AD (b:Qn)(c:QL)(d:Int):O_ (Bool×Int):=(II b c).bind λa=>some ((a==0),a)
def QcA (c e j):CT 215 [.L 617,.L 620] [(617,.var [.clo (.func 173) [] [.L 618,.L 619]]),(618,.var (Qa c)),(619,.var (Qk e)),(620,.var [.L 621]),(621,.var (Qb j))] (AD c e j) (λr=>(.b r.1)) (λr=>[(617,.var [.clo (.func 173) [] [.L 618,.L 619]]),(618,.var (Qa c)),(619,.var (Qk e)),(620,.var [.L 621]),(621,.var (Qb r.2))]):=
 W 11 func215 Z λC f r h=>B h λg i h=>H f [6,.K [0,1] [617,618,619,620,621]] Z <| 
  dr_ f [.N,.N,.B (.any (.I g) none),.N,.m .s] [] [] [1] [617,618,619,620,621] Z Z (A (λσ k l _=>Ql.callSame (md:=.cm (.clo) [(617,618),(618,619)] [(618,617),(619,618)] [] [.d,.d] [(617,.var (Qa c)),(618,.var (Qk e))] (.I g) [618,619]) QN f k l Z (a2_ (QdO _ _ _ i) r2_))) Z <|
  J f [.O 621 (.var (Qb g)),11] Z Z<|E h Z r5_
def Ux (e:QL)(f:Qn)(a:Int)(c:Int):O_ ((Int×Int)⊕(Unit⊕Int)):=bif (c<(e.Vars.length:Int))then (idx e.Vars c).bind λd=>(Yl f.Colours d.Colour).bind λb=>bif (b==0)then some (.inr (.inl ()))else some (.inl ((min2 (Qj (a*b)) 1025),(Qj (c+1))))else some (.inr (.inr a))
def MV : O_ Int:=some 0
def MW (a:Int):O_ Int:=some a
def WJ (a:Qn)(b:Int):O_ Int:=(Jl a.Tasks b).bind λc=>bif (!c)then some 0 else (idx a.Tasks b).bind λd=>(Qs (λst=>Ux d a st.1 st.2) (1,0)).bind (Sum.elim (λq=>MV) (λq=>MW q))
def Tg (m w):CT 54 [.agg (Qa m),.I w] [] (WJ m w) V.I no_:=
 W 38 func54 Z λC f r h=>B h λy p h=>J f [12,.o (.C2 (.b y)),3] Z (He _ _ _ p)<|I h (λg h=>J f [.T,7] Z g<|E h Z U) λg h=>B h λl s h=>g3_ f [.F,13,.o (.row (Qk l)),2,.o (.ln l.Vars.length),4] Z g (QI s) Qc<|lq_ h (λst=>⟨[lk_ 2,(5,.I st.1),(19,.sl 2 (l.Vars.map QY)),(20,.I (l.Vars.length:Int)),(21,.I st.2)],[(2,.var (Qa m))]⟩) (λq=>(.ret,⟨[(4,.I 0)],[]⟩)) (λq=>(.exit 0,⟨[(5,.I q)],[]⟩)) Z (λ⟨x,z⟩ o h=>H f [6] Z<|I h (λa h=>B h λi j h=>B h λt k h=>G f [.T,6,.o (.row (QY i)),.A (QY i),2,.O 7 (.var (QY i)),8,.o (.C2 (.I t)),10] Z (a5_ a (QI j) Z Z (Cs _ _ _ k))<|I h (λe h=>J f [.T,9] Z e<|rR_ h Z) λe h=>J f [.F,15] Z e<|rN_ h Z) λa h=>J f [.F,2] Z a<|rX_ h Z) (λ_ h=>H f [2] Z<|E h Z U) (λu h=>H f [9] Z<|E h Z U)
def BR (a:Qn)(b:Int):O_ Bool:=(WJ a b).bind λc=>some (decide (c<=1024))
def QdP (a e):CT 175 [.L 617,.L 618] [(617,.var (Qa a)),(618,.var (Qb e))] (BR a e) V.b (λ_=>[(617,.var (Qa a)),(618,.var (Qb e))]):=
 W 7 func175 Z λC g r h=>B h λi f h=>K g [7,.A (Qa a),1,.o (.C2 (.I i)),5] Z Z (Tg _ _ _ f)<|E h Z r2_
def Ru (a:QL)(b:Int):O_ Bool:=(GP a.Guard b).bind λc=>bif c then bif (0<(a.Ins.length:Int))then some (decide (0<(a.Outs.length:Int)))else some false else some false
def Rv (a:Bool):O_ Bool:=some a
def IJ (a:QL)(b:Int):O_ Bool:=(Ru a b).bind (λc=>Rv c)
def QdQ (a i):CT 176 [.L 617,.L 618] [(617,.var (Qk a)),(618,.var (Qb i))] (IJ a i) V.b (λ_=>[(617,.var (Qk a)),(618,.var (Qb i))]):=
 W 19 func176 Z λC e r h=>H e [6] Z<|mV_ h (λj=>⟨[(2,.b j)],[(617,.var (Qk a)),(618,.var (Qb i))]⟩) (λj h=>B h λl k h=>K e [2,.A (Qm a.Guard),1,.o (.C2 (.b l)),1] Z Z (NL _ _ _ k)<|I h (λf h=>G e [.S 7 (.b true),2,.o (.ln a.Ins.length),3] Z ⟨(tc_ f),Qc⟩<|I h (λg h=>G e [.S 13 (.b true),2,.o (.ln a.Outs.length),4] Z ⟨(tc_ g),Qc⟩<|mq_ h Z) λg h=>L e [.S 13 (.b false),7] Z g<|mq_ h Z) λf h=>L e [.S 7 (.b false),13] Z f<|mq_ h Z) λj h=>H e [2] Z<|E h Z r2_
def CB (a:Qn)(b:Xk):O_ Bool:=(YB a.Places b.Place).bind λc=>some c
def QbK (a e):CT 225 [.L 617,.L 618] [(617,.var (Qa a)),(618,.var (Xa e))] (CB a e) V.b (λ_=>[(617,.var (Qa a)),(618,.var (Xa e))]):=
 W 8 func225 Z λC g r h=>B h λi f h=>J g [11,.o (.C2 (.b i)),4] Z (Kc _ _ _ f)<|E h Z r2_
def CC (a:Xk)(b:Int):O_ Bool:=(GP a.Expr b).bind λc=>some c
def QbL (a e):CT 226 [.L 617,.L 618] [(617,.var (Xa a)),(618,.var (Qb e))] (CC a e) V.b (λ_=>[(617,.var (Xa a)),(618,.var (Qb e))]):=
 W 7 func226 Z λC g r h=>B h λi f h=>K g [8,.A (Qm a.Expr),1,.o (.C2 (.b i)),4] Z Z (NL _ _ _ f)<|E h Z r2_
def CD (c:Qn)(b:Xk)(d:Int)(e:Int)(f:Int):O_ Int:=(CB c b).bind λg=>bif (!g)then some d else (CC b e).bind λa=>bif (!a)then some f else some 0
def QbM (j f k l m):CT 98 [.own 617 2] [(617,.var [.clo (.func 225) [] [.L 618,.L 619],.I k,.clo (.func 226) [] [.L 619,.L 620],.I m]),(618,.var (Qa j)),(619,.var (Xa f)),(620,.var (Qb l))] (CD j f k l m) V.I (λ_=>[(617,.var [.clo (.func 225) [] [.L 618,.L 619],.I k,.clo (.func 226) [] [.L 619,.L 620],.I m]),(618,.var (Qa j)),(619,.var (Xa f)),(620,.var (Qb l))]):=
 W 18 func98 Z λC c r h=>H c [14] Z<|AK.loopN 3<|AK.rnd<|B h λt p h=>g4_ c [2,.v .no [] (.b true),10,.o (.any (.L 617) none),3,.O 4 (.var [.clo (.func 225) [] [.L 618,.L 619],.I k]),6,.cm (.clo) [(617,618),(618,619)] [(618,617),(619,618)] [] [.d,.d] [(617,.var (Qa j)),(618,.var (Xa f))] (.b t),3] Z Z (λσ g q _=>Ql.idxV Z Z (QZ c.n Z) (g _ _ Z) (g _ _ Z) (QN.es Z) (q _ _ Z) (by decide)) Z (QbK _ _ _ p)<|I h (λe h=>J c [.T,13] Z e<|E h Z r4_) λe h=>K c [.F,4,.v .no [] (.I 1),2] Z e Z<|AK.met<|AK.rnd<|B h λs i h=>g4_ c [2,.v .no [] (.b true),10,.o (.any (.loc 617 0 2) none),1,.kill 4,2,.O 4 (.var [.clo (.func 226) [] [.L 619,.L 620],.I m]),6,.cm (.clo) [(617,619),(618,620)] [(619,617),(620,618)] [] [.d,.d] [(617,.var (Xa f)),(618,.var (Qb l))] (.b s),3] Z Z (λσ g q _=>Ql.idxV Z Z (QZ c.n Z) (g _ _ Z) (g _ _ Z) (QN.es Z) (q _ _ Z) (by decide)) Z (QbL _ _ _ i)<|I h (λa h=>J c [.T,13] Z a<|E h Z r4_) λa h=>K c [.F,4,.v .no [] (.I 2),2] Z a Z<|AK.met<|AK.rnd<|J c [2,.v .no [] (.b false),15] Z Z<|E h Z r4_
def IK (e:Int)(a:Xk)(b:Qn)(c:Int):O_ Int:=(CD b a 3 c 1).bind λd=>some d
def QdR (f c a b):CT 224 [.I f,.agg (Xa c),.L 617,.L 618] [(617,.var (Qa a)),(618,.var (Qb b))] (IK f c a b) V.I (λ_=>[(617,.var (Qa a)),(618,.var (Qb b))]):=
 W 13 func224 Z λC g r h=>B h λi e h=>g4_ g [9,.A [.clo (.func 225) [] [.L 617,.L 5],.I 3],1,.A [.clo (.func 226) [] [.L 5,.L 618],.I 1],.o (.any (.own 11 2) (some (.var [.clo (.func 225) [] [.L 617,.L 5],.I 3,.clo (.func 226) [] [.L 5,.L 618],.I 1]))),.cm (.fn) [(617,11),(618,617),(619,5),(620,618)] [(11,617),(617,618),(5,619),(618,620)] [] [.d] [(617,.var [.clo (.func 225) [] [.L 618,.L 619],.I 3,.clo (.func 226) [] [.L 619,.L 620],.I 1]),(618,.var (Qa a)),(619,.var (Xa c)),(620,.var (Qb b))] (.I i),4] Z Z Z (λσ j k D=>Ql.buildAny Z Z (QZ g.n Z) (QN.es Z) PJ Z (by decide) (by decide) (Un j Z) Z Z (D Z)) (QbM _ _ _ _ _ _ e)<|E h Z r2_
def UV (d:(L_ Xk))(e:Qn)(f:Int)(a:Int):O_ (Int⊕((Int×Int)⊕Unit)):=bif (a<(d.length:Int))then (idx d a).bind λc=>(IK a c e f).bind λb=>bif (b != 0)then some (.inr (.inl (a,b)))else some (.inl (Qj (a+1)))else some (.inr (.inr ()))
def UW (a:Int)(b:Int):O_ (Int×Int):=some (a,b)
def UX : O_ (Int×Int):=some (0,0)
def EZ (a:(L_ Xk))(b:Qn)(c:Int):O_ (Int×Int):=(Qs (λst=>UV a b c st) 0).bind (Sum.elim (λq=>UW q.1 q.2) (λq=>UX))
def TX (i f g):CT 223 [.sl 4 (i.map Xa),.clo (.func 224) [] [.L 617,.L 618]] [(617,.var (Qa f)),(618,.var (Qb g))] (EZ i f g) (λr=>(.tup [.I r.1,.I r.2])) (λ_=>[(617,.var (Qa f)),(618,.var (Qb g))]):=
 W 25 func223 Z λC e r h=>J e [10,.o (.ln i.length),4] Z Qc<|lq_ h (λst=>⟨[(1,.clo (.func 224) [] [.L 617,.L 618]),(9,.sl 4 (i.map Xa)),(10,.I (i.length:Int)),(11,.I st)],[(617,.var (Qa f)),(618,.var (Qb g))]⟩) (λq=>(.ret,⟨[(4,.I q.1),(5,.I q.2)],[(617,.var (Qa f)),(618,.var (Qb g))]⟩)) (λq=>(.exit 0,⟨[],[(617,.var (Qa f)),(618,.var (Qb g))]⟩)) Z (λs o h=>H e [6] Z<|I h (λa h=>B h λc j h=>B h λl k h=>G e [.T,7,.o (.row (Xa c)),.A (Xa c),3,.O 7 (.var (Xa c)),6,.A (Xa c),.cm (.clo) [(617,617),(618,618)] [(617,617),(618,618)] [] [.d,.d,.d,.d] [(617,.var (Qa f)),(618,.var (Qb g))] (.I l),9] Z (a6_ a (QI j) Z Z Z (QdR _ _ _ _ _ k))<|I h (λb h=>J e [.T,11] Z b<|rR_ h Z) λb h=>J e [.F,7] Z b<|rN_ h Z) λa h=>J e [.F,2] Z a<|rX_ h Z) (λ⟨m,p⟩ h=>H e [2] Z<|F h Z Z r2_) (λ_ h=>H e [9] Z<|F h Z Z r2_)
def HQ (b:Qn)(c:(L_ Xk))(a:Int):O_ Int:=(EZ c b a).bind λd=>some d.2
def VE (b e a):CT 178 [.agg (Qa b),.sl 4 (e.map Xa),.I a] [] (HQ b e a) V.I no_:=
 W 16 func178 Z λC g r h=>B h λf c h=>J g [11,.cm (.fn) [(617,3),(618,5)] [(3,617),(5,618)] [] [.d,.d] [(617,.var (Qa b)),(618,.var (Qb a))] (.tup [.I f.1,.I f.2]),14] Z (TX _ _ _ _ c)<|E h Z U
def IL (a:Qn)(b:QL)(c:Int):O_ Int:=(HQ a b.Ins c).bind λd=>some d
def QdS (a b e):CT 177 [.L 617,.L 618,.L 619] [(617,.var (Qa a)),(618,.var (Qk b)),(619,.var (Qb e))] (IL a b e) V.I (λ_=>[(617,.var (Qa a)),(618,.var (Qk b)),(619,.var (Qb e))]):=
 W 9 func177 Z λC g r h=>B h λi f h=>K g [7,.A (Qa a),3,.o (.C3 (.I i)),4] Z Z (VE _ _ _ _ f)<|E h Z r3_
def AE (b:Qn)(c:QL)(d:Int)(e:Int):O_ (Bool×Int):=(IL b c d).bind λa=>some ((a==0),a)
def ZR (c e f k):CT 215 [.L 617,.L 621] [(617,.var [.clo (.func 177) [] [.L 618,.L 619,.L 620]]),(618,.var (Qa c)),(619,.var (Qk e)),(620,.var (Qb f)),(621,.var [.L 622]),(622,.var (Qb k))] (AE c e f k) (λr=>(.b r.1)) (λr=>[(617,.var [.clo (.func 177) [] [.L 618,.L 619,.L 620]]),(618,.var (Qa c)),(619,.var (Qk e)),(620,.var (Qb f)),(621,.var [.L 622]),(622,.var (Qb r.2))]):=
 W 11 func215 Z λC g r h=>B h λi j h=>H g [6,.K [0,1] [617,618,619,620,621,622]] Z <| 
  dr_ g [.N,.N,.B (.any (.I i) none),.N,.m .s] [] [] [1] [617,618,619,620,621,622] Z Z (A (λσ l o _=>Ql.callSame (md:=.cm (.clo) [(617,618),(618,619),(619,620)] [(618,617),(619,618),(620,619)] [] [.d,.d,.d] [(617,.var (Qa c)),(618,.var (Qk e)),(619,.var (Qb f))] (.I i) [618,619,620]) QN g l o Z (a2_ (QdS _ _ _ _ j) r3_))) Z <|
  J g [.O 622 (.var (Qb i)),11] Z Z<|E h Z r6_
def IM (a:Qn)(b:QL)(c:Int):O_ Int:=(HQ a b.Outs c).bind λd=>some d
def QdT (a b e):CT 179 [.L 617,.L 618,.L 619] [(617,.var (Qa a)),(618,.var (Qk b)),(619,.var (Qb e))] (IM a b e) V.I (λ_=>[(617,.var (Qa a)),(618,.var (Qk b)),(619,.var (Qb e))]):=
 W 9 func179 Z λC g r h=>B h λi f h=>K g [7,.A (Qa a),3,.o (.C3 (.I i)),4] Z Z (VE _ _ _ _ f)<|E h Z r3_
def AF (b:Qn)(c:QL)(d:Int)(e:Int):O_ (Bool×Int):=(IM b c d).bind λa=>some ((a==0),a)
def ZS (c e f k):CT 215 [.L 617,.L 621] [(617,.var [.clo (.func 179) [] [.L 618,.L 619,.L 620]]),(618,.var (Qa c)),(619,.var (Qk e)),(620,.var (Qb f)),(621,.var [.L 622]),(622,.var (Qb k))] (AF c e f k) (λr=>(.b r.1)) (λr=>[(617,.var [.clo (.func 179) [] [.L 618,.L 619,.L 620]]),(618,.var (Qa c)),(619,.var (Qk e)),(620,.var (Qb f)),(621,.var [.L 622]),(622,.var (Qb r.2))]):=
 W 11 func215 Z λC g r h=>B h λi j h=>H g [6,.K [0,1] [617,618,619,620,621,622]] Z <| 
  dr_ g [.N,.N,.B (.any (.I i) none),.N,.m .s] [] [] [1] [617,618,619,620,621,622] Z Z (A (λσ l o _=>Ql.callSame (md:=.cm (.clo) [(617,618),(618,619),(619,620)] [(618,617),(619,618),(620,619)] [] [.d,.d,.d] [(617,.var (Qa c)),(618,.var (Qk e)),(619,.var (Qb f))] (.I i) [618,619,620]) QN g l o Z (a2_ (QdT _ _ _ _ j) r3_))) Z <|
  J g [.O 622 (.var (Qb i)),11] Z Z<|E h Z r6_
def UO (a:Qn)(b:Int):O_ Bool:=(YB a.Places b).bind λc=>some c
def Zx (a e):CT 229 [.L 617,.L 618] [(617,.var (Qa a)),(618,.var (Qb e))] (UO a e) V.b (λ_=>[(617,.var (Qa a)),(618,.var (Qb e))]):=
 W 7 func229 Z λC g r h=>B h λi f h=>J g [10,.o (.C2 (.b i)),4] Z (Kc _ _ _ f)<|E h Z r2_
def UP (b:LI_)(a:Int)(c:Int):O_ Bool:=(chk (decide (0<=a)&&decide (0<=a.toNat)&&decide (a.toNat<=b.length))).bind λ_=>(Yh ((b.drop 0).take (a.toNat-0)) c).bind λd=>some (!d)
def Zy (f g j):CT 230 [.L 617,.L 618,.L 619] [(617,.var (Qz f)),(618,.var (Qb g)),(619,.var (Qb j))] (UP f g j) V.b (λ_=>[(617,.var (Qz f)),(618,.var (Qb g)),(619,.var (Qb j))]):=
 W 10 func230 Z λC i r h=>X h λe h=>B h λo k h=>H i [6,.K [0,1,2,3] [617,618,619]] Z <| 
  dr_ i [.N,.N,.B (.any (.sl 1 (((f.drop 0).take (g.toNat-0)).map Qb)) none),.N,.B (.C2 (.b o)),.N,.m .s] [] [] [3] [617,618,619] Z Z (a2_ (λσ l p _=>Ql.sliceD Z Z (QZ i.n Z) (l _ _ Z) (QN.es Z) UR.no (UR.val (l _ _ Z) (Xn (SH e)) Z) (Xn (SI e)) (Jn (Xn (ZI e)) (Nat.le_of_eq Qc.symm)) QaJ) (BN _ _ _ k)) Z <|
  H i [2] Z<|E h Z r3_
def CE (c:Qn)(b:Int)(d:Int)(e:LI_)(f:Int)(g:Int):O_ Int:=(UO c b).bind λh=>bif (!h)then some d else (UP e f b).bind λa=>bif (!a)then some g else some 0
def QbN (j f k l m p):CT 98 [.own 617 2] [(617,.var [.clo (.func 229) [] [.L 618,.L 619],.I k,.clo (.func 230) [] [.L 620,.L 621,.L 619],.I p]),(618,.var (Qa j)),(619,.var (Qb f)),(620,.var (Qz l)),(621,.var (Qb m))] (CE j f k l m p) V.I (λ_=>[(617,.var [.clo (.func 229) [] [.L 618,.L 619],.I k,.clo (.func 230) [] [.L 620,.L 621,.L 619],.I p]),(618,.var (Qa j)),(619,.var (Qb f)),(620,.var (Qz l)),(621,.var (Qb m))]):=
 W 18 func98 Z λC e r h=>H e [14] Z<|AK.loopN 3<|AK.rnd<|B h λu q h=>g4_ e [2,.v .no [] (.b true),10,.o (.any (.L 617) none),3,.O 4 (.var [.clo (.func 229) [] [.L 618,.L 619],.I k]),6,.cm (.clo) [(617,618),(618,619)] [(618,617),(619,618)] [] [.d,.d] [(617,.var (Qa j)),(618,.var (Qb f))] (.b u),3] Z Z (λσ g s _=>Ql.idxV Z Z (QZ e.n Z) (g _ _ Z) (g _ _ Z) (QN.es Z) (s _ _ Z) (by decide)) Z (Zx _ _ _ q)<|I h (λa h=>J e [.T,13] Z a<|E h Z r5_) λa h=>K e [.F,4,.v .no [] (.I 1),2] Z a Z<|AK.met<|AK.rnd<|B h λt i h=>g4_ e [2,.v .no [] (.b true),10,.o (.any (.loc 617 0 2) none),1,.kill 4,2,.O 4 (.var [.clo (.func 230) [] [.L 620,.L 621,.L 619],.I p]),6,.cm (.clo) [(617,620),(618,621),(619,619)] [(620,617),(621,618),(619,619)] [] [.d,.d,.d] [(617,.var (Qz l)),(618,.var (Qb m)),(619,.var (Qb f))] (.b t),3] Z Z (λσ g s _=>Ql.idxV Z Z (QZ e.n Z) (g _ _ Z) (g _ _ Z) (QN.es Z) (s _ _ Z) (by decide)) Z (Zy _ _ _ _ i)<|I h (λc h=>J e [.T,13] Z c<|E h Z r5_) λc h=>K e [.F,4,.v .no [] (.I 2),2] Z c Z<|AK.met<|AK.rnd<|J e [2,.v .no [] (.b false),15] Z Z<|E h Z r5_
def Bw (b:Int)(a:Int)(c:Qn)(d:LI_):O_ Int:=(CE c a 3 d b 5).bind λe=>some e
def Qa2 (e a b c):CT 228 [.I e,.I a,.L 617,.L 618] [(617,.var (Qa b)),(618,.var (Qz c))] (Bw e a b c) V.I (λ_=>[(617,.var (Qa b)),(618,.var (Qz c))]):=
 W 13 func228 Z λC g r h=>B h λi f h=>g4_ g [10,.A [.clo (.func 229) [] [.L 617,.L 5],.I 3],1,.A [.clo (.func 230) [] [.L 618,.L 4,.L 5],.I 5],.o (.any (.own 11 2) (some (.var [.clo (.func 229) [] [.L 617,.L 5],.I 3,.clo (.func 230) [] [.L 618,.L 4,.L 5],.I 5]))),.cm (.fn) [(617,11),(618,617),(619,5),(620,618),(621,4)] [(11,617),(617,618),(5,619),(618,620),(4,621)] [] [.d] [(617,.var [.clo (.func 229) [] [.L 618,.L 619],.I 3,.clo (.func 230) [] [.L 620,.L 621,.L 619],.I 5]),(618,.var (Qa b)),(619,.var (Qb a)),(620,.var (Qz c)),(621,.var (Qb e))] (.I i),4] Z Z Z (λσ j k D=>Ql.buildAny Z Z (QZ g.n Z) (QN.es Z) PJ Z (by decide) (by decide) (Un j Z) Z Z (D Z)) (QbN _ _ _ _ _ _ _ f)<|E h Z r2_
def FI (d:LI_)(e:Qn)(f:LI_)(a:Int):O_ (Int⊕((Int×Int)⊕Unit)):=bif (a<(d.length:Int))then (idx d a).bind λc=>(Bw a c e f).bind λb=>bif (b != 0)then some (.inr (.inl (a,b)))else some (.inl (Qj (a+1)))else some (.inr (.inr ()))
def FJ (a:Int)(b:Int):O_ (Int×Int):=some (a,b)
def FK : O_ (Int×Int):=some (0,0)
def CF (a:LI_)(b:Qn)(c:LI_):O_ (Int×Int):=(Qs (λst=>FI a b c st) 0).bind (Sum.elim (λq=>FJ q.1 q.2) (λq=>FK))
def QbO (g e f):CT 227 [.sl 1 (g.map Qb),.clo (.func 228) [] [.L 617,.L 618]] [(617,.var (Qa e)),(618,.var (Qz f))] (CF g e f) (λr=>(.tup [.I r.1,.I r.2])) (λ_=>[(617,.var (Qa e)),(618,.var (Qz f))]):=
 W 25 func227 Z λC c r h=>J c [10,.o (.ln g.length),4] Z Qc<|lq_ h (λst=>⟨[(1,.clo (.func 228) [] [.L 617,.L 618]),(9,.sl 1 (g.map Qb)),(10,.I (g.length:Int)),(11,.I st)],[(617,.var (Qa e)),(618,.var (Qz f))]⟩) (λq=>(.ret,⟨[(4,.I q.1),(5,.I q.2)],[(617,.var (Qa e)),(618,.var (Qz f))]⟩)) (λq=>(.exit 0,⟨[],[(617,.var (Qa e)),(618,.var (Qz f))]⟩)) Z (λs o h=>H c [6] Z<|I h (λa h=>B h λk i h=>B h λl j h=>g3_ c [.T,7,.o (.row (Qb k)),10,.cm (.clo) [(617,617),(618,618)] [(617,617),(618,618)] [] [.d,.d,.d,.d] [(617,.var (Qa e)),(618,.var (Qz f))] (.I l),9] Z a (QI i) (Qa2 _ _ _ _ _ j)<|I h (λb h=>J c [.T,11] Z b<|rR_ h Z) λb h=>J c [.F,7] Z b<|rN_ h Z) λa h=>J c [.F,2] Z a<|rX_ h Z) (λ⟨m,p⟩ h=>H c [2] Z<|F h Z Z r2_) (λ_ h=>H c [9] Z<|F h Z Z r2_)
def Hf (b:Qn)(a:LI_):O_ Int:=(CF a b a).bind λc=>some c.2
def QcB (a b):CT 181 [.agg (Qa a),.sl 1 (b.map Qb)] [] (Hf a b) V.I no_:=
 W 14 func181 Z λC f r h=>B h λe c h=>J f [11,.cm (.fn) [(617,2),(618,3)] [(2,617),(3,618)] [] [.d,.d] [(617,.var (Qa a)),(618,.var (Qz b))] (.tup [.I e.1,.I e.2]),14] Z (QbO _ _ _ _ c)<|E h Z U
def Hg (a:Qn)(b:QL):O_ Int:=(Hf a b.Cancel).bind λc=>some c
def QcC (a b):CT 180 [.L 617,.L 618] [(617,.var (Qa a)),(618,.var (Qk b))] (Hg a b) V.I (λ_=>[(617,.var (Qa a)),(618,.var (Qk b))]):=
 W 7 func180 Z λC f r h=>B h λg e h=>K f [7,.A (Qa a),2,.o (.C2 (.I g)),4] Z Z (QcB _ _ _ e)<|E h Z r2_
def AG (b:Qn)(c:QL)(d:Int):O_ (Bool×Int):=(Hg b c).bind λa=>some ((a==0),a)
def ZT (c e j):CT 215 [.L 617,.L 620] [(617,.var [.clo (.func 180) [] [.L 618,.L 619]]),(618,.var (Qa c)),(619,.var (Qk e)),(620,.var [.L 621]),(621,.var (Qb j))] (AG c e j) (λr=>(.b r.1)) (λr=>[(617,.var [.clo (.func 180) [] [.L 618,.L 619]]),(618,.var (Qa c)),(619,.var (Qk e)),(620,.var [.L 621]),(621,.var (Qb r.2))]):=
 W 11 func215 Z λC f r h=>B h λg i h=>H f [6,.K [0,1] [617,618,619,620,621]] Z <| 
  dr_ f [.N,.N,.B (.any (.I g) none),.N,.m .s] [] [] [1] [617,618,619,620,621] Z Z (A (λσ k l _=>Ql.callSame (md:=.cm (.clo) [(617,618),(618,619)] [(618,617),(619,618)] [] [.d,.d] [(617,.var (Qa c)),(618,.var (Qk e))] (.I g) [618,619]) QN f k l Z (a2_ (QcC _ _ _ i) r2_))) Z <|
  J f [.O 621 (.var (Qb g)),11] Z Z<|E h Z r5_
def AH (a:Int)(b:(L_ Xk)):O_ Bool:=
 some ((1<=a)&&((a<=3)&&((a != 3)||((b.length:Int)<=4))))
def PP (a g):CT 231 [.I a,.sl 4 (g.map Xa)] [] (AH a g) V.b no_:=
 W 20 func231 Z λC f r h=>H f [6] Z<|Y ⟨[(4,.b ((1<=a)&&((a<=3)&&((a != 3)||((g.length:Int)<=4)))))],[]⟩ (H f [4] Z<|bO_ (decide (1<=a)) (λc=>L f [.S 7 (.b true),4] Z c<|bO_ (decide (a<=3)) (λd=>L f [.S 11 (.b true),3] Z d<|bO_ (a != 3) (λe=>G f [.S 14 (.b true),7,.S 4 (.b ((1<=a)&&((a<=3)&&((a != 3)||((g.length:Int)<=4)))))] Z ⟨(tc_ e),(cb_ (XL c (XL d (KB e Z))))⟩<|M Z) λe=>G f [.S 14 (.b false),1,.o (.ln g.length),5,.S 4 (.b ((1<=a)&&((a<=3)&&((a != 3)||((g.length:Int)<=4)))))] Z ⟨⟨(tc_ e),Qc⟩,(cb_ (XL c (XL d (Yj e Z))))⟩<|M Z) λd=>G f [.S 11 (.b false),10,.S 4 (.b ((1<=a)&&((a<=3)&&((a != 3)||((g.length:Int)<=4)))))] Z ⟨(tc_ d),(cb_ (XL c (Yp d Z)))⟩<|M Z) λc=>G f [.S 7 (.b false),14,.S 4 (.b ((1<=a)&&((a<=3)&&((a != 3)||((g.length:Int)<=4)))))] Z ⟨(tc_ c),(cb_ (Yp c Z))⟩<|M Z)<|H f [2] Z<|E h Z U
def Th (a:QL):O_ Bool:=
 (AH a.Join a.Ins).bind λb=>
 bif b then
 (AH a.Split a.Outs).bind λc=>
 bif c then
 bif (0<=a.After)then
 bif (a.After<=65536)then
 some (((a.Many.1==0)&&((a.Many.2.1==0)&&(a.Many.2.2==0)))||((1<=a.Many.1)&&((a.Many.1<=a.Many.2.1)&&((a.Many.2.1<=16)&&((1<=a.Many.2.2)&&(a.Many.2.2<=a.Many.2.1))))))
 else
 some false
 else
 some false
 else
 some false
 else
 some false
def Ti (a:Bool):O_ Bool:=some a
def Mo (a:QL):O_ Bool:=(Th a).bind (λb=>Ti b)
def Qe9 (a):CT 183 [.agg (Qk a)] [] (Mo a) V.b no_:=
 W 70 func183 Z λC e r h=>H e [7,.K [1] [1]] Z <| 
  dr_ e [.N,.N,.N,.N,.N,.N,.N,.N,.N,.N,.N,.N] [] [] [1,3,4,5] [1] Z Z U Z <|
  H e [2] Z<|Y ⟨[lk_ 1,(6,.b (((a.Many.1==0)&&((a.Many.2.1==0)&&(a.Many.2.2==0)))||((1<=a.Many.1)&&((a.Many.1<=a.Many.2.1)&&((a.Many.2.1<=16)&&((1<=a.Many.2.2)&&(a.Many.2.2<=a.Many.2.1)))))))],[(1,.var (Qk a))]⟩ (g3_ e [2,.A (QhU a.Many),.A (QhU (0,0,0)),.o (.any (.b ((a.Many.1==0)&&((a.Many.2.1==0)&&(a.Many.2.2==0)))) none),1] Z Z Z (λσ y z _=>Ql.eqAgg Z Z (QZ e.n Z) (y _ _ Z) (y _ _ Z) Z Z (QpO _ _ _ _ _ _))<|bO_ ((a.Many.1==0)&&((a.Many.2.1==0)&&(a.Many.2.2==0))) (λf=>G e [.S 21 (.b true),23,.S 6 (.b (((a.Many.1==0)&&((a.Many.2.1==0)&&(a.Many.2.2==0)))||((1<=a.Many.1)&&((a.Many.1<=a.Many.2.1)&&((a.Many.2.1<=16)&&((1<=a.Many.2.2)&&(a.Many.2.2<=a.Many.2.1)))))))] Z ⟨(tc_ f),(cb_ (KB f Z))⟩<|M Z) λf=>L e [.S 21 (.b false),3] Z f<|bO_ (decide (1<=a.Many.1)) (λg=>L e [.S 24 (.b true),5] Z g<|bO_ (decide (a.Many.1<=a.Many.2.1)) (λi=>L e [.S 29 (.b true),4] Z i<|bO_ (decide (a.Many.2.1<=16)) (λj=>L e [.S 33 (.b true),4] Z j<|bO_ (decide (1<=a.Many.2.2)) (λk=>G e [.S 37 (.b true),7,.S 6 (.b (((a.Many.1==0)&&((a.Many.2.1==0)&&(a.Many.2.2==0)))||((1<=a.Many.1)&&((a.Many.1<=a.Many.2.1)&&((a.Many.2.1<=16)&&((1<=a.Many.2.2)&&(a.Many.2.2<=a.Many.2.1)))))))] Z ⟨(tc_ k),(cb_ (Yj f (XL g (XL i (XL j (XL k Z))))))⟩<|M Z) λk=>G e [.S 37 (.b false),7,.S 6 (.b (((a.Many.1==0)&&((a.Many.2.1==0)&&(a.Many.2.2==0)))||((1<=a.Many.1)&&((a.Many.1<=a.Many.2.1)&&((a.Many.2.1<=16)&&((1<=a.Many.2.2)&&(a.Many.2.2<=a.Many.2.1)))))))] Z ⟨(tc_ k),(cb_ (Yj f (XL g (XL i (XL j (Yp k Z))))))⟩<|M Z) λj=>G e [.S 33 (.b false),11,.S 6 (.b (((a.Many.1==0)&&((a.Many.2.1==0)&&(a.Many.2.2==0)))||((1<=a.Many.1)&&((a.Many.1<=a.Many.2.1)&&((a.Many.2.1<=16)&&((1<=a.Many.2.2)&&(a.Many.2.2<=a.Many.2.1)))))))] Z ⟨(tc_ j),(cb_ (Yj f (XL g (XL i (Yp j Z)))))⟩<|M Z) λi=>G e [.S 29 (.b false),15,.S 6 (.b (((a.Many.1==0)&&((a.Many.2.1==0)&&(a.Many.2.2==0)))||((1<=a.Many.1)&&((a.Many.1<=a.Many.2.1)&&((a.Many.2.1<=16)&&((1<=a.Many.2.2)&&(a.Many.2.2<=a.Many.2.1)))))))] Z ⟨(tc_ i),(cb_ (Yj f (XL g (Yp i Z))))⟩<|M Z) λg=>G e [.S 24 (.b false),20,.S 6 (.b (((a.Many.1==0)&&((a.Many.2.1==0)&&(a.Many.2.2==0)))||((1<=a.Many.1)&&((a.Many.1<=a.Many.2.1)&&((a.Many.2.1<=16)&&((1<=a.Many.2.2)&&(a.Many.2.2<=a.Many.2.1)))))))] Z ⟨(tc_ g),(cb_ (Yj f (Yp g Z)))⟩<|M Z)<|H e [7] Z<|mV_ h (λu=>⟨[(2,.b u)],[]⟩) (λu h=>B h λw s h=>J e [6,.o (.C2 (.b w)),1] Z (PP _ _ _ s)<|I h (λl h=>B h λx t h=>G e [.S 49 (.b true),5,.o (.C2 (.b x)),2] Z ⟨(tc_ l),(PP _ _ _ t)⟩<|I h (λm h=>L e [.S 57 (.b true),5] Z m<|I h (λp h=>L e [.S 62 (.b true),5] Z p<|I h (λq h=>L e [.S 67 (.b true),4] Z q<|mq_ h Z) λq h=>L e [.S 67 (.b false),4] Z q<|mq_ h Z) λp h=>L e [.S 62 (.b false),9] Z p<|mq_ h Z) λm h=>L e [.S 57 (.b false),14] Z m<|mq_ h Z) λl h=>L e [.S 49 (.b false),22] Z l<|mq_ h Z) λu h=>H e [2] Z<|E h Z U
def Hh (a:QL):O_ Bool:=(Mo a).bind λb=>some b
def QcD (a):CT 182 [.L 617] [(617,.var (Qk a))] (Hh a) V.b (λ_=>[(617,.var (Qk a))]):=
 W 4 func182 Z λC f r h=>B h λg e h=>K f [7,.A (Qk a),.o (.C1 (.b g)),4] Z Z (Qe9 _ _ e)<|E h Z r1_
def Gl (b:QL)(v:Int)(f:Qn)(u:Int)(w:Int)(g:Int)(x:Int)(h:Int)(y:Int)(i:Int)(j:Int)(k:Int)(l:Int)(m:Int)(n:Int):O_ (Int×Int):=(IF b).bind λo=>bif (!o)then some (v,h)else (IH f u b).bind λp=>bif (!p)then some (w,h)else (BQ g b).bind λq=>bif (!q)then some (x,h)else (AD f b h).bind λa=>bif (!a.1)then some (y,a.2)else (BR f u).bind λr=>bif (!r)then some (i,a.2)else (IJ b g).bind λs=>bif (!s)then some (j,a.2)else (AE f b g a.2).bind λd=>bif (!d.1)then some (k,d.2)else (AF f b g d.2).bind λe=>bif (!e.1)then some (l,e.2)else (AG f b e.2).bind λc=>bif (!c.1)then some (m,c.2)else (Hh b).bind λt=>bif (!t)then some (n,c.2)else some (0,c.2)
def QbP (f v2 u S v5 P v7 v8 v9 w x y z D N):CT 98 [.own 617 10] [(617,.var [.clo (.func 168) [] [.L 618],.I v2,.clo (.func 169) [] [.L 619,.L 620,.L 621],.I v5,.clo (.func 171) [] [.L 622,.L 618],.I v7,.clo (.func 215) [] [.L 623,.L 624],.I v9,.clo (.func 175) [] [.L 619,.L 620],.I w,.clo (.func 176) [] [.L 618,.L 622],.I x,.clo (.func 215) [] [.L 626,.L 627],.I y,.clo (.func 215) [] [.L 628,.L 629],.I z,.clo (.func 215) [] [.L 630,.L 631],.I D,.clo (.func 182) [] [.L 618],.I N]),(618,.var (Qk f)),(619,.var (Qa u)),(620,.var (Qb S)),(621,.var [.clo (.func 167) [] [.L 618]]),(622,.var (Qb P)),(623,.var [.clo (.func 173) [] [.L 619,.L 618]]),(624,.var [.L 625]),(625,.var (Qb v8)),(626,.var [.clo (.func 177) [] [.L 619,.L 618,.L 622]]),(627,.var [.L 625]),(628,.var [.clo (.func 179) [] [.L 619,.L 618,.L 622]]),(629,.var [.L 625]),(630,.var [.clo (.func 180) [] [.L 619,.L 618]]),(631,.var [.L 625])] (Gl f v2 u S v5 P v7 v8 v9 w x y z D N) (λr=>(.I r.1)) (λr=>[(617,.var [.clo (.func 168) [] [.L 618],.I v2,.clo (.func 169) [] [.L 619,.L 620,.L 621],.I v5,.clo (.func 171) [] [.L 622,.L 618],.I v7,.clo (.func 215) [] [.L 623,.L 624],.I v9,.clo (.func 175) [] [.L 619,.L 620],.I w,.clo (.func 176) [] [.L 618,.L 622],.I x,.clo (.func 215) [] [.L 626,.L 627],.I y,.clo (.func 215) [] [.L 628,.L 629],.I z,.clo (.func 215) [] [.L 630,.L 631],.I D,.clo (.func 182) [] [.L 618],.I N]),(618,.var (Qk f)),(619,.var (Qa u)),(620,.var (Qb S)),(621,.var [.clo (.func 167) [] [.L 618]]),(622,.var (Qb P)),(623,.var [.clo (.func 173) [] [.L 619,.L 618]]),(624,.var [.L 625]),(625,.var (Qb r.2)),(626,.var [.clo (.func 177) [] [.L 619,.L 618,.L 622]]),(627,.var [.L 625]),(628,.var [.clo (.func 179) [] [.L 619,.L 618,.L 622]]),(629,.var [.L 625]),(630,.var [.clo (.func 180) [] [.L 619,.L 618]]),(631,.var [.L 625])]):=
 W 18 func98 Z λC a r h=>H a [14] Z<|AK.loopN 11<|AK.rnd<|B h λb4 a0 h=>g4_ a [2,.v .no [] (.b true),10,.o (.any (.L 617) none),3,.O 4 (.var [.clo (.func 168) [] [.L 618],.I v2]),6,.cm (.clo) [(617,618)] [(618,617)] [] [.d] [(617,.var (Qk f))] (.b b4),3] Z Z (λσ c e _=>Ql.idxV Z Z (QZ a.n Z) (c _ _ Z) (c _ _ Z) (QN.es Z) (e _ _ Z) (by decide)) Z (QdK _ _ a0)<|I h (λg h=>J a [.T,13] Z g<|E h Z rF_) λg h=>K a [.F,4,.v .no [] (.I 1),2] Z g Z<|AK.met<|AK.rnd<|B h λb5 a1 h=>g4_ a [2,.v .no [] (.b true),10,.o (.any (.loc 617 0 2) none),1,.kill 4,2,.O 4 (.var [.clo (.func 169) [] [.L 619,.L 620,.L 621],.I v5]),6,.cm (.clo) [(617,619),(618,620),(619,621),(620,618)] [(619,617),(620,618),(621,619),(618,620)] [] [.d,.d,.d] [(617,.var (Qa u)),(618,.var (Qb S)),(619,.var [.clo (.func 167) [] [.L 620]]),(620,.var (Qk f))] (.b b5),3] Z Z (λσ c e _=>Ql.idxV Z Z (QZ a.n Z) (c _ _ Z) (c _ _ Z) (QN.es Z) (e _ _ Z) (by decide)) Z (QdM _ _ _ _ a1)<|I h (λi h=>J a [.T,13] Z i<|E h Z rF_) λi h=>K a [.F,4,.v .no [] (.I 2),2] Z i Z<|AK.met<|AK.rnd<|B h λb6 a2 h=>g4_ a [2,.v .no [] (.b true),10,.o (.any (.loc 617 0 4) none),1,.kill 4,2,.O 4 (.var [.clo (.func 171) [] [.L 622,.L 618],.I v7]),6,.cm (.clo) [(617,622),(618,618)] [(622,617),(618,618)] [] [.d,.d] [(617,.var (Qb P)),(618,.var (Qk f))] (.b b6),3] Z Z (λσ c e _=>Ql.idxV Z Z (QZ a.n Z) (c _ _ Z) (c _ _ Z) (QN.es Z) (e _ _ Z) (by decide)) Z (QdN _ _ _ a2)<|I h (λj h=>J a [.T,13] Z j<|E h Z rF_) λj h=>K a [.F,4,.v .no [] (.I 3),2] Z j Z<|AK.met<|AK.rnd<|B h λa3 a4 h=>g4_ a [2,.v .no [] (.b true),10,.o (.any (.loc 617 0 6) none),1,.kill 4,2,.O 4 (.var [.clo (.func 215) [] [.L 623,.L 624],.I v9]),6,.cm (.clo) [(617,623),(618,619),(619,618),(620,624),(621,625)] [(623,617),(619,618),(618,619),(624,620),(625,621)] [] [.d,.d] [(617,.var [.clo (.func 173) [] [.L 618,.L 619]]),(618,.var (Qa u)),(619,.var (Qk f)),(620,.var [.L 621]),(621,.var (Qb a3.2))] (.b a3.1),3] Z Z (λσ c e _=>Ql.idxV Z Z (QZ a.n Z) (c _ _ Z) (c _ _ Z) (QN.es Z) (e _ _ Z) (by decide)) Z (QcA _ _ _ _ a4)<|I h (λk h=>J a [.T,13] Z k<|E h Z rF_) λk h=>K a [.F,4,.v .no [] (.I 4),2] Z k Z<|AK.met<|AK.rnd<|B h λb7 a5 h=>g4_ a [2,.v .no [] (.b true),10,.o (.any (.loc 617 0 8) none),1,.kill 4,2,.O 4 (.var [.clo (.func 175) [] [.L 619,.L 620],.I w]),6,.cm (.clo) [(617,619),(618,620)] [(619,617),(620,618)] [] [.d,.d] [(617,.var (Qa u)),(618,.var (Qb S))] (.b b7),3] Z Z (λσ c e _=>Ql.idxV Z Z (QZ a.n Z) (c _ _ Z) (c _ _ Z) (QN.es Z) (e _ _ Z) (by decide)) Z (QdP _ _ _ a5)<|I h (λl h=>J a [.T,13] Z l<|E h Z rF_) λl h=>K a [.F,4,.v .no [] (.I 5),2] Z l Z<|AK.met<|AK.rnd<|B h λb8 a6 h=>g4_ a [2,.v .no [] (.b true),10,.o (.any (.loc 617 0 10) none),1,.kill 4,2,.O 4 (.var [.clo (.func 176) [] [.L 618,.L 622],.I x]),6,.cm (.clo) [(617,618),(618,622)] [(618,617),(622,618)] [] [.d,.d] [(617,.var (Qk f)),(618,.var (Qb P))] (.b b8),3] Z Z (λσ c e _=>Ql.idxV Z Z (QZ a.n Z) (c _ _ Z) (c _ _ Z) (QN.es Z) (e _ _ Z) (by decide)) Z (QdQ _ _ _ a6)<|I h (λm h=>J a [.T,13] Z m<|E h Z rF_) λm h=>K a [.F,4,.v .no [] (.I 6),2] Z m Z<|AK.met<|AK.rnd<|B h λa7 a8 h=>g4_ a [2,.v .no [] (.b true),10,.o (.any (.loc 617 0 12) none),1,.kill 4,2,.O 4 (.var [.clo (.func 215) [] [.L 626,.L 627],.I y]),6,.cm (.clo) [(617,626),(618,619),(619,618),(620,622),(621,627),(622,625)] [(626,617),(619,618),(618,619),(622,620),(627,621),(625,622)] [] [.d,.d] [(617,.var [.clo (.func 177) [] [.L 618,.L 619,.L 620]]),(618,.var (Qa u)),(619,.var (Qk f)),(620,.var (Qb P)),(621,.var [.L 622]),(622,.var (Qb a7.2))] (.b a7.1),3] Z Z (λσ c e _=>Ql.idxV Z Z (QZ a.n Z) (c _ _ Z) (c _ _ Z) (QN.es Z) (e _ _ Z) (by decide)) Z (ZR _ _ _ _ _ a8)<|I h (λp h=>J a [.T,13] Z p<|E h Z rF_) λp h=>K a [.F,4,.v .no [] (.I 7),2] Z p Z<|AK.met<|AK.rnd<|B h λa9 b0 h=>g4_ a [2,.v .no [] (.b true),10,.o (.any (.loc 617 0 14) none),1,.kill 4,2,.O 4 (.var [.clo (.func 215) [] [.L 628,.L 629],.I z]),6,.cm (.clo) [(617,628),(618,619),(619,618),(620,622),(621,629),(622,625)] [(628,617),(619,618),(618,619),(622,620),(629,621),(625,622)] [] [.d,.d] [(617,.var [.clo (.func 179) [] [.L 618,.L 619,.L 620]]),(618,.var (Qa u)),(619,.var (Qk f)),(620,.var (Qb P)),(621,.var [.L 622]),(622,.var (Qb a9.2))] (.b a9.1),3] Z Z (λσ c e _=>Ql.idxV Z Z (QZ a.n Z) (c _ _ Z) (c _ _ Z) (QN.es Z) (e _ _ Z) (by decide)) Z (ZS _ _ _ _ _ b0)<|I h (λq h=>J a [.T,13] Z q<|E h Z rF_) λq h=>K a [.F,4,.v .no [] (.I 8),2] Z q Z<|AK.met<|AK.rnd<|B h λb1 b2 h=>g4_ a [2,.v .no [] (.b true),10,.o (.any (.loc 617 0 16) none),1,.kill 4,2,.O 4 (.var [.clo (.func 215) [] [.L 630,.L 631],.I D]),6,.cm (.clo) [(617,630),(618,619),(619,618),(620,631),(621,625)] [(630,617),(619,618),(618,619),(631,620),(625,621)] [] [.d,.d] [(617,.var [.clo (.func 180) [] [.L 618,.L 619]]),(618,.var (Qa u)),(619,.var (Qk f)),(620,.var [.L 621]),(621,.var (Qb b1.2))] (.b b1.1),3] Z Z (λσ c e _=>Ql.idxV Z Z (QZ a.n Z) (c _ _ Z) (c _ _ Z) (QN.es Z) (e _ _ Z) (by decide)) Z (ZT _ _ _ _ b2)<|I h (λs h=>J a [.T,13] Z s<|E h Z rF_) λs h=>K a [.F,4,.v .no [] (.I 9),2] Z s Z<|AK.met<|AK.rnd<|B h λb9 b3 h=>g4_ a [2,.v .no [] (.b true),10,.o (.any (.loc 617 0 18) none),1,.kill 4,2,.O 4 (.var [.clo (.func 182) [] [.L 618],.I N]),6,.cm (.clo) [(617,618)] [(618,617)] [] [.d] [(617,.var (Qk f))] (.b b9),3] Z Z (λσ c e _=>Ql.idxV Z Z (QZ a.n Z) (c _ _ Z) (c _ _ Z) (QN.es Z) (e _ _ Z) (by decide)) Z (QcD _ _ b3)<|I h (λt h=>J a [.T,13] Z t<|E h Z rF_) λt h=>K a [.F,4,.v .no [] (.I 10),2] Z t Z<|AK.met<|AK.rnd<|J a [2,.v .no [] (.b false),15] Z Z<|E h Z rF_
def Kg (a:Qn)(e:Int):O_ Int:=(Jl a.Tasks e).bind λg=>bif (!g)then some 3 else (AC a).bind λf=>bif (f.2 != 0)then some f.2 else (idx a.Tasks e).bind λd=>(idx a.Tasks e).bind λb=>(Mn 0 a d).bind λh=>(Cw 0 a d (b.Vars.length:Int)).bind λi=>(Cx 0 a d (b.Vars.length:Int)).bind λj=>(Cy 0 a d).bind λk=>(Gl d 1 a e 5 (b.Vars.length:Int) 2 0 (-1) 2 1 (-1) (-1) (-1) 11).bind λc=>bif (c.1==(-1))then some c.2 else some c.1
def QgH (i z):CT 109 [.agg (Qa i),.I z] [] (Kg i z) V.I no_:=
 W 68 func109 Z λC g r h=>B h λx5 D h=>J g [13,.o (.C2 (.b x5)),3] Z (He _ _ _ D)<|I h (λk h=>J g [.T,7] Z k<|E h Z U) λk h=>B h λx7 P h=>g3_ g [.F,5,.A (Qa i),.o (.C1 (.tup [.I x7.1,.I x7.2])),13] Z k Z (PO _ _ P)<|I h (λl h=>J g [.T,8] Z l<|E h Z U) λl h=>B h λj S h=>B h λe p h=>G g [.F,3,.K [2,3] [2,3]] Z (A l) <| 
  dr_ g [.N,.N,.N,.B (.row (Qk j)),.E (.agg (Qk j)),.a .no none true,.a .no none true,.a .no none true,.a (.row (Qk e)) none true,.a .no none true,.a .no none true,.a (.ln e.Vars.length) none true,.N,.N,.m .s,.m .s] [2,3] [2,3] [2,3,7,8] [2,3,7,8] Z Z (a4_ (QI S) Z (QI p) Qc) Z <|
  B h λa0 q h=>B h λa1 t h=>B h λa2 u h=>B h λa3 w h=>B h λx y h=>G g [.O 7 (.var (Qk j)),.O 8 (.var (Qb (e.Vars.length:Int))),6,.O 9 (.var [.clo (.func 167) [] [.L 7]]),10,.A [.clo (.func 168) [] [.L 7],.I 1],1,.A [.clo (.func 169) [] [.L 2,.L 3,.L 9],.I 5],1,.A [.clo (.func 171) [] [.L 8,.L 7],.I 2],1,.cm (.fn) [(617,10),(618,2),(619,7)] [(45,2),(610,3),(10,617),(2,618),(7,619)] [] [.d,.d] [(2,.var [.L 617]),(3,.var [.clo (.func 173) [] [.L 618,.L 619]]),(617,.var (Qb 0)),(618,.var (Qa i)),(619,.var (Qk j))] (.clo (.func 215) [] [.L 3,.L 2]),.A [.clo (.func 215) [] [.L 610,.L 45],.I (-1)],1,.A [.clo (.func 175) [] [.L 2,.L 3],.I 2],1,.A [.clo (.func 176) [] [.L 7,.L 8],.I 1],1,.cm (.fn) [(617,10),(618,2),(619,7),(620,8)] [(52,2),(611,3),(10,617),(2,618),(7,619),(8,620)] [] [.d,.d] [(2,.var [.L 617]),(3,.var [.clo (.func 177) [] [.L 618,.L 619,.L 620]]),(617,.var (Qb 0)),(618,.var (Qa i)),(619,.var (Qk j)),(620,.var (Qb (e.Vars.length:Int)))] (.clo (.func 215) [] [.L 3,.L 2]),.A [.clo (.func 215) [] [.L 611,.L 52],.I (-1)],1,.cm (.fn) [(617,10),(618,2),(619,7),(620,8)] [(55,2),(612,3),(10,617),(2,618),(7,619),(8,620)] [] [.d,.d] [(2,.var [.L 617]),(3,.var [.clo (.func 179) [] [.L 618,.L 619,.L 620]]),(617,.var (Qb 0)),(618,.var (Qa i)),(619,.var (Qk j)),(620,.var (Qb (e.Vars.length:Int)))] (.clo (.func 215) [] [.L 3,.L 2]),.A [.clo (.func 215) [] [.L 612,.L 55],.I (-1)],1,.cm (.fn) [(617,10),(618,2),(619,7)] [(58,2),(613,3),(10,617),(2,618),(7,619)] [] [.d,.d] [(2,.var [.L 617]),(3,.var [.clo (.func 180) [] [.L 618,.L 619]]),(617,.var (Qb 0)),(618,.var (Qa i)),(619,.var (Qk j))] (.clo (.func 215) [] [.L 3,.L 2]),.A [.clo (.func 215) [] [.L 613,.L 58],.I (-1)],1,.A [.clo (.func 182) [] [.L 7],.I 11],.o (.any (.own 62 10) (some (.var [.clo (.func 168) [] [.L 7],.I 1,.clo (.func 169) [] [.L 2,.L 3,.L 9],.I 5,.clo (.func 171) [] [.L 8,.L 7],.I 2,.clo (.func 215) [] [.L 610,.L 45],.I (-1),.clo (.func 175) [] [.L 2,.L 3],.I 2,.clo (.func 176) [] [.L 7,.L 8],.I 1,.clo (.func 215) [] [.L 611,.L 52],.I (-1),.clo (.func 215) [] [.L 612,.L 55],.I (-1),.clo (.func 215) [] [.L 613,.L 58],.I (-1),.clo (.func 182) [] [.L 7],.I 11]))),.cm (.fn) [(617,62),(618,7),(619,2),(620,3),(621,9),(622,8),(623,610),(624,45),(625,10),(626,611),(627,52),(628,612),(629,55),(630,613),(631,58)] [(62,617),(7,618),(2,619),(3,620),(9,621),(8,622),(610,623),(45,624),(10,625),(611,626),(52,627),(612,628),(55,629),(613,630),(58,631)] [] [.d] [(617,.var [.clo (.func 168) [] [.L 618],.I 1,.clo (.func 169) [] [.L 619,.L 620,.L 621],.I 5,.clo (.func 171) [] [.L 622,.L 618],.I 2,.clo (.func 215) [] [.L 623,.L 624],.I (-1),.clo (.func 175) [] [.L 619,.L 620],.I 2,.clo (.func 176) [] [.L 618,.L 622],.I 1,.clo (.func 215) [] [.L 626,.L 627],.I (-1),.clo (.func 215) [] [.L 628,.L 629],.I (-1),.clo (.func 215) [] [.L 630,.L 631],.I (-1),.clo (.func 182) [] [.L 618],.I 11]),(618,.var (Qk j)),(619,.var (Qa i)),(620,.var (Qb z)),(621,.var [.clo (.func 167) [] [.L 618]]),(622,.var (Qb (e.Vars.length:Int))),(623,.var [.clo (.func 173) [] [.L 619,.L 618]]),(624,.var [.L 625]),(625,.var (Qb x.2)),(626,.var [.clo (.func 177) [] [.L 619,.L 618,.L 622]]),(627,.var [.L 625]),(628,.var [.clo (.func 179) [] [.L 619,.L 618,.L 622]]),(629,.var [.L 625]),(630,.var [.clo (.func 180) [] [.L 619,.L 618]]),(631,.var [.L 625])] (.I x.1),10] Z ⟨⟨⟨⟨⟨⟨⟨⟨⟨⟨⟨⟨⟨⟨⟨⟨⟨⟨⟨U,Z⟩,Z⟩,Z⟩,Z⟩,Z⟩,Z⟩,(Qe8 _ _ _ _ q)⟩,Z⟩,Z⟩,Z⟩,(QbG _ _ _ _ _ t)⟩,Z⟩,(QbH _ _ _ _ _ u)⟩,Z⟩,(QbI _ _ _ _ w)⟩,Z⟩,Z⟩,(λσ h1 h2 hf=>Ql.buildAny Z Z (QZ g.n Z) (QN.es Z) PJ Z (by decide) (by decide) (Un h1 Z) Z Z (hf Z))⟩,(QbP _ _ _ _ _ _ _ _ _ _ _ _ _ _ _ _ y)⟩<|I h (λf h=>J g [.T,8] Z f<|E h Z U) λf h=>J g [.F,9] Z f<|E h Z U
def Fh (a:Int)(d:QL)(b:Qn):O_ Int:=(Kg b a).bind λc=>some c
def Qfa (e f a):CT 108 [.I e,.agg (Qk f),.L 617] [(617,.var (Qa a))] (Fh e f a) V.I (λ_=>[(617,.var (Qa a))]):=
 W 9 func108 Z λC g r h=>B h λi b h=>K g [8,.A (Qa a),1,.o (.C2 (.I i)),4] Z Z (QgH _ _ _ b)<|E h Z r1_
def KM (d:(L_ QL))(e:Qn)(a:Int):O_ (Int⊕((Int×Int)⊕Unit)):=bif (a<(d.length:Int))then (idx d a).bind λc=>(Fh a c e).bind λb=>bif (b != 0)then some (.inr (.inl (a,b)))else some (.inl (Qj (a+1)))else some (.inr (.inr ()))
def Uy (b:Int)(a:Int):O_ (Int×Int):=some (b,a)
def Uz : O_ (Int×Int):=some (0,0)
def KC (a:(L_ QL))(b:Qn):O_ (Int×Int):=(Qs (λst=>KM a b st) 0).bind (Sum.elim (λq=>Uy q.1 q.2) (λq=>Uz))
def Tj (g f):CT 107 [.sl 14 (g.map Qk),.clo (.func 108) [] [.L 617]] [(617,.var (Qa f))] (KC g f) (λr=>(.tup [.I r.1,.I r.2])) (λ_=>[(617,.var (Qa f))]):=
 W 25 func107 Z λC e r h=>J e [10,.o (.ln g.length),4] Z Qc<|lq_ h (λst=>⟨[(1,.clo (.func 108) [] [.L 617]),(9,.sl 14 (g.map Qk)),(10,.I (g.length:Int)),(11,.I st)],[(617,.var (Qa f))]⟩) (λq=>(.ret,⟨[(4,.I q.1),(5,.I q.2)],[(617,.var (Qa f))]⟩)) (λq=>(.exit 0,⟨[],[(617,.var (Qa f))]⟩)) Z (λm o h=>H e [6] Z<|I h (λa h=>B h λc i h=>B h λk j h=>G e [.T,7,.o (.row (Qk c)),.A (Qk c),3,.O 7 (.var (Qk c)),6,.A (Qk c),.cm (.clo) [(617,617)] [(617,617)] [] [.d,.d,.d] [(617,.var (Qa f))] (.I k),9] Z (a6_ a (QI i) Z Z Z (Qfa _ _ _ _ j))<|I h (λb h=>J e [.T,11] Z b<|rR_ h Z) λb h=>J e [.F,7] Z b<|rN_ h Z) λa h=>J e [.F,2] Z a<|rX_ h Z) (λ⟨p,l⟩ h=>H e [2] Z<|F h Z Z r1_) (λ_ h=>H e [9] Z<|F h Z Z r1_)
def GH (c:Qn):O_ (Int×Ec):=(Fe c 2 3 1).bind λe=>bif (e != 0)then some (e,(Ec.mk 1 0))else (AC c).bind λd=>bif (d.2 != 0)then some (d.2,(Ec.mk 2 d.1))else (GG c.Places c).bind λa=>bif (a.2 != 0)then some (a.2,(Ec.mk 3 a.1))else (KC c.Tasks c).bind λb=>bif (b.2 != 0)then some (b.2,(Ec.mk 4 b.1))else some (0,(Ec.mk 0 0))
def Qic (k):CT 52 [.agg (Qa k)] [] (GH k) (λr=>(.tup [.agg (WV r.2),.I r.1])) no_:=by
 refine W 58 func52 rfl λC e r h=>?_
 obtain⟨t,q,h⟩:=Qw h
 refine QJ e [10,.A [.clo (.func 99) [] [.L 1],.I 2],1,.A [.clo (.func 100) [] [.L 1],.I 3],1,.A [.clo (.func 102) [] [.L 1],.I 1],.o (.any (.own 17 3) (some (.var [.clo (.func 99) [] [.L 1],.I 2,.clo (.func 100) [] [.L 1],.I 3,.clo (.func 102) [] [.L 1],.I 1]))),.cm (.fn) [(617,17),(618,1)] [(17,617),(1,618)] [] [.d] [(617,.var [.clo (.func 99) [] [.L 618],.I 2,.clo (.func 100) [] [.L 618],.I 3,.clo (.func 102) [] [.L 618],.I 1]),(618,.var (Qa k))] (.I t),10] Z (a5_ Z Z Z (λσ u w D=>Ql.buildAny Z Z (QZ e.n Z) (QN.es Z) PJ Z (by decide) (by decide) (Un u Z) Z Z (D Z)) (Qe4 _ _ _ _ _ q)) ?_
 rcases Xr h with⟨i,h⟩|⟨i,h⟩
 ·refine QJ e [.T,2,.A (WV (Ec.mk 1 0)),2,.O 2 (.var (WV (Ec.mk 1 0))),5,.K [2,3] [2]] Z (a3_ i Z Z) ?_
  cases h
  exact AK.done (ex_ [_,_] (an_ (an_ (ex_ _ (ex_ _ (an_ Z (an_ Z (Or.inl (an_ (QN.ag Z) (an_ (QN.sz Z) Z))))))) (an_ Z U)) (gives U)))
 obtain⟨p,s,h⟩:=Qw h
 refine QJ e [.F,5,.A (Qa k),.o (.C1 (.tup [.I p.1,.I p.2])),13] Z (a3_ i Z (PO _ _ s)) ?_
 rcases Xr h with⟨j,h⟩|⟨j,h⟩
 ·refine QJ e [.T,3,.A (WV (Ec.mk 2 p.1)),2,.O 2 (.var (WV (Ec.mk 2 p.1))),5,.K [2,3] [2]] Z (a3_ j Z Z) ?_
  cases h
  exact AK.done (ex_ [_,_] (an_ (an_ (ex_ _ (ex_ _ (an_ Z (an_ Z (Or.inl (an_ (QN.ag Z) (an_ (QN.sz Z) Z))))))) (an_ Z U)) (gives U)))
 obtain⟨f,l,h⟩:=Qw h
 refine QJ e [.F,8,.cm (.fn) [(617,1)] [(1,617)] [] [.d,.d] [(617,.var (Qa k))] (.tup [.I f.1,.I f.2]),13] Z (a2_ j (Sd _ _ _ l)) ?_
 rcases Xr h with⟨a,h⟩|⟨a,h⟩
 ·refine QJ e [.T,3,.A (WV (Ec.mk 3 f.1)),2,.O 2 (.var (WV (Ec.mk 3 f.1))),5,.K [2,3] [2]] Z (a3_ a Z Z) ?_
  cases h
  exact AK.done (ex_ [_,_] (an_ (an_ (ex_ _ (ex_ _ (an_ Z (an_ Z (Or.inl (an_ (QN.ag Z) (an_ (QN.sz Z) Z))))))) (an_ Z U)) (gives U)))
 obtain⟨g,m,h⟩:=Qw h
 refine QJ e [.F,8,.cm (.fn) [(617,1)] [(1,617)] [] [.d,.d] [(617,.var (Qa k))] (.tup [.I g.1,.I g.2]),13] Z (a2_ a (Tj _ _ _ m)) ?_
 refine bg_ h (λb h=>QJ e [.T,3,.A (WV (Ec.mk 4 g.1)),2,.O 2 (.var (WV (Ec.mk 4 g.1))),5,.K [2,3] [2]] rfl (a3_ b rfl rfl) ?_) λb h=>QJ e [.F,4,.A (WV (Ec.mk 0 0)),1,.O 2 (.var (WV (Ec.mk 0 0))),4,.K [2,3] [2]] rfl (a3_ b rfl rfl) ?_
 ·cases h
  exact AK.done (ex_ [_,_] (an_ (an_ (ex_ _ (ex_ _ (an_ Z (an_ Z (Or.inl (an_ (QN.ag Z) (an_ (QN.sz Z) Z))))))) (an_ Z U)) (gives U)))
 cases h
 exact AK.done (ex_ [_,_] (an_ (an_ (ex_ _ (ex_ _ (an_ Z (an_ Z (Or.inl (an_ (QN.ag Z) (an_ (QN.sz Z) Z))))))) (an_ Z U)) (gives U)))
def VF (a:QBg)(b:Int):O_ Bool:=(GE a).bind λc=>bif (!c)then some true else bif (0<(a.length:Int))then (idx a (Qj ((a.length:Int)-1))).bind λd=>some (decide (b<=d.1))else some false
def VG (b:Int)(a:Bool):O_ (Int⊕(Unit⊕Unit)):=bif a then some (.inr (.inl ()))else some (.inl (Qj (b+1)))
def Oj (e:QMk)(f:Qn)(a:Int):O_ (Int⊕(Unit⊕Unit)):=bif (a<(e.length:Int))then (idx e a).bind λg=>(idx f.Places a).bind λb=>(Yl f.Colours b.Colour).bind λc=>(VF g c).bind (λd=>VG a d)else some (.inr (.inr ()))
def QgI : O_ Bool:=some false
def QgJ : O_ Bool:=some true
def Ok (a:Qn)(b:QMk):O_ Bool:=bif ((b.length:Int) != (a.Places.length:Int))then some false else (Qs (λst=>Oj b a st) 0).bind (Sum.elim (λq=>QgI) (λq=>QgJ))
def QgK (p j):CT 53 [.agg (Qa p),.sl 1 (j.map Qe)] [] (Ok p j) V.b no_:=
 W 50 func53 Z λC e r h=>K e [10,.o (.ln j.length),2,.o (.ln p.Places.length),3] Z Qc Qc<|I h (λk h=>J e [.T,7] Z k<|E h Z U) λk h=>K e [.F,6,.o (.ln j.length),4] Z k Qc<|lq_ h (λst=>⟨[lk_ 2,(14,.sl 1 (j.map Qe)),(15,.I (j.length:Int)),(16,.I st)],[(2,.var (Qa p))]⟩) (λq=>(.ret,⟨[(4,.b false)],[]⟩)) (λq=>(.exit 0,⟨[],[]⟩)) Z (λP o h=>H e [6] Z<|I h (λl h=>B h λw x h=>B h λy s h=>B h λz t h=>G e [.T,7,.o (.row (Qe w)),6,.K [2,5,6,14,15,16] [2]] Z (a2_ l (QI x)) <| 
  dr_ e [.N,.N,.N,.N,.N,.B (.row (QK y)),.N,.N,.B (.C2 (.I z)),.N] [] [] [2,6,7,14,15,16] [2] Z Z (a2_ (QI s) (Cs _ _ _ t)) Z <|
  H e [2] Z<|mV_ h (λm=>⟨[lk_ 2,(14,.sl 1 (j.map Qe)),(15,.I (j.length:Int)),(16,.I P),(48,.b m)],[(2,.var (Qa p))]⟩) (λm h=>B h λD u h=>J e [2,.o (.C1 (.b D)),2] Z (Iq _ _ u)<|I h (λf h=>L e [.S 33 (.b true),16] Z f<|mq_ h Z) λf h=>G e [.S 33 (.b false),1,.o (.ln w.length),2] Z ⟨(tc_ f),Qc⟩<|I h (λg h=>B h λO v h=>G e [.S 37 (.b true),2,.o (.ln w.length),1,.o (.row (Qo O)),7] Z ⟨⟨(tc_ g),Qc⟩,(QI v)⟩<|mq_ h Z) λg h=>L e [.S 37 (.b false),12] Z g<|mq_ h Z) λm h=>H e [1] Z<|I h (λi h=>J e [.T,8] Z i<|rR_ h Z) λi h=>J e [.F,7] Z i<|rN_ h Z) λl h=>J e [.F,2] Z l<|rX_ h Z) (λ_ h=>H e [2] Z<|E h Z U) (λ_ h=>H e [8] Z<|E h Z U)
def Hj (a:(Int×Ec))(c:Qn)(d:QMk):O_ Bool:=bif (a.1 != 0)then some true else (Ok c d).bind λb=>some (!b)
def Ol (d:Qn)(a:Int)(b:Int):O_ ((Int×Int)⊕Int):=bif (b<(d.Tasks.length:Int))then (idx d.Tasks b).bind λc=>(WJ d b).bind λe=>some (.inl ((Qj (a+(Qj (e*(Qj (1+(Qj ((c.Ins.length:Int)*(c.Outs.length:Int))))))))),(Qj (b+1))))else some (.inr a)
def QgL (a:Int):O_ Bool:=some (decide (a<=600))
def Hk (b:Qn)(a:Bool):O_ Bool:=bif a then some false else (Qs (λst=>Ol b st.1 st.2) (0,0)).bind (λq=>QgL q)
def GS (a:Qn)(d:QMk):O_ Bool:=
 (Ps a).bind λe=>
 (Pu d).bind λf=>
 bif ((!e)||((!f)||(12<(a.Tasks.length:Int))))then
 some false
 else
 (GH a).bind λb=>
 (Hj b a d).bind (λc=>Hk a c)
def QgM (f m2):CT 27 [.agg (Qa f),.sl 1 (m2.map Qe)] [] (GS f m2) V.b no_:=
 W 69 func27 Z λC e r h=>B h λx a3 h=>B h λy a4 h=>g3_ e [8,.A (Qa f),.o (.C1 (.b x)),6,.o (.C1 (.b y)),5] Z Z (Qh9 _ _ a3) (Qib _ _ a4)<|Y ⟨[(1,.sl 1 (m2.map Qe)),lk_ 2,(27,.b ((!x)||((!y)||(12<(f.Tasks.length:Int)))))],[(2,.var (Qa f))]⟩ (H e [4] Z<|bO_ (!x) (λg=>G e [.S 18 (.b true),10,.S 27 (.b ((!x)||((!y)||(12<(f.Tasks.length:Int)))))] Z ⟨(tc_ g),(cb_ (KB g Z))⟩<|M Z) λg=>L e [.S 18 (.b false),4] Z g<|bO_ (!y) (λi=>G e [.S 22 (.b true),6,.S 27 (.b ((!x)||((!y)||(12<(f.Tasks.length:Int)))))] Z ⟨(tc_ i),(cb_ (Yj g (KB i Z)))⟩<|M Z) λi=>G e [.S 22 (.b false),2,.o (.ln f.Tasks.length),3,.S 27 (.b ((!x)||((!y)||(12<(f.Tasks.length:Int)))))] Z ⟨⟨(tc_ i),Qc⟩,(cb_ (Yj g (Yj i Z)))⟩<|M Z)<|H e [1] Z<|I h (λj h=>J e [.T,7] Z j<|E h Z U) λj h=>B h λu z h=>g4_ e [.F,4,.A (Qa f),.o (.C1 (.tup [.agg (WV u.2),.I u.1])),5,.O 7 (.var (WV u.2)),5] Z j Z (Qic _ _ z) Z<|mV_ h (λw=>⟨[lk_ 2,(40,.b w)],[(2,.var (Qa f))]⟩) (λw h=>H e [4] Z<|I h (λk h=>L e [.S 35 (.b true),6] Z k<|mq_ h Z) λk h=>B h λa5 D h=>G e [.S 35 (.b false),.A (Qa f),1,.o (.C2 (.b a5)),3] Z ⟨⟨(tc_ k),Z⟩,(QgK _ _ _ D)⟩<|mq_ h Z) λw h=>H e [1] Z<|I h (λl h=>J e [.T,7] Z l<|E h Z U) λl h=>J e [.F,14] Z l<|lp_ h (λst=>⟨[lk_ 2,(9,.I st.1),(10,.I st.2)],[(2,.var (Qa f))]⟩) (λq=>(.exit 0,⟨[(9,.I q)],[]⟩)) Z (λ⟨a1,a7⟩ o h=>J e [6,.o (.ln f.Tasks.length),3] Z Qc<|I h (λp h=>B h λt P h=>B h λa6 a0 h=>G e [.T,9,.o (.row (Qk t)),.A (Qk t),2,.O 11 (.var (Qk t)),2,.K [2,9,10,11] [2,11]] Z (a4_ p (QI P) Z Z) <| 
  dr_ e [.N,.E (.agg (Qa f)),.N,.B (.C2 (.I a6)),.N,.N,.B (.ln t.Ins.length),.N,.N,.B (.ln t.Outs.length),.N,.N,.N,.N,.m .s] [] [] [2,9,10] [2] Z Z (a4_ Z (Tg _ _ _ a0) Qc Qc) Z <|
  H e [7] Z<|rN_ h Z) λp h=>J e [.F,2] Z p<|rX_ h Z) λa2 h=>H e [10] Z<|E h Z U
def ZU (a:Unit):O_ Int:=some 0
noncomputable def Gm (D:Int)(j:Int)(h:Int):O_ (Int⊕Empty):=some (.inl (Qj (D+h)))
def OZ (a:Int):O_ Int:=some a
noncomputable def IN (h:QBg):O_ Int:=(CX (λst p=>Gm st p.1 p.2) 0 h).bind (Sum.elim (λq=>OZ q) (λq=>Empty.elim q))
def Pv (a:QBg):O_ Int:=(MJ a).bind (Sum.elim (λq=>ZU q) (λq=>IN q))
def Qid (z):CT 55 [.sl 2 (z.map Qo)] [] (Pv z) V.I no_:=by
 refine W 23 func55 rfl λC a r h=>?_
 obtain⟨N,j,h⟩:=Qw h
 refine tg_ a [8] ?_
 rcases N with(O | v)
 ·exact have h:ZU O=some r:=h;K a [.cm (.fn) [] [] [] [.d] [] (.tup [.lit (.map none),.b false]),16,.x (λσ=>(σ.set 14 .itr0).put 14 (.L 14)),3] Z (Ud _ j) (Ql.range0 Z Z (QZ a.n Z) Z GO Z)<|AK.loopOnce<|J a [2,.x (λσ=>σ.put 15 (.tup [.b false])),17] Z (Ql.next0 Z Z (QZ a.n Z) Z Z)<|E h Z U
 replace h:IN v=some r:=h
 refine QJ a [.cm (.fn) [] [(10,601)] [] [.d] [(601,.map (QT V.I V.I v))] (.tup [.map 601,.b true]),16] Z (A (Ud _ j)) ?_
 refine AK.openMap (b:=10) Cm rfl λc g L7 k l=>?_
 refine QJ a [.x (λσ=>(σ.set 14 (.itr c g #[] none)).put 14 (.L 14)),3,.K [5,14] [10,14]] Z (A (Ql.range (b:=10) Z Z (QZ a.n Z) Z Z GO Z)) ?_
 obtain⟨w,s,h⟩:=Qw h
 refine AK.range (body:=(λst p=>Gm st p.1 p.2)) (λst seen σ=>∃cur:O_ Nat,σ=⟨[(5,.I st),lk_ 14],[(10,.mapX c g (Fz V.I V.I L7) (QT V.I V.I v)),(14,.itr c g seen cur)]⟩) (λ(q:Empty) _ _=>False) (λst e σ=>e=.exit 0/\σ=⟨[(5,.I st)],[]⟩) k l s (ex_ _ rfl) ?_ ?_
 ·rintro y seen σ ⟨cur,rfl⟩ hex
  refine tg_ a [2] ?_
  refine AK.nextT (b:=14) (m:=10) rfl rfl rfl (QZ a.n rfl) rfl rfl rfl rfl ?_ ?_
  ·intro hleft
   refine tg_ a [7,.K [5] []] ?_
   exact AK.done (Or.inl (an_ hleft (an_ (λh=>(by cases h)) (an_ Z Z))))
  intro D t u i
  obtain⟨o,h⟩:=hex _ i
  have ho:=h
  replace h:Gm y t u=some o:=h
  refine QJ a [10,.x (λσ=>σ.put 17 (.tup [.I t,.I u])),11,.K [5,14] [10,14]] Z (A (Ql.entryT (b:=14) (m:=10) (e:=V.I) (f:=V.I) Z Z (QZ a.n Z) Z i Z Z)) ?_
  cases h
  exact AK.done (Or.inr (ex_ _ (an_ i (Or.inl (ex_ _ (an_ ho (an_ Z (ex_ _ Z))))))))
 rcases w with(y | q)
 ·replace h:OZ y=some r:=h
  unfold OZ at h
  rintro e σ ⟨rfl,rfl⟩
  exact H a [9] Z<|E h Z U
 exact q.elim
def Hl (c:QMk)(d:Int)(a:Int):O_ ((Int×Int)⊕Int):=bif (a<(c.length:Int))then (idx c a).bind λe=>(Pv e).bind λb=>some (.inl ((Qj (d+b)),(Qj (a+1))))else some (.inr d)
def QgN (a:Int):O_ Int:=some a
def Om (a:QMk):O_ Int:=(Qs (λst=>Hl a st.1 st.2) (0,0)).bind (λq=>QgN q)
def QgO (b):CT 28 [.sl 1 (b.map Qe)] [] (Om b) V.I no_:=
 W 18 func28 Z λC e r h=>J e [14,.o (.ln b.length),4] Z Qc<|lp_ h (λst=>⟨[(3,.I st.1),(6,.sl 1 (b.map Qe)),(7,.I (b.length:Int)),(8,.I st.2)],[]⟩) (λq=>(.exit 0,⟨[(3,.I q)],[]⟩)) Z (λ⟨k,l⟩ o h=>H e [6] Z<|I h (λa h=>B h λj g h=>B h λi f h=>g3_ e [.T,6,.o (.row (Qe j)),7,.o (.C1 (.I i)),9] Z a (QI g) (Qid _ _ f)<|rN_ h Z) λa h=>J e [.F,2] Z a<|rX_ h Z) λm h=>H e [9] Z<|E h Z U
def On (c:Bool)(a:Int)(d:Qn)(e:QMk):O_ Bool:=bif c then bif (a<=12)then bif ((d.Tasks.length:Int)<=6)then (Om e).bind λb=>some (decide (b<=30))else some false else some false else some false
def Oo (a:Bool):O_ Bool:=some a
def HR (b:Qn)(c:QMk)(a:Int):O_ Bool:=(GS b c).bind λd=>(On d a b c).bind (λe=>Oo e)
def QgP (k q a):CT 9 [.agg (Qa k),.sl 1 (q.map Qe),.I a] [] (HR k q a) V.b no_:=
 W 27 func9 Z λC f r h=>B h λs l h=>K f [8,.A (Qa k),1,.o (.C2 (.b s)),4] Z Z (QgM _ _ _ l)<|mV_ h (λm=>⟨[(6,.b m)],[]⟩) (λm h=>H f [3] Z<|I h (λg h=>L f [.S 12 (.b true),4] Z g<|I h (λi h=>G f [.S 16 (.b true),2,.o (.ln k.Tasks.length),3] Z ⟨(tc_ i),Qc⟩<|I h (λe h=>B h λp j h=>G f [.S 22 (.b true),1,.o (.C1 (.I p)),4] Z ⟨(tc_ e),(QgO _ _ j)⟩<|mq_ h Z) λe h=>L f [.S 22 (.b false),6] Z e<|mq_ h Z) λi h=>L f [.S 16 (.b false),12] Z i<|mq_ h Z) λg h=>L f [.S 12 (.b false),16] Z g<|mq_ h Z) λm h=>H f [2] Z<|E h Z U
def Mp (a:Qn)(b:QMk):O_ Int:=(EU a b 60).bind λc=>some (c.length:Int)
def Qfb (a c):CT 10 [.agg (Qa a),.sl 1 (c.map Qe)] [] (Mp a c) V.I no_:=
 W 9 func10 Z λC f r h=>B h λe b h=>K f [8,.A (Qa a),1,.o (.co false [.d,.d,.d] 4 (e.map Qf) e.length),5] Z Z ⟨(Rb _ _ _ _ b),Qc,.inl Z⟩<|E h Z U
def PQ (b:Int)(a:Int)(c:LI_):O_ ((Int×LI_)⊕LI_):=bif (a<b)then (chk (c.length+([a]:L_ Int).length<=4294967296)).bind λ_=>some (.inl ((Qj (a+1)),(c++([a]:L_ Int))))else some (.inr c)
def AI (a:QLL):O_ QLL:=some a
def QcE (b:Int)(a:Int)(c:QLL):O_ ((Int×QLL)⊕QLL):=bif (a<b)then (chk (c.length+([([a]:L_ Int)]:L_ LI_).length<=4294967296)).bind λ_=>some (.inl ((Qj (a+1)),(c++([([a]:L_ Int)]:L_ LI_))))else some (.inr c)
def QcF (a:QLL):O_ QLL:=AI a
def QcG (b:Int)(a:Int)(c:Int):O_ ((Int×Int)⊕Int):=bif (c<b)then some (.inl ((Qj (2*a)),(Qj (c+1))))else some (.inr a)
def HS (a:Int)(b:Int)(c:LI_):O_ ((Int×Int×LI_)⊕LI_):=some (.inl ((Qj (Int.tdiv a 2)),(Qj (b+1)),c))
def QcH (c:Int)(d:Int)(a:Int)(b:LI_):O_ ((Int×Int×LI_)⊕LI_):=bif (a<c)then bif ((Int.tmod d 2)==1)then (chk (b.length+([a]:L_ Int).length<=4294967296)).bind λ_=>HS d a (b++([a]:L_ Int))else HS d a b else some (.inr b)
def QcI (a:QLL)(c:Int)(b:LI_):O_ ((Int×QLL)⊕QLL):=(chk (a.length+([b]:L_ LI_).length<=4294967296)).bind λ_=>some (.inl ((Qj (c+1)),(a++([b]:L_ LI_))))
def QcJ (a:Int)(b:Int)(c:Int)(d:QLL):O_ ((Int×QLL)⊕QLL):=bif (c<a)then (Qs (λst=>QcH b st.1 st.2.1 st.2.2) (c,0,([]:L_ Int))).bind (λq=>QcI d c q)else some (.inr d)
def QbQ (a:QLL):O_ QLL:=AI a
def QbR (a:Int)(b:Int):O_ QLL:=(Qs (λst=>QcJ b a st.1 st.2) (1,([]:L_ LI_))).bind (λq=>QbQ q)
def OK (a:Int)(b:Int)(c:LI_):O_ QLL:=bif (a==1)then some ([c]:L_ LI_)else bif (a==2)then (Qs (λst=>QcE b st.1 st.2) (0,([]:L_ LI_))).bind (λq=>QcF q)else bif (a==3)then (Qs (λst=>QcG b st.1 st.2) (1,0)).bind (λq=>QbR b q)else AI ([]:L_ LI_)
def DC (b:Int)(a:Int):O_ QLL:=
 bif ((a<0)||((16<a)||((b==3)&&(4<a))))then
 some ([]:L_ LI_)
 else
 (Qs (λst=>PQ a st.1 st.2) (0,([]:L_ Int))).bind (λq=>OK b a q)
def HT (c a):CT 114 [.I c,.I a] [] (DC c a) (λr=>(.own 600 r.length)) (λr=>[(600,.arr 1 (r.map Qz))]):=
 W 89 func114 Z λC d r h=>H d [7] Z<|Y ⟨[(0,.I c),(1,.I a),(28,.b ((a<0)||((16<a)||((c==3)&&(4<a)))))],[]⟩ (H d [4] Z<|bO_ (decide (a<0)) (λg=>G d [.S 17 (.b true),12,.S 28 (.b ((a<0)||((16<a)||((c==3)&&(4<a)))))] Z ⟨(tc_ g),(cb_ (KB g Z))⟩<|M Z) λg=>L d [.S 17 (.b false),4] Z g<|bO_ (decide (16<a)) (λi=>G d [.S 21 (.b true),8,.S 28 (.b ((a<0)||((16<a)||((c==3)&&(4<a)))))] Z ⟨(tc_ i),(cb_ (Yj g (KB i Z)))⟩<|M Z) λi=>L d [.S 21 (.b false),3] Z i<|bO_ (c==3) (λj=>G d [.S 24 (.b true),5,.S 28 (.b ((a<0)||((16<a)||((c==3)&&(4<a)))))] Z ⟨(tc_ j),(cb_ (Yj g (Yj i (XL j Z))))⟩<|M Z) λj=>G d [.S 24 (.b false),5,.S 28 (.b ((a<0)||((16<a)||((c==3)&&(4<a)))))] Z ⟨(tc_ j),(cb_ (Yj g (Yj i (Yp j Z))))⟩<|M Z)<|H d [1] Z<|I h (λa0 h=>g3_ d [.T,7,.adopt 4 600 1,.O 600 (.arr 1 (([]:L_ LI_).map Qz)),.S 4 (.own 600 ([]:L_ LI_).length)] Z a0 Z Z<|E h Z r1_) λa0 h=>g3_ d [.F,19,.adopt 6 34 1,.O 34 (.arr 1 (([]:L_ Int).map Qb)),.S 6 (.own 34 ([]:L_ Int).length)] Z a0 Z (congrArg (λn=>V.own 34 n) (by simp))<|lp_ h (λst=>⟨[(0,.I c),(1,.I a),(5,.Y),(6,.own 34 st.2.length),(7,.I st.1)],[(34,.arr 1 (st.2.map Qb))]⟩) (λq=>(.exit 0,⟨[(0,.I c),(1,.I a),(5,.Y),(6,.own 34 q.length)],[(34,.arr 1 (q.map Qb))]⟩)) Z (λ⟨a1,a4⟩ o h=>H d [8] Z<|I h (λk h=>X h λa5 h=>g3_ d [.T,7,.v (.bd []) [] (.sl 1 (([a1]:L_ Int).map Qb)),.app ((a4++([a1]:L_ Int)).map Qb) (a4++([a1]:L_ Int)).length,9] Z k Z ⟨Qc,Yk a5 Qc,XG,YC Qc⟩<|rN_ h Z) λk h=>J d [.F,2] Z k<|rX_ h Z) λa2 h=>H d [2] Z<|mE_ (λl:QLL=>⟨[(5,.own 604 l.length)],[(604,.arr 1 (l.map Qz))]⟩) (λl=>AI l=some r) (H d [12] Z<|I h (λm h=>g4_ d [.T,3,.frz 34 (a2.map Qb) [6,41] [],1,.O 42 (.arr 1 (([a2]:L_ LI_).map Qz)),.S 42 (.own 42 ([a2]:L_ LI_).length),6,.K [4] [42],.ren 42 600] Z m (a2_ (YA Qc) (YA Qc)) Z Z<|E h Z r1_) λm h=>J d [.F,6] Z m<|I h (λp h=>g3_ d [.T,6,.adopt 5 50 1,.O 50 (.arr 1 (([]:L_ LI_).map Qz)),.S 5 (.own 50 ([]:L_ LI_).length)] Z p Z (congrArg (λn=>V.own 50 n) (by simp))<|lp_ h (λst=>⟨[(1,.I a),(5,.own 50 st.2.length),(8,.I st.1)],[(50,.arr 1 (st.2.map Qz))]⟩) (λq=>(.exit 3,⟨[(5,.own 50 q.length)],[(50,.arr 1 (q.map Qz))]⟩)) Z (λ⟨N,a6⟩ o h=>H d [8] Z<|I h (λs h=>X h λa7 h=>g4_ d [.T,7,.v (.bd []) [] (.sl 1 (([N]:L_ Int).map Qb)),.v (.bd []) [] (.sl 1 (([([N]:L_ Int)]:L_ LI_).map Qz)),.app ((a6++([([N]:L_ Int)]:L_ LI_)).map Qz) (a6++([([N]:L_ Int)]:L_ LI_)).length,9] Z s Z Z ⟨Qc,Yk a7 Qc,XG,YC Qc⟩<|rN_ h Z) λs h=>J d [.F,2] Z s<|rX_ h Z) λb3 h=>H d [2,.ren 50 604] Z<|me_ h Z) λp h=>J d [.F,6] Z p<|I h (λt h=>J d [.T,12] Z t<|lp_ h (λst=>⟨[(1,.I a),(5,.Y),(9,.I st.1),(10,.I st.2)],[]⟩) (λq=>(.exit 5,⟨[(1,.I a),(5,.Y),(9,.I q)],[]⟩)) Z (λ⟨b2,b4⟩ o h=>H d [8] Z<|I h (λu h=>J d [.T,16] Z u<|rN_ h Z) λu h=>J d [.F,2] Z u<|rX_ h Z) λe h=>K d [8,.adopt 5 84 1,.O 84 (.arr 1 (([]:L_ LI_).map Qz)),.S 5 (.own 84 ([]:L_ LI_).length)] Z Z (congrArg (λn=>V.own 84 n) (by simp))<|lp_ h (λst=>⟨[(1,.I a),(5,.own 84 st.2.length),(9,.I e),(11,.I st.1)],[(84,.arr 1 (st.2.map Qz))]⟩) (λq=>(.exit 7,⟨[(5,.own 84 q.length)],[(84,.arr 1 (q.map Qz))]⟩)) Z (λ⟨a3,f⟩ o h=>H d [8] Z<|I h (λw h=>g3_ d [.T,22,.adopt 12 78 1,.O 78 (.arr 1 (([]:L_ Int).map Qb)),.S 12 (.own 78 ([]:L_ Int).length)] Z w Z (congrArg (λn=>V.own 78 n) (by simp))<|lp_ h (λst=>⟨[(1,.I a),(5,.own 84 f.length),(9,.I e),(11,.I a3),(12,.own 78 st.2.2.length),(13,.I st.1),(14,.I st.2.1)],[(78,.arr 1 (st.2.2.map Qb)),(84,.arr 1 (f.map Qz))]⟩) (λq=>(.exit 9,⟨[(1,.I a),(5,.own 84 f.length),(9,.I e),(11,.I a3),(12,.own 78 q.length)],[(78,.arr 1 (q.map Qb)),(84,.arr 1 (f.map Qz))]⟩)) Z (λ⟨a8,x,a9⟩ o h=>H d [8] Z<|I h (λy h=>J d [.T,4] Z y<|mE_ (λz:LI_=>⟨[(1,.I a),(5,.own 84 f.length),(9,.I e),(11,.I a3),(12,.own 78 z.length),(13,.I a8),(14,.I x)],[(78,.arr 1 (z.map Qb)),(84,.arr 1 (f.map Qz))]⟩) (λz=>HS a8 x z=some o) (J d [7] Z (by decide)<|I h (λD h=>X h λb0 h=>g3_ d [.T,3,.v (.bd []) [] (.sl 1 (([x]:L_ Int).map Qb)),.app ((a9++([x]:L_ Int)).map Qb) (a9++([x]:L_ Int)).length,2] Z D Z ⟨Qc,Yk b0 Qc,XG,YC Qc⟩<|me_ h Z) λD h=>J d [.F,1] Z D<|me_ h Z) λz h=>J d [12] Z (by decide)<|rN_ h Z) λy h=>J d [.F,2] Z y<|rX_ h Z) λP h=>X h λb1 h=>g3_ d [5,.frz 78 (P.map Qb) [12,85] [],.v (.bd []) [] (.sl 1 (([P]:L_ LI_).map Qz)),.app ((f++([P]:L_ LI_)).map Qz) (f++([P]:L_ LI_)).length,9] Z (a2_ (YA Qc) (YA Qc)) Z ⟨Qc,Yk b1 Qc,XG,YC Qc⟩<|rN_ h Z) λw h=>J d [.F,2] Z w<|rX_ h Z) λb5 h=>H d [2,.ren 84 604] Z<|me_ h Z) λt h=>g3_ d [.F,2,.adopt 5 604 1,.O 604 (.arr 1 (([]:L_ LI_).map Qz)),.S 5 (.own 604 ([]:L_ LI_).length)] Z t Z (congrArg (λn=>V.own 604 n) (by simp))<|me_ h Z) λl h=>H d [7,.K [4] [604],.ren 604 600] Z<|E h Z r1_
def IP (a:Int):O_ Bool:=
 some (bif (97<=a)then((a<=122)||((65<=a)&&(a<=90)))else((65<=a)&&(a<=90)))
def Rw (a):CT 256 [.i .u8 a] [] (IP a) V.b no_:=
 W 17 func256 Z λC e r h=>H e [6] Z<|Y ⟨[(2,.b (bif (97<=a)then((a<=122)||((65<=a)&&(a<=90)))else((65<=a)&&(a<=90))))],[]⟩ (H e [4] Z<|bO_ (decide (97<=a)) (λc=>L e [.S 5 (.b true),4] Z c<|bO_ (decide (a<=122)) (λd=>G e [.S 9 (.b true),9,.S 2 (.b (bif (97<=a)then((a<=122)||((65<=a)&&(a<=90)))else((65<=a)&&(a<=90))))] Z ⟨(tc_ d),(cb_ (My c (KB d Z)))⟩<|M Z) λd=>L e [.S 9 (.b false),3] Z d<|bO_ (decide (65<=a)) (λf=>G e [.S 12 (.b true),6,.S 2 (.b (bif (97<=a)then((a<=122)||((65<=a)&&(a<=90)))else((65<=a)&&(a<=90))))] Z ⟨(tc_ f),(cb_ (My c (Yj d (XL f Z))))⟩<|M Z) λf=>G e [.S 12 (.b false),6,.S 2 (.b (bif (97<=a)then((a<=122)||((65<=a)&&(a<=90)))else((65<=a)&&(a<=90))))] Z ⟨(tc_ f),(cb_ (My c (Yj d (Yp f Z))))⟩<|M Z) λc=>L e [.S 5 (.b false),7] Z c<|bO_ (decide (65<=a)) (λg=>G e [.S 12 (.b true),6,.S 2 (.b (bif (97<=a)then((a<=122)||((65<=a)&&(a<=90)))else((65<=a)&&(a<=90))))] Z ⟨(tc_ g),(cb_ (Zj c (XL g Z)))⟩<|M Z) λg=>G e [.S 12 (.b false),6,.S 2 (.b (bif (97<=a)then((a<=122)||((65<=a)&&(a<=90)))else((65<=a)&&(a<=90))))] Z ⟨(tc_ g),(cb_ (Zj c (Yp g Z)))⟩<|M Z)<|H e [2] Z<|E h Z U
def Rh (a:Int):O_ Bool:=some ((48<=a)&&(a<=57))
def Qfc (c):CT 257 [.i .u8 c] [] (Rh c) V.b no_:=
 W 9 func257 Z λC d r h=>H d [6] Z<|Y ⟨[(2,.b ((48<=c)&&(c<=57)))],[]⟩ (H d [4] Z<|bO_ (decide (48<=c)) (λa=>G d [.S 5 (.b true),5,.S 2 (.b ((48<=c)&&(c<=57)))] Z ⟨(tc_ a),(cb_ (XL a Z))⟩<|M Z) λa=>G d [.S 5 (.b false),5,.S 2 (.b ((48<=c)&&(c<=57)))] Z ⟨(tc_ a),(cb_ (Yp a Z))⟩<|M Z)<|H d [2] Z<|E h Z U
def Oq (a:ByteArray):O_ Bool:=bif ((a.size:Int)<1)then some true else bif (32<(a.size:Int))then some true else (sidx a 0).bind λb=>(IP b).bind λc=>some (!c)
def VH (b:ByteArray)(a:Int):O_ Bool:=(sidx b a).bind λc=>(IP c).bind λd=>bif (!d)then (sidx b a).bind λe=>(Rh e).bind λf=>bif (!f)then (sidx b a).bind λg=>some (g != 95)else some false else some false
def VI (a:Int)(b:Bool):O_ (Int⊕(Unit⊕Unit)):=bif b then some (.inr (.inl ()))else some (.inl (Qj (a+1)))
def Hm (c:ByteArray)(a:Int):O_ (Int⊕(Unit⊕Unit)):=bif (a<(c.size:Int))then (VH c a).bind (λb=>VI a b)else some (.inr (.inr ()))
def QgQ : O_ Bool:=some false
def QgR : O_ Bool:=some true
def VJ (a:ByteArray)(b:Bool):O_ Bool:=bif b then some false else (Qs (λst=>Hm a st) 0).bind (Sum.elim (λq=>QgQ) (λq=>QgR))
def HU (a:ByteArray):O_ Bool:=(Oq a).bind (λb=>VJ a b)
def VK (p):CT 232 [.s p] [] (HU p) V.b no_:=
 W 42 func232 Z λC a r h=>H a [7] Z<|mV_ h (λy=>⟨[(0,.s p),(17,.b y)],[]⟩) (λy h=>H a [5] Z<|I h (λk h=>L a [.S 7 (.b true),11] Z k<|mq_ h Z) λk h=>L a [.S 7 (.b false),5] Z k<|I h (λl h=>L a [.S 12 (.b true),6] Z l<|mq_ h Z) λl h=>B h λc8 z h=>B h λx9 D h=>G a [.S 12 (.b false),1,.o (.num c8),.o (.C1 (.b x9)),3] Z ⟨⟨(tc_ l),z⟩,(Rw _ _ D)⟩<|mq_ h Z) λy h=>H a [1] Z<|I h (λe h=>J a [.T,7] Z e<|E h Z U) λe h=>J a [.F,9] Z e<|lq_ h (λst=>⟨[(0,.s p),(3,.I st)],[]⟩) (λq=>(.ret,⟨[(2,.b false)],[]⟩)) (λq=>(.exit 0,⟨[],[]⟩)) Z (λN o h=>H a [9] Z<|I h (λf h=>J a [.T,5] Z f<|mV_ h (λm=>⟨[(0,.s p),(3,.I N),(41,.b m)],[]⟩) (λm h=>B h λO t h=>B h λP u h=>K a [3,.o (.num O),.o (.C1 (.b P)),2] Z t (Rw _ _ u)<|I h (λg h=>B h λa0 v h=>B h λa1 w h=>G a [.S 29 (.b true),2,.o (.num a0),.o (.C1 (.b a1)),3] Z ⟨⟨(tc_ g),v⟩,(Qfc _ _ w)⟩<|I h (λi h=>B h λa2 x h=>G a [.S 36 (.b true),2,.o (.num a2),3] Z ⟨(tc_ i),x⟩<|mq_ h Z) λi h=>L a [.S 36 (.b false),6] Z i<|mq_ h Z) λg h=>L a [.S 29 (.b false),13] Z g<|mq_ h Z) λm h=>H a [1] Z<|I h (λj h=>J a [.T,8] Z j<|rR_ h Z) λj h=>J a [.F,8] Z j<|rN_ h Z) λf h=>J a [.F,2] Z f<|rX_ h Z) (λ_ h=>H a [2] Z<|E h Z U) (λ_ h=>H a [8] Z<|E h Z U)
def Tk (a:Bool)(e:(L_ ByteArray))(b:Int)(f:Int):O_ Bool:=bif a then (idx e b).bind λc=>(idx e f).bind λd=>some (!JF c d)else some false
def Tl (b:Int)(a:Bool):O_ ((Bool×Int)⊕Bool):=some (.inl (a,(Qj (b+1))))
def Gn (d:Int)(e:(L_ ByteArray))(b:Bool)(a:Int):O_ ((Bool×Int)⊕Bool):=bif (a<d)then (Tk b e a d).bind (λc=>Tl a c)else some (.inr b)
def Tm (b:Int)(a:Bool):O_ (Int⊕(Unit⊕Unit)):=bif (!a)then some (.inr (.inl ()))else some (.inl (Qj (b+1)))
def UA (b:(L_ ByteArray))(a:Int):O_ (Int⊕(Unit⊕Unit)):=bif (a<(b.length:Int))then (idx b a).bind λc=>(HU c).bind λd=>(Qs (λst=>Gn a b st.1 st.2) (d,0)).bind (λq=>Tm a q)else some (.inr (.inr ()))
def Qfd : O_ Bool:=some false
def Qfe : O_ Bool:=some true
def Mq (a:(L_ ByteArray)):O_ Bool:=(Qs (λst=>UA a st) 0).bind (Sum.elim (λq=>Qfd) (λq=>Qfe))
def Qff (k):CT 233 [.sl 1 (k.map Ki)] [] (Mq k) V.b no_:=
 W 36 func233 Z λC e r h=>H e [12] Z<|lq_ h (λst=>⟨[(0,.sl 1 (k.map Ki)),(3,.I st)],[]⟩) (λq=>(.ret,⟨[(2,.b false)],[]⟩)) (λq=>(.exit 0,⟨[],[]⟩)) Z (λu o h=>J e [5,.o (.ln k.length),3] Z Qc<|I h (λl h=>B h λO v h=>B h λP w h=>g3_ e [.T,8,.o (.row (Ki O)),1,.o (.C1 (.b P)),10] Z l (QI v) (VK _ _ w)<|lp_ h (λst=>⟨[(0,.sl 1 (k.map Ki)),(3,.I u),(4,.b st.1),(5,.I st.2)],[]⟩) (λq=>(.exit 2,⟨[(0,.sl 1 (k.map Ki)),(3,.I u),(4,.b q)],[]⟩)) Z (λ⟨S,x⟩ o h=>H e [8] Z<|I h (λf h=>J e [.T,4] Z f<|mV_ h (λg=>⟨[(0,.sl 1 (k.map Ki)),(3,.I u),(4,.b g),(5,.I x)],[]⟩) (λg h=>H e [.K [0,3,4,5] []] Z<|I h (λi h=>B h λy p h=>B h λz t h=> 
  dr_ e [.N,.E (.b true),.N,.N,.B (.row (Ki y)),.N,.N,.N,.B (.row (Ki z)),.N,.N,.N,.m .s] [] [] [0,3,4,5] [] Z Z ⟨⟨(tc_ i),(QI p)⟩,(QI t)⟩ Z <|
  mq_ h Z) λi h=> 
  dr_ e [.N,.E (.b false),.N,.N,.N,.N,.N,.N,.N,.N,.N,.N,.m .s] [] [] [0,3,4,5] [] Z Z (tc_ i) Z <|
  mq_ h Z) λg h=>H e [7] Z<|rN_ h Z) λf h=>J e [.F,2] Z f<|rX_ h Z) λD h=>H e [8] Z<|I h (λj h=>J e [.T,8] Z j<|rR_ h Z) λj h=>J e [.F,8] Z j<|rN_ h Z) λl h=>J e [.F,2] Z l<|rX_ h Z) (λ_ h=>H e [2] Z<|E h Z U) (λ_ h=>H e [8] Z<|E h Z U)
def Tn (a:Bool)(e:(L_ QM))(b:Int)(c:QM):O_ Bool:=bif a then (idx e b).bind λd=>some (!JF d.Name c.Name)else some false
def Tp (b:Int)(a:Bool):O_ ((Bool×Int)⊕Bool):=some (.inl (a,(Qj (b+1))))
def Gp (e:Int)(f:(L_ QM))(d:QM)(a:Bool)(b:Int):O_ ((Bool×Int)⊕Bool):=bif (b<e)then (Tn a f b d).bind (λc=>Tp b c)else some (.inr a)
def Jm (b:Bool)(c:LI_)(d:Int)(a:Int):O_ ((Int×LI_)⊕(Unit⊕LI_)):=
 bif ((!b)||((a<1)||(1024<a)))then
 some (.inr (.inl ()))
 else
 (chk (c.length+([a]:L_ Int).length<=4294967296)).bind λ_=>
 some (.inl ((Qj (d+1)),(c++([a]:L_ Int))))
def MX (a:QM)(c:LI_)(d:Int)(b:Bool):O_ ((Int×LI_)⊕(Unit⊕LI_)):=
 bif (a.Kind==1)then
 bif ((a.Lo<=a.Hi)&&((0<=a.Lo)||(a.Hi<(Qj (a.Lo+1024)))))then
 Jm b c d (Qj ((min2 (Qj (a.Hi-a.Lo)) 1024)+1))
 else
 Jm b c d 0
 else
 bif (a.Kind==2)then
 (Mq a.Names).bind λe=>
 bif e then
 Jm b c d (a.Names.length:Int)
 else
 Jm b c d 0
 else
 bif (a.Kind==3)then
 bif ((0<=a.First)&&((a.First<d)&&((0<=a.Then)&&(a.Then<d))))then
 (idx c a.First).bind λf=>
 (idx c a.Then).bind λg=>
 Jm b c d (Qj (f*g))
 else
 Jm b c d 0
 else
 Jm b c d 0
def UB (c:(L_ QM))(b:Int)(e:LI_):O_ ((Int×LI_)⊕(Unit⊕LI_)):=bif (b<(c.length:Int))then (idx c b).bind λa=>(HU a.Name).bind λd=>(Qs (λst=>Gp b c a st.1 st.2) (d,0)).bind (λq=>MX a e b q)else some (.inr (.inr e))
def Qfg : O_ LI_:=some ([]:L_ Int)
def Qfh (a:LI_):O_ LI_:=some a
def Mr (a:(L_ QM)):O_ LI_:=bif (32<(a.length:Int))then some ([]:L_ Int)else (Qs (λst=>UB a st.1 st.2) (0,([]:L_ Int))).bind (Sum.elim (λq=>Qfg) (λq=>Qfh q))
def Qfi (z):CT 185 [.sl 7 (z.map Qt)] [] (Mr z) (λr=>(.own 600 r.length)) (λr=>[(600,.arr 1 (r.map Qb))]):=
 W 128 func185 Z λC f r h=>J f [9,.o (.ln z.length),3] Z Qc<|I h (λb1 h=>g3_ f [.T,7,.adopt 2 600 1,.O 600 (.arr 1 (([]:L_ Int).map Qb)),.S 2 (.own 600 ([]:L_ Int).length)] Z b1 Z Z<|E h Z r1_) λb1 h=>g3_ f [.F,14,.adopt 3 123 1,.O 123 (.arr 1 (([]:L_ Int).map Qb)),.S 3 (.own 123 ([]:L_ Int).length)] Z b1 Z (congrArg (λn=>V.own 123 n) (by simp))<|lq_ h (λst=>⟨[(0,.sl 7 (z.map Qt)),(3,.own 123 st.2.length),(4,.I st.1)],[(123,.arr 1 (st.2.map Qb))]⟩) (λq=>(.ret,⟨[(2,.Y)],[]⟩)) (λq=>(.exit 0,⟨[(3,.own 123 q.length)],[(123,.arr 1 (q.map Qb))]⟩)) Z (λ⟨t,u⟩ o h=>J f [5,.o (.ln z.length),3] Z Qc<|I h (λD h=>B h λe b2 h=>B h λb7 b3 h=>G f [.T,8,.o (.row (Qt e)),.A (Qt e),2,.O 5 (.var (Qt e)),6,.o (.C1 (.b b7)),10] Z (a5_ D (QI b2) Z Z (VK _ _ b3))<|lp_ h (λst=>⟨[(0,.sl 7 (z.map Qt)),(3,.own 123 u.length),(4,.I t),lk_ 5,(6,.b st.1),(7,.I st.2)],[(5,.var (Qt e)),(123,.arr 1 (u.map Qb))]⟩) (λq=>(.exit 2,⟨[(0,.sl 7 (z.map Qt)),(3,.own 123 u.length),(4,.I t),lk_ 5,(6,.b q)],[(5,.var (Qt e)),(123,.arr 1 (u.map Qb))]⟩)) Z (λ⟨c3,b8⟩ o h=>H f [8] Z<|I h (λP h=>J f [.T,4] Z P<|mV_ h (λa0=>⟨[(0,.sl 7 (z.map Qt)),(3,.own 123 u.length),(4,.I t),lk_ 5,(6,.b a0),(7,.I b8)],[(5,.var (Qt e)),(123,.arr 1 (u.map Qb))]⟩) (λa0 h=>H f [.K [0,3,4,5,6,7] [5,123]] Z<|I h (λa1 h=>B h λb9 b4 h=> 
  dr_ f [.N,.E (.b true),.N,.N,.B (.row (Qt b9)),.N,.N,.N,.N,.N,.N,.m .s] [] [] [0,3,4,5,6,7] [5,123] Z Z ⟨(tc_ a1),(QI b4)⟩ Z <|
  mq_ h Z) λa1 h=> 
  dr_ f [.N,.E (.b false),.N,.N,.N,.N,.N,.N,.N,.N,.N,.m .s] [] [] [0,3,4,5,6,7] [5,123] Z Z (tc_ a1) Z <|
  mq_ h Z) λa0 h=>H f [7] Z<|rN_ h Z) λP h=>J f [.F,2] Z P<|rX_ h Z) λi h=>H f [7] Z<|mE_ (λg:Int=>⟨[(0,.sl 7 (z.map Qt)),(3,.own 123 u.length),(4,.I t),(6,.b i),(8,.I g)],[(123,.arr 1 (u.map Qb))]⟩) (λg=>Jm i u t g=some o) (H f [13] Z<|I h (λa2 h=>J f [.T,1] Z a2<|Y ⟨[(0,.sl 7 (z.map Qt)),(3,.own 123 u.length),(4,.I t),lk_ 5,(6,.b i),(8,.I 0),(63,.b ((e.Lo<=e.Hi)&&((0<=e.Lo)||(e.Hi<(Qj (e.Lo+1024))))))],[(5,.var (Qt e)),(123,.arr 1 (u.map Qb))]⟩ (H f [7] Z<|bO_ (decide (e.Lo<=e.Hi)) (λk=>L f [.S 51 (.b true),4] Z k<|bO_ (decide (0<=e.Lo)) (λw=>G f [.S 55 (.b true),9,.S 63 (.b ((e.Lo<=e.Hi)&&((0<=e.Lo)||(e.Hi<(Qj (e.Lo+1024))))))] Z ⟨(tc_ w),(cb_ (XL k (KB w Z)))⟩<|M Z) λw=>G f [.S 55 (.b false),9,.S 63 (.b ((e.Lo<=e.Hi)&&((0<=e.Lo)||(e.Hi<(Qj (e.Lo+1024))))))] Z ⟨(tc_ w),(cb_ (XL k (Yj w Z)))⟩<|M Z) λk=>G f [.S 51 (.b false),13,.S 63 (.b ((e.Lo<=e.Hi)&&((0<=e.Lo)||(e.Hi<(Qj (e.Lo+1024))))))] Z ⟨(tc_ k),(cb_ (Yp k Z))⟩<|M Z)<|H f [1] Z<|I h (λa3 h=>J f [.T,11] Z a3<|me_ h Z) λa3 h=>J f [.F,2] Z a3<|me_ h Z) λa2 h=>J f [.F,6] Z a2<|I h (λa4 h=>B h λc0 b5 h=>K f [.T,4,.o (.C1 (.b c0)),8] Z a4 (Qff _ _ b5)<|I h (λa5 h=>K f [.T,3,.o (.ln e.Names.length),3] Z a5 Qc<|me_ h Z) λa5 h=>J f [.F,2] Z a5<|me_ h Z) λa4 h=>J f [.F,6] Z a4<|I h (λa6 h=>J f [.T,1] Z a6<|Y ⟨[(0,.sl 7 (z.map Qt)),(3,.own 123 u.length),(4,.I t),lk_ 5,(6,.b i),(8,.I 0),(101,.b ((0<=e.First)&&((e.First<t)&&((0<=e.Then)&&(e.Then<t)))))],[(5,.var (Qt e)),(123,.arr 1 (u.map Qb))]⟩ (H f [5] Z<|bO_ (decide (0<=e.First)) (λj=>L f [.S 85 (.b true),6] Z j<|bO_ (decide (e.First<t)) (λl=>L f [.S 91 (.b true),5] Z l<|bO_ (decide (0<=e.Then)) (λx=>G f [.S 96 (.b true),6,.S 101 (.b ((0<=e.First)&&((e.First<t)&&((0<=e.Then)&&(e.Then<t)))))] Z ⟨(tc_ x),(cb_ (XL j (XL l (XL x Z))))⟩<|M Z) λx=>G f [.S 96 (.b false),6,.S 101 (.b ((0<=e.First)&&((e.First<t)&&((0<=e.Then)&&(e.Then<t)))))] Z ⟨(tc_ x),(cb_ (XL j (XL l (Yp x Z))))⟩<|M Z) λl=>G f [.S 91 (.b false),11,.S 101 (.b ((0<=e.First)&&((e.First<t)&&((0<=e.Then)&&(e.Then<t)))))] Z ⟨(tc_ l),(cb_ (XL j (Yp l Z)))⟩<|M Z) λj=>G f [.S 85 (.b false),17,.S 101 (.b ((0<=e.First)&&((e.First<t)&&((0<=e.Then)&&(e.Then<t)))))] Z ⟨(tc_ j),(cb_ (Yp j Z))⟩<|M Z)<|H f [1] Z<|I h (λa7 h=>B h λc1 a9 h=>B h λc2 b0 h=>G f [.T,.K [0,3,4,5,6,8] [5,123]] Z (A a7) <| 
  dr_ f [.N,.N,.N,.N,.B (.row (Qb c1)),.N,.N,.N,.N,.B (.row (Qb c2)),.N,.m .s] [] [] [0,3,4,6,8] [123] Z Z (a4_ (Yv a9 Z) (XO (Ys a9).2) (Yv b0 Z) (XO (Ys b0).2)) Z <|
  H f [1] Z<|me_ h Z) λa7 h=>J f [.F,2] Z a7<|me_ h Z) λa6 h=>J f [.F,2] Z a6<|me_ h Z) λg h=>H f [2] Z<|Y ⟨[(0,.sl 7 (z.map Qt)),(3,.own 123 u.length),(4,.I t),(8,.I g),(122,.b ((!i)||((g<1)||(1024<g))))],[(123,.arr 1 (u.map Qb))]⟩ (H f [4] Z<|bO_ (!i) (λp=>G f [.S 115 (.b true),8,.S 122 (.b ((!i)||((g<1)||(1024<g))))] Z ⟨(tc_ p),(cb_ (KB p Z))⟩<|M Z) λp=>L f [.S 115 (.b false),4] Z p<|bO_ (decide (g<1)) (λy=>G f [.S 119 (.b true),4,.S 122 (.b ((!i)||((g<1)||(1024<g))))] Z ⟨(tc_ y),(cb_ (Yj p (KB y Z)))⟩<|M Z) λy=>G f [.S 119 (.b false),4,.S 122 (.b ((!i)||((g<1)||(1024<g))))] Z ⟨(tc_ y),(cb_ (Yj p (Yj y Z)))⟩<|M Z)<|H f [1] Z<|I h (λa8 h=>J f [.T,9] Z a8<|rR_ h Z) λa8 h=>X h λb6 h=>g3_ f [.F,5,.v (.bd []) [] (.sl 1 (([g]:L_ Int).map Qb)),.app ((u++([g]:L_ Int)).map Qb) (u++([g]:L_ Int)).length,9] Z a8 Z ⟨Qc,Yk b6 Qc,XG,YC Qc⟩<|rN_ h Z) λD h=>J f [.F,2] Z D<|rX_ h Z) (λ_ h=>K f [2,.adopt 2 600 1,.O 600 (.arr 1 (([]:L_ Int).map Qb)),.S 2 (.own 600 ([]:L_ Int).length)] Z Z Z<|E h Z r1_) (λc4 h=>H f [9,.K [2] [123],.ren 123 600] Z<|E h Z r1_)
def GT (c:(L_ QM))(a:Int):O_ Int:=
 (Mr c).bind λb=>
 bif ((a<0)||((b.length:Int)<=a))then
 some 0
 else
 (idx b a).bind λd=>
 some d
def Ot (k c):CT 115 [.sl 7 (k.map Qt),.I c] [] (GT k c) V.I no_:=
 W 20 func115 Z λC e r h=>B h λf j h=>J e [8,.o (.co false [.d] 1 (f.map Qb) f.length),5] Z ⟨(Qfi _ _ j),Qc,.inl Z⟩<|Y ⟨[(1,.I c),(5,.own 7 f.length),(15,.b ((c<0)||((f.length:Int)<=c)))],[(7,.arr 1 (f.map Qb))]⟩ (H e [4] Z<|bO_ (decide (c<0)) (λa=>G e [.S 10 (.b true),6,.S 15 (.b ((c<0)||((f.length:Int)<=c)))] Z ⟨(tc_ a),(cb_ (KB a Z))⟩<|M Z) λa=>G e [.S 10 (.b false),6,.S 15 (.b ((c<0)||((f.length:Int)<=c)))] Z ⟨(tc_ a),(cb_ (Yj a Z))⟩<|M Z)<|H e [1] Z<|I h (λg h=>J e [.T,7] Z g<|E h Z U) λg h=>B h λl i h=>g3_ e [.F,7,.o (.row (Qb l)),4] Z g (Yv i Z) (XO (Ys i).2)<|E h Z U
def Rx (b:Int)(c:(L_ QM))(d:Int):O_ Bool:=bif (b<0)then some true else (GT c d).bind λa=>some (decide (a<=b))
def Ry (c:(L_ QM))(d:Int)(e:Int)(f:Bool):O_ (Int×Bool):=bif f then some (0,false)else (idx c d).bind λa=>bif (a.Kind==1)then (idx c d).bind λb=>some ((Qj (b.Lo+e)),true)else some (e,true)
def IQ (a:(L_ QM))(b:Int)(c:Int):O_ (Int×Bool):=(Rx c a b).bind (λd=>Ry a b c d)
def QdU (l m p):CT 119 [.sl 7 (l.map Qt),.I m,.I p] [] (IQ l m p) (λr=>(.tup [.I r.1,.b r.2])) no_:=
 W 31 func119 Z λC g r h=>H g [8] Z<|mV_ h (λq=>⟨[(0,.sl 7 (l.map Qt)),(1,.I m),(2,.I p),(16,.b q)],[]⟩) (λq h=>H g [4] Z<|I h (λa h=>L g [.S 10 (.b true),7] Z a<|mq_ h Z) λa h=>B h λs i h=>G g [.S 10 (.b false),3,.o (.C2 (.I s)),3] Z ⟨(tc_ a),(Ot _ _ _ i)⟩<|mq_ h Z) λq h=>H g [1] Z<|I h (λe h=>J g [.T,8] Z e<|F h Z Z U) λe h=>B h λt j h=>K g [.F,7,.o (.row (Qt t)),5] Z e (QI j)<|I h (λf h=>B h λu k h=>K g [.T,4,.o (.row (Qt u)),10] Z f (QI k)<|F h Z Z U) λf h=>J g [.F,10] Z f<|F h Z Z U
def BS (e:QL)(b:LI_)(h:Qn)(a:Int)(c:LI_):O_ ((Int×LI_)⊕(Unit⊕LI_)):=bif (a<(e.Vars.length:Int))then (idx e.Vars a).bind λf=>(idx b a).bind λg=>(IQ h.Colours f.Colour g).bind λd=>bif (!d.2)then some (.inr (.inl ()))else (chk (c.length+([d.1]:L_ Int).length<=4294967296)).bind λ_=>some (.inl ((Qj (a+1)),(c++([d.1]:L_ Int))))else some (.inr (.inr c))
def Qie : O_ (LI_×Int):=some (([]:L_ Int),1)
def Qif (a:LI_):O_ (LI_×Int):=some (a,0)
def Fv (d:Qn)(a:Int)(b:LI_):O_ (LI_×Int):=
 bif ((a<0)||((d.Tasks.length:Int)<=a))then
 some (([]:L_ Int),3)
 else
 (idx d.Tasks a).bind λc=>
 bif ((b.length:Int) != (c.Vars.length:Int))then
 some (([]:L_ Int),1)
 else
 (Qs (λst=>BS c b d st.1 st.2) (0,([]:L_ Int))).bind (Sum.elim (λq=>Qie) (λq=>Qif q))
def Pa (t e f):CT 65 [.agg (Qa t),.I e,.sl 1 (f.map Qb)] [] (Fv t e f) (λr=>(.tup [.sl 1 (r.1.map Qb),.I r.2])) no_:=
 W 61 func65 Z λC g r h=>H g [9] Z<|Y ⟨[(1,.I e),(2,.sl 1 (f.map Qb)),lk_ 3,(21,.b ((e<0)||((t.Tasks.length:Int)<=e)))],[(3,.var (Qa t))]⟩ (H g [4] Z<|bO_ (decide (e<0)) (λi=>G g [.S 15 (.b true),7,.S 21 (.b ((e<0)||((t.Tasks.length:Int)<=e)))] Z ⟨(tc_ i),(cb_ (KB i Z))⟩<|M Z) λi=>G g [.S 15 (.b false),3,.o (.ln t.Tasks.length),3,.S 21 (.b ((e<0)||((t.Tasks.length:Int)<=e)))] Z ⟨⟨(tc_ i),Qc⟩,(cb_ (Yj i Z))⟩<|M Z)<|H g [1] Z<|I h (λj h=>J g [.T,8,.denil 6 [some 1]] Z j<|F h Z Z U) λj h=>B h λs u h=>g4_ g [.F,7,.o (.row (Qk s)),9,.o (.ln f.length),1,.o (.ln s.Vars.length),3] Z j (QI u) Qc Qc<|I h (λk h=>J g [.T,8,.denil 6 [some 1]] Z k<|F h Z Z U) λk h=>g3_ g [.F,14,.adopt 9 56 1,.O 56 (.arr 1 (([]:L_ Int).map Qb)),.S 9 (.own 56 ([]:L_ Int).length)] Z k Z (congrArg (λn=>V.own 56 n) (by simp))<|lq_ h (λst=>⟨[(2,.sl 1 (f.map Qb)),lk_ 3,(8,.sl 2 (s.Vars.map QY)),(9,.own 56 st.2.length),(10,.I st.1)],[(3,.var (Qa t)),(56,.arr 1 (st.2.map Qb))]⟩) (λq=>(.ret,⟨[(6,.Y),(7,.I 1)],[]⟩)) (λq=>(.exit 0,⟨[(9,.own 56 q.length)],[(56,.arr 1 (q.map Qb))]⟩)) Z (λ⟨a2,w⟩ o h=>J g [5,.o (.ln s.Vars.length),3] Z Qc<|I h (λl h=>B h λP x h=>B h λa0 y h=>B h λm z h=>G g [.T,5,.K [2,3,8,9,10] [3,56]] Z (A l) <| 
  dr_ g [.N,.N,.N,.N,.B (.row (QY P)),.N,.N,.N,.N,.B (.row (Qb a0)),.N,.B (.C3 (.tup [.I m.1,.b m.2])),.N,.N,.N,.N,.N] [] [] [2,3,8,9,10,11,12] [3,56] Z Z (a3_ (QI x) (QI y) (QdU _ _ _ _ z)) Z <|
  H g [8] Z<|I h (λp h=>J g [.T,10] Z p<|rR_ h Z) λp h=>X h λD h=>g3_ g [.F,5,.v (.bd []) [] (.sl 1 (([m.1]:L_ Int).map Qb)),.app ((w++([m.1]:L_ Int)).map Qb) (w++([m.1]:L_ Int)).length,9] Z p Z ⟨Qc,Yk D Qc,XG,YC Qc⟩<|rN_ h Z) λl h=>J g [.F,2] Z l<|rX_ h Z) (λ_ h=>H g [2,.denil 6 [some 1]] Z<|F h Z Z U) (λa1 h=>J g [10,.frz 56 (a1.map Qb) [6] []] Z (A (YA Qc))<|F h Z Z U)
def Qfj (c:Qi)(h:Qi->O_ Int)(d:Int)(a:Int):O_ ((Int×Int)⊕Int):=bif (a<(c.Kids.length:Int))then (idx c.Kids a).bind λe=>(h e).bind λb=>some (.inl ((max2 d b),(Qj (a+1))))else some (.inr d)
def Qfk (a:Int):O_ Int:=some (Qj (a+1))
def Ou (h:Qi->O_ Int)(a:Qi):O_ Int:=(Qs (λst=>Qfj a h st.1 st.2) (0,0)).bind (λq=>Qfk q)
def DD : Nat->Qi->O_ Int
 | 0,_=>none
 | n+1,a=>Ou (DD n) a
def Ri (a:Qi):O_ Int:=DD (SizeOf.sizeOf a) a
def QcK (D:Qi->O_ Int)(hrec_ref04_Depth:∀(a:Qi) {r:Int},D a=some r->QP prog 187 [.agg (Qm a)] [] (Gives (.I r) []))(a:Qi):CT 187 [.agg (Qm a)] [] (Ou D a) V.I no_:=
 W 22 func187 Z λC e r h=>H e [18] Z<|lp_ h (λst=>⟨[lk_ 1,(3,.I st.1),(4,.I st.2)],[(1,.var (Qm a))]⟩) (λq=>(.exit 0,⟨[(3,.I q)],[]⟩)) Z (λ⟨k,l⟩ o h=>J e [6,.o (.ln a.Kids.length),3] Z (EN _)<|I h (λb h=>B h λj g h=>B h λi f h=>g4_ e [.T,9,.o (.row (Qm j)),.A (Qm j),.o (.C1 (.I i)),10] Z b (Jc g) Z (hrec_ref04_Depth _ f)<|rN_ h Z) λb h=>J e [.F,2] Z b<|rX_ h Z) λm h=>H e [10] Z<|E h Z U
def PR : ∀(fuel:Nat) (a:Qi) {r:Int},DD fuel a=some r->QP prog 187 [.agg (Qm a)] [] (Gives (.I r) [])
 | 0,_,_,h=>by cases h
 | n+1,a,_,h=>QcK (DD n) (λ_ _ h=>PR n _ h) a _ h
def Qfl (a){r}(h:Ri a=some r):QP prog 187 [.agg (Qm a)] [] (Gives (.I r) []):=PR _ a h
def QgS (c:Qi)(h:Qi->O_ Int)(d:Int)(a:Int):O_ ((Int×Int)⊕Int):=bif (a<(c.Kids.length:Int))then (idx c.Kids a).bind λe=>(h e).bind λb=>some (.inl ((Qj (d+b)),(Qj (a+1))))else some (.inr d)
def QgT (a:Int):O_ Int:=some a
def Pb (h:Qi->O_ Int)(a:Qi):O_ Int:=(Qs (λst=>QgS a h st.1 st.2) (1,0)).bind (λq=>QgT q)
def Gq : Nat->Qi->O_ Int
 | 0,_=>none
 | n+1,a=>Pb (Gq n) a
def Tq (a:Qi):O_ Int:=Gq (SizeOf.sizeOf a) a
def QdV (D:Qi->O_ Int)(hrec_ref04_Size:∀(a:Qi) {r:Int},D a=some r->QP prog 188 [.agg (Qm a)] [] (Gives (.I r) []))(a:Qi):CT 188 [.agg (Qm a)] [] (Pb D a) V.I no_:=
 W 21 func188 Z λC e r h=>H e [18] Z<|lp_ h (λst=>⟨[lk_ 1,(3,.I st.1),(4,.I st.2)],[(1,.var (Qm a))]⟩) (λq=>(.exit 0,⟨[(3,.I q)],[]⟩)) Z (λ⟨k,l⟩ o h=>J e [6,.o (.ln a.Kids.length),3] Z (EN _)<|I h (λb h=>B h λj g h=>B h λi f h=>g4_ e [.T,9,.o (.row (Qm j)),.A (Qm j),.o (.C1 (.I i)),10] Z b (Jc g) Z (hrec_ref04_Size _ f)<|rN_ h Z) λb h=>J e [.F,2] Z b<|rX_ h Z) λm h=>H e [9] Z<|E h Z U
def Rz : ∀(fuel:Nat) (a:Qi) {r:Int},Gq fuel a=some r->QP prog 188 [.agg (Qm a)] [] (Gives (.I r) [])
 | 0,_,_,h=>by cases h
 | n+1,a,_,h=>QdV (Gq n) (λ_ _ h=>Rz n _ h) a _ h
def QgU (a){r}(h:Tq a=some r):QP prog 188 [.agg (Qm a)] [] (Gives (.I r) []):=Rz _ a h
def Rj (Yg:Int):O_ Bool:=some ((1<=Yg)&&(Yg<=11))
def Qfm (Yg):CT 234 [.I Yg] [] (Rj Yg) V.b no_:=
 W 9 func234 Z λC c r h=>H c [6] Z<|Y ⟨[(2,.b ((1<=Yg)&&(Yg<=11)))],[]⟩ (H c [4] Z<|bO_ (decide (1<=Yg)) (λa=>G c [.S 5 (.b true),5,.S 2 (.b ((1<=Yg)&&(Yg<=11)))] Z ⟨(tc_ a),(cb_ (XL a Z))⟩<|M Z) λa=>G c [.S 5 (.b false),5,.S 2 (.b ((1<=Yg)&&(Yg<=11)))] Z ⟨(tc_ a),(cb_ (Yp a Z))⟩<|M Z)<|H c [2] Z<|E h Z U
def Gr (f:Qi)(h:Qi->Int->O_ Bool)(a:Int)(b:Bool)(c:Int):O_ ((Bool×Int)⊕Bool):=bif ((c<(f.Kids.length:Int))&&b)then (idx f.Kids c).bind λd=>(h d a).bind λe=>some (.inl (e,(Qj (c+1))))else some (.inr b)
def Qfn (a:Bool):O_ Bool:=some a
def Ka (c:Qi)(h:Qi->Int->O_ Bool)(a:Int)(b:Bool):O_ Bool:=(Qs (λst=>Gr c h a st.1 st.2) (b,0)).bind (λq=>Qfn q)
def Tr (b:Qi):O_ Bool:=bif ((b.Kids.length:Int)==2)then (Rj b.Num).bind λa=>some a else some false
def Ts (c:Qi)(h:Qi->Int->O_ Bool)(a:Int)(b:Bool):O_ Bool:=Ka c h a b
def CG (b:Qi)(h:Qi->Int->O_ Bool)(a:Int)(d:Bool):O_ Bool:=bif d then Ka b h a ((b.Kids.length:Int)==1)else bif (b.Kind==5)then (Tr b).bind (λc=>Ts b h a c)else bif (b.Kind==6)then Ka b h a ((b.Kids.length:Int)==3)else Ka b h a false
def Hn (h:Qi->Int->O_ Bool)(b:Qi)(a:Int):O_ Bool:=bif (b.Kind==1)then Ka b h a ((b.Kids.length:Int)==0)else bif (b.Kind==2)then Ka b h a (((b.Kids.length:Int)==0)&&((0<=b.Num)&&(b.Num<a)))else bif (b.Kind==3)then CG b h a (b.Kind==3)else CG b h a (b.Kind==4)
def DE : Nat->Qi->Int->O_ Bool
 | 0,_,_=>none
 | n+1,b,a=>Hn (DE n) b a
def Rk (b:Qi)(a:Int):O_ Bool:=DE (SizeOf.sizeOf b) b a
def QcL (rec_ref04_parts:Qi->Int->O_ Bool)(hrec_ref04_parts:∀(e:Qi) (a:Int) {r:Bool},rec_ref04_parts e a=some r->QP prog 189 [.agg (Qm e),.I a] [] (Gives (.b r) []))(e:Qi)(a:Int):CT 189 [.agg (Qm e),.I a] [] (Hn rec_ref04_parts e a) V.b no_:=
 W 66 func189 Z λC f r h=>J f [10,.o (.ln e.Kids.length),8] Z (EN _)<|mE_ (λy:Bool=>⟨[(1,.I a),lk_ 2,(5,.I (e.Kids.length:Int)),(6,.b y)],[(2,.var (Qm e))]⟩) (λy=>Ka e rec_ref04_parts a y=some r) (H f [13] Z<|I h (λk h=>J f [.T,6] Z k<|me_ h Z) λk h=>J f [.F,6] Z k<|I h (λl h=>J f [.T] Z l<|Y ⟨[(1,.I a),lk_ 2,(5,.I (e.Kids.length:Int)),(6,.b (((e.Kids.length:Int)==0)&&((0<=e.Num)&&(e.Num<a))))],[(2,.var (Qm e))]⟩ (H f [4] Z<|bO_ ((e.Kids.length:Int)==0) (λg=>L f [.S 21 (.b true),5] Z g<|bO_ (decide (0<=e.Num)) (λi=>G f [.S 26 (.b true),7,.S 6 (.b (((e.Kids.length:Int)==0)&&((0<=e.Num)&&(e.Num<a))))] Z ⟨(tc_ i),(cb_ (XL g (XL i Z)))⟩<|M Z) λi=>G f [.S 26 (.b false),7,.S 6 (.b (((e.Kids.length:Int)==0)&&((0<=e.Num)&&(e.Num<a))))] Z ⟨(tc_ i),(cb_ (XL g (Yp i Z)))⟩<|M Z) λg=>G f [.S 21 (.b false),12,.S 6 (.b (((e.Kids.length:Int)==0)&&((0<=e.Num)&&(e.Num<a))))] Z ⟨(tc_ g),(cb_ (Yp g Z))⟩<|M Z)<|H f [1] Z<|me_ h Z) λl h=>J f [.F] Z l<|mE_ (λz:Bool=>⟨[(1,.I a),lk_ 2,(5,.I (e.Kids.length:Int)),(6,.b false),(12,.I e.Kind),(32,.b z)],[(2,.var (Qm e))]⟩) (λz=>CG e rec_ref04_parts a z=some r) (H f [6] Z<|I h (λm h=>J f [.T,1] Z m<|me_ h Z) λm h=>J f [.F,4] Z m<|me_ h Z) λz h=>I h (λp h=>J f [.T,6] Z p<|me_ h Z) λp h=>J f [.F,6] Z p<|I h (λs h=>J f [.T] Z s<|mV_ h (λt=>⟨[(1,.I a),lk_ 2,(5,.I (e.Kids.length:Int)),(6,.b t)],[(2,.var (Qm e))]⟩) (λt h=>H f [4] Z<|I h (λu h=>B h λa2 N h=>G f [.S 41 (.b true),2,.o (.C1 (.b a2)),3] Z ⟨(tc_ u),(Qfm _ _ N)⟩<|mq_ h Z) λu h=>L f [.S 41 (.b false),6] Z u<|mq_ h Z) λt h=>H f [1] Z<|me_ h Z) λs h=>J f [.F,6] Z s<|I h (λw h=>J f [.T,6] Z w<|me_ h Z) λw h=>J f [.F,2] Z w<|me_ h Z) λy h=>H f [7] Z<|lp_ h (λst=>⟨[(1,.I a),lk_ 2,(5,.I (e.Kids.length:Int)),(6,.b st.1),(7,.I st.2)],[(2,.var (Qm e))]⟩) (λq=>(.exit 1,⟨[(6,.b q)],[]⟩)) Z (λ⟨D,O⟩ o h=>H f [2] Z<|Y ⟨[(1,.I a),lk_ 2,(5,.I (e.Kids.length:Int)),(6,.b D),(7,.I O),(55,.b ((O<(e.Kids.length:Int))&&D))],[(2,.var (Qm e))]⟩ (H f [5] Z<|bO_ (decide (O<(e.Kids.length:Int))) (λj=>G f [.S 53 (.b true),3,.S 55 (.b ((O<(e.Kids.length:Int))&&D))] Z ⟨(tc_ j),(cb_ (XL j Z))⟩<|M Z) λj=>G f [.S 53 (.b false),3,.S 55 (.b ((O<(e.Kids.length:Int))&&D))] Z ⟨(tc_ j),(cb_ (Yp j Z))⟩<|M Z)<|H f [1] Z<|I h (λx h=>B h λP a0 h=>B h λa3 a1 h=>g4_ f [.T,8,.o (.row (Qm P)),.A (Qm P),1,.o (.C2 (.b a3)),9] Z x (Jc a0) Z (hrec_ref04_parts _ _ a1)<|rN_ h Z) λx h=>J f [.F,2] Z x<|rX_ h Z) λa4 h=>H f [9] Z<|E h Z U
def PS : ∀(fuel:Nat) (c:Qi) (a:Int) {r:Bool},DE fuel c a=some r->QP prog 189 [.agg (Qm c),.I a] [] (Gives (.b r) [])
 | 0,_,_,_,h=>by cases h
 | n+1,c,a,_,h=>QcL (DE n) (λ_ _ _ h=>PS n _ _ h) c a _ h
def Qfo (c a){r}(h:Rk c a=some r):QP prog 189 [.agg (Qm c),.I a] [] (Gives (.b r) []):=PS _ c a h
def Tt (b:Qi)(a:Int):O_ Bool:=(Ri b).bind λd=>bif (d<=40)then (Tq b).bind λe=>bif (e<=400)then (Rk b a).bind λc=>some c else some false else some false
def Qfp (a:Bool):O_ Bool:=some a
def Ms (b:Qi)(a:Int):O_ Bool:=(Tt b a).bind (λc=>Qfp c)
def Qfq (i a):CT 120 [.agg (Qm i),.I a] [] (Ms i a) V.b no_:=
 W 18 func120 Z λC e r h=>H e [7] Z<|mV_ h (λk=>⟨[(4,.b k)],[]⟩) (λk h=>B h λq l h=>K e [1,.A (Qm i),.o (.C1 (.I q)),2] Z Z (Qfl _ l)<|I h (λf h=>B h λs m h=>G e [.S 8 (.b true),.A (Qm i),.o (.C1 (.I s)),3] Z ⟨⟨(tc_ f),Z⟩,(QgU _ m)⟩<|I h (λg h=>B h λp j h=>G e [.S 13 (.b true),.A (Qm i),1,.o (.C2 (.b p)),3] Z ⟨⟨(tc_ g),Z⟩,(Qfo _ _ j)⟩<|mq_ h Z) λg h=>L e [.S 13 (.b false),6] Z g<|mq_ h Z) λf h=>L e [.S 8 (.b false),11] Z f<|mq_ h Z) λk h=>H e [2] Z<|E h Z U
def Pw (b:Int)(a:Int):O_ (Int×Bool):=
 bif (bif (0<a)then(((Qj (9223372036854775807-a))<b)||((a<0)&&(b<(Qj ((-9223372036854775808)-a)))))else((a<0)&&(b<(Qj ((-9223372036854775808)-a)))))then
 some (0,false)
 else
 some ((Qj (b+a)),true)
def Qig (c a):CT 235 [.I c,.I a] [] (Pw c a) (λr=>(.tup [.I r.1,.b r.2])) no_:=
 W 27 func235 Z λC g r h=>H g [8] Z<|Y ⟨[(0,.I c),(1,.I a),(23,.b (bif (0<a)then(((Qj (9223372036854775807-a))<c)||((a<0)&&(c<(Qj ((-9223372036854775808)-a)))))else((a<0)&&(c<(Qj ((-9223372036854775808)-a))))))],[]⟩ (H g [4] Z<|bO_ (decide (0<a)) (λd=>L g [.S 8 (.b true),6] Z d<|bO_ (decide ((Qj (9223372036854775807-a))<c)) (λi=>G g [.S 14 (.b true),10,.S 23 (.b (bif (0<a)then(((Qj (9223372036854775807-a))<c)||((a<0)&&(c<(Qj ((-9223372036854775808)-a)))))else((a<0)&&(c<(Qj ((-9223372036854775808)-a))))))] Z ⟨(tc_ i),(cb_ (My d (KB i Z)))⟩<|M Z) λi=>L g [.S 14 (.b false),3] Z i<|bO_ (decide (a<0)) (λe=>G g [.S 17 (.b true),7,.S 23 (.b (bif (0<a)then(((Qj (9223372036854775807-a))<c)||((a<0)&&(c<(Qj ((-9223372036854775808)-a)))))else((a<0)&&(c<(Qj ((-9223372036854775808)-a))))))] Z ⟨(tc_ e),(cb_ (My d (Yj i (XL e Z))))⟩<|M Z) λe=>G g [.S 17 (.b false),7,.S 23 (.b (bif (0<a)then(((Qj (9223372036854775807-a))<c)||((a<0)&&(c<(Qj ((-9223372036854775808)-a)))))else((a<0)&&(c<(Qj ((-9223372036854775808)-a))))))] Z ⟨(tc_ e),(cb_ (My d (Yj i (Yp e Z))))⟩<|M Z) λd=>L g [.S 8 (.b false),9] Z d<|bO_ (decide (a<0)) (λf=>G g [.S 17 (.b true),7,.S 23 (.b (bif (0<a)then(((Qj (9223372036854775807-a))<c)||((a<0)&&(c<(Qj ((-9223372036854775808)-a)))))else((a<0)&&(c<(Qj ((-9223372036854775808)-a))))))] Z ⟨(tc_ f),(cb_ (Zj d (XL f Z)))⟩<|M Z) λf=>G g [.S 17 (.b false),7,.S 23 (.b (bif (0<a)then(((Qj (9223372036854775807-a))<c)||((a<0)&&(c<(Qj ((-9223372036854775808)-a)))))else((a<0)&&(c<(Qj ((-9223372036854775808)-a))))))] Z ⟨(tc_ f),(cb_ (Zj d (Yp f Z)))⟩<|M Z)<|H g [1] Z<|I h (λj h=>J g [.T,8] Z j<|F h Z Z U) λj h=>J g [.F,12] Z j<|F h Z Z U
def Px (b:Int)(a:Int):O_ (Int×Bool):=
 bif (bif (a<0)then(((Qj (9223372036854775807+a))<b)||((0<a)&&(b<(Qj ((-9223372036854775808)+a)))))else((0<a)&&(b<(Qj ((-9223372036854775808)+a)))))then
 some (0,false)
 else
 some ((Qj (b-a)),true)
def Qih (c a):CT 236 [.I c,.I a] [] (Px c a) (λr=>(.tup [.I r.1,.b r.2])) no_:=
 W 27 func236 Z λC g r h=>H g [8] Z<|Y ⟨[(0,.I c),(1,.I a),(23,.b (bif (a<0)then(((Qj (9223372036854775807+a))<c)||((0<a)&&(c<(Qj ((-9223372036854775808)+a)))))else((0<a)&&(c<(Qj ((-9223372036854775808)+a))))))],[]⟩ (H g [4] Z<|bO_ (decide (a<0)) (λd=>L g [.S 8 (.b true),6] Z d<|bO_ (decide ((Qj (9223372036854775807+a))<c)) (λi=>G g [.S 14 (.b true),10,.S 23 (.b (bif (a<0)then(((Qj (9223372036854775807+a))<c)||((0<a)&&(c<(Qj ((-9223372036854775808)+a)))))else((0<a)&&(c<(Qj ((-9223372036854775808)+a))))))] Z ⟨(tc_ i),(cb_ (My d (KB i Z)))⟩<|M Z) λi=>L g [.S 14 (.b false),3] Z i<|bO_ (decide (0<a)) (λe=>G g [.S 17 (.b true),7,.S 23 (.b (bif (a<0)then(((Qj (9223372036854775807+a))<c)||((0<a)&&(c<(Qj ((-9223372036854775808)+a)))))else((0<a)&&(c<(Qj ((-9223372036854775808)+a))))))] Z ⟨(tc_ e),(cb_ (My d (Yj i (XL e Z))))⟩<|M Z) λe=>G g [.S 17 (.b false),7,.S 23 (.b (bif (a<0)then(((Qj (9223372036854775807+a))<c)||((0<a)&&(c<(Qj ((-9223372036854775808)+a)))))else((0<a)&&(c<(Qj ((-9223372036854775808)+a))))))] Z ⟨(tc_ e),(cb_ (My d (Yj i (Yp e Z))))⟩<|M Z) λd=>L g [.S 8 (.b false),9] Z d<|bO_ (decide (0<a)) (λf=>G g [.S 17 (.b true),7,.S 23 (.b (bif (a<0)then(((Qj (9223372036854775807+a))<c)||((0<a)&&(c<(Qj ((-9223372036854775808)+a)))))else((0<a)&&(c<(Qj ((-9223372036854775808)+a))))))] Z ⟨(tc_ f),(cb_ (Zj d (XL f Z)))⟩<|M Z) λf=>G g [.S 17 (.b false),7,.S 23 (.b (bif (a<0)then(((Qj (9223372036854775807+a))<c)||((0<a)&&(c<(Qj ((-9223372036854775808)+a)))))else((0<a)&&(c<(Qj ((-9223372036854775808)+a))))))] Z ⟨(tc_ f),(cb_ (Zj d (Yp f Z)))⟩<|M Z)<|H g [1] Z<|I h (λj h=>J g [.T,8] Z j<|F h Z Z U) λj h=>J g [.F,12] Z j<|F h Z Z U
def ZV (c:Int)(d:Int)(a:Int)(b:Int):O_ Bool:=
 bif (bif (c<0)then((0<d)||((0<c)&&(d<0)))else((0<c)&&(d<0)))then
 (chk (a != 0)).bind λ_=>
 bif ((Qj (b-1))<=(Qj (Int.tdiv (Qj (9223372036854775807-(Qj (a-1)))) a)))then
 some ((Qj (b*a))==(-9223372036854775808))
 else
 some false
 else
 some false
def Qii (a:Bool):O_ (Int×Bool):=bif a then some ((-9223372036854775808),true)else some (0,false)
def BT (b:Int)(d:Int)(e:Int)(a:Int):O_ (Int×Bool):=(chk (a != 0)).bind λ_=>bif (b<=(Qj (Int.tdiv 9223372036854775807 a)))then some ((Qj (d*e)),true)else (ZV d e a b).bind (λc=>Qii c)
def BU (a:Int)(c:Int)(b:Int):O_ (Int×Bool):=bif (a<0)then BT b c a (Qj (0-a))else BT b c a a
def Py (a:Int)(b:Int):O_ (Int×Bool):=
 bif ((a==0)||(b==0))then
 some (0,true)
 else
 bif ((a==(-9223372036854775808))||(b==(-9223372036854775808)))then
 bif ((a==1)||(b==1))then
 some ((Qj (a*b)),true)
 else
 some (0,false)
 else
 bif (a<0)then
 BU b a (Qj (0-a))
 else
 BU b a a
def Qij (c d):CT 237 [.I c,.I d] [] (Py c d) (λr=>(.tup [.I r.1,.b r.2])) no_:=
 W 78 func237 Z λC a r h=>H a [8] Z<|Y ⟨[(0,.I c),(1,.I d),(14,.b ((c==0)||(d==0)))],[]⟩ (H a [4] Z<|bO_ (c==0) (λm=>G a [.S 11 (.b true),4,.S 14 (.b ((c==0)||(d==0)))] Z ⟨(tc_ m),(cb_ (KB m Z))⟩<|M Z) λm=>G a [.S 11 (.b false),4,.S 14 (.b ((c==0)||(d==0)))] Z ⟨(tc_ m),(cb_ (Yj m Z))⟩<|M Z)<|H a [1] Z<|I h (λy h=>J a [.T,8] Z y<|F h Z Z U) λy h=>J a [.F,4] Z y<|Y ⟨[(0,.I c),(1,.I d),(20,.b ((c==(-9223372036854775808))||(d==(-9223372036854775808))))],[]⟩ (H a [4] Z<|bO_ (c==(-9223372036854775808)) (λg=>G a [.S 17 (.b true),4,.S 20 (.b ((c==(-9223372036854775808))||(d==(-9223372036854775808))))] Z ⟨(tc_ g),(cb_ (KB g Z))⟩<|M Z) λg=>G a [.S 17 (.b false),4,.S 20 (.b ((c==(-9223372036854775808))||(d==(-9223372036854775808))))] Z ⟨(tc_ g),(cb_ (Yj g Z))⟩<|M Z)<|H a [1] Z<|I h (λo h=>J a [.T,2] Z o<|Y ⟨[(0,.I c),(1,.I d),(26,.b ((c==1)||(d==1)))],[]⟩ (H a [4] Z<|bO_ (c==1) (λi=>G a [.S 23 (.b true),4,.S 26 (.b ((c==1)||(d==1)))] Z ⟨(tc_ i),(cb_ (KB i Z))⟩<|M Z) λi=>G a [.S 23 (.b false),4,.S 26 (.b ((c==1)||(d==1)))] Z ⟨(tc_ i),(cb_ (Yj i Z))⟩<|M Z)<|H a [1] Z<|I h (λp h=>J a [.T,12] Z p<|F h Z Z U) λp h=>J a [.F,10] Z p<|F h Z Z U) λo h=>J a [.F,8] Z o<|mE_ (λl:Int=>⟨[(0,.I c),(1,.I d),(6,.I l)],[]⟩) (λl=>BU d c l=some r) (H a [6] Z<|I h (λq h=>J a [.T,5] Z q<|me_ h Z) λq h=>J a [.F,1] Z q<|me_ h Z) λl h=>H a [6] Z<|mE_ (λs:Int=>⟨[(0,.I c),(1,.I d),(6,.I l),(7,.I s)],[]⟩) (λs=>BT l c d s=some r) (H a [6] Z<|I h (λt h=>J a [.T,5] Z t<|me_ h Z) λt h=>J a [.F,1] Z t<|me_ h Z) λs h=>H a [1] Z<|Y ⟨[(0,.I c),(1,.I d),(6,.I l),(7,.I s),(8,.b (bif (c<0)then((0<d)||((0<c)&&(d<0)))else((0<c)&&(d<0))))],[]⟩ (H a [4] Z<|bO_ (decide (c<0)) (λe=>L a [.S 42 (.b true),4] Z e<|bO_ (decide (0<d)) (λf=>G a [.S 46 (.b true),9,.S 8 (.b (bif (c<0)then((0<d)||((0<c)&&(d<0)))else((0<c)&&(d<0))))] Z ⟨(tc_ f),(cb_ (My e (KB f Z)))⟩<|M Z) λf=>L a [.S 46 (.b false),3] Z f<|bO_ (decide (0<c)) (λj=>G a [.S 49 (.b true),6,.S 8 (.b (bif (c<0)then((0<d)||((0<c)&&(d<0)))else((0<c)&&(d<0))))] Z ⟨(tc_ j),(cb_ (My e (Yj f (XL j Z))))⟩<|M Z) λj=>G a [.S 49 (.b false),6,.S 8 (.b (bif (c<0)then((0<d)||((0<c)&&(d<0)))else((0<c)&&(d<0))))] Z ⟨(tc_ j),(cb_ (My e (Yj f (Yp j Z))))⟩<|M Z) λe=>L a [.S 42 (.b false),7] Z e<|bO_ (decide (0<c)) (λk=>G a [.S 49 (.b true),6,.S 8 (.b (bif (c<0)then((0<d)||((0<c)&&(d<0)))else((0<c)&&(d<0))))] Z ⟨(tc_ k),(cb_ (Zj e (XL k Z)))⟩<|M Z) λk=>G a [.S 49 (.b false),6,.S 8 (.b (bif (c<0)then((0<d)||((0<c)&&(d<0)))else((0<c)&&(d<0))))] Z ⟨(tc_ k),(cb_ (Zj e (Yp k Z)))⟩<|M Z)<|X h λD h=>J a [10] Z (neZ D)<|I h (λu h=>J a [.T,11] Z u<|F h Z Z U) λu h=>J a [.F,4] Z u<|mV_ h (λz=>⟨[(77,.b z)],[]⟩) (λz h=>H a [3] Z<|I h (λv h=>X h λN h=>G a [.S 62 (.b true),10] Z ⟨(tc_ v),(neZ N)⟩<|I h (λw h=>L a [.S 72 (.b true),6] Z w<|mq_ h Z) λw h=>L a [.S 72 (.b false),6] Z w<|mq_ h Z) λv h=>L a [.S 62 (.b false),16] Z v<|mq_ h Z) λz h=>H a [1] Z<|I h (λx h=>J a [.T,8] Z x<|F h Z Z U) λx h=>J a [.F,9] Z x<|F h Z Z U
def Dq (a:Bool):O_ Int:=bif a then some 1 else some 0
def Dc (c):CT 238 [.b c] [] (Dq c) V.I no_:=
 W 4 func238 Z λC d r h=>H d [11] Z<|I h (λa h=>J d [.T,7] Z a<|E h Z U) λa h=>J d [.F,8] Z a<|E h Z U
def Aj (b:Int)(a:Bool):O_ (Int×Int):=bif (!a)then some (0,6)else some (b,0)
def Qbu (c:Int)(d:Int):O_ Int:=bif (c != 0)then (Dq (d != 0)).bind λa=>some a else (Dq false).bind λb=>some b
def Qbv (a:Int):O_ (Int×Int):=some (a,0)
def Qbw (c:Int)(d:Int):O_ Int:=bif (c != 0)then (Dq true).bind λa=>some a else (Dq (d != 0)).bind λb=>some b
def Qbx (a:Int):O_ (Int×Int):=some (a,0)
def Ak (a:Int)(b:Int)(Yg:Int)(c:Bool):O_ (Int×Int):=bif c then bif (a==0)then some (0,7)else bif ((b==(-9223372036854775808))&&(a==(-1)))then some (0,6)else bif (Yg==4)then (chk (a != 0)).bind λ_=>some ((Qj (Int.tdiv b a)),0)else (chk (a != 0)).bind λ_=>some ((Int.tmod b a),0)else bif (Yg==6)then (Dq (b==a)).bind λd=>some (d,0)else bif (Yg==7)then (Dq (b != a)).bind λe=>some (e,0)else bif (Yg==8)then (Dq (decide (b<a))).bind λf=>some (f,0)else bif (Yg==9)then (Dq (decide (b<=a))).bind λg=>some (g,0)else bif (Yg==10)then (Qbu b a).bind (λh=>Qbv h)else bif (Yg==11)then (Qbw b a).bind (λi=>Qbx i)else some (0,1)
def WK (Yg:Int)(a:Int)(b:Int):O_ (Int×Int):=bif (Yg==1)then (Pw a b).bind λc=>Aj c.1 c.2 else bif (Yg==2)then (Px a b).bind λd=>Aj d.1 d.2 else bif (Yg==3)then (Py a b).bind λe=>Aj e.1 e.2 else bif (Yg==4)then Ak b a Yg (Yg==4)else Ak b a Yg (Yg==5)
def Qby (Yg D P):CT 190 [.I Yg,.I D,.I P] [] (WK Yg D P) (λr=>(.tup [.I r.1,.I r.2])) no_:=
 W 99 func190 Z λC a r h=>H a [16] Z<|mF_ (λ(n8:Int) (N:Bool)=>⟨[(8,.I n8),(9,.b N)],[]⟩) (λn8 N=>Aj n8 N=some r) (H a [12] Z<|I h (λf h=>B h λa3 a4 h=>K a [.T,3,.o (.C2 (.tup [.I a3.1,.b a3.2])),7] Z f (Qig _ _ _ a4)<|mf_ h Z) λf h=>J a [.F,6] Z f<|I h (λg h=>B h λa5 a6 h=>K a [.T,3,.o (.C2 (.tup [.I a5.1,.b a5.2])),7] Z g (Qih _ _ _ a6)<|mf_ h Z) λg h=>J a [.F,6] Z g<|I h (λi h=>B h λa7 a8 h=>K a [.T,3,.o (.C2 (.tup [.I a7.1,.b a7.2])),7] Z i (Qij _ _ _ a8)<|mf_ h Z) λi h=>J a [.F] Z i<|mE_ (λO:Bool=>⟨[(0,.I Yg),(1,.I D),(2,.I P),(10,.I Yg),(35,.b O)],[]⟩) (λO=>Ak P D Yg O=some r) (H a [6] Z<|I h (λj h=>J a [.T,1] Z j<|me_ h Z) λj h=>J a [.F,4] Z j<|me_ h Z) λO h=>I h (λk h=>J a [.T,7] Z k<|I h (λl h=>J a [.T,10] Z l<|F h Z Z U) λl h=>J a [.F,4] Z l<|Y ⟨[(0,.I Yg),(1,.I D),(2,.I P),(45,.b ((D==(-9223372036854775808))&&(P==(-1))))],[]⟩ (H a [4] Z<|bO_ (D==(-9223372036854775808)) (λe=>G a [.S 42 (.b true),4,.S 45 (.b ((D==(-9223372036854775808))&&(P==(-1))))] Z ⟨(tc_ e),(cb_ (XL e Z))⟩<|M Z) λe=>G a [.S 42 (.b false),4,.S 45 (.b ((D==(-9223372036854775808))&&(P==(-1))))] Z ⟨(tc_ e),(cb_ (Yp e Z))⟩<|M Z)<|H a [1] Z<|I h (λm h=>J a [.T,10] Z m<|F h Z Z U) λm h=>J a [.F,9] Z m<|I h (λp h=>X h λa9 h=>K a [.T,13] Z p (neZ a9)<|F h Z Z U) λp h=>X h λb0 h=>K a [.F,14] Z p (neZ b0)<|F h Z Z U) λk h=>J a [.F,6] Z k<|I h (λq h=>B h λc0 b1 h=>K a [.T,5,.o (.C1 (.I c0)),7] Z q (Dc _ _ b1)<|F h Z Z U) λq h=>J a [.F,6] Z q<|I h (λs h=>B h λc1 b2 h=>K a [.T,5,.o (.C1 (.I c1)),7] Z s (Dc _ _ b2)<|F h Z Z U) λs h=>J a [.F,6] Z s<|I h (λt h=>B h λc2 b4 h=>K a [.T,5,.o (.C1 (.I c2)),7] Z t (Dc _ _ b4)<|F h Z Z U) λt h=>J a [.F,6] Z t<|I h (λu h=>B h λc3 b5 h=>K a [.T,5,.o (.C1 (.I c3)),7] Z u (Dc _ _ b5)<|F h Z Z U) λu h=>J a [.F,6] Z u<|I h (λv h=>J a [.T,1] Z v<|mV_ h (λa0=>⟨[(6,.I a0),(7,.I 0)],[]⟩) (λa0 h=>H a [4] Z<|I h (λw h=>B h λc4 b6 h=>G a [.S 82 (.b true),3,.o (.C1 (.I c4)),3] Z ⟨(tc_ w),(Dc _ _ b6)⟩<|mq_ h Z) λw h=>B h λc5 b7 h=>G a [.S 82 (.b false),3,.o (.C1 (.I c5)),3] Z ⟨(tc_ w),(Dc _ _ b7)⟩<|mq_ h Z) λa0 h=>H a [4] Z<|F h Z Z U) λv h=>J a [.F,6] Z v<|I h (λx h=>J a [.T,1] Z x<|mV_ h (λa1=>⟨[(6,.I a1),(7,.I 0)],[]⟩) (λa1 h=>H a [4] Z<|I h (λy h=>B h λc6 b8 h=>G a [.S 91 (.b true),3,.o (.C1 (.I c6)),3] Z ⟨(tc_ y),(Dc _ _ b8)⟩<|mq_ h Z) λy h=>B h λc7 b9 h=>G a [.S 91 (.b false),3,.o (.C1 (.I c7)),3] Z ⟨(tc_ y),(Dc _ _ b9)⟩<|mq_ h Z) λa1 h=>H a [4] Z<|F h Z Z U) λx h=>J a [.F,9] Z x<|F h Z Z U) λn8 N h=>H a [7] Z<|I h (λz h=>J a [.T,8] Z z<|F h Z Z U) λz h=>J a [.F,10] Z z<|F h Z Z U
def IR (D:Qi->LI_->O_ (Int×Int))(c:Qi)(a:LI_):O_ (Int×Int):=bif (c.Kind==1)then some (c.Num,0)else bif (c.Kind==2)then (idx a c.Num).bind λm=>some (m,0)else (idx c.Kids 0).bind λi=>(D i a).bind λb=>bif (b.2 != 0)then some (0,b.2)else bif (c.Kind==3)then (WK 2 0 b.1).bind λe=>some (e.1,e.2)else bif (c.Kind==4)then bif (b.1==0)then some (1,0)else some (0,0)else bif (c.Kind==6)then bif (b.1 != 0)then (idx c.Kids 1).bind λj=>(D j a).bind λf=>some (f.1,f.2)else (idx c.Kids 2).bind λk=>(D k a).bind λg=>some (g.1,g.2)else bif ((c.Num==10)&&(b.1==0))then some (0,0)else bif ((c.Num==11)&&(b.1 != 0))then some (1,0)else (idx c.Kids 1).bind λl=>(D l a).bind λd=>bif (d.2 != 0)then some (0,d.2)else (WK c.Num b.1 d.1).bind λh=>some (h.1,h.2)
def Gs : Nat->Qi->LI_->O_ (Int×Int)
 | 0,_,_=>none
 | n+1,b,a=>IR (Gs n) b a
def Tu (b:Qi)(a:LI_):O_ (Int×Int):=Gs (SizeOf.sizeOf b) b a
def QdW (rec_ref04_eval:Qi->LI_->O_ (Int×Int))(hrec_ref04_eval:∀(j:Qi) (e:LI_) {r:(Int×Int)},rec_ref04_eval j e=some r->QP prog 121 [.agg (Qm j),.sl 1 (e.map Qb)] [] (Gives (.tup [.I r.1,.I r.2]) []))(j:Qi)(e:LI_):CT 121 [.agg (Qm j),.sl 1 (e.map Qb)] [] (IR rec_ref04_eval j e) (λr=>(.tup [.I r.1,.I r.2])) no_:=
 W 100 func121 Z λC a r h=>H a [21] Z<|I h (λx h=>J a [.T,11] Z x<|F h Z Z U) λx h=>J a [.F,6] Z x<|I h (λy h=>B h λe9 b4 h=>K a [.T,5,.o (.row (Qb e9)),8] Z y (QI b4)<|F h Z Z U) λy h=>B h λz D h=>B h λf N h=>g4_ a [.F,7,.o (.row (Qm z)),.A (Qm z),1,.o (.C2 (.tup [.I f.1,.I f.2])),14] Z y (Jc D) Z (hrec_ref04_eval _ _ N)<|I h (λk h=>J a [.T,9] Z k<|F h Z Z U) λk h=>J a [.F,16] Z k<|I h (λl h=>B h λO P h=>K a [.T,3,.o (.C3 (.tup [.I O.1,.I O.2])),9] Z l (Qby _ _ _ _ P)<|F h Z Z U) λl h=>J a [.F,6] Z l<|I h (λm h=>J a [.T,7] Z m<|I h (λp h=>J a [.T,10] Z p<|F h Z Z U) λp h=>J a [.F,11] Z p<|F h Z Z U) λm h=>J a [.F,6] Z m<|I h (λq h=>J a [.T,7] Z q<|I h (λs h=>B h λa0 a1 h=>B h λa2 a3 h=>g4_ a [.T,4,.o (.row (Qm a0)),.A (Qm a0),1,.o (.C2 (.tup [.I a2.1,.I a2.2])),10] Z s (Jc a1) Z (hrec_ref04_eval _ _ a3)<|F h Z Z U) λs h=>B h λa4 a5 h=>B h λa6 a7 h=>g4_ a [.F,6,.o (.row (Qm a4)),.A (Qm a4),1,.o (.C2 (.tup [.I a6.1,.I a6.2])),9] Z s (Jc a5) Z (hrec_ref04_eval _ _ a7)<|F h Z Z U) λq h=>J a [.F,5] Z q<|Y ⟨[(1,.sl 1 (e.map Qb)),lk_ 2,(6,.I f.1),(73,.b ((j.Num==10)&&(f.1==0)))],[(2,.var (Qm j))]⟩ (H a [5] Z<|bO_ (j.Num==10) (λg=>G a [.S 70 (.b true),4,.S 73 (.b ((j.Num==10)&&(f.1==0)))] Z ⟨(tc_ g),(cb_ (XL g Z))⟩<|M Z) λg=>G a [.S 70 (.b false),4,.S 73 (.b ((j.Num==10)&&(f.1==0)))] Z ⟨(tc_ g),(cb_ (Yp g Z))⟩<|M Z)<|H a [1] Z<|I h (λt h=>J a [.T,8] Z t<|F h Z Z U) λt h=>J a [.F,4] Z t<|Y ⟨[(1,.sl 1 (e.map Qb)),lk_ 2,(6,.I f.1),(80,.b ((j.Num==11)&&(f.1 != 0)))],[(2,.var (Qm j))]⟩ (H a [5] Z<|bO_ (j.Num==11) (λi=>G a [.S 77 (.b true),4,.S 80 (.b ((j.Num==11)&&(f.1 != 0)))] Z ⟨(tc_ i),(cb_ (XL i Z))⟩<|M Z) λi=>G a [.S 77 (.b false),4,.S 80 (.b ((j.Num==11)&&(f.1 != 0)))] Z ⟨(tc_ i),(cb_ (Yp i Z))⟩<|M Z)<|H a [1] Z<|I h (λu h=>J a [.T,8] Z u<|F h Z Z U) λu h=>B h λa8 a9 h=>B h λb0 b1 h=>g4_ a [.F,6,.o (.row (Qm a8)),.A (Qm a8),1,.o (.C2 (.tup [.I b0.1,.I b0.2])),14] Z u (Jc a9) Z (hrec_ref04_eval _ _ b1)<|I h (λw h=>J a [.T,9] Z w<|F h Z Z U) λw h=>B h λb2 b3 h=>K a [.F,8,.o (.C3 (.tup [.I b2.1,.I b2.2])),7] Z w (Qby _ _ _ _ b3)<|F h Z Z U
def RA : ∀(fuel:Nat) (b:Qi) (a:LI_) {r:(Int×Int)},Gs fuel b a=some r->QP prog 121 [.agg (Qm b),.sl 1 (a.map Qb)] [] (Gives (.tup [.I r.1,.I r.2]) [])
 | 0,_,_,_,h=>by cases h
 | n+1,b,a,_,h=>QdW (Gs n) (λ_ _ _ h=>RA n _ _ h) b a _ h
def QgV (b a){r}(h:Tu b a=some r):QP prog 121 [.agg (Qm b),.sl 1 (a.map Qb)] [] (Gives (.tup [.I r.1,.I r.2]) []):=RA _ b a h
def HV (b:Qi)(a:LI_):O_ (Int×Int):=(Ms b (a.length:Int)).bind λd=>bif (!d)then some (0,1)else (Tu b a).bind λc=>some (c.1,c.2)
def VL (f a):CT 66 [.agg (Qm f),.sl 1 (a.map Qb)] [] (HV f a) (λr=>(.tup [.I r.1,.I r.2])) no_:=
 W 18 func66 Z λC g r h=>B h λl i h=>g3_ g [9,.A (Qm f),1,.o (.ln a.length),.o (.C2 (.b l)),10] Z Z Qc (Qfq _ _ _ i)<|I h (λe h=>J g [.T,8] Z e<|F h Z Z U) λe h=>B h λk j h=>g3_ g [.F,4,.A (Qm f),1,.o (.C2 (.tup [.I k.1,.I k.2])),7] Z e Z (QgV _ _ j)<|F h Z Z U
def DK (e:QLL)(a:LI_)(b:Int):O_ (Int⊕(Unit⊕Unit)):=bif (b<(e.length:Int))then (idx e b).bind λc=>(WB c a).bind λd=>bif d then some (.inr (.inl ()))else some (.inl (Qj (b+1)))else some (.inr (.inr ()))
def QdX : O_ Bool:=some true
def QdY : O_ Bool:=some false
def BV (a:Int)(b:Int)(c:LI_):O_ Bool:=(DC a b).bind λd=>(Qs (λst=>DK d c st) 0).bind (Sum.elim (λq=>QdX) (λq=>QdY))
def RB (a e f):CT 67 [.I a,.I e,.sl 1 (f.map Qb)] [] (BV a e f) V.b no_:=
 W 24 func67 Z λC i r h=>B h λm p h=>J i [9,.o (.co false [.d,.d] 1 (m.map Qz) m.length),10] Z ⟨(HT _ _ _ p),Qc,.inl Z⟩<|lq_ h (λst=>⟨[(2,.sl 1 (f.map Qb)),(7,.own 11 m.length),(8,.I st)],[(11,.arr 1 (m.map Qz))]⟩) (λq=>(.ret,⟨[(6,.b true)],[]⟩)) (λq=>(.exit 0,⟨[],[]⟩)) Z (λu o h=>H i [9] Z<|I h (λk h=>B h λs j h=>B h λt l h=>g4_ i [.T,9,.o (.row (Qz s)),1,.o (.C2 (.b t)),2] Z k (Yv j Z) (XO (Ys j).2) (Ef _ _ _ l)<|I h (λg h=>J i [.T,8] Z g<|rR_ h Z) λg h=>J i [.F,8] Z g<|rN_ h Z) λk h=>J i [.F,2] Z k<|rX_ h Z) (λ_ h=>H i [2] Z<|E h Z U) (λ_ h=>H i [8] Z<|E h Z U)
def Wj (c:Int)(a:Int)(d:Int)(b:Int):O_ (Int⊕(Int⊕Unit)):=bif (b<c)then bif ((Qj (a+b))==d)then some (.inr (.inl b))else some (.inl (Qj (b+1)))else some (.inr (.inr ()))
def QdZ (a:Int):O_ (Int×Bool):=some (a,true)
def Qd0 : O_ (Int×Bool):=some (0,false)
def DL (b:Int)(c:Int)(a:Int):O_ (Int×Bool):=(Qs (λst=>Wj b a c st) 0).bind (Sum.elim (λq=>QdZ q) (λq=>Qd0))
def RC (b:Int)(c:(L_ QM))(d:Int):O_ Bool:=bif (0<b)then (idx c d).bind λa=>some (a.Kind==1)else some false
def RD (e:(L_ QM))(f:Int)(c:Int)(d:Int)(a:Bool):O_ (Int×Bool):=bif a then (idx e f).bind λb=>DL c d b.Lo else DL c d 0
def IS (a:(L_ QM))(b:Int)(e:Int):O_ (Int×Bool):=(GT a b).bind λd=>(RC d a b).bind (λc=>RD a b d e c)
def Qd1 (t u l):CT 123 [.sl 7 (t.map Qt),.I u,.I l] [] (IS t u l) (λr=>(.tup [.I r.1,.b r.2])) no_:=
 W 40 func123 Z λC e r h=>B h λm v h=>J e [10,.o (.C2 (.I m)),8] Z (Ot _ _ _ v)<|mE_ (λa:Int=>⟨[(2,.I l),(8,.I m),(9,.I a)],[]⟩) (λa=>DL m l a=some r) (H e [1] Z<|mV_ h (λk=>⟨[(0,.sl 7 (t.map Qt)),(1,.I u),(2,.I l),(8,.I m),(9,.I 0),(23,.b k)],[]⟩) (λk h=>H e [4] Z<|I h (λf h=>B h λw p h=>G e [.S 16 (.b true),2,.o (.row (Qt w)),5] Z ⟨(tc_ f),(QI p)⟩<|mq_ h Z) λf h=>L e [.S 16 (.b false),8] Z f<|mq_ h Z) λk h=>H e [1] Z<|I h (λg h=>B h λx s h=>K e [.T,3,.o (.row (Qt x)),4] Z g (QI s)<|me_ h Z) λg h=>J e [.F,1] Z g<|me_ h Z) λa h=>H e [7] Z<|lq_ h (λst=>⟨[(2,.I l),(8,.I m),(9,.I a),(10,.I st)],[]⟩) (λq=>(.ret,⟨[(6,.I q),(7,.b true)],[]⟩)) (λq=>(.exit 0,⟨[],[]⟩)) Z (λy o h=>H e [8] Z<|I h (λi h=>J e [.T,13] Z i<|I h (λj h=>J e [.T,10] Z j<|rR_ h Z) λj h=>J e [.F,8] Z j<|rN_ h Z) λi h=>J e [.F,2] Z i<|rX_ h Z) (λz h=>H e [2] Z<|F h Z Z U) (λ_ h=>H e [9] Z<|F h Z Z U)
def Tv (b:QBg)(a:Int):O_ Bool:=(idx b a).bind λg=>bif (g.1<0)then some true else (idx b a).bind λc=>bif (c.2<1)then some true else (idx b a).bind λd=>bif (1048576<d.2)then some true else bif (0<a)then (idx b a).bind λe=>(idx b (Qj (a-1))).bind λf=>some (decide (e.1<=f.1))else some false
def Tw (a:Int)(b:Bool):O_ (Int⊕(Unit⊕Unit)):=bif b then some (.inr (.inl ()))else some (.inl (Qj (a+1)))
def WP (b:QBg)(a:Int):O_ (Int⊕(Unit⊕Unit)):=bif (a<(b.length:Int))then (Tv b a).bind (λc=>Tw a c)else some (.inr (.inr ()))
def Qfr : O_ Bool:=some false
def Qfs : O_ Bool:=some true
def KR (a:QBg):O_ Bool:=(Qs (λst=>WP a st) 0).bind (Sum.elim (λq=>Qfr) (λq=>Qfs))
def WQ (t):CT 191 [.sl 2 (t.map Qo)] [] (KR t) V.b no_:=
 W 50 func191 Z λC e r h=>H e [12] Z<|lq_ h (λst=>⟨[(0,.sl 2 (t.map Qo)),(3,.I st)],[]⟩) (λq=>(.ret,⟨[(2,.b false)],[]⟩)) (λq=>(.exit 0,⟨[],[]⟩)) Z (λD o h=>J e [5,.o (.ln t.length),3] Z Qc<|I h (λp h=>J e [.T,5] Z p<|mV_ h (λx=>⟨[(0,.sl 2 (t.map Qo)),(3,.I D),(49,.b x)],[]⟩) (λx h=>B h λu i h=>H e [.K [0,3] []] Z<|I h (λc h=> 
  dr_ e [.N,.N,.B (.row (Qo u)),.N,.N,.N,.E (.b true),.N,.N,.N,.N,.N,.N,.N,.N,.N,.N,.N,.N,.N,.N,.N,.N,.N,.N,.N,.N,.N,.N,.N,.N,.N,.N,.N,.N,.N,.N,.N,.N,.N] [] [] [0,3,49] [] Z Z (a2_ (QI i) (cb_ c)) Z <|
  mq_ h Z) λc h=>B h λm f h=>I h (λd h=> 
  dr_ e [.N,.N,.B (.row (Qo u)),.N,.N,.N,.E (.b false),.N,.N,.B (.row (Qo m)),.N,.N,.N,.N,.E (.b true),.N,.N,.N,.N,.N,.N,.N,.N,.N,.N,.N,.N,.N,.N,.N,.N,.N,.N,.N,.N,.N,.N,.N,.N,.N] [] [] [0,3,49] [] Z Z (a4_ (QI i) (cb_ c) (QI f) (cb_ d)) Z <|
  mq_ h Z) λd h=>B h λs j h=>I h (λg h=> 
  dr_ e [.N,.N,.B (.row (Qo u)),.N,.N,.N,.E (.b false),.N,.N,.B (.row (Qo m)),.N,.N,.N,.N,.E (.b false),.N,.N,.B (.row (Qo s)),.N,.N,.N,.N,.E (.b true),.N,.N,.N,.N,.N,.N,.N,.N,.N,.N,.N,.N,.N,.N,.N,.N,.N] [] [] [0,3,49] [] Z Z (a6_ (QI i) (cb_ c) (QI f) (cb_ d) (QI j) (cb_ g)) Z <|
  mq_ h Z) λg h=>I h (λk h=>B h λy v h=>B h λz w h=> 
  dr_ e [.N,.N,.B (.row (Qo u)),.N,.N,.N,.E (.b false),.N,.N,.B (.row (Qo m)),.N,.N,.N,.N,.E (.b false),.N,.N,.B (.row (Qo s)),.N,.N,.N,.N,.E (.b false),.N,.N,.E (.b true),.N,.N,.B (.row (Qo y)),.N,.N,.N,.N,.N,.B (.row (Qo z)),.N,.N,.N,.N,.N] [] [] [0,3,49] [] Z Z (a9_ (QI i) (cb_ c) (QI f) (cb_ d) (QI j) (cb_ g) (cb_ k) (QI v) (QI w)) Z <|
  mq_ h Z) λk h=> 
  dr_ e [.N,.N,.B (.row (Qo u)),.N,.N,.N,.E (.b false),.N,.N,.B (.row (Qo m)),.N,.N,.N,.N,.E (.b false),.N,.N,.B (.row (Qo s)),.N,.N,.N,.N,.E (.b false),.N,.N,.E (.b false),.N,.N,.N,.N,.N,.N,.N,.N,.N,.N,.N,.N,.N,.N] [] [] [0,3,49] [] Z Z (a7_ (QI i) (cb_ c) (QI f) (cb_ d) (QI j) (cb_ g) (cb_ k)) Z <|
  mq_ h Z) λx h=>H e [1] Z<|I h (λl h=>J e [.T,8] Z l<|rR_ h Z) λl h=>J e [.F,8] Z l<|rN_ h Z) λp h=>J e [.F,2] Z p<|rX_ h Z) (λ_ h=>H e [2] Z<|E h Z U) (λ_ h=>H e [8] Z<|E h Z U)
def WR (b:QBg)(e:Bool)(f:Int)(a:Int):O_ (Int⊕(Int⊕Unit)):=bif ((a<(b.length:Int))&&e)then (idx b a).bind λc=>bif (c.1==f)then (idx b a).bind λd=>some (.inr (.inl d.2))else some (.inl (Qj (a+1)))else some (.inr (.inr ()))
def Qft (a:Int):O_ Int:=some a
def Qfu : O_ Int:=some 0
def Al (a:QBg)(b:Int):O_ Int:=(KR a).bind λc=>(Qs (λst=>WR a c b st) 0).bind (Sum.elim (λq=>Qft q) (λq=>Qfu))
def MY (i p):CT 192 [.sl 2 (i.map Qo),.I p] [] (Al i p) V.I no_:=
 W 30 func192 Z λC e r h=>B h λj s h=>J e [8,.o (.C1 (.b j)),10] Z (WQ _ _ s)<|lq_ h (λst=>⟨[(0,.sl 2 (i.map Qo)),(1,.I p),(5,.b j),(6,.I st)],[]⟩) (λq=>(.ret,⟨[(4,.I q)],[]⟩)) (λq=>(.exit 0,⟨[],[]⟩)) Z (λk o h=>H e [2] Z<|Y ⟨[(0,.sl 2 (i.map Qo)),(1,.I p),(5,.b j),(6,.I k),(15,.b ((k<(i.length:Int))&&j))],[]⟩ (J e [3,.o (.ln i.length),2] Z Qc<|bO_ (decide (k<(i.length:Int))) (λa=>G e [.S 13 (.b true),3,.S 15 (.b ((k<(i.length:Int))&&j))] Z ⟨(tc_ a),(cb_ (XL a Z))⟩<|M Z) λa=>G e [.S 13 (.b false),3,.S 15 (.b ((k<(i.length:Int))&&j))] Z ⟨(tc_ a),(cb_ (Yp a Z))⟩<|M Z)<|H e [1] Z<|I h (λf h=>B h λt l h=>K e [.T,8,.o (.row (Qo t)),6] Z f (QI l)<|I h (λg h=>B h λu m h=>K e [.T,4,.o (.row (Qo u)),8] Z g (QI m)<|rR_ h Z) λg h=>J e [.F,8] Z g<|rN_ h Z) λf h=>J e [.F,2] Z f<|rX_ h Z) (λv h=>H e [2] Z<|E h Z U) (λ_ h=>H e [8] Z<|E h Z U)
def Ho (c:Int)(a:Bool)(b:QBg):O_ ((Bool×Int×QBg)⊕(Bool×QBg)):=some (.inl (a,(Qj (c+1)),b))
def AJ (f:QBg)(d:Int)(g:Int)(a:Bool)(b:QBg):O_ ((Bool×Int×QBg)⊕(Bool×QBg)):=(idx f d).bind λe=>bif (e.1 != g)then (idx f d).bind λc=>(chk (b.length+([c]:L_ (Int×Int)).length<=4294967296)).bind λ_=>Ho d a (b++([c]:L_ (Int×Int)))else Ho d a b
def VM (a:Bool)(c:QBg)(d:Int)(e:Int):O_ Bool:=bif (!a)then (idx c d).bind λb=>some (decide (e<=b.1))else some false
def Hp (b:QBg)(c:Int)(d:Int)(a:QBg):O_ ((Bool×Int×QBg)⊕(Bool×QBg)):=AJ b c d true a
def VN (d:Int)(c:QBg)(b:Int)(e:QBg)(f:Int)(a:Bool)(g:Bool):O_ ((Bool×Int×QBg)⊕(Bool×QBg)):=bif g then bif (0<d)then (chk (c.length+([(b,d)]:L_ (Int×Int)).length<=4294967296)).bind λ_=>Hp e f b (c++([(b,d)]:L_ (Int×Int)))else Hp e f b c else AJ e f b a c
def El (b:QBg)(e:Int)(g:Int)(a:Bool)(c:Int)(f:QBg):O_ ((Bool×Int×QBg)⊕(Bool×QBg)):=bif (c<(b.length:Int))then (VM a b c e).bind (λd=>VN g f e b c a d)else some (.inr (a,f))
def Hq (a:QBg):O_ QBg:=some a
def Ov (c:Int)(d:Int)(a:Bool)(b:QBg):O_ QBg:=bif ((!a)&&(0<c))then (chk (b.length+([(d,c)]:L_ (Int×Int)).length<=4294967296)).bind λ_=>Hq (b++([(d,c)]:L_ (Int×Int)))else Hq b
def HW (c:QBg)(a:Int)(b:Int):O_ QBg:=(Qs (λst=>El c a b st.1 st.2.1 st.2.2) (false,0,([]:L_ (Int×Int)))).bind (λq=>Ov b a q.1 q.2)
def VO (z g f):CT 193 [.sl 2 (z.map Qo),.I g,.I f] [] (HW z g f) (λr=>(.own 600 r.length)) (λr=>[(600,.arr 2 (r.map Qo))]):=
 W 62 func193 Z λC a r h=>K a [22,.adopt 7 29 2,.O 29 (.arr 2 (([]:L_ (Int×Int)).map Qo)),.S 7 (.own 29 ([]:L_ (Int×Int)).length)] Z Z (congrArg (λn=>V.own 29 n) (by simp))<|lp_ h (λst=>⟨[(0,.sl 2 (z.map Qo)),(1,.I g),(2,.I f),(7,.own 29 st.2.2.length),(8,.b st.1),(9,.I st.2.1)],[(29,.arr 2 (st.2.2.map Qo))]⟩) (λq=>(.exit 0,⟨[(1,.I g),(2,.I f),(7,.own 29 q.2.length),(8,.b q.1)],[(29,.arr 2 (q.2.map Qo))]⟩)) Z (λ⟨N,P,l9⟩ o h=>J a [5,.o (.ln z.length),3] Z Qc<|I h (λk h=>J a [.T,2] Z k<|mF_ (λ(c:Bool) (l:QBg)=>⟨[(0,.sl 2 (z.map Qo)),(1,.I g),(2,.I f),(7,.own 29 l.length),(8,.b c),(9,.I P)],[(29,.arr 2 (l.map Qo))]⟩) (λc l=>Ho P c l=some o) (H a [1] Z<|mF_ (λ(d:Bool) (j:QBg)=>⟨[(0,.sl 2 (z.map Qo)),(1,.I g),(2,.I f),(7,.own 29 j.length),(8,.b d),(9,.I P)],[(29,.arr 2 (j.map Qo))]⟩) (λd j=>AJ z P g d j=some o) (H a [1] Z<|mV_ h (λa0=>⟨[(0,.sl 2 (z.map Qo)),(1,.I g),(2,.I f),(7,.own 29 l9.length),(8,.b N),(9,.I P),(26,.b a0)],[(29,.arr 2 (l9.map Qo))]⟩) (λa0 h=>H a [4] Z<|I h (λm h=>B h λa7 a1 h=>G a [.S 18 (.b true),2,.o (.row (Qo a7)),6] Z ⟨(tc_ m),(QI a1)⟩<|mq_ h Z) λm h=>L a [.S 18 (.b false),9] Z m<|mq_ h Z) λa0 h=>H a [1] Z<|I h (λp h=>J a [.T] Z p<|mE_ (λs:QBg=>⟨[(0,.sl 2 (z.map Qo)),(1,.I g),(2,.I f),(7,.own 29 s.length),(9,.I P)],[(29,.arr 2 (s.map Qo))]⟩) (λs=>Hp z P g s=some o) (H a [6] Z<|I h (λt h=>X h λa2 h=>g4_ a [.T,4,.A (Qo (g,f)),.v (.bd []) [] (.sl 2 (([(g,f)]:L_ (Int×Int)).map Qo)),.app ((l9++([(g,f)]:L_ (Int×Int))).map Qo) (l9++([(g,f)]:L_ (Int×Int))).length,2] Z t Z Z ⟨Qc,Yk a2 Qc,XG,YC Qc⟩<|me_ h Z) λt h=>J a [.F,1] Z t<|me_ h Z) λs h=>H a [3] Z<|mf_ h Z) λp h=>J a [.F,1] Z p<|mf_ h Z) λd j h=>B h λa8 a3 h=>J a [4,.o (.row (Qo a8)),6] Z (QI a3)<|I h (λu h=>B h λw a4 h=>X h λa5 h=>G a [.T,4,.o (.row (Qo w)),.A (Qo w),.v (.bd []) [] (.sl 2 (([w]:L_ (Int×Int)).map Qo)),.app ((j++([w]:L_ (Int×Int))).map Qo) (j++([w]:L_ (Int×Int))).length,3] Z (a5_ u (QI a4) Z Z ⟨Qc,Yk a5 Qc,XG,YC Qc⟩)<|mf_ h Z) λu h=>J a [.F,2] Z u<|mf_ h Z) λc l h=>H a [5] Z<|rN_ h Z) λk h=>J a [.F,2] Z k<|rX_ h Z) λ⟨e,D⟩ h=>H a [2] Z<|mE_ (λx:QBg=>⟨[(7,.own 29 x.length)],[(29,.arr 2 (x.map Qo))]⟩) (λx=>Hq x=some r) (H a [1] Z<|Y ⟨[(1,.I g),(2,.I f),(7,.own 29 D.length),(54,.b ((!e)&&(0<f)))],[(29,.arr 2 (D.map Qo))]⟩ (H a [4] Z<|bO_ (!e) (λi=>G a [.S 51 (.b true),4,.S 54 (.b ((!e)&&(0<f)))] Z ⟨(tc_ i),(cb_ (XL i Z))⟩<|M Z) λi=>G a [.S 51 (.b false),4,.S 54 (.b ((!e)&&(0<f)))] Z ⟨(tc_ i),(cb_ (Yp i Z))⟩<|M Z)<|H a [1] Z<|I h (λy h=>X h λa6 h=>g4_ a [.T,4,.A (Qo (g,f)),.v (.bd []) [] (.sl 2 (([(g,f)]:L_ (Int×Int)).map Qo)),.app ((D++([(g,f)]:L_ (Int×Int))).map Qo) (D++([(g,f)]:L_ (Int×Int))).length,2] Z y Z Z ⟨Qc,Yk a6 Qc,XG,YC Qc⟩<|me_ h Z) λy h=>J a [.F,1] Z y<|me_ h Z) λx h=>H a [7,.K [6] [29],.ren 29 600] Z<|E h Z r1_
def ZW (b:QBg)(c:QBg):O_ Bool:=(KR b).bind λd=>bif (!d)then some true else (KR c).bind λa=>some (!a)
def Gt (e:QBg)(a:Int)(b:QBg):O_ ((Int×QBg)⊕(Unit⊕QBg)):=bif (a<(e.length:Int))then (idx e a).bind λf=>(Al b f.1).bind λc=>(idx e a).bind λd=>bif (1048576<(Qj (c+d.2)))then some (.inr (.inl ()))else (idx e a).bind λg=>(HW b g.1 (Qj (c+d.2))).bind λh=>some (.inl ((Qj (a+1)),h))else some (.inr (.inr b))
def Qik : O_ (QBg×Int):=some (([]:L_ (Int×Int)),2)
def Qil (a:QBg):O_ (QBg×Int):=some (a,0)
def ZX (a:QBg)(b:QBg)(c:Bool):O_ (QBg×Int):=bif c then some (([]:L_ (Int×Int)),1)else (chk (([]:L_ (Int×Int)).length+a.length<=4294967296)).bind λ_=>(Qs (λst=>Gt b st.1 st.2) (0,(([]:L_ (Int×Int))++a))).bind (Sum.elim (λq=>Qik) (λq=>Qil q))
def Be (a:QBg)(b:QBg):O_ (QBg×Int):=(ZW a b).bind (λc=>ZX a b c)
def ZY (k l):CT 124 [.sl 2 (k.map Qo),.sl 2 (l.map Qo)] [] (Be k l) (λr=>(.tup [.sl 2 (r.1.map Qo),.I r.2])) no_:=
 W 50 func124 Z λC e r h=>H e [8] Z<|mV_ h (λz=>⟨[(0,.sl 2 (k.map Qo)),(1,.sl 2 (l.map Qo)),(16,.b z)],[]⟩) (λz h=>B h λx9 D h=>J e [2,.o (.C1 (.b x9)),2] Z (WQ _ _ D)<|I h (λf h=>L e [.S 12 (.b true),5] Z f<|mq_ h Z) λf h=>B h λP m h=>G e [.S 12 (.b false),1,.o (.C1 (.b P)),3] Z ⟨(tc_ f),(WQ _ _ m)⟩<|mq_ h Z) λz h=>H e [1] Z<|I h (λg h=>J e [.T,8,.denil 4 [some 2]] Z g<|F h Z Z U) λg h=>X h λp h=>g4_ e [.F,5,.O 17 (.arr 2 (([]:L_ (Int×Int)).map Qo)),.S 17 (.own 17 ([]:L_ (Int×Int)).length),1,.app ((([]:L_ (Int×Int))++k).map Qo) (([]:L_ (Int×Int))++k).length,10,.ren 17 605] Z g Z Z ⟨Qc,Yk p Qc,XG,YC Qc⟩<|lq_ h (λst=>⟨[(1,.sl 2 (l.map Qo)),(6,.own 605 st.2.length),(7,.I st.1)],[(605,.arr 2 (st.2.map Qo))]⟩) (λq=>(.ret,⟨[(4,.Y),(5,.I 2)],[]⟩)) (λq=>(.exit 0,⟨[(6,.own 605 q.length)],[(605,.arr 2 (q.map Qo))]⟩)) Z (λ⟨a6,s⟩ o h=>J e [5,.o (.ln l.length),3] Z Qc<|I h (λi h=>B h λa0 t h=>B h λa2 u h=>B h λa3 v h=>G e [.T,5,.K [1,6,7] [605]] Z (A i) <| 
  dr_ e [.N,.N,.N,.B (.row (Qo a0)),.N,.N,.B (.c true [.o (s.map Qo),.d] (.I a2)),.N,.N,.B (.row (Qo a3)),.N,.N,.N,.N] [] [] [1,6,7,8] [605] Z Z (a3_ (QI t) ⟨(Sl Z),(MY _ _ _ u)⟩ (QI v)) Z <|
  H e [8] Z<|I h (λj h=>J e [.T,10] Z j<|rR_ h Z) λj h=>B h λa4 w h=>B h λx y h=>g4_ e [.F,6,.o (.row (Qo a4)),3,.frz 605 (s.map Qo) [6,41] [],.o (.co false [.d,.d,.d] 2 (x.map Qo) x.length),9,.ren 48 605] Z j (QI w) (a2_ (YA Qc) (YA Qc)) ⟨(VO _ _ _ _ y),Qc,.inl Z⟩<|rN_ h Z) λi h=>J e [.F,2] Z i<|rX_ h Z) (λ_ h=>H e [2,.denil 4 [some 2]] Z<|F h Z Z U) (λa5 h=>J e [10,.frz 605 (a5.map Qo) [4] []] Z (A (YA Qc))<|F h Z Z U)
def Bx (a:LI_)(j:(L_ Xk))(h:LI_)(k:Qn)(e:Int)(c:QMk):O_ ((Int×QMk)⊕(Int⊕QMk)):=
 bif (e<(a.length:Int))then
 (idx a e).bind λd=>
 bif ((d<0)||((j.length:Int)<=d))then
 some (.inr (.inl 11))
 else
 (idx j d).bind λl=>
 (HV l.Expr h).bind λf=>
 bif (f.2 != 0)then
 some (.inr (.inl f.2))
 else
 (idx j d).bind λb=>
 bif ((b.Place<0)||((k.Places.length:Int)<=b.Place))then
 some (.inr (.inl 3))
 else
 (idx k.Places b.Place).bind λm=>
 (IS k.Colours m.Colour f.1).bind λi=>
 bif (!i.2)then
 some (.inr (.inl 8))
 else
 (idx c b.Place).bind λn=>
 (Be n ([(i.1,1)]:L_ (Int×Int))).bind λg=>
 bif (g.2 != 0)then
 some (.inr (.inl g.2))
 else
 (idx c b.Place).bind λo=>
 some (.inl ((Qj (e+1)),(c.set b.Place.toNat g.1)))
 else
 some (.inr (.inr c))
def Qd2 (a:Int):O_ (QMk×Int):=some (([]:L_ QBg),a)
def Qd3 (a:QMk):O_ (QMk×Int):=some (a,0)
def Gu (b:Qn)(d:(L_ Xk))(a:LI_)(c:LI_):O_ (QMk×Int):=(chk (decide (0<=(b.Places.length:Int))&&decide ((b.Places.length:Int)<=(b.Places.length:Int))&&decide ((b.Places.length:Int)<=4294967296))).bind λ_=>(Qs (λst=>Bx a d c b st.1 st.2) (0,(List.replicate (b.Places.length:Int).toNat (([]:QBg):QBg)))).bind (Sum.elim (λq=>Qd2 q) (λq=>Qd3 q))
def Lz (s O e k):CT 71 [.agg (Qa s),.sl 4 (O.map Xa),.sl 1 (e.map Qb),.sl 1 (k.map Qb)] [] (Gu s O e k) (λr=>(.tup [.sl 1 (r.1.map Qe),.I r.2])) no_:=
 W 103 func71 Z λC g r h=>X h λb3 h=>K g [11,.o (.ln s.Places.length),.o (.rows (List.replicate (s.Places.length:Int).toNat [.Y]))] Z Qc ⟨b3,Z⟩<|AK.denilA (b:=23) [some 2] Z (Qgr (f:=Qe) (x:=([]:QBg)) Z)<|J g [.S 23 (.own 23 (List.replicate (s.Places.length:Int).toNat (([]:QBg):QBg)).length),10] Z (by simp)<|lq_ h (λst=>⟨[(1,.sl 4 (O.map Xa)),(2,.sl 1 (e.map Qb)),(3,.sl 1 (k.map Qb)),lk_ 4,(10,.own 23 st.2.length),(11,.I st.1)],[(4,.var (Qa s)),(23,.arr 1 (st.2.map Qe))]⟩) (λq=>(.ret,⟨[(8,.Y),(9,.I q)],[]⟩)) (λq=>(.exit 0,⟨[(10,.own 23 q.length)],[(23,.arr 1 (q.map Qe))]⟩)) Z (λ⟨a4,p⟩ o h=>J g [5,.o (.ln e.length),3] Z Qc<|I h (λt h=>B h λj a5 h=>K g [.T,8,.o (.row (Qb j)),6] Z t (QI a5)<|Y ⟨[(1,.sl 4 (O.map Xa)),(2,.sl 1 (e.map Qb)),(3,.sl 1 (k.map Qb)),lk_ 4,(10,.own 23 p.length),(11,.I a4),(12,.I j),(41,.b ((j<0)||((O.length:Int)<=j)))],[(4,.var (Qa s)),(23,.arr 1 (p.map Qe))]⟩ (H g [4] Z<|bO_ (decide (j<0)) (λl=>G g [.S 36 (.b true),6,.S 41 (.b ((j<0)||((O.length:Int)<=j)))] Z ⟨(tc_ l),(cb_ (KB l Z))⟩<|M Z) λl=>G g [.S 36 (.b false),2,.o (.ln O.length),3,.S 41 (.b ((j<0)||((O.length:Int)<=j)))] Z ⟨⟨(tc_ l),Qc⟩,(cb_ (Yj l Z))⟩<|M Z)<|H g [1] Z<|I h (λu h=>J g [.T,10] Z u<|rR_ h Z) λu h=>B h λa6 a7 h=>B h λa3 a8 h=>g4_ g [.F,6,.o (.row (Xa a6)),1,.A (Qm a6.Expr),1,.o (.C2 (.tup [.I a3.1,.I a3.2])),14] Z u (QI a7) Z (VL _ _ _ a8)<|I h (λw h=>J g [.T,11] Z w<|rR_ h Z) λw h=>B h λi a9 h=>K g [.F,6,.o (.row (Xa i)),7] Z w (QI a9)<|Y ⟨[(1,.sl 4 (O.map Xa)),(2,.sl 1 (e.map Qb)),(3,.sl 1 (k.map Qb)),lk_ 4,(10,.own 23 p.length),(11,.I a4),(13,.I a3.1),(15,.I i.Place),(68,.b ((i.Place<0)||((s.Places.length:Int)<=i.Place)))],[(4,.var (Qa s)),(23,.arr 1 (p.map Qe))]⟩ (H g [4] Z<|bO_ (decide (i.Place<0)) (λm=>G g [.S 62 (.b true),7,.S 68 (.b ((i.Place<0)||((s.Places.length:Int)<=i.Place)))] Z ⟨(tc_ m),(cb_ (KB m Z))⟩<|M Z) λm=>G g [.S 62 (.b false),3,.o (.ln s.Places.length),3,.S 68 (.b ((i.Place<0)||((s.Places.length:Int)<=i.Place)))] Z ⟨⟨(tc_ m),Qc⟩,(cb_ (Yj m Z))⟩<|M Z)<|H g [1] Z<|I h (λy h=>J g [.T,10] Z y<|rR_ h Z) λy h=>B h λb4 b0 h=>B h λP b1 h=>G g [.F,3,.K [1,2,3,4,10,11,13,15] [4,23]] Z (A y) <| 
  dr_ g [.N,.N,.N,.N,.N,.B (.row (QK b4)),.N,.N,.N,.B (.C3 (.tup [.I P.1,.b P.2])),.N,.N,.N,.N,.N] [] [] [1,2,3,4,10,11,15,16,17] [4,23] Z Z (a2_ (QI b0) (Qd1 _ _ _ _ b1)) Z <|
  H g [8] Z<|I h (λz h=>J g [.T,10] Z z<|rR_ h Z) λz h=>B h λb5 a1 h=>B h λa0 b2 h=>G g [.F,7,.o (.row (Qe b5)),1,.A (Qo (P.1,1)),.v (.bd []) [] (.sl 2 (([(P.1,1)]:L_ (Int×Int)).map Qo)),.o (.C2 (.tup [.sl 2 (a0.1.map Qo),.I a0.2])),14] Z (a6_ z (Yv a1 Z) (XO (Ys a1).2) Z Z (ZY _ _ _ b2))<|I h (λD h=>J g [.T,11] Z D<|rR_ h Z) λD h=>B h λb6 a2 h=>g4_ g [.F,7,.st (Qe b6) ((p.set i.Place.toNat a0.1).map Qe),8,.S 10 (.own 23 (p.set i.Place.toNat a0.1).length)] Z D (Yv a2 Z) ⟨(XO (Ys a2).2),BC Z⟩ (congrArg (λn=>V.own 23 n) (by simp))<|rN_ h Z) λt h=>J g [.F,2] Z t<|rX_ h Z) (λb8 h=>H g [2,.denil 8 [some 1]] Z<|F h Z Z U) (λb7 h=>J g [10,.frz 23 (b7.map Qe) [8] []] Z (A (YA Qc))<|F h Z Z U)
def Fi (c:Qn)(b:Qh):O_ (QMk×Int):=(Fv c b.Task b.Vars).bind λd=>bif (d.2 != 0)then some (([]:L_ QBg),d.2)else (idx c.Tasks b.Task).bind λe=>(Gu c e.Ins b.Ins d.1).bind λa=>some (a.1,a.2)
def Tz (i l):CT 68 [.agg (Qa i),.agg (Qf l)] [] (Fi i l) (λr=>(.tup [.sl 1 (r.1.map Qe),.I r.2])) no_:=
 W 34 func68 Z λC e r h=>B h λp j h=>K e [10,.A (Qa i),4,.o (.C3 (.tup [.sl 1 (p.1.map Qb),.I p.2])),14] Z Z (Pa _ _ _ _ j)<|I h (λb h=>J e [.T,9,.denil 4 [some 1]] Z b<|F h Z Z U) λb h=>B h λq k h=>B h λf g h=>G e [.F,3,.K [2,3,4,5,6] [2,3]] Z (A b) <| 
  dr_ e [.E (.agg (Qa i)),.N,.N,.N,.N,.B (.row (Qk q)),.N,.N,.N,.N,.N,.B (.C4 (.tup [.sl 1 (f.1.map Qe),.I f.2])),.N,.N,.m .s,.m .s] [] [] [4,5] [] Z Z (a3_ Z (QI k) (Lz _ _ _ _ _ g)) Z <|
  H e [2] Z<|F h Z Z U
def RF (a:QBg)(b:QBg):O_ Bool:=(KR a).bind λc=>bif (!c)then some true else (KR b).bind λd=>some (!d)
def DM (b:QBg)(f:QBg)(a:Int):O_ (Int⊕(Unit⊕Unit)):=bif (a<(b.length:Int))then (idx b a).bind λc=>(idx b a).bind λd=>(Al f d.1).bind λe=>bif (e<c.2)then some (.inr (.inl ()))else some (.inl (Qj (a+1)))else some (.inr (.inr ()))
def Qd4 : O_ Bool:=some false
def Qd5 : O_ Bool:=some true
def RG (a:QBg)(b:QBg)(c:Bool):O_ Bool:=bif c then some false else (Qs (λst=>DM a b st) 0).bind (Sum.elim (λq=>Qd4) (λq=>Qd5))
def Gv (a:QBg)(b:QBg):O_ Bool:=(RF a b).bind (λc=>RG a b c)
def Bz (k s):CT 122 [.sl 2 (k.map Qo),.sl 2 (s.map Qo)] [] (Gv k s) V.b no_:=
 W 33 func122 Z λC e r h=>H e [7] Z<|mV_ h (λt=>⟨[(0,.sl 2 (k.map Qo)),(1,.sl 2 (s.map Qo)),(13,.b t)],[]⟩) (λt h=>B h λz u h=>J e [2,.o (.C1 (.b z)),2] Z (WQ _ _ u)<|I h (λj h=>L e [.S 9 (.b true),5] Z j<|mq_ h Z) λj h=>B h λD v h=>G e [.S 9 (.b false),1,.o (.C1 (.b D)),3] Z ⟨(tc_ j),(WQ _ _ v)⟩<|mq_ h Z) λt h=>H e [1] Z<|I h (λf h=>J e [.T,7] Z f<|E h Z U) λf h=>J e [.F,9] Z f<|lq_ h (λst=>⟨[(0,.sl 2 (k.map Qo)),(1,.sl 2 (s.map Qo)),(5,.I st)],[]⟩) (λq=>(.ret,⟨[(4,.b false)],[]⟩)) (λq=>(.exit 0,⟨[],[]⟩)) Z (λO o h=>J e [5,.o (.ln k.length),3] Z Qc<|I h (λg h=>B h λw l h=>B h λx m h=>B h λy p h=>G e [.T,5,.K [0,1,5] []] Z (A g) <| 
  dr_ e [.N,.N,.B (.row (Qo w)),.N,.N,.N,.N,.N,.B (.row (Qo x)),.N,.N,.B (.C2 (.I y)),.N] [] [] [0,1,5,32] [] Z Z (a3_ (QI l) (QI m) (MY _ _ _ p)) Z <|
  H e [1] Z<|I h (λi h=>J e [.T,8] Z i<|rR_ h Z) λi h=>J e [.F,8] Z i<|rN_ h Z) λg h=>J e [.F,2] Z g<|rX_ h Z) (λ_ h=>H e [2] Z<|E h Z U) (λ_ h=>H e [8] Z<|E h Z U)
def LA (d:QMk)(e:QMk)(a:Int):O_ (Int⊕(Unit⊕Unit)):=bif (a<(d.length:Int))then (idx d a).bind λf=>(idx e a).bind λb=>(Gv f b).bind λc=>bif (!c)then some (.inr (.inl ()))else some (.inl (Qj (a+1)))else some (.inr (.inr ()))
def Qd6 : O_ Bool:=some false
def Qd7 : O_ Bool:=some true
def BW (a:QMk)(b:QMk):O_ Bool:=bif ((a.length:Int) != (b.length:Int))then some false else (Qs (λst=>LA a b st) 0).bind (Sum.elim (λq=>Qd6) (λq=>Qd7))
def RH (j m):CT 69 [.sl 1 (j.map Qe),.sl 1 (m.map Qe)] [] (BW j m) V.b no_:=
 W 29 func69 Z λC e r h=>K e [9,.o (.ln j.length),1,.o (.ln m.length),3] Z Qc Qc<|I h (λg h=>J e [.T,7] Z g<|E h Z U) λg h=>J e [.F,9] Z g<|lq_ h (λst=>⟨[(0,.sl 1 (j.map Qe)),(1,.sl 1 (m.map Qe)),(5,.I st)],[]⟩) (λq=>(.ret,⟨[(4,.b false)],[]⟩)) (λq=>(.exit 0,⟨[],[]⟩)) Z (λv o h=>J e [5,.o (.ln j.length),3] Z Qc<|I h (λi h=>B h λu p h=>B h λs k h=>B h λt l h=>G e [.T,5,.K [0,1,5] []] Z (A i) <| 
  dr_ e [.N,.N,.B (.row (Qe u)),.N,.N,.N,.B (.row (Qe s)),.N,.B (.C2 (.b t)),.N] [] [] [0,1,5,6] [] Z Z (a3_ (QI p) (QI k) (Bz _ _ _ l)) Z <|
  H e [7] Z<|I h (λf h=>J e [.T,8] Z f<|rR_ h Z) λf h=>J e [.F,8] Z f<|rN_ h Z) λi h=>J e [.F,2] Z i<|rX_ h Z) (λ_ h=>H e [2] Z<|E h Z U) (λ_ h=>H e [8] Z<|E h Z U)
def Am (b:LI_)(c:Int)(a:Int):O_ (Int⊕(Unit⊕Unit)):=bif (a<(b.length:Int))then (idx b a).bind λd=>bif (d==c)then some (.inr (.inl ()))else some (.inl (Qj (a+1)))else some (.inr (.inr ()))
def Qjl : O_ Bool:=some true
def Qjm : O_ Bool:=some false
def Se (a:LI_)(b:Int):O_ Bool:=(Qs (λst=>Am a b st) 0).bind (Sum.elim (λq=>Qjl) (λq=>Qjm))
def Qjn (e f):CT 70 [.sl 1 (e.map Qb),.I f] [] (Se e f) V.b no_:=
 W 18 func70 Z λC a r h=>H a [12] Z<|lq_ h (λst=>⟨[(0,.sl 1 (e.map Qb)),(1,.I f),(5,.I st)],[]⟩) (λq=>(.ret,⟨[(4,.b true)],[]⟩)) (λq=>(.exit 0,⟨[],[]⟩)) Z (λj o h=>J a [5,.o (.ln e.length),3] Z Qc<|I h (λc h=>B h λi g h=>K a [.T,8,.o (.row (Qb i)),5] Z c (QI g)<|I h (λd h=>J a [.T,8] Z d<|rR_ h Z) λd h=>J a [.F,8] Z d<|rN_ h Z) λc h=>J a [.F,2] Z c<|rX_ h Z) (λ_ h=>H a [2] Z<|E h Z U) (λ_ h=>H a [8] Z<|E h Z U)
def Qim (h:Int)(b:LI_)(c:Int):O_ Bool:=bif (h<(b.length:Int))then (idx b h).bind λa=>some (decide (a<c))else some false
def Qin (h:Int)(a:Bool):O_ (Int⊕Int):=bif a then some (.inl (Qj (h+1)))else some (.inr h)
def Qio (a:LI_)(b:Int)(h:Int):O_ (Int⊕Int):=(Qim h a b).bind (λc=>Qin h c)
def Qip (a:LI_)(b:Int)(h:Int):O_ LI_:=(chk (decide (0<=h)&&decide (0<=h.toNat)&&decide (h.toNat<=a.length))).bind λ_=>(chk (([]:L_ Int).length+((a.drop 0).take (h.toNat-0)).length<=4294967296)).bind λ_=>(chk ((([]:L_ Int)++((a.drop 0).take (h.toNat-0))).length+([b]:L_ Int).length<=4294967296)).bind λ_=>(chk (decide (0<=h)&&decide (h.toNat<=a.length)&&decide (a.length<=a.length))).bind λ_=>(chk (((([]:L_ Int)++((a.drop 0).take (h.toNat-0)))++[b]).length+((a.drop h.toNat).take (a.length-h.toNat)).length<=4294967296)).bind λ_=>some (((([]:L_ Int)++((a.drop 0).take (h.toNat-0)))++[b])++((a.drop h.toNat).take (a.length-h.toNat)))
def Pz (a:LI_)(b:Int):O_ LI_:=(Qs (λst=>Qio a b st) 0).bind (λq=>Qip a b q)
def Qiq (c i):CT 72 [.sl 1 (c.map Qb),.I i] [] (Pz c i) (λr=>(.own 600 r.length)) (λr=>[(600,.arr 1 (r.map Qb))]):=
 W 32 func72 Z λC d r h=>H d [12] Z<|lp_ h (λst=>⟨[(0,.sl 1 (c.map Qb)),(1,.I i),(5,.I st)],[]⟩) (λq=>(.exit 0,⟨[(0,.sl 1 (c.map Qb)),(1,.I i),(5,.I q)],[]⟩)) Z (λat_4 o h=>H d [2] Z<|mV_ h (λw=>⟨[(0,.sl 1 (c.map Qb)),(1,.I i),(5,.I at_4),(17,.b w)],[]⟩) (λw h=>J d [3,.o (.ln c.length),2] Z Qc<|I h (λk h=>B h λx p h=>G d [.S 10 (.b true),2,.o (.row (Qb x)),5] Z ⟨(tc_ k),(QI p)⟩<|mq_ h Z) λk h=>L d [.S 10 (.b false),8] Z k<|mq_ h Z) λw h=>H d [1] Z<|I h (λe h=>J d [.T,9] Z e<|rN_ h Z) λe h=>J d [.F,2] Z e<|rX_ h Z) λD h=>X h λg h=>X h λs h=>X h λt h=>X h λj h=>X h λu h=>H d [3,.K [0,1,5] []] Z <| 
  dr_ d [.N,.N,.N,.B (.any (.sl 1 (((c.drop 0).take (D.toNat-0)).map Qb)) none),.m (.app ((([]:L_ Int)++((c.drop 0).take (D.toNat-0))).map Qb) (([]:L_ Int)++((c.drop 0).take (D.toNat-0))).length),.a .no none true,.a (.bd []) (some ([],.sl 1 (([i]:L_ Int).map Qb))) true,.m (.app (((([]:L_ Int)++((c.drop 0).take (D.toNat-0)))++[i]).map Qb) ((([]:L_ Int)++((c.drop 0).take (D.toNat-0)))++[i]).length),.a .no none true,.a .no none true,.a (.any (.sl 1 (((c.drop D.toNat).take (c.length-D.toNat)).map Qb)) none) none true,.m (.app ((((([]:L_ Int)++((c.drop 0).take (D.toNat-0)))++[i])++((c.drop D.toNat).take (c.length-D.toNat))).map Qb) (((([]:L_ Int)++((c.drop 0).take (D.toNat-0)))++[i])++((c.drop D.toNat).take (c.length-D.toNat))).length),.N] [0,1,5] [] [4] [20] Z Z (a6_ (λσ v y _=>Ql.sliceD Z Z (QZ d.n Z) (v _ _ Z) (QN.es Z) UR.no (UR.val (v _ _ Z) (Xn (SH g)) Z) (Xn (SI g)) (Jn (Xn (ZI g)) (Nat.le_of_eq Qc.symm)) QaJ) ⟨(Qc (f:=Qb) (l:=([]:L_ Int))),Yk s Qc,(XG (f:=Qb) (l:=([]:L_ Int)) (m:=((c.drop 0).take (D.toNat-0)))),YC (l:=([]:L_ Int)) Qc⟩ Z ⟨Qc,Yk t Qc,XG,YC Qc⟩ (λσ v y _=>Ql.sliceD Z Z (QZ d.n Z) (v _ _ Z) (QN.es Z) (UR.val (v _ _ Z) (Xn (SH j)) Z) (UR.none_ Qc) (Xn (SI j)) (Nat.le_of_eq Qc.symm) QaJ) ⟨Qc,Yk u Qc,XG,YC Qc⟩) Z <|
  H d [2,.K [4] [20],.ren 20 600] Z<|E h Z r1_
def An (c:Qn)(b:Qh):O_ (QMk×Int):=(Fv c b.Task b.Vars).bind λd=>bif (d.2 != 0)then some (([]:L_ QBg),d.2)else (idx c.Tasks b.Task).bind λe=>(Gu c e.Outs b.Outs d.1).bind λa=>some (a.1,a.2)
def TA (i l):CT 73 [.agg (Qa i),.agg (Qf l)] [] (An i l) (λr=>(.tup [.sl 1 (r.1.map Qe),.I r.2])) no_:=
 W 34 func73 Z λC e r h=>B h λp j h=>K e [10,.A (Qa i),4,.o (.C3 (.tup [.sl 1 (p.1.map Qb),.I p.2])),14] Z Z (Pa _ _ _ _ j)<|I h (λb h=>J e [.T,9,.denil 4 [some 1]] Z b<|F h Z Z U) λb h=>B h λq k h=>B h λf g h=>G e [.F,3,.K [2,3,4,5,6] [2,3]] Z (A b) <| 
  dr_ e [.E (.agg (Qa i)),.N,.N,.N,.N,.B (.row (Qk q)),.N,.N,.N,.N,.N,.B (.C4 (.tup [.sl 1 (f.1.map Qe),.I f.2])),.N,.N,.m .s,.m .s] [] [] [4,5] [] Z Z (a3_ Z (QI k) (Lz _ _ _ _ _ g)) Z <|
  H e [2] Z<|F h Z Z U
def MZ (a:Int):O_ (Int⊕(Unit⊕Unit)):=some (.inl (Qj (a+1)))
def TB (a:(QMk×Int))(c:QMk):O_ Bool:=bif (a.2==0)then (BW a.1 c).bind λb=>some b else some false
def Qfv (a:Int)(b:Bool):O_ (Int⊕(Unit⊕Unit)):=bif b then some (.inr (.inl ()))else MZ a
def KN (b:QL)(g:Qh)(h:Qn)(i:(LI_×Int))(j:QMk)(a:Int):O_ (Int⊕(Unit⊕Unit)):=bif ((a<(b.Ins.length:Int))&&(b.Join==3))then (Se g.Ins a).bind λc=>bif c then MZ a else (Pz g.Ins a).bind λd=>(Gu h b.Ins d i.1).bind λe=>(TB e j).bind (λf=>Qfv a f)else some (.inr (.inr ()))
def Qfw : O_ Int:=some 11
def UC (b:Qn)(c:Qh):O_ Int:=(An b c).bind λa=>some a.2
def Ao (d:Qn)(j:QMk)(a:Qh):O_ Int:=
 (Fv d a.Task a.Vars).bind λe=>
 bif (e.2 != 0)then
 some e.2
 else
 (idx d.Tasks a.Task).bind λc=>
 (HV c.Guard e.1).bind λf=>
 bif (f.2 != 0)then
 some f.2
 else
 bif (f.1==0)then
 some 9
 else
 (BV c.Join (c.Ins.length:Int) a.Ins).bind λg=>
 (BV c.Split (c.Outs.length:Int) a.Outs).bind λh=>
 bif ((!g)||(!h))then
 some 11
 else
 (Fi d a).bind λb=>
 bif (b.2 != 0)then
 some b.2
 else
 (BW b.1 j).bind λi=>
 bif (!i)then
 some 10
 else
 (Qs (λst=>KN c a d e j st) 0).bind (Sum.elim (λq=>Qfw) (λq=>UC d a))
def Na (k m2 D):CT 37 [.agg (Qa k),.sl 1 (m2.map Qe),.agg (Qf D)] [] (Ao k m2 D) V.I no_:=
 W 124 func37 Z λC e r h=>B h λx6 b5 h=>K e [9,.A (Qa k),4,.o (.C3 (.tup [.sl 1 (x6.1.map Qb),.I x6.2])),14] Z Z (Pa _ _ _ _ b5)<|I h (λa0 h=>J e [.T,8] Z a0<|E h Z U) λa0 h=>B h λf b6 h=>B h λx9 b7 h=>G e [.F,8,.o (.row (Qk f)),.A (Qk f),2,.O 9 (.var (Qk f)),5,.A (Qm f.Guard),1,.o (.C2 (.tup [.I x9.1,.I x9.2])),14] Z (a6_ a0 (QI b6) Z Z Z (VL _ _ _ b7))<|I h (λl h=>J e [.T,8] Z l<|E h Z U) λl h=>J e [.F,9] Z l<|I h (λm h=>J e [.T,7] Z m<|E h Z U) λm h=>B h λp a2 h=>B h λP a3 h=>G e [.F,8,.o (.ln f.Ins.length),2,.o (.C3 (.b p)),9,.o (.ln f.Outs.length),2,.o (.C3 (.b P)),5] Z (a5_ m Qc (RB _ _ _ _ a2) Qc (RB _ _ _ _ a3))<|Y ⟨[(1,.sl 1 (m2.map Qe)),lk_ 3,lk_ 5,(7,.sl 1 (x6.1.map Qb)),lk_ 9,(68,.b ((!p)||(!P)))],[(3,.var (Qa k)),(5,.var (Qf D)),(9,.var (Qk f))]⟩ (H e [4] Z<|bO_ (!p) (λg=>G e [.S 65 (.b true),4,.S 68 (.b ((!p)||(!P)))] Z ⟨(tc_ g),(cb_ (KB g Z))⟩<|M Z) λg=>G e [.S 65 (.b false),4,.S 68 (.b ((!p)||(!P)))] Z ⟨(tc_ g),(cb_ (Yj g Z))⟩<|M Z)<|H e [1] Z<|I h (λs h=>J e [.T,7] Z s<|E h Z U) λs h=>B h λa4 a5 h=>g4_ e [.F,4,.A (Qa k),.A (Qf D),.o (.C2 (.tup [.sl 1 (a4.1.map Qe),.I a4.2])),14] Z s Z Z (Tz _ _ _ a5)<|I h (λt h=>J e [.T,8] Z t<|E h Z U) λt h=>B h λb8 a6 h=>K e [.F,7,.o (.C2 (.b b8)),3] Z t (RH _ _ _ a6)<|I h (λu h=>J e [.T,7] Z u<|E h Z U) λu h=>J e [.F,9] Z u<|lq_ h (λst=>⟨[(1,.sl 1 (m2.map Qe)),lk_ 3,lk_ 5,(7,.sl 1 (x6.1.map Qb)),lk_ 9,(14,.I st)],[(3,.var (Qa k)),(5,.var (Qf D)),(9,.var (Qk f))]⟩) (λq=>(.ret,⟨[(6,.I 11)],[]⟩)) (λq=>(.exit 0,⟨[lk_ 3,lk_ 5],[(3,.var (Qa k)),(5,.var (Qf D))]⟩)) Z (λi o h=>H e [2] Z<|Y ⟨[(1,.sl 1 (m2.map Qe)),lk_ 3,lk_ 5,(7,.sl 1 (x6.1.map Qb)),lk_ 9,(14,.I i),(91,.b ((i<(f.Ins.length:Int))&&(f.Join==3)))],[(3,.var (Qa k)),(5,.var (Qf D)),(9,.var (Qk f))]⟩ (J e [4,.o (.ln f.Ins.length),2] Z Qc<|bO_ (decide (i<(f.Ins.length:Int))) (λj=>G e [.S 87 (.b true),5,.S 91 (.b ((i<(f.Ins.length:Int))&&(f.Join==3)))] Z ⟨(tc_ j),(cb_ (XL j Z))⟩<|M Z) λj=>G e [.S 87 (.b false),5,.S 91 (.b ((i<(f.Ins.length:Int))&&(f.Join==3)))] Z ⟨(tc_ j),(cb_ (Yp j Z))⟩<|M Z)<|H e [1] Z<|I h (λw h=>J e [.T,2] Z w<|mU_ ⟨[(1,.sl 1 (m2.map Qe)),lk_ 3,lk_ 5,(7,.sl 1 (x6.1.map Qb)),lk_ 9,(14,.I i)],[(3,.var (Qa k)),(5,.var (Qf D)),(9,.var (Qk f))]⟩ (MZ i=some o) (B h λb9 a7 h=>J e [7,.o (.C2 (.b b9)),2] Z (Qjn _ _ _ a7)<|I h (λx h=>J e [.T,3] Z x<|mu_ h Z) λx h=>B h λa8 a9 h=>B h λb0 b1 h=>G e [.F,3,.K [1,3,5,7,9,14] [3,5,9]] Z (A x) <| 
  dr_ e [.E (.agg (Qa k)),.N,.N,.N,.N,.N,.B (.cd false [.d,.d] 1 (a8.map Qb) a8.length),.N,.B (.C4 (.tup [.sl 1 (b0.1.map Qe),.I b0.2])),.N,.N,.N,.N,.N] [] [] [1,3,5,7,9,14,15,16] [3,5,9] Z Z (a3_ Z ⟨(Qiq _ _ _ a9),Qc⟩ (Lz _ _ _ _ _ b1)) Z <|
  H e [2] Z<|mV_ h (λa1=>⟨[(1,.sl 1 (m2.map Qe)),lk_ 3,lk_ 5,(7,.sl 1 (x6.1.map Qb)),lk_ 9,(14,.I i),(116,.b a1)],[(3,.var (Qa k)),(5,.var (Qf D)),(9,.var (Qk f))]⟩) (λa1 h=>H e [4] Z<|I h (λy h=>B h λc0 b2 h=>G e [.S 112 (.b true),2,.o (.C2 (.b c0)),2] Z ⟨(tc_ y),(RH _ _ _ b2)⟩<|mq_ h Z) λy h=>L e [.S 112 (.b false),5] Z y<|mq_ h Z) λa1 h=>H e [1] Z<|I h (λz h=>J e [.T,8] Z z<|rR_ h Z) λz h=>J e [.F,2] Z z<|mu_ h Z) λh=>H e [5] Z<|rN_ h Z) λw h=>J e [.F,2] Z w<|rX_ h Z) (λ_ h=>H e [2] Z<|E h Z U) (λ_ h=>B h λb3 b4 h=>g3_ e [4,.A (Qa k),.A (Qf D),.o (.C2 (.tup [.sl 1 (b3.1.map Qe),.I b3.2])),13] Z Z Z (TA _ _ _ b4)<|E h Z U)
def CH (a:Int)(b:(L_ Qh)):O_ ((Int×(L_ Qh))⊕((L_ Qh)⊕(L_ Qh))):=some (.inl ((Qj (a+1)),b))
def Gw (h:QLL)(b:LI_)(i:QLL)(j:Int)(l:Qn)(m:QMk)(a:Int)(g:Int)(f:Int)(c:(L_ Qh)):O_ ((Int×(L_ Qh))⊕((L_ Qh)⊕(L_ Qh))):=bif (f<(h.length:Int))then (chk (([]:L_ Int).length+b.length<=4294967296)).bind λ_=>(idx i j).bind λd=>(idx h f).bind λe=>(Ao l m (Qh.mk a (([]:L_ Int)++b) d e)).bind λk=>bif (k==0)then (chk (c.length+([(Qh.mk a (([]:L_ Int)++b) d e)]:L_ Qh).length<=4294967296)).bind λ_=>bif (g<=((c++([(Qh.mk a (([]:L_ Int)++b) d e)]:L_ Qh)).length:Int))then some (.inr (.inl (c++([(Qh.mk a (([]:L_ Int)++b) d e)]:L_ Qh))))else CH f (c++([(Qh.mk a (([]:L_ Int)++b) d e)]:L_ Qh))else CH f c else some (.inr (.inr c))
def Qfx (a:(L_ Qh)):O_ ((Int×(L_ Qh))⊕((L_ Qh)⊕(L_ Qh))):=some (.inr (.inl a))
def Qfy (a:Int)(b:(L_ Qh)):O_ ((Int×(L_ Qh))⊕((L_ Qh)⊕(L_ Qh))):=some (.inl ((Qj (a+1)),b))
def WS (d:QLL)(f:QLL)(g:LI_)(h:Qn)(i:QMk)(a:Int)(b:Int)(c:Int)(e:(L_ Qh)):O_ ((Int×(L_ Qh))⊕((L_ Qh)⊕(L_ Qh))):=bif (c<(d.length:Int))then (Qs (λst=>Gw f g d c h i a b st.1 st.2) (0,e)).bind (Sum.elim (λq=>Qfx q) (λq=>Qfy c q))else some (.inr (.inr e))
def Qfz (a:(L_ Qh)):O_ ((Bool×LI_×(L_ Qh))⊕((L_ Qh)⊕(L_ Qh))):=some (.inr (.inl a))
def TC (h:Int)(a:LI_)(b:QL)(f:Qn):O_ Bool:=bif (0<=h)then (idx a h).bind λc=>(idx b.Vars h).bind λd=>(GT f.Colours d.Colour).bind λe=>some (decide (e<=(Qj (c+1))))else some false
def QfA (a:LI_)(h:Int)(b:Bool):O_ ((Int×LI_)⊕(Int×LI_)):=bif b then (idx a h).bind λc=>some (.inl ((Qj (h-1)),(a.set h.toNat 0)))else some (.inr (h,a))
def CI (b:QL)(d:Qn)(h:Int)(a:LI_):O_ ((Int×LI_)⊕(Int×LI_)):=(TC h a b d).bind (λc=>QfA a h c)
def LB (b:(L_ Qh))(h:Int)(a:LI_):O_ ((Bool×LI_×(L_ Qh))⊕((L_ Qh)⊕(L_ Qh))):=bif (0<=h)then (idx a h).bind λc=>(idx a h).bind λd=>some (.inl ((decide (0<=h)),(a.set h.toNat (Qj (c+1))),b))else some (.inl ((decide (0<=h)),a,b))
def LC (b:QL)(d:Qn)(a:LI_)(c:(L_ Qh)):O_ ((Bool×LI_×(L_ Qh))⊕((L_ Qh)⊕(L_ Qh))):=(Qs (λst=>CI b d st.1 st.2) ((Qj ((a.length:Int)-1)),a)).bind (λq=>LB c q.1 q.2)
def LD (f:QLL)(g:QLL)(i:Qn)(j:QMk)(b:Int)(c:Int)(h:QL)(a:Bool)(d:LI_)(e:(L_ Qh)):O_ ((Bool×LI_×(L_ Qh))⊕((L_ Qh)⊕(L_ Qh))):=bif a then (Qs (λst=>WS f g d i j b c st.1 st.2) (0,e)).bind (Sum.elim (λq=>Qfz q) (λq=>LC h i d q))else some (.inr (.inr e))
def Qd8 (a:(L_ Qh)):O_ (L_ Qh):=some a
def Qd9 (a:(L_ Qh)):O_ (L_ Qh):=some a
def Ap (d:Qn)(g:QMk)(b:Int)(c:Int):O_ (L_ Qh):=
 bif ((b<0)||(((d.Tasks.length:Int)<=b)||(c<1)))then
 some ([]:L_ Qh)
 else
 (idx d.Tasks b).bind λa=>
 (chk (decide (0<=(a.Vars.length:Int))&&decide ((a.Vars.length:Int)<=(a.Vars.length:Int))&&decide ((a.Vars.length:Int)<=4294967296))).bind λ_=>
 (DC a.Join (a.Ins.length:Int)).bind λe=>
 (DC a.Split (a.Outs.length:Int)).bind λf=>
 (Qs (λst=>LD e f d g b c a st.1 st.2.1 st.2.2) (true,(List.replicate (a.Vars.length:Int).toNat (0:Int)),([]:L_ Qh))).bind (Sum.elim (λq=>Qd8 q) (λq=>Qd9 q))
def QfB (u D e g):CT 59 [.agg (Qa u),.sl 1 (D.map Qe),.I e,.I g] [] (Ap u D e g) (λr=>(.own 600 r.length)) (λr=>[(600,.arr 4 (r.map Qf))]):=
 W 130 func59 Z λC i r h=>H i [8] Z<|Y ⟨[(1,.sl 1 (D.map Qe)),(2,.I e),(3,.I g),lk_ 4,(31,.b ((e<0)||(((u.Tasks.length:Int)<=e)||(g<1))))],[(4,.var (Qa u))]⟩ (H i [4] Z<|bO_ (decide (e<0)) (λy=>G i [.S 21 (.b true),11,.S 31 (.b ((e<0)||(((u.Tasks.length:Int)<=e)||(g<1))))] Z ⟨(tc_ y),(cb_ (KB y Z))⟩<|M Z) λy=>G i [.S 21 (.b false),3,.o (.ln u.Tasks.length),3] Z ⟨(tc_ y),Qc⟩<|bO_ (decide ((u.Tasks.length:Int)<=e)) (λP=>G i [.S 28 (.b true),4,.S 31 (.b ((e<0)||(((u.Tasks.length:Int)<=e)||(g<1))))] Z ⟨(tc_ P),(cb_ (Yj y (KB P Z)))⟩<|M Z) λP=>G i [.S 28 (.b false),4,.S 31 (.b ((e<0)||(((u.Tasks.length:Int)<=e)||(g<1))))] Z ⟨(tc_ P),(cb_ (Yj y (Yj P Z)))⟩<|M Z)<|H i [1] Z<|I h (λa0 h=>g3_ i [.T,7,.adopt 8 600 4,.O 600 (.arr 4 (([]:L_ Qh).map Qf)),.S 8 (.own 600 ([]:L_ Qh).length)] Z a0 Z Z<|E h Z r1_) λa0 h=>B h λt c0 h=>X h λc1 h=>B h λk c2 h=>B h λp c3 h=>G i [.F,7,.o (.row (Qk t)),.A (Qk t),2,.O 9 (.var (Qk t)),6,.o (.ln t.Vars.length),.o (.rows ((List.replicate (t.Vars.length:Int).toNat (0:Int)).map Qb)),.S 40 (.own 40 (List.replicate (t.Vars.length:Int).toNat (0:Int)).length),9,.o (.ln t.Ins.length),.o (.co false [.d,.d] 1 (k.map Qz) k.length),9,.o (.ln t.Outs.length),.o (.co false [.d,.d] 1 (p.map Qz) p.length),15,.adopt 13 84 4,.O 84 (.arr 4 (([]:L_ Qh).map Qf)),.S 13 (.own 84 ([]:L_ Qh).length)] Z ⟨⟨⟨⟨⟨⟨⟨⟨⟨⟨⟨⟨⟨U,a0⟩,(QI c0)⟩,Z⟩,Z⟩,Qc⟩,⟨c1,QjM Z⟩⟩,(by simp)⟩,Qc⟩,⟨(HT _ _ _ c2),Qc,.inl Z⟩⟩,Qc⟩,⟨(HT _ _ _ c3),Qc,.inl Z⟩⟩,Z⟩,(congrArg (λn=>V.own 84 n) (by simp))⟩<|lq_ h (λst=>⟨[(1,.sl 1 (D.map Qe)),(2,.I e),(3,.I g),lk_ 4,lk_ 9,(10,.own 40 st.2.1.length),(11,.own 46 k.length),(12,.own 52 p.length),(13,.own 84 st.2.2.length),(14,.b st.1)],[(4,.var (Qa u)),(9,.var (Qk t)),(40,.arr 1 (st.2.1.map Qb)),(46,.arr 1 (k.map Qz)),(52,.arr 1 (p.map Qz)),(84,.arr 4 (st.2.2.map Qf))]⟩) (λq=>(.ret,⟨[(8,.own 84 q.length)],[(84,.arr 4 (q.map Qf))]⟩)) (λq=>(.exit 0,⟨[(13,.own 84 q.length)],[(84,.arr 4 (q.map Qf))]⟩)) Z (λ⟨d2,j,d9⟩ o h=>H i [6] Z<|I h (λa1 h=>J i [.T,10] Z a1<|lq_ h (λst=>⟨[(1,.sl 1 (D.map Qe)),(2,.I e),(3,.I g),lk_ 4,lk_ 9,(10,.own 40 j.length),(11,.own 46 k.length),(12,.own 52 p.length),(13,.own 84 st.2.length),(15,.I st.1)],[(4,.var (Qa u)),(9,.var (Qk t)),(40,.arr 1 (j.map Qb)),(46,.arr 1 (k.map Qz)),(52,.arr 1 (p.map Qz)),(84,.arr 4 (st.2.map Qf))]⟩) (λq=>(.ret,⟨[(8,.own 84 q.length)],[(84,.arr 4 (q.map Qf))]⟩)) (λq=>(.exit 2,⟨[(1,.sl 1 (D.map Qe)),(2,.I e),(3,.I g),lk_ 4,lk_ 9,(10,.own 40 j.length),(11,.own 46 k.length),(12,.own 52 p.length),(13,.own 84 q.length)],[(4,.var (Qa u)),(9,.var (Qk t)),(40,.arr 1 (j.map Qb)),(46,.arr 1 (k.map Qz)),(52,.arr 1 (p.map Qz)),(84,.arr 4 (q.map Qf))]⟩)) Z (λ⟨b7,e0⟩ o h=>H i [9] Z<|I h (λa2 h=>J i [.T,10] Z a2<|lq_ h (λst=>⟨[(1,.sl 1 (D.map Qe)),(2,.I e),(3,.I g),lk_ 4,lk_ 9,(10,.own 40 j.length),(11,.own 46 k.length),(12,.own 52 p.length),(13,.own 84 st.2.length),(15,.I b7),(16,.I st.1)],[(4,.var (Qa u)),(9,.var (Qk t)),(40,.arr 1 (j.map Qb)),(46,.arr 1 (k.map Qz)),(52,.arr 1 (p.map Qz)),(84,.arr 4 (st.2.map Qf))]⟩) (λq=>(.ret,⟨[(8,.own 84 q.length)],[(84,.arr 4 (q.map Qf))]⟩)) (λq=>(.exit 4,⟨[(1,.sl 1 (D.map Qe)),(2,.I e),(3,.I g),lk_ 4,lk_ 9,(10,.own 40 j.length),(11,.own 46 k.length),(12,.own 52 p.length),(13,.own 84 q.length),(15,.I b7)],[(4,.var (Qa u)),(9,.var (Qk t)),(40,.arr 1 (j.map Qb)),(46,.arr 1 (k.map Qz)),(52,.arr 1 (p.map Qz)),(84,.arr 4 (q.map Qf))]⟩)) Z (λ⟨c4,c5⟩ o h=>H i [9] Z<|I h (λa3 h=>J i [.T,2] Z a3<|mE_ (λa4:(L_ Qh)=>⟨[(1,.sl 1 (D.map Qe)),(2,.I e),(3,.I g),lk_ 4,lk_ 9,(10,.own 40 j.length),(11,.own 46 k.length),(12,.own 52 p.length),(13,.own 84 a4.length),(15,.I b7),(16,.I c4)],[(4,.var (Qa u)),(9,.var (Qk t)),(40,.arr 1 (j.map Qb)),(46,.arr 1 (k.map Qz)),(52,.arr 1 (p.map Qz)),(84,.arr 4 (a4.map Qf))]⟩) (λa4=>CH c4 a4=some o) (X h λc6 h=>B h λw b1 h=>B h λx b2 h=>H i [2,.K [1,2,3,4,9,10,11,12,13,15,16] [4,9,40,46,52,84]] Z <| 
  dr_ i [.a .no none true,.N,.N,.m (.any ⟨[67],[(67,.arr 1 ((([]:L_ Int)++j).map Qb))],some (69,.own 67 (([]:L_ Int)++j).length)⟩),.a .no none true,.a .no none true,.a .no none true,.a (.row (Qz w)) none true,.a .no none true,.a .no none true,.a .no none true,.a (.row (Qz x)) none true,.E (.agg [.I e,.own 67 (([]:L_ Int)++j).length,.sl 1 (w.map Qb),.sl 1 (x.map Qb)]),.a .no none true,.m .s] [1,2,3,4,9,10,11,12,13,15,16] [4,9,40,46,52,84] [1,2,3,4,9,10,11,12,13,15,16,17] [4,9,17,40,46,52,67,84] Z Z (a6_ (λσ h1 h2=>Ql.appO Z Z (QZ i.n Z) (h1 _ _ Z) (h2 _ _ Z) Z (Qc (f:=Qb) (l:=([]:L_ Int))) (QN.es Z) (QN.es Z) (QN.zv Z) Z (by decide) Z c6 (h1 _ _ Z) (h2 _ _ Z) (Qc (f:=Qb) (l:=j)) (XG (f:=Qb) (l:=([]:L_ Int)) (m:=j)) (by simp)) (Yv b1 Z) (XO (Ys b1).2) (Yv b2 Z) (XO (Ys b2).2) Z) Z <|
  B h λd3 c7 h=>g4_ i [.O 17 (.var [.I e,.own 67 (([]:L_ Int)++j).length,.sl 1 (w.map Qb),.sl 1 (x.map Qb)]),3,.A (Qa u),2,.frz 67 ((([]:L_ Int)++j).map Qb) [81] [17],.cm (.fn) [] [] [] [.d,.d,.d] [] (.I d3),3] Z Z Z (a2_ ⟨(YA Qc),U⟩ ⟨(YA Qc),U⟩) (Na _ _ _ _ c7)<|I h (λa5 h=>X h λc8 h=>g4_ i [.T,3,.A (Qf (Qh.mk e (([]:L_ Int)++j) w x)),.v (.bd []) [] (.sl 4 (([(Qh.mk e (([]:L_ Int)++j) w x)]:L_ Qh).map Qf)),.app ((c5++([(Qh.mk e (([]:L_ Int)++j) w x)]:L_ Qh)).map Qf) (c5++([(Qh.mk e (([]:L_ Int)++j) w x)]:L_ Qh)).length,11] Z a5 Z Z ⟨Qc,Yk c8 Qc,XG,YC Qc⟩<|I h (λa6 h=>J i [.T,9] Z a6<|rR_ h Z) λa6 h=>J i [.F,2] Z a6<|me_ h Z) λa5 h=>J i [.F,2] Z a5<|me_ h Z) λa4 h=>H i [5] Z<|rN_ h Z) λa3 h=>J i [.F,2] Z a3<|rX_ h Z) (λe1 h=>H i [3] Z<|rR_ h Z) (λe2 h=>H i [8] Z<|rN_ h Z)) λa2 h=>J i [.F,2] Z a2<|rX_ h Z) (λe3 h=>H i [3] Z<|rR_ h Z) (λz h=>H i [12] Z<|lp_ h (λst=>⟨[(1,.sl 1 (D.map Qe)),(2,.I e),(3,.I g),lk_ 4,lk_ 9,(10,.own 40 st.2.length),(11,.own 46 k.length),(12,.own 52 p.length),(13,.own 84 z.length),(18,.I st.1)],[(4,.var (Qa u)),(9,.var (Qk t)),(40,.arr 1 (st.2.map Qb)),(46,.arr 1 (k.map Qz)),(52,.arr 1 (p.map Qz)),(84,.arr 4 (z.map Qf))]⟩) (λq=>(.exit 6,⟨[(1,.sl 1 (D.map Qe)),(2,.I e),(3,.I g),lk_ 4,lk_ 9,(10,.own 40 q.2.length),(11,.own 46 k.length),(12,.own 52 p.length),(13,.own 84 z.length),(18,.I q.1)],[(4,.var (Qa u)),(9,.var (Qk t)),(40,.arr 1 (q.2.map Qb)),(46,.arr 1 (k.map Qz)),(52,.arr 1 (p.map Qz)),(84,.arr 4 (z.map Qf))]⟩)) Z (λ⟨at_52,b0⟩ o h=>H i [2] Z<|mV_ h (λb8=>⟨[(1,.sl 1 (D.map Qe)),(2,.I e),(3,.I g),lk_ 4,lk_ 9,(10,.own 40 b0.length),(11,.own 46 k.length),(12,.own 52 p.length),(13,.own 84 z.length),(18,.I at_52),(114,.b b8)],[(4,.var (Qa u)),(9,.var (Qk t)),(40,.arr 1 (b0.map Qb)),(46,.arr 1 (k.map Qz)),(52,.arr 1 (p.map Qz)),(84,.arr 4 (z.map Qf))]⟩) (λb8 h=>H i [.K [1,2,3,4,9,10,11,12,13,18] [4,9,40,46,52,84]] Z<|I h (λa7 h=>B h λd4 b3 h=>B h λd5 c9 h=>B h λd6 d0 h=> 
  dr_ i [.N,.N,.E (.b true),.N,.N,.N,.B (.row (Qb d4)),.N,.N,.N,.N,.N,.N,.B (.row (QY d5)),.N,.N,.B (.C2 (.I d6)),.N,.N] [] [] [1,2,3,4,9,10,11,12,13,18,114] [4,9,40,46,52,84] Z Z ⟨⟨⟨⟨(tc_ a7),(Yv b3 Z)⟩,(XO (Ys b3).2)⟩,(QI c9)⟩,(Ot _ _ _ d0)⟩ Z <|
  mq_ h Z) λa7 h=> 
  dr_ i [.N,.N,.E (.b false),.N,.N,.N,.N,.N,.N,.N,.N,.N,.N,.N,.N,.N,.N,.N,.N] [] [] [1,2,3,4,9,10,11,12,13,18,114] [4,9,40,46,52,84] Z Z (tc_ a7) Z <|
  mq_ h Z) λb8 h=>H i [1] Z<|I h (λa8 h=>B h λd7 b4 h=>g4_ i [.T,8,.st (Qb d7) ((b0.set at_52.toNat 0).map Qb),8,.S 10 (.own 40 (b0.set at_52.toNat 0).length)] Z a8 (Yv b4 Z) ⟨(XO (Ys b4).2),BC Z⟩ (congrArg (λn=>V.own 40 n) (by simp))<|rN_ h Z) λa8 h=>J i [.F,2] Z a8<|rX_ h Z) λ⟨at_56,d1⟩ h=>H i [14] Z<|I h (λa9 h=>B h λb9 b5 h=>B h λd8 b6 h=>G i [.T,4,.o (.row (Qb b9)),2,.st (Qb d8) ((d1.set at_56.toNat (Qj (b9+1))).map Qb),2,.S 10 (.own 40 (d1.set at_56.toNat (Qj (b9+1))).length)] Z (a6_ a9 (Yv b5 Z) (XO (Ys b5).2) (Yv b6 Z) ⟨(XO (Ys b6).2),BC Z⟩ (congrArg (λn=>V.own 40 n) (by simp)))<|rN_ h Z) λa9 h=>J i [.F,2] Z a9<|rN_ h Z)) λa1 h=>J i [.F,2] Z a1<|rX_ h Z) (λe4 h=>H i [2,.K [8] [84],.ren 84 600] Z<|E h Z r1_) (λe5 h=>H i [9,.K [8] [84],.ren 84 600] Z<|E h Z r1_)
def IT (e:Qn)(f:QMk)(a:Int)(d:Int)(c:(L_ Qh)):O_ ((Int×(L_ Qh))⊕(L_ Qh)):=bif (d<(e.Tasks.length:Int))then (Ap e f d (Qj (a-(c.length:Int)))).bind λb=>(chk (c.length+b.length<=4294967296)).bind λ_=>some (.inl ((Qj (d+1)),(c++b)))else some (.inr c)
def Qir (a:(L_ Qh)):O_ (L_ Qh):=some a
def LV (b:Qn)(c:QMk)(a:Int):O_ (L_ Qh):=(Qs (λst=>IT b c a st.1 st.2) (0,([]:L_ Qh))).bind (λq=>Qir q)
def ZZ (e j a):CT 31 [.agg (Qa e),.sl 1 (j.map Qe),.I a] [] (LV e j a) (λr=>(.own 600 r.length)) (λr=>[(600,.arr 4 (r.map Qf))]):=
 W 27 func31 Z λC f r h=>K f [18,.adopt 7 16 4,.O 16 (.arr 4 (([]:L_ Qh).map Qf)),.S 7 (.own 16 ([]:L_ Qh).length)] Z Z (congrArg (λn=>V.own 16 n) (by simp))<|lp_ h (λst=>⟨[(1,.sl 1 (j.map Qe)),(2,.I a),lk_ 3,(7,.own 16 st.2.length),(8,.I st.1)],[(3,.var (Qa e)),(16,.arr 4 (st.2.map Qf))]⟩) (λq=>(.exit 0,⟨[(7,.own 16 q.length)],[(16,.arr 4 (q.map Qf))]⟩)) Z (λ⟨m,k⟩ o h=>J f [6,.o (.ln e.Tasks.length),3] Z Qc<|I h (λb h=>B h λc g h=>X h λi h=>g4_ f [.T,6,.A (Qa e),6,.o (.co false [.d,.d,.d,.d] 4 (c.map Qf) c.length),.app ((k++c).map Qf) (k++c).length,9] Z b Z ⟨(QfB _ _ _ _ _ g),Qc,.inl Z⟩ ⟨Qc,i,Qc,XG,by simp⟩<|rN_ h Z) λb h=>J f [.F,2] Z b<|rX_ h Z) λl h=>H f [9,.K [6] [16],.ren 16 600] Z<|E h Z r1_
def VP (b:QBg)(c:QBg):O_ Bool:=(KR b).bind λd=>bif (!d)then some true else (KR c).bind λa=>some (!a)
def Em (c:QBg)(i:QBg)(a:Int)(b:QBg):O_ ((Int×QBg)⊕QBg):=bif (a<(c.length:Int))then (idx c a).bind λd=>(idx c a).bind λe=>(Al i e.1).bind λf=>(idx c a).bind λg=>(HW b d.1 (Qj (f-g.2))).bind λh=>some (.inl ((Qj (a+1)),h))else some (.inr b)
def QgW (a:QBg):O_ (QBg×Int):=some (a,0)
def VQ (c:QBg)(a:QBg)(d:Bool):O_ (QBg×Int):=bif d then some (([]:L_ (Int×Int)),1)else (Gv c a).bind λb=>bif (!b)then some (([]:L_ (Int×Int)),10)else (chk (([]:L_ (Int×Int)).length+a.length<=4294967296)).bind λ_=>(Qs (λst=>Em c a st.1 st.2) (0,(([]:L_ (Int×Int))++a))).bind (λq=>QgW q)
def BX (a:QBg)(b:QBg):O_ (QBg×Int):=(VP a b).bind (λc=>VQ b a c)
def QgX (k l):CT 186 [.sl 2 (k.map Qo),.sl 2 (l.map Qo)] [] (BX k l) (λr=>(.tup [.sl 2 (r.1.map Qo),.I r.2])) no_:=
 W 50 func186 Z λC e r h=>H e [8] Z<|mV_ h (λP=>⟨[(0,.sl 2 (k.map Qo)),(1,.sl 2 (l.map Qo)),(15,.b P)],[]⟩) (λP h=>B h λx9 a0 h=>J e [2,.o (.C1 (.b x9)),2] Z (WQ _ _ a0)<|I h (λf h=>L e [.S 11 (.b true),5] Z f<|mq_ h Z) λf h=>B h λa2 p h=>G e [.S 11 (.b false),1,.o (.C1 (.b a2)),3] Z ⟨(tc_ f),(WQ _ _ p)⟩<|mq_ h Z) λP h=>H e [1] Z<|I h (λg h=>J e [.T,8,.denil 4 [some 2]] Z g<|F h Z Z U) λg h=>B h λa3 t h=>K e [.F,7,.o (.C2 (.b a3)),3] Z g (Bz _ _ _ t)<|I h (λi h=>J e [.T,8,.denil 4 [some 2]] Z i<|F h Z Z U) λi h=>X h λu h=>g4_ e [.F,5,.O 20 (.arr 2 (([]:L_ (Int×Int)).map Qo)),.S 20 (.own 20 ([]:L_ (Int×Int)).length),1,.app ((([]:L_ (Int×Int))++k).map Qo) (([]:L_ (Int×Int))++k).length,10,.ren 20 605] Z i Z Z ⟨Qc,Yk u Qc,XG,YC Qc⟩<|lp_ h (λst=>⟨[(0,.sl 2 (k.map Qo)),(1,.sl 2 (l.map Qo)),(6,.own 605 st.2.length),(7,.I st.1)],[(605,.arr 2 (st.2.map Qo))]⟩) (λq=>(.exit 0,⟨[(6,.own 605 q.length)],[(605,.arr 2 (q.map Qo))]⟩)) Z (λ⟨b0,a4⟩ o h=>J e [5,.o (.ln l.length),3] Z Qc<|I h (λj h=>B h λa5 v h=>B h λa6 w h=>B h λa7 x h=>B h λa8 y h=>B h λz D h=>G e [.T,4,.frz 605 (a4.map Qo) [6] [],.K [0,1,6,7] []] Z (a2_ j (A (YA Qc))) <| 
  dr_ e [.N,.N,.N,.B (.row (Qo a5)),.N,.N,.N,.N,.N,.B (.row (Qo a6)),.N,.N,.B (.C2 (.I a7)),.N,.N,.B (.row (Qo a8)),.N,.N,.N,.B (.co false [.d,.d,.d] 2 (z.map Qo) z.length),.m .s] [] [] [0,1,6,7] [48] Z Z (a5_ (QI v) (QI w) (MY _ _ _ x) (QI y) ⟨(VO _ _ _ _ D),Qc,.inl Z⟩) Z <|
  H e [7,.ren 48 605] Z<|rN_ h Z) λj h=>J e [.F,2] Z j<|rX_ h Z) λa9 h=>J e [10,.frz 605 (a9.map Qo) [4] []] Z (A (YA Qc))<|F h Z Z U
def Hr (b:Int)(a:QMk):O_ ((Int×QMk)⊕(Int⊕QMk)):=some (.inl ((Qj (b+1)),a))
def En (f:QMk)(g:QMk)(e:Bool)(d:Int)(a:QMk):O_ ((Int×QMk)⊕(Int⊕QMk)):=bif ((d<(f.length:Int))&&(d<(g.length:Int)))then bif e then (idx f d).bind λh=>(idx g d).bind λi=>(Be h i).bind λb=>bif (b.2 != 0)then some (.inr (.inl b.2))else (chk (a.length+([b.1]:L_ QBg).length<=4294967296)).bind λ_=>Hr d (a++([b.1]:L_ QBg))else (idx f d).bind λj=>(idx g d).bind λk=>(BX j k).bind λc=>bif (c.2 != 0)then some (.inr (.inl c.2))else (chk (a.length+([c.1]:L_ QBg).length<=4294967296)).bind λ_=>Hr d (a++([c.1]:L_ QBg))else some (.inr (.inr a))
def QgY (a:Int):O_ (QMk×Int):=some (([]:L_ QBg),a)
def QgZ (a:QMk):O_ (QMk×Int):=some (a,0)
def UD (b:QMk)(c:QMk)(a:Bool):O_ (QMk×Int):=(Qs (λst=>En b c a st.1 st.2) (0,([]:L_ QBg))).bind (Sum.elim (λq=>QgY q) (λq=>QgZ q))
def VR (u x f):CT 116 [.sl 1 (u.map Qe),.sl 1 (x.map Qe),.b f] [] (UD u x f) (λr=>(.tup [.sl 1 (r.1.map Qe),.I r.2])) no_:=
 W 66 func116 Z λC e r h=>K e [18,.adopt 8 606 1,.O 606 (.arr 1 (([]:L_ QBg).map Qe)),.S 8 (.own 606 ([]:L_ QBg).length)] Z Z (congrArg (λn=>V.own 606 n) (by simp))<|lq_ h (λst=>⟨[(0,.sl 1 (u.map Qe)),(1,.sl 1 (x.map Qe)),(2,.b f),(8,.own 606 st.2.length),(9,.I st.1)],[(606,.arr 1 (st.2.map Qe))]⟩) (λq=>(.ret,⟨[(6,.Y),(7,.I q)],[]⟩)) (λq=>(.exit 0,⟨[(8,.own 606 q.length)],[(606,.arr 1 (q.map Qe))]⟩)) Z (λ⟨w,i⟩ o h=>H e [2] Z<|Y ⟨[(0,.sl 1 (u.map Qe)),(1,.sl 1 (x.map Qe)),(2,.b f),(8,.own 606 i.length),(9,.I w),(23,.b ((w<(u.length:Int))&&(w<(x.length:Int))))],[(606,.arr 1 (i.map Qe))]⟩ (J e [3,.o (.ln u.length),2] Z Qc<|bO_ (decide (w<(u.length:Int))) (λg=>G e [.S 18 (.b true),2,.o (.ln x.length),3,.S 23 (.b ((w<(u.length:Int))&&(w<(x.length:Int))))] Z ⟨⟨(tc_ g),Qc⟩,(cb_ (XL g Z))⟩<|M Z) λg=>G e [.S 18 (.b false),6,.S 23 (.b ((w<(u.length:Int))&&(w<(x.length:Int))))] Z ⟨(tc_ g),(cb_ (Yp g Z))⟩<|M Z)<|H e [1] Z<|I h (λj h=>J e [.T,2] Z j<|mE_ (λk:QMk=>⟨[(0,.sl 1 (u.map Qe)),(1,.sl 1 (x.map Qe)),(2,.b f),(8,.own 606 k.length),(9,.I w)],[(606,.arr 1 (k.map Qe))]⟩) (λk=>Hr w k=some o) (H e [7] Z<|I h (λl h=>B h λa5 y h=>B h λa6 z h=>B h λm D h=>G e [.T,1,.K [0,1,2,8,9] [606]] Z (A l) <| 
  dr_ e [.N,.N,.B (.row (Qe a5)),.N,.N,.N,.B (.row (Qe a6)),.N,.B (.C2 (.tup [.sl 2 (m.1.map Qo),.I m.2])),.N,.N,.N,.N,.N] [] [] [0,1,2,8,9,10,11] [606] Z Z (a3_ (QI y) (QI z) (ZY _ _ _ D)) Z <|
  H e [8] Z<|I h (λp h=>J e [.T,12] Z p<|rR_ h Z) λp h=>X h λP h=>g3_ e [.F,6,.v (.bd []) [] (.sl 1 (([m.1]:L_ QBg).map Qe)),.app ((i++([m.1]:L_ QBg)).map Qe) (i++([m.1]:L_ QBg)).length,6] Z p Z ⟨Qc,Yk P Qc,XG,YC Qc⟩<|me_ h Z) λl h=>B h λa7 a0 h=>B h λa8 a2 h=>B h λs a3 h=>G e [.F,3,.K [0,1,2,8,9] [606]] Z (A l) <| 
  dr_ e [.N,.N,.B (.row (Qe a7)),.N,.N,.N,.B (.row (Qe a8)),.N,.B (.C2 (.tup [.sl 2 (s.1.map Qo),.I s.2])),.N,.N,.N,.N,.N] [] [] [0,1,2,8,9,12,13] [606] Z Z (a3_ (QI a0) (QI a2) (QgX _ _ _ a3)) Z <|
  H e [8] Z<|I h (λt h=>J e [.T,11] Z t<|rR_ h Z) λt h=>X h λa4 h=>g3_ e [.F,5,.v (.bd []) [] (.sl 1 (([s.1]:L_ QBg).map Qe)),.app ((i++([s.1]:L_ QBg)).map Qe) (i++([s.1]:L_ QBg)).length,3] Z t Z ⟨Qc,Yk a4 Qc,XG,YC Qc⟩<|me_ h Z) λk h=>H e [5] Z<|rN_ h Z) λj h=>J e [.F,2] Z j<|rX_ h Z) (λb0 h=>H e [2,.denil 6 [some 1]] Z<|F h Z Z U) (λa9 h=>J e [10,.frz 606 (a9.map Qe) [6] []] Z (A (YA Qc))<|F h Z Z U)
def Ow (c:Qn)(d:QMk)(e:Qh):O_ (QMk×Int):=(Ao c d e).bind λf=>bif (f != 0)then some (([]:L_ QBg),f)else (Fi c e).bind λb=>(UD d b.1 false).bind λa=>some (a.1,a.2)
def Qg0 (i m j):CT 60 [.agg (Qa i),.sl 1 (m.map Qe),.agg (Qf j)] [] (Ow i m j) (λr=>(.tup [.sl 1 (r.1.map Qe),.I r.2])) no_:=
 W 29 func60 Z λC k r h=>B h λp l h=>g3_ k [10,.A (Qa i),1,.A (Qf j),.o (.C3 (.I p)),10] Z Z Z (Na _ _ _ _ l)<|I h (λa h=>J k [.T,9,.denil 6 [some 1]] Z a<|F h Z Z U) λa h=>B h λb e h=>B h λf g h=>G k [.F,4,.A (Qa i),.A (Qf j),.o (.C2 (.tup [.sl 1 (b.1.map Qe),.I b.2])),11,.o (.C3 (.tup [.sl 1 (f.1.map Qe),.I f.2])),7] Z (a5_ a Z Z (Tz _ _ _ e) (VR _ _ _ _ g))<|F h Z Z U
def Ox (a:Int)(b:QMk):O_ ((Int×QMk)⊕QMk):=some (.inl ((Qj (a+1)),b))
def VS (a:QL)(b:Int)(c:QMk):O_ Bool:=(idx a.Cancel b).bind λd=>bif (0<=d)then (idx a.Cancel b).bind λe=>some (decide (e<(c.length:Int)))else some false
def VT (d:QL)(a:Int)(b:QMk)(e:Bool):O_ ((Int×QMk)⊕QMk):=bif e then (idx d.Cancel a).bind λc=>(idx b c).bind λf=>Ox a (b.set c.toNat ([]:L_ (Int×Int)))else Ox a b
def Hs (a:QL)(b:Int)(c:QMk):O_ ((Int×QMk)⊕QMk):=bif (b<(a.Cancel.length:Int))then (VS a b c).bind (λd=>VT a b c d)else some (.inr c)
def VU (c:(QMk×Int))(b:QMk):O_ (QMk×Int):=(UD b c.1 true).bind λa=>some (a.1,a.2)
def Oy (c:Qn)(d:QMk)(e:Qh):O_ (QMk×Int):=(An c e).bind λa=>bif (a.2 != 0)then some (([]:L_ QBg),a.2)else (chk (([]:L_ QBg).length+d.length<=4294967296)).bind λ_=>(idx c.Tasks e.Task).bind λb=>(Qs (λst=>Hs b st.1 st.2) (0,(([]:L_ QBg)++d))).bind (λq=>VU a q)
def Qg1 (n1 m2 o3):CT 61 [.agg (Qa n1),.sl 1 (m2.map Qe),.agg (Qf o3)] [] (Oy n1 m2 o3) (λr=>(.tup [.sl 1 (r.1.map Qe),.I r.2])) no_:=
 W 63 func61 Z λC a r h=>B h λu a1 h=>g3_ a [10,.A (Qa n1),.A (Qf o3),.o (.C2 (.tup [.sl 1 (u.1.map Qe),.I u.2])),14] Z Z Z (TA _ _ _ a1)<|I h (λm h=>J a [.T,9,.denil 6 [some 1]] Z m<|F h Z Z U) λm h=>X h λw h=>B h λe y h=>G a [.F,5,.O 22 (.arr 1 (([]:L_ QBg).map Qe)),.S 22 (.own 22 ([]:L_ QBg).length),1,.app ((([]:L_ QBg)++m2).map Qe) (([]:L_ QBg)++m2).length,9,.o (.row (Qk e)),12] Z (a5_ m Z Z ⟨Qc,Yk w Qc,XG,YC Qc⟩ (QI y))<|lp_ h (λst=>⟨[(8,.sl 1 (u.1.map Qe)),(10,.own 22 st.2.length),(11,.sl 1 (e.Cancel.map Qb)),(12,.I st.1)],[(22,.arr 1 (st.2.map Qe))]⟩) (λq=>(.exit 0,⟨[(8,.sl 1 (u.1.map Qe)),(10,.own 22 q.length)],[(22,.arr 1 (q.map Qe))]⟩)) Z (λ⟨p,k⟩ o h=>J a [5,.o (.ln e.Cancel.length),3] Z Qc<|I h (λf h=>J a [.T,2] Z f<|mE_ (λg:QMk=>⟨[(8,.sl 1 (u.1.map Qe)),(10,.own 22 g.length),(11,.sl 1 (e.Cancel.map Qb)),(12,.I p)],[(22,.arr 1 (g.map Qe))]⟩) (λg=>Ox p g=some o) (H a [2] Z<|mV_ h (λs=>⟨[(8,.sl 1 (u.1.map Qe)),(10,.own 22 k.length),(11,.sl 1 (e.Cancel.map Qb)),(12,.I p),(51,.b s)],[(22,.arr 1 (k.map Qe))]⟩) (λs h=>B h λa2 z h=>J a [3,.o (.row (Qb a2)),3] Z (QI z)<|I h (λi h=>B h λa3 D h=>G a [.S 43 (.b true),2,.o (.row (Qb a3)),6] Z ⟨(tc_ i),(QI D)⟩<|mq_ h Z) λi h=>L a [.S 43 (.b false),9] Z i<|mq_ h Z) λs h=>H a [1] Z<|I h (λj h=>B h λt N h=>B h λa4 l h=>G a [.T,4,.o (.row (Qb t)),2,.x (λσ=>σ.set 22 (.arr 1 ((k.set t.toNat ([]:L_ (Int×Int))).map Qe))),2,.S 10 (.own 22 (k.set t.toNat ([]:L_ (Int×Int))).length)] Z (a5_ j (QI N) (Yv l Z) (Ql.storeNil (zz:=2) (r:=Qe a4) Z Z Z Z (XO (Ys l).2) Z (QN.sz Z) Z (BC Z)) (congrArg (λn=>V.own 22 n) (by simp)))<|me_ h Z) λj h=>J a [.F,2] Z j<|me_ h Z) λg h=>H a [5] Z<|rN_ h Z) λf h=>J a [.F,2] Z f<|rX_ h Z) λa5 h=>B h λP a0 h=>K a [6,.frz 22 (a5.map Qe) [10,58] [],.o (.C3 (.tup [.sl 1 (P.1.map Qe),.I P.2])),7] Z (a2_ (YA Qc) (YA Qc)) (VR _ _ _ _ a0)<|F h Z Z U
def Sf (c:Qn)(e:QMk)(d:Qh):O_ (QMk×Int):=(Ow c e d).bind λb=>bif (b.2 != 0)then some (([]:L_ QBg),b.2)else (Oy c b.1 d).bind λa=>some (a.1,a.2)
def Qjo (f k g):CT 32 [.agg (Qa f),.sl 1 (k.map Qe),.agg (Qf g)] [] (Sf f k g) (λr=>(.tup [.sl 1 (r.1.map Qe),.I r.2])) no_:=
 W 26 func32 Z λC i r h=>B h λl j h=>g3_ i [10,.A (Qa f),1,.A (Qf g),.o (.C3 (.tup [.sl 1 (l.1.map Qe),.I l.2])),14] Z Z Z (Qg0 _ _ _ _ j)<|I h (λa h=>J i [.T,9,.denil 6 [some 1]] Z a<|F h Z Z U) λa h=>B h λb e h=>g4_ i [.F,4,.A (Qa f),1,.A (Qf g),.o (.C3 (.tup [.sl 1 (b.1.map Qe),.I b.2])),7] Z a Z Z (Qg1 _ _ _ _ e)<|F h Z Z U
def VV (a:QBg)(b:QBg):O_ Bool:=(Gv a b).bind λc=>bif c then (Gv b a).bind λd=>some d else some false
def VW (a:Bool):O_ Bool:=some a
def Oz (a:QBg)(b:QBg):O_ Bool:=(VV a b).bind (λc=>VW c)
def Qg2 (j k):CT 117 [.sl 2 (j.map Qo),.sl 2 (k.map Qo)] [] (Oz j k) V.b no_:=
 W 13 func117 Z λC e r h=>H e [6] Z<|mV_ h (λf=>⟨[(4,.b f)],[]⟩) (λf h=>B h λl g h=>J e [3,.o (.C2 (.b l)),1] Z (Bz _ _ _ g)<|I h (λa h=>B h λm i h=>G e [.S 8 (.b true),2,.o (.C2 (.b m)),3] Z ⟨(tc_ a),(Bz _ _ _ i)⟩<|mq_ h Z) λa h=>L e [.S 8 (.b false),6] Z a<|mq_ h Z) λf h=>H e [2] Z<|E h Z U
def Ht (d:QMk)(e:QMk)(a:Int):O_ (Int⊕(Unit⊕Unit)):=bif (a<(d.length:Int))then (idx d a).bind λf=>(idx e a).bind λb=>(Oz f b).bind λc=>bif (!c)then some (.inr (.inl ()))else some (.inl (Qj (a+1)))else some (.inr (.inr ()))
def Qg3 : O_ Bool:=some false
def Qg4 : O_ Bool:=some true
def GU (a:QMk)(b:QMk):O_ Bool:=bif ((a.length:Int) != (b.length:Int))then some false else (Qs (λst=>Ht a b st) 0).bind (Sum.elim (λq=>Qg3) (λq=>Qg4))
def Qg5 (j m):CT 62 [.sl 1 (j.map Qe),.sl 1 (m.map Qe)] [] (GU j m) V.b no_:=
 W 29 func62 Z λC e r h=>K e [9,.o (.ln j.length),1,.o (.ln m.length),3] Z Qc Qc<|I h (λg h=>J e [.T,7] Z g<|E h Z U) λg h=>J e [.F,9] Z g<|lq_ h (λst=>⟨[(0,.sl 1 (j.map Qe)),(1,.sl 1 (m.map Qe)),(5,.I st)],[]⟩) (λq=>(.ret,⟨[(4,.b false)],[]⟩)) (λq=>(.exit 0,⟨[],[]⟩)) Z (λv o h=>J e [5,.o (.ln j.length),3] Z Qc<|I h (λi h=>B h λu p h=>B h λs k h=>B h λt l h=>G e [.T,5,.K [0,1,5] []] Z (A i) <| 
  dr_ e [.N,.N,.B (.row (Qe u)),.N,.N,.N,.B (.row (Qe s)),.N,.B (.C2 (.b t)),.N] [] [] [0,1,5,6] [] Z Z (a3_ (QI p) (QI k) (Qg2 _ _ _ l)) Z <|
  H e [7] Z<|I h (λf h=>J e [.T,8] Z f<|rR_ h Z) λf h=>J e [.F,8] Z f<|rN_ h Z) λi h=>J e [.F,2] Z i<|rX_ h Z) (λ_ h=>H e [2] Z<|E h Z U) (λ_ h=>H e [8] Z<|E h Z U)
def CJ (b:(L_ QMk))(c:QMk)(a:Int):O_ (Int⊕(Unit⊕Unit)):=bif (a<(b.length:Int))then (idx b a).bind λd=>(GU d c).bind λe=>bif e then some (.inr (.inl ()))else some (.inl (Qj (a+1)))else some (.inr (.inr ()))
def QfC : O_ Bool:=some true
def QfD : O_ Bool:=some false
def Aq (a:(L_ QMk))(b:QMk):O_ Bool:=(Qs (λst=>CJ a b st) 0).bind (Sum.elim (λq=>QfC) (λq=>QfD))
def QfE (g i):CT 33 [.sl 1 (g.map Qu),.sl 1 (i.map Qe)] [] (Aq g i) V.b no_:=
 W 20 func33 Z λC e r h=>H e [12] Z<|lq_ h (λst=>⟨[(0,.sl 1 (g.map Qu)),(1,.sl 1 (i.map Qe)),(5,.I st)],[]⟩) (λq=>(.ret,⟨[(4,.b true)],[]⟩)) (λq=>(.exit 0,⟨[],[]⟩)) Z (λp o h=>J e [5,.o (.ln g.length),3] Z Qc<|I h (λf h=>B h λl j h=>B h λm k h=>g3_ e [.T,8,.o (.row (Qu l)),2,.o (.C2 (.b m)),8] Z f (QI j) (Qg5 _ _ _ k)<|I h (λa h=>J e [.T,8] Z a<|rR_ h Z) λa h=>J e [.F,8] Z a<|rN_ h Z) λf h=>J e [.F,2] Z f<|rX_ h Z) (λ_ h=>H e [2] Z<|E h Z U) (λ_ h=>H e [8] Z<|E h Z U)
def Gx (a:Int)(b:(L_ QMk)):O_ ((Int×(L_ QMk))⊕((L_ QMk)⊕(L_ QMk))):=some (.inl ((Qj (a+1)),b))
def CK (f:(L_ Qh))(b:Int)(D:Int)(k:Qn)(d:Int)(c:Int)(a:(L_ QMk)):O_ ((Int×(L_ QMk))⊕((L_ QMk)⊕(L_ QMk))):=
 bif (c<(f.length:Int))then
 (idx f c).bind λg=>
 bif (g.Task==b)then
 Gx c a
 else
 (idx a D).bind λh=>
 (idx f c).bind λi=>
 (Sf k h i).bind λe=>
 (Aq a e.1).bind λj=>
 bif ((e.2 != 0)||j)then
 Gx c a
 else
 bif ((min2 (max2 d 0) 4096)<=(a.length:Int))then
 some (.inr (.inl a))
 else
 (chk (a.length+([e.1]:L_ QMk).length<=4294967296)).bind λ_=>
 Gx c (a++([e.1]:L_ QMk))
 else
 some (.inr (.inr a))
def Nb (a:(L_ QMk)):O_ ((Int×(L_ QMk))⊕((L_ QMk)⊕(L_ QMk))):=some (.inr (.inl a))
def Nc (h:Int)(a:(L_ QMk)):O_ ((Int×(L_ QMk))⊕((L_ QMk)⊕(L_ QMk))):=some (.inl ((Qj (h+1)),a))
def CL (f:Qn)(a:Int)(b:Int)(h:Int)(c:(L_ QMk)):O_ ((Int×(L_ QMk))⊕((L_ QMk)⊕(L_ QMk))):=bif (h<(c.length:Int))then (idx c h).bind λd=>(LV f d 9223372036854775807).bind λe=>(Qs (λst=>CK e a h f b st.1 st.2) (0,c)).bind (Sum.elim (λq=>Nb q) (λq=>Nc h q))else some (.inr (.inr c))
def QfF (a:(L_ QMk)):O_ ((L_ QMk)×Bool):=some (a,false)
def QfG (a:(L_ QMk)):O_ ((L_ QMk)×Bool):=some (a,true)
def Fj (c:Qn)(d:QMk)(b:Int)(a:Int):O_ ((L_ QMk)×Bool):=bif ((min2 (max2 a 0) 4096)==0)then some (([]:L_ QMk),false)else (Qs (λst=>CL c b a st.1 st.2) (0,([d]:L_ QMk))).bind (Sum.elim (λq=>QfF q) (λq=>QfG q))
def TD (x m2 e f):CT 12 [.agg (Qa x),.sl 1 (m2.map Qe),.I e,.I f] [] (Fj x m2 e f) (λr=>(.tup [.sl 1 (r.1.map Qu),.b r.2])) no_:=
 W 81 func12 Z λC g r h=>H g [22] Z<|I h (λa1 h=>J g [.T,8,.denil 8 [some 1]] Z a1<|F h Z Z U) λa1 h=>g3_ g [.F,6,.O 24 (.arr 1 (([m2]:L_ QMk).map Qu)),.S 24 (.own 24 ([m2]:L_ QMk).length),10] Z a1 Z Z<|lq_ h (λst=>⟨[(2,.I e),lk_ 4,(10,.I (min2 (max2 f 0) 4096)),(11,.own 24 st.2.length),(12,.I st.1)],[(4,.var (Qa x)),(24,.arr 1 (st.2.map Qu))]⟩) (λq=>(.ret,⟨[(8,.own 24 q.length),(9,.b false)],[(24,.arr 1 (q.map Qu))]⟩)) (λq=>(.exit 0,⟨[(11,.own 24 q.length)],[(24,.arr 1 (q.map Qu))]⟩)) Z (λ⟨at_11,b3⟩ o h=>H g [9] Z<|I h (λl h=>B h λa8 z h=>B h λj a3 h=>G g [.T,5,.K [2,4,10,11,12] [4,24]] Z (A l) <| 
  dr_ g [.E (.agg (Qa x)),.N,.N,.N,.B (.row (Qu a8)),.B (.co false [.d,.d,.d] 4 (j.map Qf) j.length),.N] [] [] [2,4,10,11,12,13] [4,24,36] Z Z (a4_ Z (Yv z Z) (XO (Ys z).2) ⟨(ZZ _ _ _ _ a3),Qc,.inl Z⟩) Z <|
  H g [7] Z<|lq_ h (λst=>⟨[(2,.I e),lk_ 4,(10,.I (min2 (max2 f 0) 4096)),(11,.own 24 st.2.length),(12,.I at_11),(13,.own 36 j.length),(14,.I st.1)],[(4,.var (Qa x)),(24,.arr 1 (st.2.map Qu)),(36,.arr 4 (j.map Qf))]⟩) (λq=>(.ret,⟨[(8,.own 24 q.length),(9,.b false)],[(24,.arr 1 (q.map Qu))]⟩)) (λq=>(.exit 2,⟨[(2,.I e),lk_ 4,(10,.I (min2 (max2 f 0) 4096)),(11,.own 24 q.length),(12,.I at_11)],[(4,.var (Qa x)),(24,.arr 1 (q.map Qu))]⟩)) Z (λ⟨a2,m⟩ o h=>H g [9] Z<|I h (λp h=>J g [.T,2] Z p<|mE_ (λs:(L_ QMk)=>⟨[(2,.I e),lk_ 4,(10,.I (min2 (max2 f 0) 4096)),(11,.own 24 s.length),(12,.I at_11),(13,.own 36 j.length),(14,.I a2)],[(4,.var (Qa x)),(24,.arr 1 (s.map Qu)),(36,.arr 4 (j.map Qf))]⟩) (λs=>Gx a2 s=some o) (B h λa9 D h=>K g [8,.o (.row (Qf a9)),4] Z (Yv D Z) (XO (Ys D).2)<|I h (λt h=>J g [.T,3] Z t<|me_ h Z) λt h=>B h λb0 P h=>B h λa4 a0 h=>B h λi a5 h=>G g [.F,3,.K [2,4,10,11,12,13,14] [4,24,36]] Z (A t) <| 
  dr_ g [.E (.agg (Qa x)),.N,.N,.N,.B (.row (Qu b0)),.N,.N,.N,.a (.row (Qf a4)) (some ([],.agg (Qf a4))) false,.B (.C3 (.tup [.sl 1 (i.1.map Qe),.I i.2])),.N,.N,.N,.N,.N] [] [] [2,4,10,11,12,13,14,15,16] [4,24,36] Z Z (a7_ Z (Yv P Z) (XO (Ys P).2) (Yv a0 Z) (XO (Ys a0).2) Z (Qjo _ _ _ _ a5)) Z <|
  B h λy a6 h=>J g [5,.o (.c true [.o (m.map Qu),.d] (.b y)),5] Z ⟨(Sl Z),(QfE _ _ _ a6)⟩<|Y ⟨[(2,.I e),lk_ 4,(10,.I (min2 (max2 f 0) 4096)),(11,.own 24 m.length),(12,.I at_11),(13,.own 36 j.length),(14,.I a2),(15,.sl 1 (i.1.map Qe)),(70,.b ((i.2 != 0)||y))],[(4,.var (Qa x)),(24,.arr 1 (m.map Qu)),(36,.arr 4 (j.map Qf))]⟩ (H g [4] Z<|bO_ (i.2 != 0) (λk=>G g [.S 68 (.b true),3,.S 70 (.b ((i.2 != 0)||y))] Z ⟨(tc_ k),(cb_ (KB k Z))⟩<|M Z) λk=>G g [.S 68 (.b false),3,.S 70 (.b ((i.2 != 0)||y))] Z ⟨(tc_ k),(cb_ (Yj k Z))⟩<|M Z)<|H g [1] Z<|I h (λu h=>J g [.T,3] Z u<|me_ h Z) λu h=>J g [.F,11] Z u<|I h (λw h=>J g [.T,11] Z w<|rR_ h Z) λw h=>X h λa7 h=>g3_ g [.F,5,.v (.bd []) [] (.sl 1 (([i.1]:L_ QMk).map Qu)),.app ((m++([i.1]:L_ QMk)).map Qu) (m++([i.1]:L_ QMk)).length,3] Z w Z ⟨Qc,Yk a7 Qc,XG,YC Qc⟩<|me_ h Z) λs h=>H g [5] Z<|rN_ h Z) λp h=>J g [.F,2] Z p<|rX_ h Z) (λb4 h=>H g [3] Z<|rR_ h Z) (λb5 h=>H g [8] Z<|rN_ h Z)) λl h=>J g [.F,2] Z l<|rX_ h Z) (λb1 h=>J g [2,.frz 24 (b1.map Qu) [8] []] Z (A (YA Qc))<|F h Z Z U) (λb2 h=>J g [10,.frz 24 (b2.map Qu) [8] []] Z (A (YA Qc))<|F h Z Z U)
def Eo (c:QBg)(e:QBg)(b:Int):O_ (Int⊕(Unit⊕Unit)):=bif (b<(c.length:Int))then (idx c b).bind λd=>(idx e b).bind λa=>bif (!((d.1==a.1)&&(d.2==a.2)))then some (.inr (.inl ()))else some (.inl (Qj (b+1)))else some (.inr (.inr ()))
def Qg6 : O_ Bool:=some false
def Qg7 : O_ Bool:=some true
def OA (a:QBg)(b:QBg):O_ Bool:=bif ((a.length:Int) != (b.length:Int))then some false else (Qs (λst=>Eo a b st) 0).bind (Sum.elim (λq=>Qg6) (λq=>Qg7))
def Qg8 (i k):CT 34 [.sl 2 (i.map Qo),.sl 2 (k.map Qo)] [] (OA i k) V.b no_:=
 W 26 func34 Z λC c r h=>K c [9,.o (.ln i.length),1,.o (.ln k.length),3] Z Qc Qc<|I h (λf h=>J c [.T,7] Z f<|E h Z U) λf h=>J c [.F,9] Z f<|lq_ h (λst=>⟨[(0,.sl 2 (i.map Qo)),(1,.sl 2 (k.map Qo)),(5,.I st)],[]⟩) (λq=>(.ret,⟨[(4,.b false)],[]⟩)) (λq=>(.exit 0,⟨[],[]⟩)) Z (λs o h=>J c [5,.o (.ln i.length),3] Z Qc<|I h (λg h=>B h λl m h=>B h λe j h=>G c [.T,5,.K [0,1,5] []] Z (A g) <| 
  dr_ c [.N,.N,.B (.row (Qo l)),.E (.agg (Qo l)),.N,.N,.B (.row (Qo e)),.E (.agg (Qo e)),.B (.any (.b (!((l.1==e.1)&&(l.2==e.2)))) none)] [] [] [0,1,5,25] [] Z Z (a5_ (QI m) Z (QI j) Z (λσ p t _=>Ql.neAgg Z Z (QZ c.n Z) (p _ _ Z) (p _ _ Z) Z Z (QpP _ _ _ _))) Z <|
  H c [1] Z<|I h (λd h=>J c [.T,8] Z d<|rR_ h Z) λd h=>J c [.F,8] Z d<|rN_ h Z) λg h=>J c [.F,2] Z g<|rX_ h Z) (λ_ h=>H c [2] Z<|E h Z U) (λ_ h=>H c [8] Z<|E h Z U)
def Wt (d:QMk)(e:QMk)(a:Int):O_ (Int⊕(Unit⊕Unit)):=bif (a<(d.length:Int))then (idx d a).bind λf=>(idx e a).bind λb=>(OA f b).bind λc=>bif (!c)then some (.inr (.inl ()))else some (.inl (Qj (a+1)))else some (.inr (.inr ()))
def QbS : O_ Bool:=some false
def QbT : O_ Bool:=some true
def CM (a:QMk)(b:QMk):O_ Bool:=bif ((a.length:Int) != (b.length:Int))then some false else (Qs (λst=>Wt a b st) 0).bind (Sum.elim (λq=>QbS) (λq=>QbT))
def QbU (j m):CT 13 [.sl 1 (j.map Qe),.sl 1 (m.map Qe)] [] (CM j m) V.b no_:=
 W 27 func13 Z λC e r h=>K e [9,.o (.ln j.length),1,.o (.ln m.length),3] Z Qc Qc<|I h (λg h=>J e [.T,7] Z g<|E h Z U) λg h=>J e [.F,9] Z g<|lq_ h (λst=>⟨[(0,.sl 1 (j.map Qe)),(1,.sl 1 (m.map Qe)),(5,.I st)],[]⟩) (λq=>(.ret,⟨[(4,.b false)],[]⟩)) (λq=>(.exit 0,⟨[],[]⟩)) Z (λv o h=>J e [5,.o (.ln j.length),3] Z Qc<|I h (λi h=>B h λu p h=>B h λs k h=>B h λt l h=>G e [.T,5,.K [0,1,5] []] Z (A i) <| 
  dr_ e [.N,.N,.B (.row (Qe u)),.N,.N,.N,.B (.row (Qe s)),.N,.B (.C2 (.b t)),.N] [] [] [0,1,5,26] [] Z Z (a3_ (QI p) (QI k) (Qg8 _ _ _ l)) Z <|
  H e [1] Z<|I h (λf h=>J e [.T,8] Z f<|rR_ h Z) λf h=>J e [.F,8] Z f<|rN_ h Z) λi h=>J e [.F,2] Z i<|rX_ h Z) (λ_ h=>H e [2] Z<|E h Z U) (λ_ h=>H e [8] Z<|E h Z U)
def CN (b:Int)(a:LI_):O_ ((Int×LI_)⊕LI_):=some (.inl ((Qj (b+1)),a))
def TE (h:Bool)(e:Qn)(a:Int)(b:Int)(f:Int):O_ Bool:=bif h then some true else (idx e.Tasks a).bind λc=>(idx c.Ins b).bind λd=>some (d.Place==f)
def TF (a:Int)(h:Bool):O_ ((Bool×Int)⊕Bool):=some (.inl (h,(Qj (a+1))))
def Nd (d:Qn)(a:Int)(e:Int)(h:Bool)(b:Int):O_ ((Bool×Int)⊕Bool):=(idx d.Tasks a).bind λc=>bif (b<(c.Ins.length:Int))then (TE h d a b e).bind (λj=>TF b j)else some (.inr h)
def TG (h:Bool)(b:QMk)(c:Int):O_ Bool:=bif h then (idx b c).bind λa=>some ((a.length:Int)==0)else some false
def TH (b:LI_)(a:Int)(c:Bool):O_ ((Int×LI_)⊕LI_):=bif c then (chk (b.length+([a]:L_ Int).length<=4294967296)).bind λ_=>CN a (b++([a]:L_ Int))else CN a b
def Nf (c:QMk)(b:Int)(d:LI_)(h:Bool):O_ ((Int×LI_)⊕LI_):=(TG h c b).bind (λa=>TH d b a)
def UE (c:QMk)(a:Int)(d:Qn)(b:Int)(e:LI_):O_ ((Int×LI_)⊕LI_):=bif ((b<(c.length:Int))&&((0<=a)&&(a<(d.Tasks.length:Int))))then (Qs (λst=>Nd d a b st.1 st.2) (false,0)).bind (λq=>Nf c b e q)else some (.inr e)
def UF (a:LI_):O_ LI_:=some a
def Ar (b:Qn)(c:QMk)(a:Int):O_ LI_:=(Qs (λst=>UE c a b st.1 st.2) (0,([]:L_ Int))).bind (λq=>UF q)
def TI (i f a):CT 21 [.agg (Qa i),.sl 1 (f.map Qe),.I a] [] (Ar i f a) (λr=>(.own 600 r.length)) (λr=>[(600,.arr 1 (r.map Qb))]):=
 W 68 func21 Z λC c r h=>K c [18,.adopt 7 63 1,.O 63 (.arr 1 (([]:L_ Int).map Qb)),.S 7 (.own 63 ([]:L_ Int).length)] Z Z (congrArg (λn=>V.own 63 n) (by simp))<|lp_ h (λst=>⟨[(1,.sl 1 (f.map Qe)),(2,.I a),lk_ 3,(7,.own 63 st.2.length),(8,.I st.1)],[(3,.var (Qa i)),(63,.arr 1 (st.2.map Qb))]⟩) (λq=>(.exit 0,⟨[(7,.own 63 q.length)],[(63,.arr 1 (q.map Qb))]⟩)) Z (λ⟨g,j⟩ o h=>H c [2] Z<|Y ⟨[(1,.sl 1 (f.map Qe)),(2,.I a),lk_ 3,(7,.own 63 j.length),(8,.I g),(25,.b ((g<(f.length:Int))&&((0<=a)&&(a<(i.Tasks.length:Int)))))],[(3,.var (Qa i)),(63,.arr 1 (j.map Qb))]⟩ (J c [3,.o (.ln f.length),2] Z Qc<|bO_ (decide (g<(f.length:Int))) (λd=>L c [.S 15 (.b true),4] Z d<|bO_ (decide (0<=a)) (λe=>G c [.S 19 (.b true),3,.o (.ln i.Tasks.length),3,.S 25 (.b ((g<(f.length:Int))&&((0<=a)&&(a<(i.Tasks.length:Int)))))] Z ⟨⟨(tc_ e),Qc⟩,(cb_ (XL d (XL e Z)))⟩<|M Z) λe=>G c [.S 19 (.b false),7,.S 25 (.b ((g<(f.length:Int))&&((0<=a)&&(a<(i.Tasks.length:Int)))))] Z ⟨(tc_ e),(cb_ (XL d (Yp e Z)))⟩<|M Z) λd=>G c [.S 15 (.b false),11,.S 25 (.b ((g<(f.length:Int))&&((0<=a)&&(a<(i.Tasks.length:Int)))))] Z ⟨(tc_ d),(cb_ (Yp d Z))⟩<|M Z)<|H c [1] Z<|I h (λk h=>J c [.T,2] Z k<|mE_ (λl:LI_=>⟨[(1,.sl 1 (f.map Qe)),(2,.I a),lk_ 3,(7,.own 63 l.length),(8,.I g)],[(3,.var (Qa i)),(63,.arr 1 (l.map Qb))]⟩) (λl=>CN g l=some o) (H c [13] Z<|lp_ h (λst=>⟨[(1,.sl 1 (f.map Qe)),(2,.I a),lk_ 3,(7,.own 63 j.length),(8,.I g),(9,.b st.1),(10,.I st.2)],[(3,.var (Qa i)),(63,.arr 1 (j.map Qb))]⟩) (λq=>(.exit 2,⟨[(1,.sl 1 (f.map Qe)),(2,.I a),lk_ 3,(7,.own 63 j.length),(8,.I g),(9,.b q)],[(3,.var (Qa i)),(63,.arr 1 (j.map Qb))]⟩)) Z (λ⟨in_16,a0⟩ o h=>B h λw x h=>K c [7,.o (.row (Qk w)),2,.o (.ln w.Ins.length),3] Z (QI x) Qc<|I h (λm h=>J c [.T,4] Z m<|mV_ h (λin_23=>⟨[(1,.sl 1 (f.map Qe)),(2,.I a),lk_ 3,(7,.own 63 j.length),(8,.I g),(9,.b in_23),(10,.I a0)],[(3,.var (Qa i)),(63,.arr 1 (j.map Qb))]⟩) (λin_23 h=>H c [3] Z<|I h (λp h=>L c [.S 40 (.b true),15] Z p<|mq_ h Z) λp h=>B h λa1 y h=>B h λa2 z h=>G c [.S 40 (.b false),3,.o (.row (Qk a1)),3,.o (.row (Xa a2)),7] Z ⟨⟨(tc_ p),(QI y)⟩,(QI z)⟩<|mq_ h Z) λin_23 h=>H c [7] Z<|rN_ h Z) λm h=>J c [.F,2] Z m<|rX_ h Z) λin_20 h=>H c [3] Z<|mV_ h (λu=>⟨[(1,.sl 1 (f.map Qe)),(2,.I a),lk_ 3,(7,.own 63 j.length),(8,.I g),(62,.b u)],[(3,.var (Qa i)),(63,.arr 1 (j.map Qb))]⟩) (λu h=>H c [3] Z<|I h (λs h=>B h λD N h=>G c [.S 55 (.b true),2,.o (.row (Qe D)),1,.o (.ln D.length),3] Z ⟨⟨(tc_ s),(QI N)⟩,Qc⟩<|mq_ h Z) λs h=>L c [.S 55 (.b false),8] Z s<|mq_ h Z) λu h=>H c [1] Z<|I h (λt h=>X h λP h=>g3_ c [.T,3,.v (.bd []) [] (.sl 1 (([g]:L_ Int).map Qb)),.app ((j++([g]:L_ Int)).map Qb) (j++([g]:L_ Int)).length,3] Z t Z ⟨Qc,Yk P Qc,XG,YC Qc⟩<|me_ h Z) λt h=>J c [.F,2] Z t<|me_ h Z) λl h=>H c [5] Z<|rN_ h Z) λk h=>J c [.F,2] Z k<|rX_ h Z) λa3 h=>H c [9,.K [6] [63],.ren 63 600] Z<|E h Z r1_
def CO (b:LI_)(c:((L_ QMk)×Bool))(d:Int)(a:Int):O_ (Int⊕(Unit⊕Unit)):=bif (a<(b.length:Int))then (idx c.1 d).bind λe=>(idx b a).bind λf=>(idx e f).bind λg=>bif (0<(g.length:Int))then some (.inr (.inl ()))else some (.inl (Qj (a+1)))else some (.inr (.inr ()))
def QfH : O_ (Int⊕(Unit⊕Unit)):=some (.inr (.inl ()))
def QfI (a:Int):O_ (Int⊕(Unit⊕Unit)):=some (.inl (Qj (a+1)))
def CP (b:((L_ QMk)×Bool))(c:LI_)(a:Int):O_ (Int⊕(Unit⊕Unit)):=bif (a<(b.1.length:Int))then (Qs (λst=>CO c b a st) 0).bind (Sum.elim (λq=>QfH) (λq=>QfI a))else some (.inr (.inr ()))
def TJ : O_ Int:=some 0
def Ng (a:((L_ QMk)×Bool)):O_ Int:=bif a.2 then some 1 else some 2
def Fk (c:Qn)(e:QMk)(d:Qh)(a:Int):O_ Int:=(Ao c e d).bind λg=>bif (g != 0)then some 0 else (idx c.Tasks d.Task).bind λh=>bif (h.Join != 3)then some 1 else (Fj c e d.Task a).bind λb=>(Ar c e d.Task).bind λf=>(Qs (λst=>CP b f st) 0).bind (Sum.elim (λq=>TJ) (λq=>Ng b))
def Nh (u m2 P g):CT 18 [.agg (Qa u),.sl 1 (m2.map Qe),.agg (Qf P),.I g] [] (Fk u m2 P g) V.I no_:=
 W 66 func18 Z λC e r h=>B h λx7 S h=>g3_ e [10,.A (Qa u),1,.A (Qf P),.o (.C3 (.I x7)),3] Z Z Z (Na _ _ _ _ S)<|I h (λt h=>J e [.T,7] Z t<|E h Z U) λt h=>B h λe9 a0 h=>K e [.F,9,.o (.row (Qk e9)),5] Z t (QI a0)<|I h (λj h=>J e [.T,7] Z j<|E h Z U) λj h=>B h λf w h=>B h λi x h=>G e [.F,4,.A (Qa u),4,.o (.C4 (.tup [.sl 1 (f.1.map Qu),.b f.2])),9,.A (Qa u),3,.o (.co false [.d,.d,.d] 1 (i.map Qb) i.length),10] Z (a5_ j Z (TD _ _ _ _ _ w) Z ⟨(TI _ _ _ _ x),Qc,.inl Z⟩)<|lq_ h (λst=>⟨[(9,.sl 1 (f.1.map Qu)),(10,.b f.2),(11,.own 40 i.length),(12,.I st)],[(40,.arr 1 (i.map Qb))]⟩) (λq=>(.ret,⟨[(8,.I 0)],[]⟩)) (λq=>(.exit 0,⟨[(10,.b f.2)],[]⟩)) Z (λy o h=>J e [5,.o (.ln f.1.length),3] Z Qc<|I h (λk h=>J e [.T,10] Z k<|lq_ h (λst=>⟨[(9,.sl 1 (f.1.map Qu)),(10,.b f.2),(11,.own 40 i.length),(12,.I y),(13,.I st)],[(40,.arr 1 (i.map Qb))]⟩) (λq=>(.ret,⟨[(8,.I 0)],[]⟩)) (λq=>(.exit 2,⟨[(9,.sl 1 (f.1.map Qu)),(10,.b f.2),(11,.own 40 i.length),(12,.I y)],[(40,.arr 1 (i.map Qb))]⟩)) Z (λa3 o h=>H e [9] Z<|I h (λl h=>B h λa1 z h=>B h λa2 s h=>B h λD O h=>G e [.T,5,.K [9,10,11,12,13] [40]] Z (A l) <| 
  dr_ e [.N,.N,.B (.row (Qu a1)),.N,.N,.N,.N,.B (.row (Qb a2)),.B (.row (Qe D)),.N,.B (.ln D.length),.N] [] [] [9,10,11,12,13,64] [40] Z Z (a5_ (QI z) (Yv s Z) (XO (Ys s).2) (QI O) Qc) Z <|
  H e [1] Z<|I h (λm h=>J e [.T,8] Z m<|rR_ h Z) λm h=>J e [.F,8] Z m<|rN_ h Z) λl h=>J e [.F,2] Z l<|rX_ h Z) (λ_ h=>H e [3] Z<|rR_ h Z) (λ_ h=>H e [8] Z<|rN_ h Z)) λk h=>J e [.F,2] Z k<|rX_ h Z) (λ_ h=>H e [2] Z<|E h Z U) (λ_ h=>H e [8] Z<|I h (λp h=>J e [.T,7] Z p<|E h Z U) λp h=>J e [.F,8] Z p<|E h Z U)
def Hu (b:Int)(a:Bool)(c:(L_ Qh)):O_ ((Bool×Int×(L_ Qh))⊕(Bool×(L_ Qh))):=some (.inl (a,(Qj (b+1)),c))
def Ep (d:Int)(b:Int)(a:Bool)(c:(L_ Qh)):O_ ((Bool×Int×(L_ Qh))⊕(Bool×(L_ Qh))):=bif (d==2)then Hu b false c else Hu b a c
def Er (g:(L_ Qh))(i:Qn)(j:QMk)(b:Int)(a:Bool)(c:Int)(d:(L_ Qh)):O_ ((Bool×Int×(L_ Qh))⊕(Bool×(L_ Qh))):=bif (c<(g.length:Int))then (idx g c).bind λh=>(Fk i j h b).bind λe=>bif (e==1)then (idx g c).bind λf=>(chk (d.length+([f]:L_ Qh).length<=4294967296)).bind λ_=>Ep e c a (d++([f]:L_ Qh))else Ep e c a d else some (.inr (a,d))
def Qg9 (a:Bool)(b:(L_ Qh)):O_ ((L_ Qh)×Bool):=some (b,a)
def OB (c:Qn)(d:QMk)(a:Int)(b:Int):O_ ((L_ Qh)×Bool):=(LV c d b).bind λe=>(Qs (λst=>Er e c d a st.1 st.2.1 st.2.2) (true,0,([]:L_ Qh))).bind (λq=>Qg9 q.1 q.2)
def Qha (z P e j):CT 15 [.agg (Qa z),.sl 1 (P.map Qe),.I e,.I j] [] (OB z P e j) (λr=>(.tup [.sl 4 (r.1.map Qf),.b r.2])) no_:=
 W 46 func15 Z λC i r h=>B h λw a5 h=>g4_ i [9,.A (Qa z),2,.o (.co false [.d,.d,.d] 4 (w.map Qf) w.length),20,.adopt 11 35 4,.O 35 (.arr 4 (([]:L_ Qh).map Qf)),.S 11 (.own 35 ([]:L_ Qh).length)] Z Z ⟨(ZZ _ _ _ _ a5),Qc,.inl Z⟩ Z (congrArg (λn=>V.own 35 n) (by simp))<|lp_ h (λst=>⟨[(1,.sl 1 (P.map Qe)),(2,.I e),lk_ 4,(10,.own 18 w.length),(11,.own 35 st.2.2.length),(12,.b st.1),(13,.I st.2.1)],[(4,.var (Qa z)),(18,.arr 4 (w.map Qf)),(35,.arr 4 (st.2.2.map Qf))]⟩) (λq=>(.exit 0,⟨[(11,.own 35 q.2.length),(12,.b q.1)],[(35,.arr 4 (q.2.map Qf))]⟩)) Z (λ⟨g,u,a0⟩ o h=>H i [9] Z<|I h (λk h=>J i [.T,2] Z k<|mF_ (λ(f:Bool) (l:(L_ Qh))=>⟨[(1,.sl 1 (P.map Qe)),(2,.I e),lk_ 4,(10,.own 18 w.length),(11,.own 35 l.length),(12,.b f),(13,.I u)],[(4,.var (Qa z)),(18,.arr 4 (w.map Qf)),(35,.arr 4 (l.map Qf))]⟩) (λf l=>Hu u f l=some o) (B h λa1 x h=>B h λD a2 h=>H i [2,.K [1,2,4,10,11,12,13] [4,18,35]] Z <| 
  dr_ i [.E (.agg (Qa z)),.N,.N,.N,.N,.a (.row (Qf a1)) (some ([],.agg (Qf a1))) false,.N,.B (.C4 (.I D)),.N] [] [] [1,2,4,10,11,12,13,14] [4,18,35] Z Z (a5_ Z (Yv x Z) (XO (Ys x).2) Z (Nh _ _ _ _ _ a2)) Z <|
  H i [1] Z<|mE_ (λm:(L_ Qh)=>⟨[(1,.sl 1 (P.map Qe)),(2,.I e),lk_ 4,(10,.own 18 w.length),(11,.own 35 m.length),(12,.b g),(13,.I u),(14,.I D)],[(4,.var (Qa z)),(18,.arr 4 (w.map Qf)),(35,.arr 4 (m.map Qf))]⟩) (λm=>Ep D u g m=some o) (H i [6] Z<|I h (λp h=>B h λs y h=>X h λa3 h=>G i [.T,5,.v (.row (Qf s)) [] (.agg (Qf s)),.v (.bd []) [] (.sl 4 (([s]:L_ Qh).map Qf)),.app ((a0++([s]:L_ Qh)).map Qf) (a0++([s]:L_ Qh)).length,2] Z (a6_ p (Yv y Z) (XO (Ys y).2) Z Z ⟨Qc,Yk a3 Qc,XG,YC Qc⟩)<|me_ h Z) λp h=>J i [.F,1] Z p<|me_ h Z) λm h=>H i [6] Z<|I h (λt h=>J i [.T,4] Z t<|mf_ h Z) λt h=>J i [.F,2] Z t<|mf_ h Z) λf l h=>H i [5] Z<|rN_ h Z) λk h=>J i [.F,2] Z k<|rX_ h Z) λ⟨a4,a6⟩ h=>J i [11,.frz 35 (a6.map Qf) [8] []] Z (A (YA Qc))<|F h Z Z U
def VX (a:Qh)(b:Qh):O_ Bool:=bif (a.Task==b.Task)then (WB a.Vars b.Vars).bind λd=>bif d then (WB a.Ins b.Ins).bind λe=>bif e then (WB a.Outs b.Outs).bind λc=>some c else some false else some false else some false
def VY (a:Bool):O_ Bool:=some a
def TK (a:Qh)(b:Qh):O_ Bool:=(VX a b).bind (λc=>VY c)
def Qhb (p q):CT 35 [.agg (Qf p),.agg (Qf q)] [] (TK p q) V.b no_:=
 W 31 func35 Z λC e r h=>H e [8] Z<|mV_ h (λj=>⟨[(4,.b j)],[]⟩) (λj h=>H e [7] Z<|I h (λf h=>B h λs k h=>G e [.S 10 (.b true),4,.o (.C2 (.b s)),2] Z ⟨(tc_ f),(Ef _ _ _ k)⟩<|I h (λg h=>B h λt l h=>G e [.S 17 (.b true),4,.o (.C2 (.b t)),2] Z ⟨(tc_ g),(Ef _ _ _ l)⟩<|I h (λa h=>B h λm i h=>G e [.S 24 (.b true),4,.o (.C2 (.b m)),3] Z ⟨(tc_ a),(Ef _ _ _ i)⟩<|mq_ h Z) λa h=>L e [.S 24 (.b false),8] Z a<|mq_ h Z) λg h=>L e [.S 17 (.b false),15] Z g<|mq_ h Z) λf h=>L e [.S 10 (.b false),22] Z f<|mq_ h Z) λj h=>H e [2] Z<|E h Z U
def Gy (d:(L_ Qh))(e:(L_ Qh))(a:Int):O_ (Int⊕(Unit⊕Unit)):=bif (a<(d.length:Int))then (idx d a).bind λf=>(idx e a).bind λb=>(TK f b).bind λc=>bif (!c)then some (.inr (.inl ()))else some (.inl (Qj (a+1)))else some (.inr (.inr ()))
def QfJ : O_ Bool:=some false
def QfK : O_ Bool:=some true
def Mt (a:(L_ Qh))(b:(L_ Qh)):O_ Bool:=bif ((a.length:Int) != (b.length:Int))then some false else (Qs (λst=>Gy a b st) 0).bind (Sum.elim (λq=>QfJ) (λq=>QfK))
def CQ (j p):CT 16 [.sl 4 (j.map Qf),.sl 4 (p.map Qf)] [] (Mt j p) V.b no_:=
 W 29 func16 Z λC e r h=>K e [9,.o (.ln j.length),1,.o (.ln p.length),3] Z Qc Qc<|I h (λg h=>J e [.T,7] Z g<|E h Z U) λg h=>J e [.F,9] Z g<|lq_ h (λst=>⟨[(0,.sl 4 (j.map Qf)),(1,.sl 4 (p.map Qf)),(5,.I st)],[]⟩) (λq=>(.ret,⟨[(4,.b false)],[]⟩)) (λq=>(.exit 0,⟨[],[]⟩)) Z (λv o h=>J e [5,.o (.ln j.length),3] Z Qc<|I h (λi h=>B h λu s h=>B h λk l h=>B h λt m h=>G e [.T,5,.K [0,1,5] []] Z (A i) <| 
  dr_ e [.N,.N,.B (.row (Qf u)),.E (.agg (Qf u)),.N,.N,.B (.row (Qf k)),.E (.agg (Qf k)),.B (.C2 (.b t)),.N] [] [] [0,1,5,6] [] Z Z (a5_ (QI s) Z (QI l) Z (Qhb _ _ _ m)) Z <|
  H e [7] Z<|I h (λf h=>J e [.T,8] Z f<|rR_ h Z) λf h=>J e [.F,8] Z f<|rN_ h Z) λi h=>J e [.F,2] Z i<|rX_ h Z) (λ_ h=>H e [2] Z<|E h Z U) (λ_ h=>H e [8] Z<|E h Z U)
def GI (b:((L_ QMk)×Bool))(c:((L_ QMk)×Bool))(a:Int):O_ (Int⊕(Unit⊕Unit)):=bif (a<(b.1.length:Int))then (idx b.1 a).bind λd=>(idx c.1 a).bind λe=>(CM d e).bind λf=>bif (!f)then some (.inr (.inl ()))else some (.inl (Qj (a+1)))else some (.inr (.inr ()))
def Zz : O_ Bool:=some false
def LW (n:Bool)(c:((L_ Qh)×Bool))(d:((L_ Qh)×Bool))(e:Qn)(f:QMk)(m:Qh)(b:Int)(a:Int):O_ Bool:=bif n then (Mt c.1 d.1).bind λg=>bif g then bif (c.2==d.2)then (Db e f m b).bind λh=>(Fk e f m b).bind λi=>bif (h==i)then (JD e f a).bind λj=>(Ar e f a).bind λk=>(WB j k).bind λl=>some l else some false else some false else some false else some false
def LX (a:Bool):O_ Bool:=some a
def Bf (c:Qn)(d:QMk)(a:Int)(h:Bool)(i:Qh)(b:Int):O_ Bool:=(Fc c d a 20).bind λe=>(OB c d a 20).bind λf=>(LW h e f c d i a b).bind (λg=>LX g)
def Gd (e:Qn)(f:QMk)(g:Qh)(b:Int)(a:Int):O_ Bool:=
 (Re).bind λh=>
 (HR e f a).bind λj=>
 bif ((!j)||((20<(g.Vars.length:Int))||((20<(g.Ins.length:Int))||(20<(g.Outs.length:Int)))))then
 some h
 else
 (Mp e f).bind λi=>
 bif (40<=i)then
 some h
 else
 (Ui e f b a).bind λc=>
 (Fj e f b a).bind λd=>
 bif (((c.1.length:Int) != (d.1.length:Int))||(c.2 != d.2))then
 some false
 else
 (Qs (λst=>GI c d st) 0).bind (Sum.elim (λq=>Zz) (λq=>Bf e f a h g b))
def ZA (s m2 i e f):CT 3 [.agg (Qa s),.sl 1 (m2.map Qe),.agg (Qf i),.I e,.I f] [] (Gd s m2 i e f) V.b no_:=
 W 144 func3 Z λC g r h=>B h λx8 c3 h=>B h λx9 c4 h=>g3_ g [9,.o (.c false [] (.b x8)),5,.A (Qa s),2,.o (.C3 (.b x9)),5] Z (QeZ _  c3) Z (QgP _ _ _ _ c4)<|Y ⟨[(1,.sl 1 (m2.map Qe)),(3,.I e),(4,.I f),lk_ 5,lk_ 7,(11,.b x8),(46,.b ((!x9)||((20<(i.Vars.length:Int))||((20<(i.Ins.length:Int))||(20<(i.Outs.length:Int))))))],[(5,.var (Qa s)),(7,.var (Qf i))]⟩ (H g [4] Z<|bO_ (!x9) (λl=>G g [.S 29 (.b true),18,.S 46 (.b ((!x9)||((20<(i.Vars.length:Int))||((20<(i.Ins.length:Int))||(20<(i.Outs.length:Int))))))] Z ⟨(tc_ l),(cb_ (KB l Z))⟩<|M Z) λl=>G g [.S 29 (.b false),2,.o (.ln i.Vars.length),3] Z ⟨(tc_ l),Qc⟩<|bO_ (decide (20<(i.Vars.length:Int))) (λm=>G g [.S 35 (.b true),12,.S 46 (.b ((!x9)||((20<(i.Vars.length:Int))||((20<(i.Ins.length:Int))||(20<(i.Outs.length:Int))))))] Z ⟨(tc_ m),(cb_ (Yj l (KB m Z)))⟩<|M Z) λm=>G g [.S 35 (.b false),2,.o (.ln i.Ins.length),3] Z ⟨(tc_ m),Qc⟩<|bO_ (decide (20<(i.Ins.length:Int))) (λt=>G g [.S 41 (.b true),6,.S 46 (.b ((!x9)||((20<(i.Vars.length:Int))||((20<(i.Ins.length:Int))||(20<(i.Outs.length:Int))))))] Z ⟨(tc_ t),(cb_ (Yj l (Yj m (KB t Z))))⟩<|M Z) λt=>G g [.S 41 (.b false),2,.o (.ln i.Outs.length),3,.S 46 (.b ((!x9)||((20<(i.Vars.length:Int))||((20<(i.Ins.length:Int))||(20<(i.Outs.length:Int))))))] Z ⟨⟨(tc_ t),Qc⟩,(cb_ (Yj l (Yj m (Yj t Z))))⟩<|M Z)<|H g [1] Z<|I h (λz h=>J g [.T,8] Z z<|E h Z U) λz h=>B h λc5 a6 h=>g3_ g [.F,5,.A (Qa s),1,.o (.C2 (.I c5)),3] Z z Z (Qfb _ _ _ a6)<|I h (λD h=>J g [.T,8] Z D<|E h Z U) λD h=>B h λj a7 h=>B h λk a8 h=>G g [.F,4,.A (Qa s),3,.o (.C4 (.tup [.sl 1 (j.1.map Qu),.b j.2])),9,.A (Qa s),3,.o (.C4 (.tup [.sl 1 (k.1.map Qu),.b k.2])),9] Z (a5_ D Z (Ls _ _ _ _ _ a7) Z (TD _ _ _ _ _ a8))<|Y ⟨[(1,.sl 1 (m2.map Qe)),(3,.I e),(4,.I f),lk_ 5,lk_ 7,(11,.b x8),(13,.sl 1 (j.1.map Qu)),(15,.sl 1 (k.1.map Qu)),(78,.b (((j.1.length:Int) != (k.1.length:Int))||(j.2 != k.2)))],[(5,.var (Qa s)),(7,.var (Qf i))]⟩ (K g [2,.o (.ln j.1.length),1,.o (.ln k.1.length),2] Z Qc Qc<|bO_ ((j.1.length:Int) != (k.1.length:Int)) (λu=>G g [.S 74 (.b true),5,.S 78 (.b (((j.1.length:Int) != (k.1.length:Int))||(j.2 != k.2)))] Z ⟨(tc_ u),(cb_ (KB u Z))⟩<|M Z) λu=>G g [.S 74 (.b false),5,.S 78 (.b (((j.1.length:Int) != (k.1.length:Int))||(j.2 != k.2)))] Z ⟨(tc_ u),(cb_ (Yj u Z))⟩<|M Z)<|H g [1] Z<|I h (λO h=>J g [.T,7] Z O<|E h Z U) λO h=>J g [.F,9] Z O<|lq_ h (λst=>⟨[(1,.sl 1 (m2.map Qe)),(3,.I e),(4,.I f),lk_ 5,lk_ 7,(11,.b x8),(13,.sl 1 (j.1.map Qu)),(15,.sl 1 (k.1.map Qu)),(17,.I st)],[(5,.var (Qa s)),(7,.var (Qf i))]⟩) (λq=>(.ret,⟨[(10,.b false)],[]⟩)) (λq=>(.exit 0,⟨[(1,.sl 1 (m2.map Qe)),(3,.I e),(4,.I f),lk_ 5,lk_ 7,(11,.b x8)],[(5,.var (Qa s)),(7,.var (Qf i))]⟩)) Z (λd0 o h=>J g [5,.o (.ln j.1.length),3] Z Qc<|I h (λP h=>B h λc6 a9 h=>B h λc7 b0 h=>B h λc8 b1 h=>G g [.T,5,.K [1,3,4,5,7,11,13,15,17] [5,7]] Z (A P) <| 
  dr_ g [.N,.N,.B (.row (Qu c6)),.N,.N,.N,.B (.row (Qu c7)),.N,.B (.C2 (.b c8)),.N] [] [] [1,3,4,5,7,11,13,15,17,94] [5,7] Z Z (a3_ (QI a9) (QI b0) (QbU _ _ _ b1)) Z <|
  H g [1] Z<|I h (λa0 h=>J g [.T,8] Z a0<|rR_ h Z) λa0 h=>J g [.F,8] Z a0<|rN_ h Z) λP h=>J g [.F,2] Z P<|rX_ h Z) (λ_ h=>H g [2] Z<|E h Z U) (λ_ h=>B h λb2 b3 h=>B h λb4 b5 h=>g4_ g [4,.A (Qa s),2,.o (.C4 (.tup [.sl 4 (b2.1.map Qf),.b b2.2])),9,.A (Qa s),2,.o (.C4 (.tup [.sl 4 (b4.1.map Qf),.b b4.2])),8] Z Z (SW _ _ _ _ _ b3) Z (Qha _ _ _ _ _ b5)<|mV_ h (λa5=>⟨[(10,.b a5)],[]⟩) (λa5 h=>H g [.K [1,3,4,5,7,11,18,19,20,21] [5,7]] Z<|I h (λp h=>B h λa2 x h=>I h (λw h=>I h (λy h=>B h λb6 a3 h=>B h λb7 a4 h=>I h (λa1 h=>B h λb8 b9 h=>B h λc0 c1 h=>B h λc9 c2 h=> 
  dr_ g [.N,.E (.b true),.N,.N,.B (.C2 (.b a2)),.N,.E (.b true),.N,.N,.N,.N,.E (.b true),.E (.agg (Qa s)),.N,.E (.agg (Qf i)),.N,.B (.C4 (.I b6)),.E (.agg (Qa s)),.N,.E (.agg (Qf i)),.N,.B (.C4 (.I b7)),.N,.N,.E (.b true),.E (.agg (Qa s)),.N,.N,.B (.cd false [.d,.d,.d] 1 (b8.map Qb) b8.length),.E (.agg (Qa s)),.N,.N,.B (.cd false [.d,.d,.d] 1 (c0.map Qb) c0.length),.B (.C2 (.b c9)),.N,.N] [] [] [10] [] Z Z ⟨⟨⟨⟨⟨⟨⟨⟨⟨⟨⟨⟨⟨⟨⟨(tc_ p),(CQ _ _ _ x)⟩,(cb_ w)⟩,(cb_ y)⟩,Z⟩,Z⟩,(DJ _ _ _ _ _ a3)⟩,Z⟩,Z⟩,(Nh _ _ _ _ _ a4)⟩,(cb_ a1)⟩,Z⟩,⟨(Lv _ _ _ _ b9),Qc⟩⟩,Z⟩,⟨(TI _ _ _ _ c1),Qc⟩⟩,(Ef _ _ _ c2)⟩ Z <|
  mq_ h Z) λa1 h=> 
  dr_ g [.N,.E (.b true),.N,.N,.B (.C2 (.b a2)),.N,.E (.b true),.N,.N,.N,.N,.E (.b true),.E (.agg (Qa s)),.N,.E (.agg (Qf i)),.N,.B (.C4 (.I b6)),.E (.agg (Qa s)),.N,.E (.agg (Qf i)),.N,.B (.C4 (.I b7)),.N,.N,.E (.b false),.N,.N,.N,.N,.N,.N,.N,.N,.N,.N,.N] [] [] [10] [] Z Z ⟨⟨⟨⟨⟨⟨⟨⟨⟨⟨(tc_ p),(CQ _ _ _ x)⟩,(cb_ w)⟩,(cb_ y)⟩,Z⟩,Z⟩,(DJ _ _ _ _ _ a3)⟩,Z⟩,Z⟩,(Nh _ _ _ _ _ a4)⟩,(cb_ a1)⟩ Z <|
  mq_ h Z) λy h=> 
  dr_ g [.N,.E (.b true),.N,.N,.B (.C2 (.b a2)),.N,.E (.b true),.N,.N,.N,.N,.E (.b false),.N,.N,.N,.N,.N,.N,.N,.N,.N,.N,.N,.N,.N,.N,.N,.N,.N,.N,.N,.N,.N,.N,.N,.N] [] [] [10] [] Z Z ⟨⟨⟨(tc_ p),(CQ _ _ _ x)⟩,(cb_ w)⟩,(cb_ y)⟩ Z <|
  mq_ h Z) λw h=> 
  dr_ g [.N,.E (.b true),.N,.N,.B (.C2 (.b a2)),.N,.E (.b false),.N,.N,.N,.N,.N,.N,.N,.N,.N,.N,.N,.N,.N,.N,.N,.N,.N,.N,.N,.N,.N,.N,.N,.N,.N,.N,.N,.N,.N] [] [] [10] [] Z Z ⟨⟨(tc_ p),(CQ _ _ _ x)⟩,(cb_ w)⟩ Z <|
  mq_ h Z) λp h=> 
  dr_ g [.N,.E (.b false),.N,.N,.N,.N,.N,.N,.N,.N,.N,.N,.N,.N,.N,.N,.N,.N,.N,.N,.N,.N,.N,.N,.N,.N,.N,.N,.N,.N,.N,.N,.N,.N,.N,.N] [] [] [10] [] Z Z (tc_ p) Z <|
  mq_ h Z) λa5 h=>H g [2] Z<|E h Z U)

end Go.Proofs
