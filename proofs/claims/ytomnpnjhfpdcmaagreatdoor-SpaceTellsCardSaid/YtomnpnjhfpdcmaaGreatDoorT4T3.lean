/- Walks through the program. -/
import Derived.Test.YtomnpnjhfpdcmaaGreatDoorT4T2
set_option linter.all false
set_option maxRecDepth 100000
set_option maxHeartbeats 4000000
noncomputable section
namespace Go.Proofs
open Go Go.RowKit Go.Vm Go.Proofs.Tryz
def Ee (a:Int)(b:(L_ QMk)):O_ ((Int×(L_ QMk))⊕((L_ QMk)⊕(L_ QMk))):=some (.inl ((Qi (a+1)),b))
def FW (f:(L_ Qg))(b:Int)(D:Int)(k:Qk)(d:Int)(c:Int)(a:(L_ QMk)):O_ ((Int×(L_ QMk))⊕((L_ QMk)⊕(L_ QMk))):=
 bif (c<(f.length:Int))then
 (idx f c).bind λg=>
 bif (g.Task==b)then
 Ee c a
 else
 (idx a D).bind λh=>
 (idx f c).bind λi=>
 (PW k h i).bind λe=>
 (Bc a e.1).bind λj=>
 bif ((e.2 != 0)||j)then
 Ee c a
 else
 bif ((min2 (max2 d 0) 4096)<=(a.length:Int))then
 some (.inr (.inl a))
 else
 (chk (a.length+([e.1]:L_ QMk).length<=4294967296)).bind λ_=>
 Ee c (a++([e.1]:L_ QMk))
 else
 some (.inr (.inr a))
def OC (a:(L_ QMk)):O_ ((Int×(L_ QMk))⊕((L_ QMk)⊕(L_ QMk))):=some (.inr (.inl a))
def OD (h:Int)(a:(L_ QMk)):O_ ((Int×(L_ QMk))⊕((L_ QMk)⊕(L_ QMk))):=some (.inl ((Qi (h+1)),a))
def FX (f:Qk)(a:Int)(b:Int)(h:Int)(c:(L_ QMk)):O_ ((Int×(L_ QMk))⊕((L_ QMk)⊕(L_ QMk))):=bif (h<(c.length:Int))then (idx c h).bind λd=>(Nf f d 9223372036854775807).bind λe=>(Qu (λst=>FW e a h f b st.1 st.2) (0,c)).bind (Sum.elim (λq=>OC q) (λq=>OD h q))else some (.inr (.inr c))
def Qhv (a:(L_ QMk)):O_ ((L_ QMk)×Bool):=some (a,false)
def Qhw (a:(L_ QMk)):O_ ((L_ QMk)×Bool):=some (a,true)
def NH (c:Qk)(d:QMk)(b:Int)(a:Int):O_ ((L_ QMk)×Bool):=bif ((min2 (max2 a 0) 4096)==0)then some (([]:L_ QMk),false)else (Qu (λst=>FX c b a st.1 st.2) (0,([d]:L_ QMk))).bind (Sum.elim (λq=>Qhv q) (λq=>Qhw q))
def Qhx (x m2 e f):CT 109 [.agg (Qa x),.sl 1 (m2.map Qe),.I e,.I f] [] (NH x m2 e f) (λr=>(.tup [.sl 1 (r.1.map Qo),.b r.2])) no_:=
 W 81 func109 Z λC g r h=>H g [22] Z<|I h (λa1 h=>J g [.T,8,.denil 8 [some 1]] Z a1<|F h Z Z U) λa1 h=>g3_ g [.F,6,.O 24 (.arr 1 (([m2]:L_ QMk).map Qo)),.S 24 (.own 24 ([m2]:L_ QMk).length),10] Z a1 Z Z<|lq_ h (λst=>⟨[(2,.I e),lk_ 4,(10,.I (min2 (max2 f 0) 4096)),(11,.own 24 st.2.length),(12,.I st.1)],[(4,.var (Qa x)),(24,.arr 1 (st.2.map Qo))]⟩) (λq=>(.ret,⟨[(8,.own 24 q.length),(9,.b false)],[(24,.arr 1 (q.map Qo))]⟩)) (λq=>(.exit 0,⟨[(11,.own 24 q.length)],[(24,.arr 1 (q.map Qo))]⟩)) Z (λ⟨at_11,b3⟩ o h=>H g [9] Z<|I h (λl h=>B h λa8 z h=>B h λj a3 h=>G g [.T,5] Z (A l) <| 
  dr_ g [.E (.agg (Qa x)),.N,.N,.N,.B (.row (Qo a8)),.B (.co false [.d,.d,.d] 4 (j.map Qf) j.length),.N] [] [] [2,4,10,11,12,13] [4,24,36] Z Z (a4_ Z (Yi z Z) (XP (Yl z).2) ⟨(Qbz _ _ _ _ a3),Qc,.inl Z⟩) Z <|
  H g [7] Z<|lq_ h (λst=>⟨[(2,.I e),lk_ 4,(10,.I (min2 (max2 f 0) 4096)),(11,.own 24 st.2.length),(12,.I at_11),(13,.own 36 j.length),(14,.I st.1)],[(4,.var (Qa x)),(24,.arr 1 (st.2.map Qo)),(36,.arr 4 (j.map Qf))]⟩) (λq=>(.ret,⟨[(8,.own 24 q.length),(9,.b false)],[(24,.arr 1 (q.map Qo))]⟩)) (λq=>(.exit 2,⟨[(2,.I e),lk_ 4,(10,.I (min2 (max2 f 0) 4096)),(11,.own 24 q.length),(12,.I at_11)],[(4,.var (Qa x)),(24,.arr 1 (q.map Qo))]⟩)) Z (λ⟨a2,m⟩ o h=>H g [9] Z<|I h (λp h=>J g [.T,2] Z p<|mE_ (λs:(L_ QMk)=>⟨[(2,.I e),lk_ 4,(10,.I (min2 (max2 f 0) 4096)),(11,.own 24 s.length),(12,.I at_11),(13,.own 36 j.length),(14,.I a2)],[(4,.var (Qa x)),(24,.arr 1 (s.map Qo)),(36,.arr 4 (j.map Qf))]⟩) (λs=>Ee a2 s=some o) (B h λa9 D h=>K g [8,.o (.row (Qf a9)),4] Z (Yi D Z) (XP (Yl D).2)<|I h (λt h=>J g [.T,3] Z t<|me_ h Z) λt h=>B h λb0 P h=>B h λa4 a0 h=>B h λi a5 h=>G g [.F,3] Z (A t) <| 
  dr_ g [.E (.agg (Qa x)),.N,.N,.N,.B (.row (Qo b0)),.N,.N,.N,.a (.row (Qf a4)) (some ([],.agg (Qf a4))) false,.B (.C3 (.tup [.sl 1 (i.1.map Qe),.I i.2])),.N,.N,.N,.N,.N] [] [] [2,4,10,11,12,13,14,15,16] [4,24,36] Z Z (a7_ Z (Yi P Z) (XP (Yl P).2) (Yi a0 Z) (XP (Yl a0).2) Z (Qc1 _ _ _ _ a5)) Z <|
  B h λy a6 h=>J g [5,.o (.c true [.o (m.map Qo),.d] (.b y)),5] Z ⟨(Rr Z),(Qhu _ _ _ a6)⟩<|Y ⟨[(2,.I e),lk_ 4,(10,.I (min2 (max2 f 0) 4096)),(11,.own 24 m.length),(12,.I at_11),(13,.own 36 j.length),(14,.I a2),(15,.sl 1 (i.1.map Qe)),(70,.b ((i.2 != 0)||y))],[(4,.var (Qa x)),(24,.arr 1 (m.map Qo)),(36,.arr 4 (j.map Qf))]⟩ (H g [4] Z<|bO_ (i.2 != 0) (λk=>G g [.S 68 (.b true),3,.S 70 (.b ((i.2 != 0)||y))] Z ⟨(tc_ k),(cb_ (KF k Z))⟩<|M Z) λk=>G g [.S 68 (.b false),3,.S 70 (.b ((i.2 != 0)||y))] Z ⟨(tc_ k),(cb_ (Yu k Z))⟩<|M Z)<|H g [1] Z<|I h (λu h=>J g [.T,3] Z u<|me_ h Z) λu h=>J g [.F,11] Z u<|I h (λw h=>J g [.T,11] Z w<|rR_ h Z) λw h=>X h λa7 h=>g3_ g [.F,5,.v (.bd []) [] (.sl 1 (([i.1]:L_ QMk).map Qo)),.app ((m++([i.1]:L_ QMk)).map Qo) (m++([i.1]:L_ QMk)).length,3] Z w Z ⟨Qc,XU a7 Qc,Xu,Yc Qc⟩<|me_ h Z) λs h=>H g [5] Z<|rN_ h Z) λp h=>J g [.F,2] Z p<|rX_ h Z) (λb4 h=>H g [3] Z<|rR_ h Z) (λb5 h=>H g [8] Z<|rN_ h Z)) λl h=>J g [.F,2] Z l<|rX_ h Z) (λb1 h=>J g [2,.frz 24 (b1.map Qo) [8] []] Z (A (Ye Qc))<|F h Z Z U) (λb2 h=>J g [10,.frz 24 (b2.map Qo) [8] []] Z (A (Ye Qc))<|F h Z Z U)
def FY (b:Int)(a:LI_):O_ ((Int×LI_)⊕LI_):=some (.inl ((Qi (b+1)),a))
def Zm (h:Bool)(e:Qk)(a:Int)(b:Int)(f:Int):O_ Bool:=bif h then some true else (idx e.Tasks a).bind λc=>(idx c.Ins b).bind λd=>some (d.Place==f)
def Zn (a:Int)(h:Bool):O_ ((Bool×Int)⊕Bool):=some (.inl (h,(Qi (a+1))))
def OE (d:Qk)(a:Int)(e:Int)(h:Bool)(b:Int):O_ ((Bool×Int)⊕Bool):=(idx d.Tasks a).bind λc=>bif (b<(c.Ins.length:Int))then (Zm h d a b e).bind (λD=>Zn b D)else some (.inr h)
def Zo (h:Bool)(b:QMk)(c:Int):O_ Bool:=bif h then (idx b c).bind λa=>some ((a.length:Int)==0)else some false
def Zp (b:LI_)(a:Int)(c:Bool):O_ ((Int×LI_)⊕LI_):=bif c then (chk (b.length+([a]:L_ Int).length<=4294967296)).bind λ_=>FY a (b++([a]:L_ Int))else FY a b
def OF (c:QMk)(b:Int)(d:LI_)(h:Bool):O_ ((Int×LI_)⊕LI_):=(Zo h c b).bind (λa=>Zp d b a)
def Ak (c:QMk)(a:Int)(d:Qk)(b:Int)(e:LI_):O_ ((Int×LI_)⊕LI_):=bif ((b<(c.length:Int))&&((0<=a)&&(a<(d.Tasks.length:Int))))then (Qu (λst=>OE d a b st.1 st.2) (false,0)).bind (λq=>OF c b e q)else some (.inr e)
def Al (a:LI_):O_ LI_:=some a
def Hs (b:Qk)(c:QMk)(a:Int):O_ LI_:=(Qu (λst=>Ak c a b st.1 st.2) (0,([]:L_ Int))).bind (λq=>Al q)
def Qhy (i f a):CT 110 [.agg (Qa i),.sl 1 (f.map Qe),.I a] [] (Hs i f a) (λr=>(.own 600 r.length)) (λr=>[(600,.arr 1 (r.map Qb))]):=
 W 68 func110 Z λC c r h=>K c [18,.adopt 7 63 1,.O 63 (.arr 1 (([]:L_ Int).map Qb)),.S 7 (.own 63 ([]:L_ Int).length)] Z Z (congrArg (λn=>V.own 63 n) (by simp))<|lp_ h (λst=>⟨[(1,.sl 1 (f.map Qe)),(2,.I a),lk_ 3,(7,.own 63 st.2.length),(8,.I st.1)],[(3,.var (Qa i)),(63,.arr 1 (st.2.map Qb))]⟩) (λq=>(.exit 0,⟨[(7,.own 63 q.length)],[(63,.arr 1 (q.map Qb))]⟩)) Z (λ⟨g,j⟩ o h=>H c [2] Z<|Y ⟨[(1,.sl 1 (f.map Qe)),(2,.I a),lk_ 3,(7,.own 63 j.length),(8,.I g),(25,.b ((g<(f.length:Int))&&((0<=a)&&(a<(i.Tasks.length:Int)))))],[(3,.var (Qa i)),(63,.arr 1 (j.map Qb))]⟩ (J c [3,.o (.ln f.length),2] Z Qc<|bO_ (decide (g<(f.length:Int))) (λd=>L c [.S 15 (.b true),4] Z d<|bO_ (decide (0<=a)) (λe=>G c [.S 19 (.b true),3,.o (.ln i.Tasks.length),3,.S 25 (.b ((g<(f.length:Int))&&((0<=a)&&(a<(i.Tasks.length:Int)))))] Z ⟨⟨(tc_ e),Qc⟩,(cb_ (XS d (XS e Z)))⟩<|M Z) λe=>G c [.S 19 (.b false),7,.S 25 (.b ((g<(f.length:Int))&&((0<=a)&&(a<(i.Tasks.length:Int)))))] Z ⟨(tc_ e),(cb_ (XS d (Yt e Z)))⟩<|M Z) λd=>G c [.S 15 (.b false),11,.S 25 (.b ((g<(f.length:Int))&&((0<=a)&&(a<(i.Tasks.length:Int)))))] Z ⟨(tc_ d),(cb_ (Yt d Z))⟩<|M Z)<|H c [1] Z<|I h (λk h=>J c [.T,2] Z k<|mE_ (λl:LI_=>⟨[(1,.sl 1 (f.map Qe)),(2,.I a),lk_ 3,(7,.own 63 l.length),(8,.I g)],[(3,.var (Qa i)),(63,.arr 1 (l.map Qb))]⟩) (λl=>FY g l=some o) (H c [13] Z<|lp_ h (λst=>⟨[(1,.sl 1 (f.map Qe)),(2,.I a),lk_ 3,(7,.own 63 j.length),(8,.I g),(9,.b st.1),(10,.I st.2)],[(3,.var (Qa i)),(63,.arr 1 (j.map Qb))]⟩) (λq=>(.exit 2,⟨[(1,.sl 1 (f.map Qe)),(2,.I a),lk_ 3,(7,.own 63 j.length),(8,.I g),(9,.b q)],[(3,.var (Qa i)),(63,.arr 1 (j.map Qb))]⟩)) Z (λ⟨in_16,a0⟩ o h=>B h λw x h=>K c [7,.o (.row (Qh w)),2,.o (.ln w.Ins.length),3] Z (QF x) Qc<|I h (λm h=>J c [.T,4] Z m<|mV_ h (λin_23=>⟨[(1,.sl 1 (f.map Qe)),(2,.I a),lk_ 3,(7,.own 63 j.length),(8,.I g),(9,.b in_23),(10,.I a0)],[(3,.var (Qa i)),(63,.arr 1 (j.map Qb))]⟩) (λin_23 h=>H c [3] Z<|I h (λp h=>L c [.S 40 (.b true),15] Z p<|mq_ h Z) λp h=>B h λa1 y h=>B h λa2 z h=>G c [.S 40 (.b false),3,.o (.row (Qh a1)),3,.o (.row (Xm a2)),7] Z ⟨⟨(tc_ p),(QF y)⟩,(QF z)⟩<|mq_ h Z) λin_23 h=>H c [7] Z<|rN_ h Z) λm h=>J c [.F,2] Z m<|rX_ h Z) λin_20 h=>H c [3] Z<|mV_ h (λu=>⟨[(1,.sl 1 (f.map Qe)),(2,.I a),lk_ 3,(7,.own 63 j.length),(8,.I g),(62,.b u)],[(3,.var (Qa i)),(63,.arr 1 (j.map Qb))]⟩) (λu h=>H c [3] Z<|I h (λs h=>B h λD N h=>G c [.S 55 (.b true),2,.o (.row (Qe D)),1,.o (.ln D.length),3] Z ⟨⟨(tc_ s),(QF N)⟩,Qc⟩<|mq_ h Z) λs h=>L c [.S 55 (.b false),8] Z s<|mq_ h Z) λu h=>H c [1] Z<|I h (λt h=>X h λP h=>g3_ c [.T,3,.v (.bd []) [] (.sl 1 (([g]:L_ Int).map Qb)),.app ((j++([g]:L_ Int)).map Qb) (j++([g]:L_ Int)).length,3] Z t Z ⟨Qc,XU P Qc,Xu,Yc Qc⟩<|me_ h Z) λt h=>J c [.F,2] Z t<|me_ h Z) λl h=>H c [5] Z<|rN_ h Z) λk h=>J c [.F,2] Z k<|rX_ h Z) λa3 h=>H c [9,.K [6] [63],.ren 63 600] Z<|E h Z r1_
def FZ (b:LI_)(c:((L_ QMk)×Bool))(d:Int)(a:Int):O_ (Int⊕(Unit⊕Unit)):=bif (a<(b.length:Int))then (idx c.1 d).bind λe=>(idx b a).bind λf=>(idx e f).bind λg=>bif (0<(g.length:Int))then some (.inr (.inl ()))else some (.inl (Qi (a+1)))else some (.inr (.inr ()))
def Qhz : O_ (Int⊕(Unit⊕Unit)):=some (.inr (.inl ()))
def QhA (a:Int):O_ (Int⊕(Unit⊕Unit)):=some (.inl (Qi (a+1)))
def Ha (b:((L_ QMk)×Bool))(c:LI_)(a:Int):O_ (Int⊕(Unit⊕Unit)):=bif (a<(b.1.length:Int))then (Qu (λst=>FZ c b a st) 0).bind (Sum.elim (λq=>Qhz) (λq=>QhA a))else some (.inr (.inr ()))
def Zq : O_ Int:=some 0
def OG (a:((L_ QMk)×Bool)):O_ Int:=bif a.2 then some 1 else some 2
def NI (c:Qk)(e:QMk)(d:Qg)(a:Int):O_ Int:=(Ba c e d).bind λg=>bif (g != 0)then some 0 else (idx c.Tasks d.Task).bind λh=>bif (h.Join != 3)then some 1 else (NH c e d.Task a).bind λb=>(Hs c e d.Task).bind λf=>(Qu (λst=>Ha b f st) 0).bind (Sum.elim (λq=>Zq) (λq=>OG b))
def QhB (u m2 P g):CT 65 [.agg (Qa u),.sl 1 (m2.map Qe),.agg (Qf P),.I g] [] (NI u m2 P g) V.I no_:=
 W 66 func65 Z λC e r h=>B h λx7 S h=>g3_ e [10,.A (Qa u),1,.A (Qf P),.o (.C3 (.I x7)),3] Z Z Z (OB _ _ _ _ S)<|I h (λt h=>J e [.T,7] Z t<|E h Z U) λt h=>B h λe9 a0 h=>K e [.F,9,.o (.row (Qh e9)),5] Z t (QF a0)<|I h (λj h=>J e [.T,7] Z j<|E h Z U) λj h=>B h λf w h=>B h λi x h=>G e [.F,4,.A (Qa u),4,.o (.C4 (.tup [.sl 1 (f.1.map Qo),.b f.2])),9,.A (Qa u),3,.o (.co false [.d,.d,.d] 1 (i.map Qb) i.length),10] Z (a5_ j Z (Qhx _ _ _ _ _ w) Z ⟨(Qhy _ _ _ _ x),Qc,.inl Z⟩)<|lq_ h (λst=>⟨[(9,.sl 1 (f.1.map Qo)),(10,.b f.2),(11,.own 40 i.length),(12,.I st)],[(40,.arr 1 (i.map Qb))]⟩) (λq=>(.ret,⟨[(8,.I 0)],[]⟩)) (λq=>(.exit 0,⟨[(10,.b f.2)],[]⟩)) Z (λy o h=>J e [5,.o (.ln f.1.length),3] Z Qc<|I h (λk h=>J e [.T,10] Z k<|lq_ h (λst=>⟨[(9,.sl 1 (f.1.map Qo)),(10,.b f.2),(11,.own 40 i.length),(12,.I y),(13,.I st)],[(40,.arr 1 (i.map Qb))]⟩) (λq=>(.ret,⟨[(8,.I 0)],[]⟩)) (λq=>(.exit 2,⟨[(9,.sl 1 (f.1.map Qo)),(10,.b f.2),(11,.own 40 i.length),(12,.I y)],[(40,.arr 1 (i.map Qb))]⟩)) Z (λa3 o h=>H e [9] Z<|I h (λl h=>B h λa1 z h=>B h λa2 s h=>B h λD O h=>G e [.T,5] Z (A l) <| 
  dr_ e [.N,.N,.B (.row (Qo a1)),.N,.N,.N,.N,.B (.row (Qb a2)),.B (.row (Qe D)),.N,.B (.ln D.length),.N] [] [] [9,10,11,12,13,64] [40] Z Z (a5_ (QF z) (Yi s Z) (XP (Yl s).2) (QF O) Qc) Z <|
  H e [1] Z<|I h (λm h=>J e [.T,8] Z m<|rR_ h Z) λm h=>J e [.F,8] Z m<|rN_ h Z) λl h=>J e [.F,2] Z l<|rX_ h Z) (λ_ h=>H e [3] Z<|rR_ h Z) (λ_ h=>H e [8] Z<|rN_ h Z)) λk h=>J e [.F,2] Z k<|rX_ h Z) (λ_ h=>H e [2] Z<|E h Z U) (λ_ h=>H e [8] Z<|I h (λp h=>J e [.T,7] Z p<|E h Z U) λp h=>J e [.F,8] Z p<|E h Z U)
def IE (b:Int)(a:Bool)(c:(L_ Qg)):O_ ((Bool×Int×(L_ Qg))⊕(Bool×(L_ Qg))):=some (.inl (a,(Qi (b+1)),c))
def ES (d:Int)(b:Int)(a:Bool)(c:(L_ Qg)):O_ ((Bool×Int×(L_ Qg))⊕(Bool×(L_ Qg))):=bif (d==2)then IE b false c else IE b a c
def ET (g:(L_ Qg))(i:Qk)(j:QMk)(b:Int)(a:Bool)(c:Int)(d:(L_ Qg)):O_ ((Bool×Int×(L_ Qg))⊕(Bool×(L_ Qg))):=bif (c<(g.length:Int))then (idx g c).bind λh=>(NI i j h b).bind λe=>bif (e==1)then (idx g c).bind λf=>(chk (d.length+([f]:L_ Qg).length<=4294967296)).bind λ_=>ES e c a (d++([f]:L_ Qg))else ES e c a d else some (.inr (a,d))
def Qi5 (a:Bool)(b:(L_ Qg)):O_ ((L_ Qg)×Bool):=some (b,a)
def PY (c:Qk)(d:QMk)(a:Int)(b:Int):O_ ((L_ Qg)×Bool):=(Nf c d b).bind λe=>(Qu (λst=>ET e c d a st.1 st.2.1 st.2.2) (true,0,([]:L_ Qg))).bind (λq=>Qi5 q.1 q.2)
def Qi6 (z P e j):CT 42 [.agg (Qa z),.sl 1 (P.map Qe),.I e,.I j] [] (PY z P e j) (λr=>(.tup [.sl 4 (r.1.map Qf),.b r.2])) no_:=
 W 46 func42 Z λC i r h=>B h λw a5 h=>g4_ i [9,.A (Qa z),2,.o (.co false [.d,.d,.d] 4 (w.map Qf) w.length),20,.adopt 11 35 4,.O 35 (.arr 4 (([]:L_ Qg).map Qf)),.S 11 (.own 35 ([]:L_ Qg).length)] Z Z ⟨(Qbz _ _ _ _ a5),Qc,.inl Z⟩ Z (congrArg (λn=>V.own 35 n) (by simp))<|lp_ h (λst=>⟨[(1,.sl 1 (P.map Qe)),(2,.I e),lk_ 4,(10,.own 18 w.length),(11,.own 35 st.2.2.length),(12,.b st.1),(13,.I st.2.1)],[(4,.var (Qa z)),(18,.arr 4 (w.map Qf)),(35,.arr 4 (st.2.2.map Qf))]⟩) (λq=>(.exit 0,⟨[(11,.own 35 q.2.length),(12,.b q.1)],[(35,.arr 4 (q.2.map Qf))]⟩)) Z (λ⟨g,u,a0⟩ o h=>H i [9] Z<|I h (λk h=>J i [.T,2] Z k<|mF_ (λ(f:Bool) (l:(L_ Qg))=>⟨[(1,.sl 1 (P.map Qe)),(2,.I e),lk_ 4,(10,.own 18 w.length),(11,.own 35 l.length),(12,.b f),(13,.I u)],[(4,.var (Qa z)),(18,.arr 4 (w.map Qf)),(35,.arr 4 (l.map Qf))]⟩) (λf l=>IE u f l=some o) (B h λa1 x h=>B h λD a2 h=>H i [2] Z <| 
  dr_ i [.E (.agg (Qa z)),.N,.N,.N,.N,.a (.row (Qf a1)) (some ([],.agg (Qf a1))) false,.N,.B (.C4 (.I D)),.N] [] [] [1,2,4,10,11,12,13,14] [4,18,35] Z Z (a5_ Z (Yi x Z) (XP (Yl x).2) Z (QhB _ _ _ _ _ a2)) Z <|
  H i [1] Z<|mE_ (λm:(L_ Qg)=>⟨[(1,.sl 1 (P.map Qe)),(2,.I e),lk_ 4,(10,.own 18 w.length),(11,.own 35 m.length),(12,.b g),(13,.I u),(14,.I D)],[(4,.var (Qa z)),(18,.arr 4 (w.map Qf)),(35,.arr 4 (m.map Qf))]⟩) (λm=>ES D u g m=some o) (H i [6] Z<|I h (λp h=>B h λs y h=>X h λa3 h=>G i [.T,5,.v (.row (Qf s)) [] (.agg (Qf s)),.v (.bd []) [] (.sl 4 (([s]:L_ Qg).map Qf)),.app ((a0++([s]:L_ Qg)).map Qf) (a0++([s]:L_ Qg)).length,2] Z (a6_ p (Yi y Z) (XP (Yl y).2) Z Z ⟨Qc,XU a3 Qc,Xu,Yc Qc⟩)<|me_ h Z) λp h=>J i [.F,1] Z p<|me_ h Z) λm h=>H i [6] Z<|I h (λt h=>J i [.T,4] Z t<|mf_ h Z) λt h=>J i [.F,2] Z t<|mf_ h Z) λf l h=>H i [5] Z<|rN_ h Z) λk h=>J i [.F,2] Z k<|rX_ h Z) λ⟨a4,a6⟩ h=>J i [11,.frz 35 (a6.map Qf) [8] []] Z (A (Ye Qc))<|F h Z Z U
def BG (d:(L_ QMk))(e:QMk)(a:Int):O_ (Int⊕(Int⊕Unit)):=bif (a<(d.length:Int))then (idx d a).bind λb=>(Gj b e).bind λc=>bif c then some (.inr (.inl a))else some (.inl (Qi (a+1)))else some (.inr (.inr ()))
def Qeg (a:Int):O_ Int:=some a
def Qeh : O_ Int:=some (-1)
def BH (a:(L_ QMk))(c:(L_ QY))(d:Bool)(b:QMk):O_ Int:=(Qu (λst=>BG a b st) 0).bind (Sum.elim (λq=>Qeg q) (λq=>Qeh))
def Qei (f g l m):CT 44 [.agg [.own 620 f.length,.own 621 g.length,.b l],.sl 1 (m.map Qe)] [(620,.arr 1 (f.map Qo)),(621,.arr 6 (g.map QS))] (BH f g l m) V.I (λ_=>[(620,.arr 1 (f.map Qo)),(621,.arr 6 (g.map QS))]):=
 W 23 func44 Z λC i r h=>H i [13] Z<|lq_ h (λst=>⟨[(1,.sl 1 (m.map Qe)),lk_ 2,(5,.I st)],[(2,.var [.own 620 f.length,.own 621 g.length,.b l]),(620,.arr 1 (f.map Qo)),(621,.arr 6 (g.map QS))]⟩) (λq=>(.ret,⟨[(4,.I q)],[(620,.arr 1 (f.map Qo)),(621,.arr 6 (g.map QS))]⟩)) (λq=>(.exit 0,⟨[],[(620,.arr 1 (f.map Qo)),(621,.arr 6 (g.map QS))]⟩)) Z (λt o h=>H i [10] Z<|I h (λa h=>B h λp j h=>B h λs k h=>g4_ i [.T,10,.o (.row (Qo p)),1,.o (.C2 (.b s)),8] Z a (Yi j Z) (XP (Yl j).2) (QaF _ _ _ k)<|I h (λe h=>J i [.T,9] Z e<|rR_ h Z) λe h=>J i [.F,8] Z e<|rN_ h Z) λa h=>J i [.F,2] Z a<|rX_ h Z) (λu h=>H i [2] Z<|E h Z r2_) (λ_ h=>H i [8] Z<|E h Z r2_)
def BI (h:Int)(a:Bool)(b:(L_ QMk))(c:(L_ QY)):O_ ((Int×Bool×(L_ QMk)×(L_ QY))⊕(Bool×(L_ QMk)×(L_ QY))):=some (.inl ((Qi (h+1)),a,b,c))
def Gk (a:Int)(b:Bool)(c:(L_ QMk))(d:(L_ QY)):O_ ((Int×Bool×(L_ QMk)×(L_ QY))⊕(Bool×(L_ QMk)×(L_ QY))):=some (.inl ((Qi (a+1)),b,c,d))
def BJ (e:((L_ Qg)×Bool))(a:Int)(b:(L_ QY))(h:Int)(f:Bool)(c:Int)(g:(L_ QMk)):O_ ((Int×Bool×(L_ QMk)×(L_ QY))⊕(Bool×(L_ QMk)×(L_ QY))):=(idx e.1 a).bind λd=>(chk (b.length+([(QY.mk h c d)]:L_ QY).length<=4294967296)).bind λ_=>Gk a f g (b++[(QY.mk h c d)])
def EU (e:((L_ Qg)×Bool))(D:Int)(k:Qk)(d:Int)(b:Int)(f:Bool)(a:(L_ QMk))(c:(L_ QY)):O_ ((Int×Bool×(L_ QMk)×(L_ QY))⊕(Bool×(L_ QMk)×(L_ QY))):=bif (b<(e.1.length:Int))then (idx a D).bind λi=>(idx e.1 b).bind λj=>(PW k i j).bind λg=>bif (g.2 != 0)then Gk b false a c else (BH a c f g.1).bind λh=>bif (h<0)then bif ((min2 (max2 d 0) 4096)<=(a.length:Int))then Gk b false a c else (chk (a.length+([g.1]:L_ QMk).length<=4294967296)).bind λ_=>BJ e b c D f (a.length:Int) (a++([g.1]:L_ QMk))else BJ e b c D f h a else some (.inr (f,a,c))
def BK (h:Int)(a:Bool)(b:(L_ QMk))(c:(L_ QY)):O_ ((Int×Bool×(L_ QMk)×(L_ QY))⊕(Bool×(L_ QMk)×(L_ QY))):=BI h a b c
def Gl (b:((L_ Qg)×Bool))(h:Int)(f:Qk)(a:Int)(c:(L_ QMk))(d:(L_ QY))(e:Bool):O_ ((Int×Bool×(L_ QMk)×(L_ QY))⊕(Bool×(L_ QMk)×(L_ QY))):=(Qu (λst=>EU b h f a st.1 st.2.1 st.2.2.1 st.2.2.2) (0,e,c,d)).bind (λq=>BK h q.1 q.2.1 q.2.2)
def BL (c:Int)(g:Qk)(a:Int)(D:Int)(f:Bool)(b:(L_ QMk))(d:(L_ QY)):O_ ((Int×Bool×(L_ QMk)×(L_ QY))⊕(Bool×(L_ QMk)×(L_ QY))):=bif (D<(b.length:Int))then (idx b D).bind λh=>(ND h).bind λi=>bif (c<i)then BI D false b d else (idx b D).bind λj=>(PY g j a 9223372036854775807).bind λe=>bif (!e.2)then Gl e D g a b d false else Gl e D g a b d f else some (.inr (f,b,d))
def QaG (a:Bool)(b:(L_ QMk))(c:(L_ QY)):O_ XV:=some (XV.mk b c a)
def PZ (c:Qk)(d:QMk)(a:Int)(b:Int):O_ XV:=bif ((min2 (max2 a 0) 4096)==0)then some (XV.mk ([]:(L_ QMk)) ([]:(L_ QY)) false)else (Qu (λst=>BL b c a st.1 st.2.1 st.2.2.1 st.2.2.2) (0,true,([d]:L_ QMk),([]:L_ QY))).bind (λq=>QaG q.1 q.2.1 q.2.2)
def Qi7 (t m2 f g):CT 21 [.agg (Qa t),.sl 1 (m2.map Qe),.I f,.I g] [] (PZ t m2 f g) (λr=>(.agg (QO r))) no_:=by
 refine W 113 func21 rfl λC i r h=>?_
 refine tg_ i [21] ?_
 refine bg_ h (λb4 h=>Qx i [.T,2,.v .no [some 1,some 6,none] (.agg (QO (XV.mk ([]:(L_ QMk)) ([]:(L_ QY)) false))),1,.O 8 (.var (QO (XV.mk ([]:(L_ QMk)) ([]:(L_ QY)) false))),4,.K [8] [8]] rfl (a3_ b4 rfl rfl) ?_) λb4 h=>Qx i [.F,6,.O 25 (.arr 1 (([m2]:L_ QMk).map Qo)),.S 25 (.own 25 ([m2]:L_ QMk).length),.A [.own 25 ([m2]:L_ QMk).length,.Y,.b true],2,.O 10 (.var [.own 25 ([m2]:L_ QMk).length,.Y,.b true]),9,.adoptO 10 1 609 6,.O 609 (.arr 6 (([]:L_ QY).map QS)),.O 10 (.var [.own 25 ([m2]:L_ QMk).length,.own 609 ([]:L_ QY).length,.b true]),.K [2,3,4,8,9,10,11] [4,8,10,25,609]] rfl (a7_ b4 rfl rfl rfl rfl rfl (congrArg (λn=>Ob.var [.own 25 ([m2]:L_ QMk).length,.own 609 n,.b true]) (by simp))) ?_
 ·cases h
  exact AK.done (ex_ [_] (an_ (an_ (ex_ _ (ex_ _ (an_ Z (an_ Z (Or.inl (an_ (QG.ag Z) (an_ (QG.sz Z) Z))))))) U) (gives U)))
 obtain⟨d2,c0,h⟩:=Qv h
 refine AK.loop (body:=(λst=>BL g t f st.1 st.2.1 st.2.2.1 st.2.2.2)) (λst σ=>σ=⟨[(2,.I f),(3,.I g),lk_ 4,lk_ 8,(9,.I (min2 (max2 f 0) 4096)),lk_ 10,(11,.I st.1)],[(4,.var (Qa t)),(8,.var [.Y,.Y,.b false]),(10,.var [.own 25 st.2.2.1.length,.own 609 st.2.2.2.length,.b st.2.1]),(25,.arr 1 (st.2.2.1.map Qo)),(609,.arr 6 (st.2.2.2.map QS))]⟩) (λq e σ=>e=.exit 0/\σ=⟨[lk_ 8,lk_ 10],[(8,.var [.Y,.Y,.b false]),(10,.var [.own 25 q.2.1.length,.own 609 q.2.2.length,.b q.1]),(25,.arr 1 (q.2.1.map Qo)),(609,.arr 6 (q.2.2.map QS))]⟩) c0 rfl ?_ ?_
 ·rintro ⟨at_9,e2,x,y⟩ o σ rfl h
  refine tg_ i [10] ?_
  refine bq_ i h [.T,2] rfl (λz h=>?_) [.F,2,.K [8,10] [8,10,25,609]] rfl λz h=>?_
  ·refine AK.meet (λσ=>∃b5:Bool,∃a5:(L_ QMk),∃a6:(L_ QY),σ=⟨[(2,.I f),(3,.I g),lk_ 4,lk_ 8,(9,.I (min2 (max2 f 0) 4096)),lk_ 10,(11,.I at_9)],[(4,.var (Qa t)),(8,.var [.Y,.Y,.b false]),(10,.var [.own 25 a5.length,.own 609 a6.length,.b b5]),(25,.arr 1 (a5.map Qo)),(609,.arr 6 (a6.map QS))]⟩/\BI at_9 b5 a5 a6=some o) ?_ ?_
   ·obtain⟨d3,b1,h⟩:=Qv h
    obtain⟨d4,c1,h⟩:=Qv h
    refine Qx i [8,.o (.row (Qo d3)),.o (.C1 (.I d4)),4] Z (a3_ (Yi b1 Z) (XP (Yl b1).2) (Qg5 _ _ c1)) ?_
    rcases Xy h with⟨D,h⟩|⟨D,h⟩
    ·refine Qx i [.T,4,.O 10 (.var [.own 25 x.length,.own 609 y.length,.b false]),5,.K [2,3,4,8,9,10,11] [4,8,10,25,609]] Z (a2_ D Z) ?_
     exact AK.met (ex_ _ (ex_ _ (ex_ _ (an_ Z h))))
    obtain⟨d5,b2,h⟩:=Qv h
    obtain⟨j,c2,h⟩:=Qv h
    refine Qx i [.F,3,.K [2,3,4,8,9,10,11] [4,8,10,25,609]] Z (A D) ?_
    refine AK.draw2 QG i mixed [.E (.agg (Qa t)),.N,.N,.N,.N,.B (.row (Qo d5)),.N,.B (.C4 (.tup [.sl 4 (j.1.map Qf),.b j.2])),.N,.N,.N,.N,.N] [] [] [2,3,4,8,9,10,11,12,13] [4,8,10,25,609] rfl rfl rfl ⟨⟨⟨⟨U,rfl⟩,(Yi b2 rfl)⟩,(XP (Yl b2).2)⟩,(Qi6 _ _ _ _ _ c2)⟩ rfl (by kernel_rfl) rfl rfl rfl ?_
    refine tg_ i [1] ?_
    refine AK.meet (λσ=>∃b6:Bool,σ=⟨[(2,.I f),(3,.I g),lk_ 4,lk_ 8,(9,.I (min2 (max2 f 0) 4096)),lk_ 10,(11,.I at_9),(12,.sl 4 (j.1.map Qf))],[(4,.var (Qa t)),(8,.var [.Y,.Y,.b false]),(10,.var [.own 25 x.length,.own 609 y.length,.b b6]),(25,.arr 1 (x.map Qo)),(609,.arr 6 (y.map QS))]⟩/\Gl j at_9 t f x y b6=some o) ?_ ?_
    ·refine tg_ i [6] ?_
     refine bg_ h (λP h=>Qx i [.T,3,.O 10 (.var [.own 25 x.length,.own 609 y.length,.b false]),1,.K [2,3,4,8,9,10,11,12] [4,8,10,25,609]] rfl (a2_ P rfl) ?_) λP h=>Qx i [.F,1,.K [2,3,4,8,9,10,11,12] [4,8,10,25,609]] rfl (A P) ?_
     ·exact AK.met (ex_ _ (an_ Z h))
     exact AK.met (ex_ _ (an_ Z h))
    rintro σ ⟨b6,rfl,h⟩
    refine tg_ i [6,.K [2,3,4,8,9,10,11,12,14] [4,8,10,25,609]] ?_
    obtain⟨d6,c3,h⟩:=Qv h
    refine AK.loop (body:=(λst=>EU j at_9 t f st.1 st.2.1 st.2.2.1 st.2.2.2)) (λst σ=>σ=⟨[(2,.I f),(3,.I g),lk_ 4,lk_ 8,(9,.I (min2 (max2 f 0) 4096)),lk_ 10,(11,.I at_9),(12,.sl 4 (j.1.map Qf)),(14,.I st.1)],[(4,.var (Qa t)),(8,.var [.Y,.Y,.b false]),(10,.var [.own 25 st.2.2.1.length,.own 609 st.2.2.2.length,.b st.2.1]),(25,.arr 1 (st.2.2.1.map Qo)),(609,.arr 6 (st.2.2.2.map QS))]⟩) (λq e σ=>e=.exit 2/\σ=⟨[(2,.I f),(3,.I g),lk_ 4,lk_ 8,(9,.I (min2 (max2 f 0) 4096)),lk_ 10,(11,.I at_9)],[(4,.var (Qa t)),(8,.var [.Y,.Y,.b false]),(10,.var [.own 25 q.2.1.length,.own 609 q.2.2.length,.b q.1]),(25,.arr 1 (q.2.1.map Qo)),(609,.arr 6 (q.2.2.map QS))]⟩) c3 rfl ?_ ?_
    ·rintro ⟨a7,a8,u,k⟩ o σ rfl h
     refine Qx i [5,.o (.ln j.1.length),3] Z (A Qc) ?_
     refine bq_ i h [.T,2] rfl (λa0 h=>?_) [.F,2,.K [2,3,4,8,9,10,11] [4,8,10,25,609]] rfl λa0 h=>?_
     ·refine AK.meet (λσ=>∃b7:Bool,∃a9:(L_ QMk),∃b0:(L_ QY),σ=⟨[(2,.I f),(3,.I g),lk_ 4,lk_ 8,(9,.I (min2 (max2 f 0) 4096)),lk_ 10,(11,.I at_9),(12,.sl 4 (j.1.map Qf)),(14,.I a7)],[(4,.var (Qa t)),(8,.var [.Y,.Y,.b false]),(10,.var [.own 25 a9.length,.own 609 b0.length,.b b7]),(25,.arr 1 (a9.map Qo)),(609,.arr 6 (b0.map QS))]⟩/\Gk a7 b7 a9 b0=some o) ?_ ?_
      ·obtain⟨d7,b3,h⟩:=Qv h
       obtain⟨c4,c5,h⟩:=Qv h
       obtain⟨w,c6,h⟩:=Qv h
       refine tg_ i [2,.K [2,3,4,8,9,10,11,12,14] [4,8,10,25,609]] ?_
       refine AK.draw2 QG i mixed [.E (.agg (Qa t)),.N,.N,.N,.N,.B (.row (Qo d7)),.N,.N,.B (.row (Qf c4)),.E (.agg (Qf c4)),.B (.C3 (.tup [.sl 1 (w.1.map Qe),.I w.2])),.N,.N,.N,.N,.N] [] [] [2,3,4,8,9,10,11,12,14,15,16] [4,8,10,25,609] rfl rfl rfl ⟨⟨⟨⟨⟨⟨U,rfl⟩,(Yi b3 rfl)⟩,(XP (Yl b3).2)⟩,(QF c5)⟩,rfl⟩,(Qc1 _ _ _ _ c6)⟩ rfl (by kernel_rfl) rfl rfl rfl ?_
       refine tg_ i [8] ?_
       rcases Xy h with⟨a1,h⟩|⟨a1,h⟩
       ·refine Qx i [.T,4,.O 10 (.var [.own 25 u.length,.own 609 k.length,.b false]),5,.K [2,3,4,8,9,10,11,12,14] [4,8,10,25,609]] Z (a2_ a1 Z) ?_
        exact AK.met (ex_ _ (ex_ _ (ex_ _ (an_ Z h))))
       obtain⟨d8,c7,h⟩:=Qv h
       refine Qx i [.F,6,.cm (.fn) [(620,25),(621,609)] [(25,620),(609,621)] [] [.d,.d] [(620,.arr 1 (u.map Qo)),(621,.arr 6 (k.map QS))] (.I d8),3] Z (a2_ a1 (Qei _ _ _ _ _ c7)) ?_
       refine AK.meet (λσ=>∃l:Int,∃a2:(L_ QMk),σ=⟨[(2,.I f),(3,.I g),lk_ 4,lk_ 8,(9,.I (min2 (max2 f 0) 4096)),lk_ 10,(11,.I at_9),(12,.sl 4 (j.1.map Qf)),(14,.I a7),(17,.I l)],[(4,.var (Qa t)),(8,.var [.Y,.Y,.b false]),(10,.var [.own 25 a2.length,.own 609 k.length,.b a8]),(25,.arr 1 (a2.map Qo)),(609,.arr 6 (k.map QS))]⟩/\BJ j a7 k at_9 a8 l a2=some o) ?_ ?_
       ·refine tg_ i [6] ?_
        refine bq_ i h [.T,10] rfl (λa3 h=>?_) [.F,1,.K [2,3,4,8,9,10,11,12,14,17] [4,8,10,25,609]] rfl λa3 h=>?_
        ·rcases Xy h with⟨a4,h⟩|⟨a4,h⟩
         ·refine Qx i [.T,4,.O 10 (.var [.own 25 u.length,.own 609 k.length,.b false]),6,.K [2,3,4,8,9,10,11,12,14] [4,8,10,25,609]] Z (a2_ a4 Z) ?_
          exact AK.met (ex_ _ (ex_ _ (ex_ _ (an_ Z h))))
         obtain⟨c8,h⟩:=Qcj h
         refine Qx i [.F,14,.v (.bd []) [] (.sl 1 (([w.1]:L_ QMk).map Qo)),.app ((u++([w.1]:L_ QMk)).map Qo) (u++([w.1]:L_ QMk)).length,2,.O 10 (.var [.own 25 (u++([w.1]:L_ QMk)).length,.own 609 k.length,.b a8]),1,.K [2,3,4,8,9,10,11,12,14,17] [4,8,10,25,609]] Z (a4_ a4 Z ⟨Qc,XU c8 Qc,Xu,Yc Qc⟩ Z) ?_
         exact AK.met (ex_ _ (ex_ _ (an_ Z h)))
        exact AK.met (ex_ _ (ex_ _ (an_ Z h)))
       rintro σ ⟨l,a2,rfl,h⟩
       obtain⟨p,c9,h⟩:=Qv h
       obtain⟨d0,h⟩:=Qcj h
       refine tg_ i [.K [2,3,4,8,9,10,11,12,14,17] [4,8,10,25,609]] ?_
       refine AK.draw2 QG i mixed [.N,.N,.N,.N,.N,.N,.B (.row (Qf p)),.E (.agg (Qf p)),.E (.agg (QS (QY.mk at_9 l p))),.a (.bd []) (some ([],.sl 6 (([(QY.mk at_9 l p)]:L_ QY).map QS))) false,.m (.app ((k++[(QY.mk at_9 l p)]).map QS) (k++[(QY.mk at_9 l p)]).length),.N,.m .s] [] [] [2,3,4,8,9,10,11,12,14] [4,8,10,25,609] rfl rfl rfl ⟨⟨⟨⟨⟨U,(QF c9)⟩,rfl⟩,rfl⟩,rfl⟩,⟨Qc,XU d0 Qc,Xu,Yc Qc⟩⟩ rfl (by kernel_rfl) rfl rfl rfl ?_
       refine Qx i [.O 10 (.var [.own 25 a2.length,.own 609 (k++[(QY.mk at_9 l p)]).length,.b a8]),1,.K [2,3,4,8,9,10,11,12,14] [4,8,10,25,609]] Z (A Z) ?_
       exact AK.met (ex_ _ (ex_ _ (ex_ _ (an_ Z h))))
      rintro σ ⟨b7,a9,b0,rfl,h⟩
      refine tg_ i [5,.K [2,3,4,8,9,10,11,12,14] [4,8,10,25,609]] ?_
      cases h
      exact Vn Z Z
     cases h
     exact QaV Z (an_ Z Z)
    obtain⟨d9,e0,e1⟩:=d6
    replace h:BK at_9 d9 e0 e1=some o:=h
    unfold BK at h
    rintro e σ ⟨rfl,rfl⟩
    refine tg_ i [2,.K [2,3,4,8,9,10,11] [4,8,10,25,609]] ?_
    exact AK.met (ex_ _ (ex_ _ (ex_ _ (an_ Z h))))
   rintro σ ⟨b5,a5,a6,rfl,h⟩
   refine tg_ i [5,.K [2,3,4,8,9,10,11] [4,8,10,25,609]] ?_
   cases h
   exact Vn Z Z
  cases h
  exact QaV Z (an_ Z Z)
 obtain⟨d1,b8,b9⟩:=d2
 replace h:QaG d1 b8 b9=some r:=h
 rintro e σ ⟨rfl,rfl⟩
 refine Qx i [6,.O 8 (.var [.own 25 b8.length,.own 609 b9.length,.b d1]),3,.frz 25 (b8.map Qo) [] [8],.frz 609 (b9.map QS) [] [8],.K [8] [8]] Z (a3_ Z (A ⟨(Ye Qc),(A U)⟩) (A ⟨(Ye Qc),U⟩)) ?_
 cases h
 exact AK.done (ex_ [_] (an_ (an_ (ex_ _ (ex_ _ (an_ Z (an_ Z (Or.inl (an_ (QG.ag Z) (an_ (QG.sz Z) Z))))))) U) (gives U)))
def IF (c:Qk)(a:Int)(b:Int):O_ XV:=(NB c).bind λd=>(PZ c d a b).bind λe=>some e
def Qej (f b e):CT 8 [.agg (Qa f),.I b,.I e] [] (IF f b e) (λr=>(.agg (QO r))) no_:=by
 refine W 13 func8 rfl λC g r h=>?_
 obtain⟨k,i,h⟩:=Qv h
 obtain⟨l,j,h⟩:=Qv h
 refine tg_ g [7,.K [1,2,3,6] [3,6]] ?_
 refine AK.draw2 QG g mixed [.E (.agg (Qa f)),.E (.agg (Qa f)),.B (.cd false [.d] 1 (k.map Qe) k.length),.N,.N,.B (.C4 (.agg (QO l))),.m .s] [] [] [6] [6] rfl rfl rfl ⟨⟨⟨⟨U,rfl⟩,rfl⟩,⟨(Qg1 _ _ i),Qc⟩⟩,(Qi7 _ _ _ _ _ j)⟩ rfl (by kernel_rfl) rfl rfl rfl ?_
 refine Qx g [.O 6 (.var (QO l)),2,.K [6] [6]] Z (A Z) ?_
 cases h
 exact AK.done (ex_ [_] (an_ (an_ (ex_ _ (ex_ _ (an_ Z (an_ Z (Or.inl (an_ (QG.ag Z) (an_ (QG.sz Z) Z))))))) U) (gives U)))
def EV (c:QBg)(e:QBg)(b:Int):O_ (Int⊕(Unit⊕Unit)):=bif (b<(c.length:Int))then (idx c b).bind λd=>(idx e b).bind λa=>bif (!((d.1==a.1)&&(d.2==a.2)))then some (.inr (.inl ()))else some (.inl (Qi (b+1)))else some (.inr (.inr ()))
def Qi8 : O_ Bool:=some false
def Qi9 : O_ Bool:=some true
def Ra (a:QBg)(b:QBg):O_ Bool:=bif ((a.length:Int) != (b.length:Int))then some false else (Qu (λst=>EV a b st) 0).bind (Sum.elim (λq=>Qi8) (λq=>Qi9))
def Qja (i k):CT 37 [.sl 2 (i.map Qm),.sl 2 (k.map Qm)] [] (Ra i k) V.b no_:=
 W 26 func37 Z λC c r h=>K c [9,.o (.ln i.length),1,.o (.ln k.length),3] Z Qc Qc<|I h (λf h=>J c [.T,7] Z f<|E h Z U) λf h=>J c [.F,9] Z f<|lq_ h (λst=>⟨[(0,.sl 2 (i.map Qm)),(1,.sl 2 (k.map Qm)),(5,.I st)],[]⟩) (λq=>(.ret,⟨[(4,.b false)],[]⟩)) (λq=>(.exit 0,⟨[],[]⟩)) Z (λs o h=>J c [5,.o (.ln i.length),3] Z Qc<|I h (λg h=>B h λl m h=>B h λe j h=>G c [.T,5] Z (A g) <| 
  dr_ c [.N,.N,.B (.row (Qm l)),.E (.agg (Qm l)),.N,.N,.B (.row (Qm e)),.E (.agg (Qm e)),.B (.any (.b (!((l.1==e.1)&&(l.2==e.2)))) none)] [] [] [0,1,5,25] [] Z Z (a5_ (QF m) Z (QF j) Z (λσ p t _=>Ql.neAgg Z Z (QZ c.n Z) (p _ _ Z) (p _ _ Z) Z Z (Qq6 _ _ _ _))) Z <|
  H c [1] Z<|I h (λd h=>J c [.T,8] Z d<|rR_ h Z) λd h=>J c [.F,8] Z d<|rN_ h Z) λg h=>J c [.F,2] Z g<|rX_ h Z) (λ_ h=>H c [2] Z<|E h Z U) (λ_ h=>H c [8] Z<|E h Z U)
def WM (d:QMk)(e:QMk)(a:Int):O_ (Int⊕(Unit⊕Unit)):=bif (a<(d.length:Int))then (idx d a).bind λf=>(idx e a).bind λb=>(Ra f b).bind λc=>bif (!c)then some (.inr (.inl ()))else some (.inl (Qi (a+1)))else some (.inr (.inr ()))
def Qdl : O_ Bool:=some false
def Qdm : O_ Bool:=some true
def Hb (a:QMk)(b:QMk):O_ Bool:=bif ((a.length:Int) != (b.length:Int))then some false else (Qu (λst=>WM a b st) 0).bind (Sum.elim (λq=>Qdl) (λq=>Qdm))
def Qdn (j m):CT 18 [.sl 1 (j.map Qe),.sl 1 (m.map Qe)] [] (Hb j m) V.b no_:=
 W 27 func18 Z λC e r h=>K e [9,.o (.ln j.length),1,.o (.ln m.length),3] Z Qc Qc<|I h (λg h=>J e [.T,7] Z g<|E h Z U) λg h=>J e [.F,9] Z g<|lq_ h (λst=>⟨[(0,.sl 1 (j.map Qe)),(1,.sl 1 (m.map Qe)),(5,.I st)],[]⟩) (λq=>(.ret,⟨[(4,.b false)],[]⟩)) (λq=>(.exit 0,⟨[],[]⟩)) Z (λv o h=>J e [5,.o (.ln j.length),3] Z Qc<|I h (λi h=>B h λu p h=>B h λs k h=>B h λt l h=>G e [.T,5] Z (A i) <| 
  dr_ e [.N,.N,.B (.row (Qe u)),.N,.N,.N,.B (.row (Qe s)),.N,.B (.C2 (.b t)),.N] [] [] [0,1,5,26] [] Z Z (a3_ (QF p) (QF k) (Qja _ _ _ l)) Z <|
  H e [1] Z<|I h (λf h=>J e [.T,8] Z f<|rR_ h Z) λf h=>J e [.F,8] Z f<|rN_ h Z) λi h=>J e [.F,2] Z i<|rX_ h Z) (λ_ h=>H e [2] Z<|E h Z U) (λ_ h=>H e [8] Z<|E h Z U)
def QaH (a:Qg)(b:Qg):O_ Bool:=bif (a.Task==b.Task)then (Ev a.Vars b.Vars).bind λd=>bif d then (Ev a.Ins b.Ins).bind λe=>bif e then (Ev a.Outs b.Outs).bind λc=>some c else some false else some false else some false
def QaI (a:Bool):O_ Bool:=some a
def Rb (a:Qg)(b:Qg):O_ Bool:=(QaH a b).bind (λc=>QaI c)
def Qjb (p q):CT 19 [.agg (Qf p),.agg (Qf q)] [] (Rb p q) V.b no_:=
 W 31 func19 Z λC e r h=>H e [8] Z<|mV_ h (λj=>⟨[(4,.b j)],[]⟩) (λj h=>H e [7] Z<|I h (λf h=>B h λs k h=>G e [.S 10 (.b true),4,.o (.C2 (.b s)),2] Z ⟨(tc_ f),(EJ _ _ _ k)⟩<|I h (λg h=>B h λt l h=>G e [.S 17 (.b true),4,.o (.C2 (.b t)),2] Z ⟨(tc_ g),(EJ _ _ _ l)⟩<|I h (λa h=>B h λm i h=>G e [.S 24 (.b true),4,.o (.C2 (.b m)),3] Z ⟨(tc_ a),(EJ _ _ _ i)⟩<|mq_ h Z) λa h=>L e [.S 24 (.b false),8] Z a<|mq_ h Z) λg h=>L e [.S 17 (.b false),15] Z g<|mq_ h Z) λf h=>L e [.S 10 (.b false),22] Z f<|mq_ h Z) λj h=>H e [2] Z<|E h Z U
def IG (e:XV)(f:XV)(a:Int):O_ (Int⊕(Unit⊕Unit)):=bif (a<(e.States.length:Int))then (idx e.States a).bind λb=>(idx f.States a).bind λc=>(Hb b c).bind λd=>bif (!d)then some (.inr (.inl ()))else some (.inl (Qi (a+1)))else some (.inr (.inr ()))
def Qjc : O_ Bool:=some false
def Rc (b:Bool)(g:XV)(a:Int)(h:XV):O_ Bool:=bif (!b)then some true else (idx g.Edges a).bind λc=>(idx h.Edges a).bind λd=>bif (c.From != d.From)then some true else (idx g.Edges a).bind λe=>(idx h.Edges a).bind λf=>some (e.To != f.To)
def Qjd (a:Int)(b:Bool):O_ (Int⊕(Unit⊕Unit)):=bif b then some (.inr (.inl ()))else some (.inl (Qi (a+1)))
def IH (b:XV)(g:XV)(a:Int):O_ (Int⊕(Unit⊕Unit)):=bif (a<(b.Edges.length:Int))then (idx b.Edges a).bind λc=>(idx g.Edges a).bind λd=>(Rb c.Mode d.Mode).bind λe=>(Rc e b a g).bind (λf=>Qjd a f)else some (.inr (.inr ()))
def Qje : O_ Bool:=some false
def Qjf : O_ Bool:=some true
def Re (a:XV)(b:XV):O_ Bool:=(Qu (λst=>IH a b st) 0).bind (Sum.elim (λq=>Qje) (λq=>Qjf))
def Rf (a:XV)(b:XV):O_ Bool:=
 bif (((a.States.length:Int) != (b.States.length:Int))||(((a.Edges.length:Int) != (b.Edges.length:Int))||(a.Full != b.Full)))then
 some false
 else
 (Qu (λst=>IG a b st) 0).bind (Sum.elim (λq=>Qjc) (λq=>Re a b))
def Qjg (f g):CT 6 [.agg (QO f),.agg (QO g)] [] (Rf f g) V.b no_:=
 W 104 func6 Z λC e r h=>H e [9] Z<|Y ⟨[lk_ 2,lk_ 3,(31,.b (((f.States.length:Int) != (g.States.length:Int))||(((f.Edges.length:Int) != (g.Edges.length:Int))||(f.Full != g.Full))))],[(2,.var (QO f)),(3,.var (QO g))]⟩ (K e [3,.o (.ln f.States.length),2,.o (.ln g.States.length),2] Z Qc Qc<|bO_ ((f.States.length:Int) != (g.States.length:Int)) (λj=>G e [.S 16 (.b true),16,.S 31 (.b (((f.States.length:Int) != (g.States.length:Int))||(((f.Edges.length:Int) != (g.Edges.length:Int))||(f.Full != g.Full))))] Z ⟨(tc_ j),(cb_ (KF j Z))⟩<|M Z) λj=>G e [.S 16 (.b false),2,.o (.ln f.Edges.length),2,.o (.ln g.Edges.length),3] Z ⟨⟨(tc_ j),Qc⟩,Qc⟩<|bO_ ((f.Edges.length:Int) != (g.Edges.length:Int)) (λk=>G e [.S 25 (.b true),7,.S 31 (.b (((f.States.length:Int) != (g.States.length:Int))||(((f.Edges.length:Int) != (g.Edges.length:Int))||(f.Full != g.Full))))] Z ⟨(tc_ k),(cb_ (Yu j (KF k Z)))⟩<|M Z) λk=>G e [.S 25 (.b false),7,.S 31 (.b (((f.States.length:Int) != (g.States.length:Int))||(((f.Edges.length:Int) != (g.Edges.length:Int))||(f.Full != g.Full))))] Z ⟨(tc_ k),(cb_ (Yu j (Yu k Z)))⟩<|M Z)<|H e [1] Z<|I h (λw h=>J e [.T,7] Z w<|E h Z U) λw h=>J e [.F,9] Z w<|lq_ h (λst=>⟨[lk_ 2,lk_ 3,(5,.I st)],[(2,.var (QO f)),(3,.var (QO g))]⟩) (λq=>(.ret,⟨[(4,.b false)],[]⟩)) (λq=>(.exit 0,⟨[lk_ 2,lk_ 3],[(2,.var (QO f)),(3,.var (QO g))]⟩)) Z (λi9 o h=>J e [6,.o (.ln f.States.length),3] Z Qc<|I h (λl h=>B h λa8 y h=>B h λa9 z h=>B h λb0 D h=>G e [.T,5] Z (A l) <| 
  dr_ e [.N,.N,.N,.B (.row (Qo a8)),.N,.N,.N,.N,.B (.row (Qo a9)),.N,.B (.C2 (.b b0)),.N] [] [] [2,3,5,6] [2,3] Z Z (a3_ (QF y) (QF z) (Qdn _ _ _ D)) Z <|
  H e [7] Z<|I h (λm h=>J e [.T,8] Z m<|rR_ h Z) λm h=>J e [.F,8] Z m<|rN_ h Z) λl h=>J e [.F,2] Z l<|rX_ h Z) (λ_ h=>H e [2] Z<|E h Z U) (λ_ h=>H e [9] Z<|lq_ h (λst=>⟨[lk_ 2,lk_ 3,(7,.I st)],[(2,.var (QO f)),(3,.var (QO g))]⟩) (λq=>(.ret,⟨[(4,.b false)],[]⟩)) (λq=>(.exit 2,⟨[],[]⟩)) Z (λb1 o h=>J e [6,.o (.ln f.Edges.length),3] Z Qc<|I h (λp h=>B h λO P h=>B h λa0 a2 h=>B h λb3 a3 h=>G e [.T,5] Z (A p) <| 
  dr_ e [.N,.N,.N,.B (.row (QS O)),.N,.E (.agg (Qf O.Mode)),.N,.N,.N,.B (.row (QS a0)),.N,.E (.agg (Qf a0.Mode)),.B (.C2 (.b b3)),.N] [] [] [2,3,7,8] [2,3] Z Z (a5_ (QF P) Z (QF a2) Z (Qjb _ _ _ a3)) Z <|
  H e [2] Z<|mV_ h (λx=>⟨[lk_ 2,lk_ 3,(7,.I b1),(103,.b x)],[(2,.var (QO f)),(3,.var (QO g))]⟩) (λx h=>H e [.K [2,3,7,8] [2,3]] Z<|I h (λi h=> 
  dr_ e [.N,.N,.E (.b true),.N,.N,.N,.N,.N,.N,.N,.N,.N,.N,.N,.N,.N,.N,.N,.N,.N,.N,.N,.N,.N,.N,.N,.N,.N,.N,.N,.N,.N] [] [] [2,3,7,103] [2,3] Z Z (tc_ i) Z <|
  mq_ h Z) λi h=>B h λa4 u h=>B h λa5 v h=>I h (λs h=> 
  dr_ e [.N,.N,.E (.b false),.N,.N,.N,.B (.row (QS a4)),.N,.N,.N,.N,.N,.B (.row (QS a5)),.N,.N,.N,.N,.E (.b true),.N,.N,.N,.N,.N,.N,.N,.N,.N,.N,.N,.N,.N,.N] [] [] [2,3,7,103] [2,3] Z Z ⟨⟨⟨(tc_ i),(QF u)⟩,(QF v)⟩,(cb_ s)⟩ Z <|
  mq_ h Z) λs h=>B h λb4 a6 h=>B h λb5 a7 h=> 
  dr_ e [.N,.N,.E (.b false),.N,.N,.N,.B (.row (QS a4)),.N,.N,.N,.N,.N,.B (.row (QS a5)),.N,.N,.N,.N,.E (.b false),.N,.N,.N,.B (.row (QS b4)),.N,.N,.N,.N,.N,.B (.row (QS b5)),.N,.N,.N,.N] [] [] [2,3,7,103] [2,3] Z Z ⟨⟨⟨⟨⟨(tc_ i),(QF u)⟩,(QF v)⟩,(cb_ s)⟩,(QF a6)⟩,(QF a7)⟩ Z <|
  mq_ h Z) λx h=>H e [1] Z<|I h (λt h=>J e [.T,8] Z t<|rR_ h Z) λt h=>J e [.F,8] Z t<|rN_ h Z) λp h=>J e [.F,2] Z p<|rX_ h Z) (λ_ h=>H e [2] Z<|E h Z U) (λ_ h=>H e [8] Z<|E h Z U))
def CZ (g:Bool)(f:Qk)(a:Int)(b:Int):O_ Bool:=bif g then (Gf f a b).bind λc=>(IF f a b).bind λd=>(Rf c d).bind λe=>some e else some false
def QbA (a:Bool):O_ Bool:=some a
def Ey (c:Qk)(a:Int)(b:Int):O_ Bool:=(SQ).bind λd=>(CR c a).bind λe=>bif (!e)then some d else (CZ d c a b).bind (λf=>QbA f)
def QbB (k e f):CT 3 [.agg (Qa k),.I e,.I f] [] (Ey k e f) V.b no_:=
 W 28 func3 Z λC i r h=>B h λD t h=>B h λO u h=>g3_ i [8,.o (.c false [] (.b D)),5,.A (Qa k),1,.o (.C2 (.b O)),10] Z (QgK _  t) Z (QiP _ _ _ u)<|I h (λj h=>J i [.T,8] Z j<|E h Z U) λj h=>J i [.F,3] Z j<|mV_ h (λw=>⟨[(6,.b w)],[]⟩) (λw h=>H i [.K [1,2,3,6,7] [3]] Z<|I h (λg h=>B h λx l h=>B h λy p h=>B h λz q h=> 
  dr_ i [.N,.E (.b true),.E (.agg (Qa k)),.N,.N,.B (.C3 (.agg (QO x))),.E (.agg (Qa k)),.N,.N,.B (.C3 (.agg (QO y))),.B (.C2 (.b z)),.N,.m .s] [] [] [6] [] Z Z ⟨⟨⟨⟨⟨(tc_ g),Z⟩,(Bq _ _ _ _ l)⟩,Z⟩,(Qej _ _ _ _ p)⟩,(Qjg _ _ _ q)⟩ Z <|
  mq_ h Z) λg h=> 
  dr_ i [.N,.E (.b false),.N,.N,.N,.N,.N,.N,.N,.N,.N,.N,.m .s] [] [] [6] [] Z Z (tc_ g) Z <|
  mq_ h Z) λw h=>H i [2] Z<|E h Z U
end Go.Proofs
