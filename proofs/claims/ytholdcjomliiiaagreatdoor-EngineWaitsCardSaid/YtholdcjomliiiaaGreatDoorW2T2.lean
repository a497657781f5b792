/- Walks through the program. -/
import Derived.Test.YtholdcjomliiiaaGreatDoorW2T1
set_option linter.all false
set_option maxRecDepth 100000
set_option maxHeartbeats 4000000
noncomputable section
namespace Go.Proofs
open Go Go.RowKit Go.Vm Go.Proofs.Tryz
open Option renaming some→Q,bind→j_,none→n_
open Sum renaming inl→y_,inr→i_
open Bool renaming true→t_,false→f_
variable (a h:Int)(k:Xj)(g l0:QBg)(m:Bool)(b:Qc)(n:(L_ Qm))(c:Int)(e:QMk)(r:Qd)(d1:QMk)(k1:ByteArray)(d:Int)(t:Qs)(s:Int)(f:LI_)(j0:Int)(l:QR)(i:QF)(e2:(L_ ByteArray))(g0:(L_ QK))(o g3:Int)(f4:Qs->O_ Int)(j3:Qs)(h3:LI_->Qs->O_ (Int×Int))(d2:LI_)(f2:Qs)(f0:(L_ (O_ Nat)))(f3:(L_ (Int×(O_ Nat))))(g2:(L_ Qk))(l3:QF)(m0:Xt)(j:QL)(q:Int)(g4:(QBg×QBg))(k2:Qs->Int->O_ Bool)(d3:Qs)(i1:Int)(h0:Bool)(d4:LI_)(p e4:Qm)(i0:Int)(e1:QMk)(m3:(QMk×Int))(k4:QMk)(j1:QLL)(m1:(Int×Int×Int))(j2:Int)(f1:QBg)(k0:Qc)(e0:Int)(h4:(Bool×JD))(i3:Int)(g1:LI_)(j4:(L_ Qs))(e3:Int)
def QbO  : O_ Bool:=
 j_ (Qlv) λa=>
 j_ (OM a) λb=>
 j_ (IR a b ([(Xt.mk 1 0 (Qd.mk 0 ([]:LI_) ([0]:L_ Int) ([0]:L_ Int)) 2),(Xt.mk 2 1 (Qd.mk 0 ([]:LI_) ([]:LI_) ([]:LI_)) 0),(Xt.mk 2 1 (Qd.mk 0 ([]:LI_) ([]:LI_) ([]:LI_)) 0),(Xt.mk 2 1 (Qd.mk 0 ([]:LI_) ([]:LI_) ([]:LI_)) 0),(Xt.mk 2 7 (Qd.mk 0 ([]:LI_) ([]:LI_) ([]:LI_)) 0),(Xt.mk 99 0 (Qd.mk 0 ([]:LI_) ([]:LI_) ([]:LI_)) 0)]:L_ Xt)) λd=>
 j_ (IR a b ([(Xt.mk 1 0 (Qd.mk 0 ([]:LI_) ([0]:L_ Int) ([0]:L_ Int)) 1),(Xt.mk 6 0 (Qd.mk 0 ([]:LI_) ([]:LI_) ([]:LI_)) 0),(Xt.mk 6 0 (Qd.mk 0 ([]:LI_) ([]:LI_) ([]:LI_)) 0),(Xt.mk 3 1 (Qd.mk 0 ([]:LI_) ([]:LI_) ([]:LI_)) 0)]:L_ Xt)) λe=>
 cond (((d.1.length:Int)!=6)||((e.1.length:Int)!=4)) (Q f_)<|j_ (j_ (idx d.1 0) λs=>cond (s.Id==1) (j_ (idx d.1 1) λt=>cond ((t.Closed.length:Int)==0) (j_ (idx d.1 2) λu=>j_ (Di u.Closed ([1]:L_ Int)) λv=>cond v (j_ (idx d.1 3) λw=>cond (w.Err==12) (j_ (idx d.1 4) λx=>cond (x.Err==3) (j_ (idx d.1 5) λy=>cond (y.Err==1) (j_ (QbN a d.2) λz=>cond z (j_ (QbN a b) λi4=>cond (!i4) (j_ (idx e.1 2) λi5=>j_ (Di i5.Closed ([1]:L_ Int)) λi6=>cond i6 (j_ (idx e.1 3) λi7=>cond (i7.Err==12) (j_ (Qlx e.2.M b.M) λj6=>cond j6 (cond (e.2.Now==2) (j_ (QeW a b 9) λj7=>Q ((j7.length:Int)==1))<|Q f_)<|Q f_)<|Q f_)<|Q f_)<|Q f_)<|Q f_)<|Q f_)<|Q f_)<|Q f_)<|Q f_)<|Q f_)<|Q f_) (λc=>Q c)
def Ql9 : CT 4 [] [] (QbO ) V.b no_:=
 W 135 func4 Z<|A 7 QpV Z λu=>A 7 QeJ Z λw=>gA_ [6,.v (.bd []) [] (.sl 1 (([0]:L_ Int).map Qb)),.v (.bd []) [] (.sl 1 (([0]:L_ Int).map Qb)),.v .no [n_,Q 1,n_,n_] (.agg (Qy (Qd.mk 0 ([]:LI_) ([0]:L_ Int) ([0]:L_ Int)))),10,.v .no [n_,n_,n_,Q 1,Q 1,Q 1,n_] (.agg (Jl (Xt.mk 2 1 (Qd.mk 0 ([]:LI_) ([]:LI_) ([]:LI_)) 0))),.v .no [n_,n_,n_,Q 1,Q 1,Q 1,n_] (.agg (Jl (Xt.mk 2 1 (Qd.mk 0 ([]:LI_) ([]:LI_) ([]:LI_)) 0))),.v .no [n_,n_,n_,Q 1,Q 1,Q 1,n_] (.agg (Jl (Xt.mk 2 1 (Qd.mk 0 ([]:LI_) ([]:LI_) ([]:LI_)) 0))),.v .no [n_,n_,n_,Q 1,Q 1,Q 1,n_] (.agg (Jl (Xt.mk 2 7 (Qd.mk 0 ([]:LI_) ([]:LI_) ([]:LI_)) 0))),.v .no [n_,n_,n_,Q 1,Q 1,Q 1,n_] (.agg (Jl (Xt.mk 99 0 (Qd.mk 0 ([]:LI_) ([]:LI_) ([]:LI_)) 0))),.v (.bd []) [] (.sl 7 (([(Xt.mk 1 0 (Qd.mk 0 ([]:LI_) ([0]:L_ Int) ([0]:L_ Int)) 2),(Xt.mk 2 1 (Qd.mk 0 ([]:LI_) ([]:LI_) ([]:LI_)) 0),(Xt.mk 2 1 (Qd.mk 0 ([]:LI_) ([]:LI_) ([]:LI_)) 0),(Xt.mk 2 1 (Qd.mk 0 ([]:LI_) ([]:LI_) ([]:LI_)) 0),(Xt.mk 2 7 (Qd.mk 0 ([]:LI_) ([]:LI_) ([]:LI_)) 0),(Xt.mk 99 0 (Qd.mk 0 ([]:LI_) ([]:LI_) ([]:LI_)) 0)]:L_ Xt).map Jl))] Z (a9_ Z Z Z Z Z Z Z Z Z)<|A 0 VY Z λd=>gA_ [14,.v .no [n_,n_,n_,Q 1,Q 1,Q 1,n_] (.agg (Jl (Xt.mk 6 0 (Qd.mk 0 ([]:LI_) ([]:LI_) ([]:LI_)) 0))),.v .no [n_,n_,n_,Q 1,Q 1,Q 1,n_] (.agg (Jl (Xt.mk 6 0 (Qd.mk 0 ([]:LI_) ([]:LI_) ([]:LI_)) 0))),.v .no [n_,n_,n_,Q 1,Q 1,Q 1,n_] (.agg (Jl (Xt.mk 3 1 (Qd.mk 0 ([]:LI_) ([]:LI_) ([]:LI_)) 0))),.v (.bd []) [] (.sl 7 (([(Xt.mk 1 0 (Qd.mk 0 ([]:LI_) ([0]:L_ Int) ([0]:L_ Int)) 1),(Xt.mk 6 0 (Qd.mk 0 ([]:LI_) ([]:LI_) ([]:LI_)) 0),(Xt.mk 6 0 (Qd.mk 0 ([]:LI_) ([]:LI_) ([]:LI_)) 0),(Xt.mk 3 1 (Qd.mk 0 ([]:LI_) ([]:LI_) ([]:LI_)) 0)]:L_ Xt).map Jl))] Z (a4_ Z Z Z Z)<|A 0 VY Z λe=>T 10 [1,2,4,5,6,7] [1,2,4,6] ([(47,.b (((d.1.length:Int)!=6)||((e.1.length:Int)!=4)))],[]) Z (N 2 Z<|H 2 Z (λa=>Y 5 47 Z (Jf a Z)) λa=>N 1 Z<|Y 3 47 Z (Xk a Z))<|I 1 Z (E 7 Z)<|mV_ 3 [] [] (λc=>([(0,.b c)],[])) Z (J 2 Z λf=>I 4 Z (J 1 Z λg=>N 2 Z<|I 3 Z (J 1 Z λh=>G [2,.v (.bd []) [] (.sl 1 (([1]:L_ Int).map Qb))] Z Z<|A 0 EJ Z λi=>I 2 Z (J 1 Z λj=>I 5 Z (J 1 Z λk=>I 5 Z (J 1 Z λl=>I 5 Z (A 2 QdB Z λm=>I 2 Z (A 2 QdB Z λo=>I 3 Z (J 1 Z λp=>G [2,.v (.bd []) [] (.sl 1 (([1]:L_ Int).map Qb))] Z Z<|A 0 EJ Z λq=>I 2 Z (J 1 Z λr=>I 5 Z (A 4 Qp7 Z λs=>I 2 Z (I 5 Z (A 2 Qjl Z λt=>N 0 Z<|M 4 Z)<|M 8 Z)<|M 13 Z)<|M 20 Z)<|M 27 Z)<|M 35 Z)<|M 41 Z)<|M 46 Z)<|M 53 Z)<|M 60 Z)<|M 67 Z)<|M 75 Z)<|M 83 Z) λc=>E 2 Z
def Qap (h:Qs->Int->O_ Int)(a:Int)(c:Int)(d:Int):O_ ((Int×Int)⊕(Unit⊕Int)):=cond (d<t.Kids.length) (j_ (idx t.Kids d) λe=>j_ (h e (Qh (a-1))) λb=>cond (b==0) (Q (i_ (y_ ())))<|cond ((Qh ((Qh (c-500))+b))<=1) (Q (i_ (y_ ())))<|Q (y_ ((Qh ((Qh (c-500))+b)),(Qh (d+1)))))<|Q (i_ (i_ c))
def QbP (h:Qs->Int->O_ Int)(b:Qs)(a:Int):O_ Int:=
 cond ((a<=0)||(9<(b.Kids.length:Int))) (Q 0)<|j_ (Qq (λst=>Qap b h a st.1 st.2) (500,0)) (Sum.elim (λq=>Q 0) (λq=>Q (Qh (q-1))))
def AZ : Nat->Qs->Int->O_ Int
 |0,_,_=>none|n+1,b,a=>QbP (AZ n) b a
def Qf1:O_ Int:=AZ (SizeOf.sizeOf t) t s
def Qma {O:Qs->Int->O_ Int}{hrec_law04_few:∀(f:Qs) (a:Int) {r:Int},O f a=Q r->QX prog 61 [.G QY f,.I a] [] (Gives (.I r) [])}{f:Qs}{a:Int}:CT 61 [.G QY f,.I a] [] (QbP O f a) V.I no_:=
 W 41 func61 Z<|T 8 [1,2] [2] ([(15,.b ((a<=0)||(9<(f.Kids.length:Int))))],[]) Z (H 4 Z (λe=>Y 6 15 Z (Jf e Z)) λe=>nR_ 2 BB Z<|Y 3 15 Z (Xk e Z))<|I 1 Z (E 7 Z)<|F 14 [1,2] [2] (λst=>([(5,.I st.1),(6,.I st.2)],[])) [] [] (λq=>(.ret,([(4,.I 0)],[]))) [] [] (λq=>(.exit 0,([(5,.I q)],[]))) Z (λ⟨l,m⟩=>nR_ 6 BB Z<|I 3 Z (xR_ 9 Kj Z λj i=>B λh g=>G [3,.o (.C2 (.I h)),10] Z (hrec_law04_few _ _ g)<|I 0 Z (L 9 Z)<|I 17 Z (L 8 Z)<|R 8 Z)<|X 2 Z) (λ_=>E 2 Z) (λk=>E 10 Z)
def QdD : ∀(fuel:Nat) (b:Qs) (a:Int) {r:Int},AZ fuel b a=Q r->QX prog 61 [.G QY b,.I a] [] (Gives (.I r) [])
 |0,_,_,_,h=>by cases h
 |n+1,b,a,_,h=>@Qma (AZ n) (λ_ _ _ h=>QdD n _ _ h) b a _ h
def Qqa (b a){r}(h:Qf1 b a=Q r):QX prog 61 [.G QY b,.I a] [] (Gives (.I r) []):=QdD _ b a h
def Ng:O_ Bool:=j_ (Qf1 t 60) λb=>Q (decide (0<b))
def Qaq {e}:CT 33 [.G QY e] [] (Ng e) V.b no_:=
 W 6 func33 Z<|B λf a=>G [9,.o (.C2 (.I f)),5] Z (Qqa _ _ a)<|E 0 Z
def Qar (a:QK):O_ Bool:=j_ (idx b.Colours c) λe=>cond (100<(e.Name.size:Int)) (Q t_)<|Q (decide (400<(Qh (d+a.Names.length))))
def IT:O_ (Int⊕(Unit⊕Unit)):=j_ (idx b.Colours c) λa=>cond (d<a.Names.length) (j_ (idx b.Colours c) λe=>j_ (idx e.Names d) λf=>cond (100<(f.size:Int)) (Q (i_ (y_ ())))<|Q (y_ (Qh (d+1))))<|Q (i_ (i_ ()))
def Qas (a:QK)(e:Bool):O_ ((Int×Int)⊕(Unit⊕Int)):=cond e (Q (i_ (y_ ())))<|j_ (Qq (λst=>IT b c st) 0) (Sum.elim (λq=>Q (i_ (y_ ()))) (λq=>Q (y_ ((Qh (d+a.Names.length)),(Qh (c+1))))))
def IU:O_ ((Int×Int)⊕(Unit⊕Int)):=cond (d<b.Colours.length) (j_ (idx b.Colours d) λa=>j_ (Qar b d c a) (λe=>Qas b d c a e))<|Q (i_ (i_ c))
def IV:O_ ((Int×Int)⊕(Unit⊕Int)):=cond (d<b.Places.length) (j_ (idx b.Places d) λa=>j_ (idx b.Places d) λe=>cond (100<(e.Name.size:Int)) (Q (i_ (y_ ())))<|Q (y_ ((Qh (c+a.First.length)),(Qh (d+1)))))<|Q (i_ (i_ c))
def Za:O_ (Int⊕(Unit⊕Unit)):=cond (q<j.Vars.length) (j_ (idx j.Vars q) λc=>cond (100<(c.Name.size:Int)) (Q (i_ (y_ ())))<|Q (y_ (Qh (q+1))))<|Q (i_ (i_ ()))
def Zb:O_ ((Bool×Int)⊕Bool):=cond (i0<j.Ins.length) (j_ (idx j.Ins i0) λd=>j_ (Ng d.Expr) λe=>Q (y_ ((h0&&e),(Qh (i0+1)))))<|Q (i_ h0)
def Zc:O_ ((Bool×Int)⊕Bool):=cond (i0<j.Outs.length) (j_ (idx j.Outs i0) λd=>j_ (Ng d.Expr) λe=>Q (y_ ((h0&&e),(Qh (i0+1)))))<|Q (i_ h0)
def Zd:O_ ((Int×Int)⊕(Unit⊕Unit)):=cond (!h0) (Q (i_ (y_ ())))<|Q (y_ ((Qh ((Qh ((Qh ((Qh (a+j.Vars.length))+(j.Ins.length:Int)))+(j.Outs.length:Int)))+(j.Cancel.length:Int))),(Qh (q+1))))
def Ze:O_ ((Int×Int)⊕(Unit⊕Unit)):=j_ (Qq (λst=>Zc j st.1 st.2) (h0,0)) (λa=>Zd q j i1 a)
def Zf:O_ ((Int×Int)⊕(Unit⊕Unit)):=j_ (Ng j.Guard) λd=>j_ (Qq (λst=>Zb j st.1 st.2) (d,0)) (λa=>Ze j q i1 a)
def Zg:O_ ((Int×Int)⊕(Unit⊕Unit)):=
 cond (d<b.Tasks.length) (j_ (idx b.Tasks d) λa=>
 cond ((200<(Qh ((Qh ((Qh ((Qh (c+a.Vars.length))+(a.Ins.length:Int)))+(a.Outs.length:Int)))+(a.Cancel.length:Int))))||(100<(a.Name.size:Int))) (Q (i_ (y_ ())))<|j_ (Qq (λst=>Za a st) 0) (Sum.elim (λq=>Q (i_ (y_ ()))) (λq=>Zf a c d)))<|Q (i_ (i_ ()))
def Zh:O_ Bool:=j_ (Qq (λst=>Zg b st.1 st.2) (0,0)) (Sum.elim (λq=>Q f_) (λq=>Q (decide (c<=400))))
def Hf:O_ Bool:=j_ (Qq (λst=>IV b st.1 st.2) (c,0)) (Sum.elim (λq=>Q f_) (λq=>Zh b q))
def HG:O_ Bool:=
 cond ((40<(b.Colours.length:Int))||((70<(b.Places.length:Int))||(70<(b.Tasks.length:Int)))) (Q f_)<|j_ (Qq (λst=>IU b st.1 st.2) (0,0)) (Sum.elim (λq=>Q f_) (λq=>Hf b q))
def Qgy {i}:CT 19 [.G Qi i] [] (HG i) V.b no_:=
 W 201 func19 Z<|T 8 [1] [1] ([(31,.b ((40<(i.Colours.length:Int))||((70<(i.Places.length:Int))||(70<(i.Tasks.length:Int)))))],[]) Z (N 3 Z<|H 2 Z (λf=>Y 12 31 Z (Jf f Z)) λf=>N 2 Z<|H 3 Z (λh=>Y 6 31 Z (Xk f (Jf h Z))) λh=>N 2 Z<|Y 3 31 Z (Xk f (Xk h Z)))<|I 1 Z (E 7 Z)<|F 14 [1] [1] (λst=>([(3,.I st.1),(4,.I st.2)],[])) [] [] (λq=>(.ret,([(2,.b f_)],[]))) [1] [1] (λq=>(.exit 0,([(3,.I q)],[]))) Z (λ⟨p,i9⟩=>N 6 Z<|I 3 Z (J 10 Z λv=>N 2 Z<|mV_ 6 [1,3,4] [1] (λj=>([(59,.b j)],[])) Z (J 4 Z λw=>I 5 Z (M 4 Z)<|M 4 Z) λj=>I 1 Z (L 9 Z)<|F 8 [1,3,4] [1] (λst=>([(5,.I st)],[])) [] [] (λq=>(.ret,([(2,.b f_)],[]))) [1,3,4] [1] (λq=>(.exit 2,([],[]))) Z (λx=>J 7 Z λy=>N 2 Z<|I 3 Z (J 9 Z λz=>J 3 Z λC=>I 5 Z (L 8 Z)<|R 8 Z)<|X 2 Z) (λ_=>L 3 Z) (λ_=>R 8 Z))<|X 2 Z) (λ_=>E 2 Z) (λk=>F 9 [1] [1] (λst=>([(3,.I st.1),(6,.I st.2)],[])) [] [] (λq=>(.ret,([(2,.b f_)],[]))) [1] [1] (λq=>(.exit 4,([(3,.I q)],[]))) Z (λ⟨l,O⟩=>N 6 Z<|I 3 Z (J 10 Z λa0=>N 2 Z<|J 9 Z λa1=>I 6 Z (L 8 Z)<|R 8 Z)<|X 2 Z) (λ_=>E 2 Z) (λm=>F 14 [1,3] [1] (λst=>([(7,.I st.1),(8,.I st.2)],[])) [] [] (λq=>(.ret,([(2,.b f_)],[]))) [3] [] (λq=>(.exit 6,([],[]))) Z (λ⟨g,a2⟩=>N 6 Z<|I 3 Z (J 9 Z λa=>N 10 Z<|N 3 Z<|N 3 Z<|N 3 Z<|T 6 [1,3,7,8,9] [1,9] ([(142,.b ((200<(Qh ((Qh ((Qh ((Qh (g+(a.Vars.length:Int)))+(a.Ins.length:Int)))+(a.Outs.length:Int)))+(a.Cancel.length:Int))))||(100<(a.Name.size:Int))))],[]) Z (H 4 Z (λc=>Y 6 142 Z (Jf c Z)) λc=>Y 6 142 Z (Xk c Z))<|I 1 Z (L 9 Z)<|F 9 [1,3,7,8,9] [1,9] (λst=>([(10,.I st)],[])) [] [] (λq=>(.ret,([(2,.b f_)],[]))) [1,3,7,8,9] [1,9] (λq=>(.exit 8,([],[]))) Z (λa3=>N 6 Z<|I 3 Z (J 9 Z λa4=>I 6 Z (L 8 Z)<|R 8 Z)<|X 2 Z) (λ_=>L 4 Z) (λ_=>A 6 Qaq Z λa5=>lA_ 10 [1,3,7,8,9] [1,9] (λst=>([(11,.b st.1),(12,.I st.2)],[])) [1,3,7,8,9] [1,9] (λq=>(.exit 10,([(11,.b q)],[]))) Z (λ⟨n,a6⟩=>N 6 Z<|I 3 Z (J 9 Z λa7=>A 2 Qaq Z λr=>T 3 [1,3,7,8,9,12] [1,9] ([(11,.b (n&&r))],[]) Z (H 3 Z (λd=>Y 4 11 Z (Ye d Z)) λd=>Y 4 11 Z (YH d Z))<|R 7 Z)<|X 2 Z) λt=>lA_ 9 [1,3,7,8,9] [1,9] (λst=>([(11,.b st.1),(14,.I st.2)],[])) [1,3,7,8] [1] (λq=>(.exit 12,([(11,.b q)],[]))) Z (λ⟨o,a8⟩=>N 6 Z<|I 3 Z (J 9 Z λa9=>A 2 Qaq Z λs=>T 3 [1,3,7,8,9,14] [1,9] ([(11,.b (o&&s))],[]) Z (H 3 Z (λe=>Y 4 11 Z (Ye e Z)) λe=>Y 4 11 Z (YH e Z))<|R 7 Z)<|X 2 Z) λu=>I 8 Z (L 8 Z)<|R 8 Z))<|X 2 Z) (λ_=>E 2 Z) (λ_=>E 10 Z)))
def Qat:O_ ((Int×Int)⊕Int):=cond ((s<e.length)&&(s<100)) (j_ (idx e s) λb=>Q (y_ ((Qh (d+b.length)),(Qh (s+1)))))<|Q (i_ d)
def Qa5:O_ Bool:=j_ (Qq (λst=>Qat e st.1 st.2) (0,0)) (λq=>Q (((e.length:Int)<=70)&&(q<=300)))
def Qqg {d}:CT 62 [.M 1 Qj d] [] (Qa5 d) V.b no_:=
 W 29 func62 Z<|lA_ 17 [0] [] (λst=>([(3,.I st.1),(4,.I st.2)],[])) [0] [] (λq=>(.exit 0,([(3,.I q)],[]))) Z (λ⟨h,e⟩=>T 2 [0,3,4] [] ([(12,.b ((e<(d.length:Int))&&(e<100)))],[]) Z (N 3 Z<|H 2 Z (λc=>Y 4 12 Z (Ye c Z)) λc=>Y 4 12 Z (YH c Z))<|I 1 Z (J 8 Z λf=>N 1 Z<|R 10 Z)<|X 2 Z) λg=>T 3 [] [] ([(2,.b (((d.length:Int)<=70)&&(g<=300)))],[]) Z (N 2 Z<|H 2 Z (λa=>Y 5 2 Z (Ye a Z)) λa=>Y 5 2 Z (YH a Z))<|E 2 Z
def SH:O_ Bool:=Q (((b.Places.length:Int)<=64)&&((b.Tasks.length:Int)<=64))
def Qmb {c}:CT 106 [.L 621] [(621,.W Qi c)] (SH c) V.b (λ_=>[(621,.W Qi c)]):=
 W 12 func106 Z<|T 6 [] [621] ([(1,.b (((c.Places.length:Int)<=64)&&((c.Tasks.length:Int)<=64)))],[]) Z (N 3 Z<|H 2 Z (λa=>N 2 Z<|Y 4 1 Z (Ye a Z)) λa=>Y 7 1 Z (YH a Z))<|E 2 Z
def Jw (b:(L_ Xn))(a:Int):O_ Bool:=Q ((0<=a)&&(a<b.length))
def Wt {d c}:CT 108 [.M 3 Xd d,.I c] [] (Jw d c) V.b no_:=
 W 13 func108 Z<|T 6 [] [] ([(4,.b ((0<=c)&&(c<d.length)))],[]) Z (H 4 Z (λa=>N 2 Z<|Y 4 4 Z (Ye a Z)) λa=>Y 7 4 Z (YH a Z))<|E 2 Z
def QdE:O_ Bool:=j_ (Jw b.Places b.From) λa=>cond a (j_ (Jw b.Places b.To) λc=>Q c)<|Q f_
def QdF:O_ Bool:=Q m
def SI:O_ Bool:=j_ (QdE b) (λa=>QdF a)
def Qmc {a}:CT 107 [.L 621] [(621,.W Qi a)] (SI a) V.b (λ_=>[(621,.W Qi a)]):=
 W 14 func107 Z<|mV_ 6 [] [621] (λc=>([(1,.b c)],[])) Z (A 5 Wt Z λd=>I 1 Z (A 4 Wt Z λe=>M 3 Z)<|M 8 Z) λc=>E 2 Z
def SJ:O_ Bool:=Q (b.From != b.To)
def Qmd {a}:CT 109 [.L 621] [(621,.W Qi a)] (SJ a) V.b (λ_=>[(621,.W Qi a)]):=
 W 7 func109 Z<|E 16 Z
def SK:O_ Int:=j_ (SH b) λf=>cond (!f) (Q c)<|j_ (SI b) λg=>cond (!g) (Q d)<|j_ (SJ b) λa=>cond (!a) (Q s)<|Q 0
def Qme {a b c d}:CT 105 [.own 621 3] [(621,.var [.clo (.func 106) [] [.L 622],.I b,.clo (.func 107) [] [.L 622],.I c,.clo (.func 109) [] [.L 622],.I d]),(622,.W Qi a)] (SK a b c d) V.I (λ_=>[(621,.var [.clo (.func 106) [] [.L 622],.I b,.clo (.func 107) [] [.L 622],.I c,.clo (.func 109) [] [.L 622],.I d]),(622,.W Qi a)]):=
 W 18 func105 Z<|lN_ 14 4 Z<|vI_ 13 621 0 Z<|S 9 .clo [(621,622)] Qmb Z λf=>I 3 Z (E 13 Z)<|rd_ 7 Z<|vI_ 13 621 2 Z<|gT_ [1,.kill 4,8] Z<|S 0 .clo [(621,622)] Qmc Z λg=>I 3 Z (E 13 Z)<|rd_ 7 Z<|vI_ 13 621 4 Z<|gT_ [1,.kill 4,8] Z<|S 0 .clo [(621,622)] Qmd Z λe=>I 3 Z (E 13 Z)<|rd_ 7 Z<|E 18 Z
def PQ:O_ Bool:=j_ (Uv g0) λb=>Q b.2
def QkN {a}:CT 179 [.M 7 Xm a] [] (PQ a) V.b no_:=
 W 11 func179 Z<|A 8 QbY Z λc=>E 14 Z
def CZ:O_ Bool:=j_ (chk (decide (0<=(Qh (c+1)))&&decide (0<=(Qh (c+1)).toNat)&&decide ((Qh (c+1)).toNat<=b.Colours.length))) λ_=>j_ (PQ ((b.Colours.drop 0).take ((Qh (c+1)).toNat-0))) λa=>Q a
def Qf2 {c d}:CT 178 [.L 621,.L 622] [(621,.W Qi c),(622,.W Qb d)] (CZ c d) V.b (λ_=>[(621,.W Qi c),(622,.W Qb d)]):=
 W 9 func178 Z<|kA_ λa=>K [11,.o (.any (.sl 7 (((c.Colours.drop 0).take ((Qh (d+1)).toNat-0)).map Xm)) n_)] Z (λf=>(a1_ (λz e g _=>Qf.sliceD Z Z (QP f.n Z) (e _ _ Z) (QC.es Z) GL.no (GL.val (e _ _ Z) (Xe (MC a)) Z) (Xe (ME a)) (Yq (Xe (Qbn a)) (Ih Qx.symm)) SD)))<|A 0 QkN Z λh=>E 4 Z
def QdG:O_ (L_ ByteArray):=j_ (chk (QsH k1)) λ_=>Q (Fy k1)
def Qin (x){r}(h:QdG x=Q r):QX prog 338 [.s x] [] (Gives (.P 600 r) [(600,.R 1 LC r)]):=by
 obtain⟨_,a,h⟩:=QI h;cases h;exact QrC Qwh (by kernel_rfl) (by kernel_rfl) x (QlD a)
def MO  : O_ (L_ ByteArray):=(QdG (⟨#[99,111,108,111,117,114,32,112,108,97,99,101,32,116,97,115,107,32,118,97,114,32,119,104,101,110,32,106,111,105,110,32,115,112,108,105,116,32,105,110,32,111,117,116,32,99,97,110,99,101,108,32,97,102,116,101,114,32,109,97,110,121,32,102,114,111,109,32,116,111,32,105,110,116,32,101,110,117,109,32,112,97,105,114,32,97,110,100,32,120,111,114,32,111,114,32,105,102]⟩:ByteArray)).bind λa=>Q a
def Qmf : CT 307 [] [] (MO ) (λr=>(.P 600 r)) (λr=>[(600,.R 1 LC r)]):=
 W 2 func307 Z<|B λb a=>G [7,.o (.co f_ [.d] 1 (b.map LC) b.length),4,.ren 1 600] Z ⟨(Qin _ a),Qx,.inl Z⟩<|E 0 Z
def Ep (c:ByteArray)(a:Int):O_ (Int⊕(Int⊕Unit)):=cond (a<e2.length) (j_ (idx e2 a) λd=>cond (KT c d) (Q (i_ (y_ a)))<|Q (y_ (Qh (a+1))))<|Q (i_ (i_ ()))
def Er:O_ Int:=Q a
def Es : O_ Int:=Q (-1)
def DH (b:ByteArray):O_ Int:=j_ (Qq (λst=>Ep e2 b st) 0) (Sum.elim (λq=>Er q) (λq=>Es))
def Vi {a b}:CT 337 [.M 1 LC a,.s b] [] (DH a b) V.I no_:=
 W 19 func337 Z<|N 9 Z<|F 4 [0,1,7] [] (λst=>([(8,.I st)],[])) [] [] (λq=>(.ret,([(4,.I q)],[]))) [] [] (λq=>(.exit 0,([],[]))) Z (λc=>I 6 Z (J 15 Z λd=>I 4 Z (L 9 Z)<|R 7 Z)<|X 2 Z) (λe=>E 2 Z) (λ_=>E 8 Z)
def Wz (b:ByteArray):O_ Bool:=j_ (DH e2 b) λc=>Q (decide (0<=c))
def RV {a c}:CT 306 [.M 1 LC a,.s c] [] (Wz a c) V.b no_:=
 W 9 func306 Z<|A 9 Vi Z λd=>E 5 Z
def Zi:O_ Bool:=j_ (MO) λb=>j_ (Wz b k1) λc=>Q c
def Qos {a}:CT 255 [.s a] [] (Zi a) V.b no_:=
 W 6 func255 Z<|oC_ 7 [] Qmf Z λc=>cV_ 1 [.o _,.d] RV Z λe=>E 4 Z
def QeX:O_ Bool:=j_ (GD k1) λb=>cond b (j_ (Zi k1) λc=>Q (!c))<|Q f_
def QeY:O_ Bool:=Q m
def Aj:O_ Bool:=j_ (QeX k1) (λb=>QeY b)
def Hg {a}:CT 175 [.s a] [] (Aj a) V.b no_:=
 W 10 func175 Z<|mV_ 6 [] [] (λc=>([(2,.b c)],[])) Z (A 2 Tp Z λd=>I 1 Z (A 1 Qos Z λe=>M 4 Z)<|M 6 Z) λc=>E 2 Z
def AE:O_ Bool:=j_ (Aj k1) λb=>Q (!b)
def QdH {a}:CT 177 [.s a] [] (AE a) V.b no_:=
 W 6 func177 Z<|A 8 Hg Z λc=>E 5 Z
def DI:O_ (Int⊕(Int⊕Unit)):=cond (o<e2.length) (j_ (idx e2 o) λc=>j_ (AE c) λd=>cond d (Q (i_ (y_ o)))<|Q (y_ (Qh (o+1))))<|Q (i_ (i_ ()))
def DJ:O_ Int:=Q a
def DK : O_ Int:=Q (-1)
def Wn:O_ Int:=j_ (Qq (λst=>DI e2 st) 0) (Sum.elim (λq=>DJ q) (λq=>DK))
def PR {a}:CT 256 [.M 1 LC a,.clo (.func 177) [] []] [] (Wn a) V.I no_:=
 W 19 func256 Z<|N 9 Z<|F 4 [0,1,7] [] (λst=>([(8,.I st)],[])) [] [] (λq=>(.ret,([(4,.I q)],[]))) [] [] (λq=>(.exit 0,([],[]))) Z (λb=>I 6 Z (J 15 Z λc=>A 1 QdH Z λd=>I 2 Z (L 9 Z)<|R 7 Z)<|X 2 Z) (λe=>E 2 Z) (λ_=>E 8 Z)
def Kx:O_ Bool:=j_ (Wn e2) λb=>Q (decide (0<=b))
def Nx {a}:CT 176 [.M 1 LC a,.clo (.func 177) [] []] [] (Kx a) V.b no_:=
 W 9 func176 Z<|S 9 .fn [] PR Z λc=>E 5 Z
def Sq (a:QK):O_ Bool:=j_ (Aj a.Name) λb=>cond b (cond (a.Kind != 2) (Q t_)<|j_ (Kx a.Names) λc=>Q (!c))<|Q f_
def Sr:O_ Bool:=Q m
def Fa (a:QK):O_ Bool:=j_ (Sq a) (λb=>Sr b)
def Qf3 {a}:CT 174 [.L 621] [(621,.W Xm a)] (Fa a) V.b (λ_=>[(621,.W Xm a)]):=
 W 16 func174 Z<|mV_ 6 [] [621] (λc=>([(1,.b c)],[])) Z (A 3 Hg Z λd=>I 1 Z (I 4 Z (M 8 Z)<|S 2 .fn [] Nx Z λe=>M 5 Z)<|M 12 Z) λc=>E 2 Z
def LP (e:QK)(f:Int):O_ Int:=j_ (CZ b c) λg=>cond (!g) (Q d)<|j_ (Fa e) λa=>cond (!a) (Q f)<|Q 0
def Qio {a b c d e}:CT 105 [.own 621 2] [(621,.var [.clo (.func 178) [] [.L 622,.L 623],.I c,.clo (.func 174) [] [.L 624],.I e]),(622,.W Qi a),(623,.W Qb b),(624,.W Xm d)] (LP a b c d e) V.I (λ_=>[(621,.var [.clo (.func 178) [] [.L 622,.L 623],.I c,.clo (.func 174) [] [.L 624],.I e]),(622,.W Qi a),(623,.W Qb b),(624,.W Xm d)]):=
 W 18 func105 Z<|lN_ 14 3 Z<|vI_ 13 621 0 Z<|S 9 .clo [(621,622),(622,623)] Qf2 Z λg=>I 3 Z (E 13 Z)<|rd_ 7 Z<|vI_ 13 621 2 Z<|gT_ [1,.kill 4,8] Z<|S 0 .clo [(621,624)] Qf3 Z λf=>I 3 Z (E 13 Z)<|rd_ 7 Z<|E 18 Z
def HX (b:QK)(c:Qc):O_ Int:=j_ (LP c a 8 b 8) λd=>Q d
def QhG {b c a}:CT 173 [.I b,.G Xm c,.L 621] [(621,.W Qi a)] (HX b c a) V.I (λ_=>[(621,.W Qi a)]):=
 W 16 func173 Z<|K [25,.o (.any (.own 14 2) (Q (.var [.clo (.func 178) [] [.L 621,.L 3],.I 8,.clo (.func 174) [] [.L 4],.I 8])))] Z (λd=>(a1_ (λz e f h=>Qf.buildAny Z Z (QP d.n Z) (QC.es Z) Qbq Z (by decide) (by decide) (Ck e Z) Z Z (h Z))))<|S 0 .fn [(621,14),(622,621),(623,3),(624,4)] Qio Z λg=>E 4 Z
def Ba:O_ (Int⊕((Int×Int)⊕Unit)):=cond (e0<g0.length) (j_ (idx g0 e0) λc=>j_ (HX e0 c k0) λb=>cond (b != 0) (Q (i_ (y_ (e0,b))))<|Q (y_ (Qh (e0+1))))<|Q (i_ (i_ ()))
def Bb:O_ (Int×Int):=Q (a,h)
def Bc : O_ (Int×Int):=Q (0,0)
def Ue:O_ (Int×Int):=j_ (Qq (λst=>Ba g0 k0 st) 0) (Sum.elim (λq=>Bb q.1 q.2) (λq=>Bc))
def QbQ {b a}:CT 172 [.M 7 Xm b,.clo (.func 173) [] [.L 621]] [(621,.W Qi a)] (Ue b a) (λr=>(.tup [.I r.1,.I r.2])) (λ_=>[(621,.W Qi a)]):=
 W 25 func172 Z<|N 10 Z<|F 4 [1,9,10] [621] (λst=>([(11,.I st)],[])) [] [621] (λq=>(.ret,([(4,.I q.1),(5,.I q.2)],[]))) [] [621] (λq=>(.exit 0,([],[]))) Z (λf=>I 6 Z (J 7 Z λc=>S 11 .clo [(621,621)] QhG Z λd=>I 9 Z (L 11 Z)<|R 7 Z)<|X 2 Z) (λ⟨g,e⟩=>E 2 Z) (λ_=>E 9 Z)
def Hh:O_ (Int×Int):=j_ (Ue b.Colours b) λa=>Q (a.1,a.2)
def Qbu {a}:CT 110 [.G Qi a] [] (Hh a) (λr=>(.tup [.I r.1,.I r.2])) no_:=
 W 10 func110 Z<|S 12 .fn [(621,1)] QbQ Z λb=>E 7 Z
def NR (a:Xn):O_ Bool:=j_ (Aj a.Name) λb=>Q b
def Qjm {a}:CT 181 [.L 621] [(621,.W Xd a)] (NR a) V.b (λ_=>[(621,.W Xd a)]):=
 W 5 func181 Z<|A 9 Hg Z λc=>E 4 Z
def NS (a:Xn)(b:Xn):O_ Bool:=Q (KT a.Name b.Name)
def Qjn {c a}:CT 180 [.G Xd c,.L 621] [(621,.W Xd a)] (NS c a) V.b (λ_=>[(621,.W Xd a)]):=
 W 9 func180 Z<|E 17 Z
def KX (c:(L_ Xn))(d:Xn)(a:Int):O_ (Int⊕(Int⊕Unit)):=cond (a<c.length) (j_ (idx c a) λe=>j_ (NS e d) λb=>cond b (Q (i_ (y_ a)))<|Q (y_ (Qh (a+1))))<|Q (i_ (i_ ()))
def KY:O_ Int:=Q a
def KZ : O_ Int:=Q (-1)
def JU (a:(L_ Xn))(b:Xn):O_ Int:=j_ (Qq (λst=>KX a b st) 0) (Sum.elim (λq=>KY q) (λq=>KZ))
def Lp {b a}:CT 258 [.M 3 Xd b,.clo (.func 180) [] [.L 621]] [(621,.W Xd a)] (JU b a) V.I (λ_=>[(621,.W Xd a)]):=
 W 19 func258 Z<|N 9 Z<|F 4 [0,1,7] [621] (λst=>([(8,.I st)],[])) [] [621] (λq=>(.ret,([(4,.I q)],[]))) [] [621] (λq=>(.exit 0,([],[]))) Z (λd=>I 6 Z (J 15 Z λe=>S 1 .clo [(621,621)] Qjn Z λc=>I 2 Z (L 9 Z)<|R 7 Z)<|X 2 Z) (λf=>E 2 Z) (λ_=>E 8 Z)
def Jx (a:(L_ Xn))(b:Xn):O_ Bool:=j_ (JU a b) λc=>Q (decide (0<=c))
def HH {c a}:CT 183 [.M 3 Xd c,.clo (.func 180) [] [.L 621]] [(621,.W Xd a)] (Jx c a) V.b (λ_=>[(621,.W Xd a)]):=
 W 9 func183 Z<|S 9 .fn [(621,621)] Lp Z λd=>E 5 Z
def NT (a:Xn):O_ Bool:=j_ (chk (decide (0<=c)&&decide (0<=c.toNat)&&decide (c.toNat<=b.Places.length))) λ_=>j_ (Jx ((b.Places.drop 0).take (c.toNat-0)) a) λd=>Q (!d)
def Qjo {e f g}:CT 182 [.L 621,.L 622,.L 623] [(621,.W Qi e),(622,.W Qb f),(623,.var [.clo (.func 180) [] [.L 624]]),(624,.W Xd g)] (NT e f g) V.b (λ_=>[(621,.W Qi e),(622,.W Qb f),(623,.var [.clo (.func 180) [] [.L 624]]),(624,.W Xd g)]):=
 W 11 func182 Z<|kA_ λc=>B λj i=>Us 6 Z [.N,.N,.N,.B (.any (.sl 3 (((e.Places.drop 0).take (f.toNat-0)).map Xd)) n_),.N,.B (.any (.b j) n_),.N,.m .s] [] [] [3] [621,622,623,624] Z Z (λk=>(a2_ (λz h l _=>Qf.sliceD Z Z (QP k.n Z) (h _ _ Z) (QC.es Z) GL.no (GL.val (h _ _ Z) (Xe (MC c)) Z) (Xe (ME c)) (Yq (Xe (Qbn c)) (Ih Qx.symm)) SD) (λz h l _=>Qf.callSame (md:=.cm (.fn) [(621,624)] [(624,621)] [] [.d,.d] [(621,.W Xd g)] (.b j) [624]) QC k h l Z (a2_ (HH _ i) r1_)))) Z<|E 2 Z
def Dj:O_ Bool:=Q ((0<=o)&&(o<g0.length))
def Ls {d c}:CT 185 [.M 7 Xm d,.I c] [] (Dj d c) V.b no_:=
 W 13 func185 Z<|T 6 [] [] ([(4,.b ((0<=c)&&(c<d.length)))],[]) Z (H 4 Z (λa=>N 2 Z<|Y 4 4 Z (Ye a Z)) λa=>Y 7 4 Z (YH a Z))<|E 2 Z
def NU (a:Xn):O_ Bool:=j_ (Dj b.Colours a.Colour) λc=>Q c
def Qjp {a c}:CT 184 [.L 621,.L 622] [(621,.W Qi a),(622,.W Xd c)] (NU a c) V.b (λ_=>[(621,.W Qi a),(622,.W Xd c)]):=
 W 8 func184 Z<|A 11 Ls Z λd=>E 4 Z
def NV (a:Xn):O_ Bool:=j_ (Gr a.First) λb=>Q b
def Qjq {a}:CT 186 [.L 621] [(621,.W Xd a)] (NV a) V.b (λ_=>[(621,.W Xd a)]):=
 W 5 func186 Z<|A 9 BY Z λc=>E 4 Z
def HY (a:(Int×Int))(b:Int):O_ Bool:=Q (decide (b<=a.1))
def QhH {a c}:CT 189 [.G QB a,.L 621] [(621,.W Qb c)] (HY a c) V.b (λ_=>[(621,.W Qb c)]):=
 W 8 func189 Z<|E 16 Z
def DL:O_ (Int⊕(Int⊕Unit)):=cond (d<g.length) (j_ (idx g d) λe=>j_ (HY e c) λb=>cond b (Q (i_ (y_ d)))<|Q (y_ (Qh (d+1))))<|Q (i_ (i_ ()))
def DM:O_ Int:=Q a
def DN : O_ Int:=Q (-1)
def Wo:O_ Int:=j_ (Qq (λst=>DL g c st) 0) (Sum.elim (λq=>DM q) (λq=>DN))
def PS {b a}:CT 259 [.M 2 QB b,.clo (.func 189) [] [.L 621]] [(621,.W Qb a)] (Wo b a) V.I (λ_=>[(621,.W Qb a)]):=
 W 19 func259 Z<|N 9 Z<|F 4 [0,1,7] [621] (λst=>([(8,.I st)],[])) [] [621] (λq=>(.ret,([(4,.I q)],[]))) [] [621] (λq=>(.exit 0,([],[]))) Z (λd=>I 6 Z (J 15 Z λe=>S 1 .clo [(621,621)] QhH Z λc=>I 2 Z (L 9 Z)<|R 7 Z)<|X 2 Z) (λf=>E 2 Z) (λ_=>E 8 Z)
def Kz:O_ Bool:=j_ (Wo g c) λa=>Q (decide (0<=a))
def Ny {c a}:CT 188 [.M 2 QB c,.clo (.func 189) [] [.L 621]] [(621,.W Qb a)] (Kz c a) V.b (λ_=>[(621,.W Qb a)]):=
 W 9 func188 Z<|S 9 .fn [(621,621)] PS Z λd=>E 5 Z
def NW (a:Xn):O_ Bool:=j_ (Jg b.Colours a.Colour) λc=>j_ (Kz a.First c) λd=>Q (!d)
def Qjr {a c}:CT 187 [.L 621,.L 622] [(621,.W Qi a),(622,.W Xd c)] (NW a c) V.b (λ_=>[(621,.W Qi a),(622,.W Xd c)]):=
 W 14 func187 Z<|A 11 LE Z λd=>S 9 .fn [(621,3)] Ny Z λe=>E 5 Z
def LQ (a:Xn)(h:Int)(b:Qc)(i:Int)(j:Int)(k:Int)(l:Int)(m:Int):O_ Int:=j_ (NR a) λc=>cond (!c) (Q h)<|j_ (NT b i a) λd=>cond (!d) (Q j)<|j_ (NU b a) λe=>cond (!e) (Q k)<|j_ (NV a) λf=>cond (!f) (Q l)<|j_ (NW b a) λg=>cond (!g) (Q m)<|Q 0
def Qip {a b c d e f g h}:CT 105 [.own 621 5] [(621,.var [.clo (.func 181) [] [.L 622],.I b,.clo (.func 182) [] [.L 623,.L 624,.L 625],.I e,.clo (.func 184) [] [.L 623,.L 622],.I f,.clo (.func 186) [] [.L 622],.I g,.clo (.func 187) [] [.L 623,.L 622],.I h]),(622,.W Xd a),(623,.W Qi c),(624,.W Qb d),(625,.var [.clo (.func 180) [] [.L 622]])] (LQ a b c d e f g h) V.I (λ_=>[(621,.var [.clo (.func 181) [] [.L 622],.I b,.clo (.func 182) [] [.L 623,.L 624,.L 625],.I e,.clo (.func 184) [] [.L 623,.L 622],.I f,.clo (.func 186) [] [.L 622],.I g,.clo (.func 187) [] [.L 623,.L 622],.I h]),(622,.W Xd a),(623,.W Qi c),(624,.W Qb d),(625,.var [.clo (.func 180) [] [.L 622]])]):=
 W 18 func105 Z<|lN_ 14 6 Z<|vI_ 13 621 0 Z<|S 9 .clo [(621,622)] Qjm Z λi=>I 3 Z (E 13 Z)<|rd_ 7 Z<|vI_ 13 621 2 Z<|gT_ [1,.kill 4,8] Z<|S 0 .clo [(621,623),(622,624),(623,625),(624,622)] Qjo Z λj=>I 3 Z (E 13 Z)<|rd_ 7 Z<|vI_ 13 621 4 Z<|gT_ [1,.kill 4,8] Z<|S 0 .clo [(621,623),(622,622)] Qjp Z λk=>I 3 Z (E 13 Z)<|rd_ 7 Z<|vI_ 13 621 6 Z<|gT_ [1,.kill 4,8] Z<|S 0 .clo [(621,622)] Qjq Z λl=>I 3 Z (E 13 Z)<|rd_ 7 Z<|vI_ 13 621 8 Z<|gT_ [1,.kill 4,8] Z<|S 0 .clo [(621,623),(622,622)] Qjr Z λm=>I 3 Z (E 13 Z)<|rd_ 7 Z<|E 18 Z
def SL:O_ Int:=j_ (Jw b.Places c) λa=>cond (!a) (Q 3)<|j_ (idx b.Places c) λd=>j_ (LQ d 1 b c 5 3 1 8) λe=>Q e
def Qmg {a b}:CT 113 [.G Qi a,.I b] [] (SL a b) V.I no_:=
 W 30 func113 Z<|A 13 Wt Z λe=>I 3 Z (E 7 Z)<|J 7 Z λf=>K [24,.o (.any (.own 28 5) (Q (.var [.clo (.func 181) [] [.L 5],.I 1,.clo (.func 182) [] [.L 2,.L 3,.L 6],.I 5,.clo (.func 184) [] [.L 2,.L 5],.I 3,.clo (.func 186) [] [.L 5],.I 1,.clo (.func 187) [] [.L 2,.L 5],.I 8])))] Z (λc=>(a1_ (λz d g O=>Qf.buildAny Z Z (QP c.n Z) (QC.es Z) Qbq Z (by decide) (by decide) (Ck d Z) Z Z (O Z))))<|S 0 .fn [(621,28),(622,5),(623,2),(624,3),(625,6)] Qip Z λh=>E 4 Z
def SM (d:Xn)(b:Qc):O_ Int:=j_ (SL b a) λc=>Q c
def Qmh {b c a}:CT 112 [.I b,.G Xd c,.L 621] [(621,.W Qi a)] (SM b c a) V.I (λ_=>[(621,.W Qi a)]):=
 W 9 func112 Z<|A 10 Qmg Z λd=>E 4 Z
def BI (d:(L_ Xn))(e:Qc)(a:Int):O_ (Int⊕((Int×Int)⊕Unit)):=cond (a<d.length) (j_ (idx d a) λc=>j_ (SM a c e) λb=>cond (b != 0) (Q (i_ (y_ (a,b))))<|Q (y_ (Qh (a+1))))<|Q (i_ (i_ ()))
def BJ:O_ (Int×Int):=Q (a,h)
def BK : O_ (Int×Int):=Q (0,0)
def UU (a:(L_ Xn))(b:Qc):O_ (Int×Int):=j_ (Qq (λst=>BI a b st) 0) (Sum.elim (λq=>BJ q.1 q.2) (λq=>BK))
def QcE {b a}:CT 111 [.M 3 Xd b,.clo (.func 112) [] [.L 621]] [(621,.W Qi a)] (UU b a) (λr=>(.tup [.I r.1,.I r.2])) (λ_=>[(621,.W Qi a)]):=
 W 25 func111 Z<|N 10 Z<|F 4 [1,9,10] [621] (λst=>([(11,.I st)],[])) [] [621] (λq=>(.ret,([(4,.I q.1),(5,.I q.2)],[]))) [] [621] (λq=>(.exit 0,([],[]))) Z (λf=>I 6 Z (J 7 Z λc=>S 11 .clo [(621,621)] Qmh Z λd=>I 9 Z (L 11 Z)<|R 7 Z)<|X 2 Z) (λ⟨g,e⟩=>E 2 Z) (λ_=>E 9 Z)
def Ks (b:(L_ QL))(a:Int):O_ Bool:=Q ((0<=a)&&(a<b.length))
def NX {d c}:CT 118 [.M 14 QE d,.I c] [] (Ks d c) V.b no_:=
 W 13 func118 Z<|T 6 [] [] ([(4,.b ((0<=c)&&(c<d.length)))],[]) Z (H 4 Z (λa=>N 2 Z<|Y 4 4 Z (Ye a Z)) λa=>Y 7 4 Z (YH a Z))<|E 2 Z
def SN (a:Int)(b:Qc)(c:QL):O_ Unit:=Q ()
def Qmi {a b c}:CT 195 [.L 621,.clo (.func 196) [] [.L 622,.L 623]] [(621,.W Qb a),(622,.W Qi b),(623,.W QE c)] (SN a b c) (λ_=>(.clo (.func 261) [] [.L 3,.L 2])) (λ_=>[(2,.var [.L 621]),(3,.var [.clo (.func 196) [] [.L 622,.L 623]]),(621,.W Qb a),(622,.W Qi b),(623,.W QE c)]):=
 W 6 func195 Z<|E 14 Z
def LR (a:Int)(b:Qc)(c:QL)(d:Int):O_ Unit:=Q ()
def Qiq {a b c d}:CT 195 [.L 621,.clo (.func 201) [] [.L 622,.L 623,.L 624]] [(621,.W Qb a),(622,.W Qi b),(623,.W QE c),(624,.W Qb d)] (LR a b c d) (λ_=>(.clo (.func 261) [] [.L 3,.L 2])) (λ_=>[(2,.var [.L 621]),(3,.var [.clo (.func 201) [] [.L 622,.L 623,.L 624]]),(621,.W Qb a),(622,.W Qi b),(623,.W QE c),(624,.W Qb d)]):=
 W 6 func195 Z<|E 14 Z
def LS (a:Int)(b:Qc)(c:QL)(d:Int):O_ Unit:=Q ()
def Qir {a b c d}:CT 195 [.L 621,.clo (.func 203) [] [.L 622,.L 623,.L 624]] [(621,.W Qb a),(622,.W Qi b),(623,.W QE c),(624,.W Qb d)] (LS a b c d) (λ_=>(.clo (.func 261) [] [.L 3,.L 2])) (λ_=>[(2,.var [.L 621]),(3,.var [.clo (.func 203) [] [.L 622,.L 623,.L 624]]),(621,.W Qb a),(622,.W Qi b),(623,.W QE c),(624,.W Qb d)]):=
 W 6 func195 Z<|E 14 Z
def LT (a:Int)(b:Qc)(c:QL):O_ Unit:=Q ()
def Qis {a b c}:CT 195 [.L 621,.clo (.func 204) [] [.L 622,.L 623]] [(621,.W Qb a),(622,.W Qi b),(623,.W QE c)] (LT a b c) (λ_=>(.clo (.func 261) [] [.L 3,.L 2])) (λ_=>[(2,.var [.L 621]),(3,.var [.clo (.func 204) [] [.L 622,.L 623]]),(621,.W Qb a),(622,.W Qi b),(623,.W QE c)]):=
 W 6 func195 Z<|E 14 Z
def PT:O_ Bool:=j_ (Aj j.Name) λb=>Q b
def QkO {a}:CT 191 [.L 621] [(621,.W QE a)] (PT a) V.b (λ_=>[(621,.W QE a)]):=
 W 5 func191 Z<|A 9 Hg Z λc=>E 4 Z
def PU (b:QL):O_ Bool:=Q (KT j.Name b.Name)
def QkP {c a}:CT 190 [.G QE c,.L 621] [(621,.W QE a)] (PU c a) V.b (λ_=>[(621,.W QE a)]):=
 W 9 func190 Z<|E 17 Z
def Wu (c:(L_ QL))(d:QL)(a:Int):O_ (Int⊕(Int⊕Unit)):=cond (a<c.length) (j_ (idx c a) λe=>j_ (PU e d) λb=>cond b (Q (i_ (y_ a)))<|Q (y_ (Qh (a+1))))<|Q (i_ (i_ ()))
def Wv:O_ Int:=Q a
def Ww : O_ Int:=Q (-1)
def Kn (a:(L_ QL))(b:QL):O_ Int:=j_ (Qq (λst=>Wu a b st) 0) (Sum.elim (λq=>Wv q) (λq=>Ww))
def MP {b a}:CT 260 [.M 14 QE b,.clo (.func 190) [] [.L 621]] [(621,.W QE a)] (Kn b a) V.I (λ_=>[(621,.W QE a)]):=
 W 19 func260 Z<|N 9 Z<|F 4 [0,1,7] [621] (λst=>([(8,.I st)],[])) [] [621] (λq=>(.ret,([(4,.I q)],[]))) [] [621] (λq=>(.exit 0,([],[]))) Z (λd=>I 6 Z (J 15 Z λe=>S 1 .clo [(621,621)] QkP Z λc=>I 2 Z (L 9 Z)<|R 7 Z)<|X 2 Z) (λf=>E 2 Z) (λ_=>E 8 Z)
def JO (a:(L_ QL))(b:QL):O_ Bool:=j_ (Kn a b) λc=>Q (decide (0<=c))
def IW {c a}:CT 193 [.M 14 QE c,.clo (.func 190) [] [.L 621]] [(621,.W QE a)] (JO c a) V.b (λ_=>[(621,.W QE a)]):=
 W 9 func193 Z<|S 9 .fn [(621,621)] MP Z λd=>E 5 Z
def PV:O_ Bool:=j_ (chk (decide (0<=c)&&decide (0<=c.toNat)&&decide (c.toNat<=b.Tasks.length))) λ_=>j_ (JO ((b.Tasks.drop 0).take (c.toNat-0)) j) λd=>Q (!d)
def QkQ {e f g}:CT 192 [.L 621,.L 622,.L 623] [(621,.W Qi e),(622,.W Qb f),(623,.var [.clo (.func 190) [] [.L 624]]),(624,.W QE g)] (PV e f g) V.b (λ_=>[(621,.W Qi e),(622,.W Qb f),(623,.var [.clo (.func 190) [] [.L 624]]),(624,.W QE g)]):=
 W 11 func192 Z<|kA_ λc=>B λj i=>Us 6 Z [.N,.N,.N,.B (.any (.sl 14 (((e.Tasks.drop 0).take (f.toNat-0)).map QE)) n_),.N,.B (.any (.b j) n_),.N,.m .s] [] [] [3] [621,622,623,624] Z Z (λk=>(a2_ (λz h l _=>Qf.sliceD Z Z (QP k.n Z) (h _ _ Z) (QC.es Z) GL.no (GL.val (h _ _ Z) (Xe (MC c)) Z) (Xe (ME c)) (Yq (Xe (Qbn c)) (Ih Qx.symm)) SD) (λz h l _=>Qf.callSame (md:=.cm (.fn) [(621,624)] [(624,621)] [] [.d,.d] [(621,.W QE g)] (.b j) [624]) QC k h l Z (a2_ (IW _ i) r1_)))) Z<|E 2 Z
def IX:O_ Bool:=Q ((a<=16)&&((max2 (max2 j.Ins.length j.Outs.length) j.Cancel.length)<=16))
def QkR {d a}:CT 194 [.L 621,.L 622] [(621,.W Qb d),(622,.W QE a)] (IX d a) V.b (λ_=>[(621,.W Qb d),(622,.W QE a)]):=
 W 18 func194 Z<|T 6 [] [621,622] ([(2,.b ((d<=16)&&((max2 (max2 a.Ins.length a.Outs.length) a.Cancel.length)<=16)))],[]) Z (H 4 Z (λc=>N 2 Z<|N 2 Z<|N 2 Z<|K [.o (.any (.I (max2 (max2 a.Ins.length a.Outs.length) a.Cancel.length)) n_),4] Z (λf=>(a1_ (λz e g _=>Qf.max3 Z Z (QP f.n Z) (e _ _ Z) (e _ _ Z) (e _ _ Z))))<|Y 0 2 Z (Ye c Z)) λc=>Y 14 2 Z (YH c Z))<|E 2 Z
def AG (a:JH):O_ Bool:=j_ (Aj a.Name) λb=>Q b
def QdI {a}:CT 265 [.L 621] [(621,.W YM a)] (AG a) V.b (λ_=>[(621,.W YM a)]):=
 W 5 func265 Z<|A 9 Hg Z λc=>E 4 Z
def AH (a:JH)(b:JH):O_ Bool:=Q (KT a.Name b.Name)
def QdJ {c a}:CT 264 [.G YM c,.L 621] [(621,.W YM a)] (AH c a) V.b (λ_=>[(621,.W YM a)]):=
 W 9 func264 Z<|E 17 Z
def WT (c:(L_ JH))(d:JH)(a:Int):O_ (Int⊕(Int⊕Unit)):=cond (a<c.length) (j_ (idx c a) λe=>j_ (AH e d) λb=>cond b (Q (i_ (y_ a)))<|Q (y_ (Qh (a+1))))<|Q (i_ (i_ ()))
def WU:O_ Int:=Q a
def WV : O_ Int:=Q (-1)
def KL (a:(L_ JH))(b:JH):O_ Int:=j_ (Qq (λst=>WT a b st) 0) (Sum.elim (λq=>WU q) (λq=>WV))
def Ox {b a}:CT 309 [.M 2 YM b,.clo (.func 264) [] [.L 621]] [(621,.W YM a)] (KL b a) V.I (λ_=>[(621,.W YM a)]):=
 W 19 func309 Z<|N 9 Z<|F 4 [0,1,7] [621] (λst=>([(8,.I st)],[])) [] [621] (λq=>(.ret,([(4,.I q)],[]))) [] [621] (λq=>(.exit 0,([],[]))) Z (λd=>I 6 Z (J 15 Z λe=>S 1 .clo [(621,621)] QdJ Z λc=>I 2 Z (L 9 Z)<|R 7 Z)<|X 2 Z) (λf=>E 2 Z) (λ_=>E 8 Z)
def Ke (a:(L_ JH))(b:JH):O_ Bool:=j_ (KL a b) λc=>Q (decide (0<=c))
def LU {c a}:CT 267 [.M 2 YM c,.clo (.func 264) [] [.L 621]] [(621,.W YM a)] (Ke c a) V.b (λ_=>[(621,.W YM a)]):=
 W 9 func267 Z<|S 9 .fn [(621,621)] Ox Z λd=>E 5 Z
def AI (b:(L_ JH))(a:Int)(c:JH):O_ Bool:=j_ (chk (decide (0<=a)&&decide (0<=a.toNat)&&decide (a.toNat<=b.length))) λ_=>j_ (Ke ((b.drop 0).take (a.toNat-0)) c) λd=>Q (!d)
def QdK {e f g}:CT 266 [.L 621,.L 622,.L 623] [(621,.W FW e),(622,.W Qb f),(623,.var [.clo (.func 264) [] [.L 624]]),(624,.W YM g)] (AI e f g) V.b (λ_=>[(621,.W FW e),(622,.W Qb f),(623,.var [.clo (.func 264) [] [.L 624]]),(624,.W YM g)]):=
 W 10 func266 Z<|kA_ λc=>B λj i=>Us 6 Z [.N,.N,.B (.any (.sl 2 (((e.drop 0).take (f.toNat-0)).map YM)) n_),.N,.B (.any (.b j) n_),.N,.m .s] [] [] [3] [621,622,623,624] Z Z (λk=>(a2_ (λz h l _=>Qf.sliceD Z Z (QP k.n Z) (h _ _ Z) (QC.es Z) GL.no (GL.val (h _ _ Z) (Xe (MC c)) Z) (Xe (ME c)) (Yq (Xe (Qbn c)) (Ih Qx.symm)) SD) (λz h l _=>Qf.callSame (md:=.cm (.fn) [(621,624)] [(624,621)] [] [.d,.d] [(621,.W YM g)] (.b j) [624]) QC k h l Z (a2_ (LU _ i) r1_)))) Z<|E 2 Z
def AJ (a:JH):O_ Bool:=j_ (Dj b.Colours a.Colour) λc=>Q c
def QdL {a c}:CT 268 [.L 621,.L 622] [(621,.W Qi a),(622,.W YM c)] (AJ a c) V.b (λ_=>[(621,.W Qi a),(622,.W YM c)]):=
 W 8 func268 Z<|A 11 Ls Z λd=>E 4 Z
def LV (a:JH)(e:Int)(f:(L_ JH))(g:Int)(h:Int)(i:Qc)(j:Int):O_ Int:=j_ (AG a) λb=>cond (!b) (Q e)<|j_ (AI f g a) λc=>cond (!c) (Q h)<|j_ (AJ i a) λd=>cond (!d) (Q j)<|Q 0
def Qit {a b c d e f g}:CT 105 [.own 621 3] [(621,.var [.clo (.func 265) [] [.L 622],.I b,.clo (.func 266) [] [.L 623,.L 624,.L 625],.I e,.clo (.func 268) [] [.L 626,.L 622],.I g]),(622,.W YM a),(623,.W FW c),(624,.W Qb d),(625,.var [.clo (.func 264) [] [.L 622]]),(626,.W Qi f)] (LV a b c d e f g) V.I (λ_=>[(621,.var [.clo (.func 265) [] [.L 622],.I b,.clo (.func 266) [] [.L 623,.L 624,.L 625],.I e,.clo (.func 268) [] [.L 626,.L 622],.I g]),(622,.W YM a),(623,.W FW c),(624,.W Qb d),(625,.var [.clo (.func 264) [] [.L 622]]),(626,.W Qi f)]):=
 W 18 func105 Z<|lN_ 14 4 Z<|vI_ 13 621 0 Z<|S 9 .clo [(621,622)] QdI Z λh=>I 3 Z (E 13 Z)<|rd_ 7 Z<|vI_ 13 621 2 Z<|gT_ [1,.kill 4,8] Z<|S 0 .clo [(621,623),(622,624),(623,625),(624,622)] QdK Z λi=>I 3 Z (E 13 Z)<|rd_ 7 Z<|vI_ 13 621 4 Z<|gT_ [1,.kill 4,8] Z<|S 0 .clo [(621,626),(622,622)] QdL Z λj=>I 3 Z (E 13 Z)<|rd_ 7 Z<|E 18 Z
def Fb (b:JH)(c:(L_ JH))(d:Qc):O_ Int:=j_ (LV b 1 c a 5 d 3) λe=>Q e
def Qf4 {c d a b}:CT 263 [.I c,.G YM d,.L 621,.L 622] [(621,.W FW a),(622,.W Qi b)] (Fb c d a b) V.I (λ_=>[(621,.W FW a),(622,.W Qi b)]):=
 W 17 func263 Z<|K [22,.o (.any (.own 15 3) (Q (.var [.clo (.func 265) [] [.L 5],.I 1,.clo (.func 266) [] [.L 621,.L 4,.L 7],.I 5,.clo (.func 268) [] [.L 622,.L 5],.I 3])))] Z (λe=>(a1_ (λz f g O=>Qf.buildAny Z Z (QP e.n Z) (QC.es Z) Qbq Z (by decide) (by decide) (Ck f Z) Z Z (O Z))))<|S 0 .fn [(621,15),(622,5),(623,621),(624,4),(625,7),(626,622)] Qit Z λh=>E 4 Z
def Fk (d:(L_ JH))(e:(L_ JH))(f:Qc)(a:Int):O_ (Int⊕((Int×Int)⊕Unit)):=cond (a<d.length) (j_ (idx d a) λc=>j_ (Fb a c e f) λb=>cond (b != 0) (Q (i_ (y_ (a,b))))<|Q (y_ (Qh (a+1))))<|Q (i_ (i_ ()))
def Fl:O_ (Int×Int):=Q (a,h)
def Fm : O_ (Int×Int):=Q (0,0)
def BL (a:(L_ JH))(b:(L_ JH))(c:Qc):O_ (Int×Int):=j_ (Qq (λst=>Fk a b c st) 0) (Sum.elim (λq=>Fl q.1 q.2) (λq=>Fm))
def Qet {c a b}:CT 262 [.M 2 YM c,.clo (.func 263) [] [.L 621,.L 622]] [(621,.W FW a),(622,.W Qi b)] (BL c a b) (λr=>(.tup [.I r.1,.I r.2])) (λ_=>[(621,.W FW a),(622,.W Qi b)]):=
 W 25 func262 Z<|N 10 Z<|F 4 [1,9,10] [621,622] (λst=>([(11,.I st)],[])) [] [621,622] (λq=>(.ret,([(4,.I q.1),(5,.I q.2)],[]))) [] [621,622] (λq=>(.exit 0,([],[]))) Z (λh=>I 6 Z (J 7 Z λd=>S 11 .clo [(621,621),(622,622)] Qf4 Z λe=>I 9 Z (L 11 Z)<|R 7 Z)<|X 2 Z) (λ⟨f,g⟩=>E 2 Z) (λ_=>E 9 Z)
def HZ (a:(L_ JH)):O_ Int:=j_ (BL a a b) λc=>Q c.2
def QhI {a b}:CT 197 [.G Qi a,.M 2 YM b] [] (HZ a b) V.I no_:=
 W 14 func197 Z<|S 11 .fn [(621,3),(622,2)] Qet Z λc=>E 14 Z
def PW:O_ Int:=j_ (HZ b j.Vars) λc=>Q c
def QkS {a b}:CT 196 [.L 621,.L 622] [(621,.W Qi a),(622,.W QE b)] (PW a b) V.I (λ_=>[(621,.W Qi a),(622,.W QE b)]):=
 W 7 func196 Z<|A 10 QhI Z λc=>E 4 Z
def AM (d:Int):O_ (Bool×Int):=j_ (PW b j) λa=>Q ((a==0),a)
def Qjs {c e g}:CT 261 [.L 621,.L 624] [(621,.var [.clo (.func 196) [] [.L 622,.L 623]]),(622,.W Qi c),(623,.W QE e),(624,.var [.L 625]),(625,.W Qb g)] (AM c e g) (λr=>(.b r.1)) (λr=>[(621,.var [.clo (.func 196) [] [.L 622,.L 623]]),(622,.W Qi c),(623,.W QE e),(624,.var [.L 625]),(625,.W Qb r.2)]):=
 W 11 func261 Z<|B λh f=>Us 6 Z [.N,.N,.B (.any (.I h) n_),.N,.m .s] [] [] [1] [621,622,623,624,625] Z Z (λi=>(a1_ (λz j k _=>Qf.callSame (md:=.cm (.clo) [(621,622),(622,623)] [(622,621),(623,622)] [] [.d,.d] [(621,.W Qi c),(622,.W QE e)] (.I h) [622,623]) QC i j k Z (a2_ (QkS _ f) r2_)))) Z<|E 11 Z
def Cz:O_ ((Int×Int)⊕(Unit⊕Int)):=cond (i3<j.Vars.length) (j_ (idx j.Vars i3) λd=>j_ (Jg k0.Colours d.Colour) λb=>cond (b==0) (Q (i_ (y_ ())))<|Q (y_ ((min2 (Qh (e0*b)) 1025),(Qh (i3+1)))))<|Q (i_ (i_ e0))
def TC : O_ Int:=Q 0
def TD:O_ Int:=Q a
def GI:O_ Int:=j_ (Ks b.Tasks c) λa=>cond (!a) (Q 0)<|j_ (idx b.Tasks c) λd=>j_ (Qq (λst=>Cz d b st.1 st.2) (1,0)) (Sum.elim (λq=>TC) (λq=>TD q))
def QdM {b c}:CT 65 [.G Qi b,.I c] [] (GI b c) V.I no_:=
 W 38 func65 Z<|A 12 NX Z λg=>I 3 Z (E 7 Z)<|J 13 Z λh=>N 2 Z<|F 4 [2,19,20] [2] (λst=>([(5,.I st.1),(21,.I st.2)],[])) [] [] (λq=>(.ret,([(4,.I 0)],[]))) [] [] (λq=>(.exit 0,([(5,.I q)],[]))) Z (λ⟨d,i⟩=>I 6 Z (J 6 Z λe=>A 11 LE Z λf=>I 10 Z (L 9 Z)<|R 15 Z)<|X 2 Z) (λ_=>E 2 Z) (λa=>E 9 Z)
def IY:O_ Bool:=j_ (GI b c) λa=>Q (decide (a<=1024))
def QkT {a c}:CT 198 [.L 621,.L 622] [(621,.W Qi a),(622,.W Qb c)] (IY a c) V.b (λ_=>[(621,.W Qi a),(622,.W Qb c)]):=
 W 7 func198 Z<|A 9 QdM Z λd=>E 5 Z
def Qb6:O_ Bool:=j_ (Ac j.Guard q) λc=>cond c (cond (0<(j.Ins.length:Int)) (Q (decide (0<(j.Outs.length:Int))))<|Q f_)<|Q f_
def Qb7:O_ Bool:=Q m
def PX:O_ Bool:=j_ (Qb6 j q) (λc=>Qb7 c)
def QkU {a c}:CT 199 [.L 621,.L 622] [(621,.W QE a),(622,.W Qb c)] (PX a c) V.b (λ_=>[(621,.W QE a),(622,.W Qb c)]):=
 W 19 func199 Z<|mV_ 6 [] [621,622] (λd=>([(2,.b d)],[])) Z (A 4 VH Z λe=>I 1 Z (N 2 Z<|I 3 Z (N 2 Z<|M 4 Z)<|M 7 Z)<|M 13 Z) λd=>E 2 Z
def LW (a:Jy):O_ Bool:=j_ (Jw b.Places a.Place) λc=>Q c
def Qiu {a c}:CT 274 [.L 621,.L 622] [(621,.W Qi a),(622,.W KP c)] (LW a c) V.b (λ_=>[(621,.W Qi a),(622,.W KP c)]):=
 W 8 func274 Z<|A 11 Wt Z λd=>E 4 Z
def LX (a:Jy)(b:Int):O_ Bool:=j_ (Ac a.Expr b) λc=>Q c
def Qiv {a c}:CT 275 [.L 621,.L 622] [(621,.W KP a),(622,.W Qb c)] (LX a c) V.b (λ_=>[(621,.W KP a),(622,.W Qb c)]):=
 W 7 func275 Z<|A 10 VH Z λd=>E 4 Z
def LY (c:Jy)(d:Int)(e:Int)(f:Int):O_ Int:=j_ (LW b c) λg=>cond (!g) (Q d)<|j_ (LX c e) λa=>cond (!a) (Q f)<|Q 0
def Qiw {a b c d e}:CT 105 [.own 621 2] [(621,.var [.clo (.func 274) [] [.L 622,.L 623],.I c,.clo (.func 275) [] [.L 623,.L 624],.I e]),(622,.W Qi a),(623,.W KP b),(624,.W Qb d)] (LY a b c d e) V.I (λ_=>[(621,.var [.clo (.func 274) [] [.L 622,.L 623],.I c,.clo (.func 275) [] [.L 623,.L 624],.I e]),(622,.W Qi a),(623,.W KP b),(624,.W Qb d)]):=
 W 18 func105 Z<|lN_ 14 3 Z<|vI_ 13 621 0 Z<|S 9 .clo [(621,622),(622,623)] Qiu Z λg=>I 3 Z (E 13 Z)<|rd_ 7 Z<|vI_ 13 621 2 Z<|gT_ [1,.kill 4,8] Z<|S 0 .clo [(621,623),(622,624)] Qiv Z λf=>I 3 Z (E 13 Z)<|rd_ 7 Z<|E 18 Z
def PY (e:Int)(a:Jy)(b:Qc)(c:Int):O_ Int:=j_ (LY b a 3 c 1) λd=>Q d
def QkV {c d a b}:CT 273 [.I c,.G KP d,.L 621,.L 622] [(621,.W Qi a),(622,.W Qb b)] (PY c d a b) V.I (λ_=>[(621,.W Qi a),(622,.W Qb b)]):=
 W 13 func273 Z<|K [12,.o (.any (.own 11 2) (Q (.var [.clo (.func 274) [] [.L 621,.L 5],.I 3,.clo (.func 275) [] [.L 5,.L 622],.I 1])))] Z (λe=>(a1_ (λz f g O=>Qf.buildAny Z Z (QP e.n Z) (QC.es Z) Qbq Z (by decide) (by decide) (Ck f Z) Z Z (O Z))))<|S 0 .fn [(621,11),(622,621),(623,5),(624,622)] Qiw Z λh=>E 4 Z
def Fo (d:(L_ Jy))(e:Qc)(f:Int)(a:Int):O_ (Int⊕((Int×Int)⊕Unit)):=cond (a<d.length) (j_ (idx d a) λc=>j_ (PY a c e f) λb=>cond (b != 0) (Q (i_ (y_ (a,b))))<|Q (y_ (Qh (a+1))))<|Q (i_ (i_ ()))
def Fp:O_ (Int×Int):=Q (a,h)
def Fq : O_ (Int×Int):=Q (0,0)
def BM (a:(L_ Jy))(b:Qc)(c:Int):O_ (Int×Int):=j_ (Qq (λst=>Fo a b c st) 0) (Sum.elim (λq=>Fp q.1 q.2) (λq=>Fq))
def Qeu {c a b}:CT 272 [.M 4 KP c,.clo (.func 273) [] [.L 621,.L 622]] [(621,.W Qi a),(622,.W Qb b)] (BM c a b) (λr=>(.tup [.I r.1,.I r.2])) (λ_=>[(621,.W Qi a),(622,.W Qb b)]):=
 W 25 func272 Z<|N 10 Z<|F 4 [1,9,10] [621,622] (λst=>([(11,.I st)],[])) [] [621,622] (λq=>(.ret,([(4,.I q.1),(5,.I q.2)],[]))) [] [621,622] (λq=>(.exit 0,([],[]))) Z (λh=>I 6 Z (J 7 Z λd=>S 11 .clo [(621,621),(622,622)] QkV Z λe=>I 9 Z (L 11 Z)<|R 7 Z)<|X 2 Z) (λ⟨f,g⟩=>E 2 Z) (λ_=>E 9 Z)
def OW (c:(L_ Jy))(a:Int):O_ Int:=j_ (BM c b a) λd=>Q d.2
def QeZ {b c a}:CT 202 [.G Qi b,.M 4 KP c,.I a] [] (OW b c a) V.I no_:=
 W 16 func202 Z<|S 11 .fn [(621,3),(622,5)] Qeu Z λd=>E 14 Z
def PZ:O_ Int:=j_ (OW b j.Ins q) λd=>Q d
def QkW {a b c}:CT 201 [.L 621,.L 622,.L 623] [(621,.W Qi a),(622,.W QE b),(623,.W Qb c)] (PZ a b c) V.I (λ_=>[(621,.W Qi a),(622,.W QE b),(623,.W Qb c)]):=
 W 9 func201 Z<|A 11 QeZ Z λd=>E 4 Z
def Ak (e:Int):O_ (Bool×Int):=j_ (PZ b j q) λa=>Q ((a==0),a)
def Qgz {c e f h}:CT 261 [.L 621,.L 625] [(621,.var [.clo (.func 201) [] [.L 622,.L 623,.L 624]]),(622,.W Qi c),(623,.W QE e),(624,.W Qb f),(625,.var [.L 626]),(626,.W Qb h)] (Ak c e f h) (λr=>(.b r.1)) (λr=>[(621,.var [.clo (.func 201) [] [.L 622,.L 623,.L 624]]),(622,.W Qi c),(623,.W QE e),(624,.W Qb f),(625,.var [.L 626]),(626,.W Qb r.2)]):=
 W 11 func261 Z<|B λi g=>Us 6 Z [.N,.N,.B (.any (.I i) n_),.N,.m .s] [] [] [1] [621,622,623,624,625,626] Z Z (λj=>(a1_ (λz k l _=>Qf.callSame (md:=.cm (.clo) [(621,622),(622,623),(623,624)] [(622,621),(623,622),(624,623)] [] [.d,.d,.d] [(621,.W Qi c),(622,.W QE e),(623,.W Qb f)] (.I i) [622,623,624]) QC j k l Z (a2_ (QkW _ g) r3_)))) Z<|E 11 Z
def Ra:O_ Int:=j_ (OW b j.Outs q) λd=>Q d
def QkX {a b c}:CT 203 [.L 621,.L 622,.L 623] [(621,.W Qi a),(622,.W QE b),(623,.W Qb c)] (Ra a b c) V.I (λ_=>[(621,.W Qi a),(622,.W QE b),(623,.W Qb c)]):=
 W 9 func203 Z<|A 11 QeZ Z λd=>E 4 Z
def Al (e:Int):O_ (Bool×Int):=j_ (Ra b j q) λa=>Q ((a==0),a)
def QgA {c e f h}:CT 261 [.L 621,.L 625] [(621,.var [.clo (.func 203) [] [.L 622,.L 623,.L 624]]),(622,.W Qi c),(623,.W QE e),(624,.W Qb f),(625,.var [.L 626]),(626,.W Qb h)] (Al c e f h) (λr=>(.b r.1)) (λr=>[(621,.var [.clo (.func 203) [] [.L 622,.L 623,.L 624]]),(622,.W Qi c),(623,.W QE e),(624,.W Qb f),(625,.var [.L 626]),(626,.W Qb r.2)]):=
 W 11 func261 Z<|B λi g=>Us 6 Z [.N,.N,.B (.any (.I i) n_),.N,.m .s] [] [] [1] [621,622,623,624,625,626] Z Z (λj=>(a1_ (λz k l _=>Qf.callSame (md:=.cm (.clo) [(621,622),(622,623),(623,624)] [(622,621),(623,622),(624,623)] [] [.d,.d,.d] [(621,.W Qi c),(622,.W QE e),(623,.W Qb f)] (.I i) [622,623,624]) QC j k l Z (a2_ (QkX _ g) r3_)))) Z<|E 11 Z
def Fc:O_ Bool:=j_ (Jw b.Places c) λa=>Q a
def Qf5 {a c}:CT 278 [.L 621,.L 622] [(621,.W Qi a),(622,.W Qb c)] (Fc a c) V.b (λ_=>[(621,.W Qi a),(622,.W Qb c)]):=
 W 7 func278 Z<|A 10 Wt Z λd=>E 4 Z
def Fd:O_ Bool:=j_ (chk (decide (0<=j0)&&decide (0<=j0.toNat)&&decide (j0.toNat<=f.length))) λ_=>j_ (Jb ((f.drop 0).take (j0.toNat-0)) o) λd=>Q (!d)
def Qf6 {f g h}:CT 279 [.L 621,.L 622,.L 623] [(621,.W XH f),(622,.W Qb g),(623,.W Qb h)] (Fd f g h) V.b (λ_=>[(621,.W XH f),(622,.W Qb g),(623,.W Qb h)]):=
 W 10 func279 Z<|kA_ λe=>B λk i=>Us 6 Z [.N,.N,.B (.any (.sl 1 (((f.drop 0).take (g.toNat-0)).map Qb)) n_),.N,.B (.C2 (.b k)),.N,.m .s] [] [] [3] [621,622,623] Z Z (λl=>(a2_ (λz j o _=>Qf.sliceD Z Z (QP l.n Z) (j _ _ Z) (QC.es Z) GL.no (GL.val (j _ _ Z) (Xe (MC e)) Z) (Xe (ME e)) (Yq (Xe (Qbn e)) (Ih Qx.symm)) SD) (IF _ i))) Z<|E 2 Z
def LZ:O_ Int:=j_ (Fc b c) λh=>cond (!h) (Q d)<|j_ (Fd f j0 c) λa=>cond (!a) (Q o)<|Q 0
def Qix {a b c d e f}:CT 105 [.own 621 2] [(621,.var [.clo (.func 278) [] [.L 622,.L 623],.I c,.clo (.func 279) [] [.L 624,.L 625,.L 623],.I f]),(622,.W Qi a),(623,.W Qb b),(624,.W XH d),(625,.W Qb e)] (LZ a b c d e f) V.I (λ_=>[(621,.var [.clo (.func 278) [] [.L 622,.L 623],.I c,.clo (.func 279) [] [.L 624,.L 625,.L 623],.I f]),(622,.W Qi a),(623,.W Qb b),(624,.W XH d),(625,.W Qb e)]):=
 W 18 func105 Z<|lN_ 14 3 Z<|vI_ 13 621 0 Z<|S 9 .clo [(621,622),(622,623)] Qf5 Z λh=>I 3 Z (E 13 Z)<|rd_ 7 Z<|vI_ 13 621 2 Z<|gT_ [1,.kill 4,8] Z<|S 0 .clo [(621,624),(622,625),(623,623)] Qf6 Z λg=>I 3 Z (E 13 Z)<|rd_ 7 Z<|E 18 Z
def Ia:O_ Int:=j_ (LZ b h 3 f a 5) λe=>Q e
def QhJ {d a b c}:CT 277 [.I d,.I a,.L 621,.L 622] [(621,.W Qi b),(622,.W XH c)] (Ia d a b c) V.I (λ_=>[(621,.W Qi b),(622,.W XH c)]):=
 W 13 func277 Z<|K [13,.o (.any (.own 11 2) (Q (.var [.clo (.func 278) [] [.L 621,.L 5],.I 3,.clo (.func 279) [] [.L 622,.L 4,.L 5],.I 5])))] Z (λe=>(a1_ (λz f g O=>Qf.buildAny Z Z (QP e.n Z) (QC.es Z) Qbq Z (by decide) (by decide) (Ck f Z) Z Z (O Z))))<|S 0 .fn [(621,11),(622,621),(623,5),(624,622),(625,4)] Qix Z λh=>E 4 Z
def Nz:O_ (Int⊕((Int×Int)⊕Unit)):=cond (e3<f.length) (j_ (idx f e3) λc=>j_ (Ia e3 c k0 g1) λb=>cond (b != 0) (Q (i_ (y_ (e3,b))))<|Q (y_ (Qh (e3+1))))<|Q (i_ (i_ ()))
def NA:O_ (Int×Int):=Q (a,h)
def NB : O_ (Int×Int):=Q (0,0)
def Ma:O_ (Int×Int):=j_ (Qq (λst=>Nz f k0 g1 st) 0) (Sum.elim (λq=>NA q.1 q.2) (λq=>NB))
def Qiy {c a b}:CT 276 [.M 1 Qb c,.clo (.func 277) [] [.L 621,.L 622]] [(621,.W Qi a),(622,.W XH b)] (Ma c a b) (λr=>(.tup [.I r.1,.I r.2])) (λ_=>[(621,.W Qi a),(622,.W XH b)]):=
 W 25 func276 Z<|N 10 Z<|F 4 [1,9,10] [621,622] (λst=>([(11,.I st)],[])) [] [621,622] (λq=>(.ret,([(4,.I q.1),(5,.I q.2)],[]))) [] [621,622] (λq=>(.exit 0,([],[]))) Z (λh=>I 6 Z (J 7 Z λd=>S 10 .clo [(621,621),(622,622)] QhJ Z λe=>I 9 Z (L 11 Z)<|R 7 Z)<|X 2 Z) (λ⟨f,g⟩=>E 2 Z) (λ_=>E 9 Z)
def NY:O_ Int:=j_ (Ma f b f) λc=>Q c.2
def Qjt {a b}:CT 205 [.G Qi a,.M 1 Qb b] [] (NY a b) V.I no_:=
 W 14 func205 Z<|S 11 .fn [(621,2),(622,3)] Qiy Z λc=>E 14 Z
def NZ:O_ Int:=j_ (NY b j.Cancel) λc=>Q c
def Qju {a b}:CT 204 [.L 621,.L 622] [(621,.W Qi a),(622,.W QE b)] (NZ a b) V.I (λ_=>[(621,.W Qi a),(622,.W QE b)]):=
 W 7 func204 Z<|A 10 Qjt Z λc=>E 4 Z
def Am (d:Int):O_ (Bool×Int):=j_ (NZ b j) λa=>Q ((a==0),a)
def QgB {c e g}:CT 261 [.L 621,.L 624] [(621,.var [.clo (.func 204) [] [.L 622,.L 623]]),(622,.W Qi c),(623,.W QE e),(624,.var [.L 625]),(625,.W Qb g)] (Am c e g) (λr=>(.b r.1)) (λr=>[(621,.var [.clo (.func 204) [] [.L 622,.L 623]]),(622,.W Qi c),(623,.W QE e),(624,.var [.L 625]),(625,.W Qb r.2)]):=
 W 11 func261 Z<|B λh f=>Us 6 Z [.N,.N,.B (.any (.I h) n_),.N,.m .s] [] [] [1] [621,622,623,624,625] Z Z (λi=>(a1_ (λz j k _=>Qf.callSame (md:=.cm (.clo) [(621,622),(622,623)] [(622,621),(623,622)] [] [.d,.d] [(621,.W Qi c),(622,.W QE e)] (.I h) [622,623]) QC i j k Z (a2_ (Qju _ f) r2_)))) Z<|E 11 Z
def Hj (b:(L_ Jy)):O_ Bool:=
 Q ((1<=a)&&((a<=3)&&((a != 3)||((b.length:Int)<=4))))
def Qbv {e f}:CT 280 [.I e,.M 4 KP f] [] (Hj e f) V.b no_:=
 W 20 func280 Z<|T 6 [] [] ([(4,.b ((1<=e)&&((e<=3)&&((e != 3)||((f.length:Int)<=4)))))],[]) Z (H 4 Z (λa=>H 4 Z (λc=>H 3 Z (λd=>Y 7 4 Z (Ye a (Ye c (Jf d Z)))) λd=>N 1 Z<|Y 5 4 Z (Ye a (Ye c (Xk d Z)))) λc=>Y 10 4 Z (Ye a (YH c Z))) λa=>Y 14 4 Z (YH a Z))<|E 2 Z
def TE:O_ Bool:=
 j_ (Hj j.Join j.Ins) λb=>
 cond b (j_ (Hj j.Split j.Outs) λc=>
 cond c (cond (0<=j.After) (cond (j.After<=65536) (Q (((j.Many.1==0)&&((j.Many.2.1==0)&&(j.Many.2.2==0)))||((1<=j.Many.1)&&((j.Many.1<=j.Many.2.1)&&((j.Many.2.1<=16)&&((1<=j.Many.2.2)&&(j.Many.2.2<=j.Many.2.1)))))))<|Q f_)<|Q f_)<|Q f_)<|Q f_
def TF:O_ Bool:=Q m
def GJ:O_ Bool:=j_ (TE j) (λb=>TF b)
def Qmj {a}:CT 207 [.G QE a] [] (GJ a) V.b no_:=
 W 70 func207 Z<|D 7 Z (dz_ [(11,.N)]) [] [] [1,3,4,5] [1] Z Z U Z<|T 2 [1] [1] ([(6,.b (((a.Many.1==0)&&((a.Many.2.1==0)&&(a.Many.2.2==0)))||((1<=a.Many.1)&&((a.Many.1<=a.Many.2.1)&&((a.Many.2.1<=16)&&((1<=a.Many.2.2)&&(a.Many.2.2<=a.Many.2.1)))))))],[]) Z (K [4,.o (.any (.b ((a.Many.1==0)&&((a.Many.2.1==0)&&(a.Many.2.2==0)))) n_),1] Z (λj=>(a1_ (λz h m _=>Qf.eqAgg Z Z (QP j.n Z) (h _ _ Z) (h _ _ Z) Z Z (Qu0 _ _ _ _ _ _))))<|H 0 Z (λc=>Y 23 6 Z (Jf c Z)) λc=>H 3 Z (λd=>H 5 Z (λe=>H 4 Z (λf=>H 4 Z (λg=>Y 7 6 Z (Xk c (Ye d (Ye e (Ye f (Ye g Z)))))) λg=>Y 7 6 Z (Xk c (Ye d (Ye e (Ye f (YH g Z)))))) λf=>Y 11 6 Z (Xk c (Ye d (Ye e (YH f Z))))) λe=>Y 15 6 Z (Xk c (Ye d (YH e Z)))) λd=>Y 20 6 Z (Xk c (YH d Z)))<|mV_ 7 [] [] (λi=>([(2,.b i)],[])) Z (A 6 Qbv Z λk=>I 1 Z (A 5 Qbv Z λl=>I 2 Z (I 5 Z (I 5 Z (M 4 Z)<|M 4 Z)<|M 9 Z)<|M 14 Z)<|M 22 Z) λi=>E 2 Z
def Hk:O_ Bool:=j_ (GJ j) λb=>Q b
def Qjv {a}:CT 206 [.L 621] [(621,.W QE a)] (Hk a) V.b (λ_=>[(621,.W QE a)]):=
 W 4 func206 Z<|A 8 Qmj Z λc=>E 4 Z
def GU (x:Int)(h:Int)(y:Int)(i:Int)(b:Int)(k:Int)(l:Int)(m:Int)(n:Int):O_ (Int×Int):=j_ (PT j) λo=>cond (!o) (Q (q,h))<|j_ (PV k0 e0 j) λp=>cond (!p) (Q (i3,h))<|j_ (IX e3 j) λf=>cond (!f) (Q (x,h))<|j_ (AM k0 j h) λa=>cond (!a.1) (Q (y,a.2))<|j_ (IY k0 e0) λr=>cond (!r) (Q (i,a.2))<|j_ (PX j e3) λs=>cond (!s) (Q (b,a.2))<|j_ (Ak k0 j e3 a.2) λd=>cond (!d.1) (Q (k,d.2))<|j_ (Al k0 j e3 d.2) λe=>cond (!e.1) (Q (l,e.2))<|j_ (Am k0 j e.2) λc=>cond (!c.1) (Q (m,c.2))<|j_ (Hk j) λt=>cond (!t) (Q (n,c.2))<|Q (0,c.2)
def Qiz {g h i j k l m p o a b c d e f}:CT 105 [.own 621 10] [(621,.var [.clo (.func 191) [] [.L 622],.I h,.clo (.func 192) [] [.L 623,.L 624,.L 625],.I k,.clo (.func 194) [] [.L 626,.L 622],.I m,.clo (.func 261) [] [.L 627,.L 628],.I o,.clo (.func 198) [] [.L 623,.L 624],.I a,.clo (.func 199) [] [.L 622,.L 626],.I b,.clo (.func 261) [] [.L 630,.L 631],.I c,.clo (.func 261) [] [.L 632,.L 633],.I d,.clo (.func 261) [] [.L 634,.L 635],.I e,.clo (.func 206) [] [.L 622],.I f]),(622,.W QE g),(623,.W Qi i),(624,.W Qb j),(625,.var [.clo (.func 190) [] [.L 622]]),(626,.W Qb l),(627,.var [.clo (.func 196) [] [.L 623,.L 622]]),(628,.var [.L 629]),(629,.W Qb p),(630,.var [.clo (.func 201) [] [.L 623,.L 622,.L 626]]),(631,.var [.L 629]),(632,.var [.clo (.func 203) [] [.L 623,.L 622,.L 626]]),(633,.var [.L 629]),(634,.var [.clo (.func 204) [] [.L 623,.L 622]]),(635,.var [.L 629])] (GU g h i j k l m p o a b c d e f) (λr=>(.I r.1)) (λr=>[(621,.var [.clo (.func 191) [] [.L 622],.I h,.clo (.func 192) [] [.L 623,.L 624,.L 625],.I k,.clo (.func 194) [] [.L 626,.L 622],.I m,.clo (.func 261) [] [.L 627,.L 628],.I o,.clo (.func 198) [] [.L 623,.L 624],.I a,.clo (.func 199) [] [.L 622,.L 626],.I b,.clo (.func 261) [] [.L 630,.L 631],.I c,.clo (.func 261) [] [.L 632,.L 633],.I d,.clo (.func 261) [] [.L 634,.L 635],.I e,.clo (.func 206) [] [.L 622],.I f]),(622,.W QE g),(623,.W Qi i),(624,.W Qb j),(625,.var [.clo (.func 190) [] [.L 622]]),(626,.W Qb l),(627,.var [.clo (.func 196) [] [.L 623,.L 622]]),(628,.var [.L 629]),(629,.W Qb r.2),(630,.var [.clo (.func 201) [] [.L 623,.L 622,.L 626]]),(631,.var [.L 629]),(632,.var [.clo (.func 203) [] [.L 623,.L 622,.L 626]]),(633,.var [.L 629]),(634,.var [.clo (.func 204) [] [.L 623,.L 622]]),(635,.var [.L 629])]):=
 W 18 func105 Z<|lN_ 14 11 Z<|vI_ 13 621 0 Z<|S 9 .clo [(621,622)] QkO Z λq=>I 3 Z (E 13 Z)<|rd_ 7 Z<|vI_ 13 621 2 Z<|gT_ [1,.kill 4,8] Z<|S 0 .clo [(621,623),(622,624),(623,625),(624,622)] QkQ Z λs=>I 3 Z (E 13 Z)<|rd_ 7 Z<|vI_ 13 621 4 Z<|gT_ [1,.kill 4,8] Z<|S 0 .clo [(621,626),(622,622)] QkR Z λt=>I 3 Z (E 13 Z)<|rd_ 7 Z<|vI_ 13 621 6 Z<|gT_ [1,.kill 4,8] Z<|S 0 .clo [(621,627),(622,623),(623,622),(624,628),(625,629)] Qjs Z λu=>I 3 Z (E 13 Z)<|rd_ 7 Z<|vI_ 13 621 8 Z<|gT_ [1,.kill 4,8] Z<|S 0 .clo [(621,623),(622,624)] QkT Z λv=>I 3 Z (E 13 Z)<|rd_ 7 Z<|vI_ 13 621 10 Z<|gT_ [1,.kill 4,8] Z<|S 0 .clo [(621,622),(622,626)] QkU Z λw=>I 3 Z (E 13 Z)<|rd_ 7 Z<|vI_ 13 621 12 Z<|gT_ [1,.kill 4,8] Z<|S 0 .clo [(621,630),(622,623),(623,622),(624,626),(625,631),(626,629)] Qgz Z λx=>I 3 Z (E 13 Z)<|rd_ 7 Z<|vI_ 13 621 14 Z<|gT_ [1,.kill 4,8] Z<|S 0 .clo [(621,632),(622,623),(623,622),(624,626),(625,633),(626,629)] QgA Z λy=>I 3 Z (E 13 Z)<|rd_ 7 Z<|vI_ 13 621 16 Z<|gT_ [1,.kill 4,8] Z<|S 0 .clo [(621,634),(622,623),(623,622),(624,635),(625,629)] QgB Z λz=>I 3 Z (E 13 Z)<|rd_ 7 Z<|vI_ 13 621 18 Z<|gT_ [1,.kill 4,8] Z<|S 0 .clo [(621,622)] Qjv Z λC=>I 3 Z (E 13 Z)<|rd_ 7 Z<|E 18 Z
def Ko:O_ Int:=j_ (Ks b.Tasks c) λg=>cond (!g) (Q 3)<|j_ (Hh b) λf=>cond (f.2 != 0) (Q f.2)<|j_ (idx b.Tasks c) λd=>j_ (idx b.Tasks c) λa=>j_ (SN 0 b d) λh=>j_ (LR 0 b d a.Vars.length) λi=>j_ (LS 0 b d a.Vars.length) λj=>j_ (LT 0 b d) λk=>j_ (GU d 1 b c 5 a.Vars.length 2 0 (-1) 2 1 (-1) (-1) (-1) 11) λe=>cond (e.1==(-1)) (Q e.2)<|Q e.1
def Qot {e f}:CT 116 [.G Qi e,.I f] [] (Ko e f) V.I no_:=
 W 68 func116 Z<|A 13 NX Z λr=>I 3 Z (E 7 Z)<|A 6 Qbu Z λt=>I 13 Z (E 8 Z)<|B λg d=>B λb c=>D 3 Z [.N,.N,.N,.B (.row (QE g)),.N,.a .no n_ t_,.a .no n_ t_,.a .no n_ t_,.a (.row (QE b)) n_ t_,.a .no n_ t_,.a .no n_ t_,.a (.ln b.Vars.length) n_ t_,.N,.N,.m .s,.m .s] [2,3] [2,3] [2,3,7,8] [2,3,7,8] Z Z (a3_ (XE d) (XE c) Qx) Z<|zA_ 22 .fn [(621,10),(622,2),(623,7)] [(45,2),(613,3),(10,621),(2,622),(7,623)] [] Qmi Z λh=>zA_ 6 .fn [(621,10),(622,2),(623,7),(624,8)] [(52,2),(614,3),(10,621),(2,622),(7,623),(8,624)] [] Qiq Z λi=>zA_ 2 .fn [(621,10),(622,2),(623,7),(624,8)] [(55,2),(615,3),(10,621),(2,622),(7,623),(8,624)] [] Qir Z λj=>zA_ 2 .fn [(621,10),(622,2),(623,7)] [(58,2),(616,3),(10,621),(2,622),(7,623)] [] Qis Z λk=>K [3,.o (.any (.own 62 10) (Q (.var [.clo (.func 191) [] [.L 7],.I 1,.clo (.func 192) [] [.L 2,.L 3,.L 9],.I 5,.clo (.func 194) [] [.L 8,.L 7],.I 2,.clo (.func 261) [] [.L 613,.L 45],.I (-1),.clo (.func 198) [] [.L 2,.L 3],.I 2,.clo (.func 199) [] [.L 7,.L 8],.I 1,.clo (.func 261) [] [.L 614,.L 52],.I (-1),.clo (.func 261) [] [.L 615,.L 55],.I (-1),.clo (.func 261) [] [.L 616,.L 58],.I (-1),.clo (.func 206) [] [.L 7],.I 11])))] Z (λl=>(a1_ (λz p u O=>Qf.buildAny Z Z (QP l.n Z) (QC.es Z) Qbq Z (by decide) (by decide) (Ck p Z) Z Z (O Z))))<|S 0 .fn [(621,62),(622,7),(623,2),(624,3),(625,9),(626,8),(627,613),(628,45),(629,10),(630,614),(631,52),(632,615),(633,55),(634,616),(635,58)] Qiz Z λq=>I 10 Z (E 8 Z)<|E 9 Z
def MQ (d:QL)(b:Qc):O_ Int:=j_ (Ko b a) λc=>Q c
def Qmk {b c a}:CT 115 [.I b,.G QE c,.L 621] [(621,.W Qi a)] (MQ b c a) V.I (λ_=>[(621,.W Qi a)]):=
 W 9 func115 Z<|A 10 Qot Z λd=>E 4 Z
def Dk (d:(L_ QL))(e:Qc)(a:Int):O_ (Int⊕((Int×Int)⊕Unit)):=cond (a<d.length) (j_ (idx d a) λc=>j_ (MQ a c e) λb=>cond (b != 0) (Q (i_ (y_ (a,b))))<|Q (y_ (Qh (a+1))))<|Q (i_ (i_ ()))
def CA:O_ (Int×Int):=Q (a,h)
def CB : O_ (Int×Int):=Q (0,0)
def WY (a:(L_ QL))(b:Qc):O_ (Int×Int):=j_ (Qq (λst=>Dk a b st) 0) (Sum.elim (λq=>CA q.1 q.2) (λq=>CB))
def QdN {b a}:CT 114 [.M 14 QE b,.clo (.func 115) [] [.L 621]] [(621,.W Qi a)] (WY b a) (λr=>(.tup [.I r.1,.I r.2])) (λ_=>[(621,.W Qi a)]):=
 W 25 func114 Z<|N 10 Z<|F 4 [1,9,10] [621] (λst=>([(11,.I st)],[])) [] [621] (λq=>(.ret,([(4,.I q.1),(5,.I q.2)],[]))) [] [621] (λq=>(.exit 0,([],[]))) Z (λf=>I 6 Z (J 7 Z λc=>S 11 .clo [(621,621)] Qmk Z λd=>I 9 Z (L 11 Z)<|R 7 Z)<|X 2 Z) (λ⟨g,e⟩=>E 2 Z) (λ_=>E 9 Z)
def Ex:O_ (Int×Vv):=j_ (SK b 2 3 1) λe=>cond (e != 0) (Q (e,(Vv.mk 1 0)))<|j_ (Hh b) λd=>cond (d.2 != 0) (Q (d.2,(Vv.mk 2 d.1)))<|j_ (UU b.Places b) λa=>cond (a.2 != 0) (Q (a.2,(Vv.mk 3 a.1)))<|j_ (WY b.Tasks b) λc=>cond (c.2 != 0) (Q (c.2,(Vv.mk 4 c.1)))<|Q (0,(Vv.mk 0 0))
def Qqh {a}:CT 63 [.G Qi a] [] (Ex a) (λr=>(.tup [.G Qwf r.2,.I r.1])) no_:=
 W 58 func63 Z<|K [15,.o (.any (.own 17 3) (Q (.var [.clo (.func 106) [] [.L 1],.I 2,.clo (.func 107) [] [.L 1],.I 3,.clo (.func 109) [] [.L 1],.I 1])))] Z (λb=>(a1_ (λz c f O=>Qf.buildAny Z Z (QP b.n Z) (QC.es Z) Qbq Z (by decide) (by decide) (Ck c Z) Z Z (O Z))))<|S 0 .fn [(621,17),(622,1)] Qme Z λg=>I 10 Z (E 10 Z)<|A 6 Qbu Z λh=>I 13 Z (E 11 Z)<|S 8 .fn [(621,1)] QcE Z λd=>I 13 Z (E 11 Z)<|S 8 .fn [(621,1)] QdN Z λe=>I 13 Z (E 11 Z)<|E 10 Z
def Oa (a:(Int×Vv))(c:Qc)(d:QMk):O_ Bool:=cond (a.1 != 0) (Q t_)<|j_ (Cp c d) λb=>Q (!b)
def Zj:O_ ((Int×Int)⊕Int):=cond (d<b.Tasks.length) (j_ (idx b.Tasks d) λa=>j_ (GI b d) λe=>Q (y_ ((Qh (c+(Qh (e*(Qh (1+(Qh ((a.Ins.length:Int)*(a.Outs.length:Int))))))))),(Qh (d+1)))))<|Q (i_ c)
def Oc:O_ Bool:=cond h0 (Q f_)<|j_ (Qq (λst=>Zj b st.1 st.2) (0,0)) (λq=>Q (decide (q<=600)))
def CC:O_ Bool:=
 j_ (HG b) λa=>
 j_ (Qa5 e) λf=>
 cond ((!a)||((!f)||(12<(b.Tasks.length:Int)))) (Q f_)<|j_ (Ex b) λd=>
 j_ (Oa d b e) (λc=>Oc b c)
def Qov {l o}:CT 34 [.G Qi l,.M 1 Qj o] [] (CC l o) V.b no_:=
 W 69 func34 Z<|A 9 Qgy Z λp=>A 6 Qqg Z λr=>T 5 [1,2] [2] ([(27,.b ((!p)||((!r)||(12<(l.Tasks.length:Int)))))],[]) Z (H 4 Z (λe=>Y 10 27 Z (Jf e Z)) λe=>H 4 Z (λf=>Y 6 27 Z (Xk e (Jf f Z))) λf=>N 2 Z<|Y 3 27 Z (Xk e (Xk f Z)))<|I 1 Z (E 7 Z)<|A 5 Qqh Z λt=>mV_ 10 [2] [2] (λg=>([(40,.b g)],[])) Z (I 4 Z (M 6 Z)<|A 2 QeK Z λu=>M 3 Z) λg=>I 1 Z (E 7 Z)<|lA_ 14 [2] [2] (λst=>([(9,.I st.1),(10,.I st.2)],[])) [] [] (λq=>(.exit 0,([(9,.I q)],[]))) Z (λ⟨j,v⟩=>N 6 Z<|I 3 Z (J 9 Z λh=>B λn i=>D 5 Z (dz_ [(3,.B (.C2 (.I n))),(2,.B (.ln h.Ins.length)),(2,.B (.ln h.Outs.length)),(4,.m .s)]) [] [] [2,9,10] [2] Z Z (a3_ (QdM _ i) Qx Qx) Z<|R 7 Z)<|X 2 Z) λk=>E 10 Z
def Od:O_ ((Int×Int)⊕Int):=cond (s<e.length) (j_ (idx e s) λa=>j_ (Nf a) λb=>Q (y_ ((Qh (d+b)),(Qh (s+1)))))<|Q (i_ d)
def OX:O_ Int:=j_ (Qq (λst=>Od e st.1 st.2) (0,0)) (λq=>Q q)
def Qe0 {a}:CT 35 [.M 1 Qj a] [] (OX a) V.I no_:=
 W 18 func35 Z<|N 14 Z<|lA_ 4 [6,7] [] (λst=>([(3,.I st.1),(8,.I st.2)],[])) [] [] (λq=>(.exit 0,([(3,.I q)],[]))) Z (λ⟨c,d⟩=>I 6 Z (J 6 Z λe=>A 7 Qao Z λb=>R 9 Z)<|X 2 Z) λf=>E 9 Z
def Zk (e:QMk):O_ Bool:=cond m (cond (c<=12) (cond ((k0.Tasks.length:Int)<=6) (j_ (OX e) λb=>Q (decide (b<=30)))<|Q f_)<|Q f_)<|Q f_
def Qe1:O_ Bool:=Q m
def OY:O_ Bool:=j_ (CC b e) λa=>j_ (Zk a d b e) (λc=>Qe1 c)
def Qox {c d a}:CT 20 [.G Qi c,.M 1 Qj d,.I a] [] (OY c d a) V.b no_:=
 W 27 func20 Z<|A 10 Qov Z λg=>mV_ 4 [] [] (λe=>([(6,.b e)],[])) Z (I 3 Z (I 4 Z (N 2 Z<|I 3 Z (A 1 Qe0 Z λf=>M 4 Z)<|M 6 Z)<|M 12 Z)<|M 16 Z) λe=>E 2 Z
def An:O_ Bool:=
 j_ (HG b) λe=>
 cond ((!e)||((16<c)||((6<(b.Tasks.length:Int))||(8<(b.Places.length:Int))))) (Q f_)<|j_ (Gs b) λa=>
 j_ (OY b a (min2 c 12)) λd=>
 Q d
def Qoy {l e}:CT 5 [.G Qi l,.I e] [] (An l e) V.b no_:=
 W 32 func5 Z<|A 9 Qgy Z λn=>T 5 [1,2] [2] ([(25,.b ((!n)||((16<e)||((6<(l.Tasks.length:Int))||(8<(l.Places.length:Int))))))],[]) Z (H 4 Z (λf=>Y 16 25 Z (Jf f Z)) λf=>H 4 Z (λg=>Y 12 25 Z (Xk f (Jf g Z))) λg=>N 2 Z<|H 3 Z (λh=>Y 6 25 Z (Xk f (Xk g (Jf h Z)))) λh=>N 2 Z<|Y 3 25 Z (Xk f (Xk g (Xk h Z))))<|I 1 Z (E 7 Z)<|B λi j=>B λm k=>D 3 Z [.N,.N,.B (.cd f_ [.d] 1 (i.map Qj) i.length),.N,.N,.B (.C3 (.b m)),.N] [] [] [4] [] Z Z (a2_ ⟨(Vx _ j),Qx⟩ (Qox _ k)) Z<|E 2 Z
def QdO (a:(L_ Xt))(b:Int):O_ Bool:=j_ (idx a b) λc=>cond (20<(c.Mode.Vars.length:Int)) (Q t_)<|j_ (idx a b) λd=>cond (20<(d.Mode.Ins.length:Int)) (Q t_)<|j_ (idx a b) λe=>Q (decide (20<(e.Mode.Outs.length:Int)))
def QdP:O_ (Int⊕(Unit⊕Unit)):=cond m (Q (i_ (y_ ())))<|Q (y_ (Qh (a+1)))
def TG (b:(L_ Xt))(a:Int):O_ (Int⊕(Unit⊕Unit)):=cond (a<b.length) (j_ (QdO b a) (λc=>QdP a c))<|Q (i_ (i_ ()))
def SO (a:(L_ Xt)):O_ Bool:=cond (24<(a.length:Int)) (Q f_)<|j_ (Qq (λst=>TG a st) 0) (Sum.elim (λq=>Q f_) (λq=>Q t_))
def Qmn {a}:CT 6 [.M 7 Jl a] [] (SO a) V.b no_:=
 W 41 func6 Z<|N 9 Z<|I 3 Z (E 7 Z)<|F 9 [0] [] (λst=>([(3,.I st)],[])) [] [] (λq=>(.ret,([(2,.b f_)],[]))) [] [] (λq=>(.exit 0,([],[]))) Z (λg=>N 5 Z<|I 3 Z (mV_ 5 [0,3] [] (λc=>([(40,.b c)],[])) Z (J 3 Z λd=>N 3 Z<|I 2 Z (M 20 Z)<|J 2 Z λe=>N 3 Z<|I 3 Z (M 10 Z)<|J 2 Z λf=>N 3 Z<|M 3 Z) λc=>I 1 Z (L 8 Z)<|R 8 Z)<|X 2 Z) (λ_=>E 2 Z) (λ_=>E 8 Z)
def Qa6:O_ ByteArray:=j_ (FC e) λb=>Q (NL b.1)
def QgC {a}:CT 68 [.M 1 Qj a] [] (Qa6 a) V.s no_:=
 W 12 func68 Z<|A 8 Qdu Z λb=>K [10,.o (.any (.s (NL b.1)) n_),4] Z (λc=>(a1_ (λz d e _=>Qf.b2s Z Z (QP c.n Z) (d _ _ Z) Z Qwl Qu2 (QC.sb Z))))<|E 0 Z
def Gz (h:(L_ Xn))(i:(L_ QL))(j:Int)(k:Int)(f:Int)(d:(L_ (ByteArray×Int)))(b:(L_ QMk))(m:(L_ YU))(c:Bool)(a:QMk):O_ (Int×(L_ QMk)×(L_ QK)×(L_ Xn)×(L_ QL)×Int×Int×Int×Bool×(L_ (ByteArray×Int))):=j_ (Qa6 a) λe=>cond ((Xg d e).isSome) (Q (((Xg d e).getD 0),b,g0,h,i,j,k,f,c,d))<|cond ((min2 f 4096)<=(b.length:Int)) (Q ((-1),b,g0,h,i,j,k,f,c,d))<|j_ (Qa6 a) λl=>j_ (chk (b.length+([a]:L_ QMk).length<=4294967296)) λ_=>Q ((b.length:Int),(b++([a]:L_ QMk)),g0,h,i,j,k,f,c,(YQ TX d l b.length))
def Oe {y C O v4 v5 v6 h o p q t}:CT 39 [.L 621,.M 1 Qj t] [(621,.var [.M 7 Xm y,.M 3 Xd C,.M 14 QE O,.I v4,.I v5,.I v6,.map 622,.P 619 o,.P 620 p,.b q]),(622,.map (QO V.s V.I h)),(619,.R 1 Xa o),(620,.R 6 Dd p)] (Gz y C O v4 v5 v6 h o p q t) (λr=>(.I r.1)) (λr=>[(619,.R 1 Xa r.2.1),(620,.R 6 Dd p),(621,.var [.M 7 Xm r.2.2.1,.M 3 Xd r.2.2.2.1,.M 14 QE r.2.2.2.2.1,.I r.2.2.2.2.2.1,.I r.2.2.2.2.2.2.1,.I r.2.2.2.2.2.2.2.1,.map 622,.P 619 r.2.1,.P 620 p,.b r.2.2.2.2.2.2.2.2.1]),(622,.map (QO V.s V.I r.2.2.2.2.2.2.2.2.2))]):=
 W 59 func39 Z<|B λg u=>Us 6 Z (dz_ [(5,.B (.C1 (.s g))),(0,.B (.any (.tup [.I ((Xg h g).getD 0),.b (Xg h g).isSome]) n_)),(4,.N)]) [] [] [0,1,5,6] [619,620,621,622] Z Z (λhC=>(a2_ (QgC _ u) (λd j x _=>Qf.lookupOk (e:=V.s) (f:=V.I) (l:=h) (k:=g) (z:=0) Z Z (QP hC.n Z) (j _ _ Z) (x _ _ Z) (j _ _ Z) Qwi Qhv QfO Z Z))) Z<|I 9 Z (E 9 Z)<|D 1 Z (dz_ [(12,.N)]) [] [] [0,1,20] [619,620,621,622] Z Z U Z<|I 1 Z (E 8 Z)<|B λi w=>D 15 Z [.N,.N,.N,.N,.N,.B (.C1 (.s i)),.N,.m (.any ⟨[],[(622,.map (QO V.s V.I (YQ TX h i o.length)))],n_⟩)] [] [] [0,1,5] [619,620,621,622] Z Z (a2_ (QgC _ w) (λd j x=>Qf.mapUpdate (e:=V.s) (f:=V.I) (l:=h) (k:=i) (v:=(o.length:Int)) TX Z Z (j _ _ Z) (x _ _ Z) (j _ _ Z) (j _ _ Z) Qwi Qhv Z)) Z<|pA_ 10 1 Xa Z<|E 13 Z
def BN (b:((L_ Qd)×Bool)):O_ Bool:=cond m (Q b.2)<|Q f_
def WP (c:(L_ Xn))(d:(L_ QL))(e:Int)(f:Int)(g:Int)(h:Bool)(i:(L_ (ByteArray×Int)))(j:(L_ YU))(k:(L_ QMk)):O_ ((Int×(L_ QK)×(L_ Xn)×(L_ QL)×Int×Int×Int×Bool×(L_ (ByteArray×Int))×(L_ YU)×(L_ QMk))⊕((L_ QK)×(L_ Xn)×(L_ QL)×Int×Int×Int×Bool×(L_ (ByteArray×Int))×(L_ YU)×(L_ QMk))):=Q (y_ ((Qh (a+1)),g0,c,d,e,f,g,h,i,j,k))
def WQ (c:(L_ YU))(O:Int)(d:Qd)(b:Int)(e:(L_ QK))(f:(L_ Xn))(g:(L_ QL))(h:Int)(i:Int)(j:Int)(m:Bool)(k:(L_ (ByteArray×Int)))(l:(L_ QMk)):O_ ((Int×(L_ QK)×(L_ Xn)×(L_ QL)×Int×Int×Int×Bool×(L_ (ByteArray×Int))×(L_ YU)×(L_ QMk))⊕((L_ QK)×(L_ Xn)×(L_ QL)×Int×Int×Int×Bool×(L_ (ByteArray×Int))×(L_ YU)×(L_ QMk))):=cond (b<0) (WP a e f g h i j f_ k c l)<|j_ (chk (c.length+([(YU.mk O b d)]:L_ YU).length<=4294967296)) λ_=>WP a e f g h i j m k (c++[(YU.mk O b d)]) l
def Em (n:((L_ Qd)×Bool))(p:QMk)(O:Int)(b:Int)(c:(L_ QK))(d:(L_ Xn))(e:(L_ QL))(f:Int)(g:Int)(i:Int)(j:Bool)(k:(L_ (ByteArray×Int)))(h:(L_ YU))(l:(L_ QMk)):O_ ((Int×(L_ QK)×(L_ Xn)×(L_ QL)×Int×Int×Int×Bool×(L_ (ByteArray×Int))×(L_ YU)×(L_ QMk))⊕((L_ QK)×(L_ Xn)×(L_ QL)×Int×Int×Int×Bool×(L_ (ByteArray×Int))×(L_ YU)×(L_ QMk))):=cond (b<n.1.length) (j_ (idx n.1 b) λm=>j_ (YP (Qc.mk c d e f g) p m) λo=>cond (o.2==0) (j_ (Gz c d e f g i k l h j o.1) λa=>WQ b h O m a.1 a.2.2.1 a.2.2.2.1 a.2.2.2.2.1 a.2.2.2.2.2.1 a.2.2.2.2.2.2.1 a.2.2.2.2.2.2.2.1 a.2.2.2.2.2.2.2.2.1 a.2.2.2.2.2.2.2.2.2 a.2.1)<|WQ b h O m (-1) c d e f g i j k l)<|Q (i_ (c,d,e,f,g,i,j,k,h,l))
def Og (a:((L_ Qd)×Bool))(b:QMk)(O:Int)(d:(L_ QK))(e:(L_ Xn))(f:(L_ QL))(g:Int)(h:Int)(i:Int)(j:(L_ (ByteArray×Int)))(k:(L_ YU))(l:(L_ QMk))(c:Bool):O_ ((L_ QMk)×(L_ YU)×(L_ QK)×(L_ Xn)×(L_ QL)×Int×Int×Int×Bool×(L_ (ByteArray×Int))):=j_ (Qq (λst=>Em a b O st.1 st.2.1 st.2.2.1 st.2.2.2.1 st.2.2.2.2.1 st.2.2.2.2.2.1 st.2.2.2.2.2.2.1 st.2.2.2.2.2.2.2.1 st.2.2.2.2.2.2.2.2.1 st.2.2.2.2.2.2.2.2.2.1 st.2.2.2.2.2.2.2.2.2.2) (0,d,e,f,g,h,i,c,j,k,l)) (λq=>Q (q.2.2.2.2.2.2.2.2.2,q.2.2.2.2.2.2.2.2.1,q.1,q.2.1,q.2.2.1,q.2.2.2.1,q.2.2.2.2.1,q.2.2.2.2.2.1,q.2.2.2.2.2.2.1,q.2.2.2.2.2.2.2.1))
def UV (f:(L_ Xn))(g:(L_ QL))(h:Int)(i:Int)(j:Int)(l:(L_ (ByteArray×Int)))(k:(L_ QMk))(m:(L_ YU))(c:Bool)(O:Int):O_ ((L_ QMk)×(L_ YU)×(L_ QK)×(L_ Xn)×(L_ QL)×Int×Int×Int×Bool×(L_ (ByteArray×Int))):=j_ (idx k O) λa=>j_ (AY (Qc.mk g0 f g h i) a j 9223372036854775807) λb=>j_ (BN c b) (λd=>Og b a O g0 f g h i j l m k d)
def QcG {v1 v2 v3 v4 v5 v6 m7 l8 l9 a2 at_11}:CT 41 [.L 621,.I at_11] [(621,.var [.M 7 Xm v1,.M 3 Xd v2,.M 14 QE v3,.I v4,.I v5,.I v6,.map 622,.P 619 l8,.P 620 l9,.b a2]),(622,.map (QO V.s V.I m7)),(619,.R 1 Xa l8),(620,.R 6 Dd l9)] (UV v1 v2 v3 v4 v5 v6 m7 l8 l9 a2 at_11) (λ_=>(.tup [])) (λr=>[(619,.R 1 Xa r.1),(620,.R 6 Dd r.2.1),(621,.var [.M 7 Xm r.2.2.1,.M 3 Xd r.2.2.2.1,.M 14 QE r.2.2.2.2.1,.I r.2.2.2.2.2.1,.I r.2.2.2.2.2.2.1,.I r.2.2.2.2.2.2.2.1,.map 622,.P 619 r.1,.P 620 r.2.1,.b r.2.2.2.2.2.2.2.2.1]),(622,.map (QO V.s V.I r.2.2.2.2.2.2.2.2.2))]):=
 W 88 func41 Z<|vA_ 9 Xa Z λb0=>B λa3 a4=>D 4 Z (dz_ [(9,.B (.C4 (.tup [.M 4 Qy a3.1,.b a3.2]))),(4,.N)]) [] [] [0,1,4,5,6] [619,620,621,622] Z Z (a1_ (QdC _ a4)) Z<|mV_ 2 [0,1,4,5] [619,620,622] (λa5=>([],[(621,.var [.M 7 Xm v1,.M 3 Xd v2,.M 14 QE v3,.I v4,.I v5,.I v6,.map 622,.P 619 l8,.P 620 l9,.b a5])])) Z (I 8 Z (M 7 Z)<|M 7 Z) λa5=>N 4 Z<|lA_ 4 [0,1,4,45,46] [] (λst=>([(47,.I st.1)],[(619,.R 1 Xa st.2.2.2.2.2.2.2.2.2.2),(620,.R 6 Dd st.2.2.2.2.2.2.2.2.2.1),(621,.var [.M 7 Xm st.2.1,.M 3 Xd st.2.2.1,.M 14 QE st.2.2.2.1,.I st.2.2.2.2.1,.I st.2.2.2.2.2.1,.I st.2.2.2.2.2.2.1,.map 622,.P 619 st.2.2.2.2.2.2.2.2.2.2,.P 620 st.2.2.2.2.2.2.2.2.2.1,.b st.2.2.2.2.2.2.2.1]),(622,.map (QO V.s V.I st.2.2.2.2.2.2.2.2.1))])) [] [] (λq=>(.exit 0,([],[(619,.R 1 Xa q.2.2.2.2.2.2.2.2.2),(620,.R 6 Dd q.2.2.2.2.2.2.2.2.1),(621,.var [.M 7 Xm q.1,.M 3 Xd q.2.1,.M 14 QE q.2.2.1,.I q.2.2.2.1,.I q.2.2.2.2.1,.I q.2.2.2.2.2.1,.map 622,.P 619 q.2.2.2.2.2.2.2.2.2,.P 620 q.2.2.2.2.2.2.2.2.1,.b q.2.2.2.2.2.2.1]),(622,.map (QO V.s V.I q.2.2.2.2.2.2.2.1))]))) Z (λ⟨a6,b1,b2,b3,b4,b5,b6,b7,b8,j,b9⟩=>I 6 Z (Qu7 2 [0,1,4,45,46,47] [] (λ(k:(L_ QK)) (l:(L_ Xn)) (n:(L_ QL)) (o:Int) (p:Int) (t:Int) (u:Bool) (v:(L_ (ByteArray×Int))) (g:(L_ YU)) (h:(L_ QMk))=>([],[(619,.R 1 Xa h),(620,.R 6 Dd g),(621,.var [.M 7 Xm k,.M 3 Xd l,.M 14 QE n,.I o,.I p,.I t,.map 622,.P 619 h,.P 620 g,.b u]),(622,.map (QO V.s V.I v))])) (λk l n o p t u v g h=>WP a6 k l n o p t u v g h) Z (J 3 Z λf=>B λa7 a8=>D 6 Z (dz_ [(6,.B (.C3 (.tup [.M 1 Qj a7.1,.I a7.2]))),(4,.N)]) [] [] [0,1,4,8,9,10,45,46,47] [8,619,620,621,622] Z Z (a1_ (Qji _ a8)) Z<|Qu7 6 [0,1,4,8,45,46,47] [8,620] (λ(e:Int) (w:(L_ QK)) (x:(L_ Xn)) (y:(L_ QL)) (z:Int) (C:Int) (O:Int) (a0:Bool) (a1:(L_ (ByteArray×Int))) (i:(L_ QMk))=>([(11,.I e)],[(619,.R 1 Xa i),(621,.var [.M 7 Xm w,.M 3 Xd x,.M 14 QE y,.I z,.I C,.I O,.map 622,.P 619 i,.P 620 j,.b a0]),(622,.map (QO V.s V.I a1))])) (λe w x y z C O a0 a1 i=>WQ a6 j at_11 f e w x y z C O a0 a1 i) Z (I 6 Z (zA_ 3 .fn [(621,621),(622,622),(619,619),(620,620)] [(619,619),(620,620),(621,621),(622,622)] [619,620] Oe Z λc0=>Qkh 2 Z Z)<|Qkh 1 Z Z) λe w x y z C O a0 a1 i=>I 7 Z (Qkh 12 Z Z)<|kA_ λa9=>D 2 Z [.a .no n_ t_,.N,.N,.N,.N,.N,.N,.N,.E (.G Qy f),.E (.agg (Dd (YU.mk at_11 e f))),.a (.bd []) (Q ([],.sl 6 (([(YU.mk at_11 e f)]:L_ YU).map Dd))) f_,.m (.app ((j++[(YU.mk at_11 e f)]).map Dd) (j++[(YU.mk at_11 e f)]).length),.N,.N,.N,.m .s] [0,1,4,8,11,45,46,47] [8,619,622] [0,1,4,45,46,47] [619,620,621,622] Z Z (a4_ Z Z Z ⟨Qx,Il a9 Qx,WA,CX Qx⟩) Z<|Qkh 1 Z Z) λk l n o p t u v g h=>R 4 Z)<|X 2 Z) λ⟨c1,c2,c3,c4,c5,c6,c7,c8,c9,d0⟩=>E 1 Z
def Hl (b:(L_ Xn))(c:(L_ QL))(d:Int)(e:Int)(f:Int)(g:Bool)(h:(L_ (ByteArray×Int)))(i:(L_ QMk))(j:(L_ YU)):O_ ((Int×(L_ QK)×(L_ Xn)×(L_ QL)×Int×Int×Int×Bool×(L_ (ByteArray×Int))×(L_ QMk)×(L_ YU))⊕((L_ QK)×(L_ Xn)×(L_ QL)×Int×Int×Int×Bool×(L_ (ByteArray×Int))×(L_ QMk)×(L_ YU))):=Q (y_ ((Qh (a+1)),g0,b,c,d,e,f,g,h,i,j))
def Oh (e:(L_ Xn))(f:(L_ QL))(g:Int)(b:Int)(i:Int)(l:Bool)(j:(L_ (ByteArray×Int)))(c:(L_ QMk))(k:(L_ YU)):O_ ((Int×(L_ QK)×(L_ Xn)×(L_ QL)×Int×Int×Int×Bool×(L_ (ByteArray×Int))×(L_ QMk)×(L_ YU))⊕((L_ QK)×(L_ Xn)×(L_ QL)×Int×Int×Int×Bool×(L_ (ByteArray×Int))×(L_ QMk)×(L_ YU))):=cond (h<c.length) (j_ (idx c h) λm=>j_ (OX m) λn=>cond (a<n) (Hl h g0 e f g b i f_ j c k)<|j_ (UV g0 e f g b i j c k l h) λd=>Hl h d.2.2.1 d.2.2.2.1 d.2.2.2.2.1 d.2.2.2.2.2.1 d.2.2.2.2.2.2.1 d.2.2.2.2.2.2.2.1 d.2.2.2.2.2.2.2.2.1 d.2.2.2.2.2.2.2.2.2 d.1 d.2.1)<|Q (i_ (g0,e,f,g,b,i,l,j,c,k))
def Zl:O_ Sg:=cond (d<=0) (Q (Sg.mk ([]:(L_ QMk)) ([]:(L_ YU)) f_))<|j_ (Hx e) λf=>j_ (Gz b.Colours b.Places b.Tasks b.From b.To d ([]:(L_ (ByteArray×Int))) ([]:L_ QMk) ([]:L_ YU) t_ f) λc=>j_ (Qq (λst=>Oh s st.1 st.2.1 st.2.2.1 st.2.2.2.1 st.2.2.2.2.1 st.2.2.2.2.2.1 st.2.2.2.2.2.2.1 st.2.2.2.2.2.2.2.1 st.2.2.2.2.2.2.2.2.1 st.2.2.2.2.2.2.2.2.2.1 st.2.2.2.2.2.2.2.2.2.2) (0,c.2.2.1,c.2.2.2.1,c.2.2.2.2.1,c.2.2.2.2.2.1,c.2.2.2.2.2.2.1,c.2.2.2.2.2.2.2.1,c.2.2.2.2.2.2.2.2.1,c.2.2.2.2.2.2.2.2.2,c.2.1,([]:L_ YU))) (λq=>Q (Sg.mk q.2.2.2.2.2.2.2.2.1 q.2.2.2.2.2.2.2.2.2 q.2.2.2.2.2.2.1))
def QoA {u w a c}:CT 22 [.G Qi u,.M 1 Qj w,.I a,.I c] [] (Zl u w a c) (λr=>(.G Qcy r)) no_:=
 W 59 func22 Z<|I 13 Z (G [2,.v .no [Q 1,Q 6,n_] (.agg (Qcy (Sg.mk ([]:(L_ QMk)) ([]:(L_ YU)) f_))),5] Z Z<|E 0 Z)<|oC_ 25 [.d] PC Z λx8=>zF_ 0 25 [25] [] Z<|gT_ [.adoptO 18 7 610 1,.adoptO 18 8 611 6] Z<|zA_ 0 .fn [(621,18),(622,16),(619,610),(620,611)] [(610,619),(611,620),(18,621),(16,622)] [610,611] Oe Z λx9=>lA_ 9 [3,8,9] [8] (λst=>([(10,.I st.1)],[(16,.map (QO V.s V.I st.2.2.2.2.2.2.2.2.1)),(18,.var [.M 7 Xm st.2.1,.M 3 Xd st.2.2.1,.M 14 QE st.2.2.2.1,.I st.2.2.2.2.1,.I st.2.2.2.2.2.1,.I st.2.2.2.2.2.2.1,.map 16,.P 610 st.2.2.2.2.2.2.2.2.2.1,.P 611 st.2.2.2.2.2.2.2.2.2.2,.b st.2.2.2.2.2.2.2.1]),(610,.R 1 Xa st.2.2.2.2.2.2.2.2.2.1),(611,.R 6 Dd st.2.2.2.2.2.2.2.2.2.2)])) [8,9] [8] (λq=>(.exit 0,([],[(16,.map (QO V.s V.I q.2.2.2.2.2.2.2.1)),(18,.var [.M 7 Xm q.1,.M 3 Xd q.2.1,.M 14 QE q.2.2.1,.I q.2.2.2.1,.I q.2.2.2.2.1,.I q.2.2.2.2.2.1,.map 16,.P 610 q.2.2.2.2.2.2.2.2.1,.P 611 q.2.2.2.2.2.2.2.2.2,.b q.2.2.2.2.2.2.1]),(610,.R 1 Xa q.2.2.2.2.2.2.2.2.1),(611,.R 6 Dd q.2.2.2.2.2.2.2.2.2)]))) Z (λ⟨at_11,x,y,z,C,O,a0,a1,a2,a3,a4⟩=>I 13 Z (Qu7 2 [3,8,9,10] [8] (λ(g:(L_ QK)) (h:(L_ Xn)) (i:(L_ QL)) (j:Int) (k:Int) (l:Int) (m:Bool) (o:(L_ (ByteArray×Int))) (e:(L_ QMk)) (f:(L_ YU))=>([],[(16,.map (QO V.s V.I o)),(18,.var [.M 7 Xm g,.M 3 Xd h,.M 14 QE i,.I j,.I k,.I l,.map 16,.P 610 e,.P 611 f,.b m]),(610,.R 1 Xa e),(611,.R 6 Dd f)])) (λg h i j k l m o e f=>Hl at_11 g h i j k l m o e f) Z (vA_ 11 Xa Z λa5=>A 0 Qe0 Z λa6=>I 4 Z (Qkh 12 Z Z)<|zA_ 5 .fn [(621,18),(622,16),(619,610),(620,611)] [(610,619),(611,620),(18,621),(16,622)] [610,611] QcG Z λa7=>Qkh 2 Z Z) λg h i j k l m o e f=>R 5 Z)<|X 2 Z) λ⟨a8,a9,b0,b1,b2,b3,b4,b5,p,t⟩=>g2_ [12,.frz 610 (p.map Xa) [] [8],.frz 611 (t.map Dd) [] [8]] Z (a1_ ⟨(Kf Qx),(a1_ U)⟩) (a1_ ⟨(Kf Qx),U⟩)<|E 0 Z
def Oi:O_ Sg:=j_ (Gs b) λa=>j_ (Zl b a c d) λe=>Q e
def Qjw {h b e}:CT 7 [.G Qi h,.I b,.I e] [] (Oi h b e) (λr=>(.G Qcy r)) no_:=
 W 13 func7 Z<|B λi f=>B λj g=>D 7 Z [.N,.N,.B (.cd f_ [.d] 1 (i.map Qj) i.length),.N,.N,.B (.C4 (.G Qcy j)),.m .s] [] [] [6] [6] Z Z (a2_ ⟨(Vx _ f),Qx⟩ (QoA _ g)) Z<|E 2 Z
def QdQ:O_ Bool:=j_ (idx g c) λa=>cond (a.1<0) (Q t_)<|j_ (idx g c) λb=>cond (b.2<1) (Q t_)<|j_ (idx g c) λd=>cond (1048576<d.2) (Q t_)<|cond (0<c) (j_ (idx g c) λe=>j_ (idx g (Qh (c-1))) λf=>Q (decide (e.1<=f.1)))<|Q f_
def QdR:O_ (Int⊕(Unit⊕Unit)):=cond m (Q (i_ (y_ ())))<|Q (y_ (Qh (a+1)))
def GV:O_ (Int⊕(Unit⊕Unit)):=cond (c<g.length) (j_ (QdQ g c) (λa=>QdR c a))<|Q (i_ (i_ ()))
def Wx:O_ Bool:=j_ (Qq (λst=>GV g st) 0) (Sum.elim (λq=>Q f_) (λq=>Q t_))
def Dl {r}:CT 97 [.M 2 QB r] [] (Wx r) V.b no_:=
 W 50 func97 Z<|F 12 [0] [] (λst=>([(3,.I st)],[])) [] [] (λq=>(.ret,([(2,.b f_)],[]))) [] [] (λq=>(.exit 0,([],[]))) Z (λt=>N 5 Z<|I 3 Z (mV_ 5 [0,3] [] (λs=>([(49,.b s)],[])) Z (B λl g=>jF_ (λc=>D 0 Z (dz_ [(2,.B (.row (QB l))),(3,.E (.b t_)),(32,.N)]) [] [] [0,3,49] [] Z Z (a2_ (XE g) (cb_ c)) Z<|M 0 Z) λc=>B λj e=>jF_ (λd=>D 0 Z (dz_ [(2,.B (.row (QB l))),(3,.E (.b f_)),(2,.B (.row (QB j))),(4,.E (.b t_)),(24,.N)]) [] [] [0,3,49] [] Z Z (a4_ (XE g) (cb_ c) (XE e) (cb_ d)) Z<|M 0 Z) λd=>B λk h=>jF_ (λf=>D 0 Z (dz_ [(2,.B (.row (QB l))),(3,.E (.b f_)),(2,.B (.row (QB j))),(4,.E (.b f_)),(2,.B (.row (QB k))),(4,.E (.b t_)),(16,.N)]) [] [] [0,3,49] [] Z Z (a6_ (XE g) (cb_ c) (XE e) (cb_ d) (XE h) (cb_ f)) Z<|M 0 Z) λf=>jF_ (λi=>B λo m=>B λp n=>D 0 Z (dz_ [(2,.B (.row (QB l))),(3,.E (.b f_)),(2,.B (.row (QB j))),(4,.E (.b f_)),(2,.B (.row (QB k))),(4,.E (.b f_)),(2,.E (.b t_)),(2,.B (.row (QB o))),(5,.B (.row (QB p))),(4,.N)]) [] [] [0,3,49] [] Z Z (a9_ (XE g) (cb_ c) (XE e) (cb_ d) (XE h) (cb_ f) (cb_ i) (XE m) (XE n)) Z<|M 0 Z) λi=>D 0 Z (dz_ [(2,.B (.row (QB l))),(3,.E (.b f_)),(2,.B (.row (QB j))),(4,.E (.b f_)),(2,.B (.row (QB k))),(4,.E (.b f_)),(2,.E (.b f_)),(13,.N)]) [] [] [0,3,49] [] Z Z (a7_ (XE g) (cb_ c) (XE e) (cb_ d) (XE h) (cb_ f) (cb_ i)) Z<|M 0 Z) λs=>I 1 Z (L 8 Z)<|R 8 Z)<|X 2 Z) (λ_=>E 2 Z) (λ_=>E 8 Z)
def GW:O_ (Int⊕(Int⊕Unit)):=cond ((d<g.length)&&m) (j_ (idx g d) λa=>cond (a.1==c) (j_ (idx g d) λb=>Q (i_ (y_ b.2)))<|Q (y_ (Qh (d+1))))<|Q (i_ (i_ ()))
def FE:O_ Int:=j_ (Wx g) λa=>j_ (Qq (λst=>GW g a c st) 0) (Sum.elim (λq=>Q q) (λq=>Q 0))
def TH {c d}:CT 98 [.M 2 QB c,.I d] [] (FE c d) V.I no_:=
 W 30 func98 Z<|A 8 Dl Z λe=>F 10 [0,1,5] [] (λst=>([(6,.I st)],[])) [] [] (λq=>(.ret,([(4,.I q)],[]))) [] [] (λq=>(.exit 0,([],[]))) Z (λf=>T 2 [0,1,5,6] [] ([(15,.b ((f<(c.length:Int))&&e))],[]) Z (N 3 Z<|H 2 Z (λa=>Y 3 15 Z (Ye a Z)) λa=>Y 3 15 Z (YH a Z))<|I 1 Z (J 8 Z λg=>I 6 Z (J 4 Z λh=>L 8 Z)<|R 8 Z)<|X 2 Z) (λi=>E 2 Z) (λ_=>E 8 Z)
def Oj:O_ ((Bool×Int×QBg)⊕(Bool×QBg)):=Q (y_ (m,(Qh (a+1)),f1))
def Hm:O_ ((Bool×Int×QBg)⊕(Bool×QBg)):=j_ (idx g c) λe=>cond (e.1 != d) (j_ (idx g c) λa=>j_ (chk (f1.length+([a]:QBg).length<=4294967296)) λ_=>Oj c h0 (f1++([a]:QBg)))<|Oj c h0 f1
def Qe2:O_ Bool:=cond (!m) (j_ (idx f1 e0) λb=>Q (decide (i3<=b.1)))<|Q f_
def Ok:O_ ((Bool×Int×QBg)⊕(Bool×QBg)):=Hm g c d t_ f1
def Qe3 (b:Bool)(d:Bool):O_ ((Bool×Int×QBg)⊕(Bool×QBg)):=cond d (cond (0<a) (j_ (chk (g.length+([(c,a)]:QBg).length<=4294967296)) λ_=>Ok f1 e0 c (g++([(c,a)]:QBg)))<|Ok f1 e0 c g)<|Hm f1 e0 c b g
def AN:O_ ((Bool×Int×QBg)⊕(Bool×QBg)):=cond (i0<g.length) (j_ (Qe2 h0 g i0 c) (λa=>Qe3 d f1 c g i0 h0 a))<|Q (i_ (h0,f1))
def Ol:O_ QBg:=Q g
def Zm:O_ QBg:=cond ((!m)&&(0<a)) (j_ (chk (f1.length+([(h,a)]:QBg).length<=4294967296)) λ_=>Ol (f1++([(h,a)]:QBg)))<|Ol f1
def OZ:O_ QBg:=j_ (Qq (λst=>AN g c d st.1 st.2.1 st.2.2) (f_,0,([]:QBg))) (λq=>Zm d c q.1 q.2)
def Qe4 {k l m}:CT 99 [.M 2 QB k,.I l,.I m] [] (OZ k l m) (λr=>(.P 600 r)) (λr=>[(600,.R 2 QB r)]):=
 W 62 func99 Z<|aD_ 22 7 29 2 Z<|lA_ 0 [0,1,2] [] (λst=>([(7,.P 29 st.2.2),(8,.b st.1),(9,.I st.2.1)],[(29,.R 2 QB st.2.2)])) [1,2] [] (λq=>(.exit 0,([(7,.P 29 q.2),(8,.b q.1)],[(29,.R 2 QB q.2)]))) Z (λ⟨o,p,w⟩=>N 5 Z<|I 3 Z (mF_ 2 [0,1,2,9] [] (λ(a:Bool) (d:QBg)=>([(7,.P 29 d),(8,.b a)],[(29,.R 2 QB d)])) (λa d=>Oj p a d) Z (mF_ 1 [0,1,2,9] [] (λ(c:Bool) (e:QBg)=>([(7,.P 29 e),(8,.b c)],[(29,.R 2 QB e)])) (λc e=>Hm k p l c e) Z (mV_ 1 [0,1,2,7,8,9] [29] (λj=>([(26,.b j)],[])) Z (I 4 Z (J 2 Z λs=>M 6 Z)<|M 9 Z) λj=>I 1 Z (mE_ 0 [0,1,2,9] [] (λf:QBg=>([(7,.P 29 f)],[(29,.R 2 QB f)])) (λf=>Ok k p l f) Z (I 6 Z (pA_ 5 2 QB Z<|P 2 Z Z)<|P 1 Z Z) λf=>fA_ 3 Z Z)<|fA_ 1 Z Z) λc e=>J 4 Z λt=>I 6 Z (J 4 Z λu=>pA_ 1 2 QB Z<|fA_ 3 Z Z)<|fA_ 2 Z Z) λa d=>R 5 Z)<|X 2 Z) λ⟨i,v⟩=>mE_ 2 [] [] (λg:QBg=>([(7,.P 29 g)],[(29,.R 2 QB g)])) (λg=>Ol g) Z (T 1 [1,2,7] [29] ([(54,.b ((!i)&&(0<m)))],[]) Z (H 4 Z (λh=>Y 4 54 Z (Ye h Z)) λh=>Y 4 54 Z (YH h Z))<|I 1 Z (pA_ 5 2 QB Z<|P 2 Z Z)<|P 1 Z Z) λg=>gT_ [7,.ren 29 600] Z<|E 0 Z
def QgD:O_ Bool:=j_ (Wx g) λd=>cond (!d) (Q t_)<|j_ (Wx l0) λa=>Q (!a)
def UC:O_ ((Int×QBg)⊕(Unit⊕QBg)):=cond (c<g.length) (j_ (idx g c) λf=>j_ (FE f1 f.1) λa=>j_ (idx g c) λd=>cond (1048576<(Qh (a+d.2))) (Q (i_ (y_ ())))<|j_ (idx g c) λb=>j_ (OZ f1 b.1 (Qh (a+d.2))) λh=>Q (y_ ((Qh (c+1)),h)))<|Q (i_ (i_ f1))
def QgE:O_ (QBg×Int):=cond m (Q (([]:QBg),1))<|j_ (chk (([]:QBg).length+g.length<=4294967296)) λ_=>j_ (Qq (λst=>UC l0 st.1 st.2) (0,(([]:QBg)++g))) (Sum.elim (λq=>Q (([]:QBg),2)) (λq=>Q (q,0)))
def BW:O_ (QBg×Int):=j_ (QgD g l0) (λc=>QgE g l0 c)
def Qau {l m}:CT 52 [.M 2 QB l,.M 2 QB m] [] (BW l m) (λr=>(.tup [.M 2 QB r.1,.I r.2])) no_:=
 W 50 func52 Z<|mV_ 8 [0,1] [] (λp=>([(16,.b p)],[])) Z (A 2 Dl Z λx=>I 2 Z (M 5 Z)<|A 1 Dl Z λs=>M 3 Z) λp=>I 1 Z (gT_ [8,.denil 4 [Q 2]] Z<|E 0 Z)<|pB_ 6 QB Z<|gT_ [10,.ren 17 605] Z<|F 0 [1] [] (λst=>([(6,.P 605 st.2),(7,.I st.1)],[(605,.R 2 QB st.2)])) [] [] (λq=>(.ret,([(4,.Y),(5,.I 2)],[]))) [] [] (λq=>(.exit 0,([(6,.P 605 q)],[(605,.R 2 QB q)]))) Z (λ⟨t,e⟩=>N 5 Z<|I 3 Z (B λi f=>B λj g=>B λk h=>D 5 Z (dz_ [(3,.B (.row (QB i))),(2,.B (.c t_ [.o (e.map QB),.d] (.I j))),(2,.B (.row (QB k))),(3,.N)]) [] [] [1,6,7,8] [605] Z Z (a3_ (XE f) ⟨(QpM Z),(TH _ g)⟩ (XE h)) Z<|I 8 Z (L 10 Z)<|J 6 Z λu=>G [3,.frz 605 (e.map QB) [6,41] []] Z (a2_ (Kf Qx) (Kf Qx))<|oC_ 0 [.d,.d,.d] Qe4 Z λv=>gT_ [9,.ren 48 605] Z<|R 0 Z)<|X 2 Z) (λ_=>gT_ [2,.denil 4 [Q 2]] Z<|E 0 Z) (λw=>zF_ 10 605 [4] [] Z<|E 0 Z)
def Mb:O_ ((Int×QMk)⊕QMk):=j_ (chk (e.length+([f1]:L_ QBg).length<=4294967296)) λ_=>Q (y_ ((Qh (d+1)),(e++([f1]:L_ QBg))))
def Mc:O_ ((Int×QMk)⊕QMk):=cond (c<b.Places.length) (j_ (idx b.Places c) λa=>j_ (chk (([]:QBg).length+a.First.length<=4294967296)) λ_=>cond (c==b.From) (j_ (BW (([]:QBg)++a.First) ([(0,1)]:QBg)) λd=>cond (d.2==0) (Mb e c d.1)<|Mb e c (([]:QBg)++a.First))<|Mb e c (([]:QBg)++a.First))<|Q (i_ e)
def SP:O_ QMk:=j_ (Qq (λst=>Mc b st.1 st.2) (0,([]:L_ QBg))) (λq=>Q q)
def Qmt {c}:CT 26 [.G Qi c] [] (SP c) (λr=>(.P 600 r)) (λr=>[(600,.R 1 Qj r)]):=
 W 42 func26 Z<|aD_ 18 3 37 1 Z<|lA_ 0 [1] [1] (λst=>([(3,.P 37 st.2),(4,.I st.1)],[(37,.R 1 Qj st.2)])) [] [] (λq=>(.exit 0,([(3,.P 37 q)],[(37,.R 1 Qj q)]))) Z (λ⟨d,e⟩=>N 6 Z<|I 3 Z (J 10 Z λb=>pB_ 2 QB Z<|mE_ 3 [1,3,4] [1,37] (λa:QBg=>([(5,.M 2 QB a)],[])) (λa=>Mb e d a) Z (I 8 Z (g2_ [4,.v (.bd []) [] (.sl 2 (([(0,1)]:QBg).map QB)),.frz 15 ((([]:QBg)++b.First).map QB) [5,22,28] []] Z Z (a3_ (Kf Qx) (Kf Qx) (Kf Qx))<|A 0 Qau Z λf=>I 13 Z (P 4 Z Z)<|P 1 Z Z)<|zF_ 1 15 [5] [] Z<|P 0 Z Z) λa=>pA_ 3 1 Qj Z<|R 9 Z)<|X 2 Z) λg=>gT_ [9,.ren 37 600] Z<|E 0 Z
def Qa7:O_ QF:=j_ (SP b) λa=>Q (QF.mk a ([]:L_ Qm) 1 0)
def Qqk {a}:CT 11 [.G Qi a] [] (Qa7 a) (λr=>(.G Xw r)) no_:=
 W 6 func11 Z<|oC_ 9 [.d] Qmt Z λb=>G [5,.frz 4 (b.map Qj) [] [2],.denilO 2 [n_,Q 11,n_,n_]] Z (a1_ ⟨(Kf Qx),U⟩)<|E 0 Z
def Fe:O_ ((Int×QMk)⊕QMk):=cond (o<i.M.length) (j_ (idx i.M o) λa=>j_ (chk (([]:QBg).length+a.length<=4294967296)) λ_=>j_ (chk (e1.length+([(([]:QBg)++a)]:L_ QBg).length<=4294967296)) λ_=>Q (y_ ((Qh (o+1)),(e1++([(([]:QBg)++a)]:L_ QBg)))))<|Q (i_ e1)
def Ff (c:(L_ Qm)):O_ ((Int×(L_ Qm))⊕(L_ Qm)):=cond (o<i.Items.length) (j_ (idx i.Items o) λa=>j_ (chk (([]:L_ Int).length+a.Mode.Vars.length<=4294967296)) λ_=>j_ (chk (([]:L_ Int).length+a.Mode.Ins.length<=4294967296)) λ_=>j_ (chk (([]:L_ Int).length+a.Mode.Outs.length<=4294967296)) λ_=>j_ (chk (c.length+([(Qm.mk a.Id (Qd.mk a.Mode.Task (([]:L_ Int)++a.Mode.Vars) (([]:L_ Int)++a.Mode.Ins) (([]:L_ Int)++a.Mode.Outs)) a.Batch a.Until)]:L_ Qm).length<=4294967296)) λ_=>Q (y_ ((Qh (o+1)),(c++([(Qm.mk a.Id (Qd.mk a.Mode.Task (([]:L_ Int)++a.Mode.Vars) (([]:L_ Int)++a.Mode.Ins) (([]:L_ Int)++a.Mode.Outs)) a.Batch a.Until)]:L_ Qm)))))<|Q (i_ c)
def ZQ:O_ QF:=j_ (Qq (λst=>Ff i st.1 st.2) (0,([]:L_ Qm))) (λq=>Q (QF.mk e1 q i.Next i.Now))
def Md:O_ QF:=j_ (Qq (λst=>Fe i st.1 st.2) (0,([]:L_ QBg))) (λq=>ZQ i q)
def QiB {j}:CT 46 [.G Xw j] [] (Md j) (λr=>(.G Xw r)) no_:=
 W 68 func46 Z<|aD_ 18 3 15 1 Z<|lA_ 0 [1,2] [1,2] (λst=>([(3,.P 15 st.2),(4,.I st.1)],[(15,.R 1 Qj st.2)])) [1,2] [1,2] (λq=>(.exit 0,([(3,.P 15 q)],[(15,.R 1 Qj q)]))) Z (λ⟨t,u⟩=>N 6 Z<|I 3 Z (J 10 Z λk=>pB_ 1 QB Z<|zF_ 0 16 [22] [] Z<|pA_ 0 1 Qj Z<|R 9 Z)<|X 2 Z) λl=>aD_ 14 5 57 11 Z<|lA_ 0 [1,2,3] [1,2,15] (λst=>([(5,.P 57 st.2),(6,.I st.1)],[(57,.R 11 Qt st.2)])) [1,2,3] [1,2,15] (λq=>(.exit 2,([(5,.P 57 q)],[(57,.R 11 Qt q)]))) Z (λ⟨o,p⟩=>N 6 Z<|I 3 Z (J 9 Z λc=>kA_ λe=>kA_ λf=>kA_ λg=>Us 6 Z (dz_ [(3,.B (.any .e0 n_)),(3,.B (.any (.M 1 Qb c.Mode.Vars) n_)),(0,.B (.any .e0 n_)),(3,.B (.any (.M 1 Qb c.Mode.Ins) n_)),(0,.B (.any .e0 n_)),(3,.B (.any (.M 1 Qb c.Mode.Outs) n_)),(2,.m .s)]) [] [] [1,2,3,5,6,7] [1,2,7,15,57] Z Z (λd=>(a6_ (λz b h _=>Qf.bld0 Z Z (QP d.n Z) (QC.es Z) (QC.zv Z)) (λz b h _=>Qf.appE0 Z Z (QP d.n Z) (b _ _ Z) (QC.es Z) (QC.es Z) (QC.zv Z) Z (by decide) (by decide) (by decide) (by rw[Dx];simpa using e) (b _ _ Z)) (λz b h _=>Qf.bld0 Z Z (QP d.n Z) (QC.es Z) (QC.zv Z)) (λz b h _=>Qf.appE0 Z Z (QP d.n Z) (b _ _ Z) (QC.es Z) (QC.es Z) (QC.zv Z) Z (by decide) (by decide) (by decide) (by rw[Dx];simpa using f) (b _ _ Z)) (λz b h _=>Qf.bld0 Z Z (QP d.n Z) (QC.es Z) (QC.zv Z)) (λz b h _=>Qf.appE0 Z Z (QP d.n Z) (b _ _ Z) (QC.es Z) (QC.es Z) (QC.zv Z) Z (by decide) (by decide) (by decide) (by rw[Dx];simpa using g) (b _ _ Z)))) Z<|pA_ 4 11 Qt Z<|R 9 Z)<|X 2 Z) λi=>g2_ [15,.frz 15 (l.map Qj) [] [2],.frz 57 (i.map Qt) [] [2]] Z (a1_ ⟨(Kf Qx),(a1_ U)⟩) (a1_ ⟨(Kf Qx),U⟩)<|E 0 Z
def Rb:O_ Bool:=
 Q (cond (97<=a) ((a<=122)||((65<=a)&&(a<=90)))<|((65<=a)&&(a<=90)))
def Qb8 {d}:CT 329 [.i .u8 d] [] (Rb d) V.b no_:=
 W 17 func329 Z<|T 6 [] [] ([(2,.b (cond (97<=d) ((d<=122)||((65<=d)&&(d<=90)))<|((65<=d)&&(d<=90))))],[]) Z (H 4 Z (λa=>H 4 Z (λc=>Y 9 2 Z (Te a (Jf c Z))) λc=>H 3 Z (λe=>Y 6 2 Z (Te a (Xk c (Ye e Z)))) λe=>Y 6 2 Z (Te a (Xk c (YH e Z)))) λa=>H 7 Z (λf=>Y 6 2 Z (QfH a (Ye f Z))) λf=>Y 6 2 Z (QfH a (YH f Z)))<|E 2 Z
def QbR:O_ Bool:=Q ((48<=a)&&(a<=57))
def Qmu {c}:CT 330 [.i .u8 c] [] (QbR c) V.b no_:=
 W 9 func330 Z<|T 6 [] [] ([(2,.b ((48<=c)&&(c<=57)))],[]) Z (H 4 Z (λa=>Y 5 2 Z (Ye a Z)) λa=>Y 5 2 Z (YH a Z))<|E 2 Z
def Zn:O_ Bool:=cond ((k1.size:Int)<1) (Q t_)<|cond (32<(k1.size:Int)) (Q t_)<|j_ (sidx k1 0) λb=>j_ (Rb b) λc=>Q (!c)
def Qe5:O_ Bool:=j_ (sidx k1 d) λc=>j_ (Rb c) λa=>cond (!a) (j_ (sidx k1 d) λe=>j_ (QbR e) λf=>cond (!f) (j_ (sidx k1 d) λg=>Q (g != 95))<|Q f_)<|Q f_
def Qe6:O_ (Int⊕(Unit⊕Unit)):=cond m (Q (i_ (y_ ())))<|Q (y_ (Qh (a+1)))
def Om:O_ (Int⊕(Unit⊕Unit)):=cond (d<(k1.size:Int)) (j_ (Qe5 k1 d) (λb=>Qe6 d b))<|Q (i_ (i_ ()))
def Qe7:O_ Bool:=cond h0 (Q f_)<|j_ (Qq (λst=>Om k1 st) 0) (Sum.elim (λq=>Q f_) (λq=>Q t_))
def Pa:O_ Bool:=j_ (Zn k1) (λb=>Qe7 k1 b)
def Qe8 {j}:CT 295 [.s j] [] (Pa j) V.b no_:=
 W 42 func295 Z<|mV_ 7 [0] [] (λk=>([(17,.b k)],[])) Z (I 5 Z (M 11 Z)<|I 5 Z (M 6 Z)<|B λl f=>G [1,.o (.num l)] Z f<|A 0 Qb8 Z λt=>M 3 Z) λk=>I 1 Z (E 7 Z)<|F 9 [0] [] (λst=>([(3,.I st)],[])) [] [] (λq=>(.ret,([(2,.b f_)],[]))) [] [] (λq=>(.exit 0,([],[]))) Z (λm=>I 9 Z (mV_ 5 [0,3] [] (λa=>([(41,.b a)],[])) Z (B λg c=>G [3,.o (.num g)] Z c<|A 0 Qb8 Z λp=>I 2 Z (B λh d=>G [2,.o (.num h)] Z d<|A 0 Qmu Z λr=>I 3 Z (B λi e=>G [2,.o (.num i),3] Z e<|M 0 Z)<|M 6 Z)<|M 13 Z) λa=>I 1 Z (L 8 Z)<|R 8 Z)<|X 2 Z) (λ_=>E 2 Z) (λ_=>E 8 Z)
def QdS:O_ Bool:=cond m (j_ (idx e2 o) λc=>j_ (idx e2 g3) λd=>Q (!KT c d))<|Q f_
def QdT:O_ ((Bool×Int)⊕Bool):=Q (y_ (m,(Qh (a+1))))
def UD:O_ ((Bool×Int)⊕Bool):=cond (i0<a) (j_ (QdS h0 e2 i0 a) (λc=>QdT i0 c))<|Q (i_ h0)
def QdU:O_ (Int⊕(Unit⊕Unit)):=cond (!m) (Q (i_ (y_ ())))<|Q (y_ (Qh (a+1)))
def CD:O_ (Int⊕(Unit⊕Unit)):=cond (o<e2.length) (j_ (idx e2 o) λc=>j_ (Pa c) λd=>j_ (Qq (λst=>UD o e2 st.1 st.2) (d,0)) (λq=>QdU o q))<|Q (i_ (i_ ()))
def SQ:O_ Bool:=j_ (Qq (λst=>CD e2 st) 0) (Sum.elim (λq=>Q f_) (λq=>Q t_))
def Qmx {i}:CT 296 [.M 1 LC i] [] (SQ i) V.b no_:=
 W 36 func296 Z<|F 12 [0] [] (λst=>([(3,.I st)],[])) [] [] (λq=>(.ret,([(2,.b f_)],[]))) [] [] (λq=>(.exit 0,([],[]))) Z (λn=>N 5 Z<|I 3 Z (J 8 Z λo=>A 1 Qe8 Z λp=>lA_ 10 [0,3] [] (λst=>([(4,.b st.1),(5,.I st.2)],[])) [0,3] [] (λq=>(.exit 2,([(4,.b q)],[]))) Z (λ⟨k,l⟩=>I 8 Z (mV_ 4 [0,3,5] [] (λd=>([(4,.b d)],[])) Z (jF_ (λc=>B λg e=>B λh f=>D 0 Z (dz_ [(1,.E (.b t_)),(2,.B (.row (LC g))),(3,.B (.row (LC h))),(3,.m .s)]) [] [] [0,3,4,5] [] Z Z ⟨⟨(tc_ c),(XE e)⟩,(XE f)⟩ Z<|M 0 Z) λc=>D 0 Z (dz_ [(1,.E (.b f_)),(10,.m .s)]) [] [] [0,3,4,5] [] Z Z (tc_ c) Z<|M 0 Z) λd=>R 7 Z)<|X 2 Z) λj=>I 8 Z (L 8 Z)<|R 8 Z)<|X 2 Z) (λ_=>E 2 Z) (λ_=>E 8 Z)
def QdV (c:QK):O_ Bool:=cond m (j_ (idx g0 o) λd=>Q (!KT d.Name c.Name))<|Q f_
def QdW:O_ ((Bool×Int)⊕Bool):=Q (y_ (m,(Qh (a+1))))
def UE (d:QK)(e:Bool)(b:Int):O_ ((Bool×Int)⊕Bool):=cond (b<a) (j_ (QdV e g0 b d) (λc=>QdW b c))<|Q (i_ e)
def Kt:O_ ((Int×LI_)⊕(Unit⊕LI_)):=
 cond ((!m)||((o<1)||(1024<o))) (Q (i_ (y_ ())))<|j_ (chk (f.length+([o]:L_ Int).length<=4294967296)) λ_=>
 Q (y_ ((Qh (j0+1)),(f++([o]:L_ Int))))
def TI (a:QK)(c:LI_)(d:Int)(b:Bool):O_ ((Int×LI_)⊕(Unit⊕LI_)):=
 cond (a.Kind==1) (cond ((a.Lo<=a.Hi)&&((0<=a.Lo)||(a.Hi<(Qh (a.Lo+1024))))) (Kt b c d (Qh ((min2 (Qh (a.Hi-a.Lo)) 1024)+1)))<|Kt b c d 0)<|cond (a.Kind==2) (j_ (SQ a.Names) λe=>
 cond e (Kt b c d a.Names.length)<|Kt b c d 0)<|cond (a.Kind==3) (cond ((0<=a.First)&&((a.First<d)&&((0<=a.Then)&&(a.Then<d)))) (j_ (idx c a.First) λf=>
 j_ (idx c a.Then) λg=>
 Kt b c d (Qh (f*g)))<|Kt b c d 0)<|Kt b c d 0
def CE:O_ ((Int×LI_)⊕(Unit⊕LI_)):=cond (o<g0.length) (j_ (idx g0 o) λa=>j_ (Pa a.Name) λd=>j_ (Qq (λst=>UE o g0 a st.1 st.2) (d,0)) (λq=>TI a d2 o q))<|Q (i_ (i_ d2))
def SR:O_ LI_:=cond (32<(g0.length:Int)) (Q ([]:L_ Int))<|j_ (Qq (λst=>CE g0 st.1 st.2) (0,([]:L_ Int))) (Sum.elim (λq=>Q ([]:L_ Int)) (λq=>Q q))
def QmA {C}:CT 231 [.M 7 Xm C] [] (SR C) (λr=>(.P 600 r)) (λr=>[(600,.R 1 Qb r)]):=
 W 128 func231 Z<|N 9 Z<|I 3 Z (aD_ 7 2 600 1 Z<|E 0 Z)<|aD_ 14 3 123 1 Z<|F 0 [0] [] (λst=>([(3,.P 123 st.2),(4,.I st.1)],[(123,.R 1 Qb st.2)])) [] [] (λq=>(.ret,([(2,.Y)],[]))) [] [] (λq=>(.exit 0,([(3,.P 123 q)],[(123,.R 1 Qb q)]))) Z (λ⟨w,l7⟩=>N 5 Z<|I 3 Z (J 8 Z λc=>A 9 Qe8 Z λa0=>lA_ 10 [0,3,4,5] [5,123] (λst=>([(6,.b st.1),(7,.I st.2)],[])) [0,3,4,5] [5,123] (λq=>(.exit 2,([(6,.b q)],[]))) Z (λ⟨O,a1⟩=>I 8 Z (mV_ 4 [0,3,4,5,7] [5,123] (λo=>([(6,.b o)],[])) Z (jF_ (λi=>B λx v=>D 0 Z (dz_ [(1,.E (.b t_)),(2,.B (.row (Xm x))),(6,.m .s)]) [] [] [0,3,4,5,6,7] [5,123] Z Z ⟨(tc_ i),(XE v)⟩ Z<|M 0 Z) λi=>D 0 Z (dz_ [(1,.E (.b f_)),(9,.m .s)]) [] [] [0,3,4,5,6,7] [5,123] Z Z (tc_ i) Z<|M 0 Z) λo=>R 7 Z)<|X 2 Z) λp=>mE_ 7 [0,3,4,6] [123] (λh:Int=>([(8,.I h)],[])) (λh=>Kt p l7 w h) Z (I 13 Z (T 1 [0,3,4,5,6,8] [5,123] ([(63,.b ((c.Lo<=c.Hi)&&((0<=c.Lo)||(c.Hi<(Qh (c.Lo+1024))))))],[]) Z (H 7 Z (λe=>H 4 Z (λj=>Y 9 63 Z (Ye e (Jf j Z))) λj=>Y 9 63 Z (Ye e (Xk j Z))) λe=>Y 13 63 Z (YH e Z))<|I 1 Z (P 11 Z Z)<|P 2 Z Z)<|I 6 Z (A 4 Qmx Z λa2=>I 8 Z (N 3 Z<|P 3 Z Z)<|P 2 Z Z)<|I 6 Z (T 1 [0,3,4,5,6,8] [5,123] ([(101,.b ((0<=c.First)&&((c.First<w)&&((0<=c.Then)&&(c.Then<w)))))],[]) Z (H 5 Z (λd=>H 6 Z (λf=>H 5 Z (λk=>Y 6 101 Z (Ye d (Ye f (Ye k Z)))) λk=>Y 6 101 Z (Ye d (Ye f (YH k Z)))) λf=>Y 11 101 Z (Ye d (YH f Z))) λd=>Y 17 101 Z (YH d Z))<|I 1 Z (B λy t=>B λz u=>D 0 Z [.N,.N,.N,.N,.B (.row (Qb y)),.N,.N,.N,.N,.B (.row (Qb z)),.N,.m .s] [] [] [0,3,4,6,8] [123] Z Z (a4_ (Yu t Z) (Xq (Yz t).2) (Yu u Z) (Xq (Yz u).2)) Z<|P 1 Z Z)<|P 2 Z Z)<|P 2 Z Z) λh=>T 2 [0,3,4,8] [123] ([(122,.b ((!p)||((h<1)||(1024<h))))],[]) Z (H 4 Z (λg=>Y 8 122 Z (Jf g Z)) λg=>H 4 Z (λl=>Y 4 122 Z (Xk g (Jf l Z))) λl=>Y 4 122 Z (Xk g (Xk l Z)))<|I 1 Z (L 9 Z)<|pA_ 5 1 Qb Z<|R 9 Z)<|X 2 Z) (λ_=>aD_ 2 2 600 1 Z<|E 0 Z) (λa3=>gT_ [9,.ren 123 600] Z<|E 0 Z)
def EK:O_ Int:=
 j_ (SR g0) λb=>
 cond ((o<0)||(b.length<=o)) (Q 0)<|j_ (idx b o) λd=>
 Q d
def On {e c}:CT 138 [.M 7 Xm e,.I c] [] (EK e c) V.I no_:=
 W 20 func138 Z<|oC_ 8 [.d] QmA Z λf=>T 5 [1,5] [7] ([(15,.b ((c<0)||(f.length<=c)))],[]) Z (H 4 Z (λa=>Y 6 15 Z (Jf a Z)) λa=>Y 6 15 Z (Xk a Z))<|I 1 Z (E 7 Z)<|vA_ 7 Qb Z λg=>E 4 Z
def QdX:O_ Bool:=cond m (j_ (idx e d) λa=>j_ (idx a s) λb=>Q (decide (b.1<j0)))<|Q f_
def Me:O_ ((Bool×Int)⊕Bool):=j_ (idx e d) λa=>cond (i0<a.length) (j_ (QdX h0 e d i0 s) (λc=>Q (y_ (c,(Qh (i0+1))))))<|Q (i_ h0)
def QdY:O_ (Int⊕(Unit⊕Unit)):=cond (!m) (Q (i_ (y_ ())))<|Q (y_ (Qh (a+1)))
def Mf:O_ (Int⊕(Unit⊕Unit)):=cond (e0<e.length) (j_ (idx e e0) λg=>j_ (Wx g) λc=>j_ (idx k0.Places e0) λd=>j_ (EK k0.Colours d.Colour) λa=>j_ (Qq (λst=>Me e e0 a st.1 st.2) (c,0)) (λq=>QdY e0 q))<|Q (i_ (i_ ()))
def SS:O_ Bool:=cond ((e.length:Int)!=b.Places.length) (Q f_)<|j_ (Qq (λst=>Mf e b st) 0) (Sum.elim (λq=>Q f_) (λq=>Q t_))
def QmE {j k}:CT 80 [.G Qi j,.M 1 Qj k] [] (SS j k) V.b no_:=
 W 59 func80 Z<|N 10 Z<|N 2 Z<|I 3 Z (E 7 Z)<|F 9 [1,2] [2] (λst=>([(5,.I st)],[])) [] [] (λq=>(.ret,([(4,.b f_)],[]))) [] [] (λq=>(.exit 0,([],[]))) Z (λt=>N 5 Z<|I 3 Z (J 8 Z λu=>A 1 Dl Z λn=>B λh f=>B λi g=>D 4 Z (dz_ [(5,.B (.row (Xd h))),(2,.B (.C2 (.I i))),(0,.N)]) [] [] [1,2,5,6,7] [2] Z Z (a2_ (XE f) (On _ g)) Z<|lA_ 8 [1,2,5,7] [2] (λst=>([(6,.b st.1),(8,.I st.2)],[])) [1,2,5] [2] (λq=>(.exit 2,([(6,.b q)],[]))) Z (λ⟨l,o⟩=>J 6 Z λp=>N 1 Z<|I 3 Z (mV_ 4 [1,2,5,7,8] [2] (λe=>([(6,.b e)],[])) Z (I 3 Z (J 2 Z λr=>J 2 Z λs=>M 7 Z)<|M 13 Z) λe=>R 7 Z)<|X 2 Z) λm=>I 8 Z (L 8 Z)<|R 8 Z)<|X 2 Z) (λ_=>E 2 Z) (λ_=>E 8 Z)
def Ub:O_ Bool:=
 cond ((k.Most<1)||((16<k.Most)||((k.Enough<1)||((k.Most<k.Enough)||((k.Open<0)||((k.Done<0)||((k.Failed<0)||((16<k.Open)||((16<k.Done)||(16<k.Failed)))))))))) (Q f_)<|Q ((1<=(Qh ((Qh (k.Open+k.Done))+k.Failed)))&&((Qh ((Qh (k.Open+k.Done))+k.Failed))<=k.Most))
def Mg {d}:CT 139 [.G XV d] [] (Ub d) V.b no_:=
 W 70 func139 Z<|T 8 [1] [1] ([(53,.b ((d.Most<1)||((16<d.Most)||((d.Enough<1)||((d.Most<d.Enough)||((d.Open<0)||((d.Done<0)||((d.Failed<0)||((16<d.Open)||((16<d.Done)||(16<d.Failed)))))))))))],[]) Z (H 5 Z (λa=>Y 47 53 Z (Jf a Z)) λa=>H 5 Z (λc=>Y 42 53 Z (Xk a (Jf c Z))) λc=>H 5 Z (λf=>Y 37 53 Z (Xk a (Xk c (Jf f Z)))) λf=>H 7 Z (λg=>Y 30 53 Z (Xk a (Xk c (Xk f (Jf g Z))))) λg=>H 5 Z (λi=>Y 25 53 Z (Xk a (Xk c (Xk f (Xk g (Jf i Z)))))) λi=>H 5 Z (λe=>Y 20 53 Z (Xk a (Xk c (Xk f (Xk g (Xk i (Jf e Z))))))) λe=>H 5 Z (λh=>Y 15 53 Z (Xk a (Xk c (Xk f (Xk g (Xk i (Xk e (Jf h Z)))))))) λh=>H 5 Z (λj=>Y 10 53 Z (Xk a (Xk c (Xk f (Xk g (Xk i (Xk e (Xk h (Jf j Z))))))))) λj=>H 5 Z (λk=>Y 5 53 Z (Xk a (Xk c (Xk f (Xk g (Xk i (Xk e (Xk h (Xk j (Jf k Z)))))))))) λk=>Y 5 53 Z (Xk a (Xk c (Xk f (Xk g (Xk i (Xk e (Xk h (Xk j (Xk k Z))))))))))<|I 1 Z (E 7 Z)<|T 16 [] [] ([(2,.b ((1<=(Qh ((Qh (d.Open+d.Done))+d.Failed)))&&((Qh ((Qh (d.Open+d.Done))+d.Failed))<=d.Most)))],[]) Z (H 4 Z (λl=>Y 7 2 Z (Ye l Z)) λl=>Y 7 2 Z (YH l Z))<|E 2 Z
def Qe9:O_ Bool:=j_ (Ub k) λb=>cond b (cond (k.Enough<=k.Done) (Q t_)<|Q (k.Open==0))<|Q f_
def IZ:O_ Bool:=j_ (Qe9 k) (λb=>Q b)
def Zo {a}:CT 93 [.G XV a] [] (IZ a) V.b no_:=
 W 17 func93 Z<|mV_ 7 [] [] (λc=>([(2,.b c)],[])) Z (A 2 Mg Z λd=>I 1 Z (I 6 Z (M 7 Z)<|M 7 Z)<|M 13 Z) λc=>E 2 Z
def TJ (f:(L_ Qm)):O_ Bool:=cond (!m) (Q t_)<|cond h0 (Q t_)<|cond (p.Until<0) (Q t_)<|cond (p.Id<1) (Q t_)<|cond (i0<=p.Id) (Q t_)<|cond (0<j2) (j_ (idx f (Qh (j2-1))) λd=>Q (decide (p.Id<=d.Id)))<|Q f_
def QdZ:O_ (Int⊕(Unit⊕Unit)):=cond m (Q (i_ (y_ ())))<|Q (y_ (Qh (a+1)))
def UF:O_ (Int⊕(Unit⊕Unit)):=cond (d<n.length) (j_ (idx n d) λa=>j_ (Ub a.Batch) λb=>j_ (IZ a.Batch) λe=>j_ (TJ b e a c d n) (λf=>QdZ d f))<|Q (i_ (i_ ()))
def SU:O_ Bool:=cond (64<(n.length:Int)) (Q f_)<|j_ (Qq (λst=>UF n c st) 0) (Sum.elim (λq=>Q f_) (λq=>Q t_))
def QmH {l next_2}:CT 81 [.M 11 Qt l,.I next_2] [] (SU l next_2) V.b no_:=
 W 64 func81 Z<|N 9 Z<|I 3 Z (E 7 Z)<|F 9 [0,1] [] (λst=>([(5,.I st)],[])) [] [] (λq=>(.ret,([(4,.b f_)],[]))) [] [] (λq=>(.exit 0,([],[]))) Z (λo=>N 5 Z<|I 3 Z (J 8 Z λp=>A 9 Mg Z λm=>A 7 Zo Z λn=>mV_ 4 [0,1,5] [] (λi=>([(63,.b i)],[])) Z (jF_ (λc=>D 0 Z (dz_ [(2,.E (.b t_)),(32,.N)]) [] [] [0,1,5,63] [] Z Z (tc_ c) Z<|M 0 Z) λc=>jF_ (λd=>D 0 Z (dz_ [(2,.E (.b f_)),(2,.E (.b t_)),(29,.N)]) [] [] [0,1,5,63] [] Z Z ⟨(tc_ c),(cb_ d)⟩ Z<|M 0 Z) λd=>jF_ (λe=>D 0 Z (dz_ [(2,.E (.b f_)),(2,.E (.b f_)),(4,.E (.b t_)),(24,.N)]) [] [] [0,1,5,63] [] Z Z ⟨⟨(tc_ c),(cb_ d)⟩,(cb_ e)⟩ Z<|M 0 Z) λe=>jF_ (λf=>D 0 Z (dz_ [(2,.E (.b f_)),(2,.E (.b f_)),(4,.E (.b f_)),(4,.E (.b t_)),(19,.N)]) [] [] [0,1,5,63] [] Z Z ⟨⟨⟨(tc_ c),(cb_ d)⟩,(cb_ e)⟩,(cb_ f)⟩ Z<|M 0 Z) λf=>jF_ (λg=>D 0 Z (dz_ [(2,.E (.b f_)),(2,.E (.b f_)),(4,.E (.b f_)),(4,.E (.b f_)),(5,.E (.b t_)),(13,.N)]) [] [] [0,1,5,63] [] Z Z ⟨⟨⟨⟨(tc_ c),(cb_ d)⟩,(cb_ e)⟩,(cb_ f)⟩,(cb_ g)⟩ Z<|M 0 Z) λg=>jF_ (λh=>B λk j=>D 0 Z (dz_ [(2,.E (.b f_)),(2,.E (.b f_)),(4,.E (.b f_)),(4,.E (.b f_)),(5,.E (.b f_)),(2,.E (.b t_)),(5,.B (.row (Qt k))),(4,.N)]) [] [] [0,1,5,63] [] Z Z ⟨⟨⟨⟨⟨⟨(tc_ c),(cb_ d)⟩,(cb_ e)⟩,(cb_ f)⟩,(cb_ g)⟩,(cb_ h)⟩,(XE j)⟩ Z<|M 0 Z) λh=>D 0 Z (dz_ [(2,.E (.b f_)),(2,.E (.b f_)),(4,.E (.b f_)),(4,.E (.b f_)),(5,.E (.b f_)),(2,.E (.b f_)),(10,.N)]) [] [] [0,1,5,63] [] Z Z ⟨⟨⟨⟨⟨(tc_ c),(cb_ d)⟩,(cb_ e)⟩,(cb_ f)⟩,(cb_ g)⟩,(cb_ h)⟩ Z<|M 0 Z) λi=>I 1 Z (L 8 Z)<|R 8 Z)<|X 2 Z) (λ_=>E 2 Z) (λ_=>E 8 Z)
def Qb9:O_ Bool:=cond (a<0) (Q t_)<|j_ (EK g0 o) λb=>Q (decide (b<=a))
def Qca:O_ (Int×Bool):=cond h0 (Q (0,f_))<|j_ (idx g0 o) λa=>cond (a.Kind==1) (j_ (idx g0 o) λb=>Q ((Qh (b.Lo+g3)),t_))<|Q (g3,t_)
def Rc:O_ (Int×Bool):=j_ (Qb9 g3 g0 o) (λd=>Qca g0 o g3 d)
def QkY {a c d}:CT 232 [.M 7 Xm a,.I c,.I d] [] (Rc a c d) (λr=>(.tup [.I r.1,.b r.2])) no_:=
 W 31 func232 Z<|mV_ 8 [0,1,2] [] (λe=>([(16,.b e)],[])) Z (I 4 Z (M 7 Z)<|A 3 On Z λf=>M 3 Z) λe=>I 1 Z (E 8 Z)<|J 7 Z λg=>I 5 Z (J 4 Z λh=>E 10 Z)<|E 10 Z
def La:O_ ((Int×LI_)⊕(Unit⊕LI_)):=cond (e0<j.Vars.length) (j_ (idx j.Vars e0) λf=>j_ (idx d4 e0) λg=>j_ (Rc k0.Colours f.Colour g) λd=>cond (!d.2) (Q (i_ (y_ ())))<|j_ (chk (g1.length+([d.1]:L_ Int).length<=4294967296)) λ_=>Q (y_ ((Qh (e0+1)),(g1++([d.1]:L_ Int)))))<|Q (i_ (i_ g1))
def Nh:O_ (LI_×Int):=
 cond ((c<0)||(b.Tasks.length<=c)) (Q (([]:L_ Int),3))<|j_ (idx b.Tasks c) λa=>
 cond ((f.length:Int)!=a.Vars.length) (Q (([]:L_ Int),1))<|j_ (Qq (λst=>La a f b st.1 st.2) (0,([]:L_ Int))) (Sum.elim (λq=>Q (([]:L_ Int),1)) (λq=>Q (q,0)))
def Qav {l e f}:CT 140 [.G Qi l,.I e,.M 1 Qb f] [] (Nh l e f) (λr=>(.tup [.M 1 Qb r.1,.I r.2])) no_:=
 W 61 func140 Z<|T 9 [1,2,3] [3] ([(21,.b ((e<0)||((l.Tasks.length:Int)<=e)))],[]) Z (H 4 Z (λg=>Y 7 21 Z (Jf g Z)) λg=>N 3 Z<|Y 3 21 Z (Xk g Z))<|I 1 Z (gT_ [8,.denil 6 [Q 1]] Z<|E 0 Z)<|J 7 Z λp=>N 9 Z<|N 1 Z<|I 3 Z (gT_ [8,.denil 6 [Q 1]] Z<|E 0 Z)<|aD_ 14 9 56 1 Z<|F 0 [2,3,8] [3] (λst=>([(9,.P 56 st.2),(10,.I st.1)],[(56,.R 1 Qb st.2)])) [] [] (λq=>(.ret,([(6,.Y),(7,.I 1)],[]))) [] [] (λq=>(.exit 0,([(9,.P 56 q)],[(56,.R 1 Qb q)]))) Z (λ⟨s,t⟩=>N 5 Z<|I 3 Z (B λm h=>B λo i=>B λj k=>D 5 Z (dz_ [(4,.B (.row (YM m))),(4,.B (.row (Qb o))),(1,.B (.C3 (.tup [.I j.1,.b j.2]))),(4,.N)]) [] [] [2,3,8,9,10,11,12] [3,56] Z Z (a3_ (XE h) (XE i) (QkY _ k)) Z<|I 8 Z (L 10 Z)<|pA_ 5 1 Qb Z<|R 9 Z)<|X 2 Z) (λ_=>gT_ [2,.denil 6 [Q 1]] Z<|E 0 Z) (λu=>zF_ 10 56 [6] [] Z<|E 0 Z)
def Zp:O_ Int:=j_ (Qq (λst=>cond (st.2<(j3.Kids.length:Int)) (j_ (idx j3.Kids st.2) λf=>j_ (f4 f) λg=>Q (y_ ((max2 st.1 g),(Qh (st.2+1)))))<|Q (i_ st.1)) (0,0)) (λq=>Q (Qh (q+1)))
def EL : Nat->Qs->O_ Int
 |0,_=>none|n+1,a=>Zp (EL n) a
def QbS:O_ Int:=EL (SizeOf.sizeOf t) t
def Qjx {O:Qs->O_ Int}{hrec_ref04_Depth:∀(a:Qs) {r:Int},O a=Q r->QX prog 297 [.G QY a] [] (Gives (.I r) [])}{a:Qs}:CT 297 [.G QY a] [] (Zp O a) V.I no_:=
 W 22 func297 Z<|lA_ 18 [1] [1] (λst=>([(3,.I st.1),(4,.I st.2)],[])) [] [] (λq=>(.exit 0,([(3,.I q)],[]))) Z (λ⟨g,h⟩=>nR_ 6 BB Z<|I 3 Z (xR_ 9 Kj Z λi f=>B λe b=>G [1,.o (.C1 (.I e)),10] Z (hrec_ref04_Depth _ b)<|R 0 Z)<|X 2 Z) λj=>E 10 Z
def Qbw : ∀(fuel:Nat) (a:Qs) {r:Int},EL fuel a=Q r->QX prog 297 [.G QY a] [] (Gives (.I r) [])
 |0,_,_,h=>by cases h
 |n+1,a,_,h=>@Qjx (EL n) (λ_ _ h=>Qbw n _ h) a _ h
def QmK (a){r}(h:QbS a=Q r):QX prog 297 [.G QY a] [] (Gives (.I r) []):=Qbw _ a h
def Qaw:O_ Int:=j_ (Qq (λst=>cond (st.2<(j3.Kids.length:Int)) (j_ (idx j3.Kids st.2) λf=>j_ (f4 f) λg=>Q (y_ ((Qh (st.1+g)),(Qh (st.2+1)))))<|Q (i_ st.1)) (1,0)) (λq=>Q q)
def UG : Nat->Qs->O_ Int
 |0,_=>none|n+1,a=>Qaw (UG n) a
def Qd0:O_ Int:=UG (SizeOf.sizeOf t) t
def QkZ {O:Qs->O_ Int}{hrec_ref04_Size:∀(a:Qs) {r:Int},O a=Q r->QX prog 298 [.G QY a] [] (Gives (.I r) [])}{a:Qs}:CT 298 [.G QY a] [] (Qaw O a) V.I no_:=
 W 21 func298 Z<|lA_ 18 [1] [1] (λst=>([(3,.I st.1),(4,.I st.2)],[])) [] [] (λq=>(.exit 0,([(3,.I q)],[]))) Z (λ⟨g,h⟩=>nR_ 6 BB Z<|I 3 Z (xR_ 9 Kj Z λi f=>B λe b=>G [1,.o (.C1 (.I e)),10] Z (hrec_ref04_Size _ b)<|R 0 Z)<|X 2 Z) λj=>E 9 Z
def Qcb : ∀(fuel:Nat) (a:Qs) {r:Int},UG fuel a=Q r->QX prog 298 [.G QY a] [] (Gives (.I r) [])
 |0,_,_,h=>by cases h
 |n+1,a,_,h=>@QkZ (UG n) (λ_ _ h=>Qcb n _ h) a _ h
def QoG (a){r}(h:Qd0 a=Q r):QX prog 298 [.G QY a] [] (Gives (.I r) []):=Qcb _ a h
def QbT:O_ Bool:=Q ((1<=a)&&(a<=11))
def QmL {JZ}:CT 331 [.I JZ] [] (QbT JZ) V.b no_:=
 W 9 func331 Z<|T 6 [] [] ([(2,.b ((1<=JZ)&&(JZ<=11)))],[]) Z (H 4 Z (λa=>Y 5 2 Z (Ye a Z)) λa=>Y 5 2 Z (YH a Z))<|E 2 Z
def UH:O_ ((Bool×Int)⊕Bool):=cond ((i0<t.Kids.length)&&h0) (j_ (idx t.Kids i0) λd=>j_ (k2 d i1) λe=>Q (y_ (e,(Qh (i0+1)))))<|Q (i_ h0)
def Wp:O_ Bool:=j_ (Qq (λst=>UH t k2 i1 st.1 st.2) (h0,0)) (λq=>Q q)
def Qd1:O_ Bool:=cond ((t.Kids.length:Int)==2) (j_ (QbT t.Num) λa=>Q a)<|Q f_
def Qd2:O_ Bool:=Wp t k2 i1 h0
def Mh:O_ Bool:=cond h0 (Wp t k2 i1 ((t.Kids.length:Int)==1))<|cond (t.Kind==5) (j_ (Qd1 t) (λc=>Qd2 t k2 i1 c))<|cond (t.Kind==6) (Wp t k2 i1 ((t.Kids.length:Int)==3))<|Wp t k2 i1 f_
def Oo:O_ Bool:=cond (d3.Kind==1) (Wp d3 k2 i1 ((d3.Kids.length:Int)==0))<|cond (d3.Kind==2) (Wp d3 k2 i1 (((d3.Kids.length:Int)==0)&&((0<=d3.Num)&&(d3.Num<i1))))<|cond (d3.Kind==3) (Mh d3 k2 i1 (d3.Kind==3))<|Mh d3 k2 i1 (d3.Kind==4)
def EM : Nat->Qs->Int->O_ Bool
 |0,_,_=>none|n+1,b,a=>Oo (EM n) b a
def QbU:O_ Bool:=EM (SizeOf.sizeOf t) t s
def Qjy {O:Qs->Int->O_ Bool}{hrec_ref04_parts:∀(f:Qs) (a:Int) {r:Bool},O f a=Q r->QX prog 299 [.G QY f,.I a] [] (Gives (.b r) [])}{f:Qs}{a:Int}:CT 299 [.G QY f,.I a] [] (Oo O f a) V.b no_:=
 W 66 func299 Z<|nR_ 10 BB Z<|mE_ 8 [1,2,5] [2] (λi:Bool=>([(6,.b i)],[])) (λi=>Wp f O a i) Z (I 13 Z (P 6 Z Z)<|I 6 Z (T 0 [1,2,5] [2] ([(6,.b (((f.Kids.length:Int)==0)&&((0<=f.Num)&&(f.Num<a))))],[]) Z (H 4 Z (λe=>H 5 Z (λg=>Y 7 6 Z (Ye e (Ye g Z))) λg=>Y 7 6 Z (Ye e (YH g Z))) λe=>Y 12 6 Z (YH e Z))<|P 1 Z Z)<|mE_ 0 [1,2,5,6,12] [2] (λj:Bool=>([(32,.b j)],[])) (λj=>Mh f O a j) Z (I 6 Z (P 1 Z Z)<|P 4 Z Z) λj=>I 0 Z (P 6 Z Z)<|I 6 Z (mV_ 0 [1,2,5] [2] (λk=>([(6,.b k)],[])) Z (I 4 Z (A 2 QmL Z λt=>M 3 Z)<|M 6 Z) λk=>P 1 Z Z)<|I 6 Z (P 6 Z Z)<|P 2 Z Z) λi=>lA_ 7 [1,2,5] [2] (λst=>([(6,.b st.1),(7,.I st.2)],[])) [] [] (λq=>(.exit 1,([(6,.b q)],[]))) Z (λ⟨m,u⟩=>T 2 [1,2,5,6,7] [2] ([(55,.b ((u<(f.Kids.length:Int))&&m))],[]) Z (H 5 Z (λh=>Y 3 55 Z (Ye h Z)) λh=>Y 3 55 Z (YH h Z))<|I 1 Z (xR_ 8 Kj Z λv s=>B λp l=>G [2,.o (.C2 (.b p)),9] Z (hrec_ref04_parts _ _ l)<|R 0 Z)<|X 2 Z) λw=>E 9 Z
def Qbx : ∀(fuel:Nat) (c:Qs) (a:Int) {r:Bool},EM fuel c a=Q r->QX prog 299 [.G QY c,.I a] [] (Gives (.b r) [])
 |0,_,_,_,h=>by cases h
 |n+1,c,a,_,h=>@Qjy (EM n) (λ_ _ _ h=>Qbx n _ _ h) c a _ h
def QmN (c a){r}(h:QbU c a=Q r):QX prog 299 [.G QY c,.I a] [] (Gives (.b r) []):=Qbx _ c a h
def Qd3:O_ Bool:=j_ (QbS t) λd=>cond (d<=40) (j_ (Qd0 t) λe=>cond (e<=400) (j_ (QbU t s) λc=>Q c)<|Q f_)<|Q f_
def SV:O_ Bool:=j_ (Qd3 t s) (λc=>Q c)
def QmP {i a}:CT 234 [.G QY i,.I a] [] (SV i a) V.b no_:=
 W 18 func234 Z<|mV_ 7 [] [] (λj=>([(4,.b j)],[])) Z (B λk f=>G [2,.o (.C1 (.I k)),2] Z (QmK _ f)<|I 0 Z (B λl g=>G [1,.o (.C1 (.I l)),3] Z (QoG _ g)<|I 0 Z (B λh e=>G [2,.o (.C2 (.b h)),3] Z (QmN _ _ e)<|M 0 Z)<|M 6 Z)<|M 11 Z) λj=>E 2 Z
def Qa8:O_ (Int×Bool):=
 cond (cond (0<h) (((Qh (9223372036854775807-h))<a)||((h<0)&&(a<(Qh ((-9223372036854775808)-h)))))<|((h<0)&&(a<(Qh ((-9223372036854775808)-h))))) (Q (0,f_))<|Q ((Qh (a+h)),t_)
def Qqn {g f}:CT 332 [.I g,.I f] [] (Qa8 g f) (λr=>(.tup [.I r.1,.b r.2])) no_:=
 W 27 func332 Z<|T 8 [0,1] [] ([(23,.b (cond (0<f) (((Qh (9223372036854775807-f))<g)||((f<0)&&(g<(Qh ((-9223372036854775808)-f)))))<|((f<0)&&(g<(Qh ((-9223372036854775808)-f))))))],[]) Z (H 4 Z (λa=>H 6 Z (λe=>Y 10 23 Z (Te a (Jf e Z))) λe=>H 3 Z (λc=>Y 7 23 Z (Te a (Xk e (Ye c Z)))) λc=>Y 7 23 Z (Te a (Xk e (YH c Z)))) λa=>H 9 Z (λd=>Y 7 23 Z (QfH a (Ye d Z))) λd=>Y 7 23 Z (QfH a (YH d Z)))<|I 1 Z (E 8 Z)<|E 12 Z
def Qa9:O_ (Int×Bool):=
 cond (cond (h<0) (((Qh (9223372036854775807+h))<a)||((0<h)&&(a<(Qh ((-9223372036854775808)+h)))))<|((0<h)&&(a<(Qh ((-9223372036854775808)+h))))) (Q (0,f_))<|Q ((Qh (a-h)),t_)
def Qqo {g f}:CT 333 [.I g,.I f] [] (Qa9 g f) (λr=>(.tup [.I r.1,.b r.2])) no_:=
 W 27 func333 Z<|T 8 [0,1] [] ([(23,.b (cond (f<0) (((Qh (9223372036854775807+f))<g)||((0<f)&&(g<(Qh ((-9223372036854775808)+f)))))<|((0<f)&&(g<(Qh ((-9223372036854775808)+f))))))],[]) Z (H 4 Z (λa=>H 6 Z (λe=>Y 10 23 Z (Te a (Jf e Z))) λe=>H 3 Z (λc=>Y 7 23 Z (Te a (Xk e (Ye c Z)))) λc=>Y 7 23 Z (Te a (Xk e (YH c Z)))) λa=>H 9 Z (λd=>Y 7 23 Z (QfH a (Ye d Z))) λd=>Y 7 23 Z (QfH a (YH d Z)))<|I 1 Z (E 8 Z)<|E 12 Z
def QgF:O_ Bool:=
 cond (cond (a<0) ((0<h)||((0<a)&&(h<0)))<|((0<a)&&(h<0))) (j_ (chk (c != 0)) λ_=>
 cond ((Qh (d-1))<=(Qh (Int.tdiv (Qh (9223372036854775807-(Qh (c-1)))) c))) (Q ((Qh (d*c))==(-9223372036854775808)))<|Q f_)<|Q f_
def Qax:O_ (Int×Bool):=cond m (Q ((-9223372036854775808),t_))<|Q (0,f_)
def Lb:O_ (Int×Bool):=j_ (chk (d != 0)) λ_=>cond (a<=(Qh (Int.tdiv 9223372036854775807 d))) (Q ((Qh (h*c)),t_))<|j_ (QgF h c d a) (λb=>Qax b)
def Lc:O_ (Int×Bool):=cond (a<0) (Lb c h a (Qh (0-a)))<|Lb c h a a
def Qba:O_ (Int×Bool):=
 cond ((a==0)||(h==0)) (Q (0,t_))<|cond ((a==(-9223372036854775808))||(h==(-9223372036854775808))) (cond ((a==1)||(h==1)) (Q ((Qh (a*h)),t_))<|Q (0,f_))<|cond (a<0) (Lc h a (Qh (0-a)))<|Lc h a a
def Qqp {p q}:CT 334 [.I p,.I q] [] (Qba p q) (λr=>(.tup [.I r.1,.b r.2])) no_:=
 W 78 func334 Z<|@λC r=>T 8 [0,1] [] ([(14,.b ((p==0)||(q==0)))],[]) Z (H 4 Z (λt=>Y 4 14 Z (Jf t Z)) λt=>Y 4 14 Z (Xk t Z))<|I 1 Z (E 8 Z)<|T 4 [0,1] [] ([(20,.b ((p==(-9223372036854775808))||(q==(-9223372036854775808))))],[]) Z (H 4 Z (λe=>Y 4 20 Z (Jf e Z)) λe=>Y 4 20 Z (Xk e Z))<|I 1 Z (T 2 [0,1] [] ([(26,.b ((p==1)||(q==1)))],[]) Z (H 4 Z (λf=>Y 4 26 Z (Jf f Z)) λf=>Y 4 26 Z (Xk f Z))<|I 1 Z (E 12 Z)<|E 10 Z)<|mE_ 8 [0,1] [] (λg:Int=>([(6,.I g)],[])) (λg=>Lc q p g) Z (I 6 Z (P 5 Z Z)<|P 1 Z Z) λg=>mE_ 6 [0,1,6] [] (λs:Int=>([(7,.I s)],[])) (λs=>Lb g p q s) Z (I 6 Z (P 5 Z Z)<|P 1 Z Z) λs=>T 1 [0,1,6,7] [] ([(8,.b (cond (p<0) ((0<q)||((0<p)&&(q<0)))<|((0<p)&&(q<0))))],[]) Z (H 4 Z (λa=>H 4 Z (λc=>Y 9 8 Z (Te a (Jf c Z))) λc=>H 3 Z (λi=>Y 6 8 Z (Te a (Xk c (Ye i Z)))) λi=>Y 6 8 Z (Te a (Xk c (YH i Z)))) λa=>H 7 Z (λj=>Y 6 8 Z (QfH a (Ye j Z))) λj=>Y 6 8 Z (QfH a (YH j Z)))<|kA_ λv=>(λd h=>by
   refine YF d [10] rfl (a1_ (neZ v)) ?_;refine bg_ h (λk h=>YF d [.T,11,.K [4,5] []] rfl (a1_ k) ?_) λk h=>YF d [.F,4] rfl (a1_ k) ?_
   ·exact E 0 Z d h
   obtain⟨u,w,h⟩:=QI h;replace h:Qax u=Q r:=h;refine AK.meetX (λz=>z=⟨[(77,.b u)],[]⟩) ?_ ?_
   ·replace h:=w;refine tg_ d [3] ?_;rcases Xy h with⟨l,h⟩|⟨l,h⟩
    ·obtain⟨x,h⟩:=QBz h;refine YF d [.S 62 (.b t_),10] rfl ⟨(tc_ l),(neZ x)⟩ ?_;refine bg_ h (λm h=>YF d [.S 72 (.b t_),6,.K [77] []] rfl (tc_ m) ?_) λm h=>YF d [.S 72 (.b f_),6,.K [77] []] rfl (tc_ m) ?_
     ·cases h;exact mt_
     cases h;exact mt_
    refine YF d [.S 62 (.b f_),16,.K [77] []] rfl (tc_ l) ?_;cases h;exact mt_
   rintro z rfl;replace h:Qax u=Q r:=h;refine tg_ d [1] ?_;refine bg_ h (λo h=>YF d [.T,8,.K [4,5] []] rfl (a1_ o) ?_) λo h=>YF d [.F,9,.K [4,5] []] rfl (a1_ o) ?_
   ·exact E 0 Z d h
   exact E 0 Z d h)
def Ey:O_ Int:=cond m (Q 1)<|Q 0
def Eg {a}:CT 335 [.b a] [] (Ey a) V.I no_:=
 W 4 func335 Z<|I 11 Z (E 7 Z)<|E 8 Z
def FF:O_ (Int×Int):=cond (!m) (Q (0,6))<|Q (a,0)
def Qic:O_ Int:=cond (a != 0) (j_ (Ey (h != 0)) λc=>Q c)<|j_ (Ey f_) λb=>Q b
def Qid:O_ (Int×Int):=Q (a,0)
def Qie:O_ Int:=cond (a != 0) (j_ (Ey t_) λc=>Q c)<|j_ (Ey (h != 0)) λb=>Q b
def Qif:O_ (Int×Int):=Q (a,0)
def FG:O_ (Int×Int):=cond h0 (cond (a==0) (Q (0,7))<|cond ((h==(-9223372036854775808))&&(a==(-1))) (Q (0,6))<|cond (c==4) (j_ (chk (a != 0)) λ_=>Q ((Qh (Int.tdiv h a)),0))<|j_ (chk (a != 0)) λ_=>Q ((Int.tmod h a),0))<|cond (c==6) (j_ (Ey (h==a)) λd=>Q (d,0))<|cond (c==7) (j_ (Ey (h != a)) λe=>Q (e,0))<|cond (c==8) (j_ (Ey (decide (h<a))) λf=>Q (f,0))<|cond (c==9) (j_ (Ey (decide (h<=a))) λg=>Q (g,0))<|cond (c==10) (j_ (Qic h a) (λb=>Qid b))<|cond (c==11) (j_ (Qie h a) (λi=>Qif i))<|Q (0,1)
def GK:O_ (Int×Int):=cond (a==1) (j_ (Qa8 h c) λb=>FF b.1 b.2)<|cond (a==2) (j_ (Qa9 h c) λd=>FF d.1 d.2)<|cond (a==3) (j_ (Qba h c) λe=>FF e.1 e.2)<|cond (a==4) (FG c h a (a==4))<|FG c h a (a==5)
def Qig {JZ k l}:CT 300 [.I JZ,.I k,.I l] [] (GK JZ k l) (λr=>(.tup [.I r.1,.I r.2])) no_:=
 W 99 func300 Z<|mF_ 16 [] [] (λ(m:Int) (c:Bool)=>([(8,.I m),(9,.b c)],[])) (λm c=>FF m c) Z (I 12 Z (A 3 Qqn Z λo=>fA_ 7 Z Z)<|I 6 Z (A 3 Qqo Z λp=>fA_ 7 Z Z)<|I 6 Z (A 3 Qqp Z λq=>fA_ 7 Z Z)<|mE_ 0 [0,1,2,10] [] (λd:Bool=>([(35,.b d)],[])) (λd=>FG l k JZ d) Z (I 6 Z (P 1 Z Z)<|P 4 Z Z) λd=>I 0 Z (I 7 Z (E 10 Z)<|T 4 [0,1,2] [] ([(45,.b ((k==(-9223372036854775808))&&(l==(-1))))],[]) Z (H 4 Z (λa=>Y 4 45 Z (Ye a Z)) λa=>Y 4 45 Z (YH a Z))<|I 1 Z (E 10 Z)<|I 9 Z (kA_ λe=>(λf h=>by
   refine YF f [13,.K [6,7] []] rfl (a1_ (neZ e)) ?_;exact E 0 Z f h))<|kA_ λg=>(λf h=>by
   refine YF f [14,.K [6,7] []] rfl (a1_ (neZ g)) ?_;exact E 0 Z f h))<|I 6 Z (A 5 Eg Z λs=>E 7 Z)<|I 6 Z (A 5 Eg Z λt=>E 7 Z)<|I 6 Z (A 5 Eg Z λu=>E 7 Z)<|I 6 Z (A 5 Eg Z λv=>E 7 Z)<|I 6 Z (mV_ 1 [] [] (λi=>([(6,.I i),(7,.I 0)],[])) Z (I 4 Z (A 3 Eg Z λw=>M 3 Z)<|A 3 Eg Z λx=>M 3 Z) λi=>E 4 Z)<|I 6 Z (mV_ 1 [] [] (λj=>([(6,.I j),(7,.I 0)],[])) Z (I 4 Z (A 3 Eg Z λy=>M 3 Z)<|A 3 Eg Z λz=>M 3 Z) λj=>E 4 Z)<|E 9 Z) λm c=>I 7 Z (E 8 Z)<|E 10 Z
def Re (O:Qs->LI_->O_ (Int×Int))(c:Qs)(a:LI_):O_ (Int×Int):=cond (c.Kind==1) (Q (c.Num,0))<|cond (c.Kind==2) (j_ (idx a c.Num) λm=>Q (m,0))<|j_ (idx c.Kids 0) λi=>j_ (O i a) λb=>cond (b.2 != 0) (Q (0,b.2))<|cond (c.Kind==3) (j_ (GK 2 0 b.1) λe=>Q (e.1,e.2))<|cond (c.Kind==4) (cond (b.1==0) (Q (1,0))<|Q (0,0))<|cond (c.Kind==6) (cond (b.1 != 0) (j_ (idx c.Kids 1) λj=>j_ (O j a) λf=>Q (f.1,f.2))<|j_ (idx c.Kids 2) λk=>j_ (O k a) λg=>Q (g.1,g.2))<|cond ((c.Num==10)&&(b.1==0)) (Q (0,0))<|cond ((c.Num==11)&&(b.1 != 0)) (Q (1,0))<|j_ (idx c.Kids 1) λl=>j_ (O l a) λd=>cond (d.2 != 0) (Q (0,d.2))<|j_ (GK c.Num b.1 d.1) λh=>Q (h.1,h.2)
def UI : Nat->Qs->LI_->O_ (Int×Int)
 |0,_,_=>none|n+1,b,a=>Re (UI n) b a
def Qd4:O_ (Int×Int):=UI (SizeOf.sizeOf t) t f
def Qk0 {rec_ref04_eval:Qs->LI_->O_ (Int×Int)}{hrec_ref04_eval:∀(h:Qs) (a:LI_) {r:(Int×Int)},rec_ref04_eval h a=Q r->QX prog 235 [.G QY h,.M 1 Qb a] [] (Gives (.tup [.I r.1,.I r.2]) [])}{h:Qs}{a:LI_}:CT 235 [.G QY h,.M 1 Qb a] [] (Re rec_ref04_eval h a) (λr=>(.tup [.I r.1,.I r.2])) no_:=
 W 100 func235 Z<|I 21 Z (E 11 Z)<|I 6 Z (J 5 Z λe9=>E 8 Z)<|xR_ 7 Kj Z λw s=>B λg i=>G [2,.o (.C2 (.tup [.I g.1,.I g.2])),14] Z (hrec_ref04_eval _ _ i)<|I 0 Z (E 9 Z)<|I 16 Z (A 3 Qig Z λx=>E 9 Z)<|I 6 Z (I 7 Z (E 10 Z)<|E 11 Z)<|I 6 Z (I 7 Z (xR_ 4 Kj Z λy t=>B λj k=>G [2,.o (.C2 (.tup [.I j.1,.I j.2])),10] Z (hrec_ref04_eval _ _ k)<|E 0 Z)<|xR_ 6 Kj Z λz u=>B λl m=>G [2,.o (.C2 (.tup [.I l.1,.I l.2])),9] Z (hrec_ref04_eval _ _ m)<|E 0 Z)<|T 5 [1,2,6] [2] ([(73,.b ((h.Num==10)&&(g.1==0)))],[]) Z (H 5 Z (λe=>Y 4 73 Z (Ye e Z)) λe=>Y 4 73 Z (YH e Z))<|I 1 Z (E 8 Z)<|T 4 [1,2,6] [2] ([(80,.b ((h.Num==11)&&(g.1 != 0)))],[]) Z (H 5 Z (λf=>Y 4 80 Z (Ye f Z)) λf=>Y 4 80 Z (YH f Z))<|I 1 Z (E 8 Z)<|xR_ 6 Kj Z λC v=>B λp q=>G [2,.o (.C2 (.tup [.I p.1,.I p.2])),14] Z (hrec_ref04_eval _ _ q)<|I 0 Z (E 9 Z)<|A 8 Qig Z λO=>E 7 Z
def Qcc : ∀(fuel:Nat) (b:Qs) (a:LI_) {r:(Int×Int)},UI fuel b a=Q r->QX prog 235 [.G QY b,.M 1 Qb a] [] (Gives (.tup [.I r.1,.I r.2]) [])
 |0,_,_,_,h=>by cases h
 |n+1,b,a,_,h=>@Qk0 (UI n) (λ_ _ _ h=>Qcc n _ _ h) b a _ h
def QoH (b a){r}(h:Qd4 b a=Q r):QX prog 235 [.G QY b,.M 1 Qb a] [] (Gives (.tup [.I r.1,.I r.2]) []):=Qcc _ b a h
def Pb:O_ (Int×Int):=j_ (SV t f.length) λd=>cond (!d) (Q (0,1))<|j_ (Qd4 t f) λc=>Q (c.1,c.2)
def Qfa {e a}:CT 142 [.G QY e,.M 1 Qb a] [] (Pb e a) (λr=>(.tup [.I r.1,.I r.2])) no_:=
 W 18 func142 Z<|N 11 Z<|A 0 QmP Z λg=>I 10 Z (E 8 Z)<|B λf b=>G [6,.o (.C2 (.tup [.I f.1,.I f.2])),7] Z (QoH _ _ b)<|E 0 Z
def DX:O_ (Int⊕(Int⊕Unit)):=cond (d<a) (cond ((Qh (h+d))==c) (Q (i_ (y_ d)))<|Q (y_ (Qh (d+1))))<|Q (i_ (i_ ()))
def ET:O_ (Int×Bool):=j_ (Qq (λst=>DX a c h st) 0) (Sum.elim (λq=>Q (q,t_)) (λq=>Q (0,f_)))
def Qcd:O_ Bool:=cond (0<a) (j_ (idx g0 o) λb=>Q (b.Kind==1))<|Q f_
def Qce:O_ (Int×Bool):=cond h0 (j_ (idx g0 o) λb=>ET g3 q b.Lo)<|ET g3 q 0
def Rf:O_ (Int×Bool):=j_ (EK g0 o) λd=>j_ (Qcd d g0 o) (λc=>Qce g0 o d g3 c)
def Qk3 {e f d}:CT 233 [.M 7 Xm e,.I f,.I d] [] (Rf e f d) (λr=>(.tup [.I r.1,.b r.2])) no_:=
 W 40 func233 Z<|A 10 On Z λg=>mE_ 8 [2,8] [] (λa:Int=>([(9,.I a)],[])) (λa=>ET g d a) Z (mV_ 1 [0,1,2,8,9] [] (λc=>([(23,.b c)],[])) Z (I 4 Z (J 2 Z λh=>M 5 Z)<|M 8 Z) λc=>I 1 Z (J 3 Z λi=>P 4 Z Z)<|P 1 Z Z) λa=>F 7 [2,8,9] [] (λst=>([(10,.I st)],[])) [] [] (λq=>(.ret,([(6,.I q),(7,.b t_)],[]))) [] [] (λq=>(.exit 0,([],[]))) Z (λj=>I 8 Z (I 13 Z (L 10 Z)<|R 8 Z)<|X 2 Z) (λk=>E 2 Z) (λ_=>E 9 Z)
def Ib (j:(L_ Jy))(h:LI_)(k:Qc)(e:Int)(c:QMk):O_ ((Int×QMk)⊕(Int⊕QMk)):=
 cond (e<f.length) (j_ (idx f e) λd=>
 cond ((d<0)||((j.length:Int)<=d)) (Q (i_ (y_ 11)))<|j_ (idx j d) λl=>
 j_ (Pb l.Expr h) λa=>
 cond (a.2 != 0) (Q (i_ (y_ a.2)))<|j_ (idx j d) λb=>
 cond ((b.Place<0)||((k.Places.length:Int)<=b.Place)) (Q (i_ (y_ 3)))<|j_ (idx k.Places b.Place) λm=>
 j_ (Rf k.Colours m.Colour a.1) λi=>
 cond (!i.2) (Q (i_ (y_ 8)))<|j_ (idx c b.Place) λn=>
 j_ (BW n ([(i.1,1)]:QBg)) λg=>
 cond (g.2 != 0) (Q (i_ (y_ g.2)))<|j_ (idx c b.Place) λo=>
 Q (y_ ((Qh (e+1)),(c.set b.Place.toNat g.1))))<|Q (i_ (i_ c))
def UJ (d:(L_ Jy))(a:LI_)(c:LI_):O_ (QMk×Int):=j_ (chk (decide (0<=(b.Places.length:Int))&&decide ((b.Places.length:Int)<=(b.Places.length:Int))&&decide ((b.Places.length:Int)<=4294967296))) λ_=>j_ (Qq (λst=>Ib a d c b st.1 st.2) (0,(List.replicate (b.Places.length:Int).toNat (([]:QBg):QBg)))) (Sum.elim (λq=>Q (([]:L_ QBg),q)) (λq=>Q (q,0)))
def RW {m y e j}:CT 141 [.G Qi m,.M 4 KP y,.M 1 Qb e,.M 1 Qb j] [] (UJ m y e j) (λr=>(.tup [.M 1 Qj r.1,.I r.2])) no_:=
 W 103 func141 Z<|N 11 Z<|kA_ λz=>G [.o (.rows (List.replicate (m.Places.length:Int).toNat [.Y]))] Z ⟨z,Z⟩<|QpU (AK.denilA (b:=23) [Q 2] Z (QnT (f:=Qj) (x:=([]:QBg)) Z))<|G [.S 23 (.own 23 (List.replicate (m.Places.length:Int).toNat (([]:QBg):QBg)).length),10] Z (by simp)<|F 0 [1,2,3,4] [4] (λst=>([(10,.P 23 st.2),(11,.I st.1)],[(23,.R 1 Qj st.2)])) [] [] (λq=>(.ret,([(8,.Y),(9,.I q)],[]))) [] [] (λq=>(.exit 0,([(10,.P 23 q)],[(23,.R 1 Qj q)]))) Z (λ⟨a0,p⟩=>N 5 Z<|I 3 Z (J 8 Z λs=>T 6 [1,2,3,4,10,11,12] [4,23] ([(41,.b ((s<0)||((y.length:Int)<=s)))],[]) Z (H 4 Z (λg=>Y 6 41 Z (Jf g Z)) λg=>N 2 Z<|Y 3 41 Z (Xk g Z))<|I 1 Z (L 10 Z)<|J 6 Z λa1=>A 3 Qfa Z λa2=>I 14 Z (L 11 Z)<|J 6 Z λi=>T 7 [1,2,3,4,10,11,13,15] [4,23] ([(68,.b ((i.Place<0)||((m.Places.length:Int)<=i.Place)))],[]) Z (H 4 Z (λh=>Y 7 68 Z (Jf h Z)) λh=>N 3 Z<|Y 3 68 Z (Xk h Z))<|I 1 Z (L 10 Z)<|B λC t=>B λl u=>D 3 Z (dz_ [(5,.B (.row (Xd C))),(3,.B (.C3 (.tup [.I l.1,.b l.2]))),(4,.N)]) [] [] [1,2,3,4,10,11,15,16,17] [4,23] Z Z (a2_ (XE t) (Qk3 _ u)) Z<|I 8 Z (L 10 Z)<|vA_ 7 Qj Z λa3=>G [2,.v (.bd []) [] (.sl 2 (([(l.1,1)]:QBg).map QB))] Z Z<|A 0 Qau Z λw=>I 14 Z (L 11 Z)<|B λO k=>g3_ [7,.st (Qj O) ((p.set i.Place.toNat w.1).map Qj),8,.S 10 (.own 23 (p.set i.Place.toNat w.1).length)] Z (Yu k Z) ⟨(Xq (Yz k).2),EC Z⟩ (congrArg (λn=>V.own 23 n) (by simp))<|R 0 Z)<|X 2 Z) (λa4=>gT_ [2,.denil 8 [Q 1]] Z<|E 0 Z) (λa5=>zF_ 10 23 [8] [] Z<|E 0 Z)
def Be:O_ (QMk×Int):=j_ (Nh b r.Task r.Vars) λd=>cond (d.2 != 0) (Q (([]:L_ QBg),d.2))<|j_ (idx b.Tasks r.Task) λe=>j_ (UJ b e.Ins r.Ins d.1) λa=>Q (a.1,a.2)
def Mi {g h}:CT 82 [.G Qi g,.G Qy h] [] (Be g h) (λr=>(.tup [.M 1 Qj r.1,.I r.2])) no_:=
 W 34 func82 Z<|A 15 Qav Z λj=>I 14 Z (gT_ [9,.denil 4 [Q 1]] Z<|E 0 Z)<|B λi f=>B λb e=>D 3 Z (dz_ [(5,.B (.row (QE i))),(5,.B (.C4 (.tup [.M 1 Qj b.1,.I b.2]))),(2,.m .s),(0,.m .s)]) [] [] [4,5] [] Z Z (a2_ (XE f) (RW _ e)) Z<|E 2 Z
def Bf:O_ (QMk×Int):=j_ (Nh b r.Task r.Vars) λd=>cond (d.2 != 0) (Q (([]:L_ QBg),d.2))<|j_ (idx b.Tasks r.Task) λe=>j_ (UJ b e.Outs r.Outs d.1) λa=>Q (a.1,a.2)
def TK {g h}:CT 83 [.G Qi g,.G Qy h] [] (Bf g h) (λr=>(.tup [.M 1 Qj r.1,.I r.2])) no_:=
 W 34 func83 Z<|A 15 Qav Z λj=>I 14 Z (gT_ [9,.denil 4 [Q 1]] Z<|E 0 Z)<|B λi f=>B λb e=>D 3 Z (dz_ [(5,.B (.row (QE i))),(5,.B (.C4 (.tup [.M 1 Qj b.1,.I b.2]))),(2,.m .s),(0,.m .s)]) [] [] [4,5] [] Z Z (a2_ (XE f) (RW _ e)) Z<|E 2 Z
def Mj:O_ (Int⊕(Unit⊕Unit)):=
 cond (e0<i.Items.length) (j_ (idx i.Items e0) λc=>
 j_ (Be k0 c.Mode) λd=>
 j_ (idx i.Items e0) λe=>
 j_ (Bf k0 e.Mode) λf=>
 cond ((d.2 != 0)||(f.2 != 0)) (Q (i_ (y_ ())))<|Q (y_ (Qh (e0+1))))<|Q (i_ (i_ ()))
def SW:O_ Bool:=
 j_ (SS b i.M) λc=>
 j_ (SU i.Items i.Next) λd=>
 cond ((!c)||((!d)||((i.Next<1)||((1099511627776<i.Next)||((i.Now<0)||(1099511627776<i.Now)))))) (Q f_)<|j_ (Qq (λst=>Mj i b st) 0) (Sum.elim (λq=>Q f_) (λq=>Q t_))
def QmS {u m}:CT 47 [.G Qi u,.G Xw m] [] (SW u m) V.b no_:=
 W 82 func47 Z<|A 12 QmE Z λv=>A 9 QmH Z λw=>T 5 [2,3] [2,3] ([(46,.b ((!v)||((!w)||((m.Next<1)||((1099511627776<m.Next)||((m.Now<0)||(1099511627776<m.Now)))))))],[]) Z (H 4 Z (λf=>Y 24 46 Z (Jf f Z)) λf=>H 4 Z (λh=>Y 20 46 Z (Xk f (Jf h Z))) λh=>H 5 Z (λe=>Y 15 46 Z (Xk f (Xk h (Jf e Z)))) λe=>H 5 Z (λg=>Y 10 46 Z (Xk f (Xk h (Xk e (Jf g Z))))) λg=>H 5 Z (λi=>Y 5 46 Z (Xk f (Xk h (Xk e (Xk g (Jf i Z)))))) λi=>Y 5 46 Z (Xk f (Xk h (Xk e (Xk g (Xk i Z))))))<|I 1 Z (E 7 Z)<|F 9 [2,3] [2,3] (λst=>([(7,.I st)],[])) [] [] (λq=>(.ret,([(4,.b f_)],[]))) [] [] (λq=>(.exit 0,([],[]))) Z (λx=>N 6 Z<|I 3 Z (B λs n=>B λk o=>D 5 Z (dz_ [(4,.B (.row (Qt s))),(2,.B (.C2 (.tup [.M 1 Qj k.1,.I k.2]))),(4,.N)]) [] [] [2,3,7,9] [2,3] Z Z (a2_ (XE n) (Mi _ o)) Z<|B λt p=>B λl r=>D 2 Z (dz_ [(4,.B (.row (Qt t))),(2,.B (.C2 (.tup [.M 1 Qj l.1,.I l.2]))),(4,.N)]) [] [] [2,3,7,9,11] [2,3] Z Z (a2_ (XE p) (TK _ r)) Z<|T 2 [2,3,7] [2,3] ([(81,.b ((k.2 != 0)||(l.2 != 0)))],[]) Z (H 4 Z (λj=>Y 4 81 Z (Jf j Z)) λj=>Y 4 81 Z (Xk j Z))<|I 1 Z (L 8 Z)<|R 8 Z)<|X 2 Z) (λ_=>E 2 Z) (λ_=>E 8 Z)
def YO:O_ (QF×Qz):=Q (i,(Qz.mk o 0 ([]:LI_)))
def Jv {b a}:CT 48 [.G Xw b,.I a] [] (YO b a) (λr=>(.tup [.G Xw r.1,.G QM r.2])) no_:=
 W 9 func48 Z<|G [11,.v .no [n_,n_,Q 1] (.agg (QM (Qz.mk a 0 ([]:LI_)))),5] Z Z<|E 0 Z
def Qby:O_ ((Int×LI_)⊕LI_):=cond (h<a) (j_ (chk (f.length+([h]:L_ Int).length<=4294967296)) λ_=>Q (y_ ((Qh (h+1)),(f++([h]:L_ Int)))))<|Q (i_ f)
def Hn:O_ QLL:=Q j1
def Pc:O_ ((Int×Int×LI_)⊕LI_):=Q (y_ ((Qh (Int.tdiv a 2)),(Qh (h+1)),f))
def ZR:O_ QLL:=cond (a==1) (Q ([f]:QLL))<|cond (a==2) (j_ (Qq (λst=>cond (st.1<h) (j_ (chk (st.2.length+([([st.1]:L_ Int)]:QLL).length<=4294967296)) λd=>Q (y_ ((Qh (st.1+1)),(st.2++([([st.1]:L_ Int)]:QLL)))))<|Q (i_ st.2)) (0,([]:QLL))) (λq=>Hn q))<|cond (a==3) (j_ (Qq (λst=>cond (st.2<h) (Q (y_ ((Qh (2*st.1)),(Qh (st.2+1)))))<|Q (i_ st.1)) (1,0)) (λq=>j_ (Qq (λe=>cond (e.1<q) (j_ (Qq (λb=>cond (b.2.1<h) (cond ((Int.tmod b.1 2)==1) (j_ (chk (b.2.2.length+([b.2.1]:L_ Int).length<=4294967296)) λk=>Pc b.1 b.2.1 (b.2.2++([b.2.1]:L_ Int)))<|Pc b.1 b.2.1 b.2.2)<|Q (i_ b.2.2)) (e.1,0,([]:L_ Int))) (λl=>j_ (chk (e.2.length+([l]:QLL).length<=4294967296)) λm=>Q (y_ ((Qh (e.1+1)),(e.2++([l]:QLL))))))<|Q (i_ e.2)) (1,([]:QLL))) (λn=>Hn n)))<|Hn ([]:QLL)
def EN:O_ QLL:=
 cond ((h<0)||((16<h)||((a==3)&&(4<h)))) (Q ([]:QLL))<|j_ (Qq (λst=>Qby h st.1 st.2) (0,([]:L_ Int))) (λq=>ZR a h q)
def Pd {c a}:CT 236 [.I c,.I a] [] (EN c a) (λr=>(.P 600 r)) (λr=>[(600,.R 1 XH r)]):=
 W 89 func236 Z<|T 7 [0,1] [] ([(28,.b ((a<0)||((16<a)||((c==3)&&(4<a)))))],[]) Z (H 4 Z (λd=>Y 12 28 Z (Jf d Z)) λd=>H 4 Z (λg=>Y 8 28 Z (Xk d (Jf g Z))) λg=>H 3 Z (λh=>Y 5 28 Z (Xk d (Xk g (Ye h Z)))) λh=>Y 5 28 Z (Xk d (Xk g (YH h Z))))<|I 1 Z (aD_ 7 4 600 1 Z<|E 0 Z)<|aD_ 19 6 34 1 Z<|lA_ 0 [0,1,5] [] (λst=>([(6,.P 34 st.2),(7,.I st.1)],[(34,.R 1 Qb st.2)])) [0,1,5] [] (λq=>(.exit 0,([(6,.P 34 q)],[(34,.R 1 Qb q)]))) Z (λ⟨s,t⟩=>I 8 Z (pA_ 7 1 Qb Z<|R 9 Z)<|X 2 Z) λi=>mE_ 2 [] [] (λe:QLL=>([(5,.P 604 e)],[(604,.R 1 XH e)])) (λe=>Hn e) Z (I 12 Z (g2_ [3,.frz 34 (i.map Qb) [6,41] [],1,.O 42 (.arr 1 (([i]:QLL).map XH)),6,.ren 42 600] Z (a2_ (Kf Qx) (Kf Qx)) Z<|E 0 Z)<|I 6 Z (aD_ 6 5 50 1 Z<|lA_ 0 [1] [] (λst=>([(5,.P 50 st.2),(8,.I st.1)],[(50,.R 1 XH st.2)])) [] [] (λq=>(.exit 3,([(5,.P 50 q)],[(50,.R 1 XH q)]))) Z (λ⟨j,u⟩=>I 8 Z (G [7,.v (.bd []) [] (.sl 1 (([j]:L_ Int).map Qb))] Z Z<|pA_ 0 1 XH Z<|R 9 Z)<|X 2 Z) λw=>gT_ [2,.ren 50 604] Z<|P 0 Z Z)<|I 6 Z (lA_ 12 [1,5] [] (λst=>([(9,.I st.1),(10,.I st.2)],[])) [1,5] [] (λq=>(.exit 5,([(9,.I q)],[]))) Z (λ⟨k,x⟩=>I 8 Z (R 16 Z)<|X 2 Z) λl=>aD_ 8 5 84 1 Z<|lA_ 0 [1,9] [] (λst=>([(5,.P 84 st.2),(11,.I st.1)],[(84,.R 1 XH st.2)])) [] [] (λq=>(.exit 7,([(5,.P 84 q)],[(84,.R 1 XH q)]))) Z (λ⟨y,z⟩=>I 8 Z (aD_ 22 12 78 1 Z<|lA_ 0 [1,5,9,11] [84] (λst=>([(12,.P 78 st.2.2),(13,.I st.1),(14,.I st.2.1)],[(78,.R 1 Qb st.2.2)])) [1,5,9,11] [84] (λq=>(.exit 9,([(12,.P 78 q)],[(78,.R 1 Qb q)]))) Z (λ⟨m,o,C⟩=>I 8 Z (mE_ 4 [1,5,9,11,13,14] [84] (λf:LI_=>([(12,.P 78 f)],[(78,.R 1 Qb f)])) (λf=>Pc m o f) Z (G [7] Z (by decide)<|I 0 Z (pA_ 3 1 Qb Z<|P 2 Z Z)<|P 1 Z Z) λf=>G [12] Z (by decide)<|R 0 Z)<|X 2 Z) λp=>G [5,.frz 78 (p.map Qb) [12,85] []] Z (a2_ (Kf Qx) (Kf Qx))<|pA_ 0 1 XH Z<|R 9 Z)<|X 2 Z) λa0=>gT_ [2,.ren 84 604] Z<|P 0 Z Z)<|aD_ 2 5 604 1 Z<|P 0 Z Z) λe=>gT_ [7,.ren 604 600] Z<|E 0 Z
def EU:O_ (Int⊕(Unit⊕Unit)):=cond (e3<j1.length) (j_ (idx j1 e3) λc=>j_ (Di c g1) λd=>cond d (Q (i_ (y_ ())))<|Q (y_ (Qh (e3+1))))<|Q (i_ (i_ ()))
def Ld:O_ Bool:=j_ (EN a h) λd=>j_ (Qq (λst=>EU d f st) 0) (Sum.elim (λq=>Q t_) (λq=>Q f_))
def Qcf {a c e}:CT 143 [.I a,.I c,.M 1 Qb e] [] (Ld a c e) V.b no_:=
 W 24 func143 Z<|oC_ 9 [.d,.d] Pd Z λh=>F 10 [2,7] [11] (λst=>([(8,.I st)],[])) [] [] (λq=>(.ret,([(6,.b t_)],[]))) [] [] (λq=>(.exit 0,([],[]))) Z (λi=>I 9 Z (vA_ 9 XH Z λf=>A 1 EJ Z λg=>I 2 Z (L 8 Z)<|R 8 Z)<|X 2 Z) (λ_=>E 2 Z) (λ_=>E 8 Z)
def Qcg:O_ Bool:=j_ (Wx g) λc=>cond (!c) (Q t_)<|j_ (Wx l0) λd=>Q (!d)
def EV:O_ (Int⊕(Unit⊕Unit)):=cond (c<g.length) (j_ (idx g c) λa=>j_ (idx g c) λd=>j_ (FE l0 d.1) λe=>cond (e<a.2) (Q (i_ (y_ ())))<|Q (y_ (Qh (c+1))))<|Q (i_ (i_ ()))
def Qch:O_ Bool:=cond m (Q f_)<|j_ (Qq (λst=>EV g l0 st) 0) (Sum.elim (λq=>Q f_) (λq=>Q t_))
def UK:O_ Bool:=j_ (Qcg g l0) (λc=>Qch g l0 c)
def Ic {k l}:CT 237 [.M 2 QB k,.M 2 QB l] [] (UK k l) V.b no_:=
 W 33 func237 Z<|mV_ 7 [0,1] [] (λm=>([(13,.b m)],[])) Z (A 2 Dl Z λo=>I 2 Z (M 5 Z)<|A 1 Dl Z λp=>M 3 Z) λm=>I 1 Z (E 7 Z)<|F 9 [0,1] [] (λst=>([(5,.I st)],[])) [] [] (λq=>(.ret,([(4,.b f_)],[]))) [] [] (λq=>(.exit 0,([],[]))) Z (λn=>N 5 Z<|I 3 Z (B λh e=>B λi f=>B λj g=>D 5 Z (dz_ [(2,.B (.row (QB h))),(5,.B (.row (QB i))),(2,.B (.C2 (.I j))),(0,.N)]) [] [] [0,1,5,32] [] Z Z (a3_ (XE e) (XE f) (TH _ g)) Z<|I 1 Z (L 8 Z)<|R 8 Z)<|X 2 Z) (λ_=>E 2 Z) (λ_=>E 8 Z)
def RX:O_ (Int⊕(Unit⊕Unit)):=cond (d<e.length) (j_ (idx e d) λf=>j_ (idx d1 d) λb=>j_ (UK f b) λc=>cond (!c) (Q (i_ (y_ ())))<|Q (y_ (Qh (d+1))))<|Q (i_ (i_ ()))
def Le:O_ Bool:=cond ((e.length:Int)!=d1.length) (Q f_)<|j_ (Qq (λst=>RX e d1 st) 0) (Sum.elim (λq=>Q f_) (λq=>Q t_))
def Qci {j k}:CT 144 [.M 1 Qj j,.M 1 Qj k] [] (Le j k) V.b no_:=
 W 29 func144 Z<|N 9 Z<|N 1 Z<|I 3 Z (E 7 Z)<|F 9 [0,1] [] (λst=>([(5,.I st)],[])) [] [] (λq=>(.ret,([(4,.b f_)],[]))) [] [] (λq=>(.exit 0,([],[]))) Z (λm=>N 5 Z<|I 3 Z (B λl g=>B λh e=>B λi f=>D 5 Z [.N,.N,.B (.row (Qj l)),.N,.N,.N,.B (.row (Qj h)),.N,.B (.C2 (.b i)),.N] [] [] [0,1,5,6] [] Z Z (a3_ (XE g) (XE e) (Ic _ f)) Z<|I 7 Z (L 8 Z)<|R 8 Z)<|X 2 Z) (λ_=>E 2 Z) (λ_=>E 8 Z)
def FH:O_ (Int⊕(Unit⊕Unit)):=cond (o<f.length) (j_ (idx f o) λd=>cond (d==j0) (Q (i_ (y_ ())))<|Q (y_ (Qh (o+1))))<|Q (i_ (i_ ()))
def QcH:O_ Bool:=j_ (Qq (λst=>FH f j0 st) 0) (Sum.elim (λq=>Q t_) (λq=>Q f_))
def QrX {a c}:CT 145 [.M 1 Qb a,.I c] [] (QcH a c) V.b no_:=
 W 18 func145 Z<|F 12 [0,1] [] (λst=>([(5,.I st)],[])) [] [] (λq=>(.ret,([(4,.b t_)],[]))) [] [] (λq=>(.exit 0,([],[]))) Z (λd=>N 5 Z<|I 3 Z (J 8 Z λe=>I 5 Z (L 8 Z)<|R 8 Z)<|X 2 Z) (λ_=>E 2 Z) (λ_=>E 8 Z)
def Qbb:O_ LI_:=j_ (Qq (λst=>j_ (cond (st<(f.length:Int)) (j_ (idx f st) λe=>Q (decide (e<j0)))<|Q f_) (λa=>cond a (Q (y_ (Qh (st+1))))<|Q (i_ st))) 0) (λq=>j_ (chk (decide (0<=q)&&decide (0<=q.toNat)&&decide (q.toNat<=f.length))) λc=>j_ (chk (([]:L_ Int).length+((f.drop 0).take (q.toNat-0)).length<=4294967296)) λc=>j_ (chk ((([]:L_ Int)++((f.drop 0).take (q.toNat-0))).length+([j0]:L_ Int).length<=4294967296)) λc=>j_ (chk (decide (0<=q)&&decide (q.toNat<=f.length)&&decide (f.length<=f.length))) λc=>j_ (chk (((([]:L_ Int)++((f.drop 0).take (q.toNat-0)))++[j0]).length+((f.drop q.toNat).take (f.length-q.toNat)).length<=4294967296)) λc=>Q (((([]:L_ Int)++((f.drop 0).take (q.toNat-0)))++[j0])++((f.drop q.toNat).take (f.length-q.toNat))))
def Qqu {c g}:CT 146 [.M 1 Qb c,.I g] [] (Qbb c g) (λr=>(.P 600 r)) (λr=>[(600,.R 1 Qb r)]):=
 W 32 func146 Z<|lA_ 12 [0,1] [] (λst=>([(5,.I st)],[])) [0,1] [] (λq=>(.exit 0,([(5,.I q)],[]))) Z (λat_4=>mV_ 2 [0,1,5] [] (λo=>([(17,.b o)],[])) Z (N 3 Z<|I 2 Z (J 2 Z λs=>M 5 Z)<|M 8 Z) λo=>I 1 Z (R 9 Z)<|X 2 Z) λO=>kA_ λd=>kA_ λh=>kA_ λi=>kA_ λe=>kA_ λj=>Us 3 Z [.N,.N,.N,.B (.any (.sl 1 (((c.drop 0).take (O.toNat-0)).map Qb)) n_),.m (.app ((([]:L_ Int)++((c.drop 0).take (O.toNat-0))).map Qb) (([]:L_ Int)++((c.drop 0).take (O.toNat-0))).length),.a .no n_ t_,.a (.bd []) (Q ([],.sl 1 (([g]:L_ Int).map Qb))) t_,.m (.app (((([]:L_ Int)++((c.drop 0).take (O.toNat-0)))++[g]).map Qb) ((([]:L_ Int)++((c.drop 0).take (O.toNat-0)))++[g]).length),.a .no n_ t_,.a .no n_ t_,.a (.any (.sl 1 (((c.drop O.toNat).take (c.length-O.toNat)).map Qb)) n_) n_ t_,.m (.app ((((([]:L_ Int)++((c.drop 0).take (O.toNat-0)))++[g])++((c.drop O.toNat).take (c.length-O.toNat))).map Qb) (((([]:L_ Int)++((c.drop 0).take (O.toNat-0)))++[g])++((c.drop O.toNat).take (c.length-O.toNat))).length),.N] [0,1,5] [] [4] [20] Z Z (λp=>(a6_ (λz k t _=>Qf.sliceD Z Z (QP p.n Z) (k _ _ Z) (QC.es Z) GL.no (GL.val (k _ _ Z) (Xe (MC d)) Z) (Xe (ME d)) (Yq (Xe (Qbn d)) (Ih Qx.symm)) SD) ⟨(Qx (f:=Qb) (l:=([]:L_ Int))),Il h Qx,(WA (f:=Qb) (l:=([]:L_ Int)) (m:=((c.drop 0).take (O.toNat-0)))),CX (l:=([]:L_ Int)) Qx⟩ Z ⟨Qx,Il i Qx,WA,CX Qx⟩ (λz k t _=>Qf.sliceD Z Z (QP p.n Z) (k _ _ Z) (QC.es Z) (GL.val (k _ _ Z) (Xe (MC e)) Z) (GL.none_ Qx) (Xe (ME e)) (Ih Qx.symm) SD) ⟨Qx,Il j Qx,WA,CX Qx⟩)) Z<|gT_ [2,.ren 20 600] Z<|E 0 Z
def TL:O_ (Int⊕(Unit⊕Unit)):=Q (y_ (Qh (a+1)))
def Qd5:O_ Bool:=cond (m3.2==0) (j_ (Le m3.1 k4) λb=>Q b)<|Q f_
def Dm (g:Qd)(h:Qc)(i:(LI_×Int))(b:QMk)(a:Int):O_ (Int⊕(Unit⊕Unit)):=cond ((a<j.Ins.length)&&(j.Join==3)) (j_ (QcH g.Ins a) λc=>cond c (TL a)<|j_ (Qbb g.Ins a) λd=>j_ (UJ h j.Ins d i.1) λe=>j_ (Qd5 e b) (λf=>cond f (Q (i_ (y_ ())))<|TL a))<|Q (i_ (i_ ()))
def CF:O_ Int:=j_ (Bf b r) λa=>Q a.2
def Bg:O_ Int:=
 j_ (Nh b r.Task r.Vars) λa=>
 cond (a.2 != 0) (Q a.2)<|j_ (idx b.Tasks r.Task) λc=>
 j_ (Pb c.Guard a.1) λf=>
 cond (f.2 != 0) (Q f.2)<|cond (f.1==0) (Q 9)<|j_ (Ld c.Join c.Ins.length r.Ins) λg=>
 j_ (Ld c.Split c.Outs.length r.Outs) λh=>
 cond ((!g)||(!h)) (Q 11)<|j_ (Be b r) λd=>
 cond (d.2 != 0) (Q d.2)<|j_ (Le d.1 e) λi=>
 cond (!i) (Q 10)<|j_ (Qq (λst=>Dm c r b a e st) 0) (Sum.elim (λq=>Q 11) (λq=>CF b r))
def Mk {o p r}:CT 84 [.G Qi o,.M 1 Qj p,.G Qy r] [] (Bg o p r) V.I no_:=
 W 124 func84 Z<|A 14 Qav Z λy=>I 14 Z (E 8 Z)<|J 8 Z λs=>A 10 Qfa Z λz=>I 14 Z (E 8 Z)<|I 9 Z (E 7 Z)<|N 8 Z<|A 2 Qcf Z λm=>N 9 Z<|A 2 Qcf Z λn=>T 5 [1,3,5,7,9] [3,5,9] ([(68,.b ((!m)||(!n)))],[]) Z (H 4 Z (λe=>Y 4 68 Z (Jf e Z)) λe=>Y 4 68 Z (Xk e Z))<|I 1 Z (E 7 Z)<|A 6 Mi Z λt=>I 14 Z (E 8 Z)<|A 7 Qci Z λu=>I 3 Z (E 7 Z)<|F 9 [1,3,5,7,9] [3,5,9] (λst=>([(14,.I st)],[])) [] [] (λq=>(.ret,([(6,.I 11)],[]))) [3,5] [3,5] (λq=>(.exit 0,([],[]))) Z (λg=>T 2 [1,3,5,7,9,14] [3,5,9] ([(91,.b ((g<(s.Ins.length:Int))&&(s.Join==3)))],[]) Z (N 4 Z<|H 2 Z (λf=>Y 5 91 Z (Ye f Z)) λf=>Y 5 91 Z (YH f Z))<|I 1 Z (mU_ 2 [1,3,5,7,9,14] [3,5,9] ([],[]) (TL g) Z (A 7 QrX Z λv=>I 2 Z (uA_ 3 Z Z)<|B λh i=>B λj k=>D 3 Z (dz_ [(6,.B (.cd f_ [.d,.d] 1 (h.map Qb) h.length)),(1,.B (.C4 (.tup [.M 1 Qj j.1,.I j.2]))),(4,.N)]) [] [] [1,3,5,7,9,14,15,16] [3,5,9] Z Z (a2_ ⟨(Qqu _ i),Qx⟩ (RW _ k)) Z<|mV_ 2 [1,3,5,7,9,14] [3,5,9] (λl=>([(116,.b l)],[])) Z (I 4 Z (A 2 Qci Z λw=>M 2 Z)<|M 5 Z) λl=>I 1 Z (L 8 Z)<|uA_ 2 Z Z)<|R 5 Z)<|X 2 Z) (λ_=>E 2 Z) (λ_=>A 6 TK Z λx=>E 13 Z)
def Ml (b:(L_ Qd)):O_ ((Int×(L_ Qd))⊕((L_ Qd)⊕(L_ Qd))):=Q (y_ ((Qh (a+1)),b))
def UL (i:QLL)(j:Int)(l:Qc)(m:QMk)(a:Int)(g:Int)(f:Int)(c:(L_ Qd)):O_ ((Int×(L_ Qd))⊕((L_ Qd)⊕(L_ Qd))):=cond (f<j1.length) (j_ (chk (([]:L_ Int).length+g1.length<=4294967296)) λ_=>j_ (idx i j) λd=>j_ (idx j1 f) λe=>j_ (Bg l m (Qd.mk a (([]:L_ Int)++g1) d e)) λk=>cond (k==0) (j_ (chk (c.length+([(Qd.mk a (([]:L_ Int)++g1) d e)]:L_ Qd).length<=4294967296)) λ_=>cond (g<=((c++([(Qd.mk a (([]:L_ Int)++g1) d e)]:L_ Qd)).length:Int)) (Q (i_ (y_ (c++([(Qd.mk a (([]:L_ Int)++g1) d e)]:L_ Qd)))))<|Ml f (c++([(Qd.mk a (([]:L_ Int)++g1) d e)]:L_ Qd)))<|Ml f c)<|Q (i_ (i_ c))
def GX (f:QLL)(g:LI_)(h:Qc)(i:QMk)(a:Int)(b:Int)(c:Int)(e:(L_ Qd)):O_ ((Int×(L_ Qd))⊕((L_ Qd)⊕(L_ Qd))):=cond (c<j1.length) (j_ (Qq (λst=>UL f g j1 c h i a b st.1 st.2) (0,e)) (Sum.elim (λq=>Q (i_ (y_ q))) (λq=>Q (y_ ((Qh (c+1)),q)))))<|Q (i_ (i_ e))
def Qd6:O_ Bool:=cond (0<=a) (j_ (idx f a) λc=>j_ (idx j.Vars a) λd=>j_ (EK k0.Colours d.Colour) λe=>Q (decide (e<=(Qh (c+1)))))<|Q f_
def Mm:O_ ((Int×LI_)⊕(Int×LI_)):=j_ (Qd6 e0 g1 j k0) (λc=>cond c (j_ (idx g1 e0) λe=>Q (y_ ((Qh (e0-1)),(g1.set e0.toNat 0))))<|Q (i_ (e0,g1)))
def RY (b:(L_ Qd))(h:Int)(a:LI_):O_ ((Bool×LI_×(L_ Qd))⊕((L_ Qd)⊕(L_ Qd))):=cond (0<=h) (j_ (idx a h) λc=>j_ (idx a h) λd=>Q (y_ ((decide (0<=h)),(a.set h.toNat (Qh (c+1))),b)))<|Q (y_ ((decide (0<=h)),a,b))
def RZ (c:(L_ Qd)):O_ ((Bool×LI_×(L_ Qd))⊕((L_ Qd)⊕(L_ Qd))):=j_ (Qq (λst=>Mm j k0 st.1 st.2) ((Qh ((g1.length:Int)-1)),g1)) (λq=>RY c q.1 q.2)
def Sa (g:QLL)(i:Qc)(j:QMk)(b:Int)(c:Int)(h:QL)(a:Bool)(d:LI_)(e:(L_ Qd)):O_ ((Bool×LI_×(L_ Qd))⊕((L_ Qd)⊕(L_ Qd))):=cond a (j_ (Qq (λst=>GX j1 g d i j b c st.1 st.2) (0,e)) (Sum.elim (λq=>Q (i_ (y_ q))) (λq=>RZ h i d q)))<|Q (i_ (i_ e))
def FJ:O_ (L_ Qd):=
 cond ((d<0)||((b.Tasks.length<=d)||(s<1))) (Q ([]:L_ Qd))<|j_ (idx b.Tasks d) λa=>
 j_ (chk (decide (0<=(a.Vars.length:Int))&&decide ((a.Vars.length:Int)<=(a.Vars.length:Int))&&decide ((a.Vars.length:Int)<=4294967296))) λ_=>
 j_ (EN a.Join a.Ins.length) λc=>
 j_ (EN a.Split a.Outs.length) λf=>
 j_ (Qq (λst=>Sa c f b e d s a st.1 st.2.1 st.2.2) (t_,(List.replicate (a.Vars.length:Int).toNat (0:Int)),([]:L_ Qd))) (Sum.elim (λq=>Q q) (λq=>Q q))
def QmZ {n1 m2 e g}:CT 301 [.G Qi n1,.M 1 Qj m2,.I e,.I g] [] (FJ n1 m2 e g) (λr=>(.P 600 r)) (λr=>[(600,.R 4 Qy r)]):=
 W 130 func301 Z<|T 8 [1,2,3,4] [4] ([(31,.b ((e<0)||(((n1.Tasks.length:Int)<=e)||(g<1))))],[]) Z (H 4 Z (λk=>Y 11 31 Z (Jf k Z)) λk=>N 3 Z<|H 3 Z (λx=>Y 4 31 Z (Xk k (Jf x Z))) λx=>Y 4 31 Z (Xk k (Xk x Z)))<|I 1 Z (aD_ 7 8 600 4 Z<|E 0 Z)<|J 7 Z λy=>N 9 Z<|kA_ λz=>g2_ [.o (.rows ((List.replicate (y.Vars.length:Int).toNat (0:Int)).map Qb)),.S 40 (.own 40 (List.replicate (y.Vars.length:Int).toNat (0:Int)).length),9] Z ⟨z,Qsm Z⟩ (by simp)<|N 0 Z<|oC_ 0 [.d,.d] Pd Z λb4=>N 9 Z<|oC_ 0 [.d,.d] Pd Z λb5=>aD_ 15 13 84 4 Z<|F 0 [1,2,3,4,9,11,12] [4,9,46,52] (λst=>([(10,.P 40 st.2.1),(13,.P 84 st.2.2),(14,.b st.1)],[(40,.R 1 Qb st.2.1),(84,.R 4 Qy st.2.2)])) [] [] (λq=>(.ret,([(8,.P 84 q)],[(84,.R 4 Qy q)]))) [] [] (λq=>(.exit 0,([(13,.P 84 q)],[(84,.R 4 Qy q)]))) Z (λ⟨a7,h,b6⟩=>I 6 Z (F 10 [1,2,3,4,9,10,11,12] [4,9,40,46,52] (λst=>([(13,.P 84 st.2),(15,.I st.1)],[(84,.R 4 Qy st.2)])) [] [] (λq=>(.ret,([(8,.P 84 q)],[(84,.R 4 Qy q)]))) [1,2,3,4,9,10,11,12] [4,9,40,46,52] (λq=>(.exit 2,([(13,.P 84 q)],[(84,.R 4 Qy q)]))) Z (λ⟨b7,b8⟩=>I 9 Z (F 10 [1,2,3,4,9,10,11,12,15] [4,9,40,46,52] (λst=>([(13,.P 84 st.2),(16,.I st.1)],[(84,.R 4 Qy st.2)])) [] [] (λq=>(.ret,([(8,.P 84 q)],[(84,.R 4 Qy q)]))) [1,2,3,4,9,10,11,12,15] [4,9,40,46,52] (λq=>(.exit 4,([(13,.P 84 q)],[(84,.R 4 Qy q)]))) Z (λ⟨a8,b9⟩=>I 9 Z (mE_ 2 [1,2,3,4,9,10,11,12,15,16] [4,9,40,46,52] (λi:(L_ Qd)=>([(13,.P 84 i)],[(84,.R 4 Qy i)])) (λi=>Ml a8 i) Z (kA_ λC=>B λO p=>B λa0 t=>Us 2 Z [.a .no n_ t_,.N,.N,.m (.any ⟨[67],[(67,.arr 1 ((([]:L_ Int)++h).map Qb))],Q (69,.own 67 (([]:L_ Int)++h).length)⟩),.a .no n_ t_,.a .no n_ t_,.a .no n_ t_,.a (.row (XH O)) n_ t_,.a .no n_ t_,.a .no n_ t_,.a .no n_ t_,.a (.row (XH a0)) n_ t_,.E (.agg [.I e,.own 67 (([]:L_ Int)++h).length,.M 1 Qb O,.M 1 Qb a0]),.a .no n_ t_,.m .s] [1,2,3,4,9,10,11,12,13,15,16] [4,9,40,46,52,84] [1,2,3,4,9,10,11,12,13,15,16,17] [4,9,17,40,46,52,67,84] Z Z (λhC=>(a6_ (λσ h1 h2=>Qf.appO Z Z (QP hC.n Z) (h1 _ _ Z) (h2 _ _ Z) Z (Qx (f:=Qb) (l:=([]:L_ Int))) (QC.es Z) (QC.es Z) (QC.zv Z) Z (by decide) Z C (h1 _ _ Z) (h2 _ _ Z) (Qx (f:=Qb) (l:=h)) (WA (f:=Qb) (l:=([]:L_ Int)) (m:=h)) (by simp)) (Yu p Z) (Xq (Yz p).2) (Yu t Z) (Xq (Yz t).2) Z)) Z<|G [6,.frz 67 ((([]:L_ Int)++h).map Qb) [81] [17]] Z (a2_ ⟨(Kf Qx),U⟩ ⟨(Kf Qx),U⟩)<|S 0 .fn [] Mk Z λc0=>I 3 Z (pA_ 4 4 Qy Z<|I 11 Z (L 9 Z)<|P 2 Z Z)<|P 2 Z Z) λi=>R 5 Z)<|X 2 Z) (λc1=>L 3 Z) (λc2=>R 8 Z))<|X 2 Z) (λc3=>L 3 Z) (λc4=>lA_ 12 [1,2,3,4,9,11,12,13] [4,9,46,52,84] (λst=>([(10,.P 40 st.2),(18,.I st.1)],[(40,.R 1 Qb st.2)])) [1,2,3,4,9,11,12,13] [4,9,46,52,84] (λq=>(.exit 6,([(10,.P 40 q.2),(18,.I q.1)],[(40,.R 1 Qb q.2)]))) Z (λ⟨at_52,a1⟩=>mV_ 2 [1,2,3,4,9,10,11,12,13,18] [4,9,40,46,52,84] (λa2=>([(114,.b a2)],[])) Z (jF_ (λj=>B λa9 u=>B λb0 a3=>B λb1 a4=>D 0 Z [.N,.N,.E (.b t_),.N,.N,.N,.B (.row (Qb a9)),.N,.N,.N,.N,.N,.N,.B (.row (YM b0)),.N,.N,.B (.C2 (.I b1)),.N,.N] [] [] [1,2,3,4,9,10,11,12,13,18,114] [4,9,40,46,52,84] Z Z ⟨⟨⟨⟨(tc_ j),(Yu u Z)⟩,(Xq (Yz u).2)⟩,(XE a3)⟩,(On _ a4)⟩ Z<|M 0 Z) λj=>D 0 Z (dz_ [(2,.E (.b f_)),(15,.N)]) [] [] [1,2,3,4,9,10,11,12,13,18,114] [4,9,40,46,52,84] Z Z (tc_ j) Z<|M 0 Z) λa2=>I 1 Z (B λb2 v=>g3_ [8,.st (Qb b2) ((a1.set at_52.toNat 0).map Qb),8,.S 10 (.own 40 (a1.set at_52.toNat 0).length)] Z (Yu v Z) ⟨(Xq (Yz v).2),EC Z⟩ (congrArg (λn=>V.own 40 n) (by simp))<|R 0 Z)<|X 2 Z) λ⟨at_56,a5⟩=>I 14 Z (vA_ 4 Qb Z λa6=>B λb3 w=>g3_ [2,.st (Qb b3) ((a5.set at_56.toNat (Qh (a6+1))).map Qb),2,.S 10 (.own 40 (a5.set at_56.toNat (Qh (a6+1))).length)] Z (Yu w Z) ⟨(Xq (Yz w).2),EC Z⟩ (congrArg (λn=>V.own 40 n) (by simp))<|R 0 Z)<|R 2 Z))<|X 2 Z) (λc5=>gT_ [2,.ren 84 600] Z<|E 0 Z) (λc6=>gT_ [9,.ren 84 600] Z<|E 0 Z)
def Rg (c:(L_ Qd)):O_ ((Int×(L_ Qd))⊕(L_ Qd)):=cond (s<b.Tasks.length) (j_ (FJ b e s (Qh (d-c.length))) λa=>j_ (chk (c.length+a.length<=4294967296)) λ_=>Q (y_ ((Qh (s+1)),(c++a))))<|Q (i_ c)
def Qbc:O_ (L_ Qd):=j_ (Qq (λst=>Rg b e d st.1 st.2) (0,([]:L_ Qd))) (λq=>Q q)
def Qqw {e f a}:CT 238 [.G Qi e,.M 1 Qj f,.I a] [] (Qbc e f a) (λr=>(.P 600 r)) (λr=>[(600,.R 4 Qy r)]):=
 W 27 func238 Z<|aD_ 18 7 16 4 Z<|lA_ 0 [1,2,3] [3] (λst=>([(7,.P 16 st.2),(8,.I st.1)],[(16,.R 4 Qy st.2)])) [] [] (λq=>(.exit 0,([(7,.P 16 q)],[(16,.R 4 Qy q)]))) Z (λ⟨i,g⟩=>N 6 Z<|I 3 Z (oC_ 13 [.d,.d,.d,.d] QmZ Z λb=>kA_ λc=>G [.app ((g++b).map Qy) (g++b).length,9] Z ⟨Qx,c,Qx,WA,by simp⟩<|R 0 Z)<|X 2 Z) λh=>gT_ [9,.ren 16 600] Z<|E 0 Z
def Qfb:O_ Bool:=j_ (Wx g) λd=>cond (!d) (Q t_)<|j_ (Wx l0) λa=>Q (!a)
def AO:O_ ((Int×QBg)⊕QBg):=cond (c<g.length) (j_ (idx g c) λd=>j_ (idx g c) λe=>j_ (FE l0 e.1) λf=>j_ (idx g c) λa=>j_ (OZ f1 d.1 (Qh (f-a.2))) λh=>Q (y_ ((Qh (c+1)),h)))<|Q (i_ f1)
def Qfc:O_ (QBg×Int):=cond m (Q (([]:QBg),1))<|j_ (UK g l0) λb=>cond (!b) (Q (([]:QBg),10))<|j_ (chk (([]:QBg).length+l0.length<=4294967296)) λ_=>j_ (Qq (λst=>AO g l0 st.1 st.2) (0,(([]:QBg)++l0))) (λq=>Q (q,0))
def Lf:O_ (QBg×Int):=j_ (Qfb g l0) (λc=>Qfc l0 g c)
def QoJ {t u}:CT 241 [.M 2 QB t,.M 2 QB u] [] (Lf t u) (λr=>(.tup [.M 2 QB r.1,.I r.2])) no_:=
 W 50 func241 Z<|mV_ 8 [0,1] [] (λv=>([(15,.b v)],[])) Z (A 2 Dl Z λO=>I 2 Z (M 5 Z)<|A 1 Dl Z λw=>M 3 Z) λv=>I 1 Z (gT_ [8,.denil 4 [Q 2]] Z<|E 0 Z)<|A 7 Ic Z λx=>I 3 Z (gT_ [8,.denil 4 [Q 2]] Z<|E 0 Z)<|pB_ 6 QB Z<|gT_ [10,.ren 20 605] Z<|lA_ 0 [0,1] [] (λst=>([(6,.P 605 st.2),(7,.I st.1)],[(605,.R 2 QB st.2)])) [] [] (λq=>(.exit 0,([(6,.P 605 q)],[(605,.R 2 QB q)]))) Z (λ⟨y,z⟩=>N 5 Z<|I 3 Z (zF_ 4 605 [6] [] Z<|B λk e=>B λl f=>B λo g=>B λp h=>B λi j=>D 0 Z (dz_ [(3,.B (.row (QB k))),(5,.B (.row (QB l))),(2,.B (.C2 (.I o))),(2,.B (.row (QB p))),(3,.B (.co f_ [.d,.d,.d] 2 (i.map QB) i.length)),(0,.m .s)]) [] [] [0,1,6,7] [48] Z Z (a5_ (XE e) (XE f) (TH _ g) (XE h) ⟨(Qe4 _ j),Qx,.inl Z⟩) Z<|gT_ [7,.ren 48 605] Z<|R 0 Z)<|X 2 Z) λC=>zF_ 10 605 [4] [] Z<|E 0 Z
def Oq:O_ ((Int×QMk)⊕(Int⊕QMk)):=Q (y_ ((Qh (a+1)),e))
def AP:O_ ((Int×QMk)⊕(Int⊕QMk)):=cond ((i0<e.length)&&(i0<d1.length)) (cond h0 (j_ (idx e i0) λh=>j_ (idx d1 i0) λi=>j_ (BW h i) λb=>cond (b.2 != 0) (Q (i_ (y_ b.2)))<|j_ (chk (e1.length+([b.1]:L_ QBg).length<=4294967296)) λ_=>Oq i0 (e1++([b.1]:L_ QBg)))<|j_ (idx e i0) λj=>j_ (idx d1 i0) λk=>j_ (Lf j k) λc=>cond (c.2 != 0) (Q (i_ (y_ c.2)))<|j_ (chk (e1.length+([c.1]:L_ QBg).length<=4294967296)) λ_=>Oq i0 (e1++([c.1]:L_ QBg)))<|Q (i_ (i_ e1))
def EO:O_ (QMk×Int):=j_ (Qq (λst=>AP e d1 h0 st.1 st.2) (0,([]:L_ QBg))) (Sum.elim (λq=>Q (([]:L_ QBg),q)) (λq=>Q (q,0)))
def Zq {s t g}:CT 149 [.M 1 Qj s,.M 1 Qj t,.b g] [] (EO s t g) (λr=>(.tup [.M 1 Qj r.1,.I r.2])) no_:=
 W 66 func149 Z<|aD_ 18 8 606 1 Z<|F 0 [0,1,2] [] (λst=>([(8,.P 606 st.2),(9,.I st.1)],[(606,.R 1 Qj st.2)])) [] [] (λq=>(.ret,([(6,.Y),(7,.I q)],[]))) [] [] (λq=>(.exit 0,([(8,.P 606 q)],[(606,.R 1 Qj q)]))) Z (λ⟨u,z⟩=>T 2 [0,1,2,8,9] [606] ([(23,.b ((u<(s.length:Int))&&(u<(t.length:Int))))],[]) Z (N 3 Z<|H 2 Z (λe=>N 2 Z<|Y 3 23 Z (Ye e Z)) λe=>Y 6 23 Z (YH e Z))<|I 1 Z (mE_ 2 [0,1,2,9] [] (λf:QMk=>([(8,.P 606 f)],[(606,.R 1 Qj f)])) (λf=>Oq u f) Z (I 7 Z (B λv h=>B λw i=>B λj k=>D 1 Z (dz_ [(2,.B (.row (Qj v))),(3,.B (.row (Qj w))),(1,.B (.C2 (.tup [.M 2 QB j.1,.I j.2]))),(4,.N)]) [] [] [0,1,2,8,9,10,11] [606] Z Z (a3_ (XE h) (XE i) (Qau _ k)) Z<|I 8 Z (L 12 Z)<|pA_ 6 1 Qj Z<|P 6 Z Z)<|B λx l=>B λy m=>B λo p=>D 3 Z (dz_ [(2,.B (.row (Qj x))),(3,.B (.row (Qj y))),(1,.B (.C2 (.tup [.M 2 QB o.1,.I o.2]))),(4,.N)]) [] [] [0,1,2,8,9,12,13] [606] Z Z (a3_ (XE l) (XE m) (QoJ _ p)) Z<|I 8 Z (L 11 Z)<|pA_ 5 1 Qj Z<|P 3 Z Z) λf=>R 5 Z)<|X 2 Z) (λC=>gT_ [2,.denil 6 [Q 1]] Z<|E 0 Z) (λO=>zF_ 10 606 [6] [] Z<|E 0 Z)
def Pf:O_ (QMk×Int):=j_ (Bg b e r) λf=>cond (f != 0) (Q (([]:L_ QBg),f))<|j_ (Be b r) λc=>j_ (EO e c.1 f_) λa=>Q (a.1,a.2)
def Qfd {a b c}:CT 87 [.G Qi a,.M 1 Qj b,.G Qy c] [] (Pf a b c) (λr=>(.tup [.M 1 Qj r.1,.I r.2])) no_:=
 W 29 func87 Z<|A 13 Mk Z λf=>I 10 Z (gT_ [9,.denil 6 [Q 1]] Z<|E 0 Z)<|A 6 Mi Z λd=>A 11 Zq Z λe=>E 7 Z
def Zr:O_ ((Int×QMk)⊕QMk):=Q (y_ ((Qh (a+1)),e))
def Qfe:O_ Bool:=j_ (idx j.Cancel q) λd=>cond (0<=d) (j_ (idx j.Cancel q) λe=>Q (decide (e<(e1.length:Int))))<|Q f_
def Qff (e:Bool):O_ ((Int×QMk)⊕QMk):=cond e (j_ (idx j.Cancel q) λc=>j_ (idx e1 c) λf=>Zr q (e1.set c.toNat ([]:QBg)))<|Zr q e1
def Ot:O_ ((Int×QMk)⊕QMk):=cond (q<j.Cancel.length) (j_ (Qfe j q e1) (λd=>Qff j q e1 d))<|Q (i_ e1)
def Qfg:O_ (QMk×Int):=j_ (EO k4 m3.1 t_) λa=>Q (a.1,a.2)
def Pg:O_ (QMk×Int):=j_ (Bf b r) λa=>cond (a.2 != 0) (Q (([]:L_ QBg),a.2))<|j_ (chk (([]:L_ QBg).length+e.length<=4294967296)) λ_=>j_ (idx b.Tasks r.Task) λc=>j_ (Qq (λst=>Ot c st.1 st.2) (0,(([]:L_ QBg)++e))) (λq=>Qfg a q)
def Qfh {j k l}:CT 154 [.G Qi j,.M 1 Qj k,.G Qy l] [] (Pg j k l) (λr=>(.tup [.M 1 Qj r.1,.I r.2])) no_:=
 W 63 func154 Z<|A 12 TK Z λt=>I 14 Z (gT_ [9,.denil 6 [Q 1]] Z<|E 0 Z)<|pB_ 6 Qj Z<|J 9 Z λm=>lA_ 12 [8,11] [] (λst=>([(10,.P 22 st.2),(12,.I st.1)],[(22,.R 1 Qj st.2)])) [8] [] (λq=>(.exit 0,([(10,.P 22 q)],[(22,.R 1 Qj q)]))) Z (λ⟨g,d⟩=>N 5 Z<|I 3 Z (mE_ 2 [8,11,12] [] (λa:QMk=>([(10,.P 22 a)],[(22,.R 1 Qj a)])) (λa=>Zr g a) Z (mV_ 2 [8,10,11,12] [22] (λe=>([(51,.b e)],[])) Z (J 3 Z λo=>I 3 Z (J 2 Z λp=>M 6 Z)<|M 9 Z) λe=>I 1 Z (J 4 Z λf=>B λh c=>g3_ [2,.x (λz=>z.set 22 (.arr 1 ((d.set f.toNat ([]:QBg)).map Qj))),2,.S 10 (.own 22 (d.set f.toNat ([]:QBg)).length)] Z (Yu c Z) (Qf.storeNil (zz:=2) (r:=Qj h) Z Z Z Z (Xq (Yz c).2) Z (QC.sz Z) Z (EC Z)) (congrArg (λn=>V.own 22 n) (by simp))<|P 0 Z Z)<|P 2 Z Z) λa=>R 5 Z)<|X 2 Z) λi=>G [6,.frz 22 (i.map Qj) [10,58] []] Z (a2_ (Kf Qx) (Kf Qx))<|A 0 Zq Z λs=>E 7 Z
def QcI:O_ (QMk×Int):=j_ (Pf b e r) λc=>cond (c.2 != 0) (Q (([]:L_ QBg),c.2))<|j_ (Pg b c.1 r) λa=>Q (a.1,a.2)
def QrY {a b c}:CT 239 [.G Qi a,.M 1 Qj b,.G Qy c] [] (QcI a b c) (λr=>(.tup [.M 1 Qj r.1,.I r.2])) no_:=
 W 26 func239 Z<|A 13 Qfd Z λe=>I 14 Z (gT_ [9,.denil 6 [Q 1]] Z<|E 0 Z)<|A 7 Qfh Z λd=>E 7 Z
def Qfi:O_ Bool:=j_ (UK g l0) λc=>cond c (j_ (UK l0 g) λd=>Q d)<|Q f_
def Qfj:O_ Bool:=Q m
def Zs:O_ Bool:=j_ (Qfi g l0) (λc=>Qfj c)
def QoM {a c}:CT 336 [.M 2 QB a,.M 2 QB c] [] (Zs a c) V.b no_:=
 W 13 func336 Z<|mV_ 6 [] [] (λd=>([(4,.b d)],[])) Z (A 3 Ic Z λe=>I 1 Z (A 2 Ic Z λf=>M 3 Z)<|M 6 Z) λd=>E 2 Z
def Ou:O_ (Int⊕(Unit⊕Unit)):=cond (d<e.length) (j_ (idx e d) λf=>j_ (idx d1 d) λb=>j_ (Zs f b) λc=>cond (!c) (Q (i_ (y_ ())))<|Q (y_ (Qh (d+1))))<|Q (i_ (i_ ()))
def Ao:O_ Bool:=cond ((e.length:Int)!=d1.length) (Q f_)<|j_ (Qq (λst=>Ou e d1 st) 0) (Sum.elim (λq=>Q f_) (λq=>Q t_))
def QoP {j k}:CT 302 [.M 1 Qj j,.M 1 Qj k] [] (Ao j k) V.b no_:=
 W 29 func302 Z<|N 9 Z<|N 1 Z<|I 3 Z (E 7 Z)<|F 9 [0,1] [] (λst=>([(5,.I st)],[])) [] [] (λq=>(.ret,([(4,.b f_)],[]))) [] [] (λq=>(.exit 0,([],[]))) Z (λm=>N 5 Z<|I 3 Z (B λl g=>B λh e=>B λi f=>D 5 Z [.N,.N,.B (.row (Qj l)),.N,.N,.N,.B (.row (Qj h)),.N,.B (.C2 (.b i)),.N] [] [] [0,1,5,6] [] Z Z (a3_ (XE g) (XE e) (QoM _ f)) Z<|I 7 Z (L 8 Z)<|R 8 Z)<|X 2 Z) (λ_=>E 2 Z) (λ_=>E 8 Z)
def Mn (b:(L_ QMk))(c:QMk)(a:Int):O_ (Int⊕(Unit⊕Unit)):=cond (a<b.length) (j_ (idx b a) λd=>j_ (Ao d c) λe=>cond e (Q (i_ (y_ ())))<|Q (y_ (Qh (a+1))))<|Q (i_ (i_ ()))
def FK (a:(L_ QMk))(b:QMk):O_ Bool:=j_ (Qq (λst=>Mn a b st) 0) (Sum.elim (λq=>Q t_) (λq=>Q f_))
def Qm2 {a c}:CT 240 [.M 1 Xa a,.M 1 Qj c] [] (FK a c) V.b no_:=
 W 20 func240 Z<|F 12 [0,1] [] (λst=>([(5,.I st)],[])) [] [] (λq=>(.ret,([(4,.b t_)],[]))) [] [] (λq=>(.exit 0,([],[]))) Z (λd=>N 5 Z<|I 3 Z (J 8 Z λe=>A 2 QoP Z λf=>I 8 Z (L 8 Z)<|R 8 Z)<|X 2 Z) (λ_=>E 2 Z) (λ_=>E 8 Z)
def UM (b:(L_ QMk)):O_ ((Int×(L_ QMk))⊕((L_ QMk)⊕(L_ QMk))):=Q (y_ ((Qh (a+1)),b))
def Mo (f:(L_ Qd))(b:Int)(O:Int)(k:Qc)(d:Int)(c:Int)(a:(L_ QMk)):O_ ((Int×(L_ QMk))⊕((L_ QMk)⊕(L_ QMk))):=
 cond (c<f.length) (j_ (idx f c) λg=>
 cond (g.Task==b) (UM c a)<|j_ (idx a O) λh=>
 j_ (idx f c) λi=>
 j_ (QcI k h i) λe=>
 j_ (FK a e.1) λj=>
 cond ((e.2 != 0)||j) (UM c a)<|cond ((min2 (max2 d 0) 4096)<=(a.length:Int)) (Q (i_ (y_ a)))<|j_ (chk (a.length+([e.1]:L_ QMk).length<=4294967296)) λ_=>
 UM c (a++([e.1]:L_ QMk)))<|Q (i_ (i_ a))
def TM (a:(L_ QMk)):O_ ((Int×(L_ QMk))⊕((L_ QMk)⊕(L_ QMk))):=Q (i_ (y_ a))
def TN (b:(L_ QMk)):O_ ((Int×(L_ QMk))⊕((L_ QMk)⊕(L_ QMk))):=Q (y_ ((Qh (a+1)),b))
def Mp (a:(L_ QMk)):O_ ((Int×(L_ QMk))⊕((L_ QMk)⊕(L_ QMk))):=cond (s<a.length) (j_ (idx a s) λf=>j_ (Qbc b f 9223372036854775807) λe=>j_ (Qq (λst=>Mo e c s b d st.1 st.2) (0,a)) (Sum.elim (λq=>TM q) (λq=>TN s q)))<|Q (i_ (i_ a))
def SX:O_ ((L_ QMk)×Bool):=cond ((min2 (max2 s 0) 4096)==0) (Q (([]:L_ QMk),f_))<|j_ (Qq (λst=>Mp b d s st.1 st.2) (0,([e]:L_ QMk))) (Sum.elim (λq=>Q (q,f_)) (λq=>Q (q,t_)))
def Qm5 {u v e f}:CT 147 [.G Qi u,.M 1 Qj v,.I e,.I f] [] (SX u v e f) (λr=>(.tup [.M 1 Xa r.1,.b r.2])) no_:=
 W 81 func147 Z<|I 22 Z (gT_ [8,.denil 8 [Q 1]] Z<|E 0 Z)<|G [6,.O 24 (.arr 1 (([v]:L_ QMk).map Xa)),10] Z Z<|F 0 [2,4,10] [4] (λst=>([(11,.P 24 st.2),(12,.I st.1)],[(24,.R 1 Xa st.2)])) [] [] (λq=>(.ret,([(8,.P 24 q),(9,.b f_)],[(24,.R 1 Xa q)]))) [] [] (λq=>(.exit 0,([(11,.P 24 q)],[(24,.R 1 Xa q)]))) Z (λ⟨at_11,C⟩=>I 9 Z (B λw i=>B λm p=>D 5 Z [.E (.G Qi u),.N,.N,.N,.B (.row (Xa w)),.B (.co f_ [.d,.d,.d] 4 (m.map Qy) m.length),.N] [] [] [2,4,10,11,12,13] [4,24,36] Z Z (a4_ Z (Yu i Z) (Xq (Yz i).2) ⟨(Qqw _ p),Qx,.inl Z⟩) Z<|F 7 [2,4,10,12,13] [4,36] (λst=>([(11,.P 24 st.2),(14,.I st.1)],[(24,.R 1 Xa st.2)])) [] [] (λq=>(.ret,([(8,.P 24 q),(9,.b f_)],[(24,.R 1 Xa q)]))) [2,4,10,12] [4] (λq=>(.exit 2,([(11,.P 24 q)],[(24,.R 1 Xa q)]))) Z (λ⟨x,a0⟩=>I 9 Z (mE_ 2 [2,4,10,12,13,14] [4,36] (λg:(L_ QMk)=>([(11,.P 24 g)],[(24,.R 1 Xa g)])) (λg=>UM x g) Z (vA_ 8 Qy Z λa1=>I 4 Z (P 3 Z Z)<|B λy j=>B λs k=>B λl t=>D 3 Z [.E (.G Qi u),.N,.N,.N,.B (.row (Xa y)),.N,.N,.N,.a (.row (Qy s)) (Q ([],.G Qy s)) f_,.B (.C3 (.tup [.M 1 Qj l.1,.I l.2])),.N,.N,.N,.N,.N] [] [] [2,4,10,11,12,13,14,15,16] [4,24,36] Z Z (a7_ Z (Yu j Z) (Xq (Yz j).2) (Yu k Z) (Xq (Yz k).2) Z (QrY _ t)) Z<|cV_ 5 [.o _,.d] Qm2 Z λz=>T 5 [2,4,10,11,12,13,14,15] [4,24,36] ([(70,.b ((l.2 != 0)||z))],[]) Z (H 4 Z (λh=>Y 3 70 Z (Jf h Z)) λh=>Y 3 70 Z (Xk h Z))<|I 1 Z (P 3 Z Z)<|I 11 Z (L 11 Z)<|pA_ 5 1 Xa Z<|P 3 Z Z) λg=>R 5 Z)<|X 2 Z) (λa2=>L 3 Z) (λa3=>R 8 Z))<|X 2 Z) (λa4=>zF_ 2 24 [8] [] Z<|E 0 Z) (λa5=>zF_ 10 24 [8] [] Z<|E 0 Z)
def Mq:O_ ((Int×LI_)⊕LI_):=Q (y_ ((Qh (a+1)),f))
def Qd7:O_ Bool:=cond m (Q t_)<|j_ (idx b.Tasks c) λa=>j_ (idx a.Ins d) λe=>Q (e.Place==s)
def Qd8:O_ ((Bool×Int)⊕Bool):=Q (y_ (m,(Qh (a+1))))
def TO:O_ ((Bool×Int)⊕Bool):=j_ (idx b.Tasks c) λa=>cond (i0<a.Ins.length) (j_ (Qd7 h0 b c i0 d) (λO=>Qd8 i0 O))<|Q (i_ h0)
def Qd9:O_ Bool:=cond m (j_ (idx e d) λa=>Q ((a.length:Int)==0))<|Q f_
def Qea:O_ ((Int×LI_)⊕LI_):=cond h0 (j_ (chk (f.length+([j0]:L_ Int).length<=4294967296)) λ_=>Mq j0 (f++([j0]:L_ Int)))<|Mq j0 f
def TP:O_ ((Int×LI_)⊕LI_):=j_ (Qd9 h0 e d) (λa=>Qea f d a)
def CG:O_ ((Int×LI_)⊕LI_):=cond ((e0<e.length)&&((0<=d)&&(d<k0.Tasks.length))) (j_ (Qq (λst=>TO k0 d e0 st.1 st.2) (f_,0)) (λq=>TP e e0 g1 q))<|Q (i_ g1)
def CH:O_ LI_:=Q f
def MR:O_ LI_:=j_ (Qq (λst=>CG e d b st.1 st.2) (0,([]:L_ Int))) (λq=>CH q)
def Qm6 {g h a}:CT 148 [.G Qi g,.M 1 Qj h,.I a] [] (MR g h a) (λr=>(.P 600 r)) (λr=>[(600,.R 1 Qb r)]):=
 W 68 func148 Z<|aD_ 18 7 63 1 Z<|lA_ 0 [1,2,3] [3] (λst=>([(7,.P 63 st.2),(8,.I st.1)],[(63,.R 1 Qb st.2)])) [] [] (λq=>(.exit 0,([(7,.P 63 q)],[(63,.R 1 Qb q)]))) Z (λ⟨i,s⟩=>T 2 [1,2,3,7,8] [3,63] ([(25,.b ((i<(h.length:Int))&&((0<=a)&&(a<g.Tasks.length))))],[]) Z (N 3 Z<|H 2 Z (λc=>H 4 Z (λd=>N 3 Z<|Y 3 25 Z (Ye c (Ye d Z))) λd=>Y 7 25 Z (Ye c (YH d Z))) λc=>Y 11 25 Z (YH c Z))<|I 1 Z (mE_ 2 [1,2,3,8] [3] (λe:LI_=>([(7,.P 63 e)],[(63,.R 1 Qb e)])) (λe=>Mq i e) Z (lA_ 13 [1,2,3,7,8] [3,63] (λst=>([(9,.b st.1),(10,.I st.2)],[])) [1,2,3,7,8] [3,63] (λq=>(.exit 2,([(9,.b q)],[]))) Z (λ⟨in_16,j⟩=>J 7 Z λk=>N 2 Z<|I 3 Z (mV_ 4 [1,2,3,7,8,10] [3,63] (λO=>([(9,.b O)],[])) Z (I 3 Z (M 15 Z)<|J 3 Z λl=>J 3 Z λm=>M 7 Z) λO=>R 7 Z)<|X 2 Z) λin_20=>mV_ 3 [1,2,3,7,8] [3,63] (λf=>([(62,.b f)],[])) Z (I 3 Z (J 2 Z λo=>N 1 Z<|M 3 Z)<|M 8 Z) λf=>I 1 Z (pA_ 3 1 Qb Z<|P 3 Z Z)<|P 2 Z Z) λe=>R 5 Z)<|X 2 Z) λp=>gT_ [9,.ren 63 600] Z<|E 0 Z
def Mr (c:((L_ QMk)×Bool))(d:Int)(a:Int):O_ (Int⊕(Unit⊕Unit)):=cond (a<f.length) (j_ (idx c.1 d) λe=>j_ (idx f a) λb=>j_ (idx e b) λg=>cond (0<(g.length:Int)) (Q (i_ (y_ ())))<|Q (y_ (Qh (a+1))))<|Q (i_ (i_ ()))
def Ms (b:((L_ QMk)×Bool))(c:LI_)(a:Int):O_ (Int⊕(Unit⊕Unit)):=cond (a<b.1.length) (j_ (Qq (λst=>Mr c b a st) 0) (Sum.elim (λq=>Q (i_ (y_ ()))) (λq=>Q (y_ (Qh (a+1))))))<|Q (i_ (i_ ()))
def Qeb : O_ Int:=Q 0
def TQ (a:((L_ QMk)×Bool)):O_ Int:=cond a.2 (Q 1)<|Q 2
def Bh:O_ Int:=j_ (Bg b e r) λg=>cond (g != 0) (Q 0)<|j_ (idx b.Tasks r.Task) λh=>cond (h.Join != 3) (Q 1)<|j_ (SX b e r.Task d) λa=>j_ (MR b e r.Task) λf=>j_ (Qq (λst=>Ms a f st) 0) (Sum.elim (λq=>Qeb) (λq=>TQ a))
def Qm9 {j k l b}:CT 85 [.G Qi j,.M 1 Qj k,.G Qy l,.I b] [] (Bh j k l b) V.I no_:=
 W 66 func85 Z<|A 13 Mk Z λr=>I 3 Z (E 7 Z)<|J 9 Z λs=>I 5 Z (E 7 Z)<|A 9 Qm5 Z λm=>oC_ 13 [.d,.d,.d] Qm6 Z λn=>F 10 [9,10,11] [40] (λst=>([(12,.I st)],[])) [] [] (λq=>(.ret,([(8,.I 0)],[]))) [10] [] (λq=>(.exit 0,([],[]))) Z (λo=>N 5 Z<|I 3 Z (F 10 [9,10,11,12] [40] (λst=>([(13,.I st)],[])) [] [] (λq=>(.ret,([(8,.I 0)],[]))) [9,10,11,12] [40] (λq=>(.exit 2,([],[]))) Z (λp=>I 9 Z (B λh e=>B λi c=>B λf g=>D 5 Z [.N,.N,.B (.row (Xa h)),.N,.N,.N,.N,.B (.row (Qb i)),.B (.row (Qj f)),.N,.B (.ln f.length),.N] [] [] [9,10,11,12,13,64] [40] Z Z (a5_ (XE e) (Yu c Z) (Xq (Yz c).2) (XE g) Qx) Z<|I 1 Z (L 8 Z)<|R 8 Z)<|X 2 Z) (λ_=>L 3 Z) (λ_=>R 8 Z))<|X 2 Z) (λ_=>E 2 Z) (λ_=>I 8 Z (E 7 Z)<|E 8 Z)
def CI:O_ (Int×Xj):=
 cond ((m1.1<1)||((m1.2.1<m1.1)||((16<m1.2.1)||((m1.2.2<1)||((m1.2.1<m1.2.2)||((a<m1.1)||(m1.2.1<a))))))) (Q (1,(Xj.mk 0 0 0 0 0)))<|Q (0,(Xj.mk m1.2.1 m1.2.2 a 0 0))
def SY:O_ (Int×Xj):=cond ((m1.1==0)&&((m1.2.1==0)&&(m1.2.2==0))) (CI j2 (1,1,1))<|CI j2 m1
def Qna {c j}:CT 86 [.G QcU c,.I j] [] (SY c j) (λr=>(.tup [.G XV r.2,.I r.1])) no_:=
 W 54 func86 Z<|mE_ 7 [1,2,4] [4] (λa:(Int×Int×Int)=>([],[(2,.W QcU a)])) (λa=>CI j a) Z (K [4,.o (.any (.b ((c.1==0)&&((c.2.1==0)&&(c.2.2==0)))) n_),2] Z (λl=>(a1_ (λz k m _=>Qf.eqAgg Z Z (QP l.n Z) (k _ _ Z) (k _ _ Z) Z Z (Qu0 _ _ _ _ _ _))))<|I 0 Z (P 4 Z Z)<|P 1 Z Z) λa=>T 23 [1,4,7,8] [4] ([(48,.b ((a.1<1)||((a.2.1<a.1)||((16<a.2.1)||((a.2.2<1)||((a.2.1<a.2.2)||((j<a.1)||(a.2.1<j))))))))],[]) Z (H 4 Z (λf=>Y 28 48 Z (Jf f Z)) λf=>H 5 Z (λd=>Y 23 48 Z (Xk f (Jf d Z))) λd=>H 4 Z (λe=>Y 19 48 Z (Xk f (Xk d (Jf e Z)))) λe=>H 4 Z (λg=>Y 15 48 Z (Xk f (Xk d (Xk e (Jf g Z))))) λg=>H 5 Z (λh=>Y 10 48 Z (Xk f (Xk d (Xk e (Xk g (Jf h Z)))))) λh=>H 5 Z (λi=>Y 5 48 Z (Xk f (Xk d (Xk e (Xk g (Xk h (Jf i Z))))))) λi=>Y 5 48 Z (Xk f (Xk d (Xk e (Xk g (Xk h (Xk i Z)))))))<|I 1 Z (E 9 Z)<|E 13 Z
def TR:O_ Qd:=j_ (chk (([]:L_ Int).length+r.Vars.length<=4294967296)) λ_=>j_ (chk (([]:L_ Int).length+r.Ins.length<=4294967296)) λ_=>j_ (chk (([]:L_ Int).length+r.Outs.length<=4294967296)) λ_=>Q (Qd.mk r.Task (([]:L_ Int)++r.Vars) (([]:L_ Int)++r.Ins) (([]:L_ Int)++r.Outs))
def QiE {d}:CT 242 [.G Qy d] [] (TR d) (λr=>(.G Qy r)) no_:=
 W 18 func242 Z<|kA_ λf=>kA_ λg=>kA_ λh=>Us 7 Z [.N,.N,.B (.any .e0 n_),.N,.N,.B (.any (.M 1 Qb d.Vars) n_),.B (.any .e0 n_),.N,.N,.B (.any (.M 1 Qb d.Ins) n_),.B (.any .e0 n_),.N,.N,.B (.any (.M 1 Qb d.Outs) n_),.N,.m .s] [] [] [2] [2] Z Z (λc=>(a6_ (λz b e _=>Qf.bld0 Z Z (QP c.n Z) (QC.es Z) (QC.zv Z)) (λz b e _=>Qf.appE0 Z Z (QP c.n Z) (b _ _ Z) (QC.es Z) (QC.es Z) (QC.zv Z) Z (by decide) (by decide) (by decide) (by rw[Dx];simpa using f) (b _ _ Z)) (λz b e _=>Qf.bld0 Z Z (QP c.n Z) (QC.es Z) (QC.zv Z)) (λz b e _=>Qf.appE0 Z Z (QP c.n Z) (b _ _ Z) (QC.es Z) (QC.es Z) (QC.zv Z) Z (by decide) (by decide) (by decide) (by rw[Dx];simpa using g) (b _ _ Z)) (λz b e _=>Qf.bld0 Z Z (QP c.n Z) (QC.es Z) (QC.zv Z)) (λz b e _=>Qf.appE0 Z Z (QP c.n Z) (b _ _ Z) (QC.es Z) (QC.es Z) (QC.zv Z) Z (by decide) (by decide) (by decide) (by rw[Dx];simpa using h) (b _ _ Z)))) Z<|E 2 Z
def CJ:O_ Qm:=j_ (TR p.Mode) λb=>Q (Qm.mk p.Id b p.Batch p.Until)
def ZS {a}:CT 151 [.G Qt a] [] (CJ a) (λr=>(.G Qt r)) no_:=
 W 8 func151 Z<|A 10 QiE Z λb=>E 11 Z
def Zt:O_ ((Int×(L_ Qm))⊕(L_ Qm)):=Q (y_ ((Qh (a+1)),n))
def AQ (a:(L_ Qm)):O_ ((Int×(L_ Qm))⊕(L_ Qm)):=cond (d<n.length) (j_ (idx n d) λf=>cond (f.Id != c) (j_ (idx n d) λg=>j_ (CJ g) λb=>j_ (chk (a.length+([b]:L_ Qm).length<=4294967296)) λ_=>Zt d (a++([b]:L_ Qm)))<|Zt d a)<|Q (i_ a)
def Lg:O_ (L_ Qm):=j_ (Qq (λst=>AQ n c st.1 st.2) (0,([]:L_ Qm))) (λq=>Q q)
def Qfk {c b}:CT 150 [.M 11 Qt c,.I b] [] (Lg c b) (λr=>(.P 600 r)) (λr=>[(600,.R 11 Qt r)]):=
 W 29 func150 Z<|aD_ 17 5 20 11 Z<|lA_ 0 [0,1] [] (λst=>([(5,.P 20 st.2),(6,.I st.1)],[(20,.R 11 Qt st.2)])) [] [] (λq=>(.exit 0,([(5,.P 20 q)],[(20,.R 11 Qt q)]))) Z (λ⟨d,h⟩=>N 5 Z<|I 3 Z (mE_ 2 [0,1,6] [] (λa:(L_ Qm)=>([(5,.P 20 a)],[(20,.R 11 Qt a)])) (λa=>Zt d a) Z (J 5 Z λe=>I 6 Z (J 4 Z λf=>A 1 ZS Z λg=>pA_ 0 11 Qt Z<|P 3 Z Z)<|P 2 Z Z) λa=>R 5 Z)<|X 2 Z) λi=>gT_ [9,.ren 20 600] Z<|E 0 Z
def Qay:O_ Bool:=cond (a<n.length) (j_ (idx n a) λb=>Q (decide (b.Id<=p.Id)))<|Q f_
def Qaz:O_ (Int⊕Int):=cond m (Q (y_ (Qh (a+1))))<|Q (i_ a)
def Cd:O_ (Int⊕Int):=j_ (Qay i0 n p) (λd=>Qaz i0 d)
def QgG:O_ (L_ Qm):=j_ (chk (decide (0<=i0)&&decide (0<=i0.toNat)&&decide (i0.toNat<=n.length))) λ_=>j_ (chk (([]:L_ Qm).length+((n.drop 0).take (i0.toNat-0)).length<=4294967296)) λ_=>j_ (CJ p) λc=>j_ (chk ((([]:L_ Qm)++((n.drop 0).take (i0.toNat-0))).length+([c]:L_ Qm).length<=4294967296)) λ_=>j_ (chk (decide (0<=i0)&&decide (i0.toNat<=n.length)&&decide (n.length<=n.length))) λ_=>j_ (chk (((([]:L_ Qm)++((n.drop 0).take (i0.toNat-0)))++[c]).length+((n.drop i0.toNat).take (n.length-i0.toNat)).length<=4294967296)) λ_=>Q (((([]:L_ Qm)++((n.drop 0).take (i0.toNat-0)))++[c])++((n.drop i0.toNat).take (n.length-i0.toNat)))
def Ni:O_ (L_ Qm):=j_ (Lg n p.Id) λb=>j_ (Qq (λst=>Cd b p st) 0) (λq=>QgG b p q)
def QgH {y w}:CT 88 [.M 11 Qt y,.G Qt w] [] (Ni y w) (λr=>(.P 600 r)) (λr=>[(600,.R 11 Qt r)]):=
 W 40 func88 Z<|oC_ 11 [.d,.d] Qfk Z λe=>lA_ 10 [3,5] [3,10] (λst=>([(6,.I st)],[])) [3,5] [3,10] (λq=>(.exit 0,([(6,.I q)],[]))) Z (λk5=>mV_ 2 [3,5,6] [3,10] (λz=>([(24,.b z)],[])) Z (jF_ (λi=>B λx k=>D 0 Z [.N,.N,.N,.N,.E (.b t_),.N,.N,.N,.N,.B (.row (Qt x)),.N,.N,.N,.N] [] [] [3,5,6,24] [3,10] Z Z ⟨⟨(tc_ i),(Yu k Z)⟩,(Xq (Yz k).2)⟩ Z<|M 0 Z) λi=>D 0 Z (dz_ [(4,.E (.b f_)),(8,.N)]) [] [] [3,5,6,24] [3,10] Z Z (tc_ i) Z<|M 0 Z) λz=>I 1 Z (R 9 Z)<|X 2 Z) λg=>zF_ 3 10 [5] [] Z<|kA_ λj=>kA_ λp=>B λh s=>kA_ λt=>kA_ λo=>kA_ λu=>Us 0 Z [.N,.N,.N,.B (.any (.sl 11 (((e.drop 0).take (g.toNat-0)).map Qt)) n_),.m (.app ((([]:L_ Qm)++((e.drop 0).take (g.toNat-0))).map Qt) (([]:L_ Qm)++((e.drop 0).take (g.toNat-0))).length),.a .no (Q ([],.G Qt w)) t_,.B (.C1 (.G Qt h)),.a (.bd []) (Q ([],.sl 11 (([h]:L_ Qm).map Qt))) f_,.m (.app (((([]:L_ Qm)++((e.drop 0).take (g.toNat-0)))++[h]).map Qt) ((([]:L_ Qm)++((e.drop 0).take (g.toNat-0)))++[h]).length),.a .no n_ t_,.a .no n_ t_,.a (.any (.sl 11 (((e.drop g.toNat).take (e.length-g.toNat)).map Qt)) n_) n_ t_,.m (.app ((((([]:L_ Qm)++((e.drop 0).take (g.toNat-0)))++[h])++((e.drop g.toNat).take (e.length-g.toNat))).map Qt) (((([]:L_ Qm)++((e.drop 0).take (g.toNat-0)))++[h])++((e.drop g.toNat).take (e.length-g.toNat))).length),.N] [3,5,6] [3] [4] [27] Z Z (λC=>(a8_ (λc v O _=>Qf.sliceD Z Z (QP C.n Z) (v _ _ Z) (QC.es Z) GL.no (GL.val (v _ _ Z) (Xe (MC j)) Z) (Xe (ME j)) (Yq (Xe (Qbn j)) (Ih Qx.symm)) SD) ⟨(Qx (f:=Qt) (l:=([]:L_ Qm))),Il p Qx,(WA (f:=Qt) (l:=([]:L_ Qm)) (m:=((e.drop 0).take (g.toNat-0)))),CX (l:=([]:L_ Qm)) Qx⟩ Z (ZS _ s) Z ⟨Qx,Il t Qx,WA,CX Qx⟩ (λc v O _=>Qf.sliceD Z Z (QP C.n Z) (v _ _ Z) (QC.es Z) (GL.val (v _ _ Z) (Xe (MC o)) Z) (GL.none_ Qx) (Xe (ME o)) (Ih Qx.symm) SD) ⟨Qx,Il u Qx,WA,CX Qx⟩)) Z<|gT_ [2,.ren 27 600] Z<|E 0 Z
def CK (c:Qm):O_ (QF×Qz):=j_ (Ni i.Items c) λd=>Q ((QF.mk m3.1 d (Qh (i.Next+1)) i.Now),(Qz.mk 0 i.Next ([]:LI_)))
def SZ:O_ (QF×Qz):=j_ (Bg b i.M m0.Mode) λm=>cond (m != 0) (j_ (YO i m) λe=>Q (e.1,e.2))<|j_ (Bh b i.M m0.Mode 64) λl=>cond (l != 1) (j_ (YO i 13) λf=>Q (f.1,f.2))<|j_ (idx b.Tasks m0.Mode.Task) λd=>j_ (SY d.Many m0.Num) λa=>cond (a.1 != 0) (j_ (YO i a.1) λg=>Q (g.1,g.2))<|cond (64<=(i.Items.length:Int)) (j_ (YO i 2) λh=>Q (h.1,h.2))<|cond (i.Next==1099511627776) (j_ (YO i 1) λc=>Q (c.1,c.2))<|j_ (Pf b i.M m0.Mode) λj=>cond (0<d.After) (CK i j (Qm.mk i.Next m0.Mode a.2 (Qh (i.Now+d.After))))<|CK i j (Qm.mk i.Next m0.Mode a.2 0)
def Qnb {f b g}:CT 49 [.G Qi f,.G Xw b,.G Jl g] [] (SZ f b g) (λr=>(.tup [.G Xw r.1,.G QM r.2])) no_:=
 W 116 func49 Z<|A 16 Mk Z λq=>I 10 Z (A 4 Jv Z λh=>E 8 Z)<|A 10 Qm9 Z λi=>I 3 Z (A 3 Jv Z λj=>E 8 Z)<|J 9 Z λk=>A 11 Qna Z λl=>I 15 Z (A 4 Jv Z λm=>E 8 Z)<|N 7 Z<|I 3 Z (A 3 Jv Z λo=>E 8 Z)<|I 10 Z (A 3 Jv Z λp=>E 8 Z)<|A 9 Qfd Z λc=>mE_ 19 [4,6,7,11,13] [4,6,7] (λa:Qm=>([],[(13,.W Qt a)])) (λa=>CK b c a) Z (I 7 Z (P 9 Z Z)<|P 1 Z Z) λa=>oC_ 19 [.d,.d] QgH Z λe=>g2_ [17,.v .no [n_,n_,Q 1] (.agg (QM (Qz.mk 0 b.Next ([]:LI_)))),5,.frz 107 (e.map Qt) [] [6]] Z Z (a1_ ⟨(Kf Qx),U⟩)<|E 0 Z
def AR:O_ (Int⊕(Int⊕Unit)):=cond (d<n.length) (j_ (idx n d) λa=>cond (a.Id==c) (Q (i_ (y_ d)))<|Q (y_ (Qh (d+1))))<|Q (i_ (i_ ()))
def CL:O_ Int:=j_ (Qq (λst=>AR n c st) 0) (Sum.elim (λq=>Q q) (λq=>Q (-1)))
def Zu {b a}:CT 89 [.M 11 Qt b,.I a] [] (CL b a) V.I no_:=
 W 20 func89 Z<|F 12 [0,1] [] (λst=>([(5,.I st)],[])) [] [] (λq=>(.ret,([(4,.I q)],[]))) [] [] (λq=>(.exit 0,([],[]))) Z (λc=>N 5 Z<|I 3 Z (J 8 Z λd=>I 6 Z (L 9 Z)<|R 8 Z)<|X 2 Z) (λe=>E 2 Z) (λ_=>E 8 Z)
def GA:O_ (Int×Xj):=j_ (Ub k) λe=>cond (!e) (Q (1,k))<|j_ (IZ k) λa=>cond a (Q (12,k))<|cond ((0<c)&&((Qh ((Qh (k.Open+k.Done))+k.Failed))==k.Most)) (Q (2,k))<|Q (0,(Xj.mk k.Most k.Enough (Qh (k.Open+c)) (Qh (k.Done+d)) (Qh (k.Failed+s))))
def Zv {e open_2 c a}:CT 152 [.G XV e,.I open_2,.I c,.I a] [] (GA e open_2 c a) (λr=>(.tup [.G XV r.2,.I r.1])) no_:=
 W 49 func152 Z<|A 11 Mg Z λg=>I 3 Z (E 9 Z)<|A 6 Zo Z λf=>I 2 Z (E 9 Z)<|T 4 [1,2,3,4,8] [4,8] ([(31,.b ((0<open_2)&&((Qh ((Qh (e.Open+e.Done))+e.Failed))==e.Most)))],[]) Z (H 4 Z (λd=>Y 13 31 Z (Ye d Z)) λd=>Y 13 31 Z (YH d Z))<|I 1 Z (E 9 Z)<|E 40 Z
def Qbd:O_ (Int×Xj):=j_ (GA k 1 0 0) λa=>Q (a.1,a.2)
def Qqx {a}:CT 90 [.G XV a] [] (Qbd a) (λr=>(.tup [.G XV r.2,.I r.1])) no_:=
 W 8 func90 Z<|A 10 Zv Z λb=>E 7 Z
def Zw:O_ (Int×Xj):=j_ (GA k (-1) 1 0) λa=>Q (a.1,a.2)
def QoT {a}:CT 91 [.G XV a] [] (Zw a) (λr=>(.tup [.G XV r.2,.I r.1])) no_:=
 W 8 func91 Z<|A 10 Zv Z λb=>E 7 Z
def Zx:O_ (Int×Xj):=j_ (GA k (-1) 0 1) λa=>Q (a.1,a.2)
def QoU {a}:CT 92 [.G XV a] [] (Zx a) (λr=>(.tup [.G XV r.2,.I r.1])) no_:=
 W 8 func92 Z<|A 10 Zv Z λb=>E 7 Z
def Qfl:O_ Bool:=j_ (Ub k) λb=>cond b (Q (decide (k.Enough<=k.Done)))<|Q f_
def Zy:O_ Bool:=j_ (Qfl k) (λb=>Q b)
def QoW {a}:CT 94 [.G XV a] [] (Zy a) V.b no_:=
 W 12 func94 Z<|mV_ 7 [] [] (λc=>([(2,.b c)],[])) Z (A 2 Mg Z λd=>I 1 Z (M 8 Z)<|M 8 Z) λc=>E 2 Z
def Zz:O_ (QMk×Int):=j_ (Be b r) λc=>cond (c.2 != 0) (Q (([]:L_ QBg),c.2))<|j_ (EO e c.1 t_) λa=>Q (a.1,a.2)
def QoX {a b c}:CT 153 [.G Qi a,.M 1 Qj b,.G Qy c] [] (Zz a b c) (λr=>(.tup [.M 1 Qj r.1,.I r.2])) no_:=
 W 24 func153 Z<|A 12 Mi Z λe=>I 14 Z (gT_ [9,.denil 6 [Q 1]] Z<|E 0 Z)<|A 6 Zq Z λd=>E 7 Z
def Ie:O_ (Int×QF):=cond (j2 != 0) (Q (j2,i))<|j_ (Lg i.Items p.Id) λd=>Q (0,(QF.mk e1 d i.Next i.Now))
def Lh (a:Bool):O_ (Int×QF):=j_ (Zz b i.M p.Mode) λf=>cond a (j_ (Pg b i.M p.Mode) λc=>Ie i p c.1 c.2)<|Ie i p f.1 f.2
def Qcj {i f g c}:CT 95 [.G Qi i,.G Xw f,.G Qt g,.b c] [] (Lh i f g c) (λr=>(.tup [.G Xw r.2,.I r.1])) no_:=
 W 44 func95 Z<|A 16 QoX Z λk=>mF_ 7 [5,6,8] [5,6,8] (λ(e:QMk) (a:Int)=>([(10,.M 1 Qj e),(11,.I a)],[])) (λe a=>Ie f g e a) Z (I 5 Z (A 6 Qfh Z λj=>fA_ 6 Z Z)<|fA_ 1 Z Z) λe a=>I 7 Z (E 10 Z)<|oC_ 15 [.d,.d] Qfk Z λh=>G [12,.frz 41 (h.map Qt) [] [8]] Z (a1_ ⟨(Kf Qx),U⟩)<|E 0 Z
def Gf (a:Bool)(b:Bool)(e:Qm):O_ (QF×Qz):=cond (!a) (j_ (Ni i.Items e) λh=>Q ((QF.mk i.M h i.Next i.Now),(Qz.mk 0 m0.Id ([]:LI_))))<|j_ (Lh k0 i e b) λc=>cond (c.1 != 0) (j_ (YO i c.1) λf=>Q (f.1,f.2))<|Q (c.2,(Qz.mk 0 m0.Id ([m0.Id]:L_ Int)))
def AS (b:Qm)(a:Int)(c:Xj):O_ (QF×Qz):=cond (a != 0) (j_ (YO i a) λd=>Q (d.1,d.2))<|j_ (IZ c) λe=>j_ (Zy c) λf=>Gf i m0 k0 e f (Qm.mk b.Id b.Mode c b.Until)
def Dn:O_ (QF×Qz):=j_ (CL i.Items m0.Id) λj=>cond (j<0) (cond ((1<=m0.Id)&&(m0.Id<i.Next)) (j_ (YO i 12) λd=>Q (d.1,d.2))<|j_ (YO i 3) λe=>Q (e.1,e.2))<|j_ (idx i.Items j) λa=>cond (m0.Do != 5) (cond (m0.Do==4) (j_ (Qbd a.Batch) λf=>AS i m0 b a f.1 f.2)<|cond (m0.Do==2) (j_ (Zw a.Batch) λg=>AS i m0 b a g.1 g.2)<|j_ (Zx a.Batch) λh=>AS i m0 b a h.1 h.2)<|Gf i m0 b t_ f_ a
def QoY {l k j}:CT 50 [.G Qi l,.G Xw k,.G Jl j] [] (Dn l k j) (λr=>(.tup [.G Xw r.1,.G QM r.2])) no_:=
 W 119 func50 Z<|A 15 Zu Z λx8=>I 10 Z (T 2 [4,6,7] [4,6,7] ([(32,.b ((1<=j.Id)&&(j.Id<k.Next)))],[]) Z (H 5 Z (λg=>Y 7 32 Z (Ye g Z)) λg=>Y 7 32 Z (YH g Z))<|I 1 Z (A 3 Jv Z λq=>E 9 Z)<|A 5 Jv Z λt=>E 8 Z)<|J 7 Z λo=>QAh 15 [3,4,5,6,7,9] [3,4,5,6,7] (λ(c:Bool) (e:Bool) (h:Qm)=>([(10,.b c),(11,.b e)],[(9,.W Qt h)])) (λc e h=>Gf k j l c e h) Z (I 7 Z (mF_ 10 [3,4,5,6,7,9,12] [3,4,5,6,7,9] (λ(f:Int) (i:Xj)=>([(13,.I f)],[(12,.W XV i)])) (λf i=>AS k j l o f i) Z (I 13 Z (A 3 Qqx Z λu=>fA_ 7 Z Z)<|I 6 Z (A 3 QoT Z λv=>fA_ 7 Z Z)<|A 3 QoU Z λw=>fA_ 7 Z Z) λf i=>I 7 Z (A 4 Jv Z λx=>E 9 Z)<|A 12 Zo Z λy=>A 5 QoW Z λz=>QsO 2 Z Z)<|QsO 1 Z Z) λc e h=>I 7 Z (oC_ 5 [.d,.d] QgH Z λp=>D 5 Z [.N,.a .no n_ t_,.a .no n_ t_,.a .no (Q ([n_,n_,Q 1],.agg (QM (Qz.mk 0 j.Id ([]:LI_))))) t_,.m .s,.m .s] [4,5,6,7] [4,5,7,91] [6,7] [6,7,91] Z Z (a1_ Z) Z<|G [3,.frz 91 (p.map Qt) [] [6]] Z (a1_ ⟨(Kf Qx),U⟩)<|E 0 Z)<|A 8 Qcj Z λC=>I 15 Z (A 4 Jv Z λO=>E 8 Z)<|D 3 Z [.N,.a .no n_ t_,.a .no n_ t_,.a .no n_ t_,.a .no n_ t_,.a (.bd []) (Q ([],.sl 1 (([j.Id]:L_ Int).map Qb))) t_,.a .no n_ t_,.m .s,.m .s] [5,6,7,14] [5,7,14] [6,7] [6,7] Z Z (a1_ Z) Z<|E 2 Z
def Qf7  : O_ QQ:=Q (QQ.mk ([]:QBg))
def Qqy : CT 155 [] [] (Qf7 ) (λ_=>(.L 2)) (λr=>[(2,.W XN r)]):=
 W 3 func155 Z<|G [7,.v .no [Q 2] (.agg (XN (QQ.mk ([]:QBg)))),5] Z Z<|E 0 Z
def JK (c:QQ)(b:Int)(a:Int):O_ (Int⊕(Int⊕Unit)):=cond (a<c.L.length) (j_ (idx c.L a) λd=>cond (d.1==b) (Q (i_ (y_ a)))<|Q (y_ (Qh (a+1))))<|Q (i_ (i_ ()))
def En (b:QQ)(a:Int):O_ Int:=j_ (Qq (λst=>JK b a st) 0) (Sum.elim (λq=>Q q) (λq=>Q (-1)))
def QaC {b a}:CT 243 [.L 621,.I a] [(621,.W XN b)] (En b a) V.I (λ_=>[(621,.W XN b)]):=
 W 26 func243 Z<|F 12 [0,1] [621] (λst=>([(5,.I st)],[])) [] [621] (λq=>(.ret,([(4,.I q)],[]))) [] [621] (λq=>(.exit 0,([],[]))) Z (λc=>N 8 Z<|I 3 Z (J 11 Z λd=>I 6 Z (L 9 Z)<|R 8 Z)<|X 2 Z) (λe=>E 2 Z) (λ_=>E 8 Z)
def Ap (b:QQ)(h:Int)(c:Int):O_ Bool:=cond (a<b.L.length) (j_ (idx b.L a) λd=>cond (d.2<h) (Q t_)<|j_ (idx b.L a) λe=>cond (e.2==h) (j_ (idx b.L a) λf=>Q (decide (f.1<c)))<|Q f_)<|Q f_
def Aq:O_ (Int⊕Int):=cond m (Q (y_ (Qh (a+1))))<|Q (i_ a)
def JW (d:QQ)(h:Int)(b:Int)(a:Int):O_ (Int⊕Int):=j_ (Ap a d h b) (λc=>Aq a c)
def Lt (b:QQ)(c:Int)(h:Int)(a:Int):O_ (Int×QQ):=j_ (chk (decide (0<=a)&&decide (0<=a.toNat)&&decide (a.toNat<=b.L.length))) λ_=>j_ (chk (([]:QBg).length+((b.L.drop 0).take (a.toNat-0)).length<=4294967296)) λ_=>j_ (chk ((([]:QBg)++((b.L.drop 0).take (a.toNat-0))).length+([(c,h)]:QBg).length<=4294967296)) λ_=>j_ (chk (decide (0<=a)&&decide (a.toNat<=b.L.length)&&decide (b.L.length<=b.L.length))) λ_=>j_ (chk (((([]:QBg)++((b.L.drop 0).take (a.toNat-0)))++[(c,h)]).length+((b.L.drop a.toNat).take (b.L.length-a.toNat)).length<=4294967296)) λ_=>Q (0,(QQ.mk (((([]:QBg)++((b.L.drop 0).take (a.toNat-0)))++[(c,h)])++((b.L.drop a.toNat).take (b.L.length-a.toNat)))))
def EP (b:QQ)(a:Int)(h:Int):O_ (Int×QQ):=j_ (En b a) λc=>cond (0<=c) (Q (5,b))<|cond (4096<=(b.L.length:Int)) (Q (2,b))<|j_ (Qq (λst=>JW b h a st) 0) (λq=>Lt b a h q)
def Qbz {d e at_3}:CT 156 [.L 621,.I e,.I at_3] [(621,.W XN d)] (EP d e at_3) (λr=>(.I r.1)) (λr=>[(621,.W XN r.2)]):=
 W 86 func156 Z<|S 10 .fn [(621,621)] QaC Z λz=>I 3 Z (E 7 Z)<|N 9 Z<|I 3 Z (E 7 Z)<|lA_ 9 [0,1,2] [621] (λst=>([(7,.I st)],[])) [0,1,2] [621] (λq=>(.exit 0,([(7,.I q)],[]))) Z (λu=>mV_ 2 [0,1,2,7] [621] (λi=>([(60,.b i)],[])) Z (N 6 Z<|I 2 Z (J 5 Z λv=>I 5 Z (M 25 Z)<|J 5 Z λw=>I 5 Z (J 5 Z λx=>M 8 Z)<|M 14 Z)<|M 36 Z) λi=>I 1 Z (R 9 Z)<|X 2 Z) λc=>kA_ λg=>kA_ λj=>kA_ λk=>kA_ λh=>kA_ λo=>Us 3 Z [.a .no n_ t_,.N,.N,.N,.N,.N,.N,.B (.any (.sl 2 (((d.L.drop 0).take (c.toNat-0)).map QB)) n_),.m (.app ((([]:QBg)++((d.L.drop 0).take (c.toNat-0))).map QB) (([]:QBg)++((d.L.drop 0).take (c.toNat-0))).length),.a .no n_ t_,.a .no n_ t_,.a .no (Q ([],.agg (QB (e,at_3)))) t_,.a (.bd []) (Q ([],.sl 2 (([(e,at_3)]:QBg).map QB))) t_,.m (.app (((([]:QBg)++((d.L.drop 0).take (c.toNat-0)))++[(e,at_3)]).map QB) ((([]:QBg)++((d.L.drop 0).take (c.toNat-0)))++[(e,at_3)]).length),.a .no n_ t_,.a .no n_ t_,.a .no n_ t_,.a .no n_ t_,.a .no n_ t_,.a (.any (.sl 2 (((d.L.drop c.toNat).take (d.L.length-c.toNat)).map QB)) n_) n_ t_,.m (.app ((((([]:QBg)++((d.L.drop 0).take (c.toNat-0)))++[(e,at_3)])++((d.L.drop c.toNat).take (d.L.length-c.toNat))).map QB) (((([]:QBg)++((d.L.drop 0).take (c.toNat-0)))++[(e,at_3)])++((d.L.drop c.toNat).take (d.L.length-c.toNat))).length),.N,.N,.m .s] [0,1,2,7] [621] [] [64,621] Z Z (λt=>(a7_ (λσ p y _=>Qf.sliceD Z Z (QP t.n Z) (p _ _ Z) (QC.es Z) GL.no (GL.val (p _ _ Z) (Xe (MC g)) Z) (Xe (ME g)) (Yq (Xe (Qbn g)) (Ih Qx.symm)) SD) ⟨(Qx (f:=QB) (l:=([]:QBg))),Il j Qx,(WA (f:=QB) (l:=([]:QBg)) (m:=((d.L.drop 0).take (c.toNat-0)))),CX (l:=([]:QBg)) Qx⟩ Z Z ⟨Qx,Il k Qx,WA,CX Qx⟩ (λσ p y _=>Qf.sliceD Z Z (QP t.n Z) (p _ _ Z) (QC.es Z) (GL.val (p _ _ Z) (Xe (MC h)) Z) (GL.none_ Qx) (Xe (ME h)) (Ih Qx.symm) SD) ⟨Qx,Il o Qx,WA,CX Qx⟩)) Z<|G [7,.frz 64 ((((([]:QBg)++((d.L.drop 0).take (c.toNat-0)))++[(e,at_3)])++((d.L.drop c.toNat).take (d.L.length-c.toNat))).map QB) [] [621]] Z (a1_ ⟨(Kf Qx),U⟩)<|E 0 Z
def Gg:O_ Bool:=cond (0<(g.length:Int)) (j_ (idx g 0) λb=>Q (decide (b.2<=c)))<|Q f_
def Gh:O_ ((QBg×LI_)⊕(LI_×QQ)):=cond h0 (j_ (idx g 0) λb=>j_ (chk (f.length+([b.1]:L_ Int).length<=4294967296)) λ_=>j_ (chk (decide (0<=1)&&decide (1<=g.length)&&decide (g.length<=g.length))) λ_=>j_ (chk (([]:QBg).length+((g.drop 1).take (g.length-1)).length<=4294967296)) λ_=>Q (y_ ((([]:QBg)++((g.drop 1).take (g.length-1))),(f++([b.1]:L_ Int)))))<|Q (i_ (f,(QQ.mk g)))
def YJ:O_ ((QBg×LI_)⊕(LI_×QQ)):=j_ (Gg g a) (λb=>Gh g f b)
def Lu (a:QQ):O_ (LI_×QQ):=Q (f,a)
def CM (b:QQ)(a:Int):O_ (LI_×QQ):=j_ (Qq (λst=>YJ a st.1 st.2) (b.L,([]:L_ Int))) (λq=>Lu q.1 q.2)
def QbA {f a}:CT 157 [.L 621,.I a] [(621,.W XN f)] (CM f a) (λr=>(.P 600 r.1)) (λr=>[(600,.R 1 Qb r.1),(621,.W XN r.2)]):=
 W 44 func157 Z<|aD_ 12 5 23 1 Z<|lA_ 0 [0,1] [] (λst=>([(5,.P 23 st.2)],[(23,.R 1 Qb st.2),(621,.var (XN (QQ.mk st.1)))])) [] [] (λq=>(.exit 0,([(5,.P 23 q.1)],[(23,.R 1 Qb q.1),(621,.W XN q.2)]))) Z (λ⟨e,l⟩=>mV_ 2 [0,1,5] [23,621] (λd=>([(22,.b d)],[])) Z (N 5 Z<|I 2 Z (J 4 Z λh=>M 6 Z)<|M 11 Z) λd=>I 1 Z (J 10 Z λi=>pA_ 2 1 Qb Z<|kA_ λc=>K [10,.o (.any (.sl 2 (((e.drop 1).take (e.length-1)).map QB)) n_)] Z (λj=>(a1_ (λz g m _=>Qf.sliceD Z Z (QP j.n Z) (g _ _ Z) (QC.es Z) (GL.val (g _ _ Z) (Xe (MC c)) Z) (GL.none_ Qx) (Xe (ME c)) (Ih Qx.symm) SD)))<|pB_ 0 QB Z<|G [5,.frz 34 ((([]:QBg)++((e.drop 1).take (e.length-1))).map QB) [] [621]] Z (a1_ ⟨(Kf Qx),U⟩)<|R 0 Z)<|X 2 Z) λ⟨p,k⟩=>gT_ [9,.ren 23 600] Z<|E 0 Z
def Rh (b:QQ):O_ ((Int×QQ)⊕QQ):=Q (y_ ((Qh (a+1)),b))
def QaD:O_ Bool:=j_ (idx n c) λa=>j_ (CL n a.Id) λd=>cond (d==c) (j_ (idx n c) λe=>Q (decide (0<e.Until)))<|Q f_
def QgI (g:QQ)(b:Bool):O_ ((Int×QQ)⊕QQ):=cond b (j_ (idx n c) λa=>j_ (idx n c) λd=>j_ (EP g a.Id d.Until) λe=>Rh c e.2)<|Rh c g
def Ce (d:QQ):O_ ((Int×QQ)⊕QQ):=cond (c<n.length) (j_ (QaD n c) (λa=>QgI n c d a))<|Q (i_ d)
def QgJ (b:QQ):O_ LI_:=j_ (CM b a) λc=>Q c.1
def Ss:O_ LI_:=j_ (Qf7) λa=>j_ (Qq (λst=>Ce n st.1 st.2) (0,a)) (λq=>QgJ c q)
def Qqz {o e}:CT 96 [.M 11 Qt o,.I e] [] (Ss o e) (λr=>(.P 600 r)) (λr=>[(600,.R 1 Qb r)]):=
 W 46 func96 Z<|zA_ 7 .fn [] [(7,2)] [] Qqy Z λx=>lA_ 10 [0,1,5] [] (λst=>([(6,.I st.1)],[(7,.W XN st.2)])) [1,5] [] (λq=>(.exit 0,([],[(7,.W XN q)]))) Z (λ⟨p,y⟩=>N 5 Z<|I 3 Z (mE_ 2 [0,1,5,6] [] (λc:QQ=>([],[(7,.W XN c)])) (λc=>Rh p c) Z (mV_ 2 [0,1,5,6] [7] (λf=>([(30,.b f)],[])) Z (J 4 Z λs=>A 2 Zu Z λt=>I 3 Z (J 2 Z λu=>M 5 Z)<|M 8 Z) λf=>I 1 Z (B λk g=>B λl h=>B λi j=>D 0 Z [.N,.N,.N,.B (.row (Qt k)),.N,.N,.N,.N,.B (.row (Qt l)),.N,.N,.m (.cm (.fn) [(621,7)] [(7,621)] [] [.d,.d,.d] [(621,.W XN i.2)] (.I i.1) [])] [] [] [0,1,5,6] [7] Z Z (a3_ (XE g) (XE h) (a1_ (Qbz _ j))) Z<|P 1 Z Z)<|P 2 Z Z) λc=>R 5 Z)<|X 2 Z) λv=>zA_ 6 .fn [(621,7)] [(45,600),(7,621)] [] QbA Z λw=>gT_ [4,.ren 45 600] Z<|E 0 Z
def Ho (j:QF)(b:Int)(a:QF):O_ ((Int×QF)⊕((QF×Qz)⊕QF)):=cond (b<f.length) (j_ (idx f b) λe=>j_ (CL a.Items e) λh=>j_ (idx a.Items h) λg=>j_ (Lh k0 a g f_) λc=>cond (c.1 != 0) (j_ (YO j c.1) λd=>Q (i_ (y_ (d.1,d.2))))<|Q (y_ ((Qh (b+1)),c.2)))<|Q (i_ (i_ a))
def Ph:O_ (QF×Qz):=cond (i.Now==1099511627776) (j_ (YO i 1) λa=>Q (a.1,a.2))<|j_ (Ss i.Items (Qh (i.Now+1))) λc=>j_ (Qq (λst=>Ho c b i st.1 st.2) (0,(QF.mk i.M i.Items i.Next (Qh (i.Now+1))))) (Sum.elim (λq=>Q (q.1,q.2)) (λq=>Q (q,(Qz.mk 0 0 c))))
def Qo1 {j k}:CT 51 [.G Qi j,.G Xw k] [] (Ph j k) (λr=>(.tup [.G Xw r.1,.G QM r.2])) no_:=
 W 64 func51 Z<|I 16 Z (A 3 Jv Z λy=>E 8 Z)<|oC_ 24 [.d,.d] Qqz Z λl=>F 10 [2,3,4,5,6,7] [2,3,4,5,28] (λst=>([(8,.I st.1)],[(6,.W Xw st.2)])) [4,5] [] (λq=>(.ret,([],[(4,.W Xw q.1),(5,.W QM q.2)]))) [4,5,6,7] [4,5,28] (λq=>(.exit 0,([],[(6,.W Xw q)]))) Z (λ⟨o,p⟩=>I 9 Z (B λh b=>B λi e=>B λf g=>D 5 Z [.N,.N,.N,.N,.N,.N,.N,.B (.row (Qb h)),.B (.C2 (.I i)),.B (.row (Qt f)),.E (.G Qt f),.N,.m .s] [] [] [2,3,4,5,6,7,8,9] [2,3,4,5,6,9,28] Z Z (a5_ (Yu b Z) (Xq (Yz b).2) (Zu _ e) (XE g) Z) Z<|A 6 Qcj Z λt=>I 15 Z (A 4 Jv Z λu=>L 10 Z)<|R 13 Z)<|X 2 Z) (λ⟨v,w⟩=>E 2 Z) (λx=>G [12,.frz 28 (l.map Qb) [] [5]] Z (a1_ ⟨(Kf Qx),U⟩)<|E 0 Z)
def FL:O_ (QF×Qz):=cond h0 (j_ (Dn b i m0) λa=>Q (a.1,a.2))<|cond (m0.Do==6) (j_ (Ph b i) λd=>Q (d.1,d.2))<|j_ (YO i 1) λc=>Q (c.1,c.2)
def QcJ:O_ (QF×Qz):=j_ (Md i) λa=>j_ (SW b a) λg=>cond (!g) (j_ (YO a 1) λd=>Q (d.1,d.2))<|cond (m0.Do==1) (j_ (SZ b a m0) λe=>Q (e.1,e.2))<|cond (m0.Do==2) (FL b a m0 (m0.Do==2))<|cond (m0.Do==3) (FL b a m0 (m0.Do==3))<|cond (m0.Do==4) (FL b a m0 (m0.Do==4))<|FL b a m0 (m0.Do==5)
def QrZ {c e d}:CT 25 [.G Qi c,.G Xw e,.G Jl d] [] (QcJ c e d) (λr=>(.tup [.G Xw r.1,.G QM r.2])) no_:=
 W 52 func25 Z<|A 12 QiB Z λf=>A 7 QmS Z λl=>I 10 Z (A 3 Jv Z λg=>E 8 Z)<|I 16 Z (A 5 Qnb Z λh=>E 9 Z)<|mE_ 0 [3,4,5,6,7,21] [3,4,5,6,7] (λa:Bool=>([(30,.b a)],[])) (λa=>FL c f d a) Z (I 6 Z (P 1 Z Z)<|I 6 Z (P 1 Z Z)<|I 6 Z (P 1 Z Z)<|P 4 Z Z) λa=>I 0 Z (A 5 QoY Z λi=>E 9 Z)<|I 6 Z (A 4 Qo1 Z λj=>E 9 Z)<|A 6 Jv Z λk=>E 7 Z
def Ri (e:(L_ Xt))(g:Qc)(b:Int)(f:QF)(c:(L_ Qz)):O_ ((Int×QF×(L_ Qz))⊕(QF×(L_ Qz))):=cond (b<e.length) (j_ (idx e b) λd=>j_ (QcJ g f d) λa=>j_ (chk (c.length+([a.2]:L_ Qz).length<=4294967296)) λ_=>Q (y_ ((Qh (b+1)),a.1,(c++([a.2]:L_ Qz)))))<|Q (i_ (f,c))
def Qbe (c:(L_ Xt)):O_ ((L_ Qz)×QF):=j_ (Qq (λst=>Ri c b st.1 st.2.1 st.2.2) (0,i,([]:L_ Qz))) (λq=>Q (q.2,q.1))
def QqB {h i j}:CT 10 [.G Qi h,.G Xw i,.M 7 Jl j] [] (Qbe h i j) (λr=>(.tup [.G Xw r.2,.M 3 QM r.1])) no_:=
 W 35 func10 Z<|aD_ 20 8 29 3 Z<|lA_ 0 [2,3,4,6] [3,6] (λst=>([(8,.P 29 st.2.2),(9,.I st.1)],[(4,.W Xw st.2.1),(29,.R 3 QM st.2.2)])) [4,6] [6] (λq=>(.exit 0,([(8,.P 29 q.2)],[(4,.W Xw q.1),(29,.R 3 QM q.2)]))) Z (λ⟨o,k,p⟩=>N 5 Z<|I 3 Z (B λb e=>B λf g=>D 5 Z [.E (.G Qi h),.E (.G Xw k),.N,.N,.B (.row (Jl b)),.E (.G Jl b),.B (.C3 (.tup [.G Xw f.1,.G QM f.2])),.a .no n_ t_ t_,.N,.a .no n_ t_,.N,.N,.m .s,.m .s] [2,3,4,6,8,9] [3,4,6,29] [2,3,4,6,8,9,10,11] [3,4,6,10,11,29] Z Z (a5_ Z Z (XE e) Z (QrZ _ g)) Z<|pA_ 10 3 QM Z<|R 9 Z)<|X 2 Z) λ⟨l,n⟩=>zF_ 11 29 [7] [] Z<|E 0 Z
def Hp:O_ (Int⊕(Unit⊕Unit)):=cond (c<g.length) (j_ (idx g c) λd=>j_ (idx l0 c) λa=>cond (!((d.1==a.1)&&(d.2==a.2))) (Q (i_ (y_ ())))<|Q (y_ (Qh (c+1))))<|Q (i_ (i_ ()))
def Qfm : O_ Bool:=Q f_
def Qfn : O_ Bool:=Q t_
def ZA:O_ Bool:=cond ((g.length:Int)!=l0.length) (Q f_)<|j_ (Qq (λst=>Hp g l0 st) 0) (Sum.elim (λq=>Qfm) (λq=>Qfn))
def Qo2 {g h}:CT 53 [.M 2 QB g,.M 2 QB h] [] (ZA g h) V.b no_:=
 W 26 func53 Z<|N 9 Z<|N 1 Z<|I 3 Z (E 7 Z)<|F 9 [0,1] [] (λst=>([(5,.I st)],[])) [] [] (λq=>(.ret,([(4,.b f_)],[]))) [] [] (λq=>(.exit 0,([],[]))) Z (λk=>N 5 Z<|I 3 Z (B λe f=>B λc d=>Us 5 Z [.N,.N,.B (.row (QB e)),.N,.N,.N,.B (.row (QB c)),.N,.B (.any (.b (!((e.1==c.1)&&(e.2==c.2)))) n_)] [] [] [0,1,5,25] [] Z Z (λj=>(a3_ (XE f) (XE d) (λz i l _=>Qf.neAgg Z Z (QP j.n Z) (i _ _ Z) (i _ _ Z) Z Z (QyD _ _ _ _)))) Z<|I 1 Z (L 8 Z)<|R 8 Z)<|X 2 Z) (λ_=>E 2 Z) (λ_=>E 8 Z)
def Um:O_ (Int⊕(Unit⊕Unit)):=cond (d<e.length) (j_ (idx e d) λf=>j_ (idx d1 d) λb=>j_ (ZA f b) λc=>cond (!c) (Q (i_ (y_ ())))<|Q (y_ (Qh (d+1))))<|Q (i_ (i_ ()))
def ZT : O_ Bool:=Q f_
def ZU : O_ Bool:=Q t_
def Mt:O_ Bool:=cond ((e.length:Int)!=d1.length) (Q f_)<|j_ (Qq (λst=>Um e d1 st) 0) (Sum.elim (λq=>ZT) (λq=>ZU))
def QiF {j k}:CT 27 [.M 1 Qj j,.M 1 Qj k] [] (Mt j k) V.b no_:=
 W 27 func27 Z<|N 9 Z<|N 1 Z<|I 3 Z (E 7 Z)<|F 9 [0,1] [] (λst=>([(5,.I st)],[])) [] [] (λq=>(.ret,([(4,.b f_)],[]))) [] [] (λq=>(.exit 0,([],[]))) Z (λm=>N 5 Z<|I 3 Z (B λl g=>B λh e=>B λi f=>D 5 Z [.N,.N,.B (.row (Qj l)),.N,.N,.N,.B (.row (Qj h)),.N,.B (.C2 (.b i)),.N] [] [] [0,1,5,26] [] Z Z (a3_ (XE g) (XE e) (Qo2 _ f)) Z<|I 1 Z (L 8 Z)<|R 8 Z)<|X 2 Z) (λ_=>E 2 Z) (λ_=>E 8 Z)
def Qfo (b:Qd):O_ Bool:=cond (r.Task==b.Task) (j_ (Di r.Vars b.Vars) λd=>cond d (j_ (Di r.Ins b.Ins) λe=>cond e (j_ (Di r.Outs b.Outs) λc=>Q c)<|Q f_)<|Q f_)<|Q f_
def Qfp:O_ Bool:=Q m
def ZB (b:Qd):O_ Bool:=j_ (Qfo r b) (λc=>Qfp c)
def Qo3 {a c}:CT 100 [.G Qy a,.G Qy c] [] (ZB a c) V.b no_:=
 W 31 func100 Z<|mV_ 8 [] [] (λd=>([(4,.b d)],[])) Z (I 7 Z (A 4 EJ Z λf=>I 2 Z (A 4 EJ Z λg=>I 2 Z (A 4 EJ Z λe=>M 3 Z)<|M 8 Z)<|M 15 Z)<|M 22 Z) λd=>E 2 Z
def ZV:O_ Bool:=cond (p.Id==e4.Id) (cond ((p.Batch.Most==e4.Batch.Most)&&((p.Batch.Enough==e4.Batch.Enough)&&((p.Batch.Open==e4.Batch.Open)&&((p.Batch.Done==e4.Batch.Done)&&(p.Batch.Failed==e4.Batch.Failed))))) (cond (p.Until==e4.Until) (j_ (ZB p.Mode e4.Mode) λc=>Q c)<|Q f_)<|Q f_)<|Q f_
def ZW:O_ Bool:=Q m
def Mu:O_ Bool:=j_ (ZV p e4) (λc=>ZW c)
def QiG {a c}:CT 54 [.G Qt a,.G Qt c] [] (Mu a c) V.b no_:=
 W 31 func54 Z<|mV_ 8 [] [] (λd=>([(4,.b d)],[])) Z (I 7 Z (K [4,.o (.any (.b ((a.Batch.Most==c.Batch.Most)&&((a.Batch.Enough==c.Batch.Enough)&&((a.Batch.Open==c.Batch.Open)&&((a.Batch.Done==c.Batch.Done)&&(a.Batch.Failed==c.Batch.Failed)))))) n_),2] Z (λf=>(a1_ (λz e g _=>Qf.eqAgg Z Z (QP f.n Z) (e _ _ Z) (e _ _ Z) Z Z (QzV _ _ _ _ _ _ _ _ _ _))))<|I 0 Z (I 7 Z (A 4 Qo3 Z λh=>M 3 Z)<|M 8 Z)<|M 15 Z)<|M 22 Z) λd=>E 2 Z
def CN (e:(L_ Qm))(a:Int):O_ (Int⊕(Unit⊕Unit)):=cond (a<n.length) (j_ (idx n a) λf=>j_ (idx e a) λb=>j_ (Mu f b) λc=>cond (!c) (Q (i_ (y_ ())))<|Q (y_ (Qh (a+1))))<|Q (i_ (i_ ()))
def Qec : O_ Bool:=Q f_
def Qed : O_ Bool:=Q t_
def Ta (b:(L_ Qm)):O_ Bool:=cond ((n.length:Int)!=b.length) (Q f_)<|j_ (Qq (λst=>CN n b st) 0) (Sum.elim (λq=>Qec) (λq=>Qed))
def Qnc {j k}:CT 28 [.M 11 Qt j,.M 11 Qt k] [] (Ta j k) V.b no_:=
 W 29 func28 Z<|N 9 Z<|N 1 Z<|I 3 Z (E 7 Z)<|F 9 [0,1] [] (λst=>([(5,.I st)],[])) [] [] (λq=>(.ret,([(4,.b f_)],[]))) [] [] (λq=>(.exit 0,([],[]))) Z (λm=>N 5 Z<|I 3 Z (B λl g=>B λh e=>B λi f=>D 5 Z [.N,.N,.B (.row (Qt l)),.N,.N,.N,.B (.row (Qt h)),.N,.B (.C2 (.b i)),.N] [] [] [0,1,5,6] [] Z Z (a3_ (XE g) (XE e) (QiG _ f)) Z<|I 7 Z (L 8 Z)<|R 8 Z)<|X 2 Z) (λ_=>E 2 Z) (λ_=>E 8 Z)
def Qfq:O_ Bool:=cond (i.Next==l3.Next) (cond (i.Now==l3.Now) (j_ (Mt i.M l3.M) λd=>cond d (j_ (Ta i.Items l3.Items) λc=>Q c)<|Q f_)<|Q f_)<|Q f_
def Qfr:O_ Bool:=Q m
def Pi:O_ Bool:=j_ (Qfq i l3) (λc=>Qfr c)
def Qo4 {a c}:CT 12 [.G Xw a,.G Xw c] [] (Pi a c) V.b no_:=
 W 31 func12 Z<|mV_ 8 [] [] (λd=>([(4,.b d)],[])) Z (I 7 Z (I 7 Z (A 4 QiF Z λf=>I 2 Z (A 4 Qnc Z λe=>M 3 Z)<|M 8 Z)<|M 15 Z)<|M 22 Z) λd=>E 2 Z
def QbB (b:(L_ Qz))(a:Int)(c:(L_ Qz)):O_ Bool:=j_ (idx b a) λd=>j_ (idx c a) λe=>cond (d.Err != e.Err) (Q t_)<|j_ (idx b a) λf=>j_ (idx c a) λg=>cond (f.Id != g.Id) (Q t_)<|j_ (idx b a) λh=>j_ (idx c a) λi=>j_ (Di h.Closed i.Closed) λj=>Q (!j)
def Hq (b:(L_ Qz))(c:(L_ Qz))(a:Int):O_ (Int⊕(Unit⊕Unit)):=cond (a<b.length) (j_ (QbB b a c) (λd=>cond d (Q (i_ (y_ ())))<|Q (y_ (Qh (a+1)))))<|Q (i_ (i_ ()))
def Ov (a:(L_ Qz))(b:(L_ Qz)):O_ Bool:=cond ((a.length:Int)!=b.length) (Q f_)<|j_ (Qq (λst=>Hq a b st) 0) (Sum.elim (λq=>Q f_) (λq=>Q t_))
def QjI {v w}:CT 13 [.M 3 QM v,.M 3 QM w] [] (Ov v w) V.b no_:=
 W 55 func13 Z<|N 9 Z<|N 1 Z<|I 3 Z (E 7 Z)<|F 9 [0,1] [] (λst=>([(5,.I st)],[])) [] [] (λq=>(.ret,([(4,.b f_)],[]))) [] [] (λq=>(.exit 0,([],[]))) Z (λy=>N 5 Z<|I 3 Z (mV_ 5 [0,1,5] [] (λx=>([(54,.b x)],[])) Z (B λk f=>B λl g=>jF_ (λe=>D 0 Z (dz_ [(2,.B (.row (QM k))),(4,.B (.row (QM l))),(3,.E (.b t_)),(25,.N)]) [] [] [0,1,5,54] [] Z Z (a3_ (XE f) (XE g) (cb_ e)) Z<|M 0 Z) λe=>B λm i=>B λn j=>jF_ (λh=>D 0 Z (dz_ [(2,.B (.row (QM k))),(4,.B (.row (QM l))),(3,.E (.b f_)),(2,.B (.row (QM m))),(4,.B (.row (QM n))),(4,.E (.b t_)),(12,.N)]) [] [] [0,1,5,54] [] Z Z (a6_ (XE f) (XE g) (cb_ e) (XE i) (XE j) (cb_ h)) Z<|M 0 Z) λh=>B λs o=>B λt p=>B λu r=>D 0 Z (dz_ [(2,.B (.row (QM k))),(4,.B (.row (QM l))),(3,.E (.b f_)),(2,.B (.row (QM m))),(4,.B (.row (QM n))),(4,.E (.b f_)),(2,.B (.row (QM s))),(4,.B (.row (QM t))),(2,.B (.C2 (.b u))),(1,.N)]) [] [] [0,1,5,54] [] Z Z (a9_ (XE f) (XE g) (cb_ e) (XE i) (XE j) (cb_ h) (XE o) (XE p) (EJ _ r)) Z<|M 0 Z) λx=>I 1 Z (L 8 Z)<|R 8 Z)<|X 2 Z) (λ_=>E 2 Z) (λ_=>E 8 Z)
def Su (a:((L_ Qz)×QF))(b:((L_ Qz)×QF)):O_ Bool:=cond m (j_ (Pi a.2 b.2) λc=>cond c (j_ (Ov a.1 b.1) λd=>Q d)<|Q f_)<|Q f_
def Un (a:(L_ Xt)):O_ Bool:=
 j_ (QbO) λc=>
 j_ (An b 12) λj=>
 j_ (SO a) λk=>
 cond ((!j)||((!k)||(6<(a.length:Int)))) (Q c)<|j_ (Oi b 12 12) λd=>
 cond (!d.Full) (Q c)<|j_ (OM b) λe=>
 j_ (IR b e a) λf=>
 j_ (Qa7 b) λg=>
 j_ (Qbe b g a) λh=>
 j_ (Su c f h) (λi=>Q i)
def Qf9 {g p}:CT 3 [.G Qi g,.M 7 Jl p] [] (Un g p) V.b no_:=
 W 63 func3 Z<|A 8 Ql9 Z λy=>A 6 Qoy Z λt=>A 6 Qmn Z λu=>T 5 [1,2,5] [2] ([(28,.b ((!t)||((!u)||(6<(p.length:Int)))))],[]) Z (H 4 Z (λf=>Y 9 28 Z (Jf f Z)) λf=>H 4 Z (λe=>Y 5 28 Z (Xk f (Jf e Z))) λe=>N 1 Z<|Y 3 28 Z (Xk f (Xk e Z)))<|I 1 Z (E 8 Z)<|A 5 Qjw Z λv=>I 12 Z (E 8 Z)<|B λq h=>B λi j=>D 3 Z [.E (.G Qi g),.E (.G Qi g),.B (.C1 (.G Xw q)),.N,.B (.C3 (.tup [.G Xw i.2,.M 3 QM i.1])),.a .no n_ t_ t_,.N,.a .no n_ t_,.N,.m .s,.N] [1,2,5] [2] [1,2,5,9,10] [2,9] Z Z (a4_ Z Z (QeJ _ h) (VY _ j)) Z<|B λr k=>B λl n=>D 2 Z [.E (.G Qi g),.E (.G Qi g),.B (.C1 (.G Xw r)),.N,.B (.C3 (.tup [.G Xw l.2,.M 3 QM l.1])),.a .no n_ t_ t_,.N,.a .no n_ t_,.N,.m .s,.N] [1,2,5,9,10] [2,9] [5,9,10,11,12] [9,11] Z Z (a4_ Z Z (Qqk _ k) (QqB _ n)) Z<|mV_ 2 [] [] (λo=>([(4,.b o)],[])) Z (I 3 Z (A 2 Qo4 Z λw=>I 2 Z (A 2 QjI Z λx=>M 3 Z)<|M 6 Z)<|M 11 Z) λo=>E 2 Z
end Go.Proofs
