/- What functions of the program do, as functions over plain data, and the walks that show it: printed by a program. -/
import Derived.Test.YtpijolohkdchcaaGreatDoorR1T2
set_option linter.unusedVariables false
set_option linter.unusedSimpArgs false
set_option linter.unusedSectionVars false
set_option linter.deprecated false
set_option maxRecDepth 100000
set_option maxHeartbeats 4000000
noncomputable section
namespace Go.Proofs
open Go Go.RowKit Go.Vm Go.Proofs.Tryz
def Qkb (c:Int)(a:Bool)(b:QBg):Option ((Bool×Int×QBg)⊕(Bool×QBg)):=
 some (.inl (a,(w64 (c+1)),b))
def Qg7 (f:QBg)(d:Int)(g:Int)(a:Bool)(b:QBg):Option ((Bool×Int×QBg)⊕(Bool×QBg)):=
 (idx f d).bind fun e=>
 bif (e.1 != g)then
 (idx f d).bind fun c=>
 (chk (decide (b.length+([c]:List (Int×Int)).length<=4294967296))).bind fun _=>
 Qkb d a (b++([c]:List (Int×Int)))
 else
 Qkb d a b
def Qr2 (a:Bool)(c:QBg)(d:Int)(e:Int):Option Bool:=
 bif (!a)then
 (idx c d).bind fun b=>
 some (decide (e<=b.1))
 else
 some false
def Qg8 (b:QBg)(c:Int)(d:Int)(a:QBg):Option ((Bool×Int×QBg)⊕(Bool×QBg)):=
 Qg7 b c d true a
def Qkc (d:Int)(c:QBg)(b:Int)(e:QBg)(f:Int)(a:Bool)(g:Bool):Option ((Bool×Int×QBg)⊕(Bool×QBg)):=
 bif g then
 bif (decide (0<d))then
 (chk (decide (c.length+([(b,d)]:List (Int×Int)).length<=4294967296))).bind fun _=>
 Qg8 e f b (c++([(b,d)]:List (Int×Int)))
 else
 Qg8 e f b c
 else
 Qg7 e f b a c
def Qen (b:QBg)(e:Int)(g:Int)(a:Bool)(c:Int)(f:QBg):Option ((Bool×Int×QBg)⊕(Bool×QBg)):=
 bif (decide (c<(b.length:Int)))then
 (Qr2 a b c e).bind (fun d=>Qkc g f e b c a d)
 else
 some (.inr (a,f))
def Qkd (a:QBg):Option QBg:=
 some a
def Qg9 (c:Int)(d:Int)(a:Bool)(b:QBg):Option QBg:=
 bif ((!a)&&(decide (0<c)))then
 (chk (decide (b.length+([(d,c)]:List (Int×Int)).length<=4294967296))).bind fun _=>
 Qkd (b++([(d,c)]:List (Int×Int)))
 else
 Qkd b
def QkL (c:QBg)(a:Int)(b:Int):Option QBg:=
 (Qw (fun st=>Qen c a b st.1 st.2.1 st.2.2) (false,0,([]:List (Int×Int)))).bind (fun q=>Qg9 b a q.1 q.2)
theorem Qr3 (l f d){r}(h:QkL l f d=some r):Qc prog 152 [.sl 2 (l.map Qo),.I f,.I d] [] (Gives (.own 600 r.length) [(600,.arr 2 (r.map Qo))]):=by
 refine wk_ 62 func152 fun C a=>?_
 refine Qa a [22,.adopt 7 29 2,.O 29 (.arr 2 (([]:List (Int×Int)).map Qo)),.S 7 (.own 29 ([]:List (Int×Int)).length),.K [0,1,2,7,8,9] [29]] rfl (a2_ rfl (congrArg (fun n=>V.own 29 n) (by simp))) ?_
 obtain⟨Y,J,h⟩:=Qb h
 refine AK.loop (body:=(fun st=>Qen l f d st.1 st.2.1 st.2.2)) (fun st σ=>σ=⟨[(0,.sl 2 (l.map Qo)),(1,.I f),(2,.I d),(7,.own 29 st.2.2.length),(8,.b st.1),(9,.I st.2.1)],[(29,.arr 2 (st.2.2.map Qo))]⟩) (fun q e σ=>e=.exit 0/\σ=⟨[(1,.I f),(2,.I d),(7,.own 29 q.2.length),(8,.b q.1)],[(29,.arr 2 (q.2.map Qo))]⟩) J rfl ?_ ?_
 ·rintro ⟨k,A,H⟩ o σ rfl h
  refine Qa a [5,.o (.ln l.length),3] rfl (a1_ Qf) ?_
  refine bq_ a h [.T,2] rfl (fun p h=>?_) [.F,2,.K [1,2,7,8] [29]] rfl fun p h=>?_
  ·refine AK.meet (fun σ=>∃g:Bool,∃B:QBg,σ=⟨[(0,.sl 2 (l.map Qo)),(1,.I f),(2,.I d),(7,.own 29 B.length),(8,.b g),(9,.I A)],[(29,.arr 2 (B.map Qo))]⟩/\Qkb A g B=some o) ?_ ?_
   ·refine tg_ a [1] ?_
    refine AK.meet (fun σ=>∃i:Bool,∃m:QBg,σ=⟨[(0,.sl 2 (l.map Qo)),(1,.I f),(2,.I d),(7,.own 29 m.length),(8,.b i),(9,.I A)],[(29,.arr 2 (m.map Qo))]⟩/\Qg7 l A f i m=some o) ?_ ?_
    ·refine tg_ a [1] ?_
     obtain⟨G,L,h⟩:=Qb h
     replace h:Qkc d H f l A k G=some o:=h
     refine AK.meetX (fun σ=>σ=⟨[(0,.sl 2 (l.map Qo)),(1,.I f),(2,.I d),(7,.own 29 H.length),(8,.b k),(9,.I A),(26,.b G)],[(29,.arr 2 (H.map Qo))]⟩) ?_ ?_
     ·replace h:=L
      refine tg_ a [4] ?_
      rcases Qp h with⟨s,h⟩|⟨s,h⟩
      ·obtain⟨Z,M,h⟩:=Qb h
       refine Qa a [.S 18 (.b true),2,.o (.row (Qo Z)),6,.K [0,1,2,7,8,9,26] [29]] rfl ⟨(tc_ s),(QE M)⟩ ?_
       cases h
       exact mt_
      refine Qa a [.S 18 (.b false),9,.K [0,1,2,7,8,9,26] [29]] rfl (tc_ s) ?_
      cases h
      exact mt_
     rintro σ rfl
     replace h:Qkc d H f l A k G=some o:=h
     refine tg_ a [1] ?_
     refine bq_ a h [.T] rfl (fun t h=>?_) [.F,1,.K [0,1,2,7,8,9] [29]] rfl fun t h=>?_
     ·refine AK.meet (fun σ=>∃D:QBg,σ=⟨[(0,.sl 2 (l.map Qo)),(1,.I f),(2,.I d),(7,.own 29 D.length),(9,.I A)],[(29,.arr 2 (D.map Qo))]⟩/\Qg8 l A f D=some o) ?_ ?_
      ·refine tg_ a [6] ?_
       rcases Qp h with⟨u,h⟩|⟨u,h⟩
       ·obtain⟨N,h⟩:=Qao h
        refine Qa a [.T,4,.A (Qo (f,d)),.v (.bd []) [] (.sl 2 (([(f,d)]:List (Int×Int)).map Qo)),.app ((H++([(f,d)]:List (Int×Int))).map Qo) (H++([(f,d)]:List (Int×Int))).length,2,.K [0,1,2,7,9] [29]] rfl (a4_ u rfl rfl ⟨Qf,Qbk N Qf,Qap,QbG Qf⟩) ?_
        exact AK.met (ex_ _ (an_ rfl h))
       refine Qa a [.F,1,.K [0,1,2,7,9] [29]] rfl (a1_ u) ?_
       exact AK.met (ex_ _ (an_ rfl h))
      rintro σ ⟨D,rfl,h⟩
      unfold Qg8 at h
      refine tg_ a [3,.K [0,1,2,7,8,9] [29]] ?_
      exact AK.met (ex_ _ (ex_ _ (an_ rfl h)))
     exact AK.met (ex_ _ (ex_ _ (an_ rfl h)))
    rintro σ ⟨i,m,rfl,h⟩
    obtain⟨a0,P,h⟩:=Qb h
    refine Qa a [4,.o (.row (Qo a0)),6] rfl (a1_ (QE P)) ?_
    rcases Qp h with⟨w,h⟩|⟨w,h⟩
    ·obtain⟨x,U,h⟩:=Qb h
     obtain⟨W,h⟩:=Qao h
     refine Qa a [.T,4,.o (.row (Qo x)),.A (Qo x),.v (.bd []) [] (.sl 2 (([x]:List (Int×Int)).map Qo)),.app ((m++([x]:List (Int×Int))).map Qo) (m++([x]:List (Int×Int))).length,3,.K [0,1,2,7,8,9] [29]] rfl (a5_ w (QE U) rfl rfl ⟨Qf,Qbk W Qf,Qap,QbG Qf⟩) ?_
     exact AK.met (ex_ _ (ex_ _ (an_ rfl h)))
    refine Qa a [.F,2,.K [0,1,2,7,8,9] [29]] rfl (a1_ w) ?_
    exact AK.met (ex_ _ (ex_ _ (an_ rfl h)))
   rintro σ ⟨g,B,rfl,h⟩
   refine tg_ a [5,.K [0,1,2,7,8,9] [29]] ?_
   cases h
   exact QR rfl rfl
  cases h
  exact QT rfl (an_ rfl rfl)
 obtain⟨c,y⟩:=Y
 replace h:Qg9 d f c y=some r:=h
 unfold Qg9 at h
 rintro e σ ⟨rfl,rfl⟩
 refine tg_ a [2] ?_
 refine AK.meet (fun σ=>∃E:QBg,σ=⟨[(7,.own 29 E.length)],[(29,.arr 2 (E.map Qo))]⟩/\Qkd E=some r) ?_ ?_
 ·refine tg_ a [1] ?_
  refine AK.meetX (fun σ=>σ=⟨[(1,.I f),(2,.I d),(7,.own 29 y.length),(54,.b ((!c)&&(decide (0<d))))],[(29,.arr 2 (y.map Qo))]⟩) ?_ ?_
  ·refine tg_ a [4] ?_
   rcases QD (!c)with j | j
   ·refine Qa a [.S 51 (.b true),4,.S 54 (.b ((!c)&&(decide (0<d)))),.K [1,2,7,54] [29]] rfl ⟨(tc_ j),(congrArg V.b (Qai j rfl))⟩ ?_
    exact mt_
   refine Qa a [.S 51 (.b false),4,.S 54 (.b ((!c)&&(decide (0<d)))),.K [1,2,7,54] [29]] rfl ⟨(tc_ j),(congrArg V.b (QaS j rfl))⟩ ?_
   exact mt_
  rintro σ rfl
  refine tg_ a [1] ?_
  rcases Qp h with⟨z,h⟩|⟨z,h⟩
  ·obtain⟨X,h⟩:=Qao h
   refine Qa a [.T,4,.A (Qo (f,d)),.v (.bd []) [] (.sl 2 (([(f,d)]:List (Int×Int)).map Qo)),.app ((y++([(f,d)]:List (Int×Int))).map Qo) (y++([(f,d)]:List (Int×Int))).length,2,.K [7] [29]] rfl (a4_ z rfl rfl ⟨Qf,Qbk X Qf,Qap,QbG Qf⟩) ?_
   exact AK.met (ex_ _ (an_ rfl h))
  refine Qa a [.F,1,.K [7] [29]] rfl (a1_ z) ?_
  exact AK.met (ex_ _ (an_ rfl h))
 rintro σ ⟨E,rfl,h⟩
 refine tg_ a [7,.K [6] [29],.ren 29 600] ?_
 cases h
 exact d1_ r1_
def QsW (b:QBg)(c:QBg):Option Bool:=
 (Qc3 b).bind fun d=>
 bif (!d)then
 some true
 else
 (Qc3 c).bind fun a=>
 some (!a)
def QdZ (e:QBg)(a:Int)(b:QBg):Option ((Int×QBg)⊕(Unit⊕QBg)):=
 bif (decide (a<(e.length:Int)))then
 (idx e a).bind fun f=>
 (QgS b f.1).bind fun c=>
 (idx e a).bind fun d=>
 bif (decide (1048576<(w64 (c+d.2))))then
 some (.inr (.inl ()))
 else
 (idx e a).bind fun g=>
 (QkL b g.1 (w64 (c+d.2))).bind fun h=>
 some (.inl ((w64 (a+1)),h))
 else
 some (.inr (.inr b))
def QsX : Option (QBg×Int):=
 some (([]:List (Int×Int)),2)
def QsY (a:QBg):Option (QBg×Int):=
 some (a,0)
def Qlv (a:QBg)(b:QBg)(c:Bool):Option (QBg×Int):=
 bif c then
 some (([]:List (Int×Int)),1)
 else
 (chk (decide (([]:List (Int×Int)).length+a.length<=4294967296))).bind fun _=>
 (Qw (fun st=>QdZ b st.1 st.2) (0,(([]:List (Int×Int))++a))).bind (Sum.elim (fun q=>QsX) (fun q=>QsY q))
def Qhn (a:QBg)(b:QBg):Option (QBg×Int):=
 (QsW a b).bind (fun c=>Qlv a b c)
theorem QsZ (m l){r}(h:Qhn m l=some r):Qc prog 83 [.sl 2 (m.map Qo),.sl 2 (l.map Qo)] [] (Gives (.tup [.sl 2 (r.1.map Qo),.I r.2]) []):=by
 refine wk_ 50 func83 fun C f=>?_
 refine tg_ f [8] ?_
 obtain⟨D,E,h⟩:=Qb h
 replace h:Qlv m l D=some r:=h
 refine AK.meetX (fun σ=>σ=⟨[(0,.sl 2 (m.map Qo)),(1,.sl 2 (l.map Qo)),(16,.b D)],[]⟩) ?_ ?_
 ·replace h:=E
  obtain⟨W,G,h⟩:=Qb h
  refine Qa f [2,.o (.C1 (.b W)),2] rfl (a1_ (QdP _ G)) ?_
  rcases Qp h with⟨g,h⟩|⟨g,h⟩
  ·refine Qa f [.S 12 (.b true),5,.K [0,1,16] []] rfl (tc_ g) ?_
   cases h
   exact mt_
  obtain⟨H,p,h⟩:=Qb h
  refine Qa f [.S 12 (.b false),1,.o (.C1 (.b H)),3,.K [0,1,16] []] rfl ⟨(tc_ g),(QdP _ p)⟩ ?_
  cases h
  exact mt_
 rintro σ rfl
 replace h:Qlv m l D=some r:=h
 refine tg_ f [1] ?_
 rcases Qp h with⟨i,h⟩|⟨i,h⟩
 ·refine Qa f [.T,8,.denil 4 [some 2]] rfl (a1_ i) ?_
  cases h
  exact d2_ tt_
 obtain⟨s,h⟩:=Qao h
 refine Qa f [.F,5,.O 17 (.arr 2 (([]:List (Int×Int)).map Qo)),.S 17 (.own 17 ([]:List (Int×Int)).length),1,.app ((([]:List (Int×Int))++m).map Qo) (([]:List (Int×Int))++m).length,10,.ren 17 605,.K [1,6,7] [605]] rfl (a4_ i rfl rfl ⟨Qf,Qbk s Qf,Qap,QbG Qf⟩) ?_
 obtain⟨J,t,h⟩:=Qb h
 refine AK.loop (body:=(fun st=>QdZ l st.1 st.2)) (fun st σ=>σ=⟨[(1,.sl 2 (l.map Qo)),(6,.own 605 st.2.length),(7,.I st.1)],[(605,.arr 2 (st.2.map Qo))]⟩) (Sum.elim (fun q e σ=>e=.ret/\σ=⟨[(4,.lit (.slice none 0 0)),(5,.I 2)],[]⟩) (fun q e σ=>e=.exit 0/\σ=⟨[(6,.own 605 q.length)],[(605,.arr 2 (q.map Qo))]⟩)) t rfl ?_ ?_
 ·rintro ⟨X,u⟩ o σ rfl h
  refine Qa f [5,.o (.ln l.length),3] rfl (a1_ Qf) ?_
  rcases Qp h with⟨j,h⟩|⟨j,h⟩
  ·obtain⟨L,v,h⟩:=Qb h
   obtain⟨M,w,h⟩:=Qb h
   obtain⟨P,x,h⟩:=Qb h
   refine Qa f [.T,5,.K [1,6,7] [605]] rfl (a1_ j) ?_
   refine AK.draw2 Qr f mixed [.N,.N,.N,.a (.row (Qo L)) none false,.N,.N,.a (.c true [.o (u.map Qo),.d] (.I M)) none false,.N,.N,.a (.row (Qo P)) none false,.N,.N,.N,.N] [] [] [1,6,7,8] [605] rfl rfl rfl ⟨⟨⟨tt_,(QE v)⟩,⟨(Qv7 rfl),(QmJ _ _ w)⟩⟩,(QE x)⟩ rfl (by kernel_rfl) rfl rfl rfl ?_
   refine tg_ f [8] ?_
   rcases Qp h with⟨k,h⟩|⟨k,h⟩
   ·refine Qa f [.T,10,.K [4,5] []] rfl (a1_ k) ?_
    cases h
    exact Q6 rfl (an_ rfl rfl)
   obtain⟨U,y,h⟩:=Qb h
   obtain⟨z,A,h⟩:=Qb h
   refine Qa f [.F,6,.o (.row (Qo U)),3,.frz 605 (u.map Qo) [6,41] [],.o (.co false [.d,.d,.d] 2 (z.map Qo) z.length),9,.ren 48 605,.K [1,6,7] [605]] rfl (a4_ k (QE y) (a2_ (Qcd Qf) (Qcd Qf)) ⟨(Qr3 _ _ _ A),Qf,.inl rfl⟩) ?_
   cases h
   exact QR rfl rfl
  refine Qa f [.F,2,.K [6] [605]] rfl (a1_ j) ?_
  cases h
  exact QT rfl (an_ rfl rfl)
 rcases J with(_ | B)
 ·replace h:QsX=some r:=h
  rintro e σ ⟨rfl,rfl⟩
  refine tg_ f [2,.denil 4 [some 2]] ?_
  cases h
  exact d2_ tt_
 replace h:QsY B=some r:=h
 rintro e σ ⟨rfl,rfl⟩
 refine Qa f [10,.frz 605 (B.map Qo) [4] []] rfl (a1_ (a1_ (Qcd Qf))) ?_
 cases h
 exact d2_ tt_
def QfB (a:(List Int))(j:(List Qas))(h:(List Int))(k:Qq)(e:Int)(c:QMk):Option ((Int×QMk)⊕(Int⊕QMk)):=
 bif (decide (e<(a.length:Int)))then
 (idx a e).bind fun d=>
 bif ((decide (d<0))||(decide ((j.length:Int)<=d)))then
 some (.inr (.inl 11))
 else
 (idx j d).bind fun l=>
 (QkG l.Expr h).bind fun f=>
 bif (f.2 != 0)then
 some (.inr (.inl f.2))
 else
 (idx j d).bind fun b=>
 bif ((decide (b.Place<0))||(decide ((k.Places.length:Int)<=b.Place)))then
 some (.inr (.inl 3))
 else
 (idx k.Places b.Place).bind fun m=>
 (Qlu k.Colours m.Colour f.1).bind fun i=>
 bif (!i.2)then
 some (.inr (.inl 8))
 else
 (idx c b.Place).bind fun n=>
 (Qhn n ([(i.1,1)]:List (Int×Int))).bind fun g=>
 bif (g.2 != 0)then
 some (.inr (.inl g.2))
 else
 (idx c b.Place).bind fun o=>
 some (.inl ((w64 (e+1)),(c.set b.Place.toNat g.1)))
 else
 some (.inr (.inr c))
def Qpq (a:Int):Option (QMk×Int):=
 some (([]:List QBg),a)
def Qpr (a:QMk):Option (QMk×Int):=
 some (a,0)
def QeW (b:Qq)(d:(List Qas))(a:(List Int))(c:(List Int)):Option (QMk×Int):=
 (chk (decide (0<=(b.Places.length:Int))&&decide ((b.Places.length:Int)<=(b.Places.length:Int))&&decide ((b.Places.length:Int)<=4294967296))).bind fun _=>
 (Qw (fun st=>QfB a d c b st.1 st.2) (0,(List.replicate (b.Places.length:Int).toNat (([]:QBg):QBg)))).bind (Sum.elim (fun q=>Qpq q) (fun q=>Qpr q))
theorem QlM (s D g k){r}(h:QeW s D g k=some r):Qc prog 81 [.agg (Qd s),.sl 4 (D.map Q5),.sl 1 (g.map Qe),.sl 1 (k.map Qe)] [] (Gives (.tup [.sl 1 (r.1.map Qg),.I r.2]) []):=by
 refine wk_ 103 func81 fun C i=>?_
 obtain⟨a3,h⟩:=Qao h
 refine Qa i [11,.o (.ln s.Places.length),.o (.rows (List.replicate (s.Places.length:Int).toNat [.lit (.slice none 0 0)]))] rfl (a2_ Qf ⟨a3,rfl⟩) ?_
 refine AK.denilA (b:=23) [some 2] rfl (Qx3 (f:=Qg) (x:=([]:QBg)) rfl) ?_
 refine Qa i [.S 23 (.own 23 (List.replicate (s.Places.length:Int).toNat (([]:QBg):QBg)).length),10,.K [1,2,3,4,10,11] [4,23]] rfl (a1_ (by simp)) ?_
 obtain⟨a4,M,h⟩:=Qb h
 refine AK.loop (body:=(fun st=>QfB g D k s st.1 st.2)) (fun st σ=>σ=⟨[(1,.sl 4 (D.map Q5)),(2,.sl 1 (g.map Qe)),(3,.sl 1 (k.map Qe)),lk_ 4,(10,.own 23 st.2.length),(11,.I st.1)],[(4,.var (Qd s)),(23,.arr 1 (st.2.map Qg))]⟩) (Sum.elim (fun q e σ=>e=.ret/\σ=⟨[(8,.lit (.slice none 0 0)),(9,.I q)],[]⟩) (fun q e σ=>e=.exit 0/\σ=⟨[(10,.own 23 q.length)],[(23,.arr 1 (q.map Qg))]⟩)) M rfl ?_ ?_
 ·rintro ⟨O,t⟩ o σ rfl h
  refine Qa i [5,.o (.ln g.length),3] rfl (a1_ Qf) ?_
  rcases Qp h with⟨u,h⟩|⟨u,h⟩
  ·obtain⟨l,P,h⟩:=Qb h
   refine Qa i [.T,8,.o (.row (Qe l)),6] rfl (a2_ u (QE P)) ?_
   refine AK.meetX (fun σ=>σ=⟨[(1,.sl 4 (D.map Q5)),(2,.sl 1 (g.map Qe)),(3,.sl 1 (k.map Qe)),lk_ 4,(10,.own 23 t.length),(11,.I O),(12,.I l),(41,.b ((decide (l<0))||(decide ((D.length:Int)<=l))))],[(4,.var (Qd s)),(23,.arr 1 (t.map Qg))]⟩) ?_ ?_
   ·refine tg_ i [4] ?_
    rcases QD (decide (l<0))with m | m
    ·refine Qa i [.S 36 (.b true),6,.S 41 (.b ((decide (l<0))||(decide ((D.length:Int)<=l)))),.K [1,2,3,4,10,11,12,41] [4,23]] rfl ⟨(tc_ m),(congrArg V.b (orT m rfl))⟩ ?_
     exact mt_
    refine Qa i [.S 36 (.b false),2,.o (.ln D.length),3,.S 41 (.b ((decide (l<0))||(decide ((D.length:Int)<=l)))),.K [1,2,3,4,10,11,12,41] [4,23]] rfl ⟨⟨(tc_ m),Qf⟩,(congrArg V.b (orF m rfl))⟩ ?_
    exact mt_
   rintro σ rfl
   refine tg_ i [1] ?_
   rcases Qp h with⟨w,h⟩|⟨w,h⟩
   ·refine Qa i [.T,10,.K [8,9] []] rfl (a1_ w) ?_
    cases h
    exact Q6 rfl (an_ rfl rfl)
   obtain⟨U,W,h⟩:=Qb h
   obtain⟨L,X,h⟩:=Qb h
   refine Qa i [.F,6,.o (.row (Q5 U)),1,.A (Qn U.Expr),1,.o (.C2 (.tup [.I L.1,.I L.2])),14] rfl (a4_ w (QE W) rfl (QrY _ _ X)) ?_
   rcases Qp h with⟨y,h⟩|⟨y,h⟩
   ·refine Qa i [.T,11,.K [8,9] []] rfl (a1_ y) ?_
    cases h
    exact Q6 rfl (an_ rfl rfl)
   obtain⟨j,Y,h⟩:=Qb h
   refine Qa i [.F,6,.o (.row (Q5 j)),7] rfl (a2_ y (QE Y)) ?_
   refine AK.meetX (fun σ=>σ=⟨[(1,.sl 4 (D.map Q5)),(2,.sl 1 (g.map Qe)),(3,.sl 1 (k.map Qe)),lk_ 4,(10,.own 23 t.length),(11,.I O),(13,.I L.1),(15,.I j.Place),(68,.b ((decide (j.Place<0))||(decide ((s.Places.length:Int)<=j.Place))))],[(4,.var (Qd s)),(23,.arr 1 (t.map Qg))]⟩) ?_ ?_
   ·refine tg_ i [4] ?_
    rcases QD (decide (j.Place<0))with p | p
    ·refine Qa i [.S 62 (.b true),7,.S 68 (.b ((decide (j.Place<0))||(decide ((s.Places.length:Int)<=j.Place)))),.K [1,2,3,4,10,11,13,15,68] [4,23]] rfl ⟨(tc_ p),(congrArg V.b (orT p rfl))⟩ ?_
     exact mt_
    refine Qa i [.S 62 (.b false),3,.o (.ln s.Places.length),3,.S 68 (.b ((decide (j.Place<0))||(decide ((s.Places.length:Int)<=j.Place)))),.K [1,2,3,4,10,11,13,15,68] [4,23]] rfl ⟨⟨(tc_ p),Qf⟩,(congrArg V.b (orF p rfl))⟩ ?_
    exact mt_
   rintro σ rfl
   refine tg_ i [1] ?_
   rcases Qp h with⟨z,h⟩|⟨z,h⟩
   ·refine Qa i [.T,10,.K [8,9] []] rfl (a1_ z) ?_
    cases h
    exact Q6 rfl (an_ rfl rfl)
   obtain⟨a5,Z,h⟩:=Qb h
   obtain⟨E,a0,h⟩:=Qb h
   refine Qa i [.F,3,.K [1,2,3,4,10,11,13,15] [4,23]] rfl (a1_ z) ?_
   refine AK.draw2 Qr i mixed [.N,.N,.N,.N,.N,.a (.row (QC a5)) none false,.N,.N,.N,.a (.C3 (.tup [.I E.1,.b E.2])) none false,.N,.N,.N,.N,.N] [] [] [1,2,3,4,10,11,15,16,17] [4,23] rfl rfl rfl ⟨⟨tt_,(QE Z)⟩,(Qwz _ _ _ a0)⟩ rfl (by kernel_rfl) rfl rfl rfl ?_
   refine tg_ i [8] ?_
   rcases Qp h with⟨A,h⟩|⟨A,h⟩
   ·refine Qa i [.T,10,.K [8,9] []] rfl (a1_ A) ?_
    cases h
    exact Q6 rfl (an_ rfl rfl)
   obtain⟨a6,H,h⟩:=Qb h
   obtain⟨G,a1,h⟩:=Qb h
   refine Qa i [.F,7,.o (.row (Qg a6)),1,.A (Qo (E.1,1)),.v (.bd []) [] (.sl 2 (([(E.1,1)]:List (Int×Int)).map Qo)),.o (.C2 (.tup [.sl 2 (G.1.map Qo),.I G.2])),14] rfl (a6_ A (QbW H rfl) (QaN (Qby H).2) rfl rfl (QsZ _ _ a1)) ?_
   rcases Qp h with⟨B,h⟩|⟨B,h⟩
   ·refine Qa i [.T,11,.K [8,9] []] rfl (a1_ B) ?_
    cases h
    exact Q6 rfl (an_ rfl rfl)
   obtain⟨a7,J,h⟩:=Qb h
   refine Qa i [.F,7,.st (Qg a7) ((t.set j.Place.toNat G.1).map Qg),8,.S 10 (.own 23 (t.set j.Place.toNat G.1).length),.K [1,2,3,4,10,11] [4,23]] rfl (a4_ B (QbW J rfl) ⟨(QaN (Qby J).2),QhQ rfl⟩ (congrArg (fun n=>V.own 23 n) (by simp))) ?_
   cases h
   exact QR rfl rfl
  refine Qa i [.F,2,.K [10] [23]] rfl (a1_ u) ?_
  cases h
  exact QT rfl (an_ rfl rfl)
 rcases a4 with(a8 | a2)
 ·replace h:Qpq a8=some r:=h
  rintro e σ ⟨rfl,rfl⟩
  refine tg_ i [2,.denil 8 [some 1]] ?_
  cases h
  exact d2_ tt_
 replace h:Qpr a2=some r:=h
 rintro e σ ⟨rfl,rfl⟩
 refine Qa i [10,.frz 23 (a2.map Qg) [8] []] rfl (a1_ (a1_ (Qcd Qf))) ?_
 cases h
 exact d2_ tt_
def Qi6 (c:Qq)(b:Qh):Option (QMk×Int):=
 (Qji c b.Task b.Vars).bind fun d=>
 bif (d.2 != 0)then
 some (([]:List QBg),d.2)
 else
 (idx c.Tasks b.Task).bind fun e=>
 (QeW c e.Ins b.Ins d.1).bind fun a=>
 some (a.1,a.2)
theorem QqR (i l){r}(h:Qi6 i l=some r):Qc prog 38 [.agg (Qd i),.agg (Qi l)] [] (Gives (.tup [.sl 1 (r.1.map Qg),.I r.2]) []):=by
 refine wk_ 34 func38 fun C e=>?_
 obtain⟨p,j,h⟩:=Qb h
 refine Qa e [10,.A (Qd i),4,.o (.C3 (.tup [.sl 1 (p.1.map Qe),.I p.2])),14] rfl (a2_ rfl (Qn1 _ _ _ j)) ?_
 rcases Qp h with⟨b,h⟩|⟨b,h⟩
 ·refine Qa e [.T,9,.denil 4 [some 1]] rfl (a1_ b) ?_
  cases h
  exact d2_ tt_
 obtain⟨q,k,h⟩:=Qb h
 obtain⟨f,g,h⟩:=Qb h
 refine Qa e [.F,3,.K [2,3,4,5,6] [2,3]] rfl (a1_ b) ?_
 refine AK.draw2 Qr e mixed [.a .no (some ([],.agg (Qd i))) false,.N,.N,.N,.N,.a (.row (Qm q)) none false,.N,.N,.N,.N,.N,.a (.C4 (.tup [.sl 1 (f.1.map Qg),.I f.2])) none false,.N,.N,.m .s,.m .s] [] [] [4,5] [] rfl rfl rfl ⟨⟨⟨tt_,rfl⟩,(QE k)⟩,(QlM _ _ _ _ g)⟩ rfl (by kernel_rfl) rfl rfl rfl ?_
 refine tg_ e [2] ?_
 cases h
 exact d2_ tt_
def Qps (a:QBg)(b:QBg):Option Bool:=
 (Qc3 a).bind fun c=>
 bif (!c)then
 some true
 else
 (Qc3 b).bind fun d=>
 some (!d)
def Qdj (b:QBg)(f:QBg)(a:Int):Option (Int⊕(Unit⊕Unit)):=
 bif (decide (a<(b.length:Int)))then
 (idx b a).bind fun c=>
 (idx b a).bind fun d=>
 (QgS f d.1).bind fun e=>
 bif (decide (e<c.2))then
 some (.inr (.inl ()))
 else
 some (.inl (w64 (a+1)))
 else
 some (.inr (.inr ()))
def Qpt : Option Bool:=
 some false
def Qpu : Option Bool:=
 some true
def QhJ (a:QBg)(b:QBg)(c:Bool):Option Bool:=
 bif c then
 some false
 else
 (Qw (fun st=>Qdj a b st) 0).bind (Sum.elim (fun q=>Qpt) (fun q=>Qpu))
def Qia (a:QBg)(b:QBg):Option Bool:=
 (Qps a b).bind (fun c=>QhJ a b c)
theorem Qpv (k l){r}(h:Qia k l=some r):Qc prog 148 [.sl 2 (k.map Qo),.sl 2 (l.map Qo)] [] (Gives (.b r) []):=by
 refine wk_ 33 func148 fun C f=>?_
 refine tg_ f [7] ?_
 obtain⟨v,w,h⟩:=Qb h
 replace h:QhJ k l v=some r:=h
 refine AK.meetX (fun σ=>σ=⟨[(0,.sl 2 (k.map Qo)),(1,.sl 2 (l.map Qo)),(13,.b v)],[]⟩) ?_ ?_
 ·replace h:=w
  obtain⟨E,x,h⟩:=Qb h
  refine Qa f [2,.o (.C1 (.b E)),2] rfl (a1_ (QdP _ x)) ?_
  rcases Qp h with⟨m,h⟩|⟨m,h⟩
  ·refine Qa f [.S 9 (.b true),5,.K [0,1,13] []] rfl (tc_ m) ?_
   cases h
   exact mt_
  obtain⟨G,y,h⟩:=Qb h
  refine Qa f [.S 9 (.b false),1,.o (.C1 (.b G)),3,.K [0,1,13] []] rfl ⟨(tc_ m),(QdP _ y)⟩ ?_
  cases h
  exact mt_
 rintro σ rfl
 replace h:QhJ k l v=some r:=h
 refine tg_ f [1] ?_
 refine bq_ f h [.T,7,.K [4] []] rfl (fun g h=>?_) [.F,9,.K [0,1,5] []] rfl fun g h=>?_
 ·cases h
  exact d1_ tt_
 obtain⟨z,p,h⟩:=Qb h
 refine AK.loop (body:=(fun st=>Qdj k l st)) (fun st σ=>σ=⟨[(0,.sl 2 (k.map Qo)),(1,.sl 2 (l.map Qo)),(5,.I st)],[]⟩) (Sum.elim (fun q e σ=>e=.ret/\σ=⟨[(4,.b false)],[]⟩) (fun q e σ=>e=.exit 0/\σ=⟨[],[]⟩)) p rfl ?_ ?_
 ·rintro H o σ rfl h
  refine Qa f [5,.o (.ln k.length),3] rfl (a1_ Qf) ?_
  rcases Qp h with⟨i,h⟩|⟨i,h⟩
  ·obtain⟨A,s,h⟩:=Qb h
   obtain⟨B,t,h⟩:=Qb h
   obtain⟨D,u,h⟩:=Qb h
   refine Qa f [.T,5,.K [0,1,5] []] rfl (a1_ i) ?_
   refine AK.draw2 Qr f mixed [.N,.N,.a (.row (Qo A)) none false,.N,.N,.N,.N,.N,.a (.row (Qo B)) none false,.N,.N,.a (.C2 (.I D)) none false,.N] [] [] [0,1,5,32] [] rfl rfl rfl ⟨⟨⟨tt_,(QE s)⟩,(QE t)⟩,(QmJ _ _ u)⟩ rfl (by kernel_rfl) rfl rfl rfl ?_
   refine tg_ f [1] ?_
   refine bq_ f h [.T,8,.K [4] []] rfl (fun j h=>?_) [.F,8,.K [0,1,5] []] rfl fun j h=>?_
   ·cases h
    exact Q6 rfl (an_ rfl rfl)
   cases h
   exact QR rfl rfl
  refine Qa f [.F,2,.K [] []] rfl (a1_ i) ?_
  cases h
  exact QT rfl (an_ rfl rfl)
 rcases z with(_ | _)
 ·replace h:Qpt=some r:=h
  rintro e σ ⟨rfl,rfl⟩
  refine tg_ f [2] ?_
  cases h
  exact d1_ tt_
 replace h:Qpu=some r:=h
 rintro e σ ⟨rfl,rfl⟩
 refine tg_ f [8] ?_
 cases h
 exact d1_ tt_
def QhK (d:QMk)(e:QMk)(a:Int):Option (Int⊕(Unit⊕Unit)):=
 bif (decide (a<(d.length:Int)))then
 (idx d a).bind fun f=>
 (idx e a).bind fun b=>
 (Qia f b).bind fun c=>
 bif (!c)then
 some (.inr (.inl ()))
 else
 some (.inl (w64 (a+1)))
 else
 some (.inr (.inr ()))
def Qpw : Option Bool:=
 some false
def Qpx : Option Bool:=
 some true
def Qib (a:QMk)(b:QMk):Option Bool:=
 bif ((a.length:Int) != (b.length:Int))then
 some false
 else
 (Qw (fun st=>QhK a b st) 0).bind (Sum.elim (fun q=>Qpw) (fun q=>Qpx))
theorem Qpy (k l){r}(h:Qib k l=some r):Qc prog 79 [.sl 1 (k.map Qg),.sl 1 (l.map Qg)] [] (Gives (.b r) []):=by
 refine wk_ 29 func79 fun C f=>?_
 refine Qa f [9,.o (.ln k.length),1,.o (.ln l.length),3] rfl (a2_ Qf Qf) ?_
 refine bq_ f h [.T,7,.K [4] []] rfl (fun i h=>?_) [.F,9,.K [0,1,5] []] rfl fun i h=>?_
 ·cases h
  exact d1_ tt_
 obtain⟨t,m,h⟩:=Qb h
 refine AK.loop (body:=(fun st=>QhK k l st)) (fun st σ=>σ=⟨[(0,.sl 1 (k.map Qg)),(1,.sl 1 (l.map Qg)),(5,.I st)],[]⟩) (Sum.elim (fun q e σ=>e=.ret/\σ=⟨[(4,.b false)],[]⟩) (fun q e σ=>e=.exit 0/\σ=⟨[],[]⟩)) m rfl ?_ ?_
 ·rintro y o σ rfl h
  refine Qa f [5,.o (.ln k.length),3] rfl (a1_ Qf) ?_
  rcases Qp h with⟨j,h⟩|⟨j,h⟩
  ·obtain⟨x,u,h⟩:=Qb h
   obtain⟨v,p,h⟩:=Qb h
   obtain⟨w,s,h⟩:=Qb h
   refine Qa f [.T,5,.K [0,1,5] []] rfl (a1_ j) ?_
   refine AK.draw2 Qr f mixed [.N,.N,.a (.row (Qg x)) none false,.N,.N,.N,.a (.row (Qg v)) none false,.N,.a (.C2 (.b w)) none false,.N] [] [] [0,1,5,6] [] rfl rfl rfl ⟨⟨⟨tt_,(QE u)⟩,(QE p)⟩,(Qpv _ _ s)⟩ rfl (by kernel_rfl) rfl rfl rfl ?_
   refine tg_ f [7] ?_
   refine bq_ f h [.T,8,.K [4] []] rfl (fun g h=>?_) [.F,8,.K [0,1,5] []] rfl fun g h=>?_
   ·cases h
    exact Q6 rfl (an_ rfl rfl)
   cases h
   exact QR rfl rfl
  refine Qa f [.F,2,.K [] []] rfl (a1_ j) ?_
  cases h
  exact QT rfl (an_ rfl rfl)
 rcases t with(_ | _)
 ·replace h:Qpw=some r:=h
  rintro e σ ⟨rfl,rfl⟩
  refine tg_ f [2] ?_
  cases h
  exact d1_ tt_
 replace h:Qpx=some r:=h
 rintro e σ ⟨rfl,rfl⟩
 refine tg_ f [8] ?_
 cases h
 exact d1_ tt_
def Qft (b:(List Int))(c:Int)(a:Int):Option (Int⊕(Unit⊕Unit)):=
 bif (decide (a<(b.length:Int)))then
 (idx b a).bind fun d=>
 bif (d==c)then
 some (.inr (.inl ()))
 else
 some (.inl (w64 (a+1)))
 else
 some (.inr (.inr ()))
def Quw : Option Bool:=
 some true
def Qux : Option Bool:=
 some false
def QpT (a:(List Int))(b:Int):Option Bool:=
 (Qw (fun st=>Qft a b st) 0).bind (Sum.elim (fun q=>Quw) (fun q=>Qux))
theorem Qz4 (f i){r}(h:QpT f i=some r):Qc prog 80 [.sl 1 (f.map Qe),.I i] [] (Gives (.b r) []):=by
 refine wk_ 18 func80 fun C a=>?_
 refine tg_ a [12,.K [0,1,5] []] ?_
 obtain⟨j,g,h⟩:=Qb h
 refine AK.loop (body:=(fun st=>Qft f i st)) (fun st σ=>σ=⟨[(0,.sl 1 (f.map Qe)),(1,.I i),(5,.I st)],[]⟩) (Sum.elim (fun q e σ=>e=.ret/\σ=⟨[(4,.b true)],[]⟩) (fun q e σ=>e=.exit 0/\σ=⟨[],[]⟩)) g rfl ?_ ?_
 ·rintro m o σ rfl h
  refine Qa a [5,.o (.ln f.length),3] rfl (a1_ Qf) ?_
  rcases Qp h with⟨c,h⟩|⟨c,h⟩
  ·obtain⟨l,k,h⟩:=Qb h
   refine Qa a [.T,8,.o (.row (Qe l)),5] rfl (a2_ c (QE k)) ?_
   refine bq_ a h [.T,8,.K [4] []] rfl (fun d h=>?_) [.F,8,.K [0,1,5] []] rfl fun d h=>?_
   ·cases h
    exact Q6 rfl (an_ rfl rfl)
   cases h
   exact QR rfl rfl
  refine Qa a [.F,2,.K [] []] rfl (a1_ c) ?_
  cases h
  exact QT rfl (an_ rfl rfl)
 rcases j with(_ | _)
 ·replace h:Quw=some r:=h
  rintro e σ ⟨rfl,rfl⟩
  refine tg_ a [2] ?_
  cases h
  exact d1_ tt_
 replace h:Qux=some r:=h
 rintro e σ ⟨rfl,rfl⟩
 refine tg_ a [8] ?_
 cases h
 exact d1_ tt_
def Qzj (at_4:Int)(b:(List Int))(c:Int):Option Bool:=
 bif (decide (at_4<(b.length:Int)))then
 (idx b at_4).bind fun a=>
 some (decide (a<c))
 else
 some false
def Qn4 (at_4:Int)(a:Bool):Option (Int⊕Int):=
 bif a then
 some (.inl (w64 (at_4+1)))
 else
 some (.inr at_4)
def Qs0 (a:(List Int))(b:Int)(at_4:Int):Option (Int⊕Int):=
 (Qzj at_4 a b).bind (fun c=>Qn4 at_4 c)
def Qs1 (a:(List Int))(b:Int)(at_6:Int):Option (List Int):=
 (chk (decide (0<=at_6)&&decide (0<=at_6.toNat)&&decide (at_6.toNat<=a.length))).bind fun _=>
 (chk (decide (([]:List Int).length+((a.drop 0).take (at_6.toNat-0)).length<=4294967296))).bind fun _=>
 (chk (decide ((([]:List Int)++((a.drop 0).take (at_6.toNat-0))).length+([b]:List Int).length<=4294967296))).bind fun _=>
 (chk (decide (0<=at_6)&&decide (at_6.toNat<=a.length)&&decide (a.length<=a.length))).bind fun _=>
 (chk (decide (((([]:List Int)++((a.drop 0).take (at_6.toNat-0)))++[b]).length+((a.drop at_6.toNat).take (a.length-at_6.toNat)).length<=4294967296))).bind fun _=>
 some (((([]:List Int)++((a.drop 0).take (at_6.toNat-0)))++[b])++((a.drop at_6.toNat).take (a.length-at_6.toNat)))
def Qoo (a:(List Int))(b:Int):Option (List Int):=
 (Qw (fun st=>Qs0 a b st) 0).bind (fun q=>Qs1 a b q)
theorem Qzk (c g){r}(h:Qoo c g=some r):Qc prog 82 [.sl 1 (c.map Qe),.I g] [] (Gives (.own 600 r.length) [(600,.arr 1 (r.map Qe))]):=by
 refine wk_ 32 func82 fun C d=>?_
 refine tg_ d [12,.K [0,1,5] []] ?_
 obtain⟨at_6,s,h⟩:=Qb h
 refine AK.loop (body:=(fun st=>Qs0 c g st)) (fun st σ=>σ=⟨[(0,.sl 1 (c.map Qe)),(1,.I g),(5,.I st)],[]⟩) (fun q e σ=>e=.exit 0/\σ=⟨[(0,.sl 1 (c.map Qe)),(1,.I g),(5,.I q)],[]⟩) s rfl ?_ ?_
 ·rintro at_4 o σ rfl h
  refine tg_ d [2] ?_
  obtain⟨y,z,h⟩:=Qb h
  replace h:Qn4 at_4 y=some o:=h
  refine AK.meetX (fun σ=>σ=⟨[(0,.sl 1 (c.map Qe)),(1,.I g),(5,.I at_4),(17,.b y)],[]⟩) ?_ ?_
  ·replace h:=z
   refine Qa d [3,.o (.ln c.length),2] rfl (a1_ Qf) ?_
   rcases Qp h with⟨p,h⟩|⟨p,h⟩
   ·obtain⟨A,t,h⟩:=Qb h
    refine Qa d [.S 10 (.b true),2,.o (.row (Qe A)),5,.K [0,1,5,17] []] rfl ⟨(tc_ p),(QE t)⟩ ?_
    cases h
    exact mt_
   refine Qa d [.S 10 (.b false),8,.K [0,1,5,17] []] rfl (tc_ p) ?_
   cases h
   exact mt_
  rintro σ rfl
  replace h:Qn4 at_4 y=some o:=h
  refine tg_ d [1] ?_
  refine bq_ d h [.T,9,.K [0,1,5] []] rfl (fun i h=>?_) [.F,2,.K [0,1,5] []] rfl fun i h=>?_
  ·cases h
   exact QR rfl rfl
  cases h
  exact QT rfl (an_ rfl rfl)
 replace h:Qs1 c g at_6=some r:=h
 rintro e σ ⟨rfl,rfl⟩
 obtain⟨j,h⟩:=Qao h
 obtain⟨u,h⟩:=Qao h
 obtain⟨v,h⟩:=Qao h
 obtain⟨k,h⟩:=Qao h
 obtain⟨w,h⟩:=Qao h
 refine tg_ d [3,.K [0,1,5] []] ?_
 refine AK.draw2 Qr d mixed [.N,.N,.N,.a (.any (.sl 1 (((c.drop 0).take (at_6.toNat-0)).map Qe)) none) none false,.m (.app ((([]:List Int)++((c.drop 0).take (at_6.toNat-0))).map Qe) (([]:List Int)++((c.drop 0).take (at_6.toNat-0))).length),.a .no none true,.a (.bd []) (some ([],.sl 1 (([g]:List Int).map Qe))) true,.m (.app (((([]:List Int)++((c.drop 0).take (at_6.toNat-0)))++[g]).map Qe) ((([]:List Int)++((c.drop 0).take (at_6.toNat-0)))++[g]).length),.a .no none true,.a .no none true,.a (.any (.sl 1 (((c.drop at_6.toNat).take (c.length-at_6.toNat)).map Qe)) none) none true,.m (.app ((((([]:List Int)++((c.drop 0).take (at_6.toNat-0)))++[g])++((c.drop at_6.toNat).take (c.length-at_6.toNat))).map Qe) (((([]:List Int)++((c.drop 0).take (at_6.toNat-0)))++[g])++((c.drop at_6.toNat).take (c.length-at_6.toNat))).length),.N] [0,1,5] [] [4] [20] rfl rfl rfl ⟨⟨⟨⟨⟨⟨tt_,(fun σ x B _=>Stp.sliceD rfl rfl (QS d.n rfl) (x _ _ rfl) (Qr.es rfl) Bnd.no (Bnd.val (x _ _ rfl) (Qak (Qqb j)) rfl) (Qak (Qqc j)) (QcB (Qak (QsB j)) (Nat.le_of_eq Qf.symm)) QtL)⟩,⟨(Qf (f:=Qe) (l:=([]:List Int))),Qbk u Qf,(Qap (f:=Qe) (l:=([]:List Int)) (m:=((c.drop 0).take (at_6.toNat-0)))),QbG (l:=([]:List Int)) Qf⟩⟩,rfl⟩,⟨Qf,Qbk v Qf,Qap,QbG Qf⟩⟩,(fun σ x B _=>Stp.sliceD rfl rfl (QS d.n rfl) (x _ _ rfl) (Qr.es rfl) (Bnd.val (x _ _ rfl) (Qak (Qqb k)) rfl) (Bnd.none_ Qf) (Qak (Qqc k)) (Nat.le_of_eq Qf.symm) QtL)⟩,⟨Qf,Qbk w Qf,Qap,QbG Qf⟩⟩ rfl (by kernel_rfl) rfl rfl rfl ?_
 refine tg_ d [2,.K [4] [20],.ren 20 600] ?_
 cases h
 exact d1_ r1_
def QgT (c:Qq)(b:Qh):Option (QMk×Int):=
 (Qji c b.Task b.Vars).bind fun d=>
 bif (d.2 != 0)then
 some (([]:List QBg),d.2)
 else
 (idx c.Tasks b.Task).bind fun e=>
 (QeW c e.Outs b.Outs d.1).bind fun a=>
 some (a.1,a.2)
theorem QqS (i l){r}(h:QgT i l=some r):Qc prog 42 [.agg (Qd i),.agg (Qi l)] [] (Gives (.tup [.sl 1 (r.1.map Qg),.I r.2]) []):=by
 refine wk_ 34 func42 fun C e=>?_
 obtain⟨p,j,h⟩:=Qb h
 refine Qa e [10,.A (Qd i),4,.o (.C3 (.tup [.sl 1 (p.1.map Qe),.I p.2])),14] rfl (a2_ rfl (Qn1 _ _ _ j)) ?_
 rcases Qp h with⟨b,h⟩|⟨b,h⟩
 ·refine Qa e [.T,9,.denil 4 [some 1]] rfl (a1_ b) ?_
  cases h
  exact d2_ tt_
 obtain⟨q,k,h⟩:=Qb h
 obtain⟨f,g,h⟩:=Qb h
 refine Qa e [.F,3,.K [2,3,4,5,6] [2,3]] rfl (a1_ b) ?_
 refine AK.draw2 Qr e mixed [.a .no (some ([],.agg (Qd i))) false,.N,.N,.N,.N,.a (.row (Qm q)) none false,.N,.N,.N,.N,.N,.a (.C4 (.tup [.sl 1 (f.1.map Qg),.I f.2])) none false,.N,.N,.m .s,.m .s] [] [] [4,5] [] rfl rfl rfl ⟨⟨⟨tt_,rfl⟩,(QE k)⟩,(QlM _ _ _ _ g)⟩ rfl (by kernel_rfl) rfl rfl rfl ?_
 refine tg_ e [2] ?_
 cases h
 exact d2_ tt_
def QmK (a:Int):Option (Int⊕(Unit⊕Unit)):=
 some (.inl (w64 (a+1)))
def QqT (a:(QMk×Int))(c:QMk):Option Bool:=
 bif (a.2==0)then
 (Qib a.1 c).bind fun b=>
 some b
 else
 some false
def QmL (a:Int)(b:Bool):Option (Int⊕(Unit⊕Unit)):=
 bif b then
 some (.inr (.inl ()))
 else
 QmK a
def Qcj (b:QG)(g:Qh)(h:Qq)(i:((List Int)×Int))(j:QMk)(a:Int):Option (Int⊕(Unit⊕Unit)):=
 bif ((decide (a<(b.Ins.length:Int)))&&(b.Join==3))then
 (QpT g.Ins a).bind fun c=>
 bif c then
 QmK a
 else
 (Qoo g.Ins a).bind fun d=>
 (QeW h b.Ins d i.1).bind fun e=>
 (QqT e j).bind (fun f=>QmL a f)
 else
 some (.inr (.inr ()))
def QqU : Option Int:=
 some 11
def QeX (b:Qq)(c:Qh):Option Int:=
 (QgT b c).bind fun a=>
 some a.2
def Qi7 (d:Qq)(j:QMk)(a:Qh):Option Int:=
 (Qji d a.Task a.Vars).bind fun e=>
 bif (e.2 != 0)then
 some e.2
 else
 (idx d.Tasks a.Task).bind fun c=>
 (QkG c.Guard e.1).bind fun f=>
 bif (f.2 != 0)then
 some f.2
 else
 bif (f.1==0)then
 some 9
 else
 (Qh9 c.Join (c.Ins.length:Int) a.Ins).bind fun g=>
 (Qh9 c.Split (c.Outs.length:Int) a.Outs).bind fun h=>
 bif ((!g)||(!h))then
 some 11
 else
 (Qi6 d a).bind fun b=>
 bif (b.2 != 0)then
 some b.2
 else
 (Qib b.1 j).bind fun i=>
 bif (!i)then
 some 10
 else
 (Qw (fun st=>Qcj c a d e j st) 0).bind (Sum.elim (fun q=>QqU) (fun q=>QeX d a))
theorem QqV (l E m){r}(h:Qi7 l E m=some r):Qc prog 37 [.agg (Qd l),.sl 1 (E.map Qg),.agg (Qi m)] [] (Gives (.I r) []):=by
 refine wk_ 124 func37 fun C f=>?_
 obtain⟨G,a7,h⟩:=Qb h
 refine Qa f [9,.A (Qd l),4,.o (.C3 (.tup [.sl 1 (G.1.map Qe),.I G.2])),14] rfl (a2_ rfl (Qn1 _ _ _ a7)) ?_
 rcases Qp h with⟨H,h⟩|⟨H,h⟩
 ·refine Qa f [.T,8] rfl (a1_ H) ?_
  cases h
  exact d1_ tt_
 obtain⟨i,a8,h⟩:=Qb h
 obtain⟨x9,a9,h⟩:=Qb h
 refine Qa f [.F,8,.o (.row (Qm i)),.A (Qm i),2,.O 9 (.var (Qm i)),5,.A (Qn i.Guard),1,.o (.C2 (.tup [.I x9.1,.I x9.2])),14] rfl (a6_ H (QE a8) rfl rfl rfl (QrY _ _ a9)) ?_
 refine bq_ f h [.T,8,.K [6] []] rfl (fun p h=>?_) [.F,9] rfl fun p h=>?_
 ·cases h
  exact d1_ tt_
 rcases Qp h with⟨s,h⟩|⟨s,h⟩
 ·refine Qa f [.T,7] rfl (a1_ s) ?_
  cases h
  exact d1_ tt_
 obtain⟨t,L,h⟩:=Qb h
 obtain⟨D,M,h⟩:=Qb h
 refine Qa f [.F,8,.o (.ln i.Ins.length),2,.o (.C3 (.b t)),9,.o (.ln i.Outs.length),2,.o (.C3 (.b D)),5] rfl (a5_ s Qf (Qpm _ _ _ L) Qf (Qpm _ _ _ M)) ?_
 refine AK.meetX (fun σ=>σ=⟨[(1,.sl 1 (E.map Qg)),lk_ 3,lk_ 5,(7,.sl 1 (G.1.map Qe)),lk_ 9,(68,.b ((!t)||(!D)))],[(3,.var (Qd l)),(5,.var (Qi m)),(9,.var (Qm i))]⟩) ?_ ?_
 ·refine tg_ f [4] ?_
  rcases QD (!t)with j | j
  ·refine Qa f [.S 65 (.b true),4,.S 68 (.b ((!t)||(!D))),.K [1,3,5,7,9,68] [3,5,9]] rfl ⟨(tc_ j),(congrArg V.b (orT j rfl))⟩ ?_
   exact mt_
  refine Qa f [.S 65 (.b false),4,.S 68 (.b ((!t)||(!D))),.K [1,3,5,7,9,68] [3,5,9]] rfl ⟨(tc_ j),(congrArg V.b (orF j rfl))⟩ ?_
  exact mt_
 rintro σ rfl
 refine tg_ f [1] ?_
 rcases Qp h with⟨u,h⟩|⟨u,h⟩
 ·refine Qa f [.T,7] rfl (a1_ u) ?_
  cases h
  exact d1_ tt_
 obtain⟨P,U,h⟩:=Qb h
 refine Qa f [.F,4,.A (Qd l),.A (Qi m),.o (.C2 (.tup [.sl 1 (P.1.map Qg),.I P.2])),14] rfl (a4_ u rfl rfl (QqR _ _ U)) ?_
 rcases Qp h with⟨w,h⟩|⟨w,h⟩
 ·refine Qa f [.T,8] rfl (a1_ w) ?_
  cases h
  exact d1_ tt_
 obtain⟨b0,W,h⟩:=Qb h
 refine Qa f [.F,7,.o (.C2 (.b b0)),3] rfl (a2_ w (Qpy _ _ W)) ?_
 refine bq_ f h [.T,7,.K [6] []] rfl (fun x h=>?_) [.F,9,.K [1,3,5,7,9,14] [3,5,9]] rfl fun x h=>?_
 ·cases h
  exact d1_ tt_
 obtain⟨b1,X,h⟩:=Qb h
 refine AK.loop (body:=(fun st=>Qcj i m l G E st)) (fun st σ=>σ=⟨[(1,.sl 1 (E.map Qg)),lk_ 3,lk_ 5,(7,.sl 1 (G.1.map Qe)),lk_ 9,(14,.I st)],[(3,.var (Qd l)),(5,.var (Qi m)),(9,.var (Qm i))]⟩) (Sum.elim (fun q e σ=>e=.ret/\σ=⟨[(6,.I 11)],[]⟩) (fun q e σ=>e=.exit 0/\σ=⟨[lk_ 3,lk_ 5],[(3,.var (Qd l)),(5,.var (Qi m))]⟩)) X rfl ?_ ?_
 ·rintro g o σ rfl h
  refine tg_ f [2] ?_
  refine AK.meetX (fun σ=>σ=⟨[(1,.sl 1 (E.map Qg)),lk_ 3,lk_ 5,(7,.sl 1 (G.1.map Qe)),lk_ 9,(14,.I g),(91,.b ((decide (g<(i.Ins.length:Int)))&&(i.Join==3)))],[(3,.var (Qd l)),(5,.var (Qi m)),(9,.var (Qm i))]⟩) ?_ ?_
  ·refine Qa f [4,.o (.ln i.Ins.length),2] rfl (a1_ Qf) ?_
   rcases QD (decide (g<(i.Ins.length:Int)))with k | k
   ·refine Qa f [.S 87 (.b true),5,.S 91 (.b ((decide (g<(i.Ins.length:Int)))&&(i.Join==3))),.K [1,3,5,7,9,14,91] [3,5,9]] rfl ⟨(tc_ k),(congrArg V.b (Qai k rfl))⟩ ?_
    exact mt_
   refine Qa f [.S 87 (.b false),5,.S 91 (.b ((decide (g<(i.Ins.length:Int)))&&(i.Join==3))),.K [1,3,5,7,9,14,91] [3,5,9]] rfl ⟨(tc_ k),(congrArg V.b (QaS k rfl))⟩ ?_
   exact mt_
  rintro σ rfl
  refine tg_ f [1] ?_
  refine bq_ f h [.T,2] rfl (fun y h=>?_) [.F,2,.K [3,5] [3,5]] rfl fun y h=>?_
  ·refine AK.meet (fun σ=>σ=⟨[(1,.sl 1 (E.map Qg)),lk_ 3,lk_ 5,(7,.sl 1 (G.1.map Qe)),lk_ 9,(14,.I g)],[(3,.var (Qd l)),(5,.var (Qi m)),(9,.var (Qm i))]⟩/\QmK g=some o) ?_ ?_
   ·obtain⟨b2,Y,h⟩:=Qb h
    refine Qa f [7,.o (.C2 (.b b2)),2] rfl (a1_ (Qz4 _ _ Y)) ?_
    rcases Qp h with⟨z,h⟩|⟨z,h⟩
    ·refine Qa f [.T,3,.K [1,3,5,7,9,14] [3,5,9]] rfl (a1_ z) ?_
     exact AK.met (an_ rfl h)
    obtain⟨Z,a0,h⟩:=Qb h
    obtain⟨a1,a2,h⟩:=Qb h
    refine Qa f [.F,3,.K [1,3,5,7,9,14] [3,5,9]] rfl (a1_ z) ?_
    refine AK.draw2 Qr f mixed [.a .no (some ([],.agg (Qd l))) false,.N,.N,.N,.N,.N,.a (.cd false [.d,.d] 1 (Z.map Qe) Z.length) none false,.N,.a (.C4 (.tup [.sl 1 (a1.1.map Qg),.I a1.2])) none false,.N,.N,.N,.N,.N] [] [] [1,3,5,7,9,14,15,16] [3,5,9] rfl rfl rfl ⟨⟨⟨tt_,rfl⟩,⟨(Qzk _ _ a0),Qf⟩⟩,(QlM _ _ _ _ a2)⟩ rfl (by kernel_rfl) rfl rfl rfl ?_
    refine tg_ f [2] ?_
    obtain⟨J,a3,h⟩:=Qb h
    replace h:QmL g J=some o:=h
    refine AK.meetX (fun σ=>σ=⟨[(1,.sl 1 (E.map Qg)),lk_ 3,lk_ 5,(7,.sl 1 (G.1.map Qe)),lk_ 9,(14,.I g),(116,.b J)],[(3,.var (Qd l)),(5,.var (Qi m)),(9,.var (Qm i))]⟩) ?_ ?_
    ·replace h:=a3
     refine tg_ f [4] ?_
     rcases Qp h with⟨A,h⟩|⟨A,h⟩
     ·obtain⟨b3,a4,h⟩:=Qb h
      refine Qa f [.S 112 (.b true),2,.o (.C2 (.b b3)),2,.K [1,3,5,7,9,14,116] [3,5,9]] rfl ⟨(tc_ A),(Qpy _ _ a4)⟩ ?_
      cases h
      exact mt_
     refine Qa f [.S 112 (.b false),5,.K [1,3,5,7,9,14,116] [3,5,9]] rfl (tc_ A) ?_
     cases h
     exact mt_
    rintro σ rfl
    replace h:QmL g J=some o:=h
    refine tg_ f [1] ?_
    refine bq_ f h [.T,8,.K [6] []] rfl (fun B h=>?_) [.F,2,.K [1,3,5,7,9,14] [3,5,9]] rfl fun B h=>?_
    ·cases h
     exact Q6 rfl (an_ rfl rfl)
    exact AK.met (an_ rfl h)
   rintro σ ⟨rfl,h⟩
   refine tg_ f [5,.K [1,3,5,7,9,14] [3,5,9]] ?_
   cases h
   exact QR rfl rfl
  cases h
  exact QT rfl (an_ rfl rfl)
 rcases b1 with(_ | _)
 ·replace h:QqU=some r:=h
  rintro e σ ⟨rfl,rfl⟩
  refine tg_ f [2] ?_
  cases h
  exact d1_ tt_
 replace h:QeX l m=some r:=h
 rintro e σ ⟨rfl,rfl⟩
 obtain⟨a5,a6,h⟩:=Qb h
 refine Qa f [4,.A (Qd l),.A (Qi m),.o (.C2 (.tup [.sl 1 (a5.1.map Qg),.I a5.2])),13] rfl (a3_ rfl rfl (QqS _ _ a6)) ?_
 cases h
 exact d1_ tt_
def Qr4 (b:QBg)(c:QBg):Option Bool:=
 (Qc3 b).bind fun d=>
 bif (!d)then
 some true
 else
 (Qc3 c).bind fun a=>
 some (!a)
def Qeo (c:QBg)(i:QBg)(a:Int)(b:QBg):Option ((Int×QBg)⊕QBg):=
 bif (decide (a<(c.length:Int)))then
 (idx c a).bind fun d=>
 (idx c a).bind fun e=>
 (QgS i e.1).bind fun f=>
 (idx c a).bind fun g=>
 (QkL b d.1 (w64 (f-g.2))).bind fun h=>
 some (.inl ((w64 (a+1)),h))
 else
 some (.inr b)
def Qr5 (a:QBg):Option (QBg×Int):=
 some (a,0)
def Qke (c:QBg)(a:QBg)(d:Bool):Option (QBg×Int):=
 bif d then
 some (([]:List (Int×Int)),1)
 else
 (Qia c a).bind fun b=>
 bif (!b)then
 some (([]:List (Int×Int)),10)
 else
 (chk (decide (([]:List (Int×Int)).length+a.length<=4294967296))).bind fun _=>
 (Qw (fun st=>Qeo c a st.1 st.2) (0,(([]:List (Int×Int))++a))).bind (fun q=>Qr5 q)
def Qic (a:QBg)(b:QBg):Option (QBg×Int):=
 (Qr4 a b).bind (fun c=>Qke b a c)
theorem Qyn (l p){r}(h:Qic l p=some r):Qc prog 84 [.sl 2 (l.map Qo),.sl 2 (p.map Qo)] [] (Gives (.tup [.sl 2 (r.1.map Qo),.I r.2]) []):=by
 refine wk_ 50 func84 fun C f=>?_
 refine tg_ f [8] ?_
 obtain⟨G,H,h⟩:=Qb h
 replace h:Qke p l G=some r:=h
 refine AK.meetX (fun σ=>σ=⟨[(0,.sl 2 (l.map Qo)),(1,.sl 2 (p.map Qo)),(15,.b G)],[]⟩) ?_ ?_
 ·replace h:=H
  obtain⟨Z,J,h⟩:=Qb h
  refine Qa f [2,.o (.C1 (.b Z)),2] rfl (a1_ (QdP _ J)) ?_
  rcases Qp h with⟨g,h⟩|⟨g,h⟩
  ·refine Qa f [.S 11 (.b true),5,.K [0,1,15] []] rfl (tc_ g) ?_
   cases h
   exact mt_
  obtain⟨L,t,h⟩:=Qb h
  refine Qa f [.S 11 (.b false),1,.o (.C1 (.b L)),3,.K [0,1,15] []] rfl ⟨(tc_ g),(QdP _ t)⟩ ?_
  cases h
  exact mt_
 rintro σ rfl
 replace h:Qke p l G=some r:=h
 refine tg_ f [1] ?_
 rcases Qp h with⟨i,h⟩|⟨i,h⟩
 ·refine Qa f [.T,8,.denil 4 [some 2]] rfl (a1_ i) ?_
  cases h
  exact d2_ tt_
 obtain⟨M,u,h⟩:=Qb h
 refine Qa f [.F,7,.o (.C2 (.b M)),3] rfl (a2_ i (Qpv _ _ u)) ?_
 rcases Qp h with⟨j,h⟩|⟨j,h⟩
 ·refine Qa f [.T,8,.denil 4 [some 2]] rfl (a1_ j) ?_
  cases h
  exact d2_ tt_
 obtain⟨v,h⟩:=Qao h
 refine Qa f [.F,5,.O 20 (.arr 2 (([]:List (Int×Int)).map Qo)),.S 20 (.own 20 ([]:List (Int×Int)).length),1,.app ((([]:List (Int×Int))++l).map Qo) (([]:List (Int×Int))++l).length,10,.ren 20 605,.K [0,1,6,7] [605]] rfl (a4_ j rfl rfl ⟨Qf,Qbk v Qf,Qap,QbG Qf⟩) ?_
 obtain⟨w,x,h⟩:=Qb h
 refine AK.loop (body:=(fun st=>Qeo p l st.1 st.2)) (fun st σ=>σ=⟨[(0,.sl 2 (l.map Qo)),(1,.sl 2 (p.map Qo)),(6,.own 605 st.2.length),(7,.I st.1)],[(605,.arr 2 (st.2.map Qo))]⟩) (fun q e σ=>e=.exit 0/\σ=⟨[(6,.own 605 q.length)],[(605,.arr 2 (q.map Qo))]⟩) x rfl ?_ ?_
 ·rintro ⟨a0,P⟩ o σ rfl h
  refine Qa f [5,.o (.ln p.length),3] rfl (a1_ Qf) ?_
  rcases Qp h with⟨k,h⟩|⟨k,h⟩
  ·obtain⟨U,y,h⟩:=Qb h
   obtain⟨W,z,h⟩:=Qb h
   obtain⟨X,A,h⟩:=Qb h
   obtain⟨Y,B,h⟩:=Qb h
   obtain⟨D,E,h⟩:=Qb h
   refine Qa f [.T,4,.frz 605 (P.map Qo) [6] [],.K [0,1,6,7] []] rfl (a2_ k (a1_ (Qcd Qf))) ?_
   refine AK.draw2 Qr f mixed [.N,.N,.N,.a (.row (Qo U)) none false,.N,.N,.N,.N,.N,.a (.row (Qo W)) none false,.N,.N,.a (.C2 (.I X)) none false,.N,.N,.a (.row (Qo Y)) none false,.N,.N,.N,.a (.co false [.d,.d,.d] 2 (D.map Qo) D.length) none false,.m .s] [] [] [0,1,6,7] [48] rfl rfl rfl ⟨⟨⟨⟨⟨tt_,(QE y)⟩,(QE z)⟩,(QmJ _ _ A)⟩,(QE B)⟩,⟨(Qr3 _ _ _ E),Qf,.inl rfl⟩⟩ rfl (by kernel_rfl) rfl rfl rfl ?_
   refine tg_ f [7,.ren 48 605,.K [0,1,6,7] [605]] ?_
   cases h
   exact QR rfl rfl
  refine Qa f [.F,2,.K [6] [605]] rfl (a1_ k) ?_
  cases h
  exact QT rfl (an_ rfl rfl)
 replace h:Qr5 w=some r:=h
 rintro e σ ⟨rfl,rfl⟩
 refine Qa f [10,.frz 605 (w.map Qo) [4] []] rfl (a1_ (a1_ (Qcd Qf))) ?_
 cases h
 exact d2_ tt_
def Qkf (b:Int)(a:QMk):Option ((Int×QMk)⊕(Int⊕QMk)):=
 some (.inl ((w64 (b+1)),a))
def Qep (f:QMk)(g:QMk)(e:Bool)(d:Int)(a:QMk):Option ((Int×QMk)⊕(Int⊕QMk)):=
 bif ((decide (d<(f.length:Int)))&&(decide (d<(g.length:Int))))then
 bif e then
 (idx f d).bind fun h=>
 (idx g d).bind fun i=>
 (Qhn h i).bind fun b=>
 bif (b.2 != 0)then
 some (.inr (.inl b.2))
 else
 (chk (decide (a.length+([b.1]:List QBg).length<=4294967296))).bind fun _=>
 Qkf d (a++([b.1]:List QBg))
 else
 (idx f d).bind fun j=>
 (idx g d).bind fun k=>
 (Qic j k).bind fun c=>
 bif (c.2 != 0)then
 some (.inr (.inl c.2))
 else
 (chk (decide (a.length+([c.1]:List QBg).length<=4294967296))).bind fun _=>
 Qkf d (a++([c.1]:List QBg))
 else
 some (.inr (.inr a))
def Qr6 (a:Int):Option (QMk×Int):=
 some (([]:List QBg),a)
def Qr7 (a:QMk):Option (QMk×Int):=
 some (a,0)
def Qgf (b:QMk)(c:QMk)(a:Bool):Option (QMk×Int):=
 (Qw (fun st=>Qep b c a st.1 st.2) (0,([]:List QBg))).bind (Sum.elim (fun q=>Qr6 q) (fun q=>Qr7 q))
theorem Qr8 (k w g){r}(h:Qgf k w g=some r):Qc prog 39 [.sl 1 (k.map Qg),.sl 1 (w.map Qg),.b g] [] (Gives (.tup [.sl 1 (r.1.map Qg),.I r.2]) []):=by
 refine wk_ 66 func39 fun C f=>?_
 refine Qa f [18,.adopt 8 606 1,.O 606 (.arr 1 (([]:List QBg).map Qg)),.S 8 (.own 606 ([]:List QBg).length),.K [0,1,2,8,9] [606]] rfl (a2_ rfl (congrArg (fun n=>V.own 606 n) (by simp))) ?_
 obtain⟨P,z,h⟩:=Qb h
 refine AK.loop (body:=(fun st=>Qep k w g st.1 st.2)) (fun st σ=>σ=⟨[(0,.sl 1 (k.map Qg)),(1,.sl 1 (w.map Qg)),(2,.b g),(8,.own 606 st.2.length),(9,.I st.1)],[(606,.arr 1 (st.2.map Qg))]⟩) (Sum.elim (fun q e σ=>e=.ret/\σ=⟨[(6,.lit (.slice none 0 0)),(7,.I q)],[]⟩) (fun q e σ=>e=.exit 0/\σ=⟨[(8,.own 606 q.length)],[(606,.arr 1 (q.map Qg))]⟩)) z rfl ?_ ?_
 ·rintro ⟨x,j⟩ o σ rfl h
  refine tg_ f [2] ?_
  refine AK.meetX (fun σ=>σ=⟨[(0,.sl 1 (k.map Qg)),(1,.sl 1 (w.map Qg)),(2,.b g),(8,.own 606 j.length),(9,.I x),(23,.b ((decide (x<(k.length:Int)))&&(decide (x<(w.length:Int)))))],[(606,.arr 1 (j.map Qg))]⟩) ?_ ?_
  ·refine Qa f [3,.o (.ln k.length),2] rfl (a1_ Qf) ?_
   rcases QD (decide (x<(k.length:Int)))with i | i
   ·refine Qa f [.S 18 (.b true),2,.o (.ln w.length),3,.S 23 (.b ((decide (x<(k.length:Int)))&&(decide (x<(w.length:Int))))),.K [0,1,2,8,9,23] [606]] rfl ⟨⟨(tc_ i),Qf⟩,(congrArg V.b (Qai i rfl))⟩ ?_
    exact mt_
   refine Qa f [.S 18 (.b false),6,.S 23 (.b ((decide (x<(k.length:Int)))&&(decide (x<(w.length:Int))))),.K [0,1,2,8,9,23] [606]] rfl ⟨(tc_ i),(congrArg V.b (QaS i rfl))⟩ ?_
   exact mt_
  rintro σ rfl
  refine tg_ f [1] ?_
  refine bq_ f h [.T,2] rfl (fun l h=>?_) [.F,2,.K [8] [606]] rfl fun l h=>?_
  ·refine AK.meet (fun σ=>∃y:QMk,σ=⟨[(0,.sl 1 (k.map Qg)),(1,.sl 1 (w.map Qg)),(2,.b g),(8,.own 606 y.length),(9,.I x)],[(606,.arr 1 (y.map Qg))]⟩/\Qkf x y=some o) ?_ ?_
   ·refine tg_ f [7] ?_
    rcases Qp h with⟨m,h⟩|⟨m,h⟩
    ·obtain⟨U,A,h⟩:=Qb h
     obtain⟨W,B,h⟩:=Qb h
     obtain⟨p,D,h⟩:=Qb h
     refine Qa f [.T,1,.K [0,1,2,8,9] [606]] rfl (a1_ m) ?_
     refine AK.draw2 Qr f mixed [.N,.N,.a (.row (Qg U)) none false,.N,.N,.N,.a (.row (Qg W)) none false,.N,.a (.C2 (.tup [.sl 2 (p.1.map Qo),.I p.2])) none false,.N,.N,.N,.N,.N] [] [] [0,1,2,8,9,10,11] [606] rfl rfl rfl ⟨⟨⟨tt_,(QE A)⟩,(QE B)⟩,(QsZ _ _ D)⟩ rfl (by kernel_rfl) rfl rfl rfl ?_
     refine tg_ f [8] ?_
     rcases Qp h with⟨s,h⟩|⟨s,h⟩
     ·refine Qa f [.T,12,.K [6,7] []] rfl (a1_ s) ?_
      cases h
      exact Q6 rfl (an_ rfl rfl)
     obtain⟨E,h⟩:=Qao h
     refine Qa f [.F,6,.v (.bd []) [] (.sl 1 (([p.1]:List QBg).map Qg)),.app ((j++([p.1]:List QBg)).map Qg) (j++([p.1]:List QBg)).length,6,.K [0,1,2,8,9] [606]] rfl (a3_ s rfl ⟨Qf,Qbk E Qf,Qap,QbG Qf⟩) ?_
     exact AK.met (ex_ _ (an_ rfl h))
    obtain⟨X,G,h⟩:=Qb h
    obtain⟨Y,H,h⟩:=Qb h
    obtain⟨t,J,h⟩:=Qb h
    refine Qa f [.F,3,.K [0,1,2,8,9] [606]] rfl (a1_ m) ?_
    refine AK.draw2 Qr f mixed [.N,.N,.a (.row (Qg X)) none false,.N,.N,.N,.a (.row (Qg Y)) none false,.N,.a (.C2 (.tup [.sl 2 (t.1.map Qo),.I t.2])) none false,.N,.N,.N,.N,.N] [] [] [0,1,2,8,9,12,13] [606] rfl rfl rfl ⟨⟨⟨tt_,(QE G)⟩,(QE H)⟩,(Qyn _ _ J)⟩ rfl (by kernel_rfl) rfl rfl rfl ?_
    refine tg_ f [8] ?_
    rcases Qp h with⟨u,h⟩|⟨u,h⟩
    ·refine Qa f [.T,11,.K [6,7] []] rfl (a1_ u) ?_
     cases h
     exact Q6 rfl (an_ rfl rfl)
    obtain⟨L,h⟩:=Qao h
    refine Qa f [.F,5,.v (.bd []) [] (.sl 1 (([t.1]:List QBg).map Qg)),.app ((j++([t.1]:List QBg)).map Qg) (j++([t.1]:List QBg)).length,3,.K [0,1,2,8,9] [606]] rfl (a3_ u rfl ⟨Qf,Qbk L Qf,Qap,QbG Qf⟩) ?_
    exact AK.met (ex_ _ (an_ rfl h))
   rintro σ ⟨y,rfl,h⟩
   refine tg_ f [5,.K [0,1,2,8,9] [606]] ?_
   cases h
   exact QR rfl rfl
  cases h
  exact QT rfl (an_ rfl rfl)
 rcases P with(Z | M)
 ·replace h:Qr6 Z=some r:=h
  rintro e σ ⟨rfl,rfl⟩
  refine tg_ f [2,.denil 6 [some 1]] ?_
  cases h
  exact d2_ tt_
 replace h:Qr7 M=some r:=h
 rintro e σ ⟨rfl,rfl⟩
 refine Qa f [10,.frz 606 (M.map Qg) [6] []] rfl (a1_ (a1_ (Qcd Qf))) ?_
 cases h
 exact d2_ tt_
def Qnz (c:Qq)(d:QMk)(e:Qh):Option (QMk×Int):=
 (Qi7 c d e).bind fun f=>
 bif (f != 0)then
 some (([]:List QBg),f)
 else
 (Qi6 c e).bind fun b=>
 (Qgf d b.1 false).bind fun a=>
 some (a.1,a.2)
theorem Qyo (i m j){r}(h:Qnz i m j=some r):Qc prog 11 [.agg (Qd i),.sl 1 (m.map Qg),.agg (Qi j)] [] (Gives (.tup [.sl 1 (r.1.map Qg),.I r.2]) []):=by
 refine wk_ 29 func11 fun C k=>?_
 obtain⟨p,l,h⟩:=Qb h
 refine Qa k [10,.A (Qd i),1,.A (Qi j),.o (.C3 (.I p)),10] rfl (a3_ rfl rfl (QqV _ _ _ l)) ?_
 rcases Qp h with⟨a,h⟩|⟨a,h⟩
 ·refine Qa k [.T,9,.denil 6 [some 1]] rfl (a1_ a) ?_
  cases h
  exact d2_ tt_
 obtain⟨b,e,h⟩:=Qb h
 obtain⟨f,g,h⟩:=Qb h
 refine Qa k [.F,4,.A (Qd i),.A (Qi j),.o (.C2 (.tup [.sl 1 (b.1.map Qg),.I b.2])),11,.o (.C3 (.tup [.sl 1 (f.1.map Qg),.I f.2])),7] rfl (a5_ a rfl rfl (QqR _ _ e) (Qr8 _ _ _ g)) ?_
 cases h
 exact d2_ tt_
def QnA (a:Int)(b:QMk):Option ((Int×QMk)⊕QMk):=
 some (.inl ((w64 (a+1)),b))
def Qr9 (a:QG)(b:Int)(c:QMk):Option Bool:=
 (idx a.Cancel b).bind fun d=>
 bif (decide (0<=d))then
 (idx a.Cancel b).bind fun e=>
 some (decide (e<(c.length:Int)))
 else
 some false
def Qkg (d:QG)(a:Int)(b:QMk)(e:Bool):Option ((Int×QMk)⊕QMk):=
 bif e then
 (idx d.Cancel a).bind fun c=>
 (idx b c).bind fun f=>
 QnA a (b.set c.toNat ([]:List (Int×Int)))
 else
 QnA a b
def Qha (a:QG)(b:Int)(c:QMk):Option ((Int×QMk)⊕QMk):=
 bif (decide (b<(a.Cancel.length:Int)))then
 (Qr9 a b c).bind (fun d=>Qkg a b c d)
 else
 some (.inr c)
def QnB (c:(QMk×Int))(b:QMk):Option (QMk×Int):=
 (Qgf b c.1 true).bind fun a=>
 some (a.1,a.2)
def QnC (c:Qq)(d:QMk)(e:Qh):Option (QMk×Int):=
 (QgT c e).bind fun a=>
 bif (a.2 != 0)then
 some (([]:List QBg),a.2)
 else
 (chk (decide (([]:List QBg).length+d.length<=4294967296))).bind fun _=>
 (idx c.Tasks e.Task).bind fun b=>
 (Qw (fun st=>Qha b st.1 st.2) (0,(([]:List QBg)++d))).bind (fun q=>QnB a q)
theorem Qyp (N M P){r}(h:QnC N M P=some r):Qc prog 13 [.agg (Qd N),.sl 1 (M.map Qg),.agg (Qi P)] [] (Gives (.tup [.sl 1 (r.1.map Qg),.I r.2]) []):=by
 refine wk_ 63 func13 fun C f=>?_
 obtain⟨s,U,h⟩:=Qb h
 refine Qa f [10,.A (Qd N),.A (Qi P),.o (.C2 (.tup [.sl 1 (s.1.map Qg),.I s.2])),14] rfl (a3_ rfl rfl (QqS _ _ U)) ?_
 rcases Qp h with⟨t,h⟩|⟨t,h⟩
 ·refine Qa f [.T,9,.denil 6 [some 1]] rfl (a1_ t) ?_
  cases h
  exact d2_ tt_
 obtain⟨y,h⟩:=Qao h
 obtain⟨a,z,h⟩:=Qb h
 refine Qa f [.F,5,.O 22 (.arr 1 (([]:List QBg).map Qg)),.S 22 (.own 22 ([]:List QBg).length),1,.app ((([]:List QBg)++M).map Qg) (([]:List QBg)++M).length,9,.o (.row (Qm a)),12,.K [8,10,11,12] [22]] rfl (a5_ t rfl rfl ⟨Qf,Qbk y Qf,Qap,QbG Qf⟩ (QE z)) ?_
 obtain⟨A,B,h⟩:=Qb h
 refine AK.loop (body:=(fun st=>Qha a st.1 st.2)) (fun st σ=>σ=⟨[(8,.sl 1 (s.1.map Qg)),(10,.own 22 st.2.length),(11,.sl 1 (a.Cancel.map Qe)),(12,.I st.1)],[(22,.arr 1 (st.2.map Qg))]⟩) (fun q e σ=>e=.exit 0/\σ=⟨[(8,.sl 1 (s.1.map Qg)),(10,.own 22 q.length)],[(22,.arr 1 (q.map Qg))]⟩) B rfl ?_ ?_
 ·rintro ⟨i,g⟩ o σ rfl h
  refine Qa f [5,.o (.ln a.Cancel.length),3] rfl (a1_ Qf) ?_
  refine bq_ f h [.T,2] rfl (fun j h=>?_) [.F,2,.K [8,10] [22]] rfl fun j h=>?_
  ·refine AK.meet (fun σ=>∃m:QMk,σ=⟨[(8,.sl 1 (s.1.map Qg)),(10,.own 22 m.length),(11,.sl 1 (a.Cancel.map Qe)),(12,.I i)],[(22,.arr 1 (m.map Qg))]⟩/\QnA i m=some o) ?_ ?_
   ·refine tg_ f [2] ?_
    obtain⟨u,D,h⟩:=Qb h
    replace h:Qkg a i g u=some o:=h
    refine AK.meetX (fun σ=>σ=⟨[(8,.sl 1 (s.1.map Qg)),(10,.own 22 g.length),(11,.sl 1 (a.Cancel.map Qe)),(12,.I i),(51,.b u)],[(22,.arr 1 (g.map Qg))]⟩) ?_ ?_
    ·replace h:=D
     obtain⟨W,E,h⟩:=Qb h
     refine Qa f [3,.o (.row (Qe W)),3] rfl (a1_ (QE E)) ?_
     rcases Qp h with⟨k,h⟩|⟨k,h⟩
     ·obtain⟨X,G,h⟩:=Qb h
      refine Qa f [.S 43 (.b true),2,.o (.row (Qe X)),6,.K [8,10,11,12,51] [22]] rfl ⟨(tc_ k),(QE G)⟩ ?_
      cases h
      exact mt_
     refine Qa f [.S 43 (.b false),9,.K [8,10,11,12,51] [22]] rfl (tc_ k) ?_
     cases h
     exact mt_
    rintro σ rfl
    replace h:Qkg a i g u=some o:=h
    refine tg_ f [1] ?_
    rcases Qp h with⟨l,h⟩|⟨l,h⟩
    ·obtain⟨w,H,h⟩:=Qb h
     obtain⟨Y,p,h⟩:=Qb h
     refine Qa f [.T,4,.o (.row (Qe w)),2,.x (fun σ=>σ.set 22 (.arr 1 ((g.set w.toNat ([]:List (Int×Int))).map Qg))),2,.S 10 (.own 22 (g.set w.toNat ([]:List (Int×Int))).length),.K [8,10,11,12] [22]] rfl (a5_ l (QE H) (QbW p rfl) (Stp.storeNil (zz:=2) (r:=Qg Y) rfl rfl rfl rfl (QaN (Qby p).2) rfl (Qr.sz rfl) rfl (QhQ rfl)) (congrArg (fun n=>V.own 22 n) (by simp))) ?_
     exact AK.met (ex_ _ (an_ rfl h))
    refine Qa f [.F,2,.K [8,10,11,12] [22]] rfl (a1_ l) ?_
    exact AK.met (ex_ _ (an_ rfl h))
   rintro σ ⟨m,rfl,h⟩
   refine tg_ f [5,.K [8,10,11,12] [22]] ?_
   cases h
   exact QR rfl rfl
  cases h
  exact QT rfl (an_ rfl rfl)
 replace h:QnB s A=some r:=h
 rintro e σ ⟨rfl,rfl⟩
 obtain⟨J,L,h⟩:=Qb h
 refine Qa f [6,.frz 22 (A.map Qg) [10,58] [],.o (.C3 (.tup [.sl 1 (J.1.map Qg),.I J.2])),7] rfl (a2_ (a2_ (Qcd Qf) (Qcd Qf)) (Qr8 _ _ _ L)) ?_
 cases h
 exact d2_ tt_
def QnD (c:Qq)(e:QMk)(d:Qh):Option (QMk×Int):=
 (Qnz c e d).bind fun b=>
 bif (b.2 != 0)then
 some (([]:List QBg),b.2)
 else
 (QnC c b.1 d).bind fun a=>
 some (a.1,a.2)
theorem Quy (f k g){r}(h:QnD f k g=some r):Qc prog 17 [.agg (Qd f),.sl 1 (k.map Qg),.agg (Qi g)] [] (Gives (.tup [.sl 1 (r.1.map Qg),.I r.2]) []):=by
 refine wk_ 26 func17 fun C i=>?_
 obtain⟨l,j,h⟩:=Qb h
 refine Qa i [10,.A (Qd f),1,.A (Qi g),.o (.C3 (.tup [.sl 1 (l.1.map Qg),.I l.2])),14] rfl (a3_ rfl rfl (Qyo _ _ _ j)) ?_
 rcases Qp h with⟨a,h⟩|⟨a,h⟩
 ·refine Qa i [.T,9,.denil 6 [some 1]] rfl (a1_ a) ?_
  cases h
  exact d2_ tt_
 obtain⟨b,e,h⟩:=Qb h
 refine Qa i [.F,4,.A (Qd f),1,.A (Qi g),.o (.C3 (.tup [.sl 1 (b.1.map Qg),.I b.2])),7] rfl (a4_ a rfl rfl (Qyp _ _ _ e)) ?_
 cases h
 exact d2_ tt_
def QfX (e:(List Qh))(f:Qq)(c:QMk)(b:Int):Option ((QMk×Int)⊕((QMk×Int)⊕QMk)):=
 bif (decide (b<(e.length:Int)))then
 (idx e b).bind fun d=>
 (QnD f c d).bind fun a=>
 bif (a.2 != 0)then
 some (.inr (.inl (c,b)))
 else
 some (.inl (a.1,(w64 (b+1))))
 else
 some (.inr (.inr c))
def Qs2 (a:QMk)(b:Int):Option (QMk×Int):=
 some (a,b)
def Qs3 (b:(List Qh))(a:QMk):Option (QMk×Int):=
 some (a,(b.length:Int))
def Qop (b:Qq)(c:QMk)(a:(List Qh)):Option (QMk×Int):=
 (Qw (fun st=>QfX a b st.1 st.2) (c,0)).bind (Sum.elim (fun q=>Qs2 q.1 q.2) (fun q=>Qs3 a q))
theorem Qzl (j x i){r}(h:Qop j x i=some r):Qc prog 20 [.agg (Qd j),.sl 1 (x.map Qg),.sl 4 (i.map Qi)] [] (Gives (.tup [.sl 1 (r.1.map Qg),.I r.2]) []):=by
 refine wk_ 35 func20 fun C g=>?_
 refine tg_ g [14,.K [1,2,3,8] [3]] ?_
 obtain⟨t,k,h⟩:=Qb h
 refine AK.loop (body:=(fun st=>QfX i j st.1 st.2)) (fun st σ=>σ=⟨[(1,.sl 1 (st.1.map Qg)),(2,.sl 4 (i.map Qi)),lk_ 3,(8,.I st.2)],[(3,.var (Qd j))]⟩) (Sum.elim (fun q e σ=>e=.ret/\σ=⟨[(6,.sl 1 (q.1.map Qg)),(7,.I q.2)],[]⟩) (fun q e σ=>e=.exit 0/\σ=⟨[(1,.sl 1 (q.map Qg)),(2,.sl 4 (i.map Qi))],[]⟩)) k rfl ?_ ?_
 ·rintro ⟨y,z⟩ o σ rfl h
  refine Qa g [5,.o (.ln i.length),3] rfl (a1_ Qf) ?_
  rcases Qp h with⟨b,h⟩|⟨b,h⟩
  ·obtain⟨l,m,h⟩:=Qb h
   obtain⟨p,s,h⟩:=Qb h
   refine Qa g [.T,5,.K [1,2,3,8] [3]] rfl (a1_ b) ?_
   refine AK.draw2 Qr g mixed [.a .no (some ([],.agg (Qd j))) false,.N,.N,.N,.a (.row (Qi l)) none false,.a .no (some ([],.agg (Qi l))) false,.a (.C3 (.tup [.sl 1 (p.1.map Qg),.I p.2])) none false,.N,.N,.N,.N,.N] [] [] [1,2,3,8,9,10] [3] rfl rfl rfl ⟨⟨⟨⟨tt_,rfl⟩,(QE m)⟩,rfl⟩,(Quy _ _ _ s)⟩ rfl (by kernel_rfl) rfl rfl rfl ?_
   refine tg_ g [8] ?_
   refine bq_ g h [.T,12,.K [6,7] []] rfl (fun f h=>?_) [.F,13,.K [1,2,3,8] [3]] rfl fun f h=>?_
   ·cases h
    exact Q6 rfl (an_ rfl rfl)
   cases h
   exact QR rfl rfl
  refine Qa g [.F,2,.K [1,2] []] rfl (a1_ b) ?_
  cases h
  exact QT rfl (an_ rfl rfl)
 rcases t with(⟨u,v⟩|w)
 ·replace h:Qs2 u v=some r:=h
  rintro e σ ⟨rfl,rfl⟩
  refine tg_ g [2] ?_
  cases h
  exact d2_ tt_
 replace h:Qs3 i w=some r:=h
 rintro e σ ⟨rfl,rfl⟩
 refine Qa g [6,.o (.ln i.length),5] rfl (a1_ Qf) ?_
 cases h
 exact d2_ tt_
def QiU (a:Int)(b:(List Qh)):Option ((Int×(List Qh))⊕((List Qh)⊕(List Qh))):=
 some (.inl ((w64 (a+1)),b))
def QdQ (h:QLL)(b:(List Int))(i:QLL)(j:Int)(l:Qq)(m:QMk)(a:Int)(g:Int)(f:Int)(c:(List Qh)):Option ((Int×(List Qh))⊕((List Qh)⊕(List Qh))):=
 bif (decide (f<(h.length:Int)))then
 (chk (decide (([]:List Int).length+b.length<=4294967296))).bind fun _=>
 (idx i j).bind fun d=>
 (idx h f).bind fun e=>
 (Qi7 l m (Qh.mk a (([]:List Int)++b) d e)).bind fun k=>
 bif (k==0)then
 (chk (decide (c.length+([(Qh.mk a (([]:List Int)++b) d e)]:List Qh).length<=4294967296))).bind fun _=>
 bif (decide (g<=((c++([(Qh.mk a (([]:List Int)++b) d e)]:List Qh)).length:Int)))then
 some (.inr (.inl (c++([(Qh.mk a (([]:List Int)++b) d e)]:List Qh))))
 else
 QiU f (c++([(Qh.mk a (([]:List Int)++b) d e)]:List Qh))
 else
 QiU f c
 else
 some (.inr (.inr c))
def QqW (a:(List Qh)):Option ((Int×(List Qh))⊕((List Qh)⊕(List Qh))):=
 some (.inr (.inl a))
def QqX (a:Int)(b:(List Qh)):Option ((Int×(List Qh))⊕((List Qh)⊕(List Qh))):=
 some (.inl ((w64 (a+1)),b))
def QcY (d:QLL)(f:QLL)(g:(List Int))(h:Qq)(i:QMk)(a:Int)(b:Int)(c:Int)(e:(List Qh)):Option ((Int×(List Qh))⊕((List Qh)⊕(List Qh))):=
 bif (decide (c<(d.length:Int)))then
 (Qw (fun st=>QdQ f g d c h i a b st.1 st.2) (0,e)).bind (Sum.elim (fun q=>QqW q) (fun q=>QqX c q))
 else
 some (.inr (.inr e))
def QqY (a:(List Qh)):Option ((Bool×(List Int)×(List Qh))⊕((List Qh)⊕(List Qh))):=
 some (.inr (.inl a))
def QqZ (at_52:Int)(a:(List Int))(b:QG)(f:Qq):Option Bool:=
 bif (decide (0<=at_52))then
 (idx a at_52).bind fun c=>
 (idx b.Vars at_52).bind fun d=>
 (Qfb f.Colours d.Colour).bind fun e=>
 some (decide (e<=(w64 (c+1))))
 else
 some false
def QmM (a:(List Int))(at_52:Int)(b:Bool):Option ((Int×(List Int))⊕(Int×(List Int))):=
 bif b then
 (idx a at_52).bind fun c=>
 some (.inl ((w64 (at_52-1)),(a.set at_52.toNat 0)))
 else
 some (.inr (at_52,a))
def Qgg (b:QG)(d:Qq)(at_52:Int)(a:(List Int)):Option ((Int×(List Int))⊕(Int×(List Int))):=
 (QqZ at_52 a b d).bind (fun c=>QmM a at_52 c)
def QhL (b:(List Qh))(at_56:Int)(a:(List Int)):Option ((Bool×(List Int)×(List Qh))⊕((List Qh)⊕(List Qh))):=
 bif (decide (0<=at_56))then
 (idx a at_56).bind fun c=>
 (idx a at_56).bind fun d=>
 some (.inl ((decide (0<=at_56)),(a.set at_56.toNat (w64 (c+1))),b))
 else
 some (.inl ((decide (0<=at_56)),a,b))
def QhM (b:QG)(d:Qq)(a:(List Int))(c:(List Qh)):Option ((Bool×(List Int)×(List Qh))⊕((List Qh)⊕(List Qh))):=
 (Qw (fun st=>Qgg b d st.1 st.2) ((w64 ((a.length:Int)-1)),a)).bind (fun q=>QhL c q.1 q.2)
def QhN (f:QLL)(g:QLL)(i:Qq)(j:QMk)(b:Int)(c:Int)(h:QG)(a:Bool)(d:(List Int))(e:(List Qh)):Option ((Bool×(List Int)×(List Qh))⊕((List Qh)⊕(List Qh))):=
 bif a then
 (Qw (fun st=>QcY f g d i j b c st.1 st.2) (0,e)).bind (Sum.elim (fun q=>QqY q) (fun q=>QhM h i d q))
 else
 some (.inr (.inr e))
def Qpz (a:(List Qh)):Option (List Qh):=
 some a
def QpA (a:(List Qh)):Option (List Qh):=
 some a
def Qfu (d:Qq)(g:QMk)(b:Int)(c:Int):Option (List Qh):=
 bif ((decide (b<0))||((decide ((d.Tasks.length:Int)<=b))||(decide (c<1))))then
 some ([]:List Qh)
 else
 (idx d.Tasks b).bind fun a=>
 (chk (decide (0<=(a.Vars.length:Int))&&decide ((a.Vars.length:Int)<=(a.Vars.length:Int))&&decide ((a.Vars.length:Int)<=4294967296))).bind fun _=>
 (Qdp a.Join (a.Ins.length:Int)).bind fun e=>
 (Qdp a.Split (a.Outs.length:Int)).bind fun f=>
 (Qw (fun st=>QhN e f d g b c a st.1 st.2.1 st.2.2) (true,(List.replicate (a.Vars.length:Int).toNat (0:Int)),([]:List Qh))).bind (Sum.elim (fun q=>Qpz q) (fun q=>QpA q))
theorem Qxt (w y g i){r}(h:Qfu w y g i=some r):Qc prog 89 [.agg (Qd w),.sl 1 (y.map Qg),.I g,.I i] [] (Gives (.own 600 r.length) [(600,.arr 4 (r.map Qi))]):=by
 refine wk_ 130 func89 fun C t=>?_
 unfold Qfu at h
 refine tg_ t [8] ?_
 refine AK.meetX (fun σ=>σ=⟨[(1,.sl 1 (y.map Qg)),(2,.I g),(3,.I i),lk_ 4,(31,.b ((decide (g<0))||((decide ((w.Tasks.length:Int)<=g))||(decide (i<1)))))],[(4,.var (Qd w))]⟩) ?_ ?_
 ·refine tg_ t [4] ?_
  rcases QD (decide (g<0))with B | B
  ·refine Qa t [.S 21 (.b true),11,.S 31 (.b ((decide (g<0))||((decide ((w.Tasks.length:Int)<=g))||(decide (i<1))))),.K [1,2,3,4,31] [4]] rfl ⟨(tc_ B),(congrArg V.b (orT B rfl))⟩ ?_
   exact mt_
  refine Qa t [.S 21 (.b false),3,.o (.ln w.Tasks.length),3] rfl ⟨(tc_ B),Qf⟩ ?_
  rcases QD (decide ((w.Tasks.length:Int)<=g))with E | E
  ·refine Qa t [.S 28 (.b true),4,.S 31 (.b ((decide (g<0))||((decide ((w.Tasks.length:Int)<=g))||(decide (i<1))))),.K [1,2,3,4,31] [4]] rfl ⟨(tc_ E),(congrArg V.b (orF B (orT E rfl)))⟩ ?_
   exact mt_
  refine Qa t [.S 28 (.b false),4,.S 31 (.b ((decide (g<0))||((decide ((w.Tasks.length:Int)<=g))||(decide (i<1))))),.K [1,2,3,4,31] [4]] rfl ⟨(tc_ E),(congrArg V.b (orF B (orF E rfl)))⟩ ?_
  exact mt_
 rintro σ rfl
 refine tg_ t [1] ?_
 rcases Qp h with⟨G,h⟩|⟨G,h⟩
 ·refine Qa t [.T,7,.adopt 8 600 4,.O 600 (.arr 4 (([]:List Qh).map Qi)),.S 8 (.own 600 ([]:List Qh).length)] rfl (a3_ G rfl rfl) ?_
  cases h
  exact d1_ r1_
 obtain⟨u,a9,h⟩:=Qb h
 obtain⟨b0,h⟩:=Qao h
 obtain⟨k,b1,h⟩:=Qb h
 obtain⟨p,b2,h⟩:=Qb h
 refine Qa t [.F,7,.o (.row (Qm u)),.A (Qm u),2,.O 9 (.var (Qm u)),6,.o (.ln u.Vars.length),.o (.rows ((List.replicate (u.Vars.length:Int).toNat (0:Int)).map Qe)),.S 40 (.own 40 (List.replicate (u.Vars.length:Int).toNat (0:Int)).length),9,.o (.ln u.Ins.length),.o (.co false [.d,.d] 1 (k.map Qv) k.length),9,.o (.ln u.Outs.length),.o (.co false [.d,.d] 1 (p.map Qv) p.length),15,.adopt 13 84 4,.O 84 (.arr 4 (([]:List Qh).map Qi)),.S 13 (.own 84 ([]:List Qh).length),.K [1,2,3,4,9,10,11,12,13,14] [4,9,40,46,52,84]] rfl ⟨⟨⟨⟨⟨⟨⟨⟨⟨⟨⟨⟨⟨tt_,G⟩,(QE a9)⟩,rfl⟩,rfl⟩,Qf⟩,⟨b0,QAm rfl⟩⟩,(by simp)⟩,Qf⟩,⟨(QkK _ _ b1),Qf,.inl rfl⟩⟩,Qf⟩,⟨(QkK _ _ b2),Qf,.inl rfl⟩⟩,rfl⟩,(congrArg (fun n=>V.own 84 n) (by simp))⟩ ?_
 obtain⟨c6,b3,h⟩:=Qb h
 refine AK.loop (body:=(fun st=>QhN k p w y g i u st.1 st.2.1 st.2.2)) (fun st σ=>σ=⟨[(1,.sl 1 (y.map Qg)),(2,.I g),(3,.I i),lk_ 4,lk_ 9,(10,.own 40 st.2.1.length),(11,.own 46 k.length),(12,.own 52 p.length),(13,.own 84 st.2.2.length),(14,.b st.1)],[(4,.var (Qd w)),(9,.var (Qm u)),(40,.arr 1 (st.2.1.map Qe)),(46,.arr 1 (k.map Qv)),(52,.arr 1 (p.map Qv)),(84,.arr 4 (st.2.2.map Qi))]⟩) (Sum.elim (fun q e σ=>e=.ret/\σ=⟨[(8,.own 84 q.length)],[(84,.arr 4 (q.map Qi))]⟩) (fun q e σ=>e=.exit 0/\σ=⟨[(13,.own 84 q.length)],[(84,.arr 4 (q.map Qi))]⟩)) b3 rfl ?_ ?_
 ·rintro ⟨c5,j,e1⟩ o σ rfl h
  refine tg_ t [6] ?_
  refine bq_ t h [.T,10,.K [1,2,3,4,9,10,11,12,13,15] [4,9,40,46,52,84]] rfl (fun H h=>?_) [.F,2,.K [13] [84]] rfl fun H h=>?_
  ·obtain⟨c7,b4,h⟩:=Qb h
   refine AK.loop (body:=(fun st=>QcY k p j w y g i st.1 st.2)) (fun st σ=>σ=⟨[(1,.sl 1 (y.map Qg)),(2,.I g),(3,.I i),lk_ 4,lk_ 9,(10,.own 40 j.length),(11,.own 46 k.length),(12,.own 52 p.length),(13,.own 84 st.2.length),(15,.I st.1)],[(4,.var (Qd w)),(9,.var (Qm u)),(40,.arr 1 (j.map Qe)),(46,.arr 1 (k.map Qv)),(52,.arr 1 (p.map Qv)),(84,.arr 4 (st.2.map Qi))]⟩) (Sum.elim (fun q e σ=>e=.ret/\σ=⟨[(8,.own 84 q.length)],[(84,.arr 4 (q.map Qi))]⟩) (fun q e σ=>e=.exit 2/\σ=⟨[(1,.sl 1 (y.map Qg)),(2,.I g),(3,.I i),lk_ 4,lk_ 9,(10,.own 40 j.length),(11,.own 46 k.length),(12,.own 52 p.length),(13,.own 84 q.length)],[(4,.var (Qd w)),(9,.var (Qm u)),(40,.arr 1 (j.map Qe)),(46,.arr 1 (k.map Qv)),(52,.arr 1 (p.map Qv)),(84,.arr 4 (q.map Qi))]⟩)) b4 rfl ?_ ?_
   ·rintro ⟨J,e2⟩ o σ rfl h
    refine tg_ t [9] ?_
    refine bq_ t h [.T,10,.K [1,2,3,4,9,10,11,12,13,15,16] [4,9,40,46,52,84]] rfl (fun L h=>?_) [.F,2,.K [1,2,3,4,9,10,11,12,13] [4,9,40,46,52,84]] rfl fun L h=>?_
    ·obtain⟨c8,b5,h⟩:=Qb h
     refine AK.loop (body:=(fun st=>QdQ p j k J w y g i st.1 st.2)) (fun st σ=>σ=⟨[(1,.sl 1 (y.map Qg)),(2,.I g),(3,.I i),lk_ 4,lk_ 9,(10,.own 40 j.length),(11,.own 46 k.length),(12,.own 52 p.length),(13,.own 84 st.2.length),(15,.I J),(16,.I st.1)],[(4,.var (Qd w)),(9,.var (Qm u)),(40,.arr 1 (j.map Qe)),(46,.arr 1 (k.map Qv)),(52,.arr 1 (p.map Qv)),(84,.arr 4 (st.2.map Qi))]⟩) (Sum.elim (fun q e σ=>e=.ret/\σ=⟨[(8,.own 84 q.length)],[(84,.arr 4 (q.map Qi))]⟩) (fun q e σ=>e=.exit 4/\σ=⟨[(1,.sl 1 (y.map Qg)),(2,.I g),(3,.I i),lk_ 4,lk_ 9,(10,.own 40 j.length),(11,.own 46 k.length),(12,.own 52 p.length),(13,.own 84 q.length),(15,.I J)],[(4,.var (Qd w)),(9,.var (Qm u)),(40,.arr 1 (j.map Qe)),(46,.arr 1 (k.map Qv)),(52,.arr 1 (p.map Qv)),(84,.arr 4 (q.map Qi))]⟩)) b5 rfl ?_ ?_
     ·rintro ⟨b6,b7⟩ o σ rfl h
      refine tg_ t [9] ?_
      refine bq_ t h [.T,2] rfl (fun M h=>?_) [.F,2,.K [1,2,3,4,9,10,11,12,13,15] [4,9,40,46,52,84]] rfl fun M h=>?_
      ·refine AK.meet (fun σ=>∃Z:(List Qh),σ=⟨[(1,.sl 1 (y.map Qg)),(2,.I g),(3,.I i),lk_ 4,lk_ 9,(10,.own 40 j.length),(11,.own 46 k.length),(12,.own 52 p.length),(13,.own 84 Z.length),(15,.I J),(16,.I b6)],[(4,.var (Qd w)),(9,.var (Qm u)),(40,.arr 1 (j.map Qe)),(46,.arr 1 (k.map Qv)),(52,.arr 1 (p.map Qv)),(84,.arr 4 (Z.map Qi))]⟩/\QiU b6 Z=some o) ?_ ?_
       ·obtain⟨b8,h⟩:=Qao h
        obtain⟨z,a0,h⟩:=Qb h
        obtain⟨A,a1,h⟩:=Qb h
        refine tg_ t [2,.K [1,2,3,4,9,10,11,12,13,15,16] [4,9,40,46,52,84]] ?_
        refine AK.draw2 Qr t mixed [.a .no none true,.N,.N,.m (.any ⟨[67],[(67,.arr 1 ((([]:List Int)++j).map Qe))],some (69,.own 67 (([]:List Int)++j).length)⟩),.a .no none true,.a .no none true,.a .no none true,.a (.row (Qv z)) none true,.a .no none true,.a .no none true,.a .no none true,.a (.row (Qv A)) none true,.a .no (some ([],.agg [.I g,.own 67 (([]:List Int)++j).length,.sl 1 (z.map Qe),.sl 1 (A.map Qe)])) false,.a .no none true,.m .s] [1,2,3,4,9,10,11,12,13,15,16] [4,9,40,46,52,84] [1,2,3,4,9,10,11,12,13,15,16,17] [4,9,17,40,46,52,67,84] rfl rfl rfl ⟨⟨⟨⟨⟨⟨tt_,(fun σ h1 h2=>Stp.appO rfl rfl (QS t.n rfl) (h1 _ _ rfl) (h2 _ _ rfl) rfl (Qf (f:=Qe) (l:=([]:List Int))) (Qr.es rfl) (Qr.es rfl) (Qr.zv rfl) rfl (by decide) rfl b8 (h1 _ _ rfl) (h2 _ _ rfl) (Qf (f:=Qe) (l:=j)) (Qap (f:=Qe) (l:=([]:List Int)) (m:=j)) (by simp))⟩,(QbW a0 rfl)⟩,(QaN (Qby a0).2)⟩,(QbW a1 rfl)⟩,(QaN (Qby a1).2)⟩,rfl⟩ rfl (by kernel_rfl) rfl rfl rfl ?_
        obtain⟨c9,b9,h⟩:=Qb h
        refine Qa t [.O 17 (.var [.I g,.own 67 (([]:List Int)++j).length,.sl 1 (z.map Qe),.sl 1 (A.map Qe)]),3,.A (Qd w),2,.frz 67 ((([]:List Int)++j).map Qe) [81] [17],.cm (.fn) [] [] [] [.d,.d,.d] [] (.I c9),3] rfl (a4_ rfl rfl (a2_ ⟨(Qcd Qf),tt_⟩ ⟨(Qcd Qf),tt_⟩) (QqV _ _ _ b9)) ?_
        rcases Qp h with⟨P,h⟩|⟨P,h⟩
        ·obtain⟨c0,h⟩:=Qao h
         refine Qa t [.T,3,.A (Qi (Qh.mk g (([]:List Int)++j) z A)),.v (.bd []) [] (.sl 4 (([(Qh.mk g (([]:List Int)++j) z A)]:List Qh).map Qi)),.app ((b7++([(Qh.mk g (([]:List Int)++j) z A)]:List Qh)).map Qi) (b7++([(Qh.mk g (([]:List Int)++j) z A)]:List Qh)).length,11] rfl (a4_ P rfl rfl ⟨Qf,Qbk c0 Qf,Qap,QbG Qf⟩) ?_
         refine bq_ t h [.T,9,.K [8] [84]] rfl (fun U h=>?_) [.F,2,.K [1,2,3,4,9,10,11,12,13,15,16] [4,9,40,46,52,84]] rfl fun U h=>?_
         ·cases h
          exact Q6 rfl (an_ rfl rfl)
         exact AK.met (ex_ _ (an_ rfl h))
        refine Qa t [.F,2,.K [1,2,3,4,9,10,11,12,13,15,16] [4,9,40,46,52,84]] rfl (a1_ P) ?_
        exact AK.met (ex_ _ (an_ rfl h))
       rintro σ ⟨Z,rfl,h⟩
       refine tg_ t [5,.K [1,2,3,4,9,10,11,12,13,15,16] [4,9,40,46,52,84]] ?_
       cases h
       exact QR rfl rfl
      cases h
      exact QT rfl (an_ rfl rfl)
     rcases c8 with(d0 | d1)
     ·replace h:QqW d0=some o:=h
      rintro e σ ⟨rfl,rfl⟩
      refine tg_ t [3,.K [8] [84]] ?_
      cases h
      exact Q6 rfl (an_ rfl rfl)
     replace h:QqX J d1=some o:=h
     rintro e σ ⟨rfl,rfl⟩
     refine tg_ t [8,.K [1,2,3,4,9,10,11,12,13,15] [4,9,40,46,52,84]] ?_
     cases h
     exact QR rfl rfl
    cases h
    exact QT rfl (an_ rfl rfl)
   rcases c7 with(d2 | x)
   ·replace h:QqY d2=some o:=h
    rintro e σ ⟨rfl,rfl⟩
    refine tg_ t [3,.K [8] [84]] ?_
    cases h
    exact Q6 rfl (an_ rfl rfl)
   replace h:QhM u w j x=some o:=h
   rintro e σ ⟨rfl,rfl⟩
   refine tg_ t [12,.K [1,2,3,4,9,10,11,12,13,18] [4,9,40,46,52,84]] ?_
   obtain⟨d3,c1,h⟩:=Qb h
   refine AK.loop (body:=(fun st=>Qgg u w st.1 st.2)) (fun st σ=>σ=⟨[(1,.sl 1 (y.map Qg)),(2,.I g),(3,.I i),lk_ 4,lk_ 9,(10,.own 40 st.2.length),(11,.own 46 k.length),(12,.own 52 p.length),(13,.own 84 x.length),(18,.I st.1)],[(4,.var (Qd w)),(9,.var (Qm u)),(40,.arr 1 (st.2.map Qe)),(46,.arr 1 (k.map Qv)),(52,.arr 1 (p.map Qv)),(84,.arr 4 (x.map Qi))]⟩) (fun q e σ=>e=.exit 6/\σ=⟨[(1,.sl 1 (y.map Qg)),(2,.I g),(3,.I i),lk_ 4,lk_ 9,(10,.own 40 q.2.length),(11,.own 46 k.length),(12,.own 52 p.length),(13,.own 84 x.length),(18,.I q.1)],[(4,.var (Qd w)),(9,.var (Qm u)),(40,.arr 1 (q.2.map Qe)),(46,.arr 1 (k.map Qv)),(52,.arr 1 (p.map Qv)),(84,.arr 4 (x.map Qi))]⟩) c1 rfl ?_ ?_
   ·rintro ⟨at_52,D⟩ o σ rfl h
    refine tg_ t [2] ?_
    obtain⟨a6,c2,h⟩:=Qb h
    replace h:QmM D at_52 a6=some o:=h
    refine AK.meetX (fun σ=>σ=⟨[(1,.sl 1 (y.map Qg)),(2,.I g),(3,.I i),lk_ 4,lk_ 9,(10,.own 40 D.length),(11,.own 46 k.length),(12,.own 52 p.length),(13,.own 84 x.length),(18,.I at_52),(114,.b a6)],[(4,.var (Qd w)),(9,.var (Qm u)),(40,.arr 1 (D.map Qe)),(46,.arr 1 (k.map Qv)),(52,.arr 1 (p.map Qv)),(84,.arr 4 (x.map Qi))]⟩) ?_ ?_
    ·replace h:=c2
     refine tg_ t [.K [1,2,3,4,9,10,11,12,13,18] [4,9,40,46,52,84]] ?_
     rcases Qp h with⟨W,h⟩|⟨W,h⟩
     ·obtain⟨d4,a2,h⟩:=Qb h
      obtain⟨d5,c3,h⟩:=Qb h
      obtain⟨d6,c4,h⟩:=Qb h
      refine AK.draw2 Qr t mixed [.N,.N,.a .no (some ([],.b true)) false,.N,.N,.N,.a (.row (Qe d4)) none false,.N,.N,.N,.N,.N,.N,.a (.row (QP d5)) none false,.N,.N,.a (.C2 (.I d6)) none false,.N,.N] [] [] [1,2,3,4,9,10,11,12,13,18,114] [4,9,40,46,52,84] rfl rfl rfl ⟨⟨⟨⟨(tc_ W),(QbW a2 rfl)⟩,(QaN (Qby a2).2)⟩,(QE c3)⟩,(Qnx _ _ c4)⟩ rfl (by kernel_rfl) rfl rfl rfl ?_
      refine tg_ t [.K [1,2,3,4,9,10,11,12,13,18,114] [4,9,40,46,52,84]] ?_
      cases h
      exact mt_
     refine AK.draw2 Qr t mixed [.N,.N,.a .no (some ([],.b false)) false,.N,.N,.N,.N,.N,.N,.N,.N,.N,.N,.N,.N,.N,.N,.N,.N] [] [] [1,2,3,4,9,10,11,12,13,18,114] [4,9,40,46,52,84] rfl rfl rfl (tc_ W) rfl (by kernel_rfl) rfl rfl rfl ?_
     refine tg_ t [.K [1,2,3,4,9,10,11,12,13,18,114] [4,9,40,46,52,84]] ?_
     cases h
     exact mt_
    rintro σ rfl
    replace h:QmM D at_52 a6=some o:=h
    refine tg_ t [1] ?_
    rcases Qp h with⟨X,h⟩|⟨X,h⟩
    ·obtain⟨d7,a3,h⟩:=Qb h
     refine Qa t [.T,8,.st (Qe d7) ((D.set at_52.toNat 0).map Qe),8,.S 10 (.own 40 (D.set at_52.toNat 0).length),.K [1,2,3,4,9,10,11,12,13,18] [4,9,40,46,52,84]] rfl (a4_ X (QbW a3 rfl) ⟨(QaN (Qby a3).2),QhQ rfl⟩ (congrArg (fun n=>V.own 40 n) (by simp))) ?_
     cases h
     exact QR rfl rfl
    refine Qa t [.F,2,.K [1,2,3,4,9,10,11,12,13,18] [4,9,40,46,52,84]] rfl (a1_ X) ?_
    cases h
    exact QT rfl (an_ rfl rfl)
   obtain⟨at_56,a7⟩:=d3
   replace h:QhL x at_56 a7=some o:=h
   rintro e σ ⟨rfl,rfl⟩
   refine tg_ t [14] ?_
   rcases Qp h with⟨Y,h⟩|⟨Y,h⟩
   ·obtain⟨a8,a4,h⟩:=Qb h
    obtain⟨d8,a5,h⟩:=Qb h
    refine Qa t [.T,4,.o (.row (Qe a8)),2,.st (Qe d8) ((a7.set at_56.toNat (w64 (a8+1))).map Qe),2,.S 10 (.own 40 (a7.set at_56.toNat (w64 (a8+1))).length),.K [1,2,3,4,9,10,11,12,13,14] [4,9,40,46,52,84]] rfl (a6_ Y (QbW a4 rfl) (QaN (Qby a4).2) (QbW a5 rfl) ⟨(QaN (Qby a5).2),QhQ rfl⟩ (congrArg (fun n=>V.own 40 n) (by simp))) ?_
    cases h
    exact QR rfl rfl
   refine Qa t [.F,2,.K [1,2,3,4,9,10,11,12,13,14] [4,9,40,46,52,84]] rfl (a1_ Y) ?_
   cases h
   exact QR rfl rfl
  cases h
  exact QT rfl (an_ rfl rfl)
 rcases c6 with(d9 | e0)
 ·replace h:Qpz d9=some r:=h
  rintro e σ ⟨rfl,rfl⟩
  refine tg_ t [2,.K [8] [84],.ren 84 600] ?_
  cases h
  exact d1_ r1_
 replace h:QpA e0=some r:=h
 rintro e σ ⟨rfl,rfl⟩
 refine tg_ t [9,.K [8] [84],.ren 84 600] ?_
 cases h
 exact d1_ r1_
def Qid (e:Qq)(f:QMk)(a:Int)(d:Int)(c:(List Qh)):Option ((Int×(List Qh))⊕(List Qh)):=
 bif (decide (d<(e.Tasks.length:Int)))then
 (Qfu e f d (w64 (a-(c.length:Int)))).bind fun b=>
 (chk (decide (c.length+b.length<=4294967296))).bind fun _=>
 some (.inl ((w64 (d+1)),(c++b)))
 else
 some (.inr c)
def Qs4 (a:(List Qh)):Option (List Qh):=
 some a
def Qoq (b:Qq)(c:QMk)(a:Int):Option (List Qh):=
 (Qw (fun st=>Qid b c a st.1 st.2) (0,([]:List Qh))).bind (fun q=>Qs4 q)
theorem Qzm (f l a){r}(h:Qoq f l a=some r):Qc prog 46 [.agg (Qd f),.sl 1 (l.map Qg),.I a] [] (Gives (.own 600 r.length) [(600,.arr 4 (r.map Qi))]):=by
 refine wk_ 27 func46 fun C g=>?_
 refine Qa g [18,.adopt 7 16 4,.O 16 (.arr 4 (([]:List Qh).map Qi)),.S 7 (.own 16 ([]:List Qh).length),.K [1,2,3,7,8] [3,16]] rfl (a2_ rfl (congrArg (fun n=>V.own 16 n) (by simp))) ?_
 obtain⟨m,i,h⟩:=Qb h
 refine AK.loop (body:=(fun st=>Qid f l a st.1 st.2)) (fun st σ=>σ=⟨[(1,.sl 1 (l.map Qg)),(2,.I a),lk_ 3,(7,.own 16 st.2.length),(8,.I st.1)],[(3,.var (Qd f)),(16,.arr 4 (st.2.map Qi))]⟩) (fun q e σ=>e=.exit 0/\σ=⟨[(7,.own 16 q.length)],[(16,.arr 4 (q.map Qi))]⟩) i rfl ?_ ?_
 ·rintro ⟨s,p⟩ o σ rfl h
  refine Qa g [6,.o (.ln f.Tasks.length),3] rfl (a1_ Qf) ?_
  rcases Qp h with⟨b,h⟩|⟨b,h⟩
  ·obtain⟨c,j,h⟩:=Qb h
   obtain⟨k,h⟩:=Qao h
   refine Qa g [.T,6,.A (Qd f),6,.o (.co false [.d,.d,.d,.d] 4 (c.map Qi) c.length),.app ((p++c).map Qi) (p++c).length,9,.K [1,2,3,7,8] [3,16]] rfl (a4_ b rfl ⟨(Qxt _ _ _ _ j),Qf,.inl rfl⟩ ⟨Qf,k,Qf,Qap,by simp⟩) ?_
   cases h
   exact QR rfl rfl
  refine Qa g [.F,2,.K [7] [16]] rfl (a1_ b) ?_
  cases h
  exact QT rfl (an_ rfl rfl)
 replace h:Qs4 m=some r:=h
 rintro e σ ⟨rfl,rfl⟩
 refine tg_ g [9,.K [6] [16],.ren 16 600] ?_
 cases h
 exact d1_ r1_
def Qgh (b:(List Qh))(g:Qq)(h:QMk)(a:(List Qh))(i:Int)(c:Int):Option ((QMk×Int×(List Qh))⊕((List Qh)⊕(List Qh))):=
 (idx b c).bind fun f=>
 (QnD g h f).bind fun d=>
 bif (d.2 != 0)then
 some (.inr (.inl a))
 else
 (idx b c).bind fun e=>
 (chk (decide (a.length+([e]:List Qh).length<=4294967296))).bind fun _=>
 some (.inl (d.1,(w64 (i+1)),(a++([e]:List Qh))))
def Qgi (b:(List Int))(f:Qq)(g:QMk)(e:Int)(c:(List Qh)):Option ((QMk×Int×(List Qh))⊕((List Qh)⊕(List Qh))):=
 bif (decide (e<(b.length:Int)))then
 (Qoq f g 4096).bind fun a=>
 bif ((a.length:Int)==0)then
 some (.inr (.inl c))
 else
 (idx b e).bind fun d=>
 (chk ((a.length:Int) != 0)).bind fun _=>
 bif (decide ((Int.tmod d (a.length:Int))<0))then
 Qgh a f g c e (w64 ((Int.tmod d (a.length:Int))+(a.length:Int)))
 else
 Qgh a f g c e (Int.tmod d (a.length:Int))
 else
 some (.inr (.inr c))
def Qq0 (a:(List Qh)):Option (List Qh):=
 some a
def Qq1 (a:(List Qh)):Option (List Qh):=
 some a
def Qms (b:Qq)(c:QMk)(a:(List Int)):Option (List Qh):=
 (Qw (fun st=>Qgi a b st.1 st.2.1 st.2.2) (c,0,([]:List Qh))).bind (Sum.elim (fun q=>Qq0 q) (fun q=>Qq1 q))
theorem Qxu (s P b){r}(h:Qms s P b=some r):Qc prog 23 [.agg (Qd s),.sl 1 (P.map Qg),.sl 1 (b.map Qe)] [] (Gives (.own 600 r.length) [(600,.arr 4 (r.map Qi))]):=by
 refine wk_ 61 func23 fun C f=>?_
 refine Qa f [18,.adopt 7 52 4,.O 52 (.arr 4 (([]:List Qh).map Qi)),.S 7 (.own 52 ([]:List Qh).length),.K [1,2,3,7,8] [3,52]] rfl (a2_ rfl (congrArg (fun n=>V.own 52 n) (by simp))) ?_
 obtain⟨H,x,h⟩:=Qb h
 refine AK.loop (body:=(fun st=>Qgi b s st.1 st.2.1 st.2.2)) (fun st σ=>σ=⟨[(1,.sl 1 (st.1.map Qg)),(2,.sl 1 (b.map Qe)),lk_ 3,(7,.own 52 st.2.2.length),(8,.I st.2.1)],[(3,.var (Qd s)),(52,.arr 4 (st.2.2.map Qi))]⟩) (Sum.elim (fun q e σ=>e=.ret/\σ=⟨[(6,.own 52 q.length)],[(52,.arr 4 (q.map Qi))]⟩) (fun q e σ=>e=.exit 0/\σ=⟨[(7,.own 52 q.length)],[(52,.arr 4 (q.map Qi))]⟩)) x rfl ?_ ?_
 ·rintro ⟨U,W,g⟩ o σ rfl h
  refine Qa f [5,.o (.ln b.length),3] rfl (a1_ Qf) ?_
  rcases Qp h with⟨i,h⟩|⟨i,h⟩
  ·obtain⟨j,y,h⟩:=Qb h
   refine Qa f [.T,6,.A (Qd s),1,.o (.co false [.d,.d,.d] 4 (j.map Qi) j.length),11] rfl (a3_ i rfl ⟨(Qzm _ _ _ y),Qf,.inl rfl⟩) ?_
   rcases Qp h with⟨k,h⟩|⟨k,h⟩
   ·refine Qa f [.T,10,.K [6] [52]] rfl (a1_ k) ?_
    cases h
    exact Q6 rfl (an_ rfl rfl)
   obtain⟨J,z,h⟩:=Qb h
   obtain⟨A,h⟩:=Qao h
   refine Qa f [.F,6,.o (.row (Qe J)),7] rfl (a3_ k (QE z) (neZ A)) ?_
   refine AK.meet (fun σ=>∃w:Int,σ=⟨[(1,.sl 1 (U.map Qg)),(2,.sl 1 (b.map Qe)),lk_ 3,(7,.own 52 g.length),(8,.I W),(9,.own 21 j.length),(10,.I w)],[(3,.var (Qd s)),(21,.arr 4 (j.map Qi)),(52,.arr 4 (g.map Qi))]⟩/\Qgh j s U g W w=some o) ?_ ?_
   ·refine tg_ f [6] ?_
    refine bq_ f h [.T,7,.K [1,2,3,7,8,9,10] [3,21,52]] rfl (fun l h=>?_) [.F,1,.K [1,2,3,7,8,9,10] [3,21,52]] rfl fun l h=>?_
    ·exact AK.met (ex_ _ (an_ rfl h))
    exact AK.met (ex_ _ (an_ rfl h))
   rintro σ ⟨w,rfl,h⟩
   obtain⟨B,t,h⟩:=Qb h
   obtain⟨D,E,h⟩:=Qb h
   refine tg_ f [1,.K [1,2,3,7,8,9,10] [3,21,52]] ?_
   refine AK.draw2 Qr f mixed [.a .no (some ([],.agg (Qd s))) false,.N,.N,.N,.N,.a (.row (Qi B)) (some ([],.agg (Qi B))) false,.a (.C3 (.tup [.sl 1 (D.1.map Qg),.I D.2])) none false,.N,.N,.N,.N,.N] [] [] [2,3,7,8,9,10,11,12] [3,21,52] rfl rfl rfl ⟨⟨⟨⟨⟨tt_,rfl⟩,(QbW t rfl)⟩,(QaN (Qby t).2)⟩,rfl⟩,(Quy _ _ _ E)⟩ rfl (by kernel_rfl) rfl rfl rfl ?_
   refine tg_ f [8] ?_
   rcases Qp h with⟨m,h⟩|⟨m,h⟩
   ·refine Qa f [.T,10,.K [6] [52]] rfl (a1_ m) ?_
    cases h
    exact Q6 rfl (an_ rfl rfl)
   obtain⟨p,u,h⟩:=Qb h
   obtain⟨G,h⟩:=Qao h
   refine Qa f [.F,8,.v (.row (Qi p)) [] (.agg (Qi p)),.v (.bd []) [] (.sl 4 (([p]:List Qh).map Qi)),.app ((g++([p]:List Qh)).map Qi) (g++([p]:List Qh)).length,14,.K [1,2,3,7,8] [3,52]] rfl (a6_ m (QbW u rfl) (QaN (Qby u).2) rfl rfl ⟨Qf,Qbk G Qf,Qap,QbG Qf⟩) ?_
   cases h
   exact QR rfl rfl
  refine Qa f [.F,2,.K [7] [52]] rfl (a1_ i) ?_
  cases h
  exact QT rfl (an_ rfl rfl)
 rcases H with(L | M)
 ·replace h:Qq0 L=some r:=h
  rintro e σ ⟨rfl,rfl⟩
  refine tg_ f [2,.K [6] [52],.ren 52 600] ?_
  cases h
  exact d1_ r1_
 replace h:Qq1 M=some r:=h
 rintro e σ ⟨rfl,rfl⟩
 refine tg_ f [9,.K [6] [52],.ren 52 600] ?_
 cases h
 exact d1_ r1_
def Qsa (a:Qh)(b:Qh):Option Bool:=
 bif (a.Task==b.Task)then
 (Qh8 a.Vars b.Vars).bind fun d=>
 bif d then
 (Qh8 a.Ins b.Ins).bind fun e=>
 bif e then
 (Qh8 a.Outs b.Outs).bind fun c=>
 some c
 else
 some false
 else
 some false
 else
 some false
def Qkh (a:Bool):Option Bool:=
 some a
def Qq2 (a:Qh)(b:Qh):Option Bool:=
 (Qsa a b).bind (fun c=>Qkh c)
theorem Qyq (q s){r}(h:Qq2 q s=some r):Qc prog 44 [.agg (Qi q),.agg (Qi s)] [] (Gives (.b r) []):=by
 refine wk_ 31 func44 fun C e=>?_
 refine tg_ e [8] ?_
 obtain⟨j,k,h⟩:=Qb h
 replace h:Qkh j=some r:=h
 refine AK.meetX (fun σ=>σ=⟨[(4,.b j)],[]⟩) ?_ ?_
 ·replace h:=k
  refine tg_ e [7] ?_
  rcases Qp h with⟨f,h⟩|⟨f,h⟩
  ·obtain⟨t,l,h⟩:=Qb h
   refine Qa e [.S 10 (.b true),4,.o (.C2 (.b t)),2] rfl ⟨(tc_ f),(Qka _ _ l)⟩ ?_
   rcases Qp h with⟨g,h⟩|⟨g,h⟩
   ·obtain⟨u,m,h⟩:=Qb h
    refine Qa e [.S 17 (.b true),4,.o (.C2 (.b u)),2] rfl ⟨(tc_ g),(Qka _ _ m)⟩ ?_
    rcases Qp h with⟨a,h⟩|⟨a,h⟩
    ·obtain⟨p,i,h⟩:=Qb h
     refine Qa e [.S 24 (.b true),4,.o (.C2 (.b p)),3,.K [4] []] rfl ⟨(tc_ a),(Qka _ _ i)⟩ ?_
     cases h
     exact mt_
    refine Qa e [.S 24 (.b false),8,.K [4] []] rfl (tc_ a) ?_
    cases h
    exact mt_
   refine Qa e [.S 17 (.b false),15,.K [4] []] rfl (tc_ g) ?_
   cases h
   exact mt_
  refine Qa e [.S 10 (.b false),22,.K [4] []] rfl (tc_ f) ?_
  cases h
  exact mt_
 rintro σ rfl
 replace h:Qkh j=some r:=h
 refine tg_ e [2] ?_
 cases h
 exact d1_ tt_
def QdR (d:(List Qh))(e:(List Qh))(a:Int):Option (Int⊕(Unit⊕Unit)):=
 bif (decide (a<(d.length:Int)))then
 (idx d a).bind fun f=>
 (idx e a).bind fun b=>
 (Qq2 f b).bind fun c=>
 bif (!c)then
 some (.inr (.inl ()))
 else
 some (.inl (w64 (a+1)))
 else
 some (.inr (.inr ()))
def Qq3 : Option Bool:=
 some false
def Qq4 : Option Bool:=
 some true
def Qmt (a:(List Qh))(b:(List Qh)):Option Bool:=
 bif ((a.length:Int) != (b.length:Int))then
 some false
 else
 (Qw (fun st=>QdR a b st) 0).bind (Sum.elim (fun q=>Qq3) (fun q=>Qq4))
theorem Qxv (k l){r}(h:Qmt k l=some r):Qc prog 21 [.sl 4 (k.map Qi),.sl 4 (l.map Qi)] [] (Gives (.b r) []):=by
 refine wk_ 29 func21 fun C f=>?_
 refine Qa f [9,.o (.ln k.length),1,.o (.ln l.length),3] rfl (a2_ Qf Qf) ?_
 refine bq_ f h [.T,7,.K [4] []] rfl (fun i h=>?_) [.F,9,.K [0,1,5] []] rfl fun i h=>?_
 ·cases h
  exact d1_ tt_
 obtain⟨u,m,h⟩:=Qb h
 refine AK.loop (body:=(fun st=>QdR k l st)) (fun st σ=>σ=⟨[(0,.sl 4 (k.map Qi)),(1,.sl 4 (l.map Qi)),(5,.I st)],[]⟩) (Sum.elim (fun q e σ=>e=.ret/\σ=⟨[(4,.b false)],[]⟩) (fun q e σ=>e=.exit 0/\σ=⟨[],[]⟩)) m rfl ?_ ?_
 ·rintro y o σ rfl h
  refine Qa f [5,.o (.ln k.length),3] rfl (a1_ Qf) ?_
  rcases Qp h with⟨j,h⟩|⟨j,h⟩
  ·obtain⟨x,v,h⟩:=Qb h
   obtain⟨p,s,h⟩:=Qb h
   obtain⟨w,t,h⟩:=Qb h
   refine Qa f [.T,5,.K [0,1,5] []] rfl (a1_ j) ?_
   refine AK.draw2 Qr f mixed [.N,.N,.a (.row (Qi x)) none false,.a .no (some ([],.agg (Qi x))) false,.N,.N,.a (.row (Qi p)) none false,.a .no (some ([],.agg (Qi p))) false,.a (.C2 (.b w)) none false,.N] [] [] [0,1,5,6] [] rfl rfl rfl ⟨⟨⟨⟨⟨tt_,(QE v)⟩,rfl⟩,(QE s)⟩,rfl⟩,(Qyq _ _ t)⟩ rfl (by kernel_rfl) rfl rfl rfl ?_
   refine tg_ f [7] ?_
   refine bq_ f h [.T,8,.K [4] []] rfl (fun g h=>?_) [.F,8,.K [0,1,5] []] rfl fun g h=>?_
   ·cases h
    exact Q6 rfl (an_ rfl rfl)
   cases h
   exact QR rfl rfl
  refine Qa f [.F,2,.K [] []] rfl (a1_ j) ?_
  cases h
  exact QT rfl (an_ rfl rfl)
 rcases u with(_ | _)
 ·replace h:Qq3=some r:=h
  rintro e σ ⟨rfl,rfl⟩
  refine tg_ f [2] ?_
  cases h
  exact d1_ tt_
 replace h:Qq4=some r:=h
 rintro e σ ⟨rfl,rfl⟩
 refine tg_ f [8] ?_
 cases h
 exact d1_ tt_
def QnR (b:(List Qh))(a:Int):Option Bool:=
 (idx b a).bind fun c=>
 bif (decide (20<(c.Vars.length:Int)))then
 some true
 else
 (idx b a).bind fun d=>
 bif (decide (20<(d.Ins.length:Int)))then
 some true
 else
 (idx b a).bind fun e=>
 some (decide (20<(e.Outs.length:Int)))
def Qgy (a:Int)(b:Bool):Option (Int⊕(Unit⊕Unit)):=
 bif b then
 some (.inr (.inl ()))
 else
 some (.inl (w64 (a+1)))
def Qbi (c:(List Qh))(a:Int):Option (Int⊕(Unit⊕Unit)):=
 bif (decide (a<(c.length:Int)))then
 (QnR c a).bind (fun b=>Qgy a b)
 else
 some (.inr (.inr ()))
def QnS (a:Bool):Option Bool:=
 some a
def QnT (j:Bool)(b:(QMk×Int))(c:(QMk×Int))(h:Qq)(i:QMk)(a:(List Int)):Option Bool:=
 bif j then
 bif (b.2==c.2)then
 (Qgc b.1 c.1).bind fun d=>
 bif d then
 (Qgb h i a).bind fun e=>
 (Qms h i a).bind fun f=>
 (Qmt e f).bind fun g=>
 some g
 else
 some false
 else
 some false
 else
 some false
def Qju (a:Bool):Option Bool:=
 some a
def Qgz (b:Qq)(c:QMk)(g:(List Qh))(h:Bool)(a:(List Int)):Option Bool:=
 (Qnn b c g).bind fun d=>
 (Qop b c g).bind fun e=>
 (QnT h d e b c a).bind (fun f=>Qju f)
def Qgj (d:Qq)(e:QMk)(b:(List Qh))(a:(List Int)):Option Bool:=
 (QoU).bind fun c=>
 (Qnv d e).bind fun f=>
 bif ((!f)||((decide (12<(b.length:Int)))||(decide (8<(a.length:Int)))))then
 some c
 else
 (Qw (fun st=>Qbi b st) 0).bind (Sum.elim (fun q=>QnS c) (fun q=>Qgz d e b c a))
theorem QuN (p B l f){r}(h:Qgj p B l f=some r):Qc prog 4 [.agg (Qd p),.sl 1 (B.map Qg),.sl 4 (l.map Qi),.sl 1 (f.map Qe)] [] (Gives (.b r) []):=by
 refine wk_ 101 func4 fun C g=>?_
 obtain⟨z,a9,h⟩:=Qb h
 obtain⟨H,b0,h⟩:=Qb h
 refine Qa g [8,.o (.c false [] (.b z)),5,.A (Qd p),1,.o (.C2 (.b H)),5] rfl (a3_ (Qxa  a9) rfl (Qyk _ _ b0)) ?_
 refine AK.meetX (fun σ=>σ=⟨[(1,.sl 1 (B.map Qg)),(2,.sl 4 (l.map Qi)),(3,.sl 1 (f.map Qe)),lk_ 4,(9,.b z),(31,.b ((!H)||((decide (12<(l.length:Int)))||(decide (8<(f.length:Int))))))],[(4,.var (Qd p))]⟩) ?_ ?_
 ·refine tg_ g [4] ?_
  rcases QD (!H)with i | i
  ·refine Qa g [.S 22 (.b true),10,.S 31 (.b ((!H)||((decide (12<(l.length:Int)))||(decide (8<(f.length:Int)))))),.K [1,2,3,4,9,31] [4]] rfl ⟨(tc_ i),(congrArg V.b (orT i rfl))⟩ ?_
   exact mt_
  refine Qa g [.S 22 (.b false),1,.o (.ln l.length),3] rfl ⟨(tc_ i),Qf⟩ ?_
  rcases QD (decide (12<(l.length:Int)))with j | j
  ·refine Qa g [.S 27 (.b true),5,.S 31 (.b ((!H)||((decide (12<(l.length:Int)))||(decide (8<(f.length:Int)))))),.K [1,2,3,4,9,31] [4]] rfl ⟨(tc_ j),(congrArg V.b (orF i (orT j rfl)))⟩ ?_
   exact mt_
  refine Qa g [.S 27 (.b false),1,.o (.ln f.length),3,.S 31 (.b ((!H)||((decide (12<(l.length:Int)))||(decide (8<(f.length:Int)))))),.K [1,2,3,4,9,31] [4]] rfl ⟨⟨(tc_ j),Qf⟩,(congrArg V.b (orF i (orF j rfl)))⟩ ?_
  exact mt_
 rintro σ rfl
 refine tg_ g [1] ?_
 refine bq_ g h [.T,8,.K [8] []] rfl (fun s h=>?_) [.F,9,.K [1,2,3,4,9,11] [4]] rfl fun s h=>?_
 ·cases h
  exact d1_ tt_
 obtain⟨b1,J,h⟩:=Qb h
 refine AK.loop (body:=(fun st=>Qbi l st)) (fun st σ=>σ=⟨[(1,.sl 1 (B.map Qg)),(2,.sl 4 (l.map Qi)),(3,.sl 1 (f.map Qe)),lk_ 4,(9,.b z),(11,.I st)],[(4,.var (Qd p))]⟩) (Sum.elim (fun q e σ=>e=.ret/\σ=⟨[(8,.b z)],[]⟩) (fun q e σ=>e=.exit 0/\σ=⟨[(1,.sl 1 (B.map Qg)),(2,.sl 4 (l.map Qi)),(3,.sl 1 (f.map Qe)),lk_ 4,(9,.b z)],[(4,.var (Qd p))]⟩)) J rfl ?_ ?_
 ·rintro D o σ rfl h
  refine Qa g [5,.o (.ln l.length),3] rfl (a1_ Qf) ?_
  refine bq_ g h [.T,5] rfl (fun t h=>?_) [.F,2,.K [1,2,3,4,9] [4]] rfl fun t h=>?_
  ·obtain⟨E,L,h⟩:=Qb h
   replace h:Qgy D E=some o:=h
   refine AK.meetX (fun σ=>σ=⟨[(1,.sl 1 (B.map Qg)),(2,.sl 4 (l.map Qi)),(3,.sl 1 (f.map Qe)),lk_ 4,(9,.b z),(11,.I D),(63,.b E)],[(4,.var (Qd p))]⟩) ?_ ?_
   ·replace h:=L
    obtain⟨M,O,h⟩:=Qb h
    refine Qa g [3,.o (.row (Qi M)),2,.o (.ln M.Vars.length),2] rfl (a2_ (QE O) Qf) ?_
    rcases Qp h with⟨u,h⟩|⟨u,h⟩
    ·refine Qa g [.S 46 (.b true),18,.K [1,2,3,4,9,11,63] [4]] rfl (tc_ u) ?_
     cases h
     exact mt_
    obtain⟨P,U,h⟩:=Qb h
    refine Qa g [.S 46 (.b false),2,.o (.row (Qi P)),2,.o (.ln P.Ins.length),3] rfl ⟨⟨(tc_ u),(QE U)⟩,Qf⟩ ?_
    rcases Qp h with⟨w,h⟩|⟨w,h⟩
    ·refine Qa g [.S 55 (.b true),9,.K [1,2,3,4,9,11,63] [4]] rfl (tc_ w) ?_
     cases h
     exact mt_
    obtain⟨W,X,h⟩:=Qb h
    refine Qa g [.S 55 (.b false),2,.o (.row (Qi W)),2,.o (.ln W.Outs.length),3,.K [1,2,3,4,9,11,63] [4]] rfl ⟨⟨(tc_ w),(QE X)⟩,Qf⟩ ?_
    cases h
    exact mt_
   rintro σ rfl
   replace h:Qgy D E=some o:=h
   refine tg_ g [1] ?_
   refine bq_ g h [.T,9,.K [8] []] rfl (fun x h=>?_) [.F,8,.K [1,2,3,4,9,11] [4]] rfl fun x h=>?_
   ·cases h
    exact Q6 rfl (an_ rfl rfl)
   cases h
   exact QR rfl rfl
  cases h
  exact QT rfl (an_ rfl rfl)
 rcases b1 with(_ | _)
 ·replace h:QnS z=some r:=h
  rintro e σ ⟨rfl,rfl⟩
  refine tg_ g [2] ?_
  cases h
  exact d1_ tt_
 replace h:Qgz p B l z f=some r:=h
 rintro e σ ⟨rfl,rfl⟩
 obtain⟨Y,Z,h⟩:=Qb h
 obtain⟨a0,a1,h⟩:=Qb h
 refine Qa g [4,.A (Qd p),2,.o (.C3 (.tup [.sl 1 (Y.1.map Qg),.I Y.2])),9,.A (Qd p),2,.o (.C3 (.tup [.sl 1 (a0.1.map Qg),.I a0.2])),8] rfl (a4_ rfl (Qur _ _ _ Z) rfl (Qzl _ _ _ a1)) ?_
 obtain⟨G,a2,h⟩:=Qb h
 replace h:Qju G=some r:=h
 refine AK.meetX (fun σ=>σ=⟨[(8,.b G)],[]⟩) ?_ ?_
 ·replace h:=a2
  refine tg_ g [.K [1,3,4,9,12,13,14,15] [4]] ?_
  rcases Qp h with⟨k,h⟩|⟨k,h⟩
  ·rcases Qp h with⟨m,h⟩|⟨m,h⟩
   ·obtain⟨a3,A,h⟩:=Qb h
    rcases Qp h with⟨y,h⟩|⟨y,h⟩
    ·obtain⟨a4,a5,h⟩:=Qb h
     obtain⟨a6,a7,h⟩:=Qb h
     obtain⟨b2,a8,h⟩:=Qb h
     refine AK.draw2 Qr g mixed [.N,.a .no (some ([],.b true)) false,.N,.N,.N,.N,.a .no (some ([],.b true)) false,.N,.N,.a (.C2 (.b a3)) none false,.N,.a .no (some ([],.b true)) false,.a .no (some ([],.agg (Qd p))) false,.N,.N,.a (.cd false [.d,.d,.d] 4 (a4.map Qi) a4.length) none false,.a .no (some ([],.agg (Qd p))) false,.N,.N,.a (.cd false [.d,.d,.d] 4 (a6.map Qi) a6.length) none false,.a (.C2 (.b b2)) none false,.N,.N] [] [] [8] [] rfl rfl rfl ⟨⟨⟨⟨⟨⟨⟨⟨(tc_ k),(cb_ m)⟩,(Qjp _ _ A)⟩,(cb_ y)⟩,rfl⟩,⟨(QrF _ _ _ a5),Qf⟩⟩,rfl⟩,⟨(Qxu _ _ _ a7),Qf⟩⟩,(Qxv _ _ a8)⟩ rfl (by kernel_rfl) rfl rfl rfl ?_
     refine tg_ g [.K [8] []] ?_
     cases h
     exact mt_
    refine AK.draw2 Qr g mixed [.N,.a .no (some ([],.b true)) false,.N,.N,.N,.N,.a .no (some ([],.b true)) false,.N,.N,.a (.C2 (.b a3)) none false,.N,.a .no (some ([],.b false)) false,.N,.N,.N,.N,.N,.N,.N,.N,.N,.N,.N] [] [] [8] [] rfl rfl rfl ⟨⟨⟨(tc_ k),(cb_ m)⟩,(Qjp _ _ A)⟩,(cb_ y)⟩ rfl (by kernel_rfl) rfl rfl rfl ?_
    refine tg_ g [.K [8] []] ?_
    cases h
    exact mt_
   refine AK.draw2 Qr g mixed [.N,.a .no (some ([],.b true)) false,.N,.N,.N,.N,.a .no (some ([],.b false)) false,.N,.N,.N,.N,.N,.N,.N,.N,.N,.N,.N,.N,.N,.N,.N,.N] [] [] [8] [] rfl rfl rfl ⟨(tc_ k),(cb_ m)⟩ rfl (by kernel_rfl) rfl rfl rfl ?_
   refine tg_ g [.K [8] []] ?_
   cases h
   exact mt_
  refine AK.draw2 Qr g mixed [.N,.a .no (some ([],.b false)) false,.N,.N,.N,.N,.N,.N,.N,.N,.N,.N,.N,.N,.N,.N,.N,.N,.N,.N,.N,.N,.N] [] [] [8] [] rfl rfl rfl (tc_ k) rfl (by kernel_rfl) rfl rfl rfl ?_
  refine tg_ g [.K [8] []] ?_
  cases h
  exact mt_
 rintro σ rfl
 replace h:Qju G=some r:=h
 refine tg_ g [2] ?_
 cases h
 exact d1_ tt_

end Go.Proofs
