/- What functions of the program do, as functions over plain data, and the walks that show it: printed by a program. -/
import Derived.Test.YtpijolohkdchcaaGreatDoorD1T2
set_option linter.unusedVariables false
set_option linter.unusedSimpArgs false
set_option linter.unusedSectionVars false
set_option linter.deprecated false
set_option maxRecDepth 100000
set_option maxHeartbeats 4000000
noncomputable section
namespace Go.Proofs
open Go Go.RowKit Go.Vm Go.Proofs.Tryz
def Qjw (c:Int)(a:Bool)(b:QBg):Option ((Bool×Int×QBg)⊕(Bool×QBg)):=
 some (.inl (a,(w64 (c+1)),b))
def QgE (f:QBg)(d:Int)(g:Int)(a:Bool)(b:QBg):Option ((Bool×Int×QBg)⊕(Bool×QBg)):=
 (idx f d).bind fun e=>
 bif (e.1 != g)then
 (idx f d).bind fun c=>
 (chk (decide (b.length+([c]:List (Int×Int)).length<=4294967296))).bind fun _=>
 Qjw d a (b++([c]:List (Int×Int)))
 else
 Qjw d a b
def Qri (a:Bool)(c:QBg)(d:Int)(e:Int):Option Bool:=
 bif (!a)then
 (idx c d).bind fun b=>
 some (decide (e<=b.1))
 else
 some false
def QgF (b:QBg)(c:Int)(d:Int)(a:QBg):Option ((Bool×Int×QBg)⊕(Bool×QBg)):=
 QgE b c d true a
def Qjx (d:Int)(c:QBg)(b:Int)(e:QBg)(f:Int)(a:Bool)(g:Bool):Option ((Bool×Int×QBg)⊕(Bool×QBg)):=
 bif g then
 bif (decide (0<d))then
 (chk (decide (c.length+([(b,d)]:List (Int×Int)).length<=4294967296))).bind fun _=>
 QgF e f b (c++([(b,d)]:List (Int×Int)))
 else
 QgF e f b c
 else
 QgE e f b a c
def Qd1 (b:QBg)(e:Int)(g:Int)(a:Bool)(c:Int)(f:QBg):Option ((Bool×Int×QBg)⊕(Bool×QBg)):=
 bif (decide (c<(b.length:Int)))then
 (Qri a b c e).bind (fun d=>Qjx g f e b c a d)
 else
 some (.inr (a,f))
def Qjy (a:QBg):Option QBg:=
 some a
def QgG (c:Int)(d:Int)(a:Bool)(b:QBg):Option QBg:=
 bif ((!a)&&(decide (0<c)))then
 (chk (decide (b.length+([(d,c)]:List (Int×Int)).length<=4294967296))).bind fun _=>
 Qjy (b++([(d,c)]:List (Int×Int)))
 else
 Qjy b
def Qj6 (c:QBg)(a:Int)(b:Int):Option QBg:=
 (Qy (fun st=>Qd1 c a b st.1 st.2.1 st.2.2) (false,0,([]:List (Int×Int)))).bind (fun q=>QgG b a q.1 q.2)
theorem Qrj (l f d){r}(h:Qj6 l f d=some r):Qc prog 152 [.sl 2 (l.map Ql),.I f,.I d] [] (Gives (.own 600 r.length) [(600,.arr 2 (r.map Ql))]):=by
 refine wk_ 62 func152 fun C a=>?_
 refine Qa a [22,.adopt 7 29 2,.O 29 (.arr 2 (([]:List (Int×Int)).map Ql)),.S 7 (.own 29 ([]:List (Int×Int)).length),.K [0,1,2,7,8,9] [29]] rfl (a2_ rfl (congrArg (fun n=>V.own 29 n) (by simp))) ?_
 obtain⟨Y,J,h⟩:=Qb h
 refine AK.loop (body:=(fun st=>Qd1 l f d st.1 st.2.1 st.2.2)) (fun st σ=>σ=⟨[(0,.sl 2 (l.map Ql)),(1,.I f),(2,.I d),(7,.own 29 st.2.2.length),(8,.b st.1),(9,.I st.2.1)],[(29,.arr 2 (st.2.2.map Ql))]⟩) (fun q e σ=>e=.exit 0/\σ=⟨[(1,.I f),(2,.I d),(7,.own 29 q.2.length),(8,.b q.1)],[(29,.arr 2 (q.2.map Ql))]⟩) J rfl ?_ ?_
 ·rintro ⟨k,A,H⟩ o σ rfl h
  refine Qa a [5,.o (.ln l.length),3] rfl (a1_ Qg) ?_
  refine bq_ a h [.T,2] rfl (fun p h=>?_) [.F,2,.K [1,2,7,8] [29]] rfl fun p h=>?_
  ·refine AK.meet (fun σ=>∃g:Bool,∃B:QBg,σ=⟨[(0,.sl 2 (l.map Ql)),(1,.I f),(2,.I d),(7,.own 29 B.length),(8,.b g),(9,.I A)],[(29,.arr 2 (B.map Ql))]⟩/\Qjw A g B=some o) ?_ ?_
   ·refine tg_ a [1] ?_
    refine AK.meet (fun σ=>∃i:Bool,∃m:QBg,σ=⟨[(0,.sl 2 (l.map Ql)),(1,.I f),(2,.I d),(7,.own 29 m.length),(8,.b i),(9,.I A)],[(29,.arr 2 (m.map Ql))]⟩/\QgE l A f i m=some o) ?_ ?_
    ·refine tg_ a [1] ?_
     obtain⟨G,L,h⟩:=Qb h
     replace h:Qjx d H f l A k G=some o:=h
     refine AK.meetX (fun σ=>σ=⟨[(0,.sl 2 (l.map Ql)),(1,.I f),(2,.I d),(7,.own 29 H.length),(8,.b k),(9,.I A),(26,.b G)],[(29,.arr 2 (H.map Ql))]⟩) ?_ ?_
     ·replace h:=L
      refine tg_ a [4] ?_
      rcases Qo h with⟨s,h⟩|⟨s,h⟩
      ·obtain⟨Z,M,h⟩:=Qb h
       refine Qa a [.S 18 (.b true),2,.o (.row (Ql Z)),6,.K [0,1,2,7,8,9,26] [29]] rfl ⟨(tc_ s),(QF M)⟩ ?_
       cases h
       exact mt_
      refine Qa a [.S 18 (.b false),9,.K [0,1,2,7,8,9,26] [29]] rfl (tc_ s) ?_
      cases h
      exact mt_
     rintro σ rfl
     replace h:Qjx d H f l A k G=some o:=h
     refine tg_ a [1] ?_
     refine bq_ a h [.T] rfl (fun t h=>?_) [.F,1,.K [0,1,2,7,8,9] [29]] rfl fun t h=>?_
     ·refine AK.meet (fun σ=>∃D:QBg,σ=⟨[(0,.sl 2 (l.map Ql)),(1,.I f),(2,.I d),(7,.own 29 D.length),(9,.I A)],[(29,.arr 2 (D.map Ql))]⟩/\QgF l A f D=some o) ?_ ?_
      ·refine tg_ a [6] ?_
       rcases Qo h with⟨u,h⟩|⟨u,h⟩
       ·obtain⟨N,h⟩:=Qaq h
        refine Qa a [.T,4,.A (Ql (f,d)),.v (.bd []) [] (.sl 2 (([(f,d)]:List (Int×Int)).map Ql)),.app ((H++([(f,d)]:List (Int×Int))).map Ql) (H++([(f,d)]:List (Int×Int))).length,2,.K [0,1,2,7,9] [29]] rfl (a4_ u rfl rfl ⟨Qg,Qba N Qg,Qao,Qbq Qg⟩) ?_
        exact AK.met (ex_ _ (an_ rfl h))
       refine Qa a [.F,1,.K [0,1,2,7,9] [29]] rfl (a1_ u) ?_
       exact AK.met (ex_ _ (an_ rfl h))
      rintro σ ⟨D,rfl,h⟩
      unfold QgF at h
      refine tg_ a [3,.K [0,1,2,7,8,9] [29]] ?_
      exact AK.met (ex_ _ (ex_ _ (an_ rfl h)))
     exact AK.met (ex_ _ (ex_ _ (an_ rfl h)))
    rintro σ ⟨i,m,rfl,h⟩
    obtain⟨a0,P,h⟩:=Qb h
    refine Qa a [4,.o (.row (Ql a0)),6] rfl (a1_ (QF P)) ?_
    rcases Qo h with⟨w,h⟩|⟨w,h⟩
    ·obtain⟨x,U,h⟩:=Qb h
     obtain⟨W,h⟩:=Qaq h
     refine Qa a [.T,4,.o (.row (Ql x)),.A (Ql x),.v (.bd []) [] (.sl 2 (([x]:List (Int×Int)).map Ql)),.app ((m++([x]:List (Int×Int))).map Ql) (m++([x]:List (Int×Int))).length,3,.K [0,1,2,7,8,9] [29]] rfl (a5_ w (QF U) rfl rfl ⟨Qg,Qba W Qg,Qao,Qbq Qg⟩) ?_
     exact AK.met (ex_ _ (ex_ _ (an_ rfl h)))
    refine Qa a [.F,2,.K [0,1,2,7,8,9] [29]] rfl (a1_ w) ?_
    exact AK.met (ex_ _ (ex_ _ (an_ rfl h)))
   rintro σ ⟨g,B,rfl,h⟩
   refine tg_ a [5,.K [0,1,2,7,8,9] [29]] ?_
   cases h
   exact QU rfl rfl
  cases h
  exact QW rfl (an_ rfl rfl)
 obtain⟨c,y⟩:=Y
 replace h:QgG d f c y=some r:=h
 unfold QgG at h
 rintro e σ ⟨rfl,rfl⟩
 refine tg_ a [2] ?_
 refine AK.meet (fun σ=>∃E:QBg,σ=⟨[(7,.own 29 E.length)],[(29,.arr 2 (E.map Ql))]⟩/\Qjy E=some r) ?_ ?_
 ·refine tg_ a [1] ?_
  refine AK.meetX (fun σ=>σ=⟨[(1,.I f),(2,.I d),(7,.own 29 y.length),(54,.b ((!c)&&(decide (0<d))))],[(29,.arr 2 (y.map Ql))]⟩) ?_ ?_
  ·refine tg_ a [4] ?_
   rcases QD (!c)with j | j
   ·refine Qa a [.S 51 (.b true),4,.S 54 (.b ((!c)&&(decide (0<d)))),.K [1,2,7,54] [29]] rfl ⟨(tc_ j),(congrArg V.b (Qah j rfl))⟩ ?_
    exact mt_
   refine Qa a [.S 51 (.b false),4,.S 54 (.b ((!c)&&(decide (0<d)))),.K [1,2,7,54] [29]] rfl ⟨(tc_ j),(congrArg V.b (QaL j rfl))⟩ ?_
   exact mt_
  rintro σ rfl
  refine tg_ a [1] ?_
  rcases Qo h with⟨z,h⟩|⟨z,h⟩
  ·obtain⟨X,h⟩:=Qaq h
   refine Qa a [.T,4,.A (Ql (f,d)),.v (.bd []) [] (.sl 2 (([(f,d)]:List (Int×Int)).map Ql)),.app ((y++([(f,d)]:List (Int×Int))).map Ql) (y++([(f,d)]:List (Int×Int))).length,2,.K [7] [29]] rfl (a4_ z rfl rfl ⟨Qg,Qba X Qg,Qao,Qbq Qg⟩) ?_
   exact AK.met (ex_ _ (an_ rfl h))
  refine Qa a [.F,1,.K [7] [29]] rfl (a1_ z) ?_
  exact AK.met (ex_ _ (an_ rfl h))
 rintro σ ⟨E,rfl,h⟩
 refine tg_ a [7,.K [6] [29],.ren 29 600] ?_
 cases h
 exact d1_ r1_
def Qsb (b:QBg)(c:QBg):Option Bool:=
 (QcL b).bind fun d=>
 bif (!d)then
 some true
 else
 (QcL c).bind fun a=>
 some (!a)
def QdD (e:QBg)(a:Int)(b:QBg):Option ((Int×QBg)⊕(Unit⊕QBg)):=
 bif (decide (a<(e.length:Int)))then
 (idx e a).bind fun f=>
 (Qgl b f.1).bind fun c=>
 (idx e a).bind fun d=>
 bif (decide (1048576<(w64 (c+d.2))))then
 some (.inr (.inl ()))
 else
 (idx e a).bind fun g=>
 (Qj6 b g.1 (w64 (c+d.2))).bind fun h=>
 some (.inl ((w64 (a+1)),h))
 else
 some (.inr (.inr b))
def Qsc : Option (QBg×Int):=
 some (([]:List (Int×Int)),2)
def Qsd (a:QBg):Option (QBg×Int):=
 some (a,0)
def QkQ (a:QBg)(b:QBg)(c:Bool):Option (QBg×Int):=
 bif c then
 some (([]:List (Int×Int)),1)
 else
 (chk (decide (([]:List (Int×Int)).length+a.length<=4294967296))).bind fun _=>
 (Qy (fun st=>QdD b st.1 st.2) (0,(([]:List (Int×Int))++a))).bind (Sum.elim (fun q=>Qsc) (fun q=>Qsd q))
def QgS (a:QBg)(b:QBg):Option (QBg×Int):=
 (Qsb a b).bind (fun c=>QkQ a b c)
theorem Qse (m l){r}(h:QgS m l=some r):Qc prog 83 [.sl 2 (m.map Ql),.sl 2 (l.map Ql)] [] (Gives (.tup [.sl 2 (r.1.map Ql),.I r.2]) []):=by
 refine wk_ 50 func83 fun C f=>?_
 refine tg_ f [8] ?_
 obtain⟨D,E,h⟩:=Qb h
 replace h:QkQ m l D=some r:=h
 refine AK.meetX (fun σ=>σ=⟨[(0,.sl 2 (m.map Ql)),(1,.sl 2 (l.map Ql)),(16,.b D)],[]⟩) ?_ ?_
 ·replace h:=E
  obtain⟨W,G,h⟩:=Qb h
  refine Qa f [2,.o (.C1 (.b W)),2] rfl (a1_ (Qdv _ G)) ?_
  rcases Qo h with⟨g,h⟩|⟨g,h⟩
  ·refine Qa f [.S 12 (.b true),5,.K [0,1,16] []] rfl (tc_ g) ?_
   cases h
   exact mt_
  obtain⟨H,p,h⟩:=Qb h
  refine Qa f [.S 12 (.b false),1,.o (.C1 (.b H)),3,.K [0,1,16] []] rfl ⟨(tc_ g),(Qdv _ p)⟩ ?_
  cases h
  exact mt_
 rintro σ rfl
 replace h:QkQ m l D=some r:=h
 refine tg_ f [1] ?_
 rcases Qo h with⟨i,h⟩|⟨i,h⟩
 ·refine Qa f [.T,8,.denil 4 [some 2]] rfl (a1_ i) ?_
  cases h
  exact d2_ tt_
 obtain⟨s,h⟩:=Qaq h
 refine Qa f [.F,5,.O 17 (.arr 2 (([]:List (Int×Int)).map Ql)),.S 17 (.own 17 ([]:List (Int×Int)).length),1,.app ((([]:List (Int×Int))++m).map Ql) (([]:List (Int×Int))++m).length,10,.ren 17 605,.K [1,6,7] [605]] rfl (a4_ i rfl rfl ⟨Qg,Qba s Qg,Qao,Qbq Qg⟩) ?_
 obtain⟨J,t,h⟩:=Qb h
 refine AK.loop (body:=(fun st=>QdD l st.1 st.2)) (fun st σ=>σ=⟨[(1,.sl 2 (l.map Ql)),(6,.own 605 st.2.length),(7,.I st.1)],[(605,.arr 2 (st.2.map Ql))]⟩) (Sum.elim (fun q e σ=>e=.ret/\σ=⟨[(4,.lit (.slice none 0 0)),(5,.I 2)],[]⟩) (fun q e σ=>e=.exit 0/\σ=⟨[(6,.own 605 q.length)],[(605,.arr 2 (q.map Ql))]⟩)) t rfl ?_ ?_
 ·rintro ⟨X,u⟩ o σ rfl h
  refine Qa f [5,.o (.ln l.length),3] rfl (a1_ Qg) ?_
  rcases Qo h with⟨j,h⟩|⟨j,h⟩
  ·obtain⟨L,v,h⟩:=Qb h
   obtain⟨M,w,h⟩:=Qb h
   obtain⟨P,x,h⟩:=Qb h
   refine Qa f [.T,5,.K [1,6,7] [605]] rfl (a1_ j) ?_
   refine AK.draw2 Qr f mixed [.N,.N,.N,.a (.row (Ql L)) none false,.N,.N,.a (.c true [.o (u.map Ql),.d] (.I M)) none false,.N,.N,.a (.row (Ql P)) none false,.N,.N,.N,.N] [] [] [1,6,7,8] [605] rfl rfl rfl ⟨⟨⟨tt_,(QF v)⟩,⟨(Qva rfl),(Ql1 _ _ w)⟩⟩,(QF x)⟩ rfl (by kernel_rfl) rfl rfl rfl ?_
   refine tg_ f [8] ?_
   rcases Qo h with⟨k,h⟩|⟨k,h⟩
   ·refine Qa f [.T,10,.K [4,5] []] rfl (a1_ k) ?_
    cases h
    exact Qab rfl (an_ rfl rfl)
   obtain⟨U,y,h⟩:=Qb h
   obtain⟨z,A,h⟩:=Qb h
   refine Qa f [.F,6,.o (.row (Ql U)),3,.frz 605 (u.map Ql) [6,41] [],.o (.co false [.d,.d,.d] 2 (z.map Ql) z.length),9,.ren 48 605,.K [1,6,7] [605]] rfl (a4_ k (QF y) (a2_ (QbU Qg) (QbU Qg)) ⟨(Qrj _ _ _ A),Qg,.inl rfl⟩) ?_
   cases h
   exact QU rfl rfl
  refine Qa f [.F,2,.K [6] [605]] rfl (a1_ j) ?_
  cases h
  exact QW rfl (an_ rfl rfl)
 rcases J with(_ | B)
 ·replace h:Qsc=some r:=h
  rintro e σ ⟨rfl,rfl⟩
  refine tg_ f [2,.denil 4 [some 2]] ?_
  cases h
  exact d2_ tt_
 replace h:Qsd B=some r:=h
 rintro e σ ⟨rfl,rfl⟩
 refine Qa f [10,.frz 605 (B.map Ql) [4] []] rfl (a1_ (a1_ (QbU Qg))) ?_
 cases h
 exact d2_ tt_
def Qfd (a:(List Int))(j:(List Qap))(h:(List Int))(k:Qq)(e:Int)(c:QMk):Option ((Int×QMk)⊕(Int⊕QMk)):=
 bif (decide (e<(a.length:Int)))then
 (idx a e).bind fun d=>
 bif ((decide (d<0))||(decide ((j.length:Int)<=d)))then
 some (.inr (.inl 11))
 else
 (idx j d).bind fun l=>
 (Qj2 l.Expr h).bind fun f=>
 bif (f.2 != 0)then
 some (.inr (.inl f.2))
 else
 (idx j d).bind fun b=>
 bif ((decide (b.Place<0))||(decide ((k.Places.length:Int)<=b.Place)))then
 some (.inr (.inl 3))
 else
 (idx k.Places b.Place).bind fun m=>
 (QkP k.Colours m.Colour f.1).bind fun i=>
 bif (!i.2)then
 some (.inr (.inl 8))
 else
 (idx c b.Place).bind fun n=>
 (QgS n ([(i.1,1)]:List (Int×Int))).bind fun g=>
 bif (g.2 != 0)then
 some (.inr (.inl g.2))
 else
 (idx c b.Place).bind fun o=>
 some (.inl ((w64 (e+1)),(c.set b.Place.toNat g.1)))
 else
 some (.inr (.inr c))
def QoM (a:Int):Option (QMk×Int):=
 some (([]:List QBg),a)
def QoN (a:QMk):Option (QMk×Int):=
 some (a,0)
def QeC (b:Qq)(d:(List Qap))(a:(List Int))(c:(List Int)):Option (QMk×Int):=
 (chk (decide (0<=(b.Places.length:Int))&&decide ((b.Places.length:Int)<=(b.Places.length:Int))&&decide ((b.Places.length:Int)<=4294967296))).bind fun _=>
 (Qy (fun st=>Qfd a d c b st.1 st.2) (0,(List.replicate (b.Places.length:Int).toNat (([]:QBg):QBg)))).bind (Sum.elim (fun q=>QoM q) (fun q=>QoN q))
theorem Qk5 (s D g k){r}(h:QeC s D g k=some r):Qc prog 81 [.agg (Qd s),.sl 4 (D.map Q2),.sl 1 (g.map Qe),.sl 1 (k.map Qe)] [] (Gives (.tup [.sl 1 (r.1.map Qf),.I r.2]) []):=by
 refine wk_ 103 func81 fun C i=>?_
 obtain⟨a3,h⟩:=Qaq h
 refine Qa i [11,.o (.ln s.Places.length),.o (.rows (List.replicate (s.Places.length:Int).toNat [.lit (.slice none 0 0)]))] rfl (a2_ Qg ⟨a3,rfl⟩) ?_
 refine AK.denilA (b:=23) [some 2] rfl (QzA (f:=Qf) (x:=([]:QBg)) rfl) ?_
 refine Qa i [.S 23 (.own 23 (List.replicate (s.Places.length:Int).toNat (([]:QBg):QBg)).length),10,.K [1,2,3,4,10,11] [4,23]] rfl (a1_ (by simp)) ?_
 obtain⟨a4,M,h⟩:=Qb h
 refine AK.loop (body:=(fun st=>Qfd g D k s st.1 st.2)) (fun st σ=>σ=⟨[(1,.sl 4 (D.map Q2)),(2,.sl 1 (g.map Qe)),(3,.sl 1 (k.map Qe)),lk_ 4,(10,.own 23 st.2.length),(11,.I st.1)],[(4,.var (Qd s)),(23,.arr 1 (st.2.map Qf))]⟩) (Sum.elim (fun q e σ=>e=.ret/\σ=⟨[(8,.lit (.slice none 0 0)),(9,.I q)],[]⟩) (fun q e σ=>e=.exit 0/\σ=⟨[(10,.own 23 q.length)],[(23,.arr 1 (q.map Qf))]⟩)) M rfl ?_ ?_
 ·rintro ⟨O,t⟩ o σ rfl h
  refine Qa i [5,.o (.ln g.length),3] rfl (a1_ Qg) ?_
  rcases Qo h with⟨u,h⟩|⟨u,h⟩
  ·obtain⟨l,P,h⟩:=Qb h
   refine Qa i [.T,8,.o (.row (Qe l)),6] rfl (a2_ u (QF P)) ?_
   refine AK.meetX (fun σ=>σ=⟨[(1,.sl 4 (D.map Q2)),(2,.sl 1 (g.map Qe)),(3,.sl 1 (k.map Qe)),lk_ 4,(10,.own 23 t.length),(11,.I O),(12,.I l),(41,.b ((decide (l<0))||(decide ((D.length:Int)<=l))))],[(4,.var (Qd s)),(23,.arr 1 (t.map Qf))]⟩) ?_ ?_
   ·refine tg_ i [4] ?_
    rcases QD (decide (l<0))with m | m
    ·refine Qa i [.S 36 (.b true),6,.S 41 (.b ((decide (l<0))||(decide ((D.length:Int)<=l)))),.K [1,2,3,4,10,11,12,41] [4,23]] rfl ⟨(tc_ m),(congrArg V.b (orT m rfl))⟩ ?_
     exact mt_
    refine Qa i [.S 36 (.b false),2,.o (.ln D.length),3,.S 41 (.b ((decide (l<0))||(decide ((D.length:Int)<=l)))),.K [1,2,3,4,10,11,12,41] [4,23]] rfl ⟨⟨(tc_ m),Qg⟩,(congrArg V.b (orF m rfl))⟩ ?_
    exact mt_
   rintro σ rfl
   refine tg_ i [1] ?_
   rcases Qo h with⟨w,h⟩|⟨w,h⟩
   ·refine Qa i [.T,10,.K [8,9] []] rfl (a1_ w) ?_
    cases h
    exact Qab rfl (an_ rfl rfl)
   obtain⟨U,W,h⟩:=Qb h
   obtain⟨L,X,h⟩:=Qb h
   refine Qa i [.F,6,.o (.row (Q2 U)),1,.A (Qj U.Expr),1,.o (.C2 (.tup [.I L.1,.I L.2])),14] rfl (a4_ w (QF W) rfl (Qre _ _ X)) ?_
   rcases Qo h with⟨y,h⟩|⟨y,h⟩
   ·refine Qa i [.T,11,.K [8,9] []] rfl (a1_ y) ?_
    cases h
    exact Qab rfl (an_ rfl rfl)
   obtain⟨j,Y,h⟩:=Qb h
   refine Qa i [.F,6,.o (.row (Q2 j)),7] rfl (a2_ y (QF Y)) ?_
   refine AK.meetX (fun σ=>σ=⟨[(1,.sl 4 (D.map Q2)),(2,.sl 1 (g.map Qe)),(3,.sl 1 (k.map Qe)),lk_ 4,(10,.own 23 t.length),(11,.I O),(13,.I L.1),(15,.I j.Place),(68,.b ((decide (j.Place<0))||(decide ((s.Places.length:Int)<=j.Place))))],[(4,.var (Qd s)),(23,.arr 1 (t.map Qf))]⟩) ?_ ?_
   ·refine tg_ i [4] ?_
    rcases QD (decide (j.Place<0))with p | p
    ·refine Qa i [.S 62 (.b true),7,.S 68 (.b ((decide (j.Place<0))||(decide ((s.Places.length:Int)<=j.Place)))),.K [1,2,3,4,10,11,13,15,68] [4,23]] rfl ⟨(tc_ p),(congrArg V.b (orT p rfl))⟩ ?_
     exact mt_
    refine Qa i [.S 62 (.b false),3,.o (.ln s.Places.length),3,.S 68 (.b ((decide (j.Place<0))||(decide ((s.Places.length:Int)<=j.Place)))),.K [1,2,3,4,10,11,13,15,68] [4,23]] rfl ⟨⟨(tc_ p),Qg⟩,(congrArg V.b (orF p rfl))⟩ ?_
    exact mt_
   rintro σ rfl
   refine tg_ i [1] ?_
   rcases Qo h with⟨z,h⟩|⟨z,h⟩
   ·refine Qa i [.T,10,.K [8,9] []] rfl (a1_ z) ?_
    cases h
    exact Qab rfl (an_ rfl rfl)
   obtain⟨a5,Z,h⟩:=Qb h
   obtain⟨E,a0,h⟩:=Qb h
   refine Qa i [.F,3,.K [1,2,3,4,10,11,13,15] [4,23]] rfl (a1_ z) ?_
   refine AK.draw2 Qr i mixed [.N,.N,.N,.N,.N,.a (.row (QC a5)) none false,.N,.N,.N,.a (.C3 (.tup [.I E.1,.b E.2])) none false,.N,.N,.N,.N,.N] [] [] [1,2,3,4,10,11,15,16,17] [4,23] rfl rfl rfl ⟨⟨tt_,(QF Z)⟩,(QvA _ _ _ a0)⟩ rfl (by kernel_rfl) rfl rfl rfl ?_
   refine tg_ i [8] ?_
   rcases Qo h with⟨A,h⟩|⟨A,h⟩
   ·refine Qa i [.T,10,.K [8,9] []] rfl (a1_ A) ?_
    cases h
    exact Qab rfl (an_ rfl rfl)
   obtain⟨a6,H,h⟩:=Qb h
   obtain⟨G,a1,h⟩:=Qb h
   refine Qa i [.F,7,.o (.row (Qf a6)),1,.A (Ql (E.1,1)),.v (.bd []) [] (.sl 2 (([(E.1,1)]:List (Int×Int)).map Ql)),.o (.C2 (.tup [.sl 2 (G.1.map Ql),.I G.2])),14] rfl (a6_ A (Qc3 H rfl) (QbO (Qck H).2) rfl rfl (Qse _ _ a1)) ?_
   rcases Qo h with⟨B,h⟩|⟨B,h⟩
   ·refine Qa i [.T,11,.K [8,9] []] rfl (a1_ B) ?_
    cases h
    exact Qab rfl (an_ rfl rfl)
   obtain⟨a7,J,h⟩:=Qb h
   refine Qa i [.F,7,.st (Qf a7) ((t.set j.Place.toNat G.1).map Qf),8,.S 10 (.own 23 (t.set j.Place.toNat G.1).length),.K [1,2,3,4,10,11] [4,23]] rfl (a4_ B (Qc3 J rfl) ⟨(QbO (Qck J).2),Qin rfl⟩ (congrArg (fun n=>V.own 23 n) (by simp))) ?_
   cases h
   exact QU rfl rfl
  refine Qa i [.F,2,.K [10] [23]] rfl (a1_ u) ?_
  cases h
  exact QW rfl (an_ rfl rfl)
 rcases a4 with(a8 | a2)
 ·replace h:QoM a8=some r:=h
  rintro e σ ⟨rfl,rfl⟩
  refine tg_ i [2,.denil 8 [some 1]] ?_
  cases h
  exact d2_ tt_
 replace h:QoN a2=some r:=h
 rintro e σ ⟨rfl,rfl⟩
 refine Qa i [10,.frz 23 (a2.map Qf) [8] []] rfl (a1_ (a1_ (QbU Qg))) ?_
 cases h
 exact d2_ tt_
def Qgm (c:Qq)(b:Qp):Option (QMk×Int):=
 (QiE c b.Task b.Vars).bind fun d=>
 bif (d.2 != 0)then
 some (([]:List QBg),d.2)
 else
 (idx c.Tasks b.Task).bind fun e=>
 (QeC c e.Ins b.Ins d.1).bind fun a=>
 some (a.1,a.2)
theorem Ql2 (i l){r}(h:Qgm i l=some r):Qc prog 38 [.agg (Qd i),.agg (Qk l)] [] (Gives (.tup [.sl 1 (r.1.map Qf),.I r.2]) []):=by
 refine wk_ 34 func38 fun C e=>?_
 obtain⟨p,j,h⟩:=Qb h
 refine Qa e [10,.A (Qd i),4,.o (.C3 (.tup [.sl 1 (p.1.map Qe),.I p.2])),14] rfl (a2_ rfl (Qnr _ _ _ j)) ?_
 rcases Qo h with⟨b,h⟩|⟨b,h⟩
 ·refine Qa e [.T,9,.denil 4 [some 1]] rfl (a1_ b) ?_
  cases h
  exact d2_ tt_
 obtain⟨q,k,h⟩:=Qb h
 obtain⟨f,g,h⟩:=Qb h
 refine Qa e [.F,3,.K [2,3,4,5,6] [2,3]] rfl (a1_ b) ?_
 refine AK.draw2 Qr e mixed [.a .no (some ([],.agg (Qd i))) false,.N,.N,.N,.N,.a (.row (Qm q)) none false,.N,.N,.N,.N,.N,.a (.C4 (.tup [.sl 1 (f.1.map Qf),.I f.2])) none false,.N,.N,.m .s,.m .s] [] [] [4,5] [] rfl rfl rfl ⟨⟨⟨tt_,rfl⟩,(QF k)⟩,(Qk5 _ _ _ _ g)⟩ rfl (by kernel_rfl) rfl rfl rfl ?_
 refine tg_ e [2] ?_
 cases h
 exact d2_ tt_
def QoO (a:QBg)(b:QBg):Option Bool:=
 (QcL a).bind fun c=>
 bif (!c)then
 some true
 else
 (QcL b).bind fun d=>
 some (!d)
def QcZ (b:QBg)(f:QBg)(a:Int):Option (Int⊕(Unit⊕Unit)):=
 bif (decide (a<(b.length:Int)))then
 (idx b a).bind fun c=>
 (idx b a).bind fun d=>
 (Qgl f d.1).bind fun e=>
 bif (decide (e<c.2))then
 some (.inr (.inl ()))
 else
 some (.inl (w64 (a+1)))
 else
 some (.inr (.inr ()))
def QoP : Option Bool:=
 some false
def QoQ : Option Bool:=
 some true
def Qhc (a:QBg)(b:QBg)(c:Bool):Option Bool:=
 bif c then
 some false
 else
 (Qy (fun st=>QcZ a b st) 0).bind (Sum.elim (fun q=>QoP) (fun q=>QoQ))
def Qhy (a:QBg)(b:QBg):Option Bool:=
 (QoO a b).bind (fun c=>Qhc a b c)
theorem QoR (k l){r}(h:Qhy k l=some r):Qc prog 148 [.sl 2 (k.map Ql),.sl 2 (l.map Ql)] [] (Gives (.b r) []):=by
 refine wk_ 33 func148 fun C f=>?_
 refine tg_ f [7] ?_
 obtain⟨v,w,h⟩:=Qb h
 replace h:Qhc k l v=some r:=h
 refine AK.meetX (fun σ=>σ=⟨[(0,.sl 2 (k.map Ql)),(1,.sl 2 (l.map Ql)),(13,.b v)],[]⟩) ?_ ?_
 ·replace h:=w
  obtain⟨E,x,h⟩:=Qb h
  refine Qa f [2,.o (.C1 (.b E)),2] rfl (a1_ (Qdv _ x)) ?_
  rcases Qo h with⟨m,h⟩|⟨m,h⟩
  ·refine Qa f [.S 9 (.b true),5,.K [0,1,13] []] rfl (tc_ m) ?_
   cases h
   exact mt_
  obtain⟨G,y,h⟩:=Qb h
  refine Qa f [.S 9 (.b false),1,.o (.C1 (.b G)),3,.K [0,1,13] []] rfl ⟨(tc_ m),(Qdv _ y)⟩ ?_
  cases h
  exact mt_
 rintro σ rfl
 replace h:Qhc k l v=some r:=h
 refine tg_ f [1] ?_
 refine bq_ f h [.T,7,.K [4] []] rfl (fun g h=>?_) [.F,9,.K [0,1,5] []] rfl fun g h=>?_
 ·cases h
  exact d1_ tt_
 obtain⟨z,p,h⟩:=Qb h
 refine AK.loop (body:=(fun st=>QcZ k l st)) (fun st σ=>σ=⟨[(0,.sl 2 (k.map Ql)),(1,.sl 2 (l.map Ql)),(5,.I st)],[]⟩) (Sum.elim (fun q e σ=>e=.ret/\σ=⟨[(4,.b false)],[]⟩) (fun q e σ=>e=.exit 0/\σ=⟨[],[]⟩)) p rfl ?_ ?_
 ·rintro H o σ rfl h
  refine Qa f [5,.o (.ln k.length),3] rfl (a1_ Qg) ?_
  rcases Qo h with⟨i,h⟩|⟨i,h⟩
  ·obtain⟨A,s,h⟩:=Qb h
   obtain⟨B,t,h⟩:=Qb h
   obtain⟨D,u,h⟩:=Qb h
   refine Qa f [.T,5,.K [0,1,5] []] rfl (a1_ i) ?_
   refine AK.draw2 Qr f mixed [.N,.N,.a (.row (Ql A)) none false,.N,.N,.N,.N,.N,.a (.row (Ql B)) none false,.N,.N,.a (.C2 (.I D)) none false,.N] [] [] [0,1,5,32] [] rfl rfl rfl ⟨⟨⟨tt_,(QF s)⟩,(QF t)⟩,(Ql1 _ _ u)⟩ rfl (by kernel_rfl) rfl rfl rfl ?_
   refine tg_ f [1] ?_
   refine bq_ f h [.T,8,.K [4] []] rfl (fun j h=>?_) [.F,8,.K [0,1,5] []] rfl fun j h=>?_
   ·cases h
    exact Qab rfl (an_ rfl rfl)
   cases h
   exact QU rfl rfl
  refine Qa f [.F,2,.K [] []] rfl (a1_ i) ?_
  cases h
  exact QW rfl (an_ rfl rfl)
 rcases z with(_ | _)
 ·replace h:QoP=some r:=h
  rintro e σ ⟨rfl,rfl⟩
  refine tg_ f [2] ?_
  cases h
  exact d1_ tt_
 replace h:QoQ=some r:=h
 rintro e σ ⟨rfl,rfl⟩
 refine tg_ f [8] ?_
 cases h
 exact d1_ tt_
def Qhd (d:QMk)(e:QMk)(a:Int):Option (Int⊕(Unit⊕Unit)):=
 bif (decide (a<(d.length:Int)))then
 (idx d a).bind fun f=>
 (idx e a).bind fun b=>
 (Qhy f b).bind fun c=>
 bif (!c)then
 some (.inr (.inl ()))
 else
 some (.inl (w64 (a+1)))
 else
 some (.inr (.inr ()))
def QoS : Option Bool:=
 some false
def QoT : Option Bool:=
 some true
def Qhz (a:QMk)(b:QMk):Option Bool:=
 bif ((a.length:Int) != (b.length:Int))then
 some false
 else
 (Qy (fun st=>Qhd a b st) 0).bind (Sum.elim (fun q=>QoS) (fun q=>QoT))
theorem QoU (k l){r}(h:Qhz k l=some r):Qc prog 79 [.sl 1 (k.map Qf),.sl 1 (l.map Qf)] [] (Gives (.b r) []):=by
 refine wk_ 29 func79 fun C f=>?_
 refine Qa f [9,.o (.ln k.length),1,.o (.ln l.length),3] rfl (a2_ Qg Qg) ?_
 refine bq_ f h [.T,7,.K [4] []] rfl (fun i h=>?_) [.F,9,.K [0,1,5] []] rfl fun i h=>?_
 ·cases h
  exact d1_ tt_
 obtain⟨t,m,h⟩:=Qb h
 refine AK.loop (body:=(fun st=>Qhd k l st)) (fun st σ=>σ=⟨[(0,.sl 1 (k.map Qf)),(1,.sl 1 (l.map Qf)),(5,.I st)],[]⟩) (Sum.elim (fun q e σ=>e=.ret/\σ=⟨[(4,.b false)],[]⟩) (fun q e σ=>e=.exit 0/\σ=⟨[],[]⟩)) m rfl ?_ ?_
 ·rintro y o σ rfl h
  refine Qa f [5,.o (.ln k.length),3] rfl (a1_ Qg) ?_
  rcases Qo h with⟨j,h⟩|⟨j,h⟩
  ·obtain⟨x,u,h⟩:=Qb h
   obtain⟨v,p,h⟩:=Qb h
   obtain⟨w,s,h⟩:=Qb h
   refine Qa f [.T,5,.K [0,1,5] []] rfl (a1_ j) ?_
   refine AK.draw2 Qr f mixed [.N,.N,.a (.row (Qf x)) none false,.N,.N,.N,.a (.row (Qf v)) none false,.N,.a (.C2 (.b w)) none false,.N] [] [] [0,1,5,6] [] rfl rfl rfl ⟨⟨⟨tt_,(QF u)⟩,(QF p)⟩,(QoR _ _ s)⟩ rfl (by kernel_rfl) rfl rfl rfl ?_
   refine tg_ f [7] ?_
   refine bq_ f h [.T,8,.K [4] []] rfl (fun g h=>?_) [.F,8,.K [0,1,5] []] rfl fun g h=>?_
   ·cases h
    exact Qab rfl (an_ rfl rfl)
   cases h
   exact QU rfl rfl
  refine Qa f [.F,2,.K [] []] rfl (a1_ j) ?_
  cases h
  exact QW rfl (an_ rfl rfl)
 rcases t with(_ | _)
 ·replace h:QoS=some r:=h
  rintro e σ ⟨rfl,rfl⟩
  refine tg_ f [2] ?_
  cases h
  exact d1_ tt_
 replace h:QoT=some r:=h
 rintro e σ ⟨rfl,rfl⟩
 refine tg_ f [8] ?_
 cases h
 exact d1_ tt_
def Qe6 (b:(List Int))(c:Int)(a:Int):Option (Int⊕(Unit⊕Unit)):=
 bif (decide (a<(b.length:Int)))then
 (idx b a).bind fun d=>
 bif (d==c)then
 some (.inr (.inl ()))
 else
 some (.inl (w64 (a+1)))
 else
 some (.inr (.inr ()))
def QtC : Option Bool:=
 some true
def QtD : Option Bool:=
 some false
def Qpf (a:(List Int))(b:Int):Option Bool:=
 (Qy (fun st=>Qe6 a b st) 0).bind (Sum.elim (fun q=>QtC) (fun q=>QtD))
theorem QyZ (f i){r}(h:Qpf f i=some r):Qc prog 80 [.sl 1 (f.map Qe),.I i] [] (Gives (.b r) []):=by
 refine wk_ 18 func80 fun C a=>?_
 refine tg_ a [12,.K [0,1,5] []] ?_
 obtain⟨j,g,h⟩:=Qb h
 refine AK.loop (body:=(fun st=>Qe6 f i st)) (fun st σ=>σ=⟨[(0,.sl 1 (f.map Qe)),(1,.I i),(5,.I st)],[]⟩) (Sum.elim (fun q e σ=>e=.ret/\σ=⟨[(4,.b true)],[]⟩) (fun q e σ=>e=.exit 0/\σ=⟨[],[]⟩)) g rfl ?_ ?_
 ·rintro m o σ rfl h
  refine Qa a [5,.o (.ln f.length),3] rfl (a1_ Qg) ?_
  rcases Qo h with⟨c,h⟩|⟨c,h⟩
  ·obtain⟨l,k,h⟩:=Qb h
   refine Qa a [.T,8,.o (.row (Qe l)),5] rfl (a2_ c (QF k)) ?_
   refine bq_ a h [.T,8,.K [4] []] rfl (fun d h=>?_) [.F,8,.K [0,1,5] []] rfl fun d h=>?_
   ·cases h
    exact Qab rfl (an_ rfl rfl)
   cases h
   exact QU rfl rfl
  refine Qa a [.F,2,.K [] []] rfl (a1_ c) ?_
  cases h
  exact QW rfl (an_ rfl rfl)
 rcases j with(_ | _)
 ·replace h:QtC=some r:=h
  rintro e σ ⟨rfl,rfl⟩
  refine tg_ a [2] ?_
  cases h
  exact d1_ tt_
 replace h:QtD=some r:=h
 rintro e σ ⟨rfl,rfl⟩
 refine tg_ a [8] ?_
 cases h
 exact d1_ tt_
def Qyd (at_4:Int)(b:(List Int))(c:Int):Option Bool:=
 bif (decide (at_4<(b.length:Int)))then
 (idx b at_4).bind fun a=>
 some (decide (a<c))
 else
 some false
def Qnu (at_4:Int)(a:Bool):Option (Int⊕Int):=
 bif a then
 some (.inl (w64 (at_4+1)))
 else
 some (.inr at_4)
def Qsf (a:(List Int))(b:Int)(at_4:Int):Option (Int⊕Int):=
 (Qyd at_4 a b).bind (fun c=>Qnu at_4 c)
def Qsg (a:(List Int))(b:Int)(at_6:Int):Option (List Int):=
 (chk (decide (0<=at_6)&&decide (0<=at_6.toNat)&&decide (at_6.toNat<=a.length))).bind fun _=>
 (chk (decide (([]:List Int).length+((a.drop 0).take (at_6.toNat-0)).length<=4294967296))).bind fun _=>
 (chk (decide ((([]:List Int)++((a.drop 0).take (at_6.toNat-0))).length+([b]:List Int).length<=4294967296))).bind fun _=>
 (chk (decide (0<=at_6)&&decide (at_6.toNat<=a.length)&&decide (a.length<=a.length))).bind fun _=>
 (chk (decide (((([]:List Int)++((a.drop 0).take (at_6.toNat-0)))++[b]).length+((a.drop at_6.toNat).take (a.length-at_6.toNat)).length<=4294967296))).bind fun _=>
 some (((([]:List Int)++((a.drop 0).take (at_6.toNat-0)))++[b])++((a.drop at_6.toNat).take (a.length-at_6.toNat)))
def QnL (a:(List Int))(b:Int):Option (List Int):=
 (Qy (fun st=>Qsf a b st) 0).bind (fun q=>Qsg a b q)
theorem Qye (c g){r}(h:QnL c g=some r):Qc prog 82 [.sl 1 (c.map Qe),.I g] [] (Gives (.own 600 r.length) [(600,.arr 1 (r.map Qe))]):=by
 refine wk_ 32 func82 fun C d=>?_
 refine tg_ d [12,.K [0,1,5] []] ?_
 obtain⟨at_6,s,h⟩:=Qb h
 refine AK.loop (body:=(fun st=>Qsf c g st)) (fun st σ=>σ=⟨[(0,.sl 1 (c.map Qe)),(1,.I g),(5,.I st)],[]⟩) (fun q e σ=>e=.exit 0/\σ=⟨[(0,.sl 1 (c.map Qe)),(1,.I g),(5,.I q)],[]⟩) s rfl ?_ ?_
 ·rintro at_4 o σ rfl h
  refine tg_ d [2] ?_
  obtain⟨y,z,h⟩:=Qb h
  replace h:Qnu at_4 y=some o:=h
  refine AK.meetX (fun σ=>σ=⟨[(0,.sl 1 (c.map Qe)),(1,.I g),(5,.I at_4),(17,.b y)],[]⟩) ?_ ?_
  ·replace h:=z
   refine Qa d [3,.o (.ln c.length),2] rfl (a1_ Qg) ?_
   rcases Qo h with⟨p,h⟩|⟨p,h⟩
   ·obtain⟨A,t,h⟩:=Qb h
    refine Qa d [.S 10 (.b true),2,.o (.row (Qe A)),5,.K [0,1,5,17] []] rfl ⟨(tc_ p),(QF t)⟩ ?_
    cases h
    exact mt_
   refine Qa d [.S 10 (.b false),8,.K [0,1,5,17] []] rfl (tc_ p) ?_
   cases h
   exact mt_
  rintro σ rfl
  replace h:Qnu at_4 y=some o:=h
  refine tg_ d [1] ?_
  refine bq_ d h [.T,9,.K [0,1,5] []] rfl (fun i h=>?_) [.F,2,.K [0,1,5] []] rfl fun i h=>?_
  ·cases h
   exact QU rfl rfl
  cases h
  exact QW rfl (an_ rfl rfl)
 replace h:Qsg c g at_6=some r:=h
 rintro e σ ⟨rfl,rfl⟩
 obtain⟨j,h⟩:=Qaq h
 obtain⟨u,h⟩:=Qaq h
 obtain⟨v,h⟩:=Qaq h
 obtain⟨k,h⟩:=Qaq h
 obtain⟨w,h⟩:=Qaq h
 refine tg_ d [3,.K [0,1,5] []] ?_
 refine AK.draw2 Qr d mixed [.N,.N,.N,.a (.any (.sl 1 (((c.drop 0).take (at_6.toNat-0)).map Qe)) none) none false,.m (.app ((([]:List Int)++((c.drop 0).take (at_6.toNat-0))).map Qe) (([]:List Int)++((c.drop 0).take (at_6.toNat-0))).length),.a .no none true,.a (.bd []) (some ([],.sl 1 (([g]:List Int).map Qe))) true,.m (.app (((([]:List Int)++((c.drop 0).take (at_6.toNat-0)))++[g]).map Qe) ((([]:List Int)++((c.drop 0).take (at_6.toNat-0)))++[g]).length),.a .no none true,.a .no none true,.a (.any (.sl 1 (((c.drop at_6.toNat).take (c.length-at_6.toNat)).map Qe)) none) none true,.m (.app ((((([]:List Int)++((c.drop 0).take (at_6.toNat-0)))++[g])++((c.drop at_6.toNat).take (c.length-at_6.toNat))).map Qe) (((([]:List Int)++((c.drop 0).take (at_6.toNat-0)))++[g])++((c.drop at_6.toNat).take (c.length-at_6.toNat))).length),.N] [0,1,5] [] [4] [20] rfl rfl rfl ⟨⟨⟨⟨⟨⟨tt_,(fun σ x B _=>Stp.sliceD rfl rfl (QN d.n rfl) (x _ _ rfl) (Qr.es rfl) Bnd.no (Bnd.val (x _ _ rfl) (Qai (Qpy j)) rfl) (Qai (Qpz j)) (QcA (Qai (QrQ j)) (Nat.le_of_eq Qg.symm)) QsQ)⟩,⟨(Qg (f:=Qe) (l:=([]:List Int))),Qba u Qg,(Qao (f:=Qe) (l:=([]:List Int)) (m:=((c.drop 0).take (at_6.toNat-0)))),Qbq (l:=([]:List Int)) Qg⟩⟩,rfl⟩,⟨Qg,Qba v Qg,Qao,Qbq Qg⟩⟩,(fun σ x B _=>Stp.sliceD rfl rfl (QN d.n rfl) (x _ _ rfl) (Qr.es rfl) (Bnd.val (x _ _ rfl) (Qai (Qpy k)) rfl) (Bnd.none_ Qg) (Qai (Qpz k)) (Nat.le_of_eq Qg.symm) QsQ)⟩,⟨Qg,Qba w Qg,Qao,Qbq Qg⟩⟩ rfl (by kernel_rfl) rfl rfl rfl ?_
 refine tg_ d [2,.K [4] [20],.ren 20 600] ?_
 cases h
 exact d1_ r1_
def Qgn (c:Qq)(b:Qp):Option (QMk×Int):=
 (QiE c b.Task b.Vars).bind fun d=>
 bif (d.2 != 0)then
 some (([]:List QBg),d.2)
 else
 (idx c.Tasks b.Task).bind fun e=>
 (QeC c e.Outs b.Outs d.1).bind fun a=>
 some (a.1,a.2)
theorem Qqh (i l){r}(h:Qgn i l=some r):Qc prog 42 [.agg (Qd i),.agg (Qk l)] [] (Gives (.tup [.sl 1 (r.1.map Qf),.I r.2]) []):=by
 refine wk_ 34 func42 fun C e=>?_
 obtain⟨p,j,h⟩:=Qb h
 refine Qa e [10,.A (Qd i),4,.o (.C3 (.tup [.sl 1 (p.1.map Qe),.I p.2])),14] rfl (a2_ rfl (Qnr _ _ _ j)) ?_
 rcases Qo h with⟨b,h⟩|⟨b,h⟩
 ·refine Qa e [.T,9,.denil 4 [some 1]] rfl (a1_ b) ?_
  cases h
  exact d2_ tt_
 obtain⟨q,k,h⟩:=Qb h
 obtain⟨f,g,h⟩:=Qb h
 refine Qa e [.F,3,.K [2,3,4,5,6] [2,3]] rfl (a1_ b) ?_
 refine AK.draw2 Qr e mixed [.a .no (some ([],.agg (Qd i))) false,.N,.N,.N,.N,.a (.row (Qm q)) none false,.N,.N,.N,.N,.N,.a (.C4 (.tup [.sl 1 (f.1.map Qf),.I f.2])) none false,.N,.N,.m .s,.m .s] [] [] [4,5] [] rfl rfl rfl ⟨⟨⟨tt_,rfl⟩,(QF k)⟩,(Qk5 _ _ _ _ g)⟩ rfl (by kernel_rfl) rfl rfl rfl ?_
 refine tg_ e [2] ?_
 cases h
 exact d2_ tt_
def Ql3 (a:Int):Option (Int⊕(Unit⊕Unit)):=
 some (.inl (w64 (a+1)))
def Qqi (a:(QMk×Int))(c:QMk):Option Bool:=
 bif (a.2==0)then
 (Qhz a.1 c).bind fun b=>
 some b
 else
 some false
def Ql4 (a:Int)(b:Bool):Option (Int⊕(Unit⊕Unit)):=
 bif b then
 some (.inr (.inl ()))
 else
 Ql3 a
def Qb7 (b:QG)(g:Qp)(h:Qq)(i:((List Int)×Int))(j:QMk)(a:Int):Option (Int⊕(Unit⊕Unit)):=
 bif ((decide (a<(b.Ins.length:Int)))&&(b.Join==3))then
 (Qpf g.Ins a).bind fun c=>
 bif c then
 Ql3 a
 else
 (QnL g.Ins a).bind fun d=>
 (QeC h b.Ins d i.1).bind fun e=>
 (Qqi e j).bind (fun f=>Ql4 a f)
 else
 some (.inr (.inr ()))
def Qqj : Option Int:=
 some 11
def QeD (b:Qq)(c:Qp):Option Int:=
 (Qgn b c).bind fun a=>
 some a.2
def QlL (d:Qq)(j:QMk)(a:Qp):Option Int:=
 (QiE d a.Task a.Vars).bind fun e=>
 bif (e.2 != 0)then
 some e.2
 else
 (idx d.Tasks a.Task).bind fun c=>
 (Qj2 c.Guard e.1).bind fun f=>
 bif (f.2 != 0)then
 some f.2
 else
 bif (f.1==0)then
 some 9
 else
 (Qhx c.Join (c.Ins.length:Int) a.Ins).bind fun g=>
 (Qhx c.Split (c.Outs.length:Int) a.Outs).bind fun h=>
 bif ((!g)||(!h))then
 some 11
 else
 (Qgm d a).bind fun b=>
 bif (b.2 != 0)then
 some b.2
 else
 (Qhz b.1 j).bind fun i=>
 bif (!i)then
 some 10
 else
 (Qy (fun st=>Qb7 c a d e j st) 0).bind (Sum.elim (fun q=>Qqj) (fun q=>QeD d a))
theorem Qwt (l E m){r}(h:QlL l E m=some r):Qc prog 37 [.agg (Qd l),.sl 1 (E.map Qf),.agg (Qk m)] [] (Gives (.I r) []):=by
 refine wk_ 124 func37 fun C f=>?_
 obtain⟨G,a7,h⟩:=Qb h
 refine Qa f [9,.A (Qd l),4,.o (.C3 (.tup [.sl 1 (G.1.map Qe),.I G.2])),14] rfl (a2_ rfl (Qnr _ _ _ a7)) ?_
 rcases Qo h with⟨H,h⟩|⟨H,h⟩
 ·refine Qa f [.T,8] rfl (a1_ H) ?_
  cases h
  exact d1_ tt_
 obtain⟨i,a8,h⟩:=Qb h
 obtain⟨x9,a9,h⟩:=Qb h
 refine Qa f [.F,8,.o (.row (Qm i)),.A (Qm i),2,.O 9 (.var (Qm i)),5,.A (Qj i.Guard),1,.o (.C2 (.tup [.I x9.1,.I x9.2])),14] rfl (a6_ H (QF a8) rfl rfl rfl (Qre _ _ a9)) ?_
 refine bq_ f h [.T,8,.K [6] []] rfl (fun p h=>?_) [.F,9] rfl fun p h=>?_
 ·cases h
  exact d1_ tt_
 rcases Qo h with⟨s,h⟩|⟨s,h⟩
 ·refine Qa f [.T,7] rfl (a1_ s) ?_
  cases h
  exact d1_ tt_
 obtain⟨t,L,h⟩:=Qb h
 obtain⟨D,M,h⟩:=Qb h
 refine Qa f [.F,8,.o (.ln i.Ins.length),2,.o (.C3 (.b t)),9,.o (.ln i.Outs.length),2,.o (.C3 (.b D)),5] rfl (a5_ s Qg (QoI _ _ _ L) Qg (QoI _ _ _ M)) ?_
 refine AK.meetX (fun σ=>σ=⟨[(1,.sl 1 (E.map Qf)),lk_ 3,lk_ 5,(7,.sl 1 (G.1.map Qe)),lk_ 9,(68,.b ((!t)||(!D)))],[(3,.var (Qd l)),(5,.var (Qk m)),(9,.var (Qm i))]⟩) ?_ ?_
 ·refine tg_ f [4] ?_
  rcases QD (!t)with j | j
  ·refine Qa f [.S 65 (.b true),4,.S 68 (.b ((!t)||(!D))),.K [1,3,5,7,9,68] [3,5,9]] rfl ⟨(tc_ j),(congrArg V.b (orT j rfl))⟩ ?_
   exact mt_
  refine Qa f [.S 65 (.b false),4,.S 68 (.b ((!t)||(!D))),.K [1,3,5,7,9,68] [3,5,9]] rfl ⟨(tc_ j),(congrArg V.b (orF j rfl))⟩ ?_
  exact mt_
 rintro σ rfl
 refine tg_ f [1] ?_
 rcases Qo h with⟨u,h⟩|⟨u,h⟩
 ·refine Qa f [.T,7] rfl (a1_ u) ?_
  cases h
  exact d1_ tt_
 obtain⟨P,U,h⟩:=Qb h
 refine Qa f [.F,4,.A (Qd l),.A (Qk m),.o (.C2 (.tup [.sl 1 (P.1.map Qf),.I P.2])),14] rfl (a4_ u rfl rfl (Ql2 _ _ U)) ?_
 rcases Qo h with⟨w,h⟩|⟨w,h⟩
 ·refine Qa f [.T,8] rfl (a1_ w) ?_
  cases h
  exact d1_ tt_
 obtain⟨b0,W,h⟩:=Qb h
 refine Qa f [.F,7,.o (.C2 (.b b0)),3] rfl (a2_ w (QoU _ _ W)) ?_
 refine bq_ f h [.T,7,.K [6] []] rfl (fun x h=>?_) [.F,9,.K [1,3,5,7,9,14] [3,5,9]] rfl fun x h=>?_
 ·cases h
  exact d1_ tt_
 obtain⟨b1,X,h⟩:=Qb h
 refine AK.loop (body:=(fun st=>Qb7 i m l G E st)) (fun st σ=>σ=⟨[(1,.sl 1 (E.map Qf)),lk_ 3,lk_ 5,(7,.sl 1 (G.1.map Qe)),lk_ 9,(14,.I st)],[(3,.var (Qd l)),(5,.var (Qk m)),(9,.var (Qm i))]⟩) (Sum.elim (fun q e σ=>e=.ret/\σ=⟨[(6,.I 11)],[]⟩) (fun q e σ=>e=.exit 0/\σ=⟨[lk_ 3,lk_ 5],[(3,.var (Qd l)),(5,.var (Qk m))]⟩)) X rfl ?_ ?_
 ·rintro g o σ rfl h
  refine tg_ f [2] ?_
  refine AK.meetX (fun σ=>σ=⟨[(1,.sl 1 (E.map Qf)),lk_ 3,lk_ 5,(7,.sl 1 (G.1.map Qe)),lk_ 9,(14,.I g),(91,.b ((decide (g<(i.Ins.length:Int)))&&(i.Join==3)))],[(3,.var (Qd l)),(5,.var (Qk m)),(9,.var (Qm i))]⟩) ?_ ?_
  ·refine Qa f [4,.o (.ln i.Ins.length),2] rfl (a1_ Qg) ?_
   rcases QD (decide (g<(i.Ins.length:Int)))with k | k
   ·refine Qa f [.S 87 (.b true),5,.S 91 (.b ((decide (g<(i.Ins.length:Int)))&&(i.Join==3))),.K [1,3,5,7,9,14,91] [3,5,9]] rfl ⟨(tc_ k),(congrArg V.b (Qah k rfl))⟩ ?_
    exact mt_
   refine Qa f [.S 87 (.b false),5,.S 91 (.b ((decide (g<(i.Ins.length:Int)))&&(i.Join==3))),.K [1,3,5,7,9,14,91] [3,5,9]] rfl ⟨(tc_ k),(congrArg V.b (QaL k rfl))⟩ ?_
   exact mt_
  rintro σ rfl
  refine tg_ f [1] ?_
  refine bq_ f h [.T,2] rfl (fun y h=>?_) [.F,2,.K [3,5] [3,5]] rfl fun y h=>?_
  ·refine AK.meet (fun σ=>σ=⟨[(1,.sl 1 (E.map Qf)),lk_ 3,lk_ 5,(7,.sl 1 (G.1.map Qe)),lk_ 9,(14,.I g)],[(3,.var (Qd l)),(5,.var (Qk m)),(9,.var (Qm i))]⟩/\Ql3 g=some o) ?_ ?_
   ·obtain⟨b2,Y,h⟩:=Qb h
    refine Qa f [7,.o (.C2 (.b b2)),2] rfl (a1_ (QyZ _ _ Y)) ?_
    rcases Qo h with⟨z,h⟩|⟨z,h⟩
    ·refine Qa f [.T,3,.K [1,3,5,7,9,14] [3,5,9]] rfl (a1_ z) ?_
     exact AK.met (an_ rfl h)
    obtain⟨Z,a0,h⟩:=Qb h
    obtain⟨a1,a2,h⟩:=Qb h
    refine Qa f [.F,3,.K [1,3,5,7,9,14] [3,5,9]] rfl (a1_ z) ?_
    refine AK.draw2 Qr f mixed [.a .no (some ([],.agg (Qd l))) false,.N,.N,.N,.N,.N,.a (.cd false [.d,.d] 1 (Z.map Qe) Z.length) none false,.N,.a (.C4 (.tup [.sl 1 (a1.1.map Qf),.I a1.2])) none false,.N,.N,.N,.N,.N] [] [] [1,3,5,7,9,14,15,16] [3,5,9] rfl rfl rfl ⟨⟨⟨tt_,rfl⟩,⟨(Qye _ _ a0),Qg⟩⟩,(Qk5 _ _ _ _ a2)⟩ rfl (by kernel_rfl) rfl rfl rfl ?_
    refine tg_ f [2] ?_
    obtain⟨J,a3,h⟩:=Qb h
    replace h:Ql4 g J=some o:=h
    refine AK.meetX (fun σ=>σ=⟨[(1,.sl 1 (E.map Qf)),lk_ 3,lk_ 5,(7,.sl 1 (G.1.map Qe)),lk_ 9,(14,.I g),(116,.b J)],[(3,.var (Qd l)),(5,.var (Qk m)),(9,.var (Qm i))]⟩) ?_ ?_
    ·replace h:=a3
     refine tg_ f [4] ?_
     rcases Qo h with⟨A,h⟩|⟨A,h⟩
     ·obtain⟨b3,a4,h⟩:=Qb h
      refine Qa f [.S 112 (.b true),2,.o (.C2 (.b b3)),2,.K [1,3,5,7,9,14,116] [3,5,9]] rfl ⟨(tc_ A),(QoU _ _ a4)⟩ ?_
      cases h
      exact mt_
     refine Qa f [.S 112 (.b false),5,.K [1,3,5,7,9,14,116] [3,5,9]] rfl (tc_ A) ?_
     cases h
     exact mt_
    rintro σ rfl
    replace h:Ql4 g J=some o:=h
    refine tg_ f [1] ?_
    refine bq_ f h [.T,8,.K [6] []] rfl (fun B h=>?_) [.F,2,.K [1,3,5,7,9,14] [3,5,9]] rfl fun B h=>?_
    ·cases h
     exact Qab rfl (an_ rfl rfl)
    exact AK.met (an_ rfl h)
   rintro σ ⟨rfl,h⟩
   refine tg_ f [5,.K [1,3,5,7,9,14] [3,5,9]] ?_
   cases h
   exact QU rfl rfl
  cases h
  exact QW rfl (an_ rfl rfl)
 rcases b1 with(_ | _)
 ·replace h:Qqj=some r:=h
  rintro e σ ⟨rfl,rfl⟩
  refine tg_ f [2] ?_
  cases h
  exact d1_ tt_
 replace h:QeD l m=some r:=h
 rintro e σ ⟨rfl,rfl⟩
 obtain⟨a5,a6,h⟩:=Qb h
 refine Qa f [4,.A (Qd l),.A (Qk m),.o (.C2 (.tup [.sl 1 (a5.1.map Qf),.I a5.2])),13] rfl (a3_ rfl rfl (Qqh _ _ a6)) ?_
 cases h
 exact d1_ tt_
def Qrk (b:QBg)(c:QBg):Option Bool:=
 (QcL b).bind fun d=>
 bif (!d)then
 some true
 else
 (QcL c).bind fun a=>
 some (!a)
def Qd2 (c:QBg)(i:QBg)(a:Int)(b:QBg):Option ((Int×QBg)⊕QBg):=
 bif (decide (a<(c.length:Int)))then
 (idx c a).bind fun d=>
 (idx c a).bind fun e=>
 (Qgl i e.1).bind fun f=>
 (idx c a).bind fun g=>
 (Qj6 b d.1 (w64 (f-g.2))).bind fun h=>
 some (.inl ((w64 (a+1)),h))
 else
 some (.inr b)
def Qrl (a:QBg):Option (QBg×Int):=
 some (a,0)
def Qjz (c:QBg)(a:QBg)(d:Bool):Option (QBg×Int):=
 bif d then
 some (([]:List (Int×Int)),1)
 else
 (Qhy c a).bind fun b=>
 bif (!b)then
 some (([]:List (Int×Int)),10)
 else
 (chk (decide (([]:List (Int×Int)).length+a.length<=4294967296))).bind fun _=>
 (Qy (fun st=>Qd2 c a st.1 st.2) (0,(([]:List (Int×Int))++a))).bind (fun q=>Qrl q)
def QhA (a:QBg)(b:QBg):Option (QBg×Int):=
 (Qrk a b).bind (fun c=>Qjz b a c)
theorem Qxo (l p){r}(h:QhA l p=some r):Qc prog 84 [.sl 2 (l.map Ql),.sl 2 (p.map Ql)] [] (Gives (.tup [.sl 2 (r.1.map Ql),.I r.2]) []):=by
 refine wk_ 50 func84 fun C f=>?_
 refine tg_ f [8] ?_
 obtain⟨G,H,h⟩:=Qb h
 replace h:Qjz p l G=some r:=h
 refine AK.meetX (fun σ=>σ=⟨[(0,.sl 2 (l.map Ql)),(1,.sl 2 (p.map Ql)),(15,.b G)],[]⟩) ?_ ?_
 ·replace h:=H
  obtain⟨Z,J,h⟩:=Qb h
  refine Qa f [2,.o (.C1 (.b Z)),2] rfl (a1_ (Qdv _ J)) ?_
  rcases Qo h with⟨g,h⟩|⟨g,h⟩
  ·refine Qa f [.S 11 (.b true),5,.K [0,1,15] []] rfl (tc_ g) ?_
   cases h
   exact mt_
  obtain⟨L,t,h⟩:=Qb h
  refine Qa f [.S 11 (.b false),1,.o (.C1 (.b L)),3,.K [0,1,15] []] rfl ⟨(tc_ g),(Qdv _ t)⟩ ?_
  cases h
  exact mt_
 rintro σ rfl
 replace h:Qjz p l G=some r:=h
 refine tg_ f [1] ?_
 rcases Qo h with⟨i,h⟩|⟨i,h⟩
 ·refine Qa f [.T,8,.denil 4 [some 2]] rfl (a1_ i) ?_
  cases h
  exact d2_ tt_
 obtain⟨M,u,h⟩:=Qb h
 refine Qa f [.F,7,.o (.C2 (.b M)),3] rfl (a2_ i (QoR _ _ u)) ?_
 rcases Qo h with⟨j,h⟩|⟨j,h⟩
 ·refine Qa f [.T,8,.denil 4 [some 2]] rfl (a1_ j) ?_
  cases h
  exact d2_ tt_
 obtain⟨v,h⟩:=Qaq h
 refine Qa f [.F,5,.O 20 (.arr 2 (([]:List (Int×Int)).map Ql)),.S 20 (.own 20 ([]:List (Int×Int)).length),1,.app ((([]:List (Int×Int))++l).map Ql) (([]:List (Int×Int))++l).length,10,.ren 20 605,.K [0,1,6,7] [605]] rfl (a4_ j rfl rfl ⟨Qg,Qba v Qg,Qao,Qbq Qg⟩) ?_
 obtain⟨w,x,h⟩:=Qb h
 refine AK.loop (body:=(fun st=>Qd2 p l st.1 st.2)) (fun st σ=>σ=⟨[(0,.sl 2 (l.map Ql)),(1,.sl 2 (p.map Ql)),(6,.own 605 st.2.length),(7,.I st.1)],[(605,.arr 2 (st.2.map Ql))]⟩) (fun q e σ=>e=.exit 0/\σ=⟨[(6,.own 605 q.length)],[(605,.arr 2 (q.map Ql))]⟩) x rfl ?_ ?_
 ·rintro ⟨a0,P⟩ o σ rfl h
  refine Qa f [5,.o (.ln p.length),3] rfl (a1_ Qg) ?_
  rcases Qo h with⟨k,h⟩|⟨k,h⟩
  ·obtain⟨U,y,h⟩:=Qb h
   obtain⟨W,z,h⟩:=Qb h
   obtain⟨X,A,h⟩:=Qb h
   obtain⟨Y,B,h⟩:=Qb h
   obtain⟨D,E,h⟩:=Qb h
   refine Qa f [.T,4,.frz 605 (P.map Ql) [6] [],.K [0,1,6,7] []] rfl (a2_ k (a1_ (QbU Qg))) ?_
   refine AK.draw2 Qr f mixed [.N,.N,.N,.a (.row (Ql U)) none false,.N,.N,.N,.N,.N,.a (.row (Ql W)) none false,.N,.N,.a (.C2 (.I X)) none false,.N,.N,.a (.row (Ql Y)) none false,.N,.N,.N,.a (.co false [.d,.d,.d] 2 (D.map Ql) D.length) none false,.m .s] [] [] [0,1,6,7] [48] rfl rfl rfl ⟨⟨⟨⟨⟨tt_,(QF y)⟩,(QF z)⟩,(Ql1 _ _ A)⟩,(QF B)⟩,⟨(Qrj _ _ _ E),Qg,.inl rfl⟩⟩ rfl (by kernel_rfl) rfl rfl rfl ?_
   refine tg_ f [7,.ren 48 605,.K [0,1,6,7] [605]] ?_
   cases h
   exact QU rfl rfl
  refine Qa f [.F,2,.K [6] [605]] rfl (a1_ k) ?_
  cases h
  exact QW rfl (an_ rfl rfl)
 replace h:Qrl w=some r:=h
 rintro e σ ⟨rfl,rfl⟩
 refine Qa f [10,.frz 605 (w.map Ql) [4] []] rfl (a1_ (a1_ (QbU Qg))) ?_
 cases h
 exact d2_ tt_
def QjA (b:Int)(a:QMk):Option ((Int×QMk)⊕(Int⊕QMk)):=
 some (.inl ((w64 (b+1)),a))
def Qd3 (f:QMk)(g:QMk)(e:Bool)(d:Int)(a:QMk):Option ((Int×QMk)⊕(Int⊕QMk)):=
 bif ((decide (d<(f.length:Int)))&&(decide (d<(g.length:Int))))then
 bif e then
 (idx f d).bind fun h=>
 (idx g d).bind fun i=>
 (QgS h i).bind fun b=>
 bif (b.2 != 0)then
 some (.inr (.inl b.2))
 else
 (chk (decide (a.length+([b.1]:List QBg).length<=4294967296))).bind fun _=>
 QjA d (a++([b.1]:List QBg))
 else
 (idx f d).bind fun j=>
 (idx g d).bind fun k=>
 (QhA j k).bind fun c=>
 bif (c.2 != 0)then
 some (.inr (.inl c.2))
 else
 (chk (decide (a.length+([c.1]:List QBg).length<=4294967296))).bind fun _=>
 QjA d (a++([c.1]:List QBg))
 else
 some (.inr (.inr a))
def Qrm (a:Int):Option (QMk×Int):=
 some (([]:List QBg),a)
def Qrn (a:QMk):Option (QMk×Int):=
 some (a,0)
def Qd4 (b:QMk)(c:QMk)(a:Bool):Option (QMk×Int):=
 (Qy (fun st=>Qd3 b c a st.1 st.2) (0,([]:List QBg))).bind (Sum.elim (fun q=>Qrm q) (fun q=>Qrn q))
theorem QmX (k w g){r}(h:Qd4 k w g=some r):Qc prog 39 [.sl 1 (k.map Qf),.sl 1 (w.map Qf),.b g] [] (Gives (.tup [.sl 1 (r.1.map Qf),.I r.2]) []):=by
 refine wk_ 66 func39 fun C f=>?_
 refine Qa f [18,.adopt 8 606 1,.O 606 (.arr 1 (([]:List QBg).map Qf)),.S 8 (.own 606 ([]:List QBg).length),.K [0,1,2,8,9] [606]] rfl (a2_ rfl (congrArg (fun n=>V.own 606 n) (by simp))) ?_
 obtain⟨P,z,h⟩:=Qb h
 refine AK.loop (body:=(fun st=>Qd3 k w g st.1 st.2)) (fun st σ=>σ=⟨[(0,.sl 1 (k.map Qf)),(1,.sl 1 (w.map Qf)),(2,.b g),(8,.own 606 st.2.length),(9,.I st.1)],[(606,.arr 1 (st.2.map Qf))]⟩) (Sum.elim (fun q e σ=>e=.ret/\σ=⟨[(6,.lit (.slice none 0 0)),(7,.I q)],[]⟩) (fun q e σ=>e=.exit 0/\σ=⟨[(8,.own 606 q.length)],[(606,.arr 1 (q.map Qf))]⟩)) z rfl ?_ ?_
 ·rintro ⟨x,j⟩ o σ rfl h
  refine tg_ f [2] ?_
  refine AK.meetX (fun σ=>σ=⟨[(0,.sl 1 (k.map Qf)),(1,.sl 1 (w.map Qf)),(2,.b g),(8,.own 606 j.length),(9,.I x),(23,.b ((decide (x<(k.length:Int)))&&(decide (x<(w.length:Int)))))],[(606,.arr 1 (j.map Qf))]⟩) ?_ ?_
  ·refine Qa f [3,.o (.ln k.length),2] rfl (a1_ Qg) ?_
   rcases QD (decide (x<(k.length:Int)))with i | i
   ·refine Qa f [.S 18 (.b true),2,.o (.ln w.length),3,.S 23 (.b ((decide (x<(k.length:Int)))&&(decide (x<(w.length:Int))))),.K [0,1,2,8,9,23] [606]] rfl ⟨⟨(tc_ i),Qg⟩,(congrArg V.b (Qah i rfl))⟩ ?_
    exact mt_
   refine Qa f [.S 18 (.b false),6,.S 23 (.b ((decide (x<(k.length:Int)))&&(decide (x<(w.length:Int))))),.K [0,1,2,8,9,23] [606]] rfl ⟨(tc_ i),(congrArg V.b (QaL i rfl))⟩ ?_
   exact mt_
  rintro σ rfl
  refine tg_ f [1] ?_
  refine bq_ f h [.T,2] rfl (fun l h=>?_) [.F,2,.K [8] [606]] rfl fun l h=>?_
  ·refine AK.meet (fun σ=>∃y:QMk,σ=⟨[(0,.sl 1 (k.map Qf)),(1,.sl 1 (w.map Qf)),(2,.b g),(8,.own 606 y.length),(9,.I x)],[(606,.arr 1 (y.map Qf))]⟩/\QjA x y=some o) ?_ ?_
   ·refine tg_ f [7] ?_
    rcases Qo h with⟨m,h⟩|⟨m,h⟩
    ·obtain⟨U,A,h⟩:=Qb h
     obtain⟨W,B,h⟩:=Qb h
     obtain⟨p,D,h⟩:=Qb h
     refine Qa f [.T,1,.K [0,1,2,8,9] [606]] rfl (a1_ m) ?_
     refine AK.draw2 Qr f mixed [.N,.N,.a (.row (Qf U)) none false,.N,.N,.N,.a (.row (Qf W)) none false,.N,.a (.C2 (.tup [.sl 2 (p.1.map Ql),.I p.2])) none false,.N,.N,.N,.N,.N] [] [] [0,1,2,8,9,10,11] [606] rfl rfl rfl ⟨⟨⟨tt_,(QF A)⟩,(QF B)⟩,(Qse _ _ D)⟩ rfl (by kernel_rfl) rfl rfl rfl ?_
     refine tg_ f [8] ?_
     rcases Qo h with⟨s,h⟩|⟨s,h⟩
     ·refine Qa f [.T,12,.K [6,7] []] rfl (a1_ s) ?_
      cases h
      exact Qab rfl (an_ rfl rfl)
     obtain⟨E,h⟩:=Qaq h
     refine Qa f [.F,6,.v (.bd []) [] (.sl 1 (([p.1]:List QBg).map Qf)),.app ((j++([p.1]:List QBg)).map Qf) (j++([p.1]:List QBg)).length,6,.K [0,1,2,8,9] [606]] rfl (a3_ s rfl ⟨Qg,Qba E Qg,Qao,Qbq Qg⟩) ?_
     exact AK.met (ex_ _ (an_ rfl h))
    obtain⟨X,G,h⟩:=Qb h
    obtain⟨Y,H,h⟩:=Qb h
    obtain⟨t,J,h⟩:=Qb h
    refine Qa f [.F,3,.K [0,1,2,8,9] [606]] rfl (a1_ m) ?_
    refine AK.draw2 Qr f mixed [.N,.N,.a (.row (Qf X)) none false,.N,.N,.N,.a (.row (Qf Y)) none false,.N,.a (.C2 (.tup [.sl 2 (t.1.map Ql),.I t.2])) none false,.N,.N,.N,.N,.N] [] [] [0,1,2,8,9,12,13] [606] rfl rfl rfl ⟨⟨⟨tt_,(QF G)⟩,(QF H)⟩,(Qxo _ _ J)⟩ rfl (by kernel_rfl) rfl rfl rfl ?_
    refine tg_ f [8] ?_
    rcases Qo h with⟨u,h⟩|⟨u,h⟩
    ·refine Qa f [.T,11,.K [6,7] []] rfl (a1_ u) ?_
     cases h
     exact Qab rfl (an_ rfl rfl)
    obtain⟨L,h⟩:=Qaq h
    refine Qa f [.F,5,.v (.bd []) [] (.sl 1 (([t.1]:List QBg).map Qf)),.app ((j++([t.1]:List QBg)).map Qf) (j++([t.1]:List QBg)).length,3,.K [0,1,2,8,9] [606]] rfl (a3_ u rfl ⟨Qg,Qba L Qg,Qao,Qbq Qg⟩) ?_
    exact AK.met (ex_ _ (an_ rfl h))
   rintro σ ⟨y,rfl,h⟩
   refine tg_ f [5,.K [0,1,2,8,9] [606]] ?_
   cases h
   exact QU rfl rfl
  cases h
  exact QW rfl (an_ rfl rfl)
 rcases P with(Z | M)
 ·replace h:Qrm Z=some r:=h
  rintro e σ ⟨rfl,rfl⟩
  refine tg_ f [2,.denil 6 [some 1]] ?_
  cases h
  exact d2_ tt_
 replace h:Qrn M=some r:=h
 rintro e σ ⟨rfl,rfl⟩
 refine Qa f [10,.frz 606 (M.map Qf) [6] []] rfl (a1_ (a1_ (QbU Qg))) ?_
 cases h
 exact d2_ tt_
def Qj7 (c:Qq)(d:QMk)(e:Qp):Option (QMk×Int):=
 (QlL c d e).bind fun f=>
 bif (f != 0)then
 some (([]:List QBg),f)
 else
 (Qgm c e).bind fun b=>
 (Qd4 d b.1 false).bind fun a=>
 some (a.1,a.2)
theorem Qro (i m j){r}(h:Qj7 i m j=some r):Qc prog 11 [.agg (Qd i),.sl 1 (m.map Qf),.agg (Qk j)] [] (Gives (.tup [.sl 1 (r.1.map Qf),.I r.2]) []):=by
 refine wk_ 29 func11 fun C k=>?_
 obtain⟨p,l,h⟩:=Qb h
 refine Qa k [10,.A (Qd i),1,.A (Qk j),.o (.C3 (.I p)),10] rfl (a3_ rfl rfl (Qwt _ _ _ l)) ?_
 rcases Qo h with⟨a,h⟩|⟨a,h⟩
 ·refine Qa k [.T,9,.denil 6 [some 1]] rfl (a1_ a) ?_
  cases h
  exact d2_ tt_
 obtain⟨b,e,h⟩:=Qb h
 obtain⟨f,g,h⟩:=Qb h
 refine Qa k [.F,4,.A (Qd i),.A (Qk j),.o (.C2 (.tup [.sl 1 (b.1.map Qf),.I b.2])),11,.o (.C3 (.tup [.sl 1 (f.1.map Qf),.I f.2])),7] rfl (a5_ a rfl rfl (Ql2 _ _ e) (QmX _ _ _ g)) ?_
 cases h
 exact d2_ tt_
def QmY (a:Int)(b:QMk):Option ((Int×QMk)⊕QMk):=
 some (.inl ((w64 (a+1)),b))
def Qrp (a:QG)(b:Int)(c:QMk):Option Bool:=
 (idx a.Cancel b).bind fun d=>
 bif (decide (0<=d))then
 (idx a.Cancel b).bind fun e=>
 some (decide (e<(c.length:Int)))
 else
 some false
def QjB (d:QG)(a:Int)(b:QMk)(e:Bool):Option ((Int×QMk)⊕QMk):=
 bif e then
 (idx d.Cancel a).bind fun c=>
 (idx b c).bind fun f=>
 QmY a (b.set c.toNat ([]:List (Int×Int)))
 else
 QmY a b
def QgH (a:QG)(b:Int)(c:QMk):Option ((Int×QMk)⊕QMk):=
 bif (decide (b<(a.Cancel.length:Int)))then
 (Qrp a b c).bind (fun d=>QjB a b c d)
 else
 some (.inr c)
def QmZ (c:(QMk×Int))(b:QMk):Option (QMk×Int):=
 (Qd4 b c.1 true).bind fun a=>
 some (a.1,a.2)
def Qj8 (c:Qq)(d:QMk)(e:Qp):Option (QMk×Int):=
 (Qgn c e).bind fun a=>
 bif (a.2 != 0)then
 some (([]:List QBg),a.2)
 else
 (chk (decide (([]:List QBg).length+d.length<=4294967296))).bind fun _=>
 (idx c.Tasks e.Task).bind fun b=>
 (Qy (fun st=>QgH b st.1 st.2) (0,(([]:List QBg)++d))).bind (fun q=>QmZ a q)
theorem Qrq (N M P){r}(h:Qj8 N M P=some r):Qc prog 13 [.agg (Qd N),.sl 1 (M.map Qf),.agg (Qk P)] [] (Gives (.tup [.sl 1 (r.1.map Qf),.I r.2]) []):=by
 refine wk_ 63 func13 fun C f=>?_
 obtain⟨s,U,h⟩:=Qb h
 refine Qa f [10,.A (Qd N),.A (Qk P),.o (.C2 (.tup [.sl 1 (s.1.map Qf),.I s.2])),14] rfl (a3_ rfl rfl (Qqh _ _ U)) ?_
 rcases Qo h with⟨t,h⟩|⟨t,h⟩
 ·refine Qa f [.T,9,.denil 6 [some 1]] rfl (a1_ t) ?_
  cases h
  exact d2_ tt_
 obtain⟨y,h⟩:=Qaq h
 obtain⟨a,z,h⟩:=Qb h
 refine Qa f [.F,5,.O 22 (.arr 1 (([]:List QBg).map Qf)),.S 22 (.own 22 ([]:List QBg).length),1,.app ((([]:List QBg)++M).map Qf) (([]:List QBg)++M).length,9,.o (.row (Qm a)),12,.K [8,10,11,12] [22]] rfl (a5_ t rfl rfl ⟨Qg,Qba y Qg,Qao,Qbq Qg⟩ (QF z)) ?_
 obtain⟨A,B,h⟩:=Qb h
 refine AK.loop (body:=(fun st=>QgH a st.1 st.2)) (fun st σ=>σ=⟨[(8,.sl 1 (s.1.map Qf)),(10,.own 22 st.2.length),(11,.sl 1 (a.Cancel.map Qe)),(12,.I st.1)],[(22,.arr 1 (st.2.map Qf))]⟩) (fun q e σ=>e=.exit 0/\σ=⟨[(8,.sl 1 (s.1.map Qf)),(10,.own 22 q.length)],[(22,.arr 1 (q.map Qf))]⟩) B rfl ?_ ?_
 ·rintro ⟨i,g⟩ o σ rfl h
  refine Qa f [5,.o (.ln a.Cancel.length),3] rfl (a1_ Qg) ?_
  refine bq_ f h [.T,2] rfl (fun j h=>?_) [.F,2,.K [8,10] [22]] rfl fun j h=>?_
  ·refine AK.meet (fun σ=>∃m:QMk,σ=⟨[(8,.sl 1 (s.1.map Qf)),(10,.own 22 m.length),(11,.sl 1 (a.Cancel.map Qe)),(12,.I i)],[(22,.arr 1 (m.map Qf))]⟩/\QmY i m=some o) ?_ ?_
   ·refine tg_ f [2] ?_
    obtain⟨u,D,h⟩:=Qb h
    replace h:QjB a i g u=some o:=h
    refine AK.meetX (fun σ=>σ=⟨[(8,.sl 1 (s.1.map Qf)),(10,.own 22 g.length),(11,.sl 1 (a.Cancel.map Qe)),(12,.I i),(51,.b u)],[(22,.arr 1 (g.map Qf))]⟩) ?_ ?_
    ·replace h:=D
     obtain⟨W,E,h⟩:=Qb h
     refine Qa f [3,.o (.row (Qe W)),3] rfl (a1_ (QF E)) ?_
     rcases Qo h with⟨k,h⟩|⟨k,h⟩
     ·obtain⟨X,G,h⟩:=Qb h
      refine Qa f [.S 43 (.b true),2,.o (.row (Qe X)),6,.K [8,10,11,12,51] [22]] rfl ⟨(tc_ k),(QF G)⟩ ?_
      cases h
      exact mt_
     refine Qa f [.S 43 (.b false),9,.K [8,10,11,12,51] [22]] rfl (tc_ k) ?_
     cases h
     exact mt_
    rintro σ rfl
    replace h:QjB a i g u=some o:=h
    refine tg_ f [1] ?_
    rcases Qo h with⟨l,h⟩|⟨l,h⟩
    ·obtain⟨w,H,h⟩:=Qb h
     obtain⟨Y,p,h⟩:=Qb h
     refine Qa f [.T,4,.o (.row (Qe w)),2,.x (fun σ=>σ.set 22 (.arr 1 ((g.set w.toNat ([]:List (Int×Int))).map Qf))),2,.S 10 (.own 22 (g.set w.toNat ([]:List (Int×Int))).length),.K [8,10,11,12] [22]] rfl (a5_ l (QF H) (Qc3 p rfl) (Stp.storeNil (zz:=2) (r:=Qf Y) rfl rfl rfl rfl (QbO (Qck p).2) rfl (Qr.sz rfl) rfl (Qin rfl)) (congrArg (fun n=>V.own 22 n) (by simp))) ?_
     exact AK.met (ex_ _ (an_ rfl h))
    refine Qa f [.F,2,.K [8,10,11,12] [22]] rfl (a1_ l) ?_
    exact AK.met (ex_ _ (an_ rfl h))
   rintro σ ⟨m,rfl,h⟩
   refine tg_ f [5,.K [8,10,11,12] [22]] ?_
   cases h
   exact QU rfl rfl
  cases h
  exact QW rfl (an_ rfl rfl)
 replace h:QmZ s A=some r:=h
 rintro e σ ⟨rfl,rfl⟩
 obtain⟨J,L,h⟩:=Qb h
 refine Qa f [6,.frz 22 (A.map Qf) [10,58] [],.o (.C3 (.tup [.sl 1 (J.1.map Qf),.I J.2])),7] rfl (a2_ (a2_ (QbU Qg) (QbU Qg)) (QmX _ _ _ L)) ?_
 cases h
 exact d2_ tt_
def Qm0 (c:Qq)(d:QMk)(e:Qp):Option (QMk×Int):=
 (Qgm c e).bind fun b=>
 bif (b.2 != 0)then
 some (([]:List QBg),b.2)
 else
 (Qd4 d b.1 true).bind fun a=>
 some (a.1,a.2)
theorem Qxp (f k g){r}(h:Qm0 f k g=some r):Qc prog 15 [.agg (Qd f),.sl 1 (k.map Qf),.agg (Qk g)] [] (Gives (.tup [.sl 1 (r.1.map Qf),.I r.2]) []):=by
 refine wk_ 24 func15 fun C i=>?_
 obtain⟨l,j,h⟩:=Qb h
 refine Qa i [10,.A (Qd f),.A (Qk g),.o (.C2 (.tup [.sl 1 (l.1.map Qf),.I l.2])),14] rfl (a3_ rfl rfl (Ql2 _ _ j)) ?_
 rcases Qo h with⟨a,h⟩|⟨a,h⟩
 ·refine Qa i [.T,9,.denil 6 [some 1]] rfl (a1_ a) ?_
  cases h
  exact d2_ tt_
 obtain⟨b,e,h⟩:=Qb h
 refine Qa i [.F,6,.o (.C3 (.tup [.sl 1 (b.1.map Qf),.I b.2])),7] rfl (a2_ a (QmX _ _ _ e)) ?_
 cases h
 exact d2_ tt_
def Qpg (c:Qq)(e:QMk)(d:Qp):Option (QMk×Int):=
 (Qj7 c e d).bind fun b=>
 bif (b.2 != 0)then
 some (([]:List QBg),b.2)
 else
 (Qj8 c b.1 d).bind fun a=>
 some (a.1,a.2)
theorem Qy0 (f k g){r}(h:Qpg f k g=some r):Qc prog 17 [.agg (Qd f),.sl 1 (k.map Qf),.agg (Qk g)] [] (Gives (.tup [.sl 1 (r.1.map Qf),.I r.2]) []):=by
 refine wk_ 26 func17 fun C i=>?_
 obtain⟨l,j,h⟩:=Qb h
 refine Qa i [10,.A (Qd f),1,.A (Qk g),.o (.C3 (.tup [.sl 1 (l.1.map Qf),.I l.2])),14] rfl (a3_ rfl rfl (Qro _ _ _ j)) ?_
 rcases Qo h with⟨a,h⟩|⟨a,h⟩
 ·refine Qa i [.T,9,.denil 6 [some 1]] rfl (a1_ a) ?_
  cases h
  exact d2_ tt_
 obtain⟨b,e,h⟩:=Qb h
 refine Qa i [.F,4,.A (Qd f),1,.A (Qk g),.o (.C3 (.tup [.sl 1 (b.1.map Qf),.I b.2])),7] rfl (a4_ a rfl rfl (Qrq _ _ _ e)) ?_
 cases h
 exact d2_ tt_
def QbE (d:QMk)(a:Int)(b:QMk):Option ((Int×QMk)⊕QMk):=
 bif (decide (a<(b.length:Int)))then
 (idx d a).bind fun c=>
 (chk (decide (([]:List (Int×Int)).length+c.length<=4294967296))).bind fun _=>
 (idx b a).bind fun e=>
 some (.inl ((w64 (a+1)),(b.set a.toNat (([]:List (Int×Int))++c))))
 else
 some (.inr b)
def Qnf (a:(QMk×Int))(b:(QMk×Int))(c:(QMk×Int))(d:(QMk×Int))(e:(QMk×Int))(f:(QMk×Int))(g:(QMk×Int))(h:(QMk×Int)):Option Bool:=
 (Qb3 a.1 b.1).bind fun i=>
 bif i then
 (Qb3 c.1 d.1).bind fun j=>
 bif j then
 (Qb3 e.1 f.1).bind fun k=>
 bif k then
 (Qb3 g.1 h.1).bind fun l=>
 some l
 else
 some false
 else
 some false
 else
 some false
def Qcn (b:(QMk×Int))(c:Int)(a:Int):Option (Int⊕Unit):=
 (idx b.1 c).bind fun d=>
 bif (decide (a<(d.length:Int)))then
 (idx b.1 c).bind fun e=>
 (idx e a).bind fun f=>
 some (.inl (w64 (a+1)))
 else
 some (.inr ())
def Qng (a:Int):Option (Int⊕Unit):=
 some (.inl (w64 (a+1)))
def QbF (b:(QMk×Int))(a:Int):Option (Int⊕Unit):=
 bif (decide (a<(b.1.length:Int)))then
 (Qy (fun st=>Qcn b a st) 0).bind (fun q=>Qng a)
 else
 some (.inr ())
def Qnh (l:Bool)(a:Bool)(b:(QMk×Int))(c:(QMk×Int))(d:(QMk×Int))(e:(QMk×Int))(f:(QMk×Int))(g:(QMk×Int))(h:(QMk×Int))(i:(QMk×Int))(j:QMk)(m:QMk):Option Bool:=
 bif l then
 bif a then
 bif (b.2==c.2)then
 bif (d.2==e.2)then
 bif (f.2==g.2)then
 bif (h.2==i.2)then
 (Qb3 j m).bind fun k=>
 some k
 else
 some false
 else
 some false
 else
 some false
 else
 some false
 else
 some false
 else
 some false
def QiP (a:Bool):Option Bool:=
 some a
def QiQ (l:Bool)(a:Bool)(b:(QMk×Int))(c:(QMk×Int))(d:(QMk×Int))(e:(QMk×Int))(f:(QMk×Int))(g:(QMk×Int))(h:(QMk×Int))(i:(QMk×Int))(j:QMk)(m:QMk):Option Bool:=
 (Qnh l a b c d e f g h i j m).bind (fun k=>QiP k)
def Qf3 (b:(QMk×Int))(k:Bool)(c:(QMk×Int))(d:(QMk×Int))(e:(QMk×Int))(f:(QMk×Int))(g:(QMk×Int))(h:(QMk×Int))(i:(QMk×Int))(j:QMk)(l:QMk)(a:Bool):Option Bool:=
 (Qy (fun st=>QbF b st) 0).bind (fun q=>QiQ k a c d b e f g h i j l)
def Qii (c:Qq)(d:Qp)(e:QMk)(n:Bool)(a:QMk):Option Bool:=
 (QdN c a d).bind fun f=>
 (Qj7 c e d).bind fun g=>
 (QdO c a d).bind fun h=>
 (Qj8 c e d).bind fun i=>
 (Qll c a d).bind fun j=>
 (Qm0 c e d).bind fun k=>
 (Qee c a d).bind fun l=>
 (Qpg c e d).bind fun m=>
 (Qnf f g h i j k l m).bind (fun b=>Qf3 h n f g i j k l m a e b)
def QfQ (c:Qq)(a:QMk)(b:Qp):Option Bool:=
 (Qof).bind fun d=>
 (QmU c a).bind fun e=>
 bif ((!e)||((decide (20<(b.Vars.length:Int)))||((decide (20<(b.Ins.length:Int)))||(decide (20<(b.Outs.length:Int))))))then
 some d
 else
 (chk (decide (([]:List QBg).length+a.length<=4294967296))).bind fun _=>
 (Qy (fun st=>QbE a st.1 st.2) (0,(([]:List QBg)++a))).bind (fun q=>Qii c b a d q)
theorem QtT (U N m){r}(h:QfQ U N m=some r):Qc prog 3 [.agg (Qd U),.sl 1 (N.map Qf),.agg (Qk m)] [] (Gives (.b r) []):=by
 refine wk_ 198 func3 fun C f=>?_
 obtain⟨X,f2,h⟩:=Qb h
 obtain⟨x7,f3,h⟩:=Qb h
 refine Qa f [9,.o (.c false [] (.b X)),5,.A (Qd U),1,.o (.C2 (.b x7)),5] rfl (a3_ (Qwa  f2) rfl (Qxk _ _ f3)) ?_
 refine AK.meetX (fun σ=>σ=⟨[(1,.sl 1 (N.map Qf)),lk_ 3,lk_ 5,(7,.b X),(53,.b ((!x7)||((decide (20<(m.Vars.length:Int)))||((decide (20<(m.Ins.length:Int)))||(decide (20<(m.Outs.length:Int)))))))],[(3,.var (Qd U)),(5,.var (Qk m))]⟩) ?_ ?_
 ·refine tg_ f [4] ?_
  rcases QD (!x7)with W | W
  ·refine Qa f [.S 36 (.b true),18,.S 53 (.b ((!x7)||((decide (20<(m.Vars.length:Int)))||((decide (20<(m.Ins.length:Int)))||(decide (20<(m.Outs.length:Int))))))),.K [1,3,5,7,53] [3,5]] rfl ⟨(tc_ W),(congrArg V.b (orT W rfl))⟩ ?_
   exact mt_
  refine Qa f [.S 36 (.b false),2,.o (.ln m.Vars.length),3] rfl ⟨(tc_ W),Qg⟩ ?_
  rcases QD (decide (20<(m.Vars.length:Int)))with M | M
  ·refine Qa f [.S 42 (.b true),12,.S 53 (.b ((!x7)||((decide (20<(m.Vars.length:Int)))||((decide (20<(m.Ins.length:Int)))||(decide (20<(m.Outs.length:Int))))))),.K [1,3,5,7,53] [3,5]] rfl ⟨(tc_ M),(congrArg V.b (orF W (orT M rfl)))⟩ ?_
   exact mt_
  refine Qa f [.S 42 (.b false),2,.o (.ln m.Ins.length),3] rfl ⟨(tc_ M),Qg⟩ ?_
  rcases QD (decide (20<(m.Ins.length:Int)))with P | P
  ·refine Qa f [.S 48 (.b true),6,.S 53 (.b ((!x7)||((decide (20<(m.Vars.length:Int)))||((decide (20<(m.Ins.length:Int)))||(decide (20<(m.Outs.length:Int))))))),.K [1,3,5,7,53] [3,5]] rfl ⟨(tc_ P),(congrArg V.b (orF W (orF M (orT P rfl))))⟩ ?_
   exact mt_
  refine Qa f [.S 48 (.b false),2,.o (.ln m.Outs.length),3,.S 53 (.b ((!x7)||((decide (20<(m.Vars.length:Int)))||((decide (20<(m.Ins.length:Int)))||(decide (20<(m.Outs.length:Int))))))),.K [1,3,5,7,53] [3,5]] rfl ⟨⟨(tc_ P),Qg⟩,(congrArg V.b (orF W (orF M (orF P rfl))))⟩ ?_
  exact mt_
 rintro σ rfl
 refine tg_ f [1] ?_
 rcases Qo h with⟨a0,h⟩|⟨a0,h⟩
 ·refine Qa f [.T,8] rfl (a1_ a0) ?_
  cases h
  exact d1_ tt_
 obtain⟨c4,h⟩:=Qaq h
 refine Qa f [.F,5,.O 55 (.arr 1 (([]:List QBg).map Qf)),.S 55 (.own 55 ([]:List QBg).length),1,.app ((([]:List QBg)++N).map Qf) (([]:List QBg)++N).length,10,.K [1,3,5,7,9,10] [3,5,55]] rfl (a4_ a0 rfl rfl ⟨Qg,Qba c4 Qg,Qao,Qbq Qg⟩) ?_
 obtain⟨s,c5,h⟩:=Qb h
 refine AK.loop (body:=(fun st=>QbE N st.1 st.2)) (fun st σ=>σ=⟨[(1,.sl 1 (N.map Qf)),lk_ 3,lk_ 5,(7,.b X),(9,.own 55 st.2.length),(10,.I st.1)],[(3,.var (Qd U)),(5,.var (Qk m)),(55,.arr 1 (st.2.map Qf))]⟩) (fun q e σ=>e=.exit 0/\σ=⟨[(1,.sl 1 (N.map Qf)),lk_ 3,lk_ 5,(7,.b X),(9,.own 55 q.length)],[(3,.var (Qd U)),(5,.var (Qk m)),(55,.arr 1 (q.map Qf))]⟩) c5 rfl ?_ ?_
 ·rintro ⟨c6,c7⟩ o σ rfl h
  refine tg_ f [9] ?_
  rcases Qo h with⟨a1,h⟩|⟨a1,h⟩
  ·obtain⟨Y,c8,h⟩:=Qb h
   obtain⟨c9,h⟩:=Qaq h
   obtain⟨f4,b6,h⟩:=Qb h
   refine Qa f [.T,8,.O 66 (.arr 2 (([]:List (Int×Int)).map Ql)),.S 66 (.own 66 ([]:List (Int×Int)).length),2,.o (.row (Qf Y)),1,.app ((([]:List (Int×Int))++Y).map Ql) (([]:List (Int×Int))++Y).length,1,.frz 66 ((([]:List (Int×Int))++Y).map Ql) [71] [],.st (Qf f4) ((c7.set c6.toNat (([]:List (Int×Int))++Y)).map Qf),8,.S 9 (.own 55 (c7.set c6.toNat (([]:List (Int×Int))++Y)).length),.K [1,3,5,7,9,10] [3,5,55]] rfl (a9_ a1 rfl rfl (QF c8) ⟨Qg,Qba c9 Qg,Qao,Qbq Qg⟩ (Qc3 b6 rfl) (a1_ (QbU Qg)) ⟨(QbO (Qck b6).2),Qin rfl⟩ (congrArg (fun n=>V.own 55 n) (by simp))) ?_
   cases h
   exact QU rfl rfl
  refine Qa f [.F,2,.K [1,3,5,7,9] [3,5,55]] rfl (a1_ a1) ?_
  cases h
  exact QW rfl (an_ rfl rfl)
 replace h:Qii U m N X s=some r:=h
 rintro e σ ⟨rfl,rfl⟩
 obtain⟨w,d0,h⟩:=Qb h
 obtain⟨A,d1,h⟩:=Qb h
 obtain⟨l,d2,h⟩:=Qb h
 obtain⟨B,d3,h⟩:=Qb h
 obtain⟨E,d4,h⟩:=Qb h
 obtain⟨G,d5,h⟩:=Qb h
 obtain⟨J,d6,h⟩:=Qb h
 obtain⟨L,d7,h⟩:=Qb h
 refine Qa f [4,.A (Qd U),1,.A (Qk m),.frz 55 (s.map Qf) [9,75] [],.o (.C3 (.tup [.sl 1 (w.1.map Qf),.I w.2])),9,.A (Qd U),1,.A (Qk m),.o (.C3 (.tup [.sl 1 (A.1.map Qf),.I A.2])),9,.A (Qd U),1,.A (Qk m)] rfl (a9_ rfl rfl (a2_ (QbU Qg) (QbU Qg)) (Qnn _ _ _ d0) rfl rfl (Qro _ _ _ d1) rfl rfl) ?_
 refine AK.opE rfl (QA8.thaw (g:=false) (QaS.fn rfl (Qr.en rfl) rfl) rfl (QN f.n rfl) f.g (.cons (.dat _ rfl) (.cons (.dat _ rfl) (.cons (.dat _ rfl) .nil))) (fun β=>QqO β _ _ _ d2) (fun β=>Qpb.map2 (g:=Qf) (QBW β) (fun _=>rfl) rfl) rfl) fun y=>?_
 refine Qa f [9,.A (Qd U),1,.A (Qk m),.o (.C3 (.tup [.sl 1 (B.1.map Qf),.I B.2])),9,.A (Qd U),1,.A (Qk m),.o (.C3 (.tup [.sl 1 (E.1.map Qf),.I E.2])),9,.A (Qd U),1,.A (Qk m),.o (.C3 (.tup [.sl 1 (G.1.map Qf),.I G.2])),9,.A (Qd U),1,.A (Qk m),.o (.C3 (.tup [.sl 1 (J.1.map Qf),.I J.2])),9,.A (Qd U),1,.A (Qk m),.o (.C3 (.tup [.sl 1 (L.1.map Qf),.I L.2])),8] rfl ⟨⟨⟨⟨⟨⟨⟨⟨⟨⟨⟨⟨⟨⟨⟨tt_,rfl⟩,rfl⟩,(Qrq _ _ _ d3)⟩,rfl⟩,rfl⟩,(QrW _ _ _ d4)⟩,rfl⟩,rfl⟩,(Qxp _ _ _ d5)⟩,rfl⟩,rfl⟩,(QjT _ _ _ d6)⟩,rfl⟩,rfl⟩,(Qy0 _ _ _ d7)⟩ ?_
 obtain⟨k,d8,h⟩:=Qb h
 replace h:Qf3 l X w A B E G J L s N k=some r:=h
 refine AK.meetX (fun σ=>σ=⟨[(1,.sl 1 (N.map Qf)),(7,.b X),(9,.sl 1 (s.map Qf)),(12,.I w.2),(14,.I A.2),(15,.lit y),(16,.I l.2),(18,.I B.2),(20,.I E.2),(22,.I G.2),(24,.I J.2),(26,.I L.2),(27,.b k)],[(91,.nst y (.sl 1 (l.1.map Qf)))]⟩) ?_ ?_
 ·replace h:=d8
  obtain⟨f5,d9,h⟩:=Qb h
  refine Qa f [3,.o (.C2 (.b f5)),1] rfl (a1_ (Qc6 _ _ d9)) ?_
  rcases Qo h with⟨a3,h⟩|⟨a3,h⟩
  ·obtain⟨f6,e0,h⟩:=Qb h
   refine Qa f [.S 132 (.b true),2,.o (.c true [.t 91,.d] (.b f6)),2] rfl ⟨(tc_ a3),⟨rfl,(Qc6 _ _ e0)⟩⟩ ?_
   rcases Qo h with⟨a4,h⟩|⟨a4,h⟩
   ·obtain⟨f7,e4,h⟩:=Qb h
    refine Qa f [.S 137 (.b true),2,.o (.C2 (.b f7)),2] rfl ⟨(tc_ a4),(Qc6 _ _ e4)⟩ ?_
    rcases Qo h with⟨a5,h⟩|⟨a5,h⟩
    ·obtain⟨f8,e5,h⟩:=Qb h
     refine Qa f [.S 142 (.b true),2,.o (.C2 (.b f8)),3,.K [1,7,9,12,14,15,16,18,20,22,24,26,27] [91]] rfl ⟨(tc_ a5),(Qc6 _ _ e5)⟩ ?_
     cases h
     exact mt_
    refine Qa f [.S 142 (.b false),6,.K [1,7,9,12,14,15,16,18,20,22,24,26,27] [91]] rfl (tc_ a5) ?_
    cases h
    exact mt_
   refine Qa f [.S 137 (.b false),11,.K [1,7,9,12,14,15,16,18,20,22,24,26,27] [91]] rfl (tc_ a4) ?_
   cases h
   exact mt_
  refine Qa f [.S 132 (.b false),16,.K [1,7,9,12,14,15,16,18,20,22,24,26,27] [91]] rfl (tc_ a3) ?_
  cases h
  exact mt_
 rintro σ rfl
 replace h:Qf3 l X w A B E G J L s N k=some r:=h
 refine tg_ f [8,.K [1,7,9,12,14,15,16,18,20,22,24,26,27,28] [91]] ?_
 obtain⟨f9,e6,h⟩:=Qb h
 refine AK.scrib (d:=91) (q:=0) (z':=2) (rs:=l.1.map Qf) (ls:=l.1.map fun e=>e.length) rfl (by simp) (fun i r hr=>by
  obtain⟨e,he,rfl⟩:=Qax.1 (Qau▸hr)
  exact⟨e.map Ql,rfl,by rw [Qau,he];simp,by decide,fun u hu=>by obtain⟨n,_,rfl⟩:=QaN.1 hu;exact⟨n.1,rfl⟩⟩) fun D H hS=>?_
 obtain⟨a,c,rfl,hS⟩:=hS
 have hS2:∀{i:Int} {e:List (Int×Int)},idx l.1 i=some e->(0<=i/\i<((l.1.map fun e=>e.length).length:Int))/\∃b off y,a=some ⟨b,off,none⟩/\H b (off+i.toNat*1) y/\QDT 2 D y e.length:=fun {i e} he=>by
  obtain⟨h0,h1⟩:=Qck he
  obtain⟨b,off,y,e1,e2,e3⟩:=hS i.toNat e.length (by rw [Qau,h1];rfl)
  have:=(QX.1 h1).1
  exact⟨⟨h0,by rw [QqC];omega⟩,b,off,y,e1,e2,e3⟩
 refine tg_ f [.K [1,7,9,12,14,15,16,18,20,22,24,26,27,28] [91]] ?_
 refine AK.loop (body:=(fun st=>QbF l st)) (fun st σ=>σ=⟨[(1,.sl 1 (N.map Qf)),(7,.b X),(9,.sl 1 (s.map Qf)),(12,.I w.2),(14,.I A.2),(15,.lit (.slice a (l.1.map fun e=>e.length).length c)),(16,.I l.2),(18,.I B.2),(20,.I E.2),(22,.I G.2),(24,.I J.2),(26,.I L.2),(27,.b k),(28,.I st)],[(91,.scr D H)]⟩) (fun q e σ=>e=.exit 2/\σ=⟨[(1,.sl 1 (N.map Qf)),(7,.b X),(9,.sl 1 (s.map Qf)),(12,.I w.2),(14,.I A.2),(16,.I l.2),(18,.I B.2),(20,.I E.2),(22,.I G.2),(24,.I J.2),(26,.I L.2),(27,.b k)],[(91,.scr D H)]⟩) e6 rfl ?_ ?_
 ·rintro Z o σ rfl h
  refine Qa f [5,.x (fun σ=>σ.put 149 (.I (l.1.map fun e=>e.length).length)),.S 149 (.I l.1.length),3] rfl (a2_ (Stp.lenLit rfl rfl (QN f.n rfl) rfl (Qr.es rfl)) (congrArg (fun n:Nat=>V.I n) (by simp))) ?_
  refine bq_ f h [.T,10,.K [1,7,9,12,14,15,16,18,20,22,24,26,27,28,29] [91]] rfl (fun a6 h=>?_) [.F,2,.K [1,7,9,12,14,16,18,20,22,24,26,27] [91]] rfl fun a6 h=>?_
  ·obtain⟨g0,e7,h⟩:=Qb h
   refine AK.loop (body:=(fun st=>Qcn l Z st)) (fun st σ=>σ=⟨[(1,.sl 1 (N.map Qf)),(7,.b X),(9,.sl 1 (s.map Qf)),(12,.I w.2),(14,.I A.2),(15,.lit (.slice a (l.1.map fun e=>e.length).length c)),(16,.I l.2),(18,.I B.2),(20,.I E.2),(22,.I G.2),(24,.I J.2),(26,.I L.2),(27,.b k),(28,.I Z),(29,.I st)],[(91,.scr D H)]⟩) (fun q e σ=>e=.exit 4/\σ=⟨[(1,.sl 1 (N.map Qf)),(7,.b X),(9,.sl 1 (s.map Qf)),(12,.I w.2),(14,.I A.2),(15,.lit (.slice a (l.1.map fun e=>e.length).length c)),(16,.I l.2),(18,.I B.2),(20,.I E.2),(22,.I G.2),(24,.I J.2),(26,.I L.2),(27,.b k),(28,.I Z)],[(91,.scr D H)]⟩) e7 rfl ?_ ?_
   ·rintro c0 o σ rfl h
    obtain⟨c1,b7,h⟩:=Qb h
    obtain⟨⟨e8,e9⟩,b,off,y,rfl,hH,a2,c2,rfl,hD⟩:=hS2 b7
    refine Qa f [6,.x (fun σ=>σ.put 156 (.lit (.pointer (some ⟨b,off+Z.toNat*1,none⟩)))),.x (fun σ=>σ.put 157 (.lit (.slice a2 c1.length c2))),.x (fun σ=>σ.put 158 (.I c1.length)),3] rfl (a3_ (Stp.idxLit rfl rfl (QN f.n rfl) rfl rfl (Qr.es rfl) e8 e9) (Stp.loadScr (p:=91) rfl rfl (QN f.n rfl) rfl (Qr.ag rfl) rfl hH) (Stp.lenLit rfl rfl (QN f.n rfl) rfl (Qr.es rfl))) ?_
    rcases Qo h with⟨a7,h⟩|⟨a7,h⟩
    ·obtain⟨g5,b8,h⟩:=Qb h
     obtain⟨g6,b9,h⟩:=Qb h
     rw [b7]at b8
     rw [<-Option.some.inj b8]at b9
     obtain⟨g1,g2⟩:=Qck b9
     have g3:=(QX.1 g2).1
     obtain⟨b2,a8,rfl,hD2⟩:=hD c0.toNat g3
     refine Qa f [.T,7,.x (fun σ=>σ.put 164 (.lit (.pointer (some ⟨b,off+Z.toNat*1,none⟩)))),.x (fun σ=>σ.put 165 (.lit (.slice (some ⟨b2,a8,none⟩) c1.length c2))),1,.x (fun σ=>σ.put 167 (.lit (.pointer (some ⟨b2,a8+c0.toNat*2,none⟩)))),.x (fun σ=>σ.put 168 (.lit (.pointer (some ⟨b2,a8+c0.toNat*2+(0:Int).toNat*1,none⟩)))),.x (fun σ=>σ.set 91 (.scr D H)),8,.K [1,7,9,12,14,15,16,18,20,22,24,26,27,28,29] [91]] rfl (a6_ a7 (Stp.idxLit rfl rfl (QN f.n rfl) rfl rfl (Qr.es rfl) e8 e9) (Stp.loadScr (p:=91) rfl rfl (QN f.n rfl) rfl (Qr.ag rfl) rfl hH) (Stp.idxLit rfl rfl (QN f.n rfl) rfl rfl (Qr.es rfl) g1 (by omega)) (Stp.idxLitA (n:=2) (z:=1) (j:=0) rfl rfl (QN f.n rfl) rfl rfl (by kernel_rfl) (by decide) (by decide)) (Stp.storeScr (p:=91) rfl rfl rfl rfl (Qr.sz rfl) rfl hD2)) ?_
     cases h
     exact QU rfl rfl
    refine Qa f [.F,2,.K [1,7,9,12,14,15,16,18,20,22,24,26,27,28] [91]] rfl (a1_ a7) ?_
    cases h
    exact QW rfl (an_ rfl rfl)
   obtain _:=g0
   replace h:Qng Z=some o:=h
   rintro e σ ⟨rfl,rfl⟩
   refine tg_ f [8,.K [1,7,9,12,14,15,16,18,20,22,24,26,27,28] [91]] ?_
   cases h
   exact QU rfl rfl
  cases h
  exact QW rfl (an_ rfl rfl)
 obtain _:=f9
 replace h:QiQ X k w A l B E G J L s N=some r:=h
 rintro e σ ⟨rfl,rfl⟩
 refine tg_ f [3] ?_
 obtain⟨c3,f0,h⟩:=Qb h
 replace h:QiP c3=some r:=h
 refine AK.meetX (fun σ=>σ=⟨[(6,.b c3)],[]⟩) ?_ ?_
 ·replace h:=f0
  refine tg_ f [3] ?_
  refine bg_ h (fun a9 h=>Qa f [.S 170 (.b true),3] rfl (tc_ a9) ?_) fun a9 h=>Qa f [.S 170 (.b false),29,.K [6] []] rfl (tc_ a9) ?_
  ·refine bg_ h (fun b0 h=>Qa f [.S 173 (.b true),5] rfl (tc_ b0) ?_) fun b0 h=>Qa f [.S 173 (.b false),26,.K [6] []] rfl (tc_ b0) ?_
   ·refine bg_ h (fun b1 h=>Qa f [.S 178 (.b true),5] rfl (tc_ b1) ?_) fun b1 h=>Qa f [.S 178 (.b false),21,.K [6] []] rfl (tc_ b1) ?_
    ·refine bg_ h (fun b3 h=>Qa f [.S 183 (.b true),5] rfl (tc_ b3) ?_) fun b3 h=>Qa f [.S 183 (.b false),16,.K [6] []] rfl (tc_ b3) ?_
     ·refine bg_ h (fun b4 h=>Qa f [.S 188 (.b true),5] rfl (tc_ b4) ?_) fun b4 h=>Qa f [.S 188 (.b false),11,.K [6] []] rfl (tc_ b4) ?_
      ·rcases Qo h with⟨b5,h⟩|⟨b5,h⟩
       ·obtain⟨g4,f1,h⟩:=Qb h
        refine Qa f [.S 193 (.b true),2,.o (.C2 (.b g4)),3,.K [6] []] rfl ⟨(tc_ b5),(Qc6 _ _ f1)⟩ ?_
        cases h
        exact mt_
       refine Qa f [.S 193 (.b false),6,.K [6] []] rfl (tc_ b5) ?_
       cases h
       exact mt_
      cases h
      exact mt_
     cases h
     exact mt_
    cases h
    exact mt_
   cases h
   exact mt_
  cases h
  exact mt_
 rintro σ rfl
 replace h:QiP c3=some r:=h
 refine tg_ f [2] ?_
 cases h
 exact d1_ tt_

end Go.Proofs
