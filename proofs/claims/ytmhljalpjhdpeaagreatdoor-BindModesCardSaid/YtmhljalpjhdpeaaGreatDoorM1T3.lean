/- What functions of the program do, as functions over plain data, and the walks that show it: printed by a program. -/
import Derived.Test.YtmhljalpjhdpeaaGreatDoorM1T2
set_option linter.unusedVariables false
set_option linter.unusedSimpArgs false
set_option linter.unusedSectionVars false
set_option linter.deprecated false
set_option maxRecDepth 100000
set_option maxHeartbeats 4000000
noncomputable section
namespace Go.Proofs
open Go Go.RowKit Go.Vm Go.Proofs.Tryz
def QxS (at_4:Int)(b:(List Int))(c:Int):Option Bool:=
 bif (decide (at_4<(b.length:Int)))then
 (idx b at_4).bind fun a=>
 some (decide (a<c))
 else
 some false
def Qna (at_4:Int)(a:Bool):Option (Int⊕Int):=
 bif a then
 some (.inl (w64 (at_4+1)))
 else
 some (.inr at_4)
def QrQ (a:(List Int))(b:Int)(at_4:Int):Option (Int⊕Int):=
 (QxS at_4 a b).bind (fun c=>Qna at_4 c)
def QrR (a:(List Int))(b:Int)(at_6:Int):Option (List Int):=
 (chk (decide (0<=at_6)&&decide (0<=at_6.toNat)&&decide (at_6.toNat<=a.length))).bind fun _=>
 (chk (decide (([]:List Int).length+((a.drop 0).take (at_6.toNat-0)).length<=4294967296))).bind fun _=>
 (chk (decide ((([]:List Int)++((a.drop 0).take (at_6.toNat-0))).length+([b]:List Int).length<=4294967296))).bind fun _=>
 (chk (decide (0<=at_6)&&decide (at_6.toNat<=a.length)&&decide (a.length<=a.length))).bind fun _=>
 (chk (decide (((([]:List Int)++((a.drop 0).take (at_6.toNat-0)))++[b]).length+((a.drop at_6.toNat).take (a.length-at_6.toNat)).length<=4294967296))).bind fun _=>
 some (((([]:List Int)++((a.drop 0).take (at_6.toNat-0)))++[b])++((a.drop at_6.toNat).take (a.length-at_6.toNat)))
def Qnw (a:(List Int))(b:Int):Option (List Int):=
 (Qz (fun st=>QrQ a b st) 0).bind (fun q=>QrR a b q)
theorem QxT (c g){r}(h:Qnw c g=some r):Qc prog 76 [.sl 1 (c.map Qe),.I g] [] (Gives (.own 600 r.length) [(600,.arr 1 (r.map Qe))]):=by
 refine wk_ 32 func76 fun C d=>?_
 refine tg_ d [12,.K [0,1,5] []] ?_
 obtain⟨at_6,s,h⟩:=Qb h
 refine AK.loop (body:=(fun st=>QrQ c g st)) (fun st σ=>σ=⟨[(0,.sl 1 (c.map Qe)),(1,.I g),(5,.I st)],[]⟩) (fun q e σ=>e=.exit 0/\σ=⟨[(0,.sl 1 (c.map Qe)),(1,.I g),(5,.I q)],[]⟩) s rfl ?_ ?_
 ·rintro at_4 o σ rfl h
  refine tg_ d [2] ?_
  obtain⟨y,z,h⟩:=Qb h
  replace h:Qna at_4 y=some o:=h
  refine AK.meetX (fun σ=>σ=⟨[(0,.sl 1 (c.map Qe)),(1,.I g),(5,.I at_4),(17,.b y)],[]⟩) ?_ ?_
  ·replace h:=z
   refine Qa d [3,.o (.ln c.length),2] rfl (a1_ Qf) ?_
   rcases Qm h with⟨p,h⟩|⟨p,h⟩
   ·obtain⟨A,t,h⟩:=Qb h
    refine Qa d [.S 10 (.b true),2,.o (.row (Qe A)),5,.K [0,1,5,17] []] rfl ⟨(tc_ p),(QJ t)⟩ ?_
    cases h
    exact mt_
   refine Qa d [.S 10 (.b false),8,.K [0,1,5,17] []] rfl (tc_ p) ?_
   cases h
   exact mt_
  rintro σ rfl
  replace h:Qna at_4 y=some o:=h
  refine tg_ d [1] ?_
  refine bq_ d h [.T,9,.K [0,1,5] []] rfl (fun i h=>?_) [.F,2,.K [0,1,5] []] rfl fun i h=>?_
  ·cases h
   exact QY rfl rfl
  cases h
  exact QZ rfl (an_ rfl rfl)
 replace h:QrR c g at_6=some r:=h
 rintro e σ ⟨rfl,rfl⟩
 obtain⟨j,h⟩:=QaV h
 obtain⟨u,h⟩:=QaV h
 obtain⟨v,h⟩:=QaV h
 obtain⟨k,h⟩:=QaV h
 obtain⟨w,h⟩:=QaV h
 refine tg_ d [3,.K [0,1,5] []] ?_
 refine AK.draw2 Qo d mixed [.N,.N,.N,.a (.any (.sl 1 (((c.drop 0).take (at_6.toNat-0)).map Qe)) none) none false,.m (.app ((([]:List Int)++((c.drop 0).take (at_6.toNat-0))).map Qe) (([]:List Int)++((c.drop 0).take (at_6.toNat-0))).length),.a .no none true,.a (.bd []) (some ([],.sl 1 (([g]:List Int).map Qe))) true,.m (.app (((([]:List Int)++((c.drop 0).take (at_6.toNat-0)))++[g]).map Qe) ((([]:List Int)++((c.drop 0).take (at_6.toNat-0)))++[g]).length),.a .no none true,.a .no none true,.a (.any (.sl 1 (((c.drop at_6.toNat).take (c.length-at_6.toNat)).map Qe)) none) none true,.m (.app ((((([]:List Int)++((c.drop 0).take (at_6.toNat-0)))++[g])++((c.drop at_6.toNat).take (c.length-at_6.toNat))).map Qe) (((([]:List Int)++((c.drop 0).take (at_6.toNat-0)))++[g])++((c.drop at_6.toNat).take (c.length-at_6.toNat))).length),.N] [0,1,5] [] [4] [20] rfl rfl rfl ⟨⟨⟨⟨⟨⟨tt_,(fun σ x B _=>Stp.sliceD rfl rfl (QR d.n rfl) (x _ _ rfl) (Qo.es rfl) Bnd.no (Bnd.val (x _ _ rfl) (Qap (Qpc j)) rfl) (Qap (Qpd j)) (QbM (Qap (Qrt j)) (Nat.le_of_eq Qf.symm)) QsA)⟩,⟨(Qf (f:=Qe) (l:=([]:List Int))),Qcw u Qf,(Qa2 (f:=Qe) (l:=([]:List Int)) (m:=((c.drop 0).take (at_6.toNat-0)))),Qdc (l:=([]:List Int)) Qf⟩⟩,rfl⟩,⟨Qf,Qcw v Qf,Qa2,Qdc Qf⟩⟩,(fun σ x B _=>Stp.sliceD rfl rfl (QR d.n rfl) (x _ _ rfl) (Qo.es rfl) (Bnd.val (x _ _ rfl) (Qap (Qpc k)) rfl) (Bnd.none_ Qf) (Qap (Qpd k)) (Nat.le_of_eq Qf.symm) QsA)⟩,⟨Qf,Qcw w Qf,Qa2,Qdc Qf⟩⟩ rfl (by kernel_rfl) rfl rfl rfl ?_
 refine tg_ d [2,.K [4] [20],.ren 20 600] ?_
 cases h
 exact d1_ r1_
def QlI (c:Qn)(b:Qi):Option (QMk×Int):=
 (QiK c b.Task b.Vars).bind fun d=>
 bif (d.2 != 0)then
 some (([]:List QBg),d.2)
 else
 (idx c.Tasks b.Task).bind fun e=>
 (QeL c e.Outs b.Outs d.1).bind fun a=>
 some (a.1,a.2)
theorem Qv6 (i l){r}(h:QlI i l=some r):Qc prog 77 [.agg (Qd i),.agg (Qw l)] [] (Gives (.tup [.sl 1 (r.1.map Qs),.I r.2]) []):=by
 refine wk_ 34 func77 fun C e=>?_
 obtain⟨p,j,h⟩:=Qb h
 refine Qa e [10,.A (Qd i),4,.o (.C3 (.tup [.sl 1 (p.1.map Qe),.I p.2])),14] rfl (a2_ rfl (Qm7 _ _ _ j)) ?_
 rcases Qm h with⟨b,h⟩|⟨b,h⟩
 ·refine Qa e [.T,9,.denil 4 [some 1]] rfl (a1_ b) ?_
  cases h
  exact d2_ tt_
 obtain⟨q,k,h⟩:=Qb h
 obtain⟨f,g,h⟩:=Qb h
 refine Qa e [.F,3,.K [2,3,4,5,6] [2,3]] rfl (a1_ b) ?_
 refine AK.draw2 Qo e mixed [.a .no (some ([],.agg (Qd i))) false,.N,.N,.N,.N,.a (.row (Qj q)) none false,.N,.N,.N,.N,.N,.a (.C4 (.tup [.sl 1 (f.1.map Qs),.I f.2])) none false,.N,.N,.m .s,.m .s] [] [] [4,5] [] rfl rfl rfl ⟨⟨⟨tt_,rfl⟩,(QJ k)⟩,(QkZ _ _ _ _ g)⟩ rfl (by kernel_rfl) rfl rfl rfl ?_
 refine tg_ e [2] ?_
 cases h
 exact d2_ tt_
def QlY (a:Int):Option (Int⊕(Unit⊕Unit)):=
 some (.inl (w64 (a+1)))
def QpT (a:(QMk×Int))(c:QMk):Option Bool:=
 bif (a.2==0)then
 (QhJ a.1 c).bind fun b=>
 some b
 else
 some false
def QlZ (a:Int)(b:Bool):Option (Int⊕(Unit⊕Unit)):=
 bif b then
 some (.inr (.inl ()))
 else
 QlY a
def Qca (b:QF)(g:Qi)(h:Qn)(i:((List Int)×Int))(j:QMk)(a:Int):Option (Int⊕(Unit⊕Unit)):=
 bif ((decide (a<(b.Ins.length:Int)))&&(b.Join==3))then
 (QoS g.Ins a).bind fun c=>
 bif c then
 QlY a
 else
 (Qnw g.Ins a).bind fun d=>
 (QeL h b.Ins d i.1).bind fun e=>
 (QpT e j).bind (fun f=>QlZ a f)
 else
 some (.inr (.inr ()))
def QpU : Option Int:=
 some 11
def QeM (b:Qn)(c:Qi):Option Int:=
 (QlI b c).bind fun a=>
 some a.2
def QlJ (d:Qn)(j:QMk)(a:Qi):Option Int:=
 (QiK d a.Task a.Vars).bind fun e=>
 bif (e.2 != 0)then
 some e.2
 else
 (idx d.Tasks a.Task).bind fun c=>
 (Qj8 c.Guard e.1).bind fun f=>
 bif (f.2 != 0)then
 some f.2
 else
 bif (f.1==0)then
 some 9
 else
 (QhI c.Join (c.Ins.length:Int) a.Ins).bind fun g=>
 (QhI c.Split (c.Outs.length:Int) a.Outs).bind fun h=>
 bif ((!g)||(!h))then
 some 11
 else
 (QlH d a).bind fun b=>
 bif (b.2 != 0)then
 some b.2
 else
 (QhJ b.1 j).bind fun i=>
 bif (!i)then
 some 10
 else
 (Qz (fun st=>Qca c a d e j st) 0).bind (Sum.elim (fun q=>QpU) (fun q=>QeM d a))
theorem Qv7 (l E m){r}(h:QlJ l E m=some r):Qc prog 37 [.agg (Qd l),.sl 1 (E.map Qs),.agg (Qw m)] [] (Gives (.I r) []):=by
 refine wk_ 124 func37 fun C f=>?_
 obtain⟨G,a7,h⟩:=Qb h
 refine Qa f [9,.A (Qd l),4,.o (.C3 (.tup [.sl 1 (G.1.map Qe),.I G.2])),14] rfl (a2_ rfl (Qm7 _ _ _ a7)) ?_
 rcases Qm h with⟨H,h⟩|⟨H,h⟩
 ·refine Qa f [.T,8] rfl (a1_ H) ?_
  cases h
  exact d1_ tt_
 obtain⟨i,a8,h⟩:=Qb h
 obtain⟨x9,a9,h⟩:=Qb h
 refine Qa f [.F,8,.o (.row (Qj i)),.A (Qj i),2,.O 9 (.var (Qj i)),5,.A (Qk i.Guard),1,.o (.C2 (.tup [.I x9.1,.I x9.2])),14] rfl (a6_ H (QJ a8) rfl rfl rfl (QqU _ _ a9)) ?_
 refine bq_ f h [.T,8,.K [6] []] rfl (fun p h=>?_) [.F,9] rfl fun p h=>?_
 ·cases h
  exact d1_ tt_
 rcases Qm h with⟨s,h⟩|⟨s,h⟩
 ·refine Qa f [.T,7] rfl (a1_ s) ?_
  cases h
  exact d1_ tt_
 obtain⟨t,L,h⟩:=Qb h
 obtain⟨D,M,h⟩:=Qb h
 refine Qa f [.F,8,.o (.ln i.Ins.length),2,.o (.C3 (.b t)),9,.o (.ln i.Outs.length),2,.o (.C3 (.b D)),5] rfl (a5_ s Qf (Qop _ _ _ L) Qf (Qop _ _ _ M)) ?_
 refine AK.meetX (fun σ=>σ=⟨[(1,.sl 1 (E.map Qs)),lk_ 3,lk_ 5,(7,.sl 1 (G.1.map Qe)),lk_ 9,(68,.b ((!t)||(!D)))],[(3,.var (Qd l)),(5,.var (Qw m)),(9,.var (Qj i))]⟩) ?_ ?_
 ·refine tg_ f [4] ?_
  rcases QE (!t)with j | j
  ·refine Qa f [.S 65 (.b true),4,.S 68 (.b ((!t)||(!D))),.K [1,3,5,7,9,68] [3,5,9]] rfl ⟨(tc_ j),(congrArg V.b (orT j rfl))⟩ ?_
   exact mt_
  refine Qa f [.S 65 (.b false),4,.S 68 (.b ((!t)||(!D))),.K [1,3,5,7,9,68] [3,5,9]] rfl ⟨(tc_ j),(congrArg V.b (orF j rfl))⟩ ?_
  exact mt_
 rintro σ rfl
 refine tg_ f [1] ?_
 rcases Qm h with⟨u,h⟩|⟨u,h⟩
 ·refine Qa f [.T,7] rfl (a1_ u) ?_
  cases h
  exact d1_ tt_
 obtain⟨P,U,h⟩:=Qb h
 refine Qa f [.F,4,.A (Qd l),.A (Qw m),.o (.C2 (.tup [.sl 1 (P.1.map Qs),.I P.2])),14] rfl (a4_ u rfl rfl (Qv5 _ _ U)) ?_
 rcases Qm h with⟨w,h⟩|⟨w,h⟩
 ·refine Qa f [.T,8] rfl (a1_ w) ?_
  cases h
  exact d1_ tt_
 obtain⟨b0,W,h⟩:=Qb h
 refine Qa f [.F,7,.o (.C2 (.b b0)),3] rfl (a2_ w (QoA _ _ W)) ?_
 refine bq_ f h [.T,7,.K [6] []] rfl (fun x h=>?_) [.F,9,.K [1,3,5,7,9,14] [3,5,9]] rfl fun x h=>?_
 ·cases h
  exact d1_ tt_
 obtain⟨b1,X,h⟩:=Qb h
 refine AK.loop (body:=(fun st=>Qca i m l G E st)) (fun st σ=>σ=⟨[(1,.sl 1 (E.map Qs)),lk_ 3,lk_ 5,(7,.sl 1 (G.1.map Qe)),lk_ 9,(14,.I st)],[(3,.var (Qd l)),(5,.var (Qw m)),(9,.var (Qj i))]⟩) (Sum.elim (fun q e σ=>e=.ret/\σ=⟨[(6,.I 11)],[]⟩) (fun q e σ=>e=.exit 0/\σ=⟨[lk_ 3,lk_ 5],[(3,.var (Qd l)),(5,.var (Qw m))]⟩)) X rfl ?_ ?_
 ·rintro g o σ rfl h
  refine tg_ f [2] ?_
  refine AK.meetX (fun σ=>σ=⟨[(1,.sl 1 (E.map Qs)),lk_ 3,lk_ 5,(7,.sl 1 (G.1.map Qe)),lk_ 9,(14,.I g),(91,.b ((decide (g<(i.Ins.length:Int)))&&(i.Join==3)))],[(3,.var (Qd l)),(5,.var (Qw m)),(9,.var (Qj i))]⟩) ?_ ?_
  ·refine Qa f [4,.o (.ln i.Ins.length),2] rfl (a1_ Qf) ?_
   rcases QE (decide (g<(i.Ins.length:Int)))with k | k
   ·refine Qa f [.S 87 (.b true),5,.S 91 (.b ((decide (g<(i.Ins.length:Int)))&&(i.Join==3))),.K [1,3,5,7,9,14,91] [3,5,9]] rfl ⟨(tc_ k),(congrArg V.b (Qaq k rfl))⟩ ?_
    exact mt_
   refine Qa f [.S 87 (.b false),5,.S 91 (.b ((decide (g<(i.Ins.length:Int)))&&(i.Join==3))),.K [1,3,5,7,9,14,91] [3,5,9]] rfl ⟨(tc_ k),(congrArg V.b (Qa4 k rfl))⟩ ?_
   exact mt_
  rintro σ rfl
  refine tg_ f [1] ?_
  refine bq_ f h [.T,2] rfl (fun y h=>?_) [.F,2,.K [3,5] [3,5]] rfl fun y h=>?_
  ·refine AK.meet (fun σ=>σ=⟨[(1,.sl 1 (E.map Qs)),lk_ 3,lk_ 5,(7,.sl 1 (G.1.map Qe)),lk_ 9,(14,.I g)],[(3,.var (Qd l)),(5,.var (Qw m)),(9,.var (Qj i))]⟩/\QlY g=some o) ?_ ?_
   ·obtain⟨b2,Y,h⟩:=Qb h
    refine Qa f [7,.o (.C2 (.b b2)),2] rfl (a1_ (Qyy _ _ Y)) ?_
    rcases Qm h with⟨z,h⟩|⟨z,h⟩
    ·refine Qa f [.T,3,.K [1,3,5,7,9,14] [3,5,9]] rfl (a1_ z) ?_
     exact AK.met (an_ rfl h)
    obtain⟨Z,a0,h⟩:=Qb h
    obtain⟨a1,a2,h⟩:=Qb h
    refine Qa f [.F,3,.K [1,3,5,7,9,14] [3,5,9]] rfl (a1_ z) ?_
    refine AK.draw2 Qo f mixed [.a .no (some ([],.agg (Qd l))) false,.N,.N,.N,.N,.N,.a (.cd false [.d,.d] 1 (Z.map Qe) Z.length) none false,.N,.a (.C4 (.tup [.sl 1 (a1.1.map Qs),.I a1.2])) none false,.N,.N,.N,.N,.N] [] [] [1,3,5,7,9,14,15,16] [3,5,9] rfl rfl rfl ⟨⟨⟨tt_,rfl⟩,⟨(QxT _ _ a0),Qf⟩⟩,(QkZ _ _ _ _ a2)⟩ rfl (by kernel_rfl) rfl rfl rfl ?_
    refine tg_ f [2] ?_
    obtain⟨J,a3,h⟩:=Qb h
    replace h:QlZ g J=some o:=h
    refine AK.meetX (fun σ=>σ=⟨[(1,.sl 1 (E.map Qs)),lk_ 3,lk_ 5,(7,.sl 1 (G.1.map Qe)),lk_ 9,(14,.I g),(116,.b J)],[(3,.var (Qd l)),(5,.var (Qw m)),(9,.var (Qj i))]⟩) ?_ ?_
    ·replace h:=a3
     refine tg_ f [4] ?_
     rcases Qm h with⟨A,h⟩|⟨A,h⟩
     ·obtain⟨b3,a4,h⟩:=Qb h
      refine Qa f [.S 112 (.b true),2,.o (.C2 (.b b3)),2,.K [1,3,5,7,9,14,116] [3,5,9]] rfl ⟨(tc_ A),(QoA _ _ a4)⟩ ?_
      cases h
      exact mt_
     refine Qa f [.S 112 (.b false),5,.K [1,3,5,7,9,14,116] [3,5,9]] rfl (tc_ A) ?_
     cases h
     exact mt_
    rintro σ rfl
    replace h:QlZ g J=some o:=h
    refine tg_ f [1] ?_
    refine bq_ f h [.T,8,.K [6] []] rfl (fun B h=>?_) [.F,2,.K [1,3,5,7,9,14] [3,5,9]] rfl fun B h=>?_
    ·cases h
     exact Qah rfl (an_ rfl rfl)
    exact AK.met (an_ rfl h)
   rintro σ ⟨rfl,h⟩
   refine tg_ f [5,.K [1,3,5,7,9,14] [3,5,9]] ?_
   cases h
   exact QY rfl rfl
  cases h
  exact QZ rfl (an_ rfl rfl)
 rcases b1 with(_ | _)
 ·replace h:QpU=some r:=h
  rintro e σ ⟨rfl,rfl⟩
  refine tg_ f [2] ?_
  cases h
  exact d1_ tt_
 replace h:QeM l m=some r:=h
 rintro e σ ⟨rfl,rfl⟩
 obtain⟨a5,a6,h⟩:=Qb h
 refine Qa f [4,.A (Qd l),.A (Qw m),.o (.C2 (.tup [.sl 1 (a5.1.map Qs),.I a5.2])),13] rfl (a3_ rfl rfl (Qv6 _ _ a6)) ?_
 cases h
 exact d1_ tt_
def Qip (a:Int)(b:(List Qi)):Option ((Int×(List Qi))⊕((List Qi)⊕(List Qi))):=
 some (.inl ((w64 (a+1)),b))
def Qdz (h:QLL)(b:(List Int))(i:QLL)(j:Int)(l:Qn)(m:QMk)(a:Int)(g:Int)(f:Int)(c:(List Qi)):Option ((Int×(List Qi))⊕((List Qi)⊕(List Qi))):=
 bif (decide (f<(h.length:Int)))then
 (chk (decide (([]:List Int).length+b.length<=4294967296))).bind fun _=>
 (idx i j).bind fun d=>
 (idx h f).bind fun e=>
 (QlJ l m (Qi.mk a (([]:List Int)++b) d e)).bind fun k=>
 bif (k==0)then
 (chk (decide (c.length+([(Qi.mk a (([]:List Int)++b) d e)]:List Qi).length<=4294967296))).bind fun _=>
 bif (decide (g<=((c++([(Qi.mk a (([]:List Int)++b) d e)]:List Qi)).length:Int)))then
 some (.inr (.inl (c++([(Qi.mk a (([]:List Int)++b) d e)]:List Qi))))
 else
 Qip f (c++([(Qi.mk a (([]:List Int)++b) d e)]:List Qi))
 else
 Qip f c
 else
 some (.inr (.inr c))
def QpV (a:(List Qi)):Option ((Int×(List Qi))⊕((List Qi)⊕(List Qi))):=
 some (.inr (.inl a))
def QpW (a:Int)(b:(List Qi)):Option ((Int×(List Qi))⊕((List Qi)⊕(List Qi))):=
 some (.inl ((w64 (a+1)),b))
def QcQ (d:QLL)(f:QLL)(g:(List Int))(h:Qn)(i:QMk)(a:Int)(b:Int)(c:Int)(e:(List Qi)):Option ((Int×(List Qi))⊕((List Qi)⊕(List Qi))):=
 bif (decide (c<(d.length:Int)))then
 (Qz (fun st=>Qdz f g d c h i a b st.1 st.2) (0,e)).bind (Sum.elim (fun q=>QpV q) (fun q=>QpW c q))
 else
 some (.inr (.inr e))
def QpX (a:(List Qi)):Option ((Bool×(List Int)×(List Qi))⊕((List Qi)⊕(List Qi))):=
 some (.inr (.inl a))
def QpY (at_52:Int)(a:(List Int))(b:QF)(f:Qn):Option Bool:=
 bif (decide (0<=at_52))then
 (idx a at_52).bind fun c=>
 (idx b.Vars at_52).bind fun d=>
 (Qe2 f.Colours d.Colour).bind fun e=>
 some (decide (e<=(w64 (c+1))))
 else
 some false
def Ql0 (a:(List Int))(at_52:Int)(b:Bool):Option ((Int×(List Int))⊕(Int×(List Int))):=
 bif b then
 (idx a at_52).bind fun c=>
 some (.inl ((w64 (at_52-1)),(a.set at_52.toNat 0)))
 else
 some (.inr (at_52,a))
def Qf8 (b:QF)(d:Qn)(at_52:Int)(a:(List Int)):Option ((Int×(List Int))⊕(Int×(List Int))):=
 (QpY at_52 a b d).bind (fun c=>Ql0 a at_52 c)
def Qho (b:(List Qi))(at_56:Int)(a:(List Int)):Option ((Bool×(List Int)×(List Qi))⊕((List Qi)⊕(List Qi))):=
 bif (decide (0<=at_56))then
 (idx a at_56).bind fun c=>
 (idx a at_56).bind fun d=>
 some (.inl ((decide (0<=at_56)),(a.set at_56.toNat (w64 (c+1))),b))
 else
 some (.inl ((decide (0<=at_56)),a,b))
def Qhp (b:QF)(d:Qn)(a:(List Int))(c:(List Qi)):Option ((Bool×(List Int)×(List Qi))⊕((List Qi)⊕(List Qi))):=
 (Qz (fun st=>Qf8 b d st.1 st.2) ((w64 ((a.length:Int)-1)),a)).bind (fun q=>Qho c q.1 q.2)
def Qhq (f:QLL)(g:QLL)(i:Qn)(j:QMk)(b:Int)(c:Int)(h:QF)(a:Bool)(d:(List Int))(e:(List Qi)):Option ((Bool×(List Int)×(List Qi))⊕((List Qi)⊕(List Qi))):=
 bif a then
 (Qz (fun st=>QcQ f g d i j b c st.1 st.2) (0,e)).bind (Sum.elim (fun q=>QpX q) (fun q=>Qhp h i d q))
 else
 some (.inr (.inr e))
def QoB (a:(List Qi)):Option (List Qi):=
 some a
def QoC (a:(List Qi)):Option (List Qi):=
 some a
def Qej (d:Qn)(g:QMk)(b:Int)(c:Int):Option (List Qi):=
 bif ((decide (b<0))||((decide ((d.Tasks.length:Int)<=b))||(decide (c<1))))then
 some ([]:List Qi)
 else
 (idx d.Tasks b).bind fun a=>
 (chk (decide (0<=(a.Vars.length:Int))&&decide ((a.Vars.length:Int)<=(a.Vars.length:Int))&&decide ((a.Vars.length:Int)<=4294967296))).bind fun _=>
 (Qdf a.Join (a.Ins.length:Int)).bind fun e=>
 (Qdf a.Split (a.Outs.length:Int)).bind fun f=>
 (Qz (fun st=>Qhq e f d g b c a st.1 st.2.1 st.2.2) (true,(List.replicate (a.Vars.length:Int).toNat (0:Int)),([]:List Qi))).bind (Sum.elim (fun q=>QoB q) (fun q=>QoC q))
theorem QpZ (w y g i){r}(h:Qej w y g i=some r):Qc prog 12 [.agg (Qd w),.sl 1 (y.map Qs),.I g,.I i] [] (Gives (.own 600 r.length) [(600,.arr 4 (r.map Qw))]):=by
 refine wk_ 130 func12 fun C t=>?_
 unfold Qej at h
 refine tg_ t [8] ?_
 refine AK.meetX (fun σ=>σ=⟨[(1,.sl 1 (y.map Qs)),(2,.I g),(3,.I i),lk_ 4,(31,.b ((decide (g<0))||((decide ((w.Tasks.length:Int)<=g))||(decide (i<1)))))],[(4,.var (Qd w))]⟩) ?_ ?_
 ·refine tg_ t [4] ?_
  rcases QE (decide (g<0))with B | B
  ·refine Qa t [.S 21 (.b true),11,.S 31 (.b ((decide (g<0))||((decide ((w.Tasks.length:Int)<=g))||(decide (i<1))))),.K [1,2,3,4,31] [4]] rfl ⟨(tc_ B),(congrArg V.b (orT B rfl))⟩ ?_
   exact mt_
  refine Qa t [.S 21 (.b false),3,.o (.ln w.Tasks.length),3] rfl ⟨(tc_ B),Qf⟩ ?_
  rcases QE (decide ((w.Tasks.length:Int)<=g))with E | E
  ·refine Qa t [.S 28 (.b true),4,.S 31 (.b ((decide (g<0))||((decide ((w.Tasks.length:Int)<=g))||(decide (i<1))))),.K [1,2,3,4,31] [4]] rfl ⟨(tc_ E),(congrArg V.b (orF B (orT E rfl)))⟩ ?_
   exact mt_
  refine Qa t [.S 28 (.b false),4,.S 31 (.b ((decide (g<0))||((decide ((w.Tasks.length:Int)<=g))||(decide (i<1))))),.K [1,2,3,4,31] [4]] rfl ⟨(tc_ E),(congrArg V.b (orF B (orF E rfl)))⟩ ?_
  exact mt_
 rintro σ rfl
 refine tg_ t [1] ?_
 rcases Qm h with⟨G,h⟩|⟨G,h⟩
 ·refine Qa t [.T,7,.adopt 8 600 4,.O 600 (.arr 4 (([]:List Qi).map Qw)),.S 8 (.own 600 ([]:List Qi).length)] rfl (a3_ G rfl rfl) ?_
  cases h
  exact d1_ r1_
 obtain⟨u,a9,h⟩:=Qb h
 obtain⟨b0,h⟩:=QaV h
 obtain⟨k,b1,h⟩:=Qb h
 obtain⟨p,b2,h⟩:=Qb h
 refine Qa t [.F,7,.o (.row (Qj u)),.A (Qj u),2,.O 9 (.var (Qj u)),6,.o (.ln u.Vars.length),.o (.rows ((List.replicate (u.Vars.length:Int).toNat (0:Int)).map Qe)),.S 40 (.own 40 (List.replicate (u.Vars.length:Int).toNat (0:Int)).length),9,.o (.ln u.Ins.length),.o (.co false [.d,.d] 1 (k.map Qu) k.length),9,.o (.ln u.Outs.length),.o (.co false [.d,.d] 1 (p.map Qu) p.length),15,.adopt 13 84 4,.O 84 (.arr 4 (([]:List Qi).map Qw)),.S 13 (.own 84 ([]:List Qi).length),.K [1,2,3,4,9,10,11,12,13,14] [4,9,40,46,52,84]] rfl ⟨⟨⟨⟨⟨⟨⟨⟨⟨⟨⟨⟨⟨tt_,G⟩,(QJ a9)⟩,rfl⟩,rfl⟩,Qf⟩,⟨b0,QyO rfl⟩⟩,(by simp)⟩,Qf⟩,⟨(Qj6 _ _ b1),Qf,.inl rfl⟩⟩,Qf⟩,⟨(Qj6 _ _ b2),Qf,.inl rfl⟩⟩,rfl⟩,(congrArg (fun n=>V.own 84 n) (by simp))⟩ ?_
 obtain⟨c6,b3,h⟩:=Qb h
 refine AK.loop (body:=(fun st=>Qhq k p w y g i u st.1 st.2.1 st.2.2)) (fun st σ=>σ=⟨[(1,.sl 1 (y.map Qs)),(2,.I g),(3,.I i),lk_ 4,lk_ 9,(10,.own 40 st.2.1.length),(11,.own 46 k.length),(12,.own 52 p.length),(13,.own 84 st.2.2.length),(14,.b st.1)],[(4,.var (Qd w)),(9,.var (Qj u)),(40,.arr 1 (st.2.1.map Qe)),(46,.arr 1 (k.map Qu)),(52,.arr 1 (p.map Qu)),(84,.arr 4 (st.2.2.map Qw))]⟩) (Sum.elim (fun q e σ=>e=.ret/\σ=⟨[(8,.own 84 q.length)],[(84,.arr 4 (q.map Qw))]⟩) (fun q e σ=>e=.exit 0/\σ=⟨[(13,.own 84 q.length)],[(84,.arr 4 (q.map Qw))]⟩)) b3 rfl ?_ ?_
 ·rintro ⟨c5,j,e1⟩ o σ rfl h
  refine tg_ t [6] ?_
  refine bq_ t h [.T,10,.K [1,2,3,4,9,10,11,12,13,15] [4,9,40,46,52,84]] rfl (fun H h=>?_) [.F,2,.K [13] [84]] rfl fun H h=>?_
  ·obtain⟨c7,b4,h⟩:=Qb h
   refine AK.loop (body:=(fun st=>QcQ k p j w y g i st.1 st.2)) (fun st σ=>σ=⟨[(1,.sl 1 (y.map Qs)),(2,.I g),(3,.I i),lk_ 4,lk_ 9,(10,.own 40 j.length),(11,.own 46 k.length),(12,.own 52 p.length),(13,.own 84 st.2.length),(15,.I st.1)],[(4,.var (Qd w)),(9,.var (Qj u)),(40,.arr 1 (j.map Qe)),(46,.arr 1 (k.map Qu)),(52,.arr 1 (p.map Qu)),(84,.arr 4 (st.2.map Qw))]⟩) (Sum.elim (fun q e σ=>e=.ret/\σ=⟨[(8,.own 84 q.length)],[(84,.arr 4 (q.map Qw))]⟩) (fun q e σ=>e=.exit 2/\σ=⟨[(1,.sl 1 (y.map Qs)),(2,.I g),(3,.I i),lk_ 4,lk_ 9,(10,.own 40 j.length),(11,.own 46 k.length),(12,.own 52 p.length),(13,.own 84 q.length)],[(4,.var (Qd w)),(9,.var (Qj u)),(40,.arr 1 (j.map Qe)),(46,.arr 1 (k.map Qu)),(52,.arr 1 (p.map Qu)),(84,.arr 4 (q.map Qw))]⟩)) b4 rfl ?_ ?_
   ·rintro ⟨J,e2⟩ o σ rfl h
    refine tg_ t [9] ?_
    refine bq_ t h [.T,10,.K [1,2,3,4,9,10,11,12,13,15,16] [4,9,40,46,52,84]] rfl (fun L h=>?_) [.F,2,.K [1,2,3,4,9,10,11,12,13] [4,9,40,46,52,84]] rfl fun L h=>?_
    ·obtain⟨c8,b5,h⟩:=Qb h
     refine AK.loop (body:=(fun st=>Qdz p j k J w y g i st.1 st.2)) (fun st σ=>σ=⟨[(1,.sl 1 (y.map Qs)),(2,.I g),(3,.I i),lk_ 4,lk_ 9,(10,.own 40 j.length),(11,.own 46 k.length),(12,.own 52 p.length),(13,.own 84 st.2.length),(15,.I J),(16,.I st.1)],[(4,.var (Qd w)),(9,.var (Qj u)),(40,.arr 1 (j.map Qe)),(46,.arr 1 (k.map Qu)),(52,.arr 1 (p.map Qu)),(84,.arr 4 (st.2.map Qw))]⟩) (Sum.elim (fun q e σ=>e=.ret/\σ=⟨[(8,.own 84 q.length)],[(84,.arr 4 (q.map Qw))]⟩) (fun q e σ=>e=.exit 4/\σ=⟨[(1,.sl 1 (y.map Qs)),(2,.I g),(3,.I i),lk_ 4,lk_ 9,(10,.own 40 j.length),(11,.own 46 k.length),(12,.own 52 p.length),(13,.own 84 q.length),(15,.I J)],[(4,.var (Qd w)),(9,.var (Qj u)),(40,.arr 1 (j.map Qe)),(46,.arr 1 (k.map Qu)),(52,.arr 1 (p.map Qu)),(84,.arr 4 (q.map Qw))]⟩)) b5 rfl ?_ ?_
     ·rintro ⟨b6,b7⟩ o σ rfl h
      refine tg_ t [9] ?_
      refine bq_ t h [.T,2] rfl (fun M h=>?_) [.F,2,.K [1,2,3,4,9,10,11,12,13,15] [4,9,40,46,52,84]] rfl fun M h=>?_
      ·refine AK.meet (fun σ=>∃Z:(List Qi),σ=⟨[(1,.sl 1 (y.map Qs)),(2,.I g),(3,.I i),lk_ 4,lk_ 9,(10,.own 40 j.length),(11,.own 46 k.length),(12,.own 52 p.length),(13,.own 84 Z.length),(15,.I J),(16,.I b6)],[(4,.var (Qd w)),(9,.var (Qj u)),(40,.arr 1 (j.map Qe)),(46,.arr 1 (k.map Qu)),(52,.arr 1 (p.map Qu)),(84,.arr 4 (Z.map Qw))]⟩/\Qip b6 Z=some o) ?_ ?_
       ·obtain⟨b8,h⟩:=QaV h
        obtain⟨z,a0,h⟩:=Qb h
        obtain⟨A,a1,h⟩:=Qb h
        refine tg_ t [2,.K [1,2,3,4,9,10,11,12,13,15,16] [4,9,40,46,52,84]] ?_
        refine AK.draw2 Qo t mixed [.a .no none true,.N,.N,.m (.any ⟨[67],[(67,.arr 1 ((([]:List Int)++j).map Qe))],some (69,.own 67 (([]:List Int)++j).length)⟩),.a .no none true,.a .no none true,.a .no none true,.a (.row (Qu z)) none true,.a .no none true,.a .no none true,.a .no none true,.a (.row (Qu A)) none true,.a .no (some ([],.agg [.I g,.own 67 (([]:List Int)++j).length,.sl 1 (z.map Qe),.sl 1 (A.map Qe)])) false,.a .no none true,.m .s] [1,2,3,4,9,10,11,12,13,15,16] [4,9,40,46,52,84] [1,2,3,4,9,10,11,12,13,15,16,17] [4,9,17,40,46,52,67,84] rfl rfl rfl ⟨⟨⟨⟨⟨⟨tt_,(fun σ h1 h2=>Stp.appO rfl rfl (QR t.n rfl) (h1 _ _ rfl) (h2 _ _ rfl) rfl (Qf (f:=Qe) (l:=([]:List Int))) (Qo.es rfl) (Qo.es rfl) (Qo.zv rfl) rfl (by decide) rfl b8 (h1 _ _ rfl) (h2 _ _ rfl) (Qf (f:=Qe) (l:=j)) (Qa2 (f:=Qe) (l:=([]:List Int)) (m:=j)) (by simp))⟩,(QdK a0 rfl)⟩,(Qcb (Qcq a0).2)⟩,(QdK a1 rfl)⟩,(Qcb (Qcq a1).2)⟩,rfl⟩ rfl (by kernel_rfl) rfl rfl rfl ?_
        obtain⟨c9,b9,h⟩:=Qb h
        refine Qa t [.O 17 (.var [.I g,.own 67 (([]:List Int)++j).length,.sl 1 (z.map Qe),.sl 1 (A.map Qe)]),3,.A (Qd w),2,.frz 67 ((([]:List Int)++j).map Qe) [81] [17],.cm (.fn) [] [] [] [.d,.d,.d] [] (.I c9),3] rfl (a4_ rfl rfl (a2_ ⟨(QeC Qf),tt_⟩ ⟨(QeC Qf),tt_⟩) (Qv7 _ _ _ b9)) ?_
        rcases Qm h with⟨P,h⟩|⟨P,h⟩
        ·obtain⟨c0,h⟩:=QaV h
         refine Qa t [.T,3,.A (Qw (Qi.mk g (([]:List Int)++j) z A)),.v (.bd []) [] (.sl 4 (([(Qi.mk g (([]:List Int)++j) z A)]:List Qi).map Qw)),.app ((b7++([(Qi.mk g (([]:List Int)++j) z A)]:List Qi)).map Qw) (b7++([(Qi.mk g (([]:List Int)++j) z A)]:List Qi)).length,11] rfl (a4_ P rfl rfl ⟨Qf,Qcw c0 Qf,Qa2,Qdc Qf⟩) ?_
         refine bq_ t h [.T,9,.K [8] [84]] rfl (fun U h=>?_) [.F,2,.K [1,2,3,4,9,10,11,12,13,15,16] [4,9,40,46,52,84]] rfl fun U h=>?_
         ·cases h
          exact Qah rfl (an_ rfl rfl)
         exact AK.met (ex_ _ (an_ rfl h))
        refine Qa t [.F,2,.K [1,2,3,4,9,10,11,12,13,15,16] [4,9,40,46,52,84]] rfl (a1_ P) ?_
        exact AK.met (ex_ _ (an_ rfl h))
       rintro σ ⟨Z,rfl,h⟩
       refine tg_ t [5,.K [1,2,3,4,9,10,11,12,13,15,16] [4,9,40,46,52,84]] ?_
       cases h
       exact QY rfl rfl
      cases h
      exact QZ rfl (an_ rfl rfl)
     rcases c8 with(d0 | d1)
     ·replace h:QpV d0=some o:=h
      rintro e σ ⟨rfl,rfl⟩
      refine tg_ t [3,.K [8] [84]] ?_
      cases h
      exact Qah rfl (an_ rfl rfl)
     replace h:QpW J d1=some o:=h
     rintro e σ ⟨rfl,rfl⟩
     refine tg_ t [8,.K [1,2,3,4,9,10,11,12,13,15] [4,9,40,46,52,84]] ?_
     cases h
     exact QY rfl rfl
    cases h
    exact QZ rfl (an_ rfl rfl)
   rcases c7 with(d2 | x)
   ·replace h:QpX d2=some o:=h
    rintro e σ ⟨rfl,rfl⟩
    refine tg_ t [3,.K [8] [84]] ?_
    cases h
    exact Qah rfl (an_ rfl rfl)
   replace h:Qhp u w j x=some o:=h
   rintro e σ ⟨rfl,rfl⟩
   refine tg_ t [12,.K [1,2,3,4,9,10,11,12,13,18] [4,9,40,46,52,84]] ?_
   obtain⟨d3,c1,h⟩:=Qb h
   refine AK.loop (body:=(fun st=>Qf8 u w st.1 st.2)) (fun st σ=>σ=⟨[(1,.sl 1 (y.map Qs)),(2,.I g),(3,.I i),lk_ 4,lk_ 9,(10,.own 40 st.2.length),(11,.own 46 k.length),(12,.own 52 p.length),(13,.own 84 x.length),(18,.I st.1)],[(4,.var (Qd w)),(9,.var (Qj u)),(40,.arr 1 (st.2.map Qe)),(46,.arr 1 (k.map Qu)),(52,.arr 1 (p.map Qu)),(84,.arr 4 (x.map Qw))]⟩) (fun q e σ=>e=.exit 6/\σ=⟨[(1,.sl 1 (y.map Qs)),(2,.I g),(3,.I i),lk_ 4,lk_ 9,(10,.own 40 q.2.length),(11,.own 46 k.length),(12,.own 52 p.length),(13,.own 84 x.length),(18,.I q.1)],[(4,.var (Qd w)),(9,.var (Qj u)),(40,.arr 1 (q.2.map Qe)),(46,.arr 1 (k.map Qu)),(52,.arr 1 (p.map Qu)),(84,.arr 4 (x.map Qw))]⟩) c1 rfl ?_ ?_
   ·rintro ⟨at_52,D⟩ o σ rfl h
    refine tg_ t [2] ?_
    obtain⟨a6,c2,h⟩:=Qb h
    replace h:Ql0 D at_52 a6=some o:=h
    refine AK.meetX (fun σ=>σ=⟨[(1,.sl 1 (y.map Qs)),(2,.I g),(3,.I i),lk_ 4,lk_ 9,(10,.own 40 D.length),(11,.own 46 k.length),(12,.own 52 p.length),(13,.own 84 x.length),(18,.I at_52),(114,.b a6)],[(4,.var (Qd w)),(9,.var (Qj u)),(40,.arr 1 (D.map Qe)),(46,.arr 1 (k.map Qu)),(52,.arr 1 (p.map Qu)),(84,.arr 4 (x.map Qw))]⟩) ?_ ?_
    ·replace h:=c2
     refine tg_ t [.K [1,2,3,4,9,10,11,12,13,18] [4,9,40,46,52,84]] ?_
     rcases Qm h with⟨W,h⟩|⟨W,h⟩
     ·obtain⟨d4,a2,h⟩:=Qb h
      obtain⟨d5,c3,h⟩:=Qb h
      obtain⟨d6,c4,h⟩:=Qb h
      refine AK.draw2 Qo t mixed [.N,.N,.a .no (some ([],.b true)) false,.N,.N,.N,.a (.row (Qe d4)) none false,.N,.N,.N,.N,.N,.N,.a (.row (QO d5)) none false,.N,.N,.a (.C2 (.I d6)) none false,.N,.N] [] [] [1,2,3,4,9,10,11,12,13,18,114] [4,9,40,46,52,84] rfl rfl rfl ⟨⟨⟨⟨(tc_ W),(QdK a2 rfl)⟩,(Qcb (Qcq a2).2)⟩,(QJ c3)⟩,(QmI _ _ c4)⟩ rfl (by kernel_rfl) rfl rfl rfl ?_
      refine tg_ t [.K [1,2,3,4,9,10,11,12,13,18,114] [4,9,40,46,52,84]] ?_
      cases h
      exact mt_
     refine AK.draw2 Qo t mixed [.N,.N,.a .no (some ([],.b false)) false,.N,.N,.N,.N,.N,.N,.N,.N,.N,.N,.N,.N,.N,.N,.N,.N] [] [] [1,2,3,4,9,10,11,12,13,18,114] [4,9,40,46,52,84] rfl rfl rfl (tc_ W) rfl (by kernel_rfl) rfl rfl rfl ?_
     refine tg_ t [.K [1,2,3,4,9,10,11,12,13,18,114] [4,9,40,46,52,84]] ?_
     cases h
     exact mt_
    rintro σ rfl
    replace h:Ql0 D at_52 a6=some o:=h
    refine tg_ t [1] ?_
    rcases Qm h with⟨X,h⟩|⟨X,h⟩
    ·obtain⟨d7,a3,h⟩:=Qb h
     refine Qa t [.T,8,.st (Qe d7) ((D.set at_52.toNat 0).map Qe),8,.S 10 (.own 40 (D.set at_52.toNat 0).length),.K [1,2,3,4,9,10,11,12,13,18] [4,9,40,46,52,84]] rfl (a4_ X (QdK a3 rfl) ⟨(Qcb (Qcq a3).2),Qnz rfl⟩ (congrArg (fun n=>V.own 40 n) (by simp))) ?_
     cases h
     exact QY rfl rfl
    refine Qa t [.F,2,.K [1,2,3,4,9,10,11,12,13,18] [4,9,40,46,52,84]] rfl (a1_ X) ?_
    cases h
    exact QZ rfl (an_ rfl rfl)
   obtain⟨at_56,a7⟩:=d3
   replace h:Qho x at_56 a7=some o:=h
   rintro e σ ⟨rfl,rfl⟩
   refine tg_ t [14] ?_
   rcases Qm h with⟨Y,h⟩|⟨Y,h⟩
   ·obtain⟨a8,a4,h⟩:=Qb h
    obtain⟨d8,a5,h⟩:=Qb h
    refine Qa t [.T,4,.o (.row (Qe a8)),2,.st (Qe d8) ((a7.set at_56.toNat (w64 (a8+1))).map Qe),2,.S 10 (.own 40 (a7.set at_56.toNat (w64 (a8+1))).length),.K [1,2,3,4,9,10,11,12,13,14] [4,9,40,46,52,84]] rfl (a6_ Y (QdK a4 rfl) (Qcb (Qcq a4).2) (QdK a5 rfl) ⟨(Qcb (Qcq a5).2),Qnz rfl⟩ (congrArg (fun n=>V.own 40 n) (by simp))) ?_
    cases h
    exact QY rfl rfl
   refine Qa t [.F,2,.K [1,2,3,4,9,10,11,12,13,14] [4,9,40,46,52,84]] rfl (a1_ Y) ?_
   cases h
   exact QY rfl rfl
  cases h
  exact QZ rfl (an_ rfl rfl)
 rcases c6 with(d9 | e0)
 ·replace h:QoB d9=some r:=h
  rintro e σ ⟨rfl,rfl⟩
  refine tg_ t [2,.K [8] [84],.ren 84 600] ?_
  cases h
  exact d1_ r1_
 replace h:QoC e0=some r:=h
 rintro e σ ⟨rfl,rfl⟩
 refine tg_ t [9,.K [8] [84],.ren 84 600] ?_
 cases h
 exact d1_ r1_
def QqZ (a:Qi)(b:Qi):Option Bool:=
 bif (a.Task==b.Task)then
 (QhH a.Vars b.Vars).bind fun d=>
 bif d then
 (QhH a.Ins b.Ins).bind fun e=>
 bif e then
 (QhH a.Outs b.Outs).bind fun c=>
 some c
 else
 some false
 else
 some false
 else
 some false
def QjF (a:Bool):Option Bool:=
 some a
def Qp0 (a:Qi)(b:Qi):Option Bool:=
 (QqZ a b).bind (fun c=>QjF c)
theorem QwY (q s){r}(h:Qp0 q s=some r):Qc prog 35 [.agg (Qw q),.agg (Qw s)] [] (Gives (.b r) []):=by
 refine wk_ 31 func35 fun C e=>?_
 refine tg_ e [8] ?_
 obtain⟨j,k,h⟩:=Qb h
 replace h:QjF j=some r:=h
 refine AK.meetX (fun σ=>σ=⟨[(4,.b j)],[]⟩) ?_ ?_
 ·replace h:=k
  refine tg_ e [7] ?_
  rcases Qm h with⟨f,h⟩|⟨f,h⟩
  ·obtain⟨t,l,h⟩:=Qb h
   refine Qa e [.S 10 (.b true),4,.o (.C2 (.b t)),2] rfl ⟨(tc_ f),(QjB _ _ l)⟩ ?_
   rcases Qm h with⟨g,h⟩|⟨g,h⟩
   ·obtain⟨u,m,h⟩:=Qb h
    refine Qa e [.S 17 (.b true),4,.o (.C2 (.b u)),2] rfl ⟨(tc_ g),(QjB _ _ m)⟩ ?_
    rcases Qm h with⟨a,h⟩|⟨a,h⟩
    ·obtain⟨p,i,h⟩:=Qb h
     refine Qa e [.S 24 (.b true),4,.o (.C2 (.b p)),3,.K [4] []] rfl ⟨(tc_ a),(QjB _ _ i)⟩ ?_
     cases h
     exact mt_
    refine Qa e [.S 24 (.b false),8,.K [4] []] rfl (tc_ a) ?_
    cases h
    exact mt_
   refine Qa e [.S 17 (.b false),15,.K [4] []] rfl (tc_ g) ?_
   cases h
   exact mt_
  refine Qa e [.S 10 (.b false),22,.K [4] []] rfl (tc_ f) ?_
  cases h
  exact mt_
 rintro σ rfl
 replace h:QjF j=some r:=h
 refine tg_ e [2] ?_
 cases h
 exact d1_ tt_
def QdA (d:(List Qi))(e:(List Qi))(a:Int):Option (Int⊕(Unit⊕Unit)):=
 bif (decide (a<(d.length:Int)))then
 (idx d a).bind fun f=>
 (idx e a).bind fun b=>
 (Qp0 f b).bind fun c=>
 bif (!c)then
 some (.inr (.inl ()))
 else
 some (.inl (w64 (a+1)))
 else
 some (.inr (.inr ()))
def Qp1 : Option Bool:=
 some false
def Qp2 : Option Bool:=
 some true
def Qek (a:(List Qi))(b:(List Qi)):Option Bool:=
 bif ((a.length:Int) != (b.length:Int))then
 some false
 else
 (Qz (fun st=>QdA a b st) 0).bind (Sum.elim (fun q=>Qp1) (fun q=>Qp2))
theorem Ql1 (k l){r}(h:Qek k l=some r):Qc prog 11 [.sl 4 (k.map Qw),.sl 4 (l.map Qw)] [] (Gives (.b r) []):=by
 refine wk_ 29 func11 fun C f=>?_
 refine Qa f [9,.o (.ln k.length),1,.o (.ln l.length),3] rfl (a2_ Qf Qf) ?_
 refine bq_ f h [.T,7,.K [4] []] rfl (fun i h=>?_) [.F,9,.K [0,1,5] []] rfl fun i h=>?_
 ·cases h
  exact d1_ tt_
 obtain⟨u,m,h⟩:=Qb h
 refine AK.loop (body:=(fun st=>QdA k l st)) (fun st σ=>σ=⟨[(0,.sl 4 (k.map Qw)),(1,.sl 4 (l.map Qw)),(5,.I st)],[]⟩) (Sum.elim (fun q e σ=>e=.ret/\σ=⟨[(4,.b false)],[]⟩) (fun q e σ=>e=.exit 0/\σ=⟨[],[]⟩)) m rfl ?_ ?_
 ·rintro y o σ rfl h
  refine Qa f [5,.o (.ln k.length),3] rfl (a1_ Qf) ?_
  rcases Qm h with⟨j,h⟩|⟨j,h⟩
  ·obtain⟨x,v,h⟩:=Qb h
   obtain⟨p,s,h⟩:=Qb h
   obtain⟨w,t,h⟩:=Qb h
   refine Qa f [.T,5,.K [0,1,5] []] rfl (a1_ j) ?_
   refine AK.draw2 Qo f mixed [.N,.N,.a (.row (Qw x)) none false,.a .no (some ([],.agg (Qw x))) false,.N,.N,.a (.row (Qw p)) none false,.a .no (some ([],.agg (Qw p))) false,.a (.C2 (.b w)) none false,.N] [] [] [0,1,5,6] [] rfl rfl rfl ⟨⟨⟨⟨⟨tt_,(QJ v)⟩,rfl⟩,(QJ s)⟩,rfl⟩,(QwY _ _ t)⟩ rfl (by kernel_rfl) rfl rfl rfl ?_
   refine tg_ f [7] ?_
   refine bq_ f h [.T,8,.K [4] []] rfl (fun g h=>?_) [.F,8,.K [0,1,5] []] rfl fun g h=>?_
   ·cases h
    exact Qah rfl (an_ rfl rfl)
   cases h
   exact QY rfl rfl
  refine Qa f [.F,2,.K [] []] rfl (a1_ j) ?_
  cases h
  exact QZ rfl (an_ rfl rfl)
 rcases u with(_ | _)
 ·replace h:Qp1=some r:=h
  rintro e σ ⟨rfl,rfl⟩
  refine tg_ f [2] ?_
  cases h
  exact d1_ tt_
 replace h:Qp2=some r:=h
 rintro e σ ⟨rfl,rfl⟩
 refine tg_ f [8] ?_
 cases h
 exact d1_ tt_
def QhK (e:Qn)(f:QMk)(a:Int)(d:Int)(c:(List Qi)):Option ((Int×(List Qi))⊕(List Qi)):=
 bif (decide (d<(e.Tasks.length:Int)))then
 (Qej e f d (w64 (a-(c.length:Int)))).bind fun b=>
 (chk (decide (c.length+b.length<=4294967296))).bind fun _=>
 some (.inl ((w64 (d+1)),(c++b)))
 else
 some (.inr c)
def QrS (a:(List Qi)):Option (List Qi):=
 some a
def Qli (b:Qn)(c:QMk)(a:Int):Option (List Qi):=
 (Qz (fun st=>QhK b c a st.1 st.2) (0,([]:List Qi))).bind (fun q=>QrS q)
theorem QrT (f l a){r}(h:Qli f l a=some r):Qc prog 13 [.agg (Qd f),.sl 1 (l.map Qs),.I a] [] (Gives (.own 600 r.length) [(600,.arr 4 (r.map Qw))]):=by
 refine wk_ 27 func13 fun C g=>?_
 refine Qa g [18,.adopt 7 16 4,.O 16 (.arr 4 (([]:List Qi).map Qw)),.S 7 (.own 16 ([]:List Qi).length),.K [1,2,3,7,8] [3,16]] rfl (a2_ rfl (congrArg (fun n=>V.own 16 n) (by simp))) ?_
 obtain⟨m,i,h⟩:=Qb h
 refine AK.loop (body:=(fun st=>QhK f l a st.1 st.2)) (fun st σ=>σ=⟨[(1,.sl 1 (l.map Qs)),(2,.I a),lk_ 3,(7,.own 16 st.2.length),(8,.I st.1)],[(3,.var (Qd f)),(16,.arr 4 (st.2.map Qw))]⟩) (fun q e σ=>e=.exit 0/\σ=⟨[(7,.own 16 q.length)],[(16,.arr 4 (q.map Qw))]⟩) i rfl ?_ ?_
 ·rintro ⟨s,p⟩ o σ rfl h
  refine Qa g [6,.o (.ln f.Tasks.length),3] rfl (a1_ Qf) ?_
  rcases Qm h with⟨b,h⟩|⟨b,h⟩
  ·obtain⟨c,j,h⟩:=Qb h
   obtain⟨k,h⟩:=QaV h
   refine Qa g [.T,6,.A (Qd f),6,.o (.co false [.d,.d,.d,.d] 4 (c.map Qw) c.length),.app ((p++c).map Qw) (p++c).length,9,.K [1,2,3,7,8] [3,16]] rfl (a4_ b rfl ⟨(QpZ _ _ _ _ j),Qf,.inl rfl⟩ ⟨Qf,k,Qf,Qa2,by simp⟩) ?_
   cases h
   exact QY rfl rfl
  refine Qa g [.F,2,.K [7] [16]] rfl (a1_ b) ?_
  cases h
  exact QZ rfl (an_ rfl rfl)
 replace h:QrS m=some r:=h
 rintro e σ ⟨rfl,rfl⟩
 refine tg_ g [9,.K [6] [16],.ren 16 600] ?_
 cases h
 exact d1_ r1_
def Qiq (i:Qn)(j:QMk)(b:Int)(a:Int)(c:(List Qi))(d:(List Qi)):Option Bool:=
 (Qej i j b a).bind fun e=>
 (Qek c e).bind fun f=>
 bif (!f)then
 some true
 else
 (Qli i j a).bind fun g=>
 (Qek d g).bind fun h=>
 some (!h)
def Qd5 (b:(List Qi))(c:Int)(a:Int):Option (Int⊕Unit):=
 (idx b c).bind fun d=>
 bif (decide (a<(d.Vars.length:Int)))then
 (idx b c).bind fun e=>
 (idx e.Vars a).bind fun f=>
 some (.inl (w64 (a+1)))
 else
 some (.inr ())
def Qd6 (b:(List Qi))(c:Int)(a:Int):Option (Int⊕Unit):=
 (idx b c).bind fun d=>
 bif (decide (a<(d.Ins.length:Int)))then
 (idx b c).bind fun e=>
 (idx e.Ins a).bind fun f=>
 some (.inl (w64 (a+1)))
 else
 some (.inr ())
def QfD (a:Int):Option (Int⊕Unit):=
 some (.inl (w64 (a+1)))
def QfE (b:(List Qi))(a:Int):Option (Int⊕Unit):=
 (Qz (fun st=>Qd6 b a st) 0).bind (fun q=>QfD a)
def Qd7 (a:(List Qi))(b:Int):Option (Int⊕Unit):=
 bif (decide (b<(a.length:Int)))then
 (Qz (fun st=>Qd5 a b st) 0).bind (fun q=>QfE a b)
 else
 some (.inr ())
def QmL (g:Bool)(e:Qn)(f:QMk)(a:Int):Option Bool:=
 bif g then
 (QfA e f a).bind fun b=>
 (Qli e f a).bind fun c=>
 (Qek b c).bind fun d=>
 some d
 else
 some false
def QfF (a:Bool):Option Bool:=
 some a
def Qir (c:Bool)(d:Qn)(e:QMk)(a:Int):Option Bool:=
 (QmL c d e a).bind (fun b=>QfF b)
def Qfd (b:(List Qi))(d:Bool)(e:Qn)(f:QMk)(a:Int)(c:Bool):Option Bool:=
 bif c then
 some false
 else
 (Qz (fun st=>Qd7 b st) 0).bind (fun q=>Qir d e f a)
def Qfr (c:Qn)(d:QMk)(b:Int)(a:Int):Option Bool:=
 (QnX).bind fun h=>
 (QhE c d).bind fun i=>
 bif (!i)then
 some h
 else
 (QbT c d b a).bind fun f=>
 (QfA c d a).bind fun e=>
 (Qiq c d b a f e).bind (fun g=>Qfd e h c d a g)
theorem QsP (m w z f){r}(h:Qfr m w z f=some r):Qc prog 3 [.agg (Qd m),.sl 1 (w.map Qs),.I z,.I f] [] (Gives (.b r) []):=by
 refine wk_ 101 func3 fun C k=>?_
 obtain⟨A,d4,h⟩:=Qb h
 obtain⟨x8,d5,h⟩:=Qb h
 refine Qa k [8,.o (.c false [] (.b A)),5,.A (Qd m),1,.o (.C2 (.b x8)),10] rfl (a3_ (QvM  d4) rfl (QwU _ _ d5)) ?_
 rcases Qm h with⟨a1,h⟩|⟨a1,h⟩
 ·refine Qa k [.T,8] rfl (a1_ a1) ?_
  cases h
  exact d1_ tt_
 obtain⟨d6,b4,h⟩:=Qb h
 obtain⟨j,b5,h⟩:=Qb h
 refine Qa k [.F,4,.A (Qd m),3,.o (.C4 (.sl 4 (d6.map Qw))),5,.A (Qd m),2] rfl (a4_ a1 rfl (QqA _ _ _ _ b4) rfl) ?_
 refine AK.opE rfl (QAu.thaw (g:=false) (rN:=fun β=>.sln β 4 (j.map (QA β))) (Qbb.fn rfl (Qo.en rfl) rfl) rfl (QR k.n rfl) k.g (.cons (.dat _ rfl) (.cons (.dat _ rfl) (.cons (.dat _ rfl) .nil))) (fun β=>(Qry β _ _ _ b5).toData Qf) (fun β=>QoO.map1 (g:=Qw) (QAx β) (fun _=>rfl)) rfl) fun y=>?_
 refine tg_ k [5] ?_
 obtain⟨a4,b6,h⟩:=Qb h
 replace h:Qfd j A m w f a4=some r:=h
 refine AK.meetX (fun σ=>σ=⟨[(1,.sl 1 (w.map Qs)),(3,.I f),lk_ 4,(9,.b A),(12,.lit y),(48,.b a4)],[(4,.var (Qd m)),(31,.nst y (.sl 4 (j.map Qw)))]⟩) ?_ ?_
 ·replace h:=b6
  obtain⟨a5,b7,h⟩:=Qb h
  obtain⟨d7,b8,h⟩:=Qb h
  refine Qa k [2,.A (Qd m),3,.o (.co false [.d,.d,.d,.d] 4 (a5.map Qw) a5.length),.o (.c true [.d,.o (a5.map Qw)] (.b d7)),2] rfl (a3_ rfl ⟨(QpZ _ _ _ _ b7),Qf,.inl rfl⟩ ⟨(QoY rfl),(Ql1 _ _ b8)⟩) ?_
  rcases Qm h with⟨B,h⟩|⟨B,h⟩
  ·refine Qa k [.S 40 (.b true),9,.K [1,3,4,9,12,48] [4,31]] rfl (tc_ B) ?_
   cases h
   exact mt_
  obtain⟨a6,b9,h⟩:=Qb h
  obtain⟨d8,c0,h⟩:=Qb h
  refine Qa k [.S 40 (.b false),1,.A (Qd m),2,.o (.co false [.d,.d,.d] 4 (a6.map Qw) a6.length),.o (.c true [.t 31,.o (a6.map Qw)] (.b d8)),3,.K [1,3,4,9,12,48] [4,31]] rfl ⟨⟨⟨(tc_ B),rfl⟩,⟨(QrT _ _ _ b9),Qf,.inl rfl⟩⟩,⟨rfl,(QoY rfl),(Ql1 _ _ c0)⟩⟩ ?_
  cases h
  exact mt_
 rintro σ rfl
 replace h:Qfd j A m w f a4=some r:=h
 refine tg_ k [1] ?_
 refine bq_ k h [.T,7,.K [8] []] rfl (fun E h=>?_) [.F,9,.K [1,3,4,9,12,13] [4,31]] rfl fun E h=>?_
 ·cases h
  exact d1_ tt_
 obtain⟨d9,c1,h⟩:=Qb h
 refine AK.scribG (d:=31) (rs:=j.map Qw) [(1,1,j.map fun e=>e.Vars.length),(2,1,j.map fun e=>e.Ins.length)] rfl (fun p hp=>by
  simp only [QaK,List.not_mem_nil,or_false]at hp
  rcases hp with rfl | rfl<;>simp) (fun p hp i r hr=>by
  obtain⟨e,he,rfl⟩:=Qas.1 (Qak▸hr)
  simp only [QaK,List.not_mem_nil,or_false]at hp
  rcases hp with rfl | rfl
  ·exact⟨e.Vars.map Qe,rfl,by rw [Qak,he];simp,Nat.one_pos,fun u hu=>by obtain⟨n,_,rfl⟩:=QaE.1 hu;exact⟨n,rfl⟩⟩
  exact⟨e.Ins.map Qe,rfl,by rw [Qak,he];simp,Nat.one_pos,fun u hu=>by obtain⟨n,_,rfl⟩:=QaE.1 hu;exact⟨n,rfl⟩⟩) fun D H hS=>?_
 obtain⟨a,c,rfl,hSV⟩:=hS (1,1,j.map fun e=>e.Vars.length) (by simp)
 obtain⟨a2,c2,e2,hSI⟩:=hS (2,1,j.map fun e=>e.Ins.length) (by simp)
 obtain⟨rfl,_,rfl⟩:=Value.slice.inj e2
 have hV2:∀{i:Int} {e:Qi},idx j i=some e->(0<=i/\i<((j.map fun e=>e.Vars.length).length:Int))/\∃b off y,a=some ⟨b,off,none⟩/\H b (off+i.toNat*4+1) y/\QCh 1 D y e.Vars.length:=fun {i e} he=>by
  obtain⟨h0,h1⟩:=Qcq he
  obtain⟨b,off,y,e1,e2,e3⟩:=hSV i.toNat e.Vars.length (by rw [Qak,h1];rfl)
  have:=(QT.1 h1).1
  exact⟨⟨h0,by rw [Qlm];omega⟩,b,off,y,e1,by rw [Qmd];exact e2,e3⟩
 have hI2:∀{i:Int} {e:Qi},idx j i=some e->(0<=i/\i<((j.map fun e=>e.Vars.length).length:Int))/\∃b off y,a=some ⟨b,off,none⟩/\H b (off+i.toNat*4+2) y/\QCh 1 D y e.Ins.length:=fun {i e} he=>by
  obtain⟨h0,h1⟩:=Qcq he
  obtain⟨b,off,y,e1,e2,e3⟩:=hSI i.toNat e.Ins.length (by rw [Qak,h1];rfl)
  have:=(QT.1 h1).1
  exact⟨⟨h0,by rw [Qlm];omega⟩,b,off,y,e1,by rw [Qmd];exact e2,e3⟩
 refine tg_ k [.K [1,3,4,9,12,13] [4,31]] ?_
 refine AK.loop (body:=(fun st=>Qd7 j st)) (fun st σ=>σ=⟨[(1,.sl 1 (w.map Qs)),(3,.I f),lk_ 4,(9,.b A),(12,.lit (.slice a (j.map fun e=>e.Vars.length).length c)),(13,.I st)],[(4,.var (Qd m)),(31,.scr D H)]⟩) (fun q e σ=>e=.exit 0/\σ=⟨[(1,.sl 1 (w.map Qs)),(3,.I f),lk_ 4,(9,.b A)],[(4,.var (Qd m))]⟩) c1 rfl ?_ ?_
 ·rintro l o σ rfl h
  refine Qa k [5,.x (fun σ=>σ.put 51 (.I (j.map fun e=>e.Vars.length).length)),.S 51 (.I j.length),3] rfl (a2_ (Stp.lenLit rfl rfl (QR k.n rfl) rfl (Qo.es rfl)) (congrArg (fun n:Nat=>V.I n) (by simp))) ?_
  refine bq_ k h [.T,11,.K [1,3,4,9,12,13,14] [4,31]] rfl (fun G h=>?_) [.F,2,.K [1,3,4,9] [4]] rfl fun G h=>?_
  ·obtain⟨e0,c4,h⟩:=Qb h
   refine AK.loop (body:=(fun st=>Qd5 j l st)) (fun st σ=>σ=⟨[(1,.sl 1 (w.map Qs)),(3,.I f),lk_ 4,(9,.b A),(12,.lit (.slice a (j.map fun e=>e.Vars.length).length c)),(13,.I l),(14,.I st)],[(4,.var (Qd m)),(31,.scr D H)]⟩) (fun q e σ=>e=.exit 2/\σ=⟨[(1,.sl 1 (w.map Qs)),(3,.I f),lk_ 4,(9,.b A),(12,.lit (.slice a (j.map fun e=>e.Vars.length).length c)),(13,.I l)],[(4,.var (Qd m)),(31,.scr D H)]⟩) c4 rfl ?_ ?_
   ·rintro c5 o σ rfl h
    obtain⟨a7,U,h⟩:=Qb h
    obtain⟨⟨J,L⟩,b,off,y,rfl,hH,a3,c3,rfl,hD⟩:=hV2 U
    refine Qa k [6,.x (fun σ=>σ.put 58 (.lit (.pointer (some ⟨b,off+l.toNat*4,none⟩)))),.x (fun σ=>σ.put 59 (.lit (.pointer (some ⟨b,off+l.toNat*4+1,none⟩)))),.x (fun σ=>σ.put 60 (.lit (.slice a3 a7.Vars.length c3))),.x (fun σ=>σ.put 61 (.I a7.Vars.length)),3] rfl (a4_ (Stp.idxLit rfl rfl (QR k.n rfl) rfl rfl (Qo.es rfl) J L) (Stp.fieldLit rfl rfl (QR k.n rfl) rfl (Qo.fo rfl rfl)) (Stp.loadScr (p:=31) rfl rfl (QR k.n rfl) rfl (Qo.ag rfl) rfl hH) (Stp.lenLit rfl rfl (QR k.n rfl) rfl (Qo.es rfl))) ?_
    rcases Qm h with⟨M,h⟩|⟨M,h⟩
    ·obtain⟨e6,W,h⟩:=Qb h
     obtain⟨e7,X,h⟩:=Qb h
     rw [U]at W
     rw [<-Option.some.inj W]at X
     obtain⟨a8,a9⟩:=Qcq X
     have b0:=(QT.1 a9).1
     obtain⟨b2,s,rfl,hD2⟩:=hD c5.toNat b0
     refine Qa k [.T,7,.x (fun σ=>σ.put 67 (.lit (.pointer (some ⟨b,off+l.toNat*4,none⟩)))),.x (fun σ=>σ.put 68 (.lit (.pointer (some ⟨b,off+l.toNat*4+1,none⟩)))),.x (fun σ=>σ.put 69 (.lit (.slice (some ⟨b2,s,none⟩) a7.Vars.length c3))),1,.x (fun σ=>σ.put 71 (.lit (.pointer (some ⟨b2,s+c5.toNat*1,none⟩)))),.x (fun σ=>σ.set 31 (.scr D H)),8,.K [1,3,4,9,12,13,14] [4,31]] rfl (a6_ M (Stp.idxLit rfl rfl (QR k.n rfl) rfl rfl (Qo.es rfl) J L) (Stp.fieldLit rfl rfl (QR k.n rfl) rfl (Qo.fo rfl rfl)) (Stp.loadScr (p:=31) rfl rfl (QR k.n rfl) rfl (Qo.ag rfl) rfl hH) (Stp.idxLit rfl rfl (QR k.n rfl) rfl rfl (Qo.es rfl) a8 (by omega)) (Stp.storeScr (p:=31) rfl rfl rfl rfl (Qo.sz rfl) rfl hD2)) ?_
     cases h
     exact QY rfl rfl
    refine Qa k [.F,2,.K [1,3,4,9,12,13] [4,31]] rfl (a1_ M) ?_
    cases h
    exact QZ rfl (an_ rfl rfl)
   obtain _:=e0
   replace h:QfE j l=some o:=h
   rintro e σ ⟨rfl,rfl⟩
   refine tg_ k [8,.K [1,3,4,9,12,13,15] [4,31]] ?_
   obtain⟨e4,c6,h⟩:=Qb h
   refine AK.loop (body:=(fun st=>Qd6 j l st)) (fun st σ=>σ=⟨[(1,.sl 1 (w.map Qs)),(3,.I f),lk_ 4,(9,.b A),(12,.lit (.slice a (j.map fun e=>e.Vars.length).length c)),(13,.I l),(15,.I st)],[(4,.var (Qd m)),(31,.scr D H)]⟩) (fun q e σ=>e=.exit 4/\σ=⟨[(1,.sl 1 (w.map Qs)),(3,.I f),lk_ 4,(9,.b A),(12,.lit (.slice a (j.map fun e=>e.Vars.length).length c)),(13,.I l)],[(4,.var (Qd m)),(31,.scr D H)]⟩) c6 rfl ?_ ?_
   ·rintro c7 o σ rfl h
    obtain⟨b1,Y,h⟩:=Qb h
    obtain⟨⟨J,L⟩,b,off,y,rfl,hH,a3,c3,rfl,hD⟩:=hI2 Y
    refine Qa k [6,.x (fun σ=>σ.put 75 (.lit (.pointer (some ⟨b,off+l.toNat*4,none⟩)))),.x (fun σ=>σ.put 76 (.lit (.pointer (some ⟨b,off+l.toNat*4+2,none⟩)))),.x (fun σ=>σ.put 77 (.lit (.slice a3 b1.Ins.length c3))),.x (fun σ=>σ.put 78 (.I b1.Ins.length)),3] rfl (a4_ (Stp.idxLit rfl rfl (QR k.n rfl) rfl rfl (Qo.es rfl) J L) (Stp.fieldLit rfl rfl (QR k.n rfl) rfl (Qo.fo rfl rfl)) (Stp.loadScr (p:=31) rfl rfl (QR k.n rfl) rfl (Qo.ag rfl) rfl hH) (Stp.lenLit rfl rfl (QR k.n rfl) rfl (Qo.es rfl))) ?_
    rcases Qm h with⟨O,h⟩|⟨O,h⟩
    ·obtain⟨e8,Z,h⟩:=Qb h
     obtain⟨e9,a0,h⟩:=Qb h
     rw [Y]at Z
     rw [<-Option.some.inj Z]at a0
     obtain⟨a8,a9⟩:=Qcq a0
     have b0:=(QT.1 a9).1
     obtain⟨b2,s,rfl,hD2⟩:=hD c7.toNat b0
     refine Qa k [.T,7,.x (fun σ=>σ.put 84 (.lit (.pointer (some ⟨b,off+l.toNat*4,none⟩)))),.x (fun σ=>σ.put 85 (.lit (.pointer (some ⟨b,off+l.toNat*4+2,none⟩)))),.x (fun σ=>σ.put 86 (.lit (.slice (some ⟨b2,s,none⟩) b1.Ins.length c3))),1,.x (fun σ=>σ.put 88 (.lit (.pointer (some ⟨b2,s+c7.toNat*1,none⟩)))),.x (fun σ=>σ.set 31 (.scr D H)),8,.K [1,3,4,9,12,13,15] [4,31]] rfl (a6_ O (Stp.idxLit rfl rfl (QR k.n rfl) rfl rfl (Qo.es rfl) J L) (Stp.fieldLit rfl rfl (QR k.n rfl) rfl (Qo.fo rfl rfl)) (Stp.loadScr (p:=31) rfl rfl (QR k.n rfl) rfl (Qo.ag rfl) rfl hH) (Stp.idxLit rfl rfl (QR k.n rfl) rfl rfl (Qo.es rfl) a8 (by omega)) (Stp.storeScr (p:=31) rfl rfl rfl rfl (Qo.sz rfl) rfl hD2)) ?_
     cases h
     exact QY rfl rfl
    refine Qa k [.F,2,.K [1,3,4,9,12,13] [4,31]] rfl (a1_ O) ?_
    cases h
    exact QZ rfl (an_ rfl rfl)
   obtain _:=e4
   replace h:QfD l=some o:=h
   rintro e σ ⟨rfl,rfl⟩
   refine tg_ k [8,.K [1,3,4,9,12,13] [4,31]] ?_
   cases h
   exact QY rfl rfl
  cases h
  exact QZ rfl (an_ rfl rfl)
 obtain _:=d9
 replace h:Qir A m w f=some r:=h
 rintro e σ ⟨rfl,rfl⟩
 refine tg_ k [3] ?_
 obtain⟨b3,c8,h⟩:=Qb h
 replace h:QfF b3=some r:=h
 refine AK.meetX (fun σ=>σ=⟨[(8,.b b3)],[]⟩) ?_ ?_
 ·replace h:=c8
  refine tg_ k [.K [1,3,4,9] [4]] ?_
  rcases Qm h with⟨P,h⟩|⟨P,h⟩
  ·obtain⟨c9,d0,h⟩:=Qb h
   obtain⟨d1,d2,h⟩:=Qb h
   obtain⟨e5,d3,h⟩:=Qb h
   refine AK.draw2 Qo k mixed [.N,.a .no (some ([],.b true)) false,.a .no (some ([],.agg (Qd m))) false,.N,.N,.a (.cd false [.d,.d,.d] 4 (c9.map Qw) c9.length) none false,.a .no (some ([],.agg (Qd m))) false,.N,.N,.a (.cd false [.d,.d,.d] 4 (d1.map Qw) d1.length) none false,.a (.C2 (.b e5)) none false,.N,.N] [] [] [8] [] rfl rfl rfl ⟨⟨⟨⟨⟨(tc_ P),rfl⟩,⟨(Qtc _ _ _ d0),Qf⟩⟩,rfl⟩,⟨(QrT _ _ _ d2),Qf⟩⟩,(Ql1 _ _ d3)⟩ rfl (by kernel_rfl) rfl rfl rfl ?_
   refine tg_ k [.K [8] []] ?_
   cases h
   exact mt_
  refine AK.draw2 Qo k mixed [.N,.a .no (some ([],.b false)) false,.N,.N,.N,.N,.N,.N,.N,.N,.N,.N,.N] [] [] [8] [] rfl rfl rfl (tc_ P) rfl (by kernel_rfl) rfl rfl rfl ?_
  refine tg_ k [.K [8] []] ?_
  cases h
  exact mt_
 rintro σ rfl
 replace h:QfF b3=some r:=h
 refine tg_ k [2] ?_
 cases h
 exact d1_ tt_

end Go.Proofs
