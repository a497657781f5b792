/- What functions of the program do, as functions over plain data, and the walks that show it: printed by a program. -/
import Derived.Test.YtpijolohkdchcaaGreatDoorR1T1
set_option linter.unusedVariables false
set_option linter.unusedSimpArgs false
set_option linter.unusedSectionVars false
set_option linter.deprecated false
set_option maxRecDepth 100000
set_option maxHeartbeats 4000000
noncomputable section
namespace Go.Proofs
open Go Go.RowKit Go.Vm Go.Proofs.Tryz
def Qei (c:QBg)(e:QBg)(b:Int):Option (Int⊕(Unit⊕Unit)):=
 bif (decide (b<(c.length:Int)))then
 (idx c b).bind fun d=>
 (idx e b).bind fun a=>
 bif (!((d.1==a.1)&&(d.2==a.2)))then
 some (.inr (.inl ()))
 else
 some (.inl (w64 (b+1)))
 else
 some (.inr (.inr ()))
def QrG : Option Bool:=
 some false
def QrH : Option Bool:=
 some true
def Qns (a:QBg)(b:QBg):Option Bool:=
 bif ((a.length:Int) != (b.length:Int))then
 some false
 else
 (Qw (fun st=>Qei a b st) 0).bind (Sum.elim (fun q=>QrG) (fun q=>QrH))
theorem Qyf (j k){r}(h:Qns j k=some r):Qc prog 43 [.sl 2 (j.map Qo),.sl 2 (k.map Qo)] [] (Gives (.b r) []):=by
 refine wk_ 26 func43 fun C c=>?_
 refine Qa c [9,.o (.ln j.length),1,.o (.ln k.length),3] rfl (a2_ Qf Qf) ?_
 refine bq_ c h [.T,7,.K [4] []] rfl (fun g h=>?_) [.F,9,.K [0,1,5] []] rfl fun g h=>?_
 ·cases h
  exact d1_ tt_
 obtain⟨s,l,h⟩:=Qb h
 refine AK.loop (body:=(fun st=>Qei j k st)) (fun st σ=>σ=⟨[(0,.sl 2 (j.map Qo)),(1,.sl 2 (k.map Qo)),(5,.I st)],[]⟩) (Sum.elim (fun q e σ=>e=.ret/\σ=⟨[(4,.b false)],[]⟩) (fun q e σ=>e=.exit 0/\σ=⟨[],[]⟩)) l rfl ?_ ?_
 ·rintro v o σ rfl h
  refine Qa c [5,.o (.ln j.length),3] rfl (a1_ Qf) ?_
  rcases Qp h with⟨i,h⟩|⟨i,h⟩
  ·obtain⟨p,t,h⟩:=Qb h
   obtain⟨f,m,h⟩:=Qb h
   refine Qa c [.T,5,.K [0,1,5] []] rfl (a1_ i) ?_
   refine AK.draw2 Qr c mixed [.N,.N,.a (.row (Qo p)) none false,.a .no (some ([],.agg (Qo p))) false,.N,.N,.a (.row (Qo f)) none false,.a .no (some ([],.agg (Qo f))) false,.a (.any (.b (!((p.1==f.1)&&(p.2==f.2)))) none) none false] [] [] [0,1,5,25] [] rfl rfl rfl ⟨⟨⟨⟨⟨tt_,(QE t)⟩,rfl⟩,(QE m)⟩,rfl⟩,(fun σ u w _=>Stp.neAgg rfl rfl (QS c.n rfl) (u _ _ rfl) (u _ _ rfl) rfl rfl (QEq _ _ _ _))⟩ rfl (by kernel_rfl) rfl rfl rfl ?_
   refine tg_ c [1] ?_
   refine bq_ c h [.T,8,.K [4] []] rfl (fun d h=>?_) [.F,8,.K [0,1,5] []] rfl fun d h=>?_
   ·cases h
    exact Q6 rfl (an_ rfl rfl)
   cases h
   exact QR rfl rfl
  refine Qa c [.F,2,.K [] []] rfl (a1_ i) ?_
  cases h
  exact QT rfl (an_ rfl rfl)
 rcases s with(_ | _)
 ·replace h:QrG=some r:=h
  rintro e σ ⟨rfl,rfl⟩
  refine tg_ c [2] ?_
  cases h
  exact d1_ tt_
 replace h:QrH=some r:=h
 rintro e σ ⟨rfl,rfl⟩
 refine tg_ c [8] ?_
 cases h
 exact d1_ tt_
def Qcy (d:QMk)(e:QMk)(a:Int):Option (Int⊕(Unit⊕Unit)):=
 bif (decide (a<(d.length:Int)))then
 (idx d a).bind fun f=>
 (idx e a).bind fun b=>
 (Qns f b).bind fun c=>
 bif (!c)then
 some (.inr (.inl ()))
 else
 some (.inl (w64 (a+1)))
 else
 some (.inr (.inr ()))
def QnO : Option Bool:=
 some false
def QnP : Option Bool:=
 some true
def Qgc (a:QMk)(b:QMk):Option Bool:=
 bif ((a.length:Int) != (b.length:Int))then
 some false
 else
 (Qw (fun st=>Qcy a b st) 0).bind (Sum.elim (fun q=>QnO) (fun q=>QnP))
theorem Qjp (k l){r}(h:Qgc k l=some r):Qc prog 18 [.sl 1 (k.map Qg),.sl 1 (l.map Qg)] [] (Gives (.b r) []):=by
 refine wk_ 27 func18 fun C f=>?_
 refine Qa f [9,.o (.ln k.length),1,.o (.ln l.length),3] rfl (a2_ Qf Qf) ?_
 refine bq_ f h [.T,7,.K [4] []] rfl (fun i h=>?_) [.F,9,.K [0,1,5] []] rfl fun i h=>?_
 ·cases h
  exact d1_ tt_
 obtain⟨t,m,h⟩:=Qb h
 refine AK.loop (body:=(fun st=>Qcy k l st)) (fun st σ=>σ=⟨[(0,.sl 1 (k.map Qg)),(1,.sl 1 (l.map Qg)),(5,.I st)],[]⟩) (Sum.elim (fun q e σ=>e=.ret/\σ=⟨[(4,.b false)],[]⟩) (fun q e σ=>e=.exit 0/\σ=⟨[],[]⟩)) m rfl ?_ ?_
 ·rintro y o σ rfl h
  refine Qa f [5,.o (.ln k.length),3] rfl (a1_ Qf) ?_
  rcases Qp h with⟨j,h⟩|⟨j,h⟩
  ·obtain⟨x,u,h⟩:=Qb h
   obtain⟨v,p,h⟩:=Qb h
   obtain⟨w,s,h⟩:=Qb h
   refine Qa f [.T,5,.K [0,1,5] []] rfl (a1_ j) ?_
   refine AK.draw2 Qr f mixed [.N,.N,.a (.row (Qg x)) none false,.N,.N,.N,.a (.row (Qg v)) none false,.N,.a (.C2 (.b w)) none false,.N] [] [] [0,1,5,26] [] rfl rfl rfl ⟨⟨⟨tt_,(QE u)⟩,(QE p)⟩,(Qyf _ _ s)⟩ rfl (by kernel_rfl) rfl rfl rfl ?_
   refine tg_ f [1] ?_
   refine bq_ f h [.T,8,.K [4] []] rfl (fun g h=>?_) [.F,8,.K [0,1,5] []] rfl fun g h=>?_
   ·cases h
    exact Q6 rfl (an_ rfl rfl)
   cases h
   exact QR rfl rfl
  refine Qa f [.F,2,.K [] []] rfl (a1_ j) ?_
  cases h
  exact QT rfl (an_ rfl rfl)
 rcases t with(_ | _)
 ·replace h:QnO=some r:=h
  rintro e σ ⟨rfl,rfl⟩
  refine tg_ f [2] ?_
  cases h
  exact d1_ tt_
 replace h:QnP=some r:=h
 rintro e σ ⟨rfl,rfl⟩
 refine tg_ f [8] ?_
 cases h
 exact d1_ tt_
def QgB (c:QBg)(e:QBg)(b:Int):Option (Int⊕(Unit⊕Unit)):=
 bif (decide (b<(c.length:Int)))then
 (idx c b).bind fun d=>
 (idx e b).bind fun a=>
 bif (!((d.1==a.1)&&(d.2==a.2)))then
 some (.inr (.inl ()))
 else
 some (.inl (w64 (b+1)))
 else
 some (.inr (.inr ()))
def QgC : Option Bool:=
 some false
def QgD : Option Bool:=
 some true
def Qh3 (a:QBg)(b:QBg):Option Bool:=
 bif ((a.length:Int) != (b.length:Int))then
 some false
 else
 (Qw (fun st=>QgB a b st) 0).bind (Sum.elim (fun q=>QgC) (fun q=>QgD))
theorem QmW (g k){r}(h:Qh3 g k=some r):Qc prog 93 [.sl 2 (g.map Qo),.sl 2 (k.map Qo)] [] (Gives (.b r) []):=by
 refine wk_ 26 func93 fun C c=>?_
 refine Qa c [9,.o (.ln g.length),1,.o (.ln k.length),3] rfl (a2_ Qf Qf) ?_
 refine bg_ h (fun i h=>Qa c [.T,7,.K [4] []] rfl (a1_ i) ?_) fun i h=>Qa c [.F,6,.o (.ln g.length),4,.K [0,1,12,13] []] rfl (a2_ i Qf) ?_
 ·cases h
  exact d1_ tt_
 obtain⟨s,l,h⟩:=Qb h
 refine AK.loop (body:=(fun st=>QgB g k st)) (fun st σ=>σ=⟨[(0,.sl 2 (g.map Qo)),(1,.sl 2 (k.map Qo)),(12,.I (g.length:Int)),(13,.I st)],[]⟩) (Sum.elim (fun q e σ=>e=.ret/\σ=⟨[(4,.b false)],[]⟩) (fun q e σ=>e=.exit 0/\σ=⟨[],[]⟩)) l rfl ?_ ?_
 ·rintro v o σ rfl h
  refine tg_ c [6] ?_
  rcases Qp h with⟨j,h⟩|⟨j,h⟩
  ·obtain⟨p,t,h⟩:=Qb h
   obtain⟨f,m,h⟩:=Qb h
   refine Qa c [.T,11,.K [0,1,5,12,13] []] rfl (a1_ j) ?_
   refine AK.draw2 Qr c mixed [.N,.N,.a (.row (Qo p)) none false,.a .no (some ([],.agg (Qo p))) false,.N,.N,.a (.row (Qo f)) none false,.a .no (some ([],.agg (Qo f))) false,.a (.any (.b (!((p.1==f.1)&&(p.2==f.2)))) none) none false] [] [] [0,1,12,13,24] [] rfl rfl rfl ⟨⟨⟨⟨⟨tt_,(QE t)⟩,rfl⟩,(QE m)⟩,rfl⟩,(fun σ u w _=>Stp.neAgg rfl rfl (QS c.n rfl) (u _ _ rfl) (u _ _ rfl) rfl rfl (QEq _ _ _ _))⟩ rfl (by kernel_rfl) rfl rfl rfl ?_
   refine tg_ c [1] ?_
   refine bq_ c h [.T,8,.K [4] []] rfl (fun d h=>?_) [.F,7,.K [0,1,12,13] []] rfl fun d h=>?_
   ·cases h
    exact Q6 rfl (an_ rfl rfl)
   cases h
   exact QR rfl rfl
  refine Qa c [.F,2,.K [] []] rfl (a1_ j) ?_
  cases h
  exact QT rfl (an_ rfl rfl)
 rcases s with(_ | _)
 ·replace h:QgC=some r:=h
  rintro e σ ⟨rfl,rfl⟩
  refine tg_ c [2] ?_
  cases h
  exact d1_ tt_
 replace h:QgD=some r:=h
 rintro e σ ⟨rfl,rfl⟩
 refine tg_ c [8] ?_
 cases h
 exact d1_ tt_
def Qz2 (b:QBg)(c:QBg):Option Bool:=
 (Qd8 b).bind fun d=>
 bif d then
 (Qd8 c).bind fun e=>
 bif e then
 (Qh3 b c).bind fun a=>
 some a
 else
 some false
 else
 some false
def QoT (a:Bool):Option Bool:=
 some a
def Qyg (a:QBg)(b:QBg):Option Bool:=
 (Qz2 a b).bind (fun c=>QoT c)
theorem Qz3 (p q){r}(h:Qyg p q=some r):Qc prog 50 [.sl 2 (p.map Qo),.sl 2 (q.map Qo)] [] (Gives (.b r) []):=by
 refine wk_ 16 func50 fun C a=>?_
 refine tg_ a [6] ?_
 obtain⟨i,j,h⟩:=Qb h
 replace h:QoT i=some r:=h
 refine AK.meetX (fun σ=>σ=⟨[(4,.b i)],[]⟩) ?_ ?_
 ·replace h:=j
  obtain⟨s,k,h⟩:=Qb h
  refine Qa a [2,.o (.C1 (.b s)),1] rfl (a1_ (QhY _ k)) ?_
  rcases Qp h with⟨e,h⟩|⟨e,h⟩
  ·obtain⟨t,l,h⟩:=Qb h
   refine Qa a [.S 7 (.b true),1,.o (.C1 (.b t)),2] rfl ⟨(tc_ e),(QhY _ l)⟩ ?_
   rcases Qp h with⟨f,h⟩|⟨f,h⟩
   ·obtain⟨m,g,h⟩:=Qb h
    refine Qa a [.S 11 (.b true),2,.o (.C2 (.b m)),3,.K [4] []] rfl ⟨(tc_ f),(QmW _ _ g)⟩ ?_
    cases h
    exact mt_
   refine Qa a [.S 11 (.b false),6,.K [4] []] rfl (tc_ f) ?_
   cases h
   exact mt_
  refine Qa a [.S 7 (.b false),10,.K [4] []] rfl (tc_ e) ?_
  cases h
  exact mt_
 rintro σ rfl
 replace h:QoT i=some r:=h
 refine tg_ a [2] ?_
 cases h
 exact d1_ tt_
def Qbb (d:QMk)(e:QMk)(a:Int):Option (Int⊕(Unit⊕Unit)):=
 bif (decide (a<(d.length:Int)))then
 (idx d a).bind fun f=>
 (idx e a).bind fun b=>
 (Qyg f b).bind fun c=>
 bif (!c)then
 some (.inr (.inl ()))
 else
 some (.inl (w64 (a+1)))
 else
 some (.inr (.inr ()))
def Qbc : Option Bool:=
 some false
def Qbd : Option Bool:=
 some true
def Qbt (a:QMk)(b:QMk):Option Bool:=
 bif ((a.length:Int) != (b.length:Int))then
 some false
 else
 (Qw (fun st=>Qbb a b st) 0).bind (Sum.elim (fun q=>Qbc) (fun q=>Qbd))
theorem QdL (g k){r}(h:Qbt g k=some r):Qc prog 49 [.sl 1 (g.map Qg),.sl 1 (k.map Qg),.clo (.func 50) [] []] [] (Gives (.b r) []):=by
 refine wk_ 32 func49 fun C f=>?_
 refine Qa f [9,.o (.ln g.length),1,.o (.ln k.length),3] rfl (a2_ Qf Qf) ?_
 refine bg_ h (fun i h=>Qa f [.T,7,.K [6] []] rfl (a1_ i) ?_) fun i h=>Qa f [.F,6,.o (.ln g.length),4,.K [1,2,15,16,17] []] rfl (a2_ i Qf) ?_
 ·cases h
  exact d1_ tt_
 obtain⟨s,l,h⟩:=Qb h
 refine AK.loop (body:=(fun st=>Qbb g k st)) (fun st σ=>σ=⟨[(1,.sl 1 (k.map Qg)),(2,.clo (.func 50) [] []),(15,.sl 1 (g.map Qg)),(16,.I (g.length:Int)),(17,.I st)],[]⟩) (Sum.elim (fun q e σ=>e=.ret/\σ=⟨[(6,.b false)],[]⟩) (fun q e σ=>e=.exit 0/\σ=⟨[],[]⟩)) l rfl ?_ ?_
 ·rintro x o σ rfl h
  refine tg_ f [6] ?_
  rcases Qp h with⟨j,h⟩|⟨j,h⟩
  ·obtain⟨w,t,h⟩:=Qb h
   obtain⟨u,m,h⟩:=Qb h
   obtain⟨v,p,h⟩:=Qb h
   refine Qa f [.T,7,.o (.row (Qg w)),9,.o (.row (Qg u)),9,.o (.C2 (.b v)),3] rfl (a4_ j (QE t) (QE m) (Qz3 _ _ p)) ?_
   refine bq_ f h [.T,8,.K [6] []] rfl (fun a h=>?_) [.F,7,.K [1,2,15,16,17] []] rfl fun a h=>?_
   ·cases h
    exact Q6 rfl (an_ rfl rfl)
   cases h
   exact QR rfl rfl
  refine Qa f [.F,2,.K [] []] rfl (a1_ j) ?_
  cases h
  exact QT rfl (an_ rfl rfl)
 rcases s with(_ | _)
 ·replace h:Qbc=some r:=h
  rintro e σ ⟨rfl,rfl⟩
  refine tg_ f [2] ?_
  cases h
  exact d1_ tt_
 replace h:Qbd=some r:=h
 rintro e σ ⟨rfl,rfl⟩
 refine tg_ f [8] ?_
 cases h
 exact d1_ tt_
def QwV (a:QMk)(b:QMk):Option Bool:=
 (Qbt a b).bind fun c=>
 some c
theorem Qzb (c e){r}(h:QwV c e=some r):Qc prog 25 [.sl 1 (c.map Qg),.sl 1 (e.map Qg)] [] (Gives (.b r) []):=by
 refine wk_ 8 func25 fun C f=>?_
 obtain⟨g,a,h⟩:=Qb h
 refine Qa f [9,.cm (.fn) [] [] [] [.d,.d,.d] [] (.b g),4] rfl (a1_ (QdL _ _ a)) ?_
 cases h
 exact d1_ tt_
def Qw9 (c:(QMk×Int))(e:(QMk×Int))(d:(QMk×Int))(f:(QMk×Int))(g:(QMk×Int))(h:(List Qh)):Option Bool:=
 bif (c.2==0)then
 (Qgc c.1 ([([(2,1)]:List (Int×Int)),([(3,1)]:List (Int×Int)),([]:QBg)]:List QBg)).bind fun a=>
 bif a then
 bif (e.2==0)then
 bif (d.2==0)then
 (QwV d.1 ([([(2,2)]:List (Int×Int)),([]:QBg),([(0,5)]:List (Int×Int))]:List QBg)).bind fun b=>
 bif b then
 bif (f.2==10)then
 bif (g.2==2)then
 some ((h.length:Int)==2)
 else
 some false
 else
 some false
 else
 some false
 else
 some false
 else
 some false
 else
 some false
 else
 some false
def QmG (a:Bool):Option Bool:=
 some a
def QoU  : Option Bool:=
 (QwS).bind fun a=>
 (QdX a ([([(2,2)]:List (Int×Int)),([]:QBg),([(0,5)]:List (Int×Int))]:List QBg) (Qh.mk 0 ([2]:List Int) ([0]:List Int) ([0]:List Int))).bind fun b=>
 (Qhl a ([([(2,2)]:List (Int×Int)),([]:QBg),([(0,5)]:List (Int×Int))]:List QBg) (Qh.mk 0 ([2]:List Int) ([0]:List Int) ([0]:List Int))).bind fun c=>
 (QwU a c.1 (Qh.mk 0 ([2]:List Int) ([0]:List Int) ([0]:List Int))).bind fun d=>
 (QdX a b.1 (Qh.mk 0 ([1]:List Int) ([0]:List Int) ([0]:List Int))).bind fun e=>
 (Qnn a ([([(2,2)]:List (Int×Int)),([]:QBg),([(0,5)]:List (Int×Int))]:List QBg) ([(Qh.mk 0 ([2]:List Int) ([0]:List Int) ([0]:List Int)),(Qh.mk 0 ([2]:List Int) ([0]:List Int) ([0]:List Int)),(Qh.mk 0 ([2]:List Int) ([0]:List Int) ([0]:List Int))]:List Qh)).bind fun f=>
 (Qgb a ([([(2,2)]:List (Int×Int)),([]:QBg),([(0,5)]:List (Int×Int))]:List QBg) ([7,(-1),0]:List Int)).bind fun g=>
 (Qw9 b c d e f g).bind (fun h=>QmG h)
theorem Qxa  {r:Bool}(h:QoU  = some r):Qc prog 8 [] [] (Gives (.b r) []):=by
 refine wk_ 107 func8 fun C a=>?_
 obtain⟨m,t,h⟩:=Qb h
 obtain⟨F,u,h⟩:=Qb h
 obtain⟨G,w,h⟩:=Qb h
 obtain⟨H,x,h⟩:=Qb h
 obtain⟨J,y,h⟩:=Qb h
 obtain⟨L,z,h⟩:=Qb h
 obtain⟨M,A,h⟩:=Qb h
 refine Qa a [7,.o (.c false [] (.agg (Qd m))),2,.O 1 (.var (Qd m)),4,.A (Qo (2,2)),.v (.bd []) [] (.sl 2 (([(2,2)]:List (Int×Int)).map Qo)),.A (Qo (0,5)),.v (.bd []) [] (.sl 2 (([(0,5)]:List (Int×Int)).map Qo)),.v (.bd [none,some 2,none]) [] (.sl 1 (([([(2,2)]:List (Int×Int)),([]:QBg),([(0,5)]:List (Int×Int))]:List QBg).map Qg)),5,.v (.bd []) [] (.sl 1 (([2]:List Int).map Qe)),.v (.bd []) [] (.sl 1 (([0]:List Int).map Qe)),.v (.bd []) [] (.sl 1 (([0]:List Int).map Qe)),.A (Qi (Qh.mk 0 ([2]:List Int) ([0]:List Int) ([0]:List Int))),2,.O 3 (.var (Qi (Qh.mk 0 ([2]:List Int) ([0]:List Int) ([0]:List Int)))),4,.A (Qd m),1,.A (Qi (Qh.mk 0 ([2]:List Int) ([0]:List Int) ([0]:List Int))),.o (.C3 (.tup [.sl 1 (F.1.map Qg),.I F.2])),9,.A (Qd m),1,.A (Qi (Qh.mk 0 ([2]:List Int) ([0]:List Int) ([0]:List Int))),.o (.C3 (.tup [.sl 1 (G.1.map Qg),.I G.2])),9,.A (Qd m),1,.A (Qi (Qh.mk 0 ([2]:List Int) ([0]:List Int) ([0]:List Int))),.o (.C3 (.tup [.sl 1 (H.1.map Qg),.I H.2])),9,.A (Qd m),1,.v (.bd []) [] (.sl 1 (([1]:List Int).map Qe)),.v (.bd []) [] (.sl 1 (([0]:List Int).map Qe)),.v (.bd []) [] (.sl 1 (([0]:List Int).map Qe)),.A (Qi (Qh.mk 0 ([1]:List Int) ([0]:List Int) ([0]:List Int))),.o (.C3 (.tup [.sl 1 (J.1.map Qg),.I J.2])),9,.A (Qd m),1,.A (Qi (Qh.mk 0 ([2]:List Int) ([0]:List Int) ([0]:List Int))),.A (Qi (Qh.mk 0 ([2]:List Int) ([0]:List Int) ([0]:List Int))),.A (Qi (Qh.mk 0 ([2]:List Int) ([0]:List Int) ([0]:List Int))),.v (.bd []) [] (.sl 4 (([(Qh.mk 0 ([2]:List Int) ([0]:List Int) ([0]:List Int)),(Qh.mk 0 ([2]:List Int) ([0]:List Int) ([0]:List Int)),(Qh.mk 0 ([2]:List Int) ([0]:List Int) ([0]:List Int))]:List Qh).map Qi)),.o (.C3 (.tup [.sl 1 (L.1.map Qg),.I L.2])),9,.A (Qd m),1,.v (.bd []) [] (.sl 1 (([7,(-1),0]:List Int).map Qe)),.o (.co false [.d,.d,.d] 4 (M.map Qi) M.length),4] rfl ⟨⟨⟨⟨⟨⟨⟨⟨⟨⟨⟨⟨⟨⟨⟨⟨⟨⟨⟨⟨⟨⟨⟨⟨⟨⟨⟨⟨⟨⟨⟨⟨⟨⟨⟨⟨tt_,(Qy6  t)⟩,rfl⟩,rfl⟩,rfl⟩,rfl⟩,rfl⟩,rfl⟩,rfl⟩,rfl⟩,rfl⟩,rfl⟩,rfl⟩,rfl⟩,rfl⟩,(Qnm _ _ _ u)⟩,rfl⟩,rfl⟩,(QsF _ _ _ w)⟩,rfl⟩,rfl⟩,(Qza _ _ _ x)⟩,rfl⟩,rfl⟩,rfl⟩,rfl⟩,rfl⟩,(Qnm _ _ _ y)⟩,rfl⟩,rfl⟩,rfl⟩,rfl⟩,rfl⟩,(Qur _ _ _ z)⟩,rfl⟩,rfl⟩,⟨(QrF _ _ _ A),Qf,.inl rfl⟩⟩ ?_
 obtain⟨B,p,h⟩:=Qb h
 replace h:QmG B=some r:=h
 refine AK.meetX (fun σ=>σ=⟨[(0,.b B)],[]⟩) ?_ ?_
 ·replace h:=p
  refine tg_ a [4] ?_
  rcases Qp h with⟨e,h⟩|⟨e,h⟩
  ·obtain⟨D,q,h⟩:=Qb h
   refine Qa a [.S 72 (.b true),1,.A (Qo (2,1)),.v (.bd []) [] (.sl 2 (([(2,1)]:List (Int×Int)).map Qo)),.A (Qo (3,1)),.v (.bd []) [] (.sl 2 (([(3,1)]:List (Int×Int)).map Qo)),.v (.bd [none,none,some 2]) [] (.sl 1 (([([(2,1)]:List (Int×Int)),([(3,1)]:List (Int×Int)),([]:QBg)]:List QBg).map Qg)),.o (.C2 (.b D)),2] rfl ⟨⟨⟨⟨⟨⟨(tc_ e),rfl⟩,rfl⟩,rfl⟩,rfl⟩,rfl⟩,(Qjp _ _ q)⟩ ?_
   refine bg_ h (fun f h=>Qa a [.S 81 (.b true),4] rfl (tc_ f) ?_) fun f h=>Qa a [.S 81 (.b false),27,.K [0] []] rfl (tc_ f) ?_
   ·refine bg_ h (fun g h=>Qa a [.S 85 (.b true),4] rfl (tc_ g) ?_) fun g h=>Qa a [.S 85 (.b false),23,.K [0] []] rfl (tc_ g) ?_
    ·rcases Qp h with⟨i,h⟩|⟨i,h⟩
     ·obtain⟨E,s,h⟩:=Qb h
      refine Qa a [.S 89 (.b true),2,.o (.C2 (.b E)),2] rfl ⟨(tc_ i),(Qzb _ _ s)⟩ ?_
      refine bg_ h (fun j h=>Qa a [.S 94 (.b true),4] rfl (tc_ j) ?_) fun j h=>Qa a [.S 94 (.b false),14,.K [0] []] rfl (tc_ j) ?_
      ·refine bg_ h (fun k h=>Qa a [.S 98 (.b true),4] rfl (tc_ k) ?_) fun k h=>Qa a [.S 98 (.b false),10,.K [0] []] rfl (tc_ k) ?_
       ·refine bg_ h (fun l h=>Qa a [.S 102 (.b true),6,.K [0] []] rfl (tc_ l) ?_) fun l h=>Qa a [.S 102 (.b false),6,.K [0] []] rfl (tc_ l) ?_
        ·cases h
         exact mt_
        cases h
        exact mt_
       cases h
       exact mt_
      cases h
      exact mt_
     refine Qa a [.S 89 (.b false),19,.K [0] []] rfl (tc_ i) ?_
     cases h
     exact mt_
    cases h
    exact mt_
   cases h
   exact mt_
  refine Qa a [.S 72 (.b false),36,.K [0] []] rfl (tc_ e) ?_
  cases h
  exact mt_
 rintro σ rfl
 replace h:QmG B=some r:=h
 refine tg_ a [2] ?_
 cases h
 exact d1_ tt_
def Qla (f:Qk)(rec_law04_few:Qk->Int->Option Int)(a:Int)(c:Int)(d:Int):Option ((Int×Int)⊕(Unit⊕Int)):=
 bif (decide (d<(f.Kids.length:Int)))then
 (idx f.Kids d).bind fun e=>
 (rec_law04_few e (w64 (a-1))).bind fun b=>
 bif (b==0)then
 some (.inr (.inl ()))
 else
 bif (decide ((w64 ((w64 (c-500))+b))<=1))then
 some (.inr (.inl ()))
 else
 some (.inl ((w64 ((w64 (c-500))+b)),(w64 (d+1))))
 else
 some (.inr (.inr c))
def QsI : Option Int:=
 some 0
def QsJ (a:Int):Option Int:=
 some (w64 (a-1))
def QoV (rec_law04_few:Qk->Int->Option Int)(b:Qk)(a:Int):Option Int:=
 bif ((decide (a<=0))||(decide (9<(b.Kids.length:Int))))then
 some 0
 else
 (Qw (fun st=>Qla b rec_law04_few a st.1 st.2) (500,0)).bind (Sum.elim (fun q=>QsI) (fun q=>QsJ q))
def Qfs : Nat->Qk->Int->Option Int
 | 0,_,_=>none
 | n+1,b,a=>QoV (Qfs n) b a
def Qsp (b:Qk)(a:Int):Option Int:=Qfs (SizeOf.sizeOf b) b a
theorem Qxb (rec_law04_few:Qk->Int->Option Int)(hrec_law04_few:∀(g:Qk) (a:Int) {r:Int},rec_law04_few g a=some r->Qc prog 99 [.agg (Qn g),.I a] [] (Gives (.I r) []))(g:Qk)(a:Int){r:Int}(h:QoV rec_law04_few g a=some r):Qc prog 99 [.agg (Qn g),.I a] [] (Gives (.I r) []):=by
 refine wk_ 41 func99 fun C f=>?_
 refine tg_ f [8] ?_
 refine AK.meetX (fun σ=>σ=⟨[(1,.I a),lk_ 2,(15,.b ((decide (a<=0))||(decide (9<(g.Kids.length:Int)))))],[(2,.var (Qn g))]⟩) ?_ ?_
 ·refine tg_ f [4] ?_
  rcases QD (decide (a<=0))with i | i
  ·refine Qa f [.S 10 (.b true),6,.S 15 (.b ((decide (a<=0))||(decide (9<(g.Kids.length:Int))))),.K [1,2,15] [2]] rfl ⟨(tc_ i),(congrArg V.b (orT i rfl))⟩ ?_
   exact mt_
  refine Qa f [.S 10 (.b false),2,.o (.ln g.Kids.length),3,.S 15 (.b ((decide (a<=0))||(decide (9<(g.Kids.length:Int))))),.K [1,2,15] [2]] rfl ⟨⟨(tc_ i),QfG _⟩,(congrArg V.b (orF i rfl))⟩ ?_
  exact mt_
 rintro σ rfl
 refine tg_ f [1] ?_
 refine bq_ f h [.T,7,.K [4] []] rfl (fun m h=>?_) [.F,14,.K [1,2,5,6] [2]] rfl fun m h=>?_
 ·cases h
  exact d1_ tt_
 obtain⟨w,p,h⟩:=Qb h
 refine AK.loop (body:=(fun st=>Qla g rec_law04_few a st.1 st.2)) (fun st σ=>σ=⟨[(1,.I a),lk_ 2,(5,.I st.1),(6,.I st.2)],[(2,.var (Qn g))]⟩) (Sum.elim (fun q e σ=>e=.ret/\σ=⟨[(4,.I 0)],[]⟩) (fun q e σ=>e=.exit 0/\σ=⟨[(5,.I q)],[]⟩)) p rfl ?_ ?_
 ·rintro ⟨z,A⟩ o σ rfl h
  refine Qa f [6,.o (.ln g.Kids.length),3] rfl (a1_ (QfG _)) ?_
  rcases Qp h with⟨j,h⟩|⟨j,h⟩
  ·obtain⟨s,t,h⟩:=Qb h
   obtain⟨x,u,h⟩:=Qb h
   refine Qa f [.T,9,.o (.row (Qn s)),.A (Qn s),2,.o (.C2 (.I x)),10] rfl (a4_ j (Qbz t) rfl (hrec_law04_few _ _ u)) ?_
   refine bq_ f h [.T,9,.K [4] []] rfl (fun k h=>?_) [.F,17] rfl fun k h=>?_
   ·cases h
    exact Q6 rfl (an_ rfl rfl)
   refine bq_ f h [.T,8,.K [4] []] rfl (fun l h=>?_) [.F,8,.K [1,2,5,6] [2]] rfl fun l h=>?_
   ·cases h
    exact Q6 rfl (an_ rfl rfl)
   cases h
   exact QR rfl rfl
  refine Qa f [.F,2,.K [5] []] rfl (a1_ j) ?_
  cases h
  exact QT rfl (an_ rfl rfl)
 rcases w with(_ | y)
 ·replace h:QsI=some r:=h
  rintro e σ ⟨rfl,rfl⟩
  refine tg_ f [2] ?_
  cases h
  exact d1_ tt_
 replace h:QsJ y=some r:=h
 rintro e σ ⟨rfl,rfl⟩
 refine tg_ f [10] ?_
 cases h
 exact d1_ tt_
theorem Qqo : ∀(fuel:Nat) (b:Qk) (a:Int) {r:Int},Qfs fuel b a=some r->Qc prog 99 [.agg (Qn b),.I a] [] (Gives (.I r) [])
 | 0,_,_,_,h=>by cases h
 | n+1,b,a,_,h=>Qxb (Qfs n) (fun _ _ _ h=>Qqo n _ _ h) b a h
theorem Qzc (b a){r}(h:Qsp b a=some r):Qc prog 99 [.agg (Qn b),.I a] [] (Gives (.I r) []):=Qqo _ b a h
def Qjg (a:Qk):Option Bool:=
 (Qsp a 60).bind fun b=>
 some (decide (0<b))
theorem Qn0 (a){r}(h:Qjg a=some r):Qc prog 56 [.agg (Qn a)] [] (Gives (.b r) []):=by
 refine wk_ 6 func56 fun C f=>?_
 obtain⟨g,e,h⟩:=Qb h
 refine Qa f [8,.A (Qn a),.o (.C2 (.I g)),5] rfl (a2_ rfl (Qzc _ _ e)) ?_
 cases h
 exact d1_ tt_
def QsK (d:Qq)(e:Int)(a:Int)(b:QF):Option Bool:=
 (idx d.Colours e).bind fun c=>
 bif (decide (100<(c.Name.size:Int)))then
 some true
 else
 some (decide (400<(w64 (a+(b.Names.length:Int)))))
def Qlb (e:Qq)(f:Int)(a:Int):Option (Int⊕(Unit⊕Unit)):=
 (idx e.Colours f).bind fun b=>
 bif (decide (a<(b.Names.length:Int)))then
 (idx e.Colours f).bind fun c=>
 (idx c.Names a).bind fun d=>
 bif (decide (100<(d.size:Int)))then
 some (.inr (.inl ()))
 else
 some (.inl (w64 (a+1)))
 else
 some (.inr (.inr ()))
def QsL : Option ((Int×Int)⊕(Unit⊕Int)):=
 some (.inr (.inl ()))
def QsM (a:Int)(b:QF)(c:Int):Option ((Int×Int)⊕(Unit⊕Int)):=
 some (.inl ((w64 (a+(b.Names.length:Int))),(w64 (c+1))))
def Qlc (e:Qq)(d:Int)(a:Int)(b:QF)(c:Bool):Option ((Int×Int)⊕(Unit⊕Int)):=
 bif c then
 some (.inr (.inl ()))
 else
 (Qw (fun st=>Qlb e d st) 0).bind (Sum.elim (fun q=>QsL) (fun q=>QsM a b d))
def Qld (c:Qq)(a:Int)(d:Int):Option ((Int×Int)⊕(Unit⊕Int)):=
 bif (decide (d<(c.Colours.length:Int)))then
 (idx c.Colours d).bind fun b=>
 (QsK c d a b).bind (fun e=>Qlc c d a b e)
 else
 some (.inr (.inr a))
def QsN : Option Bool:=
 some false
def Qle (c:Qq)(a:Int)(b:Int):Option ((Int×Int)⊕(Unit⊕Int)):=
 bif (decide (b<(c.Places.length:Int)))then
 (idx c.Places b).bind fun d=>
 (idx c.Places b).bind fun e=>
 bif (decide (100<(e.Name.size:Int)))then
 some (.inr (.inl ()))
 else
 some (.inl ((w64 (a+(d.First.length:Int))),(w64 (b+1))))
 else
 some (.inr (.inr a))
def QsO : Option Bool:=
 some false
def QjI (b:QG)(a:Int):Option (Int⊕(Unit⊕Unit)):=
 bif (decide (a<(b.Vars.length:Int)))then
 (idx b.Vars a).bind fun c=>
 bif (decide (100<(c.Name.size:Int)))then
 some (.inr (.inl ()))
 else
 some (.inl (w64 (a+1)))
 else
 some (.inr (.inr ()))
def QrI : Option ((Int×Int)⊕(Unit⊕Unit)):=
 some (.inr (.inl ()))
def QjJ (c:QG)(a:Bool)(b:Int):Option ((Bool×Int)⊕Bool):=
 bif (decide (b<(c.Ins.length:Int)))then
 (idx c.Ins b).bind fun d=>
 (Qjg d.Expr).bind fun e=>
 some (.inl ((a&&e),(w64 (b+1))))
 else
 some (.inr a)
def QjK (c:QG)(a:Bool)(b:Int):Option ((Bool×Int)⊕Bool):=
 bif (decide (b<(c.Outs.length:Int)))then
 (idx c.Outs b).bind fun d=>
 (Qjg d.Expr).bind fun e=>
 some (.inl ((a&&e),(w64 (b+1))))
 else
 some (.inr a)
def QjL (a:Int)(b:QG)(d:Int)(c:Bool):Option ((Int×Int)⊕(Unit⊕Unit)):=
 bif (!c)then
 some (.inr (.inl ()))
 else
 some (.inl ((w64 ((w64 ((w64 ((w64 (a+(b.Vars.length:Int)))+(b.Ins.length:Int)))+(b.Outs.length:Int)))+(b.Cancel.length:Int))),(w64 (d+1))))
def QjM (b:QG)(a:Int)(d:Int)(c:Bool):Option ((Int×Int)⊕(Unit⊕Unit)):=
 (Qw (fun st=>QjK b st.1 st.2) (c,0)).bind (fun q=>QjL a b d q)
def QjN (b:QG)(a:Int)(c:Int):Option ((Int×Int)⊕(Unit⊕Unit)):=
 (Qjg b.Guard).bind fun d=>
 (Qw (fun st=>QjJ b st.1 st.2) (d,0)).bind (fun q=>QjM b a c q)
def QjO (d:Qq)(b:Int)(c:Int):Option ((Int×Int)⊕(Unit⊕Unit)):=
 bif (decide (c<(d.Tasks.length:Int)))then
 (idx d.Tasks c).bind fun a=>
 bif ((decide (200<(w64 ((w64 ((w64 ((w64 (b+(a.Vars.length:Int)))+(a.Ins.length:Int)))+(a.Outs.length:Int)))+(a.Cancel.length:Int)))))||(decide (100<(a.Name.size:Int))))then
 some (.inr (.inl ()))
 else
 (Qw (fun st=>QjI a st) 0).bind (Sum.elim (fun q=>QrI) (fun q=>QjN a b c))
 else
 some (.inr (.inr ()))
def QrJ : Option Bool:=
 some false
def QrK (a:Int):Option Bool:=
 some (decide (a<=400))
def QjP (b:Qq)(a:Int):Option Bool:=
 (Qw (fun st=>QjO b st.1 st.2) (0,0)).bind (Sum.elim (fun q=>QrJ) (fun q=>QrK a))
def QjQ (b:Qq)(a:Int):Option Bool:=
 (Qw (fun st=>Qle b st.1 st.2) (a,0)).bind (Sum.elim (fun q=>QsO) (fun q=>QjP b q))
def Ql3 (a:Qq):Option Bool:=
 bif ((decide (40<(a.Colours.length:Int)))||((decide (70<(a.Places.length:Int)))||(decide (70<(a.Tasks.length:Int)))))then
 some false
 else
 (Qw (fun st=>Qld a st.1 st.2) (0,0)).bind (Sum.elim (fun q=>QsN) (fun q=>QjQ a q))
theorem Qzd (j){r}(h:Ql3 j=some r):Qc prog 30 [.agg (Qd j)] [] (Gives (.b r) []):=by
 refine wk_ 201 func30 fun C i=>?_
 unfold Ql3 at h
 refine tg_ i [8] ?_
 refine AK.meetX (fun σ=>σ=⟨[lk_ 1,(31,.b ((decide (40<(j.Colours.length:Int)))||((decide (70<(j.Places.length:Int)))||(decide (70<(j.Tasks.length:Int))))))],[(1,.var (Qd j))]⟩) ?_ ?_
 ·refine Qa i [3,.o (.ln j.Colours.length),2] rfl (a1_ Qf) ?_
  rcases QD (decide (40<(j.Colours.length:Int)))with x | x
  ·refine Qa i [.S 20 (.b true),12,.S 31 (.b ((decide (40<(j.Colours.length:Int)))||((decide (70<(j.Places.length:Int)))||(decide (70<(j.Tasks.length:Int)))))),.K [1,31] [1]] rfl ⟨(tc_ x),(congrArg V.b (orT x rfl))⟩ ?_
   exact mt_
  refine Qa i [.S 20 (.b false),2,.o (.ln j.Places.length),3] rfl ⟨(tc_ x),Qf⟩ ?_
  rcases QD (decide (70<(j.Places.length:Int)))with y | y
  ·refine Qa i [.S 26 (.b true),6,.S 31 (.b ((decide (40<(j.Colours.length:Int)))||((decide (70<(j.Places.length:Int)))||(decide (70<(j.Tasks.length:Int)))))),.K [1,31] [1]] rfl ⟨(tc_ y),(congrArg V.b (orF x (orT y rfl)))⟩ ?_
   exact mt_
  refine Qa i [.S 26 (.b false),2,.o (.ln j.Tasks.length),3,.S 31 (.b ((decide (40<(j.Colours.length:Int)))||((decide (70<(j.Places.length:Int)))||(decide (70<(j.Tasks.length:Int)))))),.K [1,31] [1]] rfl ⟨⟨(tc_ y),Qf⟩,(congrArg V.b (orF x (orF y rfl)))⟩ ?_
  exact mt_
 rintro σ rfl
 refine tg_ i [1] ?_
 refine bq_ i h [.T,7,.K [2] []] rfl (fun a0 h=>?_) [.F,14,.K [1,3,4] [1]] rfl fun a0 h=>?_
 ·cases h
  exact d1_ tt_
 obtain⟨d1,a2,h⟩:=Qb h
 refine AK.loop (body:=(fun st=>Qld j st.1 st.2)) (fun st σ=>σ=⟨[lk_ 1,(3,.I st.1),(4,.I st.2)],[(1,.var (Qd j))]⟩) (Sum.elim (fun q e σ=>e=.ret/\σ=⟨[(2,.b false)],[]⟩) (fun q e σ=>e=.exit 0/\σ=⟨[lk_ 1,(3,.I q)],[(1,.var (Qd j))]⟩)) a2 rfl ?_ ?_
 ·rintro ⟨k,i9⟩ o σ rfl h
  refine Qa i [6,.o (.ln j.Colours.length),3] rfl (a1_ Qf) ?_
  rcases Qp h with⟨z,h⟩|⟨z,h⟩
  ·obtain⟨m,a3,h⟩:=Qb h
   refine Qa i [.T,10,.o (.row (Qs m)),2,.o (.ln m.Names.length),6] rfl (a3_ z (QE a3) Qf) ?_
   obtain⟨a1,a4,h⟩:=Qb h
   replace h:Qlc j i9 k m a1=some o:=h
   refine AK.meetX (fun σ=>σ=⟨[lk_ 1,(3,.I (w64 (k+(m.Names.length:Int)))),(4,.I i9),(59,.b a1)],[(1,.var (Qd j))]⟩) ?_ ?_
   ·replace h:=a4
    obtain⟨d2,a5,h⟩:=Qb h
    refine Qa i [4,.o (.row (Qs d2)),5] rfl (a1_ (QE a5)) ?_
    refine bg_ h (fun A h=>Qa i [.S 56 (.b true),4,.K [1,3,4,59] [1]] rfl (tc_ A) ?_) fun A h=>Qa i [.S 56 (.b false),4,.K [1,3,4,59] [1]] rfl (tc_ A) ?_
    ·cases h
     exact mt_
    cases h
    exact mt_
   rintro σ rfl
   replace h:Qlc j i9 k m a1=some o:=h
   refine tg_ i [1] ?_
   refine bq_ i h [.T,9,.K [2] []] rfl (fun B h=>?_) [.F,8,.K [1,3,4,5] [1]] rfl fun B h=>?_
   ·cases h
    exact Q6 rfl (an_ rfl rfl)
   obtain⟨d3,a6,h⟩:=Qb h
   refine AK.loop (body:=(fun st=>Qlb j i9 st)) (fun st σ=>σ=⟨[lk_ 1,(3,.I (w64 (k+(m.Names.length:Int)))),(4,.I i9),(5,.I st)],[(1,.var (Qd j))]⟩) (Sum.elim (fun q e σ=>e=.ret/\σ=⟨[(2,.b false)],[]⟩) (fun q e σ=>e=.exit 2/\σ=⟨[lk_ 1,(3,.I (w64 (k+(m.Names.length:Int)))),(4,.I i9)],[(1,.var (Qd j))]⟩)) a6 rfl ?_ ?_
   ·rintro e4 o σ rfl h
    obtain⟨a7,a8,h⟩:=Qb h
    refine Qa i [7,.o (.row (Qs a7)),2,.o (.ln a7.Names.length),3] rfl (a2_ (QE a8) Qf) ?_
    rcases Qp h with⟨D,h⟩|⟨D,h⟩
    ·obtain⟨d4,a9,h⟩:=Qb h
     obtain⟨d5,b0,h⟩:=Qb h
     refine Qa i [.T,9,.o (.row (Qs d4)),3,.o (.row (QcC d5)),5] rfl (a3_ D (QE a9) (QE b0)) ?_
     refine bq_ i h [.T,8,.K [2] []] rfl (fun E h=>?_) [.F,8,.K [1,3,4,5] [1]] rfl fun E h=>?_
     ·cases h
      exact Q6 rfl (an_ rfl rfl)
     cases h
     exact QR rfl rfl
    refine Qa i [.F,2,.K [1,3,4] [1]] rfl (a1_ D) ?_
    cases h
    exact QT rfl (an_ rfl rfl)
   rcases d3 with(_ | _)
   ·replace h:QsL=some o:=h
    rintro e σ ⟨rfl,rfl⟩
    refine tg_ i [3,.K [2] []] ?_
    cases h
    exact Q6 rfl (an_ rfl rfl)
   replace h:QsM k m i9=some o:=h
   rintro e σ ⟨rfl,rfl⟩
   refine tg_ i [8,.K [1,3,4] [1]] ?_
   cases h
   exact QR rfl rfl
  refine Qa i [.F,2,.K [1,3] [1]] rfl (a1_ z) ?_
  cases h
  exact QT rfl (an_ rfl rfl)
 rcases d1 with(_ | G)
 ·replace h:QsN=some r:=h
  rintro e σ ⟨rfl,rfl⟩
  refine tg_ i [2] ?_
  cases h
  exact d1_ tt_
 replace h:QjQ j G=some r:=h
 rintro e σ ⟨rfl,rfl⟩
 refine tg_ i [9,.K [1,3,6] [1]] ?_
 obtain⟨d6,b1,h⟩:=Qb h
 refine AK.loop (body:=(fun st=>Qle j st.1 st.2)) (fun st σ=>σ=⟨[lk_ 1,(3,.I st.1),(6,.I st.2)],[(1,.var (Qd j))]⟩) (Sum.elim (fun q e σ=>e=.ret/\σ=⟨[(2,.b false)],[]⟩) (fun q e σ=>e=.exit 4/\σ=⟨[lk_ 1,(3,.I q)],[(1,.var (Qd j))]⟩)) b1 rfl ?_ ?_
 ·rintro ⟨b2,e5⟩ o σ rfl h
  refine Qa i [6,.o (.ln j.Places.length),3] rfl (a1_ Qf) ?_
  rcases Qp h with⟨H,h⟩|⟨H,h⟩
  ·obtain⟨b3,b4,h⟩:=Qb h
   obtain⟨d7,b5,h⟩:=Qb h
   refine Qa i [.T,10,.o (.row (QC b3)),2,.o (.ln b3.First.length),9,.o (.row (QC d7)),6] rfl (a4_ H (QE b4) Qf (QE b5)) ?_
   refine bq_ i h [.T,8,.K [2] []] rfl (fun J h=>?_) [.F,8,.K [1,3,6] [1]] rfl fun J h=>?_
   ·cases h
    exact Q6 rfl (an_ rfl rfl)
   cases h
   exact QR rfl rfl
  refine Qa i [.F,2,.K [1,3] [1]] rfl (a1_ H) ?_
  cases h
  exact QT rfl (an_ rfl rfl)
 rcases d6 with(_ | g)
 ·replace h:QsO=some r:=h
  rintro e σ ⟨rfl,rfl⟩
  refine tg_ i [2] ?_
  cases h
  exact d1_ tt_
 replace h:QjP j g=some r:=h
 rintro e σ ⟨rfl,rfl⟩
 refine tg_ i [14,.K [1,3,7,8] [1]] ?_
 obtain⟨d8,b6,h⟩:=Qb h
 refine AK.loop (body:=(fun st=>QjO j st.1 st.2)) (fun st σ=>σ=⟨[lk_ 1,(3,.I g),(7,.I st.1),(8,.I st.2)],[(1,.var (Qd j))]⟩) (Sum.elim (fun q e σ=>e=.ret/\σ=⟨[(2,.b false)],[]⟩) (fun q e σ=>e=.exit 6/\σ=⟨[(3,.I g)],[]⟩)) b6 rfl ?_ ?_
 ·rintro ⟨f,l⟩ o σ rfl h
  refine Qa i [6,.o (.ln j.Tasks.length),3] rfl (a1_ Qf) ?_
  rcases Qp h with⟨L,h⟩|⟨L,h⟩
  ·obtain⟨a,b7,h⟩:=Qb h
   refine Qa i [.T,9,.o (.row (Qm a)),.A (Qm a),2,.O 9 (.var (Qm a)),7,.o (.ln a.Vars.length),3,.o (.ln a.Ins.length),3,.o (.ln a.Outs.length),3,.o (.ln a.Cancel.length),6] rfl (a8_ L (QE b7) rfl rfl Qf Qf Qf Qf) ?_
   refine AK.meetX (fun σ=>σ=⟨[lk_ 1,(3,.I g),(7,.I (w64 ((w64 ((w64 ((w64 (f+(a.Vars.length:Int)))+(a.Ins.length:Int)))+(a.Outs.length:Int)))+(a.Cancel.length:Int)))),(8,.I l),lk_ 9,(142,.b ((decide (200<(w64 ((w64 ((w64 ((w64 (f+(a.Vars.length:Int)))+(a.Ins.length:Int)))+(a.Outs.length:Int)))+(a.Cancel.length:Int)))))||(decide (100<(a.Name.size:Int)))))],[(1,.var (Qd j)),(9,.var (Qm a))]⟩) ?_ ?_
   ·refine tg_ i [4] ?_
    rcases QD (decide (200<(w64 ((w64 ((w64 ((w64 (f+(a.Vars.length:Int)))+(a.Ins.length:Int)))+(a.Outs.length:Int)))+(a.Cancel.length:Int)))))with p | p
    ·refine Qa i [.S 137 (.b true),6,.S 142 (.b ((decide (200<(w64 ((w64 ((w64 ((w64 (f+(a.Vars.length:Int)))+(a.Ins.length:Int)))+(a.Outs.length:Int)))+(a.Cancel.length:Int)))))||(decide (100<(a.Name.size:Int))))),.K [1,3,7,8,9,142] [1,9]] rfl ⟨(tc_ p),(congrArg V.b (orT p rfl))⟩ ?_
     exact mt_
    refine Qa i [.S 137 (.b false),6,.S 142 (.b ((decide (200<(w64 ((w64 ((w64 ((w64 (f+(a.Vars.length:Int)))+(a.Ins.length:Int)))+(a.Outs.length:Int)))+(a.Cancel.length:Int)))))||(decide (100<(a.Name.size:Int))))),.K [1,3,7,8,9,142] [1,9]] rfl ⟨(tc_ p),(congrArg V.b (orF p rfl))⟩ ?_
    exact mt_
   rintro σ rfl
   refine tg_ i [1] ?_
   refine bq_ i h [.T,9,.K [2] []] rfl (fun M h=>?_) [.F,9,.K [1,3,7,8,9,10] [1,9]] rfl fun M h=>?_
   ·cases h
    exact Q6 rfl (an_ rfl rfl)
   obtain⟨d9,b8,h⟩:=Qb h
   refine AK.loop (body:=(fun st=>QjI a st)) (fun st σ=>σ=⟨[lk_ 1,(3,.I g),(7,.I (w64 ((w64 ((w64 ((w64 (f+(a.Vars.length:Int)))+(a.Ins.length:Int)))+(a.Outs.length:Int)))+(a.Cancel.length:Int)))),(8,.I l),lk_ 9,(10,.I st)],[(1,.var (Qd j)),(9,.var (Qm a))]⟩) (Sum.elim (fun q e σ=>e=.ret/\σ=⟨[(2,.b false)],[]⟩) (fun q e σ=>e=.exit 8/\σ=⟨[lk_ 1,(3,.I g),(7,.I (w64 ((w64 ((w64 ((w64 (f+(a.Vars.length:Int)))+(a.Ins.length:Int)))+(a.Outs.length:Int)))+(a.Cancel.length:Int)))),(8,.I l),lk_ 9],[(1,.var (Qd j)),(9,.var (Qm a))]⟩)) b8 rfl ?_ ?_
   ·rintro e6 o σ rfl h
    refine Qa i [6,.o (.ln a.Vars.length),3] rfl (a1_ Qf) ?_
    rcases Qp h with⟨N,h⟩|⟨N,h⟩
    ·obtain⟨e0,b9,h⟩:=Qb h
     refine Qa i [.T,9,.o (.row (QP e0)),6] rfl (a2_ N (QE b9)) ?_
     refine bq_ i h [.T,8,.K [2] []] rfl (fun P h=>?_) [.F,8,.K [1,3,7,8,9,10] [1,9]] rfl fun P h=>?_
     ·cases h
      exact Q6 rfl (an_ rfl rfl)
     cases h
     exact QR rfl rfl
    refine Qa i [.F,2,.K [1,3,7,8,9] [1,9]] rfl (a1_ N) ?_
    cases h
    exact QT rfl (an_ rfl rfl)
   rcases d9 with(_ | _)
   ·replace h:QrI=some o:=h
    rintro e σ ⟨rfl,rfl⟩
    refine tg_ i [4,.K [2] []] ?_
    cases h
    exact Q6 rfl (an_ rfl rfl)
   replace h:QjN a f l=some o:=h
   rintro e σ ⟨rfl,rfl⟩
   obtain⟨e1,c0,h⟩:=Qb h
   refine Qa i [5,.A (Qn a.Guard),.o (.C1 (.b e1)),10,.K [1,3,7,8,9,11,12] [1,9]] rfl (a2_ rfl (Qn0 _ c0)) ?_
   obtain⟨c1,c2,h⟩:=Qb h
   refine AK.loop (body:=(fun st=>QjJ a st.1 st.2)) (fun st σ=>σ=⟨[lk_ 1,(3,.I g),(7,.I (w64 ((w64 ((w64 ((w64 (f+(a.Vars.length:Int)))+(a.Ins.length:Int)))+(a.Outs.length:Int)))+(a.Cancel.length:Int)))),(8,.I l),lk_ 9,(11,.b st.1),(12,.I st.2)],[(1,.var (Qd j)),(9,.var (Qm a))]⟩) (fun q e σ=>e=.exit 10/\σ=⟨[lk_ 1,(3,.I g),(7,.I (w64 ((w64 ((w64 ((w64 (f+(a.Vars.length:Int)))+(a.Ins.length:Int)))+(a.Outs.length:Int)))+(a.Cancel.length:Int)))),(8,.I l),lk_ 9,(11,.b q)],[(1,.var (Qd j)),(9,.var (Qm a))]⟩) c2 rfl ?_ ?_
   ·rintro ⟨u,e2⟩ o σ rfl h
    refine Qa i [6,.o (.ln a.Ins.length),3] rfl (a1_ Qf) ?_
    rcases Qp h with⟨U,h⟩|⟨U,h⟩
    ·obtain⟨c3,c4,h⟩:=Qb h
     obtain⟨Y,c5,h⟩:=Qb h
     refine Qa i [.T,9,.o (.row (Q5 c3)),1,.A (Qn c3.Expr),.o (.C1 (.b Y)),3] rfl (a4_ U (QE c4) rfl (Qn0 _ c5)) ?_
     refine AK.meetX (fun σ=>σ=⟨[lk_ 1,(3,.I g),(7,.I (w64 ((w64 ((w64 ((w64 (f+(a.Vars.length:Int)))+(a.Ins.length:Int)))+(a.Outs.length:Int)))+(a.Cancel.length:Int)))),(8,.I l),lk_ 9,(11,.b (u&&Y)),(12,.I e2)],[(1,.var (Qd j)),(9,.var (Qm a))]⟩) ?_ ?_
     ·refine tg_ i [3] ?_
      rcases QD u with s | s
      ·refine Qa i [.S 176 (.b true),4,.S 11 (.b (u&&Y)),.K [1,3,7,8,9,11,12] [1,9]] rfl ⟨(tc_ s),(congrArg V.b (Qai s rfl))⟩ ?_
       exact mt_
      refine Qa i [.S 176 (.b false),4,.S 11 (.b (u&&Y)),.K [1,3,7,8,9,11,12] [1,9]] rfl ⟨(tc_ s),(congrArg V.b (QaS s rfl))⟩ ?_
      exact mt_
     rintro σ rfl
     refine tg_ i [7,.K [1,3,7,8,9,11,12] [1,9]] ?_
     cases h
     exact QR rfl rfl
    refine Qa i [.F,2,.K [1,3,7,8,9,11] [1,9]] rfl (a1_ U) ?_
    cases h
    exact QT rfl (an_ rfl rfl)
   replace h:QjM a f l c1=some o:=h
   rintro e σ ⟨rfl,rfl⟩
   refine tg_ i [9,.K [1,3,7,8,9,11,14] [1,9]] ?_
   obtain⟨c6,c7,h⟩:=Qb h
   refine AK.loop (body:=(fun st=>QjK a st.1 st.2)) (fun st σ=>σ=⟨[lk_ 1,(3,.I g),(7,.I (w64 ((w64 ((w64 ((w64 (f+(a.Vars.length:Int)))+(a.Ins.length:Int)))+(a.Outs.length:Int)))+(a.Cancel.length:Int)))),(8,.I l),lk_ 9,(11,.b st.1),(14,.I st.2)],[(1,.var (Qd j)),(9,.var (Qm a))]⟩) (fun q e σ=>e=.exit 12/\σ=⟨[lk_ 1,(3,.I g),(7,.I (w64 ((w64 ((w64 ((w64 (f+(a.Vars.length:Int)))+(a.Ins.length:Int)))+(a.Outs.length:Int)))+(a.Cancel.length:Int)))),(8,.I l),(11,.b q)],[(1,.var (Qd j))]⟩) c7 rfl ?_ ?_
   ·rintro ⟨w,e3⟩ o σ rfl h
    refine Qa i [6,.o (.ln a.Outs.length),3] rfl (a1_ Qf) ?_
    rcases Qp h with⟨W,h⟩|⟨W,h⟩
    ·obtain⟨c8,c9,h⟩:=Qb h
     obtain⟨Z,d0,h⟩:=Qb h
     refine Qa i [.T,9,.o (.row (Q5 c8)),1,.A (Qn c8.Expr),.o (.C1 (.b Z)),3] rfl (a4_ W (QE c9) rfl (Qn0 _ d0)) ?_
     refine AK.meetX (fun σ=>σ=⟨[lk_ 1,(3,.I g),(7,.I (w64 ((w64 ((w64 ((w64 (f+(a.Vars.length:Int)))+(a.Ins.length:Int)))+(a.Outs.length:Int)))+(a.Cancel.length:Int)))),(8,.I l),lk_ 9,(11,.b (w&&Z)),(14,.I e3)],[(1,.var (Qd j)),(9,.var (Qm a))]⟩) ?_ ?_
     ·refine tg_ i [3] ?_
      rcases QD w with t | t
      ·refine Qa i [.S 194 (.b true),4,.S 11 (.b (w&&Z)),.K [1,3,7,8,9,11,14] [1,9]] rfl ⟨(tc_ t),(congrArg V.b (Qai t rfl))⟩ ?_
       exact mt_
      refine Qa i [.S 194 (.b false),4,.S 11 (.b (w&&Z)),.K [1,3,7,8,9,11,14] [1,9]] rfl ⟨(tc_ t),(congrArg V.b (QaS t rfl))⟩ ?_
      exact mt_
     rintro σ rfl
     refine tg_ i [7,.K [1,3,7,8,9,11,14] [1,9]] ?_
     cases h
     exact QR rfl rfl
    refine Qa i [.F,2,.K [1,3,7,8,11] [1]] rfl (a1_ W) ?_
    cases h
    exact QT rfl (an_ rfl rfl)
   replace h:QjL f a l c6=some o:=h
   rintro e σ ⟨rfl,rfl⟩
   refine tg_ i [8] ?_
   refine bq_ i h [.T,8,.K [2] []] rfl (fun X h=>?_) [.F,8,.K [1,3,7,8] [1]] rfl fun X h=>?_
   ·cases h
    exact Q6 rfl (an_ rfl rfl)
   cases h
   exact QR rfl rfl
  refine Qa i [.F,2,.K [3] []] rfl (a1_ L) ?_
  cases h
  exact QT rfl (an_ rfl rfl)
 rcases d8 with(_ | _)
 ·replace h:QrJ=some r:=h
  rintro e σ ⟨rfl,rfl⟩
  refine tg_ i [2] ?_
  cases h
  exact d1_ tt_
 replace h:QrK g=some r:=h
 rintro e σ ⟨rfl,rfl⟩
 refine tg_ i [10] ?_
 cases h
 exact d1_ tt_
def Qlf (c:QMk)(d:Int)(a:Int):Option ((Int×Int)⊕Int):=
 bif ((decide (a<(c.length:Int)))&&(decide (a<100)))then
 (idx c a).bind fun b=>
 some (.inl ((w64 (d+(b.length:Int))),(w64 (a+1))))
 else
 some (.inr d)
def QsP (a:QMk)(b:Int):Option Bool:=
 some ((decide ((a.length:Int)<=70))&&(decide (b<=300)))
def Qom (a:QMk):Option Bool:=
 (Qw (fun st=>Qlf a st.1 st.2) (0,0)).bind (fun q=>QsP a q)
theorem Qze (a){r}(h:Qom a=some r):Qc prog 31 [.sl 1 (a.map Qg)] [] (Gives (.b r) []):=by
 refine wk_ 29 func31 fun C d=>?_
 refine tg_ d [17,.K [0,3,4] []] ?_
 obtain⟨m,j,h⟩:=Qb h
 refine AK.loop (body:=(fun st=>Qlf a st.1 st.2)) (fun st σ=>σ=⟨[(0,.sl 1 (a.map Qg)),(3,.I st.1),(4,.I st.2)],[]⟩) (fun q e σ=>e=.exit 0/\σ=⟨[(0,.sl 1 (a.map Qg)),(3,.I q)],[]⟩) j rfl ?_ ?_
 ·rintro ⟨p,i⟩ o σ rfl h
  refine tg_ d [2] ?_
  refine AK.meetX (fun σ=>σ=⟨[(0,.sl 1 (a.map Qg)),(3,.I p),(4,.I i),(12,.b ((decide (i<(a.length:Int)))&&(decide (i<100))))],[]⟩) ?_ ?_
  ·refine Qa d [3,.o (.ln a.length),2] rfl (a1_ Qf) ?_
   rcases QD (decide (i<(a.length:Int)))with f | f
   ·refine Qa d [.S 9 (.b true),4,.S 12 (.b ((decide (i<(a.length:Int)))&&(decide (i<100)))),.K [0,3,4,12] []] rfl ⟨(tc_ f),(congrArg V.b (Qai f rfl))⟩ ?_
    exact mt_
   refine Qa d [.S 9 (.b false),4,.S 12 (.b ((decide (i<(a.length:Int)))&&(decide (i<100)))),.K [0,3,4,12] []] rfl ⟨(tc_ f),(congrArg V.b (QaS f rfl))⟩ ?_
   exact mt_
  rintro σ rfl
  refine tg_ d [1] ?_
  rcases Qp h with⟨g,h⟩|⟨g,h⟩
  ·obtain⟨k,l,h⟩:=Qb h
   refine Qa d [.T,8,.o (.row (Qg k)),1,.o (.ln k.length),10,.K [0,3,4] []] rfl (a3_ g (QE l) Qf) ?_
   cases h
   exact QR rfl rfl
  refine Qa d [.F,2,.K [0,3] []] rfl (a1_ g) ?_
  cases h
  exact QT rfl (an_ rfl rfl)
 replace h:QsP a m=some r:=h
 rintro e σ ⟨rfl,rfl⟩
 refine tg_ d [3] ?_
 refine AK.meetX (fun σ=>σ=⟨[(2,.b ((decide ((a.length:Int)<=70))&&(decide (m<=300))))],[]⟩) ?_ ?_
 ·refine Qa d [2,.o (.ln a.length),2] rfl (a1_ Qf) ?_
  rcases QD (decide ((a.length:Int)<=70))with c | c
  ·refine Qa d [.S 25 (.b true),5,.S 2 (.b ((decide ((a.length:Int)<=70))&&(decide (m<=300)))),.K [2] []] rfl ⟨(tc_ c),(congrArg V.b (Qai c rfl))⟩ ?_
   exact mt_
  refine Qa d [.S 25 (.b false),5,.S 2 (.b ((decide ((a.length:Int)<=70))&&(decide (m<=300)))),.K [2] []] rfl ⟨(tc_ c),(congrArg V.b (QaS c rfl))⟩ ?_
  exact mt_
 rintro σ rfl
 refine tg_ d [2] ?_
 cases h
 exact d1_ tt_
def Qmg (a:Qq):Option Bool:=
 some ((decide ((a.Places.length:Int)<=64))&&(decide ((a.Tasks.length:Int)<=64)))
theorem Qxc (a){r}(h:Qmg a=some r):Qc prog 58 [.L 617] [(617,.var (Qd a))] (Gives (.b r) [(617,.var (Qd a))]):=by
 refine wk_ 12 func58 fun C d=>?_
 refine tg_ d [6] ?_
 refine AK.meetX (fun σ=>σ=⟨[(1,.b ((decide ((a.Places.length:Int)<=64))&&(decide ((a.Tasks.length:Int)<=64))))],[(617,.var (Qd a))]⟩) ?_ ?_
 ·refine Qa d [3,.o (.ln a.Places.length),2] rfl (a1_ Qf) ?_
  rcases QD (decide ((a.Places.length:Int)<=64))with c | c
  ·refine Qa d [.S 6 (.b true),2,.o (.ln a.Tasks.length),4,.S 1 (.b ((decide ((a.Places.length:Int)<=64))&&(decide ((a.Tasks.length:Int)<=64)))),.K [1] [617]] rfl ⟨⟨(tc_ c),Qf⟩,(congrArg V.b (Qai c rfl))⟩ ?_
   exact mt_
  refine Qa d [.S 6 (.b false),7,.S 1 (.b ((decide ((a.Places.length:Int)<=64))&&(decide ((a.Tasks.length:Int)<=64)))),.K [1] [617]] rfl ⟨(tc_ c),(congrArg V.b (QaS c rfl))⟩ ?_
  exact mt_
 rintro σ rfl
 refine tg_ d [2] ?_
 cases h
 exact d1_ r1_
def QaT (b:(List QZ))(a:Int):Option Bool:=
 some ((decide (0<=a))&&(decide (a<(b.length:Int))))
theorem Qcl (d c){r}(h:QaT d c=some r):Qc prog 60 [.sl 3 (d.map QC),.I c] [] (Gives (.b r) []):=by
 refine wk_ 13 func60 fun C e=>?_
 refine tg_ e [6] ?_
 refine AK.meetX (fun σ=>σ=⟨[(4,.b ((decide (0<=c))&&(decide (c<(d.length:Int)))))],[]⟩) ?_ ?_
 ·refine tg_ e [4] ?_
  rcases QD (decide (0<=c))with a | a
  ·refine Qa e [.S 7 (.b true),2,.o (.ln d.length),4,.S 4 (.b ((decide (0<=c))&&(decide (c<(d.length:Int))))),.K [4] []] rfl ⟨⟨(tc_ a),Qf⟩,(congrArg V.b (Qai a rfl))⟩ ?_
   exact mt_
  refine Qa e [.S 7 (.b false),7,.S 4 (.b ((decide (0<=c))&&(decide (c<(d.length:Int))))),.K [4] []] rfl ⟨(tc_ a),(congrArg V.b (QaS a rfl))⟩ ?_
  exact mt_
 rintro σ rfl
 refine tg_ e [2] ?_
 cases h
 exact d1_ tt_
def Qqp (a:Qq):Option Bool:=
 (QaT a.Places a.From).bind fun b=>
 bif b then
 (QaT a.Places a.To).bind fun c=>
 some c
 else
 some false
def Qiy (a:Bool):Option Bool:=
 some a
def Qmh (a:Qq):Option Bool:=
 (Qqp a).bind (fun b=>Qiy b)
theorem Qxd (f){r}(h:Qmh f=some r):Qc prog 59 [.L 617] [(617,.var (Qd f))] (Gives (.b r) [(617,.var (Qd f))]):=by
 refine wk_ 14 func59 fun C e=>?_
 refine tg_ e [6] ?_
 obtain⟨g,i,h⟩:=Qb h
 replace h:Qiy g=some r:=h
 refine AK.meetX (fun σ=>σ=⟨[(1,.b g)],[(617,.var (Qd f))]⟩) ?_ ?_
 ·replace h:=i
  obtain⟨l,j,h⟩:=Qb h
  refine Qa e [5,.o (.C2 (.b l)),1] rfl (a1_ (Qcl _ _ j)) ?_
  rcases Qp h with⟨a,h⟩|⟨a,h⟩
  ·obtain⟨m,k,h⟩:=Qb h
   refine Qa e [.S 7 (.b true),4,.o (.C2 (.b m)),3,.K [1] [617]] rfl ⟨(tc_ a),(Qcl _ _ k)⟩ ?_
   cases h
   exact mt_
  refine Qa e [.S 7 (.b false),8,.K [1] [617]] rfl (tc_ a) ?_
  cases h
  exact mt_
 rintro σ rfl
 replace h:Qiy g=some r:=h
 refine tg_ e [2] ?_
 cases h
 exact d1_ r1_
def Qmi (a:Qq):Option Bool:=
 some (a.From != a.To)
theorem Qxe (a){r}(h:Qmi a=some r):Qc prog 61 [.L 617] [(617,.var (Qd a))] (Gives (.b r) [(617,.var (Qd a))]):=by
 refine wk_ 7 func61 fun C c=>?_
 refine tg_ c [16] ?_
 cases h
 exact d1_ r1_
def Qmj (a:Qq)(c:Int)(d:Int)(e:Int):Option Int:=
 (Qmg a).bind fun f=>
 bif (!f)then
 some c
 else
 (Qmh a).bind fun g=>
 bif (!g)then
 some d
 else
 (Qmi a).bind fun b=>
 bif (!b)then
 some e
 else
 some 0
theorem Qxf (i l m p){r}(h:Qmj i l m p=some r):Qc prog 57 [.own 617 3] [(617,.var [.clo (.func 58) [] [.L 618],.I l,.clo (.func 59) [] [.L 618],.I m,.clo (.func 61) [] [.L 618],.I p]),(618,.var (Qd i))] (Gives (.I r) [(617,.var [.clo (.func 58) [] [.L 618],.I l,.clo (.func 59) [] [.L 618],.I m,.clo (.func 61) [] [.L 618],.I p]),(618,.var (Qd i))]):=by
 refine wk_ 18 func57 fun C a=>?_
 refine tg_ a [14] ?_
 refine AK.loopN 4 (AK.rnd ?_)
 obtain⟨u,q,h⟩:=Qb h
 refine Qa a [2,.v .no [] (.b true),10,.o (.any (.L 617) none),3,.O 4 (.var [.clo (.func 58) [] [.L 618],.I l]),6,.cm (.clo) [(617,618)] [(618,617)] [] [.d] [(617,.var (Qd i))] (.b u),3] rfl (a4_ rfl (fun σ f j _=>Stp.idxV rfl rfl (QS a.n rfl) (f _ _ rfl) (f _ _ rfl) (Qr.es rfl) (j _ _ rfl) (by decide)) rfl (Qxc _ q)) ?_
 refine bg_ h (fun g h=>Qa a [.T,13,.K [2] [617,618]] rfl (a1_ g) ?_) fun g h=>Qa a [.F,4,.v .no [] (.I 1),2] rfl (a2_ g rfl) ?_
 ·cases h
  exact d1_ r2_
 refine AK.met (AK.rnd ?_)
 obtain⟨w,s,h⟩:=Qb h
 refine Qa a [2,.v .no [] (.b true),10,.o (.any (.loc 617 0 2) none),1,.kill 4,2,.O 4 (.var [.clo (.func 59) [] [.L 618],.I m]),6,.cm (.clo) [(617,618)] [(618,617)] [] [.d] [(617,.var (Qd i))] (.b w),3] rfl (a4_ rfl (fun σ f j _=>Stp.idxV rfl rfl (QS a.n rfl) (f _ _ rfl) (f _ _ rfl) (Qr.es rfl) (j _ _ rfl) (by decide)) rfl (Qxd _ s)) ?_
 refine bg_ h (fun c h=>Qa a [.T,13,.K [2] [617,618]] rfl (a1_ c) ?_) fun c h=>Qa a [.F,4,.v .no [] (.I 2),2] rfl (a2_ c rfl) ?_
 ·cases h
  exact d1_ r2_
 refine AK.met (AK.rnd ?_)
 obtain⟨t,k,h⟩:=Qb h
 refine Qa a [2,.v .no [] (.b true),10,.o (.any (.loc 617 0 4) none),1,.kill 4,2,.O 4 (.var [.clo (.func 61) [] [.L 618],.I p]),6,.cm (.clo) [(617,618)] [(618,617)] [] [.d] [(617,.var (Qd i))] (.b t),3] rfl (a4_ rfl (fun σ f j _=>Stp.idxV rfl rfl (QS a.n rfl) (f _ _ rfl) (f _ _ rfl) (Qr.es rfl) (j _ _ rfl) (by decide)) rfl (Qxe _ k)) ?_
 refine bg_ h (fun e h=>Qa a [.T,13,.K [2] [617,618]] rfl (a1_ e) ?_) fun e h=>Qa a [.F,4,.v .no [] (.I 3),2] rfl (a2_ e rfl) ?_
 ·cases h
  exact d1_ r2_
 refine AK.met (AK.rnd ?_)
 refine Qa a [2,.v .no [] (.b false),15] rfl (a1_ rfl) ?_
 cases h
 exact d1_ r2_
def Qlg (a:(List QF)):Option Bool:=
 (QeP a).bind fun b=>
 some b.2
theorem Qwl (e){r}(h:Qlg e=some r):Qc prog 107 [.sl 7 (e.map Qs)] [] (Gives (.b r) []):=by
 refine wk_ 11 func107 fun C g=>?_
 obtain⟨f,a,h⟩:=Qb h
 refine Qa g [8,.o (.C1 (.tup [.sl 1 (f.1.map Qe),.b f.2])),14] rfl (a1_ (Qo4 _ a)) ?_
 cases h
 exact d1_ tt_
def Qgq (b:Qq)(a:Int):Option Bool:=
 (chk (decide (0<=(w64 (a+1)))&&decide (0<=(w64 (a+1)).toNat)&&decide ((w64 (a+1)).toNat<=b.Colours.length))).bind fun _=>
 (Qlg ((b.Colours.drop 0).take ((w64 (a+1)).toNat-0))).bind fun c=>
 some c
theorem Qsq (e f){r}(h:Qgq e f=some r):Qc prog 106 [.L 617,.L 618] [(617,.var (Qd e)),(618,.var (Qe f))] (Gives (.b r) [(617,.var (Qd e)),(618,.var (Qe f))]):=by
 refine wk_ 9 func106 fun C i=>?_
 obtain⟨a,h⟩:=Qao h
 obtain⟨k,g,h⟩:=Qb h
 refine Qa i [11,.o (.any (.sl 7 (((e.Colours.drop 0).take ((w64 (f+1)).toNat-0)).map Qs)) none),.o (.C1 (.b k)),4] rfl (a2_ (fun σ j l _=>Stp.sliceD rfl rfl (QS i.n rfl) (j _ _ rfl) (Qr.es rfl) Bnd.no (Bnd.val (j _ _ rfl) (Qak (Qqb a)) rfl) (Qak (Qqc a)) (QcB (Qak (QsB a)) (Nat.le_of_eq Qf.symm)) QtL) (Qwl _ g)) ?_
 cases h
 exact d1_ r2_
def Qqq (x:ByteArray):Option (List ByteArray):=(chk (QAG x)).bind fun _=>some (QgK x)
theorem QuA (x){r}(h:Qqq x=some r):Qc prog 238 [.s x] [] (Gives (.own 600 r.length) [(600,.arr 1 (r.map QcC))]):=by
 obtain⟨_,a,h⟩:=Qb h
 cases h
 exact QzW QC0 (by kernel_rfl) (by kernel_rfl) x (QBK a)
def Qi1  : Option (List ByteArray):=
 (Qqq (⟨#[99,111,108,111,117,114,32,112,108,97,99,101,32,116,97,115,107,32,118,97,114,32,119,104,101,110,32,106,111,105,110,32,115,112,108,105,116,32,105,110,32,111,117,116,32,99,97,110,99,101,108,32,97,102,116,101,114,32,109,97,110,121,32,102,114,111,109,32,116,111,32,105,110,116,32,101,110,117,109,32,112,97,105,114,32,97,110,100,32,120,111,114,32,111,114,32,105,102]⟩:ByteArray)).bind fun a=>
 some a
theorem Qxg  {r:(List ByteArray)}(h:Qi1  = some r):Qc prog 206 [] [] (Gives (.own 600 r.length) [(600,.arr 1 (r.map QcC))]):=by
 refine wk_ 2 func206 fun C c=>?_
 obtain⟨b,a,h⟩:=Qb h
 refine Qa c [7,.o (.co false [.d] 1 (b.map QcC) b.length),4,.K [0] [1],.ren 1 600] rfl (a1_ ⟨(QuA _ a),Qf,.inl rfl⟩) ?_
 cases h
 exact d1_ r1_
def Qcn (b:(List ByteArray))(c:ByteArray)(a:Int):Option (Int⊕(Int⊕Unit)):=
 bif (decide (a<(b.length:Int)))then
 (idx b a).bind fun d=>
 bif (Qb6 c d)then
 some (.inr (.inl a))
 else
 some (.inl (w64 (a+1)))
 else
 some (.inr (.inr ()))
def Qco (a:Int):Option Int:=
 some a
def Qcp : Option Int:=
 some (-1)
def Qdc (a:(List ByteArray))(b:ByteArray):Option Int:=
 (Qw (fun st=>Qcn a b st) 0).bind (Sum.elim (fun q=>Qco q) (fun q=>Qcp))
theorem QmX (d g){r}(h:Qdc d g=some r):Qc prog 237 [.sl 1 (d.map QcC),.s g] [] (Gives (.I r) []):=by
 refine wk_ 19 func237 fun C b=>?_
 refine Qa b [9,.o (.ln d.length),4,.K [0,1,7,8] []] rfl (a1_ Qf) ?_
 obtain⟨i,f,h⟩:=Qb h
 refine AK.loop (body:=(fun st=>Qcn d g st)) (fun st σ=>σ=⟨[(0,.sl 1 (d.map QcC)),(1,.s g),(7,.I (d.length:Int)),(8,.I st)],[]⟩) (Sum.elim (fun q e σ=>e=.ret/\σ=⟨[(4,.I q)],[]⟩) (fun q e σ=>e=.exit 0/\σ=⟨[],[]⟩)) f rfl ?_ ?_
 ·rintro m o σ rfl h
  refine tg_ b [6] ?_
  rcases Qp h with⟨c,h⟩|⟨c,h⟩
  ·obtain⟨k,j,h⟩:=Qb h
   refine Qa b [.T,15,.o (.row (QcC k)),4] rfl (a2_ c (QE j)) ?_
   refine bq_ b h [.T,9,.K [4] []] rfl (fun a h=>?_) [.F,7,.K [0,1,7,8] []] rfl fun a h=>?_
   ·cases h
    exact Q6 rfl (an_ rfl rfl)
   cases h
   exact QR rfl rfl
  refine Qa b [.F,2,.K [] []] rfl (a1_ c) ?_
  cases h
  exact QT rfl (an_ rfl rfl)
 rcases i with(l | _)
 ·replace h:Qco l=some r:=h
  rintro e σ ⟨rfl,rfl⟩
  refine tg_ b [2] ?_
  cases h
  exact d1_ tt_
 replace h:Qcp=some r:=h
 rintro e σ ⟨rfl,rfl⟩
 refine tg_ b [8] ?_
 cases h
 exact d1_ tt_
def Qcq (a:(List ByteArray))(b:ByteArray):Option Bool:=
 (Qdc a b).bind fun c=>
 some (decide (0<=c))
theorem QlL (e f){r}(h:Qcq e f=some r):Qc prog 205 [.sl 1 (e.map QcC),.s f] [] (Gives (.b r) []):=by
 refine wk_ 9 func205 fun C g=>?_
 obtain⟨i,a,h⟩:=Qb h
 refine Qa g [9,.o (.C2 (.I i)),5] rfl (a1_ (QmX _ _ a)) ?_
 cases h
 exact d1_ tt_
def Qnt (a:ByteArray):Option Bool:=
 (Qi1).bind fun b=>
 (Qcq b a).bind fun c=>
 some c
theorem Qyh (g){r}(h:Qnt g=some r):Qc prog 165 [.s g] [] (Gives (.b r) []):=by
 refine wk_ 6 func165 fun C i=>?_
 obtain⟨a,e,h⟩:=Qb h
 obtain⟨j,f,h⟩:=Qb h
 refine Qa i [7,.o (.co false [] 1 (a.map QcC) a.length),1,.o (.c true [.o (a.map QcC),.d] (.b j)),4] rfl (a2_ ⟨(Qxg  e),Qf,.inl rfl⟩ ⟨(Qv7 rfl),(QlL _ _ f)⟩) ?_
 cases h
 exact d1_ tt_
def QrL (a:ByteArray):Option Bool:=
 (QdA a).bind fun b=>
 bif b then
 (Qnt a).bind fun c=>
 some (!c)
 else
 some false
def QjR (a:Bool):Option Bool:=
 some a
def Qfa (a:ByteArray):Option Bool:=
 (QrL a).bind (fun b=>QjR b)
theorem Qg0 (k){r}(h:Qfa k=some r):Qc prog 103 [.s k] [] (Gives (.b r) []):=by
 refine wk_ 10 func103 fun C e=>?_
 refine tg_ e [6] ?_
 obtain⟨f,g,h⟩:=Qb h
 replace h:QjR f=some r:=h
 refine AK.meetX (fun σ=>σ=⟨[(2,.b f)],[]⟩) ?_ ?_
 ·replace h:=g
  obtain⟨l,i,h⟩:=Qb h
  refine Qa e [2,.o (.C1 (.b l)),1] rfl (a1_ (QmD _ i)) ?_
  rcases Qp h with⟨a,h⟩|⟨a,h⟩
  ·obtain⟨m,j,h⟩:=Qb h
   refine Qa e [.S 5 (.b true),1,.o (.C1 (.b m)),4,.K [2] []] rfl ⟨(tc_ a),(Qyh _ j)⟩ ?_
   cases h
   exact mt_
  refine Qa e [.S 5 (.b false),6,.K [2] []] rfl (tc_ a) ?_
  cases h
  exact mt_
 rintro σ rfl
 replace h:QjR f=some r:=h
 refine tg_ e [2] ?_
 cases h
 exact d1_ tt_
def Qfh (a:ByteArray):Option Bool:=
 (Qfa a).bind fun b=>
 some (!b)
theorem Qqr (e){r}(h:Qfh e=some r):Qc prog 105 [.s e] [] (Gives (.b r) []):=by
 refine wk_ 6 func105 fun C f=>?_
 obtain⟨g,a,h⟩:=Qb h
 refine Qa f [8,.o (.C1 (.b g)),5] rfl (a1_ (Qg0 _ a)) ?_
 cases h
 exact d1_ tt_
def QbI (b:(List ByteArray))(a:Int):Option (Int⊕(Int⊕Unit)):=
 bif (decide (a<(b.length:Int)))then
 (idx b a).bind fun c=>
 (Qfh c).bind fun d=>
 bif d then
 some (.inr (.inl a))
 else
 some (.inl (w64 (a+1)))
 else
 some (.inr (.inr ()))
def QbJ (a:Int):Option Int:=
 some a
def QbK : Option Int:=
 some (-1)
def Qcg (a:(List ByteArray)):Option Int:=
 (Qw (fun st=>QbI a st) 0).bind (Sum.elim (fun q=>QbJ q) (fun q=>QbK))
theorem Qlh (i){r}(h:Qcg i=some r):Qc prog 166 [.sl 1 (i.map QcC),.clo (.func 105) [] []] [] (Gives (.I r) []):=by
 refine wk_ 19 func166 fun C f=>?_
 refine Qa f [9,.o (.ln i.length),4,.K [0,1,7,8] []] rfl (a1_ Qf) ?_
 obtain⟨k,j,h⟩:=Qb h
 refine AK.loop (body:=(fun st=>QbI i st)) (fun st σ=>σ=⟨[(0,.sl 1 (i.map QcC)),(1,.clo (.func 105) [] []),(7,.I (i.length:Int)),(8,.I st)],[]⟩) (Sum.elim (fun q e σ=>e=.ret/\σ=⟨[(4,.I q)],[]⟩) (fun q e σ=>e=.exit 0/\σ=⟨[],[]⟩)) j rfl ?_ ?_
 ·rintro u o σ rfl h
  refine tg_ f [6] ?_
  rcases Qp h with⟨g,h⟩|⟨g,h⟩
  ·obtain⟨p,l,h⟩:=Qb h
   obtain⟨s,m,h⟩:=Qb h
   refine Qa f [.T,15,.o (.row (QcC p)),1,.o (.C1 (.b s)),2] rfl (a3_ g (QE l) (Qqr _ m)) ?_
   refine bq_ f h [.T,9,.K [4] []] rfl (fun a h=>?_) [.F,7,.K [0,1,7,8] []] rfl fun a h=>?_
   ·cases h
    exact Q6 rfl (an_ rfl rfl)
   cases h
   exact QR rfl rfl
  refine Qa f [.F,2,.K [] []] rfl (a1_ g) ?_
  cases h
  exact QT rfl (an_ rfl rfl)
 rcases k with(t | _)
 ·replace h:QbJ t=some r:=h
  rintro e σ ⟨rfl,rfl⟩
  refine tg_ f [2] ?_
  cases h
  exact d1_ tt_
 replace h:QbK=some r:=h
 rintro e σ ⟨rfl,rfl⟩
 refine tg_ f [8] ?_
 cases h
 exact d1_ tt_
def QbL (a:(List ByteArray)):Option Bool:=
 (Qcg a).bind fun b=>
 some (decide (0<=b))
theorem Qjq (c){r}(h:QbL c=some r):Qc prog 104 [.sl 1 (c.map QcC),.clo (.func 105) [] []] [] (Gives (.b r) []):=by
 refine wk_ 9 func104 fun C e=>?_
 obtain⟨f,a,h⟩:=Qb h
 refine Qa e [9,.cm (.fn) [] [] [] [.d,.d] [] (.I f),5] rfl (a1_ (Qlh _ a)) ?_
 cases h
 exact d1_ tt_
def Ql4 (a:QF):Option Bool:=
 (Qfa a.Name).bind fun b=>
 bif b then
 bif (a.Kind != 2)then
 some true
 else
 (QbL a.Names).bind fun c=>
 some (!c)
 else
 some false
def Qe2 (a:Bool):Option Bool:=
 some a
def Qgr (a:QF):Option Bool:=
 (Ql4 a).bind (fun b=>Qe2 b)
theorem Qsr (g){r}(h:Qgr g=some r):Qc prog 102 [.L 617] [(617,.var (Qs g))] (Gives (.b r) [(617,.var (Qs g))]):=by
 refine wk_ 16 func102 fun C a=>?_
 refine tg_ a [6] ?_
 obtain⟨i,j,h⟩:=Qb h
 replace h:Qe2 i=some r:=h
 refine AK.meetX (fun σ=>σ=⟨[(1,.b i)],[(617,.var (Qs g))]⟩) ?_ ?_
 ·replace h:=j
  obtain⟨m,k,h⟩:=Qb h
  refine Qa a [3,.o (.C1 (.b m)),1] rfl (a1_ (Qg0 _ k)) ?_
  refine bg_ h (fun e h=>Qa a [.S 5 (.b true),4] rfl (tc_ e) ?_) fun e h=>Qa a [.S 5 (.b false),12,.K [1] [617]] rfl (tc_ e) ?_
  ·rcases Qp h with⟨f,h⟩|⟨f,h⟩
   ·refine Qa a [.S 9 (.b true),8,.K [1] [617]] rfl (tc_ f) ?_
    cases h
    exact mt_
   obtain⟨p,l,h⟩:=Qb h
   refine Qa a [.S 9 (.b false),2,.cm (.fn) [] [] [] [.d,.d] [] (.b p),5,.K [1] [617]] rfl ⟨(tc_ f),(Qjq _ l)⟩ ?_
   cases h
   exact mt_
  cases h
  exact mt_
 rintro σ rfl
 replace h:Qe2 i=some r:=h
 refine tg_ a [2] ?_
 cases h
 exact d1_ r1_
def Qiz (b:Qq)(c:Int)(d:Int)(e:QF)(f:Int):Option Int:=
 (Qgq b c).bind fun g=>
 bif (!g)then
 some d
 else
 (Qgr e).bind fun a=>
 bif (!a)then
 some f
 else
 some 0
theorem QuB (i j k l m){r}(h:Qiz i j k l m=some r):Qc prog 57 [.own 617 2] [(617,.var [.clo (.func 106) [] [.L 618,.L 619],.I k,.clo (.func 102) [] [.L 620],.I m]),(618,.var (Qd i)),(619,.var (Qe j)),(620,.var (Qs l))] (Gives (.I r) [(617,.var [.clo (.func 106) [] [.L 618,.L 619],.I k,.clo (.func 102) [] [.L 620],.I m]),(618,.var (Qd i)),(619,.var (Qe j)),(620,.var (Qs l))]):=by
 refine wk_ 18 func57 fun C c=>?_
 refine tg_ c [14] ?_
 refine AK.loopN 3 (AK.rnd ?_)
 obtain⟨t,p,h⟩:=Qb h
 refine Qa c [2,.v .no [] (.b true),10,.o (.any (.L 617) none),3,.O 4 (.var [.clo (.func 106) [] [.L 618,.L 619],.I k]),6,.cm (.clo) [(617,618),(618,619)] [(618,617),(619,618)] [] [.d,.d] [(617,.var (Qd i)),(618,.var (Qe j))] (.b t),3] rfl (a4_ rfl (fun σ f q _=>Stp.idxV rfl rfl (QS c.n rfl) (f _ _ rfl) (f _ _ rfl) (Qr.es rfl) (q _ _ rfl) (by decide)) rfl (Qsq _ _ p)) ?_
 refine bg_ h (fun e h=>Qa c [.T,13,.K [2] [617,618,619,620]] rfl (a1_ e) ?_) fun e h=>Qa c [.F,4,.v .no [] (.I 1),2] rfl (a2_ e rfl) ?_
 ·cases h
  exact d1_ r4_
 refine AK.met (AK.rnd ?_)
 obtain⟨s,g,h⟩:=Qb h
 refine Qa c [2,.v .no [] (.b true),10,.o (.any (.loc 617 0 2) none),1,.kill 4,2,.O 4 (.var [.clo (.func 102) [] [.L 620],.I m]),6,.cm (.clo) [(617,620)] [(620,617)] [] [.d] [(617,.var (Qs l))] (.b s),3] rfl (a4_ rfl (fun σ f q _=>Stp.idxV rfl rfl (QS c.n rfl) (f _ _ rfl) (f _ _ rfl) (Qr.es rfl) (q _ _ rfl) (by decide)) rfl (Qsr _ g)) ?_
 refine bg_ h (fun a h=>Qa c [.T,13,.K [2] [617,618,619,620]] rfl (a1_ a) ?_) fun a h=>Qa c [.F,4,.v .no [] (.I 2),2] rfl (a2_ a rfl) ?_
 ·cases h
  exact d1_ r4_
 refine AK.met (AK.rnd ?_)
 refine Qa c [2,.v .no [] (.b false),15] rfl (a1_ rfl) ?_
 cases h
 exact d1_ r4_
def QhC (a:Int)(b:QF)(c:Qq):Option Int:=
 (Qiz c a 8 b 8).bind fun d=>
 some d
theorem QtW (b c a){r}(h:QhC b c a=some r):Qc prog 101 [.I b,.agg (Qs c),.L 617] [(617,.var (Qd a))] (Gives (.I r) [(617,.var (Qd a))]):=by
 refine wk_ 16 func101 fun C f=>?_
 obtain⟨g,e,h⟩:=Qb h
 refine Qa f [22,.A [.clo (.func 106) [] [.L 617,.L 3],.I 8],1,.A [.clo (.func 102) [] [.L 4],.I 8],.o (.any (.own 14 2) (some (.var [.clo (.func 106) [] [.L 617,.L 3],.I 8,.clo (.func 102) [] [.L 4],.I 8]))),.cm (.fn) [(617,14),(618,617),(619,3),(620,4)] [(14,617),(617,618),(3,619),(4,620)] [] [.d] [(617,.var [.clo (.func 106) [] [.L 618,.L 619],.I 8,.clo (.func 102) [] [.L 620],.I 8]),(618,.var (Qd a)),(619,.var (Qe b)),(620,.var (Qs c))] (.I g),4] rfl (a4_ rfl rfl (fun σ i j hf=>Stp.buildAny rfl rfl (QS f.n rfl) (Qr.es rfl) Qoy rfl (by decide) (by decide) (Qf2 i rfl) rfl rfl (hf rfl)) (QuB _ _ _ _ _ e)) ?_
 cases h
 exact d1_ r1_
def QdE (d:(List QF))(e:Qq)(a:Int):Option (Int⊕((Int×Int)⊕Unit)):=
 bif (decide (a<(d.length:Int)))then
 (idx d a).bind fun c=>
 (QhC a c e).bind fun b=>
 bif (b != 0)then
 some (.inr (.inl (a,b)))
 else
 some (.inl (w64 (a+1)))
 else
 some (.inr (.inr ()))
def QdF (b:Int)(a:Int):Option (Int×Int):=
 some (b,a)
def QdG : Option (Int×Int):=
 some (0,0)
def QeE (a:(List QF))(b:Qq):Option (Int×Int):=
 (Qw (fun st=>QdE a b st) 0).bind (Sum.elim (fun q=>QdF q.1 q.2) (fun q=>QdG))
theorem QoW (i f){r}(h:QeE i f=some r):Qc prog 100 [.sl 7 (i.map Qs),.clo (.func 101) [] [.L 617]] [(617,.var (Qd f))] (Gives (.tup [.I r.1,.I r.2]) [(617,.var (Qd f))]):=by
 refine wk_ 25 func100 fun C g=>?_
 refine Qa g [10,.o (.ln i.length),4,.K [1,9,10,11] [617]] rfl (a1_ Qf) ?_
 obtain⟨m,j,h⟩:=Qb h
 refine AK.loop (body:=(fun st=>QdE i f st)) (fun st σ=>σ=⟨[(1,.clo (.func 101) [] [.L 617]),(9,.sl 7 (i.map Qs)),(10,.I (i.length:Int)),(11,.I st)],[(617,.var (Qd f))]⟩) (Sum.elim (fun q e σ=>e=.ret/\σ=⟨[(4,.I q.1),(5,.I q.2)],[(617,.var (Qd f))]⟩) (fun q e σ=>e=.exit 0/\σ=⟨[],[(617,.var (Qd f))]⟩)) j rfl ?_ ?_
 ·rintro u o σ rfl h
  refine tg_ g [6] ?_
  rcases Qp h with⟨a,h⟩|⟨a,h⟩
  ·obtain⟨c,k,h⟩:=Qb h
   obtain⟨p,l,h⟩:=Qb h
   refine Qa g [.T,7,.o (.row (Qs c)),.A (Qs c),3,.O 7 (.var (Qs c)),6,.A (Qs c),.cm (.clo) [(617,617)] [(617,617)] [] [.d,.d,.d] [(617,.var (Qd f))] (.I p),9] rfl (a6_ a (QE k) rfl rfl rfl (QtW _ _ _ l)) ?_
   refine bq_ g h [.T,11,.K [4,5] [617]] rfl (fun b h=>?_) [.F,7,.K [1,9,10,11] [617]] rfl fun b h=>?_
   ·cases h
    exact Q6 rfl (an_ rfl rfl)
   cases h
   exact QR rfl rfl
  refine Qa g [.F,2,.K [] [617]] rfl (a1_ a) ?_
  cases h
  exact QT rfl (an_ rfl rfl)
 rcases m with(⟨t,s⟩|_)
 ·replace h:QdF t s=some r:=h
  rintro e σ ⟨rfl,rfl⟩
  refine tg_ g [2] ?_
  cases h
  exact d2_ r1_
 replace h:QdG=some r:=h
 rintro e σ ⟨rfl,rfl⟩
 refine tg_ g [9] ?_
 cases h
 exact d2_ r1_
def Qg1 (a:Qq):Option (Int×Int):=
 (QeE a.Colours a).bind fun b=>
 some (b.1,b.2)
theorem QoC (a){r}(h:Qg1 a=some r):Qc prog 62 [.agg (Qd a)] [] (Gives (.tup [.I r.1,.I r.2]) []):=by
 refine wk_ 10 func62 fun C e=>?_
 obtain⟨c,b,h⟩:=Qb h
 refine Qa e [12,.cm (.fn) [(617,1)] [(1,617)] [] [.d,.d] [(617,.var (Qd a))] (.tup [.I c.1,.I c.2]),7] rfl (a1_ (QoW _ _ b)) ?_
 cases h
 exact d2_ tt_
def QjS (a:QZ):Option Bool:=
 (Qfa a.Name).bind fun b=>
 some b
theorem Qvo (a){r}(h:QjS a=some r):Qc prog 109 [.L 617] [(617,.var (QC a))] (Gives (.b r) [(617,.var (QC a))]):=by
 refine wk_ 5 func109 fun C f=>?_
 obtain⟨g,e,h⟩:=Qb h
 refine Qa f [9,.o (.C1 (.b g)),4] rfl (a1_ (Qg0 _ e)) ?_
 cases h
 exact d1_ r1_
def QjT (a:QZ)(b:QZ):Option Bool:=
 some (Qb6 a.Name b.Name)
theorem Qvp (c a){r}(h:QjT c a=some r):Qc prog 108 [.agg (QC c),.L 617] [(617,.var (QC a))] (Gives (.b r) [(617,.var (QC a))]):=by
 refine wk_ 9 func108 fun C d=>?_
 refine tg_ d [17] ?_
 cases h
 exact d1_ r1_
def QaU (c:(List QZ))(d:QZ)(a:Int):Option (Int⊕(Int⊕Unit)):=
 bif (decide (a<(c.length:Int)))then
 (idx c a).bind fun e=>
 (QjT e d).bind fun b=>
 bif b then
 some (.inr (.inl a))
 else
 some (.inl (w64 (a+1)))
 else
 some (.inr (.inr ()))
def QaV (a:Int):Option Int:=
 some a
def QaW : Option Int:=
 some (-1)
def Qbh (a:(List QZ))(b:QZ):Option Int:=
 (Qw (fun st=>QaU a b st) 0).bind (Sum.elim (fun q=>QaV q) (fun q=>QaW))
theorem Qig (i c){r}(h:Qbh i c=some r):Qc prog 167 [.sl 3 (i.map QC),.clo (.func 108) [] [.L 617]] [(617,.var (QC c))] (Gives (.I r) [(617,.var (QC c))]):=by
 refine wk_ 19 func167 fun C f=>?_
 refine Qa f [9,.o (.ln i.length),4,.K [0,1,7,8] [617]] rfl (a1_ Qf) ?_
 obtain⟨l,j,h⟩:=Qb h
 refine AK.loop (body:=(fun st=>QaU i c st)) (fun st σ=>σ=⟨[(0,.sl 3 (i.map QC)),(1,.clo (.func 108) [] [.L 617]),(7,.I (i.length:Int)),(8,.I st)],[(617,.var (QC c))]⟩) (Sum.elim (fun q e σ=>e=.ret/\σ=⟨[(4,.I q)],[(617,.var (QC c))]⟩) (fun q e σ=>e=.exit 0/\σ=⟨[],[(617,.var (QC c))]⟩)) j rfl ?_ ?_
 ·rintro u o σ rfl h
  refine tg_ f [6] ?_
  rcases Qp h with⟨g,h⟩|⟨g,h⟩
  ·obtain⟨s,m,h⟩:=Qb h
   obtain⟨p,k,h⟩:=Qb h
   refine Qa f [.T,15,.o (.row (QC s)),.A (QC s),.cm (.clo) [(617,617)] [(617,617)] [] [.d,.d] [(617,.var (QC c))] (.b p),2] rfl (a4_ g (QE m) rfl (Qvp _ _ k)) ?_
   refine bq_ f h [.T,9,.K [4] [617]] rfl (fun a h=>?_) [.F,7,.K [0,1,7,8] [617]] rfl fun a h=>?_
   ·cases h
    exact Q6 rfl (an_ rfl rfl)
   cases h
   exact QR rfl rfl
  refine Qa f [.F,2,.K [] [617]] rfl (a1_ g) ?_
  cases h
  exact QT rfl (an_ rfl rfl)
 rcases l with(t | _)
 ·replace h:QaV t=some r:=h
  rintro e σ ⟨rfl,rfl⟩
  refine tg_ f [2] ?_
  cases h
  exact d1_ r1_
 replace h:QaW=some r:=h
 rintro e σ ⟨rfl,rfl⟩
 refine tg_ f [8] ?_
 cases h
 exact d1_ r1_
def QaX (a:(List QZ))(b:QZ):Option Bool:=
 (Qbh a b).bind fun c=>
 some (decide (0<=c))
theorem Qhm (e a){r}(h:QaX e a=some r):Qc prog 111 [.sl 3 (e.map QC),.clo (.func 108) [] [.L 617]] [(617,.var (QC a))] (Gives (.b r) [(617,.var (QC a))]):=by
 refine wk_ 9 func111 fun C f=>?_
 obtain⟨g,c,h⟩:=Qb h
 refine Qa f [9,.cm (.fn) [(617,617)] [(617,617)] [] [.d,.d] [(617,.var (QC a))] (.I g),5] rfl (a1_ (Qig _ _ c)) ?_
 cases h
 exact d1_ r1_
def QjU (b:Qq)(a:Int)(c:QZ):Option Bool:=
 (chk (decide (0<=a)&&decide (0<=a.toNat)&&decide (a.toNat<=b.Places.length))).bind fun _=>
 (QaX ((b.Places.drop 0).take (a.toNat-0)) c).bind fun d=>
 some (!d)
theorem Qvq (f g i){r}(h:QjU f g i=some r):Qc prog 110 [.L 617,.L 618,.L 619] [(617,.var (Qd f)),(618,.var (Qe g)),(619,.var [.clo (.func 108) [] [.L 620]]),(620,.var (QC i))] (Gives (.b r) [(617,.var (Qd f)),(618,.var (Qe g)),(619,.var [.clo (.func 108) [] [.L 620]]),(620,.var (QC i))]):=by
 refine wk_ 11 func110 fun C e=>?_
 obtain⟨c,h⟩:=Qao h
 obtain⟨l,k,h⟩:=Qb h
 refine tg_ e [6,.K [0,1,2,3] [617,618,619,620]] ?_
 refine AK.draw2 Qr e mixed [.N,.N,.N,.a (.any (.sl 3 (((f.Places.drop 0).take (g.toNat-0)).map QC)) none) none false,.N,.a (.any (.b l) none) none false,.N,.m .s] [] [] [3] [617,618,619,620] rfl rfl rfl ⟨⟨tt_,(fun σ j o _=>Stp.sliceD rfl rfl (QS e.n rfl) (j _ _ rfl) (Qr.es rfl) Bnd.no (Bnd.val (j _ _ rfl) (Qak (Qqb c)) rfl) (Qak (Qqc c)) (QcB (Qak (QsB c)) (Nat.le_of_eq Qf.symm)) QtL)⟩,(fun σ j o _=>Stp.callSame (md:=.cm (.fn) [(617,620)] [(620,617)] [] [.d,.d] [(617,.var (QC i))] (.b l) [620]) Qr e j o rfl ⟨⟨tt_,(Qhm _ _ k)⟩,r1_⟩)⟩ rfl (by kernel_rfl) rfl rfl rfl ?_
 refine tg_ e [2] ?_
 cases h
 exact d1_ r4_
def QcV (b:(List QF))(a:Int):Option Bool:=
 some ((decide (0<=a))&&(decide (a<(b.length:Int))))
theorem Qil (d c){r}(h:QcV d c=some r):Qc prog 113 [.sl 7 (d.map Qs),.I c] [] (Gives (.b r) []):=by
 refine wk_ 13 func113 fun C e=>?_
 refine tg_ e [6] ?_
 refine AK.meetX (fun σ=>σ=⟨[(4,.b ((decide (0<=c))&&(decide (c<(d.length:Int)))))],[]⟩) ?_ ?_
 ·refine tg_ e [4] ?_
  rcases QD (decide (0<=c))with a | a
  ·refine Qa e [.S 7 (.b true),2,.o (.ln d.length),4,.S 4 (.b ((decide (0<=c))&&(decide (c<(d.length:Int))))),.K [4] []] rfl ⟨⟨(tc_ a),Qf⟩,(congrArg V.b (Qai a rfl))⟩ ?_
   exact mt_
  refine Qa e [.S 7 (.b false),7,.S 4 (.b ((decide (0<=c))&&(decide (c<(d.length:Int))))),.K [4] []] rfl ⟨(tc_ a),(congrArg V.b (QaS a rfl))⟩ ?_
  exact mt_
 rintro σ rfl
 refine tg_ e [2] ?_
 cases h
 exact d1_ tt_
def QjV (a:Qq)(b:QZ):Option Bool:=
 (QcV a.Colours b.Colour).bind fun c=>
 some c
theorem Qvr (a e){r}(h:QjV a e=some r):Qc prog 112 [.L 617,.L 618] [(617,.var (Qd a)),(618,.var (QC e))] (Gives (.b r) [(617,.var (Qd a)),(618,.var (QC e))]):=by
 refine wk_ 8 func112 fun C g=>?_
 obtain⟨i,f,h⟩:=Qb h
 refine Qa g [11,.o (.C2 (.b i)),4] rfl (a1_ (Qil _ _ f)) ?_
 cases h
 exact d1_ r2_
def QjW (a:QZ):Option Bool:=
 (Qd8 a.First).bind fun b=>
 some b
theorem Qvs (a){r}(h:QjW a=some r):Qc prog 114 [.L 617] [(617,.var (QC a))] (Gives (.b r) [(617,.var (QC a))]):=by
 refine wk_ 5 func114 fun C f=>?_
 obtain⟨g,e,h⟩:=Qb h
 refine Qa f [9,.o (.C1 (.b g)),4] rfl (a1_ (QhY _ e)) ?_
 cases h
 exact d1_ r1_
def QhD (a:(Int×Int))(b:Int):Option Bool:=
 some (decide (b<=a.1))
theorem QtX (a c){r}(h:QhD a c=some r):Qc prog 117 [.agg (Qo a),.L 617] [(617,.var (Qe c))] (Gives (.b r) [(617,.var (Qe c))]):=by
 refine wk_ 8 func117 fun C d=>?_
 refine tg_ d [16] ?_
 cases h
 exact d1_ r1_
def QbM (c:QBg)(d:Int)(a:Int):Option (Int⊕(Int⊕Unit)):=
 bif (decide (a<(c.length:Int)))then
 (idx c a).bind fun e=>
 (QhD e d).bind fun b=>
 bif b then
 some (.inr (.inl a))
 else
 some (.inl (w64 (a+1)))
 else
 some (.inr (.inr ()))
def QbN (a:Int):Option Int:=
 some a
def QbO : Option Int:=
 some (-1)
def Qch (a:QBg)(b:Int):Option Int:=
 (Qw (fun st=>QbM a b st) 0).bind (Sum.elim (fun q=>QbN q) (fun q=>QbO))
theorem Qli (i c){r}(h:Qch i c=some r):Qc prog 168 [.sl 2 (i.map Qo),.clo (.func 117) [] [.L 617]] [(617,.var (Qe c))] (Gives (.I r) [(617,.var (Qe c))]):=by
 refine wk_ 19 func168 fun C f=>?_
 refine Qa f [9,.o (.ln i.length),4,.K [0,1,7,8] [617]] rfl (a1_ Qf) ?_
 obtain⟨l,j,h⟩:=Qb h
 refine AK.loop (body:=(fun st=>QbM i c st)) (fun st σ=>σ=⟨[(0,.sl 2 (i.map Qo)),(1,.clo (.func 117) [] [.L 617]),(7,.I (i.length:Int)),(8,.I st)],[(617,.var (Qe c))]⟩) (Sum.elim (fun q e σ=>e=.ret/\σ=⟨[(4,.I q)],[(617,.var (Qe c))]⟩) (fun q e σ=>e=.exit 0/\σ=⟨[],[(617,.var (Qe c))]⟩)) j rfl ?_ ?_
 ·rintro u o σ rfl h
  refine tg_ f [6] ?_
  rcases Qp h with⟨g,h⟩|⟨g,h⟩
  ·obtain⟨s,m,h⟩:=Qb h
   obtain⟨p,k,h⟩:=Qb h
   refine Qa f [.T,15,.o (.row (Qo s)),.A (Qo s),.cm (.clo) [(617,617)] [(617,617)] [] [.d,.d] [(617,.var (Qe c))] (.b p),2] rfl (a4_ g (QE m) rfl (QtX _ _ k)) ?_
   refine bq_ f h [.T,9,.K [4] [617]] rfl (fun a h=>?_) [.F,7,.K [0,1,7,8] [617]] rfl fun a h=>?_
   ·cases h
    exact Q6 rfl (an_ rfl rfl)
   cases h
   exact QR rfl rfl
  refine Qa f [.F,2,.K [] [617]] rfl (a1_ g) ?_
  cases h
  exact QT rfl (an_ rfl rfl)
 rcases l with(t | _)
 ·replace h:QbN t=some r:=h
  rintro e σ ⟨rfl,rfl⟩
  refine tg_ f [2] ?_
  cases h
  exact d1_ r1_
 replace h:QbO=some r:=h
 rintro e σ ⟨rfl,rfl⟩
 refine tg_ f [8] ?_
 cases h
 exact d1_ r1_
def QbP (a:QBg)(b:Int):Option Bool:=
 (Qch a b).bind fun c=>
 some (decide (0<=c))
theorem Qjr (e a){r}(h:QbP e a=some r):Qc prog 116 [.sl 2 (e.map Qo),.clo (.func 117) [] [.L 617]] [(617,.var (Qe a))] (Gives (.b r) [(617,.var (Qe a))]):=by
 refine wk_ 9 func116 fun C f=>?_
 obtain⟨g,c,h⟩:=Qb h
 refine Qa f [9,.cm (.fn) [(617,617)] [(617,617)] [] [.d,.d] [(617,.var (Qe a))] (.I g),5] rfl (a1_ (Qli _ _ c)) ?_
 cases h
 exact d1_ r1_
def QjX (b:Qq)(a:QZ):Option Bool:=
 (QaH b.Colours a.Colour).bind fun c=>
 (QbP a.First c).bind fun d=>
 some (!d)
theorem Qvt (a e){r}(h:QjX a e=some r):Qc prog 115 [.L 617,.L 618] [(617,.var (Qd a)),(618,.var (QC e))] (Gives (.b r) [(617,.var (Qd a)),(618,.var (QC e))]):=by
 refine wk_ 14 func115 fun C j=>?_
 obtain⟨f,g,h⟩:=Qb h
 obtain⟨k,i,h⟩:=Qb h
 refine Qa j [11,.o (.C2 (.I f)),2,.O 3 (.var (Qe f)),7,.cm (.fn) [(617,3)] [(3,617)] [] [.d,.d] [(617,.var (Qe f))] (.b k),5] rfl (a3_ (Qix _ _ g) rfl (Qjr _ _ i)) ?_
 cases h
 exact d1_ r2_
def QiA (a:QZ)(h:Int)(b:Qq)(i:Int)(j:Int)(k:Int)(l:Int)(m:Int):Option Int:=
 (QjS a).bind fun c=>
 bif (!c)then
 some h
 else
 (QjU b i a).bind fun d=>
 bif (!d)then
 some j
 else
 (QjV b a).bind fun e=>
 bif (!e)then
 some k
 else
 (QjW a).bind fun f=>
 bif (!f)then
 some l
 else
 (QjX b a).bind fun g=>
 bif (!g)then
 some m
 else
 some 0
theorem QuC (l w m x y z A B){r}(h:QiA l w m x y z A B=some r):Qc prog 57 [.own 617 5] [(617,.var [.clo (.func 109) [] [.L 618],.I w,.clo (.func 110) [] [.L 619,.L 620,.L 621],.I y,.clo (.func 112) [] [.L 619,.L 618],.I z,.clo (.func 114) [] [.L 618],.I A,.clo (.func 115) [] [.L 619,.L 618],.I B]),(618,.var (QC l)),(619,.var (Qd m)),(620,.var (Qe x)),(621,.var [.clo (.func 108) [] [.L 618]])] (Gives (.I r) [(617,.var [.clo (.func 109) [] [.L 618],.I w,.clo (.func 110) [] [.L 619,.L 620,.L 621],.I y,.clo (.func 112) [] [.L 619,.L 618],.I z,.clo (.func 114) [] [.L 618],.I A,.clo (.func 115) [] [.L 619,.L 618],.I B]),(618,.var (QC l)),(619,.var (Qd m)),(620,.var (Qe x)),(621,.var [.clo (.func 108) [] [.L 618]])]):=by
 refine wk_ 18 func57 fun C a=>?_
 refine tg_ a [14] ?_
 refine AK.loopN 6 (AK.rnd ?_)
 obtain⟨D,p,h⟩:=Qb h
 refine Qa a [2,.v .no [] (.b true),10,.o (.any (.L 617) none),3,.O 4 (.var [.clo (.func 109) [] [.L 618],.I w]),6,.cm (.clo) [(617,618)] [(618,617)] [] [.d] [(617,.var (QC l))] (.b D),3] rfl (a4_ rfl (fun σ c k _=>Stp.idxV rfl rfl (QS a.n rfl) (c _ _ rfl) (c _ _ rfl) (Qr.es rfl) (k _ _ rfl) (by decide)) rfl (Qvo _ p)) ?_
 refine bg_ h (fun e h=>Qa a [.T,13,.K [2] [617,618,619,620,621]] rfl (a1_ e) ?_) fun e h=>Qa a [.F,4,.v .no [] (.I 1),2] rfl (a2_ e rfl) ?_
 ·cases h
  exact d1_ r5_
 refine AK.met (AK.rnd ?_)
 obtain⟨E,q,h⟩:=Qb h
 refine Qa a [2,.v .no [] (.b true),10,.o (.any (.loc 617 0 2) none),1,.kill 4,2,.O 4 (.var [.clo (.func 110) [] [.L 619,.L 620,.L 621],.I y]),6,.cm (.clo) [(617,619),(618,620),(619,621),(620,618)] [(619,617),(620,618),(621,619),(618,620)] [] [.d,.d,.d] [(617,.var (Qd m)),(618,.var (Qe x)),(619,.var [.clo (.func 108) [] [.L 620]]),(620,.var (QC l))] (.b E),3] rfl (a4_ rfl (fun σ c k _=>Stp.idxV rfl rfl (QS a.n rfl) (c _ _ rfl) (c _ _ rfl) (Qr.es rfl) (k _ _ rfl) (by decide)) rfl (Qvq _ _ _ q)) ?_
 refine bg_ h (fun f h=>Qa a [.T,13,.K [2] [617,618,619,620,621]] rfl (a1_ f) ?_) fun f h=>Qa a [.F,4,.v .no [] (.I 2),2] rfl (a2_ f rfl) ?_
 ·cases h
  exact d1_ r5_
 refine AK.met (AK.rnd ?_)
 obtain⟨G,s,h⟩:=Qb h
 refine Qa a [2,.v .no [] (.b true),10,.o (.any (.loc 617 0 4) none),1,.kill 4,2,.O 4 (.var [.clo (.func 112) [] [.L 619,.L 618],.I z]),6,.cm (.clo) [(617,619),(618,618)] [(619,617),(618,618)] [] [.d,.d] [(617,.var (Qd m)),(618,.var (QC l))] (.b G),3] rfl (a4_ rfl (fun σ c k _=>Stp.idxV rfl rfl (QS a.n rfl) (c _ _ rfl) (c _ _ rfl) (Qr.es rfl) (k _ _ rfl) (by decide)) rfl (Qvr _ _ s)) ?_
 refine bg_ h (fun g h=>Qa a [.T,13,.K [2] [617,618,619,620,621]] rfl (a1_ g) ?_) fun g h=>Qa a [.F,4,.v .no [] (.I 3),2] rfl (a2_ g rfl) ?_
 ·cases h
  exact d1_ r5_
 refine AK.met (AK.rnd ?_)
 obtain⟨H,t,h⟩:=Qb h
 refine Qa a [2,.v .no [] (.b true),10,.o (.any (.loc 617 0 6) none),1,.kill 4,2,.O 4 (.var [.clo (.func 114) [] [.L 618],.I A]),6,.cm (.clo) [(617,618)] [(618,617)] [] [.d] [(617,.var (QC l))] (.b H),3] rfl (a4_ rfl (fun σ c k _=>Stp.idxV rfl rfl (QS a.n rfl) (c _ _ rfl) (c _ _ rfl) (Qr.es rfl) (k _ _ rfl) (by decide)) rfl (Qvs _ t)) ?_
 refine bg_ h (fun i h=>Qa a [.T,13,.K [2] [617,618,619,620,621]] rfl (a1_ i) ?_) fun i h=>Qa a [.F,4,.v .no [] (.I 4),2] rfl (a2_ i rfl) ?_
 ·cases h
  exact d1_ r5_
 refine AK.met (AK.rnd ?_)
 obtain⟨J,u,h⟩:=Qb h
 refine Qa a [2,.v .no [] (.b true),10,.o (.any (.loc 617 0 8) none),1,.kill 4,2,.O 4 (.var [.clo (.func 115) [] [.L 619,.L 618],.I B]),6,.cm (.clo) [(617,619),(618,618)] [(619,617),(618,618)] [] [.d,.d] [(617,.var (Qd m)),(618,.var (QC l))] (.b J),3] rfl (a4_ rfl (fun σ c k _=>Stp.idxV rfl rfl (QS a.n rfl) (c _ _ rfl) (c _ _ rfl) (Qr.es rfl) (k _ _ rfl) (by decide)) rfl (Qvt _ _ u)) ?_
 refine bg_ h (fun j h=>Qa a [.T,13,.K [2] [617,618,619,620,621]] rfl (a1_ j) ?_) fun j h=>Qa a [.F,4,.v .no [] (.I 5),2] rfl (a2_ j rfl) ?_
 ·cases h
  exact d1_ r5_
 refine AK.met (AK.rnd ?_)
 refine Qa a [2,.v .no [] (.b false),15] rfl (a1_ rfl) ?_
 cases h
 exact d1_ r5_
def Qmk (a:Qq)(b:Int):Option Int:=
 (QaT a.Places b).bind fun c=>
 bif (!c)then
 some 3
 else
 (idx a.Places b).bind fun d=>
 (QiA d 1 a b 5 3 1 8).bind fun e=>
 some e
theorem Qxh (g i){r}(h:Qmk g i=some r):Qc prog 65 [.agg (Qd g),.I i] [] (Gives (.I r) []):=by
 refine wk_ 30 func65 fun C e=>?_
 obtain⟨m,j,h⟩:=Qb h
 refine Qa e [13,.o (.C2 (.b m)),3] rfl (a1_ (Qcl _ _ j)) ?_
 rcases Qp h with⟨a,h⟩|⟨a,h⟩
 ·refine Qa e [.T,7] rfl (a1_ a) ?_
  cases h
  exact d1_ tt_
 obtain⟨f,k,h⟩:=Qb h
 obtain⟨p,l,h⟩:=Qb h
 refine Qa e [.F,7,.o (.row (QC f)),.A (QC f),2,.O 5 (.var (QC f)),7,.O 6 (.var [.clo (.func 108) [] [.L 5]]),5,.A [.clo (.func 109) [] [.L 5],.I 1],1,.A [.clo (.func 110) [] [.L 2,.L 3,.L 6],.I 5],1,.A [.clo (.func 112) [] [.L 2,.L 5],.I 3],1,.A [.clo (.func 114) [] [.L 5],.I 1],1,.A [.clo (.func 115) [] [.L 2,.L 5],.I 8],.o (.any (.own 28 5) (some (.var [.clo (.func 109) [] [.L 5],.I 1,.clo (.func 110) [] [.L 2,.L 3,.L 6],.I 5,.clo (.func 112) [] [.L 2,.L 5],.I 3,.clo (.func 114) [] [.L 5],.I 1,.clo (.func 115) [] [.L 2,.L 5],.I 8]))),.cm (.fn) [(617,28),(618,5),(619,2),(620,3),(621,6)] [(28,617),(5,618),(2,619),(3,620),(6,621)] [] [.d] [(617,.var [.clo (.func 109) [] [.L 618],.I 1,.clo (.func 110) [] [.L 619,.L 620,.L 621],.I 5,.clo (.func 112) [] [.L 619,.L 618],.I 3,.clo (.func 114) [] [.L 618],.I 1,.clo (.func 115) [] [.L 619,.L 618],.I 8]),(618,.var (QC f)),(619,.var (Qd g)),(620,.var (Qe i)),(621,.var [.clo (.func 108) [] [.L 618]])] (.I p),4] rfl (aC_ a (QE k) rfl rfl rfl rfl rfl rfl rfl rfl (fun σ q s hf=>Stp.buildAny rfl rfl (QS e.n rfl) (Qr.es rfl) Qoy rfl (by decide) (by decide) (Qf2 q rfl) rfl rfl (hf rfl)) (QuC _ _ _ _ _ _ _ _ l)) ?_
 cases h
 exact d1_ tt_
def Qml (a:Int)(d:QZ)(b:Qq):Option Int:=
 (Qmk b a).bind fun c=>
 some c
theorem Qxi (e f a){r}(h:Qml e f a=some r):Qc prog 64 [.I e,.agg (QC f),.L 617] [(617,.var (Qd a))] (Gives (.I r) [(617,.var (Qd a))]):=by
 refine wk_ 9 func64 fun C g=>?_
 obtain⟨i,b,h⟩:=Qb h
 refine Qa g [8,.A (Qd a),1,.o (.C2 (.I i)),4] rfl (a2_ rfl (Qxh _ _ b)) ?_
 cases h
 exact d1_ r1_
def Qd3 (d:(List QZ))(e:Qq)(a:Int):Option (Int⊕((Int×Int)⊕Unit)):=
 bif (decide (a<(d.length:Int)))then
 (idx d a).bind fun c=>
 (Qml a c e).bind fun b=>
 bif (b != 0)then
 some (.inr (.inl (a,b)))
 else
 some (.inl (w64 (a+1)))
 else
 some (.inr (.inr ()))
def Qd4 (b:Int)(a:Int):Option (Int×Int):=
 some (b,a)
def Qd5 : Option (Int×Int):=
 some (0,0)
def Qe3 (a:(List QZ))(b:Qq):Option (Int×Int):=
 (Qw (fun st=>Qd3 a b st) 0).bind (Sum.elim (fun q=>Qd4 q.1 q.2) (fun q=>Qd5))
theorem QpS (i f){r}(h:Qe3 i f=some r):Qc prog 63 [.sl 3 (i.map QC),.clo (.func 64) [] [.L 617]] [(617,.var (Qd f))] (Gives (.tup [.I r.1,.I r.2]) [(617,.var (Qd f))]):=by
 refine wk_ 25 func63 fun C g=>?_
 refine Qa g [10,.o (.ln i.length),4,.K [1,9,10,11] [617]] rfl (a1_ Qf) ?_
 obtain⟨m,j,h⟩:=Qb h
 refine AK.loop (body:=(fun st=>Qd3 i f st)) (fun st σ=>σ=⟨[(1,.clo (.func 64) [] [.L 617]),(9,.sl 3 (i.map QC)),(10,.I (i.length:Int)),(11,.I st)],[(617,.var (Qd f))]⟩) (Sum.elim (fun q e σ=>e=.ret/\σ=⟨[(4,.I q.1),(5,.I q.2)],[(617,.var (Qd f))]⟩) (fun q e σ=>e=.exit 0/\σ=⟨[],[(617,.var (Qd f))]⟩)) j rfl ?_ ?_
 ·rintro u o σ rfl h
  refine tg_ g [6] ?_
  rcases Qp h with⟨a,h⟩|⟨a,h⟩
  ·obtain⟨c,k,h⟩:=Qb h
   obtain⟨p,l,h⟩:=Qb h
   refine Qa g [.T,7,.o (.row (QC c)),.A (QC c),3,.O 7 (.var (QC c)),6,.A (QC c),.cm (.clo) [(617,617)] [(617,617)] [] [.d,.d,.d] [(617,.var (Qd f))] (.I p),9] rfl (a6_ a (QE k) rfl rfl rfl (Qxi _ _ _ l)) ?_
   refine bq_ g h [.T,11,.K [4,5] [617]] rfl (fun b h=>?_) [.F,7,.K [1,9,10,11] [617]] rfl fun b h=>?_
   ·cases h
    exact Q6 rfl (an_ rfl rfl)
   cases h
   exact QR rfl rfl
  refine Qa g [.F,2,.K [] [617]] rfl (a1_ a) ?_
  cases h
  exact QT rfl (an_ rfl rfl)
 rcases m with(⟨t,s⟩|_)
 ·replace h:Qd4 t s=some r:=h
  rintro e σ ⟨rfl,rfl⟩
  refine tg_ g [2] ?_
  cases h
  exact d2_ r1_
 replace h:Qd5=some r:=h
 rintro e σ ⟨rfl,rfl⟩
 refine tg_ g [9] ?_
 cases h
 exact d2_ r1_
def Qdw (b:(List QG))(a:Int):Option Bool:=
 some ((decide (0<=a))&&(decide (a<(b.length:Int))))
theorem QjY (d c){r}(h:Qdw d c=some r):Qc prog 69 [.sl 14 (d.map Qm),.I c] [] (Gives (.b r) []):=by
 refine wk_ 13 func69 fun C e=>?_
 refine tg_ e [6] ?_
 refine AK.meetX (fun σ=>σ=⟨[(4,.b ((decide (0<=c))&&(decide (c<(d.length:Int)))))],[]⟩) ?_ ?_
 ·refine tg_ e [4] ?_
  rcases QD (decide (0<=c))with a | a
  ·refine Qa e [.S 7 (.b true),2,.o (.ln d.length),4,.S 4 (.b ((decide (0<=c))&&(decide (c<(d.length:Int))))),.K [4] []] rfl ⟨⟨(tc_ a),Qf⟩,(congrArg V.b (Qai a rfl))⟩ ?_
   exact mt_
  refine Qa e [.S 7 (.b false),7,.S 4 (.b ((decide (0<=c))&&(decide (c<(d.length:Int))))),.K [4] []] rfl ⟨(tc_ a),(congrArg V.b (QaS a rfl))⟩ ?_
  exact mt_
 rintro σ rfl
 refine tg_ e [2] ?_
 cases h
 exact d1_ tt_
def Qmm (a:Int)(b:Qq)(c:QG):Option Unit:=
 some ()
theorem Qxj (a b c){r}(h:Qmm a b c=some r):Qc prog 123 [.L 617,.clo (.func 124) [] [.L 618,.L 619]] [(617,.var (Qe a)),(618,.var (Qd b)),(619,.var (Qm c))] (Gives (.clo (.func 170) [] [.L 3,.L 2]) [(2,.var [.L 617]),(3,.var [.clo (.func 124) [] [.L 618,.L 619]]),(617,.var (Qe a)),(618,.var (Qd b)),(619,.var (Qm c))]):=by
 refine wk_ 6 func123 fun C d=>?_
 refine tg_ d [14] ?_
 cases h
 exact d1_ r5_
def QiB (a:Int)(b:Qq)(c:QG)(d:Int):Option Unit:=
 some ()
theorem QuD (a b c d){r}(h:QiB a b c d=some r):Qc prog 123 [.L 617,.clo (.func 129) [] [.L 618,.L 619,.L 620]] [(617,.var (Qe a)),(618,.var (Qd b)),(619,.var (Qm c)),(620,.var (Qe d))] (Gives (.clo (.func 170) [] [.L 3,.L 2]) [(2,.var [.L 617]),(3,.var [.clo (.func 129) [] [.L 618,.L 619,.L 620]]),(617,.var (Qe a)),(618,.var (Qd b)),(619,.var (Qm c)),(620,.var (Qe d))]):=by
 refine wk_ 6 func123 fun C e=>?_
 refine tg_ e [14] ?_
 cases h
 exact d1_ r6_
def QiC (a:Int)(b:Qq)(c:QG)(d:Int):Option Unit:=
 some ()
theorem QuE (a b c d){r}(h:QiC a b c d=some r):Qc prog 123 [.L 617,.clo (.func 131) [] [.L 618,.L 619,.L 620]] [(617,.var (Qe a)),(618,.var (Qd b)),(619,.var (Qm c)),(620,.var (Qe d))] (Gives (.clo (.func 170) [] [.L 3,.L 2]) [(2,.var [.L 617]),(3,.var [.clo (.func 131) [] [.L 618,.L 619,.L 620]]),(617,.var (Qe a)),(618,.var (Qd b)),(619,.var (Qm c)),(620,.var (Qe d))]):=by
 refine wk_ 6 func123 fun C e=>?_
 refine tg_ e [14] ?_
 cases h
 exact d1_ r6_
def QiD (a:Int)(b:Qq)(c:QG):Option Unit:=
 some ()
theorem QuF (a b c){r}(h:QiD a b c=some r):Qc prog 123 [.L 617,.clo (.func 132) [] [.L 618,.L 619]] [(617,.var (Qe a)),(618,.var (Qd b)),(619,.var (Qm c))] (Gives (.clo (.func 170) [] [.L 3,.L 2]) [(2,.var [.L 617]),(3,.var [.clo (.func 132) [] [.L 618,.L 619]]),(617,.var (Qe a)),(618,.var (Qd b)),(619,.var (Qm c))]):=by
 refine wk_ 6 func123 fun C d=>?_
 refine tg_ d [14] ?_
 cases h
 exact d1_ r5_
def Qlj (a:QG):Option Bool:=
 (Qfa a.Name).bind fun b=>
 some b
theorem Qwm (a){r}(h:Qlj a=some r):Qc prog 119 [.L 617] [(617,.var (Qm a))] (Gives (.b r) [(617,.var (Qm a))]):=by
 refine wk_ 5 func119 fun C f=>?_
 obtain⟨g,e,h⟩:=Qb h
 refine Qa f [9,.o (.C1 (.b g)),4] rfl (a1_ (Qg0 _ e)) ?_
 cases h
 exact d1_ r1_
def Qlk (a:QG)(b:QG):Option Bool:=
 some (Qb6 a.Name b.Name)
theorem Qwn (c a){r}(h:Qlk c a=some r):Qc prog 118 [.agg (Qm c),.L 617] [(617,.var (Qm a))] (Gives (.b r) [(617,.var (Qm a))]):=by
 refine wk_ 9 func118 fun C d=>?_
 refine tg_ d [17] ?_
 cases h
 exact d1_ r1_
def Qa4 (c:(List QG))(d:QG)(a:Int):Option (Int⊕(Int⊕Unit)):=
 bif (decide (a<(c.length:Int)))then
 (idx c a).bind fun e=>
 (Qlk e d).bind fun b=>
 bif b then
 some (.inr (.inl a))
 else
 some (.inl (w64 (a+1)))
 else
 some (.inr (.inr ()))
def Qa5 (a:Int):Option Int:=
 some a
def Qa6 : Option Int:=
 some (-1)
def QbC (a:(List QG))(b:QG):Option Int:=
 (Qw (fun st=>Qa4 a b st) 0).bind (Sum.elim (fun q=>Qa5 q) (fun q=>Qa6))
theorem Qi2 (i c){r}(h:QbC i c=some r):Qc prog 169 [.sl 14 (i.map Qm),.clo (.func 118) [] [.L 617]] [(617,.var (Qm c))] (Gives (.I r) [(617,.var (Qm c))]):=by
 refine wk_ 19 func169 fun C f=>?_
 refine Qa f [9,.o (.ln i.length),4,.K [0,1,7,8] [617]] rfl (a1_ Qf) ?_
 obtain⟨l,j,h⟩:=Qb h
 refine AK.loop (body:=(fun st=>Qa4 i c st)) (fun st σ=>σ=⟨[(0,.sl 14 (i.map Qm)),(1,.clo (.func 118) [] [.L 617]),(7,.I (i.length:Int)),(8,.I st)],[(617,.var (Qm c))]⟩) (Sum.elim (fun q e σ=>e=.ret/\σ=⟨[(4,.I q)],[(617,.var (Qm c))]⟩) (fun q e σ=>e=.exit 0/\σ=⟨[],[(617,.var (Qm c))]⟩)) j rfl ?_ ?_
 ·rintro u o σ rfl h
  refine tg_ f [6] ?_
  rcases Qp h with⟨g,h⟩|⟨g,h⟩
  ·obtain⟨s,m,h⟩:=Qb h
   obtain⟨p,k,h⟩:=Qb h
   refine Qa f [.T,15,.o (.row (Qm s)),.A (Qm s),.cm (.clo) [(617,617)] [(617,617)] [] [.d,.d] [(617,.var (Qm c))] (.b p),2] rfl (a4_ g (QE m) rfl (Qwn _ _ k)) ?_
   refine bq_ f h [.T,9,.K [4] [617]] rfl (fun a h=>?_) [.F,7,.K [0,1,7,8] [617]] rfl fun a h=>?_
   ·cases h
    exact Q6 rfl (an_ rfl rfl)
   cases h
   exact QR rfl rfl
  refine Qa f [.F,2,.K [] [617]] rfl (a1_ g) ?_
  cases h
  exact QT rfl (an_ rfl rfl)
 rcases l with(t | _)
 ·replace h:Qa5 t=some r:=h
  rintro e σ ⟨rfl,rfl⟩
  refine tg_ f [2] ?_
  cases h
  exact d1_ r1_
 replace h:Qa6=some r:=h
 rintro e σ ⟨rfl,rfl⟩
 refine tg_ f [8] ?_
 cases h
 exact d1_ r1_
def Qa7 (a:(List QG))(b:QG):Option Bool:=
 (QbC a b).bind fun c=>
 some (decide (0<=c))
theorem Qh4 (e a){r}(h:Qa7 e a=some r):Qc prog 121 [.sl 14 (e.map Qm),.clo (.func 118) [] [.L 617]] [(617,.var (Qm a))] (Gives (.b r) [(617,.var (Qm a))]):=by
 refine wk_ 9 func121 fun C f=>?_
 obtain⟨g,c,h⟩:=Qb h
 refine Qa f [9,.cm (.fn) [(617,617)] [(617,617)] [] [.d,.d] [(617,.var (Qm a))] (.I g),5] rfl (a1_ (Qi2 _ _ c)) ?_
 cases h
 exact d1_ r1_
def Qll (b:Qq)(a:Int)(c:QG):Option Bool:=
 (chk (decide (0<=a)&&decide (0<=a.toNat)&&decide (a.toNat<=b.Tasks.length))).bind fun _=>
 (Qa7 ((b.Tasks.drop 0).take (a.toNat-0)) c).bind fun d=>
 some (!d)
theorem Qwo (f g i){r}(h:Qll f g i=some r):Qc prog 120 [.L 617,.L 618,.L 619] [(617,.var (Qd f)),(618,.var (Qe g)),(619,.var [.clo (.func 118) [] [.L 620]]),(620,.var (Qm i))] (Gives (.b r) [(617,.var (Qd f)),(618,.var (Qe g)),(619,.var [.clo (.func 118) [] [.L 620]]),(620,.var (Qm i))]):=by
 refine wk_ 11 func120 fun C e=>?_
 obtain⟨c,h⟩:=Qao h
 obtain⟨l,k,h⟩:=Qb h
 refine tg_ e [6,.K [0,1,2,3] [617,618,619,620]] ?_
 refine AK.draw2 Qr e mixed [.N,.N,.N,.a (.any (.sl 14 (((f.Tasks.drop 0).take (g.toNat-0)).map Qm)) none) none false,.N,.a (.any (.b l) none) none false,.N,.m .s] [] [] [3] [617,618,619,620] rfl rfl rfl ⟨⟨tt_,(fun σ j o _=>Stp.sliceD rfl rfl (QS e.n rfl) (j _ _ rfl) (Qr.es rfl) Bnd.no (Bnd.val (j _ _ rfl) (Qak (Qqb c)) rfl) (Qak (Qqc c)) (QcB (Qak (QsB c)) (Nat.le_of_eq Qf.symm)) QtL)⟩,(fun σ j o _=>Stp.callSame (md:=.cm (.fn) [(617,620)] [(620,617)] [] [.d,.d] [(617,.var (Qm i))] (.b l) [620]) Qr e j o rfl ⟨⟨tt_,(Qh4 _ _ k)⟩,r1_⟩)⟩ rfl (by kernel_rfl) rfl rfl rfl ?_
 refine tg_ e [2] ?_
 cases h
 exact d1_ r4_
def Qh5 (b:Int)(a:QG):Option Bool:=
 some ((decide (b<=16))&&(decide ((max2 (max2 (a.Ins.length:Int) (a.Outs.length:Int)) (a.Cancel.length:Int))<=16)))
theorem Qwp (d a){r}(h:Qh5 d a=some r):Qc prog 122 [.L 617,.L 618] [(617,.var (Qe d)),(618,.var (Qm a))] (Gives (.b r) [(617,.var (Qe d)),(618,.var (Qm a))]):=by
 refine wk_ 18 func122 fun C e=>?_
 refine tg_ e [6] ?_
 refine AK.meetX (fun σ=>σ=⟨[(2,.b ((decide (d<=16))&&(decide ((max2 (max2 (a.Ins.length:Int) (a.Outs.length:Int)) (a.Cancel.length:Int))<=16))))],[(617,.var (Qe d)),(618,.var (Qm a))]⟩) ?_ ?_
 ·refine tg_ e [4] ?_
  rcases QD (decide (d<=16))with c | c
  ·refine Qa e [.S 5 (.b true),2,.o (.ln a.Ins.length),2,.o (.ln a.Outs.length),2,.o (.ln a.Cancel.length),.o (.any (.I (max2 (max2 (a.Ins.length:Int) (a.Outs.length:Int)) (a.Cancel.length:Int))) none),4,.S 2 (.b ((decide (d<=16))&&(decide ((max2 (max2 (a.Ins.length:Int) (a.Outs.length:Int)) (a.Cancel.length:Int))<=16)))),.K [2] [617,618]] rfl ⟨⟨⟨⟨⟨(tc_ c),Qf⟩,Qf⟩,Qf⟩,(fun σ f g _=>Stp.max3 rfl rfl (QS e.n rfl) (f _ _ rfl) (f _ _ rfl) (f _ _ rfl))⟩,(congrArg V.b (Qai c rfl))⟩ ?_
   exact mt_
  refine Qa e [.S 5 (.b false),14,.S 2 (.b ((decide (d<=16))&&(decide ((max2 (max2 (a.Ins.length:Int) (a.Outs.length:Int)) (a.Cancel.length:Int))<=16)))),.K [2] [617,618]] rfl ⟨(tc_ c),(congrArg V.b (QaS c rfl))⟩ ?_
  exact mt_
 rintro σ rfl
 refine tg_ e [2] ?_
 cases h
 exact d1_ r2_
def Qfi (a:Qau):Option Bool:=
 (Qfa a.Name).bind fun b=>
 some b
theorem Qqs (a){r}(h:Qfi a=some r):Qc prog 174 [.L 617] [(617,.var (QP a))] (Gives (.b r) [(617,.var (QP a))]):=by
 refine wk_ 5 func174 fun C f=>?_
 obtain⟨g,e,h⟩:=Qb h
 refine Qa f [9,.o (.C1 (.b g)),4] rfl (a1_ (Qg0 _ e)) ?_
 cases h
 exact d1_ r1_
def Qfj (a:Qau)(b:Qau):Option Bool:=
 some (Qb6 a.Name b.Name)
theorem Qqt (c a){r}(h:Qfj c a=some r):Qc prog 173 [.agg (QP c),.L 617] [(617,.var (QP a))] (Gives (.b r) [(617,.var (QP a))]):=by
 refine wk_ 9 func173 fun C d=>?_
 refine tg_ d [17] ?_
 cases h
 exact d1_ r1_
def Qbn (c:(List Qau))(d:Qau)(a:Int):Option (Int⊕(Int⊕Unit)):=
 bif (decide (a<(c.length:Int)))then
 (idx c a).bind fun e=>
 (Qfj e d).bind fun b=>
 bif b then
 some (.inr (.inl a))
 else
 some (.inl (w64 (a+1)))
 else
 some (.inr (.inr ()))
def Qbo (a:Int):Option Int:=
 some a
def Qbp : Option Int:=
 some (-1)
def QbZ (a:(List Qau))(b:Qau):Option Int:=
 (Qw (fun st=>Qbn a b st) 0).bind (Sum.elim (fun q=>Qbo q) (fun q=>Qbp))
theorem Qkk (i c){r}(h:QbZ i c=some r):Qc prog 207 [.sl 2 (i.map QP),.clo (.func 173) [] [.L 617]] [(617,.var (QP c))] (Gives (.I r) [(617,.var (QP c))]):=by
 refine wk_ 19 func207 fun C f=>?_
 refine Qa f [9,.o (.ln i.length),4,.K [0,1,7,8] [617]] rfl (a1_ Qf) ?_
 obtain⟨l,j,h⟩:=Qb h
 refine AK.loop (body:=(fun st=>Qbn i c st)) (fun st σ=>σ=⟨[(0,.sl 2 (i.map QP)),(1,.clo (.func 173) [] [.L 617]),(7,.I (i.length:Int)),(8,.I st)],[(617,.var (QP c))]⟩) (Sum.elim (fun q e σ=>e=.ret/\σ=⟨[(4,.I q)],[(617,.var (QP c))]⟩) (fun q e σ=>e=.exit 0/\σ=⟨[],[(617,.var (QP c))]⟩)) j rfl ?_ ?_
 ·rintro u o σ rfl h
  refine tg_ f [6] ?_
  rcases Qp h with⟨g,h⟩|⟨g,h⟩
  ·obtain⟨s,m,h⟩:=Qb h
   obtain⟨p,k,h⟩:=Qb h
   refine Qa f [.T,15,.o (.row (QP s)),.A (QP s),.cm (.clo) [(617,617)] [(617,617)] [] [.d,.d] [(617,.var (QP c))] (.b p),2] rfl (a4_ g (QE m) rfl (Qqt _ _ k)) ?_
   refine bq_ f h [.T,9,.K [4] [617]] rfl (fun a h=>?_) [.F,7,.K [0,1,7,8] [617]] rfl fun a h=>?_
   ·cases h
    exact Q6 rfl (an_ rfl rfl)
   cases h
   exact QR rfl rfl
  refine Qa f [.F,2,.K [] [617]] rfl (a1_ g) ?_
  cases h
  exact QT rfl (an_ rfl rfl)
 rcases l with(t | _)
 ·replace h:Qbo t=some r:=h
  rintro e σ ⟨rfl,rfl⟩
  refine tg_ f [2] ?_
  cases h
  exact d1_ r1_
 replace h:Qbp=some r:=h
 rintro e σ ⟨rfl,rfl⟩
 refine tg_ f [8] ?_
 cases h
 exact d1_ r1_
def Qbq (a:(List Qau))(b:Qau):Option Bool:=
 (QbZ a b).bind fun c=>
 some (decide (0<=c))
theorem QiE (e a){r}(h:Qbq e a=some r):Qc prog 176 [.sl 2 (e.map QP),.clo (.func 173) [] [.L 617]] [(617,.var (QP a))] (Gives (.b r) [(617,.var (QP a))]):=by
 refine wk_ 9 func176 fun C f=>?_
 obtain⟨g,c,h⟩:=Qb h
 refine Qa f [9,.cm (.fn) [(617,617)] [(617,617)] [] [.d,.d] [(617,.var (QP a))] (.I g),5] rfl (a1_ (Qkk _ _ c)) ?_
 cases h
 exact d1_ r1_
def Qfk (b:(List Qau))(a:Int)(c:Qau):Option Bool:=
 (chk (decide (0<=a)&&decide (0<=a.toNat)&&decide (a.toNat<=b.length))).bind fun _=>
 (Qbq ((b.drop 0).take (a.toNat-0)) c).bind fun d=>
 some (!d)
theorem Qqu (f g i){r}(h:Qfk f g i=some r):Qc prog 175 [.L 617,.L 618,.L 619] [(617,.var (Qct f)),(618,.var (Qe g)),(619,.var [.clo (.func 173) [] [.L 620]]),(620,.var (QP i))] (Gives (.b r) [(617,.var (Qct f)),(618,.var (Qe g)),(619,.var [.clo (.func 173) [] [.L 620]]),(620,.var (QP i))]):=by
 refine wk_ 10 func175 fun C e=>?_
 obtain⟨c,h⟩:=Qao h
 obtain⟨l,k,h⟩:=Qb h
 refine tg_ e [6,.K [0,1,2,3] [617,618,619,620]] ?_
 refine AK.draw2 Qr e mixed [.N,.N,.a (.any (.sl 2 (((f.drop 0).take (g.toNat-0)).map QP)) none) none false,.N,.a (.any (.b l) none) none false,.N,.m .s] [] [] [3] [617,618,619,620] rfl rfl rfl ⟨⟨tt_,(fun σ j o _=>Stp.sliceD rfl rfl (QS e.n rfl) (j _ _ rfl) (Qr.es rfl) Bnd.no (Bnd.val (j _ _ rfl) (Qak (Qqb c)) rfl) (Qak (Qqc c)) (QcB (Qak (QsB c)) (Nat.le_of_eq Qf.symm)) QtL)⟩,(fun σ j o _=>Stp.callSame (md:=.cm (.fn) [(617,620)] [(620,617)] [] [.d,.d] [(617,.var (QP i))] (.b l) [620]) Qr e j o rfl ⟨⟨tt_,(QiE _ _ k)⟩,r1_⟩)⟩ rfl (by kernel_rfl) rfl rfl rfl ?_
 refine tg_ e [2] ?_
 cases h
 exact d1_ r4_
def Qfl (a:Qq)(b:Qau):Option Bool:=
 (QcV a.Colours b.Colour).bind fun c=>
 some c
theorem Qqv (a e){r}(h:Qfl a e=some r):Qc prog 177 [.L 617,.L 618] [(617,.var (Qd a)),(618,.var (QP e))] (Gives (.b r) [(617,.var (Qd a)),(618,.var (QP e))]):=by
 refine wk_ 8 func177 fun C g=>?_
 obtain⟨i,f,h⟩:=Qb h
 refine Qa g [11,.o (.C2 (.b i)),4] rfl (a1_ (Qil _ _ f)) ?_
 cases h
 exact d1_ r2_
def QiF (a:Qau)(e:Int)(f:(List Qau))(g:Int)(h:Int)(i:Qq)(j:Int):Option Int:=
 (Qfi a).bind fun b=>
 bif (!b)then
 some e
 else
 (Qfk f g a).bind fun c=>
 bif (!c)then
 some h
 else
 (Qfl i a).bind fun d=>
 bif (!d)then
 some j
 else
 some 0
theorem QuG (i p q s t u w){r}(h:QiF i p q s t u w=some r):Qc prog 57 [.own 617 3] [(617,.var [.clo (.func 174) [] [.L 618],.I p,.clo (.func 175) [] [.L 619,.L 620,.L 621],.I t,.clo (.func 177) [] [.L 622,.L 618],.I w]),(618,.var (QP i)),(619,.var (Qct q)),(620,.var (Qe s)),(621,.var [.clo (.func 173) [] [.L 618]]),(622,.var (Qd u))] (Gives (.I r) [(617,.var [.clo (.func 174) [] [.L 618],.I p,.clo (.func 175) [] [.L 619,.L 620,.L 621],.I t,.clo (.func 177) [] [.L 622,.L 618],.I w]),(618,.var (QP i)),(619,.var (Qct q)),(620,.var (Qe s)),(621,.var [.clo (.func 173) [] [.L 618]]),(622,.var (Qd u))]):=by
 refine wk_ 18 func57 fun C a=>?_
 refine tg_ a [14] ?_
 refine AK.loopN 4 (AK.rnd ?_)
 obtain⟨x,j,h⟩:=Qb h
 refine Qa a [2,.v .no [] (.b true),10,.o (.any (.L 617) none),3,.O 4 (.var [.clo (.func 174) [] [.L 618],.I p]),6,.cm (.clo) [(617,618)] [(618,617)] [] [.d] [(617,.var (QP i))] (.b x),3] rfl (a4_ rfl (fun σ g k _=>Stp.idxV rfl rfl (QS a.n rfl) (g _ _ rfl) (g _ _ rfl) (Qr.es rfl) (k _ _ rfl) (by decide)) rfl (Qqs _ j)) ?_
 refine bg_ h (fun c h=>Qa a [.T,13,.K [2] [617,618,619,620,621,622]] rfl (a1_ c) ?_) fun c h=>Qa a [.F,4,.v .no [] (.I 1),2] rfl (a2_ c rfl) ?_
 ·cases h
  exact d1_ r6_
 refine AK.met (AK.rnd ?_)
 obtain⟨y,l,h⟩:=Qb h
 refine Qa a [2,.v .no [] (.b true),10,.o (.any (.loc 617 0 2) none),1,.kill 4,2,.O 4 (.var [.clo (.func 175) [] [.L 619,.L 620,.L 621],.I t]),6,.cm (.clo) [(617,619),(618,620),(619,621),(620,618)] [(619,617),(620,618),(621,619),(618,620)] [] [.d,.d,.d] [(617,.var (Qct q)),(618,.var (Qe s)),(619,.var [.clo (.func 173) [] [.L 620]]),(620,.var (QP i))] (.b y),3] rfl (a4_ rfl (fun σ g k _=>Stp.idxV rfl rfl (QS a.n rfl) (g _ _ rfl) (g _ _ rfl) (Qr.es rfl) (k _ _ rfl) (by decide)) rfl (Qqu _ _ _ l)) ?_
 refine bg_ h (fun e h=>Qa a [.T,13,.K [2] [617,618,619,620,621,622]] rfl (a1_ e) ?_) fun e h=>Qa a [.F,4,.v .no [] (.I 2),2] rfl (a2_ e rfl) ?_
 ·cases h
  exact d1_ r6_
 refine AK.met (AK.rnd ?_)
 obtain⟨z,m,h⟩:=Qb h
 refine Qa a [2,.v .no [] (.b true),10,.o (.any (.loc 617 0 4) none),1,.kill 4,2,.O 4 (.var [.clo (.func 177) [] [.L 622,.L 618],.I w]),6,.cm (.clo) [(617,622),(618,618)] [(622,617),(618,618)] [] [.d,.d] [(617,.var (Qd u)),(618,.var (QP i))] (.b z),3] rfl (a4_ rfl (fun σ g k _=>Stp.idxV rfl rfl (QS a.n rfl) (g _ _ rfl) (g _ _ rfl) (Qr.es rfl) (k _ _ rfl) (by decide)) rfl (Qqv _ _ m)) ?_
 refine bg_ h (fun f h=>Qa a [.T,13,.K [2] [617,618,619,620,621,622]] rfl (a1_ f) ?_) fun f h=>Qa a [.F,4,.v .no [] (.I 3),2] rfl (a2_ f rfl) ?_
 ·cases h
  exact d1_ r6_
 refine AK.met (AK.rnd ?_)
 refine Qa a [2,.v .no [] (.b false),15] rfl (a1_ rfl) ?_
 cases h
 exact d1_ r6_
def Qgs (a:Int)(b:Qau)(c:(List Qau))(d:Qq):Option Int:=
 (QiF b 1 c a 5 d 3).bind fun e=>
 some e
theorem Qss (c e a b){r}(h:Qgs c e a b=some r):Qc prog 172 [.I c,.agg (QP e),.L 617,.L 618] [(617,.var (Qct a)),(618,.var (Qd b))] (Gives (.I r) [(617,.var (Qct a)),(618,.var (Qd b))]):=by
 refine wk_ 17 func172 fun C g=>?_
 obtain⟨i,f,h⟩:=Qb h
 refine Qa g [12,.O 7 (.var [.clo (.func 173) [] [.L 5]]),5,.A [.clo (.func 174) [] [.L 5],.I 1],1,.A [.clo (.func 175) [] [.L 617,.L 4,.L 7],.I 5],1,.A [.clo (.func 177) [] [.L 618,.L 5],.I 3],.o (.any (.own 15 3) (some (.var [.clo (.func 174) [] [.L 5],.I 1,.clo (.func 175) [] [.L 617,.L 4,.L 7],.I 5,.clo (.func 177) [] [.L 618,.L 5],.I 3]))),.cm (.fn) [(617,15),(618,5),(619,617),(620,4),(621,7),(622,618)] [(15,617),(5,618),(617,619),(4,620),(7,621),(618,622)] [] [.d] [(617,.var [.clo (.func 174) [] [.L 618],.I 1,.clo (.func 175) [] [.L 619,.L 620,.L 621],.I 5,.clo (.func 177) [] [.L 622,.L 618],.I 3]),(618,.var (QP e)),(619,.var (Qct a)),(620,.var (Qe c)),(621,.var [.clo (.func 173) [] [.L 618]]),(622,.var (Qd b))] (.I i),4] rfl (a6_ rfl rfl rfl rfl (fun σ j k hf=>Stp.buildAny rfl rfl (QS g.n rfl) (Qr.es rfl) Qoy rfl (by decide) (by decide) (Qf2 j rfl) rfl rfl (hf rfl)) (QuG _ _ _ _ _ _ _ f)) ?_
 cases h
 exact d1_ r2_
def QeF (d:(List Qau))(e:(List Qau))(f:Qq)(a:Int):Option (Int⊕((Int×Int)⊕Unit)):=
 bif (decide (a<(d.length:Int)))then
 (idx d a).bind fun c=>
 (Qgs a c e f).bind fun b=>
 bif (b != 0)then
 some (.inr (.inl (a,b)))
 else
 some (.inl (w64 (a+1)))
 else
 some (.inr (.inr ()))
def QeG (a:Int)(b:Int):Option (Int×Int):=
 some (a,b)
def QeH : Option (Int×Int):=
 some (0,0)
def QfJ (a:(List Qau))(b:(List Qau))(c:Qq):Option (Int×Int):=
 (Qw (fun st=>QeF a b c st) 0).bind (Sum.elim (fun q=>QeG q.1 q.2) (fun q=>QeH))
theorem Qrg (j f g){r}(h:QfJ j f g=some r):Qc prog 171 [.sl 2 (j.map QP),.clo (.func 172) [] [.L 617,.L 618]] [(617,.var (Qct f)),(618,.var (Qd g))] (Gives (.tup [.I r.1,.I r.2]) [(617,.var (Qct f)),(618,.var (Qd g))]):=by
 refine wk_ 25 func171 fun C i=>?_
 refine Qa i [10,.o (.ln j.length),4,.K [1,9,10,11] [617,618]] rfl (a1_ Qf) ?_
 obtain⟨p,k,h⟩:=Qb h
 refine AK.loop (body:=(fun st=>QeF j f g st)) (fun st σ=>σ=⟨[(1,.clo (.func 172) [] [.L 617,.L 618]),(9,.sl 2 (j.map QP)),(10,.I (j.length:Int)),(11,.I st)],[(617,.var (Qct f)),(618,.var (Qd g))]⟩) (Sum.elim (fun q e σ=>e=.ret/\σ=⟨[(4,.I q.1),(5,.I q.2)],[(617,.var (Qct f)),(618,.var (Qd g))]⟩) (fun q e σ=>e=.exit 0/\σ=⟨[],[(617,.var (Qct f)),(618,.var (Qd g))]⟩)) k rfl ?_ ?_
 ·rintro w o σ rfl h
  refine tg_ i [6] ?_
  rcases Qp h with⟨a,h⟩|⟨a,h⟩
  ·obtain⟨c,l,h⟩:=Qb h
   obtain⟨s,m,h⟩:=Qb h
   refine Qa i [.T,7,.o (.row (QP c)),.A (QP c),3,.O 7 (.var (QP c)),6,.A (QP c),.cm (.clo) [(617,617),(618,618)] [(617,617),(618,618)] [] [.d,.d,.d,.d] [(617,.var (Qct f)),(618,.var (Qd g))] (.I s),9] rfl (a6_ a (QE l) rfl rfl rfl (Qss _ _ _ _ m)) ?_
   refine bq_ i h [.T,11,.K [4,5] [617,618]] rfl (fun b h=>?_) [.F,7,.K [1,9,10,11] [617,618]] rfl fun b h=>?_
   ·cases h
    exact Q6 rfl (an_ rfl rfl)
   cases h
   exact QR rfl rfl
  refine Qa i [.F,2,.K [] [617,618]] rfl (a1_ a) ?_
  cases h
  exact QT rfl (an_ rfl rfl)
 rcases p with(⟨t,u⟩|_)
 ·replace h:QeG t u=some r:=h
  rintro e σ ⟨rfl,rfl⟩
  refine tg_ i [2] ?_
  cases h
  exact d2_ r2_
 replace h:QeH=some r:=h
 rintro e σ ⟨rfl,rfl⟩
 refine tg_ i [9] ?_
 cases h
 exact d2_ r2_
def QhE (b:Qq)(a:(List Qau)):Option Int:=
 (QfJ a a b).bind fun c=>
 some c.2
theorem QtY (a b){r}(h:QhE a b=some r):Qc prog 125 [.agg (Qd a),.sl 2 (b.map QP)] [] (Gives (.I r) []):=by
 refine wk_ 14 func125 fun C f=>?_
 obtain⟨e,c,h⟩:=Qb h
 refine Qa f [11,.cm (.fn) [(617,3),(618,2)] [(3,617),(2,618)] [] [.d,.d] [(617,.var (Qct b)),(618,.var (Qd a))] (.tup [.I e.1,.I e.2]),14] rfl (a1_ (Qrg _ _ _ c)) ?_
 cases h
 exact d1_ tt_
def Qlm (a:Qq)(b:QG):Option Int:=
 (QhE a b.Vars).bind fun c=>
 some c
theorem Qwq (a b){r}(h:Qlm a b=some r):Qc prog 124 [.L 617,.L 618] [(617,.var (Qd a)),(618,.var (Qm b))] (Gives (.I r) [(617,.var (Qd a)),(618,.var (Qm b))]):=by
 refine wk_ 7 func124 fun C f=>?_
 obtain⟨g,e,h⟩:=Qb h
 refine Qa f [7,.A (Qd a),2,.o (.C2 (.I g)),4] rfl (a2_ rfl (QtY _ _ e)) ?_
 cases h
 exact d1_ r2_
def QjZ (b:Qq)(c:QG)(d:Int):Option (Bool×Int):=
 (Qlm b c).bind fun a=>
 some ((a==0),a)
theorem Qvu (c e j){r}(h:QjZ c e j=some r):Qc prog 170 [.L 617,.L 620] [(617,.var [.clo (.func 124) [] [.L 618,.L 619]]),(618,.var (Qd c)),(619,.var (Qm e)),(620,.var [.L 621]),(621,.var (Qe j))] (Gives (.b r.1) [(617,.var [.clo (.func 124) [] [.L 618,.L 619]]),(618,.var (Qd c)),(619,.var (Qm e)),(620,.var [.L 621]),(621,.var (Qe r.2))]):=by
 refine wk_ 11 func170 fun C f=>?_
 obtain⟨g,i,h⟩:=Qb h
 refine tg_ f [6,.K [0,1] [617,618,619,620,621]] ?_
 refine AK.draw2 Qr f mixed [.N,.N,.a (.any (.I g) none) none false,.N,.m .s] [] [] [1] [617,618,619,620,621] rfl rfl rfl ⟨tt_,(fun σ k l _=>Stp.callSame (md:=.cm (.clo) [(617,618),(618,619)] [(618,617),(619,618)] [] [.d,.d] [(617,.var (Qd c)),(618,.var (Qm e))] (.I g) [618,619]) Qr f k l rfl ⟨⟨tt_,(Qwq _ _ i)⟩,r2_⟩)⟩ rfl (by kernel_rfl) rfl rfl rfl ?_
 refine Qa f [.O 621 (.var (Qe g)),11] rfl (a1_ rfl) ?_
 cases h
 exact d1_ r5_
def QiG (e:QG)(f:Qq)(a:Int)(c:Int):Option ((Int×Int)⊕(Unit⊕Int)):=
 bif (decide (c<(e.Vars.length:Int)))then
 (idx e.Vars c).bind fun d=>
 (QaH f.Colours d.Colour).bind fun b=>
 bif (b==0)then
 some (.inr (.inl ()))
 else
 some (.inl ((min2 (w64 (a*b)) 1025),(w64 (c+1))))
 else
 some (.inr (.inr a))
def QiH : Option Int:=
 some 0
def QiI (a:Int):Option Int:=
 some a
def Qi3 (a:Qq)(b:Int):Option Int:=
 (Qdw a.Tasks b).bind fun c=>
 bif (!c)then
 some 0
 else
 (idx a.Tasks b).bind fun d=>
 (Qw (fun st=>QiG d a st.1 st.2) (1,0)).bind (Sum.elim (fun q=>QiH) (fun q=>QiI q))
theorem Qqw (t z){r}(h:Qi3 t z=some r):Qc prog 33 [.agg (Qd t),.I z] [] (Gives (.I r) []):=by
 refine wk_ 38 func33 fun C g=>?_
 obtain⟨B,u,h⟩:=Qb h
 refine Qa g [12,.o (.C2 (.b B)),3] rfl (a1_ (QjY _ _ u)) ?_
 rcases Qp h with⟨i,h⟩|⟨i,h⟩
 ·refine Qa g [.T,7] rfl (a1_ i) ?_
  cases h
  exact d1_ tt_
 obtain⟨l,w,h⟩:=Qb h
 refine Qa g [.F,13,.o (.row (Qm l)),2,.o (.ln l.Vars.length),4,.K [2,5,19,20,21] [2]] rfl (a3_ i (QE w) Qf) ?_
 obtain⟨x,m,h⟩:=Qb h
 refine AK.loop (body:=(fun st=>QiG l t st.1 st.2)) (fun st σ=>σ=⟨[lk_ 2,(5,.I st.1),(19,.sl 2 (l.Vars.map QP)),(20,.I (l.Vars.length:Int)),(21,.I st.2)],[(2,.var (Qd t))]⟩) (Sum.elim (fun q e σ=>e=.ret/\σ=⟨[(4,.I 0)],[]⟩) (fun q e σ=>e=.exit 0/\σ=⟨[(5,.I q)],[]⟩)) m rfl ?_ ?_
 ·rintro ⟨A,D⟩ o σ rfl h
  refine tg_ g [6] ?_
  rcases Qp h with⟨a,h⟩|⟨a,h⟩
  ·obtain⟨j,p,h⟩:=Qb h
   obtain⟨y,s,h⟩:=Qb h
   refine Qa g [.T,6,.o (.row (QP j)),.A (QP j),2,.O 7 (.var (QP j)),8,.o (.C2 (.I y)),10] rfl (a5_ a (QE p) rfl rfl (Qix _ _ s)) ?_
   refine bq_ g h [.T,9,.K [4] []] rfl (fun f h=>?_) [.F,15,.K [2,5,19,20,21] [2]] rfl fun f h=>?_
   ·cases h
    exact Q6 rfl (an_ rfl rfl)
   cases h
   exact QR rfl rfl
  refine Qa g [.F,2,.K [5] []] rfl (a1_ a) ?_
  cases h
  exact QT rfl (an_ rfl rfl)
 rcases x with(_ | k)
 ·replace h:QiH=some r:=h
  rintro e σ ⟨rfl,rfl⟩
  refine tg_ g [2] ?_
  cases h
  exact d1_ tt_
 replace h:QiI k=some r:=h
 rintro e σ ⟨rfl,rfl⟩
 refine tg_ g [9] ?_
 cases h
 exact d1_ tt_
def Qln (a:Qq)(b:Int):Option Bool:=
 (Qi3 a b).bind fun c=>
 some (decide (c<=1024))
theorem Qwr (a e){r}(h:Qln a e=some r):Qc prog 126 [.L 617,.L 618] [(617,.var (Qd a)),(618,.var (Qe e))] (Gives (.b r) [(617,.var (Qd a)),(618,.var (Qe e))]):=by
 refine wk_ 7 func126 fun C g=>?_
 obtain⟨i,f,h⟩:=Qb h
 refine Qa g [7,.A (Qd a),1,.o (.C2 (.I i)),5] rfl (a2_ rfl (Qqw _ _ f)) ?_
 cases h
 exact d1_ r2_
def Qpf (a:QG)(b:Int):Option Bool:=
 (Qe7 a.Guard b).bind fun c=>
 bif c then
 bif (decide (0<(a.Ins.length:Int)))then
 some (decide (0<(a.Outs.length:Int)))
 else
 some false
 else
 some false
def QhF (a:Bool):Option Bool:=
 some a
def Qlo (a:QG)(b:Int):Option Bool:=
 (Qpf a b).bind (fun c=>QhF c)
theorem Qws (a i){r}(h:Qlo a i=some r):Qc prog 127 [.L 617,.L 618] [(617,.var (Qm a)),(618,.var (Qe i))] (Gives (.b r) [(617,.var (Qm a)),(618,.var (Qe i))]):=by
 refine wk_ 19 func127 fun C e=>?_
 refine tg_ e [6] ?_
 obtain⟨j,k,h⟩:=Qb h
 replace h:QhF j=some r:=h
 refine AK.meetX (fun σ=>σ=⟨[(2,.b j)],[(617,.var (Qm a)),(618,.var (Qe i))]⟩) ?_ ?_
 ·replace h:=k
  obtain⟨m,l,h⟩:=Qb h
  refine Qa e [2,.A (Qn a.Guard),1,.o (.C2 (.b m)),1] rfl (a2_ rfl (Qnf _ _ l)) ?_
  refine bg_ h (fun f h=>Qa e [.S 7 (.b true),2,.o (.ln a.Ins.length),3] rfl ⟨(tc_ f),Qf⟩ ?_) fun f h=>Qa e [.S 7 (.b false),13,.K [2] [617,618]] rfl (tc_ f) ?_
  ·refine bg_ h (fun g h=>Qa e [.S 13 (.b true),2,.o (.ln a.Outs.length),4,.K [2] [617,618]] rfl ⟨(tc_ g),Qf⟩ ?_) fun g h=>Qa e [.S 13 (.b false),7,.K [2] [617,618]] rfl (tc_ g) ?_
   ·cases h
    exact mt_
   cases h
   exact mt_
  cases h
  exact mt_
 rintro σ rfl
 replace h:QhF j=some r:=h
 refine tg_ e [2] ?_
 cases h
 exact d1_ r2_
def QiJ (a:Qq)(b:Qas):Option Bool:=
 (QaT a.Places b.Place).bind fun c=>
 some c
theorem QuH (a e){r}(h:QiJ a e=some r):Qc prog 183 [.L 617,.L 618] [(617,.var (Qd a)),(618,.var (Q5 e))] (Gives (.b r) [(617,.var (Qd a)),(618,.var (Q5 e))]):=by
 refine wk_ 8 func183 fun C g=>?_
 obtain⟨i,f,h⟩:=Qb h
 refine Qa g [11,.o (.C2 (.b i)),4] rfl (a1_ (Qcl _ _ f)) ?_
 cases h
 exact d1_ r2_
def QiK (a:Qas)(b:Int):Option Bool:=
 (Qe7 a.Expr b).bind fun c=>
 some c
theorem QuI (a e){r}(h:QiK a e=some r):Qc prog 184 [.L 617,.L 618] [(617,.var (Q5 a)),(618,.var (Qe e))] (Gives (.b r) [(617,.var (Q5 a)),(618,.var (Qe e))]):=by
 refine wk_ 7 func184 fun C g=>?_
 obtain⟨i,f,h⟩:=Qb h
 refine Qa g [8,.A (Qn a.Expr),1,.o (.C2 (.b i)),4] rfl (a2_ rfl (Qnf _ _ f)) ?_
 cases h
 exact d1_ r2_
def QiL (c:Qq)(b:Qas)(d:Int)(e:Int)(f:Int):Option Int:=
 (QiJ c b).bind fun g=>
 bif (!g)then
 some d
 else
 (QiK b e).bind fun a=>
 bif (!a)then
 some f
 else
 some 0
theorem QuJ (j f k l m){r}(h:QiL j f k l m=some r):Qc prog 57 [.own 617 2] [(617,.var [.clo (.func 183) [] [.L 618,.L 619],.I k,.clo (.func 184) [] [.L 619,.L 620],.I m]),(618,.var (Qd j)),(619,.var (Q5 f)),(620,.var (Qe l))] (Gives (.I r) [(617,.var [.clo (.func 183) [] [.L 618,.L 619],.I k,.clo (.func 184) [] [.L 619,.L 620],.I m]),(618,.var (Qd j)),(619,.var (Q5 f)),(620,.var (Qe l))]):=by
 refine wk_ 18 func57 fun C c=>?_
 refine tg_ c [14] ?_
 refine AK.loopN 3 (AK.rnd ?_)
 obtain⟨t,p,h⟩:=Qb h
 refine Qa c [2,.v .no [] (.b true),10,.o (.any (.L 617) none),3,.O 4 (.var [.clo (.func 183) [] [.L 618,.L 619],.I k]),6,.cm (.clo) [(617,618),(618,619)] [(618,617),(619,618)] [] [.d,.d] [(617,.var (Qd j)),(618,.var (Q5 f))] (.b t),3] rfl (a4_ rfl (fun σ g q _=>Stp.idxV rfl rfl (QS c.n rfl) (g _ _ rfl) (g _ _ rfl) (Qr.es rfl) (q _ _ rfl) (by decide)) rfl (QuH _ _ p)) ?_
 refine bg_ h (fun e h=>Qa c [.T,13,.K [2] [617,618,619,620]] rfl (a1_ e) ?_) fun e h=>Qa c [.F,4,.v .no [] (.I 1),2] rfl (a2_ e rfl) ?_
 ·cases h
  exact d1_ r4_
 refine AK.met (AK.rnd ?_)
 obtain⟨s,i,h⟩:=Qb h
 refine Qa c [2,.v .no [] (.b true),10,.o (.any (.loc 617 0 2) none),1,.kill 4,2,.O 4 (.var [.clo (.func 184) [] [.L 619,.L 620],.I m]),6,.cm (.clo) [(617,619),(618,620)] [(619,617),(620,618)] [] [.d,.d] [(617,.var (Q5 f)),(618,.var (Qe l))] (.b s),3] rfl (a4_ rfl (fun σ g q _=>Stp.idxV rfl rfl (QS c.n rfl) (g _ _ rfl) (g _ _ rfl) (Qr.es rfl) (q _ _ rfl) (by decide)) rfl (QuI _ _ i)) ?_
 refine bg_ h (fun a h=>Qa c [.T,13,.K [2] [617,618,619,620]] rfl (a1_ a) ?_) fun a h=>Qa c [.F,4,.v .no [] (.I 2),2] rfl (a2_ a rfl) ?_
 ·cases h
  exact d1_ r4_
 refine AK.met (AK.rnd ?_)
 refine Qa c [2,.v .no [] (.b false),15] rfl (a1_ rfl) ?_
 cases h
 exact d1_ r4_
def Qlp (e:Int)(a:Qas)(b:Qq)(c:Int):Option Int:=
 (QiL b a 3 c 1).bind fun d=>
 some d
theorem Qwt (f c a b){r}(h:Qlp f c a b=some r):Qc prog 182 [.I f,.agg (Q5 c),.L 617,.L 618] [(617,.var (Qd a)),(618,.var (Qe b))] (Gives (.I r) [(617,.var (Qd a)),(618,.var (Qe b))]):=by
 refine wk_ 13 func182 fun C g=>?_
 obtain⟨i,e,h⟩:=Qb h
 refine Qa g [9,.A [.clo (.func 183) [] [.L 617,.L 5],.I 3],1,.A [.clo (.func 184) [] [.L 5,.L 618],.I 1],.o (.any (.own 11 2) (some (.var [.clo (.func 183) [] [.L 617,.L 5],.I 3,.clo (.func 184) [] [.L 5,.L 618],.I 1]))),.cm (.fn) [(617,11),(618,617),(619,5),(620,618)] [(11,617),(617,618),(5,619),(618,620)] [] [.d] [(617,.var [.clo (.func 183) [] [.L 618,.L 619],.I 3,.clo (.func 184) [] [.L 619,.L 620],.I 1]),(618,.var (Qd a)),(619,.var (Q5 c)),(620,.var (Qe b))] (.I i),4] rfl (a4_ rfl rfl (fun σ j k hf=>Stp.buildAny rfl rfl (QS g.n rfl) (Qr.es rfl) Qoy rfl (by decide) (by decide) (Qf2 j rfl) rfl rfl (hf rfl)) (QuJ _ _ _ _ _ e)) ?_
 cases h
 exact d1_ r2_
def QeI (d:(List Qas))(e:Qq)(f:Int)(a:Int):Option (Int⊕((Int×Int)⊕Unit)):=
 bif (decide (a<(d.length:Int)))then
 (idx d a).bind fun c=>
 (Qlp a c e f).bind fun b=>
 bif (b != 0)then
 some (.inr (.inl (a,b)))
 else
 some (.inl (w64 (a+1)))
 else
 some (.inr (.inr ()))
def QeJ (a:Int)(b:Int):Option (Int×Int):=
 some (a,b)
def QeK : Option (Int×Int):=
 some (0,0)
def QfK (a:(List Qas))(b:Qq)(c:Int):Option (Int×Int):=
 (Qw (fun st=>QeI a b c st) 0).bind (Sum.elim (fun q=>QeJ q.1 q.2) (fun q=>QeK))
theorem Qrh (j f g){r}(h:QfK j f g=some r):Qc prog 181 [.sl 4 (j.map Q5),.clo (.func 182) [] [.L 617,.L 618]] [(617,.var (Qd f)),(618,.var (Qe g))] (Gives (.tup [.I r.1,.I r.2]) [(617,.var (Qd f)),(618,.var (Qe g))]):=by
 refine wk_ 25 func181 fun C i=>?_
 refine Qa i [10,.o (.ln j.length),4,.K [1,9,10,11] [617,618]] rfl (a1_ Qf) ?_
 obtain⟨p,k,h⟩:=Qb h
 refine AK.loop (body:=(fun st=>QeI j f g st)) (fun st σ=>σ=⟨[(1,.clo (.func 182) [] [.L 617,.L 618]),(9,.sl 4 (j.map Q5)),(10,.I (j.length:Int)),(11,.I st)],[(617,.var (Qd f)),(618,.var (Qe g))]⟩) (Sum.elim (fun q e σ=>e=.ret/\σ=⟨[(4,.I q.1),(5,.I q.2)],[(617,.var (Qd f)),(618,.var (Qe g))]⟩) (fun q e σ=>e=.exit 0/\σ=⟨[],[(617,.var (Qd f)),(618,.var (Qe g))]⟩)) k rfl ?_ ?_
 ·rintro w o σ rfl h
  refine tg_ i [6] ?_
  rcases Qp h with⟨a,h⟩|⟨a,h⟩
  ·obtain⟨c,l,h⟩:=Qb h
   obtain⟨s,m,h⟩:=Qb h
   refine Qa i [.T,7,.o (.row (Q5 c)),.A (Q5 c),3,.O 7 (.var (Q5 c)),6,.A (Q5 c),.cm (.clo) [(617,617),(618,618)] [(617,617),(618,618)] [] [.d,.d,.d,.d] [(617,.var (Qd f)),(618,.var (Qe g))] (.I s),9] rfl (a6_ a (QE l) rfl rfl rfl (Qwt _ _ _ _ m)) ?_
   refine bq_ i h [.T,11,.K [4,5] [617,618]] rfl (fun b h=>?_) [.F,7,.K [1,9,10,11] [617,618]] rfl fun b h=>?_
   ·cases h
    exact Q6 rfl (an_ rfl rfl)
   cases h
   exact QR rfl rfl
  refine Qa i [.F,2,.K [] [617,618]] rfl (a1_ a) ?_
  cases h
  exact QT rfl (an_ rfl rfl)
 rcases p with(⟨t,u⟩|_)
 ·replace h:QeJ t u=some r:=h
  rintro e σ ⟨rfl,rfl⟩
  refine tg_ i [2] ?_
  cases h
  exact d2_ r2_
 replace h:QeK=some r:=h
 rintro e σ ⟨rfl,rfl⟩
 refine tg_ i [9] ?_
 cases h
 exact d2_ r2_
def QkE (b:Qq)(c:(List Qas))(a:Int):Option Int:=
 (QfK c b a).bind fun d=>
 some d.2
theorem QrM (b e a){r}(h:QkE b e a=some r):Qc prog 130 [.agg (Qd b),.sl 4 (e.map Q5),.I a] [] (Gives (.I r) []):=by
 refine wk_ 16 func130 fun C g=>?_
 obtain⟨f,c,h⟩:=Qb h
 refine Qa g [11,.cm (.fn) [(617,3),(618,5)] [(3,617),(5,618)] [] [.d,.d] [(617,.var (Qd b)),(618,.var (Qe a))] (.tup [.I f.1,.I f.2]),14] rfl (a1_ (Qrh _ _ _ c)) ?_
 cases h
 exact d1_ tt_
def Qlq (a:Qq)(b:QG)(c:Int):Option Int:=
 (QkE a b.Ins c).bind fun d=>
 some d
theorem Qwu (a b e){r}(h:Qlq a b e=some r):Qc prog 129 [.L 617,.L 618,.L 619] [(617,.var (Qd a)),(618,.var (Qm b)),(619,.var (Qe e))] (Gives (.I r) [(617,.var (Qd a)),(618,.var (Qm b)),(619,.var (Qe e))]):=by
 refine wk_ 9 func129 fun C g=>?_
 obtain⟨i,f,h⟩:=Qb h
 refine Qa g [7,.A (Qd a),3,.o (.C3 (.I i)),4] rfl (a2_ rfl (QrM _ _ _ f)) ?_
 cases h
 exact d1_ r3_
def Qg2 (b:Qq)(c:QG)(d:Int)(e:Int):Option (Bool×Int):=
 (Qlq b c d).bind fun a=>
 some ((a==0),a)
theorem QsQ (c e f k){r}(h:Qg2 c e f k=some r):Qc prog 170 [.L 617,.L 621] [(617,.var [.clo (.func 129) [] [.L 618,.L 619,.L 620]]),(618,.var (Qd c)),(619,.var (Qm e)),(620,.var (Qe f)),(621,.var [.L 622]),(622,.var (Qe k))] (Gives (.b r.1) [(617,.var [.clo (.func 129) [] [.L 618,.L 619,.L 620]]),(618,.var (Qd c)),(619,.var (Qm e)),(620,.var (Qe f)),(621,.var [.L 622]),(622,.var (Qe r.2))]):=by
 refine wk_ 11 func170 fun C g=>?_
 obtain⟨i,j,h⟩:=Qb h
 refine tg_ g [6,.K [0,1] [617,618,619,620,621,622]] ?_
 refine AK.draw2 Qr g mixed [.N,.N,.a (.any (.I i) none) none false,.N,.m .s] [] [] [1] [617,618,619,620,621,622] rfl rfl rfl ⟨tt_,(fun σ l o _=>Stp.callSame (md:=.cm (.clo) [(617,618),(618,619),(619,620)] [(618,617),(619,618),(620,619)] [] [.d,.d,.d] [(617,.var (Qd c)),(618,.var (Qm e)),(619,.var (Qe f))] (.I i) [618,619,620]) Qr g l o rfl ⟨⟨tt_,(Qwu _ _ _ j)⟩,r3_⟩)⟩ rfl (by kernel_rfl) rfl rfl rfl ?_
 refine Qa g [.O 622 (.var (Qe i)),11] rfl (a1_ rfl) ?_
 cases h
 exact d1_ r6_
def Qlr (a:Qq)(b:QG)(c:Int):Option Int:=
 (QkE a b.Outs c).bind fun d=>
 some d
theorem Qwv (a b e){r}(h:Qlr a b e=some r):Qc prog 131 [.L 617,.L 618,.L 619] [(617,.var (Qd a)),(618,.var (Qm b)),(619,.var (Qe e))] (Gives (.I r) [(617,.var (Qd a)),(618,.var (Qm b)),(619,.var (Qe e))]):=by
 refine wk_ 9 func131 fun C g=>?_
 obtain⟨i,f,h⟩:=Qb h
 refine Qa g [7,.A (Qd a),3,.o (.C3 (.I i)),4] rfl (a2_ rfl (QrM _ _ _ f)) ?_
 cases h
 exact d1_ r3_
def Qg3 (b:Qq)(c:QG)(d:Int)(e:Int):Option (Bool×Int):=
 (Qlr b c d).bind fun a=>
 some ((a==0),a)
theorem QsR (c e f k){r}(h:Qg3 c e f k=some r):Qc prog 170 [.L 617,.L 621] [(617,.var [.clo (.func 131) [] [.L 618,.L 619,.L 620]]),(618,.var (Qd c)),(619,.var (Qm e)),(620,.var (Qe f)),(621,.var [.L 622]),(622,.var (Qe k))] (Gives (.b r.1) [(617,.var [.clo (.func 131) [] [.L 618,.L 619,.L 620]]),(618,.var (Qd c)),(619,.var (Qm e)),(620,.var (Qe f)),(621,.var [.L 622]),(622,.var (Qe r.2))]):=by
 refine wk_ 11 func170 fun C g=>?_
 obtain⟨i,j,h⟩:=Qb h
 refine tg_ g [6,.K [0,1] [617,618,619,620,621,622]] ?_
 refine AK.draw2 Qr g mixed [.N,.N,.a (.any (.I i) none) none false,.N,.m .s] [] [] [1] [617,618,619,620,621,622] rfl rfl rfl ⟨tt_,(fun σ l o _=>Stp.callSame (md:=.cm (.clo) [(617,618),(618,619),(619,620)] [(618,617),(619,618),(620,619)] [] [.d,.d,.d] [(617,.var (Qd c)),(618,.var (Qm e)),(619,.var (Qe f))] (.I i) [618,619,620]) Qr g l o rfl ⟨⟨tt_,(Qwv _ _ _ j)⟩,r3_⟩)⟩ rfl (by kernel_rfl) rfl rfl rfl ?_
 refine Qa g [.O 622 (.var (Qe i)),11] rfl (a1_ rfl) ?_
 cases h
 exact d1_ r6_
def Qgt (a:Qq)(b:Int):Option Bool:=
 (QaT a.Places b).bind fun c=>
 some c
theorem Qst (a e){r}(h:Qgt a e=some r):Qc prog 187 [.L 617,.L 618] [(617,.var (Qd a)),(618,.var (Qe e))] (Gives (.b r) [(617,.var (Qd a)),(618,.var (Qe e))]):=by
 refine wk_ 7 func187 fun C g=>?_
 obtain⟨i,f,h⟩:=Qb h
 refine Qa g [10,.o (.C2 (.b i)),4] rfl (a1_ (Qcl _ _ f)) ?_
 cases h
 exact d1_ r2_
def Qgu (b:(List Int))(a:Int)(c:Int):Option Bool:=
 (chk (decide (0<=a)&&decide (0<=a.toNat)&&decide (a.toNat<=b.length))).bind fun _=>
 (QaE ((b.drop 0).take (a.toNat-0)) c).bind fun d=>
 some (!d)
theorem Qsu (f g j){r}(h:Qgu f g j=some r):Qc prog 188 [.L 617,.L 618,.L 619] [(617,.var (Qv f)),(618,.var (Qe g)),(619,.var (Qe j))] (Gives (.b r) [(617,.var (Qv f)),(618,.var (Qe g)),(619,.var (Qe j))]):=by
 refine wk_ 10 func188 fun C i=>?_
 obtain⟨e,h⟩:=Qao h
 obtain⟨o,k,h⟩:=Qb h
 refine tg_ i [6,.K [0,1,2,3] [617,618,619]] ?_
 refine AK.draw2 Qr i mixed [.N,.N,.a (.any (.sl 1 (((f.drop 0).take (g.toNat-0)).map Qe)) none) none false,.N,.a (.C2 (.b o)) none false,.N,.m .s] [] [] [3] [617,618,619] rfl rfl rfl ⟨⟨tt_,(fun σ l p _=>Stp.sliceD rfl rfl (QS i.n rfl) (l _ _ rfl) (Qr.es rfl) Bnd.no (Bnd.val (l _ _ rfl) (Qak (Qqb e)) rfl) (Qak (Qqc e)) (QcB (Qak (QsB e)) (Nat.le_of_eq Qf.symm)) QtL)⟩,(Qh0 _ _ k)⟩ rfl (by kernel_rfl) rfl rfl rfl ?_
 refine tg_ i [2] ?_
 cases h
 exact d1_ r3_
def QiM (c:Qq)(b:Int)(d:Int)(e:(List Int))(f:Int)(g:Int):Option Int:=
 (Qgt c b).bind fun h=>
 bif (!h)then
 some d
 else
 (Qgu e f b).bind fun a=>
 bif (!a)then
 some g
 else
 some 0
theorem QuK (j f k l m p){r}(h:QiM j f k l m p=some r):Qc prog 57 [.own 617 2] [(617,.var [.clo (.func 187) [] [.L 618,.L 619],.I k,.clo (.func 188) [] [.L 620,.L 621,.L 619],.I p]),(618,.var (Qd j)),(619,.var (Qe f)),(620,.var (Qv l)),(621,.var (Qe m))] (Gives (.I r) [(617,.var [.clo (.func 187) [] [.L 618,.L 619],.I k,.clo (.func 188) [] [.L 620,.L 621,.L 619],.I p]),(618,.var (Qd j)),(619,.var (Qe f)),(620,.var (Qv l)),(621,.var (Qe m))]):=by
 refine wk_ 18 func57 fun C e=>?_
 refine tg_ e [14] ?_
 refine AK.loopN 3 (AK.rnd ?_)
 obtain⟨u,q,h⟩:=Qb h
 refine Qa e [2,.v .no [] (.b true),10,.o (.any (.L 617) none),3,.O 4 (.var [.clo (.func 187) [] [.L 618,.L 619],.I k]),6,.cm (.clo) [(617,618),(618,619)] [(618,617),(619,618)] [] [.d,.d] [(617,.var (Qd j)),(618,.var (Qe f))] (.b u),3] rfl (a4_ rfl (fun σ g s _=>Stp.idxV rfl rfl (QS e.n rfl) (g _ _ rfl) (g _ _ rfl) (Qr.es rfl) (s _ _ rfl) (by decide)) rfl (Qst _ _ q)) ?_
 refine bg_ h (fun a h=>Qa e [.T,13,.K [2] [617,618,619,620,621]] rfl (a1_ a) ?_) fun a h=>Qa e [.F,4,.v .no [] (.I 1),2] rfl (a2_ a rfl) ?_
 ·cases h
  exact d1_ r5_
 refine AK.met (AK.rnd ?_)
 obtain⟨t,i,h⟩:=Qb h
 refine Qa e [2,.v .no [] (.b true),10,.o (.any (.loc 617 0 2) none),1,.kill 4,2,.O 4 (.var [.clo (.func 188) [] [.L 620,.L 621,.L 619],.I p]),6,.cm (.clo) [(617,620),(618,621),(619,619)] [(620,617),(621,618),(619,619)] [] [.d,.d,.d] [(617,.var (Qv l)),(618,.var (Qe m)),(619,.var (Qe f))] (.b t),3] rfl (a4_ rfl (fun σ g s _=>Stp.idxV rfl rfl (QS e.n rfl) (g _ _ rfl) (g _ _ rfl) (Qr.es rfl) (s _ _ rfl) (by decide)) rfl (Qsu _ _ _ i)) ?_
 refine bg_ h (fun c h=>Qa e [.T,13,.K [2] [617,618,619,620,621]] rfl (a1_ c) ?_) fun c h=>Qa e [.F,4,.v .no [] (.I 2),2] rfl (a2_ c rfl) ?_
 ·cases h
  exact d1_ r5_
 refine AK.met (AK.rnd ?_)
 refine Qa e [2,.v .no [] (.b false),15] rfl (a1_ rfl) ?_
 cases h
 exact d1_ r5_
def QhG (b:Int)(a:Int)(c:Qq)(d:(List Int)):Option Int:=
 (QiM c a 3 d b 5).bind fun e=>
 some e
theorem QtZ (e a b c){r}(h:QhG e a b c=some r):Qc prog 186 [.I e,.I a,.L 617,.L 618] [(617,.var (Qd b)),(618,.var (Qv c))] (Gives (.I r) [(617,.var (Qd b)),(618,.var (Qv c))]):=by
 refine wk_ 13 func186 fun C g=>?_
 obtain⟨i,f,h⟩:=Qb h
 refine Qa g [10,.A [.clo (.func 187) [] [.L 617,.L 5],.I 3],1,.A [.clo (.func 188) [] [.L 618,.L 4,.L 5],.I 5],.o (.any (.own 11 2) (some (.var [.clo (.func 187) [] [.L 617,.L 5],.I 3,.clo (.func 188) [] [.L 618,.L 4,.L 5],.I 5]))),.cm (.fn) [(617,11),(618,617),(619,5),(620,618),(621,4)] [(11,617),(617,618),(5,619),(618,620),(4,621)] [] [.d] [(617,.var [.clo (.func 187) [] [.L 618,.L 619],.I 3,.clo (.func 188) [] [.L 620,.L 621,.L 619],.I 5]),(618,.var (Qd b)),(619,.var (Qe a)),(620,.var (Qv c)),(621,.var (Qe e))] (.I i),4] rfl (a4_ rfl rfl (fun σ j k hf=>Stp.buildAny rfl rfl (QS g.n rfl) (Qr.es rfl) Qoy rfl (by decide) (by decide) (Qf2 j rfl) rfl rfl (hf rfl)) (QuK _ _ _ _ _ _ f)) ?_
 cases h
 exact d1_ r2_
def Qgv (d:(List Int))(e:Qq)(f:(List Int))(a:Int):Option (Int⊕((Int×Int)⊕Unit)):=
 bif (decide (a<(d.length:Int)))then
 (idx d a).bind fun c=>
 (QhG a c e f).bind fun b=>
 bif (b != 0)then
 some (.inr (.inl (a,b)))
 else
 some (.inl (w64 (a+1)))
 else
 some (.inr (.inr ()))
def Qgw (a:Int)(b:Int):Option (Int×Int):=
 some (a,b)
def Qgx : Option (Int×Int):=
 some (0,0)
def QiN (a:(List Int))(b:Qq)(c:(List Int)):Option (Int×Int):=
 (Qw (fun st=>Qgv a b c st) 0).bind (Sum.elim (fun q=>Qgw q.1 q.2) (fun q=>Qgx))
theorem QuL (i c f){r}(h:QiN i c f=some r):Qc prog 185 [.sl 1 (i.map Qe),.clo (.func 186) [] [.L 617,.L 618]] [(617,.var (Qd c)),(618,.var (Qv f))] (Gives (.tup [.I r.1,.I r.2]) [(617,.var (Qd c)),(618,.var (Qv f))]):=by
 refine wk_ 25 func185 fun C g=>?_
 refine Qa g [10,.o (.ln i.length),4,.K [1,9,10,11] [617,618]] rfl (a1_ Qf) ?_
 obtain⟨m,j,h⟩:=Qb h
 refine AK.loop (body:=(fun st=>Qgv i c f st)) (fun st σ=>σ=⟨[(1,.clo (.func 186) [] [.L 617,.L 618]),(9,.sl 1 (i.map Qe)),(10,.I (i.length:Int)),(11,.I st)],[(617,.var (Qd c)),(618,.var (Qv f))]⟩) (Sum.elim (fun q e σ=>e=.ret/\σ=⟨[(4,.I q.1),(5,.I q.2)],[(617,.var (Qd c)),(618,.var (Qv f))]⟩) (fun q e σ=>e=.exit 0/\σ=⟨[],[(617,.var (Qd c)),(618,.var (Qv f))]⟩)) j rfl ?_ ?_
 ·rintro v o σ rfl h
  refine tg_ g [6] ?_
  rcases Qp h with⟨a,h⟩|⟨a,h⟩
  ·obtain⟨p,k,h⟩:=Qb h
   obtain⟨s,l,h⟩:=Qb h
   refine Qa g [.T,7,.o (.row (Qe p)),10,.cm (.clo) [(617,617),(618,618)] [(617,617),(618,618)] [] [.d,.d,.d,.d] [(617,.var (Qd c)),(618,.var (Qv f))] (.I s),9] rfl (a3_ a (QE k) (QtZ _ _ _ _ l)) ?_
   refine bq_ g h [.T,11,.K [4,5] [617,618]] rfl (fun b h=>?_) [.F,7,.K [1,9,10,11] [617,618]] rfl fun b h=>?_
   ·cases h
    exact Q6 rfl (an_ rfl rfl)
   cases h
   exact QR rfl rfl
  refine Qa g [.F,2,.K [] [617,618]] rfl (a1_ a) ?_
  cases h
  exact QT rfl (an_ rfl rfl)
 rcases m with(⟨t,u⟩|_)
 ·replace h:Qgw t u=some r:=h
  rintro e σ ⟨rfl,rfl⟩
  refine tg_ g [2] ?_
  cases h
  exact d2_ r2_
 replace h:Qgx=some r:=h
 rintro e σ ⟨rfl,rfl⟩
 refine tg_ g [9] ?_
 cases h
 exact d2_ r2_
def Qj0 (b:Qq)(a:(List Int)):Option Int:=
 (QiN a b a).bind fun c=>
 some c.2
theorem Qvv (a b){r}(h:Qj0 a b=some r):Qc prog 133 [.agg (Qd a),.sl 1 (b.map Qe)] [] (Gives (.I r) []):=by
 refine wk_ 14 func133 fun C f=>?_
 obtain⟨e,c,h⟩:=Qb h
 refine Qa f [11,.cm (.fn) [(617,2),(618,3)] [(2,617),(3,618)] [] [.d,.d] [(617,.var (Qd a)),(618,.var (Qv b))] (.tup [.I e.1,.I e.2]),14] rfl (a1_ (QuL _ _ _ c)) ?_
 cases h
 exact d1_ tt_
def Qj1 (a:Qq)(b:QG):Option Int:=
 (Qj0 a b.Cancel).bind fun c=>
 some c
theorem Qvw (a b){r}(h:Qj1 a b=some r):Qc prog 132 [.L 617,.L 618] [(617,.var (Qd a)),(618,.var (Qm b))] (Gives (.I r) [(617,.var (Qd a)),(618,.var (Qm b))]):=by
 refine wk_ 7 func132 fun C f=>?_
 obtain⟨g,e,h⟩:=Qb h
 refine Qa f [7,.A (Qd a),2,.o (.C2 (.I g)),4] rfl (a2_ rfl (Qvv _ _ e)) ?_
 cases h
 exact d1_ r2_
def Qg4 (b:Qq)(c:QG)(d:Int):Option (Bool×Int):=
 (Qj1 b c).bind fun a=>
 some ((a==0),a)
theorem QsS (c e j){r}(h:Qg4 c e j=some r):Qc prog 170 [.L 617,.L 620] [(617,.var [.clo (.func 132) [] [.L 618,.L 619]]),(618,.var (Qd c)),(619,.var (Qm e)),(620,.var [.L 621]),(621,.var (Qe j))] (Gives (.b r.1) [(617,.var [.clo (.func 132) [] [.L 618,.L 619]]),(618,.var (Qd c)),(619,.var (Qm e)),(620,.var [.L 621]),(621,.var (Qe r.2))]):=by
 refine wk_ 11 func170 fun C f=>?_
 obtain⟨g,i,h⟩:=Qb h
 refine tg_ f [6,.K [0,1] [617,618,619,620,621]] ?_
 refine AK.draw2 Qr f mixed [.N,.N,.a (.any (.I g) none) none false,.N,.m .s] [] [] [1] [617,618,619,620,621] rfl rfl rfl ⟨tt_,(fun σ k l _=>Stp.callSame (md:=.cm (.clo) [(617,618),(618,619)] [(618,617),(619,618)] [] [.d,.d] [(617,.var (Qd c)),(618,.var (Qm e))] (.I g) [618,619]) Qr f k l rfl ⟨⟨tt_,(Qvw _ _ i)⟩,r2_⟩)⟩ rfl (by kernel_rfl) rfl rfl rfl ?_
 refine Qa f [.O 621 (.var (Qe g)),11] rfl (a1_ rfl) ?_
 cases h
 exact d1_ r5_
def Qfm (a:Int)(b:(List Qas)):Option Bool:=
 some ((decide (1<=a))&&((decide (a<=3))&&((a != 3)||(decide ((b.length:Int)<=4)))))
theorem QoD (a g){r}(h:Qfm a g=some r):Qc prog 189 [.I a,.sl 4 (g.map Q5)] [] (Gives (.b r) []):=by
 refine wk_ 20 func189 fun C f=>?_
 unfold Qfm at h
 refine tg_ f [6] ?_
 refine AK.meetX (fun σ=>σ=⟨[(4,.b ((decide (1<=a))&&((decide (a<=3))&&((a != 3)||(decide ((g.length:Int)<=4))))))],[]⟩) ?_ ?_
 ·refine tg_ f [4] ?_
  rcases QD (decide (1<=a))with c | c
  ·refine Qa f [.S 7 (.b true),4] rfl (tc_ c) ?_
   rcases QD (decide (a<=3))with d | d
   ·refine Qa f [.S 11 (.b true),3] rfl (tc_ d) ?_
    rcases QD (a != 3)with e | e
    ·refine Qa f [.S 14 (.b true),7,.S 4 (.b ((decide (1<=a))&&((decide (a<=3))&&((a != 3)||(decide ((g.length:Int)<=4)))))),.K [4] []] rfl ⟨(tc_ e),(congrArg V.b (Qai c (Qai d (orT e rfl))))⟩ ?_
     exact mt_
    refine Qa f [.S 14 (.b false),1,.o (.ln g.length),5,.S 4 (.b ((decide (1<=a))&&((decide (a<=3))&&((a != 3)||(decide ((g.length:Int)<=4)))))),.K [4] []] rfl ⟨⟨(tc_ e),Qf⟩,(congrArg V.b (Qai c (Qai d (orF e rfl))))⟩ ?_
    exact mt_
   refine Qa f [.S 11 (.b false),10,.S 4 (.b ((decide (1<=a))&&((decide (a<=3))&&((a != 3)||(decide ((g.length:Int)<=4)))))),.K [4] []] rfl ⟨(tc_ d),(congrArg V.b (Qai c (QaS d rfl)))⟩ ?_
   exact mt_
  refine Qa f [.S 7 (.b false),14,.S 4 (.b ((decide (1<=a))&&((decide (a<=3))&&((a != 3)||(decide ((g.length:Int)<=4)))))),.K [4] []] rfl ⟨(tc_ c),(congrArg V.b (QaS c rfl))⟩ ?_
  exact mt_
 rintro σ rfl
 refine tg_ f [2] ?_
 cases h
 exact d1_ tt_
def Qqx (a:QG):Option Bool:=
 (Qfm a.Join a.Ins).bind fun b=>
 bif b then
 (Qfm a.Split a.Outs).bind fun c=>
 bif c then
 bif (decide (0<=a.After))then
 bif (decide (a.After<=65536))then
 some (((a.Many.1==0)&&((a.Many.2.1==0)&&(a.Many.2.2==0)))||((decide (1<=a.Many.1))&&((decide (a.Many.1<=a.Many.2.1))&&((decide (a.Many.2.1<=16))&&((decide (1<=a.Many.2.2))&&(decide (a.Many.2.2<=a.Many.2.1)))))))
 else
 some false
 else
 some false
 else
 some false
 else
 some false
def QiO (a:Bool):Option Bool:=
 some a
def Qi4 (a:QG):Option Bool:=
 (Qqx a).bind (fun b=>QiO b)
theorem Qxk (a){r}(h:Qi4 a=some r):Qc prog 135 [.agg (Qm a)] [] (Gives (.b r) []):=by
 refine wk_ 70 func135 fun C e=>?_
 unfold Qi4 at h
 refine tg_ e [7,.K [1] [1]] ?_
 refine AK.draw2 Qr e mixed [.N,.N,.N,.N,.N,.N,.N,.N,.N,.N,.N,.N] [] [] [1,3,4,5] [1] rfl rfl rfl tt_ rfl (by kernel_rfl) rfl rfl rfl ?_
 refine tg_ e [2] ?_
 refine AK.meetX (fun σ=>σ=⟨[lk_ 1,(6,.b (((a.Many.1==0)&&((a.Many.2.1==0)&&(a.Many.2.2==0)))||((decide (1<=a.Many.1))&&((decide (a.Many.1<=a.Many.2.1))&&((decide (a.Many.2.1<=16))&&((decide (1<=a.Many.2.2))&&(decide (a.Many.2.2<=a.Many.2.1))))))))],[(1,.var (Qm a))]⟩) ?_ ?_
 ·refine Qa e [2,.A (Qy5 a.Many),.A (Qy5 (0,0,0)),.o (.any (.b ((a.Many.1==0)&&((a.Many.2.1==0)&&(a.Many.2.2==0)))) none),1] rfl (a3_ rfl rfl (fun σ z A _=>Stp.eqAgg rfl rfl (QS e.n rfl) (z _ _ rfl) (z _ _ rfl) rfl rfl (QFu _ _ _ _ _ _))) ?_
  rcases QD ((a.Many.1==0)&&((a.Many.2.1==0)&&(a.Many.2.2==0)))with f | f
  ·refine Qa e [.S 21 (.b true),23,.S 6 (.b (((a.Many.1==0)&&((a.Many.2.1==0)&&(a.Many.2.2==0)))||((decide (1<=a.Many.1))&&((decide (a.Many.1<=a.Many.2.1))&&((decide (a.Many.2.1<=16))&&((decide (1<=a.Many.2.2))&&(decide (a.Many.2.2<=a.Many.2.1)))))))),.K [1,6] [1]] rfl ⟨(tc_ f),(congrArg V.b (orT f rfl))⟩ ?_
   exact mt_
  refine Qa e [.S 21 (.b false),3] rfl (tc_ f) ?_
  rcases QD (decide (1<=a.Many.1))with g | g
  ·refine Qa e [.S 24 (.b true),5] rfl (tc_ g) ?_
   rcases QD (decide (a.Many.1<=a.Many.2.1))with i | i
   ·refine Qa e [.S 29 (.b true),4] rfl (tc_ i) ?_
    rcases QD (decide (a.Many.2.1<=16))with j | j
    ·refine Qa e [.S 33 (.b true),4] rfl (tc_ j) ?_
     rcases QD (decide (1<=a.Many.2.2))with k | k
     ·refine Qa e [.S 37 (.b true),7,.S 6 (.b (((a.Many.1==0)&&((a.Many.2.1==0)&&(a.Many.2.2==0)))||((decide (1<=a.Many.1))&&((decide (a.Many.1<=a.Many.2.1))&&((decide (a.Many.2.1<=16))&&((decide (1<=a.Many.2.2))&&(decide (a.Many.2.2<=a.Many.2.1)))))))),.K [1,6] [1]] rfl ⟨(tc_ k),(congrArg V.b (orF f (Qai g (Qai i (Qai j (Qai k rfl))))))⟩ ?_
      exact mt_
     refine Qa e [.S 37 (.b false),7,.S 6 (.b (((a.Many.1==0)&&((a.Many.2.1==0)&&(a.Many.2.2==0)))||((decide (1<=a.Many.1))&&((decide (a.Many.1<=a.Many.2.1))&&((decide (a.Many.2.1<=16))&&((decide (1<=a.Many.2.2))&&(decide (a.Many.2.2<=a.Many.2.1)))))))),.K [1,6] [1]] rfl ⟨(tc_ k),(congrArg V.b (orF f (Qai g (Qai i (Qai j (QaS k rfl))))))⟩ ?_
     exact mt_
    refine Qa e [.S 33 (.b false),11,.S 6 (.b (((a.Many.1==0)&&((a.Many.2.1==0)&&(a.Many.2.2==0)))||((decide (1<=a.Many.1))&&((decide (a.Many.1<=a.Many.2.1))&&((decide (a.Many.2.1<=16))&&((decide (1<=a.Many.2.2))&&(decide (a.Many.2.2<=a.Many.2.1)))))))),.K [1,6] [1]] rfl ⟨(tc_ j),(congrArg V.b (orF f (Qai g (Qai i (QaS j rfl)))))⟩ ?_
    exact mt_
   refine Qa e [.S 29 (.b false),15,.S 6 (.b (((a.Many.1==0)&&((a.Many.2.1==0)&&(a.Many.2.2==0)))||((decide (1<=a.Many.1))&&((decide (a.Many.1<=a.Many.2.1))&&((decide (a.Many.2.1<=16))&&((decide (1<=a.Many.2.2))&&(decide (a.Many.2.2<=a.Many.2.1)))))))),.K [1,6] [1]] rfl ⟨(tc_ i),(congrArg V.b (orF f (Qai g (QaS i rfl))))⟩ ?_
   exact mt_
  refine Qa e [.S 24 (.b false),20,.S 6 (.b (((a.Many.1==0)&&((a.Many.2.1==0)&&(a.Many.2.2==0)))||((decide (1<=a.Many.1))&&((decide (a.Many.1<=a.Many.2.1))&&((decide (a.Many.2.1<=16))&&((decide (1<=a.Many.2.2))&&(decide (a.Many.2.2<=a.Many.2.1)))))))),.K [1,6] [1]] rfl ⟨(tc_ g),(congrArg V.b (orF f (QaS g rfl)))⟩ ?_
  exact mt_
 rintro σ rfl
 refine tg_ e [7] ?_
 obtain⟨w,s,h⟩:=Qb h
 replace h:QiO w=some r:=h
 refine AK.meetX (fun σ=>σ=⟨[(2,.b w)],[]⟩) ?_ ?_
 ·replace h:=s
  obtain⟨x,t,h⟩:=Qb h
  refine Qa e [6,.o (.C2 (.b x)),1] rfl (a1_ (QoD _ _ t)) ?_
  rcases Qp h with⟨l,h⟩|⟨l,h⟩
  ·obtain⟨y,u,h⟩:=Qb h
   refine Qa e [.S 49 (.b true),5,.o (.C2 (.b y)),2] rfl ⟨(tc_ l),(QoD _ _ u)⟩ ?_
   refine bg_ h (fun m h=>Qa e [.S 57 (.b true),5] rfl (tc_ m) ?_) fun m h=>Qa e [.S 57 (.b false),14,.K [2] []] rfl (tc_ m) ?_
   ·refine bg_ h (fun p h=>Qa e [.S 62 (.b true),5] rfl (tc_ p) ?_) fun p h=>Qa e [.S 62 (.b false),9,.K [2] []] rfl (tc_ p) ?_
    ·refine bg_ h (fun q h=>Qa e [.S 67 (.b true),4,.K [2] []] rfl (tc_ q) ?_) fun q h=>Qa e [.S 67 (.b false),4,.K [2] []] rfl (tc_ q) ?_
     ·cases h
      exact mt_
     cases h
     exact mt_
    cases h
    exact mt_
   cases h
   exact mt_
  refine Qa e [.S 49 (.b false),22,.K [2] []] rfl (tc_ l) ?_
  cases h
  exact mt_
 rintro σ rfl
 replace h:QiO w=some r:=h
 refine tg_ e [2] ?_
 cases h
 exact d1_ tt_
def Qj2 (a:QG):Option Bool:=
 (Qi4 a).bind fun b=>
 some b
theorem Qvx (a){r}(h:Qj2 a=some r):Qc prog 134 [.L 617] [(617,.var (Qm a))] (Gives (.b r) [(617,.var (Qm a))]):=by
 refine wk_ 4 func134 fun C f=>?_
 obtain⟨g,e,h⟩:=Qb h
 refine Qa f [7,.A (Qm a),.o (.C1 (.b g)),4] rfl (a2_ rfl (Qxk _ e)) ?_
 cases h
 exact d1_ r1_
def Qgd (b:QG)(v:Int)(f:Qq)(u:Int)(w:Int)(g:Int)(x:Int)(h:Int)(y:Int)(i:Int)(j:Int)(k:Int)(l:Int)(m:Int)(n:Int):Option (Int×Int):=
 (Qlj b).bind fun o=>
 bif (!o)then
 some (v,h)
 else
 (Qll f u b).bind fun p=>
 bif (!p)then
 some (w,h)
 else
 (Qh5 g b).bind fun q=>
 bif (!q)then
 some (x,h)
 else
 (QjZ f b h).bind fun a=>
 bif (!a.1)then
 some (y,a.2)
 else
 (Qln f u).bind fun r=>
 bif (!r)then
 some (i,a.2)
 else
 (Qlo b g).bind fun s=>
 bif (!s)then
 some (j,a.2)
 else
 (Qg2 f b g a.2).bind fun d=>
 bif (!d.1)then
 some (k,d.2)
 else
 (Qg3 f b g d.2).bind fun e=>
 bif (!e.1)then
 some (l,e.2)
 else
 (Qg4 f b e.2).bind fun c=>
 bif (!c.1)then
 some (m,c.2)
 else
 (Qj2 b).bind fun t=>
 bif (!t)then
 some (n,c.2)
 else
 some (0,c.2)
theorem QuM (f v2 u E v5 D v7 v8 v9 w x y z A B){r}(h:Qgd f v2 u E v5 D v7 v8 v9 w x y z A B=some r):Qc prog 57 [.own 617 10] [(617,.var [.clo (.func 119) [] [.L 618],.I v2,.clo (.func 120) [] [.L 619,.L 620,.L 621],.I v5,.clo (.func 122) [] [.L 622,.L 618],.I v7,.clo (.func 170) [] [.L 623,.L 624],.I v9,.clo (.func 126) [] [.L 619,.L 620],.I w,.clo (.func 127) [] [.L 618,.L 622],.I x,.clo (.func 170) [] [.L 626,.L 627],.I y,.clo (.func 170) [] [.L 628,.L 629],.I z,.clo (.func 170) [] [.L 630,.L 631],.I A,.clo (.func 134) [] [.L 618],.I B]),(618,.var (Qm f)),(619,.var (Qd u)),(620,.var (Qe E)),(621,.var [.clo (.func 118) [] [.L 618]]),(622,.var (Qe D)),(623,.var [.clo (.func 124) [] [.L 619,.L 618]]),(624,.var [.L 625]),(625,.var (Qe v8)),(626,.var [.clo (.func 129) [] [.L 619,.L 618,.L 622]]),(627,.var [.L 625]),(628,.var [.clo (.func 131) [] [.L 619,.L 618,.L 622]]),(629,.var [.L 625]),(630,.var [.clo (.func 132) [] [.L 619,.L 618]]),(631,.var [.L 625])] (Gives (.I r.1) [(617,.var [.clo (.func 119) [] [.L 618],.I v2,.clo (.func 120) [] [.L 619,.L 620,.L 621],.I v5,.clo (.func 122) [] [.L 622,.L 618],.I v7,.clo (.func 170) [] [.L 623,.L 624],.I v9,.clo (.func 126) [] [.L 619,.L 620],.I w,.clo (.func 127) [] [.L 618,.L 622],.I x,.clo (.func 170) [] [.L 626,.L 627],.I y,.clo (.func 170) [] [.L 628,.L 629],.I z,.clo (.func 170) [] [.L 630,.L 631],.I A,.clo (.func 134) [] [.L 618],.I B]),(618,.var (Qm f)),(619,.var (Qd u)),(620,.var (Qe E)),(621,.var [.clo (.func 118) [] [.L 618]]),(622,.var (Qe D)),(623,.var [.clo (.func 124) [] [.L 619,.L 618]]),(624,.var [.L 625]),(625,.var (Qe r.2)),(626,.var [.clo (.func 129) [] [.L 619,.L 618,.L 622]]),(627,.var [.L 625]),(628,.var [.clo (.func 131) [] [.L 619,.L 618,.L 622]]),(629,.var [.L 625]),(630,.var [.clo (.func 132) [] [.L 619,.L 618]]),(631,.var [.L 625])]):=by
 refine wk_ 18 func57 fun C a=>?_
 refine tg_ a [14] ?_
 refine AK.loopN 11 (AK.rnd ?_)
 obtain⟨a1,G,h⟩:=Qb h
 refine Qa a [2,.v .no [] (.b true),10,.o (.any (.L 617) none),3,.O 4 (.var [.clo (.func 119) [] [.L 618],.I v2]),6,.cm (.clo) [(617,618)] [(618,617)] [] [.d] [(617,.var (Qm f))] (.b a1),3] rfl (a4_ rfl (fun σ c e _=>Stp.idxV rfl rfl (QS a.n rfl) (c _ _ rfl) (c _ _ rfl) (Qr.es rfl) (e _ _ rfl) (by decide)) rfl (Qwm _ G)) ?_
 refine bg_ h (fun g h=>Qa a [.T,13,.K [2] [617,618,619,620,621,622,623,624,625,626,627,628,629,630,631]] rfl (a1_ g) ?_) fun g h=>Qa a [.F,4,.v .no [] (.I 1),2] rfl (a2_ g rfl) ?_
 ·cases h
  exact d1_ rF_
 refine AK.met (AK.rnd ?_)
 obtain⟨a2,H,h⟩:=Qb h
 refine Qa a [2,.v .no [] (.b true),10,.o (.any (.loc 617 0 2) none),1,.kill 4,2,.O 4 (.var [.clo (.func 120) [] [.L 619,.L 620,.L 621],.I v5]),6,.cm (.clo) [(617,619),(618,620),(619,621),(620,618)] [(619,617),(620,618),(621,619),(618,620)] [] [.d,.d,.d] [(617,.var (Qd u)),(618,.var (Qe E)),(619,.var [.clo (.func 118) [] [.L 620]]),(620,.var (Qm f))] (.b a2),3] rfl (a4_ rfl (fun σ c e _=>Stp.idxV rfl rfl (QS a.n rfl) (c _ _ rfl) (c _ _ rfl) (Qr.es rfl) (e _ _ rfl) (by decide)) rfl (Qwo _ _ _ H)) ?_
 refine bg_ h (fun i h=>Qa a [.T,13,.K [2] [617,618,619,620,621,622,623,624,625,626,627,628,629,630,631]] rfl (a1_ i) ?_) fun i h=>Qa a [.F,4,.v .no [] (.I 2),2] rfl (a2_ i rfl) ?_
 ·cases h
  exact d1_ rF_
 refine AK.met (AK.rnd ?_)
 obtain⟨a3,J,h⟩:=Qb h
 refine Qa a [2,.v .no [] (.b true),10,.o (.any (.loc 617 0 4) none),1,.kill 4,2,.O 4 (.var [.clo (.func 122) [] [.L 622,.L 618],.I v7]),6,.cm (.clo) [(617,622),(618,618)] [(622,617),(618,618)] [] [.d,.d] [(617,.var (Qe D)),(618,.var (Qm f))] (.b a3),3] rfl (a4_ rfl (fun σ c e _=>Stp.idxV rfl rfl (QS a.n rfl) (c _ _ rfl) (c _ _ rfl) (Qr.es rfl) (e _ _ rfl) (by decide)) rfl (Qwp _ _ J)) ?_
 refine bg_ h (fun j h=>Qa a [.T,13,.K [2] [617,618,619,620,621,622,623,624,625,626,627,628,629,630,631]] rfl (a1_ j) ?_) fun j h=>Qa a [.F,4,.v .no [] (.I 3),2] rfl (a2_ j rfl) ?_
 ·cases h
  exact d1_ rF_
 refine AK.met (AK.rnd ?_)
 obtain⟨L,M,h⟩:=Qb h
 refine Qa a [2,.v .no [] (.b true),10,.o (.any (.loc 617 0 6) none),1,.kill 4,2,.O 4 (.var [.clo (.func 170) [] [.L 623,.L 624],.I v9]),6,.cm (.clo) [(617,623),(618,619),(619,618),(620,624),(621,625)] [(623,617),(619,618),(618,619),(624,620),(625,621)] [] [.d,.d] [(617,.var [.clo (.func 124) [] [.L 618,.L 619]]),(618,.var (Qd u)),(619,.var (Qm f)),(620,.var [.L 621]),(621,.var (Qe L.2))] (.b L.1),3] rfl (a4_ rfl (fun σ c e _=>Stp.idxV rfl rfl (QS a.n rfl) (c _ _ rfl) (c _ _ rfl) (Qr.es rfl) (e _ _ rfl) (by decide)) rfl (Qvu _ _ _ M)) ?_
 refine bg_ h (fun k h=>Qa a [.T,13,.K [2] [617,618,619,620,621,622,623,624,625,626,627,628,629,630,631]] rfl (a1_ k) ?_) fun k h=>Qa a [.F,4,.v .no [] (.I 4),2] rfl (a2_ k rfl) ?_
 ·cases h
  exact d1_ rF_
 refine AK.met (AK.rnd ?_)
 obtain⟨a4,N,h⟩:=Qb h
 refine Qa a [2,.v .no [] (.b true),10,.o (.any (.loc 617 0 8) none),1,.kill 4,2,.O 4 (.var [.clo (.func 126) [] [.L 619,.L 620],.I w]),6,.cm (.clo) [(617,619),(618,620)] [(619,617),(620,618)] [] [.d,.d] [(617,.var (Qd u)),(618,.var (Qe E))] (.b a4),3] rfl (a4_ rfl (fun σ c e _=>Stp.idxV rfl rfl (QS a.n rfl) (c _ _ rfl) (c _ _ rfl) (Qr.es rfl) (e _ _ rfl) (by decide)) rfl (Qwr _ _ N)) ?_
 refine bg_ h (fun l h=>Qa a [.T,13,.K [2] [617,618,619,620,621,622,623,624,625,626,627,628,629,630,631]] rfl (a1_ l) ?_) fun l h=>Qa a [.F,4,.v .no [] (.I 5),2] rfl (a2_ l rfl) ?_
 ·cases h
  exact d1_ rF_
 refine AK.met (AK.rnd ?_)
 obtain⟨a5,P,h⟩:=Qb h
 refine Qa a [2,.v .no [] (.b true),10,.o (.any (.loc 617 0 10) none),1,.kill 4,2,.O 4 (.var [.clo (.func 127) [] [.L 618,.L 622],.I x]),6,.cm (.clo) [(617,618),(618,622)] [(618,617),(622,618)] [] [.d,.d] [(617,.var (Qm f)),(618,.var (Qe D))] (.b a5),3] rfl (a4_ rfl (fun σ c e _=>Stp.idxV rfl rfl (QS a.n rfl) (c _ _ rfl) (c _ _ rfl) (Qr.es rfl) (e _ _ rfl) (by decide)) rfl (Qws _ _ P)) ?_
 refine bg_ h (fun m h=>Qa a [.T,13,.K [2] [617,618,619,620,621,622,623,624,625,626,627,628,629,630,631]] rfl (a1_ m) ?_) fun m h=>Qa a [.F,4,.v .no [] (.I 6),2] rfl (a2_ m rfl) ?_
 ·cases h
  exact d1_ rF_
 refine AK.met (AK.rnd ?_)
 obtain⟨S,U,h⟩:=Qb h
 refine Qa a [2,.v .no [] (.b true),10,.o (.any (.loc 617 0 12) none),1,.kill 4,2,.O 4 (.var [.clo (.func 170) [] [.L 626,.L 627],.I y]),6,.cm (.clo) [(617,626),(618,619),(619,618),(620,622),(621,627),(622,625)] [(626,617),(619,618),(618,619),(622,620),(627,621),(625,622)] [] [.d,.d] [(617,.var [.clo (.func 129) [] [.L 618,.L 619,.L 620]]),(618,.var (Qd u)),(619,.var (Qm f)),(620,.var (Qe D)),(621,.var [.L 622]),(622,.var (Qe S.2))] (.b S.1),3] rfl (a4_ rfl (fun σ c e _=>Stp.idxV rfl rfl (QS a.n rfl) (c _ _ rfl) (c _ _ rfl) (Qr.es rfl) (e _ _ rfl) (by decide)) rfl (QsQ _ _ _ _ U)) ?_
 refine bg_ h (fun p h=>Qa a [.T,13,.K [2] [617,618,619,620,621,622,623,624,625,626,627,628,629,630,631]] rfl (a1_ p) ?_) fun p h=>Qa a [.F,4,.v .no [] (.I 7),2] rfl (a2_ p rfl) ?_
 ·cases h
  exact d1_ rF_
 refine AK.met (AK.rnd ?_)
 obtain⟨W,X,h⟩:=Qb h
 refine Qa a [2,.v .no [] (.b true),10,.o (.any (.loc 617 0 14) none),1,.kill 4,2,.O 4 (.var [.clo (.func 170) [] [.L 628,.L 629],.I z]),6,.cm (.clo) [(617,628),(618,619),(619,618),(620,622),(621,629),(622,625)] [(628,617),(619,618),(618,619),(622,620),(629,621),(625,622)] [] [.d,.d] [(617,.var [.clo (.func 131) [] [.L 618,.L 619,.L 620]]),(618,.var (Qd u)),(619,.var (Qm f)),(620,.var (Qe D)),(621,.var [.L 622]),(622,.var (Qe W.2))] (.b W.1),3] rfl (a4_ rfl (fun σ c e _=>Stp.idxV rfl rfl (QS a.n rfl) (c _ _ rfl) (c _ _ rfl) (Qr.es rfl) (e _ _ rfl) (by decide)) rfl (QsR _ _ _ _ X)) ?_
 refine bg_ h (fun q h=>Qa a [.T,13,.K [2] [617,618,619,620,621,622,623,624,625,626,627,628,629,630,631]] rfl (a1_ q) ?_) fun q h=>Qa a [.F,4,.v .no [] (.I 8),2] rfl (a2_ q rfl) ?_
 ·cases h
  exact d1_ rF_
 refine AK.met (AK.rnd ?_)
 obtain⟨Y,Z,h⟩:=Qb h
 refine Qa a [2,.v .no [] (.b true),10,.o (.any (.loc 617 0 16) none),1,.kill 4,2,.O 4 (.var [.clo (.func 170) [] [.L 630,.L 631],.I A]),6,.cm (.clo) [(617,630),(618,619),(619,618),(620,631),(621,625)] [(630,617),(619,618),(618,619),(631,620),(625,621)] [] [.d,.d] [(617,.var [.clo (.func 132) [] [.L 618,.L 619]]),(618,.var (Qd u)),(619,.var (Qm f)),(620,.var [.L 621]),(621,.var (Qe Y.2))] (.b Y.1),3] rfl (a4_ rfl (fun σ c e _=>Stp.idxV rfl rfl (QS a.n rfl) (c _ _ rfl) (c _ _ rfl) (Qr.es rfl) (e _ _ rfl) (by decide)) rfl (QsS _ _ _ Z)) ?_
 refine bg_ h (fun s h=>Qa a [.T,13,.K [2] [617,618,619,620,621,622,623,624,625,626,627,628,629,630,631]] rfl (a1_ s) ?_) fun s h=>Qa a [.F,4,.v .no [] (.I 9),2] rfl (a2_ s rfl) ?_
 ·cases h
  exact d1_ rF_
 refine AK.met (AK.rnd ?_)
 obtain⟨a6,a0,h⟩:=Qb h
 refine Qa a [2,.v .no [] (.b true),10,.o (.any (.loc 617 0 18) none),1,.kill 4,2,.O 4 (.var [.clo (.func 134) [] [.L 618],.I B]),6,.cm (.clo) [(617,618)] [(618,617)] [] [.d] [(617,.var (Qm f))] (.b a6),3] rfl (a4_ rfl (fun σ c e _=>Stp.idxV rfl rfl (QS a.n rfl) (c _ _ rfl) (c _ _ rfl) (Qr.es rfl) (e _ _ rfl) (by decide)) rfl (Qvx _ a0)) ?_
 refine bg_ h (fun t h=>Qa a [.T,13,.K [2] [617,618,619,620,621,622,623,624,625,626,627,628,629,630,631]] rfl (a1_ t) ?_) fun t h=>Qa a [.F,4,.v .no [] (.I 10),2] rfl (a2_ t rfl) ?_
 ·cases h
  exact d1_ rF_
 refine AK.met (AK.rnd ?_)
 refine Qa a [2,.v .no [] (.b false),15] rfl (a1_ rfl) ?_
 cases h
 exact d1_ rF_
def Qdx (a:Qq)(e:Int):Option Int:=
 (Qdw a.Tasks e).bind fun g=>
 bif (!g)then
 some 3
 else
 (Qg1 a).bind fun f=>
 bif (f.2 != 0)then
 some f.2
 else
 (idx a.Tasks e).bind fun d=>
 (idx a.Tasks e).bind fun b=>
 (Qmm 0 a d).bind fun h=>
 (QiB 0 a d (b.Vars.length:Int)).bind fun i=>
 (QiC 0 a d (b.Vars.length:Int)).bind fun j=>
 (QiD 0 a d).bind fun k=>
 (Qgd d 1 a e 5 (b.Vars.length:Int) 2 0 (-1) 2 1 (-1) (-1) (-1) 11).bind fun c=>
 bif (c.1==(-1))then
 some c.2
 else
 some c.1
theorem Qyi (i z){r}(h:Qdx i z=some r):Qc prog 68 [.agg (Qd i),.I z] [] (Gives (.I r) []):=by
 refine wk_ 68 func68 fun C g=>?_
 obtain⟨G,A,h⟩:=Qb h
 refine Qa g [13,.o (.C2 (.b G)),3] rfl (a1_ (QjY _ _ A)) ?_
 rcases Qp h with⟨k,h⟩|⟨k,h⟩
 ·refine Qa g [.T,7] rfl (a1_ k) ?_
  cases h
  exact d1_ tt_
 obtain⟨E,B,h⟩:=Qb h
 refine Qa g [.F,5,.A (Qd i),.o (.C1 (.tup [.I E.1,.I E.2])),13] rfl (a3_ k rfl (QoC _ B)) ?_
 rcases Qp h with⟨l,h⟩|⟨l,h⟩
 ·refine Qa g [.T,8] rfl (a1_ l) ?_
  cases h
  exact d1_ tt_
 obtain⟨j,D,h⟩:=Qb h
 obtain⟨e,p,h⟩:=Qb h
 refine Qa g [.F,3,.K [2,3] [2,3]] rfl (a1_ l) ?_
 refine AK.draw2 Qr g mixed [.N,.N,.N,.a (.row (Qm j)) none false,.a .no (some ([],.agg (Qm j))) false,.a .no none true,.a .no none true,.a .no none true,.a (.row (Qm e)) none true,.a .no none true,.a .no none true,.a (.ln e.Vars.length) none true,.N,.N,.m .s,.m .s] [2,3] [2,3] [2,3,7,8] [2,3,7,8] rfl rfl rfl ⟨⟨⟨⟨tt_,(QE D)⟩,rfl⟩,(QE p)⟩,Qf⟩ rfl (by kernel_rfl) rfl rfl rfl ?_
 obtain⟨H,q,h⟩:=Qb h
 obtain⟨J,t,h⟩:=Qb h
 obtain⟨L,u,h⟩:=Qb h
 obtain⟨M,w,h⟩:=Qb h
 obtain⟨x,y,h⟩:=Qb h
 refine Qa g [.O 7 (.var (Qm j)),.O 8 (.var (Qe (e.Vars.length:Int))),6,.O 9 (.var [.clo (.func 118) [] [.L 7]]),10,.A [.clo (.func 119) [] [.L 7],.I 1],1,.A [.clo (.func 120) [] [.L 2,.L 3,.L 9],.I 5],1,.A [.clo (.func 122) [] [.L 8,.L 7],.I 2],1,.cm (.fn) [(617,10),(618,2),(619,7)] [(45,2),(610,3),(10,617),(2,618),(7,619)] [] [.d,.d] [(2,.var [.L 617]),(3,.var [.clo (.func 124) [] [.L 618,.L 619]]),(617,.var (Qe 0)),(618,.var (Qd i)),(619,.var (Qm j))] (.clo (.func 170) [] [.L 3,.L 2]),.A [.clo (.func 170) [] [.L 610,.L 45],.I (-1)],1,.A [.clo (.func 126) [] [.L 2,.L 3],.I 2],1,.A [.clo (.func 127) [] [.L 7,.L 8],.I 1],1,.cm (.fn) [(617,10),(618,2),(619,7),(620,8)] [(52,2),(611,3),(10,617),(2,618),(7,619),(8,620)] [] [.d,.d] [(2,.var [.L 617]),(3,.var [.clo (.func 129) [] [.L 618,.L 619,.L 620]]),(617,.var (Qe 0)),(618,.var (Qd i)),(619,.var (Qm j)),(620,.var (Qe (e.Vars.length:Int)))] (.clo (.func 170) [] [.L 3,.L 2]),.A [.clo (.func 170) [] [.L 611,.L 52],.I (-1)],1,.cm (.fn) [(617,10),(618,2),(619,7),(620,8)] [(55,2),(612,3),(10,617),(2,618),(7,619),(8,620)] [] [.d,.d] [(2,.var [.L 617]),(3,.var [.clo (.func 131) [] [.L 618,.L 619,.L 620]]),(617,.var (Qe 0)),(618,.var (Qd i)),(619,.var (Qm j)),(620,.var (Qe (e.Vars.length:Int)))] (.clo (.func 170) [] [.L 3,.L 2]),.A [.clo (.func 170) [] [.L 612,.L 55],.I (-1)],1,.cm (.fn) [(617,10),(618,2),(619,7)] [(58,2),(613,3),(10,617),(2,618),(7,619)] [] [.d,.d] [(2,.var [.L 617]),(3,.var [.clo (.func 132) [] [.L 618,.L 619]]),(617,.var (Qe 0)),(618,.var (Qd i)),(619,.var (Qm j))] (.clo (.func 170) [] [.L 3,.L 2]),.A [.clo (.func 170) [] [.L 613,.L 58],.I (-1)],1,.A [.clo (.func 134) [] [.L 7],.I 11],.o (.any (.own 62 10) (some (.var [.clo (.func 119) [] [.L 7],.I 1,.clo (.func 120) [] [.L 2,.L 3,.L 9],.I 5,.clo (.func 122) [] [.L 8,.L 7],.I 2,.clo (.func 170) [] [.L 610,.L 45],.I (-1),.clo (.func 126) [] [.L 2,.L 3],.I 2,.clo (.func 127) [] [.L 7,.L 8],.I 1,.clo (.func 170) [] [.L 611,.L 52],.I (-1),.clo (.func 170) [] [.L 612,.L 55],.I (-1),.clo (.func 170) [] [.L 613,.L 58],.I (-1),.clo (.func 134) [] [.L 7],.I 11]))),.cm (.fn) [(617,62),(618,7),(619,2),(620,3),(621,9),(622,8),(623,610),(624,45),(625,10),(626,611),(627,52),(628,612),(629,55),(630,613),(631,58)] [(62,617),(7,618),(2,619),(3,620),(9,621),(8,622),(610,623),(45,624),(10,625),(611,626),(52,627),(612,628),(55,629),(613,630),(58,631)] [] [.d] [(617,.var [.clo (.func 119) [] [.L 618],.I 1,.clo (.func 120) [] [.L 619,.L 620,.L 621],.I 5,.clo (.func 122) [] [.L 622,.L 618],.I 2,.clo (.func 170) [] [.L 623,.L 624],.I (-1),.clo (.func 126) [] [.L 619,.L 620],.I 2,.clo (.func 127) [] [.L 618,.L 622],.I 1,.clo (.func 170) [] [.L 626,.L 627],.I (-1),.clo (.func 170) [] [.L 628,.L 629],.I (-1),.clo (.func 170) [] [.L 630,.L 631],.I (-1),.clo (.func 134) [] [.L 618],.I 11]),(618,.var (Qm j)),(619,.var (Qd i)),(620,.var (Qe z)),(621,.var [.clo (.func 118) [] [.L 618]]),(622,.var (Qe (e.Vars.length:Int))),(623,.var [.clo (.func 124) [] [.L 619,.L 618]]),(624,.var [.L 625]),(625,.var (Qe x.2)),(626,.var [.clo (.func 129) [] [.L 619,.L 618,.L 622]]),(627,.var [.L 625]),(628,.var [.clo (.func 131) [] [.L 619,.L 618,.L 622]]),(629,.var [.L 625]),(630,.var [.clo (.func 132) [] [.L 619,.L 618]]),(631,.var [.L 625])] (.I x.1),10] rfl ⟨⟨⟨⟨⟨⟨⟨⟨⟨⟨⟨⟨⟨⟨⟨⟨⟨⟨⟨tt_,rfl⟩,rfl⟩,rfl⟩,rfl⟩,rfl⟩,rfl⟩,(Qxj _ _ _ q)⟩,rfl⟩,rfl⟩,rfl⟩,(QuD _ _ _ _ t)⟩,rfl⟩,(QuE _ _ _ _ u)⟩,rfl⟩,(QuF _ _ _ w)⟩,rfl⟩,rfl⟩,(fun σ P S hf=>Stp.buildAny rfl rfl (QS g.n rfl) (Qr.es rfl) Qoy rfl (by decide) (by decide) (Qf2 P rfl) rfl rfl (hf rfl))⟩,(QuM _ _ _ _ _ _ _ _ _ _ _ _ _ _ _ y)⟩ ?_
 refine bq_ g h [.T,8,.K [4] []] rfl (fun f h=>?_) [.F,9,.K [4] []] rfl fun f h=>?_
 ·cases h
  exact d1_ tt_
 cases h
 exact d1_ tt_
def Qi5 (a:Int)(d:QG)(b:Qq):Option Int:=
 (Qdx b a).bind fun c=>
 some c
theorem Qxl (e f a){r}(h:Qi5 e f a=some r):Qc prog 67 [.I e,.agg (Qm f),.L 617] [(617,.var (Qd a))] (Gives (.I r) [(617,.var (Qd a))]):=by
 refine wk_ 9 func67 fun C g=>?_
 obtain⟨i,b,h⟩:=Qb h
 refine Qa g [8,.A (Qd a),1,.o (.C2 (.I i)),4] rfl (a2_ rfl (Qyi _ _ b)) ?_
 cases h
 exact d1_ r1_
def Qb4 (d:(List QG))(e:Qq)(a:Int):Option (Int⊕((Int×Int)⊕Unit)):=
 bif (decide (a<(d.length:Int)))then
 (idx d a).bind fun c=>
 (Qi5 a c e).bind fun b=>
 bif (b != 0)then
 some (.inr (.inl (a,b)))
 else
 some (.inl (w64 (a+1)))
 else
 some (.inr (.inr ()))
def Qej (b:Int)(a:Int):Option (Int×Int):=
 some (b,a)
def Qek : Option (Int×Int):=
 some (0,0)
def QcN (a:(List QG))(b:Qq):Option (Int×Int):=
 (Qw (fun st=>Qb4 a b st) 0).bind (Sum.elim (fun q=>Qej q.1 q.2) (fun q=>Qek))
theorem Qqy (i f){r}(h:QcN i f=some r):Qc prog 66 [.sl 14 (i.map Qm),.clo (.func 67) [] [.L 617]] [(617,.var (Qd f))] (Gives (.tup [.I r.1,.I r.2]) [(617,.var (Qd f))]):=by
 refine wk_ 25 func66 fun C g=>?_
 refine Qa g [10,.o (.ln i.length),4,.K [1,9,10,11] [617]] rfl (a1_ Qf) ?_
 obtain⟨m,j,h⟩:=Qb h
 refine AK.loop (body:=(fun st=>Qb4 i f st)) (fun st σ=>σ=⟨[(1,.clo (.func 67) [] [.L 617]),(9,.sl 14 (i.map Qm)),(10,.I (i.length:Int)),(11,.I st)],[(617,.var (Qd f))]⟩) (Sum.elim (fun q e σ=>e=.ret/\σ=⟨[(4,.I q.1),(5,.I q.2)],[(617,.var (Qd f))]⟩) (fun q e σ=>e=.exit 0/\σ=⟨[],[(617,.var (Qd f))]⟩)) j rfl ?_ ?_
 ·rintro u o σ rfl h
  refine tg_ g [6] ?_
  rcases Qp h with⟨a,h⟩|⟨a,h⟩
  ·obtain⟨c,k,h⟩:=Qb h
   obtain⟨p,l,h⟩:=Qb h
   refine Qa g [.T,7,.o (.row (Qm c)),.A (Qm c),3,.O 7 (.var (Qm c)),6,.A (Qm c),.cm (.clo) [(617,617)] [(617,617)] [] [.d,.d,.d] [(617,.var (Qd f))] (.I p),9] rfl (a6_ a (QE k) rfl rfl rfl (Qxl _ _ _ l)) ?_
   refine bq_ g h [.T,11,.K [4,5] [617]] rfl (fun b h=>?_) [.F,7,.K [1,9,10,11] [617]] rfl fun b h=>?_
   ·cases h
    exact Q6 rfl (an_ rfl rfl)
   cases h
   exact QR rfl rfl
  refine Qa g [.F,2,.K [] [617]] rfl (a1_ a) ?_
  cases h
  exact QT rfl (an_ rfl rfl)
 rcases m with(⟨t,s⟩|_)
 ·replace h:Qej t s=some r:=h
  rintro e σ ⟨rfl,rfl⟩
  refine tg_ g [2] ?_
  cases h
  exact d2_ r1_
 replace h:Qek=some r:=h
 rintro e σ ⟨rfl,rfl⟩
 refine tg_ g [9] ?_
 cases h
 exact d2_ r1_
def Qjh (c:Qq):Option (Int×QfF):=
 (Qmj c 2 3 1).bind fun e=>
 bif (e != 0)then
 some (e,(QfF.mk 1 0))
 else
 (Qg1 c).bind fun d=>
 bif (d.2 != 0)then
 some (d.2,(QfF.mk 2 d.1))
 else
 (Qe3 c.Places c).bind fun a=>
 bif (a.2 != 0)then
 some (a.2,(QfF.mk 3 a.1))
 else
 (QcN c.Tasks c).bind fun b=>
 bif (b.2 != 0)then
 some (b.2,(QfF.mk 4 b.1))
 else
 some (0,(QfF.mk 0 0))
theorem Qzf (k){r}(h:Qjh k=some r):Qc prog 32 [.agg (Qd k)] [] (Gives (.tup [.agg (QdS r.2),.I r.1]) []):=by
 refine wk_ 58 func32 fun C e=>?_
 obtain⟨t,q,h⟩:=Qb h
 refine Qa e [10,.A [.clo (.func 58) [] [.L 1],.I 2],1,.A [.clo (.func 59) [] [.L 1],.I 3],1,.A [.clo (.func 61) [] [.L 1],.I 1],.o (.any (.own 17 3) (some (.var [.clo (.func 58) [] [.L 1],.I 2,.clo (.func 59) [] [.L 1],.I 3,.clo (.func 61) [] [.L 1],.I 1]))),.cm (.fn) [(617,17),(618,1)] [(17,617),(1,618)] [] [.d] [(617,.var [.clo (.func 58) [] [.L 618],.I 2,.clo (.func 59) [] [.L 618],.I 3,.clo (.func 61) [] [.L 618],.I 1]),(618,.var (Qd k))] (.I t),10] rfl (a5_ rfl rfl rfl (fun σ u w hf=>Stp.buildAny rfl rfl (QS e.n rfl) (Qr.es rfl) Qoy rfl (by decide) (by decide) (Qf2 u rfl) rfl rfl (hf rfl)) (Qxf _ _ _ _ q)) ?_
 rcases Qp h with⟨i,h⟩|⟨i,h⟩
 ·refine Qa e [.T,2,.A (QdS (QfF.mk 1 0)),2,.O 2 (.var (QdS (QfF.mk 1 0))),5,.K [2,3] [2]] rfl (a3_ i rfl rfl) ?_
  cases h
  exact AK.done (ex_ [_,_] (an_ (an_ (ex_ _ (ex_ _ (an_ rfl (an_ rfl (Or.inl (an_ (Qr.ag rfl) (an_ (Qr.sz rfl) rfl))))))) (an_ rfl tt_)) (gives tt_)))
 obtain⟨p,s,h⟩:=Qb h
 refine Qa e [.F,5,.A (Qd k),.o (.C1 (.tup [.I p.1,.I p.2])),13] rfl (a3_ i rfl (QoC _ s)) ?_
 rcases Qp h with⟨j,h⟩|⟨j,h⟩
 ·refine Qa e [.T,3,.A (QdS (QfF.mk 2 p.1)),2,.O 2 (.var (QdS (QfF.mk 2 p.1))),5,.K [2,3] [2]] rfl (a3_ j rfl rfl) ?_
  cases h
  exact AK.done (ex_ [_,_] (an_ (an_ (ex_ _ (ex_ _ (an_ rfl (an_ rfl (Or.inl (an_ (Qr.ag rfl) (an_ (Qr.sz rfl) rfl))))))) (an_ rfl tt_)) (gives tt_)))
 obtain⟨f,l,h⟩:=Qb h
 refine Qa e [.F,8,.cm (.fn) [(617,1)] [(1,617)] [] [.d,.d] [(617,.var (Qd k))] (.tup [.I f.1,.I f.2]),13] rfl (a2_ j (QpS _ _ l)) ?_
 rcases Qp h with⟨a,h⟩|⟨a,h⟩
 ·refine Qa e [.T,3,.A (QdS (QfF.mk 3 f.1)),2,.O 2 (.var (QdS (QfF.mk 3 f.1))),5,.K [2,3] [2]] rfl (a3_ a rfl rfl) ?_
  cases h
  exact AK.done (ex_ [_,_] (an_ (an_ (ex_ _ (ex_ _ (an_ rfl (an_ rfl (Or.inl (an_ (Qr.ag rfl) (an_ (Qr.sz rfl) rfl))))))) (an_ rfl tt_)) (gives tt_)))
 obtain⟨g,m,h⟩:=Qb h
 refine Qa e [.F,8,.cm (.fn) [(617,1)] [(1,617)] [] [.d,.d] [(617,.var (Qd k))] (.tup [.I g.1,.I g.2]),13] rfl (a2_ a (Qqy _ _ m)) ?_
 refine bg_ h (fun b h=>Qa e [.T,3,.A (QdS (QfF.mk 4 g.1)),2,.O 2 (.var (QdS (QfF.mk 4 g.1))),5,.K [2,3] [2]] rfl (a3_ b rfl rfl) ?_) fun b h=>Qa e [.F,4,.A (QdS (QfF.mk 0 0)),1,.O 2 (.var (QdS (QfF.mk 0 0))),4,.K [2,3] [2]] rfl (a3_ b rfl rfl) ?_
 ·cases h
  exact AK.done (ex_ [_,_] (an_ (an_ (ex_ _ (ex_ _ (an_ rfl (an_ rfl (Or.inl (an_ (Qr.ag rfl) (an_ (Qr.sz rfl) rfl))))))) (an_ rfl tt_)) (gives tt_)))
 cases h
 exact AK.done (ex_ [_,_] (an_ (an_ (ex_ _ (ex_ _ (an_ rfl (an_ rfl (Or.inl (an_ (Qr.ag rfl) (an_ (Qr.sz rfl) rfl))))))) (an_ rfl tt_)) (gives tt_)))
def QrN (a:QBg)(b:Int):Option Bool:=
 (Qd8 a).bind fun c=>
 bif (!c)then
 some true
 else
 bif (decide (0<(a.length:Int)))then
 (idx a (w64 ((a.length:Int)-1))).bind fun d=>
 some (decide (b<=d.1))
 else
 some false
def Qj3 (b:Int)(a:Bool):Option (Int⊕(Unit⊕Unit)):=
 bif a then
 some (.inr (.inl ()))
 else
 some (.inl (w64 (b+1)))
def Qj4 (e:QMk)(f:Qq)(a:Int):Option (Int⊕(Unit⊕Unit)):=
 bif (decide (a<(e.length:Int)))then
 (idx e a).bind fun g=>
 (idx f.Places a).bind fun b=>
 (QaH f.Colours b.Colour).bind fun c=>
 (QrN g c).bind (fun d=>Qj3 a d)
 else
 some (.inr (.inr ()))
def QrO : Option Bool:=
 some false
def QrP : Option Bool:=
 some true
def Qnu (a:Qq)(b:QMk):Option Bool:=
 bif ((b.length:Int) != (a.Places.length:Int))then
 some false
 else
 (Qw (fun st=>Qj4 b a st) 0).bind (Sum.elim (fun q=>QrO) (fun q=>QrP))
theorem Qyj (s k){r}(h:Qnu s k=some r):Qc prog 27 [.agg (Qd s),.sl 1 (k.map Qg)] [] (Gives (.b r) []):=by
 refine wk_ 50 func27 fun C f=>?_
 refine Qa f [10,.o (.ln k.length),2,.o (.ln s.Places.length),3] rfl (a2_ Qf Qf) ?_
 refine bg_ h (fun l h=>Qa f [.T,7,.K [4] []] rfl (a1_ l) ?_) fun l h=>Qa f [.F,6,.o (.ln k.length),4,.K [2,14,15,16] [2]] rfl (a2_ l Qf) ?_
 ·cases h
  exact d1_ tt_
 obtain⟨z,t,h⟩:=Qb h
 refine AK.loop (body:=(fun st=>Qj4 k s st)) (fun st σ=>σ=⟨[lk_ 2,(14,.sl 1 (k.map Qg)),(15,.I (k.length:Int)),(16,.I st)],[(2,.var (Qd s))]⟩) (Sum.elim (fun q e σ=>e=.ret/\σ=⟨[(4,.b false)],[]⟩) (fun q e σ=>e=.exit 0/\σ=⟨[],[]⟩)) t rfl ?_ ?_
 ·rintro A o σ rfl h
  refine tg_ f [6] ?_
  rcases Qp h with⟨m,h⟩|⟨m,h⟩
  ·obtain⟨B,D,h⟩:=Qb h
   obtain⟨E,u,h⟩:=Qb h
   obtain⟨G,v,h⟩:=Qb h
   refine Qa f [.T,7,.o (.row (Qg B)),6,.K [2,5,6,14,15,16] [2]] rfl (a2_ m (QE D)) ?_
   refine AK.draw2 Qr f mixed [.N,.N,.N,.N,.N,.a (.row (QC E)) none false,.N,.N,.a (.C2 (.I G)) none false,.N] [] [] [2,6,7,14,15,16] [2] rfl rfl rfl ⟨⟨tt_,(QE u)⟩,(Qix _ _ v)⟩ rfl (by kernel_rfl) rfl rfl rfl ?_
   refine tg_ f [2] ?_
   obtain⟨p,w,h⟩:=Qb h
   replace h:Qj3 A p=some o:=h
   refine AK.meetX (fun σ=>σ=⟨[lk_ 2,(14,.sl 1 (k.map Qg)),(15,.I (k.length:Int)),(16,.I A),(48,.b p)],[(2,.var (Qd s))]⟩) ?_ ?_
   ·replace h:=w
    obtain⟨H,x,h⟩:=Qb h
    refine Qa f [2,.o (.C1 (.b H)),2] rfl (a1_ (QhY _ x)) ?_
    refine bg_ h (fun g h=>Qa f [.S 33 (.b true),16,.K [2,14,15,16,48] [2]] rfl (tc_ g) ?_) fun g h=>Qa f [.S 33 (.b false),1,.o (.ln B.length),2] rfl ⟨(tc_ g),Qf⟩ ?_
    ·cases h
     exact mt_
    rcases Qp h with⟨i,h⟩|⟨i,h⟩
    ·obtain⟨J,y,h⟩:=Qb h
     refine Qa f [.S 37 (.b true),2,.o (.ln B.length),1,.o (.row (Qo J)),7,.K [2,14,15,16,48] [2]] rfl ⟨⟨(tc_ i),Qf⟩,(QE y)⟩ ?_
     cases h
     exact mt_
    refine Qa f [.S 37 (.b false),12,.K [2,14,15,16,48] [2]] rfl (tc_ i) ?_
    cases h
    exact mt_
   rintro σ rfl
   replace h:Qj3 A p=some o:=h
   refine tg_ f [1] ?_
   refine bq_ f h [.T,8,.K [4] []] rfl (fun j h=>?_) [.F,7,.K [2,14,15,16] [2]] rfl fun j h=>?_
   ·cases h
    exact Q6 rfl (an_ rfl rfl)
   cases h
   exact QR rfl rfl
  refine Qa f [.F,2,.K [] []] rfl (a1_ m) ?_
  cases h
  exact QT rfl (an_ rfl rfl)
 rcases z with(_ | _)
 ·replace h:QrO=some r:=h
  rintro e σ ⟨rfl,rfl⟩
  refine tg_ f [2] ?_
  cases h
  exact d1_ tt_
 replace h:QrP=some r:=h
 rintro e σ ⟨rfl,rfl⟩
 refine tg_ f [8] ?_
 cases h
 exact d1_ tt_
def QrQ (a:(Int×QfF))(c:Qq)(d:QMk):Option Bool:=
 bif (a.1 != 0)then
 some true
 else
 (Qnu c d).bind fun b=>
 some (!b)
def Qj5 (d:Qq)(a:Int)(b:Int):Option ((Int×Int)⊕Int):=
 bif (decide (b<(d.Tasks.length:Int)))then
 (idx d.Tasks b).bind fun c=>
 (Qi3 d b).bind fun e=>
 some (.inl ((w64 (a+(w64 (e*(w64 (1+(w64 ((c.Ins.length:Int)*(c.Outs.length:Int))))))))),(w64 (b+1))))
 else
 some (.inr a)
def QrR (a:Int):Option Bool:=
 some (decide (a<=600))
def Qj6 (b:Qq)(a:Bool):Option Bool:=
 bif a then
 some false
 else
 (Qw (fun st=>Qj5 b st.1 st.2) (0,0)).bind (fun q=>QrR q)
def Qnv (a:Qq)(d:QMk):Option Bool:=
 (Ql3 a).bind fun e=>
 (Qom d).bind fun f=>
 bif ((!e)||((!f)||(decide (12<(a.Tasks.length:Int)))))then
 some false
 else
 (Qjh a).bind fun b=>
 (QrQ b a d).bind (fun c=>Qj6 a c)
theorem Qyk (g M){r}(h:Qnv g M=some r):Qc prog 9 [.agg (Qd g),.sl 1 (M.map Qg)] [] (Gives (.b r) []):=by
 refine wk_ 69 func9 fun C f=>?_
 obtain⟨z,P,h⟩:=Qb h
 obtain⟨A,U,h⟩:=Qb h
 refine Qa f [8,.A (Qd g),.o (.C1 (.b z)),6,.o (.C1 (.b A)),5] rfl (a3_ rfl (Qzd _ P) (Qze _ U)) ?_
 refine AK.meetX (fun σ=>σ=⟨[(1,.sl 1 (M.map Qg)),lk_ 2,(27,.b ((!z)||((!A)||(decide (12<(g.Tasks.length:Int))))))],[(2,.var (Qd g))]⟩) ?_ ?_
 ·refine tg_ f [4] ?_
  rcases QD (!z)with i | i
  ·refine Qa f [.S 18 (.b true),10,.S 27 (.b ((!z)||((!A)||(decide (12<(g.Tasks.length:Int)))))),.K [1,2,27] [2]] rfl ⟨(tc_ i),(congrArg V.b (orT i rfl))⟩ ?_
   exact mt_
  refine Qa f [.S 18 (.b false),4] rfl (tc_ i) ?_
  rcases QD (!A)with j | j
  ·refine Qa f [.S 22 (.b true),6,.S 27 (.b ((!z)||((!A)||(decide (12<(g.Tasks.length:Int)))))),.K [1,2,27] [2]] rfl ⟨(tc_ j),(congrArg V.b (orF i (orT j rfl)))⟩ ?_
   exact mt_
  refine Qa f [.S 22 (.b false),2,.o (.ln g.Tasks.length),3,.S 27 (.b ((!z)||((!A)||(decide (12<(g.Tasks.length:Int)))))),.K [1,2,27] [2]] rfl ⟨⟨(tc_ j),Qf⟩,(congrArg V.b (orF i (orF j rfl)))⟩ ?_
  exact mt_
 rintro σ rfl
 refine tg_ f [1] ?_
 rcases Qp h with⟨k,h⟩|⟨k,h⟩
 ·refine Qa f [.T,7] rfl (a1_ k) ?_
  cases h
  exact d1_ tt_
 obtain⟨x,B,h⟩:=Qb h
 refine Qa f [.F,4,.A (Qd g),.o (.C1 (.tup [.agg (QdS x.2),.I x.1])),5,.O 7 (.var (QdS x.2)),5] rfl (a4_ k rfl (Qzf _ B) rfl) ?_
 obtain⟨y,D,h⟩:=Qb h
 replace h:Qj6 g y=some r:=h
 refine AK.meetX (fun σ=>σ=⟨[lk_ 2,(40,.b y)],[(2,.var (Qd g))]⟩) ?_ ?_
 ·replace h:=D
  refine tg_ f [4] ?_
  rcases Qp h with⟨l,h⟩|⟨l,h⟩
  ·refine Qa f [.S 35 (.b true),6,.K [2,40] [2]] rfl (tc_ l) ?_
   cases h
   exact mt_
  obtain⟨W,E,h⟩:=Qb h
  refine Qa f [.S 35 (.b false),.A (Qd g),1,.o (.C2 (.b W)),3,.K [2,40] [2]] rfl ⟨⟨(tc_ l),rfl⟩,(Qyj _ _ E)⟩ ?_
  cases h
  exact mt_
 rintro σ rfl
 replace h:Qj6 g y=some r:=h
 refine tg_ f [1] ?_
 refine bq_ f h [.T,7,.K [4] []] rfl (fun p h=>?_) [.F,14,.K [2,9,10] [2]] rfl fun p h=>?_
 ·cases h
  exact d1_ tt_
 obtain⟨w,G,h⟩:=Qb h
 refine AK.loop (body:=(fun st=>Qj5 g st.1 st.2)) (fun st σ=>σ=⟨[lk_ 2,(9,.I st.1),(10,.I st.2)],[(2,.var (Qd g))]⟩) (fun q e σ=>e=.exit 0/\σ=⟨[(9,.I q)],[]⟩) G rfl ?_ ?_
 ·rintro ⟨L,Y⟩ o σ rfl h
  refine Qa f [6,.o (.ln g.Tasks.length),3] rfl (a1_ Qf) ?_
  rcases Qp h with⟨t,h⟩|⟨t,h⟩
  ·obtain⟨u,H,h⟩:=Qb h
   obtain⟨X,J,h⟩:=Qb h
   refine Qa f [.T,9,.o (.row (Qm u)),.A (Qm u),2,.O 11 (.var (Qm u)),2,.K [2,9,10,11] [2,11]] rfl (a4_ t (QE H) rfl rfl) ?_
   refine AK.draw2 Qr f mixed [.N,.a .no (some ([],.agg (Qd g))) false,.N,.a (.C2 (.I X)) none false,.N,.N,.a (.ln u.Ins.length) none false,.N,.N,.a (.ln u.Outs.length) none false,.N,.N,.N,.N,.m .s] [] [] [2,9,10] [2] rfl rfl rfl ⟨⟨⟨⟨tt_,rfl⟩,(Qqw _ _ J)⟩,Qf⟩,Qf⟩ rfl (by kernel_rfl) rfl rfl rfl ?_
   refine tg_ f [7,.K [2,9,10] [2]] ?_
   cases h
   exact QR rfl rfl
  refine Qa f [.F,2,.K [9] []] rfl (a1_ t) ?_
  cases h
  exact QT rfl (an_ rfl rfl)
 replace h:QrR w=some r:=h
 rintro e σ ⟨rfl,rfl⟩
 refine tg_ f [10] ?_
 cases h
 exact d1_ tt_
def Qh6 (a:Int):Option Bool:=
 some (bif (decide (97<=a))then((decide (a<=122))||((decide (65<=a))&&(decide (a<=90))))else((decide (65<=a))&&(decide (a<=90))))
theorem Qpg (a){r}(h:Qh6 a=some r):Qc prog 246 [.i .u8 a] [] (Gives (.b r) []):=by
 refine wk_ 17 func246 fun C e=>?_
 unfold Qh6 at h
 refine tg_ e [6] ?_
 refine AK.meetX (fun σ=>σ=⟨[(2,.b (bif (decide (97<=a))then((decide (a<=122))||((decide (65<=a))&&(decide (a<=90))))else((decide (65<=a))&&(decide (a<=90)))))],[]⟩) ?_ ?_
 ·refine tg_ e [4] ?_
  rcases QD (decide (97<=a))with c | c
  ·refine Qa e [.S 5 (.b true),4] rfl (tc_ c) ?_
   rcases QD (decide (a<=122))with d | d
   ·refine Qa e [.S 9 (.b true),9,.S 2 (.b (bif (decide (97<=a))then((decide (a<=122))||((decide (65<=a))&&(decide (a<=90))))else((decide (65<=a))&&(decide (a<=90))))),.K [2] []] rfl ⟨(tc_ d),(congrArg V.b (Qmy c (orT d rfl)))⟩ ?_
    exact mt_
   refine Qa e [.S 9 (.b false),3] rfl (tc_ d) ?_
   rcases QD (decide (65<=a))with f | f
   ·refine Qa e [.S 12 (.b true),6,.S 2 (.b (bif (decide (97<=a))then((decide (a<=122))||((decide (65<=a))&&(decide (a<=90))))else((decide (65<=a))&&(decide (a<=90))))),.K [2] []] rfl ⟨(tc_ f),(congrArg V.b (Qmy c (orF d (Qai f rfl))))⟩ ?_
    exact mt_
   refine Qa e [.S 12 (.b false),6,.S 2 (.b (bif (decide (97<=a))then((decide (a<=122))||((decide (65<=a))&&(decide (a<=90))))else((decide (65<=a))&&(decide (a<=90))))),.K [2] []] rfl ⟨(tc_ f),(congrArg V.b (Qmy c (orF d (QaS f rfl))))⟩ ?_
   exact mt_
  refine Qa e [.S 5 (.b false),7] rfl (tc_ c) ?_
  rcases QD (decide (65<=a))with g | g
  ·refine Qa e [.S 12 (.b true),6,.S 2 (.b (bif (decide (97<=a))then((decide (a<=122))||((decide (65<=a))&&(decide (a<=90))))else((decide (65<=a))&&(decide (a<=90))))),.K [2] []] rfl ⟨(tc_ g),(congrArg V.b (Qsh c (Qai g rfl)))⟩ ?_
   exact mt_
  refine Qa e [.S 12 (.b false),6,.S 2 (.b (bif (decide (97<=a))then((decide (a<=122))||((decide (65<=a))&&(decide (a<=90))))else((decide (65<=a))&&(decide (a<=90))))),.K [2] []] rfl ⟨(tc_ g),(congrArg V.b (Qsh c (QaS g rfl)))⟩ ?_
  exact mt_
 rintro σ rfl
 refine tg_ e [2] ?_
 cases h
 exact d1_ tt_
def QoX (a:Int):Option Bool:=
 some ((decide (48<=a))&&(decide (a<=57)))
theorem Qxm (c){r}(h:QoX c=some r):Qc prog 247 [.i .u8 c] [] (Gives (.b r) []):=by
 refine wk_ 9 func247 fun C d=>?_
 refine tg_ d [6] ?_
 refine AK.meetX (fun σ=>σ=⟨[(2,.b ((decide (48<=c))&&(decide (c<=57))))],[]⟩) ?_ ?_
 ·refine tg_ d [4] ?_
  rcases QD (decide (48<=c))with a | a
  ·refine Qa d [.S 5 (.b true),5,.S 2 (.b ((decide (48<=c))&&(decide (c<=57)))),.K [2] []] rfl ⟨(tc_ a),(congrArg V.b (Qai a rfl))⟩ ?_
   exact mt_
  refine Qa d [.S 5 (.b false),5,.S 2 (.b ((decide (48<=c))&&(decide (c<=57)))),.K [2] []] rfl ⟨(tc_ a),(congrArg V.b (QaS a rfl))⟩ ?_
  exact mt_
 rintro σ rfl
 refine tg_ d [2] ?_
 cases h
 exact d1_ tt_
def Qnw (a:ByteArray):Option Bool:=
 bif (decide ((a.size:Int)<1))then
 some true
 else
 bif (decide (32<(a.size:Int)))then
 some true
 else
 (sidx a 0).bind fun b=>
 (Qh6 b).bind fun c=>
 some (!c)
def QrS (b:ByteArray)(a:Int):Option Bool:=
 (sidx b a).bind fun c=>
 (Qh6 c).bind fun d=>
 bif (!d)then
 (sidx b a).bind fun e=>
 (QoX e).bind fun f=>
 bif (!f)then
 (sidx b a).bind fun g=>
 some (g != 95)
 else
 some false
 else
 some false
def Qj7 (a:Int)(b:Bool):Option (Int⊕(Unit⊕Unit)):=
 bif b then
 some (.inr (.inl ()))
 else
 some (.inl (w64 (a+1)))
def Qg5 (c:ByteArray)(a:Int):Option (Int⊕(Unit⊕Unit)):=
 bif (decide (a<(c.size:Int)))then
 (QrS c a).bind (fun b=>Qj7 a b)
 else
 some (.inr (.inr ()))
def QrT : Option Bool:=
 some false
def QrU : Option Bool:=
 some true
def Qj8 (a:ByteArray)(b:Bool):Option Bool:=
 bif b then
 some false
 else
 (Qw (fun st=>Qg5 a st) 0).bind (Sum.elim (fun q=>QrT) (fun q=>QrU))
def QkF (a:ByteArray):Option Bool:=
 (Qnw a).bind (fun b=>Qj8 a b)
theorem QrV (l){r}(h:QkF l=some r):Qc prog 228 [.s l] [] (Gives (.b r) []):=by
 refine wk_ 42 func228 fun C a=>?_
 refine tg_ a [7] ?_
 obtain⟨D,E,h⟩:=Qb h
 replace h:Qj8 l D=some r:=h
 refine AK.meetX (fun σ=>σ=⟨[(0,.s l),(17,.b D)],[]⟩) ?_ ?_
 ·replace h:=E
  refine tg_ a [5] ?_
  refine bg_ h (fun m h=>Qa a [.S 7 (.b true),11,.K [0,17] []] rfl (tc_ m) ?_) fun m h=>Qa a [.S 7 (.b false),5] rfl (tc_ m) ?_
  ·cases h
   exact mt_
  rcases Qp h with⟨p,h⟩|⟨p,h⟩
  ·refine Qa a [.S 12 (.b true),6,.K [0,17] []] rfl (tc_ p) ?_
   cases h
   exact mt_
  obtain⟨U,G,h⟩:=Qb h
  obtain⟨W,H,h⟩:=Qb h
  refine Qa a [.S 12 (.b false),1,.o (.num U),.o (.C1 (.b W)),3,.K [0,17] []] rfl ⟨⟨(tc_ p),G⟩,(Qpg _ H)⟩ ?_
  cases h
  exact mt_
 rintro σ rfl
 replace h:Qj8 l D=some r:=h
 refine tg_ a [1] ?_
 refine bq_ a h [.T,7,.K [2] []] rfl (fun f h=>?_) [.F,9,.K [0,3] []] rfl fun f h=>?_
 ·cases h
  exact d1_ tt_
 obtain⟨J,v,h⟩:=Qb h
 refine AK.loop (body:=(fun st=>Qg5 l st)) (fun st σ=>σ=⟨[(0,.s l),(3,.I st)],[]⟩) (Sum.elim (fun q e σ=>e=.ret/\σ=⟨[(2,.b false)],[]⟩) (fun q e σ=>e=.exit 0/\σ=⟨[],[]⟩)) v rfl ?_ ?_
 ·rintro t o σ rfl h
  refine tg_ a [9] ?_
  refine bq_ a h [.T,5] rfl (fun g h=>?_) [.F,2,.K [] []] rfl fun g h=>?_
  ·obtain⟨u,w,h⟩:=Qb h
   replace h:Qj7 t u=some o:=h
   refine AK.meetX (fun σ=>σ=⟨[(0,.s l),(3,.I t),(41,.b u)],[]⟩) ?_ ?_
   ·replace h:=w
    obtain⟨L,x,h⟩:=Qb h
    obtain⟨M,y,h⟩:=Qb h
    refine Qa a [3,.o (.num L),.o (.C1 (.b M)),2] rfl (a2_ x (Qpg _ y)) ?_
    rcases Qp h with⟨i,h⟩|⟨i,h⟩
    ·obtain⟨N,z,h⟩:=Qb h
     obtain⟨O,A,h⟩:=Qb h
     refine Qa a [.S 29 (.b true),2,.o (.num N),.o (.C1 (.b O)),3] rfl ⟨⟨(tc_ i),z⟩,(Qxm _ A)⟩ ?_
     rcases Qp h with⟨j,h⟩|⟨j,h⟩
     ·obtain⟨P,B,h⟩:=Qb h
      refine Qa a [.S 36 (.b true),2,.o (.num P),3,.K [0,3,41] []] rfl ⟨(tc_ j),B⟩ ?_
      cases h
      exact mt_
     refine Qa a [.S 36 (.b false),6,.K [0,3,41] []] rfl (tc_ j) ?_
     cases h
     exact mt_
    refine Qa a [.S 29 (.b false),13,.K [0,3,41] []] rfl (tc_ i) ?_
    cases h
    exact mt_
   rintro σ rfl
   replace h:Qj7 t u=some o:=h
   refine tg_ a [1] ?_
   refine bq_ a h [.T,8,.K [2] []] rfl (fun k h=>?_) [.F,8,.K [0,3] []] rfl fun k h=>?_
   ·cases h
    exact Q6 rfl (an_ rfl rfl)
   cases h
   exact QR rfl rfl
  cases h
  exact QT rfl (an_ rfl rfl)
 rcases J with(_ | _)
 ·replace h:QrT=some r:=h
  rintro e σ ⟨rfl,rfl⟩
  refine tg_ a [2] ?_
  cases h
  exact d1_ tt_
 replace h:QrU=some r:=h
 rintro e σ ⟨rfl,rfl⟩
 refine tg_ a [8] ?_
 cases h
 exact d1_ tt_
def Qqz (a:Bool)(e:(List ByteArray))(b:Int)(f:Int):Option Bool:=
 bif a then
 (idx e b).bind fun c=>
 (idx e f).bind fun d=>
 some (!Qb6 c d)
 else
 some false
def QiP (b:Int)(a:Bool):Option ((Bool×Int)⊕Bool):=
 some (.inl (a,(w64 (b+1))))
def QdM (d:Int)(e:(List ByteArray))(b:Bool)(a:Int):Option ((Bool×Int)⊕Bool):=
 bif (decide (a<d))then
 (Qqz b e a d).bind (fun c=>QiP a c)
 else
 some (.inr b)
def QmH (b:Int)(a:Bool):Option (Int⊕(Unit⊕Unit)):=
 bif (!a)then
 some (.inr (.inl ()))
 else
 some (.inl (w64 (b+1)))
def QeS (b:(List ByteArray))(a:Int):Option (Int⊕(Unit⊕Unit)):=
 bif (decide (a<(b.length:Int)))then
 (idx b a).bind fun c=>
 (QkF c).bind fun d=>
 (Qw (fun st=>QdM a b st.1 st.2) (d,0)).bind (fun q=>QmH a q)
 else
 some (.inr (.inr ()))
def QqA : Option Bool:=
 some false
def QqB : Option Bool:=
 some true
def Qmn (a:(List ByteArray)):Option Bool:=
 (Qw (fun st=>QeS a st) 0).bind (Sum.elim (fun q=>QqA) (fun q=>QqB))
theorem Qxn (l){r}(h:Qmn l=some r):Qc prog 229 [.sl 1 (l.map QcC)] [] (Gives (.b r) []):=by
 refine wk_ 36 func229 fun C f=>?_
 refine tg_ f [12,.K [0,3] []] ?_
 obtain⟨B,u,h⟩:=Qb h
 refine AK.loop (body:=(fun st=>QeS l st)) (fun st σ=>σ=⟨[(0,.sl 1 (l.map QcC)),(3,.I st)],[]⟩) (Sum.elim (fun q e σ=>e=.ret/\σ=⟨[(2,.b false)],[]⟩) (fun q e σ=>e=.exit 0/\σ=⟨[],[]⟩)) u rfl ?_ ?_
 ·rintro v o σ rfl h
  refine Qa f [5,.o (.ln l.length),3] rfl (a1_ Qf) ?_
  rcases Qp h with⟨p,h⟩|⟨p,h⟩
  ·obtain⟨J,D,h⟩:=Qb h
   obtain⟨L,E,h⟩:=Qb h
   refine Qa f [.T,8,.o (.row (QcC J)),1,.o (.C1 (.b L)),10,.K [0,3,4,5] []] rfl (a3_ p (QE D) (QrV _ E)) ?_
   obtain⟨w,x,h⟩:=Qb h
   refine AK.loop (body:=(fun st=>QdM v l st.1 st.2)) (fun st σ=>σ=⟨[(0,.sl 1 (l.map QcC)),(3,.I v),(4,.b st.1),(5,.I st.2)],[]⟩) (fun q e σ=>e=.exit 2/\σ=⟨[(0,.sl 1 (l.map QcC)),(3,.I v),(4,.b q)],[]⟩) x rfl ?_ ?_
   ·rintro ⟨M,t⟩ o σ rfl h
    refine tg_ f [8] ?_
    refine bq_ f h [.T,4] rfl (fun g h=>?_) [.F,2,.K [0,3,4] []] rfl fun g h=>?_
    ·obtain⟨i,y,h⟩:=Qb h
     replace h:QiP t i=some o:=h
     refine AK.meetX (fun σ=>σ=⟨[(0,.sl 1 (l.map QcC)),(3,.I v),(4,.b i),(5,.I t)],[]⟩) ?_ ?_
     ·replace h:=y
      refine tg_ f [.K [0,3,4,5] []] ?_
      rcases Qp h with⟨j,h⟩|⟨j,h⟩
      ·obtain⟨G,z,h⟩:=Qb h
       obtain⟨H,A,h⟩:=Qb h
       refine AK.draw2 Qr f mixed [.N,.a .no (some ([],.b true)) false,.N,.N,.a (.row (QcC G)) none false,.N,.N,.N,.a (.row (QcC H)) none false,.N,.N,.N,.m .s] [] [] [0,3,4,5] [] rfl rfl rfl ⟨⟨(tc_ j),(QE z)⟩,(QE A)⟩ rfl (by kernel_rfl) rfl rfl rfl ?_
       refine tg_ f [.K [0,3,4,5] []] ?_
       cases h
       exact mt_
      refine AK.draw2 Qr f mixed [.N,.a .no (some ([],.b false)) false,.N,.N,.N,.N,.N,.N,.N,.N,.N,.N,.m .s] [] [] [0,3,4,5] [] rfl rfl rfl (tc_ j) rfl (by kernel_rfl) rfl rfl rfl ?_
      refine tg_ f [.K [0,3,4,5] []] ?_
      cases h
      exact mt_
     rintro σ rfl
     replace h:QiP t i=some o:=h
     refine tg_ f [7,.K [0,3,4,5] []] ?_
     cases h
     exact QR rfl rfl
    cases h
    exact QT rfl (an_ rfl rfl)
   replace h:QmH v w=some o:=h
   rintro e σ ⟨rfl,rfl⟩
   refine tg_ f [8] ?_
   refine bq_ f h [.T,8,.K [2] []] rfl (fun k h=>?_) [.F,8,.K [0,3] []] rfl fun k h=>?_
   ·cases h
    exact Q6 rfl (an_ rfl rfl)
   cases h
   exact QR rfl rfl
  refine Qa f [.F,2,.K [] []] rfl (a1_ p) ?_
  cases h
  exact QT rfl (an_ rfl rfl)
 rcases B with(_ | _)
 ·replace h:QqA=some r:=h
  rintro e σ ⟨rfl,rfl⟩
  refine tg_ f [2] ?_
  cases h
  exact d1_ tt_
 replace h:QqB=some r:=h
 rintro e σ ⟨rfl,rfl⟩
 refine tg_ f [8] ?_
 cases h
 exact d1_ tt_
def QqC (a:Bool)(e:(List QF))(b:Int)(c:QF):Option Bool:=
 bif a then
 (idx e b).bind fun d=>
 some (!Qb6 d.Name c.Name)
 else
 some false
def QiQ (b:Int)(a:Bool):Option ((Bool×Int)⊕Bool):=
 some (.inl (a,(w64 (b+1))))
def QdN (e:Int)(f:(List QF))(d:QF)(a:Bool)(b:Int):Option ((Bool×Int)⊕Bool):=
 bif (decide (b<e))then
 (QqC a f b d).bind (fun c=>QiQ b c)
 else
 some (.inr a)
def Qbe (b:Bool)(c:(List Int))(d:Int)(a:Int):Option ((Int×(List Int))⊕(Unit⊕(List Int))):=
 bif ((!b)||((decide (a<1))||(decide (1024<a))))then
 some (.inr (.inl ()))
 else
 (chk (decide (c.length+([a]:List Int).length<=4294967296))).bind fun _=>
 some (.inl ((w64 (d+1)),(c++([a]:List Int))))
def QiR (a:QF)(c:(List Int))(d:Int)(b:Bool):Option ((Int×(List Int))⊕(Unit⊕(List Int))):=
 bif (a.Kind==1)then
 bif ((decide (a.Lo<=a.Hi))&&((decide (0<=a.Lo))||(decide (a.Hi<(w64 (a.Lo+1024))))))then
 Qbe b c d (w64 ((min2 (w64 (a.Hi-a.Lo)) 1024)+1))
 else
 Qbe b c d 0
 else
 bif (a.Kind==2)then
 (Qmn a.Names).bind fun e=>
 bif e then
 Qbe b c d (a.Names.length:Int)
 else
 Qbe b c d 0
 else
 bif (a.Kind==3)then
 bif ((decide (0<=a.First))&&((decide (a.First<d))&&((decide (0<=a.Then))&&(decide (a.Then<d)))))then
 (idx c a.First).bind fun f=>
 (idx c a.Then).bind fun g=>
 Qbe b c d (w64 (f*g))
 else
 Qbe b c d 0
 else
 Qbe b c d 0
def QeT (c:(List QF))(b:Int)(e:(List Int)):Option ((Int×(List Int))⊕(Unit⊕(List Int))):=
 bif (decide (b<(c.length:Int)))then
 (idx c b).bind fun a=>
 (QkF a.Name).bind fun d=>
 (Qw (fun st=>QdN b c a st.1 st.2) (d,0)).bind (fun q=>QiR a e b q)
 else
 some (.inr (.inr e))
def QqD : Option (List Int):=
 some ([]:List Int)
def QqE (a:(List Int)):Option (List Int):=
 some a
def Qmo (a:(List QF)):Option (List Int):=
 bif (decide (32<(a.length:Int)))then
 some ([]:List Int)
 else
 (Qw (fun st=>QeT a st.1 st.2) (0,([]:List Int))).bind (Sum.elim (fun q=>QqD) (fun q=>QqE q))
theorem Qxo (A){r}(h:Qmo A=some r):Qc prog 200 [.sl 7 (A.map Qs)] [] (Gives (.own 600 r.length) [(600,.arr 1 (r.map Qe))]):=by
 refine wk_ 128 func200 fun C g=>?_
 refine Qa g [9,.o (.ln A.length),3] rfl (a1_ Qf) ?_
 refine bg_ h (fun Z h=>Qa g [.T,7,.adopt 2 600 1,.O 600 (.arr 1 (([]:List Int).map Qe)),.S 2 (.own 600 ([]:List Int).length),.K [2] [600]] rfl (a3_ Z rfl rfl) ?_) fun Z h=>Qa g [.F,14,.adopt 3 123 1,.O 123 (.arr 1 (([]:List Int).map Qe)),.S 3 (.own 123 ([]:List Int).length),.K [0,3,4] [123]] rfl (a3_ Z rfl (congrArg (fun n=>V.own 123 n) (by simp))) ?_
 ·cases h
  exact d1_ r1_
 obtain⟨a9,a1,h⟩:=Qb h
 refine AK.loop (body:=(fun st=>QeT A st.1 st.2)) (fun st σ=>σ=⟨[(0,.sl 7 (A.map Qs)),(3,.own 123 st.2.length),(4,.I st.1)],[(123,.arr 1 (st.2.map Qe))]⟩) (Sum.elim (fun q e σ=>e=.ret/\σ=⟨[(2,.lit (.slice none 0 0))],[]⟩) (fun q e σ=>e=.exit 0/\σ=⟨[(3,.own 123 q.length)],[(123,.arr 1 (q.map Qe))]⟩)) a1 rfl ?_ ?_
 ·rintro ⟨l,w⟩ o σ rfl h
  refine Qa g [5,.o (.ln A.length),3] rfl (a1_ Qf) ?_
  rcases Qp h with⟨B,h⟩|⟨B,h⟩
  ·obtain⟨f,a2,h⟩:=Qb h
   obtain⟨b0,a3,h⟩:=Qb h
   refine Qa g [.T,8,.o (.row (Qs f)),.A (Qs f),2,.O 5 (.var (Qs f)),6,.o (.C1 (.b b0)),10,.K [0,3,4,5,6,7] [5,123]] rfl (a5_ B (QE a2) rfl rfl (QrV _ a3)) ?_
   obtain⟨j,a4,h⟩:=Qb h
   refine AK.loop (body:=(fun st=>QdN l A f st.1 st.2)) (fun st σ=>σ=⟨[(0,.sl 7 (A.map Qs)),(3,.own 123 w.length),(4,.I l),lk_ 5,(6,.b st.1),(7,.I st.2)],[(5,.var (Qs f)),(123,.arr 1 (w.map Qe))]⟩) (fun q e σ=>e=.exit 2/\σ=⟨[(0,.sl 7 (A.map Qs)),(3,.own 123 w.length),(4,.I l),lk_ 5,(6,.b q)],[(5,.var (Qs f)),(123,.arr 1 (w.map Qe))]⟩) a4 rfl ?_ ?_
   ·rintro ⟨b6,a0⟩ o σ rfl h
    refine tg_ g [8] ?_
    refine bq_ g h [.T,4] rfl (fun D h=>?_) [.F,2,.K [0,3,4,5,6] [5,123]] rfl fun D h=>?_
    ·obtain⟨E,a5,h⟩:=Qb h
     replace h:QiQ a0 E=some o:=h
     refine AK.meetX (fun σ=>σ=⟨[(0,.sl 7 (A.map Qs)),(3,.own 123 w.length),(4,.I l),lk_ 5,(6,.b E),(7,.I a0)],[(5,.var (Qs f)),(123,.arr 1 (w.map Qe))]⟩) ?_ ?_
     ·replace h:=a5
      refine tg_ g [.K [0,3,4,5,6,7] [5,123]] ?_
      rcases Qp h with⟨G,h⟩|⟨G,h⟩
      ·obtain⟨b1,a6,h⟩:=Qb h
       refine AK.draw2 Qr g mixed [.N,.a .no (some ([],.b true)) false,.N,.N,.a (.row (Qs b1)) none false,.N,.N,.N,.N,.N,.N,.m .s] [] [] [0,3,4,5,6,7] [5,123] rfl rfl rfl ⟨(tc_ G),(QE a6)⟩ rfl (by kernel_rfl) rfl rfl rfl ?_
       refine tg_ g [.K [0,3,4,5,6,7] [5,123]] ?_
       cases h
       exact mt_
      refine AK.draw2 Qr g mixed [.N,.a .no (some ([],.b false)) false,.N,.N,.N,.N,.N,.N,.N,.N,.N,.m .s] [] [] [0,3,4,5,6,7] [5,123] rfl rfl rfl (tc_ G) rfl (by kernel_rfl) rfl rfl rfl ?_
      refine tg_ g [.K [0,3,4,5,6,7] [5,123]] ?_
      cases h
      exact mt_
     rintro σ rfl
     replace h:QiQ a0 E=some o:=h
     refine tg_ g [7,.K [0,3,4,5,6,7] [5,123]] ?_
     cases h
     exact QR rfl rfl
    cases h
    exact QT rfl (an_ rfl rfl)
   replace h:QiR f w l j=some o:=h
   rintro e σ ⟨rfl,rfl⟩
   refine tg_ g [7] ?_
   refine AK.meet (fun σ=>∃i:Int,σ=⟨[(0,.sl 7 (A.map Qs)),(3,.own 123 w.length),(4,.I l),(6,.b j),(8,.I i)],[(123,.arr 1 (w.map Qe))]⟩/\Qbe j w l i=some o) ?_ ?_
   ·refine tg_ g [13] ?_
    refine bq_ g h [.T,1] rfl (fun H h=>?_) [.F,6] rfl fun H h=>?_
    ·refine AK.meetX (fun σ=>σ=⟨[(0,.sl 7 (A.map Qs)),(3,.own 123 w.length),(4,.I l),lk_ 5,(6,.b j),(8,.I 0),(63,.b ((decide (f.Lo<=f.Hi))&&((decide (0<=f.Lo))||(decide (f.Hi<(w64 (f.Lo+1024)))))))],[(5,.var (Qs f)),(123,.arr 1 (w.map Qe))]⟩) ?_ ?_
     ·refine tg_ g [7] ?_
      rcases QD (decide (f.Lo<=f.Hi))with p | p
      ·refine Qa g [.S 51 (.b true),4] rfl (tc_ p) ?_
       rcases QD (decide (0<=f.Lo))with x | x
       ·refine Qa g [.S 55 (.b true),9,.S 63 (.b ((decide (f.Lo<=f.Hi))&&((decide (0<=f.Lo))||(decide (f.Hi<(w64 (f.Lo+1024))))))),.K [0,3,4,5,6,8,63] [5,123]] rfl ⟨(tc_ x),(congrArg V.b (Qai p (orT x rfl)))⟩ ?_
        exact mt_
       refine Qa g [.S 55 (.b false),9,.S 63 (.b ((decide (f.Lo<=f.Hi))&&((decide (0<=f.Lo))||(decide (f.Hi<(w64 (f.Lo+1024))))))),.K [0,3,4,5,6,8,63] [5,123]] rfl ⟨(tc_ x),(congrArg V.b (Qai p (orF x rfl)))⟩ ?_
       exact mt_
      refine Qa g [.S 51 (.b false),13,.S 63 (.b ((decide (f.Lo<=f.Hi))&&((decide (0<=f.Lo))||(decide (f.Hi<(w64 (f.Lo+1024))))))),.K [0,3,4,5,6,8,63] [5,123]] rfl ⟨(tc_ p),(congrArg V.b (QaS p rfl))⟩ ?_
      exact mt_
     rintro σ rfl
     refine tg_ g [1] ?_
     refine bq_ g h [.T,11,.K [0,3,4,6,8] [123]] rfl (fun J h=>?_) [.F,2,.K [0,3,4,6,8] [123]] rfl fun J h=>?_
     ·exact AK.met (ex_ _ (an_ rfl h))
     exact AK.met (ex_ _ (an_ rfl h))
    rcases Qp h with⟨L,h⟩|⟨L,h⟩
    ·obtain⟨b2,a7,h⟩:=Qb h
     refine Qa g [.T,4,.o (.C1 (.b b2)),8] rfl (a2_ L (Qxn _ a7)) ?_
     refine bg_ h (fun M h=>Qa g [.T,3,.o (.ln f.Names.length),3,.K [0,3,4,6,8] [123]] rfl (a2_ M Qf) ?_) fun M h=>Qa g [.F,2,.K [0,3,4,6,8] [123]] rfl (a1_ M) ?_
     ·exact AK.met (ex_ _ (an_ rfl h))
     exact AK.met (ex_ _ (an_ rfl h))
    refine Qa g [.F,6] rfl (a1_ L) ?_
    refine bq_ g h [.T,1] rfl (fun P h=>?_) [.F,2,.K [0,3,4,6,8] [123]] rfl fun P h=>?_
    ·refine AK.meetX (fun σ=>σ=⟨[(0,.sl 7 (A.map Qs)),(3,.own 123 w.length),(4,.I l),lk_ 5,(6,.b j),(8,.I 0),(101,.b ((decide (0<=f.First))&&((decide (f.First<l))&&((decide (0<=f.Then))&&(decide (f.Then<l))))))],[(5,.var (Qs f)),(123,.arr 1 (w.map Qe))]⟩) ?_ ?_
     ·refine tg_ g [5] ?_
      rcases QD (decide (0<=f.First))with k | k
      ·refine Qa g [.S 85 (.b true),6] rfl (tc_ k) ?_
       rcases QD (decide (f.First<l))with t | t
       ·refine Qa g [.S 91 (.b true),5] rfl (tc_ t) ?_
        rcases QD (decide (0<=f.Then))with y | y
        ·refine Qa g [.S 96 (.b true),6,.S 101 (.b ((decide (0<=f.First))&&((decide (f.First<l))&&((decide (0<=f.Then))&&(decide (f.Then<l)))))),.K [0,3,4,5,6,8,101] [5,123]] rfl ⟨(tc_ y),(congrArg V.b (Qai k (Qai t (Qai y rfl))))⟩ ?_
         exact mt_
        refine Qa g [.S 96 (.b false),6,.S 101 (.b ((decide (0<=f.First))&&((decide (f.First<l))&&((decide (0<=f.Then))&&(decide (f.Then<l)))))),.K [0,3,4,5,6,8,101] [5,123]] rfl ⟨(tc_ y),(congrArg V.b (Qai k (Qai t (QaS y rfl))))⟩ ?_
        exact mt_
       refine Qa g [.S 91 (.b false),11,.S 101 (.b ((decide (0<=f.First))&&((decide (f.First<l))&&((decide (0<=f.Then))&&(decide (f.Then<l)))))),.K [0,3,4,5,6,8,101] [5,123]] rfl ⟨(tc_ t),(congrArg V.b (Qai k (QaS t rfl)))⟩ ?_
       exact mt_
      refine Qa g [.S 85 (.b false),17,.S 101 (.b ((decide (0<=f.First))&&((decide (f.First<l))&&((decide (0<=f.Then))&&(decide (f.Then<l)))))),.K [0,3,4,5,6,8,101] [5,123]] rfl ⟨(tc_ k),(congrArg V.b (QaS k rfl))⟩ ?_
      exact mt_
     rintro σ rfl
     refine tg_ g [1] ?_
     rcases Qp h with⟨U,h⟩|⟨U,h⟩
     ·obtain⟨b3,X,h⟩:=Qb h
      obtain⟨b4,Y,h⟩:=Qb h
      refine Qa g [.T,.K [0,3,4,5,6,8] [5,123]] rfl (a1_ U) ?_
      refine AK.draw2 Qr g mixed [.N,.N,.N,.N,.a (.row (Qe b3)) none false,.N,.N,.N,.N,.a (.row (Qe b4)) none false,.N,.m .s] [] [] [0,3,4,6,8] [123] rfl rfl rfl ⟨⟨⟨⟨tt_,(QbW X rfl)⟩,(QaN (Qby X).2)⟩,(QbW Y rfl)⟩,(QaN (Qby Y).2)⟩ rfl (by kernel_rfl) rfl rfl rfl ?_
      refine tg_ g [1,.K [0,3,4,6,8] [123]] ?_
      exact AK.met (ex_ _ (an_ rfl h))
     refine Qa g [.F,2,.K [0,3,4,6,8] [123]] rfl (a1_ U) ?_
     exact AK.met (ex_ _ (an_ rfl h))
    exact AK.met (ex_ _ (an_ rfl h))
   rintro σ ⟨i,rfl,h⟩
   unfold Qbe at h
   refine tg_ g [2] ?_
   refine AK.meetX (fun σ=>σ=⟨[(0,.sl 7 (A.map Qs)),(3,.own 123 w.length),(4,.I l),(8,.I i),(122,.b ((!j)||((decide (i<1))||(decide (1024<i)))))],[(123,.arr 1 (w.map Qe))]⟩) ?_ ?_
   ·refine tg_ g [4] ?_
    rcases QD (!j)with u | u
    ·refine Qa g [.S 115 (.b true),8,.S 122 (.b ((!j)||((decide (i<1))||(decide (1024<i))))),.K [0,3,4,8,122] [123]] rfl ⟨(tc_ u),(congrArg V.b (orT u rfl))⟩ ?_
     exact mt_
    refine Qa g [.S 115 (.b false),4] rfl (tc_ u) ?_
    rcases QD (decide (i<1))with z | z
    ·refine Qa g [.S 119 (.b true),4,.S 122 (.b ((!j)||((decide (i<1))||(decide (1024<i))))),.K [0,3,4,8,122] [123]] rfl ⟨(tc_ z),(congrArg V.b (orF u (orT z rfl)))⟩ ?_
     exact mt_
    refine Qa g [.S 119 (.b false),4,.S 122 (.b ((!j)||((decide (i<1))||(decide (1024<i))))),.K [0,3,4,8,122] [123]] rfl ⟨(tc_ z),(congrArg V.b (orF u (orF z rfl)))⟩ ?_
    exact mt_
   rintro σ rfl
   refine tg_ g [1] ?_
   rcases Qp h with⟨W,h⟩|⟨W,h⟩
   ·refine Qa g [.T,9,.K [2] []] rfl (a1_ W) ?_
    cases h
    exact Q6 rfl (an_ rfl rfl)
   obtain⟨a8,h⟩:=Qao h
   refine Qa g [.F,5,.v (.bd []) [] (.sl 1 (([i]:List Int).map Qe)),.app ((w++([i]:List Int)).map Qe) (w++([i]:List Int)).length,9,.K [0,3,4] [123]] rfl (a3_ W rfl ⟨Qf,Qbk a8 Qf,Qap,QbG Qf⟩) ?_
   cases h
   exact QR rfl rfl
  refine Qa g [.F,2,.K [3] [123]] rfl (a1_ B) ?_
  cases h
  exact QT rfl (an_ rfl rfl)
 rcases a9 with(_ | b5)
 ·replace h:QqD=some r:=h
  rintro e σ ⟨rfl,rfl⟩
  refine Qa g [2,.adopt 2 600 1,.O 600 (.arr 1 (([]:List Int).map Qe)),.S 2 (.own 600 ([]:List Int).length)] rfl (a2_ rfl rfl) ?_
  cases h
  exact d1_ r1_
 replace h:QqE b5=some r:=h
 rintro e σ ⟨rfl,rfl⟩
 refine tg_ g [9,.K [2] [123],.ren 123 600] ?_
 cases h
 exact d1_ r1_
def Qfb (c:(List QF))(a:Int):Option Int:=
 (Qmo c).bind fun b=>
 bif ((decide (a<0))||(decide ((b.length:Int)<=a)))then
 some 0
 else
 (idx b a).bind fun d=>
 some d
theorem Qnx (k c){r}(h:Qfb k c=some r):Qc prog 157 [.sl 7 (k.map Qs),.I c] [] (Gives (.I r) []):=by
 refine wk_ 20 func157 fun C e=>?_
 obtain⟨f,j,h⟩:=Qb h
 refine Qa e [8,.o (.co false [.d] 1 (f.map Qe) f.length),5] rfl (a1_ ⟨(Qxo _ j),Qf,.inl rfl⟩) ?_
 refine AK.meetX (fun σ=>σ=⟨[(1,.I c),(5,.own 7 f.length),(15,.b ((decide (c<0))||(decide ((f.length:Int)<=c))))],[(7,.arr 1 (f.map Qe))]⟩) ?_ ?_
 ·refine tg_ e [4] ?_
  rcases QD (decide (c<0))with a | a
  ·refine Qa e [.S 10 (.b true),6,.S 15 (.b ((decide (c<0))||(decide ((f.length:Int)<=c)))),.K [1,5,15] [7]] rfl ⟨(tc_ a),(congrArg V.b (orT a rfl))⟩ ?_
   exact mt_
  refine Qa e [.S 10 (.b false),6,.S 15 (.b ((decide (c<0))||(decide ((f.length:Int)<=c)))),.K [1,5,15] [7]] rfl ⟨(tc_ a),(congrArg V.b (orF a rfl))⟩ ?_
  exact mt_
 rintro σ rfl
 refine tg_ e [1] ?_
 rcases Qp h with⟨g,h⟩|⟨g,h⟩
 ·refine Qa e [.T,7] rfl (a1_ g) ?_
  cases h
  exact d1_ tt_
 obtain⟨l,i,h⟩:=Qb h
 refine Qa e [.F,7,.o (.row (Qe l)),4] rfl (a3_ g (QbW i rfl) (QaN (Qby i).2)) ?_
 cases h
 exact d1_ tt_
def Qph (b:Int)(c:(List QF))(d:Int):Option Bool:=
 bif (decide (b<0))then
 some true
 else
 (Qfb c d).bind fun a=>
 some (decide (a<=b))
def QhH (c:(List QF))(d:Int)(e:Int)(f:Bool):Option (Int×Bool):=
 bif f then
 some (0,false)
 else
 (idx c d).bind fun a=>
 bif (a.Kind==1)then
 (idx c d).bind fun b=>
 some ((w64 (b.Lo+e)),true)
 else
 some (e,true)
def Qls (a:(List QF))(b:Int)(c:Int):Option (Int×Bool):=
 (Qph c a b).bind (fun d=>QhH a b c d)
theorem Qww (i j k){r}(h:Qls i j k=some r):Qc prog 144 [.sl 7 (i.map Qs),.I j,.I k] [] (Gives (.tup [.I r.1,.b r.2]) []):=by
 refine wk_ 31 func144 fun C g=>?_
 refine tg_ g [8] ?_
 obtain⟨q,s,h⟩:=Qb h
 replace h:QhH i j k q=some r:=h
 refine AK.meetX (fun σ=>σ=⟨[(0,.sl 7 (i.map Qs)),(1,.I j),(2,.I k),(16,.b q)],[]⟩) ?_ ?_
 ·replace h:=s
  refine tg_ g [4] ?_
  rcases Qp h with⟨a,h⟩|⟨a,h⟩
  ·refine Qa g [.S 10 (.b true),7,.K [0,1,2,16] []] rfl (tc_ a) ?_
   cases h
   exact mt_
  obtain⟨t,l,h⟩:=Qb h
  refine Qa g [.S 10 (.b false),3,.o (.C2 (.I t)),3,.K [0,1,2,16] []] rfl ⟨(tc_ a),(Qnx _ _ l)⟩ ?_
  cases h
  exact mt_
 rintro σ rfl
 replace h:QhH i j k q=some r:=h
 refine tg_ g [1] ?_
 rcases Qp h with⟨e,h⟩|⟨e,h⟩
 ·refine Qa g [.T,8] rfl (a1_ e) ?_
  cases h
  exact d2_ tt_
 obtain⟨u,m,h⟩:=Qb h
 refine Qa g [.F,7,.o (.row (Qs u)),5] rfl (a2_ e (QE m)) ?_
 rcases Qp h with⟨f,h⟩|⟨f,h⟩
 ·obtain⟨v,p,h⟩:=Qb h
  refine Qa g [.T,4,.o (.row (Qs v)),10] rfl (a2_ f (QE p)) ?_
  cases h
  exact d2_ tt_
 refine Qa g [.F,10] rfl (a1_ f) ?_
 cases h
 exact d2_ tt_
def QfV (e:QG)(b:(List Int))(h:Qq)(a:Int)(c:(List Int)):Option ((Int×(List Int))⊕(Unit⊕(List Int))):=
 bif (decide (a<(e.Vars.length:Int)))then
 (idx e.Vars a).bind fun f=>
 (idx b a).bind fun g=>
 (Qls h.Colours f.Colour g).bind fun d=>
 bif (!d.2)then
 some (.inr (.inl ()))
 else
 (chk (decide (c.length+([d.1]:List Int).length<=4294967296))).bind fun _=>
 some (.inl ((w64 (a+1)),(c++([d.1]:List Int))))
 else
 some (.inr (.inr c))
def QsT : Option ((List Int)×Int):=
 some (([]:List Int),1)
def QsU (a:(List Int)):Option ((List Int)×Int):=
 some (a,0)
def Qji (d:Qq)(a:Int)(b:(List Int)):Option ((List Int)×Int):=
 bif ((decide (a<0))||(decide ((d.Tasks.length:Int)<=a)))then
 some (([]:List Int),3)
 else
 (idx d.Tasks a).bind fun c=>
 bif ((b.length:Int) != (c.Vars.length:Int))then
 some (([]:List Int),1)
 else
 (Qw (fun st=>QfV c b d st.1 st.2) (0,([]:List Int))).bind (Sum.elim (fun q=>QsT) (fun q=>QsU q))
theorem Qn1 (u f g){r}(h:Qji u f g=some r):Qc prog 76 [.agg (Qd u),.I f,.sl 1 (g.map Qe)] [] (Gives (.tup [.sl 1 (r.1.map Qe),.I r.2]) []):=by
 refine wk_ 61 func76 fun C i=>?_
 refine tg_ i [9] ?_
 refine AK.meetX (fun σ=>σ=⟨[(1,.I f),(2,.sl 1 (g.map Qe)),lk_ 3,(21,.b ((decide (f<0))||(decide ((u.Tasks.length:Int)<=f))))],[(3,.var (Qd u))]⟩) ?_ ?_
 ·refine tg_ i [4] ?_
  rcases QD (decide (f<0))with j | j
  ·refine Qa i [.S 15 (.b true),7,.S 21 (.b ((decide (f<0))||(decide ((u.Tasks.length:Int)<=f)))),.K [1,2,3,21] [3]] rfl ⟨(tc_ j),(congrArg V.b (orT j rfl))⟩ ?_
   exact mt_
  refine Qa i [.S 15 (.b false),3,.o (.ln u.Tasks.length),3,.S 21 (.b ((decide (f<0))||(decide ((u.Tasks.length:Int)<=f)))),.K [1,2,3,21] [3]] rfl ⟨⟨(tc_ j),Qf⟩,(congrArg V.b (orF j rfl))⟩ ?_
  exact mt_
 rintro σ rfl
 refine tg_ i [1] ?_
 rcases Qp h with⟨k,h⟩|⟨k,h⟩
 ·refine Qa i [.T,8,.denil 6 [some 1]] rfl (a1_ k) ?_
  cases h
  exact d2_ tt_
 obtain⟨l,w,h⟩:=Qb h
 refine Qa i [.F,7,.o (.row (Qm l)),9,.o (.ln g.length),1,.o (.ln l.Vars.length),3] rfl (a4_ k (QE w) Qf Qf) ?_
 refine bg_ h (fun m h=>Qa i [.T,8,.denil 6 [some 1],.K [6,7] []] rfl (a1_ m) ?_) fun m h=>Qa i [.F,14,.adopt 9 56 1,.O 56 (.arr 1 (([]:List Int).map Qe)),.S 9 (.own 56 ([]:List Int).length),.K [2,3,8,9,10] [3,56]] rfl (a3_ m rfl (congrArg (fun n=>V.own 56 n) (by simp))) ?_
 ·cases h
  exact d2_ tt_
 obtain⟨G,x,h⟩:=Qb h
 refine AK.loop (body:=(fun st=>QfV l g u st.1 st.2)) (fun st σ=>σ=⟨[(2,.sl 1 (g.map Qe)),lk_ 3,(8,.sl 2 (l.Vars.map QP)),(9,.own 56 st.2.length),(10,.I st.1)],[(3,.var (Qd u)),(56,.arr 1 (st.2.map Qe))]⟩) (Sum.elim (fun q e σ=>e=.ret/\σ=⟨[(6,.lit (.slice none 0 0)),(7,.I 1)],[]⟩) (fun q e σ=>e=.exit 0/\σ=⟨[(9,.own 56 q.length)],[(56,.arr 1 (q.map Qe))]⟩)) x rfl ?_ ?_
 ·rintro ⟨L,y⟩ o σ rfl h
  refine Qa i [5,.o (.ln l.Vars.length),3] rfl (a1_ Qf) ?_
  rcases Qp h with⟨p,h⟩|⟨p,h⟩
  ·obtain⟨H,z,h⟩:=Qb h
   obtain⟨J,A,h⟩:=Qb h
   obtain⟨s,B,h⟩:=Qb h
   refine Qa i [.T,5,.K [2,3,8,9,10] [3,56]] rfl (a1_ p) ?_
   refine AK.draw2 Qr i mixed [.N,.N,.N,.N,.a (.row (QP H)) none false,.N,.N,.N,.N,.a (.row (Qe J)) none false,.N,.a (.C3 (.tup [.I s.1,.b s.2])) none false,.N,.N,.N,.N,.N] [] [] [2,3,8,9,10,11,12] [3,56] rfl rfl rfl ⟨⟨⟨tt_,(QE z)⟩,(QE A)⟩,(Qww _ _ _ B)⟩ rfl (by kernel_rfl) rfl rfl rfl ?_
   refine tg_ i [8] ?_
   rcases Qp h with⟨t,h⟩|⟨t,h⟩
   ·refine Qa i [.T,10,.K [6,7] []] rfl (a1_ t) ?_
    cases h
    exact Q6 rfl (an_ rfl rfl)
   obtain⟨D,h⟩:=Qao h
   refine Qa i [.F,5,.v (.bd []) [] (.sl 1 (([s.1]:List Int).map Qe)),.app ((y++([s.1]:List Int)).map Qe) (y++([s.1]:List Int)).length,9,.K [2,3,8,9,10] [3,56]] rfl (a3_ t rfl ⟨Qf,Qbk D Qf,Qap,QbG Qf⟩) ?_
   cases h
   exact QR rfl rfl
  refine Qa i [.F,2,.K [9] [56]] rfl (a1_ p) ?_
  cases h
  exact QT rfl (an_ rfl rfl)
 rcases G with(_ | E)
 ·replace h:QsT=some r:=h
  rintro e σ ⟨rfl,rfl⟩
  refine tg_ i [2,.denil 6 [some 1]] ?_
  cases h
  exact d2_ tt_
 replace h:QsU E=some r:=h
 rintro e σ ⟨rfl,rfl⟩
 refine Qa i [10,.frz 56 (E.map Qe) [6] []] rfl (a1_ (a1_ (Qcd Qf))) ?_
 cases h
 exact d2_ tt_
def QqF (c:Qk)(rec_ref04_Depth:Qk->Option Int)(d:Int)(a:Int):Option ((Int×Int)⊕Int):=
 bif (decide (a<(c.Kids.length:Int)))then
 (idx c.Kids a).bind fun e=>
 (rec_ref04_Depth e).bind fun b=>
 some (.inl ((max2 d b),(w64 (a+1))))
 else
 some (.inr d)
def QqG (a:Int):Option Int:=
 some (w64 (a+1))
def Qny (rec_ref04_Depth:Qk->Option Int)(a:Qk):Option Int:=
 (Qw (fun st=>QqF a rec_ref04_Depth st.1 st.2) (0,0)).bind (fun q=>QqG q)
def Qel : Nat->Qk->Option Int
 | 0,_=>none
 | n+1,a=>Qny (Qel n) a
def QoY (a:Qk):Option Int:=Qel (SizeOf.sizeOf a) a
theorem Qvy (rec_ref04_Depth:Qk->Option Int)(hrec_ref04_Depth:∀(a:Qk) {r:Int},rec_ref04_Depth a=some r->Qc prog 195 [.agg (Qn a)] [] (Gives (.I r) []))(a:Qk){r:Int}(h:Qny rec_ref04_Depth a=some r):Qc prog 195 [.agg (Qn a)] [] (Gives (.I r) []):=by
 refine wk_ 22 func195 fun C f=>?_
 refine tg_ f [18,.K [1,3,4] [1]] ?_
 obtain⟨m,g,h⟩:=Qb h
 refine AK.loop (body:=(fun st=>QqF a rec_ref04_Depth st.1 st.2)) (fun st σ=>σ=⟨[lk_ 1,(3,.I st.1),(4,.I st.2)],[(1,.var (Qn a))]⟩) (fun q e σ=>e=.exit 0/\σ=⟨[(3,.I q)],[]⟩) g rfl ?_ ?_
 ·rintro ⟨p,s⟩ o σ rfl h
  refine Qa f [6,.o (.ln a.Kids.length),3] rfl (a1_ (QfG _)) ?_
  rcases Qp h with⟨b,h⟩|⟨b,h⟩
  ·obtain⟨l,j,h⟩:=Qb h
   obtain⟨k,i,h⟩:=Qb h
   refine Qa f [.T,9,.o (.row (Qn l)),.A (Qn l),.o (.C1 (.I k)),10,.K [1,3,4] [1]] rfl (a4_ b (Qbz j) rfl (hrec_ref04_Depth _ i)) ?_
   cases h
   exact QR rfl rfl
  refine Qa f [.F,2,.K [3] []] rfl (a1_ b) ?_
  cases h
  exact QT rfl (an_ rfl rfl)
 replace h:QqG m=some r:=h
 rintro e σ ⟨rfl,rfl⟩
 refine tg_ f [10] ?_
 cases h
 exact d1_ tt_
theorem QoE : ∀(fuel:Nat) (a:Qk) {r:Int},Qel fuel a=some r->Qc prog 195 [.agg (Qn a)] [] (Gives (.I r) [])
 | 0,_,_,h=>by cases h
 | n+1,a,_,h=>Qvy (Qel n) (fun _ _ h=>QoE n _ h) a h
theorem Qxp (a){r}(h:QoY a=some r):Qc prog 195 [.agg (Qn a)] [] (Gives (.I r) []):=QoE _ a h
def QrW (c:Qk)(rec_ref04_Size:Qk->Option Int)(d:Int)(a:Int):Option ((Int×Int)⊕Int):=
 bif (decide (a<(c.Kids.length:Int)))then
 (idx c.Kids a).bind fun e=>
 (rec_ref04_Size e).bind fun b=>
 some (.inl ((w64 (d+b)),(w64 (a+1))))
 else
 some (.inr d)
def QrX (a:Int):Option Int:=
 some a
def Qn2 (rec_ref04_Size:Qk->Option Int)(a:Qk):Option Int:=
 (Qw (fun st=>QrW a rec_ref04_Size st.1 st.2) (1,0)).bind (fun q=>QrX q)
def QeU : Nat->Qk->Option Int
 | 0,_=>none
 | n+1,a=>Qn2 (QeU n) a
def QqH (a:Qk):Option Int:=QeU (SizeOf.sizeOf a) a
theorem Qwx (rec_ref04_Size:Qk->Option Int)(hrec_ref04_Size:∀(a:Qk) {r:Int},rec_ref04_Size a=some r->Qc prog 196 [.agg (Qn a)] [] (Gives (.I r) []))(a:Qk){r:Int}(h:Qn2 rec_ref04_Size a=some r):Qc prog 196 [.agg (Qn a)] [] (Gives (.I r) []):=by
 refine wk_ 21 func196 fun C f=>?_
 refine tg_ f [18,.K [1,3,4] [1]] ?_
 obtain⟨m,g,h⟩:=Qb h
 refine AK.loop (body:=(fun st=>QrW a rec_ref04_Size st.1 st.2)) (fun st σ=>σ=⟨[lk_ 1,(3,.I st.1),(4,.I st.2)],[(1,.var (Qn a))]⟩) (fun q e σ=>e=.exit 0/\σ=⟨[(3,.I q)],[]⟩) g rfl ?_ ?_
 ·rintro ⟨p,s⟩ o σ rfl h
  refine Qa f [6,.o (.ln a.Kids.length),3] rfl (a1_ (QfG _)) ?_
  rcases Qp h with⟨b,h⟩|⟨b,h⟩
  ·obtain⟨l,j,h⟩:=Qb h
   obtain⟨k,i,h⟩:=Qb h
   refine Qa f [.T,9,.o (.row (Qn l)),.A (Qn l),.o (.C1 (.I k)),10,.K [1,3,4] [1]] rfl (a4_ b (Qbz j) rfl (hrec_ref04_Size _ i)) ?_
   cases h
   exact QR rfl rfl
  refine Qa f [.F,2,.K [3] []] rfl (a1_ b) ?_
  cases h
  exact QT rfl (an_ rfl rfl)
 replace h:QrX m=some r:=h
 rintro e σ ⟨rfl,rfl⟩
 refine tg_ f [9] ?_
 cases h
 exact d1_ tt_
theorem Qpi : ∀(fuel:Nat) (a:Qk) {r:Int},QeU fuel a=some r->Qc prog 196 [.agg (Qn a)] [] (Gives (.I r) [])
 | 0,_,_,h=>by cases h
 | n+1,a,_,h=>Qwx (QeU n) (fun _ _ h=>Qpi n _ h) a h
theorem Qyl (a){r}(h:QqH a=some r):Qc prog 196 [.agg (Qn a)] [] (Gives (.I r) []):=Qpi _ a h
def QoZ (op1:Int):Option Bool:=
 some ((decide (1<=op1))&&(decide (op1<=11)))
theorem Qxq (op1){r}(h:QoZ op1=some r):Qc prog 223 [.I op1] [] (Gives (.b r) []):=by
 refine wk_ 9 func223 fun C c=>?_
 refine tg_ c [6] ?_
 refine AK.meetX (fun σ=>σ=⟨[(2,.b ((decide (1<=op1))&&(decide (op1<=11))))],[]⟩) ?_ ?_
 ·refine tg_ c [4] ?_
  rcases QD (decide (1<=op1))with a | a
  ·refine Qa c [.S 5 (.b true),5,.S 2 (.b ((decide (1<=op1))&&(decide (op1<=11)))),.K [2] []] rfl ⟨(tc_ a),(congrArg V.b (Qai a rfl))⟩ ?_
   exact mt_
  refine Qa c [.S 5 (.b false),5,.S 2 (.b ((decide (1<=op1))&&(decide (op1<=11)))),.K [2] []] rfl ⟨(tc_ a),(congrArg V.b (QaS a rfl))⟩ ?_
  exact mt_
 rintro σ rfl
 refine tg_ c [2] ?_
 cases h
 exact d1_ tt_
def QdO (f:Qk)(rec_ref04_parts:Qk->Int->Option Bool)(a:Int)(b:Bool)(c:Int):Option ((Bool×Int)⊕Bool):=
 bif ((decide (c<(f.Kids.length:Int)))&&b)then
 (idx f.Kids c).bind fun d=>
 (rec_ref04_parts d a).bind fun e=>
 some (.inl (e,(w64 (c+1))))
 else
 some (.inr b)
def QqI (a:Bool):Option Bool:=
 some a
def Qci (c:Qk)(rec_ref04_parts:Qk->Int->Option Bool)(a:Int)(b:Bool):Option Bool:=
 (Qw (fun st=>QdO c rec_ref04_parts a st.1 st.2) (b,0)).bind (fun q=>QqI q)
def QqJ (b:Qk):Option Bool:=
 bif ((b.Kids.length:Int)==2)then
 (QoZ b.Num).bind fun a=>
 some a
 else
 some false
def Qge (c:Qk)(rec_ref04_parts:Qk->Int->Option Bool)(a:Int)(b:Bool):Option Bool:=
 Qci c rec_ref04_parts a b
def QiS (b:Qk)(rec_ref04_parts:Qk->Int->Option Bool)(a:Int)(d:Bool):Option Bool:=
 bif d then
 Qci b rec_ref04_parts a ((b.Kids.length:Int)==1)
 else
 bif (b.Kind==5)then
 (QqJ b).bind (fun c=>Qge b rec_ref04_parts a c)
 else
 bif (b.Kind==6)then
 Qci b rec_ref04_parts a ((b.Kids.length:Int)==3)
 else
 Qci b rec_ref04_parts a false
def Qj9 (rec_ref04_parts:Qk->Int->Option Bool)(b:Qk)(a:Int):Option Bool:=
 bif (b.Kind==1)then
 Qci b rec_ref04_parts a ((b.Kids.length:Int)==0)
 else
 bif (b.Kind==2)then
 Qci b rec_ref04_parts a (((b.Kids.length:Int)==0)&&((decide (0<=b.Num))&&(decide (b.Num<a))))
 else
 bif (b.Kind==3)then
 QiS b rec_ref04_parts a (b.Kind==3)
 else
 QiS b rec_ref04_parts a (b.Kind==4)
def Qem : Nat->Qk->Int->Option Bool
 | 0,_,_=>none
 | n+1,b,a=>Qj9 (Qem n) b a
def Qo0 (b:Qk)(a:Int):Option Bool:=Qem (SizeOf.sizeOf b) b a
theorem Qvz (rec_ref04_parts:Qk->Int->Option Bool)(hrec_ref04_parts:∀(f:Qk) (a:Int) {r:Bool},rec_ref04_parts f a=some r->Qc prog 197 [.agg (Qn f),.I a] [] (Gives (.b r) []))(f:Qk)(a:Int){r:Bool}(h:Qj9 rec_ref04_parts f a=some r):Qc prog 197 [.agg (Qn f),.I a] [] (Gives (.b r) []):=by
 refine wk_ 66 func197 fun C g=>?_
 refine Qa g [10,.o (.ln f.Kids.length),8] rfl (a1_ (QfG _)) ?_
 refine AK.meet (fun σ=>∃A:Bool,σ=⟨[(1,.I a),lk_ 2,(5,.I (f.Kids.length:Int)),(6,.b A)],[(2,.var (Qn f))]⟩/\Qci f rec_ref04_parts a A=some r) ?_ ?_
 ·refine tg_ g [13] ?_
  refine bq_ g h [.T,6,.K [1,2,5,6] [2]] rfl (fun l h=>?_) [.F,6] rfl fun l h=>?_
  ·exact AK.met (ex_ _ (an_ rfl h))
  refine bq_ g h [.T] rfl (fun m h=>?_) [.F] rfl fun m h=>?_
  ·refine AK.meetX (fun σ=>σ=⟨[(1,.I a),lk_ 2,(5,.I (f.Kids.length:Int)),(6,.b (((f.Kids.length:Int)==0)&&((decide (0<=f.Num))&&(decide (f.Num<a)))))],[(2,.var (Qn f))]⟩) ?_ ?_
   ·refine tg_ g [4] ?_
    rcases QD ((f.Kids.length:Int)==0)with i | i
    ·refine Qa g [.S 21 (.b true),5] rfl (tc_ i) ?_
     rcases QD (decide (0<=f.Num))with j | j
     ·refine Qa g [.S 26 (.b true),7,.S 6 (.b (((f.Kids.length:Int)==0)&&((decide (0<=f.Num))&&(decide (f.Num<a))))),.K [1,2,5,6] [2]] rfl ⟨(tc_ j),(congrArg V.b (Qai i (Qai j rfl)))⟩ ?_
      exact mt_
     refine Qa g [.S 26 (.b false),7,.S 6 (.b (((f.Kids.length:Int)==0)&&((decide (0<=f.Num))&&(decide (f.Num<a))))),.K [1,2,5,6] [2]] rfl ⟨(tc_ j),(congrArg V.b (Qai i (QaS j rfl)))⟩ ?_
     exact mt_
    refine Qa g [.S 21 (.b false),12,.S 6 (.b (((f.Kids.length:Int)==0)&&((decide (0<=f.Num))&&(decide (f.Num<a))))),.K [1,2,5,6] [2]] rfl ⟨(tc_ i),(congrArg V.b (QaS i rfl))⟩ ?_
    exact mt_
   rintro σ rfl
   refine tg_ g [1,.K [1,2,5,6] [2]] ?_
   exact AK.met (ex_ _ (an_ rfl h))
  refine AK.meet (fun σ=>∃B:Bool,σ=⟨[(1,.I a),lk_ 2,(5,.I (f.Kids.length:Int)),(6,.b false),(12,.I f.Kind),(32,.b B)],[(2,.var (Qn f))]⟩/\QiS f rec_ref04_parts a B=some r) ?_ ?_
  ·refine tg_ g [6] ?_
   refine bq_ g h [.T,1,.K [1,2,5,6,12,32] [2]] rfl (fun p h=>?_) [.F,4,.K [1,2,5,6,12,32] [2]] rfl fun p h=>?_
   ·exact AK.met (ex_ _ (an_ rfl h))
   exact AK.met (ex_ _ (an_ rfl h))
  rintro σ ⟨B,rfl,h⟩
  refine bq_ g h [.T,6,.K [1,2,5,6] [2]] rfl (fun s h=>?_) [.F,6] rfl fun s h=>?_
  ·exact AK.met (ex_ _ (an_ rfl h))
  refine bq_ g h [.T] rfl (fun t h=>?_) [.F,6] rfl fun t h=>?_
  ·obtain⟨u,D,h⟩:=Qb h
   replace h:Qge f rec_ref04_parts a u=some r:=h
   refine AK.meetX (fun σ=>σ=⟨[(1,.I a),lk_ 2,(5,.I (f.Kids.length:Int)),(6,.b u)],[(2,.var (Qn f))]⟩) ?_ ?_
   ·replace h:=D
    refine tg_ g [4] ?_
    rcases Qp h with⟨w,h⟩|⟨w,h⟩
    ·obtain⟨N,E,h⟩:=Qb h
     refine Qa g [.S 41 (.b true),2,.o (.C1 (.b N)),3,.K [1,2,5,6] [2]] rfl ⟨(tc_ w),(Qxq _ E)⟩ ?_
     cases h
     exact mt_
    refine Qa g [.S 41 (.b false),6,.K [1,2,5,6] [2]] rfl (tc_ w) ?_
    cases h
    exact mt_
   rintro σ rfl
   replace h:Qge f rec_ref04_parts a u=some r:=h
   unfold Qge at h
   refine tg_ g [1,.K [1,2,5,6] [2]] ?_
   exact AK.met (ex_ _ (an_ rfl h))
  refine bq_ g h [.T,6,.K [1,2,5,6] [2]] rfl (fun x h=>?_) [.F,2,.K [1,2,5,6] [2]] rfl fun x h=>?_
  ·exact AK.met (ex_ _ (an_ rfl h))
  exact AK.met (ex_ _ (an_ rfl h))
 rintro σ ⟨A,rfl,h⟩
 refine tg_ g [7,.K [1,2,5,6,7] [2]] ?_
 obtain⟨O,G,h⟩:=Qb h
 refine AK.loop (body:=(fun st=>QdO f rec_ref04_parts a st.1 st.2)) (fun st σ=>σ=⟨[(1,.I a),lk_ 2,(5,.I (f.Kids.length:Int)),(6,.b st.1),(7,.I st.2)],[(2,.var (Qn f))]⟩) (fun q e σ=>e=.exit 1/\σ=⟨[(6,.b q)],[]⟩) G rfl ?_ ?_
 ·rintro ⟨z,H⟩ o σ rfl h
  refine tg_ g [2] ?_
  refine AK.meetX (fun σ=>σ=⟨[(1,.I a),lk_ 2,(5,.I (f.Kids.length:Int)),(6,.b z),(7,.I H),(55,.b ((decide (H<(f.Kids.length:Int)))&&z))],[(2,.var (Qn f))]⟩) ?_ ?_
  ·refine tg_ g [5] ?_
   rcases QD (decide (H<(f.Kids.length:Int)))with k | k
   ·refine Qa g [.S 53 (.b true),3,.S 55 (.b ((decide (H<(f.Kids.length:Int)))&&z)),.K [1,2,5,6,7,55] [2]] rfl ⟨(tc_ k),(congrArg V.b (Qai k rfl))⟩ ?_
    exact mt_
   refine Qa g [.S 53 (.b false),3,.S 55 (.b ((decide (H<(f.Kids.length:Int)))&&z)),.K [1,2,5,6,7,55] [2]] rfl ⟨(tc_ k),(congrArg V.b (QaS k rfl))⟩ ?_
   exact mt_
  rintro σ rfl
  refine tg_ g [1] ?_
  rcases Qp h with⟨y,h⟩|⟨y,h⟩
  ·obtain⟨J,L,h⟩:=Qb h
   obtain⟨P,M,h⟩:=Qb h
   refine Qa g [.T,8,.o (.row (Qn J)),.A (Qn J),1,.o (.C2 (.b P)),9,.K [1,2,5,6,7] [2]] rfl (a4_ y (Qbz L) rfl (hrec_ref04_parts _ _ M)) ?_
   cases h
   exact QR rfl rfl
  refine Qa g [.F,2,.K [6] []] rfl (a1_ y) ?_
  cases h
  exact QT rfl (an_ rfl rfl)
 replace h:QqI O=some r:=h
 rintro e σ ⟨rfl,rfl⟩
 refine tg_ g [9] ?_
 cases h
 exact d1_ tt_
theorem QoF : ∀(fuel:Nat) (c:Qk) (a:Int) {r:Bool},Qem fuel c a=some r->Qc prog 197 [.agg (Qn c),.I a] [] (Gives (.b r) [])
 | 0,_,_,_,h=>by cases h
 | n+1,c,a,_,h=>Qvz (Qem n) (fun _ _ _ h=>QoF n _ _ h) c a h
theorem Qxr (c a){r}(h:Qo0 c a=some r):Qc prog 197 [.agg (Qn c),.I a] [] (Gives (.b r) []):=QoF _ c a h
def QqK (b:Qk)(a:Int):Option Bool:=
 (QoY b).bind fun d=>
 bif (decide (d<=40))then
 (QqH b).bind fun e=>
 bif (decide (e<=400))then
 (Qo0 b a).bind fun c=>
 some c
 else
 some false
 else
 some false
def QmI (a:Bool):Option Bool:=
 some a
def Qmp (b:Qk)(a:Int):Option Bool:=
 (QqK b a).bind (fun c=>QmI c)
theorem Qxs (i a){r}(h:Qmp i a=some r):Qc prog 145 [.agg (Qn i),.I a] [] (Gives (.b r) []):=by
 refine wk_ 18 func145 fun C e=>?_
 refine tg_ e [7] ?_
 obtain⟨k,l,h⟩:=Qb h
 replace h:QmI k=some r:=h
 refine AK.meetX (fun σ=>σ=⟨[(4,.b k)],[]⟩) ?_ ?_
 ·replace h:=l
  obtain⟨s,m,h⟩:=Qb h
  refine Qa e [1,.A (Qn i),.o (.C1 (.I s)),2] rfl (a2_ rfl (Qxp _ m)) ?_
  rcases Qp h with⟨f,h⟩|⟨f,h⟩
  ·obtain⟨t,p,h⟩:=Qb h
   refine Qa e [.S 8 (.b true),.A (Qn i),.o (.C1 (.I t)),3] rfl ⟨⟨(tc_ f),rfl⟩,(Qyl _ p)⟩ ?_
   rcases Qp h with⟨g,h⟩|⟨g,h⟩
   ·obtain⟨q,j,h⟩:=Qb h
    refine Qa e [.S 13 (.b true),.A (Qn i),1,.o (.C2 (.b q)),3,.K [4] []] rfl ⟨⟨(tc_ g),rfl⟩,(Qxr _ _ j)⟩ ?_
    cases h
    exact mt_
   refine Qa e [.S 13 (.b false),6,.K [4] []] rfl (tc_ g) ?_
   cases h
   exact mt_
  refine Qa e [.S 8 (.b false),11,.K [4] []] rfl (tc_ f) ?_
  cases h
  exact mt_
 rintro σ rfl
 replace h:QmI k=some r:=h
 refine tg_ e [2] ?_
 cases h
 exact d1_ tt_
def Ql5 (b:Int)(a:Int):Option (Int×Bool):=
 bif (bif (decide (0<a))then((decide ((w64 (9223372036854775807-a))<b))||((decide (a<0))&&(decide (b<(w64 ((-9223372036854775808)-a))))))else((decide (a<0))&&(decide (b<(w64 ((-9223372036854775808)-a))))))then
 some (0,false)
 else
 some ((w64 (b+a)),true)
theorem Qzg (c a){r}(h:Ql5 c a=some r):Qc prog 224 [.I c,.I a] [] (Gives (.tup [.I r.1,.b r.2]) []):=by
 refine wk_ 27 func224 fun C g=>?_
 unfold Ql5 at h
 refine tg_ g [8] ?_
 refine AK.meetX (fun σ=>σ=⟨[(0,.I c),(1,.I a),(23,.b (bif (decide (0<a))then((decide ((w64 (9223372036854775807-a))<c))||((decide (a<0))&&(decide (c<(w64 ((-9223372036854775808)-a))))))else((decide (a<0))&&(decide (c<(w64 ((-9223372036854775808)-a)))))))],[]⟩) ?_ ?_
 ·refine tg_ g [4] ?_
  rcases QD (decide (0<a))with d | d
  ·refine Qa g [.S 8 (.b true),6] rfl (tc_ d) ?_
   rcases QD (decide ((w64 (9223372036854775807-a))<c))with i | i
   ·refine Qa g [.S 14 (.b true),10,.S 23 (.b (bif (decide (0<a))then((decide ((w64 (9223372036854775807-a))<c))||((decide (a<0))&&(decide (c<(w64 ((-9223372036854775808)-a))))))else((decide (a<0))&&(decide (c<(w64 ((-9223372036854775808)-a))))))),.K [0,1,23] []] rfl ⟨(tc_ i),(congrArg V.b (Qmy d (orT i rfl)))⟩ ?_
    exact mt_
   refine Qa g [.S 14 (.b false),3] rfl (tc_ i) ?_
   rcases QD (decide (a<0))with e | e
   ·refine Qa g [.S 17 (.b true),7,.S 23 (.b (bif (decide (0<a))then((decide ((w64 (9223372036854775807-a))<c))||((decide (a<0))&&(decide (c<(w64 ((-9223372036854775808)-a))))))else((decide (a<0))&&(decide (c<(w64 ((-9223372036854775808)-a))))))),.K [0,1,23] []] rfl ⟨(tc_ e),(congrArg V.b (Qmy d (orF i (Qai e rfl))))⟩ ?_
    exact mt_
   refine Qa g [.S 17 (.b false),7,.S 23 (.b (bif (decide (0<a))then((decide ((w64 (9223372036854775807-a))<c))||((decide (a<0))&&(decide (c<(w64 ((-9223372036854775808)-a))))))else((decide (a<0))&&(decide (c<(w64 ((-9223372036854775808)-a))))))),.K [0,1,23] []] rfl ⟨(tc_ e),(congrArg V.b (Qmy d (orF i (QaS e rfl))))⟩ ?_
   exact mt_
  refine Qa g [.S 8 (.b false),9] rfl (tc_ d) ?_
  rcases QD (decide (a<0))with f | f
  ·refine Qa g [.S 17 (.b true),7,.S 23 (.b (bif (decide (0<a))then((decide ((w64 (9223372036854775807-a))<c))||((decide (a<0))&&(decide (c<(w64 ((-9223372036854775808)-a))))))else((decide (a<0))&&(decide (c<(w64 ((-9223372036854775808)-a))))))),.K [0,1,23] []] rfl ⟨(tc_ f),(congrArg V.b (Qsh d (Qai f rfl)))⟩ ?_
   exact mt_
  refine Qa g [.S 17 (.b false),7,.S 23 (.b (bif (decide (0<a))then((decide ((w64 (9223372036854775807-a))<c))||((decide (a<0))&&(decide (c<(w64 ((-9223372036854775808)-a))))))else((decide (a<0))&&(decide (c<(w64 ((-9223372036854775808)-a))))))),.K [0,1,23] []] rfl ⟨(tc_ f),(congrArg V.b (Qsh d (QaS f rfl)))⟩ ?_
  exact mt_
 rintro σ rfl
 refine tg_ g [1] ?_
 refine bq_ g h [.T,8,.K [4,5] []] rfl (fun j h=>?_) [.F,12,.K [4,5] []] rfl fun j h=>?_
 ·cases h
  exact d2_ tt_
 cases h
 exact d2_ tt_
def Ql6 (b:Int)(a:Int):Option (Int×Bool):=
 bif (bif (decide (a<0))then((decide ((w64 (9223372036854775807+a))<b))||((decide (0<a))&&(decide (b<(w64 ((-9223372036854775808)+a))))))else((decide (0<a))&&(decide (b<(w64 ((-9223372036854775808)+a))))))then
 some (0,false)
 else
 some ((w64 (b-a)),true)
theorem Qzh (c a){r}(h:Ql6 c a=some r):Qc prog 225 [.I c,.I a] [] (Gives (.tup [.I r.1,.b r.2]) []):=by
 refine wk_ 27 func225 fun C g=>?_
 unfold Ql6 at h
 refine tg_ g [8] ?_
 refine AK.meetX (fun σ=>σ=⟨[(0,.I c),(1,.I a),(23,.b (bif (decide (a<0))then((decide ((w64 (9223372036854775807+a))<c))||((decide (0<a))&&(decide (c<(w64 ((-9223372036854775808)+a))))))else((decide (0<a))&&(decide (c<(w64 ((-9223372036854775808)+a)))))))],[]⟩) ?_ ?_
 ·refine tg_ g [4] ?_
  rcases QD (decide (a<0))with d | d
  ·refine Qa g [.S 8 (.b true),6] rfl (tc_ d) ?_
   rcases QD (decide ((w64 (9223372036854775807+a))<c))with i | i
   ·refine Qa g [.S 14 (.b true),10,.S 23 (.b (bif (decide (a<0))then((decide ((w64 (9223372036854775807+a))<c))||((decide (0<a))&&(decide (c<(w64 ((-9223372036854775808)+a))))))else((decide (0<a))&&(decide (c<(w64 ((-9223372036854775808)+a))))))),.K [0,1,23] []] rfl ⟨(tc_ i),(congrArg V.b (Qmy d (orT i rfl)))⟩ ?_
    exact mt_
   refine Qa g [.S 14 (.b false),3] rfl (tc_ i) ?_
   rcases QD (decide (0<a))with e | e
   ·refine Qa g [.S 17 (.b true),7,.S 23 (.b (bif (decide (a<0))then((decide ((w64 (9223372036854775807+a))<c))||((decide (0<a))&&(decide (c<(w64 ((-9223372036854775808)+a))))))else((decide (0<a))&&(decide (c<(w64 ((-9223372036854775808)+a))))))),.K [0,1,23] []] rfl ⟨(tc_ e),(congrArg V.b (Qmy d (orF i (Qai e rfl))))⟩ ?_
    exact mt_
   refine Qa g [.S 17 (.b false),7,.S 23 (.b (bif (decide (a<0))then((decide ((w64 (9223372036854775807+a))<c))||((decide (0<a))&&(decide (c<(w64 ((-9223372036854775808)+a))))))else((decide (0<a))&&(decide (c<(w64 ((-9223372036854775808)+a))))))),.K [0,1,23] []] rfl ⟨(tc_ e),(congrArg V.b (Qmy d (orF i (QaS e rfl))))⟩ ?_
   exact mt_
  refine Qa g [.S 8 (.b false),9] rfl (tc_ d) ?_
  rcases QD (decide (0<a))with f | f
  ·refine Qa g [.S 17 (.b true),7,.S 23 (.b (bif (decide (a<0))then((decide ((w64 (9223372036854775807+a))<c))||((decide (0<a))&&(decide (c<(w64 ((-9223372036854775808)+a))))))else((decide (0<a))&&(decide (c<(w64 ((-9223372036854775808)+a))))))),.K [0,1,23] []] rfl ⟨(tc_ f),(congrArg V.b (Qsh d (Qai f rfl)))⟩ ?_
   exact mt_
  refine Qa g [.S 17 (.b false),7,.S 23 (.b (bif (decide (a<0))then((decide ((w64 (9223372036854775807+a))<c))||((decide (0<a))&&(decide (c<(w64 ((-9223372036854775808)+a))))))else((decide (0<a))&&(decide (c<(w64 ((-9223372036854775808)+a))))))),.K [0,1,23] []] rfl ⟨(tc_ f),(congrArg V.b (Qsh d (QaS f rfl)))⟩ ?_
  exact mt_
 rintro σ rfl
 refine tg_ g [1] ?_
 refine bq_ g h [.T,8,.K [4,5] []] rfl (fun j h=>?_) [.F,12,.K [4,5] []] rfl fun j h=>?_
 ·cases h
  exact d2_ tt_
 cases h
 exact d2_ tt_
def QsV (c:Int)(d:Int)(a:Int)(b:Int):Option Bool:=
 bif (bif (decide (c<0))then((decide (0<d))||((decide (0<c))&&(decide (d<0))))else((decide (0<c))&&(decide (d<0))))then
 (chk (a != 0)).bind fun _=>
 bif (decide ((w64 (b-1))<=(w64 (Int.tdiv (w64 (9223372036854775807-(w64 (a-1)))) a))))then
 some ((w64 (b*a))==(-9223372036854775808))
 else
 some false
 else
 some false
def Qn3 (a:Bool):Option (Int×Bool):=
 bif a then
 some ((-9223372036854775808),true)
 else
 some (0,false)
def QfW (b:Int)(d:Int)(e:Int)(a:Int):Option (Int×Bool):=
 (chk (a != 0)).bind fun _=>
 bif (decide (b<=(w64 (Int.tdiv 9223372036854775807 a))))then
 some ((w64 (d*e)),true)
 else
 (QsV d e a b).bind (fun c=>Qn3 c)
def Qh7 (a:Int)(c:Int)(b:Int):Option (Int×Bool):=
 bif (decide (a<0))then
 QfW b c a (w64 (0-a))
 else
 QfW b c a a
def Qon (a:Int)(b:Int):Option (Int×Bool):=
 bif ((a==0)||(b==0))then
 some (0,true)
 else
 bif ((a==(-9223372036854775808))||(b==(-9223372036854775808)))then
 bif ((a==1)||(b==1))then
 some ((w64 (a*b)),true)
 else
 some (0,false)
 else
 bif (decide (a<0))then
 Qh7 b a (w64 (0-a))
 else
 Qh7 b a a
theorem Qzi (c d){r}(h:Qon c d=some r):Qc prog 226 [.I c,.I d] [] (Gives (.tup [.I r.1,.b r.2]) []):=by
 refine wk_ 78 func226 fun C a=>?_
 refine tg_ a [8] ?_
 refine AK.meetX (fun σ=>σ=⟨[(0,.I c),(1,.I d),(14,.b ((c==0)||(d==0)))],[]⟩) ?_ ?_
 ·refine tg_ a [4] ?_
  rcases QD (c==0)with m | m
  ·refine Qa a [.S 11 (.b true),4,.S 14 (.b ((c==0)||(d==0))),.K [0,1,14] []] rfl ⟨(tc_ m),(congrArg V.b (orT m rfl))⟩ ?_
   exact mt_
  refine Qa a [.S 11 (.b false),4,.S 14 (.b ((c==0)||(d==0))),.K [0,1,14] []] rfl ⟨(tc_ m),(congrArg V.b (orF m rfl))⟩ ?_
  exact mt_
 rintro σ rfl
 refine tg_ a [1] ?_
 refine bq_ a h [.T,8,.K [4,5] []] rfl (fun y h=>?_) [.F,4] rfl fun y h=>?_
 ·cases h
  exact d2_ tt_
 refine AK.meetX (fun σ=>σ=⟨[(0,.I c),(1,.I d),(20,.b ((c==(-9223372036854775808))||(d==(-9223372036854775808))))],[]⟩) ?_ ?_
 ·refine tg_ a [4] ?_
  rcases QD (c==(-9223372036854775808))with g | g
  ·refine Qa a [.S 17 (.b true),4,.S 20 (.b ((c==(-9223372036854775808))||(d==(-9223372036854775808)))),.K [0,1,20] []] rfl ⟨(tc_ g),(congrArg V.b (orT g rfl))⟩ ?_
   exact mt_
  refine Qa a [.S 17 (.b false),4,.S 20 (.b ((c==(-9223372036854775808))||(d==(-9223372036854775808)))),.K [0,1,20] []] rfl ⟨(tc_ g),(congrArg V.b (orF g rfl))⟩ ?_
  exact mt_
 rintro σ rfl
 refine tg_ a [1] ?_
 refine bq_ a h [.T,2] rfl (fun o h=>?_) [.F,8] rfl fun o h=>?_
 ·refine AK.meetX (fun σ=>σ=⟨[(0,.I c),(1,.I d),(26,.b ((c==1)||(d==1)))],[]⟩) ?_ ?_
  ·refine tg_ a [4] ?_
   rcases QD (c==1)with i | i
   ·refine Qa a [.S 23 (.b true),4,.S 26 (.b ((c==1)||(d==1))),.K [0,1,26] []] rfl ⟨(tc_ i),(congrArg V.b (orT i rfl))⟩ ?_
    exact mt_
   refine Qa a [.S 23 (.b false),4,.S 26 (.b ((c==1)||(d==1))),.K [0,1,26] []] rfl ⟨(tc_ i),(congrArg V.b (orF i rfl))⟩ ?_
   exact mt_
  rintro σ rfl
  refine tg_ a [1] ?_
  refine bq_ a h [.T,12,.K [4,5] []] rfl (fun p h=>?_) [.F,10,.K [4,5] []] rfl fun p h=>?_
  ·cases h
   exact d2_ tt_
  cases h
  exact d2_ tt_
 refine AK.meet (fun σ=>∃l:Int,σ=⟨[(0,.I c),(1,.I d),(6,.I l)],[]⟩/\Qh7 d c l=some r) ?_ ?_
 ·refine tg_ a [6] ?_
  refine bq_ a h [.T,5,.K [0,1,6] []] rfl (fun q h=>?_) [.F,1,.K [0,1,6] []] rfl fun q h=>?_
  ·exact AK.met (ex_ _ (an_ rfl h))
  exact AK.met (ex_ _ (an_ rfl h))
 rintro σ ⟨l,rfl,h⟩
 refine tg_ a [6] ?_
 refine AK.meet (fun σ=>∃x:Int,σ=⟨[(0,.I c),(1,.I d),(6,.I l),(7,.I x)],[]⟩/\QfW l c d x=some r) ?_ ?_
 ·refine tg_ a [6] ?_
  refine bq_ a h [.T,5,.K [0,1,6,7] []] rfl (fun s h=>?_) [.F,1,.K [0,1,6,7] []] rfl fun s h=>?_
  ·exact AK.met (ex_ _ (an_ rfl h))
  exact AK.met (ex_ _ (an_ rfl h))
 rintro σ ⟨x,rfl,h⟩
 unfold QfW at h
 refine tg_ a [1] ?_
 refine AK.meetX (fun σ=>σ=⟨[(0,.I c),(1,.I d),(6,.I l),(7,.I x),(8,.b (bif (decide (c<0))then((decide (0<d))||((decide (0<c))&&(decide (d<0))))else((decide (0<c))&&(decide (d<0)))))],[]⟩) ?_ ?_
 ·refine tg_ a [4] ?_
  rcases QD (decide (c<0))with e | e
  ·refine Qa a [.S 42 (.b true),4] rfl (tc_ e) ?_
   rcases QD (decide (0<d))with f | f
   ·refine Qa a [.S 46 (.b true),9,.S 8 (.b (bif (decide (c<0))then((decide (0<d))||((decide (0<c))&&(decide (d<0))))else((decide (0<c))&&(decide (d<0))))),.K [0,1,6,7,8] []] rfl ⟨(tc_ f),(congrArg V.b (Qmy e (orT f rfl)))⟩ ?_
    exact mt_
   refine Qa a [.S 46 (.b false),3] rfl (tc_ f) ?_
   rcases QD (decide (0<c))with j | j
   ·refine Qa a [.S 49 (.b true),6,.S 8 (.b (bif (decide (c<0))then((decide (0<d))||((decide (0<c))&&(decide (d<0))))else((decide (0<c))&&(decide (d<0))))),.K [0,1,6,7,8] []] rfl ⟨(tc_ j),(congrArg V.b (Qmy e (orF f (Qai j rfl))))⟩ ?_
    exact mt_
   refine Qa a [.S 49 (.b false),6,.S 8 (.b (bif (decide (c<0))then((decide (0<d))||((decide (0<c))&&(decide (d<0))))else((decide (0<c))&&(decide (d<0))))),.K [0,1,6,7,8] []] rfl ⟨(tc_ j),(congrArg V.b (Qmy e (orF f (QaS j rfl))))⟩ ?_
   exact mt_
  refine Qa a [.S 42 (.b false),7] rfl (tc_ e) ?_
  rcases QD (decide (0<c))with k | k
  ·refine Qa a [.S 49 (.b true),6,.S 8 (.b (bif (decide (c<0))then((decide (0<d))||((decide (0<c))&&(decide (d<0))))else((decide (0<c))&&(decide (d<0))))),.K [0,1,6,7,8] []] rfl ⟨(tc_ k),(congrArg V.b (Qsh e (Qai k rfl)))⟩ ?_
   exact mt_
  refine Qa a [.S 49 (.b false),6,.S 8 (.b (bif (decide (c<0))then((decide (0<d))||((decide (0<c))&&(decide (d<0))))else((decide (0<c))&&(decide (d<0))))),.K [0,1,6,7,8] []] rfl ⟨(tc_ k),(congrArg V.b (Qsh e (QaS k rfl)))⟩ ?_
  exact mt_
 rintro σ rfl
 obtain⟨A,h⟩:=Qao h
 refine Qa a [10] rfl (a1_ (neZ A)) ?_
 refine bq_ a h [.T,11,.K [4,5] []] rfl (fun t h=>?_) [.F,4] rfl fun t h=>?_
 ·cases h
  exact d2_ tt_
 obtain⟨z,B,h⟩:=Qb h
 replace h:Qn3 z=some r:=h
 refine AK.meetX (fun σ=>σ=⟨[(77,.b z)],[]⟩) ?_ ?_
 ·replace h:=B
  refine tg_ a [3] ?_
  rcases Qp h with⟨u,h⟩|⟨u,h⟩
  ·obtain⟨D,h⟩:=Qao h
   refine Qa a [.S 62 (.b true),10] rfl ⟨(tc_ u),(neZ D)⟩ ?_
   refine bg_ h (fun v h=>Qa a [.S 72 (.b true),6,.K [77] []] rfl (tc_ v) ?_) fun v h=>Qa a [.S 72 (.b false),6,.K [77] []] rfl (tc_ v) ?_
   ·cases h
    exact mt_
   cases h
   exact mt_
  refine Qa a [.S 62 (.b false),16,.K [77] []] rfl (tc_ u) ?_
  cases h
  exact mt_
 rintro σ rfl
 replace h:Qn3 z=some r:=h
 refine tg_ a [1] ?_
 refine bq_ a h [.T,8,.K [4,5] []] rfl (fun w h=>?_) [.F,9,.K [4,5] []] rfl fun w h=>?_
 ·cases h
  exact d2_ tt_
 cases h
 exact d2_ tt_
def Qd9 (a:Bool):Option Int:=
 bif a then
 some 1
 else
 some 0
theorem QdY (c){r}(h:Qd9 c=some r):Qc prog 227 [.b c] [] (Gives (.I r) []):=by
 refine wk_ 4 func227 fun C d=>?_
 refine tg_ d [11] ?_
 refine bq_ d h [.T,7,.K [2] []] rfl (fun a h=>?_) [.F,8,.K [2] []] rfl fun a h=>?_
 ·cases h
  exact d1_ tt_
 cases h
 exact d1_ tt_
def QgQ (b:Int)(a:Bool):Option (Int×Int):=
 bif (!a)then
 some (0,6)
 else
 some (b,0)
def Qut (c:Int)(d:Int):Option Int:=
 bif (c != 0)then
 (Qd9 (d != 0)).bind fun a=>
 some a
 else
 (Qd9 false).bind fun b=>
 some b
def Qmq (a:Int):Option (Int×Int):=
 some (a,0)
def Quu (c:Int)(d:Int):Option Int:=
 bif (c != 0)then
 (Qd9 true).bind fun a=>
 some a
 else
 (Qd9 (d != 0)).bind fun b=>
 some b
def Qmr (a:Int):Option (Int×Int):=
 some (a,0)
def QgR (a:Int)(b:Int)(op1:Int)(c:Bool):Option (Int×Int):=
 bif c then
 bif (a==0)then
 some (0,7)
 else
 bif ((b==(-9223372036854775808))&&(a==(-1)))then
 some (0,6)
 else
 bif (op1==4)then
 (chk (a != 0)).bind fun _=>
 some ((w64 (Int.tdiv b a)),0)
 else
 (chk (a != 0)).bind fun _=>
 some ((Int.tmod b a),0)
 else
 bif (op1==6)then
 (Qd9 (b==a)).bind fun d=>
 some (d,0)
 else
 bif (op1==7)then
 (Qd9 (b != a)).bind fun e=>
 some (e,0)
 else
 bif (op1==8)then
 (Qd9 (decide (b<a))).bind fun f=>
 some (f,0)
 else
 bif (op1==9)then
 (Qd9 (decide (b<=a))).bind fun g=>
 some (g,0)
 else
 bif (op1==10)then
 (Qut b a).bind (fun h=>Qmq h)
 else
 bif (op1==11)then
 (Quu b a).bind (fun i=>Qmr i)
 else
 some (0,1)
def QdH (op1:Int)(a:Int)(b:Int):Option (Int×Int):=
 bif (op1==1)then
 (Ql5 a b).bind fun c=>
 QgQ c.1 c.2
 else
 bif (op1==2)then
 (Ql6 a b).bind fun d=>
 QgQ d.1 d.2
 else
 bif (op1==3)then
 (Qon a b).bind fun e=>
 QgQ e.1 e.2
 else
 bif (op1==4)then
 QgR b a op1 (op1==4)
 else
 QgR b a op1 (op1==5)
theorem Quv (op1 A B){r}(h:QdH op1 A B=some r):Qc prog 198 [.I op1,.I A,.I B] [] (Gives (.tup [.I r.1,.I r.2]) []):=by
 refine wk_ 99 func198 fun C a=>?_
 refine tg_ a [16] ?_
 refine AK.meet (fun σ=>∃n8:Int,∃D:Bool,σ=⟨[(8,.I n8),(9,.b D)],[]⟩/\QgQ n8 D=some r) ?_ ?_
 ·refine tg_ a [12] ?_
  rcases Qp h with⟨f,h⟩|⟨f,h⟩
  ·obtain⟨J,L,h⟩:=Qb h
   refine Qa a [.T,3,.o (.C2 (.tup [.I J.1,.b J.2])),7,.K [8,9] []] rfl (a2_ f (Qzg _ _ L)) ?_
   exact AK.met (ex_ _ (ex_ _ (an_ rfl h)))
  refine Qa a [.F,6] rfl (a1_ f) ?_
  rcases Qp h with⟨g,h⟩|⟨g,h⟩
  ·obtain⟨M,N,h⟩:=Qb h
   refine Qa a [.T,3,.o (.C2 (.tup [.I M.1,.b M.2])),7,.K [8,9] []] rfl (a2_ g (Qzh _ _ N)) ?_
   exact AK.met (ex_ _ (ex_ _ (an_ rfl h)))
  refine Qa a [.F,6] rfl (a1_ g) ?_
  rcases Qp h with⟨i,h⟩|⟨i,h⟩
  ·obtain⟨O,P,h⟩:=Qb h
   refine Qa a [.T,3,.o (.C2 (.tup [.I O.1,.b O.2])),7,.K [8,9] []] rfl (a2_ i (Qzi _ _ P)) ?_
   exact AK.met (ex_ _ (ex_ _ (an_ rfl h)))
  refine Qa a [.F] rfl (a1_ i) ?_
  refine AK.meet (fun σ=>∃E:Bool,σ=⟨[(0,.I op1),(1,.I A),(2,.I B),(10,.I op1),(35,.b E)],[]⟩/\QgR B A op1 E=some r) ?_ ?_
  ·refine tg_ a [6] ?_
   refine bq_ a h [.T,1,.K [0,1,2,10,35] []] rfl (fun j h=>?_) [.F,4,.K [0,1,2,10,35] []] rfl fun j h=>?_
   ·exact AK.met (ex_ _ (an_ rfl h))
   exact AK.met (ex_ _ (an_ rfl h))
  rintro σ ⟨E,rfl,h⟩
  refine bq_ a h [.T,7] rfl (fun k h=>?_) [.F,6] rfl fun k h=>?_
  ·refine bq_ a h [.T,10,.K [6,7] []] rfl (fun l h=>?_) [.F,4] rfl fun l h=>?_
   ·cases h
    exact d2_ tt_
   refine AK.meetX (fun σ=>σ=⟨[(0,.I op1),(1,.I A),(2,.I B),(45,.b ((A==(-9223372036854775808))&&(B==(-1))))],[]⟩) ?_ ?_
   ·refine tg_ a [4] ?_
    rcases QD (A==(-9223372036854775808))with e | e
    ·refine Qa a [.S 42 (.b true),4,.S 45 (.b ((A==(-9223372036854775808))&&(B==(-1)))),.K [0,1,2,45] []] rfl ⟨(tc_ e),(congrArg V.b (Qai e rfl))⟩ ?_
     exact mt_
    refine Qa a [.S 42 (.b false),4,.S 45 (.b ((A==(-9223372036854775808))&&(B==(-1)))),.K [0,1,2,45] []] rfl ⟨(tc_ e),(congrArg V.b (QaS e rfl))⟩ ?_
    exact mt_
   rintro σ rfl
   refine tg_ a [1] ?_
   refine bq_ a h [.T,10,.K [6,7] []] rfl (fun m h=>?_) [.F,9] rfl fun m h=>?_
   ·cases h
    exact d2_ tt_
   rcases Qp h with⟨p,h⟩|⟨p,h⟩
   ·obtain⟨U,h⟩:=Qao h
    refine Qa a [.T,13] rfl (a2_ p (neZ U)) ?_
    cases h
    exact d2_ tt_
   obtain⟨W,h⟩:=Qao h
   refine Qa a [.F,14] rfl (a2_ p (neZ W)) ?_
   cases h
   exact d2_ tt_
  rcases Qp h with⟨q,h⟩|⟨q,h⟩
  ·obtain⟨a8,X,h⟩:=Qb h
   refine Qa a [.T,5,.o (.C1 (.I a8)),7] rfl (a2_ q (QdY _ X)) ?_
   cases h
   exact d2_ tt_
  refine Qa a [.F,6] rfl (a1_ q) ?_
  rcases Qp h with⟨s,h⟩|⟨s,h⟩
  ·obtain⟨a9,Y,h⟩:=Qb h
   refine Qa a [.T,5,.o (.C1 (.I a9)),7] rfl (a2_ s (QdY _ Y)) ?_
   cases h
   exact d2_ tt_
  refine Qa a [.F,6] rfl (a1_ s) ?_
  rcases Qp h with⟨t,h⟩|⟨t,h⟩
  ·obtain⟨b0,Z,h⟩:=Qb h
   refine Qa a [.T,5,.o (.C1 (.I b0)),7] rfl (a2_ t (QdY _ Z)) ?_
   cases h
   exact d2_ tt_
  refine Qa a [.F,6] rfl (a1_ t) ?_
  rcases Qp h with⟨u,h⟩|⟨u,h⟩
  ·obtain⟨b1,a0,h⟩:=Qb h
   refine Qa a [.T,5,.o (.C1 (.I b1)),7] rfl (a2_ u (QdY _ a0)) ?_
   cases h
   exact d2_ tt_
  refine Qa a [.F,6] rfl (a1_ u) ?_
  refine bq_ a h [.T,1] rfl (fun v h=>?_) [.F,6] rfl fun v h=>?_
  ·obtain⟨G,a1,h⟩:=Qb h
   replace h:Qmq G=some r:=h
   refine AK.meetX (fun σ=>σ=⟨[(6,.I G),(7,.I 0)],[]⟩) ?_ ?_
   ·replace h:=a1
    refine tg_ a [4] ?_
    rcases Qp h with⟨w,h⟩|⟨w,h⟩
    ·obtain⟨b2,a3,h⟩:=Qb h
     refine Qa a [.S 82 (.b true),3,.o (.C1 (.I b2)),3,.K [6,7] []] rfl ⟨(tc_ w),(QdY _ a3)⟩ ?_
     cases h
     exact mt_
    obtain⟨b4,a4,h⟩:=Qb h
    refine Qa a [.S 82 (.b false),3,.o (.C1 (.I b4)),3,.K [6,7] []] rfl ⟨(tc_ w),(QdY _ a4)⟩ ?_
    cases h
    exact mt_
   rintro σ rfl
   replace h:Qmq G=some r:=h
   refine tg_ a [4] ?_
   cases h
   exact d2_ tt_
  refine bq_ a h [.T,1] rfl (fun x h=>?_) [.F,9,.K [6,7] []] rfl fun x h=>?_
  ·obtain⟨H,a5,h⟩:=Qb h
   replace h:Qmr H=some r:=h
   refine AK.meetX (fun σ=>σ=⟨[(6,.I H),(7,.I 0)],[]⟩) ?_ ?_
   ·replace h:=a5
    refine tg_ a [4] ?_
    rcases Qp h with⟨y,h⟩|⟨y,h⟩
    ·obtain⟨b5,a6,h⟩:=Qb h
     refine Qa a [.S 91 (.b true),3,.o (.C1 (.I b5)),3,.K [6,7] []] rfl ⟨(tc_ y),(QdY _ a6)⟩ ?_
     cases h
     exact mt_
    obtain⟨b6,a7,h⟩:=Qb h
    refine Qa a [.S 91 (.b false),3,.o (.C1 (.I b6)),3,.K [6,7] []] rfl ⟨(tc_ y),(QdY _ a7)⟩ ?_
    cases h
    exact mt_
   rintro σ rfl
   replace h:Qmr H=some r:=h
   refine tg_ a [4] ?_
   cases h
   exact d2_ tt_
  cases h
  exact d2_ tt_
 rintro σ ⟨n8,D,rfl,h⟩
 refine tg_ a [7] ?_
 refine bq_ a h [.T,8,.K [6,7] []] rfl (fun z h=>?_) [.F,10,.K [6,7] []] rfl fun z h=>?_
 ·cases h
  exact d2_ tt_
 cases h
 exact d2_ tt_
def Qlt (rec_ref04_eval:Qk->(List Int)->Option (Int×Int))(c:Qk)(a:(List Int)):Option (Int×Int):=
 bif (c.Kind==1)then
 some (c.Num,0)
 else
 bif (c.Kind==2)then
 (idx a c.Num).bind fun m=>
 some (m,0)
 else
 (idx c.Kids 0).bind fun i=>
 (rec_ref04_eval i a).bind fun b=>
 bif (b.2 != 0)then
 some (0,b.2)
 else
 bif (c.Kind==3)then
 (QdH 2 0 b.1).bind fun e=>
 some (e.1,e.2)
 else
 bif (c.Kind==4)then
 bif (b.1==0)then
 some (1,0)
 else
 some (0,0)
 else
 bif (c.Kind==6)then
 bif (b.1 != 0)then
 (idx c.Kids 1).bind fun j=>
 (rec_ref04_eval j a).bind fun f=>
 some (f.1,f.2)
 else
 (idx c.Kids 2).bind fun k=>
 (rec_ref04_eval k a).bind fun g=>
 some (g.1,g.2)
 else
 bif ((c.Num==10)&&(b.1==0))then
 some (0,0)
 else
 bif ((c.Num==11)&&(b.1 != 0))then
 some (1,0)
 else
 (idx c.Kids 1).bind fun l=>
 (rec_ref04_eval l a).bind fun d=>
 bif (d.2 != 0)then
 some (0,d.2)
 else
 (QdH c.Num b.1 d.1).bind fun h=>
 some (h.1,h.2)
def QeV : Nat->Qk->(List Int)->Option (Int×Int)
 | 0,_,_=>none
 | n+1,b,a=>Qlt (QeV n) b a
def QqL (b:Qk)(a:(List Int)):Option (Int×Int):=QeV (SizeOf.sizeOf b) b a
theorem Qwy (rec_ref04_eval:Qk->(List Int)->Option (Int×Int))(hrec_ref04_eval:∀(j:Qk) (e:(List Int)) {r:(Int×Int)},rec_ref04_eval j e=some r->Qc prog 146 [.agg (Qn j),.sl 1 (e.map Qe)] [] (Gives (.tup [.I r.1,.I r.2]) []))(j:Qk)(e:(List Int)){r:(Int×Int)}(h:Qlt rec_ref04_eval j e=some r):Qc prog 146 [.agg (Qn j),.sl 1 (e.map Qe)] [] (Gives (.tup [.I r.1,.I r.2]) []):=by
 refine wk_ 100 func146 fun C a=>?_
 refine tg_ a [21] ?_
 refine bq_ a h [.T,11,.K [4,5] []] rfl (fun x h=>?_) [.F,6] rfl fun x h=>?_
 ·cases h
  exact d2_ tt_
 rcases Qp h with⟨y,h⟩|⟨y,h⟩
 ·obtain⟨e9,a1,h⟩:=Qb h
  refine Qa a [.T,5,.o (.row (Qe e9)),8] rfl (a2_ y (QE a1)) ?_
  cases h
  exact d2_ tt_
 obtain⟨z,A,h⟩:=Qb h
 obtain⟨f,B,h⟩:=Qb h
 refine Qa a [.F,7,.o (.row (Qn z)),.A (Qn z),1,.o (.C2 (.tup [.I f.1,.I f.2])),14] rfl (a4_ y (Qbz A) rfl (hrec_ref04_eval _ _ B)) ?_
 refine bq_ a h [.T,9,.K [4,5] []] rfl (fun k h=>?_) [.F,16] rfl fun k h=>?_
 ·cases h
  exact d2_ tt_
 rcases Qp h with⟨l,h⟩|⟨l,h⟩
 ·obtain⟨D,E,h⟩:=Qb h
  refine Qa a [.T,3,.o (.C3 (.tup [.I D.1,.I D.2])),9] rfl (a2_ l (Quv _ _ _ E)) ?_
  cases h
  exact d2_ tt_
 refine Qa a [.F,6] rfl (a1_ l) ?_
 refine bq_ a h [.T,7] rfl (fun m h=>?_) [.F,6] rfl fun m h=>?_
 ·refine bq_ a h [.T,10,.K [4,5] []] rfl (fun p h=>?_) [.F,11,.K [4,5] []] rfl fun p h=>?_
  ·cases h
   exact d2_ tt_
  cases h
  exact d2_ tt_
 refine bq_ a h [.T,7] rfl (fun q h=>?_) [.F,5] rfl fun q h=>?_
 ·rcases Qp h with⟨s,h⟩|⟨s,h⟩
  ·obtain⟨G,H,h⟩:=Qb h
   obtain⟨J,L,h⟩:=Qb h
   refine Qa a [.T,4,.o (.row (Qn G)),.A (Qn G),1,.o (.C2 (.tup [.I J.1,.I J.2])),10] rfl (a4_ s (Qbz H) rfl (hrec_ref04_eval _ _ L)) ?_
   cases h
   exact d2_ tt_
  obtain⟨M,N,h⟩:=Qb h
  obtain⟨O,P,h⟩:=Qb h
  refine Qa a [.F,6,.o (.row (Qn M)),.A (Qn M),1,.o (.C2 (.tup [.I O.1,.I O.2])),9] rfl (a4_ s (Qbz N) rfl (hrec_ref04_eval _ _ P)) ?_
  cases h
  exact d2_ tt_
 refine AK.meetX (fun σ=>σ=⟨[(1,.sl 1 (e.map Qe)),lk_ 2,(6,.I f.1),(73,.b ((j.Num==10)&&(f.1==0)))],[(2,.var (Qn j))]⟩) ?_ ?_
 ·refine tg_ a [5] ?_
  rcases QD (j.Num==10)with g | g
  ·refine Qa a [.S 70 (.b true),4,.S 73 (.b ((j.Num==10)&&(f.1==0))),.K [1,2,6,73] [2]] rfl ⟨(tc_ g),(congrArg V.b (Qai g rfl))⟩ ?_
   exact mt_
  refine Qa a [.S 70 (.b false),4,.S 73 (.b ((j.Num==10)&&(f.1==0))),.K [1,2,6,73] [2]] rfl ⟨(tc_ g),(congrArg V.b (QaS g rfl))⟩ ?_
  exact mt_
 rintro σ rfl
 refine tg_ a [1] ?_
 refine bq_ a h [.T,8,.K [4,5] []] rfl (fun t h=>?_) [.F,4] rfl fun t h=>?_
 ·cases h
  exact d2_ tt_
 refine AK.meetX (fun σ=>σ=⟨[(1,.sl 1 (e.map Qe)),lk_ 2,(6,.I f.1),(80,.b ((j.Num==11)&&(f.1 != 0)))],[(2,.var (Qn j))]⟩) ?_ ?_
 ·refine tg_ a [5] ?_
  rcases QD (j.Num==11)with i | i
  ·refine Qa a [.S 77 (.b true),4,.S 80 (.b ((j.Num==11)&&(f.1 != 0))),.K [1,2,6,80] [2]] rfl ⟨(tc_ i),(congrArg V.b (Qai i rfl))⟩ ?_
   exact mt_
  refine Qa a [.S 77 (.b false),4,.S 80 (.b ((j.Num==11)&&(f.1 != 0))),.K [1,2,6,80] [2]] rfl ⟨(tc_ i),(congrArg V.b (QaS i rfl))⟩ ?_
  exact mt_
 rintro σ rfl
 refine tg_ a [1] ?_
 rcases Qp h with⟨u,h⟩|⟨u,h⟩
 ·refine Qa a [.T,8] rfl (a1_ u) ?_
  cases h
  exact d2_ tt_
 obtain⟨U,W,h⟩:=Qb h
 obtain⟨X,Y,h⟩:=Qb h
 refine Qa a [.F,6,.o (.row (Qn U)),.A (Qn U),1,.o (.C2 (.tup [.I X.1,.I X.2])),14] rfl (a4_ u (Qbz W) rfl (hrec_ref04_eval _ _ Y)) ?_
 rcases Qp h with⟨w,h⟩|⟨w,h⟩
 ·refine Qa a [.T,9] rfl (a1_ w) ?_
  cases h
  exact d2_ tt_
 obtain⟨Z,a0,h⟩:=Qb h
 refine Qa a [.F,8,.o (.C3 (.tup [.I Z.1,.I Z.2])),7] rfl (a2_ w (Quv _ _ _ a0)) ?_
 cases h
 exact d2_ tt_
theorem Qpj : ∀(fuel:Nat) (b:Qk) (a:(List Int)) {r:(Int×Int)},QeV fuel b a=some r->Qc prog 146 [.agg (Qn b),.sl 1 (a.map Qe)] [] (Gives (.tup [.I r.1,.I r.2]) [])
 | 0,_,_,_,h=>by cases h
 | n+1,b,a,_,h=>Qwy (QeV n) (fun _ _ _ h=>Qpj n _ _ h) b a h
theorem Qym (b a){r}(h:QqL b a=some r):Qc prog 146 [.agg (Qn b),.sl 1 (a.map Qe)] [] (Gives (.tup [.I r.1,.I r.2]) []):=Qpj _ b a h
def QkG (b:Qk)(a:(List Int)):Option (Int×Int):=
 (Qmp b (a.length:Int)).bind fun d=>
 bif (!d)then
 some (0,1)
 else
 (QqL b a).bind fun c=>
 some (c.1,c.2)
theorem QrY (f a){r}(h:QkG f a=some r):Qc prog 77 [.agg (Qn f),.sl 1 (a.map Qe)] [] (Gives (.tup [.I r.1,.I r.2]) []):=by
 refine wk_ 18 func77 fun C g=>?_
 obtain⟨l,i,h⟩:=Qb h
 refine Qa g [9,.A (Qn f),1,.o (.ln a.length),.o (.C2 (.b l)),10] rfl (a3_ rfl Qf (Qxs _ _ i)) ?_
 rcases Qp h with⟨e,h⟩|⟨e,h⟩
 ·refine Qa g [.T,8] rfl (a1_ e) ?_
  cases h
  exact d2_ tt_
 obtain⟨k,j,h⟩:=Qb h
 refine Qa g [.F,4,.A (Qn f),1,.o (.C2 (.tup [.I k.1,.I k.2])),7] rfl (a3_ e rfl (Qym _ _ j)) ?_
 cases h
 exact d2_ tt_
def QkH (b:Int)(a:Int)(c:(List Int)):Option ((Int×(List Int))⊕(List Int)):=
 bif (decide (a<b))then
 (chk (decide (c.length+([a]:List Int).length<=4294967296))).bind fun _=>
 some (.inl ((w64 (a+1)),(c++([a]:List Int))))
 else
 some (.inr c)
def Qg6 (a:QLL):Option QLL:=
 some a
def QoG (b:Int)(a:Int)(c:QLL):Option ((Int×QLL)⊕QLL):=
 bif (decide (a<b))then
 (chk (decide (c.length+([([a]:List Int)]:List (List Int)).length<=4294967296))).bind fun _=>
 some (.inl ((w64 (a+1)),(c++([([a]:List Int)]:List (List Int)))))
 else
 some (.inr c)
def QkI (a:QLL):Option QLL:=
 Qg6 a
def QoH (b:Int)(a:Int)(c:Int):Option ((Int×Int)⊕Int):=
 bif (decide (c<b))then
 some (.inl ((w64 (2*a)),(w64 (c+1))))
 else
 some (.inr a)
def QkJ (a:Int)(b:Int)(c:(List Int)):Option ((Int×Int×(List Int))⊕(List Int)):=
 some (.inl ((w64 (Int.tdiv a 2)),(w64 (b+1)),c))
def QoI (c:Int)(d:Int)(a:Int)(b:(List Int)):Option ((Int×Int×(List Int))⊕(List Int)):=
 bif (decide (a<c))then
 bif ((Int.tmod d 2)==1)then
 (chk (decide (b.length+([a]:List Int).length<=4294967296))).bind fun _=>
 QkJ d a (b++([a]:List Int))
 else
 QkJ d a b
 else
 some (.inr b)
def QoJ (a:QLL)(c:Int)(b:(List Int)):Option ((Int×QLL)⊕QLL):=
 (chk (decide (a.length+([b]:List (List Int)).length<=4294967296))).bind fun _=>
 some (.inl ((w64 (c+1)),(a++([b]:List (List Int)))))
def QoK (a:Int)(b:Int)(c:Int)(d:QLL):Option ((Int×QLL)⊕QLL):=
 bif (decide (c<a))then
 (Qw (fun st=>QoI b st.1 st.2.1 st.2.2) (c,0,([]:List Int))).bind (fun q=>QoJ d c q)
 else
 some (.inr d)
def Qjs (a:QLL):Option QLL:=
 Qg6 a
def QnQ (a:Int)(b:Int):Option QLL:=
 (Qw (fun st=>QoK b a st.1 st.2) (1,([]:List (List Int)))).bind (fun q=>Qjs q)
def Qjt (a:Int)(b:Int)(c:(List Int)):Option QLL:=
 bif (a==1)then
 some ([c]:List (List Int))
 else
 bif (a==2)then
 (Qw (fun st=>QoG b st.1 st.2) (0,([]:List (List Int)))).bind (fun q=>QkI q)
 else
 bif (a==3)then
 (Qw (fun st=>QoH b st.1 st.2) (1,0)).bind (fun q=>QnQ b q)
 else
 Qg6 ([]:List (List Int))
def Qdp (b:Int)(a:Int):Option QLL:=
 bif ((decide (a<0))||((decide (16<a))||((b==3)&&(decide (4<a)))))then
 some ([]:List (List Int))
 else
 (Qw (fun st=>QkH a st.1 st.2) (0,([]:List Int))).bind (fun q=>Qjt b a q)
theorem QkK (c a){r}(h:Qdp c a=some r):Qc prog 147 [.I c,.I a] [] (Gives (.own 600 r.length) [(600,.arr 1 (r.map Qv))]):=by
 refine wk_ 89 func147 fun C d=>?_
 unfold Qdp at h
 refine tg_ d [7] ?_
 refine AK.meetX (fun σ=>σ=⟨[(0,.I c),(1,.I a),(28,.b ((decide (a<0))||((decide (16<a))||((c==3)&&(decide (4<a))))))],[]⟩) ?_ ?_
 ·refine tg_ d [4] ?_
  rcases QD (decide (a<0))with i | i
  ·refine Qa d [.S 17 (.b true),12,.S 28 (.b ((decide (a<0))||((decide (16<a))||((c==3)&&(decide (4<a)))))),.K [0,1,28] []] rfl ⟨(tc_ i),(congrArg V.b (orT i rfl))⟩ ?_
   exact mt_
  refine Qa d [.S 17 (.b false),4] rfl (tc_ i) ?_
  rcases QD (decide (16<a))with j | j
  ·refine Qa d [.S 21 (.b true),8,.S 28 (.b ((decide (a<0))||((decide (16<a))||((c==3)&&(decide (4<a)))))),.K [0,1,28] []] rfl ⟨(tc_ j),(congrArg V.b (orF i (orT j rfl)))⟩ ?_
   exact mt_
  refine Qa d [.S 21 (.b false),3] rfl (tc_ j) ?_
  rcases QD (c==3)with k | k
  ·refine Qa d [.S 24 (.b true),5,.S 28 (.b ((decide (a<0))||((decide (16<a))||((c==3)&&(decide (4<a)))))),.K [0,1,28] []] rfl ⟨(tc_ k),(congrArg V.b (orF i (orF j (Qai k rfl))))⟩ ?_
   exact mt_
  refine Qa d [.S 24 (.b false),5,.S 28 (.b ((decide (a<0))||((decide (16<a))||((c==3)&&(decide (4<a)))))),.K [0,1,28] []] rfl ⟨(tc_ k),(congrArg V.b (orF i (orF j (QaS k rfl))))⟩ ?_
  exact mt_
 rintro σ rfl
 refine tg_ d [1] ?_
 refine bg_ h (fun J h=>Qa d [.T,7,.adopt 4 600 1,.O 600 (.arr 1 (([]:List (List Int)).map Qv)),.S 4 (.own 600 ([]:List (List Int)).length),.K [4] [600]] rfl (a3_ J rfl rfl) ?_) fun J h=>Qa d [.F,19,.adopt 6 34 1,.O 34 (.arr 1 (([]:List Int).map Qe)),.S 6 (.own 34 ([]:List Int).length),.K [0,1,5,6,7] [34]] rfl (a3_ J rfl (congrArg (fun n=>V.own 34 n) (by simp))) ?_
 ·cases h
  exact d1_ r1_
 obtain⟨B,M,h⟩:=Qb h
 refine AK.loop (body:=(fun st=>QkH a st.1 st.2)) (fun st σ=>σ=⟨[(0,.I c),(1,.I a),(5,.lit (.slice none 0 0)),(6,.own 34 st.2.length),(7,.I st.1)],[(34,.arr 1 (st.2.map Qe))]⟩) (fun q e σ=>e=.exit 0/\σ=⟨[(0,.I c),(1,.I a),(5,.lit (.slice none 0 0)),(6,.own 34 q.length)],[(34,.arr 1 (q.map Qe))]⟩) M rfl ?_ ?_
 ·rintro ⟨L,N⟩ o σ rfl h
  refine tg_ d [8] ?_
  rcases Qp h with⟨l,h⟩|⟨l,h⟩
  ·obtain⟨P,h⟩:=Qao h
   refine Qa d [.T,7,.v (.bd []) [] (.sl 1 (([L]:List Int).map Qe)),.app ((N++([L]:List Int)).map Qe) (N++([L]:List Int)).length,9,.K [0,1,5,6,7] [34]] rfl (a3_ l rfl ⟨Qf,Qbk P Qf,Qap,QbG Qf⟩) ?_
   cases h
   exact QR rfl rfl
  refine Qa d [.F,2,.K [0,1,5,6] [34]] rfl (a1_ l) ?_
  cases h
  exact QT rfl (an_ rfl rfl)
 replace h:Qjt c a B=some r:=h
 rintro e σ ⟨rfl,rfl⟩
 refine tg_ d [2] ?_
 refine AK.meet (fun σ=>∃D:QLL,σ=⟨[(5,.own 604 D.length)],[(604,.arr 1 (D.map Qv))]⟩/\Qg6 D=some r) ?_ ?_
 ·refine tg_ d [12] ?_
  refine bg_ h (fun m h=>Qa d [.T,3,.frz 34 (B.map Qe) [6,41] [],1,.O 42 (.arr 1 (([B]:List (List Int)).map Qv)),.S 42 (.own 42 ([B]:List (List Int)).length),6,.K [4] [42],.ren 42 600,.K [4] [600]] rfl (a4_ m (a2_ (Qcd Qf) (Qcd Qf)) rfl rfl) ?_) fun m h=>Qa d [.F,6] rfl (a1_ m) ?_
  ·cases h
   exact d1_ r1_
  refine bg_ h (fun p h=>Qa d [.T,6,.adopt 5 50 1,.O 50 (.arr 1 (([]:List (List Int)).map Qv)),.S 5 (.own 50 ([]:List (List Int)).length),.K [1,5,8] [50]] rfl (a3_ p rfl (congrArg (fun n=>V.own 50 n) (by simp))) ?_) fun p h=>Qa d [.F,6] rfl (a1_ p) ?_
  ·obtain⟨a5,U,h⟩:=Qb h
   refine AK.loop (body:=(fun st=>QoG a st.1 st.2)) (fun st σ=>σ=⟨[(1,.I a),(5,.own 50 st.2.length),(8,.I st.1)],[(50,.arr 1 (st.2.map Qv))]⟩) (fun q e σ=>e=.exit 3/\σ=⟨[(5,.own 50 q.length)],[(50,.arr 1 (q.map Qv))]⟩) U rfl ?_ ?_
   ·rintro ⟨E,W⟩ o σ rfl h
    refine tg_ d [8] ?_
    rcases Qp h with⟨s,h⟩|⟨s,h⟩
    ·obtain⟨X,h⟩:=Qao h
     refine Qa d [.T,7,.v (.bd []) [] (.sl 1 (([E]:List Int).map Qe)),.v (.bd []) [] (.sl 1 (([([E]:List Int)]:List (List Int)).map Qv)),.app ((W++([([E]:List Int)]:List (List Int))).map Qv) (W++([([E]:List Int)]:List (List Int))).length,9,.K [1,5,8] [50]] rfl (a4_ s rfl rfl ⟨Qf,Qbk X Qf,Qap,QbG Qf⟩) ?_
     cases h
     exact QR rfl rfl
    refine Qa d [.F,2,.K [5] [50]] rfl (a1_ s) ?_
    cases h
    exact QT rfl (an_ rfl rfl)
   replace h:QkI a5=some r:=h
   unfold QkI at h
   rintro e σ ⟨rfl,rfl⟩
   refine tg_ d [2,.ren 50 604,.K [5] [604]] ?_
   exact AK.met (ex_ _ (an_ rfl h))
  refine bg_ h (fun t h=>Qa d [.T,12,.K [1,5,9,10] []] rfl (a1_ t) ?_) fun t h=>Qa d [.F,2,.adopt 5 604 1,.O 604 (.arr 1 (([]:List (List Int)).map Qv)),.S 5 (.own 604 ([]:List (List Int)).length),.K [5] [604]] rfl (a3_ t rfl (congrArg (fun n=>V.own 604 n) (by simp))) ?_
  ·obtain⟨f,Y,h⟩:=Qb h
   refine AK.loop (body:=(fun st=>QoH a st.1 st.2)) (fun st σ=>σ=⟨[(1,.I a),(5,.lit (.slice none 0 0)),(9,.I st.1),(10,.I st.2)],[]⟩) (fun q e σ=>e=.exit 5/\σ=⟨[(1,.I a),(5,.lit (.slice none 0 0)),(9,.I q)],[]⟩) Y rfl ?_ ?_
   ·rintro ⟨a6,a8⟩ o σ rfl h
    refine tg_ d [8] ?_
    refine bq_ d h [.T,16,.K [1,5,9,10] []] rfl (fun u h=>?_) [.F,2,.K [1,5,9] []] rfl fun u h=>?_
    ·cases h
     exact QR rfl rfl
    cases h
    exact QT rfl (an_ rfl rfl)
   replace h:QnQ a f=some r:=h
   rintro e σ ⟨rfl,rfl⟩
   refine Qa d [8,.adopt 5 84 1,.O 84 (.arr 1 (([]:List (List Int)).map Qv)),.S 5 (.own 84 ([]:List (List Int)).length),.K [1,5,9,11] [84]] rfl (a2_ rfl (congrArg (fun n=>V.own 84 n) (by simp))) ?_
   obtain⟨a7,Z,h⟩:=Qb h
   refine AK.loop (body:=(fun st=>QoK f a st.1 st.2)) (fun st σ=>σ=⟨[(1,.I a),(5,.own 84 st.2.length),(9,.I f),(11,.I st.1)],[(84,.arr 1 (st.2.map Qv))]⟩) (fun q e σ=>e=.exit 7/\σ=⟨[(5,.own 84 q.length)],[(84,.arr 1 (q.map Qv))]⟩) Z rfl ?_ ?_
   ·rintro ⟨G,g⟩ o σ rfl h
    refine tg_ d [8] ?_
    refine bg_ h (fun w h=>Qa d [.T,22,.adopt 12 78 1,.O 78 (.arr 1 (([]:List Int).map Qe)),.S 12 (.own 78 ([]:List Int).length),.K [1,5,9,11,12,13,14] [78,84]] rfl (a3_ w rfl (congrArg (fun n=>V.own 78 n) (by simp))) ?_) fun w h=>Qa d [.F,2,.K [5] [84]] rfl (a1_ w) ?_
    ·obtain⟨x,a0,h⟩:=Qb h
     refine AK.loop (body:=(fun st=>QoI a st.1 st.2.1 st.2.2)) (fun st σ=>σ=⟨[(1,.I a),(5,.own 84 g.length),(9,.I f),(11,.I G),(12,.own 78 st.2.2.length),(13,.I st.1),(14,.I st.2.1)],[(78,.arr 1 (st.2.2.map Qe)),(84,.arr 1 (g.map Qv))]⟩) (fun q e σ=>e=.exit 9/\σ=⟨[(1,.I a),(5,.own 84 g.length),(9,.I f),(11,.I G),(12,.own 78 q.length)],[(78,.arr 1 (q.map Qe)),(84,.arr 1 (g.map Qv))]⟩) a0 rfl ?_ ?_
     ·rintro ⟨a1,y,a2⟩ o σ rfl h
      refine tg_ d [8] ?_
      refine bq_ d h [.T,4] rfl (fun z h=>?_) [.F,2,.K [1,5,9,11,12] [78,84]] rfl fun z h=>?_
      ·refine AK.meet (fun σ=>∃H:(List Int),σ=⟨[(1,.I a),(5,.own 84 g.length),(9,.I f),(11,.I G),(12,.own 78 H.length),(13,.I a1),(14,.I y)],[(78,.arr 1 (H.map Qe)),(84,.arr 1 (g.map Qv))]⟩/\QkJ a1 y H=some o) ?_ ?_
       ·refine Qa d [7] rfl (a1_ (by decide)) ?_
        rcases Qp h with⟨A,h⟩|⟨A,h⟩
        ·obtain⟨a3,h⟩:=Qao h
         refine Qa d [.T,3,.v (.bd []) [] (.sl 1 (([y]:List Int).map Qe)),.app ((a2++([y]:List Int)).map Qe) (a2++([y]:List Int)).length,2,.K [1,5,9,11,12,13,14] [78,84]] rfl (a3_ A rfl ⟨Qf,Qbk a3 Qf,Qap,QbG Qf⟩) ?_
         exact AK.met (ex_ _ (an_ rfl h))
        refine Qa d [.F,1,.K [1,5,9,11,12,13,14] [78,84]] rfl (a1_ A) ?_
        exact AK.met (ex_ _ (an_ rfl h))
       rintro σ ⟨H,rfl,h⟩
       refine Qa d [12,.K [1,5,9,11,12,13,14] [78,84]] rfl (a1_ (by decide)) ?_
       cases h
       exact QR rfl rfl
      cases h
      exact QT rfl (an_ rfl rfl)
     replace h:QoJ g G x=some o:=h
     rintro e σ ⟨rfl,rfl⟩
     obtain⟨a4,h⟩:=Qao h
     refine Qa d [5,.frz 78 (x.map Qe) [12,85] [],.v (.bd []) [] (.sl 1 (([x]:List (List Int)).map Qv)),.app ((g++([x]:List (List Int))).map Qv) (g++([x]:List (List Int))).length,9,.K [1,5,9,11] [84]] rfl (a3_ (a2_ (Qcd Qf) (Qcd Qf)) rfl ⟨Qf,Qbk a4 Qf,Qap,QbG Qf⟩) ?_
     cases h
     exact QR rfl rfl
    cases h
    exact QT rfl (an_ rfl rfl)
   replace h:Qjs a7=some r:=h
   unfold Qjs at h
   rintro e σ ⟨rfl,rfl⟩
   refine tg_ d [2,.ren 84 604,.K [5] [604]] ?_
   exact AK.met (ex_ _ (an_ rfl h))
  exact AK.met (ex_ _ (an_ rfl h))
 rintro σ ⟨D,rfl,h⟩
 refine tg_ d [7,.K [4] [604],.ren 604 600] ?_
 cases h
 exact d1_ r1_
def QrZ (c:(List Int))(d:(List Int))(a:Int):Option (Int⊕(Unit⊕Unit)):=
 bif (decide (a<(c.length:Int)))then
 (idx c a).bind fun e=>
 (idx d a).bind fun b=>
 bif (e != b)then
 some (.inr (.inl ()))
 else
 some (.inl (w64 (a+1)))
 else
 some (.inr (.inr ()))
def Qr0 : Option Bool:=
 some false
def Qr1 : Option Bool:=
 some true
def Qh8 (a:(List Int))(b:(List Int)):Option Bool:=
 bif ((a.length:Int) != (b.length:Int))then
 some false
 else
 (Qw (fun st=>QrZ a b st) 0).bind (Sum.elim (fun q=>Qr0) (fun q=>Qr1))
theorem Qka (i j){r}(h:Qh8 i j=some r):Qc prog 87 [.sl 1 (i.map Qe),.sl 1 (j.map Qe)] [] (Gives (.b r) []):=by
 refine wk_ 26 func87 fun C c=>?_
 refine Qa c [9,.o (.ln i.length),1,.o (.ln j.length),3] rfl (a2_ Qf Qf) ?_
 refine bq_ c h [.T,7,.K [4] []] rfl (fun f h=>?_) [.F,9,.K [0,1,5] []] rfl fun f h=>?_
 ·cases h
  exact d1_ tt_
 obtain⟨m,k,h⟩:=Qb h
 refine AK.loop (body:=(fun st=>QrZ i j st)) (fun st σ=>σ=⟨[(0,.sl 1 (i.map Qe)),(1,.sl 1 (j.map Qe)),(5,.I st)],[]⟩) (Sum.elim (fun q e σ=>e=.ret/\σ=⟨[(4,.b false)],[]⟩) (fun q e σ=>e=.exit 0/\σ=⟨[],[]⟩)) k rfl ?_ ?_
 ·rintro u o σ rfl h
  refine Qa c [5,.o (.ln i.length),3] rfl (a1_ Qf) ?_
  rcases Qp h with⟨g,h⟩|⟨g,h⟩
  ·obtain⟨t,p,h⟩:=Qb h
   obtain⟨s,l,h⟩:=Qb h
   refine Qa c [.T,5,.K [0,1,5] []] rfl (a1_ g) ?_
   refine AK.draw2 Qr c mixed [.N,.N,.a (.row (Qe t)) none false,.N,.N,.N,.a (.row (Qe s)) none false,.N,.N] [] [] [0,1,5,25] [] rfl rfl rfl ⟨⟨tt_,(QE p)⟩,(QE l)⟩ rfl (by kernel_rfl) rfl rfl rfl ?_
   refine tg_ c [1] ?_
   refine bq_ c h [.T,8,.K [4] []] rfl (fun d h=>?_) [.F,8,.K [0,1,5] []] rfl fun d h=>?_
   ·cases h
    exact Q6 rfl (an_ rfl rfl)
   cases h
   exact QR rfl rfl
  refine Qa c [.F,2,.K [] []] rfl (a1_ g) ?_
  cases h
  exact QT rfl (an_ rfl rfl)
 rcases m with(_ | _)
 ·replace h:Qr0=some r:=h
  rintro e σ ⟨rfl,rfl⟩
  refine tg_ c [2] ?_
  cases h
  exact d1_ tt_
 replace h:Qr1=some r:=h
 rintro e σ ⟨rfl,rfl⟩
 refine tg_ c [8] ?_
 cases h
 exact d1_ tt_
def Qdi (e:QLL)(a:(List Int))(b:Int):Option (Int⊕(Unit⊕Unit)):=
 bif (decide (b<(e.length:Int)))then
 (idx e b).bind fun c=>
 (Qh8 c a).bind fun d=>
 bif d then
 some (.inr (.inl ()))
 else
 some (.inl (w64 (b+1)))
 else
 some (.inr (.inr ()))
def Qpk : Option Bool:=
 some true
def Qpl : Option Bool:=
 some false
def Qh9 (a:Int)(b:Int)(c:(List Int)):Option Bool:=
 (Qdp a b).bind fun d=>
 (Qw (fun st=>Qdi d c st) 0).bind (Sum.elim (fun q=>Qpk) (fun q=>Qpl))
theorem Qpm (f g a){r}(h:Qh9 f g a=some r):Qc prog 78 [.I f,.I g,.sl 1 (a.map Qe)] [] (Gives (.b r) []):=by
 refine wk_ 24 func78 fun C j=>?_
 obtain⟨m,t,h⟩:=Qb h
 refine Qa j [9,.o (.co false [.d,.d] 1 (m.map Qv) m.length),10,.K [2,7,8] [11]] rfl (a1_ ⟨(QkK _ _ t),Qf,.inl rfl⟩) ?_
 obtain⟨u,p,h⟩:=Qb h
 refine AK.loop (body:=(fun st=>Qdi m a st)) (fun st σ=>σ=⟨[(2,.sl 1 (a.map Qe)),(7,.own 11 m.length),(8,.I st)],[(11,.arr 1 (m.map Qv))]⟩) (Sum.elim (fun q e σ=>e=.ret/\σ=⟨[(6,.b true)],[]⟩) (fun q e σ=>e=.exit 0/\σ=⟨[],[]⟩)) p rfl ?_ ?_
 ·rintro x o σ rfl h
  refine tg_ j [9] ?_
  rcases Qp h with⟨l,h⟩|⟨l,h⟩
  ·obtain⟨v,k,h⟩:=Qb h
   obtain⟨w,s,h⟩:=Qb h
   refine Qa j [.T,9,.o (.row (Qv v)),1,.o (.C2 (.b w)),2] rfl (a4_ l (QbW k rfl) (QaN (Qby k).2) (Qka _ _ s)) ?_
   refine bq_ j h [.T,8,.K [6] []] rfl (fun i h=>?_) [.F,8,.K [2,7,8] [11]] rfl fun i h=>?_
   ·cases h
    exact Q6 rfl (an_ rfl rfl)
   cases h
   exact QR rfl rfl
  refine Qa j [.F,2,.K [] []] rfl (a1_ l) ?_
  cases h
  exact QT rfl (an_ rfl rfl)
 rcases u with(_ | _)
 ·replace h:Qpk=some r:=h
  rintro e σ ⟨rfl,rfl⟩
  refine tg_ j [2] ?_
  cases h
  exact d1_ tt_
 replace h:Qpl=some r:=h
 rintro e σ ⟨rfl,rfl⟩
 refine tg_ j [8] ?_
 cases h
 exact d1_ tt_
def Qcw (c:Int)(a:Int)(d:Int)(b:Int):Option (Int⊕(Int⊕Unit)):=
 bif (decide (b<c))then
 bif ((w64 (a+b))==d)then
 some (.inr (.inl b))
 else
 some (.inl (w64 (b+1)))
 else
 some (.inr (.inr ()))
def Qpn (a:Int):Option (Int×Bool):=
 some (a,true)
def Qpo : Option (Int×Bool):=
 some (0,false)
def Qeu (b:Int)(c:Int)(a:Int):Option (Int×Bool):=
 (Qw (fun st=>Qcw b a c st) 0).bind (Sum.elim (fun q=>Qpn q) (fun q=>Qpo))
def Qpp (b:Int)(c:(List QF))(d:Int):Option Bool:=
 bif (decide (0<b))then
 (idx c d).bind fun a=>
 some (a.Kind==1)
 else
 some false
def QhI (e:(List QF))(f:Int)(c:Int)(d:Int)(a:Bool):Option (Int×Bool):=
 bif a then
 (idx e f).bind fun b=>
 Qeu c d b.Lo
 else
 Qeu c d 0
def Qlu (a:(List QF))(b:Int)(e:Int):Option (Int×Bool):=
 (Qfb a b).bind fun d=>
 (Qpp d a b).bind (fun c=>QhI a b d e c)
theorem Qwz (s t l){r}(h:Qlu s t l=some r):Qc prog 149 [.sl 7 (s.map Qs),.I t,.I l] [] (Gives (.tup [.I r.1,.b r.2]) []):=by
 refine wk_ 40 func149 fun C f=>?_
 obtain⟨m,y,h⟩:=Qb h
 refine Qa f [10,.o (.C2 (.I m)),8] rfl (a1_ (Qnx _ _ y)) ?_
 refine AK.meet (fun σ=>∃a:Int,σ=⟨[(2,.I l),(8,.I m),(9,.I a)],[]⟩/\Qeu m l a=some r) ?_ ?_
 ·refine tg_ f [1] ?_
  obtain⟨p,u,h⟩:=Qb h
  replace h:QhI s t m l p=some r:=h
  refine AK.meetX (fun σ=>σ=⟨[(0,.sl 7 (s.map Qs)),(1,.I t),(2,.I l),(8,.I m),(9,.I 0),(23,.b p)],[]⟩) ?_ ?_
  ·replace h:=u
   refine tg_ f [4] ?_
   rcases Qp h with⟨g,h⟩|⟨g,h⟩
   ·obtain⟨z,v,h⟩:=Qb h
    refine Qa f [.S 16 (.b true),2,.o (.row (Qs z)),5,.K [0,1,2,8,9,23] []] rfl ⟨(tc_ g),(QE v)⟩ ?_
    cases h
    exact mt_
   refine Qa f [.S 16 (.b false),8,.K [0,1,2,8,9,23] []] rfl (tc_ g) ?_
   cases h
   exact mt_
  rintro σ rfl
  replace h:QhI s t m l p=some r:=h
  refine tg_ f [1] ?_
  rcases Qp h with⟨i,h⟩|⟨i,h⟩
  ·obtain⟨A,w,h⟩:=Qb h
   refine Qa f [.T,3,.o (.row (Qs A)),4,.K [2,8,9] []] rfl (a2_ i (QE w)) ?_
   exact AK.met (ex_ _ (an_ rfl h))
  refine Qa f [.F,1,.K [2,8,9] []] rfl (a1_ i) ?_
  exact AK.met (ex_ _ (an_ rfl h))
 rintro σ ⟨a,rfl,h⟩
 refine tg_ f [7,.K [2,8,9,10] []] ?_
 obtain⟨B,x,h⟩:=Qb h
 refine AK.loop (body:=(fun st=>Qcw m a l st)) (fun st σ=>σ=⟨[(2,.I l),(8,.I m),(9,.I a),(10,.I st)],[]⟩) (Sum.elim (fun q e σ=>e=.ret/\σ=⟨[(6,.I q),(7,.b true)],[]⟩) (fun q e σ=>e=.exit 0/\σ=⟨[],[]⟩)) x rfl ?_ ?_
 ·rintro E o σ rfl h
  refine tg_ f [8] ?_
  refine bq_ f h [.T,13] rfl (fun j h=>?_) [.F,2,.K [] []] rfl fun j h=>?_
  ·refine bq_ f h [.T,10,.K [6,7] []] rfl (fun k h=>?_) [.F,8,.K [2,8,9,10] []] rfl fun k h=>?_
   ·cases h
    exact Q6 rfl (an_ rfl rfl)
   cases h
   exact QR rfl rfl
  cases h
  exact QT rfl (an_ rfl rfl)
 rcases B with(D | _)
 ·replace h:Qpn D=some r:=h
  rintro e σ ⟨rfl,rfl⟩
  refine tg_ f [2] ?_
  cases h
  exact d2_ tt_
 replace h:Qpo=some r:=h
 rintro e σ ⟨rfl,rfl⟩
 refine tg_ f [9] ?_
 cases h
 exact d2_ tt_
def QqM (b:QBg)(a:Int):Option Bool:=
 (idx b a).bind fun g=>
 bif (decide (g.1<0))then
 some true
 else
 (idx b a).bind fun c=>
 bif (decide (c.2<1))then
 some true
 else
 (idx b a).bind fun d=>
 bif (decide (1048576<d.2))then
 some true
 else
 bif (decide (0<a))then
 (idx b a).bind fun e=>
 (idx b (w64 (a-1))).bind fun f=>
 some (decide (e.1<=f.1))
 else
 some false
def QiT (a:Int)(b:Bool):Option (Int⊕(Unit⊕Unit)):=
 bif b then
 some (.inr (.inl ()))
 else
 some (.inl (w64 (a+1)))
def QcW (b:QBg)(a:Int):Option (Int⊕(Unit⊕Unit)):=
 bif (decide (a<(b.length:Int)))then
 (QqM b a).bind (fun c=>QiT a c)
 else
 some (.inr (.inr ()))
def QqN : Option Bool:=
 some false
def QqO : Option Bool:=
 some true
def Qc3 (a:QBg):Option Bool:=
 (Qw (fun st=>QcW a st) 0).bind (Sum.elim (fun q=>QqN) (fun q=>QqO))
theorem QdP (u){r}(h:Qc3 u=some r):Qc prog 150 [.sl 2 (u.map Qo)] [] (Gives (.b r) []):=by
 refine wk_ 50 func150 fun C c=>?_
 refine tg_ c [12,.K [0,3] []] ?_
 obtain⟨z,v,h⟩:=Qb h
 refine AK.loop (body:=(fun st=>QcW u st)) (fun st σ=>σ=⟨[(0,.sl 2 (u.map Qo)),(3,.I st)],[]⟩) (Sum.elim (fun q e σ=>e=.ret/\σ=⟨[(2,.b false)],[]⟩) (fun q e σ=>e=.exit 0/\σ=⟨[],[]⟩)) v rfl ?_ ?_
 ·rintro A o σ rfl h
  refine Qa c [5,.o (.ln u.length),3] rfl (a1_ Qf) ?_
  refine bq_ c h [.T,5] rfl (fun s h=>?_) [.F,2,.K [] []] rfl fun s h=>?_
  ·obtain⟨B,D,h⟩:=Qb h
   replace h:QiT A B=some o:=h
   refine AK.meetX (fun σ=>σ=⟨[(0,.sl 2 (u.map Qo)),(3,.I A),(49,.b B)],[]⟩) ?_ ?_
   ·replace h:=D
    obtain⟨w,j,h⟩:=Qb h
    refine tg_ c [.K [0,3] []] ?_
    rcases Qp h with⟨d,h⟩|⟨d,h⟩
    ·refine AK.draw2 Qr c mixed [.N,.N,.a (.row (Qo w)) none false,.N,.N,.N,.a .no (some ([],.b true)) false,.N,.N,.N,.N,.N,.N,.N,.N,.N,.N,.N,.N,.N,.N,.N,.N,.N,.N,.N,.N,.N,.N,.N,.N,.N,.N,.N,.N,.N,.N,.N,.N,.N] [] [] [0,3,49] [] rfl rfl rfl ⟨⟨tt_,(QE j)⟩,(cb_ d)⟩ rfl (by kernel_rfl) rfl rfl rfl ?_
     refine tg_ c [.K [0,3,49] []] ?_
     cases h
     exact mt_
    obtain⟨p,g,h⟩:=Qb h
    rcases Qp h with⟨f,h⟩|⟨f,h⟩
    ·refine AK.draw2 Qr c mixed [.N,.N,.a (.row (Qo w)) none false,.N,.N,.N,.a .no (some ([],.b false)) false,.N,.N,.a (.row (Qo p)) none false,.N,.N,.N,.N,.a .no (some ([],.b true)) false,.N,.N,.N,.N,.N,.N,.N,.N,.N,.N,.N,.N,.N,.N,.N,.N,.N,.N,.N,.N,.N,.N,.N,.N,.N] [] [] [0,3,49] [] rfl rfl rfl ⟨⟨⟨⟨tt_,(QE j)⟩,(cb_ d)⟩,(QE g)⟩,(cb_ f)⟩ rfl (by kernel_rfl) rfl rfl rfl ?_
     refine tg_ c [.K [0,3,49] []] ?_
     cases h
     exact mt_
    obtain⟨t,k,h⟩:=Qb h
    rcases Qp h with⟨i,h⟩|⟨i,h⟩
    ·refine AK.draw2 Qr c mixed [.N,.N,.a (.row (Qo w)) none false,.N,.N,.N,.a .no (some ([],.b false)) false,.N,.N,.a (.row (Qo p)) none false,.N,.N,.N,.N,.a .no (some ([],.b false)) false,.N,.N,.a (.row (Qo t)) none false,.N,.N,.N,.N,.a .no (some ([],.b true)) false,.N,.N,.N,.N,.N,.N,.N,.N,.N,.N,.N,.N,.N,.N,.N,.N,.N] [] [] [0,3,49] [] rfl rfl rfl ⟨⟨⟨⟨⟨⟨tt_,(QE j)⟩,(cb_ d)⟩,(QE g)⟩,(cb_ f)⟩,(QE k)⟩,(cb_ i)⟩ rfl (by kernel_rfl) rfl rfl rfl ?_
     refine tg_ c [.K [0,3,49] []] ?_
     cases h
     exact mt_
    rcases Qp h with⟨l,h⟩|⟨l,h⟩
    ·obtain⟨E,x,h⟩:=Qb h
     obtain⟨G,y,h⟩:=Qb h
     refine AK.draw2 Qr c mixed [.N,.N,.a (.row (Qo w)) none false,.N,.N,.N,.a .no (some ([],.b false)) false,.N,.N,.a (.row (Qo p)) none false,.N,.N,.N,.N,.a .no (some ([],.b false)) false,.N,.N,.a (.row (Qo t)) none false,.N,.N,.N,.N,.a .no (some ([],.b false)) false,.N,.N,.a .no (some ([],.b true)) false,.N,.N,.a (.row (Qo E)) none false,.N,.N,.N,.N,.N,.a (.row (Qo G)) none false,.N,.N,.N,.N,.N] [] [] [0,3,49] [] rfl rfl rfl ⟨⟨⟨⟨⟨⟨⟨⟨⟨tt_,(QE j)⟩,(cb_ d)⟩,(QE g)⟩,(cb_ f)⟩,(QE k)⟩,(cb_ i)⟩,(cb_ l)⟩,(QE x)⟩,(QE y)⟩ rfl (by kernel_rfl) rfl rfl rfl ?_
     refine tg_ c [.K [0,3,49] []] ?_
     cases h
     exact mt_
    refine AK.draw2 Qr c mixed [.N,.N,.a (.row (Qo w)) none false,.N,.N,.N,.a .no (some ([],.b false)) false,.N,.N,.a (.row (Qo p)) none false,.N,.N,.N,.N,.a .no (some ([],.b false)) false,.N,.N,.a (.row (Qo t)) none false,.N,.N,.N,.N,.a .no (some ([],.b false)) false,.N,.N,.a .no (some ([],.b false)) false,.N,.N,.N,.N,.N,.N,.N,.N,.N,.N,.N,.N,.N,.N] [] [] [0,3,49] [] rfl rfl rfl ⟨⟨⟨⟨⟨⟨⟨tt_,(QE j)⟩,(cb_ d)⟩,(QE g)⟩,(cb_ f)⟩,(QE k)⟩,(cb_ i)⟩,(cb_ l)⟩ rfl (by kernel_rfl) rfl rfl rfl ?_
    refine tg_ c [.K [0,3,49] []] ?_
    cases h
    exact mt_
   rintro σ rfl
   replace h:QiT A B=some o:=h
   refine tg_ c [1] ?_
   refine bq_ c h [.T,8,.K [2] []] rfl (fun m h=>?_) [.F,8,.K [0,3] []] rfl fun m h=>?_
   ·cases h
    exact Q6 rfl (an_ rfl rfl)
   cases h
   exact QR rfl rfl
  cases h
  exact QT rfl (an_ rfl rfl)
 rcases z with(_ | _)
 ·replace h:QqN=some r:=h
  rintro e σ ⟨rfl,rfl⟩
  refine tg_ c [2] ?_
  cases h
  exact d1_ tt_
 replace h:QqO=some r:=h
 rintro e σ ⟨rfl,rfl⟩
 refine tg_ c [8] ?_
 cases h
 exact d1_ tt_
def QcX (b:QBg)(e:Bool)(f:Int)(a:Int):Option (Int⊕(Int⊕Unit)):=
 bif ((decide (a<(b.length:Int)))&&e)then
 (idx b a).bind fun c=>
 bif (c.1==f)then
 (idx b a).bind fun d=>
 some (.inr (.inl d.2))
 else
 some (.inl (w64 (a+1)))
 else
 some (.inr (.inr ()))
def QqP (a:Int):Option Int:=
 some a
def QqQ : Option Int:=
 some 0
def QgS (a:QBg)(b:Int):Option Int:=
 (Qc3 a).bind fun c=>
 (Qw (fun st=>QcX a c b st) 0).bind (Sum.elim (fun q=>QqP q) (fun q=>QqQ))
theorem QmJ (j l){r}(h:QgS j l=some r):Qc prog 151 [.sl 2 (j.map Qo),.I l] [] (Gives (.I r) []):=by
 refine wk_ 30 func151 fun C f=>?_
 obtain⟨k,u,h⟩:=Qb h
 refine Qa f [8,.o (.C1 (.b k)),10,.K [0,1,5,6] []] rfl (a1_ (QdP _ u)) ?_
 obtain⟨v,m,h⟩:=Qb h
 refine AK.loop (body:=(fun st=>QcX j k l st)) (fun st σ=>σ=⟨[(0,.sl 2 (j.map Qo)),(1,.I l),(5,.b k),(6,.I st)],[]⟩) (Sum.elim (fun q e σ=>e=.ret/\σ=⟨[(4,.I q)],[]⟩) (fun q e σ=>e=.exit 0/\σ=⟨[],[]⟩)) m rfl ?_ ?_
 ·rintro p o σ rfl h
  refine tg_ f [2] ?_
  refine AK.meetX (fun σ=>σ=⟨[(0,.sl 2 (j.map Qo)),(1,.I l),(5,.b k),(6,.I p),(15,.b ((decide (p<(j.length:Int)))&&k))],[]⟩) ?_ ?_
  ·refine Qa f [3,.o (.ln j.length),2] rfl (a1_ Qf) ?_
   rcases QD (decide (p<(j.length:Int)))with a | a
   ·refine Qa f [.S 13 (.b true),3,.S 15 (.b ((decide (p<(j.length:Int)))&&k)),.K [0,1,5,6,15] []] rfl ⟨(tc_ a),(congrArg V.b (Qai a rfl))⟩ ?_
    exact mt_
   refine Qa f [.S 13 (.b false),3,.S 15 (.b ((decide (p<(j.length:Int)))&&k)),.K [0,1,5,6,15] []] rfl ⟨(tc_ a),(congrArg V.b (QaS a rfl))⟩ ?_
   exact mt_
  rintro σ rfl
  refine tg_ f [1] ?_
  rcases Qp h with⟨g,h⟩|⟨g,h⟩
  ·obtain⟨w,s,h⟩:=Qb h
   refine Qa f [.T,8,.o (.row (Qo w)),6] rfl (a2_ g (QE s)) ?_
   rcases Qp h with⟨i,h⟩|⟨i,h⟩
   ·obtain⟨x,t,h⟩:=Qb h
    refine Qa f [.T,4,.o (.row (Qo x)),8,.K [4] []] rfl (a2_ i (QE t)) ?_
    cases h
    exact Q6 rfl (an_ rfl rfl)
   refine Qa f [.F,8,.K [0,1,5,6] []] rfl (a1_ i) ?_
   cases h
   exact QR rfl rfl
  refine Qa f [.F,2,.K [] []] rfl (a1_ g) ?_
  cases h
  exact QT rfl (an_ rfl rfl)
 rcases v with(y | _)
 ·replace h:QqP y=some r:=h
  rintro e σ ⟨rfl,rfl⟩
  refine tg_ f [2] ?_
  cases h
  exact d1_ tt_
 replace h:QqQ=some r:=h
 rintro e σ ⟨rfl,rfl⟩
 refine tg_ f [8] ?_
 cases h
 exact d1_ tt_

end Go.Proofs
