/- What functions of the program do, as functions over plain data, and the walks that show it: printed by a program. -/
import Derived.Test.YtbfgchciebcbpaaGreatDoorM1T1
set_option linter.unusedVariables false
set_option linter.unusedSimpArgs false
set_option linter.unusedSectionVars false
set_option linter.deprecated false
set_option maxRecDepth 100000
set_option maxHeartbeats 4000000
noncomputable section
namespace Go.Proofs
open Go Go.RowKit Go.Vm Go.Proofs.Tryz
def Qfp (a:QB)(h:Int)(b:Qm)(i:Int)(j:Int)(k:Int)(l:Int)(m:Int):Option Int:=
 (Qgn a).bind fun c=>
 bif (!c)then
 some h
 else
 (Qgp b i a).bind fun d=>
 bif (!d)then
 some j
 else
 (Qgq b a).bind fun e=>
 bif (!e)then
 some k
 else
 (Qgr a).bind fun f=>
 bif (!f)then
 some l
 else
 (Qgs b a).bind fun g=>
 bif (!g)then
 some m
 else
 some 0
theorem QnK (k u l w x y z A){r}(h:Qfp k u l w x y z A=some r):Qc prog 64 [.own 609 5] [(609,.var [.clo (.func 112) [] [.loc 610 0 0],.I u,.clo (.func 113) [] [.loc 611 0 0,.loc 612 0 0,.loc 613 0 0],.I x,.clo (.func 115) [] [.loc 611 0 0,.loc 610 0 0],.I y,.clo (.func 117) [] [.loc 610 0 0],.I z,.clo (.func 118) [] [.loc 611 0 0,.loc 610 0 0],.I A]),(610,.var (Qq k)),(611,.var (Qe l)),(612,.var (Qb w)),(613,.var [.clo (.func 111) [] [.loc 610 0 0]])] (Qh (.I r) [(609,.var [.clo (.func 112) [] [.loc 610 0 0],.I u,.clo (.func 113) [] [.loc 611 0 0,.loc 612 0 0,.loc 613 0 0],.I x,.clo (.func 115) [] [.loc 611 0 0,.loc 610 0 0],.I y,.clo (.func 117) [] [.loc 610 0 0],.I z,.clo (.func 118) [] [.loc 611 0 0,.loc 610 0 0],.I A]),(610,.var (Qq k)),(611,.var (Qe l)),(612,.var (Qb w)),(613,.var [.clo (.func 111) [] [.loc 610 0 0]])]):=by
 refine Qc.walk 18 func64 rfl rfl rfl fun C hC=>?_
 refine tg_ hC [.n 14] rfl ?_
 refine AK.loopN 6 (AK.rnd ?_)
 obtain⟨B,m,h⟩:=Qd h
 refine Qa hC [.n 2,.v .no [] (.b true),.n 10,.o (.any (.loc 609 0 0) none),.n 3,.O 4 (.var [.clo (.func 112) [] [.loc 610 0 0],.I u]),.n 6,.cm (.clo) [(609,610)] [(610,609)] [] [.d] [(609,.var (Qq k))] (.b B),.n 3] rfl ⟨⟨⟨⟨tt_,rfl⟩,(fun σ a j _=>Stp.idxV rfl rfl (Qz hC.n rfl) (a _ _ rfl) (a _ _ rfl) (Qp.es rfl) (j _ _ rfl) (by decide))⟩,rfl⟩,(Qoo _ m)⟩ ?_
 refine bg_ h (fun c h=>Qa hC [.T,.n 13,.K [2] [609,610,611,612,613]] rfl ⟨tt_,c⟩ ?_) fun c h=>Qa hC [.F,.n 4,.v .no [] (.I 1),.n 2] rfl ⟨⟨tt_,c⟩,rfl⟩ ?_
 ·cases h
  exact d1_ rfl rfl ⟨rfl,rfl,rfl,rfl,rfl,tt_⟩
 refine AK.met (AK.rnd ?_)
 obtain⟨D,p,h⟩:=Qd h
 refine Qa hC [.n 2,.v .no [] (.b true),.n 10,.o (.any (.loc 609 0 2) none),.n 1,.kill 4,.n 2,.O 4 (.var [.clo (.func 113) [] [.loc 611 0 0,.loc 612 0 0,.loc 613 0 0],.I x]),.n 6,.cm (.clo) [(609,611),(610,612),(611,613),(612,610)] [(611,609),(612,610),(613,611),(610,612)] [] [.d,.d,.d] [(609,.var (Qe l)),(610,.var (Qb w)),(611,.var [.clo (.func 111) [] [.loc 612 0 0]]),(612,.var (Qq k))] (.b D),.n 3] rfl ⟨⟨⟨⟨tt_,rfl⟩,(fun σ a j _=>Stp.idxV rfl rfl (Qz hC.n rfl) (a _ _ rfl) (a _ _ rfl) (Qp.es rfl) (j _ _ rfl) (by decide))⟩,rfl⟩,(Qoq _ _ _ p)⟩ ?_
 refine bg_ h (fun e h=>Qa hC [.T,.n 13,.K [2] [609,610,611,612,613]] rfl ⟨tt_,e⟩ ?_) fun e h=>Qa hC [.F,.n 4,.v .no [] (.I 2),.n 2] rfl ⟨⟨tt_,e⟩,rfl⟩ ?_
 ·cases h
  exact d1_ rfl rfl ⟨rfl,rfl,rfl,rfl,rfl,tt_⟩
 refine AK.met (AK.rnd ?_)
 obtain⟨E,q,h⟩:=Qd h
 refine Qa hC [.n 2,.v .no [] (.b true),.n 10,.o (.any (.loc 609 0 4) none),.n 1,.kill 4,.n 2,.O 4 (.var [.clo (.func 115) [] [.loc 611 0 0,.loc 610 0 0],.I y]),.n 6,.cm (.clo) [(609,611),(610,610)] [(611,609),(610,610)] [] [.d,.d] [(609,.var (Qe l)),(610,.var (Qq k))] (.b E),.n 3] rfl ⟨⟨⟨⟨tt_,rfl⟩,(fun σ a j _=>Stp.idxV rfl rfl (Qz hC.n rfl) (a _ _ rfl) (a _ _ rfl) (Qp.es rfl) (j _ _ rfl) (by decide))⟩,rfl⟩,(Qor _ _ q)⟩ ?_
 refine bg_ h (fun f h=>Qa hC [.T,.n 13,.K [2] [609,610,611,612,613]] rfl ⟨tt_,f⟩ ?_) fun f h=>Qa hC [.F,.n 4,.v .no [] (.I 3),.n 2] rfl ⟨⟨tt_,f⟩,rfl⟩ ?_
 ·cases h
  exact d1_ rfl rfl ⟨rfl,rfl,rfl,rfl,rfl,tt_⟩
 refine AK.met (AK.rnd ?_)
 obtain⟨G,s,h⟩:=Qd h
 refine Qa hC [.n 2,.v .no [] (.b true),.n 10,.o (.any (.loc 609 0 6) none),.n 1,.kill 4,.n 2,.O 4 (.var [.clo (.func 117) [] [.loc 610 0 0],.I z]),.n 6,.cm (.clo) [(609,610)] [(610,609)] [] [.d] [(609,.var (Qq k))] (.b G),.n 3] rfl ⟨⟨⟨⟨tt_,rfl⟩,(fun σ a j _=>Stp.idxV rfl rfl (Qz hC.n rfl) (a _ _ rfl) (a _ _ rfl) (Qp.es rfl) (j _ _ rfl) (by decide))⟩,rfl⟩,(Qos _ s)⟩ ?_
 refine bg_ h (fun g h=>Qa hC [.T,.n 13,.K [2] [609,610,611,612,613]] rfl ⟨tt_,g⟩ ?_) fun g h=>Qa hC [.F,.n 4,.v .no [] (.I 4),.n 2] rfl ⟨⟨tt_,g⟩,rfl⟩ ?_
 ·cases h
  exact d1_ rfl rfl ⟨rfl,rfl,rfl,rfl,rfl,tt_⟩
 refine AK.met (AK.rnd ?_)
 obtain⟨H,t,h⟩:=Qd h
 refine Qa hC [.n 2,.v .no [] (.b true),.n 10,.o (.any (.loc 609 0 8) none),.n 1,.kill 4,.n 2,.O 4 (.var [.clo (.func 118) [] [.loc 611 0 0,.loc 610 0 0],.I A]),.n 6,.cm (.clo) [(609,611),(610,610)] [(611,609),(610,610)] [] [.d,.d] [(609,.var (Qe l)),(610,.var (Qq k))] (.b H),.n 3] rfl ⟨⟨⟨⟨tt_,rfl⟩,(fun σ a j _=>Stp.idxV rfl rfl (Qz hC.n rfl) (a _ _ rfl) (a _ _ rfl) (Qp.es rfl) (j _ _ rfl) (by decide))⟩,rfl⟩,(Qot _ _ t)⟩ ?_
 refine bg_ h (fun i h=>Qa hC [.T,.n 13,.K [2] [609,610,611,612,613]] rfl ⟨tt_,i⟩ ?_) fun i h=>Qa hC [.F,.n 4,.v .no [] (.I 5),.n 2] rfl ⟨⟨tt_,i⟩,rfl⟩ ?_
 ·cases h
  exact d1_ rfl rfl ⟨rfl,rfl,rfl,rfl,rfl,tt_⟩
 refine AK.met (AK.rnd ?_)
 refine Qa hC [.n 2,.v .no [] (.b false),.n 15] rfl ⟨tt_,rfl⟩ ?_
 cases h
 exact d1_ rfl rfl ⟨rfl,rfl,rfl,rfl,rfl,tt_⟩
def Qin (a:Qm)(b:Int):Option Int:=
 (Q8 a.Places b).bind fun c=>
 bif (!c)then
 some 3
 else
 (idx a.Places b).bind fun d=>
 (Qfp d 1 a b 5 3 1 8).bind fun e=>
 some e
theorem QpW (f g){r}(h:Qin f g=some r):Qc prog 72 [.agg (Qe f),.I g] [] (Qh (.I r) []):=by
 refine Qc.walk 30 func72 rfl rfl rfl fun C hC=>?_
 obtain⟨l,i,h⟩:=Qd h
 refine Qa hC [.n 13,.o (.c false [.d,.d] (.b l)),.n 3] rfl ⟨tt_,(QaY _ _ i)⟩ ?_
 rcases Qs h with⟨a,h⟩|⟨a,h⟩
 ·refine Qa hC [.T,.n 7] rfl ⟨tt_,a⟩ ?_
  cases h
  exact d1_ rfl rfl tt_
 obtain⟨e,j,h⟩:=Qd h
 obtain⟨m,k,h⟩:=Qd h
 refine Qa hC [.F,.n 7,.o (.row (Qq e)),.v .no [] (.agg (Qq e)),.n 2,.O 5 (.var (Qq e)),.n 7,.O 6 (.var [.clo (.func 111) [] [.loc 5 0 0]]),.n 5,.v .no [] (.agg [.clo (.func 112) [] [.loc 5 0 0],.I 1]),.n 1,.v .no [] (.agg [.clo (.func 113) [] [.loc 2 0 0,.loc 3 0 0,.loc 6 0 0],.I 5]),.n 1,.v .no [] (.agg [.clo (.func 115) [] [.loc 2 0 0,.loc 5 0 0],.I 3]),.n 1,.v .no [] (.agg [.clo (.func 117) [] [.loc 5 0 0],.I 1]),.n 1,.v .no [] (.agg [.clo (.func 118) [] [.loc 2 0 0,.loc 5 0 0],.I 8]),.o (.any (.own 28 5) (some (.var [.clo (.func 112) [] [.loc 5 0 0],.I 1,.clo (.func 113) [] [.loc 2 0 0,.loc 3 0 0,.loc 6 0 0],.I 5,.clo (.func 115) [] [.loc 2 0 0,.loc 5 0 0],.I 3,.clo (.func 117) [] [.loc 5 0 0],.I 1,.clo (.func 118) [] [.loc 2 0 0,.loc 5 0 0],.I 8]))),.cm (.fn) [(609,28),(610,5),(611,2),(612,3),(613,6)] [(28,609),(5,610),(2,611),(3,612),(6,613)] [] [.d] [(609,.var [.clo (.func 112) [] [.loc 610 0 0],.I 1,.clo (.func 113) [] [.loc 611 0 0,.loc 612 0 0,.loc 613 0 0],.I 5,.clo (.func 115) [] [.loc 611 0 0,.loc 610 0 0],.I 3,.clo (.func 117) [] [.loc 610 0 0],.I 1,.clo (.func 118) [] [.loc 611 0 0,.loc 610 0 0],.I 8]),(610,.var (Qq e)),(611,.var (Qe f)),(612,.var (Qb g)),(613,.var [.clo (.func 111) [] [.loc 610 0 0]])] (.I m),.n 4] rfl ⟨⟨⟨⟨⟨⟨⟨⟨⟨⟨⟨⟨tt_,a⟩,(QC j)⟩,rfl⟩,rfl⟩,rfl⟩,rfl⟩,rfl⟩,rfl⟩,rfl⟩,rfl⟩,(fun σ p q hf=>Stp.buildAny rfl rfl (Qz hC.n rfl) (Qp.es rfl) QjN rfl (by decide) (by decide) (Qdh p rfl) rfl rfl (hf rfl))⟩,(QnK _ _ _ _ _ _ _ _ k)⟩ ?_
 cases h
 exact d1_ rfl rfl tt_
def Qio (a:Int)(d:QB)(b:Qm):Option Int:=
 (Qin b a).bind fun c=>
 some c
theorem QpX (e f a){r}(h:Qio e f a=some r):Qc prog 71 [.I e,.agg (Qq f),.loc 609 0 0] [(609,.var (Qe a))] (Qh (.I r) [(609,.var (Qe a))]):=by
 refine Qc.walk 9 func71 rfl rfl rfl fun C hC=>?_
 obtain⟨g,b,h⟩:=Qd h
 refine Qa hC [.n 8,.v .no [] (.agg (Qe a)),.n 1,.o (.c false [.d,.d] (.I g)),.n 4] rfl ⟨⟨tt_,rfl⟩,(QpW _ _ b)⟩ ?_
 cases h
 exact d1_ rfl rfl ⟨rfl,tt_⟩
def QbB (d:(List QB))(e:Qm)(a:Int):Option (Int⊕((Int×Int)⊕Unit)):=
 bif (decide (a<(d.length:Int)))then
 (idx d a).bind fun c=>
 (Qio a c e).bind fun b=>
 bif (b != 0)then
 some (.inr (.inl (a,b)))
 else
 some (.inl (w64 (a+1)))
 else
 some (.inr (.inr ()))
def QbC (b:Int)(a:Int):Option (Int×Int):=
 some (b,a)
def QbD : Option (Int×Int):=
 some (0,0)
def Qcy (a:(List QB))(b:Qm):Option (Int×Int):=
 (Qw (fun st=>QbB a b st) 0).bind (Sum.elim (fun q=>QbC q.1 q.2) (fun q=>QbD))
theorem QkF (g f){r}(h:Qcy g f=some r):Qc prog 70 [.sl 3 (g.map Qq),.clo (.func 71) [] [.loc 609 0 0]] [(609,.var (Qe f))] (Qh (.tup [.I r.1,.I r.2]) [(609,.var (Qe f))]):=by
 refine Qc.walk 25 func70 rfl rfl rfl fun C hC=>?_
 refine Qa hC [.n 10,.o (.ln g.length),.n 4,.K [1,9,10,11] [609]] rfl ⟨tt_,Qi⟩ ?_
 obtain⟨l,i,h⟩:=Qd h
 refine AK.loop (body:=(fun st=>QbB g f st)) (fun st σ=>σ=⟨[(1,.clo (.func 71) [] [.loc 609 0 0]),(9,.sl 3 (g.map Qq)),(10,.I (g.length:Int)),(11,.I st)],[(609,.var (Qe f))]⟩) (Sum.elim (fun q e σ=>e=.ret∧σ=⟨[(4,.I q.1),(5,.I q.2)],[(609,.var (Qe f))]⟩) (fun q e σ=>e=.exit 0∧σ=⟨[],[(609,.var (Qe f))]⟩)) i rfl ?_ ?_
 ·rintro t o σ rfl h
  refine tg_ hC [.n 6] rfl ?_
  rcases Qs h with⟨a,h⟩|⟨a,h⟩
  ·obtain⟨c,j,h⟩:=Qd h
   obtain⟨m,k,h⟩:=Qd h
   refine Qa hC [.T,.n 7,.o (.row (Qq c)),.v .no [] (.agg (Qq c)),.n 3,.O 7 (.var (Qq c)),.n 6,.v .no [] (.agg (Qq c)),.cm (.clo) [(609,609)] [(609,609)] [] [.d,.d,.d] [(609,.var (Qe f))] (.I m),.n 9] rfl ⟨⟨⟨⟨⟨⟨tt_,a⟩,(QC j)⟩,rfl⟩,rfl⟩,rfl⟩,(QpX _ _ _ k)⟩ ?_
   refine bg_ h (fun b h=>Qa hC [.T,.n 11,.K [4,5] [609]] rfl ⟨tt_,b⟩ ?_) fun b h=>Qa hC [.F,.n 7,.K [1,9,10,11] [609]] rfl ⟨tt_,b⟩ ?_
   ·cases h
    exact QaN rfl (an_ rfl rfl)
   cases h
   exact QU rfl rfl
  refine Qa hC [.F,.n 2,.K [] [609]] rfl ⟨tt_,a⟩ ?_
  cases h
  exact QV rfl (an_ rfl rfl)
 rcases l with(⟨s,p⟩|_)
 ·replace h:QbC s p=some r:=h
  rintro e σ ⟨rfl,rfl⟩
  refine tg_ hC [.n 2] rfl ?_
  cases h
  exact d2_ rfl rfl rfl ⟨rfl,tt_⟩
 replace h:QbD=some r:=h
 rintro e σ ⟨rfl,rfl⟩
 refine tg_ hC [.n 9] rfl ?_
 cases h
 exact d2_ rfl rfl rfl ⟨rfl,tt_⟩
def Qbm (b:(List Qu))(a:Int):Option Bool:=
 some ((decide (0≤a))&&(decide (a<(b.length:Int))))
theorem Qgt (d c){r}(h:Qbm d c=some r):Qc prog 92 [.sl 14 (d.map Qf),.I c] [] (Qh (.b r) []):=by
 refine Qc.walk 13 func92 rfl rfl rfl fun C hC=>?_
 refine tg_ hC [.n 6] rfl ?_
 refine AK.meetX (fun σ=>σ=⟨[(4,.b ((decide (0≤c))&&(decide (c<(d.length:Int)))))],[]⟩) ?_ ?_
 ·refine tg_ hC [.n 4] rfl ?_
  rcases QQ (decide (0≤c))with a | a
  ·refine Qa hC [.S 7 (.b true),.n 2,.o (.ln d.length),.n 4,.S 4 (.b ((decide (0≤c))&&(decide (c<(d.length:Int))))),.K [4] []] rfl ⟨⟨(tc_ a),Qi⟩,(congrArg V.b (Qbh a rfl))⟩ ?_
   exact AK.met rfl
  refine Qa hC [.S 7 (.b false),.n 7,.S 4 (.b ((decide (0≤c))&&(decide (c<(d.length:Int))))),.K [4] []] rfl ⟨(tc_ a),(congrArg V.b (Qdf a rfl))⟩ ?_
  exact AK.met rfl
 rintro σ rfl
 refine tg_ hC [.n 2] rfl ?_
 cases h
 exact d1_ rfl rfl tt_
def Qip (a:Int)(b:Qm)(c:Qu):Option Unit:=
 some ()
theorem QpY (a b c){r}(h:Qip a b c=some r):Qc prog 126 [.loc 609 0 0,.clo (.func 127) [] [.loc 610 0 0,.loc 611 0 0]] [(609,.var (Qb a)),(610,.var (Qe b)),(611,.var (Qf c))] (Qh (.clo (.func 184) [] [.loc 3 0 0,.loc 2 0 0]) [(2,.var [.loc 609 0 0]),(3,.var [.clo (.func 127) [] [.loc 610 0 0,.loc 611 0 0]]),(609,.var (Qb a)),(610,.var (Qe b)),(611,.var (Qf c))]):=by
 refine Qc.walk 6 func126 rfl rfl rfl fun C hC=>?_
 refine tg_ hC [.n 14] rfl ?_
 cases h
 exact d1_ rfl rfl ⟨rfl,rfl,rfl,rfl,rfl,tt_⟩
def Qfq (a:Int)(b:Qm)(c:Qu)(d:Int):Option Unit:=
 some ()
theorem QnL (a b c d){r}(h:Qfq a b c d=some r):Qc prog 126 [.loc 609 0 0,.clo (.func 132) [] [.loc 610 0 0,.loc 611 0 0,.loc 612 0 0]] [(609,.var (Qb a)),(610,.var (Qe b)),(611,.var (Qf c)),(612,.var (Qb d))] (Qh (.clo (.func 184) [] [.loc 3 0 0,.loc 2 0 0]) [(2,.var [.loc 609 0 0]),(3,.var [.clo (.func 132) [] [.loc 610 0 0,.loc 611 0 0,.loc 612 0 0]]),(609,.var (Qb a)),(610,.var (Qe b)),(611,.var (Qf c)),(612,.var (Qb d))]):=by
 refine Qc.walk 6 func126 rfl rfl rfl fun C hC=>?_
 refine tg_ hC [.n 14] rfl ?_
 cases h
 exact d1_ rfl rfl ⟨rfl,rfl,rfl,rfl,rfl,rfl,tt_⟩
def Qfr (a:Int)(b:Qm)(c:Qu)(d:Int):Option Unit:=
 some ()
theorem QnM (a b c d){r}(h:Qfr a b c d=some r):Qc prog 126 [.loc 609 0 0,.clo (.func 134) [] [.loc 610 0 0,.loc 611 0 0,.loc 612 0 0]] [(609,.var (Qb a)),(610,.var (Qe b)),(611,.var (Qf c)),(612,.var (Qb d))] (Qh (.clo (.func 184) [] [.loc 3 0 0,.loc 2 0 0]) [(2,.var [.loc 609 0 0]),(3,.var [.clo (.func 134) [] [.loc 610 0 0,.loc 611 0 0,.loc 612 0 0]]),(609,.var (Qb a)),(610,.var (Qe b)),(611,.var (Qf c)),(612,.var (Qb d))]):=by
 refine Qc.walk 6 func126 rfl rfl rfl fun C hC=>?_
 refine tg_ hC [.n 14] rfl ?_
 cases h
 exact d1_ rfl rfl ⟨rfl,rfl,rfl,rfl,rfl,rfl,tt_⟩
def Qfs (a:Int)(b:Qm)(c:Qu):Option Unit:=
 some ()
theorem QnN (a b c){r}(h:Qfs a b c=some r):Qc prog 126 [.loc 609 0 0,.clo (.func 135) [] [.loc 610 0 0,.loc 611 0 0]] [(609,.var (Qb a)),(610,.var (Qe b)),(611,.var (Qf c))] (Qh (.clo (.func 184) [] [.loc 3 0 0,.loc 2 0 0]) [(2,.var [.loc 609 0 0]),(3,.var [.clo (.func 135) [] [.loc 610 0 0,.loc 611 0 0]]),(609,.var (Qb a)),(610,.var (Qe b)),(611,.var (Qf c))]):=by
 refine Qc.walk 6 func126 rfl rfl rfl fun C hC=>?_
 refine tg_ hC [.n 14] rfl ?_
 cases h
 exact d1_ rfl rfl ⟨rfl,rfl,rfl,rfl,rfl,tt_⟩
def Qhu (a:Qu):Option Bool:=
 (QcJ a.Name).bind fun b=>
 some b
theorem Qo4 (a){r}(h:Qhu a=some r):Qc prog 122 [.loc 609 0 0] [(609,.var (Qf a))] (Qh (.b r) [(609,.var (Qf a))]):=by
 refine Qc.walk 5 func122 rfl rfl rfl fun C hC=>?_
 obtain⟨f,e,h⟩:=Qd h
 refine Qa hC [.n 9,.o (.c false [.d] (.b f)),.n 4] rfl ⟨tt_,(Qee _ e)⟩ ?_
 cases h
 exact d1_ rfl rfl ⟨rfl,tt_⟩
def Qhv (a:Qu)(b:Qu):Option Bool:=
 some (Qfb a.Name b.Name)
theorem Qo5 (c a){r}(h:Qhv c a=some r):Qc prog 121 [.agg (Qf c),.loc 609 0 0] [(609,.var (Qf a))] (Qh (.b r) [(609,.var (Qf a))]):=by
 refine Qc.walk 9 func121 rfl rfl rfl fun C hC=>?_
 refine tg_ hC [.n 17] rfl ?_
 cases h
 exact d1_ rfl rfl ⟨rfl,tt_⟩
def Qai (c:(List Qu))(d:Qu)(a:Int):Option (Int⊕(Int⊕Unit)):=
 bif (decide (a<(c.length:Int)))then
 (idx c a).bind fun e=>
 (Qhv e d).bind fun b=>
 bif b then
 some (.inr (.inl a))
 else
 some (.inl (w64 (a+1)))
 else
 some (.inr (.inr ()))
def Qaj (a:Int):Option Int:=
 some a
def Qak : Option Int:=
 some (-1)
def Qaw (a:(List Qu))(b:Qu):Option Int:=
 (Qw (fun st=>Qai a b st) 0).bind (Sum.elim (fun q=>Qaj q) (fun q=>Qak))
theorem QfO (g c){r}(h:Qaw g c=some r):Qc prog 183 [.sl 14 (g.map Qf),.clo (.func 121) [] [.loc 609 0 0]] [(609,.var (Qf c))] (Qh (.I r) [(609,.var (Qf c))]):=by
 refine Qc.walk 19 func183 rfl rfl rfl fun C hC=>?_
 refine Qa hC [.n 9,.o (.ln g.length),.n 4,.K [0,1,7,8] [609]] rfl ⟨tt_,Qi⟩ ?_
 obtain⟨k,i,h⟩:=Qd h
 refine AK.loop (body:=(fun st=>Qai g c st)) (fun st σ=>σ=⟨[(0,.sl 14 (g.map Qf)),(1,.clo (.func 121) [] [.loc 609 0 0]),(7,.I (g.length:Int)),(8,.I st)],[(609,.var (Qf c))]⟩) (Sum.elim (fun q e σ=>e=.ret∧σ=⟨[(4,.I q)],[(609,.var (Qf c))]⟩) (fun q e σ=>e=.exit 0∧σ=⟨[],[(609,.var (Qf c))]⟩)) i rfl ?_ ?_
 ·rintro t o σ rfl h
  refine tg_ hC [.n 6] rfl ?_
  rcases Qs h with⟨f,h⟩|⟨f,h⟩
  ·obtain⟨p,l,h⟩:=Qd h
   obtain⟨m,j,h⟩:=Qd h
   refine Qa hC [.T,.n 15,.o (.row (Qf p)),.v .no [] (.agg (Qf p)),.cm (.clo) [(609,609)] [(609,609)] [] [.d,.d] [(609,.var (Qf c))] (.b m),.n 2] rfl ⟨⟨⟨⟨tt_,f⟩,(QC l)⟩,rfl⟩,(Qo5 _ _ j)⟩ ?_
   refine bg_ h (fun a h=>Qa hC [.T,.n 9,.K [4] [609]] rfl ⟨tt_,a⟩ ?_) fun a h=>Qa hC [.F,.n 7,.K [0,1,7,8] [609]] rfl ⟨tt_,a⟩ ?_
   ·cases h
    exact QaN rfl (an_ rfl rfl)
   cases h
   exact QU rfl rfl
  refine Qa hC [.F,.n 2,.K [] [609]] rfl ⟨tt_,f⟩ ?_
  cases h
  exact QV rfl (an_ rfl rfl)
 rcases k with(s | _)
 ·replace h:Qaj s=some r:=h
  rintro e σ ⟨rfl,rfl⟩
  refine tg_ hC [.n 2] rfl ?_
  cases h
  exact d1_ rfl rfl ⟨rfl,tt_⟩
 replace h:Qak=some r:=h
 rintro e σ ⟨rfl,rfl⟩
 refine tg_ hC [.n 8] rfl ?_
 cases h
 exact d1_ rfl rfl ⟨rfl,tt_⟩
def Qal (a:(List Qu))(b:Qu):Option Bool:=
 (Qaw a b).bind fun c=>
 some (decide (0≤c))
theorem QeY (e a){r}(h:Qal e a=some r):Qc prog 124 [.sl 14 (e.map Qf),.clo (.func 121) [] [.loc 609 0 0]] [(609,.var (Qf a))] (Qh (.b r) [(609,.var (Qf a))]):=by
 refine Qc.walk 9 func124 rfl rfl rfl fun C hC=>?_
 obtain⟨f,c,h⟩:=Qd h
 refine Qa hC [.n 9,.cm (.fn) [(609,609)] [(609,609)] [] [.d,.d] [(609,.var (Qf a))] (.I f),.n 5] rfl ⟨tt_,(QfO _ _ c)⟩ ?_
 cases h
 exact d1_ rfl rfl ⟨rfl,tt_⟩
def Qhw (b:Qm)(a:Int)(c:Qu):Option Bool:=
 (chk (decide (0≤a)&&decide (0≤a.toNat)&&decide (a.toNat≤b.Tasks.length))).bind fun _=>
 (Qal ((b.Tasks.drop 0).take (a.toNat-0)) c).bind fun d=>
 some (!d)
theorem Qo6 (e f g){r}(h:Qhw e f g=some r):Qc prog 123 [.loc 609 0 0,.loc 610 0 0,.loc 611 0 0] [(609,.var (Qe e)),(610,.var (Qb f)),(611,.var [.clo (.func 121) [] [.loc 612 0 0]]),(612,.var (Qf g))] (Qh (.b r) [(609,.var (Qe e)),(610,.var (Qb f)),(611,.var [.clo (.func 121) [] [.loc 612 0 0]]),(612,.var (Qf g))]):=by
 refine Qc.walk 11 func123 rfl rfl rfl fun C hC=>?_
 obtain⟨c,h⟩:=QaO h
 obtain⟨k,j,h⟩:=Qd h
 refine tg_ hC [.n 6,.K [0,1,2,3] [609,610,611,612]] rfl ?_
 refine AK.draw2 Qp hC mixed [.N,.N,.N,.a (.any (.sl 14 (((e.Tasks.drop 0).take (f.toNat-0)).map Qf)) none) none false,.N,.a (.any (.b k) none) none false,.N,.m .s] [] [] [3] [609,610,611,612] rfl rfl rfl ⟨⟨tt_,(fun σ i l _=>Stp.sliceD rfl rfl (Qz hC.n rfl) (i _ _ rfl) (Qp.es rfl) Bnd.no (Bnd.val (i _ _ rfl) (Qab (Qod c)) rfl) (Qab (Qoe c)) (QcL (Qab (Qof c)) (Nat.le_of_eq Qi.symm)) QqA)⟩,(fun σ i l _=>Stp.callSame (md:=.cm (.fn) [(609,612)] [(612,609)] [] [.d,.d] [(609,.var (Qf g))] (.b k) [612]) Qp hC i l rfl ⟨⟨tt_,(QeY _ _ j)⟩,⟨rfl,tt_⟩⟩)⟩ rfl (by kernel_rfl) rfl rfl rfl ?_
 refine tg_ hC [.n 2] rfl ?_
 cases h
 exact d1_ rfl rfl ⟨rfl,rfl,rfl,rfl,tt_⟩
def QeZ (b:Int)(a:Qu):Option Bool:=
 some ((decide (b≤16))&&(decide ((max2 (max2 (a.Ins.length:Int) (a.Outs.length:Int)) (a.Cancel.length:Int))≤16)))
theorem Qo7 (d a){r}(h:QeZ d a=some r):Qc prog 125 [.loc 609 0 0,.loc 610 0 0] [(609,.var (Qb d)),(610,.var (Qf a))] (Qh (.b r) [(609,.var (Qb d)),(610,.var (Qf a))]):=by
 refine Qc.walk 18 func125 rfl rfl rfl fun C hC=>?_
 refine tg_ hC [.n 6] rfl ?_
 refine AK.meetX (fun σ=>σ=⟨[(2,.b ((decide (d≤16))&&(decide ((max2 (max2 (a.Ins.length:Int) (a.Outs.length:Int)) (a.Cancel.length:Int))≤16))))],[(609,.var (Qb d)),(610,.var (Qf a))]⟩) ?_ ?_
 ·refine tg_ hC [.n 4] rfl ?_
  rcases QQ (decide (d≤16))with c | c
  ·refine Qa hC [.S 5 (.b true),.n 2,.o (.ln a.Ins.length),.n 2,.o (.ln a.Outs.length),.n 2,.o (.ln a.Cancel.length),.o (.any (.I (max2 (max2 (a.Ins.length:Int) (a.Outs.length:Int)) (a.Cancel.length:Int))) none),.n 4,.S 2 (.b ((decide (d≤16))&&(decide ((max2 (max2 (a.Ins.length:Int) (a.Outs.length:Int)) (a.Cancel.length:Int))≤16)))),.K [2] [609,610]] rfl ⟨⟨⟨⟨⟨(tc_ c),Qi⟩,Qi⟩,Qi⟩,(fun σ e f _=>Stp.max3 rfl rfl (Qz hC.n rfl) (e _ _ rfl) (e _ _ rfl) (e _ _ rfl))⟩,(congrArg V.b (Qbh c rfl))⟩ ?_
   exact AK.met rfl
  refine Qa hC [.S 5 (.b false),.n 14,.S 2 (.b ((decide (d≤16))&&(decide ((max2 (max2 (a.Ins.length:Int) (a.Outs.length:Int)) (a.Cancel.length:Int))≤16)))),.K [2] [609,610]] rfl ⟨(tc_ c),(congrArg V.b (Qdf c rfl))⟩ ?_
  exact AK.met rfl
 rintro σ rfl
 refine tg_ hC [.n 2] rfl ?_
 cases h
 exact d1_ rfl rfl ⟨rfl,rfl,tt_⟩
def QcP (a:Q6):Option Bool:=
 (QcJ a.Name).bind fun b=>
 some b
theorem Qli (a){r}(h:QcP a=some r):Qc prog 188 [.loc 609 0 0] [(609,.var (Qx a))] (Qh (.b r) [(609,.var (Qx a))]):=by
 refine Qc.walk 5 func188 rfl rfl rfl fun C hC=>?_
 obtain⟨f,e,h⟩:=Qd h
 refine Qa hC [.n 9,.o (.c false [.d] (.b f)),.n 4] rfl ⟨tt_,(Qee _ e)⟩ ?_
 cases h
 exact d1_ rfl rfl ⟨rfl,tt_⟩
def QcQ (a:Q6)(b:Q6):Option Bool:=
 some (Qfb a.Name b.Name)
theorem Qlj (c a){r}(h:QcQ c a=some r):Qc prog 187 [.agg (Qx c),.loc 609 0 0] [(609,.var (Qx a))] (Qh (.b r) [(609,.var (Qx a))]):=by
 refine Qc.walk 9 func187 rfl rfl rfl fun C hC=>?_
 refine tg_ hC [.n 17] rfl ?_
 cases h
 exact d1_ rfl rfl ⟨rfl,tt_⟩
def Qas (c:(List Q6))(d:Q6)(a:Int):Option (Int⊕(Int⊕Unit)):=
 bif (decide (a<(c.length:Int)))then
 (idx c a).bind fun e=>
 (QcQ e d).bind fun b=>
 bif b then
 some (.inr (.inl a))
 else
 some (.inl (w64 (a+1)))
 else
 some (.inr (.inr ()))
def Qat (a:Int):Option Int:=
 some a
def Qau : Option Int:=
 some (-1)
def QaH (a:(List Q6))(b:Q6):Option Int:=
 (Qw (fun st=>Qas a b st) 0).bind (Sum.elim (fun q=>Qat q) (fun q=>Qau))
theorem QgA (g c){r}(h:QaH g c=some r):Qc prog 227 [.sl 2 (g.map Qx),.clo (.func 187) [] [.loc 609 0 0]] [(609,.var (Qx c))] (Qh (.I r) [(609,.var (Qx c))]):=by
 refine Qc.walk 19 func227 rfl rfl rfl fun C hC=>?_
 refine Qa hC [.n 9,.o (.ln g.length),.n 4,.K [0,1,7,8] [609]] rfl ⟨tt_,Qi⟩ ?_
 obtain⟨k,i,h⟩:=Qd h
 refine AK.loop (body:=(fun st=>Qas g c st)) (fun st σ=>σ=⟨[(0,.sl 2 (g.map Qx)),(1,.clo (.func 187) [] [.loc 609 0 0]),(7,.I (g.length:Int)),(8,.I st)],[(609,.var (Qx c))]⟩) (Sum.elim (fun q e σ=>e=.ret∧σ=⟨[(4,.I q)],[(609,.var (Qx c))]⟩) (fun q e σ=>e=.exit 0∧σ=⟨[],[(609,.var (Qx c))]⟩)) i rfl ?_ ?_
 ·rintro t o σ rfl h
  refine tg_ hC [.n 6] rfl ?_
  rcases Qs h with⟨f,h⟩|⟨f,h⟩
  ·obtain⟨p,l,h⟩:=Qd h
   obtain⟨m,j,h⟩:=Qd h
   refine Qa hC [.T,.n 15,.o (.row (Qx p)),.v .no [] (.agg (Qx p)),.cm (.clo) [(609,609)] [(609,609)] [] [.d,.d] [(609,.var (Qx c))] (.b m),.n 2] rfl ⟨⟨⟨⟨tt_,f⟩,(QC l)⟩,rfl⟩,(Qlj _ _ j)⟩ ?_
   refine bg_ h (fun a h=>Qa hC [.T,.n 9,.K [4] [609]] rfl ⟨tt_,a⟩ ?_) fun a h=>Qa hC [.F,.n 7,.K [0,1,7,8] [609]] rfl ⟨tt_,a⟩ ?_
   ·cases h
    exact QaN rfl (an_ rfl rfl)
   cases h
   exact QU rfl rfl
  refine Qa hC [.F,.n 2,.K [] [609]] rfl ⟨tt_,f⟩ ?_
  cases h
  exact QV rfl (an_ rfl rfl)
 rcases k with(s | _)
 ·replace h:Qat s=some r:=h
  rintro e σ ⟨rfl,rfl⟩
  refine tg_ hC [.n 2] rfl ?_
  cases h
  exact d1_ rfl rfl ⟨rfl,tt_⟩
 replace h:Qau=some r:=h
 rintro e σ ⟨rfl,rfl⟩
 refine tg_ hC [.n 8] rfl ?_
 cases h
 exact d1_ rfl rfl ⟨rfl,tt_⟩
def Qav (a:(List Q6))(b:Q6):Option Bool:=
 (QaH a b).bind fun c=>
 some (decide (0≤c))
theorem Qft (e a){r}(h:Qav e a=some r):Qc prog 190 [.sl 2 (e.map Qx),.clo (.func 187) [] [.loc 609 0 0]] [(609,.var (Qx a))] (Qh (.b r) [(609,.var (Qx a))]):=by
 refine Qc.walk 9 func190 rfl rfl rfl fun C hC=>?_
 obtain⟨f,c,h⟩:=Qd h
 refine Qa hC [.n 9,.cm (.fn) [(609,609)] [(609,609)] [] [.d,.d] [(609,.var (Qx a))] (.I f),.n 5] rfl ⟨tt_,(QgA _ _ c)⟩ ?_
 cases h
 exact d1_ rfl rfl ⟨rfl,tt_⟩
def QcR (b:(List Q6))(a:Int)(c:Q6):Option Bool:=
 (chk (decide (0≤a)&&decide (0≤a.toNat)&&decide (a.toNat≤b.length))).bind fun _=>
 (Qav ((b.drop 0).take (a.toNat-0)) c).bind fun d=>
 some (!d)
theorem Qlk (e f g){r}(h:QcR e f g=some r):Qc prog 189 [.loc 609 0 0,.loc 610 0 0,.loc 611 0 0] [(609,.var (Qa4 e)),(610,.var (Qb f)),(611,.var [.clo (.func 187) [] [.loc 612 0 0]]),(612,.var (Qx g))] (Qh (.b r) [(609,.var (Qa4 e)),(610,.var (Qb f)),(611,.var [.clo (.func 187) [] [.loc 612 0 0]]),(612,.var (Qx g))]):=by
 refine Qc.walk 10 func189 rfl rfl rfl fun C hC=>?_
 obtain⟨c,h⟩:=QaO h
 obtain⟨k,j,h⟩:=Qd h
 refine tg_ hC [.n 6,.K [0,1,2,3] [609,610,611,612]] rfl ?_
 refine AK.draw2 Qp hC mixed [.N,.N,.a (.any (.sl 2 (((e.drop 0).take (f.toNat-0)).map Qx)) none) none false,.N,.a (.any (.b k) none) none false,.N,.m .s] [] [] [3] [609,610,611,612] rfl rfl rfl ⟨⟨tt_,(fun σ i l _=>Stp.sliceD rfl rfl (Qz hC.n rfl) (i _ _ rfl) (Qp.es rfl) Bnd.no (Bnd.val (i _ _ rfl) (Qab (Qod c)) rfl) (Qab (Qoe c)) (QcL (Qab (Qof c)) (Nat.le_of_eq Qi.symm)) QqA)⟩,(fun σ i l _=>Stp.callSame (md:=.cm (.fn) [(609,612)] [(612,609)] [] [.d,.d] [(609,.var (Qx g))] (.b k) [612]) Qp hC i l rfl ⟨⟨tt_,(Qft _ _ j)⟩,⟨rfl,tt_⟩⟩)⟩ rfl (by kernel_rfl) rfl rfl rfl ?_
 refine tg_ hC [.n 2] rfl ?_
 cases h
 exact d1_ rfl rfl ⟨rfl,rfl,rfl,rfl,tt_⟩
def QcS (a:Qm)(b:Q6):Option Bool:=
 (Qba a.Colours b.Colour).bind fun c=>
 some c
theorem Qll (a e){r}(h:QcS a e=some r):Qc prog 191 [.loc 609 0 0,.loc 610 0 0] [(609,.var (Qe a)),(610,.var (Qx e))] (Qh (.b r) [(609,.var (Qe a)),(610,.var (Qx e))]):=by
 refine Qc.walk 8 func191 rfl rfl rfl fun C hC=>?_
 obtain⟨g,f,h⟩:=Qd h
 refine Qa hC [.n 11,.o (.c false [.d,.d] (.b g)),.n 4] rfl ⟨tt_,(Qe8 _ _ f)⟩ ?_
 cases h
 exact d1_ rfl rfl ⟨rfl,rfl,tt_⟩
def Qfu (a:Q6)(e:Int)(f:(List Q6))(g:Int)(h:Int)(i:Qm)(j:Int):Option Int:=
 (QcP a).bind fun b=>
 bif (!b)then
 some e
 else
 (QcR f g a).bind fun c=>
 bif (!c)then
 some h
 else
 (QcS i a).bind fun d=>
 bif (!d)then
 some j
 else
 some 0
theorem QnO (g m p q s t u){r}(h:Qfu g m p q s t u=some r):Qc prog 64 [.own 609 3] [(609,.var [.clo (.func 188) [] [.loc 610 0 0],.I m,.clo (.func 189) [] [.loc 611 0 0,.loc 612 0 0,.loc 613 0 0],.I s,.clo (.func 191) [] [.loc 614 0 0,.loc 610 0 0],.I u]),(610,.var (Qx g)),(611,.var (Qa4 p)),(612,.var (Qb q)),(613,.var [.clo (.func 187) [] [.loc 610 0 0]]),(614,.var (Qe t))] (Qh (.I r) [(609,.var [.clo (.func 188) [] [.loc 610 0 0],.I m,.clo (.func 189) [] [.loc 611 0 0,.loc 612 0 0,.loc 613 0 0],.I s,.clo (.func 191) [] [.loc 614 0 0,.loc 610 0 0],.I u]),(610,.var (Qx g)),(611,.var (Qa4 p)),(612,.var (Qb q)),(613,.var [.clo (.func 187) [] [.loc 610 0 0]]),(614,.var (Qe t))]):=by
 refine Qc.walk 18 func64 rfl rfl rfl fun C hC=>?_
 refine tg_ hC [.n 14] rfl ?_
 refine AK.loopN 4 (AK.rnd ?_)
 obtain⟨w,i,h⟩:=Qd h
 refine Qa hC [.n 2,.v .no [] (.b true),.n 10,.o (.any (.loc 609 0 0) none),.n 3,.O 4 (.var [.clo (.func 188) [] [.loc 610 0 0],.I m]),.n 6,.cm (.clo) [(609,610)] [(610,609)] [] [.d] [(609,.var (Qx g))] (.b w),.n 3] rfl ⟨⟨⟨⟨tt_,rfl⟩,(fun σ f j _=>Stp.idxV rfl rfl (Qz hC.n rfl) (f _ _ rfl) (f _ _ rfl) (Qp.es rfl) (j _ _ rfl) (by decide))⟩,rfl⟩,(Qli _ i)⟩ ?_
 refine bg_ h (fun a h=>Qa hC [.T,.n 13,.K [2] [609,610,611,612,613,614]] rfl ⟨tt_,a⟩ ?_) fun a h=>Qa hC [.F,.n 4,.v .no [] (.I 1),.n 2] rfl ⟨⟨tt_,a⟩,rfl⟩ ?_
 ·cases h
  exact d1_ rfl rfl ⟨rfl,rfl,rfl,rfl,rfl,rfl,tt_⟩
 refine AK.met (AK.rnd ?_)
 obtain⟨x,k,h⟩:=Qd h
 refine Qa hC [.n 2,.v .no [] (.b true),.n 10,.o (.any (.loc 609 0 2) none),.n 1,.kill 4,.n 2,.O 4 (.var [.clo (.func 189) [] [.loc 611 0 0,.loc 612 0 0,.loc 613 0 0],.I s]),.n 6,.cm (.clo) [(609,611),(610,612),(611,613),(612,610)] [(611,609),(612,610),(613,611),(610,612)] [] [.d,.d,.d] [(609,.var (Qa4 p)),(610,.var (Qb q)),(611,.var [.clo (.func 187) [] [.loc 612 0 0]]),(612,.var (Qx g))] (.b x),.n 3] rfl ⟨⟨⟨⟨tt_,rfl⟩,(fun σ f j _=>Stp.idxV rfl rfl (Qz hC.n rfl) (f _ _ rfl) (f _ _ rfl) (Qp.es rfl) (j _ _ rfl) (by decide))⟩,rfl⟩,(Qlk _ _ _ k)⟩ ?_
 refine bg_ h (fun c h=>Qa hC [.T,.n 13,.K [2] [609,610,611,612,613,614]] rfl ⟨tt_,c⟩ ?_) fun c h=>Qa hC [.F,.n 4,.v .no [] (.I 2),.n 2] rfl ⟨⟨tt_,c⟩,rfl⟩ ?_
 ·cases h
  exact d1_ rfl rfl ⟨rfl,rfl,rfl,rfl,rfl,rfl,tt_⟩
 refine AK.met (AK.rnd ?_)
 obtain⟨y,l,h⟩:=Qd h
 refine Qa hC [.n 2,.v .no [] (.b true),.n 10,.o (.any (.loc 609 0 4) none),.n 1,.kill 4,.n 2,.O 4 (.var [.clo (.func 191) [] [.loc 614 0 0,.loc 610 0 0],.I u]),.n 6,.cm (.clo) [(609,614),(610,610)] [(614,609),(610,610)] [] [.d,.d] [(609,.var (Qe t)),(610,.var (Qx g))] (.b y),.n 3] rfl ⟨⟨⟨⟨tt_,rfl⟩,(fun σ f j _=>Stp.idxV rfl rfl (Qz hC.n rfl) (f _ _ rfl) (f _ _ rfl) (Qp.es rfl) (j _ _ rfl) (by decide))⟩,rfl⟩,(Qll _ _ l)⟩ ?_
 refine bg_ h (fun e h=>Qa hC [.T,.n 13,.K [2] [609,610,611,612,613,614]] rfl ⟨tt_,e⟩ ?_) fun e h=>Qa hC [.F,.n 4,.v .no [] (.I 3),.n 2] rfl ⟨⟨tt_,e⟩,rfl⟩ ?_
 ·cases h
  exact d1_ rfl rfl ⟨rfl,rfl,rfl,rfl,rfl,rfl,tt_⟩
 refine AK.met (AK.rnd ?_)
 refine Qa hC [.n 2,.v .no [] (.b false),.n 15] rfl ⟨tt_,rfl⟩ ?_
 cases h
 exact d1_ rfl rfl ⟨rfl,rfl,rfl,rfl,rfl,rfl,tt_⟩
def QdM (a:Int)(b:Q6)(c:(List Q6))(d:Qm):Option Int:=
 (Qfu b 1 c a 5 d 3).bind fun e=>
 some e
theorem Qmo (c e a b){r}(h:QdM c e a b=some r):Qc prog 186 [.I c,.agg (Qx e),.loc 609 0 0,.loc 610 0 0] [(609,.var (Qa4 a)),(610,.var (Qe b))] (Qh (.I r) [(609,.var (Qa4 a)),(610,.var (Qe b))]):=by
 refine Qc.walk 17 func186 rfl rfl rfl fun C hC=>?_
 obtain⟨g,f,h⟩:=Qd h
 refine Qa hC [.n 12,.O 7 (.var [.clo (.func 187) [] [.loc 5 0 0]]),.n 5,.v .no [] (.agg [.clo (.func 188) [] [.loc 5 0 0],.I 1]),.n 1,.v .no [] (.agg [.clo (.func 189) [] [.loc 609 0 0,.loc 4 0 0,.loc 7 0 0],.I 5]),.n 1,.v .no [] (.agg [.clo (.func 191) [] [.loc 610 0 0,.loc 5 0 0],.I 3]),.o (.any (.own 15 3) (some (.var [.clo (.func 188) [] [.loc 5 0 0],.I 1,.clo (.func 189) [] [.loc 609 0 0,.loc 4 0 0,.loc 7 0 0],.I 5,.clo (.func 191) [] [.loc 610 0 0,.loc 5 0 0],.I 3]))),.cm (.fn) [(609,15),(610,5),(611,609),(612,4),(613,7),(614,610)] [(15,609),(5,610),(609,611),(4,612),(7,613),(610,614)] [] [.d] [(609,.var [.clo (.func 188) [] [.loc 610 0 0],.I 1,.clo (.func 189) [] [.loc 611 0 0,.loc 612 0 0,.loc 613 0 0],.I 5,.clo (.func 191) [] [.loc 614 0 0,.loc 610 0 0],.I 3]),(610,.var (Qx e)),(611,.var (Qa4 a)),(612,.var (Qb c)),(613,.var [.clo (.func 187) [] [.loc 610 0 0]]),(614,.var (Qe b))] (.I g),.n 4] rfl ⟨⟨⟨⟨⟨⟨tt_,rfl⟩,rfl⟩,rfl⟩,rfl⟩,(fun σ i j hf=>Stp.buildAny rfl rfl (Qz hC.n rfl) (Qp.es rfl) QjN rfl (by decide) (by decide) (Qdh i rfl) rfl rfl (hf rfl))⟩,(QnO _ _ _ _ _ _ _ f)⟩ ?_
 cases h
 exact d1_ rfl rfl ⟨rfl,rfl,tt_⟩
def Qca (d:(List Q6))(e:(List Q6))(f:Qm)(a:Int):Option (Int⊕((Int×Int)⊕Unit)):=
 bif (decide (a<(d.length:Int)))then
 (idx d a).bind fun c=>
 (QdM a c e f).bind fun b=>
 bif (b != 0)then
 some (.inr (.inl (a,b)))
 else
 some (.inl (w64 (a+1)))
 else
 some (.inr (.inr ()))
def Qcb (a:Int)(b:Int):Option (Int×Int):=
 some (a,b)
def Qcc : Option (Int×Int):=
 some (0,0)
def Qc8 (a:(List Q6))(b:(List Q6))(c:Qm):Option (Int×Int):=
 (Qw (fun st=>Qca a b c st) 0).bind (Sum.elim (fun q=>Qcb q.1 q.2) (fun q=>Qcc))
theorem Qlz (i f g){r}(h:Qc8 i f g=some r):Qc prog 185 [.sl 2 (i.map Qx),.clo (.func 186) [] [.loc 609 0 0,.loc 610 0 0]] [(609,.var (Qa4 f)),(610,.var (Qe g))] (Qh (.tup [.I r.1,.I r.2]) [(609,.var (Qa4 f)),(610,.var (Qe g))]):=by
 refine Qc.walk 25 func185 rfl rfl rfl fun C hC=>?_
 refine Qa hC [.n 10,.o (.ln i.length),.n 4,.K [1,9,10,11] [609,610]] rfl ⟨tt_,Qi⟩ ?_
 obtain⟨m,j,h⟩:=Qd h
 refine AK.loop (body:=(fun st=>Qca i f g st)) (fun st σ=>σ=⟨[(1,.clo (.func 186) [] [.loc 609 0 0,.loc 610 0 0]),(9,.sl 2 (i.map Qx)),(10,.I (i.length:Int)),(11,.I st)],[(609,.var (Qa4 f)),(610,.var (Qe g))]⟩) (Sum.elim (fun q e σ=>e=.ret∧σ=⟨[(4,.I q.1),(5,.I q.2)],[(609,.var (Qa4 f)),(610,.var (Qe g))]⟩) (fun q e σ=>e=.exit 0∧σ=⟨[],[(609,.var (Qa4 f)),(610,.var (Qe g))]⟩)) j rfl ?_ ?_
 ·rintro u o σ rfl h
  refine tg_ hC [.n 6] rfl ?_
  rcases Qs h with⟨a,h⟩|⟨a,h⟩
  ·obtain⟨c,k,h⟩:=Qd h
   obtain⟨p,l,h⟩:=Qd h
   refine Qa hC [.T,.n 7,.o (.row (Qx c)),.v .no [] (.agg (Qx c)),.n 3,.O 7 (.var (Qx c)),.n 6,.v .no [] (.agg (Qx c)),.cm (.clo) [(609,609),(610,610)] [(609,609),(610,610)] [] [.d,.d,.d,.d] [(609,.var (Qa4 f)),(610,.var (Qe g))] (.I p),.n 9] rfl ⟨⟨⟨⟨⟨⟨tt_,a⟩,(QC k)⟩,rfl⟩,rfl⟩,rfl⟩,(Qmo _ _ _ _ l)⟩ ?_
   refine bg_ h (fun b h=>Qa hC [.T,.n 11,.K [4,5] [609,610]] rfl ⟨tt_,b⟩ ?_) fun b h=>Qa hC [.F,.n 7,.K [1,9,10,11] [609,610]] rfl ⟨tt_,b⟩ ?_
   ·cases h
    exact QaN rfl (an_ rfl rfl)
   cases h
   exact QU rfl rfl
  refine Qa hC [.F,.n 2,.K [] [609,610]] rfl ⟨tt_,a⟩ ?_
  cases h
  exact QV rfl (an_ rfl rfl)
 rcases m with(⟨s,t⟩|_)
 ·replace h:Qcb s t=some r:=h
  rintro e σ ⟨rfl,rfl⟩
  refine tg_ hC [.n 2] rfl ?_
  cases h
  exact d2_ rfl rfl rfl ⟨rfl,rfl,tt_⟩
 replace h:Qcc=some r:=h
 rintro e σ ⟨rfl,rfl⟩
 refine tg_ hC [.n 9] rfl ?_
 cases h
 exact d2_ rfl rfl rfl ⟨rfl,rfl,tt_⟩
def QeL (b:Qm)(a:(List Q6)):Option Int:=
 (Qc8 a a b).bind fun c=>
 some c.2
theorem Qnx (a b){r}(h:QeL a b=some r):Qc prog 128 [.agg (Qe a),.sl 2 (b.map Qx)] [] (Qh (.I r) []):=by
 refine Qc.walk 14 func128 rfl rfl rfl fun C hC=>?_
 obtain⟨e,c,h⟩:=Qd h
 refine Qa hC [.n 11,.cm (.fn) [(609,3),(610,2)] [(3,609),(2,610)] [] [.d,.d] [(609,.var (Qa4 b)),(610,.var (Qe a))] (.tup [.I e.1,.I e.2]),.n 14] rfl ⟨tt_,(Qlz _ _ _ c)⟩ ?_
 cases h
 exact d1_ rfl rfl tt_
def Qhx (a:Qm)(b:Qu):Option Int:=
 (QeL a b.Vars).bind fun c=>
 some c
theorem Qo8 (a b){r}(h:Qhx a b=some r):Qc prog 127 [.loc 609 0 0,.loc 610 0 0] [(609,.var (Qe a)),(610,.var (Qf b))] (Qh (.I r) [(609,.var (Qe a)),(610,.var (Qf b))]):=by
 refine Qc.walk 7 func127 rfl rfl rfl fun C hC=>?_
 obtain⟨f,e,h⟩:=Qd h
 refine Qa hC [.n 7,.v .no [] (.agg (Qe a)),.n 2,.o (.c false [.d,.d] (.I f)),.n 4] rfl ⟨⟨tt_,rfl⟩,(Qnx _ _ e)⟩ ?_
 cases h
 exact d1_ rfl rfl ⟨rfl,rfl,tt_⟩
def Qgu (b:Qm)(c:Qu)(d:Int):Option (Bool×Int):=
 (Qhx b c).bind fun a=>
 some ((a==0),a)
theorem Qou (c e i){r}(h:Qgu c e i=some r):Qc prog 184 [.loc 609 0 0,.loc 612 0 0] [(609,.var [.clo (.func 127) [] [.loc 610 0 0,.loc 611 0 0]]),(610,.var (Qe c)),(611,.var (Qf e)),(612,.var [.loc 613 0 0]),(613,.var (Qb i))] (Qh (.b r.1) [(609,.var [.clo (.func 127) [] [.loc 610 0 0,.loc 611 0 0]]),(610,.var (Qe c)),(611,.var (Qf e)),(612,.var [.loc 613 0 0]),(613,.var (Qb r.2))]):=by
 refine Qc.walk 11 func184 rfl rfl rfl fun C hC=>?_
 obtain⟨f,g,h⟩:=Qd h
 refine tg_ hC [.n 6,.K [0,1] [609,610,611,612,613]] rfl ?_
 refine AK.draw2 Qp hC mixed [.N,.N,.a (.any (.I f) none) none false,.N,.m .s] [] [] [1] [609,610,611,612,613] rfl rfl rfl ⟨tt_,(fun σ j k _=>Stp.callSame (md:=.cm (.clo) [(609,610),(610,611)] [(610,609),(611,610)] [] [.d,.d] [(609,.var (Qe c)),(610,.var (Qf e))] (.I f) [610,611]) Qp hC j k rfl ⟨⟨tt_,(Qo8 _ _ g)⟩,⟨rfl,rfl,tt_⟩⟩)⟩ rfl (by kernel_rfl) rfl rfl rfl ?_
 refine Qa hC [.O 613 (.var (Qb f)),.n 11] rfl ⟨tt_,rfl⟩ ?_
 cases h
 exact d1_ rfl rfl ⟨rfl,rfl,rfl,rfl,rfl,tt_⟩
def Qfv (e:Qu)(f:Qm)(a:Int)(c:Int):Option ((Int×Int)⊕(Unit⊕Int)):=
 bif (decide (c<(e.Vars.length:Int)))then
 (idx e.Vars c).bind fun d=>
 (QfN f.Colours d.Colour).bind fun b=>
 bif (b==0)then
 some (.inr (.inl ()))
 else
 some (.inl ((min2 (w64 (a*b)) 1025),(w64 (c+1))))
 else
 some (.inr (.inr a))
def Qfw : Option Int:=
 some 0
def Qfx (a:Int):Option Int:=
 some a
def Qiq (a:Qm)(b:Int):Option Int:=
 (Qbm a.Tasks b).bind fun c=>
 bif (!c)then
 some 0
 else
 (idx a.Tasks b).bind fun d=>
 (Qw (fun st=>Qfv d a st.1 st.2) (1,0)).bind (Sum.elim (fun q=>Qfw) (fun q=>Qfx q))
theorem QpZ (s y){r}(h:Qiq s y=some r):Qc prog 57 [.agg (Qe s),.I y] [] (Qh (.I r) []):=by
 refine Qc.walk 38 func57 rfl rfl rfl fun C hC=>?_
 obtain⟨A,t,h⟩:=Qd h
 refine Qa hC [.n 12,.o (.c false [.d,.d] (.b A)),.n 3] rfl ⟨tt_,(Qgt _ _ t)⟩ ?_
 rcases Qs h with⟨g,h⟩|⟨g,h⟩
 ·refine Qa hC [.T,.n 7] rfl ⟨tt_,g⟩ ?_
  cases h
  exact d1_ rfl rfl tt_
 obtain⟨k,u,h⟩:=Qd h
 refine Qa hC [.F,.n 13,.o (.row (Qf k)),.n 2,.o (.ln k.Vars.length),.n 4,.K [2,5,19,20,21] [2]] rfl ⟨⟨⟨tt_,g⟩,(QC u)⟩,Qi⟩ ?_
 obtain⟨w,l,h⟩:=Qd h
 refine AK.loop (body:=(fun st=>Qfv k s st.1 st.2)) (fun st σ=>σ=⟨[(2,.loc 2 0 0),(5,.I st.1),(19,.sl 2 (k.Vars.map Qx)),(20,.I (k.Vars.length:Int)),(21,.I st.2)],[(2,.var (Qe s))]⟩) (Sum.elim (fun q e σ=>e=.ret∧σ=⟨[(4,.I 0)],[]⟩) (fun q e σ=>e=.exit 0∧σ=⟨[(5,.I q)],[]⟩)) l rfl ?_ ?_
 ·rintro ⟨z,B⟩ o σ rfl h
  refine tg_ hC [.n 6] rfl ?_
  rcases Qs h with⟨a,h⟩|⟨a,h⟩
  ·obtain⟨i,m,h⟩:=Qd h
   obtain⟨x,p,h⟩:=Qd h
   refine Qa hC [.T,.n 6,.o (.row (Qx i)),.v .no [] (.agg (Qx i)),.n 2,.O 7 (.var (Qx i)),.n 8,.o (.c false [.d,.d] (.I x)),.n 10] rfl ⟨⟨⟨⟨⟨tt_,a⟩,(QC m)⟩,rfl⟩,rfl⟩,(Qlh _ _ p)⟩ ?_
   refine bg_ h (fun f h=>Qa hC [.T,.n 9,.K [4] []] rfl ⟨tt_,f⟩ ?_) fun f h=>Qa hC [.F,.n 15,.K [2,5,19,20,21] [2]] rfl ⟨tt_,f⟩ ?_
   ·cases h
    exact QaN rfl (an_ rfl rfl)
   cases h
   exact QU rfl rfl
  refine Qa hC [.F,.n 2,.K [5] []] rfl ⟨tt_,a⟩ ?_
  cases h
  exact QV rfl (an_ rfl rfl)
 rcases w with(_ | j)
 ·replace h:Qfw=some r:=h
  rintro e σ ⟨rfl,rfl⟩
  refine tg_ hC [.n 2] rfl ?_
  cases h
  exact d1_ rfl rfl tt_
 replace h:Qfx j=some r:=h
 rintro e σ ⟨rfl,rfl⟩
 refine tg_ hC [.n 9] rfl ?_
 cases h
 exact d1_ rfl rfl tt_
def Qhy (a:Qm)(b:Int):Option Bool:=
 (Qiq a b).bind fun c=>
 some (decide (c≤1024))
theorem Qo9 (a e){r}(h:Qhy a e=some r):Qc prog 129 [.loc 609 0 0,.loc 610 0 0] [(609,.var (Qe a)),(610,.var (Qb e))] (Qh (.b r) [(609,.var (Qe a)),(610,.var (Qb e))]):=by
 refine Qc.walk 7 func129 rfl rfl rfl fun C hC=>?_
 obtain⟨g,f,h⟩:=Qd h
 refine Qa hC [.n 7,.v .no [] (.agg (Qe a)),.n 1,.o (.c false [.d,.d] (.I g)),.n 5] rfl ⟨⟨tt_,rfl⟩,(QpZ _ _ f)⟩ ?_
 cases h
 exact d1_ rfl rfl ⟨rfl,rfl,tt_⟩
def Qgv (c:Qj)(rec_expr_Depth:Qj→Option Int)(d:Int)(a:Int):Option ((Int×Int)⊕Int):=
 bif (decide (a<(c.Kids.length:Int)))then
 (idx c.Kids a).bind fun e=>
 (rec_expr_Depth e).bind fun b=>
 some (.inl ((max2 d b),(w64 (a+1))))
 else
 some (.inr d)
def Qi9 (a:Int):Option Int:=
 some (w64 (a+1))
def Qjr (rec_expr_Depth:Qj→Option Int)(a:Qj):Option Int:=
 (Qw (fun st=>Qgv a rec_expr_Depth st.1 st.2) (0,0)).bind (fun q=>Qi9 q)
def Qco : Nat→Qj→Option Int
 | 0,_=>none
 | n+1,a=>Qjr (Qco n) a
def Qlm (a:Qj):Option Int:=Qco (SizeOf.sizeOf a) a
theorem Qpa (rec_expr_Depth:Qj→Option Int)(hrec_expr_Depth:∀(a:Qj) {r:Int},rec_expr_Depth a=some r→Qc prog 192 [.agg (Qo a)] [] (Qh (.I r) []))(a:Qj){r:Int}(h:Qjr rec_expr_Depth a=some r):Qc prog 192 [.agg (Qo a)] [] (Qh (.I r) []):=by
 refine Qc.walk 20 func192 rfl rfl rfl fun C hC=>?_
 refine Qa hC [.n 16,.o (.ln a.Kids.length),.n 4,.K [3,7,8,9] []] rfl ⟨tt_,Qha _⟩ ?_
 obtain⟨l,f,h⟩:=Qd h
 refine AK.loop (body:=(fun st=>Qgv a rec_expr_Depth st.1 st.2)) (fun st σ=>σ=⟨[(3,.I st.1),(7,.sl 3 (QaG a.Kids)),(8,.I (a.Kids.length:Int)),(9,.I st.2)],[]⟩) (fun q e σ=>e=.exit 0∧σ=⟨[(3,.I q)],[]⟩) f rfl ?_ ?_
 ·rintro ⟨m,p⟩ o σ rfl h
  refine tg_ hC [.n 6] rfl ?_
  rcases Qs h with⟨b,h⟩|⟨b,h⟩
  ·obtain⟨i,j,h⟩:=Qd h
   obtain⟨k,g,h⟩:=Qd h
   refine Qa hC [.T,.n 6,.o (.row (Qo i)),.v .no [] (.agg (Qo i)),.n 2,.O 5 (.var (Qo i)),.n 4,.v .no [] (.agg (Qo i)),.o (.c false [.d] (.I k)),.n 9,.K [3,7,8,9] []] rfl ⟨⟨⟨⟨⟨⟨tt_,b⟩,(QkC j)⟩,rfl⟩,rfl⟩,rfl⟩,(hrec_expr_Depth _ g)⟩ ?_
   cases h
   exact QU rfl rfl
  refine Qa hC [.F,.n 2,.K [3] []] rfl ⟨tt_,b⟩ ?_
  cases h
  exact QV rfl (an_ rfl rfl)
 replace h:Qi9 l=some r:=h
 rintro e σ ⟨rfl,rfl⟩
 refine tg_ hC [.n 10] rfl ?_
 cases h
 exact d1_ rfl rfl tt_
theorem Qkl : ∀(fuel:Nat) (a:Qj) {r:Int},Qco fuel a=some r→Qc prog 192 [.agg (Qo a)] [] (Qh (.I r) [])
 | 0,_,_,h=>by cases h
 | n+1,a,_,h=>Qpa (Qco n) (fun _ _ h=>Qkl n _ h) a h
theorem QqF (a){r}(h:Qlm a=some r):Qc prog 192 [.agg (Qo a)] [] (Qh (.I r) []):=Qkl _ a h
def Qhz (c:Qj)(rec_expr_Size:Qj→Option Int)(d:Int)(a:Int):Option ((Int×Int)⊕Int):=
 bif (decide (a<(c.Kids.length:Int)))then
 (idx c.Kids a).bind fun e=>
 (rec_expr_Size e).bind fun b=>
 some (.inl ((w64 (d+b)),(w64 (a+1))))
 else
 some (.inr d)
def Qjs (a:Int):Option Int:=
 some a
def Qj4 (rec_expr_Size:Qj→Option Int)(a:Qj):Option Int:=
 (Qw (fun st=>Qhz a rec_expr_Size st.1 st.2) (1,0)).bind (fun q=>Qjs q)
def QcV : Nat→Qj→Option Int
 | 0,_=>none
 | n+1,a=>Qj4 (QcV n) a
def Qmp (a:Qj):Option Int:=QcV (SizeOf.sizeOf a) a
theorem Qp0 (rec_expr_Size:Qj→Option Int)(hrec_expr_Size:∀(a:Qj) {r:Int},rec_expr_Size a=some r→Qc prog 193 [.agg (Qo a)] [] (Qh (.I r) []))(a:Qj){r:Int}(h:Qj4 rec_expr_Size a=some r):Qc prog 193 [.agg (Qo a)] [] (Qh (.I r) []):=by
 refine Qc.walk 19 func193 rfl rfl rfl fun C hC=>?_
 refine Qa hC [.n 16,.o (.ln a.Kids.length),.n 4,.K [3,7,8,9] []] rfl ⟨tt_,Qha _⟩ ?_
 obtain⟨l,f,h⟩:=Qd h
 refine AK.loop (body:=(fun st=>Qhz a rec_expr_Size st.1 st.2)) (fun st σ=>σ=⟨[(3,.I st.1),(7,.sl 3 (QaG a.Kids)),(8,.I (a.Kids.length:Int)),(9,.I st.2)],[]⟩) (fun q e σ=>e=.exit 0∧σ=⟨[(3,.I q)],[]⟩) f rfl ?_ ?_
 ·rintro ⟨m,p⟩ o σ rfl h
  refine tg_ hC [.n 6] rfl ?_
  rcases Qs h with⟨b,h⟩|⟨b,h⟩
  ·obtain⟨i,j,h⟩:=Qd h
   obtain⟨k,g,h⟩:=Qd h
   refine Qa hC [.T,.n 6,.o (.row (Qo i)),.v .no [] (.agg (Qo i)),.n 2,.O 5 (.var (Qo i)),.n 4,.v .no [] (.agg (Qo i)),.o (.c false [.d] (.I k)),.n 9,.K [3,7,8,9] []] rfl ⟨⟨⟨⟨⟨⟨tt_,b⟩,(QkC j)⟩,rfl⟩,rfl⟩,rfl⟩,(hrec_expr_Size _ g)⟩ ?_
   cases h
   exact QU rfl rfl
  refine Qa hC [.F,.n 2,.K [3] []] rfl ⟨tt_,b⟩ ?_
  cases h
  exact QV rfl (an_ rfl rfl)
 replace h:Qjs l=some r:=h
 rintro e σ ⟨rfl,rfl⟩
 refine tg_ hC [.n 9] rfl ?_
 cases h
 exact d1_ rfl rfl tt_
theorem Qln : ∀(fuel:Nat) (a:Qj) {r:Int},QcV fuel a=some r→Qc prog 193 [.agg (Qo a)] [] (Qh (.I r) [])
 | 0,_,_,h=>by cases h
 | n+1,a,_,h=>Qp0 (QcV n) (fun _ _ h=>Qln n _ h) a h
theorem Qrr (a){r}(h:Qmp a=some r):Qc prog 193 [.agg (Qo a)] [] (Qh (.I r) []):=Qln _ a h
def Qe0 (a:Int)(b:Bool):Option Int:=
 bif b then
 some 1
 else
 bif (a==5)then
 some 2
 else
 bif (a==6)then
 some 3
 else
 some (-1)
def Qe1 (a:Int)(b:Bool):Option Int:=
 bif b then
 some 0
 else
 bif (a==3)then
 Qe0 a (a==3)
 else
 Qe0 a (a==4)
def QjJ (a:Int):Option Int:=
 bif (a==1)then
 Qe1 a (a==1)
 else
 Qe1 a (a==2)
theorem Qrs (a){r}(h:QjJ a=some r):Qc prog 228 [.I a] [] (Qh (.I r) []):=by
 refine Qc.walk 14 func228 rfl rfl rfl fun C hC=>?_
 refine tg_ hC [.n 12] rfl ?_
 refine AK.meet (fun σ=>∃j:Bool,σ=⟨[(3,.I a),(4,.b j)],[]⟩∧Qe1 a j=some r) ?_ ?_
 ·refine tg_ hC [.n 6] rfl ?_
  refine bg_ h (fun c h=>Qa hC [.T,.n 1,.K [3,4] []] rfl ⟨tt_,c⟩ ?_) fun c h=>Qa hC [.F,.n 4,.K [3,4] []] rfl ⟨tt_,c⟩ ?_
  ·exact AK.met (ex_ _ (an_ rfl h))
  exact AK.met (ex_ _ (an_ rfl h))
 rintro σ ⟨j,rfl,h⟩
 refine bg_ h (fun e h=>Qa hC [.T,.n 8,.K [2] []] rfl ⟨tt_,e⟩ ?_) fun e h=>Qa hC [.F] rfl ⟨tt_,e⟩ ?_
 ·cases h
  exact d1_ rfl rfl tt_
 refine AK.meet (fun σ=>∃k:Bool,σ=⟨[(3,.I a),(7,.b k)],[]⟩∧Qe0 a k=some r) ?_ ?_
 ·refine tg_ hC [.n 6] rfl ?_
  refine bg_ h (fun d h=>Qa hC [.T,.n 1,.K [3,7] []] rfl ⟨tt_,d⟩ ?_) fun d h=>Qa hC [.F,.n 4,.K [3,7] []] rfl ⟨tt_,d⟩ ?_
  ·exact AK.met (ex_ _ (an_ rfl h))
  exact AK.met (ex_ _ (an_ rfl h))
 rintro σ ⟨k,rfl,h⟩
 refine bg_ h (fun f h=>Qa hC [.T,.n 8,.K [2] []] rfl ⟨tt_,f⟩ ?_) fun f h=>Qa hC [.F,.n 6] rfl ⟨tt_,f⟩ ?_
 ·cases h
  exact d1_ rfl rfl tt_
 refine bg_ h (fun g h=>Qa hC [.T,.n 8,.K [2] []] rfl ⟨tt_,g⟩ ?_) fun g h=>Qa hC [.F,.n 6] rfl ⟨tt_,g⟩ ?_
 ·cases h
  exact d1_ rfl rfl tt_
 refine bg_ h (fun i h=>Qa hC [.T,.n 8,.K [2] []] rfl ⟨tt_,i⟩ ?_) fun i h=>Qa hC [.F,.n 9,.K [2] []] rfl ⟨tt_,i⟩ ?_
 ·cases h
  exact d1_ rfl rfl tt_
 cases h
 exact d1_ rfl rfl tt_
def Qja (op1:Int):Option Bool:=
 some ((decide (1≤op1))&&(decide (op1≤11)))
theorem QqG (op1){r}(h:Qja op1=some r):Qc prog 229 [.I op1] [] (Qh (.b r) []):=by
 refine Qc.walk 9 func229 rfl rfl rfl fun C hC=>?_
 refine tg_ hC [.n 6] rfl ?_
 refine AK.meetX (fun σ=>σ=⟨[(2,.b ((decide (1≤op1))&&(decide (op1≤11))))],[]⟩) ?_ ?_
 ·refine tg_ hC [.n 4] rfl ?_
  rcases QQ (decide (1≤op1))with a | a
  ·refine Qa hC [.S 5 (.b true),.n 5,.S 2 (.b ((decide (1≤op1))&&(decide (op1≤11)))),.K [2] []] rfl ⟨(tc_ a),(congrArg V.b (Qbh a rfl))⟩ ?_
   exact AK.met rfl
  refine Qa hC [.S 5 (.b false),.n 5,.S 2 (.b ((decide (1≤op1))&&(decide (op1≤11)))),.K [2] []] rfl ⟨(tc_ a),(congrArg V.b (Qdf a rfl))⟩ ?_
  exact AK.met rfl
 rintro σ rfl
 refine tg_ hC [.n 2] rfl ?_
 cases h
 exact d1_ rfl rfl tt_
def Qjt (rec_expr_parts:Qj→Int→Option Bool)(a:Qj)(b:Int):Option Bool:=
 (rec_expr_parts a b).bind fun c=>
 some (!c)
theorem Qpb (rec_expr_parts:Qj→Int→Option Bool)(hrec_expr_parts:∀(i:Qj) (a:Int) {r:Bool},rec_expr_parts i a=some r→Qc prog 194 [.agg (Qo i),.I a] [] (Qh (.b r) []))(e:Qj)(f:Int){r:Bool}(h:Qjt rec_expr_parts e f=some r):Qc prog 231 [.agg (Qo e),.loc 609 0 0] [(609,.var (Qb f))] (Qh (.b r) [(609,.var (Qb f))]):=by
 refine Qc.walk 8 func231 rfl rfl rfl fun C hC=>?_
 obtain⟨j,g,h⟩:=Qd h
 refine Qa hC [.n 8,.v .no [] (.agg (Qo e)),.n 1,.o (.c false [.d,.d] (.b j)),.n 5] rfl ⟨⟨tt_,rfl⟩,(hrec_expr_parts _ _ g)⟩ ?_
 cases h
 exact d1_ rfl rfl ⟨rfl,tt_⟩
def Qam (c:(List Qj))(rec_expr_parts:Qj→Int→Option Bool)(d:Int)(a:Int):Option (Int⊕(Int⊕Unit)):=
 bif (decide (a<(c.length:Int)))then
 (idx c a).bind fun e=>
 (Qjt rec_expr_parts e d).bind fun b=>
 bif b then
 some (.inr (.inl a))
 else
 some (.inl (w64 (a+1)))
 else
 some (.inr (.inr ()))
def QbX (a:Int):Option Int:=
 some a
def QbY : Option Int:=
 some (-1)
def Qbb (rec_expr_parts:Qj→Int→Option Bool)(a:(List Qj))(b:Int):Option Int:=
 (Qw (fun st=>Qam a rec_expr_parts b st) 0).bind (Sum.elim (fun q=>QbX q) (fun q=>QbY))
theorem QfP (rec_expr_parts:Qj→Int→Option Bool)(hrec_expr_parts:∀(s:Qj) (a:Int) {r:Bool},rec_expr_parts s a=some r→Qc prog 194 [.agg (Qo s),.I a] [] (Qh (.b r) []))(i:(List Qj))(f:Int){r:Int}(h:Qbb rec_expr_parts i f=some r):Qc prog 245 [.sl 3 (QaG i),.clo (.func 231) [] [.loc 609 0 0]] [(609,.var (Qb f))] (Qh (.I r) [(609,.var (Qb f))]):=by
 refine Qc.walk 19 func245 rfl rfl rfl fun C hC=>?_
 refine Qa hC [.n 9,.o (.ln i.length),.n 4,.K [0,1,7,8] [609]] rfl ⟨tt_,Qha _⟩ ?_
 obtain⟨l,j,h⟩:=Qd h
 refine AK.loop (body:=(fun st=>Qam i rec_expr_parts f st)) (fun st σ=>σ=⟨[(0,.sl 3 (QaG i)),(1,.clo (.func 231) [] [.loc 609 0 0]),(7,.I (i.length:Int)),(8,.I st)],[(609,.var (Qb f))]⟩) (Sum.elim (fun q e σ=>e=.ret∧σ=⟨[(4,.I q)],[(609,.var (Qb f))]⟩) (fun q e σ=>e=.exit 0∧σ=⟨[],[(609,.var (Qb f))]⟩)) j rfl ?_ ?_
 ·rintro w o σ rfl h
  refine tg_ hC [.n 6] rfl ?_
  rcases Qs h with⟨g,h⟩|⟨g,h⟩
  ·obtain⟨t,m,h⟩:=Qd h
   obtain⟨p,k,h⟩:=Qd h
   refine Qa hC [.T,.n 15,.o (.row (Qo t)),.v .no [] (.agg (Qo t)),.cm (.clo) [(609,609)] [(609,609)] [] [.d,.d] [(609,.var (Qb f))] (.b p),.n 2] rfl ⟨⟨⟨⟨tt_,g⟩,(QkC m)⟩,rfl⟩,(Qpb rec_expr_parts hrec_expr_parts _ _ k)⟩ ?_
   refine bg_ h (fun c h=>Qa hC [.T,.n 9,.K [4] [609]] rfl ⟨tt_,c⟩ ?_) fun c h=>Qa hC [.F,.n 7,.K [0,1,7,8] [609]] rfl ⟨tt_,c⟩ ?_
   ·cases h
    exact QaN rfl (an_ rfl rfl)
   cases h
   exact QU rfl rfl
  refine Qa hC [.F,.n 2,.K [] [609]] rfl ⟨tt_,g⟩ ?_
  cases h
  exact QV rfl (an_ rfl rfl)
 rcases l with(u | _)
 ·replace h:QbX u=some r:=h
  rintro e σ ⟨rfl,rfl⟩
  refine tg_ hC [.n 2] rfl ?_
  cases h
  exact d1_ rfl rfl ⟨rfl,tt_⟩
 replace h:QbY=some r:=h
 rintro e σ ⟨rfl,rfl⟩
 refine tg_ hC [.n 8] rfl ?_
 cases h
 exact d1_ rfl rfl ⟨rfl,tt_⟩
def Qan (rec_expr_parts:Qj→Int→Option Bool)(a:(List Qj))(b:Int):Option Bool:=
 (Qbb rec_expr_parts a b).bind fun c=>
 some (decide (0≤c))
theorem Qe2 (rec_expr_parts:Qj→Int→Option Bool)(hrec_expr_parts:∀(f:Qj) (a:Int) {r:Bool},rec_expr_parts f a=some r→Qc prog 194 [.agg (Qo f),.I a] [] (Qh (.b r) []))(g:(List Qj))(c:Int){r:Bool}(h:Qan rec_expr_parts g c=some r):Qc prog 230 [.sl 3 (QaG g),.clo (.func 231) [] [.loc 609 0 0]] [(609,.var (Qb c))] (Qh (.b r) [(609,.var (Qb c))]):=by
 refine Qc.walk 9 func230 rfl rfl rfl fun C hC=>?_
 obtain⟨i,e,h⟩:=Qd h
 refine Qa hC [.n 9,.cm (.fn) [(609,609)] [(609,609)] [] [.d,.d] [(609,.var (Qb c))] (.I i),.n 5] rfl ⟨tt_,(QfP rec_expr_parts hrec_expr_parts _ _ e)⟩ ?_
 cases h
 exact d1_ rfl rfl ⟨rfl,tt_⟩
def Ql6 (b:Qj):Option Bool:=
 bif (b.Kind==5)then
 (Qja b.Num).bind fun a=>
 some (!a)
 else
 some false
def Qgw (rec_expr_parts:Qj→Int→Option Bool)(d:Qj)(a:Int)(b:Bool):Option Bool:=
 bif b then
 some false
 else
 (Qan rec_expr_parts d.Kids a).bind fun c=>
 some (!c)
def Qju (rec_expr_parts:Qj→Int→Option Bool)(b:Qj)(a:Int):Option Bool:=
 (QjJ b.Kind).bind fun d=>
 bif ((b.Kids.length:Int) != d)then
 some false
 else
 bif ((b.Kind==2)&&((decide (b.Num<0))||(decide (a≤b.Num))))then
 some false
 else
 (Ql6 b).bind (fun c=>Qgw rec_expr_parts b a c)
def Qcp : Nat→Qj→Int→Option Bool
 | 0,_,_=>none
 | n+1,b,a=>Qju (Qcp n) b a
def Qlo (b:Qj)(a:Int):Option Bool:=Qcp (SizeOf.sizeOf b) b a
theorem Qpc (rec_expr_parts:Qj→Int→Option Bool)(hrec_expr_parts:∀(f:Qj) (e:Int) {r:Bool},rec_expr_parts f e=some r→Qc prog 194 [.agg (Qo f),.I e] [] (Qh (.b r) []))(f:Qj)(e:Int){r:Bool}(h:Qju rec_expr_parts f e=some r):Qc prog 194 [.agg (Qo f),.I e] [] (Qh (.b r) []):=by
 refine Qc.walk 43 func194 rfl rfl rfl fun C hC=>?_
 obtain⟨x,u,h⟩:=Qd h
 refine tg_ hC [.n 10,.K [2,3] [2,3]] rfl ?_
 refine AK.draw2 Qp hC mixed [.N,.N,.a (.ln f.Kids.length) none false,.N,.N,.a (.c false [.d] (.I x)) none false,.N,.N] [] [] [2,3,5] [2,3] rfl rfl rfl ⟨⟨tt_,Qha _⟩,(Qrs _ u)⟩ rfl (by kernel_rfl) rfl rfl rfl ?_
 refine tg_ hC [.n 1] rfl ?_
 refine bg_ h (fun m h=>Qa hC [.T,.n 8,.K [4] []] rfl ⟨tt_,m⟩ ?_) fun m h=>Qa hC [.F,.n 1] rfl ⟨tt_,m⟩ ?_
 ·cases h
  exact d1_ rfl rfl tt_
 refine AK.meetX (fun σ=>σ=⟨[(2,.loc 2 0 0),(3,.loc 3 0 0),(13,.b ((f.Kind==2)&&((decide (f.Num<0))||(decide (e≤f.Num)))))],[(2,.var (Qo f)),(3,.var (Qb e))]⟩) ?_ ?_
 ·refine tg_ hC [.n 5] rfl ?_
  rcases QQ (f.Kind==2)with g | g
  ·refine Qa hC [.S 17 (.b true),.n 4] rfl (tc_ g) ?_
   rcases QQ (decide (f.Num<0))with i | i
   ·refine Qa hC [.S 21 (.b true),.n 8,.S 13 (.b ((f.Kind==2)&&((decide (f.Num<0))||(decide (e≤f.Num))))),.K [2,3,13] [2,3]] rfl ⟨(tc_ i),(congrArg V.b (Qbh g (orT i rfl)))⟩ ?_
    exact AK.met rfl
   refine Qa hC [.S 21 (.b false),.n 8,.S 13 (.b ((f.Kind==2)&&((decide (f.Num<0))||(decide (e≤f.Num))))),.K [2,3,13] [2,3]] rfl ⟨(tc_ i),(congrArg V.b (Qbh g (orF i rfl)))⟩ ?_
   exact AK.met rfl
  refine Qa hC [.S 17 (.b false),.n 12,.S 13 (.b ((f.Kind==2)&&((decide (f.Num<0))||(decide (e≤f.Num))))),.K [2,3,13] [2,3]] rfl ⟨(tc_ g),(congrArg V.b (Qdf g rfl))⟩ ?_
  exact AK.met rfl
 rintro σ rfl
 refine tg_ hC [.n 1] rfl ?_
 refine bg_ h (fun j h=>Qa hC [.T,.n 8,.K [4] []] rfl ⟨tt_,j⟩ ?_) fun j h=>Qa hC [.F,.n 1] rfl ⟨tt_,j⟩ ?_
 ·cases h
  exact d1_ rfl rfl tt_
 obtain⟨p,q,h⟩:=Qd h
 replace h:Qgw rec_expr_parts f e p=some r:=h
 refine AK.meetX (fun σ=>σ=⟨[(2,.loc 2 0 0),(3,.loc 3 0 0),(28,.b p)],[(2,.var (Qo f)),(3,.var (Qb e))]⟩) ?_ ?_
 ·replace h:=q
  refine tg_ hC [.n 5] rfl ?_
  rcases Qs h with⟨k,h⟩|⟨k,h⟩
  ·obtain⟨v,s,h⟩:=Qd h
   refine Qa hC [.S 32 (.b true),.n 2,.o (.c false [.d] (.b v)),.n 4,.K [2,3,28] [2,3]] rfl ⟨(tc_ k),(QqG _ s)⟩ ?_
   cases h
   exact AK.met rfl
  refine Qa hC [.S 32 (.b false),.n 7,.K [2,3,28] [2,3]] rfl (tc_ k) ?_
  cases h
  exact AK.met rfl
 rintro σ rfl
 replace h:Qgw rec_expr_parts f e p=some r:=h
 refine tg_ hC [.n 1] rfl ?_
 rcases Qs h with⟨l,h⟩|⟨l,h⟩
 ·refine Qa hC [.T,.n 8] rfl ⟨tt_,l⟩ ?_
  cases h
  exact d1_ rfl rfl tt_
 obtain⟨w,t,h⟩:=Qd h
 refine Qa hC [.F,.n 8,.cm (.fn) [(609,3)] [(3,609)] [] [.d,.d] [(609,.var (Qb e))] (.b w),.n 5] rfl ⟨⟨tt_,l⟩,(Qe2 rec_expr_parts hrec_expr_parts _ _ t)⟩ ?_
 cases h
 exact d1_ rfl rfl tt_
theorem Qkm : ∀(fuel:Nat) (c:Qj) (a:Int) {r:Bool},Qcp fuel c a=some r→Qc prog 194 [.agg (Qo c),.I a] [] (Qh (.b r) [])
 | 0,_,_,_,h=>by cases h
 | n+1,c,a,_,h=>Qpc (Qcp n) (fun _ _ _ h=>Qkm n _ _ h) c a h
theorem QqH (c a){r}(h:Qlo c a=some r):Qc prog 194 [.agg (Qo c),.I a] [] (Qh (.b r) []):=Qkm _ c a h
def Ql7 (b:Qj)(a:Int):Option Bool:=
 (Qlm b).bind fun d=>
 bif (decide (d≤40))then
 (Qmp b).bind fun e=>
 bif (decide (e≤400))then
 (Qlo b a).bind fun c=>
 some c
 else
 some false
 else
 some false
def Qjb (a:Bool):Option Bool:=
 some a
def QgV (b:Qj)(a:Int):Option Bool:=
 (Ql7 b a).bind (fun c=>Qjb c)
theorem Ql8 (g a){r}(h:QgV g a=some r):Qc prog 131 [.agg (Qo g),.I a] [] (Qh (.b r) []):=by
 refine Qc.walk 18 func131 rfl rfl rfl fun C hC=>?_
 refine tg_ hC [.n 7] rfl ?_
 obtain⟨j,k,h⟩:=Qd h
 replace h:Qjb j=some r:=h
 refine AK.meetX (fun σ=>σ=⟨[(4,.b j)],[]⟩) ?_ ?_
 ·replace h:=k
  obtain⟨q,l,h⟩:=Qd h
  refine Qa hC [.n 1,.v .no [] (.agg (Qo g)),.o (.c false [.d] (.I q)),.n 2] rfl ⟨⟨tt_,rfl⟩,(QqF _ l)⟩ ?_
  rcases Qs h with⟨e,h⟩|⟨e,h⟩
  ·obtain⟨s,m,h⟩:=Qd h
   refine Qa hC [.S 8 (.b true),.v .no [] (.agg (Qo g)),.o (.c false [.d] (.I s)),.n 3] rfl ⟨⟨(tc_ e),rfl⟩,(Qrr _ m)⟩ ?_
   rcases Qs h with⟨f,h⟩|⟨f,h⟩
   ·obtain⟨p,i,h⟩:=Qd h
    refine Qa hC [.S 13 (.b true),.v .no [] (.agg (Qo g)),.n 1,.o (.c false [.d,.d] (.b p)),.n 3,.K [4] []] rfl ⟨⟨(tc_ f),rfl⟩,(QqH _ _ i)⟩ ?_
    cases h
    exact AK.met rfl
   refine Qa hC [.S 13 (.b false),.n 6,.K [4] []] rfl (tc_ f) ?_
   cases h
   exact AK.met rfl
  refine Qa hC [.S 8 (.b false),.n 11,.K [4] []] rfl (tc_ e) ?_
  cases h
  exact AK.met rfl
 rintro σ rfl
 replace h:Qjb j=some r:=h
 refine tg_ hC [.n 2] rfl ?_
 cases h
 exact d1_ rfl rfl tt_
def Qkn (a:Qu)(b:Int):Option Bool:=
 (QgV a.Guard b).bind fun c=>
 bif c then
 bif (decide (0<(a.Ins.length:Int)))then
 some (decide (0<(a.Outs.length:Int)))
 else
 some false
 else
 some false
def QeM (a:Bool):Option Bool:=
 some a
def QhA (a:Qu)(b:Int):Option Bool:=
 (Qkn a b).bind (fun c=>QeM c)
theorem Qpd (a g){r}(h:QhA a g=some r):Qc prog 130 [.loc 609 0 0,.loc 610 0 0] [(609,.var (Qf a)),(610,.var (Qb g))] (Qh (.b r) [(609,.var (Qf a)),(610,.var (Qb g))]):=by
 refine Qc.walk 19 func130 rfl rfl rfl fun C hC=>?_
 refine tg_ hC [.n 6] rfl ?_
 obtain⟨i,j,h⟩:=Qd h
 replace h:QeM i=some r:=h
 refine AK.meetX (fun σ=>σ=⟨[(2,.b i)],[(609,.var (Qf a)),(610,.var (Qb g))]⟩) ?_ ?_
 ·replace h:=j
  obtain⟨l,k,h⟩:=Qd h
  refine Qa hC [.n 2,.v .no [] (.agg (Qo a.Guard)),.n 1,.o (.c false [.d,.d] (.b l)),.n 1] rfl ⟨⟨tt_,rfl⟩,(Ql8 _ _ k)⟩ ?_
  refine bg_ h (fun e h=>Qa hC [.S 7 (.b true),.n 2,.o (.ln a.Ins.length),.n 3] rfl ⟨(tc_ e),Qi⟩ ?_) fun e h=>Qa hC [.S 7 (.b false),.n 13,.K [2] [609,610]] rfl (tc_ e) ?_
  ·refine bg_ h (fun f h=>Qa hC [.S 13 (.b true),.n 2,.o (.ln a.Outs.length),.n 4,.K [2] [609,610]] rfl ⟨(tc_ f),Qi⟩ ?_) fun f h=>Qa hC [.S 13 (.b false),.n 7,.K [2] [609,610]] rfl (tc_ f) ?_
   ·cases h
    exact AK.met rfl
   cases h
   exact AK.met rfl
  cases h
  exact AK.met rfl
 rintro σ rfl
 replace h:QeM i=some r:=h
 refine tg_ hC [.n 2] rfl ?_
 cases h
 exact d1_ rfl rfl ⟨rfl,rfl,tt_⟩
def Qfy (a:Qm)(b:QM):Option Bool:=
 (Q8 a.Places b.Place).bind fun c=>
 some c
theorem QnP (a e){r}(h:Qfy a e=some r):Qc prog 197 [.loc 609 0 0,.loc 610 0 0] [(609,.var (Qe a)),(610,.var (QP e))] (Qh (.b r) [(609,.var (Qe a)),(610,.var (QP e))]):=by
 refine Qc.walk 8 func197 rfl rfl rfl fun C hC=>?_
 obtain⟨g,f,h⟩:=Qd h
 refine Qa hC [.n 11,.o (.c false [.d,.d] (.b g)),.n 4] rfl ⟨tt_,(QaY _ _ f)⟩ ?_
 cases h
 exact d1_ rfl rfl ⟨rfl,rfl,tt_⟩
def Qfz (a:QM)(b:Int):Option Bool:=
 (QgV a.Expr b).bind fun c=>
 some c
theorem QnQ (a e){r}(h:Qfz a e=some r):Qc prog 198 [.loc 609 0 0,.loc 610 0 0] [(609,.var (QP a)),(610,.var (Qb e))] (Qh (.b r) [(609,.var (QP a)),(610,.var (Qb e))]):=by
 refine Qc.walk 7 func198 rfl rfl rfl fun C hC=>?_
 obtain⟨g,f,h⟩:=Qd h
 refine Qa hC [.n 8,.v .no [] (.agg (Qo a.Expr)),.n 1,.o (.c false [.d,.d] (.b g)),.n 4] rfl ⟨⟨tt_,rfl⟩,(Ql8 _ _ f)⟩ ?_
 cases h
 exact d1_ rfl rfl ⟨rfl,rfl,tt_⟩
def QfA (c:Qm)(b:QM)(d:Int)(e:Int)(f:Int):Option Int:=
 (Qfy c b).bind fun g=>
 bif (!g)then
 some d
 else
 (Qfz b e).bind fun a=>
 bif (!a)then
 some f
 else
 some 0
theorem QnR (i e j k l){r}(h:QfA i e j k l=some r):Qc prog 64 [.own 609 2] [(609,.var [.clo (.func 197) [] [.loc 610 0 0,.loc 611 0 0],.I j,.clo (.func 198) [] [.loc 611 0 0,.loc 612 0 0],.I l]),(610,.var (Qe i)),(611,.var (QP e)),(612,.var (Qb k))] (Qh (.I r) [(609,.var [.clo (.func 197) [] [.loc 610 0 0,.loc 611 0 0],.I j,.clo (.func 198) [] [.loc 611 0 0,.loc 612 0 0],.I l]),(610,.var (Qe i)),(611,.var (QP e)),(612,.var (Qb k))]):=by
 refine Qc.walk 18 func64 rfl rfl rfl fun C hC=>?_
 refine tg_ hC [.n 14] rfl ?_
 refine AK.loopN 3 (AK.rnd ?_)
 obtain⟨s,m,h⟩:=Qd h
 refine Qa hC [.n 2,.v .no [] (.b true),.n 10,.o (.any (.loc 609 0 0) none),.n 3,.O 4 (.var [.clo (.func 197) [] [.loc 610 0 0,.loc 611 0 0],.I j]),.n 6,.cm (.clo) [(609,610),(610,611)] [(610,609),(611,610)] [] [.d,.d] [(609,.var (Qe i)),(610,.var (QP e))] (.b s),.n 3] rfl ⟨⟨⟨⟨tt_,rfl⟩,(fun σ f p _=>Stp.idxV rfl rfl (Qz hC.n rfl) (f _ _ rfl) (f _ _ rfl) (Qp.es rfl) (p _ _ rfl) (by decide))⟩,rfl⟩,(QnP _ _ m)⟩ ?_
 refine bg_ h (fun c h=>Qa hC [.T,.n 13,.K [2] [609,610,611,612]] rfl ⟨tt_,c⟩ ?_) fun c h=>Qa hC [.F,.n 4,.v .no [] (.I 1),.n 2] rfl ⟨⟨tt_,c⟩,rfl⟩ ?_
 ·cases h
  exact d1_ rfl rfl ⟨rfl,rfl,rfl,rfl,tt_⟩
 refine AK.met (AK.rnd ?_)
 obtain⟨q,g,h⟩:=Qd h
 refine Qa hC [.n 2,.v .no [] (.b true),.n 10,.o (.any (.loc 609 0 2) none),.n 1,.kill 4,.n 2,.O 4 (.var [.clo (.func 198) [] [.loc 611 0 0,.loc 612 0 0],.I l]),.n 6,.cm (.clo) [(609,611),(610,612)] [(611,609),(612,610)] [] [.d,.d] [(609,.var (QP e)),(610,.var (Qb k))] (.b q),.n 3] rfl ⟨⟨⟨⟨tt_,rfl⟩,(fun σ f p _=>Stp.idxV rfl rfl (Qz hC.n rfl) (f _ _ rfl) (f _ _ rfl) (Qp.es rfl) (p _ _ rfl) (by decide))⟩,rfl⟩,(QnQ _ _ g)⟩ ?_
 refine bg_ h (fun a h=>Qa hC [.T,.n 13,.K [2] [609,610,611,612]] rfl ⟨tt_,a⟩ ?_) fun a h=>Qa hC [.F,.n 4,.v .no [] (.I 2),.n 2] rfl ⟨⟨tt_,a⟩,rfl⟩ ?_
 ·cases h
  exact d1_ rfl rfl ⟨rfl,rfl,rfl,rfl,tt_⟩
 refine AK.met (AK.rnd ?_)
 refine Qa hC [.n 2,.v .no [] (.b false),.n 15] rfl ⟨tt_,rfl⟩ ?_
 cases h
 exact d1_ rfl rfl ⟨rfl,rfl,rfl,rfl,tt_⟩
def QhB (e:Int)(a:QM)(b:Qm)(c:Int):Option Int:=
 (QfA b a 3 c 1).bind fun d=>
 some d
theorem Qpe (f c a b){r}(h:QhB f c a b=some r):Qc prog 196 [.I f,.agg (QP c),.loc 609 0 0,.loc 610 0 0] [(609,.var (Qe a)),(610,.var (Qb b))] (Qh (.I r) [(609,.var (Qe a)),(610,.var (Qb b))]):=by
 refine Qc.walk 13 func196 rfl rfl rfl fun C hC=>?_
 obtain⟨g,e,h⟩:=Qd h
 refine Qa hC [.n 9,.v .no [] (.agg [.clo (.func 197) [] [.loc 609 0 0,.loc 5 0 0],.I 3]),.n 1,.v .no [] (.agg [.clo (.func 198) [] [.loc 5 0 0,.loc 610 0 0],.I 1]),.o (.any (.own 11 2) (some (.var [.clo (.func 197) [] [.loc 609 0 0,.loc 5 0 0],.I 3,.clo (.func 198) [] [.loc 5 0 0,.loc 610 0 0],.I 1]))),.cm (.fn) [(609,11),(610,609),(611,5),(612,610)] [(11,609),(609,610),(5,611),(610,612)] [] [.d] [(609,.var [.clo (.func 197) [] [.loc 610 0 0,.loc 611 0 0],.I 3,.clo (.func 198) [] [.loc 611 0 0,.loc 612 0 0],.I 1]),(610,.var (Qe a)),(611,.var (QP c)),(612,.var (Qb b))] (.I g),.n 4] rfl ⟨⟨⟨⟨tt_,rfl⟩,rfl⟩,(fun σ i j hf=>Stp.buildAny rfl rfl (Qz hC.n rfl) (Qp.es rfl) QjN rfl (by decide) (by decide) (Qdh i rfl) rfl rfl (hf rfl))⟩,(QnR _ _ _ _ _ e)⟩ ?_
 cases h
 exact d1_ rfl rfl ⟨rfl,rfl,tt_⟩
def Qcd (d:(List QM))(e:Qm)(f:Int)(a:Int):Option (Int⊕((Int×Int)⊕Unit)):=
 bif (decide (a<(d.length:Int)))then
 (idx d a).bind fun c=>
 (QhB a c e f).bind fun b=>
 bif (b != 0)then
 some (.inr (.inl (a,b)))
 else
 some (.inl (w64 (a+1)))
 else
 some (.inr (.inr ()))
def Qce (a:Int)(b:Int):Option (Int×Int):=
 some (a,b)
def Qcf : Option (Int×Int):=
 some (0,0)
def Qc9 (a:(List QM))(b:Qm)(c:Int):Option (Int×Int):=
 (Qw (fun st=>Qcd a b c st) 0).bind (Sum.elim (fun q=>Qce q.1 q.2) (fun q=>Qcf))
theorem QlA (i f g){r}(h:Qc9 i f g=some r):Qc prog 195 [.sl 4 (i.map QP),.clo (.func 196) [] [.loc 609 0 0,.loc 610 0 0]] [(609,.var (Qe f)),(610,.var (Qb g))] (Qh (.tup [.I r.1,.I r.2]) [(609,.var (Qe f)),(610,.var (Qb g))]):=by
 refine Qc.walk 25 func195 rfl rfl rfl fun C hC=>?_
 refine Qa hC [.n 10,.o (.ln i.length),.n 4,.K [1,9,10,11] [609,610]] rfl ⟨tt_,Qi⟩ ?_
 obtain⟨m,j,h⟩:=Qd h
 refine AK.loop (body:=(fun st=>Qcd i f g st)) (fun st σ=>σ=⟨[(1,.clo (.func 196) [] [.loc 609 0 0,.loc 610 0 0]),(9,.sl 4 (i.map QP)),(10,.I (i.length:Int)),(11,.I st)],[(609,.var (Qe f)),(610,.var (Qb g))]⟩) (Sum.elim (fun q e σ=>e=.ret∧σ=⟨[(4,.I q.1),(5,.I q.2)],[(609,.var (Qe f)),(610,.var (Qb g))]⟩) (fun q e σ=>e=.exit 0∧σ=⟨[],[(609,.var (Qe f)),(610,.var (Qb g))]⟩)) j rfl ?_ ?_
 ·rintro u o σ rfl h
  refine tg_ hC [.n 6] rfl ?_
  rcases Qs h with⟨a,h⟩|⟨a,h⟩
  ·obtain⟨c,k,h⟩:=Qd h
   obtain⟨p,l,h⟩:=Qd h
   refine Qa hC [.T,.n 7,.o (.row (QP c)),.v .no [] (.agg (QP c)),.n 3,.O 7 (.var (QP c)),.n 6,.v .no [] (.agg (QP c)),.cm (.clo) [(609,609),(610,610)] [(609,609),(610,610)] [] [.d,.d,.d,.d] [(609,.var (Qe f)),(610,.var (Qb g))] (.I p),.n 9] rfl ⟨⟨⟨⟨⟨⟨tt_,a⟩,(QC k)⟩,rfl⟩,rfl⟩,rfl⟩,(Qpe _ _ _ _ l)⟩ ?_
   refine bg_ h (fun b h=>Qa hC [.T,.n 11,.K [4,5] [609,610]] rfl ⟨tt_,b⟩ ?_) fun b h=>Qa hC [.F,.n 7,.K [1,9,10,11] [609,610]] rfl ⟨tt_,b⟩ ?_
   ·cases h
    exact QaN rfl (an_ rfl rfl)
   cases h
   exact QU rfl rfl
  refine Qa hC [.F,.n 2,.K [] [609,610]] rfl ⟨tt_,a⟩ ?_
  cases h
  exact QV rfl (an_ rfl rfl)
 rcases m with(⟨s,t⟩|_)
 ·replace h:Qce s t=some r:=h
  rintro e σ ⟨rfl,rfl⟩
  refine tg_ hC [.n 2] rfl ?_
  cases h
  exact d2_ rfl rfl rfl ⟨rfl,rfl,tt_⟩
 replace h:Qcf=some r:=h
 rintro e σ ⟨rfl,rfl⟩
 refine tg_ hC [.n 9] rfl ?_
 cases h
 exact d2_ rfl rfl rfl ⟨rfl,rfl,tt_⟩
def QgW (b:Qm)(c:(List QM))(a:Int):Option Int:=
 (Qc9 c b a).bind fun d=>
 some d.2
theorem Ql9 (b e a){r}(h:QgW b e a=some r):Qc prog 133 [.agg (Qe b),.sl 4 (e.map QP),.I a] [] (Qh (.I r) []):=by
 refine Qc.walk 16 func133 rfl rfl rfl fun C hC=>?_
 obtain⟨f,c,h⟩:=Qd h
 refine Qa hC [.n 11,.cm (.fn) [(609,3),(610,5)] [(3,609),(5,610)] [] [.d,.d] [(609,.var (Qe b)),(610,.var (Qb a))] (.tup [.I f.1,.I f.2]),.n 14] rfl ⟨tt_,(QlA _ _ _ c)⟩ ?_
 cases h
 exact d1_ rfl rfl tt_
def QhC (a:Qm)(b:Qu)(c:Int):Option Int:=
 (QgW a b.Ins c).bind fun d=>
 some d
theorem Qpf (a b e){r}(h:QhC a b e=some r):Qc prog 132 [.loc 609 0 0,.loc 610 0 0,.loc 611 0 0] [(609,.var (Qe a)),(610,.var (Qf b)),(611,.var (Qb e))] (Qh (.I r) [(609,.var (Qe a)),(610,.var (Qf b)),(611,.var (Qb e))]):=by
 refine Qc.walk 9 func132 rfl rfl rfl fun C hC=>?_
 obtain⟨g,f,h⟩:=Qd h
 refine Qa hC [.n 7,.v .no [] (.agg (Qe a)),.n 3,.o (.c false [.d,.d,.d] (.I g)),.n 4] rfl ⟨⟨tt_,rfl⟩,(Ql9 _ _ _ f)⟩ ?_
 cases h
 exact d1_ rfl rfl ⟨rfl,rfl,rfl,tt_⟩
def Qeg (b:Qm)(c:Qu)(d:Int)(e:Int):Option (Bool×Int):=
 (QhC b c d).bind fun a=>
 some ((a==0),a)
theorem QmQ (c e f j){r}(h:Qeg c e f j=some r):Qc prog 184 [.loc 609 0 0,.loc 613 0 0] [(609,.var [.clo (.func 132) [] [.loc 610 0 0,.loc 611 0 0,.loc 612 0 0]]),(610,.var (Qe c)),(611,.var (Qf e)),(612,.var (Qb f)),(613,.var [.loc 614 0 0]),(614,.var (Qb j))] (Qh (.b r.1) [(609,.var [.clo (.func 132) [] [.loc 610 0 0,.loc 611 0 0,.loc 612 0 0]]),(610,.var (Qe c)),(611,.var (Qf e)),(612,.var (Qb f)),(613,.var [.loc 614 0 0]),(614,.var (Qb r.2))]):=by
 refine Qc.walk 11 func184 rfl rfl rfl fun C hC=>?_
 obtain⟨g,i,h⟩:=Qd h
 refine tg_ hC [.n 6,.K [0,1] [609,610,611,612,613,614]] rfl ?_
 refine AK.draw2 Qp hC mixed [.N,.N,.a (.any (.I g) none) none false,.N,.m .s] [] [] [1] [609,610,611,612,613,614] rfl rfl rfl ⟨tt_,(fun σ k l _=>Stp.callSame (md:=.cm (.clo) [(609,610),(610,611),(611,612)] [(610,609),(611,610),(612,611)] [] [.d,.d,.d] [(609,.var (Qe c)),(610,.var (Qf e)),(611,.var (Qb f))] (.I g) [610,611,612]) Qp hC k l rfl ⟨⟨tt_,(Qpf _ _ _ i)⟩,⟨rfl,rfl,rfl,tt_⟩⟩)⟩ rfl (by kernel_rfl) rfl rfl rfl ?_
 refine Qa hC [.O 614 (.var (Qb g)),.n 11] rfl ⟨tt_,rfl⟩ ?_
 cases h
 exact d1_ rfl rfl ⟨rfl,rfl,rfl,rfl,rfl,rfl,tt_⟩
def QhD (a:Qm)(b:Qu)(c:Int):Option Int:=
 (QgW a b.Outs c).bind fun d=>
 some d
theorem Qpg (a b e){r}(h:QhD a b e=some r):Qc prog 134 [.loc 609 0 0,.loc 610 0 0,.loc 611 0 0] [(609,.var (Qe a)),(610,.var (Qf b)),(611,.var (Qb e))] (Qh (.I r) [(609,.var (Qe a)),(610,.var (Qf b)),(611,.var (Qb e))]):=by
 refine Qc.walk 9 func134 rfl rfl rfl fun C hC=>?_
 obtain⟨g,f,h⟩:=Qd h
 refine Qa hC [.n 7,.v .no [] (.agg (Qe a)),.n 3,.o (.c false [.d,.d,.d] (.I g)),.n 4] rfl ⟨⟨tt_,rfl⟩,(Ql9 _ _ _ f)⟩ ?_
 cases h
 exact d1_ rfl rfl ⟨rfl,rfl,rfl,tt_⟩
def Qeh (b:Qm)(c:Qu)(d:Int)(e:Int):Option (Bool×Int):=
 (QhD b c d).bind fun a=>
 some ((a==0),a)
theorem QmR (c e f j){r}(h:Qeh c e f j=some r):Qc prog 184 [.loc 609 0 0,.loc 613 0 0] [(609,.var [.clo (.func 134) [] [.loc 610 0 0,.loc 611 0 0,.loc 612 0 0]]),(610,.var (Qe c)),(611,.var (Qf e)),(612,.var (Qb f)),(613,.var [.loc 614 0 0]),(614,.var (Qb j))] (Qh (.b r.1) [(609,.var [.clo (.func 134) [] [.loc 610 0 0,.loc 611 0 0,.loc 612 0 0]]),(610,.var (Qe c)),(611,.var (Qf e)),(612,.var (Qb f)),(613,.var [.loc 614 0 0]),(614,.var (Qb r.2))]):=by
 refine Qc.walk 11 func184 rfl rfl rfl fun C hC=>?_
 obtain⟨g,i,h⟩:=Qd h
 refine tg_ hC [.n 6,.K [0,1] [609,610,611,612,613,614]] rfl ?_
 refine AK.draw2 Qp hC mixed [.N,.N,.a (.any (.I g) none) none false,.N,.m .s] [] [] [1] [609,610,611,612,613,614] rfl rfl rfl ⟨tt_,(fun σ k l _=>Stp.callSame (md:=.cm (.clo) [(609,610),(610,611),(611,612)] [(610,609),(611,610),(612,611)] [] [.d,.d,.d] [(609,.var (Qe c)),(610,.var (Qf e)),(611,.var (Qb f))] (.I g) [610,611,612]) Qp hC k l rfl ⟨⟨tt_,(Qpg _ _ _ i)⟩,⟨rfl,rfl,rfl,tt_⟩⟩)⟩ rfl (by kernel_rfl) rfl rfl rfl ?_
 refine Qa hC [.O 614 (.var (Qb g)),.n 11] rfl ⟨tt_,rfl⟩ ?_
 cases h
 exact d1_ rfl rfl ⟨rfl,rfl,rfl,rfl,rfl,rfl,tt_⟩
def QdN (a:Qm)(b:Int):Option Bool:=
 (Q8 a.Places b).bind fun c=>
 some c
theorem Qmq (a e){r}(h:QdN a e=some r):Qc prog 201 [.loc 609 0 0,.loc 610 0 0] [(609,.var (Qe a)),(610,.var (Qb e))] (Qh (.b r) [(609,.var (Qe a)),(610,.var (Qb e))]):=by
 refine Qc.walk 7 func201 rfl rfl rfl fun C hC=>?_
 obtain⟨g,f,h⟩:=Qd h
 refine Qa hC [.n 10,.o (.c false [.d,.d] (.b g)),.n 4] rfl ⟨tt_,(QaY _ _ f)⟩ ?_
 cases h
 exact d1_ rfl rfl ⟨rfl,rfl,tt_⟩
def QbE (b:(List Int))(c:Int)(a:Int):Option (Int⊕(Int⊕Unit)):=
 bif (decide (a<(b.length:Int)))then
 (idx b a).bind fun d=>
 bif (c==d)then
 some (.inr (.inl a))
 else
 some (.inl (w64 (a+1)))
 else
 some (.inr (.inr ()))
def QbF (a:Int):Option Int:=
 some a
def QbG : Option Int:=
 some (-1)
def Qcz (a:(List Int))(b:Int):Option Int:=
 (Qw (fun st=>QbE a b st) 0).bind (Sum.elim (fun q=>QbF q) (fun q=>QbG))
theorem QkG (c f){r}(h:Qcz c f=some r):Qc prog 232 [.sl 1 (c.map Qb),.I f] [] (Qh (.I r) []):=by
 refine Qc.walk 19 func232 rfl rfl rfl fun C hC=>?_
 refine Qa hC [.n 9,.o (.ln c.length),.n 4,.K [0,1,7,8] []] rfl ⟨tt_,Qi⟩ ?_
 obtain⟨g,d,h⟩:=Qd h
 refine AK.loop (body:=(fun st=>QbE c f st)) (fun st σ=>σ=⟨[(0,.sl 1 (c.map Qb)),(1,.I f),(7,.I (c.length:Int)),(8,.I st)],[]⟩) (Sum.elim (fun q e σ=>e=.ret∧σ=⟨[(4,.I q)],[]⟩) (fun q e σ=>e=.exit 0∧σ=⟨[],[]⟩)) d rfl ?_ ?_
 ·rintro l o σ rfl h
  refine tg_ hC [.n 6] rfl ?_
  rcases Qs h with⟨b,h⟩|⟨b,h⟩
  ·obtain⟨j,i,h⟩:=Qd h
   refine Qa hC [.T,.n 15,.o (.row (Qb j)),.n 4] rfl ⟨⟨tt_,b⟩,(QC i)⟩ ?_
   refine bg_ h (fun a h=>Qa hC [.T,.n 9,.K [4] []] rfl ⟨tt_,a⟩ ?_) fun a h=>Qa hC [.F,.n 7,.K [0,1,7,8] []] rfl ⟨tt_,a⟩ ?_
   ·cases h
    exact QaN rfl (an_ rfl rfl)
   cases h
   exact QU rfl rfl
  refine Qa hC [.F,.n 2,.K [] []] rfl ⟨tt_,b⟩ ?_
  cases h
  exact QV rfl (an_ rfl rfl)
 rcases g with(k | _)
 ·replace h:QbF k=some r:=h
  rintro e σ ⟨rfl,rfl⟩
  refine tg_ hC [.n 2] rfl ?_
  cases h
  exact d1_ rfl rfl tt_
 replace h:QbG=some r:=h
 rintro e σ ⟨rfl,rfl⟩
 refine tg_ hC [.n 8] rfl ?_
 cases h
 exact d1_ rfl rfl tt_
def QbH (a:(List Int))(b:Int):Option Bool:=
 (Qcz a b).bind fun c=>
 some (decide (0≤c))
theorem Qjv (e f){r}(h:QbH e f=some r):Qc prog 203 [.sl 1 (e.map Qb),.I f] [] (Qh (.b r) []):=by
 refine Qc.walk 9 func203 rfl rfl rfl fun C hC=>?_
 obtain⟨g,a,h⟩:=Qd h
 refine Qa hC [.n 9,.o (.c false [.d,.d] (.I g)),.n 5] rfl ⟨tt_,(QkG _ _ a)⟩ ?_
 cases h
 exact d1_ rfl rfl tt_
def QdO (b:(List Int))(a:Int)(c:Int):Option Bool:=
 (chk (decide (0≤a)&&decide (0≤a.toNat)&&decide (a.toNat≤b.length))).bind fun _=>
 (QbH ((b.drop 0).take (a.toNat-0)) c).bind fun d=>
 some (!d)
theorem Qmr (f g i){r}(h:QdO f g i=some r):Qc prog 202 [.loc 609 0 0,.loc 610 0 0,.loc 611 0 0] [(609,.var (Qk f)),(610,.var (Qb g)),(611,.var (Qb i))] (Qh (.b r) [(609,.var (Qk f)),(610,.var (Qb g)),(611,.var (Qb i))]):=by
 refine Qc.walk 10 func202 rfl rfl rfl fun C hC=>?_
 obtain⟨e,h⟩:=QaO h
 obtain⟨l,j,h⟩:=Qd h
 refine tg_ hC [.n 6,.K [0,1,2,3] [609,610,611]] rfl ?_
 refine AK.draw2 Qp hC mixed [.N,.N,.a (.any (.sl 1 (((f.drop 0).take (g.toNat-0)).map Qb)) none) none false,.N,.a (.c false [.d,.d] (.b l)) none false,.N,.m .s] [] [] [3] [609,610,611] rfl rfl rfl ⟨⟨tt_,(fun σ k o _=>Stp.sliceD rfl rfl (Qz hC.n rfl) (k _ _ rfl) (Qp.es rfl) Bnd.no (Bnd.val (k _ _ rfl) (Qab (Qod e)) rfl) (Qab (Qoe e)) (QcL (Qab (Qof e)) (Nat.le_of_eq Qi.symm)) QqA)⟩,(Qjv _ _ j)⟩ rfl (by kernel_rfl) rfl rfl rfl ?_
 refine tg_ hC [.n 2] rfl ?_
 cases h
 exact d1_ rfl rfl ⟨rfl,rfl,rfl,tt_⟩
def QfB (c:Qm)(b:Int)(d:Int)(e:(List Int))(f:Int)(g:Int):Option Int:=
 (QdN c b).bind fun h=>
 bif (!h)then
 some d
 else
 (QdO e f b).bind fun a=>
 bif (!a)then
 some g
 else
 some 0
theorem QnS (i e j k l m){r}(h:QfB i e j k l m=some r):Qc prog 64 [.own 609 2] [(609,.var [.clo (.func 201) [] [.loc 610 0 0,.loc 611 0 0],.I j,.clo (.func 202) [] [.loc 612 0 0,.loc 613 0 0,.loc 611 0 0],.I m]),(610,.var (Qe i)),(611,.var (Qb e)),(612,.var (Qk k)),(613,.var (Qb l))] (Qh (.I r) [(609,.var [.clo (.func 201) [] [.loc 610 0 0,.loc 611 0 0],.I j,.clo (.func 202) [] [.loc 612 0 0,.loc 613 0 0,.loc 611 0 0],.I m]),(610,.var (Qe i)),(611,.var (Qb e)),(612,.var (Qk k)),(613,.var (Qb l))]):=by
 refine Qc.walk 18 func64 rfl rfl rfl fun C hC=>?_
 refine tg_ hC [.n 14] rfl ?_
 refine AK.loopN 3 (AK.rnd ?_)
 obtain⟨t,p,h⟩:=Qd h
 refine Qa hC [.n 2,.v .no [] (.b true),.n 10,.o (.any (.loc 609 0 0) none),.n 3,.O 4 (.var [.clo (.func 201) [] [.loc 610 0 0,.loc 611 0 0],.I j]),.n 6,.cm (.clo) [(609,610),(610,611)] [(610,609),(611,610)] [] [.d,.d] [(609,.var (Qe i)),(610,.var (Qb e))] (.b t),.n 3] rfl ⟨⟨⟨⟨tt_,rfl⟩,(fun σ f q _=>Stp.idxV rfl rfl (Qz hC.n rfl) (f _ _ rfl) (f _ _ rfl) (Qp.es rfl) (q _ _ rfl) (by decide))⟩,rfl⟩,(Qmq _ _ p)⟩ ?_
 refine bg_ h (fun a h=>Qa hC [.T,.n 13,.K [2] [609,610,611,612,613]] rfl ⟨tt_,a⟩ ?_) fun a h=>Qa hC [.F,.n 4,.v .no [] (.I 1),.n 2] rfl ⟨⟨tt_,a⟩,rfl⟩ ?_
 ·cases h
  exact d1_ rfl rfl ⟨rfl,rfl,rfl,rfl,rfl,tt_⟩
 refine AK.met (AK.rnd ?_)
 obtain⟨s,g,h⟩:=Qd h
 refine Qa hC [.n 2,.v .no [] (.b true),.n 10,.o (.any (.loc 609 0 2) none),.n 1,.kill 4,.n 2,.O 4 (.var [.clo (.func 202) [] [.loc 612 0 0,.loc 613 0 0,.loc 611 0 0],.I m]),.n 6,.cm (.clo) [(609,612),(610,613),(611,611)] [(612,609),(613,610),(611,611)] [] [.d,.d,.d] [(609,.var (Qk k)),(610,.var (Qb l)),(611,.var (Qb e))] (.b s),.n 3] rfl ⟨⟨⟨⟨tt_,rfl⟩,(fun σ f q _=>Stp.idxV rfl rfl (Qz hC.n rfl) (f _ _ rfl) (f _ _ rfl) (Qp.es rfl) (q _ _ rfl) (by decide))⟩,rfl⟩,(Qmr _ _ _ g)⟩ ?_
 refine bg_ h (fun c h=>Qa hC [.T,.n 13,.K [2] [609,610,611,612,613]] rfl ⟨tt_,c⟩ ?_) fun c h=>Qa hC [.F,.n 4,.v .no [] (.I 2),.n 2] rfl ⟨⟨tt_,c⟩,rfl⟩ ?_
 ·cases h
  exact d1_ rfl rfl ⟨rfl,rfl,rfl,rfl,rfl,tt_⟩
 refine AK.met (AK.rnd ?_)
 refine Qa hC [.n 2,.v .no [] (.b false),.n 15] rfl ⟨tt_,rfl⟩ ?_
 cases h
 exact d1_ rfl rfl ⟨rfl,rfl,rfl,rfl,rfl,tt_⟩
def QeN (b:Int)(a:Int)(c:Qm)(d:(List Int)):Option Int:=
 (QfB c a 3 d b 5).bind fun e=>
 some e
theorem Qny (e a b c){r}(h:QeN e a b c=some r):Qc prog 200 [.I e,.I a,.loc 609 0 0,.loc 610 0 0] [(609,.var (Qe b)),(610,.var (Qk c))] (Qh (.I r) [(609,.var (Qe b)),(610,.var (Qk c))]):=by
 refine Qc.walk 13 func200 rfl rfl rfl fun C hC=>?_
 obtain⟨g,f,h⟩:=Qd h
 refine Qa hC [.n 10,.v .no [] (.agg [.clo (.func 201) [] [.loc 609 0 0,.loc 5 0 0],.I 3]),.n 1,.v .no [] (.agg [.clo (.func 202) [] [.loc 610 0 0,.loc 4 0 0,.loc 5 0 0],.I 5]),.o (.any (.own 11 2) (some (.var [.clo (.func 201) [] [.loc 609 0 0,.loc 5 0 0],.I 3,.clo (.func 202) [] [.loc 610 0 0,.loc 4 0 0,.loc 5 0 0],.I 5]))),.cm (.fn) [(609,11),(610,609),(611,5),(612,610),(613,4)] [(11,609),(609,610),(5,611),(610,612),(4,613)] [] [.d] [(609,.var [.clo (.func 201) [] [.loc 610 0 0,.loc 611 0 0],.I 3,.clo (.func 202) [] [.loc 612 0 0,.loc 613 0 0,.loc 611 0 0],.I 5]),(610,.var (Qe b)),(611,.var (Qb a)),(612,.var (Qk c)),(613,.var (Qb e))] (.I g),.n 4] rfl ⟨⟨⟨⟨tt_,rfl⟩,rfl⟩,(fun σ i j hf=>Stp.buildAny rfl rfl (Qz hC.n rfl) (Qp.es rfl) QjN rfl (by decide) (by decide) (Qdh i rfl) rfl rfl (hf rfl))⟩,(QnS _ _ _ _ _ _ f)⟩ ?_
 cases h
 exact d1_ rfl rfl ⟨rfl,rfl,tt_⟩
def QdP (d:(List Int))(e:Qm)(f:(List Int))(a:Int):Option (Int⊕((Int×Int)⊕Unit)):=
 bif (decide (a<(d.length:Int)))then
 (idx d a).bind fun c=>
 (QeN a c e f).bind fun b=>
 bif (b != 0)then
 some (.inr (.inl (a,b)))
 else
 some (.inl (w64 (a+1)))
 else
 some (.inr (.inr ()))
def QdQ (a:Int)(b:Int):Option (Int×Int):=
 some (a,b)
def QdR : Option (Int×Int):=
 some (0,0)
def QfC (a:(List Int))(b:Qm)(c:(List Int)):Option (Int×Int):=
 (Qw (fun st=>QdP a b c st) 0).bind (Sum.elim (fun q=>QdQ q.1 q.2) (fun q=>QdR))
theorem QnT (g c f){r}(h:QfC g c f=some r):Qc prog 199 [.sl 1 (g.map Qb),.clo (.func 200) [] [.loc 609 0 0,.loc 610 0 0]] [(609,.var (Qe c)),(610,.var (Qk f))] (Qh (.tup [.I r.1,.I r.2]) [(609,.var (Qe c)),(610,.var (Qk f))]):=by
 refine Qc.walk 25 func199 rfl rfl rfl fun C hC=>?_
 refine Qa hC [.n 10,.o (.ln g.length),.n 4,.K [1,9,10,11] [609,610]] rfl ⟨tt_,Qi⟩ ?_
 obtain⟨l,i,h⟩:=Qd h
 refine AK.loop (body:=(fun st=>QdP g c f st)) (fun st σ=>σ=⟨[(1,.clo (.func 200) [] [.loc 609 0 0,.loc 610 0 0]),(9,.sl 1 (g.map Qb)),(10,.I (g.length:Int)),(11,.I st)],[(609,.var (Qe c)),(610,.var (Qk f))]⟩) (Sum.elim (fun q e σ=>e=.ret∧σ=⟨[(4,.I q.1),(5,.I q.2)],[(609,.var (Qe c)),(610,.var (Qk f))]⟩) (fun q e σ=>e=.exit 0∧σ=⟨[],[(609,.var (Qe c)),(610,.var (Qk f))]⟩)) i rfl ?_ ?_
 ·rintro u o σ rfl h
  refine tg_ hC [.n 6] rfl ?_
  rcases Qs h with⟨a,h⟩|⟨a,h⟩
  ·obtain⟨m,j,h⟩:=Qd h
   obtain⟨p,k,h⟩:=Qd h
   refine Qa hC [.T,.n 7,.o (.row (Qb m)),.n 10,.cm (.clo) [(609,609),(610,610)] [(609,609),(610,610)] [] [.d,.d,.d,.d] [(609,.var (Qe c)),(610,.var (Qk f))] (.I p),.n 9] rfl ⟨⟨⟨tt_,a⟩,(QC j)⟩,(Qny _ _ _ _ k)⟩ ?_
   refine bg_ h (fun b h=>Qa hC [.T,.n 11,.K [4,5] [609,610]] rfl ⟨tt_,b⟩ ?_) fun b h=>Qa hC [.F,.n 7,.K [1,9,10,11] [609,610]] rfl ⟨tt_,b⟩ ?_
   ·cases h
    exact QaN rfl (an_ rfl rfl)
   cases h
   exact QU rfl rfl
  refine Qa hC [.F,.n 2,.K [] [609,610]] rfl ⟨tt_,a⟩ ?_
  cases h
  exact QV rfl (an_ rfl rfl)
 rcases l with(⟨s,t⟩|_)
 ·replace h:QdQ s t=some r:=h
  rintro e σ ⟨rfl,rfl⟩
  refine tg_ hC [.n 2] rfl ?_
  cases h
  exact d2_ rfl rfl rfl ⟨rfl,rfl,tt_⟩
 replace h:QdR=some r:=h
 rintro e σ ⟨rfl,rfl⟩
 refine tg_ hC [.n 9] rfl ?_
 cases h
 exact d2_ rfl rfl rfl ⟨rfl,rfl,tt_⟩
def Qgx (b:Qm)(a:(List Int)):Option Int:=
 (QfC a b a).bind fun c=>
 some c.2
theorem Qov (a b){r}(h:Qgx a b=some r):Qc prog 136 [.agg (Qe a),.sl 1 (b.map Qb)] [] (Qh (.I r) []):=by
 refine Qc.walk 14 func136 rfl rfl rfl fun C hC=>?_
 obtain⟨e,c,h⟩:=Qd h
 refine Qa hC [.n 11,.cm (.fn) [(609,2),(610,3)] [(2,609),(3,610)] [] [.d,.d] [(609,.var (Qe a)),(610,.var (Qk b))] (.tup [.I e.1,.I e.2]),.n 14] rfl ⟨tt_,(QnT _ _ _ c)⟩ ?_
 cases h
 exact d1_ rfl rfl tt_
def Qgy (a:Qm)(b:Qu):Option Int:=
 (Qgx a b.Cancel).bind fun c=>
 some c
theorem Qow (a b){r}(h:Qgy a b=some r):Qc prog 135 [.loc 609 0 0,.loc 610 0 0] [(609,.var (Qe a)),(610,.var (Qf b))] (Qh (.I r) [(609,.var (Qe a)),(610,.var (Qf b))]):=by
 refine Qc.walk 7 func135 rfl rfl rfl fun C hC=>?_
 obtain⟨f,e,h⟩:=Qd h
 refine Qa hC [.n 7,.v .no [] (.agg (Qe a)),.n 2,.o (.c false [.d,.d] (.I f)),.n 4] rfl ⟨⟨tt_,rfl⟩,(Qov _ _ e)⟩ ?_
 cases h
 exact d1_ rfl rfl ⟨rfl,rfl,tt_⟩
def Qei (b:Qm)(c:Qu)(d:Int):Option (Bool×Int):=
 (Qgy b c).bind fun a=>
 some ((a==0),a)
theorem QmS (c e i){r}(h:Qei c e i=some r):Qc prog 184 [.loc 609 0 0,.loc 612 0 0] [(609,.var [.clo (.func 135) [] [.loc 610 0 0,.loc 611 0 0]]),(610,.var (Qe c)),(611,.var (Qf e)),(612,.var [.loc 613 0 0]),(613,.var (Qb i))] (Qh (.b r.1) [(609,.var [.clo (.func 135) [] [.loc 610 0 0,.loc 611 0 0]]),(610,.var (Qe c)),(611,.var (Qf e)),(612,.var [.loc 613 0 0]),(613,.var (Qb r.2))]):=by
 refine Qc.walk 11 func184 rfl rfl rfl fun C hC=>?_
 obtain⟨f,g,h⟩:=Qd h
 refine tg_ hC [.n 6,.K [0,1] [609,610,611,612,613]] rfl ?_
 refine AK.draw2 Qp hC mixed [.N,.N,.a (.any (.I f) none) none false,.N,.m .s] [] [] [1] [609,610,611,612,613] rfl rfl rfl ⟨tt_,(fun σ j k _=>Stp.callSame (md:=.cm (.clo) [(609,610),(610,611)] [(610,609),(611,610)] [] [.d,.d] [(609,.var (Qe c)),(610,.var (Qf e))] (.I f) [610,611]) Qp hC j k rfl ⟨⟨tt_,(Qow _ _ g)⟩,⟨rfl,rfl,tt_⟩⟩)⟩ rfl (by kernel_rfl) rfl rfl rfl ?_
 refine Qa hC [.O 613 (.var (Qb f)),.n 11] rfl ⟨tt_,rfl⟩ ?_
 cases h
 exact d1_ rfl rfl ⟨rfl,rfl,rfl,rfl,rfl,tt_⟩
def QcT (a:Int)(b:(List QM)):Option Bool:=
 some ((decide (1≤a))&&((decide (a≤3))&&((a != 3)||(decide ((b.length:Int)≤4)))))
theorem QjY (a f){r}(h:QcT a f=some r):Qc prog 204 [.I a,.sl 4 (f.map QP)] [] (Qh (.b r) []):=by
 refine Qc.walk 20 func204 rfl rfl rfl fun C hC=>?_
 unfold QcT at h
 refine tg_ hC [.n 6] rfl ?_
 refine AK.meetX (fun σ=>σ=⟨[(4,.b ((decide (1≤a))&&((decide (a≤3))&&((a != 3)||(decide ((f.length:Int)≤4))))))],[]⟩) ?_ ?_
 ·refine tg_ hC [.n 4] rfl ?_
  rcases QQ (decide (1≤a))with c | c
  ·refine Qa hC [.S 7 (.b true),.n 4] rfl (tc_ c) ?_
   rcases QQ (decide (a≤3))with d | d
   ·refine Qa hC [.S 11 (.b true),.n 3] rfl (tc_ d) ?_
    rcases QQ (a != 3)with e | e
    ·refine Qa hC [.S 14 (.b true),.n 7,.S 4 (.b ((decide (1≤a))&&((decide (a≤3))&&((a != 3)||(decide ((f.length:Int)≤4)))))),.K [4] []] rfl ⟨(tc_ e),(congrArg V.b (Qbh c (Qbh d (orT e rfl))))⟩ ?_
     exact AK.met rfl
    refine Qa hC [.S 14 (.b false),.n 1,.o (.ln f.length),.n 5,.S 4 (.b ((decide (1≤a))&&((decide (a≤3))&&((a != 3)||(decide ((f.length:Int)≤4)))))),.K [4] []] rfl ⟨⟨(tc_ e),Qi⟩,(congrArg V.b (Qbh c (Qbh d (orF e rfl))))⟩ ?_
    exact AK.met rfl
   refine Qa hC [.S 11 (.b false),.n 10,.S 4 (.b ((decide (1≤a))&&((decide (a≤3))&&((a != 3)||(decide ((f.length:Int)≤4)))))),.K [4] []] rfl ⟨(tc_ d),(congrArg V.b (Qbh c (Qdf d rfl)))⟩ ?_
   exact AK.met rfl
  refine Qa hC [.S 7 (.b false),.n 14,.S 4 (.b ((decide (1≤a))&&((decide (a≤3))&&((a != 3)||(decide ((f.length:Int)≤4)))))),.K [4] []] rfl ⟨(tc_ c),(congrArg V.b (Qdf c rfl))⟩ ?_
  exact AK.met rfl
 rintro σ rfl
 refine tg_ hC [.n 2] rfl ?_
 cases h
 exact d1_ rfl rfl tt_
def Qlp (a:Qu):Option Bool:=
 (QcT a.Join a.Ins).bind fun b=>
 bif b then
 (QcT a.Split a.Outs).bind fun c=>
 bif c then
 bif (decide (0≤a.After))then
 bif (decide (a.After≤65536))then
 some (((a.Many.1==0)&&((a.Many.2.1==0)&&(a.Many.2.2==0)))||((decide (1≤a.Many.1))&&((decide (a.Many.1≤a.Many.2.1))&&((decide (a.Many.2.1≤16))&&((decide (1≤a.Many.2.2))&&(decide (a.Many.2.2≤a.Many.2.1)))))))
 else
 some false
 else
 some false
 else
 some false
 else
 some false
def QfD (a:Bool):Option Bool:=
 some a
def QfQ (a:Qu):Option Bool:=
 (Qlp a).bind (fun b=>QfD b)
theorem Qp1 (a){r}(h:QfQ a=some r):Qc prog 138 [.agg (Qf a)] [] (Qh (.b r) []):=by
 refine Qc.walk 70 func138 rfl rfl rfl fun C hC=>?_
 unfold QfQ at h
 refine tg_ hC [.n 7,.K [1] [1]] rfl ?_
 refine AK.draw2 Qp hC mixed [.N,.N,.N,.N,.N,.N,.N,.N,.N,.N,.N,.N] [] [] [1,3,4,5] [1] rfl rfl rfl tt_ rfl (by kernel_rfl) rfl rfl rfl ?_
 refine tg_ hC [.n 2] rfl ?_
 refine AK.meetX (fun σ=>σ=⟨[(1,.loc 1 0 0),(6,.b (((a.Many.1==0)&&((a.Many.2.1==0)&&(a.Many.2.2==0)))||((decide (1≤a.Many.1))&&((decide (a.Many.1≤a.Many.2.1))&&((decide (a.Many.2.1≤16))&&((decide (1≤a.Many.2.2))&&(decide (a.Many.2.2≤a.Many.2.1))))))))],[(1,.var (Qf a))]⟩) ?_ ?_
 ·refine Qa hC [.n 2,.v .no [] (.agg (Qrk a.Many)),.v .no [] (.agg (Qrk (0,0,0))),.o (.any (.b ((a.Many.1==0)&&((a.Many.2.1==0)&&(a.Many.2.2==0)))) none),.n 1] rfl ⟨⟨⟨tt_,rfl⟩,rfl⟩,(fun σ y z _=>Stp.eqAgg rfl rfl (Qz hC.n rfl) (y _ _ rfl) (y _ _ rfl) rfl rfl (Qv7 _ _ _ _ _ _))⟩ ?_
  rcases QQ ((a.Many.1==0)&&((a.Many.2.1==0)&&(a.Many.2.2==0)))with e | e
  ·refine Qa hC [.S 21 (.b true),.n 23,.S 6 (.b (((a.Many.1==0)&&((a.Many.2.1==0)&&(a.Many.2.2==0)))||((decide (1≤a.Many.1))&&((decide (a.Many.1≤a.Many.2.1))&&((decide (a.Many.2.1≤16))&&((decide (1≤a.Many.2.2))&&(decide (a.Many.2.2≤a.Many.2.1)))))))),.K [1,6] [1]] rfl ⟨(tc_ e),(congrArg V.b (orT e rfl))⟩ ?_
   exact AK.met rfl
  refine Qa hC [.S 21 (.b false),.n 3] rfl (tc_ e) ?_
  rcases QQ (decide (1≤a.Many.1))with f | f
  ·refine Qa hC [.S 24 (.b true),.n 5] rfl (tc_ f) ?_
   rcases QQ (decide (a.Many.1≤a.Many.2.1))with g | g
   ·refine Qa hC [.S 29 (.b true),.n 4] rfl (tc_ g) ?_
    rcases QQ (decide (a.Many.2.1≤16))with i | i
    ·refine Qa hC [.S 33 (.b true),.n 4] rfl (tc_ i) ?_
     rcases QQ (decide (1≤a.Many.2.2))with j | j
     ·refine Qa hC [.S 37 (.b true),.n 7,.S 6 (.b (((a.Many.1==0)&&((a.Many.2.1==0)&&(a.Many.2.2==0)))||((decide (1≤a.Many.1))&&((decide (a.Many.1≤a.Many.2.1))&&((decide (a.Many.2.1≤16))&&((decide (1≤a.Many.2.2))&&(decide (a.Many.2.2≤a.Many.2.1)))))))),.K [1,6] [1]] rfl ⟨(tc_ j),(congrArg V.b (orF e (Qbh f (Qbh g (Qbh i (Qbh j rfl))))))⟩ ?_
      exact AK.met rfl
     refine Qa hC [.S 37 (.b false),.n 7,.S 6 (.b (((a.Many.1==0)&&((a.Many.2.1==0)&&(a.Many.2.2==0)))||((decide (1≤a.Many.1))&&((decide (a.Many.1≤a.Many.2.1))&&((decide (a.Many.2.1≤16))&&((decide (1≤a.Many.2.2))&&(decide (a.Many.2.2≤a.Many.2.1)))))))),.K [1,6] [1]] rfl ⟨(tc_ j),(congrArg V.b (orF e (Qbh f (Qbh g (Qbh i (Qdf j rfl))))))⟩ ?_
     exact AK.met rfl
    refine Qa hC [.S 33 (.b false),.n 11,.S 6 (.b (((a.Many.1==0)&&((a.Many.2.1==0)&&(a.Many.2.2==0)))||((decide (1≤a.Many.1))&&((decide (a.Many.1≤a.Many.2.1))&&((decide (a.Many.2.1≤16))&&((decide (1≤a.Many.2.2))&&(decide (a.Many.2.2≤a.Many.2.1)))))))),.K [1,6] [1]] rfl ⟨(tc_ i),(congrArg V.b (orF e (Qbh f (Qbh g (Qdf i rfl)))))⟩ ?_
    exact AK.met rfl
   refine Qa hC [.S 29 (.b false),.n 15,.S 6 (.b (((a.Many.1==0)&&((a.Many.2.1==0)&&(a.Many.2.2==0)))||((decide (1≤a.Many.1))&&((decide (a.Many.1≤a.Many.2.1))&&((decide (a.Many.2.1≤16))&&((decide (1≤a.Many.2.2))&&(decide (a.Many.2.2≤a.Many.2.1)))))))),.K [1,6] [1]] rfl ⟨(tc_ g),(congrArg V.b (orF e (Qbh f (Qdf g rfl))))⟩ ?_
   exact AK.met rfl
  refine Qa hC [.S 24 (.b false),.n 20,.S 6 (.b (((a.Many.1==0)&&((a.Many.2.1==0)&&(a.Many.2.2==0)))||((decide (1≤a.Many.1))&&((decide (a.Many.1≤a.Many.2.1))&&((decide (a.Many.2.1≤16))&&((decide (1≤a.Many.2.2))&&(decide (a.Many.2.2≤a.Many.2.1)))))))),.K [1,6] [1]] rfl ⟨(tc_ f),(congrArg V.b (orF e (Qdf f rfl)))⟩ ?_
  exact AK.met rfl
 rintro σ rfl
 refine tg_ hC [.n 7] rfl ?_
 obtain⟨u,q,h⟩:=Qd h
 replace h:QfD u=some r:=h
 refine AK.meetX (fun σ=>σ=⟨[(2,.b u)],[]⟩) ?_ ?_
 ·replace h:=q
  obtain⟨w,s,h⟩:=Qd h
  refine Qa hC [.n 6,.o (.c false [.d,.d] (.b w)),.n 1] rfl ⟨tt_,(QjY _ _ s)⟩ ?_
  rcases Qs h with⟨k,h⟩|⟨k,h⟩
  ·obtain⟨x,t,h⟩:=Qd h
   refine Qa hC [.S 49 (.b true),.n 5,.o (.c false [.d,.d] (.b x)),.n 2] rfl ⟨(tc_ k),(QjY _ _ t)⟩ ?_
   refine bg_ h (fun l h=>Qa hC [.S 57 (.b true),.n 5] rfl (tc_ l) ?_) fun l h=>Qa hC [.S 57 (.b false),.n 14,.K [2] []] rfl (tc_ l) ?_
   ·refine bg_ h (fun m h=>Qa hC [.S 62 (.b true),.n 5] rfl (tc_ m) ?_) fun m h=>Qa hC [.S 62 (.b false),.n 9,.K [2] []] rfl (tc_ m) ?_
    ·refine bg_ h (fun p h=>Qa hC [.S 67 (.b true),.n 4,.K [2] []] rfl (tc_ p) ?_) fun p h=>Qa hC [.S 67 (.b false),.n 4,.K [2] []] rfl (tc_ p) ?_
     ·cases h
      exact AK.met rfl
     cases h
     exact AK.met rfl
    cases h
    exact AK.met rfl
   cases h
   exact AK.met rfl
  refine Qa hC [.S 49 (.b false),.n 22,.K [2] []] rfl (tc_ k) ?_
  cases h
  exact AK.met rfl
 rintro σ rfl
 replace h:QfD u=some r:=h
 refine tg_ hC [.n 2] rfl ?_
 cases h
 exact d1_ rfl rfl tt_
def Qgz (a:Qu):Option Bool:=
 (QfQ a).bind fun b=>
 some b
theorem Qox (a){r}(h:Qgz a=some r):Qc prog 137 [.loc 609 0 0] [(609,.var (Qf a))] (Qh (.b r) [(609,.var (Qf a))]):=by
 refine Qc.walk 4 func137 rfl rfl rfl fun C hC=>?_
 obtain⟨f,e,h⟩:=Qd h
 refine Qa hC [.n 7,.v .no [] (.agg (Qf a)),.o (.c false [.d] (.b f)),.n 4] rfl ⟨⟨tt_,rfl⟩,(Qp1 _ e)⟩ ?_
 cases h
 exact d1_ rfl rfl ⟨rfl,tt_⟩
def QdD (b:Qu)(v:Int)(f:Qm)(u:Int)(w:Int)(g:Int)(x:Int)(h:Int)(y:Int)(i:Int)(j:Int)(k:Int)(l:Int)(m:Int)(n:Int):Option (Int×Int):=
 (Qhu b).bind fun o=>
 bif (!o)then
 some (v,h)
 else
 (Qhw f u b).bind fun p=>
 bif (!p)then
 some (w,h)
 else
 (QeZ g b).bind fun q=>
 bif (!q)then
 some (x,h)
 else
 (Qgu f b h).bind fun a=>
 bif (!a.1)then
 some (y,a.2)
 else
 (Qhy f u).bind fun r=>
 bif (!r)then
 some (i,a.2)
 else
 (QhA b g).bind fun s=>
 bif (!s)then
 some (j,a.2)
 else
 (Qeg f b g a.2).bind fun d=>
 bif (!d.1)then
 some (k,d.2)
 else
 (Qeh f b g d.2).bind fun e=>
 bif (!e.1)then
 some (l,e.2)
 else
 (Qei f b e.2).bind fun c=>
 bif (!c.1)then
 some (m,c.2)
 else
 (Qgz b).bind fun t=>
 bif (!t)then
 some (n,c.2)
 else
 some (0,c.2)
theorem QnU (e v2 t D v5 B v7 v8 v9 u w x y z A){r}(h:QdD e v2 t D v5 B v7 v8 v9 u w x y z A=some r):Qc prog 64 [.own 609 10] [(609,.var [.clo (.func 122) [] [.loc 610 0 0],.I v2,.clo (.func 123) [] [.loc 611 0 0,.loc 612 0 0,.loc 613 0 0],.I v5,.clo (.func 125) [] [.loc 614 0 0,.loc 610 0 0],.I v7,.clo (.func 184) [] [.loc 615 0 0,.loc 616 0 0],.I v9,.clo (.func 129) [] [.loc 611 0 0,.loc 612 0 0],.I u,.clo (.func 130) [] [.loc 610 0 0,.loc 614 0 0],.I w,.clo (.func 184) [] [.loc 618 0 0,.loc 619 0 0],.I x,.clo (.func 184) [] [.loc 620 0 0,.loc 621 0 0],.I y,.clo (.func 184) [] [.loc 622 0 0,.loc 623 0 0],.I z,.clo (.func 137) [] [.loc 610 0 0],.I A]),(610,.var (Qf e)),(611,.var (Qe t)),(612,.var (Qb D)),(613,.var [.clo (.func 121) [] [.loc 610 0 0]]),(614,.var (Qb B)),(615,.var [.clo (.func 127) [] [.loc 611 0 0,.loc 610 0 0]]),(616,.var [.loc 617 0 0]),(617,.var (Qb v8)),(618,.var [.clo (.func 132) [] [.loc 611 0 0,.loc 610 0 0,.loc 614 0 0]]),(619,.var [.loc 617 0 0]),(620,.var [.clo (.func 134) [] [.loc 611 0 0,.loc 610 0 0,.loc 614 0 0]]),(621,.var [.loc 617 0 0]),(622,.var [.clo (.func 135) [] [.loc 611 0 0,.loc 610 0 0]]),(623,.var [.loc 617 0 0])] (Qh (.I r.1) [(609,.var [.clo (.func 122) [] [.loc 610 0 0],.I v2,.clo (.func 123) [] [.loc 611 0 0,.loc 612 0 0,.loc 613 0 0],.I v5,.clo (.func 125) [] [.loc 614 0 0,.loc 610 0 0],.I v7,.clo (.func 184) [] [.loc 615 0 0,.loc 616 0 0],.I v9,.clo (.func 129) [] [.loc 611 0 0,.loc 612 0 0],.I u,.clo (.func 130) [] [.loc 610 0 0,.loc 614 0 0],.I w,.clo (.func 184) [] [.loc 618 0 0,.loc 619 0 0],.I x,.clo (.func 184) [] [.loc 620 0 0,.loc 621 0 0],.I y,.clo (.func 184) [] [.loc 622 0 0,.loc 623 0 0],.I z,.clo (.func 137) [] [.loc 610 0 0],.I A]),(610,.var (Qf e)),(611,.var (Qe t)),(612,.var (Qb D)),(613,.var [.clo (.func 121) [] [.loc 610 0 0]]),(614,.var (Qb B)),(615,.var [.clo (.func 127) [] [.loc 611 0 0,.loc 610 0 0]]),(616,.var [.loc 617 0 0]),(617,.var (Qb r.2)),(618,.var [.clo (.func 132) [] [.loc 611 0 0,.loc 610 0 0,.loc 614 0 0]]),(619,.var [.loc 617 0 0]),(620,.var [.clo (.func 134) [] [.loc 611 0 0,.loc 610 0 0,.loc 614 0 0]]),(621,.var [.loc 617 0 0]),(622,.var [.clo (.func 135) [] [.loc 611 0 0,.loc 610 0 0]]),(623,.var [.loc 617 0 0])]):=by
 refine Qc.walk 18 func64 rfl rfl rfl fun C hC=>?_
 refine tg_ hC [.n 14] rfl ?_
 refine AK.loopN 11 (AK.rnd ?_)
 obtain⟨a0,E,h⟩:=Qd h
 refine Qa hC [.n 2,.v .no [] (.b true),.n 10,.o (.any (.loc 609 0 0) none),.n 3,.O 4 (.var [.clo (.func 122) [] [.loc 610 0 0],.I v2]),.n 6,.cm (.clo) [(609,610)] [(610,609)] [] [.d] [(609,.var (Qf e))] (.b a0),.n 3] rfl ⟨⟨⟨⟨tt_,rfl⟩,(fun σ a c _=>Stp.idxV rfl rfl (Qz hC.n rfl) (a _ _ rfl) (a _ _ rfl) (Qp.es rfl) (c _ _ rfl) (by decide))⟩,rfl⟩,(Qo4 _ E)⟩ ?_
 refine bg_ h (fun f h=>Qa hC [.T,.n 13,.K [2] [609,610,611,612,613,614,615,616,617,618,619,620,621,622,623]] rfl ⟨tt_,f⟩ ?_) fun f h=>Qa hC [.F,.n 4,.v .no [] (.I 1),.n 2] rfl ⟨⟨tt_,f⟩,rfl⟩ ?_
 ·cases h
  exact d1_ rfl rfl ⟨rfl,rfl,rfl,rfl,rfl,rfl,rfl,rfl,rfl,rfl,rfl,rfl,rfl,rfl,rfl,tt_⟩
 refine AK.met (AK.rnd ?_)
 obtain⟨a1,G,h⟩:=Qd h
 refine Qa hC [.n 2,.v .no [] (.b true),.n 10,.o (.any (.loc 609 0 2) none),.n 1,.kill 4,.n 2,.O 4 (.var [.clo (.func 123) [] [.loc 611 0 0,.loc 612 0 0,.loc 613 0 0],.I v5]),.n 6,.cm (.clo) [(609,611),(610,612),(611,613),(612,610)] [(611,609),(612,610),(613,611),(610,612)] [] [.d,.d,.d] [(609,.var (Qe t)),(610,.var (Qb D)),(611,.var [.clo (.func 121) [] [.loc 612 0 0]]),(612,.var (Qf e))] (.b a1),.n 3] rfl ⟨⟨⟨⟨tt_,rfl⟩,(fun σ a c _=>Stp.idxV rfl rfl (Qz hC.n rfl) (a _ _ rfl) (a _ _ rfl) (Qp.es rfl) (c _ _ rfl) (by decide))⟩,rfl⟩,(Qo6 _ _ _ G)⟩ ?_
 refine bg_ h (fun g h=>Qa hC [.T,.n 13,.K [2] [609,610,611,612,613,614,615,616,617,618,619,620,621,622,623]] rfl ⟨tt_,g⟩ ?_) fun g h=>Qa hC [.F,.n 4,.v .no [] (.I 2),.n 2] rfl ⟨⟨tt_,g⟩,rfl⟩ ?_
 ·cases h
  exact d1_ rfl rfl ⟨rfl,rfl,rfl,rfl,rfl,rfl,rfl,rfl,rfl,rfl,rfl,rfl,rfl,rfl,rfl,tt_⟩
 refine AK.met (AK.rnd ?_)
 obtain⟨a2,H,h⟩:=Qd h
 refine Qa hC [.n 2,.v .no [] (.b true),.n 10,.o (.any (.loc 609 0 4) none),.n 1,.kill 4,.n 2,.O 4 (.var [.clo (.func 125) [] [.loc 614 0 0,.loc 610 0 0],.I v7]),.n 6,.cm (.clo) [(609,614),(610,610)] [(614,609),(610,610)] [] [.d,.d] [(609,.var (Qb B)),(610,.var (Qf e))] (.b a2),.n 3] rfl ⟨⟨⟨⟨tt_,rfl⟩,(fun σ a c _=>Stp.idxV rfl rfl (Qz hC.n rfl) (a _ _ rfl) (a _ _ rfl) (Qp.es rfl) (c _ _ rfl) (by decide))⟩,rfl⟩,(Qo7 _ _ H)⟩ ?_
 refine bg_ h (fun i h=>Qa hC [.T,.n 13,.K [2] [609,610,611,612,613,614,615,616,617,618,619,620,621,622,623]] rfl ⟨tt_,i⟩ ?_) fun i h=>Qa hC [.F,.n 4,.v .no [] (.I 3),.n 2] rfl ⟨⟨tt_,i⟩,rfl⟩ ?_
 ·cases h
  exact d1_ rfl rfl ⟨rfl,rfl,rfl,rfl,rfl,rfl,rfl,rfl,rfl,rfl,rfl,rfl,rfl,rfl,rfl,tt_⟩
 refine AK.met (AK.rnd ?_)
 obtain⟨J,L,h⟩:=Qd h
 refine Qa hC [.n 2,.v .no [] (.b true),.n 10,.o (.any (.loc 609 0 6) none),.n 1,.kill 4,.n 2,.O 4 (.var [.clo (.func 184) [] [.loc 615 0 0,.loc 616 0 0],.I v9]),.n 6,.cm (.clo) [(609,615),(610,611),(611,610),(612,616),(613,617)] [(615,609),(611,610),(610,611),(616,612),(617,613)] [] [.d,.d] [(609,.var [.clo (.func 127) [] [.loc 610 0 0,.loc 611 0 0]]),(610,.var (Qe t)),(611,.var (Qf e)),(612,.var [.loc 613 0 0]),(613,.var (Qb J.2))] (.b J.1),.n 3] rfl ⟨⟨⟨⟨tt_,rfl⟩,(fun σ a c _=>Stp.idxV rfl rfl (Qz hC.n rfl) (a _ _ rfl) (a _ _ rfl) (Qp.es rfl) (c _ _ rfl) (by decide))⟩,rfl⟩,(Qou _ _ _ L)⟩ ?_
 refine bg_ h (fun j h=>Qa hC [.T,.n 13,.K [2] [609,610,611,612,613,614,615,616,617,618,619,620,621,622,623]] rfl ⟨tt_,j⟩ ?_) fun j h=>Qa hC [.F,.n 4,.v .no [] (.I 4),.n 2] rfl ⟨⟨tt_,j⟩,rfl⟩ ?_
 ·cases h
  exact d1_ rfl rfl ⟨rfl,rfl,rfl,rfl,rfl,rfl,rfl,rfl,rfl,rfl,rfl,rfl,rfl,rfl,rfl,tt_⟩
 refine AK.met (AK.rnd ?_)
 obtain⟨a3,M,h⟩:=Qd h
 refine Qa hC [.n 2,.v .no [] (.b true),.n 10,.o (.any (.loc 609 0 8) none),.n 1,.kill 4,.n 2,.O 4 (.var [.clo (.func 129) [] [.loc 611 0 0,.loc 612 0 0],.I u]),.n 6,.cm (.clo) [(609,611),(610,612)] [(611,609),(612,610)] [] [.d,.d] [(609,.var (Qe t)),(610,.var (Qb D))] (.b a3),.n 3] rfl ⟨⟨⟨⟨tt_,rfl⟩,(fun σ a c _=>Stp.idxV rfl rfl (Qz hC.n rfl) (a _ _ rfl) (a _ _ rfl) (Qp.es rfl) (c _ _ rfl) (by decide))⟩,rfl⟩,(Qo9 _ _ M)⟩ ?_
 refine bg_ h (fun k h=>Qa hC [.T,.n 13,.K [2] [609,610,611,612,613,614,615,616,617,618,619,620,621,622,623]] rfl ⟨tt_,k⟩ ?_) fun k h=>Qa hC [.F,.n 4,.v .no [] (.I 5),.n 2] rfl ⟨⟨tt_,k⟩,rfl⟩ ?_
 ·cases h
  exact d1_ rfl rfl ⟨rfl,rfl,rfl,rfl,rfl,rfl,rfl,rfl,rfl,rfl,rfl,rfl,rfl,rfl,rfl,tt_⟩
 refine AK.met (AK.rnd ?_)
 obtain⟨a4,N,h⟩:=Qd h
 refine Qa hC [.n 2,.v .no [] (.b true),.n 10,.o (.any (.loc 609 0 10) none),.n 1,.kill 4,.n 2,.O 4 (.var [.clo (.func 130) [] [.loc 610 0 0,.loc 614 0 0],.I w]),.n 6,.cm (.clo) [(609,610),(610,614)] [(610,609),(614,610)] [] [.d,.d] [(609,.var (Qf e)),(610,.var (Qb B))] (.b a4),.n 3] rfl ⟨⟨⟨⟨tt_,rfl⟩,(fun σ a c _=>Stp.idxV rfl rfl (Qz hC.n rfl) (a _ _ rfl) (a _ _ rfl) (Qp.es rfl) (c _ _ rfl) (by decide))⟩,rfl⟩,(Qpd _ _ N)⟩ ?_
 refine bg_ h (fun l h=>Qa hC [.T,.n 13,.K [2] [609,610,611,612,613,614,615,616,617,618,619,620,621,622,623]] rfl ⟨tt_,l⟩ ?_) fun l h=>Qa hC [.F,.n 4,.v .no [] (.I 6),.n 2] rfl ⟨⟨tt_,l⟩,rfl⟩ ?_
 ·cases h
  exact d1_ rfl rfl ⟨rfl,rfl,rfl,rfl,rfl,rfl,rfl,rfl,rfl,rfl,rfl,rfl,rfl,rfl,rfl,tt_⟩
 refine AK.met (AK.rnd ?_)
 obtain⟨P,S,h⟩:=Qd h
 refine Qa hC [.n 2,.v .no [] (.b true),.n 10,.o (.any (.loc 609 0 12) none),.n 1,.kill 4,.n 2,.O 4 (.var [.clo (.func 184) [] [.loc 618 0 0,.loc 619 0 0],.I x]),.n 6,.cm (.clo) [(609,618),(610,611),(611,610),(612,614),(613,619),(614,617)] [(618,609),(611,610),(610,611),(614,612),(619,613),(617,614)] [] [.d,.d] [(609,.var [.clo (.func 132) [] [.loc 610 0 0,.loc 611 0 0,.loc 612 0 0]]),(610,.var (Qe t)),(611,.var (Qf e)),(612,.var (Qb B)),(613,.var [.loc 614 0 0]),(614,.var (Qb P.2))] (.b P.1),.n 3] rfl ⟨⟨⟨⟨tt_,rfl⟩,(fun σ a c _=>Stp.idxV rfl rfl (Qz hC.n rfl) (a _ _ rfl) (a _ _ rfl) (Qp.es rfl) (c _ _ rfl) (by decide))⟩,rfl⟩,(QmQ _ _ _ _ S)⟩ ?_
 refine bg_ h (fun m h=>Qa hC [.T,.n 13,.K [2] [609,610,611,612,613,614,615,616,617,618,619,620,621,622,623]] rfl ⟨tt_,m⟩ ?_) fun m h=>Qa hC [.F,.n 4,.v .no [] (.I 7),.n 2] rfl ⟨⟨tt_,m⟩,rfl⟩ ?_
 ·cases h
  exact d1_ rfl rfl ⟨rfl,rfl,rfl,rfl,rfl,rfl,rfl,rfl,rfl,rfl,rfl,rfl,rfl,rfl,rfl,tt_⟩
 refine AK.met (AK.rnd ?_)
 obtain⟨U,W,h⟩:=Qd h
 refine Qa hC [.n 2,.v .no [] (.b true),.n 10,.o (.any (.loc 609 0 14) none),.n 1,.kill 4,.n 2,.O 4 (.var [.clo (.func 184) [] [.loc 620 0 0,.loc 621 0 0],.I y]),.n 6,.cm (.clo) [(609,620),(610,611),(611,610),(612,614),(613,621),(614,617)] [(620,609),(611,610),(610,611),(614,612),(621,613),(617,614)] [] [.d,.d] [(609,.var [.clo (.func 134) [] [.loc 610 0 0,.loc 611 0 0,.loc 612 0 0]]),(610,.var (Qe t)),(611,.var (Qf e)),(612,.var (Qb B)),(613,.var [.loc 614 0 0]),(614,.var (Qb U.2))] (.b U.1),.n 3] rfl ⟨⟨⟨⟨tt_,rfl⟩,(fun σ a c _=>Stp.idxV rfl rfl (Qz hC.n rfl) (a _ _ rfl) (a _ _ rfl) (Qp.es rfl) (c _ _ rfl) (by decide))⟩,rfl⟩,(QmR _ _ _ _ W)⟩ ?_
 refine bg_ h (fun p h=>Qa hC [.T,.n 13,.K [2] [609,610,611,612,613,614,615,616,617,618,619,620,621,622,623]] rfl ⟨tt_,p⟩ ?_) fun p h=>Qa hC [.F,.n 4,.v .no [] (.I 8),.n 2] rfl ⟨⟨tt_,p⟩,rfl⟩ ?_
 ·cases h
  exact d1_ rfl rfl ⟨rfl,rfl,rfl,rfl,rfl,rfl,rfl,rfl,rfl,rfl,rfl,rfl,rfl,rfl,rfl,tt_⟩
 refine AK.met (AK.rnd ?_)
 obtain⟨X,Y,h⟩:=Qd h
 refine Qa hC [.n 2,.v .no [] (.b true),.n 10,.o (.any (.loc 609 0 16) none),.n 1,.kill 4,.n 2,.O 4 (.var [.clo (.func 184) [] [.loc 622 0 0,.loc 623 0 0],.I z]),.n 6,.cm (.clo) [(609,622),(610,611),(611,610),(612,623),(613,617)] [(622,609),(611,610),(610,611),(623,612),(617,613)] [] [.d,.d] [(609,.var [.clo (.func 135) [] [.loc 610 0 0,.loc 611 0 0]]),(610,.var (Qe t)),(611,.var (Qf e)),(612,.var [.loc 613 0 0]),(613,.var (Qb X.2))] (.b X.1),.n 3] rfl ⟨⟨⟨⟨tt_,rfl⟩,(fun σ a c _=>Stp.idxV rfl rfl (Qz hC.n rfl) (a _ _ rfl) (a _ _ rfl) (Qp.es rfl) (c _ _ rfl) (by decide))⟩,rfl⟩,(QmS _ _ _ Y)⟩ ?_
 refine bg_ h (fun q h=>Qa hC [.T,.n 13,.K [2] [609,610,611,612,613,614,615,616,617,618,619,620,621,622,623]] rfl ⟨tt_,q⟩ ?_) fun q h=>Qa hC [.F,.n 4,.v .no [] (.I 9),.n 2] rfl ⟨⟨tt_,q⟩,rfl⟩ ?_
 ·cases h
  exact d1_ rfl rfl ⟨rfl,rfl,rfl,rfl,rfl,rfl,rfl,rfl,rfl,rfl,rfl,rfl,rfl,rfl,rfl,tt_⟩
 refine AK.met (AK.rnd ?_)
 obtain⟨a5,Z,h⟩:=Qd h
 refine Qa hC [.n 2,.v .no [] (.b true),.n 10,.o (.any (.loc 609 0 18) none),.n 1,.kill 4,.n 2,.O 4 (.var [.clo (.func 137) [] [.loc 610 0 0],.I A]),.n 6,.cm (.clo) [(609,610)] [(610,609)] [] [.d] [(609,.var (Qf e))] (.b a5),.n 3] rfl ⟨⟨⟨⟨tt_,rfl⟩,(fun σ a c _=>Stp.idxV rfl rfl (Qz hC.n rfl) (a _ _ rfl) (a _ _ rfl) (Qp.es rfl) (c _ _ rfl) (by decide))⟩,rfl⟩,(Qox _ Z)⟩ ?_
 refine bg_ h (fun s h=>Qa hC [.T,.n 13,.K [2] [609,610,611,612,613,614,615,616,617,618,619,620,621,622,623]] rfl ⟨tt_,s⟩ ?_) fun s h=>Qa hC [.F,.n 4,.v .no [] (.I 10),.n 2] rfl ⟨⟨tt_,s⟩,rfl⟩ ?_
 ·cases h
  exact d1_ rfl rfl ⟨rfl,rfl,rfl,rfl,rfl,rfl,rfl,rfl,rfl,rfl,rfl,rfl,rfl,rfl,rfl,tt_⟩
 refine AK.met (AK.rnd ?_)
 refine Qa hC [.n 2,.v .no [] (.b false),.n 15] rfl ⟨tt_,rfl⟩ ?_
 cases h
 exact d1_ rfl rfl ⟨rfl,rfl,rfl,rfl,rfl,rfl,rfl,rfl,rfl,rfl,rfl,rfl,rfl,rfl,rfl,tt_⟩
def Qbn (a:Qm)(e:Int):Option Int:=
 (Qbm a.Tasks e).bind fun g=>
 bif (!g)then
 some 3
 else
 (Qef a).bind fun f=>
 bif (f.2 != 0)then
 some f.2
 else
 (idx a.Tasks e).bind fun d=>
 (idx a.Tasks e).bind fun b=>
 (Qip 0 a d).bind fun h=>
 (Qfq 0 a d (b.Vars.length:Int)).bind fun i=>
 (Qfr 0 a d (b.Vars.length:Int)).bind fun j=>
 (Qfs 0 a d).bind fun k=>
 (QdD d 1 a e 5 (b.Vars.length:Int) 2 0 (-1) 2 1 (-1) (-1) (-1) 11).bind fun c=>
 bif (c.1==(-1))then
 some c.2
 else
 some c.1
theorem QqI (g y){r}(h:Qbn g y=some r):Qc prog 75 [.agg (Qe g),.I y] [] (Qh (.I r) []):=by
 refine Qc.walk 68 func75 rfl rfl rfl fun C hC=>?_
 obtain⟨E,z,h⟩:=Qd h
 refine Qa hC [.n 13,.o (.c false [.d,.d] (.b E)),.n 3] rfl ⟨tt_,(Qgt _ _ z)⟩ ?_
 rcases Qs h with⟨j,h⟩|⟨j,h⟩
 ·refine Qa hC [.T,.n 7] rfl ⟨tt_,j⟩ ?_
  cases h
  exact d1_ rfl rfl tt_
 obtain⟨D,A,h⟩:=Qd h
 refine Qa hC [.F,.n 5,.v .no [] (.agg (Qe g)),.o (.c false [.d] (.tup [.I D.1,.I D.2])),.n 13] rfl ⟨⟨⟨tt_,j⟩,rfl⟩,(QjX _ A)⟩ ?_
 rcases Qs h with⟨k,h⟩|⟨k,h⟩
 ·refine Qa hC [.T,.n 8] rfl ⟨tt_,k⟩ ?_
  cases h
  exact d1_ rfl rfl tt_
 obtain⟨i,B,h⟩:=Qd h
 obtain⟨e,l,h⟩:=Qd h
 refine Qa hC [.F,.n 3,.K [2,3] [2,3]] rfl ⟨tt_,k⟩ ?_
 refine AK.draw2 Qp hC mixed [.N,.N,.N,.a (.row (Qf i)) none false,.a .no (some ([],.agg (Qf i))) false,.a .no none true,.a .no none true,.a .no none true,.a (.row (Qf e)) none true,.a .no none true,.a .no none true,.a (.ln e.Vars.length) none true,.N,.N,.m .s,.m .s] [2,3] [2,3] [2,3,7,8] [2,3,7,8] rfl rfl rfl ⟨⟨⟨⟨tt_,(QC B)⟩,rfl⟩,(QC l)⟩,Qi⟩ rfl (by kernel_rfl) rfl rfl rfl ?_
 obtain⟨G,p,h⟩:=Qd h
 obtain⟨H,q,h⟩:=Qd h
 obtain⟨J,t,h⟩:=Qd h
 obtain⟨L,u,h⟩:=Qd h
 obtain⟨w,x,h⟩:=Qd h
 refine Qa hC [.O 7 (.var (Qf i)),.O 8 (.var (Qb (e.Vars.length:Int))),.n 6,.O 9 (.var [.clo (.func 121) [] [.loc 7 0 0]]),.n 10,.v .no [] (.agg [.clo (.func 122) [] [.loc 7 0 0],.I 1]),.n 1,.v .no [] (.agg [.clo (.func 123) [] [.loc 2 0 0,.loc 3 0 0,.loc 9 0 0],.I 5]),.n 1,.v .no [] (.agg [.clo (.func 125) [] [.loc 8 0 0,.loc 7 0 0],.I 2]),.n 1,.cm (.fn) [(609,10),(610,2),(611,7)] [(45,2),(603,3),(10,609),(2,610),(7,611)] [] [.d,.d] [(2,.var [.loc 609 0 0]),(3,.var [.clo (.func 127) [] [.loc 610 0 0,.loc 611 0 0]]),(609,.var (Qb 0)),(610,.var (Qe g)),(611,.var (Qf i))] (.clo (.func 184) [] [.loc 3 0 0,.loc 2 0 0]),.v .no [] (.agg [.clo (.func 184) [] [.loc 603 0 0,.loc 45 0 0],.I (-1)]),.n 1,.v .no [] (.agg [.clo (.func 129) [] [.loc 2 0 0,.loc 3 0 0],.I 2]),.n 1,.v .no [] (.agg [.clo (.func 130) [] [.loc 7 0 0,.loc 8 0 0],.I 1]),.n 1,.cm (.fn) [(609,10),(610,2),(611,7),(612,8)] [(52,2),(604,3),(10,609),(2,610),(7,611),(8,612)] [] [.d,.d] [(2,.var [.loc 609 0 0]),(3,.var [.clo (.func 132) [] [.loc 610 0 0,.loc 611 0 0,.loc 612 0 0]]),(609,.var (Qb 0)),(610,.var (Qe g)),(611,.var (Qf i)),(612,.var (Qb (e.Vars.length:Int)))] (.clo (.func 184) [] [.loc 3 0 0,.loc 2 0 0]),.v .no [] (.agg [.clo (.func 184) [] [.loc 604 0 0,.loc 52 0 0],.I (-1)]),.n 1,.cm (.fn) [(609,10),(610,2),(611,7),(612,8)] [(55,2),(605,3),(10,609),(2,610),(7,611),(8,612)] [] [.d,.d] [(2,.var [.loc 609 0 0]),(3,.var [.clo (.func 134) [] [.loc 610 0 0,.loc 611 0 0,.loc 612 0 0]]),(609,.var (Qb 0)),(610,.var (Qe g)),(611,.var (Qf i)),(612,.var (Qb (e.Vars.length:Int)))] (.clo (.func 184) [] [.loc 3 0 0,.loc 2 0 0]),.v .no [] (.agg [.clo (.func 184) [] [.loc 605 0 0,.loc 55 0 0],.I (-1)]),.n 1,.cm (.fn) [(609,10),(610,2),(611,7)] [(58,2),(606,3),(10,609),(2,610),(7,611)] [] [.d,.d] [(2,.var [.loc 609 0 0]),(3,.var [.clo (.func 135) [] [.loc 610 0 0,.loc 611 0 0]]),(609,.var (Qb 0)),(610,.var (Qe g)),(611,.var (Qf i))] (.clo (.func 184) [] [.loc 3 0 0,.loc 2 0 0]),.v .no [] (.agg [.clo (.func 184) [] [.loc 606 0 0,.loc 58 0 0],.I (-1)]),.n 1,.v .no [] (.agg [.clo (.func 137) [] [.loc 7 0 0],.I 11]),.o (.any (.own 62 10) (some (.var [.clo (.func 122) [] [.loc 7 0 0],.I 1,.clo (.func 123) [] [.loc 2 0 0,.loc 3 0 0,.loc 9 0 0],.I 5,.clo (.func 125) [] [.loc 8 0 0,.loc 7 0 0],.I 2,.clo (.func 184) [] [.loc 603 0 0,.loc 45 0 0],.I (-1),.clo (.func 129) [] [.loc 2 0 0,.loc 3 0 0],.I 2,.clo (.func 130) [] [.loc 7 0 0,.loc 8 0 0],.I 1,.clo (.func 184) [] [.loc 604 0 0,.loc 52 0 0],.I (-1),.clo (.func 184) [] [.loc 605 0 0,.loc 55 0 0],.I (-1),.clo (.func 184) [] [.loc 606 0 0,.loc 58 0 0],.I (-1),.clo (.func 137) [] [.loc 7 0 0],.I 11]))),.cm (.fn) [(609,62),(610,7),(611,2),(612,3),(613,9),(614,8),(615,603),(616,45),(617,10),(618,604),(619,52),(620,605),(621,55),(622,606),(623,58)] [(62,609),(7,610),(2,611),(3,612),(9,613),(8,614),(603,615),(45,616),(10,617),(604,618),(52,619),(605,620),(55,621),(606,622),(58,623)] [] [.d] [(609,.var [.clo (.func 122) [] [.loc 610 0 0],.I 1,.clo (.func 123) [] [.loc 611 0 0,.loc 612 0 0,.loc 613 0 0],.I 5,.clo (.func 125) [] [.loc 614 0 0,.loc 610 0 0],.I 2,.clo (.func 184) [] [.loc 615 0 0,.loc 616 0 0],.I (-1),.clo (.func 129) [] [.loc 611 0 0,.loc 612 0 0],.I 2,.clo (.func 130) [] [.loc 610 0 0,.loc 614 0 0],.I 1,.clo (.func 184) [] [.loc 618 0 0,.loc 619 0 0],.I (-1),.clo (.func 184) [] [.loc 620 0 0,.loc 621 0 0],.I (-1),.clo (.func 184) [] [.loc 622 0 0,.loc 623 0 0],.I (-1),.clo (.func 137) [] [.loc 610 0 0],.I 11]),(610,.var (Qf i)),(611,.var (Qe g)),(612,.var (Qb y)),(613,.var [.clo (.func 121) [] [.loc 610 0 0]]),(614,.var (Qb (e.Vars.length:Int))),(615,.var [.clo (.func 127) [] [.loc 611 0 0,.loc 610 0 0]]),(616,.var [.loc 617 0 0]),(617,.var (Qb w.2)),(618,.var [.clo (.func 132) [] [.loc 611 0 0,.loc 610 0 0,.loc 614 0 0]]),(619,.var [.loc 617 0 0]),(620,.var [.clo (.func 134) [] [.loc 611 0 0,.loc 610 0 0,.loc 614 0 0]]),(621,.var [.loc 617 0 0]),(622,.var [.clo (.func 135) [] [.loc 611 0 0,.loc 610 0 0]]),(623,.var [.loc 617 0 0])] (.I w.1),.n 10] rfl ⟨⟨⟨⟨⟨⟨⟨⟨⟨⟨⟨⟨⟨⟨⟨⟨⟨⟨⟨tt_,rfl⟩,rfl⟩,rfl⟩,rfl⟩,rfl⟩,rfl⟩,(QpY _ _ _ p)⟩,rfl⟩,rfl⟩,rfl⟩,(QnL _ _ _ _ q)⟩,rfl⟩,(QnM _ _ _ _ t)⟩,rfl⟩,(QnN _ _ _ u)⟩,rfl⟩,rfl⟩,(fun σ M P hf=>Stp.buildAny rfl rfl (Qz hC.n rfl) (Qp.es rfl) QjN rfl (by decide) (by decide) (Qdh M rfl) rfl rfl (hf rfl))⟩,(QnU _ _ _ _ _ _ _ _ _ _ _ _ _ _ _ x)⟩ ?_
 refine bg_ h (fun f h=>Qa hC [.T,.n 8,.K [4] []] rfl ⟨tt_,f⟩ ?_) fun f h=>Qa hC [.F,.n 9,.K [4] []] rfl ⟨tt_,f⟩ ?_
 ·cases h
  exact d1_ rfl rfl tt_
 cases h
 exact d1_ rfl rfl tt_
def QfR (a:Int)(d:Qu)(b:Qm):Option Int:=
 (Qbn b a).bind fun c=>
 some c
theorem Qp2 (e f a){r}(h:QfR e f a=some r):Qc prog 74 [.I e,.agg (Qf f),.loc 609 0 0] [(609,.var (Qe a))] (Qh (.I r) [(609,.var (Qe a))]):=by
 refine Qc.walk 9 func74 rfl rfl rfl fun C hC=>?_
 obtain⟨g,b,h⟩:=Qd h
 refine Qa hC [.n 8,.v .no [] (.agg (Qe a)),.n 1,.o (.c false [.d,.d] (.I g)),.n 4] rfl ⟨⟨tt_,rfl⟩,(QqI _ _ b)⟩ ?_
 cases h
 exact d1_ rfl rfl ⟨rfl,tt_⟩
def QaJ (d:(List Qu))(e:Qm)(a:Int):Option (Int⊕((Int×Int)⊕Unit)):=
 bif (decide (a<(d.length:Int)))then
 (idx d a).bind fun c=>
 (QfR a c e).bind fun b=>
 bif (b != 0)then
 some (.inr (.inl (a,b)))
 else
 some (.inl (w64 (a+1)))
 else
 some (.inr (.inr ()))
def QbQ (b:Int)(a:Int):Option (Int×Int):=
 some (b,a)
def QbR : Option (Int×Int):=
 some (0,0)
def Qa7 (a:(List Qu))(b:Qm):Option (Int×Int):=
 (Qw (fun st=>QaJ a b st) 0).bind (Sum.elim (fun q=>QbQ q.1 q.2) (fun q=>QbR))
theorem Qlq (g f){r}(h:Qa7 g f=some r):Qc prog 73 [.sl 14 (g.map Qf),.clo (.func 74) [] [.loc 609 0 0]] [(609,.var (Qe f))] (Qh (.tup [.I r.1,.I r.2]) [(609,.var (Qe f))]):=by
 refine Qc.walk 25 func73 rfl rfl rfl fun C hC=>?_
 refine Qa hC [.n 10,.o (.ln g.length),.n 4,.K [1,9,10,11] [609]] rfl ⟨tt_,Qi⟩ ?_
 obtain⟨l,i,h⟩:=Qd h
 refine AK.loop (body:=(fun st=>QaJ g f st)) (fun st σ=>σ=⟨[(1,.clo (.func 74) [] [.loc 609 0 0]),(9,.sl 14 (g.map Qf)),(10,.I (g.length:Int)),(11,.I st)],[(609,.var (Qe f))]⟩) (Sum.elim (fun q e σ=>e=.ret∧σ=⟨[(4,.I q.1),(5,.I q.2)],[(609,.var (Qe f))]⟩) (fun q e σ=>e=.exit 0∧σ=⟨[],[(609,.var (Qe f))]⟩)) i rfl ?_ ?_
 ·rintro t o σ rfl h
  refine tg_ hC [.n 6] rfl ?_
  rcases Qs h with⟨a,h⟩|⟨a,h⟩
  ·obtain⟨c,j,h⟩:=Qd h
   obtain⟨m,k,h⟩:=Qd h
   refine Qa hC [.T,.n 7,.o (.row (Qf c)),.v .no [] (.agg (Qf c)),.n 3,.O 7 (.var (Qf c)),.n 6,.v .no [] (.agg (Qf c)),.cm (.clo) [(609,609)] [(609,609)] [] [.d,.d,.d] [(609,.var (Qe f))] (.I m),.n 9] rfl ⟨⟨⟨⟨⟨⟨tt_,a⟩,(QC j)⟩,rfl⟩,rfl⟩,rfl⟩,(Qp2 _ _ _ k)⟩ ?_
   refine bg_ h (fun b h=>Qa hC [.T,.n 11,.K [4,5] [609]] rfl ⟨tt_,b⟩ ?_) fun b h=>Qa hC [.F,.n 7,.K [1,9,10,11] [609]] rfl ⟨tt_,b⟩ ?_
   ·cases h
    exact QaN rfl (an_ rfl rfl)
   cases h
   exact QU rfl rfl
  refine Qa hC [.F,.n 2,.K [] [609]] rfl ⟨tt_,a⟩ ?_
  cases h
  exact QV rfl (an_ rfl rfl)
 rcases l with(⟨s,p⟩|_)
 ·replace h:QbQ s p=some r:=h
  rintro e σ ⟨rfl,rfl⟩
  refine tg_ hC [.n 2] rfl ?_
  cases h
  exact d2_ rfl rfl rfl ⟨rfl,tt_⟩
 replace h:QbR=some r:=h
 rintro e σ ⟨rfl,rfl⟩
 refine tg_ hC [.n 9] rfl ?_
 cases h
 exact d2_ rfl rfl rfl ⟨rfl,tt_⟩
def QfX (c:Qm):Option (Int×QdI):=
 (Qik c 2 3 1).bind fun e=>
 bif (e != 0)then
 some (e,(QdI.mk 1 0))
 else
 (Qef c).bind fun d=>
 bif (d.2 != 0)then
 some (d.2,(QdI.mk 2 d.1))
 else
 (Qcy c.Places c).bind fun a=>
 bif (a.2 != 0)then
 some (a.2,(QdI.mk 3 a.1))
 else
 (Qa7 c.Tasks c).bind fun b=>
 bif (b.2 != 0)then
 some (b.2,(QdI.mk 4 b.1))
 else
 some (0,(QdI.mk 0 0))
theorem Qrt (j){r}(h:QfX j=some r):Qc prog 33 [.agg (Qe j)] [] (Qh (.tup [.agg (Qbv r.2),.I r.1]) []):=by
 refine Qc.walk 58 func33 rfl rfl rfl fun C hC=>?_
 obtain⟨s,p,h⟩:=Qd h
 refine Qa hC [.n 10,.v .no [] (.agg [.clo (.func 65) [] [.loc 1 0 0],.I 2]),.n 1,.v .no [] (.agg [.clo (.func 66) [] [.loc 1 0 0],.I 3]),.n 1,.v .no [] (.agg [.clo (.func 68) [] [.loc 1 0 0],.I 1]),.o (.any (.own 17 3) (some (.var [.clo (.func 65) [] [.loc 1 0 0],.I 2,.clo (.func 66) [] [.loc 1 0 0],.I 3,.clo (.func 68) [] [.loc 1 0 0],.I 1]))),.cm (.fn) [(609,17),(610,1)] [(17,609),(1,610)] [] [.d] [(609,.var [.clo (.func 65) [] [.loc 610 0 0],.I 2,.clo (.func 66) [] [.loc 610 0 0],.I 3,.clo (.func 68) [] [.loc 610 0 0],.I 1]),(610,.var (Qe j))] (.I s),.n 10] rfl ⟨⟨⟨⟨⟨tt_,rfl⟩,rfl⟩,rfl⟩,(fun σ t u hf=>Stp.buildAny rfl rfl (Qz hC.n rfl) (Qp.es rfl) QjN rfl (by decide) (by decide) (Qdh t rfl) rfl rfl (hf rfl))⟩,(QpS _ _ _ _ p)⟩ ?_
 rcases Qs h with⟨g,h⟩|⟨g,h⟩
 ·refine Qa hC [.T,.n 2,.v .no [] (.agg (Qbv (QdI.mk 1 0))),.n 2,.O 2 (.var (Qbv (QdI.mk 1 0))),.n 5,.K [2,3] [2]] rfl ⟨⟨⟨tt_,g⟩,rfl⟩,rfl⟩ ?_
  cases h
  exact AK.done (ex_ [_,_] (an_ (an_ (ex_ _ (ex_ _ (an_ rfl (an_ rfl (Or.inl (an_ (Qp.ag rfl) (an_ (Qp.sz rfl) rfl))))))) (an_ rfl tt_)) (Qbf tt_)))
 obtain⟨m,q,h⟩:=Qd h
 refine Qa hC [.F,.n 5,.v .no [] (.agg (Qe j)),.o (.c false [.d] (.tup [.I m.1,.I m.2])),.n 13] rfl ⟨⟨⟨tt_,g⟩,rfl⟩,(QjX _ q)⟩ ?_
 rcases Qs h with⟨i,h⟩|⟨i,h⟩
 ·refine Qa hC [.T,.n 3,.v .no [] (.agg (Qbv (QdI.mk 2 m.1))),.n 2,.O 2 (.var (Qbv (QdI.mk 2 m.1))),.n 5,.K [2,3] [2]] rfl ⟨⟨⟨tt_,i⟩,rfl⟩,rfl⟩ ?_
  cases h
  exact AK.done (ex_ [_,_] (an_ (an_ (ex_ _ (ex_ _ (an_ rfl (an_ rfl (Or.inl (an_ (Qp.ag rfl) (an_ (Qp.sz rfl) rfl))))))) (an_ rfl tt_)) (Qbf tt_)))
 obtain⟨e,k,h⟩:=Qd h
 refine Qa hC [.F,.n 8,.cm (.fn) [(609,1)] [(1,609)] [] [.d,.d] [(609,.var (Qe j))] (.tup [.I e.1,.I e.2]),.n 13] rfl ⟨⟨tt_,i⟩,(QkF _ _ k)⟩ ?_
 rcases Qs h with⟨a,h⟩|⟨a,h⟩
 ·refine Qa hC [.T,.n 3,.v .no [] (.agg (Qbv (QdI.mk 3 e.1))),.n 2,.O 2 (.var (Qbv (QdI.mk 3 e.1))),.n 5,.K [2,3] [2]] rfl ⟨⟨⟨tt_,a⟩,rfl⟩,rfl⟩ ?_
  cases h
  exact AK.done (ex_ [_,_] (an_ (an_ (ex_ _ (ex_ _ (an_ rfl (an_ rfl (Or.inl (an_ (Qp.ag rfl) (an_ (Qp.sz rfl) rfl))))))) (an_ rfl tt_)) (Qbf tt_)))
 obtain⟨f,l,h⟩:=Qd h
 refine Qa hC [.F,.n 8,.cm (.fn) [(609,1)] [(1,609)] [] [.d,.d] [(609,.var (Qe j))] (.tup [.I f.1,.I f.2]),.n 13] rfl ⟨⟨tt_,a⟩,(Qlq _ _ l)⟩ ?_
 refine bg_ h (fun b h=>Qa hC [.T,.n 3,.v .no [] (.agg (Qbv (QdI.mk 4 f.1))),.n 2,.O 2 (.var (Qbv (QdI.mk 4 f.1))),.n 5,.K [2,3] [2]] rfl ⟨⟨⟨tt_,b⟩,rfl⟩,rfl⟩ ?_) fun b h=>Qa hC [.F,.n 4,.v .no [] (.agg (Qbv (QdI.mk 0 0))),.n 1,.O 2 (.var (Qbv (QdI.mk 0 0))),.n 4,.K [2,3] [2]] rfl ⟨⟨⟨tt_,b⟩,rfl⟩,rfl⟩ ?_
 ·cases h
  exact AK.done (ex_ [_,_] (an_ (an_ (ex_ _ (ex_ _ (an_ rfl (an_ rfl (Or.inl (an_ (Qp.ag rfl) (an_ (Qp.sz rfl) rfl))))))) (an_ rfl tt_)) (Qbf tt_)))
 cases h
 exact AK.done (ex_ [_,_] (an_ (an_ (ex_ _ (ex_ _ (an_ rfl (an_ rfl (Or.inl (an_ (Qp.ag rfl) (an_ (Qp.sz rfl) rfl))))))) (an_ rfl tt_)) (Qbf tt_)))
def Qjc (a:Qm):Option Bool:=
 (Qh5 a).bind fun b=>
 bif ((!b)||((decide (8<(a.Tasks.length:Int)))||(decide (12<(a.Places.length:Int)))))then
 some false
 else
 (QfX a).bind fun c=>
 some (c.1==0)
theorem QqJ (a){r}(h:Qjc a=some r):Qc prog 10 [.agg (Qe a)] [] (Qh (.b r) []):=by
 refine Qc.walk 29 func10 rfl rfl rfl fun C hC=>?_
 obtain⟨i,j,h⟩:=Qd h
 refine Qa hC [.n 8,.v .no [] (.agg (Qe a)),.o (.c false [.d] (.b i)),.n 5] rfl ⟨⟨tt_,rfl⟩,(Qrp _ j)⟩ ?_
 refine AK.meetX (fun σ=>σ=⟨[(1,.loc 1 0 0),(21,.b ((!i)||((decide (8<(a.Tasks.length:Int)))||(decide (12<(a.Places.length:Int))))))],[(1,.var (Qe a))]⟩) ?_ ?_
 ·refine tg_ hC [.n 4] rfl ?_
  rcases QQ (!i)with e | e
  ·refine Qa hC [.S 10 (.b true),.n 12,.S 21 (.b ((!i)||((decide (8<(a.Tasks.length:Int)))||(decide (12<(a.Places.length:Int)))))),.K [1,21] [1]] rfl ⟨(tc_ e),(congrArg V.b (orT e rfl))⟩ ?_
   exact AK.met rfl
  refine Qa hC [.S 10 (.b false),.n 2,.o (.ln a.Tasks.length),.n 3] rfl ⟨(tc_ e),Qi⟩ ?_
  rcases QQ (decide (8<(a.Tasks.length:Int)))with f | f
  ·refine Qa hC [.S 16 (.b true),.n 6,.S 21 (.b ((!i)||((decide (8<(a.Tasks.length:Int)))||(decide (12<(a.Places.length:Int)))))),.K [1,21] [1]] rfl ⟨(tc_ f),(congrArg V.b (orF e (orT f rfl)))⟩ ?_
   exact AK.met rfl
  refine Qa hC [.S 16 (.b false),.n 2,.o (.ln a.Places.length),.n 3,.S 21 (.b ((!i)||((decide (8<(a.Tasks.length:Int)))||(decide (12<(a.Places.length:Int)))))),.K [1,21] [1]] rfl ⟨⟨(tc_ f),Qi⟩,(congrArg V.b (orF e (orF f rfl)))⟩ ?_
  exact AK.met rfl
 rintro σ rfl
 refine tg_ hC [.n 1] rfl ?_
 rcases Qs h with⟨g,h⟩|⟨g,h⟩
 ·refine Qa hC [.T,.n 7] rfl ⟨tt_,g⟩ ?_
  cases h
  exact d1_ rfl rfl tt_
 obtain⟨k,l,h⟩:=Qd h
 refine Qa hC [.F,.n 4,.v .no [] (.agg (Qe a)),.o (.c false [.d] (.tup [.agg (Qbv k.2),.I k.1])),.n 5,.O 4 (.var (Qbv k.2)),.n 11] rfl ⟨⟨⟨⟨tt_,g⟩,rfl⟩,(Qrt _ l)⟩,rfl⟩ ?_
 cases h
 exact d1_ rfl rfl tt_
def QdE (f:(List Int))(a:Int)(g:(List Int)):Option Bool:=
 (idx f a).bind fun b=>
 bif (decide (1073741824<b))then
 some true
 else
 (idx f a).bind fun c=>
 bif (decide (c<(-1073741824)))then
 some true
 else
 (idx g a).bind fun d=>
 bif (decide (1073741824<d))then
 some true
 else
 (idx g a).bind fun e=>
 some (decide (e<(-1073741824)))
def QbS (e:(List Int))(a:Int)(k:(List Int))(b:(List Int))(c:(List Int))(d:(List Int))(f:Bool):Option ((Int×(List Int)×(List Int)×(List Int))⊕(Unit⊕((List Int)×(List Int)×(List Int)))):=
 bif f then
 some (.inr (.inl ()))
 else
 (idx e a).bind fun g=>
 (idx k a).bind fun h=>
 (idx b a).bind fun l=>
 (idx e a).bind fun i=>
 (idx c a).bind fun m=>
 (idx e a).bind fun j=>
 (idx d a).bind fun n=>
 some (.inl ((w64 (a+1)),(b.set a.toNat (w64 (g+h))),(c.set a.toNat (w64 (2*i))),(d.set a.toNat (w64 (0-j)))))
def Qbc (e:(List Int))(g:(List Int))(a:Int)(b:(List Int))(c:(List Int))(d:(List Int)):Option ((Int×(List Int)×(List Int)×(List Int))⊕(Unit⊕((List Int)×(List Int)×(List Int)))):=
 bif (decide (a<(e.length:Int)))then
 (QdE e a g).bind (fun f=>QbS e a g b c d f)
 else
 some (.inr (.inr (b,c,d)))
def QgX (a:Bool):Option Bool:=
 some a
def QgY (j:Bool)(d:Qm)(k:(List Int))(e:(List Int))(a:Bool)(f:(List Int))(b:Bool)(c:Bool):Option Bool:=
 bif j then
 (QaI d (List.replicate (k.length:Int).toNat (0:Int))).bind fun g=>
 bif g then
 (QaI d e).bind fun h=>
 bif (h==a)then
 (QaI d f).bind fun i=>
 bif (i==a)then
 bif (!a)then
 bif (!b)then
 some true
 else
 some (c==a)
 else
 bif (c==b)then
 bif (!b)then
 some true
 else
 some (c==a)
 else
 some false
 else
 some false
 else
 some false
 else
 some false
 else
 some false
def QbT (a:Bool):Option Bool:=
 some a
def QbU (a:Qm)(i:(List Int))(j:(List Int))(k:Bool)(b:(List Int))(c:(List Int))(d:(List Int)):Option Bool:=
 (QaI a i).bind fun e=>
 (QaI a j).bind fun f=>
 (QaI a b).bind fun g=>
 (QgY k a i c e d f g).bind (fun h=>QbT h)
def Qbw (b:Qm)(a:(List Int))(c:(List Int)):Option Bool:=
 (Qig).bind fun d=>
 (Qjc b).bind fun e=>
 bif ((!e)||(((a.length:Int) != (b.Places.length:Int))||((c.length:Int) != (a.length:Int))))then
 some d
 else
 (chk (decide (0≤(a.length:Int))&&decide ((a.length:Int)≤(a.length:Int))&&decide ((a.length:Int)≤4294967296))).bind fun _=>
 (chk (decide (0≤(a.length:Int))&&decide ((a.length:Int)≤(a.length:Int))&&decide ((a.length:Int)≤4294967296))).bind fun _=>
 (chk (decide (0≤(a.length:Int))&&decide ((a.length:Int)≤(a.length:Int))&&decide ((a.length:Int)≤4294967296))).bind fun _=>
 (chk (decide (0≤(a.length:Int))&&decide ((a.length:Int)≤(a.length:Int))&&decide ((a.length:Int)≤4294967296))).bind fun _=>
 (Qw (fun st=>Qbc a c st.1 st.2.1 st.2.2.1 st.2.2.2) (0,(List.replicate (a.length:Int).toNat (0:Int)),(List.replicate (a.length:Int).toNat (0:Int)),(List.replicate (a.length:Int).toNat (0:Int)))).bind (Sum.elim (fun q=>QgX d) (fun q=>QbU b a c d q.1 q.2.1 q.2.2))
theorem Qlr (g f k){r}(h:Qbw g f k=some r):Qc prog 6 [.agg (Qe g),.sl 1 (f.map Qb),.sl 1 (k.map Qb)] [] (Qh (.b r) []):=by
 refine Qc.walk 158 func6 rfl rfl rfl fun C hC=>?_
 obtain⟨O,c7,h⟩:=Qd h
 obtain⟨x7,c8,h⟩:=Qd h
 refine Qa hC [.n 8,.o (.c false [] (.b O)),.n 5,.v .no [] (.agg (Qe g)),.o (.c false [.d] (.b x7)),.n 5] rfl ⟨⟨⟨tt_,(QpN  c7)⟩,rfl⟩,(QqJ _ c8)⟩ ?_
 refine AK.meetX (fun σ=>σ=⟨[(1,.sl 1 (f.map Qb)),(2,.sl 1 (k.map Qb)),(3,.loc 3 0 0),(7,.b O),(36,.b ((!x7)||(((f.length:Int) != (g.Places.length:Int))||((k.length:Int) != (f.length:Int)))))],[(3,.var (Qe g))]⟩) ?_ ?_
 ·refine tg_ hC [.n 4] rfl ?_
  rcases QQ (!x7)with l | l
  ·refine Qa hC [.S 22 (.b true),.n 15,.S 36 (.b ((!x7)||(((f.length:Int) != (g.Places.length:Int))||((k.length:Int) != (f.length:Int))))),.K [1,2,3,7,36] [3]] rfl ⟨(tc_ l),(congrArg V.b (orT l rfl))⟩ ?_
   exact AK.met rfl
  refine Qa hC [.S 22 (.b false),.n 1,.o (.ln f.length),.n 2,.o (.ln g.Places.length),.n 3] rfl ⟨⟨(tc_ l),Qi⟩,Qi⟩ ?_
  rcases QQ ((f.length:Int) != (g.Places.length:Int))with j | j
  ·refine Qa hC [.S 30 (.b true),.n 7,.S 36 (.b ((!x7)||(((f.length:Int) != (g.Places.length:Int))||((k.length:Int) != (f.length:Int))))),.K [1,2,3,7,36] [3]] rfl ⟨(tc_ j),(congrArg V.b (orF l (orT j rfl)))⟩ ?_
   exact AK.met rfl
  refine Qa hC [.S 30 (.b false),.n 1,.o (.ln k.length),.n 1,.o (.ln f.length),.n 3,.S 36 (.b ((!x7)||(((f.length:Int) != (g.Places.length:Int))||((k.length:Int) != (f.length:Int))))),.K [1,2,3,7,36] [3]] rfl ⟨⟨⟨(tc_ j),Qi⟩,Qi⟩,(congrArg V.b (orF l (orF j rfl)))⟩ ?_
  exact AK.met rfl
 rintro σ rfl
 refine tg_ hC [.n 1] rfl ?_
 rcases Qs h with⟨u,h⟩|⟨u,h⟩
 ·refine Qa hC [.T,.n 8] rfl ⟨tt_,u⟩ ?_
  cases h
  exact d1_ rfl rfl tt_
 obtain⟨a3,h⟩:=QaO h
 obtain⟨a4,h⟩:=QaO h
 obtain⟨a5,h⟩:=QaO h
 obtain⟨a6,h⟩:=QaO h
 refine Qa hC [.F,.n 5,.o (.ln f.length),.o (.rows ((List.replicate (f.length:Int).toNat (0:Int)).map Qb)),.S 40 (.own 40 (List.replicate (f.length:Int).toNat (0:Int)).length),.n 6,.o (.ln f.length),.o (.rows ((List.replicate (f.length:Int).toNat (0:Int)).map Qb)),.S 43 (.own 43 (List.replicate (f.length:Int).toNat (0:Int)).length),.n 6,.o (.ln f.length),.o (.rows ((List.replicate (f.length:Int).toNat (0:Int)).map Qb)),.S 46 (.own 46 (List.replicate (f.length:Int).toNat (0:Int)).length),.n 6,.o (.ln f.length),.o (.rows ((List.replicate (f.length:Int).toNat (0:Int)).map Qb)),.S 49 (.own 49 (List.replicate (f.length:Int).toNat (0:Int)).length),.n 10,.K [1,2,3,7,9,10,11,12,13] [3,40,43,46,49]] rfl ⟨⟨⟨⟨⟨⟨⟨⟨⟨⟨⟨⟨⟨tt_,u⟩,Qi⟩,⟨a3,QhU rfl⟩⟩,(by simp)⟩,Qi⟩,⟨a4,QhU rfl⟩⟩,(by simp)⟩,Qi⟩,⟨a5,QhU rfl⟩⟩,(by simp)⟩,Qi⟩,⟨a6,QhU rfl⟩⟩,(by simp)⟩ ?_
 obtain⟨c9,a7,h⟩:=Qd h
 refine AK.loop (body:=(fun st=>Qbc f k st.1 st.2.1 st.2.2.1 st.2.2.2)) (fun st σ=>σ=⟨[(1,.sl 1 (f.map Qb)),(2,.sl 1 (k.map Qb)),(3,.loc 3 0 0),(7,.b O),(9,.own 40 (List.replicate (f.length:Int).toNat (0:Int)).length),(10,.own 43 st.2.1.length),(11,.own 46 st.2.2.1.length),(12,.own 49 st.2.2.2.length),(13,.I st.1)],[(3,.var (Qe g)),(40,.arr 1 ((List.replicate (f.length:Int).toNat (0:Int)).map Qb)),(43,.arr 1 (st.2.1.map Qb)),(46,.arr 1 (st.2.2.1.map Qb)),(49,.arr 1 (st.2.2.2.map Qb))]⟩) (Sum.elim (fun q e σ=>e=.ret∧σ=⟨[(6,.b O)],[]⟩) (fun q e σ=>e=.exit 0∧σ=⟨[(1,.sl 1 (f.map Qb)),(2,.sl 1 (k.map Qb)),(3,.loc 3 0 0),(7,.b O),(9,.own 40 (List.replicate (f.length:Int).toNat (0:Int)).length),(10,.own 43 q.1.length),(11,.own 46 q.2.1.length),(12,.own 49 q.2.2.length)],[(3,.var (Qe g)),(40,.arr 1 ((List.replicate (f.length:Int).toNat (0:Int)).map Qb)),(43,.arr 1 (q.1.map Qb)),(46,.arr 1 (q.2.1.map Qb)),(49,.arr 1 (q.2.2.map Qb))]⟩)) a7 rfl ?_ ?_
 ·rintro ⟨i,p,s,t⟩ o σ rfl h
  refine Qa hC [.n 5,.o (.ln f.length),.n 3] rfl ⟨tt_,Qi⟩ ?_
  refine bg_ h (fun w h=>Qa hC [.T,.n 6] rfl ⟨tt_,w⟩ ?_) fun w h=>Qa hC [.F,.n 2,.K [1,2,3,7,9,10,11,12] [3,40,43,46,49]] rfl ⟨tt_,w⟩ ?_
  ·obtain⟨X,a8,h⟩:=Qd h
   replace h:QbS f i k p s t X=some o:=h
   refine AK.meetX (fun σ=>σ=⟨[(1,.sl 1 (f.map Qb)),(2,.sl 1 (k.map Qb)),(3,.loc 3 0 0),(7,.b O),(9,.own 40 (List.replicate (f.length:Int).toNat (0:Int)).length),(10,.own 43 p.length),(11,.own 46 s.length),(12,.own 49 t.length),(13,.I i),(81,.b X)],[(3,.var (Qe g)),(40,.arr 1 ((List.replicate (f.length:Int).toNat (0:Int)).map Qb)),(43,.arr 1 (p.map Qb)),(46,.arr 1 (s.map Qb)),(49,.arr 1 (t.map Qb))]⟩) ?_ ?_
   ·replace h:=a8
    obtain⟨d0,a9,h⟩:=Qd h
    refine Qa hC [.n 3,.o (.row (Qb d0)),.n 3] rfl ⟨tt_,(QC a9)⟩ ?_
    rcases Qs h with⟨x,h⟩|⟨x,h⟩
    ·refine Qa hC [.S 61 (.b true),.n 21,.K [1,2,3,7,9,10,11,12,13,81] [3,40,43,46,49]] rfl (tc_ x) ?_
     cases h
     exact AK.met rfl
    obtain⟨d1,b0,h⟩:=Qd h
    refine Qa hC [.S 61 (.b false),.n 2,.o (.row (Qb d1)),.n 4] rfl ⟨(tc_ x),(QC b0)⟩ ?_
    rcases Qs h with⟨y,h⟩|⟨y,h⟩
    ·refine Qa hC [.S 68 (.b true),.n 14,.K [1,2,3,7,9,10,11,12,13,81] [3,40,43,46,49]] rfl (tc_ y) ?_
     cases h
     exact AK.met rfl
    obtain⟨d2,b1,h⟩:=Qd h
    refine Qa hC [.S 68 (.b false),.n 2,.o (.row (Qb d2)),.n 4] rfl ⟨(tc_ y),(QC b1)⟩ ?_
    rcases Qs h with⟨z,h⟩|⟨z,h⟩
    ·refine Qa hC [.S 75 (.b true),.n 7,.K [1,2,3,7,9,10,11,12,13,81] [3,40,43,46,49]] rfl (tc_ z) ?_
     cases h
     exact AK.met rfl
    obtain⟨d3,b2,h⟩:=Qd h
    refine Qa hC [.S 75 (.b false),.n 2,.o (.row (Qb d3)),.n 4,.K [1,2,3,7,9,10,11,12,13,81] [3,40,43,46,49]] rfl ⟨(tc_ z),(QC b2)⟩ ?_
    cases h
    exact AK.met rfl
   rintro σ rfl
   replace h:QbS f i k p s t X=some o:=h
   refine tg_ hC [.n 1] rfl ?_
   rcases Qs h with⟨A,h⟩|⟨A,h⟩
   ·refine Qa hC [.T,.n 10,.K [6] []] rfl ⟨tt_,A⟩ ?_
    cases h
    exact QaN rfl (an_ rfl rfl)
   obtain⟨Y,b3,h⟩:=Qd h
   obtain⟨Z,b4,h⟩:=Qd h
   obtain⟨d4,P,h⟩:=Qd h
   refine Qa hC [.F,.n 3,.K [1,2,3,7,9,10,11,12,13] [3,40,43,46,49]] rfl ⟨tt_,A⟩ ?_
   refine AK.draw2 Qp hC mixed [.N,.N,.N,.N,.a (.row (Qb Y)) none false,.N,.N,.N,.a (.row (Qb Z)) none false,.N,.N,.N,.m (.st (Qb d4) ((p.set i.toNat (w64 (Y+Z))).map Qb))] [] [] [1,2,3,7,9,10,11,12,13] [3,40,43,46,49] rfl rfl rfl ⟨⟨⟨⟨tt_,(QC b3)⟩,(QC b4)⟩,(Qd5 P rfl)⟩,⟨(Qcg (Qek P).2),QgF rfl⟩⟩ rfl (by kernel_rfl) rfl rfl rfl ?_
   obtain⟨a0,b5,h⟩:=Qd h
   obtain⟨d5,U,h⟩:=Qd h
   obtain⟨a1,b6,h⟩:=Qd h
   obtain⟨d6,W,h⟩:=Qd h
   refine Qa hC [.n 7,.o (.row (Qb a0)),.n 3,.st (Qb d5) ((s.set i.toNat (w64 (2*a0))).map Qb),.n 7,.o (.row (Qb a1)),.n 3,.st (Qb d6) ((t.set i.toNat (w64 (0-a1))).map Qb),.n 8,.S 10 (.own 43 (p.set i.toNat (w64 (Y+Z))).length),.S 11 (.own 46 (s.set i.toNat (w64 (2*a0))).length),.S 12 (.own 49 (t.set i.toNat (w64 (0-a1))).length),.K [1,2,3,7,9,10,11,12,13] [3,40,43,46,49]] rfl ⟨⟨⟨⟨⟨⟨⟨⟨⟨tt_,(QC b5)⟩,(Qd5 U rfl)⟩,⟨(Qcg (Qek U).2),QgF rfl⟩⟩,(QC b6)⟩,(Qd5 W rfl)⟩,⟨(Qcg (Qek W).2),QgF rfl⟩⟩,(congrArg (fun n=>V.own 43 n) (by simp))⟩,(congrArg (fun n=>V.own 46 n) (by simp))⟩,(congrArg (fun n=>V.own 49 n) (by simp))⟩ ?_
   cases h
   exact QU rfl rfl
  cases h
  exact QV rfl (an_ rfl rfl)
 rcases c9 with(_ | ⟨b7,b8,b9⟩)
 ·replace h:QgX O=some r:=h
  rintro e σ ⟨rfl,rfl⟩
  refine tg_ hC [.n 2] rfl ?_
  cases h
  exact d1_ rfl rfl tt_
 replace h:QbU g f k O b7 b8 b9=some r:=h
 rintro e σ ⟨rfl,rfl⟩
 obtain⟨d7,c0,h⟩:=Qd h
 obtain⟨d8,c1,h⟩:=Qd h
 obtain⟨d9,c2,h⟩:=Qd h
 refine Qa hC [.n 4,.v .no [] (.agg (Qe g)),.n 1,.o (.c false [.d,.d] (.b d7)),.n 5,.v .no [] (.agg (Qe g)),.n 1,.o (.c false [.d,.d] (.b d8)),.n 5,.v .no [] (.agg (Qe g)),.n 1,.o (.c true [.d,.o (b7.map Qb)] (.b d9)),.n 4] rfl ⟨⟨⟨⟨⟨⟨tt_,rfl⟩,(QaT _ _ c0)⟩,rfl⟩,(QaT _ _ c1)⟩,rfl⟩,⟨(QeR rfl),(QaT _ _ c2)⟩⟩ ?_
 obtain⟨a2,c3,h⟩:=Qd h
 replace h:QbT a2=some r:=h
 refine AK.meetX (fun σ=>σ=⟨[(6,.b a2)],[]⟩) ?_ ?_
 ·replace h:=c3
  refine tg_ hC [.n 3] rfl ?_
  rcases Qs h with⟨B,h⟩|⟨B,h⟩
  ·obtain⟨e0,c4,h⟩:=Qd h
   refine Qa hC [.S 121 (.b true),.v .no [] (.agg (Qe g)),.n 1,.o (.c true [.d,.o ((List.replicate (f.length:Int).toNat (0:Int)).map Qb)] (.b e0)),.n 2] rfl ⟨⟨(tc_ B),rfl⟩,⟨(QeR rfl),(QaT _ _ c4)⟩⟩ ?_
   rcases Qs h with⟨D,h⟩|⟨D,h⟩
   ·obtain⟨e1,c5,h⟩:=Qd h
    refine Qa hC [.S 126 (.b true),.v .no [] (.agg (Qe g)),.n 1,.o (.c true [.d,.o (b8.map Qb)] (.b e1)),.n 4] rfl ⟨⟨(tc_ D),rfl⟩,⟨(QeR rfl),(QaT _ _ c5)⟩⟩ ?_
    rcases Qs h with⟨E,h⟩|⟨E,h⟩
    ·obtain⟨e2,c6,h⟩:=Qd h
     refine Qa hC [.S 133 (.b true),.v .no [] (.agg (Qe g)),.n 1,.o (.c true [.d,.o (b9.map Qb)] (.b e2)),.n 4] rfl ⟨⟨(tc_ E),rfl⟩,⟨(QeR rfl),(QaT _ _ c6)⟩⟩ ?_
     refine bg_ h (fun G h=>Qa hC [.S 140 (.b true),.n 3] rfl (tc_ G) ?_) fun G h=>Qa hC [.S 140 (.b false),.n 19,.K [6] []] rfl (tc_ G) ?_
     ·refine bg_ h (fun H h=>Qa hC [.S 143 (.b true),.n 9] rfl (tc_ H) ?_) fun H h=>Qa hC [.S 143 (.b false),.n 6] rfl (tc_ H) ?_
      ·refine bg_ h (fun J h=>Qa hC [.S 152 (.b true),.n 7,.K [6] []] rfl (tc_ J) ?_) fun J h=>Qa hC [.S 152 (.b false),.n 7,.K [6] []] rfl (tc_ J) ?_
       ·cases h
        exact AK.met rfl
       cases h
       exact AK.met rfl
      refine bg_ h (fun L h=>Qa hC [.S 149 (.b true),.n 3] rfl (tc_ L) ?_) fun L h=>Qa hC [.S 149 (.b false),.n 10,.K [6] []] rfl (tc_ L) ?_
      ·refine bg_ h (fun M h=>Qa hC [.S 152 (.b true),.n 7,.K [6] []] rfl (tc_ M) ?_) fun M h=>Qa hC [.S 152 (.b false),.n 7,.K [6] []] rfl (tc_ M) ?_
       ·cases h
        exact AK.met rfl
       cases h
       exact AK.met rfl
      cases h
      exact AK.met rfl
     cases h
     exact AK.met rfl
    refine Qa hC [.S 133 (.b false),.n 26,.K [6] []] rfl (tc_ E) ?_
    cases h
    exact AK.met rfl
   refine Qa hC [.S 126 (.b false),.n 33,.K [6] []] rfl (tc_ D) ?_
   cases h
   exact AK.met rfl
  refine Qa hC [.S 121 (.b false),.n 38,.K [6] []] rfl (tc_ B) ?_
  cases h
  exact AK.met rfl
 rintro σ rfl
 replace h:QbT a2=some r:=h
 refine tg_ hC [.n 2] rfl ?_
 cases h
 exact d1_ rfl rfl tt_

end Go.Proofs
