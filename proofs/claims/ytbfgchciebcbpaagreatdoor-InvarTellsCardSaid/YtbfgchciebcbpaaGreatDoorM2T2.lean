/- What functions of the program do, as functions over plain data, and the walks that show it: printed by a program. -/
import Derived.Test.YtbfgchciebcbpaaGreatDoorM2T1
set_option linter.unusedVariables false
set_option linter.unusedSimpArgs false
set_option linter.unusedSectionVars false
set_option linter.deprecated false
set_option maxRecDepth 100000
set_option maxHeartbeats 4000000
noncomputable section
namespace Go.Proofs
open Go Go.RowKit Go.Vm Go.Proofs.Tryz
def Qgp (a:QG)(h:Int)(b:Qm)(i:Int)(j:Int)(k:Int)(l:Int)(m:Int):Option Int:=
 (Qhq a).bind fun c=>
 bif (!c)then
 some h
 else
 (Qhs b i a).bind fun d=>
 bif (!d)then
 some j
 else
 (Qht b a).bind fun e=>
 bif (!e)then
 some k
 else
 (Qhu a).bind fun f=>
 bif (!f)then
 some l
 else
 (Qhv b a).bind fun g=>
 bif (!g)then
 some m
 else
 some 0
theorem QpE (k u l w x y z A){r}(h:Qgp k u l w x y z A=some r):Qd prog 64 [.own 609 5] [(609,.var [.clo (.func 112) [] [.loc 610 0 0],.I u,.clo (.func 113) [] [.loc 611 0 0,.loc 612 0 0,.loc 613 0 0],.I x,.clo (.func 115) [] [.loc 611 0 0,.loc 610 0 0],.I y,.clo (.func 117) [] [.loc 610 0 0],.I z,.clo (.func 118) [] [.loc 611 0 0,.loc 610 0 0],.I A]),(610,.var (Qu k)),(611,.var (Qe l)),(612,.var (Qb w)),(613,.var [.clo (.func 111) [] [.loc 610 0 0]])] (Qj (.I r) [(609,.var [.clo (.func 112) [] [.loc 610 0 0],.I u,.clo (.func 113) [] [.loc 611 0 0,.loc 612 0 0,.loc 613 0 0],.I x,.clo (.func 115) [] [.loc 611 0 0,.loc 610 0 0],.I y,.clo (.func 117) [] [.loc 610 0 0],.I z,.clo (.func 118) [] [.loc 611 0 0,.loc 610 0 0],.I A]),(610,.var (Qu k)),(611,.var (Qe l)),(612,.var (Qb w)),(613,.var [.clo (.func 111) [] [.loc 610 0 0]])]):=by
 refine Qd.walk 18 func64 rfl rfl rfl fun C hC=>?_
 refine tg_ hC [.n 14] rfl ?_
 refine AK.loopN 6 (AK.rnd ?_)
 obtain⟨B,m,h⟩:=Qc h
 refine Qa hC [.n 2,.v .no [] (.b true),.n 10,.o (.any (.loc 609 0 0) none),.n 3,.O 4 (.var [.clo (.func 112) [] [.loc 610 0 0],.I u]),.n 6,.cm (.clo) [(609,610)] [(610,609)] [] [.d] [(609,.var (Qu k))] (.b B),.n 3] rfl ⟨⟨⟨⟨tt_,rfl⟩,(fun σ a j _=>Stp.idxV rfl rfl (QD hC.n rfl) (a _ _ rfl) (a _ _ rfl) (Qp.es rfl) (j _ _ rfl) (by decide))⟩,rfl⟩,(Qqh _ m)⟩ ?_
 refine bg_ h (fun c h=>Qa hC [.T,.n 13,.K [2] [609,610,611,612,613]] rfl ⟨tt_,c⟩ ?_) fun c h=>Qa hC [.F,.n 4,.v .no [] (.I 1),.n 2] rfl ⟨⟨tt_,c⟩,rfl⟩ ?_
 ·cases h
  exact d1_ rfl rfl ⟨rfl,rfl,rfl,rfl,rfl,tt_⟩
 refine AK.met (AK.rnd ?_)
 obtain⟨D,p,h⟩:=Qc h
 refine Qa hC [.n 2,.v .no [] (.b true),.n 10,.o (.any (.loc 609 0 2) none),.n 1,.kill 4,.n 2,.O 4 (.var [.clo (.func 113) [] [.loc 611 0 0,.loc 612 0 0,.loc 613 0 0],.I x]),.n 6,.cm (.clo) [(609,611),(610,612),(611,613),(612,610)] [(611,609),(612,610),(613,611),(610,612)] [] [.d,.d,.d] [(609,.var (Qe l)),(610,.var (Qb w)),(611,.var [.clo (.func 111) [] [.loc 612 0 0]]),(612,.var (Qu k))] (.b D),.n 3] rfl ⟨⟨⟨⟨tt_,rfl⟩,(fun σ a j _=>Stp.idxV rfl rfl (QD hC.n rfl) (a _ _ rfl) (a _ _ rfl) (Qp.es rfl) (j _ _ rfl) (by decide))⟩,rfl⟩,(Qqj _ _ _ p)⟩ ?_
 refine bg_ h (fun e h=>Qa hC [.T,.n 13,.K [2] [609,610,611,612,613]] rfl ⟨tt_,e⟩ ?_) fun e h=>Qa hC [.F,.n 4,.v .no [] (.I 2),.n 2] rfl ⟨⟨tt_,e⟩,rfl⟩ ?_
 ·cases h
  exact d1_ rfl rfl ⟨rfl,rfl,rfl,rfl,rfl,tt_⟩
 refine AK.met (AK.rnd ?_)
 obtain⟨E,q,h⟩:=Qc h
 refine Qa hC [.n 2,.v .no [] (.b true),.n 10,.o (.any (.loc 609 0 4) none),.n 1,.kill 4,.n 2,.O 4 (.var [.clo (.func 115) [] [.loc 611 0 0,.loc 610 0 0],.I y]),.n 6,.cm (.clo) [(609,611),(610,610)] [(611,609),(610,610)] [] [.d,.d] [(609,.var (Qe l)),(610,.var (Qu k))] (.b E),.n 3] rfl ⟨⟨⟨⟨tt_,rfl⟩,(fun σ a j _=>Stp.idxV rfl rfl (QD hC.n rfl) (a _ _ rfl) (a _ _ rfl) (Qp.es rfl) (j _ _ rfl) (by decide))⟩,rfl⟩,(Qqk _ _ q)⟩ ?_
 refine bg_ h (fun f h=>Qa hC [.T,.n 13,.K [2] [609,610,611,612,613]] rfl ⟨tt_,f⟩ ?_) fun f h=>Qa hC [.F,.n 4,.v .no [] (.I 3),.n 2] rfl ⟨⟨tt_,f⟩,rfl⟩ ?_
 ·cases h
  exact d1_ rfl rfl ⟨rfl,rfl,rfl,rfl,rfl,tt_⟩
 refine AK.met (AK.rnd ?_)
 obtain⟨G,s,h⟩:=Qc h
 refine Qa hC [.n 2,.v .no [] (.b true),.n 10,.o (.any (.loc 609 0 6) none),.n 1,.kill 4,.n 2,.O 4 (.var [.clo (.func 117) [] [.loc 610 0 0],.I z]),.n 6,.cm (.clo) [(609,610)] [(610,609)] [] [.d] [(609,.var (Qu k))] (.b G),.n 3] rfl ⟨⟨⟨⟨tt_,rfl⟩,(fun σ a j _=>Stp.idxV rfl rfl (QD hC.n rfl) (a _ _ rfl) (a _ _ rfl) (Qp.es rfl) (j _ _ rfl) (by decide))⟩,rfl⟩,(Qql _ s)⟩ ?_
 refine bg_ h (fun g h=>Qa hC [.T,.n 13,.K [2] [609,610,611,612,613]] rfl ⟨tt_,g⟩ ?_) fun g h=>Qa hC [.F,.n 4,.v .no [] (.I 4),.n 2] rfl ⟨⟨tt_,g⟩,rfl⟩ ?_
 ·cases h
  exact d1_ rfl rfl ⟨rfl,rfl,rfl,rfl,rfl,tt_⟩
 refine AK.met (AK.rnd ?_)
 obtain⟨H,t,h⟩:=Qc h
 refine Qa hC [.n 2,.v .no [] (.b true),.n 10,.o (.any (.loc 609 0 8) none),.n 1,.kill 4,.n 2,.O 4 (.var [.clo (.func 118) [] [.loc 611 0 0,.loc 610 0 0],.I A]),.n 6,.cm (.clo) [(609,611),(610,610)] [(611,609),(610,610)] [] [.d,.d] [(609,.var (Qe l)),(610,.var (Qu k))] (.b H),.n 3] rfl ⟨⟨⟨⟨tt_,rfl⟩,(fun σ a j _=>Stp.idxV rfl rfl (QD hC.n rfl) (a _ _ rfl) (a _ _ rfl) (Qp.es rfl) (j _ _ rfl) (by decide))⟩,rfl⟩,(Qqm _ _ t)⟩ ?_
 refine bg_ h (fun i h=>Qa hC [.T,.n 13,.K [2] [609,610,611,612,613]] rfl ⟨tt_,i⟩ ?_) fun i h=>Qa hC [.F,.n 4,.v .no [] (.I 5),.n 2] rfl ⟨⟨tt_,i⟩,rfl⟩ ?_
 ·cases h
  exact d1_ rfl rfl ⟨rfl,rfl,rfl,rfl,rfl,tt_⟩
 refine AK.met (AK.rnd ?_)
 refine Qa hC [.n 2,.v .no [] (.b false),.n 15] rfl ⟨tt_,rfl⟩ ?_
 cases h
 exact d1_ rfl rfl ⟨rfl,rfl,rfl,rfl,rfl,tt_⟩
def QjA (a:Qm)(b:Int):Option Int:=
 (Qak a.Places b).bind fun c=>
 bif (!c)then
 some 3
 else
 (idx a.Places b).bind fun d=>
 (Qgp d 1 a b 5 3 1 8).bind fun e=>
 some e
theorem QrY (f g){r}(h:QjA f g=some r):Qd prog 72 [.agg (Qe f),.I g] [] (Qj (.I r) []):=by
 refine Qd.walk 30 func72 rfl rfl rfl fun C hC=>?_
 obtain⟨l,i,h⟩:=Qc h
 refine Qa hC [.n 13,.o (.c false [.d,.d] (.b l)),.n 3] rfl ⟨tt_,(Qbp _ _ i)⟩ ?_
 rcases Qq h with⟨a,h⟩|⟨a,h⟩
 ·refine Qa hC [.T,.n 7] rfl ⟨tt_,a⟩ ?_
  cases h
  exact d1_ rfl rfl tt_
 obtain⟨e,j,h⟩:=Qc h
 obtain⟨m,k,h⟩:=Qc h
 refine Qa hC [.F,.n 7,.o (.row (Qu e)),.v .no [] (.agg (Qu e)),.n 2,.O 5 (.var (Qu e)),.n 7,.O 6 (.var [.clo (.func 111) [] [.loc 5 0 0]]),.n 5,.v .no [] (.agg [.clo (.func 112) [] [.loc 5 0 0],.I 1]),.n 1,.v .no [] (.agg [.clo (.func 113) [] [.loc 2 0 0,.loc 3 0 0,.loc 6 0 0],.I 5]),.n 1,.v .no [] (.agg [.clo (.func 115) [] [.loc 2 0 0,.loc 5 0 0],.I 3]),.n 1,.v .no [] (.agg [.clo (.func 117) [] [.loc 5 0 0],.I 1]),.n 1,.v .no [] (.agg [.clo (.func 118) [] [.loc 2 0 0,.loc 5 0 0],.I 8]),.o (.any (.own 28 5) (some (.var [.clo (.func 112) [] [.loc 5 0 0],.I 1,.clo (.func 113) [] [.loc 2 0 0,.loc 3 0 0,.loc 6 0 0],.I 5,.clo (.func 115) [] [.loc 2 0 0,.loc 5 0 0],.I 3,.clo (.func 117) [] [.loc 5 0 0],.I 1,.clo (.func 118) [] [.loc 2 0 0,.loc 5 0 0],.I 8]))),.cm (.fn) [(609,28),(610,5),(611,2),(612,3),(613,6)] [(28,609),(5,610),(2,611),(3,612),(6,613)] [] [.d] [(609,.var [.clo (.func 112) [] [.loc 610 0 0],.I 1,.clo (.func 113) [] [.loc 611 0 0,.loc 612 0 0,.loc 613 0 0],.I 5,.clo (.func 115) [] [.loc 611 0 0,.loc 610 0 0],.I 3,.clo (.func 117) [] [.loc 610 0 0],.I 1,.clo (.func 118) [] [.loc 611 0 0,.loc 610 0 0],.I 8]),(610,.var (Qu e)),(611,.var (Qe f)),(612,.var (Qb g)),(613,.var [.clo (.func 111) [] [.loc 610 0 0]])] (.I m),.n 4] rfl ⟨⟨⟨⟨⟨⟨⟨⟨⟨⟨⟨⟨tt_,a⟩,(QA j)⟩,rfl⟩,rfl⟩,rfl⟩,rfl⟩,rfl⟩,rfl⟩,rfl⟩,rfl⟩,(fun σ p q hf=>Stp.buildAny rfl rfl (QD hC.n rfl) (Qp.es rfl) Qlh rfl (by decide) (by decide) (Qeg p rfl) rfl rfl (hf rfl))⟩,(QpE _ _ _ _ _ _ _ _ k)⟩ ?_
 cases h
 exact d1_ rfl rfl tt_
def QjB (a:Int)(d:QG)(b:Qm):Option Int:=
 (QjA b a).bind fun c=>
 some c
theorem QrZ (e f a){r}(h:QjB e f a=some r):Qd prog 71 [.I e,.agg (Qu f),.loc 609 0 0] [(609,.var (Qe a))] (Qj (.I r) [(609,.var (Qe a))]):=by
 refine Qd.walk 9 func71 rfl rfl rfl fun C hC=>?_
 obtain⟨g,b,h⟩:=Qc h
 refine Qa hC [.n 8,.v .no [] (.agg (Qe a)),.n 1,.o (.c false [.d,.d] (.I g)),.n 4] rfl ⟨⟨tt_,rfl⟩,(QrY _ _ b)⟩ ?_
 cases h
 exact d1_ rfl rfl ⟨rfl,tt_⟩
def Qcr (d:(List QG))(e:Qm)(a:Int):Option (Int⊕((Int×Int)⊕Unit)):=
 bif (decide (a<(d.length:Int)))then
 (idx d a).bind fun c=>
 (QjB a c e).bind fun b=>
 bif (b != 0)then
 some (.inr (.inl (a,b)))
 else
 some (.inl (w64 (a+1)))
 else
 some (.inr (.inr ()))
def Qcs (b:Int)(a:Int):Option (Int×Int):=
 some (b,a)
def Qct : Option (Int×Int):=
 some (0,0)
def Qdp (a:(List QG))(b:Qm):Option (Int×Int):=
 (Qt (fun st=>Qcr a b st) 0).bind (Sum.elim (fun q=>Qcs q.1 q.2) (fun q=>Qct))
theorem Qmq (g f){r}(h:Qdp g f=some r):Qd prog 70 [.sl 3 (g.map Qu),.clo (.func 71) [] [.loc 609 0 0]] [(609,.var (Qe f))] (Qj (.tup [.I r.1,.I r.2]) [(609,.var (Qe f))]):=by
 refine Qd.walk 25 func70 rfl rfl rfl fun C hC=>?_
 refine Qa hC [.n 10,.o (.ln g.length),.n 4,.K [1,9,10,11] [609]] rfl ⟨tt_,Qg⟩ ?_
 obtain⟨l,i,h⟩:=Qc h
 refine AK.loop (body:=(fun st=>Qcr g f st)) (fun st σ=>σ=⟨[(1,.clo (.func 71) [] [.loc 609 0 0]),(9,.sl 3 (g.map Qu)),(10,.I (g.length:Int)),(11,.I st)],[(609,.var (Qe f))]⟩) (Sum.elim (fun q e σ=>e=.ret∧σ=⟨[(4,.I q.1),(5,.I q.2)],[(609,.var (Qe f))]⟩) (fun q e σ=>e=.exit 0∧σ=⟨[],[(609,.var (Qe f))]⟩)) i rfl ?_ ?_
 ·rintro t o σ rfl h
  refine tg_ hC [.n 6] rfl ?_
  rcases Qq h with⟨a,h⟩|⟨a,h⟩
  ·obtain⟨c,j,h⟩:=Qc h
   obtain⟨m,k,h⟩:=Qc h
   refine Qa hC [.T,.n 7,.o (.row (Qu c)),.v .no [] (.agg (Qu c)),.n 3,.O 7 (.var (Qu c)),.n 6,.v .no [] (.agg (Qu c)),.cm (.clo) [(609,609)] [(609,609)] [] [.d,.d,.d] [(609,.var (Qe f))] (.I m),.n 9] rfl ⟨⟨⟨⟨⟨⟨tt_,a⟩,(QA j)⟩,rfl⟩,rfl⟩,rfl⟩,(QrZ _ _ _ k)⟩ ?_
   refine bg_ h (fun b h=>Qa hC [.T,.n 11,.K [4,5] [609]] rfl ⟨tt_,b⟩ ?_) fun b h=>Qa hC [.F,.n 7,.K [1,9,10,11] [609]] rfl ⟨tt_,b⟩ ?_
   ·cases h
    exact QaH rfl (an_ rfl rfl)
   cases h
   exact QJ rfl rfl
  refine Qa hC [.F,.n 2,.K [] [609]] rfl ⟨tt_,a⟩ ?_
  cases h
  exact QK rfl (an_ rfl rfl)
 rcases l with(⟨s,p⟩|_)
 ·replace h:Qcs s p=some r:=h
  rintro e σ ⟨rfl,rfl⟩
  refine tg_ hC [.n 2] rfl ?_
  cases h
  exact d2_ rfl rfl rfl ⟨rfl,tt_⟩
 replace h:Qct=some r:=h
 rintro e σ ⟨rfl,rfl⟩
 refine tg_ hC [.n 9] rfl ?_
 cases h
 exact d2_ rfl rfl rfl ⟨rfl,tt_⟩
def QbX (b:(List Qv))(a:Int):Option Bool:=
 some ((decide (0≤a))&&(decide (a<(b.length:Int))))
theorem Qhw (d c){r}(h:QbX d c=some r):Qd prog 92 [.sl 14 (d.map Qh),.I c] [] (Qj (.b r) []):=by
 refine Qd.walk 13 func92 rfl rfl rfl fun C hC=>?_
 refine tg_ hC [.n 6] rfl ?_
 refine AK.meetX (fun σ=>σ=⟨[(4,.b ((decide (0≤c))&&(decide (c<(d.length:Int)))))],[]⟩) ?_ ?_
 ·refine tg_ hC [.n 4] rfl ?_
  rcases Qz (decide (0≤c))with a | a
  ·refine Qa hC [.S 7 (.b true),.n 2,.o (.ln d.length),.n 4,.S 4 (.b ((decide (0≤c))&&(decide (c<(d.length:Int))))),.K [4] []] rfl ⟨⟨(tc_ a),Qg⟩,(congrArg V.b (Qat a rfl))⟩ ?_
   exact AK.met rfl
  refine Qa hC [.S 7 (.b false),.n 7,.S 4 (.b ((decide (0≤c))&&(decide (c<(d.length:Int))))),.K [4] []] rfl ⟨(tc_ a),(congrArg V.b (Qbm a rfl))⟩ ?_
  exact AK.met rfl
 rintro σ rfl
 refine tg_ hC [.n 2] rfl ?_
 cases h
 exact d1_ rfl rfl tt_
def QjC (a:Int)(b:Qm)(c:Qv):Option Unit:=
 some ()
theorem Qr0 (a b c){r}(h:QjC a b c=some r):Qd prog 126 [.loc 609 0 0,.clo (.func 127) [] [.loc 610 0 0,.loc 611 0 0]] [(609,.var (Qb a)),(610,.var (Qe b)),(611,.var (Qh c))] (Qj (.clo (.func 184) [] [.loc 3 0 0,.loc 2 0 0]) [(2,.var [.loc 609 0 0]),(3,.var [.clo (.func 127) [] [.loc 610 0 0,.loc 611 0 0]]),(609,.var (Qb a)),(610,.var (Qe b)),(611,.var (Qh c))]):=by
 refine Qd.walk 6 func126 rfl rfl rfl fun C hC=>?_
 refine tg_ hC [.n 14] rfl ?_
 cases h
 exact d1_ rfl rfl ⟨rfl,rfl,rfl,rfl,rfl,tt_⟩
def Qgq (a:Int)(b:Qm)(c:Qv)(d:Int):Option Unit:=
 some ()
theorem QpF (a b c d){r}(h:Qgq a b c d=some r):Qd prog 126 [.loc 609 0 0,.clo (.func 132) [] [.loc 610 0 0,.loc 611 0 0,.loc 612 0 0]] [(609,.var (Qb a)),(610,.var (Qe b)),(611,.var (Qh c)),(612,.var (Qb d))] (Qj (.clo (.func 184) [] [.loc 3 0 0,.loc 2 0 0]) [(2,.var [.loc 609 0 0]),(3,.var [.clo (.func 132) [] [.loc 610 0 0,.loc 611 0 0,.loc 612 0 0]]),(609,.var (Qb a)),(610,.var (Qe b)),(611,.var (Qh c)),(612,.var (Qb d))]):=by
 refine Qd.walk 6 func126 rfl rfl rfl fun C hC=>?_
 refine tg_ hC [.n 14] rfl ?_
 cases h
 exact d1_ rfl rfl ⟨rfl,rfl,rfl,rfl,rfl,rfl,tt_⟩
def Qgr (a:Int)(b:Qm)(c:Qv)(d:Int):Option Unit:=
 some ()
theorem QpG (a b c d){r}(h:Qgr a b c d=some r):Qd prog 126 [.loc 609 0 0,.clo (.func 134) [] [.loc 610 0 0,.loc 611 0 0,.loc 612 0 0]] [(609,.var (Qb a)),(610,.var (Qe b)),(611,.var (Qh c)),(612,.var (Qb d))] (Qj (.clo (.func 184) [] [.loc 3 0 0,.loc 2 0 0]) [(2,.var [.loc 609 0 0]),(3,.var [.clo (.func 134) [] [.loc 610 0 0,.loc 611 0 0,.loc 612 0 0]]),(609,.var (Qb a)),(610,.var (Qe b)),(611,.var (Qh c)),(612,.var (Qb d))]):=by
 refine Qd.walk 6 func126 rfl rfl rfl fun C hC=>?_
 refine tg_ hC [.n 14] rfl ?_
 cases h
 exact d1_ rfl rfl ⟨rfl,rfl,rfl,rfl,rfl,rfl,tt_⟩
def Qgs (a:Int)(b:Qm)(c:Qv):Option Unit:=
 some ()
theorem QpH (a b c){r}(h:Qgs a b c=some r):Qd prog 126 [.loc 609 0 0,.clo (.func 135) [] [.loc 610 0 0,.loc 611 0 0]] [(609,.var (Qb a)),(610,.var (Qe b)),(611,.var (Qh c))] (Qj (.clo (.func 184) [] [.loc 3 0 0,.loc 2 0 0]) [(2,.var [.loc 609 0 0]),(3,.var [.clo (.func 135) [] [.loc 610 0 0,.loc 611 0 0]]),(609,.var (Qb a)),(610,.var (Qe b)),(611,.var (Qh c))]):=by
 refine Qd.walk 6 func126 rfl rfl rfl fun C hC=>?_
 refine tg_ hC [.n 14] rfl ?_
 cases h
 exact d1_ rfl rfl ⟨rfl,rfl,rfl,rfl,rfl,tt_⟩
def QiG (a:Qv):Option Bool:=
 (Qdz a.Name).bind fun b=>
 some b
theorem Qq7 (a){r}(h:QiG a=some r):Qd prog 122 [.loc 609 0 0] [(609,.var (Qh a))] (Qj (.b r) [(609,.var (Qh a))]):=by
 refine Qd.walk 5 func122 rfl rfl rfl fun C hC=>?_
 obtain⟨f,e,h⟩:=Qc h
 refine Qa hC [.n 9,.o (.c false [.d] (.b f)),.n 4] rfl ⟨tt_,(Qe3 _ e)⟩ ?_
 cases h
 exact d1_ rfl rfl ⟨rfl,tt_⟩
def QiH (a:Qv)(b:Qv):Option Bool:=
 some (Qgc a.Name b.Name)
theorem Qq8 (c a){r}(h:QiH c a=some r):Qd prog 121 [.agg (Qh c),.loc 609 0 0] [(609,.var (Qh a))] (Qj (.b r) [(609,.var (Qh a))]):=by
 refine Qd.walk 9 func121 rfl rfl rfl fun C hC=>?_
 refine tg_ hC [.n 17] rfl ?_
 cases h
 exact d1_ rfl rfl ⟨rfl,tt_⟩
def Qau (c:(List Qv))(d:Qv)(a:Int):Option (Int⊕(Int⊕Unit)):=
 bif (decide (a<(c.length:Int)))then
 (idx c a).bind fun e=>
 (QiH e d).bind fun b=>
 bif b then
 some (.inr (.inl a))
 else
 some (.inl (w64 (a+1)))
 else
 some (.inr (.inr ()))
def Qav (a:Int):Option Int:=
 some a
def Qaw : Option Int:=
 some (-1)
def QaM (a:(List Qv))(b:Qv):Option Int:=
 (Qt (fun st=>Qau a b st) 0).bind (Sum.elim (fun q=>Qav q) (fun q=>Qaw))
theorem QgP (g c){r}(h:QaM g c=some r):Qd prog 183 [.sl 14 (g.map Qh),.clo (.func 121) [] [.loc 609 0 0]] [(609,.var (Qh c))] (Qj (.I r) [(609,.var (Qh c))]):=by
 refine Qd.walk 19 func183 rfl rfl rfl fun C hC=>?_
 refine Qa hC [.n 9,.o (.ln g.length),.n 4,.K [0,1,7,8] [609]] rfl ⟨tt_,Qg⟩ ?_
 obtain⟨k,i,h⟩:=Qc h
 refine AK.loop (body:=(fun st=>Qau g c st)) (fun st σ=>σ=⟨[(0,.sl 14 (g.map Qh)),(1,.clo (.func 121) [] [.loc 609 0 0]),(7,.I (g.length:Int)),(8,.I st)],[(609,.var (Qh c))]⟩) (Sum.elim (fun q e σ=>e=.ret∧σ=⟨[(4,.I q)],[(609,.var (Qh c))]⟩) (fun q e σ=>e=.exit 0∧σ=⟨[],[(609,.var (Qh c))]⟩)) i rfl ?_ ?_
 ·rintro t o σ rfl h
  refine tg_ hC [.n 6] rfl ?_
  rcases Qq h with⟨f,h⟩|⟨f,h⟩
  ·obtain⟨p,l,h⟩:=Qc h
   obtain⟨m,j,h⟩:=Qc h
   refine Qa hC [.T,.n 15,.o (.row (Qh p)),.v .no [] (.agg (Qh p)),.cm (.clo) [(609,609)] [(609,609)] [] [.d,.d] [(609,.var (Qh c))] (.b m),.n 2] rfl ⟨⟨⟨⟨tt_,f⟩,(QA l)⟩,rfl⟩,(Qq8 _ _ j)⟩ ?_
   refine bg_ h (fun a h=>Qa hC [.T,.n 9,.K [4] [609]] rfl ⟨tt_,a⟩ ?_) fun a h=>Qa hC [.F,.n 7,.K [0,1,7,8] [609]] rfl ⟨tt_,a⟩ ?_
   ·cases h
    exact QaH rfl (an_ rfl rfl)
   cases h
   exact QJ rfl rfl
  refine Qa hC [.F,.n 2,.K [] [609]] rfl ⟨tt_,f⟩ ?_
  cases h
  exact QK rfl (an_ rfl rfl)
 rcases k with(s | _)
 ·replace h:Qav s=some r:=h
  rintro e σ ⟨rfl,rfl⟩
  refine tg_ hC [.n 2] rfl ?_
  cases h
  exact d1_ rfl rfl ⟨rfl,tt_⟩
 replace h:Qaw=some r:=h
 rintro e σ ⟨rfl,rfl⟩
 refine tg_ hC [.n 8] rfl ?_
 cases h
 exact d1_ rfl rfl ⟨rfl,tt_⟩
def Qax (a:(List Qv))(b:Qv):Option Bool:=
 (QaM a b).bind fun c=>
 some (decide (0≤c))
theorem QfV (e a){r}(h:Qax e a=some r):Qd prog 124 [.sl 14 (e.map Qh),.clo (.func 121) [] [.loc 609 0 0]] [(609,.var (Qh a))] (Qj (.b r) [(609,.var (Qh a))]):=by
 refine Qd.walk 9 func124 rfl rfl rfl fun C hC=>?_
 obtain⟨f,c,h⟩:=Qc h
 refine Qa hC [.n 9,.cm (.fn) [(609,609)] [(609,609)] [] [.d,.d] [(609,.var (Qh a))] (.I f),.n 5] rfl ⟨tt_,(QgP _ _ c)⟩ ?_
 cases h
 exact d1_ rfl rfl ⟨rfl,tt_⟩
def QiI (b:Qm)(a:Int)(c:Qv):Option Bool:=
 (chk (decide (0≤a)&&decide (0≤a.toNat)&&decide (a.toNat≤b.Tasks.length))).bind fun _=>
 (Qax ((b.Tasks.drop 0).take (a.toNat-0)) c).bind fun d=>
 some (!d)
theorem Qq9 (e f g){r}(h:QiI e f g=some r):Qd prog 123 [.loc 609 0 0,.loc 610 0 0,.loc 611 0 0] [(609,.var (Qe e)),(610,.var (Qb f)),(611,.var [.clo (.func 121) [] [.loc 612 0 0]]),(612,.var (Qh g))] (Qj (.b r) [(609,.var (Qe e)),(610,.var (Qb f)),(611,.var [.clo (.func 121) [] [.loc 612 0 0]]),(612,.var (Qh g))]):=by
 refine Qd.walk 11 func123 rfl rfl rfl fun C hC=>?_
 obtain⟨c,h⟩:=Qas h
 obtain⟨k,j,h⟩:=Qc h
 refine tg_ hC [.n 6,.K [0,1,2,3] [609,610,611,612]] rfl ?_
 refine AK.draw2 Qp hC mixed [.N,.N,.N,.a (.any (.sl 14 (((e.Tasks.drop 0).take (f.toNat-0)).map Qh)) none) none false,.N,.a (.any (.b k) none) none false,.N,.m .s] [] [] [3] [609,610,611,612] rfl rfl rfl ⟨⟨tt_,(fun σ i l _=>Stp.sliceD rfl rfl (QD hC.n rfl) (i _ _ rfl) (Qp.es rfl) Bnd.no (Bnd.val (i _ _ rfl) (Qag (Qp8 c)) rfl) (Qag (Qp9 c)) (QdG (Qag (Qqa c)) (Nat.le_of_eq Qg.symm)) QsJ)⟩,(fun σ i l _=>Stp.callSame (md:=.cm (.fn) [(609,612)] [(612,609)] [] [.d,.d] [(609,.var (Qh g))] (.b k) [612]) Qp hC i l rfl ⟨⟨tt_,(QfV _ _ j)⟩,⟨rfl,tt_⟩⟩)⟩ rfl (by kernel_rfl) rfl rfl rfl ?_
 refine tg_ hC [.n 2] rfl ?_
 cases h
 exact d1_ rfl rfl ⟨rfl,rfl,rfl,rfl,tt_⟩
def QfW (b:Int)(a:Qv):Option Bool:=
 some ((decide (b≤16))&&(decide ((max2 (max2 (a.Ins.length:Int) (a.Outs.length:Int)) (a.Cancel.length:Int))≤16)))
theorem Qra (d a){r}(h:QfW d a=some r):Qd prog 125 [.loc 609 0 0,.loc 610 0 0] [(609,.var (Qb d)),(610,.var (Qh a))] (Qj (.b r) [(609,.var (Qb d)),(610,.var (Qh a))]):=by
 refine Qd.walk 18 func125 rfl rfl rfl fun C hC=>?_
 refine tg_ hC [.n 6] rfl ?_
 refine AK.meetX (fun σ=>σ=⟨[(2,.b ((decide (d≤16))&&(decide ((max2 (max2 (a.Ins.length:Int) (a.Outs.length:Int)) (a.Cancel.length:Int))≤16))))],[(609,.var (Qb d)),(610,.var (Qh a))]⟩) ?_ ?_
 ·refine tg_ hC [.n 4] rfl ?_
  rcases Qz (decide (d≤16))with c | c
  ·refine Qa hC [.S 5 (.b true),.n 2,.o (.ln a.Ins.length),.n 2,.o (.ln a.Outs.length),.n 2,.o (.ln a.Cancel.length),.o (.any (.I (max2 (max2 (a.Ins.length:Int) (a.Outs.length:Int)) (a.Cancel.length:Int))) none),.n 4,.S 2 (.b ((decide (d≤16))&&(decide ((max2 (max2 (a.Ins.length:Int) (a.Outs.length:Int)) (a.Cancel.length:Int))≤16)))),.K [2] [609,610]] rfl ⟨⟨⟨⟨⟨(tc_ c),Qg⟩,Qg⟩,Qg⟩,(fun σ e f _=>Stp.max3 rfl rfl (QD hC.n rfl) (e _ _ rfl) (e _ _ rfl) (e _ _ rfl))⟩,(congrArg V.b (Qat c rfl))⟩ ?_
   exact AK.met rfl
  refine Qa hC [.S 5 (.b false),.n 14,.S 2 (.b ((decide (d≤16))&&(decide ((max2 (max2 (a.Ins.length:Int) (a.Outs.length:Int)) (a.Cancel.length:Int))≤16)))),.K [2] [609,610]] rfl ⟨(tc_ c),(congrArg V.b (Qbm c rfl))⟩ ?_
  exact AK.met rfl
 rintro σ rfl
 refine tg_ hC [.n 2] rfl ?_
 cases h
 exact d1_ rfl rfl ⟨rfl,rfl,tt_⟩
def QdM (a:Qae):Option Bool:=
 (Qdz a.Name).bind fun b=>
 some b
theorem Qm3 (a){r}(h:QdM a=some r):Qd prog 188 [.loc 609 0 0] [(609,.var (QB a))] (Qj (.b r) [(609,.var (QB a))]):=by
 refine Qd.walk 5 func188 rfl rfl rfl fun C hC=>?_
 obtain⟨f,e,h⟩:=Qc h
 refine Qa hC [.n 9,.o (.c false [.d] (.b f)),.n 4] rfl ⟨tt_,(Qe3 _ e)⟩ ?_
 cases h
 exact d1_ rfl rfl ⟨rfl,tt_⟩
def QdN (a:Qae)(b:Qae):Option Bool:=
 some (Qgc a.Name b.Name)
theorem Qm4 (c a){r}(h:QdN c a=some r):Qd prog 187 [.agg (QB c),.loc 609 0 0] [(609,.var (QB a))] (Qj (.b r) [(609,.var (QB a))]):=by
 refine Qd.walk 9 func187 rfl rfl rfl fun C hC=>?_
 refine tg_ hC [.n 17] rfl ?_
 cases h
 exact d1_ rfl rfl ⟨rfl,tt_⟩
def QaD (c:(List Qae))(d:Qae)(a:Int):Option (Int⊕(Int⊕Unit)):=
 bif (decide (a<(c.length:Int)))then
 (idx c a).bind fun e=>
 (QdN e d).bind fun b=>
 bif b then
 some (.inr (.inl a))
 else
 some (.inl (w64 (a+1)))
 else
 some (.inr (.inr ()))
def QaE (a:Int):Option Int:=
 some a
def QaF : Option Int:=
 some (-1)
def QaX (a:(List Qae))(b:Qae):Option Int:=
 (Qt (fun st=>QaD a b st) 0).bind (Sum.elim (fun q=>QaE q) (fun q=>QaF))
theorem QhE (g c){r}(h:QaX g c=some r):Qd prog 227 [.sl 2 (g.map QB),.clo (.func 187) [] [.loc 609 0 0]] [(609,.var (QB c))] (Qj (.I r) [(609,.var (QB c))]):=by
 refine Qd.walk 19 func227 rfl rfl rfl fun C hC=>?_
 refine Qa hC [.n 9,.o (.ln g.length),.n 4,.K [0,1,7,8] [609]] rfl ⟨tt_,Qg⟩ ?_
 obtain⟨k,i,h⟩:=Qc h
 refine AK.loop (body:=(fun st=>QaD g c st)) (fun st σ=>σ=⟨[(0,.sl 2 (g.map QB)),(1,.clo (.func 187) [] [.loc 609 0 0]),(7,.I (g.length:Int)),(8,.I st)],[(609,.var (QB c))]⟩) (Sum.elim (fun q e σ=>e=.ret∧σ=⟨[(4,.I q)],[(609,.var (QB c))]⟩) (fun q e σ=>e=.exit 0∧σ=⟨[],[(609,.var (QB c))]⟩)) i rfl ?_ ?_
 ·rintro t o σ rfl h
  refine tg_ hC [.n 6] rfl ?_
  rcases Qq h with⟨f,h⟩|⟨f,h⟩
  ·obtain⟨p,l,h⟩:=Qc h
   obtain⟨m,j,h⟩:=Qc h
   refine Qa hC [.T,.n 15,.o (.row (QB p)),.v .no [] (.agg (QB p)),.cm (.clo) [(609,609)] [(609,609)] [] [.d,.d] [(609,.var (QB c))] (.b m),.n 2] rfl ⟨⟨⟨⟨tt_,f⟩,(QA l)⟩,rfl⟩,(Qm4 _ _ j)⟩ ?_
   refine bg_ h (fun a h=>Qa hC [.T,.n 9,.K [4] [609]] rfl ⟨tt_,a⟩ ?_) fun a h=>Qa hC [.F,.n 7,.K [0,1,7,8] [609]] rfl ⟨tt_,a⟩ ?_
   ·cases h
    exact QaH rfl (an_ rfl rfl)
   cases h
   exact QJ rfl rfl
  refine Qa hC [.F,.n 2,.K [] [609]] rfl ⟨tt_,f⟩ ?_
  cases h
  exact QK rfl (an_ rfl rfl)
 rcases k with(s | _)
 ·replace h:QaE s=some r:=h
  rintro e σ ⟨rfl,rfl⟩
  refine tg_ hC [.n 2] rfl ?_
  cases h
  exact d1_ rfl rfl ⟨rfl,tt_⟩
 replace h:QaF=some r:=h
 rintro e σ ⟨rfl,rfl⟩
 refine tg_ hC [.n 8] rfl ?_
 cases h
 exact d1_ rfl rfl ⟨rfl,tt_⟩
def QaG (a:(List Qae))(b:Qae):Option Bool:=
 (QaX a b).bind fun c=>
 some (decide (0≤c))
theorem Qgt (e a){r}(h:QaG e a=some r):Qd prog 190 [.sl 2 (e.map QB),.clo (.func 187) [] [.loc 609 0 0]] [(609,.var (QB a))] (Qj (.b r) [(609,.var (QB a))]):=by
 refine Qd.walk 9 func190 rfl rfl rfl fun C hC=>?_
 obtain⟨f,c,h⟩:=Qc h
 refine Qa hC [.n 9,.cm (.fn) [(609,609)] [(609,609)] [] [.d,.d] [(609,.var (QB a))] (.I f),.n 5] rfl ⟨tt_,(QhE _ _ c)⟩ ?_
 cases h
 exact d1_ rfl rfl ⟨rfl,tt_⟩
def QdO (b:(List Qae))(a:Int)(c:Qae):Option Bool:=
 (chk (decide (0≤a)&&decide (0≤a.toNat)&&decide (a.toNat≤b.length))).bind fun _=>
 (QaG ((b.drop 0).take (a.toNat-0)) c).bind fun d=>
 some (!d)
theorem Qm5 (e f g){r}(h:QdO e f g=some r):Qd prog 189 [.loc 609 0 0,.loc 610 0 0,.loc 611 0 0] [(609,.var (Qbv e)),(610,.var (Qb f)),(611,.var [.clo (.func 187) [] [.loc 612 0 0]]),(612,.var (QB g))] (Qj (.b r) [(609,.var (Qbv e)),(610,.var (Qb f)),(611,.var [.clo (.func 187) [] [.loc 612 0 0]]),(612,.var (QB g))]):=by
 refine Qd.walk 10 func189 rfl rfl rfl fun C hC=>?_
 obtain⟨c,h⟩:=Qas h
 obtain⟨k,j,h⟩:=Qc h
 refine tg_ hC [.n 6,.K [0,1,2,3] [609,610,611,612]] rfl ?_
 refine AK.draw2 Qp hC mixed [.N,.N,.a (.any (.sl 2 (((e.drop 0).take (f.toNat-0)).map QB)) none) none false,.N,.a (.any (.b k) none) none false,.N,.m .s] [] [] [3] [609,610,611,612] rfl rfl rfl ⟨⟨tt_,(fun σ i l _=>Stp.sliceD rfl rfl (QD hC.n rfl) (i _ _ rfl) (Qp.es rfl) Bnd.no (Bnd.val (i _ _ rfl) (Qag (Qp8 c)) rfl) (Qag (Qp9 c)) (QdG (Qag (Qqa c)) (Nat.le_of_eq Qg.symm)) QsJ)⟩,(fun σ i l _=>Stp.callSame (md:=.cm (.fn) [(609,612)] [(612,609)] [] [.d,.d] [(609,.var (QB g))] (.b k) [612]) Qp hC i l rfl ⟨⟨tt_,(Qgt _ _ j)⟩,⟨rfl,tt_⟩⟩)⟩ rfl (by kernel_rfl) rfl rfl rfl ?_
 refine tg_ hC [.n 2] rfl ?_
 cases h
 exact d1_ rfl rfl ⟨rfl,rfl,rfl,rfl,tt_⟩
def QdP (a:Qm)(b:Qae):Option Bool:=
 (QbF a.Colours b.Colour).bind fun c=>
 some c
theorem Qm6 (a e){r}(h:QdP a e=some r):Qd prog 191 [.loc 609 0 0,.loc 610 0 0] [(609,.var (Qe a)),(610,.var (QB e))] (Qj (.b r) [(609,.var (Qe a)),(610,.var (QB e))]):=by
 refine Qd.walk 8 func191 rfl rfl rfl fun C hC=>?_
 obtain⟨g,f,h⟩:=Qc h
 refine Qa hC [.n 11,.o (.c false [.d,.d] (.b g)),.n 4] rfl ⟨tt_,(Qf6 _ _ f)⟩ ?_
 cases h
 exact d1_ rfl rfl ⟨rfl,rfl,tt_⟩
def Qgu (a:Qae)(e:Int)(f:(List Qae))(g:Int)(h:Int)(i:Qm)(j:Int):Option Int:=
 (QdM a).bind fun b=>
 bif (!b)then
 some e
 else
 (QdO f g a).bind fun c=>
 bif (!c)then
 some h
 else
 (QdP i a).bind fun d=>
 bif (!d)then
 some j
 else
 some 0
theorem QpI (g m p q s t u){r}(h:Qgu g m p q s t u=some r):Qd prog 64 [.own 609 3] [(609,.var [.clo (.func 188) [] [.loc 610 0 0],.I m,.clo (.func 189) [] [.loc 611 0 0,.loc 612 0 0,.loc 613 0 0],.I s,.clo (.func 191) [] [.loc 614 0 0,.loc 610 0 0],.I u]),(610,.var (QB g)),(611,.var (Qbv p)),(612,.var (Qb q)),(613,.var [.clo (.func 187) [] [.loc 610 0 0]]),(614,.var (Qe t))] (Qj (.I r) [(609,.var [.clo (.func 188) [] [.loc 610 0 0],.I m,.clo (.func 189) [] [.loc 611 0 0,.loc 612 0 0,.loc 613 0 0],.I s,.clo (.func 191) [] [.loc 614 0 0,.loc 610 0 0],.I u]),(610,.var (QB g)),(611,.var (Qbv p)),(612,.var (Qb q)),(613,.var [.clo (.func 187) [] [.loc 610 0 0]]),(614,.var (Qe t))]):=by
 refine Qd.walk 18 func64 rfl rfl rfl fun C hC=>?_
 refine tg_ hC [.n 14] rfl ?_
 refine AK.loopN 4 (AK.rnd ?_)
 obtain⟨w,i,h⟩:=Qc h
 refine Qa hC [.n 2,.v .no [] (.b true),.n 10,.o (.any (.loc 609 0 0) none),.n 3,.O 4 (.var [.clo (.func 188) [] [.loc 610 0 0],.I m]),.n 6,.cm (.clo) [(609,610)] [(610,609)] [] [.d] [(609,.var (QB g))] (.b w),.n 3] rfl ⟨⟨⟨⟨tt_,rfl⟩,(fun σ f j _=>Stp.idxV rfl rfl (QD hC.n rfl) (f _ _ rfl) (f _ _ rfl) (Qp.es rfl) (j _ _ rfl) (by decide))⟩,rfl⟩,(Qm3 _ i)⟩ ?_
 refine bg_ h (fun a h=>Qa hC [.T,.n 13,.K [2] [609,610,611,612,613,614]] rfl ⟨tt_,a⟩ ?_) fun a h=>Qa hC [.F,.n 4,.v .no [] (.I 1),.n 2] rfl ⟨⟨tt_,a⟩,rfl⟩ ?_
 ·cases h
  exact d1_ rfl rfl ⟨rfl,rfl,rfl,rfl,rfl,rfl,tt_⟩
 refine AK.met (AK.rnd ?_)
 obtain⟨x,k,h⟩:=Qc h
 refine Qa hC [.n 2,.v .no [] (.b true),.n 10,.o (.any (.loc 609 0 2) none),.n 1,.kill 4,.n 2,.O 4 (.var [.clo (.func 189) [] [.loc 611 0 0,.loc 612 0 0,.loc 613 0 0],.I s]),.n 6,.cm (.clo) [(609,611),(610,612),(611,613),(612,610)] [(611,609),(612,610),(613,611),(610,612)] [] [.d,.d,.d] [(609,.var (Qbv p)),(610,.var (Qb q)),(611,.var [.clo (.func 187) [] [.loc 612 0 0]]),(612,.var (QB g))] (.b x),.n 3] rfl ⟨⟨⟨⟨tt_,rfl⟩,(fun σ f j _=>Stp.idxV rfl rfl (QD hC.n rfl) (f _ _ rfl) (f _ _ rfl) (Qp.es rfl) (j _ _ rfl) (by decide))⟩,rfl⟩,(Qm5 _ _ _ k)⟩ ?_
 refine bg_ h (fun c h=>Qa hC [.T,.n 13,.K [2] [609,610,611,612,613,614]] rfl ⟨tt_,c⟩ ?_) fun c h=>Qa hC [.F,.n 4,.v .no [] (.I 2),.n 2] rfl ⟨⟨tt_,c⟩,rfl⟩ ?_
 ·cases h
  exact d1_ rfl rfl ⟨rfl,rfl,rfl,rfl,rfl,rfl,tt_⟩
 refine AK.met (AK.rnd ?_)
 obtain⟨y,l,h⟩:=Qc h
 refine Qa hC [.n 2,.v .no [] (.b true),.n 10,.o (.any (.loc 609 0 4) none),.n 1,.kill 4,.n 2,.O 4 (.var [.clo (.func 191) [] [.loc 614 0 0,.loc 610 0 0],.I u]),.n 6,.cm (.clo) [(609,614),(610,610)] [(614,609),(610,610)] [] [.d,.d] [(609,.var (Qe t)),(610,.var (QB g))] (.b y),.n 3] rfl ⟨⟨⟨⟨tt_,rfl⟩,(fun σ f j _=>Stp.idxV rfl rfl (QD hC.n rfl) (f _ _ rfl) (f _ _ rfl) (Qp.es rfl) (j _ _ rfl) (by decide))⟩,rfl⟩,(Qm6 _ _ l)⟩ ?_
 refine bg_ h (fun e h=>Qa hC [.T,.n 13,.K [2] [609,610,611,612,613,614]] rfl ⟨tt_,e⟩ ?_) fun e h=>Qa hC [.F,.n 4,.v .no [] (.I 3),.n 2] rfl ⟨⟨tt_,e⟩,rfl⟩ ?_
 ·cases h
  exact d1_ rfl rfl ⟨rfl,rfl,rfl,rfl,rfl,rfl,tt_⟩
 refine AK.met (AK.rnd ?_)
 refine Qa hC [.n 2,.v .no [] (.b false),.n 15] rfl ⟨tt_,rfl⟩ ?_
 cases h
 exact d1_ rfl rfl ⟨rfl,rfl,rfl,rfl,rfl,rfl,tt_⟩
def QeH (a:Int)(b:Qae)(c:(List Qae))(d:Qm):Option Int:=
 (Qgu b 1 c a 5 d 3).bind fun e=>
 some e
theorem Qob (c e a b){r}(h:QeH c e a b=some r):Qd prog 186 [.I c,.agg (QB e),.loc 609 0 0,.loc 610 0 0] [(609,.var (Qbv a)),(610,.var (Qe b))] (Qj (.I r) [(609,.var (Qbv a)),(610,.var (Qe b))]):=by
 refine Qd.walk 17 func186 rfl rfl rfl fun C hC=>?_
 obtain⟨g,f,h⟩:=Qc h
 refine Qa hC [.n 12,.O 7 (.var [.clo (.func 187) [] [.loc 5 0 0]]),.n 5,.v .no [] (.agg [.clo (.func 188) [] [.loc 5 0 0],.I 1]),.n 1,.v .no [] (.agg [.clo (.func 189) [] [.loc 609 0 0,.loc 4 0 0,.loc 7 0 0],.I 5]),.n 1,.v .no [] (.agg [.clo (.func 191) [] [.loc 610 0 0,.loc 5 0 0],.I 3]),.o (.any (.own 15 3) (some (.var [.clo (.func 188) [] [.loc 5 0 0],.I 1,.clo (.func 189) [] [.loc 609 0 0,.loc 4 0 0,.loc 7 0 0],.I 5,.clo (.func 191) [] [.loc 610 0 0,.loc 5 0 0],.I 3]))),.cm (.fn) [(609,15),(610,5),(611,609),(612,4),(613,7),(614,610)] [(15,609),(5,610),(609,611),(4,612),(7,613),(610,614)] [] [.d] [(609,.var [.clo (.func 188) [] [.loc 610 0 0],.I 1,.clo (.func 189) [] [.loc 611 0 0,.loc 612 0 0,.loc 613 0 0],.I 5,.clo (.func 191) [] [.loc 614 0 0,.loc 610 0 0],.I 3]),(610,.var (QB e)),(611,.var (Qbv a)),(612,.var (Qb c)),(613,.var [.clo (.func 187) [] [.loc 610 0 0]]),(614,.var (Qe b))] (.I g),.n 4] rfl ⟨⟨⟨⟨⟨⟨tt_,rfl⟩,rfl⟩,rfl⟩,rfl⟩,(fun σ i j hf=>Stp.buildAny rfl rfl (QD hC.n rfl) (Qp.es rfl) Qlh rfl (by decide) (by decide) (Qeg i rfl) rfl rfl (hf rfl))⟩,(QpI _ _ _ _ _ _ _ f)⟩ ?_
 cases h
 exact d1_ rfl rfl ⟨rfl,rfl,tt_⟩
def Qc2 (d:(List Qae))(e:(List Qae))(f:Qm)(a:Int):Option (Int⊕((Int×Int)⊕Unit)):=
 bif (decide (a<(d.length:Int)))then
 (idx d a).bind fun c=>
 (QeH a c e f).bind fun b=>
 bif (b != 0)then
 some (.inr (.inl (a,b)))
 else
 some (.inl (w64 (a+1)))
 else
 some (.inr (.inr ()))
def Qc3 (a:Int)(b:Int):Option (Int×Int):=
 some (a,b)
def Qc4 : Option (Int×Int):=
 some (0,0)
def Qd9 (a:(List Qae))(b:(List Qae))(c:Qm):Option (Int×Int):=
 (Qt (fun st=>Qc2 a b c st) 0).bind (Sum.elim (fun q=>Qc3 q.1 q.2) (fun q=>Qc4))
theorem Qnt (i f g){r}(h:Qd9 i f g=some r):Qd prog 185 [.sl 2 (i.map QB),.clo (.func 186) [] [.loc 609 0 0,.loc 610 0 0]] [(609,.var (Qbv f)),(610,.var (Qe g))] (Qj (.tup [.I r.1,.I r.2]) [(609,.var (Qbv f)),(610,.var (Qe g))]):=by
 refine Qd.walk 25 func185 rfl rfl rfl fun C hC=>?_
 refine Qa hC [.n 10,.o (.ln i.length),.n 4,.K [1,9,10,11] [609,610]] rfl ⟨tt_,Qg⟩ ?_
 obtain⟨m,j,h⟩:=Qc h
 refine AK.loop (body:=(fun st=>Qc2 i f g st)) (fun st σ=>σ=⟨[(1,.clo (.func 186) [] [.loc 609 0 0,.loc 610 0 0]),(9,.sl 2 (i.map QB)),(10,.I (i.length:Int)),(11,.I st)],[(609,.var (Qbv f)),(610,.var (Qe g))]⟩) (Sum.elim (fun q e σ=>e=.ret∧σ=⟨[(4,.I q.1),(5,.I q.2)],[(609,.var (Qbv f)),(610,.var (Qe g))]⟩) (fun q e σ=>e=.exit 0∧σ=⟨[],[(609,.var (Qbv f)),(610,.var (Qe g))]⟩)) j rfl ?_ ?_
 ·rintro u o σ rfl h
  refine tg_ hC [.n 6] rfl ?_
  rcases Qq h with⟨a,h⟩|⟨a,h⟩
  ·obtain⟨c,k,h⟩:=Qc h
   obtain⟨p,l,h⟩:=Qc h
   refine Qa hC [.T,.n 7,.o (.row (QB c)),.v .no [] (.agg (QB c)),.n 3,.O 7 (.var (QB c)),.n 6,.v .no [] (.agg (QB c)),.cm (.clo) [(609,609),(610,610)] [(609,609),(610,610)] [] [.d,.d,.d,.d] [(609,.var (Qbv f)),(610,.var (Qe g))] (.I p),.n 9] rfl ⟨⟨⟨⟨⟨⟨tt_,a⟩,(QA k)⟩,rfl⟩,rfl⟩,rfl⟩,(Qob _ _ _ _ l)⟩ ?_
   refine bg_ h (fun b h=>Qa hC [.T,.n 11,.K [4,5] [609,610]] rfl ⟨tt_,b⟩ ?_) fun b h=>Qa hC [.F,.n 7,.K [1,9,10,11] [609,610]] rfl ⟨tt_,b⟩ ?_
   ·cases h
    exact QaH rfl (an_ rfl rfl)
   cases h
   exact QJ rfl rfl
  refine Qa hC [.F,.n 2,.K [] [609,610]] rfl ⟨tt_,a⟩ ?_
  cases h
  exact QK rfl (an_ rfl rfl)
 rcases m with(⟨s,t⟩|_)
 ·replace h:Qc3 s t=some r:=h
  rintro e σ ⟨rfl,rfl⟩
  refine tg_ hC [.n 2] rfl ?_
  cases h
  exact d2_ rfl rfl rfl ⟨rfl,rfl,tt_⟩
 replace h:Qc4=some r:=h
 rintro e σ ⟨rfl,rfl⟩
 refine tg_ hC [.n 9] rfl ?_
 cases h
 exact d2_ rfl rfl rfl ⟨rfl,rfl,tt_⟩
def QfL (b:Qm)(a:(List Qae)):Option Int:=
 (Qd9 a a b).bind fun c=>
 some c.2
theorem Qpm (a b){r}(h:QfL a b=some r):Qd prog 128 [.agg (Qe a),.sl 2 (b.map QB)] [] (Qj (.I r) []):=by
 refine Qd.walk 14 func128 rfl rfl rfl fun C hC=>?_
 obtain⟨e,c,h⟩:=Qc h
 refine Qa hC [.n 11,.cm (.fn) [(609,3),(610,2)] [(3,609),(2,610)] [] [.d,.d] [(609,.var (Qbv b)),(610,.var (Qe a))] (.tup [.I e.1,.I e.2]),.n 14] rfl ⟨tt_,(Qnt _ _ _ c)⟩ ?_
 cases h
 exact d1_ rfl rfl tt_
def QiJ (a:Qm)(b:Qv):Option Int:=
 (QfL a b.Vars).bind fun c=>
 some c
theorem Qrb (a b){r}(h:QiJ a b=some r):Qd prog 127 [.loc 609 0 0,.loc 610 0 0] [(609,.var (Qe a)),(610,.var (Qh b))] (Qj (.I r) [(609,.var (Qe a)),(610,.var (Qh b))]):=by
 refine Qd.walk 7 func127 rfl rfl rfl fun C hC=>?_
 obtain⟨f,e,h⟩:=Qc h
 refine Qa hC [.n 7,.v .no [] (.agg (Qe a)),.n 2,.o (.c false [.d,.d] (.I f)),.n 4] rfl ⟨⟨tt_,rfl⟩,(Qpm _ _ e)⟩ ?_
 cases h
 exact d1_ rfl rfl ⟨rfl,rfl,tt_⟩
def Qhx (b:Qm)(c:Qv)(d:Int):Option (Bool×Int):=
 (QiJ b c).bind fun a=>
 some ((a==0),a)
theorem Qqn (c e i){r}(h:Qhx c e i=some r):Qd prog 184 [.loc 609 0 0,.loc 612 0 0] [(609,.var [.clo (.func 127) [] [.loc 610 0 0,.loc 611 0 0]]),(610,.var (Qe c)),(611,.var (Qh e)),(612,.var [.loc 613 0 0]),(613,.var (Qb i))] (Qj (.b r.1) [(609,.var [.clo (.func 127) [] [.loc 610 0 0,.loc 611 0 0]]),(610,.var (Qe c)),(611,.var (Qh e)),(612,.var [.loc 613 0 0]),(613,.var (Qb r.2))]):=by
 refine Qd.walk 11 func184 rfl rfl rfl fun C hC=>?_
 obtain⟨f,g,h⟩:=Qc h
 refine tg_ hC [.n 6,.K [0,1] [609,610,611,612,613]] rfl ?_
 refine AK.draw2 Qp hC mixed [.N,.N,.a (.any (.I f) none) none false,.N,.m .s] [] [] [1] [609,610,611,612,613] rfl rfl rfl ⟨tt_,(fun σ j k _=>Stp.callSame (md:=.cm (.clo) [(609,610),(610,611)] [(610,609),(611,610)] [] [.d,.d] [(609,.var (Qe c)),(610,.var (Qh e))] (.I f) [610,611]) Qp hC j k rfl ⟨⟨tt_,(Qrb _ _ g)⟩,⟨rfl,rfl,tt_⟩⟩)⟩ rfl (by kernel_rfl) rfl rfl rfl ?_
 refine Qa hC [.O 613 (.var (Qb f)),.n 11] rfl ⟨tt_,rfl⟩ ?_
 cases h
 exact d1_ rfl rfl ⟨rfl,rfl,rfl,rfl,rfl,tt_⟩
def Qgv (e:Qv)(f:Qm)(a:Int)(c:Int):Option ((Int×Int)⊕(Unit⊕Int)):=
 bif (decide (c<(e.Vars.length:Int)))then
 (idx e.Vars c).bind fun d=>
 (QgO f.Colours d.Colour).bind fun b=>
 bif (b==0)then
 some (.inr (.inl ()))
 else
 some (.inl ((min2 (w64 (a*b)) 1025),(w64 (c+1))))
 else
 some (.inr (.inr a))
def Qgw : Option Int:=
 some 0
def Qgx (a:Int):Option Int:=
 some a
def QjD (a:Qm)(b:Int):Option Int:=
 (QbX a.Tasks b).bind fun c=>
 bif (!c)then
 some 0
 else
 (idx a.Tasks b).bind fun d=>
 (Qt (fun st=>Qgv d a st.1 st.2) (1,0)).bind (Sum.elim (fun q=>Qgw) (fun q=>Qgx q))
theorem Qr1 (s y){r}(h:QjD s y=some r):Qd prog 57 [.agg (Qe s),.I y] [] (Qj (.I r) []):=by
 refine Qd.walk 38 func57 rfl rfl rfl fun C hC=>?_
 obtain⟨A,t,h⟩:=Qc h
 refine Qa hC [.n 12,.o (.c false [.d,.d] (.b A)),.n 3] rfl ⟨tt_,(Qhw _ _ t)⟩ ?_
 rcases Qq h with⟨g,h⟩|⟨g,h⟩
 ·refine Qa hC [.T,.n 7] rfl ⟨tt_,g⟩ ?_
  cases h
  exact d1_ rfl rfl tt_
 obtain⟨k,u,h⟩:=Qc h
 refine Qa hC [.F,.n 13,.o (.row (Qh k)),.n 2,.o (.ln k.Vars.length),.n 4,.K [2,5,19,20,21] [2]] rfl ⟨⟨⟨tt_,g⟩,(QA u)⟩,Qg⟩ ?_
 obtain⟨w,l,h⟩:=Qc h
 refine AK.loop (body:=(fun st=>Qgv k s st.1 st.2)) (fun st σ=>σ=⟨[(2,.loc 2 0 0),(5,.I st.1),(19,.sl 2 (k.Vars.map QB)),(20,.I (k.Vars.length:Int)),(21,.I st.2)],[(2,.var (Qe s))]⟩) (Sum.elim (fun q e σ=>e=.ret∧σ=⟨[(4,.I 0)],[]⟩) (fun q e σ=>e=.exit 0∧σ=⟨[(5,.I q)],[]⟩)) l rfl ?_ ?_
 ·rintro ⟨z,B⟩ o σ rfl h
  refine tg_ hC [.n 6] rfl ?_
  rcases Qq h with⟨a,h⟩|⟨a,h⟩
  ·obtain⟨i,m,h⟩:=Qc h
   obtain⟨x,p,h⟩:=Qc h
   refine Qa hC [.T,.n 6,.o (.row (QB i)),.v .no [] (.agg (QB i)),.n 2,.O 7 (.var (QB i)),.n 8,.o (.c false [.d,.d] (.I x)),.n 10] rfl ⟨⟨⟨⟨⟨tt_,a⟩,(QA m)⟩,rfl⟩,rfl⟩,(Qm2 _ _ p)⟩ ?_
   refine bg_ h (fun f h=>Qa hC [.T,.n 9,.K [4] []] rfl ⟨tt_,f⟩ ?_) fun f h=>Qa hC [.F,.n 15,.K [2,5,19,20,21] [2]] rfl ⟨tt_,f⟩ ?_
   ·cases h
    exact QaH rfl (an_ rfl rfl)
   cases h
   exact QJ rfl rfl
  refine Qa hC [.F,.n 2,.K [5] []] rfl ⟨tt_,a⟩ ?_
  cases h
  exact QK rfl (an_ rfl rfl)
 rcases w with(_ | j)
 ·replace h:Qgw=some r:=h
  rintro e σ ⟨rfl,rfl⟩
  refine tg_ hC [.n 2] rfl ?_
  cases h
  exact d1_ rfl rfl tt_
 replace h:Qgx j=some r:=h
 rintro e σ ⟨rfl,rfl⟩
 refine tg_ hC [.n 9] rfl ?_
 cases h
 exact d1_ rfl rfl tt_
def QiK (a:Qm)(b:Int):Option Bool:=
 (QjD a b).bind fun c=>
 some (decide (c≤1024))
theorem Qrc (a e){r}(h:QiK a e=some r):Qd prog 129 [.loc 609 0 0,.loc 610 0 0] [(609,.var (Qe a)),(610,.var (Qb e))] (Qj (.b r) [(609,.var (Qe a)),(610,.var (Qb e))]):=by
 refine Qd.walk 7 func129 rfl rfl rfl fun C hC=>?_
 obtain⟨g,f,h⟩:=Qc h
 refine Qa hC [.n 7,.v .no [] (.agg (Qe a)),.n 1,.o (.c false [.d,.d] (.I g)),.n 5] rfl ⟨⟨tt_,rfl⟩,(Qr1 _ _ f)⟩ ?_
 cases h
 exact d1_ rfl rfl ⟨rfl,rfl,tt_⟩
def Qhy (c:Qk)(rec_expr_Depth:Qk→Option Int)(d:Int)(a:Int):Option ((Int×Int)⊕Int):=
 bif (decide (a<(c.Kids.length:Int)))then
 (idx c.Kids a).bind fun e=>
 (rec_expr_Depth e).bind fun b=>
 some (.inl ((max2 d b),(w64 (a+1))))
 else
 some (.inr d)
def Qkr (a:Int):Option Int:=
 some (w64 (a+1))
def QkL (rec_expr_Depth:Qk→Option Int)(a:Qk):Option Int:=
 (Qt (fun st=>Qhy a rec_expr_Depth st.1 st.2) (0,0)).bind (fun q=>Qkr q)
def Qdf : Nat→Qk→Option Int
 | 0,_=>none
 | n+1,a=>QkL (Qdf n) a
def Qm7 (a:Qk):Option Int:=Qdf (SizeOf.sizeOf a) a
theorem Qrd (rec_expr_Depth:Qk→Option Int)(hrec_expr_Depth:∀(a:Qk) {r:Int},rec_expr_Depth a=some r→Qd prog 192 [.agg (Qr a)] [] (Qj (.I r) []))(a:Qk){r:Int}(h:QkL rec_expr_Depth a=some r):Qd prog 192 [.agg (Qr a)] [] (Qj (.I r) []):=by
 refine Qd.walk 20 func192 rfl rfl rfl fun C hC=>?_
 refine Qa hC [.n 16,.o (.ln a.Kids.length),.n 4,.K [3,7,8,9] []] rfl ⟨tt_,Qil _⟩ ?_
 obtain⟨l,f,h⟩:=Qc h
 refine AK.loop (body:=(fun st=>Qhy a rec_expr_Depth st.1 st.2)) (fun st σ=>σ=⟨[(3,.I st.1),(7,.sl 3 (QaW a.Kids)),(8,.I (a.Kids.length:Int)),(9,.I st.2)],[]⟩) (fun q e σ=>e=.exit 0∧σ=⟨[(3,.I q)],[]⟩) f rfl ?_ ?_
 ·rintro ⟨m,p⟩ o σ rfl h
  refine tg_ hC [.n 6] rfl ?_
  rcases Qq h with⟨b,h⟩|⟨b,h⟩
  ·obtain⟨i,j,h⟩:=Qc h
   obtain⟨k,g,h⟩:=Qc h
   refine Qa hC [.T,.n 6,.o (.row (Qr i)),.v .no [] (.agg (Qr i)),.n 2,.O 5 (.var (Qr i)),.n 4,.v .no [] (.agg (Qr i)),.o (.c false [.d] (.I k)),.n 9,.K [3,7,8,9] []] rfl ⟨⟨⟨⟨⟨⟨tt_,b⟩,(Qmn j)⟩,rfl⟩,rfl⟩,rfl⟩,(hrec_expr_Depth _ g)⟩ ?_
   cases h
   exact QJ rfl rfl
  refine Qa hC [.F,.n 2,.K [3] []] rfl ⟨tt_,b⟩ ?_
  cases h
  exact QK rfl (an_ rfl rfl)
 replace h:Qkr l=some r:=h
 rintro e σ ⟨rfl,rfl⟩
 refine tg_ hC [.n 10] rfl ?_
 cases h
 exact d1_ rfl rfl tt_
theorem Ql4 : ∀(fuel:Nat) (a:Qk) {r:Int},Qdf fuel a=some r→Qd prog 192 [.agg (Qr a)] [] (Qj (.I r) [])
 | 0,_,_,h=>by cases h
 | n+1,a,_,h=>Qrd (Qdf n) (fun _ _ h=>Ql4 n _ h) a h
theorem QsO (a){r}(h:Qm7 a=some r):Qd prog 192 [.agg (Qr a)] [] (Qj (.I r) []):=Ql4 _ a h
def QiL (c:Qk)(rec_expr_Size:Qk→Option Int)(d:Int)(a:Int):Option ((Int×Int)⊕Int):=
 bif (decide (a<(c.Kids.length:Int)))then
 (idx c.Kids a).bind fun e=>
 (rec_expr_Size e).bind fun b=>
 some (.inl ((w64 (d+b)),(w64 (a+1))))
 else
 some (.inr d)
def QkM (a:Int):Option Int:=
 some a
def QlK (rec_expr_Size:Qk→Option Int)(a:Qk):Option Int:=
 (Qt (fun st=>QiL a rec_expr_Size st.1 st.2) (1,0)).bind (fun q=>QkM q)
def QdW : Nat→Qk→Option Int
 | 0,_=>none
 | n+1,a=>QlK (QdW n) a
def Qoc (a:Qk):Option Int:=QdW (SizeOf.sizeOf a) a
theorem Qr2 (rec_expr_Size:Qk→Option Int)(hrec_expr_Size:∀(a:Qk) {r:Int},rec_expr_Size a=some r→Qd prog 193 [.agg (Qr a)] [] (Qj (.I r) []))(a:Qk){r:Int}(h:QlK rec_expr_Size a=some r):Qd prog 193 [.agg (Qr a)] [] (Qj (.I r) []):=by
 refine Qd.walk 19 func193 rfl rfl rfl fun C hC=>?_
 refine Qa hC [.n 16,.o (.ln a.Kids.length),.n 4,.K [3,7,8,9] []] rfl ⟨tt_,Qil _⟩ ?_
 obtain⟨l,f,h⟩:=Qc h
 refine AK.loop (body:=(fun st=>QiL a rec_expr_Size st.1 st.2)) (fun st σ=>σ=⟨[(3,.I st.1),(7,.sl 3 (QaW a.Kids)),(8,.I (a.Kids.length:Int)),(9,.I st.2)],[]⟩) (fun q e σ=>e=.exit 0∧σ=⟨[(3,.I q)],[]⟩) f rfl ?_ ?_
 ·rintro ⟨m,p⟩ o σ rfl h
  refine tg_ hC [.n 6] rfl ?_
  rcases Qq h with⟨b,h⟩|⟨b,h⟩
  ·obtain⟨i,j,h⟩:=Qc h
   obtain⟨k,g,h⟩:=Qc h
   refine Qa hC [.T,.n 6,.o (.row (Qr i)),.v .no [] (.agg (Qr i)),.n 2,.O 5 (.var (Qr i)),.n 4,.v .no [] (.agg (Qr i)),.o (.c false [.d] (.I k)),.n 9,.K [3,7,8,9] []] rfl ⟨⟨⟨⟨⟨⟨tt_,b⟩,(Qmn j)⟩,rfl⟩,rfl⟩,rfl⟩,(hrec_expr_Size _ g)⟩ ?_
   cases h
   exact QJ rfl rfl
  refine Qa hC [.F,.n 2,.K [3] []] rfl ⟨tt_,b⟩ ?_
  cases h
  exact QK rfl (an_ rfl rfl)
 replace h:QkM l=some r:=h
 rintro e σ ⟨rfl,rfl⟩
 refine tg_ hC [.n 9] rfl ?_
 cases h
 exact d1_ rfl rfl tt_
theorem Qm8 : ∀(fuel:Nat) (a:Qk) {r:Int},QdW fuel a=some r→Qd prog 193 [.agg (Qr a)] [] (Qj (.I r) [])
 | 0,_,_,h=>by cases h
 | n+1,a,_,h=>Qr2 (QdW n) (fun _ _ h=>Qm8 n _ h) a h
theorem Qty (a){r}(h:Qoc a=some r):Qd prog 193 [.agg (Qr a)] [] (Qj (.I r) []):=Qm8 _ a h
def QfX (a:Int)(b:Bool):Option Int:=
 bif b then
 some 1
 else
 bif (a==5)then
 some 2
 else
 bif (a==6)then
 some 3
 else
 some (-1)
def QfY (a:Int)(b:Bool):Option Int:=
 bif b then
 some 0
 else
 bif (a==3)then
 QfX a (a==3)
 else
 QfX a (a==4)
def Qla (a:Int):Option Int:=
 bif (a==1)then
 QfY a (a==1)
 else
 QfY a (a==2)
theorem Qtz (a){r}(h:Qla a=some r):Qd prog 228 [.I a] [] (Qj (.I r) []):=by
 refine Qd.walk 14 func228 rfl rfl rfl fun C hC=>?_
 refine tg_ hC [.n 12] rfl ?_
 refine AK.meet (fun σ=>∃j:Bool,σ=⟨[(3,.I a),(4,.b j)],[]⟩∧QfY a j=some r) ?_ ?_
 ·refine tg_ hC [.n 6] rfl ?_
  refine bg_ h (fun c h=>Qa hC [.T,.n 1,.K [3,4] []] rfl ⟨tt_,c⟩ ?_) fun c h=>Qa hC [.F,.n 4,.K [3,4] []] rfl ⟨tt_,c⟩ ?_
  ·exact AK.met (ex_ _ (an_ rfl h))
  exact AK.met (ex_ _ (an_ rfl h))
 rintro σ ⟨j,rfl,h⟩
 refine bg_ h (fun e h=>Qa hC [.T,.n 8,.K [2] []] rfl ⟨tt_,e⟩ ?_) fun e h=>Qa hC [.F] rfl ⟨tt_,e⟩ ?_
 ·cases h
  exact d1_ rfl rfl tt_
 refine AK.meet (fun σ=>∃k:Bool,σ=⟨[(3,.I a),(7,.b k)],[]⟩∧QfX a k=some r) ?_ ?_
 ·refine tg_ hC [.n 6] rfl ?_
  refine bg_ h (fun d h=>Qa hC [.T,.n 1,.K [3,7] []] rfl ⟨tt_,d⟩ ?_) fun d h=>Qa hC [.F,.n 4,.K [3,7] []] rfl ⟨tt_,d⟩ ?_
  ·exact AK.met (ex_ _ (an_ rfl h))
  exact AK.met (ex_ _ (an_ rfl h))
 rintro σ ⟨k,rfl,h⟩
 refine bg_ h (fun f h=>Qa hC [.T,.n 8,.K [2] []] rfl ⟨tt_,f⟩ ?_) fun f h=>Qa hC [.F,.n 6] rfl ⟨tt_,f⟩ ?_
 ·cases h
  exact d1_ rfl rfl tt_
 refine bg_ h (fun g h=>Qa hC [.T,.n 8,.K [2] []] rfl ⟨tt_,g⟩ ?_) fun g h=>Qa hC [.F,.n 6] rfl ⟨tt_,g⟩ ?_
 ·cases h
  exact d1_ rfl rfl tt_
 refine bg_ h (fun i h=>Qa hC [.T,.n 8,.K [2] []] rfl ⟨tt_,i⟩ ?_) fun i h=>Qa hC [.F,.n 9,.K [2] []] rfl ⟨tt_,i⟩ ?_
 ·cases h
  exact d1_ rfl rfl tt_
 cases h
 exact d1_ rfl rfl tt_
def Qks (op1:Int):Option Bool:=
 some ((decide (1≤op1))&&(decide (op1≤11)))
theorem QsP (op1){r}(h:Qks op1=some r):Qd prog 229 [.I op1] [] (Qj (.b r) []):=by
 refine Qd.walk 9 func229 rfl rfl rfl fun C hC=>?_
 refine tg_ hC [.n 6] rfl ?_
 refine AK.meetX (fun σ=>σ=⟨[(2,.b ((decide (1≤op1))&&(decide (op1≤11))))],[]⟩) ?_ ?_
 ·refine tg_ hC [.n 4] rfl ?_
  rcases Qz (decide (1≤op1))with a | a
  ·refine Qa hC [.S 5 (.b true),.n 5,.S 2 (.b ((decide (1≤op1))&&(decide (op1≤11)))),.K [2] []] rfl ⟨(tc_ a),(congrArg V.b (Qat a rfl))⟩ ?_
   exact AK.met rfl
  refine Qa hC [.S 5 (.b false),.n 5,.S 2 (.b ((decide (1≤op1))&&(decide (op1≤11)))),.K [2] []] rfl ⟨(tc_ a),(congrArg V.b (Qbm a rfl))⟩ ?_
  exact AK.met rfl
 rintro σ rfl
 refine tg_ hC [.n 2] rfl ?_
 cases h
 exact d1_ rfl rfl tt_
def QkN (rec_expr_parts:Qk→Int→Option Bool)(a:Qk)(b:Int):Option Bool:=
 (rec_expr_parts a b).bind fun c=>
 some (!c)
theorem Qre (rec_expr_parts:Qk→Int→Option Bool)(hrec_expr_parts:∀(i:Qk) (a:Int) {r:Bool},rec_expr_parts i a=some r→Qd prog 194 [.agg (Qr i),.I a] [] (Qj (.b r) []))(e:Qk)(f:Int){r:Bool}(h:QkN rec_expr_parts e f=some r):Qd prog 231 [.agg (Qr e),.loc 609 0 0] [(609,.var (Qb f))] (Qj (.b r) [(609,.var (Qb f))]):=by
 refine Qd.walk 8 func231 rfl rfl rfl fun C hC=>?_
 obtain⟨j,g,h⟩:=Qc h
 refine Qa hC [.n 8,.v .no [] (.agg (Qr e)),.n 1,.o (.c false [.d,.d] (.b j)),.n 5] rfl ⟨⟨tt_,rfl⟩,(hrec_expr_parts _ _ g)⟩ ?_
 cases h
 exact d1_ rfl rfl ⟨rfl,tt_⟩
def Qay (c:(List Qk))(rec_expr_parts:Qk→Int→Option Bool)(d:Int)(a:Int):Option (Int⊕(Int⊕Unit)):=
 bif (decide (a<(c.length:Int)))then
 (idx c a).bind fun e=>
 (QkN rec_expr_parts e d).bind fun b=>
 bif b then
 some (.inr (.inl a))
 else
 some (.inl (w64 (a+1)))
 else
 some (.inr (.inr ()))
def QcM (a:Int):Option Int:=
 some a
def QcN : Option Int:=
 some (-1)
def QbG (rec_expr_parts:Qk→Int→Option Bool)(a:(List Qk))(b:Int):Option Int:=
 (Qt (fun st=>Qay a rec_expr_parts b st) 0).bind (Sum.elim (fun q=>QcM q) (fun q=>QcN))
theorem QgQ (rec_expr_parts:Qk→Int→Option Bool)(hrec_expr_parts:∀(s:Qk) (a:Int) {r:Bool},rec_expr_parts s a=some r→Qd prog 194 [.agg (Qr s),.I a] [] (Qj (.b r) []))(i:(List Qk))(f:Int){r:Int}(h:QbG rec_expr_parts i f=some r):Qd prog 245 [.sl 3 (QaW i),.clo (.func 231) [] [.loc 609 0 0]] [(609,.var (Qb f))] (Qj (.I r) [(609,.var (Qb f))]):=by
 refine Qd.walk 19 func245 rfl rfl rfl fun C hC=>?_
 refine Qa hC [.n 9,.o (.ln i.length),.n 4,.K [0,1,7,8] [609]] rfl ⟨tt_,Qil _⟩ ?_
 obtain⟨l,j,h⟩:=Qc h
 refine AK.loop (body:=(fun st=>Qay i rec_expr_parts f st)) (fun st σ=>σ=⟨[(0,.sl 3 (QaW i)),(1,.clo (.func 231) [] [.loc 609 0 0]),(7,.I (i.length:Int)),(8,.I st)],[(609,.var (Qb f))]⟩) (Sum.elim (fun q e σ=>e=.ret∧σ=⟨[(4,.I q)],[(609,.var (Qb f))]⟩) (fun q e σ=>e=.exit 0∧σ=⟨[],[(609,.var (Qb f))]⟩)) j rfl ?_ ?_
 ·rintro w o σ rfl h
  refine tg_ hC [.n 6] rfl ?_
  rcases Qq h with⟨g,h⟩|⟨g,h⟩
  ·obtain⟨t,m,h⟩:=Qc h
   obtain⟨p,k,h⟩:=Qc h
   refine Qa hC [.T,.n 15,.o (.row (Qr t)),.v .no [] (.agg (Qr t)),.cm (.clo) [(609,609)] [(609,609)] [] [.d,.d] [(609,.var (Qb f))] (.b p),.n 2] rfl ⟨⟨⟨⟨tt_,g⟩,(Qmn m)⟩,rfl⟩,(Qre rec_expr_parts hrec_expr_parts _ _ k)⟩ ?_
   refine bg_ h (fun c h=>Qa hC [.T,.n 9,.K [4] [609]] rfl ⟨tt_,c⟩ ?_) fun c h=>Qa hC [.F,.n 7,.K [0,1,7,8] [609]] rfl ⟨tt_,c⟩ ?_
   ·cases h
    exact QaH rfl (an_ rfl rfl)
   cases h
   exact QJ rfl rfl
  refine Qa hC [.F,.n 2,.K [] [609]] rfl ⟨tt_,g⟩ ?_
  cases h
  exact QK rfl (an_ rfl rfl)
 rcases l with(u | _)
 ·replace h:QcM u=some r:=h
  rintro e σ ⟨rfl,rfl⟩
  refine tg_ hC [.n 2] rfl ?_
  cases h
  exact d1_ rfl rfl ⟨rfl,tt_⟩
 replace h:QcN=some r:=h
 rintro e σ ⟨rfl,rfl⟩
 refine tg_ hC [.n 8] rfl ?_
 cases h
 exact d1_ rfl rfl ⟨rfl,tt_⟩
def Qaz (rec_expr_parts:Qk→Int→Option Bool)(a:(List Qk))(b:Int):Option Bool:=
 (QbG rec_expr_parts a b).bind fun c=>
 some (decide (0≤c))
theorem QfZ (rec_expr_parts:Qk→Int→Option Bool)(hrec_expr_parts:∀(f:Qk) (a:Int) {r:Bool},rec_expr_parts f a=some r→Qd prog 194 [.agg (Qr f),.I a] [] (Qj (.b r) []))(g:(List Qk))(c:Int){r:Bool}(h:Qaz rec_expr_parts g c=some r):Qd prog 230 [.sl 3 (QaW g),.clo (.func 231) [] [.loc 609 0 0]] [(609,.var (Qb c))] (Qj (.b r) [(609,.var (Qb c))]):=by
 refine Qd.walk 9 func230 rfl rfl rfl fun C hC=>?_
 obtain⟨i,e,h⟩:=Qc h
 refine Qa hC [.n 9,.cm (.fn) [(609,609)] [(609,609)] [] [.d,.d] [(609,.var (Qb c))] (.I i),.n 5] rfl ⟨tt_,(QgQ rec_expr_parts hrec_expr_parts _ _ e)⟩ ?_
 cases h
 exact d1_ rfl rfl ⟨rfl,tt_⟩
def QnS (b:Qk):Option Bool:=
 bif (b.Kind==5)then
 (Qks b.Num).bind fun a=>
 some (!a)
 else
 some false
def Qhz (rec_expr_parts:Qk→Int→Option Bool)(d:Qk)(a:Int)(b:Bool):Option Bool:=
 bif b then
 some false
 else
 (Qaz rec_expr_parts d.Kids a).bind fun c=>
 some (!c)
def QkO (rec_expr_parts:Qk→Int→Option Bool)(b:Qk)(a:Int):Option Bool:=
 (Qla b.Kind).bind fun d=>
 bif ((b.Kids.length:Int) != d)then
 some false
 else
 bif ((b.Kind==2)&&((decide (b.Num<0))||(decide (a≤b.Num))))then
 some false
 else
 (QnS b).bind (fun c=>Qhz rec_expr_parts b a c)
def Qdg : Nat→Qk→Int→Option Bool
 | 0,_,_=>none
 | n+1,b,a=>QkO (Qdg n) b a
def Qm9 (b:Qk)(a:Int):Option Bool:=Qdg (SizeOf.sizeOf b) b a
theorem Qrf (rec_expr_parts:Qk→Int→Option Bool)(hrec_expr_parts:∀(f:Qk) (e:Int) {r:Bool},rec_expr_parts f e=some r→Qd prog 194 [.agg (Qr f),.I e] [] (Qj (.b r) []))(f:Qk)(e:Int){r:Bool}(h:QkO rec_expr_parts f e=some r):Qd prog 194 [.agg (Qr f),.I e] [] (Qj (.b r) []):=by
 refine Qd.walk 43 func194 rfl rfl rfl fun C hC=>?_
 obtain⟨x,u,h⟩:=Qc h
 refine tg_ hC [.n 10,.K [2,3] [2,3]] rfl ?_
 refine AK.draw2 Qp hC mixed [.N,.N,.a (.ln f.Kids.length) none false,.N,.N,.a (.c false [.d] (.I x)) none false,.N,.N] [] [] [2,3,5] [2,3] rfl rfl rfl ⟨⟨tt_,Qil _⟩,(Qtz _ u)⟩ rfl (by kernel_rfl) rfl rfl rfl ?_
 refine tg_ hC [.n 1] rfl ?_
 refine bg_ h (fun m h=>Qa hC [.T,.n 8,.K [4] []] rfl ⟨tt_,m⟩ ?_) fun m h=>Qa hC [.F,.n 1] rfl ⟨tt_,m⟩ ?_
 ·cases h
  exact d1_ rfl rfl tt_
 refine AK.meetX (fun σ=>σ=⟨[(2,.loc 2 0 0),(3,.loc 3 0 0),(13,.b ((f.Kind==2)&&((decide (f.Num<0))||(decide (e≤f.Num)))))],[(2,.var (Qr f)),(3,.var (Qb e))]⟩) ?_ ?_
 ·refine tg_ hC [.n 5] rfl ?_
  rcases Qz (f.Kind==2)with g | g
  ·refine Qa hC [.S 17 (.b true),.n 4] rfl (tc_ g) ?_
   rcases Qz (decide (f.Num<0))with i | i
   ·refine Qa hC [.S 21 (.b true),.n 8,.S 13 (.b ((f.Kind==2)&&((decide (f.Num<0))||(decide (e≤f.Num))))),.K [2,3,13] [2,3]] rfl ⟨(tc_ i),(congrArg V.b (Qat g (orT i rfl)))⟩ ?_
    exact AK.met rfl
   refine Qa hC [.S 21 (.b false),.n 8,.S 13 (.b ((f.Kind==2)&&((decide (f.Num<0))||(decide (e≤f.Num))))),.K [2,3,13] [2,3]] rfl ⟨(tc_ i),(congrArg V.b (Qat g (orF i rfl)))⟩ ?_
   exact AK.met rfl
  refine Qa hC [.S 17 (.b false),.n 12,.S 13 (.b ((f.Kind==2)&&((decide (f.Num<0))||(decide (e≤f.Num))))),.K [2,3,13] [2,3]] rfl ⟨(tc_ g),(congrArg V.b (Qbm g rfl))⟩ ?_
  exact AK.met rfl
 rintro σ rfl
 refine tg_ hC [.n 1] rfl ?_
 refine bg_ h (fun j h=>Qa hC [.T,.n 8,.K [4] []] rfl ⟨tt_,j⟩ ?_) fun j h=>Qa hC [.F,.n 1] rfl ⟨tt_,j⟩ ?_
 ·cases h
  exact d1_ rfl rfl tt_
 obtain⟨p,q,h⟩:=Qc h
 replace h:Qhz rec_expr_parts f e p=some r:=h
 refine AK.meetX (fun σ=>σ=⟨[(2,.loc 2 0 0),(3,.loc 3 0 0),(28,.b p)],[(2,.var (Qr f)),(3,.var (Qb e))]⟩) ?_ ?_
 ·replace h:=q
  refine tg_ hC [.n 5] rfl ?_
  rcases Qq h with⟨k,h⟩|⟨k,h⟩
  ·obtain⟨v,s,h⟩:=Qc h
   refine Qa hC [.S 32 (.b true),.n 2,.o (.c false [.d] (.b v)),.n 4,.K [2,3,28] [2,3]] rfl ⟨(tc_ k),(QsP _ s)⟩ ?_
   cases h
   exact AK.met rfl
  refine Qa hC [.S 32 (.b false),.n 7,.K [2,3,28] [2,3]] rfl (tc_ k) ?_
  cases h
  exact AK.met rfl
 rintro σ rfl
 replace h:Qhz rec_expr_parts f e p=some r:=h
 refine tg_ hC [.n 1] rfl ?_
 rcases Qq h with⟨l,h⟩|⟨l,h⟩
 ·refine Qa hC [.T,.n 8] rfl ⟨tt_,l⟩ ?_
  cases h
  exact d1_ rfl rfl tt_
 obtain⟨w,t,h⟩:=Qc h
 refine Qa hC [.F,.n 8,.cm (.fn) [(609,3)] [(3,609)] [] [.d,.d] [(609,.var (Qb e))] (.b w),.n 5] rfl ⟨⟨tt_,l⟩,(QfZ rec_expr_parts hrec_expr_parts _ _ t)⟩ ?_
 cases h
 exact d1_ rfl rfl tt_
theorem Ql5 : ∀(fuel:Nat) (c:Qk) (a:Int) {r:Bool},Qdg fuel c a=some r→Qd prog 194 [.agg (Qr c),.I a] [] (Qj (.b r) [])
 | 0,_,_,_,h=>by cases h
 | n+1,c,a,_,h=>Qrf (Qdg n) (fun _ _ _ h=>Ql5 n _ _ h) c a h
theorem QsQ (c a){r}(h:Qm9 c a=some r):Qd prog 194 [.agg (Qr c),.I a] [] (Qj (.b r) []):=Ql5 _ c a h
def QnT (b:Qk)(a:Int):Option Bool:=
 (Qm7 b).bind fun d=>
 bif (decide (d≤40))then
 (Qoc b).bind fun e=>
 bif (decide (e≤400))then
 (Qm9 b a).bind fun c=>
 some c
 else
 some false
 else
 some false
def Qkt (a:Bool):Option Bool:=
 some a
def QhV (b:Qk)(a:Int):Option Bool:=
 (QnT b a).bind (fun c=>Qkt c)
theorem QnU (g a){r}(h:QhV g a=some r):Qd prog 131 [.agg (Qr g),.I a] [] (Qj (.b r) []):=by
 refine Qd.walk 18 func131 rfl rfl rfl fun C hC=>?_
 refine tg_ hC [.n 7] rfl ?_
 obtain⟨j,k,h⟩:=Qc h
 replace h:Qkt j=some r:=h
 refine AK.meetX (fun σ=>σ=⟨[(4,.b j)],[]⟩) ?_ ?_
 ·replace h:=k
  obtain⟨q,l,h⟩:=Qc h
  refine Qa hC [.n 1,.v .no [] (.agg (Qr g)),.o (.c false [.d] (.I q)),.n 2] rfl ⟨⟨tt_,rfl⟩,(QsO _ l)⟩ ?_
  rcases Qq h with⟨e,h⟩|⟨e,h⟩
  ·obtain⟨s,m,h⟩:=Qc h
   refine Qa hC [.S 8 (.b true),.v .no [] (.agg (Qr g)),.o (.c false [.d] (.I s)),.n 3] rfl ⟨⟨(tc_ e),rfl⟩,(Qty _ m)⟩ ?_
   rcases Qq h with⟨f,h⟩|⟨f,h⟩
   ·obtain⟨p,i,h⟩:=Qc h
    refine Qa hC [.S 13 (.b true),.v .no [] (.agg (Qr g)),.n 1,.o (.c false [.d,.d] (.b p)),.n 3,.K [4] []] rfl ⟨⟨(tc_ f),rfl⟩,(QsQ _ _ i)⟩ ?_
    cases h
    exact AK.met rfl
   refine Qa hC [.S 13 (.b false),.n 6,.K [4] []] rfl (tc_ f) ?_
   cases h
   exact AK.met rfl
  refine Qa hC [.S 8 (.b false),.n 11,.K [4] []] rfl (tc_ e) ?_
  cases h
  exact AK.met rfl
 rintro σ rfl
 replace h:Qkt j=some r:=h
 refine tg_ hC [.n 2] rfl ?_
 cases h
 exact d1_ rfl rfl tt_
def Ql6 (a:Qv)(b:Int):Option Bool:=
 (QhV a.Guard b).bind fun c=>
 bif c then
 bif (decide (0<(a.Ins.length:Int)))then
 some (decide (0<(a.Outs.length:Int)))
 else
 some false
 else
 some false
def QfM (a:Bool):Option Bool:=
 some a
def QiM (a:Qv)(b:Int):Option Bool:=
 (Ql6 a b).bind (fun c=>QfM c)
theorem Qrg (a g){r}(h:QiM a g=some r):Qd prog 130 [.loc 609 0 0,.loc 610 0 0] [(609,.var (Qh a)),(610,.var (Qb g))] (Qj (.b r) [(609,.var (Qh a)),(610,.var (Qb g))]):=by
 refine Qd.walk 19 func130 rfl rfl rfl fun C hC=>?_
 refine tg_ hC [.n 6] rfl ?_
 obtain⟨i,j,h⟩:=Qc h
 replace h:QfM i=some r:=h
 refine AK.meetX (fun σ=>σ=⟨[(2,.b i)],[(609,.var (Qh a)),(610,.var (Qb g))]⟩) ?_ ?_
 ·replace h:=j
  obtain⟨l,k,h⟩:=Qc h
  refine Qa hC [.n 2,.v .no [] (.agg (Qr a.Guard)),.n 1,.o (.c false [.d,.d] (.b l)),.n 1] rfl ⟨⟨tt_,rfl⟩,(QnU _ _ k)⟩ ?_
  refine bg_ h (fun e h=>Qa hC [.S 7 (.b true),.n 2,.o (.ln a.Ins.length),.n 3] rfl ⟨(tc_ e),Qg⟩ ?_) fun e h=>Qa hC [.S 7 (.b false),.n 13,.K [2] [609,610]] rfl (tc_ e) ?_
  ·refine bg_ h (fun f h=>Qa hC [.S 13 (.b true),.n 2,.o (.ln a.Outs.length),.n 4,.K [2] [609,610]] rfl ⟨(tc_ f),Qg⟩ ?_) fun f h=>Qa hC [.S 13 (.b false),.n 7,.K [2] [609,610]] rfl (tc_ f) ?_
   ·cases h
    exact AK.met rfl
   cases h
   exact AK.met rfl
  cases h
  exact AK.met rfl
 rintro σ rfl
 replace h:QfM i=some r:=h
 refine tg_ hC [.n 2] rfl ?_
 cases h
 exact d1_ rfl rfl ⟨rfl,rfl,tt_⟩
def Qgy (a:Qm)(b:QT):Option Bool:=
 (Qak a.Places b.Place).bind fun c=>
 some c
theorem QpJ (a e){r}(h:Qgy a e=some r):Qd prog 197 [.loc 609 0 0,.loc 610 0 0] [(609,.var (Qe a)),(610,.var (QU e))] (Qj (.b r) [(609,.var (Qe a)),(610,.var (QU e))]):=by
 refine Qd.walk 8 func197 rfl rfl rfl fun C hC=>?_
 obtain⟨g,f,h⟩:=Qc h
 refine Qa hC [.n 11,.o (.c false [.d,.d] (.b g)),.n 4] rfl ⟨tt_,(Qbp _ _ f)⟩ ?_
 cases h
 exact d1_ rfl rfl ⟨rfl,rfl,tt_⟩
def Qgz (a:QT)(b:Int):Option Bool:=
 (QhV a.Expr b).bind fun c=>
 some c
theorem QpK (a e){r}(h:Qgz a e=some r):Qd prog 198 [.loc 609 0 0,.loc 610 0 0] [(609,.var (QU a)),(610,.var (Qb e))] (Qj (.b r) [(609,.var (QU a)),(610,.var (Qb e))]):=by
 refine Qd.walk 7 func198 rfl rfl rfl fun C hC=>?_
 obtain⟨g,f,h⟩:=Qc h
 refine Qa hC [.n 8,.v .no [] (.agg (Qr a.Expr)),.n 1,.o (.c false [.d,.d] (.b g)),.n 4] rfl ⟨⟨tt_,rfl⟩,(QnU _ _ f)⟩ ?_
 cases h
 exact d1_ rfl rfl ⟨rfl,rfl,tt_⟩
def QgA (c:Qm)(b:QT)(d:Int)(e:Int)(f:Int):Option Int:=
 (Qgy c b).bind fun g=>
 bif (!g)then
 some d
 else
 (Qgz b e).bind fun a=>
 bif (!a)then
 some f
 else
 some 0
theorem QpL (i e j k l){r}(h:QgA i e j k l=some r):Qd prog 64 [.own 609 2] [(609,.var [.clo (.func 197) [] [.loc 610 0 0,.loc 611 0 0],.I j,.clo (.func 198) [] [.loc 611 0 0,.loc 612 0 0],.I l]),(610,.var (Qe i)),(611,.var (QU e)),(612,.var (Qb k))] (Qj (.I r) [(609,.var [.clo (.func 197) [] [.loc 610 0 0,.loc 611 0 0],.I j,.clo (.func 198) [] [.loc 611 0 0,.loc 612 0 0],.I l]),(610,.var (Qe i)),(611,.var (QU e)),(612,.var (Qb k))]):=by
 refine Qd.walk 18 func64 rfl rfl rfl fun C hC=>?_
 refine tg_ hC [.n 14] rfl ?_
 refine AK.loopN 3 (AK.rnd ?_)
 obtain⟨s,m,h⟩:=Qc h
 refine Qa hC [.n 2,.v .no [] (.b true),.n 10,.o (.any (.loc 609 0 0) none),.n 3,.O 4 (.var [.clo (.func 197) [] [.loc 610 0 0,.loc 611 0 0],.I j]),.n 6,.cm (.clo) [(609,610),(610,611)] [(610,609),(611,610)] [] [.d,.d] [(609,.var (Qe i)),(610,.var (QU e))] (.b s),.n 3] rfl ⟨⟨⟨⟨tt_,rfl⟩,(fun σ f p _=>Stp.idxV rfl rfl (QD hC.n rfl) (f _ _ rfl) (f _ _ rfl) (Qp.es rfl) (p _ _ rfl) (by decide))⟩,rfl⟩,(QpJ _ _ m)⟩ ?_
 refine bg_ h (fun c h=>Qa hC [.T,.n 13,.K [2] [609,610,611,612]] rfl ⟨tt_,c⟩ ?_) fun c h=>Qa hC [.F,.n 4,.v .no [] (.I 1),.n 2] rfl ⟨⟨tt_,c⟩,rfl⟩ ?_
 ·cases h
  exact d1_ rfl rfl ⟨rfl,rfl,rfl,rfl,tt_⟩
 refine AK.met (AK.rnd ?_)
 obtain⟨q,g,h⟩:=Qc h
 refine Qa hC [.n 2,.v .no [] (.b true),.n 10,.o (.any (.loc 609 0 2) none),.n 1,.kill 4,.n 2,.O 4 (.var [.clo (.func 198) [] [.loc 611 0 0,.loc 612 0 0],.I l]),.n 6,.cm (.clo) [(609,611),(610,612)] [(611,609),(612,610)] [] [.d,.d] [(609,.var (QU e)),(610,.var (Qb k))] (.b q),.n 3] rfl ⟨⟨⟨⟨tt_,rfl⟩,(fun σ f p _=>Stp.idxV rfl rfl (QD hC.n rfl) (f _ _ rfl) (f _ _ rfl) (Qp.es rfl) (p _ _ rfl) (by decide))⟩,rfl⟩,(QpK _ _ g)⟩ ?_
 refine bg_ h (fun a h=>Qa hC [.T,.n 13,.K [2] [609,610,611,612]] rfl ⟨tt_,a⟩ ?_) fun a h=>Qa hC [.F,.n 4,.v .no [] (.I 2),.n 2] rfl ⟨⟨tt_,a⟩,rfl⟩ ?_
 ·cases h
  exact d1_ rfl rfl ⟨rfl,rfl,rfl,rfl,tt_⟩
 refine AK.met (AK.rnd ?_)
 refine Qa hC [.n 2,.v .no [] (.b false),.n 15] rfl ⟨tt_,rfl⟩ ?_
 cases h
 exact d1_ rfl rfl ⟨rfl,rfl,rfl,rfl,tt_⟩
def QiN (e:Int)(a:QT)(b:Qm)(c:Int):Option Int:=
 (QgA b a 3 c 1).bind fun d=>
 some d
theorem Qrh (f c a b){r}(h:QiN f c a b=some r):Qd prog 196 [.I f,.agg (QU c),.loc 609 0 0,.loc 610 0 0] [(609,.var (Qe a)),(610,.var (Qb b))] (Qj (.I r) [(609,.var (Qe a)),(610,.var (Qb b))]):=by
 refine Qd.walk 13 func196 rfl rfl rfl fun C hC=>?_
 obtain⟨g,e,h⟩:=Qc h
 refine Qa hC [.n 9,.v .no [] (.agg [.clo (.func 197) [] [.loc 609 0 0,.loc 5 0 0],.I 3]),.n 1,.v .no [] (.agg [.clo (.func 198) [] [.loc 5 0 0,.loc 610 0 0],.I 1]),.o (.any (.own 11 2) (some (.var [.clo (.func 197) [] [.loc 609 0 0,.loc 5 0 0],.I 3,.clo (.func 198) [] [.loc 5 0 0,.loc 610 0 0],.I 1]))),.cm (.fn) [(609,11),(610,609),(611,5),(612,610)] [(11,609),(609,610),(5,611),(610,612)] [] [.d] [(609,.var [.clo (.func 197) [] [.loc 610 0 0,.loc 611 0 0],.I 3,.clo (.func 198) [] [.loc 611 0 0,.loc 612 0 0],.I 1]),(610,.var (Qe a)),(611,.var (QU c)),(612,.var (Qb b))] (.I g),.n 4] rfl ⟨⟨⟨⟨tt_,rfl⟩,rfl⟩,(fun σ i j hf=>Stp.buildAny rfl rfl (QD hC.n rfl) (Qp.es rfl) Qlh rfl (by decide) (by decide) (Qeg i rfl) rfl rfl (hf rfl))⟩,(QpL _ _ _ _ _ e)⟩ ?_
 cases h
 exact d1_ rfl rfl ⟨rfl,rfl,tt_⟩
def Qc5 (d:(List QT))(e:Qm)(f:Int)(a:Int):Option (Int⊕((Int×Int)⊕Unit)):=
 bif (decide (a<(d.length:Int)))then
 (idx d a).bind fun c=>
 (QiN a c e f).bind fun b=>
 bif (b != 0)then
 some (.inr (.inl (a,b)))
 else
 some (.inl (w64 (a+1)))
 else
 some (.inr (.inr ()))
def Qc6 (a:Int)(b:Int):Option (Int×Int):=
 some (a,b)
def Qc7 : Option (Int×Int):=
 some (0,0)
def Qea (a:(List QT))(b:Qm)(c:Int):Option (Int×Int):=
 (Qt (fun st=>Qc5 a b c st) 0).bind (Sum.elim (fun q=>Qc6 q.1 q.2) (fun q=>Qc7))
theorem Qnu (i f g){r}(h:Qea i f g=some r):Qd prog 195 [.sl 4 (i.map QU),.clo (.func 196) [] [.loc 609 0 0,.loc 610 0 0]] [(609,.var (Qe f)),(610,.var (Qb g))] (Qj (.tup [.I r.1,.I r.2]) [(609,.var (Qe f)),(610,.var (Qb g))]):=by
 refine Qd.walk 25 func195 rfl rfl rfl fun C hC=>?_
 refine Qa hC [.n 10,.o (.ln i.length),.n 4,.K [1,9,10,11] [609,610]] rfl ⟨tt_,Qg⟩ ?_
 obtain⟨m,j,h⟩:=Qc h
 refine AK.loop (body:=(fun st=>Qc5 i f g st)) (fun st σ=>σ=⟨[(1,.clo (.func 196) [] [.loc 609 0 0,.loc 610 0 0]),(9,.sl 4 (i.map QU)),(10,.I (i.length:Int)),(11,.I st)],[(609,.var (Qe f)),(610,.var (Qb g))]⟩) (Sum.elim (fun q e σ=>e=.ret∧σ=⟨[(4,.I q.1),(5,.I q.2)],[(609,.var (Qe f)),(610,.var (Qb g))]⟩) (fun q e σ=>e=.exit 0∧σ=⟨[],[(609,.var (Qe f)),(610,.var (Qb g))]⟩)) j rfl ?_ ?_
 ·rintro u o σ rfl h
  refine tg_ hC [.n 6] rfl ?_
  rcases Qq h with⟨a,h⟩|⟨a,h⟩
  ·obtain⟨c,k,h⟩:=Qc h
   obtain⟨p,l,h⟩:=Qc h
   refine Qa hC [.T,.n 7,.o (.row (QU c)),.v .no [] (.agg (QU c)),.n 3,.O 7 (.var (QU c)),.n 6,.v .no [] (.agg (QU c)),.cm (.clo) [(609,609),(610,610)] [(609,609),(610,610)] [] [.d,.d,.d,.d] [(609,.var (Qe f)),(610,.var (Qb g))] (.I p),.n 9] rfl ⟨⟨⟨⟨⟨⟨tt_,a⟩,(QA k)⟩,rfl⟩,rfl⟩,rfl⟩,(Qrh _ _ _ _ l)⟩ ?_
   refine bg_ h (fun b h=>Qa hC [.T,.n 11,.K [4,5] [609,610]] rfl ⟨tt_,b⟩ ?_) fun b h=>Qa hC [.F,.n 7,.K [1,9,10,11] [609,610]] rfl ⟨tt_,b⟩ ?_
   ·cases h
    exact QaH rfl (an_ rfl rfl)
   cases h
   exact QJ rfl rfl
  refine Qa hC [.F,.n 2,.K [] [609,610]] rfl ⟨tt_,a⟩ ?_
  cases h
  exact QK rfl (an_ rfl rfl)
 rcases m with(⟨s,t⟩|_)
 ·replace h:Qc6 s t=some r:=h
  rintro e σ ⟨rfl,rfl⟩
  refine tg_ hC [.n 2] rfl ?_
  cases h
  exact d2_ rfl rfl rfl ⟨rfl,rfl,tt_⟩
 replace h:Qc7=some r:=h
 rintro e σ ⟨rfl,rfl⟩
 refine tg_ hC [.n 9] rfl ?_
 cases h
 exact d2_ rfl rfl rfl ⟨rfl,rfl,tt_⟩
def QhW (b:Qm)(c:(List QT))(a:Int):Option Int:=
 (Qea c b a).bind fun d=>
 some d.2
theorem QnV (b e a){r}(h:QhW b e a=some r):Qd prog 133 [.agg (Qe b),.sl 4 (e.map QU),.I a] [] (Qj (.I r) []):=by
 refine Qd.walk 16 func133 rfl rfl rfl fun C hC=>?_
 obtain⟨f,c,h⟩:=Qc h
 refine Qa hC [.n 11,.cm (.fn) [(609,3),(610,5)] [(3,609),(5,610)] [] [.d,.d] [(609,.var (Qe b)),(610,.var (Qb a))] (.tup [.I f.1,.I f.2]),.n 14] rfl ⟨tt_,(Qnu _ _ _ c)⟩ ?_
 cases h
 exact d1_ rfl rfl tt_
def QiO (a:Qm)(b:Qv)(c:Int):Option Int:=
 (QhW a b.Ins c).bind fun d=>
 some d
theorem Qri (a b e){r}(h:QiO a b e=some r):Qd prog 132 [.loc 609 0 0,.loc 610 0 0,.loc 611 0 0] [(609,.var (Qe a)),(610,.var (Qh b)),(611,.var (Qb e))] (Qj (.I r) [(609,.var (Qe a)),(610,.var (Qh b)),(611,.var (Qb e))]):=by
 refine Qd.walk 9 func132 rfl rfl rfl fun C hC=>?_
 obtain⟨g,f,h⟩:=Qc h
 refine Qa hC [.n 7,.v .no [] (.agg (Qe a)),.n 3,.o (.c false [.d,.d,.d] (.I g)),.n 4] rfl ⟨⟨tt_,rfl⟩,(QnV _ _ _ f)⟩ ?_
 cases h
 exact d1_ rfl rfl ⟨rfl,rfl,rfl,tt_⟩
def Qe5 (b:Qm)(c:Qv)(d:Int)(e:Int):Option (Bool×Int):=
 (QiO b c d).bind fun a=>
 some ((a==0),a)
theorem QoD (c e f j){r}(h:Qe5 c e f j=some r):Qd prog 184 [.loc 609 0 0,.loc 613 0 0] [(609,.var [.clo (.func 132) [] [.loc 610 0 0,.loc 611 0 0,.loc 612 0 0]]),(610,.var (Qe c)),(611,.var (Qh e)),(612,.var (Qb f)),(613,.var [.loc 614 0 0]),(614,.var (Qb j))] (Qj (.b r.1) [(609,.var [.clo (.func 132) [] [.loc 610 0 0,.loc 611 0 0,.loc 612 0 0]]),(610,.var (Qe c)),(611,.var (Qh e)),(612,.var (Qb f)),(613,.var [.loc 614 0 0]),(614,.var (Qb r.2))]):=by
 refine Qd.walk 11 func184 rfl rfl rfl fun C hC=>?_
 obtain⟨g,i,h⟩:=Qc h
 refine tg_ hC [.n 6,.K [0,1] [609,610,611,612,613,614]] rfl ?_
 refine AK.draw2 Qp hC mixed [.N,.N,.a (.any (.I g) none) none false,.N,.m .s] [] [] [1] [609,610,611,612,613,614] rfl rfl rfl ⟨tt_,(fun σ k l _=>Stp.callSame (md:=.cm (.clo) [(609,610),(610,611),(611,612)] [(610,609),(611,610),(612,611)] [] [.d,.d,.d] [(609,.var (Qe c)),(610,.var (Qh e)),(611,.var (Qb f))] (.I g) [610,611,612]) Qp hC k l rfl ⟨⟨tt_,(Qri _ _ _ i)⟩,⟨rfl,rfl,rfl,tt_⟩⟩)⟩ rfl (by kernel_rfl) rfl rfl rfl ?_
 refine Qa hC [.O 614 (.var (Qb g)),.n 11] rfl ⟨tt_,rfl⟩ ?_
 cases h
 exact d1_ rfl rfl ⟨rfl,rfl,rfl,rfl,rfl,rfl,tt_⟩
def QiP (a:Qm)(b:Qv)(c:Int):Option Int:=
 (QhW a b.Outs c).bind fun d=>
 some d
theorem Qrj (a b e){r}(h:QiP a b e=some r):Qd prog 134 [.loc 609 0 0,.loc 610 0 0,.loc 611 0 0] [(609,.var (Qe a)),(610,.var (Qh b)),(611,.var (Qb e))] (Qj (.I r) [(609,.var (Qe a)),(610,.var (Qh b)),(611,.var (Qb e))]):=by
 refine Qd.walk 9 func134 rfl rfl rfl fun C hC=>?_
 obtain⟨g,f,h⟩:=Qc h
 refine Qa hC [.n 7,.v .no [] (.agg (Qe a)),.n 3,.o (.c false [.d,.d,.d] (.I g)),.n 4] rfl ⟨⟨tt_,rfl⟩,(QnV _ _ _ f)⟩ ?_
 cases h
 exact d1_ rfl rfl ⟨rfl,rfl,rfl,tt_⟩
def Qe6 (b:Qm)(c:Qv)(d:Int)(e:Int):Option (Bool×Int):=
 (QiP b c d).bind fun a=>
 some ((a==0),a)
theorem QoE (c e f j){r}(h:Qe6 c e f j=some r):Qd prog 184 [.loc 609 0 0,.loc 613 0 0] [(609,.var [.clo (.func 134) [] [.loc 610 0 0,.loc 611 0 0,.loc 612 0 0]]),(610,.var (Qe c)),(611,.var (Qh e)),(612,.var (Qb f)),(613,.var [.loc 614 0 0]),(614,.var (Qb j))] (Qj (.b r.1) [(609,.var [.clo (.func 134) [] [.loc 610 0 0,.loc 611 0 0,.loc 612 0 0]]),(610,.var (Qe c)),(611,.var (Qh e)),(612,.var (Qb f)),(613,.var [.loc 614 0 0]),(614,.var (Qb r.2))]):=by
 refine Qd.walk 11 func184 rfl rfl rfl fun C hC=>?_
 obtain⟨g,i,h⟩:=Qc h
 refine tg_ hC [.n 6,.K [0,1] [609,610,611,612,613,614]] rfl ?_
 refine AK.draw2 Qp hC mixed [.N,.N,.a (.any (.I g) none) none false,.N,.m .s] [] [] [1] [609,610,611,612,613,614] rfl rfl rfl ⟨tt_,(fun σ k l _=>Stp.callSame (md:=.cm (.clo) [(609,610),(610,611),(611,612)] [(610,609),(611,610),(612,611)] [] [.d,.d,.d] [(609,.var (Qe c)),(610,.var (Qh e)),(611,.var (Qb f))] (.I g) [610,611,612]) Qp hC k l rfl ⟨⟨tt_,(Qrj _ _ _ i)⟩,⟨rfl,rfl,rfl,tt_⟩⟩)⟩ rfl (by kernel_rfl) rfl rfl rfl ?_
 refine Qa hC [.O 614 (.var (Qb g)),.n 11] rfl ⟨tt_,rfl⟩ ?_
 cases h
 exact d1_ rfl rfl ⟨rfl,rfl,rfl,rfl,rfl,rfl,tt_⟩
def QeI (a:Qm)(b:Int):Option Bool:=
 (Qak a.Places b).bind fun c=>
 some c
theorem Qod (a e){r}(h:QeI a e=some r):Qd prog 201 [.loc 609 0 0,.loc 610 0 0] [(609,.var (Qe a)),(610,.var (Qb e))] (Qj (.b r) [(609,.var (Qe a)),(610,.var (Qb e))]):=by
 refine Qd.walk 7 func201 rfl rfl rfl fun C hC=>?_
 obtain⟨g,f,h⟩:=Qc h
 refine Qa hC [.n 10,.o (.c false [.d,.d] (.b g)),.n 4] rfl ⟨tt_,(Qbp _ _ f)⟩ ?_
 cases h
 exact d1_ rfl rfl ⟨rfl,rfl,tt_⟩
def Qcu (b:(List Int))(c:Int)(a:Int):Option (Int⊕(Int⊕Unit)):=
 bif (decide (a<(b.length:Int)))then
 (idx b a).bind fun d=>
 bif (c==d)then
 some (.inr (.inl a))
 else
 some (.inl (w64 (a+1)))
 else
 some (.inr (.inr ()))
def Qcv (a:Int):Option Int:=
 some a
def Qcw : Option Int:=
 some (-1)
def Qdq (a:(List Int))(b:Int):Option Int:=
 (Qt (fun st=>Qcu a b st) 0).bind (Sum.elim (fun q=>Qcv q) (fun q=>Qcw))
theorem Qmr (c f){r}(h:Qdq c f=some r):Qd prog 232 [.sl 1 (c.map Qb),.I f] [] (Qj (.I r) []):=by
 refine Qd.walk 19 func232 rfl rfl rfl fun C hC=>?_
 refine Qa hC [.n 9,.o (.ln c.length),.n 4,.K [0,1,7,8] []] rfl ⟨tt_,Qg⟩ ?_
 obtain⟨g,d,h⟩:=Qc h
 refine AK.loop (body:=(fun st=>Qcu c f st)) (fun st σ=>σ=⟨[(0,.sl 1 (c.map Qb)),(1,.I f),(7,.I (c.length:Int)),(8,.I st)],[]⟩) (Sum.elim (fun q e σ=>e=.ret∧σ=⟨[(4,.I q)],[]⟩) (fun q e σ=>e=.exit 0∧σ=⟨[],[]⟩)) d rfl ?_ ?_
 ·rintro l o σ rfl h
  refine tg_ hC [.n 6] rfl ?_
  rcases Qq h with⟨b,h⟩|⟨b,h⟩
  ·obtain⟨j,i,h⟩:=Qc h
   refine Qa hC [.T,.n 15,.o (.row (Qb j)),.n 4] rfl ⟨⟨tt_,b⟩,(QA i)⟩ ?_
   refine bg_ h (fun a h=>Qa hC [.T,.n 9,.K [4] []] rfl ⟨tt_,a⟩ ?_) fun a h=>Qa hC [.F,.n 7,.K [0,1,7,8] []] rfl ⟨tt_,a⟩ ?_
   ·cases h
    exact QaH rfl (an_ rfl rfl)
   cases h
   exact QJ rfl rfl
  refine Qa hC [.F,.n 2,.K [] []] rfl ⟨tt_,b⟩ ?_
  cases h
  exact QK rfl (an_ rfl rfl)
 rcases g with(k | _)
 ·replace h:Qcv k=some r:=h
  rintro e σ ⟨rfl,rfl⟩
  refine tg_ hC [.n 2] rfl ?_
  cases h
  exact d1_ rfl rfl tt_
 replace h:Qcw=some r:=h
 rintro e σ ⟨rfl,rfl⟩
 refine tg_ hC [.n 8] rfl ?_
 cases h
 exact d1_ rfl rfl tt_
def Qcx (a:(List Int))(b:Int):Option Bool:=
 (Qdq a b).bind fun c=>
 some (decide (0≤c))
theorem QkP (e f){r}(h:Qcx e f=some r):Qd prog 203 [.sl 1 (e.map Qb),.I f] [] (Qj (.b r) []):=by
 refine Qd.walk 9 func203 rfl rfl rfl fun C hC=>?_
 obtain⟨g,a,h⟩:=Qc h
 refine Qa hC [.n 9,.o (.c false [.d,.d] (.I g)),.n 5] rfl ⟨tt_,(Qmr _ _ a)⟩ ?_
 cases h
 exact d1_ rfl rfl tt_
def QeJ (b:(List Int))(a:Int)(c:Int):Option Bool:=
 (chk (decide (0≤a)&&decide (0≤a.toNat)&&decide (a.toNat≤b.length))).bind fun _=>
 (Qcx ((b.drop 0).take (a.toNat-0)) c).bind fun d=>
 some (!d)
theorem Qoe (f g i){r}(h:QeJ f g i=some r):Qd prog 202 [.loc 609 0 0,.loc 610 0 0,.loc 611 0 0] [(609,.var (Qf f)),(610,.var (Qb g)),(611,.var (Qb i))] (Qj (.b r) [(609,.var (Qf f)),(610,.var (Qb g)),(611,.var (Qb i))]):=by
 refine Qd.walk 10 func202 rfl rfl rfl fun C hC=>?_
 obtain⟨e,h⟩:=Qas h
 obtain⟨l,j,h⟩:=Qc h
 refine tg_ hC [.n 6,.K [0,1,2,3] [609,610,611]] rfl ?_
 refine AK.draw2 Qp hC mixed [.N,.N,.a (.any (.sl 1 (((f.drop 0).take (g.toNat-0)).map Qb)) none) none false,.N,.a (.c false [.d,.d] (.b l)) none false,.N,.m .s] [] [] [3] [609,610,611] rfl rfl rfl ⟨⟨tt_,(fun σ k o _=>Stp.sliceD rfl rfl (QD hC.n rfl) (k _ _ rfl) (Qp.es rfl) Bnd.no (Bnd.val (k _ _ rfl) (Qag (Qp8 e)) rfl) (Qag (Qp9 e)) (QdG (Qag (Qqa e)) (Nat.le_of_eq Qg.symm)) QsJ)⟩,(QkP _ _ j)⟩ rfl (by kernel_rfl) rfl rfl rfl ?_
 refine tg_ hC [.n 2] rfl ?_
 cases h
 exact d1_ rfl rfl ⟨rfl,rfl,rfl,tt_⟩
def QgB (c:Qm)(b:Int)(d:Int)(e:(List Int))(f:Int)(g:Int):Option Int:=
 (QeI c b).bind fun h=>
 bif (!h)then
 some d
 else
 (QeJ e f b).bind fun a=>
 bif (!a)then
 some g
 else
 some 0
theorem QpM (i e j k l m){r}(h:QgB i e j k l m=some r):Qd prog 64 [.own 609 2] [(609,.var [.clo (.func 201) [] [.loc 610 0 0,.loc 611 0 0],.I j,.clo (.func 202) [] [.loc 612 0 0,.loc 613 0 0,.loc 611 0 0],.I m]),(610,.var (Qe i)),(611,.var (Qb e)),(612,.var (Qf k)),(613,.var (Qb l))] (Qj (.I r) [(609,.var [.clo (.func 201) [] [.loc 610 0 0,.loc 611 0 0],.I j,.clo (.func 202) [] [.loc 612 0 0,.loc 613 0 0,.loc 611 0 0],.I m]),(610,.var (Qe i)),(611,.var (Qb e)),(612,.var (Qf k)),(613,.var (Qb l))]):=by
 refine Qd.walk 18 func64 rfl rfl rfl fun C hC=>?_
 refine tg_ hC [.n 14] rfl ?_
 refine AK.loopN 3 (AK.rnd ?_)
 obtain⟨t,p,h⟩:=Qc h
 refine Qa hC [.n 2,.v .no [] (.b true),.n 10,.o (.any (.loc 609 0 0) none),.n 3,.O 4 (.var [.clo (.func 201) [] [.loc 610 0 0,.loc 611 0 0],.I j]),.n 6,.cm (.clo) [(609,610),(610,611)] [(610,609),(611,610)] [] [.d,.d] [(609,.var (Qe i)),(610,.var (Qb e))] (.b t),.n 3] rfl ⟨⟨⟨⟨tt_,rfl⟩,(fun σ f q _=>Stp.idxV rfl rfl (QD hC.n rfl) (f _ _ rfl) (f _ _ rfl) (Qp.es rfl) (q _ _ rfl) (by decide))⟩,rfl⟩,(Qod _ _ p)⟩ ?_
 refine bg_ h (fun a h=>Qa hC [.T,.n 13,.K [2] [609,610,611,612,613]] rfl ⟨tt_,a⟩ ?_) fun a h=>Qa hC [.F,.n 4,.v .no [] (.I 1),.n 2] rfl ⟨⟨tt_,a⟩,rfl⟩ ?_
 ·cases h
  exact d1_ rfl rfl ⟨rfl,rfl,rfl,rfl,rfl,tt_⟩
 refine AK.met (AK.rnd ?_)
 obtain⟨s,g,h⟩:=Qc h
 refine Qa hC [.n 2,.v .no [] (.b true),.n 10,.o (.any (.loc 609 0 2) none),.n 1,.kill 4,.n 2,.O 4 (.var [.clo (.func 202) [] [.loc 612 0 0,.loc 613 0 0,.loc 611 0 0],.I m]),.n 6,.cm (.clo) [(609,612),(610,613),(611,611)] [(612,609),(613,610),(611,611)] [] [.d,.d,.d] [(609,.var (Qf k)),(610,.var (Qb l)),(611,.var (Qb e))] (.b s),.n 3] rfl ⟨⟨⟨⟨tt_,rfl⟩,(fun σ f q _=>Stp.idxV rfl rfl (QD hC.n rfl) (f _ _ rfl) (f _ _ rfl) (Qp.es rfl) (q _ _ rfl) (by decide))⟩,rfl⟩,(Qoe _ _ _ g)⟩ ?_
 refine bg_ h (fun c h=>Qa hC [.T,.n 13,.K [2] [609,610,611,612,613]] rfl ⟨tt_,c⟩ ?_) fun c h=>Qa hC [.F,.n 4,.v .no [] (.I 2),.n 2] rfl ⟨⟨tt_,c⟩,rfl⟩ ?_
 ·cases h
  exact d1_ rfl rfl ⟨rfl,rfl,rfl,rfl,rfl,tt_⟩
 refine AK.met (AK.rnd ?_)
 refine Qa hC [.n 2,.v .no [] (.b false),.n 15] rfl ⟨tt_,rfl⟩ ?_
 cases h
 exact d1_ rfl rfl ⟨rfl,rfl,rfl,rfl,rfl,tt_⟩
def QfN (b:Int)(a:Int)(c:Qm)(d:(List Int)):Option Int:=
 (QgB c a 3 d b 5).bind fun e=>
 some e
theorem Qpn (e a b c){r}(h:QfN e a b c=some r):Qd prog 200 [.I e,.I a,.loc 609 0 0,.loc 610 0 0] [(609,.var (Qe b)),(610,.var (Qf c))] (Qj (.I r) [(609,.var (Qe b)),(610,.var (Qf c))]):=by
 refine Qd.walk 13 func200 rfl rfl rfl fun C hC=>?_
 obtain⟨g,f,h⟩:=Qc h
 refine Qa hC [.n 10,.v .no [] (.agg [.clo (.func 201) [] [.loc 609 0 0,.loc 5 0 0],.I 3]),.n 1,.v .no [] (.agg [.clo (.func 202) [] [.loc 610 0 0,.loc 4 0 0,.loc 5 0 0],.I 5]),.o (.any (.own 11 2) (some (.var [.clo (.func 201) [] [.loc 609 0 0,.loc 5 0 0],.I 3,.clo (.func 202) [] [.loc 610 0 0,.loc 4 0 0,.loc 5 0 0],.I 5]))),.cm (.fn) [(609,11),(610,609),(611,5),(612,610),(613,4)] [(11,609),(609,610),(5,611),(610,612),(4,613)] [] [.d] [(609,.var [.clo (.func 201) [] [.loc 610 0 0,.loc 611 0 0],.I 3,.clo (.func 202) [] [.loc 612 0 0,.loc 613 0 0,.loc 611 0 0],.I 5]),(610,.var (Qe b)),(611,.var (Qb a)),(612,.var (Qf c)),(613,.var (Qb e))] (.I g),.n 4] rfl ⟨⟨⟨⟨tt_,rfl⟩,rfl⟩,(fun σ i j hf=>Stp.buildAny rfl rfl (QD hC.n rfl) (Qp.es rfl) Qlh rfl (by decide) (by decide) (Qeg i rfl) rfl rfl (hf rfl))⟩,(QpM _ _ _ _ _ _ f)⟩ ?_
 cases h
 exact d1_ rfl rfl ⟨rfl,rfl,tt_⟩
def QeK (d:(List Int))(e:Qm)(f:(List Int))(a:Int):Option (Int⊕((Int×Int)⊕Unit)):=
 bif (decide (a<(d.length:Int)))then
 (idx d a).bind fun c=>
 (QfN a c e f).bind fun b=>
 bif (b != 0)then
 some (.inr (.inl (a,b)))
 else
 some (.inl (w64 (a+1)))
 else
 some (.inr (.inr ()))
def QeL (a:Int)(b:Int):Option (Int×Int):=
 some (a,b)
def QeM : Option (Int×Int):=
 some (0,0)
def QgC (a:(List Int))(b:Qm)(c:(List Int)):Option (Int×Int):=
 (Qt (fun st=>QeK a b c st) 0).bind (Sum.elim (fun q=>QeL q.1 q.2) (fun q=>QeM))
theorem QpN (g c f){r}(h:QgC g c f=some r):Qd prog 199 [.sl 1 (g.map Qb),.clo (.func 200) [] [.loc 609 0 0,.loc 610 0 0]] [(609,.var (Qe c)),(610,.var (Qf f))] (Qj (.tup [.I r.1,.I r.2]) [(609,.var (Qe c)),(610,.var (Qf f))]):=by
 refine Qd.walk 25 func199 rfl rfl rfl fun C hC=>?_
 refine Qa hC [.n 10,.o (.ln g.length),.n 4,.K [1,9,10,11] [609,610]] rfl ⟨tt_,Qg⟩ ?_
 obtain⟨l,i,h⟩:=Qc h
 refine AK.loop (body:=(fun st=>QeK g c f st)) (fun st σ=>σ=⟨[(1,.clo (.func 200) [] [.loc 609 0 0,.loc 610 0 0]),(9,.sl 1 (g.map Qb)),(10,.I (g.length:Int)),(11,.I st)],[(609,.var (Qe c)),(610,.var (Qf f))]⟩) (Sum.elim (fun q e σ=>e=.ret∧σ=⟨[(4,.I q.1),(5,.I q.2)],[(609,.var (Qe c)),(610,.var (Qf f))]⟩) (fun q e σ=>e=.exit 0∧σ=⟨[],[(609,.var (Qe c)),(610,.var (Qf f))]⟩)) i rfl ?_ ?_
 ·rintro u o σ rfl h
  refine tg_ hC [.n 6] rfl ?_
  rcases Qq h with⟨a,h⟩|⟨a,h⟩
  ·obtain⟨m,j,h⟩:=Qc h
   obtain⟨p,k,h⟩:=Qc h
   refine Qa hC [.T,.n 7,.o (.row (Qb m)),.n 10,.cm (.clo) [(609,609),(610,610)] [(609,609),(610,610)] [] [.d,.d,.d,.d] [(609,.var (Qe c)),(610,.var (Qf f))] (.I p),.n 9] rfl ⟨⟨⟨tt_,a⟩,(QA j)⟩,(Qpn _ _ _ _ k)⟩ ?_
   refine bg_ h (fun b h=>Qa hC [.T,.n 11,.K [4,5] [609,610]] rfl ⟨tt_,b⟩ ?_) fun b h=>Qa hC [.F,.n 7,.K [1,9,10,11] [609,610]] rfl ⟨tt_,b⟩ ?_
   ·cases h
    exact QaH rfl (an_ rfl rfl)
   cases h
   exact QJ rfl rfl
  refine Qa hC [.F,.n 2,.K [] [609,610]] rfl ⟨tt_,a⟩ ?_
  cases h
  exact QK rfl (an_ rfl rfl)
 rcases l with(⟨s,t⟩|_)
 ·replace h:QeL s t=some r:=h
  rintro e σ ⟨rfl,rfl⟩
  refine tg_ hC [.n 2] rfl ?_
  cases h
  exact d2_ rfl rfl rfl ⟨rfl,rfl,tt_⟩
 replace h:QeM=some r:=h
 rintro e σ ⟨rfl,rfl⟩
 refine tg_ hC [.n 9] rfl ?_
 cases h
 exact d2_ rfl rfl rfl ⟨rfl,rfl,tt_⟩
def QhA (b:Qm)(a:(List Int)):Option Int:=
 (QgC a b a).bind fun c=>
 some c.2
theorem Qqo (a b){r}(h:QhA a b=some r):Qd prog 136 [.agg (Qe a),.sl 1 (b.map Qb)] [] (Qj (.I r) []):=by
 refine Qd.walk 14 func136 rfl rfl rfl fun C hC=>?_
 obtain⟨e,c,h⟩:=Qc h
 refine Qa hC [.n 11,.cm (.fn) [(609,2),(610,3)] [(2,609),(3,610)] [] [.d,.d] [(609,.var (Qe a)),(610,.var (Qf b))] (.tup [.I e.1,.I e.2]),.n 14] rfl ⟨tt_,(QpN _ _ _ c)⟩ ?_
 cases h
 exact d1_ rfl rfl tt_
def QhB (a:Qm)(b:Qv):Option Int:=
 (QhA a b.Cancel).bind fun c=>
 some c
theorem Qqp (a b){r}(h:QhB a b=some r):Qd prog 135 [.loc 609 0 0,.loc 610 0 0] [(609,.var (Qe a)),(610,.var (Qh b))] (Qj (.I r) [(609,.var (Qe a)),(610,.var (Qh b))]):=by
 refine Qd.walk 7 func135 rfl rfl rfl fun C hC=>?_
 obtain⟨f,e,h⟩:=Qc h
 refine Qa hC [.n 7,.v .no [] (.agg (Qe a)),.n 2,.o (.c false [.d,.d] (.I f)),.n 4] rfl ⟨⟨tt_,rfl⟩,(Qqo _ _ e)⟩ ?_
 cases h
 exact d1_ rfl rfl ⟨rfl,rfl,tt_⟩
def Qe7 (b:Qm)(c:Qv)(d:Int):Option (Bool×Int):=
 (QhB b c).bind fun a=>
 some ((a==0),a)
theorem QoF (c e i){r}(h:Qe7 c e i=some r):Qd prog 184 [.loc 609 0 0,.loc 612 0 0] [(609,.var [.clo (.func 135) [] [.loc 610 0 0,.loc 611 0 0]]),(610,.var (Qe c)),(611,.var (Qh e)),(612,.var [.loc 613 0 0]),(613,.var (Qb i))] (Qj (.b r.1) [(609,.var [.clo (.func 135) [] [.loc 610 0 0,.loc 611 0 0]]),(610,.var (Qe c)),(611,.var (Qh e)),(612,.var [.loc 613 0 0]),(613,.var (Qb r.2))]):=by
 refine Qd.walk 11 func184 rfl rfl rfl fun C hC=>?_
 obtain⟨f,g,h⟩:=Qc h
 refine tg_ hC [.n 6,.K [0,1] [609,610,611,612,613]] rfl ?_
 refine AK.draw2 Qp hC mixed [.N,.N,.a (.any (.I f) none) none false,.N,.m .s] [] [] [1] [609,610,611,612,613] rfl rfl rfl ⟨tt_,(fun σ j k _=>Stp.callSame (md:=.cm (.clo) [(609,610),(610,611)] [(610,609),(611,610)] [] [.d,.d] [(609,.var (Qe c)),(610,.var (Qh e))] (.I f) [610,611]) Qp hC j k rfl ⟨⟨tt_,(Qqp _ _ g)⟩,⟨rfl,rfl,tt_⟩⟩)⟩ rfl (by kernel_rfl) rfl rfl rfl ?_
 refine Qa hC [.O 613 (.var (Qb f)),.n 11] rfl ⟨tt_,rfl⟩ ?_
 cases h
 exact d1_ rfl rfl ⟨rfl,rfl,rfl,rfl,rfl,tt_⟩
def QdQ (a:Int)(b:(List QT)):Option Bool:=
 some ((decide (1≤a))&&((decide (a≤3))&&((a != 3)||(decide ((b.length:Int)≤4)))))
theorem Qls (a f){r}(h:QdQ a f=some r):Qd prog 204 [.I a,.sl 4 (f.map QU)] [] (Qj (.b r) []):=by
 refine Qd.walk 20 func204 rfl rfl rfl fun C hC=>?_
 unfold QdQ at h
 refine tg_ hC [.n 6] rfl ?_
 refine AK.meetX (fun σ=>σ=⟨[(4,.b ((decide (1≤a))&&((decide (a≤3))&&((a != 3)||(decide ((f.length:Int)≤4))))))],[]⟩) ?_ ?_
 ·refine tg_ hC [.n 4] rfl ?_
  rcases Qz (decide (1≤a))with c | c
  ·refine Qa hC [.S 7 (.b true),.n 4] rfl (tc_ c) ?_
   rcases Qz (decide (a≤3))with d | d
   ·refine Qa hC [.S 11 (.b true),.n 3] rfl (tc_ d) ?_
    rcases Qz (a != 3)with e | e
    ·refine Qa hC [.S 14 (.b true),.n 7,.S 4 (.b ((decide (1≤a))&&((decide (a≤3))&&((a != 3)||(decide ((f.length:Int)≤4)))))),.K [4] []] rfl ⟨(tc_ e),(congrArg V.b (Qat c (Qat d (orT e rfl))))⟩ ?_
     exact AK.met rfl
    refine Qa hC [.S 14 (.b false),.n 1,.o (.ln f.length),.n 5,.S 4 (.b ((decide (1≤a))&&((decide (a≤3))&&((a != 3)||(decide ((f.length:Int)≤4)))))),.K [4] []] rfl ⟨⟨(tc_ e),Qg⟩,(congrArg V.b (Qat c (Qat d (orF e rfl))))⟩ ?_
    exact AK.met rfl
   refine Qa hC [.S 11 (.b false),.n 10,.S 4 (.b ((decide (1≤a))&&((decide (a≤3))&&((a != 3)||(decide ((f.length:Int)≤4)))))),.K [4] []] rfl ⟨(tc_ d),(congrArg V.b (Qat c (Qbm d rfl)))⟩ ?_
   exact AK.met rfl
  refine Qa hC [.S 7 (.b false),.n 14,.S 4 (.b ((decide (1≤a))&&((decide (a≤3))&&((a != 3)||(decide ((f.length:Int)≤4)))))),.K [4] []] rfl ⟨(tc_ c),(congrArg V.b (Qbm c rfl))⟩ ?_
  exact AK.met rfl
 rintro σ rfl
 refine tg_ hC [.n 2] rfl ?_
 cases h
 exact d1_ rfl rfl tt_
def Qna (a:Qv):Option Bool:=
 (QdQ a.Join a.Ins).bind fun b=>
 bif b then
 (QdQ a.Split a.Outs).bind fun c=>
 bif c then
 bif (decide (0≤a.After))then
 bif (decide (a.After≤65536))then
 some (((a.Many.1==0)&&((a.Many.2.1==0)&&(a.Many.2.2==0)))||((decide (1≤a.Many.1))&&((decide (a.Many.1≤a.Many.2.1))&&((decide (a.Many.2.1≤16))&&((decide (1≤a.Many.2.2))&&(decide (a.Many.2.2≤a.Many.2.1)))))))
 else
 some false
 else
 some false
 else
 some false
 else
 some false
def QgD (a:Bool):Option Bool:=
 some a
def QgR (a:Qv):Option Bool:=
 (Qna a).bind (fun b=>QgD b)
theorem Qr3 (a){r}(h:QgR a=some r):Qd prog 138 [.agg (Qh a)] [] (Qj (.b r) []):=by
 refine Qd.walk 70 func138 rfl rfl rfl fun C hC=>?_
 unfold QgR at h
 refine tg_ hC [.n 7,.K [1] [1]] rfl ?_
 refine AK.draw2 Qp hC mixed [.N,.N,.N,.N,.N,.N,.N,.N,.N,.N,.N,.N] [] [] [1,3,4,5] [1] rfl rfl rfl tt_ rfl (by kernel_rfl) rfl rfl rfl ?_
 refine tg_ hC [.n 2] rfl ?_
 refine AK.meetX (fun σ=>σ=⟨[(1,.loc 1 0 0),(6,.b (((a.Many.1==0)&&((a.Many.2.1==0)&&(a.Many.2.2==0)))||((decide (1≤a.Many.1))&&((decide (a.Many.1≤a.Many.2.1))&&((decide (a.Many.2.1≤16))&&((decide (1≤a.Many.2.2))&&(decide (a.Many.2.2≤a.Many.2.1))))))))],[(1,.var (Qh a))]⟩) ?_ ?_
 ·refine Qa hC [.n 2,.v .no [] (.agg (Qtr a.Many)),.v .no [] (.agg (Qtr (0,0,0))),.o (.any (.b ((a.Many.1==0)&&((a.Many.2.1==0)&&(a.Many.2.2==0)))) none),.n 1] rfl ⟨⟨⟨tt_,rfl⟩,rfl⟩,(fun σ y z _=>Stp.eqAgg rfl rfl (QD hC.n rfl) (y _ _ rfl) (y _ _ rfl) rfl rfl (QyH _ _ _ _ _ _))⟩ ?_
  rcases Qz ((a.Many.1==0)&&((a.Many.2.1==0)&&(a.Many.2.2==0)))with e | e
  ·refine Qa hC [.S 21 (.b true),.n 23,.S 6 (.b (((a.Many.1==0)&&((a.Many.2.1==0)&&(a.Many.2.2==0)))||((decide (1≤a.Many.1))&&((decide (a.Many.1≤a.Many.2.1))&&((decide (a.Many.2.1≤16))&&((decide (1≤a.Many.2.2))&&(decide (a.Many.2.2≤a.Many.2.1)))))))),.K [1,6] [1]] rfl ⟨(tc_ e),(congrArg V.b (orT e rfl))⟩ ?_
   exact AK.met rfl
  refine Qa hC [.S 21 (.b false),.n 3] rfl (tc_ e) ?_
  rcases Qz (decide (1≤a.Many.1))with f | f
  ·refine Qa hC [.S 24 (.b true),.n 5] rfl (tc_ f) ?_
   rcases Qz (decide (a.Many.1≤a.Many.2.1))with g | g
   ·refine Qa hC [.S 29 (.b true),.n 4] rfl (tc_ g) ?_
    rcases Qz (decide (a.Many.2.1≤16))with i | i
    ·refine Qa hC [.S 33 (.b true),.n 4] rfl (tc_ i) ?_
     rcases Qz (decide (1≤a.Many.2.2))with j | j
     ·refine Qa hC [.S 37 (.b true),.n 7,.S 6 (.b (((a.Many.1==0)&&((a.Many.2.1==0)&&(a.Many.2.2==0)))||((decide (1≤a.Many.1))&&((decide (a.Many.1≤a.Many.2.1))&&((decide (a.Many.2.1≤16))&&((decide (1≤a.Many.2.2))&&(decide (a.Many.2.2≤a.Many.2.1)))))))),.K [1,6] [1]] rfl ⟨(tc_ j),(congrArg V.b (orF e (Qat f (Qat g (Qat i (Qat j rfl))))))⟩ ?_
      exact AK.met rfl
     refine Qa hC [.S 37 (.b false),.n 7,.S 6 (.b (((a.Many.1==0)&&((a.Many.2.1==0)&&(a.Many.2.2==0)))||((decide (1≤a.Many.1))&&((decide (a.Many.1≤a.Many.2.1))&&((decide (a.Many.2.1≤16))&&((decide (1≤a.Many.2.2))&&(decide (a.Many.2.2≤a.Many.2.1)))))))),.K [1,6] [1]] rfl ⟨(tc_ j),(congrArg V.b (orF e (Qat f (Qat g (Qat i (Qbm j rfl))))))⟩ ?_
     exact AK.met rfl
    refine Qa hC [.S 33 (.b false),.n 11,.S 6 (.b (((a.Many.1==0)&&((a.Many.2.1==0)&&(a.Many.2.2==0)))||((decide (1≤a.Many.1))&&((decide (a.Many.1≤a.Many.2.1))&&((decide (a.Many.2.1≤16))&&((decide (1≤a.Many.2.2))&&(decide (a.Many.2.2≤a.Many.2.1)))))))),.K [1,6] [1]] rfl ⟨(tc_ i),(congrArg V.b (orF e (Qat f (Qat g (Qbm i rfl)))))⟩ ?_
    exact AK.met rfl
   refine Qa hC [.S 29 (.b false),.n 15,.S 6 (.b (((a.Many.1==0)&&((a.Many.2.1==0)&&(a.Many.2.2==0)))||((decide (1≤a.Many.1))&&((decide (a.Many.1≤a.Many.2.1))&&((decide (a.Many.2.1≤16))&&((decide (1≤a.Many.2.2))&&(decide (a.Many.2.2≤a.Many.2.1)))))))),.K [1,6] [1]] rfl ⟨(tc_ g),(congrArg V.b (orF e (Qat f (Qbm g rfl))))⟩ ?_
   exact AK.met rfl
  refine Qa hC [.S 24 (.b false),.n 20,.S 6 (.b (((a.Many.1==0)&&((a.Many.2.1==0)&&(a.Many.2.2==0)))||((decide (1≤a.Many.1))&&((decide (a.Many.1≤a.Many.2.1))&&((decide (a.Many.2.1≤16))&&((decide (1≤a.Many.2.2))&&(decide (a.Many.2.2≤a.Many.2.1)))))))),.K [1,6] [1]] rfl ⟨(tc_ f),(congrArg V.b (orF e (Qbm f rfl)))⟩ ?_
  exact AK.met rfl
 rintro σ rfl
 refine tg_ hC [.n 7] rfl ?_
 obtain⟨u,q,h⟩:=Qc h
 replace h:QgD u=some r:=h
 refine AK.meetX (fun σ=>σ=⟨[(2,.b u)],[]⟩) ?_ ?_
 ·replace h:=q
  obtain⟨w,s,h⟩:=Qc h
  refine Qa hC [.n 6,.o (.c false [.d,.d] (.b w)),.n 1] rfl ⟨tt_,(Qls _ _ s)⟩ ?_
  rcases Qq h with⟨k,h⟩|⟨k,h⟩
  ·obtain⟨x,t,h⟩:=Qc h
   refine Qa hC [.S 49 (.b true),.n 5,.o (.c false [.d,.d] (.b x)),.n 2] rfl ⟨(tc_ k),(Qls _ _ t)⟩ ?_
   refine bg_ h (fun l h=>Qa hC [.S 57 (.b true),.n 5] rfl (tc_ l) ?_) fun l h=>Qa hC [.S 57 (.b false),.n 14,.K [2] []] rfl (tc_ l) ?_
   ·refine bg_ h (fun m h=>Qa hC [.S 62 (.b true),.n 5] rfl (tc_ m) ?_) fun m h=>Qa hC [.S 62 (.b false),.n 9,.K [2] []] rfl (tc_ m) ?_
    ·refine bg_ h (fun p h=>Qa hC [.S 67 (.b true),.n 4,.K [2] []] rfl (tc_ p) ?_) fun p h=>Qa hC [.S 67 (.b false),.n 4,.K [2] []] rfl (tc_ p) ?_
     ·cases h
      exact AK.met rfl
     cases h
     exact AK.met rfl
    cases h
    exact AK.met rfl
   cases h
   exact AK.met rfl
  refine Qa hC [.S 49 (.b false),.n 22,.K [2] []] rfl (tc_ k) ?_
  cases h
  exact AK.met rfl
 rintro σ rfl
 replace h:QgD u=some r:=h
 refine tg_ hC [.n 2] rfl ?_
 cases h
 exact d1_ rfl rfl tt_
def QhC (a:Qv):Option Bool:=
 (QgR a).bind fun b=>
 some b
theorem Qqq (a){r}(h:QhC a=some r):Qd prog 137 [.loc 609 0 0] [(609,.var (Qh a))] (Qj (.b r) [(609,.var (Qh a))]):=by
 refine Qd.walk 4 func137 rfl rfl rfl fun C hC=>?_
 obtain⟨f,e,h⟩:=Qc h
 refine Qa hC [.n 7,.v .no [] (.agg (Qh a)),.o (.c false [.d] (.b f)),.n 4] rfl ⟨⟨tt_,rfl⟩,(Qr3 _ e)⟩ ?_
 cases h
 exact d1_ rfl rfl ⟨rfl,tt_⟩
def Qez (b:Qv)(v:Int)(f:Qm)(u:Int)(w:Int)(g:Int)(x:Int)(h:Int)(y:Int)(i:Int)(j:Int)(k:Int)(l:Int)(m:Int)(n:Int):Option (Int×Int):=
 (QiG b).bind fun o=>
 bif (!o)then
 some (v,h)
 else
 (QiI f u b).bind fun p=>
 bif (!p)then
 some (w,h)
 else
 (QfW g b).bind fun q=>
 bif (!q)then
 some (x,h)
 else
 (Qhx f b h).bind fun a=>
 bif (!a.1)then
 some (y,a.2)
 else
 (QiK f u).bind fun r=>
 bif (!r)then
 some (i,a.2)
 else
 (QiM b g).bind fun s=>
 bif (!s)then
 some (j,a.2)
 else
 (Qe5 f b g a.2).bind fun d=>
 bif (!d.1)then
 some (k,d.2)
 else
 (Qe6 f b g d.2).bind fun e=>
 bif (!e.1)then
 some (l,e.2)
 else
 (Qe7 f b e.2).bind fun c=>
 bif (!c.1)then
 some (m,c.2)
 else
 (QhC b).bind fun t=>
 bif (!t)then
 some (n,c.2)
 else
 some (0,c.2)
theorem QpO (e v2 t D v5 B v7 v8 v9 u w x y z A){r}(h:Qez e v2 t D v5 B v7 v8 v9 u w x y z A=some r):Qd prog 64 [.own 609 10] [(609,.var [.clo (.func 122) [] [.loc 610 0 0],.I v2,.clo (.func 123) [] [.loc 611 0 0,.loc 612 0 0,.loc 613 0 0],.I v5,.clo (.func 125) [] [.loc 614 0 0,.loc 610 0 0],.I v7,.clo (.func 184) [] [.loc 615 0 0,.loc 616 0 0],.I v9,.clo (.func 129) [] [.loc 611 0 0,.loc 612 0 0],.I u,.clo (.func 130) [] [.loc 610 0 0,.loc 614 0 0],.I w,.clo (.func 184) [] [.loc 618 0 0,.loc 619 0 0],.I x,.clo (.func 184) [] [.loc 620 0 0,.loc 621 0 0],.I y,.clo (.func 184) [] [.loc 622 0 0,.loc 623 0 0],.I z,.clo (.func 137) [] [.loc 610 0 0],.I A]),(610,.var (Qh e)),(611,.var (Qe t)),(612,.var (Qb D)),(613,.var [.clo (.func 121) [] [.loc 610 0 0]]),(614,.var (Qb B)),(615,.var [.clo (.func 127) [] [.loc 611 0 0,.loc 610 0 0]]),(616,.var [.loc 617 0 0]),(617,.var (Qb v8)),(618,.var [.clo (.func 132) [] [.loc 611 0 0,.loc 610 0 0,.loc 614 0 0]]),(619,.var [.loc 617 0 0]),(620,.var [.clo (.func 134) [] [.loc 611 0 0,.loc 610 0 0,.loc 614 0 0]]),(621,.var [.loc 617 0 0]),(622,.var [.clo (.func 135) [] [.loc 611 0 0,.loc 610 0 0]]),(623,.var [.loc 617 0 0])] (Qj (.I r.1) [(609,.var [.clo (.func 122) [] [.loc 610 0 0],.I v2,.clo (.func 123) [] [.loc 611 0 0,.loc 612 0 0,.loc 613 0 0],.I v5,.clo (.func 125) [] [.loc 614 0 0,.loc 610 0 0],.I v7,.clo (.func 184) [] [.loc 615 0 0,.loc 616 0 0],.I v9,.clo (.func 129) [] [.loc 611 0 0,.loc 612 0 0],.I u,.clo (.func 130) [] [.loc 610 0 0,.loc 614 0 0],.I w,.clo (.func 184) [] [.loc 618 0 0,.loc 619 0 0],.I x,.clo (.func 184) [] [.loc 620 0 0,.loc 621 0 0],.I y,.clo (.func 184) [] [.loc 622 0 0,.loc 623 0 0],.I z,.clo (.func 137) [] [.loc 610 0 0],.I A]),(610,.var (Qh e)),(611,.var (Qe t)),(612,.var (Qb D)),(613,.var [.clo (.func 121) [] [.loc 610 0 0]]),(614,.var (Qb B)),(615,.var [.clo (.func 127) [] [.loc 611 0 0,.loc 610 0 0]]),(616,.var [.loc 617 0 0]),(617,.var (Qb r.2)),(618,.var [.clo (.func 132) [] [.loc 611 0 0,.loc 610 0 0,.loc 614 0 0]]),(619,.var [.loc 617 0 0]),(620,.var [.clo (.func 134) [] [.loc 611 0 0,.loc 610 0 0,.loc 614 0 0]]),(621,.var [.loc 617 0 0]),(622,.var [.clo (.func 135) [] [.loc 611 0 0,.loc 610 0 0]]),(623,.var [.loc 617 0 0])]):=by
 refine Qd.walk 18 func64 rfl rfl rfl fun C hC=>?_
 refine tg_ hC [.n 14] rfl ?_
 refine AK.loopN 11 (AK.rnd ?_)
 obtain⟨a0,E,h⟩:=Qc h
 refine Qa hC [.n 2,.v .no [] (.b true),.n 10,.o (.any (.loc 609 0 0) none),.n 3,.O 4 (.var [.clo (.func 122) [] [.loc 610 0 0],.I v2]),.n 6,.cm (.clo) [(609,610)] [(610,609)] [] [.d] [(609,.var (Qh e))] (.b a0),.n 3] rfl ⟨⟨⟨⟨tt_,rfl⟩,(fun σ a c _=>Stp.idxV rfl rfl (QD hC.n rfl) (a _ _ rfl) (a _ _ rfl) (Qp.es rfl) (c _ _ rfl) (by decide))⟩,rfl⟩,(Qq7 _ E)⟩ ?_
 refine bg_ h (fun f h=>Qa hC [.T,.n 13,.K [2] [609,610,611,612,613,614,615,616,617,618,619,620,621,622,623]] rfl ⟨tt_,f⟩ ?_) fun f h=>Qa hC [.F,.n 4,.v .no [] (.I 1),.n 2] rfl ⟨⟨tt_,f⟩,rfl⟩ ?_
 ·cases h
  exact d1_ rfl rfl ⟨rfl,rfl,rfl,rfl,rfl,rfl,rfl,rfl,rfl,rfl,rfl,rfl,rfl,rfl,rfl,tt_⟩
 refine AK.met (AK.rnd ?_)
 obtain⟨a1,G,h⟩:=Qc h
 refine Qa hC [.n 2,.v .no [] (.b true),.n 10,.o (.any (.loc 609 0 2) none),.n 1,.kill 4,.n 2,.O 4 (.var [.clo (.func 123) [] [.loc 611 0 0,.loc 612 0 0,.loc 613 0 0],.I v5]),.n 6,.cm (.clo) [(609,611),(610,612),(611,613),(612,610)] [(611,609),(612,610),(613,611),(610,612)] [] [.d,.d,.d] [(609,.var (Qe t)),(610,.var (Qb D)),(611,.var [.clo (.func 121) [] [.loc 612 0 0]]),(612,.var (Qh e))] (.b a1),.n 3] rfl ⟨⟨⟨⟨tt_,rfl⟩,(fun σ a c _=>Stp.idxV rfl rfl (QD hC.n rfl) (a _ _ rfl) (a _ _ rfl) (Qp.es rfl) (c _ _ rfl) (by decide))⟩,rfl⟩,(Qq9 _ _ _ G)⟩ ?_
 refine bg_ h (fun g h=>Qa hC [.T,.n 13,.K [2] [609,610,611,612,613,614,615,616,617,618,619,620,621,622,623]] rfl ⟨tt_,g⟩ ?_) fun g h=>Qa hC [.F,.n 4,.v .no [] (.I 2),.n 2] rfl ⟨⟨tt_,g⟩,rfl⟩ ?_
 ·cases h
  exact d1_ rfl rfl ⟨rfl,rfl,rfl,rfl,rfl,rfl,rfl,rfl,rfl,rfl,rfl,rfl,rfl,rfl,rfl,tt_⟩
 refine AK.met (AK.rnd ?_)
 obtain⟨a2,H,h⟩:=Qc h
 refine Qa hC [.n 2,.v .no [] (.b true),.n 10,.o (.any (.loc 609 0 4) none),.n 1,.kill 4,.n 2,.O 4 (.var [.clo (.func 125) [] [.loc 614 0 0,.loc 610 0 0],.I v7]),.n 6,.cm (.clo) [(609,614),(610,610)] [(614,609),(610,610)] [] [.d,.d] [(609,.var (Qb B)),(610,.var (Qh e))] (.b a2),.n 3] rfl ⟨⟨⟨⟨tt_,rfl⟩,(fun σ a c _=>Stp.idxV rfl rfl (QD hC.n rfl) (a _ _ rfl) (a _ _ rfl) (Qp.es rfl) (c _ _ rfl) (by decide))⟩,rfl⟩,(Qra _ _ H)⟩ ?_
 refine bg_ h (fun i h=>Qa hC [.T,.n 13,.K [2] [609,610,611,612,613,614,615,616,617,618,619,620,621,622,623]] rfl ⟨tt_,i⟩ ?_) fun i h=>Qa hC [.F,.n 4,.v .no [] (.I 3),.n 2] rfl ⟨⟨tt_,i⟩,rfl⟩ ?_
 ·cases h
  exact d1_ rfl rfl ⟨rfl,rfl,rfl,rfl,rfl,rfl,rfl,rfl,rfl,rfl,rfl,rfl,rfl,rfl,rfl,tt_⟩
 refine AK.met (AK.rnd ?_)
 obtain⟨J,L,h⟩:=Qc h
 refine Qa hC [.n 2,.v .no [] (.b true),.n 10,.o (.any (.loc 609 0 6) none),.n 1,.kill 4,.n 2,.O 4 (.var [.clo (.func 184) [] [.loc 615 0 0,.loc 616 0 0],.I v9]),.n 6,.cm (.clo) [(609,615),(610,611),(611,610),(612,616),(613,617)] [(615,609),(611,610),(610,611),(616,612),(617,613)] [] [.d,.d] [(609,.var [.clo (.func 127) [] [.loc 610 0 0,.loc 611 0 0]]),(610,.var (Qe t)),(611,.var (Qh e)),(612,.var [.loc 613 0 0]),(613,.var (Qb J.2))] (.b J.1),.n 3] rfl ⟨⟨⟨⟨tt_,rfl⟩,(fun σ a c _=>Stp.idxV rfl rfl (QD hC.n rfl) (a _ _ rfl) (a _ _ rfl) (Qp.es rfl) (c _ _ rfl) (by decide))⟩,rfl⟩,(Qqn _ _ _ L)⟩ ?_
 refine bg_ h (fun j h=>Qa hC [.T,.n 13,.K [2] [609,610,611,612,613,614,615,616,617,618,619,620,621,622,623]] rfl ⟨tt_,j⟩ ?_) fun j h=>Qa hC [.F,.n 4,.v .no [] (.I 4),.n 2] rfl ⟨⟨tt_,j⟩,rfl⟩ ?_
 ·cases h
  exact d1_ rfl rfl ⟨rfl,rfl,rfl,rfl,rfl,rfl,rfl,rfl,rfl,rfl,rfl,rfl,rfl,rfl,rfl,tt_⟩
 refine AK.met (AK.rnd ?_)
 obtain⟨a3,M,h⟩:=Qc h
 refine Qa hC [.n 2,.v .no [] (.b true),.n 10,.o (.any (.loc 609 0 8) none),.n 1,.kill 4,.n 2,.O 4 (.var [.clo (.func 129) [] [.loc 611 0 0,.loc 612 0 0],.I u]),.n 6,.cm (.clo) [(609,611),(610,612)] [(611,609),(612,610)] [] [.d,.d] [(609,.var (Qe t)),(610,.var (Qb D))] (.b a3),.n 3] rfl ⟨⟨⟨⟨tt_,rfl⟩,(fun σ a c _=>Stp.idxV rfl rfl (QD hC.n rfl) (a _ _ rfl) (a _ _ rfl) (Qp.es rfl) (c _ _ rfl) (by decide))⟩,rfl⟩,(Qrc _ _ M)⟩ ?_
 refine bg_ h (fun k h=>Qa hC [.T,.n 13,.K [2] [609,610,611,612,613,614,615,616,617,618,619,620,621,622,623]] rfl ⟨tt_,k⟩ ?_) fun k h=>Qa hC [.F,.n 4,.v .no [] (.I 5),.n 2] rfl ⟨⟨tt_,k⟩,rfl⟩ ?_
 ·cases h
  exact d1_ rfl rfl ⟨rfl,rfl,rfl,rfl,rfl,rfl,rfl,rfl,rfl,rfl,rfl,rfl,rfl,rfl,rfl,tt_⟩
 refine AK.met (AK.rnd ?_)
 obtain⟨a4,N,h⟩:=Qc h
 refine Qa hC [.n 2,.v .no [] (.b true),.n 10,.o (.any (.loc 609 0 10) none),.n 1,.kill 4,.n 2,.O 4 (.var [.clo (.func 130) [] [.loc 610 0 0,.loc 614 0 0],.I w]),.n 6,.cm (.clo) [(609,610),(610,614)] [(610,609),(614,610)] [] [.d,.d] [(609,.var (Qh e)),(610,.var (Qb B))] (.b a4),.n 3] rfl ⟨⟨⟨⟨tt_,rfl⟩,(fun σ a c _=>Stp.idxV rfl rfl (QD hC.n rfl) (a _ _ rfl) (a _ _ rfl) (Qp.es rfl) (c _ _ rfl) (by decide))⟩,rfl⟩,(Qrg _ _ N)⟩ ?_
 refine bg_ h (fun l h=>Qa hC [.T,.n 13,.K [2] [609,610,611,612,613,614,615,616,617,618,619,620,621,622,623]] rfl ⟨tt_,l⟩ ?_) fun l h=>Qa hC [.F,.n 4,.v .no [] (.I 6),.n 2] rfl ⟨⟨tt_,l⟩,rfl⟩ ?_
 ·cases h
  exact d1_ rfl rfl ⟨rfl,rfl,rfl,rfl,rfl,rfl,rfl,rfl,rfl,rfl,rfl,rfl,rfl,rfl,rfl,tt_⟩
 refine AK.met (AK.rnd ?_)
 obtain⟨P,S,h⟩:=Qc h
 refine Qa hC [.n 2,.v .no [] (.b true),.n 10,.o (.any (.loc 609 0 12) none),.n 1,.kill 4,.n 2,.O 4 (.var [.clo (.func 184) [] [.loc 618 0 0,.loc 619 0 0],.I x]),.n 6,.cm (.clo) [(609,618),(610,611),(611,610),(612,614),(613,619),(614,617)] [(618,609),(611,610),(610,611),(614,612),(619,613),(617,614)] [] [.d,.d] [(609,.var [.clo (.func 132) [] [.loc 610 0 0,.loc 611 0 0,.loc 612 0 0]]),(610,.var (Qe t)),(611,.var (Qh e)),(612,.var (Qb B)),(613,.var [.loc 614 0 0]),(614,.var (Qb P.2))] (.b P.1),.n 3] rfl ⟨⟨⟨⟨tt_,rfl⟩,(fun σ a c _=>Stp.idxV rfl rfl (QD hC.n rfl) (a _ _ rfl) (a _ _ rfl) (Qp.es rfl) (c _ _ rfl) (by decide))⟩,rfl⟩,(QoD _ _ _ _ S)⟩ ?_
 refine bg_ h (fun m h=>Qa hC [.T,.n 13,.K [2] [609,610,611,612,613,614,615,616,617,618,619,620,621,622,623]] rfl ⟨tt_,m⟩ ?_) fun m h=>Qa hC [.F,.n 4,.v .no [] (.I 7),.n 2] rfl ⟨⟨tt_,m⟩,rfl⟩ ?_
 ·cases h
  exact d1_ rfl rfl ⟨rfl,rfl,rfl,rfl,rfl,rfl,rfl,rfl,rfl,rfl,rfl,rfl,rfl,rfl,rfl,tt_⟩
 refine AK.met (AK.rnd ?_)
 obtain⟨U,W,h⟩:=Qc h
 refine Qa hC [.n 2,.v .no [] (.b true),.n 10,.o (.any (.loc 609 0 14) none),.n 1,.kill 4,.n 2,.O 4 (.var [.clo (.func 184) [] [.loc 620 0 0,.loc 621 0 0],.I y]),.n 6,.cm (.clo) [(609,620),(610,611),(611,610),(612,614),(613,621),(614,617)] [(620,609),(611,610),(610,611),(614,612),(621,613),(617,614)] [] [.d,.d] [(609,.var [.clo (.func 134) [] [.loc 610 0 0,.loc 611 0 0,.loc 612 0 0]]),(610,.var (Qe t)),(611,.var (Qh e)),(612,.var (Qb B)),(613,.var [.loc 614 0 0]),(614,.var (Qb U.2))] (.b U.1),.n 3] rfl ⟨⟨⟨⟨tt_,rfl⟩,(fun σ a c _=>Stp.idxV rfl rfl (QD hC.n rfl) (a _ _ rfl) (a _ _ rfl) (Qp.es rfl) (c _ _ rfl) (by decide))⟩,rfl⟩,(QoE _ _ _ _ W)⟩ ?_
 refine bg_ h (fun p h=>Qa hC [.T,.n 13,.K [2] [609,610,611,612,613,614,615,616,617,618,619,620,621,622,623]] rfl ⟨tt_,p⟩ ?_) fun p h=>Qa hC [.F,.n 4,.v .no [] (.I 8),.n 2] rfl ⟨⟨tt_,p⟩,rfl⟩ ?_
 ·cases h
  exact d1_ rfl rfl ⟨rfl,rfl,rfl,rfl,rfl,rfl,rfl,rfl,rfl,rfl,rfl,rfl,rfl,rfl,rfl,tt_⟩
 refine AK.met (AK.rnd ?_)
 obtain⟨X,Y,h⟩:=Qc h
 refine Qa hC [.n 2,.v .no [] (.b true),.n 10,.o (.any (.loc 609 0 16) none),.n 1,.kill 4,.n 2,.O 4 (.var [.clo (.func 184) [] [.loc 622 0 0,.loc 623 0 0],.I z]),.n 6,.cm (.clo) [(609,622),(610,611),(611,610),(612,623),(613,617)] [(622,609),(611,610),(610,611),(623,612),(617,613)] [] [.d,.d] [(609,.var [.clo (.func 135) [] [.loc 610 0 0,.loc 611 0 0]]),(610,.var (Qe t)),(611,.var (Qh e)),(612,.var [.loc 613 0 0]),(613,.var (Qb X.2))] (.b X.1),.n 3] rfl ⟨⟨⟨⟨tt_,rfl⟩,(fun σ a c _=>Stp.idxV rfl rfl (QD hC.n rfl) (a _ _ rfl) (a _ _ rfl) (Qp.es rfl) (c _ _ rfl) (by decide))⟩,rfl⟩,(QoF _ _ _ Y)⟩ ?_
 refine bg_ h (fun q h=>Qa hC [.T,.n 13,.K [2] [609,610,611,612,613,614,615,616,617,618,619,620,621,622,623]] rfl ⟨tt_,q⟩ ?_) fun q h=>Qa hC [.F,.n 4,.v .no [] (.I 9),.n 2] rfl ⟨⟨tt_,q⟩,rfl⟩ ?_
 ·cases h
  exact d1_ rfl rfl ⟨rfl,rfl,rfl,rfl,rfl,rfl,rfl,rfl,rfl,rfl,rfl,rfl,rfl,rfl,rfl,tt_⟩
 refine AK.met (AK.rnd ?_)
 obtain⟨a5,Z,h⟩:=Qc h
 refine Qa hC [.n 2,.v .no [] (.b true),.n 10,.o (.any (.loc 609 0 18) none),.n 1,.kill 4,.n 2,.O 4 (.var [.clo (.func 137) [] [.loc 610 0 0],.I A]),.n 6,.cm (.clo) [(609,610)] [(610,609)] [] [.d] [(609,.var (Qh e))] (.b a5),.n 3] rfl ⟨⟨⟨⟨tt_,rfl⟩,(fun σ a c _=>Stp.idxV rfl rfl (QD hC.n rfl) (a _ _ rfl) (a _ _ rfl) (Qp.es rfl) (c _ _ rfl) (by decide))⟩,rfl⟩,(Qqq _ Z)⟩ ?_
 refine bg_ h (fun s h=>Qa hC [.T,.n 13,.K [2] [609,610,611,612,613,614,615,616,617,618,619,620,621,622,623]] rfl ⟨tt_,s⟩ ?_) fun s h=>Qa hC [.F,.n 4,.v .no [] (.I 10),.n 2] rfl ⟨⟨tt_,s⟩,rfl⟩ ?_
 ·cases h
  exact d1_ rfl rfl ⟨rfl,rfl,rfl,rfl,rfl,rfl,rfl,rfl,rfl,rfl,rfl,rfl,rfl,rfl,rfl,tt_⟩
 refine AK.met (AK.rnd ?_)
 refine Qa hC [.n 2,.v .no [] (.b false),.n 15] rfl ⟨tt_,rfl⟩ ?_
 cases h
 exact d1_ rfl rfl ⟨rfl,rfl,rfl,rfl,rfl,rfl,rfl,rfl,rfl,rfl,rfl,rfl,rfl,rfl,rfl,tt_⟩
def QbY (a:Qm)(e:Int):Option Int:=
 (QbX a.Tasks e).bind fun g=>
 bif (!g)then
 some 3
 else
 (Qe4 a).bind fun f=>
 bif (f.2 != 0)then
 some f.2
 else
 (idx a.Tasks e).bind fun d=>
 (idx a.Tasks e).bind fun b=>
 (QjC 0 a d).bind fun h=>
 (Qgq 0 a d (b.Vars.length:Int)).bind fun i=>
 (Qgr 0 a d (b.Vars.length:Int)).bind fun j=>
 (Qgs 0 a d).bind fun k=>
 (Qez d 1 a e 5 (b.Vars.length:Int) 2 0 (-1) 2 1 (-1) (-1) (-1) 11).bind fun c=>
 bif (c.1==(-1))then
 some c.2
 else
 some c.1
theorem QsR (g y){r}(h:QbY g y=some r):Qd prog 75 [.agg (Qe g),.I y] [] (Qj (.I r) []):=by
 refine Qd.walk 68 func75 rfl rfl rfl fun C hC=>?_
 obtain⟨E,z,h⟩:=Qc h
 refine Qa hC [.n 13,.o (.c false [.d,.d] (.b E)),.n 3] rfl ⟨tt_,(Qhw _ _ z)⟩ ?_
 rcases Qq h with⟨j,h⟩|⟨j,h⟩
 ·refine Qa hC [.T,.n 7] rfl ⟨tt_,j⟩ ?_
  cases h
  exact d1_ rfl rfl tt_
 obtain⟨D,A,h⟩:=Qc h
 refine Qa hC [.F,.n 5,.v .no [] (.agg (Qe g)),.o (.c false [.d] (.tup [.I D.1,.I D.2])),.n 13] rfl ⟨⟨⟨tt_,j⟩,rfl⟩,(Qlr _ A)⟩ ?_
 rcases Qq h with⟨k,h⟩|⟨k,h⟩
 ·refine Qa hC [.T,.n 8] rfl ⟨tt_,k⟩ ?_
  cases h
  exact d1_ rfl rfl tt_
 obtain⟨i,B,h⟩:=Qc h
 obtain⟨e,l,h⟩:=Qc h
 refine Qa hC [.F,.n 3,.K [2,3] [2,3]] rfl ⟨tt_,k⟩ ?_
 refine AK.draw2 Qp hC mixed [.N,.N,.N,.a (.row (Qh i)) none false,.a .no (some ([],.agg (Qh i))) false,.a .no none true,.a .no none true,.a .no none true,.a (.row (Qh e)) none true,.a .no none true,.a .no none true,.a (.ln e.Vars.length) none true,.N,.N,.m .s,.m .s] [2,3] [2,3] [2,3,7,8] [2,3,7,8] rfl rfl rfl ⟨⟨⟨⟨tt_,(QA B)⟩,rfl⟩,(QA l)⟩,Qg⟩ rfl (by kernel_rfl) rfl rfl rfl ?_
 obtain⟨G,p,h⟩:=Qc h
 obtain⟨H,q,h⟩:=Qc h
 obtain⟨J,t,h⟩:=Qc h
 obtain⟨L,u,h⟩:=Qc h
 obtain⟨w,x,h⟩:=Qc h
 refine Qa hC [.O 7 (.var (Qh i)),.O 8 (.var (Qb (e.Vars.length:Int))),.n 6,.O 9 (.var [.clo (.func 121) [] [.loc 7 0 0]]),.n 10,.v .no [] (.agg [.clo (.func 122) [] [.loc 7 0 0],.I 1]),.n 1,.v .no [] (.agg [.clo (.func 123) [] [.loc 2 0 0,.loc 3 0 0,.loc 9 0 0],.I 5]),.n 1,.v .no [] (.agg [.clo (.func 125) [] [.loc 8 0 0,.loc 7 0 0],.I 2]),.n 1,.cm (.fn) [(609,10),(610,2),(611,7)] [(45,2),(603,3),(10,609),(2,610),(7,611)] [] [.d,.d] [(2,.var [.loc 609 0 0]),(3,.var [.clo (.func 127) [] [.loc 610 0 0,.loc 611 0 0]]),(609,.var (Qb 0)),(610,.var (Qe g)),(611,.var (Qh i))] (.clo (.func 184) [] [.loc 3 0 0,.loc 2 0 0]),.v .no [] (.agg [.clo (.func 184) [] [.loc 603 0 0,.loc 45 0 0],.I (-1)]),.n 1,.v .no [] (.agg [.clo (.func 129) [] [.loc 2 0 0,.loc 3 0 0],.I 2]),.n 1,.v .no [] (.agg [.clo (.func 130) [] [.loc 7 0 0,.loc 8 0 0],.I 1]),.n 1,.cm (.fn) [(609,10),(610,2),(611,7),(612,8)] [(52,2),(604,3),(10,609),(2,610),(7,611),(8,612)] [] [.d,.d] [(2,.var [.loc 609 0 0]),(3,.var [.clo (.func 132) [] [.loc 610 0 0,.loc 611 0 0,.loc 612 0 0]]),(609,.var (Qb 0)),(610,.var (Qe g)),(611,.var (Qh i)),(612,.var (Qb (e.Vars.length:Int)))] (.clo (.func 184) [] [.loc 3 0 0,.loc 2 0 0]),.v .no [] (.agg [.clo (.func 184) [] [.loc 604 0 0,.loc 52 0 0],.I (-1)]),.n 1,.cm (.fn) [(609,10),(610,2),(611,7),(612,8)] [(55,2),(605,3),(10,609),(2,610),(7,611),(8,612)] [] [.d,.d] [(2,.var [.loc 609 0 0]),(3,.var [.clo (.func 134) [] [.loc 610 0 0,.loc 611 0 0,.loc 612 0 0]]),(609,.var (Qb 0)),(610,.var (Qe g)),(611,.var (Qh i)),(612,.var (Qb (e.Vars.length:Int)))] (.clo (.func 184) [] [.loc 3 0 0,.loc 2 0 0]),.v .no [] (.agg [.clo (.func 184) [] [.loc 605 0 0,.loc 55 0 0],.I (-1)]),.n 1,.cm (.fn) [(609,10),(610,2),(611,7)] [(58,2),(606,3),(10,609),(2,610),(7,611)] [] [.d,.d] [(2,.var [.loc 609 0 0]),(3,.var [.clo (.func 135) [] [.loc 610 0 0,.loc 611 0 0]]),(609,.var (Qb 0)),(610,.var (Qe g)),(611,.var (Qh i))] (.clo (.func 184) [] [.loc 3 0 0,.loc 2 0 0]),.v .no [] (.agg [.clo (.func 184) [] [.loc 606 0 0,.loc 58 0 0],.I (-1)]),.n 1,.v .no [] (.agg [.clo (.func 137) [] [.loc 7 0 0],.I 11]),.o (.any (.own 62 10) (some (.var [.clo (.func 122) [] [.loc 7 0 0],.I 1,.clo (.func 123) [] [.loc 2 0 0,.loc 3 0 0,.loc 9 0 0],.I 5,.clo (.func 125) [] [.loc 8 0 0,.loc 7 0 0],.I 2,.clo (.func 184) [] [.loc 603 0 0,.loc 45 0 0],.I (-1),.clo (.func 129) [] [.loc 2 0 0,.loc 3 0 0],.I 2,.clo (.func 130) [] [.loc 7 0 0,.loc 8 0 0],.I 1,.clo (.func 184) [] [.loc 604 0 0,.loc 52 0 0],.I (-1),.clo (.func 184) [] [.loc 605 0 0,.loc 55 0 0],.I (-1),.clo (.func 184) [] [.loc 606 0 0,.loc 58 0 0],.I (-1),.clo (.func 137) [] [.loc 7 0 0],.I 11]))),.cm (.fn) [(609,62),(610,7),(611,2),(612,3),(613,9),(614,8),(615,603),(616,45),(617,10),(618,604),(619,52),(620,605),(621,55),(622,606),(623,58)] [(62,609),(7,610),(2,611),(3,612),(9,613),(8,614),(603,615),(45,616),(10,617),(604,618),(52,619),(605,620),(55,621),(606,622),(58,623)] [] [.d] [(609,.var [.clo (.func 122) [] [.loc 610 0 0],.I 1,.clo (.func 123) [] [.loc 611 0 0,.loc 612 0 0,.loc 613 0 0],.I 5,.clo (.func 125) [] [.loc 614 0 0,.loc 610 0 0],.I 2,.clo (.func 184) [] [.loc 615 0 0,.loc 616 0 0],.I (-1),.clo (.func 129) [] [.loc 611 0 0,.loc 612 0 0],.I 2,.clo (.func 130) [] [.loc 610 0 0,.loc 614 0 0],.I 1,.clo (.func 184) [] [.loc 618 0 0,.loc 619 0 0],.I (-1),.clo (.func 184) [] [.loc 620 0 0,.loc 621 0 0],.I (-1),.clo (.func 184) [] [.loc 622 0 0,.loc 623 0 0],.I (-1),.clo (.func 137) [] [.loc 610 0 0],.I 11]),(610,.var (Qh i)),(611,.var (Qe g)),(612,.var (Qb y)),(613,.var [.clo (.func 121) [] [.loc 610 0 0]]),(614,.var (Qb (e.Vars.length:Int))),(615,.var [.clo (.func 127) [] [.loc 611 0 0,.loc 610 0 0]]),(616,.var [.loc 617 0 0]),(617,.var (Qb w.2)),(618,.var [.clo (.func 132) [] [.loc 611 0 0,.loc 610 0 0,.loc 614 0 0]]),(619,.var [.loc 617 0 0]),(620,.var [.clo (.func 134) [] [.loc 611 0 0,.loc 610 0 0,.loc 614 0 0]]),(621,.var [.loc 617 0 0]),(622,.var [.clo (.func 135) [] [.loc 611 0 0,.loc 610 0 0]]),(623,.var [.loc 617 0 0])] (.I w.1),.n 10] rfl ⟨⟨⟨⟨⟨⟨⟨⟨⟨⟨⟨⟨⟨⟨⟨⟨⟨⟨⟨tt_,rfl⟩,rfl⟩,rfl⟩,rfl⟩,rfl⟩,rfl⟩,(Qr0 _ _ _ p)⟩,rfl⟩,rfl⟩,rfl⟩,(QpF _ _ _ _ q)⟩,rfl⟩,(QpG _ _ _ _ t)⟩,rfl⟩,(QpH _ _ _ u)⟩,rfl⟩,rfl⟩,(fun σ M P hf=>Stp.buildAny rfl rfl (QD hC.n rfl) (Qp.es rfl) Qlh rfl (by decide) (by decide) (Qeg M rfl) rfl rfl (hf rfl))⟩,(QpO _ _ _ _ _ _ _ _ _ _ _ _ _ _ _ x)⟩ ?_
 refine bg_ h (fun f h=>Qa hC [.T,.n 8,.K [4] []] rfl ⟨tt_,f⟩ ?_) fun f h=>Qa hC [.F,.n 9,.K [4] []] rfl ⟨tt_,f⟩ ?_
 ·cases h
  exact d1_ rfl rfl tt_
 cases h
 exact d1_ rfl rfl tt_
def QgS (a:Int)(d:Qv)(b:Qm):Option Int:=
 (QbY b a).bind fun c=>
 some c
theorem Qr4 (e f a){r}(h:QgS e f a=some r):Qd prog 74 [.I e,.agg (Qh f),.loc 609 0 0] [(609,.var (Qe a))] (Qj (.I r) [(609,.var (Qe a))]):=by
 refine Qd.walk 9 func74 rfl rfl rfl fun C hC=>?_
 obtain⟨g,b,h⟩:=Qc h
 refine Qa hC [.n 8,.v .no [] (.agg (Qe a)),.n 1,.o (.c false [.d,.d] (.I g)),.n 4] rfl ⟨⟨tt_,rfl⟩,(QsR _ _ b)⟩ ?_
 cases h
 exact d1_ rfl rfl ⟨rfl,tt_⟩
def QaZ (d:(List Qv))(e:Qm)(a:Int):Option (Int⊕((Int×Int)⊕Unit)):=
 bif (decide (a<(d.length:Int)))then
 (idx d a).bind fun c=>
 (QgS a c e).bind fun b=>
 bif (b != 0)then
 some (.inr (.inl (a,b)))
 else
 some (.inl (w64 (a+1)))
 else
 some (.inr (.inr ()))
def QcG (b:Int)(a:Int):Option (Int×Int):=
 some (b,a)
def QcH : Option (Int×Int):=
 some (0,0)
def QbA (a:(List Qv))(b:Qm):Option (Int×Int):=
 (Qt (fun st=>QaZ a b st) 0).bind (Sum.elim (fun q=>QcG q.1 q.2) (fun q=>QcH))
theorem Qnb (g f){r}(h:QbA g f=some r):Qd prog 73 [.sl 14 (g.map Qh),.clo (.func 74) [] [.loc 609 0 0]] [(609,.var (Qe f))] (Qj (.tup [.I r.1,.I r.2]) [(609,.var (Qe f))]):=by
 refine Qd.walk 25 func73 rfl rfl rfl fun C hC=>?_
 refine Qa hC [.n 10,.o (.ln g.length),.n 4,.K [1,9,10,11] [609]] rfl ⟨tt_,Qg⟩ ?_
 obtain⟨l,i,h⟩:=Qc h
 refine AK.loop (body:=(fun st=>QaZ g f st)) (fun st σ=>σ=⟨[(1,.clo (.func 74) [] [.loc 609 0 0]),(9,.sl 14 (g.map Qh)),(10,.I (g.length:Int)),(11,.I st)],[(609,.var (Qe f))]⟩) (Sum.elim (fun q e σ=>e=.ret∧σ=⟨[(4,.I q.1),(5,.I q.2)],[(609,.var (Qe f))]⟩) (fun q e σ=>e=.exit 0∧σ=⟨[],[(609,.var (Qe f))]⟩)) i rfl ?_ ?_
 ·rintro t o σ rfl h
  refine tg_ hC [.n 6] rfl ?_
  rcases Qq h with⟨a,h⟩|⟨a,h⟩
  ·obtain⟨c,j,h⟩:=Qc h
   obtain⟨m,k,h⟩:=Qc h
   refine Qa hC [.T,.n 7,.o (.row (Qh c)),.v .no [] (.agg (Qh c)),.n 3,.O 7 (.var (Qh c)),.n 6,.v .no [] (.agg (Qh c)),.cm (.clo) [(609,609)] [(609,609)] [] [.d,.d,.d] [(609,.var (Qe f))] (.I m),.n 9] rfl ⟨⟨⟨⟨⟨⟨tt_,a⟩,(QA j)⟩,rfl⟩,rfl⟩,rfl⟩,(Qr4 _ _ _ k)⟩ ?_
   refine bg_ h (fun b h=>Qa hC [.T,.n 11,.K [4,5] [609]] rfl ⟨tt_,b⟩ ?_) fun b h=>Qa hC [.F,.n 7,.K [1,9,10,11] [609]] rfl ⟨tt_,b⟩ ?_
   ·cases h
    exact QaH rfl (an_ rfl rfl)
   cases h
   exact QJ rfl rfl
  refine Qa hC [.F,.n 2,.K [] [609]] rfl ⟨tt_,a⟩ ?_
  cases h
  exact QK rfl (an_ rfl rfl)
 rcases l with(⟨s,p⟩|_)
 ·replace h:QcG s p=some r:=h
  rintro e σ ⟨rfl,rfl⟩
  refine tg_ hC [.n 2] rfl ?_
  cases h
  exact d2_ rfl rfl rfl ⟨rfl,tt_⟩
 replace h:QcH=some r:=h
 rintro e σ ⟨rfl,rfl⟩
 refine tg_ hC [.n 9] rfl ?_
 cases h
 exact d2_ rfl rfl rfl ⟨rfl,tt_⟩
def QgX (c:Qm):Option (Int×QeD):=
 (Qjx c 2 3 1).bind fun e=>
 bif (e != 0)then
 some (e,(QeD.mk 1 0))
 else
 (Qe4 c).bind fun d=>
 bif (d.2 != 0)then
 some (d.2,(QeD.mk 2 d.1))
 else
 (Qdp c.Places c).bind fun a=>
 bif (a.2 != 0)then
 some (a.2,(QeD.mk 3 a.1))
 else
 (QbA c.Tasks c).bind fun b=>
 bif (b.2 != 0)then
 some (b.2,(QeD.mk 4 b.1))
 else
 some (0,(QeD.mk 0 0))
theorem QtA (j){r}(h:QgX j=some r):Qd prog 33 [.agg (Qe j)] [] (Qj (.tup [.agg (Qce r.2),.I r.1]) []):=by
 refine Qd.walk 58 func33 rfl rfl rfl fun C hC=>?_
 obtain⟨s,p,h⟩:=Qc h
 refine Qa hC [.n 10,.v .no [] (.agg [.clo (.func 65) [] [.loc 1 0 0],.I 2]),.n 1,.v .no [] (.agg [.clo (.func 66) [] [.loc 1 0 0],.I 3]),.n 1,.v .no [] (.agg [.clo (.func 68) [] [.loc 1 0 0],.I 1]),.o (.any (.own 17 3) (some (.var [.clo (.func 65) [] [.loc 1 0 0],.I 2,.clo (.func 66) [] [.loc 1 0 0],.I 3,.clo (.func 68) [] [.loc 1 0 0],.I 1]))),.cm (.fn) [(609,17),(610,1)] [(17,609),(1,610)] [] [.d] [(609,.var [.clo (.func 65) [] [.loc 610 0 0],.I 2,.clo (.func 66) [] [.loc 610 0 0],.I 3,.clo (.func 68) [] [.loc 610 0 0],.I 1]),(610,.var (Qe j))] (.I s),.n 10] rfl ⟨⟨⟨⟨⟨tt_,rfl⟩,rfl⟩,rfl⟩,(fun σ t u hf=>Stp.buildAny rfl rfl (QD hC.n rfl) (Qp.es rfl) Qlh rfl (by decide) (by decide) (Qeg t rfl) rfl rfl (hf rfl))⟩,(QrU _ _ _ _ p)⟩ ?_
 rcases Qq h with⟨g,h⟩|⟨g,h⟩
 ·refine Qa hC [.T,.n 2,.v .no [] (.agg (Qce (QeD.mk 1 0))),.n 2,.O 2 (.var (Qce (QeD.mk 1 0))),.n 5,.K [2,3] [2]] rfl ⟨⟨⟨tt_,g⟩,rfl⟩,rfl⟩ ?_
  cases h
  exact AK.done (ex_ [_,_] (an_ (an_ (ex_ _ (ex_ _ (an_ rfl (an_ rfl (Or.inl (an_ (Qp.ag rfl) (an_ (Qp.sz rfl) rfl))))))) (an_ rfl tt_)) (QbL tt_)))
 obtain⟨m,q,h⟩:=Qc h
 refine Qa hC [.F,.n 5,.v .no [] (.agg (Qe j)),.o (.c false [.d] (.tup [.I m.1,.I m.2])),.n 13] rfl ⟨⟨⟨tt_,g⟩,rfl⟩,(Qlr _ q)⟩ ?_
 rcases Qq h with⟨i,h⟩|⟨i,h⟩
 ·refine Qa hC [.T,.n 3,.v .no [] (.agg (Qce (QeD.mk 2 m.1))),.n 2,.O 2 (.var (Qce (QeD.mk 2 m.1))),.n 5,.K [2,3] [2]] rfl ⟨⟨⟨tt_,i⟩,rfl⟩,rfl⟩ ?_
  cases h
  exact AK.done (ex_ [_,_] (an_ (an_ (ex_ _ (ex_ _ (an_ rfl (an_ rfl (Or.inl (an_ (Qp.ag rfl) (an_ (Qp.sz rfl) rfl))))))) (an_ rfl tt_)) (QbL tt_)))
 obtain⟨e,k,h⟩:=Qc h
 refine Qa hC [.F,.n 8,.cm (.fn) [(609,1)] [(1,609)] [] [.d,.d] [(609,.var (Qe j))] (.tup [.I e.1,.I e.2]),.n 13] rfl ⟨⟨tt_,i⟩,(Qmq _ _ k)⟩ ?_
 rcases Qq h with⟨a,h⟩|⟨a,h⟩
 ·refine Qa hC [.T,.n 3,.v .no [] (.agg (Qce (QeD.mk 3 e.1))),.n 2,.O 2 (.var (Qce (QeD.mk 3 e.1))),.n 5,.K [2,3] [2]] rfl ⟨⟨⟨tt_,a⟩,rfl⟩,rfl⟩ ?_
  cases h
  exact AK.done (ex_ [_,_] (an_ (an_ (ex_ _ (ex_ _ (an_ rfl (an_ rfl (Or.inl (an_ (Qp.ag rfl) (an_ (Qp.sz rfl) rfl))))))) (an_ rfl tt_)) (QbL tt_)))
 obtain⟨f,l,h⟩:=Qc h
 refine Qa hC [.F,.n 8,.cm (.fn) [(609,1)] [(1,609)] [] [.d,.d] [(609,.var (Qe j))] (.tup [.I f.1,.I f.2]),.n 13] rfl ⟨⟨tt_,a⟩,(Qnb _ _ l)⟩ ?_
 refine bg_ h (fun b h=>Qa hC [.T,.n 3,.v .no [] (.agg (Qce (QeD.mk 4 f.1))),.n 2,.O 2 (.var (Qce (QeD.mk 4 f.1))),.n 5,.K [2,3] [2]] rfl ⟨⟨⟨tt_,b⟩,rfl⟩,rfl⟩ ?_) fun b h=>Qa hC [.F,.n 4,.v .no [] (.agg (Qce (QeD.mk 0 0))),.n 1,.O 2 (.var (Qce (QeD.mk 0 0))),.n 4,.K [2,3] [2]] rfl ⟨⟨⟨tt_,b⟩,rfl⟩,rfl⟩ ?_
 ·cases h
  exact AK.done (ex_ [_,_] (an_ (an_ (ex_ _ (ex_ _ (an_ rfl (an_ rfl (Or.inl (an_ (Qp.ag rfl) (an_ (Qp.sz rfl) rfl))))))) (an_ rfl tt_)) (QbL tt_)))
 cases h
 exact AK.done (ex_ [_,_] (an_ (an_ (ex_ _ (ex_ _ (an_ rfl (an_ rfl (Or.inl (an_ (Qp.ag rfl) (an_ (Qp.sz rfl) rfl))))))) (an_ rfl tt_)) (QbL tt_)))
def Qku (a:Qm):Option Bool:=
 (Qjg a).bind fun b=>
 bif ((!b)||((decide (8<(a.Tasks.length:Int)))||(decide (12<(a.Places.length:Int)))))then
 some false
 else
 (QgX a).bind fun c=>
 some (c.1==0)
theorem QsS (a){r}(h:Qku a=some r):Qd prog 10 [.agg (Qe a)] [] (Qj (.b r) []):=by
 refine Qd.walk 29 func10 rfl rfl rfl fun C hC=>?_
 obtain⟨i,j,h⟩:=Qc h
 refine Qa hC [.n 8,.v .no [] (.agg (Qe a)),.o (.c false [.d] (.b i)),.n 5] rfl ⟨⟨tt_,rfl⟩,(Qtw _ j)⟩ ?_
 refine AK.meetX (fun σ=>σ=⟨[(1,.loc 1 0 0),(21,.b ((!i)||((decide (8<(a.Tasks.length:Int)))||(decide (12<(a.Places.length:Int))))))],[(1,.var (Qe a))]⟩) ?_ ?_
 ·refine tg_ hC [.n 4] rfl ?_
  rcases Qz (!i)with e | e
  ·refine Qa hC [.S 10 (.b true),.n 12,.S 21 (.b ((!i)||((decide (8<(a.Tasks.length:Int)))||(decide (12<(a.Places.length:Int)))))),.K [1,21] [1]] rfl ⟨(tc_ e),(congrArg V.b (orT e rfl))⟩ ?_
   exact AK.met rfl
  refine Qa hC [.S 10 (.b false),.n 2,.o (.ln a.Tasks.length),.n 3] rfl ⟨(tc_ e),Qg⟩ ?_
  rcases Qz (decide (8<(a.Tasks.length:Int)))with f | f
  ·refine Qa hC [.S 16 (.b true),.n 6,.S 21 (.b ((!i)||((decide (8<(a.Tasks.length:Int)))||(decide (12<(a.Places.length:Int)))))),.K [1,21] [1]] rfl ⟨(tc_ f),(congrArg V.b (orF e (orT f rfl)))⟩ ?_
   exact AK.met rfl
  refine Qa hC [.S 16 (.b false),.n 2,.o (.ln a.Places.length),.n 3,.S 21 (.b ((!i)||((decide (8<(a.Tasks.length:Int)))||(decide (12<(a.Places.length:Int)))))),.K [1,21] [1]] rfl ⟨⟨(tc_ f),Qg⟩,(congrArg V.b (orF e (orF f rfl)))⟩ ?_
  exact AK.met rfl
 rintro σ rfl
 refine tg_ hC [.n 1] rfl ?_
 rcases Qq h with⟨g,h⟩|⟨g,h⟩
 ·refine Qa hC [.T,.n 7] rfl ⟨tt_,g⟩ ?_
  cases h
  exact d1_ rfl rfl tt_
 obtain⟨k,l,h⟩:=Qc h
 refine Qa hC [.F,.n 4,.v .no [] (.agg (Qe a)),.o (.c false [.d] (.tup [.agg (Qce k.2),.I k.1])),.n 5,.O 4 (.var (Qce k.2)),.n 11] rfl ⟨⟨⟨⟨tt_,g⟩,rfl⟩,(QtA _ l)⟩,rfl⟩ ?_
 cases h
 exact d1_ rfl rfl tt_
def QiQ (c:QMk)(d:Int)(a:Int):Option ((Int×Int)⊕Int):=
 bif ((decide (a<(c.length:Int)))&&(decide (a<100)))then
 (idx c a).bind fun b=>
 some (.inl ((w64 (d+(b.length:Int))),(w64 (a+1))))
 else
 some (.inr d)
def QkQ (a:QMk)(b:Int):Option Bool:=
 some ((decide ((a.length:Int)≤70))&&(decide (b≤300)))
def QgY (a:QMk):Option Bool:=
 (Qt (fun st=>QiQ a st.1 st.2) (0,0)).bind (fun q=>QkQ a q)
theorem QtB (a){r}(h:QgY a=some r):Qd prog 11 [.sl 1 (a.map QbE)] [] (Qj (.b r) []):=by
 refine Qd.walk 29 func11 rfl rfl rfl fun C hC=>?_
 refine tg_ hC [.n 17,.K [0,3,4] []] rfl ?_
 obtain⟨l,i,h⟩:=Qc h
 refine AK.loop (body:=(fun st=>QiQ a st.1 st.2)) (fun st σ=>σ=⟨[(0,.sl 1 (a.map QbE)),(3,.I st.1),(4,.I st.2)],[]⟩) (fun q e σ=>e=.exit 0∧σ=⟨[(0,.sl 1 (a.map QbE)),(3,.I q)],[]⟩) i rfl ?_ ?_
 ·rintro ⟨m,g⟩ o σ rfl h
  refine tg_ hC [.n 2] rfl ?_
  refine AK.meetX (fun σ=>σ=⟨[(0,.sl 1 (a.map QbE)),(3,.I m),(4,.I g),(12,.b ((decide (g<(a.length:Int)))&&(decide (g<100))))],[]⟩) ?_ ?_
  ·refine Qa hC [.n 3,.o (.ln a.length),.n 2] rfl ⟨tt_,Qg⟩ ?_
   rcases Qz (decide (g<(a.length:Int)))with d | d
   ·refine Qa hC [.S 9 (.b true),.n 4,.S 12 (.b ((decide (g<(a.length:Int)))&&(decide (g<100)))),.K [0,3,4,12] []] rfl ⟨(tc_ d),(congrArg V.b (Qat d rfl))⟩ ?_
    exact AK.met rfl
   refine Qa hC [.S 9 (.b false),.n 4,.S 12 (.b ((decide (g<(a.length:Int)))&&(decide (g<100)))),.K [0,3,4,12] []] rfl ⟨(tc_ d),(congrArg V.b (Qbm d rfl))⟩ ?_
   exact AK.met rfl
  rintro σ rfl
  refine tg_ hC [.n 1] rfl ?_
  rcases Qq h with⟨f,h⟩|⟨f,h⟩
  ·obtain⟨j,k,h⟩:=Qc h
   refine Qa hC [.T,.n 8,.o (.row (QbE j)),.n 1,.o (.ln j.length),.n 10,.K [0,3,4] []] rfl ⟨⟨⟨tt_,f⟩,(QA k)⟩,Qg⟩ ?_
   cases h
   exact QJ rfl rfl
  refine Qa hC [.F,.n 2,.K [0,3] []] rfl ⟨tt_,f⟩ ?_
  cases h
  exact QK rfl (an_ rfl rfl)
 replace h:QkQ a l=some r:=h
 rintro e σ ⟨rfl,rfl⟩
 refine tg_ hC [.n 3] rfl ?_
 refine AK.meetX (fun σ=>σ=⟨[(2,.b ((decide ((a.length:Int)≤70))&&(decide (l≤300))))],[]⟩) ?_ ?_
 ·refine Qa hC [.n 2,.o (.ln a.length),.n 2] rfl ⟨tt_,Qg⟩ ?_
  rcases Qz (decide ((a.length:Int)≤70))with c | c
  ·refine Qa hC [.S 25 (.b true),.n 5,.S 2 (.b ((decide ((a.length:Int)≤70))&&(decide (l≤300)))),.K [2] []] rfl ⟨(tc_ c),(congrArg V.b (Qat c rfl))⟩ ?_
   exact AK.met rfl
  refine Qa hC [.S 25 (.b false),.n 5,.S 2 (.b ((decide ((a.length:Int)≤70))&&(decide (l≤300)))),.K [2] []] rfl ⟨(tc_ c),(congrArg V.b (Qbm c rfl))⟩ ?_
  exact AK.met rfl
 rintro σ rfl
 refine tg_ hC [.n 2] rfl ?_
 cases h
 exact d1_ rfl rfl tt_
def Qnc (b:QBg)(a:Int):Option Bool:=
 (idx b a).bind fun g=>
 bif (decide (g.1<0))then
 some true
 else
 (idx b a).bind fun c=>
 bif (decide (c.2<1))then
 some true
 else
 (idx b a).bind fun d=>
 bif (decide (1048576<d.2))then
 some true
 else
 bif (decide (0<a))then
 (idx b a).bind fun e=>
 (idx b (w64 (a-1))).bind fun f=>
 some (decide (e.1≤f.1))
 else
 some false
def QgE (a:Int)(b:Bool):Option (Int⊕(Unit⊕Unit)):=
 bif b then
 some (.inr (.inl ()))
 else
 some (.inl (w64 (a+1)))
def Qb9 (b:QBg)(a:Int):Option (Int⊕(Unit⊕Unit)):=
 bif (decide (a<(b.length:Int)))then
 (Qnc b a).bind (fun c=>QgE a c)
 else
 some (.inr (.inr ()))
def Qnd : Option Bool:=
 some false
def Qne : Option Bool:=
 some true
def QjE (a:QBg):Option Bool:=
 (Qt (fun st=>Qb9 a st) 0).bind (Sum.elim (fun q=>Qnd) (fun q=>Qne))
theorem Qr5 (t){r}(h:QjE t=some r):Qd prog 78 [.sl 2 (t.map QL)] [] (Qj (.b r) []):=by
 refine Qd.walk 50 func78 rfl rfl rfl fun C hC=>?_
 refine tg_ hC [.n 12,.K [0,3] []] rfl ?_
 obtain⟨y,u,h⟩:=Qc h
 refine AK.loop (body:=(fun st=>Qb9 t st)) (fun st σ=>σ=⟨[(0,.sl 2 (t.map QL)),(3,.I st)],[]⟩) (Sum.elim (fun q e σ=>e=.ret∧σ=⟨[(2,.b false)],[]⟩) (fun q e σ=>e=.exit 0∧σ=⟨[],[]⟩)) u rfl ?_ ?_
 ·rintro z o σ rfl h
  refine Qa hC [.n 5,.o (.ln t.length),.n 3] rfl ⟨tt_,Qg⟩ ?_
  refine bg_ h (fun p h=>Qa hC [.T,.n 5] rfl ⟨tt_,p⟩ ?_) fun p h=>Qa hC [.F,.n 2,.K [] []] rfl ⟨tt_,p⟩ ?_
  ·obtain⟨A,B,h⟩:=Qc h
   replace h:QgE z A=some o:=h
   refine AK.meetX (fun σ=>σ=⟨[(0,.sl 2 (t.map QL)),(3,.I z),(49,.b A)],[]⟩) ?_ ?_
   ·replace h:=B
    obtain⟨v,i,h⟩:=Qc h
    refine tg_ hC [.K [0,3] []] rfl ?_
    rcases Qq h with⟨c,h⟩|⟨c,h⟩
    ·refine AK.draw2 Qp hC mixed [.N,.N,.a (.row (QL v)) none false,.N,.N,.N,.a .no (some ([],.b true)) false,.N,.N,.N,.N,.N,.N,.N,.N,.N,.N,.N,.N,.N,.N,.N,.N,.N,.N,.N,.N,.N,.N,.N,.N,.N,.N,.N,.N,.N,.N,.N,.N,.N] [] [] [0,3,49] [] rfl rfl rfl ⟨⟨tt_,(QA i)⟩,(cb_ c)⟩ rfl (by kernel_rfl) rfl rfl rfl ?_
     refine tg_ hC [.K [0,3,49] []] rfl ?_
     cases h
     exact AK.met rfl
    obtain⟨m,f,h⟩:=Qc h
    rcases Qq h with⟨d,h⟩|⟨d,h⟩
    ·refine AK.draw2 Qp hC mixed [.N,.N,.a (.row (QL v)) none false,.N,.N,.N,.a .no (some ([],.b false)) false,.N,.N,.a (.row (QL m)) none false,.N,.N,.N,.N,.a .no (some ([],.b true)) false,.N,.N,.N,.N,.N,.N,.N,.N,.N,.N,.N,.N,.N,.N,.N,.N,.N,.N,.N,.N,.N,.N,.N,.N,.N] [] [] [0,3,49] [] rfl rfl rfl ⟨⟨⟨⟨tt_,(QA i)⟩,(cb_ c)⟩,(QA f)⟩,(cb_ d)⟩ rfl (by kernel_rfl) rfl rfl rfl ?_
     refine tg_ hC [.K [0,3,49] []] rfl ?_
     cases h
     exact AK.met rfl
    obtain⟨s,j,h⟩:=Qc h
    rcases Qq h with⟨g,h⟩|⟨g,h⟩
    ·refine AK.draw2 Qp hC mixed [.N,.N,.a (.row (QL v)) none false,.N,.N,.N,.a .no (some ([],.b false)) false,.N,.N,.a (.row (QL m)) none false,.N,.N,.N,.N,.a .no (some ([],.b false)) false,.N,.N,.a (.row (QL s)) none false,.N,.N,.N,.N,.a .no (some ([],.b true)) false,.N,.N,.N,.N,.N,.N,.N,.N,.N,.N,.N,.N,.N,.N,.N,.N,.N] [] [] [0,3,49] [] rfl rfl rfl ⟨⟨⟨⟨⟨⟨tt_,(QA i)⟩,(cb_ c)⟩,(QA f)⟩,(cb_ d)⟩,(QA j)⟩,(cb_ g)⟩ rfl (by kernel_rfl) rfl rfl rfl ?_
     refine tg_ hC [.K [0,3,49] []] rfl ?_
     cases h
     exact AK.met rfl
    rcases Qq h with⟨k,h⟩|⟨k,h⟩
    ·obtain⟨D,w,h⟩:=Qc h
     obtain⟨E,x,h⟩:=Qc h
     refine AK.draw2 Qp hC mixed [.N,.N,.a (.row (QL v)) none false,.N,.N,.N,.a .no (some ([],.b false)) false,.N,.N,.a (.row (QL m)) none false,.N,.N,.N,.N,.a .no (some ([],.b false)) false,.N,.N,.a (.row (QL s)) none false,.N,.N,.N,.N,.a .no (some ([],.b false)) false,.N,.N,.a .no (some ([],.b true)) false,.N,.N,.a (.row (QL D)) none false,.N,.N,.N,.N,.N,.a (.row (QL E)) none false,.N,.N,.N,.N,.N] [] [] [0,3,49] [] rfl rfl rfl ⟨⟨⟨⟨⟨⟨⟨⟨⟨tt_,(QA i)⟩,(cb_ c)⟩,(QA f)⟩,(cb_ d)⟩,(QA j)⟩,(cb_ g)⟩,(cb_ k)⟩,(QA w)⟩,(QA x)⟩ rfl (by kernel_rfl) rfl rfl rfl ?_
     refine tg_ hC [.K [0,3,49] []] rfl ?_
     cases h
     exact AK.met rfl
    refine AK.draw2 Qp hC mixed [.N,.N,.a (.row (QL v)) none false,.N,.N,.N,.a .no (some ([],.b false)) false,.N,.N,.a (.row (QL m)) none false,.N,.N,.N,.N,.a .no (some ([],.b false)) false,.N,.N,.a (.row (QL s)) none false,.N,.N,.N,.N,.a .no (some ([],.b false)) false,.N,.N,.a .no (some ([],.b false)) false,.N,.N,.N,.N,.N,.N,.N,.N,.N,.N,.N,.N,.N,.N] [] [] [0,3,49] [] rfl rfl rfl ⟨⟨⟨⟨⟨⟨⟨tt_,(QA i)⟩,(cb_ c)⟩,(QA f)⟩,(cb_ d)⟩,(QA j)⟩,(cb_ g)⟩,(cb_ k)⟩ rfl (by kernel_rfl) rfl rfl rfl ?_
    refine tg_ hC [.K [0,3,49] []] rfl ?_
    cases h
    exact AK.met rfl
   rintro σ rfl
   replace h:QgE z A=some o:=h
   refine tg_ hC [.n 1] rfl ?_
   refine bg_ h (fun l h=>Qa hC [.T,.n 8,.K [2] []] rfl ⟨tt_,l⟩ ?_) fun l h=>Qa hC [.F,.n 8,.K [0,3] []] rfl ⟨tt_,l⟩ ?_
   ·cases h
    exact QaH rfl (an_ rfl rfl)
   cases h
   exact QJ rfl rfl
  cases h
  exact QK rfl (an_ rfl rfl)
 rcases y with(_ | _)
 ·replace h:Qnd=some r:=h
  rintro e σ ⟨rfl,rfl⟩
  refine tg_ hC [.n 2] rfl ?_
  cases h
  exact d1_ rfl rfl tt_
 replace h:Qne=some r:=h
 rintro e σ ⟨rfl,rfl⟩
 refine tg_ hC [.n 8] rfl ?_
 cases h
 exact d1_ rfl rfl tt_
def Qbj (c:QBg)(e:Bool)(d:Int)(a:Int):Option ((Int×Int)⊕Int):=
 bif ((decide (a<(c.length:Int)))&&e)then
 (idx c a).bind fun b=>
 some (.inl ((w64 (d+b.2)),(w64 (a+1))))
 else
 some (.inr d)
def Qnf (a:Int):Option Int:=
 some a
def QjF (a:QBg):Option Int:=
 (QjE a).bind fun b=>
 (Qt (fun st=>Qbj a b st.1 st.2) (0,0)).bind (fun q=>Qnf q)
theorem Qr6 (g){r}(h:QjF g=some r):Qd prog 36 [.sl 2 (g.map QL)] [] (Qj (.I r) []):=by
 refine Qd.walk 25 func36 rfl rfl rfl fun C hC=>?_
 obtain⟨i,m,h⟩:=Qc h
 refine Qa hC [.n 8,.o (.c false [.d] (.b i)),.n 15,.K [0,3,4,5] []] rfl ⟨tt_,(Qr5 _ m)⟩ ?_
 obtain⟨s,j,h⟩:=Qc h
 refine AK.loop (body:=(fun st=>Qbj g i st.1 st.2)) (fun st σ=>σ=⟨[(0,.sl 2 (g.map QL)),(3,.b i),(4,.I st.1),(5,.I st.2)],[]⟩) (fun q e σ=>e=.exit 0∧σ=⟨[(4,.I q)],[]⟩) j rfl ?_ ?_
 ·rintro ⟨t,k⟩ o σ rfl h
  refine tg_ hC [.n 2] rfl ?_
  refine AK.meetX (fun σ=>σ=⟨[(0,.sl 2 (g.map QL)),(3,.b i),(4,.I t),(5,.I k),(14,.b ((decide (k<(g.length:Int)))&&i))],[]⟩) ?_ ?_
  ·refine Qa hC [.n 3,.o (.ln g.length),.n 2] rfl ⟨tt_,Qg⟩ ?_
   rcases Qz (decide (k<(g.length:Int)))with a | a
   ·refine Qa hC [.S 12 (.b true),.n 3,.S 14 (.b ((decide (k<(g.length:Int)))&&i)),.K [0,3,4,5,14] []] rfl ⟨(tc_ a),(congrArg V.b (Qat a rfl))⟩ ?_
    exact AK.met rfl
   refine Qa hC [.S 12 (.b false),.n 3,.S 14 (.b ((decide (k<(g.length:Int)))&&i)),.K [0,3,4,5,14] []] rfl ⟨(tc_ a),(congrArg V.b (Qbm a rfl))⟩ ?_
   exact AK.met rfl
  rintro σ rfl
  refine tg_ hC [.n 1] rfl ?_
  rcases Qq h with⟨f,h⟩|⟨f,h⟩
  ·obtain⟨p,l,h⟩:=Qc h
   refine Qa hC [.T,.n 8,.o (.row (QL p)),.n 12,.K [0,3,4,5] []] rfl ⟨⟨tt_,f⟩,(QA l)⟩ ?_
   cases h
   exact QJ rfl rfl
  refine Qa hC [.F,.n 2,.K [4] []] rfl ⟨tt_,f⟩ ?_
  cases h
  exact QK rfl (an_ rfl rfl)
 replace h:Qnf s=some r:=h
 rintro e σ ⟨rfl,rfl⟩
 refine tg_ hC [.n 9] rfl ?_
 cases h
 exact d1_ rfl rfl tt_
def Qji (b:Int)(a:Int):Option (Int×Bool):=
 bif (bif (decide (0<a))then((decide ((w64 (9223372036854775807-a))<b))||((decide (a<0))&&(decide (b<(w64 ((-9223372036854775808)-a))))))else((decide (a<0))&&(decide (b<(w64 ((-9223372036854775808)-a))))))then
 some (0,false)
 else
 some ((w64 (b+a)),true)
theorem QtC (c a){r}(h:Qji c a=some r):Qd prog 145 [.I c,.I a] [] (Qj (.tup [.I r.1,.b r.2]) []):=by
 refine Qd.walk 27 func145 rfl rfl rfl fun C hC=>?_
 unfold Qji at h
 refine tg_ hC [.n 8] rfl ?_
 refine AK.meetX (fun σ=>σ=⟨[(0,.I c),(1,.I a),(23,.b (bif (decide (0<a))then((decide ((w64 (9223372036854775807-a))<c))||((decide (a<0))&&(decide (c<(w64 ((-9223372036854775808)-a))))))else((decide (a<0))&&(decide (c<(w64 ((-9223372036854775808)-a)))))))],[]⟩) ?_ ?_
 ·refine tg_ hC [.n 4] rfl ?_
  rcases Qz (decide (0<a))with d | d
  ·refine Qa hC [.S 8 (.b true),.n 6] rfl (tc_ d) ?_
   rcases Qz (decide ((w64 (9223372036854775807-a))<c))with g | g
   ·refine Qa hC [.S 14 (.b true),.n 10,.S 23 (.b (bif (decide (0<a))then((decide ((w64 (9223372036854775807-a))<c))||((decide (a<0))&&(decide (c<(w64 ((-9223372036854775808)-a))))))else((decide (a<0))&&(decide (c<(w64 ((-9223372036854775808)-a))))))),.K [0,1,23] []] rfl ⟨(tc_ g),(congrArg V.b (QlG d (orT g rfl)))⟩ ?_
    exact AK.met rfl
   refine Qa hC [.S 14 (.b false),.n 3] rfl (tc_ g) ?_
   rcases Qz (decide (a<0))with e | e
   ·refine Qa hC [.S 17 (.b true),.n 7,.S 23 (.b (bif (decide (0<a))then((decide ((w64 (9223372036854775807-a))<c))||((decide (a<0))&&(decide (c<(w64 ((-9223372036854775808)-a))))))else((decide (a<0))&&(decide (c<(w64 ((-9223372036854775808)-a))))))),.K [0,1,23] []] rfl ⟨(tc_ e),(congrArg V.b (QlG d (orF g (Qat e rfl))))⟩ ?_
    exact AK.met rfl
   refine Qa hC [.S 17 (.b false),.n 7,.S 23 (.b (bif (decide (0<a))then((decide ((w64 (9223372036854775807-a))<c))||((decide (a<0))&&(decide (c<(w64 ((-9223372036854775808)-a))))))else((decide (a<0))&&(decide (c<(w64 ((-9223372036854775808)-a))))))),.K [0,1,23] []] rfl ⟨(tc_ e),(congrArg V.b (QlG d (orF g (Qbm e rfl))))⟩ ?_
   exact AK.met rfl
  refine Qa hC [.S 8 (.b false),.n 9] rfl (tc_ d) ?_
  rcases Qz (decide (a<0))with f | f
  ·refine Qa hC [.S 17 (.b true),.n 7,.S 23 (.b (bif (decide (0<a))then((decide ((w64 (9223372036854775807-a))<c))||((decide (a<0))&&(decide (c<(w64 ((-9223372036854775808)-a))))))else((decide (a<0))&&(decide (c<(w64 ((-9223372036854775808)-a))))))),.K [0,1,23] []] rfl ⟨(tc_ f),(congrArg V.b (QpX d (Qat f rfl)))⟩ ?_
   exact AK.met rfl
  refine Qa hC [.S 17 (.b false),.n 7,.S 23 (.b (bif (decide (0<a))then((decide ((w64 (9223372036854775807-a))<c))||((decide (a<0))&&(decide (c<(w64 ((-9223372036854775808)-a))))))else((decide (a<0))&&(decide (c<(w64 ((-9223372036854775808)-a))))))),.K [0,1,23] []] rfl ⟨(tc_ f),(congrArg V.b (QpX d (Qbm f rfl)))⟩ ?_
  exact AK.met rfl
 rintro σ rfl
 refine tg_ hC [.n 1] rfl ?_
 refine bg_ h (fun i h=>Qa hC [.T,.n 8,.K [4,5] []] rfl ⟨tt_,i⟩ ?_) fun i h=>Qa hC [.F,.n 12,.K [4,5] []] rfl ⟨tt_,i⟩ ?_
 ·cases h
  exact d2_ rfl rfl rfl tt_
 cases h
 exact d2_ rfl rfl rfl tt_
def Qof (b:Int)(a:Int):Option (Int×Bool):=
 bif (bif (decide (a<0))then((decide ((w64 (9223372036854775807+a))<b))||((decide (0<a))&&(decide (b<(w64 ((-9223372036854775808)+a))))))else((decide (0<a))&&(decide (b<(w64 ((-9223372036854775808)+a))))))then
 some (0,false)
 else
 some ((w64 (b-a)),true)
theorem QtD (c a){r}(h:Qof c a=some r):Qd prog 146 [.I c,.I a] [] (Qj (.tup [.I r.1,.b r.2]) []):=by
 refine Qd.walk 27 func146 rfl rfl rfl fun C hC=>?_
 unfold Qof at h
 refine tg_ hC [.n 8] rfl ?_
 refine AK.meetX (fun σ=>σ=⟨[(0,.I c),(1,.I a),(23,.b (bif (decide (a<0))then((decide ((w64 (9223372036854775807+a))<c))||((decide (0<a))&&(decide (c<(w64 ((-9223372036854775808)+a))))))else((decide (0<a))&&(decide (c<(w64 ((-9223372036854775808)+a)))))))],[]⟩) ?_ ?_
 ·refine tg_ hC [.n 4] rfl ?_
  rcases Qz (decide (a<0))with d | d
  ·refine Qa hC [.S 8 (.b true),.n 6] rfl (tc_ d) ?_
   rcases Qz (decide ((w64 (9223372036854775807+a))<c))with g | g
   ·refine Qa hC [.S 14 (.b true),.n 10,.S 23 (.b (bif (decide (a<0))then((decide ((w64 (9223372036854775807+a))<c))||((decide (0<a))&&(decide (c<(w64 ((-9223372036854775808)+a))))))else((decide (0<a))&&(decide (c<(w64 ((-9223372036854775808)+a))))))),.K [0,1,23] []] rfl ⟨(tc_ g),(congrArg V.b (QlG d (orT g rfl)))⟩ ?_
    exact AK.met rfl
   refine Qa hC [.S 14 (.b false),.n 3] rfl (tc_ g) ?_
   rcases Qz (decide (0<a))with e | e
   ·refine Qa hC [.S 17 (.b true),.n 7,.S 23 (.b (bif (decide (a<0))then((decide ((w64 (9223372036854775807+a))<c))||((decide (0<a))&&(decide (c<(w64 ((-9223372036854775808)+a))))))else((decide (0<a))&&(decide (c<(w64 ((-9223372036854775808)+a))))))),.K [0,1,23] []] rfl ⟨(tc_ e),(congrArg V.b (QlG d (orF g (Qat e rfl))))⟩ ?_
    exact AK.met rfl
   refine Qa hC [.S 17 (.b false),.n 7,.S 23 (.b (bif (decide (a<0))then((decide ((w64 (9223372036854775807+a))<c))||((decide (0<a))&&(decide (c<(w64 ((-9223372036854775808)+a))))))else((decide (0<a))&&(decide (c<(w64 ((-9223372036854775808)+a))))))),.K [0,1,23] []] rfl ⟨(tc_ e),(congrArg V.b (QlG d (orF g (Qbm e rfl))))⟩ ?_
   exact AK.met rfl
  refine Qa hC [.S 8 (.b false),.n 9] rfl (tc_ d) ?_
  rcases Qz (decide (0<a))with f | f
  ·refine Qa hC [.S 17 (.b true),.n 7,.S 23 (.b (bif (decide (a<0))then((decide ((w64 (9223372036854775807+a))<c))||((decide (0<a))&&(decide (c<(w64 ((-9223372036854775808)+a))))))else((decide (0<a))&&(decide (c<(w64 ((-9223372036854775808)+a))))))),.K [0,1,23] []] rfl ⟨(tc_ f),(congrArg V.b (QpX d (Qat f rfl)))⟩ ?_
   exact AK.met rfl
  refine Qa hC [.S 17 (.b false),.n 7,.S 23 (.b (bif (decide (a<0))then((decide ((w64 (9223372036854775807+a))<c))||((decide (0<a))&&(decide (c<(w64 ((-9223372036854775808)+a))))))else((decide (0<a))&&(decide (c<(w64 ((-9223372036854775808)+a))))))),.K [0,1,23] []] rfl ⟨(tc_ f),(congrArg V.b (QpX d (Qbm f rfl)))⟩ ?_
  exact AK.met rfl
 rintro σ rfl
 refine tg_ hC [.n 1] rfl ?_
 refine bg_ h (fun i h=>Qa hC [.T,.n 8,.K [4,5] []] rfl ⟨tt_,i⟩ ?_) fun i h=>Qa hC [.F,.n 12,.K [4,5] []] rfl ⟨tt_,i⟩ ?_
 ·cases h
  exact d2_ rfl rfl rfl tt_
 cases h
 exact d2_ rfl rfl rfl tt_
def QoG (c:Int)(d:Int)(a:Int)(b:Int):Option Bool:=
 bif (bif (decide (c<0))then((decide (0<d))||((decide (0<c))&&(decide (d<0))))else((decide (0<c))&&(decide (d<0))))then
 (chk (a != 0)).bind fun _=>
 bif (decide ((w64 (b-1))≤(w64 (Int.tdiv (w64 (9223372036854775807-(w64 (a-1)))) a))))then
 some ((w64 (b*a))==(-9223372036854775808))
 else
 some false
 else
 some false
def QkR (a:Bool):Option (Int×Bool):=
 bif a then
 some ((-9223372036854775808),true)
 else
 some (0,false)
def Qed (b:Int)(d:Int)(e:Int)(a:Int):Option (Int×Bool):=
 (chk (a != 0)).bind fun _=>
 bif (decide (b≤(w64 (Int.tdiv 9223372036854775807 a))))then
 some ((w64 (d*e)),true)
 else
 (QoG d e a b).bind (fun c=>QkR c)
def Qf0 (a:Int)(c:Int)(b:Int):Option (Int×Bool):=
 bif (decide (a<0))then
 Qed b c a (w64 (0-a))
 else
 Qed b c a a
def Qlb (a:Int)(b:Int):Option (Int×Bool):=
 bif ((a==0)||(b==0))then
 some (0,true)
 else
 bif ((a==(-9223372036854775808))||(b==(-9223372036854775808)))then
 bif ((a==1)||(b==1))then
 some ((w64 (a*b)),true)
 else
 some (0,false)
 else
 bif (decide (a<0))then
 Qf0 b a (w64 (0-a))
 else
 Qf0 b a a
theorem QtE (a c){r}(h:Qlb a c=some r):Qd prog 147 [.I a,.I c] [] (Qj (.tup [.I r.1,.b r.2]) []):=by
 refine Qd.walk 78 func147 rfl rfl rfl fun C hC=>?_
 refine tg_ hC [.n 8] rfl ?_
 refine AK.meetX (fun σ=>σ=⟨[(0,.I a),(1,.I c),(14,.b ((a==0)||(c==0)))],[]⟩) ?_ ?_
 ·refine tg_ hC [.n 4] rfl ?_
  rcases Qz (a==0)with l | l
  ·refine Qa hC [.S 11 (.b true),.n 4,.S 14 (.b ((a==0)||(c==0))),.K [0,1,14] []] rfl ⟨(tc_ l),(congrArg V.b (orT l rfl))⟩ ?_
   exact AK.met rfl
  refine Qa hC [.S 11 (.b false),.n 4,.S 14 (.b ((a==0)||(c==0))),.K [0,1,14] []] rfl ⟨(tc_ l),(congrArg V.b (orF l rfl))⟩ ?_
  exact AK.met rfl
 rintro σ rfl
 refine tg_ hC [.n 1] rfl ?_
 refine bg_ h (fun x h=>Qa hC [.T,.n 8,.K [4,5] []] rfl ⟨tt_,x⟩ ?_) fun x h=>Qa hC [.F,.n 4] rfl ⟨tt_,x⟩ ?_
 ·cases h
  exact d2_ rfl rfl rfl tt_
 refine AK.meetX (fun σ=>σ=⟨[(0,.I a),(1,.I c),(20,.b ((a==(-9223372036854775808))||(c==(-9223372036854775808))))],[]⟩) ?_ ?_
 ·refine tg_ hC [.n 4] rfl ?_
  rcases Qz (a==(-9223372036854775808))with f | f
  ·refine Qa hC [.S 17 (.b true),.n 4,.S 20 (.b ((a==(-9223372036854775808))||(c==(-9223372036854775808)))),.K [0,1,20] []] rfl ⟨(tc_ f),(congrArg V.b (orT f rfl))⟩ ?_
   exact AK.met rfl
  refine Qa hC [.S 17 (.b false),.n 4,.S 20 (.b ((a==(-9223372036854775808))||(c==(-9223372036854775808)))),.K [0,1,20] []] rfl ⟨(tc_ f),(congrArg V.b (orF f rfl))⟩ ?_
  exact AK.met rfl
 rintro σ rfl
 refine tg_ hC [.n 1] rfl ?_
 refine bg_ h (fun m h=>Qa hC [.T,.n 2] rfl ⟨tt_,m⟩ ?_) fun m h=>Qa hC [.F,.n 8] rfl ⟨tt_,m⟩ ?_
 ·refine AK.meetX (fun σ=>σ=⟨[(0,.I a),(1,.I c),(26,.b ((a==1)||(c==1)))],[]⟩) ?_ ?_
  ·refine tg_ hC [.n 4] rfl ?_
   rcases Qz (a==1)with g | g
   ·refine Qa hC [.S 23 (.b true),.n 4,.S 26 (.b ((a==1)||(c==1))),.K [0,1,26] []] rfl ⟨(tc_ g),(congrArg V.b (orT g rfl))⟩ ?_
    exact AK.met rfl
   refine Qa hC [.S 23 (.b false),.n 4,.S 26 (.b ((a==1)||(c==1))),.K [0,1,26] []] rfl ⟨(tc_ g),(congrArg V.b (orF g rfl))⟩ ?_
   exact AK.met rfl
  rintro σ rfl
  refine tg_ hC [.n 1] rfl ?_
  refine bg_ h (fun o h=>Qa hC [.T,.n 12,.K [4,5] []] rfl ⟨tt_,o⟩ ?_) fun o h=>Qa hC [.F,.n 10,.K [4,5] []] rfl ⟨tt_,o⟩ ?_
  ·cases h
   exact d2_ rfl rfl rfl tt_
  cases h
  exact d2_ rfl rfl rfl tt_
 refine AK.meet (fun σ=>∃k:Int,σ=⟨[(0,.I a),(1,.I c),(6,.I k)],[]⟩∧Qf0 c a k=some r) ?_ ?_
 ·refine tg_ hC [.n 6] rfl ?_
  refine bg_ h (fun p h=>Qa hC [.T,.n 5,.K [0,1,6] []] rfl ⟨tt_,p⟩ ?_) fun p h=>Qa hC [.F,.n 1,.K [0,1,6] []] rfl ⟨tt_,p⟩ ?_
  ·exact AK.met (ex_ _ (an_ rfl h))
  exact AK.met (ex_ _ (an_ rfl h))
 rintro σ ⟨k,rfl,h⟩
 refine tg_ hC [.n 6] rfl ?_
 refine AK.meet (fun σ=>∃w:Int,σ=⟨[(0,.I a),(1,.I c),(6,.I k),(7,.I w)],[]⟩∧Qed k a c w=some r) ?_ ?_
 ·refine tg_ hC [.n 6] rfl ?_
  refine bg_ h (fun q h=>Qa hC [.T,.n 5,.K [0,1,6,7] []] rfl ⟨tt_,q⟩ ?_) fun q h=>Qa hC [.F,.n 1,.K [0,1,6,7] []] rfl ⟨tt_,q⟩ ?_
  ·exact AK.met (ex_ _ (an_ rfl h))
  exact AK.met (ex_ _ (an_ rfl h))
 rintro σ ⟨w,rfl,h⟩
 unfold Qed at h
 refine tg_ hC [.n 1] rfl ?_
 refine AK.meetX (fun σ=>σ=⟨[(0,.I a),(1,.I c),(6,.I k),(7,.I w),(8,.b (bif (decide (a<0))then((decide (0<c))||((decide (0<a))&&(decide (c<0))))else((decide (0<a))&&(decide (c<0)))))],[]⟩) ?_ ?_
 ·refine tg_ hC [.n 4] rfl ?_
  rcases Qz (decide (a<0))with d | d
  ·refine Qa hC [.S 42 (.b true),.n 4] rfl (tc_ d) ?_
   rcases Qz (decide (0<c))with e | e
   ·refine Qa hC [.S 46 (.b true),.n 9,.S 8 (.b (bif (decide (a<0))then((decide (0<c))||((decide (0<a))&&(decide (c<0))))else((decide (0<a))&&(decide (c<0))))),.K [0,1,6,7,8] []] rfl ⟨(tc_ e),(congrArg V.b (QlG d (orT e rfl)))⟩ ?_
    exact AK.met rfl
   refine Qa hC [.S 46 (.b false),.n 3] rfl (tc_ e) ?_
   rcases Qz (decide (0<a))with i | i
   ·refine Qa hC [.S 49 (.b true),.n 6,.S 8 (.b (bif (decide (a<0))then((decide (0<c))||((decide (0<a))&&(decide (c<0))))else((decide (0<a))&&(decide (c<0))))),.K [0,1,6,7,8] []] rfl ⟨(tc_ i),(congrArg V.b (QlG d (orF e (Qat i rfl))))⟩ ?_
    exact AK.met rfl
   refine Qa hC [.S 49 (.b false),.n 6,.S 8 (.b (bif (decide (a<0))then((decide (0<c))||((decide (0<a))&&(decide (c<0))))else((decide (0<a))&&(decide (c<0))))),.K [0,1,6,7,8] []] rfl ⟨(tc_ i),(congrArg V.b (QlG d (orF e (Qbm i rfl))))⟩ ?_
   exact AK.met rfl
  refine Qa hC [.S 42 (.b false),.n 7] rfl (tc_ d) ?_
  rcases Qz (decide (0<a))with j | j
  ·refine Qa hC [.S 49 (.b true),.n 6,.S 8 (.b (bif (decide (a<0))then((decide (0<c))||((decide (0<a))&&(decide (c<0))))else((decide (0<a))&&(decide (c<0))))),.K [0,1,6,7,8] []] rfl ⟨(tc_ j),(congrArg V.b (QpX d (Qat j rfl)))⟩ ?_
   exact AK.met rfl
  refine Qa hC [.S 49 (.b false),.n 6,.S 8 (.b (bif (decide (a<0))then((decide (0<c))||((decide (0<a))&&(decide (c<0))))else((decide (0<a))&&(decide (c<0))))),.K [0,1,6,7,8] []] rfl ⟨(tc_ j),(congrArg V.b (QpX d (Qbm j rfl)))⟩ ?_
  exact AK.met rfl
 rintro σ rfl
 obtain⟨z,h⟩:=Qas h
 refine Qa hC [.n 10] rfl ⟨tt_,(neZ z)⟩ ?_
 refine bg_ h (fun s h=>Qa hC [.T,.n 11,.K [4,5] []] rfl ⟨tt_,s⟩ ?_) fun s h=>Qa hC [.F,.n 4] rfl ⟨tt_,s⟩ ?_
 ·cases h
  exact d2_ rfl rfl rfl tt_
 obtain⟨y,A,h⟩:=Qc h
 replace h:QkR y=some r:=h
 refine AK.meetX (fun σ=>σ=⟨[(77,.b y)],[]⟩) ?_ ?_
 ·replace h:=A
  refine tg_ hC [.n 3] rfl ?_
  rcases Qq h with⟨t,h⟩|⟨t,h⟩
  ·obtain⟨B,h⟩:=Qas h
   refine Qa hC [.S 62 (.b true),.n 10] rfl ⟨(tc_ t),(neZ B)⟩ ?_
   refine bg_ h (fun u h=>Qa hC [.S 72 (.b true),.n 6,.K [77] []] rfl (tc_ u) ?_) fun u h=>Qa hC [.S 72 (.b false),.n 6,.K [77] []] rfl (tc_ u) ?_
   ·cases h
    exact AK.met rfl
   cases h
   exact AK.met rfl
  refine Qa hC [.S 62 (.b false),.n 16,.K [77] []] rfl (tc_ t) ?_
  cases h
  exact AK.met rfl
 rintro σ rfl
 replace h:QkR y=some r:=h
 refine tg_ hC [.n 1] rfl ?_
 refine bg_ h (fun v h=>Qa hC [.T,.n 8,.K [4,5] []] rfl ⟨tt_,v⟩ ?_) fun v h=>Qa hC [.F,.n 9,.K [4,5] []] rfl ⟨tt_,v⟩ ?_
 ·cases h
  exact d2_ rfl rfl rfl tt_
 cases h
 exact d2_ rfl rfl rfl tt_
def Qdr (a:Bool):Option Int:=
 bif a then
 some 1
 else
 some 0
theorem Qck (c){r}(h:Qdr c=some r):Qd prog 148 [.b c] [] (Qj (.I r) []):=by
 refine Qd.walk 4 func148 rfl rfl rfl fun C hC=>?_
 refine tg_ hC [.n 11] rfl ?_
 refine bg_ h (fun a h=>Qa hC [.T,.n 7,.K [2] []] rfl ⟨tt_,a⟩ ?_) fun a h=>Qa hC [.F,.n 8,.K [2] []] rfl ⟨tt_,a⟩ ?_
 ·cases h
  exact d1_ rfl rfl tt_
 cases h
 exact d1_ rfl rfl tt_
def QeX (b:Int)(a:Bool):Option (Int×Int):=
 bif (!a)then
 some (0,6)
 else
 some (b,0)
def Qt9 (c:Int)(d:Int):Option Int:=
 bif (c != 0)then
 (Qdr (d != 0)).bind fun a=>
 some a
 else
 (Qdr false).bind fun b=>
 some b
def QlL (a:Int):Option (Int×Int):=
 some (a,0)
def Qua (c:Int)(d:Int):Option Int:=
 bif (c != 0)then
 (Qdr true).bind fun a=>
 some a
 else
 (Qdr (d != 0)).bind fun b=>
 some b
def QlM (a:Int):Option (Int×Int):=
 some (a,0)
def QlN (a:Int)(b:Int)(op1:Int)(c:Bool):Option (Int×Int):=
 bif c then
 bif (a==0)then
 some (0,7)
 else
 bif ((b==(-9223372036854775808))&&(a==(-1)))then
 some (0,6)
 else
 bif (op1==4)then
 (chk (a != 0)).bind fun _=>
 some ((w64 (Int.tdiv b a)),0)
 else
 (chk (a != 0)).bind fun _=>
 some ((Int.tmod b a),0)
 else
 bif (op1==6)then
 (Qdr (b==a)).bind fun d=>
 some (d,0)
 else
 bif (op1==7)then
 (Qdr (b != a)).bind fun e=>
 some (e,0)
 else
 bif (op1==8)then
 (Qdr (decide (b<a))).bind fun f=>
 some (f,0)
 else
 bif (op1==9)then
 (Qdr (decide (b≤a))).bind fun g=>
 some (g,0)
 else
 bif (op1==10)then
 (Qt9 b a).bind (fun h=>QlL h)
 else
 bif (op1==11)then
 (Qua b a).bind (fun i=>QlM i)
 else
 some (0,1)
def Qe8 (op1:Int)(a:Int)(b:Int):Option (Int×Int):=
 bif (op1==1)then
 (Qji a b).bind fun c=>
 QeX c.1 c.2
 else
 bif (op1==2)then
 (Qof a b).bind fun d=>
 QeX d.1 d.2
 else
 bif (op1==3)then
 (Qlb a b).bind fun e=>
 QeX e.1 e.2
 else
 bif (op1==4)then
 QlN b a op1 (op1==4)
 else
 QlN b a op1 (op1==5)
theorem QpA (op1 z A){r}(h:Qe8 op1 z A=some r):Qd prog 79 [.I op1,.I z,.I A] [] (Qj (.tup [.I r.1,.I r.2]) []):=by
 refine Qd.walk 99 func79 rfl rfl rfl fun C hC=>?_
 refine tg_ hC [.n 16] rfl ?_
 refine AK.meet (fun σ=>∃n8:Int,∃B:Bool,σ=⟨[(8,.I n8),(9,.b B)],[]⟩∧QeX n8 B=some r) ?_ ?_
 ·refine tg_ hC [.n 12] rfl ?_
  rcases Qq h with⟨e,h⟩|⟨e,h⟩
  ·obtain⟨H,J,h⟩:=Qc h
   refine Qa hC [.T,.n 3,.o (.c false [.d,.d] (.tup [.I H.1,.b H.2])),.n 7,.K [8,9] []] rfl ⟨⟨tt_,e⟩,(QtC _ _ J)⟩ ?_
   exact AK.met (ex_ _ (ex_ _ (an_ rfl h)))
  refine Qa hC [.F,.n 6] rfl ⟨tt_,e⟩ ?_
  rcases Qq h with⟨f,h⟩|⟨f,h⟩
  ·obtain⟨L,M,h⟩:=Qc h
   refine Qa hC [.T,.n 3,.o (.c false [.d,.d] (.tup [.I L.1,.b L.2])),.n 7,.K [8,9] []] rfl ⟨⟨tt_,f⟩,(QtD _ _ M)⟩ ?_
   exact AK.met (ex_ _ (ex_ _ (an_ rfl h)))
  refine Qa hC [.F,.n 6] rfl ⟨tt_,f⟩ ?_
  rcases Qq h with⟨g,h⟩|⟨g,h⟩
  ·obtain⟨N,O,h⟩:=Qc h
   refine Qa hC [.T,.n 3,.o (.c false [.d,.d] (.tup [.I N.1,.b N.2])),.n 7,.K [8,9] []] rfl ⟨⟨tt_,g⟩,(QtE _ _ O)⟩ ?_
   exact AK.met (ex_ _ (ex_ _ (an_ rfl h)))
  refine Qa hC [.F] rfl ⟨tt_,g⟩ ?_
  refine AK.meet (fun σ=>∃D:Bool,σ=⟨[(0,.I op1),(1,.I z),(2,.I A),(10,.I op1),(35,.b D)],[]⟩∧QlN A z op1 D=some r) ?_ ?_
  ·refine tg_ hC [.n 6] rfl ?_
   refine bg_ h (fun i h=>Qa hC [.T,.n 1,.K [0,1,2,10,35] []] rfl ⟨tt_,i⟩ ?_) fun i h=>Qa hC [.F,.n 4,.K [0,1,2,10,35] []] rfl ⟨tt_,i⟩ ?_
   ·exact AK.met (ex_ _ (an_ rfl h))
   exact AK.met (ex_ _ (an_ rfl h))
  rintro σ ⟨D,rfl,h⟩
  refine bg_ h (fun j h=>Qa hC [.T,.n 7] rfl ⟨tt_,j⟩ ?_) fun j h=>Qa hC [.F,.n 6] rfl ⟨tt_,j⟩ ?_
  ·refine bg_ h (fun k h=>Qa hC [.T,.n 10,.K [6,7] []] rfl ⟨tt_,k⟩ ?_) fun k h=>Qa hC [.F,.n 4] rfl ⟨tt_,k⟩ ?_
   ·cases h
    exact d2_ rfl rfl rfl tt_
   refine AK.meetX (fun σ=>σ=⟨[(0,.I op1),(1,.I z),(2,.I A),(45,.b ((z==(-9223372036854775808))&&(A==(-1))))],[]⟩) ?_ ?_
   ·refine tg_ hC [.n 4] rfl ?_
    rcases Qz (z==(-9223372036854775808))with a | a
    ·refine Qa hC [.S 42 (.b true),.n 4,.S 45 (.b ((z==(-9223372036854775808))&&(A==(-1)))),.K [0,1,2,45] []] rfl ⟨(tc_ a),(congrArg V.b (Qat a rfl))⟩ ?_
     exact AK.met rfl
    refine Qa hC [.S 42 (.b false),.n 4,.S 45 (.b ((z==(-9223372036854775808))&&(A==(-1)))),.K [0,1,2,45] []] rfl ⟨(tc_ a),(congrArg V.b (Qbm a rfl))⟩ ?_
    exact AK.met rfl
   rintro σ rfl
   refine tg_ hC [.n 1] rfl ?_
   refine bg_ h (fun l h=>Qa hC [.T,.n 10,.K [6,7] []] rfl ⟨tt_,l⟩ ?_) fun l h=>Qa hC [.F,.n 9] rfl ⟨tt_,l⟩ ?_
   ·cases h
    exact d2_ rfl rfl rfl tt_
   rcases Qq h with⟨m,h⟩|⟨m,h⟩
   ·obtain⟨P,h⟩:=Qas h
    refine Qa hC [.T,.n 13] rfl ⟨⟨tt_,m⟩,(neZ P)⟩ ?_
    cases h
    exact d2_ rfl rfl rfl tt_
   obtain⟨U,h⟩:=Qas h
   refine Qa hC [.F,.n 14] rfl ⟨⟨tt_,m⟩,(neZ U)⟩ ?_
   cases h
   exact d2_ rfl rfl rfl tt_
  rcases Qq h with⟨p,h⟩|⟨p,h⟩
  ·obtain⟨a7,W,h⟩:=Qc h
   refine Qa hC [.T,.n 5,.o (.c false [.d] (.I a7)),.n 7] rfl ⟨⟨tt_,p⟩,(Qck _ W)⟩ ?_
   cases h
   exact d2_ rfl rfl rfl tt_
  refine Qa hC [.F,.n 6] rfl ⟨tt_,p⟩ ?_
  rcases Qq h with⟨q,h⟩|⟨q,h⟩
  ·obtain⟨a8,X,h⟩:=Qc h
   refine Qa hC [.T,.n 5,.o (.c false [.d] (.I a8)),.n 7] rfl ⟨⟨tt_,q⟩,(Qck _ X)⟩ ?_
   cases h
   exact d2_ rfl rfl rfl tt_
  refine Qa hC [.F,.n 6] rfl ⟨tt_,q⟩ ?_
  rcases Qq h with⟨s,h⟩|⟨s,h⟩
  ·obtain⟨a9,Y,h⟩:=Qc h
   refine Qa hC [.T,.n 5,.o (.c false [.d] (.I a9)),.n 7] rfl ⟨⟨tt_,s⟩,(Qck _ Y)⟩ ?_
   cases h
   exact d2_ rfl rfl rfl tt_
  refine Qa hC [.F,.n 6] rfl ⟨tt_,s⟩ ?_
  rcases Qq h with⟨t,h⟩|⟨t,h⟩
  ·obtain⟨b0,Z,h⟩:=Qc h
   refine Qa hC [.T,.n 5,.o (.c false [.d] (.I b0)),.n 7] rfl ⟨⟨tt_,t⟩,(Qck _ Z)⟩ ?_
   cases h
   exact d2_ rfl rfl rfl tt_
  refine Qa hC [.F,.n 6] rfl ⟨tt_,t⟩ ?_
  refine bg_ h (fun u h=>Qa hC [.T,.n 1] rfl ⟨tt_,u⟩ ?_) fun u h=>Qa hC [.F,.n 6] rfl ⟨tt_,u⟩ ?_
  ·obtain⟨E,a0,h⟩:=Qc h
   replace h:QlL E=some r:=h
   refine AK.meetX (fun σ=>σ=⟨[(6,.I E),(7,.I 0)],[]⟩) ?_ ?_
   ·replace h:=a0
    refine tg_ hC [.n 4] rfl ?_
    rcases Qq h with⟨v,h⟩|⟨v,h⟩
    ·obtain⟨b1,a1,h⟩:=Qc h
     refine Qa hC [.S 82 (.b true),.n 3,.o (.c false [.d] (.I b1)),.n 3,.K [6,7] []] rfl ⟨(tc_ v),(Qck _ a1)⟩ ?_
     cases h
     exact AK.met rfl
    obtain⟨b2,a3,h⟩:=Qc h
    refine Qa hC [.S 82 (.b false),.n 3,.o (.c false [.d] (.I b2)),.n 3,.K [6,7] []] rfl ⟨(tc_ v),(Qck _ a3)⟩ ?_
    cases h
    exact AK.met rfl
   rintro σ rfl
   replace h:QlL E=some r:=h
   refine tg_ hC [.n 4] rfl ?_
   cases h
   exact d2_ rfl rfl rfl tt_
  refine bg_ h (fun w h=>Qa hC [.T,.n 1] rfl ⟨tt_,w⟩ ?_) fun w h=>Qa hC [.F,.n 9,.K [6,7] []] rfl ⟨tt_,w⟩ ?_
  ·obtain⟨G,a4,h⟩:=Qc h
   replace h:QlM G=some r:=h
   refine AK.meetX (fun σ=>σ=⟨[(6,.I G),(7,.I 0)],[]⟩) ?_ ?_
   ·replace h:=a4
    refine tg_ hC [.n 4] rfl ?_
    rcases Qq h with⟨x,h⟩|⟨x,h⟩
    ·obtain⟨b4,a5,h⟩:=Qc h
     refine Qa hC [.S 91 (.b true),.n 3,.o (.c false [.d] (.I b4)),.n 3,.K [6,7] []] rfl ⟨(tc_ x),(Qck _ a5)⟩ ?_
     cases h
     exact AK.met rfl
    obtain⟨b5,a6,h⟩:=Qc h
    refine Qa hC [.S 91 (.b false),.n 3,.o (.c false [.d] (.I b5)),.n 3,.K [6,7] []] rfl ⟨(tc_ x),(Qck _ a6)⟩ ?_
    cases h
    exact AK.met rfl
   rintro σ rfl
   replace h:QlM G=some r:=h
   refine tg_ hC [.n 4] rfl ?_
   cases h
   exact d2_ rfl rfl rfl tt_
  cases h
  exact d2_ rfl rfl rfl tt_
 rintro σ ⟨n8,B,rfl,h⟩
 refine tg_ hC [.n 7] rfl ?_
 refine bg_ h (fun y h=>Qa hC [.T,.n 8,.K [6,7] []] rfl ⟨tt_,y⟩ ?_) fun y h=>Qa hC [.F,.n 10,.K [6,7] []] rfl ⟨tt_,y⟩ ?_
 ·cases h
  exact d2_ rfl rfl rfl tt_
 cases h
 exact d2_ rfl rfl rfl tt_
def Qdh (f:(List Int))(g:(List Int))(h:Int)(c:Int):Option ((Int×Int)⊕(Int⊕Int)):=
 bif ((decide (c<(f.length:Int)))&&(decide (c<(g.length:Int))))then
 (idx f c).bind fun d=>
 (idx g c).bind fun e=>
 (Qe8 3 d e).bind fun a=>
 bif (a.2 != 0)then
 some (.inr (.inl a.2))
 else
 (Qe8 1 h a.1).bind fun b=>
 bif (b.2 != 0)then
 some (.inr (.inl b.2))
 else
 some (.inl (b.1,(w64 (c+1))))
 else
 some (.inr (.inr h))
def QkS (a:Int):Option (Int×Int):=
 some (0,a)
def QkT (a:Int):Option (Int×Int):=
 some (a,0)
def Qjj (a:(List Int))(b:(List Int)):Option (Int×Int):=
 (Qt (fun st=>Qdh a b st.1 st.2) (0,0)).bind (Sum.elim (fun q=>QkS q) (fun q=>QkT q))
theorem QoH (k l){r}(h:Qjj k l=some r):Qd prog 37 [.sl 1 (k.map Qb),.sl 1 (l.map Qb)] [] (Qj (.tup [.I r.1,.I r.2]) []):=by
 refine Qd.walk 50 func37 rfl rfl rfl fun C hC=>?_
 refine tg_ hC [.n 18,.K [0,1,6,7] []] rfl ?_
 obtain⟨y,p,h⟩:=Qc h
 refine AK.loop (body:=(fun st=>Qdh k l st.1 st.2)) (fun st σ=>σ=⟨[(0,.sl 1 (k.map Qb)),(1,.sl 1 (l.map Qb)),(6,.I st.1),(7,.I st.2)],[]⟩) (Sum.elim (fun q e σ=>e=.ret∧σ=⟨[(4,.I 0),(5,.I q)],[]⟩) (fun q e σ=>e=.exit 0∧σ=⟨[(6,.I q)],[]⟩)) p rfl ?_ ?_
 ·rintro ⟨E,m⟩ o σ rfl h
  refine tg_ hC [.n 2] rfl ?_
  refine AK.meetX (fun σ=>σ=⟨[(0,.sl 1 (k.map Qb)),(1,.sl 1 (l.map Qb)),(6,.I E),(7,.I m),(21,.b ((decide (m<(k.length:Int)))&&(decide (m<(l.length:Int)))))],[]⟩) ?_ ?_
  ·refine Qa hC [.n 3,.o (.ln k.length),.n 2] rfl ⟨tt_,Qg⟩ ?_
   rcases Qz (decide (m<(k.length:Int)))with f | f
   ·refine Qa hC [.S 16 (.b true),.n 2,.o (.ln l.length),.n 3,.S 21 (.b ((decide (m<(k.length:Int)))&&(decide (m<(l.length:Int))))),.K [0,1,6,7,21] []] rfl ⟨⟨(tc_ f),Qg⟩,(congrArg V.b (Qat f rfl))⟩ ?_
    exact AK.met rfl
   refine Qa hC [.S 16 (.b false),.n 6,.S 21 (.b ((decide (m<(k.length:Int)))&&(decide (m<(l.length:Int))))),.K [0,1,6,7,21] []] rfl ⟨(tc_ f),(congrArg V.b (Qbm f rfl))⟩ ?_
   exact AK.met rfl
  rintro σ rfl
  refine tg_ hC [.n 1] rfl ?_
  rcases Qq h with⟨g,h⟩|⟨g,h⟩
  ·obtain⟨z,s,h⟩:=Qc h
   obtain⟨A,t,h⟩:=Qc h
   obtain⟨u,v,h⟩:=Qc h
   refine Qa hC [.T,.n 5,.K [0,1,6,7] []] rfl ⟨tt_,g⟩ ?_
   refine AK.draw2 Qp hC mixed [.N,.N,.a (.row (Qb z)) none false,.N,.N,.N,.a (.row (Qb A)) none false,.N,.a (.c false [.d,.d,.d] (.tup [.I u.1,.I u.2])) none false,.N,.N,.N,.N,.N] [] [] [0,1,6,7,8,9] [] rfl rfl rfl ⟨⟨⟨tt_,(QA s)⟩,(QA t)⟩,(QpA _ _ _ v)⟩ rfl (by kernel_rfl) rfl rfl rfl ?_
   refine tg_ hC [.n 8] rfl ?_
   rcases Qq h with⟨i,h⟩|⟨i,h⟩
   ·refine Qa hC [.T,.n 11,.K [4,5] []] rfl ⟨tt_,i⟩ ?_
    cases h
    exact QaH rfl (an_ rfl rfl)
   obtain⟨w,x,h⟩:=Qc h
   refine Qa hC [.F,.n 6,.o (.c false [.d,.d,.d] (.tup [.I w.1,.I w.2])),.n 14] rfl ⟨⟨tt_,i⟩,(QpA _ _ _ x)⟩ ?_
   refine bg_ h (fun j h=>Qa hC [.T,.n 11,.K [4,5] []] rfl ⟨tt_,j⟩ ?_) fun j h=>Qa hC [.F,.n 13,.K [0,1,6,7] []] rfl ⟨tt_,j⟩ ?_
   ·cases h
    exact QaH rfl (an_ rfl rfl)
   cases h
   exact QJ rfl rfl
  refine Qa hC [.F,.n 2,.K [6] []] rfl ⟨tt_,g⟩ ?_
  cases h
  exact QK rfl (an_ rfl rfl)
 rcases y with(B | D)
 ·replace h:QkS B=some r:=h
  rintro e σ ⟨rfl,rfl⟩
  refine tg_ hC [.n 2] rfl ?_
  cases h
  exact d2_ rfl rfl rfl tt_
 replace h:QkT D=some r:=h
 rintro e σ ⟨rfl,rfl⟩
 refine tg_ hC [.n 10] rfl ?_
 cases h
 exact d2_ rfl rfl rfl tt_
def Qca (e:QMk)(c:Int)(a:(List Int)):Option ((Int×(List Int))⊕(List Int)):=
 bif (decide (c<(e.length:Int)))then
 (idx e c).bind fun d=>
 (QjF d).bind fun b=>
 (chk (decide (a.length+([b]:List Int).length≤4294967296))).bind fun _=>
 some (.inl ((w64 (c+1)),(a++([b]:List Int))))
 else
 some (.inr a)
def QjX (c:(List Int))(b:(List Int)):Option (Int×Int):=
 (Qjj c b).bind fun a=>
 some (a.1,a.2)
def QjG (a:(List Int))(b:QMk):Option (Int×Int):=
 bif ((a.length:Int) != (b.length:Int))then
 some (0,1)
 else
 (Qt (fun st=>Qca b st.1 st.2) (0,([]:List Int))).bind (fun q=>QjX a q)
theorem Qr7 (g i){r}(h:QjG g i=some r):Qd prog 13 [.sl 1 (g.map Qb),.sl 1 (i.map QbE)] [] (Qj (.tup [.I r.1,.I r.2]) []):=by
 refine Qd.walk 32 func13 rfl rfl rfl fun C hC=>?_
 refine Qa hC [.n 10,.o (.ln g.length),.n 1,.o (.ln i.length),.n 3] rfl ⟨⟨tt_,Qg⟩,Qg⟩ ?_
 refine bg_ h (fun f h=>Qa hC [.T,.n 8,.K [4,5] []] rfl ⟨tt_,f⟩ ?_) fun f h=>Qa hC [.F,.n 14,.adopt 6 19 1,.O 19 (.arr 1 (([]:List Int).map Qb)),.S 6 (.own 19 ([]:List Int).length),.K [0,1,6,7] [19]] rfl ⟨⟨⟨tt_,f⟩,rfl⟩,(congrArg (fun n=>V.own 19 n) (by simp))⟩ ?_
 ·cases h
  exact d2_ rfl rfl rfl tt_
 obtain⟨j,k,h⟩:=Qc h
 refine AK.loop (body:=(fun st=>Qca i st.1 st.2)) (fun st σ=>σ=⟨[(0,.sl 1 (g.map Qb)),(1,.sl 1 (i.map QbE)),(6,.own 19 st.2.length),(7,.I st.1)],[(19,.arr 1 (st.2.map Qb))]⟩) (fun q e σ=>e=.exit 0∧σ=⟨[(0,.sl 1 (g.map Qb)),(6,.own 19 q.length)],[(19,.arr 1 (q.map Qb))]⟩) k rfl ?_ ?_
 ·rintro ⟨x,l⟩ o σ rfl h
  refine Qa hC [.n 5,.o (.ln i.length),.n 3] rfl ⟨tt_,Qg⟩ ?_
  rcases Qq h with⟨a,h⟩|⟨a,h⟩
  ·obtain⟨w,m,h⟩:=Qc h
   obtain⟨b,p,h⟩:=Qc h
   obtain⟨s,h⟩:=Qas h
   refine Qa hC [.T,.n 8,.o (.row (QbE w)),.n 1,.o (.c false [.d] (.I b)),.v (.bd []) [] (.sl 1 (([b]:List Int).map Qb)),.app ((l++([b]:List Int)).map Qb) (l++([b]:List Int)).length,.n 9,.K [0,1,6,7] [19]] rfl ⟨⟨⟨⟨⟨tt_,a⟩,(QA m)⟩,(Qr6 _ p)⟩,rfl⟩,⟨Qg,Qc9 s Qg,QbS,QeC Qg⟩⟩ ?_
   cases h
   exact QJ rfl rfl
  refine Qa hC [.F,.n 2,.K [0,6] [19]] rfl ⟨tt_,a⟩ ?_
  cases h
  exact QK rfl (an_ rfl rfl)
 replace h:QjX g j=some r:=h
 rintro e σ ⟨rfl,rfl⟩
 obtain⟨t,u,h⟩:=Qc h
 refine Qa hC [.n 6,.o (.c true [.d,.o (j.map Qb)] (.tup [.I t.1,.I t.2])),.n 7] rfl ⟨tt_,⟨(Qj3 rfl),(QoH _ _ u)⟩⟩ ?_
 cases h
 exact d2_ rfl rfl rfl tt_
def QhX (b:Int)(a:Int)(c:(List Int)):Option ((Int×(List Int))⊕(List Int)):=
 bif (decide (a<b))then
 (chk (decide (c.length+([a]:List Int).length≤4294967296))).bind fun _=>
 some (.inl ((w64 (a+1)),(c++([a]:List Int))))
 else
 some (.inr c)
def Qe9 (a:QLL):Option QLL:=
 some a
def Qlt (b:Int)(a:Int)(c:QLL):Option ((Int×QLL)⊕QLL):=
 bif (decide (a<b))then
 (chk (decide (c.length+([([a]:List Int)]:List (List Int)).length≤4294967296))).bind fun _=>
 some (.inl ((w64 (a+1)),(c++([([a]:List Int)]:List (List Int)))))
 else
 some (.inr c)
def QhY (a:QLL):Option QLL:=
 Qe9 a
def Qlu (b:Int)(a:Int)(c:Int):Option ((Int×Int)⊕Int):=
 bif (decide (c<b))then
 some (.inl ((w64 (2*a)),(w64 (c+1))))
 else
 some (.inr a)
def QhZ (a:Int)(b:Int)(c:(List Int)):Option ((Int×Int×(List Int))⊕(List Int)):=
 some (.inl ((w64 (Int.tdiv a 2)),(w64 (b+1)),c))
def Qlv (c:Int)(d:Int)(a:Int)(b:(List Int)):Option ((Int×Int×(List Int))⊕(List Int)):=
 bif (decide (a<c))then
 bif ((Int.tmod d 2)==1)then
 (chk (decide (b.length+([a]:List Int).length≤4294967296))).bind fun _=>
 QhZ d a (b++([a]:List Int))
 else
 QhZ d a b
 else
 some (.inr b)
def Qlw (a:QLL)(c:Int)(b:(List Int)):Option ((Int×QLL)⊕QLL):=
 (chk (decide (a.length+([b]:List (List Int)).length≤4294967296))).bind fun _=>
 some (.inl ((w64 (c+1)),(a++([b]:List (List Int)))))
def Qlx (a:Int)(b:Int)(c:Int)(d:QLL):Option ((Int×QLL)⊕QLL):=
 bif (decide (c<a))then
 (Qt (fun st=>Qlv b st.1 st.2.1 st.2.2) (c,0,([]:List Int))).bind (fun q=>Qlw d c q)
 else
 some (.inr d)
def Qg3 (a:QLL):Option QLL:=
 Qe9 a
def QkB (a:Int)(b:Int):Option QLL:=
 (Qt (fun st=>Qlx b a st.1 st.2) (1,([]:List (List Int)))).bind (fun q=>Qg3 q)
def Qg4 (a:Int)(b:Int)(c:(List Int)):Option QLL:=
 bif (a==1)then
 some ([c]:List (List Int))
 else
 bif (a==2)then
 (Qt (fun st=>Qlt b st.1 st.2) (0,([]:List (List Int)))).bind (fun q=>QhY q)
 else
 bif (a==3)then
 (Qt (fun st=>Qlu b st.1 st.2) (1,0)).bind (fun q=>QkB b q)
 else
 Qe9 ([]:List (List Int))
def QcI (b:Int)(a:Int):Option QLL:=
 bif ((decide (a<0))||((decide (16<a))||((b==3)&&(decide (4<a)))))then
 some ([]:List (List Int))
 else
 (Qt (fun st=>QhX a st.1 st.2) (0,([]:List Int))).bind (fun q=>Qg4 b a q)
theorem Qly (c a){r}(h:QcI c a=some r):Qd prog 40 [.I c,.I a] [] (Qj (.own 600 r.length) [(600,.arr 1 (r.map Qf))]):=by
 refine Qd.walk 89 func40 rfl rfl rfl fun C hC=>?_
 unfold QcI at h
 refine tg_ hC [.n 7] rfl ?_
 refine AK.meetX (fun σ=>σ=⟨[(0,.I c),(1,.I a),(28,.b ((decide (a<0))||((decide (16<a))||((c==3)&&(decide (4<a))))))],[]⟩) ?_ ?_
 ·refine tg_ hC [.n 4] rfl ?_
  rcases Qz (decide (a<0))with g | g
  ·refine Qa hC [.S 17 (.b true),.n 12,.S 28 (.b ((decide (a<0))||((decide (16<a))||((c==3)&&(decide (4<a)))))),.K [0,1,28] []] rfl ⟨(tc_ g),(congrArg V.b (orT g rfl))⟩ ?_
   exact AK.met rfl
  refine Qa hC [.S 17 (.b false),.n 4] rfl (tc_ g) ?_
  rcases Qz (decide (16<a))with i | i
  ·refine Qa hC [.S 21 (.b true),.n 8,.S 28 (.b ((decide (a<0))||((decide (16<a))||((c==3)&&(decide (4<a)))))),.K [0,1,28] []] rfl ⟨(tc_ i),(congrArg V.b (orF g (orT i rfl)))⟩ ?_
   exact AK.met rfl
  refine Qa hC [.S 21 (.b false),.n 3] rfl (tc_ i) ?_
  rcases Qz (c==3)with j | j
  ·refine Qa hC [.S 24 (.b true),.n 5,.S 28 (.b ((decide (a<0))||((decide (16<a))||((c==3)&&(decide (4<a)))))),.K [0,1,28] []] rfl ⟨(tc_ j),(congrArg V.b (orF g (orF i (Qat j rfl))))⟩ ?_
   exact AK.met rfl
  refine Qa hC [.S 24 (.b false),.n 5,.S 28 (.b ((decide (a<0))||((decide (16<a))||((c==3)&&(decide (4<a)))))),.K [0,1,28] []] rfl ⟨(tc_ j),(congrArg V.b (orF g (orF i (Qbm j rfl))))⟩ ?_
  exact AK.met rfl
 rintro σ rfl
 refine tg_ hC [.n 1] rfl ?_
 refine bg_ h (fun H h=>Qa hC [.T,.n 7,.adopt 4 600 1,.O 600 (.arr 1 (([]:List (List Int)).map Qf)),.S 4 (.own 600 ([]:List (List Int)).length),.K [4] [600]] rfl ⟨⟨⟨tt_,H⟩,rfl⟩,rfl⟩ ?_) fun H h=>Qa hC [.F,.n 19,.adopt 6 34 1,.O 34 (.arr 1 (([]:List Int).map Qb)),.S 6 (.own 34 ([]:List Int).length),.K [0,1,5,6,7] [34]] rfl ⟨⟨⟨tt_,H⟩,rfl⟩,(congrArg (fun n=>V.own 34 n) (by simp))⟩ ?_
 ·cases h
  exact d1_ rfl rfl ⟨rfl,tt_⟩
 obtain⟨A,L,h⟩:=Qc h
 refine AK.loop (body:=(fun st=>QhX a st.1 st.2)) (fun st σ=>σ=⟨[(0,.I c),(1,.I a),(5,.lit (.slice none 0 0)),(6,.own 34 st.2.length),(7,.I st.1)],[(34,.arr 1 (st.2.map Qb))]⟩) (fun q e σ=>e=.exit 0∧σ=⟨[(0,.I c),(1,.I a),(5,.lit (.slice none 0 0)),(6,.own 34 q.length)],[(34,.arr 1 (q.map Qb))]⟩) L rfl ?_ ?_
 ·rintro ⟨J,M⟩ o σ rfl h
  refine tg_ hC [.n 8] rfl ?_
  rcases Qq h with⟨k,h⟩|⟨k,h⟩
  ·obtain⟨N,h⟩:=Qas h
   refine Qa hC [.T,.n 7,.v (.bd []) [] (.sl 1 (([J]:List Int).map Qb)),.app ((M++([J]:List Int)).map Qb) (M++([J]:List Int)).length,.n 9,.K [0,1,5,6,7] [34]] rfl ⟨⟨⟨tt_,k⟩,rfl⟩,⟨Qg,Qc9 N Qg,QbS,QeC Qg⟩⟩ ?_
   cases h
   exact QJ rfl rfl
  refine Qa hC [.F,.n 2,.K [0,1,5,6] [34]] rfl ⟨tt_,k⟩ ?_
  cases h
  exact QK rfl (an_ rfl rfl)
 replace h:Qg4 c a A=some r:=h
 rintro e σ ⟨rfl,rfl⟩
 refine tg_ hC [.n 2] rfl ?_
 refine AK.meet (fun σ=>∃B:QLL,σ=⟨[(5,.own 602 B.length)],[(602,.arr 1 (B.map Qf))]⟩∧Qe9 B=some r) ?_ ?_
 ·refine tg_ hC [.n 12] rfl ?_
  refine bg_ h (fun l h=>Qa hC [.T,.n 3,.frz 34 (A.map Qb) [6,41] [],.n 1,.O 42 (.arr 1 (([A]:List (List Int)).map Qf)),.S 42 (.own 42 ([A]:List (List Int)).length),.n 6,.K [4] [42],.ren 42 600,.K [4] [600]] rfl ⟨⟨⟨⟨tt_,l⟩,⟨⟨tt_,(QcQ Qg)⟩,(QcQ Qg)⟩⟩,rfl⟩,rfl⟩ ?_) fun l h=>Qa hC [.F,.n 6] rfl ⟨tt_,l⟩ ?_
  ·cases h
   exact d1_ rfl rfl ⟨rfl,tt_⟩
  refine bg_ h (fun m h=>Qa hC [.T,.n 6,.adopt 5 50 1,.O 50 (.arr 1 (([]:List (List Int)).map Qf)),.S 5 (.own 50 ([]:List (List Int)).length),.K [1,5,8] [50]] rfl ⟨⟨⟨tt_,m⟩,rfl⟩,(congrArg (fun n=>V.own 50 n) (by simp))⟩ ?_) fun m h=>Qa hC [.F,.n 6] rfl ⟨tt_,m⟩ ?_
  ·obtain⟨a4,P,h⟩:=Qc h
   refine AK.loop (body:=(fun st=>Qlt a st.1 st.2)) (fun st σ=>σ=⟨[(1,.I a),(5,.own 50 st.2.length),(8,.I st.1)],[(50,.arr 1 (st.2.map Qf))]⟩) (fun q e σ=>e=.exit 3∧σ=⟨[(5,.own 50 q.length)],[(50,.arr 1 (q.map Qf))]⟩) P rfl ?_ ?_
   ·rintro ⟨D,U⟩ o σ rfl h
    refine tg_ hC [.n 8] rfl ?_
    rcases Qq h with⟨p,h⟩|⟨p,h⟩
    ·obtain⟨W,h⟩:=Qas h
     refine Qa hC [.T,.n 7,.v (.bd []) [] (.sl 1 (([D]:List Int).map Qb)),.v (.bd []) [] (.sl 1 (([([D]:List Int)]:List (List Int)).map Qf)),.app ((U++([([D]:List Int)]:List (List Int))).map Qf) (U++([([D]:List Int)]:List (List Int))).length,.n 9,.K [1,5,8] [50]] rfl ⟨⟨⟨⟨tt_,p⟩,rfl⟩,rfl⟩,⟨Qg,Qc9 W Qg,QbS,QeC Qg⟩⟩ ?_
     cases h
     exact QJ rfl rfl
    refine Qa hC [.F,.n 2,.K [5] [50]] rfl ⟨tt_,p⟩ ?_
    cases h
    exact QK rfl (an_ rfl rfl)
   replace h:QhY a4=some r:=h
   unfold QhY at h
   rintro e σ ⟨rfl,rfl⟩
   refine tg_ hC [.n 2,.ren 50 602,.K [5] [602]] rfl ?_
   exact AK.met (ex_ _ (an_ rfl h))
  refine bg_ h (fun s h=>Qa hC [.T,.n 12,.K [1,5,9,10] []] rfl ⟨tt_,s⟩ ?_) fun s h=>Qa hC [.F,.n 2,.adopt 5 602 1,.O 602 (.arr 1 (([]:List (List Int)).map Qf)),.S 5 (.own 602 ([]:List (List Int)).length),.K [5] [602]] rfl ⟨⟨⟨tt_,s⟩,rfl⟩,(congrArg (fun n=>V.own 602 n) (by simp))⟩ ?_
  ·obtain⟨d,X,h⟩:=Qc h
   refine AK.loop (body:=(fun st=>Qlu a st.1 st.2)) (fun st σ=>σ=⟨[(1,.I a),(5,.lit (.slice none 0 0)),(9,.I st.1),(10,.I st.2)],[]⟩) (fun q e σ=>e=.exit 5∧σ=⟨[(1,.I a),(5,.lit (.slice none 0 0)),(9,.I q)],[]⟩) X rfl ?_ ?_
   ·rintro ⟨a5,a7⟩ o σ rfl h
    refine tg_ hC [.n 8] rfl ?_
    refine bg_ h (fun t h=>Qa hC [.T,.n 16,.K [1,5,9,10] []] rfl ⟨tt_,t⟩ ?_) fun t h=>Qa hC [.F,.n 2,.K [1,5,9] []] rfl ⟨tt_,t⟩ ?_
    ·cases h
     exact QJ rfl rfl
    cases h
    exact QK rfl (an_ rfl rfl)
   replace h:QkB a d=some r:=h
   rintro e σ ⟨rfl,rfl⟩
   refine Qa hC [.n 8,.adopt 5 84 1,.O 84 (.arr 1 (([]:List (List Int)).map Qf)),.S 5 (.own 84 ([]:List (List Int)).length),.K [1,5,9,11] [84]] rfl ⟨⟨tt_,rfl⟩,(congrArg (fun n=>V.own 84 n) (by simp))⟩ ?_
   obtain⟨a6,Y,h⟩:=Qc h
   refine AK.loop (body:=(fun st=>Qlx d a st.1 st.2)) (fun st σ=>σ=⟨[(1,.I a),(5,.own 84 st.2.length),(9,.I d),(11,.I st.1)],[(84,.arr 1 (st.2.map Qf))]⟩) (fun q e σ=>e=.exit 7∧σ=⟨[(5,.own 84 q.length)],[(84,.arr 1 (q.map Qf))]⟩) Y rfl ?_ ?_
   ·rintro ⟨E,f⟩ o σ rfl h
    refine tg_ hC [.n 8] rfl ?_
    refine bg_ h (fun u h=>Qa hC [.T,.n 22,.adopt 12 78 1,.O 78 (.arr 1 (([]:List Int).map Qb)),.S 12 (.own 78 ([]:List Int).length),.K [1,5,9,11,12,13,14] [78,84]] rfl ⟨⟨⟨tt_,u⟩,rfl⟩,(congrArg (fun n=>V.own 78 n) (by simp))⟩ ?_) fun u h=>Qa hC [.F,.n 2,.K [5] [84]] rfl ⟨tt_,u⟩ ?_
    ·obtain⟨w,Z,h⟩:=Qc h
     refine AK.loop (body:=(fun st=>Qlv a st.1 st.2.1 st.2.2)) (fun st σ=>σ=⟨[(1,.I a),(5,.own 84 f.length),(9,.I d),(11,.I E),(12,.own 78 st.2.2.length),(13,.I st.1),(14,.I st.2.1)],[(78,.arr 1 (st.2.2.map Qb)),(84,.arr 1 (f.map Qf))]⟩) (fun q e σ=>e=.exit 9∧σ=⟨[(1,.I a),(5,.own 84 f.length),(9,.I d),(11,.I E),(12,.own 78 q.length)],[(78,.arr 1 (q.map Qb)),(84,.arr 1 (f.map Qf))]⟩) Z rfl ?_ ?_
     ·rintro ⟨a0,x,a1⟩ o σ rfl h
      refine tg_ hC [.n 8] rfl ?_
      refine bg_ h (fun y h=>Qa hC [.T,.n 4] rfl ⟨tt_,y⟩ ?_) fun y h=>Qa hC [.F,.n 2,.K [1,5,9,11,12] [78,84]] rfl ⟨tt_,y⟩ ?_
      ·refine AK.meet (fun σ=>∃G:(List Int),σ=⟨[(1,.I a),(5,.own 84 f.length),(9,.I d),(11,.I E),(12,.own 78 G.length),(13,.I a0),(14,.I x)],[(78,.arr 1 (G.map Qb)),(84,.arr 1 (f.map Qf))]⟩∧QhZ a0 x G=some o) ?_ ?_
       ·refine Qa hC [.n 7] rfl ⟨tt_,(by decide)⟩ ?_
        rcases Qq h with⟨z,h⟩|⟨z,h⟩
        ·obtain⟨a2,h⟩:=Qas h
         refine Qa hC [.T,.n 3,.v (.bd []) [] (.sl 1 (([x]:List Int).map Qb)),.app ((a1++([x]:List Int)).map Qb) (a1++([x]:List Int)).length,.n 2,.K [1,5,9,11,12,13,14] [78,84]] rfl ⟨⟨⟨tt_,z⟩,rfl⟩,⟨Qg,Qc9 a2 Qg,QbS,QeC Qg⟩⟩ ?_
         exact AK.met (ex_ _ (an_ rfl h))
        refine Qa hC [.F,.n 1,.K [1,5,9,11,12,13,14] [78,84]] rfl ⟨tt_,z⟩ ?_
        exact AK.met (ex_ _ (an_ rfl h))
       rintro σ ⟨G,rfl,h⟩
       refine Qa hC [.n 12,.K [1,5,9,11,12,13,14] [78,84]] rfl ⟨tt_,(by decide)⟩ ?_
       cases h
       exact QJ rfl rfl
      cases h
      exact QK rfl (an_ rfl rfl)
     replace h:Qlw f E w=some o:=h
     rintro e σ ⟨rfl,rfl⟩
     obtain⟨a3,h⟩:=Qas h
     refine Qa hC [.n 5,.frz 78 (w.map Qb) [12,85] [],.v (.bd []) [] (.sl 1 (([w]:List (List Int)).map Qf)),.app ((f++([w]:List (List Int))).map Qf) (f++([w]:List (List Int))).length,.n 9,.K [1,5,9,11] [84]] rfl ⟨⟨⟨tt_,⟨⟨tt_,(QcQ Qg)⟩,(QcQ Qg)⟩⟩,rfl⟩,⟨Qg,Qc9 a3 Qg,QbS,QeC Qg⟩⟩ ?_
     cases h
     exact QJ rfl rfl
    cases h
    exact QK rfl (an_ rfl rfl)
   replace h:Qg3 a6=some r:=h
   unfold Qg3 at h
   rintro e σ ⟨rfl,rfl⟩
   refine tg_ hC [.n 2,.ren 84 602,.K [5] [602]] rfl ?_
   exact AK.met (ex_ _ (an_ rfl h))
  exact AK.met (ex_ _ (an_ rfl h))
 rintro σ ⟨B,rfl,h⟩
 refine tg_ hC [.n 7,.K [4] [602],.ren 602 600] rfl ?_
 cases h
 exact d1_ rfl rfl ⟨rfl,tt_⟩
def Qh0 (a:Int)(b:(List Int)):Option ((Int×(List Int))⊕(List Int)):=
 some (.inl ((w64 (a+1)),b))
def QdA (d:QLL)(e:Int)(f:Qv)(c:Int)(a:(List Int)):Option ((Int×(List Int))⊕(List Int)):=
 (idx d e).bind fun g=>
 bif (decide (c<(g.length:Int)))then
 (idx d e).bind fun h=>
 (idx h c).bind fun i=>
 (idx f.Ins i).bind fun b=>
 bif ((decide (0≤b.Place))&&(decide (b.Place<(a.length:Int))))then
 (idx a b.Place).bind fun j=>
 (idx a b.Place).bind fun k=>
 Qh0 c (a.set b.Place.toNat (w64 (j-1)))
 else
 Qh0 c a
 else
 some (.inr a)
def Qh1 (a:Int)(b:(List Int)):Option ((Int×(List Int))⊕(List Int)):=
 some (.inl ((w64 (a+1)),b))
def QdB (d:QLL)(e:Int)(f:Qv)(c:Int)(a:(List Int)):Option ((Int×(List Int))⊕(List Int)):=
 (idx d e).bind fun g=>
 bif (decide (c<(g.length:Int)))then
 (idx d e).bind fun h=>
 (idx h c).bind fun i=>
 (idx f.Outs i).bind fun b=>
 bif ((decide (0≤b.Place))&&(decide (b.Place<(a.length:Int))))then
 (idx a b.Place).bind fun j=>
 (idx a b.Place).bind fun k=>
 Qh1 c (a.set b.Place.toNat (w64 (j+1)))
 else
 Qh1 c a
 else
 some (.inr a)
def Qlz (a:QLL)(c:Int)(b:(List Int)):Option ((Int×QLL)⊕QLL):=
 (chk (decide (a.length+([b]:List (List Int)).length≤4294967296))).bind fun _=>
 some (.inl ((w64 (c+1)),(a++([b]:List (List Int)))))
def Qh2 (b:QLL)(a:Int)(c:Qv)(d:QLL)(e:(List Int)):Option ((Int×QLL)⊕QLL):=
 (Qt (fun st=>QdB b a c st.1 st.2) (0,e)).bind (fun q=>Qlz d a q)
def Qfa (a:QLL)(b:Qm)(f:QLL)(g:Int)(c:Qv)(d:Int)(e:QLL):Option ((Int×QLL)⊕QLL):=
 bif (decide (d<(a.length:Int)))then
 (chk (decide (0≤(b.Places.length:Int))&&decide ((b.Places.length:Int)≤(b.Places.length:Int))&&decide ((b.Places.length:Int)≤4294967296))).bind fun _=>
 (Qt (fun st=>QdA f g c st.1 st.2) (0,(List.replicate (b.Places.length:Int).toNat (0:Int)))).bind (fun q=>Qh2 a d c e q)
 else
 some (.inr e)
def QlA (a:Int)(b:QLL):Option ((Int×QLL)⊕QLL):=
 some (.inl ((w64 (a+1)),b))
def Qfb (b:QLL)(d:QLL)(f:Qm)(e:Qv)(a:Int)(c:QLL):Option ((Int×QLL)⊕QLL):=
 bif (decide (a<(b.length:Int)))then
 (Qt (fun st=>Qfa d f b a e st.1 st.2) (0,c)).bind (fun q=>QlA a q)
 else
 some (.inr c)
def QkC (b:Int)(a:QLL):Option ((Int×QLL)⊕QLL):=
 some (.inl ((w64 (b+1)),a))
def QeN (b:Qm)(c:Int)(f:QLL):Option ((Int×QLL)⊕QLL):=
 bif (decide (c<(b.Tasks.length:Int)))then
 (idx b.Tasks c).bind fun a=>
 (QcI a.Join (a.Ins.length:Int)).bind fun d=>
 (QcI a.Split (a.Outs.length:Int)).bind fun e=>
 (Qt (fun st=>Qfb d e b a st.1 st.2) (0,f)).bind (fun q=>QkC c q)
 else
 some (.inr f)
def QkD (a:QLL):Option QLL:=
 some a
def Qfc (a:Qm):Option QLL:=
 (Qt (fun st=>QeN a st.1 st.2) (0,([]:List (List Int)))).bind (fun q=>QkD q)
theorem QbH (p){r}(h:Qfc p=some r):Qd prog 16 [.agg (Qe p)] [] (Qj (.own 600 r.length) [(600,.arr 1 (r.map Qf))]):=by
 refine Qd.walk 130 func16 rfl rfl rfl fun C hC=>?_
 refine Qa hC [.n 18,.adopt 3 125 1,.O 125 (.arr 1 (([]:List (List Int)).map Qf)),.S 3 (.own 125 ([]:List (List Int)).length),.K [1,3,4] [1,125]] rfl ⟨⟨tt_,rfl⟩,(congrArg (fun n=>V.own 125 n) (by simp))⟩ ?_
 obtain⟨l8,a5,h⟩:=Qc h
 refine AK.loop (body:=(fun st=>QeN p st.1 st.2)) (fun st σ=>σ=⟨[(1,.loc 1 0 0),(3,.own 125 st.2.length),(4,.I st.1)],[(1,.var (Qe p)),(125,.arr 1 (st.2.map Qf))]⟩) (fun q e σ=>e=.exit 0∧σ=⟨[(3,.own 125 q.length)],[(125,.arr 1 (q.map Qf))]⟩) a5 rfl ?_ ?_
 ·rintro ⟨x,l5⟩ o σ rfl h
  refine Qa hC [.n 6,.o (.ln p.Tasks.length),.n 3] rfl ⟨tt_,Qg⟩ ?_
  rcases Qq h with⟨a0,h⟩|⟨a0,h⟩
  ·obtain⟨g,a6,h⟩:=Qc h
   obtain⟨f,a7,h⟩:=Qc h
   obtain⟨c,a8,h⟩:=Qc h
   refine Qa hC [.T,.n 9,.o (.row (Qh g)),.v .no [] (.agg (Qh g)),.n 2,.O 5 (.var (Qh g)),.n 8,.o (.ln g.Ins.length),.o (.co false [.d,.d] 1 (f.map Qf) f.length),.n 9,.o (.ln g.Outs.length),.o (.co false [.d,.d] 1 (c.map Qf) c.length),.n 9,.K [1,3,4,5,6,7,8] [1,5,32,38,125]] rfl ⟨⟨⟨⟨⟨⟨⟨⟨tt_,a0⟩,(QA a6)⟩,rfl⟩,rfl⟩,Qg⟩,⟨(Qly _ _ a7),Qg,.inl rfl⟩⟩,Qg⟩,⟨(Qly _ _ a8),Qg,.inl rfl⟩⟩ ?_
   obtain⟨c1,a9,h⟩:=Qc h
   refine AK.loop (body:=(fun st=>Qfb f c p g st.1 st.2)) (fun st σ=>σ=⟨[(1,.loc 1 0 0),(3,.own 125 st.2.length),(4,.I x),(5,.loc 5 0 0),(6,.own 32 f.length),(7,.own 38 c.length),(8,.I st.1)],[(1,.var (Qe p)),(5,.var (Qh g)),(32,.arr 1 (f.map Qf)),(38,.arr 1 (c.map Qf)),(125,.arr 1 (st.2.map Qf))]⟩) (fun q e σ=>e=.exit 2∧σ=⟨[(1,.loc 1 0 0),(3,.own 125 q.length),(4,.I x)],[(1,.var (Qe p)),(125,.arr 1 (q.map Qf))]⟩) a9 rfl ?_ ?_
   ·rintro ⟨j,d0⟩ o σ rfl h
    refine tg_ hC [.n 9] rfl ?_
    refine bg_ h (fun y h=>Qa hC [.T,.n 10,.K [1,3,4,5,6,7,8,9] [1,5,32,38,125]] rfl ⟨tt_,y⟩ ?_) fun y h=>Qa hC [.F,.n 2,.K [1,3,4] [1,125]] rfl ⟨tt_,y⟩ ?_
    ·obtain⟨c2,b0,h⟩:=Qc h
     refine AK.loop (body:=(fun st=>Qfa c p f j g st.1 st.2)) (fun st σ=>σ=⟨[(1,.loc 1 0 0),(3,.own 125 st.2.length),(4,.I x),(5,.loc 5 0 0),(6,.own 32 f.length),(7,.own 38 c.length),(8,.I j),(9,.I st.1)],[(1,.var (Qe p)),(5,.var (Qh g)),(32,.arr 1 (f.map Qf)),(38,.arr 1 (c.map Qf)),(125,.arr 1 (st.2.map Qf))]⟩) (fun q e σ=>e=.exit 4∧σ=⟨[(1,.loc 1 0 0),(3,.own 125 q.length),(4,.I x),(5,.loc 5 0 0),(6,.own 32 f.length),(7,.own 38 c.length),(8,.I j)],[(1,.var (Qe p)),(5,.var (Qh g)),(32,.arr 1 (f.map Qf)),(38,.arr 1 (c.map Qf)),(125,.arr 1 (q.map Qf))]⟩) b0 rfl ?_ ?_
     ·rintro ⟨k,i⟩ o σ rfl h
      refine tg_ hC [.n 9] rfl ?_
      rcases Qq h with⟨z,h⟩|⟨z,h⟩
      ·obtain⟨b1,h⟩:=Qas h
       refine Qa hC [.T,.n 8,.o (.ln p.Places.length),.o (.rows ((List.replicate (p.Places.length:Int).toNat (0:Int)).map Qb)),.S 54 (.own 54 (List.replicate (p.Places.length:Int).toNat (0:Int)).length),.n 10,.K [1,3,4,5,6,7,8,9,10,11] [1,5,32,38,54,125]] rfl ⟨⟨⟨⟨tt_,z⟩,Qg⟩,⟨b1,QmD rfl⟩⟩,(by simp)⟩ ?_
       obtain⟨c3,b2,h⟩:=Qc h
       refine AK.loop (body:=(fun st=>QdA f j g st.1 st.2)) (fun st σ=>σ=⟨[(1,.loc 1 0 0),(3,.own 125 i.length),(4,.I x),(5,.loc 5 0 0),(6,.own 32 f.length),(7,.own 38 c.length),(8,.I j),(9,.I k),(10,.own 54 st.2.length),(11,.I st.1)],[(1,.var (Qe p)),(5,.var (Qh g)),(32,.arr 1 (f.map Qf)),(38,.arr 1 (c.map Qf)),(54,.arr 1 (st.2.map Qb)),(125,.arr 1 (i.map Qf))]⟩) (fun q e σ=>e=.exit 6∧σ=⟨[(1,.loc 1 0 0),(3,.own 125 i.length),(4,.I x),(5,.loc 5 0 0),(6,.own 32 f.length),(7,.own 38 c.length),(8,.I j),(9,.I k),(10,.own 54 q.length)],[(1,.var (Qe p)),(5,.var (Qh g)),(32,.arr 1 (f.map Qf)),(38,.arr 1 (c.map Qf)),(54,.arr 1 (q.map Qb)),(125,.arr 1 (i.map Qf))]⟩) b2 rfl ?_ ?_
       ·rintro ⟨a1,u⟩ o σ rfl h
        obtain⟨b3,L,h⟩:=Qc h
        refine Qa hC [.n 7,.o (.row (Qf b3)),.o (.ln b3.length),.n 3] rfl ⟨⟨⟨tt_,(Qcp L rfl)⟩,(Qbl (QcP L).2)⟩,Qg⟩ ?_
        refine bg_ h (fun A h=>Qa hC [.T,.n 2] rfl ⟨tt_,A⟩ ?_) fun A h=>Qa hC [.F,.n 2,.K [1,3,4,5,6,7,8,9,10] [1,5,32,38,54,125]] rfl ⟨tt_,A⟩ ?_
        ·refine AK.meet (fun σ=>∃H:(List Int),σ=⟨[(1,.loc 1 0 0),(3,.own 125 i.length),(4,.I x),(5,.loc 5 0 0),(6,.own 32 f.length),(7,.own 38 c.length),(8,.I j),(9,.I k),(10,.own 54 H.length),(11,.I a1)],[(1,.var (Qe p)),(5,.var (Qh g)),(32,.arr 1 (f.map Qf)),(38,.arr 1 (c.map Qf)),(54,.arr 1 (H.map Qb)),(125,.arr 1 (i.map Qf))]⟩∧Qh0 a1 H=some o) ?_ ?_
         ·obtain⟨c4,M,h⟩:=Qc h
          obtain⟨c5,b4,h⟩:=Qc h
          obtain⟨l,b5,h⟩:=Qc h
          refine tg_ hC [.n 2,.K [1,3,4,5,6,7,8,9,10,11] [1,5,32,38,54,125]] rfl ?_
          refine AK.draw2 Qp hC mixed [.N,.N,.N,.N,.N,.a (.row (Qf c4)) none false,.N,.a (.row (Qb c5)) none false,.N,.a (.row (QU l)) none false,.N,.N,.N] [] [] [1,3,4,5,6,7,8,9,10,11,12] [1,5,32,38,54,125] rfl rfl rfl ⟨⟨⟨⟨tt_,(Qcp M rfl)⟩,(Qbl (QcP M).2)⟩,(QA b4)⟩,(QA b5)⟩ rfl (by kernel_rfl) rfl rfl rfl ?_
          refine tg_ hC [.n 2] rfl ?_
          refine AK.meetX (fun σ=>σ=⟨[(1,.loc 1 0 0),(3,.own 125 i.length),(4,.I x),(5,.loc 5 0 0),(6,.own 32 f.length),(7,.own 38 c.length),(8,.I j),(9,.I k),(10,.own 54 u.length),(11,.I a1),(12,.I l.Place),(83,.b ((decide (0≤l.Place))&&(decide (l.Place<(u.length:Int)))))],[(1,.var (Qe p)),(5,.var (Qh g)),(32,.arr 1 (f.map Qf)),(38,.arr 1 (c.map Qf)),(54,.arr 1 (u.map Qb)),(125,.arr 1 (i.map Qf))]⟩) ?_ ?_
          ·refine tg_ hC [.n 4] rfl ?_
           rcases Qz (decide (0≤l.Place))with s | s
           ·refine Qa hC [.S 78 (.b true),.n 6,.S 83 (.b ((decide (0≤l.Place))&&(decide (l.Place<(u.length:Int))))),.K [1,3,4,5,6,7,8,9,10,11,12,83] [1,5,32,38,54,125]] rfl ⟨(tc_ s),(congrArg V.b (Qat s rfl))⟩ ?_
            exact AK.met rfl
           refine Qa hC [.S 78 (.b false),.n 6,.S 83 (.b ((decide (0≤l.Place))&&(decide (l.Place<(u.length:Int))))),.K [1,3,4,5,6,7,8,9,10,11,12,83] [1,5,32,38,54,125]] rfl ⟨(tc_ s),(congrArg V.b (Qbm s rfl))⟩ ?_
           exact AK.met rfl
          rintro σ rfl
          refine tg_ hC [.n 1] rfl ?_
          rcases Qq h with⟨B,h⟩|⟨B,h⟩
          ·obtain⟨a2,P,h⟩:=Qc h
           obtain⟨c6,U,h⟩:=Qc h
           refine Qa hC [.T,.n 4,.o (.row (Qb a2)),.n 2,.st (Qb c6) ((u.set l.Place.toNat (w64 (a2-1))).map Qb),.n 2,.S 10 (.own 54 (u.set l.Place.toNat (w64 (a2-1))).length),.K [1,3,4,5,6,7,8,9,10,11] [1,5,32,38,54,125]] rfl ⟨⟨⟨⟨⟨⟨tt_,B⟩,(Qcp P rfl)⟩,(Qbl (QcP P).2)⟩,(Qcp U rfl)⟩,⟨(Qbl (QcP U).2),Qi6 rfl⟩⟩,(congrArg (fun n=>V.own 54 n) (by simp))⟩ ?_
           exact AK.met (ex_ _ (an_ rfl h))
          refine Qa hC [.F,.n 2,.K [1,3,4,5,6,7,8,9,10,11] [1,5,32,38,54,125]] rfl ⟨tt_,B⟩ ?_
          exact AK.met (ex_ _ (an_ rfl h))
         rintro σ ⟨H,rfl,h⟩
         refine tg_ hC [.n 5,.K [1,3,4,5,6,7,8,9,10,11] [1,5,32,38,54,125]] rfl ?_
         cases h
         exact QJ rfl rfl
        cases h
        exact QK rfl (an_ rfl rfl)
       replace h:Qh2 c k g i c3=some o:=h
       rintro e σ ⟨rfl,rfl⟩
       refine tg_ hC [.n 9,.K [1,3,4,5,6,7,8,9,10,13] [1,5,32,38,54,125]] rfl ?_
       obtain⟨D,b6,h⟩:=Qc h
       refine AK.loop (body:=(fun st=>QdB c k g st.1 st.2)) (fun st σ=>σ=⟨[(1,.loc 1 0 0),(3,.own 125 i.length),(4,.I x),(5,.loc 5 0 0),(6,.own 32 f.length),(7,.own 38 c.length),(8,.I j),(9,.I k),(10,.own 54 st.2.length),(13,.I st.1)],[(1,.var (Qe p)),(5,.var (Qh g)),(32,.arr 1 (f.map Qf)),(38,.arr 1 (c.map Qf)),(54,.arr 1 (st.2.map Qb)),(125,.arr 1 (i.map Qf))]⟩) (fun q e σ=>e=.exit 8∧σ=⟨[(1,.loc 1 0 0),(3,.own 125 i.length),(4,.I x),(5,.loc 5 0 0),(6,.own 32 f.length),(7,.own 38 c.length),(8,.I j),(9,.I k),(10,.own 54 q.length)],[(1,.var (Qe p)),(5,.var (Qh g)),(32,.arr 1 (f.map Qf)),(38,.arr 1 (c.map Qf)),(54,.arr 1 (q.map Qb)),(125,.arr 1 (i.map Qf))]⟩) b6 rfl ?_ ?_
       ·rintro ⟨a3,w⟩ o σ rfl h
        obtain⟨b7,W,h⟩:=Qc h
        refine Qa hC [.n 7,.o (.row (Qf b7)),.o (.ln b7.length),.n 3] rfl ⟨⟨⟨tt_,(Qcp W rfl)⟩,(Qbl (QcP W).2)⟩,Qg⟩ ?_
        refine bg_ h (fun E h=>Qa hC [.T,.n 2] rfl ⟨tt_,E⟩ ?_) fun E h=>Qa hC [.F,.n 2,.K [1,3,4,5,6,7,8,9,10] [1,5,32,38,54,125]] rfl ⟨tt_,E⟩ ?_
        ·refine AK.meet (fun σ=>∃J:(List Int),σ=⟨[(1,.loc 1 0 0),(3,.own 125 i.length),(4,.I x),(5,.loc 5 0 0),(6,.own 32 f.length),(7,.own 38 c.length),(8,.I j),(9,.I k),(10,.own 54 J.length),(13,.I a3)],[(1,.var (Qe p)),(5,.var (Qh g)),(32,.arr 1 (f.map Qf)),(38,.arr 1 (c.map Qf)),(54,.arr 1 (J.map Qb)),(125,.arr 1 (i.map Qf))]⟩∧Qh1 a3 J=some o) ?_ ?_
         ·obtain⟨c7,X,h⟩:=Qc h
          obtain⟨c8,b8,h⟩:=Qc h
          obtain⟨m,b9,h⟩:=Qc h
          refine tg_ hC [.n 2,.K [1,3,4,5,6,7,8,9,10,13] [1,5,32,38,54,125]] rfl ?_
          refine AK.draw2 Qp hC mixed [.N,.N,.N,.N,.N,.a (.row (Qf c7)) none false,.N,.a (.row (Qb c8)) none false,.N,.a (.row (QU m)) none false,.N,.N,.N] [] [] [1,3,4,5,6,7,8,9,10,13,14] [1,5,32,38,54,125] rfl rfl rfl ⟨⟨⟨⟨tt_,(Qcp X rfl)⟩,(Qbl (QcP X).2)⟩,(QA b8)⟩,(QA b9)⟩ rfl (by kernel_rfl) rfl rfl rfl ?_
          refine tg_ hC [.n 2] rfl ?_
          refine AK.meetX (fun σ=>σ=⟨[(1,.loc 1 0 0),(3,.own 125 i.length),(4,.I x),(5,.loc 5 0 0),(6,.own 32 f.length),(7,.own 38 c.length),(8,.I j),(9,.I k),(10,.own 54 w.length),(13,.I a3),(14,.I m.Place),(118,.b ((decide (0≤m.Place))&&(decide (m.Place<(w.length:Int)))))],[(1,.var (Qe p)),(5,.var (Qh g)),(32,.arr 1 (f.map Qf)),(38,.arr 1 (c.map Qf)),(54,.arr 1 (w.map Qb)),(125,.arr 1 (i.map Qf))]⟩) ?_ ?_
          ·refine tg_ hC [.n 4] rfl ?_
           rcases Qz (decide (0≤m.Place))with t | t
           ·refine Qa hC [.S 113 (.b true),.n 6,.S 118 (.b ((decide (0≤m.Place))&&(decide (m.Place<(w.length:Int))))),.K [1,3,4,5,6,7,8,9,10,13,14,118] [1,5,32,38,54,125]] rfl ⟨(tc_ t),(congrArg V.b (Qat t rfl))⟩ ?_
            exact AK.met rfl
           refine Qa hC [.S 113 (.b false),.n 6,.S 118 (.b ((decide (0≤m.Place))&&(decide (m.Place<(w.length:Int))))),.K [1,3,4,5,6,7,8,9,10,13,14,118] [1,5,32,38,54,125]] rfl ⟨(tc_ t),(congrArg V.b (Qbm t rfl))⟩ ?_
           exact AK.met rfl
          rintro σ rfl
          refine tg_ hC [.n 1] rfl ?_
          rcases Qq h with⟨G,h⟩|⟨G,h⟩
          ·obtain⟨a4,Y,h⟩:=Qc h
           obtain⟨c9,Z,h⟩:=Qc h
           refine Qa hC [.T,.n 4,.o (.row (Qb a4)),.n 2,.st (Qb c9) ((w.set m.Place.toNat (w64 (a4+1))).map Qb),.n 2,.S 10 (.own 54 (w.set m.Place.toNat (w64 (a4+1))).length),.K [1,3,4,5,6,7,8,9,10,13] [1,5,32,38,54,125]] rfl ⟨⟨⟨⟨⟨⟨tt_,G⟩,(Qcp Y rfl)⟩,(Qbl (QcP Y).2)⟩,(Qcp Z rfl)⟩,⟨(Qbl (QcP Z).2),Qi6 rfl⟩⟩,(congrArg (fun n=>V.own 54 n) (by simp))⟩ ?_
           exact AK.met (ex_ _ (an_ rfl h))
          refine Qa hC [.F,.n 2,.K [1,3,4,5,6,7,8,9,10,13] [1,5,32,38,54,125]] rfl ⟨tt_,G⟩ ?_
          exact AK.met (ex_ _ (an_ rfl h))
         rintro σ ⟨J,rfl,h⟩
         refine tg_ hC [.n 5,.K [1,3,4,5,6,7,8,9,10,13] [1,5,32,38,54,125]] rfl ?_
         cases h
         exact QJ rfl rfl
        cases h
        exact QK rfl (an_ rfl rfl)
       replace h:Qlz i k D=some o:=h
       rintro e σ ⟨rfl,rfl⟩
       obtain⟨c0,h⟩:=Qas h
       refine Qa hC [.n 5,.frz 54 (D.map Qb) [10,126] [],.v (.bd []) [] (.sl 1 (([D]:List (List Int)).map Qf)),.app ((i++([D]:List (List Int))).map Qf) (i++([D]:List (List Int))).length,.n 9,.K [1,3,4,5,6,7,8,9] [1,5,32,38,125]] rfl ⟨⟨⟨tt_,⟨⟨tt_,(QcQ Qg)⟩,(QcQ Qg)⟩⟩,rfl⟩,⟨Qg,Qc9 c0 Qg,QbS,QeC Qg⟩⟩ ?_
       cases h
       exact QJ rfl rfl
      refine Qa hC [.F,.n 2,.K [1,3,4,5,6,7,8] [1,5,32,38,125]] rfl ⟨tt_,z⟩ ?_
      cases h
      exact QK rfl (an_ rfl rfl)
     replace h:QlA j c2=some o:=h
     rintro e σ ⟨rfl,rfl⟩
     refine tg_ hC [.n 8,.K [1,3,4,5,6,7,8] [1,5,32,38,125]] rfl ?_
     cases h
     exact QJ rfl rfl
    cases h
    exact QK rfl (an_ rfl rfl)
   replace h:QkC x c1=some o:=h
   rintro e σ ⟨rfl,rfl⟩
   refine tg_ hC [.n 8,.K [1,3,4] [1,125]] rfl ?_
   cases h
   exact QJ rfl rfl
  refine Qa hC [.F,.n 2,.K [3] [125]] rfl ⟨tt_,a0⟩ ?_
  cases h
  exact QK rfl (an_ rfl rfl)
 replace h:QkD l8=some r:=h
 rintro e σ ⟨rfl,rfl⟩
 refine tg_ hC [.n 9,.K [2] [125],.ren 125 600] rfl ?_
 cases h
 exact d1_ rfl rfl ⟨rfl,tt_⟩
def Qfd (b:Int)(a:(List Int)):Option ((Int×(List Int))⊕(List Int)):=
 some (.inl ((w64 (b+1)),a))
def QlB (in_17:Bool)(e:Qm)(a:Int)(b:Int)(f:Int):Option Bool:=
 bif in_17 then
 some true
 else
 (idx e.Tasks a).bind fun c=>
 (idx c.Cancel b).bind fun d=>
 some (d==f)
def Qfe (a:Int)(in_24:Bool):Option ((Bool×Int)⊕Bool):=
 some (.inl (in_24,(w64 (a+1))))
def Qa7 (d:Qm)(b:Int)(e:Int)(in_17:Bool)(a:Int):Option ((Bool×Int)⊕Bool):=
 (idx d.Tasks b).bind fun c=>
 bif (decide (a<(c.Cancel.length:Int)))then
 (QlB in_17 d b a e).bind (fun in_24=>Qfe a in_24)
 else
 some (.inr in_17)
def Qh3 (a:Int)(in_21:Bool):Option ((Bool×Int)⊕Bool):=
 some (.inl (in_21,(w64 (a+1))))
def Qa8 (b:Qm)(c:Int)(in_11:Bool)(a:Int):Option ((Bool×Int)⊕Bool):=
 bif (decide (a<(b.Tasks.length:Int)))then
 (Qt (fun st=>Qa7 b a c st.1 st.2) (in_11,0)).bind (fun q=>Qh3 a q)
 else
 some (.inr in_11)
def Qh4 (b:(List Int))(a:Int)(in_15:Bool):Option ((Int×(List Int))⊕(List Int)):=
 bif in_15 then
 (chk (decide (b.length+([a]:List Int).length≤4294967296))).bind fun _=>
 Qfd a (b++([a]:List Int))
 else
 Qfd a b
def Qcl (b:Qm)(a:Int)(c:(List Int)):Option ((Int×(List Int))⊕(List Int)):=
 bif (decide (a<(b.Places.length:Int)))then
 (Qt (fun st=>Qa8 b a st.1 st.2) (false,0)).bind (fun q=>Qh4 c a q)
 else
 some (.inr c)
def QlC (a:(List Int)):Option (List Int):=
 some a
def QdR (a:Qm):Option (List Int):=
 (Qt (fun st=>Qcl a st.1 st.2) (0,([]:List Int))).bind (fun q=>QlC q)
theorem Qcm (a){r}(h:QdR a=some r):Qd prog 19 [.agg (Qe a)] [] (Qj (.own 600 r.length) [(600,.arr 1 (r.map Qb))]):=by
 refine Qd.walk 53 func19 rfl rfl rfl fun C hC=>?_
 refine Qa hC [.n 18,.adopt 3 48 1,.O 48 (.arr 1 (([]:List Int).map Qb)),.S 3 (.own 48 ([]:List Int).length),.K [1,3,4] [1,48]] rfl ⟨⟨tt_,rfl⟩,(congrArg (fun n=>V.own 48 n) (by simp))⟩ ?_
 obtain⟨G,s,h⟩:=Qc h
 refine AK.loop (body:=(fun st=>Qcl a st.1 st.2)) (fun st σ=>σ=⟨[(1,.loc 1 0 0),(3,.own 48 st.2.length),(4,.I st.1)],[(1,.var (Qe a)),(48,.arr 1 (st.2.map Qb))]⟩) (fun q e σ=>e=.exit 0∧σ=⟨[(3,.own 48 q.length)],[(48,.arr 1 (q.map Qb))]⟩) s rfl ?_ ?_
 ·rintro ⟨c,d⟩ o σ rfl h
  refine Qa hC [.n 6,.o (.ln a.Places.length),.n 3] rfl ⟨tt_,Qg⟩ ?_
  refine bg_ h (fun m h=>Qa hC [.T,.n 2] rfl ⟨tt_,m⟩ ?_) fun m h=>Qa hC [.F,.n 2,.K [3] [48]] rfl ⟨tt_,m⟩ ?_
  ·refine AK.meet (fun σ=>∃l:(List Int),σ=⟨[(1,.loc 1 0 0),(3,.own 48 l.length),(4,.I c)],[(1,.var (Qe a)),(48,.arr 1 (l.map Qb))]⟩∧Qfd c l=some o) ?_ ?_
   ·refine tg_ hC [.n 13,.K [1,3,4,5,6] [1,48]] rfl ?_
    obtain⟨in_15,t,h⟩:=Qc h
    refine AK.loop (body:=(fun st=>Qa8 a c st.1 st.2)) (fun st σ=>σ=⟨[(1,.loc 1 0 0),(3,.own 48 d.length),(4,.I c),(5,.b st.1),(6,.I st.2)],[(1,.var (Qe a)),(48,.arr 1 (d.map Qb))]⟩) (fun q e σ=>e=.exit 2∧σ=⟨[(1,.loc 1 0 0),(3,.own 48 d.length),(4,.I c),(5,.b q)],[(1,.var (Qe a)),(48,.arr 1 (d.map Qb))]⟩) t rfl ?_ ?_
    ·rintro ⟨in_11,f⟩ o σ rfl h
     refine Qa hC [.n 6,.o (.ln a.Tasks.length),.n 3] rfl ⟨tt_,Qg⟩ ?_
     refine bg_ h (fun g h=>Qa hC [.T,.n 10,.K [1,3,4,5,6,7] [1,48]] rfl ⟨tt_,g⟩ ?_) fun g h=>Qa hC [.F,.n 2,.K [1,3,4,5] [1,48]] rfl ⟨tt_,g⟩ ?_
     ·obtain⟨in_21,u,h⟩:=Qc h
      refine AK.loop (body:=(fun st=>Qa7 a f c st.1 st.2)) (fun st σ=>σ=⟨[(1,.loc 1 0 0),(3,.own 48 d.length),(4,.I c),(5,.b st.1),(6,.I f),(7,.I st.2)],[(1,.var (Qe a)),(48,.arr 1 (d.map Qb))]⟩) (fun q e σ=>e=.exit 4∧σ=⟨[(1,.loc 1 0 0),(3,.own 48 d.length),(4,.I c),(5,.b q),(6,.I f)],[(1,.var (Qe a)),(48,.arr 1 (d.map Qb))]⟩) u rfl ?_ ?_
      ·rintro ⟨in_17,p⟩ o σ rfl h
       obtain⟨w,x,h⟩:=Qc h
       refine Qa hC [.n 7,.o (.row (Qh w)),.n 2,.o (.ln w.Cancel.length),.n 3] rfl ⟨⟨tt_,(QA x)⟩,Qg⟩ ?_
       refine bg_ h (fun i h=>Qa hC [.T,.n 4] rfl ⟨tt_,i⟩ ?_) fun i h=>Qa hC [.F,.n 2,.K [1,3,4,5,6] [1,48]] rfl ⟨tt_,i⟩ ?_
       ·obtain⟨in_24,y,h⟩:=Qc h
        replace h:Qfe p in_24=some o:=h
        refine AK.meetX (fun σ=>σ=⟨[(1,.loc 1 0 0),(3,.own 48 d.length),(4,.I c),(5,.b in_24),(6,.I f),(7,.I p)],[(1,.var (Qe a)),(48,.arr 1 (d.map Qb))]⟩) ?_ ?_
        ·replace h:=y
         refine tg_ hC [.n 3] rfl ?_
         rcases Qq h with⟨j,h⟩|⟨j,h⟩
         ·refine Qa hC [.S 34 (.b true),.n 14,.K [1,3,4,5,6,7] [1,48]] rfl (tc_ j) ?_
          cases h
          exact AK.met rfl
         obtain⟨D,z,h⟩:=Qc h
         obtain⟨E,A,h⟩:=Qc h
         refine Qa hC [.S 34 (.b false),.n 3,.o (.row (Qh D)),.n 3,.o (.row (Qb E)),.n 6,.K [1,3,4,5,6,7] [1,48]] rfl ⟨⟨(tc_ j),(QA z)⟩,(QA A)⟩ ?_
         cases h
         exact AK.met rfl
        rintro σ rfl
        replace h:Qfe p in_24=some o:=h
        refine tg_ hC [.n 7,.K [1,3,4,5,6,7] [1,48]] rfl ?_
        cases h
        exact QJ rfl rfl
       cases h
       exact QK rfl (an_ rfl rfl)
      replace h:Qh3 f in_21=some o:=h
      rintro e σ ⟨rfl,rfl⟩
      refine tg_ hC [.n 8,.K [1,3,4,5,6] [1,48]] rfl ?_
      cases h
      exact QJ rfl rfl
     cases h
     exact QK rfl (an_ rfl rfl)
    replace h:Qh4 d c in_15=some o:=h
    rintro e σ ⟨rfl,rfl⟩
    refine tg_ hC [.n 7] rfl ?_
    rcases Qq h with⟨k,h⟩|⟨k,h⟩
    ·obtain⟨B,h⟩:=Qas h
     refine Qa hC [.T,.n 3,.v (.bd []) [] (.sl 1 (([c]:List Int).map Qb)),.app ((d++([c]:List Int)).map Qb) (d++([c]:List Int)).length,.n 3,.K [1,3,4] [1,48]] rfl ⟨⟨⟨tt_,k⟩,rfl⟩,⟨Qg,Qc9 B Qg,QbS,QeC Qg⟩⟩ ?_
     exact AK.met (ex_ _ (an_ rfl h))
    refine Qa hC [.F,.n 2,.K [1,3,4] [1,48]] rfl ⟨tt_,k⟩ ?_
    exact AK.met (ex_ _ (an_ rfl h))
   rintro σ ⟨l,rfl,h⟩
   refine tg_ hC [.n 5,.K [1,3,4] [1,48]] rfl ?_
   cases h
   exact QJ rfl rfl
  cases h
  exact QK rfl (an_ rfl rfl)
 replace h:QlC G=some r:=h
 rintro e σ ⟨rfl,rfl⟩
 refine tg_ hC [.n 9,.K [2] [48],.ren 48 600] rfl ?_
 cases h
 exact d1_ rfl rfl ⟨rfl,tt_⟩
def Qcb (d:(List Int))(e:(List Int))(a:Int):Option (Int⊕(Unit⊕Unit)):=
 bif (decide (a<(d.length:Int)))then
 (idx d a).bind fun b=>
 (idx e b).bind fun c=>
 bif (c != 0)then
 some (.inr (.inl ()))
 else
 some (.inl (w64 (a+1)))
 else
 some (.inr (.inr ()))
def Qng : Option Bool:=
 some false
def Qcc (b:QLL)(e:(List Int))(a:Int):Option (Int⊕(Unit⊕Unit)):=
 bif (decide (a<(b.length:Int)))then
 (idx b a).bind fun d=>
 (Qjj e d).bind fun c=>
 bif ((c.1 != 0)||(c.2 != 0))then
 some (.inr (.inl ()))
 else
 some (.inl (w64 (a+1)))
 else
 some (.inr (.inr ()))
def Qnh : Option Bool:=
 some false
def Qni : Option Bool:=
 some true
def QjY (b:Qm)(c:(List Int)):Option Bool:=
 (Qfc b).bind fun a=>
 (Qt (fun st=>Qcc a c st) 0).bind (Sum.elim (fun q=>Qnh) (fun q=>Qni))
def QjH (a:Qm)(b:(List Int)):Option Bool:=
 bif ((b.length:Int) != (a.Places.length:Int))then
 some false
 else
 (QdR a).bind fun c=>
 (Qt (fun st=>Qcb c b st) 0).bind (Sum.elim (fun q=>Qng) (fun q=>QjY a b))
theorem QgF (m l){r}(h:QjH m l=some r):Qd prog 21 [.agg (Qe m),.sl 1 (l.map Qb)] [] (Qj (.b r) []):=by
 refine Qd.walk 56 func21 rfl rfl rfl fun C hC=>?_
 refine Qa hC [.n 10,.o (.ln l.length),.n 2,.o (.ln m.Places.length),.n 3] rfl ⟨⟨tt_,Qg⟩,Qg⟩ ?_
 rcases Qq h with⟨t,h⟩|⟨t,h⟩
 ·refine Qa hC [.T,.n 7] rfl ⟨tt_,t⟩ ?_
  cases h
  exact d1_ rfl rfl tt_
 obtain⟨w,D,h⟩:=Qc h
 refine Qa hC [.F,.n 4,.v .no [] (.agg (Qe m)),.o (.co false [.d] 1 (w.map Qb) w.length),.n 10,.K [1,2,5,6] [2,18]] rfl ⟨⟨⟨tt_,t⟩,rfl⟩,⟨(Qcm _ D),Qg,.inl rfl⟩⟩ ?_
 obtain⟨E,x,h⟩:=Qc h
 refine AK.loop (body:=(fun st=>Qcb w l st)) (fun st σ=>σ=⟨[(1,.sl 1 (l.map Qb)),(2,.loc 2 0 0),(5,.own 18 w.length),(6,.I st)],[(2,.var (Qe m)),(18,.arr 1 (w.map Qb))]⟩) (Sum.elim (fun q e σ=>e=.ret∧σ=⟨[(4,.b false)],[]⟩) (fun q e σ=>e=.exit 0∧σ=⟨[(1,.sl 1 (l.map Qb)),(2,.loc 2 0 0)],[(2,.var (Qe m))]⟩)) x rfl ?_ ?_
 ·rintro N o σ rfl h
  refine tg_ hC [.n 9] rfl ?_
  rcases Qq h with⟨u,h⟩|⟨u,h⟩
  ·obtain⟨G,p,h⟩:=Qc h
   obtain⟨H,y,h⟩:=Qc h
   refine Qa hC [.T,.n 10,.o (.row (Qb G)),.o (.row (Qb H)),.n 4] rfl ⟨⟨⟨⟨tt_,u⟩,(Qcp p rfl)⟩,(Qbl (QcP p).2)⟩,(QA y)⟩ ?_
   refine bg_ h (fun i h=>Qa hC [.T,.n 8,.K [4] []] rfl ⟨tt_,i⟩ ?_) fun i h=>Qa hC [.F,.n 8,.K [1,2,5,6] [2,18]] rfl ⟨tt_,i⟩ ?_
   ·cases h
    exact QaH rfl (an_ rfl rfl)
   cases h
   exact QJ rfl rfl
  refine Qa hC [.F,.n 2,.K [1,2] [2]] rfl ⟨tt_,u⟩ ?_
  cases h
  exact QK rfl (an_ rfl rfl)
 rcases E with(_ | _)
 ·replace h:Qng=some r:=h
  rintro e σ ⟨rfl,rfl⟩
  refine tg_ hC [.n 2] rfl ?_
  cases h
  exact d1_ rfl rfl tt_
 replace h:QjY m l=some r:=h
 rintro e σ ⟨rfl,rfl⟩
 obtain⟨g,z,h⟩:=Qc h
 refine Qa hC [.n 4,.v .no [] (.agg (Qe m)),.o (.co false [.d] 1 (g.map Qf) g.length),.n 10,.K [1,7,8] [34]] rfl ⟨⟨tt_,rfl⟩,⟨(QbH _ z),Qg,.inl rfl⟩⟩ ?_
 obtain⟨J,A,h⟩:=Qc h
 refine AK.loop (body:=(fun st=>Qcc g l st)) (fun st σ=>σ=⟨[(1,.sl 1 (l.map Qb)),(7,.own 34 g.length),(8,.I st)],[(34,.arr 1 (g.map Qf))]⟩) (Sum.elim (fun q e σ=>e=.ret∧σ=⟨[(4,.b false)],[]⟩) (fun q e σ=>e=.exit 2∧σ=⟨[],[]⟩)) A rfl ?_ ?_
 ·rintro L o σ rfl h
  refine tg_ hC [.n 9] rfl ?_
  rcases Qq h with⟨j,h⟩|⟨j,h⟩
  ·obtain⟨M,s,h⟩:=Qc h
   obtain⟨a,B,h⟩:=Qc h
   refine Qa hC [.T,.n 10,.o (.row (Qf M)),.o (.c false [.d,.d] (.tup [.I a.1,.I a.2])),.n 8] rfl ⟨⟨⟨⟨tt_,j⟩,(Qcp s rfl)⟩,(Qbl (QcP s).2)⟩,(QoH _ _ B)⟩ ?_
   refine AK.meetX (fun σ=>σ=⟨[(1,.sl 1 (l.map Qb)),(7,.own 34 g.length),(8,.I L),(55,.b ((a.1 != 0)||(a.2 != 0)))],[(34,.arr 1 (g.map Qf))]⟩) ?_ ?_
   ·refine tg_ hC [.n 4] rfl ?_
    rcases Qz (a.1 != 0)with f | f
    ·refine Qa hC [.S 52 (.b true),.n 4,.S 55 (.b ((a.1 != 0)||(a.2 != 0))),.K [1,7,8,55] [34]] rfl ⟨(tc_ f),(congrArg V.b (orT f rfl))⟩ ?_
     exact AK.met rfl
    refine Qa hC [.S 52 (.b false),.n 4,.S 55 (.b ((a.1 != 0)||(a.2 != 0))),.K [1,7,8,55] [34]] rfl ⟨(tc_ f),(congrArg V.b (orF f rfl))⟩ ?_
    exact AK.met rfl
   rintro σ rfl
   refine tg_ hC [.n 1] rfl ?_
   refine bg_ h (fun k h=>Qa hC [.T,.n 8,.K [4] []] rfl ⟨tt_,k⟩ ?_) fun k h=>Qa hC [.F,.n 8,.K [1,7,8] [34]] rfl ⟨tt_,k⟩ ?_
   ·cases h
    exact QaH rfl (an_ rfl rfl)
   cases h
   exact QJ rfl rfl
  refine Qa hC [.F,.n 2,.K [] []] rfl ⟨tt_,j⟩ ?_
  cases h
  exact QK rfl (an_ rfl rfl)
 rcases J with(_ | _)
 ·replace h:Qnh=some r:=h
  rintro e σ ⟨rfl,rfl⟩
  refine tg_ hC [.n 2] rfl ?_
  cases h
  exact d1_ rfl rfl tt_
 replace h:Qni=some r:=h
 rintro e σ ⟨rfl,rfl⟩
 refine tg_ hC [.n 8] rfl ?_
 cases h
 exact d1_ rfl rfl tt_
def Qff (b:Int)(a:(List Int)):Option ((Int×(List Int))⊕(List Int)):=
 some (.inl ((w64 (b+1)),a))
def QlD (e:QLL)(a:Int)(f:Int):Option Bool:=
 (idx e a).bind fun b=>
 bif (decide (f<(b.length:Int)))then
 (idx e a).bind fun c=>
 (idx c f).bind fun d=>
 some (decide (0<d))
 else
 some false
def Qh5 (e:QLL)(b:Int)(c:Int)(a:Bool):Option Bool:=
 (idx e b).bind fun d=>
 bif (decide (c<(d.length:Int)))then
 some a
 else
 some false
def QdC (g:QLL)(c:Int)(b:Int)(a:Bool)(d:Bool):Option ((Bool×Int)⊕Bool):=
 bif d then
 (idx g c).bind fun e=>
 (idx e b).bind fun f=>
 some (.inl ((decide (0≤f)),(w64 (b+1))))
 else
 some (.inr a)
def Qa9 (e:QLL)(b:Int)(a:Bool)(c:Int):Option ((Bool×Int)⊕Bool):=
 (Qh5 e b c a).bind (fun d=>QdC e b c a d)
def Qfg (in_14:Bool)(b:Int)(a:Bool):Option ((Bool×Int)⊕Bool):=
 some (.inl ((in_14||a),(w64 (b+1))))
def Qfh (c:QLL)(b:Int)(in_14:Bool)(a:Bool):Option ((Bool×Int)⊕Bool):=
 (Qt (fun st=>Qa9 c b st.1 st.2) (a,0)).bind (fun q=>Qfg in_14 b q)
def Qba (c:QLL)(d:Int)(in_14:Bool)(b:Int):Option ((Bool×Int)⊕Bool):=
 bif (decide (b<(c.length:Int)))then
 (QlD c b d).bind (fun a=>Qfh c b in_14 a)
 else
 some (.inr in_14)
def Qh6 (b:(List Int))(a:Int)(in_18:Bool):Option ((Int×(List Int))⊕(List Int)):=
 bif in_18 then
 (chk (decide (b.length+([a]:List Int).length≤4294967296))).bind fun _=>
 Qff a (b++([a]:List Int))
 else
 Qff a b
def QbT (a:Int)(d:QLL)(b:Int)(c:(List Int)):Option ((Int×(List Int))⊕(List Int)):=
 bif ((decide (b<a))&&(decide (b<1000)))then
 (Qt (fun st=>Qba d b st.1 st.2) (false,0)).bind (fun q=>Qh6 c b q)
 else
 some (.inr c)
def QkE (a:(List Int)):Option (List Int):=
 some a
def QhD (b:QLL)(a:Int):Option (List Int):=
 (Qt (fun st=>QbT a b st.1 st.2) (0,([]:List Int))).bind (fun q=>QkE q)
theorem Qqr (g a){r}(h:QhD g a=some r):Qd prog 23 [.sl 1 (g.map Qf),.I a] [] (Qj (.own 600 r.length) [(600,.arr 1 (r.map Qb))]):=by
 refine Qd.walk 73 func23 rfl rfl rfl fun C hC=>?_
 refine Qa hC [.n 17,.adopt 5 68 1,.O 68 (.arr 1 (([]:List Int).map Qb)),.S 5 (.own 68 ([]:List Int).length),.K [0,1,5,6] [68]] rfl ⟨⟨tt_,rfl⟩,(congrArg (fun n=>V.own 68 n) (by simp))⟩ ?_
 obtain⟨l9,B,h⟩:=Qc h
 refine AK.loop (body:=(fun st=>QbT a g st.1 st.2)) (fun st σ=>σ=⟨[(0,.sl 1 (g.map Qf)),(1,.I a),(5,.own 68 st.2.length),(6,.I st.1)],[(68,.arr 1 (st.2.map Qb))]⟩) (fun q e σ=>e=.exit 0∧σ=⟨[(5,.own 68 q.length)],[(68,.arr 1 (q.map Qb))]⟩) B rfl ?_ ?_
 ·rintro ⟨f,i⟩ o σ rfl h
  refine tg_ hC [.n 2] rfl ?_
  refine AK.meetX (fun σ=>σ=⟨[(0,.sl 1 (g.map Qf)),(1,.I a),(5,.own 68 i.length),(6,.I f),(17,.b ((decide (f<a))&&(decide (f<1000))))],[(68,.arr 1 (i.map Qb))]⟩) ?_ ?_
  ·refine tg_ hC [.n 5] rfl ?_
   rcases Qz (decide (f<a))with l | l
   ·refine Qa hC [.S 14 (.b true),.n 4,.S 17 (.b ((decide (f<a))&&(decide (f<1000)))),.K [0,1,5,6,17] [68]] rfl ⟨(tc_ l),(congrArg V.b (Qat l rfl))⟩ ?_
    exact AK.met rfl
   refine Qa hC [.S 14 (.b false),.n 4,.S 17 (.b ((decide (f<a))&&(decide (f<1000)))),.K [0,1,5,6,17] [68]] rfl ⟨(tc_ l),(congrArg V.b (Qbm l rfl))⟩ ?_
   exact AK.met rfl
  rintro σ rfl
  refine tg_ hC [.n 1] rfl ?_
  refine bg_ h (fun p h=>Qa hC [.T,.n 2] rfl ⟨tt_,p⟩ ?_) fun p h=>Qa hC [.F,.n 2,.K [5] [68]] rfl ⟨tt_,p⟩ ?_
  ·refine AK.meet (fun σ=>∃y:(List Int),σ=⟨[(0,.sl 1 (g.map Qf)),(1,.I a),(5,.own 68 y.length),(6,.I f)],[(68,.arr 1 (y.map Qb))]⟩∧Qff f y=some o) ?_ ?_
   ·refine tg_ hC [.n 13,.K [0,1,5,6,7,8] [68]] rfl ?_
    obtain⟨in_18,D,h⟩:=Qc h
    refine AK.loop (body:=(fun st=>Qba g f st.1 st.2)) (fun st σ=>σ=⟨[(0,.sl 1 (g.map Qf)),(1,.I a),(5,.own 68 i.length),(6,.I f),(7,.b st.1),(8,.I st.2)],[(68,.arr 1 (i.map Qb))]⟩) (fun q e σ=>e=.exit 2∧σ=⟨[(0,.sl 1 (g.map Qf)),(1,.I a),(5,.own 68 i.length),(6,.I f),(7,.b q)],[(68,.arr 1 (i.map Qb))]⟩) D rfl ?_ ?_
    ·rintro ⟨in_14,d⟩ o σ rfl h
     refine Qa hC [.n 5,.o (.ln g.length),.n 3] rfl ⟨tt_,Qg⟩ ?_
     refine bg_ h (fun s h=>Qa hC [.T,.n 5] rfl ⟨tt_,s⟩ ?_) fun s h=>Qa hC [.F,.n 2,.K [0,1,5,6,7] [68]] rfl ⟨tt_,s⟩ ?_
     ·obtain⟨j,E,h⟩:=Qc h
      replace h:Qfh g d in_14 j=some o:=h
      refine AK.meetX (fun σ=>σ=⟨[(0,.sl 1 (g.map Qf)),(1,.I a),(5,.own 68 i.length),(6,.I f),(7,.b in_14),(8,.I d),(9,.b j)],[(68,.arr 1 (i.map Qb))]⟩) ?_ ?_
      ·replace h:=E
       obtain⟨G,H,h⟩:=Qc h
       refine Qa hC [.n 4,.o (.row (Qf G)),.n 1,.o (.ln G.length),.n 2] rfl ⟨⟨tt_,(QA H)⟩,Qg⟩ ?_
       rcases Qq h with⟨t,h⟩|⟨t,h⟩
       ·obtain⟨Z,J,h⟩:=Qc h
        obtain⟨a0,L,h⟩:=Qc h
        refine Qa hC [.S 33 (.b true),.n 2,.o (.row (Qf Z)),.n 2,.o (.row (Qb a0)),.n 5,.K [0,1,5,6,7,8,9] [68]] rfl ⟨⟨(tc_ t),(QA J)⟩,(QA L)⟩ ?_
        cases h
        exact AK.met rfl
       refine Qa hC [.S 33 (.b false),.n 11,.K [0,1,5,6,7,8,9] [68]] rfl (tc_ t) ?_
       cases h
       exact AK.met rfl
      rintro σ rfl
      replace h:Qfh g d in_14 j=some o:=h
      refine tg_ hC [.n 8,.K [0,1,5,6,7,8,9,10] [68]] rfl ?_
      obtain⟨c,M,h⟩:=Qc h
      refine AK.loop (body:=(fun st=>Qa9 g d st.1 st.2)) (fun st σ=>σ=⟨[(0,.sl 1 (g.map Qf)),(1,.I a),(5,.own 68 i.length),(6,.I f),(7,.b in_14),(8,.I d),(9,.b st.1),(10,.I st.2)],[(68,.arr 1 (i.map Qb))]⟩) (fun q e σ=>e=.exit 4∧σ=⟨[(0,.sl 1 (g.map Qf)),(1,.I a),(5,.own 68 i.length),(6,.I f),(7,.b in_14),(8,.I d),(9,.b q)],[(68,.arr 1 (i.map Qb))]⟩) M rfl ?_ ?_
      ·rintro ⟨k,z⟩ o σ rfl h
       refine tg_ hC [.n 2] rfl ?_
       obtain⟨A,N,h⟩:=Qc h
       replace h:QdC g d z k A=some o:=h
       refine AK.meetX (fun σ=>σ=⟨[(0,.sl 1 (g.map Qf)),(1,.I a),(5,.own 68 i.length),(6,.I f),(7,.b in_14),(8,.I d),(9,.b k),(10,.I z),(52,.b A)],[(68,.arr 1 (i.map Qb))]⟩) ?_ ?_
       ·replace h:=N
        obtain⟨P,U,h⟩:=Qc h
        refine Qa hC [.n 4,.o (.row (Qf P)),.n 1,.o (.ln P.length),.n 2] rfl ⟨⟨tt_,(QA U)⟩,Qg⟩ ?_
        refine bg_ h (fun u h=>Qa hC [.S 50 (.b true),.n 3,.K [0,1,5,6,7,8,9,10,52] [68]] rfl (tc_ u) ?_) fun u h=>Qa hC [.S 50 (.b false),.n 3,.K [0,1,5,6,7,8,9,10,52] [68]] rfl (tc_ u) ?_
        ·cases h
         exact AK.met rfl
        cases h
        exact AK.met rfl
       rintro σ rfl
       replace h:QdC g d z k A=some o:=h
       refine tg_ hC [.n 1] rfl ?_
       rcases Qq h with⟨w,h⟩|⟨w,h⟩
       ·obtain⟨a1,W,h⟩:=Qc h
        obtain⟨a2,X,h⟩:=Qc h
        refine Qa hC [.T,.n 7,.o (.row (Qf a1)),.n 2,.o (.row (Qb a2)),.n 11,.K [0,1,5,6,7,8,9,10] [68]] rfl ⟨⟨⟨tt_,w⟩,(QA W)⟩,(QA X)⟩ ?_
        cases h
        exact QJ rfl rfl
       refine Qa hC [.F,.n 2,.K [0,1,5,6,7,8,9] [68]] rfl ⟨tt_,w⟩ ?_
       cases h
       exact QK rfl (an_ rfl rfl)
      replace h:Qfg in_14 d c=some o:=h
      rintro e σ ⟨rfl,rfl⟩
      refine tg_ hC [.n 2] rfl ?_
      refine AK.meetX (fun σ=>σ=⟨[(0,.sl 1 (g.map Qf)),(1,.I a),(5,.own 68 i.length),(6,.I f),(7,.b (in_14||c)),(8,.I d)],[(68,.arr 1 (i.map Qb))]⟩) ?_ ?_
      ·refine tg_ hC [.n 3] rfl ?_
       rcases Qz in_14 with m | m
       ·refine Qa hC [.S 64 (.b true),.n 4,.S 7 (.b (in_14||c)),.K [0,1,5,6,7,8] [68]] rfl ⟨(tc_ m),(congrArg V.b (orT m rfl))⟩ ?_
        exact AK.met rfl
       refine Qa hC [.S 64 (.b false),.n 4,.S 7 (.b (in_14||c)),.K [0,1,5,6,7,8] [68]] rfl ⟨(tc_ m),(congrArg V.b (orF m rfl))⟩ ?_
       exact AK.met rfl
      rintro σ rfl
      refine tg_ hC [.n 7,.K [0,1,5,6,7,8] [68]] rfl ?_
      cases h
      exact QJ rfl rfl
     cases h
     exact QK rfl (an_ rfl rfl)
    replace h:Qh6 i f in_18=some o:=h
    rintro e σ ⟨rfl,rfl⟩
    refine tg_ hC [.n 7] rfl ?_
    rcases Qq h with⟨x,h⟩|⟨x,h⟩
    ·obtain⟨Y,h⟩:=Qas h
     refine Qa hC [.T,.n 3,.v (.bd []) [] (.sl 1 (([f]:List Int).map Qb)),.app ((i++([f]:List Int)).map Qb) (i++([f]:List Int)).length,.n 3,.K [0,1,5,6] [68]] rfl ⟨⟨⟨tt_,x⟩,rfl⟩,⟨Qg,Qc9 Y Qg,QbS,QeC Qg⟩⟩ ?_
     exact AK.met (ex_ _ (an_ rfl h))
    refine Qa hC [.F,.n 2,.K [0,1,5,6] [68]] rfl ⟨tt_,x⟩ ?_
    exact AK.met (ex_ _ (an_ rfl h))
   rintro σ ⟨y,rfl,h⟩
   refine tg_ hC [.n 5,.K [0,1,5,6] [68]] rfl ?_
   cases h
   exact QJ rfl rfl
  cases h
  exact QK rfl (an_ rfl rfl)
 replace h:QkE l9=some r:=h
 rintro e σ ⟨rfl,rfl⟩
 refine tg_ hC [.n 9,.K [4] [68],.ren 68 600] rfl ?_
 cases h
 exact d1_ rfl rfl ⟨rfl,tt_⟩
def Qj7 (q:Bool)(b:Qm)(e:(List Int))(c:(Int×Int))(d:(Int×Int))(a:Int):Option Bool:=
 bif q then
 (Qbw b).bind fun f=>
 (Qfc b).bind fun g=>
 (QfT f g).bind fun h=>
 bif h then
 (QaL b).bind fun i=>
 (QdR b).bind fun j=>
 (Qdy i j).bind fun k=>
 bif k then
 (QdU b e).bind fun l=>
 (QjH b e).bind fun m=>
 bif (l==m)then
 bif (c.1==d.1)then
 bif (c.2==d.2)then
 (QdJ ([e,([1,0,2]:List Int)]:List (List Int)) a).bind fun n=>
 (QhD ([e,([1,0,2]:List Int)]:List (List Int)) a).bind fun o=>
 (Qdy n o).bind fun p=>
 some p
 else
 some false
 else
 some false
 else
 some false
 else
 some false
 else
 some false
 else
 some false
def QdS (a:Bool):Option Bool:=
 some a
def QdD (g:Qm)(b:(List Int))(c:QMk)(a:Int):Option Bool:=
 (Qjt).bind fun h=>
 (Qku g).bind fun i=>
 (QgY c).bind fun j=>
 bif ((!i)||((!j)||(decide (20<(b.length:Int)))))then
 some h
 else
 (QgM b c).bind fun d=>
 (QjG b c).bind fun e=>
 (Qj7 h g b d e a).bind (fun f=>QdS f)
theorem QoI (e H m3 j){r}(h:QdD e H m3 j=some r):Qd prog 3 [.agg (Qe e),.sl 1 (H.map Qb),.sl 1 (m3.map QbE),.I j] [] (Qj (.b r) []):=by
 refine Qd.walk 92 func3 rfl rfl rfl fun C hC=>?_
 obtain⟨x7,a9,h⟩:=Qc h
 obtain⟨X,b0,h⟩:=Qc h
 obtain⟨Y,b1,h⟩:=Qc h
 refine Qa hC [.n 8,.o (.c false [] (.b x7)),.n 5,.v .no [] (.agg (Qe e)),.o (.c false [.d] (.b X)),.n 6,.o (.c false [.d] (.b Y)),.n 5] rfl ⟨⟨⟨⟨tt_,(QrP  a9)⟩,rfl⟩,(QsS _ b0)⟩,(QtB _ b1)⟩ ?_
 refine AK.meetX (fun σ=>σ=⟨[(1,.sl 1 (H.map Qb)),(2,.sl 1 (m3.map QbE)),(3,.I j),(4,.loc 4 0 0),(9,.b x7),(32,.b ((!X)||((!Y)||(decide (20<(H.length:Int))))))],[(4,.var (Qe e))]⟩) ?_ ?_
 ·refine tg_ hC [.n 4] rfl ?_
  rcases Qz (!X)with p | p
  ·refine Qa hC [.S 24 (.b true),.n 9,.S 32 (.b ((!X)||((!Y)||(decide (20<(H.length:Int)))))),.K [1,2,3,4,9,32] [4]] rfl ⟨(tc_ p),(congrArg V.b (orT p rfl))⟩ ?_
   exact AK.met rfl
  refine Qa hC [.S 24 (.b false),.n 4] rfl (tc_ p) ?_
  rcases Qz (!Y)with w | w
  ·refine Qa hC [.S 28 (.b true),.n 5,.S 32 (.b ((!X)||((!Y)||(decide (20<(H.length:Int)))))),.K [1,2,3,4,9,32] [4]] rfl ⟨(tc_ w),(congrArg V.b (orF p (orT w rfl)))⟩ ?_
   exact AK.met rfl
  refine Qa hC [.S 28 (.b false),.n 1,.o (.ln H.length),.n 3,.S 32 (.b ((!X)||((!Y)||(decide (20<(H.length:Int)))))),.K [1,2,3,4,9,32] [4]] rfl ⟨⟨(tc_ w),Qg⟩,(congrArg V.b (orF p (orF w rfl)))⟩ ?_
  exact AK.met rfl
 rintro σ rfl
 refine tg_ hC [.n 1] rfl ?_
 rcases Qq h with⟨J,h⟩|⟨J,h⟩
 ·refine Qa hC [.T,.n 8] rfl ⟨tt_,J⟩ ?_
  cases h
  exact d1_ rfl rfl tt_
 obtain⟨Z,a0,h⟩:=Qc h
 obtain⟨a1,a2,h⟩:=Qc h
 refine Qa hC [.F,.n 6,.o (.c false [.d,.d] (.tup [.I Z.1,.I Z.2])),.n 11,.o (.c false [.d,.d] (.tup [.I a1.1,.I a1.2])),.n 10,.v (.bd []) [] (.sl 1 (([1,0,2]:List Int).map Qb)),.n 1,.O 48 (.arr 1 (([H,([1,0,2]:List Int)]:List (List Int)).map Qf)),.S 48 (.own 48 ([H,([1,0,2]:List Int)]:List (List Int)).length),.n 4,.frz 48 (([H,([1,0,2]:List Int)]:List (List Int)).map Qf) [16,48] []] rfl ⟨⟨⟨⟨⟨⟨⟨tt_,J⟩,(QmU _ _ a0)⟩,(Qr7 _ _ a2)⟩,rfl⟩,rfl⟩,rfl⟩,⟨⟨tt_,(QcQ Qg)⟩,(QcQ Qg)⟩⟩ ?_
 obtain⟨W,a3,h⟩:=Qc h
 replace h:QdS W=some r:=h
 refine AK.meetX (fun σ=>σ=⟨[(8,.b W)],[]⟩) ?_ ?_
 ·replace h:=a3
  refine tg_ hC [.K [1,3,4,9,12,13,14,15,16] [4]] rfl ?_
  rcases Qq h with⟨f,h⟩|⟨f,h⟩
  ·obtain⟨g,q,h⟩:=Qc h
   obtain⟨i,s,h⟩:=Qc h
   obtain⟨G,t,h⟩:=Qc h
   rcases Qq h with⟨k,h⟩|⟨k,h⟩
   ·obtain⟨l,x,h⟩:=Qc h
    obtain⟨m,y,h⟩:=Qc h
    obtain⟨L,z,h⟩:=Qc h
    rcases Qq h with⟨u,h⟩|⟨u,h⟩
    ·obtain⟨P,B,h⟩:=Qc h
     obtain⟨U,D,h⟩:=Qc h
     rcases Qq h with⟨A,h⟩|⟨A,h⟩
     ·rcases Qq h with⟨E,h⟩|⟨E,h⟩
      ·rcases Qq h with⟨M,h⟩|⟨M,h⟩
       ·obtain⟨a4,a5,h⟩:=Qc h
        obtain⟨a6,a7,h⟩:=Qc h
        obtain⟨b2,a8,h⟩:=Qc h
        refine AK.draw2 Qp hC mixed [.N,.a .no (some ([],.b true)) false,.a .no (some ([],.agg (Qe e))) false,.a (.cd false [.d] 1 (g.map Qf) g.length) none false,.a .no (some ([],.agg (Qe e))) false,.a (.cd false [.d] 1 (i.map Qf) i.length) none false,.a (.c false [.d,.d] (.b G)) none false,.N,.a .no (some ([],.b true)) false,.a .no (some ([],.agg (Qe e))) false,.a (.cd false [.d] 1 (l.map Qb) l.length) none false,.a .no (some ([],.agg (Qe e))) false,.a (.cd false [.d] 1 (m.map Qb) m.length) none false,.a (.c false [.d,.d] (.b L)) none false,.N,.a .no (some ([],.b true)) false,.a .no (some ([],.agg (Qe e))) false,.N,.a (.c false [.d,.d] (.b P)) none false,.a .no (some ([],.agg (Qe e))) false,.N,.a (.c false [.d,.d] (.b U)) none false,.N,.N,.a .no (some ([],.b true)) false,.N,.N,.N,.N,.a .no (some ([],.b true)) false,.N,.N,.N,.N,.a .no (some ([],.b true)) false,.N,.N,.a (.cd false [.d,.d] 1 (a4.map Qb) a4.length) none false,.N,.N,.a (.cd false [.d,.d] 1 (a6.map Qb) a6.length) none false,.a (.c false [.d,.d] (.b b2)) none false,.N,.N] [] [] [8] [] rfl rfl rfl ⟨⟨⟨⟨⟨⟨⟨⟨⟨⟨⟨⟨⟨⟨⟨⟨⟨⟨⟨⟨⟨⟨(tc_ f),rfl⟩,⟨(QaK _ q),Qg⟩⟩,rfl⟩,⟨(QbH _ s),Qg⟩⟩,(QbR _ _ t)⟩,(cb_ k)⟩,rfl⟩,⟨(Qa6 _ x),Qg⟩⟩,rfl⟩,⟨(Qcm _ y),Qg⟩⟩,(Qbx _ _ z)⟩,(cb_ u)⟩,rfl⟩,(Qb7 _ _ B)⟩,rfl⟩,(QgF _ _ D)⟩,(cb_ A)⟩,(cb_ E)⟩,(cb_ M)⟩,⟨(Qlp _ _ a5),Qg⟩⟩,⟨(Qqr _ _ a7),Qg⟩⟩,(Qbx _ _ a8)⟩ rfl (by kernel_rfl) rfl rfl rfl ?_
        refine tg_ hC [.K [8] []] rfl ?_
        cases h
        exact AK.met rfl
       refine AK.draw2 Qp hC mixed [.N,.a .no (some ([],.b true)) false,.a .no (some ([],.agg (Qe e))) false,.a (.cd false [.d] 1 (g.map Qf) g.length) none false,.a .no (some ([],.agg (Qe e))) false,.a (.cd false [.d] 1 (i.map Qf) i.length) none false,.a (.c false [.d,.d] (.b G)) none false,.N,.a .no (some ([],.b true)) false,.a .no (some ([],.agg (Qe e))) false,.a (.cd false [.d] 1 (l.map Qb) l.length) none false,.a .no (some ([],.agg (Qe e))) false,.a (.cd false [.d] 1 (m.map Qb) m.length) none false,.a (.c false [.d,.d] (.b L)) none false,.N,.a .no (some ([],.b true)) false,.a .no (some ([],.agg (Qe e))) false,.N,.a (.c false [.d,.d] (.b P)) none false,.a .no (some ([],.agg (Qe e))) false,.N,.a (.c false [.d,.d] (.b U)) none false,.N,.N,.a .no (some ([],.b true)) false,.N,.N,.N,.N,.a .no (some ([],.b true)) false,.N,.N,.N,.N,.a .no (some ([],.b false)) false,.N,.N,.N,.N,.N,.N,.N,.N,.N] [] [] [8] [] rfl rfl rfl ⟨⟨⟨⟨⟨⟨⟨⟨⟨⟨⟨⟨⟨⟨⟨⟨⟨⟨⟨(tc_ f),rfl⟩,⟨(QaK _ q),Qg⟩⟩,rfl⟩,⟨(QbH _ s),Qg⟩⟩,(QbR _ _ t)⟩,(cb_ k)⟩,rfl⟩,⟨(Qa6 _ x),Qg⟩⟩,rfl⟩,⟨(Qcm _ y),Qg⟩⟩,(Qbx _ _ z)⟩,(cb_ u)⟩,rfl⟩,(Qb7 _ _ B)⟩,rfl⟩,(QgF _ _ D)⟩,(cb_ A)⟩,(cb_ E)⟩,(cb_ M)⟩ rfl (by kernel_rfl) rfl rfl rfl ?_
       refine tg_ hC [.K [8] []] rfl ?_
       cases h
       exact AK.met rfl
      refine AK.draw2 Qp hC mixed [.N,.a .no (some ([],.b true)) false,.a .no (some ([],.agg (Qe e))) false,.a (.cd false [.d] 1 (g.map Qf) g.length) none false,.a .no (some ([],.agg (Qe e))) false,.a (.cd false [.d] 1 (i.map Qf) i.length) none false,.a (.c false [.d,.d] (.b G)) none false,.N,.a .no (some ([],.b true)) false,.a .no (some ([],.agg (Qe e))) false,.a (.cd false [.d] 1 (l.map Qb) l.length) none false,.a .no (some ([],.agg (Qe e))) false,.a (.cd false [.d] 1 (m.map Qb) m.length) none false,.a (.c false [.d,.d] (.b L)) none false,.N,.a .no (some ([],.b true)) false,.a .no (some ([],.agg (Qe e))) false,.N,.a (.c false [.d,.d] (.b P)) none false,.a .no (some ([],.agg (Qe e))) false,.N,.a (.c false [.d,.d] (.b U)) none false,.N,.N,.a .no (some ([],.b true)) false,.N,.N,.N,.N,.a .no (some ([],.b false)) false,.N,.N,.N,.N,.N,.N,.N,.N,.N,.N,.N,.N,.N,.N] [] [] [8] [] rfl rfl rfl ⟨⟨⟨⟨⟨⟨⟨⟨⟨⟨⟨⟨⟨⟨⟨⟨⟨⟨(tc_ f),rfl⟩,⟨(QaK _ q),Qg⟩⟩,rfl⟩,⟨(QbH _ s),Qg⟩⟩,(QbR _ _ t)⟩,(cb_ k)⟩,rfl⟩,⟨(Qa6 _ x),Qg⟩⟩,rfl⟩,⟨(Qcm _ y),Qg⟩⟩,(Qbx _ _ z)⟩,(cb_ u)⟩,rfl⟩,(Qb7 _ _ B)⟩,rfl⟩,(QgF _ _ D)⟩,(cb_ A)⟩,(cb_ E)⟩ rfl (by kernel_rfl) rfl rfl rfl ?_
      refine tg_ hC [.K [8] []] rfl ?_
      cases h
      exact AK.met rfl
     refine AK.draw2 Qp hC mixed [.N,.a .no (some ([],.b true)) false,.a .no (some ([],.agg (Qe e))) false,.a (.cd false [.d] 1 (g.map Qf) g.length) none false,.a .no (some ([],.agg (Qe e))) false,.a (.cd false [.d] 1 (i.map Qf) i.length) none false,.a (.c false [.d,.d] (.b G)) none false,.N,.a .no (some ([],.b true)) false,.a .no (some ([],.agg (Qe e))) false,.a (.cd false [.d] 1 (l.map Qb) l.length) none false,.a .no (some ([],.agg (Qe e))) false,.a (.cd false [.d] 1 (m.map Qb) m.length) none false,.a (.c false [.d,.d] (.b L)) none false,.N,.a .no (some ([],.b true)) false,.a .no (some ([],.agg (Qe e))) false,.N,.a (.c false [.d,.d] (.b P)) none false,.a .no (some ([],.agg (Qe e))) false,.N,.a (.c false [.d,.d] (.b U)) none false,.N,.N,.a .no (some ([],.b false)) false,.N,.N,.N,.N,.N,.N,.N,.N,.N,.N,.N,.N,.N,.N,.N,.N,.N,.N,.N] [] [] [8] [] rfl rfl rfl ⟨⟨⟨⟨⟨⟨⟨⟨⟨⟨⟨⟨⟨⟨⟨⟨⟨(tc_ f),rfl⟩,⟨(QaK _ q),Qg⟩⟩,rfl⟩,⟨(QbH _ s),Qg⟩⟩,(QbR _ _ t)⟩,(cb_ k)⟩,rfl⟩,⟨(Qa6 _ x),Qg⟩⟩,rfl⟩,⟨(Qcm _ y),Qg⟩⟩,(Qbx _ _ z)⟩,(cb_ u)⟩,rfl⟩,(Qb7 _ _ B)⟩,rfl⟩,(QgF _ _ D)⟩,(cb_ A)⟩ rfl (by kernel_rfl) rfl rfl rfl ?_
     refine tg_ hC [.K [8] []] rfl ?_
     cases h
     exact AK.met rfl
    refine AK.draw2 Qp hC mixed [.N,.a .no (some ([],.b true)) false,.a .no (some ([],.agg (Qe e))) false,.a (.cd false [.d] 1 (g.map Qf) g.length) none false,.a .no (some ([],.agg (Qe e))) false,.a (.cd false [.d] 1 (i.map Qf) i.length) none false,.a (.c false [.d,.d] (.b G)) none false,.N,.a .no (some ([],.b true)) false,.a .no (some ([],.agg (Qe e))) false,.a (.cd false [.d] 1 (l.map Qb) l.length) none false,.a .no (some ([],.agg (Qe e))) false,.a (.cd false [.d] 1 (m.map Qb) m.length) none false,.a (.c false [.d,.d] (.b L)) none false,.N,.a .no (some ([],.b false)) false,.N,.N,.N,.N,.N,.N,.N,.N,.N,.N,.N,.N,.N,.N,.N,.N,.N,.N,.N,.N,.N,.N,.N,.N,.N,.N,.N,.N] [] [] [8] [] rfl rfl rfl ⟨⟨⟨⟨⟨⟨⟨⟨⟨⟨⟨⟨(tc_ f),rfl⟩,⟨(QaK _ q),Qg⟩⟩,rfl⟩,⟨(QbH _ s),Qg⟩⟩,(QbR _ _ t)⟩,(cb_ k)⟩,rfl⟩,⟨(Qa6 _ x),Qg⟩⟩,rfl⟩,⟨(Qcm _ y),Qg⟩⟩,(Qbx _ _ z)⟩,(cb_ u)⟩ rfl (by kernel_rfl) rfl rfl rfl ?_
    refine tg_ hC [.K [8] []] rfl ?_
    cases h
    exact AK.met rfl
   refine AK.draw2 Qp hC mixed [.N,.a .no (some ([],.b true)) false,.a .no (some ([],.agg (Qe e))) false,.a (.cd false [.d] 1 (g.map Qf) g.length) none false,.a .no (some ([],.agg (Qe e))) false,.a (.cd false [.d] 1 (i.map Qf) i.length) none false,.a (.c false [.d,.d] (.b G)) none false,.N,.a .no (some ([],.b false)) false,.N,.N,.N,.N,.N,.N,.N,.N,.N,.N,.N,.N,.N,.N,.N,.N,.N,.N,.N,.N,.N,.N,.N,.N,.N,.N,.N,.N,.N,.N,.N,.N,.N,.N,.N] [] [] [8] [] rfl rfl rfl ⟨⟨⟨⟨⟨⟨(tc_ f),rfl⟩,⟨(QaK _ q),Qg⟩⟩,rfl⟩,⟨(QbH _ s),Qg⟩⟩,(QbR _ _ t)⟩,(cb_ k)⟩ rfl (by kernel_rfl) rfl rfl rfl ?_
   refine tg_ hC [.K [8] []] rfl ?_
   cases h
   exact AK.met rfl
  refine AK.draw2 Qp hC mixed [.N,.a .no (some ([],.b false)) false,.N,.N,.N,.N,.N,.N,.N,.N,.N,.N,.N,.N,.N,.N,.N,.N,.N,.N,.N,.N,.N,.N,.N,.N,.N,.N,.N,.N,.N,.N,.N,.N,.N,.N,.N,.N,.N,.N,.N,.N,.N,.N] [] [] [8] [] rfl rfl rfl (tc_ f) rfl (by kernel_rfl) rfl rfl rfl ?_
  refine tg_ hC [.K [8] []] rfl ?_
  cases h
  exact AK.met rfl
 rintro σ rfl
 replace h:QdS W=some r:=h
 refine tg_ hC [.n 2] rfl ?_
 cases h
 exact d1_ rfl rfl tt_

end Go.Proofs
