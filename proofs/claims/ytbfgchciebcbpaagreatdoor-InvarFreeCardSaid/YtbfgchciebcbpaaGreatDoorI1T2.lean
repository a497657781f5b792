/- What functions of the program do, as functions over plain data, and the walks that show it: printed by a program. -/
import Derived.Test.YtbfgchciebcbpaaGreatDoorI1T1
set_option linter.unusedVariables false
set_option linter.unusedSimpArgs false
set_option linter.unusedSectionVars false
set_option linter.deprecated false
set_option maxRecDepth 100000
set_option maxHeartbeats 4000000
noncomputable section
namespace Go.Proofs
open Go Go.RowKit Go.Vm Go.Proofs.Tryz
def Qf3 (a:QG)(h:Int)(b:Qm)(i:Int)(j:Int)(k:Int)(l:Int)(m:Int):Option Int:=
 (Qg3 a).bind fun c=>
 bif (!c)then
 some h
 else
 (Qg5 b i a).bind fun d=>
 bif (!d)then
 some j
 else
 (Qg6 b a).bind fun e=>
 bif (!e)then
 some k
 else
 (Qg7 a).bind fun f=>
 bif (!f)then
 some l
 else
 (Qg8 b a).bind fun g=>
 bif (!g)then
 some m
 else
 some 0
theorem QoG (k u l w x y z A){r}(h:Qf3 k u l w x y z A=some r):Qc prog 64 [.own 609 5] [(609,.var [.clo (.func 112) [] [.loc 610 0 0],.I u,.clo (.func 113) [] [.loc 611 0 0,.loc 612 0 0,.loc 613 0 0],.I x,.clo (.func 115) [] [.loc 611 0 0,.loc 610 0 0],.I y,.clo (.func 117) [] [.loc 610 0 0],.I z,.clo (.func 118) [] [.loc 611 0 0,.loc 610 0 0],.I A]),(610,.var (Qq k)),(611,.var (Qe l)),(612,.var (Qb w)),(613,.var [.clo (.func 111) [] [.loc 610 0 0]])] (Qh (.I r) [(609,.var [.clo (.func 112) [] [.loc 610 0 0],.I u,.clo (.func 113) [] [.loc 611 0 0,.loc 612 0 0,.loc 613 0 0],.I x,.clo (.func 115) [] [.loc 611 0 0,.loc 610 0 0],.I y,.clo (.func 117) [] [.loc 610 0 0],.I z,.clo (.func 118) [] [.loc 611 0 0,.loc 610 0 0],.I A]),(610,.var (Qq k)),(611,.var (Qe l)),(612,.var (Qb w)),(613,.var [.clo (.func 111) [] [.loc 610 0 0]])]):=by
 refine Qc.walk 18 func64 rfl rfl rfl fun C hC=>?_
 refine tg_ hC [.n 14] rfl ?_
 refine AK.loopN 6 (AK.rnd ?_)
 obtain⟨B,m,h⟩:=Qd h
 refine Qa hC [.n 2,.v .no [] (.b true),.n 10,.o (.any (.loc 609 0 0) none),.n 3,.O 4 (.var [.clo (.func 112) [] [.loc 610 0 0],.I u]),.n 6,.cm (.clo) [(609,610)] [(610,609)] [] [.d] [(609,.var (Qq k))] (.b B),.n 3] rfl ⟨⟨⟨⟨tt_,rfl⟩,(fun σ a j _=>Stp.idxV rfl rfl (QC hC.n rfl) (a _ _ rfl) (a _ _ rfl) (Qo.es rfl) (j _ _ rfl) (by decide))⟩,rfl⟩,(Qpm _ m)⟩ ?_
 refine bg_ h (fun c h=>Qa hC [.T,.n 13,.K [2] [609,610,611,612,613]] rfl ⟨tt_,c⟩ ?_) fun c h=>Qa hC [.F,.n 4,.v .no [] (.I 1),.n 2] rfl ⟨⟨tt_,c⟩,rfl⟩ ?_
 ·cases h
  exact d1_ rfl rfl ⟨rfl,rfl,rfl,rfl,rfl,tt_⟩
 refine AK.met (AK.rnd ?_)
 obtain⟨D,p,h⟩:=Qd h
 refine Qa hC [.n 2,.v .no [] (.b true),.n 10,.o (.any (.loc 609 0 2) none),.n 1,.kill 4,.n 2,.O 4 (.var [.clo (.func 113) [] [.loc 611 0 0,.loc 612 0 0,.loc 613 0 0],.I x]),.n 6,.cm (.clo) [(609,611),(610,612),(611,613),(612,610)] [(611,609),(612,610),(613,611),(610,612)] [] [.d,.d,.d] [(609,.var (Qe l)),(610,.var (Qb w)),(611,.var [.clo (.func 111) [] [.loc 612 0 0]]),(612,.var (Qq k))] (.b D),.n 3] rfl ⟨⟨⟨⟨tt_,rfl⟩,(fun σ a j _=>Stp.idxV rfl rfl (QC hC.n rfl) (a _ _ rfl) (a _ _ rfl) (Qo.es rfl) (j _ _ rfl) (by decide))⟩,rfl⟩,(Qpo _ _ _ p)⟩ ?_
 refine bg_ h (fun e h=>Qa hC [.T,.n 13,.K [2] [609,610,611,612,613]] rfl ⟨tt_,e⟩ ?_) fun e h=>Qa hC [.F,.n 4,.v .no [] (.I 2),.n 2] rfl ⟨⟨tt_,e⟩,rfl⟩ ?_
 ·cases h
  exact d1_ rfl rfl ⟨rfl,rfl,rfl,rfl,rfl,tt_⟩
 refine AK.met (AK.rnd ?_)
 obtain⟨E,q,h⟩:=Qd h
 refine Qa hC [.n 2,.v .no [] (.b true),.n 10,.o (.any (.loc 609 0 4) none),.n 1,.kill 4,.n 2,.O 4 (.var [.clo (.func 115) [] [.loc 611 0 0,.loc 610 0 0],.I y]),.n 6,.cm (.clo) [(609,611),(610,610)] [(611,609),(610,610)] [] [.d,.d] [(609,.var (Qe l)),(610,.var (Qq k))] (.b E),.n 3] rfl ⟨⟨⟨⟨tt_,rfl⟩,(fun σ a j _=>Stp.idxV rfl rfl (QC hC.n rfl) (a _ _ rfl) (a _ _ rfl) (Qo.es rfl) (j _ _ rfl) (by decide))⟩,rfl⟩,(Qpp _ _ q)⟩ ?_
 refine bg_ h (fun f h=>Qa hC [.T,.n 13,.K [2] [609,610,611,612,613]] rfl ⟨tt_,f⟩ ?_) fun f h=>Qa hC [.F,.n 4,.v .no [] (.I 3),.n 2] rfl ⟨⟨tt_,f⟩,rfl⟩ ?_
 ·cases h
  exact d1_ rfl rfl ⟨rfl,rfl,rfl,rfl,rfl,tt_⟩
 refine AK.met (AK.rnd ?_)
 obtain⟨G,s,h⟩:=Qd h
 refine Qa hC [.n 2,.v .no [] (.b true),.n 10,.o (.any (.loc 609 0 6) none),.n 1,.kill 4,.n 2,.O 4 (.var [.clo (.func 117) [] [.loc 610 0 0],.I z]),.n 6,.cm (.clo) [(609,610)] [(610,609)] [] [.d] [(609,.var (Qq k))] (.b G),.n 3] rfl ⟨⟨⟨⟨tt_,rfl⟩,(fun σ a j _=>Stp.idxV rfl rfl (QC hC.n rfl) (a _ _ rfl) (a _ _ rfl) (Qo.es rfl) (j _ _ rfl) (by decide))⟩,rfl⟩,(Qpq _ s)⟩ ?_
 refine bg_ h (fun g h=>Qa hC [.T,.n 13,.K [2] [609,610,611,612,613]] rfl ⟨tt_,g⟩ ?_) fun g h=>Qa hC [.F,.n 4,.v .no [] (.I 4),.n 2] rfl ⟨⟨tt_,g⟩,rfl⟩ ?_
 ·cases h
  exact d1_ rfl rfl ⟨rfl,rfl,rfl,rfl,rfl,tt_⟩
 refine AK.met (AK.rnd ?_)
 obtain⟨H,t,h⟩:=Qd h
 refine Qa hC [.n 2,.v .no [] (.b true),.n 10,.o (.any (.loc 609 0 8) none),.n 1,.kill 4,.n 2,.O 4 (.var [.clo (.func 118) [] [.loc 611 0 0,.loc 610 0 0],.I A]),.n 6,.cm (.clo) [(609,611),(610,610)] [(611,609),(610,610)] [] [.d,.d] [(609,.var (Qe l)),(610,.var (Qq k))] (.b H),.n 3] rfl ⟨⟨⟨⟨tt_,rfl⟩,(fun σ a j _=>Stp.idxV rfl rfl (QC hC.n rfl) (a _ _ rfl) (a _ _ rfl) (Qo.es rfl) (j _ _ rfl) (by decide))⟩,rfl⟩,(Qpr _ _ t)⟩ ?_
 refine bg_ h (fun i h=>Qa hC [.T,.n 13,.K [2] [609,610,611,612,613]] rfl ⟨tt_,i⟩ ?_) fun i h=>Qa hC [.F,.n 4,.v .no [] (.I 5),.n 2] rfl ⟨⟨tt_,i⟩,rfl⟩ ?_
 ·cases h
  exact d1_ rfl rfl ⟨rfl,rfl,rfl,rfl,rfl,tt_⟩
 refine AK.met (AK.rnd ?_)
 refine Qa hC [.n 2,.v .no [] (.b false),.n 15] rfl ⟨tt_,rfl⟩ ?_
 cases h
 exact d1_ rfl rfl ⟨rfl,rfl,rfl,rfl,rfl,tt_⟩
def QiV (a:Qm)(b:Int):Option Int:=
 (Qai a.Places b).bind fun c=>
 bif (!c)then
 some 3
 else
 (idx a.Places b).bind fun d=>
 (Qf3 d 1 a b 5 3 1 8).bind fun e=>
 some e
theorem QqZ (f g){r}(h:QiV f g=some r):Qc prog 72 [.agg (Qe f),.I g] [] (Qh (.I r) []):=by
 refine Qc.walk 30 func72 rfl rfl rfl fun C hC=>?_
 obtain⟨l,i,h⟩:=Qd h
 refine Qa hC [.n 13,.o (.c false [.d,.d] (.b l)),.n 3] rfl ⟨tt_,(Qbj _ _ i)⟩ ?_
 rcases Qt h with⟨a,h⟩|⟨a,h⟩
 ·refine Qa hC [.T,.n 7] rfl ⟨tt_,a⟩ ?_
  cases h
  exact d1_ rfl rfl tt_
 obtain⟨e,j,h⟩:=Qd h
 obtain⟨m,k,h⟩:=Qd h
 refine Qa hC [.F,.n 7,.o (.row (Qq e)),.v .no [] (.agg (Qq e)),.n 2,.O 5 (.var (Qq e)),.n 7,.O 6 (.var [.clo (.func 111) [] [.loc 5 0 0]]),.n 5,.v .no [] (.agg [.clo (.func 112) [] [.loc 5 0 0],.I 1]),.n 1,.v .no [] (.agg [.clo (.func 113) [] [.loc 2 0 0,.loc 3 0 0,.loc 6 0 0],.I 5]),.n 1,.v .no [] (.agg [.clo (.func 115) [] [.loc 2 0 0,.loc 5 0 0],.I 3]),.n 1,.v .no [] (.agg [.clo (.func 117) [] [.loc 5 0 0],.I 1]),.n 1,.v .no [] (.agg [.clo (.func 118) [] [.loc 2 0 0,.loc 5 0 0],.I 8]),.o (.any (.own 28 5) (some (.var [.clo (.func 112) [] [.loc 5 0 0],.I 1,.clo (.func 113) [] [.loc 2 0 0,.loc 3 0 0,.loc 6 0 0],.I 5,.clo (.func 115) [] [.loc 2 0 0,.loc 5 0 0],.I 3,.clo (.func 117) [] [.loc 5 0 0],.I 1,.clo (.func 118) [] [.loc 2 0 0,.loc 5 0 0],.I 8]))),.cm (.fn) [(609,28),(610,5),(611,2),(612,3),(613,6)] [(28,609),(5,610),(2,611),(3,612),(6,613)] [] [.d] [(609,.var [.clo (.func 112) [] [.loc 610 0 0],.I 1,.clo (.func 113) [] [.loc 611 0 0,.loc 612 0 0,.loc 613 0 0],.I 5,.clo (.func 115) [] [.loc 611 0 0,.loc 610 0 0],.I 3,.clo (.func 117) [] [.loc 610 0 0],.I 1,.clo (.func 118) [] [.loc 611 0 0,.loc 610 0 0],.I 8]),(610,.var (Qq e)),(611,.var (Qe f)),(612,.var (Qb g)),(613,.var [.clo (.func 111) [] [.loc 610 0 0]])] (.I m),.n 4] rfl ⟨⟨⟨⟨⟨⟨⟨⟨⟨⟨⟨⟨tt_,a⟩,(QF j)⟩,rfl⟩,rfl⟩,rfl⟩,rfl⟩,rfl⟩,rfl⟩,rfl⟩,rfl⟩,(fun σ p q hf=>Stp.buildAny rfl rfl (QC hC.n rfl) (Qo.es rfl) Qkp rfl (by decide) (by decide) (QdO p rfl) rfl rfl (hf rfl))⟩,(QoG _ _ _ _ _ _ _ _ k)⟩ ?_
 cases h
 exact d1_ rfl rfl tt_
def QiW (a:Int)(d:QG)(b:Qm):Option Int:=
 (QiV b a).bind fun c=>
 some c
theorem Qq0 (e f a){r}(h:QiW e f a=some r):Qc prog 71 [.I e,.agg (Qq f),.loc 609 0 0] [(609,.var (Qe a))] (Qh (.I r) [(609,.var (Qe a))]):=by
 refine Qc.walk 9 func71 rfl rfl rfl fun C hC=>?_
 obtain⟨g,b,h⟩:=Qd h
 refine Qa hC [.n 8,.v .no [] (.agg (Qe a)),.n 1,.o (.c false [.d,.d] (.I g)),.n 4] rfl ⟨⟨tt_,rfl⟩,(QqZ _ _ b)⟩ ?_
 cases h
 exact d1_ rfl rfl ⟨rfl,tt_⟩
def Qcc (d:(List QG))(e:Qm)(a:Int):Option (Int⊕((Int×Int)⊕Unit)):=
 bif (decide (a<(d.length:Int)))then
 (idx d a).bind fun c=>
 (QiW a c e).bind fun b=>
 bif (b != 0)then
 some (.inr (.inl (a,b)))
 else
 some (.inl (w64 (a+1)))
 else
 some (.inr (.inr ()))
def Qcd (b:Int)(a:Int):Option (Int×Int):=
 some (b,a)
def Qce : Option (Int×Int):=
 some (0,0)
def QcW (a:(List QG))(b:Qm):Option (Int×Int):=
 (Qy (fun st=>Qcc a b st) 0).bind (Sum.elim (fun q=>Qcd q.1 q.2) (fun q=>Qce))
theorem Qld (g f){r}(h:QcW g f=some r):Qc prog 70 [.sl 3 (g.map Qq),.clo (.func 71) [] [.loc 609 0 0]] [(609,.var (Qe f))] (Qh (.tup [.I r.1,.I r.2]) [(609,.var (Qe f))]):=by
 refine Qc.walk 25 func70 rfl rfl rfl fun C hC=>?_
 refine Qa hC [.n 10,.o (.ln g.length),.n 4,.K [1,9,10,11] [609]] rfl ⟨tt_,Qj⟩ ?_
 obtain⟨l,i,h⟩:=Qd h
 refine AK.loop (body:=(fun st=>Qcc g f st)) (fun st σ=>σ=⟨[(1,.clo (.func 71) [] [.loc 609 0 0]),(9,.sl 3 (g.map Qq)),(10,.I (g.length:Int)),(11,.I st)],[(609,.var (Qe f))]⟩) (Sum.elim (fun q e σ=>e=.ret∧σ=⟨[(4,.I q.1),(5,.I q.2)],[(609,.var (Qe f))]⟩) (fun q e σ=>e=.exit 0∧σ=⟨[],[(609,.var (Qe f))]⟩)) i rfl ?_ ?_
 ·rintro t o σ rfl h
  refine tg_ hC [.n 6] rfl ?_
  rcases Qt h with⟨a,h⟩|⟨a,h⟩
  ·obtain⟨c,j,h⟩:=Qd h
   obtain⟨m,k,h⟩:=Qd h
   refine Qa hC [.T,.n 7,.o (.row (Qq c)),.v .no [] (.agg (Qq c)),.n 3,.O 7 (.var (Qq c)),.n 6,.v .no [] (.agg (Qq c)),.cm (.clo) [(609,609)] [(609,609)] [] [.d,.d,.d] [(609,.var (Qe f))] (.I m),.n 9] rfl ⟨⟨⟨⟨⟨⟨tt_,a⟩,(QF j)⟩,rfl⟩,rfl⟩,rfl⟩,(Qq0 _ _ _ k)⟩ ?_
   refine bg_ h (fun b h=>Qa hC [.T,.n 11,.K [4,5] [609]] rfl ⟨tt_,b⟩ ?_) fun b h=>Qa hC [.F,.n 7,.K [1,9,10,11] [609]] rfl ⟨tt_,b⟩ ?_
   ·cases h
    exact QaY rfl (an_ rfl rfl)
   cases h
   exact QV rfl rfl
  refine Qa hC [.F,.n 2,.K [] [609]] rfl ⟨tt_,a⟩ ?_
  cases h
  exact QW rfl (an_ rfl rfl)
 rcases l with(⟨s,p⟩|_)
 ·replace h:Qcd s p=some r:=h
  rintro e σ ⟨rfl,rfl⟩
  refine tg_ hC [.n 2] rfl ?_
  cases h
  exact d2_ rfl rfl rfl ⟨rfl,tt_⟩
 replace h:Qce=some r:=h
 rintro e σ ⟨rfl,rfl⟩
 refine tg_ hC [.n 9] rfl ?_
 cases h
 exact d2_ rfl rfl rfl ⟨rfl,tt_⟩
def QbU (b:(List Qw))(a:Int):Option Bool:=
 some ((decide (0≤a))&&(decide (a<(b.length:Int))))
theorem Qg9 (d c){r}(h:QbU d c=some r):Qc prog 92 [.sl 14 (d.map Qf),.I c] [] (Qh (.b r) []):=by
 refine Qc.walk 13 func92 rfl rfl rfl fun C hC=>?_
 refine tg_ hC [.n 6] rfl ?_
 refine AK.meetX (fun σ=>σ=⟨[(4,.b ((decide (0≤c))&&(decide (c<(d.length:Int)))))],[]⟩) ?_ ?_
 ·refine tg_ hC [.n 4] rfl ?_
  rcases QS (decide (0≤c))with a | a
  ·refine Qa hC [.S 7 (.b true),.n 2,.o (.ln d.length),.n 4,.S 4 (.b ((decide (0≤c))&&(decide (c<(d.length:Int))))),.K [4] []] rfl ⟨⟨(tc_ a),Qj⟩,(congrArg V.b (QbB a rfl))⟩ ?_
   exact AK.met rfl
  refine Qa hC [.S 7 (.b false),.n 7,.S 4 (.b ((decide (0≤c))&&(decide (c<(d.length:Int))))),.K [4] []] rfl ⟨(tc_ a),(congrArg V.b (Qdq a rfl))⟩ ?_
  exact AK.met rfl
 rintro σ rfl
 refine tg_ hC [.n 2] rfl ?_
 cases h
 exact d1_ rfl rfl tt_
def QiX (a:Int)(b:Qm)(c:Qw):Option Unit:=
 some ()
theorem Qq1 (a b c){r}(h:QiX a b c=some r):Qc prog 126 [.loc 609 0 0,.clo (.func 127) [] [.loc 610 0 0,.loc 611 0 0]] [(609,.var (Qb a)),(610,.var (Qe b)),(611,.var (Qf c))] (Qh (.clo (.func 184) [] [.loc 3 0 0,.loc 2 0 0]) [(2,.var [.loc 609 0 0]),(3,.var [.clo (.func 127) [] [.loc 610 0 0,.loc 611 0 0]]),(609,.var (Qb a)),(610,.var (Qe b)),(611,.var (Qf c))]):=by
 refine Qc.walk 6 func126 rfl rfl rfl fun C hC=>?_
 refine tg_ hC [.n 14] rfl ?_
 cases h
 exact d1_ rfl rfl ⟨rfl,rfl,rfl,rfl,rfl,tt_⟩
def Qf4 (a:Int)(b:Qm)(c:Qw)(d:Int):Option Unit:=
 some ()
theorem QoH (a b c d){r}(h:Qf4 a b c d=some r):Qc prog 126 [.loc 609 0 0,.clo (.func 132) [] [.loc 610 0 0,.loc 611 0 0,.loc 612 0 0]] [(609,.var (Qb a)),(610,.var (Qe b)),(611,.var (Qf c)),(612,.var (Qb d))] (Qh (.clo (.func 184) [] [.loc 3 0 0,.loc 2 0 0]) [(2,.var [.loc 609 0 0]),(3,.var [.clo (.func 132) [] [.loc 610 0 0,.loc 611 0 0,.loc 612 0 0]]),(609,.var (Qb a)),(610,.var (Qe b)),(611,.var (Qf c)),(612,.var (Qb d))]):=by
 refine Qc.walk 6 func126 rfl rfl rfl fun C hC=>?_
 refine tg_ hC [.n 14] rfl ?_
 cases h
 exact d1_ rfl rfl ⟨rfl,rfl,rfl,rfl,rfl,rfl,tt_⟩
def Qf5 (a:Int)(b:Qm)(c:Qw)(d:Int):Option Unit:=
 some ()
theorem QoI (a b c d){r}(h:Qf5 a b c d=some r):Qc prog 126 [.loc 609 0 0,.clo (.func 134) [] [.loc 610 0 0,.loc 611 0 0,.loc 612 0 0]] [(609,.var (Qb a)),(610,.var (Qe b)),(611,.var (Qf c)),(612,.var (Qb d))] (Qh (.clo (.func 184) [] [.loc 3 0 0,.loc 2 0 0]) [(2,.var [.loc 609 0 0]),(3,.var [.clo (.func 134) [] [.loc 610 0 0,.loc 611 0 0,.loc 612 0 0]]),(609,.var (Qb a)),(610,.var (Qe b)),(611,.var (Qf c)),(612,.var (Qb d))]):=by
 refine Qc.walk 6 func126 rfl rfl rfl fun C hC=>?_
 refine tg_ hC [.n 14] rfl ?_
 cases h
 exact d1_ rfl rfl ⟨rfl,rfl,rfl,rfl,rfl,rfl,tt_⟩
def Qf6 (a:Int)(b:Qm)(c:Qw):Option Unit:=
 some ()
theorem QoJ (a b c){r}(h:Qf6 a b c=some r):Qc prog 126 [.loc 609 0 0,.clo (.func 135) [] [.loc 610 0 0,.loc 611 0 0]] [(609,.var (Qb a)),(610,.var (Qe b)),(611,.var (Qf c))] (Qh (.clo (.func 184) [] [.loc 3 0 0,.loc 2 0 0]) [(2,.var [.loc 609 0 0]),(3,.var [.clo (.func 135) [] [.loc 610 0 0,.loc 611 0 0]]),(609,.var (Qb a)),(610,.var (Qe b)),(611,.var (Qf c))]):=by
 refine Qc.walk 6 func126 rfl rfl rfl fun C hC=>?_
 refine tg_ hC [.n 14] rfl ?_
 cases h
 exact d1_ rfl rfl ⟨rfl,rfl,rfl,rfl,rfl,tt_⟩
def Qh4 (a:Qw):Option Bool:=
 (Qc8 a.Name).bind fun b=>
 some b
theorem Qp9 (a){r}(h:Qh4 a=some r):Qc prog 122 [.loc 609 0 0] [(609,.var (Qf a))] (Qh (.b r) [(609,.var (Qf a))]):=by
 refine Qc.walk 5 func122 rfl rfl rfl fun C hC=>?_
 obtain⟨f,e,h⟩:=Qd h
 refine Qa hC [.n 9,.o (.c false [.d] (.b f)),.n 4] rfl ⟨tt_,(QeP _ e)⟩ ?_
 cases h
 exact d1_ rfl rfl ⟨rfl,tt_⟩
def Qh5 (a:Qw)(b:Qw):Option Bool:=
 some (QfP a.Name b.Name)
theorem Qqa (c a){r}(h:Qh5 c a=some r):Qc prog 121 [.agg (Qf c),.loc 609 0 0] [(609,.var (Qf a))] (Qh (.b r) [(609,.var (Qf a))]):=by
 refine Qc.walk 9 func121 rfl rfl rfl fun C hC=>?_
 refine tg_ hC [.n 17] rfl ?_
 cases h
 exact d1_ rfl rfl ⟨rfl,tt_⟩
def Qax (c:(List Qw))(d:Qw)(a:Int):Option (Int⊕(Int⊕Unit)):=
 bif (decide (a<(c.length:Int)))then
 (idx c a).bind fun e=>
 (Qh5 e d).bind fun b=>
 bif b then
 some (.inr (.inl a))
 else
 some (.inl (w64 (a+1)))
 else
 some (.inr (.inr ()))
def Qay (a:Int):Option Int:=
 some a
def Qaz : Option Int:=
 some (-1)
def QaN (a:(List Qw))(b:Qw):Option Int:=
 (Qy (fun st=>Qax a b st) 0).bind (Sum.elim (fun q=>Qay q) (fun q=>Qaz))
theorem Qgt (g c){r}(h:QaN g c=some r):Qc prog 183 [.sl 14 (g.map Qf),.clo (.func 121) [] [.loc 609 0 0]] [(609,.var (Qf c))] (Qh (.I r) [(609,.var (Qf c))]):=by
 refine Qc.walk 19 func183 rfl rfl rfl fun C hC=>?_
 refine Qa hC [.n 9,.o (.ln g.length),.n 4,.K [0,1,7,8] [609]] rfl ⟨tt_,Qj⟩ ?_
 obtain⟨k,i,h⟩:=Qd h
 refine AK.loop (body:=(fun st=>Qax g c st)) (fun st σ=>σ=⟨[(0,.sl 14 (g.map Qf)),(1,.clo (.func 121) [] [.loc 609 0 0]),(7,.I (g.length:Int)),(8,.I st)],[(609,.var (Qf c))]⟩) (Sum.elim (fun q e σ=>e=.ret∧σ=⟨[(4,.I q)],[(609,.var (Qf c))]⟩) (fun q e σ=>e=.exit 0∧σ=⟨[],[(609,.var (Qf c))]⟩)) i rfl ?_ ?_
 ·rintro t o σ rfl h
  refine tg_ hC [.n 6] rfl ?_
  rcases Qt h with⟨f,h⟩|⟨f,h⟩
  ·obtain⟨p,l,h⟩:=Qd h
   obtain⟨m,j,h⟩:=Qd h
   refine Qa hC [.T,.n 15,.o (.row (Qf p)),.v .no [] (.agg (Qf p)),.cm (.clo) [(609,609)] [(609,609)] [] [.d,.d] [(609,.var (Qf c))] (.b m),.n 2] rfl ⟨⟨⟨⟨tt_,f⟩,(QF l)⟩,rfl⟩,(Qqa _ _ j)⟩ ?_
   refine bg_ h (fun a h=>Qa hC [.T,.n 9,.K [4] [609]] rfl ⟨tt_,a⟩ ?_) fun a h=>Qa hC [.F,.n 7,.K [0,1,7,8] [609]] rfl ⟨tt_,a⟩ ?_
   ·cases h
    exact QaY rfl (an_ rfl rfl)
   cases h
   exact QV rfl rfl
  refine Qa hC [.F,.n 2,.K [] [609]] rfl ⟨tt_,f⟩ ?_
  cases h
  exact QW rfl (an_ rfl rfl)
 rcases k with(s | _)
 ·replace h:Qay s=some r:=h
  rintro e σ ⟨rfl,rfl⟩
  refine tg_ hC [.n 2] rfl ?_
  cases h
  exact d1_ rfl rfl ⟨rfl,tt_⟩
 replace h:Qaz=some r:=h
 rintro e σ ⟨rfl,rfl⟩
 refine tg_ hC [.n 8] rfl ?_
 cases h
 exact d1_ rfl rfl ⟨rfl,tt_⟩
def QaA (a:(List Qw))(b:Qw):Option Bool:=
 (QaN a b).bind fun c=>
 some (decide (0≤c))
theorem Qfx (e a){r}(h:QaA e a=some r):Qc prog 124 [.sl 14 (e.map Qf),.clo (.func 121) [] [.loc 609 0 0]] [(609,.var (Qf a))] (Qh (.b r) [(609,.var (Qf a))]):=by
 refine Qc.walk 9 func124 rfl rfl rfl fun C hC=>?_
 obtain⟨f,c,h⟩:=Qd h
 refine Qa hC [.n 9,.cm (.fn) [(609,609)] [(609,609)] [] [.d,.d] [(609,.var (Qf a))] (.I f),.n 5] rfl ⟨tt_,(Qgt _ _ c)⟩ ?_
 cases h
 exact d1_ rfl rfl ⟨rfl,tt_⟩
def Qh6 (b:Qm)(a:Int)(c:Qw):Option Bool:=
 (chk (decide (0≤a)&&decide (0≤a.toNat)&&decide (a.toNat≤b.Tasks.length))).bind fun _=>
 (QaA ((b.Tasks.drop 0).take (a.toNat-0)) c).bind fun d=>
 some (!d)
theorem Qqb (e f g){r}(h:Qh6 e f g=some r):Qc prog 123 [.loc 609 0 0,.loc 610 0 0,.loc 611 0 0] [(609,.var (Qe e)),(610,.var (Qb f)),(611,.var [.clo (.func 121) [] [.loc 612 0 0]]),(612,.var (Qf g))] (Qh (.b r) [(609,.var (Qe e)),(610,.var (Qb f)),(611,.var [.clo (.func 121) [] [.loc 612 0 0]]),(612,.var (Qf g))]):=by
 refine Qc.walk 11 func123 rfl rfl rfl fun C hC=>?_
 obtain⟨c,h⟩:=Qbs h
 obtain⟨k,j,h⟩:=Qd h
 refine tg_ hC [.n 6,.K [0,1,2,3] [609,610,611,612]] rfl ?_
 refine AK.draw2 Qo hC mixed [.N,.N,.N,.a (.any (.sl 14 (((e.Tasks.drop 0).take (f.toNat-0)).map Qf)) none) none false,.N,.a (.any (.b k) none) none false,.N,.m .s] [] [] [3] [609,610,611,612] rfl rfl rfl ⟨⟨tt_,(fun σ i l _=>Stp.sliceD rfl rfl (QC hC.n rfl) (i _ _ rfl) (Qo.es rfl) Bnd.no (Bnd.val (i _ _ rfl) (QX (Qpa c)) rfl) (QX (Qpb c)) (Qas (QX (Qpc c)) (Nat.le_of_eq Qj.symm)) QrE)⟩,(fun σ i l _=>Stp.callSame (md:=.cm (.fn) [(609,612)] [(612,609)] [] [.d,.d] [(609,.var (Qf g))] (.b k) [612]) Qo hC i l rfl ⟨⟨tt_,(Qfx _ _ j)⟩,⟨rfl,tt_⟩⟩)⟩ rfl (by kernel_rfl) rfl rfl rfl ?_
 refine tg_ hC [.n 2] rfl ?_
 cases h
 exact d1_ rfl rfl ⟨rfl,rfl,rfl,rfl,tt_⟩
def Qfy (b:Int)(a:Qw):Option Bool:=
 some ((decide (b≤16))&&(decide ((max2 (max2 (a.Ins.length:Int) (a.Outs.length:Int)) (a.Cancel.length:Int))≤16)))
theorem Qqc (d a){r}(h:Qfy d a=some r):Qc prog 125 [.loc 609 0 0,.loc 610 0 0] [(609,.var (Qb d)),(610,.var (Qf a))] (Qh (.b r) [(609,.var (Qb d)),(610,.var (Qf a))]):=by
 refine Qc.walk 18 func125 rfl rfl rfl fun C hC=>?_
 refine tg_ hC [.n 6] rfl ?_
 refine AK.meetX (fun σ=>σ=⟨[(2,.b ((decide (d≤16))&&(decide ((max2 (max2 (a.Ins.length:Int) (a.Outs.length:Int)) (a.Cancel.length:Int))≤16))))],[(609,.var (Qb d)),(610,.var (Qf a))]⟩) ?_ ?_
 ·refine tg_ hC [.n 4] rfl ?_
  rcases QS (decide (d≤16))with c | c
  ·refine Qa hC [.S 5 (.b true),.n 2,.o (.ln a.Ins.length),.n 2,.o (.ln a.Outs.length),.n 2,.o (.ln a.Cancel.length),.o (.any (.I (max2 (max2 (a.Ins.length:Int) (a.Outs.length:Int)) (a.Cancel.length:Int))) none),.n 4,.S 2 (.b ((decide (d≤16))&&(decide ((max2 (max2 (a.Ins.length:Int) (a.Outs.length:Int)) (a.Cancel.length:Int))≤16)))),.K [2] [609,610]] rfl ⟨⟨⟨⟨⟨(tc_ c),Qj⟩,Qj⟩,Qj⟩,(fun σ e f _=>Stp.max3 rfl rfl (QC hC.n rfl) (e _ _ rfl) (e _ _ rfl) (e _ _ rfl))⟩,(congrArg V.b (QbB c rfl))⟩ ?_
   exact AK.met rfl
  refine Qa hC [.S 5 (.b false),.n 14,.S 2 (.b ((decide (d≤16))&&(decide ((max2 (max2 (a.Ins.length:Int) (a.Outs.length:Int)) (a.Cancel.length:Int))≤16)))),.K [2] [609,610]] rfl ⟨(tc_ c),(congrArg V.b (Qdq c rfl))⟩ ?_
  exact AK.met rfl
 rintro σ rfl
 refine tg_ hC [.n 2] rfl ?_
 cases h
 exact d1_ rfl rfl ⟨rfl,rfl,tt_⟩
def Qdi (a:Qae):Option Bool:=
 (Qc8 a.Name).bind fun b=>
 some b
theorem QlS (a){r}(h:Qdi a=some r):Qc prog 188 [.loc 609 0 0] [(609,.var (QA a))] (Qh (.b r) [(609,.var (QA a))]):=by
 refine Qc.walk 5 func188 rfl rfl rfl fun C hC=>?_
 obtain⟨f,e,h⟩:=Qd h
 refine Qa hC [.n 9,.o (.c false [.d] (.b f)),.n 4] rfl ⟨tt_,(QeP _ e)⟩ ?_
 cases h
 exact d1_ rfl rfl ⟨rfl,tt_⟩
def Qdj (a:Qae)(b:Qae):Option Bool:=
 some (QfP a.Name b.Name)
theorem QlT (c a){r}(h:Qdj c a=some r):Qc prog 187 [.agg (QA c),.loc 609 0 0] [(609,.var (QA a))] (Qh (.b r) [(609,.var (QA a))]):=by
 refine Qc.walk 9 func187 rfl rfl rfl fun C hC=>?_
 refine tg_ hC [.n 17] rfl ?_
 cases h
 exact d1_ rfl rfl ⟨rfl,tt_⟩
def QaI (c:(List Qae))(d:Qae)(a:Int):Option (Int⊕(Int⊕Unit)):=
 bif (decide (a<(c.length:Int)))then
 (idx c a).bind fun e=>
 (Qdj e d).bind fun b=>
 bif b then
 some (.inr (.inl a))
 else
 some (.inl (w64 (a+1)))
 else
 some (.inr (.inr ()))
def QaJ (a:Int):Option Int:=
 some a
def QaK : Option Int:=
 some (-1)
def Qa1 (a:(List Qae))(b:Qae):Option Int:=
 (Qy (fun st=>QaI a b st) 0).bind (Sum.elim (fun q=>QaJ q) (fun q=>QaK))
theorem Qhg (g c){r}(h:Qa1 g c=some r):Qc prog 227 [.sl 2 (g.map QA),.clo (.func 187) [] [.loc 609 0 0]] [(609,.var (QA c))] (Qh (.I r) [(609,.var (QA c))]):=by
 refine Qc.walk 19 func227 rfl rfl rfl fun C hC=>?_
 refine Qa hC [.n 9,.o (.ln g.length),.n 4,.K [0,1,7,8] [609]] rfl ⟨tt_,Qj⟩ ?_
 obtain⟨k,i,h⟩:=Qd h
 refine AK.loop (body:=(fun st=>QaI g c st)) (fun st σ=>σ=⟨[(0,.sl 2 (g.map QA)),(1,.clo (.func 187) [] [.loc 609 0 0]),(7,.I (g.length:Int)),(8,.I st)],[(609,.var (QA c))]⟩) (Sum.elim (fun q e σ=>e=.ret∧σ=⟨[(4,.I q)],[(609,.var (QA c))]⟩) (fun q e σ=>e=.exit 0∧σ=⟨[],[(609,.var (QA c))]⟩)) i rfl ?_ ?_
 ·rintro t o σ rfl h
  refine tg_ hC [.n 6] rfl ?_
  rcases Qt h with⟨f,h⟩|⟨f,h⟩
  ·obtain⟨p,l,h⟩:=Qd h
   obtain⟨m,j,h⟩:=Qd h
   refine Qa hC [.T,.n 15,.o (.row (QA p)),.v .no [] (.agg (QA p)),.cm (.clo) [(609,609)] [(609,609)] [] [.d,.d] [(609,.var (QA c))] (.b m),.n 2] rfl ⟨⟨⟨⟨tt_,f⟩,(QF l)⟩,rfl⟩,(QlT _ _ j)⟩ ?_
   refine bg_ h (fun a h=>Qa hC [.T,.n 9,.K [4] [609]] rfl ⟨tt_,a⟩ ?_) fun a h=>Qa hC [.F,.n 7,.K [0,1,7,8] [609]] rfl ⟨tt_,a⟩ ?_
   ·cases h
    exact QaY rfl (an_ rfl rfl)
   cases h
   exact QV rfl rfl
  refine Qa hC [.F,.n 2,.K [] [609]] rfl ⟨tt_,f⟩ ?_
  cases h
  exact QW rfl (an_ rfl rfl)
 rcases k with(s | _)
 ·replace h:QaJ s=some r:=h
  rintro e σ ⟨rfl,rfl⟩
  refine tg_ hC [.n 2] rfl ?_
  cases h
  exact d1_ rfl rfl ⟨rfl,tt_⟩
 replace h:QaK=some r:=h
 rintro e σ ⟨rfl,rfl⟩
 refine tg_ hC [.n 8] rfl ?_
 cases h
 exact d1_ rfl rfl ⟨rfl,tt_⟩
def QaL (a:(List Qae))(b:Qae):Option Bool:=
 (Qa1 a b).bind fun c=>
 some (decide (0≤c))
theorem Qf7 (e a){r}(h:QaL e a=some r):Qc prog 190 [.sl 2 (e.map QA),.clo (.func 187) [] [.loc 609 0 0]] [(609,.var (QA a))] (Qh (.b r) [(609,.var (QA a))]):=by
 refine Qc.walk 9 func190 rfl rfl rfl fun C hC=>?_
 obtain⟨f,c,h⟩:=Qd h
 refine Qa hC [.n 9,.cm (.fn) [(609,609)] [(609,609)] [] [.d,.d] [(609,.var (QA a))] (.I f),.n 5] rfl ⟨tt_,(Qhg _ _ c)⟩ ?_
 cases h
 exact d1_ rfl rfl ⟨rfl,tt_⟩
def Qdk (b:(List Qae))(a:Int)(c:Qae):Option Bool:=
 (chk (decide (0≤a)&&decide (0≤a.toNat)&&decide (a.toNat≤b.length))).bind fun _=>
 (QaL ((b.drop 0).take (a.toNat-0)) c).bind fun d=>
 some (!d)
theorem QlU (e f g){r}(h:Qdk e f g=some r):Qc prog 189 [.loc 609 0 0,.loc 610 0 0,.loc 611 0 0] [(609,.var (Qbr e)),(610,.var (Qb f)),(611,.var [.clo (.func 187) [] [.loc 612 0 0]]),(612,.var (QA g))] (Qh (.b r) [(609,.var (Qbr e)),(610,.var (Qb f)),(611,.var [.clo (.func 187) [] [.loc 612 0 0]]),(612,.var (QA g))]):=by
 refine Qc.walk 10 func189 rfl rfl rfl fun C hC=>?_
 obtain⟨c,h⟩:=Qbs h
 obtain⟨k,j,h⟩:=Qd h
 refine tg_ hC [.n 6,.K [0,1,2,3] [609,610,611,612]] rfl ?_
 refine AK.draw2 Qo hC mixed [.N,.N,.a (.any (.sl 2 (((e.drop 0).take (f.toNat-0)).map QA)) none) none false,.N,.a (.any (.b k) none) none false,.N,.m .s] [] [] [3] [609,610,611,612] rfl rfl rfl ⟨⟨tt_,(fun σ i l _=>Stp.sliceD rfl rfl (QC hC.n rfl) (i _ _ rfl) (Qo.es rfl) Bnd.no (Bnd.val (i _ _ rfl) (QX (Qpa c)) rfl) (QX (Qpb c)) (Qas (QX (Qpc c)) (Nat.le_of_eq Qj.symm)) QrE)⟩,(fun σ i l _=>Stp.callSame (md:=.cm (.fn) [(609,612)] [(612,609)] [] [.d,.d] [(609,.var (QA g))] (.b k) [612]) Qo hC i l rfl ⟨⟨tt_,(Qf7 _ _ j)⟩,⟨rfl,tt_⟩⟩)⟩ rfl (by kernel_rfl) rfl rfl rfl ?_
 refine tg_ hC [.n 2] rfl ?_
 cases h
 exact d1_ rfl rfl ⟨rfl,rfl,rfl,rfl,tt_⟩
def Qdl (a:Qm)(b:Qae):Option Bool:=
 (QbE a.Colours b.Colour).bind fun c=>
 some c
theorem QlV (a e){r}(h:Qdl a e=some r):Qc prog 191 [.loc 609 0 0,.loc 610 0 0] [(609,.var (Qe a)),(610,.var (QA e))] (Qh (.b r) [(609,.var (Qe a)),(610,.var (QA e))]):=by
 refine Qc.walk 8 func191 rfl rfl rfl fun C hC=>?_
 obtain⟨g,f,h⟩:=Qd h
 refine Qa hC [.n 11,.o (.c false [.d,.d] (.b g)),.n 4] rfl ⟨tt_,(QfH _ _ f)⟩ ?_
 cases h
 exact d1_ rfl rfl ⟨rfl,rfl,tt_⟩
def Qf8 (a:Qae)(e:Int)(f:(List Qae))(g:Int)(h:Int)(i:Qm)(j:Int):Option Int:=
 (Qdi a).bind fun b=>
 bif (!b)then
 some e
 else
 (Qdk f g a).bind fun c=>
 bif (!c)then
 some h
 else
 (Qdl i a).bind fun d=>
 bif (!d)then
 some j
 else
 some 0
theorem QoK (g m p q s t u){r}(h:Qf8 g m p q s t u=some r):Qc prog 64 [.own 609 3] [(609,.var [.clo (.func 188) [] [.loc 610 0 0],.I m,.clo (.func 189) [] [.loc 611 0 0,.loc 612 0 0,.loc 613 0 0],.I s,.clo (.func 191) [] [.loc 614 0 0,.loc 610 0 0],.I u]),(610,.var (QA g)),(611,.var (Qbr p)),(612,.var (Qb q)),(613,.var [.clo (.func 187) [] [.loc 610 0 0]]),(614,.var (Qe t))] (Qh (.I r) [(609,.var [.clo (.func 188) [] [.loc 610 0 0],.I m,.clo (.func 189) [] [.loc 611 0 0,.loc 612 0 0,.loc 613 0 0],.I s,.clo (.func 191) [] [.loc 614 0 0,.loc 610 0 0],.I u]),(610,.var (QA g)),(611,.var (Qbr p)),(612,.var (Qb q)),(613,.var [.clo (.func 187) [] [.loc 610 0 0]]),(614,.var (Qe t))]):=by
 refine Qc.walk 18 func64 rfl rfl rfl fun C hC=>?_
 refine tg_ hC [.n 14] rfl ?_
 refine AK.loopN 4 (AK.rnd ?_)
 obtain⟨w,i,h⟩:=Qd h
 refine Qa hC [.n 2,.v .no [] (.b true),.n 10,.o (.any (.loc 609 0 0) none),.n 3,.O 4 (.var [.clo (.func 188) [] [.loc 610 0 0],.I m]),.n 6,.cm (.clo) [(609,610)] [(610,609)] [] [.d] [(609,.var (QA g))] (.b w),.n 3] rfl ⟨⟨⟨⟨tt_,rfl⟩,(fun σ f j _=>Stp.idxV rfl rfl (QC hC.n rfl) (f _ _ rfl) (f _ _ rfl) (Qo.es rfl) (j _ _ rfl) (by decide))⟩,rfl⟩,(QlS _ i)⟩ ?_
 refine bg_ h (fun a h=>Qa hC [.T,.n 13,.K [2] [609,610,611,612,613,614]] rfl ⟨tt_,a⟩ ?_) fun a h=>Qa hC [.F,.n 4,.v .no [] (.I 1),.n 2] rfl ⟨⟨tt_,a⟩,rfl⟩ ?_
 ·cases h
  exact d1_ rfl rfl ⟨rfl,rfl,rfl,rfl,rfl,rfl,tt_⟩
 refine AK.met (AK.rnd ?_)
 obtain⟨x,k,h⟩:=Qd h
 refine Qa hC [.n 2,.v .no [] (.b true),.n 10,.o (.any (.loc 609 0 2) none),.n 1,.kill 4,.n 2,.O 4 (.var [.clo (.func 189) [] [.loc 611 0 0,.loc 612 0 0,.loc 613 0 0],.I s]),.n 6,.cm (.clo) [(609,611),(610,612),(611,613),(612,610)] [(611,609),(612,610),(613,611),(610,612)] [] [.d,.d,.d] [(609,.var (Qbr p)),(610,.var (Qb q)),(611,.var [.clo (.func 187) [] [.loc 612 0 0]]),(612,.var (QA g))] (.b x),.n 3] rfl ⟨⟨⟨⟨tt_,rfl⟩,(fun σ f j _=>Stp.idxV rfl rfl (QC hC.n rfl) (f _ _ rfl) (f _ _ rfl) (Qo.es rfl) (j _ _ rfl) (by decide))⟩,rfl⟩,(QlU _ _ _ k)⟩ ?_
 refine bg_ h (fun c h=>Qa hC [.T,.n 13,.K [2] [609,610,611,612,613,614]] rfl ⟨tt_,c⟩ ?_) fun c h=>Qa hC [.F,.n 4,.v .no [] (.I 2),.n 2] rfl ⟨⟨tt_,c⟩,rfl⟩ ?_
 ·cases h
  exact d1_ rfl rfl ⟨rfl,rfl,rfl,rfl,rfl,rfl,tt_⟩
 refine AK.met (AK.rnd ?_)
 obtain⟨y,l,h⟩:=Qd h
 refine Qa hC [.n 2,.v .no [] (.b true),.n 10,.o (.any (.loc 609 0 4) none),.n 1,.kill 4,.n 2,.O 4 (.var [.clo (.func 191) [] [.loc 614 0 0,.loc 610 0 0],.I u]),.n 6,.cm (.clo) [(609,614),(610,610)] [(614,609),(610,610)] [] [.d,.d] [(609,.var (Qe t)),(610,.var (QA g))] (.b y),.n 3] rfl ⟨⟨⟨⟨tt_,rfl⟩,(fun σ f j _=>Stp.idxV rfl rfl (QC hC.n rfl) (f _ _ rfl) (f _ _ rfl) (Qo.es rfl) (j _ _ rfl) (by decide))⟩,rfl⟩,(QlV _ _ l)⟩ ?_
 refine bg_ h (fun e h=>Qa hC [.T,.n 13,.K [2] [609,610,611,612,613,614]] rfl ⟨tt_,e⟩ ?_) fun e h=>Qa hC [.F,.n 4,.v .no [] (.I 3),.n 2] rfl ⟨⟨tt_,e⟩,rfl⟩ ?_
 ·cases h
  exact d1_ rfl rfl ⟨rfl,rfl,rfl,rfl,rfl,rfl,tt_⟩
 refine AK.met (AK.rnd ?_)
 refine Qa hC [.n 2,.v .no [] (.b false),.n 15] rfl ⟨tt_,rfl⟩ ?_
 cases h
 exact d1_ rfl rfl ⟨rfl,rfl,rfl,rfl,rfl,rfl,tt_⟩
def Qen (a:Int)(b:Qae)(c:(List Qae))(d:Qm):Option Int:=
 (Qf8 b 1 c a 5 d 3).bind fun e=>
 some e
theorem Qm4 (c e a b){r}(h:Qen c e a b=some r):Qc prog 186 [.I c,.agg (QA e),.loc 609 0 0,.loc 610 0 0] [(609,.var (Qbr a)),(610,.var (Qe b))] (Qh (.I r) [(609,.var (Qbr a)),(610,.var (Qe b))]):=by
 refine Qc.walk 17 func186 rfl rfl rfl fun C hC=>?_
 obtain⟨g,f,h⟩:=Qd h
 refine Qa hC [.n 12,.O 7 (.var [.clo (.func 187) [] [.loc 5 0 0]]),.n 5,.v .no [] (.agg [.clo (.func 188) [] [.loc 5 0 0],.I 1]),.n 1,.v .no [] (.agg [.clo (.func 189) [] [.loc 609 0 0,.loc 4 0 0,.loc 7 0 0],.I 5]),.n 1,.v .no [] (.agg [.clo (.func 191) [] [.loc 610 0 0,.loc 5 0 0],.I 3]),.o (.any (.own 15 3) (some (.var [.clo (.func 188) [] [.loc 5 0 0],.I 1,.clo (.func 189) [] [.loc 609 0 0,.loc 4 0 0,.loc 7 0 0],.I 5,.clo (.func 191) [] [.loc 610 0 0,.loc 5 0 0],.I 3]))),.cm (.fn) [(609,15),(610,5),(611,609),(612,4),(613,7),(614,610)] [(15,609),(5,610),(609,611),(4,612),(7,613),(610,614)] [] [.d] [(609,.var [.clo (.func 188) [] [.loc 610 0 0],.I 1,.clo (.func 189) [] [.loc 611 0 0,.loc 612 0 0,.loc 613 0 0],.I 5,.clo (.func 191) [] [.loc 614 0 0,.loc 610 0 0],.I 3]),(610,.var (QA e)),(611,.var (Qbr a)),(612,.var (Qb c)),(613,.var [.clo (.func 187) [] [.loc 610 0 0]]),(614,.var (Qe b))] (.I g),.n 4] rfl ⟨⟨⟨⟨⟨⟨tt_,rfl⟩,rfl⟩,rfl⟩,rfl⟩,(fun σ i j hf=>Stp.buildAny rfl rfl (QC hC.n rfl) (Qo.es rfl) Qkp rfl (by decide) (by decide) (QdO i rfl) rfl rfl (hf rfl))⟩,(QoK _ _ _ _ _ _ _ f)⟩ ?_
 cases h
 exact d1_ rfl rfl ⟨rfl,rfl,tt_⟩
def QcE (d:(List Qae))(e:(List Qae))(f:Qm)(a:Int):Option (Int⊕((Int×Int)⊕Unit)):=
 bif (decide (a<(d.length:Int)))then
 (idx d a).bind fun c=>
 (Qen a c e f).bind fun b=>
 bif (b != 0)then
 some (.inr (.inl (a,b)))
 else
 some (.inl (w64 (a+1)))
 else
 some (.inr (.inr ()))
def QcF (a:Int)(b:Int):Option (Int×Int):=
 some (a,b)
def QcG : Option (Int×Int):=
 some (0,0)
def QdF (a:(List Qae))(b:(List Qae))(c:Qm):Option (Int×Int):=
 (Qy (fun st=>QcE a b c st) 0).bind (Sum.elim (fun q=>QcF q.1 q.2) (fun q=>QcG))
theorem Ql8 (i f g){r}(h:QdF i f g=some r):Qc prog 185 [.sl 2 (i.map QA),.clo (.func 186) [] [.loc 609 0 0,.loc 610 0 0]] [(609,.var (Qbr f)),(610,.var (Qe g))] (Qh (.tup [.I r.1,.I r.2]) [(609,.var (Qbr f)),(610,.var (Qe g))]):=by
 refine Qc.walk 25 func185 rfl rfl rfl fun C hC=>?_
 refine Qa hC [.n 10,.o (.ln i.length),.n 4,.K [1,9,10,11] [609,610]] rfl ⟨tt_,Qj⟩ ?_
 obtain⟨m,j,h⟩:=Qd h
 refine AK.loop (body:=(fun st=>QcE i f g st)) (fun st σ=>σ=⟨[(1,.clo (.func 186) [] [.loc 609 0 0,.loc 610 0 0]),(9,.sl 2 (i.map QA)),(10,.I (i.length:Int)),(11,.I st)],[(609,.var (Qbr f)),(610,.var (Qe g))]⟩) (Sum.elim (fun q e σ=>e=.ret∧σ=⟨[(4,.I q.1),(5,.I q.2)],[(609,.var (Qbr f)),(610,.var (Qe g))]⟩) (fun q e σ=>e=.exit 0∧σ=⟨[],[(609,.var (Qbr f)),(610,.var (Qe g))]⟩)) j rfl ?_ ?_
 ·rintro u o σ rfl h
  refine tg_ hC [.n 6] rfl ?_
  rcases Qt h with⟨a,h⟩|⟨a,h⟩
  ·obtain⟨c,k,h⟩:=Qd h
   obtain⟨p,l,h⟩:=Qd h
   refine Qa hC [.T,.n 7,.o (.row (QA c)),.v .no [] (.agg (QA c)),.n 3,.O 7 (.var (QA c)),.n 6,.v .no [] (.agg (QA c)),.cm (.clo) [(609,609),(610,610)] [(609,609),(610,610)] [] [.d,.d,.d,.d] [(609,.var (Qbr f)),(610,.var (Qe g))] (.I p),.n 9] rfl ⟨⟨⟨⟨⟨⟨tt_,a⟩,(QF k)⟩,rfl⟩,rfl⟩,rfl⟩,(Qm4 _ _ _ _ l)⟩ ?_
   refine bg_ h (fun b h=>Qa hC [.T,.n 11,.K [4,5] [609,610]] rfl ⟨tt_,b⟩ ?_) fun b h=>Qa hC [.F,.n 7,.K [1,9,10,11] [609,610]] rfl ⟨tt_,b⟩ ?_
   ·cases h
    exact QaY rfl (an_ rfl rfl)
   cases h
   exact QV rfl rfl
  refine Qa hC [.F,.n 2,.K [] [609,610]] rfl ⟨tt_,a⟩ ?_
  cases h
  exact QW rfl (an_ rfl rfl)
 rcases m with(⟨s,t⟩|_)
 ·replace h:QcF s t=some r:=h
  rintro e σ ⟨rfl,rfl⟩
  refine tg_ hC [.n 2] rfl ?_
  cases h
  exact d2_ rfl rfl rfl ⟨rfl,rfl,tt_⟩
 replace h:QcG=some r:=h
 rintro e σ ⟨rfl,rfl⟩
 refine tg_ hC [.n 9] rfl ?_
 cases h
 exact d2_ rfl rfl rfl ⟨rfl,rfl,tt_⟩
def Qfl (b:Qm)(a:(List Qae)):Option Int:=
 (QdF a a b).bind fun c=>
 some c.2
theorem Qok (a b){r}(h:Qfl a b=some r):Qc prog 128 [.agg (Qe a),.sl 2 (b.map QA)] [] (Qh (.I r) []):=by
 refine Qc.walk 14 func128 rfl rfl rfl fun C hC=>?_
 obtain⟨e,c,h⟩:=Qd h
 refine Qa hC [.n 11,.cm (.fn) [(609,3),(610,2)] [(3,609),(2,610)] [] [.d,.d] [(609,.var (Qbr b)),(610,.var (Qe a))] (.tup [.I e.1,.I e.2]),.n 14] rfl ⟨tt_,(Ql8 _ _ _ c)⟩ ?_
 cases h
 exact d1_ rfl rfl tt_
def Qh7 (a:Qm)(b:Qw):Option Int:=
 (Qfl a b.Vars).bind fun c=>
 some c
theorem Qqd (a b){r}(h:Qh7 a b=some r):Qc prog 127 [.loc 609 0 0,.loc 610 0 0] [(609,.var (Qe a)),(610,.var (Qf b))] (Qh (.I r) [(609,.var (Qe a)),(610,.var (Qf b))]):=by
 refine Qc.walk 7 func127 rfl rfl rfl fun C hC=>?_
 obtain⟨f,e,h⟩:=Qd h
 refine Qa hC [.n 7,.v .no [] (.agg (Qe a)),.n 2,.o (.c false [.d,.d] (.I f)),.n 4] rfl ⟨⟨tt_,rfl⟩,(Qok _ _ e)⟩ ?_
 cases h
 exact d1_ rfl rfl ⟨rfl,rfl,tt_⟩
def Qha (b:Qm)(c:Qw)(d:Int):Option (Bool×Int):=
 (Qh7 b c).bind fun a=>
 some ((a==0),a)
theorem Qps (c e i){r}(h:Qha c e i=some r):Qc prog 184 [.loc 609 0 0,.loc 612 0 0] [(609,.var [.clo (.func 127) [] [.loc 610 0 0,.loc 611 0 0]]),(610,.var (Qe c)),(611,.var (Qf e)),(612,.var [.loc 613 0 0]),(613,.var (Qb i))] (Qh (.b r.1) [(609,.var [.clo (.func 127) [] [.loc 610 0 0,.loc 611 0 0]]),(610,.var (Qe c)),(611,.var (Qf e)),(612,.var [.loc 613 0 0]),(613,.var (Qb r.2))]):=by
 refine Qc.walk 11 func184 rfl rfl rfl fun C hC=>?_
 obtain⟨f,g,h⟩:=Qd h
 refine tg_ hC [.n 6,.K [0,1] [609,610,611,612,613]] rfl ?_
 refine AK.draw2 Qo hC mixed [.N,.N,.a (.any (.I f) none) none false,.N,.m .s] [] [] [1] [609,610,611,612,613] rfl rfl rfl ⟨tt_,(fun σ j k _=>Stp.callSame (md:=.cm (.clo) [(609,610),(610,611)] [(610,609),(611,610)] [] [.d,.d] [(609,.var (Qe c)),(610,.var (Qf e))] (.I f) [610,611]) Qo hC j k rfl ⟨⟨tt_,(Qqd _ _ g)⟩,⟨rfl,rfl,tt_⟩⟩)⟩ rfl (by kernel_rfl) rfl rfl rfl ?_
 refine Qa hC [.O 613 (.var (Qb f)),.n 11] rfl ⟨tt_,rfl⟩ ?_
 cases h
 exact d1_ rfl rfl ⟨rfl,rfl,rfl,rfl,rfl,tt_⟩
def Qf9 (e:Qw)(f:Qm)(a:Int)(c:Int):Option ((Int×Int)⊕(Unit⊕Int)):=
 bif (decide (c<(e.Vars.length:Int)))then
 (idx e.Vars c).bind fun d=>
 (Qgs f.Colours d.Colour).bind fun b=>
 bif (b==0)then
 some (.inr (.inl ()))
 else
 some (.inl ((min2 (w64 (a*b)) 1025),(w64 (c+1))))
 else
 some (.inr (.inr a))
def Qga : Option Int:=
 some 0
def Qgb (a:Int):Option Int:=
 some a
def QiY (a:Qm)(b:Int):Option Int:=
 (QbU a.Tasks b).bind fun c=>
 bif (!c)then
 some 0
 else
 (idx a.Tasks b).bind fun d=>
 (Qy (fun st=>Qf9 d a st.1 st.2) (1,0)).bind (Sum.elim (fun q=>Qga) (fun q=>Qgb q))
theorem Qq2 (s y){r}(h:QiY s y=some r):Qc prog 57 [.agg (Qe s),.I y] [] (Qh (.I r) []):=by
 refine Qc.walk 38 func57 rfl rfl rfl fun C hC=>?_
 obtain⟨A,t,h⟩:=Qd h
 refine Qa hC [.n 12,.o (.c false [.d,.d] (.b A)),.n 3] rfl ⟨tt_,(Qg9 _ _ t)⟩ ?_
 rcases Qt h with⟨g,h⟩|⟨g,h⟩
 ·refine Qa hC [.T,.n 7] rfl ⟨tt_,g⟩ ?_
  cases h
  exact d1_ rfl rfl tt_
 obtain⟨k,u,h⟩:=Qd h
 refine Qa hC [.F,.n 13,.o (.row (Qf k)),.n 2,.o (.ln k.Vars.length),.n 4,.K [2,5,19,20,21] [2]] rfl ⟨⟨⟨tt_,g⟩,(QF u)⟩,Qj⟩ ?_
 obtain⟨w,l,h⟩:=Qd h
 refine AK.loop (body:=(fun st=>Qf9 k s st.1 st.2)) (fun st σ=>σ=⟨[(2,.loc 2 0 0),(5,.I st.1),(19,.sl 2 (k.Vars.map QA)),(20,.I (k.Vars.length:Int)),(21,.I st.2)],[(2,.var (Qe s))]⟩) (Sum.elim (fun q e σ=>e=.ret∧σ=⟨[(4,.I 0)],[]⟩) (fun q e σ=>e=.exit 0∧σ=⟨[(5,.I q)],[]⟩)) l rfl ?_ ?_
 ·rintro ⟨z,B⟩ o σ rfl h
  refine tg_ hC [.n 6] rfl ?_
  rcases Qt h with⟨a,h⟩|⟨a,h⟩
  ·obtain⟨i,m,h⟩:=Qd h
   obtain⟨x,p,h⟩:=Qd h
   refine Qa hC [.T,.n 6,.o (.row (QA i)),.v .no [] (.agg (QA i)),.n 2,.O 7 (.var (QA i)),.n 8,.o (.c false [.d,.d] (.I x)),.n 10] rfl ⟨⟨⟨⟨⟨tt_,a⟩,(QF m)⟩,rfl⟩,rfl⟩,(QlR _ _ p)⟩ ?_
   refine bg_ h (fun f h=>Qa hC [.T,.n 9,.K [4] []] rfl ⟨tt_,f⟩ ?_) fun f h=>Qa hC [.F,.n 15,.K [2,5,19,20,21] [2]] rfl ⟨tt_,f⟩ ?_
   ·cases h
    exact QaY rfl (an_ rfl rfl)
   cases h
   exact QV rfl rfl
  refine Qa hC [.F,.n 2,.K [5] []] rfl ⟨tt_,a⟩ ?_
  cases h
  exact QW rfl (an_ rfl rfl)
 rcases w with(_ | j)
 ·replace h:Qga=some r:=h
  rintro e σ ⟨rfl,rfl⟩
  refine tg_ hC [.n 2] rfl ?_
  cases h
  exact d1_ rfl rfl tt_
 replace h:Qgb j=some r:=h
 rintro e σ ⟨rfl,rfl⟩
 refine tg_ hC [.n 9] rfl ?_
 cases h
 exact d1_ rfl rfl tt_
def Qh8 (a:Qm)(b:Int):Option Bool:=
 (QiY a b).bind fun c=>
 some (decide (c≤1024))
theorem Qqe (a e){r}(h:Qh8 a e=some r):Qc prog 129 [.loc 609 0 0,.loc 610 0 0] [(609,.var (Qe a)),(610,.var (Qb e))] (Qh (.b r) [(609,.var (Qe a)),(610,.var (Qb e))]):=by
 refine Qc.walk 7 func129 rfl rfl rfl fun C hC=>?_
 obtain⟨g,f,h⟩:=Qd h
 refine Qa hC [.n 7,.v .no [] (.agg (Qe a)),.n 1,.o (.c false [.d,.d] (.I g)),.n 5] rfl ⟨⟨tt_,rfl⟩,(Qq2 _ _ f)⟩ ?_
 cases h
 exact d1_ rfl rfl ⟨rfl,rfl,tt_⟩
def Qhb (c:Qk)(rec_expr_Depth:Qk→Option Int)(d:Int)(a:Int):Option ((Int×Int)⊕Int):=
 bif (decide (a<(c.Kids.length:Int)))then
 (idx c.Kids a).bind fun e=>
 (rec_expr_Depth e).bind fun b=>
 some (.inl ((max2 d b),(w64 (a+1))))
 else
 some (.inr d)
def QjH (a:Int):Option Int:=
 some (w64 (a+1))
def Qj1 (rec_expr_Depth:Qk→Option Int)(a:Qk):Option Int:=
 (Qy (fun st=>Qhb a rec_expr_Depth st.1 st.2) (0,0)).bind (fun q=>QjH q)
def QcQ : Nat→Qk→Option Int
 | 0,_=>none
 | n+1,a=>Qj1 (QcQ n) a
def QlW (a:Qk):Option Int:=QcQ (SizeOf.sizeOf a) a
theorem Qqf (rec_expr_Depth:Qk→Option Int)(hrec_expr_Depth:∀(a:Qk) {r:Int},rec_expr_Depth a=some r→Qc prog 192 [.agg (Qp a)] [] (Qh (.I r) []))(a:Qk){r:Int}(h:Qj1 rec_expr_Depth a=some r):Qc prog 192 [.agg (Qp a)] [] (Qh (.I r) []):=by
 refine Qc.walk 20 func192 rfl rfl rfl fun C hC=>?_
 refine Qa hC [.n 16,.o (.ln a.Kids.length),.n 4,.K [3,7,8,9] []] rfl ⟨tt_,QhN _⟩ ?_
 obtain⟨l,f,h⟩:=Qd h
 refine AK.loop (body:=(fun st=>Qhb a rec_expr_Depth st.1 st.2)) (fun st σ=>σ=⟨[(3,.I st.1),(7,.sl 3 (Qa0 a.Kids)),(8,.I (a.Kids.length:Int)),(9,.I st.2)],[]⟩) (fun q e σ=>e=.exit 0∧σ=⟨[(3,.I q)],[]⟩) f rfl ?_ ?_
 ·rintro ⟨m,p⟩ o σ rfl h
  refine tg_ hC [.n 6] rfl ?_
  rcases Qt h with⟨b,h⟩|⟨b,h⟩
  ·obtain⟨i,j,h⟩:=Qd h
   obtain⟨k,g,h⟩:=Qd h
   refine Qa hC [.T,.n 6,.o (.row (Qp i)),.v .no [] (.agg (Qp i)),.n 2,.O 5 (.var (Qp i)),.n 4,.v .no [] (.agg (Qp i)),.o (.c false [.d] (.I k)),.n 9,.K [3,7,8,9] []] rfl ⟨⟨⟨⟨⟨⟨tt_,b⟩,(Qlb j)⟩,rfl⟩,rfl⟩,rfl⟩,(hrec_expr_Depth _ g)⟩ ?_
   cases h
   exact QV rfl rfl
  refine Qa hC [.F,.n 2,.K [3] []] rfl ⟨tt_,b⟩ ?_
  cases h
  exact QW rfl (an_ rfl rfl)
 replace h:QjH l=some r:=h
 rintro e σ ⟨rfl,rfl⟩
 refine tg_ hC [.n 10] rfl ?_
 cases h
 exact d1_ rfl rfl tt_
theorem QkW : ∀(fuel:Nat) (a:Qk) {r:Int},QcQ fuel a=some r→Qc prog 192 [.agg (Qp a)] [] (Qh (.I r) [])
 | 0,_,_,h=>by cases h
 | n+1,a,_,h=>Qqf (QcQ n) (fun _ _ h=>QkW n _ h) a h
theorem QrK (a){r}(h:QlW a=some r):Qc prog 192 [.agg (Qp a)] [] (Qh (.I r) []):=QkW _ a h
def Qh9 (c:Qk)(rec_expr_Size:Qk→Option Int)(d:Int)(a:Int):Option ((Int×Int)⊕Int):=
 bif (decide (a<(c.Kids.length:Int)))then
 (idx c.Kids a).bind fun e=>
 (rec_expr_Size e).bind fun b=>
 some (.inl ((w64 (d+b)),(w64 (a+1))))
 else
 some (.inr d)
def Qj2 (a:Int):Option Int:=
 some a
def QkD (rec_expr_Size:Qk→Option Int)(a:Qk):Option Int:=
 (Qy (fun st=>Qh9 a rec_expr_Size st.1 st.2) (1,0)).bind (fun q=>Qj2 q)
def Qdu : Nat→Qk→Option Int
 | 0,_=>none
 | n+1,a=>QkD (Qdu n) a
def Qm5 (a:Qk):Option Int:=Qdu (SizeOf.sizeOf a) a
theorem Qq3 (rec_expr_Size:Qk→Option Int)(hrec_expr_Size:∀(a:Qk) {r:Int},rec_expr_Size a=some r→Qc prog 193 [.agg (Qp a)] [] (Qh (.I r) []))(a:Qk){r:Int}(h:QkD rec_expr_Size a=some r):Qc prog 193 [.agg (Qp a)] [] (Qh (.I r) []):=by
 refine Qc.walk 19 func193 rfl rfl rfl fun C hC=>?_
 refine Qa hC [.n 16,.o (.ln a.Kids.length),.n 4,.K [3,7,8,9] []] rfl ⟨tt_,QhN _⟩ ?_
 obtain⟨l,f,h⟩:=Qd h
 refine AK.loop (body:=(fun st=>Qh9 a rec_expr_Size st.1 st.2)) (fun st σ=>σ=⟨[(3,.I st.1),(7,.sl 3 (Qa0 a.Kids)),(8,.I (a.Kids.length:Int)),(9,.I st.2)],[]⟩) (fun q e σ=>e=.exit 0∧σ=⟨[(3,.I q)],[]⟩) f rfl ?_ ?_
 ·rintro ⟨m,p⟩ o σ rfl h
  refine tg_ hC [.n 6] rfl ?_
  rcases Qt h with⟨b,h⟩|⟨b,h⟩
  ·obtain⟨i,j,h⟩:=Qd h
   obtain⟨k,g,h⟩:=Qd h
   refine Qa hC [.T,.n 6,.o (.row (Qp i)),.v .no [] (.agg (Qp i)),.n 2,.O 5 (.var (Qp i)),.n 4,.v .no [] (.agg (Qp i)),.o (.c false [.d] (.I k)),.n 9,.K [3,7,8,9] []] rfl ⟨⟨⟨⟨⟨⟨tt_,b⟩,(Qlb j)⟩,rfl⟩,rfl⟩,rfl⟩,(hrec_expr_Size _ g)⟩ ?_
   cases h
   exact QV rfl rfl
  refine Qa hC [.F,.n 2,.K [3] []] rfl ⟨tt_,b⟩ ?_
  cases h
  exact QW rfl (an_ rfl rfl)
 replace h:Qj2 l=some r:=h
 rintro e σ ⟨rfl,rfl⟩
 refine tg_ hC [.n 9] rfl ?_
 cases h
 exact d1_ rfl rfl tt_
theorem QlX : ∀(fuel:Nat) (a:Qk) {r:Int},Qdu fuel a=some r→Qc prog 193 [.agg (Qp a)] [] (Qh (.I r) [])
 | 0,_,_,h=>by cases h
 | n+1,a,_,h=>Qq3 (Qdu n) (fun _ _ h=>QlX n _ h) a h
theorem Qst (a){r}(h:Qm5 a=some r):Qc prog 193 [.agg (Qp a)] [] (Qh (.I r) []):=QlX _ a h
def Qfz (a:Int)(b:Bool):Option Int:=
 bif b then
 some 1
 else
 bif (a==5)then
 some 2
 else
 bif (a==6)then
 some 3
 else
 some (-1)
def QfA (a:Int)(b:Bool):Option Int:=
 bif b then
 some 0
 else
 bif (a==3)then
 Qfz a (a==3)
 else
 Qfz a (a==4)
def Qkl (a:Int):Option Int:=
 bif (a==1)then
 QfA a (a==1)
 else
 QfA a (a==2)
theorem Qsu (a){r}(h:Qkl a=some r):Qc prog 228 [.I a] [] (Qh (.I r) []):=by
 refine Qc.walk 14 func228 rfl rfl rfl fun C hC=>?_
 refine tg_ hC [.n 12] rfl ?_
 refine AK.meet (fun σ=>∃j:Bool,σ=⟨[(3,.I a),(4,.b j)],[]⟩∧QfA a j=some r) ?_ ?_
 ·refine tg_ hC [.n 6] rfl ?_
  refine bg_ h (fun c h=>Qa hC [.T,.n 1,.K [3,4] []] rfl ⟨tt_,c⟩ ?_) fun c h=>Qa hC [.F,.n 4,.K [3,4] []] rfl ⟨tt_,c⟩ ?_
  ·exact AK.met (ex_ _ (an_ rfl h))
  exact AK.met (ex_ _ (an_ rfl h))
 rintro σ ⟨j,rfl,h⟩
 refine bg_ h (fun e h=>Qa hC [.T,.n 8,.K [2] []] rfl ⟨tt_,e⟩ ?_) fun e h=>Qa hC [.F] rfl ⟨tt_,e⟩ ?_
 ·cases h
  exact d1_ rfl rfl tt_
 refine AK.meet (fun σ=>∃k:Bool,σ=⟨[(3,.I a),(7,.b k)],[]⟩∧Qfz a k=some r) ?_ ?_
 ·refine tg_ hC [.n 6] rfl ?_
  refine bg_ h (fun d h=>Qa hC [.T,.n 1,.K [3,7] []] rfl ⟨tt_,d⟩ ?_) fun d h=>Qa hC [.F,.n 4,.K [3,7] []] rfl ⟨tt_,d⟩ ?_
  ·exact AK.met (ex_ _ (an_ rfl h))
  exact AK.met (ex_ _ (an_ rfl h))
 rintro σ ⟨k,rfl,h⟩
 refine bg_ h (fun f h=>Qa hC [.T,.n 8,.K [2] []] rfl ⟨tt_,f⟩ ?_) fun f h=>Qa hC [.F,.n 6] rfl ⟨tt_,f⟩ ?_
 ·cases h
  exact d1_ rfl rfl tt_
 refine bg_ h (fun g h=>Qa hC [.T,.n 8,.K [2] []] rfl ⟨tt_,g⟩ ?_) fun g h=>Qa hC [.F,.n 6] rfl ⟨tt_,g⟩ ?_
 ·cases h
  exact d1_ rfl rfl tt_
 refine bg_ h (fun i h=>Qa hC [.T,.n 8,.K [2] []] rfl ⟨tt_,i⟩ ?_) fun i h=>Qa hC [.F,.n 9,.K [2] []] rfl ⟨tt_,i⟩ ?_
 ·cases h
  exact d1_ rfl rfl tt_
 cases h
 exact d1_ rfl rfl tt_
def QjI (op1:Int):Option Bool:=
 some ((decide (1≤op1))&&(decide (op1≤11)))
theorem QrL (op1){r}(h:QjI op1=some r):Qc prog 229 [.I op1] [] (Qh (.b r) []):=by
 refine Qc.walk 9 func229 rfl rfl rfl fun C hC=>?_
 refine tg_ hC [.n 6] rfl ?_
 refine AK.meetX (fun σ=>σ=⟨[(2,.b ((decide (1≤op1))&&(decide (op1≤11))))],[]⟩) ?_ ?_
 ·refine tg_ hC [.n 4] rfl ?_
  rcases QS (decide (1≤op1))with a | a
  ·refine Qa hC [.S 5 (.b true),.n 5,.S 2 (.b ((decide (1≤op1))&&(decide (op1≤11)))),.K [2] []] rfl ⟨(tc_ a),(congrArg V.b (QbB a rfl))⟩ ?_
   exact AK.met rfl
  refine Qa hC [.S 5 (.b false),.n 5,.S 2 (.b ((decide (1≤op1))&&(decide (op1≤11)))),.K [2] []] rfl ⟨(tc_ a),(congrArg V.b (Qdq a rfl))⟩ ?_
  exact AK.met rfl
 rintro σ rfl
 refine tg_ hC [.n 2] rfl ?_
 cases h
 exact d1_ rfl rfl tt_
def Qj3 (rec_expr_parts:Qk→Int→Option Bool)(a:Qk)(b:Int):Option Bool:=
 (rec_expr_parts a b).bind fun c=>
 some (!c)
theorem Qqg (rec_expr_parts:Qk→Int→Option Bool)(hrec_expr_parts:∀(i:Qk) (a:Int) {r:Bool},rec_expr_parts i a=some r→Qc prog 194 [.agg (Qp i),.I a] [] (Qh (.b r) []))(e:Qk)(f:Int){r:Bool}(h:Qj3 rec_expr_parts e f=some r):Qc prog 231 [.agg (Qp e),.loc 609 0 0] [(609,.var (Qb f))] (Qh (.b r) [(609,.var (Qb f))]):=by
 refine Qc.walk 8 func231 rfl rfl rfl fun C hC=>?_
 obtain⟨j,g,h⟩:=Qd h
 refine Qa hC [.n 8,.v .no [] (.agg (Qp e)),.n 1,.o (.c false [.d,.d] (.b j)),.n 5] rfl ⟨⟨tt_,rfl⟩,(hrec_expr_parts _ _ g)⟩ ?_
 cases h
 exact d1_ rfl rfl ⟨rfl,tt_⟩
def QaB (c:(List Qk))(rec_expr_parts:Qk→Int→Option Bool)(d:Int)(a:Int):Option (Int⊕(Int⊕Unit)):=
 bif (decide (a<(c.length:Int)))then
 (idx c a).bind fun e=>
 (Qj3 rec_expr_parts e d).bind fun b=>
 bif b then
 some (.inr (.inl a))
 else
 some (.inl (w64 (a+1)))
 else
 some (.inr (.inr ()))
def Qcv (a:Int):Option Int:=
 some a
def Qcw : Option Int:=
 some (-1)
def QbF (rec_expr_parts:Qk→Int→Option Bool)(a:(List Qk))(b:Int):Option Int:=
 (Qy (fun st=>QaB a rec_expr_parts b st) 0).bind (Sum.elim (fun q=>Qcv q) (fun q=>Qcw))
theorem Qgu (rec_expr_parts:Qk→Int→Option Bool)(hrec_expr_parts:∀(s:Qk) (a:Int) {r:Bool},rec_expr_parts s a=some r→Qc prog 194 [.agg (Qp s),.I a] [] (Qh (.b r) []))(i:(List Qk))(f:Int){r:Int}(h:QbF rec_expr_parts i f=some r):Qc prog 245 [.sl 3 (Qa0 i),.clo (.func 231) [] [.loc 609 0 0]] [(609,.var (Qb f))] (Qh (.I r) [(609,.var (Qb f))]):=by
 refine Qc.walk 19 func245 rfl rfl rfl fun C hC=>?_
 refine Qa hC [.n 9,.o (.ln i.length),.n 4,.K [0,1,7,8] [609]] rfl ⟨tt_,QhN _⟩ ?_
 obtain⟨l,j,h⟩:=Qd h
 refine AK.loop (body:=(fun st=>QaB i rec_expr_parts f st)) (fun st σ=>σ=⟨[(0,.sl 3 (Qa0 i)),(1,.clo (.func 231) [] [.loc 609 0 0]),(7,.I (i.length:Int)),(8,.I st)],[(609,.var (Qb f))]⟩) (Sum.elim (fun q e σ=>e=.ret∧σ=⟨[(4,.I q)],[(609,.var (Qb f))]⟩) (fun q e σ=>e=.exit 0∧σ=⟨[],[(609,.var (Qb f))]⟩)) j rfl ?_ ?_
 ·rintro w o σ rfl h
  refine tg_ hC [.n 6] rfl ?_
  rcases Qt h with⟨g,h⟩|⟨g,h⟩
  ·obtain⟨t,m,h⟩:=Qd h
   obtain⟨p,k,h⟩:=Qd h
   refine Qa hC [.T,.n 15,.o (.row (Qp t)),.v .no [] (.agg (Qp t)),.cm (.clo) [(609,609)] [(609,609)] [] [.d,.d] [(609,.var (Qb f))] (.b p),.n 2] rfl ⟨⟨⟨⟨tt_,g⟩,(Qlb m)⟩,rfl⟩,(Qqg rec_expr_parts hrec_expr_parts _ _ k)⟩ ?_
   refine bg_ h (fun c h=>Qa hC [.T,.n 9,.K [4] [609]] rfl ⟨tt_,c⟩ ?_) fun c h=>Qa hC [.F,.n 7,.K [0,1,7,8] [609]] rfl ⟨tt_,c⟩ ?_
   ·cases h
    exact QaY rfl (an_ rfl rfl)
   cases h
   exact QV rfl rfl
  refine Qa hC [.F,.n 2,.K [] [609]] rfl ⟨tt_,g⟩ ?_
  cases h
  exact QW rfl (an_ rfl rfl)
 rcases l with(u | _)
 ·replace h:Qcv u=some r:=h
  rintro e σ ⟨rfl,rfl⟩
  refine tg_ hC [.n 2] rfl ?_
  cases h
  exact d1_ rfl rfl ⟨rfl,tt_⟩
 replace h:Qcw=some r:=h
 rintro e σ ⟨rfl,rfl⟩
 refine tg_ hC [.n 8] rfl ?_
 cases h
 exact d1_ rfl rfl ⟨rfl,tt_⟩
def QaC (rec_expr_parts:Qk→Int→Option Bool)(a:(List Qk))(b:Int):Option Bool:=
 (QbF rec_expr_parts a b).bind fun c=>
 some (decide (0≤c))
theorem QfB (rec_expr_parts:Qk→Int→Option Bool)(hrec_expr_parts:∀(f:Qk) (a:Int) {r:Bool},rec_expr_parts f a=some r→Qc prog 194 [.agg (Qp f),.I a] [] (Qh (.b r) []))(g:(List Qk))(c:Int){r:Bool}(h:QaC rec_expr_parts g c=some r):Qc prog 230 [.sl 3 (Qa0 g),.clo (.func 231) [] [.loc 609 0 0]] [(609,.var (Qb c))] (Qh (.b r) [(609,.var (Qb c))]):=by
 refine Qc.walk 9 func230 rfl rfl rfl fun C hC=>?_
 obtain⟨i,e,h⟩:=Qd h
 refine Qa hC [.n 9,.cm (.fn) [(609,609)] [(609,609)] [] [.d,.d] [(609,.var (Qb c))] (.I i),.n 5] rfl ⟨tt_,(Qgu rec_expr_parts hrec_expr_parts _ _ e)⟩ ?_
 cases h
 exact d1_ rfl rfl ⟨rfl,tt_⟩
def QmK (b:Qk):Option Bool:=
 bif (b.Kind==5)then
 (QjI b.Num).bind fun a=>
 some (!a)
 else
 some false
def Qhc (rec_expr_parts:Qk→Int→Option Bool)(d:Qk)(a:Int)(b:Bool):Option Bool:=
 bif b then
 some false
 else
 (QaC rec_expr_parts d.Kids a).bind fun c=>
 some (!c)
def Qj4 (rec_expr_parts:Qk→Int→Option Bool)(b:Qk)(a:Int):Option Bool:=
 (Qkl b.Kind).bind fun d=>
 bif ((b.Kids.length:Int) != d)then
 some false
 else
 bif ((b.Kind==2)&&((decide (b.Num<0))||(decide (a≤b.Num))))then
 some false
 else
 (QmK b).bind (fun c=>Qhc rec_expr_parts b a c)
def QcR : Nat→Qk→Int→Option Bool
 | 0,_,_=>none
 | n+1,b,a=>Qj4 (QcR n) b a
def QlY (b:Qk)(a:Int):Option Bool:=QcR (SizeOf.sizeOf b) b a
theorem Qqh (rec_expr_parts:Qk→Int→Option Bool)(hrec_expr_parts:∀(f:Qk) (e:Int) {r:Bool},rec_expr_parts f e=some r→Qc prog 194 [.agg (Qp f),.I e] [] (Qh (.b r) []))(f:Qk)(e:Int){r:Bool}(h:Qj4 rec_expr_parts f e=some r):Qc prog 194 [.agg (Qp f),.I e] [] (Qh (.b r) []):=by
 refine Qc.walk 43 func194 rfl rfl rfl fun C hC=>?_
 obtain⟨x,u,h⟩:=Qd h
 refine tg_ hC [.n 10,.K [2,3] [2,3]] rfl ?_
 refine AK.draw2 Qo hC mixed [.N,.N,.a (.ln f.Kids.length) none false,.N,.N,.a (.c false [.d] (.I x)) none false,.N,.N] [] [] [2,3,5] [2,3] rfl rfl rfl ⟨⟨tt_,QhN _⟩,(Qsu _ u)⟩ rfl (by kernel_rfl) rfl rfl rfl ?_
 refine tg_ hC [.n 1] rfl ?_
 refine bg_ h (fun m h=>Qa hC [.T,.n 8,.K [4] []] rfl ⟨tt_,m⟩ ?_) fun m h=>Qa hC [.F,.n 1] rfl ⟨tt_,m⟩ ?_
 ·cases h
  exact d1_ rfl rfl tt_
 refine AK.meetX (fun σ=>σ=⟨[(2,.loc 2 0 0),(3,.loc 3 0 0),(13,.b ((f.Kind==2)&&((decide (f.Num<0))||(decide (e≤f.Num)))))],[(2,.var (Qp f)),(3,.var (Qb e))]⟩) ?_ ?_
 ·refine tg_ hC [.n 5] rfl ?_
  rcases QS (f.Kind==2)with g | g
  ·refine Qa hC [.S 17 (.b true),.n 4] rfl (tc_ g) ?_
   rcases QS (decide (f.Num<0))with i | i
   ·refine Qa hC [.S 21 (.b true),.n 8,.S 13 (.b ((f.Kind==2)&&((decide (f.Num<0))||(decide (e≤f.Num))))),.K [2,3,13] [2,3]] rfl ⟨(tc_ i),(congrArg V.b (QbB g (orT i rfl)))⟩ ?_
    exact AK.met rfl
   refine Qa hC [.S 21 (.b false),.n 8,.S 13 (.b ((f.Kind==2)&&((decide (f.Num<0))||(decide (e≤f.Num))))),.K [2,3,13] [2,3]] rfl ⟨(tc_ i),(congrArg V.b (QbB g (orF i rfl)))⟩ ?_
   exact AK.met rfl
  refine Qa hC [.S 17 (.b false),.n 12,.S 13 (.b ((f.Kind==2)&&((decide (f.Num<0))||(decide (e≤f.Num))))),.K [2,3,13] [2,3]] rfl ⟨(tc_ g),(congrArg V.b (Qdq g rfl))⟩ ?_
  exact AK.met rfl
 rintro σ rfl
 refine tg_ hC [.n 1] rfl ?_
 refine bg_ h (fun j h=>Qa hC [.T,.n 8,.K [4] []] rfl ⟨tt_,j⟩ ?_) fun j h=>Qa hC [.F,.n 1] rfl ⟨tt_,j⟩ ?_
 ·cases h
  exact d1_ rfl rfl tt_
 obtain⟨p,q,h⟩:=Qd h
 replace h:Qhc rec_expr_parts f e p=some r:=h
 refine AK.meetX (fun σ=>σ=⟨[(2,.loc 2 0 0),(3,.loc 3 0 0),(28,.b p)],[(2,.var (Qp f)),(3,.var (Qb e))]⟩) ?_ ?_
 ·replace h:=q
  refine tg_ hC [.n 5] rfl ?_
  rcases Qt h with⟨k,h⟩|⟨k,h⟩
  ·obtain⟨v,s,h⟩:=Qd h
   refine Qa hC [.S 32 (.b true),.n 2,.o (.c false [.d] (.b v)),.n 4,.K [2,3,28] [2,3]] rfl ⟨(tc_ k),(QrL _ s)⟩ ?_
   cases h
   exact AK.met rfl
  refine Qa hC [.S 32 (.b false),.n 7,.K [2,3,28] [2,3]] rfl (tc_ k) ?_
  cases h
  exact AK.met rfl
 rintro σ rfl
 replace h:Qhc rec_expr_parts f e p=some r:=h
 refine tg_ hC [.n 1] rfl ?_
 rcases Qt h with⟨l,h⟩|⟨l,h⟩
 ·refine Qa hC [.T,.n 8] rfl ⟨tt_,l⟩ ?_
  cases h
  exact d1_ rfl rfl tt_
 obtain⟨w,t,h⟩:=Qd h
 refine Qa hC [.F,.n 8,.cm (.fn) [(609,3)] [(3,609)] [] [.d,.d] [(609,.var (Qb e))] (.b w),.n 5] rfl ⟨⟨tt_,l⟩,(QfB rec_expr_parts hrec_expr_parts _ _ t)⟩ ?_
 cases h
 exact d1_ rfl rfl tt_
theorem QkX : ∀(fuel:Nat) (c:Qk) (a:Int) {r:Bool},QcR fuel c a=some r→Qc prog 194 [.agg (Qp c),.I a] [] (Qh (.b r) [])
 | 0,_,_,_,h=>by cases h
 | n+1,c,a,_,h=>Qqh (QcR n) (fun _ _ _ h=>QkX n _ _ h) c a h
theorem QrM (c a){r}(h:QlY c a=some r):Qc prog 194 [.agg (Qp c),.I a] [] (Qh (.b r) []):=QkX _ c a h
def QmL (b:Qk)(a:Int):Option Bool:=
 (QlW b).bind fun d=>
 bif (decide (d≤40))then
 (Qm5 b).bind fun e=>
 bif (decide (e≤400))then
 (QlY b a).bind fun c=>
 some c
 else
 some false
 else
 some false
def QjJ (a:Bool):Option Bool:=
 some a
def QhA (b:Qk)(a:Int):Option Bool:=
 (QmL b a).bind (fun c=>QjJ c)
theorem QmM (g a){r}(h:QhA g a=some r):Qc prog 131 [.agg (Qp g),.I a] [] (Qh (.b r) []):=by
 refine Qc.walk 18 func131 rfl rfl rfl fun C hC=>?_
 refine tg_ hC [.n 7] rfl ?_
 obtain⟨j,k,h⟩:=Qd h
 replace h:QjJ j=some r:=h
 refine AK.meetX (fun σ=>σ=⟨[(4,.b j)],[]⟩) ?_ ?_
 ·replace h:=k
  obtain⟨q,l,h⟩:=Qd h
  refine Qa hC [.n 1,.v .no [] (.agg (Qp g)),.o (.c false [.d] (.I q)),.n 2] rfl ⟨⟨tt_,rfl⟩,(QrK _ l)⟩ ?_
  rcases Qt h with⟨e,h⟩|⟨e,h⟩
  ·obtain⟨s,m,h⟩:=Qd h
   refine Qa hC [.S 8 (.b true),.v .no [] (.agg (Qp g)),.o (.c false [.d] (.I s)),.n 3] rfl ⟨⟨(tc_ e),rfl⟩,(Qst _ m)⟩ ?_
   rcases Qt h with⟨f,h⟩|⟨f,h⟩
   ·obtain⟨p,i,h⟩:=Qd h
    refine Qa hC [.S 13 (.b true),.v .no [] (.agg (Qp g)),.n 1,.o (.c false [.d,.d] (.b p)),.n 3,.K [4] []] rfl ⟨⟨(tc_ f),rfl⟩,(QrM _ _ i)⟩ ?_
    cases h
    exact AK.met rfl
   refine Qa hC [.S 13 (.b false),.n 6,.K [4] []] rfl (tc_ f) ?_
   cases h
   exact AK.met rfl
  refine Qa hC [.S 8 (.b false),.n 11,.K [4] []] rfl (tc_ e) ?_
  cases h
  exact AK.met rfl
 rintro σ rfl
 replace h:QjJ j=some r:=h
 refine tg_ hC [.n 2] rfl ?_
 cases h
 exact d1_ rfl rfl tt_
def QkY (a:Qw)(b:Int):Option Bool:=
 (QhA a.Guard b).bind fun c=>
 bif c then
 bif (decide (0<(a.Ins.length:Int)))then
 some (decide (0<(a.Outs.length:Int)))
 else
 some false
 else
 some false
def Qfm (a:Bool):Option Bool:=
 some a
def Qia (a:Qw)(b:Int):Option Bool:=
 (QkY a b).bind (fun c=>Qfm c)
theorem Qqi (a g){r}(h:Qia a g=some r):Qc prog 130 [.loc 609 0 0,.loc 610 0 0] [(609,.var (Qf a)),(610,.var (Qb g))] (Qh (.b r) [(609,.var (Qf a)),(610,.var (Qb g))]):=by
 refine Qc.walk 19 func130 rfl rfl rfl fun C hC=>?_
 refine tg_ hC [.n 6] rfl ?_
 obtain⟨i,j,h⟩:=Qd h
 replace h:Qfm i=some r:=h
 refine AK.meetX (fun σ=>σ=⟨[(2,.b i)],[(609,.var (Qf a)),(610,.var (Qb g))]⟩) ?_ ?_
 ·replace h:=j
  obtain⟨l,k,h⟩:=Qd h
  refine Qa hC [.n 2,.v .no [] (.agg (Qp a.Guard)),.n 1,.o (.c false [.d,.d] (.b l)),.n 1] rfl ⟨⟨tt_,rfl⟩,(QmM _ _ k)⟩ ?_
  refine bg_ h (fun e h=>Qa hC [.S 7 (.b true),.n 2,.o (.ln a.Ins.length),.n 3] rfl ⟨(tc_ e),Qj⟩ ?_) fun e h=>Qa hC [.S 7 (.b false),.n 13,.K [2] [609,610]] rfl (tc_ e) ?_
  ·refine bg_ h (fun f h=>Qa hC [.S 13 (.b true),.n 2,.o (.ln a.Outs.length),.n 4,.K [2] [609,610]] rfl ⟨(tc_ f),Qj⟩ ?_) fun f h=>Qa hC [.S 13 (.b false),.n 7,.K [2] [609,610]] rfl (tc_ f) ?_
   ·cases h
    exact AK.met rfl
   cases h
   exact AK.met rfl
  cases h
  exact AK.met rfl
 rintro σ rfl
 replace h:Qfm i=some r:=h
 refine tg_ hC [.n 2] rfl ?_
 cases h
 exact d1_ rfl rfl ⟨rfl,rfl,tt_⟩
def Qgc (a:Qm)(b:QP):Option Bool:=
 (Qai a.Places b.Place).bind fun c=>
 some c
theorem QoL (a e){r}(h:Qgc a e=some r):Qc prog 197 [.loc 609 0 0,.loc 610 0 0] [(609,.var (Qe a)),(610,.var (QR e))] (Qh (.b r) [(609,.var (Qe a)),(610,.var (QR e))]):=by
 refine Qc.walk 8 func197 rfl rfl rfl fun C hC=>?_
 obtain⟨g,f,h⟩:=Qd h
 refine Qa hC [.n 11,.o (.c false [.d,.d] (.b g)),.n 4] rfl ⟨tt_,(Qbj _ _ f)⟩ ?_
 cases h
 exact d1_ rfl rfl ⟨rfl,rfl,tt_⟩
def Qgd (a:QP)(b:Int):Option Bool:=
 (QhA a.Expr b).bind fun c=>
 some c
theorem QoM (a e){r}(h:Qgd a e=some r):Qc prog 198 [.loc 609 0 0,.loc 610 0 0] [(609,.var (QR a)),(610,.var (Qb e))] (Qh (.b r) [(609,.var (QR a)),(610,.var (Qb e))]):=by
 refine Qc.walk 7 func198 rfl rfl rfl fun C hC=>?_
 obtain⟨g,f,h⟩:=Qd h
 refine Qa hC [.n 8,.v .no [] (.agg (Qp a.Expr)),.n 1,.o (.c false [.d,.d] (.b g)),.n 4] rfl ⟨⟨tt_,rfl⟩,(QmM _ _ f)⟩ ?_
 cases h
 exact d1_ rfl rfl ⟨rfl,rfl,tt_⟩
def Qge (c:Qm)(b:QP)(d:Int)(e:Int)(f:Int):Option Int:=
 (Qgc c b).bind fun g=>
 bif (!g)then
 some d
 else
 (Qgd b e).bind fun a=>
 bif (!a)then
 some f
 else
 some 0
theorem QoN (i e j k l){r}(h:Qge i e j k l=some r):Qc prog 64 [.own 609 2] [(609,.var [.clo (.func 197) [] [.loc 610 0 0,.loc 611 0 0],.I j,.clo (.func 198) [] [.loc 611 0 0,.loc 612 0 0],.I l]),(610,.var (Qe i)),(611,.var (QR e)),(612,.var (Qb k))] (Qh (.I r) [(609,.var [.clo (.func 197) [] [.loc 610 0 0,.loc 611 0 0],.I j,.clo (.func 198) [] [.loc 611 0 0,.loc 612 0 0],.I l]),(610,.var (Qe i)),(611,.var (QR e)),(612,.var (Qb k))]):=by
 refine Qc.walk 18 func64 rfl rfl rfl fun C hC=>?_
 refine tg_ hC [.n 14] rfl ?_
 refine AK.loopN 3 (AK.rnd ?_)
 obtain⟨s,m,h⟩:=Qd h
 refine Qa hC [.n 2,.v .no [] (.b true),.n 10,.o (.any (.loc 609 0 0) none),.n 3,.O 4 (.var [.clo (.func 197) [] [.loc 610 0 0,.loc 611 0 0],.I j]),.n 6,.cm (.clo) [(609,610),(610,611)] [(610,609),(611,610)] [] [.d,.d] [(609,.var (Qe i)),(610,.var (QR e))] (.b s),.n 3] rfl ⟨⟨⟨⟨tt_,rfl⟩,(fun σ f p _=>Stp.idxV rfl rfl (QC hC.n rfl) (f _ _ rfl) (f _ _ rfl) (Qo.es rfl) (p _ _ rfl) (by decide))⟩,rfl⟩,(QoL _ _ m)⟩ ?_
 refine bg_ h (fun c h=>Qa hC [.T,.n 13,.K [2] [609,610,611,612]] rfl ⟨tt_,c⟩ ?_) fun c h=>Qa hC [.F,.n 4,.v .no [] (.I 1),.n 2] rfl ⟨⟨tt_,c⟩,rfl⟩ ?_
 ·cases h
  exact d1_ rfl rfl ⟨rfl,rfl,rfl,rfl,tt_⟩
 refine AK.met (AK.rnd ?_)
 obtain⟨q,g,h⟩:=Qd h
 refine Qa hC [.n 2,.v .no [] (.b true),.n 10,.o (.any (.loc 609 0 2) none),.n 1,.kill 4,.n 2,.O 4 (.var [.clo (.func 198) [] [.loc 611 0 0,.loc 612 0 0],.I l]),.n 6,.cm (.clo) [(609,611),(610,612)] [(611,609),(612,610)] [] [.d,.d] [(609,.var (QR e)),(610,.var (Qb k))] (.b q),.n 3] rfl ⟨⟨⟨⟨tt_,rfl⟩,(fun σ f p _=>Stp.idxV rfl rfl (QC hC.n rfl) (f _ _ rfl) (f _ _ rfl) (Qo.es rfl) (p _ _ rfl) (by decide))⟩,rfl⟩,(QoM _ _ g)⟩ ?_
 refine bg_ h (fun a h=>Qa hC [.T,.n 13,.K [2] [609,610,611,612]] rfl ⟨tt_,a⟩ ?_) fun a h=>Qa hC [.F,.n 4,.v .no [] (.I 2),.n 2] rfl ⟨⟨tt_,a⟩,rfl⟩ ?_
 ·cases h
  exact d1_ rfl rfl ⟨rfl,rfl,rfl,rfl,tt_⟩
 refine AK.met (AK.rnd ?_)
 refine Qa hC [.n 2,.v .no [] (.b false),.n 15] rfl ⟨tt_,rfl⟩ ?_
 cases h
 exact d1_ rfl rfl ⟨rfl,rfl,rfl,rfl,tt_⟩
def Qib (e:Int)(a:QP)(b:Qm)(c:Int):Option Int:=
 (Qge b a 3 c 1).bind fun d=>
 some d
theorem Qqj (f c a b){r}(h:Qib f c a b=some r):Qc prog 196 [.I f,.agg (QR c),.loc 609 0 0,.loc 610 0 0] [(609,.var (Qe a)),(610,.var (Qb b))] (Qh (.I r) [(609,.var (Qe a)),(610,.var (Qb b))]):=by
 refine Qc.walk 13 func196 rfl rfl rfl fun C hC=>?_
 obtain⟨g,e,h⟩:=Qd h
 refine Qa hC [.n 9,.v .no [] (.agg [.clo (.func 197) [] [.loc 609 0 0,.loc 5 0 0],.I 3]),.n 1,.v .no [] (.agg [.clo (.func 198) [] [.loc 5 0 0,.loc 610 0 0],.I 1]),.o (.any (.own 11 2) (some (.var [.clo (.func 197) [] [.loc 609 0 0,.loc 5 0 0],.I 3,.clo (.func 198) [] [.loc 5 0 0,.loc 610 0 0],.I 1]))),.cm (.fn) [(609,11),(610,609),(611,5),(612,610)] [(11,609),(609,610),(5,611),(610,612)] [] [.d] [(609,.var [.clo (.func 197) [] [.loc 610 0 0,.loc 611 0 0],.I 3,.clo (.func 198) [] [.loc 611 0 0,.loc 612 0 0],.I 1]),(610,.var (Qe a)),(611,.var (QR c)),(612,.var (Qb b))] (.I g),.n 4] rfl ⟨⟨⟨⟨tt_,rfl⟩,rfl⟩,(fun σ i j hf=>Stp.buildAny rfl rfl (QC hC.n rfl) (Qo.es rfl) Qkp rfl (by decide) (by decide) (QdO i rfl) rfl rfl (hf rfl))⟩,(QoN _ _ _ _ _ e)⟩ ?_
 cases h
 exact d1_ rfl rfl ⟨rfl,rfl,tt_⟩
def QcH (d:(List QP))(e:Qm)(f:Int)(a:Int):Option (Int⊕((Int×Int)⊕Unit)):=
 bif (decide (a<(d.length:Int)))then
 (idx d a).bind fun c=>
 (Qib a c e f).bind fun b=>
 bif (b != 0)then
 some (.inr (.inl (a,b)))
 else
 some (.inl (w64 (a+1)))
 else
 some (.inr (.inr ()))
def QcI (a:Int)(b:Int):Option (Int×Int):=
 some (a,b)
def QcJ : Option (Int×Int):=
 some (0,0)
def QdG (a:(List QP))(b:Qm)(c:Int):Option (Int×Int):=
 (Qy (fun st=>QcH a b c st) 0).bind (Sum.elim (fun q=>QcI q.1 q.2) (fun q=>QcJ))
theorem Ql9 (i f g){r}(h:QdG i f g=some r):Qc prog 195 [.sl 4 (i.map QR),.clo (.func 196) [] [.loc 609 0 0,.loc 610 0 0]] [(609,.var (Qe f)),(610,.var (Qb g))] (Qh (.tup [.I r.1,.I r.2]) [(609,.var (Qe f)),(610,.var (Qb g))]):=by
 refine Qc.walk 25 func195 rfl rfl rfl fun C hC=>?_
 refine Qa hC [.n 10,.o (.ln i.length),.n 4,.K [1,9,10,11] [609,610]] rfl ⟨tt_,Qj⟩ ?_
 obtain⟨m,j,h⟩:=Qd h
 refine AK.loop (body:=(fun st=>QcH i f g st)) (fun st σ=>σ=⟨[(1,.clo (.func 196) [] [.loc 609 0 0,.loc 610 0 0]),(9,.sl 4 (i.map QR)),(10,.I (i.length:Int)),(11,.I st)],[(609,.var (Qe f)),(610,.var (Qb g))]⟩) (Sum.elim (fun q e σ=>e=.ret∧σ=⟨[(4,.I q.1),(5,.I q.2)],[(609,.var (Qe f)),(610,.var (Qb g))]⟩) (fun q e σ=>e=.exit 0∧σ=⟨[],[(609,.var (Qe f)),(610,.var (Qb g))]⟩)) j rfl ?_ ?_
 ·rintro u o σ rfl h
  refine tg_ hC [.n 6] rfl ?_
  rcases Qt h with⟨a,h⟩|⟨a,h⟩
  ·obtain⟨c,k,h⟩:=Qd h
   obtain⟨p,l,h⟩:=Qd h
   refine Qa hC [.T,.n 7,.o (.row (QR c)),.v .no [] (.agg (QR c)),.n 3,.O 7 (.var (QR c)),.n 6,.v .no [] (.agg (QR c)),.cm (.clo) [(609,609),(610,610)] [(609,609),(610,610)] [] [.d,.d,.d,.d] [(609,.var (Qe f)),(610,.var (Qb g))] (.I p),.n 9] rfl ⟨⟨⟨⟨⟨⟨tt_,a⟩,(QF k)⟩,rfl⟩,rfl⟩,rfl⟩,(Qqj _ _ _ _ l)⟩ ?_
   refine bg_ h (fun b h=>Qa hC [.T,.n 11,.K [4,5] [609,610]] rfl ⟨tt_,b⟩ ?_) fun b h=>Qa hC [.F,.n 7,.K [1,9,10,11] [609,610]] rfl ⟨tt_,b⟩ ?_
   ·cases h
    exact QaY rfl (an_ rfl rfl)
   cases h
   exact QV rfl rfl
  refine Qa hC [.F,.n 2,.K [] [609,610]] rfl ⟨tt_,a⟩ ?_
  cases h
  exact QW rfl (an_ rfl rfl)
 rcases m with(⟨s,t⟩|_)
 ·replace h:QcI s t=some r:=h
  rintro e σ ⟨rfl,rfl⟩
  refine tg_ hC [.n 2] rfl ?_
  cases h
  exact d2_ rfl rfl rfl ⟨rfl,rfl,tt_⟩
 replace h:QcJ=some r:=h
 rintro e σ ⟨rfl,rfl⟩
 refine tg_ hC [.n 9] rfl ?_
 cases h
 exact d2_ rfl rfl rfl ⟨rfl,rfl,tt_⟩
def QhB (b:Qm)(c:(List QP))(a:Int):Option Int:=
 (QdG c b a).bind fun d=>
 some d.2
theorem QmN (b e a){r}(h:QhB b e a=some r):Qc prog 133 [.agg (Qe b),.sl 4 (e.map QR),.I a] [] (Qh (.I r) []):=by
 refine Qc.walk 16 func133 rfl rfl rfl fun C hC=>?_
 obtain⟨f,c,h⟩:=Qd h
 refine Qa hC [.n 11,.cm (.fn) [(609,3),(610,5)] [(3,609),(5,610)] [] [.d,.d] [(609,.var (Qe b)),(610,.var (Qb a))] (.tup [.I f.1,.I f.2]),.n 14] rfl ⟨tt_,(Ql9 _ _ _ c)⟩ ?_
 cases h
 exact d1_ rfl rfl tt_
def Qic (a:Qm)(b:Qw)(c:Int):Option Int:=
 (QhB a b.Ins c).bind fun d=>
 some d
theorem Qqk (a b e){r}(h:Qic a b e=some r):Qc prog 132 [.loc 609 0 0,.loc 610 0 0,.loc 611 0 0] [(609,.var (Qe a)),(610,.var (Qf b)),(611,.var (Qb e))] (Qh (.I r) [(609,.var (Qe a)),(610,.var (Qf b)),(611,.var (Qb e))]):=by
 refine Qc.walk 9 func132 rfl rfl rfl fun C hC=>?_
 obtain⟨g,f,h⟩:=Qd h
 refine Qa hC [.n 7,.v .no [] (.agg (Qe a)),.n 3,.o (.c false [.d,.d,.d] (.I g)),.n 4] rfl ⟨⟨tt_,rfl⟩,(QmN _ _ _ f)⟩ ?_
 cases h
 exact d1_ rfl rfl ⟨rfl,rfl,rfl,tt_⟩
def QeR (b:Qm)(c:Qw)(d:Int)(e:Int):Option (Bool×Int):=
 (Qic b c d).bind fun a=>
 some ((a==0),a)
theorem Qnz (c e f j){r}(h:QeR c e f j=some r):Qc prog 184 [.loc 609 0 0,.loc 613 0 0] [(609,.var [.clo (.func 132) [] [.loc 610 0 0,.loc 611 0 0,.loc 612 0 0]]),(610,.var (Qe c)),(611,.var (Qf e)),(612,.var (Qb f)),(613,.var [.loc 614 0 0]),(614,.var (Qb j))] (Qh (.b r.1) [(609,.var [.clo (.func 132) [] [.loc 610 0 0,.loc 611 0 0,.loc 612 0 0]]),(610,.var (Qe c)),(611,.var (Qf e)),(612,.var (Qb f)),(613,.var [.loc 614 0 0]),(614,.var (Qb r.2))]):=by
 refine Qc.walk 11 func184 rfl rfl rfl fun C hC=>?_
 obtain⟨g,i,h⟩:=Qd h
 refine tg_ hC [.n 6,.K [0,1] [609,610,611,612,613,614]] rfl ?_
 refine AK.draw2 Qo hC mixed [.N,.N,.a (.any (.I g) none) none false,.N,.m .s] [] [] [1] [609,610,611,612,613,614] rfl rfl rfl ⟨tt_,(fun σ k l _=>Stp.callSame (md:=.cm (.clo) [(609,610),(610,611),(611,612)] [(610,609),(611,610),(612,611)] [] [.d,.d,.d] [(609,.var (Qe c)),(610,.var (Qf e)),(611,.var (Qb f))] (.I g) [610,611,612]) Qo hC k l rfl ⟨⟨tt_,(Qqk _ _ _ i)⟩,⟨rfl,rfl,rfl,tt_⟩⟩)⟩ rfl (by kernel_rfl) rfl rfl rfl ?_
 refine Qa hC [.O 614 (.var (Qb g)),.n 11] rfl ⟨tt_,rfl⟩ ?_
 cases h
 exact d1_ rfl rfl ⟨rfl,rfl,rfl,rfl,rfl,rfl,tt_⟩
def Qid (a:Qm)(b:Qw)(c:Int):Option Int:=
 (QhB a b.Outs c).bind fun d=>
 some d
theorem Qql (a b e){r}(h:Qid a b e=some r):Qc prog 134 [.loc 609 0 0,.loc 610 0 0,.loc 611 0 0] [(609,.var (Qe a)),(610,.var (Qf b)),(611,.var (Qb e))] (Qh (.I r) [(609,.var (Qe a)),(610,.var (Qf b)),(611,.var (Qb e))]):=by
 refine Qc.walk 9 func134 rfl rfl rfl fun C hC=>?_
 obtain⟨g,f,h⟩:=Qd h
 refine Qa hC [.n 7,.v .no [] (.agg (Qe a)),.n 3,.o (.c false [.d,.d,.d] (.I g)),.n 4] rfl ⟨⟨tt_,rfl⟩,(QmN _ _ _ f)⟩ ?_
 cases h
 exact d1_ rfl rfl ⟨rfl,rfl,rfl,tt_⟩
def QeS (b:Qm)(c:Qw)(d:Int)(e:Int):Option (Bool×Int):=
 (Qid b c d).bind fun a=>
 some ((a==0),a)
theorem QnA (c e f j){r}(h:QeS c e f j=some r):Qc prog 184 [.loc 609 0 0,.loc 613 0 0] [(609,.var [.clo (.func 134) [] [.loc 610 0 0,.loc 611 0 0,.loc 612 0 0]]),(610,.var (Qe c)),(611,.var (Qf e)),(612,.var (Qb f)),(613,.var [.loc 614 0 0]),(614,.var (Qb j))] (Qh (.b r.1) [(609,.var [.clo (.func 134) [] [.loc 610 0 0,.loc 611 0 0,.loc 612 0 0]]),(610,.var (Qe c)),(611,.var (Qf e)),(612,.var (Qb f)),(613,.var [.loc 614 0 0]),(614,.var (Qb r.2))]):=by
 refine Qc.walk 11 func184 rfl rfl rfl fun C hC=>?_
 obtain⟨g,i,h⟩:=Qd h
 refine tg_ hC [.n 6,.K [0,1] [609,610,611,612,613,614]] rfl ?_
 refine AK.draw2 Qo hC mixed [.N,.N,.a (.any (.I g) none) none false,.N,.m .s] [] [] [1] [609,610,611,612,613,614] rfl rfl rfl ⟨tt_,(fun σ k l _=>Stp.callSame (md:=.cm (.clo) [(609,610),(610,611),(611,612)] [(610,609),(611,610),(612,611)] [] [.d,.d,.d] [(609,.var (Qe c)),(610,.var (Qf e)),(611,.var (Qb f))] (.I g) [610,611,612]) Qo hC k l rfl ⟨⟨tt_,(Qql _ _ _ i)⟩,⟨rfl,rfl,rfl,tt_⟩⟩)⟩ rfl (by kernel_rfl) rfl rfl rfl ?_
 refine Qa hC [.O 614 (.var (Qb g)),.n 11] rfl ⟨tt_,rfl⟩ ?_
 cases h
 exact d1_ rfl rfl ⟨rfl,rfl,rfl,rfl,rfl,rfl,tt_⟩
def Qeo (a:Qm)(b:Int):Option Bool:=
 (Qai a.Places b).bind fun c=>
 some c
theorem Qm6 (a e){r}(h:Qeo a e=some r):Qc prog 201 [.loc 609 0 0,.loc 610 0 0] [(609,.var (Qe a)),(610,.var (Qb e))] (Qh (.b r) [(609,.var (Qe a)),(610,.var (Qb e))]):=by
 refine Qc.walk 7 func201 rfl rfl rfl fun C hC=>?_
 obtain⟨g,f,h⟩:=Qd h
 refine Qa hC [.n 10,.o (.c false [.d,.d] (.b g)),.n 4] rfl ⟨tt_,(Qbj _ _ f)⟩ ?_
 cases h
 exact d1_ rfl rfl ⟨rfl,rfl,tt_⟩
def Qcf (b:(List Int))(c:Int)(a:Int):Option (Int⊕(Int⊕Unit)):=
 bif (decide (a<(b.length:Int)))then
 (idx b a).bind fun d=>
 bif (c==d)then
 some (.inr (.inl a))
 else
 some (.inl (w64 (a+1)))
 else
 some (.inr (.inr ()))
def Qcg (a:Int):Option Int:=
 some a
def Qch : Option Int:=
 some (-1)
def QcX (a:(List Int))(b:Int):Option Int:=
 (Qy (fun st=>Qcf a b st) 0).bind (Sum.elim (fun q=>Qcg q) (fun q=>Qch))
theorem Qle (c f){r}(h:QcX c f=some r):Qc prog 232 [.sl 1 (c.map Qb),.I f] [] (Qh (.I r) []):=by
 refine Qc.walk 19 func232 rfl rfl rfl fun C hC=>?_
 refine Qa hC [.n 9,.o (.ln c.length),.n 4,.K [0,1,7,8] []] rfl ⟨tt_,Qj⟩ ?_
 obtain⟨g,d,h⟩:=Qd h
 refine AK.loop (body:=(fun st=>Qcf c f st)) (fun st σ=>σ=⟨[(0,.sl 1 (c.map Qb)),(1,.I f),(7,.I (c.length:Int)),(8,.I st)],[]⟩) (Sum.elim (fun q e σ=>e=.ret∧σ=⟨[(4,.I q)],[]⟩) (fun q e σ=>e=.exit 0∧σ=⟨[],[]⟩)) d rfl ?_ ?_
 ·rintro l o σ rfl h
  refine tg_ hC [.n 6] rfl ?_
  rcases Qt h with⟨b,h⟩|⟨b,h⟩
  ·obtain⟨j,i,h⟩:=Qd h
   refine Qa hC [.T,.n 15,.o (.row (Qb j)),.n 4] rfl ⟨⟨tt_,b⟩,(QF i)⟩ ?_
   refine bg_ h (fun a h=>Qa hC [.T,.n 9,.K [4] []] rfl ⟨tt_,a⟩ ?_) fun a h=>Qa hC [.F,.n 7,.K [0,1,7,8] []] rfl ⟨tt_,a⟩ ?_
   ·cases h
    exact QaY rfl (an_ rfl rfl)
   cases h
   exact QV rfl rfl
  refine Qa hC [.F,.n 2,.K [] []] rfl ⟨tt_,b⟩ ?_
  cases h
  exact QW rfl (an_ rfl rfl)
 rcases g with(k | _)
 ·replace h:Qcg k=some r:=h
  rintro e σ ⟨rfl,rfl⟩
  refine tg_ hC [.n 2] rfl ?_
  cases h
  exact d1_ rfl rfl tt_
 replace h:Qch=some r:=h
 rintro e σ ⟨rfl,rfl⟩
 refine tg_ hC [.n 8] rfl ?_
 cases h
 exact d1_ rfl rfl tt_
def Qci (a:(List Int))(b:Int):Option Bool:=
 (QcX a b).bind fun c=>
 some (decide (0≤c))
theorem Qj5 (e f){r}(h:Qci e f=some r):Qc prog 203 [.sl 1 (e.map Qb),.I f] [] (Qh (.b r) []):=by
 refine Qc.walk 9 func203 rfl rfl rfl fun C hC=>?_
 obtain⟨g,a,h⟩:=Qd h
 refine Qa hC [.n 9,.o (.c false [.d,.d] (.I g)),.n 5] rfl ⟨tt_,(Qle _ _ a)⟩ ?_
 cases h
 exact d1_ rfl rfl tt_
def Qep (b:(List Int))(a:Int)(c:Int):Option Bool:=
 (chk (decide (0≤a)&&decide (0≤a.toNat)&&decide (a.toNat≤b.length))).bind fun _=>
 (Qci ((b.drop 0).take (a.toNat-0)) c).bind fun d=>
 some (!d)
theorem Qm7 (f g i){r}(h:Qep f g i=some r):Qc prog 202 [.loc 609 0 0,.loc 610 0 0,.loc 611 0 0] [(609,.var (Qi f)),(610,.var (Qb g)),(611,.var (Qb i))] (Qh (.b r) [(609,.var (Qi f)),(610,.var (Qb g)),(611,.var (Qb i))]):=by
 refine Qc.walk 10 func202 rfl rfl rfl fun C hC=>?_
 obtain⟨e,h⟩:=Qbs h
 obtain⟨l,j,h⟩:=Qd h
 refine tg_ hC [.n 6,.K [0,1,2,3] [609,610,611]] rfl ?_
 refine AK.draw2 Qo hC mixed [.N,.N,.a (.any (.sl 1 (((f.drop 0).take (g.toNat-0)).map Qb)) none) none false,.N,.a (.c false [.d,.d] (.b l)) none false,.N,.m .s] [] [] [3] [609,610,611] rfl rfl rfl ⟨⟨tt_,(fun σ k o _=>Stp.sliceD rfl rfl (QC hC.n rfl) (k _ _ rfl) (Qo.es rfl) Bnd.no (Bnd.val (k _ _ rfl) (QX (Qpa e)) rfl) (QX (Qpb e)) (Qas (QX (Qpc e)) (Nat.le_of_eq Qj.symm)) QrE)⟩,(Qj5 _ _ j)⟩ rfl (by kernel_rfl) rfl rfl rfl ?_
 refine tg_ hC [.n 2] rfl ?_
 cases h
 exact d1_ rfl rfl ⟨rfl,rfl,rfl,tt_⟩
def Qgf (c:Qm)(b:Int)(d:Int)(e:(List Int))(f:Int)(g:Int):Option Int:=
 (Qeo c b).bind fun h=>
 bif (!h)then
 some d
 else
 (Qep e f b).bind fun a=>
 bif (!a)then
 some g
 else
 some 0
theorem QoO (i e j k l m){r}(h:Qgf i e j k l m=some r):Qc prog 64 [.own 609 2] [(609,.var [.clo (.func 201) [] [.loc 610 0 0,.loc 611 0 0],.I j,.clo (.func 202) [] [.loc 612 0 0,.loc 613 0 0,.loc 611 0 0],.I m]),(610,.var (Qe i)),(611,.var (Qb e)),(612,.var (Qi k)),(613,.var (Qb l))] (Qh (.I r) [(609,.var [.clo (.func 201) [] [.loc 610 0 0,.loc 611 0 0],.I j,.clo (.func 202) [] [.loc 612 0 0,.loc 613 0 0,.loc 611 0 0],.I m]),(610,.var (Qe i)),(611,.var (Qb e)),(612,.var (Qi k)),(613,.var (Qb l))]):=by
 refine Qc.walk 18 func64 rfl rfl rfl fun C hC=>?_
 refine tg_ hC [.n 14] rfl ?_
 refine AK.loopN 3 (AK.rnd ?_)
 obtain⟨t,p,h⟩:=Qd h
 refine Qa hC [.n 2,.v .no [] (.b true),.n 10,.o (.any (.loc 609 0 0) none),.n 3,.O 4 (.var [.clo (.func 201) [] [.loc 610 0 0,.loc 611 0 0],.I j]),.n 6,.cm (.clo) [(609,610),(610,611)] [(610,609),(611,610)] [] [.d,.d] [(609,.var (Qe i)),(610,.var (Qb e))] (.b t),.n 3] rfl ⟨⟨⟨⟨tt_,rfl⟩,(fun σ f q _=>Stp.idxV rfl rfl (QC hC.n rfl) (f _ _ rfl) (f _ _ rfl) (Qo.es rfl) (q _ _ rfl) (by decide))⟩,rfl⟩,(Qm6 _ _ p)⟩ ?_
 refine bg_ h (fun a h=>Qa hC [.T,.n 13,.K [2] [609,610,611,612,613]] rfl ⟨tt_,a⟩ ?_) fun a h=>Qa hC [.F,.n 4,.v .no [] (.I 1),.n 2] rfl ⟨⟨tt_,a⟩,rfl⟩ ?_
 ·cases h
  exact d1_ rfl rfl ⟨rfl,rfl,rfl,rfl,rfl,tt_⟩
 refine AK.met (AK.rnd ?_)
 obtain⟨s,g,h⟩:=Qd h
 refine Qa hC [.n 2,.v .no [] (.b true),.n 10,.o (.any (.loc 609 0 2) none),.n 1,.kill 4,.n 2,.O 4 (.var [.clo (.func 202) [] [.loc 612 0 0,.loc 613 0 0,.loc 611 0 0],.I m]),.n 6,.cm (.clo) [(609,612),(610,613),(611,611)] [(612,609),(613,610),(611,611)] [] [.d,.d,.d] [(609,.var (Qi k)),(610,.var (Qb l)),(611,.var (Qb e))] (.b s),.n 3] rfl ⟨⟨⟨⟨tt_,rfl⟩,(fun σ f q _=>Stp.idxV rfl rfl (QC hC.n rfl) (f _ _ rfl) (f _ _ rfl) (Qo.es rfl) (q _ _ rfl) (by decide))⟩,rfl⟩,(Qm7 _ _ _ g)⟩ ?_
 refine bg_ h (fun c h=>Qa hC [.T,.n 13,.K [2] [609,610,611,612,613]] rfl ⟨tt_,c⟩ ?_) fun c h=>Qa hC [.F,.n 4,.v .no [] (.I 2),.n 2] rfl ⟨⟨tt_,c⟩,rfl⟩ ?_
 ·cases h
  exact d1_ rfl rfl ⟨rfl,rfl,rfl,rfl,rfl,tt_⟩
 refine AK.met (AK.rnd ?_)
 refine Qa hC [.n 2,.v .no [] (.b false),.n 15] rfl ⟨tt_,rfl⟩ ?_
 cases h
 exact d1_ rfl rfl ⟨rfl,rfl,rfl,rfl,rfl,tt_⟩
def Qfn (b:Int)(a:Int)(c:Qm)(d:(List Int)):Option Int:=
 (Qgf c a 3 d b 5).bind fun e=>
 some e
theorem Qol (e a b c){r}(h:Qfn e a b c=some r):Qc prog 200 [.I e,.I a,.loc 609 0 0,.loc 610 0 0] [(609,.var (Qe b)),(610,.var (Qi c))] (Qh (.I r) [(609,.var (Qe b)),(610,.var (Qi c))]):=by
 refine Qc.walk 13 func200 rfl rfl rfl fun C hC=>?_
 obtain⟨g,f,h⟩:=Qd h
 refine Qa hC [.n 10,.v .no [] (.agg [.clo (.func 201) [] [.loc 609 0 0,.loc 5 0 0],.I 3]),.n 1,.v .no [] (.agg [.clo (.func 202) [] [.loc 610 0 0,.loc 4 0 0,.loc 5 0 0],.I 5]),.o (.any (.own 11 2) (some (.var [.clo (.func 201) [] [.loc 609 0 0,.loc 5 0 0],.I 3,.clo (.func 202) [] [.loc 610 0 0,.loc 4 0 0,.loc 5 0 0],.I 5]))),.cm (.fn) [(609,11),(610,609),(611,5),(612,610),(613,4)] [(11,609),(609,610),(5,611),(610,612),(4,613)] [] [.d] [(609,.var [.clo (.func 201) [] [.loc 610 0 0,.loc 611 0 0],.I 3,.clo (.func 202) [] [.loc 612 0 0,.loc 613 0 0,.loc 611 0 0],.I 5]),(610,.var (Qe b)),(611,.var (Qb a)),(612,.var (Qi c)),(613,.var (Qb e))] (.I g),.n 4] rfl ⟨⟨⟨⟨tt_,rfl⟩,rfl⟩,(fun σ i j hf=>Stp.buildAny rfl rfl (QC hC.n rfl) (Qo.es rfl) Qkp rfl (by decide) (by decide) (QdO i rfl) rfl rfl (hf rfl))⟩,(QoO _ _ _ _ _ _ f)⟩ ?_
 cases h
 exact d1_ rfl rfl ⟨rfl,rfl,tt_⟩
def Qeq (d:(List Int))(e:Qm)(f:(List Int))(a:Int):Option (Int⊕((Int×Int)⊕Unit)):=
 bif (decide (a<(d.length:Int)))then
 (idx d a).bind fun c=>
 (Qfn a c e f).bind fun b=>
 bif (b != 0)then
 some (.inr (.inl (a,b)))
 else
 some (.inl (w64 (a+1)))
 else
 some (.inr (.inr ()))
def Qer (a:Int)(b:Int):Option (Int×Int):=
 some (a,b)
def Qes : Option (Int×Int):=
 some (0,0)
def Qgg (a:(List Int))(b:Qm)(c:(List Int)):Option (Int×Int):=
 (Qy (fun st=>Qeq a b c st) 0).bind (Sum.elim (fun q=>Qer q.1 q.2) (fun q=>Qes))
theorem QoP (g c f){r}(h:Qgg g c f=some r):Qc prog 199 [.sl 1 (g.map Qb),.clo (.func 200) [] [.loc 609 0 0,.loc 610 0 0]] [(609,.var (Qe c)),(610,.var (Qi f))] (Qh (.tup [.I r.1,.I r.2]) [(609,.var (Qe c)),(610,.var (Qi f))]):=by
 refine Qc.walk 25 func199 rfl rfl rfl fun C hC=>?_
 refine Qa hC [.n 10,.o (.ln g.length),.n 4,.K [1,9,10,11] [609,610]] rfl ⟨tt_,Qj⟩ ?_
 obtain⟨l,i,h⟩:=Qd h
 refine AK.loop (body:=(fun st=>Qeq g c f st)) (fun st σ=>σ=⟨[(1,.clo (.func 200) [] [.loc 609 0 0,.loc 610 0 0]),(9,.sl 1 (g.map Qb)),(10,.I (g.length:Int)),(11,.I st)],[(609,.var (Qe c)),(610,.var (Qi f))]⟩) (Sum.elim (fun q e σ=>e=.ret∧σ=⟨[(4,.I q.1),(5,.I q.2)],[(609,.var (Qe c)),(610,.var (Qi f))]⟩) (fun q e σ=>e=.exit 0∧σ=⟨[],[(609,.var (Qe c)),(610,.var (Qi f))]⟩)) i rfl ?_ ?_
 ·rintro u o σ rfl h
  refine tg_ hC [.n 6] rfl ?_
  rcases Qt h with⟨a,h⟩|⟨a,h⟩
  ·obtain⟨m,j,h⟩:=Qd h
   obtain⟨p,k,h⟩:=Qd h
   refine Qa hC [.T,.n 7,.o (.row (Qb m)),.n 10,.cm (.clo) [(609,609),(610,610)] [(609,609),(610,610)] [] [.d,.d,.d,.d] [(609,.var (Qe c)),(610,.var (Qi f))] (.I p),.n 9] rfl ⟨⟨⟨tt_,a⟩,(QF j)⟩,(Qol _ _ _ _ k)⟩ ?_
   refine bg_ h (fun b h=>Qa hC [.T,.n 11,.K [4,5] [609,610]] rfl ⟨tt_,b⟩ ?_) fun b h=>Qa hC [.F,.n 7,.K [1,9,10,11] [609,610]] rfl ⟨tt_,b⟩ ?_
   ·cases h
    exact QaY rfl (an_ rfl rfl)
   cases h
   exact QV rfl rfl
  refine Qa hC [.F,.n 2,.K [] [609,610]] rfl ⟨tt_,a⟩ ?_
  cases h
  exact QW rfl (an_ rfl rfl)
 rcases l with(⟨s,t⟩|_)
 ·replace h:Qer s t=some r:=h
  rintro e σ ⟨rfl,rfl⟩
  refine tg_ hC [.n 2] rfl ?_
  cases h
  exact d2_ rfl rfl rfl ⟨rfl,rfl,tt_⟩
 replace h:Qes=some r:=h
 rintro e σ ⟨rfl,rfl⟩
 refine tg_ hC [.n 9] rfl ?_
 cases h
 exact d2_ rfl rfl rfl ⟨rfl,rfl,tt_⟩
def Qhd (b:Qm)(a:(List Int)):Option Int:=
 (Qgg a b a).bind fun c=>
 some c.2
theorem Qpt (a b){r}(h:Qhd a b=some r):Qc prog 136 [.agg (Qe a),.sl 1 (b.map Qb)] [] (Qh (.I r) []):=by
 refine Qc.walk 14 func136 rfl rfl rfl fun C hC=>?_
 obtain⟨e,c,h⟩:=Qd h
 refine Qa hC [.n 11,.cm (.fn) [(609,2),(610,3)] [(2,609),(3,610)] [] [.d,.d] [(609,.var (Qe a)),(610,.var (Qi b))] (.tup [.I e.1,.I e.2]),.n 14] rfl ⟨tt_,(QoP _ _ _ c)⟩ ?_
 cases h
 exact d1_ rfl rfl tt_
def Qhe (a:Qm)(b:Qw):Option Int:=
 (Qhd a b.Cancel).bind fun c=>
 some c
theorem Qpu (a b){r}(h:Qhe a b=some r):Qc prog 135 [.loc 609 0 0,.loc 610 0 0] [(609,.var (Qe a)),(610,.var (Qf b))] (Qh (.I r) [(609,.var (Qe a)),(610,.var (Qf b))]):=by
 refine Qc.walk 7 func135 rfl rfl rfl fun C hC=>?_
 obtain⟨f,e,h⟩:=Qd h
 refine Qa hC [.n 7,.v .no [] (.agg (Qe a)),.n 2,.o (.c false [.d,.d] (.I f)),.n 4] rfl ⟨⟨tt_,rfl⟩,(Qpt _ _ e)⟩ ?_
 cases h
 exact d1_ rfl rfl ⟨rfl,rfl,tt_⟩
def QeT (b:Qm)(c:Qw)(d:Int):Option (Bool×Int):=
 (Qhe b c).bind fun a=>
 some ((a==0),a)
theorem QnB (c e i){r}(h:QeT c e i=some r):Qc prog 184 [.loc 609 0 0,.loc 612 0 0] [(609,.var [.clo (.func 135) [] [.loc 610 0 0,.loc 611 0 0]]),(610,.var (Qe c)),(611,.var (Qf e)),(612,.var [.loc 613 0 0]),(613,.var (Qb i))] (Qh (.b r.1) [(609,.var [.clo (.func 135) [] [.loc 610 0 0,.loc 611 0 0]]),(610,.var (Qe c)),(611,.var (Qf e)),(612,.var [.loc 613 0 0]),(613,.var (Qb r.2))]):=by
 refine Qc.walk 11 func184 rfl rfl rfl fun C hC=>?_
 obtain⟨f,g,h⟩:=Qd h
 refine tg_ hC [.n 6,.K [0,1] [609,610,611,612,613]] rfl ?_
 refine AK.draw2 Qo hC mixed [.N,.N,.a (.any (.I f) none) none false,.N,.m .s] [] [] [1] [609,610,611,612,613] rfl rfl rfl ⟨tt_,(fun σ j k _=>Stp.callSame (md:=.cm (.clo) [(609,610),(610,611)] [(610,609),(611,610)] [] [.d,.d] [(609,.var (Qe c)),(610,.var (Qf e))] (.I f) [610,611]) Qo hC j k rfl ⟨⟨tt_,(Qpu _ _ g)⟩,⟨rfl,rfl,tt_⟩⟩)⟩ rfl (by kernel_rfl) rfl rfl rfl ?_
 refine Qa hC [.O 613 (.var (Qb f)),.n 11] rfl ⟨tt_,rfl⟩ ?_
 cases h
 exact d1_ rfl rfl ⟨rfl,rfl,rfl,rfl,rfl,tt_⟩
def Qdm (a:Int)(b:(List QP)):Option Bool:=
 some ((decide (1≤a))&&((decide (a≤3))&&((a != 3)||(decide ((b.length:Int)≤4)))))
theorem Qkw (a f){r}(h:Qdm a f=some r):Qc prog 204 [.I a,.sl 4 (f.map QR)] [] (Qh (.b r) []):=by
 refine Qc.walk 20 func204 rfl rfl rfl fun C hC=>?_
 unfold Qdm at h
 refine tg_ hC [.n 6] rfl ?_
 refine AK.meetX (fun σ=>σ=⟨[(4,.b ((decide (1≤a))&&((decide (a≤3))&&((a != 3)||(decide ((f.length:Int)≤4))))))],[]⟩) ?_ ?_
 ·refine tg_ hC [.n 4] rfl ?_
  rcases QS (decide (1≤a))with c | c
  ·refine Qa hC [.S 7 (.b true),.n 4] rfl (tc_ c) ?_
   rcases QS (decide (a≤3))with d | d
   ·refine Qa hC [.S 11 (.b true),.n 3] rfl (tc_ d) ?_
    rcases QS (a != 3)with e | e
    ·refine Qa hC [.S 14 (.b true),.n 7,.S 4 (.b ((decide (1≤a))&&((decide (a≤3))&&((a != 3)||(decide ((f.length:Int)≤4)))))),.K [4] []] rfl ⟨(tc_ e),(congrArg V.b (QbB c (QbB d (orT e rfl))))⟩ ?_
     exact AK.met rfl
    refine Qa hC [.S 14 (.b false),.n 1,.o (.ln f.length),.n 5,.S 4 (.b ((decide (1≤a))&&((decide (a≤3))&&((a != 3)||(decide ((f.length:Int)≤4)))))),.K [4] []] rfl ⟨⟨(tc_ e),Qj⟩,(congrArg V.b (QbB c (QbB d (orF e rfl))))⟩ ?_
    exact AK.met rfl
   refine Qa hC [.S 11 (.b false),.n 10,.S 4 (.b ((decide (1≤a))&&((decide (a≤3))&&((a != 3)||(decide ((f.length:Int)≤4)))))),.K [4] []] rfl ⟨(tc_ d),(congrArg V.b (QbB c (Qdq d rfl)))⟩ ?_
   exact AK.met rfl
  refine Qa hC [.S 7 (.b false),.n 14,.S 4 (.b ((decide (1≤a))&&((decide (a≤3))&&((a != 3)||(decide ((f.length:Int)≤4)))))),.K [4] []] rfl ⟨(tc_ c),(congrArg V.b (Qdq c rfl))⟩ ?_
  exact AK.met rfl
 rintro σ rfl
 refine tg_ hC [.n 2] rfl ?_
 cases h
 exact d1_ rfl rfl tt_
def QlZ (a:Qw):Option Bool:=
 (Qdm a.Join a.Ins).bind fun b=>
 bif b then
 (Qdm a.Split a.Outs).bind fun c=>
 bif c then
 bif (decide (0≤a.After))then
 bif (decide (a.After≤65536))then
 some (((a.Many.1==0)&&((a.Many.2.1==0)&&(a.Many.2.2==0)))||((decide (1≤a.Many.1))&&((decide (a.Many.1≤a.Many.2.1))&&((decide (a.Many.2.1≤16))&&((decide (1≤a.Many.2.2))&&(decide (a.Many.2.2≤a.Many.2.1)))))))
 else
 some false
 else
 some false
 else
 some false
 else
 some false
def Qgh (a:Bool):Option Bool:=
 some a
def Qgv (a:Qw):Option Bool:=
 (QlZ a).bind (fun b=>Qgh b)
theorem Qq4 (a){r}(h:Qgv a=some r):Qc prog 138 [.agg (Qf a)] [] (Qh (.b r) []):=by
 refine Qc.walk 70 func138 rfl rfl rfl fun C hC=>?_
 unfold Qgv at h
 refine tg_ hC [.n 7,.K [1] [1]] rfl ?_
 refine AK.draw2 Qo hC mixed [.N,.N,.N,.N,.N,.N,.N,.N,.N,.N,.N,.N] [] [] [1,3,4,5] [1] rfl rfl rfl tt_ rfl (by kernel_rfl) rfl rfl rfl ?_
 refine tg_ hC [.n 2] rfl ?_
 refine AK.meetX (fun σ=>σ=⟨[(1,.loc 1 0 0),(6,.b (((a.Many.1==0)&&((a.Many.2.1==0)&&(a.Many.2.2==0)))||((decide (1≤a.Many.1))&&((decide (a.Many.1≤a.Many.2.1))&&((decide (a.Many.2.1≤16))&&((decide (1≤a.Many.2.2))&&(decide (a.Many.2.2≤a.Many.2.1))))))))],[(1,.var (Qf a))]⟩) ?_ ?_
 ·refine Qa hC [.n 2,.v .no [] (.agg (Qsm a.Many)),.v .no [] (.agg (Qsm (0,0,0))),.o (.any (.b ((a.Many.1==0)&&((a.Many.2.1==0)&&(a.Many.2.2==0)))) none),.n 1] rfl ⟨⟨⟨tt_,rfl⟩,rfl⟩,(fun σ y z _=>Stp.eqAgg rfl rfl (QC hC.n rfl) (y _ _ rfl) (y _ _ rfl) rfl rfl (Qxr _ _ _ _ _ _))⟩ ?_
  rcases QS ((a.Many.1==0)&&((a.Many.2.1==0)&&(a.Many.2.2==0)))with e | e
  ·refine Qa hC [.S 21 (.b true),.n 23,.S 6 (.b (((a.Many.1==0)&&((a.Many.2.1==0)&&(a.Many.2.2==0)))||((decide (1≤a.Many.1))&&((decide (a.Many.1≤a.Many.2.1))&&((decide (a.Many.2.1≤16))&&((decide (1≤a.Many.2.2))&&(decide (a.Many.2.2≤a.Many.2.1)))))))),.K [1,6] [1]] rfl ⟨(tc_ e),(congrArg V.b (orT e rfl))⟩ ?_
   exact AK.met rfl
  refine Qa hC [.S 21 (.b false),.n 3] rfl (tc_ e) ?_
  rcases QS (decide (1≤a.Many.1))with f | f
  ·refine Qa hC [.S 24 (.b true),.n 5] rfl (tc_ f) ?_
   rcases QS (decide (a.Many.1≤a.Many.2.1))with g | g
   ·refine Qa hC [.S 29 (.b true),.n 4] rfl (tc_ g) ?_
    rcases QS (decide (a.Many.2.1≤16))with i | i
    ·refine Qa hC [.S 33 (.b true),.n 4] rfl (tc_ i) ?_
     rcases QS (decide (1≤a.Many.2.2))with j | j
     ·refine Qa hC [.S 37 (.b true),.n 7,.S 6 (.b (((a.Many.1==0)&&((a.Many.2.1==0)&&(a.Many.2.2==0)))||((decide (1≤a.Many.1))&&((decide (a.Many.1≤a.Many.2.1))&&((decide (a.Many.2.1≤16))&&((decide (1≤a.Many.2.2))&&(decide (a.Many.2.2≤a.Many.2.1)))))))),.K [1,6] [1]] rfl ⟨(tc_ j),(congrArg V.b (orF e (QbB f (QbB g (QbB i (QbB j rfl))))))⟩ ?_
      exact AK.met rfl
     refine Qa hC [.S 37 (.b false),.n 7,.S 6 (.b (((a.Many.1==0)&&((a.Many.2.1==0)&&(a.Many.2.2==0)))||((decide (1≤a.Many.1))&&((decide (a.Many.1≤a.Many.2.1))&&((decide (a.Many.2.1≤16))&&((decide (1≤a.Many.2.2))&&(decide (a.Many.2.2≤a.Many.2.1)))))))),.K [1,6] [1]] rfl ⟨(tc_ j),(congrArg V.b (orF e (QbB f (QbB g (QbB i (Qdq j rfl))))))⟩ ?_
     exact AK.met rfl
    refine Qa hC [.S 33 (.b false),.n 11,.S 6 (.b (((a.Many.1==0)&&((a.Many.2.1==0)&&(a.Many.2.2==0)))||((decide (1≤a.Many.1))&&((decide (a.Many.1≤a.Many.2.1))&&((decide (a.Many.2.1≤16))&&((decide (1≤a.Many.2.2))&&(decide (a.Many.2.2≤a.Many.2.1)))))))),.K [1,6] [1]] rfl ⟨(tc_ i),(congrArg V.b (orF e (QbB f (QbB g (Qdq i rfl)))))⟩ ?_
    exact AK.met rfl
   refine Qa hC [.S 29 (.b false),.n 15,.S 6 (.b (((a.Many.1==0)&&((a.Many.2.1==0)&&(a.Many.2.2==0)))||((decide (1≤a.Many.1))&&((decide (a.Many.1≤a.Many.2.1))&&((decide (a.Many.2.1≤16))&&((decide (1≤a.Many.2.2))&&(decide (a.Many.2.2≤a.Many.2.1)))))))),.K [1,6] [1]] rfl ⟨(tc_ g),(congrArg V.b (orF e (QbB f (Qdq g rfl))))⟩ ?_
   exact AK.met rfl
  refine Qa hC [.S 24 (.b false),.n 20,.S 6 (.b (((a.Many.1==0)&&((a.Many.2.1==0)&&(a.Many.2.2==0)))||((decide (1≤a.Many.1))&&((decide (a.Many.1≤a.Many.2.1))&&((decide (a.Many.2.1≤16))&&((decide (1≤a.Many.2.2))&&(decide (a.Many.2.2≤a.Many.2.1)))))))),.K [1,6] [1]] rfl ⟨(tc_ f),(congrArg V.b (orF e (Qdq f rfl)))⟩ ?_
  exact AK.met rfl
 rintro σ rfl
 refine tg_ hC [.n 7] rfl ?_
 obtain⟨u,q,h⟩:=Qd h
 replace h:Qgh u=some r:=h
 refine AK.meetX (fun σ=>σ=⟨[(2,.b u)],[]⟩) ?_ ?_
 ·replace h:=q
  obtain⟨w,s,h⟩:=Qd h
  refine Qa hC [.n 6,.o (.c false [.d,.d] (.b w)),.n 1] rfl ⟨tt_,(Qkw _ _ s)⟩ ?_
  rcases Qt h with⟨k,h⟩|⟨k,h⟩
  ·obtain⟨x,t,h⟩:=Qd h
   refine Qa hC [.S 49 (.b true),.n 5,.o (.c false [.d,.d] (.b x)),.n 2] rfl ⟨(tc_ k),(Qkw _ _ t)⟩ ?_
   refine bg_ h (fun l h=>Qa hC [.S 57 (.b true),.n 5] rfl (tc_ l) ?_) fun l h=>Qa hC [.S 57 (.b false),.n 14,.K [2] []] rfl (tc_ l) ?_
   ·refine bg_ h (fun m h=>Qa hC [.S 62 (.b true),.n 5] rfl (tc_ m) ?_) fun m h=>Qa hC [.S 62 (.b false),.n 9,.K [2] []] rfl (tc_ m) ?_
    ·refine bg_ h (fun p h=>Qa hC [.S 67 (.b true),.n 4,.K [2] []] rfl (tc_ p) ?_) fun p h=>Qa hC [.S 67 (.b false),.n 4,.K [2] []] rfl (tc_ p) ?_
     ·cases h
      exact AK.met rfl
     cases h
     exact AK.met rfl
    cases h
    exact AK.met rfl
   cases h
   exact AK.met rfl
  refine Qa hC [.S 49 (.b false),.n 22,.K [2] []] rfl (tc_ k) ?_
  cases h
  exact AK.met rfl
 rintro σ rfl
 replace h:Qgh u=some r:=h
 refine tg_ hC [.n 2] rfl ?_
 cases h
 exact d1_ rfl rfl tt_
def Qhf (a:Qw):Option Bool:=
 (Qgv a).bind fun b=>
 some b
theorem Qpv (a){r}(h:Qhf a=some r):Qc prog 137 [.loc 609 0 0] [(609,.var (Qf a))] (Qh (.b r) [(609,.var (Qf a))]):=by
 refine Qc.walk 4 func137 rfl rfl rfl fun C hC=>?_
 obtain⟨f,e,h⟩:=Qd h
 refine Qa hC [.n 7,.v .no [] (.agg (Qf a)),.o (.c false [.d] (.b f)),.n 4] rfl ⟨⟨tt_,rfl⟩,(Qq4 _ e)⟩ ?_
 cases h
 exact d1_ rfl rfl ⟨rfl,tt_⟩
def Qed (b:Qw)(v:Int)(f:Qm)(u:Int)(w:Int)(g:Int)(x:Int)(h:Int)(y:Int)(i:Int)(j:Int)(k:Int)(l:Int)(m:Int)(n:Int):Option (Int×Int):=
 (Qh4 b).bind fun o=>
 bif (!o)then
 some (v,h)
 else
 (Qh6 f u b).bind fun p=>
 bif (!p)then
 some (w,h)
 else
 (Qfy g b).bind fun q=>
 bif (!q)then
 some (x,h)
 else
 (Qha f b h).bind fun a=>
 bif (!a.1)then
 some (y,a.2)
 else
 (Qh8 f u).bind fun r=>
 bif (!r)then
 some (i,a.2)
 else
 (Qia b g).bind fun s=>
 bif (!s)then
 some (j,a.2)
 else
 (QeR f b g a.2).bind fun d=>
 bif (!d.1)then
 some (k,d.2)
 else
 (QeS f b g d.2).bind fun e=>
 bif (!e.1)then
 some (l,e.2)
 else
 (QeT f b e.2).bind fun c=>
 bif (!c.1)then
 some (m,c.2)
 else
 (Qhf b).bind fun t=>
 bif (!t)then
 some (n,c.2)
 else
 some (0,c.2)
theorem QoQ (e v2 t D v5 B v7 v8 v9 u w x y z A){r}(h:Qed e v2 t D v5 B v7 v8 v9 u w x y z A=some r):Qc prog 64 [.own 609 10] [(609,.var [.clo (.func 122) [] [.loc 610 0 0],.I v2,.clo (.func 123) [] [.loc 611 0 0,.loc 612 0 0,.loc 613 0 0],.I v5,.clo (.func 125) [] [.loc 614 0 0,.loc 610 0 0],.I v7,.clo (.func 184) [] [.loc 615 0 0,.loc 616 0 0],.I v9,.clo (.func 129) [] [.loc 611 0 0,.loc 612 0 0],.I u,.clo (.func 130) [] [.loc 610 0 0,.loc 614 0 0],.I w,.clo (.func 184) [] [.loc 618 0 0,.loc 619 0 0],.I x,.clo (.func 184) [] [.loc 620 0 0,.loc 621 0 0],.I y,.clo (.func 184) [] [.loc 622 0 0,.loc 623 0 0],.I z,.clo (.func 137) [] [.loc 610 0 0],.I A]),(610,.var (Qf e)),(611,.var (Qe t)),(612,.var (Qb D)),(613,.var [.clo (.func 121) [] [.loc 610 0 0]]),(614,.var (Qb B)),(615,.var [.clo (.func 127) [] [.loc 611 0 0,.loc 610 0 0]]),(616,.var [.loc 617 0 0]),(617,.var (Qb v8)),(618,.var [.clo (.func 132) [] [.loc 611 0 0,.loc 610 0 0,.loc 614 0 0]]),(619,.var [.loc 617 0 0]),(620,.var [.clo (.func 134) [] [.loc 611 0 0,.loc 610 0 0,.loc 614 0 0]]),(621,.var [.loc 617 0 0]),(622,.var [.clo (.func 135) [] [.loc 611 0 0,.loc 610 0 0]]),(623,.var [.loc 617 0 0])] (Qh (.I r.1) [(609,.var [.clo (.func 122) [] [.loc 610 0 0],.I v2,.clo (.func 123) [] [.loc 611 0 0,.loc 612 0 0,.loc 613 0 0],.I v5,.clo (.func 125) [] [.loc 614 0 0,.loc 610 0 0],.I v7,.clo (.func 184) [] [.loc 615 0 0,.loc 616 0 0],.I v9,.clo (.func 129) [] [.loc 611 0 0,.loc 612 0 0],.I u,.clo (.func 130) [] [.loc 610 0 0,.loc 614 0 0],.I w,.clo (.func 184) [] [.loc 618 0 0,.loc 619 0 0],.I x,.clo (.func 184) [] [.loc 620 0 0,.loc 621 0 0],.I y,.clo (.func 184) [] [.loc 622 0 0,.loc 623 0 0],.I z,.clo (.func 137) [] [.loc 610 0 0],.I A]),(610,.var (Qf e)),(611,.var (Qe t)),(612,.var (Qb D)),(613,.var [.clo (.func 121) [] [.loc 610 0 0]]),(614,.var (Qb B)),(615,.var [.clo (.func 127) [] [.loc 611 0 0,.loc 610 0 0]]),(616,.var [.loc 617 0 0]),(617,.var (Qb r.2)),(618,.var [.clo (.func 132) [] [.loc 611 0 0,.loc 610 0 0,.loc 614 0 0]]),(619,.var [.loc 617 0 0]),(620,.var [.clo (.func 134) [] [.loc 611 0 0,.loc 610 0 0,.loc 614 0 0]]),(621,.var [.loc 617 0 0]),(622,.var [.clo (.func 135) [] [.loc 611 0 0,.loc 610 0 0]]),(623,.var [.loc 617 0 0])]):=by
 refine Qc.walk 18 func64 rfl rfl rfl fun C hC=>?_
 refine tg_ hC [.n 14] rfl ?_
 refine AK.loopN 11 (AK.rnd ?_)
 obtain⟨a0,E,h⟩:=Qd h
 refine Qa hC [.n 2,.v .no [] (.b true),.n 10,.o (.any (.loc 609 0 0) none),.n 3,.O 4 (.var [.clo (.func 122) [] [.loc 610 0 0],.I v2]),.n 6,.cm (.clo) [(609,610)] [(610,609)] [] [.d] [(609,.var (Qf e))] (.b a0),.n 3] rfl ⟨⟨⟨⟨tt_,rfl⟩,(fun σ a c _=>Stp.idxV rfl rfl (QC hC.n rfl) (a _ _ rfl) (a _ _ rfl) (Qo.es rfl) (c _ _ rfl) (by decide))⟩,rfl⟩,(Qp9 _ E)⟩ ?_
 refine bg_ h (fun f h=>Qa hC [.T,.n 13,.K [2] [609,610,611,612,613,614,615,616,617,618,619,620,621,622,623]] rfl ⟨tt_,f⟩ ?_) fun f h=>Qa hC [.F,.n 4,.v .no [] (.I 1),.n 2] rfl ⟨⟨tt_,f⟩,rfl⟩ ?_
 ·cases h
  exact d1_ rfl rfl ⟨rfl,rfl,rfl,rfl,rfl,rfl,rfl,rfl,rfl,rfl,rfl,rfl,rfl,rfl,rfl,tt_⟩
 refine AK.met (AK.rnd ?_)
 obtain⟨a1,G,h⟩:=Qd h
 refine Qa hC [.n 2,.v .no [] (.b true),.n 10,.o (.any (.loc 609 0 2) none),.n 1,.kill 4,.n 2,.O 4 (.var [.clo (.func 123) [] [.loc 611 0 0,.loc 612 0 0,.loc 613 0 0],.I v5]),.n 6,.cm (.clo) [(609,611),(610,612),(611,613),(612,610)] [(611,609),(612,610),(613,611),(610,612)] [] [.d,.d,.d] [(609,.var (Qe t)),(610,.var (Qb D)),(611,.var [.clo (.func 121) [] [.loc 612 0 0]]),(612,.var (Qf e))] (.b a1),.n 3] rfl ⟨⟨⟨⟨tt_,rfl⟩,(fun σ a c _=>Stp.idxV rfl rfl (QC hC.n rfl) (a _ _ rfl) (a _ _ rfl) (Qo.es rfl) (c _ _ rfl) (by decide))⟩,rfl⟩,(Qqb _ _ _ G)⟩ ?_
 refine bg_ h (fun g h=>Qa hC [.T,.n 13,.K [2] [609,610,611,612,613,614,615,616,617,618,619,620,621,622,623]] rfl ⟨tt_,g⟩ ?_) fun g h=>Qa hC [.F,.n 4,.v .no [] (.I 2),.n 2] rfl ⟨⟨tt_,g⟩,rfl⟩ ?_
 ·cases h
  exact d1_ rfl rfl ⟨rfl,rfl,rfl,rfl,rfl,rfl,rfl,rfl,rfl,rfl,rfl,rfl,rfl,rfl,rfl,tt_⟩
 refine AK.met (AK.rnd ?_)
 obtain⟨a2,H,h⟩:=Qd h
 refine Qa hC [.n 2,.v .no [] (.b true),.n 10,.o (.any (.loc 609 0 4) none),.n 1,.kill 4,.n 2,.O 4 (.var [.clo (.func 125) [] [.loc 614 0 0,.loc 610 0 0],.I v7]),.n 6,.cm (.clo) [(609,614),(610,610)] [(614,609),(610,610)] [] [.d,.d] [(609,.var (Qb B)),(610,.var (Qf e))] (.b a2),.n 3] rfl ⟨⟨⟨⟨tt_,rfl⟩,(fun σ a c _=>Stp.idxV rfl rfl (QC hC.n rfl) (a _ _ rfl) (a _ _ rfl) (Qo.es rfl) (c _ _ rfl) (by decide))⟩,rfl⟩,(Qqc _ _ H)⟩ ?_
 refine bg_ h (fun i h=>Qa hC [.T,.n 13,.K [2] [609,610,611,612,613,614,615,616,617,618,619,620,621,622,623]] rfl ⟨tt_,i⟩ ?_) fun i h=>Qa hC [.F,.n 4,.v .no [] (.I 3),.n 2] rfl ⟨⟨tt_,i⟩,rfl⟩ ?_
 ·cases h
  exact d1_ rfl rfl ⟨rfl,rfl,rfl,rfl,rfl,rfl,rfl,rfl,rfl,rfl,rfl,rfl,rfl,rfl,rfl,tt_⟩
 refine AK.met (AK.rnd ?_)
 obtain⟨J,L,h⟩:=Qd h
 refine Qa hC [.n 2,.v .no [] (.b true),.n 10,.o (.any (.loc 609 0 6) none),.n 1,.kill 4,.n 2,.O 4 (.var [.clo (.func 184) [] [.loc 615 0 0,.loc 616 0 0],.I v9]),.n 6,.cm (.clo) [(609,615),(610,611),(611,610),(612,616),(613,617)] [(615,609),(611,610),(610,611),(616,612),(617,613)] [] [.d,.d] [(609,.var [.clo (.func 127) [] [.loc 610 0 0,.loc 611 0 0]]),(610,.var (Qe t)),(611,.var (Qf e)),(612,.var [.loc 613 0 0]),(613,.var (Qb J.2))] (.b J.1),.n 3] rfl ⟨⟨⟨⟨tt_,rfl⟩,(fun σ a c _=>Stp.idxV rfl rfl (QC hC.n rfl) (a _ _ rfl) (a _ _ rfl) (Qo.es rfl) (c _ _ rfl) (by decide))⟩,rfl⟩,(Qps _ _ _ L)⟩ ?_
 refine bg_ h (fun j h=>Qa hC [.T,.n 13,.K [2] [609,610,611,612,613,614,615,616,617,618,619,620,621,622,623]] rfl ⟨tt_,j⟩ ?_) fun j h=>Qa hC [.F,.n 4,.v .no [] (.I 4),.n 2] rfl ⟨⟨tt_,j⟩,rfl⟩ ?_
 ·cases h
  exact d1_ rfl rfl ⟨rfl,rfl,rfl,rfl,rfl,rfl,rfl,rfl,rfl,rfl,rfl,rfl,rfl,rfl,rfl,tt_⟩
 refine AK.met (AK.rnd ?_)
 obtain⟨a3,M,h⟩:=Qd h
 refine Qa hC [.n 2,.v .no [] (.b true),.n 10,.o (.any (.loc 609 0 8) none),.n 1,.kill 4,.n 2,.O 4 (.var [.clo (.func 129) [] [.loc 611 0 0,.loc 612 0 0],.I u]),.n 6,.cm (.clo) [(609,611),(610,612)] [(611,609),(612,610)] [] [.d,.d] [(609,.var (Qe t)),(610,.var (Qb D))] (.b a3),.n 3] rfl ⟨⟨⟨⟨tt_,rfl⟩,(fun σ a c _=>Stp.idxV rfl rfl (QC hC.n rfl) (a _ _ rfl) (a _ _ rfl) (Qo.es rfl) (c _ _ rfl) (by decide))⟩,rfl⟩,(Qqe _ _ M)⟩ ?_
 refine bg_ h (fun k h=>Qa hC [.T,.n 13,.K [2] [609,610,611,612,613,614,615,616,617,618,619,620,621,622,623]] rfl ⟨tt_,k⟩ ?_) fun k h=>Qa hC [.F,.n 4,.v .no [] (.I 5),.n 2] rfl ⟨⟨tt_,k⟩,rfl⟩ ?_
 ·cases h
  exact d1_ rfl rfl ⟨rfl,rfl,rfl,rfl,rfl,rfl,rfl,rfl,rfl,rfl,rfl,rfl,rfl,rfl,rfl,tt_⟩
 refine AK.met (AK.rnd ?_)
 obtain⟨a4,N,h⟩:=Qd h
 refine Qa hC [.n 2,.v .no [] (.b true),.n 10,.o (.any (.loc 609 0 10) none),.n 1,.kill 4,.n 2,.O 4 (.var [.clo (.func 130) [] [.loc 610 0 0,.loc 614 0 0],.I w]),.n 6,.cm (.clo) [(609,610),(610,614)] [(610,609),(614,610)] [] [.d,.d] [(609,.var (Qf e)),(610,.var (Qb B))] (.b a4),.n 3] rfl ⟨⟨⟨⟨tt_,rfl⟩,(fun σ a c _=>Stp.idxV rfl rfl (QC hC.n rfl) (a _ _ rfl) (a _ _ rfl) (Qo.es rfl) (c _ _ rfl) (by decide))⟩,rfl⟩,(Qqi _ _ N)⟩ ?_
 refine bg_ h (fun l h=>Qa hC [.T,.n 13,.K [2] [609,610,611,612,613,614,615,616,617,618,619,620,621,622,623]] rfl ⟨tt_,l⟩ ?_) fun l h=>Qa hC [.F,.n 4,.v .no [] (.I 6),.n 2] rfl ⟨⟨tt_,l⟩,rfl⟩ ?_
 ·cases h
  exact d1_ rfl rfl ⟨rfl,rfl,rfl,rfl,rfl,rfl,rfl,rfl,rfl,rfl,rfl,rfl,rfl,rfl,rfl,tt_⟩
 refine AK.met (AK.rnd ?_)
 obtain⟨P,S,h⟩:=Qd h
 refine Qa hC [.n 2,.v .no [] (.b true),.n 10,.o (.any (.loc 609 0 12) none),.n 1,.kill 4,.n 2,.O 4 (.var [.clo (.func 184) [] [.loc 618 0 0,.loc 619 0 0],.I x]),.n 6,.cm (.clo) [(609,618),(610,611),(611,610),(612,614),(613,619),(614,617)] [(618,609),(611,610),(610,611),(614,612),(619,613),(617,614)] [] [.d,.d] [(609,.var [.clo (.func 132) [] [.loc 610 0 0,.loc 611 0 0,.loc 612 0 0]]),(610,.var (Qe t)),(611,.var (Qf e)),(612,.var (Qb B)),(613,.var [.loc 614 0 0]),(614,.var (Qb P.2))] (.b P.1),.n 3] rfl ⟨⟨⟨⟨tt_,rfl⟩,(fun σ a c _=>Stp.idxV rfl rfl (QC hC.n rfl) (a _ _ rfl) (a _ _ rfl) (Qo.es rfl) (c _ _ rfl) (by decide))⟩,rfl⟩,(Qnz _ _ _ _ S)⟩ ?_
 refine bg_ h (fun m h=>Qa hC [.T,.n 13,.K [2] [609,610,611,612,613,614,615,616,617,618,619,620,621,622,623]] rfl ⟨tt_,m⟩ ?_) fun m h=>Qa hC [.F,.n 4,.v .no [] (.I 7),.n 2] rfl ⟨⟨tt_,m⟩,rfl⟩ ?_
 ·cases h
  exact d1_ rfl rfl ⟨rfl,rfl,rfl,rfl,rfl,rfl,rfl,rfl,rfl,rfl,rfl,rfl,rfl,rfl,rfl,tt_⟩
 refine AK.met (AK.rnd ?_)
 obtain⟨U,W,h⟩:=Qd h
 refine Qa hC [.n 2,.v .no [] (.b true),.n 10,.o (.any (.loc 609 0 14) none),.n 1,.kill 4,.n 2,.O 4 (.var [.clo (.func 184) [] [.loc 620 0 0,.loc 621 0 0],.I y]),.n 6,.cm (.clo) [(609,620),(610,611),(611,610),(612,614),(613,621),(614,617)] [(620,609),(611,610),(610,611),(614,612),(621,613),(617,614)] [] [.d,.d] [(609,.var [.clo (.func 134) [] [.loc 610 0 0,.loc 611 0 0,.loc 612 0 0]]),(610,.var (Qe t)),(611,.var (Qf e)),(612,.var (Qb B)),(613,.var [.loc 614 0 0]),(614,.var (Qb U.2))] (.b U.1),.n 3] rfl ⟨⟨⟨⟨tt_,rfl⟩,(fun σ a c _=>Stp.idxV rfl rfl (QC hC.n rfl) (a _ _ rfl) (a _ _ rfl) (Qo.es rfl) (c _ _ rfl) (by decide))⟩,rfl⟩,(QnA _ _ _ _ W)⟩ ?_
 refine bg_ h (fun p h=>Qa hC [.T,.n 13,.K [2] [609,610,611,612,613,614,615,616,617,618,619,620,621,622,623]] rfl ⟨tt_,p⟩ ?_) fun p h=>Qa hC [.F,.n 4,.v .no [] (.I 8),.n 2] rfl ⟨⟨tt_,p⟩,rfl⟩ ?_
 ·cases h
  exact d1_ rfl rfl ⟨rfl,rfl,rfl,rfl,rfl,rfl,rfl,rfl,rfl,rfl,rfl,rfl,rfl,rfl,rfl,tt_⟩
 refine AK.met (AK.rnd ?_)
 obtain⟨X,Y,h⟩:=Qd h
 refine Qa hC [.n 2,.v .no [] (.b true),.n 10,.o (.any (.loc 609 0 16) none),.n 1,.kill 4,.n 2,.O 4 (.var [.clo (.func 184) [] [.loc 622 0 0,.loc 623 0 0],.I z]),.n 6,.cm (.clo) [(609,622),(610,611),(611,610),(612,623),(613,617)] [(622,609),(611,610),(610,611),(623,612),(617,613)] [] [.d,.d] [(609,.var [.clo (.func 135) [] [.loc 610 0 0,.loc 611 0 0]]),(610,.var (Qe t)),(611,.var (Qf e)),(612,.var [.loc 613 0 0]),(613,.var (Qb X.2))] (.b X.1),.n 3] rfl ⟨⟨⟨⟨tt_,rfl⟩,(fun σ a c _=>Stp.idxV rfl rfl (QC hC.n rfl) (a _ _ rfl) (a _ _ rfl) (Qo.es rfl) (c _ _ rfl) (by decide))⟩,rfl⟩,(QnB _ _ _ Y)⟩ ?_
 refine bg_ h (fun q h=>Qa hC [.T,.n 13,.K [2] [609,610,611,612,613,614,615,616,617,618,619,620,621,622,623]] rfl ⟨tt_,q⟩ ?_) fun q h=>Qa hC [.F,.n 4,.v .no [] (.I 9),.n 2] rfl ⟨⟨tt_,q⟩,rfl⟩ ?_
 ·cases h
  exact d1_ rfl rfl ⟨rfl,rfl,rfl,rfl,rfl,rfl,rfl,rfl,rfl,rfl,rfl,rfl,rfl,rfl,rfl,tt_⟩
 refine AK.met (AK.rnd ?_)
 obtain⟨a5,Z,h⟩:=Qd h
 refine Qa hC [.n 2,.v .no [] (.b true),.n 10,.o (.any (.loc 609 0 18) none),.n 1,.kill 4,.n 2,.O 4 (.var [.clo (.func 137) [] [.loc 610 0 0],.I A]),.n 6,.cm (.clo) [(609,610)] [(610,609)] [] [.d] [(609,.var (Qf e))] (.b a5),.n 3] rfl ⟨⟨⟨⟨tt_,rfl⟩,(fun σ a c _=>Stp.idxV rfl rfl (QC hC.n rfl) (a _ _ rfl) (a _ _ rfl) (Qo.es rfl) (c _ _ rfl) (by decide))⟩,rfl⟩,(Qpv _ Z)⟩ ?_
 refine bg_ h (fun s h=>Qa hC [.T,.n 13,.K [2] [609,610,611,612,613,614,615,616,617,618,619,620,621,622,623]] rfl ⟨tt_,s⟩ ?_) fun s h=>Qa hC [.F,.n 4,.v .no [] (.I 10),.n 2] rfl ⟨⟨tt_,s⟩,rfl⟩ ?_
 ·cases h
  exact d1_ rfl rfl ⟨rfl,rfl,rfl,rfl,rfl,rfl,rfl,rfl,rfl,rfl,rfl,rfl,rfl,rfl,rfl,tt_⟩
 refine AK.met (AK.rnd ?_)
 refine Qa hC [.n 2,.v .no [] (.b false),.n 15] rfl ⟨tt_,rfl⟩ ?_
 cases h
 exact d1_ rfl rfl ⟨rfl,rfl,rfl,rfl,rfl,rfl,rfl,rfl,rfl,rfl,rfl,rfl,rfl,rfl,rfl,tt_⟩
def QbV (a:Qm)(e:Int):Option Int:=
 (QbU a.Tasks e).bind fun g=>
 bif (!g)then
 some 3
 else
 (QeQ a).bind fun f=>
 bif (f.2 != 0)then
 some f.2
 else
 (idx a.Tasks e).bind fun d=>
 (idx a.Tasks e).bind fun b=>
 (QiX 0 a d).bind fun h=>
 (Qf4 0 a d (b.Vars.length:Int)).bind fun i=>
 (Qf5 0 a d (b.Vars.length:Int)).bind fun j=>
 (Qf6 0 a d).bind fun k=>
 (Qed d 1 a e 5 (b.Vars.length:Int) 2 0 (-1) 2 1 (-1) (-1) (-1) 11).bind fun c=>
 bif (c.1==(-1))then
 some c.2
 else
 some c.1
theorem QrN (g y){r}(h:QbV g y=some r):Qc prog 75 [.agg (Qe g),.I y] [] (Qh (.I r) []):=by
 refine Qc.walk 68 func75 rfl rfl rfl fun C hC=>?_
 obtain⟨E,z,h⟩:=Qd h
 refine Qa hC [.n 13,.o (.c false [.d,.d] (.b E)),.n 3] rfl ⟨tt_,(Qg9 _ _ z)⟩ ?_
 rcases Qt h with⟨j,h⟩|⟨j,h⟩
 ·refine Qa hC [.T,.n 7] rfl ⟨tt_,j⟩ ?_
  cases h
  exact d1_ rfl rfl tt_
 obtain⟨D,A,h⟩:=Qd h
 refine Qa hC [.F,.n 5,.v .no [] (.agg (Qe g)),.o (.c false [.d] (.tup [.I D.1,.I D.2])),.n 13] rfl ⟨⟨⟨tt_,j⟩,rfl⟩,(Qkv _ A)⟩ ?_
 rcases Qt h with⟨k,h⟩|⟨k,h⟩
 ·refine Qa hC [.T,.n 8] rfl ⟨tt_,k⟩ ?_
  cases h
  exact d1_ rfl rfl tt_
 obtain⟨i,B,h⟩:=Qd h
 obtain⟨e,l,h⟩:=Qd h
 refine Qa hC [.F,.n 3,.K [2,3] [2,3]] rfl ⟨tt_,k⟩ ?_
 refine AK.draw2 Qo hC mixed [.N,.N,.N,.a (.row (Qf i)) none false,.a .no (some ([],.agg (Qf i))) false,.a .no none true,.a .no none true,.a .no none true,.a (.row (Qf e)) none true,.a .no none true,.a .no none true,.a (.ln e.Vars.length) none true,.N,.N,.m .s,.m .s] [2,3] [2,3] [2,3,7,8] [2,3,7,8] rfl rfl rfl ⟨⟨⟨⟨tt_,(QF B)⟩,rfl⟩,(QF l)⟩,Qj⟩ rfl (by kernel_rfl) rfl rfl rfl ?_
 obtain⟨G,p,h⟩:=Qd h
 obtain⟨H,q,h⟩:=Qd h
 obtain⟨J,t,h⟩:=Qd h
 obtain⟨L,u,h⟩:=Qd h
 obtain⟨w,x,h⟩:=Qd h
 refine Qa hC [.O 7 (.var (Qf i)),.O 8 (.var (Qb (e.Vars.length:Int))),.n 6,.O 9 (.var [.clo (.func 121) [] [.loc 7 0 0]]),.n 10,.v .no [] (.agg [.clo (.func 122) [] [.loc 7 0 0],.I 1]),.n 1,.v .no [] (.agg [.clo (.func 123) [] [.loc 2 0 0,.loc 3 0 0,.loc 9 0 0],.I 5]),.n 1,.v .no [] (.agg [.clo (.func 125) [] [.loc 8 0 0,.loc 7 0 0],.I 2]),.n 1,.cm (.fn) [(609,10),(610,2),(611,7)] [(45,2),(603,3),(10,609),(2,610),(7,611)] [] [.d,.d] [(2,.var [.loc 609 0 0]),(3,.var [.clo (.func 127) [] [.loc 610 0 0,.loc 611 0 0]]),(609,.var (Qb 0)),(610,.var (Qe g)),(611,.var (Qf i))] (.clo (.func 184) [] [.loc 3 0 0,.loc 2 0 0]),.v .no [] (.agg [.clo (.func 184) [] [.loc 603 0 0,.loc 45 0 0],.I (-1)]),.n 1,.v .no [] (.agg [.clo (.func 129) [] [.loc 2 0 0,.loc 3 0 0],.I 2]),.n 1,.v .no [] (.agg [.clo (.func 130) [] [.loc 7 0 0,.loc 8 0 0],.I 1]),.n 1,.cm (.fn) [(609,10),(610,2),(611,7),(612,8)] [(52,2),(604,3),(10,609),(2,610),(7,611),(8,612)] [] [.d,.d] [(2,.var [.loc 609 0 0]),(3,.var [.clo (.func 132) [] [.loc 610 0 0,.loc 611 0 0,.loc 612 0 0]]),(609,.var (Qb 0)),(610,.var (Qe g)),(611,.var (Qf i)),(612,.var (Qb (e.Vars.length:Int)))] (.clo (.func 184) [] [.loc 3 0 0,.loc 2 0 0]),.v .no [] (.agg [.clo (.func 184) [] [.loc 604 0 0,.loc 52 0 0],.I (-1)]),.n 1,.cm (.fn) [(609,10),(610,2),(611,7),(612,8)] [(55,2),(605,3),(10,609),(2,610),(7,611),(8,612)] [] [.d,.d] [(2,.var [.loc 609 0 0]),(3,.var [.clo (.func 134) [] [.loc 610 0 0,.loc 611 0 0,.loc 612 0 0]]),(609,.var (Qb 0)),(610,.var (Qe g)),(611,.var (Qf i)),(612,.var (Qb (e.Vars.length:Int)))] (.clo (.func 184) [] [.loc 3 0 0,.loc 2 0 0]),.v .no [] (.agg [.clo (.func 184) [] [.loc 605 0 0,.loc 55 0 0],.I (-1)]),.n 1,.cm (.fn) [(609,10),(610,2),(611,7)] [(58,2),(606,3),(10,609),(2,610),(7,611)] [] [.d,.d] [(2,.var [.loc 609 0 0]),(3,.var [.clo (.func 135) [] [.loc 610 0 0,.loc 611 0 0]]),(609,.var (Qb 0)),(610,.var (Qe g)),(611,.var (Qf i))] (.clo (.func 184) [] [.loc 3 0 0,.loc 2 0 0]),.v .no [] (.agg [.clo (.func 184) [] [.loc 606 0 0,.loc 58 0 0],.I (-1)]),.n 1,.v .no [] (.agg [.clo (.func 137) [] [.loc 7 0 0],.I 11]),.o (.any (.own 62 10) (some (.var [.clo (.func 122) [] [.loc 7 0 0],.I 1,.clo (.func 123) [] [.loc 2 0 0,.loc 3 0 0,.loc 9 0 0],.I 5,.clo (.func 125) [] [.loc 8 0 0,.loc 7 0 0],.I 2,.clo (.func 184) [] [.loc 603 0 0,.loc 45 0 0],.I (-1),.clo (.func 129) [] [.loc 2 0 0,.loc 3 0 0],.I 2,.clo (.func 130) [] [.loc 7 0 0,.loc 8 0 0],.I 1,.clo (.func 184) [] [.loc 604 0 0,.loc 52 0 0],.I (-1),.clo (.func 184) [] [.loc 605 0 0,.loc 55 0 0],.I (-1),.clo (.func 184) [] [.loc 606 0 0,.loc 58 0 0],.I (-1),.clo (.func 137) [] [.loc 7 0 0],.I 11]))),.cm (.fn) [(609,62),(610,7),(611,2),(612,3),(613,9),(614,8),(615,603),(616,45),(617,10),(618,604),(619,52),(620,605),(621,55),(622,606),(623,58)] [(62,609),(7,610),(2,611),(3,612),(9,613),(8,614),(603,615),(45,616),(10,617),(604,618),(52,619),(605,620),(55,621),(606,622),(58,623)] [] [.d] [(609,.var [.clo (.func 122) [] [.loc 610 0 0],.I 1,.clo (.func 123) [] [.loc 611 0 0,.loc 612 0 0,.loc 613 0 0],.I 5,.clo (.func 125) [] [.loc 614 0 0,.loc 610 0 0],.I 2,.clo (.func 184) [] [.loc 615 0 0,.loc 616 0 0],.I (-1),.clo (.func 129) [] [.loc 611 0 0,.loc 612 0 0],.I 2,.clo (.func 130) [] [.loc 610 0 0,.loc 614 0 0],.I 1,.clo (.func 184) [] [.loc 618 0 0,.loc 619 0 0],.I (-1),.clo (.func 184) [] [.loc 620 0 0,.loc 621 0 0],.I (-1),.clo (.func 184) [] [.loc 622 0 0,.loc 623 0 0],.I (-1),.clo (.func 137) [] [.loc 610 0 0],.I 11]),(610,.var (Qf i)),(611,.var (Qe g)),(612,.var (Qb y)),(613,.var [.clo (.func 121) [] [.loc 610 0 0]]),(614,.var (Qb (e.Vars.length:Int))),(615,.var [.clo (.func 127) [] [.loc 611 0 0,.loc 610 0 0]]),(616,.var [.loc 617 0 0]),(617,.var (Qb w.2)),(618,.var [.clo (.func 132) [] [.loc 611 0 0,.loc 610 0 0,.loc 614 0 0]]),(619,.var [.loc 617 0 0]),(620,.var [.clo (.func 134) [] [.loc 611 0 0,.loc 610 0 0,.loc 614 0 0]]),(621,.var [.loc 617 0 0]),(622,.var [.clo (.func 135) [] [.loc 611 0 0,.loc 610 0 0]]),(623,.var [.loc 617 0 0])] (.I w.1),.n 10] rfl ⟨⟨⟨⟨⟨⟨⟨⟨⟨⟨⟨⟨⟨⟨⟨⟨⟨⟨⟨tt_,rfl⟩,rfl⟩,rfl⟩,rfl⟩,rfl⟩,rfl⟩,(Qq1 _ _ _ p)⟩,rfl⟩,rfl⟩,rfl⟩,(QoH _ _ _ _ q)⟩,rfl⟩,(QoI _ _ _ _ t)⟩,rfl⟩,(QoJ _ _ _ u)⟩,rfl⟩,rfl⟩,(fun σ M P hf=>Stp.buildAny rfl rfl (QC hC.n rfl) (Qo.es rfl) Qkp rfl (by decide) (by decide) (QdO M rfl) rfl rfl (hf rfl))⟩,(QoQ _ _ _ _ _ _ _ _ _ _ _ _ _ _ _ x)⟩ ?_
 refine bg_ h (fun f h=>Qa hC [.T,.n 8,.K [4] []] rfl ⟨tt_,f⟩ ?_) fun f h=>Qa hC [.F,.n 9,.K [4] []] rfl ⟨tt_,f⟩ ?_
 ·cases h
  exact d1_ rfl rfl tt_
 cases h
 exact d1_ rfl rfl tt_
def Qgw (a:Int)(d:Qw)(b:Qm):Option Int:=
 (QbV b a).bind fun c=>
 some c
theorem Qq5 (e f a){r}(h:Qgw e f a=some r):Qc prog 74 [.I e,.agg (Qf f),.loc 609 0 0] [(609,.var (Qe a))] (Qh (.I r) [(609,.var (Qe a))]):=by
 refine Qc.walk 9 func74 rfl rfl rfl fun C hC=>?_
 obtain⟨g,b,h⟩:=Qd h
 refine Qa hC [.n 8,.v .no [] (.agg (Qe a)),.n 1,.o (.c false [.d,.d] (.I g)),.n 4] rfl ⟨⟨tt_,rfl⟩,(QrN _ _ b)⟩ ?_
 cases h
 exact d1_ rfl rfl ⟨rfl,tt_⟩
def Qa3 (d:(List Qw))(e:Qm)(a:Int):Option (Int⊕((Int×Int)⊕Unit)):=
 bif (decide (a<(d.length:Int)))then
 (idx d a).bind fun c=>
 (Qgw a c e).bind fun b=>
 bif (b != 0)then
 some (.inr (.inl (a,b)))
 else
 some (.inl (w64 (a+1)))
 else
 some (.inr (.inr ()))
def Qcq (b:Int)(a:Int):Option (Int×Int):=
 some (b,a)
def Qcr : Option (Int×Int):=
 some (0,0)
def Qbx (a:(List Qw))(b:Qm):Option (Int×Int):=
 (Qy (fun st=>Qa3 a b st) 0).bind (Sum.elim (fun q=>Qcq q.1 q.2) (fun q=>Qcr))
theorem Ql0 (g f){r}(h:Qbx g f=some r):Qc prog 73 [.sl 14 (g.map Qf),.clo (.func 74) [] [.loc 609 0 0]] [(609,.var (Qe f))] (Qh (.tup [.I r.1,.I r.2]) [(609,.var (Qe f))]):=by
 refine Qc.walk 25 func73 rfl rfl rfl fun C hC=>?_
 refine Qa hC [.n 10,.o (.ln g.length),.n 4,.K [1,9,10,11] [609]] rfl ⟨tt_,Qj⟩ ?_
 obtain⟨l,i,h⟩:=Qd h
 refine AK.loop (body:=(fun st=>Qa3 g f st)) (fun st σ=>σ=⟨[(1,.clo (.func 74) [] [.loc 609 0 0]),(9,.sl 14 (g.map Qf)),(10,.I (g.length:Int)),(11,.I st)],[(609,.var (Qe f))]⟩) (Sum.elim (fun q e σ=>e=.ret∧σ=⟨[(4,.I q.1),(5,.I q.2)],[(609,.var (Qe f))]⟩) (fun q e σ=>e=.exit 0∧σ=⟨[],[(609,.var (Qe f))]⟩)) i rfl ?_ ?_
 ·rintro t o σ rfl h
  refine tg_ hC [.n 6] rfl ?_
  rcases Qt h with⟨a,h⟩|⟨a,h⟩
  ·obtain⟨c,j,h⟩:=Qd h
   obtain⟨m,k,h⟩:=Qd h
   refine Qa hC [.T,.n 7,.o (.row (Qf c)),.v .no [] (.agg (Qf c)),.n 3,.O 7 (.var (Qf c)),.n 6,.v .no [] (.agg (Qf c)),.cm (.clo) [(609,609)] [(609,609)] [] [.d,.d,.d] [(609,.var (Qe f))] (.I m),.n 9] rfl ⟨⟨⟨⟨⟨⟨tt_,a⟩,(QF j)⟩,rfl⟩,rfl⟩,rfl⟩,(Qq5 _ _ _ k)⟩ ?_
   refine bg_ h (fun b h=>Qa hC [.T,.n 11,.K [4,5] [609]] rfl ⟨tt_,b⟩ ?_) fun b h=>Qa hC [.F,.n 7,.K [1,9,10,11] [609]] rfl ⟨tt_,b⟩ ?_
   ·cases h
    exact QaY rfl (an_ rfl rfl)
   cases h
   exact QV rfl rfl
  refine Qa hC [.F,.n 2,.K [] [609]] rfl ⟨tt_,a⟩ ?_
  cases h
  exact QW rfl (an_ rfl rfl)
 rcases l with(⟨s,p⟩|_)
 ·replace h:Qcq s p=some r:=h
  rintro e σ ⟨rfl,rfl⟩
  refine tg_ hC [.n 2] rfl ?_
  cases h
  exact d2_ rfl rfl rfl ⟨rfl,tt_⟩
 replace h:Qcr=some r:=h
 rintro e σ ⟨rfl,rfl⟩
 refine tg_ hC [.n 9] rfl ?_
 cases h
 exact d2_ rfl rfl rfl ⟨rfl,tt_⟩
def QgE (c:Qm):Option (Int×Qek):=
 (QiS c 2 3 1).bind fun e=>
 bif (e != 0)then
 some (e,(Qek.mk 1 0))
 else
 (QeQ c).bind fun d=>
 bif (d.2 != 0)then
 some (d.2,(Qek.mk 2 d.1))
 else
 (QcW c.Places c).bind fun a=>
 bif (a.2 != 0)then
 some (a.2,(Qek.mk 3 a.1))
 else
 (Qbx c.Tasks c).bind fun b=>
 bif (b.2 != 0)then
 some (b.2,(Qek.mk 4 b.1))
 else
 some (0,(Qek.mk 0 0))
theorem Qsv (j){r}(h:QgE j=some r):Qc prog 33 [.agg (Qe j)] [] (Qh (.tup [.agg (Qb9 r.2),.I r.1]) []):=by
 refine Qc.walk 58 func33 rfl rfl rfl fun C hC=>?_
 obtain⟨s,p,h⟩:=Qd h
 refine Qa hC [.n 10,.v .no [] (.agg [.clo (.func 65) [] [.loc 1 0 0],.I 2]),.n 1,.v .no [] (.agg [.clo (.func 66) [] [.loc 1 0 0],.I 3]),.n 1,.v .no [] (.agg [.clo (.func 68) [] [.loc 1 0 0],.I 1]),.o (.any (.own 17 3) (some (.var [.clo (.func 65) [] [.loc 1 0 0],.I 2,.clo (.func 66) [] [.loc 1 0 0],.I 3,.clo (.func 68) [] [.loc 1 0 0],.I 1]))),.cm (.fn) [(609,17),(610,1)] [(17,609),(1,610)] [] [.d] [(609,.var [.clo (.func 65) [] [.loc 610 0 0],.I 2,.clo (.func 66) [] [.loc 610 0 0],.I 3,.clo (.func 68) [] [.loc 610 0 0],.I 1]),(610,.var (Qe j))] (.I s),.n 10] rfl ⟨⟨⟨⟨⟨tt_,rfl⟩,rfl⟩,rfl⟩,(fun σ t u hf=>Stp.buildAny rfl rfl (QC hC.n rfl) (Qo.es rfl) Qkp rfl (by decide) (by decide) (QdO t rfl) rfl rfl (hf rfl))⟩,(QqV _ _ _ _ p)⟩ ?_
 rcases Qt h with⟨g,h⟩|⟨g,h⟩
 ·refine Qa hC [.T,.n 2,.v .no [] (.agg (Qb9 (Qek.mk 1 0))),.n 2,.O 2 (.var (Qb9 (Qek.mk 1 0))),.n 5,.K [2,3] [2]] rfl ⟨⟨⟨tt_,g⟩,rfl⟩,rfl⟩ ?_
  cases h
  exact AK.done (ex_ [_,_] (an_ (an_ (ex_ _ (ex_ _ (an_ rfl (an_ rfl (Or.inl (an_ (Qo.ag rfl) (an_ (Qo.sz rfl) rfl))))))) (an_ rfl tt_)) (QbM tt_)))
 obtain⟨m,q,h⟩:=Qd h
 refine Qa hC [.F,.n 5,.v .no [] (.agg (Qe j)),.o (.c false [.d] (.tup [.I m.1,.I m.2])),.n 13] rfl ⟨⟨⟨tt_,g⟩,rfl⟩,(Qkv _ q)⟩ ?_
 rcases Qt h with⟨i,h⟩|⟨i,h⟩
 ·refine Qa hC [.T,.n 3,.v .no [] (.agg (Qb9 (Qek.mk 2 m.1))),.n 2,.O 2 (.var (Qb9 (Qek.mk 2 m.1))),.n 5,.K [2,3] [2]] rfl ⟨⟨⟨tt_,i⟩,rfl⟩,rfl⟩ ?_
  cases h
  exact AK.done (ex_ [_,_] (an_ (an_ (ex_ _ (ex_ _ (an_ rfl (an_ rfl (Or.inl (an_ (Qo.ag rfl) (an_ (Qo.sz rfl) rfl))))))) (an_ rfl tt_)) (QbM tt_)))
 obtain⟨e,k,h⟩:=Qd h
 refine Qa hC [.F,.n 8,.cm (.fn) [(609,1)] [(1,609)] [] [.d,.d] [(609,.var (Qe j))] (.tup [.I e.1,.I e.2]),.n 13] rfl ⟨⟨tt_,i⟩,(Qld _ _ k)⟩ ?_
 rcases Qt h with⟨a,h⟩|⟨a,h⟩
 ·refine Qa hC [.T,.n 3,.v .no [] (.agg (Qb9 (Qek.mk 3 e.1))),.n 2,.O 2 (.var (Qb9 (Qek.mk 3 e.1))),.n 5,.K [2,3] [2]] rfl ⟨⟨⟨tt_,a⟩,rfl⟩,rfl⟩ ?_
  cases h
  exact AK.done (ex_ [_,_] (an_ (an_ (ex_ _ (ex_ _ (an_ rfl (an_ rfl (Or.inl (an_ (Qo.ag rfl) (an_ (Qo.sz rfl) rfl))))))) (an_ rfl tt_)) (QbM tt_)))
 obtain⟨f,l,h⟩:=Qd h
 refine Qa hC [.F,.n 8,.cm (.fn) [(609,1)] [(1,609)] [] [.d,.d] [(609,.var (Qe j))] (.tup [.I f.1,.I f.2]),.n 13] rfl ⟨⟨tt_,a⟩,(Ql0 _ _ l)⟩ ?_
 refine bg_ h (fun b h=>Qa hC [.T,.n 3,.v .no [] (.agg (Qb9 (Qek.mk 4 f.1))),.n 2,.O 2 (.var (Qb9 (Qek.mk 4 f.1))),.n 5,.K [2,3] [2]] rfl ⟨⟨⟨tt_,b⟩,rfl⟩,rfl⟩ ?_) fun b h=>Qa hC [.F,.n 4,.v .no [] (.agg (Qb9 (Qek.mk 0 0))),.n 1,.O 2 (.var (Qb9 (Qek.mk 0 0))),.n 4,.K [2,3] [2]] rfl ⟨⟨⟨tt_,b⟩,rfl⟩,rfl⟩ ?_
 ·cases h
  exact AK.done (ex_ [_,_] (an_ (an_ (ex_ _ (ex_ _ (an_ rfl (an_ rfl (Or.inl (an_ (Qo.ag rfl) (an_ (Qo.sz rfl) rfl))))))) (an_ rfl tt_)) (QbM tt_)))
 cases h
 exact AK.done (ex_ [_,_] (an_ (an_ (ex_ _ (ex_ _ (an_ rfl (an_ rfl (Or.inl (an_ (Qo.ag rfl) (an_ (Qo.sz rfl) rfl))))))) (an_ rfl tt_)) (QbM tt_)))
def QjK (a:Qm):Option Bool:=
 (QiE a).bind fun b=>
 bif ((!b)||((decide (8<(a.Tasks.length:Int)))||(decide (12<(a.Places.length:Int)))))then
 some false
 else
 (QgE a).bind fun c=>
 some (c.1==0)
theorem QrO (a){r}(h:QjK a=some r):Qc prog 10 [.agg (Qe a)] [] (Qh (.b r) []):=by
 refine Qc.walk 29 func10 rfl rfl rfl fun C hC=>?_
 obtain⟨i,j,h⟩:=Qd h
 refine Qa hC [.n 8,.v .no [] (.agg (Qe a)),.o (.c false [.d] (.b i)),.n 5] rfl ⟨⟨tt_,rfl⟩,(Qsr _ j)⟩ ?_
 refine AK.meetX (fun σ=>σ=⟨[(1,.loc 1 0 0),(21,.b ((!i)||((decide (8<(a.Tasks.length:Int)))||(decide (12<(a.Places.length:Int))))))],[(1,.var (Qe a))]⟩) ?_ ?_
 ·refine tg_ hC [.n 4] rfl ?_
  rcases QS (!i)with e | e
  ·refine Qa hC [.S 10 (.b true),.n 12,.S 21 (.b ((!i)||((decide (8<(a.Tasks.length:Int)))||(decide (12<(a.Places.length:Int)))))),.K [1,21] [1]] rfl ⟨(tc_ e),(congrArg V.b (orT e rfl))⟩ ?_
   exact AK.met rfl
  refine Qa hC [.S 10 (.b false),.n 2,.o (.ln a.Tasks.length),.n 3] rfl ⟨(tc_ e),Qj⟩ ?_
  rcases QS (decide (8<(a.Tasks.length:Int)))with f | f
  ·refine Qa hC [.S 16 (.b true),.n 6,.S 21 (.b ((!i)||((decide (8<(a.Tasks.length:Int)))||(decide (12<(a.Places.length:Int)))))),.K [1,21] [1]] rfl ⟨(tc_ f),(congrArg V.b (orF e (orT f rfl)))⟩ ?_
   exact AK.met rfl
  refine Qa hC [.S 16 (.b false),.n 2,.o (.ln a.Places.length),.n 3,.S 21 (.b ((!i)||((decide (8<(a.Tasks.length:Int)))||(decide (12<(a.Places.length:Int)))))),.K [1,21] [1]] rfl ⟨⟨(tc_ f),Qj⟩,(congrArg V.b (orF e (orF f rfl)))⟩ ?_
  exact AK.met rfl
 rintro σ rfl
 refine tg_ hC [.n 1] rfl ?_
 rcases Qt h with⟨g,h⟩|⟨g,h⟩
 ·refine Qa hC [.T,.n 7] rfl ⟨tt_,g⟩ ?_
  cases h
  exact d1_ rfl rfl tt_
 obtain⟨k,l,h⟩:=Qd h
 refine Qa hC [.F,.n 4,.v .no [] (.agg (Qe a)),.o (.c false [.d] (.tup [.agg (Qb9 k.2),.I k.1])),.n 5,.O 4 (.var (Qb9 k.2)),.n 11] rfl ⟨⟨⟨⟨tt_,g⟩,rfl⟩,(Qsv _ l)⟩,rfl⟩ ?_
 cases h
 exact d1_ rfl rfl tt_
def QdH (a:Int)(b:(List Int)):Option ((Int×(List Int))⊕(List Int)):=
 some (.inl ((w64 (a+1)),b))
def QaO (g:(QLL×Int))(b:Int)(a:Int)(c:(List Int)):Option ((Int×(List Int))⊕(List Int)):=
 (idx g.1 b).bind fun d=>
 bif (decide (a<(d.length:Int)))then
 (idx g.1 b).bind fun e=>
 (idx e a).bind fun f=>
 bif (f != 0)then
 (idx c b).bind fun h=>
 QdH a (c.set b.toNat a)
 else
 QdH a c
 else
 some (.inr c)
def Qgi (b:(List Int))(a:Int)(i:(QLL×Int)):Option Bool:=
 (idx b a).bind fun c=>
 bif (decide (c<0))then
 some true
 else
 (idx i.1 a).bind fun d=>
 (idx b a).bind fun e=>
 (idx d e).bind fun f=>
 bif (decide (f<1))then
 some true
 else
 bif (decide (0<a))then
 (idx b a).bind fun g=>
 (idx b (w64 (a-1))).bind fun h=>
 some (decide (g≤h))
 else
 some false
def QdI (a:Int)(b:(List Int))(c:Bool):Option ((Int×(List Int))⊕(Unit⊕(List Int))):=
 bif c then
 some (.inr (.inl ()))
 else
 some (.inl ((w64 (a+1)),b))
def Qgj (a:Int)(d:(QLL×Int))(b:(List Int)):Option ((Int×(List Int))⊕(Unit⊕(List Int))):=
 (Qgi b a d).bind (fun c=>QdI a b c)
def Qbf (c:(QLL×Int))(a:Int)(b:(List Int)):Option ((Int×(List Int))⊕(Unit⊕(List Int))):=
 bif (decide (a<(c.1.length:Int)))then
 (idx b a).bind fun d=>
 (Qy (fun st=>QaO c a st.1 st.2) (0,(b.set a.toNat (-1)))).bind (fun q=>Qgj a c q)
 else
 some (.inr (.inr b))
def QjL : Option Bool:=
 some false
def Qgk (a:Int)(b:Int)(g:(QLL×Int))(c:(List Int)):Option Bool:=
 bif (a != b)then
 (idx g.1 b).bind fun d=>
 (idx c a).bind fun e=>
 (idx d e).bind fun f=>
 some (f != 0)
 else
 some false
def Qgl (a:Int)(b:Bool):Option (Int⊕(Unit⊕Unit)):=
 bif b then
 some (.inr (.inl ()))
 else
 some (.inl (w64 (a+1)))
def Qa4 (e:(QLL×Int))(b:Int)(c:(List Int))(a:Int):Option (Int⊕(Unit⊕Unit)):=
 bif (decide (a<(e.1.length:Int)))then
 (Qgk a b e c).bind (fun d=>Qgl a d)
 else
 some (.inr (.inr ()))
def Qjg : Option (Int⊕(Unit⊕Unit)):=
 some (.inr (.inl ()))
def Qjh (a:Int):Option (Int⊕(Unit⊕Unit)):=
 some (.inl (w64 (a+1)))
def Qa5 (c:(QLL×Int))(b:(List Int))(a:Int):Option (Int⊕(Unit⊕Unit)):=
 bif (decide (a<(c.1.length:Int)))then
 (Qy (fun st=>Qa4 c a b st) 0).bind (Sum.elim (fun q=>Qjg) (fun q=>Qjh a))
 else
 some (.inr (.inr ()))
def Qji : Option Bool:=
 some false
def Qdn (a:Bool)(b:(QLL×Int))(c:Qm):Option Bool:=
 some (a&&(decide ((b.1.length:Int)≤(c.Places.length:Int))))
def Qdo (b:(QLL×Int))(c:Bool)(d:Qm)(a:(List Int)):Option Bool:=
 (Qy (fun st=>Qa5 b a st) 0).bind (Sum.elim (fun q=>Qji) (fun q=>Qdn c b d))
def Qdz (b:Qm):Option Bool:=
 (QiO).bind fun c=>
 (QjK b).bind fun d=>
 bif (!d)then
 some c
 else
 (Qds b).bind fun a=>
 bif (a.2 != 0)then
 some (c&&((a.1.length:Int)==0))
 else
 (chk (decide (0≤(a.1.length:Int))&&decide ((a.1.length:Int)≤(a.1.length:Int))&&decide ((a.1.length:Int)≤4294967296))).bind fun _=>
 (Qy (fun st=>Qbf a st.1 st.2) (0,(List.replicate (a.1.length:Int).toNat (0:Int)))).bind (Sum.elim (fun q=>QjL) (fun q=>Qdo a c b q))
theorem Qom (l){r}(h:Qdz l=some r):Qc prog 5 [.agg (Qe l)] [] (Qh (.b r) []):=by
 refine Qc.walk 135 func5 rfl rfl rfl fun C hC=>?_
 obtain⟨k,c4,h⟩:=Qd h
 obtain⟨x5,c5,h⟩:=Qd h
 refine Qa hC [.n 8,.o (.c false [] (.b k)),.n 5,.v .no [] (.agg (Qe l)),.o (.c false [.d] (.b x5)),.n 10] rfl ⟨⟨⟨tt_,(QqQ  c4)⟩,rfl⟩,(QrO _ c5)⟩ ?_
 rcases Qt h with⟨a1,h⟩|⟨a1,h⟩
 ·refine Qa hC [.T,.n 8] rfl ⟨tt_,a1⟩ ?_
  cases h
  exact d1_ rfl rfl tt_
 obtain⟨f,c6,h⟩:=Qd h
 refine Qa hC [.F,.n 4,.v .no [] (.agg (Qe l)),.o (.c false [.d] (.tup [.sl 1 (f.1.map Qi),.I f.2])),.n 14] rfl ⟨⟨⟨tt_,a1⟩,rfl⟩,(QlB _ c6)⟩ ?_
 rcases Qt h with⟨a2,h⟩|⟨a2,h⟩
 ·refine Qa hC [.T,.n 1] rfl ⟨tt_,a2⟩ ?_
  refine AK.meetX (fun σ=>σ=⟨[(2,.b (k&&((f.1.length:Int)==0)))],[]⟩) ?_ ?_
  ·refine tg_ hC [.n 3] rfl ?_
   rcases QS k with p | p
   ·refine Qa hC [.S 26 (.b true),.n 1,.o (.ln f.1.length),.n 4,.S 2 (.b (k&&((f.1.length:Int)==0))),.K [2] []] rfl ⟨⟨(tc_ p),Qj⟩,(congrArg V.b (QbB p rfl))⟩ ?_
    exact AK.met rfl
   refine Qa hC [.S 26 (.b false),.n 6,.S 2 (.b (k&&((f.1.length:Int)==0))),.K [2] []] rfl ⟨(tc_ p),(congrArg V.b (Qdq p rfl))⟩ ?_
   exact AK.met rfl
  rintro σ rfl
  refine tg_ hC [.n 3] rfl ?_
  cases h
  exact d1_ rfl rfl tt_
 obtain⟨a9,h⟩:=Qbs h
 refine Qa hC [.F,.n 5,.o (.ln f.1.length),.o (.rows ((List.replicate (f.1.length:Int).toNat (0:Int)).map Qb)),.S 33 (.own 33 (List.replicate (f.1.length:Int).toNat (0:Int)).length),.n 10,.K [1,3,5,7,8] [1,33]] rfl ⟨⟨⟨⟨tt_,a2⟩,Qj⟩,⟨a9,Qlr rfl⟩⟩,(by simp)⟩ ?_
 obtain⟨c7,b0,h⟩:=Qd h
 refine AK.loop (body:=(fun st=>Qbf f st.1 st.2)) (fun st σ=>σ=⟨[(1,.loc 1 0 0),(3,.b k),(5,.sl 1 (f.1.map Qi)),(7,.own 33 st.2.length),(8,.I st.1)],[(1,.var (Qe l)),(33,.arr 1 (st.2.map Qb))]⟩) (Sum.elim (fun q e σ=>e=.ret∧σ=⟨[(2,.b false)],[]⟩) (fun q e σ=>e=.exit 0∧σ=⟨[(1,.loc 1 0 0),(3,.b k),(5,.sl 1 (f.1.map Qi)),(7,.own 33 q.length)],[(1,.var (Qe l)),(33,.arr 1 (q.map Qb))]⟩)) b0 rfl ?_ ?_
 ·rintro ⟨i,b1⟩ o σ rfl h
  refine Qa hC [.n 5,.o (.ln f.1.length),.n 3] rfl ⟨tt_,Qj⟩ ?_
  rcases Qt h with⟨w,h⟩|⟨w,h⟩
  ·obtain⟨c8,W,h⟩:=Qd h
   refine Qa hC [.T,.n 9,.st (Qb c8) ((b1.set i.toNat (-1)).map Qb),.n 9,.S 7 (.own 33 (b1.set i.toNat (-1)).length),.K [1,3,5,7,8,9] [1,33]] rfl ⟨⟨⟨⟨tt_,w⟩,(QbQ W rfl)⟩,⟨(Qa2 (Qck W).2),Qix rfl⟩⟩,(congrArg (fun n=>V.own 33 n) (by simp))⟩ ?_
   obtain⟨x,b2,h⟩:=Qd h
   refine AK.loop (body:=(fun st=>QaO f i st.1 st.2)) (fun st σ=>σ=⟨[(1,.loc 1 0 0),(3,.b k),(5,.sl 1 (f.1.map Qi)),(7,.own 33 st.2.length),(8,.I i),(9,.I st.1)],[(1,.var (Qe l)),(33,.arr 1 (st.2.map Qb))]⟩) (fun q e σ=>e=.exit 2∧σ=⟨[(1,.loc 1 0 0),(3,.b k),(5,.sl 1 (f.1.map Qi)),(7,.own 33 q.length),(8,.I i)],[(1,.var (Qe l)),(33,.arr 1 (q.map Qb))]⟩) b2 rfl ?_ ?_
   ·rintro ⟨O,b3⟩ o σ rfl h
    obtain⟨b4,b5,h⟩:=Qd h
    refine Qa hC [.n 6,.o (.row (Qi b4)),.n 1,.o (.ln b4.length),.n 3] rfl ⟨⟨tt_,(QF b5)⟩,Qj⟩ ?_
    refine bg_ h (fun y h=>Qa hC [.T,.n 2] rfl ⟨tt_,y⟩ ?_) fun y h=>Qa hC [.F,.n 2,.K [1,3,5,7,8] [1,33]] rfl ⟨tt_,y⟩ ?_
    ·refine AK.meet (fun σ=>∃P:(List Int),σ=⟨[(1,.loc 1 0 0),(3,.b k),(5,.sl 1 (f.1.map Qi)),(7,.own 33 P.length),(8,.I i),(9,.I O)],[(1,.var (Qe l)),(33,.arr 1 (P.map Qb))]⟩∧QdH O P=some o) ?_ ?_
     ·obtain⟨c9,b6,h⟩:=Qd h
      obtain⟨d0,b7,h⟩:=Qd h
      refine Qa hC [.n 5,.o (.row (Qi c9)),.n 2,.o (.row (Qb d0)),.n 4] rfl ⟨⟨tt_,(QF b6)⟩,(QF b7)⟩ ?_
      rcases Qt h with⟨z,h⟩|⟨z,h⟩
      ·obtain⟨d1,X,h⟩:=Qd h
       refine Qa hC [.T,.n 5,.st (Qb d1) ((b3.set i.toNat O).map Qb),.n 2,.S 7 (.own 33 (b3.set i.toNat O).length),.K [1,3,5,7,8,9] [1,33]] rfl ⟨⟨⟨⟨tt_,z⟩,(QbQ X rfl)⟩,⟨(Qa2 (Qck X).2),Qix rfl⟩⟩,(congrArg (fun n=>V.own 33 n) (by simp))⟩ ?_
       exact AK.met (ex_ _ (an_ rfl h))
      refine Qa hC [.F,.n 2,.K [1,3,5,7,8,9] [1,33]] rfl ⟨tt_,z⟩ ?_
      exact AK.met (ex_ _ (an_ rfl h))
     rintro σ ⟨P,rfl,h⟩
     refine tg_ hC [.n 5,.K [1,3,5,7,8,9] [1,33]] rfl ?_
     cases h
     exact QV rfl rfl
    cases h
    exact QW rfl (an_ rfl rfl)
   replace h:Qgj i f x=some o:=h
   rintro e σ ⟨rfl,rfl⟩
   refine tg_ hC [.n 3] rfl ?_
   obtain⟨a3,b8,h⟩:=Qd h
   replace h:QdI i x a3=some o:=h
   refine AK.meetX (fun σ=>σ=⟨[(1,.loc 1 0 0),(3,.b k),(5,.sl 1 (f.1.map Qi)),(7,.own 33 x.length),(8,.I i),(97,.b a3)],[(1,.var (Qe l)),(33,.arr 1 (x.map Qb))]⟩) ?_ ?_
   ·replace h:=b8
    obtain⟨U,g,h⟩:=Qd h
    refine tg_ hC [.K [1,3,5,7,8] [1,33]] rfl ?_
    rcases Qt h with⟨s,h⟩|⟨s,h⟩
    ·refine AK.draw2 Qo hC mixed [.N,.N,.N,.a (.row (Qb U)) none false,.N,.a .no (some ([],.b true)) false,.N,.N,.N,.N,.N,.N,.N,.N,.N,.N,.N,.N,.N,.N,.N,.N,.N,.N,.N,.N,.N,.N,.N,.N,.N,.N,.N,.N] [] [] [1,3,5,7,8,97] [1,33] rfl rfl rfl ⟨⟨⟨tt_,(QbQ g rfl)⟩,(Qa2 (Qck g).2)⟩,(cb_ s)⟩ rfl (by kernel_rfl) rfl rfl rfl ?_
     refine tg_ hC [.K [1,3,5,7,8,97] [1,33]] rfl ?_
     cases h
     exact AK.met rfl
    obtain⟨a4,A,h⟩:=Qd h
    obtain⟨a5,m,h⟩:=Qd h
    obtain⟨a6,B,h⟩:=Qd h
    rcases Qt h with⟨u,h⟩|⟨u,h⟩
    ·refine AK.draw2 Qo hC mixed [.N,.N,.N,.a (.row (Qb U)) none false,.N,.a .no (some ([],.b false)) false,.N,.N,.a (.row (Qi a4)) none false,.N,.N,.N,.N,.a (.row (Qb a5)) none false,.a (.row (Qb a6)) none false,.N,.N,.N,.a .no (some ([],.b true)) false,.N,.N,.N,.N,.N,.N,.N,.N,.N,.N,.N,.N,.N,.N,.N] [] [] [1,3,5,7,8,97] [1,33] rfl rfl rfl ⟨⟨⟨⟨⟨⟨⟨⟨tt_,(QbQ g rfl)⟩,(Qa2 (Qck g).2)⟩,(cb_ s)⟩,(QF A)⟩,(QbQ m rfl)⟩,(Qa2 (Qck m).2)⟩,(QF B)⟩,(cb_ u)⟩ rfl (by kernel_rfl) rfl rfl rfl ?_
     refine tg_ hC [.K [1,3,5,7,8,97] [1,33]] rfl ?_
     cases h
     exact AK.met rfl
    rcases Qt h with⟨D,h⟩|⟨D,h⟩
    ·obtain⟨d2,Y,h⟩:=Qd h
     obtain⟨d3,Z,h⟩:=Qd h
     refine AK.draw2 Qo hC mixed [.N,.N,.N,.a (.row (Qb U)) none false,.N,.a .no (some ([],.b false)) false,.N,.N,.a (.row (Qi a4)) none false,.N,.N,.N,.N,.a (.row (Qb a5)) none false,.a (.row (Qb a6)) none false,.N,.N,.N,.a .no (some ([],.b false)) false,.N,.N,.a .no (some ([],.b true)) false,.N,.N,.N,.a (.row (Qb d2)) none false,.N,.N,.N,.N,.a (.row (Qb d3)) none false,.N,.N,.N] [] [] [1,3,5,7,8,97] [1,33] rfl rfl rfl ⟨⟨⟨⟨⟨⟨⟨⟨⟨⟨⟨⟨⟨tt_,(QbQ g rfl)⟩,(Qa2 (Qck g).2)⟩,(cb_ s)⟩,(QF A)⟩,(QbQ m rfl)⟩,(Qa2 (Qck m).2)⟩,(QF B)⟩,(cb_ u)⟩,(cb_ D)⟩,(QbQ Y rfl)⟩,(Qa2 (Qck Y).2)⟩,(QbQ Z rfl)⟩,(Qa2 (Qck Z).2)⟩ rfl (by kernel_rfl) rfl rfl rfl ?_
     refine tg_ hC [.K [1,3,5,7,8,97] [1,33]] rfl ?_
     cases h
     exact AK.met rfl
    refine AK.draw2 Qo hC mixed [.N,.N,.N,.a (.row (Qb U)) none false,.N,.a .no (some ([],.b false)) false,.N,.N,.a (.row (Qi a4)) none false,.N,.N,.N,.N,.a (.row (Qb a5)) none false,.a (.row (Qb a6)) none false,.N,.N,.N,.a .no (some ([],.b false)) false,.N,.N,.a .no (some ([],.b false)) false,.N,.N,.N,.N,.N,.N,.N,.N,.N,.N,.N,.N] [] [] [1,3,5,7,8,97] [1,33] rfl rfl rfl ⟨⟨⟨⟨⟨⟨⟨⟨⟨tt_,(QbQ g rfl)⟩,(Qa2 (Qck g).2)⟩,(cb_ s)⟩,(QF A)⟩,(QbQ m rfl)⟩,(Qa2 (Qck m).2)⟩,(QF B)⟩,(cb_ u)⟩,(cb_ D)⟩ rfl (by kernel_rfl) rfl rfl rfl ?_
    refine tg_ hC [.K [1,3,5,7,8,97] [1,33]] rfl ?_
    cases h
    exact AK.met rfl
   rintro σ rfl
   replace h:QdI i x a3=some o:=h
   refine tg_ hC [.n 1] rfl ?_
   refine bg_ h (fun E h=>Qa hC [.T,.n 8,.K [2] []] rfl ⟨tt_,E⟩ ?_) fun E h=>Qa hC [.F,.n 8,.K [1,3,5,7,8] [1,33]] rfl ⟨tt_,E⟩ ?_
   ·cases h
    exact QaY rfl (an_ rfl rfl)
   cases h
   exact QV rfl rfl
  refine Qa hC [.F,.n 2,.K [1,3,5,7] [1,33]] rfl ⟨tt_,w⟩ ?_
  cases h
  exact QW rfl (an_ rfl rfl)
 rcases c7 with(_ | j)
 ·replace h:QjL=some r:=h
  rintro e σ ⟨rfl,rfl⟩
  refine tg_ hC [.n 2] rfl ?_
  cases h
  exact d1_ rfl rfl tt_
 replace h:Qdo f k l j=some r:=h
 rintro e σ ⟨rfl,rfl⟩
 refine tg_ hC [.n 9,.K [1,3,5,7,10] [1,33]] rfl ?_
 obtain⟨d4,b9,h⟩:=Qd h
 refine AK.loop (body:=(fun st=>Qa5 f j st)) (fun st σ=>σ=⟨[(1,.loc 1 0 0),(3,.b k),(5,.sl 1 (f.1.map Qi)),(7,.own 33 j.length),(10,.I st)],[(1,.var (Qe l)),(33,.arr 1 (j.map Qb))]⟩) (Sum.elim (fun q e σ=>e=.ret∧σ=⟨[(2,.b false)],[]⟩) (fun q e σ=>e=.exit 4∧σ=⟨[(1,.loc 1 0 0),(3,.b k),(5,.sl 1 (f.1.map Qi))],[(1,.var (Qe l))]⟩)) b9 rfl ?_ ?_
 ·rintro G o σ rfl h
  refine Qa hC [.n 5,.o (.ln f.1.length),.n 3] rfl ⟨tt_,Qj⟩ ?_
  refine bg_ h (fun H h=>Qa hC [.T,.n 10,.K [1,3,5,7,10,11] [1,33]] rfl ⟨tt_,H⟩ ?_) fun H h=>Qa hC [.F,.n 2,.K [1,3,5] [1]] rfl ⟨tt_,H⟩ ?_
  ·obtain⟨d5,c0,h⟩:=Qd h
   refine AK.loop (body:=(fun st=>Qa4 f G j st)) (fun st σ=>σ=⟨[(1,.loc 1 0 0),(3,.b k),(5,.sl 1 (f.1.map Qi)),(7,.own 33 j.length),(10,.I G),(11,.I st)],[(1,.var (Qe l)),(33,.arr 1 (j.map Qb))]⟩) (Sum.elim (fun q e σ=>e=.ret∧σ=⟨[(2,.b false)],[]⟩) (fun q e σ=>e=.exit 6∧σ=⟨[(1,.loc 1 0 0),(3,.b k),(5,.sl 1 (f.1.map Qi)),(7,.own 33 j.length),(10,.I G)],[(1,.var (Qe l)),(33,.arr 1 (j.map Qb))]⟩)) c0 rfl ?_ ?_
   ·rintro a7 o σ rfl h
    refine Qa hC [.n 5,.o (.ln f.1.length),.n 3] rfl ⟨tt_,Qj⟩ ?_
    refine bg_ h (fun J h=>Qa hC [.T,.n 5] rfl ⟨tt_,J⟩ ?_) fun J h=>Qa hC [.F,.n 2,.K [1,3,5,7,10] [1,33]] rfl ⟨tt_,J⟩ ?_
    ·obtain⟨a8,c1,h⟩:=Qd h
     replace h:Qgl a7 a8=some o:=h
     refine AK.meetX (fun σ=>σ=⟨[(1,.loc 1 0 0),(3,.b k),(5,.sl 1 (f.1.map Qi)),(7,.own 33 j.length),(10,.I G),(11,.I a7),(125,.b a8)],[(1,.var (Qe l)),(33,.arr 1 (j.map Qb))]⟩) ?_ ?_
     ·replace h:=c1
      refine tg_ hC [.K [1,3,5,7,10,11] [1,33]] rfl ?_
      rcases Qt h with⟨L,h⟩|⟨L,h⟩
      ·obtain⟨d6,c2,h⟩:=Qd h
       obtain⟨d7,a0,h⟩:=Qd h
       obtain⟨d8,c3,h⟩:=Qd h
       refine AK.draw2 Qo hC mixed [.N,.N,.N,.a .no (some ([],.b true)) false,.N,.N,.a (.row (Qi d6)) none false,.N,.N,.N,.N,.a (.row (Qb d7)) none false,.a (.row (Qb d8)) none false,.N,.N,.N] [] [] [1,3,5,7,10,11,125] [1,33] rfl rfl rfl ⟨⟨⟨⟨(tc_ L),(QF c2)⟩,(QbQ a0 rfl)⟩,(Qa2 (Qck a0).2)⟩,(QF c3)⟩ rfl (by kernel_rfl) rfl rfl rfl ?_
       refine tg_ hC [.K [1,3,5,7,10,11,125] [1,33]] rfl ?_
       cases h
       exact AK.met rfl
      refine AK.draw2 Qo hC mixed [.N,.N,.N,.a .no (some ([],.b false)) false,.N,.N,.N,.N,.N,.N,.N,.N,.N,.N,.N,.N] [] [] [1,3,5,7,10,11,125] [1,33] rfl rfl rfl (tc_ L) rfl (by kernel_rfl) rfl rfl rfl ?_
      refine tg_ hC [.K [1,3,5,7,10,11,125] [1,33]] rfl ?_
      cases h
      exact AK.met rfl
     rintro σ rfl
     replace h:Qgl a7 a8=some o:=h
     refine tg_ hC [.n 1] rfl ?_
     refine bg_ h (fun M h=>Qa hC [.T,.n 8,.K [2] []] rfl ⟨tt_,M⟩ ?_) fun M h=>Qa hC [.F,.n 8,.K [1,3,5,7,10,11] [1,33]] rfl ⟨tt_,M⟩ ?_
     ·cases h
      exact QaY rfl (an_ rfl rfl)
     cases h
     exact QV rfl rfl
    cases h
    exact QW rfl (an_ rfl rfl)
   rcases d5 with(_ | _)
   ·replace h:Qjg=some o:=h
    rintro e σ ⟨rfl,rfl⟩
    refine tg_ hC [.n 3,.K [2] []] rfl ?_
    cases h
    exact QaY rfl (an_ rfl rfl)
   replace h:Qjh G=some o:=h
   rintro e σ ⟨rfl,rfl⟩
   refine tg_ hC [.n 8,.K [1,3,5,7,10] [1,33]] rfl ?_
   cases h
   exact QV rfl rfl
  cases h
  exact QW rfl (an_ rfl rfl)
 rcases d4 with(_ | _)
 ·replace h:Qji=some r:=h
  rintro e σ ⟨rfl,rfl⟩
  refine tg_ hC [.n 2] rfl ?_
  cases h
  exact d1_ rfl rfl tt_
 replace h:Qdn k f l=some r:=h
 rintro e σ ⟨rfl,rfl⟩
 refine tg_ hC [.n 3] rfl ?_
 refine AK.meetX (fun σ=>σ=⟨[(2,.b (k&&(decide ((f.1.length:Int)≤(l.Places.length:Int)))))],[]⟩) ?_ ?_
 ·refine tg_ hC [.n 3] rfl ?_
  rcases QS k with t | t
  ·refine Qa hC [.S 127 (.b true),.n 1,.o (.ln f.1.length),.n 2,.o (.ln l.Places.length),.n 4,.S 2 (.b (k&&(decide ((f.1.length:Int)≤(l.Places.length:Int))))),.K [2] []] rfl ⟨⟨⟨(tc_ t),Qj⟩,Qj⟩,(congrArg V.b (QbB t rfl))⟩ ?_
   exact AK.met rfl
  refine Qa hC [.S 127 (.b false),.n 9,.S 2 (.b (k&&(decide ((f.1.length:Int)≤(l.Places.length:Int))))),.K [2] []] rfl ⟨(tc_ t),(congrArg V.b (Qdq t rfl))⟩ ?_
  exact AK.met rfl
 rintro σ rfl
 refine tg_ hC [.n 2] rfl ?_
 cases h
 exact d1_ rfl rfl tt_

end Go.Proofs
