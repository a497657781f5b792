/- What functions of the program do, as functions over plain data, and the walks that show it: printed by a program. -/
import Derived.Test.YtbfgchciebcbpaaGreatDoorB1T1
set_option linter.unusedVariables false
set_option linter.unusedSimpArgs false
set_option linter.unusedSectionVars false
set_option linter.deprecated false
set_option maxRecDepth 100000
set_option maxHeartbeats 4000000
noncomputable section
namespace Go.Proofs
open Go Go.RowKit Go.Vm Go.Proofs.Tryz
def Qg7 (a:QL)(h:Int)(b:Qm)(i:Int)(j:Int)(k:Int)(l:Int)(m:Int):Option Int:=
 (Qh9 a).bind fun c=>
 bif (!c)then
 some h
 else
 (Qib b i a).bind fun d=>
 bif (!d)then
 some j
 else
 (Qic b a).bind fun e=>
 bif (!e)then
 some k
 else
 (Qid a).bind fun f=>
 bif (!f)then
 some l
 else
 (Qie b a).bind fun g=>
 bif (!g)then
 some m
 else
 some 0
theorem Qqy (k u l w x y z A){r}(h:Qg7 k u l w x y z A=some r):Qd prog 64 [.own 609 5] [(609,.var [.clo (.func 112) [] [.loc 610 0 0],.I u,.clo (.func 113) [] [.loc 611 0 0,.loc 612 0 0,.loc 613 0 0],.I x,.clo (.func 115) [] [.loc 611 0 0,.loc 610 0 0],.I y,.clo (.func 117) [] [.loc 610 0 0],.I z,.clo (.func 118) [] [.loc 611 0 0,.loc 610 0 0],.I A]),(610,.var (Qu k)),(611,.var (Qe l)),(612,.var (Qb w)),(613,.var [.clo (.func 111) [] [.loc 610 0 0]])] (Qk (.I r) [(609,.var [.clo (.func 112) [] [.loc 610 0 0],.I u,.clo (.func 113) [] [.loc 611 0 0,.loc 612 0 0,.loc 613 0 0],.I x,.clo (.func 115) [] [.loc 611 0 0,.loc 610 0 0],.I y,.clo (.func 117) [] [.loc 610 0 0],.I z,.clo (.func 118) [] [.loc 611 0 0,.loc 610 0 0],.I A]),(610,.var (Qu k)),(611,.var (Qe l)),(612,.var (Qb w)),(613,.var [.clo (.func 111) [] [.loc 610 0 0]])]):=by
 refine Qd.walk 18 func64 rfl rfl rfl fun C hC=>?_
 refine tg_ hC [.n 14] rfl ?_
 refine AK.loopN 6 (AK.rnd ?_)
 obtain⟨B,m,h⟩:=Qc h
 refine Qa hC [.n 2,.v .no [] (.b true),.n 10,.o (.any (.loc 609 0 0) none),.n 3,.O 4 (.var [.clo (.func 112) [] [.loc 610 0 0],.I u]),.n 6,.cm (.clo) [(609,610)] [(610,609)] [] [.d] [(609,.var (Qu k))] (.b B),.n 3] rfl ⟨⟨⟨⟨tt_,rfl⟩,(fun σ a j _=>Stp.idxV rfl rfl (QE hC.n rfl) (a _ _ rfl) (a _ _ rfl) (Qr.es rfl) (j _ _ rfl) (by decide))⟩,rfl⟩,(Qrg _ m)⟩ ?_
 refine bg_ h (fun c h=>Qa hC [.T,.n 13,.K [2] [609,610,611,612,613]] rfl ⟨tt_,c⟩ ?_) fun c h=>Qa hC [.F,.n 4,.v .no [] (.I 1),.n 2] rfl ⟨⟨tt_,c⟩,rfl⟩ ?_
 ·cases h
  exact d1_ rfl rfl ⟨rfl,rfl,rfl,rfl,rfl,tt_⟩
 refine AK.met (AK.rnd ?_)
 obtain⟨D,p,h⟩:=Qc h
 refine Qa hC [.n 2,.v .no [] (.b true),.n 10,.o (.any (.loc 609 0 2) none),.n 1,.kill 4,.n 2,.O 4 (.var [.clo (.func 113) [] [.loc 611 0 0,.loc 612 0 0,.loc 613 0 0],.I x]),.n 6,.cm (.clo) [(609,611),(610,612),(611,613),(612,610)] [(611,609),(612,610),(613,611),(610,612)] [] [.d,.d,.d] [(609,.var (Qe l)),(610,.var (Qb w)),(611,.var [.clo (.func 111) [] [.loc 612 0 0]]),(612,.var (Qu k))] (.b D),.n 3] rfl ⟨⟨⟨⟨tt_,rfl⟩,(fun σ a j _=>Stp.idxV rfl rfl (QE hC.n rfl) (a _ _ rfl) (a _ _ rfl) (Qr.es rfl) (j _ _ rfl) (by decide))⟩,rfl⟩,(Qri _ _ _ p)⟩ ?_
 refine bg_ h (fun e h=>Qa hC [.T,.n 13,.K [2] [609,610,611,612,613]] rfl ⟨tt_,e⟩ ?_) fun e h=>Qa hC [.F,.n 4,.v .no [] (.I 2),.n 2] rfl ⟨⟨tt_,e⟩,rfl⟩ ?_
 ·cases h
  exact d1_ rfl rfl ⟨rfl,rfl,rfl,rfl,rfl,tt_⟩
 refine AK.met (AK.rnd ?_)
 obtain⟨E,q,h⟩:=Qc h
 refine Qa hC [.n 2,.v .no [] (.b true),.n 10,.o (.any (.loc 609 0 4) none),.n 1,.kill 4,.n 2,.O 4 (.var [.clo (.func 115) [] [.loc 611 0 0,.loc 610 0 0],.I y]),.n 6,.cm (.clo) [(609,611),(610,610)] [(611,609),(610,610)] [] [.d,.d] [(609,.var (Qe l)),(610,.var (Qu k))] (.b E),.n 3] rfl ⟨⟨⟨⟨tt_,rfl⟩,(fun σ a j _=>Stp.idxV rfl rfl (QE hC.n rfl) (a _ _ rfl) (a _ _ rfl) (Qr.es rfl) (j _ _ rfl) (by decide))⟩,rfl⟩,(Qrj _ _ q)⟩ ?_
 refine bg_ h (fun f h=>Qa hC [.T,.n 13,.K [2] [609,610,611,612,613]] rfl ⟨tt_,f⟩ ?_) fun f h=>Qa hC [.F,.n 4,.v .no [] (.I 3),.n 2] rfl ⟨⟨tt_,f⟩,rfl⟩ ?_
 ·cases h
  exact d1_ rfl rfl ⟨rfl,rfl,rfl,rfl,rfl,tt_⟩
 refine AK.met (AK.rnd ?_)
 obtain⟨G,s,h⟩:=Qc h
 refine Qa hC [.n 2,.v .no [] (.b true),.n 10,.o (.any (.loc 609 0 6) none),.n 1,.kill 4,.n 2,.O 4 (.var [.clo (.func 117) [] [.loc 610 0 0],.I z]),.n 6,.cm (.clo) [(609,610)] [(610,609)] [] [.d] [(609,.var (Qu k))] (.b G),.n 3] rfl ⟨⟨⟨⟨tt_,rfl⟩,(fun σ a j _=>Stp.idxV rfl rfl (QE hC.n rfl) (a _ _ rfl) (a _ _ rfl) (Qr.es rfl) (j _ _ rfl) (by decide))⟩,rfl⟩,(Qrk _ s)⟩ ?_
 refine bg_ h (fun g h=>Qa hC [.T,.n 13,.K [2] [609,610,611,612,613]] rfl ⟨tt_,g⟩ ?_) fun g h=>Qa hC [.F,.n 4,.v .no [] (.I 4),.n 2] rfl ⟨⟨tt_,g⟩,rfl⟩ ?_
 ·cases h
  exact d1_ rfl rfl ⟨rfl,rfl,rfl,rfl,rfl,tt_⟩
 refine AK.met (AK.rnd ?_)
 obtain⟨H,t,h⟩:=Qc h
 refine Qa hC [.n 2,.v .no [] (.b true),.n 10,.o (.any (.loc 609 0 8) none),.n 1,.kill 4,.n 2,.O 4 (.var [.clo (.func 118) [] [.loc 611 0 0,.loc 610 0 0],.I A]),.n 6,.cm (.clo) [(609,611),(610,610)] [(611,609),(610,610)] [] [.d,.d] [(609,.var (Qe l)),(610,.var (Qu k))] (.b H),.n 3] rfl ⟨⟨⟨⟨tt_,rfl⟩,(fun σ a j _=>Stp.idxV rfl rfl (QE hC.n rfl) (a _ _ rfl) (a _ _ rfl) (Qr.es rfl) (j _ _ rfl) (by decide))⟩,rfl⟩,(Qrl _ _ t)⟩ ?_
 refine bg_ h (fun i h=>Qa hC [.T,.n 13,.K [2] [609,610,611,612,613]] rfl ⟨tt_,i⟩ ?_) fun i h=>Qa hC [.F,.n 4,.v .no [] (.I 5),.n 2] rfl ⟨⟨tt_,i⟩,rfl⟩ ?_
 ·cases h
  exact d1_ rfl rfl ⟨rfl,rfl,rfl,rfl,rfl,tt_⟩
 refine AK.met (AK.rnd ?_)
 refine Qa hC [.n 2,.v .no [] (.b false),.n 15] rfl ⟨tt_,rfl⟩ ?_
 cases h
 exact d1_ rfl rfl ⟨rfl,rfl,rfl,rfl,rfl,tt_⟩
def Qkh (a:Qm)(b:Int):Option Int:=
 (QaC a.Places b).bind fun c=>
 bif (!c)then
 some 3
 else
 (idx a.Places b).bind fun d=>
 (Qg7 d 1 a b 5 3 1 8).bind fun e=>
 some e
theorem Qs1 (f g){r}(h:Qkh f g=some r):Qd prog 72 [.agg (Qe f),.I g] [] (Qk (.I r) []):=by
 refine Qd.walk 30 func72 rfl rfl rfl fun C hC=>?_
 obtain⟨l,i,h⟩:=Qc h
 refine Qa hC [.n 13,.o (.c false [.d,.d] (.b l)),.n 3] rfl ⟨tt_,(QbM _ _ i)⟩ ?_
 rcases Qt h with⟨a,h⟩|⟨a,h⟩
 ·refine Qa hC [.T,.n 7] rfl ⟨tt_,a⟩ ?_
  cases h
  exact d1_ rfl rfl tt_
 obtain⟨e,j,h⟩:=Qc h
 obtain⟨m,k,h⟩:=Qc h
 refine Qa hC [.F,.n 7,.o (.row (Qu e)),.v .no [] (.agg (Qu e)),.n 2,.O 5 (.var (Qu e)),.n 7,.O 6 (.var [.clo (.func 111) [] [.loc 5 0 0]]),.n 5,.v .no [] (.agg [.clo (.func 112) [] [.loc 5 0 0],.I 1]),.n 1,.v .no [] (.agg [.clo (.func 113) [] [.loc 2 0 0,.loc 3 0 0,.loc 6 0 0],.I 5]),.n 1,.v .no [] (.agg [.clo (.func 115) [] [.loc 2 0 0,.loc 5 0 0],.I 3]),.n 1,.v .no [] (.agg [.clo (.func 117) [] [.loc 5 0 0],.I 1]),.n 1,.v .no [] (.agg [.clo (.func 118) [] [.loc 2 0 0,.loc 5 0 0],.I 8]),.o (.any (.own 28 5) (some (.var [.clo (.func 112) [] [.loc 5 0 0],.I 1,.clo (.func 113) [] [.loc 2 0 0,.loc 3 0 0,.loc 6 0 0],.I 5,.clo (.func 115) [] [.loc 2 0 0,.loc 5 0 0],.I 3,.clo (.func 117) [] [.loc 5 0 0],.I 1,.clo (.func 118) [] [.loc 2 0 0,.loc 5 0 0],.I 8]))),.cm (.fn) [(609,28),(610,5),(611,2),(612,3),(613,6)] [(28,609),(5,610),(2,611),(3,612),(6,613)] [] [.d] [(609,.var [.clo (.func 112) [] [.loc 610 0 0],.I 1,.clo (.func 113) [] [.loc 611 0 0,.loc 612 0 0,.loc 613 0 0],.I 5,.clo (.func 115) [] [.loc 611 0 0,.loc 610 0 0],.I 3,.clo (.func 117) [] [.loc 610 0 0],.I 1,.clo (.func 118) [] [.loc 611 0 0,.loc 610 0 0],.I 8]),(610,.var (Qu e)),(611,.var (Qe f)),(612,.var (Qb g)),(613,.var [.clo (.func 111) [] [.loc 610 0 0]])] (.I m),.n 4] rfl ⟨⟨⟨⟨⟨⟨⟨⟨⟨⟨⟨⟨tt_,a⟩,(QG j)⟩,rfl⟩,rfl⟩,rfl⟩,rfl⟩,rfl⟩,rfl⟩,rfl⟩,rfl⟩,(fun σ p q hf=>Stp.buildAny rfl rfl (QE hC.n rfl) (Qr.es rfl) Ql4 rfl (by decide) (by decide) (QeN p rfl) rfl rfl (hf rfl))⟩,(Qqy _ _ _ _ _ _ _ _ k)⟩ ?_
 cases h
 exact d1_ rfl rfl tt_
def Qki (a:Int)(d:QL)(b:Qm):Option Int:=
 (Qkh b a).bind fun c=>
 some c
theorem Qs2 (e f a){r}(h:Qki e f a=some r):Qd prog 71 [.I e,.agg (Qu f),.loc 609 0 0] [(609,.var (Qe a))] (Qk (.I r) [(609,.var (Qe a))]):=by
 refine Qd.walk 9 func71 rfl rfl rfl fun C hC=>?_
 obtain⟨g,b,h⟩:=Qc h
 refine Qa hC [.n 8,.v .no [] (.agg (Qe a)),.n 1,.o (.c false [.d,.d] (.I g)),.n 4] rfl ⟨⟨tt_,rfl⟩,(Qs1 _ _ b)⟩ ?_
 cases h
 exact d1_ rfl rfl ⟨rfl,tt_⟩
def QcU (d:(List QL))(e:Qm)(a:Int):Option (Int⊕((Int×Int)⊕Unit)):=
 bif (decide (a<(d.length:Int)))then
 (idx d a).bind fun c=>
 (Qki a c e).bind fun b=>
 bif (b != 0)then
 some (.inr (.inl (a,b)))
 else
 some (.inl (w64 (a+1)))
 else
 some (.inr (.inr ()))
def QcV (b:Int)(a:Int):Option (Int×Int):=
 some (b,a)
def QcW : Option (Int×Int):=
 some (0,0)
def QdO (a:(List QL))(b:Qm):Option (Int×Int):=
 (Qq (fun st=>QcU a b st) 0).bind (Sum.elim (fun q=>QcV q.1 q.2) (fun q=>QcW))
theorem Qnc (g f){r}(h:QdO g f=some r):Qd prog 70 [.sl 3 (g.map Qu),.clo (.func 71) [] [.loc 609 0 0]] [(609,.var (Qe f))] (Qk (.tup [.I r.1,.I r.2]) [(609,.var (Qe f))]):=by
 refine Qd.walk 25 func70 rfl rfl rfl fun C hC=>?_
 refine Qa hC [.n 10,.o (.ln g.length),.n 4,.K [1,9,10,11] [609]] rfl ⟨tt_,Qi⟩ ?_
 obtain⟨l,i,h⟩:=Qc h
 refine AK.loop (body:=(fun st=>QcU g f st)) (fun st σ=>σ=⟨[(1,.clo (.func 71) [] [.loc 609 0 0]),(9,.sl 3 (g.map Qu)),(10,.I (g.length:Int)),(11,.I st)],[(609,.var (Qe f))]⟩) (Sum.elim (fun q e σ=>e=.ret∧σ=⟨[(4,.I q.1),(5,.I q.2)],[(609,.var (Qe f))]⟩) (fun q e σ=>e=.exit 0∧σ=⟨[],[(609,.var (Qe f))]⟩)) i rfl ?_ ?_
 ·rintro t o σ rfl h
  refine tg_ hC [.n 6] rfl ?_
  rcases Qt h with⟨a,h⟩|⟨a,h⟩
  ·obtain⟨c,j,h⟩:=Qc h
   obtain⟨m,k,h⟩:=Qc h
   refine Qa hC [.T,.n 7,.o (.row (Qu c)),.v .no [] (.agg (Qu c)),.n 3,.O 7 (.var (Qu c)),.n 6,.v .no [] (.agg (Qu c)),.cm (.clo) [(609,609)] [(609,609)] [] [.d,.d,.d] [(609,.var (Qe f))] (.I m),.n 9] rfl ⟨⟨⟨⟨⟨⟨tt_,a⟩,(QG j)⟩,rfl⟩,rfl⟩,rfl⟩,(Qs2 _ _ _ k)⟩ ?_
   refine bg_ h (fun b h=>Qa hC [.T,.n 11,.K [4,5] [609]] rfl ⟨tt_,b⟩ ?_) fun b h=>Qa hC [.F,.n 7,.K [1,9,10,11] [609]] rfl ⟨tt_,b⟩ ?_
   ·cases h
    exact Qbs rfl (an_ rfl rfl)
   cases h
   exact QI rfl rfl
  refine Qa hC [.F,.n 2,.K [] [609]] rfl ⟨tt_,a⟩ ?_
  cases h
  exact QJ rfl (an_ rfl rfl)
 rcases l with(⟨s,p⟩|_)
 ·replace h:QcV s p=some r:=h
  rintro e σ ⟨rfl,rfl⟩
  refine tg_ hC [.n 2] rfl ?_
  cases h
  exact d2_ rfl rfl rfl ⟨rfl,tt_⟩
 replace h:QcW=some r:=h
 rintro e σ ⟨rfl,rfl⟩
 refine tg_ hC [.n 9] rfl ?_
 cases h
 exact d2_ rfl rfl rfl ⟨rfl,tt_⟩
def Qcy (b:(List Qw))(a:Int):Option Bool:=
 some ((decide (0≤a))&&(decide (a<(b.length:Int))))
theorem Qif (d c){r}(h:Qcy d c=some r):Qd prog 92 [.sl 14 (d.map Qg),.I c] [] (Qk (.b r) []):=by
 refine Qd.walk 13 func92 rfl rfl rfl fun C hC=>?_
 refine tg_ hC [.n 6] rfl ?_
 refine AK.meetX (fun σ=>σ=⟨[(4,.b ((decide (0≤c))&&(decide (c<(d.length:Int)))))],[]⟩) ?_ ?_
 ·refine tg_ hC [.n 4] rfl ?_
  rcases QZ (decide (0≤c))with a | a
  ·refine Qa hC [.S 7 (.b true),.n 2,.o (.ln d.length),.n 4,.S 4 (.b ((decide (0≤c))&&(decide (c<(d.length:Int))))),.K [4] []] rfl ⟨⟨(tc_ a),Qi⟩,(congrArg V.b (QbZ a rfl))⟩ ?_
   exact AK.met rfl
  refine Qa hC [.S 7 (.b false),.n 7,.S 4 (.b ((decide (0≤c))&&(decide (c<(d.length:Int))))),.K [4] []] rfl ⟨(tc_ a),(congrArg V.b (QdE a rfl))⟩ ?_
  exact AK.met rfl
 rintro σ rfl
 refine tg_ hC [.n 2] rfl ?_
 cases h
 exact d1_ rfl rfl tt_
def Qkj (a:Int)(b:Qm)(c:Qw):Option Unit:=
 some ()
theorem Qs3 (a b c){r}(h:Qkj a b c=some r):Qd prog 126 [.loc 609 0 0,.clo (.func 127) [] [.loc 610 0 0,.loc 611 0 0]] [(609,.var (Qb a)),(610,.var (Qe b)),(611,.var (Qg c))] (Qk (.clo (.func 184) [] [.loc 3 0 0,.loc 2 0 0]) [(2,.var [.loc 609 0 0]),(3,.var [.clo (.func 127) [] [.loc 610 0 0,.loc 611 0 0]]),(609,.var (Qb a)),(610,.var (Qe b)),(611,.var (Qg c))]):=by
 refine Qd.walk 6 func126 rfl rfl rfl fun C hC=>?_
 refine tg_ hC [.n 14] rfl ?_
 cases h
 exact d1_ rfl rfl ⟨rfl,rfl,rfl,rfl,rfl,tt_⟩
def Qg8 (a:Int)(b:Qm)(c:Qw)(d:Int):Option Unit:=
 some ()
theorem Qqz (a b c d){r}(h:Qg8 a b c d=some r):Qd prog 126 [.loc 609 0 0,.clo (.func 132) [] [.loc 610 0 0,.loc 611 0 0,.loc 612 0 0]] [(609,.var (Qb a)),(610,.var (Qe b)),(611,.var (Qg c)),(612,.var (Qb d))] (Qk (.clo (.func 184) [] [.loc 3 0 0,.loc 2 0 0]) [(2,.var [.loc 609 0 0]),(3,.var [.clo (.func 132) [] [.loc 610 0 0,.loc 611 0 0,.loc 612 0 0]]),(609,.var (Qb a)),(610,.var (Qe b)),(611,.var (Qg c)),(612,.var (Qb d))]):=by
 refine Qd.walk 6 func126 rfl rfl rfl fun C hC=>?_
 refine tg_ hC [.n 14] rfl ?_
 cases h
 exact d1_ rfl rfl ⟨rfl,rfl,rfl,rfl,rfl,rfl,tt_⟩
def Qg9 (a:Int)(b:Qm)(c:Qw)(d:Int):Option Unit:=
 some ()
theorem QqA (a b c d){r}(h:Qg9 a b c d=some r):Qd prog 126 [.loc 609 0 0,.clo (.func 134) [] [.loc 610 0 0,.loc 611 0 0,.loc 612 0 0]] [(609,.var (Qb a)),(610,.var (Qe b)),(611,.var (Qg c)),(612,.var (Qb d))] (Qk (.clo (.func 184) [] [.loc 3 0 0,.loc 2 0 0]) [(2,.var [.loc 609 0 0]),(3,.var [.clo (.func 134) [] [.loc 610 0 0,.loc 611 0 0,.loc 612 0 0]]),(609,.var (Qb a)),(610,.var (Qe b)),(611,.var (Qg c)),(612,.var (Qb d))]):=by
 refine Qd.walk 6 func126 rfl rfl rfl fun C hC=>?_
 refine tg_ hC [.n 14] rfl ?_
 cases h
 exact d1_ rfl rfl ⟨rfl,rfl,rfl,rfl,rfl,rfl,tt_⟩
def Qha (a:Int)(b:Qm)(c:Qw):Option Unit:=
 some ()
theorem QqB (a b c){r}(h:Qha a b c=some r):Qd prog 126 [.loc 609 0 0,.clo (.func 135) [] [.loc 610 0 0,.loc 611 0 0]] [(609,.var (Qb a)),(610,.var (Qe b)),(611,.var (Qg c))] (Qk (.clo (.func 184) [] [.loc 3 0 0,.loc 2 0 0]) [(2,.var [.loc 609 0 0]),(3,.var [.clo (.func 135) [] [.loc 610 0 0,.loc 611 0 0]]),(609,.var (Qb a)),(610,.var (Qe b)),(611,.var (Qg c))]):=by
 refine Qd.walk 6 func126 rfl rfl rfl fun C hC=>?_
 refine tg_ hC [.n 14] rfl ?_
 cases h
 exact d1_ rfl rfl ⟨rfl,rfl,rfl,rfl,rfl,tt_⟩
def Qjo (a:Qw):Option Bool:=
 (Qd0 a.Name).bind fun b=>
 some b
theorem Qsa (a){r}(h:Qjo a=some r):Qd prog 122 [.loc 609 0 0] [(609,.var (Qg a))] (Qk (.b r) [(609,.var (Qg a))]):=by
 refine Qd.walk 5 func122 rfl rfl rfl fun C hC=>?_
 obtain⟨f,e,h⟩:=Qc h
 refine Qa hC [.n 9,.o (.c false [.d] (.b f)),.n 4] rfl ⟨tt_,(QfJ _ e)⟩ ?_
 cases h
 exact d1_ rfl rfl ⟨rfl,tt_⟩
def Qjp (a:Qw)(b:Qw):Option Bool:=
 some (QgT a.Name b.Name)
theorem Qsb (c a){r}(h:Qjp c a=some r):Qd prog 121 [.agg (Qg c),.loc 609 0 0] [(609,.var (Qg a))] (Qk (.b r) [(609,.var (Qg a))]):=by
 refine Qd.walk 9 func121 rfl rfl rfl fun C hC=>?_
 refine tg_ hC [.n 17] rfl ?_
 cases h
 exact d1_ rfl rfl ⟨rfl,tt_⟩
def QaN (c:(List Qw))(d:Qw)(a:Int):Option (Int⊕(Int⊕Unit)):=
 bif (decide (a<(c.length:Int)))then
 (idx c a).bind fun e=>
 (Qjp e d).bind fun b=>
 bif b then
 some (.inr (.inl a))
 else
 some (.inl (w64 (a+1)))
 else
 some (.inr (.inr ()))
def QaO (a:Int):Option Int:=
 some a
def QaP : Option Int:=
 some (-1)
def Qa9 (a:(List Qw))(b:Qw):Option Int:=
 (Qq (fun st=>QaN a b st) 0).bind (Sum.elim (fun q=>QaO q) (fun q=>QaP))
theorem Qhw (g c){r}(h:Qa9 g c=some r):Qd prog 183 [.sl 14 (g.map Qg),.clo (.func 121) [] [.loc 609 0 0]] [(609,.var (Qg c))] (Qk (.I r) [(609,.var (Qg c))]):=by
 refine Qd.walk 19 func183 rfl rfl rfl fun C hC=>?_
 refine Qa hC [.n 9,.o (.ln g.length),.n 4,.K [0,1,7,8] [609]] rfl ⟨tt_,Qi⟩ ?_
 obtain⟨k,i,h⟩:=Qc h
 refine AK.loop (body:=(fun st=>QaN g c st)) (fun st σ=>σ=⟨[(0,.sl 14 (g.map Qg)),(1,.clo (.func 121) [] [.loc 609 0 0]),(7,.I (g.length:Int)),(8,.I st)],[(609,.var (Qg c))]⟩) (Sum.elim (fun q e σ=>e=.ret∧σ=⟨[(4,.I q)],[(609,.var (Qg c))]⟩) (fun q e σ=>e=.exit 0∧σ=⟨[],[(609,.var (Qg c))]⟩)) i rfl ?_ ?_
 ·rintro t o σ rfl h
  refine tg_ hC [.n 6] rfl ?_
  rcases Qt h with⟨f,h⟩|⟨f,h⟩
  ·obtain⟨p,l,h⟩:=Qc h
   obtain⟨m,j,h⟩:=Qc h
   refine Qa hC [.T,.n 15,.o (.row (Qg p)),.v .no [] (.agg (Qg p)),.cm (.clo) [(609,609)] [(609,609)] [] [.d,.d] [(609,.var (Qg c))] (.b m),.n 2] rfl ⟨⟨⟨⟨tt_,f⟩,(QG l)⟩,rfl⟩,(Qsb _ _ j)⟩ ?_
   refine bg_ h (fun a h=>Qa hC [.T,.n 9,.K [4] [609]] rfl ⟨tt_,a⟩ ?_) fun a h=>Qa hC [.F,.n 7,.K [0,1,7,8] [609]] rfl ⟨tt_,a⟩ ?_
   ·cases h
    exact Qbs rfl (an_ rfl rfl)
   cases h
   exact QI rfl rfl
  refine Qa hC [.F,.n 2,.K [] [609]] rfl ⟨tt_,f⟩ ?_
  cases h
  exact QJ rfl (an_ rfl rfl)
 rcases k with(s | _)
 ·replace h:QaO s=some r:=h
  rintro e σ ⟨rfl,rfl⟩
  refine tg_ hC [.n 2] rfl ?_
  cases h
  exact d1_ rfl rfl ⟨rfl,tt_⟩
 replace h:QaP=some r:=h
 rintro e σ ⟨rfl,rfl⟩
 refine tg_ hC [.n 8] rfl ?_
 cases h
 exact d1_ rfl rfl ⟨rfl,tt_⟩
def QaQ (a:(List Qw))(b:Qw):Option Bool:=
 (Qa9 a b).bind fun c=>
 some (decide (0≤c))
theorem QgE (e a){r}(h:QaQ e a=some r):Qd prog 124 [.sl 14 (e.map Qg),.clo (.func 121) [] [.loc 609 0 0]] [(609,.var (Qg a))] (Qk (.b r) [(609,.var (Qg a))]):=by
 refine Qd.walk 9 func124 rfl rfl rfl fun C hC=>?_
 obtain⟨f,c,h⟩:=Qc h
 refine Qa hC [.n 9,.cm (.fn) [(609,609)] [(609,609)] [] [.d,.d] [(609,.var (Qg a))] (.I f),.n 5] rfl ⟨tt_,(Qhw _ _ c)⟩ ?_
 cases h
 exact d1_ rfl rfl ⟨rfl,tt_⟩
def Qjq (b:Qm)(a:Int)(c:Qw):Option Bool:=
 (chk (decide (0≤a)&&decide (0≤a.toNat)&&decide (a.toNat≤b.Tasks.length))).bind fun _=>
 (QaQ ((b.Tasks.drop 0).take (a.toNat-0)) c).bind fun d=>
 some (!d)
theorem Qsc (e f g){r}(h:Qjq e f g=some r):Qd prog 123 [.loc 609 0 0,.loc 610 0 0,.loc 611 0 0] [(609,.var (Qe e)),(610,.var (Qb f)),(611,.var [.clo (.func 121) [] [.loc 612 0 0]]),(612,.var (Qg g))] (Qk (.b r) [(609,.var (Qe e)),(610,.var (Qb f)),(611,.var [.clo (.func 121) [] [.loc 612 0 0]]),(612,.var (Qg g))]):=by
 refine Qd.walk 11 func123 rfl rfl rfl fun C hC=>?_
 obtain⟨c,h⟩:=Qap h
 obtain⟨k,j,h⟩:=Qc h
 refine tg_ hC [.n 6,.K [0,1,2,3] [609,610,611,612]] rfl ?_
 refine AK.draw2 Qr hC mixed [.N,.N,.N,.a (.any (.sl 14 (((e.Tasks.drop 0).take (f.toNat-0)).map Qg)) none) none false,.N,.a (.any (.b k) none) none false,.N,.m .s] [] [] [3] [609,610,611,612] rfl rfl rfl ⟨⟨tt_,(fun σ i l _=>Stp.sliceD rfl rfl (QE hC.n rfl) (i _ _ rfl) (Qr.es rfl) Bnd.no (Bnd.val (i _ _ rfl) (Qab (Qq4 c)) rfl) (Qab (Qq5 c)) (QU (Qab (Qq6 c)) (Nat.le_of_eq Qi.symm)) QtG)⟩,(fun σ i l _=>Stp.callSame (md:=.cm (.fn) [(609,612)] [(612,609)] [] [.d,.d] [(609,.var (Qg g))] (.b k) [612]) Qr hC i l rfl ⟨⟨tt_,(QgE _ _ j)⟩,⟨rfl,tt_⟩⟩)⟩ rfl (by kernel_rfl) rfl rfl rfl ?_
 refine tg_ hC [.n 2] rfl ?_
 cases h
 exact d1_ rfl rfl ⟨rfl,rfl,rfl,rfl,tt_⟩
def QgF (b:Int)(a:Qw):Option Bool:=
 some ((decide (b≤16))&&(decide ((max2 (max2 (a.Ins.length:Int) (a.Outs.length:Int)) (a.Cancel.length:Int))≤16)))
theorem Qsd (d a){r}(h:QgF d a=some r):Qd prog 125 [.loc 609 0 0,.loc 610 0 0] [(609,.var (Qb d)),(610,.var (Qg a))] (Qk (.b r) [(609,.var (Qb d)),(610,.var (Qg a))]):=by
 refine Qd.walk 18 func125 rfl rfl rfl fun C hC=>?_
 refine tg_ hC [.n 6] rfl ?_
 refine AK.meetX (fun σ=>σ=⟨[(2,.b ((decide (d≤16))&&(decide ((max2 (max2 (a.Ins.length:Int) (a.Outs.length:Int)) (a.Cancel.length:Int))≤16))))],[(609,.var (Qb d)),(610,.var (Qg a))]⟩) ?_ ?_
 ·refine tg_ hC [.n 4] rfl ?_
  rcases QZ (decide (d≤16))with c | c
  ·refine Qa hC [.S 5 (.b true),.n 2,.o (.ln a.Ins.length),.n 2,.o (.ln a.Outs.length),.n 2,.o (.ln a.Cancel.length),.o (.any (.I (max2 (max2 (a.Ins.length:Int) (a.Outs.length:Int)) (a.Cancel.length:Int))) none),.n 4,.S 2 (.b ((decide (d≤16))&&(decide ((max2 (max2 (a.Ins.length:Int) (a.Outs.length:Int)) (a.Cancel.length:Int))≤16)))),.K [2] [609,610]] rfl ⟨⟨⟨⟨⟨(tc_ c),Qi⟩,Qi⟩,Qi⟩,(fun σ e f _=>Stp.max3 rfl rfl (QE hC.n rfl) (e _ _ rfl) (e _ _ rfl) (e _ _ rfl))⟩,(congrArg V.b (QbZ c rfl))⟩ ?_
   exact AK.met rfl
  refine Qa hC [.S 5 (.b false),.n 14,.S 2 (.b ((decide (d≤16))&&(decide ((max2 (max2 (a.Ins.length:Int) (a.Outs.length:Int)) (a.Cancel.length:Int))≤16)))),.K [2] [609,610]] rfl ⟨(tc_ c),(congrArg V.b (QdE c rfl))⟩ ?_
  exact AK.met rfl
 rintro σ rfl
 refine tg_ hC [.n 2] rfl ?_
 cases h
 exact d1_ rfl rfl ⟨rfl,rfl,tt_⟩
def Qed (a:Qaz):Option Bool:=
 (Qd0 a.Name).bind fun b=>
 some b
theorem QnU (a){r}(h:Qed a=some r):Qd prog 188 [.loc 609 0 0] [(609,.var (QH a))] (Qk (.b r) [(609,.var (QH a))]):=by
 refine Qd.walk 5 func188 rfl rfl rfl fun C hC=>?_
 obtain⟨f,e,h⟩:=Qc h
 refine Qa hC [.n 9,.o (.c false [.d] (.b f)),.n 4] rfl ⟨tt_,(QfJ _ e)⟩ ?_
 cases h
 exact d1_ rfl rfl ⟨rfl,tt_⟩
def Qee (a:Qaz)(b:Qaz):Option Bool:=
 some (QgT a.Name b.Name)
theorem QnV (c a){r}(h:Qee c a=some r):Qd prog 187 [.agg (QH c),.loc 609 0 0] [(609,.var (QH a))] (Qk (.b r) [(609,.var (QH a))]):=by
 refine Qd.walk 9 func187 rfl rfl rfl fun C hC=>?_
 refine tg_ hC [.n 17] rfl ?_
 cases h
 exact d1_ rfl rfl ⟨rfl,tt_⟩
def QaZ (c:(List Qaz))(d:Qaz)(a:Int):Option (Int⊕(Int⊕Unit)):=
 bif (decide (a<(c.length:Int)))then
 (idx c a).bind fun e=>
 (Qee e d).bind fun b=>
 bif b then
 some (.inr (.inl a))
 else
 some (.inl (w64 (a+1)))
 else
 some (.inr (.inr ()))
def Qa0 (a:Int):Option Int:=
 some a
def Qa1 : Option Int:=
 some (-1)
def Qbp (a:(List Qaz))(b:Qaz):Option Int:=
 (Qq (fun st=>QaZ a b st) 0).bind (Sum.elim (fun q=>Qa0 q) (fun q=>Qa1))
theorem Qin (g c){r}(h:Qbp g c=some r):Qd prog 227 [.sl 2 (g.map QH),.clo (.func 187) [] [.loc 609 0 0]] [(609,.var (QH c))] (Qk (.I r) [(609,.var (QH c))]):=by
 refine Qd.walk 19 func227 rfl rfl rfl fun C hC=>?_
 refine Qa hC [.n 9,.o (.ln g.length),.n 4,.K [0,1,7,8] [609]] rfl ⟨tt_,Qi⟩ ?_
 obtain⟨k,i,h⟩:=Qc h
 refine AK.loop (body:=(fun st=>QaZ g c st)) (fun st σ=>σ=⟨[(0,.sl 2 (g.map QH)),(1,.clo (.func 187) [] [.loc 609 0 0]),(7,.I (g.length:Int)),(8,.I st)],[(609,.var (QH c))]⟩) (Sum.elim (fun q e σ=>e=.ret∧σ=⟨[(4,.I q)],[(609,.var (QH c))]⟩) (fun q e σ=>e=.exit 0∧σ=⟨[],[(609,.var (QH c))]⟩)) i rfl ?_ ?_
 ·rintro t o σ rfl h
  refine tg_ hC [.n 6] rfl ?_
  rcases Qt h with⟨f,h⟩|⟨f,h⟩
  ·obtain⟨p,l,h⟩:=Qc h
   obtain⟨m,j,h⟩:=Qc h
   refine Qa hC [.T,.n 15,.o (.row (QH p)),.v .no [] (.agg (QH p)),.cm (.clo) [(609,609)] [(609,609)] [] [.d,.d] [(609,.var (QH c))] (.b m),.n 2] rfl ⟨⟨⟨⟨tt_,f⟩,(QG l)⟩,rfl⟩,(QnV _ _ j)⟩ ?_
   refine bg_ h (fun a h=>Qa hC [.T,.n 9,.K [4] [609]] rfl ⟨tt_,a⟩ ?_) fun a h=>Qa hC [.F,.n 7,.K [0,1,7,8] [609]] rfl ⟨tt_,a⟩ ?_
   ·cases h
    exact Qbs rfl (an_ rfl rfl)
   cases h
   exact QI rfl rfl
  refine Qa hC [.F,.n 2,.K [] [609]] rfl ⟨tt_,f⟩ ?_
  cases h
  exact QJ rfl (an_ rfl rfl)
 rcases k with(s | _)
 ·replace h:Qa0 s=some r:=h
  rintro e σ ⟨rfl,rfl⟩
  refine tg_ hC [.n 2] rfl ?_
  cases h
  exact d1_ rfl rfl ⟨rfl,tt_⟩
 replace h:Qa1=some r:=h
 rintro e σ ⟨rfl,rfl⟩
 refine tg_ hC [.n 8] rfl ?_
 cases h
 exact d1_ rfl rfl ⟨rfl,tt_⟩
def Qa2 (a:(List Qaz))(b:Qaz):Option Bool:=
 (Qbp a b).bind fun c=>
 some (decide (0≤c))
theorem Qhb (e a){r}(h:Qa2 e a=some r):Qd prog 190 [.sl 2 (e.map QH),.clo (.func 187) [] [.loc 609 0 0]] [(609,.var (QH a))] (Qk (.b r) [(609,.var (QH a))]):=by
 refine Qd.walk 9 func190 rfl rfl rfl fun C hC=>?_
 obtain⟨f,c,h⟩:=Qc h
 refine Qa hC [.n 9,.cm (.fn) [(609,609)] [(609,609)] [] [.d,.d] [(609,.var (QH a))] (.I f),.n 5] rfl ⟨tt_,(Qin _ _ c)⟩ ?_
 cases h
 exact d1_ rfl rfl ⟨rfl,tt_⟩
def Qef (b:(List Qaz))(a:Int)(c:Qaz):Option Bool:=
 (chk (decide (0≤a)&&decide (0≤a.toNat)&&decide (a.toNat≤b.length))).bind fun _=>
 (Qa2 ((b.drop 0).take (a.toNat-0)) c).bind fun d=>
 some (!d)
theorem QnW (e f g){r}(h:Qef e f g=some r):Qd prog 189 [.loc 609 0 0,.loc 610 0 0,.loc 611 0 0] [(609,.var (QbT e)),(610,.var (Qb f)),(611,.var [.clo (.func 187) [] [.loc 612 0 0]]),(612,.var (QH g))] (Qk (.b r) [(609,.var (QbT e)),(610,.var (Qb f)),(611,.var [.clo (.func 187) [] [.loc 612 0 0]]),(612,.var (QH g))]):=by
 refine Qd.walk 10 func189 rfl rfl rfl fun C hC=>?_
 obtain⟨c,h⟩:=Qap h
 obtain⟨k,j,h⟩:=Qc h
 refine tg_ hC [.n 6,.K [0,1,2,3] [609,610,611,612]] rfl ?_
 refine AK.draw2 Qr hC mixed [.N,.N,.a (.any (.sl 2 (((e.drop 0).take (f.toNat-0)).map QH)) none) none false,.N,.a (.any (.b k) none) none false,.N,.m .s] [] [] [3] [609,610,611,612] rfl rfl rfl ⟨⟨tt_,(fun σ i l _=>Stp.sliceD rfl rfl (QE hC.n rfl) (i _ _ rfl) (Qr.es rfl) Bnd.no (Bnd.val (i _ _ rfl) (Qab (Qq4 c)) rfl) (Qab (Qq5 c)) (QU (Qab (Qq6 c)) (Nat.le_of_eq Qi.symm)) QtG)⟩,(fun σ i l _=>Stp.callSame (md:=.cm (.fn) [(609,612)] [(612,609)] [] [.d,.d] [(609,.var (QH g))] (.b k) [612]) Qr hC i l rfl ⟨⟨tt_,(Qhb _ _ j)⟩,⟨rfl,tt_⟩⟩)⟩ rfl (by kernel_rfl) rfl rfl rfl ?_
 refine tg_ hC [.n 2] rfl ?_
 cases h
 exact d1_ rfl rfl ⟨rfl,rfl,rfl,rfl,tt_⟩
def Qeg (a:Qm)(b:Qaz):Option Bool:=
 (Qcf a.Colours b.Colour).bind fun c=>
 some c
theorem QnX (a e){r}(h:Qeg a e=some r):Qd prog 191 [.loc 609 0 0,.loc 610 0 0] [(609,.var (Qe a)),(610,.var (QH e))] (Qk (.b r) [(609,.var (Qe a)),(610,.var (QH e))]):=by
 refine Qd.walk 8 func191 rfl rfl rfl fun C hC=>?_
 obtain⟨g,f,h⟩:=Qc h
 refine Qa hC [.n 11,.o (.c false [.d,.d] (.b g)),.n 4] rfl ⟨tt_,(QgQ _ _ f)⟩ ?_
 cases h
 exact d1_ rfl rfl ⟨rfl,rfl,tt_⟩
def Qhc (a:Qaz)(e:Int)(f:(List Qaz))(g:Int)(h:Int)(i:Qm)(j:Int):Option Int:=
 (Qed a).bind fun b=>
 bif (!b)then
 some e
 else
 (Qef f g a).bind fun c=>
 bif (!c)then
 some h
 else
 (Qeg i a).bind fun d=>
 bif (!d)then
 some j
 else
 some 0
theorem QqC (g m p q s t u){r}(h:Qhc g m p q s t u=some r):Qd prog 64 [.own 609 3] [(609,.var [.clo (.func 188) [] [.loc 610 0 0],.I m,.clo (.func 189) [] [.loc 611 0 0,.loc 612 0 0,.loc 613 0 0],.I s,.clo (.func 191) [] [.loc 614 0 0,.loc 610 0 0],.I u]),(610,.var (QH g)),(611,.var (QbT p)),(612,.var (Qb q)),(613,.var [.clo (.func 187) [] [.loc 610 0 0]]),(614,.var (Qe t))] (Qk (.I r) [(609,.var [.clo (.func 188) [] [.loc 610 0 0],.I m,.clo (.func 189) [] [.loc 611 0 0,.loc 612 0 0,.loc 613 0 0],.I s,.clo (.func 191) [] [.loc 614 0 0,.loc 610 0 0],.I u]),(610,.var (QH g)),(611,.var (QbT p)),(612,.var (Qb q)),(613,.var [.clo (.func 187) [] [.loc 610 0 0]]),(614,.var (Qe t))]):=by
 refine Qd.walk 18 func64 rfl rfl rfl fun C hC=>?_
 refine tg_ hC [.n 14] rfl ?_
 refine AK.loopN 4 (AK.rnd ?_)
 obtain⟨w,i,h⟩:=Qc h
 refine Qa hC [.n 2,.v .no [] (.b true),.n 10,.o (.any (.loc 609 0 0) none),.n 3,.O 4 (.var [.clo (.func 188) [] [.loc 610 0 0],.I m]),.n 6,.cm (.clo) [(609,610)] [(610,609)] [] [.d] [(609,.var (QH g))] (.b w),.n 3] rfl ⟨⟨⟨⟨tt_,rfl⟩,(fun σ f j _=>Stp.idxV rfl rfl (QE hC.n rfl) (f _ _ rfl) (f _ _ rfl) (Qr.es rfl) (j _ _ rfl) (by decide))⟩,rfl⟩,(QnU _ i)⟩ ?_
 refine bg_ h (fun a h=>Qa hC [.T,.n 13,.K [2] [609,610,611,612,613,614]] rfl ⟨tt_,a⟩ ?_) fun a h=>Qa hC [.F,.n 4,.v .no [] (.I 1),.n 2] rfl ⟨⟨tt_,a⟩,rfl⟩ ?_
 ·cases h
  exact d1_ rfl rfl ⟨rfl,rfl,rfl,rfl,rfl,rfl,tt_⟩
 refine AK.met (AK.rnd ?_)
 obtain⟨x,k,h⟩:=Qc h
 refine Qa hC [.n 2,.v .no [] (.b true),.n 10,.o (.any (.loc 609 0 2) none),.n 1,.kill 4,.n 2,.O 4 (.var [.clo (.func 189) [] [.loc 611 0 0,.loc 612 0 0,.loc 613 0 0],.I s]),.n 6,.cm (.clo) [(609,611),(610,612),(611,613),(612,610)] [(611,609),(612,610),(613,611),(610,612)] [] [.d,.d,.d] [(609,.var (QbT p)),(610,.var (Qb q)),(611,.var [.clo (.func 187) [] [.loc 612 0 0]]),(612,.var (QH g))] (.b x),.n 3] rfl ⟨⟨⟨⟨tt_,rfl⟩,(fun σ f j _=>Stp.idxV rfl rfl (QE hC.n rfl) (f _ _ rfl) (f _ _ rfl) (Qr.es rfl) (j _ _ rfl) (by decide))⟩,rfl⟩,(QnW _ _ _ k)⟩ ?_
 refine bg_ h (fun c h=>Qa hC [.T,.n 13,.K [2] [609,610,611,612,613,614]] rfl ⟨tt_,c⟩ ?_) fun c h=>Qa hC [.F,.n 4,.v .no [] (.I 2),.n 2] rfl ⟨⟨tt_,c⟩,rfl⟩ ?_
 ·cases h
  exact d1_ rfl rfl ⟨rfl,rfl,rfl,rfl,rfl,rfl,tt_⟩
 refine AK.met (AK.rnd ?_)
 obtain⟨y,l,h⟩:=Qc h
 refine Qa hC [.n 2,.v .no [] (.b true),.n 10,.o (.any (.loc 609 0 4) none),.n 1,.kill 4,.n 2,.O 4 (.var [.clo (.func 191) [] [.loc 614 0 0,.loc 610 0 0],.I u]),.n 6,.cm (.clo) [(609,614),(610,610)] [(614,609),(610,610)] [] [.d,.d] [(609,.var (Qe t)),(610,.var (QH g))] (.b y),.n 3] rfl ⟨⟨⟨⟨tt_,rfl⟩,(fun σ f j _=>Stp.idxV rfl rfl (QE hC.n rfl) (f _ _ rfl) (f _ _ rfl) (Qr.es rfl) (j _ _ rfl) (by decide))⟩,rfl⟩,(QnX _ _ l)⟩ ?_
 refine bg_ h (fun e h=>Qa hC [.T,.n 13,.K [2] [609,610,611,612,613,614]] rfl ⟨tt_,e⟩ ?_) fun e h=>Qa hC [.F,.n 4,.v .no [] (.I 3),.n 2] rfl ⟨⟨tt_,e⟩,rfl⟩ ?_
 ·cases h
  exact d1_ rfl rfl ⟨rfl,rfl,rfl,rfl,rfl,rfl,tt_⟩
 refine AK.met (AK.rnd ?_)
 refine Qa hC [.n 2,.v .no [] (.b false),.n 15] rfl ⟨tt_,rfl⟩ ?_
 cases h
 exact d1_ rfl rfl ⟨rfl,rfl,rfl,rfl,rfl,rfl,tt_⟩
def Qfl (a:Int)(b:Qaz)(c:(List Qaz))(d:Qm):Option Int:=
 (Qhc b 1 c a 5 d 3).bind fun e=>
 some e
theorem Qo2 (c e a b){r}(h:Qfl c e a b=some r):Qd prog 186 [.I c,.agg (QH e),.loc 609 0 0,.loc 610 0 0] [(609,.var (QbT a)),(610,.var (Qe b))] (Qk (.I r) [(609,.var (QbT a)),(610,.var (Qe b))]):=by
 refine Qd.walk 17 func186 rfl rfl rfl fun C hC=>?_
 obtain⟨g,f,h⟩:=Qc h
 refine Qa hC [.n 12,.O 7 (.var [.clo (.func 187) [] [.loc 5 0 0]]),.n 5,.v .no [] (.agg [.clo (.func 188) [] [.loc 5 0 0],.I 1]),.n 1,.v .no [] (.agg [.clo (.func 189) [] [.loc 609 0 0,.loc 4 0 0,.loc 7 0 0],.I 5]),.n 1,.v .no [] (.agg [.clo (.func 191) [] [.loc 610 0 0,.loc 5 0 0],.I 3]),.o (.any (.own 15 3) (some (.var [.clo (.func 188) [] [.loc 5 0 0],.I 1,.clo (.func 189) [] [.loc 609 0 0,.loc 4 0 0,.loc 7 0 0],.I 5,.clo (.func 191) [] [.loc 610 0 0,.loc 5 0 0],.I 3]))),.cm (.fn) [(609,15),(610,5),(611,609),(612,4),(613,7),(614,610)] [(15,609),(5,610),(609,611),(4,612),(7,613),(610,614)] [] [.d] [(609,.var [.clo (.func 188) [] [.loc 610 0 0],.I 1,.clo (.func 189) [] [.loc 611 0 0,.loc 612 0 0,.loc 613 0 0],.I 5,.clo (.func 191) [] [.loc 614 0 0,.loc 610 0 0],.I 3]),(610,.var (QH e)),(611,.var (QbT a)),(612,.var (Qb c)),(613,.var [.clo (.func 187) [] [.loc 610 0 0]]),(614,.var (Qe b))] (.I g),.n 4] rfl ⟨⟨⟨⟨⟨⟨tt_,rfl⟩,rfl⟩,rfl⟩,rfl⟩,(fun σ i j hf=>Stp.buildAny rfl rfl (QE hC.n rfl) (Qr.es rfl) Ql4 rfl (by decide) (by decide) (QeN i rfl) rfl rfl (hf rfl))⟩,(QqC _ _ _ _ _ _ _ f)⟩ ?_
 cases h
 exact d1_ rfl rfl ⟨rfl,rfl,tt_⟩
def Qdt (d:(List Qaz))(e:(List Qaz))(f:Qm)(a:Int):Option (Int⊕((Int×Int)⊕Unit)):=
 bif (decide (a<(d.length:Int)))then
 (idx d a).bind fun c=>
 (Qfl a c e f).bind fun b=>
 bif (b != 0)then
 some (.inr (.inl (a,b)))
 else
 some (.inl (w64 (a+1)))
 else
 some (.inr (.inr ()))
def Qdu (a:Int)(b:Int):Option (Int×Int):=
 some (a,b)
def Qdv : Option (Int×Int):=
 some (0,0)
def QeE (a:(List Qaz))(b:(List Qaz))(c:Qm):Option (Int×Int):=
 (Qq (fun st=>Qdt a b c st) 0).bind (Sum.elim (fun q=>Qdu q.1 q.2) (fun q=>Qdv))
theorem Qoh (i f g){r}(h:QeE i f g=some r):Qd prog 185 [.sl 2 (i.map QH),.clo (.func 186) [] [.loc 609 0 0,.loc 610 0 0]] [(609,.var (QbT f)),(610,.var (Qe g))] (Qk (.tup [.I r.1,.I r.2]) [(609,.var (QbT f)),(610,.var (Qe g))]):=by
 refine Qd.walk 25 func185 rfl rfl rfl fun C hC=>?_
 refine Qa hC [.n 10,.o (.ln i.length),.n 4,.K [1,9,10,11] [609,610]] rfl ⟨tt_,Qi⟩ ?_
 obtain⟨m,j,h⟩:=Qc h
 refine AK.loop (body:=(fun st=>Qdt i f g st)) (fun st σ=>σ=⟨[(1,.clo (.func 186) [] [.loc 609 0 0,.loc 610 0 0]),(9,.sl 2 (i.map QH)),(10,.I (i.length:Int)),(11,.I st)],[(609,.var (QbT f)),(610,.var (Qe g))]⟩) (Sum.elim (fun q e σ=>e=.ret∧σ=⟨[(4,.I q.1),(5,.I q.2)],[(609,.var (QbT f)),(610,.var (Qe g))]⟩) (fun q e σ=>e=.exit 0∧σ=⟨[],[(609,.var (QbT f)),(610,.var (Qe g))]⟩)) j rfl ?_ ?_
 ·rintro u o σ rfl h
  refine tg_ hC [.n 6] rfl ?_
  rcases Qt h with⟨a,h⟩|⟨a,h⟩
  ·obtain⟨c,k,h⟩:=Qc h
   obtain⟨p,l,h⟩:=Qc h
   refine Qa hC [.T,.n 7,.o (.row (QH c)),.v .no [] (.agg (QH c)),.n 3,.O 7 (.var (QH c)),.n 6,.v .no [] (.agg (QH c)),.cm (.clo) [(609,609),(610,610)] [(609,609),(610,610)] [] [.d,.d,.d,.d] [(609,.var (QbT f)),(610,.var (Qe g))] (.I p),.n 9] rfl ⟨⟨⟨⟨⟨⟨tt_,a⟩,(QG k)⟩,rfl⟩,rfl⟩,rfl⟩,(Qo2 _ _ _ _ l)⟩ ?_
   refine bg_ h (fun b h=>Qa hC [.T,.n 11,.K [4,5] [609,610]] rfl ⟨tt_,b⟩ ?_) fun b h=>Qa hC [.F,.n 7,.K [1,9,10,11] [609,610]] rfl ⟨tt_,b⟩ ?_
   ·cases h
    exact Qbs rfl (an_ rfl rfl)
   cases h
   exact QI rfl rfl
  refine Qa hC [.F,.n 2,.K [] [609,610]] rfl ⟨tt_,a⟩ ?_
  cases h
  exact QJ rfl (an_ rfl rfl)
 rcases m with(⟨s,t⟩|_)
 ·replace h:Qdu s t=some r:=h
  rintro e σ ⟨rfl,rfl⟩
  refine tg_ hC [.n 2] rfl ?_
  cases h
  exact d2_ rfl rfl rfl ⟨rfl,rfl,tt_⟩
 replace h:Qdv=some r:=h
 rintro e σ ⟨rfl,rfl⟩
 refine tg_ hC [.n 9] rfl ?_
 cases h
 exact d2_ rfl rfl rfl ⟨rfl,rfl,tt_⟩
def Qgq (b:Qm)(a:(List Qaz)):Option Int:=
 (QeE a a b).bind fun c=>
 some c.2
theorem Qqh (a b){r}(h:Qgq a b=some r):Qd prog 128 [.agg (Qe a),.sl 2 (b.map QH)] [] (Qk (.I r) []):=by
 refine Qd.walk 14 func128 rfl rfl rfl fun C hC=>?_
 obtain⟨e,c,h⟩:=Qc h
 refine Qa hC [.n 11,.cm (.fn) [(609,3),(610,2)] [(3,609),(2,610)] [] [.d,.d] [(609,.var (QbT b)),(610,.var (Qe a))] (.tup [.I e.1,.I e.2]),.n 14] rfl ⟨tt_,(Qoh _ _ _ c)⟩ ?_
 cases h
 exact d1_ rfl rfl tt_
def Qjr (a:Qm)(b:Qw):Option Int:=
 (Qgq a b.Vars).bind fun c=>
 some c
theorem Qse (a b){r}(h:Qjr a b=some r):Qd prog 127 [.loc 609 0 0,.loc 610 0 0] [(609,.var (Qe a)),(610,.var (Qg b))] (Qk (.I r) [(609,.var (Qe a)),(610,.var (Qg b))]):=by
 refine Qd.walk 7 func127 rfl rfl rfl fun C hC=>?_
 obtain⟨f,e,h⟩:=Qc h
 refine Qa hC [.n 7,.v .no [] (.agg (Qe a)),.n 2,.o (.c false [.d,.d] (.I f)),.n 4] rfl ⟨⟨tt_,rfl⟩,(Qqh _ _ e)⟩ ?_
 cases h
 exact d1_ rfl rfl ⟨rfl,rfl,tt_⟩
def Qig (b:Qm)(c:Qw)(d:Int):Option (Bool×Int):=
 (Qjr b c).bind fun a=>
 some ((a==0),a)
theorem Qrm (c e i){r}(h:Qig c e i=some r):Qd prog 184 [.loc 609 0 0,.loc 612 0 0] [(609,.var [.clo (.func 127) [] [.loc 610 0 0,.loc 611 0 0]]),(610,.var (Qe c)),(611,.var (Qg e)),(612,.var [.loc 613 0 0]),(613,.var (Qb i))] (Qk (.b r.1) [(609,.var [.clo (.func 127) [] [.loc 610 0 0,.loc 611 0 0]]),(610,.var (Qe c)),(611,.var (Qg e)),(612,.var [.loc 613 0 0]),(613,.var (Qb r.2))]):=by
 refine Qd.walk 11 func184 rfl rfl rfl fun C hC=>?_
 obtain⟨f,g,h⟩:=Qc h
 refine tg_ hC [.n 6,.K [0,1] [609,610,611,612,613]] rfl ?_
 refine AK.draw2 Qr hC mixed [.N,.N,.a (.any (.I f) none) none false,.N,.m .s] [] [] [1] [609,610,611,612,613] rfl rfl rfl ⟨tt_,(fun σ j k _=>Stp.callSame (md:=.cm (.clo) [(609,610),(610,611)] [(610,609),(611,610)] [] [.d,.d] [(609,.var (Qe c)),(610,.var (Qg e))] (.I f) [610,611]) Qr hC j k rfl ⟨⟨tt_,(Qse _ _ g)⟩,⟨rfl,rfl,tt_⟩⟩)⟩ rfl (by kernel_rfl) rfl rfl rfl ?_
 refine Qa hC [.O 613 (.var (Qb f)),.n 11] rfl ⟨tt_,rfl⟩ ?_
 cases h
 exact d1_ rfl rfl ⟨rfl,rfl,rfl,rfl,rfl,tt_⟩
def Qhd (e:Qw)(f:Qm)(a:Int)(c:Int):Option ((Int×Int)⊕(Unit⊕Int)):=
 bif (decide (c<(e.Vars.length:Int)))then
 (idx e.Vars c).bind fun d=>
 (Qhv f.Colours d.Colour).bind fun b=>
 bif (b==0)then
 some (.inr (.inl ()))
 else
 some (.inl ((min2 (w64 (a*b)) 1025),(w64 (c+1))))
 else
 some (.inr (.inr a))
def Qhe : Option Int:=
 some 0
def Qhf (a:Int):Option Int:=
 some a
def Qkk (a:Qm)(b:Int):Option Int:=
 (Qcy a.Tasks b).bind fun c=>
 bif (!c)then
 some 0
 else
 (idx a.Tasks b).bind fun d=>
 (Qq (fun st=>Qhd d a st.1 st.2) (1,0)).bind (Sum.elim (fun q=>Qhe) (fun q=>Qhf q))
theorem Qs4 (s y){r}(h:Qkk s y=some r):Qd prog 57 [.agg (Qe s),.I y] [] (Qk (.I r) []):=by
 refine Qd.walk 38 func57 rfl rfl rfl fun C hC=>?_
 obtain⟨A,t,h⟩:=Qc h
 refine Qa hC [.n 12,.o (.c false [.d,.d] (.b A)),.n 3] rfl ⟨tt_,(Qif _ _ t)⟩ ?_
 rcases Qt h with⟨g,h⟩|⟨g,h⟩
 ·refine Qa hC [.T,.n 7] rfl ⟨tt_,g⟩ ?_
  cases h
  exact d1_ rfl rfl tt_
 obtain⟨k,u,h⟩:=Qc h
 refine Qa hC [.F,.n 13,.o (.row (Qg k)),.n 2,.o (.ln k.Vars.length),.n 4,.K [2,5,19,20,21] [2]] rfl ⟨⟨⟨tt_,g⟩,(QG u)⟩,Qi⟩ ?_
 obtain⟨w,l,h⟩:=Qc h
 refine AK.loop (body:=(fun st=>Qhd k s st.1 st.2)) (fun st σ=>σ=⟨[(2,.loc 2 0 0),(5,.I st.1),(19,.sl 2 (k.Vars.map QH)),(20,.I (k.Vars.length:Int)),(21,.I st.2)],[(2,.var (Qe s))]⟩) (Sum.elim (fun q e σ=>e=.ret∧σ=⟨[(4,.I 0)],[]⟩) (fun q e σ=>e=.exit 0∧σ=⟨[(5,.I q)],[]⟩)) l rfl ?_ ?_
 ·rintro ⟨z,B⟩ o σ rfl h
  refine tg_ hC [.n 6] rfl ?_
  rcases Qt h with⟨a,h⟩|⟨a,h⟩
  ·obtain⟨i,m,h⟩:=Qc h
   obtain⟨x,p,h⟩:=Qc h
   refine Qa hC [.T,.n 6,.o (.row (QH i)),.v .no [] (.agg (QH i)),.n 2,.O 7 (.var (QH i)),.n 8,.o (.c false [.d,.d] (.I x)),.n 10] rfl ⟨⟨⟨⟨⟨tt_,a⟩,(QG m)⟩,rfl⟩,rfl⟩,(QnT _ _ p)⟩ ?_
   refine bg_ h (fun f h=>Qa hC [.T,.n 9,.K [4] []] rfl ⟨tt_,f⟩ ?_) fun f h=>Qa hC [.F,.n 15,.K [2,5,19,20,21] [2]] rfl ⟨tt_,f⟩ ?_
   ·cases h
    exact Qbs rfl (an_ rfl rfl)
   cases h
   exact QI rfl rfl
  refine Qa hC [.F,.n 2,.K [5] []] rfl ⟨tt_,a⟩ ?_
  cases h
  exact QJ rfl (an_ rfl rfl)
 rcases w with(_ | j)
 ·replace h:Qhe=some r:=h
  rintro e σ ⟨rfl,rfl⟩
  refine tg_ hC [.n 2] rfl ?_
  cases h
  exact d1_ rfl rfl tt_
 replace h:Qhf j=some r:=h
 rintro e σ ⟨rfl,rfl⟩
 refine tg_ hC [.n 9] rfl ?_
 cases h
 exact d1_ rfl rfl tt_
def Qjs (a:Qm)(b:Int):Option Bool:=
 (Qkk a b).bind fun c=>
 some (decide (c≤1024))
theorem Qsf (a e){r}(h:Qjs a e=some r):Qd prog 129 [.loc 609 0 0,.loc 610 0 0] [(609,.var (Qe a)),(610,.var (Qb e))] (Qk (.b r) [(609,.var (Qe a)),(610,.var (Qb e))]):=by
 refine Qd.walk 7 func129 rfl rfl rfl fun C hC=>?_
 obtain⟨g,f,h⟩:=Qc h
 refine Qa hC [.n 7,.v .no [] (.agg (Qe a)),.n 1,.o (.c false [.d,.d] (.I g)),.n 5] rfl ⟨⟨tt_,rfl⟩,(Qs4 _ _ f)⟩ ?_
 cases h
 exact d1_ rfl rfl ⟨rfl,rfl,tt_⟩
def Qih (c:Ql)(rec_expr_Depth:Ql→Option Int)(d:Int)(a:Int):Option ((Int×Int)⊕Int):=
 bif (decide (a<(c.Kids.length:Int)))then
 (idx c.Kids a).bind fun e=>
 (rec_expr_Depth e).bind fun b=>
 some (.inl ((max2 d b),(w64 (a+1))))
 else
 some (.inr d)
def Qlb (a:Int):Option Int:=
 some (w64 (a+1))
def QlB (rec_expr_Depth:Ql→Option Int)(a:Ql):Option Int:=
 (Qq (fun st=>Qih a rec_expr_Depth st.1 st.2) (0,0)).bind (fun q=>Qlb q)
def QdH : Nat→Ql→Option Int
 | 0,_=>none
 | n+1,a=>QlB (QdH n) a
def QnY (a:Ql):Option Int:=QdH (SizeOf.sizeOf a) a
theorem Qsg (rec_expr_Depth:Ql→Option Int)(hrec_expr_Depth:∀(a:Ql) {r:Int},rec_expr_Depth a=some r→Qd prog 192 [.agg (Qs a)] [] (Qk (.I r) []))(a:Ql){r:Int}(h:QlB rec_expr_Depth a=some r):Qd prog 192 [.agg (Qs a)] [] (Qk (.I r) []):=by
 refine Qd.walk 20 func192 rfl rfl rfl fun C hC=>?_
 refine Qa hC [.n 16,.o (.ln a.Kids.length),.n 4,.K [3,7,8,9] []] rfl ⟨tt_,Qi7 _⟩ ?_
 obtain⟨l,f,h⟩:=Qc h
 refine AK.loop (body:=(fun st=>Qih a rec_expr_Depth st.1 st.2)) (fun st σ=>σ=⟨[(3,.I st.1),(7,.sl 3 (Qbo a.Kids)),(8,.I (a.Kids.length:Int)),(9,.I st.2)],[]⟩) (fun q e σ=>e=.exit 0∧σ=⟨[(3,.I q)],[]⟩) f rfl ?_ ?_
 ·rintro ⟨m,p⟩ o σ rfl h
  refine tg_ hC [.n 6] rfl ?_
  rcases Qt h with⟨b,h⟩|⟨b,h⟩
  ·obtain⟨i,j,h⟩:=Qc h
   obtain⟨k,g,h⟩:=Qc h
   refine Qa hC [.T,.n 6,.o (.row (Qs i)),.v .no [] (.agg (Qs i)),.n 2,.O 5 (.var (Qs i)),.n 4,.v .no [] (.agg (Qs i)),.o (.c false [.d] (.I k)),.n 9,.K [3,7,8,9] []] rfl ⟨⟨⟨⟨⟨⟨tt_,b⟩,(Qna j)⟩,rfl⟩,rfl⟩,rfl⟩,(hrec_expr_Depth _ g)⟩ ?_
   cases h
   exact QI rfl rfl
  refine Qa hC [.F,.n 2,.K [3] []] rfl ⟨tt_,b⟩ ?_
  cases h
  exact QJ rfl (an_ rfl rfl)
 replace h:Qlb l=some r:=h
 rintro e σ ⟨rfl,rfl⟩
 refine tg_ hC [.n 10] rfl ?_
 cases h
 exact d1_ rfl rfl tt_
theorem QmP : ∀(fuel:Nat) (a:Ql) {r:Int},QdH fuel a=some r→Qd prog 192 [.agg (Qs a)] [] (Qk (.I r) [])
 | 0,_,_,h=>by cases h
 | n+1,a,_,h=>Qsg (QdH n) (fun _ _ h=>QmP n _ h) a h
theorem QtM (a){r}(h:QnY a=some r):Qd prog 192 [.agg (Qs a)] [] (Qk (.I r) []):=QmP _ a h
def Qjt (c:Ql)(rec_expr_Size:Ql→Option Int)(d:Int)(a:Int):Option ((Int×Int)⊕Int):=
 bif (decide (a<(c.Kids.length:Int)))then
 (idx c.Kids a).bind fun e=>
 (rec_expr_Size e).bind fun b=>
 some (.inl ((w64 (d+b)),(w64 (a+1))))
 else
 some (.inr d)
def QlC (a:Int):Option Int:=
 some a
def Qmu (rec_expr_Size:Ql→Option Int)(a:Ql):Option Int:=
 (Qq (fun st=>Qjt a rec_expr_Size st.1 st.2) (1,0)).bind (fun q=>QlC q)
def Qel : Nat→Ql→Option Int
 | 0,_=>none
 | n+1,a=>Qmu (Qel n) a
def Qo3 (a:Ql):Option Int:=Qel (SizeOf.sizeOf a) a
theorem Qs5 (rec_expr_Size:Ql→Option Int)(hrec_expr_Size:∀(a:Ql) {r:Int},rec_expr_Size a=some r→Qd prog 193 [.agg (Qs a)] [] (Qk (.I r) []))(a:Ql){r:Int}(h:Qmu rec_expr_Size a=some r):Qd prog 193 [.agg (Qs a)] [] (Qk (.I r) []):=by
 refine Qd.walk 19 func193 rfl rfl rfl fun C hC=>?_
 refine Qa hC [.n 16,.o (.ln a.Kids.length),.n 4,.K [3,7,8,9] []] rfl ⟨tt_,Qi7 _⟩ ?_
 obtain⟨l,f,h⟩:=Qc h
 refine AK.loop (body:=(fun st=>Qjt a rec_expr_Size st.1 st.2)) (fun st σ=>σ=⟨[(3,.I st.1),(7,.sl 3 (Qbo a.Kids)),(8,.I (a.Kids.length:Int)),(9,.I st.2)],[]⟩) (fun q e σ=>e=.exit 0∧σ=⟨[(3,.I q)],[]⟩) f rfl ?_ ?_
 ·rintro ⟨m,p⟩ o σ rfl h
  refine tg_ hC [.n 6] rfl ?_
  rcases Qt h with⟨b,h⟩|⟨b,h⟩
  ·obtain⟨i,j,h⟩:=Qc h
   obtain⟨k,g,h⟩:=Qc h
   refine Qa hC [.T,.n 6,.o (.row (Qs i)),.v .no [] (.agg (Qs i)),.n 2,.O 5 (.var (Qs i)),.n 4,.v .no [] (.agg (Qs i)),.o (.c false [.d] (.I k)),.n 9,.K [3,7,8,9] []] rfl ⟨⟨⟨⟨⟨⟨tt_,b⟩,(Qna j)⟩,rfl⟩,rfl⟩,rfl⟩,(hrec_expr_Size _ g)⟩ ?_
   cases h
   exact QI rfl rfl
  refine Qa hC [.F,.n 2,.K [3] []] rfl ⟨tt_,b⟩ ?_
  cases h
  exact QJ rfl (an_ rfl rfl)
 replace h:QlC l=some r:=h
 rintro e σ ⟨rfl,rfl⟩
 refine tg_ hC [.n 9] rfl ?_
 cases h
 exact d1_ rfl rfl tt_
theorem QnZ : ∀(fuel:Nat) (a:Ql) {r:Int},Qel fuel a=some r→Qd prog 193 [.agg (Qs a)] [] (Qk (.I r) [])
 | 0,_,_,h=>by cases h
 | n+1,a,_,h=>Qs5 (Qel n) (fun _ _ h=>QnZ n _ h) a h
theorem Quz (a){r}(h:Qo3 a=some r):Qd prog 193 [.agg (Qs a)] [] (Qk (.I r) []):=QnZ _ a h
def QgG (a:Int)(b:Bool):Option Int:=
 bif b then
 some 1
 else
 bif (a==5)then
 some 2
 else
 bif (a==6)then
 some 3
 else
 some (-1)
def QgH (a:Int)(b:Bool):Option Int:=
 bif b then
 some 0
 else
 bif (a==3)then
 QgG a (a==3)
 else
 QgG a (a==4)
def QlY (a:Int):Option Int:=
 bif (a==1)then
 QgH a (a==1)
 else
 QgH a (a==2)
theorem QuA (a){r}(h:QlY a=some r):Qd prog 228 [.I a] [] (Qk (.I r) []):=by
 refine Qd.walk 14 func228 rfl rfl rfl fun C hC=>?_
 refine tg_ hC [.n 12] rfl ?_
 refine AK.meet (fun σ=>∃j:Bool,σ=⟨[(3,.I a),(4,.b j)],[]⟩∧QgH a j=some r) ?_ ?_
 ·refine tg_ hC [.n 6] rfl ?_
  refine bg_ h (fun c h=>Qa hC [.T,.n 1,.K [3,4] []] rfl ⟨tt_,c⟩ ?_) fun c h=>Qa hC [.F,.n 4,.K [3,4] []] rfl ⟨tt_,c⟩ ?_
  ·exact AK.met (ex_ _ (an_ rfl h))
  exact AK.met (ex_ _ (an_ rfl h))
 rintro σ ⟨j,rfl,h⟩
 refine bg_ h (fun e h=>Qa hC [.T,.n 8,.K [2] []] rfl ⟨tt_,e⟩ ?_) fun e h=>Qa hC [.F] rfl ⟨tt_,e⟩ ?_
 ·cases h
  exact d1_ rfl rfl tt_
 refine AK.meet (fun σ=>∃k:Bool,σ=⟨[(3,.I a),(7,.b k)],[]⟩∧QgG a k=some r) ?_ ?_
 ·refine tg_ hC [.n 6] rfl ?_
  refine bg_ h (fun d h=>Qa hC [.T,.n 1,.K [3,7] []] rfl ⟨tt_,d⟩ ?_) fun d h=>Qa hC [.F,.n 4,.K [3,7] []] rfl ⟨tt_,d⟩ ?_
  ·exact AK.met (ex_ _ (an_ rfl h))
  exact AK.met (ex_ _ (an_ rfl h))
 rintro σ ⟨k,rfl,h⟩
 refine bg_ h (fun f h=>Qa hC [.T,.n 8,.K [2] []] rfl ⟨tt_,f⟩ ?_) fun f h=>Qa hC [.F,.n 6] rfl ⟨tt_,f⟩ ?_
 ·cases h
  exact d1_ rfl rfl tt_
 refine bg_ h (fun g h=>Qa hC [.T,.n 8,.K [2] []] rfl ⟨tt_,g⟩ ?_) fun g h=>Qa hC [.F,.n 6] rfl ⟨tt_,g⟩ ?_
 ·cases h
  exact d1_ rfl rfl tt_
 refine bg_ h (fun i h=>Qa hC [.T,.n 8,.K [2] []] rfl ⟨tt_,i⟩ ?_) fun i h=>Qa hC [.F,.n 9,.K [2] []] rfl ⟨tt_,i⟩ ?_
 ·cases h
  exact d1_ rfl rfl tt_
 cases h
 exact d1_ rfl rfl tt_
def Qlc (op1:Int):Option Bool:=
 some ((decide (1≤op1))&&(decide (op1≤11)))
theorem QtN (op1){r}(h:Qlc op1=some r):Qd prog 229 [.I op1] [] (Qk (.b r) []):=by
 refine Qd.walk 9 func229 rfl rfl rfl fun C hC=>?_
 refine tg_ hC [.n 6] rfl ?_
 refine AK.meetX (fun σ=>σ=⟨[(2,.b ((decide (1≤op1))&&(decide (op1≤11))))],[]⟩) ?_ ?_
 ·refine tg_ hC [.n 4] rfl ?_
  rcases QZ (decide (1≤op1))with a | a
  ·refine Qa hC [.S 5 (.b true),.n 5,.S 2 (.b ((decide (1≤op1))&&(decide (op1≤11)))),.K [2] []] rfl ⟨(tc_ a),(congrArg V.b (QbZ a rfl))⟩ ?_
   exact AK.met rfl
  refine Qa hC [.S 5 (.b false),.n 5,.S 2 (.b ((decide (1≤op1))&&(decide (op1≤11)))),.K [2] []] rfl ⟨(tc_ a),(congrArg V.b (QdE a rfl))⟩ ?_
  exact AK.met rfl
 rintro σ rfl
 refine tg_ hC [.n 2] rfl ?_
 cases h
 exact d1_ rfl rfl tt_
def QlD (rec_expr_parts:Ql→Int→Option Bool)(a:Ql)(b:Int):Option Bool:=
 (rec_expr_parts a b).bind fun c=>
 some (!c)
theorem Qsh (rec_expr_parts:Ql→Int→Option Bool)(hrec_expr_parts:∀(i:Ql) (a:Int) {r:Bool},rec_expr_parts i a=some r→Qd prog 194 [.agg (Qs i),.I a] [] (Qk (.b r) []))(e:Ql)(f:Int){r:Bool}(h:QlD rec_expr_parts e f=some r):Qd prog 231 [.agg (Qs e),.loc 609 0 0] [(609,.var (Qb f))] (Qk (.b r) [(609,.var (Qb f))]):=by
 refine Qd.walk 8 func231 rfl rfl rfl fun C hC=>?_
 obtain⟨j,g,h⟩:=Qc h
 refine Qa hC [.n 8,.v .no [] (.agg (Qs e)),.n 1,.o (.c false [.d,.d] (.b j)),.n 5] rfl ⟨⟨tt_,rfl⟩,(hrec_expr_parts _ _ g)⟩ ?_
 cases h
 exact d1_ rfl rfl ⟨rfl,tt_⟩
def QaR (c:(List Ql))(rec_expr_parts:Ql→Int→Option Bool)(d:Int)(a:Int):Option (Int⊕(Int⊕Unit)):=
 bif (decide (a<(c.length:Int)))then
 (idx c a).bind fun e=>
 (QlD rec_expr_parts e d).bind fun b=>
 bif b then
 some (.inr (.inl a))
 else
 some (.inl (w64 (a+1)))
 else
 some (.inr (.inr ()))
def Qdh (a:Int):Option Int:=
 some a
def Qdi : Option Int:=
 some (-1)
def Qcg (rec_expr_parts:Ql→Int→Option Bool)(a:(List Ql))(b:Int):Option Int:=
 (Qq (fun st=>QaR a rec_expr_parts b st) 0).bind (Sum.elim (fun q=>Qdh q) (fun q=>Qdi))
theorem Qhx (rec_expr_parts:Ql→Int→Option Bool)(hrec_expr_parts:∀(s:Ql) (a:Int) {r:Bool},rec_expr_parts s a=some r→Qd prog 194 [.agg (Qs s),.I a] [] (Qk (.b r) []))(i:(List Ql))(f:Int){r:Int}(h:Qcg rec_expr_parts i f=some r):Qd prog 245 [.sl 3 (Qbo i),.clo (.func 231) [] [.loc 609 0 0]] [(609,.var (Qb f))] (Qk (.I r) [(609,.var (Qb f))]):=by
 refine Qd.walk 19 func245 rfl rfl rfl fun C hC=>?_
 refine Qa hC [.n 9,.o (.ln i.length),.n 4,.K [0,1,7,8] [609]] rfl ⟨tt_,Qi7 _⟩ ?_
 obtain⟨l,j,h⟩:=Qc h
 refine AK.loop (body:=(fun st=>QaR i rec_expr_parts f st)) (fun st σ=>σ=⟨[(0,.sl 3 (Qbo i)),(1,.clo (.func 231) [] [.loc 609 0 0]),(7,.I (i.length:Int)),(8,.I st)],[(609,.var (Qb f))]⟩) (Sum.elim (fun q e σ=>e=.ret∧σ=⟨[(4,.I q)],[(609,.var (Qb f))]⟩) (fun q e σ=>e=.exit 0∧σ=⟨[],[(609,.var (Qb f))]⟩)) j rfl ?_ ?_
 ·rintro w o σ rfl h
  refine tg_ hC [.n 6] rfl ?_
  rcases Qt h with⟨g,h⟩|⟨g,h⟩
  ·obtain⟨t,m,h⟩:=Qc h
   obtain⟨p,k,h⟩:=Qc h
   refine Qa hC [.T,.n 15,.o (.row (Qs t)),.v .no [] (.agg (Qs t)),.cm (.clo) [(609,609)] [(609,609)] [] [.d,.d] [(609,.var (Qb f))] (.b p),.n 2] rfl ⟨⟨⟨⟨tt_,g⟩,(Qna m)⟩,rfl⟩,(Qsh rec_expr_parts hrec_expr_parts _ _ k)⟩ ?_
   refine bg_ h (fun c h=>Qa hC [.T,.n 9,.K [4] [609]] rfl ⟨tt_,c⟩ ?_) fun c h=>Qa hC [.F,.n 7,.K [0,1,7,8] [609]] rfl ⟨tt_,c⟩ ?_
   ·cases h
    exact Qbs rfl (an_ rfl rfl)
   cases h
   exact QI rfl rfl
  refine Qa hC [.F,.n 2,.K [] [609]] rfl ⟨tt_,g⟩ ?_
  cases h
  exact QJ rfl (an_ rfl rfl)
 rcases l with(u | _)
 ·replace h:Qdh u=some r:=h
  rintro e σ ⟨rfl,rfl⟩
  refine tg_ hC [.n 2] rfl ?_
  cases h
  exact d1_ rfl rfl ⟨rfl,tt_⟩
 replace h:Qdi=some r:=h
 rintro e σ ⟨rfl,rfl⟩
 refine tg_ hC [.n 8] rfl ?_
 cases h
 exact d1_ rfl rfl ⟨rfl,tt_⟩
def QaS (rec_expr_parts:Ql→Int→Option Bool)(a:(List Ql))(b:Int):Option Bool:=
 (Qcg rec_expr_parts a b).bind fun c=>
 some (decide (0≤c))
theorem QgI (rec_expr_parts:Ql→Int→Option Bool)(hrec_expr_parts:∀(f:Ql) (a:Int) {r:Bool},rec_expr_parts f a=some r→Qd prog 194 [.agg (Qs f),.I a] [] (Qk (.b r) []))(g:(List Ql))(c:Int){r:Bool}(h:QaS rec_expr_parts g c=some r):Qd prog 230 [.sl 3 (Qbo g),.clo (.func 231) [] [.loc 609 0 0]] [(609,.var (Qb c))] (Qk (.b r) [(609,.var (Qb c))]):=by
 refine Qd.walk 9 func230 rfl rfl rfl fun C hC=>?_
 obtain⟨i,e,h⟩:=Qc h
 refine Qa hC [.n 9,.cm (.fn) [(609,609)] [(609,609)] [] [.d,.d] [(609,.var (Qb c))] (.I i),.n 5] rfl ⟨tt_,(Qhx rec_expr_parts hrec_expr_parts _ _ e)⟩ ?_
 cases h
 exact d1_ rfl rfl ⟨rfl,tt_⟩
def QoI (b:Ql):Option Bool:=
 bif (b.Kind==5)then
 (Qlc b.Num).bind fun a=>
 some (!a)
 else
 some false
def Qii (rec_expr_parts:Ql→Int→Option Bool)(d:Ql)(a:Int)(b:Bool):Option Bool:=
 bif b then
 some false
 else
 (QaS rec_expr_parts d.Kids a).bind fun c=>
 some (!c)
def QlE (rec_expr_parts:Ql→Int→Option Bool)(b:Ql)(a:Int):Option Bool:=
 (QlY b.Kind).bind fun d=>
 bif ((b.Kids.length:Int) != d)then
 some false
 else
 bif ((b.Kind==2)&&((decide (b.Num<0))||(decide (a≤b.Num))))then
 some false
 else
 (QoI b).bind (fun c=>Qii rec_expr_parts b a c)
def QdI : Nat→Ql→Int→Option Bool
 | 0,_,_=>none
 | n+1,b,a=>QlE (QdI n) b a
def Qn0 (b:Ql)(a:Int):Option Bool:=QdI (SizeOf.sizeOf b) b a
theorem Qsi (rec_expr_parts:Ql→Int→Option Bool)(hrec_expr_parts:∀(f:Ql) (e:Int) {r:Bool},rec_expr_parts f e=some r→Qd prog 194 [.agg (Qs f),.I e] [] (Qk (.b r) []))(f:Ql)(e:Int){r:Bool}(h:QlE rec_expr_parts f e=some r):Qd prog 194 [.agg (Qs f),.I e] [] (Qk (.b r) []):=by
 refine Qd.walk 43 func194 rfl rfl rfl fun C hC=>?_
 obtain⟨x,u,h⟩:=Qc h
 refine tg_ hC [.n 10,.K [2,3] [2,3]] rfl ?_
 refine AK.draw2 Qr hC mixed [.N,.N,.a (.ln f.Kids.length) none false,.N,.N,.a (.c false [.d] (.I x)) none false,.N,.N] [] [] [2,3,5] [2,3] rfl rfl rfl ⟨⟨tt_,Qi7 _⟩,(QuA _ u)⟩ rfl (by kernel_rfl) rfl rfl rfl ?_
 refine tg_ hC [.n 1] rfl ?_
 refine bg_ h (fun m h=>Qa hC [.T,.n 8,.K [4] []] rfl ⟨tt_,m⟩ ?_) fun m h=>Qa hC [.F,.n 1] rfl ⟨tt_,m⟩ ?_
 ·cases h
  exact d1_ rfl rfl tt_
 refine AK.meetX (fun σ=>σ=⟨[(2,.loc 2 0 0),(3,.loc 3 0 0),(13,.b ((f.Kind==2)&&((decide (f.Num<0))||(decide (e≤f.Num)))))],[(2,.var (Qs f)),(3,.var (Qb e))]⟩) ?_ ?_
 ·refine tg_ hC [.n 5] rfl ?_
  rcases QZ (f.Kind==2)with g | g
  ·refine Qa hC [.S 17 (.b true),.n 4] rfl (tc_ g) ?_
   rcases QZ (decide (f.Num<0))with i | i
   ·refine Qa hC [.S 21 (.b true),.n 8,.S 13 (.b ((f.Kind==2)&&((decide (f.Num<0))||(decide (e≤f.Num))))),.K [2,3,13] [2,3]] rfl ⟨(tc_ i),(congrArg V.b (QbZ g (orT i rfl)))⟩ ?_
    exact AK.met rfl
   refine Qa hC [.S 21 (.b false),.n 8,.S 13 (.b ((f.Kind==2)&&((decide (f.Num<0))||(decide (e≤f.Num))))),.K [2,3,13] [2,3]] rfl ⟨(tc_ i),(congrArg V.b (QbZ g (orF i rfl)))⟩ ?_
   exact AK.met rfl
  refine Qa hC [.S 17 (.b false),.n 12,.S 13 (.b ((f.Kind==2)&&((decide (f.Num<0))||(decide (e≤f.Num))))),.K [2,3,13] [2,3]] rfl ⟨(tc_ g),(congrArg V.b (QdE g rfl))⟩ ?_
  exact AK.met rfl
 rintro σ rfl
 refine tg_ hC [.n 1] rfl ?_
 refine bg_ h (fun j h=>Qa hC [.T,.n 8,.K [4] []] rfl ⟨tt_,j⟩ ?_) fun j h=>Qa hC [.F,.n 1] rfl ⟨tt_,j⟩ ?_
 ·cases h
  exact d1_ rfl rfl tt_
 obtain⟨p,q,h⟩:=Qc h
 replace h:Qii rec_expr_parts f e p=some r:=h
 refine AK.meetX (fun σ=>σ=⟨[(2,.loc 2 0 0),(3,.loc 3 0 0),(28,.b p)],[(2,.var (Qs f)),(3,.var (Qb e))]⟩) ?_ ?_
 ·replace h:=q
  refine tg_ hC [.n 5] rfl ?_
  rcases Qt h with⟨k,h⟩|⟨k,h⟩
  ·obtain⟨v,s,h⟩:=Qc h
   refine Qa hC [.S 32 (.b true),.n 2,.o (.c false [.d] (.b v)),.n 4,.K [2,3,28] [2,3]] rfl ⟨(tc_ k),(QtN _ s)⟩ ?_
   cases h
   exact AK.met rfl
  refine Qa hC [.S 32 (.b false),.n 7,.K [2,3,28] [2,3]] rfl (tc_ k) ?_
  cases h
  exact AK.met rfl
 rintro σ rfl
 replace h:Qii rec_expr_parts f e p=some r:=h
 refine tg_ hC [.n 1] rfl ?_
 rcases Qt h with⟨l,h⟩|⟨l,h⟩
 ·refine Qa hC [.T,.n 8] rfl ⟨tt_,l⟩ ?_
  cases h
  exact d1_ rfl rfl tt_
 obtain⟨w,t,h⟩:=Qc h
 refine Qa hC [.F,.n 8,.cm (.fn) [(609,3)] [(3,609)] [] [.d,.d] [(609,.var (Qb e))] (.b w),.n 5] rfl ⟨⟨tt_,l⟩,(QgI rec_expr_parts hrec_expr_parts _ _ t)⟩ ?_
 cases h
 exact d1_ rfl rfl tt_
theorem QmQ : ∀(fuel:Nat) (c:Ql) (a:Int) {r:Bool},QdI fuel c a=some r→Qd prog 194 [.agg (Qs c),.I a] [] (Qk (.b r) [])
 | 0,_,_,_,h=>by cases h
 | n+1,c,a,_,h=>Qsi (QdI n) (fun _ _ _ h=>QmQ n _ _ h) c a h
theorem QtO (c a){r}(h:Qn0 c a=some r):Qd prog 194 [.agg (Qs c),.I a] [] (Qk (.b r) []):=QmQ _ c a h
def QoJ (b:Ql)(a:Int):Option Bool:=
 (QnY b).bind fun d=>
 bif (decide (d≤40))then
 (Qo3 b).bind fun e=>
 bif (decide (e≤400))then
 (Qn0 b a).bind fun c=>
 some c
 else
 some false
 else
 some false
def Qld (a:Bool):Option Bool:=
 some a
def QiK (b:Ql)(a:Int):Option Bool:=
 (QoJ b a).bind (fun c=>Qld c)
theorem QoK (g a){r}(h:QiK g a=some r):Qd prog 131 [.agg (Qs g),.I a] [] (Qk (.b r) []):=by
 refine Qd.walk 18 func131 rfl rfl rfl fun C hC=>?_
 refine tg_ hC [.n 7] rfl ?_
 obtain⟨j,k,h⟩:=Qc h
 replace h:Qld j=some r:=h
 refine AK.meetX (fun σ=>σ=⟨[(4,.b j)],[]⟩) ?_ ?_
 ·replace h:=k
  obtain⟨q,l,h⟩:=Qc h
  refine Qa hC [.n 1,.v .no [] (.agg (Qs g)),.o (.c false [.d] (.I q)),.n 2] rfl ⟨⟨tt_,rfl⟩,(QtM _ l)⟩ ?_
  rcases Qt h with⟨e,h⟩|⟨e,h⟩
  ·obtain⟨s,m,h⟩:=Qc h
   refine Qa hC [.S 8 (.b true),.v .no [] (.agg (Qs g)),.o (.c false [.d] (.I s)),.n 3] rfl ⟨⟨(tc_ e),rfl⟩,(Quz _ m)⟩ ?_
   rcases Qt h with⟨f,h⟩|⟨f,h⟩
   ·obtain⟨p,i,h⟩:=Qc h
    refine Qa hC [.S 13 (.b true),.v .no [] (.agg (Qs g)),.n 1,.o (.c false [.d,.d] (.b p)),.n 3,.K [4] []] rfl ⟨⟨(tc_ f),rfl⟩,(QtO _ _ i)⟩ ?_
    cases h
    exact AK.met rfl
   refine Qa hC [.S 13 (.b false),.n 6,.K [4] []] rfl (tc_ f) ?_
   cases h
   exact AK.met rfl
  refine Qa hC [.S 8 (.b false),.n 11,.K [4] []] rfl (tc_ e) ?_
  cases h
  exact AK.met rfl
 rintro σ rfl
 replace h:Qld j=some r:=h
 refine tg_ hC [.n 2] rfl ?_
 cases h
 exact d1_ rfl rfl tt_
def QmR (a:Qw)(b:Int):Option Bool:=
 (QiK a.Guard b).bind fun c=>
 bif c then
 bif (decide (0<(a.Ins.length:Int)))then
 some (decide (0<(a.Outs.length:Int)))
 else
 some false
 else
 some false
def Qgr (a:Bool):Option Bool:=
 some a
def Qju (a:Qw)(b:Int):Option Bool:=
 (QmR a b).bind (fun c=>Qgr c)
theorem Qsj (a g){r}(h:Qju a g=some r):Qd prog 130 [.loc 609 0 0,.loc 610 0 0] [(609,.var (Qg a)),(610,.var (Qb g))] (Qk (.b r) [(609,.var (Qg a)),(610,.var (Qb g))]):=by
 refine Qd.walk 19 func130 rfl rfl rfl fun C hC=>?_
 refine tg_ hC [.n 6] rfl ?_
 obtain⟨i,j,h⟩:=Qc h
 replace h:Qgr i=some r:=h
 refine AK.meetX (fun σ=>σ=⟨[(2,.b i)],[(609,.var (Qg a)),(610,.var (Qb g))]⟩) ?_ ?_
 ·replace h:=j
  obtain⟨l,k,h⟩:=Qc h
  refine Qa hC [.n 2,.v .no [] (.agg (Qs a.Guard)),.n 1,.o (.c false [.d,.d] (.b l)),.n 1] rfl ⟨⟨tt_,rfl⟩,(QoK _ _ k)⟩ ?_
  refine bg_ h (fun e h=>Qa hC [.S 7 (.b true),.n 2,.o (.ln a.Ins.length),.n 3] rfl ⟨(tc_ e),Qi⟩ ?_) fun e h=>Qa hC [.S 7 (.b false),.n 13,.K [2] [609,610]] rfl (tc_ e) ?_
  ·refine bg_ h (fun f h=>Qa hC [.S 13 (.b true),.n 2,.o (.ln a.Outs.length),.n 4,.K [2] [609,610]] rfl ⟨(tc_ f),Qi⟩ ?_) fun f h=>Qa hC [.S 13 (.b false),.n 7,.K [2] [609,610]] rfl (tc_ f) ?_
   ·cases h
    exact AK.met rfl
   cases h
   exact AK.met rfl
  cases h
  exact AK.met rfl
 rintro σ rfl
 replace h:Qgr i=some r:=h
 refine tg_ hC [.n 2] rfl ?_
 cases h
 exact d1_ rfl rfl ⟨rfl,rfl,tt_⟩
def Qhg (a:Qm)(b:Q0):Option Bool:=
 (QaC a.Places b.Place).bind fun c=>
 some c
theorem QqD (a e){r}(h:Qhg a e=some r):Qd prog 197 [.loc 609 0 0,.loc 610 0 0] [(609,.var (Qe a)),(610,.var (Q1 e))] (Qk (.b r) [(609,.var (Qe a)),(610,.var (Q1 e))]):=by
 refine Qd.walk 8 func197 rfl rfl rfl fun C hC=>?_
 obtain⟨g,f,h⟩:=Qc h
 refine Qa hC [.n 11,.o (.c false [.d,.d] (.b g)),.n 4] rfl ⟨tt_,(QbM _ _ f)⟩ ?_
 cases h
 exact d1_ rfl rfl ⟨rfl,rfl,tt_⟩
def Qhh (a:Q0)(b:Int):Option Bool:=
 (QiK a.Expr b).bind fun c=>
 some c
theorem QqE (a e){r}(h:Qhh a e=some r):Qd prog 198 [.loc 609 0 0,.loc 610 0 0] [(609,.var (Q1 a)),(610,.var (Qb e))] (Qk (.b r) [(609,.var (Q1 a)),(610,.var (Qb e))]):=by
 refine Qd.walk 7 func198 rfl rfl rfl fun C hC=>?_
 obtain⟨g,f,h⟩:=Qc h
 refine Qa hC [.n 8,.v .no [] (.agg (Qs a.Expr)),.n 1,.o (.c false [.d,.d] (.b g)),.n 4] rfl ⟨⟨tt_,rfl⟩,(QoK _ _ f)⟩ ?_
 cases h
 exact d1_ rfl rfl ⟨rfl,rfl,tt_⟩
def Qhi (c:Qm)(b:Q0)(d:Int)(e:Int)(f:Int):Option Int:=
 (Qhg c b).bind fun g=>
 bif (!g)then
 some d
 else
 (Qhh b e).bind fun a=>
 bif (!a)then
 some f
 else
 some 0
theorem QqF (i e j k l){r}(h:Qhi i e j k l=some r):Qd prog 64 [.own 609 2] [(609,.var [.clo (.func 197) [] [.loc 610 0 0,.loc 611 0 0],.I j,.clo (.func 198) [] [.loc 611 0 0,.loc 612 0 0],.I l]),(610,.var (Qe i)),(611,.var (Q1 e)),(612,.var (Qb k))] (Qk (.I r) [(609,.var [.clo (.func 197) [] [.loc 610 0 0,.loc 611 0 0],.I j,.clo (.func 198) [] [.loc 611 0 0,.loc 612 0 0],.I l]),(610,.var (Qe i)),(611,.var (Q1 e)),(612,.var (Qb k))]):=by
 refine Qd.walk 18 func64 rfl rfl rfl fun C hC=>?_
 refine tg_ hC [.n 14] rfl ?_
 refine AK.loopN 3 (AK.rnd ?_)
 obtain⟨s,m,h⟩:=Qc h
 refine Qa hC [.n 2,.v .no [] (.b true),.n 10,.o (.any (.loc 609 0 0) none),.n 3,.O 4 (.var [.clo (.func 197) [] [.loc 610 0 0,.loc 611 0 0],.I j]),.n 6,.cm (.clo) [(609,610),(610,611)] [(610,609),(611,610)] [] [.d,.d] [(609,.var (Qe i)),(610,.var (Q1 e))] (.b s),.n 3] rfl ⟨⟨⟨⟨tt_,rfl⟩,(fun σ f p _=>Stp.idxV rfl rfl (QE hC.n rfl) (f _ _ rfl) (f _ _ rfl) (Qr.es rfl) (p _ _ rfl) (by decide))⟩,rfl⟩,(QqD _ _ m)⟩ ?_
 refine bg_ h (fun c h=>Qa hC [.T,.n 13,.K [2] [609,610,611,612]] rfl ⟨tt_,c⟩ ?_) fun c h=>Qa hC [.F,.n 4,.v .no [] (.I 1),.n 2] rfl ⟨⟨tt_,c⟩,rfl⟩ ?_
 ·cases h
  exact d1_ rfl rfl ⟨rfl,rfl,rfl,rfl,tt_⟩
 refine AK.met (AK.rnd ?_)
 obtain⟨q,g,h⟩:=Qc h
 refine Qa hC [.n 2,.v .no [] (.b true),.n 10,.o (.any (.loc 609 0 2) none),.n 1,.kill 4,.n 2,.O 4 (.var [.clo (.func 198) [] [.loc 611 0 0,.loc 612 0 0],.I l]),.n 6,.cm (.clo) [(609,611),(610,612)] [(611,609),(612,610)] [] [.d,.d] [(609,.var (Q1 e)),(610,.var (Qb k))] (.b q),.n 3] rfl ⟨⟨⟨⟨tt_,rfl⟩,(fun σ f p _=>Stp.idxV rfl rfl (QE hC.n rfl) (f _ _ rfl) (f _ _ rfl) (Qr.es rfl) (p _ _ rfl) (by decide))⟩,rfl⟩,(QqE _ _ g)⟩ ?_
 refine bg_ h (fun a h=>Qa hC [.T,.n 13,.K [2] [609,610,611,612]] rfl ⟨tt_,a⟩ ?_) fun a h=>Qa hC [.F,.n 4,.v .no [] (.I 2),.n 2] rfl ⟨⟨tt_,a⟩,rfl⟩ ?_
 ·cases h
  exact d1_ rfl rfl ⟨rfl,rfl,rfl,rfl,tt_⟩
 refine AK.met (AK.rnd ?_)
 refine Qa hC [.n 2,.v .no [] (.b false),.n 15] rfl ⟨tt_,rfl⟩ ?_
 cases h
 exact d1_ rfl rfl ⟨rfl,rfl,rfl,rfl,tt_⟩
def Qjv (e:Int)(a:Q0)(b:Qm)(c:Int):Option Int:=
 (Qhi b a 3 c 1).bind fun d=>
 some d
theorem Qsk (f c a b){r}(h:Qjv f c a b=some r):Qd prog 196 [.I f,.agg (Q1 c),.loc 609 0 0,.loc 610 0 0] [(609,.var (Qe a)),(610,.var (Qb b))] (Qk (.I r) [(609,.var (Qe a)),(610,.var (Qb b))]):=by
 refine Qd.walk 13 func196 rfl rfl rfl fun C hC=>?_
 obtain⟨g,e,h⟩:=Qc h
 refine Qa hC [.n 9,.v .no [] (.agg [.clo (.func 197) [] [.loc 609 0 0,.loc 5 0 0],.I 3]),.n 1,.v .no [] (.agg [.clo (.func 198) [] [.loc 5 0 0,.loc 610 0 0],.I 1]),.o (.any (.own 11 2) (some (.var [.clo (.func 197) [] [.loc 609 0 0,.loc 5 0 0],.I 3,.clo (.func 198) [] [.loc 5 0 0,.loc 610 0 0],.I 1]))),.cm (.fn) [(609,11),(610,609),(611,5),(612,610)] [(11,609),(609,610),(5,611),(610,612)] [] [.d] [(609,.var [.clo (.func 197) [] [.loc 610 0 0,.loc 611 0 0],.I 3,.clo (.func 198) [] [.loc 611 0 0,.loc 612 0 0],.I 1]),(610,.var (Qe a)),(611,.var (Q1 c)),(612,.var (Qb b))] (.I g),.n 4] rfl ⟨⟨⟨⟨tt_,rfl⟩,rfl⟩,(fun σ i j hf=>Stp.buildAny rfl rfl (QE hC.n rfl) (Qr.es rfl) Ql4 rfl (by decide) (by decide) (QeN i rfl) rfl rfl (hf rfl))⟩,(QqF _ _ _ _ _ e)⟩ ?_
 cases h
 exact d1_ rfl rfl ⟨rfl,rfl,tt_⟩
def Qdw (d:(List Q0))(e:Qm)(f:Int)(a:Int):Option (Int⊕((Int×Int)⊕Unit)):=
 bif (decide (a<(d.length:Int)))then
 (idx d a).bind fun c=>
 (Qjv a c e f).bind fun b=>
 bif (b != 0)then
 some (.inr (.inl (a,b)))
 else
 some (.inl (w64 (a+1)))
 else
 some (.inr (.inr ()))
def Qdx (a:Int)(b:Int):Option (Int×Int):=
 some (a,b)
def Qdy : Option (Int×Int):=
 some (0,0)
def QeF (a:(List Q0))(b:Qm)(c:Int):Option (Int×Int):=
 (Qq (fun st=>Qdw a b c st) 0).bind (Sum.elim (fun q=>Qdx q.1 q.2) (fun q=>Qdy))
theorem Qoi (i f g){r}(h:QeF i f g=some r):Qd prog 195 [.sl 4 (i.map Q1),.clo (.func 196) [] [.loc 609 0 0,.loc 610 0 0]] [(609,.var (Qe f)),(610,.var (Qb g))] (Qk (.tup [.I r.1,.I r.2]) [(609,.var (Qe f)),(610,.var (Qb g))]):=by
 refine Qd.walk 25 func195 rfl rfl rfl fun C hC=>?_
 refine Qa hC [.n 10,.o (.ln i.length),.n 4,.K [1,9,10,11] [609,610]] rfl ⟨tt_,Qi⟩ ?_
 obtain⟨m,j,h⟩:=Qc h
 refine AK.loop (body:=(fun st=>Qdw i f g st)) (fun st σ=>σ=⟨[(1,.clo (.func 196) [] [.loc 609 0 0,.loc 610 0 0]),(9,.sl 4 (i.map Q1)),(10,.I (i.length:Int)),(11,.I st)],[(609,.var (Qe f)),(610,.var (Qb g))]⟩) (Sum.elim (fun q e σ=>e=.ret∧σ=⟨[(4,.I q.1),(5,.I q.2)],[(609,.var (Qe f)),(610,.var (Qb g))]⟩) (fun q e σ=>e=.exit 0∧σ=⟨[],[(609,.var (Qe f)),(610,.var (Qb g))]⟩)) j rfl ?_ ?_
 ·rintro u o σ rfl h
  refine tg_ hC [.n 6] rfl ?_
  rcases Qt h with⟨a,h⟩|⟨a,h⟩
  ·obtain⟨c,k,h⟩:=Qc h
   obtain⟨p,l,h⟩:=Qc h
   refine Qa hC [.T,.n 7,.o (.row (Q1 c)),.v .no [] (.agg (Q1 c)),.n 3,.O 7 (.var (Q1 c)),.n 6,.v .no [] (.agg (Q1 c)),.cm (.clo) [(609,609),(610,610)] [(609,609),(610,610)] [] [.d,.d,.d,.d] [(609,.var (Qe f)),(610,.var (Qb g))] (.I p),.n 9] rfl ⟨⟨⟨⟨⟨⟨tt_,a⟩,(QG k)⟩,rfl⟩,rfl⟩,rfl⟩,(Qsk _ _ _ _ l)⟩ ?_
   refine bg_ h (fun b h=>Qa hC [.T,.n 11,.K [4,5] [609,610]] rfl ⟨tt_,b⟩ ?_) fun b h=>Qa hC [.F,.n 7,.K [1,9,10,11] [609,610]] rfl ⟨tt_,b⟩ ?_
   ·cases h
    exact Qbs rfl (an_ rfl rfl)
   cases h
   exact QI rfl rfl
  refine Qa hC [.F,.n 2,.K [] [609,610]] rfl ⟨tt_,a⟩ ?_
  cases h
  exact QJ rfl (an_ rfl rfl)
 rcases m with(⟨s,t⟩|_)
 ·replace h:Qdx s t=some r:=h
  rintro e σ ⟨rfl,rfl⟩
  refine tg_ hC [.n 2] rfl ?_
  cases h
  exact d2_ rfl rfl rfl ⟨rfl,rfl,tt_⟩
 replace h:Qdy=some r:=h
 rintro e σ ⟨rfl,rfl⟩
 refine tg_ hC [.n 9] rfl ?_
 cases h
 exact d2_ rfl rfl rfl ⟨rfl,rfl,tt_⟩
def QiL (b:Qm)(c:(List Q0))(a:Int):Option Int:=
 (QeF c b a).bind fun d=>
 some d.2
theorem QoL (b e a){r}(h:QiL b e a=some r):Qd prog 133 [.agg (Qe b),.sl 4 (e.map Q1),.I a] [] (Qk (.I r) []):=by
 refine Qd.walk 16 func133 rfl rfl rfl fun C hC=>?_
 obtain⟨f,c,h⟩:=Qc h
 refine Qa hC [.n 11,.cm (.fn) [(609,3),(610,5)] [(3,609),(5,610)] [] [.d,.d] [(609,.var (Qe b)),(610,.var (Qb a))] (.tup [.I f.1,.I f.2]),.n 14] rfl ⟨tt_,(Qoi _ _ _ c)⟩ ?_
 cases h
 exact d1_ rfl rfl tt_
def Qjw (a:Qm)(b:Qw)(c:Int):Option Int:=
 (QiL a b.Ins c).bind fun d=>
 some d
theorem Qsl (a b e){r}(h:Qjw a b e=some r):Qd prog 132 [.loc 609 0 0,.loc 610 0 0,.loc 611 0 0] [(609,.var (Qe a)),(610,.var (Qg b)),(611,.var (Qb e))] (Qk (.I r) [(609,.var (Qe a)),(610,.var (Qg b)),(611,.var (Qb e))]):=by
 refine Qd.walk 9 func132 rfl rfl rfl fun C hC=>?_
 obtain⟨g,f,h⟩:=Qc h
 refine Qa hC [.n 7,.v .no [] (.agg (Qe a)),.n 3,.o (.c false [.d,.d,.d] (.I g)),.n 4] rfl ⟨⟨tt_,rfl⟩,(QoL _ _ _ f)⟩ ?_
 cases h
 exact d1_ rfl rfl ⟨rfl,rfl,rfl,tt_⟩
def QfL (b:Qm)(c:Qw)(d:Int)(e:Int):Option (Bool×Int):=
 (Qjw b c d).bind fun a=>
 some ((a==0),a)
theorem Qpw (c e f j){r}(h:QfL c e f j=some r):Qd prog 184 [.loc 609 0 0,.loc 613 0 0] [(609,.var [.clo (.func 132) [] [.loc 610 0 0,.loc 611 0 0,.loc 612 0 0]]),(610,.var (Qe c)),(611,.var (Qg e)),(612,.var (Qb f)),(613,.var [.loc 614 0 0]),(614,.var (Qb j))] (Qk (.b r.1) [(609,.var [.clo (.func 132) [] [.loc 610 0 0,.loc 611 0 0,.loc 612 0 0]]),(610,.var (Qe c)),(611,.var (Qg e)),(612,.var (Qb f)),(613,.var [.loc 614 0 0]),(614,.var (Qb r.2))]):=by
 refine Qd.walk 11 func184 rfl rfl rfl fun C hC=>?_
 obtain⟨g,i,h⟩:=Qc h
 refine tg_ hC [.n 6,.K [0,1] [609,610,611,612,613,614]] rfl ?_
 refine AK.draw2 Qr hC mixed [.N,.N,.a (.any (.I g) none) none false,.N,.m .s] [] [] [1] [609,610,611,612,613,614] rfl rfl rfl ⟨tt_,(fun σ k l _=>Stp.callSame (md:=.cm (.clo) [(609,610),(610,611),(611,612)] [(610,609),(611,610),(612,611)] [] [.d,.d,.d] [(609,.var (Qe c)),(610,.var (Qg e)),(611,.var (Qb f))] (.I g) [610,611,612]) Qr hC k l rfl ⟨⟨tt_,(Qsl _ _ _ i)⟩,⟨rfl,rfl,rfl,tt_⟩⟩)⟩ rfl (by kernel_rfl) rfl rfl rfl ?_
 refine Qa hC [.O 614 (.var (Qb g)),.n 11] rfl ⟨tt_,rfl⟩ ?_
 cases h
 exact d1_ rfl rfl ⟨rfl,rfl,rfl,rfl,rfl,rfl,tt_⟩
def Qjx (a:Qm)(b:Qw)(c:Int):Option Int:=
 (QiL a b.Outs c).bind fun d=>
 some d
theorem Qsm (a b e){r}(h:Qjx a b e=some r):Qd prog 134 [.loc 609 0 0,.loc 610 0 0,.loc 611 0 0] [(609,.var (Qe a)),(610,.var (Qg b)),(611,.var (Qb e))] (Qk (.I r) [(609,.var (Qe a)),(610,.var (Qg b)),(611,.var (Qb e))]):=by
 refine Qd.walk 9 func134 rfl rfl rfl fun C hC=>?_
 obtain⟨g,f,h⟩:=Qc h
 refine Qa hC [.n 7,.v .no [] (.agg (Qe a)),.n 3,.o (.c false [.d,.d,.d] (.I g)),.n 4] rfl ⟨⟨tt_,rfl⟩,(QoL _ _ _ f)⟩ ?_
 cases h
 exact d1_ rfl rfl ⟨rfl,rfl,rfl,tt_⟩
def QfM (b:Qm)(c:Qw)(d:Int)(e:Int):Option (Bool×Int):=
 (Qjx b c d).bind fun a=>
 some ((a==0),a)
theorem Qpx (c e f j){r}(h:QfM c e f j=some r):Qd prog 184 [.loc 609 0 0,.loc 613 0 0] [(609,.var [.clo (.func 134) [] [.loc 610 0 0,.loc 611 0 0,.loc 612 0 0]]),(610,.var (Qe c)),(611,.var (Qg e)),(612,.var (Qb f)),(613,.var [.loc 614 0 0]),(614,.var (Qb j))] (Qk (.b r.1) [(609,.var [.clo (.func 134) [] [.loc 610 0 0,.loc 611 0 0,.loc 612 0 0]]),(610,.var (Qe c)),(611,.var (Qg e)),(612,.var (Qb f)),(613,.var [.loc 614 0 0]),(614,.var (Qb r.2))]):=by
 refine Qd.walk 11 func184 rfl rfl rfl fun C hC=>?_
 obtain⟨g,i,h⟩:=Qc h
 refine tg_ hC [.n 6,.K [0,1] [609,610,611,612,613,614]] rfl ?_
 refine AK.draw2 Qr hC mixed [.N,.N,.a (.any (.I g) none) none false,.N,.m .s] [] [] [1] [609,610,611,612,613,614] rfl rfl rfl ⟨tt_,(fun σ k l _=>Stp.callSame (md:=.cm (.clo) [(609,610),(610,611),(611,612)] [(610,609),(611,610),(612,611)] [] [.d,.d,.d] [(609,.var (Qe c)),(610,.var (Qg e)),(611,.var (Qb f))] (.I g) [610,611,612]) Qr hC k l rfl ⟨⟨tt_,(Qsm _ _ _ i)⟩,⟨rfl,rfl,rfl,tt_⟩⟩)⟩ rfl (by kernel_rfl) rfl rfl rfl ?_
 refine Qa hC [.O 614 (.var (Qb g)),.n 11] rfl ⟨tt_,rfl⟩ ?_
 cases h
 exact d1_ rfl rfl ⟨rfl,rfl,rfl,rfl,rfl,rfl,tt_⟩
def Qfm (a:Qm)(b:Int):Option Bool:=
 (QaC a.Places b).bind fun c=>
 some c
theorem Qo4 (a e){r}(h:Qfm a e=some r):Qd prog 201 [.loc 609 0 0,.loc 610 0 0] [(609,.var (Qe a)),(610,.var (Qb e))] (Qk (.b r) [(609,.var (Qe a)),(610,.var (Qb e))]):=by
 refine Qd.walk 7 func201 rfl rfl rfl fun C hC=>?_
 obtain⟨g,f,h⟩:=Qc h
 refine Qa hC [.n 10,.o (.c false [.d,.d] (.b g)),.n 4] rfl ⟨tt_,(QbM _ _ f)⟩ ?_
 cases h
 exact d1_ rfl rfl ⟨rfl,rfl,tt_⟩
def QcX (b:(List Int))(c:Int)(a:Int):Option (Int⊕(Int⊕Unit)):=
 bif (decide (a<(b.length:Int)))then
 (idx b a).bind fun d=>
 bif (c==d)then
 some (.inr (.inl a))
 else
 some (.inl (w64 (a+1)))
 else
 some (.inr (.inr ()))
def QcY (a:Int):Option Int:=
 some a
def QcZ : Option Int:=
 some (-1)
def QdP (a:(List Int))(b:Int):Option Int:=
 (Qq (fun st=>QcX a b st) 0).bind (Sum.elim (fun q=>QcY q) (fun q=>QcZ))
theorem Qnd (c f){r}(h:QdP c f=some r):Qd prog 232 [.sl 1 (c.map Qb),.I f] [] (Qk (.I r) []):=by
 refine Qd.walk 19 func232 rfl rfl rfl fun C hC=>?_
 refine Qa hC [.n 9,.o (.ln c.length),.n 4,.K [0,1,7,8] []] rfl ⟨tt_,Qi⟩ ?_
 obtain⟨g,d,h⟩:=Qc h
 refine AK.loop (body:=(fun st=>QcX c f st)) (fun st σ=>σ=⟨[(0,.sl 1 (c.map Qb)),(1,.I f),(7,.I (c.length:Int)),(8,.I st)],[]⟩) (Sum.elim (fun q e σ=>e=.ret∧σ=⟨[(4,.I q)],[]⟩) (fun q e σ=>e=.exit 0∧σ=⟨[],[]⟩)) d rfl ?_ ?_
 ·rintro l o σ rfl h
  refine tg_ hC [.n 6] rfl ?_
  rcases Qt h with⟨b,h⟩|⟨b,h⟩
  ·obtain⟨j,i,h⟩:=Qc h
   refine Qa hC [.T,.n 15,.o (.row (Qb j)),.n 4] rfl ⟨⟨tt_,b⟩,(QG i)⟩ ?_
   refine bg_ h (fun a h=>Qa hC [.T,.n 9,.K [4] []] rfl ⟨tt_,a⟩ ?_) fun a h=>Qa hC [.F,.n 7,.K [0,1,7,8] []] rfl ⟨tt_,a⟩ ?_
   ·cases h
    exact Qbs rfl (an_ rfl rfl)
   cases h
   exact QI rfl rfl
  refine Qa hC [.F,.n 2,.K [] []] rfl ⟨tt_,b⟩ ?_
  cases h
  exact QJ rfl (an_ rfl rfl)
 rcases g with(k | _)
 ·replace h:QcY k=some r:=h
  rintro e σ ⟨rfl,rfl⟩
  refine tg_ hC [.n 2] rfl ?_
  cases h
  exact d1_ rfl rfl tt_
 replace h:QcZ=some r:=h
 rintro e σ ⟨rfl,rfl⟩
 refine tg_ hC [.n 8] rfl ?_
 cases h
 exact d1_ rfl rfl tt_
def Qc0 (a:(List Int))(b:Int):Option Bool:=
 (QdP a b).bind fun c=>
 some (decide (0≤c))
theorem QlF (e f){r}(h:Qc0 e f=some r):Qd prog 203 [.sl 1 (e.map Qb),.I f] [] (Qk (.b r) []):=by
 refine Qd.walk 9 func203 rfl rfl rfl fun C hC=>?_
 obtain⟨g,a,h⟩:=Qc h
 refine Qa hC [.n 9,.o (.c false [.d,.d] (.I g)),.n 5] rfl ⟨tt_,(Qnd _ _ a)⟩ ?_
 cases h
 exact d1_ rfl rfl tt_
def Qfn (b:(List Int))(a:Int)(c:Int):Option Bool:=
 (chk (decide (0≤a)&&decide (0≤a.toNat)&&decide (a.toNat≤b.length))).bind fun _=>
 (Qc0 ((b.drop 0).take (a.toNat-0)) c).bind fun d=>
 some (!d)
theorem Qo5 (f g i){r}(h:Qfn f g i=some r):Qd prog 202 [.loc 609 0 0,.loc 610 0 0,.loc 611 0 0] [(609,.var (Qf f)),(610,.var (Qb g)),(611,.var (Qb i))] (Qk (.b r) [(609,.var (Qf f)),(610,.var (Qb g)),(611,.var (Qb i))]):=by
 refine Qd.walk 10 func202 rfl rfl rfl fun C hC=>?_
 obtain⟨e,h⟩:=Qap h
 obtain⟨l,j,h⟩:=Qc h
 refine tg_ hC [.n 6,.K [0,1,2,3] [609,610,611]] rfl ?_
 refine AK.draw2 Qr hC mixed [.N,.N,.a (.any (.sl 1 (((f.drop 0).take (g.toNat-0)).map Qb)) none) none false,.N,.a (.c false [.d,.d] (.b l)) none false,.N,.m .s] [] [] [3] [609,610,611] rfl rfl rfl ⟨⟨tt_,(fun σ k o _=>Stp.sliceD rfl rfl (QE hC.n rfl) (k _ _ rfl) (Qr.es rfl) Bnd.no (Bnd.val (k _ _ rfl) (Qab (Qq4 e)) rfl) (Qab (Qq5 e)) (QU (Qab (Qq6 e)) (Nat.le_of_eq Qi.symm)) QtG)⟩,(QlF _ _ j)⟩ rfl (by kernel_rfl) rfl rfl rfl ?_
 refine tg_ hC [.n 2] rfl ?_
 cases h
 exact d1_ rfl rfl ⟨rfl,rfl,rfl,tt_⟩
def Qhj (c:Qm)(b:Int)(d:Int)(e:(List Int))(f:Int)(g:Int):Option Int:=
 (Qfm c b).bind fun h=>
 bif (!h)then
 some d
 else
 (Qfn e f b).bind fun a=>
 bif (!a)then
 some g
 else
 some 0
theorem QqG (i e j k l m){r}(h:Qhj i e j k l m=some r):Qd prog 64 [.own 609 2] [(609,.var [.clo (.func 201) [] [.loc 610 0 0,.loc 611 0 0],.I j,.clo (.func 202) [] [.loc 612 0 0,.loc 613 0 0,.loc 611 0 0],.I m]),(610,.var (Qe i)),(611,.var (Qb e)),(612,.var (Qf k)),(613,.var (Qb l))] (Qk (.I r) [(609,.var [.clo (.func 201) [] [.loc 610 0 0,.loc 611 0 0],.I j,.clo (.func 202) [] [.loc 612 0 0,.loc 613 0 0,.loc 611 0 0],.I m]),(610,.var (Qe i)),(611,.var (Qb e)),(612,.var (Qf k)),(613,.var (Qb l))]):=by
 refine Qd.walk 18 func64 rfl rfl rfl fun C hC=>?_
 refine tg_ hC [.n 14] rfl ?_
 refine AK.loopN 3 (AK.rnd ?_)
 obtain⟨t,p,h⟩:=Qc h
 refine Qa hC [.n 2,.v .no [] (.b true),.n 10,.o (.any (.loc 609 0 0) none),.n 3,.O 4 (.var [.clo (.func 201) [] [.loc 610 0 0,.loc 611 0 0],.I j]),.n 6,.cm (.clo) [(609,610),(610,611)] [(610,609),(611,610)] [] [.d,.d] [(609,.var (Qe i)),(610,.var (Qb e))] (.b t),.n 3] rfl ⟨⟨⟨⟨tt_,rfl⟩,(fun σ f q _=>Stp.idxV rfl rfl (QE hC.n rfl) (f _ _ rfl) (f _ _ rfl) (Qr.es rfl) (q _ _ rfl) (by decide))⟩,rfl⟩,(Qo4 _ _ p)⟩ ?_
 refine bg_ h (fun a h=>Qa hC [.T,.n 13,.K [2] [609,610,611,612,613]] rfl ⟨tt_,a⟩ ?_) fun a h=>Qa hC [.F,.n 4,.v .no [] (.I 1),.n 2] rfl ⟨⟨tt_,a⟩,rfl⟩ ?_
 ·cases h
  exact d1_ rfl rfl ⟨rfl,rfl,rfl,rfl,rfl,tt_⟩
 refine AK.met (AK.rnd ?_)
 obtain⟨s,g,h⟩:=Qc h
 refine Qa hC [.n 2,.v .no [] (.b true),.n 10,.o (.any (.loc 609 0 2) none),.n 1,.kill 4,.n 2,.O 4 (.var [.clo (.func 202) [] [.loc 612 0 0,.loc 613 0 0,.loc 611 0 0],.I m]),.n 6,.cm (.clo) [(609,612),(610,613),(611,611)] [(612,609),(613,610),(611,611)] [] [.d,.d,.d] [(609,.var (Qf k)),(610,.var (Qb l)),(611,.var (Qb e))] (.b s),.n 3] rfl ⟨⟨⟨⟨tt_,rfl⟩,(fun σ f q _=>Stp.idxV rfl rfl (QE hC.n rfl) (f _ _ rfl) (f _ _ rfl) (Qr.es rfl) (q _ _ rfl) (by decide))⟩,rfl⟩,(Qo5 _ _ _ g)⟩ ?_
 refine bg_ h (fun c h=>Qa hC [.T,.n 13,.K [2] [609,610,611,612,613]] rfl ⟨tt_,c⟩ ?_) fun c h=>Qa hC [.F,.n 4,.v .no [] (.I 2),.n 2] rfl ⟨⟨tt_,c⟩,rfl⟩ ?_
 ·cases h
  exact d1_ rfl rfl ⟨rfl,rfl,rfl,rfl,rfl,tt_⟩
 refine AK.met (AK.rnd ?_)
 refine Qa hC [.n 2,.v .no [] (.b false),.n 15] rfl ⟨tt_,rfl⟩ ?_
 cases h
 exact d1_ rfl rfl ⟨rfl,rfl,rfl,rfl,rfl,tt_⟩
def Qgs (b:Int)(a:Int)(c:Qm)(d:(List Int)):Option Int:=
 (Qhj c a 3 d b 5).bind fun e=>
 some e
theorem Qqi (e a b c){r}(h:Qgs e a b c=some r):Qd prog 200 [.I e,.I a,.loc 609 0 0,.loc 610 0 0] [(609,.var (Qe b)),(610,.var (Qf c))] (Qk (.I r) [(609,.var (Qe b)),(610,.var (Qf c))]):=by
 refine Qd.walk 13 func200 rfl rfl rfl fun C hC=>?_
 obtain⟨g,f,h⟩:=Qc h
 refine Qa hC [.n 10,.v .no [] (.agg [.clo (.func 201) [] [.loc 609 0 0,.loc 5 0 0],.I 3]),.n 1,.v .no [] (.agg [.clo (.func 202) [] [.loc 610 0 0,.loc 4 0 0,.loc 5 0 0],.I 5]),.o (.any (.own 11 2) (some (.var [.clo (.func 201) [] [.loc 609 0 0,.loc 5 0 0],.I 3,.clo (.func 202) [] [.loc 610 0 0,.loc 4 0 0,.loc 5 0 0],.I 5]))),.cm (.fn) [(609,11),(610,609),(611,5),(612,610),(613,4)] [(11,609),(609,610),(5,611),(610,612),(4,613)] [] [.d] [(609,.var [.clo (.func 201) [] [.loc 610 0 0,.loc 611 0 0],.I 3,.clo (.func 202) [] [.loc 612 0 0,.loc 613 0 0,.loc 611 0 0],.I 5]),(610,.var (Qe b)),(611,.var (Qb a)),(612,.var (Qf c)),(613,.var (Qb e))] (.I g),.n 4] rfl ⟨⟨⟨⟨tt_,rfl⟩,rfl⟩,(fun σ i j hf=>Stp.buildAny rfl rfl (QE hC.n rfl) (Qr.es rfl) Ql4 rfl (by decide) (by decide) (QeN i rfl) rfl rfl (hf rfl))⟩,(QqG _ _ _ _ _ _ f)⟩ ?_
 cases h
 exact d1_ rfl rfl ⟨rfl,rfl,tt_⟩
def Qfo (d:(List Int))(e:Qm)(f:(List Int))(a:Int):Option (Int⊕((Int×Int)⊕Unit)):=
 bif (decide (a<(d.length:Int)))then
 (idx d a).bind fun c=>
 (Qgs a c e f).bind fun b=>
 bif (b != 0)then
 some (.inr (.inl (a,b)))
 else
 some (.inl (w64 (a+1)))
 else
 some (.inr (.inr ()))
def Qfp (a:Int)(b:Int):Option (Int×Int):=
 some (a,b)
def Qfq : Option (Int×Int):=
 some (0,0)
def Qhk (a:(List Int))(b:Qm)(c:(List Int)):Option (Int×Int):=
 (Qq (fun st=>Qfo a b c st) 0).bind (Sum.elim (fun q=>Qfp q.1 q.2) (fun q=>Qfq))
theorem QqH (g c f){r}(h:Qhk g c f=some r):Qd prog 199 [.sl 1 (g.map Qb),.clo (.func 200) [] [.loc 609 0 0,.loc 610 0 0]] [(609,.var (Qe c)),(610,.var (Qf f))] (Qk (.tup [.I r.1,.I r.2]) [(609,.var (Qe c)),(610,.var (Qf f))]):=by
 refine Qd.walk 25 func199 rfl rfl rfl fun C hC=>?_
 refine Qa hC [.n 10,.o (.ln g.length),.n 4,.K [1,9,10,11] [609,610]] rfl ⟨tt_,Qi⟩ ?_
 obtain⟨l,i,h⟩:=Qc h
 refine AK.loop (body:=(fun st=>Qfo g c f st)) (fun st σ=>σ=⟨[(1,.clo (.func 200) [] [.loc 609 0 0,.loc 610 0 0]),(9,.sl 1 (g.map Qb)),(10,.I (g.length:Int)),(11,.I st)],[(609,.var (Qe c)),(610,.var (Qf f))]⟩) (Sum.elim (fun q e σ=>e=.ret∧σ=⟨[(4,.I q.1),(5,.I q.2)],[(609,.var (Qe c)),(610,.var (Qf f))]⟩) (fun q e σ=>e=.exit 0∧σ=⟨[],[(609,.var (Qe c)),(610,.var (Qf f))]⟩)) i rfl ?_ ?_
 ·rintro u o σ rfl h
  refine tg_ hC [.n 6] rfl ?_
  rcases Qt h with⟨a,h⟩|⟨a,h⟩
  ·obtain⟨m,j,h⟩:=Qc h
   obtain⟨p,k,h⟩:=Qc h
   refine Qa hC [.T,.n 7,.o (.row (Qb m)),.n 10,.cm (.clo) [(609,609),(610,610)] [(609,609),(610,610)] [] [.d,.d,.d,.d] [(609,.var (Qe c)),(610,.var (Qf f))] (.I p),.n 9] rfl ⟨⟨⟨tt_,a⟩,(QG j)⟩,(Qqi _ _ _ _ k)⟩ ?_
   refine bg_ h (fun b h=>Qa hC [.T,.n 11,.K [4,5] [609,610]] rfl ⟨tt_,b⟩ ?_) fun b h=>Qa hC [.F,.n 7,.K [1,9,10,11] [609,610]] rfl ⟨tt_,b⟩ ?_
   ·cases h
    exact Qbs rfl (an_ rfl rfl)
   cases h
   exact QI rfl rfl
  refine Qa hC [.F,.n 2,.K [] [609,610]] rfl ⟨tt_,a⟩ ?_
  cases h
  exact QJ rfl (an_ rfl rfl)
 rcases l with(⟨s,t⟩|_)
 ·replace h:Qfp s t=some r:=h
  rintro e σ ⟨rfl,rfl⟩
  refine tg_ hC [.n 2] rfl ?_
  cases h
  exact d2_ rfl rfl rfl ⟨rfl,rfl,tt_⟩
 replace h:Qfq=some r:=h
 rintro e σ ⟨rfl,rfl⟩
 refine tg_ hC [.n 9] rfl ?_
 cases h
 exact d2_ rfl rfl rfl ⟨rfl,rfl,tt_⟩
def Qij (b:Qm)(a:(List Int)):Option Int:=
 (Qhk a b a).bind fun c=>
 some c.2
theorem Qrn (a b){r}(h:Qij a b=some r):Qd prog 136 [.agg (Qe a),.sl 1 (b.map Qb)] [] (Qk (.I r) []):=by
 refine Qd.walk 14 func136 rfl rfl rfl fun C hC=>?_
 obtain⟨e,c,h⟩:=Qc h
 refine Qa hC [.n 11,.cm (.fn) [(609,2),(610,3)] [(2,609),(3,610)] [] [.d,.d] [(609,.var (Qe a)),(610,.var (Qf b))] (.tup [.I e.1,.I e.2]),.n 14] rfl ⟨tt_,(QqH _ _ _ c)⟩ ?_
 cases h
 exact d1_ rfl rfl tt_
def Qik (a:Qm)(b:Qw):Option Int:=
 (Qij a b.Cancel).bind fun c=>
 some c
theorem Qro (a b){r}(h:Qik a b=some r):Qd prog 135 [.loc 609 0 0,.loc 610 0 0] [(609,.var (Qe a)),(610,.var (Qg b))] (Qk (.I r) [(609,.var (Qe a)),(610,.var (Qg b))]):=by
 refine Qd.walk 7 func135 rfl rfl rfl fun C hC=>?_
 obtain⟨f,e,h⟩:=Qc h
 refine Qa hC [.n 7,.v .no [] (.agg (Qe a)),.n 2,.o (.c false [.d,.d] (.I f)),.n 4] rfl ⟨⟨tt_,rfl⟩,(Qrn _ _ e)⟩ ?_
 cases h
 exact d1_ rfl rfl ⟨rfl,rfl,tt_⟩
def QfN (b:Qm)(c:Qw)(d:Int):Option (Bool×Int):=
 (Qik b c).bind fun a=>
 some ((a==0),a)
theorem Qpy (c e i){r}(h:QfN c e i=some r):Qd prog 184 [.loc 609 0 0,.loc 612 0 0] [(609,.var [.clo (.func 135) [] [.loc 610 0 0,.loc 611 0 0]]),(610,.var (Qe c)),(611,.var (Qg e)),(612,.var [.loc 613 0 0]),(613,.var (Qb i))] (Qk (.b r.1) [(609,.var [.clo (.func 135) [] [.loc 610 0 0,.loc 611 0 0]]),(610,.var (Qe c)),(611,.var (Qg e)),(612,.var [.loc 613 0 0]),(613,.var (Qb r.2))]):=by
 refine Qd.walk 11 func184 rfl rfl rfl fun C hC=>?_
 obtain⟨f,g,h⟩:=Qc h
 refine tg_ hC [.n 6,.K [0,1] [609,610,611,612,613]] rfl ?_
 refine AK.draw2 Qr hC mixed [.N,.N,.a (.any (.I f) none) none false,.N,.m .s] [] [] [1] [609,610,611,612,613] rfl rfl rfl ⟨tt_,(fun σ j k _=>Stp.callSame (md:=.cm (.clo) [(609,610),(610,611)] [(610,609),(611,610)] [] [.d,.d] [(609,.var (Qe c)),(610,.var (Qg e))] (.I f) [610,611]) Qr hC j k rfl ⟨⟨tt_,(Qro _ _ g)⟩,⟨rfl,rfl,tt_⟩⟩)⟩ rfl (by kernel_rfl) rfl rfl rfl ?_
 refine Qa hC [.O 613 (.var (Qb f)),.n 11] rfl ⟨tt_,rfl⟩ ?_
 cases h
 exact d1_ rfl rfl ⟨rfl,rfl,rfl,rfl,rfl,tt_⟩
def Qeh (a:Int)(b:(List Q0)):Option Bool:=
 some ((decide (1≤a))&&((decide (a≤3))&&((a != 3)||(decide ((b.length:Int)≤4)))))
theorem Qmb (a f){r}(h:Qeh a f=some r):Qd prog 204 [.I a,.sl 4 (f.map Q1)] [] (Qk (.b r) []):=by
 refine Qd.walk 20 func204 rfl rfl rfl fun C hC=>?_
 unfold Qeh at h
 refine tg_ hC [.n 6] rfl ?_
 refine AK.meetX (fun σ=>σ=⟨[(4,.b ((decide (1≤a))&&((decide (a≤3))&&((a != 3)||(decide ((f.length:Int)≤4))))))],[]⟩) ?_ ?_
 ·refine tg_ hC [.n 4] rfl ?_
  rcases QZ (decide (1≤a))with c | c
  ·refine Qa hC [.S 7 (.b true),.n 4] rfl (tc_ c) ?_
   rcases QZ (decide (a≤3))with d | d
   ·refine Qa hC [.S 11 (.b true),.n 3] rfl (tc_ d) ?_
    rcases QZ (a != 3)with e | e
    ·refine Qa hC [.S 14 (.b true),.n 7,.S 4 (.b ((decide (1≤a))&&((decide (a≤3))&&((a != 3)||(decide ((f.length:Int)≤4)))))),.K [4] []] rfl ⟨(tc_ e),(congrArg V.b (QbZ c (QbZ d (orT e rfl))))⟩ ?_
     exact AK.met rfl
    refine Qa hC [.S 14 (.b false),.n 1,.o (.ln f.length),.n 5,.S 4 (.b ((decide (1≤a))&&((decide (a≤3))&&((a != 3)||(decide ((f.length:Int)≤4)))))),.K [4] []] rfl ⟨⟨(tc_ e),Qi⟩,(congrArg V.b (QbZ c (QbZ d (orF e rfl))))⟩ ?_
    exact AK.met rfl
   refine Qa hC [.S 11 (.b false),.n 10,.S 4 (.b ((decide (1≤a))&&((decide (a≤3))&&((a != 3)||(decide ((f.length:Int)≤4)))))),.K [4] []] rfl ⟨(tc_ d),(congrArg V.b (QbZ c (QdE d rfl)))⟩ ?_
   exact AK.met rfl
  refine Qa hC [.S 7 (.b false),.n 14,.S 4 (.b ((decide (1≤a))&&((decide (a≤3))&&((a != 3)||(decide ((f.length:Int)≤4)))))),.K [4] []] rfl ⟨(tc_ c),(congrArg V.b (QdE c rfl))⟩ ?_
  exact AK.met rfl
 rintro σ rfl
 refine tg_ hC [.n 2] rfl ?_
 cases h
 exact d1_ rfl rfl tt_
def Qn1 (a:Qw):Option Bool:=
 (Qeh a.Join a.Ins).bind fun b=>
 bif b then
 (Qeh a.Split a.Outs).bind fun c=>
 bif c then
 bif (decide (0≤a.After))then
 bif (decide (a.After≤65536))then
 some (((a.Many.1==0)&&((a.Many.2.1==0)&&(a.Many.2.2==0)))||((decide (1≤a.Many.1))&&((decide (a.Many.1≤a.Many.2.1))&&((decide (a.Many.2.1≤16))&&((decide (1≤a.Many.2.2))&&(decide (a.Many.2.2≤a.Many.2.1)))))))
 else
 some false
 else
 some false
 else
 some false
 else
 some false
def Qhl (a:Bool):Option Bool:=
 some a
def Qhy (a:Qw):Option Bool:=
 (Qn1 a).bind (fun b=>Qhl b)
theorem Qs6 (a){r}(h:Qhy a=some r):Qd prog 138 [.agg (Qg a)] [] (Qk (.b r) []):=by
 refine Qd.walk 70 func138 rfl rfl rfl fun C hC=>?_
 unfold Qhy at h
 refine tg_ hC [.n 7,.K [1] [1]] rfl ?_
 refine AK.draw2 Qr hC mixed [.N,.N,.N,.N,.N,.N,.N,.N,.N,.N,.N,.N] [] [] [1,3,4,5] [1] rfl rfl rfl tt_ rfl (by kernel_rfl) rfl rfl rfl ?_
 refine tg_ hC [.n 2] rfl ?_
 refine AK.meetX (fun σ=>σ=⟨[(1,.loc 1 0 0),(6,.b (((a.Many.1==0)&&((a.Many.2.1==0)&&(a.Many.2.2==0)))||((decide (1≤a.Many.1))&&((decide (a.Many.1≤a.Many.2.1))&&((decide (a.Many.2.1≤16))&&((decide (1≤a.Many.2.2))&&(decide (a.Many.2.2≤a.Many.2.1))))))))],[(1,.var (Qg a))]⟩) ?_ ?_
 ·refine Qa hC [.n 2,.v .no [] (.agg (Qus a.Many)),.v .no [] (.agg (Qus (0,0,0))),.o (.any (.b ((a.Many.1==0)&&((a.Many.2.1==0)&&(a.Many.2.2==0)))) none),.n 1] rfl ⟨⟨⟨tt_,rfl⟩,rfl⟩,(fun σ y z _=>Stp.eqAgg rfl rfl (QE hC.n rfl) (y _ _ rfl) (y _ _ rfl) rfl rfl (QAa _ _ _ _ _ _))⟩ ?_
  rcases QZ ((a.Many.1==0)&&((a.Many.2.1==0)&&(a.Many.2.2==0)))with e | e
  ·refine Qa hC [.S 21 (.b true),.n 23,.S 6 (.b (((a.Many.1==0)&&((a.Many.2.1==0)&&(a.Many.2.2==0)))||((decide (1≤a.Many.1))&&((decide (a.Many.1≤a.Many.2.1))&&((decide (a.Many.2.1≤16))&&((decide (1≤a.Many.2.2))&&(decide (a.Many.2.2≤a.Many.2.1)))))))),.K [1,6] [1]] rfl ⟨(tc_ e),(congrArg V.b (orT e rfl))⟩ ?_
   exact AK.met rfl
  refine Qa hC [.S 21 (.b false),.n 3] rfl (tc_ e) ?_
  rcases QZ (decide (1≤a.Many.1))with f | f
  ·refine Qa hC [.S 24 (.b true),.n 5] rfl (tc_ f) ?_
   rcases QZ (decide (a.Many.1≤a.Many.2.1))with g | g
   ·refine Qa hC [.S 29 (.b true),.n 4] rfl (tc_ g) ?_
    rcases QZ (decide (a.Many.2.1≤16))with i | i
    ·refine Qa hC [.S 33 (.b true),.n 4] rfl (tc_ i) ?_
     rcases QZ (decide (1≤a.Many.2.2))with j | j
     ·refine Qa hC [.S 37 (.b true),.n 7,.S 6 (.b (((a.Many.1==0)&&((a.Many.2.1==0)&&(a.Many.2.2==0)))||((decide (1≤a.Many.1))&&((decide (a.Many.1≤a.Many.2.1))&&((decide (a.Many.2.1≤16))&&((decide (1≤a.Many.2.2))&&(decide (a.Many.2.2≤a.Many.2.1)))))))),.K [1,6] [1]] rfl ⟨(tc_ j),(congrArg V.b (orF e (QbZ f (QbZ g (QbZ i (QbZ j rfl))))))⟩ ?_
      exact AK.met rfl
     refine Qa hC [.S 37 (.b false),.n 7,.S 6 (.b (((a.Many.1==0)&&((a.Many.2.1==0)&&(a.Many.2.2==0)))||((decide (1≤a.Many.1))&&((decide (a.Many.1≤a.Many.2.1))&&((decide (a.Many.2.1≤16))&&((decide (1≤a.Many.2.2))&&(decide (a.Many.2.2≤a.Many.2.1)))))))),.K [1,6] [1]] rfl ⟨(tc_ j),(congrArg V.b (orF e (QbZ f (QbZ g (QbZ i (QdE j rfl))))))⟩ ?_
     exact AK.met rfl
    refine Qa hC [.S 33 (.b false),.n 11,.S 6 (.b (((a.Many.1==0)&&((a.Many.2.1==0)&&(a.Many.2.2==0)))||((decide (1≤a.Many.1))&&((decide (a.Many.1≤a.Many.2.1))&&((decide (a.Many.2.1≤16))&&((decide (1≤a.Many.2.2))&&(decide (a.Many.2.2≤a.Many.2.1)))))))),.K [1,6] [1]] rfl ⟨(tc_ i),(congrArg V.b (orF e (QbZ f (QbZ g (QdE i rfl)))))⟩ ?_
    exact AK.met rfl
   refine Qa hC [.S 29 (.b false),.n 15,.S 6 (.b (((a.Many.1==0)&&((a.Many.2.1==0)&&(a.Many.2.2==0)))||((decide (1≤a.Many.1))&&((decide (a.Many.1≤a.Many.2.1))&&((decide (a.Many.2.1≤16))&&((decide (1≤a.Many.2.2))&&(decide (a.Many.2.2≤a.Many.2.1)))))))),.K [1,6] [1]] rfl ⟨(tc_ g),(congrArg V.b (orF e (QbZ f (QdE g rfl))))⟩ ?_
   exact AK.met rfl
  refine Qa hC [.S 24 (.b false),.n 20,.S 6 (.b (((a.Many.1==0)&&((a.Many.2.1==0)&&(a.Many.2.2==0)))||((decide (1≤a.Many.1))&&((decide (a.Many.1≤a.Many.2.1))&&((decide (a.Many.2.1≤16))&&((decide (1≤a.Many.2.2))&&(decide (a.Many.2.2≤a.Many.2.1)))))))),.K [1,6] [1]] rfl ⟨(tc_ f),(congrArg V.b (orF e (QdE f rfl)))⟩ ?_
  exact AK.met rfl
 rintro σ rfl
 refine tg_ hC [.n 7] rfl ?_
 obtain⟨u,q,h⟩:=Qc h
 replace h:Qhl u=some r:=h
 refine AK.meetX (fun σ=>σ=⟨[(2,.b u)],[]⟩) ?_ ?_
 ·replace h:=q
  obtain⟨w,s,h⟩:=Qc h
  refine Qa hC [.n 6,.o (.c false [.d,.d] (.b w)),.n 1] rfl ⟨tt_,(Qmb _ _ s)⟩ ?_
  rcases Qt h with⟨k,h⟩|⟨k,h⟩
  ·obtain⟨x,t,h⟩:=Qc h
   refine Qa hC [.S 49 (.b true),.n 5,.o (.c false [.d,.d] (.b x)),.n 2] rfl ⟨(tc_ k),(Qmb _ _ t)⟩ ?_
   refine bg_ h (fun l h=>Qa hC [.S 57 (.b true),.n 5] rfl (tc_ l) ?_) fun l h=>Qa hC [.S 57 (.b false),.n 14,.K [2] []] rfl (tc_ l) ?_
   ·refine bg_ h (fun m h=>Qa hC [.S 62 (.b true),.n 5] rfl (tc_ m) ?_) fun m h=>Qa hC [.S 62 (.b false),.n 9,.K [2] []] rfl (tc_ m) ?_
    ·refine bg_ h (fun p h=>Qa hC [.S 67 (.b true),.n 4,.K [2] []] rfl (tc_ p) ?_) fun p h=>Qa hC [.S 67 (.b false),.n 4,.K [2] []] rfl (tc_ p) ?_
     ·cases h
      exact AK.met rfl
     cases h
     exact AK.met rfl
    cases h
    exact AK.met rfl
   cases h
   exact AK.met rfl
  refine Qa hC [.S 49 (.b false),.n 22,.K [2] []] rfl (tc_ k) ?_
  cases h
  exact AK.met rfl
 rintro σ rfl
 replace h:Qhl u=some r:=h
 refine tg_ hC [.n 2] rfl ?_
 cases h
 exact d1_ rfl rfl tt_
def Qil (a:Qw):Option Bool:=
 (Qhy a).bind fun b=>
 some b
theorem Qrp (a){r}(h:Qil a=some r):Qd prog 137 [.loc 609 0 0] [(609,.var (Qg a))] (Qk (.b r) [(609,.var (Qg a))]):=by
 refine Qd.walk 4 func137 rfl rfl rfl fun C hC=>?_
 obtain⟨f,e,h⟩:=Qc h
 refine Qa hC [.n 7,.v .no [] (.agg (Qg a)),.o (.c false [.d] (.b f)),.n 4] rfl ⟨⟨tt_,rfl⟩,(Qs6 _ e)⟩ ?_
 cases h
 exact d1_ rfl rfl ⟨rfl,tt_⟩
def Qfb (b:Qw)(v:Int)(f:Qm)(u:Int)(w:Int)(g:Int)(x:Int)(h:Int)(y:Int)(i:Int)(j:Int)(k:Int)(l:Int)(m:Int)(n:Int):Option (Int×Int):=
 (Qjo b).bind fun o=>
 bif (!o)then
 some (v,h)
 else
 (Qjq f u b).bind fun p=>
 bif (!p)then
 some (w,h)
 else
 (QgF g b).bind fun q=>
 bif (!q)then
 some (x,h)
 else
 (Qig f b h).bind fun a=>
 bif (!a.1)then
 some (y,a.2)
 else
 (Qjs f u).bind fun r=>
 bif (!r)then
 some (i,a.2)
 else
 (Qju b g).bind fun s=>
 bif (!s)then
 some (j,a.2)
 else
 (QfL f b g a.2).bind fun d=>
 bif (!d.1)then
 some (k,d.2)
 else
 (QfM f b g d.2).bind fun e=>
 bif (!e.1)then
 some (l,e.2)
 else
 (QfN f b e.2).bind fun c=>
 bif (!c.1)then
 some (m,c.2)
 else
 (Qil b).bind fun t=>
 bif (!t)then
 some (n,c.2)
 else
 some (0,c.2)
theorem QqI (e v2 t D v5 B v7 v8 v9 u w x y z A){r}(h:Qfb e v2 t D v5 B v7 v8 v9 u w x y z A=some r):Qd prog 64 [.own 609 10] [(609,.var [.clo (.func 122) [] [.loc 610 0 0],.I v2,.clo (.func 123) [] [.loc 611 0 0,.loc 612 0 0,.loc 613 0 0],.I v5,.clo (.func 125) [] [.loc 614 0 0,.loc 610 0 0],.I v7,.clo (.func 184) [] [.loc 615 0 0,.loc 616 0 0],.I v9,.clo (.func 129) [] [.loc 611 0 0,.loc 612 0 0],.I u,.clo (.func 130) [] [.loc 610 0 0,.loc 614 0 0],.I w,.clo (.func 184) [] [.loc 618 0 0,.loc 619 0 0],.I x,.clo (.func 184) [] [.loc 620 0 0,.loc 621 0 0],.I y,.clo (.func 184) [] [.loc 622 0 0,.loc 623 0 0],.I z,.clo (.func 137) [] [.loc 610 0 0],.I A]),(610,.var (Qg e)),(611,.var (Qe t)),(612,.var (Qb D)),(613,.var [.clo (.func 121) [] [.loc 610 0 0]]),(614,.var (Qb B)),(615,.var [.clo (.func 127) [] [.loc 611 0 0,.loc 610 0 0]]),(616,.var [.loc 617 0 0]),(617,.var (Qb v8)),(618,.var [.clo (.func 132) [] [.loc 611 0 0,.loc 610 0 0,.loc 614 0 0]]),(619,.var [.loc 617 0 0]),(620,.var [.clo (.func 134) [] [.loc 611 0 0,.loc 610 0 0,.loc 614 0 0]]),(621,.var [.loc 617 0 0]),(622,.var [.clo (.func 135) [] [.loc 611 0 0,.loc 610 0 0]]),(623,.var [.loc 617 0 0])] (Qk (.I r.1) [(609,.var [.clo (.func 122) [] [.loc 610 0 0],.I v2,.clo (.func 123) [] [.loc 611 0 0,.loc 612 0 0,.loc 613 0 0],.I v5,.clo (.func 125) [] [.loc 614 0 0,.loc 610 0 0],.I v7,.clo (.func 184) [] [.loc 615 0 0,.loc 616 0 0],.I v9,.clo (.func 129) [] [.loc 611 0 0,.loc 612 0 0],.I u,.clo (.func 130) [] [.loc 610 0 0,.loc 614 0 0],.I w,.clo (.func 184) [] [.loc 618 0 0,.loc 619 0 0],.I x,.clo (.func 184) [] [.loc 620 0 0,.loc 621 0 0],.I y,.clo (.func 184) [] [.loc 622 0 0,.loc 623 0 0],.I z,.clo (.func 137) [] [.loc 610 0 0],.I A]),(610,.var (Qg e)),(611,.var (Qe t)),(612,.var (Qb D)),(613,.var [.clo (.func 121) [] [.loc 610 0 0]]),(614,.var (Qb B)),(615,.var [.clo (.func 127) [] [.loc 611 0 0,.loc 610 0 0]]),(616,.var [.loc 617 0 0]),(617,.var (Qb r.2)),(618,.var [.clo (.func 132) [] [.loc 611 0 0,.loc 610 0 0,.loc 614 0 0]]),(619,.var [.loc 617 0 0]),(620,.var [.clo (.func 134) [] [.loc 611 0 0,.loc 610 0 0,.loc 614 0 0]]),(621,.var [.loc 617 0 0]),(622,.var [.clo (.func 135) [] [.loc 611 0 0,.loc 610 0 0]]),(623,.var [.loc 617 0 0])]):=by
 refine Qd.walk 18 func64 rfl rfl rfl fun C hC=>?_
 refine tg_ hC [.n 14] rfl ?_
 refine AK.loopN 11 (AK.rnd ?_)
 obtain⟨a0,E,h⟩:=Qc h
 refine Qa hC [.n 2,.v .no [] (.b true),.n 10,.o (.any (.loc 609 0 0) none),.n 3,.O 4 (.var [.clo (.func 122) [] [.loc 610 0 0],.I v2]),.n 6,.cm (.clo) [(609,610)] [(610,609)] [] [.d] [(609,.var (Qg e))] (.b a0),.n 3] rfl ⟨⟨⟨⟨tt_,rfl⟩,(fun σ a c _=>Stp.idxV rfl rfl (QE hC.n rfl) (a _ _ rfl) (a _ _ rfl) (Qr.es rfl) (c _ _ rfl) (by decide))⟩,rfl⟩,(Qsa _ E)⟩ ?_
 refine bg_ h (fun f h=>Qa hC [.T,.n 13,.K [2] [609,610,611,612,613,614,615,616,617,618,619,620,621,622,623]] rfl ⟨tt_,f⟩ ?_) fun f h=>Qa hC [.F,.n 4,.v .no [] (.I 1),.n 2] rfl ⟨⟨tt_,f⟩,rfl⟩ ?_
 ·cases h
  exact d1_ rfl rfl ⟨rfl,rfl,rfl,rfl,rfl,rfl,rfl,rfl,rfl,rfl,rfl,rfl,rfl,rfl,rfl,tt_⟩
 refine AK.met (AK.rnd ?_)
 obtain⟨a1,G,h⟩:=Qc h
 refine Qa hC [.n 2,.v .no [] (.b true),.n 10,.o (.any (.loc 609 0 2) none),.n 1,.kill 4,.n 2,.O 4 (.var [.clo (.func 123) [] [.loc 611 0 0,.loc 612 0 0,.loc 613 0 0],.I v5]),.n 6,.cm (.clo) [(609,611),(610,612),(611,613),(612,610)] [(611,609),(612,610),(613,611),(610,612)] [] [.d,.d,.d] [(609,.var (Qe t)),(610,.var (Qb D)),(611,.var [.clo (.func 121) [] [.loc 612 0 0]]),(612,.var (Qg e))] (.b a1),.n 3] rfl ⟨⟨⟨⟨tt_,rfl⟩,(fun σ a c _=>Stp.idxV rfl rfl (QE hC.n rfl) (a _ _ rfl) (a _ _ rfl) (Qr.es rfl) (c _ _ rfl) (by decide))⟩,rfl⟩,(Qsc _ _ _ G)⟩ ?_
 refine bg_ h (fun g h=>Qa hC [.T,.n 13,.K [2] [609,610,611,612,613,614,615,616,617,618,619,620,621,622,623]] rfl ⟨tt_,g⟩ ?_) fun g h=>Qa hC [.F,.n 4,.v .no [] (.I 2),.n 2] rfl ⟨⟨tt_,g⟩,rfl⟩ ?_
 ·cases h
  exact d1_ rfl rfl ⟨rfl,rfl,rfl,rfl,rfl,rfl,rfl,rfl,rfl,rfl,rfl,rfl,rfl,rfl,rfl,tt_⟩
 refine AK.met (AK.rnd ?_)
 obtain⟨a2,H,h⟩:=Qc h
 refine Qa hC [.n 2,.v .no [] (.b true),.n 10,.o (.any (.loc 609 0 4) none),.n 1,.kill 4,.n 2,.O 4 (.var [.clo (.func 125) [] [.loc 614 0 0,.loc 610 0 0],.I v7]),.n 6,.cm (.clo) [(609,614),(610,610)] [(614,609),(610,610)] [] [.d,.d] [(609,.var (Qb B)),(610,.var (Qg e))] (.b a2),.n 3] rfl ⟨⟨⟨⟨tt_,rfl⟩,(fun σ a c _=>Stp.idxV rfl rfl (QE hC.n rfl) (a _ _ rfl) (a _ _ rfl) (Qr.es rfl) (c _ _ rfl) (by decide))⟩,rfl⟩,(Qsd _ _ H)⟩ ?_
 refine bg_ h (fun i h=>Qa hC [.T,.n 13,.K [2] [609,610,611,612,613,614,615,616,617,618,619,620,621,622,623]] rfl ⟨tt_,i⟩ ?_) fun i h=>Qa hC [.F,.n 4,.v .no [] (.I 3),.n 2] rfl ⟨⟨tt_,i⟩,rfl⟩ ?_
 ·cases h
  exact d1_ rfl rfl ⟨rfl,rfl,rfl,rfl,rfl,rfl,rfl,rfl,rfl,rfl,rfl,rfl,rfl,rfl,rfl,tt_⟩
 refine AK.met (AK.rnd ?_)
 obtain⟨J,L,h⟩:=Qc h
 refine Qa hC [.n 2,.v .no [] (.b true),.n 10,.o (.any (.loc 609 0 6) none),.n 1,.kill 4,.n 2,.O 4 (.var [.clo (.func 184) [] [.loc 615 0 0,.loc 616 0 0],.I v9]),.n 6,.cm (.clo) [(609,615),(610,611),(611,610),(612,616),(613,617)] [(615,609),(611,610),(610,611),(616,612),(617,613)] [] [.d,.d] [(609,.var [.clo (.func 127) [] [.loc 610 0 0,.loc 611 0 0]]),(610,.var (Qe t)),(611,.var (Qg e)),(612,.var [.loc 613 0 0]),(613,.var (Qb J.2))] (.b J.1),.n 3] rfl ⟨⟨⟨⟨tt_,rfl⟩,(fun σ a c _=>Stp.idxV rfl rfl (QE hC.n rfl) (a _ _ rfl) (a _ _ rfl) (Qr.es rfl) (c _ _ rfl) (by decide))⟩,rfl⟩,(Qrm _ _ _ L)⟩ ?_
 refine bg_ h (fun j h=>Qa hC [.T,.n 13,.K [2] [609,610,611,612,613,614,615,616,617,618,619,620,621,622,623]] rfl ⟨tt_,j⟩ ?_) fun j h=>Qa hC [.F,.n 4,.v .no [] (.I 4),.n 2] rfl ⟨⟨tt_,j⟩,rfl⟩ ?_
 ·cases h
  exact d1_ rfl rfl ⟨rfl,rfl,rfl,rfl,rfl,rfl,rfl,rfl,rfl,rfl,rfl,rfl,rfl,rfl,rfl,tt_⟩
 refine AK.met (AK.rnd ?_)
 obtain⟨a3,M,h⟩:=Qc h
 refine Qa hC [.n 2,.v .no [] (.b true),.n 10,.o (.any (.loc 609 0 8) none),.n 1,.kill 4,.n 2,.O 4 (.var [.clo (.func 129) [] [.loc 611 0 0,.loc 612 0 0],.I u]),.n 6,.cm (.clo) [(609,611),(610,612)] [(611,609),(612,610)] [] [.d,.d] [(609,.var (Qe t)),(610,.var (Qb D))] (.b a3),.n 3] rfl ⟨⟨⟨⟨tt_,rfl⟩,(fun σ a c _=>Stp.idxV rfl rfl (QE hC.n rfl) (a _ _ rfl) (a _ _ rfl) (Qr.es rfl) (c _ _ rfl) (by decide))⟩,rfl⟩,(Qsf _ _ M)⟩ ?_
 refine bg_ h (fun k h=>Qa hC [.T,.n 13,.K [2] [609,610,611,612,613,614,615,616,617,618,619,620,621,622,623]] rfl ⟨tt_,k⟩ ?_) fun k h=>Qa hC [.F,.n 4,.v .no [] (.I 5),.n 2] rfl ⟨⟨tt_,k⟩,rfl⟩ ?_
 ·cases h
  exact d1_ rfl rfl ⟨rfl,rfl,rfl,rfl,rfl,rfl,rfl,rfl,rfl,rfl,rfl,rfl,rfl,rfl,rfl,tt_⟩
 refine AK.met (AK.rnd ?_)
 obtain⟨a4,N,h⟩:=Qc h
 refine Qa hC [.n 2,.v .no [] (.b true),.n 10,.o (.any (.loc 609 0 10) none),.n 1,.kill 4,.n 2,.O 4 (.var [.clo (.func 130) [] [.loc 610 0 0,.loc 614 0 0],.I w]),.n 6,.cm (.clo) [(609,610),(610,614)] [(610,609),(614,610)] [] [.d,.d] [(609,.var (Qg e)),(610,.var (Qb B))] (.b a4),.n 3] rfl ⟨⟨⟨⟨tt_,rfl⟩,(fun σ a c _=>Stp.idxV rfl rfl (QE hC.n rfl) (a _ _ rfl) (a _ _ rfl) (Qr.es rfl) (c _ _ rfl) (by decide))⟩,rfl⟩,(Qsj _ _ N)⟩ ?_
 refine bg_ h (fun l h=>Qa hC [.T,.n 13,.K [2] [609,610,611,612,613,614,615,616,617,618,619,620,621,622,623]] rfl ⟨tt_,l⟩ ?_) fun l h=>Qa hC [.F,.n 4,.v .no [] (.I 6),.n 2] rfl ⟨⟨tt_,l⟩,rfl⟩ ?_
 ·cases h
  exact d1_ rfl rfl ⟨rfl,rfl,rfl,rfl,rfl,rfl,rfl,rfl,rfl,rfl,rfl,rfl,rfl,rfl,rfl,tt_⟩
 refine AK.met (AK.rnd ?_)
 obtain⟨P,S,h⟩:=Qc h
 refine Qa hC [.n 2,.v .no [] (.b true),.n 10,.o (.any (.loc 609 0 12) none),.n 1,.kill 4,.n 2,.O 4 (.var [.clo (.func 184) [] [.loc 618 0 0,.loc 619 0 0],.I x]),.n 6,.cm (.clo) [(609,618),(610,611),(611,610),(612,614),(613,619),(614,617)] [(618,609),(611,610),(610,611),(614,612),(619,613),(617,614)] [] [.d,.d] [(609,.var [.clo (.func 132) [] [.loc 610 0 0,.loc 611 0 0,.loc 612 0 0]]),(610,.var (Qe t)),(611,.var (Qg e)),(612,.var (Qb B)),(613,.var [.loc 614 0 0]),(614,.var (Qb P.2))] (.b P.1),.n 3] rfl ⟨⟨⟨⟨tt_,rfl⟩,(fun σ a c _=>Stp.idxV rfl rfl (QE hC.n rfl) (a _ _ rfl) (a _ _ rfl) (Qr.es rfl) (c _ _ rfl) (by decide))⟩,rfl⟩,(Qpw _ _ _ _ S)⟩ ?_
 refine bg_ h (fun m h=>Qa hC [.T,.n 13,.K [2] [609,610,611,612,613,614,615,616,617,618,619,620,621,622,623]] rfl ⟨tt_,m⟩ ?_) fun m h=>Qa hC [.F,.n 4,.v .no [] (.I 7),.n 2] rfl ⟨⟨tt_,m⟩,rfl⟩ ?_
 ·cases h
  exact d1_ rfl rfl ⟨rfl,rfl,rfl,rfl,rfl,rfl,rfl,rfl,rfl,rfl,rfl,rfl,rfl,rfl,rfl,tt_⟩
 refine AK.met (AK.rnd ?_)
 obtain⟨U,W,h⟩:=Qc h
 refine Qa hC [.n 2,.v .no [] (.b true),.n 10,.o (.any (.loc 609 0 14) none),.n 1,.kill 4,.n 2,.O 4 (.var [.clo (.func 184) [] [.loc 620 0 0,.loc 621 0 0],.I y]),.n 6,.cm (.clo) [(609,620),(610,611),(611,610),(612,614),(613,621),(614,617)] [(620,609),(611,610),(610,611),(614,612),(621,613),(617,614)] [] [.d,.d] [(609,.var [.clo (.func 134) [] [.loc 610 0 0,.loc 611 0 0,.loc 612 0 0]]),(610,.var (Qe t)),(611,.var (Qg e)),(612,.var (Qb B)),(613,.var [.loc 614 0 0]),(614,.var (Qb U.2))] (.b U.1),.n 3] rfl ⟨⟨⟨⟨tt_,rfl⟩,(fun σ a c _=>Stp.idxV rfl rfl (QE hC.n rfl) (a _ _ rfl) (a _ _ rfl) (Qr.es rfl) (c _ _ rfl) (by decide))⟩,rfl⟩,(Qpx _ _ _ _ W)⟩ ?_
 refine bg_ h (fun p h=>Qa hC [.T,.n 13,.K [2] [609,610,611,612,613,614,615,616,617,618,619,620,621,622,623]] rfl ⟨tt_,p⟩ ?_) fun p h=>Qa hC [.F,.n 4,.v .no [] (.I 8),.n 2] rfl ⟨⟨tt_,p⟩,rfl⟩ ?_
 ·cases h
  exact d1_ rfl rfl ⟨rfl,rfl,rfl,rfl,rfl,rfl,rfl,rfl,rfl,rfl,rfl,rfl,rfl,rfl,rfl,tt_⟩
 refine AK.met (AK.rnd ?_)
 obtain⟨X,Y,h⟩:=Qc h
 refine Qa hC [.n 2,.v .no [] (.b true),.n 10,.o (.any (.loc 609 0 16) none),.n 1,.kill 4,.n 2,.O 4 (.var [.clo (.func 184) [] [.loc 622 0 0,.loc 623 0 0],.I z]),.n 6,.cm (.clo) [(609,622),(610,611),(611,610),(612,623),(613,617)] [(622,609),(611,610),(610,611),(623,612),(617,613)] [] [.d,.d] [(609,.var [.clo (.func 135) [] [.loc 610 0 0,.loc 611 0 0]]),(610,.var (Qe t)),(611,.var (Qg e)),(612,.var [.loc 613 0 0]),(613,.var (Qb X.2))] (.b X.1),.n 3] rfl ⟨⟨⟨⟨tt_,rfl⟩,(fun σ a c _=>Stp.idxV rfl rfl (QE hC.n rfl) (a _ _ rfl) (a _ _ rfl) (Qr.es rfl) (c _ _ rfl) (by decide))⟩,rfl⟩,(Qpy _ _ _ Y)⟩ ?_
 refine bg_ h (fun q h=>Qa hC [.T,.n 13,.K [2] [609,610,611,612,613,614,615,616,617,618,619,620,621,622,623]] rfl ⟨tt_,q⟩ ?_) fun q h=>Qa hC [.F,.n 4,.v .no [] (.I 9),.n 2] rfl ⟨⟨tt_,q⟩,rfl⟩ ?_
 ·cases h
  exact d1_ rfl rfl ⟨rfl,rfl,rfl,rfl,rfl,rfl,rfl,rfl,rfl,rfl,rfl,rfl,rfl,rfl,rfl,tt_⟩
 refine AK.met (AK.rnd ?_)
 obtain⟨a5,Z,h⟩:=Qc h
 refine Qa hC [.n 2,.v .no [] (.b true),.n 10,.o (.any (.loc 609 0 18) none),.n 1,.kill 4,.n 2,.O 4 (.var [.clo (.func 137) [] [.loc 610 0 0],.I A]),.n 6,.cm (.clo) [(609,610)] [(610,609)] [] [.d] [(609,.var (Qg e))] (.b a5),.n 3] rfl ⟨⟨⟨⟨tt_,rfl⟩,(fun σ a c _=>Stp.idxV rfl rfl (QE hC.n rfl) (a _ _ rfl) (a _ _ rfl) (Qr.es rfl) (c _ _ rfl) (by decide))⟩,rfl⟩,(Qrp _ Z)⟩ ?_
 refine bg_ h (fun s h=>Qa hC [.T,.n 13,.K [2] [609,610,611,612,613,614,615,616,617,618,619,620,621,622,623]] rfl ⟨tt_,s⟩ ?_) fun s h=>Qa hC [.F,.n 4,.v .no [] (.I 10),.n 2] rfl ⟨⟨tt_,s⟩,rfl⟩ ?_
 ·cases h
  exact d1_ rfl rfl ⟨rfl,rfl,rfl,rfl,rfl,rfl,rfl,rfl,rfl,rfl,rfl,rfl,rfl,rfl,rfl,tt_⟩
 refine AK.met (AK.rnd ?_)
 refine Qa hC [.n 2,.v .no [] (.b false),.n 15] rfl ⟨tt_,rfl⟩ ?_
 cases h
 exact d1_ rfl rfl ⟨rfl,rfl,rfl,rfl,rfl,rfl,rfl,rfl,rfl,rfl,rfl,rfl,rfl,rfl,rfl,tt_⟩
def Qcz (a:Qm)(e:Int):Option Int:=
 (Qcy a.Tasks e).bind fun g=>
 bif (!g)then
 some 3
 else
 (QfK a).bind fun f=>
 bif (f.2 != 0)then
 some f.2
 else
 (idx a.Tasks e).bind fun d=>
 (idx a.Tasks e).bind fun b=>
 (Qkj 0 a d).bind fun h=>
 (Qg8 0 a d (b.Vars.length:Int)).bind fun i=>
 (Qg9 0 a d (b.Vars.length:Int)).bind fun j=>
 (Qha 0 a d).bind fun k=>
 (Qfb d 1 a e 5 (b.Vars.length:Int) 2 0 (-1) 2 1 (-1) (-1) (-1) 11).bind fun c=>
 bif (c.1==(-1))then
 some c.2
 else
 some c.1
theorem QtP (g y){r}(h:Qcz g y=some r):Qd prog 75 [.agg (Qe g),.I y] [] (Qk (.I r) []):=by
 refine Qd.walk 68 func75 rfl rfl rfl fun C hC=>?_
 obtain⟨E,z,h⟩:=Qc h
 refine Qa hC [.n 13,.o (.c false [.d,.d] (.b E)),.n 3] rfl ⟨tt_,(Qif _ _ z)⟩ ?_
 rcases Qt h with⟨j,h⟩|⟨j,h⟩
 ·refine Qa hC [.T,.n 7] rfl ⟨tt_,j⟩ ?_
  cases h
  exact d1_ rfl rfl tt_
 obtain⟨D,A,h⟩:=Qc h
 refine Qa hC [.F,.n 5,.v .no [] (.agg (Qe g)),.o (.c false [.d] (.tup [.I D.1,.I D.2])),.n 13] rfl ⟨⟨⟨tt_,j⟩,rfl⟩,(Qma _ A)⟩ ?_
 rcases Qt h with⟨k,h⟩|⟨k,h⟩
 ·refine Qa hC [.T,.n 8] rfl ⟨tt_,k⟩ ?_
  cases h
  exact d1_ rfl rfl tt_
 obtain⟨i,B,h⟩:=Qc h
 obtain⟨e,l,h⟩:=Qc h
 refine Qa hC [.F,.n 3,.K [2,3] [2,3]] rfl ⟨tt_,k⟩ ?_
 refine AK.draw2 Qr hC mixed [.N,.N,.N,.a (.row (Qg i)) none false,.a .no (some ([],.agg (Qg i))) false,.a .no none true,.a .no none true,.a .no none true,.a (.row (Qg e)) none true,.a .no none true,.a .no none true,.a (.ln e.Vars.length) none true,.N,.N,.m .s,.m .s] [2,3] [2,3] [2,3,7,8] [2,3,7,8] rfl rfl rfl ⟨⟨⟨⟨tt_,(QG B)⟩,rfl⟩,(QG l)⟩,Qi⟩ rfl (by kernel_rfl) rfl rfl rfl ?_
 obtain⟨G,p,h⟩:=Qc h
 obtain⟨H,q,h⟩:=Qc h
 obtain⟨J,t,h⟩:=Qc h
 obtain⟨L,u,h⟩:=Qc h
 obtain⟨w,x,h⟩:=Qc h
 refine Qa hC [.O 7 (.var (Qg i)),.O 8 (.var (Qb (e.Vars.length:Int))),.n 6,.O 9 (.var [.clo (.func 121) [] [.loc 7 0 0]]),.n 10,.v .no [] (.agg [.clo (.func 122) [] [.loc 7 0 0],.I 1]),.n 1,.v .no [] (.agg [.clo (.func 123) [] [.loc 2 0 0,.loc 3 0 0,.loc 9 0 0],.I 5]),.n 1,.v .no [] (.agg [.clo (.func 125) [] [.loc 8 0 0,.loc 7 0 0],.I 2]),.n 1,.cm (.fn) [(609,10),(610,2),(611,7)] [(45,2),(603,3),(10,609),(2,610),(7,611)] [] [.d,.d] [(2,.var [.loc 609 0 0]),(3,.var [.clo (.func 127) [] [.loc 610 0 0,.loc 611 0 0]]),(609,.var (Qb 0)),(610,.var (Qe g)),(611,.var (Qg i))] (.clo (.func 184) [] [.loc 3 0 0,.loc 2 0 0]),.v .no [] (.agg [.clo (.func 184) [] [.loc 603 0 0,.loc 45 0 0],.I (-1)]),.n 1,.v .no [] (.agg [.clo (.func 129) [] [.loc 2 0 0,.loc 3 0 0],.I 2]),.n 1,.v .no [] (.agg [.clo (.func 130) [] [.loc 7 0 0,.loc 8 0 0],.I 1]),.n 1,.cm (.fn) [(609,10),(610,2),(611,7),(612,8)] [(52,2),(604,3),(10,609),(2,610),(7,611),(8,612)] [] [.d,.d] [(2,.var [.loc 609 0 0]),(3,.var [.clo (.func 132) [] [.loc 610 0 0,.loc 611 0 0,.loc 612 0 0]]),(609,.var (Qb 0)),(610,.var (Qe g)),(611,.var (Qg i)),(612,.var (Qb (e.Vars.length:Int)))] (.clo (.func 184) [] [.loc 3 0 0,.loc 2 0 0]),.v .no [] (.agg [.clo (.func 184) [] [.loc 604 0 0,.loc 52 0 0],.I (-1)]),.n 1,.cm (.fn) [(609,10),(610,2),(611,7),(612,8)] [(55,2),(605,3),(10,609),(2,610),(7,611),(8,612)] [] [.d,.d] [(2,.var [.loc 609 0 0]),(3,.var [.clo (.func 134) [] [.loc 610 0 0,.loc 611 0 0,.loc 612 0 0]]),(609,.var (Qb 0)),(610,.var (Qe g)),(611,.var (Qg i)),(612,.var (Qb (e.Vars.length:Int)))] (.clo (.func 184) [] [.loc 3 0 0,.loc 2 0 0]),.v .no [] (.agg [.clo (.func 184) [] [.loc 605 0 0,.loc 55 0 0],.I (-1)]),.n 1,.cm (.fn) [(609,10),(610,2),(611,7)] [(58,2),(606,3),(10,609),(2,610),(7,611)] [] [.d,.d] [(2,.var [.loc 609 0 0]),(3,.var [.clo (.func 135) [] [.loc 610 0 0,.loc 611 0 0]]),(609,.var (Qb 0)),(610,.var (Qe g)),(611,.var (Qg i))] (.clo (.func 184) [] [.loc 3 0 0,.loc 2 0 0]),.v .no [] (.agg [.clo (.func 184) [] [.loc 606 0 0,.loc 58 0 0],.I (-1)]),.n 1,.v .no [] (.agg [.clo (.func 137) [] [.loc 7 0 0],.I 11]),.o (.any (.own 62 10) (some (.var [.clo (.func 122) [] [.loc 7 0 0],.I 1,.clo (.func 123) [] [.loc 2 0 0,.loc 3 0 0,.loc 9 0 0],.I 5,.clo (.func 125) [] [.loc 8 0 0,.loc 7 0 0],.I 2,.clo (.func 184) [] [.loc 603 0 0,.loc 45 0 0],.I (-1),.clo (.func 129) [] [.loc 2 0 0,.loc 3 0 0],.I 2,.clo (.func 130) [] [.loc 7 0 0,.loc 8 0 0],.I 1,.clo (.func 184) [] [.loc 604 0 0,.loc 52 0 0],.I (-1),.clo (.func 184) [] [.loc 605 0 0,.loc 55 0 0],.I (-1),.clo (.func 184) [] [.loc 606 0 0,.loc 58 0 0],.I (-1),.clo (.func 137) [] [.loc 7 0 0],.I 11]))),.cm (.fn) [(609,62),(610,7),(611,2),(612,3),(613,9),(614,8),(615,603),(616,45),(617,10),(618,604),(619,52),(620,605),(621,55),(622,606),(623,58)] [(62,609),(7,610),(2,611),(3,612),(9,613),(8,614),(603,615),(45,616),(10,617),(604,618),(52,619),(605,620),(55,621),(606,622),(58,623)] [] [.d] [(609,.var [.clo (.func 122) [] [.loc 610 0 0],.I 1,.clo (.func 123) [] [.loc 611 0 0,.loc 612 0 0,.loc 613 0 0],.I 5,.clo (.func 125) [] [.loc 614 0 0,.loc 610 0 0],.I 2,.clo (.func 184) [] [.loc 615 0 0,.loc 616 0 0],.I (-1),.clo (.func 129) [] [.loc 611 0 0,.loc 612 0 0],.I 2,.clo (.func 130) [] [.loc 610 0 0,.loc 614 0 0],.I 1,.clo (.func 184) [] [.loc 618 0 0,.loc 619 0 0],.I (-1),.clo (.func 184) [] [.loc 620 0 0,.loc 621 0 0],.I (-1),.clo (.func 184) [] [.loc 622 0 0,.loc 623 0 0],.I (-1),.clo (.func 137) [] [.loc 610 0 0],.I 11]),(610,.var (Qg i)),(611,.var (Qe g)),(612,.var (Qb y)),(613,.var [.clo (.func 121) [] [.loc 610 0 0]]),(614,.var (Qb (e.Vars.length:Int))),(615,.var [.clo (.func 127) [] [.loc 611 0 0,.loc 610 0 0]]),(616,.var [.loc 617 0 0]),(617,.var (Qb w.2)),(618,.var [.clo (.func 132) [] [.loc 611 0 0,.loc 610 0 0,.loc 614 0 0]]),(619,.var [.loc 617 0 0]),(620,.var [.clo (.func 134) [] [.loc 611 0 0,.loc 610 0 0,.loc 614 0 0]]),(621,.var [.loc 617 0 0]),(622,.var [.clo (.func 135) [] [.loc 611 0 0,.loc 610 0 0]]),(623,.var [.loc 617 0 0])] (.I w.1),.n 10] rfl ⟨⟨⟨⟨⟨⟨⟨⟨⟨⟨⟨⟨⟨⟨⟨⟨⟨⟨⟨tt_,rfl⟩,rfl⟩,rfl⟩,rfl⟩,rfl⟩,rfl⟩,(Qs3 _ _ _ p)⟩,rfl⟩,rfl⟩,rfl⟩,(Qqz _ _ _ _ q)⟩,rfl⟩,(QqA _ _ _ _ t)⟩,rfl⟩,(QqB _ _ _ u)⟩,rfl⟩,rfl⟩,(fun σ M P hf=>Stp.buildAny rfl rfl (QE hC.n rfl) (Qr.es rfl) Ql4 rfl (by decide) (by decide) (QeN M rfl) rfl rfl (hf rfl))⟩,(QqI _ _ _ _ _ _ _ _ _ _ _ _ _ _ _ x)⟩ ?_
 refine bg_ h (fun f h=>Qa hC [.T,.n 8,.K [4] []] rfl ⟨tt_,f⟩ ?_) fun f h=>Qa hC [.F,.n 9,.K [4] []] rfl ⟨tt_,f⟩ ?_
 ·cases h
  exact d1_ rfl rfl tt_
 cases h
 exact d1_ rfl rfl tt_
def Qhz (a:Int)(d:Qw)(b:Qm):Option Int:=
 (Qcz b a).bind fun c=>
 some c
theorem Qs7 (e f a){r}(h:Qhz e f a=some r):Qd prog 74 [.I e,.agg (Qg f),.loc 609 0 0] [(609,.var (Qe a))] (Qk (.I r) [(609,.var (Qe a))]):=by
 refine Qd.walk 9 func74 rfl rfl rfl fun C hC=>?_
 obtain⟨g,b,h⟩:=Qc h
 refine Qa hC [.n 8,.v .no [] (.agg (Qe a)),.n 1,.o (.c false [.d,.d] (.I g)),.n 4] rfl ⟨⟨tt_,rfl⟩,(QtP _ _ b)⟩ ?_
 cases h
 exact d1_ rfl rfl ⟨rfl,tt_⟩
def Qbu (d:(List Qw))(e:Qm)(a:Int):Option (Int⊕((Int×Int)⊕Unit)):=
 bif (decide (a<(d.length:Int)))then
 (idx d a).bind fun c=>
 (Qhz a c e).bind fun b=>
 bif (b != 0)then
 some (.inr (.inl (a,b)))
 else
 some (.inl (w64 (a+1)))
 else
 some (.inr (.inr ()))
def Qc7 (b:Int)(a:Int):Option (Int×Int):=
 some (b,a)
def Qc8 : Option (Int×Int):=
 some (0,0)
def Qb8 (a:(List Qw))(b:Qm):Option (Int×Int):=
 (Qq (fun st=>Qbu a b st) 0).bind (Sum.elim (fun q=>Qc7 q.1 q.2) (fun q=>Qc8))
theorem Qn2 (g f){r}(h:Qb8 g f=some r):Qd prog 73 [.sl 14 (g.map Qg),.clo (.func 74) [] [.loc 609 0 0]] [(609,.var (Qe f))] (Qk (.tup [.I r.1,.I r.2]) [(609,.var (Qe f))]):=by
 refine Qd.walk 25 func73 rfl rfl rfl fun C hC=>?_
 refine Qa hC [.n 10,.o (.ln g.length),.n 4,.K [1,9,10,11] [609]] rfl ⟨tt_,Qi⟩ ?_
 obtain⟨l,i,h⟩:=Qc h
 refine AK.loop (body:=(fun st=>Qbu g f st)) (fun st σ=>σ=⟨[(1,.clo (.func 74) [] [.loc 609 0 0]),(9,.sl 14 (g.map Qg)),(10,.I (g.length:Int)),(11,.I st)],[(609,.var (Qe f))]⟩) (Sum.elim (fun q e σ=>e=.ret∧σ=⟨[(4,.I q.1),(5,.I q.2)],[(609,.var (Qe f))]⟩) (fun q e σ=>e=.exit 0∧σ=⟨[],[(609,.var (Qe f))]⟩)) i rfl ?_ ?_
 ·rintro t o σ rfl h
  refine tg_ hC [.n 6] rfl ?_
  rcases Qt h with⟨a,h⟩|⟨a,h⟩
  ·obtain⟨c,j,h⟩:=Qc h
   obtain⟨m,k,h⟩:=Qc h
   refine Qa hC [.T,.n 7,.o (.row (Qg c)),.v .no [] (.agg (Qg c)),.n 3,.O 7 (.var (Qg c)),.n 6,.v .no [] (.agg (Qg c)),.cm (.clo) [(609,609)] [(609,609)] [] [.d,.d,.d] [(609,.var (Qe f))] (.I m),.n 9] rfl ⟨⟨⟨⟨⟨⟨tt_,a⟩,(QG j)⟩,rfl⟩,rfl⟩,rfl⟩,(Qs7 _ _ _ k)⟩ ?_
   refine bg_ h (fun b h=>Qa hC [.T,.n 11,.K [4,5] [609]] rfl ⟨tt_,b⟩ ?_) fun b h=>Qa hC [.F,.n 7,.K [1,9,10,11] [609]] rfl ⟨tt_,b⟩ ?_
   ·cases h
    exact Qbs rfl (an_ rfl rfl)
   cases h
   exact QI rfl rfl
  refine Qa hC [.F,.n 2,.K [] [609]] rfl ⟨tt_,a⟩ ?_
  cases h
  exact QJ rfl (an_ rfl rfl)
 rcases l with(⟨s,p⟩|_)
 ·replace h:Qc7 s p=some r:=h
  rintro e σ ⟨rfl,rfl⟩
  refine tg_ hC [.n 2] rfl ?_
  cases h
  exact d2_ rfl rfl rfl ⟨rfl,tt_⟩
 replace h:Qc8=some r:=h
 rintro e σ ⟨rfl,rfl⟩
 refine tg_ hC [.n 9] rfl ?_
 cases h
 exact d2_ rfl rfl rfl ⟨rfl,tt_⟩
def QhI (c:Qm):Option (Int×Qfi):=
 (Qke c 2 3 1).bind fun e=>
 bif (e != 0)then
 some (e,(Qfi.mk 1 0))
 else
 (QfK c).bind fun d=>
 bif (d.2 != 0)then
 some (d.2,(Qfi.mk 2 d.1))
 else
 (QdO c.Places c).bind fun a=>
 bif (a.2 != 0)then
 some (a.2,(Qfi.mk 3 a.1))
 else
 (Qb8 c.Tasks c).bind fun b=>
 bif (b.2 != 0)then
 some (b.2,(Qfi.mk 4 b.1))
 else
 some (0,(Qfi.mk 0 0))
theorem QuB (j){r}(h:QhI j=some r):Qd prog 33 [.agg (Qe j)] [] (Qk (.tup [.agg (QcM r.2),.I r.1]) []):=by
 refine Qd.walk 58 func33 rfl rfl rfl fun C hC=>?_
 obtain⟨s,p,h⟩:=Qc h
 refine Qa hC [.n 10,.v .no [] (.agg [.clo (.func 65) [] [.loc 1 0 0],.I 2]),.n 1,.v .no [] (.agg [.clo (.func 66) [] [.loc 1 0 0],.I 3]),.n 1,.v .no [] (.agg [.clo (.func 68) [] [.loc 1 0 0],.I 1]),.o (.any (.own 17 3) (some (.var [.clo (.func 65) [] [.loc 1 0 0],.I 2,.clo (.func 66) [] [.loc 1 0 0],.I 3,.clo (.func 68) [] [.loc 1 0 0],.I 1]))),.cm (.fn) [(609,17),(610,1)] [(17,609),(1,610)] [] [.d] [(609,.var [.clo (.func 65) [] [.loc 610 0 0],.I 2,.clo (.func 66) [] [.loc 610 0 0],.I 3,.clo (.func 68) [] [.loc 610 0 0],.I 1]),(610,.var (Qe j))] (.I s),.n 10] rfl ⟨⟨⟨⟨⟨tt_,rfl⟩,rfl⟩,rfl⟩,(fun σ t u hf=>Stp.buildAny rfl rfl (QE hC.n rfl) (Qr.es rfl) Ql4 rfl (by decide) (by decide) (QeN t rfl) rfl rfl (hf rfl))⟩,(QsX _ _ _ _ p)⟩ ?_
 rcases Qt h with⟨g,h⟩|⟨g,h⟩
 ·refine Qa hC [.T,.n 2,.v .no [] (.agg (QcM (Qfi.mk 1 0))),.n 2,.O 2 (.var (QcM (Qfi.mk 1 0))),.n 5,.K [2,3] [2]] rfl ⟨⟨⟨tt_,g⟩,rfl⟩,rfl⟩ ?_
  cases h
  exact AK.done (ex_ [_,_] (an_ (an_ (ex_ _ (ex_ _ (an_ rfl (an_ rfl (Or.inl (an_ (Qr.ag rfl) (an_ (Qr.sz rfl) rfl))))))) (an_ rfl tt_)) (Qb4 tt_)))
 obtain⟨m,q,h⟩:=Qc h
 refine Qa hC [.F,.n 5,.v .no [] (.agg (Qe j)),.o (.c false [.d] (.tup [.I m.1,.I m.2])),.n 13] rfl ⟨⟨⟨tt_,g⟩,rfl⟩,(Qma _ q)⟩ ?_
 rcases Qt h with⟨i,h⟩|⟨i,h⟩
 ·refine Qa hC [.T,.n 3,.v .no [] (.agg (QcM (Qfi.mk 2 m.1))),.n 2,.O 2 (.var (QcM (Qfi.mk 2 m.1))),.n 5,.K [2,3] [2]] rfl ⟨⟨⟨tt_,i⟩,rfl⟩,rfl⟩ ?_
  cases h
  exact AK.done (ex_ [_,_] (an_ (an_ (ex_ _ (ex_ _ (an_ rfl (an_ rfl (Or.inl (an_ (Qr.ag rfl) (an_ (Qr.sz rfl) rfl))))))) (an_ rfl tt_)) (Qb4 tt_)))
 obtain⟨e,k,h⟩:=Qc h
 refine Qa hC [.F,.n 8,.cm (.fn) [(609,1)] [(1,609)] [] [.d,.d] [(609,.var (Qe j))] (.tup [.I e.1,.I e.2]),.n 13] rfl ⟨⟨tt_,i⟩,(Qnc _ _ k)⟩ ?_
 rcases Qt h with⟨a,h⟩|⟨a,h⟩
 ·refine Qa hC [.T,.n 3,.v .no [] (.agg (QcM (Qfi.mk 3 e.1))),.n 2,.O 2 (.var (QcM (Qfi.mk 3 e.1))),.n 5,.K [2,3] [2]] rfl ⟨⟨⟨tt_,a⟩,rfl⟩,rfl⟩ ?_
  cases h
  exact AK.done (ex_ [_,_] (an_ (an_ (ex_ _ (ex_ _ (an_ rfl (an_ rfl (Or.inl (an_ (Qr.ag rfl) (an_ (Qr.sz rfl) rfl))))))) (an_ rfl tt_)) (Qb4 tt_)))
 obtain⟨f,l,h⟩:=Qc h
 refine Qa hC [.F,.n 8,.cm (.fn) [(609,1)] [(1,609)] [] [.d,.d] [(609,.var (Qe j))] (.tup [.I f.1,.I f.2]),.n 13] rfl ⟨⟨tt_,a⟩,(Qn2 _ _ l)⟩ ?_
 refine bg_ h (fun b h=>Qa hC [.T,.n 3,.v .no [] (.agg (QcM (Qfi.mk 4 f.1))),.n 2,.O 2 (.var (QcM (Qfi.mk 4 f.1))),.n 5,.K [2,3] [2]] rfl ⟨⟨⟨tt_,b⟩,rfl⟩,rfl⟩ ?_) fun b h=>Qa hC [.F,.n 4,.v .no [] (.agg (QcM (Qfi.mk 0 0))),.n 1,.O 2 (.var (QcM (Qfi.mk 0 0))),.n 4,.K [2,3] [2]] rfl ⟨⟨⟨tt_,b⟩,rfl⟩,rfl⟩ ?_
 ·cases h
  exact AK.done (ex_ [_,_] (an_ (an_ (ex_ _ (ex_ _ (an_ rfl (an_ rfl (Or.inl (an_ (Qr.ag rfl) (an_ (Qr.sz rfl) rfl))))))) (an_ rfl tt_)) (Qb4 tt_)))
 cases h
 exact AK.done (ex_ [_,_] (an_ (an_ (ex_ _ (ex_ _ (an_ rfl (an_ rfl (Or.inl (an_ (Qr.ag rfl) (an_ (Qr.sz rfl) rfl))))))) (an_ rfl tt_)) (Qb4 tt_)))
def Qle (a:Qm):Option Bool:=
 (Qj2 a).bind fun b=>
 bif ((!b)||((decide (8<(a.Tasks.length:Int)))||(decide (12<(a.Places.length:Int)))))then
 some false
 else
 (QhI a).bind fun c=>
 some (c.1==0)
theorem QtQ (a){r}(h:Qle a=some r):Qd prog 10 [.agg (Qe a)] [] (Qk (.b r) []):=by
 refine Qd.walk 29 func10 rfl rfl rfl fun C hC=>?_
 obtain⟨i,j,h⟩:=Qc h
 refine Qa hC [.n 8,.v .no [] (.agg (Qe a)),.o (.c false [.d] (.b i)),.n 5] rfl ⟨⟨tt_,rfl⟩,(Qux _ j)⟩ ?_
 refine AK.meetX (fun σ=>σ=⟨[(1,.loc 1 0 0),(21,.b ((!i)||((decide (8<(a.Tasks.length:Int)))||(decide (12<(a.Places.length:Int))))))],[(1,.var (Qe a))]⟩) ?_ ?_
 ·refine tg_ hC [.n 4] rfl ?_
  rcases QZ (!i)with e | e
  ·refine Qa hC [.S 10 (.b true),.n 12,.S 21 (.b ((!i)||((decide (8<(a.Tasks.length:Int)))||(decide (12<(a.Places.length:Int)))))),.K [1,21] [1]] rfl ⟨(tc_ e),(congrArg V.b (orT e rfl))⟩ ?_
   exact AK.met rfl
  refine Qa hC [.S 10 (.b false),.n 2,.o (.ln a.Tasks.length),.n 3] rfl ⟨(tc_ e),Qi⟩ ?_
  rcases QZ (decide (8<(a.Tasks.length:Int)))with f | f
  ·refine Qa hC [.S 16 (.b true),.n 6,.S 21 (.b ((!i)||((decide (8<(a.Tasks.length:Int)))||(decide (12<(a.Places.length:Int)))))),.K [1,21] [1]] rfl ⟨(tc_ f),(congrArg V.b (orF e (orT f rfl)))⟩ ?_
   exact AK.met rfl
  refine Qa hC [.S 16 (.b false),.n 2,.o (.ln a.Places.length),.n 3,.S 21 (.b ((!i)||((decide (8<(a.Tasks.length:Int)))||(decide (12<(a.Places.length:Int)))))),.K [1,21] [1]] rfl ⟨⟨(tc_ f),Qi⟩,(congrArg V.b (orF e (orF f rfl)))⟩ ?_
  exact AK.met rfl
 rintro σ rfl
 refine tg_ hC [.n 1] rfl ?_
 rcases Qt h with⟨g,h⟩|⟨g,h⟩
 ·refine Qa hC [.T,.n 7] rfl ⟨tt_,g⟩ ?_
  cases h
  exact d1_ rfl rfl tt_
 obtain⟨k,l,h⟩:=Qc h
 refine Qa hC [.F,.n 4,.v .no [] (.agg (Qe a)),.o (.c false [.d] (.tup [.agg (QcM k.2),.I k.1])),.n 5,.O 4 (.var (QcM k.2)),.n 11] rfl ⟨⟨⟨⟨tt_,g⟩,rfl⟩,(QuB _ l)⟩,rfl⟩ ?_
 cases h
 exact d1_ rfl rfl tt_
def QiM (b:Int)(a:Int)(c:(List Int)):Option ((Int×(List Int))⊕(List Int)):=
 bif (decide (a<b))then
 (chk (decide (c.length+([a]:List Int).length≤4294967296))).bind fun _=>
 some (.inl ((w64 (a+1)),(c++([a]:List Int))))
 else
 some (.inr c)
def QfO (a:QLL):Option QLL:=
 some a
def Qmc (b:Int)(a:Int)(c:QLL):Option ((Int×QLL)⊕QLL):=
 bif (decide (a<b))then
 (chk (decide (c.length+([([a]:List Int)]:List (List Int)).length≤4294967296))).bind fun _=>
 some (.inl ((w64 (a+1)),(c++([([a]:List Int)]:List (List Int)))))
 else
 some (.inr c)
def QiN (a:QLL):Option QLL:=
 QfO a
def Qmd (b:Int)(a:Int)(c:Int):Option ((Int×Int)⊕Int):=
 bif (decide (c<b))then
 some (.inl ((w64 (2*a)),(w64 (c+1))))
 else
 some (.inr a)
def QiO (a:Int)(b:Int)(c:(List Int)):Option ((Int×Int×(List Int))⊕(List Int)):=
 some (.inl ((w64 (Int.tdiv a 2)),(w64 (b+1)),c))
def Qme (c:Int)(d:Int)(a:Int)(b:(List Int)):Option ((Int×Int×(List Int))⊕(List Int)):=
 bif (decide (a<c))then
 bif ((Int.tmod d 2)==1)then
 (chk (decide (b.length+([a]:List Int).length≤4294967296))).bind fun _=>
 QiO d a (b++([a]:List Int))
 else
 QiO d a b
 else
 some (.inr b)
def Qmf (a:QLL)(c:Int)(b:(List Int)):Option ((Int×QLL)⊕QLL):=
 (chk (decide (a.length+([b]:List (List Int)).length≤4294967296))).bind fun _=>
 some (.inl ((w64 (c+1)),(a++([b]:List (List Int)))))
def Qmg (a:Int)(b:Int)(c:Int)(d:QLL):Option ((Int×QLL)⊕QLL):=
 bif (decide (c<a))then
 (Qq (fun st=>Qme b st.1 st.2.1 st.2.2) (c,0,([]:List Int))).bind (fun q=>Qmf d c q)
 else
 some (.inr d)
def QhO (a:QLL):Option QLL:=
 QfO a
def Qlp (a:Int)(b:Int):Option QLL:=
 (Qq (fun st=>Qmg b a st.1 st.2) (1,([]:List (List Int)))).bind (fun q=>QhO q)
def QhP (a:Int)(b:Int)(c:(List Int)):Option QLL:=
 bif (a==1)then
 some ([c]:List (List Int))
 else
 bif (a==2)then
 (Qq (fun st=>Qmc b st.1 st.2) (0,([]:List (List Int)))).bind (fun q=>QiN q)
 else
 bif (a==3)then
 (Qq (fun st=>Qmd b st.1 st.2) (1,0)).bind (fun q=>Qlp b q)
 else
 QfO ([]:List (List Int))
def Qc9 (b:Int)(a:Int):Option QLL:=
 bif ((decide (a<0))||((decide (16<a))||((b==3)&&(decide (4<a)))))then
 some ([]:List (List Int))
 else
 (Qq (fun st=>QiM a st.1 st.2) (0,([]:List Int))).bind (fun q=>QhP b a q)
theorem Qmh (c a){r}(h:Qc9 c a=some r):Qd prog 40 [.I c,.I a] [] (Qk (.own 600 r.length) [(600,.arr 1 (r.map Qf))]):=by
 refine Qd.walk 89 func40 rfl rfl rfl fun C hC=>?_
 unfold Qc9 at h
 refine tg_ hC [.n 7] rfl ?_
 refine AK.meetX (fun σ=>σ=⟨[(0,.I c),(1,.I a),(28,.b ((decide (a<0))||((decide (16<a))||((c==3)&&(decide (4<a))))))],[]⟩) ?_ ?_
 ·refine tg_ hC [.n 4] rfl ?_
  rcases QZ (decide (a<0))with g | g
  ·refine Qa hC [.S 17 (.b true),.n 12,.S 28 (.b ((decide (a<0))||((decide (16<a))||((c==3)&&(decide (4<a)))))),.K [0,1,28] []] rfl ⟨(tc_ g),(congrArg V.b (orT g rfl))⟩ ?_
   exact AK.met rfl
  refine Qa hC [.S 17 (.b false),.n 4] rfl (tc_ g) ?_
  rcases QZ (decide (16<a))with i | i
  ·refine Qa hC [.S 21 (.b true),.n 8,.S 28 (.b ((decide (a<0))||((decide (16<a))||((c==3)&&(decide (4<a)))))),.K [0,1,28] []] rfl ⟨(tc_ i),(congrArg V.b (orF g (orT i rfl)))⟩ ?_
   exact AK.met rfl
  refine Qa hC [.S 21 (.b false),.n 3] rfl (tc_ i) ?_
  rcases QZ (c==3)with j | j
  ·refine Qa hC [.S 24 (.b true),.n 5,.S 28 (.b ((decide (a<0))||((decide (16<a))||((c==3)&&(decide (4<a)))))),.K [0,1,28] []] rfl ⟨(tc_ j),(congrArg V.b (orF g (orF i (QbZ j rfl))))⟩ ?_
   exact AK.met rfl
  refine Qa hC [.S 24 (.b false),.n 5,.S 28 (.b ((decide (a<0))||((decide (16<a))||((c==3)&&(decide (4<a)))))),.K [0,1,28] []] rfl ⟨(tc_ j),(congrArg V.b (orF g (orF i (QdE j rfl))))⟩ ?_
  exact AK.met rfl
 rintro σ rfl
 refine tg_ hC [.n 1] rfl ?_
 refine bg_ h (fun H h=>Qa hC [.T,.n 7,.adopt 4 600 1,.O 600 (.arr 1 (([]:List (List Int)).map Qf)),.S 4 (.own 600 ([]:List (List Int)).length),.K [4] [600]] rfl ⟨⟨⟨tt_,H⟩,rfl⟩,rfl⟩ ?_) fun H h=>Qa hC [.F,.n 19,.adopt 6 34 1,.O 34 (.arr 1 (([]:List Int).map Qb)),.S 6 (.own 34 ([]:List Int).length),.K [0,1,5,6,7] [34]] rfl ⟨⟨⟨tt_,H⟩,rfl⟩,(congrArg (fun n=>V.own 34 n) (by simp))⟩ ?_
 ·cases h
  exact d1_ rfl rfl ⟨rfl,tt_⟩
 obtain⟨A,L,h⟩:=Qc h
 refine AK.loop (body:=(fun st=>QiM a st.1 st.2)) (fun st σ=>σ=⟨[(0,.I c),(1,.I a),(5,.lit (.slice none 0 0)),(6,.own 34 st.2.length),(7,.I st.1)],[(34,.arr 1 (st.2.map Qb))]⟩) (fun q e σ=>e=.exit 0∧σ=⟨[(0,.I c),(1,.I a),(5,.lit (.slice none 0 0)),(6,.own 34 q.length)],[(34,.arr 1 (q.map Qb))]⟩) L rfl ?_ ?_
 ·rintro ⟨J,M⟩ o σ rfl h
  refine tg_ hC [.n 8] rfl ?_
  rcases Qt h with⟨k,h⟩|⟨k,h⟩
  ·obtain⟨N,h⟩:=Qap h
   refine Qa hC [.T,.n 7,.v (.bd []) [] (.sl 1 (([J]:List Int).map Qb)),.app ((M++([J]:List Int)).map Qb) (M++([J]:List Int)).length,.n 9,.K [0,1,5,6,7] [34]] rfl ⟨⟨⟨tt_,k⟩,rfl⟩,⟨Qi,QdA N Qi,Qcl,QeC Qi⟩⟩ ?_
   cases h
   exact QI rfl rfl
  refine Qa hC [.F,.n 2,.K [0,1,5,6] [34]] rfl ⟨tt_,k⟩ ?_
  cases h
  exact QJ rfl (an_ rfl rfl)
 replace h:QhP c a A=some r:=h
 rintro e σ ⟨rfl,rfl⟩
 refine tg_ hC [.n 2] rfl ?_
 refine AK.meet (fun σ=>∃B:QLL,σ=⟨[(5,.own 602 B.length)],[(602,.arr 1 (B.map Qf))]⟩∧QfO B=some r) ?_ ?_
 ·refine tg_ hC [.n 12] rfl ?_
  refine bg_ h (fun l h=>Qa hC [.T,.n 3,.frz 34 (A.map Qb) [6,41] [],.n 1,.O 42 (.arr 1 (([A]:List (List Int)).map Qf)),.S 42 (.own 42 ([A]:List (List Int)).length),.n 6,.K [4] [42],.ren 42 600,.K [4] [600]] rfl ⟨⟨⟨⟨tt_,l⟩,⟨⟨tt_,(Qcm Qi)⟩,(Qcm Qi)⟩⟩,rfl⟩,rfl⟩ ?_) fun l h=>Qa hC [.F,.n 6] rfl ⟨tt_,l⟩ ?_
  ·cases h
   exact d1_ rfl rfl ⟨rfl,tt_⟩
  refine bg_ h (fun m h=>Qa hC [.T,.n 6,.adopt 5 50 1,.O 50 (.arr 1 (([]:List (List Int)).map Qf)),.S 5 (.own 50 ([]:List (List Int)).length),.K [1,5,8] [50]] rfl ⟨⟨⟨tt_,m⟩,rfl⟩,(congrArg (fun n=>V.own 50 n) (by simp))⟩ ?_) fun m h=>Qa hC [.F,.n 6] rfl ⟨tt_,m⟩ ?_
  ·obtain⟨a4,P,h⟩:=Qc h
   refine AK.loop (body:=(fun st=>Qmc a st.1 st.2)) (fun st σ=>σ=⟨[(1,.I a),(5,.own 50 st.2.length),(8,.I st.1)],[(50,.arr 1 (st.2.map Qf))]⟩) (fun q e σ=>e=.exit 3∧σ=⟨[(5,.own 50 q.length)],[(50,.arr 1 (q.map Qf))]⟩) P rfl ?_ ?_
   ·rintro ⟨D,U⟩ o σ rfl h
    refine tg_ hC [.n 8] rfl ?_
    rcases Qt h with⟨p,h⟩|⟨p,h⟩
    ·obtain⟨W,h⟩:=Qap h
     refine Qa hC [.T,.n 7,.v (.bd []) [] (.sl 1 (([D]:List Int).map Qb)),.v (.bd []) [] (.sl 1 (([([D]:List Int)]:List (List Int)).map Qf)),.app ((U++([([D]:List Int)]:List (List Int))).map Qf) (U++([([D]:List Int)]:List (List Int))).length,.n 9,.K [1,5,8] [50]] rfl ⟨⟨⟨⟨tt_,p⟩,rfl⟩,rfl⟩,⟨Qi,QdA W Qi,Qcl,QeC Qi⟩⟩ ?_
     cases h
     exact QI rfl rfl
    refine Qa hC [.F,.n 2,.K [5] [50]] rfl ⟨tt_,p⟩ ?_
    cases h
    exact QJ rfl (an_ rfl rfl)
   replace h:QiN a4=some r:=h
   unfold QiN at h
   rintro e σ ⟨rfl,rfl⟩
   refine tg_ hC [.n 2,.ren 50 602,.K [5] [602]] rfl ?_
   exact AK.met (ex_ _ (an_ rfl h))
  refine bg_ h (fun s h=>Qa hC [.T,.n 12,.K [1,5,9,10] []] rfl ⟨tt_,s⟩ ?_) fun s h=>Qa hC [.F,.n 2,.adopt 5 602 1,.O 602 (.arr 1 (([]:List (List Int)).map Qf)),.S 5 (.own 602 ([]:List (List Int)).length),.K [5] [602]] rfl ⟨⟨⟨tt_,s⟩,rfl⟩,(congrArg (fun n=>V.own 602 n) (by simp))⟩ ?_
  ·obtain⟨d,X,h⟩:=Qc h
   refine AK.loop (body:=(fun st=>Qmd a st.1 st.2)) (fun st σ=>σ=⟨[(1,.I a),(5,.lit (.slice none 0 0)),(9,.I st.1),(10,.I st.2)],[]⟩) (fun q e σ=>e=.exit 5∧σ=⟨[(1,.I a),(5,.lit (.slice none 0 0)),(9,.I q)],[]⟩) X rfl ?_ ?_
   ·rintro ⟨a5,a7⟩ o σ rfl h
    refine tg_ hC [.n 8] rfl ?_
    refine bg_ h (fun t h=>Qa hC [.T,.n 16,.K [1,5,9,10] []] rfl ⟨tt_,t⟩ ?_) fun t h=>Qa hC [.F,.n 2,.K [1,5,9] []] rfl ⟨tt_,t⟩ ?_
    ·cases h
     exact QI rfl rfl
    cases h
    exact QJ rfl (an_ rfl rfl)
   replace h:Qlp a d=some r:=h
   rintro e σ ⟨rfl,rfl⟩
   refine Qa hC [.n 8,.adopt 5 84 1,.O 84 (.arr 1 (([]:List (List Int)).map Qf)),.S 5 (.own 84 ([]:List (List Int)).length),.K [1,5,9,11] [84]] rfl ⟨⟨tt_,rfl⟩,(congrArg (fun n=>V.own 84 n) (by simp))⟩ ?_
   obtain⟨a6,Y,h⟩:=Qc h
   refine AK.loop (body:=(fun st=>Qmg d a st.1 st.2)) (fun st σ=>σ=⟨[(1,.I a),(5,.own 84 st.2.length),(9,.I d),(11,.I st.1)],[(84,.arr 1 (st.2.map Qf))]⟩) (fun q e σ=>e=.exit 7∧σ=⟨[(5,.own 84 q.length)],[(84,.arr 1 (q.map Qf))]⟩) Y rfl ?_ ?_
   ·rintro ⟨E,f⟩ o σ rfl h
    refine tg_ hC [.n 8] rfl ?_
    refine bg_ h (fun u h=>Qa hC [.T,.n 22,.adopt 12 78 1,.O 78 (.arr 1 (([]:List Int).map Qb)),.S 12 (.own 78 ([]:List Int).length),.K [1,5,9,11,12,13,14] [78,84]] rfl ⟨⟨⟨tt_,u⟩,rfl⟩,(congrArg (fun n=>V.own 78 n) (by simp))⟩ ?_) fun u h=>Qa hC [.F,.n 2,.K [5] [84]] rfl ⟨tt_,u⟩ ?_
    ·obtain⟨w,Z,h⟩:=Qc h
     refine AK.loop (body:=(fun st=>Qme a st.1 st.2.1 st.2.2)) (fun st σ=>σ=⟨[(1,.I a),(5,.own 84 f.length),(9,.I d),(11,.I E),(12,.own 78 st.2.2.length),(13,.I st.1),(14,.I st.2.1)],[(78,.arr 1 (st.2.2.map Qb)),(84,.arr 1 (f.map Qf))]⟩) (fun q e σ=>e=.exit 9∧σ=⟨[(1,.I a),(5,.own 84 f.length),(9,.I d),(11,.I E),(12,.own 78 q.length)],[(78,.arr 1 (q.map Qb)),(84,.arr 1 (f.map Qf))]⟩) Z rfl ?_ ?_
     ·rintro ⟨a0,x,a1⟩ o σ rfl h
      refine tg_ hC [.n 8] rfl ?_
      refine bg_ h (fun y h=>Qa hC [.T,.n 4] rfl ⟨tt_,y⟩ ?_) fun y h=>Qa hC [.F,.n 2,.K [1,5,9,11,12] [78,84]] rfl ⟨tt_,y⟩ ?_
      ·refine AK.meet (fun σ=>∃G:(List Int),σ=⟨[(1,.I a),(5,.own 84 f.length),(9,.I d),(11,.I E),(12,.own 78 G.length),(13,.I a0),(14,.I x)],[(78,.arr 1 (G.map Qb)),(84,.arr 1 (f.map Qf))]⟩∧QiO a0 x G=some o) ?_ ?_
       ·refine Qa hC [.n 7] rfl ⟨tt_,(by decide)⟩ ?_
        rcases Qt h with⟨z,h⟩|⟨z,h⟩
        ·obtain⟨a2,h⟩:=Qap h
         refine Qa hC [.T,.n 3,.v (.bd []) [] (.sl 1 (([x]:List Int).map Qb)),.app ((a1++([x]:List Int)).map Qb) (a1++([x]:List Int)).length,.n 2,.K [1,5,9,11,12,13,14] [78,84]] rfl ⟨⟨⟨tt_,z⟩,rfl⟩,⟨Qi,QdA a2 Qi,Qcl,QeC Qi⟩⟩ ?_
         exact AK.met (ex_ _ (an_ rfl h))
        refine Qa hC [.F,.n 1,.K [1,5,9,11,12,13,14] [78,84]] rfl ⟨tt_,z⟩ ?_
        exact AK.met (ex_ _ (an_ rfl h))
       rintro σ ⟨G,rfl,h⟩
       refine Qa hC [.n 12,.K [1,5,9,11,12,13,14] [78,84]] rfl ⟨tt_,(by decide)⟩ ?_
       cases h
       exact QI rfl rfl
      cases h
      exact QJ rfl (an_ rfl rfl)
     replace h:Qmf f E w=some o:=h
     rintro e σ ⟨rfl,rfl⟩
     obtain⟨a3,h⟩:=Qap h
     refine Qa hC [.n 5,.frz 78 (w.map Qb) [12,85] [],.v (.bd []) [] (.sl 1 (([w]:List (List Int)).map Qf)),.app ((f++([w]:List (List Int))).map Qf) (f++([w]:List (List Int))).length,.n 9,.K [1,5,9,11] [84]] rfl ⟨⟨⟨tt_,⟨⟨tt_,(Qcm Qi)⟩,(Qcm Qi)⟩⟩,rfl⟩,⟨Qi,QdA a3 Qi,Qcl,QeC Qi⟩⟩ ?_
     cases h
     exact QI rfl rfl
    cases h
    exact QJ rfl (an_ rfl rfl)
   replace h:QhO a6=some r:=h
   unfold QhO at h
   rintro e σ ⟨rfl,rfl⟩
   refine tg_ hC [.n 2,.ren 84 602,.K [5] [602]] rfl ?_
   exact AK.met (ex_ _ (an_ rfl h))
  exact AK.met (ex_ _ (an_ rfl h))
 rintro σ ⟨B,rfl,h⟩
 refine tg_ hC [.n 7,.K [4] [602],.ren 602 600] rfl ?_
 cases h
 exact d1_ rfl rfl ⟨rfl,tt_⟩
def QiP (a:Int)(b:(List Int)):Option ((Int×(List Int))⊕(List Int)):=
 some (.inl ((w64 (a+1)),b))
def Qd1 (d:QLL)(e:Int)(f:Qw)(c:Int)(a:(List Int)):Option ((Int×(List Int))⊕(List Int)):=
 (idx d e).bind fun g=>
 bif (decide (c<(g.length:Int)))then
 (idx d e).bind fun h=>
 (idx h c).bind fun i=>
 (idx f.Ins i).bind fun b=>
 bif ((decide (0≤b.Place))&&(decide (b.Place<(a.length:Int))))then
 (idx a b.Place).bind fun j=>
 (idx a b.Place).bind fun k=>
 QiP c (a.set b.Place.toNat (w64 (j-1)))
 else
 QiP c a
 else
 some (.inr a)
def QiQ (a:Int)(b:(List Int)):Option ((Int×(List Int))⊕(List Int)):=
 some (.inl ((w64 (a+1)),b))
def Qd2 (d:QLL)(e:Int)(f:Qw)(c:Int)(a:(List Int)):Option ((Int×(List Int))⊕(List Int)):=
 (idx d e).bind fun g=>
 bif (decide (c<(g.length:Int)))then
 (idx d e).bind fun h=>
 (idx h c).bind fun i=>
 (idx f.Outs i).bind fun b=>
 bif ((decide (0≤b.Place))&&(decide (b.Place<(a.length:Int))))then
 (idx a b.Place).bind fun j=>
 (idx a b.Place).bind fun k=>
 QiQ c (a.set b.Place.toNat (w64 (j+1)))
 else
 QiQ c a
 else
 some (.inr a)
def Qmi (a:QLL)(c:Int)(b:(List Int)):Option ((Int×QLL)⊕QLL):=
 (chk (decide (a.length+([b]:List (List Int)).length≤4294967296))).bind fun _=>
 some (.inl ((w64 (c+1)),(a++([b]:List (List Int)))))
def QiR (b:QLL)(a:Int)(c:Qw)(d:QLL)(e:(List Int)):Option ((Int×QLL)⊕QLL):=
 (Qq (fun st=>Qd2 b a c st.1 st.2) (0,e)).bind (fun q=>Qmi d a q)
def QfP (a:QLL)(b:Qm)(f:QLL)(g:Int)(c:Qw)(d:Int)(e:QLL):Option ((Int×QLL)⊕QLL):=
 bif (decide (d<(a.length:Int)))then
 (chk (decide (0≤(b.Places.length:Int))&&decide ((b.Places.length:Int)≤(b.Places.length:Int))&&decide ((b.Places.length:Int)≤4294967296))).bind fun _=>
 (Qq (fun st=>Qd1 f g c st.1 st.2) (0,(List.replicate (b.Places.length:Int).toNat (0:Int)))).bind (fun q=>QiR a d c e q)
 else
 some (.inr e)
def Qmj (a:Int)(b:QLL):Option ((Int×QLL)⊕QLL):=
 some (.inl ((w64 (a+1)),b))
def QfQ (b:QLL)(d:QLL)(f:Qm)(e:Qw)(a:Int)(c:QLL):Option ((Int×QLL)⊕QLL):=
 bif (decide (a<(b.length:Int)))then
 (Qq (fun st=>QfP d f b a e st.1 st.2) (0,c)).bind (fun q=>Qmj a q)
 else
 some (.inr c)
def Qlq (b:Int)(a:QLL):Option ((Int×QLL)⊕QLL):=
 some (.inl ((w64 (b+1)),a))
def Qfr (b:Qm)(c:Int)(f:QLL):Option ((Int×QLL)⊕QLL):=
 bif (decide (c<(b.Tasks.length:Int)))then
 (idx b.Tasks c).bind fun a=>
 (Qc9 a.Join (a.Ins.length:Int)).bind fun d=>
 (Qc9 a.Split (a.Outs.length:Int)).bind fun e=>
 (Qq (fun st=>QfQ d e b a st.1 st.2) (0,f)).bind (fun q=>Qlq c q)
 else
 some (.inr f)
def Qlr (a:QLL):Option QLL:=
 some a
def Qim (a:Qm):Option QLL:=
 (Qq (fun st=>Qfr a st.1 st.2) (0,([]:List (List Int)))).bind (fun q=>Qlr q)
theorem Qrq (p){r}(h:Qim p=some r):Qd prog 16 [.agg (Qe p)] [] (Qk (.own 600 r.length) [(600,.arr 1 (r.map Qf))]):=by
 refine Qd.walk 130 func16 rfl rfl rfl fun C hC=>?_
 refine Qa hC [.n 18,.adopt 3 125 1,.O 125 (.arr 1 (([]:List (List Int)).map Qf)),.S 3 (.own 125 ([]:List (List Int)).length),.K [1,3,4] [1,125]] rfl ⟨⟨tt_,rfl⟩,(congrArg (fun n=>V.own 125 n) (by simp))⟩ ?_
 obtain⟨l8,a5,h⟩:=Qc h
 refine AK.loop (body:=(fun st=>Qfr p st.1 st.2)) (fun st σ=>σ=⟨[(1,.loc 1 0 0),(3,.own 125 st.2.length),(4,.I st.1)],[(1,.var (Qe p)),(125,.arr 1 (st.2.map Qf))]⟩) (fun q e σ=>e=.exit 0∧σ=⟨[(3,.own 125 q.length)],[(125,.arr 1 (q.map Qf))]⟩) a5 rfl ?_ ?_
 ·rintro ⟨x,l5⟩ o σ rfl h
  refine Qa hC [.n 6,.o (.ln p.Tasks.length),.n 3] rfl ⟨tt_,Qi⟩ ?_
  rcases Qt h with⟨a0,h⟩|⟨a0,h⟩
  ·obtain⟨g,a6,h⟩:=Qc h
   obtain⟨f,a7,h⟩:=Qc h
   obtain⟨c,a8,h⟩:=Qc h
   refine Qa hC [.T,.n 9,.o (.row (Qg g)),.v .no [] (.agg (Qg g)),.n 2,.O 5 (.var (Qg g)),.n 8,.o (.ln g.Ins.length),.o (.co false [.d,.d] 1 (f.map Qf) f.length),.n 9,.o (.ln g.Outs.length),.o (.co false [.d,.d] 1 (c.map Qf) c.length),.n 9,.K [1,3,4,5,6,7,8] [1,5,32,38,125]] rfl ⟨⟨⟨⟨⟨⟨⟨⟨tt_,a0⟩,(QG a6)⟩,rfl⟩,rfl⟩,Qi⟩,⟨(Qmh _ _ a7),Qi,.inl rfl⟩⟩,Qi⟩,⟨(Qmh _ _ a8),Qi,.inl rfl⟩⟩ ?_
   obtain⟨c1,a9,h⟩:=Qc h
   refine AK.loop (body:=(fun st=>QfQ f c p g st.1 st.2)) (fun st σ=>σ=⟨[(1,.loc 1 0 0),(3,.own 125 st.2.length),(4,.I x),(5,.loc 5 0 0),(6,.own 32 f.length),(7,.own 38 c.length),(8,.I st.1)],[(1,.var (Qe p)),(5,.var (Qg g)),(32,.arr 1 (f.map Qf)),(38,.arr 1 (c.map Qf)),(125,.arr 1 (st.2.map Qf))]⟩) (fun q e σ=>e=.exit 2∧σ=⟨[(1,.loc 1 0 0),(3,.own 125 q.length),(4,.I x)],[(1,.var (Qe p)),(125,.arr 1 (q.map Qf))]⟩) a9 rfl ?_ ?_
   ·rintro ⟨j,d0⟩ o σ rfl h
    refine tg_ hC [.n 9] rfl ?_
    refine bg_ h (fun y h=>Qa hC [.T,.n 10,.K [1,3,4,5,6,7,8,9] [1,5,32,38,125]] rfl ⟨tt_,y⟩ ?_) fun y h=>Qa hC [.F,.n 2,.K [1,3,4] [1,125]] rfl ⟨tt_,y⟩ ?_
    ·obtain⟨c2,b0,h⟩:=Qc h
     refine AK.loop (body:=(fun st=>QfP c p f j g st.1 st.2)) (fun st σ=>σ=⟨[(1,.loc 1 0 0),(3,.own 125 st.2.length),(4,.I x),(5,.loc 5 0 0),(6,.own 32 f.length),(7,.own 38 c.length),(8,.I j),(9,.I st.1)],[(1,.var (Qe p)),(5,.var (Qg g)),(32,.arr 1 (f.map Qf)),(38,.arr 1 (c.map Qf)),(125,.arr 1 (st.2.map Qf))]⟩) (fun q e σ=>e=.exit 4∧σ=⟨[(1,.loc 1 0 0),(3,.own 125 q.length),(4,.I x),(5,.loc 5 0 0),(6,.own 32 f.length),(7,.own 38 c.length),(8,.I j)],[(1,.var (Qe p)),(5,.var (Qg g)),(32,.arr 1 (f.map Qf)),(38,.arr 1 (c.map Qf)),(125,.arr 1 (q.map Qf))]⟩) b0 rfl ?_ ?_
     ·rintro ⟨k,i⟩ o σ rfl h
      refine tg_ hC [.n 9] rfl ?_
      rcases Qt h with⟨z,h⟩|⟨z,h⟩
      ·obtain⟨b1,h⟩:=Qap h
       refine Qa hC [.T,.n 8,.o (.ln p.Places.length),.o (.rows ((List.replicate (p.Places.length:Int).toNat (0:Int)).map Qb)),.S 54 (.own 54 (List.replicate (p.Places.length:Int).toNat (0:Int)).length),.n 10,.K [1,3,4,5,6,7,8,9,10,11] [1,5,32,38,54,125]] rfl ⟨⟨⟨⟨tt_,z⟩,Qi⟩,⟨b1,Qit rfl⟩⟩,(by simp)⟩ ?_
       obtain⟨c3,b2,h⟩:=Qc h
       refine AK.loop (body:=(fun st=>Qd1 f j g st.1 st.2)) (fun st σ=>σ=⟨[(1,.loc 1 0 0),(3,.own 125 i.length),(4,.I x),(5,.loc 5 0 0),(6,.own 32 f.length),(7,.own 38 c.length),(8,.I j),(9,.I k),(10,.own 54 st.2.length),(11,.I st.1)],[(1,.var (Qe p)),(5,.var (Qg g)),(32,.arr 1 (f.map Qf)),(38,.arr 1 (c.map Qf)),(54,.arr 1 (st.2.map Qb)),(125,.arr 1 (i.map Qf))]⟩) (fun q e σ=>e=.exit 6∧σ=⟨[(1,.loc 1 0 0),(3,.own 125 i.length),(4,.I x),(5,.loc 5 0 0),(6,.own 32 f.length),(7,.own 38 c.length),(8,.I j),(9,.I k),(10,.own 54 q.length)],[(1,.var (Qe p)),(5,.var (Qg g)),(32,.arr 1 (f.map Qf)),(38,.arr 1 (c.map Qf)),(54,.arr 1 (q.map Qb)),(125,.arr 1 (i.map Qf))]⟩) b2 rfl ?_ ?_
       ·rintro ⟨a1,u⟩ o σ rfl h
        obtain⟨b3,L,h⟩:=Qc h
        refine Qa hC [.n 7,.o (.row (Qf b3)),.o (.ln b3.length),.n 3] rfl ⟨⟨⟨tt_,(Qah L rfl)⟩,(QW (Qao L).2)⟩,Qi⟩ ?_
        refine bg_ h (fun A h=>Qa hC [.T,.n 2] rfl ⟨tt_,A⟩ ?_) fun A h=>Qa hC [.F,.n 2,.K [1,3,4,5,6,7,8,9,10] [1,5,32,38,54,125]] rfl ⟨tt_,A⟩ ?_
        ·refine AK.meet (fun σ=>∃H:(List Int),σ=⟨[(1,.loc 1 0 0),(3,.own 125 i.length),(4,.I x),(5,.loc 5 0 0),(6,.own 32 f.length),(7,.own 38 c.length),(8,.I j),(9,.I k),(10,.own 54 H.length),(11,.I a1)],[(1,.var (Qe p)),(5,.var (Qg g)),(32,.arr 1 (f.map Qf)),(38,.arr 1 (c.map Qf)),(54,.arr 1 (H.map Qb)),(125,.arr 1 (i.map Qf))]⟩∧QiP a1 H=some o) ?_ ?_
         ·obtain⟨c4,M,h⟩:=Qc h
          obtain⟨c5,b4,h⟩:=Qc h
          obtain⟨l,b5,h⟩:=Qc h
          refine tg_ hC [.n 2,.K [1,3,4,5,6,7,8,9,10,11] [1,5,32,38,54,125]] rfl ?_
          refine AK.draw2 Qr hC mixed [.N,.N,.N,.N,.N,.a (.row (Qf c4)) none false,.N,.a (.row (Qb c5)) none false,.N,.a (.row (Q1 l)) none false,.N,.N,.N] [] [] [1,3,4,5,6,7,8,9,10,11,12] [1,5,32,38,54,125] rfl rfl rfl ⟨⟨⟨⟨tt_,(Qah M rfl)⟩,(QW (Qao M).2)⟩,(QG b4)⟩,(QG b5)⟩ rfl (by kernel_rfl) rfl rfl rfl ?_
          refine tg_ hC [.n 2] rfl ?_
          refine AK.meetX (fun σ=>σ=⟨[(1,.loc 1 0 0),(3,.own 125 i.length),(4,.I x),(5,.loc 5 0 0),(6,.own 32 f.length),(7,.own 38 c.length),(8,.I j),(9,.I k),(10,.own 54 u.length),(11,.I a1),(12,.I l.Place),(83,.b ((decide (0≤l.Place))&&(decide (l.Place<(u.length:Int)))))],[(1,.var (Qe p)),(5,.var (Qg g)),(32,.arr 1 (f.map Qf)),(38,.arr 1 (c.map Qf)),(54,.arr 1 (u.map Qb)),(125,.arr 1 (i.map Qf))]⟩) ?_ ?_
          ·refine tg_ hC [.n 4] rfl ?_
           rcases QZ (decide (0≤l.Place))with s | s
           ·refine Qa hC [.S 78 (.b true),.n 6,.S 83 (.b ((decide (0≤l.Place))&&(decide (l.Place<(u.length:Int))))),.K [1,3,4,5,6,7,8,9,10,11,12,83] [1,5,32,38,54,125]] rfl ⟨(tc_ s),(congrArg V.b (QbZ s rfl))⟩ ?_
            exact AK.met rfl
           refine Qa hC [.S 78 (.b false),.n 6,.S 83 (.b ((decide (0≤l.Place))&&(decide (l.Place<(u.length:Int))))),.K [1,3,4,5,6,7,8,9,10,11,12,83] [1,5,32,38,54,125]] rfl ⟨(tc_ s),(congrArg V.b (QdE s rfl))⟩ ?_
           exact AK.met rfl
          rintro σ rfl
          refine tg_ hC [.n 1] rfl ?_
          rcases Qt h with⟨B,h⟩|⟨B,h⟩
          ·obtain⟨a2,P,h⟩:=Qc h
           obtain⟨c6,U,h⟩:=Qc h
           refine Qa hC [.T,.n 4,.o (.row (Qb a2)),.n 2,.st (Qb c6) ((u.set l.Place.toNat (w64 (a2-1))).map Qb),.n 2,.S 10 (.own 54 (u.set l.Place.toNat (w64 (a2-1))).length),.K [1,3,4,5,6,7,8,9,10,11] [1,5,32,38,54,125]] rfl ⟨⟨⟨⟨⟨⟨tt_,B⟩,(Qah P rfl)⟩,(QW (Qao P).2)⟩,(Qah U rfl)⟩,⟨(QW (Qao U).2),QcL rfl⟩⟩,(congrArg (fun n=>V.own 54 n) (by simp))⟩ ?_
           exact AK.met (ex_ _ (an_ rfl h))
          refine Qa hC [.F,.n 2,.K [1,3,4,5,6,7,8,9,10,11] [1,5,32,38,54,125]] rfl ⟨tt_,B⟩ ?_
          exact AK.met (ex_ _ (an_ rfl h))
         rintro σ ⟨H,rfl,h⟩
         refine tg_ hC [.n 5,.K [1,3,4,5,6,7,8,9,10,11] [1,5,32,38,54,125]] rfl ?_
         cases h
         exact QI rfl rfl
        cases h
        exact QJ rfl (an_ rfl rfl)
       replace h:QiR c k g i c3=some o:=h
       rintro e σ ⟨rfl,rfl⟩
       refine tg_ hC [.n 9,.K [1,3,4,5,6,7,8,9,10,13] [1,5,32,38,54,125]] rfl ?_
       obtain⟨D,b6,h⟩:=Qc h
       refine AK.loop (body:=(fun st=>Qd2 c k g st.1 st.2)) (fun st σ=>σ=⟨[(1,.loc 1 0 0),(3,.own 125 i.length),(4,.I x),(5,.loc 5 0 0),(6,.own 32 f.length),(7,.own 38 c.length),(8,.I j),(9,.I k),(10,.own 54 st.2.length),(13,.I st.1)],[(1,.var (Qe p)),(5,.var (Qg g)),(32,.arr 1 (f.map Qf)),(38,.arr 1 (c.map Qf)),(54,.arr 1 (st.2.map Qb)),(125,.arr 1 (i.map Qf))]⟩) (fun q e σ=>e=.exit 8∧σ=⟨[(1,.loc 1 0 0),(3,.own 125 i.length),(4,.I x),(5,.loc 5 0 0),(6,.own 32 f.length),(7,.own 38 c.length),(8,.I j),(9,.I k),(10,.own 54 q.length)],[(1,.var (Qe p)),(5,.var (Qg g)),(32,.arr 1 (f.map Qf)),(38,.arr 1 (c.map Qf)),(54,.arr 1 (q.map Qb)),(125,.arr 1 (i.map Qf))]⟩) b6 rfl ?_ ?_
       ·rintro ⟨a3,w⟩ o σ rfl h
        obtain⟨b7,W,h⟩:=Qc h
        refine Qa hC [.n 7,.o (.row (Qf b7)),.o (.ln b7.length),.n 3] rfl ⟨⟨⟨tt_,(Qah W rfl)⟩,(QW (Qao W).2)⟩,Qi⟩ ?_
        refine bg_ h (fun E h=>Qa hC [.T,.n 2] rfl ⟨tt_,E⟩ ?_) fun E h=>Qa hC [.F,.n 2,.K [1,3,4,5,6,7,8,9,10] [1,5,32,38,54,125]] rfl ⟨tt_,E⟩ ?_
        ·refine AK.meet (fun σ=>∃J:(List Int),σ=⟨[(1,.loc 1 0 0),(3,.own 125 i.length),(4,.I x),(5,.loc 5 0 0),(6,.own 32 f.length),(7,.own 38 c.length),(8,.I j),(9,.I k),(10,.own 54 J.length),(13,.I a3)],[(1,.var (Qe p)),(5,.var (Qg g)),(32,.arr 1 (f.map Qf)),(38,.arr 1 (c.map Qf)),(54,.arr 1 (J.map Qb)),(125,.arr 1 (i.map Qf))]⟩∧QiQ a3 J=some o) ?_ ?_
         ·obtain⟨c7,X,h⟩:=Qc h
          obtain⟨c8,b8,h⟩:=Qc h
          obtain⟨m,b9,h⟩:=Qc h
          refine tg_ hC [.n 2,.K [1,3,4,5,6,7,8,9,10,13] [1,5,32,38,54,125]] rfl ?_
          refine AK.draw2 Qr hC mixed [.N,.N,.N,.N,.N,.a (.row (Qf c7)) none false,.N,.a (.row (Qb c8)) none false,.N,.a (.row (Q1 m)) none false,.N,.N,.N] [] [] [1,3,4,5,6,7,8,9,10,13,14] [1,5,32,38,54,125] rfl rfl rfl ⟨⟨⟨⟨tt_,(Qah X rfl)⟩,(QW (Qao X).2)⟩,(QG b8)⟩,(QG b9)⟩ rfl (by kernel_rfl) rfl rfl rfl ?_
          refine tg_ hC [.n 2] rfl ?_
          refine AK.meetX (fun σ=>σ=⟨[(1,.loc 1 0 0),(3,.own 125 i.length),(4,.I x),(5,.loc 5 0 0),(6,.own 32 f.length),(7,.own 38 c.length),(8,.I j),(9,.I k),(10,.own 54 w.length),(13,.I a3),(14,.I m.Place),(118,.b ((decide (0≤m.Place))&&(decide (m.Place<(w.length:Int)))))],[(1,.var (Qe p)),(5,.var (Qg g)),(32,.arr 1 (f.map Qf)),(38,.arr 1 (c.map Qf)),(54,.arr 1 (w.map Qb)),(125,.arr 1 (i.map Qf))]⟩) ?_ ?_
          ·refine tg_ hC [.n 4] rfl ?_
           rcases QZ (decide (0≤m.Place))with t | t
           ·refine Qa hC [.S 113 (.b true),.n 6,.S 118 (.b ((decide (0≤m.Place))&&(decide (m.Place<(w.length:Int))))),.K [1,3,4,5,6,7,8,9,10,13,14,118] [1,5,32,38,54,125]] rfl ⟨(tc_ t),(congrArg V.b (QbZ t rfl))⟩ ?_
            exact AK.met rfl
           refine Qa hC [.S 113 (.b false),.n 6,.S 118 (.b ((decide (0≤m.Place))&&(decide (m.Place<(w.length:Int))))),.K [1,3,4,5,6,7,8,9,10,13,14,118] [1,5,32,38,54,125]] rfl ⟨(tc_ t),(congrArg V.b (QdE t rfl))⟩ ?_
           exact AK.met rfl
          rintro σ rfl
          refine tg_ hC [.n 1] rfl ?_
          rcases Qt h with⟨G,h⟩|⟨G,h⟩
          ·obtain⟨a4,Y,h⟩:=Qc h
           obtain⟨c9,Z,h⟩:=Qc h
           refine Qa hC [.T,.n 4,.o (.row (Qb a4)),.n 2,.st (Qb c9) ((w.set m.Place.toNat (w64 (a4+1))).map Qb),.n 2,.S 10 (.own 54 (w.set m.Place.toNat (w64 (a4+1))).length),.K [1,3,4,5,6,7,8,9,10,13] [1,5,32,38,54,125]] rfl ⟨⟨⟨⟨⟨⟨tt_,G⟩,(Qah Y rfl)⟩,(QW (Qao Y).2)⟩,(Qah Z rfl)⟩,⟨(QW (Qao Z).2),QcL rfl⟩⟩,(congrArg (fun n=>V.own 54 n) (by simp))⟩ ?_
           exact AK.met (ex_ _ (an_ rfl h))
          refine Qa hC [.F,.n 2,.K [1,3,4,5,6,7,8,9,10,13] [1,5,32,38,54,125]] rfl ⟨tt_,G⟩ ?_
          exact AK.met (ex_ _ (an_ rfl h))
         rintro σ ⟨J,rfl,h⟩
         refine tg_ hC [.n 5,.K [1,3,4,5,6,7,8,9,10,13] [1,5,32,38,54,125]] rfl ?_
         cases h
         exact QI rfl rfl
        cases h
        exact QJ rfl (an_ rfl rfl)
       replace h:Qmi i k D=some o:=h
       rintro e σ ⟨rfl,rfl⟩
       obtain⟨c0,h⟩:=Qap h
       refine Qa hC [.n 5,.frz 54 (D.map Qb) [10,126] [],.v (.bd []) [] (.sl 1 (([D]:List (List Int)).map Qf)),.app ((i++([D]:List (List Int))).map Qf) (i++([D]:List (List Int))).length,.n 9,.K [1,3,4,5,6,7,8,9] [1,5,32,38,125]] rfl ⟨⟨⟨tt_,⟨⟨tt_,(Qcm Qi)⟩,(Qcm Qi)⟩⟩,rfl⟩,⟨Qi,QdA c0 Qi,Qcl,QeC Qi⟩⟩ ?_
       cases h
       exact QI rfl rfl
      refine Qa hC [.F,.n 2,.K [1,3,4,5,6,7,8] [1,5,32,38,125]] rfl ⟨tt_,z⟩ ?_
      cases h
      exact QJ rfl (an_ rfl rfl)
     replace h:Qmj j c2=some o:=h
     rintro e σ ⟨rfl,rfl⟩
     refine tg_ hC [.n 8,.K [1,3,4,5,6,7,8] [1,5,32,38,125]] rfl ?_
     cases h
     exact QI rfl rfl
    cases h
    exact QJ rfl (an_ rfl rfl)
   replace h:Qlq x c1=some o:=h
   rintro e σ ⟨rfl,rfl⟩
   refine tg_ hC [.n 8,.K [1,3,4] [1,125]] rfl ?_
   cases h
   exact QI rfl rfl
  refine Qa hC [.F,.n 2,.K [3] [125]] rfl ⟨tt_,a0⟩ ?_
  cases h
  exact QJ rfl (an_ rfl rfl)
 replace h:Qlr l8=some r:=h
 rintro e σ ⟨rfl,rfl⟩
 refine tg_ hC [.n 9,.K [2] [125],.ren 125 600] rfl ?_
 cases h
 exact d1_ rfl rfl ⟨rfl,tt_⟩
def QfR (b:Int)(a:(List Int)):Option ((Int×(List Int))⊕(List Int)):=
 some (.inl ((w64 (b+1)),a))
def Qmk (in_17:Bool)(e:Qm)(a:Int)(b:Int)(f:Int):Option Bool:=
 bif in_17 then
 some true
 else
 (idx e.Tasks a).bind fun c=>
 (idx c.Cancel b).bind fun d=>
 some (d==f)
def QfS (a:Int)(in_24:Bool):Option ((Bool×Int)⊕Bool):=
 some (.inl (in_24,(w64 (a+1))))
def Qbz (d:Qm)(b:Int)(e:Int)(in_17:Bool)(a:Int):Option ((Bool×Int)⊕Bool):=
 (idx d.Tasks b).bind fun c=>
 bif (decide (a<(c.Cancel.length:Int)))then
 (Qmk in_17 d b a e).bind (fun in_24=>QfS a in_24)
 else
 some (.inr in_17)
def QiS (a:Int)(in_21:Bool):Option ((Bool×Int)⊕Bool):=
 some (.inl (in_21,(w64 (a+1))))
def QbA (b:Qm)(c:Int)(in_11:Bool)(a:Int):Option ((Bool×Int)⊕Bool):=
 bif (decide (a<(b.Tasks.length:Int)))then
 (Qq (fun st=>Qbz b a c st.1 st.2) (in_11,0)).bind (fun q=>QiS a q)
 else
 some (.inr in_11)
def QiT (b:(List Int))(a:Int)(in_15:Bool):Option ((Int×(List Int))⊕(List Int)):=
 bif in_15 then
 (chk (decide (b.length+([a]:List Int).length≤4294967296))).bind fun _=>
 QfR a (b++([a]:List Int))
 else
 QfR a b
def QcR (b:Qm)(a:Int)(c:(List Int)):Option ((Int×(List Int))⊕(List Int)):=
 bif (decide (a<(b.Places.length:Int)))then
 (Qq (fun st=>QbA b a st.1 st.2) (false,0)).bind (fun q=>QiT c a q)
 else
 some (.inr c)
def Qml (a:(List Int)):Option (List Int):=
 some a
def QfT (a:Qm):Option (List Int):=
 (Qq (fun st=>QcR a st.1 st.2) (0,([]:List Int))).bind (fun q=>Qml q)
theorem Qrr (a){r}(h:QfT a=some r):Qd prog 19 [.agg (Qe a)] [] (Qk (.own 600 r.length) [(600,.arr 1 (r.map Qb))]):=by
 refine Qd.walk 53 func19 rfl rfl rfl fun C hC=>?_
 refine Qa hC [.n 18,.adopt 3 48 1,.O 48 (.arr 1 (([]:List Int).map Qb)),.S 3 (.own 48 ([]:List Int).length),.K [1,3,4] [1,48]] rfl ⟨⟨tt_,rfl⟩,(congrArg (fun n=>V.own 48 n) (by simp))⟩ ?_
 obtain⟨G,s,h⟩:=Qc h
 refine AK.loop (body:=(fun st=>QcR a st.1 st.2)) (fun st σ=>σ=⟨[(1,.loc 1 0 0),(3,.own 48 st.2.length),(4,.I st.1)],[(1,.var (Qe a)),(48,.arr 1 (st.2.map Qb))]⟩) (fun q e σ=>e=.exit 0∧σ=⟨[(3,.own 48 q.length)],[(48,.arr 1 (q.map Qb))]⟩) s rfl ?_ ?_
 ·rintro ⟨c,d⟩ o σ rfl h
  refine Qa hC [.n 6,.o (.ln a.Places.length),.n 3] rfl ⟨tt_,Qi⟩ ?_
  refine bg_ h (fun m h=>Qa hC [.T,.n 2] rfl ⟨tt_,m⟩ ?_) fun m h=>Qa hC [.F,.n 2,.K [3] [48]] rfl ⟨tt_,m⟩ ?_
  ·refine AK.meet (fun σ=>∃l:(List Int),σ=⟨[(1,.loc 1 0 0),(3,.own 48 l.length),(4,.I c)],[(1,.var (Qe a)),(48,.arr 1 (l.map Qb))]⟩∧QfR c l=some o) ?_ ?_
   ·refine tg_ hC [.n 13,.K [1,3,4,5,6] [1,48]] rfl ?_
    obtain⟨in_15,t,h⟩:=Qc h
    refine AK.loop (body:=(fun st=>QbA a c st.1 st.2)) (fun st σ=>σ=⟨[(1,.loc 1 0 0),(3,.own 48 d.length),(4,.I c),(5,.b st.1),(6,.I st.2)],[(1,.var (Qe a)),(48,.arr 1 (d.map Qb))]⟩) (fun q e σ=>e=.exit 2∧σ=⟨[(1,.loc 1 0 0),(3,.own 48 d.length),(4,.I c),(5,.b q)],[(1,.var (Qe a)),(48,.arr 1 (d.map Qb))]⟩) t rfl ?_ ?_
    ·rintro ⟨in_11,f⟩ o σ rfl h
     refine Qa hC [.n 6,.o (.ln a.Tasks.length),.n 3] rfl ⟨tt_,Qi⟩ ?_
     refine bg_ h (fun g h=>Qa hC [.T,.n 10,.K [1,3,4,5,6,7] [1,48]] rfl ⟨tt_,g⟩ ?_) fun g h=>Qa hC [.F,.n 2,.K [1,3,4,5] [1,48]] rfl ⟨tt_,g⟩ ?_
     ·obtain⟨in_21,u,h⟩:=Qc h
      refine AK.loop (body:=(fun st=>Qbz a f c st.1 st.2)) (fun st σ=>σ=⟨[(1,.loc 1 0 0),(3,.own 48 d.length),(4,.I c),(5,.b st.1),(6,.I f),(7,.I st.2)],[(1,.var (Qe a)),(48,.arr 1 (d.map Qb))]⟩) (fun q e σ=>e=.exit 4∧σ=⟨[(1,.loc 1 0 0),(3,.own 48 d.length),(4,.I c),(5,.b q),(6,.I f)],[(1,.var (Qe a)),(48,.arr 1 (d.map Qb))]⟩) u rfl ?_ ?_
      ·rintro ⟨in_17,p⟩ o σ rfl h
       obtain⟨w,x,h⟩:=Qc h
       refine Qa hC [.n 7,.o (.row (Qg w)),.n 2,.o (.ln w.Cancel.length),.n 3] rfl ⟨⟨tt_,(QG x)⟩,Qi⟩ ?_
       refine bg_ h (fun i h=>Qa hC [.T,.n 4] rfl ⟨tt_,i⟩ ?_) fun i h=>Qa hC [.F,.n 2,.K [1,3,4,5,6] [1,48]] rfl ⟨tt_,i⟩ ?_
       ·obtain⟨in_24,y,h⟩:=Qc h
        replace h:QfS p in_24=some o:=h
        refine AK.meetX (fun σ=>σ=⟨[(1,.loc 1 0 0),(3,.own 48 d.length),(4,.I c),(5,.b in_24),(6,.I f),(7,.I p)],[(1,.var (Qe a)),(48,.arr 1 (d.map Qb))]⟩) ?_ ?_
        ·replace h:=y
         refine tg_ hC [.n 3] rfl ?_
         rcases Qt h with⟨j,h⟩|⟨j,h⟩
         ·refine Qa hC [.S 34 (.b true),.n 14,.K [1,3,4,5,6,7] [1,48]] rfl (tc_ j) ?_
          cases h
          exact AK.met rfl
         obtain⟨D,z,h⟩:=Qc h
         obtain⟨E,A,h⟩:=Qc h
         refine Qa hC [.S 34 (.b false),.n 3,.o (.row (Qg D)),.n 3,.o (.row (Qb E)),.n 6,.K [1,3,4,5,6,7] [1,48]] rfl ⟨⟨(tc_ j),(QG z)⟩,(QG A)⟩ ?_
         cases h
         exact AK.met rfl
        rintro σ rfl
        replace h:QfS p in_24=some o:=h
        refine tg_ hC [.n 7,.K [1,3,4,5,6,7] [1,48]] rfl ?_
        cases h
        exact QI rfl rfl
       cases h
       exact QJ rfl (an_ rfl rfl)
      replace h:QiS f in_21=some o:=h
      rintro e σ ⟨rfl,rfl⟩
      refine tg_ hC [.n 8,.K [1,3,4,5,6] [1,48]] rfl ?_
      cases h
      exact QI rfl rfl
     cases h
     exact QJ rfl (an_ rfl rfl)
    replace h:QiT d c in_15=some o:=h
    rintro e σ ⟨rfl,rfl⟩
    refine tg_ hC [.n 7] rfl ?_
    rcases Qt h with⟨k,h⟩|⟨k,h⟩
    ·obtain⟨B,h⟩:=Qap h
     refine Qa hC [.T,.n 3,.v (.bd []) [] (.sl 1 (([c]:List Int).map Qb)),.app ((d++([c]:List Int)).map Qb) (d++([c]:List Int)).length,.n 3,.K [1,3,4] [1,48]] rfl ⟨⟨⟨tt_,k⟩,rfl⟩,⟨Qi,QdA B Qi,Qcl,QeC Qi⟩⟩ ?_
     exact AK.met (ex_ _ (an_ rfl h))
    refine Qa hC [.F,.n 2,.K [1,3,4] [1,48]] rfl ⟨tt_,k⟩ ?_
    exact AK.met (ex_ _ (an_ rfl h))
   rintro σ ⟨l,rfl,h⟩
   refine tg_ hC [.n 5,.K [1,3,4] [1,48]] rfl ?_
   cases h
   exact QI rfl rfl
  cases h
  exact QJ rfl (an_ rfl rfl)
 replace h:Qml G=some r:=h
 rintro e σ ⟨rfl,rfl⟩
 refine tg_ hC [.n 9,.K [2] [48],.ren 48 600] rfl ?_
 cases h
 exact d1_ rfl rfl ⟨rfl,tt_⟩
def QlG (b:Int)(a:Int):Option ((Int×Int)⊕Int):=
 bif (a != 0)then
 (chk (a != 0)).bind fun _=>
 some (.inl (a,(Int.tmod b a)))
 else
 some (.inr b)
def QlH (a:Int):Option Int:=
 bif (decide (a<0))then
 some (w64 (0-a))
 else
 some a
def QhJ (a:Int)(b:Int):Option Int:=
 (Qq (fun st=>QlG st.1 st.2) (a,b)).bind (fun q=>QlH q)
theorem QlI (f g){r}(h:QhJ f g=some r):Qd prog 55 [.I f,.I g] [] (Qk (.I r) []):=by
 refine Qd.walk 18 func55 rfl rfl rfl fun C hC=>?_
 refine tg_ hC [.n 7,.K [0,1] []] rfl ?_
 obtain⟨i,c,h⟩:=Qc h
 refine AK.loop (body:=(fun st=>QlG st.1 st.2)) (fun st σ=>σ=⟨[(0,.I st.1),(1,.I st.2)],[]⟩) (fun q e σ=>e=.exit 0∧σ=⟨[(0,.I q)],[]⟩) c rfl ?_ ?_
 ·rintro ⟨j,k⟩ o σ rfl h
  refine tg_ hC [.n 7] rfl ?_
  rcases Qt h with⟨a,h⟩|⟨a,h⟩
  ·obtain⟨d,h⟩:=Qap h
   refine Qa hC [.T,.n 22,.K [0,1] []] rfl ⟨⟨tt_,a⟩,(neZ d)⟩ ?_
   cases h
   exact QI rfl rfl
  refine Qa hC [.F,.n 2,.K [0] []] rfl ⟨tt_,a⟩ ?_
  cases h
  exact QJ rfl (an_ rfl rfl)
 replace h:QlH i=some r:=h
 rintro e σ ⟨rfl,rfl⟩
 refine tg_ hC [.n 9] rfl ?_
 refine bg_ h (fun b h=>Qa hC [.T,.n 9,.K [4] []] rfl ⟨tt_,b⟩ ?_) fun b h=>Qa hC [.F,.n 9,.K [4] []] rfl ⟨tt_,b⟩ ?_
 ·cases h
  exact d1_ rfl rfl tt_
 cases h
 exact d1_ rfl rfl tt_
def Qda (a:(List Int))(d:Int)(b:Int):Option ((Int×Int)⊕Int):=
 bif (decide (b<(a.length:Int)))then
 (idx a b).bind fun e=>
 (QhJ d e).bind fun c=>
 some (.inl (c,(w64 (b+1))))
 else
 some (.inr d)
def Qbw (c:Int)(a:Int)(b:(List Int)):Option ((Int×(List Int))⊕(List Int)):=
 bif ((decide (a<(b.length:Int)))&&(decide (1<c)))then
 (idx b a).bind fun d=>
 (chk (c != 0)).bind fun _=>
 (idx b a).bind fun e=>
 some (.inl ((w64 (a+1)),(b.set a.toNat (w64 (Int.tdiv d c)))))
 else
 some (.inr b)
def Qlf (a:(List Int)):Option (List Int):=
 some a
def Qlg (a:(List Int))(b:Int):Option (List Int):=
 (chk (decide (([]:List Int).length+a.length≤4294967296))).bind fun _=>
 (Qq (fun st=>Qbw b st.1 st.2) (0,(([]:List Int)++a))).bind (fun q=>Qlf q)
def Qlh (a:(List Int)):Option (List Int):=
 (Qq (fun st=>Qda a st.1 st.2) (0,0)).bind (fun q=>Qlg a q)
theorem QtR (a){r}(h:Qlh a=some r):Qd prog 54 [.sl 1 (a.map Qb)] [] (Qk (.own 600 r.length) [(600,.arr 1 (r.map Qb))]):=by
 refine Qd.walk 42 func54 rfl rfl rfl fun C hC=>?_
 refine tg_ hC [.n 17,.K [0,3,4] []] rfl ?_
 obtain⟨k,t,h⟩:=Qc h
 refine AK.loop (body:=(fun st=>Qda a st.1 st.2)) (fun st σ=>σ=⟨[(0,.sl 1 (a.map Qb)),(3,.I st.1),(4,.I st.2)],[]⟩) (fun q e σ=>e=.exit 0∧σ=⟨[(0,.sl 1 (a.map Qb)),(3,.I q)],[]⟩) t rfl ?_ ?_
 ·rintro ⟨E,G⟩ o σ rfl h
  refine Qa hC [.n 5,.o (.ln a.length),.n 3] rfl ⟨tt_,Qi⟩ ?_
  rcases Qt h with⟨p,h⟩|⟨p,h⟩
  ·obtain⟨D,y,h⟩:=Qc h
   obtain⟨z,u,h⟩:=Qc h
   refine Qa hC [.T,.n 8,.o (.row (Qb D)),.n 1,.o (.c false [.d,.d] (.I z)),.n 9,.K [0,3,4] []] rfl ⟨⟨⟨tt_,p⟩,(QG y)⟩,(QlI _ _ u)⟩ ?_
   cases h
   exact QI rfl rfl
  refine Qa hC [.F,.n 2,.K [0,3] []] rfl ⟨tt_,p⟩ ?_
  cases h
  exact QJ rfl (an_ rfl rfl)
 replace h:Qlg a k=some r:=h
 rintro e σ ⟨rfl,rfl⟩
 obtain⟨v,h⟩:=Qap h
 refine Qa hC [.n 5,.O 19 (.arr 1 (([]:List Int).map Qb)),.S 19 (.own 19 ([]:List Int).length),.n 1,.app ((([]:List Int)++a).map Qb) (([]:List Int)++a).length,.n 10,.K [3,5,6] [19]] rfl ⟨⟨⟨tt_,rfl⟩,rfl⟩,⟨Qi,QdA v Qi,Qcl,QeC Qi⟩⟩ ?_
 obtain⟨A,w,h⟩:=Qc h
 refine AK.loop (body:=(fun st=>Qbw k st.1 st.2)) (fun st σ=>σ=⟨[(3,.I k),(5,.own 19 st.2.length),(6,.I st.1)],[(19,.arr 1 (st.2.map Qb))]⟩) (fun q e σ=>e=.exit 2∧σ=⟨[(5,.own 19 q.length)],[(19,.arr 1 (q.map Qb))]⟩) w rfl ?_ ?_
 ·rintro ⟨i,f⟩ o σ rfl h
  refine tg_ hC [.n 2] rfl ?_
  refine AK.meetX (fun σ=>σ=⟨[(3,.I k),(5,.own 19 f.length),(6,.I i),(29,.b ((decide (i<(f.length:Int)))&&(decide (1<k))))],[(19,.arr 1 (f.map Qb))]⟩) ?_ ?_
  ·refine tg_ hC [.n 6] rfl ?_
   rcases QZ (decide (i<(f.length:Int)))with g | g
   ·refine Qa hC [.S 26 (.b true),.n 4,.S 29 (.b ((decide (i<(f.length:Int)))&&(decide (1<k)))),.K [3,5,6,29] [19]] rfl ⟨(tc_ g),(congrArg V.b (QbZ g rfl))⟩ ?_
    exact AK.met rfl
   refine Qa hC [.S 26 (.b false),.n 4,.S 29 (.b ((decide (i<(f.length:Int)))&&(decide (1<k)))),.K [3,5,6,29] [19]] rfl ⟨(tc_ g),(congrArg V.b (QdE g rfl))⟩ ?_
   exact AK.met rfl
  rintro σ rfl
  refine tg_ hC [.n 1] rfl ?_
  rcases Qt h with⟨j,h⟩|⟨j,h⟩
  ·obtain⟨s,l,h⟩:=Qc h
   obtain⟨x,h⟩:=Qap h
   obtain⟨B,m,h⟩:=Qc h
   refine Qa hC [.T,.n 10,.o (.row (Qb s)),.n 3,.st (Qb B) ((f.set i.toNat (w64 (Int.tdiv s k))).map Qb),.n 8,.S 5 (.own 19 (f.set i.toNat (w64 (Int.tdiv s k))).length),.K [3,5,6] [19]] rfl ⟨⟨⟨⟨⟨⟨⟨tt_,j⟩,(Qah l rfl)⟩,(QW (Qao l).2)⟩,(neZ x)⟩,(Qah m rfl)⟩,⟨(QW (Qao m).2),QcL rfl⟩⟩,(congrArg (fun n=>V.own 19 n) (by simp))⟩ ?_
   cases h
   exact QI rfl rfl
  refine Qa hC [.F,.n 2,.K [5] [19]] rfl ⟨tt_,j⟩ ?_
  cases h
  exact QJ rfl (an_ rfl rfl)
 replace h:Qlf A=some r:=h
 rintro e σ ⟨rfl,rfl⟩
 refine tg_ hC [.n 9,.K [2] [19],.ren 19 600] rfl ?_
 cases h
 exact d1_ rfl rfl ⟨rfl,tt_⟩
def Qkz (f:QLL)(g:Int)(a:Int):Option Bool:=
 (idx f g).bind fun b=>
 (idx b a).bind fun c=>
 bif (decide (4<c))then
 some true
 else
 (idx f g).bind fun d=>
 (idx d a).bind fun e=>
 some (decide (e<(-4)))
def Qhm (a:Int)(b:Bool):Option (Int⊕(Unit⊕Unit)):=
 bif b then
 some (.inr (.inl ()))
 else
 some (.inl (w64 (a+1)))
def QbH (c:Qm)(d:QLL)(e:Int)(a:Int):Option (Int⊕(Unit⊕Unit)):=
 bif (decide (a<(c.Places.length:Int)))then
 (Qkz d e a).bind (fun b=>Qhm a b)
 else
 some (.inr (.inr ()))
def Qn3 : Option (Int⊕(Unit⊕Unit)):=
 some (.inr (.inl ()))
def Qn4 (a:Int):Option (Int⊕(Unit⊕Unit)):=
 some (.inl (w64 (a+1)))
def QbI (b:QLL)(c:Qm)(a:Int):Option (Int⊕(Unit⊕Unit)):=
 bif (decide (a<(b.length:Int)))then
 (Qq (fun st=>QbH c b a st) 0).bind (Sum.elim (fun q=>Qn3) (fun q=>Qn4 a))
 else
 some (.inr (.inr ()))
def Qn5 : Option (QLL×Int):=
 some (([]:List (List Int)),2)
def Qch (e:(List Int))(a:Qm)(b:Int)(c:QLL):Option ((Int×QLL)⊕QLL):=
 bif (decide (b<(e.length:Int)))then
 (chk (decide (0≤(a.Places.length:Int))&&decide ((a.Places.length:Int)≤(a.Places.length:Int))&&decide ((a.Places.length:Int)≤4294967296))).bind fun _=>
 (idx e b).bind fun d=>
 (idx (List.replicate (a.Places.length:Int).toNat (0:Int)) d).bind fun f=>
 (chk (decide (c.length+([((List.replicate (a.Places.length:Int).toNat (0:Int)).set d.toNat 1)]:List (List Int)).length≤4294967296))).bind fun _=>
 some (.inl ((w64 (b+1)),(c++([((List.replicate (a.Places.length:Int).toNat (0:Int)).set d.toNat 1)]:List (List Int)))))
 else
 some (.inr c)
def Qfc (b:Int)(a:Int)(c:QLL)(d:(List Int)):Option ((Int×Int×QLL×(List Int))⊕(QLL×(List Int))):=
 some (.inl (a,(w64 (b+1)),c,d))
def QmS (at_55:Int)(a:QLL)(b:Int):Option Bool:=
 bif (decide (at_55<(a.length:Int)))then
 (idx a at_55).bind fun c=>
 (idx c b).bind fun d=>
 some (d==0)
 else
 some false
def Qer (at_55:Int)(a:Bool):Option (Int⊕Int):=
 bif a then
 some (.inl (w64 (at_55+1)))
 else
 some (.inr at_55)
def Qcq (a:QLL)(b:Int)(at_55:Int):Option (Int⊕Int):=
 (QmS at_55 a b).bind (fun c=>Qer at_55 c)
def Qdd (a:Int)(b:QLL):Option ((Int×QLL)⊕QLL):=
 some (.inl ((w64 (a+1)),b))
def QmT (b:Int)(a:Int)(c:QLL)(d:Int):Option Bool:=
 bif (b==a)then
 some true
 else
 (idx c b).bind fun e=>
 (idx e d).bind fun f=>
 some (f==0)
def QbU (m:Qm)(c:QLL)(d:Int)(e:(List Int))(f:Int)(a:Int)(b:(List Int)):Option ((Int×(List Int))⊕(List Int)):=
 bif (decide (a<(m.Places.length:Int)))then
 (idx c d).bind fun g=>
 (idx g a).bind fun h=>
 (idx e f).bind fun i=>
 (idx e a).bind fun j=>
 (idx c d).bind fun k=>
 (idx k f).bind fun l=>
 (idx b a).bind fun n=>
 some (.inl ((w64 (a+1)),(b.set a.toNat (w64 ((w64 (h*i))-(w64 (j*l)))))))
 else
 some (.inr b)
def QjL (b:QLL)(a:Int)(d:(List Int)):Option ((Int×QLL)⊕QLL):=
 (Qlh d).bind fun c=>
 (idx b a).bind fun e=>
 Qdd a (b.set a.toNat c)
def Qes (a:Int)(b:QLL)(c:Qm)(d:(List Int))(e:Int)(f:Bool):Option ((Int×QLL)⊕QLL):=
 bif f then
 Qdd a b
 else
 (chk (decide (0≤(c.Places.length:Int))&&decide ((c.Places.length:Int)≤(c.Places.length:Int))&&decide ((c.Places.length:Int)≤4294967296))).bind fun _=>
 (Qq (fun st=>QbU c b a d e st.1 st.2) (0,(List.replicate (c.Places.length:Int).toNat (0:Int)))).bind (fun q=>QjL b a q)
def Qbq (a:Int)(d:Int)(g:Qm)(e:(List Int))(c:Int)(b:QLL):Option ((Int×QLL)⊕QLL):=
 bif (decide (c<(b.length:Int)))then
 (QmT c a b d).bind (fun f=>Qes c b g e d f)
 else
 some (.inr b)
def QjM (c:(List Int))(b:Int)(a:Int)(d:QLL):Option ((Int×Int×QLL×(List Int))⊕(QLL×(List Int))):=
 (idx (c.set b.toNat (-1)) b).bind fun e=>
 Qfc b (w64 (a+1)) d ((c.set b.toNat (-1)).set b.toNat a)
def QjN (b:QLL)(c:Int)(a:Int)(d:(List Int))(g:Qm)(at_57:Int):Option ((Int×Int×QLL×(List Int))⊕(QLL×(List Int))):=
 bif (decide ((b.length:Int)≤at_57))then
 Qfc c a b (d.set c.toNat (-1))
 else
 (idx b at_57).bind fun e=>
 (idx b a).bind fun f=>
 (idx b at_57).bind fun h=>
 (idx (b.set at_57.toNat f) a).bind fun i=>
 (Qq (fun st=>Qbq a c g e st.1 st.2) (0,((b.set at_57.toNat f).set a.toNat e))).bind (fun q=>QjM d c a q)
def QbV (e:Qm)(a:Int)(b:Int)(c:QLL)(d:(List Int)):Option ((Int×Int×QLL×(List Int))⊕(QLL×(List Int))):=
 bif (decide (b<(e.Places.length:Int)))then
 (idx d b).bind fun f=>
 (Qq (fun st=>Qcq c b st) a).bind (fun q=>QjN c b a d e q)
 else
 some (.inr (c,d))
def Qet (a:Int)(b:QLL):Option ((Int×QLL)⊕QLL):=
 some (.inl ((w64 (a+1)),b))
def Qeu (b:Int)(a:Int):Option ((Int×Int)⊕Int):=
 some (.inl (a,(w64 (b+1))))
def Qev (a:Int)(d:Int)(b:Int):Option ((Int×Int)⊕Int):=
 (QhJ a b).bind fun c=>
 (chk (c != 0)).bind fun _=>
 Qeu d (w64 ((w64 (Int.tdiv a c))*b))
def QbW (m:Qm)(f:(List Int))(l:QLL)(g:Int)(b:Int)(a:Int):Option ((Int×Int)⊕Int):=
 bif (decide (a<(m.Places.length:Int)))then
 (idx f a).bind fun h=>
 bif (decide (0≤h))then
 (idx f a).bind fun i=>
 (idx l i).bind fun d=>
 (idx d a).bind fun e=>
 (idx d a).bind fun j=>
 (idx d g).bind fun k=>
 (QhJ j k).bind fun c=>
 (chk (c != 0)).bind fun _=>
 bif (decide ((w64 (Int.tdiv e c))<0))then
 Qev b a (w64 (0-(w64 (Int.tdiv e c))))
 else
 Qev b a (w64 (Int.tdiv e c))
 else
 Qeu a b
 else
 some (.inr b)
def Qgt (a:Int)(b:(List Int)):Option ((Int×(List Int))⊕(List Int)):=
 some (.inl ((w64 (a+1)),b))
def QbX (m:Qm)(f:(List Int))(k:QLL)(g:Int)(c:Int)(a:Int)(b:(List Int)):Option ((Int×(List Int))⊕(List Int)):=
 bif (decide (a<(m.Places.length:Int)))then
 (idx f a).bind fun h=>
 bif (decide (0≤h))then
 (idx f a).bind fun i=>
 (idx k i).bind fun d=>
 (idx d g).bind fun j=>
 (idx d a).bind fun e=>
 (chk (e != 0)).bind fun _=>
 (idx b a).bind fun l=>
 Qgt a (b.set a.toNat (w64 (Int.tdiv (w64 ((w64 (0-j))*c)) e)))
 else
 Qgt a b
 else
 some (.inr b)
def QjO (a:QLL)(c:Int)(b:(List Int)):Option ((Int×QLL)⊕QLL):=
 (chk (decide (a.length+([b]:List (List Int)).length≤4294967296))).bind fun _=>
 Qet c (a++([b]:List (List Int)))
def QjP (c:Qm)(a:Int)(e:(List Int))(f:QLL)(d:QLL)(b:Int):Option ((Int×QLL)⊕QLL):=
 (chk (decide (0≤(c.Places.length:Int))&&decide ((c.Places.length:Int)≤(c.Places.length:Int))&&decide ((c.Places.length:Int)≤4294967296))).bind fun _=>
 (idx (List.replicate (c.Places.length:Int).toNat (0:Int)) a).bind fun g=>
 (Qq (fun st=>QbX c e f a b st.1 st.2) (0,((List.replicate (c.Places.length:Int).toNat (0:Int)).set a.toNat b))).bind (fun q=>QjO d a q)
def Qbr (f:Qm)(c:(List Int))(d:QLL)(a:Int)(b:QLL):Option ((Int×QLL)⊕QLL):=
 bif (decide (a<(f.Places.length:Int)))then
 (idx c a).bind fun e=>
 bif (decide (0≤e))then
 Qet a b
 else
 (Qq (fun st=>QbW f c d a st.1 st.2) (1,0)).bind (fun q=>QjP f a c d b q)
 else
 some (.inr b)
def QmU (a:QLL):Option (QLL×Int):=
 some (a,0)
def QjQ (c:Qm)(a:QLL)(b:(List Int)):Option (QLL×Int):=
 (Qq (fun st=>Qbr c b a st.1 st.2) (0,([]:List (List Int)))).bind (fun q=>QmU q)
def QjR (a:Qm)(b:QLL):Option (QLL×Int):=
 (chk (decide (0≤(a.Places.length:Int))&&decide ((a.Places.length:Int)≤(a.Places.length:Int))&&decide ((a.Places.length:Int)≤4294967296))).bind fun _=>
 (Qq (fun st=>QbV a st.1 st.2.1 st.2.2.1 st.2.2.2) (0,0,b,(List.replicate (a.Places.length:Int).toNat (0:Int)))).bind (fun q=>QjQ a q.1 q.2)
def Qgu (a:Qm)(c:QLL):Option (QLL×Int):=
 (QfT a).bind fun b=>
 (Qq (fun st=>Qch b a st.1 st.2) (0,c)).bind (fun q=>QjR a q)
def Qkl (a:Qm):Option (QLL×Int):=
 (Qim a).bind fun b=>
 bif (decide (8<(a.Places.length:Int)))then
 some (([]:List (List Int)),2)
 else
 (Qq (fun st=>QbI b a st) 0).bind (Sum.elim (fun q=>Qn5) (fun q=>Qgu a b))
theorem Qs8 (i){r}(h:Qkl i=some r):Qd prog 25 [.agg (Qe i)] [] (Qk (.tup [.sl 1 (r.1.map Qf),.I r.2]) []):=by
 refine Qd.walk 290 func25 rfl rfl rfl fun C hC=>?_
 obtain⟨G,m1,h⟩:=Qc h
 refine Qa hC [.n 11,.o (.ln i.Places.length),.n 5,.v .no [] (.agg (Qe i)),.o (.co false [.d] 1 (G.map Qf) G.length),.n 10] rfl ⟨⟨⟨tt_,Qi⟩,rfl⟩,⟨(Qrq _ m1),Qi,.inl rfl⟩⟩ ?_
 refine bg_ h (fun f0 h=>Qa hC [.T,.n 8,.denil 2 [some 1],.K [2,3] []] rfl ⟨tt_,f0⟩ ?_) fun f0 h=>Qa hC [.F,.n 9,.K [1,4,5,6] [1,32]] rfl ⟨tt_,f0⟩ ?_
 ·cases h
  exact d2_ rfl rfl rfl tt_
 obtain⟨m2,h7,h⟩:=Qc h
 refine AK.loop (body:=(fun st=>QbI G i st)) (fun st σ=>σ=⟨[(1,.loc 1 0 0),(4,.I (i.Places.length:Int)),(5,.own 32 G.length),(6,.I st)],[(1,.var (Qe i)),(32,.arr 1 (G.map Qf))]⟩) (Sum.elim (fun q e σ=>e=.ret∧σ=⟨[(2,.lit (.slice none 0 0)),(3,.I 2)],[]⟩) (fun q e σ=>e=.exit 0∧σ=⟨[(1,.loc 1 0 0),(4,.I (i.Places.length:Int)),(5,.own 32 G.length)],[(1,.var (Qe i)),(32,.arr 1 (G.map Qf))]⟩)) h7 rfl ?_ ?_
 ·rintro i8 o σ rfl h
  refine tg_ hC [.n 9] rfl ?_
  refine bg_ h (fun a2 h=>Qa hC [.T,.n 10,.K [1,4,5,6,7] [1,32]] rfl ⟨tt_,a2⟩ ?_) fun a2 h=>Qa hC [.F,.n 2,.K [1,4,5] [1,32]] rfl ⟨tt_,a2⟩ ?_
  ·obtain⟨m3,h8,h⟩:=Qc h
   refine AK.loop (body:=(fun st=>QbH i G i8 st)) (fun st σ=>σ=⟨[(1,.loc 1 0 0),(4,.I (i.Places.length:Int)),(5,.own 32 G.length),(6,.I i8),(7,.I st)],[(1,.var (Qe i)),(32,.arr 1 (G.map Qf))]⟩) (Sum.elim (fun q e σ=>e=.ret∧σ=⟨[(2,.lit (.slice none 0 0)),(3,.I 2)],[]⟩) (fun q e σ=>e=.exit 2∧σ=⟨[(1,.loc 1 0 0),(4,.I (i.Places.length:Int)),(5,.own 32 G.length),(6,.I i8)],[(1,.var (Qe i)),(32,.arr 1 (G.map Qf))]⟩)) h8 rfl ?_ ?_
   ·rintro f1 o σ rfl h
    refine tg_ hC [.n 8] rfl ?_
    refine bg_ h (fun a3 h=>Qa hC [.T,.n 5] rfl ⟨tt_,a3⟩ ?_) fun a3 h=>Qa hC [.F,.n 2,.K [1,4,5,6] [1,32]] rfl ⟨tt_,a3⟩ ?_
    ·obtain⟨f2,h9,h⟩:=Qc h
     replace h:Qhm f1 f2=some o:=h
     refine AK.meetX (fun σ=>σ=⟨[(1,.loc 1 0 0),(4,.I (i.Places.length:Int)),(5,.own 32 G.length),(6,.I i8),(7,.I f1),(63,.b f2)],[(1,.var (Qe i)),(32,.arr 1 (G.map Qf))]⟩) ?_ ?_
     ·replace h:=h9
      obtain⟨m4,d4,h⟩:=Qc h
      obtain⟨m5,i0,h⟩:=Qc h
      refine Qa hC [.n 4,.o (.row (Qf m4)),.n 1,.o (.row (Qb m5)),.n 3] rfl ⟨⟨⟨tt_,(Qah d4 rfl)⟩,(QW (Qao d4).2)⟩,(QG i0)⟩ ?_
      rcases Qt h with⟨a4,h⟩|⟨a4,h⟩
      ·refine Qa hC [.S 54 (.b true),.n 10,.K [1,4,5,6,7,63] [1,32]] rfl (tc_ a4) ?_
       cases h
       exact AK.met rfl
      obtain⟨m6,d5,h⟩:=Qc h
      obtain⟨m7,i1,h⟩:=Qc h
      refine Qa hC [.S 54 (.b false),.n 3,.o (.row (Qf m6)),.n 1,.o (.row (Qb m7)),.n 4,.K [1,4,5,6,7,63] [1,32]] rfl ⟨⟨⟨(tc_ a4),(Qah d5 rfl)⟩,(QW (Qao d5).2)⟩,(QG i1)⟩ ?_
      cases h
      exact AK.met rfl
     rintro σ rfl
     replace h:Qhm f1 f2=some o:=h
     refine tg_ hC [.n 1] rfl ?_
     refine bg_ h (fun a5 h=>Qa hC [.T,.n 9,.K [2,3] []] rfl ⟨tt_,a5⟩ ?_) fun a5 h=>Qa hC [.F,.n 8,.K [1,4,5,6,7] [1,32]] rfl ⟨tt_,a5⟩ ?_
     ·cases h
      exact Qbs rfl (an_ rfl rfl)
     cases h
     exact QI rfl rfl
    cases h
    exact QJ rfl (an_ rfl rfl)
   rcases m3 with(_ | _)
   ·replace h:Qn3=some o:=h
    rintro e σ ⟨rfl,rfl⟩
    refine tg_ hC [.n 3,.K [2,3] []] rfl ?_
    cases h
    exact Qbs rfl (an_ rfl rfl)
   replace h:Qn4 i8=some o:=h
   rintro e σ ⟨rfl,rfl⟩
   refine tg_ hC [.n 8,.K [1,4,5,6] [1,32]] rfl ?_
   cases h
   exact QI rfl rfl
  cases h
  exact QJ rfl (an_ rfl rfl)
 rcases m2 with(_ | _)
 ·replace h:Qn5=some r:=h
  rintro e σ ⟨rfl,rfl⟩
  refine tg_ hC [.n 2,.denil 2 [some 1]] rfl ?_
  cases h
  exact d2_ rfl rfl rfl tt_
 replace h:Qgu i G=some r:=h
 rintro e σ ⟨rfl,rfl⟩
 obtain⟨a6,i2,h⟩:=Qc h
 refine Qa hC [.n 4,.v .no [] (.agg (Qe i)),.o (.co false [.d] 1 (a6.map Qb) a6.length),.n 10,.K [4,5,8,9] [32,65]] rfl ⟨⟨tt_,rfl⟩,⟨(Qrr _ i2),Qi,.inl rfl⟩⟩ ?_
 obtain⟨m8,i3,h⟩:=Qc h
 refine AK.loop (body:=(fun st=>Qch a6 i st.1 st.2)) (fun st σ=>σ=⟨[(4,.I (i.Places.length:Int)),(5,.own 32 st.2.length),(8,.own 65 a6.length),(9,.I st.1)],[(32,.arr 1 (st.2.map Qf)),(65,.arr 1 (a6.map Qb))]⟩) (fun q e σ=>e=.exit 4∧σ=⟨[(4,.I (i.Places.length:Int)),(5,.own 32 q.length)],[(32,.arr 1 (q.map Qf))]⟩) i3 rfl ?_ ?_
 ·rintro ⟨o2,i4⟩ o σ rfl h
  refine tg_ hC [.n 9] rfl ?_
  rcases Qt h with⟨a7,h⟩|⟨a7,h⟩
  ·obtain⟨i5,h⟩:=Qap h
   obtain⟨z,d6,h⟩:=Qc h
   obtain⟨m9,d7,h⟩:=Qc h
   obtain⟨i6,h⟩:=Qap h
   refine Qa hC [.T,.n 7,.o (.rows ((List.replicate (i.Places.length:Int).toNat (0:Int)).map Qb)),.S 73 (.own 73 (List.replicate (i.Places.length:Int).toNat (0:Int)).length),.n 9,.o (.row (Qb z)),.n 1,.st (Qb m9) (((List.replicate (i.Places.length:Int).toNat (0:Int)).set z.toNat 1).map Qb),.n 5,.S 10 (.own 73 ((List.replicate (i.Places.length:Int).toNat (0:Int)).set z.toNat 1).length),.S 73 (.own 73 ((List.replicate (i.Places.length:Int).toNat (0:Int)).set z.toNat 1).length),.S 74 (.own 73 ((List.replicate (i.Places.length:Int).toNat (0:Int)).set z.toNat 1).length),.S 81 (.own 73 ((List.replicate (i.Places.length:Int).toNat (0:Int)).set z.toNat 1).length),.frz 73 (((List.replicate (i.Places.length:Int).toNat (0:Int)).set z.toNat 1).map Qb) [10,73,74,81] [],.v (.bd []) [] (.sl 1 (([((List.replicate (i.Places.length:Int).toNat (0:Int)).set z.toNat 1)]:List (List Int)).map Qf)),.app ((i4++([((List.replicate (i.Places.length:Int).toNat (0:Int)).set z.toNat 1)]:List (List Int))).map Qf) (i4++([((List.replicate (i.Places.length:Int).toNat (0:Int)).set z.toNat 1)]:List (List Int))).length,.n 9,.K [4,5,8,9] [32,65]] rfl ⟨⟨⟨⟨⟨⟨⟨⟨⟨⟨⟨⟨⟨⟨tt_,a7⟩,⟨i5,Qit rfl⟩⟩,(by simp)⟩,(Qah d6 rfl)⟩,(QW (Qao d6).2)⟩,(Qah d7 rfl)⟩,⟨(QW (Qao d7).2),QcL rfl⟩⟩,(congrArg (fun n=>V.own 73 n) (by simp))⟩,(congrArg (fun n=>V.own 73 n) (by simp))⟩,(congrArg (fun n=>V.own 73 n) (by simp))⟩,(congrArg (fun n=>V.own 73 n) (by simp))⟩,⟨⟨⟨⟨tt_,(Qcm Qi)⟩,(Qcm Qi)⟩,(Qcm Qi)⟩,(Qcm Qi)⟩⟩,rfl⟩,⟨Qi,QdA i6 Qi,Qcl,QeC Qi⟩⟩ ?_
   cases h
   exact QI rfl rfl
  refine Qa hC [.F,.n 2,.K [4,5] [32]] rfl ⟨tt_,a7⟩ ?_
  cases h
  exact QJ rfl (an_ rfl rfl)
 replace h:QjR i m8=some r:=h
 rintro e σ ⟨rfl,rfl⟩
 obtain⟨i7,h⟩:=Qap h
 refine Qa hC [.n 5,.o (.rows ((List.replicate (i.Places.length:Int).toNat (0:Int)).map Qb)),.S 85 (.own 85 (List.replicate (i.Places.length:Int).toNat (0:Int)).length),.n 15,.K [4,5,11,12,13] [32,85]] rfl ⟨⟨tt_,⟨i7,Qit rfl⟩⟩,(by simp)⟩ ?_
 obtain⟨i9,f3,h⟩:=Qc h
 refine AK.loop (body:=(fun st=>QbV i st.1 st.2.1 st.2.2.1 st.2.2.2)) (fun st σ=>σ=⟨[(4,.I (i.Places.length:Int)),(5,.own 32 st.2.2.1.length),(11,.own 85 st.2.2.2.length),(12,.I st.1),(13,.I st.2.1)],[(32,.arr 1 (st.2.2.1.map Qf)),(85,.arr 1 (st.2.2.2.map Qb))]⟩) (fun q e σ=>e=.exit 6∧σ=⟨[(4,.I (i.Places.length:Int)),(5,.own 32 q.1.length),(11,.own 85 q.2.length)],[(32,.arr 1 (q.1.map Qf)),(85,.arr 1 (q.2.map Qb))]⟩) f3 rfl ?_ ?_
 ·rintro ⟨g,f,x,k⟩ o σ rfl h
  refine tg_ hC [.n 8] rfl ?_
  refine bg_ h (fun a8 h=>Qa hC [.T,.n 2] rfl ⟨tt_,a8⟩ ?_) fun a8 h=>Qa hC [.F,.n 2,.K [4,5,11] [32,85]] rfl ⟨tt_,a8⟩ ?_
  ·refine AK.meet (fun σ=>∃A:Int,∃d0:QLL,∃d1:(List Int),σ=⟨[(4,.I (i.Places.length:Int)),(5,.own 32 d0.length),(11,.own 85 d1.length),(12,.I A),(13,.I f)],[(32,.arr 1 (d0.map Qf)),(85,.arr 1 (d1.map Qb))]⟩∧Qfc f A d0 d1=some o) ?_ ?_
   ·obtain⟨n0,d8,h⟩:=Qc h
    refine Qa hC [.n 6,.st (Qb n0) ((k.set f.toNat (-1)).map Qb),.n 10,.S 11 (.own 85 (k.set f.toNat (-1)).length),.K [4,5,11,12,13,14] [32,85]] rfl ⟨⟨⟨tt_,(Qah d8 rfl)⟩,⟨(QW (Qao d8).2),QcL rfl⟩⟩,(congrArg (fun n=>V.own 85 n) (by simp))⟩ ?_
    obtain⟨at_57,j1,h⟩:=Qc h
    refine AK.loop (body:=(fun st=>Qcq x f st)) (fun st σ=>σ=⟨[(4,.I (i.Places.length:Int)),(5,.own 32 x.length),(11,.own 85 (k.set f.toNat (-1)).length),(12,.I g),(13,.I f),(14,.I st)],[(32,.arr 1 (x.map Qf)),(85,.arr 1 ((k.set f.toNat (-1)).map Qb))]⟩) (fun q e σ=>e=.exit 8∧σ=⟨[(4,.I (i.Places.length:Int)),(5,.own 32 x.length),(11,.own 85 (k.set f.toNat (-1)).length),(12,.I g),(13,.I f),(14,.I q)],[(32,.arr 1 (x.map Qf)),(85,.arr 1 ((k.set f.toNat (-1)).map Qb))]⟩) j1 rfl ?_ ?_
    ·rintro at_55 o σ rfl h
     refine tg_ hC [.n 2] rfl ?_
     obtain⟨f4,j2,h⟩:=Qc h
     replace h:Qer at_55 f4=some o:=h
     refine AK.meetX (fun σ=>σ=⟨[(4,.I (i.Places.length:Int)),(5,.own 32 x.length),(11,.own 85 (k.set f.toNat (-1)).length),(12,.I g),(13,.I f),(14,.I at_55),(108,.b f4)],[(32,.arr 1 (x.map Qf)),(85,.arr 1 ((k.set f.toNat (-1)).map Qb))]⟩) ?_ ?_
     ·replace h:=j2
      refine tg_ hC [.n 6] rfl ?_
      rcases Qt h with⟨a9,h⟩|⟨a9,h⟩
      ·obtain⟨n2,d9,h⟩:=Qc h
       obtain⟨n3,j3,h⟩:=Qc h
       refine Qa hC [.S 99 (.b true),.n 3,.o (.row (Qf n2)),.n 1,.o (.row (Qb n3)),.n 4,.K [4,5,11,12,13,14,108] [32,85]] rfl ⟨⟨⟨(tc_ a9),(Qah d9 rfl)⟩,(QW (Qao d9).2)⟩,(QG j3)⟩ ?_
       cases h
       exact AK.met rfl
      refine Qa hC [.S 99 (.b false),.n 10,.K [4,5,11,12,13,14,108] [32,85]] rfl (tc_ a9) ?_
      cases h
      exact AK.met rfl
     rintro σ rfl
     replace h:Qer at_55 f4=some o:=h
     refine tg_ hC [.n 1] rfl ?_
     refine bg_ h (fun b0 h=>Qa hC [.T,.n 9,.K [4,5,11,12,13,14] [32,85]] rfl ⟨tt_,b0⟩ ?_) fun b0 h=>Qa hC [.F,.n 2,.K [4,5,11,12,13,14] [32,85]] rfl ⟨tt_,b0⟩ ?_
     ·cases h
      exact QI rfl rfl
     cases h
     exact QJ rfl (an_ rfl rfl)
    replace h:QjN x f g k i at_57=some o:=h
    rintro e σ ⟨rfl,rfl⟩
    refine tg_ hC [.n 11] rfl ?_
    rcases Qt h with⟨b1,h⟩|⟨b1,h⟩
    ·refine Qa hC [.T,.n 3,.K [4,5,11,12,13] [32,85]] rfl ⟨tt_,b1⟩ ?_
     exact AK.met (ex_ _ (ex_ _ (ex_ _ (an_ rfl h))))
    obtain⟨u,e0,h⟩:=Qc h
    obtain⟨d2,e1,h⟩:=Qc h
    obtain⟨n4,e2,h⟩:=Qc h
    obtain⟨n5,e3,h⟩:=Qc h
    refine Qa hC [.F,.n 7,.o (.row (Qf u)),.n 10,.o (.row (Qf d2)),.n 1,.st (Qf n4) ((x.set at_57.toNat d2).map Qf),.n 8,.st (Qf n5) (((x.set at_57.toNat d2).set g.toNat u).map Qf),.n 9,.S 5 (.own 32 ((x.set at_57.toNat d2).set g.toNat u).length),.K [4,5,11,12,13,15,16] [32,85]] rfl ⟨⟨⟨⟨⟨⟨⟨⟨⟨⟨tt_,b1⟩,(Qah e0 rfl)⟩,(QW (Qao e0).2)⟩,(Qah e1 rfl)⟩,(QW (Qao e1).2)⟩,(Qah e2 rfl)⟩,⟨(QW (Qao e2).2),QcL rfl⟩⟩,(Qah e3 (by simp))⟩,⟨(QW (Qao e3).2),QcL rfl⟩⟩,(congrArg (fun n=>V.own 32 n) (by simp))⟩ ?_
    obtain⟨n6,f5,h⟩:=Qc h
    refine AK.loop (body:=(fun st=>Qbq g f i u st.1 st.2)) (fun st σ=>σ=⟨[(4,.I (i.Places.length:Int)),(5,.own 32 st.2.length),(11,.own 85 (k.set f.toNat (-1)).length),(12,.I g),(13,.I f),(15,.sl 1 (u.map Qb)),(16,.I st.1)],[(32,.arr 1 (st.2.map Qf)),(85,.arr 1 ((k.set f.toNat (-1)).map Qb))]⟩) (fun q e σ=>e=.exit 10∧σ=⟨[(4,.I (i.Places.length:Int)),(5,.own 32 q.length),(11,.own 85 (k.set f.toNat (-1)).length),(12,.I g),(13,.I f)],[(32,.arr 1 (q.map Qf)),(85,.arr 1 ((k.set f.toNat (-1)).map Qb))]⟩) f5 rfl ?_ ?_
    ·rintro ⟨y,w⟩ o σ rfl h
     refine tg_ hC [.n 9] rfl ?_
     refine bg_ h (fun b2 h=>Qa hC [.T,.n 2] rfl ⟨tt_,b2⟩ ?_) fun b2 h=>Qa hC [.F,.n 2,.K [4,5,11,12,13] [32,85]] rfl ⟨tt_,b2⟩ ?_
     ·refine AK.meet (fun σ=>∃d3:QLL,σ=⟨[(4,.I (i.Places.length:Int)),(5,.own 32 d3.length),(11,.own 85 (k.set f.toNat (-1)).length),(12,.I g),(13,.I f),(15,.sl 1 (u.map Qb)),(16,.I y)],[(32,.arr 1 (d3.map Qf)),(85,.arr 1 ((k.set f.toNat (-1)).map Qb))]⟩∧Qdd y d3=some o) ?_ ?_
      ·refine tg_ hC [.n 3] rfl ?_
       obtain⟨f6,j4,h⟩:=Qc h
       replace h:Qes y w i u f f6=some o:=h
       refine AK.meetX (fun σ=>σ=⟨[(4,.I (i.Places.length:Int)),(5,.own 32 w.length),(11,.own 85 (k.set f.toNat (-1)).length),(12,.I g),(13,.I f),(15,.sl 1 (u.map Qb)),(16,.I y),(148,.b f6)],[(32,.arr 1 (w.map Qf)),(85,.arr 1 ((k.set f.toNat (-1)).map Qb))]⟩) ?_ ?_
       ·replace h:=j4
        refine tg_ hC [.n 5] rfl ?_
        rcases Qt h with⟨b3,h⟩|⟨b3,h⟩
        ·refine Qa hC [.S 139 (.b true),.n 10,.K [4,5,11,12,13,15,16,148] [32,85]] rfl (tc_ b3) ?_
         cases h
         exact AK.met rfl
        obtain⟨n7,e4,h⟩:=Qc h
        obtain⟨n8,j5,h⟩:=Qc h
        refine Qa hC [.S 139 (.b false),.n 3,.o (.row (Qf n7)),.n 1,.o (.row (Qb n8)),.n 4,.K [4,5,11,12,13,15,16,148] [32,85]] rfl ⟨⟨⟨(tc_ b3),(Qah e4 rfl)⟩,(QW (Qao e4).2)⟩,(QG j5)⟩ ?_
        cases h
        exact AK.met rfl
       rintro σ rfl
       replace h:Qes y w i u f f6=some o:=h
       refine tg_ hC [.n 1] rfl ?_
       rcases Qt h with⟨b4,h⟩|⟨b4,h⟩
       ·refine Qa hC [.T,.n 3,.K [4,5,11,12,13,15,16] [32,85]] rfl ⟨tt_,b4⟩ ?_
        exact AK.met (ex_ _ (an_ rfl h))
       obtain⟨j6,h⟩:=Qap h
       refine Qa hC [.F,.n 5,.o (.rows ((List.replicate (i.Places.length:Int).toNat (0:Int)).map Qb)),.S 150 (.own 150 (List.replicate (i.Places.length:Int).toNat (0:Int)).length),.n 10,.K [4,5,11,12,13,15,16,17,18] [32,85,150]] rfl ⟨⟨⟨tt_,b4⟩,⟨j6,Qit rfl⟩⟩,(by simp)⟩ ?_
       obtain⟨j7,j8,h⟩:=Qc h
       refine AK.loop (body:=(fun st=>QbU i w y u f st.1 st.2)) (fun st σ=>σ=⟨[(4,.I (i.Places.length:Int)),(5,.own 32 w.length),(11,.own 85 (k.set f.toNat (-1)).length),(12,.I g),(13,.I f),(15,.sl 1 (u.map Qb)),(16,.I y),(17,.own 150 st.2.length),(18,.I st.1)],[(32,.arr 1 (w.map Qf)),(85,.arr 1 ((k.set f.toNat (-1)).map Qb)),(150,.arr 1 (st.2.map Qb))]⟩) (fun q e σ=>e=.exit 12∧σ=⟨[(4,.I (i.Places.length:Int)),(5,.own 32 w.length),(11,.own 85 (k.set f.toNat (-1)).length),(12,.I g),(13,.I f),(15,.sl 1 (u.map Qb)),(16,.I y),(17,.own 150 q.length)],[(32,.arr 1 (w.map Qf)),(85,.arr 1 ((k.set f.toNat (-1)).map Qb)),(150,.arr 1 (q.map Qb))]⟩) j8 rfl ?_ ?_
       ·rintro ⟨j9,k0⟩ o σ rfl h
        refine tg_ hC [.n 8] rfl ?_
        rcases Qt h with⟨b5,h⟩|⟨b5,h⟩
        ·obtain⟨n9,e5,h⟩:=Qc h
         obtain⟨f7,k1,h⟩:=Qc h
         obtain⟨f8,k2,h⟩:=Qc h
         obtain⟨f9,k3,h⟩:=Qc h
         obtain⟨o0,e6,h⟩:=Qc h
         obtain⟨g0,k4,h⟩:=Qc h
         obtain⟨o1,e7,h⟩:=Qc h
         refine Qa hC [.T,.n 4,.K [4,5,11,12,13,15,16,17,18] [32,85,150]] rfl ⟨tt_,b5⟩ ?_
         refine AK.draw2 Qr hC mixed [.N,.N,.N,.N,.N,.a (.row (Qf n9)) none false,.N,.a (.row (Qb f7)) none false,.N,.N,.N,.a (.row (Qb f8)) none false,.N,.N,.N,.N,.a (.row (Qb f9)) none false,.N,.N,.N,.N,.a (.row (Qf o0)) none false,.N,.a (.row (Qb g0)) none false,.N,.N,.N,.N,.m (.st (Qb o1) ((k0.set j9.toNat (w64 ((w64 (f7*f8))-(w64 (f9*g0))))).map Qb))] [] [] [4,5,11,12,13,15,16,17,18] [32,85,150] rfl rfl rfl ⟨⟨⟨⟨⟨⟨⟨⟨⟨⟨tt_,(Qah e5 rfl)⟩,(QW (Qao e5).2)⟩,(QG k1)⟩,(QG k2)⟩,(QG k3)⟩,(Qah e6 rfl)⟩,(QW (Qao e6).2)⟩,(QG k4)⟩,(Qah e7 rfl)⟩,⟨(QW (Qao e7).2),QcL rfl⟩⟩ rfl (by kernel_rfl) rfl rfl rfl ?_
         refine Qa hC [.n 7,.S 17 (.own 150 (k0.set j9.toNat (w64 ((w64 (f7*f8))-(w64 (f9*g0))))).length),.K [4,5,11,12,13,15,16,17,18] [32,85,150]] rfl ⟨tt_,(congrArg (fun n=>V.own 150 n) (by simp))⟩ ?_
         cases h
         exact QI rfl rfl
        refine Qa hC [.F,.n 2,.K [4,5,11,12,13,15,16,17] [32,85,150]] rfl ⟨tt_,b5⟩ ?_
        cases h
        exact QJ rfl (an_ rfl rfl)
       replace h:QjL w y j7=some o:=h
       rintro e σ ⟨rfl,rfl⟩
       obtain⟨D,g1,h⟩:=Qc h
       obtain⟨k5,b6,h⟩:=Qc h
       refine Qa hC [.n 6,.o (.co true [.o (j7.map Qb)] 1 (D.map Qb) D.length),.n 1,.frz 187 (D.map Qb) [187] [],.st (Qf k5) ((w.set y.toNat D).map Qf),.n 2,.S 5 (.own 32 (w.set y.toNat D).length),.K [4,5,11,12,13,15,16] [32,85]] rfl ⟨⟨⟨⟨⟨tt_,⟨(QkD rfl),⟨(QtR _ g1),Qi,.inr (Qq9 _)⟩⟩⟩,(Qah b6 rfl)⟩,⟨tt_,(Qcm Qi)⟩⟩,⟨(QW (Qao b6).2),QcL rfl⟩⟩,(congrArg (fun n=>V.own 32 n) (by simp))⟩ ?_
       exact AK.met (ex_ _ (an_ rfl h))
      rintro σ ⟨d3,rfl,h⟩
      refine tg_ hC [.n 5,.K [4,5,11,12,13,15,16] [32,85]] rfl ?_
      cases h
      exact QI rfl rfl
     cases h
     exact QJ rfl (an_ rfl rfl)
    replace h:QjM k f g n6=some o:=h
    rintro e σ ⟨rfl,rfl⟩
    obtain⟨k6,b7,h⟩:=Qc h
    refine Qa hC [.n 8,.st (Qb k6) (((k.set f.toNat (-1)).set f.toNat g).map Qb),.n 8,.S 11 (.own 85 ((k.set f.toNat (-1)).set f.toNat g).length),.K [4,5,11,12,13] [32,85]] rfl ⟨⟨⟨tt_,(Qah b7 rfl)⟩,⟨(QW (Qao b7).2),QcL rfl⟩⟩,(congrArg (fun n=>V.own 85 n) (by simp))⟩ ?_
    exact AK.met (ex_ _ (ex_ _ (ex_ _ (an_ rfl h))))
   rintro σ ⟨A,d0,d1,rfl,h⟩
   refine tg_ hC [.n 5,.K [4,5,11,12,13] [32,85]] rfl ?_
   cases h
   exact QI rfl rfl
  cases h
  exact QJ rfl (an_ rfl rfl)
 obtain⟨l,p⟩:=i9
 replace h:QjQ i l p=some r:=h
 rintro e σ ⟨rfl,rfl⟩
 refine Qa hC [.n 14,.adopt 19 285 1,.O 285 (.arr 1 (([]:List (List Int)).map Qf)),.S 19 (.own 285 ([]:List (List Int)).length),.K [4,5,11,19,20] [32,85,285]] rfl ⟨⟨tt_,rfl⟩,(congrArg (fun n=>V.own 285 n) (by simp))⟩ ?_
 obtain⟨e8,g2,h⟩:=Qc h
 refine AK.loop (body:=(fun st=>Qbr i p l st.1 st.2)) (fun st σ=>σ=⟨[(4,.I (i.Places.length:Int)),(5,.own 32 l.length),(11,.own 85 p.length),(19,.own 285 st.2.length),(20,.I st.1)],[(32,.arr 1 (l.map Qf)),(85,.arr 1 (p.map Qb)),(285,.arr 1 (st.2.map Qf))]⟩) (fun q e σ=>e=.exit 14∧σ=⟨[(19,.own 285 q.length)],[(285,.arr 1 (q.map Qf))]⟩) g2 rfl ?_ ?_
 ·rintro ⟨s,j⟩ o σ rfl h
  refine tg_ hC [.n 8] rfl ?_
  refine bg_ h (fun H h=>Qa hC [.T,.n 2] rfl ⟨tt_,H⟩ ?_) fun H h=>Qa hC [.F,.n 2,.K [19] [285]] rfl ⟨tt_,H⟩ ?_
  ·refine AK.meet (fun σ=>∃X:QLL,σ=⟨[(4,.I (i.Places.length:Int)),(5,.own 32 l.length),(11,.own 85 p.length),(19,.own 285 X.length),(20,.I s)],[(32,.arr 1 (l.map Qf)),(85,.arr 1 (p.map Qb)),(285,.arr 1 (X.map Qf))]⟩∧Qet s X=some o) ?_ ?_
   ·obtain⟨k7,b8,h⟩:=Qc h
    refine Qa hC [.n 7,.o (.row (Qb k7)),.n 3] rfl ⟨⟨tt_,(Qah b8 rfl)⟩,(QW (Qao b8).2)⟩ ?_
    refine bg_ h (fun J h=>Qa hC [.T,.n 3,.K [4,5,11,19,20] [32,85,285]] rfl ⟨tt_,J⟩ ?_) fun J h=>Qa hC [.F,.n 14,.K [4,5,11,19,20,21,22] [32,85,285]] rfl ⟨tt_,J⟩ ?_
    ·exact AK.met (ex_ _ (an_ rfl h))
    obtain⟨t,g3,h⟩:=Qc h
    refine AK.loop (body:=(fun st=>QbW i p l s st.1 st.2)) (fun st σ=>σ=⟨[(4,.I (i.Places.length:Int)),(5,.own 32 l.length),(11,.own 85 p.length),(19,.own 285 j.length),(20,.I s),(21,.I st.1),(22,.I st.2)],[(32,.arr 1 (l.map Qf)),(85,.arr 1 (p.map Qb)),(285,.arr 1 (j.map Qf))]⟩) (fun q e σ=>e=.exit 16∧σ=⟨[(4,.I (i.Places.length:Int)),(5,.own 32 l.length),(11,.own 85 p.length),(19,.own 285 j.length),(20,.I s),(21,.I q)],[(32,.arr 1 (l.map Qf)),(85,.arr 1 (p.map Qb)),(285,.arr 1 (j.map Qf))]⟩) g3 rfl ?_ ?_
    ·rintro ⟨Y,Z⟩ o σ rfl h
     refine tg_ hC [.n 8] rfl ?_
     refine bg_ h (fun L h=>Qa hC [.T,.n 2] rfl ⟨tt_,L⟩ ?_) fun L h=>Qa hC [.F,.n 2,.K [4,5,11,19,20,21] [32,85,285]] rfl ⟨tt_,L⟩ ?_
     ·refine AK.meet (fun σ=>∃B:Int,σ=⟨[(4,.I (i.Places.length:Int)),(5,.own 32 l.length),(11,.own 85 p.length),(19,.own 285 j.length),(20,.I s),(21,.I B),(22,.I Z)],[(32,.arr 1 (l.map Qf)),(85,.arr 1 (p.map Qb)),(285,.arr 1 (j.map Qf))]⟩∧Qeu Z B=some o) ?_ ?_
      ·obtain⟨k8,b9,h⟩:=Qc h
       refine Qa hC [.n 6,.o (.row (Qb k8)),.n 3] rfl ⟨⟨tt_,(Qah b9 rfl)⟩,(QW (Qao b9).2)⟩ ?_
       rcases Qt h with⟨M,h⟩|⟨M,h⟩
       ·obtain⟨k9,c0,h⟩:=Qc h
        obtain⟨l0,c1,h⟩:=Qc h
        obtain⟨l1,g4,h⟩:=Qc h
        obtain⟨l2,g5,h⟩:=Qc h
        obtain⟨l3,g6,h⟩:=Qc h
        obtain⟨l4,g7,h⟩:=Qc h
        obtain⟨g8,h⟩:=Qap h
        refine Qa hC [.T,.n 6,.o (.row (Qb k9)),.n 1,.o (.row (Qf l0)),.n 4,.K [4,5,11,19,20,21,22,23] [32,85,285]] rfl ⟨⟨⟨⟨⟨tt_,M⟩,(Qah c0 rfl)⟩,(QW (Qao c0).2)⟩,(Qah c1 rfl)⟩,(QW (Qao c1).2)⟩ ?_
        refine AK.draw2 Qr hC mixed [.N,.N,.a (.row (Qb l1)) none false,.N,.N,.N,.a (.row (Qb l2)) none false,.N,.N,.N,.a (.row (Qb l3)) none false,.N,.a (.c false [.d,.d] (.I l4)) none false,.N,.N] [] [] [4,5,11,19,20,21,22,24] [32,85,285] rfl rfl rfl ⟨⟨⟨⟨⟨tt_,(QG g4)⟩,(QG g5)⟩,(QG g6)⟩,(QlI _ _ g7)⟩,(neZ g8)⟩ rfl (by kernel_rfl) rfl rfl rfl ?_
        refine tg_ hC [.n 1] rfl ?_
        refine AK.meet (fun σ=>∃c2:Int,σ=⟨[(4,.I (i.Places.length:Int)),(5,.own 32 l.length),(11,.own 85 p.length),(19,.own 285 j.length),(20,.I s),(21,.I Y),(22,.I Z),(24,.I c2)],[(32,.arr 1 (l.map Qf)),(85,.arr 1 (p.map Qb)),(285,.arr 1 (j.map Qf))]⟩∧Qev Y Z c2=some o) ?_ ?_
        ·refine tg_ hC [.n 6] rfl ?_
         refine bg_ h (fun P h=>Qa hC [.T,.n 5,.K [4,5,11,19,20,21,22,24] [32,85,285]] rfl ⟨tt_,P⟩ ?_) fun P h=>Qa hC [.F,.n 1,.K [4,5,11,19,20,21,22,24] [32,85,285]] rfl ⟨tt_,P⟩ ?_
         ·exact AK.met (ex_ _ (an_ rfl h))
         exact AK.met (ex_ _ (an_ rfl h))
        rintro σ ⟨c2,rfl,h⟩
        obtain⟨l5,g9,h⟩:=Qc h
        obtain⟨h0,h⟩:=Qap h
        refine Qa hC [.n 4,.o (.c false [.d,.d] (.I l5)),.n 6,.K [4,5,11,19,20,21,22] [32,85,285]] rfl ⟨⟨tt_,(QlI _ _ g9)⟩,(neZ h0)⟩ ?_
        exact AK.met (ex_ _ (an_ rfl h))
       refine Qa hC [.F,.n 2,.K [4,5,11,19,20,21,22] [32,85,285]] rfl ⟨tt_,M⟩ ?_
       exact AK.met (ex_ _ (an_ rfl h))
      rintro σ ⟨B,rfl,h⟩
      refine tg_ hC [.n 5,.K [4,5,11,19,20,21,22] [32,85,285]] rfl ?_
      cases h
      exact QI rfl rfl
     cases h
     exact QJ rfl (an_ rfl rfl)
    replace h:QjP i s p l j t=some o:=h
    rintro e σ ⟨rfl,rfl⟩
    obtain⟨h1,h⟩:=Qap h
    obtain⟨l6,c3,h⟩:=Qc h
    refine Qa hC [.n 5,.o (.rows ((List.replicate (i.Places.length:Int).toNat (0:Int)).map Qb)),.S 248 (.own 248 (List.replicate (i.Places.length:Int).toNat (0:Int)).length),.n 9,.st (Qb l6) (((List.replicate (i.Places.length:Int).toNat (0:Int)).set s.toNat t).map Qb),.n 9,.S 25 (.own 248 ((List.replicate (i.Places.length:Int).toNat (0:Int)).set s.toNat t).length),.K [4,5,11,19,20,21,25,26] [32,85,248,285]] rfl ⟨⟨⟨⟨⟨tt_,⟨h1,Qit rfl⟩⟩,(by simp)⟩,(Qah c3 rfl)⟩,⟨(QW (Qao c3).2),QcL rfl⟩⟩,(congrArg (fun n=>V.own 248 n) (by simp))⟩ ?_
    obtain⟨E,h2,h⟩:=Qc h
    refine AK.loop (body:=(fun st=>QbX i p l s t st.1 st.2)) (fun st σ=>σ=⟨[(4,.I (i.Places.length:Int)),(5,.own 32 l.length),(11,.own 85 p.length),(19,.own 285 j.length),(20,.I s),(21,.I t),(25,.own 248 st.2.length),(26,.I st.1)],[(32,.arr 1 (l.map Qf)),(85,.arr 1 (p.map Qb)),(248,.arr 1 (st.2.map Qb)),(285,.arr 1 (j.map Qf))]⟩) (fun q e σ=>e=.exit 18∧σ=⟨[(4,.I (i.Places.length:Int)),(5,.own 32 l.length),(11,.own 85 p.length),(19,.own 285 j.length),(20,.I s),(25,.own 248 q.length)],[(32,.arr 1 (l.map Qf)),(85,.arr 1 (p.map Qb)),(248,.arr 1 (q.map Qb)),(285,.arr 1 (j.map Qf))]⟩) h2 rfl ?_ ?_
    ·rintro ⟨a0,e9⟩ o σ rfl h
     refine tg_ hC [.n 8] rfl ?_
     refine bg_ h (fun U h=>Qa hC [.T,.n 2] rfl ⟨tt_,U⟩ ?_) fun U h=>Qa hC [.F,.n 2,.K [4,5,11,19,20,25] [32,85,248,285]] rfl ⟨tt_,U⟩ ?_
     ·refine AK.meet (fun σ=>∃a1:(List Int),σ=⟨[(4,.I (i.Places.length:Int)),(5,.own 32 l.length),(11,.own 85 p.length),(19,.own 285 j.length),(20,.I s),(21,.I t),(25,.own 248 a1.length),(26,.I a0)],[(32,.arr 1 (l.map Qf)),(85,.arr 1 (p.map Qb)),(248,.arr 1 (a1.map Qb)),(285,.arr 1 (j.map Qf))]⟩∧Qgt a0 a1=some o) ?_ ?_
      ·obtain⟨l7,c4,h⟩:=Qc h
       refine Qa hC [.n 6,.o (.row (Qb l7)),.n 3] rfl ⟨⟨tt_,(Qah c4 rfl)⟩,(QW (Qao c4).2)⟩ ?_
       rcases Qt h with⟨W,h⟩|⟨W,h⟩
       ·obtain⟨l8,c5,h⟩:=Qc h
        obtain⟨l9,c6,h⟩:=Qc h
        obtain⟨c7,h3,h⟩:=Qc h
        obtain⟨c8,h4,h⟩:=Qc h
        obtain⟨h5,h⟩:=Qap h
        obtain⟨m0,c9,h⟩:=Qc h
        refine Qa hC [.T,.n 6,.o (.row (Qb l8)),.n 1,.o (.row (Qf l9)),.n 3,.K [4,5,11,19,20,21,25,26,27] [32,85,248,285]] rfl ⟨⟨⟨⟨⟨tt_,W⟩,(Qah c5 rfl)⟩,(QW (Qao c5).2)⟩,(Qah c6 rfl)⟩,(QW (Qao c6).2)⟩ ?_
        refine AK.draw2 Qr hC mixed [.N,.N,.N,.N,.a (.row (Qb c7)) none false,.N,.N,.N,.N,.N,.N,.a (.row (Qb c8)) none false,.N,.N,.N,.m (.st (Qb m0) ((e9.set a0.toNat (w64 (Int.tdiv (w64 ((w64 (0-c7))*t)) c8))).map Qb))] [] [] [4,5,11,19,20,21,25,26] [32,85,248,285] rfl rfl rfl ⟨⟨⟨⟨⟨tt_,(QG h3)⟩,(QG h4)⟩,(neZ h5)⟩,(Qah c9 rfl)⟩,⟨(QW (Qao c9).2),QcL rfl⟩⟩ rfl (by kernel_rfl) rfl rfl rfl ?_
        refine Qa hC [.n 1,.S 25 (.own 248 (e9.set a0.toNat (w64 (Int.tdiv (w64 ((w64 (0-c7))*t)) c8))).length),.K [4,5,11,19,20,21,25,26] [32,85,248,285]] rfl ⟨tt_,(congrArg (fun n=>V.own 248 n) (by simp))⟩ ?_
        exact AK.met (ex_ _ (an_ rfl h))
       refine Qa hC [.F,.n 2,.K [4,5,11,19,20,21,25,26] [32,85,248,285]] rfl ⟨tt_,W⟩ ?_
       exact AK.met (ex_ _ (an_ rfl h))
      rintro σ ⟨a1,rfl,h⟩
      refine tg_ hC [.n 5,.K [4,5,11,19,20,21,25,26] [32,85,248,285]] rfl ?_
      cases h
      exact QI rfl rfl
     cases h
     exact QJ rfl (an_ rfl rfl)
    replace h:QjO j s E=some o:=h
    rintro e σ ⟨rfl,rfl⟩
    obtain⟨h6,h⟩:=Qap h
    refine Qa hC [.n 5,.frz 248 (E.map Qb) [25,286] [],.v (.bd []) [] (.sl 1 (([E]:List (List Int)).map Qf)),.app ((j++([E]:List (List Int))).map Qf) (j++([E]:List (List Int))).length,.n 3,.K [4,5,11,19,20] [32,85,285]] rfl ⟨⟨⟨tt_,⟨⟨tt_,(Qcm Qi)⟩,(Qcm Qi)⟩⟩,rfl⟩,⟨Qi,QdA h6 Qi,Qcl,QeC Qi⟩⟩ ?_
    exact AK.met (ex_ _ (an_ rfl h))
   rintro σ ⟨X,rfl,h⟩
   refine tg_ hC [.n 5,.K [4,5,11,19,20] [32,85,285]] rfl ?_
   cases h
   exact QI rfl rfl
  cases h
  exact QJ rfl (an_ rfl rfl)
 replace h:QmU e8=some r:=h
 rintro e σ ⟨rfl,rfl⟩
 refine Qa hC [.n 10,.frz 285 (e8.map Qf) [2] []] rfl ⟨tt_,⟨tt_,(Qcm Qi)⟩⟩ ?_
 cases h
 exact d2_ rfl rfl rfl tt_
def Qbv (e:(QLL×Int))(b:Int)(a:Int):Option (Int⊕Unit):=
 (idx e.1 b).bind fun c=>
 bif (decide (a<(c.length:Int)))then
 (idx e.1 b).bind fun d=>
 (idx d a).bind fun f=>
 some (.inl (w64 (a+1)))
 else
 some (.inr ())
def QkE (a:Int):Option (Int⊕Unit):=
 some (.inl (w64 (a+1)))
def QaX (b:(QLL×Int))(a:Int):Option (Int⊕Unit):=
 bif (decide (a<(b.1.length:Int)))then
 (Qq (fun st=>Qbv b a st) 0).bind (fun q=>QkE a)
 else
 some (.inr ())
def QkF (d:Bool)(e:Bool)(f:(QLL×Int))(c:(QLL×Int))(a:(QLL×Int)):Option Bool:=
 bif d then
 bif e then
 bif (f.2==c.2)then
 (QeY a.1 c.1).bind fun b=>
 some b
 else
 some false
 else
 some false
 else
 some false
def QgJ (a:Bool):Option Bool:=
 some a
def QgK (c:Qm)(d:Bool)(e:Bool)(f:(QLL×Int))(g:(QLL×Int)):Option Bool:=
 (QbL c).bind fun a=>
 (QkF d e f g a).bind (fun b=>QgJ b)
def Qd3 (a:Qm):Option Bool:=
 (Qka).bind fun c=>
 (Qle a).bind fun e=>
 bif (!e)then
 some c
 else
 (QbL a).bind fun b=>
 (Qkl a).bind fun d=>
 (QeY b.1 d.1).bind fun f=>
 (Qq (fun st=>QaX b st) 0).bind (fun q=>QgK a c f b d)
theorem Qpz (k){r}(h:Qd3 k=some r):Qd prog 4 [.agg (Qe k)] [] (Qk (.b r) []):=by
 refine Qd.walk 73 func4 rfl rfl rfl fun C hC=>?_
 obtain⟨O,a5,h⟩:=Qc h
 obtain⟨x5,a6,h⟩:=Qc h
 refine Qa hC [.n 8,.o (.c false [] (.b O)),.n 5,.v .no [] (.agg (Qe k)),.o (.c false [.d] (.b x5)),.n 10] rfl ⟨⟨⟨tt_,(QsS  a5)⟩,rfl⟩,(QtQ _ a6)⟩ ?_
 rcases Qt h with⟨L,h⟩|⟨L,h⟩
 ·refine Qa hC [.T,.n 8] rfl ⟨tt_,L⟩ ?_
  cases h
  exact d1_ rfl rfl tt_
 obtain⟨f,a7,h⟩:=Qc h
 obtain⟨l,a8,h⟩:=Qc h
 obtain⟨P,a9,h⟩:=Qc h
 refine Qa hC [.F,.n 4,.v .no [] (.agg (Qe k))] rfl ⟨⟨tt_,L⟩,rfl⟩ ?_
 refine AK.opE rfl (Qxe.thaw (g:=false) (Qa5.fn rfl (Qr.en rfl) rfl) rfl (QE hC.n rfl) hC.g (.cons (.dat _ rfl) .nil) (fun β=>QmG β _ a7) (fun β=>Qm9.map2 (g:=Qf) (Qzc β) (fun _=>rfl) rfl) rfl) fun y=>?_
 refine Qa hC [.n 9,.v .no [] (.agg (Qe k)),.o (.c false [.d] (.tup [.sl 1 (l.1.map Qf),.I l.2])),.n 11,.o (.c true [.t 22,.d] (.b P)),.n 10,.K [1,3,5,6,7,8,9,10] [1,22]] rfl ⟨⟨⟨tt_,rfl⟩,(Qs8 _ a8)⟩,⟨rfl,(QhY _ _ a9)⟩⟩ ?_
 obtain⟨b0,U,h⟩:=Qc h
 refine AK.scrib (d:=22) (q:=0) (z':=1) (rs:=f.1.map Qf) (ls:=f.1.map fun e=>e.length) rfl (by simp) (fun i r hr=>by
  obtain⟨e,he,rfl⟩:=QV.1 (Q8▸hr)
  exact⟨e.map Qb,rfl,by rw [Q8,he];simp,by decide,fun u hu=>by obtain⟨n,_,rfl⟩:=Qp.1 hu;exact⟨n,rfl⟩⟩) fun D H hS=>?_
 obtain⟨a,c,rfl,hS⟩:=hS
 have hS2:∀{i:Int} {e:List Int},idx f.1 i=some e→(0≤i∧i<((f.1.map fun e=>e.length).length:Int))∧∃b off y,a=some ⟨b,off,none⟩∧H b (off+i.toNat*1) y∧QzB 1 D y e.length:=fun {i e} he=>by
  obtain⟨h0,h1⟩:=Qao he
  obtain⟨b,off,y,e1,e2,e3⟩:=hS i.toNat e.length (by rw [Q8,h1];rfl)
  have:=(QC.1 h1).1
  exact⟨⟨h0,by rw [Qgb];omega⟩,b,off,y,e1,e2,e3⟩
 refine tg_ hC [.K [1,3,5,6,7,8,9,10] [1,22]] rfl ?_
 refine AK.loop (body:=(fun st=>QaX f st)) (fun st σ=>σ=⟨[(1,.loc 1 0 0),(3,.b O),(5,.lit (.slice a (f.1.map fun e=>e.length).length c)),(6,.I f.2),(7,.sl 1 (l.1.map Qf)),(8,.I l.2),(9,.b P),(10,.I st)],[(1,.var (Qe k)),(22,.scr D H)]⟩) (fun q e σ=>e=.exit 0∧σ=⟨[(1,.loc 1 0 0),(3,.b O),(6,.I f.2),(7,.sl 1 (l.1.map Qf)),(8,.I l.2),(9,.b P)],[(1,.var (Qe k)),(22,.scr D H)]⟩) U rfl ?_ ?_
 ·rintro j o σ rfl h
  refine Qa hC [.n 5,.x (fun σ=>σ.put 35 (.I (f.1.map fun e=>e.length).length)),.S 35 (.I f.1.length),.n 3] rfl ⟨⟨tt_,Stp.lenLit rfl rfl (QE hC.n rfl) rfl (Qr.es rfl)⟩,congrArg (fun n:Nat=>V.I n) (by simp)⟩ ?_
  refine bg_ h (fun m h=>Qa hC [.T,.n 10,.K [1,3,5,6,7,8,9,10,11] [1,22]] rfl ⟨tt_,m⟩ ?_) fun m h=>Qa hC [.F,.n 2,.K [1,3,6,7,8,9] [1,22]] rfl ⟨tt_,m⟩ ?_
  ·obtain⟨b1,W,h⟩:=Qc h
   refine AK.loop (body:=(fun st=>Qbv f j st)) (fun st σ=>σ=⟨[(1,.loc 1 0 0),(3,.b O),(5,.lit (.slice a (f.1.map fun e=>e.length).length c)),(6,.I f.2),(7,.sl 1 (l.1.map Qf)),(8,.I l.2),(9,.b P),(10,.I j),(11,.I st)],[(1,.var (Qe k)),(22,.scr D H)]⟩) (fun q e σ=>e=.exit 2∧σ=⟨[(1,.loc 1 0 0),(3,.b O),(5,.lit (.slice a (f.1.map fun e=>e.length).length c)),(6,.I f.2),(7,.sl 1 (l.1.map Qf)),(8,.I l.2),(9,.b P),(10,.I j)],[(1,.var (Qe k)),(22,.scr D H)]⟩) W rfl ?_ ?_
   ·rintro X o σ rfl h
    obtain⟨M,B,h⟩:=Qc h
    obtain⟨⟨Y,Z⟩,b,off,y,rfl,hH,a2,c2,rfl,hD⟩:=hS2 B
    refine Qa hC [.n 6,.x (fun σ=>σ.put 42 (.lit (.pointer (some ⟨b,off+j.toNat*1,none⟩)))),.x (fun σ=>σ.put 43 (.lit (.slice a2 M.length c2))),.x (fun σ=>σ.put 44 (.I M.length)),.n 3] rfl ⟨⟨⟨tt_,Stp.idxLit rfl rfl (QE hC.n rfl) rfl rfl (Qr.es rfl) Y Z⟩,Stp.loadScr (p:=22) rfl rfl (QE hC.n rfl) rfl (Qr.ag rfl) rfl hH⟩,Stp.lenLit rfl rfl (QE hC.n rfl) rfl (Qr.es rfl)⟩ ?_
    rcases Qt h with⟨s,h⟩|⟨s,h⟩
    ·obtain⟨b7,E,h⟩:=Qc h
     obtain⟨b8,G,h⟩:=Qc h
     rw [B]at E
     rw [←Option.some.inj E]at G
     obtain⟨b3,b4⟩:=Qao G
     have b5:=(QC.1 b4).1
     obtain⟨b2,J,rfl,hD2⟩:=hD X.toNat b5
     refine Qa hC [.T,.n 7,.x (fun σ=>σ.put 50 (.lit (.pointer (some ⟨b,off+j.toNat*1,none⟩)))),.x (fun σ=>σ.put 51 (.lit (.slice (some ⟨b2,J,none⟩) M.length c2))),.n 1,.x (fun σ=>σ.put 53 (.lit (.pointer (some ⟨b2,J+X.toNat*1,none⟩)))),.x (fun σ=>σ.set 22 (.scr D H)),.n 8,.K [1,3,5,6,7,8,9,10,11] [1,22]] rfl ⟨⟨⟨⟨⟨tt_,s⟩,Stp.idxLit rfl rfl (QE hC.n rfl) rfl rfl (Qr.es rfl) Y Z⟩,Stp.loadScr (p:=22) rfl rfl (QE hC.n rfl) rfl (Qr.ag rfl) rfl hH⟩,Stp.idxLit rfl rfl (QE hC.n rfl) rfl rfl (Qr.es rfl) b3 (by omega)⟩,Stp.storeScr (p:=22) rfl rfl rfl rfl (Qr.sz rfl) rfl hD2⟩ ?_
     cases h
     exact QI rfl rfl
    refine Qa hC [.F,.n 2,.K [1,3,5,6,7,8,9,10] [1,22]] rfl ⟨tt_,s⟩ ?_
    cases h
    exact QJ rfl (an_ rfl rfl)
   obtain _:=b1
   replace h:QkE j=some o:=h
   rintro e σ ⟨rfl,rfl⟩
   refine tg_ hC [.n 8,.K [1,3,5,6,7,8,9,10] [1,22]] rfl ?_
   cases h
   exact QI rfl rfl
  cases h
  exact QJ rfl (an_ rfl rfl)
 obtain _:=b0
 replace h:QgK k O P f l=some r:=h
 rintro e σ ⟨rfl,rfl⟩
 obtain⟨a0,a1,h⟩:=Qc h
 refine Qa hC [.n 4,.v .no [] (.agg (Qe k)),.o (.c false [.d] (.tup [.sl 1 (a0.1.map Qf),.I a0.2])),.n 8] rfl ⟨⟨tt_,rfl⟩,(QnE _ a1)⟩ ?_
 obtain⟨N,a3,h⟩:=Qc h
 replace h:QgJ N=some r:=h
 refine AK.meetX (fun σ=>σ=⟨[(2,.b N)],[]⟩) ?_ ?_
 ·replace h:=a3
  refine tg_ hC [.n 3] rfl ?_
  refine bg_ h (fun w h=>Qa hC [.S 60 (.b true),.n 3] rfl (tc_ w) ?_) fun w h=>Qa hC [.S 60 (.b false),.n 14,.K [2] []] rfl (tc_ w) ?_
  ·refine bg_ h (fun z h=>Qa hC [.S 63 (.b true),.n 5] rfl (tc_ z) ?_) fun z h=>Qa hC [.S 63 (.b false),.n 11,.K [2] []] rfl (tc_ z) ?_
   ·rcases Qt h with⟨A,h⟩|⟨A,h⟩
    ·obtain⟨b6,a4,h⟩:=Qc h
     refine Qa hC [.S 68 (.b true),.n 2,.o (.c false [.d,.d] (.b b6)),.n 3,.K [2] []] rfl ⟨(tc_ A),(QhY _ _ a4)⟩ ?_
     cases h
     exact AK.met rfl
    refine Qa hC [.S 68 (.b false),.n 6,.K [2] []] rfl (tc_ A) ?_
    cases h
    exact AK.met rfl
   cases h
   exact AK.met rfl
  cases h
  exact AK.met rfl
 rintro σ rfl
 replace h:QgJ N=some r:=h
 refine tg_ hC [.n 2] rfl ?_
 cases h
 exact d1_ rfl rfl tt_

end Go.Proofs
