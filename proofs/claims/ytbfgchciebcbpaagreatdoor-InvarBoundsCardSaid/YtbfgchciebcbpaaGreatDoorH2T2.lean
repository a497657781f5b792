/- What functions of the program do, as functions over plain data, and the walks that show it: printed by a program. -/
import Derived.Test.YtbfgchciebcbpaaGreatDoorH2T1
set_option linter.unusedVariables false
set_option linter.unusedSimpArgs false
set_option linter.unusedSectionVars false
set_option linter.deprecated false
set_option maxRecDepth 100000
set_option maxHeartbeats 4000000
noncomputable section
namespace Go.Proofs
open Go Go.RowKit Go.Vm Go.Proofs.Tryz
def QbG (c:QBg)(d:Int)(a:Int):Option (Int⊕(Int⊕Unit)):=
 bif (decide (a<(c.length:Int)))then
 (idx c a).bind fun e=>
 (Qh5 e d).bind fun b=>
 bif b then
 some (.inr (.inl a))
 else
 some (.inl (w64 (a+1)))
 else
 some (.inr (.inr ()))
def QbH (a:Int):Option Int:=
 some a
def QbI : Option Int:=
 some (-1)
def Qce (a:QBg)(b:Int):Option Int:=
 (QE (fun st=>QbG a b st) 0).bind (Sum.elim (fun q=>QbH q) (fun q=>QbI))
theorem Qlr (g c){r}(h:Qce g c=some r):Qd prog 182 [.sl 2 (g.map QK),.clo (.func 120) [] [.loc 615 0 0]] [(615,.var (Qb c))] (Gives (.I r) [(615,.var (Qb c))]):=by
 refine Qd.walk 19 func182 rfl rfl rfl fun C hC=>?_
 refine Qa hC [.n 9,.o (.ln g.length),.n 4,.K [0,1,7,8] [615]] rfl ⟨tt_,Qg⟩ ?_
 obtain⟨k,i,h⟩:=Qc h
 refine AK.loop (body:=(fun st=>QbG g c st)) (fun st σ=>σ=⟨[(0,.sl 2 (g.map QK)),(1,.clo (.func 120) [] [.loc 615 0 0]),(7,.I (g.length:Int)),(8,.I st)],[(615,.var (Qb c))]⟩) (Sum.elim (fun q e σ=>e=.ret∧σ=⟨[(4,.I q)],[(615,.var (Qb c))]⟩) (fun q e σ=>e=.exit 0∧σ=⟨[],[(615,.var (Qb c))]⟩)) i rfl ?_ ?_
 ·rintro t o σ rfl h
  refine tg_ hC [.n 6] rfl ?_
  rcases Qt h with⟨f,h⟩|⟨f,h⟩
  ·obtain⟨p,l,h⟩:=Qc h
   obtain⟨m,j,h⟩:=Qc h
   refine Qa hC [.T,.n 15,.o (.row (QK p)),.v .no [] (.agg (QK p)),.cm (.clo) [(615,615)] [(615,615)] [] [.d,.d] [(615,.var (Qb c))] (.b m),.n 2] rfl ⟨⟨⟨⟨tt_,f⟩,(QJ l)⟩,rfl⟩,(Qtc _ _ j)⟩ ?_
   refine bg_ h (fun a h=>Qa hC [.T,.n 9,.K [4] [615]] rfl ⟨tt_,a⟩ ?_) fun a h=>Qa hC [.F,.n 7,.K [0,1,7,8] [615]] rfl ⟨tt_,a⟩ ?_
   ·cases h
    exact Qal rfl (an_ rfl rfl)
   cases h
   exact QZ rfl rfl
  refine Qa hC [.F,.n 2,.K [] [615]] rfl ⟨tt_,f⟩ ?_
  cases h
  exact Q1 rfl (an_ rfl rfl)
 rcases k with(s | _)
 ·replace h:QbH s=some r:=h
  rintro e σ ⟨rfl,rfl⟩
  refine tg_ hC [.n 2] rfl ?_
  cases h
  exact d1_ rfl rfl ⟨rfl,tt_⟩
 replace h:QbI=some r:=h
 rintro e σ ⟨rfl,rfl⟩
 refine tg_ hC [.n 8] rfl ?_
 cases h
 exact d1_ rfl rfl ⟨rfl,tt_⟩
def QbJ (a:QBg)(b:Int):Option Bool:=
 (Qce a b).bind fun c=>
 some (decide (0≤c))
theorem Qjy (e a){r}(h:QbJ e a=some r):Qd prog 119 [.sl 2 (e.map QK),.clo (.func 120) [] [.loc 615 0 0]] [(615,.var (Qb a))] (Gives (.b r) [(615,.var (Qb a))]):=by
 refine Qd.walk 9 func119 rfl rfl rfl fun C hC=>?_
 obtain⟨f,c,h⟩:=Qc h
 refine Qa hC [.n 9,.cm (.fn) [(615,615)] [(615,615)] [] [.d,.d] [(615,.var (Qb a))] (.I f),.n 5] rfl ⟨tt_,(Qlr _ _ c)⟩ ?_
 cases h
 exact d1_ rfl rfl ⟨rfl,tt_⟩
def Qj2 (b:Qk)(a:QW):Option Bool:=
 (Qbd b.Colours a.Colour).bind fun c=>
 (QbJ a.First c).bind fun d=>
 some (!d)
theorem QuC (a e){r}(h:Qj2 a e=some r):Qd prog 118 [.loc 615 0 0,.loc 616 0 0] [(615,.var (Qe a)),(616,.var (QC e))] (Gives (.b r) [(615,.var (Qe a)),(616,.var (QC e))]):=by
 refine Qd.walk 14 func118 rfl rfl rfl fun C hC=>?_
 obtain⟨f,g,h⟩:=Qc h
 obtain⟨j,i,h⟩:=Qc h
 refine Qa hC [.n 11,.o (.c false [.d,.d] (.I f)),.n 2,.O 3 (.var (Qb f)),.n 7,.cm (.fn) [(615,3)] [(3,615)] [] [.d,.d] [(615,.var (Qb f))] (.b j),.n 5] rfl ⟨⟨⟨tt_,(QiT _ _ g)⟩,rfl⟩,(Qjy _ _ i)⟩ ?_
 cases h
 exact d1_ rfl rfl ⟨rfl,rfl,tt_⟩
def QiU (a:QW)(h:Int)(b:Qk)(i:Int)(j:Int)(k:Int)(l:Int)(m:Int):Option Int:=
 (QjX a).bind fun c=>
 bif (!c)then
 some h
 else
 (QjZ b i a).bind fun d=>
 bif (!d)then
 some j
 else
 (Qj0 b a).bind fun e=>
 bif (!e)then
 some k
 else
 (Qj1 a).bind fun f=>
 bif (!f)then
 some l
 else
 (Qj2 b a).bind fun g=>
 bif (!g)then
 some m
 else
 some 0
theorem QtS (k u l w x y z A){r}(h:QiU k u l w x y z A=some r):Qd prog 64 [.own 615 5] [(615,.var [.clo (.func 112) [] [.loc 616 0 0],.I u,.clo (.func 113) [] [.loc 617 0 0,.loc 618 0 0,.loc 619 0 0],.I x,.clo (.func 115) [] [.loc 617 0 0,.loc 616 0 0],.I y,.clo (.func 117) [] [.loc 616 0 0],.I z,.clo (.func 118) [] [.loc 617 0 0,.loc 616 0 0],.I A]),(616,.var (QC k)),(617,.var (Qe l)),(618,.var (Qb w)),(619,.var [.clo (.func 111) [] [.loc 616 0 0]])] (Gives (.I r) [(615,.var [.clo (.func 112) [] [.loc 616 0 0],.I u,.clo (.func 113) [] [.loc 617 0 0,.loc 618 0 0,.loc 619 0 0],.I x,.clo (.func 115) [] [.loc 617 0 0,.loc 616 0 0],.I y,.clo (.func 117) [] [.loc 616 0 0],.I z,.clo (.func 118) [] [.loc 617 0 0,.loc 616 0 0],.I A]),(616,.var (QC k)),(617,.var (Qe l)),(618,.var (Qb w)),(619,.var [.clo (.func 111) [] [.loc 616 0 0]])]):=by
 refine Qd.walk 18 func64 rfl rfl rfl fun C hC=>?_
 refine tg_ hC [.n 14] rfl ?_
 refine AK.loopN 6 (AK.rnd ?_)
 obtain⟨B,m,h⟩:=Qc h
 refine Qa hC [.n 2,.v .no [] (.b true),.n 10,.o (.any (.loc 615 0 0) none),.n 3,.O 4 (.var [.clo (.func 112) [] [.loc 616 0 0],.I u]),.n 6,.cm (.clo) [(615,616)] [(616,615)] [] [.d] [(615,.var (QC k))] (.b B),.n 3] rfl ⟨⟨⟨⟨tt_,rfl⟩,(fun σ a j _=>Stp.idxV rfl rfl (QH hC.n rfl) (a _ _ rfl) (a _ _ rfl) (Qs.es rfl) (j _ _ rfl) (by decide))⟩,rfl⟩,(Qux _ m)⟩ ?_
 refine bg_ h (fun c h=>Qa hC [.T,.n 13,.K [2] [615,616,617,618,619]] rfl ⟨tt_,c⟩ ?_) fun c h=>Qa hC [.F,.n 4,.v .no [] (.I 1),.n 2] rfl ⟨⟨tt_,c⟩,rfl⟩ ?_
 ·cases h
  exact d1_ rfl rfl ⟨rfl,rfl,rfl,rfl,rfl,tt_⟩
 refine AK.met (AK.rnd ?_)
 obtain⟨D,p,h⟩:=Qc h
 refine Qa hC [.n 2,.v .no [] (.b true),.n 10,.o (.any (.loc 615 0 2) none),.n 1,.kill 4,.n 2,.O 4 (.var [.clo (.func 113) [] [.loc 617 0 0,.loc 618 0 0,.loc 619 0 0],.I x]),.n 6,.cm (.clo) [(615,617),(616,618),(617,619),(618,616)] [(617,615),(618,616),(619,617),(616,618)] [] [.d,.d,.d] [(615,.var (Qe l)),(616,.var (Qb w)),(617,.var [.clo (.func 111) [] [.loc 618 0 0]]),(618,.var (QC k))] (.b D),.n 3] rfl ⟨⟨⟨⟨tt_,rfl⟩,(fun σ a j _=>Stp.idxV rfl rfl (QH hC.n rfl) (a _ _ rfl) (a _ _ rfl) (Qs.es rfl) (j _ _ rfl) (by decide))⟩,rfl⟩,(Quz _ _ _ p)⟩ ?_
 refine bg_ h (fun e h=>Qa hC [.T,.n 13,.K [2] [615,616,617,618,619]] rfl ⟨tt_,e⟩ ?_) fun e h=>Qa hC [.F,.n 4,.v .no [] (.I 2),.n 2] rfl ⟨⟨tt_,e⟩,rfl⟩ ?_
 ·cases h
  exact d1_ rfl rfl ⟨rfl,rfl,rfl,rfl,rfl,tt_⟩
 refine AK.met (AK.rnd ?_)
 obtain⟨E,q,h⟩:=Qc h
 refine Qa hC [.n 2,.v .no [] (.b true),.n 10,.o (.any (.loc 615 0 4) none),.n 1,.kill 4,.n 2,.O 4 (.var [.clo (.func 115) [] [.loc 617 0 0,.loc 616 0 0],.I y]),.n 6,.cm (.clo) [(615,617),(616,616)] [(617,615),(616,616)] [] [.d,.d] [(615,.var (Qe l)),(616,.var (QC k))] (.b E),.n 3] rfl ⟨⟨⟨⟨tt_,rfl⟩,(fun σ a j _=>Stp.idxV rfl rfl (QH hC.n rfl) (a _ _ rfl) (a _ _ rfl) (Qs.es rfl) (j _ _ rfl) (by decide))⟩,rfl⟩,(QuA _ _ q)⟩ ?_
 refine bg_ h (fun f h=>Qa hC [.T,.n 13,.K [2] [615,616,617,618,619]] rfl ⟨tt_,f⟩ ?_) fun f h=>Qa hC [.F,.n 4,.v .no [] (.I 3),.n 2] rfl ⟨⟨tt_,f⟩,rfl⟩ ?_
 ·cases h
  exact d1_ rfl rfl ⟨rfl,rfl,rfl,rfl,rfl,tt_⟩
 refine AK.met (AK.rnd ?_)
 obtain⟨G,s,h⟩:=Qc h
 refine Qa hC [.n 2,.v .no [] (.b true),.n 10,.o (.any (.loc 615 0 6) none),.n 1,.kill 4,.n 2,.O 4 (.var [.clo (.func 117) [] [.loc 616 0 0],.I z]),.n 6,.cm (.clo) [(615,616)] [(616,615)] [] [.d] [(615,.var (QC k))] (.b G),.n 3] rfl ⟨⟨⟨⟨tt_,rfl⟩,(fun σ a j _=>Stp.idxV rfl rfl (QH hC.n rfl) (a _ _ rfl) (a _ _ rfl) (Qs.es rfl) (j _ _ rfl) (by decide))⟩,rfl⟩,(QuB _ s)⟩ ?_
 refine bg_ h (fun g h=>Qa hC [.T,.n 13,.K [2] [615,616,617,618,619]] rfl ⟨tt_,g⟩ ?_) fun g h=>Qa hC [.F,.n 4,.v .no [] (.I 4),.n 2] rfl ⟨⟨tt_,g⟩,rfl⟩ ?_
 ·cases h
  exact d1_ rfl rfl ⟨rfl,rfl,rfl,rfl,rfl,tt_⟩
 refine AK.met (AK.rnd ?_)
 obtain⟨H,t,h⟩:=Qc h
 refine Qa hC [.n 2,.v .no [] (.b true),.n 10,.o (.any (.loc 615 0 8) none),.n 1,.kill 4,.n 2,.O 4 (.var [.clo (.func 118) [] [.loc 617 0 0,.loc 616 0 0],.I A]),.n 6,.cm (.clo) [(615,617),(616,616)] [(617,615),(616,616)] [] [.d,.d] [(615,.var (Qe l)),(616,.var (QC k))] (.b H),.n 3] rfl ⟨⟨⟨⟨tt_,rfl⟩,(fun σ a j _=>Stp.idxV rfl rfl (QH hC.n rfl) (a _ _ rfl) (a _ _ rfl) (Qs.es rfl) (j _ _ rfl) (by decide))⟩,rfl⟩,(QuC _ _ t)⟩ ?_
 refine bg_ h (fun i h=>Qa hC [.T,.n 13,.K [2] [615,616,617,618,619]] rfl ⟨tt_,i⟩ ?_) fun i h=>Qa hC [.F,.n 4,.v .no [] (.I 5),.n 2] rfl ⟨⟨tt_,i⟩,rfl⟩ ?_
 ·cases h
  exact d1_ rfl rfl ⟨rfl,rfl,rfl,rfl,rfl,tt_⟩
 refine AK.met (AK.rnd ?_)
 refine Qa hC [.n 2,.v .no [] (.b false),.n 15] rfl ⟨tt_,rfl⟩ ?_
 cases h
 exact d1_ rfl rfl ⟨rfl,rfl,rfl,rfl,rfl,tt_⟩
def QmC (a:Qk)(b:Int):Option Int:=
 (QaY a.Places b).bind fun c=>
 bif (!c)then
 some 3
 else
 (idx a.Places b).bind fun d=>
 (QiU d 1 a b 5 3 1 8).bind fun e=>
 some e
theorem Qwr (f g){r}(h:QmC f g=some r):Qd prog 72 [.agg (Qe f),.I g] [] (Gives (.I r) []):=by
 refine Qd.walk 30 func72 rfl rfl rfl fun C hC=>?_
 obtain⟨l,i,h⟩:=Qc h
 refine Qa hC [.n 13,.o (.c false [.d,.d] (.b l)),.n 3] rfl ⟨tt_,(Qck _ _ i)⟩ ?_
 rcases Qt h with⟨a,h⟩|⟨a,h⟩
 ·refine Qa hC [.T,.n 7] rfl ⟨tt_,a⟩ ?_
  cases h
  exact d1_ rfl rfl tt_
 obtain⟨e,j,h⟩:=Qc h
 obtain⟨m,k,h⟩:=Qc h
 refine Qa hC [.F,.n 7,.o (.row (QC e)),.v .no [] (.agg (QC e)),.n 2,.O 5 (.var (QC e)),.n 7,.O 6 (.var [.clo (.func 111) [] [.loc 5 0 0]]),.n 5,.v .no [] (.agg [.clo (.func 112) [] [.loc 5 0 0],.I 1]),.n 1,.v .no [] (.agg [.clo (.func 113) [] [.loc 2 0 0,.loc 3 0 0,.loc 6 0 0],.I 5]),.n 1,.v .no [] (.agg [.clo (.func 115) [] [.loc 2 0 0,.loc 5 0 0],.I 3]),.n 1,.v .no [] (.agg [.clo (.func 117) [] [.loc 5 0 0],.I 1]),.n 1,.v .no [] (.agg [.clo (.func 118) [] [.loc 2 0 0,.loc 5 0 0],.I 8]),.o (.any (.own 28 5) (some (.var [.clo (.func 112) [] [.loc 5 0 0],.I 1,.clo (.func 113) [] [.loc 2 0 0,.loc 3 0 0,.loc 6 0 0],.I 5,.clo (.func 115) [] [.loc 2 0 0,.loc 5 0 0],.I 3,.clo (.func 117) [] [.loc 5 0 0],.I 1,.clo (.func 118) [] [.loc 2 0 0,.loc 5 0 0],.I 8]))),.cm (.fn) [(615,28),(616,5),(617,2),(618,3),(619,6)] [(28,615),(5,616),(2,617),(3,618),(6,619)] [] [.d] [(615,.var [.clo (.func 112) [] [.loc 616 0 0],.I 1,.clo (.func 113) [] [.loc 617 0 0,.loc 618 0 0,.loc 619 0 0],.I 5,.clo (.func 115) [] [.loc 617 0 0,.loc 616 0 0],.I 3,.clo (.func 117) [] [.loc 616 0 0],.I 1,.clo (.func 118) [] [.loc 617 0 0,.loc 616 0 0],.I 8]),(616,.var (QC e)),(617,.var (Qe f)),(618,.var (Qb g)),(619,.var [.clo (.func 111) [] [.loc 616 0 0]])] (.I m),.n 4] rfl ⟨⟨⟨⟨⟨⟨⟨⟨⟨⟨⟨⟨tt_,a⟩,(QJ j)⟩,rfl⟩,rfl⟩,rfl⟩,rfl⟩,rfl⟩,rfl⟩,rfl⟩,rfl⟩,(fun σ p q hf=>Stp.buildAny rfl rfl (QH hC.n rfl) (Qs.es rfl) QoB rfl (by decide) (by decide) (Qgi p rfl) rfl rfl (hf rfl))⟩,(QtS _ _ _ _ _ _ _ _ k)⟩ ?_
 cases h
 exact d1_ rfl rfl tt_
def QmD (a:Int)(d:QW)(b:Qk):Option Int:=
 (QmC b a).bind fun c=>
 some c
theorem Qws (e f a){r}(h:QmD e f a=some r):Qd prog 71 [.I e,.agg (QC f),.loc 615 0 0] [(615,.var (Qe a))] (Gives (.I r) [(615,.var (Qe a))]):=by
 refine Qd.walk 9 func71 rfl rfl rfl fun C hC=>?_
 obtain⟨g,b,h⟩:=Qc h
 refine Qa hC [.n 8,.v .no [] (.agg (Qe a)),.n 1,.o (.c false [.d,.d] (.I g)),.n 4] rfl ⟨⟨tt_,rfl⟩,(Qwr _ _ b)⟩ ?_
 cases h
 exact d1_ rfl rfl ⟨rfl,tt_⟩
def QdP (d:(List QW))(e:Qk)(a:Int):Option (Int⊕((Int×Int)⊕Unit)):=
 bif (decide (a<(d.length:Int)))then
 (idx d a).bind fun c=>
 (QmD a c e).bind fun b=>
 bif (b != 0)then
 some (.inr (.inl (a,b)))
 else
 some (.inl (w64 (a+1)))
 else
 some (.inr (.inr ()))
def QdQ (b:Int)(a:Int):Option (Int×Int):=
 some (b,a)
def QdR : Option (Int×Int):=
 some (0,0)
def QeZ (a:(List QW))(b:Qk):Option (Int×Int):=
 (QE (fun st=>QdP a b st) 0).bind (Sum.elim (fun q=>QdQ q.1 q.2) (fun q=>QdR))
theorem Qpx (g f){r}(h:QeZ g f=some r):Qd prog 70 [.sl 3 (g.map QC),.clo (.func 71) [] [.loc 615 0 0]] [(615,.var (Qe f))] (Gives (.tup [.I r.1,.I r.2]) [(615,.var (Qe f))]):=by
 refine Qd.walk 25 func70 rfl rfl rfl fun C hC=>?_
 refine Qa hC [.n 10,.o (.ln g.length),.n 4,.K [1,9,10,11] [615]] rfl ⟨tt_,Qg⟩ ?_
 obtain⟨l,i,h⟩:=Qc h
 refine AK.loop (body:=(fun st=>QdP g f st)) (fun st σ=>σ=⟨[(1,.clo (.func 71) [] [.loc 615 0 0]),(9,.sl 3 (g.map QC)),(10,.I (g.length:Int)),(11,.I st)],[(615,.var (Qe f))]⟩) (Sum.elim (fun q e σ=>e=.ret∧σ=⟨[(4,.I q.1),(5,.I q.2)],[(615,.var (Qe f))]⟩) (fun q e σ=>e=.exit 0∧σ=⟨[],[(615,.var (Qe f))]⟩)) i rfl ?_ ?_
 ·rintro t o σ rfl h
  refine tg_ hC [.n 6] rfl ?_
  rcases Qt h with⟨a,h⟩|⟨a,h⟩
  ·obtain⟨c,j,h⟩:=Qc h
   obtain⟨m,k,h⟩:=Qc h
   refine Qa hC [.T,.n 7,.o (.row (QC c)),.v .no [] (.agg (QC c)),.n 3,.O 7 (.var (QC c)),.n 6,.v .no [] (.agg (QC c)),.cm (.clo) [(615,615)] [(615,615)] [] [.d,.d,.d] [(615,.var (Qe f))] (.I m),.n 9] rfl ⟨⟨⟨⟨⟨⟨tt_,a⟩,(QJ j)⟩,rfl⟩,rfl⟩,rfl⟩,(Qws _ _ _ k)⟩ ?_
   refine bg_ h (fun b h=>Qa hC [.T,.n 11,.K [4,5] [615]] rfl ⟨tt_,b⟩ ?_) fun b h=>Qa hC [.F,.n 7,.K [1,9,10,11] [615]] rfl ⟨tt_,b⟩ ?_
   ·cases h
    exact Qal rfl (an_ rfl rfl)
   cases h
   exact QZ rfl rfl
  refine Qa hC [.F,.n 2,.K [] [615]] rfl ⟨tt_,a⟩ ?_
  cases h
  exact Q1 rfl (an_ rfl rfl)
 rcases l with(⟨s,p⟩|_)
 ·replace h:QdQ s p=some r:=h
  rintro e σ ⟨rfl,rfl⟩
  refine tg_ hC [.n 2] rfl ?_
  cases h
  exact d2_ rfl rfl rfl ⟨rfl,tt_⟩
 replace h:QdR=some r:=h
 rintro e σ ⟨rfl,rfl⟩
 refine tg_ hC [.n 9] rfl ?_
 cases h
 exact d2_ rfl rfl rfl ⟨rfl,tt_⟩
def Qdh (b:(List QA))(a:Int):Option Bool:=
 some ((decide (0≤a))&&(decide (a<(b.length:Int))))
theorem Qj3 (d c){r}(h:Qdh d c=some r):Qd prog 92 [.sl 14 (d.map Qh),.I c] [] (Gives (.b r) []):=by
 refine Qd.walk 13 func92 rfl rfl rfl fun C hC=>?_
 refine tg_ hC [.n 6] rfl ?_
 refine AK.meetX (fun σ=>σ=⟨[(4,.b ((decide (0≤c))&&(decide (c<(d.length:Int)))))],[]⟩) ?_ ?_
 ·refine tg_ hC [.n 4] rfl ?_
  rcases Q0 (decide (0≤c))with a | a
  ·refine Qa hC [.S 7 (.b true),.n 2,.o (.ln d.length),.n 4,.S 4 (.b ((decide (0≤c))&&(decide (c<(d.length:Int))))),.K [4] []] rfl ⟨⟨(tc_ a),Qg⟩,(congrArg V.b (Qcy a rfl))⟩ ?_
   exact AK.met rfl
  refine Qa hC [.S 7 (.b false),.n 7,.S 4 (.b ((decide (0≤c))&&(decide (c<(d.length:Int))))),.K [4] []] rfl ⟨(tc_ a),(congrArg V.b (QeJ a rfl))⟩ ?_
  exact AK.met rfl
 rintro σ rfl
 refine tg_ hC [.n 2] rfl ?_
 cases h
 exact d1_ rfl rfl tt_
def QmE (a:Int)(b:Qk)(c:QA):Option Unit:=
 some ()
theorem Qwt (a b c){r}(h:QmE a b c=some r):Qd prog 126 [.loc 615 0 0,.clo (.func 127) [] [.loc 616 0 0,.loc 617 0 0]] [(615,.var (Qb a)),(616,.var (Qe b)),(617,.var (Qh c))] (Gives (.clo (.func 184) [] [.loc 3 0 0,.loc 2 0 0]) [(2,.var [.loc 615 0 0]),(3,.var [.clo (.func 127) [] [.loc 616 0 0,.loc 617 0 0]]),(615,.var (Qb a)),(616,.var (Qe b)),(617,.var (Qh c))]):=by
 refine Qd.walk 6 func126 rfl rfl rfl fun C hC=>?_
 refine tg_ hC [.n 14] rfl ?_
 cases h
 exact d1_ rfl rfl ⟨rfl,rfl,rfl,rfl,rfl,tt_⟩
def QiV (a:Int)(b:Qk)(c:QA)(d:Int):Option Unit:=
 some ()
theorem QtT (a b c d){r}(h:QiV a b c d=some r):Qd prog 126 [.loc 615 0 0,.clo (.func 132) [] [.loc 616 0 0,.loc 617 0 0,.loc 618 0 0]] [(615,.var (Qb a)),(616,.var (Qe b)),(617,.var (Qh c)),(618,.var (Qb d))] (Gives (.clo (.func 184) [] [.loc 3 0 0,.loc 2 0 0]) [(2,.var [.loc 615 0 0]),(3,.var [.clo (.func 132) [] [.loc 616 0 0,.loc 617 0 0,.loc 618 0 0]]),(615,.var (Qb a)),(616,.var (Qe b)),(617,.var (Qh c)),(618,.var (Qb d))]):=by
 refine Qd.walk 6 func126 rfl rfl rfl fun C hC=>?_
 refine tg_ hC [.n 14] rfl ?_
 cases h
 exact d1_ rfl rfl ⟨rfl,rfl,rfl,rfl,rfl,rfl,tt_⟩
def QiW (a:Int)(b:Qk)(c:QA)(d:Int):Option Unit:=
 some ()
theorem QtU (a b c d){r}(h:QiW a b c d=some r):Qd prog 126 [.loc 615 0 0,.clo (.func 134) [] [.loc 616 0 0,.loc 617 0 0,.loc 618 0 0]] [(615,.var (Qb a)),(616,.var (Qe b)),(617,.var (Qh c)),(618,.var (Qb d))] (Gives (.clo (.func 184) [] [.loc 3 0 0,.loc 2 0 0]) [(2,.var [.loc 615 0 0]),(3,.var [.clo (.func 134) [] [.loc 616 0 0,.loc 617 0 0,.loc 618 0 0]]),(615,.var (Qb a)),(616,.var (Qe b)),(617,.var (Qh c)),(618,.var (Qb d))]):=by
 refine Qd.walk 6 func126 rfl rfl rfl fun C hC=>?_
 refine tg_ hC [.n 14] rfl ?_
 cases h
 exact d1_ rfl rfl ⟨rfl,rfl,rfl,rfl,rfl,rfl,tt_⟩
def QiX (a:Int)(b:Qk)(c:QA):Option Unit:=
 some ()
theorem QtV (a b c){r}(h:QiX a b c=some r):Qd prog 126 [.loc 615 0 0,.clo (.func 135) [] [.loc 616 0 0,.loc 617 0 0]] [(615,.var (Qb a)),(616,.var (Qe b)),(617,.var (Qh c))] (Gives (.clo (.func 184) [] [.loc 3 0 0,.loc 2 0 0]) [(2,.var [.loc 615 0 0]),(3,.var [.clo (.func 135) [] [.loc 616 0 0,.loc 617 0 0]]),(615,.var (Qb a)),(616,.var (Qe b)),(617,.var (Qh c))]):=by
 refine Qd.walk 6 func126 rfl rfl rfl fun C hC=>?_
 refine tg_ hC [.n 14] rfl ?_
 cases h
 exact d1_ rfl rfl ⟨rfl,rfl,rfl,rfl,rfl,tt_⟩
def Qls (a:QA):Option Bool:=
 (Qfa a.Name).bind fun b=>
 some b
theorem QvB (a){r}(h:Qls a=some r):Qd prog 122 [.loc 615 0 0] [(615,.var (Qh a))] (Gives (.b r) [(615,.var (Qh a))]):=by
 refine Qd.walk 5 func122 rfl rfl rfl fun C hC=>?_
 obtain⟨f,e,h⟩:=Qc h
 refine Qa hC [.n 9,.o (.c false [.d] (.b f)),.n 4] rfl ⟨tt_,(Qho _ e)⟩ ?_
 cases h
 exact d1_ rfl rfl ⟨rfl,tt_⟩
def Qlt (a:QA)(b:QA):Option Bool:=
 some (QiF a.Name b.Name)
theorem QvC (c a){r}(h:Qlt c a=some r):Qd prog 121 [.agg (Qh c),.loc 615 0 0] [(615,.var (Qh a))] (Gives (.b r) [(615,.var (Qh a))]):=by
 refine Qd.walk 9 func121 rfl rfl rfl fun C hC=>?_
 refine tg_ hC [.n 17] rfl ?_
 cases h
 exact d1_ rfl rfl ⟨rfl,tt_⟩
def Qbe (c:(List QA))(d:QA)(a:Int):Option (Int⊕(Int⊕Unit)):=
 bif (decide (a<(c.length:Int)))then
 (idx c a).bind fun e=>
 (Qlt e d).bind fun b=>
 bif b then
 some (.inr (.inl a))
 else
 some (.inl (w64 (a+1)))
 else
 some (.inr (.inr ()))
def Qbf (a:Int):Option Int:=
 some a
def Qbg : Option Int:=
 some (-1)
def Qbz (a:(List QA))(b:QA):Option Int:=
 (QE (fun st=>Qbe a b st) 0).bind (Sum.elim (fun q=>Qbf q) (fun q=>Qbg))
theorem Qji (g c){r}(h:Qbz g c=some r):Qd prog 183 [.sl 14 (g.map Qh),.clo (.func 121) [] [.loc 615 0 0]] [(615,.var (Qh c))] (Gives (.I r) [(615,.var (Qh c))]):=by
 refine Qd.walk 19 func183 rfl rfl rfl fun C hC=>?_
 refine Qa hC [.n 9,.o (.ln g.length),.n 4,.K [0,1,7,8] [615]] rfl ⟨tt_,Qg⟩ ?_
 obtain⟨k,i,h⟩:=Qc h
 refine AK.loop (body:=(fun st=>Qbe g c st)) (fun st σ=>σ=⟨[(0,.sl 14 (g.map Qh)),(1,.clo (.func 121) [] [.loc 615 0 0]),(7,.I (g.length:Int)),(8,.I st)],[(615,.var (Qh c))]⟩) (Sum.elim (fun q e σ=>e=.ret∧σ=⟨[(4,.I q)],[(615,.var (Qh c))]⟩) (fun q e σ=>e=.exit 0∧σ=⟨[],[(615,.var (Qh c))]⟩)) i rfl ?_ ?_
 ·rintro t o σ rfl h
  refine tg_ hC [.n 6] rfl ?_
  rcases Qt h with⟨f,h⟩|⟨f,h⟩
  ·obtain⟨p,l,h⟩:=Qc h
   obtain⟨m,j,h⟩:=Qc h
   refine Qa hC [.T,.n 15,.o (.row (Qh p)),.v .no [] (.agg (Qh p)),.cm (.clo) [(615,615)] [(615,615)] [] [.d,.d] [(615,.var (Qh c))] (.b m),.n 2] rfl ⟨⟨⟨⟨tt_,f⟩,(QJ l)⟩,rfl⟩,(QvC _ _ j)⟩ ?_
   refine bg_ h (fun a h=>Qa hC [.T,.n 9,.K [4] [615]] rfl ⟨tt_,a⟩ ?_) fun a h=>Qa hC [.F,.n 7,.K [0,1,7,8] [615]] rfl ⟨tt_,a⟩ ?_
   ·cases h
    exact Qal rfl (an_ rfl rfl)
   cases h
   exact QZ rfl rfl
  refine Qa hC [.F,.n 2,.K [] [615]] rfl ⟨tt_,f⟩ ?_
  cases h
  exact Q1 rfl (an_ rfl rfl)
 rcases k with(s | _)
 ·replace h:Qbf s=some r:=h
  rintro e σ ⟨rfl,rfl⟩
  refine tg_ hC [.n 2] rfl ?_
  cases h
  exact d1_ rfl rfl ⟨rfl,tt_⟩
 replace h:Qbg=some r:=h
 rintro e σ ⟨rfl,rfl⟩
 refine tg_ hC [.n 8] rfl ?_
 cases h
 exact d1_ rfl rfl ⟨rfl,tt_⟩
def Qbh (a:(List QA))(b:QA):Option Bool:=
 (Qbz a b).bind fun c=>
 some (decide (0≤c))
theorem Qij (e a){r}(h:Qbh e a=some r):Qd prog 124 [.sl 14 (e.map Qh),.clo (.func 121) [] [.loc 615 0 0]] [(615,.var (Qh a))] (Gives (.b r) [(615,.var (Qh a))]):=by
 refine Qd.walk 9 func124 rfl rfl rfl fun C hC=>?_
 obtain⟨f,c,h⟩:=Qc h
 refine Qa hC [.n 9,.cm (.fn) [(615,615)] [(615,615)] [] [.d,.d] [(615,.var (Qh a))] (.I f),.n 5] rfl ⟨tt_,(Qji _ _ c)⟩ ?_
 cases h
 exact d1_ rfl rfl ⟨rfl,tt_⟩
def Qlu (b:Qk)(a:Int)(c:QA):Option Bool:=
 (chk (decide (0≤a)&&decide (0≤a.toNat)&&decide (a.toNat≤b.Tasks.length))).bind fun _=>
 (Qbh ((b.Tasks.drop 0).take (a.toNat-0)) c).bind fun d=>
 some (!d)
theorem QvD (e f g){r}(h:Qlu e f g=some r):Qd prog 123 [.loc 615 0 0,.loc 616 0 0,.loc 617 0 0] [(615,.var (Qe e)),(616,.var (Qb f)),(617,.var [.clo (.func 121) [] [.loc 618 0 0]]),(618,.var (Qh g))] (Gives (.b r) [(615,.var (Qe e)),(616,.var (Qb f)),(617,.var [.clo (.func 121) [] [.loc 618 0 0]]),(618,.var (Qh g))]):=by
 refine Qd.walk 11 func123 rfl rfl rfl fun C hC=>?_
 obtain⟨c,h⟩:=QaE h
 obtain⟨k,j,h⟩:=Qc h
 refine tg_ hC [.n 6,.K [0,1,2,3] [615,616,617,618]] rfl ?_
 refine AK.draw2 Qs hC mixed [.N,.N,.N,.a (.any (.sl 14 (((e.Tasks.drop 0).take (f.toNat-0)).map Qh)) none) none false,.N,.a (.any (.b k) none) none false,.N,.m .s] [] [] [3] [615,616,617,618] rfl rfl rfl ⟨⟨tt_,(fun σ i l _=>Stp.sliceD rfl rfl (QH hC.n rfl) (i _ _ rfl) (Qs.es rfl) Bnd.no (Bnd.val (i _ _ rfl) (QV (Qum c)) rfl) (QV (Qun c)) (Qaw (QV (Quo c)) (Nat.le_of_eq Qg.symm)) Qw7)⟩,(fun σ i l _=>Stp.callSame (md:=.cm (.fn) [(615,618)] [(618,615)] [] [.d,.d] [(615,.var (Qh g))] (.b k) [618]) Qs hC i l rfl ⟨⟨tt_,(Qij _ _ j)⟩,⟨rfl,tt_⟩⟩)⟩ rfl (by kernel_rfl) rfl rfl rfl ?_
 refine tg_ hC [.n 2] rfl ?_
 cases h
 exact d1_ rfl rfl ⟨rfl,rfl,rfl,rfl,tt_⟩
def Qik (b:Int)(a:QA):Option Bool:=
 some ((decide (b≤16))&&(decide ((max2 (max2 (a.Ins.length:Int) (a.Outs.length:Int)) (a.Cancel.length:Int))≤16)))
theorem QvE (d a){r}(h:Qik d a=some r):Qd prog 125 [.loc 615 0 0,.loc 616 0 0] [(615,.var (Qb d)),(616,.var (Qh a))] (Gives (.b r) [(615,.var (Qb d)),(616,.var (Qh a))]):=by
 refine Qd.walk 18 func125 rfl rfl rfl fun C hC=>?_
 refine tg_ hC [.n 6] rfl ?_
 refine AK.meetX (fun σ=>σ=⟨[(2,.b ((decide (d≤16))&&(decide ((max2 (max2 (a.Ins.length:Int) (a.Outs.length:Int)) (a.Cancel.length:Int))≤16))))],[(615,.var (Qb d)),(616,.var (Qh a))]⟩) ?_ ?_
 ·refine tg_ hC [.n 4] rfl ?_
  rcases Q0 (decide (d≤16))with c | c
  ·refine Qa hC [.S 5 (.b true),.n 2,.o (.ln a.Ins.length),.n 2,.o (.ln a.Outs.length),.n 2,.o (.ln a.Cancel.length),.o (.any (.I (max2 (max2 (a.Ins.length:Int) (a.Outs.length:Int)) (a.Cancel.length:Int))) none),.n 4,.S 2 (.b ((decide (d≤16))&&(decide ((max2 (max2 (a.Ins.length:Int) (a.Outs.length:Int)) (a.Cancel.length:Int))≤16)))),.K [2] [615,616]] rfl ⟨⟨⟨⟨⟨(tc_ c),Qg⟩,Qg⟩,Qg⟩,(fun σ e f _=>Stp.max3 rfl rfl (QH hC.n rfl) (e _ _ rfl) (e _ _ rfl) (e _ _ rfl))⟩,(congrArg V.b (Qcy c rfl))⟩ ?_
   exact AK.met rfl
  refine Qa hC [.S 5 (.b false),.n 14,.S 2 (.b ((decide (d≤16))&&(decide ((max2 (max2 (a.Ins.length:Int) (a.Outs.length:Int)) (a.Cancel.length:Int))≤16)))),.K [2] [615,616]] rfl ⟨(tc_ c),(congrArg V.b (QeJ c rfl))⟩ ?_
  exact AK.met rfl
 rintro σ rfl
 refine tg_ hC [.n 2] rfl ?_
 cases h
 exact d1_ rfl rfl ⟨rfl,rfl,tt_⟩
def Qfp (a:QaA):Option Bool:=
 (Qfa a.Name).bind fun b=>
 some b
theorem Qqe (a){r}(h:Qfp a=some r):Qd prog 188 [.loc 615 0 0] [(615,.var (QL a))] (Gives (.b r) [(615,.var (QL a))]):=by
 refine Qd.walk 5 func188 rfl rfl rfl fun C hC=>?_
 obtain⟨f,e,h⟩:=Qc h
 refine Qa hC [.n 9,.o (.c false [.d] (.b f)),.n 4] rfl ⟨tt_,(Qho _ e)⟩ ?_
 cases h
 exact d1_ rfl rfl ⟨rfl,tt_⟩
def Qfq (a:QaA)(b:QaA):Option Bool:=
 some (QiF a.Name b.Name)
theorem Qqf (c a){r}(h:Qfq c a=some r):Qd prog 187 [.agg (QL c),.loc 615 0 0] [(615,.var (QL a))] (Gives (.b r) [(615,.var (QL a))]):=by
 refine Qd.walk 9 func187 rfl rfl rfl fun C hC=>?_
 refine tg_ hC [.n 17] rfl ?_
 cases h
 exact d1_ rfl rfl ⟨rfl,tt_⟩
def Qbp (c:(List QaA))(d:QaA)(a:Int):Option (Int⊕(Int⊕Unit)):=
 bif (decide (a<(c.length:Int)))then
 (idx c a).bind fun e=>
 (Qfq e d).bind fun b=>
 bif b then
 some (.inr (.inl a))
 else
 some (.inl (w64 (a+1)))
 else
 some (.inr (.inr ()))
def Qbq (a:Int):Option Int:=
 some a
def Qbr : Option Int:=
 some (-1)
def QbT (a:(List QaA))(b:QaA):Option Int:=
 (QE (fun st=>Qbp a b st) 0).bind (Sum.elim (fun q=>Qbq q) (fun q=>Qbr))
theorem Qkl (g c){r}(h:QbT g c=some r):Qd prog 227 [.sl 2 (g.map QL),.clo (.func 187) [] [.loc 615 0 0]] [(615,.var (QL c))] (Gives (.I r) [(615,.var (QL c))]):=by
 refine Qd.walk 19 func227 rfl rfl rfl fun C hC=>?_
 refine Qa hC [.n 9,.o (.ln g.length),.n 4,.K [0,1,7,8] [615]] rfl ⟨tt_,Qg⟩ ?_
 obtain⟨k,i,h⟩:=Qc h
 refine AK.loop (body:=(fun st=>Qbp g c st)) (fun st σ=>σ=⟨[(0,.sl 2 (g.map QL)),(1,.clo (.func 187) [] [.loc 615 0 0]),(7,.I (g.length:Int)),(8,.I st)],[(615,.var (QL c))]⟩) (Sum.elim (fun q e σ=>e=.ret∧σ=⟨[(4,.I q)],[(615,.var (QL c))]⟩) (fun q e σ=>e=.exit 0∧σ=⟨[],[(615,.var (QL c))]⟩)) i rfl ?_ ?_
 ·rintro t o σ rfl h
  refine tg_ hC [.n 6] rfl ?_
  rcases Qt h with⟨f,h⟩|⟨f,h⟩
  ·obtain⟨p,l,h⟩:=Qc h
   obtain⟨m,j,h⟩:=Qc h
   refine Qa hC [.T,.n 15,.o (.row (QL p)),.v .no [] (.agg (QL p)),.cm (.clo) [(615,615)] [(615,615)] [] [.d,.d] [(615,.var (QL c))] (.b m),.n 2] rfl ⟨⟨⟨⟨tt_,f⟩,(QJ l)⟩,rfl⟩,(Qqf _ _ j)⟩ ?_
   refine bg_ h (fun a h=>Qa hC [.T,.n 9,.K [4] [615]] rfl ⟨tt_,a⟩ ?_) fun a h=>Qa hC [.F,.n 7,.K [0,1,7,8] [615]] rfl ⟨tt_,a⟩ ?_
   ·cases h
    exact Qal rfl (an_ rfl rfl)
   cases h
   exact QZ rfl rfl
  refine Qa hC [.F,.n 2,.K [] [615]] rfl ⟨tt_,f⟩ ?_
  cases h
  exact Q1 rfl (an_ rfl rfl)
 rcases k with(s | _)
 ·replace h:Qbq s=some r:=h
  rintro e σ ⟨rfl,rfl⟩
  refine tg_ hC [.n 2] rfl ?_
  cases h
  exact d1_ rfl rfl ⟨rfl,tt_⟩
 replace h:Qbr=some r:=h
 rintro e σ ⟨rfl,rfl⟩
 refine tg_ hC [.n 8] rfl ?_
 cases h
 exact d1_ rfl rfl ⟨rfl,tt_⟩
def Qbs (a:(List QaA))(b:QaA):Option Bool:=
 (QbT a b).bind fun c=>
 some (decide (0≤c))
theorem QiY (e a){r}(h:Qbs e a=some r):Qd prog 190 [.sl 2 (e.map QL),.clo (.func 187) [] [.loc 615 0 0]] [(615,.var (QL a))] (Gives (.b r) [(615,.var (QL a))]):=by
 refine Qd.walk 9 func190 rfl rfl rfl fun C hC=>?_
 obtain⟨f,c,h⟩:=Qc h
 refine Qa hC [.n 9,.cm (.fn) [(615,615)] [(615,615)] [] [.d,.d] [(615,.var (QL a))] (.I f),.n 5] rfl ⟨tt_,(Qkl _ _ c)⟩ ?_
 cases h
 exact d1_ rfl rfl ⟨rfl,tt_⟩
def Qfr (b:(List QaA))(a:Int)(c:QaA):Option Bool:=
 (chk (decide (0≤a)&&decide (0≤a.toNat)&&decide (a.toNat≤b.length))).bind fun _=>
 (Qbs ((b.drop 0).take (a.toNat-0)) c).bind fun d=>
 some (!d)
theorem Qqg (e f g){r}(h:Qfr e f g=some r):Qd prog 189 [.loc 615 0 0,.loc 616 0 0,.loc 617 0 0] [(615,.var (Qcv e)),(616,.var (Qb f)),(617,.var [.clo (.func 187) [] [.loc 618 0 0]]),(618,.var (QL g))] (Gives (.b r) [(615,.var (Qcv e)),(616,.var (Qb f)),(617,.var [.clo (.func 187) [] [.loc 618 0 0]]),(618,.var (QL g))]):=by
 refine Qd.walk 10 func189 rfl rfl rfl fun C hC=>?_
 obtain⟨c,h⟩:=QaE h
 obtain⟨k,j,h⟩:=Qc h
 refine tg_ hC [.n 6,.K [0,1,2,3] [615,616,617,618]] rfl ?_
 refine AK.draw2 Qs hC mixed [.N,.N,.a (.any (.sl 2 (((e.drop 0).take (f.toNat-0)).map QL)) none) none false,.N,.a (.any (.b k) none) none false,.N,.m .s] [] [] [3] [615,616,617,618] rfl rfl rfl ⟨⟨tt_,(fun σ i l _=>Stp.sliceD rfl rfl (QH hC.n rfl) (i _ _ rfl) (Qs.es rfl) Bnd.no (Bnd.val (i _ _ rfl) (QV (Qum c)) rfl) (QV (Qun c)) (Qaw (QV (Quo c)) (Nat.le_of_eq Qg.symm)) Qw7)⟩,(fun σ i l _=>Stp.callSame (md:=.cm (.fn) [(615,618)] [(618,615)] [] [.d,.d] [(615,.var (QL g))] (.b k) [618]) Qs hC i l rfl ⟨⟨tt_,(QiY _ _ j)⟩,⟨rfl,tt_⟩⟩)⟩ rfl (by kernel_rfl) rfl rfl rfl ?_
 refine tg_ hC [.n 2] rfl ?_
 cases h
 exact d1_ rfl rfl ⟨rfl,rfl,rfl,rfl,tt_⟩
def Qfs (a:Qk)(b:QaA):Option Bool:=
 (QcS a.Colours b.Colour).bind fun c=>
 some c
theorem Qqh (a e){r}(h:Qfs a e=some r):Qd prog 191 [.loc 615 0 0,.loc 616 0 0] [(615,.var (Qe a)),(616,.var (QL e))] (Gives (.b r) [(615,.var (Qe a)),(616,.var (QL e))]):=by
 refine Qd.walk 8 func191 rfl rfl rfl fun C hC=>?_
 obtain⟨g,f,h⟩:=Qc h
 refine Qa hC [.n 11,.o (.c false [.d,.d] (.b g)),.n 4] rfl ⟨tt_,(Qiz _ _ f)⟩ ?_
 cases h
 exact d1_ rfl rfl ⟨rfl,rfl,tt_⟩
def QiZ (a:QaA)(e:Int)(f:(List QaA))(g:Int)(h:Int)(i:Qk)(j:Int):Option Int:=
 (Qfp a).bind fun b=>
 bif (!b)then
 some e
 else
 (Qfr f g a).bind fun c=>
 bif (!c)then
 some h
 else
 (Qfs i a).bind fun d=>
 bif (!d)then
 some j
 else
 some 0
theorem QtW (g m p q s t u){r}(h:QiZ g m p q s t u=some r):Qd prog 64 [.own 615 3] [(615,.var [.clo (.func 188) [] [.loc 616 0 0],.I m,.clo (.func 189) [] [.loc 617 0 0,.loc 618 0 0,.loc 619 0 0],.I s,.clo (.func 191) [] [.loc 620 0 0,.loc 616 0 0],.I u]),(616,.var (QL g)),(617,.var (Qcv p)),(618,.var (Qb q)),(619,.var [.clo (.func 187) [] [.loc 616 0 0]]),(620,.var (Qe t))] (Gives (.I r) [(615,.var [.clo (.func 188) [] [.loc 616 0 0],.I m,.clo (.func 189) [] [.loc 617 0 0,.loc 618 0 0,.loc 619 0 0],.I s,.clo (.func 191) [] [.loc 620 0 0,.loc 616 0 0],.I u]),(616,.var (QL g)),(617,.var (Qcv p)),(618,.var (Qb q)),(619,.var [.clo (.func 187) [] [.loc 616 0 0]]),(620,.var (Qe t))]):=by
 refine Qd.walk 18 func64 rfl rfl rfl fun C hC=>?_
 refine tg_ hC [.n 14] rfl ?_
 refine AK.loopN 4 (AK.rnd ?_)
 obtain⟨w,i,h⟩:=Qc h
 refine Qa hC [.n 2,.v .no [] (.b true),.n 10,.o (.any (.loc 615 0 0) none),.n 3,.O 4 (.var [.clo (.func 188) [] [.loc 616 0 0],.I m]),.n 6,.cm (.clo) [(615,616)] [(616,615)] [] [.d] [(615,.var (QL g))] (.b w),.n 3] rfl ⟨⟨⟨⟨tt_,rfl⟩,(fun σ f j _=>Stp.idxV rfl rfl (QH hC.n rfl) (f _ _ rfl) (f _ _ rfl) (Qs.es rfl) (j _ _ rfl) (by decide))⟩,rfl⟩,(Qqe _ i)⟩ ?_
 refine bg_ h (fun a h=>Qa hC [.T,.n 13,.K [2] [615,616,617,618,619,620]] rfl ⟨tt_,a⟩ ?_) fun a h=>Qa hC [.F,.n 4,.v .no [] (.I 1),.n 2] rfl ⟨⟨tt_,a⟩,rfl⟩ ?_
 ·cases h
  exact d1_ rfl rfl ⟨rfl,rfl,rfl,rfl,rfl,rfl,tt_⟩
 refine AK.met (AK.rnd ?_)
 obtain⟨x,k,h⟩:=Qc h
 refine Qa hC [.n 2,.v .no [] (.b true),.n 10,.o (.any (.loc 615 0 2) none),.n 1,.kill 4,.n 2,.O 4 (.var [.clo (.func 189) [] [.loc 617 0 0,.loc 618 0 0,.loc 619 0 0],.I s]),.n 6,.cm (.clo) [(615,617),(616,618),(617,619),(618,616)] [(617,615),(618,616),(619,617),(616,618)] [] [.d,.d,.d] [(615,.var (Qcv p)),(616,.var (Qb q)),(617,.var [.clo (.func 187) [] [.loc 618 0 0]]),(618,.var (QL g))] (.b x),.n 3] rfl ⟨⟨⟨⟨tt_,rfl⟩,(fun σ f j _=>Stp.idxV rfl rfl (QH hC.n rfl) (f _ _ rfl) (f _ _ rfl) (Qs.es rfl) (j _ _ rfl) (by decide))⟩,rfl⟩,(Qqg _ _ _ k)⟩ ?_
 refine bg_ h (fun c h=>Qa hC [.T,.n 13,.K [2] [615,616,617,618,619,620]] rfl ⟨tt_,c⟩ ?_) fun c h=>Qa hC [.F,.n 4,.v .no [] (.I 2),.n 2] rfl ⟨⟨tt_,c⟩,rfl⟩ ?_
 ·cases h
  exact d1_ rfl rfl ⟨rfl,rfl,rfl,rfl,rfl,rfl,tt_⟩
 refine AK.met (AK.rnd ?_)
 obtain⟨y,l,h⟩:=Qc h
 refine Qa hC [.n 2,.v .no [] (.b true),.n 10,.o (.any (.loc 615 0 4) none),.n 1,.kill 4,.n 2,.O 4 (.var [.clo (.func 191) [] [.loc 620 0 0,.loc 616 0 0],.I u]),.n 6,.cm (.clo) [(615,620),(616,616)] [(620,615),(616,616)] [] [.d,.d] [(615,.var (Qe t)),(616,.var (QL g))] (.b y),.n 3] rfl ⟨⟨⟨⟨tt_,rfl⟩,(fun σ f j _=>Stp.idxV rfl rfl (QH hC.n rfl) (f _ _ rfl) (f _ _ rfl) (Qs.es rfl) (j _ _ rfl) (by decide))⟩,rfl⟩,(Qqh _ _ l)⟩ ?_
 refine bg_ h (fun e h=>Qa hC [.T,.n 13,.K [2] [615,616,617,618,619,620]] rfl ⟨tt_,e⟩ ?_) fun e h=>Qa hC [.F,.n 4,.v .no [] (.I 3),.n 2] rfl ⟨⟨tt_,e⟩,rfl⟩ ?_
 ·cases h
  exact d1_ rfl rfl ⟨rfl,rfl,rfl,rfl,rfl,rfl,tt_⟩
 refine AK.met (AK.rnd ?_)
 refine Qa hC [.n 2,.v .no [] (.b false),.n 15] rfl ⟨tt_,rfl⟩ ?_
 cases h
 exact d1_ rfl rfl ⟨rfl,rfl,rfl,rfl,rfl,rfl,tt_⟩
def QgW (a:Int)(b:QaA)(c:(List QaA))(d:Qk):Option Int:=
 (QiZ b 1 c a 5 d 3).bind fun e=>
 some e
theorem QrR (c e a b){r}(h:QgW c e a b=some r):Qd prog 186 [.I c,.agg (QL e),.loc 615 0 0,.loc 616 0 0] [(615,.var (Qcv a)),(616,.var (Qe b))] (Gives (.I r) [(615,.var (Qcv a)),(616,.var (Qe b))]):=by
 refine Qd.walk 17 func186 rfl rfl rfl fun C hC=>?_
 obtain⟨g,f,h⟩:=Qc h
 refine Qa hC [.n 12,.O 7 (.var [.clo (.func 187) [] [.loc 5 0 0]]),.n 5,.v .no [] (.agg [.clo (.func 188) [] [.loc 5 0 0],.I 1]),.n 1,.v .no [] (.agg [.clo (.func 189) [] [.loc 615 0 0,.loc 4 0 0,.loc 7 0 0],.I 5]),.n 1,.v .no [] (.agg [.clo (.func 191) [] [.loc 616 0 0,.loc 5 0 0],.I 3]),.o (.any (.own 15 3) (some (.var [.clo (.func 188) [] [.loc 5 0 0],.I 1,.clo (.func 189) [] [.loc 615 0 0,.loc 4 0 0,.loc 7 0 0],.I 5,.clo (.func 191) [] [.loc 616 0 0,.loc 5 0 0],.I 3]))),.cm (.fn) [(615,15),(616,5),(617,615),(618,4),(619,7),(620,616)] [(15,615),(5,616),(615,617),(4,618),(7,619),(616,620)] [] [.d] [(615,.var [.clo (.func 188) [] [.loc 616 0 0],.I 1,.clo (.func 189) [] [.loc 617 0 0,.loc 618 0 0,.loc 619 0 0],.I 5,.clo (.func 191) [] [.loc 620 0 0,.loc 616 0 0],.I 3]),(616,.var (QL e)),(617,.var (Qcv a)),(618,.var (Qb c)),(619,.var [.clo (.func 187) [] [.loc 616 0 0]]),(620,.var (Qe b))] (.I g),.n 4] rfl ⟨⟨⟨⟨⟨⟨tt_,rfl⟩,rfl⟩,rfl⟩,rfl⟩,(fun σ i j hf=>Stp.buildAny rfl rfl (QH hC.n rfl) (Qs.es rfl) QoB rfl (by decide) (by decide) (Qgi i rfl) rfl rfl (hf rfl))⟩,(QtW _ _ _ _ _ _ _ f)⟩ ?_
 cases h
 exact d1_ rfl rfl ⟨rfl,rfl,tt_⟩
def Qex (d:(List QaA))(e:(List QaA))(f:Qk)(a:Int):Option (Int⊕((Int×Int)⊕Unit)):=
 bif (decide (a<(d.length:Int)))then
 (idx d a).bind fun c=>
 (QgW a c e f).bind fun b=>
 bif (b != 0)then
 some (.inr (.inl (a,b)))
 else
 some (.inl (w64 (a+1)))
 else
 some (.inr (.inr ()))
def Qey (a:Int)(b:Int):Option (Int×Int):=
 some (a,b)
def Qez : Option (Int×Int):=
 some (0,0)
def QfR (a:(List QaA))(b:(List QaA))(c:Qk):Option (Int×Int):=
 (QE (fun st=>Qex a b c st) 0).bind (Sum.elim (fun q=>Qey q.1 q.2) (fun q=>Qez))
theorem QqH (i f g){r}(h:QfR i f g=some r):Qd prog 185 [.sl 2 (i.map QL),.clo (.func 186) [] [.loc 615 0 0,.loc 616 0 0]] [(615,.var (Qcv f)),(616,.var (Qe g))] (Gives (.tup [.I r.1,.I r.2]) [(615,.var (Qcv f)),(616,.var (Qe g))]):=by
 refine Qd.walk 25 func185 rfl rfl rfl fun C hC=>?_
 refine Qa hC [.n 10,.o (.ln i.length),.n 4,.K [1,9,10,11] [615,616]] rfl ⟨tt_,Qg⟩ ?_
 obtain⟨m,j,h⟩:=Qc h
 refine AK.loop (body:=(fun st=>Qex i f g st)) (fun st σ=>σ=⟨[(1,.clo (.func 186) [] [.loc 615 0 0,.loc 616 0 0]),(9,.sl 2 (i.map QL)),(10,.I (i.length:Int)),(11,.I st)],[(615,.var (Qcv f)),(616,.var (Qe g))]⟩) (Sum.elim (fun q e σ=>e=.ret∧σ=⟨[(4,.I q.1),(5,.I q.2)],[(615,.var (Qcv f)),(616,.var (Qe g))]⟩) (fun q e σ=>e=.exit 0∧σ=⟨[],[(615,.var (Qcv f)),(616,.var (Qe g))]⟩)) j rfl ?_ ?_
 ·rintro u o σ rfl h
  refine tg_ hC [.n 6] rfl ?_
  rcases Qt h with⟨a,h⟩|⟨a,h⟩
  ·obtain⟨c,k,h⟩:=Qc h
   obtain⟨p,l,h⟩:=Qc h
   refine Qa hC [.T,.n 7,.o (.row (QL c)),.v .no [] (.agg (QL c)),.n 3,.O 7 (.var (QL c)),.n 6,.v .no [] (.agg (QL c)),.cm (.clo) [(615,615),(616,616)] [(615,615),(616,616)] [] [.d,.d,.d,.d] [(615,.var (Qcv f)),(616,.var (Qe g))] (.I p),.n 9] rfl ⟨⟨⟨⟨⟨⟨tt_,a⟩,(QJ k)⟩,rfl⟩,rfl⟩,rfl⟩,(QrR _ _ _ _ l)⟩ ?_
   refine bg_ h (fun b h=>Qa hC [.T,.n 11,.K [4,5] [615,616]] rfl ⟨tt_,b⟩ ?_) fun b h=>Qa hC [.F,.n 7,.K [1,9,10,11] [615,616]] rfl ⟨tt_,b⟩ ?_
   ·cases h
    exact Qal rfl (an_ rfl rfl)
   cases h
   exact QZ rfl rfl
  refine Qa hC [.F,.n 2,.K [] [615,616]] rfl ⟨tt_,a⟩ ?_
  cases h
  exact Q1 rfl (an_ rfl rfl)
 rcases m with(⟨s,t⟩|_)
 ·replace h:Qey s t=some r:=h
  rintro e σ ⟨rfl,rfl⟩
  refine tg_ hC [.n 2] rfl ?_
  cases h
  exact d2_ rfl rfl rfl ⟨rfl,rfl,tt_⟩
 replace h:Qez=some r:=h
 rintro e σ ⟨rfl,rfl⟩
 refine tg_ hC [.n 9] rfl ?_
 cases h
 exact d2_ rfl rfl rfl ⟨rfl,rfl,tt_⟩
def Qh6 (b:Qk)(a:(List QaA)):Option Int:=
 (QfR a a b).bind fun c=>
 some c.2
theorem Qtd (a b){r}(h:Qh6 a b=some r):Qd prog 128 [.agg (Qe a),.sl 2 (b.map QL)] [] (Gives (.I r) []):=by
 refine Qd.walk 14 func128 rfl rfl rfl fun C hC=>?_
 obtain⟨e,c,h⟩:=Qc h
 refine Qa hC [.n 11,.cm (.fn) [(615,3),(616,2)] [(3,615),(2,616)] [] [.d,.d] [(615,.var (Qcv b)),(616,.var (Qe a))] (.tup [.I e.1,.I e.2]),.n 14] rfl ⟨tt_,(QqH _ _ _ c)⟩ ?_
 cases h
 exact d1_ rfl rfl tt_
def Qlv (a:Qk)(b:QA):Option Int:=
 (Qh6 a b.Vars).bind fun c=>
 some c
theorem QvF (a b){r}(h:Qlv a b=some r):Qd prog 127 [.loc 615 0 0,.loc 616 0 0] [(615,.var (Qe a)),(616,.var (Qh b))] (Gives (.I r) [(615,.var (Qe a)),(616,.var (Qh b))]):=by
 refine Qd.walk 7 func127 rfl rfl rfl fun C hC=>?_
 obtain⟨f,e,h⟩:=Qc h
 refine Qa hC [.n 7,.v .no [] (.agg (Qe a)),.n 2,.o (.c false [.d,.d] (.I f)),.n 4] rfl ⟨⟨tt_,rfl⟩,(Qtd _ _ e)⟩ ?_
 cases h
 exact d1_ rfl rfl ⟨rfl,rfl,tt_⟩
def Qj4 (b:Qk)(c:QA)(d:Int):Option (Bool×Int):=
 (Qlv b c).bind fun a=>
 some ((a==0),a)
theorem QuD (c e i){r}(h:Qj4 c e i=some r):Qd prog 184 [.loc 615 0 0,.loc 618 0 0] [(615,.var [.clo (.func 127) [] [.loc 616 0 0,.loc 617 0 0]]),(616,.var (Qe c)),(617,.var (Qh e)),(618,.var [.loc 619 0 0]),(619,.var (Qb i))] (Gives (.b r.1) [(615,.var [.clo (.func 127) [] [.loc 616 0 0,.loc 617 0 0]]),(616,.var (Qe c)),(617,.var (Qh e)),(618,.var [.loc 619 0 0]),(619,.var (Qb r.2))]):=by
 refine Qd.walk 11 func184 rfl rfl rfl fun C hC=>?_
 obtain⟨f,g,h⟩:=Qc h
 refine tg_ hC [.n 6,.K [0,1] [615,616,617,618,619]] rfl ?_
 refine AK.draw2 Qs hC mixed [.N,.N,.a (.any (.I f) none) none false,.N,.m .s] [] [] [1] [615,616,617,618,619] rfl rfl rfl ⟨tt_,(fun σ j k _=>Stp.callSame (md:=.cm (.clo) [(615,616),(616,617)] [(616,615),(617,616)] [] [.d,.d] [(615,.var (Qe c)),(616,.var (Qh e))] (.I f) [616,617]) Qs hC j k rfl ⟨⟨tt_,(QvF _ _ g)⟩,⟨rfl,rfl,tt_⟩⟩)⟩ rfl (by kernel_rfl) rfl rfl rfl ?_
 refine Qa hC [.O 619 (.var (Qb f)),.n 11] rfl ⟨tt_,rfl⟩ ?_
 cases h
 exact d1_ rfl rfl ⟨rfl,rfl,rfl,rfl,rfl,tt_⟩
def Qi0 (e:QA)(f:Qk)(a:Int)(c:Int):Option ((Int×Int)⊕(Unit⊕Int)):=
 bif (decide (c<(e.Vars.length:Int)))then
 (idx e.Vars c).bind fun d=>
 (Qbd f.Colours d.Colour).bind fun b=>
 bif (b==0)then
 some (.inr (.inl ()))
 else
 some (.inl ((min2 (w64 (a*b)) 1025),(w64 (c+1))))
 else
 some (.inr (.inr a))
def Qi1 : Option Int:=
 some 0
def Qi2 (a:Int):Option Int:=
 some a
def Qjj (a:Qk)(b:Int):Option Int:=
 (Qdh a.Tasks b).bind fun c=>
 bif (!c)then
 some 0
 else
 (idx a.Tasks b).bind fun d=>
 (QE (fun st=>Qi0 d a st.1 st.2) (1,0)).bind (Sum.elim (fun q=>Qi1) (fun q=>Qi2 q))
theorem Qqi (s y){r}(h:Qjj s y=some r):Qd prog 57 [.agg (Qe s),.I y] [] (Gives (.I r) []):=by
 refine Qd.walk 38 func57 rfl rfl rfl fun C hC=>?_
 obtain⟨A,t,h⟩:=Qc h
 refine Qa hC [.n 12,.o (.c false [.d,.d] (.b A)),.n 3] rfl ⟨tt_,(Qj3 _ _ t)⟩ ?_
 rcases Qt h with⟨g,h⟩|⟨g,h⟩
 ·refine Qa hC [.T,.n 7] rfl ⟨tt_,g⟩ ?_
  cases h
  exact d1_ rfl rfl tt_
 obtain⟨k,u,h⟩:=Qc h
 refine Qa hC [.F,.n 13,.o (.row (Qh k)),.n 2,.o (.ln k.Vars.length),.n 4,.K [2,5,19,20,21] [2]] rfl ⟨⟨⟨tt_,g⟩,(QJ u)⟩,Qg⟩ ?_
 obtain⟨w,l,h⟩:=Qc h
 refine AK.loop (body:=(fun st=>Qi0 k s st.1 st.2)) (fun st σ=>σ=⟨[(2,.loc 2 0 0),(5,.I st.1),(19,.sl 2 (k.Vars.map QL)),(20,.I (k.Vars.length:Int)),(21,.I st.2)],[(2,.var (Qe s))]⟩) (Sum.elim (fun q e σ=>e=.ret∧σ=⟨[(4,.I 0)],[]⟩) (fun q e σ=>e=.exit 0∧σ=⟨[(5,.I q)],[]⟩)) l rfl ?_ ?_
 ·rintro ⟨z,B⟩ o σ rfl h
  refine tg_ hC [.n 6] rfl ?_
  rcases Qt h with⟨a,h⟩|⟨a,h⟩
  ·obtain⟨i,m,h⟩:=Qc h
   obtain⟨x,p,h⟩:=Qc h
   refine Qa hC [.T,.n 6,.o (.row (QL i)),.v .no [] (.agg (QL i)),.n 2,.O 7 (.var (QL i)),.n 8,.o (.c false [.d,.d] (.I x)),.n 10] rfl ⟨⟨⟨⟨⟨tt_,a⟩,(QJ m)⟩,rfl⟩,rfl⟩,(QiT _ _ p)⟩ ?_
   refine bg_ h (fun f h=>Qa hC [.T,.n 9,.K [4] []] rfl ⟨tt_,f⟩ ?_) fun f h=>Qa hC [.F,.n 15,.K [2,5,19,20,21] [2]] rfl ⟨tt_,f⟩ ?_
   ·cases h
    exact Qal rfl (an_ rfl rfl)
   cases h
   exact QZ rfl rfl
  refine Qa hC [.F,.n 2,.K [5] []] rfl ⟨tt_,a⟩ ?_
  cases h
  exact Q1 rfl (an_ rfl rfl)
 rcases w with(_ | j)
 ·replace h:Qi1=some r:=h
  rintro e σ ⟨rfl,rfl⟩
  refine tg_ hC [.n 2] rfl ?_
  cases h
  exact d1_ rfl rfl tt_
 replace h:Qi2 j=some r:=h
 rintro e σ ⟨rfl,rfl⟩
 refine tg_ hC [.n 9] rfl ?_
 cases h
 exact d1_ rfl rfl tt_
def Qlw (a:Qk)(b:Int):Option Bool:=
 (Qjj a b).bind fun c=>
 some (decide (c≤1024))
theorem QvG (a e){r}(h:Qlw a e=some r):Qd prog 129 [.loc 615 0 0,.loc 616 0 0] [(615,.var (Qe a)),(616,.var (Qb e))] (Gives (.b r) [(615,.var (Qe a)),(616,.var (Qb e))]):=by
 refine Qd.walk 7 func129 rfl rfl rfl fun C hC=>?_
 obtain⟨g,f,h⟩:=Qc h
 refine Qa hC [.n 7,.v .no [] (.agg (Qe a)),.n 1,.o (.c false [.d,.d] (.I g)),.n 5] rfl ⟨⟨tt_,rfl⟩,(Qqi _ _ f)⟩ ?_
 cases h
 exact d1_ rfl rfl ⟨rfl,rfl,tt_⟩
def Qj5 (c:Ql)(rec_expr_Depth:Ql→Option Int)(d:Int)(a:Int):Option ((Int×Int)⊕Int):=
 bif (decide (a<(c.Kids.length:Int)))then
 (idx c.Kids a).bind fun e=>
 (rec_expr_Depth e).bind fun b=>
 some (.inl ((max2 d b),(w64 (a+1))))
 else
 some (.inr d)
def Qnq (a:Int):Option Int:=
 some (w64 (a+1))
def Qn4 (rec_expr_Depth:Ql→Option Int)(a:Ql):Option Int:=
 (QE (fun st=>Qj5 a rec_expr_Depth st.1 st.2) (0,0)).bind (fun q=>Qnq q)
def QeN : Nat→Ql→Option Int
 | 0,_=>none
 | n+1,a=>Qn4 (QeN n) a
def Qqj (a:Ql):Option Int:=QeN (SizeOf.sizeOf a) a
theorem QvH (rec_expr_Depth:Ql→Option Int)(hrec_expr_Depth:∀(a:Ql) {r:Int},rec_expr_Depth a=some r→Qd prog 192 [.agg (Qp a)] [] (Gives (.I r) []))(a:Ql){r:Int}(h:Qn4 rec_expr_Depth a=some r):Qd prog 192 [.agg (Qp a)] [] (Gives (.I r) []):=by
 refine Qd.walk 20 func192 rfl rfl rfl fun C hC=>?_
 refine Qa hC [.n 16,.o (.ln a.Kids.length),.n 4,.K [3,7,8,9] []] rfl ⟨tt_,Qk8 _⟩ ?_
 obtain⟨l,f,h⟩:=Qc h
 refine AK.loop (body:=(fun st=>Qj5 a rec_expr_Depth st.1 st.2)) (fun st σ=>σ=⟨[(3,.I st.1),(7,.sl 3 (Qby a.Kids)),(8,.I (a.Kids.length:Int)),(9,.I st.2)],[]⟩) (fun q e σ=>e=.exit 0∧σ=⟨[(3,.I q)],[]⟩) f rfl ?_ ?_
 ·rintro ⟨m,p⟩ o σ rfl h
  refine tg_ hC [.n 6] rfl ?_
  rcases Qt h with⟨b,h⟩|⟨b,h⟩
  ·obtain⟨i,j,h⟩:=Qc h
   obtain⟨k,g,h⟩:=Qc h
   refine Qa hC [.T,.n 6,.o (.row (Qp i)),.v .no [] (.agg (Qp i)),.n 2,.O 5 (.var (Qp i)),.n 4,.v .no [] (.agg (Qp i)),.o (.c false [.d] (.I k)),.n 9,.K [3,7,8,9] []] rfl ⟨⟨⟨⟨⟨⟨tt_,b⟩,(QeX j)⟩,rfl⟩,rfl⟩,rfl⟩,(hrec_expr_Depth _ g)⟩ ?_
   cases h
   exact QZ rfl rfl
  refine Qa hC [.F,.n 2,.K [3] []] rfl ⟨tt_,b⟩ ?_
  cases h
  exact Q1 rfl (an_ rfl rfl)
 replace h:Qnq l=some r:=h
 rintro e σ ⟨rfl,rfl⟩
 refine tg_ hC [.n 10] rfl ?_
 cases h
 exact d1_ rfl rfl tt_
theorem Qpc : ∀(fuel:Nat) (a:Ql) {r:Int},QeN fuel a=some r→Qd prog 192 [.agg (Qp a)] [] (Gives (.I r) [])
 | 0,_,_,h=>by cases h
 | n+1,a,_,h=>QvH (QeN n) (fun _ _ h=>Qpc n _ h) a h
theorem Qxc (a){r}(h:Qqj a=some r):Qd prog 192 [.agg (Qp a)] [] (Gives (.I r) []):=Qpc _ a h
def Qlx (c:Ql)(rec_expr_Size:Ql→Option Int)(d:Int)(a:Int):Option ((Int×Int)⊕Int):=
 bif (decide (a<(c.Kids.length:Int)))then
 (idx c.Kids a).bind fun e=>
 (rec_expr_Size e).bind fun b=>
 some (.inl ((w64 (d+b)),(w64 (a+1))))
 else
 some (.inr d)
def Qn5 (a:Int):Option Int:=
 some a
def QoR (rec_expr_Size:Ql→Option Int)(a:Ql):Option Int:=
 (QE (fun st=>Qlx a rec_expr_Size st.1 st.2) (1,0)).bind (fun q=>Qn5 q)
def QfD : Nat→Ql→Option Int
 | 0,_=>none
 | n+1,a=>QoR (QfD n) a
def QrS (a:Ql):Option Int:=QfD (SizeOf.sizeOf a) a
theorem Qwu (rec_expr_Size:Ql→Option Int)(hrec_expr_Size:∀(a:Ql) {r:Int},rec_expr_Size a=some r→Qd prog 193 [.agg (Qp a)] [] (Gives (.I r) []))(a:Ql){r:Int}(h:QoR rec_expr_Size a=some r):Qd prog 193 [.agg (Qp a)] [] (Gives (.I r) []):=by
 refine Qd.walk 19 func193 rfl rfl rfl fun C hC=>?_
 refine Qa hC [.n 16,.o (.ln a.Kids.length),.n 4,.K [3,7,8,9] []] rfl ⟨tt_,Qk8 _⟩ ?_
 obtain⟨l,f,h⟩:=Qc h
 refine AK.loop (body:=(fun st=>Qlx a rec_expr_Size st.1 st.2)) (fun st σ=>σ=⟨[(3,.I st.1),(7,.sl 3 (Qby a.Kids)),(8,.I (a.Kids.length:Int)),(9,.I st.2)],[]⟩) (fun q e σ=>e=.exit 0∧σ=⟨[(3,.I q)],[]⟩) f rfl ?_ ?_
 ·rintro ⟨m,p⟩ o σ rfl h
  refine tg_ hC [.n 6] rfl ?_
  rcases Qt h with⟨b,h⟩|⟨b,h⟩
  ·obtain⟨i,j,h⟩:=Qc h
   obtain⟨k,g,h⟩:=Qc h
   refine Qa hC [.T,.n 6,.o (.row (Qp i)),.v .no [] (.agg (Qp i)),.n 2,.O 5 (.var (Qp i)),.n 4,.v .no [] (.agg (Qp i)),.o (.c false [.d] (.I k)),.n 9,.K [3,7,8,9] []] rfl ⟨⟨⟨⟨⟨⟨tt_,b⟩,(QeX j)⟩,rfl⟩,rfl⟩,rfl⟩,(hrec_expr_Size _ g)⟩ ?_
   cases h
   exact QZ rfl rfl
  refine Qa hC [.F,.n 2,.K [3] []] rfl ⟨tt_,b⟩ ?_
  cases h
  exact Q1 rfl (an_ rfl rfl)
 replace h:Qn5 l=some r:=h
 rintro e σ ⟨rfl,rfl⟩
 refine tg_ hC [.n 9] rfl ?_
 cases h
 exact d1_ rfl rfl tt_
theorem Qqk : ∀(fuel:Nat) (a:Ql) {r:Int},QfD fuel a=some r→Qd prog 193 [.agg (Qp a)] [] (Gives (.I r) [])
 | 0,_,_,h=>by cases h
 | n+1,a,_,h=>Qwu (QfD n) (fun _ _ h=>Qqk n _ h) a h
theorem Qya (a){r}(h:QrS a=some r):Qd prog 193 [.agg (Qp a)] [] (Gives (.I r) []):=Qqk _ a h
def Qil (a:Int)(b:Bool):Option Int:=
 bif b then
 some 1
 else
 bif (a==5)then
 some 2
 else
 bif (a==6)then
 some 3
 else
 some (-1)
def Qim (a:Int)(b:Bool):Option Int:=
 bif b then
 some 0
 else
 bif (a==3)then
 Qil a (a==3)
 else
 Qil a (a==4)
def Qor (a:Int):Option Int:=
 bif (a==1)then
 Qim a (a==1)
 else
 Qim a (a==2)
theorem Qyb (a){r}(h:Qor a=some r):Qd prog 228 [.I a] [] (Gives (.I r) []):=by
 refine Qd.walk 14 func228 rfl rfl rfl fun C hC=>?_
 refine tg_ hC [.n 12] rfl ?_
 refine AK.meet (fun σ=>∃j:Bool,σ=⟨[(3,.I a),(4,.b j)],[]⟩∧Qim a j=some r) ?_ ?_
 ·refine tg_ hC [.n 6] rfl ?_
  refine bg_ h (fun c h=>Qa hC [.T,.n 1,.K [3,4] []] rfl ⟨tt_,c⟩ ?_) fun c h=>Qa hC [.F,.n 4,.K [3,4] []] rfl ⟨tt_,c⟩ ?_
  ·exact AK.met (ex_ _ (an_ rfl h))
  exact AK.met (ex_ _ (an_ rfl h))
 rintro σ ⟨j,rfl,h⟩
 refine bg_ h (fun e h=>Qa hC [.T,.n 8,.K [2] []] rfl ⟨tt_,e⟩ ?_) fun e h=>Qa hC [.F] rfl ⟨tt_,e⟩ ?_
 ·cases h
  exact d1_ rfl rfl tt_
 refine AK.meet (fun σ=>∃k:Bool,σ=⟨[(3,.I a),(7,.b k)],[]⟩∧Qil a k=some r) ?_ ?_
 ·refine tg_ hC [.n 6] rfl ?_
  refine bg_ h (fun d h=>Qa hC [.T,.n 1,.K [3,7] []] rfl ⟨tt_,d⟩ ?_) fun d h=>Qa hC [.F,.n 4,.K [3,7] []] rfl ⟨tt_,d⟩ ?_
  ·exact AK.met (ex_ _ (an_ rfl h))
  exact AK.met (ex_ _ (an_ rfl h))
 rintro σ ⟨k,rfl,h⟩
 refine bg_ h (fun f h=>Qa hC [.T,.n 8,.K [2] []] rfl ⟨tt_,f⟩ ?_) fun f h=>Qa hC [.F,.n 6] rfl ⟨tt_,f⟩ ?_
 ·cases h
  exact d1_ rfl rfl tt_
 refine bg_ h (fun g h=>Qa hC [.T,.n 8,.K [2] []] rfl ⟨tt_,g⟩ ?_) fun g h=>Qa hC [.F,.n 6] rfl ⟨tt_,g⟩ ?_
 ·cases h
  exact d1_ rfl rfl tt_
 refine bg_ h (fun i h=>Qa hC [.T,.n 8,.K [2] []] rfl ⟨tt_,i⟩ ?_) fun i h=>Qa hC [.F,.n 9,.K [2] []] rfl ⟨tt_,i⟩ ?_
 ·cases h
  exact d1_ rfl rfl tt_
 cases h
 exact d1_ rfl rfl tt_
def Qnr (op1:Int):Option Bool:=
 some ((decide (1≤op1))&&(decide (op1≤11)))
theorem Qxd (op1){r}(h:Qnr op1=some r):Qd prog 229 [.I op1] [] (Gives (.b r) []):=by
 refine Qd.walk 9 func229 rfl rfl rfl fun C hC=>?_
 refine tg_ hC [.n 6] rfl ?_
 refine AK.meetX (fun σ=>σ=⟨[(2,.b ((decide (1≤op1))&&(decide (op1≤11))))],[]⟩) ?_ ?_
 ·refine tg_ hC [.n 4] rfl ?_
  rcases Q0 (decide (1≤op1))with a | a
  ·refine Qa hC [.S 5 (.b true),.n 5,.S 2 (.b ((decide (1≤op1))&&(decide (op1≤11)))),.K [2] []] rfl ⟨(tc_ a),(congrArg V.b (Qcy a rfl))⟩ ?_
   exact AK.met rfl
  refine Qa hC [.S 5 (.b false),.n 5,.S 2 (.b ((decide (1≤op1))&&(decide (op1≤11)))),.K [2] []] rfl ⟨(tc_ a),(congrArg V.b (QeJ a rfl))⟩ ?_
  exact AK.met rfl
 rintro σ rfl
 refine tg_ hC [.n 2] rfl ?_
 cases h
 exact d1_ rfl rfl tt_
def Qn6 (rec_expr_parts:Ql→Int→Option Bool)(a:Ql)(b:Int):Option Bool:=
 (rec_expr_parts a b).bind fun c=>
 some (!c)
theorem QvI (rec_expr_parts:Ql→Int→Option Bool)(hrec_expr_parts:∀(i:Ql) (a:Int) {r:Bool},rec_expr_parts i a=some r→Qd prog 194 [.agg (Qp i),.I a] [] (Gives (.b r) []))(e:Ql)(f:Int){r:Bool}(h:Qn6 rec_expr_parts e f=some r):Qd prog 231 [.agg (Qp e),.loc 615 0 0] [(615,.var (Qb f))] (Gives (.b r) [(615,.var (Qb f))]):=by
 refine Qd.walk 8 func231 rfl rfl rfl fun C hC=>?_
 obtain⟨j,g,h⟩:=Qc h
 refine Qa hC [.n 8,.v .no [] (.agg (Qp e)),.n 1,.o (.c false [.d,.d] (.b j)),.n 5] rfl ⟨⟨tt_,rfl⟩,(hrec_expr_parts _ _ g)⟩ ?_
 cases h
 exact d1_ rfl rfl ⟨rfl,tt_⟩
def Qbi (c:(List Ql))(rec_expr_parts:Ql→Int→Option Bool)(d:Int)(a:Int):Option (Int⊕(Int⊕Unit)):=
 bif (decide (a<(c.length:Int)))then
 (idx c a).bind fun e=>
 (Qn6 rec_expr_parts e d).bind fun b=>
 bif b then
 some (.inr (.inl a))
 else
 some (.inl (w64 (a+1)))
 else
 some (.inr (.inr ()))
def Qeh (a:Int):Option Int:=
 some a
def Qei : Option Int:=
 some (-1)
def QcT (rec_expr_parts:Ql→Int→Option Bool)(a:(List Ql))(b:Int):Option Int:=
 (QE (fun st=>Qbi a rec_expr_parts b st) 0).bind (Sum.elim (fun q=>Qeh q) (fun q=>Qei))
theorem Qjk (rec_expr_parts:Ql→Int→Option Bool)(hrec_expr_parts:∀(s:Ql) (a:Int) {r:Bool},rec_expr_parts s a=some r→Qd prog 194 [.agg (Qp s),.I a] [] (Gives (.b r) []))(i:(List Ql))(f:Int){r:Int}(h:QcT rec_expr_parts i f=some r):Qd prog 245 [.sl 3 (Qby i),.clo (.func 231) [] [.loc 615 0 0]] [(615,.var (Qb f))] (Gives (.I r) [(615,.var (Qb f))]):=by
 refine Qd.walk 19 func245 rfl rfl rfl fun C hC=>?_
 refine Qa hC [.n 9,.o (.ln i.length),.n 4,.K [0,1,7,8] [615]] rfl ⟨tt_,Qk8 _⟩ ?_
 obtain⟨l,j,h⟩:=Qc h
 refine AK.loop (body:=(fun st=>Qbi i rec_expr_parts f st)) (fun st σ=>σ=⟨[(0,.sl 3 (Qby i)),(1,.clo (.func 231) [] [.loc 615 0 0]),(7,.I (i.length:Int)),(8,.I st)],[(615,.var (Qb f))]⟩) (Sum.elim (fun q e σ=>e=.ret∧σ=⟨[(4,.I q)],[(615,.var (Qb f))]⟩) (fun q e σ=>e=.exit 0∧σ=⟨[],[(615,.var (Qb f))]⟩)) j rfl ?_ ?_
 ·rintro w o σ rfl h
  refine tg_ hC [.n 6] rfl ?_
  rcases Qt h with⟨g,h⟩|⟨g,h⟩
  ·obtain⟨t,m,h⟩:=Qc h
   obtain⟨p,k,h⟩:=Qc h
   refine Qa hC [.T,.n 15,.o (.row (Qp t)),.v .no [] (.agg (Qp t)),.cm (.clo) [(615,615)] [(615,615)] [] [.d,.d] [(615,.var (Qb f))] (.b p),.n 2] rfl ⟨⟨⟨⟨tt_,g⟩,(QeX m)⟩,rfl⟩,(QvI rec_expr_parts hrec_expr_parts _ _ k)⟩ ?_
   refine bg_ h (fun c h=>Qa hC [.T,.n 9,.K [4] [615]] rfl ⟨tt_,c⟩ ?_) fun c h=>Qa hC [.F,.n 7,.K [0,1,7,8] [615]] rfl ⟨tt_,c⟩ ?_
   ·cases h
    exact Qal rfl (an_ rfl rfl)
   cases h
   exact QZ rfl rfl
  refine Qa hC [.F,.n 2,.K [] [615]] rfl ⟨tt_,g⟩ ?_
  cases h
  exact Q1 rfl (an_ rfl rfl)
 rcases l with(u | _)
 ·replace h:Qeh u=some r:=h
  rintro e σ ⟨rfl,rfl⟩
  refine tg_ hC [.n 2] rfl ?_
  cases h
  exact d1_ rfl rfl ⟨rfl,tt_⟩
 replace h:Qei=some r:=h
 rintro e σ ⟨rfl,rfl⟩
 refine tg_ hC [.n 8] rfl ?_
 cases h
 exact d1_ rfl rfl ⟨rfl,tt_⟩
def Qbj (rec_expr_parts:Ql→Int→Option Bool)(a:(List Ql))(b:Int):Option Bool:=
 (QcT rec_expr_parts a b).bind fun c=>
 some (decide (0≤c))
theorem Qin (rec_expr_parts:Ql→Int→Option Bool)(hrec_expr_parts:∀(f:Ql) (a:Int) {r:Bool},rec_expr_parts f a=some r→Qd prog 194 [.agg (Qp f),.I a] [] (Gives (.b r) []))(g:(List Ql))(c:Int){r:Bool}(h:Qbj rec_expr_parts g c=some r):Qd prog 230 [.sl 3 (Qby g),.clo (.func 231) [] [.loc 615 0 0]] [(615,.var (Qb c))] (Gives (.b r) [(615,.var (Qb c))]):=by
 refine Qd.walk 9 func230 rfl rfl rfl fun C hC=>?_
 obtain⟨i,e,h⟩:=Qc h
 refine Qa hC [.n 9,.cm (.fn) [(615,615)] [(615,615)] [] [.d,.d] [(615,.var (Qb c))] (.I i),.n 5] rfl ⟨tt_,(Qjk rec_expr_parts hrec_expr_parts _ _ e)⟩ ?_
 cases h
 exact d1_ rfl rfl ⟨rfl,tt_⟩
def Qrg (b:Ql):Option Bool:=
 bif (b.Kind==5)then
 (Qnr b.Num).bind fun a=>
 some (!a)
 else
 some false
def Qj6 (rec_expr_parts:Ql→Int→Option Bool)(d:Ql)(a:Int)(b:Bool):Option Bool:=
 bif b then
 some false
 else
 (Qbj rec_expr_parts d.Kids a).bind fun c=>
 some (!c)
def Qn7 (rec_expr_parts:Ql→Int→Option Bool)(b:Ql)(a:Int):Option Bool:=
 (Qor b.Kind).bind fun d=>
 bif ((b.Kids.length:Int) != d)then
 some false
 else
 bif ((b.Kind==2)&&((decide (b.Num<0))||(decide (a≤b.Num))))then
 some false
 else
 (Qrg b).bind (fun c=>Qj6 rec_expr_parts b a c)
def QeO : Nat→Ql→Int→Option Bool
 | 0,_,_=>none
 | n+1,b,a=>Qn7 (QeO n) b a
def Qql (b:Ql)(a:Int):Option Bool:=QeO (SizeOf.sizeOf b) b a
theorem QvJ (rec_expr_parts:Ql→Int→Option Bool)(hrec_expr_parts:∀(f:Ql) (e:Int) {r:Bool},rec_expr_parts f e=some r→Qd prog 194 [.agg (Qp f),.I e] [] (Gives (.b r) []))(f:Ql)(e:Int){r:Bool}(h:Qn7 rec_expr_parts f e=some r):Qd prog 194 [.agg (Qp f),.I e] [] (Gives (.b r) []):=by
 refine Qd.walk 43 func194 rfl rfl rfl fun C hC=>?_
 obtain⟨x,u,h⟩:=Qc h
 refine tg_ hC [.n 10,.K [2,3] [2,3]] rfl ?_
 refine AK.draw2 Qs hC mixed [.N,.N,.a (.ln f.Kids.length) none false,.N,.N,.a (.c false [.d] (.I x)) none false,.N,.N] [] [] [2,3,5] [2,3] rfl rfl rfl ⟨⟨tt_,Qk8 _⟩,(Qyb _ u)⟩ rfl (by kernel_rfl) rfl rfl rfl ?_
 refine tg_ hC [.n 1] rfl ?_
 refine bg_ h (fun m h=>Qa hC [.T,.n 8,.K [4] []] rfl ⟨tt_,m⟩ ?_) fun m h=>Qa hC [.F,.n 1] rfl ⟨tt_,m⟩ ?_
 ·cases h
  exact d1_ rfl rfl tt_
 refine AK.meetX (fun σ=>σ=⟨[(2,.loc 2 0 0),(3,.loc 3 0 0),(13,.b ((f.Kind==2)&&((decide (f.Num<0))||(decide (e≤f.Num)))))],[(2,.var (Qp f)),(3,.var (Qb e))]⟩) ?_ ?_
 ·refine tg_ hC [.n 5] rfl ?_
  rcases Q0 (f.Kind==2)with g | g
  ·refine Qa hC [.S 17 (.b true),.n 4] rfl (tc_ g) ?_
   rcases Q0 (decide (f.Num<0))with i | i
   ·refine Qa hC [.S 21 (.b true),.n 8,.S 13 (.b ((f.Kind==2)&&((decide (f.Num<0))||(decide (e≤f.Num))))),.K [2,3,13] [2,3]] rfl ⟨(tc_ i),(congrArg V.b (Qcy g (orT i rfl)))⟩ ?_
    exact AK.met rfl
   refine Qa hC [.S 21 (.b false),.n 8,.S 13 (.b ((f.Kind==2)&&((decide (f.Num<0))||(decide (e≤f.Num))))),.K [2,3,13] [2,3]] rfl ⟨(tc_ i),(congrArg V.b (Qcy g (orF i rfl)))⟩ ?_
   exact AK.met rfl
  refine Qa hC [.S 17 (.b false),.n 12,.S 13 (.b ((f.Kind==2)&&((decide (f.Num<0))||(decide (e≤f.Num))))),.K [2,3,13] [2,3]] rfl ⟨(tc_ g),(congrArg V.b (QeJ g rfl))⟩ ?_
  exact AK.met rfl
 rintro σ rfl
 refine tg_ hC [.n 1] rfl ?_
 refine bg_ h (fun j h=>Qa hC [.T,.n 8,.K [4] []] rfl ⟨tt_,j⟩ ?_) fun j h=>Qa hC [.F,.n 1] rfl ⟨tt_,j⟩ ?_
 ·cases h
  exact d1_ rfl rfl tt_
 obtain⟨p,q,h⟩:=Qc h
 replace h:Qj6 rec_expr_parts f e p=some r:=h
 refine AK.meetX (fun σ=>σ=⟨[(2,.loc 2 0 0),(3,.loc 3 0 0),(28,.b p)],[(2,.var (Qp f)),(3,.var (Qb e))]⟩) ?_ ?_
 ·replace h:=q
  refine tg_ hC [.n 5] rfl ?_
  rcases Qt h with⟨k,h⟩|⟨k,h⟩
  ·obtain⟨v,s,h⟩:=Qc h
   refine Qa hC [.S 32 (.b true),.n 2,.o (.c false [.d] (.b v)),.n 4,.K [2,3,28] [2,3]] rfl ⟨(tc_ k),(Qxd _ s)⟩ ?_
   cases h
   exact AK.met rfl
  refine Qa hC [.S 32 (.b false),.n 7,.K [2,3,28] [2,3]] rfl (tc_ k) ?_
  cases h
  exact AK.met rfl
 rintro σ rfl
 replace h:Qj6 rec_expr_parts f e p=some r:=h
 refine tg_ hC [.n 1] rfl ?_
 rcases Qt h with⟨l,h⟩|⟨l,h⟩
 ·refine Qa hC [.T,.n 8] rfl ⟨tt_,l⟩ ?_
  cases h
  exact d1_ rfl rfl tt_
 obtain⟨w,t,h⟩:=Qc h
 refine Qa hC [.F,.n 8,.cm (.fn) [(615,3)] [(3,615)] [] [.d,.d] [(615,.var (Qb e))] (.b w),.n 5] rfl ⟨⟨tt_,l⟩,(Qin rec_expr_parts hrec_expr_parts _ _ t)⟩ ?_
 cases h
 exact d1_ rfl rfl tt_
theorem Qpd : ∀(fuel:Nat) (c:Ql) (a:Int) {r:Bool},QeO fuel c a=some r→Qd prog 194 [.agg (Qp c),.I a] [] (Gives (.b r) [])
 | 0,_,_,_,h=>by cases h
 | n+1,c,a,_,h=>QvJ (QeO n) (fun _ _ _ h=>Qpd n _ _ h) c a h
theorem Qxe (c a){r}(h:Qql c a=some r):Qd prog 194 [.agg (Qp c),.I a] [] (Gives (.b r) []):=Qpd _ c a h
def Qrh (b:Ql)(a:Int):Option Bool:=
 (Qqj b).bind fun d=>
 bif (decide (d≤40))then
 (QrS b).bind fun e=>
 bif (decide (e≤400))then
 (Qql b a).bind fun c=>
 some c
 else
 some false
 else
 some false
def Qns (a:Bool):Option Bool:=
 some a
def Qio (b:Ql)(a:Int):Option Bool:=
 (Qrh b a).bind (fun c=>Qns c)
theorem Qnt (g a){r}(h:Qio g a=some r):Qd prog 131 [.agg (Qp g),.I a] [] (Gives (.b r) []):=by
 refine Qd.walk 18 func131 rfl rfl rfl fun C hC=>?_
 refine tg_ hC [.n 7] rfl ?_
 obtain⟨j,k,h⟩:=Qc h
 replace h:Qns j=some r:=h
 refine AK.meetX (fun σ=>σ=⟨[(4,.b j)],[]⟩) ?_ ?_
 ·replace h:=k
  obtain⟨q,l,h⟩:=Qc h
  refine Qa hC [.n 1,.v .no [] (.agg (Qp g)),.o (.c false [.d] (.I q)),.n 2] rfl ⟨⟨tt_,rfl⟩,(Qxc _ l)⟩ ?_
  rcases Qt h with⟨e,h⟩|⟨e,h⟩
  ·obtain⟨s,m,h⟩:=Qc h
   refine Qa hC [.S 8 (.b true),.v .no [] (.agg (Qp g)),.o (.c false [.d] (.I s)),.n 3] rfl ⟨⟨(tc_ e),rfl⟩,(Qya _ m)⟩ ?_
   rcases Qt h with⟨f,h⟩|⟨f,h⟩
   ·obtain⟨p,i,h⟩:=Qc h
    refine Qa hC [.S 13 (.b true),.v .no [] (.agg (Qp g)),.n 1,.o (.c false [.d,.d] (.b p)),.n 3,.K [4] []] rfl ⟨⟨(tc_ f),rfl⟩,(Qxe _ _ i)⟩ ?_
    cases h
    exact AK.met rfl
   refine Qa hC [.S 13 (.b false),.n 6,.K [4] []] rfl (tc_ f) ?_
   cases h
   exact AK.met rfl
  refine Qa hC [.S 8 (.b false),.n 11,.K [4] []] rfl (tc_ e) ?_
  cases h
  exact AK.met rfl
 rintro σ rfl
 replace h:Qns j=some r:=h
 refine tg_ hC [.n 2] rfl ?_
 cases h
 exact d1_ rfl rfl tt_
def Qpe (a:QA)(b:Int):Option Bool:=
 (Qio a.Guard b).bind fun c=>
 bif c then
 bif (decide (0<(a.Ins.length:Int)))then
 some (decide (0<(a.Outs.length:Int)))
 else
 some false
 else
 some false
def Qh7 (a:Bool):Option Bool:=
 some a
def Qly (a:QA)(b:Int):Option Bool:=
 (Qpe a b).bind (fun c=>Qh7 c)
theorem QvK (a g){r}(h:Qly a g=some r):Qd prog 130 [.loc 615 0 0,.loc 616 0 0] [(615,.var (Qh a)),(616,.var (Qb g))] (Gives (.b r) [(615,.var (Qh a)),(616,.var (Qb g))]):=by
 refine Qd.walk 19 func130 rfl rfl rfl fun C hC=>?_
 refine tg_ hC [.n 6] rfl ?_
 obtain⟨i,j,h⟩:=Qc h
 replace h:Qh7 i=some r:=h
 refine AK.meetX (fun σ=>σ=⟨[(2,.b i)],[(615,.var (Qh a)),(616,.var (Qb g))]⟩) ?_ ?_
 ·replace h:=j
  obtain⟨l,k,h⟩:=Qc h
  refine Qa hC [.n 2,.v .no [] (.agg (Qp a.Guard)),.n 1,.o (.c false [.d,.d] (.b l)),.n 1] rfl ⟨⟨tt_,rfl⟩,(Qnt _ _ k)⟩ ?_
  refine bg_ h (fun e h=>Qa hC [.S 7 (.b true),.n 2,.o (.ln a.Ins.length),.n 3] rfl ⟨(tc_ e),Qg⟩ ?_) fun e h=>Qa hC [.S 7 (.b false),.n 13,.K [2] [615,616]] rfl (tc_ e) ?_
  ·refine bg_ h (fun f h=>Qa hC [.S 13 (.b true),.n 2,.o (.ln a.Outs.length),.n 4,.K [2] [615,616]] rfl ⟨(tc_ f),Qg⟩ ?_) fun f h=>Qa hC [.S 13 (.b false),.n 7,.K [2] [615,616]] rfl (tc_ f) ?_
   ·cases h
    exact AK.met rfl
   cases h
   exact AK.met rfl
  cases h
  exact AK.met rfl
 rintro σ rfl
 replace h:Qh7 i=some r:=h
 refine tg_ hC [.n 2] rfl ?_
 cases h
 exact d1_ rfl rfl ⟨rfl,rfl,tt_⟩
def Qi3 (a:Qk)(b:QX):Option Bool:=
 (QaY a.Places b.Place).bind fun c=>
 some c
theorem QtX (a e){r}(h:Qi3 a e=some r):Qd prog 197 [.loc 615 0 0,.loc 616 0 0] [(615,.var (Qe a)),(616,.var (Q2 e))] (Gives (.b r) [(615,.var (Qe a)),(616,.var (Q2 e))]):=by
 refine Qd.walk 8 func197 rfl rfl rfl fun C hC=>?_
 obtain⟨g,f,h⟩:=Qc h
 refine Qa hC [.n 11,.o (.c false [.d,.d] (.b g)),.n 4] rfl ⟨tt_,(Qck _ _ f)⟩ ?_
 cases h
 exact d1_ rfl rfl ⟨rfl,rfl,tt_⟩
def Qi4 (a:QX)(b:Int):Option Bool:=
 (Qio a.Expr b).bind fun c=>
 some c
theorem QtY (a e){r}(h:Qi4 a e=some r):Qd prog 198 [.loc 615 0 0,.loc 616 0 0] [(615,.var (Q2 a)),(616,.var (Qb e))] (Gives (.b r) [(615,.var (Q2 a)),(616,.var (Qb e))]):=by
 refine Qd.walk 7 func198 rfl rfl rfl fun C hC=>?_
 obtain⟨g,f,h⟩:=Qc h
 refine Qa hC [.n 8,.v .no [] (.agg (Qp a.Expr)),.n 1,.o (.c false [.d,.d] (.b g)),.n 4] rfl ⟨⟨tt_,rfl⟩,(Qnt _ _ f)⟩ ?_
 cases h
 exact d1_ rfl rfl ⟨rfl,rfl,tt_⟩
def Qi5 (c:Qk)(b:QX)(d:Int)(e:Int)(f:Int):Option Int:=
 (Qi3 c b).bind fun g=>
 bif (!g)then
 some d
 else
 (Qi4 b e).bind fun a=>
 bif (!a)then
 some f
 else
 some 0
theorem QtZ (i e j k l){r}(h:Qi5 i e j k l=some r):Qd prog 64 [.own 615 2] [(615,.var [.clo (.func 197) [] [.loc 616 0 0,.loc 617 0 0],.I j,.clo (.func 198) [] [.loc 617 0 0,.loc 618 0 0],.I l]),(616,.var (Qe i)),(617,.var (Q2 e)),(618,.var (Qb k))] (Gives (.I r) [(615,.var [.clo (.func 197) [] [.loc 616 0 0,.loc 617 0 0],.I j,.clo (.func 198) [] [.loc 617 0 0,.loc 618 0 0],.I l]),(616,.var (Qe i)),(617,.var (Q2 e)),(618,.var (Qb k))]):=by
 refine Qd.walk 18 func64 rfl rfl rfl fun C hC=>?_
 refine tg_ hC [.n 14] rfl ?_
 refine AK.loopN 3 (AK.rnd ?_)
 obtain⟨s,m,h⟩:=Qc h
 refine Qa hC [.n 2,.v .no [] (.b true),.n 10,.o (.any (.loc 615 0 0) none),.n 3,.O 4 (.var [.clo (.func 197) [] [.loc 616 0 0,.loc 617 0 0],.I j]),.n 6,.cm (.clo) [(615,616),(616,617)] [(616,615),(617,616)] [] [.d,.d] [(615,.var (Qe i)),(616,.var (Q2 e))] (.b s),.n 3] rfl ⟨⟨⟨⟨tt_,rfl⟩,(fun σ f p _=>Stp.idxV rfl rfl (QH hC.n rfl) (f _ _ rfl) (f _ _ rfl) (Qs.es rfl) (p _ _ rfl) (by decide))⟩,rfl⟩,(QtX _ _ m)⟩ ?_
 refine bg_ h (fun c h=>Qa hC [.T,.n 13,.K [2] [615,616,617,618]] rfl ⟨tt_,c⟩ ?_) fun c h=>Qa hC [.F,.n 4,.v .no [] (.I 1),.n 2] rfl ⟨⟨tt_,c⟩,rfl⟩ ?_
 ·cases h
  exact d1_ rfl rfl ⟨rfl,rfl,rfl,rfl,tt_⟩
 refine AK.met (AK.rnd ?_)
 obtain⟨q,g,h⟩:=Qc h
 refine Qa hC [.n 2,.v .no [] (.b true),.n 10,.o (.any (.loc 615 0 2) none),.n 1,.kill 4,.n 2,.O 4 (.var [.clo (.func 198) [] [.loc 617 0 0,.loc 618 0 0],.I l]),.n 6,.cm (.clo) [(615,617),(616,618)] [(617,615),(618,616)] [] [.d,.d] [(615,.var (Q2 e)),(616,.var (Qb k))] (.b q),.n 3] rfl ⟨⟨⟨⟨tt_,rfl⟩,(fun σ f p _=>Stp.idxV rfl rfl (QH hC.n rfl) (f _ _ rfl) (f _ _ rfl) (Qs.es rfl) (p _ _ rfl) (by decide))⟩,rfl⟩,(QtY _ _ g)⟩ ?_
 refine bg_ h (fun a h=>Qa hC [.T,.n 13,.K [2] [615,616,617,618]] rfl ⟨tt_,a⟩ ?_) fun a h=>Qa hC [.F,.n 4,.v .no [] (.I 2),.n 2] rfl ⟨⟨tt_,a⟩,rfl⟩ ?_
 ·cases h
  exact d1_ rfl rfl ⟨rfl,rfl,rfl,rfl,tt_⟩
 refine AK.met (AK.rnd ?_)
 refine Qa hC [.n 2,.v .no [] (.b false),.n 15] rfl ⟨tt_,rfl⟩ ?_
 cases h
 exact d1_ rfl rfl ⟨rfl,rfl,rfl,rfl,tt_⟩
def Qlz (e:Int)(a:QX)(b:Qk)(c:Int):Option Int:=
 (Qi5 b a 3 c 1).bind fun d=>
 some d
theorem QvL (f c a b){r}(h:Qlz f c a b=some r):Qd prog 196 [.I f,.agg (Q2 c),.loc 615 0 0,.loc 616 0 0] [(615,.var (Qe a)),(616,.var (Qb b))] (Gives (.I r) [(615,.var (Qe a)),(616,.var (Qb b))]):=by
 refine Qd.walk 13 func196 rfl rfl rfl fun C hC=>?_
 obtain⟨g,e,h⟩:=Qc h
 refine Qa hC [.n 9,.v .no [] (.agg [.clo (.func 197) [] [.loc 615 0 0,.loc 5 0 0],.I 3]),.n 1,.v .no [] (.agg [.clo (.func 198) [] [.loc 5 0 0,.loc 616 0 0],.I 1]),.o (.any (.own 11 2) (some (.var [.clo (.func 197) [] [.loc 615 0 0,.loc 5 0 0],.I 3,.clo (.func 198) [] [.loc 5 0 0,.loc 616 0 0],.I 1]))),.cm (.fn) [(615,11),(616,615),(617,5),(618,616)] [(11,615),(615,616),(5,617),(616,618)] [] [.d] [(615,.var [.clo (.func 197) [] [.loc 616 0 0,.loc 617 0 0],.I 3,.clo (.func 198) [] [.loc 617 0 0,.loc 618 0 0],.I 1]),(616,.var (Qe a)),(617,.var (Q2 c)),(618,.var (Qb b))] (.I g),.n 4] rfl ⟨⟨⟨⟨tt_,rfl⟩,rfl⟩,(fun σ i j hf=>Stp.buildAny rfl rfl (QH hC.n rfl) (Qs.es rfl) QoB rfl (by decide) (by decide) (Qgi i rfl) rfl rfl (hf rfl))⟩,(QtZ _ _ _ _ _ e)⟩ ?_
 cases h
 exact d1_ rfl rfl ⟨rfl,rfl,tt_⟩
def QeA (d:(List QX))(e:Qk)(f:Int)(a:Int):Option (Int⊕((Int×Int)⊕Unit)):=
 bif (decide (a<(d.length:Int)))then
 (idx d a).bind fun c=>
 (Qlz a c e f).bind fun b=>
 bif (b != 0)then
 some (.inr (.inl (a,b)))
 else
 some (.inl (w64 (a+1)))
 else
 some (.inr (.inr ()))
def QeB (a:Int)(b:Int):Option (Int×Int):=
 some (a,b)
def QeC : Option (Int×Int):=
 some (0,0)
def QfS (a:(List QX))(b:Qk)(c:Int):Option (Int×Int):=
 (QE (fun st=>QeA a b c st) 0).bind (Sum.elim (fun q=>QeB q.1 q.2) (fun q=>QeC))
theorem QqI (i f g){r}(h:QfS i f g=some r):Qd prog 195 [.sl 4 (i.map Q2),.clo (.func 196) [] [.loc 615 0 0,.loc 616 0 0]] [(615,.var (Qe f)),(616,.var (Qb g))] (Gives (.tup [.I r.1,.I r.2]) [(615,.var (Qe f)),(616,.var (Qb g))]):=by
 refine Qd.walk 25 func195 rfl rfl rfl fun C hC=>?_
 refine Qa hC [.n 10,.o (.ln i.length),.n 4,.K [1,9,10,11] [615,616]] rfl ⟨tt_,Qg⟩ ?_
 obtain⟨m,j,h⟩:=Qc h
 refine AK.loop (body:=(fun st=>QeA i f g st)) (fun st σ=>σ=⟨[(1,.clo (.func 196) [] [.loc 615 0 0,.loc 616 0 0]),(9,.sl 4 (i.map Q2)),(10,.I (i.length:Int)),(11,.I st)],[(615,.var (Qe f)),(616,.var (Qb g))]⟩) (Sum.elim (fun q e σ=>e=.ret∧σ=⟨[(4,.I q.1),(5,.I q.2)],[(615,.var (Qe f)),(616,.var (Qb g))]⟩) (fun q e σ=>e=.exit 0∧σ=⟨[],[(615,.var (Qe f)),(616,.var (Qb g))]⟩)) j rfl ?_ ?_
 ·rintro u o σ rfl h
  refine tg_ hC [.n 6] rfl ?_
  rcases Qt h with⟨a,h⟩|⟨a,h⟩
  ·obtain⟨c,k,h⟩:=Qc h
   obtain⟨p,l,h⟩:=Qc h
   refine Qa hC [.T,.n 7,.o (.row (Q2 c)),.v .no [] (.agg (Q2 c)),.n 3,.O 7 (.var (Q2 c)),.n 6,.v .no [] (.agg (Q2 c)),.cm (.clo) [(615,615),(616,616)] [(615,615),(616,616)] [] [.d,.d,.d,.d] [(615,.var (Qe f)),(616,.var (Qb g))] (.I p),.n 9] rfl ⟨⟨⟨⟨⟨⟨tt_,a⟩,(QJ k)⟩,rfl⟩,rfl⟩,rfl⟩,(QvL _ _ _ _ l)⟩ ?_
   refine bg_ h (fun b h=>Qa hC [.T,.n 11,.K [4,5] [615,616]] rfl ⟨tt_,b⟩ ?_) fun b h=>Qa hC [.F,.n 7,.K [1,9,10,11] [615,616]] rfl ⟨tt_,b⟩ ?_
   ·cases h
    exact Qal rfl (an_ rfl rfl)
   cases h
   exact QZ rfl rfl
  refine Qa hC [.F,.n 2,.K [] [615,616]] rfl ⟨tt_,a⟩ ?_
  cases h
  exact Q1 rfl (an_ rfl rfl)
 rcases m with(⟨s,t⟩|_)
 ·replace h:QeB s t=some r:=h
  rintro e σ ⟨rfl,rfl⟩
  refine tg_ hC [.n 2] rfl ?_
  cases h
  exact d2_ rfl rfl rfl ⟨rfl,rfl,tt_⟩
 replace h:QeC=some r:=h
 rintro e σ ⟨rfl,rfl⟩
 refine tg_ hC [.n 9] rfl ?_
 cases h
 exact d2_ rfl rfl rfl ⟨rfl,rfl,tt_⟩
def QkI (b:Qk)(c:(List QX))(a:Int):Option Int:=
 (QfS c b a).bind fun d=>
 some d.2
theorem Qri (b e a){r}(h:QkI b e a=some r):Qd prog 133 [.agg (Qe b),.sl 4 (e.map Q2),.I a] [] (Gives (.I r) []):=by
 refine Qd.walk 16 func133 rfl rfl rfl fun C hC=>?_
 obtain⟨f,c,h⟩:=Qc h
 refine Qa hC [.n 11,.cm (.fn) [(615,3),(616,5)] [(3,615),(5,616)] [] [.d,.d] [(615,.var (Qe b)),(616,.var (Qb a))] (.tup [.I f.1,.I f.2]),.n 14] rfl ⟨tt_,(QqI _ _ _ c)⟩ ?_
 cases h
 exact d1_ rfl rfl tt_
def QlA (a:Qk)(b:QA)(c:Int):Option Int:=
 (QkI a b.Ins c).bind fun d=>
 some d
theorem QvM (a b e){r}(h:QlA a b e=some r):Qd prog 132 [.loc 615 0 0,.loc 616 0 0,.loc 617 0 0] [(615,.var (Qe a)),(616,.var (Qh b)),(617,.var (Qb e))] (Gives (.I r) [(615,.var (Qe a)),(616,.var (Qh b)),(617,.var (Qb e))]):=by
 refine Qd.walk 9 func132 rfl rfl rfl fun C hC=>?_
 obtain⟨g,f,h⟩:=Qc h
 refine Qa hC [.n 7,.v .no [] (.agg (Qe a)),.n 3,.o (.c false [.d,.d,.d] (.I g)),.n 4] rfl ⟨⟨tt_,rfl⟩,(Qri _ _ _ f)⟩ ?_
 cases h
 exact d1_ rfl rfl ⟨rfl,rfl,rfl,tt_⟩
def Qhq (b:Qk)(c:QA)(d:Int)(e:Int):Option (Bool×Int):=
 (QlA b c d).bind fun a=>
 some ((a==0),a)
theorem Qso (c e f j){r}(h:Qhq c e f j=some r):Qd prog 184 [.loc 615 0 0,.loc 619 0 0] [(615,.var [.clo (.func 132) [] [.loc 616 0 0,.loc 617 0 0,.loc 618 0 0]]),(616,.var (Qe c)),(617,.var (Qh e)),(618,.var (Qb f)),(619,.var [.loc 620 0 0]),(620,.var (Qb j))] (Gives (.b r.1) [(615,.var [.clo (.func 132) [] [.loc 616 0 0,.loc 617 0 0,.loc 618 0 0]]),(616,.var (Qe c)),(617,.var (Qh e)),(618,.var (Qb f)),(619,.var [.loc 620 0 0]),(620,.var (Qb r.2))]):=by
 refine Qd.walk 11 func184 rfl rfl rfl fun C hC=>?_
 obtain⟨g,i,h⟩:=Qc h
 refine tg_ hC [.n 6,.K [0,1] [615,616,617,618,619,620]] rfl ?_
 refine AK.draw2 Qs hC mixed [.N,.N,.a (.any (.I g) none) none false,.N,.m .s] [] [] [1] [615,616,617,618,619,620] rfl rfl rfl ⟨tt_,(fun σ k l _=>Stp.callSame (md:=.cm (.clo) [(615,616),(616,617),(617,618)] [(616,615),(617,616),(618,617)] [] [.d,.d,.d] [(615,.var (Qe c)),(616,.var (Qh e)),(617,.var (Qb f))] (.I g) [616,617,618]) Qs hC k l rfl ⟨⟨tt_,(QvM _ _ _ i)⟩,⟨rfl,rfl,rfl,tt_⟩⟩)⟩ rfl (by kernel_rfl) rfl rfl rfl ?_
 refine Qa hC [.O 620 (.var (Qb g)),.n 11] rfl ⟨tt_,rfl⟩ ?_
 cases h
 exact d1_ rfl rfl ⟨rfl,rfl,rfl,rfl,rfl,rfl,tt_⟩
def QlB (a:Qk)(b:QA)(c:Int):Option Int:=
 (QkI a b.Outs c).bind fun d=>
 some d
theorem QvN (a b e){r}(h:QlB a b e=some r):Qd prog 134 [.loc 615 0 0,.loc 616 0 0,.loc 617 0 0] [(615,.var (Qe a)),(616,.var (Qh b)),(617,.var (Qb e))] (Gives (.I r) [(615,.var (Qe a)),(616,.var (Qh b)),(617,.var (Qb e))]):=by
 refine Qd.walk 9 func134 rfl rfl rfl fun C hC=>?_
 obtain⟨g,f,h⟩:=Qc h
 refine Qa hC [.n 7,.v .no [] (.agg (Qe a)),.n 3,.o (.c false [.d,.d,.d] (.I g)),.n 4] rfl ⟨⟨tt_,rfl⟩,(Qri _ _ _ f)⟩ ?_
 cases h
 exact d1_ rfl rfl ⟨rfl,rfl,rfl,tt_⟩
def Qhr (b:Qk)(c:QA)(d:Int)(e:Int):Option (Bool×Int):=
 (QlB b c d).bind fun a=>
 some ((a==0),a)
theorem Qsp (c e f j){r}(h:Qhr c e f j=some r):Qd prog 184 [.loc 615 0 0,.loc 619 0 0] [(615,.var [.clo (.func 134) [] [.loc 616 0 0,.loc 617 0 0,.loc 618 0 0]]),(616,.var (Qe c)),(617,.var (Qh e)),(618,.var (Qb f)),(619,.var [.loc 620 0 0]),(620,.var (Qb j))] (Gives (.b r.1) [(615,.var [.clo (.func 134) [] [.loc 616 0 0,.loc 617 0 0,.loc 618 0 0]]),(616,.var (Qe c)),(617,.var (Qh e)),(618,.var (Qb f)),(619,.var [.loc 620 0 0]),(620,.var (Qb r.2))]):=by
 refine Qd.walk 11 func184 rfl rfl rfl fun C hC=>?_
 obtain⟨g,i,h⟩:=Qc h
 refine tg_ hC [.n 6,.K [0,1] [615,616,617,618,619,620]] rfl ?_
 refine AK.draw2 Qs hC mixed [.N,.N,.a (.any (.I g) none) none false,.N,.m .s] [] [] [1] [615,616,617,618,619,620] rfl rfl rfl ⟨tt_,(fun σ k l _=>Stp.callSame (md:=.cm (.clo) [(615,616),(616,617),(617,618)] [(616,615),(617,616),(618,617)] [] [.d,.d,.d] [(615,.var (Qe c)),(616,.var (Qh e)),(617,.var (Qb f))] (.I g) [616,617,618]) Qs hC k l rfl ⟨⟨tt_,(QvN _ _ _ i)⟩,⟨rfl,rfl,rfl,tt_⟩⟩)⟩ rfl (by kernel_rfl) rfl rfl rfl ?_
 refine Qa hC [.O 620 (.var (Qb g)),.n 11] rfl ⟨tt_,rfl⟩ ?_
 cases h
 exact d1_ rfl rfl ⟨rfl,rfl,rfl,rfl,rfl,rfl,tt_⟩
def QgX (a:Qk)(b:Int):Option Bool:=
 (QaY a.Places b).bind fun c=>
 some c
theorem QrT (a e){r}(h:QgX a e=some r):Qd prog 201 [.loc 615 0 0,.loc 616 0 0] [(615,.var (Qe a)),(616,.var (Qb e))] (Gives (.b r) [(615,.var (Qe a)),(616,.var (Qb e))]):=by
 refine Qd.walk 7 func201 rfl rfl rfl fun C hC=>?_
 obtain⟨g,f,h⟩:=Qc h
 refine Qa hC [.n 10,.o (.c false [.d,.d] (.b g)),.n 4] rfl ⟨tt_,(Qck _ _ f)⟩ ?_
 cases h
 exact d1_ rfl rfl ⟨rfl,rfl,tt_⟩
def QdS (b:(List Int))(c:Int)(a:Int):Option (Int⊕(Int⊕Unit)):=
 bif (decide (a<(b.length:Int)))then
 (idx b a).bind fun d=>
 bif (c==d)then
 some (.inr (.inl a))
 else
 some (.inl (w64 (a+1)))
 else
 some (.inr (.inr ()))
def QdT (a:Int):Option Int:=
 some a
def QdU : Option Int:=
 some (-1)
def Qe0 (a:(List Int))(b:Int):Option Int:=
 (QE (fun st=>QdS a b st) 0).bind (Sum.elim (fun q=>QdT q) (fun q=>QdU))
theorem Qpy (c f){r}(h:Qe0 c f=some r):Qd prog 232 [.sl 1 (c.map Qb),.I f] [] (Gives (.I r) []):=by
 refine Qd.walk 19 func232 rfl rfl rfl fun C hC=>?_
 refine Qa hC [.n 9,.o (.ln c.length),.n 4,.K [0,1,7,8] []] rfl ⟨tt_,Qg⟩ ?_
 obtain⟨g,d,h⟩:=Qc h
 refine AK.loop (body:=(fun st=>QdS c f st)) (fun st σ=>σ=⟨[(0,.sl 1 (c.map Qb)),(1,.I f),(7,.I (c.length:Int)),(8,.I st)],[]⟩) (Sum.elim (fun q e σ=>e=.ret∧σ=⟨[(4,.I q)],[]⟩) (fun q e σ=>e=.exit 0∧σ=⟨[],[]⟩)) d rfl ?_ ?_
 ·rintro l o σ rfl h
  refine tg_ hC [.n 6] rfl ?_
  rcases Qt h with⟨b,h⟩|⟨b,h⟩
  ·obtain⟨j,i,h⟩:=Qc h
   refine Qa hC [.T,.n 15,.o (.row (Qb j)),.n 4] rfl ⟨⟨tt_,b⟩,(QJ i)⟩ ?_
   refine bg_ h (fun a h=>Qa hC [.T,.n 9,.K [4] []] rfl ⟨tt_,a⟩ ?_) fun a h=>Qa hC [.F,.n 7,.K [0,1,7,8] []] rfl ⟨tt_,a⟩ ?_
   ·cases h
    exact Qal rfl (an_ rfl rfl)
   cases h
   exact QZ rfl rfl
  refine Qa hC [.F,.n 2,.K [] []] rfl ⟨tt_,b⟩ ?_
  cases h
  exact Q1 rfl (an_ rfl rfl)
 rcases g with(k | _)
 ·replace h:QdT k=some r:=h
  rintro e σ ⟨rfl,rfl⟩
  refine tg_ hC [.n 2] rfl ?_
  cases h
  exact d1_ rfl rfl tt_
 replace h:QdU=some r:=h
 rintro e σ ⟨rfl,rfl⟩
 refine tg_ hC [.n 8] rfl ?_
 cases h
 exact d1_ rfl rfl tt_
def QbK (a:(List Int))(b:Int):Option Bool:=
 (Qe0 a b).bind fun c=>
 some (decide (0≤c))
theorem Qip (e f){r}(h:QbK e f=some r):Qd prog 203 [.sl 1 (e.map Qb),.I f] [] (Gives (.b r) []):=by
 refine Qd.walk 9 func203 rfl rfl rfl fun C hC=>?_
 obtain⟨g,a,h⟩:=Qc h
 refine Qa hC [.n 9,.o (.c false [.d,.d] (.I g)),.n 5] rfl ⟨tt_,(Qpy _ _ a)⟩ ?_
 cases h
 exact d1_ rfl rfl tt_
def QgY (b:(List Int))(a:Int)(c:Int):Option Bool:=
 (chk (decide (0≤a)&&decide (0≤a.toNat)&&decide (a.toNat≤b.length))).bind fun _=>
 (QbK ((b.drop 0).take (a.toNat-0)) c).bind fun d=>
 some (!d)
theorem QrU (f g i){r}(h:QgY f g i=some r):Qd prog 202 [.loc 615 0 0,.loc 616 0 0,.loc 617 0 0] [(615,.var (Qj f)),(616,.var (Qb g)),(617,.var (Qb i))] (Gives (.b r) [(615,.var (Qj f)),(616,.var (Qb g)),(617,.var (Qb i))]):=by
 refine Qd.walk 10 func202 rfl rfl rfl fun C hC=>?_
 obtain⟨e,h⟩:=QaE h
 obtain⟨l,j,h⟩:=Qc h
 refine tg_ hC [.n 6,.K [0,1,2,3] [615,616,617]] rfl ?_
 refine AK.draw2 Qs hC mixed [.N,.N,.a (.any (.sl 1 (((f.drop 0).take (g.toNat-0)).map Qb)) none) none false,.N,.a (.c false [.d,.d] (.b l)) none false,.N,.m .s] [] [] [3] [615,616,617] rfl rfl rfl ⟨⟨tt_,(fun σ k o _=>Stp.sliceD rfl rfl (QH hC.n rfl) (k _ _ rfl) (Qs.es rfl) Bnd.no (Bnd.val (k _ _ rfl) (QV (Qum e)) rfl) (QV (Qun e)) (Qaw (QV (Quo e)) (Nat.le_of_eq Qg.symm)) Qw7)⟩,(Qip _ _ j)⟩ rfl (by kernel_rfl) rfl rfl rfl ?_
 refine tg_ hC [.n 2] rfl ?_
 cases h
 exact d1_ rfl rfl ⟨rfl,rfl,rfl,tt_⟩
def Qi6 (c:Qk)(b:Int)(d:Int)(e:(List Int))(f:Int)(g:Int):Option Int:=
 (QgX c b).bind fun h=>
 bif (!h)then
 some d
 else
 (QgY e f b).bind fun a=>
 bif (!a)then
 some g
 else
 some 0
theorem Qt0 (i e j k l m){r}(h:Qi6 i e j k l m=some r):Qd prog 64 [.own 615 2] [(615,.var [.clo (.func 201) [] [.loc 616 0 0,.loc 617 0 0],.I j,.clo (.func 202) [] [.loc 618 0 0,.loc 619 0 0,.loc 617 0 0],.I m]),(616,.var (Qe i)),(617,.var (Qb e)),(618,.var (Qj k)),(619,.var (Qb l))] (Gives (.I r) [(615,.var [.clo (.func 201) [] [.loc 616 0 0,.loc 617 0 0],.I j,.clo (.func 202) [] [.loc 618 0 0,.loc 619 0 0,.loc 617 0 0],.I m]),(616,.var (Qe i)),(617,.var (Qb e)),(618,.var (Qj k)),(619,.var (Qb l))]):=by
 refine Qd.walk 18 func64 rfl rfl rfl fun C hC=>?_
 refine tg_ hC [.n 14] rfl ?_
 refine AK.loopN 3 (AK.rnd ?_)
 obtain⟨t,p,h⟩:=Qc h
 refine Qa hC [.n 2,.v .no [] (.b true),.n 10,.o (.any (.loc 615 0 0) none),.n 3,.O 4 (.var [.clo (.func 201) [] [.loc 616 0 0,.loc 617 0 0],.I j]),.n 6,.cm (.clo) [(615,616),(616,617)] [(616,615),(617,616)] [] [.d,.d] [(615,.var (Qe i)),(616,.var (Qb e))] (.b t),.n 3] rfl ⟨⟨⟨⟨tt_,rfl⟩,(fun σ f q _=>Stp.idxV rfl rfl (QH hC.n rfl) (f _ _ rfl) (f _ _ rfl) (Qs.es rfl) (q _ _ rfl) (by decide))⟩,rfl⟩,(QrT _ _ p)⟩ ?_
 refine bg_ h (fun a h=>Qa hC [.T,.n 13,.K [2] [615,616,617,618,619]] rfl ⟨tt_,a⟩ ?_) fun a h=>Qa hC [.F,.n 4,.v .no [] (.I 1),.n 2] rfl ⟨⟨tt_,a⟩,rfl⟩ ?_
 ·cases h
  exact d1_ rfl rfl ⟨rfl,rfl,rfl,rfl,rfl,tt_⟩
 refine AK.met (AK.rnd ?_)
 obtain⟨s,g,h⟩:=Qc h
 refine Qa hC [.n 2,.v .no [] (.b true),.n 10,.o (.any (.loc 615 0 2) none),.n 1,.kill 4,.n 2,.O 4 (.var [.clo (.func 202) [] [.loc 618 0 0,.loc 619 0 0,.loc 617 0 0],.I m]),.n 6,.cm (.clo) [(615,618),(616,619),(617,617)] [(618,615),(619,616),(617,617)] [] [.d,.d,.d] [(615,.var (Qj k)),(616,.var (Qb l)),(617,.var (Qb e))] (.b s),.n 3] rfl ⟨⟨⟨⟨tt_,rfl⟩,(fun σ f q _=>Stp.idxV rfl rfl (QH hC.n rfl) (f _ _ rfl) (f _ _ rfl) (Qs.es rfl) (q _ _ rfl) (by decide))⟩,rfl⟩,(QrU _ _ _ g)⟩ ?_
 refine bg_ h (fun c h=>Qa hC [.T,.n 13,.K [2] [615,616,617,618,619]] rfl ⟨tt_,c⟩ ?_) fun c h=>Qa hC [.F,.n 4,.v .no [] (.I 2),.n 2] rfl ⟨⟨tt_,c⟩,rfl⟩ ?_
 ·cases h
  exact d1_ rfl rfl ⟨rfl,rfl,rfl,rfl,rfl,tt_⟩
 refine AK.met (AK.rnd ?_)
 refine Qa hC [.n 2,.v .no [] (.b false),.n 15] rfl ⟨tt_,rfl⟩ ?_
 cases h
 exact d1_ rfl rfl ⟨rfl,rfl,rfl,rfl,rfl,tt_⟩
def Qh8 (b:Int)(a:Int)(c:Qk)(d:(List Int)):Option Int:=
 (Qi6 c a 3 d b 5).bind fun e=>
 some e
theorem Qte (e a b c){r}(h:Qh8 e a b c=some r):Qd prog 200 [.I e,.I a,.loc 615 0 0,.loc 616 0 0] [(615,.var (Qe b)),(616,.var (Qj c))] (Gives (.I r) [(615,.var (Qe b)),(616,.var (Qj c))]):=by
 refine Qd.walk 13 func200 rfl rfl rfl fun C hC=>?_
 obtain⟨g,f,h⟩:=Qc h
 refine Qa hC [.n 10,.v .no [] (.agg [.clo (.func 201) [] [.loc 615 0 0,.loc 5 0 0],.I 3]),.n 1,.v .no [] (.agg [.clo (.func 202) [] [.loc 616 0 0,.loc 4 0 0,.loc 5 0 0],.I 5]),.o (.any (.own 11 2) (some (.var [.clo (.func 201) [] [.loc 615 0 0,.loc 5 0 0],.I 3,.clo (.func 202) [] [.loc 616 0 0,.loc 4 0 0,.loc 5 0 0],.I 5]))),.cm (.fn) [(615,11),(616,615),(617,5),(618,616),(619,4)] [(11,615),(615,616),(5,617),(616,618),(4,619)] [] [.d] [(615,.var [.clo (.func 201) [] [.loc 616 0 0,.loc 617 0 0],.I 3,.clo (.func 202) [] [.loc 618 0 0,.loc 619 0 0,.loc 617 0 0],.I 5]),(616,.var (Qe b)),(617,.var (Qb a)),(618,.var (Qj c)),(619,.var (Qb e))] (.I g),.n 4] rfl ⟨⟨⟨⟨tt_,rfl⟩,rfl⟩,(fun σ i j hf=>Stp.buildAny rfl rfl (QH hC.n rfl) (Qs.es rfl) QoB rfl (by decide) (by decide) (Qgi i rfl) rfl rfl (hf rfl))⟩,(Qt0 _ _ _ _ _ _ f)⟩ ?_
 cases h
 exact d1_ rfl rfl ⟨rfl,rfl,tt_⟩
def QgZ (d:(List Int))(e:Qk)(f:(List Int))(a:Int):Option (Int⊕((Int×Int)⊕Unit)):=
 bif (decide (a<(d.length:Int)))then
 (idx d a).bind fun c=>
 (Qh8 a c e f).bind fun b=>
 bif (b != 0)then
 some (.inr (.inl (a,b)))
 else
 some (.inl (w64 (a+1)))
 else
 some (.inr (.inr ()))
def Qg0 (a:Int)(b:Int):Option (Int×Int):=
 some (a,b)
def Qg1 : Option (Int×Int):=
 some (0,0)
def Qi7 (a:(List Int))(b:Qk)(c:(List Int)):Option (Int×Int):=
 (QE (fun st=>QgZ a b c st) 0).bind (Sum.elim (fun q=>Qg0 q.1 q.2) (fun q=>Qg1))
theorem Qt1 (g c f){r}(h:Qi7 g c f=some r):Qd prog 199 [.sl 1 (g.map Qb),.clo (.func 200) [] [.loc 615 0 0,.loc 616 0 0]] [(615,.var (Qe c)),(616,.var (Qj f))] (Gives (.tup [.I r.1,.I r.2]) [(615,.var (Qe c)),(616,.var (Qj f))]):=by
 refine Qd.walk 25 func199 rfl rfl rfl fun C hC=>?_
 refine Qa hC [.n 10,.o (.ln g.length),.n 4,.K [1,9,10,11] [615,616]] rfl ⟨tt_,Qg⟩ ?_
 obtain⟨l,i,h⟩:=Qc h
 refine AK.loop (body:=(fun st=>QgZ g c f st)) (fun st σ=>σ=⟨[(1,.clo (.func 200) [] [.loc 615 0 0,.loc 616 0 0]),(9,.sl 1 (g.map Qb)),(10,.I (g.length:Int)),(11,.I st)],[(615,.var (Qe c)),(616,.var (Qj f))]⟩) (Sum.elim (fun q e σ=>e=.ret∧σ=⟨[(4,.I q.1),(5,.I q.2)],[(615,.var (Qe c)),(616,.var (Qj f))]⟩) (fun q e σ=>e=.exit 0∧σ=⟨[],[(615,.var (Qe c)),(616,.var (Qj f))]⟩)) i rfl ?_ ?_
 ·rintro u o σ rfl h
  refine tg_ hC [.n 6] rfl ?_
  rcases Qt h with⟨a,h⟩|⟨a,h⟩
  ·obtain⟨m,j,h⟩:=Qc h
   obtain⟨p,k,h⟩:=Qc h
   refine Qa hC [.T,.n 7,.o (.row (Qb m)),.n 10,.cm (.clo) [(615,615),(616,616)] [(615,615),(616,616)] [] [.d,.d,.d,.d] [(615,.var (Qe c)),(616,.var (Qj f))] (.I p),.n 9] rfl ⟨⟨⟨tt_,a⟩,(QJ j)⟩,(Qte _ _ _ _ k)⟩ ?_
   refine bg_ h (fun b h=>Qa hC [.T,.n 11,.K [4,5] [615,616]] rfl ⟨tt_,b⟩ ?_) fun b h=>Qa hC [.F,.n 7,.K [1,9,10,11] [615,616]] rfl ⟨tt_,b⟩ ?_
   ·cases h
    exact Qal rfl (an_ rfl rfl)
   cases h
   exact QZ rfl rfl
  refine Qa hC [.F,.n 2,.K [] [615,616]] rfl ⟨tt_,a⟩ ?_
  cases h
  exact Q1 rfl (an_ rfl rfl)
 rcases l with(⟨s,t⟩|_)
 ·replace h:Qg0 s t=some r:=h
  rintro e σ ⟨rfl,rfl⟩
  refine tg_ hC [.n 2] rfl ?_
  cases h
  exact d2_ rfl rfl rfl ⟨rfl,rfl,tt_⟩
 replace h:Qg1=some r:=h
 rintro e σ ⟨rfl,rfl⟩
 refine tg_ hC [.n 9] rfl ?_
 cases h
 exact d2_ rfl rfl rfl ⟨rfl,rfl,tt_⟩
def Qj7 (b:Qk)(a:(List Int)):Option Int:=
 (Qi7 a b a).bind fun c=>
 some c.2
theorem QuE (a b){r}(h:Qj7 a b=some r):Qd prog 136 [.agg (Qe a),.sl 1 (b.map Qb)] [] (Gives (.I r) []):=by
 refine Qd.walk 14 func136 rfl rfl rfl fun C hC=>?_
 obtain⟨e,c,h⟩:=Qc h
 refine Qa hC [.n 11,.cm (.fn) [(615,2),(616,3)] [(2,615),(3,616)] [] [.d,.d] [(615,.var (Qe a)),(616,.var (Qj b))] (.tup [.I e.1,.I e.2]),.n 14] rfl ⟨tt_,(Qt1 _ _ _ c)⟩ ?_
 cases h
 exact d1_ rfl rfl tt_
def Qj8 (a:Qk)(b:QA):Option Int:=
 (Qj7 a b.Cancel).bind fun c=>
 some c
theorem QuF (a b){r}(h:Qj8 a b=some r):Qd prog 135 [.loc 615 0 0,.loc 616 0 0] [(615,.var (Qe a)),(616,.var (Qh b))] (Gives (.I r) [(615,.var (Qe a)),(616,.var (Qh b))]):=by
 refine Qd.walk 7 func135 rfl rfl rfl fun C hC=>?_
 obtain⟨f,e,h⟩:=Qc h
 refine Qa hC [.n 7,.v .no [] (.agg (Qe a)),.n 2,.o (.c false [.d,.d] (.I f)),.n 4] rfl ⟨⟨tt_,rfl⟩,(QuE _ _ e)⟩ ?_
 cases h
 exact d1_ rfl rfl ⟨rfl,rfl,tt_⟩
def Qhs (b:Qk)(c:QA)(d:Int):Option (Bool×Int):=
 (Qj8 b c).bind fun a=>
 some ((a==0),a)
theorem Qsq (c e i){r}(h:Qhs c e i=some r):Qd prog 184 [.loc 615 0 0,.loc 618 0 0] [(615,.var [.clo (.func 135) [] [.loc 616 0 0,.loc 617 0 0]]),(616,.var (Qe c)),(617,.var (Qh e)),(618,.var [.loc 619 0 0]),(619,.var (Qb i))] (Gives (.b r.1) [(615,.var [.clo (.func 135) [] [.loc 616 0 0,.loc 617 0 0]]),(616,.var (Qe c)),(617,.var (Qh e)),(618,.var [.loc 619 0 0]),(619,.var (Qb r.2))]):=by
 refine Qd.walk 11 func184 rfl rfl rfl fun C hC=>?_
 obtain⟨f,g,h⟩:=Qc h
 refine tg_ hC [.n 6,.K [0,1] [615,616,617,618,619]] rfl ?_
 refine AK.draw2 Qs hC mixed [.N,.N,.a (.any (.I f) none) none false,.N,.m .s] [] [] [1] [615,616,617,618,619] rfl rfl rfl ⟨tt_,(fun σ j k _=>Stp.callSame (md:=.cm (.clo) [(615,616),(616,617)] [(616,615),(617,616)] [] [.d,.d] [(615,.var (Qe c)),(616,.var (Qh e))] (.I f) [616,617]) Qs hC j k rfl ⟨⟨tt_,(QuF _ _ g)⟩,⟨rfl,rfl,tt_⟩⟩)⟩ rfl (by kernel_rfl) rfl rfl rfl ?_
 refine Qa hC [.O 619 (.var (Qb f)),.n 11] rfl ⟨tt_,rfl⟩ ?_
 cases h
 exact d1_ rfl rfl ⟨rfl,rfl,rfl,rfl,rfl,tt_⟩
def Qft (a:Int)(b:(List QX)):Option Bool:=
 some ((decide (1≤a))&&((decide (a≤3))&&((a != 3)||(decide ((b.length:Int)≤4)))))
theorem QoI (a f){r}(h:Qft a f=some r):Qd prog 204 [.I a,.sl 4 (f.map Q2)] [] (Gives (.b r) []):=by
 refine Qd.walk 20 func204 rfl rfl rfl fun C hC=>?_
 unfold Qft at h
 refine tg_ hC [.n 6] rfl ?_
 refine AK.meetX (fun σ=>σ=⟨[(4,.b ((decide (1≤a))&&((decide (a≤3))&&((a != 3)||(decide ((f.length:Int)≤4))))))],[]⟩) ?_ ?_
 ·refine tg_ hC [.n 4] rfl ?_
  rcases Q0 (decide (1≤a))with c | c
  ·refine Qa hC [.S 7 (.b true),.n 4] rfl (tc_ c) ?_
   rcases Q0 (decide (a≤3))with d | d
   ·refine Qa hC [.S 11 (.b true),.n 3] rfl (tc_ d) ?_
    rcases Q0 (a != 3)with e | e
    ·refine Qa hC [.S 14 (.b true),.n 7,.S 4 (.b ((decide (1≤a))&&((decide (a≤3))&&((a != 3)||(decide ((f.length:Int)≤4)))))),.K [4] []] rfl ⟨(tc_ e),(congrArg V.b (Qcy c (Qcy d (orT e rfl))))⟩ ?_
     exact AK.met rfl
    refine Qa hC [.S 14 (.b false),.n 1,.o (.ln f.length),.n 5,.S 4 (.b ((decide (1≤a))&&((decide (a≤3))&&((a != 3)||(decide ((f.length:Int)≤4)))))),.K [4] []] rfl ⟨⟨(tc_ e),Qg⟩,(congrArg V.b (Qcy c (Qcy d (orF e rfl))))⟩ ?_
    exact AK.met rfl
   refine Qa hC [.S 11 (.b false),.n 10,.S 4 (.b ((decide (1≤a))&&((decide (a≤3))&&((a != 3)||(decide ((f.length:Int)≤4)))))),.K [4] []] rfl ⟨(tc_ d),(congrArg V.b (Qcy c (QeJ d rfl)))⟩ ?_
   exact AK.met rfl
  refine Qa hC [.S 7 (.b false),.n 14,.S 4 (.b ((decide (1≤a))&&((decide (a≤3))&&((a != 3)||(decide ((f.length:Int)≤4)))))),.K [4] []] rfl ⟨(tc_ c),(congrArg V.b (QeJ c rfl))⟩ ?_
  exact AK.met rfl
 rintro σ rfl
 refine tg_ hC [.n 2] rfl ?_
 cases h
 exact d1_ rfl rfl tt_
def Qqm (a:QA):Option Bool:=
 (Qft a.Join a.Ins).bind fun b=>
 bif b then
 (Qft a.Split a.Outs).bind fun c=>
 bif c then
 bif (decide (0≤a.After))then
 bif (decide (a.After≤65536))then
 some (((a.Many.1==0)&&((a.Many.2.1==0)&&(a.Many.2.2==0)))||((decide (1≤a.Many.1))&&((decide (a.Many.1≤a.Many.2.1))&&((decide (a.Many.2.1≤16))&&((decide (1≤a.Many.2.2))&&(decide (a.Many.2.2≤a.Many.2.1)))))))
 else
 some false
 else
 some false
 else
 some false
 else
 some false
def Qi8 (a:Bool):Option Bool:=
 some a
def Qjl (a:QA):Option Bool:=
 (Qqm a).bind (fun b=>Qi8 b)
theorem Qwv (a){r}(h:Qjl a=some r):Qd prog 138 [.agg (Qh a)] [] (Gives (.b r) []):=by
 refine Qd.walk 70 func138 rfl rfl rfl fun C hC=>?_
 unfold Qjl at h
 refine tg_ hC [.n 7,.K [1] [1]] rfl ?_
 refine AK.draw2 Qs hC mixed [.N,.N,.N,.N,.N,.N,.N,.N,.N,.N,.N,.N] [] [] [1,3,4,5] [1] rfl rfl rfl tt_ rfl (by kernel_rfl) rfl rfl rfl ?_
 refine tg_ hC [.n 2] rfl ?_
 refine AK.meetX (fun σ=>σ=⟨[(1,.loc 1 0 0),(6,.b (((a.Many.1==0)&&((a.Many.2.1==0)&&(a.Many.2.2==0)))||((decide (1≤a.Many.1))&&((decide (a.Many.1≤a.Many.2.1))&&((decide (a.Many.2.1≤16))&&((decide (1≤a.Many.2.2))&&(decide (a.Many.2.2≤a.Many.2.1))))))))],[(1,.var (Qh a))]⟩) ?_ ?_
 ·refine Qa hC [.n 2,.v .no [] (.agg (Qx6 a.Many)),.v .no [] (.agg (Qx6 (0,0,0))),.o (.any (.b ((a.Many.1==0)&&((a.Many.2.1==0)&&(a.Many.2.2==0)))) none),.n 1] rfl ⟨⟨⟨tt_,rfl⟩,rfl⟩,(fun σ y z _=>Stp.eqAgg rfl rfl (QH hC.n rfl) (y _ _ rfl) (y _ _ rfl) rfl rfl (QFs _ _ _ _ _ _))⟩ ?_
  rcases Q0 ((a.Many.1==0)&&((a.Many.2.1==0)&&(a.Many.2.2==0)))with e | e
  ·refine Qa hC [.S 21 (.b true),.n 23,.S 6 (.b (((a.Many.1==0)&&((a.Many.2.1==0)&&(a.Many.2.2==0)))||((decide (1≤a.Many.1))&&((decide (a.Many.1≤a.Many.2.1))&&((decide (a.Many.2.1≤16))&&((decide (1≤a.Many.2.2))&&(decide (a.Many.2.2≤a.Many.2.1)))))))),.K [1,6] [1]] rfl ⟨(tc_ e),(congrArg V.b (orT e rfl))⟩ ?_
   exact AK.met rfl
  refine Qa hC [.S 21 (.b false),.n 3] rfl (tc_ e) ?_
  rcases Q0 (decide (1≤a.Many.1))with f | f
  ·refine Qa hC [.S 24 (.b true),.n 5] rfl (tc_ f) ?_
   rcases Q0 (decide (a.Many.1≤a.Many.2.1))with g | g
   ·refine Qa hC [.S 29 (.b true),.n 4] rfl (tc_ g) ?_
    rcases Q0 (decide (a.Many.2.1≤16))with i | i
    ·refine Qa hC [.S 33 (.b true),.n 4] rfl (tc_ i) ?_
     rcases Q0 (decide (1≤a.Many.2.2))with j | j
     ·refine Qa hC [.S 37 (.b true),.n 7,.S 6 (.b (((a.Many.1==0)&&((a.Many.2.1==0)&&(a.Many.2.2==0)))||((decide (1≤a.Many.1))&&((decide (a.Many.1≤a.Many.2.1))&&((decide (a.Many.2.1≤16))&&((decide (1≤a.Many.2.2))&&(decide (a.Many.2.2≤a.Many.2.1)))))))),.K [1,6] [1]] rfl ⟨(tc_ j),(congrArg V.b (orF e (Qcy f (Qcy g (Qcy i (Qcy j rfl))))))⟩ ?_
      exact AK.met rfl
     refine Qa hC [.S 37 (.b false),.n 7,.S 6 (.b (((a.Many.1==0)&&((a.Many.2.1==0)&&(a.Many.2.2==0)))||((decide (1≤a.Many.1))&&((decide (a.Many.1≤a.Many.2.1))&&((decide (a.Many.2.1≤16))&&((decide (1≤a.Many.2.2))&&(decide (a.Many.2.2≤a.Many.2.1)))))))),.K [1,6] [1]] rfl ⟨(tc_ j),(congrArg V.b (orF e (Qcy f (Qcy g (Qcy i (QeJ j rfl))))))⟩ ?_
     exact AK.met rfl
    refine Qa hC [.S 33 (.b false),.n 11,.S 6 (.b (((a.Many.1==0)&&((a.Many.2.1==0)&&(a.Many.2.2==0)))||((decide (1≤a.Many.1))&&((decide (a.Many.1≤a.Many.2.1))&&((decide (a.Many.2.1≤16))&&((decide (1≤a.Many.2.2))&&(decide (a.Many.2.2≤a.Many.2.1)))))))),.K [1,6] [1]] rfl ⟨(tc_ i),(congrArg V.b (orF e (Qcy f (Qcy g (QeJ i rfl)))))⟩ ?_
    exact AK.met rfl
   refine Qa hC [.S 29 (.b false),.n 15,.S 6 (.b (((a.Many.1==0)&&((a.Many.2.1==0)&&(a.Many.2.2==0)))||((decide (1≤a.Many.1))&&((decide (a.Many.1≤a.Many.2.1))&&((decide (a.Many.2.1≤16))&&((decide (1≤a.Many.2.2))&&(decide (a.Many.2.2≤a.Many.2.1)))))))),.K [1,6] [1]] rfl ⟨(tc_ g),(congrArg V.b (orF e (Qcy f (QeJ g rfl))))⟩ ?_
   exact AK.met rfl
  refine Qa hC [.S 24 (.b false),.n 20,.S 6 (.b (((a.Many.1==0)&&((a.Many.2.1==0)&&(a.Many.2.2==0)))||((decide (1≤a.Many.1))&&((decide (a.Many.1≤a.Many.2.1))&&((decide (a.Many.2.1≤16))&&((decide (1≤a.Many.2.2))&&(decide (a.Many.2.2≤a.Many.2.1)))))))),.K [1,6] [1]] rfl ⟨(tc_ f),(congrArg V.b (orF e (QeJ f rfl)))⟩ ?_
  exact AK.met rfl
 rintro σ rfl
 refine tg_ hC [.n 7] rfl ?_
 obtain⟨u,q,h⟩:=Qc h
 replace h:Qi8 u=some r:=h
 refine AK.meetX (fun σ=>σ=⟨[(2,.b u)],[]⟩) ?_ ?_
 ·replace h:=q
  obtain⟨w,s,h⟩:=Qc h
  refine Qa hC [.n 6,.o (.c false [.d,.d] (.b w)),.n 1] rfl ⟨tt_,(QoI _ _ s)⟩ ?_
  rcases Qt h with⟨k,h⟩|⟨k,h⟩
  ·obtain⟨x,t,h⟩:=Qc h
   refine Qa hC [.S 49 (.b true),.n 5,.o (.c false [.d,.d] (.b x)),.n 2] rfl ⟨(tc_ k),(QoI _ _ t)⟩ ?_
   refine bg_ h (fun l h=>Qa hC [.S 57 (.b true),.n 5] rfl (tc_ l) ?_) fun l h=>Qa hC [.S 57 (.b false),.n 14,.K [2] []] rfl (tc_ l) ?_
   ·refine bg_ h (fun m h=>Qa hC [.S 62 (.b true),.n 5] rfl (tc_ m) ?_) fun m h=>Qa hC [.S 62 (.b false),.n 9,.K [2] []] rfl (tc_ m) ?_
    ·refine bg_ h (fun p h=>Qa hC [.S 67 (.b true),.n 4,.K [2] []] rfl (tc_ p) ?_) fun p h=>Qa hC [.S 67 (.b false),.n 4,.K [2] []] rfl (tc_ p) ?_
     ·cases h
      exact AK.met rfl
     cases h
     exact AK.met rfl
    cases h
    exact AK.met rfl
   cases h
   exact AK.met rfl
  refine Qa hC [.S 49 (.b false),.n 22,.K [2] []] rfl (tc_ k) ?_
  cases h
  exact AK.met rfl
 rintro σ rfl
 replace h:Qi8 u=some r:=h
 refine tg_ hC [.n 2] rfl ?_
 cases h
 exact d1_ rfl rfl tt_
def Qj9 (a:QA):Option Bool:=
 (Qjl a).bind fun b=>
 some b
theorem QuG (a){r}(h:Qj9 a=some r):Qd prog 137 [.loc 615 0 0] [(615,.var (Qh a))] (Gives (.b r) [(615,.var (Qh a))]):=by
 refine Qd.walk 4 func137 rfl rfl rfl fun C hC=>?_
 obtain⟨f,e,h⟩:=Qc h
 refine Qa hC [.n 7,.v .no [] (.agg (Qh a)),.o (.c false [.d] (.b f)),.n 4] rfl ⟨⟨tt_,rfl⟩,(Qwv _ e)⟩ ?_
 cases h
 exact d1_ rfl rfl ⟨rfl,tt_⟩
def QgH (b:QA)(v:Int)(f:Qk)(u:Int)(w:Int)(g:Int)(x:Int)(h:Int)(y:Int)(i:Int)(j:Int)(k:Int)(l:Int)(m:Int)(n:Int):Option (Int×Int):=
 (Qls b).bind fun o=>
 bif (!o)then
 some (v,h)
 else
 (Qlu f u b).bind fun p=>
 bif (!p)then
 some (w,h)
 else
 (Qik g b).bind fun q=>
 bif (!q)then
 some (x,h)
 else
 (Qj4 f b h).bind fun a=>
 bif (!a.1)then
 some (y,a.2)
 else
 (Qlw f u).bind fun r=>
 bif (!r)then
 some (i,a.2)
 else
 (Qly b g).bind fun s=>
 bif (!s)then
 some (j,a.2)
 else
 (Qhq f b g a.2).bind fun d=>
 bif (!d.1)then
 some (k,d.2)
 else
 (Qhr f b g d.2).bind fun e=>
 bif (!e.1)then
 some (l,e.2)
 else
 (Qhs f b e.2).bind fun c=>
 bif (!c.1)then
 some (m,c.2)
 else
 (Qj9 b).bind fun t=>
 bif (!t)then
 some (n,c.2)
 else
 some (0,c.2)
theorem Qt2 (e v2 t D v5 B v7 v8 v9 u w x y z A){r}(h:QgH e v2 t D v5 B v7 v8 v9 u w x y z A=some r):Qd prog 64 [.own 615 10] [(615,.var [.clo (.func 122) [] [.loc 616 0 0],.I v2,.clo (.func 123) [] [.loc 617 0 0,.loc 618 0 0,.loc 619 0 0],.I v5,.clo (.func 125) [] [.loc 620 0 0,.loc 616 0 0],.I v7,.clo (.func 184) [] [.loc 621 0 0,.loc 622 0 0],.I v9,.clo (.func 129) [] [.loc 617 0 0,.loc 618 0 0],.I u,.clo (.func 130) [] [.loc 616 0 0,.loc 620 0 0],.I w,.clo (.func 184) [] [.loc 624 0 0,.loc 625 0 0],.I x,.clo (.func 184) [] [.loc 626 0 0,.loc 627 0 0],.I y,.clo (.func 184) [] [.loc 628 0 0,.loc 629 0 0],.I z,.clo (.func 137) [] [.loc 616 0 0],.I A]),(616,.var (Qh e)),(617,.var (Qe t)),(618,.var (Qb D)),(619,.var [.clo (.func 121) [] [.loc 616 0 0]]),(620,.var (Qb B)),(621,.var [.clo (.func 127) [] [.loc 617 0 0,.loc 616 0 0]]),(622,.var [.loc 623 0 0]),(623,.var (Qb v8)),(624,.var [.clo (.func 132) [] [.loc 617 0 0,.loc 616 0 0,.loc 620 0 0]]),(625,.var [.loc 623 0 0]),(626,.var [.clo (.func 134) [] [.loc 617 0 0,.loc 616 0 0,.loc 620 0 0]]),(627,.var [.loc 623 0 0]),(628,.var [.clo (.func 135) [] [.loc 617 0 0,.loc 616 0 0]]),(629,.var [.loc 623 0 0])] (Gives (.I r.1) [(615,.var [.clo (.func 122) [] [.loc 616 0 0],.I v2,.clo (.func 123) [] [.loc 617 0 0,.loc 618 0 0,.loc 619 0 0],.I v5,.clo (.func 125) [] [.loc 620 0 0,.loc 616 0 0],.I v7,.clo (.func 184) [] [.loc 621 0 0,.loc 622 0 0],.I v9,.clo (.func 129) [] [.loc 617 0 0,.loc 618 0 0],.I u,.clo (.func 130) [] [.loc 616 0 0,.loc 620 0 0],.I w,.clo (.func 184) [] [.loc 624 0 0,.loc 625 0 0],.I x,.clo (.func 184) [] [.loc 626 0 0,.loc 627 0 0],.I y,.clo (.func 184) [] [.loc 628 0 0,.loc 629 0 0],.I z,.clo (.func 137) [] [.loc 616 0 0],.I A]),(616,.var (Qh e)),(617,.var (Qe t)),(618,.var (Qb D)),(619,.var [.clo (.func 121) [] [.loc 616 0 0]]),(620,.var (Qb B)),(621,.var [.clo (.func 127) [] [.loc 617 0 0,.loc 616 0 0]]),(622,.var [.loc 623 0 0]),(623,.var (Qb r.2)),(624,.var [.clo (.func 132) [] [.loc 617 0 0,.loc 616 0 0,.loc 620 0 0]]),(625,.var [.loc 623 0 0]),(626,.var [.clo (.func 134) [] [.loc 617 0 0,.loc 616 0 0,.loc 620 0 0]]),(627,.var [.loc 623 0 0]),(628,.var [.clo (.func 135) [] [.loc 617 0 0,.loc 616 0 0]]),(629,.var [.loc 623 0 0])]):=by
 refine Qd.walk 18 func64 rfl rfl rfl fun C hC=>?_
 refine tg_ hC [.n 14] rfl ?_
 refine AK.loopN 11 (AK.rnd ?_)
 obtain⟨a0,E,h⟩:=Qc h
 refine Qa hC [.n 2,.v .no [] (.b true),.n 10,.o (.any (.loc 615 0 0) none),.n 3,.O 4 (.var [.clo (.func 122) [] [.loc 616 0 0],.I v2]),.n 6,.cm (.clo) [(615,616)] [(616,615)] [] [.d] [(615,.var (Qh e))] (.b a0),.n 3] rfl ⟨⟨⟨⟨tt_,rfl⟩,(fun σ a c _=>Stp.idxV rfl rfl (QH hC.n rfl) (a _ _ rfl) (a _ _ rfl) (Qs.es rfl) (c _ _ rfl) (by decide))⟩,rfl⟩,(QvB _ E)⟩ ?_
 refine bg_ h (fun f h=>Qa hC [.T,.n 13,.K [2] [615,616,617,618,619,620,621,622,623,624,625,626,627,628,629]] rfl ⟨tt_,f⟩ ?_) fun f h=>Qa hC [.F,.n 4,.v .no [] (.I 1),.n 2] rfl ⟨⟨tt_,f⟩,rfl⟩ ?_
 ·cases h
  exact d1_ rfl rfl ⟨rfl,rfl,rfl,rfl,rfl,rfl,rfl,rfl,rfl,rfl,rfl,rfl,rfl,rfl,rfl,tt_⟩
 refine AK.met (AK.rnd ?_)
 obtain⟨a1,G,h⟩:=Qc h
 refine Qa hC [.n 2,.v .no [] (.b true),.n 10,.o (.any (.loc 615 0 2) none),.n 1,.kill 4,.n 2,.O 4 (.var [.clo (.func 123) [] [.loc 617 0 0,.loc 618 0 0,.loc 619 0 0],.I v5]),.n 6,.cm (.clo) [(615,617),(616,618),(617,619),(618,616)] [(617,615),(618,616),(619,617),(616,618)] [] [.d,.d,.d] [(615,.var (Qe t)),(616,.var (Qb D)),(617,.var [.clo (.func 121) [] [.loc 618 0 0]]),(618,.var (Qh e))] (.b a1),.n 3] rfl ⟨⟨⟨⟨tt_,rfl⟩,(fun σ a c _=>Stp.idxV rfl rfl (QH hC.n rfl) (a _ _ rfl) (a _ _ rfl) (Qs.es rfl) (c _ _ rfl) (by decide))⟩,rfl⟩,(QvD _ _ _ G)⟩ ?_
 refine bg_ h (fun g h=>Qa hC [.T,.n 13,.K [2] [615,616,617,618,619,620,621,622,623,624,625,626,627,628,629]] rfl ⟨tt_,g⟩ ?_) fun g h=>Qa hC [.F,.n 4,.v .no [] (.I 2),.n 2] rfl ⟨⟨tt_,g⟩,rfl⟩ ?_
 ·cases h
  exact d1_ rfl rfl ⟨rfl,rfl,rfl,rfl,rfl,rfl,rfl,rfl,rfl,rfl,rfl,rfl,rfl,rfl,rfl,tt_⟩
 refine AK.met (AK.rnd ?_)
 obtain⟨a2,H,h⟩:=Qc h
 refine Qa hC [.n 2,.v .no [] (.b true),.n 10,.o (.any (.loc 615 0 4) none),.n 1,.kill 4,.n 2,.O 4 (.var [.clo (.func 125) [] [.loc 620 0 0,.loc 616 0 0],.I v7]),.n 6,.cm (.clo) [(615,620),(616,616)] [(620,615),(616,616)] [] [.d,.d] [(615,.var (Qb B)),(616,.var (Qh e))] (.b a2),.n 3] rfl ⟨⟨⟨⟨tt_,rfl⟩,(fun σ a c _=>Stp.idxV rfl rfl (QH hC.n rfl) (a _ _ rfl) (a _ _ rfl) (Qs.es rfl) (c _ _ rfl) (by decide))⟩,rfl⟩,(QvE _ _ H)⟩ ?_
 refine bg_ h (fun i h=>Qa hC [.T,.n 13,.K [2] [615,616,617,618,619,620,621,622,623,624,625,626,627,628,629]] rfl ⟨tt_,i⟩ ?_) fun i h=>Qa hC [.F,.n 4,.v .no [] (.I 3),.n 2] rfl ⟨⟨tt_,i⟩,rfl⟩ ?_
 ·cases h
  exact d1_ rfl rfl ⟨rfl,rfl,rfl,rfl,rfl,rfl,rfl,rfl,rfl,rfl,rfl,rfl,rfl,rfl,rfl,tt_⟩
 refine AK.met (AK.rnd ?_)
 obtain⟨J,L,h⟩:=Qc h
 refine Qa hC [.n 2,.v .no [] (.b true),.n 10,.o (.any (.loc 615 0 6) none),.n 1,.kill 4,.n 2,.O 4 (.var [.clo (.func 184) [] [.loc 621 0 0,.loc 622 0 0],.I v9]),.n 6,.cm (.clo) [(615,621),(616,617),(617,616),(618,622),(619,623)] [(621,615),(617,616),(616,617),(622,618),(623,619)] [] [.d,.d] [(615,.var [.clo (.func 127) [] [.loc 616 0 0,.loc 617 0 0]]),(616,.var (Qe t)),(617,.var (Qh e)),(618,.var [.loc 619 0 0]),(619,.var (Qb J.2))] (.b J.1),.n 3] rfl ⟨⟨⟨⟨tt_,rfl⟩,(fun σ a c _=>Stp.idxV rfl rfl (QH hC.n rfl) (a _ _ rfl) (a _ _ rfl) (Qs.es rfl) (c _ _ rfl) (by decide))⟩,rfl⟩,(QuD _ _ _ L)⟩ ?_
 refine bg_ h (fun j h=>Qa hC [.T,.n 13,.K [2] [615,616,617,618,619,620,621,622,623,624,625,626,627,628,629]] rfl ⟨tt_,j⟩ ?_) fun j h=>Qa hC [.F,.n 4,.v .no [] (.I 4),.n 2] rfl ⟨⟨tt_,j⟩,rfl⟩ ?_
 ·cases h
  exact d1_ rfl rfl ⟨rfl,rfl,rfl,rfl,rfl,rfl,rfl,rfl,rfl,rfl,rfl,rfl,rfl,rfl,rfl,tt_⟩
 refine AK.met (AK.rnd ?_)
 obtain⟨a3,M,h⟩:=Qc h
 refine Qa hC [.n 2,.v .no [] (.b true),.n 10,.o (.any (.loc 615 0 8) none),.n 1,.kill 4,.n 2,.O 4 (.var [.clo (.func 129) [] [.loc 617 0 0,.loc 618 0 0],.I u]),.n 6,.cm (.clo) [(615,617),(616,618)] [(617,615),(618,616)] [] [.d,.d] [(615,.var (Qe t)),(616,.var (Qb D))] (.b a3),.n 3] rfl ⟨⟨⟨⟨tt_,rfl⟩,(fun σ a c _=>Stp.idxV rfl rfl (QH hC.n rfl) (a _ _ rfl) (a _ _ rfl) (Qs.es rfl) (c _ _ rfl) (by decide))⟩,rfl⟩,(QvG _ _ M)⟩ ?_
 refine bg_ h (fun k h=>Qa hC [.T,.n 13,.K [2] [615,616,617,618,619,620,621,622,623,624,625,626,627,628,629]] rfl ⟨tt_,k⟩ ?_) fun k h=>Qa hC [.F,.n 4,.v .no [] (.I 5),.n 2] rfl ⟨⟨tt_,k⟩,rfl⟩ ?_
 ·cases h
  exact d1_ rfl rfl ⟨rfl,rfl,rfl,rfl,rfl,rfl,rfl,rfl,rfl,rfl,rfl,rfl,rfl,rfl,rfl,tt_⟩
 refine AK.met (AK.rnd ?_)
 obtain⟨a4,N,h⟩:=Qc h
 refine Qa hC [.n 2,.v .no [] (.b true),.n 10,.o (.any (.loc 615 0 10) none),.n 1,.kill 4,.n 2,.O 4 (.var [.clo (.func 130) [] [.loc 616 0 0,.loc 620 0 0],.I w]),.n 6,.cm (.clo) [(615,616),(616,620)] [(616,615),(620,616)] [] [.d,.d] [(615,.var (Qh e)),(616,.var (Qb B))] (.b a4),.n 3] rfl ⟨⟨⟨⟨tt_,rfl⟩,(fun σ a c _=>Stp.idxV rfl rfl (QH hC.n rfl) (a _ _ rfl) (a _ _ rfl) (Qs.es rfl) (c _ _ rfl) (by decide))⟩,rfl⟩,(QvK _ _ N)⟩ ?_
 refine bg_ h (fun l h=>Qa hC [.T,.n 13,.K [2] [615,616,617,618,619,620,621,622,623,624,625,626,627,628,629]] rfl ⟨tt_,l⟩ ?_) fun l h=>Qa hC [.F,.n 4,.v .no [] (.I 6),.n 2] rfl ⟨⟨tt_,l⟩,rfl⟩ ?_
 ·cases h
  exact d1_ rfl rfl ⟨rfl,rfl,rfl,rfl,rfl,rfl,rfl,rfl,rfl,rfl,rfl,rfl,rfl,rfl,rfl,tt_⟩
 refine AK.met (AK.rnd ?_)
 obtain⟨P,S,h⟩:=Qc h
 refine Qa hC [.n 2,.v .no [] (.b true),.n 10,.o (.any (.loc 615 0 12) none),.n 1,.kill 4,.n 2,.O 4 (.var [.clo (.func 184) [] [.loc 624 0 0,.loc 625 0 0],.I x]),.n 6,.cm (.clo) [(615,624),(616,617),(617,616),(618,620),(619,625),(620,623)] [(624,615),(617,616),(616,617),(620,618),(625,619),(623,620)] [] [.d,.d] [(615,.var [.clo (.func 132) [] [.loc 616 0 0,.loc 617 0 0,.loc 618 0 0]]),(616,.var (Qe t)),(617,.var (Qh e)),(618,.var (Qb B)),(619,.var [.loc 620 0 0]),(620,.var (Qb P.2))] (.b P.1),.n 3] rfl ⟨⟨⟨⟨tt_,rfl⟩,(fun σ a c _=>Stp.idxV rfl rfl (QH hC.n rfl) (a _ _ rfl) (a _ _ rfl) (Qs.es rfl) (c _ _ rfl) (by decide))⟩,rfl⟩,(Qso _ _ _ _ S)⟩ ?_
 refine bg_ h (fun m h=>Qa hC [.T,.n 13,.K [2] [615,616,617,618,619,620,621,622,623,624,625,626,627,628,629]] rfl ⟨tt_,m⟩ ?_) fun m h=>Qa hC [.F,.n 4,.v .no [] (.I 7),.n 2] rfl ⟨⟨tt_,m⟩,rfl⟩ ?_
 ·cases h
  exact d1_ rfl rfl ⟨rfl,rfl,rfl,rfl,rfl,rfl,rfl,rfl,rfl,rfl,rfl,rfl,rfl,rfl,rfl,tt_⟩
 refine AK.met (AK.rnd ?_)
 obtain⟨U,W,h⟩:=Qc h
 refine Qa hC [.n 2,.v .no [] (.b true),.n 10,.o (.any (.loc 615 0 14) none),.n 1,.kill 4,.n 2,.O 4 (.var [.clo (.func 184) [] [.loc 626 0 0,.loc 627 0 0],.I y]),.n 6,.cm (.clo) [(615,626),(616,617),(617,616),(618,620),(619,627),(620,623)] [(626,615),(617,616),(616,617),(620,618),(627,619),(623,620)] [] [.d,.d] [(615,.var [.clo (.func 134) [] [.loc 616 0 0,.loc 617 0 0,.loc 618 0 0]]),(616,.var (Qe t)),(617,.var (Qh e)),(618,.var (Qb B)),(619,.var [.loc 620 0 0]),(620,.var (Qb U.2))] (.b U.1),.n 3] rfl ⟨⟨⟨⟨tt_,rfl⟩,(fun σ a c _=>Stp.idxV rfl rfl (QH hC.n rfl) (a _ _ rfl) (a _ _ rfl) (Qs.es rfl) (c _ _ rfl) (by decide))⟩,rfl⟩,(Qsp _ _ _ _ W)⟩ ?_
 refine bg_ h (fun p h=>Qa hC [.T,.n 13,.K [2] [615,616,617,618,619,620,621,622,623,624,625,626,627,628,629]] rfl ⟨tt_,p⟩ ?_) fun p h=>Qa hC [.F,.n 4,.v .no [] (.I 8),.n 2] rfl ⟨⟨tt_,p⟩,rfl⟩ ?_
 ·cases h
  exact d1_ rfl rfl ⟨rfl,rfl,rfl,rfl,rfl,rfl,rfl,rfl,rfl,rfl,rfl,rfl,rfl,rfl,rfl,tt_⟩
 refine AK.met (AK.rnd ?_)
 obtain⟨X,Y,h⟩:=Qc h
 refine Qa hC [.n 2,.v .no [] (.b true),.n 10,.o (.any (.loc 615 0 16) none),.n 1,.kill 4,.n 2,.O 4 (.var [.clo (.func 184) [] [.loc 628 0 0,.loc 629 0 0],.I z]),.n 6,.cm (.clo) [(615,628),(616,617),(617,616),(618,629),(619,623)] [(628,615),(617,616),(616,617),(629,618),(623,619)] [] [.d,.d] [(615,.var [.clo (.func 135) [] [.loc 616 0 0,.loc 617 0 0]]),(616,.var (Qe t)),(617,.var (Qh e)),(618,.var [.loc 619 0 0]),(619,.var (Qb X.2))] (.b X.1),.n 3] rfl ⟨⟨⟨⟨tt_,rfl⟩,(fun σ a c _=>Stp.idxV rfl rfl (QH hC.n rfl) (a _ _ rfl) (a _ _ rfl) (Qs.es rfl) (c _ _ rfl) (by decide))⟩,rfl⟩,(Qsq _ _ _ Y)⟩ ?_
 refine bg_ h (fun q h=>Qa hC [.T,.n 13,.K [2] [615,616,617,618,619,620,621,622,623,624,625,626,627,628,629]] rfl ⟨tt_,q⟩ ?_) fun q h=>Qa hC [.F,.n 4,.v .no [] (.I 9),.n 2] rfl ⟨⟨tt_,q⟩,rfl⟩ ?_
 ·cases h
  exact d1_ rfl rfl ⟨rfl,rfl,rfl,rfl,rfl,rfl,rfl,rfl,rfl,rfl,rfl,rfl,rfl,rfl,rfl,tt_⟩
 refine AK.met (AK.rnd ?_)
 obtain⟨a5,Z,h⟩:=Qc h
 refine Qa hC [.n 2,.v .no [] (.b true),.n 10,.o (.any (.loc 615 0 18) none),.n 1,.kill 4,.n 2,.O 4 (.var [.clo (.func 137) [] [.loc 616 0 0],.I A]),.n 6,.cm (.clo) [(615,616)] [(616,615)] [] [.d] [(615,.var (Qh e))] (.b a5),.n 3] rfl ⟨⟨⟨⟨tt_,rfl⟩,(fun σ a c _=>Stp.idxV rfl rfl (QH hC.n rfl) (a _ _ rfl) (a _ _ rfl) (Qs.es rfl) (c _ _ rfl) (by decide))⟩,rfl⟩,(QuG _ Z)⟩ ?_
 refine bg_ h (fun s h=>Qa hC [.T,.n 13,.K [2] [615,616,617,618,619,620,621,622,623,624,625,626,627,628,629]] rfl ⟨tt_,s⟩ ?_) fun s h=>Qa hC [.F,.n 4,.v .no [] (.I 10),.n 2] rfl ⟨⟨tt_,s⟩,rfl⟩ ?_
 ·cases h
  exact d1_ rfl rfl ⟨rfl,rfl,rfl,rfl,rfl,rfl,rfl,rfl,rfl,rfl,rfl,rfl,rfl,rfl,rfl,tt_⟩
 refine AK.met (AK.rnd ?_)
 refine Qa hC [.n 2,.v .no [] (.b false),.n 15] rfl ⟨tt_,rfl⟩ ?_
 cases h
 exact d1_ rfl rfl ⟨rfl,rfl,rfl,rfl,rfl,rfl,rfl,rfl,rfl,rfl,rfl,rfl,rfl,rfl,rfl,tt_⟩
def Qdi (a:Qk)(e:Int):Option Int:=
 (Qdh a.Tasks e).bind fun g=>
 bif (!g)then
 some 3
 else
 (Qhp a).bind fun f=>
 bif (f.2 != 0)then
 some f.2
 else
 (idx a.Tasks e).bind fun d=>
 (idx a.Tasks e).bind fun b=>
 (QmE 0 a d).bind fun h=>
 (QiV 0 a d (b.Vars.length:Int)).bind fun i=>
 (QiW 0 a d (b.Vars.length:Int)).bind fun j=>
 (QiX 0 a d).bind fun k=>
 (QgH d 1 a e 5 (b.Vars.length:Int) 2 0 (-1) 2 1 (-1) (-1) (-1) 11).bind fun c=>
 bif (c.1==(-1))then
 some c.2
 else
 some c.1
theorem Qxf (g y){r}(h:Qdi g y=some r):Qd prog 75 [.agg (Qe g),.I y] [] (Gives (.I r) []):=by
 refine Qd.walk 68 func75 rfl rfl rfl fun C hC=>?_
 obtain⟨E,z,h⟩:=Qc h
 refine Qa hC [.n 13,.o (.c false [.d,.d] (.b E)),.n 3] rfl ⟨tt_,(Qj3 _ _ z)⟩ ?_
 rcases Qt h with⟨j,h⟩|⟨j,h⟩
 ·refine Qa hC [.T,.n 7] rfl ⟨tt_,j⟩ ?_
  cases h
  exact d1_ rfl rfl tt_
 obtain⟨D,A,h⟩:=Qc h
 refine Qa hC [.F,.n 5,.v .no [] (.agg (Qe g)),.o (.c false [.d] (.tup [.I D.1,.I D.2])),.n 13] rfl ⟨⟨⟨tt_,j⟩,rfl⟩,(QoH _ A)⟩ ?_
 rcases Qt h with⟨k,h⟩|⟨k,h⟩
 ·refine Qa hC [.T,.n 8] rfl ⟨tt_,k⟩ ?_
  cases h
  exact d1_ rfl rfl tt_
 obtain⟨i,B,h⟩:=Qc h
 obtain⟨e,l,h⟩:=Qc h
 refine Qa hC [.F,.n 3,.K [2,3] [2,3]] rfl ⟨tt_,k⟩ ?_
 refine AK.draw2 Qs hC mixed [.N,.N,.N,.a (.row (Qh i)) none false,.a .no (some ([],.agg (Qh i))) false,.a .no none true,.a .no none true,.a .no none true,.a (.row (Qh e)) none true,.a .no none true,.a .no none true,.a (.ln e.Vars.length) none true,.N,.N,.m .s,.m .s] [2,3] [2,3] [2,3,7,8] [2,3,7,8] rfl rfl rfl ⟨⟨⟨⟨tt_,(QJ B)⟩,rfl⟩,(QJ l)⟩,Qg⟩ rfl (by kernel_rfl) rfl rfl rfl ?_
 obtain⟨G,p,h⟩:=Qc h
 obtain⟨H,q,h⟩:=Qc h
 obtain⟨J,t,h⟩:=Qc h
 obtain⟨L,u,h⟩:=Qc h
 obtain⟨w,x,h⟩:=Qc h
 refine Qa hC [.O 7 (.var (Qh i)),.O 8 (.var (Qb (e.Vars.length:Int))),.n 6,.O 9 (.var [.clo (.func 121) [] [.loc 7 0 0]]),.n 10,.v .no [] (.agg [.clo (.func 122) [] [.loc 7 0 0],.I 1]),.n 1,.v .no [] (.agg [.clo (.func 123) [] [.loc 2 0 0,.loc 3 0 0,.loc 9 0 0],.I 5]),.n 1,.v .no [] (.agg [.clo (.func 125) [] [.loc 8 0 0,.loc 7 0 0],.I 2]),.n 1,.cm (.fn) [(615,10),(616,2),(617,7)] [(45,2),(608,3),(10,615),(2,616),(7,617)] [] [.d,.d] [(2,.var [.loc 615 0 0]),(3,.var [.clo (.func 127) [] [.loc 616 0 0,.loc 617 0 0]]),(615,.var (Qb 0)),(616,.var (Qe g)),(617,.var (Qh i))] (.clo (.func 184) [] [.loc 3 0 0,.loc 2 0 0]),.v .no [] (.agg [.clo (.func 184) [] [.loc 608 0 0,.loc 45 0 0],.I (-1)]),.n 1,.v .no [] (.agg [.clo (.func 129) [] [.loc 2 0 0,.loc 3 0 0],.I 2]),.n 1,.v .no [] (.agg [.clo (.func 130) [] [.loc 7 0 0,.loc 8 0 0],.I 1]),.n 1,.cm (.fn) [(615,10),(616,2),(617,7),(618,8)] [(52,2),(609,3),(10,615),(2,616),(7,617),(8,618)] [] [.d,.d] [(2,.var [.loc 615 0 0]),(3,.var [.clo (.func 132) [] [.loc 616 0 0,.loc 617 0 0,.loc 618 0 0]]),(615,.var (Qb 0)),(616,.var (Qe g)),(617,.var (Qh i)),(618,.var (Qb (e.Vars.length:Int)))] (.clo (.func 184) [] [.loc 3 0 0,.loc 2 0 0]),.v .no [] (.agg [.clo (.func 184) [] [.loc 609 0 0,.loc 52 0 0],.I (-1)]),.n 1,.cm (.fn) [(615,10),(616,2),(617,7),(618,8)] [(55,2),(610,3),(10,615),(2,616),(7,617),(8,618)] [] [.d,.d] [(2,.var [.loc 615 0 0]),(3,.var [.clo (.func 134) [] [.loc 616 0 0,.loc 617 0 0,.loc 618 0 0]]),(615,.var (Qb 0)),(616,.var (Qe g)),(617,.var (Qh i)),(618,.var (Qb (e.Vars.length:Int)))] (.clo (.func 184) [] [.loc 3 0 0,.loc 2 0 0]),.v .no [] (.agg [.clo (.func 184) [] [.loc 610 0 0,.loc 55 0 0],.I (-1)]),.n 1,.cm (.fn) [(615,10),(616,2),(617,7)] [(58,2),(611,3),(10,615),(2,616),(7,617)] [] [.d,.d] [(2,.var [.loc 615 0 0]),(3,.var [.clo (.func 135) [] [.loc 616 0 0,.loc 617 0 0]]),(615,.var (Qb 0)),(616,.var (Qe g)),(617,.var (Qh i))] (.clo (.func 184) [] [.loc 3 0 0,.loc 2 0 0]),.v .no [] (.agg [.clo (.func 184) [] [.loc 611 0 0,.loc 58 0 0],.I (-1)]),.n 1,.v .no [] (.agg [.clo (.func 137) [] [.loc 7 0 0],.I 11]),.o (.any (.own 62 10) (some (.var [.clo (.func 122) [] [.loc 7 0 0],.I 1,.clo (.func 123) [] [.loc 2 0 0,.loc 3 0 0,.loc 9 0 0],.I 5,.clo (.func 125) [] [.loc 8 0 0,.loc 7 0 0],.I 2,.clo (.func 184) [] [.loc 608 0 0,.loc 45 0 0],.I (-1),.clo (.func 129) [] [.loc 2 0 0,.loc 3 0 0],.I 2,.clo (.func 130) [] [.loc 7 0 0,.loc 8 0 0],.I 1,.clo (.func 184) [] [.loc 609 0 0,.loc 52 0 0],.I (-1),.clo (.func 184) [] [.loc 610 0 0,.loc 55 0 0],.I (-1),.clo (.func 184) [] [.loc 611 0 0,.loc 58 0 0],.I (-1),.clo (.func 137) [] [.loc 7 0 0],.I 11]))),.cm (.fn) [(615,62),(616,7),(617,2),(618,3),(619,9),(620,8),(621,608),(622,45),(623,10),(624,609),(625,52),(626,610),(627,55),(628,611),(629,58)] [(62,615),(7,616),(2,617),(3,618),(9,619),(8,620),(608,621),(45,622),(10,623),(609,624),(52,625),(610,626),(55,627),(611,628),(58,629)] [] [.d] [(615,.var [.clo (.func 122) [] [.loc 616 0 0],.I 1,.clo (.func 123) [] [.loc 617 0 0,.loc 618 0 0,.loc 619 0 0],.I 5,.clo (.func 125) [] [.loc 620 0 0,.loc 616 0 0],.I 2,.clo (.func 184) [] [.loc 621 0 0,.loc 622 0 0],.I (-1),.clo (.func 129) [] [.loc 617 0 0,.loc 618 0 0],.I 2,.clo (.func 130) [] [.loc 616 0 0,.loc 620 0 0],.I 1,.clo (.func 184) [] [.loc 624 0 0,.loc 625 0 0],.I (-1),.clo (.func 184) [] [.loc 626 0 0,.loc 627 0 0],.I (-1),.clo (.func 184) [] [.loc 628 0 0,.loc 629 0 0],.I (-1),.clo (.func 137) [] [.loc 616 0 0],.I 11]),(616,.var (Qh i)),(617,.var (Qe g)),(618,.var (Qb y)),(619,.var [.clo (.func 121) [] [.loc 616 0 0]]),(620,.var (Qb (e.Vars.length:Int))),(621,.var [.clo (.func 127) [] [.loc 617 0 0,.loc 616 0 0]]),(622,.var [.loc 623 0 0]),(623,.var (Qb w.2)),(624,.var [.clo (.func 132) [] [.loc 617 0 0,.loc 616 0 0,.loc 620 0 0]]),(625,.var [.loc 623 0 0]),(626,.var [.clo (.func 134) [] [.loc 617 0 0,.loc 616 0 0,.loc 620 0 0]]),(627,.var [.loc 623 0 0]),(628,.var [.clo (.func 135) [] [.loc 617 0 0,.loc 616 0 0]]),(629,.var [.loc 623 0 0])] (.I w.1),.n 10] rfl ⟨⟨⟨⟨⟨⟨⟨⟨⟨⟨⟨⟨⟨⟨⟨⟨⟨⟨⟨tt_,rfl⟩,rfl⟩,rfl⟩,rfl⟩,rfl⟩,rfl⟩,(Qwt _ _ _ p)⟩,rfl⟩,rfl⟩,rfl⟩,(QtT _ _ _ _ q)⟩,rfl⟩,(QtU _ _ _ _ t)⟩,rfl⟩,(QtV _ _ _ u)⟩,rfl⟩,rfl⟩,(fun σ M P hf=>Stp.buildAny rfl rfl (QH hC.n rfl) (Qs.es rfl) QoB rfl (by decide) (by decide) (Qgi M rfl) rfl rfl (hf rfl))⟩,(Qt2 _ _ _ _ _ _ _ _ _ _ _ _ _ _ _ x)⟩ ?_
 refine bg_ h (fun f h=>Qa hC [.T,.n 8,.K [4] []] rfl ⟨tt_,f⟩ ?_) fun f h=>Qa hC [.F,.n 9,.K [4] []] rfl ⟨tt_,f⟩ ?_
 ·cases h
  exact d1_ rfl rfl tt_
 cases h
 exact d1_ rfl rfl tt_
def Qjm (a:Int)(d:QA)(b:Qk):Option Int:=
 (Qdi b a).bind fun c=>
 some c
theorem Qww (e f a){r}(h:Qjm e f a=some r):Qd prog 74 [.I e,.agg (Qh f),.loc 615 0 0] [(615,.var (Qe a))] (Gives (.I r) [(615,.var (Qe a))]):=by
 refine Qd.walk 9 func74 rfl rfl rfl fun C hC=>?_
 obtain⟨g,b,h⟩:=Qc h
 refine Qa hC [.n 8,.v .no [] (.agg (Qe a)),.n 1,.o (.c false [.d,.d] (.I g)),.n 4] rfl ⟨⟨tt_,rfl⟩,(Qxf _ _ b)⟩ ?_
 cases h
 exact d1_ rfl rfl ⟨rfl,tt_⟩
def QbX (d:(List QA))(e:Qk)(a:Int):Option (Int⊕((Int×Int)⊕Unit)):=
 bif (decide (a<(d.length:Int)))then
 (idx d a).bind fun c=>
 (Qjm a c e).bind fun b=>
 bif (b != 0)then
 some (.inr (.inl (a,b)))
 else
 some (.inl (w64 (a+1)))
 else
 some (.inr (.inr ()))
def Qd3 (b:Int)(a:Int):Option (Int×Int):=
 some (b,a)
def Qd4 : Option (Int×Int):=
 some (0,0)
def QcK (a:(List QA))(b:Qk):Option (Int×Int):=
 (QE (fun st=>QbX a b st) 0).bind (Sum.elim (fun q=>Qd3 q.1 q.2) (fun q=>Qd4))
theorem Qqn (g f){r}(h:QcK g f=some r):Qd prog 73 [.sl 14 (g.map Qh),.clo (.func 74) [] [.loc 615 0 0]] [(615,.var (Qe f))] (Gives (.tup [.I r.1,.I r.2]) [(615,.var (Qe f))]):=by
 refine Qd.walk 25 func73 rfl rfl rfl fun C hC=>?_
 refine Qa hC [.n 10,.o (.ln g.length),.n 4,.K [1,9,10,11] [615]] rfl ⟨tt_,Qg⟩ ?_
 obtain⟨l,i,h⟩:=Qc h
 refine AK.loop (body:=(fun st=>QbX g f st)) (fun st σ=>σ=⟨[(1,.clo (.func 74) [] [.loc 615 0 0]),(9,.sl 14 (g.map Qh)),(10,.I (g.length:Int)),(11,.I st)],[(615,.var (Qe f))]⟩) (Sum.elim (fun q e σ=>e=.ret∧σ=⟨[(4,.I q.1),(5,.I q.2)],[(615,.var (Qe f))]⟩) (fun q e σ=>e=.exit 0∧σ=⟨[],[(615,.var (Qe f))]⟩)) i rfl ?_ ?_
 ·rintro t o σ rfl h
  refine tg_ hC [.n 6] rfl ?_
  rcases Qt h with⟨a,h⟩|⟨a,h⟩
  ·obtain⟨c,j,h⟩:=Qc h
   obtain⟨m,k,h⟩:=Qc h
   refine Qa hC [.T,.n 7,.o (.row (Qh c)),.v .no [] (.agg (Qh c)),.n 3,.O 7 (.var (Qh c)),.n 6,.v .no [] (.agg (Qh c)),.cm (.clo) [(615,615)] [(615,615)] [] [.d,.d,.d] [(615,.var (Qe f))] (.I m),.n 9] rfl ⟨⟨⟨⟨⟨⟨tt_,a⟩,(QJ j)⟩,rfl⟩,rfl⟩,rfl⟩,(Qww _ _ _ k)⟩ ?_
   refine bg_ h (fun b h=>Qa hC [.T,.n 11,.K [4,5] [615]] rfl ⟨tt_,b⟩ ?_) fun b h=>Qa hC [.F,.n 7,.K [1,9,10,11] [615]] rfl ⟨tt_,b⟩ ?_
   ·cases h
    exact Qal rfl (an_ rfl rfl)
   cases h
   exact QZ rfl rfl
  refine Qa hC [.F,.n 2,.K [] [615]] rfl ⟨tt_,a⟩ ?_
  cases h
  exact Q1 rfl (an_ rfl rfl)
 rcases l with(⟨s,p⟩|_)
 ·replace h:Qd3 s p=some r:=h
  rintro e σ ⟨rfl,rfl⟩
  refine tg_ hC [.n 2] rfl ?_
  cases h
  exact d2_ rfl rfl rfl ⟨rfl,tt_⟩
 replace h:Qd4=some r:=h
 rintro e σ ⟨rfl,rfl⟩
 refine tg_ hC [.n 9] rfl ?_
 cases h
 exact d2_ rfl rfl rfl ⟨rfl,tt_⟩
def QhG (c:Qk):Option (Int×QfO):=
 (Qmz c 2 3 1).bind fun e=>
 bif (e != 0)then
 some (e,(QfO.mk 1 0))
 else
 (Qhp c).bind fun d=>
 bif (d.2 != 0)then
 some (d.2,(QfO.mk 2 d.1))
 else
 (QeZ c.Places c).bind fun a=>
 bif (a.2 != 0)then
 some (a.2,(QfO.mk 3 a.1))
 else
 (QcK c.Tasks c).bind fun b=>
 bif (b.2 != 0)then
 some (b.2,(QfO.mk 4 b.1))
 else
 some (0,(QfO.mk 0 0))
theorem Qsr (j){r}(h:QhG j=some r):Qd prog 33 [.agg (Qe j)] [] (Gives (.tup [.agg (QcP r.2),.I r.1]) []):=by
 refine Qd.walk 58 func33 rfl rfl rfl fun C hC=>?_
 obtain⟨s,p,h⟩:=Qc h
 refine Qa hC [.n 10,.v .no [] (.agg [.clo (.func 65) [] [.loc 1 0 0],.I 2]),.n 1,.v .no [] (.agg [.clo (.func 66) [] [.loc 1 0 0],.I 3]),.n 1,.v .no [] (.agg [.clo (.func 68) [] [.loc 1 0 0],.I 1]),.o (.any (.own 17 3) (some (.var [.clo (.func 65) [] [.loc 1 0 0],.I 2,.clo (.func 66) [] [.loc 1 0 0],.I 3,.clo (.func 68) [] [.loc 1 0 0],.I 1]))),.cm (.fn) [(615,17),(616,1)] [(17,615),(1,616)] [] [.d] [(615,.var [.clo (.func 65) [] [.loc 616 0 0],.I 2,.clo (.func 66) [] [.loc 616 0 0],.I 3,.clo (.func 68) [] [.loc 616 0 0],.I 1]),(616,.var (Qe j))] (.I s),.n 10] rfl ⟨⟨⟨⟨⟨tt_,rfl⟩,rfl⟩,rfl⟩,(fun σ t u hf=>Stp.buildAny rfl rfl (QH hC.n rfl) (Qs.es rfl) QoB rfl (by decide) (by decide) (Qgi t rfl) rfl rfl (hf rfl))⟩,(Qwn _ _ _ _ p)⟩ ?_
 rcases Qt h with⟨g,h⟩|⟨g,h⟩
 ·refine Qa hC [.T,.n 2,.v .no [] (.agg (QcP (QfO.mk 1 0))),.n 2,.O 2 (.var (QcP (QfO.mk 1 0))),.n 5,.K [2,3] [2]] rfl ⟨⟨⟨tt_,g⟩,rfl⟩,rfl⟩ ?_
  cases h
  exact AK.done (ex_ [_,_] (an_ (an_ (ex_ _ (ex_ _ (an_ rfl (an_ rfl (Or.inl (an_ (Qs.ag rfl) (an_ (Qs.sz rfl) rfl))))))) (an_ rfl tt_)) (gives tt_)))
 obtain⟨m,q,h⟩:=Qc h
 refine Qa hC [.F,.n 5,.v .no [] (.agg (Qe j)),.o (.c false [.d] (.tup [.I m.1,.I m.2])),.n 13] rfl ⟨⟨⟨tt_,g⟩,rfl⟩,(QoH _ q)⟩ ?_
 rcases Qt h with⟨i,h⟩|⟨i,h⟩
 ·refine Qa hC [.T,.n 3,.v .no [] (.agg (QcP (QfO.mk 2 m.1))),.n 2,.O 2 (.var (QcP (QfO.mk 2 m.1))),.n 5,.K [2,3] [2]] rfl ⟨⟨⟨tt_,i⟩,rfl⟩,rfl⟩ ?_
  cases h
  exact AK.done (ex_ [_,_] (an_ (an_ (ex_ _ (ex_ _ (an_ rfl (an_ rfl (Or.inl (an_ (Qs.ag rfl) (an_ (Qs.sz rfl) rfl))))))) (an_ rfl tt_)) (gives tt_)))
 obtain⟨e,k,h⟩:=Qc h
 refine Qa hC [.F,.n 8,.cm (.fn) [(615,1)] [(1,615)] [] [.d,.d] [(615,.var (Qe j))] (.tup [.I e.1,.I e.2]),.n 13] rfl ⟨⟨tt_,i⟩,(Qpx _ _ k)⟩ ?_
 rcases Qt h with⟨a,h⟩|⟨a,h⟩
 ·refine Qa hC [.T,.n 3,.v .no [] (.agg (QcP (QfO.mk 3 e.1))),.n 2,.O 2 (.var (QcP (QfO.mk 3 e.1))),.n 5,.K [2,3] [2]] rfl ⟨⟨⟨tt_,a⟩,rfl⟩,rfl⟩ ?_
  cases h
  exact AK.done (ex_ [_,_] (an_ (an_ (ex_ _ (ex_ _ (an_ rfl (an_ rfl (Or.inl (an_ (Qs.ag rfl) (an_ (Qs.sz rfl) rfl))))))) (an_ rfl tt_)) (gives tt_)))
 obtain⟨f,l,h⟩:=Qc h
 refine Qa hC [.F,.n 8,.cm (.fn) [(615,1)] [(1,615)] [] [.d,.d] [(615,.var (Qe j))] (.tup [.I f.1,.I f.2]),.n 13] rfl ⟨⟨tt_,a⟩,(Qqn _ _ l)⟩ ?_
 refine bg_ h (fun b h=>Qa hC [.T,.n 3,.v .no [] (.agg (QcP (QfO.mk 4 f.1))),.n 2,.O 2 (.var (QcP (QfO.mk 4 f.1))),.n 5,.K [2,3] [2]] rfl ⟨⟨⟨tt_,b⟩,rfl⟩,rfl⟩ ?_) fun b h=>Qa hC [.F,.n 4,.v .no [] (.agg (QcP (QfO.mk 0 0))),.n 1,.O 2 (.var (QcP (QfO.mk 0 0))),.n 4,.K [2,3] [2]] rfl ⟨⟨⟨tt_,b⟩,rfl⟩,rfl⟩ ?_
 ·cases h
  exact AK.done (ex_ [_,_] (an_ (an_ (ex_ _ (ex_ _ (an_ rfl (an_ rfl (Or.inl (an_ (Qs.ag rfl) (an_ (Qs.sz rfl) rfl))))))) (an_ rfl tt_)) (gives tt_)))
 cases h
 exact AK.done (ex_ [_,_] (an_ (an_ (ex_ _ (ex_ _ (an_ rfl (an_ rfl (Or.inl (an_ (Qs.ag rfl) (an_ (Qs.sz rfl) rfl))))))) (an_ rfl tt_)) (gives tt_)))
def Qnu (a:Qk):Option Bool:=
 (Qjv a).bind fun b=>
 bif ((!b)||((decide (8<(a.Tasks.length:Int)))||(decide (12<(a.Places.length:Int)))))then
 some false
 else
 (QhG a).bind fun c=>
 some (c.1==0)
theorem Qxg (a){r}(h:Qnu a=some r):Qd prog 10 [.agg (Qe a)] [] (Gives (.b r) []):=by
 refine Qd.walk 29 func10 rfl rfl rfl fun C hC=>?_
 obtain⟨i,j,h⟩:=Qc h
 refine Qa hC [.n 8,.v .no [] (.agg (Qe a)),.o (.c false [.d] (.b i)),.n 5] rfl ⟨⟨tt_,rfl⟩,(Qsn _ j)⟩ ?_
 refine AK.meetX (fun σ=>σ=⟨[(1,.loc 1 0 0),(21,.b ((!i)||((decide (8<(a.Tasks.length:Int)))||(decide (12<(a.Places.length:Int))))))],[(1,.var (Qe a))]⟩) ?_ ?_
 ·refine tg_ hC [.n 4] rfl ?_
  rcases Q0 (!i)with e | e
  ·refine Qa hC [.S 10 (.b true),.n 12,.S 21 (.b ((!i)||((decide (8<(a.Tasks.length:Int)))||(decide (12<(a.Places.length:Int)))))),.K [1,21] [1]] rfl ⟨(tc_ e),(congrArg V.b (orT e rfl))⟩ ?_
   exact AK.met rfl
  refine Qa hC [.S 10 (.b false),.n 2,.o (.ln a.Tasks.length),.n 3] rfl ⟨(tc_ e),Qg⟩ ?_
  rcases Q0 (decide (8<(a.Tasks.length:Int)))with f | f
  ·refine Qa hC [.S 16 (.b true),.n 6,.S 21 (.b ((!i)||((decide (8<(a.Tasks.length:Int)))||(decide (12<(a.Places.length:Int)))))),.K [1,21] [1]] rfl ⟨(tc_ f),(congrArg V.b (orF e (orT f rfl)))⟩ ?_
   exact AK.met rfl
  refine Qa hC [.S 16 (.b false),.n 2,.o (.ln a.Places.length),.n 3,.S 21 (.b ((!i)||((decide (8<(a.Tasks.length:Int)))||(decide (12<(a.Places.length:Int)))))),.K [1,21] [1]] rfl ⟨⟨(tc_ f),Qg⟩,(congrArg V.b (orF e (orF f rfl)))⟩ ?_
  exact AK.met rfl
 rintro σ rfl
 refine tg_ hC [.n 1] rfl ?_
 rcases Qt h with⟨g,h⟩|⟨g,h⟩
 ·refine Qa hC [.T,.n 7] rfl ⟨tt_,g⟩ ?_
  cases h
  exact d1_ rfl rfl tt_
 obtain⟨k,l,h⟩:=Qc h
 refine Qa hC [.F,.n 4,.v .no [] (.agg (Qe a)),.o (.c false [.d] (.tup [.agg (QcP k.2),.I k.1])),.n 5,.O 4 (.var (QcP k.2)),.n 11] rfl ⟨⟨⟨⟨tt_,g⟩,rfl⟩,(Qsr _ l)⟩,rfl⟩ ?_
 cases h
 exact d1_ rfl rfl tt_
def QlC (c:QMk)(d:Int)(a:Int):Option ((Int×Int)⊕Int):=
 bif ((decide (a<(c.length:Int)))&&(decide (a<100)))then
 (idx c a).bind fun b=>
 some (.inl ((w64 (d+(b.length:Int))),(w64 (a+1))))
 else
 some (.inr d)
def Qss (a:QMk)(b:Int):Option Bool:=
 some ((decide ((a.length:Int)≤70))&&(decide (b≤300)))
def Qos (a:QMk):Option Bool:=
 (QE (fun st=>QlC a st.1 st.2) (0,0)).bind (fun q=>Qss a q)
theorem Qyc (a){r}(h:Qos a=some r):Qd prog 11 [.sl 1 (a.map Qm)] [] (Gives (.b r) []):=by
 refine Qd.walk 29 func11 rfl rfl rfl fun C hC=>?_
 refine tg_ hC [.n 17,.K [0,3,4] []] rfl ?_
 obtain⟨l,i,h⟩:=Qc h
 refine AK.loop (body:=(fun st=>QlC a st.1 st.2)) (fun st σ=>σ=⟨[(0,.sl 1 (a.map Qm)),(3,.I st.1),(4,.I st.2)],[]⟩) (fun q e σ=>e=.exit 0∧σ=⟨[(0,.sl 1 (a.map Qm)),(3,.I q)],[]⟩) i rfl ?_ ?_
 ·rintro ⟨m,g⟩ o σ rfl h
  refine tg_ hC [.n 2] rfl ?_
  refine AK.meetX (fun σ=>σ=⟨[(0,.sl 1 (a.map Qm)),(3,.I m),(4,.I g),(12,.b ((decide (g<(a.length:Int)))&&(decide (g<100))))],[]⟩) ?_ ?_
  ·refine Qa hC [.n 3,.o (.ln a.length),.n 2] rfl ⟨tt_,Qg⟩ ?_
   rcases Q0 (decide (g<(a.length:Int)))with d | d
   ·refine Qa hC [.S 9 (.b true),.n 4,.S 12 (.b ((decide (g<(a.length:Int)))&&(decide (g<100)))),.K [0,3,4,12] []] rfl ⟨(tc_ d),(congrArg V.b (Qcy d rfl))⟩ ?_
    exact AK.met rfl
   refine Qa hC [.S 9 (.b false),.n 4,.S 12 (.b ((decide (g<(a.length:Int)))&&(decide (g<100)))),.K [0,3,4,12] []] rfl ⟨(tc_ d),(congrArg V.b (QeJ d rfl))⟩ ?_
   exact AK.met rfl
  rintro σ rfl
  refine tg_ hC [.n 1] rfl ?_
  rcases Qt h with⟨f,h⟩|⟨f,h⟩
  ·obtain⟨j,k,h⟩:=Qc h
   refine Qa hC [.T,.n 8,.o (.row (Qm j)),.n 1,.o (.ln j.length),.n 10,.K [0,3,4] []] rfl ⟨⟨⟨tt_,f⟩,(QJ k)⟩,Qg⟩ ?_
   cases h
   exact QZ rfl rfl
  refine Qa hC [.F,.n 2,.K [0,3] []] rfl ⟨tt_,f⟩ ?_
  cases h
  exact Q1 rfl (an_ rfl rfl)
 replace h:Qss a l=some r:=h
 rintro e σ ⟨rfl,rfl⟩
 refine tg_ hC [.n 3] rfl ?_
 refine AK.meetX (fun σ=>σ=⟨[(2,.b ((decide ((a.length:Int)≤70))&&(decide (l≤300))))],[]⟩) ?_ ?_
 ·refine Qa hC [.n 2,.o (.ln a.length),.n 2] rfl ⟨tt_,Qg⟩ ?_
  rcases Q0 (decide ((a.length:Int)≤70))with c | c
  ·refine Qa hC [.S 25 (.b true),.n 5,.S 2 (.b ((decide ((a.length:Int)≤70))&&(decide (l≤300)))),.K [2] []] rfl ⟨(tc_ c),(congrArg V.b (Qcy c rfl))⟩ ?_
   exact AK.met rfl
  refine Qa hC [.S 25 (.b false),.n 5,.S 2 (.b ((decide ((a.length:Int)≤70))&&(decide (l≤300)))),.K [2] []] rfl ⟨(tc_ c),(congrArg V.b (QeJ c rfl))⟩ ?_
  exact AK.met rfl
 rintro σ rfl
 refine tg_ hC [.n 2] rfl ?_
 cases h
 exact d1_ rfl rfl tt_
def Qrj (a:QBg)(b:Int):Option Bool:=
 (Qf1 a).bind fun c=>
 bif (!c)then
 some true
 else
 bif (decide (0<(a.length:Int)))then
 (idx a (w64 ((a.length:Int)-1))).bind fun d=>
 some (decide (b≤d.1))
 else
 some false
def Qka (b:Int)(a:Bool):Option (Int⊕(Unit⊕Unit)):=
 bif a then
 some (.inr (.inl ()))
 else
 some (.inl (w64 (b+1)))
def Qkb (e:QMk)(f:Qk)(a:Int):Option (Int⊕(Unit⊕Unit)):=
 bif (decide (a<(e.length:Int)))then
 (idx e a).bind fun g=>
 (idx f.Places a).bind fun b=>
 (Qbd f.Colours b.Colour).bind fun c=>
 (Qrj g c).bind (fun d=>Qka a d)
 else
 some (.inr (.inr ()))
def Qrk : Option Bool:=
 some false
def Qrl : Option Bool:=
 some true
def Qnv (a:Qk)(b:QMk):Option Bool:=
 bif ((b.length:Int) != (a.Places.length:Int))then
 some false
 else
 (QE (fun st=>Qkb b a st) 0).bind (Sum.elim (fun q=>Qrk) (fun q=>Qrl))
theorem Qxh (p j){r}(h:Qnv p j=some r):Qd prog 56 [.agg (Qe p),.sl 1 (j.map Qm)] [] (Gives (.b r) []):=by
 refine Qd.walk 50 func56 rfl rfl rfl fun C hC=>?_
 refine Qa hC [.n 10,.o (.ln j.length),.n 2,.o (.ln p.Places.length),.n 3] rfl ⟨⟨tt_,Qg⟩,Qg⟩ ?_
 refine bg_ h (fun k h=>Qa hC [.T,.n 7,.K [4] []] rfl ⟨tt_,k⟩ ?_) fun k h=>Qa hC [.F,.n 6,.o (.ln j.length),.n 4,.K [2,14,15,16] [2]] rfl ⟨⟨tt_,k⟩,Qg⟩ ?_
 ·cases h
  exact d1_ rfl rfl tt_
 obtain⟨y,s,h⟩:=Qc h
 refine AK.loop (body:=(fun st=>Qkb j p st)) (fun st σ=>σ=⟨[(2,.loc 2 0 0),(14,.sl 1 (j.map Qm)),(15,.I (j.length:Int)),(16,.I st)],[(2,.var (Qe p))]⟩) (Sum.elim (fun q e σ=>e=.ret∧σ=⟨[(4,.b false)],[]⟩) (fun q e σ=>e=.exit 0∧σ=⟨[],[]⟩)) s rfl ?_ ?_
 ·rintro z o σ rfl h
  refine tg_ hC [.n 6] rfl ?_
  rcases Qt h with⟨l,h⟩|⟨l,h⟩
  ·obtain⟨A,B,h⟩:=Qc h
   obtain⟨D,t,h⟩:=Qc h
   obtain⟨E,u,h⟩:=Qc h
   refine Qa hC [.T,.n 7,.o (.row (Qm A)),.n 6,.K [2,5,6,14,15,16] [2]] rfl ⟨⟨tt_,l⟩,(QJ B)⟩ ?_
   refine AK.draw2 Qs hC mixed [.N,.N,.N,.N,.N,.a (.row (QC D)) none false,.N,.N,.a (.c false [.d,.d] (.I E)) none false,.N] [] [] [2,6,7,14,15,16] [2] rfl rfl rfl ⟨⟨tt_,(QJ t)⟩,(QiT _ _ u)⟩ rfl (by kernel_rfl) rfl rfl rfl ?_
   refine tg_ hC [.n 2] rfl ?_
   obtain⟨m,v,h⟩:=Qc h
   replace h:Qka z m=some o:=h
   refine AK.meetX (fun σ=>σ=⟨[(2,.loc 2 0 0),(14,.sl 1 (j.map Qm)),(15,.I (j.length:Int)),(16,.I z),(48,.b m)],[(2,.var (Qe p))]⟩) ?_ ?_
   ·replace h:=v
    obtain⟨G,w,h⟩:=Qc h
    refine Qa hC [.n 2,.o (.c false [.d] (.b G)),.n 2] rfl ⟨tt_,(Qn1 _ w)⟩ ?_
    refine bg_ h (fun f h=>Qa hC [.S 33 (.b true),.n 16,.K [2,14,15,16,48] [2]] rfl (tc_ f) ?_) fun f h=>Qa hC [.S 33 (.b false),.n 1,.o (.ln A.length),.n 2] rfl ⟨(tc_ f),Qg⟩ ?_
    ·cases h
     exact AK.met rfl
    rcases Qt h with⟨g,h⟩|⟨g,h⟩
    ·obtain⟨H,x,h⟩:=Qc h
     refine Qa hC [.S 37 (.b true),.n 2,.o (.ln A.length),.n 1,.o (.row (QK H)),.n 7,.K [2,14,15,16,48] [2]] rfl ⟨⟨(tc_ g),Qg⟩,(QJ x)⟩ ?_
     cases h
     exact AK.met rfl
    refine Qa hC [.S 37 (.b false),.n 12,.K [2,14,15,16,48] [2]] rfl (tc_ g) ?_
    cases h
    exact AK.met rfl
   rintro σ rfl
   replace h:Qka z m=some o:=h
   refine tg_ hC [.n 1] rfl ?_
   refine bg_ h (fun i h=>Qa hC [.T,.n 8,.K [4] []] rfl ⟨tt_,i⟩ ?_) fun i h=>Qa hC [.F,.n 7,.K [2,14,15,16] [2]] rfl ⟨tt_,i⟩ ?_
   ·cases h
    exact Qal rfl (an_ rfl rfl)
   cases h
   exact QZ rfl rfl
  refine Qa hC [.F,.n 2,.K [] []] rfl ⟨tt_,l⟩ ?_
  cases h
  exact Q1 rfl (an_ rfl rfl)
 rcases y with(_ | _)
 ·replace h:Qrk=some r:=h
  rintro e σ ⟨rfl,rfl⟩
  refine tg_ hC [.n 2] rfl ?_
  cases h
  exact d1_ rfl rfl tt_
 replace h:Qrl=some r:=h
 rintro e σ ⟨rfl,rfl⟩
 refine tg_ hC [.n 8] rfl ?_
 cases h
 exact d1_ rfl rfl tt_
def Qrm (a:(Int×QfO))(c:Qk)(d:QMk):Option Bool:=
 bif (a.1 != 0)then
 some true
 else
 (Qnv c d).bind fun b=>
 some (!b)
def Qkc (d:Qk)(a:Int)(b:Int):Option ((Int×Int)⊕Int):=
 bif (decide (b<(d.Tasks.length:Int)))then
 (idx d.Tasks b).bind fun c=>
 (Qjj d b).bind fun e=>
 some (.inl ((w64 (a+(w64 (e*(w64 (1+(w64 ((c.Ins.length:Int)*(c.Outs.length:Int))))))))),(w64 (b+1))))
 else
 some (.inr a)
def Qrn (a:Int):Option Bool:=
 some (decide (a≤600))
def Qkd (b:Qk)(a:Bool):Option Bool:=
 bif a then
 some false
 else
 (QE (fun st=>Qkc b st.1 st.2) (0,0)).bind (fun q=>Qrn q)
def Qnw (a:Qk)(d:QMk):Option Bool:=
 (Qjv a).bind fun e=>
 (Qos d).bind fun f=>
 bif ((!e)||((!f)||(decide (12<(a.Tasks.length:Int)))))then
 some false
 else
 (QhG a).bind fun b=>
 (Qrm b a d).bind (fun c=>Qkd a c)
theorem Qxi (f L){r}(h:Qnw f L=some r):Qd prog 26 [.agg (Qe f),.sl 1 (L.map Qm)] [] (Gives (.b r) []):=by
 refine Qd.walk 69 func26 rfl rfl rfl fun C hC=>?_
 obtain⟨y,M,h⟩:=Qc h
 obtain⟨z,P,h⟩:=Qc h
 refine Qa hC [.n 8,.v .no [] (.agg (Qe f)),.o (.c false [.d] (.b y)),.n 6,.o (.c false [.d] (.b z)),.n 5] rfl ⟨⟨⟨tt_,rfl⟩,(Qsn _ M)⟩,(Qyc _ P)⟩ ?_
 refine AK.meetX (fun σ=>σ=⟨[(1,.sl 1 (L.map Qm)),(2,.loc 2 0 0),(27,.b ((!y)||((!z)||(decide (12<(f.Tasks.length:Int))))))],[(2,.var (Qe f))]⟩) ?_ ?_
 ·refine tg_ hC [.n 4] rfl ?_
  rcases Q0 (!y)with g | g
  ·refine Qa hC [.S 18 (.b true),.n 10,.S 27 (.b ((!y)||((!z)||(decide (12<(f.Tasks.length:Int)))))),.K [1,2,27] [2]] rfl ⟨(tc_ g),(congrArg V.b (orT g rfl))⟩ ?_
   exact AK.met rfl
  refine Qa hC [.S 18 (.b false),.n 4] rfl (tc_ g) ?_
  rcases Q0 (!z)with i | i
  ·refine Qa hC [.S 22 (.b true),.n 6,.S 27 (.b ((!y)||((!z)||(decide (12<(f.Tasks.length:Int)))))),.K [1,2,27] [2]] rfl ⟨(tc_ i),(congrArg V.b (orF g (orT i rfl)))⟩ ?_
   exact AK.met rfl
  refine Qa hC [.S 22 (.b false),.n 2,.o (.ln f.Tasks.length),.n 3,.S 27 (.b ((!y)||((!z)||(decide (12<(f.Tasks.length:Int)))))),.K [1,2,27] [2]] rfl ⟨⟨(tc_ i),Qg⟩,(congrArg V.b (orF g (orF i rfl)))⟩ ?_
  exact AK.met rfl
 rintro σ rfl
 refine tg_ hC [.n 1] rfl ?_
 rcases Qt h with⟨j,h⟩|⟨j,h⟩
 ·refine Qa hC [.T,.n 7] rfl ⟨tt_,j⟩ ?_
  cases h
  exact d1_ rfl rfl tt_
 obtain⟨w,A,h⟩:=Qc h
 refine Qa hC [.F,.n 4,.v .no [] (.agg (Qe f)),.o (.c false [.d] (.tup [.agg (QcP w.2),.I w.1])),.n 5,.O 7 (.var (QcP w.2)),.n 5] rfl ⟨⟨⟨⟨tt_,j⟩,rfl⟩,(Qsr _ A)⟩,rfl⟩ ?_
 obtain⟨x,B,h⟩:=Qc h
 replace h:Qkd f x=some r:=h
 refine AK.meetX (fun σ=>σ=⟨[(2,.loc 2 0 0),(40,.b x)],[(2,.var (Qe f))]⟩) ?_ ?_
 ·replace h:=B
  refine tg_ hC [.n 4] rfl ?_
  rcases Qt h with⟨k,h⟩|⟨k,h⟩
  ·refine Qa hC [.S 35 (.b true),.n 6,.K [2,40] [2]] rfl (tc_ k) ?_
   cases h
   exact AK.met rfl
  obtain⟨U,D,h⟩:=Qc h
  refine Qa hC [.S 35 (.b false),.v .no [] (.agg (Qe f)),.n 1,.o (.c false [.d,.d] (.b U)),.n 3,.K [2,40] [2]] rfl ⟨⟨(tc_ k),rfl⟩,(Qxh _ _ D)⟩ ?_
  cases h
  exact AK.met rfl
 rintro σ rfl
 replace h:Qkd f x=some r:=h
 refine tg_ hC [.n 1] rfl ?_
 refine bg_ h (fun l h=>Qa hC [.T,.n 7,.K [4] []] rfl ⟨tt_,l⟩ ?_) fun l h=>Qa hC [.F,.n 14,.K [2,9,10] [2]] rfl ⟨tt_,l⟩ ?_
 ·cases h
  exact d1_ rfl rfl tt_
 obtain⟨u,E,h⟩:=Qc h
 refine AK.loop (body:=(fun st=>Qkc f st.1 st.2)) (fun st σ=>σ=⟨[(2,.loc 2 0 0),(9,.I st.1),(10,.I st.2)],[(2,.var (Qe f))]⟩) (fun q e σ=>e=.exit 0∧σ=⟨[(9,.I q)],[]⟩) E rfl ?_ ?_
 ·rintro ⟨J,X⟩ o σ rfl h
  refine Qa hC [.n 6,.o (.ln f.Tasks.length),.n 3] rfl ⟨tt_,Qg⟩ ?_
  rcases Qt h with⟨p,h⟩|⟨p,h⟩
  ·obtain⟨t,G,h⟩:=Qc h
   obtain⟨W,H,h⟩:=Qc h
   refine Qa hC [.T,.n 9,.o (.row (Qh t)),.v .no [] (.agg (Qh t)),.n 2,.O 11 (.var (Qh t)),.n 2,.K [2,9,10,11] [2,11]] rfl ⟨⟨⟨⟨tt_,p⟩,(QJ G)⟩,rfl⟩,rfl⟩ ?_
   refine AK.draw2 Qs hC mixed [.N,.a .no (some ([],.agg (Qe f))) false,.N,.a (.c false [.d,.d] (.I W)) none false,.N,.N,.a (.ln t.Ins.length) none false,.N,.N,.a (.ln t.Outs.length) none false,.N,.N,.N,.N,.m .s] [] [] [2,9,10] [2] rfl rfl rfl ⟨⟨⟨⟨tt_,rfl⟩,(Qqi _ _ H)⟩,Qg⟩,Qg⟩ rfl (by kernel_rfl) rfl rfl rfl ?_
   refine tg_ hC [.n 7,.K [2,9,10] [2]] rfl ?_
   cases h
   exact QZ rfl rfl
  refine Qa hC [.F,.n 2,.K [9] []] rfl ⟨tt_,p⟩ ?_
  cases h
  exact Q1 rfl (an_ rfl rfl)
 replace h:Qrn u=some r:=h
 rintro e σ ⟨rfl,rfl⟩
 refine tg_ hC [.n 10] rfl ?_
 cases h
 exact d1_ rfl rfl tt_
def Qro (a:Qk)(b:QA):Option (Qk×QA):=
 some (a,b)
theorem QuH (a b){r}(h:Qro a b=some r):Qd prog 163 [.agg (Qe a),.agg (Qh b)] [] (Gives (.clo (.func 213) [] [.loc 3 0 0,.loc 2 0 0]) [(2,.var (Qe r.1)),(3,.var (Qh r.2))]):=by
 refine Qd.walk 6 func163 rfl rfl rfl fun C hC=>?_
 refine tg_ hC [.n 14] rfl ?_
 cases h
 exact d1_ rfl rfl ⟨rfl,rfl,tt_⟩
def Qg2 (a:Int)(b:Qa9):Option Bool:=
 bif (decide (0≤a))then
 (idx b.sizes b.k).bind fun c=>
 some (decide (a<c))
 else
 some false
def Qjz (a:Bool):Option Bool:=
 some a
def Qdz (a:Qa9)(b:Int):Option Bool:=
 (Qg2 b a).bind (fun c=>Qjz c)
theorem QnS (f g){r}(h:Qdz f g=some r):Qd prog 237 [.agg (Q3 f),.I g] [] (Gives (.b r) []):=by
 refine Qd.walk 17 func237 rfl rfl rfl fun C hC=>?_
 refine tg_ hC [.n 7] rfl ?_
 obtain⟨c,d,h⟩:=Qc h
 replace h:Qjz c=some r:=h
 refine AK.meetX (fun σ=>σ=⟨[(4,.b c)],[]⟩) ?_ ?_
 ·replace h:=d
  refine tg_ hC [.n 4] rfl ?_
  rcases Qt h with⟨a,h⟩|⟨a,h⟩
  ·obtain⟨i,e,h⟩:=Qc h
   refine Qa hC [.S 7 (.b true),.n 5,.o (.row (Qb i)),.n 5,.K [4] []] rfl ⟨(tc_ a),(QJ e)⟩ ?_
   cases h
   exact AK.met rfl
  refine Qa hC [.S 7 (.b false),.n 11,.K [4] []] rfl (tc_ a) ?_
  cases h
  exact AK.met rfl
 rintro σ rfl
 replace h:Qjz c=some r:=h
 refine tg_ hC [.n 2] rfl ?_
 cases h
 exact d1_ rfl rfl tt_
def Qdd (a:Qa9):Option QO:=
 (idx a.all a.k).bind fun b=>
 some b
theorem QhH (c){r}(h:Qdd c=some r):Qd prog 238 [.agg (Q3 c)] [] (Gives (.agg (QF r)) []):=by
 refine Qd.walk 9 func238 rfl rfl rfl fun C hC=>?_
 obtain⟨a,b,h⟩:=Qc h
 refine Qa hC [.n 12,.o (.row (QF a)),.v .no [] (.agg (QF a)),.n 1,.O 2 (.var (QF a)),.n 3,.K [2] [2]] rfl ⟨⟨⟨tt_,(QJ b)⟩,rfl⟩,rfl⟩ ?_
 cases h
 exact AK.done (ex_ [_] (an_ (an_ (ex_ _ (ex_ _ (an_ rfl (an_ rfl (Or.inl (an_ (Qs.ag rfl) (an_ (Qs.sz rfl) rfl))))))) tt_) (gives tt_)))
def QkJ (b:(Bool×Qa9))(c:Int):Option Bool:=
 bif (!b.1)then
 some true
 else
 (Qdz b.2 c).bind fun a=>
 some (!a)
def Qfb (c:(Bool×Qa9))(d:Int)(e:Bool):Option (Int×Bool):=
 bif e then
 some (0,false)
 else
 (Qdd c.2).bind fun a=>
 bif (a.Kind==1)then
 (Qdd c.2).bind fun b=>
 some ((w64 (b.Lo+d)),true)
 else
 some (d,true)
def Qfu (c:(List QO))(d:Int)(a:Int):Option (Int×Bool):=
 (Qf3 c d).bind fun b=>
 (QkJ b a).bind (fun e=>Qfb b a e)
theorem QuI (x y i){r}(h:Qfu x y i=some r):Qd prog 218 [.sl 7 (x.map QF),.I y,.I i] [] (Gives (.tup [.I r.1,.b r.2]) []):=by
 refine Qd.walk 36 func218 rfl rfl rfl fun C hC=>?_
 obtain⟨g,s,h⟩:=Qc h
 refine Qa hC [.n 10,.o (.c false [.d,.d] (.tup [.agg (Q3 g.2),.b g.1])),.n 5,.O 8 (.var (Q3 g.2)),.n 6] rfl ⟨⟨tt_,(Qn3 _ _ s)⟩,rfl⟩ ?_
 obtain⟨t,j,h⟩:=Qc h
 replace h:Qfb g i t=some r:=h
 refine AK.meetX (fun σ=>σ=⟨[(2,.I i),(8,.loc 8 0 0),(16,.b t)],[(8,.var (Q3 g.2))]⟩) ?_ ?_
 ·replace h:=j
  refine tg_ hC [.n 4] rfl ?_
  rcases Qt h with⟨a,h⟩|⟨a,h⟩
  ·refine Qa hC [.S 19 (.b true),.n 7,.K [2,8,16] [8]] rfl (tc_ a) ?_
   cases h
   exact AK.met rfl
  obtain⟨u,k,h⟩:=Qc h
  refine Qa hC [.S 19 (.b false),.v .no [] (.agg (Q3 g.2)),.n 1,.o (.c false [.d,.d] (.b u)),.n 4,.K [2,8,16] [8]] rfl ⟨⟨(tc_ a),rfl⟩,(QnS _ _ k)⟩ ?_
  cases h
  exact AK.met rfl
 rintro σ rfl
 replace h:Qfb g i t=some r:=h
 refine tg_ hC [.n 1] rfl ?_
 rcases Qt h with⟨e,h⟩|⟨e,h⟩
 ·refine Qa hC [.T,.n 9] rfl ⟨tt_,e⟩ ?_
  cases h
  exact d2_ rfl rfl rfl tt_
 obtain⟨l,m,h⟩:=Qc h
 refine Qa hC [.F,.n 2,.v .no [] (.agg (Q3 g.2)),.o (.c false [.d] (.agg (QF l))),.o (.any (.I l.Kind) none),.n 4] rfl ⟨⟨⟨⟨tt_,e⟩,rfl⟩,(QhH _ m)⟩,(fun σ w z _=>Stp.field rfl rfl (QH hC.n rfl) (w _ _ rfl) QDj rfl)⟩ ?_
 rcases Qt h with⟨f,h⟩|⟨f,h⟩
 ·obtain⟨p,q,h⟩:=Qc h
  refine Qa hC [.T,.n 2,.v .no [] (.agg (Q3 g.2)),.o (.c false [.d] (.agg (QF p))),.o (.any (.I p.Lo) none),.n 9] rfl ⟨⟨⟨⟨tt_,f⟩,rfl⟩,(QhH _ q)⟩,(fun σ w z _=>Stp.field rfl rfl (QH hC.n rfl) (w _ _ rfl) QDk rfl)⟩ ?_
  cases h
  exact d2_ rfl rfl rfl tt_
 refine Qa hC [.F,.n 11] rfl ⟨tt_,f⟩ ?_
 cases h
 exact d2_ rfl rfl rfl tt_
def Qhb (d:QA)(b:(List Int))(h:Qk)(a:Int)(c:(List Int)):Option ((Int×(List Int))⊕(Unit⊕(List Int))):=
 bif (decide (a<(d.Vars.length:Int)))then
 (idx d.Vars a).bind fun f=>
 (idx b a).bind fun g=>
 (Qfu h.Colours f.Colour g).bind fun e=>
 bif (!e.2)then
 some (.inr (.inl ()))
 else
 (idx c a).bind fun i=>
 some (.inl ((w64 (a+1)),(c.set a.toNat e.1)))
 else
 some (.inr (.inr c))
def QtB : Option ((List Int)×Int):=
 some (([]:List Int),1)
def QtC (a:(List Int)):Option ((List Int)×Int):=
 some (a,0)
def QfT (d:Qk)(a:Int)(c:(List Int)):Option ((List Int)×Int):=
 bif ((decide (a<0))||(decide ((d.Tasks.length:Int)≤a)))then
 some (([]:List Int),3)
 else
 (idx d.Tasks a).bind fun b=>
 bif ((c.length:Int) != (b.Vars.length:Int))then
 some (([]:List Int),1)
 else
 (chk (decide (0≤(b.Vars.length:Int))&&decide ((b.Vars.length:Int)≤(b.Vars.length:Int))&&decide ((b.Vars.length:Int)≤4294967296))).bind fun _=>
 (QE (fun st=>Qhb b c d st.1 st.2) (0,(List.replicate (b.Vars.length:Int).toNat (0:Int)))).bind (Sum.elim (fun q=>QtB) (fun q=>QtC q))
theorem QoS (s f g){r}(h:QfT s f g=some r):Qd prog 172 [.agg (Qe s),.I f,.sl 1 (g.map Qb)] [] (Gives (.tup [.sl 1 (r.1.map Qb),.I r.2]) []):=by
 refine Qd.walk 64 func172 rfl rfl rfl fun C hC=>?_
 refine tg_ hC [.n 9] rfl ?_
 refine AK.meetX (fun σ=>σ=⟨[(1,.I f),(2,.sl 1 (g.map Qb)),(3,.loc 3 0 0),(22,.b ((decide (f<0))||(decide ((s.Tasks.length:Int)≤f))))],[(3,.var (Qe s))]⟩) ?_ ?_
 ·refine tg_ hC [.n 4] rfl ?_
  rcases Q0 (decide (f<0))with j | j
  ·refine Qa hC [.S 16 (.b true),.n 7,.S 22 (.b ((decide (f<0))||(decide ((s.Tasks.length:Int)≤f)))),.K [1,2,3,22] [3]] rfl ⟨(tc_ j),(congrArg V.b (orT j rfl))⟩ ?_
   exact AK.met rfl
  refine Qa hC [.S 16 (.b false),.n 3,.o (.ln s.Tasks.length),.n 3,.S 22 (.b ((decide (f<0))||(decide ((s.Tasks.length:Int)≤f)))),.K [1,2,3,22] [3]] rfl ⟨⟨(tc_ j),Qg⟩,(congrArg V.b (orF j rfl))⟩ ?_
  exact AK.met rfl
 rintro σ rfl
 refine tg_ hC [.n 1] rfl ?_
 rcases Qt h with⟨k,h⟩|⟨k,h⟩
 ·refine Qa hC [.T,.n 8,.denil 6 [some 1]] rfl ⟨tt_,k⟩ ?_
  cases h
  exact d2_ rfl rfl rfl tt_
 obtain⟨i,x,h⟩:=Qc h
 refine Qa hC [.F,.n 7,.o (.row (Qh i)),.n 9,.o (.ln g.length),.n 1,.o (.ln i.Vars.length),.n 3] rfl ⟨⟨⟨⟨tt_,k⟩,(QJ x)⟩,Qg⟩,Qg⟩ ?_
 rcases Qt h with⟨l,h⟩|⟨l,h⟩
 ·refine Qa hC [.T,.n 8,.denil 6 [some 1]] rfl ⟨tt_,l⟩ ?_
  cases h
  exact d2_ rfl rfl rfl tt_
 obtain⟨y,h⟩:=QaE h
 refine Qa hC [.F,.n 5,.o (.ln i.Vars.length),.o (.rows ((List.replicate (i.Vars.length:Int).toNat (0:Int)).map Qb)),.S 36 (.own 36 (List.replicate (i.Vars.length:Int).toNat (0:Int)).length),.n 7,.o (.ln i.Vars.length),.n 4,.K [2,3,9,37,38,39] [3,36]] rfl ⟨⟨⟨⟨⟨tt_,l⟩,Qg⟩,⟨y,Qoy rfl⟩⟩,(by simp)⟩,Qg⟩ ?_
 obtain⟨J,z,h⟩:=Qc h
 refine AK.loop (body:=(fun st=>Qhb i g s st.1 st.2)) (fun st σ=>σ=⟨[(2,.sl 1 (g.map Qb)),(3,.loc 3 0 0),(9,.own 36 st.2.length),(37,.sl 2 (i.Vars.map QL)),(38,.I (i.Vars.length:Int)),(39,.I st.1)],[(3,.var (Qe s)),(36,.arr 1 (st.2.map Qb))]⟩) (Sum.elim (fun q e σ=>e=.ret∧σ=⟨[(6,.lit (.slice none 0 0)),(7,.I 1)],[]⟩) (fun q e σ=>e=.exit 0∧σ=⟨[(9,.own 36 q.length)],[(36,.arr 1 (q.map Qb))]⟩)) z rfl ?_ ?_
 ·rintro ⟨A,B⟩ o σ rfl h
  refine tg_ hC [.n 6] rfl ?_
  rcases Qt h with⟨m,h⟩|⟨m,h⟩
  ·obtain⟨w,D,h⟩:=Qc h
   obtain⟨L,E,h⟩:=Qc h
   obtain⟨t,G,h⟩:=Qc h
   refine Qa hC [.T,.n 7,.o (.row (QL w)),.v .no [] (.agg (QL w)),.n 3,.O 11 (.var (QL w)),.n 3,.K [2,3,9,10,11,37,38,39] [3,11,36]] rfl ⟨⟨⟨⟨tt_,m⟩,(QJ D)⟩,rfl⟩,rfl⟩ ?_
   refine AK.draw2 Qs hC mixed [.N,.N,.N,.N,.N,.N,.a (.row (Qb L)) none false,.N,.a (.c false [.d,.d,.d] (.tup [.I t.1,.b t.2])) none false,.N,.N,.N,.N,.N] [] [] [2,3,9,10,12,13,37,38,39] [3,36] rfl rfl rfl ⟨⟨tt_,(QJ E)⟩,(QuI _ _ _ G)⟩ rfl (by kernel_rfl) rfl rfl rfl ?_
   refine tg_ hC [.n 8] rfl ?_
   rcases Qt h with⟨p,h⟩|⟨p,h⟩
   ·refine Qa hC [.T,.n 10,.K [6,7] []] rfl ⟨tt_,p⟩ ?_
    cases h
    exact Qal rfl (an_ rfl rfl)
   obtain⟨M,u,h⟩:=Qc h
   refine Qa hC [.F,.n 7,.st (Qb M) ((B.set A.toNat t.1).map Qb),.n 7,.S 9 (.own 36 (B.set A.toNat t.1).length),.K [2,3,9,37,38,39] [3,36]] rfl ⟨⟨⟨⟨tt_,p⟩,(Qbx u rfl)⟩,⟨(QaJ (Qca u).2),Qe7 rfl⟩⟩,(congrArg (fun n=>V.own 36 n) (by simp))⟩ ?_
   cases h
   exact QZ rfl rfl
  refine Qa hC [.F,.n 2,.K [9] [36]] rfl ⟨tt_,m⟩ ?_
  cases h
  exact Q1 rfl (an_ rfl rfl)
 rcases J with(_ | H)
 ·replace h:QtB=some r:=h
  rintro e σ ⟨rfl,rfl⟩
  refine tg_ hC [.n 2,.denil 6 [some 1]] rfl ?_
  cases h
  exact d2_ rfl rfl rfl tt_
 replace h:QtC H=some r:=h
 rintro e σ ⟨rfl,rfl⟩
 refine Qa hC [.n 10,.frz 36 (H.map Qb) [6] []] rfl ⟨tt_,⟨tt_,(Qci Qg)⟩⟩ ?_
 cases h
 exact d2_ rfl rfl rfl tt_
def Qcl (c:Qk)(f:QMk)(a:Int)(b:(List Int)):Option (Int×QP):=
 (QfT c a b).bind fun d=>
 bif (d.2 != 0)then
 some (d.2,(QP.mk (Qk.mk ([]:(List QO)) ([]:(List QW)) ([]:(List QA)) 0 0) ([]:QMk) (QA.mk (⟨#[]⟩:ByteArray) ([]:(List QaA)) (Ql.mk 0 0 ([]:(List Ql))) 0 0 ([]:(List QX)) ([]:(List QX)) ([]:(List Int)) 0 (0,0,0)) ([]:(List Int))))
 else
 (idx c.Tasks a).bind fun e=>
 some (0,(QP.mk c f e d.1))
theorem Qrp (i k b e){r}(h:Qcl i k b e=some r):Qd prog 164 [.agg (Qe i),.sl 1 (k.map Qm),.I b,.sl 1 (e.map Qb)] [] (Gives (.tup [.agg (Qv r.2),.I r.1]) []):=by
 refine Qd.walk 32 func164 rfl rfl rfl fun C hC=>?_
 obtain⟨l,p,h⟩:=Qc h
 refine Qa hC [.n 9,.v .no [] (.agg (Qe i)),.n 2,.o (.c false [.d,.d,.d] (.tup [.sl 1 (l.1.map Qb),.I l.2])),.n 14] rfl ⟨⟨tt_,rfl⟩,(QoS _ _ _ p)⟩ ?_
 rcases Qt h with⟨f,h⟩|⟨f,h⟩
 ·refine Qa hC [.T,.n 2,.v .no [some 7,some 3,some 14,none,none,some 1,none,some 2,none,none,some 3,none,none,some 4,some 4,some 1,none,none,none,none,some 1] (.agg (Qv (QP.mk (Qk.mk ([]:(List QO)) ([]:(List QW)) ([]:(List QA)) 0 0) ([]:QMk) (QA.mk (⟨#[]⟩:ByteArray) ([]:(List QaA)) (Ql.mk 0 0 ([]:(List Ql))) 0 0 ([]:(List QX)) ([]:(List QX)) ([]:(List Int)) 0 (0,0,0)) ([]:(List Int))))),.n 2,.O 8 (.var (Qv (QP.mk (Qk.mk ([]:(List QO)) ([]:(List QW)) ([]:(List QA)) 0 0) ([]:QMk) (QA.mk (⟨#[]⟩:ByteArray) ([]:(List QaA)) (Ql.mk 0 0 ([]:(List Ql))) 0 0 ([]:(List QX)) ([]:(List QX)) ([]:(List Int)) 0 (0,0,0)) ([]:(List Int))))),.n 5,.K [8,9] [8]] rfl ⟨⟨⟨tt_,f⟩,rfl⟩,rfl⟩ ?_
  cases h
  exact AK.done (ex_ [_,_] (an_ (an_ (ex_ _ (ex_ _ (an_ rfl (an_ rfl (Or.inl (an_ (Qs.ag rfl) (an_ (Qs.sz rfl) rfl))))))) (an_ rfl tt_)) (gives tt_)))
 obtain⟨g,j,h⟩:=Qc h
 refine Qa hC [.F,.n 3,.K [1,2,4,8,9,10] [4,8]] rfl ⟨tt_,f⟩ ?_
 refine AK.draw2 Qs hC mixed [.a .no (some ([],.agg (Qe i))) false,.N,.N,.N,.N,.a (.row (Qh g)) none false,.a .no (some ([],.agg (Qh g))) false,.N,.a .no (some ([],.agg (Qv (QP.mk i k g l.1)))) false,.m .s,.m .s] [] [] [8,9] [8] rfl rfl rfl ⟨⟨⟨⟨tt_,rfl⟩,(QJ j)⟩,rfl⟩,rfl⟩ rfl (by kernel_rfl) rfl rfl rfl ?_
 refine Qa hC [.O 8 (.var (Qv (QP.mk i k g l.1))),.n 2,.K [8,9] [8]] rfl ⟨tt_,rfl⟩ ?_
 cases h
 exact AK.done (ex_ [_,_] (an_ (an_ (ex_ _ (ex_ _ (an_ rfl (an_ rfl (Or.inl (an_ (Qs.ag rfl) (an_ (Qs.sz rfl) rfl))))))) (an_ rfl tt_)) (gives tt_)))
def QcU (b:(List Int))(a:Int)(c:Bool):Option ((List Int)⊕((List Int)⊕((List Int)⊕((List Int)⊕(List Int))))):=
 bif c then
 some (.inr (.inr (.inl b)))
 else
 bif (a==5)then
 some (.inr (.inr (.inr (.inl b))))
 else
 some (.inr (.inr (.inr (.inr b))))
def Qdb (b:(List Int))(a:Int):Option ((List Int)⊕((List Int)⊕((List Int)⊕((List Int)⊕(List Int))))):=
 bif (a==1)then
 some (.inl b)
 else
 bif (a==2)then
 some (.inr (.inl b))
 else
 bif (a==3)then
 QcU b a (a==3)
 else
 QcU b a (a==4)
theorem Qfc (j a){r}(h:Qdb j a=some r):Qd prog 246 [.sl 1 (j.map Qb),.I a] [] ((Sum.elim (fun q=>(Gives (.clo (.func 250) [.sl 1 (q.map Qb)] []) [])) (Sum.elim (fun q=>(Gives (.clo (.func 251) [.sl 1 (q.map Qb)] []) [])) (Sum.elim (fun q=>(Gives (.clo (.func 252) [.sl 1 (q.map Qb)] []) [])) (Sum.elim (fun q=>(Gives (.clo (.func 253) [.sl 1 (q.map Qb)] []) [])) (fun q=>(Gives (.clo (.func 254) [.sl 1 (q.map Qb)] []) [])))))) r):=by
 refine Qd.walk 25 func246 rfl rfl rfl fun C hC=>?_
 refine tg_ hC [.n 18] rfl ?_
 refine bg_ h (fun f h=>Qa hC [.T,.n 10,.K [4] []] rfl ⟨tt_,f⟩ ?_) fun f h=>Qa hC [.F,.n 6] rfl ⟨tt_,f⟩ ?_
 ·cases h
  exact AK.done (ex_ [_] (an_ (an_ rfl tt_) (gives tt_)))
 refine bg_ h (fun g h=>Qa hC [.T,.n 10,.K [4] []] rfl ⟨tt_,g⟩ ?_) fun g h=>Qa hC [.F] rfl ⟨tt_,g⟩ ?_
 ·cases h
  exact AK.done (ex_ [_] (an_ (an_ rfl tt_) (gives tt_)))
 refine AK.meet (fun σ=>∃i:Bool,σ=⟨[(0,.sl 1 (j.map Qb)),(5,.I a),(14,.b i)],[]⟩∧QcU j a i=some r) ?_ ?_
 ·refine tg_ hC [.n 6] rfl ?_
  refine bg_ h (fun c h=>Qa hC [.T,.n 1,.K [0,5,14] []] rfl ⟨tt_,c⟩ ?_) fun c h=>Qa hC [.F,.n 4,.K [0,5,14] []] rfl ⟨tt_,c⟩ ?_
  ·exact AK.met (ex_ _ (an_ rfl h))
  exact AK.met (ex_ _ (an_ rfl h))
 rintro σ ⟨i,rfl,h⟩
 refine bg_ h (fun d h=>Qa hC [.T,.n 10,.K [4] []] rfl ⟨tt_,d⟩ ?_) fun d h=>Qa hC [.F,.n 6] rfl ⟨tt_,d⟩ ?_
 ·cases h
  exact AK.done (ex_ [_] (an_ (an_ rfl tt_) (gives tt_)))
 refine bg_ h (fun e h=>Qa hC [.T,.n 10,.K [4] []] rfl ⟨tt_,e⟩ ?_) fun e h=>Qa hC [.F,.n 11,.K [4] []] rfl ⟨tt_,e⟩ ?_
 ·cases h
  exact AK.done (ex_ [_] (an_ (an_ rfl tt_) (gives tt_)))
 cases h
 exact AK.done (ex_ [_] (an_ (an_ rfl tt_) (gives tt_)))
def Qpf (b:(List Int))(a:Ql):Option (Int×Int):=
 some (a.Num,0)
theorem Qtf (a b){r}(h:Qpf a b=some r):Qd prog 250 [.sl 1 (a.map Qb),.agg (Qp b)] [] (Gives (.tup [.I r.1,.I r.2]) []):=by
 refine Qd.walk 8 func250 rfl rfl rfl fun C hC=>?_
 refine tg_ hC [.n 16] rfl ?_
 cases h
 exact d2_ rfl rfl rfl tt_
def QjA (a:(List Int))(b:Ql):Option (Int×Int):=
 (idx a b.Num).bind fun c=>
 some (c,0)
theorem QrV (b c){r}(h:QjA b c=some r):Qd prog 251 [.sl 1 (b.map Qb),.agg (Qp c)] [] (Gives (.tup [.I r.1,.I r.2]) []):=by
 refine Qd.walk 11 func251 rfl rfl rfl fun C hC=>?_
 obtain⟨d,a,h⟩:=Qc h
 refine Qa hC [.n 12,.o (.row (Qb d)),.n 6] rfl ⟨tt_,(QJ a)⟩ ?_
 cases h
 exact d2_ rfl rfl rfl tt_
def Qpz (b:Int):Option (Int×Int):=
 (QcR 2 0 b).bind fun a=>
 some (a.1,a.2)
theorem Qy2 (b){r}(h:Qpz b=some r):Qd prog 256 [.I b] [] (Gives (.tup [.I r.1,.I r.2]) []):=by
 refine Qd.walk 8 func256 rfl rfl rfl fun C hC=>?_
 obtain⟨e,a,h⟩:=Qc h
 refine Qa hC [.n 9,.o (.c false [.d,.d,.d] (.tup [.I e.1,.I e.2])),.n 7] rfl ⟨tt_,(Qih _ _ _ a)⟩ ?_
 cases h
 exact d2_ rfl rfl rfl tt_
def Qh9 (rec_expr_env_eval:(List Int)→Ql→Option (Int×Int))(e:(List Int))(d:Ql):Option (Int×Int):=
 (idx d.Kids 0).bind fun f=>
 (rec_expr_env_eval e f).bind fun c=>
 bif (c.2 != 0)then
 some (0,c.2)
 else
 bif (d.Kind==3)then
 (Qpz c.1).bind fun a=>
 some (a.1,a.2)
 else
 (QcR 6 c.1 0).bind fun b=>
 some (b.1,b.2)
theorem Qtg (rec_expr_env_eval:(List Int)→Ql→Option (Int×Int))(hrec_expr_env_eval:∀(e:(List Int)) (f:Ql) {r:(Int×Int)},rec_expr_env_eval e f=some r→Qd prog 234 [.sl 1 (e.map Qb),.agg (Qp f)] [] (Gives (.tup [.I r.1,.I r.2]) []))(e:(List Int))(f:Ql){r:(Int×Int)}(h:Qh9 rec_expr_env_eval e f=some r):Qd prog 252 [.sl 1 (e.map Qb),.agg (Qp f)] [] (Gives (.tup [.I r.1,.I r.2]) []):=by
 refine Qd.walk 33 func252 rfl rfl rfl fun C hC=>?_
 obtain⟨p,l,h⟩:=Qc h
 obtain⟨q,m,h⟩:=Qc h
 refine Qa hC [.n 12,.o (.row (Qp p)),.v .no [] (.agg (Qp p)),.o (.c false [.d,.d] (.tup [.I q.1,.I q.2])),.n 16] rfl ⟨⟨⟨tt_,(QeX l)⟩,rfl⟩,(hrec_expr_env_eval _ _ m)⟩ ?_
 refine bg_ h (fun b h=>Qa hC [.T,.n 10,.K [4,5] []] rfl ⟨tt_,b⟩ ?_) fun b h=>Qa hC [.F,.n 8] rfl ⟨tt_,b⟩ ?_
 ·cases h
  exact d2_ rfl rfl rfl tt_
 rcases Qt h with⟨a,h⟩|⟨a,h⟩
 ·obtain⟨g,i,h⟩:=Qc h
  refine Qa hC [.T,.n 3,.o (.c false [.d] (.tup [.I g.1,.I g.2])),.n 9] rfl ⟨⟨tt_,a⟩,(Qy2 _ i)⟩ ?_
  cases h
  exact d2_ rfl rfl rfl tt_
 obtain⟨j,k,h⟩:=Qc h
 refine Qa hC [.F,.n 6,.o (.c false [.d,.d,.d] (.tup [.I j.1,.I j.2])),.n 7] rfl ⟨⟨tt_,a⟩,(Qih _ _ _ k)⟩ ?_
 cases h
 exact d2_ rfl rfl rfl tt_
def Qed (f:(Int×Int))(g:Ql)(rec_expr_env_eval:(List Int)→Ql→Option (Int×Int))(h:(List Int))(d:Bool):Option (Int×Int):=
 bif d then
 (QcR 7 f.1 0).bind fun b=>
 some (b.1,b.2)
 else
 (idx g.Kids 1).bind fun e=>
 (rec_expr_env_eval h e).bind fun a=>
 bif (a.2 != 0)then
 some (0,a.2)
 else
 (QcR g.Num f.1 a.1).bind fun c=>
 some (c.1,c.2)
def Qn8 (rec_expr_env_eval:(List Int)→Ql→Option (Int×Int))(c:(List Int))(b:Ql):Option (Int×Int):=
 (idx b.Kids 0).bind fun d=>
 (rec_expr_env_eval c d).bind fun a=>
 bif (a.2 != 0)then
 some (0,a.2)
 else
 bif ((b.Num==10)&&(a.1==0))then
 Qed a b rec_expr_env_eval c ((b.Num==10)&&(a.1==0))
 else
 bif (b.Num==11)then
 Qed a b rec_expr_env_eval c (a.1 != 0)
 else
 Qed a b rec_expr_env_eval c false
theorem QvO (rec_expr_env_eval:(List Int)→Ql→Option (Int×Int))(hrec_expr_env_eval:∀(k:(List Int)) (e:Ql) {r:(Int×Int)},rec_expr_env_eval k e=some r→Qd prog 234 [.sl 1 (k.map Qb),.agg (Qp e)] [] (Gives (.tup [.I r.1,.I r.2]) []))(k:(List Int))(e:Ql){r:(Int×Int)}(h:Qn8 rec_expr_env_eval k e=some r):Qd prog 253 [.sl 1 (k.map Qb),.agg (Qp e)] [] (Gives (.tup [.I r.1,.I r.2]) []):=by
 refine Qd.walk 60 func253 rfl rfl rfl fun C hC=>?_
 obtain⟨D,A,h⟩:=Qc h
 obtain⟨l,B,h⟩:=Qc h
 refine Qa hC [.n 12,.o (.row (Qp D)),.v .no [] (.agg (Qp D)),.o (.c false [.d,.d] (.tup [.I l.1,.I l.2])),.n 16] rfl ⟨⟨⟨tt_,(QeX A)⟩,rfl⟩,(hrec_expr_env_eval _ _ B)⟩ ?_
 refine bg_ h (fun m h=>Qa hC [.T,.n 10,.K [4,5] []] rfl ⟨tt_,m⟩ ?_) fun m h=>Qa hC [.F] rfl ⟨tt_,m⟩ ?_
 ·cases h
  exact d2_ rfl rfl rfl tt_
 refine AK.meet (fun σ=>∃p:Bool,σ=⟨[(0,.sl 1 (k.map Qb)),(3,.loc 3 0 0),(6,.I l.1),(22,.b p)],[(3,.var (Qp e))]⟩∧Qed l e rec_expr_env_eval k p=some r) ?_ ?_
 ·refine tg_ hC [.n 1] rfl ?_
  refine AK.meetX (fun σ=>σ=⟨[(0,.sl 1 (k.map Qb)),(3,.loc 3 0 0),(6,.I l.1),(22,.b ((e.Num==10)&&(l.1==0)))],[(3,.var (Qp e))]⟩) ?_ ?_
  ·refine tg_ hC [.n 5] rfl ?_
   rcases Q0 (e.Num==10)with a | a
   ·refine Qa hC [.S 26 (.b true),.n 5,.S 22 (.b ((e.Num==10)&&(l.1==0))),.K [0,3,6,22] [3]] rfl ⟨(tc_ a),(congrArg V.b (Qcy a rfl))⟩ ?_
    exact AK.met rfl
   refine Qa hC [.S 26 (.b false),.n 5,.S 22 (.b ((e.Num==10)&&(l.1==0))),.K [0,3,6,22] [3]] rfl ⟨(tc_ a),(congrArg V.b (QeJ a rfl))⟩ ?_
   exact AK.met rfl
  rintro σ rfl
  refine tg_ hC [.n 1] rfl ?_
  refine bg_ h (fun f h=>Qa hC [.T,.n 1,.K [0,3,6,22] [3]] rfl ⟨tt_,f⟩ ?_) fun f h=>Qa hC [.F,.n 5] rfl ⟨tt_,f⟩ ?_
  ·exact AK.met (ex_ _ (an_ rfl h))
  refine bg_ h (fun g h=>Qa hC [.S 33 (.b true),.n 5,.K [0,3,6,22] [3]] rfl (tc_ g) ?_) fun g h=>Qa hC [.S 33 (.b false),.n 5,.K [0,3,6,22] [3]] rfl (tc_ g) ?_
  ·exact AK.met (ex_ _ (an_ rfl h))
  exact AK.met (ex_ _ (an_ rfl h))
 rintro σ ⟨p,rfl,h⟩
 rcases Qt h with⟨i,h⟩|⟨i,h⟩
 ·obtain⟨q,s,h⟩:=Qc h
  refine Qa hC [.T,.n 3,.o (.c false [.d,.d,.d] (.tup [.I q.1,.I q.2])),.n 9] rfl ⟨⟨tt_,i⟩,(Qih _ _ _ s)⟩ ?_
  cases h
  exact d2_ rfl rfl rfl tt_
 obtain⟨t,u,h⟩:=Qc h
 obtain⟨w,x,h⟩:=Qc h
 refine Qa hC [.F,.n 8,.o (.row (Qp t)),.v .no [] (.agg (Qp t)),.o (.c false [.d,.d] (.tup [.I w.1,.I w.2])),.n 14] rfl ⟨⟨⟨⟨tt_,i⟩,(QeX u)⟩,rfl⟩,(hrec_expr_env_eval _ _ x)⟩ ?_
 rcases Qt h with⟨j,h⟩|⟨j,h⟩
 ·refine Qa hC [.T,.n 9] rfl ⟨tt_,j⟩ ?_
  cases h
  exact d2_ rfl rfl rfl tt_
 obtain⟨y,z,h⟩:=Qc h
 refine Qa hC [.F,.n 8,.o (.c false [.d,.d,.d] (.tup [.I y.1,.I y.2])),.n 7] rfl ⟨⟨tt_,j⟩,(Qih _ _ _ z)⟩ ?_
 cases h
 exact d2_ rfl rfl rfl tt_
def QlT (rec_expr_env_eval:(List Int)→Ql→Option (Int×Int))(c:(List Int))(d:Ql):Option (Int×Int):=
 (idx d.Kids 0).bind fun h=>
 (rec_expr_env_eval c h).bind fun e=>
 bif (e.2 != 0)then
 some (0,e.2)
 else
 bif (e.1 != 0)then
 (idx d.Kids 1).bind fun f=>
 (rec_expr_env_eval c f).bind fun a=>
 some (a.1,a.2)
 else
 (idx d.Kids 2).bind fun g=>
 (rec_expr_env_eval c g).bind fun b=>
 some (b.1,b.2)
theorem Qth (rec_expr_env_eval:(List Int)→Ql→Option (Int×Int))(hrec_expr_env_eval:∀(e:(List Int)) (f:Ql) {r:(Int×Int)},rec_expr_env_eval e f=some r→Qd prog 234 [.sl 1 (e.map Qb),.agg (Qp f)] [] (Gives (.tup [.I r.1,.I r.2]) []))(e:(List Int))(f:Ql){r:(Int×Int)}(h:QlT rec_expr_env_eval e f=some r):Qd prog 254 [.sl 1 (e.map Qb),.agg (Qp f)] [] (Gives (.tup [.I r.1,.I r.2]) []):=by
 refine Qd.walk 40 func254 rfl rfl rfl fun C hC=>?_
 obtain⟨u,s,h⟩:=Qc h
 obtain⟨w,t,h⟩:=Qc h
 refine Qa hC [.n 12,.o (.row (Qp u)),.v .no [] (.agg (Qp u)),.o (.c false [.d,.d] (.tup [.I w.1,.I w.2])),.n 16] rfl ⟨⟨⟨tt_,(QeX s)⟩,rfl⟩,(hrec_expr_env_eval _ _ t)⟩ ?_
 refine bg_ h (fun b h=>Qa hC [.T,.n 10,.K [4,5] []] rfl ⟨tt_,b⟩ ?_) fun b h=>Qa hC [.F,.n 7] rfl ⟨tt_,b⟩ ?_
 ·cases h
  exact d2_ rfl rfl rfl tt_
 rcases Qt h with⟨a,h⟩|⟨a,h⟩
 ·obtain⟨g,i,h⟩:=Qc h
  obtain⟨j,k,h⟩:=Qc h
  refine Qa hC [.T,.n 5,.o (.row (Qp g)),.v .no [] (.agg (Qp g)),.o (.c false [.d,.d] (.tup [.I j.1,.I j.2])),.n 9] rfl ⟨⟨⟨⟨tt_,a⟩,(QeX i)⟩,rfl⟩,(hrec_expr_env_eval _ _ k)⟩ ?_
  cases h
  exact d2_ rfl rfl rfl tt_
 obtain⟨l,m,h⟩:=Qc h
 obtain⟨p,q,h⟩:=Qc h
 refine Qa hC [.F,.n 8,.o (.row (Qp l)),.v .no [] (.agg (Qp l)),.o (.c false [.d,.d] (.tup [.I p.1,.I p.2])),.n 7] rfl ⟨⟨⟨⟨tt_,a⟩,(QeX m)⟩,rfl⟩,(hrec_expr_env_eval _ _ q)⟩ ?_
 cases h
 exact d2_ rfl rfl rfl tt_
def QoJ (b:Ql)(c:(List Int)):Option (Int×Int):=
 (Qpf c b).bind fun a=>
 some (a.1,a.2)
def Qht (b:Ql)(c:(List Int)):Option (Int×Int):=
 (QjA c b).bind fun a=>
 some (a.1,a.2)
def QdK (rec_expr_env_eval:(List Int)→Ql→Option (Int×Int))(c:Ql)(b:(List Int)):Option (Int×Int):=
 (Qh9 rec_expr_env_eval b c).bind fun a=>
 some (a.1,a.2)
def Qhu (rec_expr_env_eval:(List Int)→Ql→Option (Int×Int))(c:Ql)(b:(List Int)):Option (Int×Int):=
 (Qn8 rec_expr_env_eval b c).bind fun a=>
 some (a.1,a.2)
def Qhv (rec_expr_env_eval:(List Int)→Ql→Option (Int×Int))(c:Ql)(b:(List Int)):Option (Int×Int):=
 (QlT rec_expr_env_eval b c).bind fun a=>
 some (a.1,a.2)
def QlU (rec_expr_env_eval:(List Int)→Ql→Option (Int×Int))(b:(List Int))(a:Ql):Option (Int×Int):=
 (Qdb b a.Kind).bind fun c=>
 (Sum.elim (fun q=>QoJ a q) (Sum.elim (fun q=>Qht a q) (Sum.elim (fun q=>QdK rec_expr_env_eval a q) (Sum.elim (fun q=>Qhu rec_expr_env_eval a q) (fun q=>Qhv rec_expr_env_eval a q))))) c
def QaK : Nat→(List Int)→Ql→Option (Int×Int)
 | 0,_,_=>none
 | n+1,a,b=>QlU (QaK n) a b
def Qnx (b:(List Int))(a:Ql):Option (Int×Int):=QaK (SizeOf.sizeOf a) b a
theorem Qti (rec_expr_env_eval:(List Int)→Ql→Option (Int×Int))(hrec_expr_env_eval:∀(l:(List Int)) (b:Ql) {r:(Int×Int)},rec_expr_env_eval l b=some r→Qd prog 234 [.sl 1 (l.map Qb),.agg (Qp b)] [] (Gives (.tup [.I r.1,.I r.2]) []))(l:(List Int))(b:Ql){r:(Int×Int)}(h:QlU rec_expr_env_eval l b=some r):Qd prog 234 [.sl 1 (l.map Qb),.agg (Qp b)] [] (Gives (.tup [.I r.1,.I r.2]) []):=by
 refine Qd.walk 14 func234 rfl rfl rfl fun C hC=>?_
 refine tg_ hC [.n 8] rfl ?_
 obtain⟨D,e,h⟩:=Qc h
 rcases D with(A | (B | (i | (j | k))))
 ·replace h:QoJ b A=some r:=h
  obtain⟨o,p,h⟩:=Qc h
  refine tg_ hC [.K [0,3,4,5] [3]] rfl ?_
  refine AK.draw2 Qs hC mixed [.N,.N,.N,.a (.any (.clo (.func 250) [.sl 1 (A.map Qb)] []) none) none false,.a .no (some ([],.agg (Qp b))) false,.a (.c false [.d,.d] (.tup [.I o.1,.I o.2])) none false,.N,.N,.m .s,.m .s] [] [] [4,5] [] rfl rfl rfl ⟨⟨⟨tt_,(fun σ f g _=>Stp.callSame (md:=.cm (.fn) [] [] [] [.d,.d] [] (.clo (.func 250) [.sl 1 (A.map Qb)] []) []) Qs hC f g rfl ⟨tt_,(Qfc _ _ e)⟩)⟩,rfl⟩,(Qtf _ _ p)⟩ rfl (by kernel_rfl) rfl rfl rfl ?_
  refine tg_ hC [.n 2] rfl ?_
  cases h
  exact d2_ rfl rfl rfl tt_
 ·replace h:Qht b B=some r:=h
  obtain⟨q,t,h⟩:=Qc h
  refine tg_ hC [.K [0,3,4,5] [3]] rfl ?_
  refine AK.draw2 Qs hC mixed [.N,.N,.N,.a (.any (.clo (.func 251) [.sl 1 (B.map Qb)] []) none) none false,.a .no (some ([],.agg (Qp b))) false,.a (.c false [.d,.d] (.tup [.I q.1,.I q.2])) none false,.N,.N,.m .s,.m .s] [] [] [4,5] [] rfl rfl rfl ⟨⟨⟨tt_,(fun σ f g _=>Stp.callSame (md:=.cm (.fn) [] [] [] [.d,.d] [] (.clo (.func 251) [.sl 1 (B.map Qb)] []) []) Qs hC f g rfl ⟨tt_,(Qfc _ _ e)⟩)⟩,rfl⟩,(QrV _ _ t)⟩ rfl (by kernel_rfl) rfl rfl rfl ?_
  refine tg_ hC [.n 2] rfl ?_
  cases h
  exact d2_ rfl rfl rfl tt_
 ·replace h:QdK rec_expr_env_eval b i=some r:=h
  obtain⟨u,v,h⟩:=Qc h
  refine tg_ hC [.K [0,3,4,5] [3]] rfl ?_
  refine AK.draw2 Qs hC mixed [.N,.N,.N,.a (.any (.clo (.func 252) [.sl 1 (i.map Qb)] []) none) none false,.a .no (some ([],.agg (Qp b))) false,.a (.c false [.d,.d] (.tup [.I u.1,.I u.2])) none false,.N,.N,.m .s,.m .s] [] [] [4,5] [] rfl rfl rfl ⟨⟨⟨tt_,(fun σ f g _=>Stp.callSame (md:=.cm (.fn) [] [] [] [.d,.d] [] (.clo (.func 252) [.sl 1 (i.map Qb)] []) []) Qs hC f g rfl ⟨tt_,(Qfc _ _ e)⟩)⟩,rfl⟩,(Qtg rec_expr_env_eval hrec_expr_env_eval _ _ v)⟩ rfl (by kernel_rfl) rfl rfl rfl ?_
  refine tg_ hC [.n 2] rfl ?_
  cases h
  exact d2_ rfl rfl rfl tt_
 ·replace h:Qhu rec_expr_env_eval b j=some r:=h
  obtain⟨w,x,h⟩:=Qc h
  refine tg_ hC [.K [0,3,4,5] [3]] rfl ?_
  refine AK.draw2 Qs hC mixed [.N,.N,.N,.a (.any (.clo (.func 253) [.sl 1 (j.map Qb)] []) none) none false,.a .no (some ([],.agg (Qp b))) false,.a (.c false [.d,.d] (.tup [.I w.1,.I w.2])) none false,.N,.N,.m .s,.m .s] [] [] [4,5] [] rfl rfl rfl ⟨⟨⟨tt_,(fun σ f g _=>Stp.callSame (md:=.cm (.fn) [] [] [] [.d,.d] [] (.clo (.func 253) [.sl 1 (j.map Qb)] []) []) Qs hC f g rfl ⟨tt_,(Qfc _ _ e)⟩)⟩,rfl⟩,(QvO rec_expr_env_eval hrec_expr_env_eval _ _ x)⟩ rfl (by kernel_rfl) rfl rfl rfl ?_
  refine tg_ hC [.n 2] rfl ?_
  cases h
  exact d2_ rfl rfl rfl tt_
 replace h:Qhv rec_expr_env_eval b k=some r:=h
 obtain⟨y,z,h⟩:=Qc h
 refine tg_ hC [.K [0,3,4,5] [3]] rfl ?_
 refine AK.draw2 Qs hC mixed [.N,.N,.N,.a (.any (.clo (.func 254) [.sl 1 (k.map Qb)] []) none) none false,.a .no (some ([],.agg (Qp b))) false,.a (.c false [.d,.d] (.tup [.I y.1,.I y.2])) none false,.N,.N,.m .s,.m .s] [] [] [4,5] [] rfl rfl rfl ⟨⟨⟨tt_,(fun σ f g _=>Stp.callSame (md:=.cm (.fn) [] [] [] [.d,.d] [] (.clo (.func 254) [.sl 1 (k.map Qb)] []) []) Qs hC f g rfl ⟨tt_,(Qfc _ _ e)⟩)⟩,rfl⟩,(Qth rec_expr_env_eval hrec_expr_env_eval _ _ z)⟩ rfl (by kernel_rfl) rfl rfl rfl ?_
 refine tg_ hC [.n 2] rfl ?_
 cases h
 exact d2_ rfl rfl rfl tt_
theorem Qny : ∀(fuel:Nat) (a:(List Int)) (b:Ql) {r:(Int×Int)},QaK fuel a b=some r→Qd prog 234 [.sl 1 (a.map Qb),.agg (Qp b)] [] (Gives (.tup [.I r.1,.I r.2]) [])
 | 0,_,_,_,h=>by cases h
 | n+1,a,b,_,h=>Qti (QaK n) (fun _ _ _ h=>Qny n _ _ h) a b h
theorem QuJ (a b){r}(h:Qnx a b=some r):Qd prog 234 [.sl 1 (a.map Qb),.agg (Qp b)] [] (Gives (.tup [.I r.1,.I r.2]) []):=Qny _ a b h
def Ql6 (b:Ql)(a:(List Int)):Option (Int×Int):=
 (Qio b (a.length:Int)).bind fun d=>
 bif (!d)then
 some (0,1)
 else
 (Qnx a b).bind fun c=>
 some (c.1,c.2)
theorem Qst (f a){r}(h:Ql6 f a=some r):Qd prog 214 [.agg (Qp f),.sl 1 (a.map Qb)] [] (Gives (.tup [.I r.1,.I r.2]) []):=by
 refine Qd.walk 16 func214 rfl rfl rfl fun C hC=>?_
 obtain⟨k,g,h⟩:=Qc h
 refine Qa hC [.n 10,.v .no [] (.agg (Qp f)),.n 1,.o (.ln a.length),.o (.c false [.d,.d] (.b k)),.n 3] rfl ⟨⟨⟨tt_,rfl⟩,Qg⟩,(Qnt _ _ g)⟩ ?_
 rcases Qt h with⟨e,h⟩|⟨e,h⟩
 ·refine Qa hC [.T,.n 8] rfl ⟨tt_,e⟩ ?_
  cases h
  exact d2_ rfl rfl rfl tt_
 obtain⟨j,i,h⟩:=Qc h
 refine Qa hC [.F,.n 5,.v .no [] (.agg (Qp f)),.o (.c false [.d,.d] (.tup [.I j.1,.I j.2])),.n 7] rfl ⟨⟨⟨tt_,e⟩,rfl⟩,(QuJ _ _ i)⟩ ?_
 cases h
 exact d2_ rfl rfl rfl tt_
def Qam (b:QP):Option Int:=
 (Ql6 b.task.Guard b.env).bind fun a=>
 bif (a.2 != 0)then
 some a.2
 else
 bif (a.1==0)then
 some 9
 else
 some 0
theorem QkK (e){r}(h:Qam e=some r):Qd prog 165 [.agg (Qv e)] [] (Gives (.I r) []):=by
 refine Qd.walk 21 func165 rfl rfl rfl fun C hC=>?_
 obtain⟨g,f,h⟩:=Qc h
 refine Qa hC [.n 10,.v .no [] (.agg (Qp e.task.Guard)),.n 2,.o (.c false [.d,.d] (.tup [.I g.1,.I g.2])),.n 16] rfl ⟨⟨tt_,rfl⟩,(Qst _ _ f)⟩ ?_
 refine bg_ h (fun a h=>Qa hC [.T,.n 9,.K [2] []] rfl ⟨tt_,a⟩ ?_) fun a h=>Qa hC [.F,.n 7] rfl ⟨tt_,a⟩ ?_
 ·cases h
  exact d1_ rfl rfl tt_
 refine bg_ h (fun b h=>Qa hC [.T,.n 8,.K [2] []] rfl ⟨tt_,b⟩ ?_) fun b h=>Qa hC [.F,.n 9,.K [2] []] rfl ⟨tt_,b⟩ ?_
 ·cases h
  exact d1_ rfl rfl tt_
 cases h
 exact d1_ rfl rfl tt_
def QdV (a:QLL):Option QLL:=
 (chk (decide ((([]:List (List Int)).length+a.length)*24≤140737488355328))).bind fun _=>
 some (([]:List (List Int))++a)
theorem Qn9 (a){r}(h:QdV a=some r):Qd prog 167 [.sl 1 (a.map Qj)] [] (Gives (.own 600 r.length) [(600,.arr 1 (r.map Qj))]):=by
 refine Qd.walk 8 func167 rfl rfl rfl fun C hC=>?_
 unfold QdV at h
 refine tg_ hC [.n 9] rfl ?_
 refine AK.eqNil rfl rfl rfl (QH hC.n rfl) rfl rfl QFu ?_ ?_
 ·intro b
  replace h:some ([]:List (List Int))=some r:=by simpa [chk,List.map_eq_nil_iff.1 b] using h
  refine Qa hC [.n 10,.adopt 2 600 1,.O 600 (.arr 1 (([]:List (List Int)).map Qj)),.S 2 (.own 600 ([]:List (List Int)).length)] rfl ⟨⟨tt_,rfl⟩,rfl⟩ ?_
  cases h
  exact d1_ rfl rfl ⟨rfl,tt_⟩
 obtain⟨c,h⟩:=QaE h
 refine Qa hC [.n 8,.O 5 (.arr 1 (([]:List (List Int)).map Qj)),.S 5 (.own 5 ([]:List (List Int)).length),.n 1,.x (fun σ=>σ.app 5 1 7 (([]:List (List Int))++a).length ((([]:List (List Int))++a).map Qj)),.n 4,.K [2] [5],.ren 5 600] rfl ⟨⟨⟨tt_,rfl⟩,rfl⟩,(Stp.appSB (by_:=24) (zs:=[.lit (.slice none 0 0)]) (e:=27) (e':=27) (z':=1) (by':=24) rfl rfl (QH hC.n rfl) rfl rfl rfl Qg (by kernel_rfl) (by kernel_rfl) (by kernel_rfl) rfl (by decide) (by decide) (Qvr c Qg) rfl Qc1 (QfN Qg))⟩ ?_
 cases h
 exact d1_ rfl rfl ⟨rfl,tt_⟩
def QcV (c:(Bool×Qa9))(a:Int):Option (Int×Bool):=
 (Qdz c.2 a).bind fun b=>
 bif (!b)then
 some (0,false)
 else
 some (a,true)
def Qfv (d:(List QO))(e:Int)(b:Int):Option (Int×Bool):=
 (Qf3 d e).bind fun c=>
 bif (!c.1)then
 some (0,false)
 else
 (Qdd c.2).bind fun a=>
 bif (a.Kind==1)then
 bif ((decide (b<a.Lo))||(decide (a.Hi<b)))then
 some (0,false)
 else
 QcV c (w64 (b-a.Lo))
 else
 QcV c b
theorem QuK (u w j){r}(h:Qfv u w j=some r):Qd prog 219 [.sl 7 (u.map QF),.I w,.I j] [] (Gives (.tup [.I r.1,.b r.2]) []):=by
 refine Qd.walk 43 func219 rfl rfl rfl fun C hC=>?_
 obtain⟨k,s,h⟩:=Qc h
 refine Qa hC [.n 10,.o (.c false [.d,.d] (.tup [.agg (Q3 k.2),.b k.1])),.n 5,.O 8 (.var (Q3 k.2)),.n 10] rfl ⟨⟨tt_,(Qn3 _ _ s)⟩,rfl⟩ ?_
 refine bg_ h (fun l h=>Qa hC [.T,.n 8,.K [6,7] []] rfl ⟨tt_,l⟩ ?_) fun l h=>Qa hC [.F,.n 2] rfl ⟨tt_,l⟩ ?_
 ·cases h
  exact d2_ rfl rfl rfl tt_
 refine AK.meet (fun σ=>∃m:Int,σ=⟨[(2,.I m),(8,.loc 8 0 0)],[(8,.var (Q3 k.2))]⟩∧QcV k m=some r) ?_ ?_
 ·obtain⟨a,p,h⟩:=Qc h
  refine Qa hC [.n 2,.v .no [] (.agg (Q3 k.2)),.o (.c false [.d] (.agg (QF a))),.n 2,.O 10 (.var (QF a)),.n 9] rfl ⟨⟨⟨tt_,rfl⟩,(QhH _ p)⟩,rfl⟩ ?_
  refine bg_ h (fun f h=>Qa hC [.T,.n 2] rfl ⟨tt_,f⟩ ?_) fun f h=>Qa hC [.F,.n 1,.K [2,8] [8]] rfl ⟨tt_,f⟩ ?_
  ·refine AK.meetX (fun σ=>σ=⟨[(2,.I j),(8,.loc 8 0 0),(10,.loc 10 0 0),(33,.b ((decide (j<a.Lo))||(decide (a.Hi<j))))],[(8,.var (Q3 k.2)),(10,.var (QF a))]⟩) ?_ ?_
   ·refine tg_ hC [.n 6] rfl ?_
    rcases Q0 (decide (j<a.Lo))with e | e
    ·refine Qa hC [.S 28 (.b true),.n 6,.S 33 (.b ((decide (j<a.Lo))||(decide (a.Hi<j)))),.K [2,8,10,33] [8,10]] rfl ⟨(tc_ e),(congrArg V.b (orT e rfl))⟩ ?_
     exact AK.met rfl
    refine Qa hC [.S 28 (.b false),.n 6,.S 33 (.b ((decide (j<a.Lo))||(decide (a.Hi<j)))),.K [2,8,10,33] [8,10]] rfl ⟨(tc_ e),(congrArg V.b (orF e rfl))⟩ ?_
    exact AK.met rfl
   rintro σ rfl
   refine tg_ hC [.n 1] rfl ?_
   refine bg_ h (fun g h=>Qa hC [.T,.n 9,.K [6,7] []] rfl ⟨tt_,g⟩ ?_) fun g h=>Qa hC [.F,.n 9,.K [2,8] [8]] rfl ⟨tt_,g⟩ ?_
   ·cases h
    exact d2_ rfl rfl rfl tt_
   exact AK.met (ex_ _ (an_ rfl h))
  exact AK.met (ex_ _ (an_ rfl h))
 rintro σ ⟨m,rfl,h⟩
 obtain⟨t,q,h⟩:=Qc h
 refine Qa hC [.n 3,.v .no [] (.agg (Q3 k.2)),.n 1,.o (.c false [.d,.d] (.b t)),.n 3] rfl ⟨⟨tt_,rfl⟩,(QnS _ _ q)⟩ ?_
 refine bg_ h (fun i h=>Qa hC [.T,.n 8,.K [6,7] []] rfl ⟨tt_,i⟩ ?_) fun i h=>Qa hC [.F,.n 10,.K [6,7] []] rfl ⟨tt_,i⟩ ?_
 ·cases h
  exact d2_ rfl rfl rfl tt_
 cases h
 exact d2_ rfl rfl rfl tt_
def Qd5 (a:QBg):Option Unit:=
 some ()
theorem Ql7 (a){r}(h:Qd5 a=some r):Qd prog 222 [.map 615] [(615,.map (QB V.I V.I a))] (Gives (.clo (.func 240) [] [.loc 1 0 0]) [(1,.var [.map 615]),(615,.map (QB V.I V.I a))]):=by
 refine Qd.walk 4 func222 rfl rfl rfl fun C hC=>?_
 refine tg_ hC [.n 13] rfl ?_
 cases h
 exact d1_ rfl rfl ⟨rfl,rfl,tt_⟩
def Qc4 (a:(List Int))(b:Int):Option (List Int):=
 (chk (decide (a.length+([b]:List Int).length≤4294967296))).bind fun _=>
 some (a++([b]:List Int))
theorem QjB (lpl lpf:Nat)(a:(List Int))(c:Int){r:(List Int)}(h:Qc4 a c=some r):Qky prog lpl (Qgk lpf) (QF4 (.loc 616 0 0) (.I c)) [(615,.lp lpl (Qgk lpf) (QrM (.loc 616 0 0)) 0),(616,.var [.own 613 a.length]),(613,.arr 1 (a.map Qb))] (Gives (.b true) [(613,.arr 1 (r.map Qb)),(615,.lp lpl (Qgk lpf) (QrM (.loc 616 0 0)) 0),(616,.var [.own 613 r.length])]):=by
 refine Qky.walk (b:=615) 13 rfl rfl fun C hC=>?_
 refine tg_ hC [.n 3] rfl ?_
 refine AK.done (an_ rfl (ex_ _ (an_ rfl ?_)))
 obtain⟨d,h⟩:=QaE h
 refine Qa hC [.n 4,.v (.bd []) [] (.sl 1 (([c]:List Int).map Qb)),.app ((a++([c]:List Int)).map Qb) (a++([c]:List Int)).length,.n 1,.O 616 (.var [.own 613 (a++([c]:List Int)).length]),.n 2,.K [] [613,615,616]] rfl ⟨⟨⟨tt_,rfl⟩,⟨Qg,Qgj d Qg,Qc1,QfN Qg⟩⟩,rfl⟩ ?_
 cases h
 refine AK.done ?_
 exact ex_ _ (an_ rfl (gives ⟨rfl,rfl,rfl,tt_⟩))
theorem QlD (lpl lpf:Nat)(a:(List Int))(c:QBg)(hlen:a.length+c.length≤4294967296):Qd prog 240 [.clo (.yield lpl) [] [],.loc 617 0 0] [(615,.lp lpl (Qgk lpf) (QrM (.loc 616 0 0)) 0),(616,.var [.own 613 a.length]),(613,.arr 1 (a.map Qb)),(617,.var [.map 618]),(618,.map (QB V.I V.I c))] (fun v hs=>∃r:List Int,r.Perm (a++c.map Prod.fst)∧Gives (.tup []) [(613,.arr 1 (r.map Qb)),(615,.lp lpl (Qgk lpf) (QrM (.loc 616 0 0)) 0),(616,.var [.own 613 r.length]),(617,.var [.map 618]),(618,.map (QB V.I V.I c))] v hs):=by
 refine Qd.walk 14 func240 rfl rfl rfl fun C hC=>?_
 refine tg_ hC [.n 3] rfl ?_
 refine AK.openMap (b:=618) Qen rfl fun j k L4 o p=>?_
 refine Qa hC [.x (fun σ=>(σ.set 5 (.itr j k #[] none)).put 5 (.loc 5 0 0)),.n 3,.K [0,5] [5,613,615,616,617,618]] rfl ⟨tt_,(Stp.range (b:=618) rfl rfl (QH hC.n rfl) rfl rfl Qhj rfl)⟩ ?_
 have hL0:Qax L4 #[]=L4:=by simp [Qax]
 have y:(a++(Qax L4 #[]).map (fun q=>q.2.1)).Perm (a++c.map Prod.fst):=by
  rw [hL0]
  refine List.Perm.append_left a ?_
  have:=p.map Prod.fst
  rwa [Qer]at this
 refine AK.range (body:=QBv) (fun (_:Nat) seen σ=>∃(cur:Option Nat) (st:List Int),(st++(Qax L4 seen).map (fun q=>q.2.1)).Perm (a++c.map Prod.fst)∧σ=⟨[(0,.clo (.yield lpl) [] []),(5,.loc 5 0 0)],[(5,.itr j k seen cur),(613,.arr 1 (st.map Qb)),(615,.lp lpl (Qgk lpf) (QrM (.loc 616 0 0)) 0),(616,.var [.own 613 st.length]),(617,.var [.map 618]),(618,.mapX j k (Qbt V.I V.I L4) (QB V.I V.I c))]⟩) (fun (q:Empty) _ _=>False) (fun _ e σ=>∃st:List Int,st.Perm (a++c.map Prod.fst)∧e=.exit 0∧σ=⟨[],[(613,.arr 1 (st.map Qb)),(615,.lp lpl (Qgk lpf) (QrM (.loc 616 0 0)) 0),(616,.var [.own 613 st.length]),(617,.var [.map 618]),(618,.mapX j k (Qbt V.I V.I L4) (QB V.I V.I c))]⟩) o p (QCe c 0) (ex_ _ (ex_ a (an_ y rfl))) ?_ ?_
 ·rintro B seen σ ⟨cur,l,hpp,rfl⟩ hex
  refine tg_ hC [.n 2] rfl ?_
  refine AK.nextT (b:=5) (m:=618) rfl rfl rfl (QH hC.n rfl) rfl rfl rfl rfl ?_ ?_
  ·intro hleft
   refine tg_ hC [.n 7,.K [] [613,615,616,617,618]] rfl ?_
   exact AK.done (Or.inl (an_ hleft (an_ (fun h=>(by cases h)) (ex_ l (an_ (by simpa [hleft] using hpp) (an_ rfl rfl))))))
  intro z w D t
  have hpk:=(QsZ o t).map (fun q=>q.2.1)
  have u:((l++[w])++(Qax L4 (seen.push z)).map (fun q=>q.2.1)).Perm (a++c.map Prod.fst):=List.Perm.trans (by simpa using (List.Perm.append_left l hpk).symm) hpp
  have A:l.length+([w]:List Int).length≤4294967296:=by
   have:=u.length_eq
   simp at this ⊢
   omega
  have s:Qc4 l w=some (l++[w]):=by
   unfold Qc4
   rw [Qa4 A];rfl
  obtain⟨i,hxe⟩:∃x,x=l++[w]:=⟨_,rfl⟩
  rw [←hxe]at s u
  refine Qa hC [.n 10,.x (fun σ=>σ.put 8 (.tup [.I w,.I D])),.n 8,.x (fun σ=>(σ.after [613] [(613,.arr 1 (i.map Qb)),(615,.lp lpl (Qgk lpf) (QrM (.loc 616 0 0)) 0),(616,.var [.own 613 i.length])]).put 12 (.b true)),.n 6,.K [0,5] [5,613,615,616,617,618]] rfl ⟨⟨tt_,(Stp.entryT (b:=5) (m:=618) (e:=V.I) (f:=V.I) rfl rfl (QH hC.n rfl) rfl t rfl rfl)⟩,(Stp.yieldV (b:=615) (M:=[(615,615),(616,616),(613,613)]) (N:=[(613,613),(615,615),(616,616)]) (dead:=[613]) (ms:=[.d,.d,.d,.d,.d,.d,.d,.d,.d,.d,.d,.d,.d]) (outs:=[(613,.arr 1 (i.map Qb)),(615,.lp lpl (Qgk lpf) (QrM (.loc 616 0 0)) 0),(616,.var [.own 613 i.length])]) (r:=.b true) rfl rfl rfl rfl rfl rfl rfl (QH hC.n rfl) hC.g rfl rfl (QjB _ _ _ _ s))⟩ ?_
  exact AK.done (Or.inr (ex_ _ (an_ t (Or.inl (ex_ (B+1) (an_ rfl (an_ rfl (ex_ _ (ex_ i (an_ u rfl))))))))))
 rintro e σ ⟨l,hpp,rfl,rfl⟩
 refine tg_ hC [.n 1] rfl ?_
 refine AK.closeMap (b:=618) rfl ?_
 refine tg_ hC [.K [] [613,615,616,617,618]] rfl ?_
 refine AK.done ?_
 exact ex_ [] (an_ tt_ (ex_ l (an_ hpp (gives ⟨rfl,rfl,rfl,rfl,rfl,tt_⟩))))
theorem QnQ (a:QBg)(hlen:a.length≤4294967296):Qd prog 247 [.lit (.slice none 0 0),.clo (.func 240) [] [.loc 615 0 0]] [(615,.var [.map 616]),(616,.map (QB V.I V.I a))] (fun v hs=>∃r:List Int,r.Perm (a.map Prod.fst)∧Gives (.own 600 r.length) [(600,.arr 1 (r.map Qb)),(615,.var [.map 616]),(616,.map (QB V.I V.I a))] v hs):=by
 refine Qd.walkR 13 func247 rfl ntmps247 rfl fun C hC hR=>?_
 refine tg_ hC [.n 13,.K [2,4,6] [2,615,616]] rfl ?_
 refine Qa hC [.adoptO 2 0 605 1,.O 605 (.arr 1 (([]:List Int).map Qb)),.O 2 (.var [.own 605 ([]:List Int).length])] rfl ⟨⟨tt_,rfl⟩,rfl⟩ ?_
 refine AK.rangeFE (ι:=List Int) (Φ:=fun x=>x.Perm (a.map Prod.fst)) 612 [2] [(615,612),(616,2),(613,605),(617,615),(618,616)] [(605,613),(612,615),(2,616),(615,617),(616,618)] [605] [.d,.d] Qgk hC hR (fun _=>rfl) rfl rfl rfl rfl fun lpl lpf=>?_
 refine ex_ (fun b:List Int=>[(613,.arr 1 (b.map Qb)),(615,.lp lpl (Qgk lpf) (QrM (.loc 616 0 0)) 0),(616,.var [.own 613 b.length]),(617,.var [.map 618]),(618,.map (QB V.I V.I a))]) (ex_ (fun _=>.tup []) (ex_ (fun b=>_) (ex_ _ (ex_ _ (an_ rfl (an_ rfl (an_ (QlD _ _ ([]:List Int) a (by simpa using hlen)) fun b=>ex_ _ (ex_ (QrM (.loc 2 0 0)) (ex_ 0 (an_ rfl (an_ rfl (an_ (bne_iff_ne.1 (show(0 != 1)=true from rfl)) fun hpp=>?_))))))))))))
 refine QDe rfl ?_
 refine tg_ hC [.n 9,.K [4] [605,615,616],.ren 605 600,.K [4] [600,615,616]] rfl ?_
 exact AK.done (ex_ [_] (an_ (an_ rfl tt_) (ex_ b (an_ hpp (gives ⟨rfl,rfl,rfl,tt_⟩)))))
theorem QqJ (a:QBg)(hlen:a.length≤4294967296):Qd prog 239 [.clo (.func 240) [] [.loc 615 0 0]] [(615,.var [.map 616]),(616,.map (QB V.I V.I a))] (fun v hs=>∃r:List Int,r.Perm (a.map Prod.fst)∧Gives (.own 600 r.length) [(600,.arr 1 (r.map Qb)),(615,.var [.map 616]),(616,.map (QB V.I V.I a))] v hs):=by
 refine Qd.walk 5 func239 rfl rfl rfl fun C hC=>?_
 refine tg_ hC [.n 8] rfl ?_
 refine AK.callE (ι:=List Int) (Φ:=fun x=>x.Perm (a.map Prod.fst)) [(615,615),(616,616)] [(4,600),(615,615),(616,616)] [] [.d,.d] (fun b=>[(600,.arr 1 (b.map Qb)),(615,.var [.map 616]),(616,.map (QB V.I V.I a))]) (fun b=>(.own 600 b.length)) (fun b=>_) rfl hC (QbW.fn rfl rfl rfl) rfl (QH hC.n rfl) rfl rfl (QnQ a hlen) (fun b=>ex_ _ rfl) fun b hpp=>?_
 refine tg_ hC [.n 4,.K [2] [4,615,616],.ren 4 600,.K [2] [600,615,616]] rfl ?_
 exact AK.done (ex_ [_] (an_ (an_ rfl tt_) (ex_ b (an_ hpp (gives ⟨rfl,rfl,rfl,tt_⟩)))))
def QjC (a:QBg):Option (List Int):=
 (chk (decide (a.length≤4294967296))).bind fun _=>
 some (QeW (a.map Prod.fst))
theorem QrW (a){r}(h:QjC a=some r):Qd prog 221 [.clo (.func 240) [] [.loc 615 0 0]] [(615,.var [.map 616]),(616,.map (QB V.I V.I a))] (Gives (.own 600 r.length) [(600,.arr 1 (r.map Qb)),(615,.var [.map 616]),(616,.map (QB V.I V.I a))]):=by
 refine Qd.walk 9 func221 rfl rfl rfl fun C hC=>?_
 obtain⟨_,hlen,h⟩:=Qc h
 replace hlen:=QV (Qzq hlen)
 cases h
 refine tg_ hC [.n 8] rfl ?_
 refine AK.callE (ι:=List Int) (Φ:=fun x=>x.Perm (a.map Prod.fst)) [(615,615),(616,616)] [(5,600),(615,615),(616,616)] [] [.d] (fun b=>[(600,.arr 1 (b.map Qb)),(615,.var [.map 616]),(616,.map (QB V.I V.I a))]) (fun b=>(.own 600 b.length)) (fun b=>_) rfl hC (QbW.fn rfl rfl rfl) rfl (QH hC.n rfl) rfl rfl (QqJ a hlen) (fun b=>ex_ _ rfl) fun b hpp=>?_
 have e:QaW b=some (QeW (a.map Prod.fst)):=by
  unfold QaW
  rw [Qa4 (by have:=hpp.length_eq;simp at this;omega),QBw hpp];rfl
 have c:(QeW (a.map Prod.fst)).length=b.length:=by rw [Qhi,hpp.length_eq]
 refine Qa hC [.n 6,.cm (.fn) [(615,5)] [(5,615)] [] [.d] [(615,.arr 1 (((QeW (a.map Prod.fst))).map Qb))] (.tup []),.S 3 (.own 5 (QeW (a.map Prod.fst)).length),.S 5 (.own 5 (QeW (a.map Prod.fst)).length),.S 6 (.own 5 (QeW (a.map Prod.fst)).length),.n 9,.K [2] [5,615,616],.ren 5 600,.K [2] [600,615,616]] rfl ⟨⟨⟨⟨tt_,(Qgs _ e)⟩,(by simp [c])⟩,(by simp [c])⟩,(by simp [c])⟩ ?_
 exact d1_ rfl rfl ⟨rfl,rfl,rfl,tt_⟩
def QeE (b:Int)(a:QBg):Option ((Int×QBg)⊕QBg):=
 some (.inl ((w64 (b+1)),a))
def QcA (e:(List Int))(d:QBg)(b:Int)(c:QBg):Option ((Int×QBg)⊕QBg):=
 bif (decide (b<(e.length:Int)))then
 (idx e b).bind fun a=>
 bif (decide (0<((QR d a).getD 0)))then
 (chk (decide (c.length+([(a,((QR d a).getD 0))]:List (Int×Int)).length≤4294967296))).bind fun _=>
 QeE b (c++([(a,((QR d a).getD 0))]:List (Int×Int)))
 else
 QeE b c
 else
 some (.inr c)
def QnT (a:QBg):Option QBg:=
 some a
def QeP (a:QBg):Option QBg:=
 (Qd5 a).bind fun c=>
 (QjC a).bind fun b=>
 (QE (fun st=>QcA b a st.1 st.2) (0,([]:List (Int×Int)))).bind (fun q=>QnT q)
theorem QjD (b){r}(h:QeP b=some r):Qd prog 176 [.map 615] [(615,.map (QB V.I V.I b))] (Gives (.own 600 r.length) [(600,.arr 2 (r.map QK)),(615,.map (QB V.I V.I b))]):=by
 refine Qd.walk 28 func176 rfl rfl rfl fun C hC=>?_
 obtain⟨D,u,h⟩:=Qc h
 obtain⟨i,w,h⟩:=Qc h
 refine Qa hC [.n 14,.cm (.fn) [(615,615)] [(7,1),(615,615)] [] [.d] [(1,.var [.map 615]),(615,.map (QB V.I V.I b))] (.clo (.func 240) [] [.loc 1 0 0]),.cm (.fn) [(615,7),(616,615)] [(8,600),(7,615),(615,616)] [] [.d] [(600,.arr 1 (i.map Qb)),(615,.var [.map 616]),(616,.map (QB V.I V.I b))] (.own 600 i.length),.n 5,.adopt 3 18 2,.O 18 (.arr 2 (([]:List (Int×Int)).map QK)),.S 3 (.own 18 ([]:List (Int×Int)).length),.K [0,3,8,9,10] [8,18,615]] rfl ⟨⟨⟨⟨tt_,(Ql7 _ u)⟩,(QrW _ w)⟩,rfl⟩,(congrArg (fun n=>V.own 18 n) (by simp))⟩ ?_
 obtain⟨x,p,h⟩:=Qc h
 refine AK.loop (body:=(fun st=>QcA i b st.1 st.2)) (fun st σ=>σ=⟨[(0,.map 615),(3,.own 18 st.2.length),(8,.own 8 i.length),(9,.I (i.length:Int)),(10,.I st.1)],[(8,.arr 1 (i.map Qb)),(18,.arr 2 (st.2.map QK)),(615,.map (QB V.I V.I b))]⟩) (fun q e σ=>e=.exit 0∧σ=⟨[(3,.own 18 q.length)],[(18,.arr 2 (q.map QK)),(615,.map (QB V.I V.I b))]⟩) p rfl ?_ ?_
 ·rintro ⟨A,B⟩ o σ rfl h
  refine tg_ hC [.n 6] rfl ?_
  refine bg_ h (fun c h=>Qa hC [.T,.n 2] rfl ⟨tt_,c⟩ ?_) fun c h=>Qa hC [.F,.n 2,.K [3] [18,615]] rfl ⟨tt_,c⟩ ?_
  ·refine AK.meet (fun σ=>∃j:QBg,σ=⟨[(0,.map 615),(3,.own 18 j.length),(8,.own 8 i.length),(9,.I (i.length:Int)),(10,.I A)],[(8,.arr 1 (i.map Qb)),(18,.arr 2 (j.map QK)),(615,.map (QB V.I V.I b))]⟩∧QeE A j=some o) ?_ ?_
   ·obtain⟨a,m,h⟩:=Qc h
    refine Qa hC [.n 4,.o (.row (Qb a)),.n 7,.o (.any (.I ((QR b a).getD 0)) none),.n 3] rfl ⟨⟨⟨tt_,(Qbx m rfl)⟩,(QaJ (Qca m).2)⟩,(fun σ s y _=>Stp.lookup (e:=V.I) (f:=V.I) (l:=b) (k:=a) (z:=0) rfl rfl (QH hC.n rfl) (s _ _ rfl) (y _ _ rfl) (s _ _ rfl) Qhj Qen Qwf rfl)⟩ ?_
    rcases Qt h with⟨g,h⟩|⟨g,h⟩
    ·obtain⟨t,h⟩:=QaE h
     refine Qa hC [.T,.n 5,.o (.any (.I ((QR b a).getD 0)) none),.v .no [] (.agg (QK (a,((QR b a).getD 0)))),.v (.bd []) [] (.sl 2 (([(a,((QR b a).getD 0))]:List (Int×Int)).map QK)),.app ((B++([(a,((QR b a).getD 0))]:List (Int×Int))).map QK) (B++([(a,((QR b a).getD 0))]:List (Int×Int))).length,.n 3,.K [0,3,8,9,10] [8,18,615]] rfl ⟨⟨⟨⟨⟨tt_,g⟩,(fun σ s y _=>Stp.lookup (e:=V.I) (f:=V.I) (l:=b) (k:=a) (z:=0) rfl rfl (QH hC.n rfl) (s _ _ rfl) (y _ _ rfl) (s _ _ rfl) Qhj Qen Qwf rfl)⟩,rfl⟩,rfl⟩,⟨Qg,Qgj t Qg,Qc1,QfN Qg⟩⟩ ?_
     exact AK.met (ex_ _ (an_ rfl h))
    refine Qa hC [.F,.n 2,.K [0,3,8,9,10] [8,18,615]] rfl ⟨tt_,g⟩ ?_
    exact AK.met (ex_ _ (an_ rfl h))
   rintro σ ⟨j,rfl,h⟩
   refine tg_ hC [.n 4,.K [0,3,8,9,10] [8,18,615]] rfl ?_
   cases h
   exact QZ rfl rfl
  cases h
  exact Q1 rfl (an_ rfl rfl)
 replace h:QnT x=some r:=h
 rintro e σ ⟨rfl,rfl⟩
 refine tg_ hC [.n 9,.K [2] [18,615],.ren 18 600] rfl ?_
 cases h
 exact d1_ rfl rfl ⟨rfl,rfl,tt_⟩
def Qot (b:Int)(a:QBg):Option ((Int×QBg)⊕QBg):=
 some (.inl ((w64 (b+1)),a))
def Qf4 (d:(List Int))(b:Int)(c:QBg):Option ((Int×QBg)⊕QBg):=
 bif (decide (b<(d.length:Int)))then
 (idx d b).bind fun a=>
 bif (decide (0≤a))then
 Qot b (QaR ltI c a (min2 (w64 (((QR c a).getD 0)+1)) 1048576))
 else
 Qot b c
 else
 some (.inr c)
def Qou (b:QBg):Option QBg:=
 (QeP b).bind fun a=>
 some a
def Qtj (a:(List Int)):Option QBg:=
 (QE (fun st=>Qf4 a st.1 st.2) (0,([]:QBg))).bind (fun q=>Qou q)
theorem QAE (c){r}(h:Qtj c=some r):Qd prog 220 [.sl 1 (c.map Qb)] [] (Gives (.own 600 r.length) [(600,.arr 2 (r.map QK))]):=by
 refine Qd.walk 25 func220 rfl rfl rfl fun C hC=>?_
 refine Qa hC [.n 8,.O 6 (.map (QB V.I V.I ([]:QBg))),.n 7,.o (.ln c.length),.n 4,.K [3,7,8,9] [6]] rfl ⟨⟨tt_,rfl⟩,Qg⟩ ?_
 obtain⟨u,m,h⟩:=Qc h
 refine AK.loop (body:=(fun st=>Qf4 c st.1 st.2)) (fun st σ=>σ=⟨[(3,.map 6),(7,.sl 1 (c.map Qb)),(8,.I (c.length:Int)),(9,.I st.1)],[(6,.map (QB V.I V.I st.2))]⟩) (fun q e σ=>e=.exit 0∧σ=⟨[(3,.map 6)],[(6,.map (QB V.I V.I q))]⟩) m rfl ?_ ?_
 ·rintro ⟨w,j⟩ o σ rfl h
  refine tg_ hC [.n 6] rfl ?_
  refine bg_ h (fun g h=>Qa hC [.T,.n 2] rfl ⟨tt_,g⟩ ?_) fun g h=>Qa hC [.F,.n 2,.K [3] [6]] rfl ⟨tt_,g⟩ ?_
  ·refine AK.meet (fun σ=>∃i:QBg,σ=⟨[(3,.map 6),(7,.sl 1 (c.map Qb)),(8,.I (c.length:Int)),(9,.I w)],[(6,.map (QB V.I V.I i))]⟩∧Qot w i=some o) ?_ ?_
   ·obtain⟨a,p,h⟩:=Qc h
    refine Qa hC [.n 3,.o (.row (Qb a)),.n 10] rfl ⟨tt_,(QJ p)⟩ ?_
    refine bg_ h (fun b h=>Qa hC [.T,.n 5,.o (.any (.I ((QR j a).getD 0)) none),.n 2,.x (fun σ=>σ.set 6 (.map (QB V.I V.I (QaR ltI j a (min2 (w64 (((QR j a).getD 0)+1)) 1048576))))),.n 2,.K [3,7,8,9] [6]] rfl ⟨⟨⟨tt_,b⟩,(fun σ y A _=>Stp.lookup (e:=V.I) (f:=V.I) (l:=j) (k:=a) (z:=0) rfl rfl (QH hC.n rfl) (y _ _ rfl) (A _ _ rfl) (y _ _ rfl) Qhj Qen Qwf rfl)⟩,(Stp.mapUpdate (e:=V.I) (f:=V.I) (l:=j) (k:=a) (v:=(min2 (w64 (((QR j a).getD 0)+1)) 1048576)) ltI rfl rfl rfl rfl rfl rfl Qhj Qen rfl)⟩ ?_) fun b h=>Qa hC [.F,.n 2,.K [3,7,8,9] [6]] rfl ⟨tt_,b⟩ ?_
    ·exact AK.met (ex_ _ (an_ rfl h))
    exact AK.met (ex_ _ (an_ rfl h))
   rintro σ ⟨i,rfl,h⟩
   refine tg_ hC [.n 4,.K [3,7,8,9] [6]] rfl ?_
   cases h
   exact QZ rfl rfl
  cases h
  exact Q1 rfl (an_ rfl rfl)
 replace h:Qou u=some r:=h
 rintro e σ ⟨rfl,rfl⟩
 obtain⟨s,t,h⟩:=Qc h
 refine Qa hC [.n 5,.cm (.fn) [(615,6)] [(24,600),(6,615)] [] [.d] [(600,.arr 2 (s.map QK)),(615,.map (QB V.I V.I u))] (.own 600 s.length),.n 4,.K [2] [24],.ren 24 600] rfl ⟨tt_,(QjD _ t)⟩ ?_
 cases h
 exact d1_ rfl rfl ⟨rfl,tt_⟩
def QtD (a:Unit):Option (Unit⊕(QBg⊕(QBg⊕(QBg×QBg)))):=
 some (.inl ())
def QtE (a:QBg):Option (Unit⊕(QBg⊕(QBg⊕(QBg×QBg)))):=
 some (.inr (.inl a))
def QoT (a:QBg)(b:Unit):Option (Unit⊕(QBg⊕(QBg⊕(QBg×QBg)))):=
 (QmN a).bind (Sum.elim (fun q=>QtD q) (fun q=>QtE q))
def QtF (a:QBg)(b:Unit):Option (Unit⊕(QBg⊕(QBg⊕(QBg×QBg)))):=
 some (.inr (.inr (.inl a)))
def QtG (b:QBg)(a:QBg):Option (Unit⊕(QBg⊕(QBg⊕(QBg×QBg)))):=
 some (.inr (.inr (.inr (b,a))))
def QoU (b:QBg)(a:QBg):Option (Unit⊕(QBg⊕(QBg⊕(QBg×QBg)))):=
 (QmN b).bind (Sum.elim (fun q=>QtF a q) (fun q=>QtG a q))
def QlE (b:QBg)(a:QBg):Option (Unit⊕(QBg⊕(QBg⊕(QBg×QBg)))):=
 (QmN b).bind (Sum.elim (fun q=>QoT a q) (fun q=>QoU a q))
theorem QbV (p i){r}(h:QlE p i=some r):Qd prog 174 [.sl 2 (p.map QK),.sl 2 (i.map QK)] [] ((Sum.elim (fun q=>(Gives (.tup [.lit (.map none),.lit (.map none),.b false]) [])) (Sum.elim (fun q=>(Gives (.tup [.lit (.map none),.map 603,.b false]) [(603,.map (QB V.I V.I q))])) (Sum.elim (fun q=>(Gives (.tup [.map 602,.lit (.map none),.b false]) [(602,.map (QB V.I V.I q))])) (fun q=>(Gives (.tup [.map 602,.map 603,.b true]) [(602,.map (QB V.I V.I q.1)),(603,.map (QB V.I V.I q.2))]))))) r):=by
 refine Qd.walk 25 func174 rfl rfl rfl fun C hC=>?_
 obtain⟨s,e,h⟩:=Qc h
 refine tg_ hC [.n 10] rfl ?_
 rcases s with(t | j)
 ·replace h:QoT i t=some r:=h
  obtain⟨k,a,h⟩:=Qc h
  refine Qa hC [.cm (.fn) [] [] [] [.d] [] (.tup [.lit (.map none),.b false]),.n 10] rfl ⟨tt_,(Qf2 _ e)⟩ ?_
  rcases k with(l | f)
  ·replace h:QtD l=some r:=h
   refine Qa hC [.cm (.fn) [] [] [] [.d] [] (.tup [.lit (.map none),.b false]),.n 21,.K [4,5,6] []] rfl ⟨tt_,(Qf2 _ a)⟩ ?_
   cases h
   exact AK.done (ex_ [_,_,_] (an_ (an_ rfl (an_ rfl (an_ rfl tt_))) (gives tt_)))
  replace h:QtE f=some r:=h
  refine Qa hC [.cm (.fn) [] [(16,601)] [] [.d] [(601,.map (QB V.I V.I f))] (.tup [.map 601,.b true]),.n 21,.K [4,5,6] [16],.ren 16 603,.K [4,5,6] [603]] rfl ⟨tt_,(Qf2 _ a)⟩ ?_
  cases h
  exact AK.done (ex_ [_,_,_] (an_ (an_ rfl (an_ rfl (an_ rfl tt_))) (gives ⟨rfl,tt_⟩)))
 replace h:QoU i j=some r:=h
 obtain⟨m,c,h⟩:=Qc h
 refine Qa hC [.cm (.fn) [] [(11,601)] [] [.d] [(601,.map (QB V.I V.I j))] (.tup [.map 601,.b true]),.n 10] rfl ⟨tt_,(Qf2 _ e)⟩ ?_
 rcases m with(o | g)
 ·replace h:QtF j o=some r:=h
  refine Qa hC [.cm (.fn) [] [] [] [.d] [] (.tup [.lit (.map none),.b false]),.n 21,.K [4,5,6] [11],.ren 11 602,.K [4,5,6] [602]] rfl ⟨tt_,(Qf2 _ c)⟩ ?_
  cases h
  exact AK.done (ex_ [_,_,_] (an_ (an_ rfl (an_ rfl (an_ rfl tt_))) (gives ⟨rfl,tt_⟩)))
 replace h:QtG j g=some r:=h
 refine Qa hC [.cm (.fn) [] [(16,601)] [] [.d] [(601,.map (QB V.I V.I g))] (.tup [.map 601,.b true]),.n 21,.K [4,5,6] [11,16],.ren 11 602,.K [4,5,6] [16,602],.ren 16 603,.K [4,5,6] [602,603]] rfl ⟨tt_,(Qf2 _ c)⟩ ?_
 cases h
 exact AK.done (ex_ [_,_,_] (an_ (an_ rfl (an_ rfl (an_ rfl tt_))) (gives ⟨rfl,rfl,tt_⟩)))
def QuL (a:Unit):Option (QBg×Int):=
 some (([]:List (Int×Int)),1)
def QuM (a:QBg):Option (QBg×Int):=
 some (([]:List (Int×Int)),1)
def QuN (a:QBg):Option (QBg×Int):=
 some (([]:List (Int×Int)),1)
def Qiq (b:QBg)(a:Int)(c:Int):Option (QBg⊕Unit):=
 bif (decide (1048576<((QR (QaR ltI b a (w64 (((QR b a).getD 0)+c))) a).getD 0)))then
 some (.inr ())
 else
 some (.inl (QaR ltI b a (w64 (((QR b a).getD 0)+c))))
def Qqo (a:QBg):Option (QBg×Int):=
 (QeP a).bind fun b=>
 some (b,0)
def QuO : Option (QBg×Int):=
 some (([]:List (Int×Int)),2)
def Qqp (a:(QBg×QBg)):Option (QBg×Int):=
 (QcE (fun st p=>Qiq st p.1 p.2) a.1 a.2).bind (Sum.elim (fun q=>Qqo q) (fun q=>QuO))
def QbQ (a:QBg)(b:QBg):Option (QBg×Int):=
 (QlE a b).bind (Sum.elim (fun q=>QuL q) (Sum.elim (fun q=>QuM q) (Sum.elim (fun q=>QuN q) (fun q=>Qqp q))))
theorem QuP (N O){r}(h:QbQ N O=some r):Qd prog 99 [.sl 2 (N.map QK),.sl 2 (O.map QK)] [] (Gives (.tup [.sl 2 (r.1.map QK),.I r.2]) []):=by
 refine Qd.walk 38 func99 rfl rfl rfl fun C hC=>?_
 obtain⟨U,u,h⟩:=Qc h
 refine tg_ hC [.n 10] rfl ?_
 rcases U with(W | (P | (D | w)))
 ·replace h:QuL W=some r:=h
  refine Qa hC [.cm (.fn) [] [] [] [.d,.d] [] (.tup [.lit (.map none),.lit (.map none),.b false]),.n 25,.denil 4 [some 2]] rfl ⟨tt_,(QbV _ _ u)⟩ ?_
  cases h
  exact d2_ rfl rfl rfl tt_
 ·replace h:QuM P=some r:=h
  refine Qa hC [.cm (.fn) [] [(14,603)] [] [.d,.d] [(603,.map (QB V.I V.I P))] (.tup [.lit (.map none),.map 603,.b false]),.n 25,.denil 4 [some 2]] rfl ⟨tt_,(QbV _ _ u)⟩ ?_
  cases h
  exact d2_ rfl rfl rfl tt_
 ·replace h:QuN D=some r:=h
  refine Qa hC [.cm (.fn) [] [(14,602)] [] [.d,.d] [(602,.map (QB V.I V.I D))] (.tup [.map 602,.lit (.map none),.b false]),.n 25,.denil 4 [some 2]] rfl ⟨tt_,(QbV _ _ u)⟩ ?_
  cases h
  exact d2_ rfl rfl rfl tt_
 replace h:Qqp w=some r:=h
 refine Qa hC [.cm (.fn) [] [(14,602),(608,603)] [] [.d,.d] [(602,.map (QB V.I V.I w.1)),(603,.map (QB V.I V.I w.2))] (.tup [.map 602,.map 603,.b true]),.n 23] rfl ⟨tt_,(QbV _ _ u)⟩ ?_
 refine AK.openMapK (b:=608) Qen rfl fun j s L12 y J A=>?_
 refine Qa hC [.x (fun σ=>(σ.set 21 (.itr j s #[] none)).put 21 (.loc 21 0 0)),.n 3,.K [6,21] [14,21,608]] rfl ⟨tt_,(Stp.range (b:=608) rfl rfl (QH hC.n rfl) rfl rfl Qhj rfl)⟩ ?_
 obtain⟨L,E,h⟩:=Qc h
 refine AK.range (body:=(fun st p=>Qiq st p.1 p.2)) (fun st seen σ=>∃cur:Option Nat,σ=⟨[(6,.map 14),(21,.loc 21 0 0)],[(14,.map (QB V.I V.I st)),(21,.itr j s seen cur),(608,.mapX j s (Qbt V.I V.I L12) (QB V.I V.I w.2))]⟩) (fun q e σ=>e=.ret∧σ=⟨[(4,.lit (.slice none 0 0)),(5,.I 2)],[]⟩) (fun st e σ=>e=.exit 0∧σ=⟨[(6,.map 14)],[(14,.map (QB V.I V.I st))]⟩) y A E (ex_ _ rfl) ?_ ?_
 ·rintro a seen σ ⟨cur,rfl⟩ hex
  refine tg_ hC [.n 2] rfl ?_
  refine AK.nextT (b:=21) (m:=608) rfl rfl rfl (QH hC.n rfl) rfl rfl rfl rfl ?_ ?_
  ·intro hleft
   refine tg_ hC [.n 7,.K [6] [14]] rfl ?_
   exact AK.done (Or.inl (an_ hleft (an_ (fun h=>(by cases h)) (an_ rfl rfl))))
  intro S c i g
  obtain⟨o,h⟩:=hex _ g
  have ho:=h
  replace h:Qiq a c i=some o:=h
  refine Qa hC [.n 10,.x (fun σ=>σ.put 24 (.tup [.I c,.I i])),.n 10,.o (.any (.I ((QR a c).getD 0)) none),.n 2,.x (fun σ=>σ.set 14 (.map (QB V.I V.I (QaR ltI a c (w64 (((QR a c).getD 0)+i)))))),.n 6,.o (.any (.I ((QR (QaR ltI a c (w64 (((QR a c).getD 0)+i))) c).getD 0)) none),.n 3] rfl ⟨⟨⟨⟨tt_,(Stp.entryT (b:=21) (m:=608) (e:=V.I) (f:=V.I) rfl rfl (QH hC.n rfl) rfl g rfl rfl)⟩,(fun σ G M _=>Stp.lookup (e:=V.I) (f:=V.I) (l:=a) (k:=c) (z:=0) rfl rfl (QH hC.n rfl) (G _ _ rfl) (M _ _ rfl) (G _ _ rfl) Qhj Qen Qwf rfl)⟩,(Stp.mapUpdate (e:=V.I) (f:=V.I) (l:=a) (k:=c) (v:=(w64 (((QR a c).getD 0)+i))) ltI rfl rfl rfl rfl rfl rfl Qhj Qen rfl)⟩,(fun σ G M _=>Stp.lookup (e:=V.I) (f:=V.I) (l:=(QaR ltI a c (w64 (((QR a c).getD 0)+i)))) (k:=c) (z:=0) rfl rfl (QH hC.n rfl) (G _ _ rfl) (M _ _ rfl) (G _ _ rfl) Qhj Qen Qwf rfl)⟩ ?_
  refine bg_ h (fun t h=>Qa hC [.T,.n 8,.K [4,5] []] rfl ⟨tt_,t⟩ ?_) fun t h=>Qa hC [.F,.n 2,.K [6,21] [14,21,608]] rfl ⟨tt_,t⟩ ?_
  ·cases h
   exact AK.done (Or.inr (ex_ _ (an_ g (Or.inr (ex_ _ (an_ ho (an_ (fun h=>(by cases h)) (an_ rfl rfl))))))))
  cases h
  exact AK.done (Or.inr (ex_ _ (an_ g (Or.inl (ex_ _ (an_ ho (an_ rfl (ex_ _ rfl))))))))
 rcases L with(a | _)
 ·replace h:Qqo a=some r:=h
  rintro e σ ⟨rfl,rfl⟩
  obtain⟨B,H,h⟩:=Qc h
  refine Qa hC [.n 5,.cm (.fn) [(615,14)] [(37,600),(14,615)] [] [.d] [(600,.arr 2 (B.map QK)),(615,.map (QB V.I V.I a))] (.own 600 B.length),.n 5,.frz 37 (B.map QK) [4] []] rfl ⟨⟨tt_,(QjD _ H)⟩,⟨tt_,(Qci Qg)⟩⟩ ?_
  cases h
  exact d2_ rfl rfl rfl tt_
 replace h:QuO=some r:=h
 rintro e σ ⟨rfl,rfl⟩
 refine tg_ hC [.n 2,.denil 4 [some 2]] rfl ?_
 cases h
 exact d2_ rfl rfl rfl tt_
def QeQ (a:(List Int))(j:(List QX))(h:(List Int))(k:Qk)(e:Int)(c:QMk):Option ((Int×QMk)⊕(Int⊕QMk)):=
 bif (decide (e<(a.length:Int)))then
 (idx a e).bind fun d=>
 bif ((decide (d<0))||(decide ((j.length:Int)≤d)))then
 some (.inr (.inl 11))
 else
 (idx j d).bind fun l=>
 (Ql6 l.Expr h).bind fun f=>
 bif (f.2 != 0)then
 some (.inr (.inl f.2))
 else
 (idx j d).bind fun b=>
 bif ((decide (b.Place<0))||(decide ((k.Places.length:Int)≤b.Place)))then
 some (.inr (.inl 3))
 else
 (idx k.Places b.Place).bind fun m=>
 (Qfv k.Colours m.Colour f.1).bind fun i=>
 bif (!i.2)then
 some (.inr (.inl 8))
 else
 (idx c b.Place).bind fun n=>
 (Qtj ([i.1]:List Int)).bind fun o=>
 (QbQ n o).bind fun g=>
 (idx c b.Place).bind fun p=>
 bif (g.2 != 0)then
 some (.inr (.inl g.2))
 else
 some (.inl ((w64 (e+1)),(c.set b.Place.toNat g.1)))
 else
 some (.inr (.inr c))
def Qqq (a:Int):Option (QMk×Int):=
 some (([]:List QBg),a)
def Qqr (a:QMk):Option (QMk×Int):=
 some (a,0)
def QcY (b:Qk)(d:(List QX))(a:(List Int))(c:(List Int)):Option (QMk×Int):=
 (chk (decide (0≤(b.Places.length:Int))&&decide ((b.Places.length:Int)≤(b.Places.length:Int))&&decide ((b.Places.length:Int)≤4294967296))).bind fun _=>
 (QE (fun st=>QeQ a d c b st.1 st.2) (0,(List.replicate (b.Places.length:Int).toNat (([]:QBg):QBg)))).bind (Sum.elim (fun q=>Qqq q) (fun q=>Qqr q))
theorem QgI (s D g j){r}(h:QcY s D g j=some r):Qd prog 173 [.agg (Qe s),.sl 4 (D.map Q2),.sl 1 (g.map Qb),.sl 1 (j.map Qb)] [] (Gives (.tup [.sl 1 (r.1.map Qm),.I r.2]) []):=by
 refine Qd.walk 97 func173 rfl rfl rfl fun C hC=>?_
 obtain⟨a5,h⟩:=QaE h
 refine Qa hC [.n 11,.o (.ln s.Places.length),.o (.rows (List.replicate (s.Places.length:Int).toNat [.lit (.slice none 0 0)]))] rfl ⟨⟨tt_,Qg⟩,⟨a5,rfl⟩⟩ ?_
 refine AK.denilA (b:=21) [some 2] rfl (QzM (f:=Qm) (x:=([]:QBg)) rfl) ?_
 refine Qa hC [.S 21 (.own 21 (List.replicate (s.Places.length:Int).toNat (([]:QBg):QBg)).length),.n 7,.o (.ln g.length),.n 4,.K [1,3,4,10,22,23,24] [4,21]] rfl ⟨⟨tt_,(by simp)⟩,Qg⟩ ?_
 obtain⟨a6,M,h⟩:=Qc h
 refine AK.loop (body:=(fun st=>QeQ g D j s st.1 st.2)) (fun st σ=>σ=⟨[(1,.sl 4 (D.map Q2)),(3,.sl 1 (j.map Qb)),(4,.loc 4 0 0),(10,.own 21 st.2.length),(22,.sl 1 (g.map Qb)),(23,.I (g.length:Int)),(24,.I st.1)],[(4,.var (Qe s)),(21,.arr 1 (st.2.map Qm))]⟩) (Sum.elim (fun q e σ=>e=.ret∧σ=⟨[(8,.lit (.slice none 0 0)),(9,.I q)],[]⟩) (fun q e σ=>e=.exit 0∧σ=⟨[(10,.own 21 q.length)],[(21,.arr 1 (q.map Qm))]⟩)) M rfl ?_ ?_
 ·rintro ⟨O,t⟩ o σ rfl h
  refine tg_ hC [.n 6] rfl ?_
  rcases Qt h with⟨u,h⟩|⟨u,h⟩
  ·obtain⟨k,P,h⟩:=Qc h
   refine Qa hC [.T,.n 6,.o (.row (Qb k)),.n 6] rfl ⟨⟨tt_,u⟩,(QJ P)⟩ ?_
   refine AK.meetX (fun σ=>σ=⟨[(1,.sl 4 (D.map Q2)),(3,.sl 1 (j.map Qb)),(4,.loc 4 0 0),(10,.own 21 t.length),(12,.I k),(22,.sl 1 (g.map Qb)),(23,.I (g.length:Int)),(24,.I O),(35,.b ((decide (k<0))||(decide ((D.length:Int)≤k))))],[(4,.var (Qe s)),(21,.arr 1 (t.map Qm))]⟩) ?_ ?_
   ·refine tg_ hC [.n 4] rfl ?_
    rcases Q0 (decide (k<0))with l | l
    ·refine Qa hC [.S 30 (.b true),.n 6,.S 35 (.b ((decide (k<0))||(decide ((D.length:Int)≤k)))),.K [1,3,4,10,12,22,23,24,35] [4,21]] rfl ⟨(tc_ l),(congrArg V.b (orT l rfl))⟩ ?_
     exact AK.met rfl
    refine Qa hC [.S 30 (.b false),.n 2,.o (.ln D.length),.n 3,.S 35 (.b ((decide (k<0))||(decide ((D.length:Int)≤k)))),.K [1,3,4,10,12,22,23,24,35] [4,21]] rfl ⟨⟨(tc_ l),Qg⟩,(congrArg V.b (orF l rfl))⟩ ?_
    exact AK.met rfl
   rintro σ rfl
   refine tg_ hC [.n 1] rfl ?_
   rcases Qt h with⟨w,h⟩|⟨w,h⟩
   ·refine Qa hC [.T,.n 10,.K [8,9] []] rfl ⟨tt_,w⟩ ?_
    cases h
    exact Qal rfl (an_ rfl rfl)
   obtain⟨U,W,h⟩:=Qc h
   obtain⟨J,X,h⟩:=Qc h
   refine Qa hC [.F,.n 6,.o (.row (Q2 U)),.n 1,.v .no [] (.agg (Qp U.Expr)),.n 1,.o (.c false [.d,.d] (.tup [.I J.1,.I J.2])),.n 14] rfl ⟨⟨⟨⟨tt_,w⟩,(QJ W)⟩,rfl⟩,(Qst _ _ X)⟩ ?_
   rcases Qt h with⟨y,h⟩|⟨y,h⟩
   ·refine Qa hC [.T,.n 11,.K [8,9] []] rfl ⟨tt_,y⟩ ?_
    cases h
    exact Qal rfl (an_ rfl rfl)
   obtain⟨i,Y,h⟩:=Qc h
   refine Qa hC [.F,.n 6,.o (.row (Q2 i)),.n 7] rfl ⟨⟨tt_,y⟩,(QJ Y)⟩ ?_
   refine AK.meetX (fun σ=>σ=⟨[(1,.sl 4 (D.map Q2)),(3,.sl 1 (j.map Qb)),(4,.loc 4 0 0),(10,.own 21 t.length),(13,.I J.1),(15,.I i.Place),(22,.sl 1 (g.map Qb)),(23,.I (g.length:Int)),(24,.I O),(62,.b ((decide (i.Place<0))||(decide ((s.Places.length:Int)≤i.Place))))],[(4,.var (Qe s)),(21,.arr 1 (t.map Qm))]⟩) ?_ ?_
   ·refine tg_ hC [.n 4] rfl ?_
    rcases Q0 (decide (i.Place<0))with p | p
    ·refine Qa hC [.S 56 (.b true),.n 7,.S 62 (.b ((decide (i.Place<0))||(decide ((s.Places.length:Int)≤i.Place)))),.K [1,3,4,10,13,15,22,23,24,62] [4,21]] rfl ⟨(tc_ p),(congrArg V.b (orT p rfl))⟩ ?_
     exact AK.met rfl
    refine Qa hC [.S 56 (.b false),.n 3,.o (.ln s.Places.length),.n 3,.S 62 (.b ((decide (i.Place<0))||(decide ((s.Places.length:Int)≤i.Place)))),.K [1,3,4,10,13,15,22,23,24,62] [4,21]] rfl ⟨⟨(tc_ p),Qg⟩,(congrArg V.b (orF p rfl))⟩ ?_
    exact AK.met rfl
   rintro σ rfl
   refine tg_ hC [.n 1] rfl ?_
   rcases Qt h with⟨z,h⟩|⟨z,h⟩
   ·refine Qa hC [.T,.n 10,.K [8,9] []] rfl ⟨tt_,z⟩ ?_
    cases h
    exact Qal rfl (an_ rfl rfl)
   obtain⟨a7,Z,h⟩:=Qc h
   obtain⟨L,a0,h⟩:=Qc h
   refine Qa hC [.F,.n 3,.K [1,3,4,10,13,15,22,23,24] [4,21]] rfl ⟨tt_,z⟩ ?_
   refine AK.draw2 Qs hC mixed [.N,.N,.N,.N,.N,.a (.row (QC a7)) none false,.N,.N,.N,.a (.c false [.d,.d,.d] (.tup [.I L.1,.b L.2])) none false,.N,.N,.N,.N,.N] [] [] [1,3,4,10,15,16,17,22,23,24] [4,21] rfl rfl rfl ⟨⟨tt_,(QJ Z)⟩,(QuK _ _ _ a0)⟩ rfl (by kernel_rfl) rfl rfl rfl ?_
   refine tg_ hC [.n 8] rfl ?_
   rcases Qt h with⟨A,h⟩|⟨A,h⟩
   ·refine Qa hC [.T,.n 10,.K [8,9] []] rfl ⟨tt_,A⟩ ?_
    cases h
    exact Qal rfl (an_ rfl rfl)
   obtain⟨a8,G,h⟩:=Qc h
   obtain⟨a1,a2,h⟩:=Qc h
   obtain⟨E,a3,h⟩:=Qc h
   obtain⟨a9,H,h⟩:=Qc h
   refine Qa hC [.F,.n 3,.K [1,3,4,10,15,16,22,23,24] [4,21]] rfl ⟨tt_,A⟩ ?_
   refine AK.draw2 Qs hC mixed [.N,.N,.N,.N,.N,.a (.row (Qm a8)) none false,.N,.a (.bd []) (some ([],.sl 1 (([L.1]:List Int).map Qb))) false,.a (.cd false [.d] 2 (a1.map QK) a1.length) none false,.a (.c false [.d,.d] (.tup [.sl 2 (E.1.map QK),.I E.2])) none false,.a .no none true true,.N,.a .no none true,.N,.m (.st (Qm a9) ((t.set i.Place.toNat E.1).map Qm)),.N] [1,3,4,10,15,16,22,23,24] [4] [1,3,4,10,14,22,23,24] [4,21] rfl rfl rfl ⟨⟨⟨⟨⟨⟨⟨tt_,(Qbx G rfl)⟩,(QaJ (Qca G).2)⟩,rfl⟩,⟨(QAE _ a2),Qg⟩⟩,(QuP _ _ a3)⟩,(Qbx H rfl)⟩,⟨(QaJ (Qca H).2),Qe7 rfl⟩⟩ rfl (by kernel_rfl) rfl rfl rfl ?_
   refine tg_ hC [.n 7] rfl ?_
   refine bg_ h (fun B h=>Qa hC [.T,.n 10,.K [8,9] []] rfl ⟨tt_,B⟩ ?_) fun B h=>Qa hC [.F,.n 7,.S 10 (.own 21 (t.set i.Place.toNat E.1).length),.K [1,3,4,10,22,23,24] [4,21]] rfl ⟨⟨tt_,B⟩,(congrArg (fun n=>V.own 21 n) (by simp))⟩ ?_
   ·cases h
    exact Qal rfl (an_ rfl rfl)
   cases h
   exact QZ rfl rfl
  refine Qa hC [.F,.n 2,.K [10] [21]] rfl ⟨tt_,u⟩ ?_
  cases h
  exact Q1 rfl (an_ rfl rfl)
 rcases a6 with(b0 | a4)
 ·replace h:Qqq b0=some r:=h
  rintro e σ ⟨rfl,rfl⟩
  refine tg_ hC [.n 2,.denil 8 [some 1]] rfl ?_
  cases h
  exact d2_ rfl rfl rfl tt_
 replace h:Qqr a4=some r:=h
 rintro e σ ⟨rfl,rfl⟩
 refine Qa hC [.n 10,.frz 21 (a4.map Qm) [8] []] rfl ⟨tt_,⟨tt_,(Qci Qg)⟩⟩ ?_
 cases h
 exact d2_ rfl rfl rfl tt_
def QaB (b:QP)(a:(List Int)):Option Int:=
 (QcY b.net b.task.Outs a b.env).bind fun c=>
 some c.2
theorem Ql8 (b a){r}(h:QaB b a=some r):Qd prog 169 [.agg (Qv b),.sl 1 (a.map Qb)] [] (Gives (.I r) []):=by
 refine Qd.walk 20 func169 rfl rfl rfl fun C hC=>?_
 obtain⟨f,e,h⟩:=Qc h
 refine Qa hC [.n 9,.v .no [] (.agg (Qe b.net)),.n 6,.o (.c false [.d,.d,.d,.d] (.tup [.sl 1 (f.1.map Qm),.I f.2])),.n 14] rfl ⟨⟨tt_,rfl⟩,(QgI _ _ _ _ e)⟩ ?_
 cases h
 exact d1_ rfl rfl tt_
def Qir (a:(List Int))(b:QP):Option Bool:=
 (QaB b a).bind fun c=>
 some (c != 0)
theorem Qpg (a e){r}(h:Qir a e=some r):Qd prog 168 [.sl 1 (a.map Qb),.loc 615 0 0] [(615,.var (Qv e))] (Gives (.b r) [(615,.var (Qv e))]):=by
 refine Qd.walk 8 func168 rfl rfl rfl fun C hC=>?_
 obtain⟨g,f,h⟩:=Qc h
 refine Qa hC [.n 7,.v .no [] (.agg (Qv e)),.n 1,.o (.c false [.d,.d] (.I g)),.n 5] rfl ⟨⟨tt_,rfl⟩,(Ql8 _ _ f)⟩ ?_
 cases h
 exact d1_ rfl rfl ⟨rfl,tt_⟩
def Qb0 (c:QLL)(d:QP)(a:Int):Option (Int⊕(Int⊕Unit)):=
 bif (decide (a<(c.length:Int)))then
 (idx c a).bind fun e=>
 (Qir e d).bind fun b=>
 bif b then
 some (.inr (.inl a))
 else
 some (.inl (w64 (a+1)))
 else
 some (.inr (.inr ()))
def Qf5 (a:Int):Option Int:=
 some a
def Qf6 : Option Int:=
 some (-1)
def QcF (a:QLL)(b:QP):Option Int:=
 (QE (fun st=>Qb0 a b st) 0).bind (Sum.elim (fun q=>Qf5 q) (fun q=>Qf6))
theorem Ql9 (c f){r}(h:QcF c f=some r):Qd prog 83 [.own 615 c.length,.clo (.func 168) [] [.loc 616 0 0]] [(615,.arr 1 (c.map Qj)),(616,.var (Qv f))] (Gives (.I r) [(615,.arr 1 (c.map Qj)),(616,.var (Qv f))]):=by
 refine Qd.walk 19 func83 rfl rfl rfl fun C hC=>?_
 refine tg_ hC [.n 14,.K [0,1,7,8] [615,616]] rfl ?_
 obtain⟨l,i,h⟩:=Qc h
 refine AK.loop (body:=(fun st=>Qb0 c f st)) (fun st σ=>σ=⟨[(0,.own 615 c.length),(1,.clo (.func 168) [] [.loc 616 0 0]),(7,.I (c.length:Int)),(8,.I st)],[(615,.arr 1 (c.map Qj)),(616,.var (Qv f))]⟩) (Sum.elim (fun q e σ=>e=.ret∧σ=⟨[(4,.I q)],[(615,.arr 1 (c.map Qj)),(616,.var (Qv f))]⟩) (fun q e σ=>e=.exit 0∧σ=⟨[],[(615,.arr 1 (c.map Qj)),(616,.var (Qv f))]⟩)) i rfl ?_ ?_
 ·rintro t o σ rfl h
  refine tg_ hC [.n 6] rfl ?_
  rcases Qt h with⟨g,h⟩|⟨g,h⟩
  ·obtain⟨p,j,h⟩:=Qc h
   obtain⟨m,k,h⟩:=Qc h
   refine Qa hC [.T,.n 16,.o (.row (Qj p)),.cm (.clo) [(615,616)] [(616,615)] [] [.d,.d] [(615,.var (Qv f))] (.b m),.n 2] rfl ⟨⟨⟨⟨tt_,g⟩,(Qbx j rfl)⟩,(QaJ (Qca j).2)⟩,(Qpg _ _ k)⟩ ?_
   refine bg_ h (fun a h=>Qa hC [.T,.n 9,.K [4] [615,616]] rfl ⟨tt_,a⟩ ?_) fun a h=>Qa hC [.F,.n 7,.K [0,1,7,8] [615,616]] rfl ⟨tt_,a⟩ ?_
   ·cases h
    exact Qal rfl (an_ rfl rfl)
   cases h
   exact QZ rfl rfl
  refine Qa hC [.F,.n 2,.K [] [615,616]] rfl ⟨tt_,g⟩ ?_
  cases h
  exact Q1 rfl (an_ rfl rfl)
 rcases l with(s | _)
 ·replace h:Qf5 s=some r:=h
  rintro e σ ⟨rfl,rfl⟩
  refine tg_ hC [.n 2] rfl ?_
  cases h
  exact d1_ rfl rfl ⟨rfl,rfl,tt_⟩
 replace h:Qf6=some r:=h
 rintro e σ ⟨rfl,rfl⟩
 refine tg_ hC [.n 8] rfl ?_
 cases h
 exact d1_ rfl rfl ⟨rfl,rfl,tt_⟩
def Qdj (a:Int)(b:Int)(c:QLL):Option ((Int×Int×QLL)⊕(Int×QLL)):=
 some (.inl (b,(w64 (a+1)),c))
def Qb1 (f:QP)(c:Int)(b:Int)(a:QLL):Option ((Int×Int×QLL)⊕(Int×QLL)):=
 bif (decide (b<(a.length:Int)))then
 (idx a b).bind fun d=>
 (Qir d f).bind fun e=>
 bif (!e)then
 (idx a c).bind fun g=>
 Qdj b (w64 (c+1)) (a.set c.toNat d)
 else
 Qdj b c a
 else
 some (.inr (c,a))
def Qb2 (a:Int)(b:QLL):Option QLL:=
 (chk (decide (0≤a)&&decide (a.toNat≤b.length))).bind fun _=>
 (chk (decide (0≤a)&&decide (a.toNat≤(b.take a.toNat++List.replicate (b.length-a.toNat) (([]:(List Int)):(List Int))).length))).bind fun _=>
 some ((b.take a.toNat++List.replicate (b.length-a.toNat) (([]:(List Int)):(List Int))).take a.toNat)
def QcG (a:QLL)(c:QP):Option QLL:=
 (QcF a c).bind fun b=>
 bif (b==(-1))then
 some a
 else
 (QE (fun st=>Qb1 c st.1 st.2.1 st.2.2) (b,(w64 (b+1)),a)).bind (fun q=>Qb2 q.1 q.2)
theorem Qma (D m){r}(h:QcG D m=some r):Qd prog 166 [.own 615 D.length,.clo (.func 168) [] [.loc 616 0 0]] [(615,.arr 1 (D.map Qj)),(616,.var (Qv m))] (Gives (.own 615 r.length) [(615,.arr 1 (r.map Qj)),(616,.var (Qv m))]):=by
 refine Qd.walk 42 func166 rfl rfl rfl fun C hC=>?_
 obtain⟨N,E,h⟩:=Qc h
 refine Qa hC [.n 9,.cm (.fn) [(615,615),(616,616)] [(615,615),(616,616)] [] [.d,.d] [(615,.arr 1 (D.map Qj)),(616,.var (Qv m))] (.I N),.n 10] rfl ⟨tt_,(Ql9 _ _ E)⟩ ?_
 refine bg_ h (fun u h=>Qa hC [.T,.n 8,.K [4] [615,616]] rfl ⟨tt_,u⟩ ?_) fun u h=>Qa hC [.F,.n 11,.K [0,1,5,6] [615,616]] rfl ⟨tt_,u⟩ ?_
 ·cases h
  exact d1_ rfl rfl ⟨rfl,rfl,tt_⟩
 obtain⟨G,y,h⟩:=Qc h
 refine AK.loop (body:=(fun st=>Qb1 m st.1 st.2.1 st.2.2)) (fun st σ=>σ=⟨[(0,.own 615 st.2.2.length),(1,.clo (.func 168) [] [.loc 616 0 0]),(5,.I st.1),(6,.I st.2.1)],[(615,.arr 1 (st.2.2.map Qj)),(616,.var (Qv m))]⟩) (fun q e σ=>e=.exit 0∧σ=⟨[(0,.own 615 q.2.length),(5,.I q.1)],[(615,.arr 1 (q.2.map Qj)),(616,.var (Qv m))]⟩) y rfl ?_ ?_
 ·rintro ⟨L,z,A⟩ o σ rfl h
  refine tg_ hC [.n 9] rfl ?_
  refine bg_ h (fun j h=>Qa hC [.T,.n 2] rfl ⟨tt_,j⟩ ?_) fun j h=>Qa hC [.F,.n 2,.K [0,5] [615,616]] rfl ⟨tt_,j⟩ ?_
  ·refine AK.meet (fun σ=>∃v:Int,∃p:QLL,σ=⟨[(0,.own 615 p.length),(1,.clo (.func 168) [] [.loc 616 0 0]),(5,.I v),(6,.I z)],[(615,.arr 1 (p.map Qj)),(616,.var (Qv m))]⟩∧Qdj z v p=some o) ?_ ?_
   ·obtain⟨w,s,h⟩:=Qc h
    obtain⟨H,B,h⟩:=Qc h
    refine Qa hC [.n 6,.o (.row (Qj w)),.n 7,.cm (.clo) [(615,616)] [(616,615)] [] [.d,.d] [(615,.var (Qv m))] (.b H),.n 3] rfl ⟨⟨⟨tt_,(Qbx s rfl)⟩,(QaJ (Qca s).2)⟩,(Qpg _ _ B)⟩ ?_
    rcases Qt h with⟨k,h⟩|⟨k,h⟩
    ·obtain⟨J,t,h⟩:=Qc h
     refine Qa hC [.T,.n 6,.st (Qj J) ((A.set L.toNat w).map Qj),.n 8,.S 0 (.own 615 (A.set L.toNat w).length),.K [0,1,5,6] [615,616]] rfl ⟨⟨⟨⟨tt_,k⟩,(Qbx t rfl)⟩,⟨(QaJ (Qca t).2),Qe7 rfl⟩⟩,(congrArg (fun n=>V.own 615 n) (by simp))⟩ ?_
     exact AK.met (ex_ _ (ex_ _ (an_ rfl h)))
    refine Qa hC [.F,.n 2,.K [0,1,5,6] [615,616]] rfl ⟨tt_,k⟩ ?_
    exact AK.met (ex_ _ (ex_ _ (an_ rfl h)))
   rintro σ ⟨v,p,rfl,h⟩
   refine tg_ hC [.n 5,.K [0,1,5,6] [615,616]] rfl ?_
   cases h
   exact QZ rfl rfl
  cases h
  exact Q1 rfl (an_ rfl rfl)
 obtain⟨a,c⟩:=G
 replace h:Qb2 a c=some r:=h
 rintro e σ ⟨rfl,rfl⟩
 refine tg_ hC [.n 6] rfl ?_
 obtain⟨g,h⟩:=QaE h
 refine AK.clearTail (b:=615) (l:=a.toNat) (n:=c.length) rfl rfl rfl rfl rfl rfl (QH hC.n rfl) rfl rfl Qg (Qs.es rfl) QDQ rfl rfl rfl (Bnd.val rfl (QV (QpX g)) rfl) (QV (Qhh g)) rfl ?_
 refine AK.denilA (b:=615) [some 1] rfl (QCd (f:=Qj) (x:=(([]:(List Int)):(List Int))) (fun _=>rfl) rfl) ?_
 obtain⟨i,h⟩:=QaE h
 refine Qa hC [.S 0 (.own 615 (c.take a.toNat++List.replicate (c.length-a.toNat) (([]:(List Int)):(List Int))).length),.S 36 (.own 615 (c.take a.toNat++List.replicate (c.length-a.toNat) (([]:(List Int)):(List Int))).length),.n 6] rfl ⟨⟨tt_,(Qw8 (QV (Qhh g)))⟩,(Qw8 (QV (Qhh g)))⟩ ?_
 have M:a.toNat=((c.take a.toNat++List.replicate (c.length-a.toNat) (([]:(List Int)):(List Int))).take a.toNat).length:=by rw [Qfh,QpI (QV (Qhh i))]
 refine Qa hC [.x (fun σ=>(σ.set 615 (.arr 1 (((c.take a.toNat++List.replicate (c.length-a.toNat) (([]:(List Int)):(List Int))).take a.toNat).map Qj))).put 41 (.own 615 a.toNat)),.S 41 (.own 615 ((c.take a.toNat++List.replicate (c.length-a.toNat) (([]:(List Int)):(List Int))).take a.toNat).length),.n 4] rfl ⟨⟨tt_,(Stp.sliceO rfl rfl (QH hC.n rfl) rfl rfl (Qs.es rfl) Bnd.no (Bnd.val rfl (QV (QpX i)) rfl) (QV (Qhh i)) (by simp))⟩,(QB5 (QV (Qhh i)))⟩ ?_
 cases h
 exact d1_ rfl rfl ⟨rfl,rfl,tt_⟩
def Qdk (a:QBg)(b:Int)(c:Int):Option (Unit⊕Unit):=
 bif (decide (((QR a b).getD 0)<c))then
 some (.inr ())
 else
 some (.inl ())
def Qmb : Option Bool:=
 some true
def Qmc : Option Bool:=
 some false
def QeF (a:QBg)(b:QBg):Option Bool:=
 (QcE (fun st p=>Qdk b p.1 p.2) () a).bind (Sum.elim (fun q=>Qmb) (fun q=>Qmc))
theorem Qmd (j d){r}(h:QeF j d=some r):Qd prog 175 [.map 615,.map 616] [(615,.map (QB V.I V.I j)),(616,.map (QB V.I V.I d))] (Gives (.b r) [(615,.map (QB V.I V.I j)),(616,.map (QB V.I V.I d))]):=by
 refine Qd.walk 19 func175 rfl rfl rfl fun C hC=>?_
 refine tg_ hC [.n 9] rfl ?_
 refine AK.openMap (b:=615) Qen rfl fun a c L5 s t=>?_
 refine Qa hC [.x (fun σ=>(σ.set 8 (.itr a c #[] none)).put 8 (.loc 8 0 0)),.n 3,.K [1,8] [8,615,616]] rfl ⟨tt_,(Stp.range (b:=615) rfl rfl (QH hC.n rfl) rfl rfl Qhj rfl)⟩ ?_
 obtain⟨w,u,h⟩:=Qc h
 refine AK.range (body:=(fun st p=>Qdk d p.1 p.2)) (fun st seen σ=>∃cur:Option Nat,σ=⟨[(1,.map 616),(8,.loc 8 0 0)],[(8,.itr a c seen cur),(615,.mapX a c (Qbt V.I V.I L5) (QB V.I V.I j)),(616,.map (QB V.I V.I d))]⟩) (fun q e σ=>e=.ret∧σ=⟨[(4,.b false)],[(615,.mapX a c (Qbt V.I V.I L5) (QB V.I V.I j)),(616,.map (QB V.I V.I d))]⟩) (fun st e σ=>e=.exit 0∧σ=⟨[],[(615,.mapX a c (Qbt V.I V.I L5) (QB V.I V.I j)),(616,.map (QB V.I V.I d))]⟩) s t u (ex_ _ rfl) ?_ ?_
 ·rintro _ seen σ ⟨cur,rfl⟩ hex
  refine tg_ hC [.n 2] rfl ?_
  refine AK.nextT (b:=8) (m:=615) rfl rfl rfl (QH hC.n rfl) rfl rfl rfl rfl ?_ ?_
  ·intro hleft
   refine tg_ hC [.n 7,.K [] [615,616]] rfl ?_
   exact AK.done (Or.inl (an_ hleft (an_ (fun h=>(by cases h)) (an_ rfl rfl))))
  intro B v y g
  obtain⟨o,h⟩:=hex _ g
  have ho:=h
  replace h:Qdk d v y=some o:=h
  refine Qa hC [.n 10,.x (fun σ=>σ.put 11 (.tup [.I v,.I y])),.n 11,.o (.any (.I ((QR d v).getD 0)) none),.n 3] rfl ⟨⟨tt_,(Stp.entryT (b:=8) (m:=615) (e:=V.I) (f:=V.I) rfl rfl (QH hC.n rfl) rfl g rfl rfl)⟩,(fun σ A D _=>Stp.lookup (e:=V.I) (f:=V.I) (l:=d) (k:=v) (z:=0) rfl rfl (QH hC.n rfl) (A _ _ rfl) (D _ _ rfl) (A _ _ rfl) Qhj Qen Qwf rfl)⟩ ?_
  refine bg_ h (fun i h=>Qa hC [.T,.n 7,.K [4] [615,616]] rfl ⟨tt_,i⟩ ?_) fun i h=>Qa hC [.F,.n 2,.K [1,8] [8,615,616]] rfl ⟨tt_,i⟩ ?_
  ·cases h
   exact AK.done (Or.inr (ex_ _ (an_ g (Or.inr (ex_ _ (an_ ho (an_ (fun h=>(by cases h)) (an_ rfl rfl))))))))
  cases h
  exact AK.done (Or.inr (ex_ _ (an_ g (Or.inl (ex_ _ (an_ ho (an_ rfl (ex_ _ rfl))))))))
 rcases w with(_ | _)
 ·replace h:Qmb=some r:=h
  rintro e σ ⟨rfl,rfl⟩
  refine tg_ hC [.n 8] rfl ?_
  refine AK.closeMap (b:=615) rfl ?_
  cases h
  exact d1_ rfl rfl ⟨rfl,rfl,tt_⟩
 replace h:Qmc=some r:=h
 rintro e σ ⟨rfl,rfl⟩
 refine tg_ hC [.n 2] rfl ?_
 refine AK.closeMap (b:=615) rfl ?_
 cases h
 exact d1_ rfl rfl ⟨rfl,rfl,tt_⟩
def Qrq (a:Unit):Option Bool:=
 some false
def Qrr (a:QBg):Option Bool:=
 some false
def Qrs (a:QBg):Option Bool:=
 some false
def Qnz (b:(QBg×QBg)):Option Bool:=
 (QeF b.1 b.2).bind fun a=>
 some a
def QnA (a:QBg)(b:QBg):Option Bool:=
 (QlE a b).bind (Sum.elim (fun q=>Qrq q) (Sum.elim (fun q=>Qrr q) (Sum.elim (fun q=>Qrs q) (fun q=>Qnz q))))
theorem Qxj (g i){r}(h:QnA g i=some r):Qd prog 236 [.sl 2 (g.map QK),.sl 2 (i.map QK)] [] (Gives (.b r) []):=by
 refine Qd.walk 21 func236 rfl rfl rfl fun C hC=>?_
 obtain⟨l,a,h⟩:=Qc h
 refine tg_ hC [.n 9] rfl ?_
 rcases l with(m | (j | (k | c)))
 ·replace h:Qrq m=some r:=h
  refine Qa hC [.cm (.fn) [] [] [] [.d,.d] [] (.tup [.lit (.map none),.lit (.map none),.b false]),.n 21] rfl ⟨tt_,(QbV _ _ a)⟩ ?_
  cases h
  exact d1_ rfl rfl tt_
 ·replace h:Qrr j=some r:=h
  refine Qa hC [.cm (.fn) [] [(11,603)] [] [.d,.d] [(603,.map (QB V.I V.I j))] (.tup [.lit (.map none),.map 603,.b false]),.n 21] rfl ⟨tt_,(QbV _ _ a)⟩ ?_
  cases h
  exact d1_ rfl rfl tt_
 ·replace h:Qrs k=some r:=h
  refine Qa hC [.cm (.fn) [] [(11,602)] [] [.d,.d] [(602,.map (QB V.I V.I k))] (.tup [.map 602,.lit (.map none),.b false]),.n 21] rfl ⟨tt_,(QbV _ _ a)⟩ ?_
  cases h
  exact d1_ rfl rfl tt_
 replace h:Qnz c=some r:=h
 obtain⟨f,e,h⟩:=Qc h
 refine Qa hC [.cm (.fn) [] [(11,602),(608,603)] [] [.d,.d] [(602,.map (QB V.I V.I c.1)),(603,.map (QB V.I V.I c.2))] (.tup [.map 602,.map 603,.b true]),.n 15,.cm (.fn) [(615,11),(616,608)] [(11,615),(608,616)] [] [.d,.d] [(615,.map (QB V.I V.I c.1)),(616,.map (QB V.I V.I c.2))] (.b f),.n 5] rfl ⟨⟨tt_,(QbV _ _ a)⟩,(Qmd _ _ e)⟩ ?_
 cases h
 exact d1_ rfl rfl tt_
def Q9 (d:QMk)(e:QMk)(a:Int):Option (Int⊕(Unit⊕Unit)):=
 bif (decide (a<(d.length:Int)))then
 (idx d a).bind fun f=>
 (idx e a).bind fun b=>
 (QnA f b).bind fun c=>
 bif (!c)then
 some (.inr (.inl ()))
 else
 some (.inl (w64 (a+1)))
 else
 some (.inr (.inr ()))
def Qbv : Option Bool:=
 some false
def Qbw : Option Bool:=
 some true
def Qat (a:QMk)(b:QMk):Option Bool:=
 bif ((a.length:Int) != (b.length:Int))then
 some false
 else
 (QE (fun st=>Q9 a b st) 0).bind (Sum.elim (fun q=>Qbv) (fun q=>Qbw))
theorem QdX (f j){r}(h:Qat f j=some r):Qd prog 235 [.sl 1 (f.map Qm),.sl 1 (j.map Qm),.clo (.func 236) [] []] [] (Gives (.b r) []):=by
 refine Qd.walk 32 func235 rfl rfl rfl fun C hC=>?_
 refine Qa hC [.n 9,.o (.ln f.length),.n 1,.o (.ln j.length),.n 3] rfl ⟨⟨tt_,Qg⟩,Qg⟩ ?_
 refine bg_ h (fun g h=>Qa hC [.T,.n 7,.K [6] []] rfl ⟨tt_,g⟩ ?_) fun g h=>Qa hC [.F,.n 6,.o (.ln f.length),.n 4,.K [1,2,15,16,17] []] rfl ⟨⟨tt_,g⟩,Qg⟩ ?_
 ·cases h
  exact d1_ rfl rfl tt_
 obtain⟨p,k,h⟩:=Qc h
 refine AK.loop (body:=(fun st=>Q9 f j st)) (fun st σ=>σ=⟨[(1,.sl 1 (j.map Qm)),(2,.clo (.func 236) [] []),(15,.sl 1 (f.map Qm)),(16,.I (f.length:Int)),(17,.I st)],[]⟩) (Sum.elim (fun q e σ=>e=.ret∧σ=⟨[(6,.b false)],[]⟩) (fun q e σ=>e=.exit 0∧σ=⟨[],[]⟩)) k rfl ?_ ?_
 ·rintro w o σ rfl h
  refine tg_ hC [.n 6] rfl ?_
  rcases Qt h with⟨i,h⟩|⟨i,h⟩
  ·obtain⟨v,s,h⟩:=Qc h
   obtain⟨t,l,h⟩:=Qc h
   obtain⟨u,m,h⟩:=Qc h
   refine Qa hC [.T,.n 7,.o (.row (Qm v)),.n 9,.o (.row (Qm t)),.n 9,.o (.c false [.d,.d] (.b u)),.n 3] rfl ⟨⟨⟨⟨tt_,i⟩,(QJ s)⟩,(QJ l)⟩,(Qxj _ _ m)⟩ ?_
   refine bg_ h (fun a h=>Qa hC [.T,.n 8,.K [6] []] rfl ⟨tt_,a⟩ ?_) fun a h=>Qa hC [.F,.n 7,.K [1,2,15,16,17] []] rfl ⟨tt_,a⟩ ?_
   ·cases h
    exact Qal rfl (an_ rfl rfl)
   cases h
   exact QZ rfl rfl
  refine Qa hC [.F,.n 2,.K [] []] rfl ⟨tt_,i⟩ ?_
  cases h
  exact Q1 rfl (an_ rfl rfl)
 rcases p with(_ | _)
 ·replace h:Qbv=some r:=h
  rintro e σ ⟨rfl,rfl⟩
  refine tg_ hC [.n 2] rfl ?_
  cases h
  exact d1_ rfl rfl tt_
 replace h:Qbw=some r:=h
 rintro e σ ⟨rfl,rfl⟩
 refine tg_ hC [.n 8] rfl ?_
 cases h
 exact d1_ rfl rfl tt_
def Qjn (a:QMk)(b:QMk):Option Bool:=
 (Qat a b).bind fun c=>
 some c
theorem Qqs (a e){r}(h:Qjn a e=some r):Qd prog 215 [.sl 1 (a.map Qm),.sl 1 (e.map Qm)] [] (Gives (.b r) []):=by
 refine Qd.walk 8 func215 rfl rfl rfl fun C hC=>?_
 obtain⟨f,c,h⟩:=Qc h
 refine Qa hC [.n 9,.cm (.fn) [] [] [] [.d,.d,.d] [] (.b f),.n 4] rfl ⟨tt_,(QdX _ _ c)⟩ ?_
 cases h
 exact d1_ rfl rfl tt_
def Qe1 (a:Int):Option (Int⊕(Unit⊕Unit)):=
 some (.inl (w64 (a+1)))
def Qme (a:(QMk×Int))(c:QP):Option Bool:=
 bif (a.2==0)then
 (Qjn a.1 c.m).bind fun b=>
 some b
 else
 some false
def Qe2 (a:Int)(b:Bool):Option (Int⊕(Unit⊕Unit)):=
 bif b then
 some (.inr (.inl ()))
 else
 Qe1 a
def Qe3 (d:QP)(b:(List Int))(a:Int):Option (Int⊕(Unit⊕Unit)):=
 bif (decide (a<(d.task.Ins.length:Int)))then
 (QbK b a).bind fun f=>
 bif f then
 Qe1 a
 else
 (Qad b).bind fun c=>
 (chk (decide (c.length+([a]:List Int).length≤4294967296))).bind fun _=>
 (QaW (c++([a]:List Int))).bind fun e=>
 (chk (decide (e.length=(c++([a]:List Int)).length))).bind fun _=>
 (QcY d.net d.task.Ins e d.env).bind fun g=>
 (Qme g d).bind (fun h=>Qe2 a h)
 else
 some (.inr (.inr ()))
def Qmf : Option Int:=
 some 11
def Qmg : Option Int:=
 some 0
def Qap (b:QP)(a:(List Int)):Option Int:=
 (QcY b.net b.task.Ins a b.env).bind fun c=>
 bif (c.2 != 0)then
 some c.2
 else
 (Qjn c.1 b.m).bind fun d=>
 bif (!d)then
 some 10
 else
 bif (b.task.Join != 3)then
 some 0
 else
 (QE (fun st=>Qe3 b a st) 0).bind (Sum.elim (fun q=>Qmf) (fun q=>Qmg))
theorem Qmh (g a){r}(h:Qap g a=some r):Qd prog 170 [.agg (Qv g),.sl 1 (a.map Qb)] [] (Gives (.I r) []):=by
 refine Qd.walk 76 func170 rfl rfl rfl fun C hC=>?_
 obtain⟨U,L,h⟩:=Qc h
 refine Qa hC [.n 9,.v .no [] (.agg (Qe g.net)),.n 6,.o (.c false [.d,.d,.d,.d] (.tup [.sl 1 (U.1.map Qm),.I U.2])),.n 16] rfl ⟨⟨tt_,rfl⟩,(QgI _ _ _ _ L)⟩ ?_
 rcases Qt h with⟨t,h⟩|⟨t,h⟩
 ·refine Qa hC [.T,.n 9] rfl ⟨tt_,t⟩ ?_
  cases h
  exact d1_ rfl rfl tt_
 obtain⟨W,M,h⟩:=Qc h
 refine Qa hC [.F,.n 5,.o (.c false [.d,.d] (.b W)),.n 4] rfl ⟨⟨tt_,t⟩,(Qqs _ _ M)⟩ ?_
 refine bg_ h (fun u h=>Qa hC [.T,.n 8,.K [4] []] rfl ⟨tt_,u⟩ ?_) fun u h=>Qa hC [.F,.n 9] rfl ⟨tt_,u⟩ ?_
 ·cases h
  exact d1_ rfl rfl tt_
 refine bg_ h (fun w h=>Qa hC [.T,.n 8,.K [4] []] rfl ⟨tt_,w⟩ ?_) fun w h=>Qa hC [.F,.n 9,.o (.ln g.task.Ins.length),.n 4,.K [1,2,41,42] [2]] rfl ⟨⟨tt_,w⟩,Qg⟩ ?_
 ·cases h
  exact d1_ rfl rfl tt_
 obtain⟨N,y,h⟩:=Qc h
 refine AK.loop (body:=(fun st=>Qe3 g a st)) (fun st σ=>σ=⟨[(1,.sl 1 (a.map Qb)),(2,.loc 2 0 0),(41,.I (g.task.Ins.length:Int)),(42,.I st)],[(2,.var (Qv g))]⟩) (Sum.elim (fun q e σ=>e=.ret∧σ=⟨[(4,.I 11)],[]⟩) (fun q e σ=>e=.exit 1∧σ=⟨[],[]⟩)) y rfl ?_ ?_
 ·rintro f o σ rfl h
  refine tg_ hC [.n 6] rfl ?_
  refine bg_ h (fun i h=>Qa hC [.T,.n 2] rfl ⟨tt_,i⟩ ?_) fun i h=>Qa hC [.F,.n 2,.K [] []] rfl ⟨tt_,i⟩ ?_
  ·refine AK.meet (fun σ=>σ=⟨[(1,.sl 1 (a.map Qb)),(2,.loc 2 0 0),(41,.I (g.task.Ins.length:Int)),(42,.I f)],[(2,.var (Qv g))]⟩∧Qe1 f=some o) ?_ ?_
   ·obtain⟨O,z,h⟩:=Qc h
    refine Qa hC [.n 12,.o (.c false [.d,.d] (.b O)),.n 2] rfl ⟨tt_,(Qip _ _ z)⟩ ?_
    rcases Qt h with⟨j,h⟩|⟨j,h⟩
    ·refine Qa hC [.T,.n 3,.K [1,2,41,42] [2]] rfl ⟨tt_,j⟩ ?_
     exact AK.met (an_ rfl h)
    obtain⟨s,A,h⟩:=Qc h
    obtain⟨B,h⟩:=QaE h
    obtain⟨k,D,h⟩:=Qc h
    obtain⟨l,h⟩:=QaE h
    obtain⟨E,G,h⟩:=Qc h
    refine Qa hC [.F,.n 5,.o (.co false [.d] 1 (s.map Qb) s.length),.n 1,.v (.bd []) [] (.sl 1 (([f]:List Int).map Qb)),.app ((s++([f]:List Int)).map Qb) (s++([f]:List Int)).length,.n 6,.cm (.fn) [(615,49)] [(49,615)] [] [.d] [(615,.arr 1 (k.map Qb))] (.tup []),.S 8 (.own 49 k.length),.S 52 (.own 49 k.length),.S 53 (.own 49 k.length),.n 5,.v .no [] (.agg (Qe g.net)),.n 6,.frz 49 (k.map Qb) [8,52,53,61] [],.o (.c false [.d,.d,.d,.d] (.tup [.sl 1 (E.1.map Qm),.I E.2])),.n 8] rfl ⟨⟨⟨⟨⟨⟨⟨⟨⟨⟨⟨tt_,j⟩,⟨(Qa6 _ A),Qg,.inl rfl⟩⟩,rfl⟩,⟨Qg,Qgj B Qg,Qc1,QfN Qg⟩⟩,(Qgs _ D)⟩,(by simp [QV l])⟩,(by simp [QV l])⟩,(by simp [QV l])⟩,rfl⟩,⟨⟨⟨⟨tt_,(Qci Qg)⟩,(Qci Qg)⟩,(Qci Qg)⟩,(Qci Qg)⟩⟩,(QgI _ _ _ _ G)⟩ ?_
    obtain⟨x,H,h⟩:=Qc h
    replace h:Qe2 f x=some o:=h
    refine AK.meetX (fun σ=>σ=⟨[(1,.sl 1 (a.map Qb)),(2,.loc 2 0 0),(41,.I (g.task.Ins.length:Int)),(42,.I f),(74,.b x)],[(2,.var (Qv g))]⟩) ?_ ?_
    ·replace h:=H
     refine tg_ hC [.n 4] rfl ?_
     rcases Qt h with⟨m,h⟩|⟨m,h⟩
     ·obtain⟨P,J,h⟩:=Qc h
      refine Qa hC [.S 69 (.b true),.n 3,.o (.c false [.d,.d] (.b P)),.n 2,.K [1,2,41,42,74] [2]] rfl ⟨(tc_ m),(Qqs _ _ J)⟩ ?_
      cases h
      exact AK.met rfl
     refine Qa hC [.S 69 (.b false),.n 6,.K [1,2,41,42,74] [2]] rfl (tc_ m) ?_
     cases h
     exact AK.met rfl
    rintro σ rfl
    replace h:Qe2 f x=some o:=h
    refine tg_ hC [.n 1] rfl ?_
    refine bg_ h (fun p h=>Qa hC [.T,.n 8,.K [4] []] rfl ⟨tt_,p⟩ ?_) fun p h=>Qa hC [.F,.n 2,.K [1,2,41,42] [2]] rfl ⟨tt_,p⟩ ?_
    ·cases h
     exact Qal rfl (an_ rfl rfl)
    exact AK.met (an_ rfl h)
   rintro σ ⟨rfl,h⟩
   refine tg_ hC [.n 4,.K [1,2,41,42] [2]] rfl ?_
   cases h
   exact QZ rfl rfl
  cases h
  exact Q1 rfl (an_ rfl rfl)
 rcases N with(_ | _)
 ·replace h:Qmf=some r:=h
  rintro e σ ⟨rfl,rfl⟩
  refine tg_ hC [.n 2] rfl ?_
  cases h
  exact d1_ rfl rfl tt_
 replace h:Qmg=some r:=h
 rintro e σ ⟨rfl,rfl⟩
 refine tg_ hC [.n 8] rfl ?_
 cases h
 exact d1_ rfl rfl tt_
def QkL (a:(Int×QP)):Option Bool:=
 bif (a.1 != 0)then
 some true
 else
 (Qam a.2).bind fun b=>
 some (b != 0)
def QcW (a:Int)(b:(List Qq)):Option ((Int×(List Qq))⊕((List Qq)⊕(List Qq))):=
 some (.inl ((w64 (a+1)),b))
def Qd6 (f:QLL)(j:(List Int))(h:(List Int))(g:Int)(k:Int)(e:Int)(a:(List Qq)):Option ((Int×(List Qq))⊕((List Qq)⊕(List Qq))):=
 bif (decide (e<(f.length:Int)))then
 (idx f e).bind fun i=>
 (Qad j).bind fun b=>
 (Qad h).bind fun c=>
 (Qad i).bind fun d=>
 (chk (decide (a.length+([(Qq.mk g b c d)]:List Qq).length≤4294967296))).bind fun _=>
 bif (((a++[(Qq.mk g b c d)]).length:Int)==k)then
 some (.inr (.inl (a++[(Qq.mk g b c d)])))
 else
 some (.inl ((w64 (e+1)),(a++[(Qq.mk g b c d)])))
 else
 some (.inr (.inr a))
def QkM (a:(List Qq)):Option ((Int×(List Qq))⊕((List Qq)⊕(List Qq))):=
 some (.inr (.inl a))
def QgJ (a:Int)(b:(List Qq)):Option ((Int×(List Qq))⊕((List Qq)⊕(List Qq))):=
 QcW a b
def Qd7 (g:QLL)(d:(Int×QP))(e:QLL)(h:(List Int))(i:Int)(j:Int)(a:Int)(b:(List Qq)):Option ((Int×(List Qq))⊕((List Qq)⊕(List Qq))):=
 bif (decide (a<(g.length:Int)))then
 (idx g a).bind fun c=>
 (Qap d.2 c).bind fun f=>
 bif (f != 0)then
 QcW a b
 else
 (QE (fun st=>Qd6 e h c i j st.1 st.2) (0,b)).bind (Sum.elim (fun q=>QkM q) (fun q=>QgJ a q))
 else
 some (.inr (.inr b))
def QkN (a:(List Qq)):Option ((List Qq)⊕(List Qq)):=
 some (.inl a)
def QkO (a:(List Qq)):Option ((List Qq)⊕(List Qq)):=
 some (.inr a)
def Qd8 (e:(List Qq))(f:QLL)(a:(Int×QP))(g:QLL)(h:(List Int))(i:Int)(j:Int)(b:Bool):Option ((List Qq)⊕(List Qq)):=
 bif b then
 some (.inr e)
 else
 (QdV f).bind fun c=>
 (QcG c a.2).bind fun d=>
 (QE (fun st=>Qd7 g a d h i j st.1 st.2) (0,e)).bind (Sum.elim (fun q=>QkN q) (fun q=>QkO q))
def Qfw (e:Qk)(f:QMk)(c:Int)(g:Int)(k:(List Qq))(h:QLL)(i:QLL)(j:(List Qq))(d:(List Int)):Option ((List Qq)⊕(List Qq)):=
 (Qcl e f c d).bind fun a=>
 (QkL a).bind (fun b=>Qd8 j i a h d c g b)
theorem QkP (lpl lpf:Nat)(x:Qk)(y:QMk)(j:Int)(u:Int)(k:(List Qq))(i:QLL)(w:QLL)(U:(List Qq))(z:(List Int)){r:((List Qq)⊕(List Qq))}(h:Qfw x y j u k i w U z=some r):Qky prog lpl (QaT lpf) (QF5 (.loc 616 0 0) (.loc 617 0 0) (.loc 618 0 0) (.loc 619 0 0) (.loc 620 0 0) (.loc 621 0 0) (.loc 622 0 0) (.loc 623 0 0) (.sl 1 (z.map Qb))) [(615,.lp lpl (QaT lpf) (Qeo (.loc 616 0 0) (.loc 617 0 0) (.loc 618 0 0) (.loc 619 0 0) (.loc 620 0 0) (.loc 621 0 0) (.loc 622 0 0) (.loc 623 0 0)) 0),(616,.var (Qe x)),(617,.var (Qaj y)),(618,.var (Qb j)),(619,.var (Qb u)),(620,.var [.own 613 k.length]),(613,.arr 4 (k.map Qo)),(621,.var (QT i)),(622,.var (QT w)),(623,.var [.own 614 U.length]),(614,.arr 4 (U.map Qo))] ((Sum.elim (fun q=>(Gives (.b false) [(613,.arr 4 (k.map Qo)),(614,.arr 4 (q.map Qo)),(615,.lp lpl (QaT lpf) (Qeo (.loc 616 0 0) (.loc 617 0 0) (.loc 618 0 0) (.loc 619 0 0) (.loc 620 0 0) (.loc 621 0 0) (.loc 622 0 0) (.loc 623 0 0)) 2),(616,.var (Qe x)),(617,.var (Qaj y)),(618,.var (Qb j)),(619,.var (Qb u)),(620,.var [.own 614 q.length]),(621,.var (QT i)),(622,.var (QT w)),(623,.var [.own 614 q.length])])) (fun q=>(Gives (.b true) [(613,.arr 4 (k.map Qo)),(614,.arr 4 (q.map Qo)),(615,.lp lpl (QaT lpf) (Qeo (.loc 616 0 0) (.loc 617 0 0) (.loc 618 0 0) (.loc 619 0 0) (.loc 620 0 0) (.loc 621 0 0) (.loc 622 0 0) (.loc 623 0 0)) 0),(616,.var (Qe x)),(617,.var (Qaj y)),(618,.var (Qb j)),(619,.var (Qb u)),(620,.var [.own 613 k.length]),(621,.var (QT i)),(622,.var (QT w)),(623,.var [.own 614 q.length])]))) r):=by
 refine Qky.walk (b:=615) 109 rfl rfl fun C hC=>?_
 refine tg_ hC [.n 3] rfl ?_
 refine AK.done (an_ rfl (ex_ _ (an_ rfl ?_)))
 obtain⟨f,Y,h⟩:=Qc h
 refine Qa hC [.n 3,.v .no [] (.agg (Qe x)),.n 3,.o (.c false [.d,.d,.d,.d] (.tup [.agg (Qv f.2),.I f.1])),.n 5,.O 14 (.var (Qv f.2)),.n 5] rfl ⟨⟨⟨tt_,rfl⟩,(Qrp _ _ _ _ Y)⟩,rfl⟩ ?_
 obtain⟨W,Z,h⟩:=Qc h
 replace h:Qd8 U w f i z j u W=some r:=h
 refine AK.meetX (fun σ=>σ=⟨[(6,.loc 618 0 0),(7,.loc 619 0 0),(8,.loc 620 0 0),(10,.loc 621 0 0),(11,.loc 622 0 0),(12,.loc 623 0 0),(13,.sl 1 (z.map Qb)),(14,.loc 14 0 0),(69,.b W)],[(14,.var (Qv f.2)),(613,.arr 4 (k.map Qo)),(614,.arr 4 (U.map Qo)),(615,.lp lpl (QaT lpf) (Qeo (.loc 616 0 0) (.loc 617 0 0) (.loc 618 0 0) (.loc 619 0 0) (.loc 620 0 0) (.loc 621 0 0) (.loc 622 0 0) (.loc 623 0 0)) 1),(616,.var (Qe x)),(617,.var (Qaj y)),(618,.var (Qb j)),(619,.var (Qb u)),(620,.var [.own 613 k.length]),(621,.var (QT i)),(622,.var (QT w)),(623,.var [.own 614 U.length])]⟩) ?_ ?_
 ·replace h:=Z
  refine tg_ hC [.n 4] rfl ?_
  rcases Qt h with⟨A,h⟩|⟨A,h⟩
  ·refine Qa hC [.S 65 (.b true),.n 5,.K [6,7,8,10,11,12,13,14,69] [14,613,614,615,616,617,618,619,620,621,622,623]] rfl (tc_ A) ?_
   cases h
   exact AK.met rfl
  obtain⟨b2,a0,h⟩:=Qc h
  refine Qa hC [.S 65 (.b false),.v .no [] (.agg (Qv f.2)),.o (.c false [.d] (.I b2)),.n 3,.K [6,7,8,10,11,12,13,14,69] [14,613,614,615,616,617,618,619,620,621,622,623]] rfl ⟨⟨(tc_ A),rfl⟩,(QkK _ a0)⟩ ?_
  cases h
  exact AK.met rfl
 rintro σ rfl
 replace h:Qd8 U w f i z j u W=some r:=h
 refine tg_ hC [.n 1] rfl ?_
 rcases Qt h with⟨B,h⟩|⟨B,h⟩
 ·refine Qa hC [.T,.n 3,.K [] [613,614,615,616,617,618,619,620,621,622,623]] rfl ⟨tt_,B⟩ ?_
  cases h
  refine AK.done ?_
  exact ex_ _ (an_ rfl (gives ⟨rfl,rfl,rfl,rfl,rfl,rfl,rfl,rfl,rfl,rfl,rfl,tt_⟩))
 obtain⟨a1,a2,h⟩:=Qc h
 obtain⟨g,a3,h⟩:=Qc h
 refine Qa hC [.F,.n 5,.o (.co false [.d] 1 (a1.map Qj) a1.length),.n 1,.cm (.fn) [(615,71),(616,14)] [(71,615),(14,616)] [] [.d,.d] [(615,.arr 1 (g.map Qj)),(616,.var (Qv f.2))] (.own 615 g.length),.n 6,.o (.ln i.length),.n 4,.K [6,7,8,12,13,14,16,74,75,76] [14,71,613,614,615,616,617,618,619,620,621,622,623]] rfl ⟨⟨⟨⟨tt_,B⟩,⟨(Qn9 _ a2),Qg,.inl rfl⟩⟩,(Qma _ _ a3)⟩,Qg⟩ ?_
 obtain⟨b3,a4,h⟩:=Qc h
 refine AK.loop (body:=(fun st=>Qd7 i f g z j u st.1 st.2)) (fun st σ=>σ=⟨[(6,.loc 618 0 0),(7,.loc 619 0 0),(8,.loc 620 0 0),(12,.loc 623 0 0),(13,.sl 1 (z.map Qb)),(14,.loc 14 0 0),(16,.own 71 g.length),(74,.sl 1 (i.map Qj)),(75,.I (i.length:Int)),(76,.I st.1)],[(14,.var (Qv f.2)),(71,.arr 1 (g.map Qj)),(613,.arr 4 (k.map Qo)),(614,.arr 4 (st.2.map Qo)),(615,.lp lpl (QaT lpf) (Qeo (.loc 616 0 0) (.loc 617 0 0) (.loc 618 0 0) (.loc 619 0 0) (.loc 620 0 0) (.loc 621 0 0) (.loc 622 0 0) (.loc 623 0 0)) 1),(616,.var (Qe x)),(617,.var (Qaj y)),(618,.var (Qb j)),(619,.var (Qb u)),(620,.var [.own 613 k.length]),(621,.var (QT i)),(622,.var (QT w)),(623,.var [.own 614 st.2.length])]⟩) (Sum.elim (fun q e σ=>e=.ret∧σ=⟨[],[(613,.arr 4 (k.map Qo)),(614,.arr 4 (q.map Qo)),(615,.lp lpl (QaT lpf) (Qeo (.loc 616 0 0) (.loc 617 0 0) (.loc 618 0 0) (.loc 619 0 0) (.loc 620 0 0) (.loc 621 0 0) (.loc 622 0 0) (.loc 623 0 0)) 1),(616,.var (Qe x)),(617,.var (Qaj y)),(618,.var (Qb j)),(619,.var (Qb u)),(620,.var [.own 614 q.length]),(621,.var (QT i)),(622,.var (QT w)),(623,.var [.own 614 q.length])]⟩) (fun q e σ=>e=.exit 2∧σ=⟨[],[(613,.arr 4 (k.map Qo)),(614,.arr 4 (q.map Qo)),(615,.lp lpl (QaT lpf) (Qeo (.loc 616 0 0) (.loc 617 0 0) (.loc 618 0 0) (.loc 619 0 0) (.loc 620 0 0) (.loc 621 0 0) (.loc 622 0 0) (.loc 623 0 0)) 1),(616,.var (Qe x)),(617,.var (Qaj y)),(618,.var (Qb j)),(619,.var (Qb u)),(620,.var [.own 613 k.length]),(621,.var (QT i)),(622,.var (QT w)),(623,.var [.own 614 q.length])]⟩)) a4 rfl ?_ ?_
 ·rintro ⟨D,c1⟩ o σ rfl h
  refine tg_ hC [.n 6] rfl ?_
  refine bg_ h (fun E h=>Qa hC [.T,.n 2] rfl ⟨tt_,E⟩ ?_) fun E h=>Qa hC [.F,.n 2,.K [] [613,614,615,616,617,618,619,620,621,622,623]] rfl ⟨tt_,E⟩ ?_
  ·refine AK.meet (fun σ=>∃L:(List Qq),σ=⟨[(6,.loc 618 0 0),(7,.loc 619 0 0),(8,.loc 620 0 0),(12,.loc 623 0 0),(13,.sl 1 (z.map Qb)),(14,.loc 14 0 0),(16,.own 71 g.length),(74,.sl 1 (i.map Qj)),(75,.I (i.length:Int)),(76,.I D)],[(14,.var (Qv f.2)),(71,.arr 1 (g.map Qj)),(613,.arr 4 (k.map Qo)),(614,.arr 4 (L.map Qo)),(615,.lp lpl (QaT lpf) (Qeo (.loc 616 0 0) (.loc 617 0 0) (.loc 618 0 0) (.loc 619 0 0) (.loc 620 0 0) (.loc 621 0 0) (.loc 622 0 0) (.loc 623 0 0)) 1),(616,.var (Qe x)),(617,.var (Qaj y)),(618,.var (Qb j)),(619,.var (Qb u)),(620,.var [.own 613 k.length]),(621,.var (QT i)),(622,.var (QT w)),(623,.var [.own 614 L.length])]⟩∧QcW D L=some o) ?_ ?_
   ·obtain⟨X,a5,h⟩:=Qc h
    obtain⟨b4,a6,h⟩:=Qc h
    refine Qa hC [.n 3,.o (.row (Qj X)),.n 7,.v .no [] (.agg (Qv f.2)),.n 1,.o (.c false [.d,.d] (.I b4)),.n 3] rfl ⟨⟨⟨tt_,(QJ a5)⟩,rfl⟩,(Qmh _ _ a6)⟩ ?_
    refine bg_ h (fun G h=>Qa hC [.T,.n 3,.K [6,7,8,12,13,14,16,74,75,76] [14,71,613,614,615,616,617,618,619,620,621,622,623]] rfl ⟨tt_,G⟩ ?_) fun G h=>Qa hC [.F,.n 10,.K [6,7,8,12,13,14,16,18,74,75,76,84,85,86] [14,71,613,614,615,616,617,618,619,620,621,622,623]] rfl ⟨tt_,G⟩ ?_
    ·exact AK.met (ex_ _ (an_ rfl h))
    obtain⟨b5,a7,h⟩:=Qc h
    refine AK.loop (body:=(fun st=>Qd6 g z X j u st.1 st.2)) (fun st σ=>σ=⟨[(6,.loc 618 0 0),(7,.loc 619 0 0),(8,.loc 620 0 0),(12,.loc 623 0 0),(13,.sl 1 (z.map Qb)),(14,.loc 14 0 0),(16,.own 71 g.length),(18,.sl 1 (X.map Qb)),(74,.sl 1 (i.map Qj)),(75,.I (i.length:Int)),(76,.I D),(84,.own 71 g.length),(85,.I (g.length:Int)),(86,.I st.1)],[(14,.var (Qv f.2)),(71,.arr 1 (g.map Qj)),(613,.arr 4 (k.map Qo)),(614,.arr 4 (st.2.map Qo)),(615,.lp lpl (QaT lpf) (Qeo (.loc 616 0 0) (.loc 617 0 0) (.loc 618 0 0) (.loc 619 0 0) (.loc 620 0 0) (.loc 621 0 0) (.loc 622 0 0) (.loc 623 0 0)) 1),(616,.var (Qe x)),(617,.var (Qaj y)),(618,.var (Qb j)),(619,.var (Qb u)),(620,.var [.own 613 k.length]),(621,.var (QT i)),(622,.var (QT w)),(623,.var [.own 614 st.2.length])]⟩) (Sum.elim (fun q e σ=>e=.ret∧σ=⟨[],[(613,.arr 4 (k.map Qo)),(614,.arr 4 (q.map Qo)),(615,.lp lpl (QaT lpf) (Qeo (.loc 616 0 0) (.loc 617 0 0) (.loc 618 0 0) (.loc 619 0 0) (.loc 620 0 0) (.loc 621 0 0) (.loc 622 0 0) (.loc 623 0 0)) 1),(616,.var (Qe x)),(617,.var (Qaj y)),(618,.var (Qb j)),(619,.var (Qb u)),(620,.var [.own 614 q.length]),(621,.var (QT i)),(622,.var (QT w)),(623,.var [.own 614 q.length])]⟩) (fun q e σ=>e=.exit 4∧σ=⟨[(6,.loc 618 0 0),(7,.loc 619 0 0),(8,.loc 620 0 0),(12,.loc 623 0 0),(13,.sl 1 (z.map Qb)),(14,.loc 14 0 0),(16,.own 71 g.length),(74,.sl 1 (i.map Qj)),(75,.I (i.length:Int)),(76,.I D)],[(14,.var (Qv f.2)),(71,.arr 1 (g.map Qj)),(613,.arr 4 (k.map Qo)),(614,.arr 4 (q.map Qo)),(615,.lp lpl (QaT lpf) (Qeo (.loc 616 0 0) (.loc 617 0 0) (.loc 618 0 0) (.loc 619 0 0) (.loc 620 0 0) (.loc 621 0 0) (.loc 622 0 0) (.loc 623 0 0)) 1),(616,.var (Qe x)),(617,.var (Qaj y)),(618,.var (Qb j)),(619,.var (Qb u)),(620,.var [.own 613 k.length]),(621,.var (QT i)),(622,.var (QT w)),(623,.var [.own 614 q.length])]⟩)) a7 rfl ?_ ?_
    ·rintro ⟨c2,M⟩ o σ rfl h
     refine tg_ hC [.n 6] rfl ?_
     rcases Qt h with⟨H,h⟩|⟨H,h⟩
     ·obtain⟨b6,P,h⟩:=Qc h
      obtain⟨l,a8,h⟩:=Qc h
      obtain⟨p,a9,h⟩:=Qc h
      obtain⟨t,b0,h⟩:=Qc h
      obtain⟨b1,h⟩:=QaE h
      refine Qa hC [.T,.n 7,.o (.row (Qj b6)),.n 4,.K [6,7,8,12,13,14,16,18,20,74,75,76,84,85,86] [14,71,613,614,615,616,617,618,619,620,621,622,623]] rfl ⟨⟨⟨tt_,H⟩,(Qbx P rfl)⟩,(QaJ (Qca P).2)⟩ ?_
      refine AK.draw2 Qs hC mixed [.N,.N,.N,.a (.cd false [.d] 1 (l.map Qb) l.length) none false,.N,.a (.cd false [.d] 1 (p.map Qb) p.length) none false,.N,.a (.cd false [.d] 1 (t.map Qb) t.length) none false,.a .no (some ([],.agg (Qo (Qq.mk j l p t)))) false,.a (.bd []) (some ([],.sl 4 (([(Qq.mk j l p t)]:List Qq).map Qo))) false,.m (.app ((M++[(Qq.mk j l p t)]).map Qo) (M++[(Qq.mk j l p t)]).length),.m .s] [] [] [6,7,8,12,13,14,16,18,74,75,76,84,85,86] [14,71,613,614,615,616,617,618,619,620,621,622,623] rfl rfl rfl ⟨⟨⟨⟨⟨⟨tt_,⟨(Qa6 _ a8),Qg⟩⟩,⟨(Qa6 _ a9),Qg⟩⟩,⟨(Qa6 _ b0),Qg⟩⟩,rfl⟩,rfl⟩,⟨Qg,Qgj b1 Qg,Qc1,QfN Qg⟩⟩ rfl (by kernel_rfl) rfl rfl rfl ?_
      refine Qa hC [.O 623 (.var [.own 614 (M++[(Qq.mk j l p t)]).length]),.n 9] rfl ⟨tt_,rfl⟩ ?_
      refine bg_ h (fun J h=>Qa hC [.T,.n 4,.O 620 (.var [.own 614 (M++[(Qq.mk j l p t)]).length]),.n 5,.K [] [613,614,615,616,617,618,619,620,621,622,623]] rfl ⟨⟨tt_,J⟩,rfl⟩ ?_) fun J h=>Qa hC [.F,.n 7,.K [6,7,8,12,13,14,16,18,74,75,76,84,85,86] [14,71,613,614,615,616,617,618,619,620,621,622,623]] rfl ⟨tt_,J⟩ ?_
      ·cases h
       exact Qal rfl (an_ rfl rfl)
      cases h
      exact QZ rfl rfl
     refine Qa hC [.F,.n 2,.K [6,7,8,12,13,14,16,74,75,76] [14,71,613,614,615,616,617,618,619,620,621,622,623]] rfl ⟨tt_,H⟩ ?_
     cases h
     exact Q1 rfl (an_ rfl rfl)
    rcases b5 with(b7 | b8)
    ·replace h:QkM b7=some o:=h
     rintro e σ ⟨rfl,rfl⟩
     refine tg_ hC [.n 3,.K [] [613,614,615,616,617,618,619,620,621,622,623]] rfl ?_
     cases h
     exact Qal rfl (an_ rfl rfl)
    replace h:QgJ D b8=some o:=h
    unfold QgJ at h
    rintro e σ ⟨rfl,rfl⟩
    refine tg_ hC [.n 2,.K [6,7,8,12,13,14,16,74,75,76] [14,71,613,614,615,616,617,618,619,620,621,622,623]] rfl ?_
    exact AK.met (ex_ _ (an_ rfl h))
   rintro σ ⟨L,rfl,h⟩
   refine tg_ hC [.n 4,.K [6,7,8,12,13,14,16,74,75,76] [14,71,613,614,615,616,617,618,619,620,621,622,623]] rfl ?_
   cases h
   exact QZ rfl rfl
  cases h
  exact Q1 rfl (an_ rfl rfl)
 rcases b3 with(b9 | c0)
 ·replace h:QkN b9=some r:=h
  rintro e σ ⟨rfl,rfl⟩
  refine tg_ hC [.n 2,.K [] [613,614,615,616,617,618,619,620,621,622,623]] rfl ?_
  cases h
  refine AK.done ?_
  exact ex_ _ (an_ rfl (gives ⟨rfl,rfl,rfl,rfl,rfl,rfl,rfl,rfl,rfl,rfl,rfl,tt_⟩))
 replace h:QkO c0=some r:=h
 rintro e σ ⟨rfl,rfl⟩
 refine tg_ hC [.n 2,.K [] [613,614,615,616,617,618,619,620,621,622,623]] rfl ?_
 cases h
 refine AK.done ?_
 exact ex_ _ (an_ rfl (gives ⟨rfl,rfl,rfl,rfl,rfl,rfl,rfl,rfl,rfl,rfl,rfl,tt_⟩))
def QnB (a:(List Qq)):Option (((List Int)×(List Qq))⊕((List Qq)⊕(List Qq))):=
 some (.inr (.inr a))
def QnC (at_25:Int)(a:(List Int))(f:QA)(b:Qk):Option Bool:=
 bif (decide (0≤at_25))then
 (idx a at_25).bind fun c=>
 (idx f.Vars at_25).bind fun d=>
 (Qbd b.Colours d.Colour).bind fun e=>
 some (decide (e≤(w64 (c+1))))
 else
 some false
def QfU (a:(List Int))(at_25:Int)(b:Bool):Option ((Int×(List Int))⊕(Int×(List Int))):=
 bif b then
 (idx a at_25).bind fun c=>
 some (.inl ((w64 (at_25-1)),(a.set at_25.toNat 0)))
 else
 some (.inr (at_25,a))
def Qd9 (d:QA)(b:Qk)(at_25:Int)(a:(List Int)):Option ((Int×(List Int))⊕(Int×(List Int))):=
 (QnC at_25 a d b).bind (fun c=>QfU a at_25 c)
def QfV (b:(List Qq))(at_29:Int)(a:(List Int)):Option (((List Int)×(List Qq))⊕((List Qq)⊕(List Qq))):=
 bif (decide (at_29<0))then
 some (.inr (.inl b))
 else
 (idx a at_29).bind fun c=>
 (idx a at_29).bind fun d=>
 some (.inl ((a.set at_29.toNat (w64 (c+1))),b))
def QfW (d:QA)(b:Qk)(a:(List Int))(c:(List Qq)):Option (((List Int)×(List Qq))⊕((List Qq)⊕(List Qq))):=
 (QE (fun st=>Qd9 d b st.1 st.2) ((w64 ((a.length:Int)-1)),a)).bind (fun q=>QfV c q.1 q.2)
def QfX (e:Qk)(f:QMk)(g:Int)(h:Int)(i:(List Qq))(j:QLL)(k:QLL)(l:QA)(b:Qk)(a:(List Int))(c:(List Qq)):Option (((List Int)×(List Qq))⊕((List Qq)⊕(List Qq))):=
 (Qad a).bind fun d=>
 (Qfw e f g h i j k c d).bind (Sum.elim (fun q=>QnB q) (fun q=>QfW l b a q))
def QnD (a:(List Qq)):Option ((List Qq)⊕(List Qq)):=
 some (.inl a)
def QnE (a:(List Qq)):Option ((List Qq)⊕(List Qq)):=
 some (.inr a)
def Qia (c:Qk)(d:QMk)(e:Int)(f:Int)(g:(List Qq))(h:QLL)(i:QLL)(j:(List Qq))(a:QA)(b:Qk):Option ((List Qq)⊕(List Qq)):=
 (chk (decide (0≤(a.Vars.length:Int))&&decide ((a.Vars.length:Int)≤(a.Vars.length:Int))&&decide ((a.Vars.length:Int)≤4294967296))).bind fun _=>
 (QE (fun st=>QfX c d e f g h i a b st.1 st.2) ((List.replicate (a.Vars.length:Int).toNat (0:Int)),j)).bind (Sum.elim (fun q=>QnD q) (fun q=>QnE q))
theorem QnF (lpl lpf:Nat)(l:Qk)(m:QMk)(p:Int)(s:Int)(j:(List Qq))(t:QLL)(u:QLL)(l8:(List Qq))(k:QA)(f:Qk){r:((List Qq)⊕(List Qq))}(h:Qia l m p s j t u l8 k f=some r):Qd prog 213 [.clo (.yield lpl) [] [],.loc 624 0 0,.loc 625 0 0] [(615,.lp lpl (QaT lpf) (Qeo (.loc 616 0 0) (.loc 617 0 0) (.loc 618 0 0) (.loc 619 0 0) (.loc 620 0 0) (.loc 621 0 0) (.loc 622 0 0) (.loc 623 0 0)) 0),(616,.var (Qe l)),(617,.var (Qaj m)),(618,.var (Qb p)),(619,.var (Qb s)),(620,.var [.own 613 j.length]),(613,.arr 4 (j.map Qo)),(621,.var (QT t)),(622,.var (QT u)),(623,.var [.own 614 l8.length]),(614,.arr 4 (l8.map Qo)),(624,.var (Qh k)),(625,.var (Qe f))] ((Sum.elim (fun q=>(Gives (.tup []) [(613,.arr 4 (j.map Qo)),(614,.arr 4 (q.map Qo)),(615,.lp lpl (QaT lpf) (Qeo (.loc 616 0 0) (.loc 617 0 0) (.loc 618 0 0) (.loc 619 0 0) (.loc 620 0 0) (.loc 621 0 0) (.loc 622 0 0) (.loc 623 0 0)) 0),(616,.var (Qe l)),(617,.var (Qaj m)),(618,.var (Qb p)),(619,.var (Qb s)),(620,.var [.own 613 j.length]),(621,.var (QT t)),(622,.var (QT u)),(623,.var [.own 614 q.length]),(624,.var (Qh k)),(625,.var (Qe f))])) (fun q=>(Gives (.tup []) [(613,.arr 4 (j.map Qo)),(614,.arr 4 (q.map Qo)),(615,.lp lpl (QaT lpf) (Qeo (.loc 616 0 0) (.loc 617 0 0) (.loc 618 0 0) (.loc 619 0 0) (.loc 620 0 0) (.loc 621 0 0) (.loc 622 0 0) (.loc 623 0 0)) 2),(616,.var (Qe l)),(617,.var (Qaj m)),(618,.var (Qb p)),(619,.var (Qb s)),(620,.var [.own 614 q.length]),(621,.var (QT t)),(622,.var (QT u)),(623,.var [.own 614 q.length]),(624,.var (Qh k)),(625,.var (Qe f))]))) r):=by
 refine Qd.walk 50 func213 rfl rfl rfl fun C hC=>?_
 obtain⟨U,h⟩:=QaE h
 refine Qa hC [.n 4,.o (.ln k.Vars.length),.o (.rows ((List.replicate (k.Vars.length:Int).toNat (0:Int)).map Qb)),.S 9 (.own 9 (List.replicate (k.Vars.length:Int).toNat (0:Int)).length),.n 4,.K [0,1,2,4] [9,613,614,615,616,617,618,619,620,621,622,623,624,625]] rfl ⟨⟨⟨tt_,Qg⟩,⟨U,Qoy rfl⟩⟩,(by simp)⟩ ?_
 obtain⟨a3,W,h⟩:=Qc h
 refine AK.loop (body:=(fun st=>QfX l m p s j t u k f st.1 st.2)) (fun st σ=>σ=⟨[(0,.clo (.yield lpl) [] []),(1,.loc 624 0 0),(2,.loc 625 0 0),(4,.own 9 st.1.length)],[(9,.arr 1 (st.1.map Qb)),(613,.arr 4 (j.map Qo)),(614,.arr 4 (st.2.map Qo)),(615,.lp lpl (QaT lpf) (Qeo (.loc 616 0 0) (.loc 617 0 0) (.loc 618 0 0) (.loc 619 0 0) (.loc 620 0 0) (.loc 621 0 0) (.loc 622 0 0) (.loc 623 0 0)) 0),(616,.var (Qe l)),(617,.var (Qaj m)),(618,.var (Qb p)),(619,.var (Qb s)),(620,.var [.own 613 j.length]),(621,.var (QT t)),(622,.var (QT u)),(623,.var [.own 614 st.2.length]),(624,.var (Qh k)),(625,.var (Qe f))]⟩) (Sum.elim (fun q e σ=>e=.ret∧σ=⟨[],[(613,.arr 4 (j.map Qo)),(614,.arr 4 (q.map Qo)),(615,.lp lpl (QaT lpf) (Qeo (.loc 616 0 0) (.loc 617 0 0) (.loc 618 0 0) (.loc 619 0 0) (.loc 620 0 0) (.loc 621 0 0) (.loc 622 0 0) (.loc 623 0 0)) 0),(616,.var (Qe l)),(617,.var (Qaj m)),(618,.var (Qb p)),(619,.var (Qb s)),(620,.var [.own 613 j.length]),(621,.var (QT t)),(622,.var (QT u)),(623,.var [.own 614 q.length]),(624,.var (Qh k)),(625,.var (Qe f))]⟩) (fun q e σ=>e=.ret∧σ=⟨[],[(613,.arr 4 (j.map Qo)),(614,.arr 4 (q.map Qo)),(615,.lp lpl (QaT lpf) (Qeo (.loc 616 0 0) (.loc 617 0 0) (.loc 618 0 0) (.loc 619 0 0) (.loc 620 0 0) (.loc 621 0 0) (.loc 622 0 0) (.loc 623 0 0)) 2),(616,.var (Qe l)),(617,.var (Qaj m)),(618,.var (Qb p)),(619,.var (Qb s)),(620,.var [.own 614 q.length]),(621,.var (QT t)),(622,.var (QT u)),(623,.var [.own 614 q.length]),(624,.var (Qh k)),(625,.var (Qe f))]⟩)) W rfl ?_ ?_
 ·rintro ⟨X,b3⟩ o σ rfl h
  obtain⟨J,Y,h⟩:=Qc h
  obtain⟨a4,B,h⟩:=Qc h
  refine Qa hC [.n 6,.o (.co true [.o (X.map Qb)] 1 (J.map Qb) J.length),.frz 12 (J.map Qb) [12] []] rfl ⟨⟨tt_,⟨(Qm2 rfl),⟨(Qa6 _ Y),Qg,.inr (QyE _)⟩⟩⟩,⟨tt_,(Qci Qg)⟩⟩ ?_
  rcases a4 with(v | i)
  ·replace h:QnB v=some o:=h
   refine Qa hC [.x (fun σ=>(σ.after [613,614] [(613,.arr 4 (j.map Qo)),(614,.arr 4 (v.map Qo)),(615,.lp lpl (QaT lpf) (Qeo (.loc 616 0 0) (.loc 617 0 0) (.loc 618 0 0) (.loc 619 0 0) (.loc 620 0 0) (.loc 621 0 0) (.loc 622 0 0) (.loc 623 0 0)) 2),(616,.var (Qe l)),(617,.var (Qaj m)),(618,.var (Qb p)),(619,.var (Qb s)),(620,.var [.own 614 v.length]),(621,.var (QT t)),(622,.var (QT u)),(623,.var [.own 614 v.length])]).put 13 (.b false)),.n 7,.K [] [613,614,615,616,617,618,619,620,621,622,623,624,625]] rfl ⟨tt_,(Stp.yieldV (b:=615) (M:=[(615,615),(616,616),(617,617),(618,618),(619,619),(620,620),(613,613),(621,621),(622,622),(623,623),(614,614)]) (N:=[(613,613),(614,614),(615,615),(616,616),(617,617),(618,618),(619,619),(620,620),(621,621),(622,622),(623,623)]) (dead:=[613,614]) (ms:=[.d,.d,.d,.d,.d,.d,.d,.d,.d,.d,.d,.d,.d,.d,.d,.d,.d,.d,.d,.d,.d,.d,.d,.d,.d,.d,.d,.d,.d,.d,.d,.d,.d,.d,.d,.d,.d,.d,.d,.d,.d,.d,.d,.d,.d,.d,.d,.d,.d,.d,.d,.d,.d,.d,.d,.d,.d,.d,.d,.d,.d,.d,.d,.d,.d,.d,.d,.d,.d,.d,.d,.d,.d,.d,.d,.d,.d,.d,.d,.d,.d,.d,.d,.d,.d,.d,.d,.d,.d,.d,.d,.d,.d,.d,.d,.d,.d,.d,.d,.d,.d,.d,.d,.d,.d,.d,.d,.d,.d]) (outs:=[(613,.arr 4 (j.map Qo)),(614,.arr 4 (v.map Qo)),(615,.lp lpl (QaT lpf) (Qeo (.loc 616 0 0) (.loc 617 0 0) (.loc 618 0 0) (.loc 619 0 0) (.loc 620 0 0) (.loc 621 0 0) (.loc 622 0 0) (.loc 623 0 0)) 2),(616,.var (Qe l)),(617,.var (Qaj m)),(618,.var (Qb p)),(619,.var (Qb s)),(620,.var [.own 614 v.length]),(621,.var (QT t)),(622,.var (QT u)),(623,.var [.own 614 v.length])]) (r:=.b false) rfl rfl rfl rfl rfl rfl rfl (QH hC.n rfl) hC.g rfl rfl (QkP _ _ _ _ _ _ _ _ _ _ _ B))⟩ ?_
   cases h
   exact Qal rfl (an_ rfl rfl)
  replace h:QfW k f X i=some o:=h
  refine Qa hC [.x (fun σ=>(σ.after [613,614] [(613,.arr 4 (j.map Qo)),(614,.arr 4 (i.map Qo)),(615,.lp lpl (QaT lpf) (Qeo (.loc 616 0 0) (.loc 617 0 0) (.loc 618 0 0) (.loc 619 0 0) (.loc 620 0 0) (.loc 621 0 0) (.loc 622 0 0) (.loc 623 0 0)) 0),(616,.var (Qe l)),(617,.var (Qaj m)),(618,.var (Qb p)),(619,.var (Qb s)),(620,.var [.own 613 j.length]),(621,.var (QT t)),(622,.var (QT u)),(623,.var [.own 614 i.length])]).put 13 (.b true)),.n 16,.K [0,1,2,4,5] [9,613,614,615,616,617,618,619,620,621,622,623,624,625]] rfl ⟨tt_,(Stp.yieldV (b:=615) (M:=[(615,615),(616,616),(617,617),(618,618),(619,619),(620,620),(613,613),(621,621),(622,622),(623,623),(614,614)]) (N:=[(613,613),(614,614),(615,615),(616,616),(617,617),(618,618),(619,619),(620,620),(621,621),(622,622),(623,623)]) (dead:=[613,614]) (ms:=[.d,.d,.d,.d,.d,.d,.d,.d,.d,.d,.d,.d,.d,.d,.d,.d,.d,.d,.d,.d,.d,.d,.d,.d,.d,.d,.d,.d,.d,.d,.d,.d,.d,.d,.d,.d,.d,.d,.d,.d,.d,.d,.d,.d,.d,.d,.d,.d,.d,.d,.d,.d,.d,.d,.d,.d,.d,.d,.d,.d,.d,.d,.d,.d,.d,.d,.d,.d,.d,.d,.d,.d,.d,.d,.d,.d,.d,.d,.d,.d,.d,.d,.d,.d,.d,.d,.d,.d,.d,.d,.d,.d,.d,.d,.d,.d,.d,.d,.d,.d,.d,.d,.d,.d,.d,.d,.d,.d,.d]) (outs:=[(613,.arr 4 (j.map Qo)),(614,.arr 4 (i.map Qo)),(615,.lp lpl (QaT lpf) (Qeo (.loc 616 0 0) (.loc 617 0 0) (.loc 618 0 0) (.loc 619 0 0) (.loc 620 0 0) (.loc 621 0 0) (.loc 622 0 0) (.loc 623 0 0)) 0),(616,.var (Qe l)),(617,.var (Qaj m)),(618,.var (Qb p)),(619,.var (Qb s)),(620,.var [.own 613 j.length]),(621,.var (QT t)),(622,.var (QT u)),(623,.var [.own 614 i.length])]) (r:=.b true) rfl rfl rfl rfl rfl rfl rfl (QH hC.n rfl) hC.g rfl rfl (QkP _ _ _ _ _ _ _ _ _ _ _ B))⟩ ?_
  obtain⟨a5,Z,h⟩:=Qc h
  refine AK.loop (body:=(fun st=>Qd9 k f st.1 st.2)) (fun st σ=>σ=⟨[(0,.clo (.yield lpl) [] []),(1,.loc 624 0 0),(2,.loc 625 0 0),(4,.own 9 st.2.length),(5,.I st.1)],[(9,.arr 1 (st.2.map Qb)),(613,.arr 4 (j.map Qo)),(614,.arr 4 (i.map Qo)),(615,.lp lpl (QaT lpf) (Qeo (.loc 616 0 0) (.loc 617 0 0) (.loc 618 0 0) (.loc 619 0 0) (.loc 620 0 0) (.loc 621 0 0) (.loc 622 0 0) (.loc 623 0 0)) 0),(616,.var (Qe l)),(617,.var (Qaj m)),(618,.var (Qb p)),(619,.var (Qb s)),(620,.var [.own 613 j.length]),(621,.var (QT t)),(622,.var (QT u)),(623,.var [.own 614 i.length]),(624,.var (Qh k)),(625,.var (Qe f))]⟩) (fun q e σ=>e=.exit 2∧σ=⟨[(0,.clo (.yield lpl) [] []),(1,.loc 624 0 0),(2,.loc 625 0 0),(4,.own 9 q.2.length),(5,.I q.1)],[(9,.arr 1 (q.2.map Qb)),(613,.arr 4 (j.map Qo)),(614,.arr 4 (i.map Qo)),(615,.lp lpl (QaT lpf) (Qeo (.loc 616 0 0) (.loc 617 0 0) (.loc 618 0 0) (.loc 619 0 0) (.loc 620 0 0) (.loc 621 0 0) (.loc 622 0 0) (.loc 623 0 0)) 0),(616,.var (Qe l)),(617,.var (Qaj m)),(618,.var (Qb p)),(619,.var (Qb s)),(620,.var [.own 613 j.length]),(621,.var (QT t)),(622,.var (QT u)),(623,.var [.own 614 i.length]),(624,.var (Qh k)),(625,.var (Qe f))]⟩) Z rfl ?_ ?_
  ·rintro ⟨at_25,w⟩ o σ rfl h
   refine tg_ hC [.n 2] rfl ?_
   obtain⟨L,a0,h⟩:=Qc h
   replace h:QfU w at_25 L=some o:=h
   refine AK.meetX (fun σ=>σ=⟨[(0,.clo (.yield lpl) [] []),(1,.loc 624 0 0),(2,.loc 625 0 0),(4,.own 9 w.length),(5,.I at_25),(36,.b L)],[(9,.arr 1 (w.map Qb)),(613,.arr 4 (j.map Qo)),(614,.arr 4 (i.map Qo)),(615,.lp lpl (QaT lpf) (Qeo (.loc 616 0 0) (.loc 617 0 0) (.loc 618 0 0) (.loc 619 0 0) (.loc 620 0 0) (.loc 621 0 0) (.loc 622 0 0) (.loc 623 0 0)) 0),(616,.var (Qe l)),(617,.var (Qaj m)),(618,.var (Qb p)),(619,.var (Qb s)),(620,.var [.own 613 j.length]),(621,.var (QT t)),(622,.var (QT u)),(623,.var [.own 614 i.length]),(624,.var (Qh k)),(625,.var (Qe f))]⟩) ?_ ?_
   ·replace h:=a0
    refine tg_ hC [.K [0,1,2,4,5] [9,613,614,615,616,617,618,619,620,621,622,623,624,625]] rfl ?_
    rcases Qt h with⟨y,h⟩|⟨y,h⟩
    ·obtain⟨a6,D,h⟩:=Qc h
     obtain⟨a7,a1,h⟩:=Qc h
     obtain⟨a8,a2,h⟩:=Qc h
     refine AK.draw2 Qs hC mixed [.N,.N,.a .no (some ([],.b true)) false,.N,.N,.N,.a (.row (Qb a6)) none false,.N,.N,.N,.N,.N,.N,.a (.row (QL a7)) none false,.N,.N,.a (.c false [.d,.d] (.I a8)) none false,.N,.N] [] [] [0,1,2,4,5,36] [9,613,614,615,616,617,618,619,620,621,622,623,624,625] rfl rfl rfl ⟨⟨⟨⟨(tc_ y),(Qbx D rfl)⟩,(QaJ (Qca D).2)⟩,(QJ a1)⟩,(QiT _ _ a2)⟩ rfl (by kernel_rfl) rfl rfl rfl ?_
     refine tg_ hC [.K [0,1,2,4,5,36] [9,613,614,615,616,617,618,619,620,621,622,623,624,625]] rfl ?_
     cases h
     exact AK.met rfl
    refine AK.draw2 Qs hC mixed [.N,.N,.a .no (some ([],.b false)) false,.N,.N,.N,.N,.N,.N,.N,.N,.N,.N,.N,.N,.N,.N,.N,.N] [] [] [0,1,2,4,5,36] [9,613,614,615,616,617,618,619,620,621,622,623,624,625] rfl rfl rfl (tc_ y) rfl (by kernel_rfl) rfl rfl rfl ?_
    refine tg_ hC [.K [0,1,2,4,5,36] [9,613,614,615,616,617,618,619,620,621,622,623,624,625]] rfl ?_
    cases h
    exact AK.met rfl
   rintro σ rfl
   replace h:QfU w at_25 L=some o:=h
   refine tg_ hC [.n 1] rfl ?_
   rcases Qt h with⟨z,h⟩|⟨z,h⟩
   ·obtain⟨a9,E,h⟩:=Qc h
    refine Qa hC [.T,.n 8,.st (Qb a9) ((w.set at_25.toNat 0).map Qb),.n 8,.S 4 (.own 9 (w.set at_25.toNat 0).length),.K [0,1,2,4,5] [9,613,614,615,616,617,618,619,620,621,622,623,624,625]] rfl ⟨⟨⟨⟨tt_,z⟩,(Qbx E rfl)⟩,⟨(QaJ (Qca E).2),Qe7 rfl⟩⟩,(congrArg (fun n=>V.own 9 n) (by simp))⟩ ?_
    cases h
    exact QZ rfl rfl
   refine Qa hC [.F,.n 2,.K [0,1,2,4,5] [9,613,614,615,616,617,618,619,620,621,622,623,624,625]] rfl ⟨tt_,z⟩ ?_
   cases h
   exact Q1 rfl (an_ rfl rfl)
  obtain⟨at_29,O⟩:=a5
  replace h:QfV i at_29 O=some o:=h
  rintro e σ ⟨rfl,rfl⟩
  refine tg_ hC [.n 9] rfl ?_
  rcases Qt h with⟨A,h⟩|⟨A,h⟩
  ·refine Qa hC [.T,.n 3,.K [] [613,614,615,616,617,618,619,620,621,622,623,624,625]] rfl ⟨tt_,A⟩ ?_
   cases h
   exact Qal rfl (an_ rfl rfl)
  obtain⟨P,G,h⟩:=Qc h
  obtain⟨b0,H,h⟩:=Qc h
  refine Qa hC [.F,.n 6,.o (.row (Qb P)),.n 2,.st (Qb b0) ((O.set at_29.toNat (w64 (P+1))).map Qb),.n 2,.S 4 (.own 9 (O.set at_29.toNat (w64 (P+1))).length),.K [0,1,2,4] [9,613,614,615,616,617,618,619,620,621,622,623,624,625]] rfl ⟨⟨⟨⟨⟨⟨tt_,A⟩,(Qbx G rfl)⟩,(QaJ (Qca G).2)⟩,(Qbx H rfl)⟩,⟨(QaJ (Qca H).2),Qe7 rfl⟩⟩,(congrArg (fun n=>V.own 9 n) (by simp))⟩ ?_
  cases h
  exact QZ rfl rfl
 rcases a3 with(b1 | b2)
 ·replace h:QnD b1=some r:=h
  rintro e σ ⟨rfl,rfl⟩
  refine tg_ hC [.n 1,.K [] [613,614,615,616,617,618,619,620,621,622,623,624,625]] rfl ?_
  cases h
  refine AK.done ?_
  exact ex_ [] (an_ tt_ (gives ⟨rfl,rfl,rfl,rfl,rfl,rfl,rfl,rfl,rfl,rfl,rfl,rfl,rfl,tt_⟩))
 replace h:QnE b2=some r:=h
 rintro e σ ⟨rfl,rfl⟩
 refine tg_ hC [.n 1,.K [] [613,614,615,616,617,618,619,620,621,622,623,624,625]] rfl ?_
 cases h
 refine AK.done ?_
 exact ex_ [] (an_ tt_ (gives ⟨rfl,rfl,rfl,rfl,rfl,rfl,rfl,rfl,rfl,rfl,rfl,rfl,rfl,tt_⟩))
def Qrt (a:(List Qq)):Option (List Qq):=
 some a
def Qru (a:(List Qq)):Option (List Qq):=
 some a
def QkQ (e:Qk)(h:QMk)(a:Int)(b:Int):Option (List Qq):=
 bif ((decide (a<0))||((decide ((e.Tasks.length:Int)≤a))||(decide (b<1))))then
 some ([]:List Qq)
 else
 (idx e.Tasks a).bind fun c=>
 (QaF c.Join (c.Ins.length:Int)).bind fun f=>
 (QaF c.Split (c.Outs.length:Int)).bind fun g=>
 (Qro e c).bind fun d=>
 (Qia e h a b ([]:List Qq) f g ([]:List Qq) d.2 d.1).bind (Sum.elim (fun q=>Qrt q) (fun q=>Qru q))
theorem Qxk (j x c e){r}(h:QkQ j x c e=some r):Qd prog 93 [.agg (Qe j),.sl 1 (x.map Qm),.I c,.I e] [] (Gives (.sl 4 (r.map Qo)) []):=by
 refine Qd.walkR 109 func93 rfl ntmps93 rfl fun C hC hR=>?_
 unfold QkQ at h
 refine tg_ hC [.n 11] rfl ?_
 refine AK.meetX (fun σ=>σ=⟨[(4,.loc 4 0 0),(5,.loc 5 0 0),(6,.loc 6 0 0),(7,.loc 7 0 0),(8,.loc 8 0 0),(33,.b ((decide (c<0))||((decide ((j.Tasks.length:Int)≤c))||(decide (e<1)))))],[(4,.var (Qe j)),(5,.var (Qaj x)),(6,.var (Qb c)),(7,.var (Qb e)),(8,.var [.lit (.slice none 0 0)])]⟩) ?_ ?_
 ·refine tg_ hC [.n 4] rfl ?_
  rcases Q0 (decide (c<0))with f | f
  ·refine Qa hC [.S 23 (.b true),.n 11,.S 33 (.b ((decide (c<0))||((decide ((j.Tasks.length:Int)≤c))||(decide (e<1))))),.K [4,5,6,7,8,33] [4,5,6,7,8]] rfl ⟨(tc_ f),(congrArg V.b (orT f rfl))⟩ ?_
   exact AK.met rfl
  refine Qa hC [.S 23 (.b false),.n 3,.o (.ln j.Tasks.length),.n 3] rfl ⟨(tc_ f),Qg⟩ ?_
  rcases Q0 (decide ((j.Tasks.length:Int)≤c))with k | k
  ·refine Qa hC [.S 30 (.b true),.n 4,.S 33 (.b ((decide (c<0))||((decide ((j.Tasks.length:Int)≤c))||(decide (e<1))))),.K [4,5,6,7,8,33] [4,5,6,7,8]] rfl ⟨(tc_ k),(congrArg V.b (orF f (orT k rfl)))⟩ ?_
   exact AK.met rfl
  refine Qa hC [.S 30 (.b false),.n 4,.S 33 (.b ((decide (c<0))||((decide ((j.Tasks.length:Int)≤c))||(decide (e<1))))),.K [4,5,6,7,8,33] [4,5,6,7,8]] rfl ⟨(tc_ k),(congrArg V.b (orF f (orF k rfl)))⟩ ?_
  exact AK.met rfl
 rintro σ rfl
 refine tg_ hC [.n 1] rfl ?_
 rcases Qt h with⟨l,h⟩|⟨l,h⟩
 ·refine Qa hC [.T,.n 3,.O 8 (.var [.lit (.slice none 0 0)]),.n 4,.denilO 8 [some 4],.O 8 (.var (QBy ([]:List Qq))),.K [8] [8]] rfl ⟨⟨⟨tt_,l⟩,rfl⟩,rfl⟩ ?_
  cases h
  exact AK.done (ex_ [_] (an_ (an_ (ex_ _ (ex_ _ (an_ rfl (an_ rfl (Or.inr (an_ (Qs.ag rfl) rfl)))))) tt_) (gives tt_)))
 obtain⟨g,y,h⟩:=Qc h
 obtain⟨p,z,h⟩:=Qc h
 obtain⟨q,A,h⟩:=Qc h
 refine Qa hC [.F,.n 7,.o (.row (Qh g)),.v .no [] (.agg (Qh g)),.n 2,.O 9 (.var (Qh g)),.n 3,.K [4,5,6,7,8,9] [4,5,6,7,8,9]] rfl ⟨⟨⟨⟨tt_,l⟩,(QJ y)⟩,rfl⟩,rfl⟩ ?_
 refine AK.draw2 Qs hC mixed [.N,.N,.N,.N,.a (.ln g.Ins.length) none false,.a (.cd false [.d,.d] 1 (p.map Qj) p.length) none false,.N,.N,.N,.N,.a (.ln g.Outs.length) none false,.a (.cd false [.d,.d] 1 (q.map Qj) q.length) none false,.N,.N,.m .s,.m .s] [] [] [4,5,6,7,8,9,10,11] [4,5,6,7,8,9,10,11] rfl rfl rfl ⟨⟨⟨⟨tt_,Qg⟩,⟨(QfI _ _ z),Qg⟩⟩,Qg⟩,⟨(QfI _ _ A),Qg⟩⟩ rfl (by kernel_rfl) rfl rfl rfl ?_
 obtain⟨i,B,h⟩:=Qc h
 refine Qa hC [.O 10 (.var (QT p)),.O 11 (.var (QT q)),.n 9,.v .no [] (.agg (Qe j)),.v .no [] (.agg (Qh g)),.cm (.fn) [] [(53,2),(608,3)] [] [.d,.d] [(2,.var (Qe i.1)),(3,.var (Qh i.2))] (.clo (.func 213) [] [.loc 3 0 0,.loc 2 0 0]),.n 3,.K [4,5,6,7,8,10,11,12,53] [4,5,6,7,8,10,11,12,53,608]] rfl ⟨⟨⟨⟨⟨tt_,rfl⟩,rfl⟩,rfl⟩,rfl⟩,(QuH _ _ B)⟩ ?_
 obtain⟨D,w,h⟩:=Qc h
 refine Qa hC [.adoptO 8 0 606 4,.O 606 (.arr 4 (([]:List Qq).map Qo)),.O 8 (.var [.own 606 ([]:List Qq).length]),.adoptO 12 0 607 4,.O 607 (.arr 4 (([]:List Qq).map Qo)),.O 12 (.var [.own 607 ([]:List Qq).length])] rfl ⟨⟨⟨⟨tt_,rfl⟩,rfl⟩,rfl⟩,rfl⟩ ?_
 rcases D with(t | u)
 ·replace h:Qrt t=some r:=h
  refine AK.rangeF 612 [4,5,6,7,8,10,11,12] [(615,612),(616,4),(617,5),(618,6),(619,7),(620,8),(613,606),(621,10),(622,11),(623,12),(614,607),(624,608),(625,53)] [(606,613),(607,614),(612,615),(4,616),(5,617),(6,618),(7,619),(8,620),(10,621),(11,622),(12,623),(608,624),(53,625)] [606,607] [.d,.d,.d] QaT hC hR (fun _=>rfl) rfl rfl rfl rfl fun lpl lpf=>?_
  refine ex_ [(613,.arr 4 (([]:List Qq).map Qo)),(614,.arr 4 (t.map Qo)),(615,.lp lpl (QaT lpf) (Qeo (.loc 616 0 0) (.loc 617 0 0) (.loc 618 0 0) (.loc 619 0 0) (.loc 620 0 0) (.loc 621 0 0) (.loc 622 0 0) (.loc 623 0 0)) 0),(616,.var (Qe j)),(617,.var (Qaj x)),(618,.var (Qb c)),(619,.var (Qb e)),(620,.var [.own 613 ([]:List Qq).length]),(621,.var (QT p)),(622,.var (QT q)),(623,.var [.own 614 t.length]),(624,.var (Qh i.2)),(625,.var (Qe i.1))] (ex_ (.tup []) (ex_ _ (ex_ _ (ex_ (Qeo (.loc 4 0 0) (.loc 5 0 0) (.loc 6 0 0) (.loc 7 0 0) (.loc 8 0 0) (.loc 10 0 0) (.loc 11 0 0) (.loc 12 0 0)) (ex_ 0 (an_ rfl ?_))))))
  refine an_ (QnF _ _ _ _ _ _ _ _ _ _ _ _ w) (an_ rfl (an_ (bne_iff_ne.1 (show(0 != 1)=true from rfl)) ?_))
  refine QDe rfl ?_
  refine Qa hC [.n 6,.O 8 (.var [.own 607 t.length]),.n 3,.frz 607 (t.map Qo) [] [8],.K [8] [8]] rfl ⟨⟨tt_,rfl⟩,⟨tt_,⟨(Qci Qg),tt_⟩⟩⟩ ?_
  cases h
  exact AK.done (ex_ [_] (an_ (an_ (ex_ _ (ex_ _ (an_ rfl (an_ rfl (Or.inr (an_ (Qs.ag rfl) rfl)))))) tt_) (gives tt_)))
 replace h:Qru u=some r:=h
 refine AK.rangeF 612 [4,5,6,7,8,10,11,12] [(615,612),(616,4),(617,5),(618,6),(619,7),(620,8),(613,606),(621,10),(622,11),(623,12),(614,607),(624,608),(625,53)] [(606,613),(607,614),(612,615),(4,616),(5,617),(6,618),(7,619),(8,620),(10,621),(11,622),(12,623),(608,624),(53,625)] [606,607] [.d,.d,.d] QaT hC hR (fun _=>rfl) rfl rfl rfl rfl fun lpl lpf=>?_
 refine ex_ [(613,.arr 4 (([]:List Qq).map Qo)),(614,.arr 4 (u.map Qo)),(615,.lp lpl (QaT lpf) (Qeo (.loc 616 0 0) (.loc 617 0 0) (.loc 618 0 0) (.loc 619 0 0) (.loc 620 0 0) (.loc 621 0 0) (.loc 622 0 0) (.loc 623 0 0)) 2),(616,.var (Qe j)),(617,.var (Qaj x)),(618,.var (Qb c)),(619,.var (Qb e)),(620,.var [.own 614 u.length]),(621,.var (QT p)),(622,.var (QT q)),(623,.var [.own 614 u.length]),(624,.var (Qh i.2)),(625,.var (Qe i.1))] (ex_ (.tup []) (ex_ _ (ex_ _ (ex_ (Qeo (.loc 4 0 0) (.loc 5 0 0) (.loc 6 0 0) (.loc 7 0 0) (.loc 8 0 0) (.loc 10 0 0) (.loc 11 0 0) (.loc 12 0 0)) (ex_ 2 (an_ rfl ?_))))))
 refine an_ (QnF _ _ _ _ _ _ _ _ _ _ _ _ w) (an_ rfl (an_ (bne_iff_ne.1 (show(2 != 1)=true from rfl)) ?_))
 refine QEB rfl ?_
 refine Qa hC [.n 3,.frz 607 (u.map Qo) [] [8],.K [8] [8]] rfl ⟨tt_,⟨tt_,⟨(Qci Qg),tt_⟩⟩⟩ ?_
 cases h
 exact AK.done (ex_ [_] (an_ (an_ (ex_ _ (ex_ _ (an_ rfl (an_ rfl (Or.inr (an_ (Qs.ag rfl) rfl)))))) tt_) (gives tt_)))
def QmF (e:Qk)(f:QMk)(a:Int)(d:Int)(c:(List Qq)):Option ((Int×(List Qq))⊕(List Qq)):=
 bif (decide (d<(e.Tasks.length:Int)))then
 (QkQ e f d (w64 (a-(c.length:Int)))).bind fun b=>
 (chk (decide (c.length+b.length≤4294967296))).bind fun _=>
 some (.inl ((w64 (d+1)),(c++b)))
 else
 some (.inr c)
def QtH (a:(List Qq)):Option (List Qq):=
 some a
def QpA (b:Qk)(c:QMk)(a:Int):Option (List Qq):=
 (QE (fun st=>QmF b c a st.1 st.2) (0,([]:List Qq))).bind (fun q=>QtH q)
theorem Qy3 (f l a){r}(h:QpA f l a=some r):Qd prog 58 [.agg (Qe f),.sl 1 (l.map Qm),.I a] [] (Gives (.own 600 r.length) [(600,.arr 4 (r.map Qo))]):=by
 refine Qd.walk 27 func58 rfl rfl rfl fun C hC=>?_
 refine Qa hC [.n 16,.o (.ln f.Tasks.length),.n 4,.adopt 7 15 4,.O 15 (.arr 4 (([]:List Qq).map Qo)),.S 7 (.own 15 ([]:List Qq).length),.K [1,2,3,7,11,12] [3,15]] rfl ⟨⟨⟨tt_,Qg⟩,rfl⟩,(congrArg (fun n=>V.own 15 n) (by simp))⟩ ?_
 obtain⟨m,i,h⟩:=Qc h
 refine AK.loop (body:=(fun st=>QmF f l a st.1 st.2)) (fun st σ=>σ=⟨[(1,.sl 1 (l.map Qm)),(2,.I a),(3,.loc 3 0 0),(7,.own 15 st.2.length),(11,.I (f.Tasks.length:Int)),(12,.I st.1)],[(3,.var (Qe f)),(15,.arr 4 (st.2.map Qo))]⟩) (fun q e σ=>e=.exit 0∧σ=⟨[(7,.own 15 q.length)],[(15,.arr 4 (q.map Qo))]⟩) i rfl ?_ ?_
 ·rintro ⟨s,p⟩ o σ rfl h
  refine tg_ hC [.n 6] rfl ?_
  rcases Qt h with⟨b,h⟩|⟨b,h⟩
  ·obtain⟨g,j,h⟩:=Qc h
   obtain⟨k,h⟩:=QaE h
   refine Qa hC [.T,.n 12,.v .no [] (.agg (Qe f)),.n 6,.o (.c false [.d,.d,.d,.d] (.sl 4 (g.map Qo))),.app ((p++g).map Qo) (p++g).length,.n 8,.K [1,2,3,7,11,12] [3,15]] rfl ⟨⟨⟨⟨tt_,b⟩,rfl⟩,(Qxk _ _ _ _ j)⟩,⟨Qg,Qgj k Qg,Qc1,QfN Qg⟩⟩ ?_
   cases h
   exact QZ rfl rfl
  refine Qa hC [.F,.n 2,.K [7] [15]] rfl ⟨tt_,b⟩ ?_
  cases h
  exact Q1 rfl (an_ rfl rfl)
 replace h:QtH m=some r:=h
 rintro e σ ⟨rfl,rfl⟩
 refine tg_ hC [.n 9,.K [6] [15],.ren 15 600] rfl ?_
 cases h
 exact d1_ rfl rfl ⟨rfl,tt_⟩
def QbL (c:(List Int))(d:(List Int))(a:Int):Option (Int⊕(Unit⊕Unit)):=
 bif (decide (a<(c.length:Int)))then
 (idx c a).bind fun e=>
 (idx d a).bind fun b=>
 bif (e != b)then
 some (.inr (.inl ()))
 else
 some (.inl (w64 (a+1)))
 else
 some (.inr (.inr ()))
def Qke : Option Bool:=
 some false
def Qkf : Option Bool:=
 some true
def QbB (a:(List Int))(b:(List Int)):Option Bool:=
 bif ((a.length:Int) != (b.length:Int))then
 some false
 else
 (QE (fun st=>QbL a b st) 0).bind (Sum.elim (fun q=>Qke) (fun q=>Qkf))
theorem QpB (d i){r}(h:QbB d i=some r):Qd prog 217 [.sl 1 (d.map Qb),.sl 1 (i.map Qb)] [] (Gives (.b r) []):=by
 refine Qd.walk 26 func217 rfl rfl rfl fun C hC=>?_
 refine Qa hC [.n 9,.o (.ln d.length),.n 1,.o (.ln i.length),.n 3] rfl ⟨⟨tt_,Qg⟩,Qg⟩ ?_
 refine bg_ h (fun f h=>Qa hC [.T,.n 7,.K [4] []] rfl ⟨tt_,f⟩ ?_) fun f h=>Qa hC [.F,.n 6,.o (.ln d.length),.n 4,.K [0,1,12,13] []] rfl ⟨⟨tt_,f⟩,Qg⟩ ?_
 ·cases h
  exact d1_ rfl rfl tt_
 obtain⟨l,j,h⟩:=Qc h
 refine AK.loop (body:=(fun st=>QbL d i st)) (fun st σ=>σ=⟨[(0,.sl 1 (d.map Qb)),(1,.sl 1 (i.map Qb)),(12,.I (d.length:Int)),(13,.I st)],[]⟩) (Sum.elim (fun q e σ=>e=.ret∧σ=⟨[(4,.b false)],[]⟩) (fun q e σ=>e=.exit 0∧σ=⟨[],[]⟩)) j rfl ?_ ?_
 ·rintro t o σ rfl h
  refine tg_ hC [.n 6] rfl ?_
  rcases Qt h with⟨g,h⟩|⟨g,h⟩
  ·obtain⟨s,m,h⟩:=Qc h
   obtain⟨p,k,h⟩:=Qc h
   refine Qa hC [.T,.n 11,.K [0,1,5,12,13] []] rfl ⟨tt_,g⟩ ?_
   refine AK.draw2 Qs hC mixed [.N,.N,.a (.row (Qb s)) none false,.N,.N,.N,.a (.row (Qb p)) none false,.N,.N] [] [] [0,1,12,13,24] [] rfl rfl rfl ⟨⟨tt_,(QJ m)⟩,(QJ k)⟩ rfl (by kernel_rfl) rfl rfl rfl ?_
   refine tg_ hC [.n 1] rfl ?_
   refine bg_ h (fun c h=>Qa hC [.T,.n 8,.K [4] []] rfl ⟨tt_,c⟩ ?_) fun c h=>Qa hC [.F,.n 7,.K [0,1,12,13] []] rfl ⟨tt_,c⟩ ?_
   ·cases h
    exact Qal rfl (an_ rfl rfl)
   cases h
   exact QZ rfl rfl
  refine Qa hC [.F,.n 2,.K [] []] rfl ⟨tt_,g⟩ ?_
  cases h
  exact Q1 rfl (an_ rfl rfl)
 rcases l with(_ | _)
 ·replace h:Qke=some r:=h
  rintro e σ ⟨rfl,rfl⟩
  refine tg_ hC [.n 2] rfl ?_
  cases h
  exact d1_ rfl rfl tt_
 replace h:Qkf=some r:=h
 rintro e σ ⟨rfl,rfl⟩
 refine tg_ hC [.n 8] rfl ?_
 cases h
 exact d1_ rfl rfl tt_
def Qkg (a:(List Int))(b:(List Int)):Option Bool:=
 (QbB a b).bind fun c=>
 some c
theorem QuQ (f a){r}(h:Qkg f a=some r):Qd prog 216 [.sl 1 (f.map Qb),.loc 615 0 0] [(615,.var (Qj a))] (Gives (.b r) [(615,.var (Qj a))]):=by
 refine Qd.walk 7 func216 rfl rfl rfl fun C hC=>?_
 obtain⟨g,e,h⟩:=Qc h
 refine Qa hC [.n 9,.o (.c false [.d,.d] (.b g)),.n 4] rfl ⟨tt_,(QpB _ _ e)⟩ ?_
 cases h
 exact d1_ rfl rfl ⟨rfl,tt_⟩
def Qai (c:QLL)(d:(List Int))(a:Int):Option (Int⊕(Int⊕Unit)):=
 bif (decide (a<(c.length:Int)))then
 (idx c a).bind fun e=>
 (Qkg e d).bind fun b=>
 bif b then
 some (.inr (.inl a))
 else
 some (.inl (w64 (a+1)))
 else
 some (.inr (.inr ()))
def Qf7 (a:Int):Option Int:=
 some a
def Qf8 : Option Int:=
 some (-1)
def QcH (a:QLL)(b:(List Int)):Option Int:=
 (QE (fun st=>Qai a b st) 0).bind (Sum.elim (fun q=>Qf7 q) (fun q=>Qf8))
theorem Qmi (g c){r}(h:QcH g c=some r):Qd prog 83 [.sl 1 (g.map Qj),.clo (.func 216) [] [.loc 615 0 0]] [(615,.var (Qj c))] (Gives (.I r) [(615,.var (Qj c))]):=by
 refine Qd.walk 19 func83 rfl rfl rfl fun C hC=>?_
 refine Qa hC [.n 9,.o (.ln g.length),.n 4,.K [0,1,7,8] [615]] rfl ⟨tt_,Qg⟩ ?_
 obtain⟨k,i,h⟩:=Qc h
 refine AK.loop (body:=(fun st=>Qai g c st)) (fun st σ=>σ=⟨[(0,.sl 1 (g.map Qj)),(1,.clo (.func 216) [] [.loc 615 0 0]),(7,.I (g.length:Int)),(8,.I st)],[(615,.var (Qj c))]⟩) (Sum.elim (fun q e σ=>e=.ret∧σ=⟨[(4,.I q)],[(615,.var (Qj c))]⟩) (fun q e σ=>e=.exit 0∧σ=⟨[],[(615,.var (Qj c))]⟩)) i rfl ?_ ?_
 ·rintro t o σ rfl h
  refine tg_ hC [.n 6] rfl ?_
  rcases Qt h with⟨f,h⟩|⟨f,h⟩
  ·obtain⟨p,l,h⟩:=Qc h
   obtain⟨m,j,h⟩:=Qc h
   refine Qa hC [.T,.n 15,.o (.row (Qj p)),.n 1,.cm (.clo) [(615,615)] [(615,615)] [] [.d,.d] [(615,.var (Qj c))] (.b m),.n 2] rfl ⟨⟨⟨tt_,f⟩,(QJ l)⟩,(QuQ _ _ j)⟩ ?_
   refine bg_ h (fun a h=>Qa hC [.T,.n 9,.K [4] [615]] rfl ⟨tt_,a⟩ ?_) fun a h=>Qa hC [.F,.n 7,.K [0,1,7,8] [615]] rfl ⟨tt_,a⟩ ?_
   ·cases h
    exact Qal rfl (an_ rfl rfl)
   cases h
   exact QZ rfl rfl
  refine Qa hC [.F,.n 2,.K [] [615]] rfl ⟨tt_,f⟩ ?_
  cases h
  exact Q1 rfl (an_ rfl rfl)
 rcases k with(s | _)
 ·replace h:Qf7 s=some r:=h
  rintro e σ ⟨rfl,rfl⟩
  refine tg_ hC [.n 2] rfl ?_
  cases h
  exact d1_ rfl rfl ⟨rfl,tt_⟩
 replace h:Qf8=some r:=h
 rintro e σ ⟨rfl,rfl⟩
 refine tg_ hC [.n 8] rfl ?_
 cases h
 exact d1_ rfl rfl ⟨rfl,tt_⟩
def Qcf (a:QLL)(b:(List Int)):Option Bool:=
 (QcH a b).bind fun c=>
 some (decide (0≤c))
theorem QlF (e a){r}(h:Qcf e a=some r):Qd prog 48 [.sl 1 (e.map Qj),.clo (.func 216) [] [.loc 615 0 0]] [(615,.var (Qj a))] (Gives (.b r) [(615,.var (Qj a))]):=by
 refine Qd.walk 9 func48 rfl rfl rfl fun C hC=>?_
 obtain⟨f,c,h⟩:=Qc h
 refine Qa hC [.n 9,.cm (.fn) [(615,615)] [(615,615)] [] [.d,.d] [(615,.var (Qj a))] (.I f),.n 5] rfl ⟨tt_,(Qmi _ _ c)⟩ ?_
 cases h
 exact d1_ rfl rfl ⟨rfl,tt_⟩
def Qej (a:Int)(b:Int)(c:(List Int)):Option Bool:=
 (QaF a b).bind fun d=>
 (Qcf d c).bind fun e=>
 some e
theorem Qqt (a c e){r}(h:Qej a c e=some r):Qd prog 171 [.I a,.I c,.sl 1 (e.map Qb)] [] (Gives (.b r) []):=by
 refine Qd.walk 12 func171 rfl rfl rfl fun C hC=>?_
 obtain⟨f,g,h⟩:=Qc h
 obtain⟨j,i,h⟩:=Qc h
 refine Qa hC [.n 10,.o (.co false [.d,.d] 1 (f.map Qj) f.length),.n 1,.frz 9 (f.map Qj) [9] [],.cm (.fn) [(615,5)] [(5,615)] [] [.d,.d] [(615,.var (Qj e))] (.b j),.n 4] rfl ⟨⟨⟨tt_,⟨(QfI _ _ g),Qg,.inl rfl⟩⟩,⟨tt_,(Qci Qg)⟩⟩,(QlF _ _ i)⟩ ?_
 cases h
 exact d1_ rfl rfl tt_

end Go.Proofs
