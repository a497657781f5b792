/- What functions of the program do, as functions over plain data, and the walks that show it: printed by a program. -/
import Derived.Test.YtidpjdkldadlpaaGreatDoorM3T2
set_option linter.unusedVariables false
set_option linter.unusedSimpArgs false
set_option linter.unusedSectionVars false
set_option linter.deprecated false
set_option maxRecDepth 100000
set_option maxHeartbeats 4000000
noncomputable section
namespace Go.Proofs
open Go Go.RowKit Go.Vm Go.Proofs.Tryz
def Qey (b:QC)(v:Int)(f:Qj)(u:Int)(w:Int)(g:Int)(x:Int)(h:Int)(y:Int)(i:Int)(j:Int)(k:Int)(l:Int)(m:Int)(n:Int):Option (Int×Int):=
 (QkW b).bind fun o=>
 bif (!o)then
 some (v,h)
 else
 (QkY f u b).bind fun p=>
 bif (!p)then
 some (w,h)
 else
 (Qh0 g b).bind fun q=>
 bif (!q)then
 some (x,h)
 else
 (QgV f b h).bind fun a=>
 bif (!a.1)then
 some (y,a.2)
 else
 (Qh1 f u).bind fun r=>
 bif (!r)then
 some (i,a.2)
 else
 (Qk0 b g).bind fun s=>
 bif (!s)then
 some (j,a.2)
 else
 (QgW f b g a.2).bind fun d=>
 bif (!d.1)then
 some (k,d.2)
 else
 (QgX f b g d.2).bind fun e=>
 bif (!e.1)then
 some (l,e.2)
 else
 (QgY f b e.2).bind fun c=>
 bif (!c.1)then
 some (m,c.2)
 else
 (QjR b).bind fun t=>
 bif (!t)then
 some (n,c.2)
 else
 some (0,c.2)
theorem Qtp (e v2 t D v5 B v7 v8 v9 u w x y z A){r}(h:Qey e v2 t D v5 B v7 v8 v9 u w x y z A=some r):Qc prog 122 [.own 617 10] [(617,.var [.clo (.func 183) [] [.loc 618 0 0],.I v2,.clo (.func 184) [] [.loc 619 0 0,.loc 620 0 0,.loc 621 0 0],.I v5,.clo (.func 186) [] [.loc 622 0 0,.loc 618 0 0],.I v7,.clo (.func 227) [] [.loc 623 0 0,.loc 624 0 0],.I v9,.clo (.func 190) [] [.loc 619 0 0,.loc 620 0 0],.I u,.clo (.func 191) [] [.loc 618 0 0,.loc 622 0 0],.I w,.clo (.func 227) [] [.loc 626 0 0,.loc 627 0 0],.I x,.clo (.func 227) [] [.loc 628 0 0,.loc 629 0 0],.I y,.clo (.func 227) [] [.loc 630 0 0,.loc 631 0 0],.I z,.clo (.func 198) [] [.loc 618 0 0],.I A]),(618,.var (Qh e)),(619,.var (Qd t)),(620,.var (Qe D)),(621,.var [.clo (.func 182) [] [.loc 618 0 0]]),(622,.var (Qe B)),(623,.var [.clo (.func 188) [] [.loc 619 0 0,.loc 618 0 0]]),(624,.var [.loc 625 0 0]),(625,.var (Qe v8)),(626,.var [.clo (.func 193) [] [.loc 619 0 0,.loc 618 0 0,.loc 622 0 0]]),(627,.var [.loc 625 0 0]),(628,.var [.clo (.func 195) [] [.loc 619 0 0,.loc 618 0 0,.loc 622 0 0]]),(629,.var [.loc 625 0 0]),(630,.var [.clo (.func 196) [] [.loc 619 0 0,.loc 618 0 0]]),(631,.var [.loc 625 0 0])] (Gives (.I r.1) [(617,.var [.clo (.func 183) [] [.loc 618 0 0],.I v2,.clo (.func 184) [] [.loc 619 0 0,.loc 620 0 0,.loc 621 0 0],.I v5,.clo (.func 186) [] [.loc 622 0 0,.loc 618 0 0],.I v7,.clo (.func 227) [] [.loc 623 0 0,.loc 624 0 0],.I v9,.clo (.func 190) [] [.loc 619 0 0,.loc 620 0 0],.I u,.clo (.func 191) [] [.loc 618 0 0,.loc 622 0 0],.I w,.clo (.func 227) [] [.loc 626 0 0,.loc 627 0 0],.I x,.clo (.func 227) [] [.loc 628 0 0,.loc 629 0 0],.I y,.clo (.func 227) [] [.loc 630 0 0,.loc 631 0 0],.I z,.clo (.func 198) [] [.loc 618 0 0],.I A]),(618,.var (Qh e)),(619,.var (Qd t)),(620,.var (Qe D)),(621,.var [.clo (.func 182) [] [.loc 618 0 0]]),(622,.var (Qe B)),(623,.var [.clo (.func 188) [] [.loc 619 0 0,.loc 618 0 0]]),(624,.var [.loc 625 0 0]),(625,.var (Qe r.2)),(626,.var [.clo (.func 193) [] [.loc 619 0 0,.loc 618 0 0,.loc 622 0 0]]),(627,.var [.loc 625 0 0]),(628,.var [.clo (.func 195) [] [.loc 619 0 0,.loc 618 0 0,.loc 622 0 0]]),(629,.var [.loc 625 0 0]),(630,.var [.clo (.func 196) [] [.loc 619 0 0,.loc 618 0 0]]),(631,.var [.loc 625 0 0])]):=by
 refine Qc.walk 18 func122 rfl rfl rfl fun C hC=>?_
 refine tg_ hC [.n 14] rfl ?_
 refine AK.loopN 11 (AK.rnd ?_)
 obtain⟨a0,E,h⟩:=Qb h
 refine Qa hC [.n 2,.v .no [] (.b true),.n 10,.o (.any (.loc 617 0 0) none),.n 3,.O 4 (.var [.clo (.func 183) [] [.loc 618 0 0],.I v2]),.n 6,.cm (.clo) [(617,618)] [(618,617)] [] [.d] [(617,.var (Qh e))] (.b a0),.n 3] rfl ⟨⟨⟨⟨tt_,rfl⟩,(fun σ a c _=>Stp.idxV rfl rfl (QN hC.n rfl) (a _ _ rfl) (a _ _ rfl) (Qs.es rfl) (c _ _ rfl) (by decide))⟩,rfl⟩,(QuY _ E)⟩ ?_
 refine bg_ h (fun f h=>Qa hC [.T,.n 13,.K [2] [617,618,619,620,621,622,623,624,625,626,627,628,629,630,631]] rfl ⟨tt_,f⟩ ?_) fun f h=>Qa hC [.F,.n 4,.v .no [] (.I 1),.n 2] rfl ⟨⟨tt_,f⟩,rfl⟩ ?_
 ·cases h
  exact d1_ rfl rfl ⟨rfl,rfl,rfl,rfl,rfl,rfl,rfl,rfl,rfl,rfl,rfl,rfl,rfl,rfl,rfl,tt_⟩
 refine AK.met (AK.rnd ?_)
 obtain⟨a1,G,h⟩:=Qb h
 refine Qa hC [.n 2,.v .no [] (.b true),.n 10,.o (.any (.loc 617 0 2) none),.n 1,.kill 4,.n 2,.O 4 (.var [.clo (.func 184) [] [.loc 619 0 0,.loc 620 0 0,.loc 621 0 0],.I v5]),.n 6,.cm (.clo) [(617,619),(618,620),(619,621),(620,618)] [(619,617),(620,618),(621,619),(618,620)] [] [.d,.d,.d] [(617,.var (Qd t)),(618,.var (Qe D)),(619,.var [.clo (.func 182) [] [.loc 620 0 0]]),(620,.var (Qh e))] (.b a1),.n 3] rfl ⟨⟨⟨⟨tt_,rfl⟩,(fun σ a c _=>Stp.idxV rfl rfl (QN hC.n rfl) (a _ _ rfl) (a _ _ rfl) (Qs.es rfl) (c _ _ rfl) (by decide))⟩,rfl⟩,(Qu0 _ _ _ G)⟩ ?_
 refine bg_ h (fun g h=>Qa hC [.T,.n 13,.K [2] [617,618,619,620,621,622,623,624,625,626,627,628,629,630,631]] rfl ⟨tt_,g⟩ ?_) fun g h=>Qa hC [.F,.n 4,.v .no [] (.I 2),.n 2] rfl ⟨⟨tt_,g⟩,rfl⟩ ?_
 ·cases h
  exact d1_ rfl rfl ⟨rfl,rfl,rfl,rfl,rfl,rfl,rfl,rfl,rfl,rfl,rfl,rfl,rfl,rfl,rfl,tt_⟩
 refine AK.met (AK.rnd ?_)
 obtain⟨a2,H,h⟩:=Qb h
 refine Qa hC [.n 2,.v .no [] (.b true),.n 10,.o (.any (.loc 617 0 4) none),.n 1,.kill 4,.n 2,.O 4 (.var [.clo (.func 186) [] [.loc 622 0 0,.loc 618 0 0],.I v7]),.n 6,.cm (.clo) [(617,622),(618,618)] [(622,617),(618,618)] [] [.d,.d] [(617,.var (Qe B)),(618,.var (Qh e))] (.b a2),.n 3] rfl ⟨⟨⟨⟨tt_,rfl⟩,(fun σ a c _=>Stp.idxV rfl rfl (QN hC.n rfl) (a _ _ rfl) (a _ _ rfl) (Qs.es rfl) (c _ _ rfl) (by decide))⟩,rfl⟩,(Qu1 _ _ H)⟩ ?_
 refine bg_ h (fun i h=>Qa hC [.T,.n 13,.K [2] [617,618,619,620,621,622,623,624,625,626,627,628,629,630,631]] rfl ⟨tt_,i⟩ ?_) fun i h=>Qa hC [.F,.n 4,.v .no [] (.I 3),.n 2] rfl ⟨⟨tt_,i⟩,rfl⟩ ?_
 ·cases h
  exact d1_ rfl rfl ⟨rfl,rfl,rfl,rfl,rfl,rfl,rfl,rfl,rfl,rfl,rfl,rfl,rfl,rfl,rfl,tt_⟩
 refine AK.met (AK.rnd ?_)
 obtain⟨J,L,h⟩:=Qb h
 refine Qa hC [.n 2,.v .no [] (.b true),.n 10,.o (.any (.loc 617 0 6) none),.n 1,.kill 4,.n 2,.O 4 (.var [.clo (.func 227) [] [.loc 623 0 0,.loc 624 0 0],.I v9]),.n 6,.cm (.clo) [(617,623),(618,619),(619,618),(620,624),(621,625)] [(623,617),(619,618),(618,619),(624,620),(625,621)] [] [.d,.d] [(617,.var [.clo (.func 188) [] [.loc 618 0 0,.loc 619 0 0]]),(618,.var (Qd t)),(619,.var (Qh e)),(620,.var [.loc 621 0 0]),(621,.var (Qe J.2))] (.b J.1),.n 3] rfl ⟨⟨⟨⟨tt_,rfl⟩,(fun σ a c _=>Stp.idxV rfl rfl (QN hC.n rfl) (a _ _ rfl) (a _ _ rfl) (Qs.es rfl) (c _ _ rfl) (by decide))⟩,rfl⟩,(Qt7 _ _ _ L)⟩ ?_
 refine bg_ h (fun j h=>Qa hC [.T,.n 13,.K [2] [617,618,619,620,621,622,623,624,625,626,627,628,629,630,631]] rfl ⟨tt_,j⟩ ?_) fun j h=>Qa hC [.F,.n 4,.v .no [] (.I 4),.n 2] rfl ⟨⟨tt_,j⟩,rfl⟩ ?_
 ·cases h
  exact d1_ rfl rfl ⟨rfl,rfl,rfl,rfl,rfl,rfl,rfl,rfl,rfl,rfl,rfl,rfl,rfl,rfl,rfl,tt_⟩
 refine AK.met (AK.rnd ?_)
 obtain⟨a3,M,h⟩:=Qb h
 refine Qa hC [.n 2,.v .no [] (.b true),.n 10,.o (.any (.loc 617 0 8) none),.n 1,.kill 4,.n 2,.O 4 (.var [.clo (.func 190) [] [.loc 619 0 0,.loc 620 0 0],.I u]),.n 6,.cm (.clo) [(617,619),(618,620)] [(619,617),(620,618)] [] [.d,.d] [(617,.var (Qd t)),(618,.var (Qe D))] (.b a3),.n 3] rfl ⟨⟨⟨⟨tt_,rfl⟩,(fun σ a c _=>Stp.idxV rfl rfl (QN hC.n rfl) (a _ _ rfl) (a _ _ rfl) (Qs.es rfl) (c _ _ rfl) (by decide))⟩,rfl⟩,(Qu3 _ _ M)⟩ ?_
 refine bg_ h (fun k h=>Qa hC [.T,.n 13,.K [2] [617,618,619,620,621,622,623,624,625,626,627,628,629,630,631]] rfl ⟨tt_,k⟩ ?_) fun k h=>Qa hC [.F,.n 4,.v .no [] (.I 5),.n 2] rfl ⟨⟨tt_,k⟩,rfl⟩ ?_
 ·cases h
  exact d1_ rfl rfl ⟨rfl,rfl,rfl,rfl,rfl,rfl,rfl,rfl,rfl,rfl,rfl,rfl,rfl,rfl,rfl,tt_⟩
 refine AK.met (AK.rnd ?_)
 obtain⟨a4,N,h⟩:=Qb h
 refine Qa hC [.n 2,.v .no [] (.b true),.n 10,.o (.any (.loc 617 0 10) none),.n 1,.kill 4,.n 2,.O 4 (.var [.clo (.func 191) [] [.loc 618 0 0,.loc 622 0 0],.I w]),.n 6,.cm (.clo) [(617,618),(618,622)] [(618,617),(622,618)] [] [.d,.d] [(617,.var (Qh e)),(618,.var (Qe B))] (.b a4),.n 3] rfl ⟨⟨⟨⟨tt_,rfl⟩,(fun σ a c _=>Stp.idxV rfl rfl (QN hC.n rfl) (a _ _ rfl) (a _ _ rfl) (Qs.es rfl) (c _ _ rfl) (by decide))⟩,rfl⟩,(Qu4 _ _ N)⟩ ?_
 refine bg_ h (fun l h=>Qa hC [.T,.n 13,.K [2] [617,618,619,620,621,622,623,624,625,626,627,628,629,630,631]] rfl ⟨tt_,l⟩ ?_) fun l h=>Qa hC [.F,.n 4,.v .no [] (.I 6),.n 2] rfl ⟨⟨tt_,l⟩,rfl⟩ ?_
 ·cases h
  exact d1_ rfl rfl ⟨rfl,rfl,rfl,rfl,rfl,rfl,rfl,rfl,rfl,rfl,rfl,rfl,rfl,rfl,rfl,tt_⟩
 refine AK.met (AK.rnd ?_)
 obtain⟨P,S,h⟩:=Qb h
 refine Qa hC [.n 2,.v .no [] (.b true),.n 10,.o (.any (.loc 617 0 12) none),.n 1,.kill 4,.n 2,.O 4 (.var [.clo (.func 227) [] [.loc 626 0 0,.loc 627 0 0],.I x]),.n 6,.cm (.clo) [(617,626),(618,619),(619,618),(620,622),(621,627),(622,625)] [(626,617),(619,618),(618,619),(622,620),(627,621),(625,622)] [] [.d,.d] [(617,.var [.clo (.func 193) [] [.loc 618 0 0,.loc 619 0 0,.loc 620 0 0]]),(618,.var (Qd t)),(619,.var (Qh e)),(620,.var (Qe B)),(621,.var [.loc 622 0 0]),(622,.var (Qe P.2))] (.b P.1),.n 3] rfl ⟨⟨⟨⟨tt_,rfl⟩,(fun σ a c _=>Stp.idxV rfl rfl (QN hC.n rfl) (a _ _ rfl) (a _ _ rfl) (Qs.es rfl) (c _ _ rfl) (by decide))⟩,rfl⟩,(QrK _ _ _ _ S)⟩ ?_
 refine bg_ h (fun m h=>Qa hC [.T,.n 13,.K [2] [617,618,619,620,621,622,623,624,625,626,627,628,629,630,631]] rfl ⟨tt_,m⟩ ?_) fun m h=>Qa hC [.F,.n 4,.v .no [] (.I 7),.n 2] rfl ⟨⟨tt_,m⟩,rfl⟩ ?_
 ·cases h
  exact d1_ rfl rfl ⟨rfl,rfl,rfl,rfl,rfl,rfl,rfl,rfl,rfl,rfl,rfl,rfl,rfl,rfl,rfl,tt_⟩
 refine AK.met (AK.rnd ?_)
 obtain⟨U,W,h⟩:=Qb h
 refine Qa hC [.n 2,.v .no [] (.b true),.n 10,.o (.any (.loc 617 0 14) none),.n 1,.kill 4,.n 2,.O 4 (.var [.clo (.func 227) [] [.loc 628 0 0,.loc 629 0 0],.I y]),.n 6,.cm (.clo) [(617,628),(618,619),(619,618),(620,622),(621,629),(622,625)] [(628,617),(619,618),(618,619),(622,620),(629,621),(625,622)] [] [.d,.d] [(617,.var [.clo (.func 195) [] [.loc 618 0 0,.loc 619 0 0,.loc 620 0 0]]),(618,.var (Qd t)),(619,.var (Qh e)),(620,.var (Qe B)),(621,.var [.loc 622 0 0]),(622,.var (Qe U.2))] (.b U.1),.n 3] rfl ⟨⟨⟨⟨tt_,rfl⟩,(fun σ a c _=>Stp.idxV rfl rfl (QN hC.n rfl) (a _ _ rfl) (a _ _ rfl) (Qs.es rfl) (c _ _ rfl) (by decide))⟩,rfl⟩,(QrL _ _ _ _ W)⟩ ?_
 refine bg_ h (fun p h=>Qa hC [.T,.n 13,.K [2] [617,618,619,620,621,622,623,624,625,626,627,628,629,630,631]] rfl ⟨tt_,p⟩ ?_) fun p h=>Qa hC [.F,.n 4,.v .no [] (.I 8),.n 2] rfl ⟨⟨tt_,p⟩,rfl⟩ ?_
 ·cases h
  exact d1_ rfl rfl ⟨rfl,rfl,rfl,rfl,rfl,rfl,rfl,rfl,rfl,rfl,rfl,rfl,rfl,rfl,rfl,tt_⟩
 refine AK.met (AK.rnd ?_)
 obtain⟨X,Y,h⟩:=Qb h
 refine Qa hC [.n 2,.v .no [] (.b true),.n 10,.o (.any (.loc 617 0 16) none),.n 1,.kill 4,.n 2,.O 4 (.var [.clo (.func 227) [] [.loc 630 0 0,.loc 631 0 0],.I z]),.n 6,.cm (.clo) [(617,630),(618,619),(619,618),(620,631),(621,625)] [(630,617),(619,618),(618,619),(631,620),(625,621)] [] [.d,.d] [(617,.var [.clo (.func 196) [] [.loc 618 0 0,.loc 619 0 0]]),(618,.var (Qd t)),(619,.var (Qh e)),(620,.var [.loc 621 0 0]),(621,.var (Qe X.2))] (.b X.1),.n 3] rfl ⟨⟨⟨⟨tt_,rfl⟩,(fun σ a c _=>Stp.idxV rfl rfl (QN hC.n rfl) (a _ _ rfl) (a _ _ rfl) (Qs.es rfl) (c _ _ rfl) (by decide))⟩,rfl⟩,(QrM _ _ _ Y)⟩ ?_
 refine bg_ h (fun q h=>Qa hC [.T,.n 13,.K [2] [617,618,619,620,621,622,623,624,625,626,627,628,629,630,631]] rfl ⟨tt_,q⟩ ?_) fun q h=>Qa hC [.F,.n 4,.v .no [] (.I 9),.n 2] rfl ⟨⟨tt_,q⟩,rfl⟩ ?_
 ·cases h
  exact d1_ rfl rfl ⟨rfl,rfl,rfl,rfl,rfl,rfl,rfl,rfl,rfl,rfl,rfl,rfl,rfl,rfl,rfl,tt_⟩
 refine AK.met (AK.rnd ?_)
 obtain⟨a5,Z,h⟩:=Qb h
 refine Qa hC [.n 2,.v .no [] (.b true),.n 10,.o (.any (.loc 617 0 18) none),.n 1,.kill 4,.n 2,.O 4 (.var [.clo (.func 198) [] [.loc 618 0 0],.I A]),.n 6,.cm (.clo) [(617,618)] [(618,617)] [] [.d] [(617,.var (Qh e))] (.b a5),.n 3] rfl ⟨⟨⟨⟨tt_,rfl⟩,(fun σ a c _=>Stp.idxV rfl rfl (QN hC.n rfl) (a _ _ rfl) (a _ _ rfl) (Qs.es rfl) (c _ _ rfl) (by decide))⟩,rfl⟩,(Qua _ Z)⟩ ?_
 refine bg_ h (fun s h=>Qa hC [.T,.n 13,.K [2] [617,618,619,620,621,622,623,624,625,626,627,628,629,630,631]] rfl ⟨tt_,s⟩ ?_) fun s h=>Qa hC [.F,.n 4,.v .no [] (.I 10),.n 2] rfl ⟨⟨tt_,s⟩,rfl⟩ ?_
 ·cases h
  exact d1_ rfl rfl ⟨rfl,rfl,rfl,rfl,rfl,rfl,rfl,rfl,rfl,rfl,rfl,rfl,rfl,rfl,rfl,tt_⟩
 refine AK.met (AK.rnd ?_)
 refine Qa hC [.n 2,.v .no [] (.b false),.n 15] rfl ⟨tt_,rfl⟩ ?_
 cases h
 exact d1_ rfl rfl ⟨rfl,rfl,rfl,rfl,rfl,rfl,rfl,rfl,rfl,rfl,rfl,rfl,rfl,rfl,rfl,tt_⟩
def Qca (a:Qj)(e:Int):Option Int:=
 (Qbt a.Tasks e).bind fun g=>
 bif (!g)then
 some 3
 else
 (QgU a).bind fun f=>
 bif (f.2 != 0)then
 some f.2
 else
 (idx a.Tasks e).bind fun d=>
 (idx a.Tasks e).bind fun b=>
 (QlO 0 a d).bind fun h=>
 (Qiy 0 a d (b.Vars.length:Int)).bind fun i=>
 (Qiz 0 a d (b.Vars.length:Int)).bind fun j=>
 (QiA 0 a d).bind fun k=>
 (Qey d 1 a e 5 (b.Vars.length:Int) 2 0 (-1) 2 1 (-1) (-1) (-1) 11).bind fun c=>
 bif (c.1==(-1))then
 some c.2
 else
 some c.1
theorem QwB (g y){r}(h:Qca g y=some r):Qc prog 133 [.agg (Qd g),.I y] [] (Gives (.I r) []):=by
 refine Qc.walk 68 func133 rfl rfl rfl fun C hC=>?_
 obtain⟨E,z,h⟩:=Qb h
 refine Qa hC [.n 13,.o (.c false [.d,.d] (.b E)),.n 3] rfl ⟨tt_,(QjO _ _ z)⟩ ?_
 rcases Qt h with⟨j,h⟩|⟨j,h⟩
 ·refine Qa hC [.T,.n 7] rfl ⟨tt_,j⟩ ?_
  cases h
  exact d1_ rfl rfl tt_
 obtain⟨D,A,h⟩:=Qb h
 refine Qa hC [.F,.n 5,.v .no [] (.agg (Qd g)),.o (.c false [.d] (.tup [.I D.1,.I D.2])),.n 13] rfl ⟨⟨⟨tt_,j⟩,rfl⟩,(QnZ _ A)⟩ ?_
 rcases Qt h with⟨k,h⟩|⟨k,h⟩
 ·refine Qa hC [.T,.n 8] rfl ⟨tt_,k⟩ ?_
  cases h
  exact d1_ rfl rfl tt_
 obtain⟨i,B,h⟩:=Qb h
 obtain⟨e,l,h⟩:=Qb h
 refine Qa hC [.F,.n 3,.K [2,3] [2,3]] rfl ⟨tt_,k⟩ ?_
 refine AK.draw2 Qs hC mixed [.N,.N,.N,.a (.row (Qh i)) none false,.a .no (some ([],.agg (Qh i))) false,.a .no none true,.a .no none true,.a .no none true,.a (.row (Qh e)) none true,.a .no none true,.a .no none true,.a (.ln e.Vars.length) none true,.N,.N,.m .s,.m .s] [2,3] [2,3] [2,3,7,8] [2,3,7,8] rfl rfl rfl ⟨⟨⟨⟨tt_,(QT B)⟩,rfl⟩,(QT l)⟩,Qf⟩ rfl (by kernel_rfl) rfl rfl rfl ?_
 obtain⟨G,p,h⟩:=Qb h
 obtain⟨H,q,h⟩:=Qb h
 obtain⟨J,t,h⟩:=Qb h
 obtain⟨L,u,h⟩:=Qb h
 obtain⟨w,x,h⟩:=Qb h
 refine Qa hC [.O 7 (.var (Qh i)),.O 8 (.var (Qe (e.Vars.length:Int))),.n 6,.O 9 (.var [.clo (.func 182) [] [.loc 7 0 0]]),.n 10,.v .no [] (.agg [.clo (.func 183) [] [.loc 7 0 0],.I 1]),.n 1,.v .no [] (.agg [.clo (.func 184) [] [.loc 2 0 0,.loc 3 0 0,.loc 9 0 0],.I 5]),.n 1,.v .no [] (.agg [.clo (.func 186) [] [.loc 8 0 0,.loc 7 0 0],.I 2]),.n 1,.cm (.fn) [(617,10),(618,2),(619,7)] [(45,2),(610,3),(10,617),(2,618),(7,619)] [] [.d,.d] [(2,.var [.loc 617 0 0]),(3,.var [.clo (.func 188) [] [.loc 618 0 0,.loc 619 0 0]]),(617,.var (Qe 0)),(618,.var (Qd g)),(619,.var (Qh i))] (.clo (.func 227) [] [.loc 3 0 0,.loc 2 0 0]),.v .no [] (.agg [.clo (.func 227) [] [.loc 610 0 0,.loc 45 0 0],.I (-1)]),.n 1,.v .no [] (.agg [.clo (.func 190) [] [.loc 2 0 0,.loc 3 0 0],.I 2]),.n 1,.v .no [] (.agg [.clo (.func 191) [] [.loc 7 0 0,.loc 8 0 0],.I 1]),.n 1,.cm (.fn) [(617,10),(618,2),(619,7),(620,8)] [(52,2),(611,3),(10,617),(2,618),(7,619),(8,620)] [] [.d,.d] [(2,.var [.loc 617 0 0]),(3,.var [.clo (.func 193) [] [.loc 618 0 0,.loc 619 0 0,.loc 620 0 0]]),(617,.var (Qe 0)),(618,.var (Qd g)),(619,.var (Qh i)),(620,.var (Qe (e.Vars.length:Int)))] (.clo (.func 227) [] [.loc 3 0 0,.loc 2 0 0]),.v .no [] (.agg [.clo (.func 227) [] [.loc 611 0 0,.loc 52 0 0],.I (-1)]),.n 1,.cm (.fn) [(617,10),(618,2),(619,7),(620,8)] [(55,2),(612,3),(10,617),(2,618),(7,619),(8,620)] [] [.d,.d] [(2,.var [.loc 617 0 0]),(3,.var [.clo (.func 195) [] [.loc 618 0 0,.loc 619 0 0,.loc 620 0 0]]),(617,.var (Qe 0)),(618,.var (Qd g)),(619,.var (Qh i)),(620,.var (Qe (e.Vars.length:Int)))] (.clo (.func 227) [] [.loc 3 0 0,.loc 2 0 0]),.v .no [] (.agg [.clo (.func 227) [] [.loc 612 0 0,.loc 55 0 0],.I (-1)]),.n 1,.cm (.fn) [(617,10),(618,2),(619,7)] [(58,2),(613,3),(10,617),(2,618),(7,619)] [] [.d,.d] [(2,.var [.loc 617 0 0]),(3,.var [.clo (.func 196) [] [.loc 618 0 0,.loc 619 0 0]]),(617,.var (Qe 0)),(618,.var (Qd g)),(619,.var (Qh i))] (.clo (.func 227) [] [.loc 3 0 0,.loc 2 0 0]),.v .no [] (.agg [.clo (.func 227) [] [.loc 613 0 0,.loc 58 0 0],.I (-1)]),.n 1,.v .no [] (.agg [.clo (.func 198) [] [.loc 7 0 0],.I 11]),.o (.any (.own 62 10) (some (.var [.clo (.func 183) [] [.loc 7 0 0],.I 1,.clo (.func 184) [] [.loc 2 0 0,.loc 3 0 0,.loc 9 0 0],.I 5,.clo (.func 186) [] [.loc 8 0 0,.loc 7 0 0],.I 2,.clo (.func 227) [] [.loc 610 0 0,.loc 45 0 0],.I (-1),.clo (.func 190) [] [.loc 2 0 0,.loc 3 0 0],.I 2,.clo (.func 191) [] [.loc 7 0 0,.loc 8 0 0],.I 1,.clo (.func 227) [] [.loc 611 0 0,.loc 52 0 0],.I (-1),.clo (.func 227) [] [.loc 612 0 0,.loc 55 0 0],.I (-1),.clo (.func 227) [] [.loc 613 0 0,.loc 58 0 0],.I (-1),.clo (.func 198) [] [.loc 7 0 0],.I 11]))),.cm (.fn) [(617,62),(618,7),(619,2),(620,3),(621,9),(622,8),(623,610),(624,45),(625,10),(626,611),(627,52),(628,612),(629,55),(630,613),(631,58)] [(62,617),(7,618),(2,619),(3,620),(9,621),(8,622),(610,623),(45,624),(10,625),(611,626),(52,627),(612,628),(55,629),(613,630),(58,631)] [] [.d] [(617,.var [.clo (.func 183) [] [.loc 618 0 0],.I 1,.clo (.func 184) [] [.loc 619 0 0,.loc 620 0 0,.loc 621 0 0],.I 5,.clo (.func 186) [] [.loc 622 0 0,.loc 618 0 0],.I 2,.clo (.func 227) [] [.loc 623 0 0,.loc 624 0 0],.I (-1),.clo (.func 190) [] [.loc 619 0 0,.loc 620 0 0],.I 2,.clo (.func 191) [] [.loc 618 0 0,.loc 622 0 0],.I 1,.clo (.func 227) [] [.loc 626 0 0,.loc 627 0 0],.I (-1),.clo (.func 227) [] [.loc 628 0 0,.loc 629 0 0],.I (-1),.clo (.func 227) [] [.loc 630 0 0,.loc 631 0 0],.I (-1),.clo (.func 198) [] [.loc 618 0 0],.I 11]),(618,.var (Qh i)),(619,.var (Qd g)),(620,.var (Qe y)),(621,.var [.clo (.func 182) [] [.loc 618 0 0]]),(622,.var (Qe (e.Vars.length:Int))),(623,.var [.clo (.func 188) [] [.loc 619 0 0,.loc 618 0 0]]),(624,.var [.loc 625 0 0]),(625,.var (Qe w.2)),(626,.var [.clo (.func 193) [] [.loc 619 0 0,.loc 618 0 0,.loc 622 0 0]]),(627,.var [.loc 625 0 0]),(628,.var [.clo (.func 195) [] [.loc 619 0 0,.loc 618 0 0,.loc 622 0 0]]),(629,.var [.loc 625 0 0]),(630,.var [.clo (.func 196) [] [.loc 619 0 0,.loc 618 0 0]]),(631,.var [.loc 625 0 0])] (.I w.1),.n 10] rfl ⟨⟨⟨⟨⟨⟨⟨⟨⟨⟨⟨⟨⟨⟨⟨⟨⟨⟨⟨tt_,rfl⟩,rfl⟩,rfl⟩,rfl⟩,rfl⟩,rfl⟩,(QvR _ _ _ p)⟩,rfl⟩,rfl⟩,rfl⟩,(Qtg _ _ _ _ q)⟩,rfl⟩,(Qth _ _ _ _ t)⟩,rfl⟩,(Qti _ _ _ u)⟩,rfl⟩,rfl⟩,(fun σ M P hf=>Stp.buildAny rfl rfl (QN hC.n rfl) (Qs.es rfl) QnV rfl (by decide) (by decide) (QfZ M rfl) rfl rfl (hf rfl))⟩,(Qtp _ _ _ _ _ _ _ _ _ _ _ _ _ _ _ x)⟩ ?_
 refine bg_ h (fun f h=>Qa hC [.T,.n 8,.K [4] []] rfl ⟨tt_,f⟩ ?_) fun f h=>Qa hC [.F,.n 9,.K [4] []] rfl ⟨tt_,f⟩ ?_
 ·cases h
  exact d1_ rfl rfl tt_
 cases h
 exact d1_ rfl rfl tt_
def QiX (a:Int)(d:QC)(b:Qj):Option Int:=
 (Qca b a).bind fun c=>
 some c
theorem QvT (e f a){r}(h:QiX e f a=some r):Qc prog 132 [.I e,.agg (Qh f),.loc 617 0 0] [(617,.var (Qd a))] (Gives (.I r) [(617,.var (Qd a))]):=by
 refine Qc.walk 9 func132 rfl rfl rfl fun C hC=>?_
 obtain⟨g,b,h⟩:=Qb h
 refine Qa hC [.n 8,.v .no [] (.agg (Qd a)),.n 1,.o (.c false [.d,.d] (.I g)),.n 4] rfl ⟨⟨tt_,rfl⟩,(QwB _ _ b)⟩ ?_
 cases h
 exact d1_ rfl rfl ⟨rfl,tt_⟩
def QbS (d:(List QC))(e:Qj)(a:Int):Option (Int⊕((Int×Int)⊕Unit)):=
 bif (decide (a<(d.length:Int)))then
 (idx d a).bind fun c=>
 (QiX a c e).bind fun b=>
 bif (b != 0)then
 some (.inr (.inl (a,b)))
 else
 some (.inl (w64 (a+1)))
 else
 some (.inr (.inr ()))
def QdV (b:Int)(a:Int):Option (Int×Int):=
 some (b,a)
def QdW : Option (Int×Int):=
 some (0,0)
def Qcv (a:(List QC))(b:Qj):Option (Int×Int):=
 (QJ (fun st=>QbS a b st) 0).bind (Sum.elim (fun q=>QdV q.1 q.2) (fun q=>QdW))
theorem QpV (g f){r}(h:Qcv g f=some r):Qc prog 131 [.sl 14 (g.map Qh),.clo (.func 132) [] [.loc 617 0 0]] [(617,.var (Qd f))] (Gives (.tup [.I r.1,.I r.2]) [(617,.var (Qd f))]):=by
 refine Qc.walk 25 func131 rfl rfl rfl fun C hC=>?_
 refine Qa hC [.n 10,.o (.ln g.length),.n 4,.K [1,9,10,11] [617]] rfl ⟨tt_,Qf⟩ ?_
 obtain⟨l,i,h⟩:=Qb h
 refine AK.loop (body:=(fun st=>QbS g f st)) (fun st σ=>σ=⟨[(1,.clo (.func 132) [] [.loc 617 0 0]),(9,.sl 14 (g.map Qh)),(10,.I (g.length:Int)),(11,.I st)],[(617,.var (Qd f))]⟩) (Sum.elim (fun q e σ=>e=.ret∧σ=⟨[(4,.I q.1),(5,.I q.2)],[(617,.var (Qd f))]⟩) (fun q e σ=>e=.exit 0∧σ=⟨[],[(617,.var (Qd f))]⟩)) i rfl ?_ ?_
 ·rintro t o σ rfl h
  refine tg_ hC [.n 6] rfl ?_
  rcases Qt h with⟨a,h⟩|⟨a,h⟩
  ·obtain⟨c,j,h⟩:=Qb h
   obtain⟨m,k,h⟩:=Qb h
   refine Qa hC [.T,.n 7,.o (.row (Qh c)),.v .no [] (.agg (Qh c)),.n 3,.O 7 (.var (Qh c)),.n 6,.v .no [] (.agg (Qh c)),.cm (.clo) [(617,617)] [(617,617)] [] [.d,.d,.d] [(617,.var (Qd f))] (.I m),.n 9] rfl ⟨⟨⟨⟨⟨⟨tt_,a⟩,(QT j)⟩,rfl⟩,rfl⟩,rfl⟩,(QvT _ _ _ k)⟩ ?_
   refine bg_ h (fun b h=>Qa hC [.T,.n 11,.K [4,5] [617]] rfl ⟨tt_,b⟩ ?_) fun b h=>Qa hC [.F,.n 7,.K [1,9,10,11] [617]] rfl ⟨tt_,b⟩ ?_
   ·cases h
    exact Qav rfl (an_ rfl rfl)
   cases h
   exact Q6 rfl rfl
  refine Qa hC [.F,.n 2,.K [] [617]] rfl ⟨tt_,a⟩ ?_
  cases h
  exact Q8 rfl (an_ rfl rfl)
 rcases l with(⟨s,p⟩|_)
 ·replace h:QdV s p=some r:=h
  rintro e σ ⟨rfl,rfl⟩
  refine tg_ hC [.n 2] rfl ?_
  cases h
  exact d2_ rfl rfl rfl ⟨rfl,tt_⟩
 replace h:QdW=some r:=h
 rintro e σ ⟨rfl,rfl⟩
 refine tg_ hC [.n 9] rfl ?_
 cases h
 exact d2_ rfl rfl rfl ⟨rfl,tt_⟩
def QfP (c:Qj):Option (Int×QeZ):=
 (QlL c 2 3 1).bind fun e=>
 bif (e != 0)then
 some (e,(QeZ.mk 1 0))
 else
 (QgU c).bind fun d=>
 bif (d.2 != 0)then
 some (d.2,(QeZ.mk 2 d.1))
 else
 (QeK c.Places c).bind fun a=>
 bif (a.2 != 0)then
 some (a.2,(QeZ.mk 3 a.1))
 else
 (Qcv c.Tasks c).bind fun b=>
 bif (b.2 != 0)then
 some (b.2,(QeZ.mk 4 b.1))
 else
 some (0,(QeZ.mk 0 0))
theorem Qxv (j){r}(h:QfP j=some r):Qc prog 77 [.agg (Qd j)] [] (Gives (.tup [.agg (Qdo r.2),.I r.1]) []):=by
 refine Qc.walk 58 func77 rfl rfl rfl fun C hC=>?_
 obtain⟨s,p,h⟩:=Qb h
 refine Qa hC [.n 10,.v .no [] (.agg [.clo (.func 123) [] [.loc 1 0 0],.I 2]),.n 1,.v .no [] (.agg [.clo (.func 124) [] [.loc 1 0 0],.I 3]),.n 1,.v .no [] (.agg [.clo (.func 126) [] [.loc 1 0 0],.I 1]),.o (.any (.own 17 3) (some (.var [.clo (.func 123) [] [.loc 1 0 0],.I 2,.clo (.func 124) [] [.loc 1 0 0],.I 3,.clo (.func 126) [] [.loc 1 0 0],.I 1]))),.cm (.fn) [(617,17),(618,1)] [(17,617),(1,618)] [] [.d] [(617,.var [.clo (.func 123) [] [.loc 618 0 0],.I 2,.clo (.func 124) [] [.loc 618 0 0],.I 3,.clo (.func 126) [] [.loc 618 0 0],.I 1]),(618,.var (Qd j))] (.I s),.n 10] rfl ⟨⟨⟨⟨⟨tt_,rfl⟩,rfl⟩,rfl⟩,(fun σ t u hf=>Stp.buildAny rfl rfl (QN hC.n rfl) (Qs.es rfl) QnV rfl (by decide) (by decide) (QfZ t rfl) rfl rfl (hf rfl))⟩,(QvN _ _ _ _ p)⟩ ?_
 rcases Qt h with⟨g,h⟩|⟨g,h⟩
 ·refine Qa hC [.T,.n 2,.v .no [] (.agg (Qdo (QeZ.mk 1 0))),.n 2,.O 2 (.var (Qdo (QeZ.mk 1 0))),.n 5,.K [2,3] [2]] rfl ⟨⟨⟨tt_,g⟩,rfl⟩,rfl⟩ ?_
  cases h
  exact AK.done (ex_ [_,_] (an_ (an_ (ex_ _ (ex_ _ (an_ rfl (an_ rfl (Or.inl (an_ (Qs.ag rfl) (an_ (Qs.sz rfl) rfl))))))) (an_ rfl tt_)) (gives tt_)))
 obtain⟨m,q,h⟩:=Qb h
 refine Qa hC [.F,.n 5,.v .no [] (.agg (Qd j)),.o (.c false [.d] (.tup [.I m.1,.I m.2])),.n 13] rfl ⟨⟨⟨tt_,g⟩,rfl⟩,(QnZ _ q)⟩ ?_
 rcases Qt h with⟨i,h⟩|⟨i,h⟩
 ·refine Qa hC [.T,.n 3,.v .no [] (.agg (Qdo (QeZ.mk 2 m.1))),.n 2,.O 2 (.var (Qdo (QeZ.mk 2 m.1))),.n 5,.K [2,3] [2]] rfl ⟨⟨⟨tt_,i⟩,rfl⟩,rfl⟩ ?_
  cases h
  exact AK.done (ex_ [_,_] (an_ (an_ (ex_ _ (ex_ _ (an_ rfl (an_ rfl (Or.inl (an_ (Qs.ag rfl) (an_ (Qs.sz rfl) rfl))))))) (an_ rfl tt_)) (gives tt_)))
 obtain⟨e,k,h⟩:=Qb h
 refine Qa hC [.F,.n 8,.cm (.fn) [(617,1)] [(1,617)] [] [.d,.d] [(617,.var (Qd j))] (.tup [.I e.1,.I e.2]),.n 13] rfl ⟨⟨tt_,i⟩,(QoX _ _ k)⟩ ?_
 rcases Qt h with⟨a,h⟩|⟨a,h⟩
 ·refine Qa hC [.T,.n 3,.v .no [] (.agg (Qdo (QeZ.mk 3 e.1))),.n 2,.O 2 (.var (Qdo (QeZ.mk 3 e.1))),.n 5,.K [2,3] [2]] rfl ⟨⟨⟨tt_,a⟩,rfl⟩,rfl⟩ ?_
  cases h
  exact AK.done (ex_ [_,_] (an_ (an_ (ex_ _ (ex_ _ (an_ rfl (an_ rfl (Or.inl (an_ (Qs.ag rfl) (an_ (Qs.sz rfl) rfl))))))) (an_ rfl tt_)) (gives tt_)))
 obtain⟨f,l,h⟩:=Qb h
 refine Qa hC [.F,.n 8,.cm (.fn) [(617,1)] [(1,617)] [] [.d,.d] [(617,.var (Qd j))] (.tup [.I f.1,.I f.2]),.n 13] rfl ⟨⟨tt_,a⟩,(QpV _ _ l)⟩ ?_
 refine bg_ h (fun b h=>Qa hC [.T,.n 3,.v .no [] (.agg (Qdo (QeZ.mk 4 f.1))),.n 2,.O 2 (.var (Qdo (QeZ.mk 4 f.1))),.n 5,.K [2,3] [2]] rfl ⟨⟨⟨tt_,b⟩,rfl⟩,rfl⟩ ?_) fun b h=>Qa hC [.F,.n 4,.v .no [] (.agg (Qdo (QeZ.mk 0 0))),.n 1,.O 2 (.var (Qdo (QeZ.mk 0 0))),.n 4,.K [2,3] [2]] rfl ⟨⟨⟨tt_,b⟩,rfl⟩,rfl⟩ ?_
 ·cases h
  exact AK.done (ex_ [_,_] (an_ (an_ (ex_ _ (ex_ _ (an_ rfl (an_ rfl (Or.inl (an_ (Qs.ag rfl) (an_ (Qs.sz rfl) rfl))))))) (an_ rfl tt_)) (gives tt_)))
 cases h
 exact AK.done (ex_ [_,_] (an_ (an_ (ex_ _ (ex_ _ (an_ rfl (an_ rfl (Or.inl (an_ (Qs.ag rfl) (an_ (Qs.sz rfl) rfl))))))) (an_ rfl tt_)) (gives tt_)))
def QqR (a:QBg)(b:Int):Option Bool:=
 (Qc4 a).bind fun c=>
 bif (!c)then
 some true
 else
 bif (decide (0<(a.length:Int)))then
 (idx a (w64 ((a.length:Int)-1))).bind fun d=>
 some (decide (b≤d.1))
 else
 some false
def QjS (b:Int)(a:Bool):Option (Int⊕(Unit⊕Unit)):=
 bif a then
 some (.inr (.inl ()))
 else
 some (.inl (w64 (b+1)))
def QjT (e:QMk)(f:Qj)(a:Int):Option (Int⊕(Unit⊕Unit)):=
 bif (decide (a<(e.length:Int)))then
 (idx e a).bind fun g=>
 (idx f.Places a).bind fun b=>
 (Qa3 f.Colours b.Colour).bind fun c=>
 (QqR g c).bind (fun d=>QjS a d)
 else
 some (.inr (.inr ()))
def QqS : Option Bool:=
 some false
def QqT : Option Bool:=
 some true
def QmS (a:Qj)(b:QMk):Option Bool:=
 bif ((b.length:Int) != (a.Places.length:Int))then
 some false
 else
 (QJ (fun st=>QjT b a st) 0).bind (Sum.elim (fun q=>QqS) (fun q=>QqT))
theorem QwC (p j){r}(h:QmS p j=some r):Qc prog 78 [.agg (Qd p),.sl 1 (j.map Qi)] [] (Gives (.b r) []):=by
 refine Qc.walk 50 func78 rfl rfl rfl fun C hC=>?_
 refine Qa hC [.n 10,.o (.ln j.length),.n 2,.o (.ln p.Places.length),.n 3] rfl ⟨⟨tt_,Qf⟩,Qf⟩ ?_
 refine bg_ h (fun k h=>Qa hC [.T,.n 7,.K [4] []] rfl ⟨tt_,k⟩ ?_) fun k h=>Qa hC [.F,.n 6,.o (.ln j.length),.n 4,.K [2,14,15,16] [2]] rfl ⟨⟨tt_,k⟩,Qf⟩ ?_
 ·cases h
  exact d1_ rfl rfl tt_
 obtain⟨y,s,h⟩:=Qb h
 refine AK.loop (body:=(fun st=>QjT j p st)) (fun st σ=>σ=⟨[(2,.loc 2 0 0),(14,.sl 1 (j.map Qi)),(15,.I (j.length:Int)),(16,.I st)],[(2,.var (Qd p))]⟩) (Sum.elim (fun q e σ=>e=.ret∧σ=⟨[(4,.b false)],[]⟩) (fun q e σ=>e=.exit 0∧σ=⟨[],[]⟩)) s rfl ?_ ?_
 ·rintro z o σ rfl h
  refine tg_ hC [.n 6] rfl ?_
  rcases Qt h with⟨l,h⟩|⟨l,h⟩
  ·obtain⟨A,B,h⟩:=Qb h
   obtain⟨D,t,h⟩:=Qb h
   obtain⟨E,u,h⟩:=Qb h
   refine Qa hC [.T,.n 7,.o (.row (Qi A)),.n 6,.K [2,5,6,14,15,16] [2]] rfl ⟨⟨tt_,l⟩,(QT B)⟩ ?_
   refine AK.draw2 Qs hC mixed [.N,.N,.N,.N,.N,.a (.row (Qp D)) none false,.N,.N,.a (.c false [.d,.d] (.I E)) none false,.N] [] [] [2,6,7,14,15,16] [2] rfl rfl rfl ⟨⟨tt_,(QT t)⟩,(Qit _ _ u)⟩ rfl (by kernel_rfl) rfl rfl rfl ?_
   refine tg_ hC [.n 2] rfl ?_
   obtain⟨m,v,h⟩:=Qb h
   replace h:QjS z m=some o:=h
   refine AK.meetX (fun σ=>σ=⟨[(2,.loc 2 0 0),(14,.sl 1 (j.map Qi)),(15,.I (j.length:Int)),(16,.I z),(48,.b m)],[(2,.var (Qd p))]⟩) ?_ ?_
   ·replace h:=v
    obtain⟨G,w,h⟩:=Qb h
    refine Qa hC [.n 2,.o (.c false [.d] (.b G)),.n 2] rfl ⟨tt_,(QfQ _ w)⟩ ?_
    refine bg_ h (fun f h=>Qa hC [.S 33 (.b true),.n 16,.K [2,14,15,16,48] [2]] rfl (tc_ f) ?_) fun f h=>Qa hC [.S 33 (.b false),.n 1,.o (.ln A.length),.n 2] rfl ⟨(tc_ f),Qf⟩ ?_
    ·cases h
     exact AK.met rfl
    rcases Qt h with⟨g,h⟩|⟨g,h⟩
    ·obtain⟨H,x,h⟩:=Qb h
     refine Qa hC [.S 37 (.b true),.n 2,.o (.ln A.length),.n 1,.o (.row (QI H)),.n 7,.K [2,14,15,16,48] [2]] rfl ⟨⟨(tc_ g),Qf⟩,(QT x)⟩ ?_
     cases h
     exact AK.met rfl
    refine Qa hC [.S 37 (.b false),.n 12,.K [2,14,15,16,48] [2]] rfl (tc_ g) ?_
    cases h
    exact AK.met rfl
   rintro σ rfl
   replace h:QjS z m=some o:=h
   refine tg_ hC [.n 1] rfl ?_
   refine bg_ h (fun i h=>Qa hC [.T,.n 8,.K [4] []] rfl ⟨tt_,i⟩ ?_) fun i h=>Qa hC [.F,.n 7,.K [2,14,15,16] [2]] rfl ⟨tt_,i⟩ ?_
   ·cases h
    exact Qav rfl (an_ rfl rfl)
   cases h
   exact Q6 rfl rfl
  refine Qa hC [.F,.n 2,.K [] []] rfl ⟨tt_,l⟩ ?_
  cases h
  exact Q8 rfl (an_ rfl rfl)
 rcases y with(_ | _)
 ·replace h:QqS=some r:=h
  rintro e σ ⟨rfl,rfl⟩
  refine tg_ hC [.n 2] rfl ?_
  cases h
  exact d1_ rfl rfl tt_
 replace h:QqT=some r:=h
 rintro e σ ⟨rfl,rfl⟩
 refine tg_ hC [.n 8] rfl ?_
 cases h
 exact d1_ rfl rfl tt_
def QmT (a:(Int×QeZ))(c:Qj)(d:QMk):Option Bool:=
 bif (a.1 != 0)then
 some true
 else
 (QmS c d).bind fun b=>
 some (!b)
def QjU (d:Qj)(a:Int)(b:Int):Option ((Int×Int)⊕Int):=
 bif (decide (b<(d.Tasks.length:Int)))then
 (idx d.Tasks b).bind fun c=>
 (Qde d b).bind fun e=>
 some (.inl ((w64 (a+(w64 (e*(w64 (1+(w64 ((c.Ins.length:Int)*(c.Outs.length:Int))))))))),(w64 (b+1))))
 else
 some (.inr a)
def QqU (a:Int):Option Bool:=
 some (decide (a≤600))
def QgZ (b:Qj)(a:Bool):Option Bool:=
 bif a then
 some false
 else
 (QJ (fun st=>QjU b st.1 st.2) (0,0)).bind (fun q=>QqU q)
def Qh2 (a:Qj)(d:QMk):Option Bool:=
 (QfO a).bind fun e=>
 (QnN d).bind fun f=>
 bif ((!e)||((!f)||(decide (12<(a.Tasks.length:Int)))))then
 some false
 else
 (QfP a).bind fun b=>
 (QmT b a d).bind (fun c=>QgZ a c)
theorem QwD (f L){r}(h:Qh2 f L=some r):Qc prog 51 [.agg (Qd f),.sl 1 (L.map Qi)] [] (Gives (.b r) []):=by
 refine Qc.walk 69 func51 rfl rfl rfl fun C hC=>?_
 obtain⟨y,M,h⟩:=Qb h
 obtain⟨z,P,h⟩:=Qb h
 refine Qa hC [.n 8,.v .no [] (.agg (Qd f)),.o (.c false [.d] (.b y)),.n 6,.o (.c false [.d] (.b z)),.n 5] rfl ⟨⟨⟨tt_,rfl⟩,(QrI _ M)⟩,(Qxu _ P)⟩ ?_
 refine AK.meetX (fun σ=>σ=⟨[(1,.sl 1 (L.map Qi)),(2,.loc 2 0 0),(27,.b ((!y)||((!z)||(decide (12<(f.Tasks.length:Int))))))],[(2,.var (Qd f))]⟩) ?_ ?_
 ·refine tg_ hC [.n 4] rfl ?_
  rcases Q7 (!y)with g | g
  ·refine Qa hC [.S 18 (.b true),.n 10,.S 27 (.b ((!y)||((!z)||(decide (12<(f.Tasks.length:Int)))))),.K [1,2,27] [2]] rfl ⟨(tc_ g),(congrArg V.b (orT g rfl))⟩ ?_
   exact AK.met rfl
  refine Qa hC [.S 18 (.b false),.n 4] rfl (tc_ g) ?_
  rcases Q7 (!z)with i | i
  ·refine Qa hC [.S 22 (.b true),.n 6,.S 27 (.b ((!y)||((!z)||(decide (12<(f.Tasks.length:Int)))))),.K [1,2,27] [2]] rfl ⟨(tc_ i),(congrArg V.b (orF g (orT i rfl)))⟩ ?_
   exact AK.met rfl
  refine Qa hC [.S 22 (.b false),.n 2,.o (.ln f.Tasks.length),.n 3,.S 27 (.b ((!y)||((!z)||(decide (12<(f.Tasks.length:Int)))))),.K [1,2,27] [2]] rfl ⟨⟨(tc_ i),Qf⟩,(congrArg V.b (orF g (orF i rfl)))⟩ ?_
  exact AK.met rfl
 rintro σ rfl
 refine tg_ hC [.n 1] rfl ?_
 rcases Qt h with⟨j,h⟩|⟨j,h⟩
 ·refine Qa hC [.T,.n 7] rfl ⟨tt_,j⟩ ?_
  cases h
  exact d1_ rfl rfl tt_
 obtain⟨w,A,h⟩:=Qb h
 refine Qa hC [.F,.n 4,.v .no [] (.agg (Qd f)),.o (.c false [.d] (.tup [.agg (Qdo w.2),.I w.1])),.n 5,.O 7 (.var (Qdo w.2)),.n 5] rfl ⟨⟨⟨⟨tt_,j⟩,rfl⟩,(Qxv _ A)⟩,rfl⟩ ?_
 obtain⟨x,B,h⟩:=Qb h
 replace h:QgZ f x=some r:=h
 refine AK.meetX (fun σ=>σ=⟨[(2,.loc 2 0 0),(40,.b x)],[(2,.var (Qd f))]⟩) ?_ ?_
 ·replace h:=B
  refine tg_ hC [.n 4] rfl ?_
  rcases Qt h with⟨k,h⟩|⟨k,h⟩
  ·refine Qa hC [.S 35 (.b true),.n 6,.K [2,40] [2]] rfl (tc_ k) ?_
   cases h
   exact AK.met rfl
  obtain⟨U,D,h⟩:=Qb h
  refine Qa hC [.S 35 (.b false),.v .no [] (.agg (Qd f)),.n 1,.o (.c false [.d,.d] (.b U)),.n 3,.K [2,40] [2]] rfl ⟨⟨(tc_ k),rfl⟩,(QwC _ _ D)⟩ ?_
  cases h
  exact AK.met rfl
 rintro σ rfl
 replace h:QgZ f x=some r:=h
 refine tg_ hC [.n 1] rfl ?_
 refine bg_ h (fun l h=>Qa hC [.T,.n 7,.K [4] []] rfl ⟨tt_,l⟩ ?_) fun l h=>Qa hC [.F,.n 14,.K [2,9,10] [2]] rfl ⟨tt_,l⟩ ?_
 ·cases h
  exact d1_ rfl rfl tt_
 obtain⟨u,E,h⟩:=Qb h
 refine AK.loop (body:=(fun st=>QjU f st.1 st.2)) (fun st σ=>σ=⟨[(2,.loc 2 0 0),(9,.I st.1),(10,.I st.2)],[(2,.var (Qd f))]⟩) (fun q e σ=>e=.exit 0∧σ=⟨[(9,.I q)],[]⟩) E rfl ?_ ?_
 ·rintro ⟨J,X⟩ o σ rfl h
  refine Qa hC [.n 6,.o (.ln f.Tasks.length),.n 3] rfl ⟨tt_,Qf⟩ ?_
  rcases Qt h with⟨p,h⟩|⟨p,h⟩
  ·obtain⟨t,G,h⟩:=Qb h
   obtain⟨W,H,h⟩:=Qb h
   refine Qa hC [.T,.n 9,.o (.row (Qh t)),.v .no [] (.agg (Qh t)),.n 2,.O 11 (.var (Qh t)),.n 2,.K [2,9,10,11] [2,11]] rfl ⟨⟨⟨⟨tt_,p⟩,(QT G)⟩,rfl⟩,rfl⟩ ?_
   refine AK.draw2 Qs hC mixed [.N,.a .no (some ([],.agg (Qd f))) false,.N,.a (.c false [.d,.d] (.I W)) none false,.N,.N,.a (.ln t.Ins.length) none false,.N,.N,.a (.ln t.Outs.length) none false,.N,.N,.N,.N,.m .s] [] [] [2,9,10] [2] rfl rfl rfl ⟨⟨⟨⟨tt_,rfl⟩,(QpT _ _ H)⟩,Qf⟩,Qf⟩ rfl (by kernel_rfl) rfl rfl rfl ?_
   refine tg_ hC [.n 7,.K [2,9,10] [2]] rfl ?_
   cases h
   exact Q6 rfl rfl
  refine Qa hC [.F,.n 2,.K [9] []] rfl ⟨tt_,p⟩ ?_
  cases h
  exact Q8 rfl (an_ rfl rfl)
 replace h:QqU u=some r:=h
 rintro e σ ⟨rfl,rfl⟩
 refine tg_ hC [.n 10] rfl ?_
 cases h
 exact d1_ rfl rfl tt_
def QqV (c:Bool)(a:Int)(d:Qj)(e:QMk):Option Bool:=
 bif c then
 bif (decide (a≤12))then
 bif (decide ((d.Tasks.length:Int)≤6))then
 (Qj5 e).bind fun b=>
 some (decide (b≤30))
 else
 some false
 else
 some false
 else
 some false
def QjV (a:Bool):Option Bool:=
 some a
def QmU (b:Qj)(c:QMk)(a:Int):Option Bool:=
 (Qh2 b c).bind fun d=>
 (QqV d a b c).bind (fun e=>QjV e)
theorem QwE (j q a){r}(h:QmU j q a=some r):Qc prog 25 [.agg (Qd j),.sl 1 (q.map Qi),.I a] [] (Gives (.b r) []):=by
 refine Qc.walk 27 func25 rfl rfl rfl fun C hC=>?_
 obtain⟨s,k,h⟩:=Qb h
 refine Qa hC [.n 8,.v .no [] (.agg (Qd j)),.n 1,.o (.c false [.d,.d] (.b s)),.n 4] rfl ⟨⟨tt_,rfl⟩,(QwD _ _ k)⟩ ?_
 obtain⟨l,m,h⟩:=Qb h
 replace h:QjV l=some r:=h
 refine AK.meetX (fun σ=>σ=⟨[(6,.b l)],[]⟩) ?_ ?_
 ·replace h:=m
  refine tg_ hC [.n 3] rfl ?_
  refine bg_ h (fun f h=>Qa hC [.S 12 (.b true),.n 4] rfl (tc_ f) ?_) fun f h=>Qa hC [.S 12 (.b false),.n 16,.K [6] []] rfl (tc_ f) ?_
  ·refine bg_ h (fun g h=>Qa hC [.S 16 (.b true),.n 2,.o (.ln j.Tasks.length),.n 3] rfl ⟨(tc_ g),Qf⟩ ?_) fun g h=>Qa hC [.S 16 (.b false),.n 12,.K [6] []] rfl (tc_ g) ?_
   ·rcases Qt h with⟨e,h⟩|⟨e,h⟩
    ·obtain⟨p,i,h⟩:=Qb h
     refine Qa hC [.S 22 (.b true),.n 1,.o (.c false [.d] (.I p)),.n 4,.K [6] []] rfl ⟨(tc_ e),(Qqu _ i)⟩ ?_
     cases h
     exact AK.met rfl
    refine Qa hC [.S 22 (.b false),.n 6,.K [6] []] rfl (tc_ e) ?_
    cases h
    exact AK.met rfl
   cases h
   exact AK.met rfl
  cases h
  exact AK.met rfl
 rintro σ rfl
 replace h:QjV l=some r:=h
 refine tg_ hC [.n 2] rfl ?_
 cases h
 exact d1_ rfl rfl tt_
def QmV (b:Qj)(a:Int):Option Bool:=
 (QfO b).bind fun e=>
 bif ((!e)||((decide (16<a))||((decide (6<(b.Tasks.length:Int)))||(decide (8<(b.Places.length:Int))))))then
 some false
 else
 (QeO b).bind fun c=>
 (QmU b c (min2 a 12)).bind fun d=>
 some d
theorem QwF (f e){r}(h:QmV f e=some r):Qc prog 8 [.agg (Qd f),.I e] [] (Gives (.b r) []):=by
 refine Qc.walk 32 func8 rfl rfl rfl fun C hC=>?_
 obtain⟨l,s,h⟩:=Qb h
 refine Qa hC [.n 8,.v .no [] (.agg (Qd f)),.o (.c false [.d] (.b l)),.n 5] rfl ⟨⟨tt_,rfl⟩,(QrI _ s)⟩ ?_
 refine AK.meetX (fun σ=>σ=⟨[(1,.I e),(2,.loc 2 0 0),(25,.b ((!l)||((decide (16<e))||((decide (6<(f.Tasks.length:Int)))||(decide (8<(f.Places.length:Int)))))))],[(2,.var (Qd f))]⟩) ?_ ?_
 ·refine tg_ hC [.n 4] rfl ?_
  rcases Q7 (!l)with g | g
  ·refine Qa hC [.S 10 (.b true),.n 16,.S 25 (.b ((!l)||((decide (16<e))||((decide (6<(f.Tasks.length:Int)))||(decide (8<(f.Places.length:Int))))))),.K [1,2,25] [2]] rfl ⟨(tc_ g),(congrArg V.b (orT g rfl))⟩ ?_
   exact AK.met rfl
  refine Qa hC [.S 10 (.b false),.n 4] rfl (tc_ g) ?_
  rcases Q7 (decide (16<e))with i | i
  ·refine Qa hC [.S 14 (.b true),.n 12,.S 25 (.b ((!l)||((decide (16<e))||((decide (6<(f.Tasks.length:Int)))||(decide (8<(f.Places.length:Int))))))),.K [1,2,25] [2]] rfl ⟨(tc_ i),(congrArg V.b (orF g (orT i rfl)))⟩ ?_
   exact AK.met rfl
  refine Qa hC [.S 14 (.b false),.n 2,.o (.ln f.Tasks.length),.n 3] rfl ⟨(tc_ i),Qf⟩ ?_
  rcases Q7 (decide (6<(f.Tasks.length:Int)))with j | j
  ·refine Qa hC [.S 20 (.b true),.n 6,.S 25 (.b ((!l)||((decide (16<e))||((decide (6<(f.Tasks.length:Int)))||(decide (8<(f.Places.length:Int))))))),.K [1,2,25] [2]] rfl ⟨(tc_ j),(congrArg V.b (orF g (orF i (orT j rfl))))⟩ ?_
   exact AK.met rfl
  refine Qa hC [.S 20 (.b false),.n 2,.o (.ln f.Places.length),.n 3,.S 25 (.b ((!l)||((decide (16<e))||((decide (6<(f.Tasks.length:Int)))||(decide (8<(f.Places.length:Int))))))),.K [1,2,25] [2]] rfl ⟨⟨(tc_ j),Qf⟩,(congrArg V.b (orF g (orF i (orF j rfl))))⟩ ?_
  exact AK.met rfl
 rintro σ rfl
 refine tg_ hC [.n 1] rfl ?_
 rcases Qt h with⟨k,h⟩|⟨k,h⟩
 ·refine Qa hC [.T,.n 7] rfl ⟨tt_,k⟩ ?_
  cases h
  exact d1_ rfl rfl tt_
 obtain⟨m,p,h⟩:=Qb h
 obtain⟨t,q,h⟩:=Qb h
 refine Qa hC [.F,.n 3,.K [1,2] [2]] rfl ⟨tt_,k⟩ ?_
 refine AK.draw2 Qs hC mixed [.a .no (some ([],.agg (Qd f))) false,.a .no (some ([],.agg (Qd f))) false,.a (.cd false [.d] 1 (m.map Qi) m.length) none false,.N,.N,.a (.c false [.d,.d,.d] (.b t)) none false,.N] [] [] [4] [] rfl rfl rfl ⟨⟨⟨⟨tt_,rfl⟩,rfl⟩,⟨(Qmx _ p),Qf⟩⟩,(QwE _ _ _ q)⟩ rfl (by kernel_rfl) rfl rfl rfl ?_
 refine tg_ hC [.n 2] rfl ?_
 cases h
 exact d1_ rfl rfl tt_
def Qfj (e:(List Qm))(f:Qj)(b:QMk)(a:Int):Option ((QMk×Int)⊕((QMk×Int)⊕QMk)):=
 bif (decide (a<(e.length:Int)))then
 (idx e a).bind fun d=>
 (Qas f b d).bind fun c=>
 bif (c.2 != 0)then
 some (.inr (.inl (b,a)))
 else
 some (.inl (c.1,(w64 (a+1))))
 else
 some (.inr (.inr b))
def Qs7 (a:QMk)(b:Int):Option (QMk×Int):=
 some (a,b)
def Qs8 (b:(List Qm))(a:QMk):Option (QMk×Int):=
 some (a,(b.length:Int))
def QoY (b:Qj)(c:QMk)(a:(List Qm)):Option (QMk×Int):=
 (Qg5 c).bind fun d=>
 (QJ (fun st=>Qfj a b st.1 st.2) (d,0)).bind (Sum.elim (fun q=>Qs7 q.1 q.2) (fun q=>Qs8 a q))
theorem Qyf (i y f){r}(h:QoY i y f=some r):Qc prog 20 [.agg (Qd i),.sl 1 (y.map Qi),.sl 4 (f.map Qk)] [] (Gives (.tup [.sl 1 (r.1.map Qi),.I r.2]) []):=by
 refine Qc.walk 37 func20 rfl rfl rfl fun C hC=>?_
 obtain⟨p,s,h⟩:=Qb h
 refine Qa hC [.n 10,.o (.co false [.d] 1 (p.map Qi) p.length),.n 7,.o (.ln f.length),.n 4,.frz 13 (p.map Qi) [1] [],.K [1,2,3,14,15,16] [3]] rfl ⟨⟨⟨tt_,⟨(QkC _ s),Qf,.inl rfl⟩⟩,Qf⟩,⟨tt_,(QbQ Qf)⟩⟩ ?_
 obtain⟨t,j,h⟩:=Qb h
 refine AK.loop (body:=(fun st=>Qfj f i st.1 st.2)) (fun st σ=>σ=⟨[(1,.sl 1 (st.1.map Qi)),(2,.sl 4 (f.map Qk)),(3,.loc 3 0 0),(14,.sl 4 (f.map Qk)),(15,.I (f.length:Int)),(16,.I st.2)],[(3,.var (Qd i))]⟩) (Sum.elim (fun q e σ=>e=.ret∧σ=⟨[(6,.sl 1 (q.1.map Qi)),(7,.I q.2)],[]⟩) (fun q e σ=>e=.exit 0∧σ=⟨[(1,.sl 1 (q.map Qi)),(2,.sl 4 (f.map Qk))],[]⟩)) j rfl ?_ ?_
 ·rintro ⟨z,A⟩ o σ rfl h
  refine tg_ hC [.n 6] rfl ?_
  rcases Qt h with⟨a,h⟩|⟨a,h⟩
  ·obtain⟨g,k,h⟩:=Qb h
   obtain⟨l,m,h⟩:=Qb h
   refine Qa hC [.T,.n 7,.o (.row (Qk g)),.v .no [] (.agg (Qk g)),.n 3,.O 9 (.var (Qk g)),.n 4,.v .no [] (.agg (Qd i)),.n 1,.v .no [] (.agg (Qk g)),.o (.c false [.d,.d,.d] (.tup [.sl 1 (l.1.map Qi),.I l.2])),.n 14] rfl ⟨⟨⟨⟨⟨⟨⟨tt_,a⟩,(QT k)⟩,rfl⟩,rfl⟩,rfl⟩,rfl⟩,(QpG _ _ _ m)⟩ ?_
   refine bg_ h (fun b h=>Qa hC [.T,.n 12,.K [6,7] []] rfl ⟨tt_,b⟩ ?_) fun b h=>Qa hC [.F,.n 12,.K [1,2,3,14,15,16] [3]] rfl ⟨tt_,b⟩ ?_
   ·cases h
    exact Qav rfl (an_ rfl rfl)
   cases h
   exact Q6 rfl rfl
  refine Qa hC [.F,.n 2,.K [1,2] []] rfl ⟨tt_,a⟩ ?_
  cases h
  exact Q8 rfl (an_ rfl rfl)
 rcases t with(⟨u,w⟩|x)
 ·replace h:Qs7 u w=some r:=h
  rintro e σ ⟨rfl,rfl⟩
  refine tg_ hC [.n 2] rfl ?_
  cases h
  exact d2_ rfl rfl rfl tt_
 replace h:Qs8 f x=some r:=h
 rintro e σ ⟨rfl,rfl⟩
 refine Qa hC [.n 6,.o (.ln f.length),.n 5] rfl ⟨tt_,Qf⟩ ?_
 cases h
 exact d2_ rfl rfl rfl tt_
def Qh3 (a:(QMk×Int))(b:(List Qm))(f:Q2)(c:Int):Option Bool:=
 bif (a.2 != (b.length:Int))then
 some true
 else
 (idx f.States c).bind fun d=>
 (Qi4 a.1 d).bind fun e=>
 bif (!e)then
 some true
 else
 some (decide ((f.States.length:Int)≤(b.length:Int)))
def Qh4 (a:Int)(b:Bool):Option (Int⊕(Unit⊕Unit)):=
 bif b then
 some (.inr (.inl ()))
 else
 some (.inl (w64 (a+1)))
def Qdr (c:Q2)(g:Qj)(a:Int):Option (Int⊕(Unit⊕Unit)):=
 bif (decide (a<(c.States.length:Int)))then
 (QhX c a).bind fun b=>
 (QeO g).bind fun d=>
 (QoY g d b).bind fun e=>
 (Qh3 e b c a).bind (fun f=>Qh4 a f)
 else
 some (.inr (.inr ()))
def Qmb : Option Bool:=
 some false
def Qmc (a:Bool):Option Bool:=
 some a
def QeS (c:Qj)(a:Int)(b:Int):Option Bool:=
 (Qod).bind fun d=>
 (QmV c a).bind fun e=>
 bif (!e)then
 some d
 else
 (QdU c a b).bind fun f=>
 (QJ (fun st=>Qdr f c st) 0).bind (Sum.elim (fun q=>Qmb) (fun q=>Qmc d))
theorem QrN (p f g){r}(h:QeS p f g=some r):Qc prog 6 [.agg (Qd p),.I f,.I g] [] (Gives (.b r) []):=by
 refine Qc.walk 66 func6 rfl rfl rfl fun C hC=>?_
 obtain⟨x,L,h⟩:=Qb h
 obtain⟨Y,M,h⟩:=Qb h
 refine Qa hC [.n 8,.o (.c false [] (.b x)),.n 5,.v .no [] (.agg (Qd p)),.n 1,.o (.c false [.d,.d] (.b Y)),.n 10] rfl ⟨⟨⟨tt_,(QvI  L)⟩,rfl⟩,(QwF _ _ M)⟩ ?_
 rcases Qt h with⟨t,h⟩|⟨t,h⟩
 ·refine Qa hC [.T,.n 8] rfl ⟨tt_,t⟩ ?_
  cases h
  exact d1_ rfl rfl tt_
 obtain⟨s,P,h⟩:=Qb h
 refine Qa hC [.F,.n 4,.v .no [] (.agg (Qd p)),.n 2,.o (.c false [.d,.d,.d] (.agg (QL s))),.n 2,.O 9 (.var (QL s)),.n 9,.K [3,7,9,10] [3,9]] rfl ⟨⟨⟨⟨tt_,t⟩,rfl⟩,(QgR _ _ _ P)⟩,rfl⟩ ?_
 obtain⟨U,y,h⟩:=Qb h
 refine AK.loop (body:=(fun st=>Qdr s p st)) (fun st σ=>σ=⟨[(3,.loc 3 0 0),(7,.b x),(9,.loc 9 0 0),(10,.I st)],[(3,.var (Qd p)),(9,.var (QL s))]⟩) (Sum.elim (fun q e σ=>e=.ret∧σ=⟨[(6,.b false)],[]⟩) (fun q e σ=>e=.exit 0∧σ=⟨[(7,.b x)],[]⟩)) y rfl ?_ ?_
 ·rintro u o σ rfl h
  refine Qa hC [.n 6,.o (.ln s.States.length),.n 3] rfl ⟨tt_,Qf⟩ ?_
  rcases Qt h with⟨i,h⟩|⟨i,h⟩
  ·obtain⟨j,z,h⟩:=Qb h
   obtain⟨A,B,h⟩:=Qb h
   obtain⟨D,E,h⟩:=Qb h
   refine Qa hC [.T,.n 6,.v .no [] (.agg (QL s)),.n 1,.o (.co false [.d,.d] 4 (j.map Qk) j.length),.n 4,.frz 34 (j.map Qk) [11,34] [],.K [3,7,9,10,11] [3,9]] rfl ⟨⟨⟨⟨tt_,i⟩,rfl⟩,⟨(QqH _ _ z),Qf,.inl rfl⟩⟩,⟨⟨tt_,(QbQ Qf)⟩,(QbQ Qf)⟩⟩ ?_
   refine AK.draw2 Qs hC mixed [.a .no (some ([],.agg (Qd p))) false,.a .no (some ([],.agg (Qd p))) false,.a (.cd false [.d] 1 (A.map Qi) A.length) none false,.N,.a (.c false [.d,.d,.d] (.tup [.sl 1 (D.1.map Qi),.I D.2])) none false,.N,.N,.N,.N,.N] [] [] [3,7,9,10,11,12,13] [3,9] rfl rfl rfl ⟨⟨⟨⟨tt_,rfl⟩,rfl⟩,⟨(Qmx _ B),Qf⟩⟩,(Qyf _ _ _ E)⟩ rfl (by kernel_rfl) rfl rfl rfl ?_
   refine tg_ hC [.n 2] rfl ?_
   obtain⟨w,G,h⟩:=Qb h
   replace h:Qh4 u w=some o:=h
   refine AK.meetX (fun σ=>σ=⟨[(3,.loc 3 0 0),(7,.b x),(9,.loc 9 0 0),(10,.I u),(64,.b w)],[(3,.var (Qd p)),(9,.var (QL s))]⟩) ?_ ?_
   ·replace h:=G
    refine Qa hC [.n 3,.o (.ln j.length),.n 2] rfl ⟨tt_,Qf⟩ ?_
    rcases Qt h with⟨k,h⟩|⟨k,h⟩
    ·refine Qa hC [.S 47 (.b true),.n 18,.K [3,7,9,10,64] [3,9]] rfl (tc_ k) ?_
     cases h
     exact AK.met rfl
    obtain⟨W,H,h⟩:=Qb h
    obtain⟨X,J,h⟩:=Qb h
    refine Qa hC [.S 47 (.b false),.n 4,.o (.row (Qu W)),.n 1,.o (.c false [.d,.d] (.b X)),.n 3] rfl ⟨⟨(tc_ k),(QT H)⟩,(QrA _ _ J)⟩ ?_
    refine bg_ h (fun l h=>Qa hC [.S 57 (.b true),.n 8,.K [3,7,9,10,64] [3,9]] rfl (tc_ l) ?_) fun l h=>Qa hC [.S 57 (.b false),.n 1,.o (.ln j.length),.n 2,.o (.ln s.States.length),.n 3,.K [3,7,9,10,64] [3,9]] rfl ⟨⟨(tc_ l),Qf⟩,Qf⟩ ?_
    ·cases h
     exact AK.met rfl
    cases h
    exact AK.met rfl
   rintro σ rfl
   replace h:Qh4 u w=some o:=h
   refine tg_ hC [.n 1] rfl ?_
   refine bg_ h (fun m h=>Qa hC [.T,.n 8,.K [6] []] rfl ⟨tt_,m⟩ ?_) fun m h=>Qa hC [.F,.n 8,.K [3,7,9,10] [3,9]] rfl ⟨tt_,m⟩ ?_
   ·cases h
    exact Qav rfl (an_ rfl rfl)
   cases h
   exact Q6 rfl rfl
  refine Qa hC [.F,.n 2,.K [7] []] rfl ⟨tt_,i⟩ ?_
  cases h
  exact Q8 rfl (an_ rfl rfl)
 rcases U with(_ | _)
 ·replace h:Qmb=some r:=h
  rintro e σ ⟨rfl,rfl⟩
  refine tg_ hC [.n 2] rfl ?_
  cases h
  exact d1_ rfl rfl tt_
 replace h:Qmc x=some r:=h
 rintro e σ ⟨rfl,rfl⟩
 refine tg_ hC [.n 9] rfl ?_
 cases h
 exact d1_ rfl rfl tt_

end Go.Proofs
