/- What functions of the program do, as functions over plain data, and the walks that show it: printed by a program. -/
import Derived.Test.YtidpjdkldadlpaaGreatDoorM2T2
set_option linter.unusedVariables false
set_option linter.unusedSimpArgs false
set_option linter.unusedSectionVars false
set_option linter.deprecated false
set_option maxRecDepth 100000
set_option maxHeartbeats 4000000
noncomputable section
namespace Go.Proofs
open Go Go.RowKit Go.Vm Go.Proofs.Tryz
def Qex (b:QD)(v:Int)(f:Qj)(u:Int)(w:Int)(g:Int)(x:Int)(h:Int)(y:Int)(i:Int)(j:Int)(k:Int)(l:Int)(m:Int)(n:Int):Option (Int×Int):=
 (QkN b).bind fun o=>
 bif (!o)then
 some (v,h)
 else
 (QkP f u b).bind fun p=>
 bif (!p)then
 some (w,h)
 else
 (QhW g b).bind fun q=>
 bif (!q)then
 some (x,h)
 else
 (QgV f b h).bind fun a=>
 bif (!a.1)then
 some (y,a.2)
 else
 (QhX f u).bind fun r=>
 bif (!r)then
 some (i,a.2)
 else
 (QkR b g).bind fun s=>
 bif (!s)then
 some (j,a.2)
 else
 (QgW f b g a.2).bind fun d=>
 bif (!d.1)then
 some (k,d.2)
 else
 (QgX f b g d.2).bind fun e=>
 bif (!e.1)then
 some (l,e.2)
 else
 (QgY f b e.2).bind fun c=>
 bif (!c.1)then
 some (m,c.2)
 else
 (QjM b).bind fun t=>
 bif (!t)then
 some (n,c.2)
 else
 some (0,c.2)
theorem Qtq (e v2 t D v5 B v7 v8 v9 u w x y z A){r}(h:Qex e v2 t D v5 B v7 v8 v9 u w x y z A=some r):Qc prog 122 [.own 617 10] [(617,.var [.clo (.func 183) [] [.loc 618 0 0],.I v2,.clo (.func 184) [] [.loc 619 0 0,.loc 620 0 0,.loc 621 0 0],.I v5,.clo (.func 186) [] [.loc 622 0 0,.loc 618 0 0],.I v7,.clo (.func 227) [] [.loc 623 0 0,.loc 624 0 0],.I v9,.clo (.func 190) [] [.loc 619 0 0,.loc 620 0 0],.I u,.clo (.func 191) [] [.loc 618 0 0,.loc 622 0 0],.I w,.clo (.func 227) [] [.loc 626 0 0,.loc 627 0 0],.I x,.clo (.func 227) [] [.loc 628 0 0,.loc 629 0 0],.I y,.clo (.func 227) [] [.loc 630 0 0,.loc 631 0 0],.I z,.clo (.func 198) [] [.loc 618 0 0],.I A]),(618,.var (Qh e)),(619,.var (Qd t)),(620,.var (Qe D)),(621,.var [.clo (.func 182) [] [.loc 618 0 0]]),(622,.var (Qe B)),(623,.var [.clo (.func 188) [] [.loc 619 0 0,.loc 618 0 0]]),(624,.var [.loc 625 0 0]),(625,.var (Qe v8)),(626,.var [.clo (.func 193) [] [.loc 619 0 0,.loc 618 0 0,.loc 622 0 0]]),(627,.var [.loc 625 0 0]),(628,.var [.clo (.func 195) [] [.loc 619 0 0,.loc 618 0 0,.loc 622 0 0]]),(629,.var [.loc 625 0 0]),(630,.var [.clo (.func 196) [] [.loc 619 0 0,.loc 618 0 0]]),(631,.var [.loc 625 0 0])] (Gives (.I r.1) [(617,.var [.clo (.func 183) [] [.loc 618 0 0],.I v2,.clo (.func 184) [] [.loc 619 0 0,.loc 620 0 0,.loc 621 0 0],.I v5,.clo (.func 186) [] [.loc 622 0 0,.loc 618 0 0],.I v7,.clo (.func 227) [] [.loc 623 0 0,.loc 624 0 0],.I v9,.clo (.func 190) [] [.loc 619 0 0,.loc 620 0 0],.I u,.clo (.func 191) [] [.loc 618 0 0,.loc 622 0 0],.I w,.clo (.func 227) [] [.loc 626 0 0,.loc 627 0 0],.I x,.clo (.func 227) [] [.loc 628 0 0,.loc 629 0 0],.I y,.clo (.func 227) [] [.loc 630 0 0,.loc 631 0 0],.I z,.clo (.func 198) [] [.loc 618 0 0],.I A]),(618,.var (Qh e)),(619,.var (Qd t)),(620,.var (Qe D)),(621,.var [.clo (.func 182) [] [.loc 618 0 0]]),(622,.var (Qe B)),(623,.var [.clo (.func 188) [] [.loc 619 0 0,.loc 618 0 0]]),(624,.var [.loc 625 0 0]),(625,.var (Qe r.2)),(626,.var [.clo (.func 193) [] [.loc 619 0 0,.loc 618 0 0,.loc 622 0 0]]),(627,.var [.loc 625 0 0]),(628,.var [.clo (.func 195) [] [.loc 619 0 0,.loc 618 0 0,.loc 622 0 0]]),(629,.var [.loc 625 0 0]),(630,.var [.clo (.func 196) [] [.loc 619 0 0,.loc 618 0 0]]),(631,.var [.loc 625 0 0])]):=by
 refine Qc.walk 18 func122 rfl rfl rfl fun C hC=>?_
 refine tg_ hC [.n 14] rfl ?_
 refine AK.loopN 11 (AK.rnd ?_)
 obtain⟨a0,E,h⟩:=Qb h
 refine Qa hC [.n 2,.v .no [] (.b true),.n 10,.o (.any (.loc 617 0 0) none),.n 3,.O 4 (.var [.clo (.func 183) [] [.loc 618 0 0],.I v2]),.n 6,.cm (.clo) [(617,618)] [(618,617)] [] [.d] [(617,.var (Qh e))] (.b a0),.n 3] rfl ⟨⟨⟨⟨tt_,rfl⟩,(fun σ a c _=>Stp.idxV rfl rfl (QO hC.n rfl) (a _ _ rfl) (a _ _ rfl) (Qp.es rfl) (c _ _ rfl) (by decide))⟩,rfl⟩,(QuZ _ E)⟩ ?_
 refine bg_ h (fun f h=>Qa hC [.T,.n 13,.K [2] [617,618,619,620,621,622,623,624,625,626,627,628,629,630,631]] rfl ⟨tt_,f⟩ ?_) fun f h=>Qa hC [.F,.n 4,.v .no [] (.I 1),.n 2] rfl ⟨⟨tt_,f⟩,rfl⟩ ?_
 ·cases h
  exact d1_ rfl rfl ⟨rfl,rfl,rfl,rfl,rfl,rfl,rfl,rfl,rfl,rfl,rfl,rfl,rfl,rfl,rfl,tt_⟩
 refine AK.met (AK.rnd ?_)
 obtain⟨a1,G,h⟩:=Qb h
 refine Qa hC [.n 2,.v .no [] (.b true),.n 10,.o (.any (.loc 617 0 2) none),.n 1,.kill 4,.n 2,.O 4 (.var [.clo (.func 184) [] [.loc 619 0 0,.loc 620 0 0,.loc 621 0 0],.I v5]),.n 6,.cm (.clo) [(617,619),(618,620),(619,621),(620,618)] [(619,617),(620,618),(621,619),(618,620)] [] [.d,.d,.d] [(617,.var (Qd t)),(618,.var (Qe D)),(619,.var [.clo (.func 182) [] [.loc 620 0 0]]),(620,.var (Qh e))] (.b a1),.n 3] rfl ⟨⟨⟨⟨tt_,rfl⟩,(fun σ a c _=>Stp.idxV rfl rfl (QO hC.n rfl) (a _ _ rfl) (a _ _ rfl) (Qp.es rfl) (c _ _ rfl) (by decide))⟩,rfl⟩,(Qu1 _ _ _ G)⟩ ?_
 refine bg_ h (fun g h=>Qa hC [.T,.n 13,.K [2] [617,618,619,620,621,622,623,624,625,626,627,628,629,630,631]] rfl ⟨tt_,g⟩ ?_) fun g h=>Qa hC [.F,.n 4,.v .no [] (.I 2),.n 2] rfl ⟨⟨tt_,g⟩,rfl⟩ ?_
 ·cases h
  exact d1_ rfl rfl ⟨rfl,rfl,rfl,rfl,rfl,rfl,rfl,rfl,rfl,rfl,rfl,rfl,rfl,rfl,rfl,tt_⟩
 refine AK.met (AK.rnd ?_)
 obtain⟨a2,H,h⟩:=Qb h
 refine Qa hC [.n 2,.v .no [] (.b true),.n 10,.o (.any (.loc 617 0 4) none),.n 1,.kill 4,.n 2,.O 4 (.var [.clo (.func 186) [] [.loc 622 0 0,.loc 618 0 0],.I v7]),.n 6,.cm (.clo) [(617,622),(618,618)] [(622,617),(618,618)] [] [.d,.d] [(617,.var (Qe B)),(618,.var (Qh e))] (.b a2),.n 3] rfl ⟨⟨⟨⟨tt_,rfl⟩,(fun σ a c _=>Stp.idxV rfl rfl (QO hC.n rfl) (a _ _ rfl) (a _ _ rfl) (Qp.es rfl) (c _ _ rfl) (by decide))⟩,rfl⟩,(Qu2 _ _ H)⟩ ?_
 refine bg_ h (fun i h=>Qa hC [.T,.n 13,.K [2] [617,618,619,620,621,622,623,624,625,626,627,628,629,630,631]] rfl ⟨tt_,i⟩ ?_) fun i h=>Qa hC [.F,.n 4,.v .no [] (.I 3),.n 2] rfl ⟨⟨tt_,i⟩,rfl⟩ ?_
 ·cases h
  exact d1_ rfl rfl ⟨rfl,rfl,rfl,rfl,rfl,rfl,rfl,rfl,rfl,rfl,rfl,rfl,rfl,rfl,rfl,tt_⟩
 refine AK.met (AK.rnd ?_)
 obtain⟨J,L,h⟩:=Qb h
 refine Qa hC [.n 2,.v .no [] (.b true),.n 10,.o (.any (.loc 617 0 6) none),.n 1,.kill 4,.n 2,.O 4 (.var [.clo (.func 227) [] [.loc 623 0 0,.loc 624 0 0],.I v9]),.n 6,.cm (.clo) [(617,623),(618,619),(619,618),(620,624),(621,625)] [(623,617),(619,618),(618,619),(624,620),(625,621)] [] [.d,.d] [(617,.var [.clo (.func 188) [] [.loc 618 0 0,.loc 619 0 0]]),(618,.var (Qd t)),(619,.var (Qh e)),(620,.var [.loc 621 0 0]),(621,.var (Qe J.2))] (.b J.1),.n 3] rfl ⟨⟨⟨⟨tt_,rfl⟩,(fun σ a c _=>Stp.idxV rfl rfl (QO hC.n rfl) (a _ _ rfl) (a _ _ rfl) (Qp.es rfl) (c _ _ rfl) (by decide))⟩,rfl⟩,(Qua _ _ _ L)⟩ ?_
 refine bg_ h (fun j h=>Qa hC [.T,.n 13,.K [2] [617,618,619,620,621,622,623,624,625,626,627,628,629,630,631]] rfl ⟨tt_,j⟩ ?_) fun j h=>Qa hC [.F,.n 4,.v .no [] (.I 4),.n 2] rfl ⟨⟨tt_,j⟩,rfl⟩ ?_
 ·cases h
  exact d1_ rfl rfl ⟨rfl,rfl,rfl,rfl,rfl,rfl,rfl,rfl,rfl,rfl,rfl,rfl,rfl,rfl,rfl,tt_⟩
 refine AK.met (AK.rnd ?_)
 obtain⟨a3,M,h⟩:=Qb h
 refine Qa hC [.n 2,.v .no [] (.b true),.n 10,.o (.any (.loc 617 0 8) none),.n 1,.kill 4,.n 2,.O 4 (.var [.clo (.func 190) [] [.loc 619 0 0,.loc 620 0 0],.I u]),.n 6,.cm (.clo) [(617,619),(618,620)] [(619,617),(620,618)] [] [.d,.d] [(617,.var (Qd t)),(618,.var (Qe D))] (.b a3),.n 3] rfl ⟨⟨⟨⟨tt_,rfl⟩,(fun σ a c _=>Stp.idxV rfl rfl (QO hC.n rfl) (a _ _ rfl) (a _ _ rfl) (Qp.es rfl) (c _ _ rfl) (by decide))⟩,rfl⟩,(Qu4 _ _ M)⟩ ?_
 refine bg_ h (fun k h=>Qa hC [.T,.n 13,.K [2] [617,618,619,620,621,622,623,624,625,626,627,628,629,630,631]] rfl ⟨tt_,k⟩ ?_) fun k h=>Qa hC [.F,.n 4,.v .no [] (.I 5),.n 2] rfl ⟨⟨tt_,k⟩,rfl⟩ ?_
 ·cases h
  exact d1_ rfl rfl ⟨rfl,rfl,rfl,rfl,rfl,rfl,rfl,rfl,rfl,rfl,rfl,rfl,rfl,rfl,rfl,tt_⟩
 refine AK.met (AK.rnd ?_)
 obtain⟨a4,N,h⟩:=Qb h
 refine Qa hC [.n 2,.v .no [] (.b true),.n 10,.o (.any (.loc 617 0 10) none),.n 1,.kill 4,.n 2,.O 4 (.var [.clo (.func 191) [] [.loc 618 0 0,.loc 622 0 0],.I w]),.n 6,.cm (.clo) [(617,618),(618,622)] [(618,617),(622,618)] [] [.d,.d] [(617,.var (Qh e)),(618,.var (Qe B))] (.b a4),.n 3] rfl ⟨⟨⟨⟨tt_,rfl⟩,(fun σ a c _=>Stp.idxV rfl rfl (QO hC.n rfl) (a _ _ rfl) (a _ _ rfl) (Qp.es rfl) (c _ _ rfl) (by decide))⟩,rfl⟩,(Qu5 _ _ N)⟩ ?_
 refine bg_ h (fun l h=>Qa hC [.T,.n 13,.K [2] [617,618,619,620,621,622,623,624,625,626,627,628,629,630,631]] rfl ⟨tt_,l⟩ ?_) fun l h=>Qa hC [.F,.n 4,.v .no [] (.I 6),.n 2] rfl ⟨⟨tt_,l⟩,rfl⟩ ?_
 ·cases h
  exact d1_ rfl rfl ⟨rfl,rfl,rfl,rfl,rfl,rfl,rfl,rfl,rfl,rfl,rfl,rfl,rfl,rfl,rfl,tt_⟩
 refine AK.met (AK.rnd ?_)
 obtain⟨P,S,h⟩:=Qb h
 refine Qa hC [.n 2,.v .no [] (.b true),.n 10,.o (.any (.loc 617 0 12) none),.n 1,.kill 4,.n 2,.O 4 (.var [.clo (.func 227) [] [.loc 626 0 0,.loc 627 0 0],.I x]),.n 6,.cm (.clo) [(617,626),(618,619),(619,618),(620,622),(621,627),(622,625)] [(626,617),(619,618),(618,619),(622,620),(627,621),(625,622)] [] [.d,.d] [(617,.var [.clo (.func 193) [] [.loc 618 0 0,.loc 619 0 0,.loc 620 0 0]]),(618,.var (Qd t)),(619,.var (Qh e)),(620,.var (Qe B)),(621,.var [.loc 622 0 0]),(622,.var (Qe P.2))] (.b P.1),.n 3] rfl ⟨⟨⟨⟨tt_,rfl⟩,(fun σ a c _=>Stp.idxV rfl rfl (QO hC.n rfl) (a _ _ rfl) (a _ _ rfl) (Qp.es rfl) (c _ _ rfl) (by decide))⟩,rfl⟩,(QrP _ _ _ _ S)⟩ ?_
 refine bg_ h (fun m h=>Qa hC [.T,.n 13,.K [2] [617,618,619,620,621,622,623,624,625,626,627,628,629,630,631]] rfl ⟨tt_,m⟩ ?_) fun m h=>Qa hC [.F,.n 4,.v .no [] (.I 7),.n 2] rfl ⟨⟨tt_,m⟩,rfl⟩ ?_
 ·cases h
  exact d1_ rfl rfl ⟨rfl,rfl,rfl,rfl,rfl,rfl,rfl,rfl,rfl,rfl,rfl,rfl,rfl,rfl,rfl,tt_⟩
 refine AK.met (AK.rnd ?_)
 obtain⟨U,W,h⟩:=Qb h
 refine Qa hC [.n 2,.v .no [] (.b true),.n 10,.o (.any (.loc 617 0 14) none),.n 1,.kill 4,.n 2,.O 4 (.var [.clo (.func 227) [] [.loc 628 0 0,.loc 629 0 0],.I y]),.n 6,.cm (.clo) [(617,628),(618,619),(619,618),(620,622),(621,629),(622,625)] [(628,617),(619,618),(618,619),(622,620),(629,621),(625,622)] [] [.d,.d] [(617,.var [.clo (.func 195) [] [.loc 618 0 0,.loc 619 0 0,.loc 620 0 0]]),(618,.var (Qd t)),(619,.var (Qh e)),(620,.var (Qe B)),(621,.var [.loc 622 0 0]),(622,.var (Qe U.2))] (.b U.1),.n 3] rfl ⟨⟨⟨⟨tt_,rfl⟩,(fun σ a c _=>Stp.idxV rfl rfl (QO hC.n rfl) (a _ _ rfl) (a _ _ rfl) (Qp.es rfl) (c _ _ rfl) (by decide))⟩,rfl⟩,(QrQ _ _ _ _ W)⟩ ?_
 refine bg_ h (fun p h=>Qa hC [.T,.n 13,.K [2] [617,618,619,620,621,622,623,624,625,626,627,628,629,630,631]] rfl ⟨tt_,p⟩ ?_) fun p h=>Qa hC [.F,.n 4,.v .no [] (.I 8),.n 2] rfl ⟨⟨tt_,p⟩,rfl⟩ ?_
 ·cases h
  exact d1_ rfl rfl ⟨rfl,rfl,rfl,rfl,rfl,rfl,rfl,rfl,rfl,rfl,rfl,rfl,rfl,rfl,rfl,tt_⟩
 refine AK.met (AK.rnd ?_)
 obtain⟨X,Y,h⟩:=Qb h
 refine Qa hC [.n 2,.v .no [] (.b true),.n 10,.o (.any (.loc 617 0 16) none),.n 1,.kill 4,.n 2,.O 4 (.var [.clo (.func 227) [] [.loc 630 0 0,.loc 631 0 0],.I z]),.n 6,.cm (.clo) [(617,630),(618,619),(619,618),(620,631),(621,625)] [(630,617),(619,618),(618,619),(631,620),(625,621)] [] [.d,.d] [(617,.var [.clo (.func 196) [] [.loc 618 0 0,.loc 619 0 0]]),(618,.var (Qd t)),(619,.var (Qh e)),(620,.var [.loc 621 0 0]),(621,.var (Qe X.2))] (.b X.1),.n 3] rfl ⟨⟨⟨⟨tt_,rfl⟩,(fun σ a c _=>Stp.idxV rfl rfl (QO hC.n rfl) (a _ _ rfl) (a _ _ rfl) (Qp.es rfl) (c _ _ rfl) (by decide))⟩,rfl⟩,(QrR _ _ _ Y)⟩ ?_
 refine bg_ h (fun q h=>Qa hC [.T,.n 13,.K [2] [617,618,619,620,621,622,623,624,625,626,627,628,629,630,631]] rfl ⟨tt_,q⟩ ?_) fun q h=>Qa hC [.F,.n 4,.v .no [] (.I 9),.n 2] rfl ⟨⟨tt_,q⟩,rfl⟩ ?_
 ·cases h
  exact d1_ rfl rfl ⟨rfl,rfl,rfl,rfl,rfl,rfl,rfl,rfl,rfl,rfl,rfl,rfl,rfl,rfl,rfl,tt_⟩
 refine AK.met (AK.rnd ?_)
 obtain⟨a5,Z,h⟩:=Qb h
 refine Qa hC [.n 2,.v .no [] (.b true),.n 10,.o (.any (.loc 617 0 18) none),.n 1,.kill 4,.n 2,.O 4 (.var [.clo (.func 198) [] [.loc 618 0 0],.I A]),.n 6,.cm (.clo) [(617,618)] [(618,617)] [] [.d] [(617,.var (Qh e))] (.b a5),.n 3] rfl ⟨⟨⟨⟨tt_,rfl⟩,(fun σ a c _=>Stp.idxV rfl rfl (QO hC.n rfl) (a _ _ rfl) (a _ _ rfl) (Qp.es rfl) (c _ _ rfl) (by decide))⟩,rfl⟩,(Qud _ Z)⟩ ?_
 refine bg_ h (fun s h=>Qa hC [.T,.n 13,.K [2] [617,618,619,620,621,622,623,624,625,626,627,628,629,630,631]] rfl ⟨tt_,s⟩ ?_) fun s h=>Qa hC [.F,.n 4,.v .no [] (.I 10),.n 2] rfl ⟨⟨tt_,s⟩,rfl⟩ ?_
 ·cases h
  exact d1_ rfl rfl ⟨rfl,rfl,rfl,rfl,rfl,rfl,rfl,rfl,rfl,rfl,rfl,rfl,rfl,rfl,rfl,tt_⟩
 refine AK.met (AK.rnd ?_)
 refine Qa hC [.n 2,.v .no [] (.b false),.n 15] rfl ⟨tt_,rfl⟩ ?_
 cases h
 exact d1_ rfl rfl ⟨rfl,rfl,rfl,rfl,rfl,rfl,rfl,rfl,rfl,rfl,rfl,rfl,rfl,rfl,rfl,tt_⟩
def Qb9 (a:Qj)(e:Int):Option Int:=
 (Qbv a.Tasks e).bind fun g=>
 bif (!g)then
 some 3
 else
 (QgU a).bind fun f=>
 bif (f.2 != 0)then
 some f.2
 else
 (idx a.Tasks e).bind fun d=>
 (idx a.Tasks e).bind fun b=>
 (QlI 0 a d).bind fun h=>
 (Qiu 0 a d (b.Vars.length:Int)).bind fun i=>
 (Qiv 0 a d (b.Vars.length:Int)).bind fun j=>
 (Qiw 0 a d).bind fun k=>
 (Qex d 1 a e 5 (b.Vars.length:Int) 2 0 (-1) 2 1 (-1) (-1) (-1) 11).bind fun c=>
 bif (c.1==(-1))then
 some c.2
 else
 some c.1
theorem QwC (g y){r}(h:Qb9 g y=some r):Qc prog 133 [.agg (Qd g),.I y] [] (Gives (.I r) []):=by
 refine Qc.walk 68 func133 rfl rfl rfl fun C hC=>?_
 obtain⟨E,z,h⟩:=Qb h
 refine Qa hC [.n 13,.o (.c false [.d,.d] (.b E)),.n 3] rfl ⟨tt_,(QjJ _ _ z)⟩ ?_
 rcases Qr h with⟨j,h⟩|⟨j,h⟩
 ·refine Qa hC [.T,.n 7] rfl ⟨tt_,j⟩ ?_
  cases h
  exact d1_ rfl rfl tt_
 obtain⟨D,A,h⟩:=Qb h
 refine Qa hC [.F,.n 5,.v .no [] (.agg (Qd g)),.o (.c false [.d] (.tup [.I D.1,.I D.2])),.n 13] rfl ⟨⟨⟨tt_,j⟩,rfl⟩,(QnX _ A)⟩ ?_
 rcases Qr h with⟨k,h⟩|⟨k,h⟩
 ·refine Qa hC [.T,.n 8] rfl ⟨tt_,k⟩ ?_
  cases h
  exact d1_ rfl rfl tt_
 obtain⟨i,B,h⟩:=Qb h
 obtain⟨e,l,h⟩:=Qb h
 refine Qa hC [.F,.n 3,.K [2,3] [2,3]] rfl ⟨tt_,k⟩ ?_
 refine AK.draw2 Qp hC mixed [.N,.N,.N,.a (.row (Qh i)) none false,.a .no (some ([],.agg (Qh i))) false,.a .no none true,.a .no none true,.a .no none true,.a (.row (Qh e)) none true,.a .no none true,.a .no none true,.a (.ln e.Vars.length) none true,.N,.N,.m .s,.m .s] [2,3] [2,3] [2,3,7,8] [2,3,7,8] rfl rfl rfl ⟨⟨⟨⟨tt_,(QP B)⟩,rfl⟩,(QP l)⟩,Qf⟩ rfl (by kernel_rfl) rfl rfl rfl ?_
 obtain⟨G,p,h⟩:=Qb h
 obtain⟨H,q,h⟩:=Qb h
 obtain⟨J,t,h⟩:=Qb h
 obtain⟨L,u,h⟩:=Qb h
 obtain⟨w,x,h⟩:=Qb h
 refine Qa hC [.O 7 (.var (Qh i)),.O 8 (.var (Qe (e.Vars.length:Int))),.n 6,.O 9 (.var [.clo (.func 182) [] [.loc 7 0 0]]),.n 10,.v .no [] (.agg [.clo (.func 183) [] [.loc 7 0 0],.I 1]),.n 1,.v .no [] (.agg [.clo (.func 184) [] [.loc 2 0 0,.loc 3 0 0,.loc 9 0 0],.I 5]),.n 1,.v .no [] (.agg [.clo (.func 186) [] [.loc 8 0 0,.loc 7 0 0],.I 2]),.n 1,.cm (.fn) [(617,10),(618,2),(619,7)] [(45,2),(610,3),(10,617),(2,618),(7,619)] [] [.d,.d] [(2,.var [.loc 617 0 0]),(3,.var [.clo (.func 188) [] [.loc 618 0 0,.loc 619 0 0]]),(617,.var (Qe 0)),(618,.var (Qd g)),(619,.var (Qh i))] (.clo (.func 227) [] [.loc 3 0 0,.loc 2 0 0]),.v .no [] (.agg [.clo (.func 227) [] [.loc 610 0 0,.loc 45 0 0],.I (-1)]),.n 1,.v .no [] (.agg [.clo (.func 190) [] [.loc 2 0 0,.loc 3 0 0],.I 2]),.n 1,.v .no [] (.agg [.clo (.func 191) [] [.loc 7 0 0,.loc 8 0 0],.I 1]),.n 1,.cm (.fn) [(617,10),(618,2),(619,7),(620,8)] [(52,2),(611,3),(10,617),(2,618),(7,619),(8,620)] [] [.d,.d] [(2,.var [.loc 617 0 0]),(3,.var [.clo (.func 193) [] [.loc 618 0 0,.loc 619 0 0,.loc 620 0 0]]),(617,.var (Qe 0)),(618,.var (Qd g)),(619,.var (Qh i)),(620,.var (Qe (e.Vars.length:Int)))] (.clo (.func 227) [] [.loc 3 0 0,.loc 2 0 0]),.v .no [] (.agg [.clo (.func 227) [] [.loc 611 0 0,.loc 52 0 0],.I (-1)]),.n 1,.cm (.fn) [(617,10),(618,2),(619,7),(620,8)] [(55,2),(612,3),(10,617),(2,618),(7,619),(8,620)] [] [.d,.d] [(2,.var [.loc 617 0 0]),(3,.var [.clo (.func 195) [] [.loc 618 0 0,.loc 619 0 0,.loc 620 0 0]]),(617,.var (Qe 0)),(618,.var (Qd g)),(619,.var (Qh i)),(620,.var (Qe (e.Vars.length:Int)))] (.clo (.func 227) [] [.loc 3 0 0,.loc 2 0 0]),.v .no [] (.agg [.clo (.func 227) [] [.loc 612 0 0,.loc 55 0 0],.I (-1)]),.n 1,.cm (.fn) [(617,10),(618,2),(619,7)] [(58,2),(613,3),(10,617),(2,618),(7,619)] [] [.d,.d] [(2,.var [.loc 617 0 0]),(3,.var [.clo (.func 196) [] [.loc 618 0 0,.loc 619 0 0]]),(617,.var (Qe 0)),(618,.var (Qd g)),(619,.var (Qh i))] (.clo (.func 227) [] [.loc 3 0 0,.loc 2 0 0]),.v .no [] (.agg [.clo (.func 227) [] [.loc 613 0 0,.loc 58 0 0],.I (-1)]),.n 1,.v .no [] (.agg [.clo (.func 198) [] [.loc 7 0 0],.I 11]),.o (.any (.own 62 10) (some (.var [.clo (.func 183) [] [.loc 7 0 0],.I 1,.clo (.func 184) [] [.loc 2 0 0,.loc 3 0 0,.loc 9 0 0],.I 5,.clo (.func 186) [] [.loc 8 0 0,.loc 7 0 0],.I 2,.clo (.func 227) [] [.loc 610 0 0,.loc 45 0 0],.I (-1),.clo (.func 190) [] [.loc 2 0 0,.loc 3 0 0],.I 2,.clo (.func 191) [] [.loc 7 0 0,.loc 8 0 0],.I 1,.clo (.func 227) [] [.loc 611 0 0,.loc 52 0 0],.I (-1),.clo (.func 227) [] [.loc 612 0 0,.loc 55 0 0],.I (-1),.clo (.func 227) [] [.loc 613 0 0,.loc 58 0 0],.I (-1),.clo (.func 198) [] [.loc 7 0 0],.I 11]))),.cm (.fn) [(617,62),(618,7),(619,2),(620,3),(621,9),(622,8),(623,610),(624,45),(625,10),(626,611),(627,52),(628,612),(629,55),(630,613),(631,58)] [(62,617),(7,618),(2,619),(3,620),(9,621),(8,622),(610,623),(45,624),(10,625),(611,626),(52,627),(612,628),(55,629),(613,630),(58,631)] [] [.d] [(617,.var [.clo (.func 183) [] [.loc 618 0 0],.I 1,.clo (.func 184) [] [.loc 619 0 0,.loc 620 0 0,.loc 621 0 0],.I 5,.clo (.func 186) [] [.loc 622 0 0,.loc 618 0 0],.I 2,.clo (.func 227) [] [.loc 623 0 0,.loc 624 0 0],.I (-1),.clo (.func 190) [] [.loc 619 0 0,.loc 620 0 0],.I 2,.clo (.func 191) [] [.loc 618 0 0,.loc 622 0 0],.I 1,.clo (.func 227) [] [.loc 626 0 0,.loc 627 0 0],.I (-1),.clo (.func 227) [] [.loc 628 0 0,.loc 629 0 0],.I (-1),.clo (.func 227) [] [.loc 630 0 0,.loc 631 0 0],.I (-1),.clo (.func 198) [] [.loc 618 0 0],.I 11]),(618,.var (Qh i)),(619,.var (Qd g)),(620,.var (Qe y)),(621,.var [.clo (.func 182) [] [.loc 618 0 0]]),(622,.var (Qe (e.Vars.length:Int))),(623,.var [.clo (.func 188) [] [.loc 619 0 0,.loc 618 0 0]]),(624,.var [.loc 625 0 0]),(625,.var (Qe w.2)),(626,.var [.clo (.func 193) [] [.loc 619 0 0,.loc 618 0 0,.loc 622 0 0]]),(627,.var [.loc 625 0 0]),(628,.var [.clo (.func 195) [] [.loc 619 0 0,.loc 618 0 0,.loc 622 0 0]]),(629,.var [.loc 625 0 0]),(630,.var [.clo (.func 196) [] [.loc 619 0 0,.loc 618 0 0]]),(631,.var [.loc 625 0 0])] (.I w.1),.n 10] rfl ⟨⟨⟨⟨⟨⟨⟨⟨⟨⟨⟨⟨⟨⟨⟨⟨⟨⟨⟨tt_,rfl⟩,rfl⟩,rfl⟩,rfl⟩,rfl⟩,rfl⟩,(QvT _ _ _ p)⟩,rfl⟩,rfl⟩,rfl⟩,(Qth _ _ _ _ q)⟩,rfl⟩,(Qti _ _ _ _ t)⟩,rfl⟩,(Qtj _ _ _ u)⟩,rfl⟩,rfl⟩,(fun σ M P hf=>Stp.buildAny rfl rfl (QO hC.n rfl) (Qp.es rfl) QnT rfl (by decide) (by decide) (QfY M rfl) rfl rfl (hf rfl))⟩,(Qtq _ _ _ _ _ _ _ _ _ _ _ _ _ _ _ x)⟩ ?_
 refine bg_ h (fun f h=>Qa hC [.T,.n 8,.K [4] []] rfl ⟨tt_,f⟩ ?_) fun f h=>Qa hC [.F,.n 9,.K [4] []] rfl ⟨tt_,f⟩ ?_
 ·cases h
  exact d1_ rfl rfl tt_
 cases h
 exact d1_ rfl rfl tt_
def QiT (a:Int)(d:QD)(b:Qj):Option Int:=
 (Qb9 b a).bind fun c=>
 some c
theorem QvV (e f a){r}(h:QiT e f a=some r):Qc prog 132 [.I e,.agg (Qh f),.loc 617 0 0] [(617,.var (Qd a))] (Gives (.I r) [(617,.var (Qd a))]):=by
 refine Qc.walk 9 func132 rfl rfl rfl fun C hC=>?_
 obtain⟨g,b,h⟩:=Qb h
 refine Qa hC [.n 8,.v .no [] (.agg (Qd a)),.n 1,.o (.c false [.d,.d] (.I g)),.n 4] rfl ⟨⟨tt_,rfl⟩,(QwC _ _ b)⟩ ?_
 cases h
 exact d1_ rfl rfl ⟨rfl,tt_⟩
def QbS (d:(List QD))(e:Qj)(a:Int):Option (Int⊕((Int×Int)⊕Unit)):=
 bif (decide (a<(d.length:Int)))then
 (idx d a).bind fun c=>
 (QiT a c e).bind fun b=>
 bif (b != 0)then
 some (.inr (.inl (a,b)))
 else
 some (.inl (w64 (a+1)))
 else
 some (.inr (.inr ()))
def QdP (b:Int)(a:Int):Option (Int×Int):=
 some (b,a)
def QdQ : Option (Int×Int):=
 some (0,0)
def Qcw (a:(List QD))(b:Qj):Option (Int×Int):=
 (QK (fun st=>QbS a b st) 0).bind (Sum.elim (fun q=>QdP q.1 q.2) (fun q=>QdQ))
theorem QpR (g f){r}(h:Qcw g f=some r):Qc prog 131 [.sl 14 (g.map Qh),.clo (.func 132) [] [.loc 617 0 0]] [(617,.var (Qd f))] (Gives (.tup [.I r.1,.I r.2]) [(617,.var (Qd f))]):=by
 refine Qc.walk 25 func131 rfl rfl rfl fun C hC=>?_
 refine Qa hC [.n 10,.o (.ln g.length),.n 4,.K [1,9,10,11] [617]] rfl ⟨tt_,Qf⟩ ?_
 obtain⟨l,i,h⟩:=Qb h
 refine AK.loop (body:=(fun st=>QbS g f st)) (fun st σ=>σ=⟨[(1,.clo (.func 132) [] [.loc 617 0 0]),(9,.sl 14 (g.map Qh)),(10,.I (g.length:Int)),(11,.I st)],[(617,.var (Qd f))]⟩) (Sum.elim (fun q e σ=>e=.ret∧σ=⟨[(4,.I q.1),(5,.I q.2)],[(617,.var (Qd f))]⟩) (fun q e σ=>e=.exit 0∧σ=⟨[],[(617,.var (Qd f))]⟩)) i rfl ?_ ?_
 ·rintro t o σ rfl h
  refine tg_ hC [.n 6] rfl ?_
  rcases Qr h with⟨a,h⟩|⟨a,h⟩
  ·obtain⟨c,j,h⟩:=Qb h
   obtain⟨m,k,h⟩:=Qb h
   refine Qa hC [.T,.n 7,.o (.row (Qh c)),.v .no [] (.agg (Qh c)),.n 3,.O 7 (.var (Qh c)),.n 6,.v .no [] (.agg (Qh c)),.cm (.clo) [(617,617)] [(617,617)] [] [.d,.d,.d] [(617,.var (Qd f))] (.I m),.n 9] rfl ⟨⟨⟨⟨⟨⟨tt_,a⟩,(QP j)⟩,rfl⟩,rfl⟩,rfl⟩,(QvV _ _ _ k)⟩ ?_
   refine bg_ h (fun b h=>Qa hC [.T,.n 11,.K [4,5] [617]] rfl ⟨tt_,b⟩ ?_) fun b h=>Qa hC [.F,.n 7,.K [1,9,10,11] [617]] rfl ⟨tt_,b⟩ ?_
   ·cases h
    exact Qar rfl (an_ rfl rfl)
   cases h
   exact Q4 rfl rfl
  refine Qa hC [.F,.n 2,.K [] [617]] rfl ⟨tt_,a⟩ ?_
  cases h
  exact Q6 rfl (an_ rfl rfl)
 rcases l with(⟨s,p⟩|_)
 ·replace h:QdP s p=some r:=h
  rintro e σ ⟨rfl,rfl⟩
  refine tg_ hC [.n 2] rfl ?_
  cases h
  exact d2_ rfl rfl rfl ⟨rfl,tt_⟩
 replace h:QdQ=some r:=h
 rintro e σ ⟨rfl,rfl⟩
 refine tg_ hC [.n 9] rfl ?_
 cases h
 exact d2_ rfl rfl rfl ⟨rfl,tt_⟩
def QfO (c:Qj):Option (Int×Qe0):=
 (QlF c 2 3 1).bind fun e=>
 bif (e != 0)then
 some (e,(Qe0.mk 1 0))
 else
 (QgU c).bind fun d=>
 bif (d.2 != 0)then
 some (d.2,(Qe0.mk 2 d.1))
 else
 (QeI c.Places c).bind fun a=>
 bif (a.2 != 0)then
 some (a.2,(Qe0.mk 3 a.1))
 else
 (Qcw c.Tasks c).bind fun b=>
 bif (b.2 != 0)then
 some (b.2,(Qe0.mk 4 b.1))
 else
 some (0,(Qe0.mk 0 0))
theorem Qxy (j){r}(h:QfO j=some r):Qc prog 77 [.agg (Qd j)] [] (Gives (.tup [.agg (Qdm r.2),.I r.1]) []):=by
 refine Qc.walk 58 func77 rfl rfl rfl fun C hC=>?_
 obtain⟨s,p,h⟩:=Qb h
 refine Qa hC [.n 10,.v .no [] (.agg [.clo (.func 123) [] [.loc 1 0 0],.I 2]),.n 1,.v .no [] (.agg [.clo (.func 124) [] [.loc 1 0 0],.I 3]),.n 1,.v .no [] (.agg [.clo (.func 126) [] [.loc 1 0 0],.I 1]),.o (.any (.own 17 3) (some (.var [.clo (.func 123) [] [.loc 1 0 0],.I 2,.clo (.func 124) [] [.loc 1 0 0],.I 3,.clo (.func 126) [] [.loc 1 0 0],.I 1]))),.cm (.fn) [(617,17),(618,1)] [(17,617),(1,618)] [] [.d] [(617,.var [.clo (.func 123) [] [.loc 618 0 0],.I 2,.clo (.func 124) [] [.loc 618 0 0],.I 3,.clo (.func 126) [] [.loc 618 0 0],.I 1]),(618,.var (Qd j))] (.I s),.n 10] rfl ⟨⟨⟨⟨⟨tt_,rfl⟩,rfl⟩,rfl⟩,(fun σ t u hf=>Stp.buildAny rfl rfl (QO hC.n rfl) (Qp.es rfl) QnT rfl (by decide) (by decide) (QfY t rfl) rfl rfl (hf rfl))⟩,(QvP _ _ _ _ p)⟩ ?_
 rcases Qr h with⟨g,h⟩|⟨g,h⟩
 ·refine Qa hC [.T,.n 2,.v .no [] (.agg (Qdm (Qe0.mk 1 0))),.n 2,.O 2 (.var (Qdm (Qe0.mk 1 0))),.n 5,.K [2,3] [2]] rfl ⟨⟨⟨tt_,g⟩,rfl⟩,rfl⟩ ?_
  cases h
  exact AK.done (ex_ [_,_] (an_ (an_ (ex_ _ (ex_ _ (an_ rfl (an_ rfl (Or.inl (an_ (Qp.ag rfl) (an_ (Qp.sz rfl) rfl))))))) (an_ rfl tt_)) (gives tt_)))
 obtain⟨m,q,h⟩:=Qb h
 refine Qa hC [.F,.n 5,.v .no [] (.agg (Qd j)),.o (.c false [.d] (.tup [.I m.1,.I m.2])),.n 13] rfl ⟨⟨⟨tt_,g⟩,rfl⟩,(QnX _ q)⟩ ?_
 rcases Qr h with⟨i,h⟩|⟨i,h⟩
 ·refine Qa hC [.T,.n 3,.v .no [] (.agg (Qdm (Qe0.mk 2 m.1))),.n 2,.O 2 (.var (Qdm (Qe0.mk 2 m.1))),.n 5,.K [2,3] [2]] rfl ⟨⟨⟨tt_,i⟩,rfl⟩,rfl⟩ ?_
  cases h
  exact AK.done (ex_ [_,_] (an_ (an_ (ex_ _ (ex_ _ (an_ rfl (an_ rfl (Or.inl (an_ (Qp.ag rfl) (an_ (Qp.sz rfl) rfl))))))) (an_ rfl tt_)) (gives tt_)))
 obtain⟨e,k,h⟩:=Qb h
 refine Qa hC [.F,.n 8,.cm (.fn) [(617,1)] [(1,617)] [] [.d,.d] [(617,.var (Qd j))] (.tup [.I e.1,.I e.2]),.n 13] rfl ⟨⟨tt_,i⟩,(QoV _ _ k)⟩ ?_
 rcases Qr h with⟨a,h⟩|⟨a,h⟩
 ·refine Qa hC [.T,.n 3,.v .no [] (.agg (Qdm (Qe0.mk 3 e.1))),.n 2,.O 2 (.var (Qdm (Qe0.mk 3 e.1))),.n 5,.K [2,3] [2]] rfl ⟨⟨⟨tt_,a⟩,rfl⟩,rfl⟩ ?_
  cases h
  exact AK.done (ex_ [_,_] (an_ (an_ (ex_ _ (ex_ _ (an_ rfl (an_ rfl (Or.inl (an_ (Qp.ag rfl) (an_ (Qp.sz rfl) rfl))))))) (an_ rfl tt_)) (gives tt_)))
 obtain⟨f,l,h⟩:=Qb h
 refine Qa hC [.F,.n 8,.cm (.fn) [(617,1)] [(1,617)] [] [.d,.d] [(617,.var (Qd j))] (.tup [.I f.1,.I f.2]),.n 13] rfl ⟨⟨tt_,a⟩,(QpR _ _ l)⟩ ?_
 refine bg_ h (fun b h=>Qa hC [.T,.n 3,.v .no [] (.agg (Qdm (Qe0.mk 4 f.1))),.n 2,.O 2 (.var (Qdm (Qe0.mk 4 f.1))),.n 5,.K [2,3] [2]] rfl ⟨⟨⟨tt_,b⟩,rfl⟩,rfl⟩ ?_) fun b h=>Qa hC [.F,.n 4,.v .no [] (.agg (Qdm (Qe0.mk 0 0))),.n 1,.O 2 (.var (Qdm (Qe0.mk 0 0))),.n 4,.K [2,3] [2]] rfl ⟨⟨⟨tt_,b⟩,rfl⟩,rfl⟩ ?_
 ·cases h
  exact AK.done (ex_ [_,_] (an_ (an_ (ex_ _ (ex_ _ (an_ rfl (an_ rfl (Or.inl (an_ (Qp.ag rfl) (an_ (Qp.sz rfl) rfl))))))) (an_ rfl tt_)) (gives tt_)))
 cases h
 exact AK.done (ex_ [_,_] (an_ (an_ (ex_ _ (ex_ _ (an_ rfl (an_ rfl (Or.inl (an_ (Qp.ag rfl) (an_ (Qp.sz rfl) rfl))))))) (an_ rfl tt_)) (gives tt_)))
def QqN (a:QBg)(b:Int):Option Bool:=
 (Qc3 a).bind fun c=>
 bif (!c)then
 some true
 else
 bif (decide (0<(a.length:Int)))then
 (idx a (w64 ((a.length:Int)-1))).bind fun d=>
 some (decide (b≤d.1))
 else
 some false
def QjN (b:Int)(a:Bool):Option (Int⊕(Unit⊕Unit)):=
 bif a then
 some (.inr (.inl ()))
 else
 some (.inl (w64 (b+1)))
def QjO (e:QMk)(f:Qj)(a:Int):Option (Int⊕(Unit⊕Unit)):=
 bif (decide (a<(e.length:Int)))then
 (idx e a).bind fun g=>
 (idx f.Places a).bind fun b=>
 (Qa6 f.Colours b.Colour).bind fun c=>
 (QqN g c).bind (fun d=>QjN a d)
 else
 some (.inr (.inr ()))
def QqO : Option Bool:=
 some false
def QqP : Option Bool:=
 some true
def QmL (a:Qj)(b:QMk):Option Bool:=
 bif ((b.length:Int) != (a.Places.length:Int))then
 some false
 else
 (QK (fun st=>QjO b a st) 0).bind (Sum.elim (fun q=>QqO) (fun q=>QqP))
theorem QwD (p j){r}(h:QmL p j=some r):Qc prog 78 [.agg (Qd p),.sl 1 (j.map Qi)] [] (Gives (.b r) []):=by
 refine Qc.walk 50 func78 rfl rfl rfl fun C hC=>?_
 refine Qa hC [.n 10,.o (.ln j.length),.n 2,.o (.ln p.Places.length),.n 3] rfl ⟨⟨tt_,Qf⟩,Qf⟩ ?_
 refine bg_ h (fun k h=>Qa hC [.T,.n 7,.K [4] []] rfl ⟨tt_,k⟩ ?_) fun k h=>Qa hC [.F,.n 6,.o (.ln j.length),.n 4,.K [2,14,15,16] [2]] rfl ⟨⟨tt_,k⟩,Qf⟩ ?_
 ·cases h
  exact d1_ rfl rfl tt_
 obtain⟨y,s,h⟩:=Qb h
 refine AK.loop (body:=(fun st=>QjO j p st)) (fun st σ=>σ=⟨[(2,.loc 2 0 0),(14,.sl 1 (j.map Qi)),(15,.I (j.length:Int)),(16,.I st)],[(2,.var (Qd p))]⟩) (Sum.elim (fun q e σ=>e=.ret∧σ=⟨[(4,.b false)],[]⟩) (fun q e σ=>e=.exit 0∧σ=⟨[],[]⟩)) s rfl ?_ ?_
 ·rintro z o σ rfl h
  refine tg_ hC [.n 6] rfl ?_
  rcases Qr h with⟨l,h⟩|⟨l,h⟩
  ·obtain⟨A,B,h⟩:=Qb h
   obtain⟨D,t,h⟩:=Qb h
   obtain⟨E,u,h⟩:=Qb h
   refine Qa hC [.T,.n 7,.o (.row (Qi A)),.n 6,.K [2,5,6,14,15,16] [2]] rfl ⟨⟨tt_,l⟩,(QP B)⟩ ?_
   refine AK.draw2 Qp hC mixed [.N,.N,.N,.N,.N,.a (.row (Qq D)) none false,.N,.N,.a (.c false [.d,.d] (.I E)) none false,.N] [] [] [2,6,7,14,15,16] [2] rfl rfl rfl ⟨⟨tt_,(QP t)⟩,(Qip _ _ u)⟩ rfl (by kernel_rfl) rfl rfl rfl ?_
   refine tg_ hC [.n 2] rfl ?_
   obtain⟨m,v,h⟩:=Qb h
   replace h:QjN z m=some o:=h
   refine AK.meetX (fun σ=>σ=⟨[(2,.loc 2 0 0),(14,.sl 1 (j.map Qi)),(15,.I (j.length:Int)),(16,.I z),(48,.b m)],[(2,.var (Qd p))]⟩) ?_ ?_
   ·replace h:=v
    obtain⟨G,w,h⟩:=Qb h
    refine Qa hC [.n 2,.o (.c false [.d] (.b G)),.n 2] rfl ⟨tt_,(QfP _ w)⟩ ?_
    refine bg_ h (fun f h=>Qa hC [.S 33 (.b true),.n 16,.K [2,14,15,16,48] [2]] rfl (tc_ f) ?_) fun f h=>Qa hC [.S 33 (.b false),.n 1,.o (.ln A.length),.n 2] rfl ⟨(tc_ f),Qf⟩ ?_
    ·cases h
     exact AK.met rfl
    rcases Qr h with⟨g,h⟩|⟨g,h⟩
    ·obtain⟨H,x,h⟩:=Qb h
     refine Qa hC [.S 37 (.b true),.n 2,.o (.ln A.length),.n 1,.o (.row (QF H)),.n 7,.K [2,14,15,16,48] [2]] rfl ⟨⟨(tc_ g),Qf⟩,(QP x)⟩ ?_
     cases h
     exact AK.met rfl
    refine Qa hC [.S 37 (.b false),.n 12,.K [2,14,15,16,48] [2]] rfl (tc_ g) ?_
    cases h
    exact AK.met rfl
   rintro σ rfl
   replace h:QjN z m=some o:=h
   refine tg_ hC [.n 1] rfl ?_
   refine bg_ h (fun i h=>Qa hC [.T,.n 8,.K [4] []] rfl ⟨tt_,i⟩ ?_) fun i h=>Qa hC [.F,.n 7,.K [2,14,15,16] [2]] rfl ⟨tt_,i⟩ ?_
   ·cases h
    exact Qar rfl (an_ rfl rfl)
   cases h
   exact Q4 rfl rfl
  refine Qa hC [.F,.n 2,.K [] []] rfl ⟨tt_,l⟩ ?_
  cases h
  exact Q6 rfl (an_ rfl rfl)
 rcases y with(_ | _)
 ·replace h:QqO=some r:=h
  rintro e σ ⟨rfl,rfl⟩
  refine tg_ hC [.n 2] rfl ?_
  cases h
  exact d1_ rfl rfl tt_
 replace h:QqP=some r:=h
 rintro e σ ⟨rfl,rfl⟩
 refine tg_ hC [.n 8] rfl ?_
 cases h
 exact d1_ rfl rfl tt_
def QmM (a:(Int×Qe0))(c:Qj)(d:QMk):Option Bool:=
 bif (a.1 != 0)then
 some true
 else
 (QmL c d).bind fun b=>
 some (!b)
def QjP (d:Qj)(a:Int)(b:Int):Option ((Int×Int)⊕Int):=
 bif (decide (b<(d.Tasks.length:Int)))then
 (idx d.Tasks b).bind fun c=>
 (Qde d b).bind fun e=>
 some (.inl ((w64 (a+(w64 (e*(w64 (1+(w64 ((c.Ins.length:Int)*(c.Outs.length:Int))))))))),(w64 (b+1))))
 else
 some (.inr a)
def QqQ (a:Int):Option Bool:=
 some (decide (a≤600))
def QgZ (b:Qj)(a:Bool):Option Bool:=
 bif a then
 some false
 else
 (QK (fun st=>QjP b st.1 st.2) (0,0)).bind (fun q=>QqQ q)
def QhY (a:Qj)(d:QMk):Option Bool:=
 (QfN a).bind fun e=>
 (QnK d).bind fun f=>
 bif ((!e)||((!f)||(decide (12<(a.Tasks.length:Int)))))then
 some false
 else
 (QfO a).bind fun b=>
 (QmM b a d).bind (fun c=>QgZ a c)
theorem QwE (f L){r}(h:QhY f L=some r):Qc prog 51 [.agg (Qd f),.sl 1 (L.map Qi)] [] (Gives (.b r) []):=by
 refine Qc.walk 69 func51 rfl rfl rfl fun C hC=>?_
 obtain⟨y,M,h⟩:=Qb h
 obtain⟨z,P,h⟩:=Qb h
 refine Qa hC [.n 8,.v .no [] (.agg (Qd f)),.o (.c false [.d] (.b y)),.n 6,.o (.c false [.d] (.b z)),.n 5] rfl ⟨⟨⟨tt_,rfl⟩,(QrN _ M)⟩,(Qxx _ P)⟩ ?_
 refine AK.meetX (fun σ=>σ=⟨[(1,.sl 1 (L.map Qi)),(2,.loc 2 0 0),(27,.b ((!y)||((!z)||(decide (12<(f.Tasks.length:Int))))))],[(2,.var (Qd f))]⟩) ?_ ?_
 ·refine tg_ hC [.n 4] rfl ?_
  rcases Q3 (!y)with g | g
  ·refine Qa hC [.S 18 (.b true),.n 10,.S 27 (.b ((!y)||((!z)||(decide (12<(f.Tasks.length:Int)))))),.K [1,2,27] [2]] rfl ⟨(tc_ g),(congrArg V.b (orT g rfl))⟩ ?_
   exact AK.met rfl
  refine Qa hC [.S 18 (.b false),.n 4] rfl (tc_ g) ?_
  rcases Q3 (!z)with i | i
  ·refine Qa hC [.S 22 (.b true),.n 6,.S 27 (.b ((!y)||((!z)||(decide (12<(f.Tasks.length:Int)))))),.K [1,2,27] [2]] rfl ⟨(tc_ i),(congrArg V.b (orF g (orT i rfl)))⟩ ?_
   exact AK.met rfl
  refine Qa hC [.S 22 (.b false),.n 2,.o (.ln f.Tasks.length),.n 3,.S 27 (.b ((!y)||((!z)||(decide (12<(f.Tasks.length:Int)))))),.K [1,2,27] [2]] rfl ⟨⟨(tc_ i),Qf⟩,(congrArg V.b (orF g (orF i rfl)))⟩ ?_
  exact AK.met rfl
 rintro σ rfl
 refine tg_ hC [.n 1] rfl ?_
 rcases Qr h with⟨j,h⟩|⟨j,h⟩
 ·refine Qa hC [.T,.n 7] rfl ⟨tt_,j⟩ ?_
  cases h
  exact d1_ rfl rfl tt_
 obtain⟨w,A,h⟩:=Qb h
 refine Qa hC [.F,.n 4,.v .no [] (.agg (Qd f)),.o (.c false [.d] (.tup [.agg (Qdm w.2),.I w.1])),.n 5,.O 7 (.var (Qdm w.2)),.n 5] rfl ⟨⟨⟨⟨tt_,j⟩,rfl⟩,(Qxy _ A)⟩,rfl⟩ ?_
 obtain⟨x,B,h⟩:=Qb h
 replace h:QgZ f x=some r:=h
 refine AK.meetX (fun σ=>σ=⟨[(2,.loc 2 0 0),(40,.b x)],[(2,.var (Qd f))]⟩) ?_ ?_
 ·replace h:=B
  refine tg_ hC [.n 4] rfl ?_
  rcases Qr h with⟨k,h⟩|⟨k,h⟩
  ·refine Qa hC [.S 35 (.b true),.n 6,.K [2,40] [2]] rfl (tc_ k) ?_
   cases h
   exact AK.met rfl
  obtain⟨U,D,h⟩:=Qb h
  refine Qa hC [.S 35 (.b false),.v .no [] (.agg (Qd f)),.n 1,.o (.c false [.d,.d] (.b U)),.n 3,.K [2,40] [2]] rfl ⟨⟨(tc_ k),rfl⟩,(QwD _ _ D)⟩ ?_
  cases h
  exact AK.met rfl
 rintro σ rfl
 replace h:QgZ f x=some r:=h
 refine tg_ hC [.n 1] rfl ?_
 refine bg_ h (fun l h=>Qa hC [.T,.n 7,.K [4] []] rfl ⟨tt_,l⟩ ?_) fun l h=>Qa hC [.F,.n 14,.K [2,9,10] [2]] rfl ⟨tt_,l⟩ ?_
 ·cases h
  exact d1_ rfl rfl tt_
 obtain⟨u,E,h⟩:=Qb h
 refine AK.loop (body:=(fun st=>QjP f st.1 st.2)) (fun st σ=>σ=⟨[(2,.loc 2 0 0),(9,.I st.1),(10,.I st.2)],[(2,.var (Qd f))]⟩) (fun q e σ=>e=.exit 0∧σ=⟨[(9,.I q)],[]⟩) E rfl ?_ ?_
 ·rintro ⟨J,X⟩ o σ rfl h
  refine Qa hC [.n 6,.o (.ln f.Tasks.length),.n 3] rfl ⟨tt_,Qf⟩ ?_
  rcases Qr h with⟨p,h⟩|⟨p,h⟩
  ·obtain⟨t,G,h⟩:=Qb h
   obtain⟨W,H,h⟩:=Qb h
   refine Qa hC [.T,.n 9,.o (.row (Qh t)),.v .no [] (.agg (Qh t)),.n 2,.O 11 (.var (Qh t)),.n 2,.K [2,9,10,11] [2,11]] rfl ⟨⟨⟨⟨tt_,p⟩,(QP G)⟩,rfl⟩,rfl⟩ ?_
   refine AK.draw2 Qp hC mixed [.N,.a .no (some ([],.agg (Qd f))) false,.N,.a (.c false [.d,.d] (.I W)) none false,.N,.N,.a (.ln t.Ins.length) none false,.N,.N,.a (.ln t.Outs.length) none false,.N,.N,.N,.N,.m .s] [] [] [2,9,10] [2] rfl rfl rfl ⟨⟨⟨⟨tt_,rfl⟩,(QpP _ _ H)⟩,Qf⟩,Qf⟩ rfl (by kernel_rfl) rfl rfl rfl ?_
   refine tg_ hC [.n 7,.K [2,9,10] [2]] rfl ?_
   cases h
   exact Q4 rfl rfl
  refine Qa hC [.F,.n 2,.K [9] []] rfl ⟨tt_,p⟩ ?_
  cases h
  exact Q6 rfl (an_ rfl rfl)
 replace h:QqQ u=some r:=h
 rintro e σ ⟨rfl,rfl⟩
 refine tg_ hC [.n 10] rfl ?_
 cases h
 exact d1_ rfl rfl tt_
def QqR (c:Bool)(a:Int)(d:Qj)(e:QMk):Option Bool:=
 bif c then
 bif (decide (a≤12))then
 bif (decide ((d.Tasks.length:Int)≤6))then
 (Qj1 e).bind fun b=>
 some (decide (b≤30))
 else
 some false
 else
 some false
 else
 some false
def QjQ (a:Bool):Option Bool:=
 some a
def QmN (b:Qj)(c:QMk)(a:Int):Option Bool:=
 (QhY b c).bind fun d=>
 (QqR d a b c).bind (fun e=>QjQ e)
theorem QwF (j q a){r}(h:QmN j q a=some r):Qc prog 25 [.agg (Qd j),.sl 1 (q.map Qi),.I a] [] (Gives (.b r) []):=by
 refine Qc.walk 27 func25 rfl rfl rfl fun C hC=>?_
 obtain⟨s,k,h⟩:=Qb h
 refine Qa hC [.n 8,.v .no [] (.agg (Qd j)),.n 1,.o (.c false [.d,.d] (.b s)),.n 4] rfl ⟨⟨tt_,rfl⟩,(QwE _ _ k)⟩ ?_
 obtain⟨l,m,h⟩:=Qb h
 replace h:QjQ l=some r:=h
 refine AK.meetX (fun σ=>σ=⟨[(6,.b l)],[]⟩) ?_ ?_
 ·replace h:=m
  refine tg_ hC [.n 3] rfl ?_
  refine bg_ h (fun f h=>Qa hC [.S 12 (.b true),.n 4] rfl (tc_ f) ?_) fun f h=>Qa hC [.S 12 (.b false),.n 16,.K [6] []] rfl (tc_ f) ?_
  ·refine bg_ h (fun g h=>Qa hC [.S 16 (.b true),.n 2,.o (.ln j.Tasks.length),.n 3] rfl ⟨(tc_ g),Qf⟩ ?_) fun g h=>Qa hC [.S 16 (.b false),.n 12,.K [6] []] rfl (tc_ g) ?_
   ·rcases Qr h with⟨e,h⟩|⟨e,h⟩
    ·obtain⟨p,i,h⟩:=Qb h
     refine Qa hC [.S 22 (.b true),.n 1,.o (.c false [.d] (.I p)),.n 4,.K [6] []] rfl ⟨(tc_ e),(Qqt _ i)⟩ ?_
     cases h
     exact AK.met rfl
    refine Qa hC [.S 22 (.b false),.n 6,.K [6] []] rfl (tc_ e) ?_
    cases h
    exact AK.met rfl
   cases h
   exact AK.met rfl
  cases h
  exact AK.met rfl
 rintro σ rfl
 replace h:QjQ l=some r:=h
 refine tg_ hC [.n 2] rfl ?_
 cases h
 exact d1_ rfl rfl tt_
def QmO (b:Qj)(a:Int):Option Bool:=
 (QfN b).bind fun e=>
 bif ((!e)||((decide (16<a))||((decide (6<(b.Tasks.length:Int)))||(decide (8<(b.Places.length:Int))))))then
 some false
 else
 (QeO b).bind fun c=>
 (QmN b c (min2 a 12)).bind fun d=>
 some d
theorem QwG (f e){r}(h:QmO f e=some r):Qc prog 8 [.agg (Qd f),.I e] [] (Gives (.b r) []):=by
 refine Qc.walk 32 func8 rfl rfl rfl fun C hC=>?_
 obtain⟨l,s,h⟩:=Qb h
 refine Qa hC [.n 8,.v .no [] (.agg (Qd f)),.o (.c false [.d] (.b l)),.n 5] rfl ⟨⟨tt_,rfl⟩,(QrN _ s)⟩ ?_
 refine AK.meetX (fun σ=>σ=⟨[(1,.I e),(2,.loc 2 0 0),(25,.b ((!l)||((decide (16<e))||((decide (6<(f.Tasks.length:Int)))||(decide (8<(f.Places.length:Int)))))))],[(2,.var (Qd f))]⟩) ?_ ?_
 ·refine tg_ hC [.n 4] rfl ?_
  rcases Q3 (!l)with g | g
  ·refine Qa hC [.S 10 (.b true),.n 16,.S 25 (.b ((!l)||((decide (16<e))||((decide (6<(f.Tasks.length:Int)))||(decide (8<(f.Places.length:Int))))))),.K [1,2,25] [2]] rfl ⟨(tc_ g),(congrArg V.b (orT g rfl))⟩ ?_
   exact AK.met rfl
  refine Qa hC [.S 10 (.b false),.n 4] rfl (tc_ g) ?_
  rcases Q3 (decide (16<e))with i | i
  ·refine Qa hC [.S 14 (.b true),.n 12,.S 25 (.b ((!l)||((decide (16<e))||((decide (6<(f.Tasks.length:Int)))||(decide (8<(f.Places.length:Int))))))),.K [1,2,25] [2]] rfl ⟨(tc_ i),(congrArg V.b (orF g (orT i rfl)))⟩ ?_
   exact AK.met rfl
  refine Qa hC [.S 14 (.b false),.n 2,.o (.ln f.Tasks.length),.n 3] rfl ⟨(tc_ i),Qf⟩ ?_
  rcases Q3 (decide (6<(f.Tasks.length:Int)))with j | j
  ·refine Qa hC [.S 20 (.b true),.n 6,.S 25 (.b ((!l)||((decide (16<e))||((decide (6<(f.Tasks.length:Int)))||(decide (8<(f.Places.length:Int))))))),.K [1,2,25] [2]] rfl ⟨(tc_ j),(congrArg V.b (orF g (orF i (orT j rfl))))⟩ ?_
   exact AK.met rfl
  refine Qa hC [.S 20 (.b false),.n 2,.o (.ln f.Places.length),.n 3,.S 25 (.b ((!l)||((decide (16<e))||((decide (6<(f.Tasks.length:Int)))||(decide (8<(f.Places.length:Int))))))),.K [1,2,25] [2]] rfl ⟨⟨(tc_ j),Qf⟩,(congrArg V.b (orF g (orF i (orF j rfl))))⟩ ?_
  exact AK.met rfl
 rintro σ rfl
 refine tg_ hC [.n 1] rfl ?_
 rcases Qr h with⟨k,h⟩|⟨k,h⟩
 ·refine Qa hC [.T,.n 7] rfl ⟨tt_,k⟩ ?_
  cases h
  exact d1_ rfl rfl tt_
 obtain⟨m,p,h⟩:=Qb h
 obtain⟨t,q,h⟩:=Qb h
 refine Qa hC [.F,.n 3,.K [1,2] [2]] rfl ⟨tt_,k⟩ ?_
 refine AK.draw2 Qp hC mixed [.a .no (some ([],.agg (Qd f))) false,.a .no (some ([],.agg (Qd f))) false,.a (.cd false [.d] 1 (m.map Qi) m.length) none false,.N,.N,.a (.c false [.d,.d,.d] (.b t)) none false,.N] [] [] [4] [] rfl rfl rfl ⟨⟨⟨⟨tt_,rfl⟩,rfl⟩,⟨(Qmm _ p),Qf⟩⟩,(QwF _ _ _ q)⟩ rfl (by kernel_rfl) rfl rfl rfl ?_
 refine tg_ hC [.n 2] rfl ?_
 cases h
 exact d1_ rfl rfl tt_
def Qg0 (c:QBg)(e:QBg)(b:Int):Option (Int⊕(Unit⊕Unit)):=
 bif (decide (b<(c.length:Int)))then
 (idx c b).bind fun d=>
 (idx e b).bind fun a=>
 bif (!((d.1==a.1)&&(d.2==a.2)))then
 some (.inr (.inl ()))
 else
 some (.inl (w64 (b+1)))
 else
 some (.inr (.inr ()))
def QqS : Option Bool:=
 some false
def QqT : Option Bool:=
 some true
def QmP (a:QBg)(b:QBg):Option Bool:=
 bif ((a.length:Int) != (b.length:Int))then
 some false
 else
 (QK (fun st=>Qg0 a b st) 0).bind (Sum.elim (fun q=>QqS) (fun q=>QqT))
theorem QwH (i j){r}(h:QmP i j=some r):Qc prog 52 [.sl 2 (i.map QF),.sl 2 (j.map QF)] [] (Gives (.b r) []):=by
 refine Qc.walk 26 func52 rfl rfl rfl fun C hC=>?_
 refine Qa hC [.n 9,.o (.ln i.length),.n 1,.o (.ln j.length),.n 3] rfl ⟨⟨tt_,Qf⟩,Qf⟩ ?_
 refine bg_ h (fun f h=>Qa hC [.T,.n 7,.K [4] []] rfl ⟨tt_,f⟩ ?_) fun f h=>Qa hC [.F,.n 9,.K [0,1,5] []] rfl ⟨tt_,f⟩ ?_
 ·cases h
  exact d1_ rfl rfl tt_
 obtain⟨p,k,h⟩:=Qb h
 refine AK.loop (body:=(fun st=>Qg0 i j st)) (fun st σ=>σ=⟨[(0,.sl 2 (i.map QF)),(1,.sl 2 (j.map QF)),(5,.I st)],[]⟩) (Sum.elim (fun q e σ=>e=.ret∧σ=⟨[(4,.b false)],[]⟩) (fun q e σ=>e=.exit 0∧σ=⟨[],[]⟩)) k rfl ?_ ?_
 ·rintro u o σ rfl h
  refine Qa hC [.n 5,.o (.ln i.length),.n 3] rfl ⟨tt_,Qf⟩ ?_
  rcases Qr h with⟨g,h⟩|⟨g,h⟩
  ·obtain⟨m,s,h⟩:=Qb h
   obtain⟨d,l,h⟩:=Qb h
   refine Qa hC [.T,.n 5,.K [0,1,5] []] rfl ⟨tt_,g⟩ ?_
   refine AK.draw2 Qp hC mixed [.N,.N,.a (.row (QF m)) none false,.a .no (some ([],.agg (QF m))) false,.N,.N,.a (.row (QF d)) none false,.a .no (some ([],.agg (QF d))) false,.a (.any (.b (!((m.1==d.1)&&(m.2==d.2)))) none) none false] [] [] [0,1,5,25] [] rfl rfl rfl ⟨⟨⟨⟨⟨tt_,(QP s)⟩,rfl⟩,(QP l)⟩,rfl⟩,(fun σ t v _=>Stp.neAgg rfl rfl (QO hC.n rfl) (t _ _ rfl) (t _ _ rfl) rfl rfl (QDh _ _ _ _))⟩ rfl (by kernel_rfl) rfl rfl rfl ?_
   refine tg_ hC [.n 1] rfl ?_
   refine bg_ h (fun c h=>Qa hC [.T,.n 8,.K [4] []] rfl ⟨tt_,c⟩ ?_) fun c h=>Qa hC [.F,.n 8,.K [0,1,5] []] rfl ⟨tt_,c⟩ ?_
   ·cases h
    exact Qar rfl (an_ rfl rfl)
   cases h
   exact Q4 rfl rfl
  refine Qa hC [.F,.n 2,.K [] []] rfl ⟨tt_,g⟩ ?_
  cases h
  exact Q6 rfl (an_ rfl rfl)
 rcases p with(_ | _)
 ·replace h:QqS=some r:=h
  rintro e σ ⟨rfl,rfl⟩
  refine tg_ hC [.n 2] rfl ?_
  cases h
  exact d1_ rfl rfl tt_
 replace h:QqT=some r:=h
 rintro e σ ⟨rfl,rfl⟩
 refine tg_ hC [.n 8] rfl ?_
 cases h
 exact d1_ rfl rfl tt_
def Qei (d:QMk)(e:QMk)(a:Int):Option (Int⊕(Unit⊕Unit)):=
 bif (decide (a<(d.length:Int)))then
 (idx d a).bind fun f=>
 (idx e a).bind fun b=>
 (QmP f b).bind fun c=>
 bif (!c)then
 some (.inr (.inl ()))
 else
 some (.inl (w64 (a+1)))
 else
 some (.inr (.inr ()))
def Qm7 : Option Bool:=
 some false
def Qm8 : Option Bool:=
 some true
def QiH (a:QMk)(b:QMk):Option Bool:=
 bif ((a.length:Int) != (b.length:Int))then
 some false
 else
 (QK (fun st=>Qei a b st) 0).bind (Sum.elim (fun q=>Qm7) (fun q=>Qm8))
theorem Qtr (j k){r}(h:QiH j k=some r):Qc prog 26 [.sl 1 (j.map Qi),.sl 1 (k.map Qi)] [] (Gives (.b r) []):=by
 refine Qc.walk 27 func26 rfl rfl rfl fun C hC=>?_
 refine Qa hC [.n 9,.o (.ln j.length),.n 1,.o (.ln k.length),.n 3] rfl ⟨⟨tt_,Qf⟩,Qf⟩ ?_
 refine bg_ h (fun g h=>Qa hC [.T,.n 7,.K [4] []] rfl ⟨tt_,g⟩ ?_) fun g h=>Qa hC [.F,.n 9,.K [0,1,5] []] rfl ⟨tt_,g⟩ ?_
 ·cases h
  exact d1_ rfl rfl tt_
 obtain⟨s,l,h⟩:=Qb h
 refine AK.loop (body:=(fun st=>Qei j k st)) (fun st σ=>σ=⟨[(0,.sl 1 (j.map Qi)),(1,.sl 1 (k.map Qi)),(5,.I st)],[]⟩) (Sum.elim (fun q e σ=>e=.ret∧σ=⟨[(4,.b false)],[]⟩) (fun q e σ=>e=.exit 0∧σ=⟨[],[]⟩)) l rfl ?_ ?_
 ·rintro x o σ rfl h
  refine Qa hC [.n 5,.o (.ln j.length),.n 3] rfl ⟨tt_,Qf⟩ ?_
  rcases Qr h with⟨i,h⟩|⟨i,h⟩
  ·obtain⟨w,t,h⟩:=Qb h
   obtain⟨u,m,h⟩:=Qb h
   obtain⟨v,p,h⟩:=Qb h
   refine Qa hC [.T,.n 5,.K [0,1,5] []] rfl ⟨tt_,i⟩ ?_
   refine AK.draw2 Qp hC mixed [.N,.N,.a (.row (Qi w)) none false,.N,.N,.N,.a (.row (Qi u)) none false,.N,.a (.c false [.d,.d] (.b v)) none false,.N] [] [] [0,1,5,26] [] rfl rfl rfl ⟨⟨⟨tt_,(QP t)⟩,(QP m)⟩,(QwH _ _ p)⟩ rfl (by kernel_rfl) rfl rfl rfl ?_
   refine tg_ hC [.n 1] rfl ?_
   refine bg_ h (fun f h=>Qa hC [.T,.n 8,.K [4] []] rfl ⟨tt_,f⟩ ?_) fun f h=>Qa hC [.F,.n 8,.K [0,1,5] []] rfl ⟨tt_,f⟩ ?_
   ·cases h
    exact Qar rfl (an_ rfl rfl)
   cases h
   exact Q4 rfl rfl
  refine Qa hC [.F,.n 2,.K [] []] rfl ⟨tt_,i⟩ ?_
  cases h
  exact Q6 rfl (an_ rfl rfl)
 rcases s with(_ | _)
 ·replace h:Qm7=some r:=h
  rintro e σ ⟨rfl,rfl⟩
  refine tg_ hC [.n 2] rfl ?_
  cases h
  exact d1_ rfl rfl tt_
 replace h:Qm8=some r:=h
 rintro e σ ⟨rfl,rfl⟩
 refine tg_ hC [.n 8] rfl ?_
 cases h
 exact d1_ rfl rfl tt_
def QqU (a:Ql)(b:Ql):Option Bool:=
 bif (a.Task==b.Task)then
 (QeS a.Vars b.Vars).bind fun d=>
 bif d then
 (QeS a.Ins b.Ins).bind fun e=>
 bif e then
 (QeS a.Outs b.Outs).bind fun c=>
 some c
 else
 some false
 else
 some false
 else
 some false
def QjR (a:Bool):Option Bool:=
 some a
def QmQ (a:Ql)(b:Ql):Option Bool:=
 (QqU a b).bind (fun c=>QjR c)
theorem QwI (p q){r}(h:QmQ p q=some r):Qc prog 27 [.agg (Qk p),.agg (Qk q)] [] (Gives (.b r) []):=by
 refine Qc.walk 31 func27 rfl rfl rfl fun C hC=>?_
 refine tg_ hC [.n 8] rfl ?_
 obtain⟨i,j,h⟩:=Qb h
 replace h:QjR i=some r:=h
 refine AK.meetX (fun σ=>σ=⟨[(4,.b i)],[]⟩) ?_ ?_
 ·replace h:=j
  refine tg_ hC [.n 7] rfl ?_
  rcases Qr h with⟨e,h⟩|⟨e,h⟩
  ·obtain⟨s,k,h⟩:=Qb h
   refine Qa hC [.S 10 (.b true),.n 4,.o (.c false [.d,.d] (.b s)),.n 2] rfl ⟨(tc_ e),(QgS _ _ k)⟩ ?_
   rcases Qr h with⟨f,h⟩|⟨f,h⟩
   ·obtain⟨t,l,h⟩:=Qb h
    refine Qa hC [.S 17 (.b true),.n 4,.o (.c false [.d,.d] (.b t)),.n 2] rfl ⟨(tc_ f),(QgS _ _ l)⟩ ?_
    rcases Qr h with⟨a,h⟩|⟨a,h⟩
    ·obtain⟨m,g,h⟩:=Qb h
     refine Qa hC [.S 24 (.b true),.n 4,.o (.c false [.d,.d] (.b m)),.n 3,.K [4] []] rfl ⟨(tc_ a),(QgS _ _ g)⟩ ?_
     cases h
     exact AK.met rfl
    refine Qa hC [.S 24 (.b false),.n 8,.K [4] []] rfl (tc_ a) ?_
    cases h
    exact AK.met rfl
   refine Qa hC [.S 17 (.b false),.n 15,.K [4] []] rfl (tc_ f) ?_
   cases h
   exact AK.met rfl
  refine Qa hC [.S 10 (.b false),.n 22,.K [4] []] rfl (tc_ e) ?_
  cases h
  exact AK.met rfl
 rintro σ rfl
 replace h:QjR i=some r:=h
 refine tg_ hC [.n 2] rfl ?_
 cases h
 exact d1_ rfl rfl tt_
def Qg1 (e:Q5)(f:Q5)(a:Int):Option (Int⊕(Unit⊕Unit)):=
 bif (decide (a<(e.States.length:Int)))then
 (idx e.States a).bind fun b=>
 (idx f.States a).bind fun c=>
 (QiH b c).bind fun d=>
 bif (!d)then
 some (.inr (.inl ()))
 else
 some (.inl (w64 (a+1)))
 else
 some (.inr (.inr ()))
def QqV : Option Bool:=
 some false
def QmR (b:Bool)(g:Q5)(a:Int)(h:Q5):Option Bool:=
 bif (!b)then
 some true
 else
 (idx g.Edges a).bind fun c=>
 (idx h.Edges a).bind fun d=>
 bif (c.From != d.From)then
 some true
 else
 (idx g.Edges a).bind fun e=>
 (idx h.Edges a).bind fun f=>
 some (e.To != f.To)
def QmS (a:Int)(b:Bool):Option (Int⊕(Unit⊕Unit)):=
 bif b then
 some (.inr (.inl ()))
 else
 some (.inl (w64 (a+1)))
def Qg2 (b:Q5)(g:Q5)(a:Int):Option (Int⊕(Unit⊕Unit)):=
 bif (decide (a<(b.Edges.length:Int)))then
 (idx b.Edges a).bind fun c=>
 (idx g.Edges a).bind fun d=>
 (QmQ c.Mode d.Mode).bind fun e=>
 (QmR e b a g).bind (fun f=>QmS a f)
 else
 some (.inr (.inr ()))
def QqW : Option Bool:=
 some false
def QqX : Option Bool:=
 some true
def QjS (a:Q5)(b:Q5):Option Bool:=
 (QK (fun st=>Qg2 a b st) 0).bind (Sum.elim (fun q=>QqW) (fun q=>QqX))
def Qkd (a:Q5)(b:Q5):Option Bool:=
 bif (((a.States.length:Int) != (b.States.length:Int))||(((a.Edges.length:Int) != (b.Edges.length:Int))||(a.Full != b.Full)))then
 some false
 else
 (QK (fun st=>Qg1 a b st) 0).bind (Sum.elim (fun q=>QqV) (fun q=>QjS a b))
theorem QwJ (f g){r}(h:Qkd f g=some r):Qc prog 9 [.agg (QB f),.agg (QB g)] [] (Gives (.b r) []):=by
 refine Qc.walk 104 func9 rfl rfl rfl fun C hC=>?_
 unfold Qkd at h
 refine tg_ hC [.n 9] rfl ?_
 refine AK.meetX (fun σ=>σ=⟨[(2,.loc 2 0 0),(3,.loc 3 0 0),(31,.b (((f.States.length:Int) != (g.States.length:Int))||(((f.Edges.length:Int) != (g.Edges.length:Int))||(f.Full != g.Full))))],[(2,.var (QB f)),(3,.var (QB g))]⟩) ?_ ?_
 ·refine Qa hC [.n 3,.o (.ln f.States.length),.n 2,.o (.ln g.States.length),.n 2] rfl ⟨⟨tt_,Qf⟩,Qf⟩ ?_
  rcases Q3 ((f.States.length:Int) != (g.States.length:Int))with j | j
  ·refine Qa hC [.S 16 (.b true),.n 16,.S 31 (.b (((f.States.length:Int) != (g.States.length:Int))||(((f.Edges.length:Int) != (g.Edges.length:Int))||(f.Full != g.Full)))),.K [2,3,31] [2,3]] rfl ⟨(tc_ j),(congrArg V.b (orT j rfl))⟩ ?_
   exact AK.met rfl
  refine Qa hC [.S 16 (.b false),.n 2,.o (.ln f.Edges.length),.n 2,.o (.ln g.Edges.length),.n 3] rfl ⟨⟨(tc_ j),Qf⟩,Qf⟩ ?_
  rcases Q3 ((f.Edges.length:Int) != (g.Edges.length:Int))with k | k
  ·refine Qa hC [.S 25 (.b true),.n 7,.S 31 (.b (((f.States.length:Int) != (g.States.length:Int))||(((f.Edges.length:Int) != (g.Edges.length:Int))||(f.Full != g.Full)))),.K [2,3,31] [2,3]] rfl ⟨(tc_ k),(congrArg V.b (orF j (orT k rfl)))⟩ ?_
   exact AK.met rfl
  refine Qa hC [.S 25 (.b false),.n 7,.S 31 (.b (((f.States.length:Int) != (g.States.length:Int))||(((f.Edges.length:Int) != (g.Edges.length:Int))||(f.Full != g.Full)))),.K [2,3,31] [2,3]] rfl ⟨(tc_ k),(congrArg V.b (orF j (orF k rfl)))⟩ ?_
  exact AK.met rfl
 rintro σ rfl
 refine tg_ hC [.n 1] rfl ?_
 refine bg_ h (fun w h=>Qa hC [.T,.n 7,.K [4] []] rfl ⟨tt_,w⟩ ?_) fun w h=>Qa hC [.F,.n 9,.K [2,3,5] [2,3]] rfl ⟨tt_,w⟩ ?_
 ·cases h
  exact d1_ rfl rfl tt_
 obtain⟨Y,z,h⟩:=Qb h
 refine AK.loop (body:=(fun st=>Qg1 f g st)) (fun st σ=>σ=⟨[(2,.loc 2 0 0),(3,.loc 3 0 0),(5,.I st)],[(2,.var (QB f)),(3,.var (QB g))]⟩) (Sum.elim (fun q e σ=>e=.ret∧σ=⟨[(4,.b false)],[]⟩) (fun q e σ=>e=.exit 0∧σ=⟨[(2,.loc 2 0 0),(3,.loc 3 0 0)],[(2,.var (QB f)),(3,.var (QB g))]⟩)) z rfl ?_ ?_
 ·rintro i9 o σ rfl h
  refine Qa hC [.n 6,.o (.ln f.States.length),.n 3] rfl ⟨tt_,Qf⟩ ?_
  rcases Qr h with⟨l,h⟩|⟨l,h⟩
  ·obtain⟨Z,A,h⟩:=Qb h
   obtain⟨a0,B,h⟩:=Qb h
   obtain⟨a2,D,h⟩:=Qb h
   refine Qa hC [.T,.n 5,.K [2,3,5] [2,3]] rfl ⟨tt_,l⟩ ?_
   refine AK.draw2 Qp hC mixed [.N,.N,.N,.a (.row (Qt Z)) none false,.N,.N,.N,.N,.a (.row (Qt a0)) none false,.N,.a (.c false [.d,.d] (.b a2)) none false,.N] [] [] [2,3,5,6] [2,3] rfl rfl rfl ⟨⟨⟨tt_,(QP A)⟩,(QP B)⟩,(Qtr _ _ D)⟩ rfl (by kernel_rfl) rfl rfl rfl ?_
   refine tg_ hC [.n 7] rfl ?_
   refine bg_ h (fun m h=>Qa hC [.T,.n 8,.K [4] []] rfl ⟨tt_,m⟩ ?_) fun m h=>Qa hC [.F,.n 8,.K [2,3,5] [2,3]] rfl ⟨tt_,m⟩ ?_
   ·cases h
    exact Qar rfl (an_ rfl rfl)
   cases h
   exact Q4 rfl rfl
  refine Qa hC [.F,.n 2,.K [2,3] [2,3]] rfl ⟨tt_,l⟩ ?_
  cases h
  exact Q6 rfl (an_ rfl rfl)
 rcases Y with(_ | _)
 ·replace h:QqV=some r:=h
  rintro e σ ⟨rfl,rfl⟩
  refine tg_ hC [.n 2] rfl ?_
  cases h
  exact d1_ rfl rfl tt_
 replace h:QjS f g=some r:=h
 rintro e σ ⟨rfl,rfl⟩
 refine tg_ hC [.n 9,.K [2,3,7] [2,3]] rfl ?_
 obtain⟨a3,E,h⟩:=Qb h
 refine AK.loop (body:=(fun st=>Qg2 f g st)) (fun st σ=>σ=⟨[(2,.loc 2 0 0),(3,.loc 3 0 0),(7,.I st)],[(2,.var (QB f)),(3,.var (QB g))]⟩) (Sum.elim (fun q e σ=>e=.ret∧σ=⟨[(4,.b false)],[]⟩) (fun q e σ=>e=.exit 2∧σ=⟨[],[]⟩)) E rfl ?_ ?_
 ·rintro x o σ rfl h
  refine Qa hC [.n 6,.o (.ln f.Edges.length),.n 3] rfl ⟨tt_,Qf⟩ ?_
  rcases Qr h with⟨p,h⟩|⟨p,h⟩
  ·obtain⟨G,H,h⟩:=Qb h
   obtain⟨J,L,h⟩:=Qb h
   obtain⟨a4,M,h⟩:=Qb h
   refine Qa hC [.T,.n 5,.K [2,3,7] [2,3]] rfl ⟨tt_,p⟩ ?_
   refine AK.draw2 Qp hC mixed [.N,.N,.N,.a (.row (QS G)) none false,.N,.a .no (some ([],.agg (Qk G.Mode))) false,.N,.N,.N,.a (.row (QS J)) none false,.N,.a .no (some ([],.agg (Qk J.Mode))) false,.a (.c false [.d,.d] (.b a4)) none false,.N] [] [] [2,3,7,8] [2,3] rfl rfl rfl ⟨⟨⟨⟨⟨tt_,(QP H)⟩,rfl⟩,(QP L)⟩,rfl⟩,(QwI _ _ M)⟩ rfl (by kernel_rfl) rfl rfl rfl ?_
   refine tg_ hC [.n 2] rfl ?_
   obtain⟨y,O,h⟩:=Qb h
   replace h:QmS x y=some o:=h
   refine AK.meetX (fun σ=>σ=⟨[(2,.loc 2 0 0),(3,.loc 3 0 0),(7,.I x),(103,.b y)],[(2,.var (QB f)),(3,.var (QB g))]⟩) ?_ ?_
   ·replace h:=O
    refine tg_ hC [.K [2,3,7,8] [2,3]] rfl ?_
    rcases Qr h with⟨i,h⟩|⟨i,h⟩
    ·refine AK.draw2 Qp hC mixed [.N,.N,.a .no (some ([],.b true)) false,.N,.N,.N,.N,.N,.N,.N,.N,.N,.N,.N,.N,.N,.N,.N,.N,.N,.N,.N,.N,.N,.N,.N,.N,.N,.N,.N,.N,.N] [] [] [2,3,7,103] [2,3] rfl rfl rfl (tc_ i) rfl (by kernel_rfl) rfl rfl rfl ?_
     refine tg_ hC [.K [2,3,7,103] [2,3]] rfl ?_
     cases h
     exact AK.met rfl
    obtain⟨P,u,h⟩:=Qb h
    obtain⟨U,v,h⟩:=Qb h
    rcases Qr h with⟨s,h⟩|⟨s,h⟩
    ·refine AK.draw2 Qp hC mixed [.N,.N,.a .no (some ([],.b false)) false,.N,.N,.N,.a (.row (QS P)) none false,.N,.N,.N,.N,.N,.a (.row (QS U)) none false,.N,.N,.N,.N,.a .no (some ([],.b true)) false,.N,.N,.N,.N,.N,.N,.N,.N,.N,.N,.N,.N,.N,.N] [] [] [2,3,7,103] [2,3] rfl rfl rfl ⟨⟨⟨(tc_ i),(QP u)⟩,(QP v)⟩,(cb_ s)⟩ rfl (by kernel_rfl) rfl rfl rfl ?_
     refine tg_ hC [.K [2,3,7,103] [2,3]] rfl ?_
     cases h
     exact AK.met rfl
    obtain⟨a5,W,h⟩:=Qb h
    obtain⟨a6,X,h⟩:=Qb h
    refine AK.draw2 Qp hC mixed [.N,.N,.a .no (some ([],.b false)) false,.N,.N,.N,.a (.row (QS P)) none false,.N,.N,.N,.N,.N,.a (.row (QS U)) none false,.N,.N,.N,.N,.a .no (some ([],.b false)) false,.N,.N,.N,.a (.row (QS a5)) none false,.N,.N,.N,.N,.N,.a (.row (QS a6)) none false,.N,.N,.N,.N] [] [] [2,3,7,103] [2,3] rfl rfl rfl ⟨⟨⟨⟨⟨(tc_ i),(QP u)⟩,(QP v)⟩,(cb_ s)⟩,(QP W)⟩,(QP X)⟩ rfl (by kernel_rfl) rfl rfl rfl ?_
    refine tg_ hC [.K [2,3,7,103] [2,3]] rfl ?_
    cases h
    exact AK.met rfl
   rintro σ rfl
   replace h:QmS x y=some o:=h
   refine tg_ hC [.n 1] rfl ?_
   refine bg_ h (fun t h=>Qa hC [.T,.n 8,.K [4] []] rfl ⟨tt_,t⟩ ?_) fun t h=>Qa hC [.F,.n 8,.K [2,3,7] [2,3]] rfl ⟨tt_,t⟩ ?_
   ·cases h
    exact Qar rfl (an_ rfl rfl)
   cases h
   exact Q4 rfl rfl
  refine Qa hC [.F,.n 2,.K [] []] rfl ⟨tt_,p⟩ ?_
  cases h
  exact Q6 rfl (an_ rfl rfl)
 rcases a3 with(_ | _)
 ·replace h:QqW=some r:=h
  rintro e σ ⟨rfl,rfl⟩
  refine tg_ hC [.n 2] rfl ?_
  cases h
  exact d1_ rfl rfl tt_
 replace h:QqX=some r:=h
 rintro e σ ⟨rfl,rfl⟩
 refine tg_ hC [.n 8] rfl ?_
 cases h
 exact d1_ rfl rfl tt_
def QdR (b:Q5)(c:Q5)(a:Int):Option (Int⊕(Unit⊕Unit)):=
 bif (decide (a<(b.States.length:Int)))then
 (idx b.States a).bind fun d=>
 (QeR c d).bind fun e=>
 bif (decide (e<0))then
 some (.inr (.inl ()))
 else
 some (.inl (w64 (a+1)))
 else
 some (.inr (.inr ()))
def QmT : Option Bool:=
 some false
def QmU (e:Bool)(a:Q5)(b:Q5)(f:Int):Option Bool:=
 bif e then
 bif a.Full then
 bif (decide ((a.States.length:Int)≤(b.States.length:Int)))then
 (idx b.States f).bind fun c=>
 (QeR a c).bind fun d=>
 some (d==0)
 else
 some false
 else
 some false
 else
 some false
def QiI (a:Bool):Option Bool:=
 some a
def QfF (d:Bool)(a:Q5)(b:Q5)(e:Int):Option Bool:=
 (QmU d a b e).bind (fun c=>QiI c)
def Qfq (d:Qj)(a:Int)(b:Int)(f:Int):Option Bool:=
 (Qoc).bind fun g=>
 (QmO d a).bind fun l=>
 bif (!l)then
 some g
 else
 (QdO d a b).bind fun c=>
 (QeO d).bind fun h=>
 (Qgb d h a b).bind fun i=>
 (Qkd c i).bind fun j=>
 bif (!j)then
 some false
 else
 bif ((!c.Full)||((decide (f<0))||(decide ((c.States.length:Int)≤f))))then
 some g
 else
 (idx c.States f).bind fun k=>
 (Qgb d k a b).bind fun e=>
 (QK (fun st=>QdR e c st) 0).bind (Sum.elim (fun q=>QmT) (fun q=>QfF g e c f))
theorem QsN (B g i t){r}(h:Qfq B g i t=some r):Qc prog 5 [.agg (Qd B),.I g,.I i,.I t] [] (Gives (.b r) []):=by
 refine Qc.walk 97 func5 rfl rfl rfl fun C hC=>?_
 obtain⟨G,a3,h⟩:=Qb h
 obtain⟨x8,a4,h⟩:=Qb h
 refine Qa hC [.n 8,.o (.c false [] (.b G)),.n 5,.v .no [] (.agg (Qd B)),.n 1,.o (.c false [.d,.d] (.b x8)),.n 10] rfl ⟨⟨⟨tt_,(QvK  a3)⟩,rfl⟩,(QwG _ _ a4)⟩ ?_
 rcases Qr h with⟨D,h⟩|⟨D,h⟩
 ·refine Qa hC [.T,.n 8] rfl ⟨tt_,D⟩ ?_
  cases h
  exact d1_ rfl rfl tt_
 obtain⟨f,H,h⟩:=Qb h
 obtain⟨J,L,h⟩:=Qb h
 obtain⟨a5,M,h⟩:=Qb h
 obtain⟨a6,P,h⟩:=Qb h
 refine Qa hC [.F,.n 4,.v .no [] (.agg (Qd B)),.n 2,.o (.c false [.d,.d,.d] (.agg (QB f))),.n 2,.O 11 (.var (QB f)),.n 4,.K [1,2,3,4,9,11] [4,11]] rfl ⟨⟨⟨⟨tt_,D⟩,rfl⟩,(QgQ _ _ _ H)⟩,rfl⟩ ?_
 refine AK.draw2 Qp hC mixed [.a .no (some ([],.agg (QB f))) false,.a .no (some ([],.agg (Qd B))) false,.a .no (some ([],.agg (Qd B))) false,.a (.cd false [.d] 1 (J.map Qi) J.length) none false,.N,.N,.a (.c false [.d,.d,.d,.d] (.agg (QB a5))) none false,.a (.c false [.d,.d] (.b a6)) none false,.N] [] [] [1,2,3,4,9,11,33] [4,11] rfl rfl rfl ⟨⟨⟨⟨⟨⟨tt_,rfl⟩,rfl⟩,rfl⟩,⟨(Qmm _ L),Qf⟩⟩,(QmF _ _ _ _ M)⟩,(QwJ _ _ P)⟩ rfl (by kernel_rfl) rfl rfl rfl ?_
 refine tg_ hC [.n 1] rfl ?_
 refine bg_ h (fun w h=>Qa hC [.T,.n 7,.K [8] []] rfl ⟨tt_,w⟩ ?_) fun w h=>Qa hC [.F,.n 4] rfl ⟨tt_,w⟩ ?_
 ·cases h
  exact d1_ rfl rfl tt_
 refine AK.meetX (fun σ=>σ=⟨[(1,.I g),(2,.I i),(3,.I t),(4,.loc 4 0 0),(9,.b G),(11,.loc 11 0 0),(47,.b ((!f.Full)||((decide (t<0))||(decide ((f.States.length:Int)≤t)))))],[(4,.var (Qd B)),(11,.var (QB f))]⟩) ?_ ?_
 ·refine tg_ hC [.n 5] rfl ?_
  rcases Q3 (!f.Full)with k | k
  ·refine Qa hC [.S 37 (.b true),.n 11,.S 47 (.b ((!f.Full)||((decide (t<0))||(decide ((f.States.length:Int)≤t))))),.K [1,2,3,4,9,11,47] [4,11]] rfl ⟨(tc_ k),(congrArg V.b (orT k rfl))⟩ ?_
   exact AK.met rfl
  refine Qa hC [.S 37 (.b false),.n 4] rfl (tc_ k) ?_
  rcases Q3 (decide (t<0))with l | l
  ·refine Qa hC [.S 41 (.b true),.n 7,.S 47 (.b ((!f.Full)||((decide (t<0))||(decide ((f.States.length:Int)≤t))))),.K [1,2,3,4,9,11,47] [4,11]] rfl ⟨(tc_ l),(congrArg V.b (orF k (orT l rfl)))⟩ ?_
   exact AK.met rfl
  refine Qa hC [.S 41 (.b false),.n 3,.o (.ln f.States.length),.n 3,.S 47 (.b ((!f.Full)||((decide (t<0))||(decide ((f.States.length:Int)≤t))))),.K [1,2,3,4,9,11,47] [4,11]] rfl ⟨⟨(tc_ l),Qf⟩,(congrArg V.b (orF k (orF l rfl)))⟩ ?_
  exact AK.met rfl
 rintro σ rfl
 refine tg_ hC [.n 1] rfl ?_
 rcases Qr h with⟨x,h⟩|⟨x,h⟩
 ·refine Qa hC [.T,.n 8] rfl ⟨tt_,x⟩ ?_
  cases h
  exact d1_ rfl rfl tt_
 obtain⟨a7,U,h⟩:=Qb h
 obtain⟨j,W,h⟩:=Qb h
 refine Qa hC [.F,.n 3,.K [1,2,3,4,9,11] [4,11]] rfl ⟨tt_,x⟩ ?_
 refine AK.draw2 Qp hC mixed [.a .no (some ([],.agg (Qd B))) false,.N,.N,.N,.a (.row (Qt a7)) none false,.N,.N,.N,.a (.c false [.d,.d,.d,.d] (.agg (QB j))) none false,.N,.m .s] [] [] [3,9,11,12] [11,12] rfl rfl rfl ⟨⟨⟨tt_,rfl⟩,(QP U)⟩,(QmF _ _ _ _ W)⟩ rfl (by kernel_rfl) rfl rfl rfl ?_
 refine Qa hC [.O 12 (.var (QB j)),.n 8,.K [3,9,11,12,13] [11,12]] rfl ⟨tt_,rfl⟩ ?_
 obtain⟨a8,X,h⟩:=Qb h
 refine AK.loop (body:=(fun st=>QdR j f st)) (fun st σ=>σ=⟨[(3,.I t),(9,.b G),(11,.loc 11 0 0),(12,.loc 12 0 0),(13,.I st)],[(11,.var (QB f)),(12,.var (QB j))]⟩) (Sum.elim (fun q e σ=>e=.ret∧σ=⟨[(8,.b false)],[]⟩) (fun q e σ=>e=.exit 0∧σ=⟨[(3,.I t),(9,.b G),(11,.loc 11 0 0),(12,.loc 12 0 0)],[(11,.var (QB f)),(12,.var (QB j))]⟩)) X rfl ?_ ?_
 ·rintro b3 o σ rfl h
  refine Qa hC [.n 6,.o (.ln j.States.length),.n 3] rfl ⟨tt_,Qf⟩ ?_
  rcases Qr h with⟨y,h⟩|⟨y,h⟩
  ·obtain⟨a9,Y,h⟩:=Qb h
   obtain⟨b0,Z,h⟩:=Qb h
   refine Qa hC [.T,.n 5,.K [3,9,11,12,13] [11,12]] rfl ⟨tt_,y⟩ ?_
   refine AK.draw2 Qp hC mixed [.a .no (some ([],.agg (QB f))) false,.N,.N,.N,.a (.row (Qt a9)) none false,.N,.a (.c false [.d,.d] (.I b0)) none false,.N] [] [] [3,9,11,12,13,72] [11,12] rfl rfl rfl ⟨⟨⟨tt_,rfl⟩,(QP Y)⟩,(QmH _ _ Z)⟩ rfl (by kernel_rfl) rfl rfl rfl ?_
   refine tg_ hC [.n 1] rfl ?_
   refine bg_ h (fun z h=>Qa hC [.T,.n 8,.K [8] []] rfl ⟨tt_,z⟩ ?_) fun z h=>Qa hC [.F,.n 8,.K [3,9,11,12,13] [11,12]] rfl ⟨tt_,z⟩ ?_
   ·cases h
    exact Qar rfl (an_ rfl rfl)
   cases h
   exact Q4 rfl rfl
  refine Qa hC [.F,.n 2,.K [3,9,11,12] [11,12]] rfl ⟨tt_,y⟩ ?_
  cases h
  exact Q6 rfl (an_ rfl rfl)
 rcases a8 with(_ | _)
 ·replace h:QmT=some r:=h
  rintro e σ ⟨rfl,rfl⟩
  refine tg_ hC [.n 2] rfl ?_
  cases h
  exact d1_ rfl rfl tt_
 replace h:QfF G j f t=some r:=h
 rintro e σ ⟨rfl,rfl⟩
 refine tg_ hC [.n 3] rfl ?_
 obtain⟨E,a0,h⟩:=Qb h
 replace h:QiI E=some r:=h
 refine AK.meetX (fun σ=>σ=⟨[(8,.b E)],[]⟩) ?_ ?_
 ·replace h:=a0
  refine tg_ hC [.K [3,9,11,12] [11,12]] rfl ?_
  rcases Qr h with⟨p,h⟩|⟨p,h⟩
  ·rcases Qr h with⟨u,h⟩|⟨u,h⟩
   ·rcases Qr h with⟨A,h⟩|⟨A,h⟩
    ·obtain⟨b1,a1,h⟩:=Qb h
     obtain⟨b2,a2,h⟩:=Qb h
     refine AK.draw2 Qp hC mixed [.N,.a .no (some ([],.b true)) false,.N,.N,.N,.a .no (some ([],.b true)) false,.N,.N,.a (.ln j.States.length) none false,.N,.N,.a (.ln f.States.length) none false,.N,.N,.a .no (some ([],.b true)) false,.a .no (some ([],.agg (QB j))) false,.N,.N,.N,.a (.row (Qt b1)) none false,.N,.a (.c false [.d,.d] (.I b2)) none false,.N,.N,.N] [] [] [8] [] rfl rfl rfl ⟨⟨⟨⟨⟨⟨⟨(tc_ p),(cb_ u)⟩,Qf⟩,Qf⟩,(cb_ A)⟩,rfl⟩,(QP a1)⟩,(QmH _ _ a2)⟩ rfl (by kernel_rfl) rfl rfl rfl ?_
     refine tg_ hC [.K [8] []] rfl ?_
     cases h
     exact AK.met rfl
    refine AK.draw2 Qp hC mixed [.N,.a .no (some ([],.b true)) false,.N,.N,.N,.a .no (some ([],.b true)) false,.N,.N,.a (.ln j.States.length) none false,.N,.N,.a (.ln f.States.length) none false,.N,.N,.a .no (some ([],.b false)) false,.N,.N,.N,.N,.N,.N,.N,.N,.N,.N] [] [] [8] [] rfl rfl rfl ⟨⟨⟨⟨(tc_ p),(cb_ u)⟩,Qf⟩,Qf⟩,(cb_ A)⟩ rfl (by kernel_rfl) rfl rfl rfl ?_
    refine tg_ hC [.K [8] []] rfl ?_
    cases h
    exact AK.met rfl
   refine AK.draw2 Qp hC mixed [.N,.a .no (some ([],.b true)) false,.N,.N,.N,.a .no (some ([],.b false)) false,.N,.N,.N,.N,.N,.N,.N,.N,.N,.N,.N,.N,.N,.N,.N,.N,.N,.N,.N] [] [] [8] [] rfl rfl rfl ⟨(tc_ p),(cb_ u)⟩ rfl (by kernel_rfl) rfl rfl rfl ?_
   refine tg_ hC [.K [8] []] rfl ?_
   cases h
   exact AK.met rfl
  refine AK.draw2 Qp hC mixed [.N,.a .no (some ([],.b false)) false,.N,.N,.N,.N,.N,.N,.N,.N,.N,.N,.N,.N,.N,.N,.N,.N,.N,.N,.N,.N,.N,.N,.N] [] [] [8] [] rfl rfl rfl (tc_ p) rfl (by kernel_rfl) rfl rfl rfl ?_
  refine tg_ hC [.K [8] []] rfl ?_
  cases h
  exact AK.met rfl
 rintro σ rfl
 replace h:QiI E=some r:=h
 refine tg_ hC [.n 2] rfl ?_
 cases h
 exact d1_ rfl rfl tt_

end Go.Proofs
