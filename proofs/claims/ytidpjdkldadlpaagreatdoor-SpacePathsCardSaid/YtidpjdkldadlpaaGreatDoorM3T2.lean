/- What functions of the program do, as functions over plain data, and the walks that show it: printed by a program. -/
import Derived.Test.YtidpjdkldadlpaaGreatDoorM3T1
set_option linter.unusedVariables false
set_option linter.unusedSimpArgs false
set_option linter.unusedSectionVars false
set_option linter.deprecated false
set_option maxRecDepth 100000
set_option maxHeartbeats 4000000
noncomputable section
namespace Go.Proofs
open Go Go.RowKit Go.Vm Go.Proofs.Tryz
def Qbw (c:(List Int))(d:(List Int))(a:Int):Option (Int⊕(Unit⊕Unit)):=
 bif (decide (a<(c.length:Int)))then
 (idx c a).bind fun e=>
 (idx d a).bind fun b=>
 bif (e != b)then
 some (.inr (.inl ()))
 else
 some (.inl (w64 (a+1)))
 else
 some (.inr (.inr ()))
def Qjt : Option Bool:=
 some false
def Qju : Option Bool:=
 some true
def Qbs (a:(List Int))(b:(List Int)):Option Bool:=
 bif ((a.length:Int) != (b.length:Int))then
 some false
 else
 (QJ (fun st=>Qbw a b st) 0).bind (Sum.elim (fun q=>Qjt) (fun q=>Qju))
theorem QoU (d i){r}(h:Qbs d i=some r):Qc prog 147 [.sl 1 (d.map Qe),.sl 1 (i.map Qe)] [] (Gives (.b r) []):=by
 refine Qc.walk 26 func147 rfl rfl rfl fun C hC=>?_
 refine Qa hC [.n 9,.o (.ln d.length),.n 1,.o (.ln i.length),.n 3] rfl ⟨⟨tt_,Qf⟩,Qf⟩ ?_
 refine bg_ h (fun f h=>Qa hC [.T,.n 7,.K [4] []] rfl ⟨tt_,f⟩ ?_) fun f h=>Qa hC [.F,.n 6,.o (.ln d.length),.n 4,.K [0,1,12,13] []] rfl ⟨⟨tt_,f⟩,Qf⟩ ?_
 ·cases h
  exact d1_ rfl rfl tt_
 obtain⟨l,j,h⟩:=Qb h
 refine AK.loop (body:=(fun st=>Qbw d i st)) (fun st σ=>σ=⟨[(0,.sl 1 (d.map Qe)),(1,.sl 1 (i.map Qe)),(12,.I (d.length:Int)),(13,.I st)],[]⟩) (Sum.elim (fun q e σ=>e=.ret∧σ=⟨[(4,.b false)],[]⟩) (fun q e σ=>e=.exit 0∧σ=⟨[],[]⟩)) j rfl ?_ ?_
 ·rintro t o σ rfl h
  refine tg_ hC [.n 6] rfl ?_
  rcases Qt h with⟨g,h⟩|⟨g,h⟩
  ·obtain⟨s,m,h⟩:=Qb h
   obtain⟨p,k,h⟩:=Qb h
   refine Qa hC [.T,.n 11,.K [0,1,5,12,13] []] rfl ⟨tt_,g⟩ ?_
   refine AK.draw2 Qs hC mixed [.N,.N,.a (.row (Qe s)) none false,.N,.N,.N,.a (.row (Qe p)) none false,.N,.N] [] [] [0,1,12,13,24] [] rfl rfl rfl ⟨⟨tt_,(QT m)⟩,(QT k)⟩ rfl (by kernel_rfl) rfl rfl rfl ?_
   refine tg_ hC [.n 1] rfl ?_
   refine bg_ h (fun c h=>Qa hC [.T,.n 8,.K [4] []] rfl ⟨tt_,c⟩ ?_) fun c h=>Qa hC [.F,.n 7,.K [0,1,12,13] []] rfl ⟨tt_,c⟩ ?_
   ·cases h
    exact Qav rfl (an_ rfl rfl)
   cases h
   exact Q6 rfl rfl
  refine Qa hC [.F,.n 2,.K [] []] rfl ⟨tt_,g⟩ ?_
  cases h
  exact Q8 rfl (an_ rfl rfl)
 rcases l with(_ | _)
 ·replace h:Qjt=some r:=h
  rintro e σ ⟨rfl,rfl⟩
  refine tg_ hC [.n 2] rfl ?_
  cases h
  exact d1_ rfl rfl tt_
 replace h:Qju=some r:=h
 rintro e σ ⟨rfl,rfl⟩
 refine tg_ hC [.n 8] rfl ?_
 cases h
 exact d1_ rfl rfl tt_
def Qjv (a:(List Int))(b:(List Int)):Option Bool:=
 (Qbs a b).bind fun c=>
 some c
theorem QtZ (f a){r}(h:Qjv f a=some r):Qc prog 146 [.sl 1 (f.map Qe),.loc 617 0 0] [(617,.var (QK a))] (Gives (.b r) [(617,.var (QK a))]):=by
 refine Qc.walk 7 func146 rfl rfl rfl fun C hC=>?_
 obtain⟨g,e,h⟩:=Qb h
 refine Qa hC [.n 9,.o (.c false [.d,.d] (.b g)),.n 4] rfl ⟨tt_,(QoU _ _ e)⟩ ?_
 cases h
 exact d1_ rfl rfl ⟨rfl,tt_⟩
def Qao (c:QLL)(d:(List Int))(a:Int):Option (Int⊕(Int⊕Unit)):=
 bif (decide (a<(c.length:Int)))then
 (idx c a).bind fun e=>
 (Qjv e d).bind fun b=>
 bif b then
 some (.inr (.inl a))
 else
 some (.inl (w64 (a+1)))
 else
 some (.inr (.inr ()))
def Qf8 (a:Int):Option Int:=
 some a
def Qf9 : Option Int:=
 some (-1)
def Qcy (a:QLL)(b:(List Int)):Option Int:=
 (QJ (fun st=>Qao a b st) 0).bind (Sum.elim (fun q=>Qf8 q) (fun q=>Qf9))
theorem QlZ (g c){r}(h:Qcy g c=some r):Qc prog 153 [.sl 1 (g.map QK),.clo (.func 146) [] [.loc 617 0 0]] [(617,.var (QK c))] (Gives (.I r) [(617,.var (QK c))]):=by
 refine Qc.walk 19 func153 rfl rfl rfl fun C hC=>?_
 refine Qa hC [.n 9,.o (.ln g.length),.n 4,.K [0,1,7,8] [617]] rfl ⟨tt_,Qf⟩ ?_
 obtain⟨k,i,h⟩:=Qb h
 refine AK.loop (body:=(fun st=>Qao g c st)) (fun st σ=>σ=⟨[(0,.sl 1 (g.map QK)),(1,.clo (.func 146) [] [.loc 617 0 0]),(7,.I (g.length:Int)),(8,.I st)],[(617,.var (QK c))]⟩) (Sum.elim (fun q e σ=>e=.ret∧σ=⟨[(4,.I q)],[(617,.var (QK c))]⟩) (fun q e σ=>e=.exit 0∧σ=⟨[],[(617,.var (QK c))]⟩)) i rfl ?_ ?_
 ·rintro t o σ rfl h
  refine tg_ hC [.n 6] rfl ?_
  rcases Qt h with⟨f,h⟩|⟨f,h⟩
  ·obtain⟨p,l,h⟩:=Qb h
   obtain⟨m,j,h⟩:=Qb h
   refine Qa hC [.T,.n 15,.o (.row (QK p)),.n 1,.cm (.clo) [(617,617)] [(617,617)] [] [.d,.d] [(617,.var (QK c))] (.b m),.n 2] rfl ⟨⟨⟨tt_,f⟩,(QT l)⟩,(QtZ _ _ j)⟩ ?_
   refine bg_ h (fun a h=>Qa hC [.T,.n 9,.K [4] [617]] rfl ⟨tt_,a⟩ ?_) fun a h=>Qa hC [.F,.n 7,.K [0,1,7,8] [617]] rfl ⟨tt_,a⟩ ?_
   ·cases h
    exact Qav rfl (an_ rfl rfl)
   cases h
   exact Q6 rfl rfl
  refine Qa hC [.F,.n 2,.K [] [617]] rfl ⟨tt_,f⟩ ?_
  cases h
  exact Q8 rfl (an_ rfl rfl)
 rcases k with(s | _)
 ·replace h:Qf8 s=some r:=h
  rintro e σ ⟨rfl,rfl⟩
  refine tg_ hC [.n 2] rfl ?_
  cases h
  exact d1_ rfl rfl ⟨rfl,tt_⟩
 replace h:Qf9=some r:=h
 rintro e σ ⟨rfl,rfl⟩
 refine tg_ hC [.n 8] rfl ?_
 cases h
 exact d1_ rfl rfl ⟨rfl,tt_⟩
def Qcz (a:QLL)(b:(List Int)):Option Bool:=
 (Qcy a b).bind fun c=>
 some (decide (0≤c))
theorem Ql0 (e a){r}(h:Qcz e a=some r):Qc prog 145 [.sl 1 (e.map QK),.clo (.func 146) [] [.loc 617 0 0]] [(617,.var (QK a))] (Gives (.b r) [(617,.var (QK a))]):=by
 refine Qc.walk 9 func145 rfl rfl rfl fun C hC=>?_
 obtain⟨f,c,h⟩:=Qb h
 refine Qa hC [.n 9,.cm (.fn) [(617,617)] [(617,617)] [] [.d,.d] [(617,.var (QK a))] (.I f),.n 5] rfl ⟨tt_,(QlZ _ _ c)⟩ ?_
 cases h
 exact d1_ rfl rfl ⟨rfl,tt_⟩
def Qd4 (a:Int)(b:Int)(c:(List Int)):Option Bool:=
 (Qcg a b).bind fun d=>
 (Qcz d c).bind fun e=>
 some e
theorem QpD (a c e){r}(h:Qd4 a c e=some r):Qc prog 91 [.I a,.I c,.sl 1 (e.map Qe)] [] (Gives (.b r) []):=by
 refine Qc.walk 12 func91 rfl rfl rfl fun C hC=>?_
 obtain⟨f,g,h⟩:=Qb h
 obtain⟨j,i,h⟩:=Qb h
 refine Qa hC [.n 10,.o (.co false [.d,.d] 1 (f.map QK) f.length),.n 1,.frz 9 (f.map QK) [9] [],.cm (.fn) [(617,5)] [(5,617)] [] [.d,.d] [(617,.var (QK e))] (.b j),.n 4] rfl ⟨⟨⟨tt_,⟨(Qlc _ _ g),Qf,.inl rfl⟩⟩,⟨tt_,(QbQ Qf)⟩⟩,(Ql0 _ _ i)⟩ ?_
 cases h
 exact d1_ rfl rfl tt_
def Qjw (a:(Int×QV))(d:Qm):Option Bool:=
 (Qd4 a.2.task.Join (a.2.task.Ins.length:Int) d.Ins).bind fun b=>
 bif (!b)then
 some true
 else
 (Qd4 a.2.task.Split (a.2.task.Outs.length:Int) d.Outs).bind fun c=>
 some (!c)
def Qe5 (c:(Int×QV))(d:Qm)(e:Bool):Option Int:=
 bif e then
 some 11
 else
 (Qai c.2 d.Ins).bind fun a=>
 bif (a != 0)then
 some a
 else
 (QaA c.2 d.Outs).bind fun b=>
 some b
def QcW (b:(Int×QV))(c:Qm)(a:Int):Option Int:=
 bif (a != 0)then
 some a
 else
 (Qjw b c).bind (fun d=>Qe5 b c d)
def QcG (d:Qj)(e:QMk)(b:Qm):Option Int:=
 (QbR d e b.Task b.Vars).bind fun a=>
 bif (a.1==0)then
 (Qal a.2).bind fun c=>
 QcW a b c
 else
 QcW a b a.1
theorem QqE (w G k){r}(h:QcG w G k=some r):Qc prog 58 [.agg (Qd w),.sl 1 (G.map Qi),.agg (Qk k)] [] (Gives (.I r) []):=by
 refine Qc.walk 62 func58 rfl rfl rfl fun C hC=>?_
 obtain⟨a,x,h⟩:=Qb h
 refine Qa hC [.n 9,.v .no [] (.agg (Qd w)),.n 5,.o (.c false [.d,.d,.d,.d] (.tup [.agg (Qy a.2),.I a.1])),.n 5,.O 7 (.var (Qy a.2)),.n 3] rfl ⟨⟨⟨tt_,rfl⟩,(Qqw _ _ _ _ x)⟩,rfl⟩ ?_
 refine AK.meet (fun σ=>∃e:Int,σ=⟨[(5,.loc 5 0 0),(7,.loc 7 0 0),(8,.I e)],[(5,.var (Qk k)),(7,.var (Qy a.2))]⟩∧QcW a k e=some r) ?_ ?_
 ·refine tg_ hC [.n 6] rfl ?_
  rcases Qt h with⟨f,h⟩|⟨f,h⟩
  ·obtain⟨y,m,h⟩:=Qb h
   refine Qa hC [.T,.n 1,.v .no [] (.agg (Qy a.2)),.o (.c false [.d] (.I y)),.n 2,.K [5,7,8] [5,7]] rfl ⟨⟨⟨tt_,f⟩,rfl⟩,(Qj9 _ m)⟩ ?_
   exact AK.met (ex_ _ (an_ rfl h))
  refine Qa hC [.F,.n 1,.K [5,7,8] [5,7]] rfl ⟨tt_,f⟩ ?_
  exact AK.met (ex_ _ (an_ rfl h))
 rintro σ ⟨e,rfl,h⟩
 refine tg_ hC [.n 7] rfl ?_
 refine bg_ h (fun l h=>Qa hC [.T,.n 8,.K [6] []] rfl ⟨tt_,l⟩ ?_) fun l h=>Qa hC [.F,.n 4] rfl ⟨tt_,l⟩ ?_
 ·cases h
  exact d1_ rfl rfl tt_
 obtain⟨z,p,h⟩:=Qb h
 replace h:Qe5 a k z=some r:=h
 refine AK.meetX (fun σ=>σ=⟨[(5,.loc 5 0 0),(7,.loc 7 0 0),(50,.b z)],[(5,.var (Qk k)),(7,.var (Qy a.2))]⟩) ?_ ?_
 ·replace h:=p
  obtain⟨A,q,h⟩:=Qb h
  refine Qa hC [.n 7,.o (.ln a.2.task.Ins.length),.n 2,.o (.c false [.d,.d,.d] (.b A)),.n 2] rfl ⟨⟨tt_,Qf⟩,(QpD _ _ _ q)⟩ ?_
  rcases Qt h with⟨g,h⟩|⟨g,h⟩
  ·refine Qa hC [.S 38 (.b true),.n 13,.K [5,7,50] [5,7]] rfl (tc_ g) ?_
   cases h
   exact AK.met rfl
  obtain⟨B,s,h⟩:=Qb h
  refine Qa hC [.S 38 (.b false),.n 6,.o (.ln a.2.task.Outs.length),.n 2,.o (.c false [.d,.d,.d] (.b B)),.n 3,.K [5,7,50] [5,7]] rfl ⟨⟨(tc_ g),Qf⟩,(QpD _ _ _ s)⟩ ?_
  cases h
  exact AK.met rfl
 rintro σ rfl
 replace h:Qe5 a k z=some r:=h
 refine tg_ hC [.n 1] rfl ?_
 rcases Qt h with⟨i,h⟩|⟨i,h⟩
 ·refine Qa hC [.T,.n 7] rfl ⟨tt_,i⟩ ?_
  cases h
  exact d1_ rfl rfl tt_
 obtain⟨D,t,h⟩:=Qb h
 refine Qa hC [.F,.n 5,.v .no [] (.agg (Qy a.2)),.n 2,.o (.c false [.d,.d] (.I D)),.n 9] rfl ⟨⟨⟨tt_,i⟩,rfl⟩,(Qlz _ _ t)⟩ ?_
 rcases Qt h with⟨j,h⟩|⟨j,h⟩
 ·refine Qa hC [.T,.n 8] rfl ⟨tt_,j⟩ ?_
  cases h
  exact d1_ rfl rfl tt_
 obtain⟨E,u,h⟩:=Qb h
 refine Qa hC [.F,.n 4,.v .no [] (.agg (Qy a.2)),.n 2,.o (.c false [.d,.d] (.I E)),.n 4] rfl ⟨⟨⟨tt_,j⟩,rfl⟩,(Qlr _ _ u)⟩ ?_
 cases h
 exact d1_ rfl rfl tt_
def QdT (l:List Int):Option (List Int):=(chk (decide (l.length<4611686018427387904))).bind fun _=>some (Qfx l)
theorem Qid (l){r}(h:QdT l=some r):Qc prog 49 [.own 617 l.length] [(617,.arr 1 (l.map Qe))] (Gives (.own 617 r.length) [(617,.arr 1 (r.map Qe))]):=by
 obtain⟨_,a,h⟩:=Qb h
 cases h
 exact QzB QBx l (Q9 (QyC a))
def Qhp (a:Int)(b:(List Int)):Option ((Int×(List Int))⊕(List Int)):=
 some (.inl ((w64 (a+1)),b))
def Qox (a:Qaw)(c:QMk):Option Bool:=
 bif (decide (0≤a.Place))then
 bif (decide (a.Place<(c.length:Int)))then
 (idx c a.Place).bind fun b=>
 some ((b.length:Int)==0)
 else
 some false
 else
 some false
def Qhq (a:(List Int))(b:Qaw)(c:Int)(d:Bool):Option ((Int×(List Int))⊕(List Int)):=
 bif d then
 (chk (decide (a.length+([b.Place]:List Int).length≤4294967296))).bind fun _=>
 Qhp c (a++([b.Place]:List Int))
 else
 Qhp c a
def Qhr (e:QC)(f:QMk)(a:Int)(b:(List Int)):Option ((Int×(List Int))⊕(List Int)):=
 bif (decide (a<(e.Ins.length:Int)))then
 (idx e.Ins a).bind fun c=>
 (Qox c f).bind (fun d=>Qhq b c a d)
 else
 some (.inr b)
def Qhs (a:(List Int)):Option (List Int):=
 (Qbc a).bind fun b=>
 (chk (decide (b.length=a.length))).bind fun _=>
 (QdT b).bind fun c=>
 some c
def Qes (b:Qj)(c:QMk)(a:Int):Option (List Int):=
 bif ((decide (a<0))||(decide ((b.Tasks.length:Int)≤a)))then
 some ([]:List Int)
 else
 (idx b.Tasks a).bind fun d=>
 (QJ (fun st=>Qhr d c st.1 st.2) (0,([]:List Int))).bind (fun q=>Qhs q)
theorem QuR (w t a){r}(h:Qes w t a=some r):Qc prog 103 [.agg (Qd w),.sl 1 (t.map Qi),.I a] [] (Gives (.own 600 r.length) [(600,.arr 1 (r.map Qe))]):=by
 refine Qc.walk 59 func103 rfl rfl rfl fun C hC=>?_
 refine tg_ hC [.n 8] rfl ?_
 refine AK.meetX (fun σ=>σ=⟨[(1,.sl 1 (t.map Qi)),(2,.I a),(3,.loc 3 0 0),(18,.b ((decide (a<0))||(decide ((w.Tasks.length:Int)≤a))))],[(3,.var (Qd w))]⟩) ?_ ?_
 ·refine tg_ hC [.n 4] rfl ?_
  rcases Q7 (decide (a<0))with g | g
  ·refine Qa hC [.S 12 (.b true),.n 7,.S 18 (.b ((decide (a<0))||(decide ((w.Tasks.length:Int)≤a)))),.K [1,2,3,18] [3]] rfl ⟨(tc_ g),(congrArg V.b (orT g rfl))⟩ ?_
   exact AK.met rfl
  refine Qa hC [.S 12 (.b false),.n 3,.o (.ln w.Tasks.length),.n 3,.S 18 (.b ((decide (a<0))||(decide ((w.Tasks.length:Int)≤a)))),.K [1,2,3,18] [3]] rfl ⟨⟨(tc_ g),Qf⟩,(congrArg V.b (orF g rfl))⟩ ?_
  exact AK.met rfl
 rintro σ rfl
 refine tg_ hC [.n 1] rfl ?_
 rcases Qt h with⟨x,h⟩|⟨x,h⟩
 ·refine Qa hC [.T,.n 7,.adopt 6 600 1,.O 600 (.arr 1 (([]:List Int).map Qe)),.S 6 (.own 600 ([]:List Int).length)] rfl ⟨⟨⟨tt_,x⟩,rfl⟩,rfl⟩ ?_
  cases h
  exact d1_ rfl rfl ⟨rfl,tt_⟩
 obtain⟨p,N,h⟩:=Qb h
 refine Qa hC [.F,.n 13,.o (.row (Qh p)),.n 2,.o (.ln p.Ins.length),.n 4,.adopt 7 49 1,.O 49 (.arr 1 (([]:List Int).map Qe)),.S 7 (.own 49 ([]:List Int).length),.K [1,7,24,25,26] [49]] rfl ⟨⟨⟨⟨⟨tt_,x⟩,(QT N)⟩,Qf⟩,rfl⟩,(congrArg (fun n=>V.own 49 n) (by simp))⟩ ?_
 obtain⟨P,A,h⟩:=Qb h
 refine AK.loop (body:=(fun st=>Qhr p t st.1 st.2)) (fun st σ=>σ=⟨[(1,.sl 1 (t.map Qi)),(7,.own 49 st.2.length),(24,.sl 4 (p.Ins.map Q5)),(25,.I (p.Ins.length:Int)),(26,.I st.1)],[(49,.arr 1 (st.2.map Qe))]⟩) (fun q e σ=>e=.exit 0∧σ=⟨[(7,.own 49 q.length)],[(49,.arr 1 (q.map Qe))]⟩) A rfl ?_ ?_
 ·rintro ⟨i,f⟩ o σ rfl h
  refine tg_ hC [.n 6] rfl ?_
  refine bg_ h (fun j h=>Qa hC [.T,.n 2] rfl ⟨tt_,j⟩ ?_) fun j h=>Qa hC [.F,.n 2,.K [7] [49]] rfl ⟨tt_,j⟩ ?_
  ·refine AK.meet (fun σ=>∃s:(List Int),σ=⟨[(1,.sl 1 (t.map Qi)),(7,.own 49 s.length),(24,.sl 4 (p.Ins.map Q5)),(25,.I (p.Ins.length:Int)),(26,.I i)],[(49,.arr 1 (s.map Qe))]⟩∧Qhp i s=some o) ?_ ?_
   ·obtain⟨c,B,h⟩:=Qb h
    refine Qa hC [.n 3,.o (.row (Q5 c)),.v .no [] (.agg (Q5 c)),.n 2,.O 9 (.var (Q5 c)),.n 3] rfl ⟨⟨⟨tt_,(QT B)⟩,rfl⟩,rfl⟩ ?_
    obtain⟨y,D,h⟩:=Qb h
    replace h:Qhq f c i y=some o:=h
    refine AK.meetX (fun σ=>σ=⟨[(1,.sl 1 (t.map Qi)),(7,.own 49 f.length),(9,.loc 9 0 0),(24,.sl 4 (p.Ins.map Q5)),(25,.I (p.Ins.length:Int)),(26,.I i),(48,.b y)],[(9,.var (Q5 c)),(49,.arr 1 (f.map Qe))]⟩) ?_ ?_
    ·replace h:=D
     refine tg_ hC [.n 5] rfl ?_
     refine bg_ h (fun k h=>Qa hC [.S 33 (.b true),.n 3,.o (.ln t.length),.n 3] rfl ⟨(tc_ k),Qf⟩ ?_) fun k h=>Qa hC [.S 33 (.b false),.n 16,.K [1,7,9,24,25,26,48] [9,49]] rfl (tc_ k) ?_
     ·rcases Qt h with⟨l,h⟩|⟨l,h⟩
      ·obtain⟨E,G,h⟩:=Qb h
       refine Qa hC [.S 40 (.b true),.n 3,.o (.row (Qi E)),.n 1,.o (.ln E.length),.n 3,.K [1,7,9,24,25,26,48] [9,49]] rfl ⟨⟨(tc_ l),(QT G)⟩,Qf⟩ ?_
       cases h
       exact AK.met rfl
      refine Qa hC [.S 40 (.b false),.n 9,.K [1,7,9,24,25,26,48] [9,49]] rfl (tc_ l) ?_
      cases h
      exact AK.met rfl
     cases h
     exact AK.met rfl
    rintro σ rfl
    replace h:Qhq f c i y=some o:=h
    refine tg_ hC [.n 1] rfl ?_
    rcases Qt h with⟨m,h⟩|⟨m,h⟩
    ·obtain⟨H,h⟩:=QaW h
     refine Qa hC [.T,.n 4,.v (.bd []) [] (.sl 1 (([c.Place]:List Int).map Qe)),.app ((f++([c.Place]:List Int)).map Qe) (f++([c.Place]:List Int)).length,.n 3,.K [1,7,24,25,26] [49]] rfl ⟨⟨⟨tt_,m⟩,rfl⟩,⟨Qf,QbP H Qf,QaY,QcN Qf⟩⟩ ?_
     exact AK.met (ex_ _ (an_ rfl h))
    refine Qa hC [.F,.n 2,.K [1,7,24,25,26] [49]] rfl ⟨tt_,m⟩ ?_
    exact AK.met (ex_ _ (an_ rfl h))
   rintro σ ⟨s,rfl,h⟩
   refine tg_ hC [.n 4,.K [1,7,24,25,26] [49]] rfl ?_
   cases h
   exact Q6 rfl rfl
  cases h
  exact Q8 rfl (an_ rfl rfl)
 replace h:Qhs P=some r:=h
 rintro e σ ⟨rfl,rfl⟩
 obtain⟨z,J,h⟩:=Qb h
 obtain⟨u,h⟩:=QaW h
 obtain⟨L,M,h⟩:=Qb h
 refine Qa hC [.n 5,.cm (.fn) [(617,49)] [(49,617)] [] [.d] [(617,.arr 1 (z.map Qe))] (.tup []),.S 7 (.own 49 z.length),.S 55 (.own 49 z.length),.n 5,.cm (.fn) [(617,49)] [(49,617)] [] [.d] [(617,.arr 1 (L.map Qe))] (.own 617 L.length),.n 4,.K [6] [49],.ren 49 600] rfl ⟨⟨⟨⟨tt_,(QdN _ J)⟩,(by simp [Q9 u])⟩,(by simp [Q9 u])⟩,(Qid _ M)⟩ ?_
 cases h
 exact d1_ rfl rfl ⟨rfl,tt_⟩
def QhT (a:QMk):Option ByteArray:=
 (QgA a).bind fun b=>
 some (Qjo b.1)
theorem QmO (e){r}(h:QhT e=some r):Qc prog 154 [.sl 1 (e.map Qi)] [] (Gives (.s r) []):=by
 refine Qc.walk 12 func154 rfl rfl rfl fun C hC=>?_
 obtain⟨a,b,h⟩:=Qb h
 refine Qa hC [.n 8,.o (.c false [.d] (.tup [.sl 1 (a.1.map QaV),.I a.2])),.n 10,.o (.any (.s (Qjo a.1)) none),.n 4] rfl ⟨⟨tt_,(Qpu _ b)⟩,(fun σ f g _=>Stp.b2s rfl rfl (QN hC.n rfl) (f _ _ rfl) rfl QBA QAx (Qs.sb rfl))⟩ ?_
 cases h
 exact d1_ rfl rfl tt_
def Qkf (c:Qj)(b:Qm):Option (QMk×Int):=
 (Qfy c b.Task b.Vars).bind fun d=>
 bif (d.2 != 0)then
 some (([]:List QBg),d.2)
 else
 (idx c.Tasks b.Task).bind fun e=>
 (Qd3 c e.Ins b.Ins d.1).bind fun a=>
 some (a.1,a.2)
theorem Qww (g k){r}(h:Qkf g k=some r):Qc prog 59 [.agg (Qd g),.agg (Qk k)] [] (Gives (.tup [.sl 1 (r.1.map Qi),.I r.2]) []):=by
 refine Qc.walk 34 func59 rfl rfl rfl fun C hC=>?_
 obtain⟨l,i,h⟩:=Qb h
 refine Qa hC [.n 10,.v .no [] (.agg (Qd g)),.n 4,.o (.c false [.d,.d,.d] (.tup [.sl 1 (l.1.map Qe),.I l.2])),.n 14] rfl ⟨⟨tt_,rfl⟩,(Qn8 _ _ _ i)⟩ ?_
 rcases Qt h with⟨b,h⟩|⟨b,h⟩
 ·refine Qa hC [.T,.n 9,.denil 4 [some 1]] rfl ⟨tt_,b⟩ ?_
  cases h
  exact d2_ rfl rfl rfl tt_
 obtain⟨p,j,h⟩:=Qb h
 obtain⟨e,f,h⟩:=Qb h
 refine Qa hC [.F,.n 3,.K [2,3,4,5,6] [2,3]] rfl ⟨tt_,b⟩ ?_
 refine AK.draw2 Qs hC mixed [.a .no (some ([],.agg (Qd g))) false,.N,.N,.N,.N,.a (.row (Qh p)) none false,.N,.N,.N,.N,.N,.a (.c false [.d,.d,.d,.d] (.tup [.sl 1 (e.1.map Qi),.I e.2])) none false,.N,.N,.m .s,.m .s] [] [] [4,5] [] rfl rfl rfl ⟨⟨⟨tt_,rfl⟩,(QT j)⟩,(Qf4 _ _ _ _ f)⟩ rfl (by kernel_rfl) rfl rfl rfl ?_
 refine tg_ hC [.n 2] rfl ?_
 cases h
 exact d2_ rfl rfl rfl tt_
def Qs2 (a:Unit):Option (QBg×Int):=
 some (([]:List (Int×Int)),1)
def Qs3 (a:QBg):Option (QBg×Int):=
 some (([]:List (Int×Int)),1)
def Qs4 (a:QBg):Option (QBg×Int):=
 some (([]:List (Int×Int)),1)
noncomputable def QgD (m16:QBg)(k18:Int)(v19:Int):Option (QBg⊕Empty):=
 some (.inl (Qag ltI m16 k18 (w64 (((Qv m16 k18).getD 0)-v19))))
def Qoa (a:QBg):Option (QBg×Int):=
 (Qen a).bind fun b=>
 some (b,0)
noncomputable def Qob (a11:(QBg×QBg)):Option (QBg×Int):=
 (Qel a11.2 a11.1).bind fun x12=>
 bif (!x12)then
 some (([]:List (Int×Int)),10)
 else
 (QiR (fun st p=>QgD st p.1 p.2) a11.1 a11.2).bind (Sum.elim (fun q=>Qoa q) (fun q=>Empty.elim q))
def Qb2 (a:QBg)(b:QBg):Option (QBg×Int):=
 (QkB a b).bind (Sum.elim (fun q=>Qs2 q) (Sum.elim (fun q=>Qs3 q) (Sum.elim (fun q=>Qs4 q) (fun q=>Qob q))))
theorem Qyd (M N){r}(h:Qb2 M N=some r):Qc prog 61 [.sl 2 (M.map QI),.sl 2 (N.map QI)] [] (Gives (.tup [.sl 2 (r.1.map QI),.I r.2]) []):=by
 refine Qc.walk 40 func61 rfl rfl rfl fun C hC=>?_
 obtain⟨U,u,h⟩:=Qb h
 refine tg_ hC [.n 10] rfl ?_
 rcases U with(W | (O | (D | g)))
 ·replace h:Qs2 W=some r:=h
  refine Qa hC [.cm (.fn) [] [] [] [.d,.d] [] (.tup [.lit (.map none),.lit (.map none),.b false]),.n 28,.denil 4 [some 2]] rfl ⟨tt_,(QbL _ _ u)⟩ ?_
  cases h
  exact d2_ rfl rfl rfl tt_
 ·replace h:Qs3 O=some r:=h
  refine Qa hC [.cm (.fn) [] [(14,603)] [] [.d,.d] [(603,.map (QA V.I V.I O))] (.tup [.lit (.map none),.map 603,.b false]),.n 28,.denil 4 [some 2]] rfl ⟨tt_,(QbL _ _ u)⟩ ?_
  cases h
  exact d2_ rfl rfl rfl tt_
 ·replace h:Qs4 D=some r:=h
  refine Qa hC [.cm (.fn) [] [(14,602)] [] [.d,.d] [(602,.map (QA V.I V.I D))] (.tup [.map 602,.lit (.map none),.b false]),.n 28,.denil 4 [some 2]] rfl ⟨tt_,(QbL _ _ u)⟩ ?_
  cases h
  exact d2_ rfl rfl rfl tt_
 replace h:Qob g=some r:=h
 obtain⟨J,E,h⟩:=Qb h
 refine Qa hC [.cm (.fn) [] [(14,602),(610,603)] [] [.d,.d] [(602,.map (QA V.I V.I g.1)),(603,.map (QA V.I V.I g.2))] (.tup [.map 602,.map 603,.b true]),.n 23,.cm (.fn) [(617,610),(618,14)] [(610,617),(14,618)] [] [.d,.d] [(617,.map (QA V.I V.I g.2)),(618,.map (QA V.I V.I g.1))] (.b J),.n 4] rfl ⟨⟨tt_,(QbL _ _ u)⟩,(Qlv _ _ E)⟩ ?_
 refine bg_ h (fun i h=>Qa hC [.T,.n 9,.denil 4 [some 2],.K [4,5] []] rfl ⟨tt_,i⟩ ?_) fun i h=>Qa hC [.F,.n 7] rfl ⟨tt_,i⟩ ?_
 ·cases h
  exact d2_ rfl rfl rfl tt_
 refine AK.openMap (b:=610) Qdh rfl fun j s L14 y A=>?_
 refine Qa hC [.x (fun σ=>(σ.set 27 (.itr j s #[] none)).put 27 (.loc 27 0 0)),.n 3,.K [6,27] [14,27,610]] rfl ⟨tt_,(Stp.range (b:=610) rfl rfl (QN hC.n rfl) rfl rfl QeN rfl)⟩ ?_
 obtain⟨L,G,h⟩:=Qb h
 refine AK.range (body:=(fun st p=>QgD st p.1 p.2)) (fun st seen σ=>∃cur:Option MapEntry,σ=⟨[(6,.map 14),(27,.loc 27 0 0)],[(14,.map (QA V.I V.I st)),(27,.itr j s seen cur),(610,.mapX j s (QhG V.I V.I L14) (QA V.I V.I g.2))]⟩) (fun (q:Empty) _ _=>False) (fun st e σ=>e=.exit 1∧σ=⟨[(6,.map 14)],[(14,.map (QA V.I V.I st))]⟩) y A G (ex_ _ rfl) ?_ ?_
 ·rintro a seen σ ⟨cur,rfl⟩ hex
  refine tg_ hC [.n 2] rfl ?_
  refine AK.nextT (b:=27) (m:=610) rfl rfl rfl (QN hC.n rfl) rfl rfl rfl rfl ?_ ?_
  ·intro hleft
   refine tg_ hC [.n 7,.K [6] [14]] rfl ?_
   exact AK.done (Or.inl (an_ hleft (an_ (fun h=>(by cases h)) (an_ rfl rfl))))
  intro P c w t
  obtain⟨o,h⟩:=hex _ t
  have ho:=h
  replace h:QgD a c w=some o:=h
  refine Qa hC [.n 10,.x (fun σ=>σ.put 30 (.tup [.I c,.I w])),.n 9,.o (.any (.I ((Qv a c).getD 0)) none),.n 2,.x (fun σ=>σ.set 14 (.map (QA V.I V.I (Qag ltI a c (w64 (((Qv a c).getD 0)-w)))))),.n 2,.K [6,27] [14,27,610]] rfl ⟨⟨⟨tt_,(Stp.entryT (b:=27) (m:=610) rfl rfl (QN hC.n rfl) rfl t rfl rfl)⟩,(fun σ S X _=>Stp.lookup (e:=V.I) (f:=V.I) (l:=a) (k:=c) (z:=0) rfl rfl (QN hC.n rfl) (S _ _ rfl) (X _ _ rfl) (S _ _ rfl) QeN Qdh Qk9 rfl)⟩,(Stp.mapUpdate (e:=V.I) (f:=V.I) (l:=a) (k:=c) (v:=(w64 (((Qv a c).getD 0)-w))) ltI rfl rfl rfl rfl rfl rfl QeN Qdh rfl)⟩ ?_
  cases h
  exact AK.done (Or.inr (ex_ _ (an_ t (Or.inl (ex_ _ (an_ ho (an_ rfl (ex_ _ rfl))))))))
 rcases L with(a | q)
 ·replace h:Qoa a=some r:=h
  rintro e σ ⟨rfl,rfl⟩
  obtain⟨B,H,h⟩:=Qb h
  refine Qa hC [.n 5,.cm (.fn) [(617,14)] [(39,600),(14,617)] [] [.d] [(600,.arr 2 (B.map QI)),(617,.map (QA V.I V.I a))] (.own 600 B.length),.n 5,.frz 39 (B.map QI) [4] []] rfl ⟨⟨tt_,(Qjc _ H)⟩,⟨tt_,(QbQ Qf)⟩⟩ ?_
  cases h
  exact d2_ rfl rfl rfl tt_
 exact q.elim
def Qet (f:QMk)(g:QMk)(c:Int)(a:QMk):Option ((Int×QMk)⊕(Int⊕QMk)):=
 bif (decide (c<((List.replicate (min2 (f.length:Int) (g.length:Int)).toNat (([]:QBg):QBg)).length:Int)))then
 (idx f c).bind fun d=>
 (idx g c).bind fun e=>
 (Qb2 d e).bind fun b=>
 (idx a c).bind fun h=>
 bif (b.2 != 0)then
 some (.inr (.inl b.2))
 else
 some (.inl ((w64 (c+1)),(a.set c.toNat b.1)))
 else
 some (.inr (.inr a))
def QpE (a:Int):Option (QMk×Int):=
 some (([]:List QBg),a)
def QpF (a:QMk):Option (QMk×Int):=
 some (a,0)
def Qfh (a:QMk)(b:QMk):Option (QMk×Int):=
 (chk (decide (0≤(min2 (a.length:Int) (b.length:Int)))&&decide ((min2 (a.length:Int) (b.length:Int))≤(min2 (a.length:Int) (b.length:Int)))&&decide ((min2 (a.length:Int) (b.length:Int))≤4294967296))).bind fun _=>
 (QJ (fun st=>Qet a b st.1 st.2) (0,(List.replicate (min2 (a.length:Int) (b.length:Int)).toNat (([]:QBg):QBg)))).bind (Sum.elim (fun q=>QpE q) (fun q=>QpF q))
theorem QvE (k l){r}(h:Qfh k l=some r):Qc prog 60 [.sl 1 (k.map Qi),.sl 1 (l.map Qi),.clo (.func 61) [] []] [] (Gives (.tup [.sl 1 (r.1.map Qi),.I r.2]) []):=by
 refine Qc.walk 43 func60 rfl rfl rfl fun C hC=>?_
 obtain⟨A,h⟩:=QaW h
 refine Qa hC [.n 9,.o (.ln k.length),.n 1,.o (.ln l.length),.n 1,.o (.rows (List.replicate (min2 (k.length:Int) (l.length:Int)).toNat [.lit (.slice none 0 0)]))] rfl ⟨⟨⟨tt_,Qf⟩,Qf⟩,⟨A,rfl⟩⟩ ?_
 refine AK.denilA (b:=16) [some 2] rfl (QyY (f:=Qi) (x:=([]:QBg)) rfl) ?_
 refine Qa hC [.S 16 (.own 16 (List.replicate (min2 (k.length:Int) (l.length:Int)).toNat (([]:QBg):QBg)).length),.n 12,.K [0,1,2,8,18,19] [16]] rfl ⟨tt_,(by simp)⟩ ?_
 obtain⟨B,t,h⟩:=Qb h
 refine AK.loop (body:=(fun st=>Qet k l st.1 st.2)) (fun st σ=>σ=⟨[(0,.sl 1 (k.map Qi)),(1,.sl 1 (l.map Qi)),(2,.clo (.func 61) [] []),(8,.own 16 st.2.length),(18,.I ((List.replicate (min2 (k.length:Int) (l.length:Int)).toNat (([]:QBg):QBg)).length:Int)),(19,.I st.1)],[(16,.arr 1 (st.2.map Qi))]⟩) (Sum.elim (fun q e σ=>e=.ret∧σ=⟨[(6,.lit (.slice none 0 0)),(7,.I q)],[]⟩) (fun q e σ=>e=.exit 0∧σ=⟨[(8,.own 16 q.length)],[(16,.arr 1 (q.map Qi))]⟩)) t rfl ?_ ?_
 ·rintro ⟨J,u⟩ o σ rfl h
  refine tg_ hC [.n 6] rfl ?_
  rcases Qt h with⟨g,h⟩|⟨g,h⟩
  ·obtain⟨D,v,h⟩:=Qb h
   obtain⟨E,w,h⟩:=Qb h
   obtain⟨j,y,h⟩:=Qb h
   obtain⟨G,p,h⟩:=Qb h
   refine Qa hC [.T,.n 16,.K [0,1,2,8,9,10,18,19] [16]] rfl ⟨tt_,g⟩ ?_
   refine AK.draw2 Qs hC mixed [.N,.N,.N,.N,.N,.a (.row (Qi D)) none false,.N,.N,.N,.a (.row (Qi E)) none false,.N,.a (.c false [.d,.d] (.tup [.sl 2 (j.1.map QI),.I j.2])) none false,.a .no none true true,.N,.a .no none true,.N,.m (.st (Qi G) ((u.set J.toNat j.1).map Qi)),.m .s] [0,1,2,8,9,10,18,19] [] [0,1,2,8,10,18,19] [16] rfl rfl rfl ⟨⟨⟨⟨⟨tt_,(QT v)⟩,(QT w)⟩,(Qyd _ _ y)⟩,(Qda p rfl)⟩,⟨(QbX (QdK p).2),Qmp rfl⟩⟩ rfl (by kernel_rfl) rfl rfl rfl ?_
   refine tg_ hC [.n 7] rfl ?_
   refine bg_ h (fun i h=>Qa hC [.T,.n 10,.K [6,7] []] rfl ⟨tt_,i⟩ ?_) fun i h=>Qa hC [.F,.n 7,.S 8 (.own 16 (u.set J.toNat j.1).length),.K [0,1,2,8,18,19] [16]] rfl ⟨⟨tt_,i⟩,(congrArg (fun n=>V.own 16 n) (by simp))⟩ ?_
   ·cases h
    exact Qav rfl (an_ rfl rfl)
   cases h
   exact Q6 rfl rfl
  refine Qa hC [.F,.n 2,.K [8] [16]] rfl ⟨tt_,g⟩ ?_
  cases h
  exact Q8 rfl (an_ rfl rfl)
 rcases B with(H | z)
 ·replace h:QpE H=some r:=h
  rintro e σ ⟨rfl,rfl⟩
  refine tg_ hC [.n 2,.denil 6 [some 1]] rfl ?_
  cases h
  exact d2_ rfl rfl rfl tt_
 replace h:QpF z=some r:=h
 rintro e σ ⟨rfl,rfl⟩
 refine Qa hC [.n 10,.frz 16 (z.map Qi) [6] []] rfl ⟨tt_,⟨tt_,(QbQ Qf)⟩⟩ ?_
 cases h
 exact d2_ rfl rfl rfl tt_
def Qg7 (c:Qj)(d:QMk)(e:Qm):Option (QMk×Int):=
 (QcG c d e).bind fun f=>
 bif (f != 0)then
 some (([]:List QBg),f)
 else
 (Qkf c e).bind fun a=>
 bif (a.2 != 0)then
 some (([]:List QBg),a.2)
 else
 (Qfh d a.1).bind fun b=>
 some (b.1,b.2)
theorem Qxq (j m k){r}(h:Qg7 j m k=some r):Qc prog 32 [.agg (Qd j),.sl 1 (m.map Qi),.agg (Qk k)] [] (Gives (.tup [.sl 1 (r.1.map Qi),.I r.2]) []):=by
 refine Qc.walk 32 func32 rfl rfl rfl fun C hC=>?_
 obtain⟨p,l,h⟩:=Qb h
 refine Qa hC [.n 11,.v .no [] (.agg (Qd j)),.n 1,.v .no [] (.agg (Qk k)),.o (.c false [.d,.d,.d] (.I p)),.n 9] rfl ⟨⟨⟨tt_,rfl⟩,rfl⟩,(QqE _ _ _ l)⟩ ?_
 rcases Qt h with⟨b,h⟩|⟨b,h⟩
 ·refine Qa hC [.T,.n 9,.denil 6 [some 1]] rfl ⟨tt_,b⟩ ?_
  cases h
  exact d2_ rfl rfl rfl tt_
 obtain⟨e,f,h⟩:=Qb h
 refine Qa hC [.F,.n 4,.v .no [] (.agg (Qd j)),.v .no [] (.agg (Qk k)),.o (.c false [.d,.d] (.tup [.sl 1 (e.1.map Qi),.I e.2])),.n 14] rfl ⟨⟨⟨⟨tt_,b⟩,rfl⟩,rfl⟩,(Qww _ _ f)⟩ ?_
 rcases Qt h with⟨a,h⟩|⟨a,h⟩
 ·refine Qa hC [.T,.n 9,.denil 6 [some 1]] rfl ⟨tt_,a⟩ ?_
  cases h
  exact d2_ rfl rfl rfl tt_
 obtain⟨g,i,h⟩:=Qb h
 refine Qa hC [.F,.n 6,.cm (.fn) [] [] [] [.d,.d,.d] [] (.tup [.sl 1 (g.1.map Qi),.I g.2]),.n 7] rfl ⟨⟨tt_,a⟩,(QvE _ _ i)⟩ ?_
 cases h
 exact d2_ rfl rfl rfl tt_
def QmP (c:Qj)(b:Qm):Option (QMk×Int):=
 (Qfy c b.Task b.Vars).bind fun d=>
 bif (d.2 != 0)then
 some (([]:List QBg),d.2)
 else
 (idx c.Tasks b.Task).bind fun e=>
 (Qd3 c e.Outs b.Outs d.1).bind fun a=>
 some (a.1,a.2)
theorem Qwx (g k){r}(h:QmP g k=some r):Qc prog 62 [.agg (Qd g),.agg (Qk k)] [] (Gives (.tup [.sl 1 (r.1.map Qi),.I r.2]) []):=by
 refine Qc.walk 34 func62 rfl rfl rfl fun C hC=>?_
 obtain⟨l,i,h⟩:=Qb h
 refine Qa hC [.n 10,.v .no [] (.agg (Qd g)),.n 4,.o (.c false [.d,.d,.d] (.tup [.sl 1 (l.1.map Qe),.I l.2])),.n 14] rfl ⟨⟨tt_,rfl⟩,(Qn8 _ _ _ i)⟩ ?_
 rcases Qt h with⟨b,h⟩|⟨b,h⟩
 ·refine Qa hC [.T,.n 9,.denil 4 [some 1]] rfl ⟨tt_,b⟩ ?_
  cases h
  exact d2_ rfl rfl rfl tt_
 obtain⟨p,j,h⟩:=Qb h
 obtain⟨e,f,h⟩:=Qb h
 refine Qa hC [.F,.n 3,.K [2,3,4,5,6] [2,3]] rfl ⟨tt_,b⟩ ?_
 refine AK.draw2 Qs hC mixed [.a .no (some ([],.agg (Qd g))) false,.N,.N,.N,.N,.a (.row (Qh p)) none false,.N,.N,.N,.N,.N,.a (.c false [.d,.d,.d,.d] (.tup [.sl 1 (e.1.map Qi),.I e.2])) none false,.N,.N,.m .s,.m .s] [] [] [4,5] [] rfl rfl rfl ⟨⟨⟨tt_,rfl⟩,(QT j)⟩,(Qf4 _ _ _ _ f)⟩ rfl (by kernel_rfl) rfl rfl rfl ?_
 refine tg_ hC [.n 2] rfl ?_
 cases h
 exact d2_ rfl rfl rfl tt_
def Qc3 (f:QMk)(g:QMk)(c:Int)(a:QMk):Option ((Int×QMk)⊕(Int⊕QMk)):=
 bif (decide (c<((List.replicate (min2 (f.length:Int) (g.length:Int)).toNat (([]:QBg):QBg)).length:Int)))then
 (idx f c).bind fun d=>
 (idx g c).bind fun e=>
 (QbF d e).bind fun b=>
 (idx a c).bind fun h=>
 bif (b.2 != 0)then
 some (.inr (.inl b.2))
 else
 some (.inl ((w64 (c+1)),(a.set c.toNat b.1)))
 else
 some (.inr (.inr a))
def Qm9 (a:Int):Option (QMk×Int):=
 some (([]:List QBg),a)
def Qna (a:QMk):Option (QMk×Int):=
 some (a,0)
def Qeu (a:QMk)(b:QMk):Option (QMk×Int):=
 (chk (decide (0≤(min2 (a.length:Int) (b.length:Int)))&&decide ((min2 (a.length:Int) (b.length:Int))≤(min2 (a.length:Int) (b.length:Int)))&&decide ((min2 (a.length:Int) (b.length:Int))≤4294967296))).bind fun _=>
 (QJ (fun st=>Qc3 a b st.1 st.2) (0,(List.replicate (min2 (a.length:Int) (b.length:Int)).toNat (([]:QBg):QBg)))).bind (Sum.elim (fun q=>Qm9 q) (fun q=>Qna q))
theorem Qtb (k l){r}(h:Qeu k l=some r):Qc prog 60 [.sl 1 (k.map Qi),.sl 1 (l.map Qi),.clo (.func 43) [] []] [] (Gives (.tup [.sl 1 (r.1.map Qi),.I r.2]) []):=by
 refine Qc.walk 43 func60 rfl rfl rfl fun C hC=>?_
 obtain⟨A,h⟩:=QaW h
 refine Qa hC [.n 9,.o (.ln k.length),.n 1,.o (.ln l.length),.n 1,.o (.rows (List.replicate (min2 (k.length:Int) (l.length:Int)).toNat [.lit (.slice none 0 0)]))] rfl ⟨⟨⟨tt_,Qf⟩,Qf⟩,⟨A,rfl⟩⟩ ?_
 refine AK.denilA (b:=16) [some 2] rfl (QyY (f:=Qi) (x:=([]:QBg)) rfl) ?_
 refine Qa hC [.S 16 (.own 16 (List.replicate (min2 (k.length:Int) (l.length:Int)).toNat (([]:QBg):QBg)).length),.n 12,.K [0,1,2,8,18,19] [16]] rfl ⟨tt_,(by simp)⟩ ?_
 obtain⟨B,t,h⟩:=Qb h
 refine AK.loop (body:=(fun st=>Qc3 k l st.1 st.2)) (fun st σ=>σ=⟨[(0,.sl 1 (k.map Qi)),(1,.sl 1 (l.map Qi)),(2,.clo (.func 43) [] []),(8,.own 16 st.2.length),(18,.I ((List.replicate (min2 (k.length:Int) (l.length:Int)).toNat (([]:QBg):QBg)).length:Int)),(19,.I st.1)],[(16,.arr 1 (st.2.map Qi))]⟩) (Sum.elim (fun q e σ=>e=.ret∧σ=⟨[(6,.lit (.slice none 0 0)),(7,.I q)],[]⟩) (fun q e σ=>e=.exit 0∧σ=⟨[(8,.own 16 q.length)],[(16,.arr 1 (q.map Qi))]⟩)) t rfl ?_ ?_
 ·rintro ⟨J,u⟩ o σ rfl h
  refine tg_ hC [.n 6] rfl ?_
  rcases Qt h with⟨g,h⟩|⟨g,h⟩
  ·obtain⟨D,v,h⟩:=Qb h
   obtain⟨E,w,h⟩:=Qb h
   obtain⟨j,y,h⟩:=Qb h
   obtain⟨G,p,h⟩:=Qb h
   refine Qa hC [.T,.n 16,.K [0,1,2,8,9,10,18,19] [16]] rfl ⟨tt_,g⟩ ?_
   refine AK.draw2 Qs hC mixed [.N,.N,.N,.N,.N,.a (.row (Qi D)) none false,.N,.N,.N,.a (.row (Qi E)) none false,.N,.a (.c false [.d,.d] (.tup [.sl 2 (j.1.map QI),.I j.2])) none false,.a .no none true true,.N,.a .no none true,.N,.m (.st (Qi G) ((u.set J.toNat j.1).map Qi)),.m .s] [0,1,2,8,9,10,18,19] [] [0,1,2,8,10,18,19] [16] rfl rfl rfl ⟨⟨⟨⟨⟨tt_,(QT v)⟩,(QT w)⟩,(Qpl _ _ y)⟩,(Qda p rfl)⟩,⟨(QbX (QdK p).2),Qmp rfl⟩⟩ rfl (by kernel_rfl) rfl rfl rfl ?_
   refine tg_ hC [.n 7] rfl ?_
   refine bg_ h (fun i h=>Qa hC [.T,.n 10,.K [6,7] []] rfl ⟨tt_,i⟩ ?_) fun i h=>Qa hC [.F,.n 7,.S 8 (.own 16 (u.set J.toNat j.1).length),.K [0,1,2,8,18,19] [16]] rfl ⟨⟨tt_,i⟩,(congrArg (fun n=>V.own 16 n) (by simp))⟩ ?_
   ·cases h
    exact Qav rfl (an_ rfl rfl)
   cases h
   exact Q6 rfl rfl
  refine Qa hC [.F,.n 2,.K [8] [16]] rfl ⟨tt_,g⟩ ?_
  cases h
  exact Q8 rfl (an_ rfl rfl)
 rcases B with(H | z)
 ·replace h:Qm9 H=some r:=h
  rintro e σ ⟨rfl,rfl⟩
  refine tg_ hC [.n 2,.denil 6 [some 1]] rfl ?_
  cases h
  exact d2_ rfl rfl rfl tt_
 replace h:Qna z=some r:=h
 rintro e σ ⟨rfl,rfl⟩
 refine Qa hC [.n 10,.frz 16 (z.map Qi) [6] []] rfl ⟨tt_,⟨tt_,(QbQ Qf)⟩⟩ ?_
 cases h
 exact d2_ rfl rfl rfl tt_
def Qev (a:Int)(b:QMk):Option ((Int×QMk)⊕QMk):=
 some (.inl ((w64 (a+1)),b))
def QfR (d:QC)(b:Int)(a:QMk):Option ((Int×QMk)⊕QMk):=
 bif (decide (b<(d.Cancel.length:Int)))then
 (idx d.Cancel b).bind fun c=>
 bif ((decide (0≤c))&&(decide (c<(a.length:Int))))then
 (idx a c).bind fun e=>
 Qev b (a.set c.toNat ([]:List (Int×Int)))
 else
 Qev b a
 else
 some (.inr a)
def QfS (c:(QMk×Int))(b:QMk):Option (QMk×Int):=
 (Qeu b c.1).bind fun a=>
 some (a.1,a.2)
def Qg8 (d:Qj)(f:QMk)(e:Qm):Option (QMk×Int):=
 (QmP d e).bind fun a=>
 bif (a.2 != 0)then
 some (([]:List QBg),a.2)
 else
 (Qg5 f).bind fun b=>
 (idx d.Tasks e.Task).bind fun c=>
 (QJ (fun st=>QfR c st.1 st.2) (0,b)).bind (fun q=>QfS a q)
theorem Qxr (G M H){r}(h:Qg8 G M H=some r):Qc prog 33 [.agg (Qd G),.sl 1 (M.map Qi),.agg (Qk H)] [] (Gives (.tup [.sl 1 (r.1.map Qi),.I r.2]) []):=by
 refine Qc.walk 53 func33 rfl rfl rfl fun C hC=>?_
 obtain⟨p,J,h⟩:=Qb h
 refine Qa hC [.n 10,.v .no [] (.agg (Qd G)),.v .no [] (.agg (Qk H)),.o (.c false [.d,.d] (.tup [.sl 1 (p.1.map Qi),.I p.2])),.n 14] rfl ⟨⟨⟨tt_,rfl⟩,rfl⟩,(Qwx _ _ J)⟩ ?_
 rcases Qt h with⟨s,h⟩|⟨s,h⟩
 ·refine Qa hC [.T,.n 9,.denil 6 [some 1]] rfl ⟨tt_,s⟩ ?_
  cases h
  exact d2_ rfl rfl rfl tt_
 obtain⟨u,w,h⟩:=Qb h
 obtain⟨f,y,h⟩:=Qb h
 refine Qa hC [.F,.n 5,.o (.co false [.d] 1 (u.map Qi) u.length),.n 10,.o (.row (Qh f)),.n 2,.o (.ln f.Cancel.length),.n 4,.K [8,10,30,31,32] [23]] rfl ⟨⟨⟨⟨tt_,s⟩,⟨(QkC _ w),Qf,.inl rfl⟩⟩,(QT y)⟩,Qf⟩ ?_
 obtain⟨z,A,h⟩:=Qb h
 refine AK.loop (body:=(fun st=>QfR f st.1 st.2)) (fun st σ=>σ=⟨[(8,.sl 1 (p.1.map Qi)),(10,.own 23 st.2.length),(30,.sl 1 (f.Cancel.map Qe)),(31,.I (f.Cancel.length:Int)),(32,.I st.1)],[(23,.arr 1 (st.2.map Qi))]⟩) (fun q e σ=>e=.exit 0∧σ=⟨[(8,.sl 1 (p.1.map Qi)),(10,.own 23 q.length)],[(23,.arr 1 (q.map Qi))]⟩) A rfl ?_ ?_
 ·rintro ⟨t,i⟩ o σ rfl h
  refine tg_ hC [.n 6] rfl ?_
  refine bg_ h (fun j h=>Qa hC [.T,.n 2] rfl ⟨tt_,j⟩ ?_) fun j h=>Qa hC [.F,.n 2,.K [8,10] [23]] rfl ⟨tt_,j⟩ ?_
  ·refine AK.meet (fun σ=>∃l:QMk,σ=⟨[(8,.sl 1 (p.1.map Qi)),(10,.own 23 l.length),(30,.sl 1 (f.Cancel.map Qe)),(31,.I (f.Cancel.length:Int)),(32,.I t)],[(23,.arr 1 (l.map Qi))]⟩∧Qev t l=some o) ?_ ?_
   ·obtain⟨a,B,h⟩:=Qb h
    refine Qa hC [.n 3,.o (.row (Qe a)),.n 5] rfl ⟨tt_,(QT B)⟩ ?_
    refine AK.meetX (fun σ=>σ=⟨[(8,.sl 1 (p.1.map Qi)),(10,.own 23 i.length),(12,.I a),(30,.sl 1 (f.Cancel.map Qe)),(31,.I (f.Cancel.length:Int)),(32,.I t),(43,.b ((decide (0≤a))&&(decide (a<(i.length:Int)))))],[(23,.arr 1 (i.map Qi))]⟩) ?_ ?_
    ·refine tg_ hC [.n 4] rfl ?_
     rcases Q7 (decide (0≤a))with g | g
     ·refine Qa hC [.S 38 (.b true),.n 6,.S 43 (.b ((decide (0≤a))&&(decide (a<(i.length:Int))))),.K [8,10,12,30,31,32,43] [23]] rfl ⟨(tc_ g),(congrArg V.b (Qb8 g rfl))⟩ ?_
      exact AK.met rfl
     refine Qa hC [.S 38 (.b false),.n 6,.S 43 (.b ((decide (0≤a))&&(decide (a<(i.length:Int))))),.K [8,10,12,30,31,32,43] [23]] rfl ⟨(tc_ g),(congrArg V.b (Qd6 g rfl))⟩ ?_
     exact AK.met rfl
    rintro σ rfl
    refine tg_ hC [.n 1] rfl ?_
    rcases Qt h with⟨k,h⟩|⟨k,h⟩
    ·obtain⟨L,m,h⟩:=Qb h
     refine Qa hC [.T,.n 4,.x (fun σ=>σ.set 23 (.arr 1 ((i.set a.toNat ([]:List (Int×Int))).map Qi))),.n 2,.S 10 (.own 23 (i.set a.toNat ([]:List (Int×Int))).length),.K [8,10,30,31,32] [23]] rfl ⟨⟨⟨⟨tt_,k⟩,(Qda m rfl)⟩,(Stp.storeNil (zz:=2) (r:=Qi L) rfl rfl rfl rfl (QbX (QdK m).2) rfl (Qs.sz rfl) rfl (Qmp rfl))⟩,(congrArg (fun n=>V.own 23 n) (by simp))⟩ ?_
     exact AK.met (ex_ _ (an_ rfl h))
    refine Qa hC [.F,.n 2,.K [8,10,30,31,32] [23]] rfl ⟨tt_,k⟩ ?_
    exact AK.met (ex_ _ (an_ rfl h))
   rintro σ ⟨l,rfl,h⟩
   refine tg_ hC [.n 4,.K [8,10,30,31,32] [23]] rfl ?_
   cases h
   exact Q6 rfl rfl
  cases h
  exact Q8 rfl (an_ rfl rfl)
 replace h:QfS p z=some r:=h
 rintro e σ ⟨rfl,rfl⟩
 obtain⟨D,E,h⟩:=Qb h
 refine Qa hC [.n 6,.frz 23 (z.map Qi) [10,48] [],.cm (.fn) [] [] [] [.d,.d,.d] [] (.tup [.sl 1 (D.1.map Qi),.I D.2]),.n 7] rfl ⟨⟨tt_,⟨⟨tt_,(QbQ Qf)⟩,(QbQ Qf)⟩⟩,(Qtb _ _ E)⟩ ?_
 cases h
 exact d2_ rfl rfl rfl tt_
def Qas (c:Qj)(e:QMk)(d:Qm):Option (QMk×Int):=
 (Qg7 c e d).bind fun b=>
 bif (b.2 != 0)then
 some (([]:List QBg),b.2)
 else
 (Qg8 c b.1 d).bind fun a=>
 some (a.1,a.2)
theorem QpG (f j g){r}(h:Qas f j g=some r):Qc prog 13 [.agg (Qd f),.sl 1 (j.map Qi),.agg (Qk g)] [] (Gives (.tup [.sl 1 (r.1.map Qi),.I r.2]) []):=by
 refine Qc.walk 26 func13 rfl rfl rfl fun C hC=>?_
 obtain⟨k,i,h⟩:=Qb h
 refine Qa hC [.n 10,.v .no [] (.agg (Qd f)),.n 1,.v .no [] (.agg (Qk g)),.o (.c false [.d,.d,.d] (.tup [.sl 1 (k.1.map Qi),.I k.2])),.n 14] rfl ⟨⟨⟨tt_,rfl⟩,rfl⟩,(Qxq _ _ _ i)⟩ ?_
 rcases Qt h with⟨a,h⟩|⟨a,h⟩
 ·refine Qa hC [.T,.n 9,.denil 6 [some 1]] rfl ⟨tt_,a⟩ ?_
  cases h
  exact d2_ rfl rfl rfl tt_
 obtain⟨b,e,h⟩:=Qb h
 refine Qa hC [.F,.n 4,.v .no [] (.agg (Qd f)),.n 1,.v .no [] (.agg (Qk g)),.o (.c false [.d,.d,.d] (.tup [.sl 1 (b.1.map Qi),.I b.2])),.n 7] rfl ⟨⟨⟨⟨tt_,a⟩,rfl⟩,rfl⟩,(Qxr _ _ _ e)⟩ ?_
 cases h
 exact d2_ rfl rfl rfl tt_
def QdZ (a:Int)(b:QSB)(c:(List QMk)):Option ((Int×QSB×(List QMk))⊕((List QMk)⊕(QSB×(List QMk)))):=
 some (.inl ((w64 (a+1)),b,c))
def Qlf (a:(QMk×Int))(b:QSB):Option Bool:=
 bif (a.2 != 0)then
 some true
 else
 (QhT a.1).bind fun c=>
 some ((Qv b c).getD false)
def Qfm (d:Int)(e:QSB)(a:(List QMk))(b:Int)(c:(QMk×Int))(f:Bool):Option ((Int×QSB×(List QMk))⊕((List QMk)⊕(QSB×(List QMk)))):=
 bif f then
 QdZ d e a
 else
 bif ((a.length:Int)==(min2 (max2 0 b) 4096))then
 some (.inr (.inl a))
 else
 (QhT c.1).bind fun g=>
 (chk (decide (a.length+([c.1]:List QMk).length≤4294967296))).bind fun _=>
 QdZ d (Qag ltS e g true) (a++([c.1]:List QMk))
def Qfn (f:(List Qm))(a:Int)(at_13:Int)(k:Qj)(b:Int)(c:Int)(d:QSB)(e:(List QMk)):Option ((Int×QSB×(List QMk))⊕((List QMk)⊕(QSB×(List QMk)))):=
 bif (decide (c<(f.length:Int)))then
 (idx f c).bind fun g=>
 bif (g.Task==a)then
 QdZ c d e
 else
 (idx e at_13).bind fun i=>
 (Qas k i g).bind fun h=>
 (Qlf h d).bind (fun j=>Qfm c d e b h j)
 else
 some (.inr (.inr (d,e)))
def Qht (a:(List QMk)):Option ((Int×QSB×(List QMk))⊕((List QMk)⊕(List QMk))):=
 some (.inr (.inl a))
def Qhu (at_13:Int)(a:QSB)(b:(List QMk)):Option ((Int×QSB×(List QMk))⊕((List QMk)⊕(List QMk))):=
 some (.inl ((w64 (at_13+1)),a,b))
def Qfo (g:Qj)(a:Int)(b:Int)(at_13:Int)(d:QSB)(c:(List QMk)):Option ((Int×QSB×(List QMk))⊕((List QMk)⊕(List QMk))):=
 bif (decide (at_13<(c.length:Int)))then
 (idx c at_13).bind fun e=>
 (QkH g e 9223372036854775807).bind fun f=>
 (QJ (fun st=>Qfn f a at_13 g b st.1 st.2.1 st.2.2) (0,d,c)).bind (Sum.elim (fun q=>Qht q) (fun q=>Qhu at_13 q.1 q.2))
 else
 some (.inr (.inr c))
def Qoy (a:(List QMk)):Option ((List QMk)×Bool):=
 some (a,false)
def Qoz (a:(List QMk)):Option ((List QMk)×Bool):=
 some (a,true)
def QkI (f:Qj)(e:QMk)(b:Int)(a:Int):Option ((List QMk)×Bool):=
 bif ((min2 (max2 0 a) 4096)==0)then
 some (([]:List QMk),false)
 else
 (QhT e).bind fun c=>
 (Qg5 e).bind fun d=>
 (QJ (fun st=>Qfo f b a st.1 st.2.1 st.2.2) (0,(Qag ltS ([]:QSB) c true),([d]:List QMk))).bind (Sum.elim (fun q=>Qoy q) (fun q=>Qoz q))
theorem QuS (u m2 i g){r}(h:QkI u m2 i g=some r):Qc prog 104 [.agg (Qd u),.sl 1 (m2.map Qi),.I i,.I g] [] (Gives (.tup [.sl 1 (r.1.map Qu),.b r.2]) []):=by
 refine Qc.walk 83 func104 rfl rfl rfl fun C hC=>?_
 refine tg_ hC [.n 22] rfl ?_
 rcases Qt h with⟨W,h⟩|⟨W,h⟩
 ·refine Qa hC [.T,.n 8,.denil 8 [some 1]] rfl ⟨tt_,W⟩ ?_
  cases h
  exact d2_ rfl rfl rfl tt_
 obtain⟨X,a2,h⟩:=Qb h
 obtain⟨w,a3,h⟩:=Qb h
 refine Qa hC [.F,.n 5,.O 23 (.map (QA V.s V.b ([]:QSB))),.n 1,.o (.c false [.d] (.s X)),.x (fun σ=>σ.set 23 (.map (QA V.s V.b (Qag ltS ([]:QSB) X true)))),.n 7,.o (.co false [.d] 1 (w.map Qi) w.length),.frz 28 (w.map Qi) [28] [],.n 1,.O 29 (.arr 1 (([w]:List QMk).map Qu)),.S 29 (.own 29 ([w]:List QMk).length),.n 10,.K [2,4,10,11,12,13] [4,23,29]] rfl ⟨⟨⟨⟨⟨⟨⟨⟨tt_,W⟩,rfl⟩,(QmO _ a2)⟩,(Stp.insert (e:=V.s) (f:=V.b) (l:=([]:QSB)) (k:=X) (v:=true) ltS rfl rfl rfl rfl rfl rfl Qpi Qsy rfl)⟩,⟨(QkC _ a3),Qf,.inl rfl⟩⟩,⟨tt_,(QbQ Qf)⟩⟩,rfl⟩,rfl⟩ ?_
 obtain⟨b4,a4,h⟩:=Qb h
 refine AK.loop (body:=(fun st=>Qfo u i g st.1 st.2.1 st.2.2)) (fun st σ=>σ=⟨[(2,.I i),(4,.loc 4 0 0),(10,.I (min2 (max2 0 g) 4096)),(11,.map 23),(12,.own 29 st.2.2.length),(13,.I st.1)],[(4,.var (Qd u)),(23,.map (QA V.s V.b st.2.1)),(29,.arr 1 (st.2.2.map Qu))]⟩) (Sum.elim (fun q e σ=>e=.ret∧σ=⟨[(8,.own 29 q.length),(9,.b false)],[(29,.arr 1 (q.map Qu))]⟩) (fun q e σ=>e=.exit 0∧σ=⟨[(12,.own 29 q.length)],[(29,.arr 1 (q.map Qu))]⟩)) a4 rfl ?_ ?_
 ·rintro ⟨at_13,c1,c2⟩ o σ rfl h
  refine tg_ hC [.n 9] rfl ?_
  rcases Qt h with⟨y,h⟩|⟨y,h⟩
  ·obtain⟨b5,M,h⟩:=Qb h
   obtain⟨j,a5,h⟩:=Qb h
   refine Qa hC [.T,.n 5,.K [2,4,10,11,12,13] [4,23,29]] rfl ⟨tt_,y⟩ ?_
   refine AK.draw2 Qs hC mixed [.a .no (some ([],.agg (Qd u))) false,.N,.N,.N,.a (.row (Qu b5)) none false,.a (.co false [.d,.d,.d] 4 (j.map Qk) j.length) none false,.N,.N] [] [] [2,4,10,11,12,13,41,42,43] [4,23,29,41] rfl rfl rfl ⟨⟨⟨⟨tt_,rfl⟩,(Qda M rfl)⟩,(QbX (QdK M).2)⟩,⟨(Qs1 _ _ _ a5),Qf,.inl rfl⟩⟩ rfl (by kernel_rfl) rfl rfl rfl ?_
   refine tg_ hC [.n 2,.K [2,4,10,11,12,13,41,42,43] [4,23,29,41]] rfl ?_
   obtain⟨b6,a6,h⟩:=Qb h
   refine AK.loop (body:=(fun st=>Qfn j i at_13 u g st.1 st.2.1 st.2.2)) (fun st σ=>σ=⟨[(2,.I i),(4,.loc 4 0 0),(10,.I (min2 (max2 0 g) 4096)),(11,.map 23),(12,.own 29 st.2.2.length),(13,.I at_13),(41,.own 41 j.length),(42,.I (j.length:Int)),(43,.I st.1)],[(4,.var (Qd u)),(23,.map (QA V.s V.b st.2.1)),(29,.arr 1 (st.2.2.map Qu)),(41,.arr 4 (j.map Qk))]⟩) (Sum.elim (fun q e σ=>e=.ret∧σ=⟨[(8,.own 29 q.length),(9,.b false)],[(29,.arr 1 (q.map Qu))]⟩) (fun q e σ=>e=.exit 2∧σ=⟨[(2,.I i),(4,.loc 4 0 0),(10,.I (min2 (max2 0 g) 4096)),(11,.map 23),(12,.own 29 q.2.length),(13,.I at_13)],[(4,.var (Qd u)),(23,.map (QA V.s V.b q.1)),(29,.arr 1 (q.2.map Qu))]⟩)) a6 rfl ?_ ?_
   ·rintro ⟨A,p,t⟩ o σ rfl h
    refine tg_ hC [.n 6] rfl ?_
    refine bg_ h (fun B h=>Qa hC [.T,.n 2] rfl ⟨tt_,B⟩ ?_) fun B h=>Qa hC [.F,.n 2,.K [2,4,10,11,12,13] [4,23,29]] rfl ⟨tt_,B⟩ ?_
    ·refine AK.meet (fun σ=>∃Y:QSB,∃J:(List QMk),σ=⟨[(2,.I i),(4,.loc 4 0 0),(10,.I (min2 (max2 0 g) 4096)),(11,.map 23),(12,.own 29 J.length),(13,.I at_13),(41,.own 41 j.length),(42,.I (j.length:Int)),(43,.I A)],[(4,.var (Qd u)),(23,.map (QA V.s V.b Y)),(29,.arr 1 (J.map Qu)),(41,.arr 4 (j.map Qk))]⟩∧QdZ A Y J=some o) ?_ ?_
     ·obtain⟨L,P,h⟩:=Qb h
      refine Qa hC [.n 4,.v (.row (Qk L)) [] (.agg (Qk L)),.n 2,.O 15 (.var (Qk L)),.n 11] rfl ⟨⟨⟨⟨tt_,(Qda P rfl)⟩,(QbX (QdK P).2)⟩,rfl⟩,rfl⟩ ?_
      rcases Qt h with⟨D,h⟩|⟨D,h⟩
      ·refine Qa hC [.T,.n 3,.K [2,4,10,11,12,13,41,42,43] [4,23,29,41]] rfl ⟨tt_,D⟩ ?_
       exact AK.met (ex_ _ (ex_ _ (an_ rfl h)))
      obtain⟨b7,U,h⟩:=Qb h
      obtain⟨m,a7,h⟩:=Qb h
      refine Qa hC [.F,.n 3,.K [2,4,10,11,12,13,15,41,42,43] [4,15,23,29,41]] rfl ⟨tt_,D⟩ ?_
      refine AK.draw2 Qs hC mixed [.a .no (some ([],.agg (Qd u))) false,.N,.N,.N,.a (.row (Qu b7)) none false,.a .no (some ([],.agg (Qk L))) false,.a (.c false [.d,.d,.d] (.tup [.sl 1 (m.1.map Qi),.I m.2])) none false,.N,.N,.N,.N,.N] [] [] [2,4,10,11,12,13,16,17,41,42,43] [4,23,29,41] rfl rfl rfl ⟨⟨⟨⟨⟨tt_,rfl⟩,(Qda U rfl)⟩,(QbX (QdK U).2)⟩,rfl⟩,(QpG _ _ _ a7)⟩ rfl (by kernel_rfl) rfl rfl rfl ?_
      refine tg_ hC [.n 3] rfl ?_
      obtain⟨Z,a8,h⟩:=Qb h
      replace h:Qfm A p t g m Z=some o:=h
      refine AK.meetX (fun σ=>σ=⟨[(2,.I i),(4,.loc 4 0 0),(10,.I (min2 (max2 0 g) 4096)),(11,.map 23),(12,.own 29 t.length),(13,.I at_13),(16,.sl 1 (m.1.map Qi)),(41,.own 41 j.length),(42,.I (j.length:Int)),(43,.I A),(68,.b Z)],[(4,.var (Qd u)),(23,.map (QA V.s V.b p)),(29,.arr 1 (t.map Qu)),(41,.arr 4 (j.map Qk))]⟩) ?_ ?_
      ·replace h:=a8
       refine tg_ hC [.n 4] rfl ?_
       rcases Qt h with⟨E,h⟩|⟨E,h⟩
       ·refine Qa hC [.S 63 (.b true),.n 6,.K [2,4,10,11,12,13,16,41,42,43,68] [4,23,29,41]] rfl (tc_ E) ?_
        cases h
        exact AK.met rfl
       obtain⟨a0,a9,h⟩:=Qb h
       refine Qa hC [.S 63 (.b false),.n 2,.o (.c false [.d] (.s a0)),.o (.any (.b ((Qv p a0).getD false)) none),.n 2,.K [2,4,10,11,12,13,16,41,42,43,68] [4,23,29,41]] rfl ⟨⟨(tc_ E),(QmO _ a9)⟩,(fun σ h1 h2 _=>Stp.lookup (e:=V.s) (f:=V.b) (l:=p) (k:=a0) (z:=false) rfl rfl (QN hC.n rfl) (h1 _ _ rfl) (h2 _ _ rfl) (h1 _ _ rfl) Qpi Qsy QCI rfl)⟩ ?_
       cases h
       exact AK.met rfl
      rintro σ rfl
      replace h:Qfm A p t g m Z=some o:=h
      refine tg_ hC [.n 1] rfl ?_
      refine bg_ h (fun G h=>Qa hC [.T,.n 3,.K [2,4,10,11,12,13,41,42,43] [4,23,29,41]] rfl ⟨tt_,G⟩ ?_) fun G h=>Qa hC [.F,.n 11] rfl ⟨tt_,G⟩ ?_
      ·exact AK.met (ex_ _ (ex_ _ (an_ rfl h)))
      rcases Qt h with⟨H,h⟩|⟨H,h⟩
      ·refine Qa hC [.T,.n 11,.K [8,9] [29]] rfl ⟨tt_,H⟩ ?_
       cases h
       exact Qav rfl (an_ rfl rfl)
      obtain⟨a1,b0,h⟩:=Qb h
      obtain⟨b1,h⟩:=QaW h
      refine Qa hC [.F,.n 6,.o (.c false [.d] (.s a1)),.x (fun σ=>σ.set 23 (.map (QA V.s V.b (Qag ltS p a1 true)))),.n 5,.v (.bd []) [] (.sl 1 (([m.1]:List QMk).map Qu)),.app ((t++([m.1]:List QMk)).map Qu) (t++([m.1]:List QMk)).length,.n 3,.K [2,4,10,11,12,13,41,42,43] [4,23,29,41]] rfl ⟨⟨⟨⟨⟨tt_,H⟩,(QmO _ b0)⟩,(Stp.mapUpdate (e:=V.s) (f:=V.b) (l:=p) (k:=a1) (v:=true) ltS rfl rfl rfl rfl rfl rfl Qpi Qsy rfl)⟩,rfl⟩,⟨Qf,QbP b1 Qf,QaY,QcN Qf⟩⟩ ?_
      exact AK.met (ex_ _ (ex_ _ (an_ rfl h)))
     rintro σ ⟨Y,J,rfl,h⟩
     refine tg_ hC [.n 4,.K [2,4,10,11,12,13,41,42,43] [4,23,29,41]] rfl ?_
     cases h
     exact Q6 rfl rfl
    cases h
    exact Q8 rfl (an_ rfl rfl)
   rcases b6 with(b8 | ⟨b9,c0⟩)
   ·replace h:Qht b8=some o:=h
    rintro e σ ⟨rfl,rfl⟩
    refine tg_ hC [.n 3,.K [8,9] [29]] rfl ?_
    cases h
    exact Qav rfl (an_ rfl rfl)
   replace h:Qhu at_13 b9 c0=some o:=h
   rintro e σ ⟨rfl,rfl⟩
   refine tg_ hC [.n 8,.K [2,4,10,11,12,13] [4,23,29]] rfl ?_
   cases h
   exact Q6 rfl rfl
  refine Qa hC [.F,.n 2,.K [12] [29]] rfl ⟨tt_,y⟩ ?_
  cases h
  exact Q8 rfl (an_ rfl rfl)
 rcases b4 with(b2 | b3)
 ·replace h:Qoy b2=some r:=h
  rintro e σ ⟨rfl,rfl⟩
  refine Qa hC [.n 2,.frz 29 (b2.map Qu) [8] []] rfl ⟨tt_,⟨tt_,(QbQ Qf)⟩⟩ ?_
  cases h
  exact d2_ rfl rfl rfl tt_
 replace h:Qoz b3=some r:=h
 rintro e σ ⟨rfl,rfl⟩
 refine Qa hC [.n 10,.frz 29 (b3.map Qu) [8] []] rfl ⟨tt_,⟨tt_,(QbQ Qf)⟩⟩ ?_
 cases h
 exact d2_ rfl rfl rfl tt_
def Ql1 (a:Int)(b:QMk):Option Bool:=
 (idx b a).bind fun c=>
 some (decide (0<(c.length:Int)))
theorem Qtc (d a){r}(h:Ql1 d a=some r):Qc prog 106 [.I d,.loc 617 0 0] [(617,.var (Qu a))] (Gives (.b r) [(617,.var (Qu a))]):=by
 refine Qc.walk 10 func106 rfl rfl rfl fun C hC=>?_
 obtain⟨e,c,h⟩:=Qb h
 refine Qa hC [.n 9,.o (.row (Qi e)),.n 1,.o (.ln e.length),.n 5] rfl ⟨⟨tt_,(QT c)⟩,Qf⟩ ?_
 cases h
 exact d1_ rfl rfl ⟨rfl,tt_⟩
def Qa8 (c:(List Int))(d:QMk)(a:Int):Option (Int⊕(Int⊕Unit)):=
 bif (decide (a<(c.length:Int)))then
 (idx c a).bind fun e=>
 (Ql1 e d).bind fun b=>
 bif b then
 some (.inr (.inl a))
 else
 some (.inl (w64 (a+1)))
 else
 some (.inr (.inr ()))
def Qdk (a:Int):Option Int:=
 some a
def Qga : Option Int:=
 some (-1)
def Qd9 (a:(List Int))(b:QMk):Option Int:=
 (QJ (fun st=>Qa8 a b st) 0).bind (Sum.elim (fun q=>Qdk q) (fun q=>Qga))
theorem Ql2 (g c){r}(h:Qd9 g c=some r):Qc prog 47 [.sl 1 (g.map Qe),.clo (.func 106) [] [.loc 617 0 0]] [(617,.var (Qu c))] (Gives (.I r) [(617,.var (Qu c))]):=by
 refine Qc.walk 19 func47 rfl rfl rfl fun C hC=>?_
 refine Qa hC [.n 9,.o (.ln g.length),.n 4,.K [0,1,7,8] [617]] rfl ⟨tt_,Qf⟩ ?_
 obtain⟨k,i,h⟩:=Qb h
 refine AK.loop (body:=(fun st=>Qa8 g c st)) (fun st σ=>σ=⟨[(0,.sl 1 (g.map Qe)),(1,.clo (.func 106) [] [.loc 617 0 0]),(7,.I (g.length:Int)),(8,.I st)],[(617,.var (Qu c))]⟩) (Sum.elim (fun q e σ=>e=.ret∧σ=⟨[(4,.I q)],[(617,.var (Qu c))]⟩) (fun q e σ=>e=.exit 0∧σ=⟨[],[(617,.var (Qu c))]⟩)) i rfl ?_ ?_
 ·rintro t o σ rfl h
  refine tg_ hC [.n 6] rfl ?_
  rcases Qt h with⟨f,h⟩|⟨f,h⟩
  ·obtain⟨p,l,h⟩:=Qb h
   obtain⟨m,j,h⟩:=Qb h
   refine Qa hC [.T,.n 15,.o (.row (Qe p)),.n 1,.cm (.clo) [(617,617)] [(617,617)] [] [.d,.d] [(617,.var (Qu c))] (.b m),.n 2] rfl ⟨⟨⟨tt_,f⟩,(QT l)⟩,(Qtc _ _ j)⟩ ?_
   refine bg_ h (fun a h=>Qa hC [.T,.n 9,.K [4] [617]] rfl ⟨tt_,a⟩ ?_) fun a h=>Qa hC [.F,.n 7,.K [0,1,7,8] [617]] rfl ⟨tt_,a⟩ ?_
   ·cases h
    exact Qav rfl (an_ rfl rfl)
   cases h
   exact Q6 rfl rfl
  refine Qa hC [.F,.n 2,.K [] [617]] rfl ⟨tt_,f⟩ ?_
  cases h
  exact Q8 rfl (an_ rfl rfl)
 rcases k with(s | _)
 ·replace h:Qdk s=some r:=h
  rintro e σ ⟨rfl,rfl⟩
  refine tg_ hC [.n 2] rfl ?_
  cases h
  exact d1_ rfl rfl ⟨rfl,tt_⟩
 replace h:Qga=some r:=h
 rintro e σ ⟨rfl,rfl⟩
 refine tg_ hC [.n 8] rfl ?_
 cases h
 exact d1_ rfl rfl ⟨rfl,tt_⟩
def Qb3 (a:(List Int))(b:QMk):Option Bool:=
 (Qd9 a b).bind fun c=>
 some (decide (0≤c))
theorem QkJ (e a){r}(h:Qb3 e a=some r):Qc prog 105 [.sl 1 (e.map Qe),.clo (.func 106) [] [.loc 617 0 0]] [(617,.var (Qu a))] (Gives (.b r) [(617,.var (Qu a))]):=by
 refine Qc.walk 9 func105 rfl rfl rfl fun C hC=>?_
 obtain⟨f,c,h⟩:=Qb h
 refine Qa hC [.n 9,.cm (.fn) [(617,617)] [(617,617)] [] [.d,.d] [(617,.var (Qu a))] (.I f),.n 5] rfl ⟨tt_,(Ql2 _ _ c)⟩ ?_
 cases h
 exact d1_ rfl rfl ⟨rfl,tt_⟩
def Qfp (e:((List QMk)×Bool))(a:(List Int))(b:Int):Option (((List Int)×Int)⊕(Unit⊕Unit)):=
 bif (decide (b<(e.1.length:Int)))then
 (idx e.1 b).bind fun c=>
 (Qb3 a c).bind fun d=>
 bif d then
 some (.inr (.inl ()))
 else
 some (.inl (a,(w64 (b+1))))
 else
 some (.inr (.inr ()))
def QoA : Option Int:=
 some 0
def Qhv (a:((List QMk)×Bool)):Option Int:=
 bif (!a.2)then
 some 2
 else
 some 1
def QkK (c:Qj)(d:QMk)(a:Int)(b:Int):Option Int:=
 (Qes c d a).bind fun f=>
 (QkI c d a b).bind fun e=>
 (QJ (fun st=>Qfp e st.1 st.2) (f,0)).bind (Sum.elim (fun q=>QoA) (fun q=>Qhv e))
theorem QuT (u B f a){r}(h:QkK u B f a=some r):Qc prog 66 [.agg (Qd u),.sl 1 (B.map Qi),.I f,.I a] [] (Gives (.I r) []):=by
 refine Qc.walk 38 func66 rfl rfl rfl fun C hC=>?_
 obtain⟨w,x,h⟩:=Qb h
 obtain⟨k,y,h⟩:=Qb h
 refine Qa hC [.n 8,.v .no [] (.agg (Qd u)),.n 2,.o (.co false [.d,.d,.d] 1 (w.map Qe) w.length),.n 5,.v .no [] (.agg (Qd u)),.n 3,.o (.c false [.d,.d,.d,.d] (.tup [.sl 1 (k.1.map Qu),.b k.2])),.n 11,.o (.ln k.1.length),.n 4,.frz 17 (w.map Qe) [9] [],.K [9,11,26,27,28] []] rfl ⟨⟨⟨⟨⟨⟨tt_,rfl⟩,⟨(QuR _ _ _ x),Qf,.inl rfl⟩⟩,rfl⟩,(QuS _ _ _ _ y)⟩,Qf⟩,⟨tt_,(QbQ Qf)⟩⟩ ?_
 obtain⟨z,m,h⟩:=Qb h
 refine AK.loop (body:=(fun st=>Qfp k st.1 st.2)) (fun st σ=>σ=⟨[(9,.sl 1 (st.1.map Qe)),(11,.b k.2),(26,.sl 1 (k.1.map Qu)),(27,.I (k.1.length:Int)),(28,.I st.2)],[]⟩) (Sum.elim (fun q e σ=>e=.ret∧σ=⟨[(8,.I 0)],[]⟩) (fun q e σ=>e=.exit 0∧σ=⟨[(11,.b k.2)],[]⟩)) m rfl ?_ ?_
 ·rintro ⟨p,D⟩ o σ rfl h
  refine tg_ hC [.n 6] rfl ?_
  rcases Qt h with⟨g,h⟩|⟨g,h⟩
  ·obtain⟨l,s,h⟩:=Qb h
   obtain⟨A,t,h⟩:=Qb h
   refine Qa hC [.T,.n 6,.o (.row (Qu l)),.n 3,.O 13 (.var (Qu l)),.n 6,.cm (.fn) [(617,13)] [(13,617)] [] [.d,.d] [(617,.var (Qu l))] (.b A),.n 2] rfl ⟨⟨⟨⟨tt_,g⟩,(QT s)⟩,rfl⟩,(QkJ _ _ t)⟩ ?_
   refine bg_ h (fun i h=>Qa hC [.T,.n 8,.K [8] []] rfl ⟨tt_,i⟩ ?_) fun i h=>Qa hC [.F,.n 7,.K [9,11,26,27,28] []] rfl ⟨tt_,i⟩ ?_
   ·cases h
    exact Qav rfl (an_ rfl rfl)
   cases h
   exact Q6 rfl rfl
  refine Qa hC [.F,.n 2,.K [11] []] rfl ⟨tt_,g⟩ ?_
  cases h
  exact Q8 rfl (an_ rfl rfl)
 rcases z with(_ | _)
 ·replace h:QoA=some r:=h
  rintro e σ ⟨rfl,rfl⟩
  refine tg_ hC [.n 2] rfl ?_
  cases h
  exact d1_ rfl rfl tt_
 replace h:Qhv k=some r:=h
 rintro e σ ⟨rfl,rfl⟩
 refine tg_ hC [.n 9] rfl ?_
 refine bg_ h (fun j h=>Qa hC [.T,.n 7,.K [8] []] rfl ⟨tt_,j⟩ ?_) fun j h=>Qa hC [.F,.n 8,.K [8] []] rfl ⟨tt_,j⟩ ?_
 ·cases h
  exact d1_ rfl rfl tt_
 cases h
 exact d1_ rfl rfl tt_
def QkL (b:Qj)(e:QMk)(c:Qm)(a:Int):Option Int:=
 (QcG b e c).bind fun f=>
 bif (f != 0)then
 some 0
 else
 (idx b.Tasks c.Task).bind fun g=>
 bif (g.Join != 3)then
 some 1
 else
 (QkK b e c.Task a).bind fun d=>
 some d
theorem QuU (g m i a){r}(h:QkL g m i a=some r):Qc prog 37 [.agg (Qd g),.sl 1 (m.map Qi),.agg (Qk i),.I a] [] (Gives (.I r) []):=by
 refine Qc.walk 30 func37 rfl rfl rfl fun C hC=>?_
 obtain⟨p,j,h⟩:=Qb h
 refine Qa hC [.n 11,.v .no [] (.agg (Qd g)),.n 1,.v .no [] (.agg (Qk i)),.o (.c false [.d,.d,.d] (.I p)),.n 4] rfl ⟨⟨⟨tt_,rfl⟩,rfl⟩,(QqE _ _ _ j)⟩ ?_
 rcases Qt h with⟨e,h⟩|⟨e,h⟩
 ·refine Qa hC [.T,.n 8] rfl ⟨tt_,e⟩ ?_
  cases h
  exact d1_ rfl rfl tt_
 obtain⟨q,k,h⟩:=Qb h
 refine Qa hC [.F,.n 6,.o (.row (Qh q)),.n 6] rfl ⟨⟨tt_,e⟩,(QT k)⟩ ?_
 rcases Qt h with⟨b,h⟩|⟨b,h⟩
 ·refine Qa hC [.T,.n 8] rfl ⟨tt_,b⟩ ?_
  cases h
  exact d1_ rfl rfl tt_
 obtain⟨l,f,h⟩:=Qb h
 refine Qa hC [.F,.n 5,.v .no [] (.agg (Qd g)),.n 4,.o (.c false [.d,.d,.d,.d] (.I l)),.n 4] rfl ⟨⟨⟨tt_,b⟩,rfl⟩,(QuT _ _ _ _ f)⟩ ?_
 cases h
 exact d1_ rfl rfl tt_
def Qew (b:Int)(a:Bool)(c:(List Qm))(d:QBg):Option ((Bool×Int×(List Qm)×QBg)⊕(Bool×(List Qm))):=
 some (.inl (a,(w64 (b+1)),c,d))
def Qgb (c:Qm)(d:(List Qm))(e:Int)(a:Bool)(b:QBg):Option ((Bool×Int×(List Qm)×QBg)⊕(Bool×(List Qm))):=
 bif (((Qv b c.Task).getD 0)==1)then
 (chk (decide (d.length+([c]:List Qm).length≤4294967296))).bind fun _=>
 Qew e a (d++([c]:List Qm)) b
 else
 bif (((Qv b c.Task).getD 0)==2)then
 Qew e false d b
 else
 Qew e a d b
def Qiu (h:(List Qm))(i:Qj)(j:QMk)(b:Int)(a:Bool)(d:Int)(e:(List Qm))(f:QBg):Option ((Bool×Int×(List Qm)×QBg)⊕(Bool×(List Qm))):=
 bif (decide (d<(h.length:Int)))then
 (idx h d).bind fun c=>
 bif (!(Qv f c.Task).isSome)then
 (QkL i j c b).bind fun g=>
 Qgb c e d a (Qag ltI f c.Task g)
 else
 Qgb c e d a f
 else
 some (.inr (a,e))
def QpH (a:Bool)(b:(List Qm)):Option ((List Qm)×Bool):=
 some (b,a)
def QgE (c:Qj)(d:QMk)(a:Int)(b:Int):Option ((List Qm)×Bool):=
 (QkH c d b).bind fun e=>
 (QJ (fun st=>Qiu e c d a st.1 st.2.1 st.2.2.1 st.2.2.2) (true,0,([]:List Qm),([]:QBg))).bind (fun q=>QpH q.1 q.2)
theorem QvF (L W g t){r}(h:QgE L W g t=some r):Qc prog 15 [.agg (Qd L),.sl 1 (W.map Qi),.I g,.I t] [] (Gives (.tup [.sl 4 (r.1.map Qk),.b r.2]) []):=by
 refine Qc.walk 59 func15 rfl rfl rfl fun C hC=>?_
 obtain⟨s,a2,h⟩:=Qb h
 refine Qa hC [.n 20,.O 17 (.map (QA V.I V.I ([]:QBg))),.n 6,.v .no [] (.agg (Qd L)),.n 2,.o (.co false [.d,.d,.d] 4 (s.map Qk) s.length),.n 5,.adopt 10 50 4,.O 50 (.arr 4 (([]:List Qm).map Qk)),.S 10 (.own 50 ([]:List Qm).length),.K [1,2,4,10,11,12,21,22,23] [4,17,21,50]] rfl ⟨⟨⟨⟨⟨tt_,rfl⟩,rfl⟩,⟨(Qs1 _ _ _ a2),Qf,.inl rfl⟩⟩,rfl⟩,(congrArg (fun n=>V.own 50 n) (by simp))⟩ ?_
 obtain⟨a3,X,h⟩:=Qb h
 refine AK.loop (body:=(fun st=>Qiu s L W g st.1 st.2.1 st.2.2.1 st.2.2.2)) (fun st σ=>σ=⟨[(1,.sl 1 (W.map Qi)),(2,.I g),(4,.loc 4 0 0),(10,.own 50 st.2.2.1.length),(11,.b st.1),(12,.map 17),(21,.own 21 s.length),(22,.I (s.length:Int)),(23,.I st.2.1)],[(4,.var (Qd L)),(17,.map (QA V.I V.I st.2.2.2)),(21,.arr 4 (s.map Qk)),(50,.arr 4 (st.2.2.1.map Qk))]⟩) (fun q e σ=>e=.exit 0∧σ=⟨[(10,.own 50 q.2.length),(11,.b q.1)],[(50,.arr 4 (q.2.map Qk))]⟩) X rfl ?_ ?_
 ·rintro ⟨p,G,u,w⟩ o σ rfl h
  refine tg_ hC [.n 6] rfl ?_
  refine bg_ h (fun x h=>Qa hC [.T,.n 2] rfl ⟨tt_,x⟩ ?_) fun x h=>Qa hC [.F,.n 2,.K [10,11] [50]] rfl ⟨tt_,x⟩ ?_
  ·refine AK.meet (fun σ=>∃j:Bool,∃H:(List Qm),∃P:QBg,σ=⟨[(1,.sl 1 (W.map Qi)),(2,.I g),(4,.loc 4 0 0),(10,.own 50 H.length),(11,.b j),(12,.map 17),(21,.own 21 s.length),(22,.I (s.length:Int)),(23,.I G)],[(4,.var (Qd L)),(17,.map (QA V.I V.I P)),(21,.arr 4 (s.map Qk)),(50,.arr 4 (H.map Qk))]⟩∧Qew G j H P=some o) ?_ ?_
   ·obtain⟨i,M,h⟩:=Qb h
    refine Qa hC [.n 4,.v (.row (Qk i)) [] (.agg (Qk i)),.n 2,.O 14 (.var (Qk i)),.n 2] rfl ⟨⟨⟨⟨tt_,(Qda M rfl)⟩,(QbX (QdK M).2)⟩,rfl⟩,rfl⟩ ?_
    refine AK.meet (fun σ=>∃y:QBg,σ=⟨[(1,.sl 1 (W.map Qi)),(2,.I g),(4,.loc 4 0 0),(10,.own 50 u.length),(11,.b p),(12,.map 17),(14,.loc 14 0 0),(21,.own 21 s.length),(22,.I (s.length:Int)),(23,.I G)],[(4,.var (Qd L)),(14,.var (Qk i)),(17,.map (QA V.I V.I y)),(21,.arr 4 (s.map Qk)),(50,.arr 4 (u.map Qk))]⟩∧Qgb i u G p y=some o) ?_ ?_
    ·refine Qa hC [.n 5,.o (.any (.tup [.I ((Qv w i.Task).getD 0),.b (Qv w i.Task).isSome]) none),.n 13] rfl ⟨tt_,(fun σ J Y _=>Stp.lookupOk (e:=V.I) (f:=V.I) (l:=w) (k:=i.Task) (z:=0) rfl rfl (QN hC.n rfl) (J _ _ rfl) (Y _ _ rfl) (J _ _ rfl) Qmw Qdh Qk9 rfl rfl)⟩ ?_
     rcases Qt h with⟨A,h⟩|⟨A,h⟩
     ·obtain⟨U,Z,h⟩:=Qb h
      refine Qa hC [.T,.K [1,2,4,10,11,12,14,21,22,23] [4,14,17,21,50]] rfl ⟨tt_,A⟩ ?_
      refine AK.draw2 Qs hC mixed [.N,.N,.N,.a .no (some ([],.agg (Qd L))) false,.N,.a .no (some ([],.agg (Qk i))) false,.N,.a (.c false [.d,.d,.d,.d] (.I U)) none false,.m (.any ⟨[],[(17,.map (QA V.I V.I (Qag ltI w i.Task U)))],none⟩)] [] [] [1,2,4,10,11,12,14,21,22,23] [4,14,17,21,50] rfl rfl rfl ⟨⟨⟨⟨tt_,rfl⟩,rfl⟩,(QuU _ _ _ _ Z)⟩,(fun σ J Y=>Stp.mapUpdate (e:=V.I) (f:=V.I) (l:=w) (k:=i.Task) (v:=U) ltI rfl rfl (J _ _ rfl) (Y _ _ rfl) (J _ _ rfl) (J _ _ rfl) Qmw Qdh rfl)⟩ rfl (by kernel_rfl) rfl rfl rfl ?_
      refine tg_ hC [.K [1,2,4,10,11,12,14,21,22,23] [4,14,17,21,50]] rfl ?_
      exact AK.met (ex_ _ (an_ rfl h))
     refine Qa hC [.F,.n 1,.K [1,2,4,10,11,12,14,21,22,23] [4,14,17,21,50]] rfl ⟨tt_,A⟩ ?_
     exact AK.met (ex_ _ (an_ rfl h))
    rintro σ ⟨y,rfl,h⟩
    refine Qa hC [.n 5,.o (.any (.I ((Qv y i.Task).getD 0)) none),.n 9] rfl ⟨tt_,(fun σ J Y _=>Stp.lookup (e:=V.I) (f:=V.I) (l:=y) (k:=i.Task) (z:=0) rfl rfl (QN hC.n rfl) (J _ _ rfl) (Y _ _ rfl) (J _ _ rfl) Qmw Qdh Qk9 rfl)⟩ ?_
    rcases Qt h with⟨B,h⟩|⟨B,h⟩
    ·obtain⟨a0,h⟩:=QaW h
     refine Qa hC [.T,.n 2,.v .no [] (.agg (Qk i)),.v (.bd []) [] (.sl 4 (([i]:List Qm).map Qk)),.app ((u++([i]:List Qm)).map Qk) (u++([i]:List Qm)).length,.n 4,.K [1,2,4,10,11,12,21,22,23] [4,17,21,50]] rfl ⟨⟨⟨⟨tt_,B⟩,rfl⟩,rfl⟩,⟨Qf,QbP a0 Qf,QaY,QcN Qf⟩⟩ ?_
     exact AK.met (ex_ _ (ex_ _ (ex_ _ (an_ rfl h))))
    refine Qa hC [.F,.n 6] rfl ⟨tt_,B⟩ ?_
    refine bg_ h (fun D h=>Qa hC [.T,.n 5,.K [1,2,4,10,11,12,21,22,23] [4,17,21,50]] rfl ⟨tt_,D⟩ ?_) fun D h=>Qa hC [.F,.n 3,.K [1,2,4,10,11,12,21,22,23] [4,17,21,50]] rfl ⟨tt_,D⟩ ?_
    ·exact AK.met (ex_ _ (ex_ _ (ex_ _ (an_ rfl h))))
    exact AK.met (ex_ _ (ex_ _ (ex_ _ (an_ rfl h))))
   rintro σ ⟨j,H,P,rfl,h⟩
   refine tg_ hC [.n 4,.K [1,2,4,10,11,12,21,22,23] [4,17,21,50]] rfl ?_
   cases h
   exact Q6 rfl rfl
  cases h
  exact Q8 rfl (an_ rfl rfl)
 obtain⟨E,a1⟩:=a3
 replace h:QpH E a1=some r:=h
 rintro e σ ⟨rfl,rfl⟩
 refine Qa hC [.n 11,.frz 50 (a1.map Qk) [8] []] rfl ⟨tt_,⟨tt_,(QbQ Qf)⟩⟩ ?_
 cases h
 exact d2_ rfl rfl rfl tt_
def QfD (a:Bool)(b:((List Qm)×Bool)):Option Bool:=
 bif a then
 some b.2
 else
 some false
def Qcp (a:Int)(b:(List QH))(c:(List QM))(d:(List QC))(e:Int)(f:Int)(g:Int)(h:Bool)(i:(List (ByteArray×Int)))(j:(List QS))(k:(List QMk)):Option ((Int×(List QH)×(List QM)×(List QC)×Int×Int×Int×Bool×(List (ByteArray×Int))×(List QS)×(List QMk))⊕((List QH)×(List QM)×(List QC)×Int×Int×Int×Bool×(List (ByteArray×Int))×(List QS)×(List QMk))):=
 some (.inl ((w64 (a+1)),b,c,d,e,f,g,h,i,j,k))
def Qcq (c:Int)(a:(List QS))(at_11:Int)(d:Qm)(b:Int)(e:(List QH))(f:(List QM))(g:(List QC))(h:Int)(i:Int)(j:Int)(m:Bool)(k:(List (ByteArray×Int)))(l:(List QMk)):Option ((Int×(List QH)×(List QM)×(List QC)×Int×Int×Int×Bool×(List (ByteArray×Int))×(List QS)×(List QMk))⊕((List QH)×(List QM)×(List QC)×Int×Int×Int×Bool×(List (ByteArray×Int))×(List QS)×(List QMk))):=
 bif (decide (b<0))then
 Qcp c e f g h i j false k a l
 else
 (chk (decide (a.length+([(QS.mk at_11 b d)]:List QS).length≤4294967296))).bind fun _=>
 Qcp c e f g h i j m k (a++[(QS.mk at_11 b d)]) l
def Qcr (n:((List Qm)×Bool))(p:QMk)(at_11:Int)(b:Int)(c:(List QH))(d:(List QM))(e:(List QC))(f:Int)(g:Int)(i:Int)(j:Bool)(k:(List (ByteArray×Int)))(h:(List QS))(l:(List QMk)):Option ((Int×(List QH)×(List QM)×(List QC)×Int×Int×Int×Bool×(List (ByteArray×Int))×(List QS)×(List QMk))⊕((List QH)×(List QM)×(List QC)×Int×Int×Int×Bool×(List (ByteArray×Int))×(List QS)×(List QMk))):=
 bif (decide (b<(n.1.length:Int)))then
 (idx n.1 b).bind fun m=>
 (Qas (Qj.mk c d e f g) p m).bind fun o=>
 bif (o.2==0)then
 (Qc5 c d e f g i k l h j o.1).bind fun a=>
 Qcq b h at_11 m a.1 a.2.2.1 a.2.2.2.1 a.2.2.2.2.1 a.2.2.2.2.2.1 a.2.2.2.2.2.2.1 a.2.2.2.2.2.2.2.1 a.2.2.2.2.2.2.2.2.1 a.2.2.2.2.2.2.2.2.2 a.2.1
 else
 Qcq b h at_11 m (-1) c d e f g i j k l
 else
 some (.inr (c,d,e,f,g,i,j,k,h,l))
def Qjx (a:(List QH))(b:(List QM))(c:(List QC))(d:Int)(e:Int)(f:Int)(g:Bool)(h:(List (ByteArray×Int)))(i:(List QS))(j:(List QMk)):Option ((List QMk)×(List QS)×(List QH)×(List QM)×(List QC)×Int×Int×Int×Bool×(List (ByteArray×Int))):=
 some (j,i,a,b,c,d,e,f,g,h)
def QdB (a:((List Qm)×Bool))(b:QMk)(at_11:Int)(d:(List QH))(e:(List QM))(f:(List QC))(g:Int)(h:Int)(i:Int)(j:(List (ByteArray×Int)))(k:(List QS))(l:(List QMk))(c:Bool):Option ((List QMk)×(List QS)×(List QH)×(List QM)×(List QC)×Int×Int×Int×Bool×(List (ByteArray×Int))):=
 (QJ (fun st=>Qcr a b at_11 st.1 st.2.1 st.2.2.1 st.2.2.2.1 st.2.2.2.2.1 st.2.2.2.2.2.1 st.2.2.2.2.2.2.1 st.2.2.2.2.2.2.2.1 st.2.2.2.2.2.2.2.2.1 st.2.2.2.2.2.2.2.2.2.1 st.2.2.2.2.2.2.2.2.2.2) (0,d,e,f,g,h,i,c,j,k,l)).bind (fun q=>Qjx q.1 q.2.1 q.2.2.1 q.2.2.2.1 q.2.2.2.2.1 q.2.2.2.2.2.1 q.2.2.2.2.2.2.1 q.2.2.2.2.2.2.2.1 q.2.2.2.2.2.2.2.2.1 q.2.2.2.2.2.2.2.2.2)
def QeI (e:(List QH))(f:(List QM))(g:(List QC))(h:Int)(i:Int)(j:Int)(l:(List (ByteArray×Int)))(k:(List QMk))(m:(List QS))(c:Bool)(at_11:Int):Option ((List QMk)×(List QS)×(List QH)×(List QM)×(List QC)×Int×Int×Int×Bool×(List (ByteArray×Int))):=
 (idx k at_11).bind fun a=>
 (QgE (Qj.mk e f g h i) a j 9223372036854775807).bind fun b=>
 (QfD c b).bind (fun d=>QdB b a at_11 e f g h i j l m k d)
theorem QoV (U W X Y Z v6 m7 G H b1 at_11){r}(h:QeI U W X Y Z v6 m7 G H b1 at_11=some r):Qc prog 41 [.loc 617 0 0,.I at_11] [(617,.var [.sl 7 (U.map Qr),.sl 3 (W.map Qp),.sl 14 (X.map Qh),.I Y,.I Z,.I v6,.map 618,.own 615 G.length,.own 616 H.length,.b b1]),(618,.map (QA V.s V.I m7)),(615,.arr 1 (G.map Qu)),(616,.arr 6 (H.map QZ))] (Gives (.tup []) [(615,.arr 1 (r.1.map Qu)),(616,.arr 6 (r.2.1.map QZ)),(617,.var [.sl 7 (r.2.2.1.map Qr),.sl 3 (r.2.2.2.1.map Qp),.sl 14 (r.2.2.2.2.1.map Qh),.I r.2.2.2.2.2.1,.I r.2.2.2.2.2.2.1,.I r.2.2.2.2.2.2.2.1,.map 618,.own 615 r.1.length,.own 616 r.2.1.length,.b r.2.2.2.2.2.2.2.2.1]),(618,.map (QA V.s V.I r.2.2.2.2.2.2.2.2.2))]):=by
 refine Qc.walk 88 func41 rfl rfl rfl fun C hC=>?_
 obtain⟨k,a0,h⟩:=Qb h
 obtain⟨f,b2,h⟩:=Qb h
 refine Qa hC [.n 9,.o (.row (Qu k)),.n 4,.K [0,1,4] [615,616,617,618]] rfl ⟨⟨tt_,(Qda a0 rfl)⟩,(QbX (QdK a0).2)⟩ ?_
 refine AK.draw2 Qs hC mixed [.N,.N,.N,.a .no (some ([],.agg (Qd (Qj.mk U W X Y Z)))) false,.N,.N,.N,.N,.N,.a (.c false [.d,.d,.d,.d] (.tup [.sl 4 (f.1.map Qk),.b f.2])) none false,.N,.N,.N,.N,.N] [] [] [0,1,4,5,6] [615,616,617,618] rfl rfl rfl ⟨⟨tt_,rfl⟩,(QvF _ _ _ _ b2)⟩ rfl (by kernel_rfl) rfl rfl rfl ?_
 refine tg_ hC [.n 2] rfl ?_
 obtain⟨a1,b3,h⟩:=Qb h
 replace h:QdB f k at_11 U W X Y Z v6 m7 H G a1=some r:=h
 refine AK.meetX (fun σ=>σ=⟨[(0,.loc 617 0 0),(1,.I at_11),(4,.sl 1 (k.map Qi)),(5,.sl 4 (f.1.map Qk))],[(615,.arr 1 (G.map Qu)),(616,.arr 6 (H.map QZ)),(617,.var [.sl 7 (U.map Qr),.sl 3 (W.map Qp),.sl 14 (X.map Qh),.I Y,.I Z,.I v6,.map 618,.own 615 G.length,.own 616 H.length,.b a1]),(618,.map (QA V.s V.I m7))]⟩) ?_ ?_
 ·replace h:=b3
  refine tg_ hC [.n 8] rfl ?_
  refine bg_ h (fun t h=>Qa hC [.S 39 (.b true),.n 6,.O 617 (.var [.sl 7 (U.map Qr),.sl 3 (W.map Qp),.sl 14 (X.map Qh),.I Y,.I Z,.I v6,.map 618,.own 615 G.length,.own 616 H.length,.b f.2]),.n 1,.K [0,1,4,5] [615,616,617,618]] rfl ⟨(tc_ t),rfl⟩ ?_) fun t h=>Qa hC [.S 39 (.b false),.n 6,.O 617 (.var [.sl 7 (U.map Qr),.sl 3 (W.map Qp),.sl 14 (X.map Qh),.I Y,.I Z,.I v6,.map 618,.own 615 G.length,.own 616 H.length,.b false]),.n 1,.K [0,1,4,5] [615,616,617,618]] rfl ⟨(tc_ t),rfl⟩ ?_
  ·cases h
   exact AK.met rfl
  cases h
  exact AK.met rfl
 rintro σ rfl
 replace h:QdB f k at_11 U W X Y Z v6 m7 H G a1=some r:=h
 refine Qa hC [.n 4,.o (.ln f.1.length),.n 4,.K [0,1,4,45,46,47] [615,616,617,618]] rfl ⟨tt_,Qf⟩ ?_
 obtain⟨c0,b4,h⟩:=Qb h
 refine AK.loop (body:=(fun st=>Qcr f k at_11 st.1 st.2.1 st.2.2.1 st.2.2.2.1 st.2.2.2.2.1 st.2.2.2.2.2.1 st.2.2.2.2.2.2.1 st.2.2.2.2.2.2.2.1 st.2.2.2.2.2.2.2.2.1 st.2.2.2.2.2.2.2.2.2.1 st.2.2.2.2.2.2.2.2.2.2)) (fun st σ=>σ=⟨[(0,.loc 617 0 0),(1,.I at_11),(4,.sl 1 (k.map Qi)),(45,.sl 4 (f.1.map Qk)),(46,.I (f.1.length:Int)),(47,.I st.1)],[(615,.arr 1 (st.2.2.2.2.2.2.2.2.2.2.map Qu)),(616,.arr 6 (st.2.2.2.2.2.2.2.2.2.1.map QZ)),(617,.var [.sl 7 (st.2.1.map Qr),.sl 3 (st.2.2.1.map Qp),.sl 14 (st.2.2.2.1.map Qh),.I st.2.2.2.2.1,.I st.2.2.2.2.2.1,.I st.2.2.2.2.2.2.1,.map 618,.own 615 st.2.2.2.2.2.2.2.2.2.2.length,.own 616 st.2.2.2.2.2.2.2.2.2.1.length,.b st.2.2.2.2.2.2.2.1]),(618,.map (QA V.s V.I st.2.2.2.2.2.2.2.2.1))]⟩) (fun q e σ=>e=.exit 0∧σ=⟨[],[(615,.arr 1 (q.2.2.2.2.2.2.2.2.2.map Qu)),(616,.arr 6 (q.2.2.2.2.2.2.2.2.1.map QZ)),(617,.var [.sl 7 (q.1.map Qr),.sl 3 (q.2.1.map Qp),.sl 14 (q.2.2.1.map Qh),.I q.2.2.2.1,.I q.2.2.2.2.1,.I q.2.2.2.2.2.1,.map 618,.own 615 q.2.2.2.2.2.2.2.2.2.length,.own 616 q.2.2.2.2.2.2.2.2.1.length,.b q.2.2.2.2.2.2.1]),(618,.map (QA V.s V.I q.2.2.2.2.2.2.2.1))]⟩) b4 rfl ?_ ?_
 ·rintro ⟨J,c1,c2,c3,c4,c5,d6,d7,d8,j,d9⟩ o σ rfl h
  refine tg_ hC [.n 6] rfl ?_
  refine bg_ h (fun u h=>Qa hC [.T,.n 2] rfl ⟨tt_,u⟩ ?_) fun u h=>Qa hC [.F,.n 2,.K [] [615,616,617,618]] rfl ⟨tt_,u⟩ ?_
  ·refine AK.meet (fun σ=>∃a2:(List QH),∃a3:(List QM),∃a4:(List QC),∃a5:Int,∃a6:Int,∃a7:Int,∃a8:Bool,∃a9:(List (ByteArray×Int)),∃L:(List QS),∃M:(List QMk),σ=⟨[(0,.loc 617 0 0),(1,.I at_11),(4,.sl 1 (k.map Qi)),(45,.sl 4 (f.1.map Qk)),(46,.I (f.1.length:Int)),(47,.I J)],[(615,.arr 1 (M.map Qu)),(616,.arr 6 (L.map QZ)),(617,.var [.sl 7 (a2.map Qr),.sl 3 (a3.map Qp),.sl 14 (a4.map Qh),.I a5,.I a6,.I a7,.map 618,.own 615 M.length,.own 616 L.length,.b a8]),(618,.map (QA V.s V.I a9))]⟩∧Qcp J a2 a3 a4 a5 a6 a7 a8 a9 L M=some o) ?_ ?_
   ·obtain⟨g,b5,h⟩:=Qb h
    obtain⟨b6,b7,h⟩:=Qb h
    refine Qa hC [.n 3,.o (.row (Qk g)),.v .no [] (.agg (Qk g)),.n 2,.O 8 (.var (Qk g)),.n 3,.K [0,1,4,8,45,46,47] [8,615,616,617,618]] rfl ⟨⟨⟨tt_,(QT b5)⟩,rfl⟩,rfl⟩ ?_
    refine AK.draw2 Qs hC mixed [.N,.N,.N,.a .no (some ([],.agg (Qd (Qj.mk c1 c2 c3 c4 c5)))) false,.N,.a .no (some ([],.agg (Qk g))) false,.a (.c false [.d,.d,.d] (.tup [.sl 1 (b6.1.map Qi),.I b6.2])) none false,.N,.N,.N,.N,.N] [] [] [0,1,4,8,9,10,45,46,47] [8,615,616,617,618] rfl rfl rfl ⟨⟨⟨tt_,rfl⟩,rfl⟩,(QpG _ _ _ b7)⟩ rfl (by kernel_rfl) rfl rfl rfl ?_
    refine tg_ hC [.n 6] rfl ?_
    refine AK.meet (fun σ=>∃l:Int,∃w:(List QH),∃x:(List QM),∃y:(List QC),∃z:Int,∃A:Int,∃B:Int,∃P:Bool,∃b0:(List (ByteArray×Int)),∃p:(List QMk),σ=⟨[(0,.loc 617 0 0),(1,.I at_11),(4,.sl 1 (k.map Qi)),(8,.loc 8 0 0),(11,.I l),(45,.sl 4 (f.1.map Qk)),(46,.I (f.1.length:Int)),(47,.I J)],[(8,.var (Qk g)),(615,.arr 1 (p.map Qu)),(616,.arr 6 (j.map QZ)),(617,.var [.sl 7 (w.map Qr),.sl 3 (x.map Qp),.sl 14 (y.map Qh),.I z,.I A,.I B,.map 618,.own 615 p.length,.own 616 j.length,.b P]),(618,.map (QA V.s V.I b0))]⟩∧Qcq J j at_11 g l w x y z A B P b0 p=some o) ?_ ?_
    ·refine tg_ hC [.n 6] rfl ?_
     rcases Qt h with⟨D,h⟩|⟨D,h⟩
     ·obtain⟨i,b8,h⟩:=Qb h
      refine Qa hC [.T,.n 3,.cm (.fn) [(617,617),(618,618),(615,615),(616,616)] [(615,615),(616,616),(617,617),(618,618)] [615,616] [.d,.d] [(615,.arr 1 (i.2.1.map Qu)),(616,.arr 6 (j.map QZ)),(617,.var [.sl 7 (i.2.2.1.map Qr),.sl 3 (i.2.2.2.1.map Qp),.sl 14 (i.2.2.2.2.1.map Qh),.I i.2.2.2.2.2.1,.I i.2.2.2.2.2.2.1,.I i.2.2.2.2.2.2.2.1,.map 618,.own 615 i.2.1.length,.own 616 j.length,.b i.2.2.2.2.2.2.2.2.1]),(618,.map (QA V.s V.I i.2.2.2.2.2.2.2.2.2))] (.I i.1),.n 2,.K [0,1,4,8,11,45,46,47] [8,615,616,617,618]] rfl ⟨⟨tt_,D⟩,(Qjq _ _ _ _ _ _ _ _ _ _ _ b8)⟩ ?_
      exact AK.met (ex_ _ (ex_ _ (ex_ _ (ex_ _ (ex_ _ (ex_ _ (ex_ _ (ex_ _ (ex_ _ (ex_ _ (an_ rfl h)))))))))))
     refine Qa hC [.F,.n 1,.K [0,1,4,8,11,45,46,47] [8,615,616,617,618]] rfl ⟨tt_,D⟩ ?_
     exact AK.met (ex_ _ (ex_ _ (ex_ _ (ex_ _ (ex_ _ (ex_ _ (ex_ _ (ex_ _ (ex_ _ (ex_ _ (an_ rfl h)))))))))))
    rintro σ ⟨l,w,x,y,z,A,B,P,b0,p,rfl,h⟩
    refine tg_ hC [.n 7] rfl ?_
    rcases Qt h with⟨E,h⟩|⟨E,h⟩
    ·refine Qa hC [.T,.n 7,.O 617 (.var [.sl 7 (w.map Qr),.sl 3 (x.map Qp),.sl 14 (y.map Qh),.I z,.I A,.I B,.map 618,.own 615 p.length,.own 616 j.length,.b false]),.n 5,.K [0,1,4,45,46,47] [615,616,617,618]] rfl ⟨⟨tt_,E⟩,rfl⟩ ?_
     exact AK.met (ex_ _ (ex_ _ (ex_ _ (ex_ _ (ex_ _ (ex_ _ (ex_ _ (ex_ _ (ex_ _ (ex_ _ (an_ rfl h)))))))))))
    obtain⟨b9,h⟩:=QaW h
    refine Qa hC [.F,.n 2,.K [0,1,4,8,11,45,46,47] [8,615,616,617,618]] rfl ⟨tt_,E⟩ ?_
    refine AK.draw2 Qs hC mixed [.a .no none true,.N,.N,.N,.N,.N,.N,.N,.a .no (some ([],.agg (Qk g))) false,.a .no (some ([],.agg (QZ (QS.mk at_11 l g)))) false,.a (.bd []) (some ([],.sl 6 (([(QS.mk at_11 l g)]:List QS).map QZ))) false,.m (.app ((j++[(QS.mk at_11 l g)]).map QZ) (j++[(QS.mk at_11 l g)]).length),.N,.N,.N,.m .s] [0,1,4,8,11,45,46,47] [8,615,618] [0,1,4,45,46,47] [615,616,617,618] rfl rfl rfl ⟨⟨⟨⟨tt_,rfl⟩,rfl⟩,rfl⟩,⟨Qf,QbP b9 Qf,QaY,QcN Qf⟩⟩ rfl (by kernel_rfl) rfl rfl rfl ?_
    refine Qa hC [.O 617 (.var [.sl 7 (w.map Qr),.sl 3 (x.map Qp),.sl 14 (y.map Qh),.I z,.I A,.I B,.map 618,.own 615 p.length,.own 616 (j++[(QS.mk at_11 l g)]).length,.b P]),.n 1,.K [0,1,4,45,46,47] [615,616,617,618]] rfl ⟨tt_,rfl⟩ ?_
    exact AK.met (ex_ _ (ex_ _ (ex_ _ (ex_ _ (ex_ _ (ex_ _ (ex_ _ (ex_ _ (ex_ _ (ex_ _ (an_ rfl h)))))))))))
   rintro σ ⟨a2,a3,a4,a5,a6,a7,a8,a9,L,M,rfl,h⟩
   refine tg_ hC [.n 4,.K [0,1,4,45,46,47] [615,616,617,618]] rfl ?_
   cases h
   exact Q6 rfl rfl
  cases h
  exact Q8 rfl (an_ rfl rfl)
 obtain⟨c6,c7,c8,c9,d0,d1,d2,d3,d4,d5⟩:=c0
 replace h:Qjx c6 c7 c8 c9 d0 d1 d2 d3 d4 d5=some r:=h
 rintro e σ ⟨rfl,rfl⟩
 refine tg_ hC [.n 1,.K [] [615,616,617,618]] rfl ?_
 cases h
 refine AK.done ?_
 exact ex_ [] (an_ tt_ (gives ⟨rfl,rfl,rfl,rfl,tt_⟩))
def QgP (at_11:Int)(a:(List QH))(b:(List QM))(c:(List QC))(d:Int)(e:Int)(f:Int)(g:Bool)(h:(List (ByteArray×Int)))(i:(List QMk))(j:(List QS)):Option ((Int×(List QH)×(List QM)×(List QC)×Int×Int×Int×Bool×(List (ByteArray×Int))×(List QMk)×(List QS))⊕((List QH)×(List QM)×(List QC)×Int×Int×Int×Bool×(List (ByteArray×Int))×(List QMk)×(List QS))):=
 some (.inl ((w64 (at_11+1)),a,b,c,d,e,f,g,h,i,j))
def QgQ (b:Int)(at_11:Int)(d:(List QH))(e:(List QM))(f:(List QC))(g:Int)(h:Int)(i:Int)(l:Bool)(j:(List (ByteArray×Int)))(c:(List QMk))(k:(List QS)):Option ((Int×(List QH)×(List QM)×(List QC)×Int×Int×Int×Bool×(List (ByteArray×Int))×(List QMk)×(List QS))⊕((List QH)×(List QM)×(List QC)×Int×Int×Int×Bool×(List (ByteArray×Int))×(List QMk)×(List QS))):=
 bif (decide (at_11<(c.length:Int)))then
 (idx c at_11).bind fun m=>
 (Qj5 m).bind fun n=>
 bif (decide (b<n))then
 QgP at_11 d e f g h i false j c k
 else
 (QeI d e f g h i j c k l at_11).bind fun a=>
 QgP at_11 a.2.2.1 a.2.2.2.1 a.2.2.2.2.1 a.2.2.2.2.2.1 a.2.2.2.2.2.2.1 a.2.2.2.2.2.2.2.1 a.2.2.2.2.2.2.2.2.1 a.2.2.2.2.2.2.2.2.2 a.1 a.2.1
 else
 some (.inr (d,e,f,g,h,i,l,j,c,k))
def QqF (d:(List QH))(e:(List QM))(f:(List QC))(g:Int)(h:Int)(i:Int)(a:Bool)(j:(List (ByteArray×Int)))(b:(List QMk))(c:(List QS)):Option Q2:=
 some (Q2.mk b c a)
def Qkg (d:Qj)(e:QMk)(a:Int)(b:Int):Option Q2:=
 bif (decide (a≤0))then
 some (Q2.mk ([]:(List QMk)) ([]:(List QS)) false)
 else
 (Qg5 e).bind fun f=>
 (Qc5 d.Colours d.Places d.Tasks d.From d.To a ([]:(List (ByteArray×Int))) ([]:List QMk) ([]:List QS) true f).bind fun c=>
 (QJ (fun st=>QgQ b st.1 st.2.1 st.2.2.1 st.2.2.2.1 st.2.2.2.2.1 st.2.2.2.2.2.1 st.2.2.2.2.2.2.1 st.2.2.2.2.2.2.2.1 st.2.2.2.2.2.2.2.2.1 st.2.2.2.2.2.2.2.2.2.1 st.2.2.2.2.2.2.2.2.2.2) (0,c.2.2.1,c.2.2.2.1,c.2.2.2.2.1,c.2.2.2.2.2.1,c.2.2.2.2.2.2.1,c.2.2.2.2.2.2.2.1,c.2.2.2.2.2.2.2.2.1,c.2.2.2.2.2.2.2.2.2,c.2.1,([]:List QS))).bind (fun q=>QqF q.1 q.2.1 q.2.2.1 q.2.2.2.1 q.2.2.2.2.1 q.2.2.2.2.2.1 q.2.2.2.2.2.2.1 q.2.2.2.2.2.2.2.1 q.2.2.2.2.2.2.2.2.1 q.2.2.2.2.2.2.2.2.2)
theorem Qwy (i m2 a f){r}(h:Qkg i m2 a f=some r):Qc prog 17 [.agg (Qd i),.sl 1 (m2.map Qi),.I a,.I f] [] (Gives (.agg (QL r)) []):=by
 refine Qc.walk 59 func17 rfl rfl rfl fun C hC=>?_
 refine tg_ hC [.n 13] rfl ?_
 rcases Qt h with⟨u,h⟩|⟨u,h⟩
 ·refine Qa hC [.T,.n 2,.v .no [some 1,some 6,none] (.agg (QL (Q2.mk ([]:(List QMk)) ([]:(List QS)) false))),.n 1,.O 8 (.var (QL (Q2.mk ([]:(List QMk)) ([]:(List QS)) false))),.n 4,.K [8] [8]] rfl ⟨⟨⟨tt_,u⟩,rfl⟩,rfl⟩ ?_
  cases h
  exact AK.done (ex_ [_] (an_ (an_ (ex_ _ (ex_ _ (an_ rfl (an_ rfl (Or.inl (an_ (Qs.ag rfl) (an_ (Qs.sz rfl) rfl))))))) tt_) (gives tt_)))
 obtain⟨P,S,h⟩:=Qb h
 obtain⟨j,U,h⟩:=Qb h
 refine Qa hC [.F,.n 4,.v .no [] (.agg (Qd i)),.n 2,.O 16 (.map (QA V.s V.I ([]:(List (ByteArray×Int))))),.v .no [] (.agg [.sl 7 (i.Colours.map Qr),.sl 3 (i.Places.map Qp),.sl 14 (i.Tasks.map Qh),.I i.From,.I i.To,.I a,.map 16,.lit (.slice none 0 0),.lit (.slice none 0 0),.b false]),.n 11,.O 18 (.var [.sl 7 (i.Colours.map Qr),.sl 3 (i.Places.map Qp),.sl 14 (i.Tasks.map Qh),.I i.From,.I i.To,.I a,.map 16,.lit (.slice none 0 0),.lit (.slice none 0 0),.b true]),.n 6,.o (.co false [.d] 1 (P.map Qi) P.length),.frz 25 (P.map Qi) [25] [],.adoptO 18 7 608 1,.O 608 (.arr 1 (([]:List QMk).map Qu)),.O 18 (.var [.sl 7 (i.Colours.map Qr),.sl 3 (i.Places.map Qp),.sl 14 (i.Tasks.map Qh),.I i.From,.I i.To,.I a,.map 16,.own 608 ([]:List QMk).length,.lit (.slice none 0 0),.b true]),.adoptO 18 8 609 6,.O 609 (.arr 6 (([]:List QS).map QZ)),.O 18 (.var [.sl 7 (i.Colours.map Qr),.sl 3 (i.Places.map Qp),.sl 14 (i.Tasks.map Qh),.I i.From,.I i.To,.I a,.map 16,.own 608 ([]:List QMk).length,.own 609 ([]:List QS).length,.b true]),.cm (.fn) [(617,18),(618,16),(615,608),(616,609)] [(608,615),(609,616),(18,617),(16,618)] [608,609] [.d,.d] [(615,.arr 1 (j.2.1.map Qu)),(616,.arr 6 (([]:List QS).map QZ)),(617,.var [.sl 7 (j.2.2.1.map Qr),.sl 3 (j.2.2.2.1.map Qp),.sl 14 (j.2.2.2.2.1.map Qh),.I j.2.2.2.2.2.1,.I j.2.2.2.2.2.2.1,.I j.2.2.2.2.2.2.2.1,.map 618,.own 615 j.2.1.length,.own 616 ([]:List QS).length,.b j.2.2.2.2.2.2.2.2.1]),(618,.map (QA V.s V.I j.2.2.2.2.2.2.2.2.2))] (.I j.1),.n 9,.K [3,8,9,10] [8,16,18,608,609]] rfl ⟨⟨⟨⟨⟨⟨⟨⟨⟨⟨⟨⟨tt_,u⟩,rfl⟩,rfl⟩,rfl⟩,rfl⟩,⟨(QkC _ S),Qf,.inl rfl⟩⟩,⟨tt_,(QbQ Qf)⟩⟩,rfl⟩,rfl⟩,rfl⟩,rfl⟩,(Qjq _ _ _ _ _ _ _ _ _ _ _ U)⟩ ?_
 obtain⟨W,J,h⟩:=Qb h
 refine AK.loop (body:=(fun st=>QgQ f st.1 st.2.1 st.2.2.1 st.2.2.2.1 st.2.2.2.2.1 st.2.2.2.2.2.1 st.2.2.2.2.2.2.1 st.2.2.2.2.2.2.2.1 st.2.2.2.2.2.2.2.2.1 st.2.2.2.2.2.2.2.2.2.1 st.2.2.2.2.2.2.2.2.2.2)) (fun st σ=>σ=⟨[(3,.I f),(8,.loc 8 0 0),(9,.loc 18 0 0),(10,.I st.1)],[(8,.var [.lit (.slice none 0 0),.lit (.slice none 0 0),.b false]),(16,.map (QA V.s V.I st.2.2.2.2.2.2.2.2.1)),(18,.var [.sl 7 (st.2.1.map Qr),.sl 3 (st.2.2.1.map Qp),.sl 14 (st.2.2.2.1.map Qh),.I st.2.2.2.2.1,.I st.2.2.2.2.2.1,.I st.2.2.2.2.2.2.1,.map 16,.own 608 st.2.2.2.2.2.2.2.2.2.1.length,.own 609 st.2.2.2.2.2.2.2.2.2.2.length,.b st.2.2.2.2.2.2.2.1]),(608,.arr 1 (st.2.2.2.2.2.2.2.2.2.1.map Qu)),(609,.arr 6 (st.2.2.2.2.2.2.2.2.2.2.map QZ))]⟩) (fun q e σ=>e=.exit 0∧σ=⟨[(8,.loc 8 0 0),(9,.loc 18 0 0)],[(8,.var [.lit (.slice none 0 0),.lit (.slice none 0 0),.b false]),(16,.map (QA V.s V.I q.2.2.2.2.2.2.2.1)),(18,.var [.sl 7 (q.1.map Qr),.sl 3 (q.2.1.map Qp),.sl 14 (q.2.2.1.map Qh),.I q.2.2.2.1,.I q.2.2.2.2.1,.I q.2.2.2.2.2.1,.map 16,.own 608 q.2.2.2.2.2.2.2.2.1.length,.own 609 q.2.2.2.2.2.2.2.2.2.length,.b q.2.2.2.2.2.2.1]),(608,.arr 1 (q.2.2.2.2.2.2.2.2.1.map Qu)),(609,.arr 6 (q.2.2.2.2.2.2.2.2.2.map QZ))]⟩) J rfl ?_ ?_
 ·rintro ⟨at_11,X,Y,Z,a0,a1,a2,b4,b5,a3,a4⟩ o σ rfl h
  refine tg_ hC [.n 13] rfl ?_
  refine bg_ h (fun k h=>Qa hC [.T,.n 2] rfl ⟨tt_,k⟩ ?_) fun k h=>Qa hC [.F,.n 2,.K [8,9] [8,16,18,608,609]] rfl ⟨tt_,k⟩ ?_
  ·refine AK.meet (fun σ=>∃w:(List QH),∃x:(List QM),∃y:(List QC),∃z:Int,∃A:Int,∃B:Int,∃D:Bool,∃E:(List (ByteArray×Int)),∃m:(List QMk),∃p:(List QS),σ=⟨[(3,.I f),(8,.loc 8 0 0),(9,.loc 18 0 0),(10,.I at_11)],[(8,.var [.lit (.slice none 0 0),.lit (.slice none 0 0),.b false]),(16,.map (QA V.s V.I E)),(18,.var [.sl 7 (w.map Qr),.sl 3 (x.map Qp),.sl 14 (y.map Qh),.I z,.I A,.I B,.map 16,.own 608 m.length,.own 609 p.length,.b D]),(608,.arr 1 (m.map Qu)),(609,.arr 6 (p.map QZ))]⟩∧QgP at_11 w x y z A B D E m p=some o) ?_ ?_
   ·obtain⟨a5,t,h⟩:=Qb h
    obtain⟨a6,L,h⟩:=Qb h
    refine Qa hC [.n 11,.o (.row (Qu a5)),.o (.c false [.d] (.I a6)),.n 4] rfl ⟨⟨⟨tt_,(Qda t rfl)⟩,(QbX (QdK t).2)⟩,(Qqu _ L)⟩ ?_
    rcases Qt h with⟨l,h⟩|⟨l,h⟩
    ·refine Qa hC [.T,.n 7,.O 18 (.var [.sl 7 (X.map Qr),.sl 3 (Y.map Qp),.sl 14 (Z.map Qh),.I a0,.I a1,.I a2,.map 16,.own 608 a3.length,.own 609 a4.length,.b false]),.n 5,.K [3,8,9,10] [8,16,18,608,609]] rfl ⟨⟨tt_,l⟩,rfl⟩ ?_
     exact AK.met (ex_ _ (ex_ _ (ex_ _ (ex_ _ (ex_ _ (ex_ _ (ex_ _ (ex_ _ (ex_ _ (ex_ _ (an_ rfl h)))))))))))
    obtain⟨g,M,h⟩:=Qb h
    refine Qa hC [.F,.n 5,.cm (.fn) [(617,18),(618,16),(615,608),(616,609)] [(608,615),(609,616),(18,617),(16,618)] [608,609] [.d,.d] [(615,.arr 1 (g.1.map Qu)),(616,.arr 6 (g.2.1.map QZ)),(617,.var [.sl 7 (g.2.2.1.map Qr),.sl 3 (g.2.2.2.1.map Qp),.sl 14 (g.2.2.2.2.1.map Qh),.I g.2.2.2.2.2.1,.I g.2.2.2.2.2.2.1,.I g.2.2.2.2.2.2.2.1,.map 618,.own 615 g.1.length,.own 616 g.2.1.length,.b g.2.2.2.2.2.2.2.2.1]),(618,.map (QA V.s V.I g.2.2.2.2.2.2.2.2.2))] (.tup []),.n 2,.K [3,8,9,10] [8,16,18,608,609]] rfl ⟨⟨tt_,l⟩,(QoV _ _ _ _ _ _ _ _ _ _ _ M)⟩ ?_
    exact AK.met (ex_ _ (ex_ _ (ex_ _ (ex_ _ (ex_ _ (ex_ _ (ex_ _ (ex_ _ (ex_ _ (ex_ _ (an_ rfl h)))))))))))
   rintro σ ⟨w,x,y,z,A,B,D,E,m,p,rfl,h⟩
   refine tg_ hC [.n 5,.K [3,8,9,10] [8,16,18,608,609]] rfl ?_
   cases h
   exact Q6 rfl rfl
  cases h
  exact Q8 rfl (an_ rfl rfl)
 obtain⟨a7,a8,a9,b0,b1,b2,N,b3,G,H⟩:=W
 replace h:QqF a7 a8 a9 b0 b1 b2 N b3 G H=some r:=h
 rintro e σ ⟨rfl,rfl⟩
 refine Qa hC [.n 9,.O 8 (.var [.own 608 G.length,.own 609 H.length,.b N]),.n 3,.frz 608 (G.map Qu) [] [8],.frz 609 (H.map QZ) [] [8],.K [8] [8]] rfl ⟨⟨⟨tt_,rfl⟩,⟨tt_,⟨(QbQ Qf),⟨tt_,tt_⟩⟩⟩⟩,⟨tt_,⟨(QbQ Qf),tt_⟩⟩⟩ ?_
 cases h
 exact AK.done (ex_ [_] (an_ (an_ (ex_ _ (ex_ _ (an_ rfl (an_ rfl (Or.inl (an_ (Qs.ag rfl) (an_ (Qs.sz rfl) rfl))))))) tt_) (gives tt_)))
def QdU (c:Qj)(a:Int)(b:Int):Option Q2:=
 (QeO c).bind fun d=>
 (Qkg c d a b).bind fun e=>
 some e
theorem QgR (f b e){r}(h:QdU f b e=some r):Qc prog 10 [.agg (Qd f),.I b,.I e] [] (Gives (.agg (QL r)) []):=by
 refine Qc.walk 13 func10 rfl rfl rfl fun C hC=>?_
 obtain⟨j,g,h⟩:=Qb h
 obtain⟨k,i,h⟩:=Qb h
 refine tg_ hC [.n 7,.K [1,2,3,6] [3,6]] rfl ?_
 refine AK.draw2 Qs hC mixed [.a .no (some ([],.agg (Qd f))) false,.a .no (some ([],.agg (Qd f))) false,.a (.cd false [.d] 1 (j.map Qi) j.length) none false,.N,.N,.a (.c false [.d,.d,.d,.d] (.agg (QL k))) none false,.m .s] [] [] [6] [6] rfl rfl rfl ⟨⟨⟨⟨tt_,rfl⟩,rfl⟩,⟨(Qmx _ g),Qf⟩⟩,(Qwy _ _ _ _ i)⟩ rfl (by kernel_rfl) rfl rfl rfl ?_
 refine Qa hC [.O 6 (.var (QL k)),.n 2,.K [6] [6]] rfl ⟨tt_,rfl⟩ ?_
 cases h
 exact AK.done (ex_ [_] (an_ (an_ (ex_ _ (ex_ _ (an_ rfl (an_ rfl (Or.inl (an_ (Qs.ag rfl) (an_ (Qs.sz rfl) rfl))))))) tt_) (gives tt_)))
def QgF (a:Int)(b:Q2):Option Bool:=
 some ((decide (0≤a))&&(decide (a<(b.States.length:Int))))
theorem Ql3 (c d){r}(h:QgF c d=some r):Qc prog 72 [.I c,.loc 617 0 0] [(617,.var (QL d))] (Gives (.b r) [(617,.var (QL d))]):=by
 refine Qc.walk 13 func72 rfl rfl rfl fun C hC=>?_
 refine tg_ hC [.n 6] rfl ?_
 refine AK.meetX (fun σ=>σ=⟨[(3,.b ((decide (0≤c))&&(decide (c<(d.States.length:Int)))))],[(617,.var (QL d))]⟩) ?_ ?_
 ·refine tg_ hC [.n 4] rfl ?_
  rcases Q7 (decide (0≤c))with a | a
  ·refine Qa hC [.S 6 (.b true),.n 3,.o (.ln d.States.length),.n 4,.S 3 (.b ((decide (0≤c))&&(decide (c<(d.States.length:Int))))),.K [3] [617]] rfl ⟨⟨(tc_ a),Qf⟩,(congrArg V.b (Qb8 a rfl))⟩ ?_
   exact AK.met rfl
  refine Qa hC [.S 6 (.b false),.n 8,.S 3 (.b ((decide (0≤c))&&(decide (c<(d.States.length:Int))))),.K [3] [617]] rfl ⟨(tc_ a),(congrArg V.b (Qd6 a rfl))⟩ ?_
  exact AK.met rfl
 rintro σ rfl
 refine tg_ hC [.n 2] rfl ?_
 cases h
 exact d1_ rfl rfl ⟨rfl,tt_⟩
def QkM (b:Int)(a:(List (Int×(List Int)))):Option ((Int×(List (Int×(List Int))))⊕(List (Int×(List Int)))):=
 some (.inl ((w64 (b+1)),a))
def Qnm (a:QS)(d:Q2):Option Bool:=
 (QgF a.From d).bind fun b=>
 bif b then
 (QgF a.To d).bind fun c=>
 some c
 else
 some false
def QkN (b:(List (Int×(List Int))))(a:QS)(d:Int)(c:Bool):Option ((Int×(List (Int×(List Int))))⊕(List (Int×(List Int)))):=
 bif c then
 (chk (decide (((Qv b a.To).getD []).length+([a.From]:List Int).length≤4294967296))).bind fun _=>
 QkM d (Qag ltI b a.To (((Qv b a.To).getD [])++[a.From]))
 else
 QkM d b
def QhU (b:Q2)(c:Int)(e:(List (Int×(List Int)))):Option ((Int×(List (Int×(List Int))))⊕(List (Int×(List Int)))):=
 bif (decide (c<(b.Edges.length:Int)))then
 (idx b.Edges c).bind fun a=>
 (Qnm a b).bind (fun d=>QkN e a c d)
 else
 some (.inr e)
def QkO (a:Int)(b:QBg)(c:(List Int)):Option ((Int×QBg×(List Int))⊕(QBg×(List Int))):=
 some (.inl ((w64 (a+1)),b,c))
def QhV (e:(List (Int×(List Int))))(f:Int)(c:Int)(a:QBg)(b:(List Int)):Option ((Int×QBg×(List Int))⊕(QBg×(List Int))):=
 bif (decide (c<(((Qv e f).getD ([]:(List Int))).length:Int)))then
 (idx ((Qv e f).getD ([]:(List Int))) c).bind fun d=>
 bif (!(Qv a d).isSome)then
 (idx b 0).bind fun g=>
 (chk (decide (b.length+([d]:List Int).length≤4294967296))).bind fun _=>
 QkO c (Qag ltI a d (w64 (((Qv a g).getD 0)+1))) (b++([d]:List Int))
 else
 QkO c a b
 else
 some (.inr (a,b))
def Qnn (b:QBg)(a:(List Int)):Option ((QBg×(List Int))⊕QBg):=
 (chk (decide (0≤1)&&decide (1≤a.length))).bind fun _=>
 some (.inl (b,(a.drop 1)))
def QhW (c:(List (Int×(List Int))))(b:QBg)(a:(List Int)):Option ((QBg×(List Int))⊕QBg):=
 bif (decide (0<(a.length:Int)))then
 (idx a 0).bind fun d=>
 (QJ (fun st=>QhV c d st.1 st.2.1 st.2.2) (0,b,a)).bind (fun q=>Qnn q.1 q.2)
 else
 some (.inr b)
def Qry (a:QBg):Option QBg:=
 some a
def QmQ (b:Int)(a:(List (Int×(List Int)))):Option QBg:=
 (QJ (fun st=>QhW a st.1 st.2) ((Qag ltI ([]:QBg) b 0),([b]:List Int))).bind (fun q=>Qry q)
def QnM (a:Q2)(b:Int):Option QBg:=
 (QgF b a).bind fun c=>
 bif (!c)then
 some ([]:QBg)
 else
 (QJ (fun st=>QhU a st.1 st.2) (0,([]:(List (Int×(List Int)))))).bind (fun q=>QmQ b q)
theorem Qxs (s w){r}(h:QnM s w=some r):Qc prog 45 [.agg (QL s),.I w] [] (Gives (.map 602) [(602,.map (QA V.I V.I r))]):=by
 refine Qc.walk 93 func45 rfl rfl rfl fun C hC=>?_
 obtain⟨x5,b3,h⟩:=Qb h
 refine Qa hC [.n 15,.O 16 (.map (QA V.I V.I ([]:QBg))),.n 8,.cm (.clo) [(617,2)] [(2,617)] [] [.d,.d] [(617,.var (QL s))] (.b x5),.n 3] rfl ⟨⟨tt_,rfl⟩,(Ql3 _ _ b3)⟩ ?_
 refine bg_ h (fun W h=>Qa hC [.T,.n 8,.K [4] [16],.ren 16 602,.K [4] [602]] rfl ⟨tt_,W⟩ ?_) fun W h=>Qa hC [.F,.n 4,.x (fun σ=>(σ.set 22 (.grp 1 [] none)).put 22 (.map 22)),.O 22 (.grp 1 (Qnc V.I Qe ([]:(List (Int×(List Int))))) none),.n 8,.o (.ln s.Edges.length),.n 4,.K [1,5,6,7,24,25,26] [2,16,22]] rfl ⟨⟨⟨⟨tt_,W⟩,(Stp.makeGrp 1 rfl rfl (QN hC.n rfl) rfl)⟩,rfl⟩,Qf⟩ ?_
 ·cases h
  exact d1_ rfl rfl ⟨rfl,tt_⟩
 obtain⟨g,a1,h⟩:=Qb h
 refine AK.loop (body:=(fun st=>QhU s st.1 st.2)) (fun st σ=>σ=⟨[(1,.I w),(5,.clo (.func 72) [] [.loc 2 0 0]),(6,.map 16),(7,.map 22),(24,.sl 6 (s.Edges.map QZ)),(25,.I (s.Edges.length:Int)),(26,.I st.1)],[(2,.var (QL s)),(16,.map (QA V.I V.I ([]:QBg))),(22,.grp 1 (Qnc V.I Qe st.2) none)]⟩) (fun q e σ=>e=.exit 0∧σ=⟨[(1,.I w),(6,.map 16),(7,.map 22)],[(16,.map (QA V.I V.I ([]:QBg))),(22,.grp 1 (Qnc V.I Qe q) none)]⟩) a1 rfl ?_ ?_
 ·rintro ⟨x8,u⟩ o σ rfl h
  refine tg_ hC [.n 6] rfl ?_
  refine bg_ h (fun y h=>Qa hC [.T,.n 2] rfl ⟨tt_,y⟩ ?_) fun y h=>Qa hC [.F,.n 2,.K [1,6,7] [16,22]] rfl ⟨tt_,y⟩ ?_
  ·refine AK.meet (fun σ=>∃X:(List (Int×(List Int))),σ=⟨[(1,.I w),(5,.clo (.func 72) [] [.loc 2 0 0]),(6,.map 16),(7,.map 22),(24,.sl 6 (s.Edges.map QZ)),(25,.I (s.Edges.length:Int)),(26,.I x8)],[(2,.var (QL s)),(16,.map (QA V.I V.I ([]:QBg))),(22,.grp 1 (Qnc V.I Qe X) none)]⟩∧QkM x8 X=some o) ?_ ?_
   ·obtain⟨c,a2,h⟩:=Qb h
    refine Qa hC [.n 3,.o (.row (QZ c)),.v .no [] (.agg (QZ c)),.n 2,.O 9 (.var (QZ c)),.n 3] rfl ⟨⟨⟨tt_,(QT a2)⟩,rfl⟩,rfl⟩ ?_
    obtain⟨Y,a3,h⟩:=Qb h
    replace h:QkN u c x8 Y=some o:=h
    refine AK.meetX (fun σ=>σ=⟨[(1,.I w),(5,.clo (.func 72) [] [.loc 2 0 0]),(6,.map 16),(7,.map 22),(9,.loc 9 0 0),(24,.sl 6 (s.Edges.map QZ)),(25,.I (s.Edges.length:Int)),(26,.I x8),(39,.b Y)],[(2,.var (QL s)),(9,.var (QZ c)),(16,.map (QA V.I V.I ([]:QBg))),(22,.grp 1 (Qnc V.I Qe u) none)]⟩) ?_ ?_
    ·replace h:=a3
     obtain⟨b4,a4,h⟩:=Qb h
     refine Qa hC [.n 4,.cm (.clo) [(617,2)] [(2,617)] [] [.d,.d] [(617,.var (QL s))] (.b b4),.n 1] rfl ⟨tt_,(Ql3 _ _ a4)⟩ ?_
     rcases Qt h with⟨A,h⟩|⟨A,h⟩
     ·obtain⟨b5,a5,h⟩:=Qb h
      refine Qa hC [.S 34 (.b true),.n 3,.cm (.clo) [(617,2)] [(2,617)] [] [.d,.d] [(617,.var (QL s))] (.b b5),.n 2,.K [1,5,6,7,9,24,25,26,39] [2,9,16,22]] rfl ⟨(tc_ A),(Ql3 _ _ a5)⟩ ?_
      cases h
      exact AK.met rfl
     refine Qa hC [.S 34 (.b false),.n 6,.K [1,5,6,7,9,24,25,26,39] [2,9,16,22]] rfl (tc_ A) ?_
     cases h
     exact AK.met rfl
    rintro σ rfl
    replace h:QkN u c x8 Y=some o:=h
    refine tg_ hC [.n 1] rfl ?_
    rcases Qt h with⟨B,h⟩|⟨B,h⟩
    ·obtain⟨a6,h⟩:=QaW h
     refine Qa hC [.T,.K [1,5,6,7,9,24,25,26] [2,9,16,22]] rfl ⟨tt_,B⟩ ?_
     refine AK.draw2 Qs hC mixed [.a .no none true,.a .no none true,.a .no none true,.N,.N,.N,.m (.any ⟨[46],[(46,.arr 1 (((Qv u c.To).getD []).map Qe)),(22,.grp 1 (Qnc V.I Qe u) (some (V.I c.To)))],some (46,.own 46 ((Qv u c.To).getD []).length)⟩),.a .no none true,.a .no none true,.a (.bd []) (some ([],.sl 1 (([c.From]:List Int).map Qe))) true,.m (.app ((((Qv u c.To).getD [])++[c.From]).map Qe) (((Qv u c.To).getD [])++[c.From]).length),.m (.any ⟨[46],[(22,.grp 1 (Qnc V.I Qe (Qag ltI u c.To (((Qv u c.To).getD [])++[c.From]))) none)],none⟩)] [1,5,6,7,9,24,25,26] [2,9,16] [1,5,6,7,24,25,26] [2,16,22] rfl rfl rfl ⟨⟨⟨⟨tt_,(fun σ t J=>Stp.lookupOutT (e:=V.I) (f:=Qe) (l:=u) (k:=c.To) rfl rfl (QN hC.n rfl) (t _ _ rfl) (J _ _ rfl) (t _ _ rfl) Qy2 Qdh QEW rfl rfl rfl rfl rfl)⟩,rfl⟩,⟨Qf,QbP a6 Qf,QaY,QcN Qf⟩⟩,(fun σ t J=>Stp.updateBackT (e:=V.I) (f:=Qe) (l:=u) (k:=c.To) (((Qv u c.To).getD [])++[c.From]) ltI rfl rfl (t _ _ rfl) (J _ _ rfl) (t _ _ rfl) (t _ _ rfl) (J _ _ rfl) Qy2 Qdh rfl rfl rfl rfl rfl (by simp))⟩ rfl (by kernel_rfl) rfl rfl rfl ?_
     refine tg_ hC [.n 1,.K [1,5,6,7,24,25,26] [2,16,22]] rfl ?_
     exact AK.met (ex_ _ (an_ rfl h))
    refine Qa hC [.F,.n 2,.K [1,5,6,7,24,25,26] [2,16,22]] rfl ⟨tt_,B⟩ ?_
    exact AK.met (ex_ _ (an_ rfl h))
   rintro σ ⟨X,rfl,h⟩
   refine tg_ hC [.n 4,.K [1,5,6,7,24,25,26] [2,16,22]] rfl ?_
   cases h
   exact Q6 rfl rfl
  cases h
  exact Q8 rfl (an_ rfl rfl)
 replace h:QmQ w g=some r:=h
 rintro e σ ⟨rfl,rfl⟩
 refine Qa hC [.n 6,.x (fun σ=>σ.set 16 (.map (QA V.I V.I (Qag ltI ([]:QBg) w 0)))),.n 7,.O 55 (.arr 1 (([w]:List Int).map Qe)),.S 55 (.own 55 ([w]:List Int).length),.n 4] rfl ⟨⟨⟨tt_,(Stp.mapUpdate (e:=V.I) (f:=V.I) (l:=([]:QBg)) (k:=w) (v:=0) ltI rfl rfl rfl rfl rfl rfl Qmw Qdh rfl)⟩,rfl⟩,rfl⟩ ?_
 refine AK.grpMap (b:=22) (e:=V.I) (f:=Qe) (l:=g) Qdh rfl rfl ?_
 refine Qa hC [.O 22 (.map (QA V.I (fun x=>V.sl 1 (x.map Qe)) g)),.K [6,7,10] [16,22,55]] rfl ⟨tt_,rfl⟩ ?_
 obtain⟨b6,a7,h⟩:=Qb h
 refine AK.loop (body:=(fun st=>QhW g st.1 st.2)) (fun st σ=>σ=⟨[(6,.map 16),(7,.map 22),(10,.own 55 st.2.length)],[(16,.map (QA V.I V.I st.1)),(22,.map (QA V.I (fun x=>V.sl 1 (x.map Qe)) g)),(55,.arr 1 (st.2.map Qe))]⟩) (fun q e σ=>e=.exit 2∧σ=⟨[(6,.map 16)],[(16,.map (QA V.I V.I q))]⟩) a7 rfl ?_ ?_
 ·rintro ⟨b9,c0⟩ o σ rfl h
  refine tg_ hC [.n 8] rfl ?_
  rcases Qt h with⟨D,h⟩|⟨D,h⟩
  ·obtain⟨i,M,h⟩:=Qb h
   refine Qa hC [.T,.n 9,.o (.row (Qe i)),.o (.any (.sl 1 (((Qv g i).getD ([]:(List Int))).map Qe)) none),.o (.ln ((Qv g i).getD ([]:(List Int))).length),.n 4,.K [6,7,10,65,66,67] [16,22,55]] rfl ⟨⟨⟨⟨⟨tt_,D⟩,(Qda M rfl)⟩,(QbX (QdK M).2)⟩,(fun σ t J _=>Stp.lookup (e:=V.I) (f:=(fun x=>V.sl 1 (x.map Qe))) (l:=g) (k:=i) (z:=([]:(List Int))) rfl rfl (QN hC.n rfl) (t _ _ rfl) (J _ _ rfl) (t _ _ rfl) Qy2 Qdh QE0 rfl)⟩,Qf⟩ ?_
   obtain⟨b7,a8,h⟩:=Qb h
   refine AK.loop (body:=(fun st=>QhV g i st.1 st.2.1 st.2.2)) (fun st σ=>σ=⟨[(6,.map 16),(7,.map 22),(10,.own 55 st.2.2.length),(65,.sl 1 (((Qv g i).getD ([]:(List Int))).map Qe)),(66,.I (((Qv g i).getD ([]:(List Int))).length:Int)),(67,.I st.1)],[(16,.map (QA V.I V.I st.2.1)),(22,.map (QA V.I (fun x=>V.sl 1 (x.map Qe)) g)),(55,.arr 1 (st.2.2.map Qe))]⟩) (fun q e σ=>e=.exit 4∧σ=⟨[(6,.map 16),(7,.map 22),(10,.own 55 q.2.length)],[(16,.map (QA V.I V.I q.1)),(22,.map (QA V.I (fun x=>V.sl 1 (x.map Qe)) g)),(55,.arr 1 (q.2.map Qe))]⟩) a8 rfl ?_ ?_
   ·rintro ⟨a9,j,b0⟩ o σ rfl h
    refine tg_ hC [.n 6] rfl ?_
    refine bg_ h (fun E h=>Qa hC [.T,.n 2] rfl ⟨tt_,E⟩ ?_) fun E h=>Qa hC [.F,.n 2,.K [6,7,10] [16,22,55]] rfl ⟨tt_,E⟩ ?_
    ·refine AK.meet (fun σ=>∃Z:QBg,∃L:(List Int),σ=⟨[(6,.map 16),(7,.map 22),(10,.own 55 L.length),(65,.sl 1 (((Qv g i).getD ([]:(List Int))).map Qe)),(66,.I (((Qv g i).getD ([]:(List Int))).length:Int)),(67,.I a9)],[(16,.map (QA V.I V.I Z)),(22,.map (QA V.I (fun x=>V.sl 1 (x.map Qe)) g)),(55,.arr 1 (L.map Qe))]⟩∧QkO a9 Z L=some o) ?_ ?_
     ·obtain⟨p,b1,h⟩:=Qb h
      refine Qa hC [.n 3,.o (.row (Qe p)),.n 8,.o (.any (.tup [.I ((Qv j p).getD 0),.b (Qv j p).isSome]) none),.n 13] rfl ⟨⟨tt_,(QT b1)⟩,(fun σ t J _=>Stp.lookupOk (e:=V.I) (f:=V.I) (l:=j) (k:=p) (z:=0) rfl rfl (QN hC.n rfl) (t _ _ rfl) (J _ _ rfl) (t _ _ rfl) Qmw Qdh Qk9 rfl rfl)⟩ ?_
      rcases Qt h with⟨G,h⟩|⟨G,h⟩
      ·obtain⟨H,P,h⟩:=Qb h
       obtain⟨b2,h⟩:=QaW h
       refine Qa hC [.T,.n 7,.o (.row (Qe H)),.o (.any (.I ((Qv j H).getD 0)) none),.n 1,.x (fun σ=>σ.set 16 (.map (QA V.I V.I (Qag ltI j p (w64 (((Qv j H).getD 0)+1)))))),.n 5,.v (.bd []) [] (.sl 1 (([p]:List Int).map Qe)),.app ((b0++([p]:List Int)).map Qe) (b0++([p]:List Int)).length,.n 3,.K [6,7,10,65,66,67] [16,22,55]] rfl ⟨⟨⟨⟨⟨⟨⟨tt_,G⟩,(Qda P rfl)⟩,(QbX (QdK P).2)⟩,(fun σ t J _=>Stp.lookup (e:=V.I) (f:=V.I) (l:=j) (k:=H) (z:=0) rfl rfl (QN hC.n rfl) (t _ _ rfl) (J _ _ rfl) (t _ _ rfl) Qmw Qdh Qk9 rfl)⟩,(Stp.mapUpdate (e:=V.I) (f:=V.I) (l:=j) (k:=p) (v:=(w64 (((Qv j H).getD 0)+1))) ltI rfl rfl rfl rfl rfl rfl Qmw Qdh rfl)⟩,rfl⟩,⟨Qf,QbP b2 Qf,QaY,QcN Qf⟩⟩ ?_
       exact AK.met (ex_ _ (ex_ _ (an_ rfl h)))
      refine Qa hC [.F,.n 2,.K [6,7,10,65,66,67] [16,22,55]] rfl ⟨tt_,G⟩ ?_
      exact AK.met (ex_ _ (ex_ _ (an_ rfl h)))
     rintro σ ⟨Z,L,rfl,h⟩
     refine tg_ hC [.n 4,.K [6,7,10,65,66,67] [16,22,55]] rfl ?_
     cases h
     exact Q6 rfl rfl
    cases h
    exact Q8 rfl (an_ rfl rfl)
   obtain⟨b8,a0⟩:=b7
   replace h:Qnn b8 a0=some o:=h
   rintro e σ ⟨rfl,rfl⟩
   obtain⟨U,h⟩:=QaW h
   refine Qa hC [.n 5,.x (fun σ=>σ.app 55 1 60 (a0.drop 1).length ((a0.drop 1).map Qe)),.n 2,.K [6,7,10] [16,22,55]] rfl ⟨tt_,(Stp.sliceT rfl rfl (QN hC.n rfl) rfl rfl rfl (Qs.es rfl) (Bnd.val rfl (Q9 (Qro U)) rfl) (Bnd.none_ rfl) (QBo (Qmt U)) (QbT _) QET QEU)⟩ ?_
   cases h
   exact Q6 rfl rfl
  refine Qa hC [.F,.n 2,.K [6] [16]] rfl ⟨tt_,D⟩ ?_
  cases h
  exact Q8 rfl (an_ rfl rfl)
 replace h:Qry b6=some r:=h
 rintro e σ ⟨rfl,rfl⟩
 refine tg_ hC [.n 9,.K [4] [16],.ren 16 602] rfl ?_
 cases h
 exact d1_ rfl rfl ⟨rfl,tt_⟩
def QkP (b:Int)(a:(List Int)):Option ((Int×(List Int))⊕(List Int)):=
 some (.inl ((w64 (b+1)),a))
def QkQ (d:Q2)(e:Int)(a:Int)(b:(List Int)):Option ((Int×(List Int))⊕(List Int)):=
 bif (decide (a<(d.Edges.length:Int)))then
 (idx d.Edges a).bind fun c=>
 bif (c.From==e)then
 (chk (decide (b.length+([a]:List Int).length≤4294967296))).bind fun _=>
 QkP a (b++([a]:List Int))
 else
 QkP a b
 else
 some (.inr b)
def Qrz (a:(List Int)):Option (List Int):=
 some a
def Qi3 (a:Q2)(b:Int):Option (List Int):=
 (QJ (fun st=>QkQ a b st.1 st.2) (0,([]:List Int))).bind (fun q=>Qrz q)
theorem Qno (d g){r}(h:Qi3 d g=some r):Qc prog 16 [.agg (QL d),.I g] [] (Gives (.own 600 r.length) [(600,.arr 1 (r.map Qe))]):=by
 refine Qc.walk 26 func16 rfl rfl rfl fun C hC=>?_
 refine Qa hC [.n 16,.o (.ln d.Edges.length),.n 4,.adopt 5 20 1,.O 20 (.arr 1 (([]:List Int).map Qe)),.S 5 (.own 20 ([]:List Int).length),.K [1,5,9,10,11] [20]] rfl ⟨⟨⟨tt_,Qf⟩,rfl⟩,(congrArg (fun n=>V.own 20 n) (by simp))⟩ ?_
 obtain⟨p,i,h⟩:=Qb h
 refine AK.loop (body:=(fun st=>QkQ d g st.1 st.2)) (fun st σ=>σ=⟨[(1,.I g),(5,.own 20 st.2.length),(9,.sl 6 (d.Edges.map QZ)),(10,.I (d.Edges.length:Int)),(11,.I st.1)],[(20,.arr 1 (st.2.map Qe))]⟩) (fun q e σ=>e=.exit 0∧σ=⟨[(5,.own 20 q.length)],[(20,.arr 1 (q.map Qe))]⟩) i rfl ?_ ?_
 ·rintro ⟨j,m⟩ o σ rfl h
  refine tg_ hC [.n 6] rfl ?_
  refine bg_ h (fun a h=>Qa hC [.T,.n 2] rfl ⟨tt_,a⟩ ?_) fun a h=>Qa hC [.F,.n 2,.K [5] [20]] rfl ⟨tt_,a⟩ ?_
  ·refine AK.meet (fun σ=>∃c:(List Int),σ=⟨[(1,.I g),(5,.own 20 c.length),(9,.sl 6 (d.Edges.map QZ)),(10,.I (d.Edges.length:Int)),(11,.I j)],[(20,.arr 1 (c.map Qe))]⟩∧QkP j c=some o) ?_ ?_
   ·obtain⟨f,k,h⟩:=Qb h
    refine Qa hC [.n 4,.o (.row (QZ f)),.v .no [] (.agg (QZ f)),.n 3,.O 7 (.var (QZ f)),.n 10] rfl ⟨⟨⟨tt_,(QT k)⟩,rfl⟩,rfl⟩ ?_
    rcases Qt h with⟨b,h⟩|⟨b,h⟩
    ·obtain⟨l,h⟩:=QaW h
     refine Qa hC [.T,.n 3,.v (.bd []) [] (.sl 1 (([j]:List Int).map Qe)),.app ((m++([j]:List Int)).map Qe) (m++([j]:List Int)).length,.n 3,.K [1,5,9,10,11] [20]] rfl ⟨⟨⟨tt_,b⟩,rfl⟩,⟨Qf,QbP l Qf,QaY,QcN Qf⟩⟩ ?_
     exact AK.met (ex_ _ (an_ rfl h))
    refine Qa hC [.F,.n 2,.K [1,5,9,10,11] [20]] rfl ⟨tt_,b⟩ ?_
    exact AK.met (ex_ _ (an_ rfl h))
   rintro σ ⟨c,rfl,h⟩
   refine tg_ hC [.n 4,.K [1,5,9,10,11] [20]] rfl ?_
   cases h
   exact Q6 rfl rfl
  cases h
  exact Q8 rfl (an_ rfl rfl)
 replace h:Qrz p=some r:=h
 rintro e σ ⟨rfl,rfl⟩
 refine tg_ hC [.n 9,.K [4] [20],.ren 20 600] rfl ?_
 cases h
 exact d1_ rfl rfl ⟨rfl,tt_⟩
def Qnp (c:Int)(a:QBg)(d:Q2)(e:Int):Option Bool:=
 (idx d.Edges c).bind fun b=>
 some ((Qv a b.To).isSome&&(((Qv a b.To).getD 0)==(w64 (((Qv a e).getD 0)-1))))
theorem QuV (s c m i){r}(h:Qnp s c m i=some r):Qc prog 46 [.I s,.loc 617 0 0,.loc 619 0 0,.loc 620 0 0] [(617,.var [.map 618]),(618,.map (QA V.I V.I c)),(619,.var (QL m)),(620,.var (Qe i))] (Gives (.b r) [(617,.var [.map 618]),(618,.map (QA V.I V.I c)),(619,.var (QL m)),(620,.var (Qe i))]):=by
 refine Qc.walk 28 func46 rfl rfl rfl fun C hC=>?_
 obtain⟨d,p,h⟩:=Qb h
 refine tg_ hC [.n 6,.K [0,1,2,3] [617,618,619,620]] rfl ?_
 refine AK.draw2 Qs hC mixed [.N,.N,.N,.N,.a (.row (QZ d)) none false,.N,.N,.a (.any (.tup [.I ((Qv c d.To).getD 0),.b (Qv c d.To).isSome]) none) none false,.N,.N,.N,.N,.N] [] [] [1,3,6,7] [617,618,619,620] rfl rfl rfl ⟨⟨tt_,(QT p)⟩,(fun σ j q _=>Stp.lookupOk (e:=V.I) (f:=V.I) (l:=c) (k:=d.To) (z:=0) rfl rfl (QN hC.n rfl) (j _ _ rfl) (q _ _ rfl) (j _ _ rfl) Qmw Qdh Qk9 rfl rfl)⟩ rfl (by kernel_rfl) rfl rfl rfl ?_
 refine tg_ hC [.n 2] rfl ?_
 refine AK.meetX (fun σ=>σ=⟨[(5,.b ((Qv c d.To).isSome&&(((Qv c d.To).getD 0)==(w64 (((Qv c i).getD 0)-1)))))],[(617,.var [.map 618]),(618,.map (QA V.I V.I c)),(619,.var (QL m)),(620,.var (Qe i))]⟩) ?_ ?_
 ·refine tg_ hC [.n 3] rfl ?_
  rcases Q7 (Qv c d.To).isSome with g | g
  ·refine Qa hC [.S 20 (.b true),.n 3,.o (.any (.I ((Qv c i).getD 0)) none),.n 5,.S 5 (.b ((Qv c d.To).isSome&&(((Qv c d.To).getD 0)==(w64 (((Qv c i).getD 0)-1))))),.K [5] [617,618,619,620]] rfl ⟨⟨(tc_ g),(fun σ j q _=>Stp.lookup (e:=V.I) (f:=V.I) (l:=c) (k:=i) (z:=0) rfl rfl (QN hC.n rfl) (j _ _ rfl) (q _ _ rfl) (j _ _ rfl) Qmw Qdh Qk9 rfl)⟩,(congrArg V.b (Qb8 g rfl))⟩ ?_
   exact AK.met rfl
  refine Qa hC [.S 20 (.b false),.n 9,.S 5 (.b ((Qv c d.To).isSome&&(((Qv c d.To).getD 0)==(w64 (((Qv c i).getD 0)-1))))),.K [5] [617,618,619,620]] rfl ⟨(tc_ g),(congrArg V.b (Qd6 g rfl))⟩ ?_
  exact AK.met rfl
 rintro σ rfl
 refine tg_ hC [.n 2] rfl ?_
 cases h
 exact d1_ rfl rfl ⟨rfl,rfl,rfl,rfl,tt_⟩
def Qb4 (d:(List Int))(e:QBg)(f:Q2)(g:Int)(a:Int):Option (Int⊕(Int⊕Unit)):=
 bif (decide (a<(d.length:Int)))then
 (idx d a).bind fun b=>
 (Qnp b e f g).bind fun c=>
 bif c then
 some (.inr (.inl a))
 else
 some (.inl (w64 (a+1)))
 else
 some (.inr (.inr ()))
def Qgc (a:Int):Option Int:=
 some a
def Qgd : Option Int:=
 some (-1)
def QcA (a:(List Int))(b:QBg)(c:Q2)(d:Int):Option Int:=
 (QJ (fun st=>Qb4 a b c d st) 0).bind (Sum.elim (fun q=>Qgc q) (fun q=>Qgd))
theorem Ql4 (j f g i){r}(h:QcA j f g i=some r):Qc prog 47 [.sl 1 (j.map Qe),.clo (.func 46) [] [.loc 617 0 0,.loc 619 0 0,.loc 620 0 0]] [(617,.var [.map 618]),(618,.map (QA V.I V.I f)),(619,.var (QL g)),(620,.var (Qe i))] (Gives (.I r) [(617,.var [.map 618]),(618,.map (QA V.I V.I f)),(619,.var (QL g)),(620,.var (Qe i))]):=by
 refine Qc.walk 19 func47 rfl rfl rfl fun C hC=>?_
 refine Qa hC [.n 9,.o (.ln j.length),.n 4,.K [0,1,7,8] [617,618,619,620]] rfl ⟨tt_,Qf⟩ ?_
 obtain⟨p,k,h⟩:=Qb h
 refine AK.loop (body:=(fun st=>Qb4 j f g i st)) (fun st σ=>σ=⟨[(0,.sl 1 (j.map Qe)),(1,.clo (.func 46) [] [.loc 617 0 0,.loc 619 0 0,.loc 620 0 0]),(7,.I (j.length:Int)),(8,.I st)],[(617,.var [.map 618]),(618,.map (QA V.I V.I f)),(619,.var (QL g)),(620,.var (Qe i))]⟩) (Sum.elim (fun q e σ=>e=.ret∧σ=⟨[(4,.I q)],[(617,.var [.map 618]),(618,.map (QA V.I V.I f)),(619,.var (QL g)),(620,.var (Qe i))]⟩) (fun q e σ=>e=.exit 0∧σ=⟨[],[(617,.var [.map 618]),(618,.map (QA V.I V.I f)),(619,.var (QL g)),(620,.var (Qe i))]⟩)) k rfl ?_ ?_
 ·rintro v o σ rfl h
  refine tg_ hC [.n 6] rfl ?_
  rcases Qt h with⟨a,h⟩|⟨a,h⟩
  ·obtain⟨s,l,h⟩:=Qb h
   obtain⟨t,m,h⟩:=Qb h
   refine Qa hC [.T,.n 15,.o (.row (Qe s)),.n 1,.cm (.clo) [(617,617),(618,618),(619,619),(620,620)] [(617,617),(618,618),(619,619),(620,620)] [] [.d,.d,.d,.d] [(617,.var [.map 618]),(618,.map (QA V.I V.I f)),(619,.var (QL g)),(620,.var (Qe i))] (.b t),.n 2] rfl ⟨⟨⟨tt_,a⟩,(QT l)⟩,(QuV _ _ _ _ m)⟩ ?_
   refine bg_ h (fun c h=>Qa hC [.T,.n 9,.K [4] [617,618,619,620]] rfl ⟨tt_,c⟩ ?_) fun c h=>Qa hC [.F,.n 7,.K [0,1,7,8] [617,618,619,620]] rfl ⟨tt_,c⟩ ?_
   ·cases h
    exact Qav rfl (an_ rfl rfl)
   cases h
   exact Q6 rfl rfl
  refine Qa hC [.F,.n 2,.K [] [617,618,619,620]] rfl ⟨tt_,a⟩ ?_
  cases h
  exact Q8 rfl (an_ rfl rfl)
 rcases p with(u | _)
 ·replace h:Qgc u=some r:=h
  rintro e σ ⟨rfl,rfl⟩
  refine tg_ hC [.n 2] rfl ?_
  cases h
  exact d1_ rfl rfl ⟨rfl,rfl,rfl,rfl,tt_⟩
 replace h:Qgd=some r:=h
 rintro e σ ⟨rfl,rfl⟩
 refine tg_ hC [.n 8] rfl ?_
 cases h
 exact d1_ rfl rfl ⟨rfl,rfl,rfl,rfl,tt_⟩
def Qjy (g:QBg)(d:Q2)(a:(List Qm))(at_8:Int):Option (((List Qm)×Int)⊕(List Qm)):=
 bif (decide (0<((Qv g at_8).getD 0)))then
 (Qi3 d at_8).bind fun c=>
 (QcA c g d at_8).bind fun e=>
 (idx c e).bind fun f=>
 (idx d.Edges f).bind fun b=>
 (chk (decide (a.length+([b.Mode]:List Qm).length≤4294967296))).bind fun _=>
 some (.inl ((a++[b.Mode]),b.To))
 else
 some (.inr a)
def QqG (a:(List Qm)):Option (List Qm):=
 some a
def QhX (a:Q2)(c:Int):Option (List Qm):=
 (QnM a c).bind fun b=>
 bif (!(Qv b 0).isSome)then
 some ([]:List Qm)
 else
 (QJ (fun st=>Qjy b a st.1 st.2) (([]:List Qm),0)).bind (fun q=>QqG q)
theorem QqH (p P){r}(h:QhX p P=some r):Qc prog 19 [.agg (QL p),.I P] [] (Gives (.own 600 r.length) [(600,.arr 4 (r.map Qk))]):=by
 refine Qc.walk 50 func19 rfl rfl rfl fun C hC=>?_
 obtain⟨i,L,h⟩:=Qb h
 refine Qa hC [.n 8,.v .no [] (.agg (QL p)),.n 1,.cm (.fn) [] [(15,602)] [] [.d,.d] [(602,.map (QA V.I V.I i))] (.map 602),.n 2,.O 5 (.var [.map 15]),.n 6,.o (.any (.tup [.I ((Qv i 0).getD 0),.b (Qv i 0).isSome]) none),.n 13] rfl ⟨⟨⟨⟨tt_,rfl⟩,(Qxs _ _ L)⟩,rfl⟩,(fun σ t y _=>Stp.lookupOk (e:=V.I) (f:=V.I) (l:=i) (k:=0) (z:=0) rfl rfl (QN hC.n rfl) (t _ _ rfl) (y _ _ rfl) (t _ _ rfl) Qmw Qdh Qk9 rfl rfl)⟩ ?_
 refine bg_ h (fun u h=>Qa hC [.T,.n 7,.adopt 4 600 4,.O 600 (.arr 4 (([]:List Qm).map Qk)),.S 4 (.own 600 ([]:List Qm).length),.K [4] [600]] rfl ⟨⟨⟨tt_,u⟩,rfl⟩,rfl⟩ ?_) fun u h=>Qa hC [.F,.n 12,.O 9 (.var (Qe 0)),.n 3,.adopt 8 8 4,.O 8 (.arr 4 (([]:List Qm).map Qk)),.S 8 (.own 8 ([]:List Qm).length),.K [2,5,8,9] [2,5,8,9,15]] rfl ⟨⟨⟨⟨tt_,u⟩,rfl⟩,rfl⟩,(congrArg (fun n=>V.own 8 n) (by simp))⟩ ?_
 ·cases h
  exact d1_ rfl rfl ⟨rfl,tt_⟩
 obtain⟨w,A,h⟩:=Qb h
 refine AK.loop (body:=(fun st=>Qjy i p st.1 st.2)) (fun st σ=>σ=⟨[(2,.loc 2 0 0),(5,.loc 5 0 0),(8,.own 8 st.1.length),(9,.loc 9 0 0)],[(2,.var (QL p)),(5,.var [.map 15]),(8,.arr 4 (st.1.map Qk)),(9,.var (Qe st.2)),(15,.map (QA V.I V.I i))]⟩) (fun q e σ=>e=.exit 0∧σ=⟨[(8,.own 8 q.length)],[(8,.arr 4 (q.map Qk))]⟩) A rfl ?_ ?_
 ·rintro ⟨j,at_8⟩ o σ rfl h
  refine Qa hC [.n 5,.o (.any (.I ((Qv i at_8).getD 0)) none),.n 3] rfl ⟨tt_,(fun σ t y _=>Stp.lookup (e:=V.I) (f:=V.I) (l:=i) (k:=at_8) (z:=0) rfl rfl (QN hC.n rfl) (t _ _ rfl) (y _ _ rfl) (t _ _ rfl) Qmw Qdh Qk9 rfl)⟩ ?_
  rcases Qt h with⟨g,h⟩|⟨g,h⟩
  ·obtain⟨x,B,h⟩:=Qb h
   obtain⟨D,E,h⟩:=Qb h
   obtain⟨M,G,h⟩:=Qb h
   obtain⟨c,H,h⟩:=Qb h
   refine Qa hC [.T,.n 12,.v .no [] (.agg (QL p)),.n 1,.o (.co false [.d,.d] 1 (x.map Qe) x.length),.n 4,.frz 30 (x.map Qe) [11,30] [],.K [2,5,8,9,10,11] [2,5,8,9,15]] rfl ⟨⟨⟨⟨tt_,g⟩,rfl⟩,⟨(Qno _ _ B),Qf,.inl rfl⟩⟩,⟨⟨tt_,(QbQ Qf)⟩,(QbQ Qf)⟩⟩ ?_
   refine AK.draw2 Qs hC mixed [.N,.N,.N,.N,.N,.a (.any (.I D) none) none false,.a (.row (Qe M)) none false,.N,.a (.row (QZ c)) none false,.a .no (some ([],.agg (QZ c))) false,.N,.m .s] [] [] [2,5,8,9,12] [2,5,8,9,12,15] rfl rfl rfl ⟨⟨⟨⟨tt_,(fun σ t y _=>Stp.callSame (md:=.cm (.fn) [(617,5),(618,15),(619,2),(620,9)] [(5,617),(15,618),(2,619),(9,620)] [] [.d,.d] [(617,.var [.map 618]),(618,.map (QA V.I V.I i)),(619,.var (QL p)),(620,.var (Qe at_8))] (.I D) [5,15,2,9]) Qs hC t y rfl ⟨⟨tt_,(Ql4 _ _ _ _ E)⟩,⟨rfl,rfl,rfl,rfl,tt_⟩⟩)⟩,(QT G)⟩,(QT H)⟩,rfl⟩ rfl (by kernel_rfl) rfl rfl rfl ?_
   obtain⟨J,h⟩:=QaW h
   refine Qa hC [.O 12 (.var (QZ c)),.n 1,.K [2,5,8,9,12] [2,5,8,9,12,15]] rfl ⟨tt_,rfl⟩ ?_
   refine AK.draw2 Qs hC mixed [.N,.N,.a .no (some ([],.agg (Qk c.Mode))) false,.a (.bd []) (some ([],.sl 4 (([c.Mode]:List Qm).map Qk))) false,.m (.app ((j++[c.Mode]).map Qk) (j++[c.Mode]).length),.a .no none true,.a .no none true,.m .s,.m .s] [2,5,9,12] [2,5,9,12,15] [2,5,8,9] [2,5,8,9,15] rfl rfl rfl ⟨⟨⟨tt_,rfl⟩,rfl⟩,⟨Qf,QbP J Qf,QaY,QcN Qf⟩⟩ rfl (by kernel_rfl) rfl rfl rfl ?_
   refine Qa hC [.O 9 (.var (Qe c.To)),.n 8,.kill 9,.n 2,.O 9 (.var (Qe c.To)),.n 1,.K [2,5,8,9] [2,5,8,9,15]] rfl ⟨⟨tt_,rfl⟩,rfl⟩ ?_
   cases h
   exact Q6 rfl rfl
  refine Qa hC [.F,.n 2,.K [8] [8]] rfl ⟨tt_,g⟩ ?_
  cases h
  exact Q8 rfl (an_ rfl rfl)
 replace h:QqG w=some r:=h
 rintro e σ ⟨rfl,rfl⟩
 refine tg_ hC [.n 9,.K [4] [8],.ren 8 600] rfl ?_
 cases h
 exact d1_ rfl rfl ⟨rfl,tt_⟩
def Qbe (c:QBg)(e:QBg)(b:Int):Option (Int⊕(Unit⊕Unit)):=
 bif (decide (b<(c.length:Int)))then
 (idx c b).bind fun d=>
 (idx e b).bind fun a=>
 bif (!((d.1==a.1)&&(d.2==a.2)))then
 some (.inr (.inl ()))
 else
 some (.inl (w64 (b+1)))
 else
 some (.inr (.inr ()))
def Qgs : Option Bool:=
 some false
def Qgt : Option Bool:=
 some true
def QcQ (a:QBg)(b:QBg):Option Bool:=
 bif ((a.length:Int) != (b.length:Int))then
 some false
 else
 (QJ (fun st=>Qbe a b st) 0).bind (Sum.elim (fun q=>Qgs) (fun q=>Qgt))
theorem Qmg (f j){r}(h:QcQ f j=some r):Qc prog 64 [.sl 2 (f.map QI),.sl 2 (j.map QI)] [] (Gives (.b r) []):=by
 refine Qc.walk 26 func64 rfl rfl rfl fun C hC=>?_
 refine Qa hC [.n 9,.o (.ln f.length),.n 1,.o (.ln j.length),.n 3] rfl ⟨⟨tt_,Qf⟩,Qf⟩ ?_
 refine bg_ h (fun g h=>Qa hC [.T,.n 7,.K [4] []] rfl ⟨tt_,g⟩ ?_) fun g h=>Qa hC [.F,.n 6,.o (.ln f.length),.n 4,.K [0,1,12,13] []] rfl ⟨⟨tt_,g⟩,Qf⟩ ?_
 ·cases h
  exact d1_ rfl rfl tt_
 obtain⟨p,k,h⟩:=Qb h
 refine AK.loop (body:=(fun st=>Qbe f j st)) (fun st σ=>σ=⟨[(0,.sl 2 (f.map QI)),(1,.sl 2 (j.map QI)),(12,.I (f.length:Int)),(13,.I st)],[]⟩) (Sum.elim (fun q e σ=>e=.ret∧σ=⟨[(4,.b false)],[]⟩) (fun q e σ=>e=.exit 0∧σ=⟨[],[]⟩)) k rfl ?_ ?_
 ·rintro u o σ rfl h
  refine tg_ hC [.n 6] rfl ?_
  rcases Qt h with⟨i,h⟩|⟨i,h⟩
  ·obtain⟨m,s,h⟩:=Qb h
   obtain⟨d,l,h⟩:=Qb h
   refine Qa hC [.T,.n 11,.K [0,1,5,12,13] []] rfl ⟨tt_,i⟩ ?_
   refine AK.draw2 Qs hC mixed [.N,.N,.a (.row (QI m)) none false,.a .no (some ([],.agg (QI m))) false,.N,.N,.a (.row (QI d)) none false,.a .no (some ([],.agg (QI d))) false,.a (.any (.b (!((m.1==d.1)&&(m.2==d.2)))) none) none false] [] [] [0,1,12,13,24] [] rfl rfl rfl ⟨⟨⟨⟨⟨tt_,(QT s)⟩,rfl⟩,(QT l)⟩,rfl⟩,(fun σ t v _=>Stp.neAgg rfl rfl (QN hC.n rfl) (t _ _ rfl) (t _ _ rfl) rfl rfl (QEV _ _ _ _))⟩ rfl (by kernel_rfl) rfl rfl rfl ?_
   refine tg_ hC [.n 1] rfl ?_
   refine bg_ h (fun c h=>Qa hC [.T,.n 8,.K [4] []] rfl ⟨tt_,c⟩ ?_) fun c h=>Qa hC [.F,.n 7,.K [0,1,12,13] []] rfl ⟨tt_,c⟩ ?_
   ·cases h
    exact Qav rfl (an_ rfl rfl)
   cases h
   exact Q6 rfl rfl
  refine Qa hC [.F,.n 2,.K [] []] rfl ⟨tt_,i⟩ ?_
  cases h
  exact Q8 rfl (an_ rfl rfl)
 rcases p with(_ | _)
 ·replace h:Qgs=some r:=h
  rintro e σ ⟨rfl,rfl⟩
  refine tg_ hC [.n 2] rfl ?_
  cases h
  exact d1_ rfl rfl tt_
 replace h:Qgt=some r:=h
 rintro e σ ⟨rfl,rfl⟩
 refine tg_ hC [.n 8] rfl ?_
 cases h
 exact d1_ rfl rfl tt_
def Qs5 (b:QBg)(c:QBg):Option Bool:=
 (Qc4 b).bind fun d=>
 bif d then
 (Qc4 c).bind fun e=>
 bif e then
 (QcQ b c).bind fun a=>
 some a
 else
 some false
 else
 some false
def Qoc (a:Bool):Option Bool:=
 some a
def QoW (a:QBg)(b:QBg):Option Bool:=
 (Qs5 a b).bind (fun c=>Qoc c)
theorem Qye (m p){r}(h:QoW m p=some r):Qc prog 35 [.sl 2 (m.map QI),.sl 2 (p.map QI)] [] (Gives (.b r) []):=by
 refine Qc.walk 16 func35 rfl rfl rfl fun C hC=>?_
 refine tg_ hC [.n 6] rfl ?_
 obtain⟨g,i,h⟩:=Qb h
 replace h:Qoc g=some r:=h
 refine AK.meetX (fun σ=>σ=⟨[(4,.b g)],[]⟩) ?_ ?_
 ·replace h:=i
  obtain⟨q,j,h⟩:=Qb h
  refine Qa hC [.n 2,.o (.c false [.d] (.b q)),.n 1] rfl ⟨tt_,(QfQ _ j)⟩ ?_
  rcases Qt h with⟨a,h⟩|⟨a,h⟩
  ·obtain⟨s,k,h⟩:=Qb h
   refine Qa hC [.S 7 (.b true),.n 1,.o (.c false [.d] (.b s)),.n 2] rfl ⟨(tc_ a),(QfQ _ k)⟩ ?_
   rcases Qt h with⟨e,h⟩|⟨e,h⟩
   ·obtain⟨l,f,h⟩:=Qb h
    refine Qa hC [.S 11 (.b true),.n 2,.o (.c false [.d,.d] (.b l)),.n 3,.K [4] []] rfl ⟨(tc_ e),(Qmg _ _ f)⟩ ?_
    cases h
    exact AK.met rfl
   refine Qa hC [.S 11 (.b false),.n 6,.K [4] []] rfl (tc_ e) ?_
   cases h
   exact AK.met rfl
  refine Qa hC [.S 7 (.b false),.n 10,.K [4] []] rfl (tc_ a) ?_
  cases h
  exact AK.met rfl
 rintro σ rfl
 replace h:Qoc g=some r:=h
 refine tg_ hC [.n 2] rfl ?_
 cases h
 exact d1_ rfl rfl tt_
def QY (d:QMk)(e:QMk)(a:Int):Option (Int⊕(Unit⊕Unit)):=
 bif (decide (a<(d.length:Int)))then
 (idx d a).bind fun f=>
 (idx e a).bind fun b=>
 (QoW f b).bind fun c=>
 bif (!c)then
 some (.inr (.inl ()))
 else
 some (.inl (w64 (a+1)))
 else
 some (.inr (.inr ()))
def Qa9 : Option Bool:=
 some false
def Qba : Option Bool:=
 some true
def Qar (a:QMk)(b:QMk):Option Bool:=
 bif ((a.length:Int) != (b.length:Int))then
 some false
 else
 (QJ (fun st=>QY a b st) 0).bind (Sum.elim (fun q=>Qa9) (fun q=>Qba))
theorem Qdl (f j){r}(h:Qar f j=some r):Qc prog 34 [.sl 1 (f.map Qi),.sl 1 (j.map Qi),.clo (.func 35) [] []] [] (Gives (.b r) []):=by
 refine Qc.walk 32 func34 rfl rfl rfl fun C hC=>?_
 refine Qa hC [.n 9,.o (.ln f.length),.n 1,.o (.ln j.length),.n 3] rfl ⟨⟨tt_,Qf⟩,Qf⟩ ?_
 refine bg_ h (fun g h=>Qa hC [.T,.n 7,.K [6] []] rfl ⟨tt_,g⟩ ?_) fun g h=>Qa hC [.F,.n 6,.o (.ln f.length),.n 4,.K [1,2,15,16,17] []] rfl ⟨⟨tt_,g⟩,Qf⟩ ?_
 ·cases h
  exact d1_ rfl rfl tt_
 obtain⟨p,k,h⟩:=Qb h
 refine AK.loop (body:=(fun st=>QY f j st)) (fun st σ=>σ=⟨[(1,.sl 1 (j.map Qi)),(2,.clo (.func 35) [] []),(15,.sl 1 (f.map Qi)),(16,.I (f.length:Int)),(17,.I st)],[]⟩) (Sum.elim (fun q e σ=>e=.ret∧σ=⟨[(6,.b false)],[]⟩) (fun q e σ=>e=.exit 0∧σ=⟨[],[]⟩)) k rfl ?_ ?_
 ·rintro w o σ rfl h
  refine tg_ hC [.n 6] rfl ?_
  rcases Qt h with⟨i,h⟩|⟨i,h⟩
  ·obtain⟨v,s,h⟩:=Qb h
   obtain⟨t,l,h⟩:=Qb h
   obtain⟨u,m,h⟩:=Qb h
   refine Qa hC [.T,.n 7,.o (.row (Qi v)),.n 9,.o (.row (Qi t)),.n 9,.o (.c false [.d,.d] (.b u)),.n 3] rfl ⟨⟨⟨⟨tt_,i⟩,(QT s)⟩,(QT l)⟩,(Qye _ _ m)⟩ ?_
   refine bg_ h (fun a h=>Qa hC [.T,.n 8,.K [6] []] rfl ⟨tt_,a⟩ ?_) fun a h=>Qa hC [.F,.n 7,.K [1,2,15,16,17] []] rfl ⟨tt_,a⟩ ?_
   ·cases h
    exact Qav rfl (an_ rfl rfl)
   cases h
   exact Q6 rfl rfl
  refine Qa hC [.F,.n 2,.K [] []] rfl ⟨tt_,i⟩ ?_
  cases h
  exact Q8 rfl (an_ rfl rfl)
 rcases p with(_ | _)
 ·replace h:Qa9=some r:=h
  rintro e σ ⟨rfl,rfl⟩
  refine tg_ hC [.n 2] rfl ?_
  cases h
  exact d1_ rfl rfl tt_
 replace h:Qba=some r:=h
 rintro e σ ⟨rfl,rfl⟩
 refine tg_ hC [.n 8] rfl ?_
 cases h
 exact d1_ rfl rfl tt_
def Qi4 (a:QMk)(b:QMk):Option Bool:=
 (Qar a b).bind fun c=>
 some c
theorem QrA (c e){r}(h:Qi4 c e=some r):Qc prog 14 [.sl 1 (c.map Qi),.sl 1 (e.map Qi)] [] (Gives (.b r) []):=by
 refine Qc.walk 8 func14 rfl rfl rfl fun C hC=>?_
 obtain⟨f,a,h⟩:=Qb h
 refine Qa hC [.n 9,.cm (.fn) [] [] [] [.d,.d,.d] [] (.b f),.n 4] rfl ⟨tt_,(Qdl _ _ a)⟩ ?_
 cases h
 exact d1_ rfl rfl tt_
def QrB (a:QMk)(b:QMk):Option Bool:=
 (Qi4 a b).bind fun c=>
 some c
theorem QuW (f a){r}(h:QrB f a=some r):Qc prog 31 [.sl 1 (f.map Qi),.loc 617 0 0] [(617,.var (Qu a))] (Gives (.b r) [(617,.var (Qu a))]):=by
 refine Qc.walk 7 func31 rfl rfl rfl fun C hC=>?_
 obtain⟨g,e,h⟩:=Qb h
 refine Qa hC [.n 9,.o (.c false [.d,.d] (.b g)),.n 4] rfl ⟨tt_,(QrA _ _ e)⟩ ?_
 cases h
 exact d1_ rfl rfl ⟨rfl,tt_⟩
def QcX (c:(List QMk))(d:QMk)(a:Int):Option (Int⊕(Int⊕Unit)):=
 bif (decide (a<(c.length:Int)))then
 (idx c a).bind fun e=>
 (QrB e d).bind fun b=>
 bif b then
 some (.inr (.inl a))
 else
 some (.inl (w64 (a+1)))
 else
 some (.inr (.inr ()))
def QcY (a:Int):Option Int:=
 some a
def QcZ : Option Int:=
 some (-1)
def Qdq (a:(List QMk))(b:QMk):Option Int:=
 (QJ (fun st=>QcX a b st) 0).bind (Sum.elim (fun q=>QcY q) (fun q=>QcZ))
theorem QgS (g c){r}(h:Qdq g c=some r):Qc prog 30 [.sl 1 (g.map Qu),.clo (.func 31) [] [.loc 617 0 0]] [(617,.var (Qu c))] (Gives (.I r) [(617,.var (Qu c))]):=by
 refine Qc.walk 19 func30 rfl rfl rfl fun C hC=>?_
 refine Qa hC [.n 9,.o (.ln g.length),.n 4,.K [0,1,7,8] [617]] rfl ⟨tt_,Qf⟩ ?_
 obtain⟨k,i,h⟩:=Qb h
 refine AK.loop (body:=(fun st=>QcX g c st)) (fun st σ=>σ=⟨[(0,.sl 1 (g.map Qu)),(1,.clo (.func 31) [] [.loc 617 0 0]),(7,.I (g.length:Int)),(8,.I st)],[(617,.var (Qu c))]⟩) (Sum.elim (fun q e σ=>e=.ret∧σ=⟨[(4,.I q)],[(617,.var (Qu c))]⟩) (fun q e σ=>e=.exit 0∧σ=⟨[],[(617,.var (Qu c))]⟩)) i rfl ?_ ?_
 ·rintro t o σ rfl h
  refine tg_ hC [.n 6] rfl ?_
  rcases Qt h with⟨f,h⟩|⟨f,h⟩
  ·obtain⟨p,l,h⟩:=Qb h
   obtain⟨m,j,h⟩:=Qb h
   refine Qa hC [.T,.n 15,.o (.row (Qu p)),.n 1,.cm (.clo) [(617,617)] [(617,617)] [] [.d,.d] [(617,.var (Qu c))] (.b m),.n 2] rfl ⟨⟨⟨tt_,f⟩,(QT l)⟩,(QuW _ _ j)⟩ ?_
   refine bg_ h (fun a h=>Qa hC [.T,.n 9,.K [4] [617]] rfl ⟨tt_,a⟩ ?_) fun a h=>Qa hC [.F,.n 7,.K [0,1,7,8] [617]] rfl ⟨tt_,a⟩ ?_
   ·cases h
    exact Qav rfl (an_ rfl rfl)
   cases h
   exact Q6 rfl rfl
  refine Qa hC [.F,.n 2,.K [] [617]] rfl ⟨tt_,f⟩ ?_
  cases h
  exact Q8 rfl (an_ rfl rfl)
 rcases k with(s | _)
 ·replace h:QcY s=some r:=h
  rintro e σ ⟨rfl,rfl⟩
  refine tg_ hC [.n 2] rfl ?_
  cases h
  exact d1_ rfl rfl ⟨rfl,tt_⟩
 replace h:QcZ=some r:=h
 rintro e σ ⟨rfl,rfl⟩
 refine tg_ hC [.n 8] rfl ?_
 cases h
 exact d1_ rfl rfl ⟨rfl,tt_⟩
def Qt0 (a:Q2)(b:QMk):Option Int:=
 (Qdq a.States b).bind fun c=>
 some c
theorem Qwz (c a){r}(h:Qt0 c a=some r):Qc prog 12 [.agg (QL c),.sl 1 (a.map Qi)] [] (Gives (.I r) []):=by
 refine Qc.walk 9 func12 rfl rfl rfl fun C hC=>?_
 obtain⟨e,b,h⟩:=Qb h
 refine Qa hC [.n 12,.cm (.fn) [(617,3)] [(3,617)] [] [.d,.d] [(617,.var (Qu a))] (.I e),.n 4] rfl ⟨tt_,(QgS _ _ b)⟩ ?_
 cases h
 exact d1_ rfl rfl tt_
def QpI (d:Q2)(b:Int)(c:(List Int)):Option ((Int×(List Int))⊕(List Int)):=
 bif (decide (b<(d.Edges.length:Int)))then
 (idx d.Edges b).bind fun a=>
 (chk (decide (c.length+([a.Mode.Task]:List Int).length≤4294967296))).bind fun _=>
 some (.inl ((w64 (b+1)),(c++([a.Mode.Task]:List Int))))
 else
 some (.inr c)
def QpJ (c:(List Int)):Option (List Int):=
 (Qbc c).bind fun a=>
 (chk (decide (a.length=c.length))).bind fun _=>
 (QdT a).bind fun b=>
 some b
def Qs6 (a:Q2):Option (List Int):=
 (QJ (fun st=>QpI a st.1 st.2) (0,([]:List Int))).bind (fun q=>QpJ q)
theorem QvG (g){r}(h:Qs6 g=some r):Qc prog 23 [.agg (QL g)] [] (Gives (.own 600 r.length) [(600,.arr 1 (r.map Qe))]):=by
 refine Qc.walk 24 func23 rfl rfl rfl fun C hC=>?_
 refine Qa hC [.n 16,.o (.ln g.Edges.length),.n 4,.adopt 3 13 1,.O 13 (.arr 1 (([]:List Int).map Qe)),.S 3 (.own 13 ([]:List Int).length),.K [3,7,8,9] [13]] rfl ⟨⟨⟨tt_,Qf⟩,rfl⟩,(congrArg (fun n=>V.own 13 n) (by simp))⟩ ?_
 obtain⟨t,i,h⟩:=Qb h
 refine AK.loop (body:=(fun st=>QpI g st.1 st.2)) (fun st σ=>σ=⟨[(3,.own 13 st.2.length),(7,.sl 6 (g.Edges.map QZ)),(8,.I (g.Edges.length:Int)),(9,.I st.1)],[(13,.arr 1 (st.2.map Qe))]⟩) (fun q e σ=>e=.exit 0∧σ=⟨[(3,.own 13 q.length)],[(13,.arr 1 (q.map Qe))]⟩) i rfl ?_ ?_
 ·rintro ⟨u,s⟩ o σ rfl h
  refine tg_ hC [.n 6] rfl ?_
  rcases Qt h with⟨c,h⟩|⟨c,h⟩
  ·obtain⟨a,j,h⟩:=Qb h
   obtain⟨k,h⟩:=QaW h
   refine Qa hC [.T,.n 6,.o (.row (QZ a)),.v .no [] (.agg (QZ a)),.n 2,.O 5 (.var (QZ a)),.n 7,.v (.bd []) [] (.sl 1 (([a.Mode.Task]:List Int).map Qe)),.app ((s++([a.Mode.Task]:List Int)).map Qe) (s++([a.Mode.Task]:List Int)).length,.n 8,.K [3,7,8,9] [13]] rfl ⟨⟨⟨⟨⟨⟨tt_,c⟩,(QT j)⟩,rfl⟩,rfl⟩,rfl⟩,⟨Qf,QbP k Qf,QaY,QcN Qf⟩⟩ ?_
   cases h
   exact Q6 rfl rfl
  refine Qa hC [.F,.n 2,.K [3] [13]] rfl ⟨tt_,c⟩ ?_
  cases h
  exact Q8 rfl (an_ rfl rfl)
 replace h:QpJ t=some r:=h
 rintro e σ ⟨rfl,rfl⟩
 obtain⟨f,l,h⟩:=Qb h
 obtain⟨b,h⟩:=QaW h
 obtain⟨m,p,h⟩:=Qb h
 refine Qa hC [.n 5,.cm (.fn) [(617,13)] [(13,617)] [] [.d] [(617,.arr 1 (f.map Qe))] (.tup []),.S 3 (.own 13 f.length),.S 20 (.own 13 f.length),.n 5,.cm (.fn) [(617,13)] [(13,617)] [] [.d] [(617,.arr 1 (m.map Qe))] (.own 617 m.length),.n 4,.K [2] [13],.ren 13 600] rfl ⟨⟨⟨⟨tt_,(QdN _ l)⟩,(by simp [Q9 b])⟩,(by simp [Q9 b])⟩,(Qid _ p)⟩ ?_
 cases h
 exact d1_ rfl rfl ⟨rfl,tt_⟩
def QqI (c:(List Int))(d:(List Int))(a:Int):Option (Int⊕(Unit⊕Unit)):=
 bif (decide (a<(c.length:Int)))then
 (idx c a).bind fun e=>
 (idx d a).bind fun b=>
 bif (e != b)then
 some (.inr (.inl ()))
 else
 some (.inl (w64 (a+1)))
 else
 some (.inr (.inr ()))
def QqJ : Option Bool:=
 some false
def QqK : Option Bool:=
 some true
def QpK (a:(List Int))(b:(List Int)):Option Bool:=
 bif ((a.length:Int) != (b.length:Int))then
 some false
 else
 (QJ (fun st=>QqI a b st) 0).bind (Sum.elim (fun q=>QqJ) (fun q=>QqK))
theorem QqL (g i){r}(h:QpK g i=some r):Qc prog 22 [.sl 1 (g.map Qe),.sl 1 (i.map Qe)] [] (Gives (.b r) []):=by
 refine Qc.walk 26 func22 rfl rfl rfl fun C hC=>?_
 refine Qa hC [.n 9,.o (.ln g.length),.n 1,.o (.ln i.length),.n 3] rfl ⟨⟨tt_,Qf⟩,Qf⟩ ?_
 refine bg_ h (fun d h=>Qa hC [.T,.n 7,.K [4] []] rfl ⟨tt_,d⟩ ?_) fun d h=>Qa hC [.F,.n 9,.K [0,1,5] []] rfl ⟨tt_,d⟩ ?_
 ·cases h
  exact d1_ rfl rfl tt_
 obtain⟨l,j,h⟩:=Qb h
 refine AK.loop (body:=(fun st=>QqI g i st)) (fun st σ=>σ=⟨[(0,.sl 1 (g.map Qe)),(1,.sl 1 (i.map Qe)),(5,.I st)],[]⟩) (Sum.elim (fun q e σ=>e=.ret∧σ=⟨[(4,.b false)],[]⟩) (fun q e σ=>e=.exit 0∧σ=⟨[],[]⟩)) j rfl ?_ ?_
 ·rintro t o σ rfl h
  refine Qa hC [.n 5,.o (.ln g.length),.n 3] rfl ⟨tt_,Qf⟩ ?_
  rcases Qt h with⟨f,h⟩|⟨f,h⟩
  ·obtain⟨s,m,h⟩:=Qb h
   obtain⟨p,k,h⟩:=Qb h
   refine Qa hC [.T,.n 5,.K [0,1,5] []] rfl ⟨tt_,f⟩ ?_
   refine AK.draw2 Qs hC mixed [.N,.N,.a (.row (Qe s)) none false,.N,.N,.N,.a (.row (Qe p)) none false,.N,.N] [] [] [0,1,5,25] [] rfl rfl rfl ⟨⟨tt_,(QT m)⟩,(QT k)⟩ rfl (by kernel_rfl) rfl rfl rfl ?_
   refine tg_ hC [.n 1] rfl ?_
   refine bg_ h (fun c h=>Qa hC [.T,.n 8,.K [4] []] rfl ⟨tt_,c⟩ ?_) fun c h=>Qa hC [.F,.n 8,.K [0,1,5] []] rfl ⟨tt_,c⟩ ?_
   ·cases h
    exact Qav rfl (an_ rfl rfl)
   cases h
   exact Q6 rfl rfl
  refine Qa hC [.F,.n 2,.K [] []] rfl ⟨tt_,f⟩ ?_
  cases h
  exact Q8 rfl (an_ rfl rfl)
 rcases l with(_ | _)
 ·replace h:QqJ=some r:=h
  rintro e σ ⟨rfl,rfl⟩
  refine tg_ hC [.n 2] rfl ?_
  cases h
  exact d1_ rfl rfl tt_
 replace h:QqK=some r:=h
 rintro e σ ⟨rfl,rfl⟩
 refine tg_ hC [.n 8] rfl ?_
 cases h
 exact d1_ rfl rfl tt_
def QvH (a:Q2)(h:Q2)(i:Q2)(j:(List Qm)):Option Bool:=
 bif ((a.States.length:Int)==2)then
 bif ((a.Edges.length:Int)==1)then
 bif a.Full then
 bif ((h.States.length:Int)==1)then
 bif (!h.Full)then
 bif (!i.Full)then
 bif ((i.States.length:Int)==1)then
 bif ((j.length:Int)==1)then
 (Qt0 a ([([]:QBg),([(0,1)]:List (Int×Int))]:List QBg)).bind fun b=>
 bif (b==1)then
 (Qs6 a).bind fun c=>
 (QpK c ([0]:List Int)).bind fun d=>
 bif d then
 (Qi3 a 0).bind fun e=>
 (QpK e ([0]:List Int)).bind fun f=>
 bif f then
 (Qi3 a 1).bind fun g=>
 some ((g.length:Int)==0)
 else
 some false
 else
 some false
 else
 some false
 else
 some false
 else
 some false
 else
 some false
 else
 some false
 else
 some false
 else
 some false
 else
 some false
 else
 some false
def Ql5 (a:Bool):Option Bool:=
 some a
def Qod  : Option Bool:=
 (Qvq).bind fun a=>
 (QdU a 10 10).bind fun b=>
 (QdU a 1 10).bind fun c=>
 (QdU a 10 0).bind fun d=>
 (QhX b 1).bind fun e=>
 (QvH b c d e).bind (fun f=>Ql5 f)
theorem QvI  {r:Bool}(h:Qod  = some r):Qc prog 7 [] [] (Gives (.b r) []):=by
 refine Qc.walk 82 func7 rfl rfl rfl fun C hC=>?_
 obtain⟨w,F,h⟩:=Qb h
 obtain⟨q,G,h⟩:=Qb h
 obtain⟨H,J,h⟩:=Qb h
 obtain⟨L,M,h⟩:=Qb h
 obtain⟨Y,N,h⟩:=Qb h
 refine Qa hC [.n 7,.o (.c false [] (.agg (Qd w))),.n 2,.O 1 (.var (Qd w)),.n 4,.v .no [] (.agg (Qd w)),.o (.c false [.d,.d,.d] (.agg (QL q))),.n 2,.O 2 (.var (QL q)),.n 4,.v .no [] (.agg (Qd w)),.o (.c false [.d,.d,.d] (.agg (QL H))),.n 2,.O 3 (.var (QL H)),.n 4,.v .no [] (.agg (Qd w)),.o (.c false [.d,.d,.d] (.agg (QL L))),.n 2,.O 4 (.var (QL L)),.n 4,.v .no [] (.agg (QL q)),.o (.co false [.d,.d] 4 (Y.map Qk) Y.length),.n 4] rfl ⟨⟨⟨⟨⟨⟨⟨⟨⟨⟨⟨⟨⟨tt_,(Qxm  F)⟩,rfl⟩,rfl⟩,(QgR _ _ _ G)⟩,rfl⟩,rfl⟩,(QgR _ _ _ J)⟩,rfl⟩,rfl⟩,(QgR _ _ _ M)⟩,rfl⟩,rfl⟩,⟨(QqH _ _ N),Qf,.inl rfl⟩⟩ ?_
 obtain⟨P,T,h⟩:=Qb h
 replace h:Ql5 P=some r:=h
 refine AK.meetX (fun σ=>σ=⟨[(0,.b P)],[]⟩) ?_ ?_
 ·replace h:=T
  refine Qa hC [.n 3,.o (.ln q.States.length),.n 2] rfl ⟨tt_,Qf⟩ ?_
  refine bg_ h (fun s h=>Qa hC [.S 19 (.b true),.n 2,.o (.ln q.Edges.length),.n 3] rfl ⟨(tc_ s),Qf⟩ ?_) fun s h=>Qa hC [.S 19 (.b false),.n 64,.K [0] []] rfl (tc_ s) ?_
  ·refine bg_ h (fun a h=>Qa hC [.S 25 (.b true),.n 4] rfl (tc_ a) ?_) fun a h=>Qa hC [.S 25 (.b false),.n 58,.K [0] []] rfl (tc_ a) ?_
   ·refine bg_ h (fun e h=>Qa hC [.S 29 (.b true),.n 2,.o (.ln H.States.length),.n 3] rfl ⟨(tc_ e),Qf⟩ ?_) fun e h=>Qa hC [.S 29 (.b false),.n 54,.K [0] []] rfl (tc_ e) ?_
    ·refine bg_ h (fun f h=>Qa hC [.S 35 (.b true),.n 5] rfl (tc_ f) ?_) fun f h=>Qa hC [.S 35 (.b false),.n 48,.K [0] []] rfl (tc_ f) ?_
     ·refine bg_ h (fun g h=>Qa hC [.S 40 (.b true),.n 5] rfl (tc_ g) ?_) fun g h=>Qa hC [.S 40 (.b false),.n 43,.K [0] []] rfl (tc_ g) ?_
      ·refine bg_ h (fun i h=>Qa hC [.S 45 (.b true),.n 2,.o (.ln L.States.length),.n 3] rfl ⟨(tc_ i),Qf⟩ ?_) fun i h=>Qa hC [.S 45 (.b false),.n 38,.K [0] []] rfl (tc_ i) ?_
       ·refine bg_ h (fun j h=>Qa hC [.S 51 (.b true),.n 5] rfl (tc_ j) ?_) fun j h=>Qa hC [.S 51 (.b false),.n 32,.K [0] []] rfl (tc_ j) ?_
        ·rcases Qt h with⟨k,h⟩|⟨k,h⟩
         ·obtain⟨U,x,h⟩:=Qb h
          refine Qa hC [.S 56 (.b true),.v .no [] (.agg (QL q)),.v .no [] (.agg (QI (0,1))),.v (.bd []) [] (.sl 2 (([(0,1)]:List (Int×Int)).map QI)),.v (.bd [some 2,none]) [] (.sl 1 (([([]:QBg),([(0,1)]:List (Int×Int))]:List QBg).map Qi)),.o (.c false [.d,.d] (.I U)),.n 3] rfl ⟨⟨⟨⟨⟨(tc_ k),rfl⟩,rfl⟩,rfl⟩,rfl⟩,(Qwz _ _ x)⟩ ?_
          rcases Qt h with⟨l,h⟩|⟨l,h⟩
          ·obtain⟨t,y,h⟩:=Qb h
           obtain⟨W,z,h⟩:=Qb h
           refine Qa hC [.S 64 (.b true),.v .no [] (.agg (QL q)),.o (.co false [.d] 1 (t.map Qe) t.length),.v (.bd []) [] (.sl 1 (([0]:List Int).map Qe)),.o (.c true [.o (t.map Qe),.d] (.b W)),.n 2] rfl ⟨⟨⟨⟨(tc_ l),rfl⟩,⟨(QvG _ y),Qf,.inl rfl⟩⟩,rfl⟩,⟨(Qrp rfl),(QqL _ _ z)⟩⟩ ?_
           rcases Qt h with⟨m,h⟩|⟨m,h⟩
           ·obtain⟨u,A,h⟩:=Qb h
            obtain⟨X,B,h⟩:=Qb h
            refine Qa hC [.S 70 (.b true),.v .no [] (.agg (QL q)),.o (.co false [.d,.d] 1 (u.map Qe) u.length),.v (.bd []) [] (.sl 1 (([0]:List Int).map Qe)),.o (.c true [.o (u.map Qe),.d] (.b X)),.n 2] rfl ⟨⟨⟨⟨(tc_ m),rfl⟩,⟨(Qno _ _ A),Qf,.inl rfl⟩⟩,rfl⟩,⟨(Qrp rfl),(QqL _ _ B)⟩⟩ ?_
            rcases Qt h with⟨p,h⟩|⟨p,h⟩
            ·obtain⟨D,E,h⟩:=Qb h
             refine Qa hC [.S 76 (.b true),.v .no [] (.agg (QL q)),.o (.co false [.d,.d] 1 (D.map Qe) D.length),.n 5,.K [0] []] rfl ⟨⟨(tc_ p),rfl⟩,⟨(Qno _ _ E),Qf,.inl rfl⟩⟩ ?_
             cases h
             exact AK.met rfl
            refine Qa hC [.S 76 (.b false),.n 7,.K [0] []] rfl (tc_ p) ?_
            cases h
            exact AK.met rfl
           refine Qa hC [.S 70 (.b false),.n 13,.K [0] []] rfl (tc_ m) ?_
           cases h
           exact AK.met rfl
          refine Qa hC [.S 64 (.b false),.n 19,.K [0] []] rfl (tc_ l) ?_
          cases h
          exact AK.met rfl
         refine Qa hC [.S 56 (.b false),.n 27,.K [0] []] rfl (tc_ k) ?_
         cases h
         exact AK.met rfl
        cases h
        exact AK.met rfl
       cases h
       exact AK.met rfl
      cases h
      exact AK.met rfl
     cases h
     exact AK.met rfl
    cases h
    exact AK.met rfl
   cases h
   exact AK.met rfl
  cases h
  exact AK.met rfl
 rintro σ rfl
 replace h:Ql5 P=some r:=h
 refine tg_ hC [.n 2] rfl ?_
 cases h
 exact d1_ rfl rfl tt_
def QkR (f:Qo)(rec_law04_few:Qo→Int→Option Int)(a:Int)(c:Int)(d:Int):Option ((Int×Int)⊕(Unit⊕Int)):=
 bif (decide (d<(f.Kids.length:Int)))then
 (idx f.Kids d).bind fun e=>
 (rec_law04_few e (w64 (a-1))).bind fun b=>
 bif (b==0)then
 some (.inr (.inl ()))
 else
 bif (decide ((w64 ((w64 (c-500))+b))≤1))then
 some (.inr (.inl ()))
 else
 some (.inl ((w64 ((w64 (c-500))+b)),(w64 (d+1))))
 else
 some (.inr (.inr c))
def QrC : Option Int:=
 some 0
def QrD (a:Int):Option Int:=
 some (w64 (a-1))
def Qoe (rec_law04_few:Qo→Int→Option Int)(b:Qo)(a:Int):Option Int:=
 bif ((decide (a≤0))||(decide (9<(b.Kids.length:Int))))then
 some 0
 else
 (QJ (fun st=>QkR b rec_law04_few a st.1 st.2) (500,0)).bind (Sum.elim (fun q=>QrC) (fun q=>QrD q))
def Qfi : Nat→Qo→Int→Option Int
 | 0,_,_=>none
 | n+1,b,a=>Qoe (Qfi n) b a
def Qrc (b:Qo)(a:Int):Option Int:=Qfi (SizeOf.sizeOf b) b a
theorem QvJ (rec_law04_few:Qo→Int→Option Int)(hrec_law04_few:∀(f:Qo) (a:Int) {r:Int},rec_law04_few f a=some r→Qc prog 75 [.agg (Qq f),.I a] [] (Gives (.I r) []))(f:Qo)(a:Int){r:Int}(h:Qoe rec_law04_few f a=some r):Qc prog 75 [.agg (Qq f),.I a] [] (Gives (.I r) []):=by
 refine Qc.walk 41 func75 rfl rfl rfl fun C hC=>?_
 refine tg_ hC [.n 8] rfl ?_
 refine AK.meetX (fun σ=>σ=⟨[(1,.I a),(2,.loc 2 0 0),(15,.b ((decide (a≤0))||(decide (9<(f.Kids.length:Int)))))],[(2,.var (Qq f))]⟩) ?_ ?_
 ·refine tg_ hC [.n 4] rfl ?_
  rcases Q7 (decide (a≤0))with g | g
  ·refine Qa hC [.S 10 (.b true),.n 6,.S 15 (.b ((decide (a≤0))||(decide (9<(f.Kids.length:Int))))),.K [1,2,15] [2]] rfl ⟨(tc_ g),(congrArg V.b (orT g rfl))⟩ ?_
   exact AK.met rfl
  refine Qa hC [.S 10 (.b false),.n 2,.o (.ln f.Kids.length),.n 3,.S 15 (.b ((decide (a≤0))||(decide (9<(f.Kids.length:Int))))),.K [1,2,15] [2]] rfl ⟨⟨(tc_ g),Qkx _⟩,(congrArg V.b (orF g rfl))⟩ ?_
  exact AK.met rfl
 rintro σ rfl
 refine tg_ hC [.n 1] rfl ?_
 refine bg_ h (fun l h=>Qa hC [.T,.n 7,.K [4] []] rfl ⟨tt_,l⟩ ?_) fun l h=>Qa hC [.F,.n 14,.K [1,2,5,6] [2]] rfl ⟨tt_,l⟩ ?_
 ·cases h
  exact d1_ rfl rfl tt_
 obtain⟨u,m,h⟩:=Qb h
 refine AK.loop (body:=(fun st=>QkR f rec_law04_few a st.1 st.2)) (fun st σ=>σ=⟨[(1,.I a),(2,.loc 2 0 0),(5,.I st.1),(6,.I st.2)],[(2,.var (Qq f))]⟩) (Sum.elim (fun q e σ=>e=.ret∧σ=⟨[(4,.I 0)],[]⟩) (fun q e σ=>e=.exit 0∧σ=⟨[(5,.I q)],[]⟩)) m rfl ?_ ?_
 ·rintro ⟨y,z⟩ o σ rfl h
  refine Qa hC [.n 6,.o (.ln f.Kids.length),.n 3] rfl ⟨tt_,Qkx _⟩ ?_
  rcases Qt h with⟨i,h⟩|⟨i,h⟩
  ·obtain⟨p,s,h⟩:=Qb h
   obtain⟨w,t,h⟩:=Qb h
   refine Qa hC [.T,.n 9,.o (.row (Qq p)),.v .no [] (.agg (Qq p)),.n 2,.o (.c false [.d,.d] (.I w)),.n 10] rfl ⟨⟨⟨⟨tt_,i⟩,(QeD s)⟩,rfl⟩,(hrec_law04_few _ _ t)⟩ ?_
   refine bg_ h (fun j h=>Qa hC [.T,.n 9,.K [4] []] rfl ⟨tt_,j⟩ ?_) fun j h=>Qa hC [.F,.n 17] rfl ⟨tt_,j⟩ ?_
   ·cases h
    exact Qav rfl (an_ rfl rfl)
   refine bg_ h (fun k h=>Qa hC [.T,.n 8,.K [4] []] rfl ⟨tt_,k⟩ ?_) fun k h=>Qa hC [.F,.n 8,.K [1,2,5,6] [2]] rfl ⟨tt_,k⟩ ?_
   ·cases h
    exact Qav rfl (an_ rfl rfl)
   cases h
   exact Q6 rfl rfl
  refine Qa hC [.F,.n 2,.K [5] []] rfl ⟨tt_,i⟩ ?_
  cases h
  exact Q8 rfl (an_ rfl rfl)
 rcases u with(_ | x)
 ·replace h:QrC=some r:=h
  rintro e σ ⟨rfl,rfl⟩
  refine tg_ hC [.n 2] rfl ?_
  cases h
  exact d1_ rfl rfl tt_
 replace h:QrD x=some r:=h
 rintro e σ ⟨rfl,rfl⟩
 refine tg_ hC [.n 10] rfl ?_
 cases h
 exact d1_ rfl rfl tt_
theorem QpL : ∀(fuel:Nat) (b:Qo) (a:Int) {r:Int},Qfi fuel b a=some r→Qc prog 75 [.agg (Qq b),.I a] [] (Gives (.I r) [])
 | 0,_,_,_,h=>by cases h
 | n+1,b,a,_,h=>QvJ (Qfi n) (fun _ _ _ h=>QpL n _ _ h) b a h
theorem Qxt (b a){r}(h:Qrc b a=some r):Qc prog 75 [.agg (Qq b),.I a] [] (Gives (.I r) []):=QpL _ b a h
def Qi5 (a:Qo):Option Bool:=
 (Qrc a 60).bind fun b=>
 some (decide (0<b))
theorem Qnq (a){r}(h:Qi5 a=some r):Qc prog 50 [.agg (Qq a)] [] (Gives (.b r) []):=by
 refine Qc.walk 6 func50 rfl rfl rfl fun C hC=>?_
 obtain⟨f,e,h⟩:=Qb h
 refine Qa hC [.n 8,.v .no [] (.agg (Qq a)),.o (.c false [.d,.d] (.I f)),.n 5] rfl ⟨⟨tt_,rfl⟩,(Qxt _ _ e)⟩ ?_
 cases h
 exact d1_ rfl rfl tt_
def Qnr (d:Qj)(e:Int)(a:Int)(b:QH):Option Bool:=
 (idx d.Colours e).bind fun c=>
 bif (decide (100<(c.Name.size:Int)))then
 some true
 else
 some (decide (400<(w64 (a+(b.Names.length:Int)))))
def QfT (e:Qj)(f:Int)(a:Int):Option (Int⊕(Unit⊕Unit)):=
 (idx e.Colours f).bind fun b=>
 bif (decide (a<(b.Names.length:Int)))then
 (idx e.Colours f).bind fun c=>
 (idx c.Names a).bind fun d=>
 bif (decide (100<(d.size:Int)))then
 some (.inr (.inl ()))
 else
 some (.inl (w64 (a+1)))
 else
 some (.inr (.inr ()))
def QrE : Option ((Int×Int)⊕(Unit⊕Int)):=
 some (.inr (.inl ()))
def QrF (a:Int)(b:QH)(c:Int):Option ((Int×Int)⊕(Unit⊕Int)):=
 some (.inl ((w64 (a+(b.Names.length:Int))),(w64 (c+1))))
def QhY (e:Qj)(d:Int)(a:Int)(b:QH)(c:Bool):Option ((Int×Int)⊕(Unit⊕Int)):=
 bif c then
 some (.inr (.inl ()))
 else
 (QJ (fun st=>QfT e d st) 0).bind (Sum.elim (fun q=>QrE) (fun q=>QrF a b d))
def QfU (c:Qj)(a:Int)(d:Int):Option ((Int×Int)⊕(Unit⊕Int)):=
 bif (decide (d<(c.Colours.length:Int)))then
 (idx c.Colours d).bind fun b=>
 (Qnr c d a b).bind (fun e=>QhY c d a b e)
 else
 some (.inr (.inr a))
def QrG : Option Bool:=
 some false
def QfV (c:Qj)(a:Int)(b:Int):Option ((Int×Int)⊕(Unit⊕Int)):=
 bif (decide (b<(c.Places.length:Int)))then
 (idx c.Places b).bind fun d=>
 (idx c.Places b).bind fun e=>
 bif (decide (100<(e.Name.size:Int)))then
 some (.inr (.inl ()))
 else
 some (.inl ((w64 (a+(d.First.length:Int))),(w64 (b+1))))
 else
 some (.inr (.inr a))
def QrH : Option Bool:=
 some false
def Qjz (b:QC)(a:Int):Option (Int⊕(Unit⊕Unit)):=
 bif (decide (a<(b.Vars.length:Int)))then
 (idx b.Vars a).bind fun c=>
 bif (decide (100<(c.Name.size:Int)))then
 some (.inr (.inl ()))
 else
 some (.inl (w64 (a+1)))
 else
 some (.inr (.inr ()))
def QqM : Option ((Int×Int)⊕(Unit⊕Unit)):=
 some (.inr (.inl ()))
def QjA (c:QC)(a:Bool)(b:Int):Option ((Bool×Int)⊕Bool):=
 bif (decide (b<(c.Ins.length:Int)))then
 (idx c.Ins b).bind fun d=>
 (Qi5 d.Expr).bind fun e=>
 some (.inl ((a&&e),(w64 (b+1))))
 else
 some (.inr a)
def QjB (c:QC)(a:Bool)(b:Int):Option ((Bool×Int)⊕Bool):=
 bif (decide (b<(c.Outs.length:Int)))then
 (idx c.Outs b).bind fun d=>
 (Qi5 d.Expr).bind fun e=>
 some (.inl ((a&&e),(w64 (b+1))))
 else
 some (.inr a)
def QjC (a:Int)(b:QC)(d:Int)(c:Bool):Option ((Int×Int)⊕(Unit⊕Unit)):=
 bif (!c)then
 some (.inr (.inl ()))
 else
 some (.inl ((w64 ((w64 ((w64 ((w64 (a+(b.Vars.length:Int)))+(b.Ins.length:Int)))+(b.Outs.length:Int)))+(b.Cancel.length:Int))),(w64 (d+1))))
def QjD (b:QC)(a:Int)(d:Int)(c:Bool):Option ((Int×Int)⊕(Unit⊕Unit)):=
 (QJ (fun st=>QjB b st.1 st.2) (c,0)).bind (fun q=>QjC a b d q)
def QjE (b:QC)(a:Int)(c:Int):Option ((Int×Int)⊕(Unit⊕Unit)):=
 (Qi5 b.Guard).bind fun d=>
 (QJ (fun st=>QjA b st.1 st.2) (d,0)).bind (fun q=>QjD b a c q)
def QjF (d:Qj)(b:Int)(c:Int):Option ((Int×Int)⊕(Unit⊕Unit)):=
 bif (decide (c<(d.Tasks.length:Int)))then
 (idx d.Tasks c).bind fun a=>
 bif ((decide (200<(w64 ((w64 ((w64 ((w64 (b+(a.Vars.length:Int)))+(a.Ins.length:Int)))+(a.Outs.length:Int)))+(a.Cancel.length:Int)))))||(decide (100<(a.Name.size:Int))))then
 some (.inr (.inl ()))
 else
 (QJ (fun st=>Qjz a st) 0).bind (Sum.elim (fun q=>QqM) (fun q=>QjE a b c))
 else
 some (.inr (.inr ()))
def QqN : Option Bool:=
 some false
def QqO (a:Int):Option Bool:=
 some (decide (a≤400))
def QjG (b:Qj)(a:Int):Option Bool:=
 (QJ (fun st=>QjF b st.1 st.2) (0,0)).bind (Sum.elim (fun q=>QqN) (fun q=>QqO a))
def Qe6 (b:Qj)(a:Int):Option Bool:=
 (QJ (fun st=>QfV b st.1 st.2) (a,0)).bind (Sum.elim (fun q=>QrH) (fun q=>QjG b q))
def QfO (a:Qj):Option Bool:=
 bif ((decide (40<(a.Colours.length:Int)))||((decide (70<(a.Places.length:Int)))||(decide (70<(a.Tasks.length:Int)))))then
 some false
 else
 (QJ (fun st=>QfU a st.1 st.2) (0,0)).bind (Sum.elim (fun q=>QrG) (fun q=>Qe6 a q))
theorem QrI (i){r}(h:QfO i=some r):Qc prog 24 [.agg (Qd i)] [] (Gives (.b r) []):=by
 refine Qc.walk 201 func24 rfl rfl rfl fun C hC=>?_
 unfold QfO at h
 refine tg_ hC [.n 8] rfl ?_
 refine AK.meetX (fun σ=>σ=⟨[(1,.loc 1 0 0),(31,.b ((decide (40<(i.Colours.length:Int)))||((decide (70<(i.Places.length:Int)))||(decide (70<(i.Tasks.length:Int))))))],[(1,.var (Qd i))]⟩) ?_ ?_
 ·refine Qa hC [.n 3,.o (.ln i.Colours.length),.n 2] rfl ⟨tt_,Qf⟩ ?_
  rcases Q7 (decide (40<(i.Colours.length:Int)))with w | w
  ·refine Qa hC [.S 20 (.b true),.n 12,.S 31 (.b ((decide (40<(i.Colours.length:Int)))||((decide (70<(i.Places.length:Int)))||(decide (70<(i.Tasks.length:Int)))))),.K [1,31] [1]] rfl ⟨(tc_ w),(congrArg V.b (orT w rfl))⟩ ?_
   exact AK.met rfl
  refine Qa hC [.S 20 (.b false),.n 2,.o (.ln i.Places.length),.n 3] rfl ⟨(tc_ w),Qf⟩ ?_
  rcases Q7 (decide (70<(i.Places.length:Int)))with x | x
  ·refine Qa hC [.S 26 (.b true),.n 6,.S 31 (.b ((decide (40<(i.Colours.length:Int)))||((decide (70<(i.Places.length:Int)))||(decide (70<(i.Tasks.length:Int)))))),.K [1,31] [1]] rfl ⟨(tc_ x),(congrArg V.b (orF w (orT x rfl)))⟩ ?_
   exact AK.met rfl
  refine Qa hC [.S 26 (.b false),.n 2,.o (.ln i.Tasks.length),.n 3,.S 31 (.b ((decide (40<(i.Colours.length:Int)))||((decide (70<(i.Places.length:Int)))||(decide (70<(i.Tasks.length:Int)))))),.K [1,31] [1]] rfl ⟨⟨(tc_ x),Qf⟩,(congrArg V.b (orF w (orF x rfl)))⟩ ?_
  exact AK.met rfl
 rintro σ rfl
 refine tg_ hC [.n 1] rfl ?_
 refine bg_ h (fun Z h=>Qa hC [.T,.n 7,.K [2] []] rfl ⟨tt_,Z⟩ ?_) fun Z h=>Qa hC [.F,.n 14,.K [1,3,4] [1]] rfl ⟨tt_,Z⟩ ?_
 ·cases h
  exact d1_ rfl rfl tt_
 obtain⟨d0,a1,h⟩:=Qb h
 refine AK.loop (body:=(fun st=>QfU i st.1 st.2)) (fun st σ=>σ=⟨[(1,.loc 1 0 0),(3,.I st.1),(4,.I st.2)],[(1,.var (Qd i))]⟩) (Sum.elim (fun q e σ=>e=.ret∧σ=⟨[(2,.b false)],[]⟩) (fun q e σ=>e=.exit 0∧σ=⟨[(1,.loc 1 0 0),(3,.I q)],[(1,.var (Qd i))]⟩)) a1 rfl ?_ ?_
 ·rintro ⟨j,i9⟩ o σ rfl h
  refine Qa hC [.n 6,.o (.ln i.Colours.length),.n 3] rfl ⟨tt_,Qf⟩ ?_
  rcases Qt h with⟨y,h⟩|⟨y,h⟩
  ·obtain⟨l,a2,h⟩:=Qb h
   refine Qa hC [.T,.n 10,.o (.row (Qr l)),.n 2,.o (.ln l.Names.length),.n 6] rfl ⟨⟨⟨tt_,y⟩,(QT a2)⟩,Qf⟩ ?_
   obtain⟨a0,a3,h⟩:=Qb h
   replace h:QhY i i9 j l a0=some o:=h
   refine AK.meetX (fun σ=>σ=⟨[(1,.loc 1 0 0),(3,.I (w64 (j+(l.Names.length:Int)))),(4,.I i9),(59,.b a0)],[(1,.var (Qd i))]⟩) ?_ ?_
   ·replace h:=a3
    obtain⟨d1,a4,h⟩:=Qb h
    refine Qa hC [.n 4,.o (.row (Qr d1)),.n 5] rfl ⟨tt_,(QT a4)⟩ ?_
    refine bg_ h (fun z h=>Qa hC [.S 56 (.b true),.n 4,.K [1,3,4,59] [1]] rfl (tc_ z) ?_) fun z h=>Qa hC [.S 56 (.b false),.n 4,.K [1,3,4,59] [1]] rfl (tc_ z) ?_
    ·cases h
     exact AK.met rfl
    cases h
    exact AK.met rfl
   rintro σ rfl
   replace h:QhY i i9 j l a0=some o:=h
   refine tg_ hC [.n 1] rfl ?_
   refine bg_ h (fun A h=>Qa hC [.T,.n 9,.K [2] []] rfl ⟨tt_,A⟩ ?_) fun A h=>Qa hC [.F,.n 8,.K [1,3,4,5] [1]] rfl ⟨tt_,A⟩ ?_
   ·cases h
    exact Qav rfl (an_ rfl rfl)
   obtain⟨d2,a5,h⟩:=Qb h
   refine AK.loop (body:=(fun st=>QfT i i9 st)) (fun st σ=>σ=⟨[(1,.loc 1 0 0),(3,.I (w64 (j+(l.Names.length:Int)))),(4,.I i9),(5,.I st)],[(1,.var (Qd i))]⟩) (Sum.elim (fun q e σ=>e=.ret∧σ=⟨[(2,.b false)],[]⟩) (fun q e σ=>e=.exit 2∧σ=⟨[(1,.loc 1 0 0),(3,.I (w64 (j+(l.Names.length:Int)))),(4,.I i9)],[(1,.var (Qd i))]⟩)) a5 rfl ?_ ?_
   ·rintro e3 o σ rfl h
    obtain⟨a6,a7,h⟩:=Qb h
    refine Qa hC [.n 7,.o (.row (Qr a6)),.n 2,.o (.ln a6.Names.length),.n 3] rfl ⟨⟨tt_,(QT a7)⟩,Qf⟩ ?_
    rcases Qt h with⟨B,h⟩|⟨B,h⟩
    ·obtain⟨d3,a8,h⟩:=Qb h
     obtain⟨d4,a9,h⟩:=Qb h
     refine Qa hC [.T,.n 9,.o (.row (Qr d3)),.n 3,.o (.row (Qea d4)),.n 5] rfl ⟨⟨⟨tt_,B⟩,(QT a8)⟩,(QT a9)⟩ ?_
     refine bg_ h (fun D h=>Qa hC [.T,.n 8,.K [2] []] rfl ⟨tt_,D⟩ ?_) fun D h=>Qa hC [.F,.n 8,.K [1,3,4,5] [1]] rfl ⟨tt_,D⟩ ?_
     ·cases h
      exact Qav rfl (an_ rfl rfl)
     cases h
     exact Q6 rfl rfl
    refine Qa hC [.F,.n 2,.K [1,3,4] [1]] rfl ⟨tt_,B⟩ ?_
    cases h
    exact Q8 rfl (an_ rfl rfl)
   rcases d2 with(_ | _)
   ·replace h:QrE=some o:=h
    rintro e σ ⟨rfl,rfl⟩
    refine tg_ hC [.n 3,.K [2] []] rfl ?_
    cases h
    exact Qav rfl (an_ rfl rfl)
   replace h:QrF j l i9=some o:=h
   rintro e σ ⟨rfl,rfl⟩
   refine tg_ hC [.n 8,.K [1,3,4] [1]] rfl ?_
   cases h
   exact Q6 rfl rfl
  refine Qa hC [.F,.n 2,.K [1,3] [1]] rfl ⟨tt_,y⟩ ?_
  cases h
  exact Q8 rfl (an_ rfl rfl)
 rcases d0 with(_ | E)
 ·replace h:QrG=some r:=h
  rintro e σ ⟨rfl,rfl⟩
  refine tg_ hC [.n 2] rfl ?_
  cases h
  exact d1_ rfl rfl tt_
 replace h:Qe6 i E=some r:=h
 rintro e σ ⟨rfl,rfl⟩
 refine tg_ hC [.n 9,.K [1,3,6] [1]] rfl ?_
 obtain⟨d5,b0,h⟩:=Qb h
 refine AK.loop (body:=(fun st=>QfV i st.1 st.2)) (fun st σ=>σ=⟨[(1,.loc 1 0 0),(3,.I st.1),(6,.I st.2)],[(1,.var (Qd i))]⟩) (Sum.elim (fun q e σ=>e=.ret∧σ=⟨[(2,.b false)],[]⟩) (fun q e σ=>e=.exit 4∧σ=⟨[(1,.loc 1 0 0),(3,.I q)],[(1,.var (Qd i))]⟩)) b0 rfl ?_ ?_
 ·rintro ⟨b1,e4⟩ o σ rfl h
  refine Qa hC [.n 6,.o (.ln i.Places.length),.n 3] rfl ⟨tt_,Qf⟩ ?_
  rcases Qt h with⟨G,h⟩|⟨G,h⟩
  ·obtain⟨b2,b3,h⟩:=Qb h
   obtain⟨d6,b4,h⟩:=Qb h
   refine Qa hC [.T,.n 10,.o (.row (Qp b2)),.n 2,.o (.ln b2.First.length),.n 9,.o (.row (Qp d6)),.n 6] rfl ⟨⟨⟨⟨tt_,G⟩,(QT b3)⟩,Qf⟩,(QT b4)⟩ ?_
   refine bg_ h (fun H h=>Qa hC [.T,.n 8,.K [2] []] rfl ⟨tt_,H⟩ ?_) fun H h=>Qa hC [.F,.n 8,.K [1,3,6] [1]] rfl ⟨tt_,H⟩ ?_
   ·cases h
    exact Qav rfl (an_ rfl rfl)
   cases h
   exact Q6 rfl rfl
  refine Qa hC [.F,.n 2,.K [1,3] [1]] rfl ⟨tt_,G⟩ ?_
  cases h
  exact Q8 rfl (an_ rfl rfl)
 rcases d5 with(_ | g)
 ·replace h:QrH=some r:=h
  rintro e σ ⟨rfl,rfl⟩
  refine tg_ hC [.n 2] rfl ?_
  cases h
  exact d1_ rfl rfl tt_
 replace h:QjG i g=some r:=h
 rintro e σ ⟨rfl,rfl⟩
 refine tg_ hC [.n 14,.K [1,3,7,8] [1]] rfl ?_
 obtain⟨d7,b5,h⟩:=Qb h
 refine AK.loop (body:=(fun st=>QjF i st.1 st.2)) (fun st σ=>σ=⟨[(1,.loc 1 0 0),(3,.I g),(7,.I st.1),(8,.I st.2)],[(1,.var (Qd i))]⟩) (Sum.elim (fun q e σ=>e=.ret∧σ=⟨[(2,.b false)],[]⟩) (fun q e σ=>e=.exit 6∧σ=⟨[(3,.I g)],[]⟩)) b5 rfl ?_ ?_
 ·rintro ⟨f,k⟩ o σ rfl h
  refine Qa hC [.n 6,.o (.ln i.Tasks.length),.n 3] rfl ⟨tt_,Qf⟩ ?_
  rcases Qt h with⟨J,h⟩|⟨J,h⟩
  ·obtain⟨a,b6,h⟩:=Qb h
   refine Qa hC [.T,.n 9,.o (.row (Qh a)),.v .no [] (.agg (Qh a)),.n 2,.O 9 (.var (Qh a)),.n 7,.o (.ln a.Vars.length),.n 3,.o (.ln a.Ins.length),.n 3,.o (.ln a.Outs.length),.n 3,.o (.ln a.Cancel.length),.n 6] rfl ⟨⟨⟨⟨⟨⟨⟨⟨tt_,J⟩,(QT b6)⟩,rfl⟩,rfl⟩,Qf⟩,Qf⟩,Qf⟩,Qf⟩ ?_
   refine AK.meetX (fun σ=>σ=⟨[(1,.loc 1 0 0),(3,.I g),(7,.I (w64 ((w64 ((w64 ((w64 (f+(a.Vars.length:Int)))+(a.Ins.length:Int)))+(a.Outs.length:Int)))+(a.Cancel.length:Int)))),(8,.I k),(9,.loc 9 0 0),(142,.b ((decide (200<(w64 ((w64 ((w64 ((w64 (f+(a.Vars.length:Int)))+(a.Ins.length:Int)))+(a.Outs.length:Int)))+(a.Cancel.length:Int)))))||(decide (100<(a.Name.size:Int)))))],[(1,.var (Qd i)),(9,.var (Qh a))]⟩) ?_ ?_
   ·refine tg_ hC [.n 4] rfl ?_
    rcases Q7 (decide (200<(w64 ((w64 ((w64 ((w64 (f+(a.Vars.length:Int)))+(a.Ins.length:Int)))+(a.Outs.length:Int)))+(a.Cancel.length:Int)))))with m | m
    ·refine Qa hC [.S 137 (.b true),.n 6,.S 142 (.b ((decide (200<(w64 ((w64 ((w64 ((w64 (f+(a.Vars.length:Int)))+(a.Ins.length:Int)))+(a.Outs.length:Int)))+(a.Cancel.length:Int)))))||(decide (100<(a.Name.size:Int))))),.K [1,3,7,8,9,142] [1,9]] rfl ⟨(tc_ m),(congrArg V.b (orT m rfl))⟩ ?_
     exact AK.met rfl
    refine Qa hC [.S 137 (.b false),.n 6,.S 142 (.b ((decide (200<(w64 ((w64 ((w64 ((w64 (f+(a.Vars.length:Int)))+(a.Ins.length:Int)))+(a.Outs.length:Int)))+(a.Cancel.length:Int)))))||(decide (100<(a.Name.size:Int))))),.K [1,3,7,8,9,142] [1,9]] rfl ⟨(tc_ m),(congrArg V.b (orF m rfl))⟩ ?_
    exact AK.met rfl
   rintro σ rfl
   refine tg_ hC [.n 1] rfl ?_
   refine bg_ h (fun L h=>Qa hC [.T,.n 9,.K [2] []] rfl ⟨tt_,L⟩ ?_) fun L h=>Qa hC [.F,.n 9,.K [1,3,7,8,9,10] [1,9]] rfl ⟨tt_,L⟩ ?_
   ·cases h
    exact Qav rfl (an_ rfl rfl)
   obtain⟨d8,b7,h⟩:=Qb h
   refine AK.loop (body:=(fun st=>Qjz a st)) (fun st σ=>σ=⟨[(1,.loc 1 0 0),(3,.I g),(7,.I (w64 ((w64 ((w64 ((w64 (f+(a.Vars.length:Int)))+(a.Ins.length:Int)))+(a.Outs.length:Int)))+(a.Cancel.length:Int)))),(8,.I k),(9,.loc 9 0 0),(10,.I st)],[(1,.var (Qd i)),(9,.var (Qh a))]⟩) (Sum.elim (fun q e σ=>e=.ret∧σ=⟨[(2,.b false)],[]⟩) (fun q e σ=>e=.exit 8∧σ=⟨[(1,.loc 1 0 0),(3,.I g),(7,.I (w64 ((w64 ((w64 ((w64 (f+(a.Vars.length:Int)))+(a.Ins.length:Int)))+(a.Outs.length:Int)))+(a.Cancel.length:Int)))),(8,.I k),(9,.loc 9 0 0)],[(1,.var (Qd i)),(9,.var (Qh a))]⟩)) b7 rfl ?_ ?_
   ·rintro e5 o σ rfl h
    refine Qa hC [.n 6,.o (.ln a.Vars.length),.n 3] rfl ⟨tt_,Qf⟩ ?_
    rcases Qt h with⟨M,h⟩|⟨M,h⟩
    ·obtain⟨d9,b8,h⟩:=Qb h
     refine Qa hC [.T,.n 9,.o (.row (QR d9)),.n 6] rfl ⟨⟨tt_,M⟩,(QT b8)⟩ ?_
     refine bg_ h (fun N h=>Qa hC [.T,.n 8,.K [2] []] rfl ⟨tt_,N⟩ ?_) fun N h=>Qa hC [.F,.n 8,.K [1,3,7,8,9,10] [1,9]] rfl ⟨tt_,N⟩ ?_
     ·cases h
      exact Qav rfl (an_ rfl rfl)
     cases h
     exact Q6 rfl rfl
    refine Qa hC [.F,.n 2,.K [1,3,7,8,9] [1,9]] rfl ⟨tt_,M⟩ ?_
    cases h
    exact Q8 rfl (an_ rfl rfl)
   rcases d8 with(_ | _)
   ·replace h:QqM=some o:=h
    rintro e σ ⟨rfl,rfl⟩
    refine tg_ hC [.n 4,.K [2] []] rfl ?_
    cases h
    exact Qav rfl (an_ rfl rfl)
   replace h:QjE a f k=some o:=h
   rintro e σ ⟨rfl,rfl⟩
   obtain⟨e0,b9,h⟩:=Qb h
   refine Qa hC [.n 5,.v .no [] (.agg (Qq a.Guard)),.o (.c false [.d] (.b e0)),.n 10,.K [1,3,7,8,9,11,12] [1,9]] rfl ⟨⟨tt_,rfl⟩,(Qnq _ b9)⟩ ?_
   obtain⟨c0,c1,h⟩:=Qb h
   refine AK.loop (body:=(fun st=>QjA a st.1 st.2)) (fun st σ=>σ=⟨[(1,.loc 1 0 0),(3,.I g),(7,.I (w64 ((w64 ((w64 ((w64 (f+(a.Vars.length:Int)))+(a.Ins.length:Int)))+(a.Outs.length:Int)))+(a.Cancel.length:Int)))),(8,.I k),(9,.loc 9 0 0),(11,.b st.1),(12,.I st.2)],[(1,.var (Qd i)),(9,.var (Qh a))]⟩) (fun q e σ=>e=.exit 10∧σ=⟨[(1,.loc 1 0 0),(3,.I g),(7,.I (w64 ((w64 ((w64 ((w64 (f+(a.Vars.length:Int)))+(a.Ins.length:Int)))+(a.Outs.length:Int)))+(a.Cancel.length:Int)))),(8,.I k),(9,.loc 9 0 0),(11,.b q)],[(1,.var (Qd i)),(9,.var (Qh a))]⟩) c1 rfl ?_ ?_
   ·rintro ⟨t,e1⟩ o σ rfl h
    refine Qa hC [.n 6,.o (.ln a.Ins.length),.n 3] rfl ⟨tt_,Qf⟩ ?_
    rcases Qt h with⟨P,h⟩|⟨P,h⟩
    ·obtain⟨c2,c3,h⟩:=Qb h
     obtain⟨X,c4,h⟩:=Qb h
     refine Qa hC [.T,.n 9,.o (.row (Q5 c2)),.n 1,.v .no [] (.agg (Qq c2.Expr)),.o (.c false [.d] (.b X)),.n 3] rfl ⟨⟨⟨⟨tt_,P⟩,(QT c3)⟩,rfl⟩,(Qnq _ c4)⟩ ?_
     refine AK.meetX (fun σ=>σ=⟨[(1,.loc 1 0 0),(3,.I g),(7,.I (w64 ((w64 ((w64 ((w64 (f+(a.Vars.length:Int)))+(a.Ins.length:Int)))+(a.Outs.length:Int)))+(a.Cancel.length:Int)))),(8,.I k),(9,.loc 9 0 0),(11,.b (t&&X)),(12,.I e1)],[(1,.var (Qd i)),(9,.var (Qh a))]⟩) ?_ ?_
     ·refine tg_ hC [.n 3] rfl ?_
      rcases Q7 t with p | p
      ·refine Qa hC [.S 176 (.b true),.n 4,.S 11 (.b (t&&X)),.K [1,3,7,8,9,11,12] [1,9]] rfl ⟨(tc_ p),(congrArg V.b (Qb8 p rfl))⟩ ?_
       exact AK.met rfl
      refine Qa hC [.S 176 (.b false),.n 4,.S 11 (.b (t&&X)),.K [1,3,7,8,9,11,12] [1,9]] rfl ⟨(tc_ p),(congrArg V.b (Qd6 p rfl))⟩ ?_
      exact AK.met rfl
     rintro σ rfl
     refine tg_ hC [.n 7,.K [1,3,7,8,9,11,12] [1,9]] rfl ?_
     cases h
     exact Q6 rfl rfl
    refine Qa hC [.F,.n 2,.K [1,3,7,8,9,11] [1,9]] rfl ⟨tt_,P⟩ ?_
    cases h
    exact Q8 rfl (an_ rfl rfl)
   replace h:QjD a f k c0=some o:=h
   rintro e σ ⟨rfl,rfl⟩
   refine tg_ hC [.n 9,.K [1,3,7,8,9,11,14] [1,9]] rfl ?_
   obtain⟨c5,c6,h⟩:=Qb h
   refine AK.loop (body:=(fun st=>QjB a st.1 st.2)) (fun st σ=>σ=⟨[(1,.loc 1 0 0),(3,.I g),(7,.I (w64 ((w64 ((w64 ((w64 (f+(a.Vars.length:Int)))+(a.Ins.length:Int)))+(a.Outs.length:Int)))+(a.Cancel.length:Int)))),(8,.I k),(9,.loc 9 0 0),(11,.b st.1),(14,.I st.2)],[(1,.var (Qd i)),(9,.var (Qh a))]⟩) (fun q e σ=>e=.exit 12∧σ=⟨[(1,.loc 1 0 0),(3,.I g),(7,.I (w64 ((w64 ((w64 ((w64 (f+(a.Vars.length:Int)))+(a.Ins.length:Int)))+(a.Outs.length:Int)))+(a.Cancel.length:Int)))),(8,.I k),(11,.b q)],[(1,.var (Qd i))]⟩) c6 rfl ?_ ?_
   ·rintro ⟨u,e2⟩ o σ rfl h
    refine Qa hC [.n 6,.o (.ln a.Outs.length),.n 3] rfl ⟨tt_,Qf⟩ ?_
    rcases Qt h with⟨U,h⟩|⟨U,h⟩
    ·obtain⟨c7,c8,h⟩:=Qb h
     obtain⟨Y,c9,h⟩:=Qb h
     refine Qa hC [.T,.n 9,.o (.row (Q5 c7)),.n 1,.v .no [] (.agg (Qq c7.Expr)),.o (.c false [.d] (.b Y)),.n 3] rfl ⟨⟨⟨⟨tt_,U⟩,(QT c8)⟩,rfl⟩,(Qnq _ c9)⟩ ?_
     refine AK.meetX (fun σ=>σ=⟨[(1,.loc 1 0 0),(3,.I g),(7,.I (w64 ((w64 ((w64 ((w64 (f+(a.Vars.length:Int)))+(a.Ins.length:Int)))+(a.Outs.length:Int)))+(a.Cancel.length:Int)))),(8,.I k),(9,.loc 9 0 0),(11,.b (u&&Y)),(14,.I e2)],[(1,.var (Qd i)),(9,.var (Qh a))]⟩) ?_ ?_
     ·refine tg_ hC [.n 3] rfl ?_
      rcases Q7 u with s | s
      ·refine Qa hC [.S 194 (.b true),.n 4,.S 11 (.b (u&&Y)),.K [1,3,7,8,9,11,14] [1,9]] rfl ⟨(tc_ s),(congrArg V.b (Qb8 s rfl))⟩ ?_
       exact AK.met rfl
      refine Qa hC [.S 194 (.b false),.n 4,.S 11 (.b (u&&Y)),.K [1,3,7,8,9,11,14] [1,9]] rfl ⟨(tc_ s),(congrArg V.b (Qd6 s rfl))⟩ ?_
      exact AK.met rfl
     rintro σ rfl
     refine tg_ hC [.n 7,.K [1,3,7,8,9,11,14] [1,9]] rfl ?_
     cases h
     exact Q6 rfl rfl
    refine Qa hC [.F,.n 2,.K [1,3,7,8,11] [1]] rfl ⟨tt_,U⟩ ?_
    cases h
    exact Q8 rfl (an_ rfl rfl)
   replace h:QjC f a k c5=some o:=h
   rintro e σ ⟨rfl,rfl⟩
   refine tg_ hC [.n 8] rfl ?_
   refine bg_ h (fun W h=>Qa hC [.T,.n 8,.K [2] []] rfl ⟨tt_,W⟩ ?_) fun W h=>Qa hC [.F,.n 8,.K [1,3,7,8] [1]] rfl ⟨tt_,W⟩ ?_
   ·cases h
    exact Qav rfl (an_ rfl rfl)
   cases h
   exact Q6 rfl rfl
  refine Qa hC [.F,.n 2,.K [3] []] rfl ⟨tt_,J⟩ ?_
  cases h
  exact Q8 rfl (an_ rfl rfl)
 rcases d7 with(_ | _)
 ·replace h:QqN=some r:=h
  rintro e σ ⟨rfl,rfl⟩
  refine tg_ hC [.n 2] rfl ?_
  cases h
  exact d1_ rfl rfl tt_
 replace h:QqO g=some r:=h
 rintro e σ ⟨rfl,rfl⟩
 refine tg_ hC [.n 10] rfl ?_
 cases h
 exact d1_ rfl rfl tt_
def QkS (c:QMk)(d:Int)(a:Int):Option ((Int×Int)⊕Int):=
 bif ((decide (a<(c.length:Int)))&&(decide (a<100)))then
 (idx c a).bind fun b=>
 some (.inl ((w64 (d+(b.length:Int))),(w64 (a+1))))
 else
 some (.inr d)
def QrJ (a:QMk)(b:Int):Option Bool:=
 some ((decide ((a.length:Int)≤70))&&(decide (b≤300)))
def QnN (a:QMk):Option Bool:=
 (QJ (fun st=>QkS a st.1 st.2) (0,0)).bind (fun q=>QrJ a q)
theorem Qxu (a){r}(h:QnN a=some r):Qc prog 76 [.sl 1 (a.map Qi)] [] (Gives (.b r) []):=by
 refine Qc.walk 29 func76 rfl rfl rfl fun C hC=>?_
 refine tg_ hC [.n 17,.K [0,3,4] []] rfl ?_
 obtain⟨l,i,h⟩:=Qb h
 refine AK.loop (body:=(fun st=>QkS a st.1 st.2)) (fun st σ=>σ=⟨[(0,.sl 1 (a.map Qi)),(3,.I st.1),(4,.I st.2)],[]⟩) (fun q e σ=>e=.exit 0∧σ=⟨[(0,.sl 1 (a.map Qi)),(3,.I q)],[]⟩) i rfl ?_ ?_
 ·rintro ⟨m,g⟩ o σ rfl h
  refine tg_ hC [.n 2] rfl ?_
  refine AK.meetX (fun σ=>σ=⟨[(0,.sl 1 (a.map Qi)),(3,.I m),(4,.I g),(12,.b ((decide (g<(a.length:Int)))&&(decide (g<100))))],[]⟩) ?_ ?_
  ·refine Qa hC [.n 3,.o (.ln a.length),.n 2] rfl ⟨tt_,Qf⟩ ?_
   rcases Q7 (decide (g<(a.length:Int)))with d | d
   ·refine Qa hC [.S 9 (.b true),.n 4,.S 12 (.b ((decide (g<(a.length:Int)))&&(decide (g<100)))),.K [0,3,4,12] []] rfl ⟨(tc_ d),(congrArg V.b (Qb8 d rfl))⟩ ?_
    exact AK.met rfl
   refine Qa hC [.S 9 (.b false),.n 4,.S 12 (.b ((decide (g<(a.length:Int)))&&(decide (g<100)))),.K [0,3,4,12] []] rfl ⟨(tc_ d),(congrArg V.b (Qd6 d rfl))⟩ ?_
   exact AK.met rfl
  rintro σ rfl
  refine tg_ hC [.n 1] rfl ?_
  rcases Qt h with⟨f,h⟩|⟨f,h⟩
  ·obtain⟨j,k,h⟩:=Qb h
   refine Qa hC [.T,.n 8,.o (.row (Qi j)),.n 1,.o (.ln j.length),.n 10,.K [0,3,4] []] rfl ⟨⟨⟨tt_,f⟩,(QT k)⟩,Qf⟩ ?_
   cases h
   exact Q6 rfl rfl
  refine Qa hC [.F,.n 2,.K [0,3] []] rfl ⟨tt_,f⟩ ?_
  cases h
  exact Q8 rfl (an_ rfl rfl)
 replace h:QrJ a l=some r:=h
 rintro e σ ⟨rfl,rfl⟩
 refine tg_ hC [.n 3] rfl ?_
 refine AK.meetX (fun σ=>σ=⟨[(2,.b ((decide ((a.length:Int)≤70))&&(decide (l≤300))))],[]⟩) ?_ ?_
 ·refine Qa hC [.n 2,.o (.ln a.length),.n 2] rfl ⟨tt_,Qf⟩ ?_
  rcases Q7 (decide ((a.length:Int)≤70))with c | c
  ·refine Qa hC [.S 25 (.b true),.n 5,.S 2 (.b ((decide ((a.length:Int)≤70))&&(decide (l≤300)))),.K [2] []] rfl ⟨(tc_ c),(congrArg V.b (Qb8 c rfl))⟩ ?_
   exact AK.met rfl
  refine Qa hC [.S 25 (.b false),.n 5,.S 2 (.b ((decide ((a.length:Int)≤70))&&(decide (l≤300)))),.K [2] []] rfl ⟨(tc_ c),(congrArg V.b (Qd6 c rfl))⟩ ?_
  exact AK.met rfl
 rintro σ rfl
 refine tg_ hC [.n 2] rfl ?_
 cases h
 exact d1_ rfl rfl tt_
def QlI (a:Qj):Option Bool:=
 some ((decide ((a.Places.length:Int)≤64))&&(decide ((a.Tasks.length:Int)≤64)))
theorem QvK (a){r}(h:QlI a=some r):Qc prog 123 [.loc 617 0 0] [(617,.var (Qd a))] (Gives (.b r) [(617,.var (Qd a))]):=by
 refine Qc.walk 12 func123 rfl rfl rfl fun C hC=>?_
 refine tg_ hC [.n 6] rfl ?_
 refine AK.meetX (fun σ=>σ=⟨[(1,.b ((decide ((a.Places.length:Int)≤64))&&(decide ((a.Tasks.length:Int)≤64))))],[(617,.var (Qd a))]⟩) ?_ ?_
 ·refine Qa hC [.n 3,.o (.ln a.Places.length),.n 2] rfl ⟨tt_,Qf⟩ ?_
  rcases Q7 (decide ((a.Places.length:Int)≤64))with c | c
  ·refine Qa hC [.S 6 (.b true),.n 2,.o (.ln a.Tasks.length),.n 4,.S 1 (.b ((decide ((a.Places.length:Int)≤64))&&(decide ((a.Tasks.length:Int)≤64)))),.K [1] [617]] rfl ⟨⟨(tc_ c),Qf⟩,(congrArg V.b (Qb8 c rfl))⟩ ?_
   exact AK.met rfl
  refine Qa hC [.S 6 (.b false),.n 7,.S 1 (.b ((decide ((a.Places.length:Int)≤64))&&(decide ((a.Tasks.length:Int)≤64)))),.K [1] [617]] rfl ⟨(tc_ c),(congrArg V.b (Qd6 c rfl))⟩ ?_
  exact AK.met rfl
 rintro σ rfl
 refine tg_ hC [.n 2] rfl ?_
 cases h
 exact d1_ rfl rfl ⟨rfl,tt_⟩
def QaO (b:(List QM))(a:Int):Option Bool:=
 some ((decide (0≤a))&&(decide (a<(b.length:Int))))
theorem Qb9 (d c){r}(h:QaO d c=some r):Qc prog 125 [.sl 3 (d.map Qp),.I c] [] (Gives (.b r) []):=by
 refine Qc.walk 13 func125 rfl rfl rfl fun C hC=>?_
 refine tg_ hC [.n 6] rfl ?_
 refine AK.meetX (fun σ=>σ=⟨[(4,.b ((decide (0≤c))&&(decide (c<(d.length:Int)))))],[]⟩) ?_ ?_
 ·refine tg_ hC [.n 4] rfl ?_
  rcases Q7 (decide (0≤c))with a | a
  ·refine Qa hC [.S 7 (.b true),.n 2,.o (.ln d.length),.n 4,.S 4 (.b ((decide (0≤c))&&(decide (c<(d.length:Int))))),.K [4] []] rfl ⟨⟨(tc_ a),Qf⟩,(congrArg V.b (Qb8 a rfl))⟩ ?_
   exact AK.met rfl
  refine Qa hC [.S 7 (.b false),.n 7,.S 4 (.b ((decide (0≤c))&&(decide (c<(d.length:Int))))),.K [4] []] rfl ⟨(tc_ a),(congrArg V.b (Qd6 a rfl))⟩ ?_
  exact AK.met rfl
 rintro σ rfl
 refine tg_ hC [.n 2] rfl ?_
 cases h
 exact d1_ rfl rfl tt_
def QpM (a:Qj):Option Bool:=
 (QaO a.Places a.From).bind fun b=>
 bif b then
 (QaO a.Places a.To).bind fun c=>
 some c
 else
 some false
def Qiv (a:Bool):Option Bool:=
 some a
def QlJ (a:Qj):Option Bool:=
 (QpM a).bind (fun b=>Qiv b)
theorem QvL (e){r}(h:QlJ e=some r):Qc prog 124 [.loc 617 0 0] [(617,.var (Qd e))] (Gives (.b r) [(617,.var (Qd e))]):=by
 refine Qc.walk 14 func124 rfl rfl rfl fun C hC=>?_
 refine tg_ hC [.n 6] rfl ?_
 obtain⟨f,g,h⟩:=Qb h
 replace h:Qiv f=some r:=h
 refine AK.meetX (fun σ=>σ=⟨[(1,.b f)],[(617,.var (Qd e))]⟩) ?_ ?_
 ·replace h:=g
  obtain⟨k,i,h⟩:=Qb h
  refine Qa hC [.n 5,.o (.c false [.d,.d] (.b k)),.n 1] rfl ⟨tt_,(Qb9 _ _ i)⟩ ?_
  rcases Qt h with⟨a,h⟩|⟨a,h⟩
  ·obtain⟨l,j,h⟩:=Qb h
   refine Qa hC [.S 7 (.b true),.n 4,.o (.c false [.d,.d] (.b l)),.n 3,.K [1] [617]] rfl ⟨(tc_ a),(Qb9 _ _ j)⟩ ?_
   cases h
   exact AK.met rfl
  refine Qa hC [.S 7 (.b false),.n 8,.K [1] [617]] rfl (tc_ a) ?_
  cases h
  exact AK.met rfl
 rintro σ rfl
 replace h:Qiv f=some r:=h
 refine tg_ hC [.n 2] rfl ?_
 cases h
 exact d1_ rfl rfl ⟨rfl,tt_⟩
def QlK (a:Qj):Option Bool:=
 some (a.From != a.To)
theorem QvM (a){r}(h:QlK a=some r):Qc prog 126 [.loc 617 0 0] [(617,.var (Qd a))] (Gives (.b r) [(617,.var (Qd a))]):=by
 refine Qc.walk 7 func126 rfl rfl rfl fun C hC=>?_
 refine tg_ hC [.n 16] rfl ?_
 cases h
 exact d1_ rfl rfl ⟨rfl,tt_⟩
def QlL (a:Qj)(c:Int)(d:Int)(e:Int):Option Int:=
 (QlI a).bind fun f=>
 bif (!f)then
 some c
 else
 (QlJ a).bind fun g=>
 bif (!g)then
 some d
 else
 (QlK a).bind fun b=>
 bif (!b)then
 some e
 else
 some 0
theorem QvN (g k l m){r}(h:QlL g k l m=some r):Qc prog 122 [.own 617 3] [(617,.var [.clo (.func 123) [] [.loc 618 0 0],.I k,.clo (.func 124) [] [.loc 618 0 0],.I l,.clo (.func 126) [] [.loc 618 0 0],.I m]),(618,.var (Qd g))] (Gives (.I r) [(617,.var [.clo (.func 123) [] [.loc 618 0 0],.I k,.clo (.func 124) [] [.loc 618 0 0],.I l,.clo (.func 126) [] [.loc 618 0 0],.I m]),(618,.var (Qd g))]):=by
 refine Qc.walk 18 func122 rfl rfl rfl fun C hC=>?_
 refine tg_ hC [.n 14] rfl ?_
 refine AK.loopN 4 (AK.rnd ?_)
 obtain⟨t,p,h⟩:=Qb h
 refine Qa hC [.n 2,.v .no [] (.b true),.n 10,.o (.any (.loc 617 0 0) none),.n 3,.O 4 (.var [.clo (.func 123) [] [.loc 618 0 0],.I k]),.n 6,.cm (.clo) [(617,618)] [(618,617)] [] [.d] [(617,.var (Qd g))] (.b t),.n 3] rfl ⟨⟨⟨⟨tt_,rfl⟩,(fun σ e i _=>Stp.idxV rfl rfl (QN hC.n rfl) (e _ _ rfl) (e _ _ rfl) (Qs.es rfl) (i _ _ rfl) (by decide))⟩,rfl⟩,(QvK _ p)⟩ ?_
 refine bg_ h (fun f h=>Qa hC [.T,.n 13,.K [2] [617,618]] rfl ⟨tt_,f⟩ ?_) fun f h=>Qa hC [.F,.n 4,.v .no [] (.I 1),.n 2] rfl ⟨⟨tt_,f⟩,rfl⟩ ?_
 ·cases h
  exact d1_ rfl rfl ⟨rfl,rfl,tt_⟩
 refine AK.met (AK.rnd ?_)
 obtain⟨u,q,h⟩:=Qb h
 refine Qa hC [.n 2,.v .no [] (.b true),.n 10,.o (.any (.loc 617 0 2) none),.n 1,.kill 4,.n 2,.O 4 (.var [.clo (.func 124) [] [.loc 618 0 0],.I l]),.n 6,.cm (.clo) [(617,618)] [(618,617)] [] [.d] [(617,.var (Qd g))] (.b u),.n 3] rfl ⟨⟨⟨⟨tt_,rfl⟩,(fun σ e i _=>Stp.idxV rfl rfl (QN hC.n rfl) (e _ _ rfl) (e _ _ rfl) (Qs.es rfl) (i _ _ rfl) (by decide))⟩,rfl⟩,(QvL _ q)⟩ ?_
 refine bg_ h (fun a h=>Qa hC [.T,.n 13,.K [2] [617,618]] rfl ⟨tt_,a⟩ ?_) fun a h=>Qa hC [.F,.n 4,.v .no [] (.I 2),.n 2] rfl ⟨⟨tt_,a⟩,rfl⟩ ?_
 ·cases h
  exact d1_ rfl rfl ⟨rfl,rfl,tt_⟩
 refine AK.met (AK.rnd ?_)
 obtain⟨s,j,h⟩:=Qb h
 refine Qa hC [.n 2,.v .no [] (.b true),.n 10,.o (.any (.loc 617 0 4) none),.n 1,.kill 4,.n 2,.O 4 (.var [.clo (.func 126) [] [.loc 618 0 0],.I m]),.n 6,.cm (.clo) [(617,618)] [(618,617)] [] [.d] [(617,.var (Qd g))] (.b s),.n 3] rfl ⟨⟨⟨⟨tt_,rfl⟩,(fun σ e i _=>Stp.idxV rfl rfl (QN hC.n rfl) (e _ _ rfl) (e _ _ rfl) (Qs.es rfl) (i _ _ rfl) (by decide))⟩,rfl⟩,(QvM _ j)⟩ ?_
 refine bg_ h (fun c h=>Qa hC [.T,.n 13,.K [2] [617,618]] rfl ⟨tt_,c⟩ ?_) fun c h=>Qa hC [.F,.n 4,.v .no [] (.I 3),.n 2] rfl ⟨⟨tt_,c⟩,rfl⟩ ?_
 ·cases h
  exact d1_ rfl rfl ⟨rfl,rfl,tt_⟩
 refine AK.met (AK.rnd ?_)
 refine Qa hC [.n 2,.v .no [] (.b false),.n 15] rfl ⟨tt_,rfl⟩ ?_
 cases h
 exact d1_ rfl rfl ⟨rfl,rfl,tt_⟩
def QkT (a:(List QH)):Option Bool:=
 (QhL a).bind fun b=>
 some b.2
theorem QuX (e){r}(h:QkT e=some r):Qc prog 171 [.sl 7 (e.map Qr)] [] (Gives (.b r) []):=by
 refine Qc.walk 11 func171 rfl rfl rfl fun C hC=>?_
 obtain⟨f,a,h⟩:=Qb h
 refine Qa hC [.n 8,.o (.c false [.d] (.tup [.sl 1 (f.1.map Qe),.b f.2])),.n 14] rfl ⟨tt_,(Qos _ a)⟩ ?_
 cases h
 exact d1_ rfl rfl tt_
def Qgg (b:Qj)(a:Int):Option Bool:=
 (chk (decide (0≤(w64 (a+1)))&&decide (0≤(w64 (a+1)).toNat)&&decide ((w64 (a+1)).toNat≤b.Colours.length))).bind fun _=>
 (QkT ((b.Colours.drop 0).take ((w64 (a+1)).toNat-0))).bind fun c=>
 some c
theorem Qrd (e f){r}(h:Qgg e f=some r):Qc prog 170 [.loc 617 0 0,.loc 618 0 0] [(617,.var (Qd e)),(618,.var (Qe f))] (Gives (.b r) [(617,.var (Qd e)),(618,.var (Qe f))]):=by
 refine Qc.walk 9 func170 rfl rfl rfl fun C hC=>?_
 obtain⟨a,h⟩:=QaW h
 obtain⟨j,g,h⟩:=Qb h
 refine Qa hC [.n 11,.o (.any (.sl 7 (((e.Colours.drop 0).take ((w64 (f+1)).toNat-0)).map Qr)) none),.o (.c false [.d] (.b j)),.n 4] rfl ⟨⟨tt_,(fun σ i k _=>Stp.sliceD rfl rfl (QN hC.n rfl) (i _ _ rfl) (Qs.es rfl) Bnd.no (Bnd.val (i _ _ rfl) (Q9 (QtG a)) rfl) (Q9 (QtH a)) (Qbm (Q9 (QtI a)) (Nat.le_of_eq Qf.symm)) Qwp)⟩,(QuX _ g)⟩ ?_
 cases h
 exact d1_ rfl rfl ⟨rfl,rfl,tt_⟩
def QpN (x:ByteArray):Option (List ByteArray):=(chk (QyZ x)).bind fun _=>some (Qgy x)
theorem Qtd (x){r}(h:QpN x=some r):Qc prog 274 [.s x] [] (Gives (.own 600 r.length) [(600,.arr 1 (r.map Qea))]):=by
 obtain⟨_,a,h⟩:=Qb h
 cases h
 exact Qx9 QBy (by kernel_rfl) (by kernel_rfl) x (QyC a)
def QiU  : Option (List ByteArray):=
 (QpN (⟨#[99,111,108,111,117,114,32,112,108,97,99,101,32,116,97,115,107,32,118,97,114,32,119,104,101,110,32,106,111,105,110,32,115,112,108,105,116,32,105,110,32,111,117,116,32,99,97,110,99,101,108,32,97,102,116,101,114,32,109,97,110,121,32,102,114,111,109,32,116,111,32,105,110,116,32,101,110,117,109,32,112,97,105,114,32,97,110,100,32,120,111,114,32,111,114,32,105,102]⟩:ByteArray)).bind fun a=>
 some a
theorem QvO  {r:(List ByteArray)}(h:QiU  = some r):Qc prog 255 [] [] (Gives (.own 600 r.length) [(600,.arr 1 (r.map Qea))]):=by
 refine Qc.walk 2 func255 rfl rfl rfl fun C hC=>?_
 obtain⟨b,a,h⟩:=Qb h
 refine Qa hC [.n 7,.o (.co false [.d] 1 (b.map Qea) b.length),.n 4,.K [0] [1],.ren 1 600] rfl ⟨tt_,⟨(Qtd _ a),Qf,.inl rfl⟩⟩ ?_
 cases h
 exact d1_ rfl rfl ⟨rfl,tt_⟩
def Qcc (b:(List ByteArray))(c:ByteArray)(a:Int):Option (Int⊕(Int⊕Unit)):=
 bif (decide (a<(b.length:Int)))then
 (idx b a).bind fun d=>
 bif (Qij c d)then
 some (.inr (.inl a))
 else
 some (.inl (w64 (a+1)))
 else
 some (.inr (.inr ()))
def Qcd (a:Int):Option Int:=
 some a
def Qce : Option Int:=
 some (-1)
def QcR (a:(List ByteArray))(b:ByteArray):Option Int:=
 (QJ (fun st=>Qcc a b st) 0).bind (Sum.elim (fun q=>Qcd q) (fun q=>Qce))
theorem Qmh (c f){r}(h:QcR c f=some r):Qc prog 273 [.sl 1 (c.map Qea),.s f] [] (Gives (.I r) []):=by
 refine Qc.walk 19 func273 rfl rfl rfl fun C hC=>?_
 refine Qa hC [.n 9,.o (.ln c.length),.n 4,.K [0,1,7,8] []] rfl ⟨tt_,Qf⟩ ?_
 obtain⟨g,d,h⟩:=Qb h
 refine AK.loop (body:=(fun st=>Qcc c f st)) (fun st σ=>σ=⟨[(0,.sl 1 (c.map Qea)),(1,.s f),(7,.I (c.length:Int)),(8,.I st)],[]⟩) (Sum.elim (fun q e σ=>e=.ret∧σ=⟨[(4,.I q)],[]⟩) (fun q e σ=>e=.exit 0∧σ=⟨[],[]⟩)) d rfl ?_ ?_
 ·rintro l o σ rfl h
  refine tg_ hC [.n 6] rfl ?_
  rcases Qt h with⟨b,h⟩|⟨b,h⟩
  ·obtain⟨j,i,h⟩:=Qb h
   refine Qa hC [.T,.n 15,.o (.row (Qea j)),.n 4] rfl ⟨⟨tt_,b⟩,(QT i)⟩ ?_
   refine bg_ h (fun a h=>Qa hC [.T,.n 9,.K [4] []] rfl ⟨tt_,a⟩ ?_) fun a h=>Qa hC [.F,.n 7,.K [0,1,7,8] []] rfl ⟨tt_,a⟩ ?_
   ·cases h
    exact Qav rfl (an_ rfl rfl)
   cases h
   exact Q6 rfl rfl
  refine Qa hC [.F,.n 2,.K [] []] rfl ⟨tt_,b⟩ ?_
  cases h
  exact Q8 rfl (an_ rfl rfl)
 rcases g with(k | _)
 ·replace h:Qcd k=some r:=h
  rintro e σ ⟨rfl,rfl⟩
  refine tg_ hC [.n 2] rfl ?_
  cases h
  exact d1_ rfl rfl tt_
 replace h:Qce=some r:=h
 rintro e σ ⟨rfl,rfl⟩
 refine tg_ hC [.n 8] rfl ?_
 cases h
 exact d1_ rfl rfl tt_
def Qcf (a:(List ByteArray))(b:ByteArray):Option Bool:=
 (QcR a b).bind fun c=>
 some (decide (0≤c))
theorem Qlg (e f){r}(h:Qcf e f=some r):Qc prog 254 [.sl 1 (e.map Qea),.s f] [] (Gives (.b r) []):=by
 refine Qc.walk 9 func254 rfl rfl rfl fun C hC=>?_
 obtain⟨g,a,h⟩:=Qb h
 refine Qa hC [.n 9,.o (.c false [.d,.d] (.I g)),.n 5] rfl ⟨tt_,(Qmh _ _ a)⟩ ?_
 cases h
 exact d1_ rfl rfl tt_
def QmR (a:ByteArray):Option Bool:=
 (QiU).bind fun b=>
 (Qcf b a).bind fun c=>
 some c
theorem QwA (g){r}(h:QmR g=some r):Qc prog 221 [.s g] [] (Gives (.b r) []):=by
 refine Qc.walk 6 func221 rfl rfl rfl fun C hC=>?_
 obtain⟨a,e,h⟩:=Qb h
 obtain⟨i,f,h⟩:=Qb h
 refine Qa hC [.n 7,.o (.co false [] 1 (a.map Qea) a.length),.n 1,.o (.c true [.o (a.map Qea),.d] (.b i)),.n 4] rfl ⟨⟨tt_,⟨(QvO  e),Qf,.inl rfl⟩⟩,⟨(Qrp rfl),(Qlg _ _ f)⟩⟩ ?_
 cases h
 exact d1_ rfl rfl tt_
def QqP (a:ByteArray):Option Bool:=
 (QgB a).bind fun b=>
 bif b then
 (QmR a).bind fun c=>
 some (!c)
 else
 some false
def QjH (a:Bool):Option Bool:=
 some a
def QeR (a:ByteArray):Option Bool:=
 (QqP a).bind (fun b=>QjH b)
theorem QgT (j){r}(h:QeR j=some r):Qc prog 167 [.s j] [] (Gives (.b r) []):=by
 refine Qc.walk 10 func167 rfl rfl rfl fun C hC=>?_
 refine tg_ hC [.n 6] rfl ?_
 obtain⟨e,f,h⟩:=Qb h
 replace h:QjH e=some r:=h
 refine AK.meetX (fun σ=>σ=⟨[(2,.b e)],[]⟩) ?_ ?_
 ·replace h:=f
  obtain⟨k,g,h⟩:=Qb h
  refine Qa hC [.n 2,.o (.c false [.d] (.b k)),.n 1] rfl ⟨tt_,(QlX _ g)⟩ ?_
  rcases Qt h with⟨a,h⟩|⟨a,h⟩
  ·obtain⟨l,i,h⟩:=Qb h
   refine Qa hC [.S 5 (.b true),.n 1,.o (.c false [.d] (.b l)),.n 4,.K [2] []] rfl ⟨(tc_ a),(QwA _ i)⟩ ?_
   cases h
   exact AK.met rfl
  refine Qa hC [.S 5 (.b false),.n 6,.K [2] []] rfl (tc_ a) ?_
  cases h
  exact AK.met rfl
 rintro σ rfl
 replace h:QjH e=some r:=h
 refine tg_ hC [.n 2] rfl ?_
 cases h
 exact d1_ rfl rfl tt_
def Qe7 (a:ByteArray):Option Bool:=
 (QeR a).bind fun b=>
 some (!b)
theorem QpO (e){r}(h:Qe7 e=some r):Qc prog 169 [.s e] [] (Gives (.b r) []):=by
 refine Qc.walk 6 func169 rfl rfl rfl fun C hC=>?_
 obtain⟨f,a,h⟩:=Qb h
 refine Qa hC [.n 8,.o (.c false [.d] (.b f)),.n 5] rfl ⟨tt_,(QgT _ a)⟩ ?_
 cases h
 exact d1_ rfl rfl tt_
def Qbx (b:(List ByteArray))(a:Int):Option (Int⊕(Int⊕Unit)):=
 bif (decide (a<(b.length:Int)))then
 (idx b a).bind fun c=>
 (Qe7 c).bind fun d=>
 bif d then
 some (.inr (.inl a))
 else
 some (.inl (w64 (a+1)))
 else
 some (.inr (.inr ()))
def Qby (a:Int):Option Int:=
 some a
def Qbz : Option Int:=
 some (-1)
def Qb5 (a:(List ByteArray)):Option Int:=
 (QJ (fun st=>Qbx a st) 0).bind (Sum.elim (fun q=>Qby q) (fun q=>Qbz))
theorem QkU (g){r}(h:Qb5 g=some r):Qc prog 222 [.sl 1 (g.map Qea),.clo (.func 169) [] []] [] (Gives (.I r) []):=by
 refine Qc.walk 19 func222 rfl rfl rfl fun C hC=>?_
 refine Qa hC [.n 9,.o (.ln g.length),.n 4,.K [0,1,7,8] []] rfl ⟨tt_,Qf⟩ ?_
 obtain⟨j,i,h⟩:=Qb h
 refine AK.loop (body:=(fun st=>Qbx g st)) (fun st σ=>σ=⟨[(0,.sl 1 (g.map Qea)),(1,.clo (.func 169) [] []),(7,.I (g.length:Int)),(8,.I st)],[]⟩) (Sum.elim (fun q e σ=>e=.ret∧σ=⟨[(4,.I q)],[]⟩) (fun q e σ=>e=.exit 0∧σ=⟨[],[]⟩)) i rfl ?_ ?_
 ·rintro t o σ rfl h
  refine tg_ hC [.n 6] rfl ?_
  rcases Qt h with⟨f,h⟩|⟨f,h⟩
  ·obtain⟨m,k,h⟩:=Qb h
   obtain⟨p,l,h⟩:=Qb h
   refine Qa hC [.T,.n 15,.o (.row (Qea m)),.n 1,.o (.c false [.d] (.b p)),.n 2] rfl ⟨⟨⟨tt_,f⟩,(QT k)⟩,(QpO _ l)⟩ ?_
   refine bg_ h (fun a h=>Qa hC [.T,.n 9,.K [4] []] rfl ⟨tt_,a⟩ ?_) fun a h=>Qa hC [.F,.n 7,.K [0,1,7,8] []] rfl ⟨tt_,a⟩ ?_
   ·cases h
    exact Qav rfl (an_ rfl rfl)
   cases h
   exact Q6 rfl rfl
  refine Qa hC [.F,.n 2,.K [] []] rfl ⟨tt_,f⟩ ?_
  cases h
  exact Q8 rfl (an_ rfl rfl)
 rcases j with(s | _)
 ·replace h:Qby s=some r:=h
  rintro e σ ⟨rfl,rfl⟩
  refine tg_ hC [.n 2] rfl ?_
  cases h
  exact d1_ rfl rfl tt_
 replace h:Qbz=some r:=h
 rintro e σ ⟨rfl,rfl⟩
 refine tg_ hC [.n 8] rfl ?_
 cases h
 exact d1_ rfl rfl tt_
def QbA (a:(List ByteArray)):Option Bool:=
 (Qb5 a).bind fun b=>
 some (decide (0≤b))
theorem Qjf (c){r}(h:QbA c=some r):Qc prog 168 [.sl 1 (c.map Qea),.clo (.func 169) [] []] [] (Gives (.b r) []):=by
 refine Qc.walk 9 func168 rfl rfl rfl fun C hC=>?_
 obtain⟨e,a,h⟩:=Qb h
 refine Qa hC [.n 9,.cm (.fn) [] [] [] [.d,.d] [] (.I e),.n 5] rfl ⟨tt_,(QkU _ a)⟩ ?_
 cases h
 exact d1_ rfl rfl tt_
def QlA (a:QH):Option Bool:=
 (QeR a.Name).bind fun b=>
 bif b then
 bif (a.Kind != 2)then
 some true
 else
 (QbA a.Names).bind fun c=>
 some (!c)
 else
 some false
def QeJ (a:Bool):Option Bool:=
 some a
def Qgh (a:QH):Option Bool:=
 (QlA a).bind (fun b=>QeJ b)
theorem Qre (f){r}(h:Qgh f=some r):Qc prog 166 [.loc 617 0 0] [(617,.var (Qr f))] (Gives (.b r) [(617,.var (Qr f))]):=by
 refine Qc.walk 16 func166 rfl rfl rfl fun C hC=>?_
 refine tg_ hC [.n 6] rfl ?_
 obtain⟨g,i,h⟩:=Qb h
 replace h:QeJ g=some r:=h
 refine AK.meetX (fun σ=>σ=⟨[(1,.b g)],[(617,.var (Qr f))]⟩) ?_ ?_
 ·replace h:=i
  obtain⟨l,j,h⟩:=Qb h
  refine Qa hC [.n 3,.o (.c false [.d] (.b l)),.n 1] rfl ⟨tt_,(QgT _ j)⟩ ?_
  refine bg_ h (fun a h=>Qa hC [.S 5 (.b true),.n 4] rfl (tc_ a) ?_) fun a h=>Qa hC [.S 5 (.b false),.n 12,.K [1] [617]] rfl (tc_ a) ?_
  ·rcases Qt h with⟨e,h⟩|⟨e,h⟩
   ·refine Qa hC [.S 9 (.b true),.n 8,.K [1] [617]] rfl (tc_ e) ?_
    cases h
    exact AK.met rfl
   obtain⟨m,k,h⟩:=Qb h
   refine Qa hC [.S 9 (.b false),.n 2,.cm (.fn) [] [] [] [.d,.d] [] (.b m),.n 5,.K [1] [617]] rfl ⟨(tc_ e),(Qjf _ k)⟩ ?_
   cases h
   exact AK.met rfl
  cases h
  exact AK.met rfl
 rintro σ rfl
 replace h:QeJ g=some r:=h
 refine tg_ hC [.n 2] rfl ?_
 cases h
 exact d1_ rfl rfl ⟨rfl,tt_⟩
def Qiw (b:Qj)(c:Int)(d:Int)(e:QH)(f:Int):Option Int:=
 (Qgg b c).bind fun g=>
 bif (!g)then
 some d
 else
 (Qgh e).bind fun a=>
 bif (!a)then
 some f
 else
 some 0
theorem Qte (g i j k l){r}(h:Qiw g i j k l=some r):Qc prog 122 [.own 617 2] [(617,.var [.clo (.func 170) [] [.loc 618 0 0,.loc 619 0 0],.I j,.clo (.func 166) [] [.loc 620 0 0],.I l]),(618,.var (Qd g)),(619,.var (Qe i)),(620,.var (Qr k))] (Gives (.I r) [(617,.var [.clo (.func 170) [] [.loc 618 0 0,.loc 619 0 0],.I j,.clo (.func 166) [] [.loc 620 0 0],.I l]),(618,.var (Qd g)),(619,.var (Qe i)),(620,.var (Qr k))]):=by
 refine Qc.walk 18 func122 rfl rfl rfl fun C hC=>?_
 refine tg_ hC [.n 14] rfl ?_
 refine AK.loopN 3 (AK.rnd ?_)
 obtain⟨s,m,h⟩:=Qb h
 refine Qa hC [.n 2,.v .no [] (.b true),.n 10,.o (.any (.loc 617 0 0) none),.n 3,.O 4 (.var [.clo (.func 170) [] [.loc 618 0 0,.loc 619 0 0],.I j]),.n 6,.cm (.clo) [(617,618),(618,619)] [(618,617),(619,618)] [] [.d,.d] [(617,.var (Qd g)),(618,.var (Qe i))] (.b s),.n 3] rfl ⟨⟨⟨⟨tt_,rfl⟩,(fun σ e p _=>Stp.idxV rfl rfl (QN hC.n rfl) (e _ _ rfl) (e _ _ rfl) (Qs.es rfl) (p _ _ rfl) (by decide))⟩,rfl⟩,(Qrd _ _ m)⟩ ?_
 refine bg_ h (fun c h=>Qa hC [.T,.n 13,.K [2] [617,618,619,620]] rfl ⟨tt_,c⟩ ?_) fun c h=>Qa hC [.F,.n 4,.v .no [] (.I 1),.n 2] rfl ⟨⟨tt_,c⟩,rfl⟩ ?_
 ·cases h
  exact d1_ rfl rfl ⟨rfl,rfl,rfl,rfl,tt_⟩
 refine AK.met (AK.rnd ?_)
 obtain⟨q,f,h⟩:=Qb h
 refine Qa hC [.n 2,.v .no [] (.b true),.n 10,.o (.any (.loc 617 0 2) none),.n 1,.kill 4,.n 2,.O 4 (.var [.clo (.func 166) [] [.loc 620 0 0],.I l]),.n 6,.cm (.clo) [(617,620)] [(620,617)] [] [.d] [(617,.var (Qr k))] (.b q),.n 3] rfl ⟨⟨⟨⟨tt_,rfl⟩,(fun σ e p _=>Stp.idxV rfl rfl (QN hC.n rfl) (e _ _ rfl) (e _ _ rfl) (Qs.es rfl) (p _ _ rfl) (by decide))⟩,rfl⟩,(Qre _ f)⟩ ?_
 refine bg_ h (fun a h=>Qa hC [.T,.n 13,.K [2] [617,618,619,620]] rfl ⟨tt_,a⟩ ?_) fun a h=>Qa hC [.F,.n 4,.v .no [] (.I 2),.n 2] rfl ⟨⟨tt_,a⟩,rfl⟩ ?_
 ·cases h
  exact d1_ rfl rfl ⟨rfl,rfl,rfl,rfl,tt_⟩
 refine AK.met (AK.rnd ?_)
 refine Qa hC [.n 2,.v .no [] (.b false),.n 15] rfl ⟨tt_,rfl⟩ ?_
 cases h
 exact d1_ rfl rfl ⟨rfl,rfl,rfl,rfl,tt_⟩
def Qhw (a:Int)(b:QH)(c:Qj):Option Int:=
 (Qiw c a 8 b 8).bind fun d=>
 some d
theorem QsF (b c a){r}(h:Qhw b c a=some r):Qc prog 165 [.I b,.agg (Qr c),.loc 617 0 0] [(617,.var (Qd a))] (Gives (.I r) [(617,.var (Qd a))]):=by
 refine Qc.walk 16 func165 rfl rfl rfl fun C hC=>?_
 obtain⟨f,e,h⟩:=Qb h
 refine Qa hC [.n 22,.v .no [] (.agg [.clo (.func 170) [] [.loc 617 0 0,.loc 3 0 0],.I 8]),.n 1,.v .no [] (.agg [.clo (.func 166) [] [.loc 4 0 0],.I 8]),.o (.any (.own 14 2) (some (.var [.clo (.func 170) [] [.loc 617 0 0,.loc 3 0 0],.I 8,.clo (.func 166) [] [.loc 4 0 0],.I 8]))),.cm (.fn) [(617,14),(618,617),(619,3),(620,4)] [(14,617),(617,618),(3,619),(4,620)] [] [.d] [(617,.var [.clo (.func 170) [] [.loc 618 0 0,.loc 619 0 0],.I 8,.clo (.func 166) [] [.loc 620 0 0],.I 8]),(618,.var (Qd a)),(619,.var (Qe b)),(620,.var (Qr c))] (.I f),.n 4] rfl ⟨⟨⟨⟨tt_,rfl⟩,rfl⟩,(fun σ g i hf=>Stp.buildAny rfl rfl (QN hC.n rfl) (Qs.es rfl) QnV rfl (by decide) (by decide) (QfZ g rfl) rfl rfl (hf rfl))⟩,(Qte _ _ _ _ _ e)⟩ ?_
 cases h
 exact d1_ rfl rfl ⟨rfl,tt_⟩
def Qdb (d:(List QH))(e:Qj)(a:Int):Option (Int⊕((Int×Int)⊕Unit)):=
 bif (decide (a<(d.length:Int)))then
 (idx d a).bind fun c=>
 (Qhw a c e).bind fun b=>
 bif (b != 0)then
 some (.inr (.inl (a,b)))
 else
 some (.inl (w64 (a+1)))
 else
 some (.inr (.inr ()))
def Qdc (b:Int)(a:Int):Option (Int×Int):=
 some (b,a)
def Qdd : Option (Int×Int):=
 some (0,0)
def Qeb (a:(List QH))(b:Qj):Option (Int×Int):=
 (QJ (fun st=>Qdb a b st) 0).bind (Sum.elim (fun q=>Qdc q.1 q.2) (fun q=>Qdd))
theorem Qof (g f){r}(h:Qeb g f=some r):Qc prog 164 [.sl 7 (g.map Qr),.clo (.func 165) [] [.loc 617 0 0]] [(617,.var (Qd f))] (Gives (.tup [.I r.1,.I r.2]) [(617,.var (Qd f))]):=by
 refine Qc.walk 25 func164 rfl rfl rfl fun C hC=>?_
 refine Qa hC [.n 10,.o (.ln g.length),.n 4,.K [1,9,10,11] [617]] rfl ⟨tt_,Qf⟩ ?_
 obtain⟨l,i,h⟩:=Qb h
 refine AK.loop (body:=(fun st=>Qdb g f st)) (fun st σ=>σ=⟨[(1,.clo (.func 165) [] [.loc 617 0 0]),(9,.sl 7 (g.map Qr)),(10,.I (g.length:Int)),(11,.I st)],[(617,.var (Qd f))]⟩) (Sum.elim (fun q e σ=>e=.ret∧σ=⟨[(4,.I q.1),(5,.I q.2)],[(617,.var (Qd f))]⟩) (fun q e σ=>e=.exit 0∧σ=⟨[],[(617,.var (Qd f))]⟩)) i rfl ?_ ?_
 ·rintro t o σ rfl h
  refine tg_ hC [.n 6] rfl ?_
  rcases Qt h with⟨a,h⟩|⟨a,h⟩
  ·obtain⟨c,j,h⟩:=Qb h
   obtain⟨m,k,h⟩:=Qb h
   refine Qa hC [.T,.n 7,.o (.row (Qr c)),.v .no [] (.agg (Qr c)),.n 3,.O 7 (.var (Qr c)),.n 6,.v .no [] (.agg (Qr c)),.cm (.clo) [(617,617)] [(617,617)] [] [.d,.d,.d] [(617,.var (Qd f))] (.I m),.n 9] rfl ⟨⟨⟨⟨⟨⟨tt_,a⟩,(QT j)⟩,rfl⟩,rfl⟩,rfl⟩,(QsF _ _ _ k)⟩ ?_
   refine bg_ h (fun b h=>Qa hC [.T,.n 11,.K [4,5] [617]] rfl ⟨tt_,b⟩ ?_) fun b h=>Qa hC [.F,.n 7,.K [1,9,10,11] [617]] rfl ⟨tt_,b⟩ ?_
   ·cases h
    exact Qav rfl (an_ rfl rfl)
   cases h
   exact Q6 rfl rfl
  refine Qa hC [.F,.n 2,.K [] [617]] rfl ⟨tt_,a⟩ ?_
  cases h
  exact Q8 rfl (an_ rfl rfl)
 rcases l with(⟨s,p⟩|_)
 ·replace h:Qdc s p=some r:=h
  rintro e σ ⟨rfl,rfl⟩
  refine tg_ hC [.n 2] rfl ?_
  cases h
  exact d2_ rfl rfl rfl ⟨rfl,tt_⟩
 replace h:Qdd=some r:=h
 rintro e σ ⟨rfl,rfl⟩
 refine tg_ hC [.n 9] rfl ?_
 cases h
 exact d2_ rfl rfl rfl ⟨rfl,tt_⟩
def QgU (a:Qj):Option (Int×Int):=
 (Qeb a.Colours a).bind fun b=>
 some (b.1,b.2)
theorem QnZ (a){r}(h:QgU a=some r):Qc prog 127 [.agg (Qd a)] [] (Gives (.tup [.I r.1,.I r.2]) []):=by
 refine Qc.walk 10 func127 rfl rfl rfl fun C hC=>?_
 obtain⟨c,b,h⟩:=Qb h
 refine Qa hC [.n 12,.cm (.fn) [(617,1)] [(1,617)] [] [.d,.d] [(617,.var (Qd a))] (.tup [.I c.1,.I c.2]),.n 7] rfl ⟨tt_,(Qof _ _ b)⟩ ?_
 cases h
 exact d2_ rfl rfl rfl tt_
def QjI (a:QM):Option Bool:=
 (QeR a.Name).bind fun b=>
 some b
theorem Qt1 (a){r}(h:QjI a=some r):Qc prog 173 [.loc 617 0 0] [(617,.var (Qp a))] (Gives (.b r) [(617,.var (Qp a))]):=by
 refine Qc.walk 5 func173 rfl rfl rfl fun C hC=>?_
 obtain⟨f,e,h⟩:=Qb h
 refine Qa hC [.n 9,.o (.c false [.d] (.b f)),.n 4] rfl ⟨tt_,(QgT _ e)⟩ ?_
 cases h
 exact d1_ rfl rfl ⟨rfl,tt_⟩
def QjJ (a:QM)(b:QM):Option Bool:=
 some (Qij a.Name b.Name)
theorem Qt2 (c a){r}(h:QjJ c a=some r):Qc prog 172 [.agg (Qp c),.loc 617 0 0] [(617,.var (Qp a))] (Gives (.b r) [(617,.var (Qp a))]):=by
 refine Qc.walk 9 func172 rfl rfl rfl fun C hC=>?_
 refine tg_ hC [.n 17] rfl ?_
 cases h
 exact d1_ rfl rfl ⟨rfl,tt_⟩
def QaR (c:(List QM))(d:QM)(a:Int):Option (Int⊕(Int⊕Unit)):=
 bif (decide (a<(c.length:Int)))then
 (idx c a).bind fun e=>
 (QjJ e d).bind fun b=>
 bif b then
 some (.inr (.inl a))
 else
 some (.inl (w64 (a+1)))
 else
 some (.inr (.inr ()))
def QaS (a:Int):Option Int:=
 some a
def QaT : Option Int:=
 some (-1)
def Qbb (a:(List QM))(b:QM):Option Int:=
 (QJ (fun st=>QaR a b st) 0).bind (Sum.elim (fun q=>QaS q) (fun q=>QaT))
theorem Qia (g c){r}(h:Qbb g c=some r):Qc prog 224 [.sl 3 (g.map Qp),.clo (.func 172) [] [.loc 617 0 0]] [(617,.var (Qp c))] (Gives (.I r) [(617,.var (Qp c))]):=by
 refine Qc.walk 19 func224 rfl rfl rfl fun C hC=>?_
 refine Qa hC [.n 9,.o (.ln g.length),.n 4,.K [0,1,7,8] [617]] rfl ⟨tt_,Qf⟩ ?_
 obtain⟨k,i,h⟩:=Qb h
 refine AK.loop (body:=(fun st=>QaR g c st)) (fun st σ=>σ=⟨[(0,.sl 3 (g.map Qp)),(1,.clo (.func 172) [] [.loc 617 0 0]),(7,.I (g.length:Int)),(8,.I st)],[(617,.var (Qp c))]⟩) (Sum.elim (fun q e σ=>e=.ret∧σ=⟨[(4,.I q)],[(617,.var (Qp c))]⟩) (fun q e σ=>e=.exit 0∧σ=⟨[],[(617,.var (Qp c))]⟩)) i rfl ?_ ?_
 ·rintro t o σ rfl h
  refine tg_ hC [.n 6] rfl ?_
  rcases Qt h with⟨f,h⟩|⟨f,h⟩
  ·obtain⟨p,l,h⟩:=Qb h
   obtain⟨m,j,h⟩:=Qb h
   refine Qa hC [.T,.n 15,.o (.row (Qp p)),.v .no [] (.agg (Qp p)),.cm (.clo) [(617,617)] [(617,617)] [] [.d,.d] [(617,.var (Qp c))] (.b m),.n 2] rfl ⟨⟨⟨⟨tt_,f⟩,(QT l)⟩,rfl⟩,(Qt2 _ _ j)⟩ ?_
   refine bg_ h (fun a h=>Qa hC [.T,.n 9,.K [4] [617]] rfl ⟨tt_,a⟩ ?_) fun a h=>Qa hC [.F,.n 7,.K [0,1,7,8] [617]] rfl ⟨tt_,a⟩ ?_
   ·cases h
    exact Qav rfl (an_ rfl rfl)
   cases h
   exact Q6 rfl rfl
  refine Qa hC [.F,.n 2,.K [] [617]] rfl ⟨tt_,f⟩ ?_
  cases h
  exact Q8 rfl (an_ rfl rfl)
 rcases k with(s | _)
 ·replace h:QaS s=some r:=h
  rintro e σ ⟨rfl,rfl⟩
  refine tg_ hC [.n 2] rfl ?_
  cases h
  exact d1_ rfl rfl ⟨rfl,tt_⟩
 replace h:QaT=some r:=h
 rintro e σ ⟨rfl,rfl⟩
 refine tg_ hC [.n 8] rfl ?_
 cases h
 exact d1_ rfl rfl ⟨rfl,tt_⟩
def QaU (a:(List QM))(b:QM):Option Bool:=
 (Qbb a b).bind fun c=>
 some (decide (0≤c))
theorem Qg9 (e a){r}(h:QaU e a=some r):Qc prog 175 [.sl 3 (e.map Qp),.clo (.func 172) [] [.loc 617 0 0]] [(617,.var (Qp a))] (Gives (.b r) [(617,.var (Qp a))]):=by
 refine Qc.walk 9 func175 rfl rfl rfl fun C hC=>?_
 obtain⟨f,c,h⟩:=Qb h
 refine Qa hC [.n 9,.cm (.fn) [(617,617)] [(617,617)] [] [.d,.d] [(617,.var (Qp a))] (.I f),.n 5] rfl ⟨tt_,(Qia _ _ c)⟩ ?_
 cases h
 exact d1_ rfl rfl ⟨rfl,tt_⟩
def QjK (b:Qj)(a:Int)(c:QM):Option Bool:=
 (chk (decide (0≤a)&&decide (0≤a.toNat)&&decide (a.toNat≤b.Places.length))).bind fun _=>
 (QaU ((b.Places.drop 0).take (a.toNat-0)) c).bind fun d=>
 some (!d)
theorem Qt3 (e f g){r}(h:QjK e f g=some r):Qc prog 174 [.loc 617 0 0,.loc 618 0 0,.loc 619 0 0] [(617,.var (Qd e)),(618,.var (Qe f)),(619,.var [.clo (.func 172) [] [.loc 620 0 0]]),(620,.var (Qp g))] (Gives (.b r) [(617,.var (Qd e)),(618,.var (Qe f)),(619,.var [.clo (.func 172) [] [.loc 620 0 0]]),(620,.var (Qp g))]):=by
 refine Qc.walk 11 func174 rfl rfl rfl fun C hC=>?_
 obtain⟨c,h⟩:=QaW h
 obtain⟨k,j,h⟩:=Qb h
 refine tg_ hC [.n 6,.K [0,1,2,3] [617,618,619,620]] rfl ?_
 refine AK.draw2 Qs hC mixed [.N,.N,.N,.a (.any (.sl 3 (((e.Places.drop 0).take (f.toNat-0)).map Qp)) none) none false,.N,.a (.any (.b k) none) none false,.N,.m .s] [] [] [3] [617,618,619,620] rfl rfl rfl ⟨⟨tt_,(fun σ i l _=>Stp.sliceD rfl rfl (QN hC.n rfl) (i _ _ rfl) (Qs.es rfl) Bnd.no (Bnd.val (i _ _ rfl) (Q9 (QtG c)) rfl) (Q9 (QtH c)) (Qbm (Q9 (QtI c)) (Nat.le_of_eq Qf.symm)) Qwp)⟩,(fun σ i l _=>Stp.callSame (md:=.cm (.fn) [(617,620)] [(620,617)] [] [.d,.d] [(617,.var (Qp g))] (.b k) [620]) Qs hC i l rfl ⟨⟨tt_,(Qg9 _ _ j)⟩,⟨rfl,tt_⟩⟩)⟩ rfl (by kernel_rfl) rfl rfl rfl ?_
 refine tg_ hC [.n 2] rfl ?_
 cases h
 exact d1_ rfl rfl ⟨rfl,rfl,rfl,rfl,tt_⟩
def QcH (b:(List QH))(a:Int):Option Bool:=
 some ((decide (0≤a))&&(decide (a<(b.length:Int))))
theorem Qie (d c){r}(h:QcH d c=some r):Qc prog 177 [.sl 7 (d.map Qr),.I c] [] (Gives (.b r) []):=by
 refine Qc.walk 13 func177 rfl rfl rfl fun C hC=>?_
 refine tg_ hC [.n 6] rfl ?_
 refine AK.meetX (fun σ=>σ=⟨[(4,.b ((decide (0≤c))&&(decide (c<(d.length:Int)))))],[]⟩) ?_ ?_
 ·refine tg_ hC [.n 4] rfl ?_
  rcases Q7 (decide (0≤c))with a | a
  ·refine Qa hC [.S 7 (.b true),.n 2,.o (.ln d.length),.n 4,.S 4 (.b ((decide (0≤c))&&(decide (c<(d.length:Int))))),.K [4] []] rfl ⟨⟨(tc_ a),Qf⟩,(congrArg V.b (Qb8 a rfl))⟩ ?_
   exact AK.met rfl
  refine Qa hC [.S 7 (.b false),.n 7,.S 4 (.b ((decide (0≤c))&&(decide (c<(d.length:Int))))),.K [4] []] rfl ⟨(tc_ a),(congrArg V.b (Qd6 a rfl))⟩ ?_
  exact AK.met rfl
 rintro σ rfl
 refine tg_ hC [.n 2] rfl ?_
 cases h
 exact d1_ rfl rfl tt_
def QjL (a:Qj)(b:QM):Option Bool:=
 (QcH a.Colours b.Colour).bind fun c=>
 some c
theorem Qt4 (a e){r}(h:QjL a e=some r):Qc prog 176 [.loc 617 0 0,.loc 618 0 0] [(617,.var (Qd a)),(618,.var (Qp e))] (Gives (.b r) [(617,.var (Qd a)),(618,.var (Qp e))]):=by
 refine Qc.walk 8 func176 rfl rfl rfl fun C hC=>?_
 obtain⟨g,f,h⟩:=Qb h
 refine Qa hC [.n 11,.o (.c false [.d,.d] (.b g)),.n 4] rfl ⟨tt_,(Qie _ _ f)⟩ ?_
 cases h
 exact d1_ rfl rfl ⟨rfl,rfl,tt_⟩
def QjM (a:QM):Option Bool:=
 (Qc4 a.First).bind fun b=>
 some b
theorem Qt5 (a){r}(h:QjM a=some r):Qc prog 178 [.loc 617 0 0] [(617,.var (Qp a))] (Gives (.b r) [(617,.var (Qp a))]):=by
 refine Qc.walk 5 func178 rfl rfl rfl fun C hC=>?_
 obtain⟨f,e,h⟩:=Qb h
 refine Qa hC [.n 9,.o (.c false [.d] (.b f)),.n 4] rfl ⟨tt_,(QfQ _ e)⟩ ?_
 cases h
 exact d1_ rfl rfl ⟨rfl,tt_⟩
def Qhx (a:(Int×Int))(b:Int):Option Bool:=
 some (decide (b≤a.1))
theorem QsG (a c){r}(h:Qhx a c=some r):Qc prog 181 [.agg (QI a),.loc 617 0 0] [(617,.var (Qe c))] (Gives (.b r) [(617,.var (Qe c))]):=by
 refine Qc.walk 8 func181 rfl rfl rfl fun C hC=>?_
 refine tg_ hC [.n 16] rfl ?_
 cases h
 exact d1_ rfl rfl ⟨rfl,tt_⟩
def QbB (c:QBg)(d:Int)(a:Int):Option (Int⊕(Int⊕Unit)):=
 bif (decide (a<(c.length:Int)))then
 (idx c a).bind fun e=>
 (Qhx e d).bind fun b=>
 bif b then
 some (.inr (.inl a))
 else
 some (.inl (w64 (a+1)))
 else
 some (.inr (.inr ()))
def QbC (a:Int):Option Int:=
 some a
def QbD : Option Int:=
 some (-1)
def Qb6 (a:QBg)(b:Int):Option Int:=
 (QJ (fun st=>QbB a b st) 0).bind (Sum.elim (fun q=>QbC q) (fun q=>QbD))
theorem QkV (g c){r}(h:Qb6 g c=some r):Qc prog 225 [.sl 2 (g.map QI),.clo (.func 181) [] [.loc 617 0 0]] [(617,.var (Qe c))] (Gives (.I r) [(617,.var (Qe c))]):=by
 refine Qc.walk 19 func225 rfl rfl rfl fun C hC=>?_
 refine Qa hC [.n 9,.o (.ln g.length),.n 4,.K [0,1,7,8] [617]] rfl ⟨tt_,Qf⟩ ?_
 obtain⟨k,i,h⟩:=Qb h
 refine AK.loop (body:=(fun st=>QbB g c st)) (fun st σ=>σ=⟨[(0,.sl 2 (g.map QI)),(1,.clo (.func 181) [] [.loc 617 0 0]),(7,.I (g.length:Int)),(8,.I st)],[(617,.var (Qe c))]⟩) (Sum.elim (fun q e σ=>e=.ret∧σ=⟨[(4,.I q)],[(617,.var (Qe c))]⟩) (fun q e σ=>e=.exit 0∧σ=⟨[],[(617,.var (Qe c))]⟩)) i rfl ?_ ?_
 ·rintro t o σ rfl h
  refine tg_ hC [.n 6] rfl ?_
  rcases Qt h with⟨f,h⟩|⟨f,h⟩
  ·obtain⟨p,l,h⟩:=Qb h
   obtain⟨m,j,h⟩:=Qb h
   refine Qa hC [.T,.n 15,.o (.row (QI p)),.v .no [] (.agg (QI p)),.cm (.clo) [(617,617)] [(617,617)] [] [.d,.d] [(617,.var (Qe c))] (.b m),.n 2] rfl ⟨⟨⟨⟨tt_,f⟩,(QT l)⟩,rfl⟩,(QsG _ _ j)⟩ ?_
   refine bg_ h (fun a h=>Qa hC [.T,.n 9,.K [4] [617]] rfl ⟨tt_,a⟩ ?_) fun a h=>Qa hC [.F,.n 7,.K [0,1,7,8] [617]] rfl ⟨tt_,a⟩ ?_
   ·cases h
    exact Qav rfl (an_ rfl rfl)
   cases h
   exact Q6 rfl rfl
  refine Qa hC [.F,.n 2,.K [] [617]] rfl ⟨tt_,f⟩ ?_
  cases h
  exact Q8 rfl (an_ rfl rfl)
 rcases k with(s | _)
 ·replace h:QbC s=some r:=h
  rintro e σ ⟨rfl,rfl⟩
  refine tg_ hC [.n 2] rfl ?_
  cases h
  exact d1_ rfl rfl ⟨rfl,tt_⟩
 replace h:QbD=some r:=h
 rintro e σ ⟨rfl,rfl⟩
 refine tg_ hC [.n 8] rfl ?_
 cases h
 exact d1_ rfl rfl ⟨rfl,tt_⟩
def QbE (a:QBg)(b:Int):Option Bool:=
 (Qb6 a b).bind fun c=>
 some (decide (0≤c))
theorem Qjg (e a){r}(h:QbE e a=some r):Qc prog 180 [.sl 2 (e.map QI),.clo (.func 181) [] [.loc 617 0 0]] [(617,.var (Qe a))] (Gives (.b r) [(617,.var (Qe a))]):=by
 refine Qc.walk 9 func180 rfl rfl rfl fun C hC=>?_
 obtain⟨f,c,h⟩:=Qb h
 refine Qa hC [.n 9,.cm (.fn) [(617,617)] [(617,617)] [] [.d,.d] [(617,.var (Qe a))] (.I f),.n 5] rfl ⟨tt_,(QkV _ _ c)⟩ ?_
 cases h
 exact d1_ rfl rfl ⟨rfl,tt_⟩
def QjN (b:Qj)(a:QM):Option Bool:=
 (Qa3 b.Colours a.Colour).bind fun c=>
 (QbE a.First c).bind fun d=>
 some (!d)
theorem Qt6 (a e){r}(h:QjN a e=some r):Qc prog 179 [.loc 617 0 0,.loc 618 0 0] [(617,.var (Qd a)),(618,.var (Qp e))] (Gives (.b r) [(617,.var (Qd a)),(618,.var (Qp e))]):=by
 refine Qc.walk 14 func179 rfl rfl rfl fun C hC=>?_
 obtain⟨f,g,h⟩:=Qb h
 obtain⟨j,i,h⟩:=Qb h
 refine Qa hC [.n 11,.o (.c false [.d,.d] (.I f)),.n 2,.O 3 (.var (Qe f)),.n 7,.cm (.fn) [(617,3)] [(3,617)] [] [.d,.d] [(617,.var (Qe f))] (.b j),.n 5] rfl ⟨⟨⟨tt_,(Qit _ _ g)⟩,rfl⟩,(Qjg _ _ i)⟩ ?_
 cases h
 exact d1_ rfl rfl ⟨rfl,rfl,tt_⟩
def Qix (a:QM)(h:Int)(b:Qj)(i:Int)(j:Int)(k:Int)(l:Int)(m:Int):Option Int:=
 (QjI a).bind fun c=>
 bif (!c)then
 some h
 else
 (QjK b i a).bind fun d=>
 bif (!d)then
 some j
 else
 (QjL b a).bind fun e=>
 bif (!e)then
 some k
 else
 (QjM a).bind fun f=>
 bif (!f)then
 some l
 else
 (QjN b a).bind fun g=>
 bif (!g)then
 some m
 else
 some 0
theorem Qtf (k u l w x y z A){r}(h:Qix k u l w x y z A=some r):Qc prog 122 [.own 617 5] [(617,.var [.clo (.func 173) [] [.loc 618 0 0],.I u,.clo (.func 174) [] [.loc 619 0 0,.loc 620 0 0,.loc 621 0 0],.I x,.clo (.func 176) [] [.loc 619 0 0,.loc 618 0 0],.I y,.clo (.func 178) [] [.loc 618 0 0],.I z,.clo (.func 179) [] [.loc 619 0 0,.loc 618 0 0],.I A]),(618,.var (Qp k)),(619,.var (Qd l)),(620,.var (Qe w)),(621,.var [.clo (.func 172) [] [.loc 618 0 0]])] (Gives (.I r) [(617,.var [.clo (.func 173) [] [.loc 618 0 0],.I u,.clo (.func 174) [] [.loc 619 0 0,.loc 620 0 0,.loc 621 0 0],.I x,.clo (.func 176) [] [.loc 619 0 0,.loc 618 0 0],.I y,.clo (.func 178) [] [.loc 618 0 0],.I z,.clo (.func 179) [] [.loc 619 0 0,.loc 618 0 0],.I A]),(618,.var (Qp k)),(619,.var (Qd l)),(620,.var (Qe w)),(621,.var [.clo (.func 172) [] [.loc 618 0 0]])]):=by
 refine Qc.walk 18 func122 rfl rfl rfl fun C hC=>?_
 refine tg_ hC [.n 14] rfl ?_
 refine AK.loopN 6 (AK.rnd ?_)
 obtain⟨B,m,h⟩:=Qb h
 refine Qa hC [.n 2,.v .no [] (.b true),.n 10,.o (.any (.loc 617 0 0) none),.n 3,.O 4 (.var [.clo (.func 173) [] [.loc 618 0 0],.I u]),.n 6,.cm (.clo) [(617,618)] [(618,617)] [] [.d] [(617,.var (Qp k))] (.b B),.n 3] rfl ⟨⟨⟨⟨tt_,rfl⟩,(fun σ a j _=>Stp.idxV rfl rfl (QN hC.n rfl) (a _ _ rfl) (a _ _ rfl) (Qs.es rfl) (j _ _ rfl) (by decide))⟩,rfl⟩,(Qt1 _ m)⟩ ?_
 refine bg_ h (fun c h=>Qa hC [.T,.n 13,.K [2] [617,618,619,620,621]] rfl ⟨tt_,c⟩ ?_) fun c h=>Qa hC [.F,.n 4,.v .no [] (.I 1),.n 2] rfl ⟨⟨tt_,c⟩,rfl⟩ ?_
 ·cases h
  exact d1_ rfl rfl ⟨rfl,rfl,rfl,rfl,rfl,tt_⟩
 refine AK.met (AK.rnd ?_)
 obtain⟨D,p,h⟩:=Qb h
 refine Qa hC [.n 2,.v .no [] (.b true),.n 10,.o (.any (.loc 617 0 2) none),.n 1,.kill 4,.n 2,.O 4 (.var [.clo (.func 174) [] [.loc 619 0 0,.loc 620 0 0,.loc 621 0 0],.I x]),.n 6,.cm (.clo) [(617,619),(618,620),(619,621),(620,618)] [(619,617),(620,618),(621,619),(618,620)] [] [.d,.d,.d] [(617,.var (Qd l)),(618,.var (Qe w)),(619,.var [.clo (.func 172) [] [.loc 620 0 0]]),(620,.var (Qp k))] (.b D),.n 3] rfl ⟨⟨⟨⟨tt_,rfl⟩,(fun σ a j _=>Stp.idxV rfl rfl (QN hC.n rfl) (a _ _ rfl) (a _ _ rfl) (Qs.es rfl) (j _ _ rfl) (by decide))⟩,rfl⟩,(Qt3 _ _ _ p)⟩ ?_
 refine bg_ h (fun e h=>Qa hC [.T,.n 13,.K [2] [617,618,619,620,621]] rfl ⟨tt_,e⟩ ?_) fun e h=>Qa hC [.F,.n 4,.v .no [] (.I 2),.n 2] rfl ⟨⟨tt_,e⟩,rfl⟩ ?_
 ·cases h
  exact d1_ rfl rfl ⟨rfl,rfl,rfl,rfl,rfl,tt_⟩
 refine AK.met (AK.rnd ?_)
 obtain⟨E,q,h⟩:=Qb h
 refine Qa hC [.n 2,.v .no [] (.b true),.n 10,.o (.any (.loc 617 0 4) none),.n 1,.kill 4,.n 2,.O 4 (.var [.clo (.func 176) [] [.loc 619 0 0,.loc 618 0 0],.I y]),.n 6,.cm (.clo) [(617,619),(618,618)] [(619,617),(618,618)] [] [.d,.d] [(617,.var (Qd l)),(618,.var (Qp k))] (.b E),.n 3] rfl ⟨⟨⟨⟨tt_,rfl⟩,(fun σ a j _=>Stp.idxV rfl rfl (QN hC.n rfl) (a _ _ rfl) (a _ _ rfl) (Qs.es rfl) (j _ _ rfl) (by decide))⟩,rfl⟩,(Qt4 _ _ q)⟩ ?_
 refine bg_ h (fun f h=>Qa hC [.T,.n 13,.K [2] [617,618,619,620,621]] rfl ⟨tt_,f⟩ ?_) fun f h=>Qa hC [.F,.n 4,.v .no [] (.I 3),.n 2] rfl ⟨⟨tt_,f⟩,rfl⟩ ?_
 ·cases h
  exact d1_ rfl rfl ⟨rfl,rfl,rfl,rfl,rfl,tt_⟩
 refine AK.met (AK.rnd ?_)
 obtain⟨G,s,h⟩:=Qb h
 refine Qa hC [.n 2,.v .no [] (.b true),.n 10,.o (.any (.loc 617 0 6) none),.n 1,.kill 4,.n 2,.O 4 (.var [.clo (.func 178) [] [.loc 618 0 0],.I z]),.n 6,.cm (.clo) [(617,618)] [(618,617)] [] [.d] [(617,.var (Qp k))] (.b G),.n 3] rfl ⟨⟨⟨⟨tt_,rfl⟩,(fun σ a j _=>Stp.idxV rfl rfl (QN hC.n rfl) (a _ _ rfl) (a _ _ rfl) (Qs.es rfl) (j _ _ rfl) (by decide))⟩,rfl⟩,(Qt5 _ s)⟩ ?_
 refine bg_ h (fun g h=>Qa hC [.T,.n 13,.K [2] [617,618,619,620,621]] rfl ⟨tt_,g⟩ ?_) fun g h=>Qa hC [.F,.n 4,.v .no [] (.I 4),.n 2] rfl ⟨⟨tt_,g⟩,rfl⟩ ?_
 ·cases h
  exact d1_ rfl rfl ⟨rfl,rfl,rfl,rfl,rfl,tt_⟩
 refine AK.met (AK.rnd ?_)
 obtain⟨H,t,h⟩:=Qb h
 refine Qa hC [.n 2,.v .no [] (.b true),.n 10,.o (.any (.loc 617 0 8) none),.n 1,.kill 4,.n 2,.O 4 (.var [.clo (.func 179) [] [.loc 619 0 0,.loc 618 0 0],.I A]),.n 6,.cm (.clo) [(617,619),(618,618)] [(619,617),(618,618)] [] [.d,.d] [(617,.var (Qd l)),(618,.var (Qp k))] (.b H),.n 3] rfl ⟨⟨⟨⟨tt_,rfl⟩,(fun σ a j _=>Stp.idxV rfl rfl (QN hC.n rfl) (a _ _ rfl) (a _ _ rfl) (Qs.es rfl) (j _ _ rfl) (by decide))⟩,rfl⟩,(Qt6 _ _ t)⟩ ?_
 refine bg_ h (fun i h=>Qa hC [.T,.n 13,.K [2] [617,618,619,620,621]] rfl ⟨tt_,i⟩ ?_) fun i h=>Qa hC [.F,.n 4,.v .no [] (.I 5),.n 2] rfl ⟨⟨tt_,i⟩,rfl⟩ ?_
 ·cases h
  exact d1_ rfl rfl ⟨rfl,rfl,rfl,rfl,rfl,tt_⟩
 refine AK.met (AK.rnd ?_)
 refine Qa hC [.n 2,.v .no [] (.b false),.n 15] rfl ⟨tt_,rfl⟩ ?_
 cases h
 exact d1_ rfl rfl ⟨rfl,rfl,rfl,rfl,rfl,tt_⟩
def QlM (a:Qj)(b:Int):Option Int:=
 (QaO a.Places b).bind fun c=>
 bif (!c)then
 some 3
 else
 (idx a.Places b).bind fun d=>
 (Qix d 1 a b 5 3 1 8).bind fun e=>
 some e
theorem QvP (f g){r}(h:QlM f g=some r):Qc prog 130 [.agg (Qd f),.I g] [] (Gives (.I r) []):=by
 refine Qc.walk 30 func130 rfl rfl rfl fun C hC=>?_
 obtain⟨l,i,h⟩:=Qb h
 refine Qa hC [.n 13,.o (.c false [.d,.d] (.b l)),.n 3] rfl ⟨tt_,(Qb9 _ _ i)⟩ ?_
 rcases Qt h with⟨a,h⟩|⟨a,h⟩
 ·refine Qa hC [.T,.n 7] rfl ⟨tt_,a⟩ ?_
  cases h
  exact d1_ rfl rfl tt_
 obtain⟨e,j,h⟩:=Qb h
 obtain⟨m,k,h⟩:=Qb h
 refine Qa hC [.F,.n 7,.o (.row (Qp e)),.v .no [] (.agg (Qp e)),.n 2,.O 5 (.var (Qp e)),.n 7,.O 6 (.var [.clo (.func 172) [] [.loc 5 0 0]]),.n 5,.v .no [] (.agg [.clo (.func 173) [] [.loc 5 0 0],.I 1]),.n 1,.v .no [] (.agg [.clo (.func 174) [] [.loc 2 0 0,.loc 3 0 0,.loc 6 0 0],.I 5]),.n 1,.v .no [] (.agg [.clo (.func 176) [] [.loc 2 0 0,.loc 5 0 0],.I 3]),.n 1,.v .no [] (.agg [.clo (.func 178) [] [.loc 5 0 0],.I 1]),.n 1,.v .no [] (.agg [.clo (.func 179) [] [.loc 2 0 0,.loc 5 0 0],.I 8]),.o (.any (.own 28 5) (some (.var [.clo (.func 173) [] [.loc 5 0 0],.I 1,.clo (.func 174) [] [.loc 2 0 0,.loc 3 0 0,.loc 6 0 0],.I 5,.clo (.func 176) [] [.loc 2 0 0,.loc 5 0 0],.I 3,.clo (.func 178) [] [.loc 5 0 0],.I 1,.clo (.func 179) [] [.loc 2 0 0,.loc 5 0 0],.I 8]))),.cm (.fn) [(617,28),(618,5),(619,2),(620,3),(621,6)] [(28,617),(5,618),(2,619),(3,620),(6,621)] [] [.d] [(617,.var [.clo (.func 173) [] [.loc 618 0 0],.I 1,.clo (.func 174) [] [.loc 619 0 0,.loc 620 0 0,.loc 621 0 0],.I 5,.clo (.func 176) [] [.loc 619 0 0,.loc 618 0 0],.I 3,.clo (.func 178) [] [.loc 618 0 0],.I 1,.clo (.func 179) [] [.loc 619 0 0,.loc 618 0 0],.I 8]),(618,.var (Qp e)),(619,.var (Qd f)),(620,.var (Qe g)),(621,.var [.clo (.func 172) [] [.loc 618 0 0]])] (.I m),.n 4] rfl ⟨⟨⟨⟨⟨⟨⟨⟨⟨⟨⟨⟨tt_,a⟩,(QT j)⟩,rfl⟩,rfl⟩,rfl⟩,rfl⟩,rfl⟩,rfl⟩,rfl⟩,rfl⟩,(fun σ p q hf=>Stp.buildAny rfl rfl (QN hC.n rfl) (Qs.es rfl) QnV rfl (by decide) (by decide) (QfZ p rfl) rfl rfl (hf rfl))⟩,(Qtf _ _ _ _ _ _ _ _ k)⟩ ?_
 cases h
 exact d1_ rfl rfl tt_
def QlN (a:Int)(d:QM)(b:Qj):Option Int:=
 (QlM b a).bind fun c=>
 some c
theorem QvQ (e f a){r}(h:QlN e f a=some r):Qc prog 129 [.I e,.agg (Qp f),.loc 617 0 0] [(617,.var (Qd a))] (Gives (.I r) [(617,.var (Qd a))]):=by
 refine Qc.walk 9 func129 rfl rfl rfl fun C hC=>?_
 obtain⟨g,b,h⟩:=Qb h
 refine Qa hC [.n 8,.v .no [] (.agg (Qd a)),.n 1,.o (.c false [.d,.d] (.I g)),.n 4] rfl ⟨⟨tt_,rfl⟩,(QvP _ _ b)⟩ ?_
 cases h
 exact d1_ rfl rfl ⟨rfl,tt_⟩
def QdC (d:(List QM))(e:Qj)(a:Int):Option (Int⊕((Int×Int)⊕Unit)):=
 bif (decide (a<(d.length:Int)))then
 (idx d a).bind fun c=>
 (QlN a c e).bind fun b=>
 bif (b != 0)then
 some (.inr (.inl (a,b)))
 else
 some (.inl (w64 (a+1)))
 else
 some (.inr (.inr ()))
def QdD (b:Int)(a:Int):Option (Int×Int):=
 some (b,a)
def QdE : Option (Int×Int):=
 some (0,0)
def QeK (a:(List QM))(b:Qj):Option (Int×Int):=
 (QJ (fun st=>QdC a b st) 0).bind (Sum.elim (fun q=>QdD q.1 q.2) (fun q=>QdE))
theorem QoX (g f){r}(h:QeK g f=some r):Qc prog 128 [.sl 3 (g.map Qp),.clo (.func 129) [] [.loc 617 0 0]] [(617,.var (Qd f))] (Gives (.tup [.I r.1,.I r.2]) [(617,.var (Qd f))]):=by
 refine Qc.walk 25 func128 rfl rfl rfl fun C hC=>?_
 refine Qa hC [.n 10,.o (.ln g.length),.n 4,.K [1,9,10,11] [617]] rfl ⟨tt_,Qf⟩ ?_
 obtain⟨l,i,h⟩:=Qb h
 refine AK.loop (body:=(fun st=>QdC g f st)) (fun st σ=>σ=⟨[(1,.clo (.func 129) [] [.loc 617 0 0]),(9,.sl 3 (g.map Qp)),(10,.I (g.length:Int)),(11,.I st)],[(617,.var (Qd f))]⟩) (Sum.elim (fun q e σ=>e=.ret∧σ=⟨[(4,.I q.1),(5,.I q.2)],[(617,.var (Qd f))]⟩) (fun q e σ=>e=.exit 0∧σ=⟨[],[(617,.var (Qd f))]⟩)) i rfl ?_ ?_
 ·rintro t o σ rfl h
  refine tg_ hC [.n 6] rfl ?_
  rcases Qt h with⟨a,h⟩|⟨a,h⟩
  ·obtain⟨c,j,h⟩:=Qb h
   obtain⟨m,k,h⟩:=Qb h
   refine Qa hC [.T,.n 7,.o (.row (Qp c)),.v .no [] (.agg (Qp c)),.n 3,.O 7 (.var (Qp c)),.n 6,.v .no [] (.agg (Qp c)),.cm (.clo) [(617,617)] [(617,617)] [] [.d,.d,.d] [(617,.var (Qd f))] (.I m),.n 9] rfl ⟨⟨⟨⟨⟨⟨tt_,a⟩,(QT j)⟩,rfl⟩,rfl⟩,rfl⟩,(QvQ _ _ _ k)⟩ ?_
   refine bg_ h (fun b h=>Qa hC [.T,.n 11,.K [4,5] [617]] rfl ⟨tt_,b⟩ ?_) fun b h=>Qa hC [.F,.n 7,.K [1,9,10,11] [617]] rfl ⟨tt_,b⟩ ?_
   ·cases h
    exact Qav rfl (an_ rfl rfl)
   cases h
   exact Q6 rfl rfl
  refine Qa hC [.F,.n 2,.K [] [617]] rfl ⟨tt_,a⟩ ?_
  cases h
  exact Q8 rfl (an_ rfl rfl)
 rcases l with(⟨s,p⟩|_)
 ·replace h:QdD s p=some r:=h
  rintro e σ ⟨rfl,rfl⟩
  refine tg_ hC [.n 2] rfl ?_
  cases h
  exact d2_ rfl rfl rfl ⟨rfl,tt_⟩
 replace h:QdE=some r:=h
 rintro e σ ⟨rfl,rfl⟩
 refine tg_ hC [.n 9] rfl ?_
 cases h
 exact d2_ rfl rfl rfl ⟨rfl,tt_⟩
def Qbt (b:(List QC))(a:Int):Option Bool:=
 some ((decide (0≤a))&&(decide (a<(b.length:Int))))
theorem QjO (d c){r}(h:Qbt d c=some r):Qc prog 135 [.sl 14 (d.map Qh),.I c] [] (Gives (.b r) []):=by
 refine Qc.walk 13 func135 rfl rfl rfl fun C hC=>?_
 refine tg_ hC [.n 6] rfl ?_
 refine AK.meetX (fun σ=>σ=⟨[(4,.b ((decide (0≤c))&&(decide (c<(d.length:Int)))))],[]⟩) ?_ ?_
 ·refine tg_ hC [.n 4] rfl ?_
  rcases Q7 (decide (0≤c))with a | a
  ·refine Qa hC [.S 7 (.b true),.n 2,.o (.ln d.length),.n 4,.S 4 (.b ((decide (0≤c))&&(decide (c<(d.length:Int))))),.K [4] []] rfl ⟨⟨(tc_ a),Qf⟩,(congrArg V.b (Qb8 a rfl))⟩ ?_
   exact AK.met rfl
  refine Qa hC [.S 7 (.b false),.n 7,.S 4 (.b ((decide (0≤c))&&(decide (c<(d.length:Int))))),.K [4] []] rfl ⟨(tc_ a),(congrArg V.b (Qd6 a rfl))⟩ ?_
  exact AK.met rfl
 rintro σ rfl
 refine tg_ hC [.n 2] rfl ?_
 cases h
 exact d1_ rfl rfl tt_
def QlO (a:Int)(b:Qj)(c:QC):Option Unit:=
 some ()
theorem QvR (a b c){r}(h:QlO a b c=some r):Qc prog 187 [.loc 617 0 0,.clo (.func 188) [] [.loc 618 0 0,.loc 619 0 0]] [(617,.var (Qe a)),(618,.var (Qd b)),(619,.var (Qh c))] (Gives (.clo (.func 227) [] [.loc 3 0 0,.loc 2 0 0]) [(2,.var [.loc 617 0 0]),(3,.var [.clo (.func 188) [] [.loc 618 0 0,.loc 619 0 0]]),(617,.var (Qe a)),(618,.var (Qd b)),(619,.var (Qh c))]):=by
 refine Qc.walk 6 func187 rfl rfl rfl fun C hC=>?_
 refine tg_ hC [.n 14] rfl ?_
 cases h
 exact d1_ rfl rfl ⟨rfl,rfl,rfl,rfl,rfl,tt_⟩
def Qiy (a:Int)(b:Qj)(c:QC)(d:Int):Option Unit:=
 some ()
theorem Qtg (a b c d){r}(h:Qiy a b c d=some r):Qc prog 187 [.loc 617 0 0,.clo (.func 193) [] [.loc 618 0 0,.loc 619 0 0,.loc 620 0 0]] [(617,.var (Qe a)),(618,.var (Qd b)),(619,.var (Qh c)),(620,.var (Qe d))] (Gives (.clo (.func 227) [] [.loc 3 0 0,.loc 2 0 0]) [(2,.var [.loc 617 0 0]),(3,.var [.clo (.func 193) [] [.loc 618 0 0,.loc 619 0 0,.loc 620 0 0]]),(617,.var (Qe a)),(618,.var (Qd b)),(619,.var (Qh c)),(620,.var (Qe d))]):=by
 refine Qc.walk 6 func187 rfl rfl rfl fun C hC=>?_
 refine tg_ hC [.n 14] rfl ?_
 cases h
 exact d1_ rfl rfl ⟨rfl,rfl,rfl,rfl,rfl,rfl,tt_⟩
def Qiz (a:Int)(b:Qj)(c:QC)(d:Int):Option Unit:=
 some ()
theorem Qth (a b c d){r}(h:Qiz a b c d=some r):Qc prog 187 [.loc 617 0 0,.clo (.func 195) [] [.loc 618 0 0,.loc 619 0 0,.loc 620 0 0]] [(617,.var (Qe a)),(618,.var (Qd b)),(619,.var (Qh c)),(620,.var (Qe d))] (Gives (.clo (.func 227) [] [.loc 3 0 0,.loc 2 0 0]) [(2,.var [.loc 617 0 0]),(3,.var [.clo (.func 195) [] [.loc 618 0 0,.loc 619 0 0,.loc 620 0 0]]),(617,.var (Qe a)),(618,.var (Qd b)),(619,.var (Qh c)),(620,.var (Qe d))]):=by
 refine Qc.walk 6 func187 rfl rfl rfl fun C hC=>?_
 refine tg_ hC [.n 14] rfl ?_
 cases h
 exact d1_ rfl rfl ⟨rfl,rfl,rfl,rfl,rfl,rfl,tt_⟩
def QiA (a:Int)(b:Qj)(c:QC):Option Unit:=
 some ()
theorem Qti (a b c){r}(h:QiA a b c=some r):Qc prog 187 [.loc 617 0 0,.clo (.func 196) [] [.loc 618 0 0,.loc 619 0 0]] [(617,.var (Qe a)),(618,.var (Qd b)),(619,.var (Qh c))] (Gives (.clo (.func 227) [] [.loc 3 0 0,.loc 2 0 0]) [(2,.var [.loc 617 0 0]),(3,.var [.clo (.func 196) [] [.loc 618 0 0,.loc 619 0 0]]),(617,.var (Qe a)),(618,.var (Qd b)),(619,.var (Qh c))]):=by
 refine Qc.walk 6 func187 rfl rfl rfl fun C hC=>?_
 refine tg_ hC [.n 14] rfl ?_
 cases h
 exact d1_ rfl rfl ⟨rfl,rfl,rfl,rfl,rfl,tt_⟩
def QkW (a:QC):Option Bool:=
 (QeR a.Name).bind fun b=>
 some b
theorem QuY (a){r}(h:QkW a=some r):Qc prog 183 [.loc 617 0 0] [(617,.var (Qh a))] (Gives (.b r) [(617,.var (Qh a))]):=by
 refine Qc.walk 5 func183 rfl rfl rfl fun C hC=>?_
 obtain⟨f,e,h⟩:=Qb h
 refine Qa hC [.n 9,.o (.c false [.d] (.b f)),.n 4] rfl ⟨tt_,(QgT _ e)⟩ ?_
 cases h
 exact d1_ rfl rfl ⟨rfl,tt_⟩
def QkX (a:QC)(b:QC):Option Bool:=
 some (Qij a.Name b.Name)
theorem QuZ (c a){r}(h:QkX c a=some r):Qc prog 182 [.agg (Qh c),.loc 617 0 0] [(617,.var (Qh a))] (Gives (.b r) [(617,.var (Qh a))]):=by
 refine Qc.walk 9 func182 rfl rfl rfl fun C hC=>?_
 refine tg_ hC [.n 17] rfl ?_
 cases h
 exact d1_ rfl rfl ⟨rfl,tt_⟩
def Qa4 (c:(List QC))(d:QC)(a:Int):Option (Int⊕(Int⊕Unit)):=
 bif (decide (a<(c.length:Int)))then
 (idx c a).bind fun e=>
 (QkX e d).bind fun b=>
 bif b then
 some (.inr (.inl a))
 else
 some (.inl (w64 (a+1)))
 else
 some (.inr (.inr ()))
def Qa5 (a:Int):Option Int:=
 some a
def Qa6 : Option Int:=
 some (-1)
def Qbp (a:(List QC))(b:QC):Option Int:=
 (QJ (fun st=>Qa4 a b st) 0).bind (Sum.elim (fun q=>Qa5 q) (fun q=>Qa6))
theorem QiV (g c){r}(h:Qbp g c=some r):Qc prog 226 [.sl 14 (g.map Qh),.clo (.func 182) [] [.loc 617 0 0]] [(617,.var (Qh c))] (Gives (.I r) [(617,.var (Qh c))]):=by
 refine Qc.walk 19 func226 rfl rfl rfl fun C hC=>?_
 refine Qa hC [.n 9,.o (.ln g.length),.n 4,.K [0,1,7,8] [617]] rfl ⟨tt_,Qf⟩ ?_
 obtain⟨k,i,h⟩:=Qb h
 refine AK.loop (body:=(fun st=>Qa4 g c st)) (fun st σ=>σ=⟨[(0,.sl 14 (g.map Qh)),(1,.clo (.func 182) [] [.loc 617 0 0]),(7,.I (g.length:Int)),(8,.I st)],[(617,.var (Qh c))]⟩) (Sum.elim (fun q e σ=>e=.ret∧σ=⟨[(4,.I q)],[(617,.var (Qh c))]⟩) (fun q e σ=>e=.exit 0∧σ=⟨[],[(617,.var (Qh c))]⟩)) i rfl ?_ ?_
 ·rintro t o σ rfl h
  refine tg_ hC [.n 6] rfl ?_
  rcases Qt h with⟨f,h⟩|⟨f,h⟩
  ·obtain⟨p,l,h⟩:=Qb h
   obtain⟨m,j,h⟩:=Qb h
   refine Qa hC [.T,.n 15,.o (.row (Qh p)),.v .no [] (.agg (Qh p)),.cm (.clo) [(617,617)] [(617,617)] [] [.d,.d] [(617,.var (Qh c))] (.b m),.n 2] rfl ⟨⟨⟨⟨tt_,f⟩,(QT l)⟩,rfl⟩,(QuZ _ _ j)⟩ ?_
   refine bg_ h (fun a h=>Qa hC [.T,.n 9,.K [4] [617]] rfl ⟨tt_,a⟩ ?_) fun a h=>Qa hC [.F,.n 7,.K [0,1,7,8] [617]] rfl ⟨tt_,a⟩ ?_
   ·cases h
    exact Qav rfl (an_ rfl rfl)
   cases h
   exact Q6 rfl rfl
  refine Qa hC [.F,.n 2,.K [] [617]] rfl ⟨tt_,f⟩ ?_
  cases h
  exact Q8 rfl (an_ rfl rfl)
 rcases k with(s | _)
 ·replace h:Qa5 s=some r:=h
  rintro e σ ⟨rfl,rfl⟩
  refine tg_ hC [.n 2] rfl ?_
  cases h
  exact d1_ rfl rfl ⟨rfl,tt_⟩
 replace h:Qa6=some r:=h
 rintro e σ ⟨rfl,rfl⟩
 refine tg_ hC [.n 8] rfl ?_
 cases h
 exact d1_ rfl rfl ⟨rfl,tt_⟩
def Qa7 (a:(List QC))(b:QC):Option Bool:=
 (Qbp a b).bind fun c=>
 some (decide (0≤c))
theorem QhZ (e a){r}(h:Qa7 e a=some r):Qc prog 185 [.sl 14 (e.map Qh),.clo (.func 182) [] [.loc 617 0 0]] [(617,.var (Qh a))] (Gives (.b r) [(617,.var (Qh a))]):=by
 refine Qc.walk 9 func185 rfl rfl rfl fun C hC=>?_
 obtain⟨f,c,h⟩:=Qb h
 refine Qa hC [.n 9,.cm (.fn) [(617,617)] [(617,617)] [] [.d,.d] [(617,.var (Qh a))] (.I f),.n 5] rfl ⟨tt_,(QiV _ _ c)⟩ ?_
 cases h
 exact d1_ rfl rfl ⟨rfl,tt_⟩
def QkY (b:Qj)(a:Int)(c:QC):Option Bool:=
 (chk (decide (0≤a)&&decide (0≤a.toNat)&&decide (a.toNat≤b.Tasks.length))).bind fun _=>
 (Qa7 ((b.Tasks.drop 0).take (a.toNat-0)) c).bind fun d=>
 some (!d)
theorem Qu0 (e f g){r}(h:QkY e f g=some r):Qc prog 184 [.loc 617 0 0,.loc 618 0 0,.loc 619 0 0] [(617,.var (Qd e)),(618,.var (Qe f)),(619,.var [.clo (.func 182) [] [.loc 620 0 0]]),(620,.var (Qh g))] (Gives (.b r) [(617,.var (Qd e)),(618,.var (Qe f)),(619,.var [.clo (.func 182) [] [.loc 620 0 0]]),(620,.var (Qh g))]):=by
 refine Qc.walk 11 func184 rfl rfl rfl fun C hC=>?_
 obtain⟨c,h⟩:=QaW h
 obtain⟨k,j,h⟩:=Qb h
 refine tg_ hC [.n 6,.K [0,1,2,3] [617,618,619,620]] rfl ?_
 refine AK.draw2 Qs hC mixed [.N,.N,.N,.a (.any (.sl 14 (((e.Tasks.drop 0).take (f.toNat-0)).map Qh)) none) none false,.N,.a (.any (.b k) none) none false,.N,.m .s] [] [] [3] [617,618,619,620] rfl rfl rfl ⟨⟨tt_,(fun σ i l _=>Stp.sliceD rfl rfl (QN hC.n rfl) (i _ _ rfl) (Qs.es rfl) Bnd.no (Bnd.val (i _ _ rfl) (Q9 (QtG c)) rfl) (Q9 (QtH c)) (Qbm (Q9 (QtI c)) (Nat.le_of_eq Qf.symm)) Qwp)⟩,(fun σ i l _=>Stp.callSame (md:=.cm (.fn) [(617,620)] [(620,617)] [] [.d,.d] [(617,.var (Qh g))] (.b k) [620]) Qs hC i l rfl ⟨⟨tt_,(QhZ _ _ j)⟩,⟨rfl,tt_⟩⟩)⟩ rfl (by kernel_rfl) rfl rfl rfl ?_
 refine tg_ hC [.n 2] rfl ?_
 cases h
 exact d1_ rfl rfl ⟨rfl,rfl,rfl,rfl,tt_⟩
def Qh0 (b:Int)(a:QC):Option Bool:=
 some ((decide (b≤16))&&(decide ((max2 (max2 (a.Ins.length:Int) (a.Outs.length:Int)) (a.Cancel.length:Int))≤16)))
theorem Qu1 (d a){r}(h:Qh0 d a=some r):Qc prog 186 [.loc 617 0 0,.loc 618 0 0] [(617,.var (Qe d)),(618,.var (Qh a))] (Gives (.b r) [(617,.var (Qe d)),(618,.var (Qh a))]):=by
 refine Qc.walk 18 func186 rfl rfl rfl fun C hC=>?_
 refine tg_ hC [.n 6] rfl ?_
 refine AK.meetX (fun σ=>σ=⟨[(2,.b ((decide (d≤16))&&(decide ((max2 (max2 (a.Ins.length:Int) (a.Outs.length:Int)) (a.Cancel.length:Int))≤16))))],[(617,.var (Qe d)),(618,.var (Qh a))]⟩) ?_ ?_
 ·refine tg_ hC [.n 4] rfl ?_
  rcases Q7 (decide (d≤16))with c | c
  ·refine Qa hC [.S 5 (.b true),.n 2,.o (.ln a.Ins.length),.n 2,.o (.ln a.Outs.length),.n 2,.o (.ln a.Cancel.length),.o (.any (.I (max2 (max2 (a.Ins.length:Int) (a.Outs.length:Int)) (a.Cancel.length:Int))) none),.n 4,.S 2 (.b ((decide (d≤16))&&(decide ((max2 (max2 (a.Ins.length:Int) (a.Outs.length:Int)) (a.Cancel.length:Int))≤16)))),.K [2] [617,618]] rfl ⟨⟨⟨⟨⟨(tc_ c),Qf⟩,Qf⟩,Qf⟩,(fun σ e f _=>Stp.max3 rfl rfl (QN hC.n rfl) (e _ _ rfl) (e _ _ rfl) (e _ _ rfl))⟩,(congrArg V.b (Qb8 c rfl))⟩ ?_
   exact AK.met rfl
  refine Qa hC [.S 5 (.b false),.n 14,.S 2 (.b ((decide (d≤16))&&(decide ((max2 (max2 (a.Ins.length:Int) (a.Outs.length:Int)) (a.Cancel.length:Int))≤16)))),.K [2] [617,618]] rfl ⟨(tc_ c),(congrArg V.b (Qd6 c rfl))⟩ ?_
  exact AK.met rfl
 rintro σ rfl
 refine tg_ hC [.n 2] rfl ?_
 cases h
 exact d1_ rfl rfl ⟨rfl,rfl,tt_⟩
def Qe8 (a:QaN):Option Bool:=
 (QeR a.Name).bind fun b=>
 some b
theorem QpP (a){r}(h:Qe8 a=some r):Qc prog 231 [.loc 617 0 0] [(617,.var (QR a))] (Gives (.b r) [(617,.var (QR a))]):=by
 refine Qc.walk 5 func231 rfl rfl rfl fun C hC=>?_
 obtain⟨f,e,h⟩:=Qb h
 refine Qa hC [.n 9,.o (.c false [.d] (.b f)),.n 4] rfl ⟨tt_,(QgT _ e)⟩ ?_
 cases h
 exact d1_ rfl rfl ⟨rfl,tt_⟩
def Qe9 (a:QaN)(b:QaN):Option Bool:=
 some (Qij a.Name b.Name)
theorem QpQ (c a){r}(h:Qe9 c a=some r):Qc prog 230 [.agg (QR c),.loc 617 0 0] [(617,.var (QR a))] (Gives (.b r) [(617,.var (QR a))]):=by
 refine Qc.walk 9 func230 rfl rfl rfl fun C hC=>?_
 refine tg_ hC [.n 17] rfl ?_
 cases h
 exact d1_ rfl rfl ⟨rfl,tt_⟩
def Qbg (c:(List QaN))(d:QaN)(a:Int):Option (Int⊕(Int⊕Unit)):=
 bif (decide (a<(c.length:Int)))then
 (idx c a).bind fun e=>
 (Qe9 e d).bind fun b=>
 bif b then
 some (.inr (.inl a))
 else
 some (.inl (w64 (a+1)))
 else
 some (.inr (.inr ()))
def Qbh (a:Int):Option Int:=
 some a
def Qbi : Option Int:=
 some (-1)
def QbJ (a:(List QaN))(b:QaN):Option Int:=
 (QJ (fun st=>Qbg a b st) 0).bind (Sum.elim (fun q=>Qbh q) (fun q=>Qbi))
theorem QjY (g c){r}(h:QbJ g c=some r):Qc prog 257 [.sl 2 (g.map QR),.clo (.func 230) [] [.loc 617 0 0]] [(617,.var (QR c))] (Gives (.I r) [(617,.var (QR c))]):=by
 refine Qc.walk 19 func257 rfl rfl rfl fun C hC=>?_
 refine Qa hC [.n 9,.o (.ln g.length),.n 4,.K [0,1,7,8] [617]] rfl ⟨tt_,Qf⟩ ?_
 obtain⟨k,i,h⟩:=Qb h
 refine AK.loop (body:=(fun st=>Qbg g c st)) (fun st σ=>σ=⟨[(0,.sl 2 (g.map QR)),(1,.clo (.func 230) [] [.loc 617 0 0]),(7,.I (g.length:Int)),(8,.I st)],[(617,.var (QR c))]⟩) (Sum.elim (fun q e σ=>e=.ret∧σ=⟨[(4,.I q)],[(617,.var (QR c))]⟩) (fun q e σ=>e=.exit 0∧σ=⟨[],[(617,.var (QR c))]⟩)) i rfl ?_ ?_
 ·rintro t o σ rfl h
  refine tg_ hC [.n 6] rfl ?_
  rcases Qt h with⟨f,h⟩|⟨f,h⟩
  ·obtain⟨p,l,h⟩:=Qb h
   obtain⟨m,j,h⟩:=Qb h
   refine Qa hC [.T,.n 15,.o (.row (QR p)),.v .no [] (.agg (QR p)),.cm (.clo) [(617,617)] [(617,617)] [] [.d,.d] [(617,.var (QR c))] (.b m),.n 2] rfl ⟨⟨⟨⟨tt_,f⟩,(QT l)⟩,rfl⟩,(QpQ _ _ j)⟩ ?_
   refine bg_ h (fun a h=>Qa hC [.T,.n 9,.K [4] [617]] rfl ⟨tt_,a⟩ ?_) fun a h=>Qa hC [.F,.n 7,.K [0,1,7,8] [617]] rfl ⟨tt_,a⟩ ?_
   ·cases h
    exact Qav rfl (an_ rfl rfl)
   cases h
   exact Q6 rfl rfl
  refine Qa hC [.F,.n 2,.K [] [617]] rfl ⟨tt_,f⟩ ?_
  cases h
  exact Q8 rfl (an_ rfl rfl)
 rcases k with(s | _)
 ·replace h:Qbh s=some r:=h
  rintro e σ ⟨rfl,rfl⟩
  refine tg_ hC [.n 2] rfl ?_
  cases h
  exact d1_ rfl rfl ⟨rfl,tt_⟩
 replace h:Qbi=some r:=h
 rintro e σ ⟨rfl,rfl⟩
 refine tg_ hC [.n 8] rfl ?_
 cases h
 exact d1_ rfl rfl ⟨rfl,tt_⟩
def Qbj (a:(List QaN))(b:QaN):Option Bool:=
 (QbJ a b).bind fun c=>
 some (decide (0≤c))
theorem QiB (e a){r}(h:Qbj e a=some r):Qc prog 233 [.sl 2 (e.map QR),.clo (.func 230) [] [.loc 617 0 0]] [(617,.var (QR a))] (Gives (.b r) [(617,.var (QR a))]):=by
 refine Qc.walk 9 func233 rfl rfl rfl fun C hC=>?_
 obtain⟨f,c,h⟩:=Qb h
 refine Qa hC [.n 9,.cm (.fn) [(617,617)] [(617,617)] [] [.d,.d] [(617,.var (QR a))] (.I f),.n 5] rfl ⟨tt_,(QjY _ _ c)⟩ ?_
 cases h
 exact d1_ rfl rfl ⟨rfl,tt_⟩
def Qfa (b:(List QaN))(a:Int)(c:QaN):Option Bool:=
 (chk (decide (0≤a)&&decide (0≤a.toNat)&&decide (a.toNat≤b.length))).bind fun _=>
 (Qbj ((b.drop 0).take (a.toNat-0)) c).bind fun d=>
 some (!d)
theorem QpR (e f g){r}(h:Qfa e f g=some r):Qc prog 232 [.loc 617 0 0,.loc 618 0 0,.loc 619 0 0] [(617,.var (Qch e)),(618,.var (Qe f)),(619,.var [.clo (.func 230) [] [.loc 620 0 0]]),(620,.var (QR g))] (Gives (.b r) [(617,.var (Qch e)),(618,.var (Qe f)),(619,.var [.clo (.func 230) [] [.loc 620 0 0]]),(620,.var (QR g))]):=by
 refine Qc.walk 10 func232 rfl rfl rfl fun C hC=>?_
 obtain⟨c,h⟩:=QaW h
 obtain⟨k,j,h⟩:=Qb h
 refine tg_ hC [.n 6,.K [0,1,2,3] [617,618,619,620]] rfl ?_
 refine AK.draw2 Qs hC mixed [.N,.N,.a (.any (.sl 2 (((e.drop 0).take (f.toNat-0)).map QR)) none) none false,.N,.a (.any (.b k) none) none false,.N,.m .s] [] [] [3] [617,618,619,620] rfl rfl rfl ⟨⟨tt_,(fun σ i l _=>Stp.sliceD rfl rfl (QN hC.n rfl) (i _ _ rfl) (Qs.es rfl) Bnd.no (Bnd.val (i _ _ rfl) (Q9 (QtG c)) rfl) (Q9 (QtH c)) (Qbm (Q9 (QtI c)) (Nat.le_of_eq Qf.symm)) Qwp)⟩,(fun σ i l _=>Stp.callSame (md:=.cm (.fn) [(617,620)] [(620,617)] [] [.d,.d] [(617,.var (QR g))] (.b k) [620]) Qs hC i l rfl ⟨⟨tt_,(QiB _ _ j)⟩,⟨rfl,tt_⟩⟩)⟩ rfl (by kernel_rfl) rfl rfl rfl ?_
 refine tg_ hC [.n 2] rfl ?_
 cases h
 exact d1_ rfl rfl ⟨rfl,rfl,rfl,rfl,tt_⟩
def Qfb (a:Qj)(b:QaN):Option Bool:=
 (QcH a.Colours b.Colour).bind fun c=>
 some c
theorem QpS (a e){r}(h:Qfb a e=some r):Qc prog 234 [.loc 617 0 0,.loc 618 0 0] [(617,.var (Qd a)),(618,.var (QR e))] (Gives (.b r) [(617,.var (Qd a)),(618,.var (QR e))]):=by
 refine Qc.walk 8 func234 rfl rfl rfl fun C hC=>?_
 obtain⟨g,f,h⟩:=Qb h
 refine Qa hC [.n 11,.o (.c false [.d,.d] (.b g)),.n 4] rfl ⟨tt_,(Qie _ _ f)⟩ ?_
 cases h
 exact d1_ rfl rfl ⟨rfl,rfl,tt_⟩
def QiC (a:QaN)(e:Int)(f:(List QaN))(g:Int)(h:Int)(i:Qj)(j:Int):Option Int:=
 (Qe8 a).bind fun b=>
 bif (!b)then
 some e
 else
 (Qfa f g a).bind fun c=>
 bif (!c)then
 some h
 else
 (Qfb i a).bind fun d=>
 bif (!d)then
 some j
 else
 some 0
theorem Qtj (g m p q s t u){r}(h:QiC g m p q s t u=some r):Qc prog 122 [.own 617 3] [(617,.var [.clo (.func 231) [] [.loc 618 0 0],.I m,.clo (.func 232) [] [.loc 619 0 0,.loc 620 0 0,.loc 621 0 0],.I s,.clo (.func 234) [] [.loc 622 0 0,.loc 618 0 0],.I u]),(618,.var (QR g)),(619,.var (Qch p)),(620,.var (Qe q)),(621,.var [.clo (.func 230) [] [.loc 618 0 0]]),(622,.var (Qd t))] (Gives (.I r) [(617,.var [.clo (.func 231) [] [.loc 618 0 0],.I m,.clo (.func 232) [] [.loc 619 0 0,.loc 620 0 0,.loc 621 0 0],.I s,.clo (.func 234) [] [.loc 622 0 0,.loc 618 0 0],.I u]),(618,.var (QR g)),(619,.var (Qch p)),(620,.var (Qe q)),(621,.var [.clo (.func 230) [] [.loc 618 0 0]]),(622,.var (Qd t))]):=by
 refine Qc.walk 18 func122 rfl rfl rfl fun C hC=>?_
 refine tg_ hC [.n 14] rfl ?_
 refine AK.loopN 4 (AK.rnd ?_)
 obtain⟨w,i,h⟩:=Qb h
 refine Qa hC [.n 2,.v .no [] (.b true),.n 10,.o (.any (.loc 617 0 0) none),.n 3,.O 4 (.var [.clo (.func 231) [] [.loc 618 0 0],.I m]),.n 6,.cm (.clo) [(617,618)] [(618,617)] [] [.d] [(617,.var (QR g))] (.b w),.n 3] rfl ⟨⟨⟨⟨tt_,rfl⟩,(fun σ f j _=>Stp.idxV rfl rfl (QN hC.n rfl) (f _ _ rfl) (f _ _ rfl) (Qs.es rfl) (j _ _ rfl) (by decide))⟩,rfl⟩,(QpP _ i)⟩ ?_
 refine bg_ h (fun a h=>Qa hC [.T,.n 13,.K [2] [617,618,619,620,621,622]] rfl ⟨tt_,a⟩ ?_) fun a h=>Qa hC [.F,.n 4,.v .no [] (.I 1),.n 2] rfl ⟨⟨tt_,a⟩,rfl⟩ ?_
 ·cases h
  exact d1_ rfl rfl ⟨rfl,rfl,rfl,rfl,rfl,rfl,tt_⟩
 refine AK.met (AK.rnd ?_)
 obtain⟨x,k,h⟩:=Qb h
 refine Qa hC [.n 2,.v .no [] (.b true),.n 10,.o (.any (.loc 617 0 2) none),.n 1,.kill 4,.n 2,.O 4 (.var [.clo (.func 232) [] [.loc 619 0 0,.loc 620 0 0,.loc 621 0 0],.I s]),.n 6,.cm (.clo) [(617,619),(618,620),(619,621),(620,618)] [(619,617),(620,618),(621,619),(618,620)] [] [.d,.d,.d] [(617,.var (Qch p)),(618,.var (Qe q)),(619,.var [.clo (.func 230) [] [.loc 620 0 0]]),(620,.var (QR g))] (.b x),.n 3] rfl ⟨⟨⟨⟨tt_,rfl⟩,(fun σ f j _=>Stp.idxV rfl rfl (QN hC.n rfl) (f _ _ rfl) (f _ _ rfl) (Qs.es rfl) (j _ _ rfl) (by decide))⟩,rfl⟩,(QpR _ _ _ k)⟩ ?_
 refine bg_ h (fun c h=>Qa hC [.T,.n 13,.K [2] [617,618,619,620,621,622]] rfl ⟨tt_,c⟩ ?_) fun c h=>Qa hC [.F,.n 4,.v .no [] (.I 2),.n 2] rfl ⟨⟨tt_,c⟩,rfl⟩ ?_
 ·cases h
  exact d1_ rfl rfl ⟨rfl,rfl,rfl,rfl,rfl,rfl,tt_⟩
 refine AK.met (AK.rnd ?_)
 obtain⟨y,l,h⟩:=Qb h
 refine Qa hC [.n 2,.v .no [] (.b true),.n 10,.o (.any (.loc 617 0 4) none),.n 1,.kill 4,.n 2,.O 4 (.var [.clo (.func 234) [] [.loc 622 0 0,.loc 618 0 0],.I u]),.n 6,.cm (.clo) [(617,622),(618,618)] [(622,617),(618,618)] [] [.d,.d] [(617,.var (Qd t)),(618,.var (QR g))] (.b y),.n 3] rfl ⟨⟨⟨⟨tt_,rfl⟩,(fun σ f j _=>Stp.idxV rfl rfl (QN hC.n rfl) (f _ _ rfl) (f _ _ rfl) (Qs.es rfl) (j _ _ rfl) (by decide))⟩,rfl⟩,(QpS _ _ l)⟩ ?_
 refine bg_ h (fun e h=>Qa hC [.T,.n 13,.K [2] [617,618,619,620,621,622]] rfl ⟨tt_,e⟩ ?_) fun e h=>Qa hC [.F,.n 4,.v .no [] (.I 3),.n 2] rfl ⟨⟨tt_,e⟩,rfl⟩ ?_
 ·cases h
  exact d1_ rfl rfl ⟨rfl,rfl,rfl,rfl,rfl,rfl,tt_⟩
 refine AK.met (AK.rnd ?_)
 refine Qa hC [.n 2,.v .no [] (.b false),.n 15] rfl ⟨tt_,rfl⟩ ?_
 cases h
 exact d1_ rfl rfl ⟨rfl,rfl,rfl,rfl,rfl,rfl,tt_⟩
def Qgi (a:Int)(b:QaN)(c:(List QaN))(d:Qj):Option Int:=
 (QiC b 1 c a 5 d 3).bind fun e=>
 some e
theorem Qrf (c e a b){r}(h:Qgi c e a b=some r):Qc prog 229 [.I c,.agg (QR e),.loc 617 0 0,.loc 618 0 0] [(617,.var (Qch a)),(618,.var (Qd b))] (Gives (.I r) [(617,.var (Qch a)),(618,.var (Qd b))]):=by
 refine Qc.walk 17 func229 rfl rfl rfl fun C hC=>?_
 obtain⟨g,f,h⟩:=Qb h
 refine Qa hC [.n 12,.O 7 (.var [.clo (.func 230) [] [.loc 5 0 0]]),.n 5,.v .no [] (.agg [.clo (.func 231) [] [.loc 5 0 0],.I 1]),.n 1,.v .no [] (.agg [.clo (.func 232) [] [.loc 617 0 0,.loc 4 0 0,.loc 7 0 0],.I 5]),.n 1,.v .no [] (.agg [.clo (.func 234) [] [.loc 618 0 0,.loc 5 0 0],.I 3]),.o (.any (.own 15 3) (some (.var [.clo (.func 231) [] [.loc 5 0 0],.I 1,.clo (.func 232) [] [.loc 617 0 0,.loc 4 0 0,.loc 7 0 0],.I 5,.clo (.func 234) [] [.loc 618 0 0,.loc 5 0 0],.I 3]))),.cm (.fn) [(617,15),(618,5),(619,617),(620,4),(621,7),(622,618)] [(15,617),(5,618),(617,619),(4,620),(7,621),(618,622)] [] [.d] [(617,.var [.clo (.func 231) [] [.loc 618 0 0],.I 1,.clo (.func 232) [] [.loc 619 0 0,.loc 620 0 0,.loc 621 0 0],.I 5,.clo (.func 234) [] [.loc 622 0 0,.loc 618 0 0],.I 3]),(618,.var (QR e)),(619,.var (Qch a)),(620,.var (Qe c)),(621,.var [.clo (.func 230) [] [.loc 618 0 0]]),(622,.var (Qd b))] (.I g),.n 4] rfl ⟨⟨⟨⟨⟨⟨tt_,rfl⟩,rfl⟩,rfl⟩,rfl⟩,(fun σ i j hf=>Stp.buildAny rfl rfl (QN hC.n rfl) (Qs.es rfl) QnV rfl (by decide) (by decide) (QfZ i rfl) rfl rfl (hf rfl))⟩,(Qtj _ _ _ _ _ _ _ f)⟩ ?_
 cases h
 exact d1_ rfl rfl ⟨rfl,rfl,tt_⟩
def Qec (d:(List QaN))(e:(List QaN))(f:Qj)(a:Int):Option (Int⊕((Int×Int)⊕Unit)):=
 bif (decide (a<(d.length:Int)))then
 (idx d a).bind fun c=>
 (Qgi a c e f).bind fun b=>
 bif (b != 0)then
 some (.inr (.inl (a,b)))
 else
 some (.inl (w64 (a+1)))
 else
 some (.inr (.inr ()))
def Qed (a:Int)(b:Int):Option (Int×Int):=
 some (a,b)
def Qee : Option (Int×Int):=
 some (0,0)
def QfE (a:(List QaN))(b:(List QaN))(c:Qj):Option (Int×Int):=
 (QJ (fun st=>Qec a b c st) 0).bind (Sum.elim (fun q=>Qed q.1 q.2) (fun q=>Qee))
theorem Qp6 (i f g){r}(h:QfE i f g=some r):Qc prog 228 [.sl 2 (i.map QR),.clo (.func 229) [] [.loc 617 0 0,.loc 618 0 0]] [(617,.var (Qch f)),(618,.var (Qd g))] (Gives (.tup [.I r.1,.I r.2]) [(617,.var (Qch f)),(618,.var (Qd g))]):=by
 refine Qc.walk 25 func228 rfl rfl rfl fun C hC=>?_
 refine Qa hC [.n 10,.o (.ln i.length),.n 4,.K [1,9,10,11] [617,618]] rfl ⟨tt_,Qf⟩ ?_
 obtain⟨m,j,h⟩:=Qb h
 refine AK.loop (body:=(fun st=>Qec i f g st)) (fun st σ=>σ=⟨[(1,.clo (.func 229) [] [.loc 617 0 0,.loc 618 0 0]),(9,.sl 2 (i.map QR)),(10,.I (i.length:Int)),(11,.I st)],[(617,.var (Qch f)),(618,.var (Qd g))]⟩) (Sum.elim (fun q e σ=>e=.ret∧σ=⟨[(4,.I q.1),(5,.I q.2)],[(617,.var (Qch f)),(618,.var (Qd g))]⟩) (fun q e σ=>e=.exit 0∧σ=⟨[],[(617,.var (Qch f)),(618,.var (Qd g))]⟩)) j rfl ?_ ?_
 ·rintro u o σ rfl h
  refine tg_ hC [.n 6] rfl ?_
  rcases Qt h with⟨a,h⟩|⟨a,h⟩
  ·obtain⟨c,k,h⟩:=Qb h
   obtain⟨p,l,h⟩:=Qb h
   refine Qa hC [.T,.n 7,.o (.row (QR c)),.v .no [] (.agg (QR c)),.n 3,.O 7 (.var (QR c)),.n 6,.v .no [] (.agg (QR c)),.cm (.clo) [(617,617),(618,618)] [(617,617),(618,618)] [] [.d,.d,.d,.d] [(617,.var (Qch f)),(618,.var (Qd g))] (.I p),.n 9] rfl ⟨⟨⟨⟨⟨⟨tt_,a⟩,(QT k)⟩,rfl⟩,rfl⟩,rfl⟩,(Qrf _ _ _ _ l)⟩ ?_
   refine bg_ h (fun b h=>Qa hC [.T,.n 11,.K [4,5] [617,618]] rfl ⟨tt_,b⟩ ?_) fun b h=>Qa hC [.F,.n 7,.K [1,9,10,11] [617,618]] rfl ⟨tt_,b⟩ ?_
   ·cases h
    exact Qav rfl (an_ rfl rfl)
   cases h
   exact Q6 rfl rfl
  refine Qa hC [.F,.n 2,.K [] [617,618]] rfl ⟨tt_,a⟩ ?_
  cases h
  exact Q8 rfl (an_ rfl rfl)
 rcases m with(⟨s,t⟩|_)
 ·replace h:Qed s t=some r:=h
  rintro e σ ⟨rfl,rfl⟩
  refine tg_ hC [.n 2] rfl ?_
  cases h
  exact d2_ rfl rfl rfl ⟨rfl,rfl,tt_⟩
 replace h:Qee=some r:=h
 rintro e σ ⟨rfl,rfl⟩
 refine tg_ hC [.n 9] rfl ?_
 cases h
 exact d2_ rfl rfl rfl ⟨rfl,rfl,tt_⟩
def Qhy (b:Qj)(a:(List QaN)):Option Int:=
 (QfE a a b).bind fun c=>
 some c.2
theorem QsH (a b){r}(h:Qhy a b=some r):Qc prog 189 [.agg (Qd a),.sl 2 (b.map QR)] [] (Gives (.I r) []):=by
 refine Qc.walk 14 func189 rfl rfl rfl fun C hC=>?_
 obtain⟨e,c,h⟩:=Qb h
 refine Qa hC [.n 11,.cm (.fn) [(617,3),(618,2)] [(3,617),(2,618)] [] [.d,.d] [(617,.var (Qch b)),(618,.var (Qd a))] (.tup [.I e.1,.I e.2]),.n 14] rfl ⟨tt_,(Qp6 _ _ _ c)⟩ ?_
 cases h
 exact d1_ rfl rfl tt_
def QkZ (a:Qj)(b:QC):Option Int:=
 (Qhy a b.Vars).bind fun c=>
 some c
theorem Qu2 (a b){r}(h:QkZ a b=some r):Qc prog 188 [.loc 617 0 0,.loc 618 0 0] [(617,.var (Qd a)),(618,.var (Qh b))] (Gives (.I r) [(617,.var (Qd a)),(618,.var (Qh b))]):=by
 refine Qc.walk 7 func188 rfl rfl rfl fun C hC=>?_
 obtain⟨f,e,h⟩:=Qb h
 refine Qa hC [.n 7,.v .no [] (.agg (Qd a)),.n 2,.o (.c false [.d,.d] (.I f)),.n 4] rfl ⟨⟨tt_,rfl⟩,(QsH _ _ e)⟩ ?_
 cases h
 exact d1_ rfl rfl ⟨rfl,rfl,tt_⟩
def QgV (b:Qj)(c:QC)(d:Int):Option (Bool×Int):=
 (QkZ b c).bind fun a=>
 some ((a==0),a)
theorem Qt7 (c e i){r}(h:QgV c e i=some r):Qc prog 227 [.loc 617 0 0,.loc 620 0 0] [(617,.var [.clo (.func 188) [] [.loc 618 0 0,.loc 619 0 0]]),(618,.var (Qd c)),(619,.var (Qh e)),(620,.var [.loc 621 0 0]),(621,.var (Qe i))] (Gives (.b r.1) [(617,.var [.clo (.func 188) [] [.loc 618 0 0,.loc 619 0 0]]),(618,.var (Qd c)),(619,.var (Qh e)),(620,.var [.loc 621 0 0]),(621,.var (Qe r.2))]):=by
 refine Qc.walk 11 func227 rfl rfl rfl fun C hC=>?_
 obtain⟨f,g,h⟩:=Qb h
 refine tg_ hC [.n 6,.K [0,1] [617,618,619,620,621]] rfl ?_
 refine AK.draw2 Qs hC mixed [.N,.N,.a (.any (.I f) none) none false,.N,.m .s] [] [] [1] [617,618,619,620,621] rfl rfl rfl ⟨tt_,(fun σ j k _=>Stp.callSame (md:=.cm (.clo) [(617,618),(618,619)] [(618,617),(619,618)] [] [.d,.d] [(617,.var (Qd c)),(618,.var (Qh e))] (.I f) [618,619]) Qs hC j k rfl ⟨⟨tt_,(Qu2 _ _ g)⟩,⟨rfl,rfl,tt_⟩⟩)⟩ rfl (by kernel_rfl) rfl rfl rfl ?_
 refine Qa hC [.O 621 (.var (Qe f)),.n 11] rfl ⟨tt_,rfl⟩ ?_
 cases h
 exact d1_ rfl rfl ⟨rfl,rfl,rfl,rfl,rfl,tt_⟩
def Qex (e:QC)(f:Qj)(a:Int)(c:Int):Option ((Int×Int)⊕(Unit⊕Int)):=
 bif (decide (c<(e.Vars.length:Int)))then
 (idx e.Vars c).bind fun d=>
 (Qa3 f.Colours d.Colour).bind fun b=>
 bif (b==0)then
 some (.inr (.inl ()))
 else
 some (.inl ((min2 (w64 (a*b)) 1025),(w64 (c+1))))
 else
 some (.inr (.inr a))
def QiD : Option Int:=
 some 0
def QiE (a:Int):Option Int:=
 some a
def Qde (a:Qj)(b:Int):Option Int:=
 (Qbt a.Tasks b).bind fun c=>
 bif (!c)then
 some 0
 else
 (idx a.Tasks b).bind fun d=>
 (QJ (fun st=>Qex d a st.1 st.2) (1,0)).bind (Sum.elim (fun q=>QiD) (fun q=>QiE q))
theorem QpT (s y){r}(h:Qde s y=some r):Qc prog 79 [.agg (Qd s),.I y] [] (Gives (.I r) []):=by
 refine Qc.walk 38 func79 rfl rfl rfl fun C hC=>?_
 obtain⟨A,t,h⟩:=Qb h
 refine Qa hC [.n 12,.o (.c false [.d,.d] (.b A)),.n 3] rfl ⟨tt_,(QjO _ _ t)⟩ ?_
 rcases Qt h with⟨g,h⟩|⟨g,h⟩
 ·refine Qa hC [.T,.n 7] rfl ⟨tt_,g⟩ ?_
  cases h
  exact d1_ rfl rfl tt_
 obtain⟨k,u,h⟩:=Qb h
 refine Qa hC [.F,.n 13,.o (.row (Qh k)),.n 2,.o (.ln k.Vars.length),.n 4,.K [2,5,19,20,21] [2]] rfl ⟨⟨⟨tt_,g⟩,(QT u)⟩,Qf⟩ ?_
 obtain⟨w,l,h⟩:=Qb h
 refine AK.loop (body:=(fun st=>Qex k s st.1 st.2)) (fun st σ=>σ=⟨[(2,.loc 2 0 0),(5,.I st.1),(19,.sl 2 (k.Vars.map QR)),(20,.I (k.Vars.length:Int)),(21,.I st.2)],[(2,.var (Qd s))]⟩) (Sum.elim (fun q e σ=>e=.ret∧σ=⟨[(4,.I 0)],[]⟩) (fun q e σ=>e=.exit 0∧σ=⟨[(5,.I q)],[]⟩)) l rfl ?_ ?_
 ·rintro ⟨z,B⟩ o σ rfl h
  refine tg_ hC [.n 6] rfl ?_
  rcases Qt h with⟨a,h⟩|⟨a,h⟩
  ·obtain⟨i,m,h⟩:=Qb h
   obtain⟨x,p,h⟩:=Qb h
   refine Qa hC [.T,.n 6,.o (.row (QR i)),.v .no [] (.agg (QR i)),.n 2,.O 7 (.var (QR i)),.n 8,.o (.c false [.d,.d] (.I x)),.n 10] rfl ⟨⟨⟨⟨⟨tt_,a⟩,(QT m)⟩,rfl⟩,rfl⟩,(Qit _ _ p)⟩ ?_
   refine bg_ h (fun f h=>Qa hC [.T,.n 9,.K [4] []] rfl ⟨tt_,f⟩ ?_) fun f h=>Qa hC [.F,.n 15,.K [2,5,19,20,21] [2]] rfl ⟨tt_,f⟩ ?_
   ·cases h
    exact Qav rfl (an_ rfl rfl)
   cases h
   exact Q6 rfl rfl
  refine Qa hC [.F,.n 2,.K [5] []] rfl ⟨tt_,a⟩ ?_
  cases h
  exact Q8 rfl (an_ rfl rfl)
 rcases w with(_ | j)
 ·replace h:QiD=some r:=h
  rintro e σ ⟨rfl,rfl⟩
  refine tg_ hC [.n 2] rfl ?_
  cases h
  exact d1_ rfl rfl tt_
 replace h:QiE j=some r:=h
 rintro e σ ⟨rfl,rfl⟩
 refine tg_ hC [.n 9] rfl ?_
 cases h
 exact d1_ rfl rfl tt_
def Qh1 (a:Qj)(b:Int):Option Bool:=
 (Qde a b).bind fun c=>
 some (decide (c≤1024))
theorem Qu3 (a e){r}(h:Qh1 a e=some r):Qc prog 190 [.loc 617 0 0,.loc 618 0 0] [(617,.var (Qd a)),(618,.var (Qe e))] (Gives (.b r) [(617,.var (Qd a)),(618,.var (Qe e))]):=by
 refine Qc.walk 7 func190 rfl rfl rfl fun C hC=>?_
 obtain⟨g,f,h⟩:=Qb h
 refine Qa hC [.n 7,.v .no [] (.agg (Qd a)),.n 1,.o (.c false [.d,.d] (.I g)),.n 5] rfl ⟨⟨tt_,rfl⟩,(QpT _ _ f)⟩ ?_
 cases h
 exact d1_ rfl rfl ⟨rfl,rfl,tt_⟩
def QoB (a:QC)(b:Int):Option Bool:=
 (QhP a.Guard b).bind fun c=>
 bif c then
 bif (decide (0<(a.Ins.length:Int)))then
 some (decide (0<(a.Outs.length:Int)))
 else
 some false
 else
 some false
def Qhz (a:Bool):Option Bool:=
 some a
def Qk0 (a:QC)(b:Int):Option Bool:=
 (QoB a b).bind (fun c=>Qhz c)
theorem Qu4 (a g){r}(h:Qk0 a g=some r):Qc prog 191 [.loc 617 0 0,.loc 618 0 0] [(617,.var (Qh a)),(618,.var (Qe g))] (Gives (.b r) [(617,.var (Qh a)),(618,.var (Qe g))]):=by
 refine Qc.walk 19 func191 rfl rfl rfl fun C hC=>?_
 refine tg_ hC [.n 6] rfl ?_
 obtain⟨i,j,h⟩:=Qb h
 replace h:Qhz i=some r:=h
 refine AK.meetX (fun σ=>σ=⟨[(2,.b i)],[(617,.var (Qh a)),(618,.var (Qe g))]⟩) ?_ ?_
 ·replace h:=j
  obtain⟨l,k,h⟩:=Qb h
  refine Qa hC [.n 2,.v .no [] (.agg (Qq a.Guard)),.n 1,.o (.c false [.d,.d] (.b l)),.n 1] rfl ⟨⟨tt_,rfl⟩,(QmB _ _ k)⟩ ?_
  refine bg_ h (fun e h=>Qa hC [.S 7 (.b true),.n 2,.o (.ln a.Ins.length),.n 3] rfl ⟨(tc_ e),Qf⟩ ?_) fun e h=>Qa hC [.S 7 (.b false),.n 13,.K [2] [617,618]] rfl (tc_ e) ?_
  ·refine bg_ h (fun f h=>Qa hC [.S 13 (.b true),.n 2,.o (.ln a.Outs.length),.n 4,.K [2] [617,618]] rfl ⟨(tc_ f),Qf⟩ ?_) fun f h=>Qa hC [.S 13 (.b false),.n 7,.K [2] [617,618]] rfl (tc_ f) ?_
   ·cases h
    exact AK.met rfl
   cases h
   exact AK.met rfl
  cases h
  exact AK.met rfl
 rintro σ rfl
 replace h:Qhz i=some r:=h
 refine tg_ hC [.n 2] rfl ?_
 cases h
 exact d1_ rfl rfl ⟨rfl,rfl,tt_⟩
def QiF (a:Qj)(b:Qaw):Option Bool:=
 (QaO a.Places b.Place).bind fun c=>
 some c
theorem Qtk (a e){r}(h:QiF a e=some r):Qc prog 240 [.loc 617 0 0,.loc 618 0 0] [(617,.var (Qd a)),(618,.var (Q5 e))] (Gives (.b r) [(617,.var (Qd a)),(618,.var (Q5 e))]):=by
 refine Qc.walk 8 func240 rfl rfl rfl fun C hC=>?_
 obtain⟨g,f,h⟩:=Qb h
 refine Qa hC [.n 11,.o (.c false [.d,.d] (.b g)),.n 4] rfl ⟨tt_,(Qb9 _ _ f)⟩ ?_
 cases h
 exact d1_ rfl rfl ⟨rfl,rfl,tt_⟩
def QiG (a:Qaw)(b:Int):Option Bool:=
 (QhP a.Expr b).bind fun c=>
 some c
theorem Qtl (a e){r}(h:QiG a e=some r):Qc prog 241 [.loc 617 0 0,.loc 618 0 0] [(617,.var (Q5 a)),(618,.var (Qe e))] (Gives (.b r) [(617,.var (Q5 a)),(618,.var (Qe e))]):=by
 refine Qc.walk 7 func241 rfl rfl rfl fun C hC=>?_
 obtain⟨g,f,h⟩:=Qb h
 refine Qa hC [.n 8,.v .no [] (.agg (Qq a.Expr)),.n 1,.o (.c false [.d,.d] (.b g)),.n 4] rfl ⟨⟨tt_,rfl⟩,(QmB _ _ f)⟩ ?_
 cases h
 exact d1_ rfl rfl ⟨rfl,rfl,tt_⟩
def QiH (c:Qj)(b:Qaw)(d:Int)(e:Int)(f:Int):Option Int:=
 (QiF c b).bind fun g=>
 bif (!g)then
 some d
 else
 (QiG b e).bind fun a=>
 bif (!a)then
 some f
 else
 some 0
theorem Qtm (i e j k l){r}(h:QiH i e j k l=some r):Qc prog 122 [.own 617 2] [(617,.var [.clo (.func 240) [] [.loc 618 0 0,.loc 619 0 0],.I j,.clo (.func 241) [] [.loc 619 0 0,.loc 620 0 0],.I l]),(618,.var (Qd i)),(619,.var (Q5 e)),(620,.var (Qe k))] (Gives (.I r) [(617,.var [.clo (.func 240) [] [.loc 618 0 0,.loc 619 0 0],.I j,.clo (.func 241) [] [.loc 619 0 0,.loc 620 0 0],.I l]),(618,.var (Qd i)),(619,.var (Q5 e)),(620,.var (Qe k))]):=by
 refine Qc.walk 18 func122 rfl rfl rfl fun C hC=>?_
 refine tg_ hC [.n 14] rfl ?_
 refine AK.loopN 3 (AK.rnd ?_)
 obtain⟨s,m,h⟩:=Qb h
 refine Qa hC [.n 2,.v .no [] (.b true),.n 10,.o (.any (.loc 617 0 0) none),.n 3,.O 4 (.var [.clo (.func 240) [] [.loc 618 0 0,.loc 619 0 0],.I j]),.n 6,.cm (.clo) [(617,618),(618,619)] [(618,617),(619,618)] [] [.d,.d] [(617,.var (Qd i)),(618,.var (Q5 e))] (.b s),.n 3] rfl ⟨⟨⟨⟨tt_,rfl⟩,(fun σ f p _=>Stp.idxV rfl rfl (QN hC.n rfl) (f _ _ rfl) (f _ _ rfl) (Qs.es rfl) (p _ _ rfl) (by decide))⟩,rfl⟩,(Qtk _ _ m)⟩ ?_
 refine bg_ h (fun c h=>Qa hC [.T,.n 13,.K [2] [617,618,619,620]] rfl ⟨tt_,c⟩ ?_) fun c h=>Qa hC [.F,.n 4,.v .no [] (.I 1),.n 2] rfl ⟨⟨tt_,c⟩,rfl⟩ ?_
 ·cases h
  exact d1_ rfl rfl ⟨rfl,rfl,rfl,rfl,tt_⟩
 refine AK.met (AK.rnd ?_)
 obtain⟨q,g,h⟩:=Qb h
 refine Qa hC [.n 2,.v .no [] (.b true),.n 10,.o (.any (.loc 617 0 2) none),.n 1,.kill 4,.n 2,.O 4 (.var [.clo (.func 241) [] [.loc 619 0 0,.loc 620 0 0],.I l]),.n 6,.cm (.clo) [(617,619),(618,620)] [(619,617),(620,618)] [] [.d,.d] [(617,.var (Q5 e)),(618,.var (Qe k))] (.b q),.n 3] rfl ⟨⟨⟨⟨tt_,rfl⟩,(fun σ f p _=>Stp.idxV rfl rfl (QN hC.n rfl) (f _ _ rfl) (f _ _ rfl) (Qs.es rfl) (p _ _ rfl) (by decide))⟩,rfl⟩,(Qtl _ _ g)⟩ ?_
 refine bg_ h (fun a h=>Qa hC [.T,.n 13,.K [2] [617,618,619,620]] rfl ⟨tt_,a⟩ ?_) fun a h=>Qa hC [.F,.n 4,.v .no [] (.I 2),.n 2] rfl ⟨⟨tt_,a⟩,rfl⟩ ?_
 ·cases h
  exact d1_ rfl rfl ⟨rfl,rfl,rfl,rfl,tt_⟩
 refine AK.met (AK.rnd ?_)
 refine Qa hC [.n 2,.v .no [] (.b false),.n 15] rfl ⟨tt_,rfl⟩ ?_
 cases h
 exact d1_ rfl rfl ⟨rfl,rfl,rfl,rfl,tt_⟩
def Qk1 (e:Int)(a:Qaw)(b:Qj)(c:Int):Option Int:=
 (QiH b a 3 c 1).bind fun d=>
 some d
theorem Qu5 (f c a b){r}(h:Qk1 f c a b=some r):Qc prog 239 [.I f,.agg (Q5 c),.loc 617 0 0,.loc 618 0 0] [(617,.var (Qd a)),(618,.var (Qe b))] (Gives (.I r) [(617,.var (Qd a)),(618,.var (Qe b))]):=by
 refine Qc.walk 13 func239 rfl rfl rfl fun C hC=>?_
 obtain⟨g,e,h⟩:=Qb h
 refine Qa hC [.n 9,.v .no [] (.agg [.clo (.func 240) [] [.loc 617 0 0,.loc 5 0 0],.I 3]),.n 1,.v .no [] (.agg [.clo (.func 241) [] [.loc 5 0 0,.loc 618 0 0],.I 1]),.o (.any (.own 11 2) (some (.var [.clo (.func 240) [] [.loc 617 0 0,.loc 5 0 0],.I 3,.clo (.func 241) [] [.loc 5 0 0,.loc 618 0 0],.I 1]))),.cm (.fn) [(617,11),(618,617),(619,5),(620,618)] [(11,617),(617,618),(5,619),(618,620)] [] [.d] [(617,.var [.clo (.func 240) [] [.loc 618 0 0,.loc 619 0 0],.I 3,.clo (.func 241) [] [.loc 619 0 0,.loc 620 0 0],.I 1]),(618,.var (Qd a)),(619,.var (Q5 c)),(620,.var (Qe b))] (.I g),.n 4] rfl ⟨⟨⟨⟨tt_,rfl⟩,rfl⟩,(fun σ i j hf=>Stp.buildAny rfl rfl (QN hC.n rfl) (Qs.es rfl) QnV rfl (by decide) (by decide) (QfZ i rfl) rfl rfl (hf rfl))⟩,(Qtm _ _ _ _ _ e)⟩ ?_
 cases h
 exact d1_ rfl rfl ⟨rfl,rfl,tt_⟩
def Qef (d:(List Qaw))(e:Qj)(f:Int)(a:Int):Option (Int⊕((Int×Int)⊕Unit)):=
 bif (decide (a<(d.length:Int)))then
 (idx d a).bind fun c=>
 (Qk1 a c e f).bind fun b=>
 bif (b != 0)then
 some (.inr (.inl (a,b)))
 else
 some (.inl (w64 (a+1)))
 else
 some (.inr (.inr ()))
def Qeg (a:Int)(b:Int):Option (Int×Int):=
 some (a,b)
def Qeh : Option (Int×Int):=
 some (0,0)
def QfF (a:(List Qaw))(b:Qj)(c:Int):Option (Int×Int):=
 (QJ (fun st=>Qef a b c st) 0).bind (Sum.elim (fun q=>Qeg q.1 q.2) (fun q=>Qeh))
theorem Qp7 (i f g){r}(h:QfF i f g=some r):Qc prog 238 [.sl 4 (i.map Q5),.clo (.func 239) [] [.loc 617 0 0,.loc 618 0 0]] [(617,.var (Qd f)),(618,.var (Qe g))] (Gives (.tup [.I r.1,.I r.2]) [(617,.var (Qd f)),(618,.var (Qe g))]):=by
 refine Qc.walk 25 func238 rfl rfl rfl fun C hC=>?_
 refine Qa hC [.n 10,.o (.ln i.length),.n 4,.K [1,9,10,11] [617,618]] rfl ⟨tt_,Qf⟩ ?_
 obtain⟨m,j,h⟩:=Qb h
 refine AK.loop (body:=(fun st=>Qef i f g st)) (fun st σ=>σ=⟨[(1,.clo (.func 239) [] [.loc 617 0 0,.loc 618 0 0]),(9,.sl 4 (i.map Q5)),(10,.I (i.length:Int)),(11,.I st)],[(617,.var (Qd f)),(618,.var (Qe g))]⟩) (Sum.elim (fun q e σ=>e=.ret∧σ=⟨[(4,.I q.1),(5,.I q.2)],[(617,.var (Qd f)),(618,.var (Qe g))]⟩) (fun q e σ=>e=.exit 0∧σ=⟨[],[(617,.var (Qd f)),(618,.var (Qe g))]⟩)) j rfl ?_ ?_
 ·rintro u o σ rfl h
  refine tg_ hC [.n 6] rfl ?_
  rcases Qt h with⟨a,h⟩|⟨a,h⟩
  ·obtain⟨c,k,h⟩:=Qb h
   obtain⟨p,l,h⟩:=Qb h
   refine Qa hC [.T,.n 7,.o (.row (Q5 c)),.v .no [] (.agg (Q5 c)),.n 3,.O 7 (.var (Q5 c)),.n 6,.v .no [] (.agg (Q5 c)),.cm (.clo) [(617,617),(618,618)] [(617,617),(618,618)] [] [.d,.d,.d,.d] [(617,.var (Qd f)),(618,.var (Qe g))] (.I p),.n 9] rfl ⟨⟨⟨⟨⟨⟨tt_,a⟩,(QT k)⟩,rfl⟩,rfl⟩,rfl⟩,(Qu5 _ _ _ _ l)⟩ ?_
   refine bg_ h (fun b h=>Qa hC [.T,.n 11,.K [4,5] [617,618]] rfl ⟨tt_,b⟩ ?_) fun b h=>Qa hC [.F,.n 7,.K [1,9,10,11] [617,618]] rfl ⟨tt_,b⟩ ?_
   ·cases h
    exact Qav rfl (an_ rfl rfl)
   cases h
   exact Q6 rfl rfl
  refine Qa hC [.F,.n 2,.K [] [617,618]] rfl ⟨tt_,a⟩ ?_
  cases h
  exact Q8 rfl (an_ rfl rfl)
 rcases m with(⟨s,t⟩|_)
 ·replace h:Qeg s t=some r:=h
  rintro e σ ⟨rfl,rfl⟩
  refine tg_ hC [.n 2] rfl ?_
  cases h
  exact d2_ rfl rfl rfl ⟨rfl,rfl,tt_⟩
 replace h:Qeh=some r:=h
 rintro e σ ⟨rfl,rfl⟩
 refine tg_ hC [.n 9] rfl ?_
 cases h
 exact d2_ rfl rfl rfl ⟨rfl,rfl,tt_⟩
def Qkh (b:Qj)(c:(List Qaw))(a:Int):Option Int:=
 (QfF c b a).bind fun d=>
 some d.2
theorem QqQ (b e a){r}(h:Qkh b e a=some r):Qc prog 194 [.agg (Qd b),.sl 4 (e.map Q5),.I a] [] (Gives (.I r) []):=by
 refine Qc.walk 16 func194 rfl rfl rfl fun C hC=>?_
 obtain⟨f,c,h⟩:=Qb h
 refine Qa hC [.n 11,.cm (.fn) [(617,3),(618,5)] [(3,617),(5,618)] [] [.d,.d] [(617,.var (Qd b)),(618,.var (Qe a))] (.tup [.I f.1,.I f.2]),.n 14] rfl ⟨tt_,(Qp7 _ _ _ c)⟩ ?_
 cases h
 exact d1_ rfl rfl tt_
def Qk2 (a:Qj)(b:QC)(c:Int):Option Int:=
 (Qkh a b.Ins c).bind fun d=>
 some d
theorem Qu6 (a b e){r}(h:Qk2 a b e=some r):Qc prog 193 [.loc 617 0 0,.loc 618 0 0,.loc 619 0 0] [(617,.var (Qd a)),(618,.var (Qh b)),(619,.var (Qe e))] (Gives (.I r) [(617,.var (Qd a)),(618,.var (Qh b)),(619,.var (Qe e))]):=by
 refine Qc.walk 9 func193 rfl rfl rfl fun C hC=>?_
 obtain⟨g,f,h⟩:=Qb h
 refine Qa hC [.n 7,.v .no [] (.agg (Qd a)),.n 3,.o (.c false [.d,.d,.d] (.I g)),.n 4] rfl ⟨⟨tt_,rfl⟩,(QqQ _ _ _ f)⟩ ?_
 cases h
 exact d1_ rfl rfl ⟨rfl,rfl,rfl,tt_⟩
def QgW (b:Qj)(c:QC)(d:Int)(e:Int):Option (Bool×Int):=
 (Qk2 b c d).bind fun a=>
 some ((a==0),a)
theorem QrK (c e f j){r}(h:QgW c e f j=some r):Qc prog 227 [.loc 617 0 0,.loc 621 0 0] [(617,.var [.clo (.func 193) [] [.loc 618 0 0,.loc 619 0 0,.loc 620 0 0]]),(618,.var (Qd c)),(619,.var (Qh e)),(620,.var (Qe f)),(621,.var [.loc 622 0 0]),(622,.var (Qe j))] (Gives (.b r.1) [(617,.var [.clo (.func 193) [] [.loc 618 0 0,.loc 619 0 0,.loc 620 0 0]]),(618,.var (Qd c)),(619,.var (Qh e)),(620,.var (Qe f)),(621,.var [.loc 622 0 0]),(622,.var (Qe r.2))]):=by
 refine Qc.walk 11 func227 rfl rfl rfl fun C hC=>?_
 obtain⟨g,i,h⟩:=Qb h
 refine tg_ hC [.n 6,.K [0,1] [617,618,619,620,621,622]] rfl ?_
 refine AK.draw2 Qs hC mixed [.N,.N,.a (.any (.I g) none) none false,.N,.m .s] [] [] [1] [617,618,619,620,621,622] rfl rfl rfl ⟨tt_,(fun σ k l _=>Stp.callSame (md:=.cm (.clo) [(617,618),(618,619),(619,620)] [(618,617),(619,618),(620,619)] [] [.d,.d,.d] [(617,.var (Qd c)),(618,.var (Qh e)),(619,.var (Qe f))] (.I g) [618,619,620]) Qs hC k l rfl ⟨⟨tt_,(Qu6 _ _ _ i)⟩,⟨rfl,rfl,rfl,tt_⟩⟩)⟩ rfl (by kernel_rfl) rfl rfl rfl ?_
 refine Qa hC [.O 622 (.var (Qe g)),.n 11] rfl ⟨tt_,rfl⟩ ?_
 cases h
 exact d1_ rfl rfl ⟨rfl,rfl,rfl,rfl,rfl,rfl,tt_⟩
def Qk3 (a:Qj)(b:QC)(c:Int):Option Int:=
 (Qkh a b.Outs c).bind fun d=>
 some d
theorem Qu7 (a b e){r}(h:Qk3 a b e=some r):Qc prog 195 [.loc 617 0 0,.loc 618 0 0,.loc 619 0 0] [(617,.var (Qd a)),(618,.var (Qh b)),(619,.var (Qe e))] (Gives (.I r) [(617,.var (Qd a)),(618,.var (Qh b)),(619,.var (Qe e))]):=by
 refine Qc.walk 9 func195 rfl rfl rfl fun C hC=>?_
 obtain⟨g,f,h⟩:=Qb h
 refine Qa hC [.n 7,.v .no [] (.agg (Qd a)),.n 3,.o (.c false [.d,.d,.d] (.I g)),.n 4] rfl ⟨⟨tt_,rfl⟩,(QqQ _ _ _ f)⟩ ?_
 cases h
 exact d1_ rfl rfl ⟨rfl,rfl,rfl,tt_⟩
def QgX (b:Qj)(c:QC)(d:Int)(e:Int):Option (Bool×Int):=
 (Qk3 b c d).bind fun a=>
 some ((a==0),a)
theorem QrL (c e f j){r}(h:QgX c e f j=some r):Qc prog 227 [.loc 617 0 0,.loc 621 0 0] [(617,.var [.clo (.func 195) [] [.loc 618 0 0,.loc 619 0 0,.loc 620 0 0]]),(618,.var (Qd c)),(619,.var (Qh e)),(620,.var (Qe f)),(621,.var [.loc 622 0 0]),(622,.var (Qe j))] (Gives (.b r.1) [(617,.var [.clo (.func 195) [] [.loc 618 0 0,.loc 619 0 0,.loc 620 0 0]]),(618,.var (Qd c)),(619,.var (Qh e)),(620,.var (Qe f)),(621,.var [.loc 622 0 0]),(622,.var (Qe r.2))]):=by
 refine Qc.walk 11 func227 rfl rfl rfl fun C hC=>?_
 obtain⟨g,i,h⟩:=Qb h
 refine tg_ hC [.n 6,.K [0,1] [617,618,619,620,621,622]] rfl ?_
 refine AK.draw2 Qs hC mixed [.N,.N,.a (.any (.I g) none) none false,.N,.m .s] [] [] [1] [617,618,619,620,621,622] rfl rfl rfl ⟨tt_,(fun σ k l _=>Stp.callSame (md:=.cm (.clo) [(617,618),(618,619),(619,620)] [(618,617),(619,618),(620,619)] [] [.d,.d,.d] [(617,.var (Qd c)),(618,.var (Qh e)),(619,.var (Qe f))] (.I g) [618,619,620]) Qs hC k l rfl ⟨⟨tt_,(Qu7 _ _ _ i)⟩,⟨rfl,rfl,rfl,tt_⟩⟩)⟩ rfl (by kernel_rfl) rfl rfl rfl ?_
 refine Qa hC [.O 622 (.var (Qe g)),.n 11] rfl ⟨tt_,rfl⟩ ?_
 cases h
 exact d1_ rfl rfl ⟨rfl,rfl,rfl,rfl,rfl,rfl,tt_⟩
def Qgj (a:Qj)(b:Int):Option Bool:=
 (QaO a.Places b).bind fun c=>
 some c
theorem Qrg (a e){r}(h:Qgj a e=some r):Qc prog 244 [.loc 617 0 0,.loc 618 0 0] [(617,.var (Qd a)),(618,.var (Qe e))] (Gives (.b r) [(617,.var (Qd a)),(618,.var (Qe e))]):=by
 refine Qc.walk 7 func244 rfl rfl rfl fun C hC=>?_
 obtain⟨g,f,h⟩:=Qb h
 refine Qa hC [.n 10,.o (.c false [.d,.d] (.b g)),.n 4] rfl ⟨tt_,(Qb9 _ _ f)⟩ ?_
 cases h
 exact d1_ rfl rfl ⟨rfl,rfl,tt_⟩
def Qgk (b:(List Int))(a:Int)(c:Int):Option Bool:=
 (chk (decide (0≤a)&&decide (0≤a.toNat)&&decide (a.toNat≤b.length))).bind fun _=>
 (Qbv ((b.drop 0).take (a.toNat-0)) c).bind fun d=>
 some (!d)
theorem Qrh (f g i){r}(h:Qgk f g i=some r):Qc prog 245 [.loc 617 0 0,.loc 618 0 0,.loc 619 0 0] [(617,.var (QK f)),(618,.var (Qe g)),(619,.var (Qe i))] (Gives (.b r) [(617,.var (QK f)),(618,.var (Qe g)),(619,.var (Qe i))]):=by
 refine Qc.walk 10 func245 rfl rfl rfl fun C hC=>?_
 obtain⟨e,h⟩:=QaW h
 obtain⟨l,j,h⟩:=Qb h
 refine tg_ hC [.n 6,.K [0,1,2,3] [617,618,619]] rfl ?_
 refine AK.draw2 Qs hC mixed [.N,.N,.a (.any (.sl 1 (((f.drop 0).take (g.toNat-0)).map Qe)) none) none false,.N,.a (.c false [.d,.d] (.b l)) none false,.N,.m .s] [] [] [3] [617,618,619] rfl rfl rfl ⟨⟨tt_,(fun σ k o _=>Stp.sliceD rfl rfl (QN hC.n rfl) (k _ _ rfl) (Qs.es rfl) Bnd.no (Bnd.val (k _ _ rfl) (Q9 (QtG e)) rfl) (Q9 (QtH e)) (Qbm (Q9 (QtI e)) (Nat.le_of_eq Qf.symm)) Qwp)⟩,(QhR _ _ j)⟩ rfl (by kernel_rfl) rfl rfl rfl ?_
 refine tg_ hC [.n 2] rfl ?_
 cases h
 exact d1_ rfl rfl ⟨rfl,rfl,rfl,tt_⟩
def QiI (c:Qj)(b:Int)(d:Int)(e:(List Int))(f:Int)(g:Int):Option Int:=
 (Qgj c b).bind fun h=>
 bif (!h)then
 some d
 else
 (Qgk e f b).bind fun a=>
 bif (!a)then
 some g
 else
 some 0
theorem Qtn (i e j k l m){r}(h:QiI i e j k l m=some r):Qc prog 122 [.own 617 2] [(617,.var [.clo (.func 244) [] [.loc 618 0 0,.loc 619 0 0],.I j,.clo (.func 245) [] [.loc 620 0 0,.loc 621 0 0,.loc 619 0 0],.I m]),(618,.var (Qd i)),(619,.var (Qe e)),(620,.var (QK k)),(621,.var (Qe l))] (Gives (.I r) [(617,.var [.clo (.func 244) [] [.loc 618 0 0,.loc 619 0 0],.I j,.clo (.func 245) [] [.loc 620 0 0,.loc 621 0 0,.loc 619 0 0],.I m]),(618,.var (Qd i)),(619,.var (Qe e)),(620,.var (QK k)),(621,.var (Qe l))]):=by
 refine Qc.walk 18 func122 rfl rfl rfl fun C hC=>?_
 refine tg_ hC [.n 14] rfl ?_
 refine AK.loopN 3 (AK.rnd ?_)
 obtain⟨t,p,h⟩:=Qb h
 refine Qa hC [.n 2,.v .no [] (.b true),.n 10,.o (.any (.loc 617 0 0) none),.n 3,.O 4 (.var [.clo (.func 244) [] [.loc 618 0 0,.loc 619 0 0],.I j]),.n 6,.cm (.clo) [(617,618),(618,619)] [(618,617),(619,618)] [] [.d,.d] [(617,.var (Qd i)),(618,.var (Qe e))] (.b t),.n 3] rfl ⟨⟨⟨⟨tt_,rfl⟩,(fun σ f q _=>Stp.idxV rfl rfl (QN hC.n rfl) (f _ _ rfl) (f _ _ rfl) (Qs.es rfl) (q _ _ rfl) (by decide))⟩,rfl⟩,(Qrg _ _ p)⟩ ?_
 refine bg_ h (fun a h=>Qa hC [.T,.n 13,.K [2] [617,618,619,620,621]] rfl ⟨tt_,a⟩ ?_) fun a h=>Qa hC [.F,.n 4,.v .no [] (.I 1),.n 2] rfl ⟨⟨tt_,a⟩,rfl⟩ ?_
 ·cases h
  exact d1_ rfl rfl ⟨rfl,rfl,rfl,rfl,rfl,tt_⟩
 refine AK.met (AK.rnd ?_)
 obtain⟨s,g,h⟩:=Qb h
 refine Qa hC [.n 2,.v .no [] (.b true),.n 10,.o (.any (.loc 617 0 2) none),.n 1,.kill 4,.n 2,.O 4 (.var [.clo (.func 245) [] [.loc 620 0 0,.loc 621 0 0,.loc 619 0 0],.I m]),.n 6,.cm (.clo) [(617,620),(618,621),(619,619)] [(620,617),(621,618),(619,619)] [] [.d,.d,.d] [(617,.var (QK k)),(618,.var (Qe l)),(619,.var (Qe e))] (.b s),.n 3] rfl ⟨⟨⟨⟨tt_,rfl⟩,(fun σ f q _=>Stp.idxV rfl rfl (QN hC.n rfl) (f _ _ rfl) (f _ _ rfl) (Qs.es rfl) (q _ _ rfl) (by decide))⟩,rfl⟩,(Qrh _ _ _ g)⟩ ?_
 refine bg_ h (fun c h=>Qa hC [.T,.n 13,.K [2] [617,618,619,620,621]] rfl ⟨tt_,c⟩ ?_) fun c h=>Qa hC [.F,.n 4,.v .no [] (.I 2),.n 2] rfl ⟨⟨tt_,c⟩,rfl⟩ ?_
 ·cases h
  exact d1_ rfl rfl ⟨rfl,rfl,rfl,rfl,rfl,tt_⟩
 refine AK.met (AK.rnd ?_)
 refine Qa hC [.n 2,.v .no [] (.b false),.n 15] rfl ⟨tt_,rfl⟩ ?_
 cases h
 exact d1_ rfl rfl ⟨rfl,rfl,rfl,rfl,rfl,tt_⟩
def QhA (b:Int)(a:Int)(c:Qj)(d:(List Int)):Option Int:=
 (QiI c a 3 d b 5).bind fun e=>
 some e
theorem QsI (e a b c){r}(h:QhA e a b c=some r):Qc prog 243 [.I e,.I a,.loc 617 0 0,.loc 618 0 0] [(617,.var (Qd b)),(618,.var (QK c))] (Gives (.I r) [(617,.var (Qd b)),(618,.var (QK c))]):=by
 refine Qc.walk 13 func243 rfl rfl rfl fun C hC=>?_
 obtain⟨g,f,h⟩:=Qb h
 refine Qa hC [.n 10,.v .no [] (.agg [.clo (.func 244) [] [.loc 617 0 0,.loc 5 0 0],.I 3]),.n 1,.v .no [] (.agg [.clo (.func 245) [] [.loc 618 0 0,.loc 4 0 0,.loc 5 0 0],.I 5]),.o (.any (.own 11 2) (some (.var [.clo (.func 244) [] [.loc 617 0 0,.loc 5 0 0],.I 3,.clo (.func 245) [] [.loc 618 0 0,.loc 4 0 0,.loc 5 0 0],.I 5]))),.cm (.fn) [(617,11),(618,617),(619,5),(620,618),(621,4)] [(11,617),(617,618),(5,619),(618,620),(4,621)] [] [.d] [(617,.var [.clo (.func 244) [] [.loc 618 0 0,.loc 619 0 0],.I 3,.clo (.func 245) [] [.loc 620 0 0,.loc 621 0 0,.loc 619 0 0],.I 5]),(618,.var (Qd b)),(619,.var (Qe a)),(620,.var (QK c)),(621,.var (Qe e))] (.I g),.n 4] rfl ⟨⟨⟨⟨tt_,rfl⟩,rfl⟩,(fun σ i j hf=>Stp.buildAny rfl rfl (QN hC.n rfl) (Qs.es rfl) QnV rfl (by decide) (by decide) (QfZ i rfl) rfl rfl (hf rfl))⟩,(Qtn _ _ _ _ _ _ f)⟩ ?_
 cases h
 exact d1_ rfl rfl ⟨rfl,rfl,tt_⟩
def Qgl (d:(List Int))(e:Qj)(f:(List Int))(a:Int):Option (Int⊕((Int×Int)⊕Unit)):=
 bif (decide (a<(d.length:Int)))then
 (idx d a).bind fun c=>
 (QhA a c e f).bind fun b=>
 bif (b != 0)then
 some (.inr (.inl (a,b)))
 else
 some (.inl (w64 (a+1)))
 else
 some (.inr (.inr ()))
def Qgm (a:Int)(b:Int):Option (Int×Int):=
 some (a,b)
def Qgn : Option (Int×Int):=
 some (0,0)
def QiJ (a:(List Int))(b:Qj)(c:(List Int)):Option (Int×Int):=
 (QJ (fun st=>Qgl a b c st) 0).bind (Sum.elim (fun q=>Qgm q.1 q.2) (fun q=>Qgn))
theorem Qto (g c f){r}(h:QiJ g c f=some r):Qc prog 242 [.sl 1 (g.map Qe),.clo (.func 243) [] [.loc 617 0 0,.loc 618 0 0]] [(617,.var (Qd c)),(618,.var (QK f))] (Gives (.tup [.I r.1,.I r.2]) [(617,.var (Qd c)),(618,.var (QK f))]):=by
 refine Qc.walk 25 func242 rfl rfl rfl fun C hC=>?_
 refine Qa hC [.n 10,.o (.ln g.length),.n 4,.K [1,9,10,11] [617,618]] rfl ⟨tt_,Qf⟩ ?_
 obtain⟨l,i,h⟩:=Qb h
 refine AK.loop (body:=(fun st=>Qgl g c f st)) (fun st σ=>σ=⟨[(1,.clo (.func 243) [] [.loc 617 0 0,.loc 618 0 0]),(9,.sl 1 (g.map Qe)),(10,.I (g.length:Int)),(11,.I st)],[(617,.var (Qd c)),(618,.var (QK f))]⟩) (Sum.elim (fun q e σ=>e=.ret∧σ=⟨[(4,.I q.1),(5,.I q.2)],[(617,.var (Qd c)),(618,.var (QK f))]⟩) (fun q e σ=>e=.exit 0∧σ=⟨[],[(617,.var (Qd c)),(618,.var (QK f))]⟩)) i rfl ?_ ?_
 ·rintro u o σ rfl h
  refine tg_ hC [.n 6] rfl ?_
  rcases Qt h with⟨a,h⟩|⟨a,h⟩
  ·obtain⟨m,j,h⟩:=Qb h
   obtain⟨p,k,h⟩:=Qb h
   refine Qa hC [.T,.n 7,.o (.row (Qe m)),.n 10,.cm (.clo) [(617,617),(618,618)] [(617,617),(618,618)] [] [.d,.d,.d,.d] [(617,.var (Qd c)),(618,.var (QK f))] (.I p),.n 9] rfl ⟨⟨⟨tt_,a⟩,(QT j)⟩,(QsI _ _ _ _ k)⟩ ?_
   refine bg_ h (fun b h=>Qa hC [.T,.n 11,.K [4,5] [617,618]] rfl ⟨tt_,b⟩ ?_) fun b h=>Qa hC [.F,.n 7,.K [1,9,10,11] [617,618]] rfl ⟨tt_,b⟩ ?_
   ·cases h
    exact Qav rfl (an_ rfl rfl)
   cases h
   exact Q6 rfl rfl
  refine Qa hC [.F,.n 2,.K [] [617,618]] rfl ⟨tt_,a⟩ ?_
  cases h
  exact Q8 rfl (an_ rfl rfl)
 rcases l with(⟨s,t⟩|_)
 ·replace h:Qgm s t=some r:=h
  rintro e σ ⟨rfl,rfl⟩
  refine tg_ hC [.n 2] rfl ?_
  cases h
  exact d2_ rfl rfl rfl ⟨rfl,rfl,tt_⟩
 replace h:Qgn=some r:=h
 rintro e σ ⟨rfl,rfl⟩
 refine tg_ hC [.n 9] rfl ?_
 cases h
 exact d2_ rfl rfl rfl ⟨rfl,rfl,tt_⟩
def QjP (b:Qj)(a:(List Int)):Option Int:=
 (QiJ a b a).bind fun c=>
 some c.2
theorem Qt8 (a b){r}(h:QjP a b=some r):Qc prog 197 [.agg (Qd a),.sl 1 (b.map Qe)] [] (Gives (.I r) []):=by
 refine Qc.walk 14 func197 rfl rfl rfl fun C hC=>?_
 obtain⟨e,c,h⟩:=Qb h
 refine Qa hC [.n 11,.cm (.fn) [(617,2),(618,3)] [(2,617),(3,618)] [] [.d,.d] [(617,.var (Qd a)),(618,.var (QK b))] (.tup [.I e.1,.I e.2]),.n 14] rfl ⟨tt_,(Qto _ _ _ c)⟩ ?_
 cases h
 exact d1_ rfl rfl tt_
def QjQ (a:Qj)(b:QC):Option Int:=
 (QjP a b.Cancel).bind fun c=>
 some c
theorem Qt9 (a b){r}(h:QjQ a b=some r):Qc prog 196 [.loc 617 0 0,.loc 618 0 0] [(617,.var (Qd a)),(618,.var (Qh b))] (Gives (.I r) [(617,.var (Qd a)),(618,.var (Qh b))]):=by
 refine Qc.walk 7 func196 rfl rfl rfl fun C hC=>?_
 obtain⟨f,e,h⟩:=Qb h
 refine Qa hC [.n 7,.v .no [] (.agg (Qd a)),.n 2,.o (.c false [.d,.d] (.I f)),.n 4] rfl ⟨⟨tt_,rfl⟩,(Qt8 _ _ e)⟩ ?_
 cases h
 exact d1_ rfl rfl ⟨rfl,rfl,tt_⟩
def QgY (b:Qj)(c:QC)(d:Int):Option (Bool×Int):=
 (QjQ b c).bind fun a=>
 some ((a==0),a)
theorem QrM (c e i){r}(h:QgY c e i=some r):Qc prog 227 [.loc 617 0 0,.loc 620 0 0] [(617,.var [.clo (.func 196) [] [.loc 618 0 0,.loc 619 0 0]]),(618,.var (Qd c)),(619,.var (Qh e)),(620,.var [.loc 621 0 0]),(621,.var (Qe i))] (Gives (.b r.1) [(617,.var [.clo (.func 196) [] [.loc 618 0 0,.loc 619 0 0]]),(618,.var (Qd c)),(619,.var (Qh e)),(620,.var [.loc 621 0 0]),(621,.var (Qe r.2))]):=by
 refine Qc.walk 11 func227 rfl rfl rfl fun C hC=>?_
 obtain⟨f,g,h⟩:=Qb h
 refine tg_ hC [.n 6,.K [0,1] [617,618,619,620,621]] rfl ?_
 refine AK.draw2 Qs hC mixed [.N,.N,.a (.any (.I f) none) none false,.N,.m .s] [] [] [1] [617,618,619,620,621] rfl rfl rfl ⟨tt_,(fun σ j k _=>Stp.callSame (md:=.cm (.clo) [(617,618),(618,619)] [(618,617),(619,618)] [] [.d,.d] [(617,.var (Qd c)),(618,.var (Qh e))] (.I f) [618,619]) Qs hC j k rfl ⟨⟨tt_,(Qt9 _ _ g)⟩,⟨rfl,rfl,tt_⟩⟩)⟩ rfl (by kernel_rfl) rfl rfl rfl ?_
 refine Qa hC [.O 621 (.var (Qe f)),.n 11] rfl ⟨tt_,rfl⟩ ?_
 cases h
 exact d1_ rfl rfl ⟨rfl,rfl,rfl,rfl,rfl,tt_⟩
def Qfc (a:Int)(b:(List Qaw)):Option Bool:=
 some ((decide (1≤a))&&((decide (a≤3))&&((a != 3)||(decide ((b.length:Int)≤4)))))
theorem Qn0 (a f){r}(h:Qfc a f=some r):Qc prog 246 [.I a,.sl 4 (f.map Q5)] [] (Gives (.b r) []):=by
 refine Qc.walk 20 func246 rfl rfl rfl fun C hC=>?_
 unfold Qfc at h
 refine tg_ hC [.n 6] rfl ?_
 refine AK.meetX (fun σ=>σ=⟨[(4,.b ((decide (1≤a))&&((decide (a≤3))&&((a != 3)||(decide ((f.length:Int)≤4))))))],[]⟩) ?_ ?_
 ·refine tg_ hC [.n 4] rfl ?_
  rcases Q7 (decide (1≤a))with c | c
  ·refine Qa hC [.S 7 (.b true),.n 4] rfl (tc_ c) ?_
   rcases Q7 (decide (a≤3))with d | d
   ·refine Qa hC [.S 11 (.b true),.n 3] rfl (tc_ d) ?_
    rcases Q7 (a != 3)with e | e
    ·refine Qa hC [.S 14 (.b true),.n 7,.S 4 (.b ((decide (1≤a))&&((decide (a≤3))&&((a != 3)||(decide ((f.length:Int)≤4)))))),.K [4] []] rfl ⟨(tc_ e),(congrArg V.b (Qb8 c (Qb8 d (orT e rfl))))⟩ ?_
     exact AK.met rfl
    refine Qa hC [.S 14 (.b false),.n 1,.o (.ln f.length),.n 5,.S 4 (.b ((decide (1≤a))&&((decide (a≤3))&&((a != 3)||(decide ((f.length:Int)≤4)))))),.K [4] []] rfl ⟨⟨(tc_ e),Qf⟩,(congrArg V.b (Qb8 c (Qb8 d (orF e rfl))))⟩ ?_
    exact AK.met rfl
   refine Qa hC [.S 11 (.b false),.n 10,.S 4 (.b ((decide (1≤a))&&((decide (a≤3))&&((a != 3)||(decide ((f.length:Int)≤4)))))),.K [4] []] rfl ⟨(tc_ d),(congrArg V.b (Qb8 c (Qd6 d rfl)))⟩ ?_
   exact AK.met rfl
  refine Qa hC [.S 7 (.b false),.n 14,.S 4 (.b ((decide (1≤a))&&((decide (a≤3))&&((a != 3)||(decide ((f.length:Int)≤4)))))),.K [4] []] rfl ⟨(tc_ c),(congrArg V.b (Qd6 c rfl))⟩ ?_
  exact AK.met rfl
 rintro σ rfl
 refine tg_ hC [.n 2] rfl ?_
 cases h
 exact d1_ rfl rfl tt_
def QpU (a:QC):Option Bool:=
 (Qfc a.Join a.Ins).bind fun b=>
 bif b then
 (Qfc a.Split a.Outs).bind fun c=>
 bif c then
 bif (decide (0≤a.After))then
 bif (decide (a.After≤65536))then
 some (((a.Many.1==0)&&((a.Many.2.1==0)&&(a.Many.2.2==0)))||((decide (1≤a.Many.1))&&((decide (a.Many.1≤a.Many.2.1))&&((decide (a.Many.2.1≤16))&&((decide (1≤a.Many.2.2))&&(decide (a.Many.2.2≤a.Many.2.1)))))))
 else
 some false
 else
 some false
 else
 some false
 else
 some false
def QiK (a:Bool):Option Bool:=
 some a
def QiW (a:QC):Option Bool:=
 (QpU a).bind (fun b=>QiK b)
theorem QvS (a){r}(h:QiW a=some r):Qc prog 199 [.agg (Qh a)] [] (Gives (.b r) []):=by
 refine Qc.walk 70 func199 rfl rfl rfl fun C hC=>?_
 unfold QiW at h
 refine tg_ hC [.n 7,.K [1] [1]] rfl ?_
 refine AK.draw2 Qs hC mixed [.N,.N,.N,.N,.N,.N,.N,.N,.N,.N,.N,.N] [] [] [1,3,4,5] [1] rfl rfl rfl tt_ rfl (by kernel_rfl) rfl rfl rfl ?_
 refine tg_ hC [.n 2] rfl ?_
 refine AK.meetX (fun σ=>σ=⟨[(1,.loc 1 0 0),(6,.b (((a.Many.1==0)&&((a.Many.2.1==0)&&(a.Many.2.2==0)))||((decide (1≤a.Many.1))&&((decide (a.Many.1≤a.Many.2.1))&&((decide (a.Many.2.1≤16))&&((decide (1≤a.Many.2.2))&&(decide (a.Many.2.2≤a.Many.2.1))))))))],[(1,.var (Qh a))]⟩) ?_ ?_
 ·refine Qa hC [.n 2,.v .no [] (.agg (Qxl a.Many)),.v .no [] (.agg (Qxl (0,0,0))),.o (.any (.b ((a.Many.1==0)&&((a.Many.2.1==0)&&(a.Many.2.2==0)))) none),.n 1] rfl ⟨⟨⟨tt_,rfl⟩,rfl⟩,(fun σ y z _=>Stp.eqAgg rfl rfl (QN hC.n rfl) (y _ _ rfl) (y _ _ rfl) rfl rfl (QEe _ _ _ _ _ _))⟩ ?_
  rcases Q7 ((a.Many.1==0)&&((a.Many.2.1==0)&&(a.Many.2.2==0)))with e | e
  ·refine Qa hC [.S 21 (.b true),.n 23,.S 6 (.b (((a.Many.1==0)&&((a.Many.2.1==0)&&(a.Many.2.2==0)))||((decide (1≤a.Many.1))&&((decide (a.Many.1≤a.Many.2.1))&&((decide (a.Many.2.1≤16))&&((decide (1≤a.Many.2.2))&&(decide (a.Many.2.2≤a.Many.2.1)))))))),.K [1,6] [1]] rfl ⟨(tc_ e),(congrArg V.b (orT e rfl))⟩ ?_
   exact AK.met rfl
  refine Qa hC [.S 21 (.b false),.n 3] rfl (tc_ e) ?_
  rcases Q7 (decide (1≤a.Many.1))with f | f
  ·refine Qa hC [.S 24 (.b true),.n 5] rfl (tc_ f) ?_
   rcases Q7 (decide (a.Many.1≤a.Many.2.1))with g | g
   ·refine Qa hC [.S 29 (.b true),.n 4] rfl (tc_ g) ?_
    rcases Q7 (decide (a.Many.2.1≤16))with i | i
    ·refine Qa hC [.S 33 (.b true),.n 4] rfl (tc_ i) ?_
     rcases Q7 (decide (1≤a.Many.2.2))with j | j
     ·refine Qa hC [.S 37 (.b true),.n 7,.S 6 (.b (((a.Many.1==0)&&((a.Many.2.1==0)&&(a.Many.2.2==0)))||((decide (1≤a.Many.1))&&((decide (a.Many.1≤a.Many.2.1))&&((decide (a.Many.2.1≤16))&&((decide (1≤a.Many.2.2))&&(decide (a.Many.2.2≤a.Many.2.1)))))))),.K [1,6] [1]] rfl ⟨(tc_ j),(congrArg V.b (orF e (Qb8 f (Qb8 g (Qb8 i (Qb8 j rfl))))))⟩ ?_
      exact AK.met rfl
     refine Qa hC [.S 37 (.b false),.n 7,.S 6 (.b (((a.Many.1==0)&&((a.Many.2.1==0)&&(a.Many.2.2==0)))||((decide (1≤a.Many.1))&&((decide (a.Many.1≤a.Many.2.1))&&((decide (a.Many.2.1≤16))&&((decide (1≤a.Many.2.2))&&(decide (a.Many.2.2≤a.Many.2.1)))))))),.K [1,6] [1]] rfl ⟨(tc_ j),(congrArg V.b (orF e (Qb8 f (Qb8 g (Qb8 i (Qd6 j rfl))))))⟩ ?_
     exact AK.met rfl
    refine Qa hC [.S 33 (.b false),.n 11,.S 6 (.b (((a.Many.1==0)&&((a.Many.2.1==0)&&(a.Many.2.2==0)))||((decide (1≤a.Many.1))&&((decide (a.Many.1≤a.Many.2.1))&&((decide (a.Many.2.1≤16))&&((decide (1≤a.Many.2.2))&&(decide (a.Many.2.2≤a.Many.2.1)))))))),.K [1,6] [1]] rfl ⟨(tc_ i),(congrArg V.b (orF e (Qb8 f (Qb8 g (Qd6 i rfl)))))⟩ ?_
    exact AK.met rfl
   refine Qa hC [.S 29 (.b false),.n 15,.S 6 (.b (((a.Many.1==0)&&((a.Many.2.1==0)&&(a.Many.2.2==0)))||((decide (1≤a.Many.1))&&((decide (a.Many.1≤a.Many.2.1))&&((decide (a.Many.2.1≤16))&&((decide (1≤a.Many.2.2))&&(decide (a.Many.2.2≤a.Many.2.1)))))))),.K [1,6] [1]] rfl ⟨(tc_ g),(congrArg V.b (orF e (Qb8 f (Qd6 g rfl))))⟩ ?_
   exact AK.met rfl
  refine Qa hC [.S 24 (.b false),.n 20,.S 6 (.b (((a.Many.1==0)&&((a.Many.2.1==0)&&(a.Many.2.2==0)))||((decide (1≤a.Many.1))&&((decide (a.Many.1≤a.Many.2.1))&&((decide (a.Many.2.1≤16))&&((decide (1≤a.Many.2.2))&&(decide (a.Many.2.2≤a.Many.2.1)))))))),.K [1,6] [1]] rfl ⟨(tc_ f),(congrArg V.b (orF e (Qd6 f rfl)))⟩ ?_
  exact AK.met rfl
 rintro σ rfl
 refine tg_ hC [.n 7] rfl ?_
 obtain⟨u,q,h⟩:=Qb h
 replace h:QiK u=some r:=h
 refine AK.meetX (fun σ=>σ=⟨[(2,.b u)],[]⟩) ?_ ?_
 ·replace h:=q
  obtain⟨w,s,h⟩:=Qb h
  refine Qa hC [.n 6,.o (.c false [.d,.d] (.b w)),.n 1] rfl ⟨tt_,(Qn0 _ _ s)⟩ ?_
  rcases Qt h with⟨k,h⟩|⟨k,h⟩
  ·obtain⟨x,t,h⟩:=Qb h
   refine Qa hC [.S 49 (.b true),.n 5,.o (.c false [.d,.d] (.b x)),.n 2] rfl ⟨(tc_ k),(Qn0 _ _ t)⟩ ?_
   refine bg_ h (fun l h=>Qa hC [.S 57 (.b true),.n 5] rfl (tc_ l) ?_) fun l h=>Qa hC [.S 57 (.b false),.n 14,.K [2] []] rfl (tc_ l) ?_
   ·refine bg_ h (fun m h=>Qa hC [.S 62 (.b true),.n 5] rfl (tc_ m) ?_) fun m h=>Qa hC [.S 62 (.b false),.n 9,.K [2] []] rfl (tc_ m) ?_
    ·refine bg_ h (fun p h=>Qa hC [.S 67 (.b true),.n 4,.K [2] []] rfl (tc_ p) ?_) fun p h=>Qa hC [.S 67 (.b false),.n 4,.K [2] []] rfl (tc_ p) ?_
     ·cases h
      exact AK.met rfl
     cases h
     exact AK.met rfl
    cases h
    exact AK.met rfl
   cases h
   exact AK.met rfl
  refine Qa hC [.S 49 (.b false),.n 22,.K [2] []] rfl (tc_ k) ?_
  cases h
  exact AK.met rfl
 rintro σ rfl
 replace h:QiK u=some r:=h
 refine tg_ hC [.n 2] rfl ?_
 cases h
 exact d1_ rfl rfl tt_
def QjR (a:QC):Option Bool:=
 (QiW a).bind fun b=>
 some b
theorem Qua (a){r}(h:QjR a=some r):Qc prog 198 [.loc 617 0 0] [(617,.var (Qh a))] (Gives (.b r) [(617,.var (Qh a))]):=by
 refine Qc.walk 4 func198 rfl rfl rfl fun C hC=>?_
 obtain⟨f,e,h⟩:=Qb h
 refine Qa hC [.n 7,.v .no [] (.agg (Qh a)),.o (.c false [.d] (.b f)),.n 4] rfl ⟨⟨tt_,rfl⟩,(QvS _ e)⟩ ?_
 cases h
 exact d1_ rfl rfl ⟨rfl,tt_⟩

end Go.Proofs
