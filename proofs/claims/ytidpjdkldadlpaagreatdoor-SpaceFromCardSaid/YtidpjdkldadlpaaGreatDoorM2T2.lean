/- What functions of the program do, as functions over plain data, and the walks that show it: printed by a program. -/
import Derived.Test.YtidpjdkldadlpaaGreatDoorM2T1
set_option linter.unusedVariables false
set_option linter.unusedSimpArgs false
set_option linter.unusedSectionVars false
set_option linter.deprecated false
set_option maxRecDepth 100000
set_option maxHeartbeats 4000000
noncomputable section
namespace Go.Proofs
open Go Go.RowKit Go.Vm Go.Proofs.Tryz
def Qby (c:(List Int))(d:(List Int))(a:Int):Option (Int⊕(Unit⊕Unit)):=
 bif (decide (a<(c.length:Int)))then
 (idx c a).bind fun e=>
 (idx d a).bind fun b=>
 bif (e != b)then
 some (.inr (.inl ()))
 else
 some (.inl (w64 (a+1)))
 else
 some (.inr (.inr ()))
def Qjo : Option Bool:=
 some false
def Qjp : Option Bool:=
 some true
def Qbu (a:(List Int))(b:(List Int)):Option Bool:=
 bif ((a.length:Int) != (b.length:Int))then
 some false
 else
 (QK (fun st=>Qby a b st) 0).bind (Sum.elim (fun q=>Qjo) (fun q=>Qjp))
theorem QoT (d i){r}(h:Qbu d i=some r):Qc prog 147 [.sl 1 (d.map Qe),.sl 1 (i.map Qe)] [] (Gives (.b r) []):=by
 refine Qc.walk 26 func147 rfl rfl rfl fun C hC=>?_
 refine Qa hC [.n 9,.o (.ln d.length),.n 1,.o (.ln i.length),.n 3] rfl ⟨⟨tt_,Qf⟩,Qf⟩ ?_
 refine bg_ h (fun f h=>Qa hC [.T,.n 7,.K [4] []] rfl ⟨tt_,f⟩ ?_) fun f h=>Qa hC [.F,.n 6,.o (.ln d.length),.n 4,.K [0,1,12,13] []] rfl ⟨⟨tt_,f⟩,Qf⟩ ?_
 ·cases h
  exact d1_ rfl rfl tt_
 obtain⟨l,j,h⟩:=Qb h
 refine AK.loop (body:=(fun st=>Qby d i st)) (fun st σ=>σ=⟨[(0,.sl 1 (d.map Qe)),(1,.sl 1 (i.map Qe)),(12,.I (d.length:Int)),(13,.I st)],[]⟩) (Sum.elim (fun q e σ=>e=.ret∧σ=⟨[(4,.b false)],[]⟩) (fun q e σ=>e=.exit 0∧σ=⟨[],[]⟩)) j rfl ?_ ?_
 ·rintro t o σ rfl h
  refine tg_ hC [.n 6] rfl ?_
  rcases Qr h with⟨g,h⟩|⟨g,h⟩
  ·obtain⟨s,m,h⟩:=Qb h
   obtain⟨p,k,h⟩:=Qb h
   refine Qa hC [.T,.n 11,.K [0,1,5,12,13] []] rfl ⟨tt_,g⟩ ?_
   refine AK.draw2 Qp hC mixed [.N,.N,.a (.row (Qe s)) none false,.N,.N,.N,.a (.row (Qe p)) none false,.N,.N] [] [] [0,1,12,13,24] [] rfl rfl rfl ⟨⟨tt_,(QP m)⟩,(QP k)⟩ rfl (by kernel_rfl) rfl rfl rfl ?_
   refine tg_ hC [.n 1] rfl ?_
   refine bg_ h (fun c h=>Qa hC [.T,.n 8,.K [4] []] rfl ⟨tt_,c⟩ ?_) fun c h=>Qa hC [.F,.n 7,.K [0,1,12,13] []] rfl ⟨tt_,c⟩ ?_
   ·cases h
    exact Qar rfl (an_ rfl rfl)
   cases h
   exact Q4 rfl rfl
  refine Qa hC [.F,.n 2,.K [] []] rfl ⟨tt_,g⟩ ?_
  cases h
  exact Q6 rfl (an_ rfl rfl)
 rcases l with(_ | _)
 ·replace h:Qjo=some r:=h
  rintro e σ ⟨rfl,rfl⟩
  refine tg_ hC [.n 2] rfl ?_
  cases h
  exact d1_ rfl rfl tt_
 replace h:Qjp=some r:=h
 rintro e σ ⟨rfl,rfl⟩
 refine tg_ hC [.n 8] rfl ?_
 cases h
 exact d1_ rfl rfl tt_
def Qjq (a:(List Int))(b:(List Int)):Option Bool:=
 (Qbu a b).bind fun c=>
 some c
theorem Qt1 (f a){r}(h:Qjq f a=some r):Qc prog 146 [.sl 1 (f.map Qe),.loc 617 0 0] [(617,.var (QL a))] (Gives (.b r) [(617,.var (QL a))]):=by
 refine Qc.walk 7 func146 rfl rfl rfl fun C hC=>?_
 obtain⟨g,e,h⟩:=Qb h
 refine Qa hC [.n 9,.o (.c false [.d,.d] (.b g)),.n 4] rfl ⟨tt_,(QoT _ _ e)⟩ ?_
 cases h
 exact d1_ rfl rfl ⟨rfl,tt_⟩
def Qaq (c:QLL)(d:(List Int))(a:Int):Option (Int⊕(Int⊕Unit)):=
 bif (decide (a<(c.length:Int)))then
 (idx c a).bind fun e=>
 (Qjq e d).bind fun b=>
 bif b then
 some (.inr (.inl a))
 else
 some (.inl (w64 (a+1)))
 else
 some (.inr (.inr ()))
def Qf7 (a:Int):Option Int:=
 some a
def Qf8 : Option Int:=
 some (-1)
def QcB (a:QLL)(b:(List Int)):Option Int:=
 (QK (fun st=>Qaq a b st) 0).bind (Sum.elim (fun q=>Qf7 q) (fun q=>Qf8))
theorem QlS (g c){r}(h:QcB g c=some r):Qc prog 153 [.sl 1 (g.map QL),.clo (.func 146) [] [.loc 617 0 0]] [(617,.var (QL c))] (Gives (.I r) [(617,.var (QL c))]):=by
 refine Qc.walk 19 func153 rfl rfl rfl fun C hC=>?_
 refine Qa hC [.n 9,.o (.ln g.length),.n 4,.K [0,1,7,8] [617]] rfl ⟨tt_,Qf⟩ ?_
 obtain⟨k,i,h⟩:=Qb h
 refine AK.loop (body:=(fun st=>Qaq g c st)) (fun st σ=>σ=⟨[(0,.sl 1 (g.map QL)),(1,.clo (.func 146) [] [.loc 617 0 0]),(7,.I (g.length:Int)),(8,.I st)],[(617,.var (QL c))]⟩) (Sum.elim (fun q e σ=>e=.ret∧σ=⟨[(4,.I q)],[(617,.var (QL c))]⟩) (fun q e σ=>e=.exit 0∧σ=⟨[],[(617,.var (QL c))]⟩)) i rfl ?_ ?_
 ·rintro t o σ rfl h
  refine tg_ hC [.n 6] rfl ?_
  rcases Qr h with⟨f,h⟩|⟨f,h⟩
  ·obtain⟨p,l,h⟩:=Qb h
   obtain⟨m,j,h⟩:=Qb h
   refine Qa hC [.T,.n 15,.o (.row (QL p)),.n 1,.cm (.clo) [(617,617)] [(617,617)] [] [.d,.d] [(617,.var (QL c))] (.b m),.n 2] rfl ⟨⟨⟨tt_,f⟩,(QP l)⟩,(Qt1 _ _ j)⟩ ?_
   refine bg_ h (fun a h=>Qa hC [.T,.n 9,.K [4] [617]] rfl ⟨tt_,a⟩ ?_) fun a h=>Qa hC [.F,.n 7,.K [0,1,7,8] [617]] rfl ⟨tt_,a⟩ ?_
   ·cases h
    exact Qar rfl (an_ rfl rfl)
   cases h
   exact Q4 rfl rfl
  refine Qa hC [.F,.n 2,.K [] [617]] rfl ⟨tt_,f⟩ ?_
  cases h
  exact Q6 rfl (an_ rfl rfl)
 rcases k with(s | _)
 ·replace h:Qf7 s=some r:=h
  rintro e σ ⟨rfl,rfl⟩
  refine tg_ hC [.n 2] rfl ?_
  cases h
  exact d1_ rfl rfl ⟨rfl,tt_⟩
 replace h:Qf8=some r:=h
 rintro e σ ⟨rfl,rfl⟩
 refine tg_ hC [.n 8] rfl ?_
 cases h
 exact d1_ rfl rfl ⟨rfl,tt_⟩
def QcC (a:QLL)(b:(List Int)):Option Bool:=
 (QcB a b).bind fun c=>
 some (decide (0≤c))
theorem QlT (e a){r}(h:QcC e a=some r):Qc prog 145 [.sl 1 (e.map QL),.clo (.func 146) [] [.loc 617 0 0]] [(617,.var (QL a))] (Gives (.b r) [(617,.var (QL a))]):=by
 refine Qc.walk 9 func145 rfl rfl rfl fun C hC=>?_
 obtain⟨f,c,h⟩:=Qb h
 refine Qa hC [.n 9,.cm (.fn) [(617,617)] [(617,617)] [] [.d,.d] [(617,.var (QL a))] (.I f),.n 5] rfl ⟨tt_,(QlS _ _ c)⟩ ?_
 cases h
 exact d1_ rfl rfl ⟨rfl,tt_⟩
def Qd0 (a:Int)(b:Int)(c:(List Int)):Option Bool:=
 (Qcg a b).bind fun d=>
 (QcC d c).bind fun e=>
 some e
theorem QpB (a c e){r}(h:Qd0 a c e=some r):Qc prog 91 [.I a,.I c,.sl 1 (e.map Qe)] [] (Gives (.b r) []):=by
 refine Qc.walk 12 func91 rfl rfl rfl fun C hC=>?_
 obtain⟨f,g,h⟩:=Qb h
 obtain⟨j,i,h⟩:=Qb h
 refine Qa hC [.n 10,.o (.co false [.d,.d] 1 (f.map QL) f.length),.n 1,.frz 9 (f.map QL) [9] [],.cm (.fn) [(617,5)] [(5,617)] [] [.d,.d] [(617,.var (QL e))] (.b j),.n 4] rfl ⟨⟨⟨tt_,⟨(Qk2 _ _ g),Qf,.inl rfl⟩⟩,⟨tt_,(Qb7 Qf)⟩⟩,(QlT _ _ i)⟩ ?_
 cases h
 exact d1_ rfl rfl tt_
def Qjr (a:(Int×QX))(d:Ql):Option Bool:=
 (Qd0 a.2.task.Join (a.2.task.Ins.length:Int) d.Ins).bind fun b=>
 bif (!b)then
 some true
 else
 (Qd0 a.2.task.Split (a.2.task.Outs.length:Int) d.Outs).bind fun c=>
 some (!c)
def Qe6 (c:(Int×QX))(d:Ql)(e:Bool):Option Int:=
 bif e then
 some 11
 else
 (Qaj c.2 d.Ins).bind fun a=>
 bif (a != 0)then
 some a
 else
 (QaA c.2 d.Outs).bind fun b=>
 some b
def QcX (b:(Int×QX))(c:Ql)(a:Int):Option Int:=
 bif (a != 0)then
 some a
 else
 (Qjr b c).bind (fun d=>Qe6 b c d)
def QcI (d:Qj)(e:QMk)(b:Ql):Option Int:=
 (QbQ d e b.Task b.Vars).bind fun a=>
 bif (a.1==0)then
 (Qal a.2).bind fun c=>
 QcX a b c
 else
 QcX a b a.1
theorem QqD (w G k){r}(h:QcI w G k=some r):Qc prog 58 [.agg (Qd w),.sl 1 (G.map Qi),.agg (Qk k)] [] (Gives (.I r) []):=by
 refine Qc.walk 62 func58 rfl rfl rfl fun C hC=>?_
 obtain⟨a,x,h⟩:=Qb h
 refine Qa hC [.n 9,.v .no [] (.agg (Qd w)),.n 5,.o (.c false [.d,.d,.d,.d] (.tup [.agg (Qz a.2),.I a.1])),.n 5,.O 7 (.var (Qz a.2)),.n 3] rfl ⟨⟨⟨tt_,rfl⟩,(Qqv _ _ _ _ x)⟩,rfl⟩ ?_
 refine AK.meet (fun σ=>∃e:Int,σ=⟨[(5,.loc 5 0 0),(7,.loc 7 0 0),(8,.I e)],[(5,.var (Qk k)),(7,.var (Qz a.2))]⟩∧QcX a k e=some r) ?_ ?_
 ·refine tg_ hC [.n 6] rfl ?_
  rcases Qr h with⟨f,h⟩|⟨f,h⟩
  ·obtain⟨y,m,h⟩:=Qb h
   refine Qa hC [.T,.n 1,.v .no [] (.agg (Qz a.2)),.o (.c false [.d] (.I y)),.n 2,.K [5,7,8] [5,7]] rfl ⟨⟨⟨tt_,f⟩,rfl⟩,(Qj5 _ m)⟩ ?_
   exact AK.met (ex_ _ (an_ rfl h))
  refine Qa hC [.F,.n 1,.K [5,7,8] [5,7]] rfl ⟨tt_,f⟩ ?_
  exact AK.met (ex_ _ (an_ rfl h))
 rintro σ ⟨e,rfl,h⟩
 refine tg_ hC [.n 7] rfl ?_
 refine bg_ h (fun l h=>Qa hC [.T,.n 8,.K [6] []] rfl ⟨tt_,l⟩ ?_) fun l h=>Qa hC [.F,.n 4] rfl ⟨tt_,l⟩ ?_
 ·cases h
  exact d1_ rfl rfl tt_
 obtain⟨z,p,h⟩:=Qb h
 replace h:Qe6 a k z=some r:=h
 refine AK.meetX (fun σ=>σ=⟨[(5,.loc 5 0 0),(7,.loc 7 0 0),(50,.b z)],[(5,.var (Qk k)),(7,.var (Qz a.2))]⟩) ?_ ?_
 ·replace h:=p
  obtain⟨A,q,h⟩:=Qb h
  refine Qa hC [.n 7,.o (.ln a.2.task.Ins.length),.n 2,.o (.c false [.d,.d,.d] (.b A)),.n 2] rfl ⟨⟨tt_,Qf⟩,(QpB _ _ _ q)⟩ ?_
  rcases Qr h with⟨g,h⟩|⟨g,h⟩
  ·refine Qa hC [.S 38 (.b true),.n 13,.K [5,7,50] [5,7]] rfl (tc_ g) ?_
   cases h
   exact AK.met rfl
  obtain⟨B,s,h⟩:=Qb h
  refine Qa hC [.S 38 (.b false),.n 6,.o (.ln a.2.task.Outs.length),.n 2,.o (.c false [.d,.d,.d] (.b B)),.n 3,.K [5,7,50] [5,7]] rfl ⟨⟨(tc_ g),Qf⟩,(QpB _ _ _ s)⟩ ?_
  cases h
  exact AK.met rfl
 rintro σ rfl
 replace h:Qe6 a k z=some r:=h
 refine tg_ hC [.n 1] rfl ?_
 rcases Qr h with⟨i,h⟩|⟨i,h⟩
 ·refine Qa hC [.T,.n 7] rfl ⟨tt_,i⟩ ?_
  cases h
  exact d1_ rfl rfl tt_
 obtain⟨D,t,h⟩:=Qb h
 refine Qa hC [.F,.n 5,.v .no [] (.agg (Qz a.2)),.n 2,.o (.c false [.d,.d] (.I D)),.n 9] rfl ⟨⟨⟨tt_,i⟩,rfl⟩,(Qlp _ _ t)⟩ ?_
 rcases Qr h with⟨j,h⟩|⟨j,h⟩
 ·refine Qa hC [.T,.n 8] rfl ⟨tt_,j⟩ ?_
  cases h
  exact d1_ rfl rfl tt_
 obtain⟨E,u,h⟩:=Qb h
 refine Qa hC [.F,.n 4,.v .no [] (.agg (Qz a.2)),.n 2,.o (.c false [.d,.d] (.I E)),.n 4] rfl ⟨⟨⟨tt_,j⟩,rfl⟩,(Qlh _ _ u)⟩ ?_
 cases h
 exact d1_ rfl rfl tt_
def QdN (l:List Int):Option (List Int):=(chk (decide (l.length<4611686018427387904))).bind fun _=>some (Qfw l)
theorem Qh8 (l){r}(h:QdN l=some r):Qc prog 49 [.own 617 l.length] [(617,.arr 1 (l.map Qe))] (Gives (.own 617 r.length) [(617,.arr 1 (r.map Qe))]):=by
 obtain⟨_,a,h⟩:=Qb h
 cases h
 exact QzA QBs l (Q8 (QyH a))
def Qhq (a:Int)(b:(List Int)):Option ((Int×(List Int))⊕(List Int)):=
 some (.inl ((w64 (a+1)),b))
def Qow (a:Qax)(c:QMk):Option Bool:=
 bif (decide (0≤a.Place))then
 bif (decide (a.Place<(c.length:Int)))then
 (idx c a.Place).bind fun b=>
 some ((b.length:Int)==0)
 else
 some false
 else
 some false
def Qhr (a:(List Int))(b:Qax)(c:Int)(d:Bool):Option ((Int×(List Int))⊕(List Int)):=
 bif d then
 (chk (decide (a.length+([b.Place]:List Int).length≤4294967296))).bind fun _=>
 Qhq c (a++([b.Place]:List Int))
 else
 Qhq c a
def Qhs (e:QD)(f:QMk)(a:Int)(b:(List Int)):Option ((Int×(List Int))⊕(List Int)):=
 bif (decide (a<(e.Ins.length:Int)))then
 (idx e.Ins a).bind fun c=>
 (Qow c f).bind (fun d=>Qhr b c a d)
 else
 some (.inr b)
def Qht (a:(List Int)):Option (List Int):=
 (Qbg a).bind fun b=>
 (chk (decide (b.length=a.length))).bind fun _=>
 (QdN b).bind fun c=>
 some c
def Qer (b:Qj)(c:QMk)(a:Int):Option (List Int):=
 bif ((decide (a<0))||(decide ((b.Tasks.length:Int)≤a)))then
 some ([]:List Int)
 else
 (idx b.Tasks a).bind fun d=>
 (QK (fun st=>Qhs d c st.1 st.2) (0,([]:List Int))).bind (fun q=>Qht q)
theorem QuS (w t a){r}(h:Qer w t a=some r):Qc prog 103 [.agg (Qd w),.sl 1 (t.map Qi),.I a] [] (Gives (.own 600 r.length) [(600,.arr 1 (r.map Qe))]):=by
 refine Qc.walk 59 func103 rfl rfl rfl fun C hC=>?_
 refine tg_ hC [.n 8] rfl ?_
 refine AK.meetX (fun σ=>σ=⟨[(1,.sl 1 (t.map Qi)),(2,.I a),(3,.loc 3 0 0),(18,.b ((decide (a<0))||(decide ((w.Tasks.length:Int)≤a))))],[(3,.var (Qd w))]⟩) ?_ ?_
 ·refine tg_ hC [.n 4] rfl ?_
  rcases Q3 (decide (a<0))with g | g
  ·refine Qa hC [.S 12 (.b true),.n 7,.S 18 (.b ((decide (a<0))||(decide ((w.Tasks.length:Int)≤a)))),.K [1,2,3,18] [3]] rfl ⟨(tc_ g),(congrArg V.b (orT g rfl))⟩ ?_
   exact AK.met rfl
  refine Qa hC [.S 12 (.b false),.n 3,.o (.ln w.Tasks.length),.n 3,.S 18 (.b ((decide (a<0))||(decide ((w.Tasks.length:Int)≤a)))),.K [1,2,3,18] [3]] rfl ⟨⟨(tc_ g),Qf⟩,(congrArg V.b (orF g rfl))⟩ ?_
  exact AK.met rfl
 rintro σ rfl
 refine tg_ hC [.n 1] rfl ?_
 rcases Qr h with⟨x,h⟩|⟨x,h⟩
 ·refine Qa hC [.T,.n 7,.adopt 6 600 1,.O 600 (.arr 1 (([]:List Int).map Qe)),.S 6 (.own 600 ([]:List Int).length)] rfl ⟨⟨⟨tt_,x⟩,rfl⟩,rfl⟩ ?_
  cases h
  exact d1_ rfl rfl ⟨rfl,tt_⟩
 obtain⟨p,N,h⟩:=Qb h
 refine Qa hC [.F,.n 13,.o (.row (Qh p)),.n 2,.o (.ln p.Ins.length),.n 4,.adopt 7 49 1,.O 49 (.arr 1 (([]:List Int).map Qe)),.S 7 (.own 49 ([]:List Int).length),.K [1,7,24,25,26] [49]] rfl ⟨⟨⟨⟨⟨tt_,x⟩,(QP N)⟩,Qf⟩,rfl⟩,(congrArg (fun n=>V.own 49 n) (by simp))⟩ ?_
 obtain⟨P,A,h⟩:=Qb h
 refine AK.loop (body:=(fun st=>Qhs p t st.1 st.2)) (fun st σ=>σ=⟨[(1,.sl 1 (t.map Qi)),(7,.own 49 st.2.length),(24,.sl 4 (p.Ins.map Q7)),(25,.I (p.Ins.length:Int)),(26,.I st.1)],[(49,.arr 1 (st.2.map Qe))]⟩) (fun q e σ=>e=.exit 0∧σ=⟨[(7,.own 49 q.length)],[(49,.arr 1 (q.map Qe))]⟩) A rfl ?_ ?_
 ·rintro ⟨i,f⟩ o σ rfl h
  refine tg_ hC [.n 6] rfl ?_
  refine bg_ h (fun j h=>Qa hC [.T,.n 2] rfl ⟨tt_,j⟩ ?_) fun j h=>Qa hC [.F,.n 2,.K [7] [49]] rfl ⟨tt_,j⟩ ?_
  ·refine AK.meet (fun σ=>∃s:(List Int),σ=⟨[(1,.sl 1 (t.map Qi)),(7,.own 49 s.length),(24,.sl 4 (p.Ins.map Q7)),(25,.I (p.Ins.length:Int)),(26,.I i)],[(49,.arr 1 (s.map Qe))]⟩∧Qhq i s=some o) ?_ ?_
   ·obtain⟨c,B,h⟩:=Qb h
    refine Qa hC [.n 3,.o (.row (Q7 c)),.v .no [] (.agg (Q7 c)),.n 2,.O 9 (.var (Q7 c)),.n 3] rfl ⟨⟨⟨tt_,(QP B)⟩,rfl⟩,rfl⟩ ?_
    obtain⟨y,D,h⟩:=Qb h
    replace h:Qhr f c i y=some o:=h
    refine AK.meetX (fun σ=>σ=⟨[(1,.sl 1 (t.map Qi)),(7,.own 49 f.length),(9,.loc 9 0 0),(24,.sl 4 (p.Ins.map Q7)),(25,.I (p.Ins.length:Int)),(26,.I i),(48,.b y)],[(9,.var (Q7 c)),(49,.arr 1 (f.map Qe))]⟩) ?_ ?_
    ·replace h:=D
     refine tg_ hC [.n 5] rfl ?_
     refine bg_ h (fun k h=>Qa hC [.S 33 (.b true),.n 3,.o (.ln t.length),.n 3] rfl ⟨(tc_ k),Qf⟩ ?_) fun k h=>Qa hC [.S 33 (.b false),.n 16,.K [1,7,9,24,25,26,48] [9,49]] rfl (tc_ k) ?_
     ·rcases Qr h with⟨l,h⟩|⟨l,h⟩
      ·obtain⟨E,G,h⟩:=Qb h
       refine Qa hC [.S 40 (.b true),.n 3,.o (.row (Qi E)),.n 1,.o (.ln E.length),.n 3,.K [1,7,9,24,25,26,48] [9,49]] rfl ⟨⟨(tc_ l),(QP G)⟩,Qf⟩ ?_
       cases h
       exact AK.met rfl
      refine Qa hC [.S 40 (.b false),.n 9,.K [1,7,9,24,25,26,48] [9,49]] rfl (tc_ l) ?_
      cases h
      exact AK.met rfl
     cases h
     exact AK.met rfl
    rintro σ rfl
    replace h:Qhr f c i y=some o:=h
    refine tg_ hC [.n 1] rfl ?_
    rcases Qr h with⟨m,h⟩|⟨m,h⟩
    ·obtain⟨H,h⟩:=QaX h
     refine Qa hC [.T,.n 4,.v (.bd []) [] (.sl 1 (([c.Place]:List Int).map Qe)),.app ((f++([c.Place]:List Int)).map Qe) (f++([c.Place]:List Int)).length,.n 3,.K [1,7,24,25,26] [49]] rfl ⟨⟨⟨tt_,m⟩,rfl⟩,⟨Qf,QbP H Qf,QaZ,QcP Qf⟩⟩ ?_
     exact AK.met (ex_ _ (an_ rfl h))
    refine Qa hC [.F,.n 2,.K [1,7,24,25,26] [49]] rfl ⟨tt_,m⟩ ?_
    exact AK.met (ex_ _ (an_ rfl h))
   rintro σ ⟨s,rfl,h⟩
   refine tg_ hC [.n 4,.K [1,7,24,25,26] [49]] rfl ?_
   cases h
   exact Q4 rfl rfl
  cases h
  exact Q6 rfl (an_ rfl rfl)
 replace h:Qht P=some r:=h
 rintro e σ ⟨rfl,rfl⟩
 obtain⟨z,J,h⟩:=Qb h
 obtain⟨u,h⟩:=QaX h
 obtain⟨L,M,h⟩:=Qb h
 refine Qa hC [.n 5,.cm (.fn) [(617,49)] [(49,617)] [] [.d] [(617,.arr 1 (z.map Qe))] (.tup []),.S 7 (.own 49 z.length),.S 55 (.own 49 z.length),.n 5,.cm (.fn) [(617,49)] [(49,617)] [] [.d] [(617,.arr 1 (L.map Qe))] (.own 617 L.length),.n 4,.K [6] [49],.ren 49 600] rfl ⟨⟨⟨⟨tt_,(QdH _ J)⟩,(by simp [Q8 u])⟩,(by simp [Q8 u])⟩,(Qh8 _ M)⟩ ?_
 cases h
 exact d1_ rfl rfl ⟨rfl,tt_⟩
def QhT (a:QMk):Option ByteArray:=
 (QgC a).bind fun b=>
 some (Qjj b.1)
theorem QmD (e){r}(h:QhT e=some r):Qc prog 154 [.sl 1 (e.map Qi)] [] (Gives (.s r) []):=by
 refine Qc.walk 12 func154 rfl rfl rfl fun C hC=>?_
 obtain⟨a,b,h⟩:=Qb h
 refine Qa hC [.n 8,.o (.c false [.d] (.tup [.sl 1 (a.1.map QaW),.I a.2])),.n 10,.o (.any (.s (Qjj a.1)) none),.n 4] rfl ⟨⟨tt_,(Qps _ b)⟩,(fun σ f g _=>Stp.b2s rfl rfl (QO hC.n rfl) (f _ _ rfl) rfl QBv QAt (Qp.sb rfl))⟩ ?_
 cases h
 exact d1_ rfl rfl tt_
def Qkb (c:Qj)(b:Ql):Option (QMk×Int):=
 (Qfx c b.Task b.Vars).bind fun d=>
 bif (d.2 != 0)then
 some (([]:List QBg),d.2)
 else
 (idx c.Tasks b.Task).bind fun e=>
 (QdZ c e.Ins b.Ins d.1).bind fun a=>
 some (a.1,a.2)
theorem Qwy (g k){r}(h:Qkb g k=some r):Qc prog 59 [.agg (Qd g),.agg (Qk k)] [] (Gives (.tup [.sl 1 (r.1.map Qi),.I r.2]) []):=by
 refine Qc.walk 34 func59 rfl rfl rfl fun C hC=>?_
 obtain⟨l,i,h⟩:=Qb h
 refine Qa hC [.n 10,.v .no [] (.agg (Qd g)),.n 4,.o (.c false [.d,.d,.d] (.tup [.sl 1 (l.1.map Qe),.I l.2])),.n 14] rfl ⟨⟨tt_,rfl⟩,(Qn6 _ _ _ i)⟩ ?_
 rcases Qr h with⟨b,h⟩|⟨b,h⟩
 ·refine Qa hC [.T,.n 9,.denil 4 [some 1]] rfl ⟨tt_,b⟩ ?_
  cases h
  exact d2_ rfl rfl rfl tt_
 obtain⟨p,j,h⟩:=Qb h
 obtain⟨e,f,h⟩:=Qb h
 refine Qa hC [.F,.n 3,.K [2,3,4,5,6] [2,3]] rfl ⟨tt_,b⟩ ?_
 refine AK.draw2 Qp hC mixed [.a .no (some ([],.agg (Qd g))) false,.N,.N,.N,.N,.a (.row (Qh p)) none false,.N,.N,.N,.N,.N,.a (.c false [.d,.d,.d,.d] (.tup [.sl 1 (e.1.map Qi),.I e.2])) none false,.N,.N,.m .s,.m .s] [] [] [4,5] [] rfl rfl rfl ⟨⟨⟨tt_,rfl⟩,(QP j)⟩,(Qf3 _ _ _ _ f)⟩ rfl (by kernel_rfl) rfl rfl rfl ?_
 refine tg_ hC [.n 2] rfl ?_
 cases h
 exact d2_ rfl rfl rfl tt_
def Qs6 (a:Unit):Option (QBg×Int):=
 some (([]:List (Int×Int)),1)
def Qs7 (a:QBg):Option (QBg×Int):=
 some (([]:List (Int×Int)),1)
def Qs8 (a:QBg):Option (QBg×Int):=
 some (([]:List (Int×Int)),1)
noncomputable def QgF (m16:QBg)(k18:Int)(v19:Int):Option (QBg⊕Empty):=
 some (.inl (Qan ltI m16 k18 (w64 (((QG m16 k18).getD 0)-v19))))
def Qn8 (a:QBg):Option (QBg×Int):=
 (Qem a).bind fun b=>
 some (b,0)
noncomputable def Qn9 (a11:(QBg×QBg)):Option (QBg×Int):=
 (Qeh a11.2 a11.1).bind fun x12=>
 bif (!x12)then
 some (([]:List (Int×Int)),10)
 else
 (QiN (fun st p=>QgF st p.1 p.2) a11.1 a11.2).bind (Sum.elim (fun q=>Qn8 q) (fun q=>Empty.elim q))
def Qb0 (a:QBg)(b:QBg):Option (QBg×Int):=
 (Qky a b).bind (Sum.elim (fun q=>Qs6 q) (Sum.elim (fun q=>Qs7 q) (Sum.elim (fun q=>Qs8 q) (fun q=>Qn9 q))))
theorem Qyh (M N){r}(h:Qb0 M N=some r):Qc prog 61 [.sl 2 (M.map QF),.sl 2 (N.map QF)] [] (Gives (.tup [.sl 2 (r.1.map QF),.I r.2]) []):=by
 refine Qc.walk 40 func61 rfl rfl rfl fun C hC=>?_
 obtain⟨U,u,h⟩:=Qb h
 refine tg_ hC [.n 10] rfl ?_
 rcases U with(W | (O | (D | g)))
 ·replace h:Qs6 W=some r:=h
  refine Qa hC [.cm (.fn) [] [] [] [.d,.d] [] (.tup [.lit (.map none),.lit (.map none),.b false]),.n 28,.denil 4 [some 2]] rfl ⟨tt_,(QbL _ _ u)⟩ ?_
  cases h
  exact d2_ rfl rfl rfl tt_
 ·replace h:Qs7 O=some r:=h
  refine Qa hC [.cm (.fn) [] [(14,603)] [] [.d,.d] [(603,.map (QA V.I V.I O))] (.tup [.lit (.map none),.map 603,.b false]),.n 28,.denil 4 [some 2]] rfl ⟨tt_,(QbL _ _ u)⟩ ?_
  cases h
  exact d2_ rfl rfl rfl tt_
 ·replace h:Qs8 D=some r:=h
  refine Qa hC [.cm (.fn) [] [(14,602)] [] [.d,.d] [(602,.map (QA V.I V.I D))] (.tup [.map 602,.lit (.map none),.b false]),.n 28,.denil 4 [some 2]] rfl ⟨tt_,(QbL _ _ u)⟩ ?_
  cases h
  exact d2_ rfl rfl rfl tt_
 replace h:Qn9 g=some r:=h
 obtain⟨J,E,h⟩:=Qb h
 refine Qa hC [.cm (.fn) [] [(14,602),(610,603)] [] [.d,.d] [(602,.map (QA V.I V.I g.1)),(603,.map (QA V.I V.I g.2))] (.tup [.map 602,.map 603,.b true]),.n 23,.cm (.fn) [(617,610),(618,14)] [(610,617),(14,618)] [] [.d,.d] [(617,.map (QA V.I V.I g.2)),(618,.map (QA V.I V.I g.1))] (.b J),.n 4] rfl ⟨⟨tt_,(QbL _ _ u)⟩,(Qll _ _ E)⟩ ?_
 refine bg_ h (fun i h=>Qa hC [.T,.n 9,.denil 4 [some 2],.K [4,5] []] rfl ⟨tt_,i⟩ ?_) fun i h=>Qa hC [.F,.n 7] rfl ⟨tt_,i⟩ ?_
 ·cases h
  exact d2_ rfl rfl rfl tt_
 refine AK.openMap (b:=610) Qdg rfl fun j s L14 y A=>?_
 refine Qa hC [.x (fun σ=>(σ.set 27 (.itr j s #[] none)).put 27 (.loc 27 0 0)),.n 3,.K [6,27] [14,27,610]] rfl ⟨tt_,(Stp.range (b:=610) rfl rfl (QO hC.n rfl) rfl rfl QeN rfl)⟩ ?_
 obtain⟨L,G,h⟩:=Qb h
 refine AK.range (body:=(fun st p=>QgF st p.1 p.2)) (fun st seen σ=>∃cur:Option MapEntry,σ=⟨[(6,.map 14),(27,.loc 27 0 0)],[(14,.map (QA V.I V.I st)),(27,.itr j s seen cur),(610,.mapX j s (QhG V.I V.I L14) (QA V.I V.I g.2))]⟩) (fun (q:Empty) _ _=>False) (fun st e σ=>e=.exit 1∧σ=⟨[(6,.map 14)],[(14,.map (QA V.I V.I st))]⟩) y A G (ex_ _ rfl) ?_ ?_
 ·rintro a seen σ ⟨cur,rfl⟩ hex
  refine tg_ hC [.n 2] rfl ?_
  refine AK.nextT (b:=27) (m:=610) rfl rfl rfl (QO hC.n rfl) rfl rfl rfl rfl ?_ ?_
  ·intro hleft
   refine tg_ hC [.n 7,.K [6] [14]] rfl ?_
   exact AK.done (Or.inl (an_ hleft (an_ (fun h=>(by cases h)) (an_ rfl rfl))))
  intro P c w t
  obtain⟨o,h⟩:=hex _ t
  have ho:=h
  replace h:QgF a c w=some o:=h
  refine Qa hC [.n 10,.x (fun σ=>σ.put 30 (.tup [.I c,.I w])),.n 9,.o (.any (.I ((QG a c).getD 0)) none),.n 2,.x (fun σ=>σ.set 14 (.map (QA V.I V.I (Qan ltI a c (w64 (((QG a c).getD 0)-w)))))),.n 2,.K [6,27] [14,27,610]] rfl ⟨⟨⟨tt_,(Stp.entryT (b:=27) (m:=610) rfl rfl (QO hC.n rfl) rfl t rfl rfl)⟩,(fun σ S X _=>Stp.lookup (e:=V.I) (f:=V.I) (l:=a) (k:=c) (z:=0) rfl rfl (QO hC.n rfl) (S _ _ rfl) (X _ _ rfl) (S _ _ rfl) QeN Qdg QkZ rfl)⟩,(Stp.mapUpdate (e:=V.I) (f:=V.I) (l:=a) (k:=c) (v:=(w64 (((QG a c).getD 0)-w))) ltI rfl rfl rfl rfl rfl rfl QeN Qdg rfl)⟩ ?_
  cases h
  exact AK.done (Or.inr (ex_ _ (an_ t (Or.inl (ex_ _ (an_ ho (an_ rfl (ex_ _ rfl))))))))
 rcases L with(a | q)
 ·replace h:Qn8 a=some r:=h
  rintro e σ ⟨rfl,rfl⟩
  obtain⟨B,H,h⟩:=Qb h
  refine Qa hC [.n 5,.cm (.fn) [(617,14)] [(39,600),(14,617)] [] [.d] [(600,.arr 2 (B.map QF)),(617,.map (QA V.I V.I a))] (.own 600 B.length),.n 5,.frz 39 (B.map QF) [4] []] rfl ⟨⟨tt_,(Qi8 _ H)⟩,⟨tt_,(Qb7 Qf)⟩⟩ ?_
  cases h
  exact d2_ rfl rfl rfl tt_
 exact q.elim
def Qes (f:QMk)(g:QMk)(c:Int)(a:QMk):Option ((Int×QMk)⊕(Int⊕QMk)):=
 bif (decide (c<((List.replicate (min2 (f.length:Int) (g.length:Int)).toNat (([]:QBg):QBg)).length:Int)))then
 (idx f c).bind fun d=>
 (idx g c).bind fun e=>
 (Qb0 d e).bind fun b=>
 (idx a c).bind fun h=>
 bif (b.2 != 0)then
 some (.inr (.inl b.2))
 else
 some (.inl ((w64 (c+1)),(a.set c.toNat b.1)))
 else
 some (.inr (.inr a))
def QpC (a:Int):Option (QMk×Int):=
 some (([]:List QBg),a)
def QpD (a:QMk):Option (QMk×Int):=
 some (a,0)
def Qfi (a:QMk)(b:QMk):Option (QMk×Int):=
 (chk (decide (0≤(min2 (a.length:Int) (b.length:Int)))&&decide ((min2 (a.length:Int) (b.length:Int))≤(min2 (a.length:Int) (b.length:Int)))&&decide ((min2 (a.length:Int) (b.length:Int))≤4294967296))).bind fun _=>
 (QK (fun st=>Qes a b st.1 st.2) (0,(List.replicate (min2 (a.length:Int) (b.length:Int)).toNat (([]:QBg):QBg)))).bind (Sum.elim (fun q=>QpC q) (fun q=>QpD q))
theorem QvG (k l){r}(h:Qfi k l=some r):Qc prog 60 [.sl 1 (k.map Qi),.sl 1 (l.map Qi),.clo (.func 61) [] []] [] (Gives (.tup [.sl 1 (r.1.map Qi),.I r.2]) []):=by
 refine Qc.walk 43 func60 rfl rfl rfl fun C hC=>?_
 obtain⟨A,h⟩:=QaX h
 refine Qa hC [.n 9,.o (.ln k.length),.n 1,.o (.ln l.length),.n 1,.o (.rows (List.replicate (min2 (k.length:Int) (l.length:Int)).toNat [.lit (.slice none 0 0)]))] rfl ⟨⟨⟨tt_,Qf⟩,Qf⟩,⟨A,rfl⟩⟩ ?_
 refine AK.denilA (b:=16) [some 2] rfl (Qy3 (f:=Qi) (x:=([]:QBg)) rfl) ?_
 refine Qa hC [.S 16 (.own 16 (List.replicate (min2 (k.length:Int) (l.length:Int)).toNat (([]:QBg):QBg)).length),.n 12,.K [0,1,2,8,18,19] [16]] rfl ⟨tt_,(by simp)⟩ ?_
 obtain⟨B,t,h⟩:=Qb h
 refine AK.loop (body:=(fun st=>Qes k l st.1 st.2)) (fun st σ=>σ=⟨[(0,.sl 1 (k.map Qi)),(1,.sl 1 (l.map Qi)),(2,.clo (.func 61) [] []),(8,.own 16 st.2.length),(18,.I ((List.replicate (min2 (k.length:Int) (l.length:Int)).toNat (([]:QBg):QBg)).length:Int)),(19,.I st.1)],[(16,.arr 1 (st.2.map Qi))]⟩) (Sum.elim (fun q e σ=>e=.ret∧σ=⟨[(6,.lit (.slice none 0 0)),(7,.I q)],[]⟩) (fun q e σ=>e=.exit 0∧σ=⟨[(8,.own 16 q.length)],[(16,.arr 1 (q.map Qi))]⟩)) t rfl ?_ ?_
 ·rintro ⟨J,u⟩ o σ rfl h
  refine tg_ hC [.n 6] rfl ?_
  rcases Qr h with⟨g,h⟩|⟨g,h⟩
  ·obtain⟨D,v,h⟩:=Qb h
   obtain⟨E,w,h⟩:=Qb h
   obtain⟨j,y,h⟩:=Qb h
   obtain⟨G,p,h⟩:=Qb h
   refine Qa hC [.T,.n 16,.K [0,1,2,8,9,10,18,19] [16]] rfl ⟨tt_,g⟩ ?_
   refine AK.draw2 Qp hC mixed [.N,.N,.N,.N,.N,.a (.row (Qi D)) none false,.N,.N,.N,.a (.row (Qi E)) none false,.N,.a (.c false [.d,.d] (.tup [.sl 2 (j.1.map QF),.I j.2])) none false,.a .no none true true,.N,.a .no none true,.N,.m (.st (Qi G) ((u.set J.toNat j.1).map Qi)),.m .s] [0,1,2,8,9,10,18,19] [] [0,1,2,8,10,18,19] [16] rfl rfl rfl ⟨⟨⟨⟨⟨tt_,(QP v)⟩,(QP w)⟩,(Qyh _ _ y)⟩,(Qda p rfl)⟩,⟨(QbV (QdE p).2),Qme rfl⟩⟩ rfl (by kernel_rfl) rfl rfl rfl ?_
   refine tg_ hC [.n 7] rfl ?_
   refine bg_ h (fun i h=>Qa hC [.T,.n 10,.K [6,7] []] rfl ⟨tt_,i⟩ ?_) fun i h=>Qa hC [.F,.n 7,.S 8 (.own 16 (u.set J.toNat j.1).length),.K [0,1,2,8,18,19] [16]] rfl ⟨⟨tt_,i⟩,(congrArg (fun n=>V.own 16 n) (by simp))⟩ ?_
   ·cases h
    exact Qar rfl (an_ rfl rfl)
   cases h
   exact Q4 rfl rfl
  refine Qa hC [.F,.n 2,.K [8] [16]] rfl ⟨tt_,g⟩ ?_
  cases h
  exact Q6 rfl (an_ rfl rfl)
 rcases B with(H | z)
 ·replace h:QpC H=some r:=h
  rintro e σ ⟨rfl,rfl⟩
  refine tg_ hC [.n 2,.denil 6 [some 1]] rfl ?_
  cases h
  exact d2_ rfl rfl rfl tt_
 replace h:QpD z=some r:=h
 rintro e σ ⟨rfl,rfl⟩
 refine Qa hC [.n 10,.frz 16 (z.map Qi) [6] []] rfl ⟨tt_,⟨tt_,(Qb7 Qf)⟩⟩ ?_
 cases h
 exact d2_ rfl rfl rfl tt_
def Qg9 (c:Qj)(d:QMk)(e:Ql):Option (QMk×Int):=
 (QcI c d e).bind fun f=>
 bif (f != 0)then
 some (([]:List QBg),f)
 else
 (Qkb c e).bind fun a=>
 bif (a.2 != 0)then
 some (([]:List QBg),a.2)
 else
 (Qfi d a.1).bind fun b=>
 some (b.1,b.2)
theorem Qxr (j m k){r}(h:Qg9 j m k=some r):Qc prog 32 [.agg (Qd j),.sl 1 (m.map Qi),.agg (Qk k)] [] (Gives (.tup [.sl 1 (r.1.map Qi),.I r.2]) []):=by
 refine Qc.walk 32 func32 rfl rfl rfl fun C hC=>?_
 obtain⟨p,l,h⟩:=Qb h
 refine Qa hC [.n 11,.v .no [] (.agg (Qd j)),.n 1,.v .no [] (.agg (Qk k)),.o (.c false [.d,.d,.d] (.I p)),.n 9] rfl ⟨⟨⟨tt_,rfl⟩,rfl⟩,(QqD _ _ _ l)⟩ ?_
 rcases Qr h with⟨b,h⟩|⟨b,h⟩
 ·refine Qa hC [.T,.n 9,.denil 6 [some 1]] rfl ⟨tt_,b⟩ ?_
  cases h
  exact d2_ rfl rfl rfl tt_
 obtain⟨e,f,h⟩:=Qb h
 refine Qa hC [.F,.n 4,.v .no [] (.agg (Qd j)),.v .no [] (.agg (Qk k)),.o (.c false [.d,.d] (.tup [.sl 1 (e.1.map Qi),.I e.2])),.n 14] rfl ⟨⟨⟨⟨tt_,b⟩,rfl⟩,rfl⟩,(Qwy _ _ f)⟩ ?_
 rcases Qr h with⟨a,h⟩|⟨a,h⟩
 ·refine Qa hC [.T,.n 9,.denil 6 [some 1]] rfl ⟨tt_,a⟩ ?_
  cases h
  exact d2_ rfl rfl rfl tt_
 obtain⟨g,i,h⟩:=Qb h
 refine Qa hC [.F,.n 6,.cm (.fn) [] [] [] [.d,.d,.d] [] (.tup [.sl 1 (g.1.map Qi),.I g.2]),.n 7] rfl ⟨⟨tt_,a⟩,(QvG _ _ i)⟩ ?_
 cases h
 exact d2_ rfl rfl rfl tt_
def QmE (c:Qj)(b:Ql):Option (QMk×Int):=
 (Qfx c b.Task b.Vars).bind fun d=>
 bif (d.2 != 0)then
 some (([]:List QBg),d.2)
 else
 (idx c.Tasks b.Task).bind fun e=>
 (QdZ c e.Outs b.Outs d.1).bind fun a=>
 some (a.1,a.2)
theorem Qwz (g k){r}(h:QmE g k=some r):Qc prog 62 [.agg (Qd g),.agg (Qk k)] [] (Gives (.tup [.sl 1 (r.1.map Qi),.I r.2]) []):=by
 refine Qc.walk 34 func62 rfl rfl rfl fun C hC=>?_
 obtain⟨l,i,h⟩:=Qb h
 refine Qa hC [.n 10,.v .no [] (.agg (Qd g)),.n 4,.o (.c false [.d,.d,.d] (.tup [.sl 1 (l.1.map Qe),.I l.2])),.n 14] rfl ⟨⟨tt_,rfl⟩,(Qn6 _ _ _ i)⟩ ?_
 rcases Qr h with⟨b,h⟩|⟨b,h⟩
 ·refine Qa hC [.T,.n 9,.denil 4 [some 1]] rfl ⟨tt_,b⟩ ?_
  cases h
  exact d2_ rfl rfl rfl tt_
 obtain⟨p,j,h⟩:=Qb h
 obtain⟨e,f,h⟩:=Qb h
 refine Qa hC [.F,.n 3,.K [2,3,4,5,6] [2,3]] rfl ⟨tt_,b⟩ ?_
 refine AK.draw2 Qp hC mixed [.a .no (some ([],.agg (Qd g))) false,.N,.N,.N,.N,.a (.row (Qh p)) none false,.N,.N,.N,.N,.N,.a (.c false [.d,.d,.d,.d] (.tup [.sl 1 (e.1.map Qi),.I e.2])) none false,.N,.N,.m .s,.m .s] [] [] [4,5] [] rfl rfl rfl ⟨⟨⟨tt_,rfl⟩,(QP j)⟩,(Qf3 _ _ _ _ f)⟩ rfl (by kernel_rfl) rfl rfl rfl ?_
 refine tg_ hC [.n 2] rfl ?_
 cases h
 exact d2_ rfl rfl rfl tt_
def Qc2 (f:QMk)(g:QMk)(c:Int)(a:QMk):Option ((Int×QMk)⊕(Int⊕QMk)):=
 bif (decide (c<((List.replicate (min2 (f.length:Int) (g.length:Int)).toNat (([]:QBg):QBg)).length:Int)))then
 (idx f c).bind fun d=>
 (idx g c).bind fun e=>
 (QbH d e).bind fun b=>
 (idx a c).bind fun h=>
 bif (b.2 != 0)then
 some (.inr (.inl b.2))
 else
 some (.inl ((w64 (c+1)),(a.set c.toNat b.1)))
 else
 some (.inr (.inr a))
def Qm5 (a:Int):Option (QMk×Int):=
 some (([]:List QBg),a)
def Qm6 (a:QMk):Option (QMk×Int):=
 some (a,0)
def Qet (a:QMk)(b:QMk):Option (QMk×Int):=
 (chk (decide (0≤(min2 (a.length:Int) (b.length:Int)))&&decide ((min2 (a.length:Int) (b.length:Int))≤(min2 (a.length:Int) (b.length:Int)))&&decide ((min2 (a.length:Int) (b.length:Int))≤4294967296))).bind fun _=>
 (QK (fun st=>Qc2 a b st.1 st.2) (0,(List.replicate (min2 (a.length:Int) (b.length:Int)).toNat (([]:QBg):QBg)))).bind (Sum.elim (fun q=>Qm5 q) (fun q=>Qm6 q))
theorem Qtc (k l){r}(h:Qet k l=some r):Qc prog 60 [.sl 1 (k.map Qi),.sl 1 (l.map Qi),.clo (.func 43) [] []] [] (Gives (.tup [.sl 1 (r.1.map Qi),.I r.2]) []):=by
 refine Qc.walk 43 func60 rfl rfl rfl fun C hC=>?_
 obtain⟨A,h⟩:=QaX h
 refine Qa hC [.n 9,.o (.ln k.length),.n 1,.o (.ln l.length),.n 1,.o (.rows (List.replicate (min2 (k.length:Int) (l.length:Int)).toNat [.lit (.slice none 0 0)]))] rfl ⟨⟨⟨tt_,Qf⟩,Qf⟩,⟨A,rfl⟩⟩ ?_
 refine AK.denilA (b:=16) [some 2] rfl (Qy3 (f:=Qi) (x:=([]:QBg)) rfl) ?_
 refine Qa hC [.S 16 (.own 16 (List.replicate (min2 (k.length:Int) (l.length:Int)).toNat (([]:QBg):QBg)).length),.n 12,.K [0,1,2,8,18,19] [16]] rfl ⟨tt_,(by simp)⟩ ?_
 obtain⟨B,t,h⟩:=Qb h
 refine AK.loop (body:=(fun st=>Qc2 k l st.1 st.2)) (fun st σ=>σ=⟨[(0,.sl 1 (k.map Qi)),(1,.sl 1 (l.map Qi)),(2,.clo (.func 43) [] []),(8,.own 16 st.2.length),(18,.I ((List.replicate (min2 (k.length:Int) (l.length:Int)).toNat (([]:QBg):QBg)).length:Int)),(19,.I st.1)],[(16,.arr 1 (st.2.map Qi))]⟩) (Sum.elim (fun q e σ=>e=.ret∧σ=⟨[(6,.lit (.slice none 0 0)),(7,.I q)],[]⟩) (fun q e σ=>e=.exit 0∧σ=⟨[(8,.own 16 q.length)],[(16,.arr 1 (q.map Qi))]⟩)) t rfl ?_ ?_
 ·rintro ⟨J,u⟩ o σ rfl h
  refine tg_ hC [.n 6] rfl ?_
  rcases Qr h with⟨g,h⟩|⟨g,h⟩
  ·obtain⟨D,v,h⟩:=Qb h
   obtain⟨E,w,h⟩:=Qb h
   obtain⟨j,y,h⟩:=Qb h
   obtain⟨G,p,h⟩:=Qb h
   refine Qa hC [.T,.n 16,.K [0,1,2,8,9,10,18,19] [16]] rfl ⟨tt_,g⟩ ?_
   refine AK.draw2 Qp hC mixed [.N,.N,.N,.N,.N,.a (.row (Qi D)) none false,.N,.N,.N,.a (.row (Qi E)) none false,.N,.a (.c false [.d,.d] (.tup [.sl 2 (j.1.map QF),.I j.2])) none false,.a .no none true true,.N,.a .no none true,.N,.m (.st (Qi G) ((u.set J.toNat j.1).map Qi)),.m .s] [0,1,2,8,9,10,18,19] [] [0,1,2,8,10,18,19] [16] rfl rfl rfl ⟨⟨⟨⟨⟨tt_,(QP v)⟩,(QP w)⟩,(Qpj _ _ y)⟩,(Qda p rfl)⟩,⟨(QbV (QdE p).2),Qme rfl⟩⟩ rfl (by kernel_rfl) rfl rfl rfl ?_
   refine tg_ hC [.n 7] rfl ?_
   refine bg_ h (fun i h=>Qa hC [.T,.n 10,.K [6,7] []] rfl ⟨tt_,i⟩ ?_) fun i h=>Qa hC [.F,.n 7,.S 8 (.own 16 (u.set J.toNat j.1).length),.K [0,1,2,8,18,19] [16]] rfl ⟨⟨tt_,i⟩,(congrArg (fun n=>V.own 16 n) (by simp))⟩ ?_
   ·cases h
    exact Qar rfl (an_ rfl rfl)
   cases h
   exact Q4 rfl rfl
  refine Qa hC [.F,.n 2,.K [8] [16]] rfl ⟨tt_,g⟩ ?_
  cases h
  exact Q6 rfl (an_ rfl rfl)
 rcases B with(H | z)
 ·replace h:Qm5 H=some r:=h
  rintro e σ ⟨rfl,rfl⟩
  refine tg_ hC [.n 2,.denil 6 [some 1]] rfl ?_
  cases h
  exact d2_ rfl rfl rfl tt_
 replace h:Qm6 z=some r:=h
 rintro e σ ⟨rfl,rfl⟩
 refine Qa hC [.n 10,.frz 16 (z.map Qi) [6] []] rfl ⟨tt_,⟨tt_,(Qb7 Qf)⟩⟩ ?_
 cases h
 exact d2_ rfl rfl rfl tt_
def Qeu (a:Int)(b:QMk):Option ((Int×QMk)⊕QMk):=
 some (.inl ((w64 (a+1)),b))
def QfQ (d:QD)(b:Int)(a:QMk):Option ((Int×QMk)⊕QMk):=
 bif (decide (b<(d.Cancel.length:Int)))then
 (idx d.Cancel b).bind fun c=>
 bif ((decide (0≤c))&&(decide (c<(a.length:Int))))then
 (idx a c).bind fun e=>
 Qeu b (a.set c.toNat ([]:List (Int×Int)))
 else
 Qeu b a
 else
 some (.inr a)
def QfR (c:(QMk×Int))(b:QMk):Option (QMk×Int):=
 (Qet b c.1).bind fun a=>
 some (a.1,a.2)
def Qha (d:Qj)(f:QMk)(e:Ql):Option (QMk×Int):=
 (QmE d e).bind fun a=>
 bif (a.2 != 0)then
 some (([]:List QBg),a.2)
 else
 (QiZ f).bind fun b=>
 (idx d.Tasks e.Task).bind fun c=>
 (QK (fun st=>QfQ c st.1 st.2) (0,b)).bind (fun q=>QfR a q)
theorem Qxs (G M H){r}(h:Qha G M H=some r):Qc prog 33 [.agg (Qd G),.sl 1 (M.map Qi),.agg (Qk H)] [] (Gives (.tup [.sl 1 (r.1.map Qi),.I r.2]) []):=by
 refine Qc.walk 53 func33 rfl rfl rfl fun C hC=>?_
 obtain⟨p,J,h⟩:=Qb h
 refine Qa hC [.n 10,.v .no [] (.agg (Qd G)),.v .no [] (.agg (Qk H)),.o (.c false [.d,.d] (.tup [.sl 1 (p.1.map Qi),.I p.2])),.n 14] rfl ⟨⟨⟨tt_,rfl⟩,rfl⟩,(Qwz _ _ J)⟩ ?_
 rcases Qr h with⟨s,h⟩|⟨s,h⟩
 ·refine Qa hC [.T,.n 9,.denil 6 [some 1]] rfl ⟨tt_,s⟩ ?_
  cases h
  exact d2_ rfl rfl rfl tt_
 obtain⟨u,w,h⟩:=Qb h
 obtain⟨f,y,h⟩:=Qb h
 refine Qa hC [.F,.n 5,.o (.co false [.d] 1 (u.map Qi) u.length),.n 10,.o (.row (Qh f)),.n 2,.o (.ln f.Cancel.length),.n 4,.K [8,10,30,31,32] [23]] rfl ⟨⟨⟨⟨tt_,s⟩,⟨(Qnd _ w),Qf,.inl rfl⟩⟩,(QP y)⟩,Qf⟩ ?_
 obtain⟨z,A,h⟩:=Qb h
 refine AK.loop (body:=(fun st=>QfQ f st.1 st.2)) (fun st σ=>σ=⟨[(8,.sl 1 (p.1.map Qi)),(10,.own 23 st.2.length),(30,.sl 1 (f.Cancel.map Qe)),(31,.I (f.Cancel.length:Int)),(32,.I st.1)],[(23,.arr 1 (st.2.map Qi))]⟩) (fun q e σ=>e=.exit 0∧σ=⟨[(8,.sl 1 (p.1.map Qi)),(10,.own 23 q.length)],[(23,.arr 1 (q.map Qi))]⟩) A rfl ?_ ?_
 ·rintro ⟨t,i⟩ o σ rfl h
  refine tg_ hC [.n 6] rfl ?_
  refine bg_ h (fun j h=>Qa hC [.T,.n 2] rfl ⟨tt_,j⟩ ?_) fun j h=>Qa hC [.F,.n 2,.K [8,10] [23]] rfl ⟨tt_,j⟩ ?_
  ·refine AK.meet (fun σ=>∃l:QMk,σ=⟨[(8,.sl 1 (p.1.map Qi)),(10,.own 23 l.length),(30,.sl 1 (f.Cancel.map Qe)),(31,.I (f.Cancel.length:Int)),(32,.I t)],[(23,.arr 1 (l.map Qi))]⟩∧Qeu t l=some o) ?_ ?_
   ·obtain⟨a,B,h⟩:=Qb h
    refine Qa hC [.n 3,.o (.row (Qe a)),.n 5] rfl ⟨tt_,(QP B)⟩ ?_
    refine AK.meetX (fun σ=>σ=⟨[(8,.sl 1 (p.1.map Qi)),(10,.own 23 i.length),(12,.I a),(30,.sl 1 (f.Cancel.map Qe)),(31,.I (f.Cancel.length:Int)),(32,.I t),(43,.b ((decide (0≤a))&&(decide (a<(i.length:Int)))))],[(23,.arr 1 (i.map Qi))]⟩) ?_ ?_
    ·refine tg_ hC [.n 4] rfl ?_
     rcases Q3 (decide (0≤a))with g | g
     ·refine Qa hC [.S 38 (.b true),.n 6,.S 43 (.b ((decide (0≤a))&&(decide (a<(i.length:Int))))),.K [8,10,12,30,31,32,43] [23]] rfl ⟨(tc_ g),(congrArg V.b (Qb6 g rfl))⟩ ?_
      exact AK.met rfl
     refine Qa hC [.S 38 (.b false),.n 6,.S 43 (.b ((decide (0≤a))&&(decide (a<(i.length:Int))))),.K [8,10,12,30,31,32,43] [23]] rfl ⟨(tc_ g),(congrArg V.b (Qd2 g rfl))⟩ ?_
     exact AK.met rfl
    rintro σ rfl
    refine tg_ hC [.n 1] rfl ?_
    rcases Qr h with⟨k,h⟩|⟨k,h⟩
    ·obtain⟨L,m,h⟩:=Qb h
     refine Qa hC [.T,.n 4,.x (fun σ=>σ.set 23 (.arr 1 ((i.set a.toNat ([]:List (Int×Int))).map Qi))),.n 2,.S 10 (.own 23 (i.set a.toNat ([]:List (Int×Int))).length),.K [8,10,30,31,32] [23]] rfl ⟨⟨⟨⟨tt_,k⟩,(Qda m rfl)⟩,(Stp.storeNil (zz:=2) (r:=Qi L) rfl rfl rfl rfl (QbV (QdE m).2) rfl (Qp.sz rfl) rfl (Qme rfl))⟩,(congrArg (fun n=>V.own 23 n) (by simp))⟩ ?_
     exact AK.met (ex_ _ (an_ rfl h))
    refine Qa hC [.F,.n 2,.K [8,10,30,31,32] [23]] rfl ⟨tt_,k⟩ ?_
    exact AK.met (ex_ _ (an_ rfl h))
   rintro σ ⟨l,rfl,h⟩
   refine tg_ hC [.n 4,.K [8,10,30,31,32] [23]] rfl ?_
   cases h
   exact Q4 rfl rfl
  cases h
  exact Q6 rfl (an_ rfl rfl)
 replace h:QfR p z=some r:=h
 rintro e σ ⟨rfl,rfl⟩
 obtain⟨D,E,h⟩:=Qb h
 refine Qa hC [.n 6,.frz 23 (z.map Qi) [10,48] [],.cm (.fn) [] [] [] [.d,.d,.d] [] (.tup [.sl 1 (D.1.map Qi),.I D.2]),.n 7] rfl ⟨⟨tt_,⟨⟨tt_,(Qb7 Qf)⟩,(Qb7 Qf)⟩⟩,(Qtc _ _ E)⟩ ?_
 cases h
 exact d2_ rfl rfl rfl tt_
def QaE (c:Qj)(e:QMk)(d:Ql):Option (QMk×Int):=
 (Qg9 c e d).bind fun b=>
 bif (b.2 != 0)then
 some (([]:List QBg),b.2)
 else
 (Qha c b.1 d).bind fun a=>
 some (a.1,a.2)
theorem Qt2 (f j g){r}(h:QaE f j g=some r):Qc prog 13 [.agg (Qd f),.sl 1 (j.map Qi),.agg (Qk g)] [] (Gives (.tup [.sl 1 (r.1.map Qi),.I r.2]) []):=by
 refine Qc.walk 26 func13 rfl rfl rfl fun C hC=>?_
 obtain⟨k,i,h⟩:=Qb h
 refine Qa hC [.n 10,.v .no [] (.agg (Qd f)),.n 1,.v .no [] (.agg (Qk g)),.o (.c false [.d,.d,.d] (.tup [.sl 1 (k.1.map Qi),.I k.2])),.n 14] rfl ⟨⟨⟨tt_,rfl⟩,rfl⟩,(Qxr _ _ _ i)⟩ ?_
 rcases Qr h with⟨a,h⟩|⟨a,h⟩
 ·refine Qa hC [.T,.n 9,.denil 6 [some 1]] rfl ⟨tt_,a⟩ ?_
  cases h
  exact d2_ rfl rfl rfl tt_
 obtain⟨b,e,h⟩:=Qb h
 refine Qa hC [.F,.n 4,.v .no [] (.agg (Qd f)),.n 1,.v .no [] (.agg (Qk g)),.o (.c false [.d,.d,.d] (.tup [.sl 1 (b.1.map Qi),.I b.2])),.n 7] rfl ⟨⟨⟨⟨tt_,a⟩,rfl⟩,rfl⟩,(Qxs _ _ _ e)⟩ ?_
 cases h
 exact d2_ rfl rfl rfl tt_
def QdV (a:Int)(b:QSB)(c:(List QMk)):Option ((Int×QSB×(List QMk))⊕((List QMk)⊕(QSB×(List QMk)))):=
 some (.inl ((w64 (a+1)),b,c))
def Qk5 (a:(QMk×Int))(b:QSB):Option Bool:=
 bif (a.2 != 0)then
 some true
 else
 (QhT a.1).bind fun c=>
 some ((QG b c).getD false)
def Qfm (d:Int)(e:QSB)(a:(List QMk))(b:Int)(c:(QMk×Int))(f:Bool):Option ((Int×QSB×(List QMk))⊕((List QMk)⊕(QSB×(List QMk)))):=
 bif f then
 QdV d e a
 else
 bif ((a.length:Int)==(min2 (max2 0 b) 4096))then
 some (.inr (.inl a))
 else
 (QhT c.1).bind fun g=>
 (chk (decide (a.length+([c.1]:List QMk).length≤4294967296))).bind fun _=>
 QdV d (Qan ltS e g true) (a++([c.1]:List QMk))
def Qfn (f:(List Ql))(a:Int)(at_13:Int)(k:Qj)(b:Int)(c:Int)(d:QSB)(e:(List QMk)):Option ((Int×QSB×(List QMk))⊕((List QMk)⊕(QSB×(List QMk)))):=
 bif (decide (c<(f.length:Int)))then
 (idx f c).bind fun g=>
 bif (g.Task==a)then
 QdV c d e
 else
 (idx e at_13).bind fun i=>
 (QaE k i g).bind fun h=>
 (Qk5 h d).bind (fun j=>Qfm c d e b h j)
 else
 some (.inr (.inr (d,e)))
def Qhu (a:(List QMk)):Option ((Int×QSB×(List QMk))⊕((List QMk)⊕(List QMk))):=
 some (.inr (.inl a))
def Qhv (at_13:Int)(a:QSB)(b:(List QMk)):Option ((Int×QSB×(List QMk))⊕((List QMk)⊕(List QMk))):=
 some (.inl ((w64 (at_13+1)),a,b))
def Qfo (g:Qj)(a:Int)(b:Int)(at_13:Int)(d:QSB)(c:(List QMk)):Option ((Int×QSB×(List QMk))⊕((List QMk)⊕(List QMk))):=
 bif (decide (at_13<(c.length:Int)))then
 (idx c at_13).bind fun e=>
 (QkD g e 9223372036854775807).bind fun f=>
 (QK (fun st=>Qfn f a at_13 g b st.1 st.2.1 st.2.2) (0,d,c)).bind (Sum.elim (fun q=>Qhu q) (fun q=>Qhv at_13 q.1 q.2))
 else
 some (.inr (.inr c))
def Qox (a:(List QMk)):Option ((List QMk)×Bool):=
 some (a,false)
def Qoy (a:(List QMk)):Option ((List QMk)×Bool):=
 some (a,true)
def QkE (f:Qj)(e:QMk)(b:Int)(a:Int):Option ((List QMk)×Bool):=
 bif ((min2 (max2 0 a) 4096)==0)then
 some (([]:List QMk),false)
 else
 (QhT e).bind fun c=>
 (QiZ e).bind fun d=>
 (QK (fun st=>Qfo f b a st.1 st.2.1 st.2.2) (0,(Qan ltS ([]:QSB) c true),([d]:List QMk))).bind (Sum.elim (fun q=>Qox q) (fun q=>Qoy q))
theorem QuT (u m2 i g){r}(h:QkE u m2 i g=some r):Qc prog 104 [.agg (Qd u),.sl 1 (m2.map Qi),.I i,.I g] [] (Gives (.tup [.sl 1 (r.1.map Qt),.b r.2]) []):=by
 refine Qc.walk 83 func104 rfl rfl rfl fun C hC=>?_
 refine tg_ hC [.n 22] rfl ?_
 rcases Qr h with⟨W,h⟩|⟨W,h⟩
 ·refine Qa hC [.T,.n 8,.denil 8 [some 1]] rfl ⟨tt_,W⟩ ?_
  cases h
  exact d2_ rfl rfl rfl tt_
 obtain⟨X,a2,h⟩:=Qb h
 obtain⟨w,a3,h⟩:=Qb h
 refine Qa hC [.F,.n 5,.O 23 (.map (QA V.s V.b ([]:QSB))),.n 1,.o (.c false [.d] (.s X)),.x (fun σ=>σ.set 23 (.map (QA V.s V.b (Qan ltS ([]:QSB) X true)))),.n 7,.o (.co false [.d] 1 (w.map Qi) w.length),.frz 28 (w.map Qi) [28] [],.n 1,.O 29 (.arr 1 (([w]:List QMk).map Qt)),.S 29 (.own 29 ([w]:List QMk).length),.n 10,.K [2,4,10,11,12,13] [4,23,29]] rfl ⟨⟨⟨⟨⟨⟨⟨⟨tt_,W⟩,rfl⟩,(QmD _ a2)⟩,(Stp.insert (e:=V.s) (f:=V.b) (l:=([]:QSB)) (k:=X) (v:=true) ltS rfl rfl rfl rfl rfl rfl Qpg QsC rfl)⟩,⟨(Qnd _ a3),Qf,.inl rfl⟩⟩,⟨tt_,(Qb7 Qf)⟩⟩,rfl⟩,rfl⟩ ?_
 obtain⟨b4,a4,h⟩:=Qb h
 refine AK.loop (body:=(fun st=>Qfo u i g st.1 st.2.1 st.2.2)) (fun st σ=>σ=⟨[(2,.I i),(4,.loc 4 0 0),(10,.I (min2 (max2 0 g) 4096)),(11,.map 23),(12,.own 29 st.2.2.length),(13,.I st.1)],[(4,.var (Qd u)),(23,.map (QA V.s V.b st.2.1)),(29,.arr 1 (st.2.2.map Qt))]⟩) (Sum.elim (fun q e σ=>e=.ret∧σ=⟨[(8,.own 29 q.length),(9,.b false)],[(29,.arr 1 (q.map Qt))]⟩) (fun q e σ=>e=.exit 0∧σ=⟨[(12,.own 29 q.length)],[(29,.arr 1 (q.map Qt))]⟩)) a4 rfl ?_ ?_
 ·rintro ⟨at_13,c1,c2⟩ o σ rfl h
  refine tg_ hC [.n 9] rfl ?_
  rcases Qr h with⟨y,h⟩|⟨y,h⟩
  ·obtain⟨b5,M,h⟩:=Qb h
   obtain⟨j,a5,h⟩:=Qb h
   refine Qa hC [.T,.n 5,.K [2,4,10,11,12,13] [4,23,29]] rfl ⟨tt_,y⟩ ?_
   refine AK.draw2 Qp hC mixed [.a .no (some ([],.agg (Qd u))) false,.N,.N,.N,.a (.row (Qt b5)) none false,.a (.co false [.d,.d,.d] 4 (j.map Qk) j.length) none false,.N,.N] [] [] [2,4,10,11,12,13,41,42,43] [4,23,29,41] rfl rfl rfl ⟨⟨⟨⟨tt_,rfl⟩,(Qda M rfl)⟩,(QbV (QdE M).2)⟩,⟨(Qs5 _ _ _ a5),Qf,.inl rfl⟩⟩ rfl (by kernel_rfl) rfl rfl rfl ?_
   refine tg_ hC [.n 2,.K [2,4,10,11,12,13,41,42,43] [4,23,29,41]] rfl ?_
   obtain⟨b6,a6,h⟩:=Qb h
   refine AK.loop (body:=(fun st=>Qfn j i at_13 u g st.1 st.2.1 st.2.2)) (fun st σ=>σ=⟨[(2,.I i),(4,.loc 4 0 0),(10,.I (min2 (max2 0 g) 4096)),(11,.map 23),(12,.own 29 st.2.2.length),(13,.I at_13),(41,.own 41 j.length),(42,.I (j.length:Int)),(43,.I st.1)],[(4,.var (Qd u)),(23,.map (QA V.s V.b st.2.1)),(29,.arr 1 (st.2.2.map Qt)),(41,.arr 4 (j.map Qk))]⟩) (Sum.elim (fun q e σ=>e=.ret∧σ=⟨[(8,.own 29 q.length),(9,.b false)],[(29,.arr 1 (q.map Qt))]⟩) (fun q e σ=>e=.exit 2∧σ=⟨[(2,.I i),(4,.loc 4 0 0),(10,.I (min2 (max2 0 g) 4096)),(11,.map 23),(12,.own 29 q.2.length),(13,.I at_13)],[(4,.var (Qd u)),(23,.map (QA V.s V.b q.1)),(29,.arr 1 (q.2.map Qt))]⟩)) a6 rfl ?_ ?_
   ·rintro ⟨A,p,t⟩ o σ rfl h
    refine tg_ hC [.n 6] rfl ?_
    refine bg_ h (fun B h=>Qa hC [.T,.n 2] rfl ⟨tt_,B⟩ ?_) fun B h=>Qa hC [.F,.n 2,.K [2,4,10,11,12,13] [4,23,29]] rfl ⟨tt_,B⟩ ?_
    ·refine AK.meet (fun σ=>∃Y:QSB,∃J:(List QMk),σ=⟨[(2,.I i),(4,.loc 4 0 0),(10,.I (min2 (max2 0 g) 4096)),(11,.map 23),(12,.own 29 J.length),(13,.I at_13),(41,.own 41 j.length),(42,.I (j.length:Int)),(43,.I A)],[(4,.var (Qd u)),(23,.map (QA V.s V.b Y)),(29,.arr 1 (J.map Qt)),(41,.arr 4 (j.map Qk))]⟩∧QdV A Y J=some o) ?_ ?_
     ·obtain⟨L,P,h⟩:=Qb h
      refine Qa hC [.n 4,.v (.row (Qk L)) [] (.agg (Qk L)),.n 2,.O 15 (.var (Qk L)),.n 11] rfl ⟨⟨⟨⟨tt_,(Qda P rfl)⟩,(QbV (QdE P).2)⟩,rfl⟩,rfl⟩ ?_
      rcases Qr h with⟨D,h⟩|⟨D,h⟩
      ·refine Qa hC [.T,.n 3,.K [2,4,10,11,12,13,41,42,43] [4,23,29,41]] rfl ⟨tt_,D⟩ ?_
       exact AK.met (ex_ _ (ex_ _ (an_ rfl h)))
      obtain⟨b7,U,h⟩:=Qb h
      obtain⟨m,a7,h⟩:=Qb h
      refine Qa hC [.F,.n 3,.K [2,4,10,11,12,13,15,41,42,43] [4,15,23,29,41]] rfl ⟨tt_,D⟩ ?_
      refine AK.draw2 Qp hC mixed [.a .no (some ([],.agg (Qd u))) false,.N,.N,.N,.a (.row (Qt b7)) none false,.a .no (some ([],.agg (Qk L))) false,.a (.c false [.d,.d,.d] (.tup [.sl 1 (m.1.map Qi),.I m.2])) none false,.N,.N,.N,.N,.N] [] [] [2,4,10,11,12,13,16,17,41,42,43] [4,23,29,41] rfl rfl rfl ⟨⟨⟨⟨⟨tt_,rfl⟩,(Qda U rfl)⟩,(QbV (QdE U).2)⟩,rfl⟩,(Qt2 _ _ _ a7)⟩ rfl (by kernel_rfl) rfl rfl rfl ?_
      refine tg_ hC [.n 3] rfl ?_
      obtain⟨Z,a8,h⟩:=Qb h
      replace h:Qfm A p t g m Z=some o:=h
      refine AK.meetX (fun σ=>σ=⟨[(2,.I i),(4,.loc 4 0 0),(10,.I (min2 (max2 0 g) 4096)),(11,.map 23),(12,.own 29 t.length),(13,.I at_13),(16,.sl 1 (m.1.map Qi)),(41,.own 41 j.length),(42,.I (j.length:Int)),(43,.I A),(68,.b Z)],[(4,.var (Qd u)),(23,.map (QA V.s V.b p)),(29,.arr 1 (t.map Qt)),(41,.arr 4 (j.map Qk))]⟩) ?_ ?_
      ·replace h:=a8
       refine tg_ hC [.n 4] rfl ?_
       rcases Qr h with⟨E,h⟩|⟨E,h⟩
       ·refine Qa hC [.S 63 (.b true),.n 6,.K [2,4,10,11,12,13,16,41,42,43,68] [4,23,29,41]] rfl (tc_ E) ?_
        cases h
        exact AK.met rfl
       obtain⟨a0,a9,h⟩:=Qb h
       refine Qa hC [.S 63 (.b false),.n 2,.o (.c false [.d] (.s a0)),.o (.any (.b ((QG p a0).getD false)) none),.n 2,.K [2,4,10,11,12,13,16,41,42,43,68] [4,23,29,41]] rfl ⟨⟨(tc_ E),(QmD _ a9)⟩,(fun σ h1 h2 _=>Stp.lookup (e:=V.s) (f:=V.b) (l:=p) (k:=a0) (z:=false) rfl rfl (QO hC.n rfl) (h1 _ _ rfl) (h2 _ _ rfl) (h1 _ _ rfl) Qpg QsC QCC rfl)⟩ ?_
       cases h
       exact AK.met rfl
      rintro σ rfl
      replace h:Qfm A p t g m Z=some o:=h
      refine tg_ hC [.n 1] rfl ?_
      refine bg_ h (fun G h=>Qa hC [.T,.n 3,.K [2,4,10,11,12,13,41,42,43] [4,23,29,41]] rfl ⟨tt_,G⟩ ?_) fun G h=>Qa hC [.F,.n 11] rfl ⟨tt_,G⟩ ?_
      ·exact AK.met (ex_ _ (ex_ _ (an_ rfl h)))
      rcases Qr h with⟨H,h⟩|⟨H,h⟩
      ·refine Qa hC [.T,.n 11,.K [8,9] [29]] rfl ⟨tt_,H⟩ ?_
       cases h
       exact Qar rfl (an_ rfl rfl)
      obtain⟨a1,b0,h⟩:=Qb h
      obtain⟨b1,h⟩:=QaX h
      refine Qa hC [.F,.n 6,.o (.c false [.d] (.s a1)),.x (fun σ=>σ.set 23 (.map (QA V.s V.b (Qan ltS p a1 true)))),.n 5,.v (.bd []) [] (.sl 1 (([m.1]:List QMk).map Qt)),.app ((t++([m.1]:List QMk)).map Qt) (t++([m.1]:List QMk)).length,.n 3,.K [2,4,10,11,12,13,41,42,43] [4,23,29,41]] rfl ⟨⟨⟨⟨⟨tt_,H⟩,(QmD _ b0)⟩,(Stp.mapUpdate (e:=V.s) (f:=V.b) (l:=p) (k:=a1) (v:=true) ltS rfl rfl rfl rfl rfl rfl Qpg QsC rfl)⟩,rfl⟩,⟨Qf,QbP b1 Qf,QaZ,QcP Qf⟩⟩ ?_
      exact AK.met (ex_ _ (ex_ _ (an_ rfl h)))
     rintro σ ⟨Y,J,rfl,h⟩
     refine tg_ hC [.n 4,.K [2,4,10,11,12,13,41,42,43] [4,23,29,41]] rfl ?_
     cases h
     exact Q4 rfl rfl
    cases h
    exact Q6 rfl (an_ rfl rfl)
   rcases b6 with(b8 | ⟨b9,c0⟩)
   ·replace h:Qhu b8=some o:=h
    rintro e σ ⟨rfl,rfl⟩
    refine tg_ hC [.n 3,.K [8,9] [29]] rfl ?_
    cases h
    exact Qar rfl (an_ rfl rfl)
   replace h:Qhv at_13 b9 c0=some o:=h
   rintro e σ ⟨rfl,rfl⟩
   refine tg_ hC [.n 8,.K [2,4,10,11,12,13] [4,23,29]] rfl ?_
   cases h
   exact Q4 rfl rfl
  refine Qa hC [.F,.n 2,.K [12] [29]] rfl ⟨tt_,y⟩ ?_
  cases h
  exact Q6 rfl (an_ rfl rfl)
 rcases b4 with(b2 | b3)
 ·replace h:Qox b2=some r:=h
  rintro e σ ⟨rfl,rfl⟩
  refine Qa hC [.n 2,.frz 29 (b2.map Qt) [8] []] rfl ⟨tt_,⟨tt_,(Qb7 Qf)⟩⟩ ?_
  cases h
  exact d2_ rfl rfl rfl tt_
 replace h:Qoy b3=some r:=h
 rintro e σ ⟨rfl,rfl⟩
 refine Qa hC [.n 10,.frz 29 (b3.map Qt) [8] []] rfl ⟨tt_,⟨tt_,(Qb7 Qf)⟩⟩ ?_
 cases h
 exact d2_ rfl rfl rfl tt_
def QlU (a:Int)(b:QMk):Option Bool:=
 (idx b a).bind fun c=>
 some (decide (0<(c.length:Int)))
theorem Qtd (d a){r}(h:QlU d a=some r):Qc prog 106 [.I d,.loc 617 0 0] [(617,.var (Qt a))] (Gives (.b r) [(617,.var (Qt a))]):=by
 refine Qc.walk 10 func106 rfl rfl rfl fun C hC=>?_
 obtain⟨e,c,h⟩:=Qb h
 refine Qa hC [.n 9,.o (.row (Qi e)),.n 1,.o (.ln e.length),.n 5] rfl ⟨⟨tt_,(QP c)⟩,Qf⟩ ?_
 cases h
 exact d1_ rfl rfl ⟨rfl,tt_⟩
def Qbc (c:(List Int))(d:QMk)(a:Int):Option (Int⊕(Int⊕Unit)):=
 bif (decide (a<(c.length:Int)))then
 (idx c a).bind fun e=>
 (QlU e d).bind fun b=>
 bif b then
 some (.inr (.inl a))
 else
 some (.inl (w64 (a+1)))
 else
 some (.inr (.inr ()))
def Qdj (a:Int):Option Int:=
 some a
def Qf9 : Option Int:=
 some (-1)
def Qd5 (a:(List Int))(b:QMk):Option Int:=
 (QK (fun st=>Qbc a b st) 0).bind (Sum.elim (fun q=>Qdj q) (fun q=>Qf9))
theorem QlV (g c){r}(h:Qd5 g c=some r):Qc prog 47 [.sl 1 (g.map Qe),.clo (.func 106) [] [.loc 617 0 0]] [(617,.var (Qt c))] (Gives (.I r) [(617,.var (Qt c))]):=by
 refine Qc.walk 19 func47 rfl rfl rfl fun C hC=>?_
 refine Qa hC [.n 9,.o (.ln g.length),.n 4,.K [0,1,7,8] [617]] rfl ⟨tt_,Qf⟩ ?_
 obtain⟨k,i,h⟩:=Qb h
 refine AK.loop (body:=(fun st=>Qbc g c st)) (fun st σ=>σ=⟨[(0,.sl 1 (g.map Qe)),(1,.clo (.func 106) [] [.loc 617 0 0]),(7,.I (g.length:Int)),(8,.I st)],[(617,.var (Qt c))]⟩) (Sum.elim (fun q e σ=>e=.ret∧σ=⟨[(4,.I q)],[(617,.var (Qt c))]⟩) (fun q e σ=>e=.exit 0∧σ=⟨[],[(617,.var (Qt c))]⟩)) i rfl ?_ ?_
 ·rintro t o σ rfl h
  refine tg_ hC [.n 6] rfl ?_
  rcases Qr h with⟨f,h⟩|⟨f,h⟩
  ·obtain⟨p,l,h⟩:=Qb h
   obtain⟨m,j,h⟩:=Qb h
   refine Qa hC [.T,.n 15,.o (.row (Qe p)),.n 1,.cm (.clo) [(617,617)] [(617,617)] [] [.d,.d] [(617,.var (Qt c))] (.b m),.n 2] rfl ⟨⟨⟨tt_,f⟩,(QP l)⟩,(Qtd _ _ j)⟩ ?_
   refine bg_ h (fun a h=>Qa hC [.T,.n 9,.K [4] [617]] rfl ⟨tt_,a⟩ ?_) fun a h=>Qa hC [.F,.n 7,.K [0,1,7,8] [617]] rfl ⟨tt_,a⟩ ?_
   ·cases h
    exact Qar rfl (an_ rfl rfl)
   cases h
   exact Q4 rfl rfl
  refine Qa hC [.F,.n 2,.K [] [617]] rfl ⟨tt_,f⟩ ?_
  cases h
  exact Q6 rfl (an_ rfl rfl)
 rcases k with(s | _)
 ·replace h:Qdj s=some r:=h
  rintro e σ ⟨rfl,rfl⟩
  refine tg_ hC [.n 2] rfl ?_
  cases h
  exact d1_ rfl rfl ⟨rfl,tt_⟩
 replace h:Qf9=some r:=h
 rintro e σ ⟨rfl,rfl⟩
 refine tg_ hC [.n 8] rfl ?_
 cases h
 exact d1_ rfl rfl ⟨rfl,tt_⟩
def Qb1 (a:(List Int))(b:QMk):Option Bool:=
 (Qd5 a b).bind fun c=>
 some (decide (0≤c))
theorem QkF (e a){r}(h:Qb1 e a=some r):Qc prog 105 [.sl 1 (e.map Qe),.clo (.func 106) [] [.loc 617 0 0]] [(617,.var (Qt a))] (Gives (.b r) [(617,.var (Qt a))]):=by
 refine Qc.walk 9 func105 rfl rfl rfl fun C hC=>?_
 obtain⟨f,c,h⟩:=Qb h
 refine Qa hC [.n 9,.cm (.fn) [(617,617)] [(617,617)] [] [.d,.d] [(617,.var (Qt a))] (.I f),.n 5] rfl ⟨tt_,(QlV _ _ c)⟩ ?_
 cases h
 exact d1_ rfl rfl ⟨rfl,tt_⟩
def Qfp (e:((List QMk)×Bool))(a:(List Int))(b:Int):Option (((List Int)×Int)⊕(Unit⊕Unit)):=
 bif (decide (b<(e.1.length:Int)))then
 (idx e.1 b).bind fun c=>
 (Qb1 a c).bind fun d=>
 bif d then
 some (.inr (.inl ()))
 else
 some (.inl (a,(w64 (b+1))))
 else
 some (.inr (.inr ()))
def Qoz : Option Int:=
 some 0
def Qhw (a:((List QMk)×Bool)):Option Int:=
 bif (!a.2)then
 some 2
 else
 some 1
def QkG (c:Qj)(d:QMk)(a:Int)(b:Int):Option Int:=
 (Qer c d a).bind fun f=>
 (QkE c d a b).bind fun e=>
 (QK (fun st=>Qfp e st.1 st.2) (f,0)).bind (Sum.elim (fun q=>Qoz) (fun q=>Qhw e))
theorem QuU (u B f a){r}(h:QkG u B f a=some r):Qc prog 66 [.agg (Qd u),.sl 1 (B.map Qi),.I f,.I a] [] (Gives (.I r) []):=by
 refine Qc.walk 38 func66 rfl rfl rfl fun C hC=>?_
 obtain⟨w,x,h⟩:=Qb h
 obtain⟨k,y,h⟩:=Qb h
 refine Qa hC [.n 8,.v .no [] (.agg (Qd u)),.n 2,.o (.co false [.d,.d,.d] 1 (w.map Qe) w.length),.n 5,.v .no [] (.agg (Qd u)),.n 3,.o (.c false [.d,.d,.d,.d] (.tup [.sl 1 (k.1.map Qt),.b k.2])),.n 11,.o (.ln k.1.length),.n 4,.frz 17 (w.map Qe) [9] [],.K [9,11,26,27,28] []] rfl ⟨⟨⟨⟨⟨⟨tt_,rfl⟩,⟨(QuS _ _ _ x),Qf,.inl rfl⟩⟩,rfl⟩,(QuT _ _ _ _ y)⟩,Qf⟩,⟨tt_,(Qb7 Qf)⟩⟩ ?_
 obtain⟨z,m,h⟩:=Qb h
 refine AK.loop (body:=(fun st=>Qfp k st.1 st.2)) (fun st σ=>σ=⟨[(9,.sl 1 (st.1.map Qe)),(11,.b k.2),(26,.sl 1 (k.1.map Qt)),(27,.I (k.1.length:Int)),(28,.I st.2)],[]⟩) (Sum.elim (fun q e σ=>e=.ret∧σ=⟨[(8,.I 0)],[]⟩) (fun q e σ=>e=.exit 0∧σ=⟨[(11,.b k.2)],[]⟩)) m rfl ?_ ?_
 ·rintro ⟨p,D⟩ o σ rfl h
  refine tg_ hC [.n 6] rfl ?_
  rcases Qr h with⟨g,h⟩|⟨g,h⟩
  ·obtain⟨l,s,h⟩:=Qb h
   obtain⟨A,t,h⟩:=Qb h
   refine Qa hC [.T,.n 6,.o (.row (Qt l)),.n 3,.O 13 (.var (Qt l)),.n 6,.cm (.fn) [(617,13)] [(13,617)] [] [.d,.d] [(617,.var (Qt l))] (.b A),.n 2] rfl ⟨⟨⟨⟨tt_,g⟩,(QP s)⟩,rfl⟩,(QkF _ _ t)⟩ ?_
   refine bg_ h (fun i h=>Qa hC [.T,.n 8,.K [8] []] rfl ⟨tt_,i⟩ ?_) fun i h=>Qa hC [.F,.n 7,.K [9,11,26,27,28] []] rfl ⟨tt_,i⟩ ?_
   ·cases h
    exact Qar rfl (an_ rfl rfl)
   cases h
   exact Q4 rfl rfl
  refine Qa hC [.F,.n 2,.K [11] []] rfl ⟨tt_,g⟩ ?_
  cases h
  exact Q6 rfl (an_ rfl rfl)
 rcases z with(_ | _)
 ·replace h:Qoz=some r:=h
  rintro e σ ⟨rfl,rfl⟩
  refine tg_ hC [.n 2] rfl ?_
  cases h
  exact d1_ rfl rfl tt_
 replace h:Qhw k=some r:=h
 rintro e σ ⟨rfl,rfl⟩
 refine tg_ hC [.n 9] rfl ?_
 refine bg_ h (fun j h=>Qa hC [.T,.n 7,.K [8] []] rfl ⟨tt_,j⟩ ?_) fun j h=>Qa hC [.F,.n 8,.K [8] []] rfl ⟨tt_,j⟩ ?_
 ·cases h
  exact d1_ rfl rfl tt_
 cases h
 exact d1_ rfl rfl tt_
def QkH (b:Qj)(e:QMk)(c:Ql)(a:Int):Option Int:=
 (QcI b e c).bind fun f=>
 bif (f != 0)then
 some 0
 else
 (idx b.Tasks c.Task).bind fun g=>
 bif (g.Join != 3)then
 some 1
 else
 (QkG b e c.Task a).bind fun d=>
 some d
theorem QuV (g m i a){r}(h:QkH g m i a=some r):Qc prog 37 [.agg (Qd g),.sl 1 (m.map Qi),.agg (Qk i),.I a] [] (Gives (.I r) []):=by
 refine Qc.walk 30 func37 rfl rfl rfl fun C hC=>?_
 obtain⟨p,j,h⟩:=Qb h
 refine Qa hC [.n 11,.v .no [] (.agg (Qd g)),.n 1,.v .no [] (.agg (Qk i)),.o (.c false [.d,.d,.d] (.I p)),.n 4] rfl ⟨⟨⟨tt_,rfl⟩,rfl⟩,(QqD _ _ _ j)⟩ ?_
 rcases Qr h with⟨e,h⟩|⟨e,h⟩
 ·refine Qa hC [.T,.n 8] rfl ⟨tt_,e⟩ ?_
  cases h
  exact d1_ rfl rfl tt_
 obtain⟨q,k,h⟩:=Qb h
 refine Qa hC [.F,.n 6,.o (.row (Qh q)),.n 6] rfl ⟨⟨tt_,e⟩,(QP k)⟩ ?_
 rcases Qr h with⟨b,h⟩|⟨b,h⟩
 ·refine Qa hC [.T,.n 8] rfl ⟨tt_,b⟩ ?_
  cases h
  exact d1_ rfl rfl tt_
 obtain⟨l,f,h⟩:=Qb h
 refine Qa hC [.F,.n 5,.v .no [] (.agg (Qd g)),.n 4,.o (.c false [.d,.d,.d,.d] (.I l)),.n 4] rfl ⟨⟨⟨tt_,b⟩,rfl⟩,(QuU _ _ _ _ f)⟩ ?_
 cases h
 exact d1_ rfl rfl tt_
def Qev (b:Int)(a:Bool)(c:(List Ql))(d:QBg):Option ((Bool×Int×(List Ql)×QBg)⊕(Bool×(List Ql))):=
 some (.inl (a,(w64 (b+1)),c,d))
def Qga (c:Ql)(d:(List Ql))(e:Int)(a:Bool)(b:QBg):Option ((Bool×Int×(List Ql)×QBg)⊕(Bool×(List Ql))):=
 bif (((QG b c.Task).getD 0)==1)then
 (chk (decide (d.length+([c]:List Ql).length≤4294967296))).bind fun _=>
 Qev e a (d++([c]:List Ql)) b
 else
 bif (((QG b c.Task).getD 0)==2)then
 Qev e false d b
 else
 Qev e a d b
def Qiq (h:(List Ql))(i:Qj)(j:QMk)(b:Int)(a:Bool)(d:Int)(e:(List Ql))(f:QBg):Option ((Bool×Int×(List Ql)×QBg)⊕(Bool×(List Ql))):=
 bif (decide (d<(h.length:Int)))then
 (idx h d).bind fun c=>
 bif (!(QG f c.Task).isSome)then
 (QkH i j c b).bind fun g=>
 Qga c e d a (Qan ltI f c.Task g)
 else
 Qga c e d a f
 else
 some (.inr (a,e))
def QpE (a:Bool)(b:(List Ql)):Option ((List Ql)×Bool):=
 some (b,a)
def QgG (c:Qj)(d:QMk)(a:Int)(b:Int):Option ((List Ql)×Bool):=
 (QkD c d b).bind fun e=>
 (QK (fun st=>Qiq e c d a st.1 st.2.1 st.2.2.1 st.2.2.2) (true,0,([]:List Ql),([]:QBg))).bind (fun q=>QpE q.1 q.2)
theorem QvH (L W g t){r}(h:QgG L W g t=some r):Qc prog 15 [.agg (Qd L),.sl 1 (W.map Qi),.I g,.I t] [] (Gives (.tup [.sl 4 (r.1.map Qk),.b r.2]) []):=by
 refine Qc.walk 59 func15 rfl rfl rfl fun C hC=>?_
 obtain⟨s,a2,h⟩:=Qb h
 refine Qa hC [.n 20,.O 17 (.map (QA V.I V.I ([]:QBg))),.n 6,.v .no [] (.agg (Qd L)),.n 2,.o (.co false [.d,.d,.d] 4 (s.map Qk) s.length),.n 5,.adopt 10 50 4,.O 50 (.arr 4 (([]:List Ql).map Qk)),.S 10 (.own 50 ([]:List Ql).length),.K [1,2,4,10,11,12,21,22,23] [4,17,21,50]] rfl ⟨⟨⟨⟨⟨tt_,rfl⟩,rfl⟩,⟨(Qs5 _ _ _ a2),Qf,.inl rfl⟩⟩,rfl⟩,(congrArg (fun n=>V.own 50 n) (by simp))⟩ ?_
 obtain⟨a3,X,h⟩:=Qb h
 refine AK.loop (body:=(fun st=>Qiq s L W g st.1 st.2.1 st.2.2.1 st.2.2.2)) (fun st σ=>σ=⟨[(1,.sl 1 (W.map Qi)),(2,.I g),(4,.loc 4 0 0),(10,.own 50 st.2.2.1.length),(11,.b st.1),(12,.map 17),(21,.own 21 s.length),(22,.I (s.length:Int)),(23,.I st.2.1)],[(4,.var (Qd L)),(17,.map (QA V.I V.I st.2.2.2)),(21,.arr 4 (s.map Qk)),(50,.arr 4 (st.2.2.1.map Qk))]⟩) (fun q e σ=>e=.exit 0∧σ=⟨[(10,.own 50 q.2.length),(11,.b q.1)],[(50,.arr 4 (q.2.map Qk))]⟩) X rfl ?_ ?_
 ·rintro ⟨p,G,u,w⟩ o σ rfl h
  refine tg_ hC [.n 6] rfl ?_
  refine bg_ h (fun x h=>Qa hC [.T,.n 2] rfl ⟨tt_,x⟩ ?_) fun x h=>Qa hC [.F,.n 2,.K [10,11] [50]] rfl ⟨tt_,x⟩ ?_
  ·refine AK.meet (fun σ=>∃j:Bool,∃H:(List Ql),∃P:QBg,σ=⟨[(1,.sl 1 (W.map Qi)),(2,.I g),(4,.loc 4 0 0),(10,.own 50 H.length),(11,.b j),(12,.map 17),(21,.own 21 s.length),(22,.I (s.length:Int)),(23,.I G)],[(4,.var (Qd L)),(17,.map (QA V.I V.I P)),(21,.arr 4 (s.map Qk)),(50,.arr 4 (H.map Qk))]⟩∧Qev G j H P=some o) ?_ ?_
   ·obtain⟨i,M,h⟩:=Qb h
    refine Qa hC [.n 4,.v (.row (Qk i)) [] (.agg (Qk i)),.n 2,.O 14 (.var (Qk i)),.n 2] rfl ⟨⟨⟨⟨tt_,(Qda M rfl)⟩,(QbV (QdE M).2)⟩,rfl⟩,rfl⟩ ?_
    refine AK.meet (fun σ=>∃y:QBg,σ=⟨[(1,.sl 1 (W.map Qi)),(2,.I g),(4,.loc 4 0 0),(10,.own 50 u.length),(11,.b p),(12,.map 17),(14,.loc 14 0 0),(21,.own 21 s.length),(22,.I (s.length:Int)),(23,.I G)],[(4,.var (Qd L)),(14,.var (Qk i)),(17,.map (QA V.I V.I y)),(21,.arr 4 (s.map Qk)),(50,.arr 4 (u.map Qk))]⟩∧Qga i u G p y=some o) ?_ ?_
    ·refine Qa hC [.n 5,.o (.any (.tup [.I ((QG w i.Task).getD 0),.b (QG w i.Task).isSome]) none),.n 13] rfl ⟨tt_,(fun σ J Y _=>Stp.lookupOk (e:=V.I) (f:=V.I) (l:=w) (k:=i.Task) (z:=0) rfl rfl (QO hC.n rfl) (J _ _ rfl) (Y _ _ rfl) (J _ _ rfl) Qml Qdg QkZ rfl rfl)⟩ ?_
     rcases Qr h with⟨A,h⟩|⟨A,h⟩
     ·obtain⟨U,Z,h⟩:=Qb h
      refine Qa hC [.T,.K [1,2,4,10,11,12,14,21,22,23] [4,14,17,21,50]] rfl ⟨tt_,A⟩ ?_
      refine AK.draw2 Qp hC mixed [.N,.N,.N,.a .no (some ([],.agg (Qd L))) false,.N,.a .no (some ([],.agg (Qk i))) false,.N,.a (.c false [.d,.d,.d,.d] (.I U)) none false,.m (.any ⟨[],[(17,.map (QA V.I V.I (Qan ltI w i.Task U)))],none⟩)] [] [] [1,2,4,10,11,12,14,21,22,23] [4,14,17,21,50] rfl rfl rfl ⟨⟨⟨⟨tt_,rfl⟩,rfl⟩,(QuV _ _ _ _ Z)⟩,(fun σ J Y=>Stp.mapUpdate (e:=V.I) (f:=V.I) (l:=w) (k:=i.Task) (v:=U) ltI rfl rfl (J _ _ rfl) (Y _ _ rfl) (J _ _ rfl) (J _ _ rfl) Qml Qdg rfl)⟩ rfl (by kernel_rfl) rfl rfl rfl ?_
      refine tg_ hC [.K [1,2,4,10,11,12,14,21,22,23] [4,14,17,21,50]] rfl ?_
      exact AK.met (ex_ _ (an_ rfl h))
     refine Qa hC [.F,.n 1,.K [1,2,4,10,11,12,14,21,22,23] [4,14,17,21,50]] rfl ⟨tt_,A⟩ ?_
     exact AK.met (ex_ _ (an_ rfl h))
    rintro σ ⟨y,rfl,h⟩
    refine Qa hC [.n 5,.o (.any (.I ((QG y i.Task).getD 0)) none),.n 9] rfl ⟨tt_,(fun σ J Y _=>Stp.lookup (e:=V.I) (f:=V.I) (l:=y) (k:=i.Task) (z:=0) rfl rfl (QO hC.n rfl) (J _ _ rfl) (Y _ _ rfl) (J _ _ rfl) Qml Qdg QkZ rfl)⟩ ?_
    rcases Qr h with⟨B,h⟩|⟨B,h⟩
    ·obtain⟨a0,h⟩:=QaX h
     refine Qa hC [.T,.n 2,.v .no [] (.agg (Qk i)),.v (.bd []) [] (.sl 4 (([i]:List Ql).map Qk)),.app ((u++([i]:List Ql)).map Qk) (u++([i]:List Ql)).length,.n 4,.K [1,2,4,10,11,12,21,22,23] [4,17,21,50]] rfl ⟨⟨⟨⟨tt_,B⟩,rfl⟩,rfl⟩,⟨Qf,QbP a0 Qf,QaZ,QcP Qf⟩⟩ ?_
     exact AK.met (ex_ _ (ex_ _ (ex_ _ (an_ rfl h))))
    refine Qa hC [.F,.n 6] rfl ⟨tt_,B⟩ ?_
    refine bg_ h (fun D h=>Qa hC [.T,.n 5,.K [1,2,4,10,11,12,21,22,23] [4,17,21,50]] rfl ⟨tt_,D⟩ ?_) fun D h=>Qa hC [.F,.n 3,.K [1,2,4,10,11,12,21,22,23] [4,17,21,50]] rfl ⟨tt_,D⟩ ?_
    ·exact AK.met (ex_ _ (ex_ _ (ex_ _ (an_ rfl h))))
    exact AK.met (ex_ _ (ex_ _ (ex_ _ (an_ rfl h))))
   rintro σ ⟨j,H,P,rfl,h⟩
   refine tg_ hC [.n 4,.K [1,2,4,10,11,12,21,22,23] [4,17,21,50]] rfl ?_
   cases h
   exact Q4 rfl rfl
  cases h
  exact Q6 rfl (an_ rfl rfl)
 obtain⟨E,a1⟩:=a3
 replace h:QpE E a1=some r:=h
 rintro e σ ⟨rfl,rfl⟩
 refine Qa hC [.n 11,.frz 50 (a1.map Qk) [8] []] rfl ⟨tt_,⟨tt_,(Qb7 Qf)⟩⟩ ?_
 cases h
 exact d2_ rfl rfl rfl tt_
def QfC (a:Bool)(b:((List Ql)×Bool)):Option Bool:=
 bif a then
 some b.2
 else
 some false
def Qcq (a:Int)(b:(List QJ))(c:(List QN))(d:(List QD))(e:Int)(f:Int)(g:Int)(h:Bool)(i:(List (ByteArray×Int)))(j:(List Qad))(k:(List QMk)):Option ((Int×(List QJ)×(List QN)×(List QD)×Int×Int×Int×Bool×(List (ByteArray×Int))×(List Qad)×(List QMk))⊕((List QJ)×(List QN)×(List QD)×Int×Int×Int×Bool×(List (ByteArray×Int))×(List Qad)×(List QMk))):=
 some (.inl ((w64 (a+1)),b,c,d,e,f,g,h,i,j,k))
def Qcr (c:Int)(a:(List Qad))(at_11:Int)(d:Ql)(b:Int)(e:(List QJ))(f:(List QN))(g:(List QD))(h:Int)(i:Int)(j:Int)(m:Bool)(k:(List (ByteArray×Int)))(l:(List QMk)):Option ((Int×(List QJ)×(List QN)×(List QD)×Int×Int×Int×Bool×(List (ByteArray×Int))×(List Qad)×(List QMk))⊕((List QJ)×(List QN)×(List QD)×Int×Int×Int×Bool×(List (ByteArray×Int))×(List Qad)×(List QMk))):=
 bif (decide (b<0))then
 Qcq c e f g h i j false k a l
 else
 (chk (decide (a.length+([(Qad.mk at_11 b d)]:List Qad).length≤4294967296))).bind fun _=>
 Qcq c e f g h i j m k (a++[(Qad.mk at_11 b d)]) l
def Qcs (n:((List Ql)×Bool))(p:QMk)(at_11:Int)(b:Int)(c:(List QJ))(d:(List QN))(e:(List QD))(f:Int)(g:Int)(i:Int)(j:Bool)(k:(List (ByteArray×Int)))(h:(List Qad))(l:(List QMk)):Option ((Int×(List QJ)×(List QN)×(List QD)×Int×Int×Int×Bool×(List (ByteArray×Int))×(List Qad)×(List QMk))⊕((List QJ)×(List QN)×(List QD)×Int×Int×Int×Bool×(List (ByteArray×Int))×(List Qad)×(List QMk))):=
 bif (decide (b<(n.1.length:Int)))then
 (idx n.1 b).bind fun m=>
 (QaE (Qj.mk c d e f g) p m).bind fun o=>
 bif (o.2==0)then
 (Qc4 c d e f g i k l h j o.1).bind fun a=>
 Qcr b h at_11 m a.1 a.2.2.1 a.2.2.2.1 a.2.2.2.2.1 a.2.2.2.2.2.1 a.2.2.2.2.2.2.1 a.2.2.2.2.2.2.2.1 a.2.2.2.2.2.2.2.2.1 a.2.2.2.2.2.2.2.2.2 a.2.1
 else
 Qcr b h at_11 m (-1) c d e f g i j k l
 else
 some (.inr (c,d,e,f,g,i,j,k,h,l))
def Qjs (a:(List QJ))(b:(List QN))(c:(List QD))(d:Int)(e:Int)(f:Int)(g:Bool)(h:(List (ByteArray×Int)))(i:(List Qad))(j:(List QMk)):Option ((List QMk)×(List Qad)×(List QJ)×(List QN)×(List QD)×Int×Int×Int×Bool×(List (ByteArray×Int))):=
 some (j,i,a,b,c,d,e,f,g,h)
def Qdx (a:((List Ql)×Bool))(b:QMk)(at_11:Int)(d:(List QJ))(e:(List QN))(f:(List QD))(g:Int)(h:Int)(i:Int)(j:(List (ByteArray×Int)))(k:(List Qad))(l:(List QMk))(c:Bool):Option ((List QMk)×(List Qad)×(List QJ)×(List QN)×(List QD)×Int×Int×Int×Bool×(List (ByteArray×Int))):=
 (QK (fun st=>Qcs a b at_11 st.1 st.2.1 st.2.2.1 st.2.2.2.1 st.2.2.2.2.1 st.2.2.2.2.2.1 st.2.2.2.2.2.2.1 st.2.2.2.2.2.2.2.1 st.2.2.2.2.2.2.2.2.1 st.2.2.2.2.2.2.2.2.2.1 st.2.2.2.2.2.2.2.2.2.2) (0,d,e,f,g,h,i,c,j,k,l)).bind (fun q=>Qjs q.1 q.2.1 q.2.2.1 q.2.2.2.1 q.2.2.2.2.1 q.2.2.2.2.2.1 q.2.2.2.2.2.2.1 q.2.2.2.2.2.2.2.1 q.2.2.2.2.2.2.2.2.1 q.2.2.2.2.2.2.2.2.2)
def QeG (e:(List QJ))(f:(List QN))(g:(List QD))(h:Int)(i:Int)(j:Int)(l:(List (ByteArray×Int)))(k:(List QMk))(m:(List Qad))(c:Bool)(at_11:Int):Option ((List QMk)×(List Qad)×(List QJ)×(List QN)×(List QD)×Int×Int×Int×Bool×(List (ByteArray×Int))):=
 (idx k at_11).bind fun a=>
 (QgG (Qj.mk e f g h i) a j 9223372036854775807).bind fun b=>
 (QfC c b).bind (fun d=>Qdx b a at_11 e f g h i j l m k d)
theorem QoU (U W X Y Z v6 m7 G H b1 at_11){r}(h:QeG U W X Y Z v6 m7 G H b1 at_11=some r):Qc prog 41 [.loc 617 0 0,.I at_11] [(617,.var [.sl 7 (U.map Qu),.sl 3 (W.map Qq),.sl 14 (X.map Qh),.I Y,.I Z,.I v6,.map 618,.own 615 G.length,.own 616 H.length,.b b1]),(618,.map (QA V.s V.I m7)),(615,.arr 1 (G.map Qt)),(616,.arr 6 (H.map QS))] (Gives (.tup []) [(615,.arr 1 (r.1.map Qt)),(616,.arr 6 (r.2.1.map QS)),(617,.var [.sl 7 (r.2.2.1.map Qu),.sl 3 (r.2.2.2.1.map Qq),.sl 14 (r.2.2.2.2.1.map Qh),.I r.2.2.2.2.2.1,.I r.2.2.2.2.2.2.1,.I r.2.2.2.2.2.2.2.1,.map 618,.own 615 r.1.length,.own 616 r.2.1.length,.b r.2.2.2.2.2.2.2.2.1]),(618,.map (QA V.s V.I r.2.2.2.2.2.2.2.2.2))]):=by
 refine Qc.walk 88 func41 rfl rfl rfl fun C hC=>?_
 obtain⟨k,a0,h⟩:=Qb h
 obtain⟨f,b2,h⟩:=Qb h
 refine Qa hC [.n 9,.o (.row (Qt k)),.n 4,.K [0,1,4] [615,616,617,618]] rfl ⟨⟨tt_,(Qda a0 rfl)⟩,(QbV (QdE a0).2)⟩ ?_
 refine AK.draw2 Qp hC mixed [.N,.N,.N,.a .no (some ([],.agg (Qd (Qj.mk U W X Y Z)))) false,.N,.N,.N,.N,.N,.a (.c false [.d,.d,.d,.d] (.tup [.sl 4 (f.1.map Qk),.b f.2])) none false,.N,.N,.N,.N,.N] [] [] [0,1,4,5,6] [615,616,617,618] rfl rfl rfl ⟨⟨tt_,rfl⟩,(QvH _ _ _ _ b2)⟩ rfl (by kernel_rfl) rfl rfl rfl ?_
 refine tg_ hC [.n 2] rfl ?_
 obtain⟨a1,b3,h⟩:=Qb h
 replace h:Qdx f k at_11 U W X Y Z v6 m7 H G a1=some r:=h
 refine AK.meetX (fun σ=>σ=⟨[(0,.loc 617 0 0),(1,.I at_11),(4,.sl 1 (k.map Qi)),(5,.sl 4 (f.1.map Qk))],[(615,.arr 1 (G.map Qt)),(616,.arr 6 (H.map QS)),(617,.var [.sl 7 (U.map Qu),.sl 3 (W.map Qq),.sl 14 (X.map Qh),.I Y,.I Z,.I v6,.map 618,.own 615 G.length,.own 616 H.length,.b a1]),(618,.map (QA V.s V.I m7))]⟩) ?_ ?_
 ·replace h:=b3
  refine tg_ hC [.n 8] rfl ?_
  refine bg_ h (fun t h=>Qa hC [.S 39 (.b true),.n 6,.O 617 (.var [.sl 7 (U.map Qu),.sl 3 (W.map Qq),.sl 14 (X.map Qh),.I Y,.I Z,.I v6,.map 618,.own 615 G.length,.own 616 H.length,.b f.2]),.n 1,.K [0,1,4,5] [615,616,617,618]] rfl ⟨(tc_ t),rfl⟩ ?_) fun t h=>Qa hC [.S 39 (.b false),.n 6,.O 617 (.var [.sl 7 (U.map Qu),.sl 3 (W.map Qq),.sl 14 (X.map Qh),.I Y,.I Z,.I v6,.map 618,.own 615 G.length,.own 616 H.length,.b false]),.n 1,.K [0,1,4,5] [615,616,617,618]] rfl ⟨(tc_ t),rfl⟩ ?_
  ·cases h
   exact AK.met rfl
  cases h
  exact AK.met rfl
 rintro σ rfl
 replace h:Qdx f k at_11 U W X Y Z v6 m7 H G a1=some r:=h
 refine Qa hC [.n 4,.o (.ln f.1.length),.n 4,.K [0,1,4,45,46,47] [615,616,617,618]] rfl ⟨tt_,Qf⟩ ?_
 obtain⟨c0,b4,h⟩:=Qb h
 refine AK.loop (body:=(fun st=>Qcs f k at_11 st.1 st.2.1 st.2.2.1 st.2.2.2.1 st.2.2.2.2.1 st.2.2.2.2.2.1 st.2.2.2.2.2.2.1 st.2.2.2.2.2.2.2.1 st.2.2.2.2.2.2.2.2.1 st.2.2.2.2.2.2.2.2.2.1 st.2.2.2.2.2.2.2.2.2.2)) (fun st σ=>σ=⟨[(0,.loc 617 0 0),(1,.I at_11),(4,.sl 1 (k.map Qi)),(45,.sl 4 (f.1.map Qk)),(46,.I (f.1.length:Int)),(47,.I st.1)],[(615,.arr 1 (st.2.2.2.2.2.2.2.2.2.2.map Qt)),(616,.arr 6 (st.2.2.2.2.2.2.2.2.2.1.map QS)),(617,.var [.sl 7 (st.2.1.map Qu),.sl 3 (st.2.2.1.map Qq),.sl 14 (st.2.2.2.1.map Qh),.I st.2.2.2.2.1,.I st.2.2.2.2.2.1,.I st.2.2.2.2.2.2.1,.map 618,.own 615 st.2.2.2.2.2.2.2.2.2.2.length,.own 616 st.2.2.2.2.2.2.2.2.2.1.length,.b st.2.2.2.2.2.2.2.1]),(618,.map (QA V.s V.I st.2.2.2.2.2.2.2.2.1))]⟩) (fun q e σ=>e=.exit 0∧σ=⟨[],[(615,.arr 1 (q.2.2.2.2.2.2.2.2.2.map Qt)),(616,.arr 6 (q.2.2.2.2.2.2.2.2.1.map QS)),(617,.var [.sl 7 (q.1.map Qu),.sl 3 (q.2.1.map Qq),.sl 14 (q.2.2.1.map Qh),.I q.2.2.2.1,.I q.2.2.2.2.1,.I q.2.2.2.2.2.1,.map 618,.own 615 q.2.2.2.2.2.2.2.2.2.length,.own 616 q.2.2.2.2.2.2.2.2.1.length,.b q.2.2.2.2.2.2.1]),(618,.map (QA V.s V.I q.2.2.2.2.2.2.2.1))]⟩) b4 rfl ?_ ?_
 ·rintro ⟨J,c1,c2,c3,c4,c5,d6,d7,d8,j,d9⟩ o σ rfl h
  refine tg_ hC [.n 6] rfl ?_
  refine bg_ h (fun u h=>Qa hC [.T,.n 2] rfl ⟨tt_,u⟩ ?_) fun u h=>Qa hC [.F,.n 2,.K [] [615,616,617,618]] rfl ⟨tt_,u⟩ ?_
  ·refine AK.meet (fun σ=>∃a2:(List QJ),∃a3:(List QN),∃a4:(List QD),∃a5:Int,∃a6:Int,∃a7:Int,∃a8:Bool,∃a9:(List (ByteArray×Int)),∃L:(List Qad),∃M:(List QMk),σ=⟨[(0,.loc 617 0 0),(1,.I at_11),(4,.sl 1 (k.map Qi)),(45,.sl 4 (f.1.map Qk)),(46,.I (f.1.length:Int)),(47,.I J)],[(615,.arr 1 (M.map Qt)),(616,.arr 6 (L.map QS)),(617,.var [.sl 7 (a2.map Qu),.sl 3 (a3.map Qq),.sl 14 (a4.map Qh),.I a5,.I a6,.I a7,.map 618,.own 615 M.length,.own 616 L.length,.b a8]),(618,.map (QA V.s V.I a9))]⟩∧Qcq J a2 a3 a4 a5 a6 a7 a8 a9 L M=some o) ?_ ?_
   ·obtain⟨g,b5,h⟩:=Qb h
    obtain⟨b6,b7,h⟩:=Qb h
    refine Qa hC [.n 3,.o (.row (Qk g)),.v .no [] (.agg (Qk g)),.n 2,.O 8 (.var (Qk g)),.n 3,.K [0,1,4,8,45,46,47] [8,615,616,617,618]] rfl ⟨⟨⟨tt_,(QP b5)⟩,rfl⟩,rfl⟩ ?_
    refine AK.draw2 Qp hC mixed [.N,.N,.N,.a .no (some ([],.agg (Qd (Qj.mk c1 c2 c3 c4 c5)))) false,.N,.a .no (some ([],.agg (Qk g))) false,.a (.c false [.d,.d,.d] (.tup [.sl 1 (b6.1.map Qi),.I b6.2])) none false,.N,.N,.N,.N,.N] [] [] [0,1,4,8,9,10,45,46,47] [8,615,616,617,618] rfl rfl rfl ⟨⟨⟨tt_,rfl⟩,rfl⟩,(Qt2 _ _ _ b7)⟩ rfl (by kernel_rfl) rfl rfl rfl ?_
    refine tg_ hC [.n 6] rfl ?_
    refine AK.meet (fun σ=>∃l:Int,∃w:(List QJ),∃x:(List QN),∃y:(List QD),∃z:Int,∃A:Int,∃B:Int,∃P:Bool,∃b0:(List (ByteArray×Int)),∃p:(List QMk),σ=⟨[(0,.loc 617 0 0),(1,.I at_11),(4,.sl 1 (k.map Qi)),(8,.loc 8 0 0),(11,.I l),(45,.sl 4 (f.1.map Qk)),(46,.I (f.1.length:Int)),(47,.I J)],[(8,.var (Qk g)),(615,.arr 1 (p.map Qt)),(616,.arr 6 (j.map QS)),(617,.var [.sl 7 (w.map Qu),.sl 3 (x.map Qq),.sl 14 (y.map Qh),.I z,.I A,.I B,.map 618,.own 615 p.length,.own 616 j.length,.b P]),(618,.map (QA V.s V.I b0))]⟩∧Qcr J j at_11 g l w x y z A B P b0 p=some o) ?_ ?_
    ·refine tg_ hC [.n 6] rfl ?_
     rcases Qr h with⟨D,h⟩|⟨D,h⟩
     ·obtain⟨i,b8,h⟩:=Qb h
      refine Qa hC [.T,.n 3,.cm (.fn) [(617,617),(618,618),(615,615),(616,616)] [(615,615),(616,616),(617,617),(618,618)] [615,616] [.d,.d] [(615,.arr 1 (i.2.1.map Qt)),(616,.arr 6 (j.map QS)),(617,.var [.sl 7 (i.2.2.1.map Qu),.sl 3 (i.2.2.2.1.map Qq),.sl 14 (i.2.2.2.2.1.map Qh),.I i.2.2.2.2.2.1,.I i.2.2.2.2.2.2.1,.I i.2.2.2.2.2.2.2.1,.map 618,.own 615 i.2.1.length,.own 616 j.length,.b i.2.2.2.2.2.2.2.2.1]),(618,.map (QA V.s V.I i.2.2.2.2.2.2.2.2.2))] (.I i.1),.n 2,.K [0,1,4,8,11,45,46,47] [8,615,616,617,618]] rfl ⟨⟨tt_,D⟩,(Qjl _ _ _ _ _ _ _ _ _ _ _ b8)⟩ ?_
      exact AK.met (ex_ _ (ex_ _ (ex_ _ (ex_ _ (ex_ _ (ex_ _ (ex_ _ (ex_ _ (ex_ _ (ex_ _ (an_ rfl h)))))))))))
     refine Qa hC [.F,.n 1,.K [0,1,4,8,11,45,46,47] [8,615,616,617,618]] rfl ⟨tt_,D⟩ ?_
     exact AK.met (ex_ _ (ex_ _ (ex_ _ (ex_ _ (ex_ _ (ex_ _ (ex_ _ (ex_ _ (ex_ _ (ex_ _ (an_ rfl h)))))))))))
    rintro σ ⟨l,w,x,y,z,A,B,P,b0,p,rfl,h⟩
    refine tg_ hC [.n 7] rfl ?_
    rcases Qr h with⟨E,h⟩|⟨E,h⟩
    ·refine Qa hC [.T,.n 7,.O 617 (.var [.sl 7 (w.map Qu),.sl 3 (x.map Qq),.sl 14 (y.map Qh),.I z,.I A,.I B,.map 618,.own 615 p.length,.own 616 j.length,.b false]),.n 5,.K [0,1,4,45,46,47] [615,616,617,618]] rfl ⟨⟨tt_,E⟩,rfl⟩ ?_
     exact AK.met (ex_ _ (ex_ _ (ex_ _ (ex_ _ (ex_ _ (ex_ _ (ex_ _ (ex_ _ (ex_ _ (ex_ _ (an_ rfl h)))))))))))
    obtain⟨b9,h⟩:=QaX h
    refine Qa hC [.F,.n 2,.K [0,1,4,8,11,45,46,47] [8,615,616,617,618]] rfl ⟨tt_,E⟩ ?_
    refine AK.draw2 Qp hC mixed [.a .no none true,.N,.N,.N,.N,.N,.N,.N,.a .no (some ([],.agg (Qk g))) false,.a .no (some ([],.agg (QS (Qad.mk at_11 l g)))) false,.a (.bd []) (some ([],.sl 6 (([(Qad.mk at_11 l g)]:List Qad).map QS))) false,.m (.app ((j++[(Qad.mk at_11 l g)]).map QS) (j++[(Qad.mk at_11 l g)]).length),.N,.N,.N,.m .s] [0,1,4,8,11,45,46,47] [8,615,618] [0,1,4,45,46,47] [615,616,617,618] rfl rfl rfl ⟨⟨⟨⟨tt_,rfl⟩,rfl⟩,rfl⟩,⟨Qf,QbP b9 Qf,QaZ,QcP Qf⟩⟩ rfl (by kernel_rfl) rfl rfl rfl ?_
    refine Qa hC [.O 617 (.var [.sl 7 (w.map Qu),.sl 3 (x.map Qq),.sl 14 (y.map Qh),.I z,.I A,.I B,.map 618,.own 615 p.length,.own 616 (j++[(Qad.mk at_11 l g)]).length,.b P]),.n 1,.K [0,1,4,45,46,47] [615,616,617,618]] rfl ⟨tt_,rfl⟩ ?_
    exact AK.met (ex_ _ (ex_ _ (ex_ _ (ex_ _ (ex_ _ (ex_ _ (ex_ _ (ex_ _ (ex_ _ (ex_ _ (an_ rfl h)))))))))))
   rintro σ ⟨a2,a3,a4,a5,a6,a7,a8,a9,L,M,rfl,h⟩
   refine tg_ hC [.n 4,.K [0,1,4,45,46,47] [615,616,617,618]] rfl ?_
   cases h
   exact Q4 rfl rfl
  cases h
  exact Q6 rfl (an_ rfl rfl)
 obtain⟨c6,c7,c8,c9,d0,d1,d2,d3,d4,d5⟩:=c0
 replace h:Qjs c6 c7 c8 c9 d0 d1 d2 d3 d4 d5=some r:=h
 rintro e σ ⟨rfl,rfl⟩
 refine tg_ hC [.n 1,.K [] [615,616,617,618]] rfl ?_
 cases h
 refine AK.done ?_
 exact ex_ [] (an_ tt_ (gives ⟨rfl,rfl,rfl,rfl,tt_⟩))
def QgO (at_11:Int)(a:(List QJ))(b:(List QN))(c:(List QD))(d:Int)(e:Int)(f:Int)(g:Bool)(h:(List (ByteArray×Int)))(i:(List QMk))(j:(List Qad)):Option ((Int×(List QJ)×(List QN)×(List QD)×Int×Int×Int×Bool×(List (ByteArray×Int))×(List QMk)×(List Qad))⊕((List QJ)×(List QN)×(List QD)×Int×Int×Int×Bool×(List (ByteArray×Int))×(List QMk)×(List Qad))):=
 some (.inl ((w64 (at_11+1)),a,b,c,d,e,f,g,h,i,j))
def QgP (b:Int)(at_11:Int)(d:(List QJ))(e:(List QN))(f:(List QD))(g:Int)(h:Int)(i:Int)(l:Bool)(j:(List (ByteArray×Int)))(c:(List QMk))(k:(List Qad)):Option ((Int×(List QJ)×(List QN)×(List QD)×Int×Int×Int×Bool×(List (ByteArray×Int))×(List QMk)×(List Qad))⊕((List QJ)×(List QN)×(List QD)×Int×Int×Int×Bool×(List (ByteArray×Int))×(List QMk)×(List Qad))):=
 bif (decide (at_11<(c.length:Int)))then
 (idx c at_11).bind fun m=>
 (Qj1 m).bind fun n=>
 bif (decide (b<n))then
 QgO at_11 d e f g h i false j c k
 else
 (QeG d e f g h i j c k l at_11).bind fun a=>
 QgO at_11 a.2.2.1 a.2.2.2.1 a.2.2.2.2.1 a.2.2.2.2.2.1 a.2.2.2.2.2.2.1 a.2.2.2.2.2.2.2.1 a.2.2.2.2.2.2.2.2.1 a.2.2.2.2.2.2.2.2.2 a.1 a.2.1
 else
 some (.inr (d,e,f,g,h,i,l,j,c,k))
def QqE (d:(List QJ))(e:(List QN))(f:(List QD))(g:Int)(h:Int)(i:Int)(a:Bool)(j:(List (ByteArray×Int)))(b:(List QMk))(c:(List Qad)):Option Q5:=
 some (Q5.mk b c a)
def Qgb (d:Qj)(e:QMk)(a:Int)(b:Int):Option Q5:=
 bif (decide (a≤0))then
 some (Q5.mk ([]:(List QMk)) ([]:(List Qad)) false)
 else
 (QiZ e).bind fun f=>
 (Qc4 d.Colours d.Places d.Tasks d.From d.To a ([]:(List (ByteArray×Int))) ([]:List QMk) ([]:List Qad) true f).bind fun c=>
 (QK (fun st=>QgP b st.1 st.2.1 st.2.2.1 st.2.2.2.1 st.2.2.2.2.1 st.2.2.2.2.2.1 st.2.2.2.2.2.2.1 st.2.2.2.2.2.2.2.1 st.2.2.2.2.2.2.2.2.1 st.2.2.2.2.2.2.2.2.2.1 st.2.2.2.2.2.2.2.2.2.2) (0,c.2.2.1,c.2.2.2.1,c.2.2.2.2.1,c.2.2.2.2.2.1,c.2.2.2.2.2.2.1,c.2.2.2.2.2.2.2.1,c.2.2.2.2.2.2.2.2.1,c.2.2.2.2.2.2.2.2.2,c.2.1,([]:List Qad))).bind (fun q=>QqE q.1 q.2.1 q.2.2.1 q.2.2.2.1 q.2.2.2.2.1 q.2.2.2.2.2.1 q.2.2.2.2.2.2.1 q.2.2.2.2.2.2.2.1 q.2.2.2.2.2.2.2.2.1 q.2.2.2.2.2.2.2.2.2)
theorem QmF (i m2 a f){r}(h:Qgb i m2 a f=some r):Qc prog 17 [.agg (Qd i),.sl 1 (m2.map Qi),.I a,.I f] [] (Gives (.agg (QB r)) []):=by
 refine Qc.walk 59 func17 rfl rfl rfl fun C hC=>?_
 refine tg_ hC [.n 13] rfl ?_
 rcases Qr h with⟨u,h⟩|⟨u,h⟩
 ·refine Qa hC [.T,.n 2,.v .no [some 1,some 6,none] (.agg (QB (Q5.mk ([]:(List QMk)) ([]:(List Qad)) false))),.n 1,.O 8 (.var (QB (Q5.mk ([]:(List QMk)) ([]:(List Qad)) false))),.n 4,.K [8] [8]] rfl ⟨⟨⟨tt_,u⟩,rfl⟩,rfl⟩ ?_
  cases h
  exact AK.done (ex_ [_] (an_ (an_ (ex_ _ (ex_ _ (an_ rfl (an_ rfl (Or.inl (an_ (Qp.ag rfl) (an_ (Qp.sz rfl) rfl))))))) tt_) (gives tt_)))
 obtain⟨P,S,h⟩:=Qb h
 obtain⟨j,U,h⟩:=Qb h
 refine Qa hC [.F,.n 4,.v .no [] (.agg (Qd i)),.n 2,.O 16 (.map (QA V.s V.I ([]:(List (ByteArray×Int))))),.v .no [] (.agg [.sl 7 (i.Colours.map Qu),.sl 3 (i.Places.map Qq),.sl 14 (i.Tasks.map Qh),.I i.From,.I i.To,.I a,.map 16,.lit (.slice none 0 0),.lit (.slice none 0 0),.b false]),.n 11,.O 18 (.var [.sl 7 (i.Colours.map Qu),.sl 3 (i.Places.map Qq),.sl 14 (i.Tasks.map Qh),.I i.From,.I i.To,.I a,.map 16,.lit (.slice none 0 0),.lit (.slice none 0 0),.b true]),.n 6,.o (.co false [.d] 1 (P.map Qi) P.length),.frz 25 (P.map Qi) [25] [],.adoptO 18 7 608 1,.O 608 (.arr 1 (([]:List QMk).map Qt)),.O 18 (.var [.sl 7 (i.Colours.map Qu),.sl 3 (i.Places.map Qq),.sl 14 (i.Tasks.map Qh),.I i.From,.I i.To,.I a,.map 16,.own 608 ([]:List QMk).length,.lit (.slice none 0 0),.b true]),.adoptO 18 8 609 6,.O 609 (.arr 6 (([]:List Qad).map QS)),.O 18 (.var [.sl 7 (i.Colours.map Qu),.sl 3 (i.Places.map Qq),.sl 14 (i.Tasks.map Qh),.I i.From,.I i.To,.I a,.map 16,.own 608 ([]:List QMk).length,.own 609 ([]:List Qad).length,.b true]),.cm (.fn) [(617,18),(618,16),(615,608),(616,609)] [(608,615),(609,616),(18,617),(16,618)] [608,609] [.d,.d] [(615,.arr 1 (j.2.1.map Qt)),(616,.arr 6 (([]:List Qad).map QS)),(617,.var [.sl 7 (j.2.2.1.map Qu),.sl 3 (j.2.2.2.1.map Qq),.sl 14 (j.2.2.2.2.1.map Qh),.I j.2.2.2.2.2.1,.I j.2.2.2.2.2.2.1,.I j.2.2.2.2.2.2.2.1,.map 618,.own 615 j.2.1.length,.own 616 ([]:List Qad).length,.b j.2.2.2.2.2.2.2.2.1]),(618,.map (QA V.s V.I j.2.2.2.2.2.2.2.2.2))] (.I j.1),.n 9,.K [3,8,9,10] [8,16,18,608,609]] rfl ⟨⟨⟨⟨⟨⟨⟨⟨⟨⟨⟨⟨tt_,u⟩,rfl⟩,rfl⟩,rfl⟩,rfl⟩,⟨(Qnd _ S),Qf,.inl rfl⟩⟩,⟨tt_,(Qb7 Qf)⟩⟩,rfl⟩,rfl⟩,rfl⟩,rfl⟩,(Qjl _ _ _ _ _ _ _ _ _ _ _ U)⟩ ?_
 obtain⟨W,J,h⟩:=Qb h
 refine AK.loop (body:=(fun st=>QgP f st.1 st.2.1 st.2.2.1 st.2.2.2.1 st.2.2.2.2.1 st.2.2.2.2.2.1 st.2.2.2.2.2.2.1 st.2.2.2.2.2.2.2.1 st.2.2.2.2.2.2.2.2.1 st.2.2.2.2.2.2.2.2.2.1 st.2.2.2.2.2.2.2.2.2.2)) (fun st σ=>σ=⟨[(3,.I f),(8,.loc 8 0 0),(9,.loc 18 0 0),(10,.I st.1)],[(8,.var [.lit (.slice none 0 0),.lit (.slice none 0 0),.b false]),(16,.map (QA V.s V.I st.2.2.2.2.2.2.2.2.1)),(18,.var [.sl 7 (st.2.1.map Qu),.sl 3 (st.2.2.1.map Qq),.sl 14 (st.2.2.2.1.map Qh),.I st.2.2.2.2.1,.I st.2.2.2.2.2.1,.I st.2.2.2.2.2.2.1,.map 16,.own 608 st.2.2.2.2.2.2.2.2.2.1.length,.own 609 st.2.2.2.2.2.2.2.2.2.2.length,.b st.2.2.2.2.2.2.2.1]),(608,.arr 1 (st.2.2.2.2.2.2.2.2.2.1.map Qt)),(609,.arr 6 (st.2.2.2.2.2.2.2.2.2.2.map QS))]⟩) (fun q e σ=>e=.exit 0∧σ=⟨[(8,.loc 8 0 0),(9,.loc 18 0 0)],[(8,.var [.lit (.slice none 0 0),.lit (.slice none 0 0),.b false]),(16,.map (QA V.s V.I q.2.2.2.2.2.2.2.1)),(18,.var [.sl 7 (q.1.map Qu),.sl 3 (q.2.1.map Qq),.sl 14 (q.2.2.1.map Qh),.I q.2.2.2.1,.I q.2.2.2.2.1,.I q.2.2.2.2.2.1,.map 16,.own 608 q.2.2.2.2.2.2.2.2.1.length,.own 609 q.2.2.2.2.2.2.2.2.2.length,.b q.2.2.2.2.2.2.1]),(608,.arr 1 (q.2.2.2.2.2.2.2.2.1.map Qt)),(609,.arr 6 (q.2.2.2.2.2.2.2.2.2.map QS))]⟩) J rfl ?_ ?_
 ·rintro ⟨at_11,X,Y,Z,a0,a1,a2,b4,b5,a3,a4⟩ o σ rfl h
  refine tg_ hC [.n 13] rfl ?_
  refine bg_ h (fun k h=>Qa hC [.T,.n 2] rfl ⟨tt_,k⟩ ?_) fun k h=>Qa hC [.F,.n 2,.K [8,9] [8,16,18,608,609]] rfl ⟨tt_,k⟩ ?_
  ·refine AK.meet (fun σ=>∃w:(List QJ),∃x:(List QN),∃y:(List QD),∃z:Int,∃A:Int,∃B:Int,∃D:Bool,∃E:(List (ByteArray×Int)),∃m:(List QMk),∃p:(List Qad),σ=⟨[(3,.I f),(8,.loc 8 0 0),(9,.loc 18 0 0),(10,.I at_11)],[(8,.var [.lit (.slice none 0 0),.lit (.slice none 0 0),.b false]),(16,.map (QA V.s V.I E)),(18,.var [.sl 7 (w.map Qu),.sl 3 (x.map Qq),.sl 14 (y.map Qh),.I z,.I A,.I B,.map 16,.own 608 m.length,.own 609 p.length,.b D]),(608,.arr 1 (m.map Qt)),(609,.arr 6 (p.map QS))]⟩∧QgO at_11 w x y z A B D E m p=some o) ?_ ?_
   ·obtain⟨a5,t,h⟩:=Qb h
    obtain⟨a6,L,h⟩:=Qb h
    refine Qa hC [.n 11,.o (.row (Qt a5)),.o (.c false [.d] (.I a6)),.n 4] rfl ⟨⟨⟨tt_,(Qda t rfl)⟩,(QbV (QdE t).2)⟩,(Qqt _ L)⟩ ?_
    rcases Qr h with⟨l,h⟩|⟨l,h⟩
    ·refine Qa hC [.T,.n 7,.O 18 (.var [.sl 7 (X.map Qu),.sl 3 (Y.map Qq),.sl 14 (Z.map Qh),.I a0,.I a1,.I a2,.map 16,.own 608 a3.length,.own 609 a4.length,.b false]),.n 5,.K [3,8,9,10] [8,16,18,608,609]] rfl ⟨⟨tt_,l⟩,rfl⟩ ?_
     exact AK.met (ex_ _ (ex_ _ (ex_ _ (ex_ _ (ex_ _ (ex_ _ (ex_ _ (ex_ _ (ex_ _ (ex_ _ (an_ rfl h)))))))))))
    obtain⟨g,M,h⟩:=Qb h
    refine Qa hC [.F,.n 5,.cm (.fn) [(617,18),(618,16),(615,608),(616,609)] [(608,615),(609,616),(18,617),(16,618)] [608,609] [.d,.d] [(615,.arr 1 (g.1.map Qt)),(616,.arr 6 (g.2.1.map QS)),(617,.var [.sl 7 (g.2.2.1.map Qu),.sl 3 (g.2.2.2.1.map Qq),.sl 14 (g.2.2.2.2.1.map Qh),.I g.2.2.2.2.2.1,.I g.2.2.2.2.2.2.1,.I g.2.2.2.2.2.2.2.1,.map 618,.own 615 g.1.length,.own 616 g.2.1.length,.b g.2.2.2.2.2.2.2.2.1]),(618,.map (QA V.s V.I g.2.2.2.2.2.2.2.2.2))] (.tup []),.n 2,.K [3,8,9,10] [8,16,18,608,609]] rfl ⟨⟨tt_,l⟩,(QoU _ _ _ _ _ _ _ _ _ _ _ M)⟩ ?_
    exact AK.met (ex_ _ (ex_ _ (ex_ _ (ex_ _ (ex_ _ (ex_ _ (ex_ _ (ex_ _ (ex_ _ (ex_ _ (an_ rfl h)))))))))))
   rintro σ ⟨w,x,y,z,A,B,D,E,m,p,rfl,h⟩
   refine tg_ hC [.n 5,.K [3,8,9,10] [8,16,18,608,609]] rfl ?_
   cases h
   exact Q4 rfl rfl
  cases h
  exact Q6 rfl (an_ rfl rfl)
 obtain⟨a7,a8,a9,b0,b1,b2,N,b3,G,H⟩:=W
 replace h:QqE a7 a8 a9 b0 b1 b2 N b3 G H=some r:=h
 rintro e σ ⟨rfl,rfl⟩
 refine Qa hC [.n 9,.O 8 (.var [.own 608 G.length,.own 609 H.length,.b N]),.n 3,.frz 608 (G.map Qt) [] [8],.frz 609 (H.map QS) [] [8],.K [8] [8]] rfl ⟨⟨⟨tt_,rfl⟩,⟨tt_,⟨(Qb7 Qf),⟨tt_,tt_⟩⟩⟩⟩,⟨tt_,⟨(Qb7 Qf),tt_⟩⟩⟩ ?_
 cases h
 exact AK.done (ex_ [_] (an_ (an_ (ex_ _ (ex_ _ (an_ rfl (an_ rfl (Or.inl (an_ (Qp.ag rfl) (an_ (Qp.sz rfl) rfl))))))) tt_) (gives tt_)))
def QdO (c:Qj)(a:Int)(b:Int):Option Q5:=
 (QeO c).bind fun d=>
 (Qgb c d a b).bind fun e=>
 some e
theorem QgQ (f b e){r}(h:QdO f b e=some r):Qc prog 10 [.agg (Qd f),.I b,.I e] [] (Gives (.agg (QB r)) []):=by
 refine Qc.walk 13 func10 rfl rfl rfl fun C hC=>?_
 obtain⟨j,g,h⟩:=Qb h
 obtain⟨k,i,h⟩:=Qb h
 refine tg_ hC [.n 7,.K [1,2,3,6] [3,6]] rfl ?_
 refine AK.draw2 Qp hC mixed [.a .no (some ([],.agg (Qd f))) false,.a .no (some ([],.agg (Qd f))) false,.a (.cd false [.d] 1 (j.map Qi) j.length) none false,.N,.N,.a (.c false [.d,.d,.d,.d] (.agg (QB k))) none false,.m .s] [] [] [6] [6] rfl rfl rfl ⟨⟨⟨⟨tt_,rfl⟩,rfl⟩,⟨(Qmm _ g),Qf⟩⟩,(QmF _ _ _ _ i)⟩ rfl (by kernel_rfl) rfl rfl rfl ?_
 refine Qa hC [.O 6 (.var (QB k)),.n 2,.K [6] [6]] rfl ⟨tt_,rfl⟩ ?_
 cases h
 exact AK.done (ex_ [_] (an_ (an_ (ex_ _ (ex_ _ (an_ rfl (an_ rfl (Or.inl (an_ (Qp.ag rfl) (an_ (Qp.sz rfl) rfl))))))) tt_) (gives tt_)))
def QlB (a:Int)(b:Q5):Option Bool:=
 some ((decide (0≤a))&&(decide (a<(b.States.length:Int))))
theorem QlW (c d){r}(h:QlB c d=some r):Qc prog 72 [.I c,.loc 617 0 0] [(617,.var (QB d))] (Gives (.b r) [(617,.var (QB d))]):=by
 refine Qc.walk 13 func72 rfl rfl rfl fun C hC=>?_
 refine tg_ hC [.n 6] rfl ?_
 refine AK.meetX (fun σ=>σ=⟨[(3,.b ((decide (0≤c))&&(decide (c<(d.States.length:Int)))))],[(617,.var (QB d))]⟩) ?_ ?_
 ·refine tg_ hC [.n 4] rfl ?_
  rcases Q3 (decide (0≤c))with a | a
  ·refine Qa hC [.S 6 (.b true),.n 3,.o (.ln d.States.length),.n 4,.S 3 (.b ((decide (0≤c))&&(decide (c<(d.States.length:Int))))),.K [3] [617]] rfl ⟨⟨(tc_ a),Qf⟩,(congrArg V.b (Qb6 a rfl))⟩ ?_
   exact AK.met rfl
  refine Qa hC [.S 6 (.b false),.n 8,.S 3 (.b ((decide (0≤c))&&(decide (c<(d.States.length:Int))))),.K [3] [617]] rfl ⟨(tc_ a),(congrArg V.b (Qd2 a rfl))⟩ ?_
  exact AK.met rfl
 rintro σ rfl
 refine tg_ hC [.n 2] rfl ?_
 cases h
 exact d1_ rfl rfl ⟨rfl,tt_⟩
def Qnl (b:Int)(a:(List (Int×(List Int)))):Option ((Int×(List (Int×(List Int))))⊕(List (Int×(List Int)))):=
 some (.inl ((w64 (b+1)),a))
def Qxt (a:Qad)(d:Q5):Option Bool:=
 (QlB a.From d).bind fun b=>
 bif b then
 (QlB a.To d).bind fun c=>
 some c
 else
 some false
def Qnm (b:(List (Int×(List Int))))(a:Qad)(d:Int)(c:Bool):Option ((Int×(List (Int×(List Int))))⊕(List (Int×(List Int)))):=
 bif c then
 (chk (decide (((QG b a.To).getD []).length+([a.From]:List Int).length≤4294967296))).bind fun _=>
 Qnl d (Qan ltI b a.To (((QG b a.To).getD [])++[a.From]))
 else
 Qnl d b
def Qrz (b:Q5)(c:Int)(e:(List (Int×(List Int)))):Option ((Int×(List (Int×(List Int))))⊕(List (Int×(List Int)))):=
 bif (decide (c<(b.Edges.length:Int)))then
 (idx b.Edges c).bind fun a=>
 (Qxt a b).bind (fun d=>Qnm e a c d)
 else
 some (.inr e)
def Qnn (a:Int)(b:QBg)(c:(List Int)):Option ((Int×QBg×(List Int))⊕(QBg×(List Int))):=
 some (.inl ((w64 (a+1)),b,c))
def QrA (e:(List (Int×(List Int))))(f:Int)(c:Int)(a:QBg)(b:(List Int)):Option ((Int×QBg×(List Int))⊕(QBg×(List Int))):=
 bif (decide (c<(((QG e f).getD ([]:(List Int))).length:Int)))then
 (idx ((QG e f).getD ([]:(List Int))) c).bind fun d=>
 bif (!(QG a d).isSome)then
 (idx b 0).bind fun g=>
 (chk (decide (b.length+([d]:List Int).length≤4294967296))).bind fun _=>
 Qnn c (Qan ltI a d (w64 (((QG a g).getD 0)+1))) (b++([d]:List Int))
 else
 Qnn c a b
 else
 some (.inr (a,b))
def QrB (b:QBg)(a:(List Int)):Option ((QBg×(List Int))⊕QBg):=
 (chk (decide (0≤1)&&decide (1≤a.length))).bind fun _=>
 some (.inl (b,(a.drop 1)))
def QrC (c:(List (Int×(List Int))))(b:QBg)(a:(List Int)):Option ((QBg×(List Int))⊕QBg):=
 bif (decide (0<(a.length:Int)))then
 (idx a 0).bind fun d=>
 (QK (fun st=>QrA c d st.1 st.2.1 st.2.2) (0,b,a)).bind (fun q=>QrB q.1 q.2)
 else
 some (.inr b)
def QrD (a:QBg):Option QBg:=
 some a
def QqF (b:Int)(a:(List (Int×(List Int)))):Option QBg:=
 (QK (fun st=>QrC a st.1 st.2) ((Qan ltI ([]:QBg) b 0),([b]:List Int))).bind (fun q=>QrD q)
def Qvu (a:Q5)(b:Int):Option QBg:=
 (QlB b a).bind fun c=>
 bif (!c)then
 some ([]:QBg)
 else
 (QK (fun st=>Qrz a st.1 st.2) (0,([]:(List (Int×(List Int)))))).bind (fun q=>QqF b q)
theorem Qxu (s w){r}(h:Qvu s w=some r):Qc prog 45 [.agg (QB s),.I w] [] (Gives (.map 602) [(602,.map (QA V.I V.I r))]):=by
 refine Qc.walk 93 func45 rfl rfl rfl fun C hC=>?_
 obtain⟨x5,b3,h⟩:=Qb h
 refine Qa hC [.n 15,.O 16 (.map (QA V.I V.I ([]:QBg))),.n 8,.cm (.clo) [(617,2)] [(2,617)] [] [.d,.d] [(617,.var (QB s))] (.b x5),.n 3] rfl ⟨⟨tt_,rfl⟩,(QlW _ _ b3)⟩ ?_
 refine bg_ h (fun W h=>Qa hC [.T,.n 8,.K [4] [16],.ren 16 602,.K [4] [602]] rfl ⟨tt_,W⟩ ?_) fun W h=>Qa hC [.F,.n 4,.x (fun σ=>(σ.set 22 (.grp 1 [] none)).put 22 (.map 22)),.O 22 (.grp 1 (Qna V.I Qe ([]:(List (Int×(List Int))))) none),.n 8,.o (.ln s.Edges.length),.n 4,.K [1,5,6,7,24,25,26] [2,16,22]] rfl ⟨⟨⟨⟨tt_,W⟩,(Stp.makeGrp 1 rfl rfl (QO hC.n rfl) rfl)⟩,rfl⟩,Qf⟩ ?_
 ·cases h
  exact d1_ rfl rfl ⟨rfl,tt_⟩
 obtain⟨g,a1,h⟩:=Qb h
 refine AK.loop (body:=(fun st=>Qrz s st.1 st.2)) (fun st σ=>σ=⟨[(1,.I w),(5,.clo (.func 72) [] [.loc 2 0 0]),(6,.map 16),(7,.map 22),(24,.sl 6 (s.Edges.map QS)),(25,.I (s.Edges.length:Int)),(26,.I st.1)],[(2,.var (QB s)),(16,.map (QA V.I V.I ([]:QBg))),(22,.grp 1 (Qna V.I Qe st.2) none)]⟩) (fun q e σ=>e=.exit 0∧σ=⟨[(1,.I w),(6,.map 16),(7,.map 22)],[(16,.map (QA V.I V.I ([]:QBg))),(22,.grp 1 (Qna V.I Qe q) none)]⟩) a1 rfl ?_ ?_
 ·rintro ⟨x8,u⟩ o σ rfl h
  refine tg_ hC [.n 6] rfl ?_
  refine bg_ h (fun y h=>Qa hC [.T,.n 2] rfl ⟨tt_,y⟩ ?_) fun y h=>Qa hC [.F,.n 2,.K [1,6,7] [16,22]] rfl ⟨tt_,y⟩ ?_
  ·refine AK.meet (fun σ=>∃X:(List (Int×(List Int))),σ=⟨[(1,.I w),(5,.clo (.func 72) [] [.loc 2 0 0]),(6,.map 16),(7,.map 22),(24,.sl 6 (s.Edges.map QS)),(25,.I (s.Edges.length:Int)),(26,.I x8)],[(2,.var (QB s)),(16,.map (QA V.I V.I ([]:QBg))),(22,.grp 1 (Qna V.I Qe X) none)]⟩∧Qnl x8 X=some o) ?_ ?_
   ·obtain⟨c,a2,h⟩:=Qb h
    refine Qa hC [.n 3,.o (.row (QS c)),.v .no [] (.agg (QS c)),.n 2,.O 9 (.var (QS c)),.n 3] rfl ⟨⟨⟨tt_,(QP a2)⟩,rfl⟩,rfl⟩ ?_
    obtain⟨Y,a3,h⟩:=Qb h
    replace h:Qnm u c x8 Y=some o:=h
    refine AK.meetX (fun σ=>σ=⟨[(1,.I w),(5,.clo (.func 72) [] [.loc 2 0 0]),(6,.map 16),(7,.map 22),(9,.loc 9 0 0),(24,.sl 6 (s.Edges.map QS)),(25,.I (s.Edges.length:Int)),(26,.I x8),(39,.b Y)],[(2,.var (QB s)),(9,.var (QS c)),(16,.map (QA V.I V.I ([]:QBg))),(22,.grp 1 (Qna V.I Qe u) none)]⟩) ?_ ?_
    ·replace h:=a3
     obtain⟨b4,a4,h⟩:=Qb h
     refine Qa hC [.n 4,.cm (.clo) [(617,2)] [(2,617)] [] [.d,.d] [(617,.var (QB s))] (.b b4),.n 1] rfl ⟨tt_,(QlW _ _ a4)⟩ ?_
     rcases Qr h with⟨A,h⟩|⟨A,h⟩
     ·obtain⟨b5,a5,h⟩:=Qb h
      refine Qa hC [.S 34 (.b true),.n 3,.cm (.clo) [(617,2)] [(2,617)] [] [.d,.d] [(617,.var (QB s))] (.b b5),.n 2,.K [1,5,6,7,9,24,25,26,39] [2,9,16,22]] rfl ⟨(tc_ A),(QlW _ _ a5)⟩ ?_
      cases h
      exact AK.met rfl
     refine Qa hC [.S 34 (.b false),.n 6,.K [1,5,6,7,9,24,25,26,39] [2,9,16,22]] rfl (tc_ A) ?_
     cases h
     exact AK.met rfl
    rintro σ rfl
    replace h:Qnm u c x8 Y=some o:=h
    refine tg_ hC [.n 1] rfl ?_
    rcases Qr h with⟨B,h⟩|⟨B,h⟩
    ·obtain⟨a6,h⟩:=QaX h
     refine Qa hC [.T,.K [1,5,6,7,9,24,25,26] [2,9,16,22]] rfl ⟨tt_,B⟩ ?_
     refine AK.draw2 Qp hC mixed [.a .no none true,.a .no none true,.a .no none true,.N,.N,.N,.m (.any ⟨[46],[(46,.arr 1 (((QG u c.To).getD []).map Qe)),(22,.grp 1 (Qna V.I Qe u) (some (V.I c.To)))],some (46,.own 46 ((QG u c.To).getD []).length)⟩),.a .no none true,.a .no none true,.a (.bd []) (some ([],.sl 1 (([c.From]:List Int).map Qe))) true,.m (.app ((((QG u c.To).getD [])++[c.From]).map Qe) (((QG u c.To).getD [])++[c.From]).length),.m (.any ⟨[46],[(22,.grp 1 (Qna V.I Qe (Qan ltI u c.To (((QG u c.To).getD [])++[c.From]))) none)],none⟩)] [1,5,6,7,9,24,25,26] [2,9,16] [1,5,6,7,24,25,26] [2,16,22] rfl rfl rfl ⟨⟨⟨⟨tt_,(fun σ t J=>Stp.lookupOutT (e:=V.I) (f:=Qe) (l:=u) (k:=c.To) rfl rfl (QO hC.n rfl) (t _ _ rfl) (J _ _ rfl) (t _ _ rfl) Qy7 Qdg QEO rfl rfl rfl rfl rfl)⟩,rfl⟩,⟨Qf,QbP a6 Qf,QaZ,QcP Qf⟩⟩,(fun σ t J=>Stp.updateBackT (e:=V.I) (f:=Qe) (l:=u) (k:=c.To) (((QG u c.To).getD [])++[c.From]) ltI rfl rfl (t _ _ rfl) (J _ _ rfl) (t _ _ rfl) (t _ _ rfl) (J _ _ rfl) Qy7 Qdg rfl rfl rfl rfl rfl (by simp))⟩ rfl (by kernel_rfl) rfl rfl rfl ?_
     refine tg_ hC [.n 1,.K [1,5,6,7,24,25,26] [2,16,22]] rfl ?_
     exact AK.met (ex_ _ (an_ rfl h))
    refine Qa hC [.F,.n 2,.K [1,5,6,7,24,25,26] [2,16,22]] rfl ⟨tt_,B⟩ ?_
    exact AK.met (ex_ _ (an_ rfl h))
   rintro σ ⟨X,rfl,h⟩
   refine tg_ hC [.n 4,.K [1,5,6,7,24,25,26] [2,16,22]] rfl ?_
   cases h
   exact Q4 rfl rfl
  cases h
  exact Q6 rfl (an_ rfl rfl)
 replace h:QqF w g=some r:=h
 rintro e σ ⟨rfl,rfl⟩
 refine Qa hC [.n 6,.x (fun σ=>σ.set 16 (.map (QA V.I V.I (Qan ltI ([]:QBg) w 0)))),.n 7,.O 55 (.arr 1 (([w]:List Int).map Qe)),.S 55 (.own 55 ([w]:List Int).length),.n 4] rfl ⟨⟨⟨tt_,(Stp.mapUpdate (e:=V.I) (f:=V.I) (l:=([]:QBg)) (k:=w) (v:=0) ltI rfl rfl rfl rfl rfl rfl Qml Qdg rfl)⟩,rfl⟩,rfl⟩ ?_
 refine AK.grpMap (b:=22) (e:=V.I) (f:=Qe) (l:=g) Qdg rfl rfl ?_
 refine Qa hC [.O 22 (.map (QA V.I (fun x=>V.sl 1 (x.map Qe)) g)),.K [6,7,10] [16,22,55]] rfl ⟨tt_,rfl⟩ ?_
 obtain⟨b6,a7,h⟩:=Qb h
 refine AK.loop (body:=(fun st=>QrC g st.1 st.2)) (fun st σ=>σ=⟨[(6,.map 16),(7,.map 22),(10,.own 55 st.2.length)],[(16,.map (QA V.I V.I st.1)),(22,.map (QA V.I (fun x=>V.sl 1 (x.map Qe)) g)),(55,.arr 1 (st.2.map Qe))]⟩) (fun q e σ=>e=.exit 2∧σ=⟨[(6,.map 16)],[(16,.map (QA V.I V.I q))]⟩) a7 rfl ?_ ?_
 ·rintro ⟨b9,c0⟩ o σ rfl h
  refine tg_ hC [.n 8] rfl ?_
  rcases Qr h with⟨D,h⟩|⟨D,h⟩
  ·obtain⟨i,M,h⟩:=Qb h
   refine Qa hC [.T,.n 9,.o (.row (Qe i)),.o (.any (.sl 1 (((QG g i).getD ([]:(List Int))).map Qe)) none),.o (.ln ((QG g i).getD ([]:(List Int))).length),.n 4,.K [6,7,10,65,66,67] [16,22,55]] rfl ⟨⟨⟨⟨⟨tt_,D⟩,(Qda M rfl)⟩,(QbV (QdE M).2)⟩,(fun σ t J _=>Stp.lookup (e:=V.I) (f:=(fun x=>V.sl 1 (x.map Qe))) (l:=g) (k:=i) (z:=([]:(List Int))) rfl rfl (QO hC.n rfl) (t _ _ rfl) (J _ _ rfl) (t _ _ rfl) Qy7 Qdg QES rfl)⟩,Qf⟩ ?_
   obtain⟨b7,a8,h⟩:=Qb h
   refine AK.loop (body:=(fun st=>QrA g i st.1 st.2.1 st.2.2)) (fun st σ=>σ=⟨[(6,.map 16),(7,.map 22),(10,.own 55 st.2.2.length),(65,.sl 1 (((QG g i).getD ([]:(List Int))).map Qe)),(66,.I (((QG g i).getD ([]:(List Int))).length:Int)),(67,.I st.1)],[(16,.map (QA V.I V.I st.2.1)),(22,.map (QA V.I (fun x=>V.sl 1 (x.map Qe)) g)),(55,.arr 1 (st.2.2.map Qe))]⟩) (fun q e σ=>e=.exit 4∧σ=⟨[(6,.map 16),(7,.map 22),(10,.own 55 q.2.length)],[(16,.map (QA V.I V.I q.1)),(22,.map (QA V.I (fun x=>V.sl 1 (x.map Qe)) g)),(55,.arr 1 (q.2.map Qe))]⟩) a8 rfl ?_ ?_
   ·rintro ⟨a9,j,b0⟩ o σ rfl h
    refine tg_ hC [.n 6] rfl ?_
    refine bg_ h (fun E h=>Qa hC [.T,.n 2] rfl ⟨tt_,E⟩ ?_) fun E h=>Qa hC [.F,.n 2,.K [6,7,10] [16,22,55]] rfl ⟨tt_,E⟩ ?_
    ·refine AK.meet (fun σ=>∃Z:QBg,∃L:(List Int),σ=⟨[(6,.map 16),(7,.map 22),(10,.own 55 L.length),(65,.sl 1 (((QG g i).getD ([]:(List Int))).map Qe)),(66,.I (((QG g i).getD ([]:(List Int))).length:Int)),(67,.I a9)],[(16,.map (QA V.I V.I Z)),(22,.map (QA V.I (fun x=>V.sl 1 (x.map Qe)) g)),(55,.arr 1 (L.map Qe))]⟩∧Qnn a9 Z L=some o) ?_ ?_
     ·obtain⟨p,b1,h⟩:=Qb h
      refine Qa hC [.n 3,.o (.row (Qe p)),.n 8,.o (.any (.tup [.I ((QG j p).getD 0),.b (QG j p).isSome]) none),.n 13] rfl ⟨⟨tt_,(QP b1)⟩,(fun σ t J _=>Stp.lookupOk (e:=V.I) (f:=V.I) (l:=j) (k:=p) (z:=0) rfl rfl (QO hC.n rfl) (t _ _ rfl) (J _ _ rfl) (t _ _ rfl) Qml Qdg QkZ rfl rfl)⟩ ?_
      rcases Qr h with⟨G,h⟩|⟨G,h⟩
      ·obtain⟨H,P,h⟩:=Qb h
       obtain⟨b2,h⟩:=QaX h
       refine Qa hC [.T,.n 7,.o (.row (Qe H)),.o (.any (.I ((QG j H).getD 0)) none),.n 1,.x (fun σ=>σ.set 16 (.map (QA V.I V.I (Qan ltI j p (w64 (((QG j H).getD 0)+1)))))),.n 5,.v (.bd []) [] (.sl 1 (([p]:List Int).map Qe)),.app ((b0++([p]:List Int)).map Qe) (b0++([p]:List Int)).length,.n 3,.K [6,7,10,65,66,67] [16,22,55]] rfl ⟨⟨⟨⟨⟨⟨⟨tt_,G⟩,(Qda P rfl)⟩,(QbV (QdE P).2)⟩,(fun σ t J _=>Stp.lookup (e:=V.I) (f:=V.I) (l:=j) (k:=H) (z:=0) rfl rfl (QO hC.n rfl) (t _ _ rfl) (J _ _ rfl) (t _ _ rfl) Qml Qdg QkZ rfl)⟩,(Stp.mapUpdate (e:=V.I) (f:=V.I) (l:=j) (k:=p) (v:=(w64 (((QG j H).getD 0)+1))) ltI rfl rfl rfl rfl rfl rfl Qml Qdg rfl)⟩,rfl⟩,⟨Qf,QbP b2 Qf,QaZ,QcP Qf⟩⟩ ?_
       exact AK.met (ex_ _ (ex_ _ (an_ rfl h)))
      refine Qa hC [.F,.n 2,.K [6,7,10,65,66,67] [16,22,55]] rfl ⟨tt_,G⟩ ?_
      exact AK.met (ex_ _ (ex_ _ (an_ rfl h)))
     rintro σ ⟨Z,L,rfl,h⟩
     refine tg_ hC [.n 4,.K [6,7,10,65,66,67] [16,22,55]] rfl ?_
     cases h
     exact Q4 rfl rfl
    cases h
    exact Q6 rfl (an_ rfl rfl)
   obtain⟨b8,a0⟩:=b7
   replace h:QrB b8 a0=some o:=h
   rintro e σ ⟨rfl,rfl⟩
   obtain⟨U,h⟩:=QaX h
   refine Qa hC [.n 5,.x (fun σ=>σ.app 55 1 60 (a0.drop 1).length ((a0.drop 1).map Qe)),.n 2,.K [6,7,10] [16,22,55]] rfl ⟨tt_,(Stp.sliceT rfl rfl (QO hC.n rfl) rfl rfl rfl (Qp.es rfl) (Bnd.val rfl (Q8 (Qrp U)) rfl) (Bnd.none_ rfl) (QBj (Qmi U)) (QbX _) QEM QEN)⟩ ?_
   cases h
   exact Q4 rfl rfl
  refine Qa hC [.F,.n 2,.K [6] [16]] rfl ⟨tt_,D⟩ ?_
  cases h
  exact Q6 rfl (an_ rfl rfl)
 replace h:QrD b6=some r:=h
 rintro e σ ⟨rfl,rfl⟩
 refine tg_ hC [.n 9,.K [4] [16],.ren 16 602] rfl ?_
 cases h
 exact d1_ rfl rfl ⟨rfl,tt_⟩
def Qno (b:Int)(a:(List Int)):Option ((Int×(List Int))⊕(List Int)):=
 some (.inl ((w64 (b+1)),a))
def QrE (d:Q5)(e:Int)(a:Int)(b:(List Int)):Option ((Int×(List Int))⊕(List Int)):=
 bif (decide (a<(d.Edges.length:Int)))then
 (idx d.Edges a).bind fun c=>
 bif (c.From==e)then
 (chk (decide (b.length+([a]:List Int).length≤4294967296))).bind fun _=>
 Qno a (b++([a]:List Int))
 else
 Qno a b
 else
 some (.inr b)
def QrF (a:(List Int)):Option (List Int):=
 some a
def QnJ (a:Q5)(b:Int):Option (List Int):=
 (QK (fun st=>QrE a b st.1 st.2) (0,([]:List Int))).bind (fun q=>QrF q)
theorem Qnp (d g){r}(h:QnJ d g=some r):Qc prog 16 [.agg (QB d),.I g] [] (Gives (.own 600 r.length) [(600,.arr 1 (r.map Qe))]):=by
 refine Qc.walk 26 func16 rfl rfl rfl fun C hC=>?_
 refine Qa hC [.n 16,.o (.ln d.Edges.length),.n 4,.adopt 5 20 1,.O 20 (.arr 1 (([]:List Int).map Qe)),.S 5 (.own 20 ([]:List Int).length),.K [1,5,9,10,11] [20]] rfl ⟨⟨⟨tt_,Qf⟩,rfl⟩,(congrArg (fun n=>V.own 20 n) (by simp))⟩ ?_
 obtain⟨p,i,h⟩:=Qb h
 refine AK.loop (body:=(fun st=>QrE d g st.1 st.2)) (fun st σ=>σ=⟨[(1,.I g),(5,.own 20 st.2.length),(9,.sl 6 (d.Edges.map QS)),(10,.I (d.Edges.length:Int)),(11,.I st.1)],[(20,.arr 1 (st.2.map Qe))]⟩) (fun q e σ=>e=.exit 0∧σ=⟨[(5,.own 20 q.length)],[(20,.arr 1 (q.map Qe))]⟩) i rfl ?_ ?_
 ·rintro ⟨j,m⟩ o σ rfl h
  refine tg_ hC [.n 6] rfl ?_
  refine bg_ h (fun a h=>Qa hC [.T,.n 2] rfl ⟨tt_,a⟩ ?_) fun a h=>Qa hC [.F,.n 2,.K [5] [20]] rfl ⟨tt_,a⟩ ?_
  ·refine AK.meet (fun σ=>∃c:(List Int),σ=⟨[(1,.I g),(5,.own 20 c.length),(9,.sl 6 (d.Edges.map QS)),(10,.I (d.Edges.length:Int)),(11,.I j)],[(20,.arr 1 (c.map Qe))]⟩∧Qno j c=some o) ?_ ?_
   ·obtain⟨f,k,h⟩:=Qb h
    refine Qa hC [.n 4,.o (.row (QS f)),.v .no [] (.agg (QS f)),.n 3,.O 7 (.var (QS f)),.n 10] rfl ⟨⟨⟨tt_,(QP k)⟩,rfl⟩,rfl⟩ ?_
    rcases Qr h with⟨b,h⟩|⟨b,h⟩
    ·obtain⟨l,h⟩:=QaX h
     refine Qa hC [.T,.n 3,.v (.bd []) [] (.sl 1 (([j]:List Int).map Qe)),.app ((m++([j]:List Int)).map Qe) (m++([j]:List Int)).length,.n 3,.K [1,5,9,10,11] [20]] rfl ⟨⟨⟨tt_,b⟩,rfl⟩,⟨Qf,QbP l Qf,QaZ,QcP Qf⟩⟩ ?_
     exact AK.met (ex_ _ (an_ rfl h))
    refine Qa hC [.F,.n 2,.K [1,5,9,10,11] [20]] rfl ⟨tt_,b⟩ ?_
    exact AK.met (ex_ _ (an_ rfl h))
   rintro σ ⟨c,rfl,h⟩
   refine tg_ hC [.n 4,.K [1,5,9,10,11] [20]] rfl ?_
   cases h
   exact Q4 rfl rfl
  cases h
  exact Q6 rfl (an_ rfl rfl)
 replace h:QrF p=some r:=h
 rintro e σ ⟨rfl,rfl⟩
 refine tg_ hC [.n 9,.K [4] [20],.ren 20 600] rfl ?_
 cases h
 exact d1_ rfl rfl ⟨rfl,tt_⟩
def QrG (c:Int)(a:QBg)(d:Q5)(e:Int):Option Bool:=
 (idx d.Edges c).bind fun b=>
 some ((QG a b.To).isSome&&(((QG a b.To).getD 0)==(w64 (((QG a e).getD 0)-1))))
theorem QuW (s c m i){r}(h:QrG s c m i=some r):Qc prog 46 [.I s,.loc 617 0 0,.loc 619 0 0,.loc 620 0 0] [(617,.var [.map 618]),(618,.map (QA V.I V.I c)),(619,.var (QB m)),(620,.var (Qe i))] (Gives (.b r) [(617,.var [.map 618]),(618,.map (QA V.I V.I c)),(619,.var (QB m)),(620,.var (Qe i))]):=by
 refine Qc.walk 28 func46 rfl rfl rfl fun C hC=>?_
 obtain⟨d,p,h⟩:=Qb h
 refine tg_ hC [.n 6,.K [0,1,2,3] [617,618,619,620]] rfl ?_
 refine AK.draw2 Qp hC mixed [.N,.N,.N,.N,.a (.row (QS d)) none false,.N,.N,.a (.any (.tup [.I ((QG c d.To).getD 0),.b (QG c d.To).isSome]) none) none false,.N,.N,.N,.N,.N] [] [] [1,3,6,7] [617,618,619,620] rfl rfl rfl ⟨⟨tt_,(QP p)⟩,(fun σ j q _=>Stp.lookupOk (e:=V.I) (f:=V.I) (l:=c) (k:=d.To) (z:=0) rfl rfl (QO hC.n rfl) (j _ _ rfl) (q _ _ rfl) (j _ _ rfl) Qml Qdg QkZ rfl rfl)⟩ rfl (by kernel_rfl) rfl rfl rfl ?_
 refine tg_ hC [.n 2] rfl ?_
 refine AK.meetX (fun σ=>σ=⟨[(5,.b ((QG c d.To).isSome&&(((QG c d.To).getD 0)==(w64 (((QG c i).getD 0)-1)))))],[(617,.var [.map 618]),(618,.map (QA V.I V.I c)),(619,.var (QB m)),(620,.var (Qe i))]⟩) ?_ ?_
 ·refine tg_ hC [.n 3] rfl ?_
  rcases Q3 (QG c d.To).isSome with g | g
  ·refine Qa hC [.S 20 (.b true),.n 3,.o (.any (.I ((QG c i).getD 0)) none),.n 5,.S 5 (.b ((QG c d.To).isSome&&(((QG c d.To).getD 0)==(w64 (((QG c i).getD 0)-1))))),.K [5] [617,618,619,620]] rfl ⟨⟨(tc_ g),(fun σ j q _=>Stp.lookup (e:=V.I) (f:=V.I) (l:=c) (k:=i) (z:=0) rfl rfl (QO hC.n rfl) (j _ _ rfl) (q _ _ rfl) (j _ _ rfl) Qml Qdg QkZ rfl)⟩,(congrArg V.b (Qb6 g rfl))⟩ ?_
   exact AK.met rfl
  refine Qa hC [.S 20 (.b false),.n 9,.S 5 (.b ((QG c d.To).isSome&&(((QG c d.To).getD 0)==(w64 (((QG c i).getD 0)-1))))),.K [5] [617,618,619,620]] rfl ⟨(tc_ g),(congrArg V.b (Qd2 g rfl))⟩ ?_
  exact AK.met rfl
 rintro σ rfl
 refine tg_ hC [.n 2] rfl ?_
 cases h
 exact d1_ rfl rfl ⟨rfl,rfl,rfl,rfl,tt_⟩
def Qgc (d:(List Int))(e:QBg)(f:Q5)(g:Int)(a:Int):Option (Int⊕(Int⊕Unit)):=
 bif (decide (a<(d.length:Int)))then
 (idx d a).bind fun b=>
 (QrG b e f g).bind fun c=>
 bif c then
 some (.inr (.inl a))
 else
 some (.inl (w64 (a+1)))
 else
 some (.inr (.inr ()))
def Qgd (a:Int):Option Int:=
 some a
def Qge : Option Int:=
 some (-1)
def Qhc (a:(List Int))(b:QBg)(c:Q5)(d:Int):Option Int:=
 (QK (fun st=>Qgc a b c d st) 0).bind (Sum.elim (fun q=>Qgd q) (fun q=>Qge))
theorem QlX (j f g i){r}(h:Qhc j f g i=some r):Qc prog 47 [.sl 1 (j.map Qe),.clo (.func 46) [] [.loc 617 0 0,.loc 619 0 0,.loc 620 0 0]] [(617,.var [.map 618]),(618,.map (QA V.I V.I f)),(619,.var (QB g)),(620,.var (Qe i))] (Gives (.I r) [(617,.var [.map 618]),(618,.map (QA V.I V.I f)),(619,.var (QB g)),(620,.var (Qe i))]):=by
 refine Qc.walk 19 func47 rfl rfl rfl fun C hC=>?_
 refine Qa hC [.n 9,.o (.ln j.length),.n 4,.K [0,1,7,8] [617,618,619,620]] rfl ⟨tt_,Qf⟩ ?_
 obtain⟨p,k,h⟩:=Qb h
 refine AK.loop (body:=(fun st=>Qgc j f g i st)) (fun st σ=>σ=⟨[(0,.sl 1 (j.map Qe)),(1,.clo (.func 46) [] [.loc 617 0 0,.loc 619 0 0,.loc 620 0 0]),(7,.I (j.length:Int)),(8,.I st)],[(617,.var [.map 618]),(618,.map (QA V.I V.I f)),(619,.var (QB g)),(620,.var (Qe i))]⟩) (Sum.elim (fun q e σ=>e=.ret∧σ=⟨[(4,.I q)],[(617,.var [.map 618]),(618,.map (QA V.I V.I f)),(619,.var (QB g)),(620,.var (Qe i))]⟩) (fun q e σ=>e=.exit 0∧σ=⟨[],[(617,.var [.map 618]),(618,.map (QA V.I V.I f)),(619,.var (QB g)),(620,.var (Qe i))]⟩)) k rfl ?_ ?_
 ·rintro v o σ rfl h
  refine tg_ hC [.n 6] rfl ?_
  rcases Qr h with⟨a,h⟩|⟨a,h⟩
  ·obtain⟨s,l,h⟩:=Qb h
   obtain⟨t,m,h⟩:=Qb h
   refine Qa hC [.T,.n 15,.o (.row (Qe s)),.n 1,.cm (.clo) [(617,617),(618,618),(619,619),(620,620)] [(617,617),(618,618),(619,619),(620,620)] [] [.d,.d,.d,.d] [(617,.var [.map 618]),(618,.map (QA V.I V.I f)),(619,.var (QB g)),(620,.var (Qe i))] (.b t),.n 2] rfl ⟨⟨⟨tt_,a⟩,(QP l)⟩,(QuW _ _ _ _ m)⟩ ?_
   refine bg_ h (fun c h=>Qa hC [.T,.n 9,.K [4] [617,618,619,620]] rfl ⟨tt_,c⟩ ?_) fun c h=>Qa hC [.F,.n 7,.K [0,1,7,8] [617,618,619,620]] rfl ⟨tt_,c⟩ ?_
   ·cases h
    exact Qar rfl (an_ rfl rfl)
   cases h
   exact Q4 rfl rfl
  refine Qa hC [.F,.n 2,.K [] [617,618,619,620]] rfl ⟨tt_,a⟩ ?_
  cases h
  exact Q6 rfl (an_ rfl rfl)
 rcases p with(u | _)
 ·replace h:Qgd u=some r:=h
  rintro e σ ⟨rfl,rfl⟩
  refine tg_ hC [.n 2] rfl ?_
  cases h
  exact d1_ rfl rfl ⟨rfl,rfl,rfl,rfl,tt_⟩
 replace h:Qge=some r:=h
 rintro e σ ⟨rfl,rfl⟩
 refine tg_ hC [.n 8] rfl ?_
 cases h
 exact d1_ rfl rfl ⟨rfl,rfl,rfl,rfl,tt_⟩
def QqG (g:QBg)(d:Q5)(a:(List Ql))(at_8:Int):Option (((List Ql)×Int)⊕(List Ql)):=
 bif (decide (0<((QG g at_8).getD 0)))then
 (QnJ d at_8).bind fun c=>
 (Qhc c g d at_8).bind fun e=>
 (idx c e).bind fun f=>
 (idx d.Edges f).bind fun b=>
 (chk (decide (a.length+([b.Mode]:List Ql).length≤4294967296))).bind fun _=>
 some (.inl ((a++[b.Mode]),b.To))
 else
 some (.inr a)
def QqH (a:(List Ql)):Option (List Ql):=
 some a
def Qt3 (a:Q5)(c:Int):Option (List Ql):=
 (Qvu a c).bind fun b=>
 bif (!(QG b 0).isSome)then
 some ([]:List Ql)
 else
 (QK (fun st=>QqG b a st.1 st.2) (([]:List Ql),0)).bind (fun q=>QqH q)
theorem QwA (p P){r}(h:Qt3 p P=some r):Qc prog 19 [.agg (QB p),.I P] [] (Gives (.own 600 r.length) [(600,.arr 4 (r.map Qk))]):=by
 refine Qc.walk 50 func19 rfl rfl rfl fun C hC=>?_
 obtain⟨i,L,h⟩:=Qb h
 refine Qa hC [.n 8,.v .no [] (.agg (QB p)),.n 1,.cm (.fn) [] [(15,602)] [] [.d,.d] [(602,.map (QA V.I V.I i))] (.map 602),.n 2,.O 5 (.var [.map 15]),.n 6,.o (.any (.tup [.I ((QG i 0).getD 0),.b (QG i 0).isSome]) none),.n 13] rfl ⟨⟨⟨⟨tt_,rfl⟩,(Qxu _ _ L)⟩,rfl⟩,(fun σ t y _=>Stp.lookupOk (e:=V.I) (f:=V.I) (l:=i) (k:=0) (z:=0) rfl rfl (QO hC.n rfl) (t _ _ rfl) (y _ _ rfl) (t _ _ rfl) Qml Qdg QkZ rfl rfl)⟩ ?_
 refine bg_ h (fun u h=>Qa hC [.T,.n 7,.adopt 4 600 4,.O 600 (.arr 4 (([]:List Ql).map Qk)),.S 4 (.own 600 ([]:List Ql).length),.K [4] [600]] rfl ⟨⟨⟨tt_,u⟩,rfl⟩,rfl⟩ ?_) fun u h=>Qa hC [.F,.n 12,.O 9 (.var (Qe 0)),.n 3,.adopt 8 8 4,.O 8 (.arr 4 (([]:List Ql).map Qk)),.S 8 (.own 8 ([]:List Ql).length),.K [2,5,8,9] [2,5,8,9,15]] rfl ⟨⟨⟨⟨tt_,u⟩,rfl⟩,rfl⟩,(congrArg (fun n=>V.own 8 n) (by simp))⟩ ?_
 ·cases h
  exact d1_ rfl rfl ⟨rfl,tt_⟩
 obtain⟨w,A,h⟩:=Qb h
 refine AK.loop (body:=(fun st=>QqG i p st.1 st.2)) (fun st σ=>σ=⟨[(2,.loc 2 0 0),(5,.loc 5 0 0),(8,.own 8 st.1.length),(9,.loc 9 0 0)],[(2,.var (QB p)),(5,.var [.map 15]),(8,.arr 4 (st.1.map Qk)),(9,.var (Qe st.2)),(15,.map (QA V.I V.I i))]⟩) (fun q e σ=>e=.exit 0∧σ=⟨[(8,.own 8 q.length)],[(8,.arr 4 (q.map Qk))]⟩) A rfl ?_ ?_
 ·rintro ⟨j,at_8⟩ o σ rfl h
  refine Qa hC [.n 5,.o (.any (.I ((QG i at_8).getD 0)) none),.n 3] rfl ⟨tt_,(fun σ t y _=>Stp.lookup (e:=V.I) (f:=V.I) (l:=i) (k:=at_8) (z:=0) rfl rfl (QO hC.n rfl) (t _ _ rfl) (y _ _ rfl) (t _ _ rfl) Qml Qdg QkZ rfl)⟩ ?_
  rcases Qr h with⟨g,h⟩|⟨g,h⟩
  ·obtain⟨x,B,h⟩:=Qb h
   obtain⟨D,E,h⟩:=Qb h
   obtain⟨M,G,h⟩:=Qb h
   obtain⟨c,H,h⟩:=Qb h
   refine Qa hC [.T,.n 12,.v .no [] (.agg (QB p)),.n 1,.o (.co false [.d,.d] 1 (x.map Qe) x.length),.n 4,.frz 30 (x.map Qe) [11,30] [],.K [2,5,8,9,10,11] [2,5,8,9,15]] rfl ⟨⟨⟨⟨tt_,g⟩,rfl⟩,⟨(Qnp _ _ B),Qf,.inl rfl⟩⟩,⟨⟨tt_,(Qb7 Qf)⟩,(Qb7 Qf)⟩⟩ ?_
   refine AK.draw2 Qp hC mixed [.N,.N,.N,.N,.N,.a (.any (.I D) none) none false,.a (.row (Qe M)) none false,.N,.a (.row (QS c)) none false,.a .no (some ([],.agg (QS c))) false,.N,.m .s] [] [] [2,5,8,9,12] [2,5,8,9,12,15] rfl rfl rfl ⟨⟨⟨⟨tt_,(fun σ t y _=>Stp.callSame (md:=.cm (.fn) [(617,5),(618,15),(619,2),(620,9)] [(5,617),(15,618),(2,619),(9,620)] [] [.d,.d] [(617,.var [.map 618]),(618,.map (QA V.I V.I i)),(619,.var (QB p)),(620,.var (Qe at_8))] (.I D) [5,15,2,9]) Qp hC t y rfl ⟨⟨tt_,(QlX _ _ _ _ E)⟩,⟨rfl,rfl,rfl,rfl,tt_⟩⟩)⟩,(QP G)⟩,(QP H)⟩,rfl⟩ rfl (by kernel_rfl) rfl rfl rfl ?_
   obtain⟨J,h⟩:=QaX h
   refine Qa hC [.O 12 (.var (QS c)),.n 1,.K [2,5,8,9,12] [2,5,8,9,12,15]] rfl ⟨tt_,rfl⟩ ?_
   refine AK.draw2 Qp hC mixed [.N,.N,.a .no (some ([],.agg (Qk c.Mode))) false,.a (.bd []) (some ([],.sl 4 (([c.Mode]:List Ql).map Qk))) false,.m (.app ((j++[c.Mode]).map Qk) (j++[c.Mode]).length),.a .no none true,.a .no none true,.m .s,.m .s] [2,5,9,12] [2,5,9,12,15] [2,5,8,9] [2,5,8,9,15] rfl rfl rfl ⟨⟨⟨tt_,rfl⟩,rfl⟩,⟨Qf,QbP J Qf,QaZ,QcP Qf⟩⟩ rfl (by kernel_rfl) rfl rfl rfl ?_
   refine Qa hC [.O 9 (.var (Qe c.To)),.n 8,.kill 9,.n 2,.O 9 (.var (Qe c.To)),.n 1,.K [2,5,8,9] [2,5,8,9,15]] rfl ⟨⟨tt_,rfl⟩,rfl⟩ ?_
   cases h
   exact Q4 rfl rfl
  refine Qa hC [.F,.n 2,.K [8] [8]] rfl ⟨tt_,g⟩ ?_
  cases h
  exact Q6 rfl (an_ rfl rfl)
 replace h:QqH w=some r:=h
 rintro e σ ⟨rfl,rfl⟩
 refine tg_ hC [.n 9,.K [4] [8],.ren 8 600] rfl ?_
 cases h
 exact d1_ rfl rfl ⟨rfl,tt_⟩
def Qau (c:QBg)(e:QBg)(b:Int):Option (Int⊕(Unit⊕Unit)):=
 bif (decide (b<(c.length:Int)))then
 (idx c b).bind fun d=>
 (idx e b).bind fun a=>
 bif (!((d.1==a.1)&&(d.2==a.2)))then
 some (.inr (.inl ()))
 else
 some (.inl (w64 (b+1)))
 else
 some (.inr (.inr ()))
def Qgu : Option Bool:=
 some false
def Qgv : Option Bool:=
 some true
def QaG (a:QBg)(b:QBg):Option Bool:=
 bif ((a.length:Int) != (b.length:Int))then
 some false
 else
 (QK (fun st=>Qau a b st) 0).bind (Sum.elim (fun q=>Qgu) (fun q=>Qgv))
theorem Ql7 (f j){r}(h:QaG f j=some r):Qc prog 64 [.sl 2 (f.map QF),.sl 2 (j.map QF)] [] (Gives (.b r) []):=by
 refine Qc.walk 26 func64 rfl rfl rfl fun C hC=>?_
 refine Qa hC [.n 9,.o (.ln f.length),.n 1,.o (.ln j.length),.n 3] rfl ⟨⟨tt_,Qf⟩,Qf⟩ ?_
 refine bg_ h (fun g h=>Qa hC [.T,.n 7,.K [4] []] rfl ⟨tt_,g⟩ ?_) fun g h=>Qa hC [.F,.n 6,.o (.ln f.length),.n 4,.K [0,1,12,13] []] rfl ⟨⟨tt_,g⟩,Qf⟩ ?_
 ·cases h
  exact d1_ rfl rfl tt_
 obtain⟨p,k,h⟩:=Qb h
 refine AK.loop (body:=(fun st=>Qau f j st)) (fun st σ=>σ=⟨[(0,.sl 2 (f.map QF)),(1,.sl 2 (j.map QF)),(12,.I (f.length:Int)),(13,.I st)],[]⟩) (Sum.elim (fun q e σ=>e=.ret∧σ=⟨[(4,.b false)],[]⟩) (fun q e σ=>e=.exit 0∧σ=⟨[],[]⟩)) k rfl ?_ ?_
 ·rintro u o σ rfl h
  refine tg_ hC [.n 6] rfl ?_
  rcases Qr h with⟨i,h⟩|⟨i,h⟩
  ·obtain⟨m,s,h⟩:=Qb h
   obtain⟨d,l,h⟩:=Qb h
   refine Qa hC [.T,.n 11,.K [0,1,5,12,13] []] rfl ⟨tt_,i⟩ ?_
   refine AK.draw2 Qp hC mixed [.N,.N,.a (.row (QF m)) none false,.a .no (some ([],.agg (QF m))) false,.N,.N,.a (.row (QF d)) none false,.a .no (some ([],.agg (QF d))) false,.a (.any (.b (!((m.1==d.1)&&(m.2==d.2)))) none) none false] [] [] [0,1,12,13,24] [] rfl rfl rfl ⟨⟨⟨⟨⟨tt_,(QP s)⟩,rfl⟩,(QP l)⟩,rfl⟩,(fun σ t v _=>Stp.neAgg rfl rfl (QO hC.n rfl) (t _ _ rfl) (t _ _ rfl) rfl rfl (QDh _ _ _ _))⟩ rfl (by kernel_rfl) rfl rfl rfl ?_
   refine tg_ hC [.n 1] rfl ?_
   refine bg_ h (fun c h=>Qa hC [.T,.n 8,.K [4] []] rfl ⟨tt_,c⟩ ?_) fun c h=>Qa hC [.F,.n 7,.K [0,1,12,13] []] rfl ⟨tt_,c⟩ ?_
   ·cases h
    exact Qar rfl (an_ rfl rfl)
   cases h
   exact Q4 rfl rfl
  refine Qa hC [.F,.n 2,.K [] []] rfl ⟨tt_,i⟩ ?_
  cases h
  exact Q6 rfl (an_ rfl rfl)
 rcases p with(_ | _)
 ·replace h:Qgu=some r:=h
  rintro e σ ⟨rfl,rfl⟩
  refine tg_ hC [.n 2] rfl ?_
  cases h
  exact d1_ rfl rfl tt_
 replace h:Qgv=some r:=h
 rintro e σ ⟨rfl,rfl⟩
 refine tg_ hC [.n 8] rfl ?_
 cases h
 exact d1_ rfl rfl tt_
def Qoa (b:QBg)(c:QBg):Option Bool:=
 (Qc3 b).bind fun d=>
 bif d then
 (Qc3 c).bind fun e=>
 bif e then
 (QaG b c).bind fun a=>
 some a
 else
 some false
 else
 some false
def Qob (a:Bool):Option Bool:=
 some a
def QmG (a:QBg)(b:QBg):Option Bool:=
 (Qoa a b).bind (fun c=>Qob c)
theorem Qyi (m p){r}(h:QmG m p=some r):Qc prog 35 [.sl 2 (m.map QF),.sl 2 (p.map QF)] [] (Gives (.b r) []):=by
 refine Qc.walk 16 func35 rfl rfl rfl fun C hC=>?_
 refine tg_ hC [.n 6] rfl ?_
 obtain⟨g,i,h⟩:=Qb h
 replace h:Qob g=some r:=h
 refine AK.meetX (fun σ=>σ=⟨[(4,.b g)],[]⟩) ?_ ?_
 ·replace h:=i
  obtain⟨q,j,h⟩:=Qb h
  refine Qa hC [.n 2,.o (.c false [.d] (.b q)),.n 1] rfl ⟨tt_,(QfP _ j)⟩ ?_
  rcases Qr h with⟨a,h⟩|⟨a,h⟩
  ·obtain⟨s,k,h⟩:=Qb h
   refine Qa hC [.S 7 (.b true),.n 1,.o (.c false [.d] (.b s)),.n 2] rfl ⟨(tc_ a),(QfP _ k)⟩ ?_
   rcases Qr h with⟨e,h⟩|⟨e,h⟩
   ·obtain⟨l,f,h⟩:=Qb h
    refine Qa hC [.S 11 (.b true),.n 2,.o (.c false [.d,.d] (.b l)),.n 3,.K [4] []] rfl ⟨(tc_ e),(Ql7 _ _ f)⟩ ?_
    cases h
    exact AK.met rfl
   refine Qa hC [.S 11 (.b false),.n 6,.K [4] []] rfl (tc_ e) ?_
   cases h
   exact AK.met rfl
  refine Qa hC [.S 7 (.b false),.n 10,.K [4] []] rfl (tc_ a) ?_
  cases h
  exact AK.met rfl
 rintro σ rfl
 replace h:Qob g=some r:=h
 refine tg_ hC [.n 2] rfl ?_
 cases h
 exact d1_ rfl rfl tt_
def QM (d:QMk)(e:QMk)(a:Int):Option (Int⊕(Unit⊕Unit)):=
 bif (decide (a<(d.length:Int)))then
 (idx d a).bind fun f=>
 (idx e a).bind fun b=>
 (QmG f b).bind fun c=>
 bif (!c)then
 some (.inr (.inl ()))
 else
 some (.inl (w64 (a+1)))
 else
 some (.inr (.inr ()))
def Qbd : Option Bool:=
 some false
def Qbe : Option Bool:=
 some true
def Qaf (a:QMk)(b:QMk):Option Bool:=
 bif ((a.length:Int) != (b.length:Int))then
 some false
 else
 (QK (fun st=>QM a b st) 0).bind (Sum.elim (fun q=>Qbd) (fun q=>Qbe))
theorem Qdk (f j){r}(h:Qaf f j=some r):Qc prog 34 [.sl 1 (f.map Qi),.sl 1 (j.map Qi),.clo (.func 35) [] []] [] (Gives (.b r) []):=by
 refine Qc.walk 32 func34 rfl rfl rfl fun C hC=>?_
 refine Qa hC [.n 9,.o (.ln f.length),.n 1,.o (.ln j.length),.n 3] rfl ⟨⟨tt_,Qf⟩,Qf⟩ ?_
 refine bg_ h (fun g h=>Qa hC [.T,.n 7,.K [6] []] rfl ⟨tt_,g⟩ ?_) fun g h=>Qa hC [.F,.n 6,.o (.ln f.length),.n 4,.K [1,2,15,16,17] []] rfl ⟨⟨tt_,g⟩,Qf⟩ ?_
 ·cases h
  exact d1_ rfl rfl tt_
 obtain⟨p,k,h⟩:=Qb h
 refine AK.loop (body:=(fun st=>QM f j st)) (fun st σ=>σ=⟨[(1,.sl 1 (j.map Qi)),(2,.clo (.func 35) [] []),(15,.sl 1 (f.map Qi)),(16,.I (f.length:Int)),(17,.I st)],[]⟩) (Sum.elim (fun q e σ=>e=.ret∧σ=⟨[(6,.b false)],[]⟩) (fun q e σ=>e=.exit 0∧σ=⟨[],[]⟩)) k rfl ?_ ?_
 ·rintro w o σ rfl h
  refine tg_ hC [.n 6] rfl ?_
  rcases Qr h with⟨i,h⟩|⟨i,h⟩
  ·obtain⟨v,s,h⟩:=Qb h
   obtain⟨t,l,h⟩:=Qb h
   obtain⟨u,m,h⟩:=Qb h
   refine Qa hC [.T,.n 7,.o (.row (Qi v)),.n 9,.o (.row (Qi t)),.n 9,.o (.c false [.d,.d] (.b u)),.n 3] rfl ⟨⟨⟨⟨tt_,i⟩,(QP s)⟩,(QP l)⟩,(Qyi _ _ m)⟩ ?_
   refine bg_ h (fun a h=>Qa hC [.T,.n 8,.K [6] []] rfl ⟨tt_,a⟩ ?_) fun a h=>Qa hC [.F,.n 7,.K [1,2,15,16,17] []] rfl ⟨tt_,a⟩ ?_
   ·cases h
    exact Qar rfl (an_ rfl rfl)
   cases h
   exact Q4 rfl rfl
  refine Qa hC [.F,.n 2,.K [] []] rfl ⟨tt_,i⟩ ?_
  cases h
  exact Q6 rfl (an_ rfl rfl)
 rcases p with(_ | _)
 ·replace h:Qbd=some r:=h
  rintro e σ ⟨rfl,rfl⟩
  refine tg_ hC [.n 2] rfl ?_
  cases h
  exact d1_ rfl rfl tt_
 replace h:Qbe=some r:=h
 rintro e σ ⟨rfl,rfl⟩
 refine tg_ hC [.n 8] rfl ?_
 cases h
 exact d1_ rfl rfl tt_
def QfM (a:QMk)(b:QMk):Option Bool:=
 (Qaf a b).bind fun c=>
 some c
theorem Qxv (c e){r}(h:QfM c e=some r):Qc prog 14 [.sl 1 (c.map Qi),.sl 1 (e.map Qi)] [] (Gives (.b r) []):=by
 refine Qc.walk 8 func14 rfl rfl rfl fun C hC=>?_
 obtain⟨f,a,h⟩:=Qb h
 refine Qa hC [.n 9,.cm (.fn) [] [] [] [.d,.d,.d] [] (.b f),.n 4] rfl ⟨tt_,(Qdk _ _ a)⟩ ?_
 cases h
 exact d1_ rfl rfl tt_
def Qnq (a:QMk)(b:QMk):Option Bool:=
 (QfM a b).bind fun c=>
 some c
theorem QuX (f a){r}(h:Qnq f a=some r):Qc prog 31 [.sl 1 (f.map Qi),.loc 617 0 0] [(617,.var (Qt a))] (Gives (.b r) [(617,.var (Qt a))]):=by
 refine Qc.walk 7 func31 rfl rfl rfl fun C hC=>?_
 obtain⟨g,e,h⟩:=Qb h
 refine Qa hC [.n 9,.o (.c false [.d,.d] (.b g)),.n 4] rfl ⟨tt_,(Qxv _ _ e)⟩ ?_
 cases h
 exact d1_ rfl rfl ⟨rfl,tt_⟩
def QaF (c:(List QMk))(d:QMk)(a:Int):Option (Int⊕(Int⊕Unit)):=
 bif (decide (a<(c.length:Int)))then
 (idx c a).bind fun e=>
 (Qnq e d).bind fun b=>
 bif b then
 some (.inr (.inl a))
 else
 some (.inl (w64 (a+1)))
 else
 some (.inr (.inr ()))
def QcY (a:Int):Option Int:=
 some a
def QcZ : Option Int:=
 some (-1)
def QbR (a:(List QMk))(b:QMk):Option Int:=
 (QK (fun st=>QaF a b st) 0).bind (Sum.elim (fun q=>QcY q) (fun q=>QcZ))
theorem QgR (g c){r}(h:QbR g c=some r):Qc prog 30 [.sl 1 (g.map Qt),.clo (.func 31) [] [.loc 617 0 0]] [(617,.var (Qt c))] (Gives (.I r) [(617,.var (Qt c))]):=by
 refine Qc.walk 19 func30 rfl rfl rfl fun C hC=>?_
 refine Qa hC [.n 9,.o (.ln g.length),.n 4,.K [0,1,7,8] [617]] rfl ⟨tt_,Qf⟩ ?_
 obtain⟨k,i,h⟩:=Qb h
 refine AK.loop (body:=(fun st=>QaF g c st)) (fun st σ=>σ=⟨[(0,.sl 1 (g.map Qt)),(1,.clo (.func 31) [] [.loc 617 0 0]),(7,.I (g.length:Int)),(8,.I st)],[(617,.var (Qt c))]⟩) (Sum.elim (fun q e σ=>e=.ret∧σ=⟨[(4,.I q)],[(617,.var (Qt c))]⟩) (fun q e σ=>e=.exit 0∧σ=⟨[],[(617,.var (Qt c))]⟩)) i rfl ?_ ?_
 ·rintro t o σ rfl h
  refine tg_ hC [.n 6] rfl ?_
  rcases Qr h with⟨f,h⟩|⟨f,h⟩
  ·obtain⟨p,l,h⟩:=Qb h
   obtain⟨m,j,h⟩:=Qb h
   refine Qa hC [.T,.n 15,.o (.row (Qt p)),.n 1,.cm (.clo) [(617,617)] [(617,617)] [] [.d,.d] [(617,.var (Qt c))] (.b m),.n 2] rfl ⟨⟨⟨tt_,f⟩,(QP l)⟩,(QuX _ _ j)⟩ ?_
   refine bg_ h (fun a h=>Qa hC [.T,.n 9,.K [4] [617]] rfl ⟨tt_,a⟩ ?_) fun a h=>Qa hC [.F,.n 7,.K [0,1,7,8] [617]] rfl ⟨tt_,a⟩ ?_
   ·cases h
    exact Qar rfl (an_ rfl rfl)
   cases h
   exact Q4 rfl rfl
  refine Qa hC [.F,.n 2,.K [] [617]] rfl ⟨tt_,f⟩ ?_
  cases h
  exact Q6 rfl (an_ rfl rfl)
 rcases k with(s | _)
 ·replace h:QcY s=some r:=h
  rintro e σ ⟨rfl,rfl⟩
  refine tg_ hC [.n 2] rfl ?_
  cases h
  exact d1_ rfl rfl ⟨rfl,tt_⟩
 replace h:QcZ=some r:=h
 rintro e σ ⟨rfl,rfl⟩
 refine tg_ hC [.n 8] rfl ?_
 cases h
 exact d1_ rfl rfl ⟨rfl,tt_⟩
def QeR (a:Q5)(b:QMk):Option Int:=
 (QbR a.States b).bind fun c=>
 some c
theorem QmH (c a){r}(h:QeR c a=some r):Qc prog 12 [.agg (QB c),.sl 1 (a.map Qi)] [] (Gives (.I r) []):=by
 refine Qc.walk 9 func12 rfl rfl rfl fun C hC=>?_
 obtain⟨e,b,h⟩:=Qb h
 refine Qa hC [.n 12,.cm (.fn) [(617,3)] [(3,617)] [] [.d,.d] [(617,.var (Qt a))] (.I e),.n 4] rfl ⟨tt_,(QgR _ _ b)⟩ ?_
 cases h
 exact d1_ rfl rfl tt_
def QpF (d:Q5)(b:Int)(c:(List Int)):Option ((Int×(List Int))⊕(List Int)):=
 bif (decide (b<(d.Edges.length:Int)))then
 (idx d.Edges b).bind fun a=>
 (chk (decide (c.length+([a.Mode.Task]:List Int).length≤4294967296))).bind fun _=>
 some (.inl ((w64 (b+1)),(c++([a.Mode.Task]:List Int))))
 else
 some (.inr c)
def QpG (c:(List Int)):Option (List Int):=
 (Qbg c).bind fun a=>
 (chk (decide (a.length=c.length))).bind fun _=>
 (QdN a).bind fun b=>
 some b
def Qs9 (a:Q5):Option (List Int):=
 (QK (fun st=>QpF a st.1 st.2) (0,([]:List Int))).bind (fun q=>QpG q)
theorem QvI (g){r}(h:Qs9 g=some r):Qc prog 23 [.agg (QB g)] [] (Gives (.own 600 r.length) [(600,.arr 1 (r.map Qe))]):=by
 refine Qc.walk 24 func23 rfl rfl rfl fun C hC=>?_
 refine Qa hC [.n 16,.o (.ln g.Edges.length),.n 4,.adopt 3 13 1,.O 13 (.arr 1 (([]:List Int).map Qe)),.S 3 (.own 13 ([]:List Int).length),.K [3,7,8,9] [13]] rfl ⟨⟨⟨tt_,Qf⟩,rfl⟩,(congrArg (fun n=>V.own 13 n) (by simp))⟩ ?_
 obtain⟨t,i,h⟩:=Qb h
 refine AK.loop (body:=(fun st=>QpF g st.1 st.2)) (fun st σ=>σ=⟨[(3,.own 13 st.2.length),(7,.sl 6 (g.Edges.map QS)),(8,.I (g.Edges.length:Int)),(9,.I st.1)],[(13,.arr 1 (st.2.map Qe))]⟩) (fun q e σ=>e=.exit 0∧σ=⟨[(3,.own 13 q.length)],[(13,.arr 1 (q.map Qe))]⟩) i rfl ?_ ?_
 ·rintro ⟨u,s⟩ o σ rfl h
  refine tg_ hC [.n 6] rfl ?_
  rcases Qr h with⟨c,h⟩|⟨c,h⟩
  ·obtain⟨a,j,h⟩:=Qb h
   obtain⟨k,h⟩:=QaX h
   refine Qa hC [.T,.n 6,.o (.row (QS a)),.v .no [] (.agg (QS a)),.n 2,.O 5 (.var (QS a)),.n 7,.v (.bd []) [] (.sl 1 (([a.Mode.Task]:List Int).map Qe)),.app ((s++([a.Mode.Task]:List Int)).map Qe) (s++([a.Mode.Task]:List Int)).length,.n 8,.K [3,7,8,9] [13]] rfl ⟨⟨⟨⟨⟨⟨tt_,c⟩,(QP j)⟩,rfl⟩,rfl⟩,rfl⟩,⟨Qf,QbP k Qf,QaZ,QcP Qf⟩⟩ ?_
   cases h
   exact Q4 rfl rfl
  refine Qa hC [.F,.n 2,.K [3] [13]] rfl ⟨tt_,c⟩ ?_
  cases h
  exact Q6 rfl (an_ rfl rfl)
 replace h:QpG t=some r:=h
 rintro e σ ⟨rfl,rfl⟩
 obtain⟨f,l,h⟩:=Qb h
 obtain⟨b,h⟩:=QaX h
 obtain⟨m,p,h⟩:=Qb h
 refine Qa hC [.n 5,.cm (.fn) [(617,13)] [(13,617)] [] [.d] [(617,.arr 1 (f.map Qe))] (.tup []),.S 3 (.own 13 f.length),.S 20 (.own 13 f.length),.n 5,.cm (.fn) [(617,13)] [(13,617)] [] [.d] [(617,.arr 1 (m.map Qe))] (.own 617 m.length),.n 4,.K [2] [13],.ren 13 600] rfl ⟨⟨⟨⟨tt_,(QdH _ l)⟩,(by simp [Q8 b])⟩,(by simp [Q8 b])⟩,(Qh8 _ p)⟩ ?_
 cases h
 exact d1_ rfl rfl ⟨rfl,tt_⟩
def Qjt (c:(List Int))(d:(List Int))(a:Int):Option (Int⊕(Unit⊕Unit)):=
 bif (decide (a<(c.length:Int)))then
 (idx c a).bind fun e=>
 (idx d a).bind fun b=>
 bif (e != b)then
 some (.inr (.inl ()))
 else
 some (.inl (w64 (a+1)))
 else
 some (.inr (.inr ()))
def QmI : Option Bool:=
 some false
def QmJ : Option Bool:=
 some true
def QeS (a:(List Int))(b:(List Int)):Option Bool:=
 bif ((a.length:Int) != (b.length:Int))then
 some false
 else
 (QK (fun st=>Qjt a b st) 0).bind (Sum.elim (fun q=>QmI) (fun q=>QmJ))
theorem QgS (g i){r}(h:QeS g i=some r):Qc prog 22 [.sl 1 (g.map Qe),.sl 1 (i.map Qe)] [] (Gives (.b r) []):=by
 refine Qc.walk 26 func22 rfl rfl rfl fun C hC=>?_
 refine Qa hC [.n 9,.o (.ln g.length),.n 1,.o (.ln i.length),.n 3] rfl ⟨⟨tt_,Qf⟩,Qf⟩ ?_
 refine bg_ h (fun d h=>Qa hC [.T,.n 7,.K [4] []] rfl ⟨tt_,d⟩ ?_) fun d h=>Qa hC [.F,.n 9,.K [0,1,5] []] rfl ⟨tt_,d⟩ ?_
 ·cases h
  exact d1_ rfl rfl tt_
 obtain⟨l,j,h⟩:=Qb h
 refine AK.loop (body:=(fun st=>Qjt g i st)) (fun st σ=>σ=⟨[(0,.sl 1 (g.map Qe)),(1,.sl 1 (i.map Qe)),(5,.I st)],[]⟩) (Sum.elim (fun q e σ=>e=.ret∧σ=⟨[(4,.b false)],[]⟩) (fun q e σ=>e=.exit 0∧σ=⟨[],[]⟩)) j rfl ?_ ?_
 ·rintro t o σ rfl h
  refine Qa hC [.n 5,.o (.ln g.length),.n 3] rfl ⟨tt_,Qf⟩ ?_
  rcases Qr h with⟨f,h⟩|⟨f,h⟩
  ·obtain⟨s,m,h⟩:=Qb h
   obtain⟨p,k,h⟩:=Qb h
   refine Qa hC [.T,.n 5,.K [0,1,5] []] rfl ⟨tt_,f⟩ ?_
   refine AK.draw2 Qp hC mixed [.N,.N,.a (.row (Qe s)) none false,.N,.N,.N,.a (.row (Qe p)) none false,.N,.N] [] [] [0,1,5,25] [] rfl rfl rfl ⟨⟨tt_,(QP m)⟩,(QP k)⟩ rfl (by kernel_rfl) rfl rfl rfl ?_
   refine tg_ hC [.n 1] rfl ?_
   refine bg_ h (fun c h=>Qa hC [.T,.n 8,.K [4] []] rfl ⟨tt_,c⟩ ?_) fun c h=>Qa hC [.F,.n 8,.K [0,1,5] []] rfl ⟨tt_,c⟩ ?_
   ·cases h
    exact Qar rfl (an_ rfl rfl)
   cases h
   exact Q4 rfl rfl
  refine Qa hC [.F,.n 2,.K [] []] rfl ⟨tt_,f⟩ ?_
  cases h
  exact Q6 rfl (an_ rfl rfl)
 rcases l with(_ | _)
 ·replace h:QmI=some r:=h
  rintro e σ ⟨rfl,rfl⟩
  refine tg_ hC [.n 2] rfl ?_
  cases h
  exact d1_ rfl rfl tt_
 replace h:QmJ=some r:=h
 rintro e σ ⟨rfl,rfl⟩
 refine tg_ hC [.n 8] rfl ?_
 cases h
 exact d1_ rfl rfl tt_
def QvJ (a:Q5)(h:Q5)(i:Q5)(j:(List Ql)):Option Bool:=
 bif ((a.States.length:Int)==2)then
 bif ((a.Edges.length:Int)==1)then
 bif a.Full then
 bif ((h.States.length:Int)==1)then
 bif (!h.Full)then
 bif (!i.Full)then
 bif ((i.States.length:Int)==1)then
 bif ((j.length:Int)==1)then
 (QeR a ([([]:QBg),([(0,1)]:List (Int×Int))]:List QBg)).bind fun b=>
 bif (b==1)then
 (Qs9 a).bind fun c=>
 (QeS c ([0]:List Int)).bind fun d=>
 bif d then
 (QnJ a 0).bind fun e=>
 (QeS e ([0]:List Int)).bind fun f=>
 bif f then
 (QnJ a 1).bind fun g=>
 some ((g.length:Int)==0)
 else
 some false
 else
 some false
 else
 some false
 else
 some false
 else
 some false
 else
 some false
 else
 some false
 else
 some false
 else
 some false
 else
 some false
 else
 some false
def QlY (a:Bool):Option Bool:=
 some a
def Qoc  : Option Bool:=
 (Qvr).bind fun a=>
 (QdO a 10 10).bind fun b=>
 (QdO a 1 10).bind fun c=>
 (QdO a 10 0).bind fun d=>
 (Qt3 b 1).bind fun e=>
 (QvJ b c d e).bind (fun f=>QlY f)
theorem QvK  {r:Bool}(h:Qoc  = some r):Qc prog 7 [] [] (Gives (.b r) []):=by
 refine Qc.walk 82 func7 rfl rfl rfl fun C hC=>?_
 obtain⟨w,F,h⟩:=Qb h
 obtain⟨q,G,h⟩:=Qb h
 obtain⟨H,J,h⟩:=Qb h
 obtain⟨L,M,h⟩:=Qb h
 obtain⟨Y,N,h⟩:=Qb h
 refine Qa hC [.n 7,.o (.c false [] (.agg (Qd w))),.n 2,.O 1 (.var (Qd w)),.n 4,.v .no [] (.agg (Qd w)),.o (.c false [.d,.d,.d] (.agg (QB q))),.n 2,.O 2 (.var (QB q)),.n 4,.v .no [] (.agg (Qd w)),.o (.c false [.d,.d,.d] (.agg (QB H))),.n 2,.O 3 (.var (QB H)),.n 4,.v .no [] (.agg (Qd w)),.o (.c false [.d,.d,.d] (.agg (QB L))),.n 2,.O 4 (.var (QB L)),.n 4,.v .no [] (.agg (QB q)),.o (.co false [.d,.d] 4 (Y.map Qk) Y.length),.n 4] rfl ⟨⟨⟨⟨⟨⟨⟨⟨⟨⟨⟨⟨⟨tt_,(Qxn  F)⟩,rfl⟩,rfl⟩,(QgQ _ _ _ G)⟩,rfl⟩,rfl⟩,(QgQ _ _ _ J)⟩,rfl⟩,rfl⟩,(QgQ _ _ _ M)⟩,rfl⟩,rfl⟩,⟨(QwA _ _ N),Qf,.inl rfl⟩⟩ ?_
 obtain⟨P,T,h⟩:=Qb h
 replace h:QlY P=some r:=h
 refine AK.meetX (fun σ=>σ=⟨[(0,.b P)],[]⟩) ?_ ?_
 ·replace h:=T
  refine Qa hC [.n 3,.o (.ln q.States.length),.n 2] rfl ⟨tt_,Qf⟩ ?_
  refine bg_ h (fun s h=>Qa hC [.S 19 (.b true),.n 2,.o (.ln q.Edges.length),.n 3] rfl ⟨(tc_ s),Qf⟩ ?_) fun s h=>Qa hC [.S 19 (.b false),.n 64,.K [0] []] rfl (tc_ s) ?_
  ·refine bg_ h (fun a h=>Qa hC [.S 25 (.b true),.n 4] rfl (tc_ a) ?_) fun a h=>Qa hC [.S 25 (.b false),.n 58,.K [0] []] rfl (tc_ a) ?_
   ·refine bg_ h (fun e h=>Qa hC [.S 29 (.b true),.n 2,.o (.ln H.States.length),.n 3] rfl ⟨(tc_ e),Qf⟩ ?_) fun e h=>Qa hC [.S 29 (.b false),.n 54,.K [0] []] rfl (tc_ e) ?_
    ·refine bg_ h (fun f h=>Qa hC [.S 35 (.b true),.n 5] rfl (tc_ f) ?_) fun f h=>Qa hC [.S 35 (.b false),.n 48,.K [0] []] rfl (tc_ f) ?_
     ·refine bg_ h (fun g h=>Qa hC [.S 40 (.b true),.n 5] rfl (tc_ g) ?_) fun g h=>Qa hC [.S 40 (.b false),.n 43,.K [0] []] rfl (tc_ g) ?_
      ·refine bg_ h (fun i h=>Qa hC [.S 45 (.b true),.n 2,.o (.ln L.States.length),.n 3] rfl ⟨(tc_ i),Qf⟩ ?_) fun i h=>Qa hC [.S 45 (.b false),.n 38,.K [0] []] rfl (tc_ i) ?_
       ·refine bg_ h (fun j h=>Qa hC [.S 51 (.b true),.n 5] rfl (tc_ j) ?_) fun j h=>Qa hC [.S 51 (.b false),.n 32,.K [0] []] rfl (tc_ j) ?_
        ·rcases Qr h with⟨k,h⟩|⟨k,h⟩
         ·obtain⟨U,x,h⟩:=Qb h
          refine Qa hC [.S 56 (.b true),.v .no [] (.agg (QB q)),.v .no [] (.agg (QF (0,1))),.v (.bd []) [] (.sl 2 (([(0,1)]:List (Int×Int)).map QF)),.v (.bd [some 2,none]) [] (.sl 1 (([([]:QBg),([(0,1)]:List (Int×Int))]:List QBg).map Qi)),.o (.c false [.d,.d] (.I U)),.n 3] rfl ⟨⟨⟨⟨⟨(tc_ k),rfl⟩,rfl⟩,rfl⟩,rfl⟩,(QmH _ _ x)⟩ ?_
          rcases Qr h with⟨l,h⟩|⟨l,h⟩
          ·obtain⟨t,y,h⟩:=Qb h
           obtain⟨W,z,h⟩:=Qb h
           refine Qa hC [.S 64 (.b true),.v .no [] (.agg (QB q)),.o (.co false [.d] 1 (t.map Qe) t.length),.v (.bd []) [] (.sl 1 (([0]:List Int).map Qe)),.o (.c true [.o (t.map Qe),.d] (.b W)),.n 2] rfl ⟨⟨⟨⟨(tc_ l),rfl⟩,⟨(QvI _ y),Qf,.inl rfl⟩⟩,rfl⟩,⟨(Qrq rfl),(QgS _ _ z)⟩⟩ ?_
           rcases Qr h with⟨m,h⟩|⟨m,h⟩
           ·obtain⟨u,A,h⟩:=Qb h
            obtain⟨X,B,h⟩:=Qb h
            refine Qa hC [.S 70 (.b true),.v .no [] (.agg (QB q)),.o (.co false [.d,.d] 1 (u.map Qe) u.length),.v (.bd []) [] (.sl 1 (([0]:List Int).map Qe)),.o (.c true [.o (u.map Qe),.d] (.b X)),.n 2] rfl ⟨⟨⟨⟨(tc_ m),rfl⟩,⟨(Qnp _ _ A),Qf,.inl rfl⟩⟩,rfl⟩,⟨(Qrq rfl),(QgS _ _ B)⟩⟩ ?_
            rcases Qr h with⟨p,h⟩|⟨p,h⟩
            ·obtain⟨D,E,h⟩:=Qb h
             refine Qa hC [.S 76 (.b true),.v .no [] (.agg (QB q)),.o (.co false [.d,.d] 1 (D.map Qe) D.length),.n 5,.K [0] []] rfl ⟨⟨(tc_ p),rfl⟩,⟨(Qnp _ _ E),Qf,.inl rfl⟩⟩ ?_
             cases h
             exact AK.met rfl
            refine Qa hC [.S 76 (.b false),.n 7,.K [0] []] rfl (tc_ p) ?_
            cases h
            exact AK.met rfl
           refine Qa hC [.S 70 (.b false),.n 13,.K [0] []] rfl (tc_ m) ?_
           cases h
           exact AK.met rfl
          refine Qa hC [.S 64 (.b false),.n 19,.K [0] []] rfl (tc_ l) ?_
          cases h
          exact AK.met rfl
         refine Qa hC [.S 56 (.b false),.n 27,.K [0] []] rfl (tc_ k) ?_
         cases h
         exact AK.met rfl
        cases h
        exact AK.met rfl
       cases h
       exact AK.met rfl
      cases h
      exact AK.met rfl
     cases h
     exact AK.met rfl
    cases h
    exact AK.met rfl
   cases h
   exact AK.met rfl
  cases h
  exact AK.met rfl
 rintro σ rfl
 replace h:QlY P=some r:=h
 refine tg_ hC [.n 2] rfl ?_
 cases h
 exact d1_ rfl rfl tt_
def QkI (f:Qo)(rec_law04_few:Qo→Int→Option Int)(a:Int)(c:Int)(d:Int):Option ((Int×Int)⊕(Unit⊕Int)):=
 bif (decide (d<(f.Kids.length:Int)))then
 (idx f.Kids d).bind fun e=>
 (rec_law04_few e (w64 (a-1))).bind fun b=>
 bif (b==0)then
 some (.inr (.inl ()))
 else
 bif (decide ((w64 ((w64 (c-500))+b))≤1))then
 some (.inr (.inl ()))
 else
 some (.inl ((w64 ((w64 (c-500))+b)),(w64 (d+1))))
 else
 some (.inr (.inr c))
def QrH : Option Int:=
 some 0
def QrI (a:Int):Option Int:=
 some (w64 (a-1))
def Qod (rec_law04_few:Qo→Int→Option Int)(b:Qo)(a:Int):Option Int:=
 bif ((decide (a≤0))||(decide (9<(b.Kids.length:Int))))then
 some 0
 else
 (QK (fun st=>QkI b rec_law04_few a st.1 st.2) (500,0)).bind (Sum.elim (fun q=>QrH) (fun q=>QrI q))
def Qfj : Nat→Qo→Int→Option Int
 | 0,_,_=>none
 | n+1,b,a=>Qod (Qfj n) b a
def Qre (b:Qo)(a:Int):Option Int:=Qfj (SizeOf.sizeOf b) b a
theorem QvL (rec_law04_few:Qo→Int→Option Int)(hrec_law04_few:∀(f:Qo) (a:Int) {r:Int},rec_law04_few f a=some r→Qc prog 75 [.agg (Qs f),.I a] [] (Gives (.I r) []))(f:Qo)(a:Int){r:Int}(h:Qod rec_law04_few f a=some r):Qc prog 75 [.agg (Qs f),.I a] [] (Gives (.I r) []):=by
 refine Qc.walk 41 func75 rfl rfl rfl fun C hC=>?_
 refine tg_ hC [.n 8] rfl ?_
 refine AK.meetX (fun σ=>σ=⟨[(1,.I a),(2,.loc 2 0 0),(15,.b ((decide (a≤0))||(decide (9<(f.Kids.length:Int)))))],[(2,.var (Qs f))]⟩) ?_ ?_
 ·refine tg_ hC [.n 4] rfl ?_
  rcases Q3 (decide (a≤0))with g | g
  ·refine Qa hC [.S 10 (.b true),.n 6,.S 15 (.b ((decide (a≤0))||(decide (9<(f.Kids.length:Int))))),.K [1,2,15] [2]] rfl ⟨(tc_ g),(congrArg V.b (orT g rfl))⟩ ?_
   exact AK.met rfl
  refine Qa hC [.S 10 (.b false),.n 2,.o (.ln f.Kids.length),.n 3,.S 15 (.b ((decide (a≤0))||(decide (9<(f.Kids.length:Int))))),.K [1,2,15] [2]] rfl ⟨⟨(tc_ g),Qku _⟩,(congrArg V.b (orF g rfl))⟩ ?_
  exact AK.met rfl
 rintro σ rfl
 refine tg_ hC [.n 1] rfl ?_
 refine bg_ h (fun l h=>Qa hC [.T,.n 7,.K [4] []] rfl ⟨tt_,l⟩ ?_) fun l h=>Qa hC [.F,.n 14,.K [1,2,5,6] [2]] rfl ⟨tt_,l⟩ ?_
 ·cases h
  exact d1_ rfl rfl tt_
 obtain⟨u,m,h⟩:=Qb h
 refine AK.loop (body:=(fun st=>QkI f rec_law04_few a st.1 st.2)) (fun st σ=>σ=⟨[(1,.I a),(2,.loc 2 0 0),(5,.I st.1),(6,.I st.2)],[(2,.var (Qs f))]⟩) (Sum.elim (fun q e σ=>e=.ret∧σ=⟨[(4,.I 0)],[]⟩) (fun q e σ=>e=.exit 0∧σ=⟨[(5,.I q)],[]⟩)) m rfl ?_ ?_
 ·rintro ⟨y,z⟩ o σ rfl h
  refine Qa hC [.n 6,.o (.ln f.Kids.length),.n 3] rfl ⟨tt_,Qku _⟩ ?_
  rcases Qr h with⟨i,h⟩|⟨i,h⟩
  ·obtain⟨p,s,h⟩:=Qb h
   obtain⟨w,t,h⟩:=Qb h
   refine Qa hC [.T,.n 9,.o (.row (Qs p)),.v .no [] (.agg (Qs p)),.n 2,.o (.c false [.d,.d] (.I w)),.n 10] rfl ⟨⟨⟨⟨tt_,i⟩,(QeB s)⟩,rfl⟩,(hrec_law04_few _ _ t)⟩ ?_
   refine bg_ h (fun j h=>Qa hC [.T,.n 9,.K [4] []] rfl ⟨tt_,j⟩ ?_) fun j h=>Qa hC [.F,.n 17] rfl ⟨tt_,j⟩ ?_
   ·cases h
    exact Qar rfl (an_ rfl rfl)
   refine bg_ h (fun k h=>Qa hC [.T,.n 8,.K [4] []] rfl ⟨tt_,k⟩ ?_) fun k h=>Qa hC [.F,.n 8,.K [1,2,5,6] [2]] rfl ⟨tt_,k⟩ ?_
   ·cases h
    exact Qar rfl (an_ rfl rfl)
   cases h
   exact Q4 rfl rfl
  refine Qa hC [.F,.n 2,.K [5] []] rfl ⟨tt_,i⟩ ?_
  cases h
  exact Q6 rfl (an_ rfl rfl)
 rcases u with(_ | x)
 ·replace h:QrH=some r:=h
  rintro e σ ⟨rfl,rfl⟩
  refine tg_ hC [.n 2] rfl ?_
  cases h
  exact d1_ rfl rfl tt_
 replace h:QrI x=some r:=h
 rintro e σ ⟨rfl,rfl⟩
 refine tg_ hC [.n 10] rfl ?_
 cases h
 exact d1_ rfl rfl tt_
theorem QpH : ∀(fuel:Nat) (b:Qo) (a:Int) {r:Int},Qfj fuel b a=some r→Qc prog 75 [.agg (Qs b),.I a] [] (Gives (.I r) [])
 | 0,_,_,_,h=>by cases h
 | n+1,b,a,_,h=>QvL (Qfj n) (fun _ _ _ h=>QpH n _ _ h) b a h
theorem Qxw (b a){r}(h:Qre b a=some r):Qc prog 75 [.agg (Qs b),.I a] [] (Gives (.I r) []):=QpH _ b a h
def Qi0 (a:Qo):Option Bool:=
 (Qre a 60).bind fun b=>
 some (decide (0<b))
theorem Qnr (a){r}(h:Qi0 a=some r):Qc prog 50 [.agg (Qs a)] [] (Gives (.b r) []):=by
 refine Qc.walk 6 func50 rfl rfl rfl fun C hC=>?_
 obtain⟨f,e,h⟩:=Qb h
 refine Qa hC [.n 8,.v .no [] (.agg (Qs a)),.o (.c false [.d,.d] (.I f)),.n 5] rfl ⟨⟨tt_,rfl⟩,(Qxw _ _ e)⟩ ?_
 cases h
 exact d1_ rfl rfl tt_
def Qns (d:Qj)(e:Int)(a:Int)(b:QJ):Option Bool:=
 (idx d.Colours e).bind fun c=>
 bif (decide (100<(c.Name.size:Int)))then
 some true
 else
 some (decide (400<(w64 (a+(b.Names.length:Int)))))
def QfS (e:Qj)(f:Int)(a:Int):Option (Int⊕(Unit⊕Unit)):=
 (idx e.Colours f).bind fun b=>
 bif (decide (a<(b.Names.length:Int)))then
 (idx e.Colours f).bind fun c=>
 (idx c.Names a).bind fun d=>
 bif (decide (100<(d.size:Int)))then
 some (.inr (.inl ()))
 else
 some (.inl (w64 (a+1)))
 else
 some (.inr (.inr ()))
def QrJ : Option ((Int×Int)⊕(Unit⊕Int)):=
 some (.inr (.inl ()))
def QrK (a:Int)(b:QJ)(c:Int):Option ((Int×Int)⊕(Unit⊕Int)):=
 some (.inl ((w64 (a+(b.Names.length:Int))),(w64 (c+1))))
def QhU (e:Qj)(d:Int)(a:Int)(b:QJ)(c:Bool):Option ((Int×Int)⊕(Unit⊕Int)):=
 bif c then
 some (.inr (.inl ()))
 else
 (QK (fun st=>QfS e d st) 0).bind (Sum.elim (fun q=>QrJ) (fun q=>QrK a b d))
def QfT (c:Qj)(a:Int)(d:Int):Option ((Int×Int)⊕(Unit⊕Int)):=
 bif (decide (d<(c.Colours.length:Int)))then
 (idx c.Colours d).bind fun b=>
 (Qns c d a b).bind (fun e=>QhU c d a b e)
 else
 some (.inr (.inr a))
def QrL : Option Bool:=
 some false
def QfU (c:Qj)(a:Int)(b:Int):Option ((Int×Int)⊕(Unit⊕Int)):=
 bif (decide (b<(c.Places.length:Int)))then
 (idx c.Places b).bind fun d=>
 (idx c.Places b).bind fun e=>
 bif (decide (100<(e.Name.size:Int)))then
 some (.inr (.inl ()))
 else
 some (.inl ((w64 (a+(d.First.length:Int))),(w64 (b+1))))
 else
 some (.inr (.inr a))
def QrM : Option Bool:=
 some false
def Qju (b:QD)(a:Int):Option (Int⊕(Unit⊕Unit)):=
 bif (decide (a<(b.Vars.length:Int)))then
 (idx b.Vars a).bind fun c=>
 bif (decide (100<(c.Name.size:Int)))then
 some (.inr (.inl ()))
 else
 some (.inl (w64 (a+1)))
 else
 some (.inr (.inr ()))
def QqI : Option ((Int×Int)⊕(Unit⊕Unit)):=
 some (.inr (.inl ()))
def Qjv (c:QD)(a:Bool)(b:Int):Option ((Bool×Int)⊕Bool):=
 bif (decide (b<(c.Ins.length:Int)))then
 (idx c.Ins b).bind fun d=>
 (Qi0 d.Expr).bind fun e=>
 some (.inl ((a&&e),(w64 (b+1))))
 else
 some (.inr a)
def Qjw (c:QD)(a:Bool)(b:Int):Option ((Bool×Int)⊕Bool):=
 bif (decide (b<(c.Outs.length:Int)))then
 (idx c.Outs b).bind fun d=>
 (Qi0 d.Expr).bind fun e=>
 some (.inl ((a&&e),(w64 (b+1))))
 else
 some (.inr a)
def Qjx (a:Int)(b:QD)(d:Int)(c:Bool):Option ((Int×Int)⊕(Unit⊕Unit)):=
 bif (!c)then
 some (.inr (.inl ()))
 else
 some (.inl ((w64 ((w64 ((w64 ((w64 (a+(b.Vars.length:Int)))+(b.Ins.length:Int)))+(b.Outs.length:Int)))+(b.Cancel.length:Int))),(w64 (d+1))))
def Qjy (b:QD)(a:Int)(d:Int)(c:Bool):Option ((Int×Int)⊕(Unit⊕Unit)):=
 (QK (fun st=>Qjw b st.1 st.2) (c,0)).bind (fun q=>Qjx a b d q)
def Qjz (b:QD)(a:Int)(c:Int):Option ((Int×Int)⊕(Unit⊕Unit)):=
 (Qi0 b.Guard).bind fun d=>
 (QK (fun st=>Qjv b st.1 st.2) (d,0)).bind (fun q=>Qjy b a c q)
def QjA (d:Qj)(b:Int)(c:Int):Option ((Int×Int)⊕(Unit⊕Unit)):=
 bif (decide (c<(d.Tasks.length:Int)))then
 (idx d.Tasks c).bind fun a=>
 bif ((decide (200<(w64 ((w64 ((w64 ((w64 (b+(a.Vars.length:Int)))+(a.Ins.length:Int)))+(a.Outs.length:Int)))+(a.Cancel.length:Int)))))||(decide (100<(a.Name.size:Int))))then
 some (.inr (.inl ()))
 else
 (QK (fun st=>Qju a st) 0).bind (Sum.elim (fun q=>QqI) (fun q=>Qjz a b c))
 else
 some (.inr (.inr ()))
def QqJ : Option Bool:=
 some false
def QqK (a:Int):Option Bool:=
 some (decide (a≤400))
def QjB (b:Qj)(a:Int):Option Bool:=
 (QK (fun st=>QjA b st.1 st.2) (0,0)).bind (Sum.elim (fun q=>QqJ) (fun q=>QqK a))
def Qe7 (b:Qj)(a:Int):Option Bool:=
 (QK (fun st=>QfU b st.1 st.2) (a,0)).bind (Sum.elim (fun q=>QrM) (fun q=>QjB b q))
def QfN (a:Qj):Option Bool:=
 bif ((decide (40<(a.Colours.length:Int)))||((decide (70<(a.Places.length:Int)))||(decide (70<(a.Tasks.length:Int)))))then
 some false
 else
 (QK (fun st=>QfT a st.1 st.2) (0,0)).bind (Sum.elim (fun q=>QrL) (fun q=>Qe7 a q))
theorem QrN (i){r}(h:QfN i=some r):Qc prog 24 [.agg (Qd i)] [] (Gives (.b r) []):=by
 refine Qc.walk 201 func24 rfl rfl rfl fun C hC=>?_
 unfold QfN at h
 refine tg_ hC [.n 8] rfl ?_
 refine AK.meetX (fun σ=>σ=⟨[(1,.loc 1 0 0),(31,.b ((decide (40<(i.Colours.length:Int)))||((decide (70<(i.Places.length:Int)))||(decide (70<(i.Tasks.length:Int))))))],[(1,.var (Qd i))]⟩) ?_ ?_
 ·refine Qa hC [.n 3,.o (.ln i.Colours.length),.n 2] rfl ⟨tt_,Qf⟩ ?_
  rcases Q3 (decide (40<(i.Colours.length:Int)))with w | w
  ·refine Qa hC [.S 20 (.b true),.n 12,.S 31 (.b ((decide (40<(i.Colours.length:Int)))||((decide (70<(i.Places.length:Int)))||(decide (70<(i.Tasks.length:Int)))))),.K [1,31] [1]] rfl ⟨(tc_ w),(congrArg V.b (orT w rfl))⟩ ?_
   exact AK.met rfl
  refine Qa hC [.S 20 (.b false),.n 2,.o (.ln i.Places.length),.n 3] rfl ⟨(tc_ w),Qf⟩ ?_
  rcases Q3 (decide (70<(i.Places.length:Int)))with x | x
  ·refine Qa hC [.S 26 (.b true),.n 6,.S 31 (.b ((decide (40<(i.Colours.length:Int)))||((decide (70<(i.Places.length:Int)))||(decide (70<(i.Tasks.length:Int)))))),.K [1,31] [1]] rfl ⟨(tc_ x),(congrArg V.b (orF w (orT x rfl)))⟩ ?_
   exact AK.met rfl
  refine Qa hC [.S 26 (.b false),.n 2,.o (.ln i.Tasks.length),.n 3,.S 31 (.b ((decide (40<(i.Colours.length:Int)))||((decide (70<(i.Places.length:Int)))||(decide (70<(i.Tasks.length:Int)))))),.K [1,31] [1]] rfl ⟨⟨(tc_ x),Qf⟩,(congrArg V.b (orF w (orF x rfl)))⟩ ?_
  exact AK.met rfl
 rintro σ rfl
 refine tg_ hC [.n 1] rfl ?_
 refine bg_ h (fun Z h=>Qa hC [.T,.n 7,.K [2] []] rfl ⟨tt_,Z⟩ ?_) fun Z h=>Qa hC [.F,.n 14,.K [1,3,4] [1]] rfl ⟨tt_,Z⟩ ?_
 ·cases h
  exact d1_ rfl rfl tt_
 obtain⟨d0,a1,h⟩:=Qb h
 refine AK.loop (body:=(fun st=>QfT i st.1 st.2)) (fun st σ=>σ=⟨[(1,.loc 1 0 0),(3,.I st.1),(4,.I st.2)],[(1,.var (Qd i))]⟩) (Sum.elim (fun q e σ=>e=.ret∧σ=⟨[(2,.b false)],[]⟩) (fun q e σ=>e=.exit 0∧σ=⟨[(1,.loc 1 0 0),(3,.I q)],[(1,.var (Qd i))]⟩)) a1 rfl ?_ ?_
 ·rintro ⟨j,i9⟩ o σ rfl h
  refine Qa hC [.n 6,.o (.ln i.Colours.length),.n 3] rfl ⟨tt_,Qf⟩ ?_
  rcases Qr h with⟨y,h⟩|⟨y,h⟩
  ·obtain⟨l,a2,h⟩:=Qb h
   refine Qa hC [.T,.n 10,.o (.row (Qu l)),.n 2,.o (.ln l.Names.length),.n 6] rfl ⟨⟨⟨tt_,y⟩,(QP a2)⟩,Qf⟩ ?_
   obtain⟨a0,a3,h⟩:=Qb h
   replace h:QhU i i9 j l a0=some o:=h
   refine AK.meetX (fun σ=>σ=⟨[(1,.loc 1 0 0),(3,.I (w64 (j+(l.Names.length:Int)))),(4,.I i9),(59,.b a0)],[(1,.var (Qd i))]⟩) ?_ ?_
   ·replace h:=a3
    obtain⟨d1,a4,h⟩:=Qb h
    refine Qa hC [.n 4,.o (.row (Qu d1)),.n 5] rfl ⟨tt_,(QP a4)⟩ ?_
    refine bg_ h (fun z h=>Qa hC [.S 56 (.b true),.n 4,.K [1,3,4,59] [1]] rfl (tc_ z) ?_) fun z h=>Qa hC [.S 56 (.b false),.n 4,.K [1,3,4,59] [1]] rfl (tc_ z) ?_
    ·cases h
     exact AK.met rfl
    cases h
    exact AK.met rfl
   rintro σ rfl
   replace h:QhU i i9 j l a0=some o:=h
   refine tg_ hC [.n 1] rfl ?_
   refine bg_ h (fun A h=>Qa hC [.T,.n 9,.K [2] []] rfl ⟨tt_,A⟩ ?_) fun A h=>Qa hC [.F,.n 8,.K [1,3,4,5] [1]] rfl ⟨tt_,A⟩ ?_
   ·cases h
    exact Qar rfl (an_ rfl rfl)
   obtain⟨d2,a5,h⟩:=Qb h
   refine AK.loop (body:=(fun st=>QfS i i9 st)) (fun st σ=>σ=⟨[(1,.loc 1 0 0),(3,.I (w64 (j+(l.Names.length:Int)))),(4,.I i9),(5,.I st)],[(1,.var (Qd i))]⟩) (Sum.elim (fun q e σ=>e=.ret∧σ=⟨[(2,.b false)],[]⟩) (fun q e σ=>e=.exit 2∧σ=⟨[(1,.loc 1 0 0),(3,.I (w64 (j+(l.Names.length:Int)))),(4,.I i9)],[(1,.var (Qd i))]⟩)) a5 rfl ?_ ?_
   ·rintro e3 o σ rfl h
    obtain⟨a6,a7,h⟩:=Qb h
    refine Qa hC [.n 7,.o (.row (Qu a6)),.n 2,.o (.ln a6.Names.length),.n 3] rfl ⟨⟨tt_,(QP a7)⟩,Qf⟩ ?_
    rcases Qr h with⟨B,h⟩|⟨B,h⟩
    ·obtain⟨d3,a8,h⟩:=Qb h
     obtain⟨d4,a9,h⟩:=Qb h
     refine Qa hC [.T,.n 9,.o (.row (Qu d3)),.n 3,.o (.row (Qd7 d4)),.n 5] rfl ⟨⟨⟨tt_,B⟩,(QP a8)⟩,(QP a9)⟩ ?_
     refine bg_ h (fun D h=>Qa hC [.T,.n 8,.K [2] []] rfl ⟨tt_,D⟩ ?_) fun D h=>Qa hC [.F,.n 8,.K [1,3,4,5] [1]] rfl ⟨tt_,D⟩ ?_
     ·cases h
      exact Qar rfl (an_ rfl rfl)
     cases h
     exact Q4 rfl rfl
    refine Qa hC [.F,.n 2,.K [1,3,4] [1]] rfl ⟨tt_,B⟩ ?_
    cases h
    exact Q6 rfl (an_ rfl rfl)
   rcases d2 with(_ | _)
   ·replace h:QrJ=some o:=h
    rintro e σ ⟨rfl,rfl⟩
    refine tg_ hC [.n 3,.K [2] []] rfl ?_
    cases h
    exact Qar rfl (an_ rfl rfl)
   replace h:QrK j l i9=some o:=h
   rintro e σ ⟨rfl,rfl⟩
   refine tg_ hC [.n 8,.K [1,3,4] [1]] rfl ?_
   cases h
   exact Q4 rfl rfl
  refine Qa hC [.F,.n 2,.K [1,3] [1]] rfl ⟨tt_,y⟩ ?_
  cases h
  exact Q6 rfl (an_ rfl rfl)
 rcases d0 with(_ | E)
 ·replace h:QrL=some r:=h
  rintro e σ ⟨rfl,rfl⟩
  refine tg_ hC [.n 2] rfl ?_
  cases h
  exact d1_ rfl rfl tt_
 replace h:Qe7 i E=some r:=h
 rintro e σ ⟨rfl,rfl⟩
 refine tg_ hC [.n 9,.K [1,3,6] [1]] rfl ?_
 obtain⟨d5,b0,h⟩:=Qb h
 refine AK.loop (body:=(fun st=>QfU i st.1 st.2)) (fun st σ=>σ=⟨[(1,.loc 1 0 0),(3,.I st.1),(6,.I st.2)],[(1,.var (Qd i))]⟩) (Sum.elim (fun q e σ=>e=.ret∧σ=⟨[(2,.b false)],[]⟩) (fun q e σ=>e=.exit 4∧σ=⟨[(1,.loc 1 0 0),(3,.I q)],[(1,.var (Qd i))]⟩)) b0 rfl ?_ ?_
 ·rintro ⟨b1,e4⟩ o σ rfl h
  refine Qa hC [.n 6,.o (.ln i.Places.length),.n 3] rfl ⟨tt_,Qf⟩ ?_
  rcases Qr h with⟨G,h⟩|⟨G,h⟩
  ·obtain⟨b2,b3,h⟩:=Qb h
   obtain⟨d6,b4,h⟩:=Qb h
   refine Qa hC [.T,.n 10,.o (.row (Qq b2)),.n 2,.o (.ln b2.First.length),.n 9,.o (.row (Qq d6)),.n 6] rfl ⟨⟨⟨⟨tt_,G⟩,(QP b3)⟩,Qf⟩,(QP b4)⟩ ?_
   refine bg_ h (fun H h=>Qa hC [.T,.n 8,.K [2] []] rfl ⟨tt_,H⟩ ?_) fun H h=>Qa hC [.F,.n 8,.K [1,3,6] [1]] rfl ⟨tt_,H⟩ ?_
   ·cases h
    exact Qar rfl (an_ rfl rfl)
   cases h
   exact Q4 rfl rfl
  refine Qa hC [.F,.n 2,.K [1,3] [1]] rfl ⟨tt_,G⟩ ?_
  cases h
  exact Q6 rfl (an_ rfl rfl)
 rcases d5 with(_ | g)
 ·replace h:QrM=some r:=h
  rintro e σ ⟨rfl,rfl⟩
  refine tg_ hC [.n 2] rfl ?_
  cases h
  exact d1_ rfl rfl tt_
 replace h:QjB i g=some r:=h
 rintro e σ ⟨rfl,rfl⟩
 refine tg_ hC [.n 14,.K [1,3,7,8] [1]] rfl ?_
 obtain⟨d7,b5,h⟩:=Qb h
 refine AK.loop (body:=(fun st=>QjA i st.1 st.2)) (fun st σ=>σ=⟨[(1,.loc 1 0 0),(3,.I g),(7,.I st.1),(8,.I st.2)],[(1,.var (Qd i))]⟩) (Sum.elim (fun q e σ=>e=.ret∧σ=⟨[(2,.b false)],[]⟩) (fun q e σ=>e=.exit 6∧σ=⟨[(3,.I g)],[]⟩)) b5 rfl ?_ ?_
 ·rintro ⟨f,k⟩ o σ rfl h
  refine Qa hC [.n 6,.o (.ln i.Tasks.length),.n 3] rfl ⟨tt_,Qf⟩ ?_
  rcases Qr h with⟨J,h⟩|⟨J,h⟩
  ·obtain⟨a,b6,h⟩:=Qb h
   refine Qa hC [.T,.n 9,.o (.row (Qh a)),.v .no [] (.agg (Qh a)),.n 2,.O 9 (.var (Qh a)),.n 7,.o (.ln a.Vars.length),.n 3,.o (.ln a.Ins.length),.n 3,.o (.ln a.Outs.length),.n 3,.o (.ln a.Cancel.length),.n 6] rfl ⟨⟨⟨⟨⟨⟨⟨⟨tt_,J⟩,(QP b6)⟩,rfl⟩,rfl⟩,Qf⟩,Qf⟩,Qf⟩,Qf⟩ ?_
   refine AK.meetX (fun σ=>σ=⟨[(1,.loc 1 0 0),(3,.I g),(7,.I (w64 ((w64 ((w64 ((w64 (f+(a.Vars.length:Int)))+(a.Ins.length:Int)))+(a.Outs.length:Int)))+(a.Cancel.length:Int)))),(8,.I k),(9,.loc 9 0 0),(142,.b ((decide (200<(w64 ((w64 ((w64 ((w64 (f+(a.Vars.length:Int)))+(a.Ins.length:Int)))+(a.Outs.length:Int)))+(a.Cancel.length:Int)))))||(decide (100<(a.Name.size:Int)))))],[(1,.var (Qd i)),(9,.var (Qh a))]⟩) ?_ ?_
   ·refine tg_ hC [.n 4] rfl ?_
    rcases Q3 (decide (200<(w64 ((w64 ((w64 ((w64 (f+(a.Vars.length:Int)))+(a.Ins.length:Int)))+(a.Outs.length:Int)))+(a.Cancel.length:Int)))))with m | m
    ·refine Qa hC [.S 137 (.b true),.n 6,.S 142 (.b ((decide (200<(w64 ((w64 ((w64 ((w64 (f+(a.Vars.length:Int)))+(a.Ins.length:Int)))+(a.Outs.length:Int)))+(a.Cancel.length:Int)))))||(decide (100<(a.Name.size:Int))))),.K [1,3,7,8,9,142] [1,9]] rfl ⟨(tc_ m),(congrArg V.b (orT m rfl))⟩ ?_
     exact AK.met rfl
    refine Qa hC [.S 137 (.b false),.n 6,.S 142 (.b ((decide (200<(w64 ((w64 ((w64 ((w64 (f+(a.Vars.length:Int)))+(a.Ins.length:Int)))+(a.Outs.length:Int)))+(a.Cancel.length:Int)))))||(decide (100<(a.Name.size:Int))))),.K [1,3,7,8,9,142] [1,9]] rfl ⟨(tc_ m),(congrArg V.b (orF m rfl))⟩ ?_
    exact AK.met rfl
   rintro σ rfl
   refine tg_ hC [.n 1] rfl ?_
   refine bg_ h (fun L h=>Qa hC [.T,.n 9,.K [2] []] rfl ⟨tt_,L⟩ ?_) fun L h=>Qa hC [.F,.n 9,.K [1,3,7,8,9,10] [1,9]] rfl ⟨tt_,L⟩ ?_
   ·cases h
    exact Qar rfl (an_ rfl rfl)
   obtain⟨d8,b7,h⟩:=Qb h
   refine AK.loop (body:=(fun st=>Qju a st)) (fun st σ=>σ=⟨[(1,.loc 1 0 0),(3,.I g),(7,.I (w64 ((w64 ((w64 ((w64 (f+(a.Vars.length:Int)))+(a.Ins.length:Int)))+(a.Outs.length:Int)))+(a.Cancel.length:Int)))),(8,.I k),(9,.loc 9 0 0),(10,.I st)],[(1,.var (Qd i)),(9,.var (Qh a))]⟩) (Sum.elim (fun q e σ=>e=.ret∧σ=⟨[(2,.b false)],[]⟩) (fun q e σ=>e=.exit 8∧σ=⟨[(1,.loc 1 0 0),(3,.I g),(7,.I (w64 ((w64 ((w64 ((w64 (f+(a.Vars.length:Int)))+(a.Ins.length:Int)))+(a.Outs.length:Int)))+(a.Cancel.length:Int)))),(8,.I k),(9,.loc 9 0 0)],[(1,.var (Qd i)),(9,.var (Qh a))]⟩)) b7 rfl ?_ ?_
   ·rintro e5 o σ rfl h
    refine Qa hC [.n 6,.o (.ln a.Vars.length),.n 3] rfl ⟨tt_,Qf⟩ ?_
    rcases Qr h with⟨M,h⟩|⟨M,h⟩
    ·obtain⟨d9,b8,h⟩:=Qb h
     refine Qa hC [.T,.n 9,.o (.row (QU d9)),.n 6] rfl ⟨⟨tt_,M⟩,(QP b8)⟩ ?_
     refine bg_ h (fun N h=>Qa hC [.T,.n 8,.K [2] []] rfl ⟨tt_,N⟩ ?_) fun N h=>Qa hC [.F,.n 8,.K [1,3,7,8,9,10] [1,9]] rfl ⟨tt_,N⟩ ?_
     ·cases h
      exact Qar rfl (an_ rfl rfl)
     cases h
     exact Q4 rfl rfl
    refine Qa hC [.F,.n 2,.K [1,3,7,8,9] [1,9]] rfl ⟨tt_,M⟩ ?_
    cases h
    exact Q6 rfl (an_ rfl rfl)
   rcases d8 with(_ | _)
   ·replace h:QqI=some o:=h
    rintro e σ ⟨rfl,rfl⟩
    refine tg_ hC [.n 4,.K [2] []] rfl ?_
    cases h
    exact Qar rfl (an_ rfl rfl)
   replace h:Qjz a f k=some o:=h
   rintro e σ ⟨rfl,rfl⟩
   obtain⟨e0,b9,h⟩:=Qb h
   refine Qa hC [.n 5,.v .no [] (.agg (Qs a.Guard)),.o (.c false [.d] (.b e0)),.n 10,.K [1,3,7,8,9,11,12] [1,9]] rfl ⟨⟨tt_,rfl⟩,(Qnr _ b9)⟩ ?_
   obtain⟨c0,c1,h⟩:=Qb h
   refine AK.loop (body:=(fun st=>Qjv a st.1 st.2)) (fun st σ=>σ=⟨[(1,.loc 1 0 0),(3,.I g),(7,.I (w64 ((w64 ((w64 ((w64 (f+(a.Vars.length:Int)))+(a.Ins.length:Int)))+(a.Outs.length:Int)))+(a.Cancel.length:Int)))),(8,.I k),(9,.loc 9 0 0),(11,.b st.1),(12,.I st.2)],[(1,.var (Qd i)),(9,.var (Qh a))]⟩) (fun q e σ=>e=.exit 10∧σ=⟨[(1,.loc 1 0 0),(3,.I g),(7,.I (w64 ((w64 ((w64 ((w64 (f+(a.Vars.length:Int)))+(a.Ins.length:Int)))+(a.Outs.length:Int)))+(a.Cancel.length:Int)))),(8,.I k),(9,.loc 9 0 0),(11,.b q)],[(1,.var (Qd i)),(9,.var (Qh a))]⟩) c1 rfl ?_ ?_
   ·rintro ⟨t,e1⟩ o σ rfl h
    refine Qa hC [.n 6,.o (.ln a.Ins.length),.n 3] rfl ⟨tt_,Qf⟩ ?_
    rcases Qr h with⟨P,h⟩|⟨P,h⟩
    ·obtain⟨c2,c3,h⟩:=Qb h
     obtain⟨X,c4,h⟩:=Qb h
     refine Qa hC [.T,.n 9,.o (.row (Q7 c2)),.n 1,.v .no [] (.agg (Qs c2.Expr)),.o (.c false [.d] (.b X)),.n 3] rfl ⟨⟨⟨⟨tt_,P⟩,(QP c3)⟩,rfl⟩,(Qnr _ c4)⟩ ?_
     refine AK.meetX (fun σ=>σ=⟨[(1,.loc 1 0 0),(3,.I g),(7,.I (w64 ((w64 ((w64 ((w64 (f+(a.Vars.length:Int)))+(a.Ins.length:Int)))+(a.Outs.length:Int)))+(a.Cancel.length:Int)))),(8,.I k),(9,.loc 9 0 0),(11,.b (t&&X)),(12,.I e1)],[(1,.var (Qd i)),(9,.var (Qh a))]⟩) ?_ ?_
     ·refine tg_ hC [.n 3] rfl ?_
      rcases Q3 t with p | p
      ·refine Qa hC [.S 176 (.b true),.n 4,.S 11 (.b (t&&X)),.K [1,3,7,8,9,11,12] [1,9]] rfl ⟨(tc_ p),(congrArg V.b (Qb6 p rfl))⟩ ?_
       exact AK.met rfl
      refine Qa hC [.S 176 (.b false),.n 4,.S 11 (.b (t&&X)),.K [1,3,7,8,9,11,12] [1,9]] rfl ⟨(tc_ p),(congrArg V.b (Qd2 p rfl))⟩ ?_
      exact AK.met rfl
     rintro σ rfl
     refine tg_ hC [.n 7,.K [1,3,7,8,9,11,12] [1,9]] rfl ?_
     cases h
     exact Q4 rfl rfl
    refine Qa hC [.F,.n 2,.K [1,3,7,8,9,11] [1,9]] rfl ⟨tt_,P⟩ ?_
    cases h
    exact Q6 rfl (an_ rfl rfl)
   replace h:Qjy a f k c0=some o:=h
   rintro e σ ⟨rfl,rfl⟩
   refine tg_ hC [.n 9,.K [1,3,7,8,9,11,14] [1,9]] rfl ?_
   obtain⟨c5,c6,h⟩:=Qb h
   refine AK.loop (body:=(fun st=>Qjw a st.1 st.2)) (fun st σ=>σ=⟨[(1,.loc 1 0 0),(3,.I g),(7,.I (w64 ((w64 ((w64 ((w64 (f+(a.Vars.length:Int)))+(a.Ins.length:Int)))+(a.Outs.length:Int)))+(a.Cancel.length:Int)))),(8,.I k),(9,.loc 9 0 0),(11,.b st.1),(14,.I st.2)],[(1,.var (Qd i)),(9,.var (Qh a))]⟩) (fun q e σ=>e=.exit 12∧σ=⟨[(1,.loc 1 0 0),(3,.I g),(7,.I (w64 ((w64 ((w64 ((w64 (f+(a.Vars.length:Int)))+(a.Ins.length:Int)))+(a.Outs.length:Int)))+(a.Cancel.length:Int)))),(8,.I k),(11,.b q)],[(1,.var (Qd i))]⟩) c6 rfl ?_ ?_
   ·rintro ⟨u,e2⟩ o σ rfl h
    refine Qa hC [.n 6,.o (.ln a.Outs.length),.n 3] rfl ⟨tt_,Qf⟩ ?_
    rcases Qr h with⟨U,h⟩|⟨U,h⟩
    ·obtain⟨c7,c8,h⟩:=Qb h
     obtain⟨Y,c9,h⟩:=Qb h
     refine Qa hC [.T,.n 9,.o (.row (Q7 c7)),.n 1,.v .no [] (.agg (Qs c7.Expr)),.o (.c false [.d] (.b Y)),.n 3] rfl ⟨⟨⟨⟨tt_,U⟩,(QP c8)⟩,rfl⟩,(Qnr _ c9)⟩ ?_
     refine AK.meetX (fun σ=>σ=⟨[(1,.loc 1 0 0),(3,.I g),(7,.I (w64 ((w64 ((w64 ((w64 (f+(a.Vars.length:Int)))+(a.Ins.length:Int)))+(a.Outs.length:Int)))+(a.Cancel.length:Int)))),(8,.I k),(9,.loc 9 0 0),(11,.b (u&&Y)),(14,.I e2)],[(1,.var (Qd i)),(9,.var (Qh a))]⟩) ?_ ?_
     ·refine tg_ hC [.n 3] rfl ?_
      rcases Q3 u with s | s
      ·refine Qa hC [.S 194 (.b true),.n 4,.S 11 (.b (u&&Y)),.K [1,3,7,8,9,11,14] [1,9]] rfl ⟨(tc_ s),(congrArg V.b (Qb6 s rfl))⟩ ?_
       exact AK.met rfl
      refine Qa hC [.S 194 (.b false),.n 4,.S 11 (.b (u&&Y)),.K [1,3,7,8,9,11,14] [1,9]] rfl ⟨(tc_ s),(congrArg V.b (Qd2 s rfl))⟩ ?_
      exact AK.met rfl
     rintro σ rfl
     refine tg_ hC [.n 7,.K [1,3,7,8,9,11,14] [1,9]] rfl ?_
     cases h
     exact Q4 rfl rfl
    refine Qa hC [.F,.n 2,.K [1,3,7,8,11] [1]] rfl ⟨tt_,U⟩ ?_
    cases h
    exact Q6 rfl (an_ rfl rfl)
   replace h:Qjx f a k c5=some o:=h
   rintro e σ ⟨rfl,rfl⟩
   refine tg_ hC [.n 8] rfl ?_
   refine bg_ h (fun W h=>Qa hC [.T,.n 8,.K [2] []] rfl ⟨tt_,W⟩ ?_) fun W h=>Qa hC [.F,.n 8,.K [1,3,7,8] [1]] rfl ⟨tt_,W⟩ ?_
   ·cases h
    exact Qar rfl (an_ rfl rfl)
   cases h
   exact Q4 rfl rfl
  refine Qa hC [.F,.n 2,.K [3] []] rfl ⟨tt_,J⟩ ?_
  cases h
  exact Q6 rfl (an_ rfl rfl)
 rcases d7 with(_ | _)
 ·replace h:QqJ=some r:=h
  rintro e σ ⟨rfl,rfl⟩
  refine tg_ hC [.n 2] rfl ?_
  cases h
  exact d1_ rfl rfl tt_
 replace h:QqK g=some r:=h
 rintro e σ ⟨rfl,rfl⟩
 refine tg_ hC [.n 10] rfl ?_
 cases h
 exact d1_ rfl rfl tt_
def QkJ (c:QMk)(d:Int)(a:Int):Option ((Int×Int)⊕Int):=
 bif ((decide (a<(c.length:Int)))&&(decide (a<100)))then
 (idx c a).bind fun b=>
 some (.inl ((w64 (d+(b.length:Int))),(w64 (a+1))))
 else
 some (.inr d)
def QrO (a:QMk)(b:Int):Option Bool:=
 some ((decide ((a.length:Int)≤70))&&(decide (b≤300)))
def QnK (a:QMk):Option Bool:=
 (QK (fun st=>QkJ a st.1 st.2) (0,0)).bind (fun q=>QrO a q)
theorem Qxx (a){r}(h:QnK a=some r):Qc prog 76 [.sl 1 (a.map Qi)] [] (Gives (.b r) []):=by
 refine Qc.walk 29 func76 rfl rfl rfl fun C hC=>?_
 refine tg_ hC [.n 17,.K [0,3,4] []] rfl ?_
 obtain⟨l,i,h⟩:=Qb h
 refine AK.loop (body:=(fun st=>QkJ a st.1 st.2)) (fun st σ=>σ=⟨[(0,.sl 1 (a.map Qi)),(3,.I st.1),(4,.I st.2)],[]⟩) (fun q e σ=>e=.exit 0∧σ=⟨[(0,.sl 1 (a.map Qi)),(3,.I q)],[]⟩) i rfl ?_ ?_
 ·rintro ⟨m,g⟩ o σ rfl h
  refine tg_ hC [.n 2] rfl ?_
  refine AK.meetX (fun σ=>σ=⟨[(0,.sl 1 (a.map Qi)),(3,.I m),(4,.I g),(12,.b ((decide (g<(a.length:Int)))&&(decide (g<100))))],[]⟩) ?_ ?_
  ·refine Qa hC [.n 3,.o (.ln a.length),.n 2] rfl ⟨tt_,Qf⟩ ?_
   rcases Q3 (decide (g<(a.length:Int)))with d | d
   ·refine Qa hC [.S 9 (.b true),.n 4,.S 12 (.b ((decide (g<(a.length:Int)))&&(decide (g<100)))),.K [0,3,4,12] []] rfl ⟨(tc_ d),(congrArg V.b (Qb6 d rfl))⟩ ?_
    exact AK.met rfl
   refine Qa hC [.S 9 (.b false),.n 4,.S 12 (.b ((decide (g<(a.length:Int)))&&(decide (g<100)))),.K [0,3,4,12] []] rfl ⟨(tc_ d),(congrArg V.b (Qd2 d rfl))⟩ ?_
   exact AK.met rfl
  rintro σ rfl
  refine tg_ hC [.n 1] rfl ?_
  rcases Qr h with⟨f,h⟩|⟨f,h⟩
  ·obtain⟨j,k,h⟩:=Qb h
   refine Qa hC [.T,.n 8,.o (.row (Qi j)),.n 1,.o (.ln j.length),.n 10,.K [0,3,4] []] rfl ⟨⟨⟨tt_,f⟩,(QP k)⟩,Qf⟩ ?_
   cases h
   exact Q4 rfl rfl
  refine Qa hC [.F,.n 2,.K [0,3] []] rfl ⟨tt_,f⟩ ?_
  cases h
  exact Q6 rfl (an_ rfl rfl)
 replace h:QrO a l=some r:=h
 rintro e σ ⟨rfl,rfl⟩
 refine tg_ hC [.n 3] rfl ?_
 refine AK.meetX (fun σ=>σ=⟨[(2,.b ((decide ((a.length:Int)≤70))&&(decide (l≤300))))],[]⟩) ?_ ?_
 ·refine Qa hC [.n 2,.o (.ln a.length),.n 2] rfl ⟨tt_,Qf⟩ ?_
  rcases Q3 (decide ((a.length:Int)≤70))with c | c
  ·refine Qa hC [.S 25 (.b true),.n 5,.S 2 (.b ((decide ((a.length:Int)≤70))&&(decide (l≤300)))),.K [2] []] rfl ⟨(tc_ c),(congrArg V.b (Qb6 c rfl))⟩ ?_
   exact AK.met rfl
  refine Qa hC [.S 25 (.b false),.n 5,.S 2 (.b ((decide ((a.length:Int)≤70))&&(decide (l≤300)))),.K [2] []] rfl ⟨(tc_ c),(congrArg V.b (Qd2 c rfl))⟩ ?_
  exact AK.met rfl
 rintro σ rfl
 refine tg_ hC [.n 2] rfl ?_
 cases h
 exact d1_ rfl rfl tt_
def QlC (a:Qj):Option Bool:=
 some ((decide ((a.Places.length:Int)≤64))&&(decide ((a.Tasks.length:Int)≤64)))
theorem QvM (a){r}(h:QlC a=some r):Qc prog 123 [.loc 617 0 0] [(617,.var (Qd a))] (Gives (.b r) [(617,.var (Qd a))]):=by
 refine Qc.walk 12 func123 rfl rfl rfl fun C hC=>?_
 refine tg_ hC [.n 6] rfl ?_
 refine AK.meetX (fun σ=>σ=⟨[(1,.b ((decide ((a.Places.length:Int)≤64))&&(decide ((a.Tasks.length:Int)≤64))))],[(617,.var (Qd a))]⟩) ?_ ?_
 ·refine Qa hC [.n 3,.o (.ln a.Places.length),.n 2] rfl ⟨tt_,Qf⟩ ?_
  rcases Q3 (decide ((a.Places.length:Int)≤64))with c | c
  ·refine Qa hC [.S 6 (.b true),.n 2,.o (.ln a.Tasks.length),.n 4,.S 1 (.b ((decide ((a.Places.length:Int)≤64))&&(decide ((a.Tasks.length:Int)≤64)))),.K [1] [617]] rfl ⟨⟨(tc_ c),Qf⟩,(congrArg V.b (Qb6 c rfl))⟩ ?_
   exact AK.met rfl
  refine Qa hC [.S 6 (.b false),.n 7,.S 1 (.b ((decide ((a.Places.length:Int)≤64))&&(decide ((a.Tasks.length:Int)≤64)))),.K [1] [617]] rfl ⟨(tc_ c),(congrArg V.b (Qd2 c rfl))⟩ ?_
  exact AK.met rfl
 rintro σ rfl
 refine tg_ hC [.n 2] rfl ?_
 cases h
 exact d1_ rfl rfl ⟨rfl,tt_⟩
def QaR (b:(List QN))(a:Int):Option Bool:=
 some ((decide (0≤a))&&(decide (a<(b.length:Int))))
theorem Qb8 (d c){r}(h:QaR d c=some r):Qc prog 125 [.sl 3 (d.map Qq),.I c] [] (Gives (.b r) []):=by
 refine Qc.walk 13 func125 rfl rfl rfl fun C hC=>?_
 refine tg_ hC [.n 6] rfl ?_
 refine AK.meetX (fun σ=>σ=⟨[(4,.b ((decide (0≤c))&&(decide (c<(d.length:Int)))))],[]⟩) ?_ ?_
 ·refine tg_ hC [.n 4] rfl ?_
  rcases Q3 (decide (0≤c))with a | a
  ·refine Qa hC [.S 7 (.b true),.n 2,.o (.ln d.length),.n 4,.S 4 (.b ((decide (0≤c))&&(decide (c<(d.length:Int))))),.K [4] []] rfl ⟨⟨(tc_ a),Qf⟩,(congrArg V.b (Qb6 a rfl))⟩ ?_
   exact AK.met rfl
  refine Qa hC [.S 7 (.b false),.n 7,.S 4 (.b ((decide (0≤c))&&(decide (c<(d.length:Int))))),.K [4] []] rfl ⟨(tc_ a),(congrArg V.b (Qd2 a rfl))⟩ ?_
  exact AK.met rfl
 rintro σ rfl
 refine tg_ hC [.n 2] rfl ?_
 cases h
 exact d1_ rfl rfl tt_
def QpI (a:Qj):Option Bool:=
 (QaR a.Places a.From).bind fun b=>
 bif b then
 (QaR a.Places a.To).bind fun c=>
 some c
 else
 some false
def Qir (a:Bool):Option Bool:=
 some a
def QlD (a:Qj):Option Bool:=
 (QpI a).bind (fun b=>Qir b)
theorem QvN (e){r}(h:QlD e=some r):Qc prog 124 [.loc 617 0 0] [(617,.var (Qd e))] (Gives (.b r) [(617,.var (Qd e))]):=by
 refine Qc.walk 14 func124 rfl rfl rfl fun C hC=>?_
 refine tg_ hC [.n 6] rfl ?_
 obtain⟨f,g,h⟩:=Qb h
 replace h:Qir f=some r:=h
 refine AK.meetX (fun σ=>σ=⟨[(1,.b f)],[(617,.var (Qd e))]⟩) ?_ ?_
 ·replace h:=g
  obtain⟨k,i,h⟩:=Qb h
  refine Qa hC [.n 5,.o (.c false [.d,.d] (.b k)),.n 1] rfl ⟨tt_,(Qb8 _ _ i)⟩ ?_
  rcases Qr h with⟨a,h⟩|⟨a,h⟩
  ·obtain⟨l,j,h⟩:=Qb h
   refine Qa hC [.S 7 (.b true),.n 4,.o (.c false [.d,.d] (.b l)),.n 3,.K [1] [617]] rfl ⟨(tc_ a),(Qb8 _ _ j)⟩ ?_
   cases h
   exact AK.met rfl
  refine Qa hC [.S 7 (.b false),.n 8,.K [1] [617]] rfl (tc_ a) ?_
  cases h
  exact AK.met rfl
 rintro σ rfl
 replace h:Qir f=some r:=h
 refine tg_ hC [.n 2] rfl ?_
 cases h
 exact d1_ rfl rfl ⟨rfl,tt_⟩
def QlE (a:Qj):Option Bool:=
 some (a.From != a.To)
theorem QvO (a){r}(h:QlE a=some r):Qc prog 126 [.loc 617 0 0] [(617,.var (Qd a))] (Gives (.b r) [(617,.var (Qd a))]):=by
 refine Qc.walk 7 func126 rfl rfl rfl fun C hC=>?_
 refine tg_ hC [.n 16] rfl ?_
 cases h
 exact d1_ rfl rfl ⟨rfl,tt_⟩
def QlF (a:Qj)(c:Int)(d:Int)(e:Int):Option Int:=
 (QlC a).bind fun f=>
 bif (!f)then
 some c
 else
 (QlD a).bind fun g=>
 bif (!g)then
 some d
 else
 (QlE a).bind fun b=>
 bif (!b)then
 some e
 else
 some 0
theorem QvP (g k l m){r}(h:QlF g k l m=some r):Qc prog 122 [.own 617 3] [(617,.var [.clo (.func 123) [] [.loc 618 0 0],.I k,.clo (.func 124) [] [.loc 618 0 0],.I l,.clo (.func 126) [] [.loc 618 0 0],.I m]),(618,.var (Qd g))] (Gives (.I r) [(617,.var [.clo (.func 123) [] [.loc 618 0 0],.I k,.clo (.func 124) [] [.loc 618 0 0],.I l,.clo (.func 126) [] [.loc 618 0 0],.I m]),(618,.var (Qd g))]):=by
 refine Qc.walk 18 func122 rfl rfl rfl fun C hC=>?_
 refine tg_ hC [.n 14] rfl ?_
 refine AK.loopN 4 (AK.rnd ?_)
 obtain⟨t,p,h⟩:=Qb h
 refine Qa hC [.n 2,.v .no [] (.b true),.n 10,.o (.any (.loc 617 0 0) none),.n 3,.O 4 (.var [.clo (.func 123) [] [.loc 618 0 0],.I k]),.n 6,.cm (.clo) [(617,618)] [(618,617)] [] [.d] [(617,.var (Qd g))] (.b t),.n 3] rfl ⟨⟨⟨⟨tt_,rfl⟩,(fun σ e i _=>Stp.idxV rfl rfl (QO hC.n rfl) (e _ _ rfl) (e _ _ rfl) (Qp.es rfl) (i _ _ rfl) (by decide))⟩,rfl⟩,(QvM _ p)⟩ ?_
 refine bg_ h (fun f h=>Qa hC [.T,.n 13,.K [2] [617,618]] rfl ⟨tt_,f⟩ ?_) fun f h=>Qa hC [.F,.n 4,.v .no [] (.I 1),.n 2] rfl ⟨⟨tt_,f⟩,rfl⟩ ?_
 ·cases h
  exact d1_ rfl rfl ⟨rfl,rfl,tt_⟩
 refine AK.met (AK.rnd ?_)
 obtain⟨u,q,h⟩:=Qb h
 refine Qa hC [.n 2,.v .no [] (.b true),.n 10,.o (.any (.loc 617 0 2) none),.n 1,.kill 4,.n 2,.O 4 (.var [.clo (.func 124) [] [.loc 618 0 0],.I l]),.n 6,.cm (.clo) [(617,618)] [(618,617)] [] [.d] [(617,.var (Qd g))] (.b u),.n 3] rfl ⟨⟨⟨⟨tt_,rfl⟩,(fun σ e i _=>Stp.idxV rfl rfl (QO hC.n rfl) (e _ _ rfl) (e _ _ rfl) (Qp.es rfl) (i _ _ rfl) (by decide))⟩,rfl⟩,(QvN _ q)⟩ ?_
 refine bg_ h (fun a h=>Qa hC [.T,.n 13,.K [2] [617,618]] rfl ⟨tt_,a⟩ ?_) fun a h=>Qa hC [.F,.n 4,.v .no [] (.I 2),.n 2] rfl ⟨⟨tt_,a⟩,rfl⟩ ?_
 ·cases h
  exact d1_ rfl rfl ⟨rfl,rfl,tt_⟩
 refine AK.met (AK.rnd ?_)
 obtain⟨s,j,h⟩:=Qb h
 refine Qa hC [.n 2,.v .no [] (.b true),.n 10,.o (.any (.loc 617 0 4) none),.n 1,.kill 4,.n 2,.O 4 (.var [.clo (.func 126) [] [.loc 618 0 0],.I m]),.n 6,.cm (.clo) [(617,618)] [(618,617)] [] [.d] [(617,.var (Qd g))] (.b s),.n 3] rfl ⟨⟨⟨⟨tt_,rfl⟩,(fun σ e i _=>Stp.idxV rfl rfl (QO hC.n rfl) (e _ _ rfl) (e _ _ rfl) (Qp.es rfl) (i _ _ rfl) (by decide))⟩,rfl⟩,(QvO _ j)⟩ ?_
 refine bg_ h (fun c h=>Qa hC [.T,.n 13,.K [2] [617,618]] rfl ⟨tt_,c⟩ ?_) fun c h=>Qa hC [.F,.n 4,.v .no [] (.I 3),.n 2] rfl ⟨⟨tt_,c⟩,rfl⟩ ?_
 ·cases h
  exact d1_ rfl rfl ⟨rfl,rfl,tt_⟩
 refine AK.met (AK.rnd ?_)
 refine Qa hC [.n 2,.v .no [] (.b false),.n 15] rfl ⟨tt_,rfl⟩ ?_
 cases h
 exact d1_ rfl rfl ⟨rfl,rfl,tt_⟩
def QkK (a:(List QJ)):Option Bool:=
 (QhL a).bind fun b=>
 some b.2
theorem QuY (e){r}(h:QkK e=some r):Qc prog 171 [.sl 7 (e.map Qu)] [] (Gives (.b r) []):=by
 refine Qc.walk 11 func171 rfl rfl rfl fun C hC=>?_
 obtain⟨f,a,h⟩:=Qb h
 refine Qa hC [.n 8,.o (.c false [.d] (.tup [.sl 1 (f.1.map Qe),.b f.2])),.n 14] rfl ⟨tt_,(Qor _ a)⟩ ?_
 cases h
 exact d1_ rfl rfl tt_
def Qgi (b:Qj)(a:Int):Option Bool:=
 (chk (decide (0≤(w64 (a+1)))&&decide (0≤(w64 (a+1)).toNat)&&decide ((w64 (a+1)).toNat≤b.Colours.length))).bind fun _=>
 (QkK ((b.Colours.drop 0).take ((w64 (a+1)).toNat-0))).bind fun c=>
 some c
theorem Qrf (e f){r}(h:Qgi e f=some r):Qc prog 170 [.loc 617 0 0,.loc 618 0 0] [(617,.var (Qd e)),(618,.var (Qe f))] (Gives (.b r) [(617,.var (Qd e)),(618,.var (Qe f))]):=by
 refine Qc.walk 9 func170 rfl rfl rfl fun C hC=>?_
 obtain⟨a,h⟩:=QaX h
 obtain⟨j,g,h⟩:=Qb h
 refine Qa hC [.n 11,.o (.any (.sl 7 (((e.Colours.drop 0).take ((w64 (f+1)).toNat-0)).map Qu)) none),.o (.c false [.d] (.b j)),.n 4] rfl ⟨⟨tt_,(fun σ i k _=>Stp.sliceD rfl rfl (QO hC.n rfl) (i _ _ rfl) (Qp.es rfl) Bnd.no (Bnd.val (i _ _ rfl) (Q8 (QtI a)) rfl) (Q8 (QtJ a)) (Qcb (Q8 (QtK a)) (Nat.le_of_eq Qf.symm)) Qwr)⟩,(QuY _ g)⟩ ?_
 cases h
 exact d1_ rfl rfl ⟨rfl,rfl,tt_⟩
def QpJ (x:ByteArray):Option (List ByteArray):=(chk (Qy4 x)).bind fun _=>some (QgA x)
theorem Qte (x){r}(h:QpJ x=some r):Qc prog 274 [.s x] [] (Gives (.own 600 r.length) [(600,.arr 1 (r.map Qd7))]):=by
 obtain⟨_,a,h⟩:=Qb h
 cases h
 exact Qyd QBt (by kernel_rfl) (by kernel_rfl) x (QyH a)
def QiQ  : Option (List ByteArray):=
 (QpJ (⟨#[99,111,108,111,117,114,32,112,108,97,99,101,32,116,97,115,107,32,118,97,114,32,119,104,101,110,32,106,111,105,110,32,115,112,108,105,116,32,105,110,32,111,117,116,32,99,97,110,99,101,108,32,97,102,116,101,114,32,109,97,110,121,32,102,114,111,109,32,116,111,32,105,110,116,32,101,110,117,109,32,112,97,105,114,32,97,110,100,32,120,111,114,32,111,114,32,105,102]⟩:ByteArray)).bind fun a=>
 some a
theorem QvQ  {r:(List ByteArray)}(h:QiQ  = some r):Qc prog 255 [] [] (Gives (.own 600 r.length) [(600,.arr 1 (r.map Qd7))]):=by
 refine Qc.walk 2 func255 rfl rfl rfl fun C hC=>?_
 obtain⟨b,a,h⟩:=Qb h
 refine Qa hC [.n 7,.o (.co false [.d] 1 (b.map Qd7) b.length),.n 4,.K [0] [1],.ren 1 600] rfl ⟨tt_,⟨(Qte _ a),Qf,.inl rfl⟩⟩ ?_
 cases h
 exact d1_ rfl rfl ⟨rfl,tt_⟩
def Qcc (b:(List ByteArray))(c:ByteArray)(a:Int):Option (Int⊕(Int⊕Unit)):=
 bif (decide (a<(b.length:Int)))then
 (idx b a).bind fun d=>
 bif (Qif c d)then
 some (.inr (.inl a))
 else
 some (.inl (w64 (a+1)))
 else
 some (.inr (.inr ()))
def Qcd (a:Int):Option Int:=
 some a
def Qce : Option Int:=
 some (-1)
def QcS (a:(List ByteArray))(b:ByteArray):Option Int:=
 (QK (fun st=>Qcc a b st) 0).bind (Sum.elim (fun q=>Qcd q) (fun q=>Qce))
theorem Ql8 (c f){r}(h:QcS c f=some r):Qc prog 273 [.sl 1 (c.map Qd7),.s f] [] (Gives (.I r) []):=by
 refine Qc.walk 19 func273 rfl rfl rfl fun C hC=>?_
 refine Qa hC [.n 9,.o (.ln c.length),.n 4,.K [0,1,7,8] []] rfl ⟨tt_,Qf⟩ ?_
 obtain⟨g,d,h⟩:=Qb h
 refine AK.loop (body:=(fun st=>Qcc c f st)) (fun st σ=>σ=⟨[(0,.sl 1 (c.map Qd7)),(1,.s f),(7,.I (c.length:Int)),(8,.I st)],[]⟩) (Sum.elim (fun q e σ=>e=.ret∧σ=⟨[(4,.I q)],[]⟩) (fun q e σ=>e=.exit 0∧σ=⟨[],[]⟩)) d rfl ?_ ?_
 ·rintro l o σ rfl h
  refine tg_ hC [.n 6] rfl ?_
  rcases Qr h with⟨b,h⟩|⟨b,h⟩
  ·obtain⟨j,i,h⟩:=Qb h
   refine Qa hC [.T,.n 15,.o (.row (Qd7 j)),.n 4] rfl ⟨⟨tt_,b⟩,(QP i)⟩ ?_
   refine bg_ h (fun a h=>Qa hC [.T,.n 9,.K [4] []] rfl ⟨tt_,a⟩ ?_) fun a h=>Qa hC [.F,.n 7,.K [0,1,7,8] []] rfl ⟨tt_,a⟩ ?_
   ·cases h
    exact Qar rfl (an_ rfl rfl)
   cases h
   exact Q4 rfl rfl
  refine Qa hC [.F,.n 2,.K [] []] rfl ⟨tt_,b⟩ ?_
  cases h
  exact Q6 rfl (an_ rfl rfl)
 rcases g with(k | _)
 ·replace h:Qcd k=some r:=h
  rintro e σ ⟨rfl,rfl⟩
  refine tg_ hC [.n 2] rfl ?_
  cases h
  exact d1_ rfl rfl tt_
 replace h:Qce=some r:=h
 rintro e σ ⟨rfl,rfl⟩
 refine tg_ hC [.n 8] rfl ?_
 cases h
 exact d1_ rfl rfl tt_
def Qcf (a:(List ByteArray))(b:ByteArray):Option Bool:=
 (QcS a b).bind fun c=>
 some (decide (0≤c))
theorem Qk6 (e f){r}(h:Qcf e f=some r):Qc prog 254 [.sl 1 (e.map Qd7),.s f] [] (Gives (.b r) []):=by
 refine Qc.walk 9 func254 rfl rfl rfl fun C hC=>?_
 obtain⟨g,a,h⟩:=Qb h
 refine Qa hC [.n 9,.o (.c false [.d,.d] (.I g)),.n 5] rfl ⟨tt_,(Ql8 _ _ a)⟩ ?_
 cases h
 exact d1_ rfl rfl tt_
def QmK (a:ByteArray):Option Bool:=
 (QiQ).bind fun b=>
 (Qcf b a).bind fun c=>
 some c
theorem QwB (g){r}(h:QmK g=some r):Qc prog 221 [.s g] [] (Gives (.b r) []):=by
 refine Qc.walk 6 func221 rfl rfl rfl fun C hC=>?_
 obtain⟨a,e,h⟩:=Qb h
 obtain⟨i,f,h⟩:=Qb h
 refine Qa hC [.n 7,.o (.co false [] 1 (a.map Qd7) a.length),.n 1,.o (.c true [.o (a.map Qd7),.d] (.b i)),.n 4] rfl ⟨⟨tt_,⟨(QvQ  e),Qf,.inl rfl⟩⟩,⟨(Qrq rfl),(Qk6 _ _ f)⟩⟩ ?_
 cases h
 exact d1_ rfl rfl tt_
def QqL (a:ByteArray):Option Bool:=
 (QgD a).bind fun b=>
 bif b then
 (QmK a).bind fun c=>
 some (!c)
 else
 some false
def QjC (a:Bool):Option Bool:=
 some a
def QeT (a:ByteArray):Option Bool:=
 (QqL a).bind (fun b=>QjC b)
theorem QgT (j){r}(h:QeT j=some r):Qc prog 167 [.s j] [] (Gives (.b r) []):=by
 refine Qc.walk 10 func167 rfl rfl rfl fun C hC=>?_
 refine tg_ hC [.n 6] rfl ?_
 obtain⟨e,f,h⟩:=Qb h
 replace h:QjC e=some r:=h
 refine AK.meetX (fun σ=>σ=⟨[(2,.b e)],[]⟩) ?_ ?_
 ·replace h:=f
  obtain⟨k,g,h⟩:=Qb h
  refine Qa hC [.n 2,.o (.c false [.d] (.b k)),.n 1] rfl ⟨tt_,(QlQ _ g)⟩ ?_
  rcases Qr h with⟨a,h⟩|⟨a,h⟩
  ·obtain⟨l,i,h⟩:=Qb h
   refine Qa hC [.S 5 (.b true),.n 1,.o (.c false [.d] (.b l)),.n 4,.K [2] []] rfl ⟨(tc_ a),(QwB _ i)⟩ ?_
   cases h
   exact AK.met rfl
  refine Qa hC [.S 5 (.b false),.n 6,.K [2] []] rfl (tc_ a) ?_
  cases h
  exact AK.met rfl
 rintro σ rfl
 replace h:QjC e=some r:=h
 refine tg_ hC [.n 2] rfl ?_
 cases h
 exact d1_ rfl rfl tt_
def Qe8 (a:ByteArray):Option Bool:=
 (QeT a).bind fun b=>
 some (!b)
theorem QpK (e){r}(h:Qe8 e=some r):Qc prog 169 [.s e] [] (Gives (.b r) []):=by
 refine Qc.walk 6 func169 rfl rfl rfl fun C hC=>?_
 obtain⟨f,a,h⟩:=Qb h
 refine Qa hC [.n 8,.o (.c false [.d] (.b f)),.n 5] rfl ⟨tt_,(QgT _ a)⟩ ?_
 cases h
 exact d1_ rfl rfl tt_
def Qbz (b:(List ByteArray))(a:Int):Option (Int⊕(Int⊕Unit)):=
 bif (decide (a<(b.length:Int)))then
 (idx b a).bind fun c=>
 (Qe8 c).bind fun d=>
 bif d then
 some (.inr (.inl a))
 else
 some (.inl (w64 (a+1)))
 else
 some (.inr (.inr ()))
def QbA (a:Int):Option Int:=
 some a
def QbB : Option Int:=
 some (-1)
def Qb2 (a:(List ByteArray)):Option Int:=
 (QK (fun st=>Qbz a st) 0).bind (Sum.elim (fun q=>QbA q) (fun q=>QbB))
theorem QkL (g){r}(h:Qb2 g=some r):Qc prog 222 [.sl 1 (g.map Qd7),.clo (.func 169) [] []] [] (Gives (.I r) []):=by
 refine Qc.walk 19 func222 rfl rfl rfl fun C hC=>?_
 refine Qa hC [.n 9,.o (.ln g.length),.n 4,.K [0,1,7,8] []] rfl ⟨tt_,Qf⟩ ?_
 obtain⟨j,i,h⟩:=Qb h
 refine AK.loop (body:=(fun st=>Qbz g st)) (fun st σ=>σ=⟨[(0,.sl 1 (g.map Qd7)),(1,.clo (.func 169) [] []),(7,.I (g.length:Int)),(8,.I st)],[]⟩) (Sum.elim (fun q e σ=>e=.ret∧σ=⟨[(4,.I q)],[]⟩) (fun q e σ=>e=.exit 0∧σ=⟨[],[]⟩)) i rfl ?_ ?_
 ·rintro t o σ rfl h
  refine tg_ hC [.n 6] rfl ?_
  rcases Qr h with⟨f,h⟩|⟨f,h⟩
  ·obtain⟨m,k,h⟩:=Qb h
   obtain⟨p,l,h⟩:=Qb h
   refine Qa hC [.T,.n 15,.o (.row (Qd7 m)),.n 1,.o (.c false [.d] (.b p)),.n 2] rfl ⟨⟨⟨tt_,f⟩,(QP k)⟩,(QpK _ l)⟩ ?_
   refine bg_ h (fun a h=>Qa hC [.T,.n 9,.K [4] []] rfl ⟨tt_,a⟩ ?_) fun a h=>Qa hC [.F,.n 7,.K [0,1,7,8] []] rfl ⟨tt_,a⟩ ?_
   ·cases h
    exact Qar rfl (an_ rfl rfl)
   cases h
   exact Q4 rfl rfl
  refine Qa hC [.F,.n 2,.K [] []] rfl ⟨tt_,f⟩ ?_
  cases h
  exact Q6 rfl (an_ rfl rfl)
 rcases j with(s | _)
 ·replace h:QbA s=some r:=h
  rintro e σ ⟨rfl,rfl⟩
  refine tg_ hC [.n 2] rfl ?_
  cases h
  exact d1_ rfl rfl tt_
 replace h:QbB=some r:=h
 rintro e σ ⟨rfl,rfl⟩
 refine tg_ hC [.n 8] rfl ?_
 cases h
 exact d1_ rfl rfl tt_
def QbC (a:(List ByteArray)):Option Bool:=
 (Qb2 a).bind fun b=>
 some (decide (0≤b))
theorem Qjb (c){r}(h:QbC c=some r):Qc prog 168 [.sl 1 (c.map Qd7),.clo (.func 169) [] []] [] (Gives (.b r) []):=by
 refine Qc.walk 9 func168 rfl rfl rfl fun C hC=>?_
 obtain⟨e,a,h⟩:=Qb h
 refine Qa hC [.n 9,.cm (.fn) [] [] [] [.d,.d] [] (.I e),.n 5] rfl ⟨tt_,(QkL _ a)⟩ ?_
 cases h
 exact d1_ rfl rfl tt_
def Qlq (a:QJ):Option Bool:=
 (QeT a.Name).bind fun b=>
 bif b then
 bif (a.Kind != 2)then
 some true
 else
 (QbC a.Names).bind fun c=>
 some (!c)
 else
 some false
def QeH (a:Bool):Option Bool:=
 some a
def Qgj (a:QJ):Option Bool:=
 (Qlq a).bind (fun b=>QeH b)
theorem Qrg (f){r}(h:Qgj f=some r):Qc prog 166 [.loc 617 0 0] [(617,.var (Qu f))] (Gives (.b r) [(617,.var (Qu f))]):=by
 refine Qc.walk 16 func166 rfl rfl rfl fun C hC=>?_
 refine tg_ hC [.n 6] rfl ?_
 obtain⟨g,i,h⟩:=Qb h
 replace h:QeH g=some r:=h
 refine AK.meetX (fun σ=>σ=⟨[(1,.b g)],[(617,.var (Qu f))]⟩) ?_ ?_
 ·replace h:=i
  obtain⟨l,j,h⟩:=Qb h
  refine Qa hC [.n 3,.o (.c false [.d] (.b l)),.n 1] rfl ⟨tt_,(QgT _ j)⟩ ?_
  refine bg_ h (fun a h=>Qa hC [.S 5 (.b true),.n 4] rfl (tc_ a) ?_) fun a h=>Qa hC [.S 5 (.b false),.n 12,.K [1] [617]] rfl (tc_ a) ?_
  ·rcases Qr h with⟨e,h⟩|⟨e,h⟩
   ·refine Qa hC [.S 9 (.b true),.n 8,.K [1] [617]] rfl (tc_ e) ?_
    cases h
    exact AK.met rfl
   obtain⟨m,k,h⟩:=Qb h
   refine Qa hC [.S 9 (.b false),.n 2,.cm (.fn) [] [] [] [.d,.d] [] (.b m),.n 5,.K [1] [617]] rfl ⟨(tc_ e),(Qjb _ k)⟩ ?_
   cases h
   exact AK.met rfl
  cases h
  exact AK.met rfl
 rintro σ rfl
 replace h:QeH g=some r:=h
 refine tg_ hC [.n 2] rfl ?_
 cases h
 exact d1_ rfl rfl ⟨rfl,tt_⟩
def Qis (b:Qj)(c:Int)(d:Int)(e:QJ)(f:Int):Option Int:=
 (Qgi b c).bind fun g=>
 bif (!g)then
 some d
 else
 (Qgj e).bind fun a=>
 bif (!a)then
 some f
 else
 some 0
theorem Qtf (g i j k l){r}(h:Qis g i j k l=some r):Qc prog 122 [.own 617 2] [(617,.var [.clo (.func 170) [] [.loc 618 0 0,.loc 619 0 0],.I j,.clo (.func 166) [] [.loc 620 0 0],.I l]),(618,.var (Qd g)),(619,.var (Qe i)),(620,.var (Qu k))] (Gives (.I r) [(617,.var [.clo (.func 170) [] [.loc 618 0 0,.loc 619 0 0],.I j,.clo (.func 166) [] [.loc 620 0 0],.I l]),(618,.var (Qd g)),(619,.var (Qe i)),(620,.var (Qu k))]):=by
 refine Qc.walk 18 func122 rfl rfl rfl fun C hC=>?_
 refine tg_ hC [.n 14] rfl ?_
 refine AK.loopN 3 (AK.rnd ?_)
 obtain⟨s,m,h⟩:=Qb h
 refine Qa hC [.n 2,.v .no [] (.b true),.n 10,.o (.any (.loc 617 0 0) none),.n 3,.O 4 (.var [.clo (.func 170) [] [.loc 618 0 0,.loc 619 0 0],.I j]),.n 6,.cm (.clo) [(617,618),(618,619)] [(618,617),(619,618)] [] [.d,.d] [(617,.var (Qd g)),(618,.var (Qe i))] (.b s),.n 3] rfl ⟨⟨⟨⟨tt_,rfl⟩,(fun σ e p _=>Stp.idxV rfl rfl (QO hC.n rfl) (e _ _ rfl) (e _ _ rfl) (Qp.es rfl) (p _ _ rfl) (by decide))⟩,rfl⟩,(Qrf _ _ m)⟩ ?_
 refine bg_ h (fun c h=>Qa hC [.T,.n 13,.K [2] [617,618,619,620]] rfl ⟨tt_,c⟩ ?_) fun c h=>Qa hC [.F,.n 4,.v .no [] (.I 1),.n 2] rfl ⟨⟨tt_,c⟩,rfl⟩ ?_
 ·cases h
  exact d1_ rfl rfl ⟨rfl,rfl,rfl,rfl,tt_⟩
 refine AK.met (AK.rnd ?_)
 obtain⟨q,f,h⟩:=Qb h
 refine Qa hC [.n 2,.v .no [] (.b true),.n 10,.o (.any (.loc 617 0 2) none),.n 1,.kill 4,.n 2,.O 4 (.var [.clo (.func 166) [] [.loc 620 0 0],.I l]),.n 6,.cm (.clo) [(617,620)] [(620,617)] [] [.d] [(617,.var (Qu k))] (.b q),.n 3] rfl ⟨⟨⟨⟨tt_,rfl⟩,(fun σ e p _=>Stp.idxV rfl rfl (QO hC.n rfl) (e _ _ rfl) (e _ _ rfl) (Qp.es rfl) (p _ _ rfl) (by decide))⟩,rfl⟩,(Qrg _ f)⟩ ?_
 refine bg_ h (fun a h=>Qa hC [.T,.n 13,.K [2] [617,618,619,620]] rfl ⟨tt_,a⟩ ?_) fun a h=>Qa hC [.F,.n 4,.v .no [] (.I 2),.n 2] rfl ⟨⟨tt_,a⟩,rfl⟩ ?_
 ·cases h
  exact d1_ rfl rfl ⟨rfl,rfl,rfl,rfl,tt_⟩
 refine AK.met (AK.rnd ?_)
 refine Qa hC [.n 2,.v .no [] (.b false),.n 15] rfl ⟨tt_,rfl⟩ ?_
 cases h
 exact d1_ rfl rfl ⟨rfl,rfl,rfl,rfl,tt_⟩
def Qhx (a:Int)(b:QJ)(c:Qj):Option Int:=
 (Qis c a 8 b 8).bind fun d=>
 some d
theorem QsJ (b c a){r}(h:Qhx b c a=some r):Qc prog 165 [.I b,.agg (Qu c),.loc 617 0 0] [(617,.var (Qd a))] (Gives (.I r) [(617,.var (Qd a))]):=by
 refine Qc.walk 16 func165 rfl rfl rfl fun C hC=>?_
 obtain⟨f,e,h⟩:=Qb h
 refine Qa hC [.n 22,.v .no [] (.agg [.clo (.func 170) [] [.loc 617 0 0,.loc 3 0 0],.I 8]),.n 1,.v .no [] (.agg [.clo (.func 166) [] [.loc 4 0 0],.I 8]),.o (.any (.own 14 2) (some (.var [.clo (.func 170) [] [.loc 617 0 0,.loc 3 0 0],.I 8,.clo (.func 166) [] [.loc 4 0 0],.I 8]))),.cm (.fn) [(617,14),(618,617),(619,3),(620,4)] [(14,617),(617,618),(3,619),(4,620)] [] [.d] [(617,.var [.clo (.func 170) [] [.loc 618 0 0,.loc 619 0 0],.I 8,.clo (.func 166) [] [.loc 620 0 0],.I 8]),(618,.var (Qd a)),(619,.var (Qe b)),(620,.var (Qu c))] (.I f),.n 4] rfl ⟨⟨⟨⟨tt_,rfl⟩,rfl⟩,(fun σ g i hf=>Stp.buildAny rfl rfl (QO hC.n rfl) (Qp.es rfl) QnT rfl (by decide) (by decide) (QfY g rfl) rfl rfl (hf rfl))⟩,(Qtf _ _ _ _ _ e)⟩ ?_
 cases h
 exact d1_ rfl rfl ⟨rfl,tt_⟩
def Qdb (d:(List QJ))(e:Qj)(a:Int):Option (Int⊕((Int×Int)⊕Unit)):=
 bif (decide (a<(d.length:Int)))then
 (idx d a).bind fun c=>
 (Qhx a c e).bind fun b=>
 bif (b != 0)then
 some (.inr (.inl (a,b)))
 else
 some (.inl (w64 (a+1)))
 else
 some (.inr (.inr ()))
def Qdc (b:Int)(a:Int):Option (Int×Int):=
 some (b,a)
def Qdd : Option (Int×Int):=
 some (0,0)
def Qd8 (a:(List QJ))(b:Qj):Option (Int×Int):=
 (QK (fun st=>Qdb a b st) 0).bind (Sum.elim (fun q=>Qdc q.1 q.2) (fun q=>Qdd))
theorem Qoe (g f){r}(h:Qd8 g f=some r):Qc prog 164 [.sl 7 (g.map Qu),.clo (.func 165) [] [.loc 617 0 0]] [(617,.var (Qd f))] (Gives (.tup [.I r.1,.I r.2]) [(617,.var (Qd f))]):=by
 refine Qc.walk 25 func164 rfl rfl rfl fun C hC=>?_
 refine Qa hC [.n 10,.o (.ln g.length),.n 4,.K [1,9,10,11] [617]] rfl ⟨tt_,Qf⟩ ?_
 obtain⟨l,i,h⟩:=Qb h
 refine AK.loop (body:=(fun st=>Qdb g f st)) (fun st σ=>σ=⟨[(1,.clo (.func 165) [] [.loc 617 0 0]),(9,.sl 7 (g.map Qu)),(10,.I (g.length:Int)),(11,.I st)],[(617,.var (Qd f))]⟩) (Sum.elim (fun q e σ=>e=.ret∧σ=⟨[(4,.I q.1),(5,.I q.2)],[(617,.var (Qd f))]⟩) (fun q e σ=>e=.exit 0∧σ=⟨[],[(617,.var (Qd f))]⟩)) i rfl ?_ ?_
 ·rintro t o σ rfl h
  refine tg_ hC [.n 6] rfl ?_
  rcases Qr h with⟨a,h⟩|⟨a,h⟩
  ·obtain⟨c,j,h⟩:=Qb h
   obtain⟨m,k,h⟩:=Qb h
   refine Qa hC [.T,.n 7,.o (.row (Qu c)),.v .no [] (.agg (Qu c)),.n 3,.O 7 (.var (Qu c)),.n 6,.v .no [] (.agg (Qu c)),.cm (.clo) [(617,617)] [(617,617)] [] [.d,.d,.d] [(617,.var (Qd f))] (.I m),.n 9] rfl ⟨⟨⟨⟨⟨⟨tt_,a⟩,(QP j)⟩,rfl⟩,rfl⟩,rfl⟩,(QsJ _ _ _ k)⟩ ?_
   refine bg_ h (fun b h=>Qa hC [.T,.n 11,.K [4,5] [617]] rfl ⟨tt_,b⟩ ?_) fun b h=>Qa hC [.F,.n 7,.K [1,9,10,11] [617]] rfl ⟨tt_,b⟩ ?_
   ·cases h
    exact Qar rfl (an_ rfl rfl)
   cases h
   exact Q4 rfl rfl
  refine Qa hC [.F,.n 2,.K [] [617]] rfl ⟨tt_,a⟩ ?_
  cases h
  exact Q6 rfl (an_ rfl rfl)
 rcases l with(⟨s,p⟩|_)
 ·replace h:Qdc s p=some r:=h
  rintro e σ ⟨rfl,rfl⟩
  refine tg_ hC [.n 2] rfl ?_
  cases h
  exact d2_ rfl rfl rfl ⟨rfl,tt_⟩
 replace h:Qdd=some r:=h
 rintro e σ ⟨rfl,rfl⟩
 refine tg_ hC [.n 9] rfl ?_
 cases h
 exact d2_ rfl rfl rfl ⟨rfl,tt_⟩
def QgU (a:Qj):Option (Int×Int):=
 (Qd8 a.Colours a).bind fun b=>
 some (b.1,b.2)
theorem QnX (a){r}(h:QgU a=some r):Qc prog 127 [.agg (Qd a)] [] (Gives (.tup [.I r.1,.I r.2]) []):=by
 refine Qc.walk 10 func127 rfl rfl rfl fun C hC=>?_
 obtain⟨c,b,h⟩:=Qb h
 refine Qa hC [.n 12,.cm (.fn) [(617,1)] [(1,617)] [] [.d,.d] [(617,.var (Qd a))] (.tup [.I c.1,.I c.2]),.n 7] rfl ⟨tt_,(Qoe _ _ b)⟩ ?_
 cases h
 exact d2_ rfl rfl rfl tt_
def QjD (a:QN):Option Bool:=
 (QeT a.Name).bind fun b=>
 some b
theorem Qt4 (a){r}(h:QjD a=some r):Qc prog 173 [.loc 617 0 0] [(617,.var (Qq a))] (Gives (.b r) [(617,.var (Qq a))]):=by
 refine Qc.walk 5 func173 rfl rfl rfl fun C hC=>?_
 obtain⟨f,e,h⟩:=Qb h
 refine Qa hC [.n 9,.o (.c false [.d] (.b f)),.n 4] rfl ⟨tt_,(QgT _ e)⟩ ?_
 cases h
 exact d1_ rfl rfl ⟨rfl,tt_⟩
def QjE (a:QN)(b:QN):Option Bool:=
 some (Qif a.Name b.Name)
theorem Qt5 (c a){r}(h:QjE c a=some r):Qc prog 172 [.agg (Qq c),.loc 617 0 0] [(617,.var (Qq a))] (Gives (.b r) [(617,.var (Qq a))]):=by
 refine Qc.walk 9 func172 rfl rfl rfl fun C hC=>?_
 refine tg_ hC [.n 17] rfl ?_
 cases h
 exact d1_ rfl rfl ⟨rfl,tt_⟩
def QaS (c:(List QN))(d:QN)(a:Int):Option (Int⊕(Int⊕Unit)):=
 bif (decide (a<(c.length:Int)))then
 (idx c a).bind fun e=>
 (QjE e d).bind fun b=>
 bif b then
 some (.inr (.inl a))
 else
 some (.inl (w64 (a+1)))
 else
 some (.inr (.inr ()))
def QaT (a:Int):Option Int:=
 some a
def QaU : Option Int:=
 some (-1)
def Qbf (a:(List QN))(b:QN):Option Int:=
 (QK (fun st=>QaS a b st) 0).bind (Sum.elim (fun q=>QaT q) (fun q=>QaU))
theorem Qh5 (g c){r}(h:Qbf g c=some r):Qc prog 224 [.sl 3 (g.map Qq),.clo (.func 172) [] [.loc 617 0 0]] [(617,.var (Qq c))] (Gives (.I r) [(617,.var (Qq c))]):=by
 refine Qc.walk 19 func224 rfl rfl rfl fun C hC=>?_
 refine Qa hC [.n 9,.o (.ln g.length),.n 4,.K [0,1,7,8] [617]] rfl ⟨tt_,Qf⟩ ?_
 obtain⟨k,i,h⟩:=Qb h
 refine AK.loop (body:=(fun st=>QaS g c st)) (fun st σ=>σ=⟨[(0,.sl 3 (g.map Qq)),(1,.clo (.func 172) [] [.loc 617 0 0]),(7,.I (g.length:Int)),(8,.I st)],[(617,.var (Qq c))]⟩) (Sum.elim (fun q e σ=>e=.ret∧σ=⟨[(4,.I q)],[(617,.var (Qq c))]⟩) (fun q e σ=>e=.exit 0∧σ=⟨[],[(617,.var (Qq c))]⟩)) i rfl ?_ ?_
 ·rintro t o σ rfl h
  refine tg_ hC [.n 6] rfl ?_
  rcases Qr h with⟨f,h⟩|⟨f,h⟩
  ·obtain⟨p,l,h⟩:=Qb h
   obtain⟨m,j,h⟩:=Qb h
   refine Qa hC [.T,.n 15,.o (.row (Qq p)),.v .no [] (.agg (Qq p)),.cm (.clo) [(617,617)] [(617,617)] [] [.d,.d] [(617,.var (Qq c))] (.b m),.n 2] rfl ⟨⟨⟨⟨tt_,f⟩,(QP l)⟩,rfl⟩,(Qt5 _ _ j)⟩ ?_
   refine bg_ h (fun a h=>Qa hC [.T,.n 9,.K [4] [617]] rfl ⟨tt_,a⟩ ?_) fun a h=>Qa hC [.F,.n 7,.K [0,1,7,8] [617]] rfl ⟨tt_,a⟩ ?_
   ·cases h
    exact Qar rfl (an_ rfl rfl)
   cases h
   exact Q4 rfl rfl
  refine Qa hC [.F,.n 2,.K [] [617]] rfl ⟨tt_,f⟩ ?_
  cases h
  exact Q6 rfl (an_ rfl rfl)
 rcases k with(s | _)
 ·replace h:QaT s=some r:=h
  rintro e σ ⟨rfl,rfl⟩
  refine tg_ hC [.n 2] rfl ?_
  cases h
  exact d1_ rfl rfl ⟨rfl,tt_⟩
 replace h:QaU=some r:=h
 rintro e σ ⟨rfl,rfl⟩
 refine tg_ hC [.n 8] rfl ?_
 cases h
 exact d1_ rfl rfl ⟨rfl,tt_⟩
def QaV (a:(List QN))(b:QN):Option Bool:=
 (Qbf a b).bind fun c=>
 some (decide (0≤c))
theorem Qhb (e a){r}(h:QaV e a=some r):Qc prog 175 [.sl 3 (e.map Qq),.clo (.func 172) [] [.loc 617 0 0]] [(617,.var (Qq a))] (Gives (.b r) [(617,.var (Qq a))]):=by
 refine Qc.walk 9 func175 rfl rfl rfl fun C hC=>?_
 obtain⟨f,c,h⟩:=Qb h
 refine Qa hC [.n 9,.cm (.fn) [(617,617)] [(617,617)] [] [.d,.d] [(617,.var (Qq a))] (.I f),.n 5] rfl ⟨tt_,(Qh5 _ _ c)⟩ ?_
 cases h
 exact d1_ rfl rfl ⟨rfl,tt_⟩
def QjF (b:Qj)(a:Int)(c:QN):Option Bool:=
 (chk (decide (0≤a)&&decide (0≤a.toNat)&&decide (a.toNat≤b.Places.length))).bind fun _=>
 (QaV ((b.Places.drop 0).take (a.toNat-0)) c).bind fun d=>
 some (!d)
theorem Qt6 (e f g){r}(h:QjF e f g=some r):Qc prog 174 [.loc 617 0 0,.loc 618 0 0,.loc 619 0 0] [(617,.var (Qd e)),(618,.var (Qe f)),(619,.var [.clo (.func 172) [] [.loc 620 0 0]]),(620,.var (Qq g))] (Gives (.b r) [(617,.var (Qd e)),(618,.var (Qe f)),(619,.var [.clo (.func 172) [] [.loc 620 0 0]]),(620,.var (Qq g))]):=by
 refine Qc.walk 11 func174 rfl rfl rfl fun C hC=>?_
 obtain⟨c,h⟩:=QaX h
 obtain⟨k,j,h⟩:=Qb h
 refine tg_ hC [.n 6,.K [0,1,2,3] [617,618,619,620]] rfl ?_
 refine AK.draw2 Qp hC mixed [.N,.N,.N,.a (.any (.sl 3 (((e.Places.drop 0).take (f.toNat-0)).map Qq)) none) none false,.N,.a (.any (.b k) none) none false,.N,.m .s] [] [] [3] [617,618,619,620] rfl rfl rfl ⟨⟨tt_,(fun σ i l _=>Stp.sliceD rfl rfl (QO hC.n rfl) (i _ _ rfl) (Qp.es rfl) Bnd.no (Bnd.val (i _ _ rfl) (Q8 (QtI c)) rfl) (Q8 (QtJ c)) (Qcb (Q8 (QtK c)) (Nat.le_of_eq Qf.symm)) Qwr)⟩,(fun σ i l _=>Stp.callSame (md:=.cm (.fn) [(617,620)] [(620,617)] [] [.d,.d] [(617,.var (Qq g))] (.b k) [620]) Qp hC i l rfl ⟨⟨tt_,(Qhb _ _ j)⟩,⟨rfl,tt_⟩⟩)⟩ rfl (by kernel_rfl) rfl rfl rfl ?_
 refine tg_ hC [.n 2] rfl ?_
 cases h
 exact d1_ rfl rfl ⟨rfl,rfl,rfl,rfl,tt_⟩
def QcJ (b:(List QJ))(a:Int):Option Bool:=
 some ((decide (0≤a))&&(decide (a<(b.length:Int))))
theorem Qh9 (d c){r}(h:QcJ d c=some r):Qc prog 177 [.sl 7 (d.map Qu),.I c] [] (Gives (.b r) []):=by
 refine Qc.walk 13 func177 rfl rfl rfl fun C hC=>?_
 refine tg_ hC [.n 6] rfl ?_
 refine AK.meetX (fun σ=>σ=⟨[(4,.b ((decide (0≤c))&&(decide (c<(d.length:Int)))))],[]⟩) ?_ ?_
 ·refine tg_ hC [.n 4] rfl ?_
  rcases Q3 (decide (0≤c))with a | a
  ·refine Qa hC [.S 7 (.b true),.n 2,.o (.ln d.length),.n 4,.S 4 (.b ((decide (0≤c))&&(decide (c<(d.length:Int))))),.K [4] []] rfl ⟨⟨(tc_ a),Qf⟩,(congrArg V.b (Qb6 a rfl))⟩ ?_
   exact AK.met rfl
  refine Qa hC [.S 7 (.b false),.n 7,.S 4 (.b ((decide (0≤c))&&(decide (c<(d.length:Int))))),.K [4] []] rfl ⟨(tc_ a),(congrArg V.b (Qd2 a rfl))⟩ ?_
  exact AK.met rfl
 rintro σ rfl
 refine tg_ hC [.n 2] rfl ?_
 cases h
 exact d1_ rfl rfl tt_
def QjG (a:Qj)(b:QN):Option Bool:=
 (QcJ a.Colours b.Colour).bind fun c=>
 some c
theorem Qt7 (a e){r}(h:QjG a e=some r):Qc prog 176 [.loc 617 0 0,.loc 618 0 0] [(617,.var (Qd a)),(618,.var (Qq e))] (Gives (.b r) [(617,.var (Qd a)),(618,.var (Qq e))]):=by
 refine Qc.walk 8 func176 rfl rfl rfl fun C hC=>?_
 obtain⟨g,f,h⟩:=Qb h
 refine Qa hC [.n 11,.o (.c false [.d,.d] (.b g)),.n 4] rfl ⟨tt_,(Qh9 _ _ f)⟩ ?_
 cases h
 exact d1_ rfl rfl ⟨rfl,rfl,tt_⟩
def QjH (a:QN):Option Bool:=
 (Qc3 a.First).bind fun b=>
 some b
theorem Qt8 (a){r}(h:QjH a=some r):Qc prog 178 [.loc 617 0 0] [(617,.var (Qq a))] (Gives (.b r) [(617,.var (Qq a))]):=by
 refine Qc.walk 5 func178 rfl rfl rfl fun C hC=>?_
 obtain⟨f,e,h⟩:=Qb h
 refine Qa hC [.n 9,.o (.c false [.d] (.b f)),.n 4] rfl ⟨tt_,(QfP _ e)⟩ ?_
 cases h
 exact d1_ rfl rfl ⟨rfl,tt_⟩
def Qhy (a:(Int×Int))(b:Int):Option Bool:=
 some (decide (b≤a.1))
theorem QsK (a c){r}(h:Qhy a c=some r):Qc prog 181 [.agg (QF a),.loc 617 0 0] [(617,.var (Qe c))] (Gives (.b r) [(617,.var (Qe c))]):=by
 refine Qc.walk 8 func181 rfl rfl rfl fun C hC=>?_
 refine tg_ hC [.n 16] rfl ?_
 cases h
 exact d1_ rfl rfl ⟨rfl,tt_⟩
def QbD (c:QBg)(d:Int)(a:Int):Option (Int⊕(Int⊕Unit)):=
 bif (decide (a<(c.length:Int)))then
 (idx c a).bind fun e=>
 (Qhy e d).bind fun b=>
 bif b then
 some (.inr (.inl a))
 else
 some (.inl (w64 (a+1)))
 else
 some (.inr (.inr ()))
def QbE (a:Int):Option Int:=
 some a
def QbF : Option Int:=
 some (-1)
def Qb3 (a:QBg)(b:Int):Option Int:=
 (QK (fun st=>QbD a b st) 0).bind (Sum.elim (fun q=>QbE q) (fun q=>QbF))
theorem QkM (g c){r}(h:Qb3 g c=some r):Qc prog 225 [.sl 2 (g.map QF),.clo (.func 181) [] [.loc 617 0 0]] [(617,.var (Qe c))] (Gives (.I r) [(617,.var (Qe c))]):=by
 refine Qc.walk 19 func225 rfl rfl rfl fun C hC=>?_
 refine Qa hC [.n 9,.o (.ln g.length),.n 4,.K [0,1,7,8] [617]] rfl ⟨tt_,Qf⟩ ?_
 obtain⟨k,i,h⟩:=Qb h
 refine AK.loop (body:=(fun st=>QbD g c st)) (fun st σ=>σ=⟨[(0,.sl 2 (g.map QF)),(1,.clo (.func 181) [] [.loc 617 0 0]),(7,.I (g.length:Int)),(8,.I st)],[(617,.var (Qe c))]⟩) (Sum.elim (fun q e σ=>e=.ret∧σ=⟨[(4,.I q)],[(617,.var (Qe c))]⟩) (fun q e σ=>e=.exit 0∧σ=⟨[],[(617,.var (Qe c))]⟩)) i rfl ?_ ?_
 ·rintro t o σ rfl h
  refine tg_ hC [.n 6] rfl ?_
  rcases Qr h with⟨f,h⟩|⟨f,h⟩
  ·obtain⟨p,l,h⟩:=Qb h
   obtain⟨m,j,h⟩:=Qb h
   refine Qa hC [.T,.n 15,.o (.row (QF p)),.v .no [] (.agg (QF p)),.cm (.clo) [(617,617)] [(617,617)] [] [.d,.d] [(617,.var (Qe c))] (.b m),.n 2] rfl ⟨⟨⟨⟨tt_,f⟩,(QP l)⟩,rfl⟩,(QsK _ _ j)⟩ ?_
   refine bg_ h (fun a h=>Qa hC [.T,.n 9,.K [4] [617]] rfl ⟨tt_,a⟩ ?_) fun a h=>Qa hC [.F,.n 7,.K [0,1,7,8] [617]] rfl ⟨tt_,a⟩ ?_
   ·cases h
    exact Qar rfl (an_ rfl rfl)
   cases h
   exact Q4 rfl rfl
  refine Qa hC [.F,.n 2,.K [] [617]] rfl ⟨tt_,f⟩ ?_
  cases h
  exact Q6 rfl (an_ rfl rfl)
 rcases k with(s | _)
 ·replace h:QbE s=some r:=h
  rintro e σ ⟨rfl,rfl⟩
  refine tg_ hC [.n 2] rfl ?_
  cases h
  exact d1_ rfl rfl ⟨rfl,tt_⟩
 replace h:QbF=some r:=h
 rintro e σ ⟨rfl,rfl⟩
 refine tg_ hC [.n 8] rfl ?_
 cases h
 exact d1_ rfl rfl ⟨rfl,tt_⟩
def QbG (a:QBg)(b:Int):Option Bool:=
 (Qb3 a b).bind fun c=>
 some (decide (0≤c))
theorem Qjc (e a){r}(h:QbG e a=some r):Qc prog 180 [.sl 2 (e.map QF),.clo (.func 181) [] [.loc 617 0 0]] [(617,.var (Qe a))] (Gives (.b r) [(617,.var (Qe a))]):=by
 refine Qc.walk 9 func180 rfl rfl rfl fun C hC=>?_
 obtain⟨f,c,h⟩:=Qb h
 refine Qa hC [.n 9,.cm (.fn) [(617,617)] [(617,617)] [] [.d,.d] [(617,.var (Qe a))] (.I f),.n 5] rfl ⟨tt_,(QkM _ _ c)⟩ ?_
 cases h
 exact d1_ rfl rfl ⟨rfl,tt_⟩
def QjI (b:Qj)(a:QN):Option Bool:=
 (Qa6 b.Colours a.Colour).bind fun c=>
 (QbG a.First c).bind fun d=>
 some (!d)
theorem Qt9 (a e){r}(h:QjI a e=some r):Qc prog 179 [.loc 617 0 0,.loc 618 0 0] [(617,.var (Qd a)),(618,.var (Qq e))] (Gives (.b r) [(617,.var (Qd a)),(618,.var (Qq e))]):=by
 refine Qc.walk 14 func179 rfl rfl rfl fun C hC=>?_
 obtain⟨f,g,h⟩:=Qb h
 obtain⟨j,i,h⟩:=Qb h
 refine Qa hC [.n 11,.o (.c false [.d,.d] (.I f)),.n 2,.O 3 (.var (Qe f)),.n 7,.cm (.fn) [(617,3)] [(3,617)] [] [.d,.d] [(617,.var (Qe f))] (.b j),.n 5] rfl ⟨⟨⟨tt_,(Qip _ _ g)⟩,rfl⟩,(Qjc _ _ i)⟩ ?_
 cases h
 exact d1_ rfl rfl ⟨rfl,rfl,tt_⟩
def Qit (a:QN)(h:Int)(b:Qj)(i:Int)(j:Int)(k:Int)(l:Int)(m:Int):Option Int:=
 (QjD a).bind fun c=>
 bif (!c)then
 some h
 else
 (QjF b i a).bind fun d=>
 bif (!d)then
 some j
 else
 (QjG b a).bind fun e=>
 bif (!e)then
 some k
 else
 (QjH a).bind fun f=>
 bif (!f)then
 some l
 else
 (QjI b a).bind fun g=>
 bif (!g)then
 some m
 else
 some 0
theorem Qtg (k u l w x y z A){r}(h:Qit k u l w x y z A=some r):Qc prog 122 [.own 617 5] [(617,.var [.clo (.func 173) [] [.loc 618 0 0],.I u,.clo (.func 174) [] [.loc 619 0 0,.loc 620 0 0,.loc 621 0 0],.I x,.clo (.func 176) [] [.loc 619 0 0,.loc 618 0 0],.I y,.clo (.func 178) [] [.loc 618 0 0],.I z,.clo (.func 179) [] [.loc 619 0 0,.loc 618 0 0],.I A]),(618,.var (Qq k)),(619,.var (Qd l)),(620,.var (Qe w)),(621,.var [.clo (.func 172) [] [.loc 618 0 0]])] (Gives (.I r) [(617,.var [.clo (.func 173) [] [.loc 618 0 0],.I u,.clo (.func 174) [] [.loc 619 0 0,.loc 620 0 0,.loc 621 0 0],.I x,.clo (.func 176) [] [.loc 619 0 0,.loc 618 0 0],.I y,.clo (.func 178) [] [.loc 618 0 0],.I z,.clo (.func 179) [] [.loc 619 0 0,.loc 618 0 0],.I A]),(618,.var (Qq k)),(619,.var (Qd l)),(620,.var (Qe w)),(621,.var [.clo (.func 172) [] [.loc 618 0 0]])]):=by
 refine Qc.walk 18 func122 rfl rfl rfl fun C hC=>?_
 refine tg_ hC [.n 14] rfl ?_
 refine AK.loopN 6 (AK.rnd ?_)
 obtain⟨B,m,h⟩:=Qb h
 refine Qa hC [.n 2,.v .no [] (.b true),.n 10,.o (.any (.loc 617 0 0) none),.n 3,.O 4 (.var [.clo (.func 173) [] [.loc 618 0 0],.I u]),.n 6,.cm (.clo) [(617,618)] [(618,617)] [] [.d] [(617,.var (Qq k))] (.b B),.n 3] rfl ⟨⟨⟨⟨tt_,rfl⟩,(fun σ a j _=>Stp.idxV rfl rfl (QO hC.n rfl) (a _ _ rfl) (a _ _ rfl) (Qp.es rfl) (j _ _ rfl) (by decide))⟩,rfl⟩,(Qt4 _ m)⟩ ?_
 refine bg_ h (fun c h=>Qa hC [.T,.n 13,.K [2] [617,618,619,620,621]] rfl ⟨tt_,c⟩ ?_) fun c h=>Qa hC [.F,.n 4,.v .no [] (.I 1),.n 2] rfl ⟨⟨tt_,c⟩,rfl⟩ ?_
 ·cases h
  exact d1_ rfl rfl ⟨rfl,rfl,rfl,rfl,rfl,tt_⟩
 refine AK.met (AK.rnd ?_)
 obtain⟨D,p,h⟩:=Qb h
 refine Qa hC [.n 2,.v .no [] (.b true),.n 10,.o (.any (.loc 617 0 2) none),.n 1,.kill 4,.n 2,.O 4 (.var [.clo (.func 174) [] [.loc 619 0 0,.loc 620 0 0,.loc 621 0 0],.I x]),.n 6,.cm (.clo) [(617,619),(618,620),(619,621),(620,618)] [(619,617),(620,618),(621,619),(618,620)] [] [.d,.d,.d] [(617,.var (Qd l)),(618,.var (Qe w)),(619,.var [.clo (.func 172) [] [.loc 620 0 0]]),(620,.var (Qq k))] (.b D),.n 3] rfl ⟨⟨⟨⟨tt_,rfl⟩,(fun σ a j _=>Stp.idxV rfl rfl (QO hC.n rfl) (a _ _ rfl) (a _ _ rfl) (Qp.es rfl) (j _ _ rfl) (by decide))⟩,rfl⟩,(Qt6 _ _ _ p)⟩ ?_
 refine bg_ h (fun e h=>Qa hC [.T,.n 13,.K [2] [617,618,619,620,621]] rfl ⟨tt_,e⟩ ?_) fun e h=>Qa hC [.F,.n 4,.v .no [] (.I 2),.n 2] rfl ⟨⟨tt_,e⟩,rfl⟩ ?_
 ·cases h
  exact d1_ rfl rfl ⟨rfl,rfl,rfl,rfl,rfl,tt_⟩
 refine AK.met (AK.rnd ?_)
 obtain⟨E,q,h⟩:=Qb h
 refine Qa hC [.n 2,.v .no [] (.b true),.n 10,.o (.any (.loc 617 0 4) none),.n 1,.kill 4,.n 2,.O 4 (.var [.clo (.func 176) [] [.loc 619 0 0,.loc 618 0 0],.I y]),.n 6,.cm (.clo) [(617,619),(618,618)] [(619,617),(618,618)] [] [.d,.d] [(617,.var (Qd l)),(618,.var (Qq k))] (.b E),.n 3] rfl ⟨⟨⟨⟨tt_,rfl⟩,(fun σ a j _=>Stp.idxV rfl rfl (QO hC.n rfl) (a _ _ rfl) (a _ _ rfl) (Qp.es rfl) (j _ _ rfl) (by decide))⟩,rfl⟩,(Qt7 _ _ q)⟩ ?_
 refine bg_ h (fun f h=>Qa hC [.T,.n 13,.K [2] [617,618,619,620,621]] rfl ⟨tt_,f⟩ ?_) fun f h=>Qa hC [.F,.n 4,.v .no [] (.I 3),.n 2] rfl ⟨⟨tt_,f⟩,rfl⟩ ?_
 ·cases h
  exact d1_ rfl rfl ⟨rfl,rfl,rfl,rfl,rfl,tt_⟩
 refine AK.met (AK.rnd ?_)
 obtain⟨G,s,h⟩:=Qb h
 refine Qa hC [.n 2,.v .no [] (.b true),.n 10,.o (.any (.loc 617 0 6) none),.n 1,.kill 4,.n 2,.O 4 (.var [.clo (.func 178) [] [.loc 618 0 0],.I z]),.n 6,.cm (.clo) [(617,618)] [(618,617)] [] [.d] [(617,.var (Qq k))] (.b G),.n 3] rfl ⟨⟨⟨⟨tt_,rfl⟩,(fun σ a j _=>Stp.idxV rfl rfl (QO hC.n rfl) (a _ _ rfl) (a _ _ rfl) (Qp.es rfl) (j _ _ rfl) (by decide))⟩,rfl⟩,(Qt8 _ s)⟩ ?_
 refine bg_ h (fun g h=>Qa hC [.T,.n 13,.K [2] [617,618,619,620,621]] rfl ⟨tt_,g⟩ ?_) fun g h=>Qa hC [.F,.n 4,.v .no [] (.I 4),.n 2] rfl ⟨⟨tt_,g⟩,rfl⟩ ?_
 ·cases h
  exact d1_ rfl rfl ⟨rfl,rfl,rfl,rfl,rfl,tt_⟩
 refine AK.met (AK.rnd ?_)
 obtain⟨H,t,h⟩:=Qb h
 refine Qa hC [.n 2,.v .no [] (.b true),.n 10,.o (.any (.loc 617 0 8) none),.n 1,.kill 4,.n 2,.O 4 (.var [.clo (.func 179) [] [.loc 619 0 0,.loc 618 0 0],.I A]),.n 6,.cm (.clo) [(617,619),(618,618)] [(619,617),(618,618)] [] [.d,.d] [(617,.var (Qd l)),(618,.var (Qq k))] (.b H),.n 3] rfl ⟨⟨⟨⟨tt_,rfl⟩,(fun σ a j _=>Stp.idxV rfl rfl (QO hC.n rfl) (a _ _ rfl) (a _ _ rfl) (Qp.es rfl) (j _ _ rfl) (by decide))⟩,rfl⟩,(Qt9 _ _ t)⟩ ?_
 refine bg_ h (fun i h=>Qa hC [.T,.n 13,.K [2] [617,618,619,620,621]] rfl ⟨tt_,i⟩ ?_) fun i h=>Qa hC [.F,.n 4,.v .no [] (.I 5),.n 2] rfl ⟨⟨tt_,i⟩,rfl⟩ ?_
 ·cases h
  exact d1_ rfl rfl ⟨rfl,rfl,rfl,rfl,rfl,tt_⟩
 refine AK.met (AK.rnd ?_)
 refine Qa hC [.n 2,.v .no [] (.b false),.n 15] rfl ⟨tt_,rfl⟩ ?_
 cases h
 exact d1_ rfl rfl ⟨rfl,rfl,rfl,rfl,rfl,tt_⟩
def QlG (a:Qj)(b:Int):Option Int:=
 (QaR a.Places b).bind fun c=>
 bif (!c)then
 some 3
 else
 (idx a.Places b).bind fun d=>
 (Qit d 1 a b 5 3 1 8).bind fun e=>
 some e
theorem QvR (f g){r}(h:QlG f g=some r):Qc prog 130 [.agg (Qd f),.I g] [] (Gives (.I r) []):=by
 refine Qc.walk 30 func130 rfl rfl rfl fun C hC=>?_
 obtain⟨l,i,h⟩:=Qb h
 refine Qa hC [.n 13,.o (.c false [.d,.d] (.b l)),.n 3] rfl ⟨tt_,(Qb8 _ _ i)⟩ ?_
 rcases Qr h with⟨a,h⟩|⟨a,h⟩
 ·refine Qa hC [.T,.n 7] rfl ⟨tt_,a⟩ ?_
  cases h
  exact d1_ rfl rfl tt_
 obtain⟨e,j,h⟩:=Qb h
 obtain⟨m,k,h⟩:=Qb h
 refine Qa hC [.F,.n 7,.o (.row (Qq e)),.v .no [] (.agg (Qq e)),.n 2,.O 5 (.var (Qq e)),.n 7,.O 6 (.var [.clo (.func 172) [] [.loc 5 0 0]]),.n 5,.v .no [] (.agg [.clo (.func 173) [] [.loc 5 0 0],.I 1]),.n 1,.v .no [] (.agg [.clo (.func 174) [] [.loc 2 0 0,.loc 3 0 0,.loc 6 0 0],.I 5]),.n 1,.v .no [] (.agg [.clo (.func 176) [] [.loc 2 0 0,.loc 5 0 0],.I 3]),.n 1,.v .no [] (.agg [.clo (.func 178) [] [.loc 5 0 0],.I 1]),.n 1,.v .no [] (.agg [.clo (.func 179) [] [.loc 2 0 0,.loc 5 0 0],.I 8]),.o (.any (.own 28 5) (some (.var [.clo (.func 173) [] [.loc 5 0 0],.I 1,.clo (.func 174) [] [.loc 2 0 0,.loc 3 0 0,.loc 6 0 0],.I 5,.clo (.func 176) [] [.loc 2 0 0,.loc 5 0 0],.I 3,.clo (.func 178) [] [.loc 5 0 0],.I 1,.clo (.func 179) [] [.loc 2 0 0,.loc 5 0 0],.I 8]))),.cm (.fn) [(617,28),(618,5),(619,2),(620,3),(621,6)] [(28,617),(5,618),(2,619),(3,620),(6,621)] [] [.d] [(617,.var [.clo (.func 173) [] [.loc 618 0 0],.I 1,.clo (.func 174) [] [.loc 619 0 0,.loc 620 0 0,.loc 621 0 0],.I 5,.clo (.func 176) [] [.loc 619 0 0,.loc 618 0 0],.I 3,.clo (.func 178) [] [.loc 618 0 0],.I 1,.clo (.func 179) [] [.loc 619 0 0,.loc 618 0 0],.I 8]),(618,.var (Qq e)),(619,.var (Qd f)),(620,.var (Qe g)),(621,.var [.clo (.func 172) [] [.loc 618 0 0]])] (.I m),.n 4] rfl ⟨⟨⟨⟨⟨⟨⟨⟨⟨⟨⟨⟨tt_,a⟩,(QP j)⟩,rfl⟩,rfl⟩,rfl⟩,rfl⟩,rfl⟩,rfl⟩,rfl⟩,rfl⟩,(fun σ p q hf=>Stp.buildAny rfl rfl (QO hC.n rfl) (Qp.es rfl) QnT rfl (by decide) (by decide) (QfY p rfl) rfl rfl (hf rfl))⟩,(Qtg _ _ _ _ _ _ _ _ k)⟩ ?_
 cases h
 exact d1_ rfl rfl tt_
def QlH (a:Int)(d:QN)(b:Qj):Option Int:=
 (QlG b a).bind fun c=>
 some c
theorem QvS (e f a){r}(h:QlH e f a=some r):Qc prog 129 [.I e,.agg (Qq f),.loc 617 0 0] [(617,.var (Qd a))] (Gives (.I r) [(617,.var (Qd a))]):=by
 refine Qc.walk 9 func129 rfl rfl rfl fun C hC=>?_
 obtain⟨g,b,h⟩:=Qb h
 refine Qa hC [.n 8,.v .no [] (.agg (Qd a)),.n 1,.o (.c false [.d,.d] (.I g)),.n 4] rfl ⟨⟨tt_,rfl⟩,(QvR _ _ b)⟩ ?_
 cases h
 exact d1_ rfl rfl ⟨rfl,tt_⟩
def Qdy (d:(List QN))(e:Qj)(a:Int):Option (Int⊕((Int×Int)⊕Unit)):=
 bif (decide (a<(d.length:Int)))then
 (idx d a).bind fun c=>
 (QlH a c e).bind fun b=>
 bif (b != 0)then
 some (.inr (.inl (a,b)))
 else
 some (.inl (w64 (a+1)))
 else
 some (.inr (.inr ()))
def Qdz (b:Int)(a:Int):Option (Int×Int):=
 some (b,a)
def QdA : Option (Int×Int):=
 some (0,0)
def QeI (a:(List QN))(b:Qj):Option (Int×Int):=
 (QK (fun st=>Qdy a b st) 0).bind (Sum.elim (fun q=>Qdz q.1 q.2) (fun q=>QdA))
theorem QoV (g f){r}(h:QeI g f=some r):Qc prog 128 [.sl 3 (g.map Qq),.clo (.func 129) [] [.loc 617 0 0]] [(617,.var (Qd f))] (Gives (.tup [.I r.1,.I r.2]) [(617,.var (Qd f))]):=by
 refine Qc.walk 25 func128 rfl rfl rfl fun C hC=>?_
 refine Qa hC [.n 10,.o (.ln g.length),.n 4,.K [1,9,10,11] [617]] rfl ⟨tt_,Qf⟩ ?_
 obtain⟨l,i,h⟩:=Qb h
 refine AK.loop (body:=(fun st=>Qdy g f st)) (fun st σ=>σ=⟨[(1,.clo (.func 129) [] [.loc 617 0 0]),(9,.sl 3 (g.map Qq)),(10,.I (g.length:Int)),(11,.I st)],[(617,.var (Qd f))]⟩) (Sum.elim (fun q e σ=>e=.ret∧σ=⟨[(4,.I q.1),(5,.I q.2)],[(617,.var (Qd f))]⟩) (fun q e σ=>e=.exit 0∧σ=⟨[],[(617,.var (Qd f))]⟩)) i rfl ?_ ?_
 ·rintro t o σ rfl h
  refine tg_ hC [.n 6] rfl ?_
  rcases Qr h with⟨a,h⟩|⟨a,h⟩
  ·obtain⟨c,j,h⟩:=Qb h
   obtain⟨m,k,h⟩:=Qb h
   refine Qa hC [.T,.n 7,.o (.row (Qq c)),.v .no [] (.agg (Qq c)),.n 3,.O 7 (.var (Qq c)),.n 6,.v .no [] (.agg (Qq c)),.cm (.clo) [(617,617)] [(617,617)] [] [.d,.d,.d] [(617,.var (Qd f))] (.I m),.n 9] rfl ⟨⟨⟨⟨⟨⟨tt_,a⟩,(QP j)⟩,rfl⟩,rfl⟩,rfl⟩,(QvS _ _ _ k)⟩ ?_
   refine bg_ h (fun b h=>Qa hC [.T,.n 11,.K [4,5] [617]] rfl ⟨tt_,b⟩ ?_) fun b h=>Qa hC [.F,.n 7,.K [1,9,10,11] [617]] rfl ⟨tt_,b⟩ ?_
   ·cases h
    exact Qar rfl (an_ rfl rfl)
   cases h
   exact Q4 rfl rfl
  refine Qa hC [.F,.n 2,.K [] [617]] rfl ⟨tt_,a⟩ ?_
  cases h
  exact Q6 rfl (an_ rfl rfl)
 rcases l with(⟨s,p⟩|_)
 ·replace h:Qdz s p=some r:=h
  rintro e σ ⟨rfl,rfl⟩
  refine tg_ hC [.n 2] rfl ?_
  cases h
  exact d2_ rfl rfl rfl ⟨rfl,tt_⟩
 replace h:QdA=some r:=h
 rintro e σ ⟨rfl,rfl⟩
 refine tg_ hC [.n 9] rfl ?_
 cases h
 exact d2_ rfl rfl rfl ⟨rfl,tt_⟩
def Qbv (b:(List QD))(a:Int):Option Bool:=
 some ((decide (0≤a))&&(decide (a<(b.length:Int))))
theorem QjJ (d c){r}(h:Qbv d c=some r):Qc prog 135 [.sl 14 (d.map Qh),.I c] [] (Gives (.b r) []):=by
 refine Qc.walk 13 func135 rfl rfl rfl fun C hC=>?_
 refine tg_ hC [.n 6] rfl ?_
 refine AK.meetX (fun σ=>σ=⟨[(4,.b ((decide (0≤c))&&(decide (c<(d.length:Int)))))],[]⟩) ?_ ?_
 ·refine tg_ hC [.n 4] rfl ?_
  rcases Q3 (decide (0≤c))with a | a
  ·refine Qa hC [.S 7 (.b true),.n 2,.o (.ln d.length),.n 4,.S 4 (.b ((decide (0≤c))&&(decide (c<(d.length:Int))))),.K [4] []] rfl ⟨⟨(tc_ a),Qf⟩,(congrArg V.b (Qb6 a rfl))⟩ ?_
   exact AK.met rfl
  refine Qa hC [.S 7 (.b false),.n 7,.S 4 (.b ((decide (0≤c))&&(decide (c<(d.length:Int))))),.K [4] []] rfl ⟨(tc_ a),(congrArg V.b (Qd2 a rfl))⟩ ?_
  exact AK.met rfl
 rintro σ rfl
 refine tg_ hC [.n 2] rfl ?_
 cases h
 exact d1_ rfl rfl tt_
def QlI (a:Int)(b:Qj)(c:QD):Option Unit:=
 some ()
theorem QvT (a b c){r}(h:QlI a b c=some r):Qc prog 187 [.loc 617 0 0,.clo (.func 188) [] [.loc 618 0 0,.loc 619 0 0]] [(617,.var (Qe a)),(618,.var (Qd b)),(619,.var (Qh c))] (Gives (.clo (.func 227) [] [.loc 3 0 0,.loc 2 0 0]) [(2,.var [.loc 617 0 0]),(3,.var [.clo (.func 188) [] [.loc 618 0 0,.loc 619 0 0]]),(617,.var (Qe a)),(618,.var (Qd b)),(619,.var (Qh c))]):=by
 refine Qc.walk 6 func187 rfl rfl rfl fun C hC=>?_
 refine tg_ hC [.n 14] rfl ?_
 cases h
 exact d1_ rfl rfl ⟨rfl,rfl,rfl,rfl,rfl,tt_⟩
def Qiu (a:Int)(b:Qj)(c:QD)(d:Int):Option Unit:=
 some ()
theorem Qth (a b c d){r}(h:Qiu a b c d=some r):Qc prog 187 [.loc 617 0 0,.clo (.func 193) [] [.loc 618 0 0,.loc 619 0 0,.loc 620 0 0]] [(617,.var (Qe a)),(618,.var (Qd b)),(619,.var (Qh c)),(620,.var (Qe d))] (Gives (.clo (.func 227) [] [.loc 3 0 0,.loc 2 0 0]) [(2,.var [.loc 617 0 0]),(3,.var [.clo (.func 193) [] [.loc 618 0 0,.loc 619 0 0,.loc 620 0 0]]),(617,.var (Qe a)),(618,.var (Qd b)),(619,.var (Qh c)),(620,.var (Qe d))]):=by
 refine Qc.walk 6 func187 rfl rfl rfl fun C hC=>?_
 refine tg_ hC [.n 14] rfl ?_
 cases h
 exact d1_ rfl rfl ⟨rfl,rfl,rfl,rfl,rfl,rfl,tt_⟩
def Qiv (a:Int)(b:Qj)(c:QD)(d:Int):Option Unit:=
 some ()
theorem Qti (a b c d){r}(h:Qiv a b c d=some r):Qc prog 187 [.loc 617 0 0,.clo (.func 195) [] [.loc 618 0 0,.loc 619 0 0,.loc 620 0 0]] [(617,.var (Qe a)),(618,.var (Qd b)),(619,.var (Qh c)),(620,.var (Qe d))] (Gives (.clo (.func 227) [] [.loc 3 0 0,.loc 2 0 0]) [(2,.var [.loc 617 0 0]),(3,.var [.clo (.func 195) [] [.loc 618 0 0,.loc 619 0 0,.loc 620 0 0]]),(617,.var (Qe a)),(618,.var (Qd b)),(619,.var (Qh c)),(620,.var (Qe d))]):=by
 refine Qc.walk 6 func187 rfl rfl rfl fun C hC=>?_
 refine tg_ hC [.n 14] rfl ?_
 cases h
 exact d1_ rfl rfl ⟨rfl,rfl,rfl,rfl,rfl,rfl,tt_⟩
def Qiw (a:Int)(b:Qj)(c:QD):Option Unit:=
 some ()
theorem Qtj (a b c){r}(h:Qiw a b c=some r):Qc prog 187 [.loc 617 0 0,.clo (.func 196) [] [.loc 618 0 0,.loc 619 0 0]] [(617,.var (Qe a)),(618,.var (Qd b)),(619,.var (Qh c))] (Gives (.clo (.func 227) [] [.loc 3 0 0,.loc 2 0 0]) [(2,.var [.loc 617 0 0]),(3,.var [.clo (.func 196) [] [.loc 618 0 0,.loc 619 0 0]]),(617,.var (Qe a)),(618,.var (Qd b)),(619,.var (Qh c))]):=by
 refine Qc.walk 6 func187 rfl rfl rfl fun C hC=>?_
 refine tg_ hC [.n 14] rfl ?_
 cases h
 exact d1_ rfl rfl ⟨rfl,rfl,rfl,rfl,rfl,tt_⟩
def QkN (a:QD):Option Bool:=
 (QeT a.Name).bind fun b=>
 some b
theorem QuZ (a){r}(h:QkN a=some r):Qc prog 183 [.loc 617 0 0] [(617,.var (Qh a))] (Gives (.b r) [(617,.var (Qh a))]):=by
 refine Qc.walk 5 func183 rfl rfl rfl fun C hC=>?_
 obtain⟨f,e,h⟩:=Qb h
 refine Qa hC [.n 9,.o (.c false [.d] (.b f)),.n 4] rfl ⟨tt_,(QgT _ e)⟩ ?_
 cases h
 exact d1_ rfl rfl ⟨rfl,tt_⟩
def QkO (a:QD)(b:QD):Option Bool:=
 some (Qif a.Name b.Name)
theorem Qu0 (c a){r}(h:QkO c a=some r):Qc prog 182 [.agg (Qh c),.loc 617 0 0] [(617,.var (Qh a))] (Gives (.b r) [(617,.var (Qh a))]):=by
 refine Qc.walk 9 func182 rfl rfl rfl fun C hC=>?_
 refine tg_ hC [.n 17] rfl ?_
 cases h
 exact d1_ rfl rfl ⟨rfl,tt_⟩
def Qa7 (c:(List QD))(d:QD)(a:Int):Option (Int⊕(Int⊕Unit)):=
 bif (decide (a<(c.length:Int)))then
 (idx c a).bind fun e=>
 (QkO e d).bind fun b=>
 bif b then
 some (.inr (.inl a))
 else
 some (.inl (w64 (a+1)))
 else
 some (.inr (.inr ()))
def Qa8 (a:Int):Option Int:=
 some a
def Qa9 : Option Int:=
 some (-1)
def Qbr (a:(List QD))(b:QD):Option Int:=
 (QK (fun st=>Qa7 a b st) 0).bind (Sum.elim (fun q=>Qa8 q) (fun q=>Qa9))
theorem QiR (g c){r}(h:Qbr g c=some r):Qc prog 226 [.sl 14 (g.map Qh),.clo (.func 182) [] [.loc 617 0 0]] [(617,.var (Qh c))] (Gives (.I r) [(617,.var (Qh c))]):=by
 refine Qc.walk 19 func226 rfl rfl rfl fun C hC=>?_
 refine Qa hC [.n 9,.o (.ln g.length),.n 4,.K [0,1,7,8] [617]] rfl ⟨tt_,Qf⟩ ?_
 obtain⟨k,i,h⟩:=Qb h
 refine AK.loop (body:=(fun st=>Qa7 g c st)) (fun st σ=>σ=⟨[(0,.sl 14 (g.map Qh)),(1,.clo (.func 182) [] [.loc 617 0 0]),(7,.I (g.length:Int)),(8,.I st)],[(617,.var (Qh c))]⟩) (Sum.elim (fun q e σ=>e=.ret∧σ=⟨[(4,.I q)],[(617,.var (Qh c))]⟩) (fun q e σ=>e=.exit 0∧σ=⟨[],[(617,.var (Qh c))]⟩)) i rfl ?_ ?_
 ·rintro t o σ rfl h
  refine tg_ hC [.n 6] rfl ?_
  rcases Qr h with⟨f,h⟩|⟨f,h⟩
  ·obtain⟨p,l,h⟩:=Qb h
   obtain⟨m,j,h⟩:=Qb h
   refine Qa hC [.T,.n 15,.o (.row (Qh p)),.v .no [] (.agg (Qh p)),.cm (.clo) [(617,617)] [(617,617)] [] [.d,.d] [(617,.var (Qh c))] (.b m),.n 2] rfl ⟨⟨⟨⟨tt_,f⟩,(QP l)⟩,rfl⟩,(Qu0 _ _ j)⟩ ?_
   refine bg_ h (fun a h=>Qa hC [.T,.n 9,.K [4] [617]] rfl ⟨tt_,a⟩ ?_) fun a h=>Qa hC [.F,.n 7,.K [0,1,7,8] [617]] rfl ⟨tt_,a⟩ ?_
   ·cases h
    exact Qar rfl (an_ rfl rfl)
   cases h
   exact Q4 rfl rfl
  refine Qa hC [.F,.n 2,.K [] [617]] rfl ⟨tt_,f⟩ ?_
  cases h
  exact Q6 rfl (an_ rfl rfl)
 rcases k with(s | _)
 ·replace h:Qa8 s=some r:=h
  rintro e σ ⟨rfl,rfl⟩
  refine tg_ hC [.n 2] rfl ?_
  cases h
  exact d1_ rfl rfl ⟨rfl,tt_⟩
 replace h:Qa9=some r:=h
 rintro e σ ⟨rfl,rfl⟩
 refine tg_ hC [.n 8] rfl ?_
 cases h
 exact d1_ rfl rfl ⟨rfl,tt_⟩
def Qba (a:(List QD))(b:QD):Option Bool:=
 (Qbr a b).bind fun c=>
 some (decide (0≤c))
theorem QhV (e a){r}(h:Qba e a=some r):Qc prog 185 [.sl 14 (e.map Qh),.clo (.func 182) [] [.loc 617 0 0]] [(617,.var (Qh a))] (Gives (.b r) [(617,.var (Qh a))]):=by
 refine Qc.walk 9 func185 rfl rfl rfl fun C hC=>?_
 obtain⟨f,c,h⟩:=Qb h
 refine Qa hC [.n 9,.cm (.fn) [(617,617)] [(617,617)] [] [.d,.d] [(617,.var (Qh a))] (.I f),.n 5] rfl ⟨tt_,(QiR _ _ c)⟩ ?_
 cases h
 exact d1_ rfl rfl ⟨rfl,tt_⟩
def QkP (b:Qj)(a:Int)(c:QD):Option Bool:=
 (chk (decide (0≤a)&&decide (0≤a.toNat)&&decide (a.toNat≤b.Tasks.length))).bind fun _=>
 (Qba ((b.Tasks.drop 0).take (a.toNat-0)) c).bind fun d=>
 some (!d)
theorem Qu1 (e f g){r}(h:QkP e f g=some r):Qc prog 184 [.loc 617 0 0,.loc 618 0 0,.loc 619 0 0] [(617,.var (Qd e)),(618,.var (Qe f)),(619,.var [.clo (.func 182) [] [.loc 620 0 0]]),(620,.var (Qh g))] (Gives (.b r) [(617,.var (Qd e)),(618,.var (Qe f)),(619,.var [.clo (.func 182) [] [.loc 620 0 0]]),(620,.var (Qh g))]):=by
 refine Qc.walk 11 func184 rfl rfl rfl fun C hC=>?_
 obtain⟨c,h⟩:=QaX h
 obtain⟨k,j,h⟩:=Qb h
 refine tg_ hC [.n 6,.K [0,1,2,3] [617,618,619,620]] rfl ?_
 refine AK.draw2 Qp hC mixed [.N,.N,.N,.a (.any (.sl 14 (((e.Tasks.drop 0).take (f.toNat-0)).map Qh)) none) none false,.N,.a (.any (.b k) none) none false,.N,.m .s] [] [] [3] [617,618,619,620] rfl rfl rfl ⟨⟨tt_,(fun σ i l _=>Stp.sliceD rfl rfl (QO hC.n rfl) (i _ _ rfl) (Qp.es rfl) Bnd.no (Bnd.val (i _ _ rfl) (Q8 (QtI c)) rfl) (Q8 (QtJ c)) (Qcb (Q8 (QtK c)) (Nat.le_of_eq Qf.symm)) Qwr)⟩,(fun σ i l _=>Stp.callSame (md:=.cm (.fn) [(617,620)] [(620,617)] [] [.d,.d] [(617,.var (Qh g))] (.b k) [620]) Qp hC i l rfl ⟨⟨tt_,(QhV _ _ j)⟩,⟨rfl,tt_⟩⟩)⟩ rfl (by kernel_rfl) rfl rfl rfl ?_
 refine tg_ hC [.n 2] rfl ?_
 cases h
 exact d1_ rfl rfl ⟨rfl,rfl,rfl,rfl,tt_⟩
def QhW (b:Int)(a:QD):Option Bool:=
 some ((decide (b≤16))&&(decide ((max2 (max2 (a.Ins.length:Int) (a.Outs.length:Int)) (a.Cancel.length:Int))≤16)))
theorem Qu2 (d a){r}(h:QhW d a=some r):Qc prog 186 [.loc 617 0 0,.loc 618 0 0] [(617,.var (Qe d)),(618,.var (Qh a))] (Gives (.b r) [(617,.var (Qe d)),(618,.var (Qh a))]):=by
 refine Qc.walk 18 func186 rfl rfl rfl fun C hC=>?_
 refine tg_ hC [.n 6] rfl ?_
 refine AK.meetX (fun σ=>σ=⟨[(2,.b ((decide (d≤16))&&(decide ((max2 (max2 (a.Ins.length:Int) (a.Outs.length:Int)) (a.Cancel.length:Int))≤16))))],[(617,.var (Qe d)),(618,.var (Qh a))]⟩) ?_ ?_
 ·refine tg_ hC [.n 4] rfl ?_
  rcases Q3 (decide (d≤16))with c | c
  ·refine Qa hC [.S 5 (.b true),.n 2,.o (.ln a.Ins.length),.n 2,.o (.ln a.Outs.length),.n 2,.o (.ln a.Cancel.length),.o (.any (.I (max2 (max2 (a.Ins.length:Int) (a.Outs.length:Int)) (a.Cancel.length:Int))) none),.n 4,.S 2 (.b ((decide (d≤16))&&(decide ((max2 (max2 (a.Ins.length:Int) (a.Outs.length:Int)) (a.Cancel.length:Int))≤16)))),.K [2] [617,618]] rfl ⟨⟨⟨⟨⟨(tc_ c),Qf⟩,Qf⟩,Qf⟩,(fun σ e f _=>Stp.max3 rfl rfl (QO hC.n rfl) (e _ _ rfl) (e _ _ rfl) (e _ _ rfl))⟩,(congrArg V.b (Qb6 c rfl))⟩ ?_
   exact AK.met rfl
  refine Qa hC [.S 5 (.b false),.n 14,.S 2 (.b ((decide (d≤16))&&(decide ((max2 (max2 (a.Ins.length:Int) (a.Outs.length:Int)) (a.Cancel.length:Int))≤16)))),.K [2] [617,618]] rfl ⟨(tc_ c),(congrArg V.b (Qd2 c rfl))⟩ ?_
  exact AK.met rfl
 rintro σ rfl
 refine tg_ hC [.n 2] rfl ?_
 cases h
 exact d1_ rfl rfl ⟨rfl,rfl,tt_⟩
def Qe9 (a:QaQ):Option Bool:=
 (QeT a.Name).bind fun b=>
 some b
theorem QpL (a){r}(h:Qe9 a=some r):Qc prog 231 [.loc 617 0 0] [(617,.var (QU a))] (Gives (.b r) [(617,.var (QU a))]):=by
 refine Qc.walk 5 func231 rfl rfl rfl fun C hC=>?_
 obtain⟨f,e,h⟩:=Qb h
 refine Qa hC [.n 9,.o (.c false [.d] (.b f)),.n 4] rfl ⟨tt_,(QgT _ e)⟩ ?_
 cases h
 exact d1_ rfl rfl ⟨rfl,tt_⟩
def Qfa (a:QaQ)(b:QaQ):Option Bool:=
 some (Qif a.Name b.Name)
theorem QpM (c a){r}(h:Qfa c a=some r):Qc prog 230 [.agg (QU c),.loc 617 0 0] [(617,.var (QU a))] (Gives (.b r) [(617,.var (QU a))]):=by
 refine Qc.walk 9 func230 rfl rfl rfl fun C hC=>?_
 refine tg_ hC [.n 17] rfl ?_
 cases h
 exact d1_ rfl rfl ⟨rfl,tt_⟩
def Qbj (c:(List QaQ))(d:QaQ)(a:Int):Option (Int⊕(Int⊕Unit)):=
 bif (decide (a<(c.length:Int)))then
 (idx c a).bind fun e=>
 (Qfa e d).bind fun b=>
 bif b then
 some (.inr (.inl a))
 else
 some (.inl (w64 (a+1)))
 else
 some (.inr (.inr ()))
def Qbk (a:Int):Option Int:=
 some a
def Qbl : Option Int:=
 some (-1)
def QbK (a:(List QaQ))(b:QaQ):Option Int:=
 (QK (fun st=>Qbj a b st) 0).bind (Sum.elim (fun q=>Qbk q) (fun q=>Qbl))
theorem QjU (g c){r}(h:QbK g c=some r):Qc prog 257 [.sl 2 (g.map QU),.clo (.func 230) [] [.loc 617 0 0]] [(617,.var (QU c))] (Gives (.I r) [(617,.var (QU c))]):=by
 refine Qc.walk 19 func257 rfl rfl rfl fun C hC=>?_
 refine Qa hC [.n 9,.o (.ln g.length),.n 4,.K [0,1,7,8] [617]] rfl ⟨tt_,Qf⟩ ?_
 obtain⟨k,i,h⟩:=Qb h
 refine AK.loop (body:=(fun st=>Qbj g c st)) (fun st σ=>σ=⟨[(0,.sl 2 (g.map QU)),(1,.clo (.func 230) [] [.loc 617 0 0]),(7,.I (g.length:Int)),(8,.I st)],[(617,.var (QU c))]⟩) (Sum.elim (fun q e σ=>e=.ret∧σ=⟨[(4,.I q)],[(617,.var (QU c))]⟩) (fun q e σ=>e=.exit 0∧σ=⟨[],[(617,.var (QU c))]⟩)) i rfl ?_ ?_
 ·rintro t o σ rfl h
  refine tg_ hC [.n 6] rfl ?_
  rcases Qr h with⟨f,h⟩|⟨f,h⟩
  ·obtain⟨p,l,h⟩:=Qb h
   obtain⟨m,j,h⟩:=Qb h
   refine Qa hC [.T,.n 15,.o (.row (QU p)),.v .no [] (.agg (QU p)),.cm (.clo) [(617,617)] [(617,617)] [] [.d,.d] [(617,.var (QU c))] (.b m),.n 2] rfl ⟨⟨⟨⟨tt_,f⟩,(QP l)⟩,rfl⟩,(QpM _ _ j)⟩ ?_
   refine bg_ h (fun a h=>Qa hC [.T,.n 9,.K [4] [617]] rfl ⟨tt_,a⟩ ?_) fun a h=>Qa hC [.F,.n 7,.K [0,1,7,8] [617]] rfl ⟨tt_,a⟩ ?_
   ·cases h
    exact Qar rfl (an_ rfl rfl)
   cases h
   exact Q4 rfl rfl
  refine Qa hC [.F,.n 2,.K [] [617]] rfl ⟨tt_,f⟩ ?_
  cases h
  exact Q6 rfl (an_ rfl rfl)
 rcases k with(s | _)
 ·replace h:Qbk s=some r:=h
  rintro e σ ⟨rfl,rfl⟩
  refine tg_ hC [.n 2] rfl ?_
  cases h
  exact d1_ rfl rfl ⟨rfl,tt_⟩
 replace h:Qbl=some r:=h
 rintro e σ ⟨rfl,rfl⟩
 refine tg_ hC [.n 8] rfl ?_
 cases h
 exact d1_ rfl rfl ⟨rfl,tt_⟩
def Qbm (a:(List QaQ))(b:QaQ):Option Bool:=
 (QbK a b).bind fun c=>
 some (decide (0≤c))
theorem Qix (e a){r}(h:Qbm e a=some r):Qc prog 233 [.sl 2 (e.map QU),.clo (.func 230) [] [.loc 617 0 0]] [(617,.var (QU a))] (Gives (.b r) [(617,.var (QU a))]):=by
 refine Qc.walk 9 func233 rfl rfl rfl fun C hC=>?_
 obtain⟨f,c,h⟩:=Qb h
 refine Qa hC [.n 9,.cm (.fn) [(617,617)] [(617,617)] [] [.d,.d] [(617,.var (QU a))] (.I f),.n 5] rfl ⟨tt_,(QjU _ _ c)⟩ ?_
 cases h
 exact d1_ rfl rfl ⟨rfl,tt_⟩
def Qfb (b:(List QaQ))(a:Int)(c:QaQ):Option Bool:=
 (chk (decide (0≤a)&&decide (0≤a.toNat)&&decide (a.toNat≤b.length))).bind fun _=>
 (Qbm ((b.drop 0).take (a.toNat-0)) c).bind fun d=>
 some (!d)
theorem QpN (e f g){r}(h:Qfb e f g=some r):Qc prog 232 [.loc 617 0 0,.loc 618 0 0,.loc 619 0 0] [(617,.var (Qch e)),(618,.var (Qe f)),(619,.var [.clo (.func 230) [] [.loc 620 0 0]]),(620,.var (QU g))] (Gives (.b r) [(617,.var (Qch e)),(618,.var (Qe f)),(619,.var [.clo (.func 230) [] [.loc 620 0 0]]),(620,.var (QU g))]):=by
 refine Qc.walk 10 func232 rfl rfl rfl fun C hC=>?_
 obtain⟨c,h⟩:=QaX h
 obtain⟨k,j,h⟩:=Qb h
 refine tg_ hC [.n 6,.K [0,1,2,3] [617,618,619,620]] rfl ?_
 refine AK.draw2 Qp hC mixed [.N,.N,.a (.any (.sl 2 (((e.drop 0).take (f.toNat-0)).map QU)) none) none false,.N,.a (.any (.b k) none) none false,.N,.m .s] [] [] [3] [617,618,619,620] rfl rfl rfl ⟨⟨tt_,(fun σ i l _=>Stp.sliceD rfl rfl (QO hC.n rfl) (i _ _ rfl) (Qp.es rfl) Bnd.no (Bnd.val (i _ _ rfl) (Q8 (QtI c)) rfl) (Q8 (QtJ c)) (Qcb (Q8 (QtK c)) (Nat.le_of_eq Qf.symm)) Qwr)⟩,(fun σ i l _=>Stp.callSame (md:=.cm (.fn) [(617,620)] [(620,617)] [] [.d,.d] [(617,.var (QU g))] (.b k) [620]) Qp hC i l rfl ⟨⟨tt_,(Qix _ _ j)⟩,⟨rfl,tt_⟩⟩)⟩ rfl (by kernel_rfl) rfl rfl rfl ?_
 refine tg_ hC [.n 2] rfl ?_
 cases h
 exact d1_ rfl rfl ⟨rfl,rfl,rfl,rfl,tt_⟩
def Qfc (a:Qj)(b:QaQ):Option Bool:=
 (QcJ a.Colours b.Colour).bind fun c=>
 some c
theorem QpO (a e){r}(h:Qfc a e=some r):Qc prog 234 [.loc 617 0 0,.loc 618 0 0] [(617,.var (Qd a)),(618,.var (QU e))] (Gives (.b r) [(617,.var (Qd a)),(618,.var (QU e))]):=by
 refine Qc.walk 8 func234 rfl rfl rfl fun C hC=>?_
 obtain⟨g,f,h⟩:=Qb h
 refine Qa hC [.n 11,.o (.c false [.d,.d] (.b g)),.n 4] rfl ⟨tt_,(Qh9 _ _ f)⟩ ?_
 cases h
 exact d1_ rfl rfl ⟨rfl,rfl,tt_⟩
def Qiy (a:QaQ)(e:Int)(f:(List QaQ))(g:Int)(h:Int)(i:Qj)(j:Int):Option Int:=
 (Qe9 a).bind fun b=>
 bif (!b)then
 some e
 else
 (Qfb f g a).bind fun c=>
 bif (!c)then
 some h
 else
 (Qfc i a).bind fun d=>
 bif (!d)then
 some j
 else
 some 0
theorem Qtk (g m p q s t u){r}(h:Qiy g m p q s t u=some r):Qc prog 122 [.own 617 3] [(617,.var [.clo (.func 231) [] [.loc 618 0 0],.I m,.clo (.func 232) [] [.loc 619 0 0,.loc 620 0 0,.loc 621 0 0],.I s,.clo (.func 234) [] [.loc 622 0 0,.loc 618 0 0],.I u]),(618,.var (QU g)),(619,.var (Qch p)),(620,.var (Qe q)),(621,.var [.clo (.func 230) [] [.loc 618 0 0]]),(622,.var (Qd t))] (Gives (.I r) [(617,.var [.clo (.func 231) [] [.loc 618 0 0],.I m,.clo (.func 232) [] [.loc 619 0 0,.loc 620 0 0,.loc 621 0 0],.I s,.clo (.func 234) [] [.loc 622 0 0,.loc 618 0 0],.I u]),(618,.var (QU g)),(619,.var (Qch p)),(620,.var (Qe q)),(621,.var [.clo (.func 230) [] [.loc 618 0 0]]),(622,.var (Qd t))]):=by
 refine Qc.walk 18 func122 rfl rfl rfl fun C hC=>?_
 refine tg_ hC [.n 14] rfl ?_
 refine AK.loopN 4 (AK.rnd ?_)
 obtain⟨w,i,h⟩:=Qb h
 refine Qa hC [.n 2,.v .no [] (.b true),.n 10,.o (.any (.loc 617 0 0) none),.n 3,.O 4 (.var [.clo (.func 231) [] [.loc 618 0 0],.I m]),.n 6,.cm (.clo) [(617,618)] [(618,617)] [] [.d] [(617,.var (QU g))] (.b w),.n 3] rfl ⟨⟨⟨⟨tt_,rfl⟩,(fun σ f j _=>Stp.idxV rfl rfl (QO hC.n rfl) (f _ _ rfl) (f _ _ rfl) (Qp.es rfl) (j _ _ rfl) (by decide))⟩,rfl⟩,(QpL _ i)⟩ ?_
 refine bg_ h (fun a h=>Qa hC [.T,.n 13,.K [2] [617,618,619,620,621,622]] rfl ⟨tt_,a⟩ ?_) fun a h=>Qa hC [.F,.n 4,.v .no [] (.I 1),.n 2] rfl ⟨⟨tt_,a⟩,rfl⟩ ?_
 ·cases h
  exact d1_ rfl rfl ⟨rfl,rfl,rfl,rfl,rfl,rfl,tt_⟩
 refine AK.met (AK.rnd ?_)
 obtain⟨x,k,h⟩:=Qb h
 refine Qa hC [.n 2,.v .no [] (.b true),.n 10,.o (.any (.loc 617 0 2) none),.n 1,.kill 4,.n 2,.O 4 (.var [.clo (.func 232) [] [.loc 619 0 0,.loc 620 0 0,.loc 621 0 0],.I s]),.n 6,.cm (.clo) [(617,619),(618,620),(619,621),(620,618)] [(619,617),(620,618),(621,619),(618,620)] [] [.d,.d,.d] [(617,.var (Qch p)),(618,.var (Qe q)),(619,.var [.clo (.func 230) [] [.loc 620 0 0]]),(620,.var (QU g))] (.b x),.n 3] rfl ⟨⟨⟨⟨tt_,rfl⟩,(fun σ f j _=>Stp.idxV rfl rfl (QO hC.n rfl) (f _ _ rfl) (f _ _ rfl) (Qp.es rfl) (j _ _ rfl) (by decide))⟩,rfl⟩,(QpN _ _ _ k)⟩ ?_
 refine bg_ h (fun c h=>Qa hC [.T,.n 13,.K [2] [617,618,619,620,621,622]] rfl ⟨tt_,c⟩ ?_) fun c h=>Qa hC [.F,.n 4,.v .no [] (.I 2),.n 2] rfl ⟨⟨tt_,c⟩,rfl⟩ ?_
 ·cases h
  exact d1_ rfl rfl ⟨rfl,rfl,rfl,rfl,rfl,rfl,tt_⟩
 refine AK.met (AK.rnd ?_)
 obtain⟨y,l,h⟩:=Qb h
 refine Qa hC [.n 2,.v .no [] (.b true),.n 10,.o (.any (.loc 617 0 4) none),.n 1,.kill 4,.n 2,.O 4 (.var [.clo (.func 234) [] [.loc 622 0 0,.loc 618 0 0],.I u]),.n 6,.cm (.clo) [(617,622),(618,618)] [(622,617),(618,618)] [] [.d,.d] [(617,.var (Qd t)),(618,.var (QU g))] (.b y),.n 3] rfl ⟨⟨⟨⟨tt_,rfl⟩,(fun σ f j _=>Stp.idxV rfl rfl (QO hC.n rfl) (f _ _ rfl) (f _ _ rfl) (Qp.es rfl) (j _ _ rfl) (by decide))⟩,rfl⟩,(QpO _ _ l)⟩ ?_
 refine bg_ h (fun e h=>Qa hC [.T,.n 13,.K [2] [617,618,619,620,621,622]] rfl ⟨tt_,e⟩ ?_) fun e h=>Qa hC [.F,.n 4,.v .no [] (.I 3),.n 2] rfl ⟨⟨tt_,e⟩,rfl⟩ ?_
 ·cases h
  exact d1_ rfl rfl ⟨rfl,rfl,rfl,rfl,rfl,rfl,tt_⟩
 refine AK.met (AK.rnd ?_)
 refine Qa hC [.n 2,.v .no [] (.b false),.n 15] rfl ⟨tt_,rfl⟩ ?_
 cases h
 exact d1_ rfl rfl ⟨rfl,rfl,rfl,rfl,rfl,rfl,tt_⟩
def Qgk (a:Int)(b:QaQ)(c:(List QaQ))(d:Qj):Option Int:=
 (Qiy b 1 c a 5 d 3).bind fun e=>
 some e
theorem Qrh (c e a b){r}(h:Qgk c e a b=some r):Qc prog 229 [.I c,.agg (QU e),.loc 617 0 0,.loc 618 0 0] [(617,.var (Qch a)),(618,.var (Qd b))] (Gives (.I r) [(617,.var (Qch a)),(618,.var (Qd b))]):=by
 refine Qc.walk 17 func229 rfl rfl rfl fun C hC=>?_
 obtain⟨g,f,h⟩:=Qb h
 refine Qa hC [.n 12,.O 7 (.var [.clo (.func 230) [] [.loc 5 0 0]]),.n 5,.v .no [] (.agg [.clo (.func 231) [] [.loc 5 0 0],.I 1]),.n 1,.v .no [] (.agg [.clo (.func 232) [] [.loc 617 0 0,.loc 4 0 0,.loc 7 0 0],.I 5]),.n 1,.v .no [] (.agg [.clo (.func 234) [] [.loc 618 0 0,.loc 5 0 0],.I 3]),.o (.any (.own 15 3) (some (.var [.clo (.func 231) [] [.loc 5 0 0],.I 1,.clo (.func 232) [] [.loc 617 0 0,.loc 4 0 0,.loc 7 0 0],.I 5,.clo (.func 234) [] [.loc 618 0 0,.loc 5 0 0],.I 3]))),.cm (.fn) [(617,15),(618,5),(619,617),(620,4),(621,7),(622,618)] [(15,617),(5,618),(617,619),(4,620),(7,621),(618,622)] [] [.d] [(617,.var [.clo (.func 231) [] [.loc 618 0 0],.I 1,.clo (.func 232) [] [.loc 619 0 0,.loc 620 0 0,.loc 621 0 0],.I 5,.clo (.func 234) [] [.loc 622 0 0,.loc 618 0 0],.I 3]),(618,.var (QU e)),(619,.var (Qch a)),(620,.var (Qe c)),(621,.var [.clo (.func 230) [] [.loc 618 0 0]]),(622,.var (Qd b))] (.I g),.n 4] rfl ⟨⟨⟨⟨⟨⟨tt_,rfl⟩,rfl⟩,rfl⟩,rfl⟩,(fun σ i j hf=>Stp.buildAny rfl rfl (QO hC.n rfl) (Qp.es rfl) QnT rfl (by decide) (by decide) (QfY i rfl) rfl rfl (hf rfl))⟩,(Qtk _ _ _ _ _ _ _ f)⟩ ?_
 cases h
 exact d1_ rfl rfl ⟨rfl,rfl,tt_⟩
def Qd9 (d:(List QaQ))(e:(List QaQ))(f:Qj)(a:Int):Option (Int⊕((Int×Int)⊕Unit)):=
 bif (decide (a<(d.length:Int)))then
 (idx d a).bind fun c=>
 (Qgk a c e f).bind fun b=>
 bif (b != 0)then
 some (.inr (.inl (a,b)))
 else
 some (.inl (w64 (a+1)))
 else
 some (.inr (.inr ()))
def Qea (a:Int)(b:Int):Option (Int×Int):=
 some (a,b)
def Qeb : Option (Int×Int):=
 some (0,0)
def QfD (a:(List QaQ))(b:(List QaQ))(c:Qj):Option (Int×Int):=
 (QK (fun st=>Qd9 a b c st) 0).bind (Sum.elim (fun q=>Qea q.1 q.2) (fun q=>Qeb))
theorem Qp3 (i f g){r}(h:QfD i f g=some r):Qc prog 228 [.sl 2 (i.map QU),.clo (.func 229) [] [.loc 617 0 0,.loc 618 0 0]] [(617,.var (Qch f)),(618,.var (Qd g))] (Gives (.tup [.I r.1,.I r.2]) [(617,.var (Qch f)),(618,.var (Qd g))]):=by
 refine Qc.walk 25 func228 rfl rfl rfl fun C hC=>?_
 refine Qa hC [.n 10,.o (.ln i.length),.n 4,.K [1,9,10,11] [617,618]] rfl ⟨tt_,Qf⟩ ?_
 obtain⟨m,j,h⟩:=Qb h
 refine AK.loop (body:=(fun st=>Qd9 i f g st)) (fun st σ=>σ=⟨[(1,.clo (.func 229) [] [.loc 617 0 0,.loc 618 0 0]),(9,.sl 2 (i.map QU)),(10,.I (i.length:Int)),(11,.I st)],[(617,.var (Qch f)),(618,.var (Qd g))]⟩) (Sum.elim (fun q e σ=>e=.ret∧σ=⟨[(4,.I q.1),(5,.I q.2)],[(617,.var (Qch f)),(618,.var (Qd g))]⟩) (fun q e σ=>e=.exit 0∧σ=⟨[],[(617,.var (Qch f)),(618,.var (Qd g))]⟩)) j rfl ?_ ?_
 ·rintro u o σ rfl h
  refine tg_ hC [.n 6] rfl ?_
  rcases Qr h with⟨a,h⟩|⟨a,h⟩
  ·obtain⟨c,k,h⟩:=Qb h
   obtain⟨p,l,h⟩:=Qb h
   refine Qa hC [.T,.n 7,.o (.row (QU c)),.v .no [] (.agg (QU c)),.n 3,.O 7 (.var (QU c)),.n 6,.v .no [] (.agg (QU c)),.cm (.clo) [(617,617),(618,618)] [(617,617),(618,618)] [] [.d,.d,.d,.d] [(617,.var (Qch f)),(618,.var (Qd g))] (.I p),.n 9] rfl ⟨⟨⟨⟨⟨⟨tt_,a⟩,(QP k)⟩,rfl⟩,rfl⟩,rfl⟩,(Qrh _ _ _ _ l)⟩ ?_
   refine bg_ h (fun b h=>Qa hC [.T,.n 11,.K [4,5] [617,618]] rfl ⟨tt_,b⟩ ?_) fun b h=>Qa hC [.F,.n 7,.K [1,9,10,11] [617,618]] rfl ⟨tt_,b⟩ ?_
   ·cases h
    exact Qar rfl (an_ rfl rfl)
   cases h
   exact Q4 rfl rfl
  refine Qa hC [.F,.n 2,.K [] [617,618]] rfl ⟨tt_,a⟩ ?_
  cases h
  exact Q6 rfl (an_ rfl rfl)
 rcases m with(⟨s,t⟩|_)
 ·replace h:Qea s t=some r:=h
  rintro e σ ⟨rfl,rfl⟩
  refine tg_ hC [.n 2] rfl ?_
  cases h
  exact d2_ rfl rfl rfl ⟨rfl,rfl,tt_⟩
 replace h:Qeb=some r:=h
 rintro e σ ⟨rfl,rfl⟩
 refine tg_ hC [.n 9] rfl ?_
 cases h
 exact d2_ rfl rfl rfl ⟨rfl,rfl,tt_⟩
def Qhz (b:Qj)(a:(List QaQ)):Option Int:=
 (QfD a a b).bind fun c=>
 some c.2
theorem QsL (a b){r}(h:Qhz a b=some r):Qc prog 189 [.agg (Qd a),.sl 2 (b.map QU)] [] (Gives (.I r) []):=by
 refine Qc.walk 14 func189 rfl rfl rfl fun C hC=>?_
 obtain⟨e,c,h⟩:=Qb h
 refine Qa hC [.n 11,.cm (.fn) [(617,3),(618,2)] [(3,617),(2,618)] [] [.d,.d] [(617,.var (Qch b)),(618,.var (Qd a))] (.tup [.I e.1,.I e.2]),.n 14] rfl ⟨tt_,(Qp3 _ _ _ c)⟩ ?_
 cases h
 exact d1_ rfl rfl tt_
def QkQ (a:Qj)(b:QD):Option Int:=
 (Qhz a b.Vars).bind fun c=>
 some c
theorem Qu3 (a b){r}(h:QkQ a b=some r):Qc prog 188 [.loc 617 0 0,.loc 618 0 0] [(617,.var (Qd a)),(618,.var (Qh b))] (Gives (.I r) [(617,.var (Qd a)),(618,.var (Qh b))]):=by
 refine Qc.walk 7 func188 rfl rfl rfl fun C hC=>?_
 obtain⟨f,e,h⟩:=Qb h
 refine Qa hC [.n 7,.v .no [] (.agg (Qd a)),.n 2,.o (.c false [.d,.d] (.I f)),.n 4] rfl ⟨⟨tt_,rfl⟩,(QsL _ _ e)⟩ ?_
 cases h
 exact d1_ rfl rfl ⟨rfl,rfl,tt_⟩
def QgV (b:Qj)(c:QD)(d:Int):Option (Bool×Int):=
 (QkQ b c).bind fun a=>
 some ((a==0),a)
theorem Qua (c e i){r}(h:QgV c e i=some r):Qc prog 227 [.loc 617 0 0,.loc 620 0 0] [(617,.var [.clo (.func 188) [] [.loc 618 0 0,.loc 619 0 0]]),(618,.var (Qd c)),(619,.var (Qh e)),(620,.var [.loc 621 0 0]),(621,.var (Qe i))] (Gives (.b r.1) [(617,.var [.clo (.func 188) [] [.loc 618 0 0,.loc 619 0 0]]),(618,.var (Qd c)),(619,.var (Qh e)),(620,.var [.loc 621 0 0]),(621,.var (Qe r.2))]):=by
 refine Qc.walk 11 func227 rfl rfl rfl fun C hC=>?_
 obtain⟨f,g,h⟩:=Qb h
 refine tg_ hC [.n 6,.K [0,1] [617,618,619,620,621]] rfl ?_
 refine AK.draw2 Qp hC mixed [.N,.N,.a (.any (.I f) none) none false,.N,.m .s] [] [] [1] [617,618,619,620,621] rfl rfl rfl ⟨tt_,(fun σ j k _=>Stp.callSame (md:=.cm (.clo) [(617,618),(618,619)] [(618,617),(619,618)] [] [.d,.d] [(617,.var (Qd c)),(618,.var (Qh e))] (.I f) [618,619]) Qp hC j k rfl ⟨⟨tt_,(Qu3 _ _ g)⟩,⟨rfl,rfl,tt_⟩⟩)⟩ rfl (by kernel_rfl) rfl rfl rfl ?_
 refine Qa hC [.O 621 (.var (Qe f)),.n 11] rfl ⟨tt_,rfl⟩ ?_
 cases h
 exact d1_ rfl rfl ⟨rfl,rfl,rfl,rfl,rfl,tt_⟩
def Qew (e:QD)(f:Qj)(a:Int)(c:Int):Option ((Int×Int)⊕(Unit⊕Int)):=
 bif (decide (c<(e.Vars.length:Int)))then
 (idx e.Vars c).bind fun d=>
 (Qa6 f.Colours d.Colour).bind fun b=>
 bif (b==0)then
 some (.inr (.inl ()))
 else
 some (.inl ((min2 (w64 (a*b)) 1025),(w64 (c+1))))
 else
 some (.inr (.inr a))
def Qiz : Option Int:=
 some 0
def QiA (a:Int):Option Int:=
 some a
def Qde (a:Qj)(b:Int):Option Int:=
 (Qbv a.Tasks b).bind fun c=>
 bif (!c)then
 some 0
 else
 (idx a.Tasks b).bind fun d=>
 (QK (fun st=>Qew d a st.1 st.2) (1,0)).bind (Sum.elim (fun q=>Qiz) (fun q=>QiA q))
theorem QpP (s y){r}(h:Qde s y=some r):Qc prog 79 [.agg (Qd s),.I y] [] (Gives (.I r) []):=by
 refine Qc.walk 38 func79 rfl rfl rfl fun C hC=>?_
 obtain⟨A,t,h⟩:=Qb h
 refine Qa hC [.n 12,.o (.c false [.d,.d] (.b A)),.n 3] rfl ⟨tt_,(QjJ _ _ t)⟩ ?_
 rcases Qr h with⟨g,h⟩|⟨g,h⟩
 ·refine Qa hC [.T,.n 7] rfl ⟨tt_,g⟩ ?_
  cases h
  exact d1_ rfl rfl tt_
 obtain⟨k,u,h⟩:=Qb h
 refine Qa hC [.F,.n 13,.o (.row (Qh k)),.n 2,.o (.ln k.Vars.length),.n 4,.K [2,5,19,20,21] [2]] rfl ⟨⟨⟨tt_,g⟩,(QP u)⟩,Qf⟩ ?_
 obtain⟨w,l,h⟩:=Qb h
 refine AK.loop (body:=(fun st=>Qew k s st.1 st.2)) (fun st σ=>σ=⟨[(2,.loc 2 0 0),(5,.I st.1),(19,.sl 2 (k.Vars.map QU)),(20,.I (k.Vars.length:Int)),(21,.I st.2)],[(2,.var (Qd s))]⟩) (Sum.elim (fun q e σ=>e=.ret∧σ=⟨[(4,.I 0)],[]⟩) (fun q e σ=>e=.exit 0∧σ=⟨[(5,.I q)],[]⟩)) l rfl ?_ ?_
 ·rintro ⟨z,B⟩ o σ rfl h
  refine tg_ hC [.n 6] rfl ?_
  rcases Qr h with⟨a,h⟩|⟨a,h⟩
  ·obtain⟨i,m,h⟩:=Qb h
   obtain⟨x,p,h⟩:=Qb h
   refine Qa hC [.T,.n 6,.o (.row (QU i)),.v .no [] (.agg (QU i)),.n 2,.O 7 (.var (QU i)),.n 8,.o (.c false [.d,.d] (.I x)),.n 10] rfl ⟨⟨⟨⟨⟨tt_,a⟩,(QP m)⟩,rfl⟩,rfl⟩,(Qip _ _ p)⟩ ?_
   refine bg_ h (fun f h=>Qa hC [.T,.n 9,.K [4] []] rfl ⟨tt_,f⟩ ?_) fun f h=>Qa hC [.F,.n 15,.K [2,5,19,20,21] [2]] rfl ⟨tt_,f⟩ ?_
   ·cases h
    exact Qar rfl (an_ rfl rfl)
   cases h
   exact Q4 rfl rfl
  refine Qa hC [.F,.n 2,.K [5] []] rfl ⟨tt_,a⟩ ?_
  cases h
  exact Q6 rfl (an_ rfl rfl)
 rcases w with(_ | j)
 ·replace h:Qiz=some r:=h
  rintro e σ ⟨rfl,rfl⟩
  refine tg_ hC [.n 2] rfl ?_
  cases h
  exact d1_ rfl rfl tt_
 replace h:QiA j=some r:=h
 rintro e σ ⟨rfl,rfl⟩
 refine tg_ hC [.n 9] rfl ?_
 cases h
 exact d1_ rfl rfl tt_
def QhX (a:Qj)(b:Int):Option Bool:=
 (Qde a b).bind fun c=>
 some (decide (c≤1024))
theorem Qu4 (a e){r}(h:QhX a e=some r):Qc prog 190 [.loc 617 0 0,.loc 618 0 0] [(617,.var (Qd a)),(618,.var (Qe e))] (Gives (.b r) [(617,.var (Qd a)),(618,.var (Qe e))]):=by
 refine Qc.walk 7 func190 rfl rfl rfl fun C hC=>?_
 obtain⟨g,f,h⟩:=Qb h
 refine Qa hC [.n 7,.v .no [] (.agg (Qd a)),.n 1,.o (.c false [.d,.d] (.I g)),.n 5] rfl ⟨⟨tt_,rfl⟩,(QpP _ _ f)⟩ ?_
 cases h
 exact d1_ rfl rfl ⟨rfl,rfl,tt_⟩
def QoA (a:QD)(b:Int):Option Bool:=
 (QhP a.Guard b).bind fun c=>
 bif c then
 bif (decide (0<(a.Ins.length:Int)))then
 some (decide (0<(a.Outs.length:Int)))
 else
 some false
 else
 some false
def QhA (a:Bool):Option Bool:=
 some a
def QkR (a:QD)(b:Int):Option Bool:=
 (QoA a b).bind (fun c=>QhA c)
theorem Qu5 (a g){r}(h:QkR a g=some r):Qc prog 191 [.loc 617 0 0,.loc 618 0 0] [(617,.var (Qh a)),(618,.var (Qe g))] (Gives (.b r) [(617,.var (Qh a)),(618,.var (Qe g))]):=by
 refine Qc.walk 19 func191 rfl rfl rfl fun C hC=>?_
 refine tg_ hC [.n 6] rfl ?_
 obtain⟨i,j,h⟩:=Qb h
 replace h:QhA i=some r:=h
 refine AK.meetX (fun σ=>σ=⟨[(2,.b i)],[(617,.var (Qh a)),(618,.var (Qe g))]⟩) ?_ ?_
 ·replace h:=j
  obtain⟨l,k,h⟩:=Qb h
  refine Qa hC [.n 2,.v .no [] (.agg (Qs a.Guard)),.n 1,.o (.c false [.d,.d] (.b l)),.n 1] rfl ⟨⟨tt_,rfl⟩,(Qmq _ _ k)⟩ ?_
  refine bg_ h (fun e h=>Qa hC [.S 7 (.b true),.n 2,.o (.ln a.Ins.length),.n 3] rfl ⟨(tc_ e),Qf⟩ ?_) fun e h=>Qa hC [.S 7 (.b false),.n 13,.K [2] [617,618]] rfl (tc_ e) ?_
  ·refine bg_ h (fun f h=>Qa hC [.S 13 (.b true),.n 2,.o (.ln a.Outs.length),.n 4,.K [2] [617,618]] rfl ⟨(tc_ f),Qf⟩ ?_) fun f h=>Qa hC [.S 13 (.b false),.n 7,.K [2] [617,618]] rfl (tc_ f) ?_
   ·cases h
    exact AK.met rfl
   cases h
   exact AK.met rfl
  cases h
  exact AK.met rfl
 rintro σ rfl
 replace h:QhA i=some r:=h
 refine tg_ hC [.n 2] rfl ?_
 cases h
 exact d1_ rfl rfl ⟨rfl,rfl,tt_⟩
def QiB (a:Qj)(b:Qax):Option Bool:=
 (QaR a.Places b.Place).bind fun c=>
 some c
theorem Qtl (a e){r}(h:QiB a e=some r):Qc prog 240 [.loc 617 0 0,.loc 618 0 0] [(617,.var (Qd a)),(618,.var (Q7 e))] (Gives (.b r) [(617,.var (Qd a)),(618,.var (Q7 e))]):=by
 refine Qc.walk 8 func240 rfl rfl rfl fun C hC=>?_
 obtain⟨g,f,h⟩:=Qb h
 refine Qa hC [.n 11,.o (.c false [.d,.d] (.b g)),.n 4] rfl ⟨tt_,(Qb8 _ _ f)⟩ ?_
 cases h
 exact d1_ rfl rfl ⟨rfl,rfl,tt_⟩
def QiC (a:Qax)(b:Int):Option Bool:=
 (QhP a.Expr b).bind fun c=>
 some c
theorem Qtm (a e){r}(h:QiC a e=some r):Qc prog 241 [.loc 617 0 0,.loc 618 0 0] [(617,.var (Q7 a)),(618,.var (Qe e))] (Gives (.b r) [(617,.var (Q7 a)),(618,.var (Qe e))]):=by
 refine Qc.walk 7 func241 rfl rfl rfl fun C hC=>?_
 obtain⟨g,f,h⟩:=Qb h
 refine Qa hC [.n 8,.v .no [] (.agg (Qs a.Expr)),.n 1,.o (.c false [.d,.d] (.b g)),.n 4] rfl ⟨⟨tt_,rfl⟩,(Qmq _ _ f)⟩ ?_
 cases h
 exact d1_ rfl rfl ⟨rfl,rfl,tt_⟩
def QiD (c:Qj)(b:Qax)(d:Int)(e:Int)(f:Int):Option Int:=
 (QiB c b).bind fun g=>
 bif (!g)then
 some d
 else
 (QiC b e).bind fun a=>
 bif (!a)then
 some f
 else
 some 0
theorem Qtn (i e j k l){r}(h:QiD i e j k l=some r):Qc prog 122 [.own 617 2] [(617,.var [.clo (.func 240) [] [.loc 618 0 0,.loc 619 0 0],.I j,.clo (.func 241) [] [.loc 619 0 0,.loc 620 0 0],.I l]),(618,.var (Qd i)),(619,.var (Q7 e)),(620,.var (Qe k))] (Gives (.I r) [(617,.var [.clo (.func 240) [] [.loc 618 0 0,.loc 619 0 0],.I j,.clo (.func 241) [] [.loc 619 0 0,.loc 620 0 0],.I l]),(618,.var (Qd i)),(619,.var (Q7 e)),(620,.var (Qe k))]):=by
 refine Qc.walk 18 func122 rfl rfl rfl fun C hC=>?_
 refine tg_ hC [.n 14] rfl ?_
 refine AK.loopN 3 (AK.rnd ?_)
 obtain⟨s,m,h⟩:=Qb h
 refine Qa hC [.n 2,.v .no [] (.b true),.n 10,.o (.any (.loc 617 0 0) none),.n 3,.O 4 (.var [.clo (.func 240) [] [.loc 618 0 0,.loc 619 0 0],.I j]),.n 6,.cm (.clo) [(617,618),(618,619)] [(618,617),(619,618)] [] [.d,.d] [(617,.var (Qd i)),(618,.var (Q7 e))] (.b s),.n 3] rfl ⟨⟨⟨⟨tt_,rfl⟩,(fun σ f p _=>Stp.idxV rfl rfl (QO hC.n rfl) (f _ _ rfl) (f _ _ rfl) (Qp.es rfl) (p _ _ rfl) (by decide))⟩,rfl⟩,(Qtl _ _ m)⟩ ?_
 refine bg_ h (fun c h=>Qa hC [.T,.n 13,.K [2] [617,618,619,620]] rfl ⟨tt_,c⟩ ?_) fun c h=>Qa hC [.F,.n 4,.v .no [] (.I 1),.n 2] rfl ⟨⟨tt_,c⟩,rfl⟩ ?_
 ·cases h
  exact d1_ rfl rfl ⟨rfl,rfl,rfl,rfl,tt_⟩
 refine AK.met (AK.rnd ?_)
 obtain⟨q,g,h⟩:=Qb h
 refine Qa hC [.n 2,.v .no [] (.b true),.n 10,.o (.any (.loc 617 0 2) none),.n 1,.kill 4,.n 2,.O 4 (.var [.clo (.func 241) [] [.loc 619 0 0,.loc 620 0 0],.I l]),.n 6,.cm (.clo) [(617,619),(618,620)] [(619,617),(620,618)] [] [.d,.d] [(617,.var (Q7 e)),(618,.var (Qe k))] (.b q),.n 3] rfl ⟨⟨⟨⟨tt_,rfl⟩,(fun σ f p _=>Stp.idxV rfl rfl (QO hC.n rfl) (f _ _ rfl) (f _ _ rfl) (Qp.es rfl) (p _ _ rfl) (by decide))⟩,rfl⟩,(Qtm _ _ g)⟩ ?_
 refine bg_ h (fun a h=>Qa hC [.T,.n 13,.K [2] [617,618,619,620]] rfl ⟨tt_,a⟩ ?_) fun a h=>Qa hC [.F,.n 4,.v .no [] (.I 2),.n 2] rfl ⟨⟨tt_,a⟩,rfl⟩ ?_
 ·cases h
  exact d1_ rfl rfl ⟨rfl,rfl,rfl,rfl,tt_⟩
 refine AK.met (AK.rnd ?_)
 refine Qa hC [.n 2,.v .no [] (.b false),.n 15] rfl ⟨tt_,rfl⟩ ?_
 cases h
 exact d1_ rfl rfl ⟨rfl,rfl,rfl,rfl,tt_⟩
def QkS (e:Int)(a:Qax)(b:Qj)(c:Int):Option Int:=
 (QiD b a 3 c 1).bind fun d=>
 some d
theorem Qu6 (f c a b){r}(h:QkS f c a b=some r):Qc prog 239 [.I f,.agg (Q7 c),.loc 617 0 0,.loc 618 0 0] [(617,.var (Qd a)),(618,.var (Qe b))] (Gives (.I r) [(617,.var (Qd a)),(618,.var (Qe b))]):=by
 refine Qc.walk 13 func239 rfl rfl rfl fun C hC=>?_
 obtain⟨g,e,h⟩:=Qb h
 refine Qa hC [.n 9,.v .no [] (.agg [.clo (.func 240) [] [.loc 617 0 0,.loc 5 0 0],.I 3]),.n 1,.v .no [] (.agg [.clo (.func 241) [] [.loc 5 0 0,.loc 618 0 0],.I 1]),.o (.any (.own 11 2) (some (.var [.clo (.func 240) [] [.loc 617 0 0,.loc 5 0 0],.I 3,.clo (.func 241) [] [.loc 5 0 0,.loc 618 0 0],.I 1]))),.cm (.fn) [(617,11),(618,617),(619,5),(620,618)] [(11,617),(617,618),(5,619),(618,620)] [] [.d] [(617,.var [.clo (.func 240) [] [.loc 618 0 0,.loc 619 0 0],.I 3,.clo (.func 241) [] [.loc 619 0 0,.loc 620 0 0],.I 1]),(618,.var (Qd a)),(619,.var (Q7 c)),(620,.var (Qe b))] (.I g),.n 4] rfl ⟨⟨⟨⟨tt_,rfl⟩,rfl⟩,(fun σ i j hf=>Stp.buildAny rfl rfl (QO hC.n rfl) (Qp.es rfl) QnT rfl (by decide) (by decide) (QfY i rfl) rfl rfl (hf rfl))⟩,(Qtn _ _ _ _ _ e)⟩ ?_
 cases h
 exact d1_ rfl rfl ⟨rfl,rfl,tt_⟩
def Qec (d:(List Qax))(e:Qj)(f:Int)(a:Int):Option (Int⊕((Int×Int)⊕Unit)):=
 bif (decide (a<(d.length:Int)))then
 (idx d a).bind fun c=>
 (QkS a c e f).bind fun b=>
 bif (b != 0)then
 some (.inr (.inl (a,b)))
 else
 some (.inl (w64 (a+1)))
 else
 some (.inr (.inr ()))
def Qed (a:Int)(b:Int):Option (Int×Int):=
 some (a,b)
def Qee : Option (Int×Int):=
 some (0,0)
def QfE (a:(List Qax))(b:Qj)(c:Int):Option (Int×Int):=
 (QK (fun st=>Qec a b c st) 0).bind (Sum.elim (fun q=>Qed q.1 q.2) (fun q=>Qee))
theorem Qp4 (i f g){r}(h:QfE i f g=some r):Qc prog 238 [.sl 4 (i.map Q7),.clo (.func 239) [] [.loc 617 0 0,.loc 618 0 0]] [(617,.var (Qd f)),(618,.var (Qe g))] (Gives (.tup [.I r.1,.I r.2]) [(617,.var (Qd f)),(618,.var (Qe g))]):=by
 refine Qc.walk 25 func238 rfl rfl rfl fun C hC=>?_
 refine Qa hC [.n 10,.o (.ln i.length),.n 4,.K [1,9,10,11] [617,618]] rfl ⟨tt_,Qf⟩ ?_
 obtain⟨m,j,h⟩:=Qb h
 refine AK.loop (body:=(fun st=>Qec i f g st)) (fun st σ=>σ=⟨[(1,.clo (.func 239) [] [.loc 617 0 0,.loc 618 0 0]),(9,.sl 4 (i.map Q7)),(10,.I (i.length:Int)),(11,.I st)],[(617,.var (Qd f)),(618,.var (Qe g))]⟩) (Sum.elim (fun q e σ=>e=.ret∧σ=⟨[(4,.I q.1),(5,.I q.2)],[(617,.var (Qd f)),(618,.var (Qe g))]⟩) (fun q e σ=>e=.exit 0∧σ=⟨[],[(617,.var (Qd f)),(618,.var (Qe g))]⟩)) j rfl ?_ ?_
 ·rintro u o σ rfl h
  refine tg_ hC [.n 6] rfl ?_
  rcases Qr h with⟨a,h⟩|⟨a,h⟩
  ·obtain⟨c,k,h⟩:=Qb h
   obtain⟨p,l,h⟩:=Qb h
   refine Qa hC [.T,.n 7,.o (.row (Q7 c)),.v .no [] (.agg (Q7 c)),.n 3,.O 7 (.var (Q7 c)),.n 6,.v .no [] (.agg (Q7 c)),.cm (.clo) [(617,617),(618,618)] [(617,617),(618,618)] [] [.d,.d,.d,.d] [(617,.var (Qd f)),(618,.var (Qe g))] (.I p),.n 9] rfl ⟨⟨⟨⟨⟨⟨tt_,a⟩,(QP k)⟩,rfl⟩,rfl⟩,rfl⟩,(Qu6 _ _ _ _ l)⟩ ?_
   refine bg_ h (fun b h=>Qa hC [.T,.n 11,.K [4,5] [617,618]] rfl ⟨tt_,b⟩ ?_) fun b h=>Qa hC [.F,.n 7,.K [1,9,10,11] [617,618]] rfl ⟨tt_,b⟩ ?_
   ·cases h
    exact Qar rfl (an_ rfl rfl)
   cases h
   exact Q4 rfl rfl
  refine Qa hC [.F,.n 2,.K [] [617,618]] rfl ⟨tt_,a⟩ ?_
  cases h
  exact Q6 rfl (an_ rfl rfl)
 rcases m with(⟨s,t⟩|_)
 ·replace h:Qed s t=some r:=h
  rintro e σ ⟨rfl,rfl⟩
  refine tg_ hC [.n 2] rfl ?_
  cases h
  exact d2_ rfl rfl rfl ⟨rfl,rfl,tt_⟩
 replace h:Qee=some r:=h
 rintro e σ ⟨rfl,rfl⟩
 refine tg_ hC [.n 9] rfl ?_
 cases h
 exact d2_ rfl rfl rfl ⟨rfl,rfl,tt_⟩
def Qkc (b:Qj)(c:(List Qax))(a:Int):Option Int:=
 (QfE c b a).bind fun d=>
 some d.2
theorem QqM (b e a){r}(h:Qkc b e a=some r):Qc prog 194 [.agg (Qd b),.sl 4 (e.map Q7),.I a] [] (Gives (.I r) []):=by
 refine Qc.walk 16 func194 rfl rfl rfl fun C hC=>?_
 obtain⟨f,c,h⟩:=Qb h
 refine Qa hC [.n 11,.cm (.fn) [(617,3),(618,5)] [(3,617),(5,618)] [] [.d,.d] [(617,.var (Qd b)),(618,.var (Qe a))] (.tup [.I f.1,.I f.2]),.n 14] rfl ⟨tt_,(Qp4 _ _ _ c)⟩ ?_
 cases h
 exact d1_ rfl rfl tt_
def QkT (a:Qj)(b:QD)(c:Int):Option Int:=
 (Qkc a b.Ins c).bind fun d=>
 some d
theorem Qu7 (a b e){r}(h:QkT a b e=some r):Qc prog 193 [.loc 617 0 0,.loc 618 0 0,.loc 619 0 0] [(617,.var (Qd a)),(618,.var (Qh b)),(619,.var (Qe e))] (Gives (.I r) [(617,.var (Qd a)),(618,.var (Qh b)),(619,.var (Qe e))]):=by
 refine Qc.walk 9 func193 rfl rfl rfl fun C hC=>?_
 obtain⟨g,f,h⟩:=Qb h
 refine Qa hC [.n 7,.v .no [] (.agg (Qd a)),.n 3,.o (.c false [.d,.d,.d] (.I g)),.n 4] rfl ⟨⟨tt_,rfl⟩,(QqM _ _ _ f)⟩ ?_
 cases h
 exact d1_ rfl rfl ⟨rfl,rfl,rfl,tt_⟩
def QgW (b:Qj)(c:QD)(d:Int)(e:Int):Option (Bool×Int):=
 (QkT b c d).bind fun a=>
 some ((a==0),a)
theorem QrP (c e f j){r}(h:QgW c e f j=some r):Qc prog 227 [.loc 617 0 0,.loc 621 0 0] [(617,.var [.clo (.func 193) [] [.loc 618 0 0,.loc 619 0 0,.loc 620 0 0]]),(618,.var (Qd c)),(619,.var (Qh e)),(620,.var (Qe f)),(621,.var [.loc 622 0 0]),(622,.var (Qe j))] (Gives (.b r.1) [(617,.var [.clo (.func 193) [] [.loc 618 0 0,.loc 619 0 0,.loc 620 0 0]]),(618,.var (Qd c)),(619,.var (Qh e)),(620,.var (Qe f)),(621,.var [.loc 622 0 0]),(622,.var (Qe r.2))]):=by
 refine Qc.walk 11 func227 rfl rfl rfl fun C hC=>?_
 obtain⟨g,i,h⟩:=Qb h
 refine tg_ hC [.n 6,.K [0,1] [617,618,619,620,621,622]] rfl ?_
 refine AK.draw2 Qp hC mixed [.N,.N,.a (.any (.I g) none) none false,.N,.m .s] [] [] [1] [617,618,619,620,621,622] rfl rfl rfl ⟨tt_,(fun σ k l _=>Stp.callSame (md:=.cm (.clo) [(617,618),(618,619),(619,620)] [(618,617),(619,618),(620,619)] [] [.d,.d,.d] [(617,.var (Qd c)),(618,.var (Qh e)),(619,.var (Qe f))] (.I g) [618,619,620]) Qp hC k l rfl ⟨⟨tt_,(Qu7 _ _ _ i)⟩,⟨rfl,rfl,rfl,tt_⟩⟩)⟩ rfl (by kernel_rfl) rfl rfl rfl ?_
 refine Qa hC [.O 622 (.var (Qe g)),.n 11] rfl ⟨tt_,rfl⟩ ?_
 cases h
 exact d1_ rfl rfl ⟨rfl,rfl,rfl,rfl,rfl,rfl,tt_⟩
def QkU (a:Qj)(b:QD)(c:Int):Option Int:=
 (Qkc a b.Outs c).bind fun d=>
 some d
theorem Qu8 (a b e){r}(h:QkU a b e=some r):Qc prog 195 [.loc 617 0 0,.loc 618 0 0,.loc 619 0 0] [(617,.var (Qd a)),(618,.var (Qh b)),(619,.var (Qe e))] (Gives (.I r) [(617,.var (Qd a)),(618,.var (Qh b)),(619,.var (Qe e))]):=by
 refine Qc.walk 9 func195 rfl rfl rfl fun C hC=>?_
 obtain⟨g,f,h⟩:=Qb h
 refine Qa hC [.n 7,.v .no [] (.agg (Qd a)),.n 3,.o (.c false [.d,.d,.d] (.I g)),.n 4] rfl ⟨⟨tt_,rfl⟩,(QqM _ _ _ f)⟩ ?_
 cases h
 exact d1_ rfl rfl ⟨rfl,rfl,rfl,tt_⟩
def QgX (b:Qj)(c:QD)(d:Int)(e:Int):Option (Bool×Int):=
 (QkU b c d).bind fun a=>
 some ((a==0),a)
theorem QrQ (c e f j){r}(h:QgX c e f j=some r):Qc prog 227 [.loc 617 0 0,.loc 621 0 0] [(617,.var [.clo (.func 195) [] [.loc 618 0 0,.loc 619 0 0,.loc 620 0 0]]),(618,.var (Qd c)),(619,.var (Qh e)),(620,.var (Qe f)),(621,.var [.loc 622 0 0]),(622,.var (Qe j))] (Gives (.b r.1) [(617,.var [.clo (.func 195) [] [.loc 618 0 0,.loc 619 0 0,.loc 620 0 0]]),(618,.var (Qd c)),(619,.var (Qh e)),(620,.var (Qe f)),(621,.var [.loc 622 0 0]),(622,.var (Qe r.2))]):=by
 refine Qc.walk 11 func227 rfl rfl rfl fun C hC=>?_
 obtain⟨g,i,h⟩:=Qb h
 refine tg_ hC [.n 6,.K [0,1] [617,618,619,620,621,622]] rfl ?_
 refine AK.draw2 Qp hC mixed [.N,.N,.a (.any (.I g) none) none false,.N,.m .s] [] [] [1] [617,618,619,620,621,622] rfl rfl rfl ⟨tt_,(fun σ k l _=>Stp.callSame (md:=.cm (.clo) [(617,618),(618,619),(619,620)] [(618,617),(619,618),(620,619)] [] [.d,.d,.d] [(617,.var (Qd c)),(618,.var (Qh e)),(619,.var (Qe f))] (.I g) [618,619,620]) Qp hC k l rfl ⟨⟨tt_,(Qu8 _ _ _ i)⟩,⟨rfl,rfl,rfl,tt_⟩⟩)⟩ rfl (by kernel_rfl) rfl rfl rfl ?_
 refine Qa hC [.O 622 (.var (Qe g)),.n 11] rfl ⟨tt_,rfl⟩ ?_
 cases h
 exact d1_ rfl rfl ⟨rfl,rfl,rfl,rfl,rfl,rfl,tt_⟩
def Qgl (a:Qj)(b:Int):Option Bool:=
 (QaR a.Places b).bind fun c=>
 some c
theorem Qri (a e){r}(h:Qgl a e=some r):Qc prog 244 [.loc 617 0 0,.loc 618 0 0] [(617,.var (Qd a)),(618,.var (Qe e))] (Gives (.b r) [(617,.var (Qd a)),(618,.var (Qe e))]):=by
 refine Qc.walk 7 func244 rfl rfl rfl fun C hC=>?_
 obtain⟨g,f,h⟩:=Qb h
 refine Qa hC [.n 10,.o (.c false [.d,.d] (.b g)),.n 4] rfl ⟨tt_,(Qb8 _ _ f)⟩ ?_
 cases h
 exact d1_ rfl rfl ⟨rfl,rfl,tt_⟩
def Qgm (b:(List Int))(a:Int)(c:Int):Option Bool:=
 (chk (decide (0≤a)&&decide (0≤a.toNat)&&decide (a.toNat≤b.length))).bind fun _=>
 (Qbx ((b.drop 0).take (a.toNat-0)) c).bind fun d=>
 some (!d)
theorem Qrj (f g i){r}(h:Qgm f g i=some r):Qc prog 245 [.loc 617 0 0,.loc 618 0 0,.loc 619 0 0] [(617,.var (QL f)),(618,.var (Qe g)),(619,.var (Qe i))] (Gives (.b r) [(617,.var (QL f)),(618,.var (Qe g)),(619,.var (Qe i))]):=by
 refine Qc.walk 10 func245 rfl rfl rfl fun C hC=>?_
 obtain⟨e,h⟩:=QaX h
 obtain⟨l,j,h⟩:=Qb h
 refine tg_ hC [.n 6,.K [0,1,2,3] [617,618,619]] rfl ?_
 refine AK.draw2 Qp hC mixed [.N,.N,.a (.any (.sl 1 (((f.drop 0).take (g.toNat-0)).map Qe)) none) none false,.N,.a (.c false [.d,.d] (.b l)) none false,.N,.m .s] [] [] [3] [617,618,619] rfl rfl rfl ⟨⟨tt_,(fun σ k o _=>Stp.sliceD rfl rfl (QO hC.n rfl) (k _ _ rfl) (Qp.es rfl) Bnd.no (Bnd.val (k _ _ rfl) (Q8 (QtI e)) rfl) (Q8 (QtJ e)) (Qcb (Q8 (QtK e)) (Nat.le_of_eq Qf.symm)) Qwr)⟩,(QhR _ _ j)⟩ rfl (by kernel_rfl) rfl rfl rfl ?_
 refine tg_ hC [.n 2] rfl ?_
 cases h
 exact d1_ rfl rfl ⟨rfl,rfl,rfl,tt_⟩
def QiE (c:Qj)(b:Int)(d:Int)(e:(List Int))(f:Int)(g:Int):Option Int:=
 (Qgl c b).bind fun h=>
 bif (!h)then
 some d
 else
 (Qgm e f b).bind fun a=>
 bif (!a)then
 some g
 else
 some 0
theorem Qto (i e j k l m){r}(h:QiE i e j k l m=some r):Qc prog 122 [.own 617 2] [(617,.var [.clo (.func 244) [] [.loc 618 0 0,.loc 619 0 0],.I j,.clo (.func 245) [] [.loc 620 0 0,.loc 621 0 0,.loc 619 0 0],.I m]),(618,.var (Qd i)),(619,.var (Qe e)),(620,.var (QL k)),(621,.var (Qe l))] (Gives (.I r) [(617,.var [.clo (.func 244) [] [.loc 618 0 0,.loc 619 0 0],.I j,.clo (.func 245) [] [.loc 620 0 0,.loc 621 0 0,.loc 619 0 0],.I m]),(618,.var (Qd i)),(619,.var (Qe e)),(620,.var (QL k)),(621,.var (Qe l))]):=by
 refine Qc.walk 18 func122 rfl rfl rfl fun C hC=>?_
 refine tg_ hC [.n 14] rfl ?_
 refine AK.loopN 3 (AK.rnd ?_)
 obtain⟨t,p,h⟩:=Qb h
 refine Qa hC [.n 2,.v .no [] (.b true),.n 10,.o (.any (.loc 617 0 0) none),.n 3,.O 4 (.var [.clo (.func 244) [] [.loc 618 0 0,.loc 619 0 0],.I j]),.n 6,.cm (.clo) [(617,618),(618,619)] [(618,617),(619,618)] [] [.d,.d] [(617,.var (Qd i)),(618,.var (Qe e))] (.b t),.n 3] rfl ⟨⟨⟨⟨tt_,rfl⟩,(fun σ f q _=>Stp.idxV rfl rfl (QO hC.n rfl) (f _ _ rfl) (f _ _ rfl) (Qp.es rfl) (q _ _ rfl) (by decide))⟩,rfl⟩,(Qri _ _ p)⟩ ?_
 refine bg_ h (fun a h=>Qa hC [.T,.n 13,.K [2] [617,618,619,620,621]] rfl ⟨tt_,a⟩ ?_) fun a h=>Qa hC [.F,.n 4,.v .no [] (.I 1),.n 2] rfl ⟨⟨tt_,a⟩,rfl⟩ ?_
 ·cases h
  exact d1_ rfl rfl ⟨rfl,rfl,rfl,rfl,rfl,tt_⟩
 refine AK.met (AK.rnd ?_)
 obtain⟨s,g,h⟩:=Qb h
 refine Qa hC [.n 2,.v .no [] (.b true),.n 10,.o (.any (.loc 617 0 2) none),.n 1,.kill 4,.n 2,.O 4 (.var [.clo (.func 245) [] [.loc 620 0 0,.loc 621 0 0,.loc 619 0 0],.I m]),.n 6,.cm (.clo) [(617,620),(618,621),(619,619)] [(620,617),(621,618),(619,619)] [] [.d,.d,.d] [(617,.var (QL k)),(618,.var (Qe l)),(619,.var (Qe e))] (.b s),.n 3] rfl ⟨⟨⟨⟨tt_,rfl⟩,(fun σ f q _=>Stp.idxV rfl rfl (QO hC.n rfl) (f _ _ rfl) (f _ _ rfl) (Qp.es rfl) (q _ _ rfl) (by decide))⟩,rfl⟩,(Qrj _ _ _ g)⟩ ?_
 refine bg_ h (fun c h=>Qa hC [.T,.n 13,.K [2] [617,618,619,620,621]] rfl ⟨tt_,c⟩ ?_) fun c h=>Qa hC [.F,.n 4,.v .no [] (.I 2),.n 2] rfl ⟨⟨tt_,c⟩,rfl⟩ ?_
 ·cases h
  exact d1_ rfl rfl ⟨rfl,rfl,rfl,rfl,rfl,tt_⟩
 refine AK.met (AK.rnd ?_)
 refine Qa hC [.n 2,.v .no [] (.b false),.n 15] rfl ⟨tt_,rfl⟩ ?_
 cases h
 exact d1_ rfl rfl ⟨rfl,rfl,rfl,rfl,rfl,tt_⟩
def QhB (b:Int)(a:Int)(c:Qj)(d:(List Int)):Option Int:=
 (QiE c a 3 d b 5).bind fun e=>
 some e
theorem QsM (e a b c){r}(h:QhB e a b c=some r):Qc prog 243 [.I e,.I a,.loc 617 0 0,.loc 618 0 0] [(617,.var (Qd b)),(618,.var (QL c))] (Gives (.I r) [(617,.var (Qd b)),(618,.var (QL c))]):=by
 refine Qc.walk 13 func243 rfl rfl rfl fun C hC=>?_
 obtain⟨g,f,h⟩:=Qb h
 refine Qa hC [.n 10,.v .no [] (.agg [.clo (.func 244) [] [.loc 617 0 0,.loc 5 0 0],.I 3]),.n 1,.v .no [] (.agg [.clo (.func 245) [] [.loc 618 0 0,.loc 4 0 0,.loc 5 0 0],.I 5]),.o (.any (.own 11 2) (some (.var [.clo (.func 244) [] [.loc 617 0 0,.loc 5 0 0],.I 3,.clo (.func 245) [] [.loc 618 0 0,.loc 4 0 0,.loc 5 0 0],.I 5]))),.cm (.fn) [(617,11),(618,617),(619,5),(620,618),(621,4)] [(11,617),(617,618),(5,619),(618,620),(4,621)] [] [.d] [(617,.var [.clo (.func 244) [] [.loc 618 0 0,.loc 619 0 0],.I 3,.clo (.func 245) [] [.loc 620 0 0,.loc 621 0 0,.loc 619 0 0],.I 5]),(618,.var (Qd b)),(619,.var (Qe a)),(620,.var (QL c)),(621,.var (Qe e))] (.I g),.n 4] rfl ⟨⟨⟨⟨tt_,rfl⟩,rfl⟩,(fun σ i j hf=>Stp.buildAny rfl rfl (QO hC.n rfl) (Qp.es rfl) QnT rfl (by decide) (by decide) (QfY i rfl) rfl rfl (hf rfl))⟩,(Qto _ _ _ _ _ _ f)⟩ ?_
 cases h
 exact d1_ rfl rfl ⟨rfl,rfl,tt_⟩
def Qgn (d:(List Int))(e:Qj)(f:(List Int))(a:Int):Option (Int⊕((Int×Int)⊕Unit)):=
 bif (decide (a<(d.length:Int)))then
 (idx d a).bind fun c=>
 (QhB a c e f).bind fun b=>
 bif (b != 0)then
 some (.inr (.inl (a,b)))
 else
 some (.inl (w64 (a+1)))
 else
 some (.inr (.inr ()))
def Qgo (a:Int)(b:Int):Option (Int×Int):=
 some (a,b)
def Qgp : Option (Int×Int):=
 some (0,0)
def QiF (a:(List Int))(b:Qj)(c:(List Int)):Option (Int×Int):=
 (QK (fun st=>Qgn a b c st) 0).bind (Sum.elim (fun q=>Qgo q.1 q.2) (fun q=>Qgp))
theorem Qtp (g c f){r}(h:QiF g c f=some r):Qc prog 242 [.sl 1 (g.map Qe),.clo (.func 243) [] [.loc 617 0 0,.loc 618 0 0]] [(617,.var (Qd c)),(618,.var (QL f))] (Gives (.tup [.I r.1,.I r.2]) [(617,.var (Qd c)),(618,.var (QL f))]):=by
 refine Qc.walk 25 func242 rfl rfl rfl fun C hC=>?_
 refine Qa hC [.n 10,.o (.ln g.length),.n 4,.K [1,9,10,11] [617,618]] rfl ⟨tt_,Qf⟩ ?_
 obtain⟨l,i,h⟩:=Qb h
 refine AK.loop (body:=(fun st=>Qgn g c f st)) (fun st σ=>σ=⟨[(1,.clo (.func 243) [] [.loc 617 0 0,.loc 618 0 0]),(9,.sl 1 (g.map Qe)),(10,.I (g.length:Int)),(11,.I st)],[(617,.var (Qd c)),(618,.var (QL f))]⟩) (Sum.elim (fun q e σ=>e=.ret∧σ=⟨[(4,.I q.1),(5,.I q.2)],[(617,.var (Qd c)),(618,.var (QL f))]⟩) (fun q e σ=>e=.exit 0∧σ=⟨[],[(617,.var (Qd c)),(618,.var (QL f))]⟩)) i rfl ?_ ?_
 ·rintro u o σ rfl h
  refine tg_ hC [.n 6] rfl ?_
  rcases Qr h with⟨a,h⟩|⟨a,h⟩
  ·obtain⟨m,j,h⟩:=Qb h
   obtain⟨p,k,h⟩:=Qb h
   refine Qa hC [.T,.n 7,.o (.row (Qe m)),.n 10,.cm (.clo) [(617,617),(618,618)] [(617,617),(618,618)] [] [.d,.d,.d,.d] [(617,.var (Qd c)),(618,.var (QL f))] (.I p),.n 9] rfl ⟨⟨⟨tt_,a⟩,(QP j)⟩,(QsM _ _ _ _ k)⟩ ?_
   refine bg_ h (fun b h=>Qa hC [.T,.n 11,.K [4,5] [617,618]] rfl ⟨tt_,b⟩ ?_) fun b h=>Qa hC [.F,.n 7,.K [1,9,10,11] [617,618]] rfl ⟨tt_,b⟩ ?_
   ·cases h
    exact Qar rfl (an_ rfl rfl)
   cases h
   exact Q4 rfl rfl
  refine Qa hC [.F,.n 2,.K [] [617,618]] rfl ⟨tt_,a⟩ ?_
  cases h
  exact Q6 rfl (an_ rfl rfl)
 rcases l with(⟨s,t⟩|_)
 ·replace h:Qgo s t=some r:=h
  rintro e σ ⟨rfl,rfl⟩
  refine tg_ hC [.n 2] rfl ?_
  cases h
  exact d2_ rfl rfl rfl ⟨rfl,rfl,tt_⟩
 replace h:Qgp=some r:=h
 rintro e σ ⟨rfl,rfl⟩
 refine tg_ hC [.n 9] rfl ?_
 cases h
 exact d2_ rfl rfl rfl ⟨rfl,rfl,tt_⟩
def QjK (b:Qj)(a:(List Int)):Option Int:=
 (QiF a b a).bind fun c=>
 some c.2
theorem Qub (a b){r}(h:QjK a b=some r):Qc prog 197 [.agg (Qd a),.sl 1 (b.map Qe)] [] (Gives (.I r) []):=by
 refine Qc.walk 14 func197 rfl rfl rfl fun C hC=>?_
 obtain⟨e,c,h⟩:=Qb h
 refine Qa hC [.n 11,.cm (.fn) [(617,2),(618,3)] [(2,617),(3,618)] [] [.d,.d] [(617,.var (Qd a)),(618,.var (QL b))] (.tup [.I e.1,.I e.2]),.n 14] rfl ⟨tt_,(Qtp _ _ _ c)⟩ ?_
 cases h
 exact d1_ rfl rfl tt_
def QjL (a:Qj)(b:QD):Option Int:=
 (QjK a b.Cancel).bind fun c=>
 some c
theorem Quc (a b){r}(h:QjL a b=some r):Qc prog 196 [.loc 617 0 0,.loc 618 0 0] [(617,.var (Qd a)),(618,.var (Qh b))] (Gives (.I r) [(617,.var (Qd a)),(618,.var (Qh b))]):=by
 refine Qc.walk 7 func196 rfl rfl rfl fun C hC=>?_
 obtain⟨f,e,h⟩:=Qb h
 refine Qa hC [.n 7,.v .no [] (.agg (Qd a)),.n 2,.o (.c false [.d,.d] (.I f)),.n 4] rfl ⟨⟨tt_,rfl⟩,(Qub _ _ e)⟩ ?_
 cases h
 exact d1_ rfl rfl ⟨rfl,rfl,tt_⟩
def QgY (b:Qj)(c:QD)(d:Int):Option (Bool×Int):=
 (QjL b c).bind fun a=>
 some ((a==0),a)
theorem QrR (c e i){r}(h:QgY c e i=some r):Qc prog 227 [.loc 617 0 0,.loc 620 0 0] [(617,.var [.clo (.func 196) [] [.loc 618 0 0,.loc 619 0 0]]),(618,.var (Qd c)),(619,.var (Qh e)),(620,.var [.loc 621 0 0]),(621,.var (Qe i))] (Gives (.b r.1) [(617,.var [.clo (.func 196) [] [.loc 618 0 0,.loc 619 0 0]]),(618,.var (Qd c)),(619,.var (Qh e)),(620,.var [.loc 621 0 0]),(621,.var (Qe r.2))]):=by
 refine Qc.walk 11 func227 rfl rfl rfl fun C hC=>?_
 obtain⟨f,g,h⟩:=Qb h
 refine tg_ hC [.n 6,.K [0,1] [617,618,619,620,621]] rfl ?_
 refine AK.draw2 Qp hC mixed [.N,.N,.a (.any (.I f) none) none false,.N,.m .s] [] [] [1] [617,618,619,620,621] rfl rfl rfl ⟨tt_,(fun σ j k _=>Stp.callSame (md:=.cm (.clo) [(617,618),(618,619)] [(618,617),(619,618)] [] [.d,.d] [(617,.var (Qd c)),(618,.var (Qh e))] (.I f) [618,619]) Qp hC j k rfl ⟨⟨tt_,(Quc _ _ g)⟩,⟨rfl,rfl,tt_⟩⟩)⟩ rfl (by kernel_rfl) rfl rfl rfl ?_
 refine Qa hC [.O 621 (.var (Qe f)),.n 11] rfl ⟨tt_,rfl⟩ ?_
 cases h
 exact d1_ rfl rfl ⟨rfl,rfl,rfl,rfl,rfl,tt_⟩
def Qfd (a:Int)(b:(List Qax)):Option Bool:=
 some ((decide (1≤a))&&((decide (a≤3))&&((a != 3)||(decide ((b.length:Int)≤4)))))
theorem QnY (a f){r}(h:Qfd a f=some r):Qc prog 246 [.I a,.sl 4 (f.map Q7)] [] (Gives (.b r) []):=by
 refine Qc.walk 20 func246 rfl rfl rfl fun C hC=>?_
 unfold Qfd at h
 refine tg_ hC [.n 6] rfl ?_
 refine AK.meetX (fun σ=>σ=⟨[(4,.b ((decide (1≤a))&&((decide (a≤3))&&((a != 3)||(decide ((f.length:Int)≤4))))))],[]⟩) ?_ ?_
 ·refine tg_ hC [.n 4] rfl ?_
  rcases Q3 (decide (1≤a))with c | c
  ·refine Qa hC [.S 7 (.b true),.n 4] rfl (tc_ c) ?_
   rcases Q3 (decide (a≤3))with d | d
   ·refine Qa hC [.S 11 (.b true),.n 3] rfl (tc_ d) ?_
    rcases Q3 (a != 3)with e | e
    ·refine Qa hC [.S 14 (.b true),.n 7,.S 4 (.b ((decide (1≤a))&&((decide (a≤3))&&((a != 3)||(decide ((f.length:Int)≤4)))))),.K [4] []] rfl ⟨(tc_ e),(congrArg V.b (Qb6 c (Qb6 d (orT e rfl))))⟩ ?_
     exact AK.met rfl
    refine Qa hC [.S 14 (.b false),.n 1,.o (.ln f.length),.n 5,.S 4 (.b ((decide (1≤a))&&((decide (a≤3))&&((a != 3)||(decide ((f.length:Int)≤4)))))),.K [4] []] rfl ⟨⟨(tc_ e),Qf⟩,(congrArg V.b (Qb6 c (Qb6 d (orF e rfl))))⟩ ?_
    exact AK.met rfl
   refine Qa hC [.S 11 (.b false),.n 10,.S 4 (.b ((decide (1≤a))&&((decide (a≤3))&&((a != 3)||(decide ((f.length:Int)≤4)))))),.K [4] []] rfl ⟨(tc_ d),(congrArg V.b (Qb6 c (Qd2 d rfl)))⟩ ?_
   exact AK.met rfl
  refine Qa hC [.S 7 (.b false),.n 14,.S 4 (.b ((decide (1≤a))&&((decide (a≤3))&&((a != 3)||(decide ((f.length:Int)≤4)))))),.K [4] []] rfl ⟨(tc_ c),(congrArg V.b (Qd2 c rfl))⟩ ?_
  exact AK.met rfl
 rintro σ rfl
 refine tg_ hC [.n 2] rfl ?_
 cases h
 exact d1_ rfl rfl tt_
def QpQ (a:QD):Option Bool:=
 (Qfd a.Join a.Ins).bind fun b=>
 bif b then
 (Qfd a.Split a.Outs).bind fun c=>
 bif c then
 bif (decide (0≤a.After))then
 bif (decide (a.After≤65536))then
 some (((a.Many.1==0)&&((a.Many.2.1==0)&&(a.Many.2.2==0)))||((decide (1≤a.Many.1))&&((decide (a.Many.1≤a.Many.2.1))&&((decide (a.Many.2.1≤16))&&((decide (1≤a.Many.2.2))&&(decide (a.Many.2.2≤a.Many.2.1)))))))
 else
 some false
 else
 some false
 else
 some false
 else
 some false
def QiG (a:Bool):Option Bool:=
 some a
def QiS (a:QD):Option Bool:=
 (QpQ a).bind (fun b=>QiG b)
theorem QvU (a){r}(h:QiS a=some r):Qc prog 199 [.agg (Qh a)] [] (Gives (.b r) []):=by
 refine Qc.walk 70 func199 rfl rfl rfl fun C hC=>?_
 unfold QiS at h
 refine tg_ hC [.n 7,.K [1] [1]] rfl ?_
 refine AK.draw2 Qp hC mixed [.N,.N,.N,.N,.N,.N,.N,.N,.N,.N,.N,.N] [] [] [1,3,4,5] [1] rfl rfl rfl tt_ rfl (by kernel_rfl) rfl rfl rfl ?_
 refine tg_ hC [.n 2] rfl ?_
 refine AK.meetX (fun σ=>σ=⟨[(1,.loc 1 0 0),(6,.b (((a.Many.1==0)&&((a.Many.2.1==0)&&(a.Many.2.2==0)))||((decide (1≤a.Many.1))&&((decide (a.Many.1≤a.Many.2.1))&&((decide (a.Many.2.1≤16))&&((decide (1≤a.Many.2.2))&&(decide (a.Many.2.2≤a.Many.2.1))))))))],[(1,.var (Qh a))]⟩) ?_ ?_
 ·refine Qa hC [.n 2,.v .no [] (.agg (Qxm a.Many)),.v .no [] (.agg (Qxm (0,0,0))),.o (.any (.b ((a.Many.1==0)&&((a.Many.2.1==0)&&(a.Many.2.2==0)))) none),.n 1] rfl ⟨⟨⟨tt_,rfl⟩,rfl⟩,(fun σ y z _=>Stp.eqAgg rfl rfl (QO hC.n rfl) (y _ _ rfl) (y _ _ rfl) rfl rfl (QD7 _ _ _ _ _ _))⟩ ?_
  rcases Q3 ((a.Many.1==0)&&((a.Many.2.1==0)&&(a.Many.2.2==0)))with e | e
  ·refine Qa hC [.S 21 (.b true),.n 23,.S 6 (.b (((a.Many.1==0)&&((a.Many.2.1==0)&&(a.Many.2.2==0)))||((decide (1≤a.Many.1))&&((decide (a.Many.1≤a.Many.2.1))&&((decide (a.Many.2.1≤16))&&((decide (1≤a.Many.2.2))&&(decide (a.Many.2.2≤a.Many.2.1)))))))),.K [1,6] [1]] rfl ⟨(tc_ e),(congrArg V.b (orT e rfl))⟩ ?_
   exact AK.met rfl
  refine Qa hC [.S 21 (.b false),.n 3] rfl (tc_ e) ?_
  rcases Q3 (decide (1≤a.Many.1))with f | f
  ·refine Qa hC [.S 24 (.b true),.n 5] rfl (tc_ f) ?_
   rcases Q3 (decide (a.Many.1≤a.Many.2.1))with g | g
   ·refine Qa hC [.S 29 (.b true),.n 4] rfl (tc_ g) ?_
    rcases Q3 (decide (a.Many.2.1≤16))with i | i
    ·refine Qa hC [.S 33 (.b true),.n 4] rfl (tc_ i) ?_
     rcases Q3 (decide (1≤a.Many.2.2))with j | j
     ·refine Qa hC [.S 37 (.b true),.n 7,.S 6 (.b (((a.Many.1==0)&&((a.Many.2.1==0)&&(a.Many.2.2==0)))||((decide (1≤a.Many.1))&&((decide (a.Many.1≤a.Many.2.1))&&((decide (a.Many.2.1≤16))&&((decide (1≤a.Many.2.2))&&(decide (a.Many.2.2≤a.Many.2.1)))))))),.K [1,6] [1]] rfl ⟨(tc_ j),(congrArg V.b (orF e (Qb6 f (Qb6 g (Qb6 i (Qb6 j rfl))))))⟩ ?_
      exact AK.met rfl
     refine Qa hC [.S 37 (.b false),.n 7,.S 6 (.b (((a.Many.1==0)&&((a.Many.2.1==0)&&(a.Many.2.2==0)))||((decide (1≤a.Many.1))&&((decide (a.Many.1≤a.Many.2.1))&&((decide (a.Many.2.1≤16))&&((decide (1≤a.Many.2.2))&&(decide (a.Many.2.2≤a.Many.2.1)))))))),.K [1,6] [1]] rfl ⟨(tc_ j),(congrArg V.b (orF e (Qb6 f (Qb6 g (Qb6 i (Qd2 j rfl))))))⟩ ?_
     exact AK.met rfl
    refine Qa hC [.S 33 (.b false),.n 11,.S 6 (.b (((a.Many.1==0)&&((a.Many.2.1==0)&&(a.Many.2.2==0)))||((decide (1≤a.Many.1))&&((decide (a.Many.1≤a.Many.2.1))&&((decide (a.Many.2.1≤16))&&((decide (1≤a.Many.2.2))&&(decide (a.Many.2.2≤a.Many.2.1)))))))),.K [1,6] [1]] rfl ⟨(tc_ i),(congrArg V.b (orF e (Qb6 f (Qb6 g (Qd2 i rfl)))))⟩ ?_
    exact AK.met rfl
   refine Qa hC [.S 29 (.b false),.n 15,.S 6 (.b (((a.Many.1==0)&&((a.Many.2.1==0)&&(a.Many.2.2==0)))||((decide (1≤a.Many.1))&&((decide (a.Many.1≤a.Many.2.1))&&((decide (a.Many.2.1≤16))&&((decide (1≤a.Many.2.2))&&(decide (a.Many.2.2≤a.Many.2.1)))))))),.K [1,6] [1]] rfl ⟨(tc_ g),(congrArg V.b (orF e (Qb6 f (Qd2 g rfl))))⟩ ?_
   exact AK.met rfl
  refine Qa hC [.S 24 (.b false),.n 20,.S 6 (.b (((a.Many.1==0)&&((a.Many.2.1==0)&&(a.Many.2.2==0)))||((decide (1≤a.Many.1))&&((decide (a.Many.1≤a.Many.2.1))&&((decide (a.Many.2.1≤16))&&((decide (1≤a.Many.2.2))&&(decide (a.Many.2.2≤a.Many.2.1)))))))),.K [1,6] [1]] rfl ⟨(tc_ f),(congrArg V.b (orF e (Qd2 f rfl)))⟩ ?_
  exact AK.met rfl
 rintro σ rfl
 refine tg_ hC [.n 7] rfl ?_
 obtain⟨u,q,h⟩:=Qb h
 replace h:QiG u=some r:=h
 refine AK.meetX (fun σ=>σ=⟨[(2,.b u)],[]⟩) ?_ ?_
 ·replace h:=q
  obtain⟨w,s,h⟩:=Qb h
  refine Qa hC [.n 6,.o (.c false [.d,.d] (.b w)),.n 1] rfl ⟨tt_,(QnY _ _ s)⟩ ?_
  rcases Qr h with⟨k,h⟩|⟨k,h⟩
  ·obtain⟨x,t,h⟩:=Qb h
   refine Qa hC [.S 49 (.b true),.n 5,.o (.c false [.d,.d] (.b x)),.n 2] rfl ⟨(tc_ k),(QnY _ _ t)⟩ ?_
   refine bg_ h (fun l h=>Qa hC [.S 57 (.b true),.n 5] rfl (tc_ l) ?_) fun l h=>Qa hC [.S 57 (.b false),.n 14,.K [2] []] rfl (tc_ l) ?_
   ·refine bg_ h (fun m h=>Qa hC [.S 62 (.b true),.n 5] rfl (tc_ m) ?_) fun m h=>Qa hC [.S 62 (.b false),.n 9,.K [2] []] rfl (tc_ m) ?_
    ·refine bg_ h (fun p h=>Qa hC [.S 67 (.b true),.n 4,.K [2] []] rfl (tc_ p) ?_) fun p h=>Qa hC [.S 67 (.b false),.n 4,.K [2] []] rfl (tc_ p) ?_
     ·cases h
      exact AK.met rfl
     cases h
     exact AK.met rfl
    cases h
    exact AK.met rfl
   cases h
   exact AK.met rfl
  refine Qa hC [.S 49 (.b false),.n 22,.K [2] []] rfl (tc_ k) ?_
  cases h
  exact AK.met rfl
 rintro σ rfl
 replace h:QiG u=some r:=h
 refine tg_ hC [.n 2] rfl ?_
 cases h
 exact d1_ rfl rfl tt_
def QjM (a:QD):Option Bool:=
 (QiS a).bind fun b=>
 some b
theorem Qud (a){r}(h:QjM a=some r):Qc prog 198 [.loc 617 0 0] [(617,.var (Qh a))] (Gives (.b r) [(617,.var (Qh a))]):=by
 refine Qc.walk 4 func198 rfl rfl rfl fun C hC=>?_
 obtain⟨f,e,h⟩:=Qb h
 refine Qa hC [.n 7,.v .no [] (.agg (Qh a)),.o (.c false [.d] (.b f)),.n 4] rfl ⟨⟨tt_,rfl⟩,(QvU _ e)⟩ ?_
 cases h
 exact d1_ rfl rfl ⟨rfl,tt_⟩

end Go.Proofs
