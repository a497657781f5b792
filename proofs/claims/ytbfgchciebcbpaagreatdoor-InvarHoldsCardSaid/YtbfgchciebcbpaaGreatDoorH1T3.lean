/- What functions of the program do, as functions over plain data, and the walks that show it: printed by a program. -/
import Derived.Test.YtbfgchciebcbpaaGreatDoorH1T2
set_option linter.unusedVariables false
set_option linter.unusedSimpArgs false
set_option linter.unusedSectionVars false
set_option linter.deprecated false
set_option maxRecDepth 100000
set_option maxHeartbeats 4000000
noncomputable section
namespace Go.Proofs
open Go Go.RowKit Go.Vm Go.Proofs.Tryz
def Qkl (a:(Int×QP))(d:Qq):Option Bool:=
 (Qeo a.2.task.Join (a.2.task.Ins.length:Int) d.Ins).bind fun b=>
 bif (!b)then
 some true
 else
 (Qeo a.2.task.Split (a.2.task.Outs.length:Int) d.Outs).bind fun c=>
 some (!c)
def QfC (c:(Int×QP))(d:Qq)(e:Bool):Option Int:=
 bif e then
 some 11
 else
 (Qaq c.2 d.Ins).bind fun a=>
 bif (a != 0)then
 some a
 else
 (QaF c.2 d.Outs).bind fun b=>
 some b
def Qdi (b:(Int×QP))(c:Qq)(a:Int):Option Int:=
 bif (a != 0)then
 some a
 else
 (Qkl b c).bind (fun d=>QfC b c d)
def Qfg (d:Qk)(e:QMk)(b:Qq):Option Int:=
 (Qcq d e b.Task b.Vars).bind fun a=>
 bif (a.1==0)then
 (Qan a.2).bind fun c=>
 Qdi a b c
 else
 Qdi a b a.1
theorem Qxk (w G k){r}(h:Qfg w G k=some r):Qd prog 94 [.agg (Qe w),.sl 1 (G.map Qm),.agg (Qp k)] [] (Gives (.I r) []):=by
 refine Qd.walk 62 func94 rfl rfl rfl fun C hC=>?_
 obtain⟨a,x,h⟩:=Qc h
 refine Qa hC [.n 9,.v .no [] (.agg (Qe w)),.n 5,.o (.c false [.d,.d,.d,.d] (.tup [.agg (Qv a.2),.I a.1])),.n 5,.O 7 (.var (Qv a.2)),.n 3] rfl ⟨⟨⟨tt_,rfl⟩,(Qru _ _ _ _ x)⟩,rfl⟩ ?_
 refine AK.meet (fun σ=>∃e:Int,σ=⟨[(5,.loc 5 0 0),(7,.loc 7 0 0),(8,.I e)],[(5,.var (Qp k)),(7,.var (Qv a.2))]⟩∧Qdi a k e=some r) ?_ ?_
 ·refine tg_ hC [.n 6] rfl ?_
  rcases Qt h with⟨f,h⟩|⟨f,h⟩
  ·obtain⟨y,m,h⟩:=Qc h
   refine Qa hC [.T,.n 1,.v .no [] (.agg (Qv a.2)),.o (.c false [.d] (.I y)),.n 2,.K [5,7,8] [5,7]] rfl ⟨⟨⟨tt_,f⟩,rfl⟩,(QkQ _ m)⟩ ?_
   exact AK.met (ex_ _ (an_ rfl h))
  refine Qa hC [.F,.n 1,.K [5,7,8] [5,7]] rfl ⟨tt_,f⟩ ?_
  exact AK.met (ex_ _ (an_ rfl h))
 rintro σ ⟨e,rfl,h⟩
 refine tg_ hC [.n 7] rfl ?_
 refine bg_ h (fun l h=>Qa hC [.T,.n 8,.K [6] []] rfl ⟨tt_,l⟩ ?_) fun l h=>Qa hC [.F,.n 4] rfl ⟨tt_,l⟩ ?_
 ·cases h
  exact d1_ rfl rfl tt_
 obtain⟨z,p,h⟩:=Qc h
 replace h:QfC a k z=some r:=h
 refine AK.meetX (fun σ=>σ=⟨[(5,.loc 5 0 0),(7,.loc 7 0 0),(50,.b z)],[(5,.var (Qp k)),(7,.var (Qv a.2))]⟩) ?_ ?_
 ·replace h:=p
  obtain⟨A,q,h⟩:=Qc h
  refine Qa hC [.n 7,.o (.ln a.2.task.Ins.length),.n 2,.o (.c false [.d,.d,.d] (.b A)),.n 2] rfl ⟨⟨tt_,Qg⟩,(Qqy _ _ _ q)⟩ ?_
  rcases Qt h with⟨g,h⟩|⟨g,h⟩
  ·refine Qa hC [.S 38 (.b true),.n 13,.K [5,7,50] [5,7]] rfl (tc_ g) ?_
   cases h
   exact AK.met rfl
  obtain⟨B,s,h⟩:=Qc h
  refine Qa hC [.S 38 (.b false),.n 6,.o (.ln a.2.task.Outs.length),.n 2,.o (.c false [.d,.d,.d] (.b B)),.n 3,.K [5,7,50] [5,7]] rfl ⟨⟨(tc_ g),Qg⟩,(Qqy _ _ _ s)⟩ ?_
  cases h
  exact AK.met rfl
 rintro σ rfl
 replace h:QfC a k z=some r:=h
 refine tg_ hC [.n 1] rfl ?_
 rcases Qt h with⟨i,h⟩|⟨i,h⟩
 ·refine Qa hC [.T,.n 7] rfl ⟨tt_,i⟩ ?_
  cases h
  exact d1_ rfl rfl tt_
 obtain⟨D,t,h⟩:=Qc h
 refine Qa hC [.F,.n 5,.v .no [] (.agg (Qv a.2)),.n 2,.o (.c false [.d,.d] (.I D)),.n 9] rfl ⟨⟨⟨tt_,i⟩,rfl⟩,(Qmn _ _ t)⟩ ?_
 rcases Qt h with⟨j,h⟩|⟨j,h⟩
 ·refine Qa hC [.T,.n 8] rfl ⟨tt_,j⟩ ?_
  cases h
  exact d1_ rfl rfl tt_
 obtain⟨E,u,h⟩:=Qc h
 refine Qa hC [.F,.n 4,.v .no [] (.agg (Qv a.2)),.n 2,.o (.c false [.d,.d] (.I E)),.n 4] rfl ⟨⟨⟨tt_,j⟩,rfl⟩,(Qme _ _ u)⟩ ?_
 cases h
 exact d1_ rfl rfl tt_
def QgP (c:Qk)(b:Qq):Option (QMk×Int):=
 (QfZ c b.Task b.Vars).bind fun d=>
 bif (d.2 != 0)then
 some (([]:List QBg),d.2)
 else
 (idx c.Tasks b.Task).bind fun e=>
 (Qc5 c e.Ins b.Ins d.1).bind fun a=>
 some (a.1,a.2)
theorem Qxl (g k){r}(h:QgP g k=some r):Qd prog 95 [.agg (Qe g),.agg (Qp k)] [] (Gives (.tup [.sl 1 (r.1.map Qm),.I r.2]) []):=by
 refine Qd.walk 34 func95 rfl rfl rfl fun C hC=>?_
 obtain⟨l,i,h⟩:=Qc h
 refine Qa hC [.n 10,.v .no [] (.agg (Qe g)),.n 4,.o (.c false [.d,.d,.d] (.tup [.sl 1 (l.1.map Qb),.I l.2])),.n 14] rfl ⟨⟨tt_,rfl⟩,(QoX _ _ _ i)⟩ ?_
 rcases Qt h with⟨b,h⟩|⟨b,h⟩
 ·refine Qa hC [.T,.n 9,.denil 4 [some 1]] rfl ⟨tt_,b⟩ ?_
  cases h
  exact d2_ rfl rfl rfl tt_
 obtain⟨p,j,h⟩:=Qc h
 obtain⟨e,f,h⟩:=Qc h
 refine Qa hC [.F,.n 3,.K [2,3,4,5,6] [2,3]] rfl ⟨tt_,b⟩ ?_
 refine AK.draw2 Qs hC mixed [.a .no (some ([],.agg (Qe g))) false,.N,.N,.N,.N,.a (.row (Qh p)) none false,.N,.N,.N,.N,.N,.a (.c false [.d,.d,.d,.d] (.tup [.sl 1 (e.1.map Qm),.I e.2])) none false,.N,.N,.m .s,.m .s] [] [] [4,5] [] rfl rfl rfl ⟨⟨⟨tt_,rfl⟩,(QJ j)⟩,(QgN _ _ _ _ f)⟩ rfl (by kernel_rfl) rfl rfl rfl ?_
 refine tg_ hC [.n 2] rfl ?_
 cases h
 exact d2_ rfl rfl rfl tt_
def QtJ (a:Unit):Option (QBg×Int):=
 some (([]:List (Int×Int)),1)
def QtK (a:QBg):Option (QBg×Int):=
 some (([]:List (Int×Int)),1)
def QtL (a:QBg):Option (QBg×Int):=
 some (([]:List (Int×Int)),1)
noncomputable def Qhi (m16:QBg)(k18:Int)(v19:Int):Option (QBg⊕Empty):=
 some (.inl (QaT ltI m16 k18 (w64 (((QR m16 k18).getD 0)-v19))))
def Qo0 (a:QBg):Option (QBg×Int):=
 (QeU a).bind fun b=>
 some (b,0)
noncomputable def Qo1 (a11:(QBg×QBg)):Option (QBg×Int):=
 (QeM a11.2 a11.1).bind fun x12=>
 bif (!x12)then
 some (([]:List (Int×Int)),10)
 else
 (QcJ (fun st p=>Qhi st p.1 p.2) a11.1 a11.2).bind (Sum.elim (fun q=>Qo0 q) (fun q=>Empty.elim q))
def Qcn (a:QBg)(b:QBg):Option (QBg×Int):=
 (QlK a b).bind (Sum.elim (fun q=>QtJ q) (Sum.elim (fun q=>QtK q) (Sum.elim (fun q=>QtL q) (fun q=>Qo1 q))))
theorem Qy6 (N O){r}(h:Qcn N O=some r):Qd prog 97 [.sl 2 (N.map QK),.sl 2 (O.map QK)] [] (Gives (.tup [.sl 2 (r.1.map QK),.I r.2]) []):=by
 refine Qd.walk 40 func97 rfl rfl rfl fun C hC=>?_
 obtain⟨W,u,h⟩:=Qc h
 refine tg_ hC [.n 10] rfl ?_
 rcases W with(X | (P | (D | g)))
 ·replace h:QtJ X=some r:=h
  refine Qa hC [.cm (.fn) [] [] [] [.d,.d] [] (.tup [.lit (.map none),.lit (.map none),.b false]),.n 28,.denil 4 [some 2]] rfl ⟨tt_,(QbZ _ _ u)⟩ ?_
  cases h
  exact d2_ rfl rfl rfl tt_
 ·replace h:QtK P=some r:=h
  refine Qa hC [.cm (.fn) [] [(14,603)] [] [.d,.d] [(603,.map (QB V.I V.I P))] (.tup [.lit (.map none),.map 603,.b false]),.n 28,.denil 4 [some 2]] rfl ⟨tt_,(QbZ _ _ u)⟩ ?_
  cases h
  exact d2_ rfl rfl rfl tt_
 ·replace h:QtL D=some r:=h
  refine Qa hC [.cm (.fn) [] [(14,602)] [] [.d,.d] [(602,.map (QB V.I V.I D))] (.tup [.map 602,.lit (.map none),.b false]),.n 28,.denil 4 [some 2]] rfl ⟨tt_,(QbZ _ _ u)⟩ ?_
  cases h
  exact d2_ rfl rfl rfl tt_
 replace h:Qo1 g=some r:=h
 obtain⟨J,E,h⟩:=Qc h
 refine Qa hC [.cm (.fn) [] [(14,602),(608,603)] [] [.d,.d] [(602,.map (QB V.I V.I g.1)),(603,.map (QB V.I V.I g.2))] (.tup [.map 602,.map 603,.b true]),.n 23,.cm (.fn) [(615,608),(616,14)] [(608,615),(14,616)] [] [.d,.d] [(615,.map (QB V.I V.I g.2)),(616,.map (QB V.I V.I g.1))] (.b J),.n 4] rfl ⟨⟨tt_,(QbZ _ _ u)⟩,(Qmj _ _ E)⟩ ?_
 refine bg_ h (fun i h=>Qa hC [.T,.n 9,.denil 4 [some 2],.K [4,5] []] rfl ⟨tt_,i⟩ ?_) fun i h=>Qa hC [.F,.n 7] rfl ⟨tt_,i⟩ ?_
 ·cases h
  exact d2_ rfl rfl rfl tt_
 refine AK.openMapK (b:=608) Qes rfl fun j s L14 y L A=>?_
 refine Qa hC [.x (fun σ=>(σ.set 27 (.itr j s #[] none)).put 27 (.loc 27 0 0)),.n 3,.K [6,27] [14,27,608]] rfl ⟨tt_,(Stp.range (b:=608) rfl rfl (QH hC.n rfl) rfl rfl Qhp rfl)⟩ ?_
 obtain⟨M,G,h⟩:=Qc h
 refine AK.range (body:=(fun st p=>Qhi st p.1 p.2)) (fun st seen σ=>∃cur:Option Nat,σ=⟨[(6,.map 14),(27,.loc 27 0 0)],[(14,.map (QB V.I V.I st)),(27,.itr j s seen cur),(608,.mapX j s (Qbx V.I V.I L14) (QB V.I V.I g.2))]⟩) (fun (q:Empty) _ _=>False) (fun st e σ=>e=.exit 1∧σ=⟨[(6,.map 14)],[(14,.map (QB V.I V.I st))]⟩) y A G (ex_ _ rfl) ?_ ?_
 ·rintro a seen σ ⟨cur,rfl⟩ hex
  refine tg_ hC [.n 2] rfl ?_
  refine AK.nextT (b:=27) (m:=608) rfl rfl rfl (QH hC.n rfl) rfl rfl rfl rfl ?_ ?_
  ·intro hleft
   refine tg_ hC [.n 7,.K [6] [14]] rfl ?_
   exact AK.done (Or.inl (an_ hleft (an_ (fun h=>(by cases h)) (an_ rfl rfl))))
  intro S c w t
  obtain⟨o,h⟩:=hex _ t
  have ho:=h
  replace h:Qhi a c w=some o:=h
  refine Qa hC [.n 10,.x (fun σ=>σ.put 30 (.tup [.I c,.I w])),.n 9,.o (.any (.I ((QR a c).getD 0)) none),.n 2,.x (fun σ=>σ.set 14 (.map (QB V.I V.I (QaT ltI a c (w64 (((QR a c).getD 0)-w)))))),.n 2,.K [6,27] [14,27,608]] rfl ⟨⟨⟨tt_,(Stp.entryT (b:=27) (m:=608) (e:=V.I) (f:=V.I) rfl rfl (QH hC.n rfl) rfl t rfl rfl)⟩,(fun σ U Y _=>Stp.lookup (e:=V.I) (f:=V.I) (l:=a) (k:=c) (z:=0) rfl rfl (QH hC.n rfl) (U _ _ rfl) (Y _ _ rfl) (U _ _ rfl) Qhp Qes Qwf rfl)⟩,(Stp.mapUpdate (e:=V.I) (f:=V.I) (l:=a) (k:=c) (v:=(w64 (((QR a c).getD 0)-w))) ltI rfl rfl rfl rfl rfl rfl Qhp Qes rfl)⟩ ?_
  cases h
  exact AK.done (Or.inr (ex_ _ (an_ t (Or.inl (ex_ _ (an_ ho (an_ rfl (ex_ _ rfl))))))))
 rcases M with(a | q)
 ·replace h:Qo0 a=some r:=h
  rintro e σ ⟨rfl,rfl⟩
  obtain⟨B,H,h⟩:=Qc h
  refine Qa hC [.n 5,.cm (.fn) [(615,14)] [(39,600),(14,615)] [] [.d] [(600,.arr 2 (B.map QK)),(615,.map (QB V.I V.I a))] (.own 600 B.length),.n 5,.frz 39 (B.map QK) [4] []] rfl ⟨⟨tt_,(QjF _ H)⟩,⟨tt_,(QcD Qg)⟩⟩ ?_
  cases h
  exact d2_ rfl rfl rfl tt_
 exact q.elim
def QeW (f:QMk)(g:QMk)(c:Int)(a:QMk):Option ((Int×QMk)⊕(Int⊕QMk)):=
 bif (decide (c<((List.replicate (min2 (f.length:Int) (g.length:Int)).toNat (([]:QBg):QBg)).length:Int)))then
 (idx f c).bind fun d=>
 (idx g c).bind fun e=>
 (Qcn d e).bind fun b=>
 (idx a c).bind fun h=>
 bif (b.2 != 0)then
 some (.inr (.inl b.2))
 else
 some (.inl ((w64 (c+1)),(a.set c.toNat b.1)))
 else
 some (.inr (.inr a))
def Qqz (a:Int):Option (QMk×Int):=
 some (([]:List QBg),a)
def QqA (a:QMk):Option (QMk×Int):=
 some (a,0)
def QfL (a:QMk)(b:QMk):Option (QMk×Int):=
 (chk (decide (0≤(min2 (a.length:Int) (b.length:Int)))&&decide ((min2 (a.length:Int) (b.length:Int))≤(min2 (a.length:Int) (b.length:Int)))&&decide ((min2 (a.length:Int) (b.length:Int))≤4294967296))).bind fun _=>
 (QD (fun st=>QeW a b st.1 st.2) (0,(List.replicate (min2 (a.length:Int) (b.length:Int)).toNat (([]:QBg):QBg)))).bind (Sum.elim (fun q=>Qqz q) (fun q=>QqA q))
theorem Qww (k l){r}(h:QfL k l=some r):Qd prog 96 [.sl 1 (k.map Qm),.sl 1 (l.map Qm),.clo (.func 97) [] []] [] (Gives (.tup [.sl 1 (r.1.map Qm),.I r.2]) []):=by
 refine Qd.walk 43 func96 rfl rfl rfl fun C hC=>?_
 obtain⟨A,h⟩:=QaE h
 refine Qa hC [.n 9,.o (.ln k.length),.n 1,.o (.ln l.length),.n 1,.o (.rows (List.replicate (min2 (k.length:Int) (l.length:Int)).toNat [.lit (.slice none 0 0)]))] rfl ⟨⟨⟨tt_,Qg⟩,Qg⟩,⟨A,rfl⟩⟩ ?_
 refine AK.denilA (b:=16) [some 2] rfl (QzM (f:=Qm) (x:=([]:QBg)) rfl) ?_
 refine Qa hC [.S 16 (.own 16 (List.replicate (min2 (k.length:Int) (l.length:Int)).toNat (([]:QBg):QBg)).length),.n 12,.K [0,1,2,8,18,19] [16]] rfl ⟨tt_,(by simp)⟩ ?_
 obtain⟨B,t,h⟩:=Qc h
 refine AK.loop (body:=(fun st=>QeW k l st.1 st.2)) (fun st σ=>σ=⟨[(0,.sl 1 (k.map Qm)),(1,.sl 1 (l.map Qm)),(2,.clo (.func 97) [] []),(8,.own 16 st.2.length),(18,.I ((List.replicate (min2 (k.length:Int) (l.length:Int)).toNat (([]:QBg):QBg)).length:Int)),(19,.I st.1)],[(16,.arr 1 (st.2.map Qm))]⟩) (Sum.elim (fun q e σ=>e=.ret∧σ=⟨[(6,.lit (.slice none 0 0)),(7,.I q)],[]⟩) (fun q e σ=>e=.exit 0∧σ=⟨[(8,.own 16 q.length)],[(16,.arr 1 (q.map Qm))]⟩)) t rfl ?_ ?_
 ·rintro ⟨J,u⟩ o σ rfl h
  refine tg_ hC [.n 6] rfl ?_
  rcases Qt h with⟨g,h⟩|⟨g,h⟩
  ·obtain⟨D,v,h⟩:=Qc h
   obtain⟨E,w,h⟩:=Qc h
   obtain⟨j,y,h⟩:=Qc h
   obtain⟨G,p,h⟩:=Qc h
   refine Qa hC [.T,.n 16,.K [0,1,2,8,9,10,18,19] [16]] rfl ⟨tt_,g⟩ ?_
   refine AK.draw2 Qs hC mixed [.N,.N,.N,.N,.N,.a (.row (Qm D)) none false,.N,.N,.N,.a (.row (Qm E)) none false,.N,.a (.c false [.d,.d] (.tup [.sl 2 (j.1.map QK),.I j.2])) none false,.a .no none true true,.N,.a .no none true,.N,.m (.st (Qm G) ((u.set J.toNat j.1).map Qm)),.m .s] [0,1,2,8,9,10,18,19] [] [0,1,2,8,10,18,19] [16] rfl rfl rfl ⟨⟨⟨⟨⟨tt_,(QJ v)⟩,(QJ w)⟩,(Qy6 _ _ y)⟩,(QbB p rfl)⟩,⟨(QaL (Qcg p).2),QeJ rfl⟩⟩ rfl (by kernel_rfl) rfl rfl rfl ?_
   refine tg_ hC [.n 7] rfl ?_
   refine bg_ h (fun i h=>Qa hC [.T,.n 10,.K [6,7] []] rfl ⟨tt_,i⟩ ?_) fun i h=>Qa hC [.F,.n 7,.S 8 (.own 16 (u.set J.toNat j.1).length),.K [0,1,2,8,18,19] [16]] rfl ⟨⟨tt_,i⟩,(congrArg (fun n=>V.own 16 n) (by simp))⟩ ?_
   ·cases h
    exact Qam rfl (an_ rfl rfl)
   cases h
   exact QZ rfl rfl
  refine Qa hC [.F,.n 2,.K [8] [16]] rfl ⟨tt_,g⟩ ?_
  cases h
  exact Q1 rfl (an_ rfl rfl)
 rcases B with(H | z)
 ·replace h:Qqz H=some r:=h
  rintro e σ ⟨rfl,rfl⟩
  refine tg_ hC [.n 2,.denil 6 [some 1]] rfl ?_
  cases h
  exact d2_ rfl rfl rfl tt_
 replace h:QqA z=some r:=h
 rintro e σ ⟨rfl,rfl⟩
 refine Qa hC [.n 10,.frz 16 (z.map Qm) [6] []] rfl ⟨tt_,⟨tt_,(QcD Qg)⟩⟩ ?_
 cases h
 exact d2_ rfl rfl rfl tt_
def QhL (c:Qk)(d:QMk)(e:Qq):Option (QMk×Int):=
 (Qfg c d e).bind fun f=>
 bif (f != 0)then
 some (([]:List QBg),f)
 else
 (QgP c e).bind fun a=>
 bif (a.2 != 0)then
 some (([]:List QBg),a.2)
 else
 (QfL d a.1).bind fun b=>
 some (b.1,b.2)
theorem Qye (j m k){r}(h:QhL j m k=some r):Qd prog 59 [.agg (Qe j),.sl 1 (m.map Qm),.agg (Qp k)] [] (Gives (.tup [.sl 1 (r.1.map Qm),.I r.2]) []):=by
 refine Qd.walk 32 func59 rfl rfl rfl fun C hC=>?_
 obtain⟨p,l,h⟩:=Qc h
 refine Qa hC [.n 11,.v .no [] (.agg (Qe j)),.n 1,.v .no [] (.agg (Qp k)),.o (.c false [.d,.d,.d] (.I p)),.n 9] rfl ⟨⟨⟨tt_,rfl⟩,rfl⟩,(Qxk _ _ _ l)⟩ ?_
 rcases Qt h with⟨b,h⟩|⟨b,h⟩
 ·refine Qa hC [.T,.n 9,.denil 6 [some 1]] rfl ⟨tt_,b⟩ ?_
  cases h
  exact d2_ rfl rfl rfl tt_
 obtain⟨e,f,h⟩:=Qc h
 refine Qa hC [.F,.n 4,.v .no [] (.agg (Qe j)),.v .no [] (.agg (Qp k)),.o (.c false [.d,.d] (.tup [.sl 1 (e.1.map Qm),.I e.2])),.n 14] rfl ⟨⟨⟨⟨tt_,b⟩,rfl⟩,rfl⟩,(Qxl _ _ f)⟩ ?_
 rcases Qt h with⟨a,h⟩|⟨a,h⟩
 ·refine Qa hC [.T,.n 9,.denil 6 [some 1]] rfl ⟨tt_,a⟩ ?_
  cases h
  exact d2_ rfl rfl rfl tt_
 obtain⟨g,i,h⟩:=Qc h
 refine Qa hC [.F,.n 6,.cm (.fn) [] [] [] [.d,.d,.d] [] (.tup [.sl 1 (g.1.map Qm),.I g.2]),.n 7] rfl ⟨⟨tt_,a⟩,(Qww _ _ i)⟩ ?_
 cases h
 exact d2_ rfl rfl rfl tt_
def QgQ (c:Qk)(b:Qq):Option (QMk×Int):=
 (QfZ c b.Task b.Vars).bind fun d=>
 bif (d.2 != 0)then
 some (([]:List QBg),d.2)
 else
 (idx c.Tasks b.Task).bind fun e=>
 (Qc5 c e.Outs b.Outs d.1).bind fun a=>
 some (a.1,a.2)
theorem Qxm (g k){r}(h:QgQ g k=some r):Qd prog 98 [.agg (Qe g),.agg (Qp k)] [] (Gives (.tup [.sl 1 (r.1.map Qm),.I r.2]) []):=by
 refine Qd.walk 34 func98 rfl rfl rfl fun C hC=>?_
 obtain⟨l,i,h⟩:=Qc h
 refine Qa hC [.n 10,.v .no [] (.agg (Qe g)),.n 4,.o (.c false [.d,.d,.d] (.tup [.sl 1 (l.1.map Qb),.I l.2])),.n 14] rfl ⟨⟨tt_,rfl⟩,(QoX _ _ _ i)⟩ ?_
 rcases Qt h with⟨b,h⟩|⟨b,h⟩
 ·refine Qa hC [.T,.n 9,.denil 4 [some 1]] rfl ⟨tt_,b⟩ ?_
  cases h
  exact d2_ rfl rfl rfl tt_
 obtain⟨p,j,h⟩:=Qc h
 obtain⟨e,f,h⟩:=Qc h
 refine Qa hC [.F,.n 3,.K [2,3,4,5,6] [2,3]] rfl ⟨tt_,b⟩ ?_
 refine AK.draw2 Qs hC mixed [.a .no (some ([],.agg (Qe g))) false,.N,.N,.N,.N,.a (.row (Qh p)) none false,.N,.N,.N,.N,.N,.a (.c false [.d,.d,.d,.d] (.tup [.sl 1 (e.1.map Qm),.I e.2])) none false,.N,.N,.m .s,.m .s] [] [] [4,5] [] rfl rfl rfl ⟨⟨⟨tt_,rfl⟩,(QJ j)⟩,(QgN _ _ _ _ f)⟩ rfl (by kernel_rfl) rfl rfl rfl ?_
 refine tg_ hC [.n 2] rfl ?_
 cases h
 exact d2_ rfl rfl rfl tt_
def QbY (a:QMk):Option QMk:=
 (chk (decide ((([]:List QBg).length+a.length)*24≤140737488355328))).bind fun _=>
 some (([]:List QBg)++a)
theorem Qkr (a){r}(h:QbY a=some r):Qd prog 100 [.sl 1 (a.map Qm)] [] (Gives (.own 600 r.length) [(600,.arr 1 (r.map Qm))]):=by
 refine Qd.walk 8 func100 rfl rfl rfl fun C hC=>?_
 unfold QbY at h
 refine tg_ hC [.n 9] rfl ?_
 refine AK.eqNil rfl rfl rfl (QH hC.n rfl) rfl rfl QFC ?_ ?_
 ·intro b
  replace h:some ([]:List QBg)=some r:=by simpa [chk,List.map_eq_nil_iff.1 b] using h
  refine Qa hC [.n 10,.adopt 2 600 1,.O 600 (.arr 1 (([]:List QBg).map Qm)),.S 2 (.own 600 ([]:List QBg).length)] rfl ⟨⟨tt_,rfl⟩,rfl⟩ ?_
  cases h
  exact d1_ rfl rfl ⟨rfl,tt_⟩
 obtain⟨c,h⟩:=QaE h
 refine Qa hC [.n 8,.O 5 (.arr 1 (([]:List QBg).map Qm)),.S 5 (.own 5 ([]:List QBg).length),.n 1,.x (fun σ=>σ.app 5 1 7 (([]:List QBg)++a).length ((([]:List QBg)++a).map Qm)),.n 4,.K [2] [5],.ren 5 600] rfl ⟨⟨⟨tt_,rfl⟩,rfl⟩,(Stp.appSB (by_:=24) (zs:=[.lit (.slice none 0 0)]) (e:=59) (e':=59) (z':=1) (by':=24) rfl rfl (QH hC.n rfl) rfl rfl rfl Qg (by kernel_rfl) (by kernel_rfl) (by kernel_rfl) rfl (by decide) (by decide) (Qvr c Qg) rfl Qc8 (QfU Qg))⟩ ?_
 cases h
 exact d1_ rfl rfl ⟨rfl,tt_⟩
def Qdc (a:QBg):Option QBg:=
 (chk (decide ((([]:List (Int×Int)).length+a.length)*16≤140737488355328))).bind fun _=>
 some (([]:List (Int×Int))++a)
theorem Qnb (a){r}(h:Qdc a=some r):Qd prog 101 [.sl 2 (a.map QK)] [] (Gives (.own 600 r.length) [(600,.arr 2 (r.map QK))]):=by
 refine Qd.walk 8 func101 rfl rfl rfl fun C hC=>?_
 unfold Qdc at h
 refine tg_ hC [.n 9] rfl ?_
 refine AK.eqNil rfl rfl rfl (QH hC.n rfl) rfl rfl QFE ?_ ?_
 ·intro b
  replace h:some ([]:List (Int×Int))=some r:=by simpa [chk,List.map_eq_nil_iff.1 b] using h
  refine Qa hC [.n 10,.adopt 2 600 2,.O 600 (.arr 2 (([]:List (Int×Int)).map QK)),.S 2 (.own 600 ([]:List (Int×Int)).length)] rfl ⟨⟨tt_,rfl⟩,rfl⟩ ?_
  cases h
  exact d1_ rfl rfl ⟨rfl,tt_⟩
 obtain⟨c,h⟩:=QaE h
 refine Qa hC [.n 8,.O 5 (.arr 2 (([]:List (Int×Int)).map QK)),.S 5 (.own 5 ([]:List (Int×Int)).length),.n 1,.x (fun σ=>σ.app 5 2 7 (([]:List (Int×Int))++a).length ((([]:List (Int×Int))++a).map QK)),.n 4,.K [2] [5],.ren 5 600] rfl ⟨⟨⟨tt_,rfl⟩,rfl⟩,(Stp.appSB (by_:=16) (zs:=[.I 0,.I 0]) (e:=61) (e':=61) (z':=2) (by':=16) rfl rfl (QH hC.n rfl) rfl rfl rfl Qg (by kernel_rfl) (by kernel_rfl) (by kernel_rfl) rfl (by decide) (by decide) (Qvr c Qg) rfl Qc8 (QfU Qg))⟩ ?_
 cases h
 exact d1_ rfl rfl ⟨rfl,tt_⟩
def Qis (e:QMk)(a:Int)(b:QMk):Option ((Int×QMk)⊕QMk):=
 bif (decide (a<(e.length:Int)))then
 (idx b a).bind fun c=>
 (Qdc c).bind fun d=>
 (idx b a).bind fun f=>
 some (.inl ((w64 (a+1)),(b.set a.toNat d)))
 else
 some (.inr b)
def Qsv (a:QMk):Option QMk:=
 some a
def Qoz (b:QMk):Option QMk:=
 (QbY b).bind fun a=>
 (QD (fun st=>Qis a st.1 st.2) (0,a)).bind (fun q=>Qsv q)
theorem Qyf (t){r}(h:Qoz t=some r):Qd prog 61 [.sl 1 (t.map Qm)] [] (Gives (.own 600 r.length) [(600,.arr 1 (r.map Qm))]):=by
 refine Qd.walk 22 func61 rfl rfl rfl fun C hC=>?_
 obtain⟨j,k,h⟩:=Qc h
 refine Qa hC [.n 8,.o (.co false [.d] 1 (j.map Qm) j.length),.n 12,.K [3,8,9,10] [7]] rfl ⟨tt_,⟨(Qkr _ k),Qg,.inl rfl⟩⟩ ?_
 obtain⟨u,g,h⟩:=Qc h
 refine AK.loop (body:=(fun st=>Qis j st.1 st.2)) (fun st σ=>σ=⟨[(3,.own 7 st.2.length),(8,.own 7 st.2.length),(9,.I (j.length:Int)),(10,.I st.1)],[(7,.arr 1 (st.2.map Qm))]⟩) (fun q e σ=>e=.exit 0∧σ=⟨[(3,.own 7 q.length)],[(7,.arr 1 (q.map Qm))]⟩) g rfl ?_ ?_
 ·rintro ⟨l,m⟩ o σ rfl h
  refine tg_ hC [.n 6] rfl ?_
  rcases Qt h with⟨b,h⟩|⟨b,h⟩
  ·obtain⟨p,c,h⟩:=Qc h
   obtain⟨a,i,h⟩:=Qc h
   obtain⟨s,f,h⟩:=Qc h
   refine Qa hC [.T,.n 8,.o (.row (Qm p)),.n 8,.o (.co false [.d] 2 (a.map QK) a.length),.n 1,.frz 18 (a.map QK) [18] [],.st (Qm s) ((m.set l.toNat a).map Qm),.n 7,.S 3 (.own 7 (m.set l.toNat a).length),.S 8 (.own 7 (m.set l.toNat a).length),.K [3,8,9,10] [7]] rfl ⟨⟨⟨⟨⟨⟨⟨⟨⟨tt_,b⟩,(QbB c rfl)⟩,(QaL (Qcg c).2)⟩,⟨(Qnb _ i),Qg,.inl rfl⟩⟩,(QbB f rfl)⟩,⟨tt_,(QcD Qg)⟩⟩,⟨(QaL (Qcg f).2),QeJ rfl⟩⟩,(congrArg (fun n=>V.own 7 n) (by simp))⟩,(congrArg (fun n=>V.own 7 n) (by simp))⟩ ?_
   cases h
   exact QZ rfl rfl
  refine Qa hC [.F,.n 2,.K [3] [7]] rfl ⟨tt_,b⟩ ?_
  cases h
  exact Q1 rfl (an_ rfl rfl)
 replace h:Qsv u=some r:=h
 rintro e σ ⟨rfl,rfl⟩
 refine tg_ hC [.n 9,.K [2] [7],.ren 7 600] rfl ?_
 cases h
 exact d1_ rfl rfl ⟨rfl,tt_⟩
def Qdk (f:QMk)(g:QMk)(c:Int)(a:QMk):Option ((Int×QMk)⊕(Int⊕QMk)):=
 bif (decide (c<((List.replicate (min2 (f.length:Int) (g.length:Int)).toNat (([]:QBg):QBg)).length:Int)))then
 (idx f c).bind fun d=>
 (idx g c).bind fun e=>
 (QbU d e).bind fun b=>
 (idx a c).bind fun h=>
 bif (b.2 != 0)then
 some (.inr (.inl b.2))
 else
 some (.inl ((w64 (c+1)),(a.set c.toNat b.1)))
 else
 some (.inr (.inr a))
def Qn0 (a:Int):Option (QMk×Int):=
 some (([]:List QBg),a)
def Qn1 (a:QMk):Option (QMk×Int):=
 some (a,0)
def QdC (a:QMk)(b:QMk):Option (QMk×Int):=
 (chk (decide (0≤(min2 (a.length:Int) (b.length:Int)))&&decide ((min2 (a.length:Int) (b.length:Int))≤(min2 (a.length:Int) (b.length:Int)))&&decide ((min2 (a.length:Int) (b.length:Int))≤4294967296))).bind fun _=>
 (QD (fun st=>Qdk a b st.1 st.2) (0,(List.replicate (min2 (a.length:Int) (b.length:Int)).toNat (([]:QBg):QBg)))).bind (Sum.elim (fun q=>Qn0 q) (fun q=>Qn1 q))
theorem Qt2 (k l){r}(h:QdC k l=some r):Qd prog 96 [.sl 1 (k.map Qm),.sl 1 (l.map Qm),.clo (.func 99) [] []] [] (Gives (.tup [.sl 1 (r.1.map Qm),.I r.2]) []):=by
 refine Qd.walk 43 func96 rfl rfl rfl fun C hC=>?_
 obtain⟨A,h⟩:=QaE h
 refine Qa hC [.n 9,.o (.ln k.length),.n 1,.o (.ln l.length),.n 1,.o (.rows (List.replicate (min2 (k.length:Int) (l.length:Int)).toNat [.lit (.slice none 0 0)]))] rfl ⟨⟨⟨tt_,Qg⟩,Qg⟩,⟨A,rfl⟩⟩ ?_
 refine AK.denilA (b:=16) [some 2] rfl (QzM (f:=Qm) (x:=([]:QBg)) rfl) ?_
 refine Qa hC [.S 16 (.own 16 (List.replicate (min2 (k.length:Int) (l.length:Int)).toNat (([]:QBg):QBg)).length),.n 12,.K [0,1,2,8,18,19] [16]] rfl ⟨tt_,(by simp)⟩ ?_
 obtain⟨B,t,h⟩:=Qc h
 refine AK.loop (body:=(fun st=>Qdk k l st.1 st.2)) (fun st σ=>σ=⟨[(0,.sl 1 (k.map Qm)),(1,.sl 1 (l.map Qm)),(2,.clo (.func 99) [] []),(8,.own 16 st.2.length),(18,.I ((List.replicate (min2 (k.length:Int) (l.length:Int)).toNat (([]:QBg):QBg)).length:Int)),(19,.I st.1)],[(16,.arr 1 (st.2.map Qm))]⟩) (Sum.elim (fun q e σ=>e=.ret∧σ=⟨[(6,.lit (.slice none 0 0)),(7,.I q)],[]⟩) (fun q e σ=>e=.exit 0∧σ=⟨[(8,.own 16 q.length)],[(16,.arr 1 (q.map Qm))]⟩)) t rfl ?_ ?_
 ·rintro ⟨J,u⟩ o σ rfl h
  refine tg_ hC [.n 6] rfl ?_
  rcases Qt h with⟨g,h⟩|⟨g,h⟩
  ·obtain⟨D,v,h⟩:=Qc h
   obtain⟨E,w,h⟩:=Qc h
   obtain⟨j,y,h⟩:=Qc h
   obtain⟨G,p,h⟩:=Qc h
   refine Qa hC [.T,.n 16,.K [0,1,2,8,9,10,18,19] [16]] rfl ⟨tt_,g⟩ ?_
   refine AK.draw2 Qs hC mixed [.N,.N,.N,.N,.N,.a (.row (Qm D)) none false,.N,.N,.N,.a (.row (Qm E)) none false,.N,.a (.c false [.d,.d] (.tup [.sl 2 (j.1.map QK),.I j.2])) none false,.a .no none true true,.N,.a .no none true,.N,.m (.st (Qm G) ((u.set J.toNat j.1).map Qm)),.m .s] [0,1,2,8,9,10,18,19] [] [0,1,2,8,10,18,19] [16] rfl rfl rfl ⟨⟨⟨⟨⟨tt_,(QJ v)⟩,(QJ w)⟩,(QuP _ _ y)⟩,(QbB p rfl)⟩,⟨(QaL (Qcg p).2),QeJ rfl⟩⟩ rfl (by kernel_rfl) rfl rfl rfl ?_
   refine tg_ hC [.n 7] rfl ?_
   refine bg_ h (fun i h=>Qa hC [.T,.n 10,.K [6,7] []] rfl ⟨tt_,i⟩ ?_) fun i h=>Qa hC [.F,.n 7,.S 8 (.own 16 (u.set J.toNat j.1).length),.K [0,1,2,8,18,19] [16]] rfl ⟨⟨tt_,i⟩,(congrArg (fun n=>V.own 16 n) (by simp))⟩ ?_
   ·cases h
    exact Qam rfl (an_ rfl rfl)
   cases h
   exact QZ rfl rfl
  refine Qa hC [.F,.n 2,.K [8] [16]] rfl ⟨tt_,g⟩ ?_
  cases h
  exact Q1 rfl (an_ rfl rfl)
 rcases B with(H | z)
 ·replace h:Qn0 H=some r:=h
  rintro e σ ⟨rfl,rfl⟩
  refine tg_ hC [.n 2,.denil 6 [some 1]] rfl ?_
  cases h
  exact d2_ rfl rfl rfl tt_
 replace h:Qn1 z=some r:=h
 rintro e σ ⟨rfl,rfl⟩
 refine Qa hC [.n 10,.frz 16 (z.map Qm) [6] []] rfl ⟨tt_,⟨tt_,(QcD Qg)⟩⟩ ?_
 cases h
 exact d2_ rfl rfl rfl tt_
def QeX (a:Int)(b:QMk):Option ((Int×QMk)⊕QMk):=
 some (.inl ((w64 (a+1)),b))
def Qgg (d:Qy)(b:Int)(a:QMk):Option ((Int×QMk)⊕QMk):=
 bif (decide (b<(d.Cancel.length:Int)))then
 (idx d.Cancel b).bind fun c=>
 bif ((decide (0≤c))&&(decide (c<(a.length:Int))))then
 (idx a c).bind fun e=>
 QeX b (a.set c.toNat ([]:List (Int×Int)))
 else
 QeX b a
 else
 some (.inr a)
def Qgh (c:(QMk×Int))(b:QMk):Option (QMk×Int):=
 (QdC b c.1).bind fun a=>
 some (a.1,a.2)
def QhM (d:Qk)(f:QMk)(e:Qq):Option (QMk×Int):=
 (QgQ d e).bind fun a=>
 bif (a.2 != 0)then
 some (([]:List QBg),a.2)
 else
 (Qoz f).bind fun b=>
 (idx d.Tasks e.Task).bind fun c=>
 (QD (fun st=>Qgg c st.1 st.2) (0,b)).bind (fun q=>Qgh a q)
theorem Qyg (G M H){r}(h:QhM G M H=some r):Qd prog 60 [.agg (Qe G),.sl 1 (M.map Qm),.agg (Qp H)] [] (Gives (.tup [.sl 1 (r.1.map Qm),.I r.2]) []):=by
 refine Qd.walk 53 func60 rfl rfl rfl fun C hC=>?_
 obtain⟨p,J,h⟩:=Qc h
 refine Qa hC [.n 10,.v .no [] (.agg (Qe G)),.v .no [] (.agg (Qp H)),.o (.c false [.d,.d] (.tup [.sl 1 (p.1.map Qm),.I p.2])),.n 14] rfl ⟨⟨⟨tt_,rfl⟩,rfl⟩,(Qxm _ _ J)⟩ ?_
 rcases Qt h with⟨s,h⟩|⟨s,h⟩
 ·refine Qa hC [.T,.n 9,.denil 6 [some 1]] rfl ⟨tt_,s⟩ ?_
  cases h
  exact d2_ rfl rfl rfl tt_
 obtain⟨u,w,h⟩:=Qc h
 obtain⟨f,y,h⟩:=Qc h
 refine Qa hC [.F,.n 5,.o (.co false [.d] 1 (u.map Qm) u.length),.n 10,.o (.row (Qh f)),.n 2,.o (.ln f.Cancel.length),.n 4,.K [8,10,30,31,32] [23]] rfl ⟨⟨⟨⟨tt_,s⟩,⟨(Qyf _ w),Qg,.inl rfl⟩⟩,(QJ y)⟩,Qg⟩ ?_
 obtain⟨z,A,h⟩:=Qc h
 refine AK.loop (body:=(fun st=>Qgg f st.1 st.2)) (fun st σ=>σ=⟨[(8,.sl 1 (p.1.map Qm)),(10,.own 23 st.2.length),(30,.sl 1 (f.Cancel.map Qb)),(31,.I (f.Cancel.length:Int)),(32,.I st.1)],[(23,.arr 1 (st.2.map Qm))]⟩) (fun q e σ=>e=.exit 0∧σ=⟨[(8,.sl 1 (p.1.map Qm)),(10,.own 23 q.length)],[(23,.arr 1 (q.map Qm))]⟩) A rfl ?_ ?_
 ·rintro ⟨t,i⟩ o σ rfl h
  refine tg_ hC [.n 6] rfl ?_
  refine bg_ h (fun j h=>Qa hC [.T,.n 2] rfl ⟨tt_,j⟩ ?_) fun j h=>Qa hC [.F,.n 2,.K [8,10] [23]] rfl ⟨tt_,j⟩ ?_
  ·refine AK.meet (fun σ=>∃l:QMk,σ=⟨[(8,.sl 1 (p.1.map Qm)),(10,.own 23 l.length),(30,.sl 1 (f.Cancel.map Qb)),(31,.I (f.Cancel.length:Int)),(32,.I t)],[(23,.arr 1 (l.map Qm))]⟩∧QeX t l=some o) ?_ ?_
   ·obtain⟨a,B,h⟩:=Qc h
    refine Qa hC [.n 3,.o (.row (Qb a)),.n 5] rfl ⟨tt_,(QJ B)⟩ ?_
    refine AK.meetX (fun σ=>σ=⟨[(8,.sl 1 (p.1.map Qm)),(10,.own 23 i.length),(12,.I a),(30,.sl 1 (f.Cancel.map Qb)),(31,.I (f.Cancel.length:Int)),(32,.I t),(43,.b ((decide (0≤a))&&(decide (a<(i.length:Int)))))],[(23,.arr 1 (i.map Qm))]⟩) ?_ ?_
    ·refine tg_ hC [.n 4] rfl ?_
     rcases QW (decide (0≤a))with g | g
     ·refine Qa hC [.S 38 (.b true),.n 6,.S 43 (.b ((decide (0≤a))&&(decide (a<(i.length:Int))))),.K [8,10,12,30,31,32,43] [23]] rfl ⟨(tc_ g),(congrArg V.b (Qb1 g rfl))⟩ ?_
      exact AK.met rfl
     refine Qa hC [.S 38 (.b false),.n 6,.S 43 (.b ((decide (0≤a))&&(decide (a<(i.length:Int))))),.K [8,10,12,30,31,32,43] [23]] rfl ⟨(tc_ g),(congrArg V.b (QdZ g rfl))⟩ ?_
     exact AK.met rfl
    rintro σ rfl
    refine tg_ hC [.n 1] rfl ?_
    rcases Qt h with⟨k,h⟩|⟨k,h⟩
    ·obtain⟨L,m,h⟩:=Qc h
     refine Qa hC [.T,.n 4,.x (fun σ=>σ.set 23 (.arr 1 ((i.set a.toNat ([]:List (Int×Int))).map Qm))),.n 2,.S 10 (.own 23 (i.set a.toNat ([]:List (Int×Int))).length),.K [8,10,30,31,32] [23]] rfl ⟨⟨⟨⟨tt_,k⟩,(QbB m rfl)⟩,(Stp.storeNil (zz:=2) (r:=Qm L) rfl rfl rfl rfl (QaL (Qcg m).2) rfl (Qs.sz rfl) rfl (QeJ rfl))⟩,(congrArg (fun n=>V.own 23 n) (by simp))⟩ ?_
     exact AK.met (ex_ _ (an_ rfl h))
    refine Qa hC [.F,.n 2,.K [8,10,30,31,32] [23]] rfl ⟨tt_,k⟩ ?_
    exact AK.met (ex_ _ (an_ rfl h))
   rintro σ ⟨l,rfl,h⟩
   refine tg_ hC [.n 4,.K [8,10,30,31,32] [23]] rfl ?_
   cases h
   exact QZ rfl rfl
  cases h
  exact Q1 rfl (an_ rfl rfl)
 replace h:Qgh p z=some r:=h
 rintro e σ ⟨rfl,rfl⟩
 obtain⟨D,E,h⟩:=Qc h
 refine Qa hC [.n 6,.frz 23 (z.map Qm) [10,48] [],.cm (.fn) [] [] [] [.d,.d,.d] [] (.tup [.sl 1 (D.1.map Qm),.I D.2]),.n 7] rfl ⟨⟨tt_,⟨⟨tt_,(QcD Qg)⟩,(QcD Qg)⟩⟩,(Qt2 _ _ E)⟩ ?_
 cases h
 exact d2_ rfl rfl rfl tt_
def Qep (c:Qk)(e:QMk)(d:Qq):Option (QMk×Int):=
 (QhL c e d).bind fun b=>
 bif (b.2 != 0)then
 some (([]:List QBg),b.2)
 else
 (QhM c b.1 d).bind fun a=>
 some (a.1,a.2)
theorem QuR (f j g){r}(h:Qep f j g=some r):Qd prog 28 [.agg (Qe f),.sl 1 (j.map Qm),.agg (Qp g)] [] (Gives (.tup [.sl 1 (r.1.map Qm),.I r.2]) []):=by
 refine Qd.walk 26 func28 rfl rfl rfl fun C hC=>?_
 obtain⟨k,i,h⟩:=Qc h
 refine Qa hC [.n 10,.v .no [] (.agg (Qe f)),.n 1,.v .no [] (.agg (Qp g)),.o (.c false [.d,.d,.d] (.tup [.sl 1 (k.1.map Qm),.I k.2])),.n 14] rfl ⟨⟨⟨tt_,rfl⟩,rfl⟩,(Qye _ _ _ i)⟩ ?_
 rcases Qt h with⟨a,h⟩|⟨a,h⟩
 ·refine Qa hC [.T,.n 9,.denil 6 [some 1]] rfl ⟨tt_,a⟩ ?_
  cases h
  exact d2_ rfl rfl rfl tt_
 obtain⟨b,e,h⟩:=Qc h
 refine Qa hC [.F,.n 4,.v .no [] (.agg (Qe f)),.n 1,.v .no [] (.agg (Qp g)),.o (.c false [.d,.d,.d] (.tup [.sl 1 (b.1.map Qm),.I b.2])),.n 7] rfl ⟨⟨⟨⟨tt_,a⟩,rfl⟩,rfl⟩,(Qyg _ _ _ e)⟩ ?_
 cases h
 exact d2_ rfl rfl rfl tt_
def Qkm (b:(List Int))(h:Qk)(i:QMk)(f:Int)(c:(List Qq)):Option ((QMk×Int×(List Qq))⊕((List Qq)⊕(List Qq))):=
 bif (decide (f<(b.length:Int)))then
 (idx b f).bind fun g=>
 (QpG h i 4096).bind fun a=>
 bif ((a.length:Int)==0)then
 some (.inr (.inl c))
 else
 (chk ((a.length:Int) != 0)).bind fun _=>
 (chk ((a.length:Int) != 0)).bind fun _=>
 (idx a (Int.tmod (w64 ((Int.tmod g (a.length:Int))+(a.length:Int))) (a.length:Int))).bind fun d=>
 (Qep h i d).bind fun e=>
 bif (e.2 != 0)then
 some (.inr (.inl c))
 else
 (chk (decide (c.length+([d]:List Qq).length≤4294967296))).bind fun _=>
 some (.inl (e.1,(w64 (f+1)),(c++([d]:List Qq))))
 else
 some (.inr (.inr c))
def QrA (a:(List Qq)):Option (List Qq):=
 some a
def QrB (a:(List Qq)):Option (List Qq):=
 some a
def QnM (b:Qk)(c:QMk)(a:(List Int)):Option (List Qq):=
 (QD (fun st=>Qkm a b st.1 st.2.1 st.2.2) (c,0,([]:List Qq))).bind (Sum.elim (fun q=>QrA q) (fun q=>QrB q))
theorem Qxn (k G a){r}(h:QnM k G a=some r):Qd prog 27 [.agg (Qe k),.sl 1 (G.map Qm),.sl 1 (a.map Qb)] [] (Gives (.own 600 r.length) [(600,.arr 4 (r.map Qp))]):=by
 refine Qd.walk 57 func27 rfl rfl rfl fun C hC=>?_
 refine Qa hC [.n 15,.o (.ln a.length),.n 4,.adopt 7 50 4,.O 50 (.arr 4 (([]:List Qq).map Qp)),.S 7 (.own 50 ([]:List Qq).length),.K [1,3,7,14,15,16] [3,50]] rfl ⟨⟨⟨tt_,Qg⟩,rfl⟩,(congrArg (fun n=>V.own 50 n) (by simp))⟩ ?_
 obtain⟨A,l,h⟩:=Qc h
 refine AK.loop (body:=(fun st=>Qkm a k st.1 st.2.1 st.2.2)) (fun st σ=>σ=⟨[(1,.sl 1 (st.1.map Qm)),(3,.loc 3 0 0),(7,.own 50 st.2.2.length),(14,.sl 1 (a.map Qb)),(15,.I (a.length:Int)),(16,.I st.2.1)],[(3,.var (Qe k)),(50,.arr 4 (st.2.2.map Qp))]⟩) (Sum.elim (fun q e σ=>e=.ret∧σ=⟨[(6,.own 50 q.length)],[(50,.arr 4 (q.map Qp))]⟩) (fun q e σ=>e=.exit 0∧σ=⟨[(7,.own 50 q.length)],[(50,.arr 4 (q.map Qp))]⟩)) l rfl ?_ ?_
 ·rintro ⟨H,J,m⟩ o σ rfl h
  refine tg_ hC [.n 6] rfl ?_
  rcases Qt h with⟨f,h⟩|⟨f,h⟩
  ·obtain⟨B,p,h⟩:=Qc h
   obtain⟨s,t,h⟩:=Qc h
   refine Qa hC [.T,.n 6,.o (.row (Qb B)),.n 6,.v .no [] (.agg (Qe k)),.n 1,.o (.co false [.d,.d,.d] 4 (s.map Qp) s.length),.n 11] rfl ⟨⟨⟨⟨tt_,f⟩,(QJ p)⟩,rfl⟩,⟨(Qy5 _ _ _ t),Qg,.inl rfl⟩⟩ ?_
   rcases Qt h with⟨g,h⟩|⟨g,h⟩
   ·refine Qa hC [.T,.n 10,.K [6] [50]] rfl ⟨tt_,g⟩ ?_
    cases h
    exact Qam rfl (an_ rfl rfl)
   obtain⟨u,h⟩:=QaE h
   obtain⟨w,h⟩:=QaE h
   obtain⟨b,j,h⟩:=Qc h
   obtain⟨x,y,h⟩:=Qc h
   refine Qa hC [.F,.n 16,.v (.row (Qp b)) [] (.agg (Qp b)),.n 2,.O 11 (.var (Qp b)),.n 4,.v .no [] (.agg (Qe k)),.n 1,.v .no [] (.agg (Qp b)),.o (.c false [.d,.d,.d] (.tup [.sl 1 (x.1.map Qm),.I x.2])),.n 14] rfl ⟨⟨⟨⟨⟨⟨⟨⟨⟨⟨tt_,g⟩,(neZ u)⟩,(neZ w)⟩,(QbB j rfl)⟩,(QaL (Qcg j).2)⟩,rfl⟩,rfl⟩,rfl⟩,rfl⟩,(QuR _ _ _ y)⟩ ?_
   rcases Qt h with⟨i,h⟩|⟨i,h⟩
   ·refine Qa hC [.T,.n 10,.K [6] [50]] rfl ⟨tt_,i⟩ ?_
    cases h
    exact Qam rfl (an_ rfl rfl)
   obtain⟨z,h⟩:=QaE h
   refine Qa hC [.F,.n 4,.v .no [] (.agg (Qp b)),.v (.bd []) [] (.sl 4 (([b]:List Qq).map Qp)),.app ((m++([b]:List Qq)).map Qp) (m++([b]:List Qq)).length,.n 10,.K [1,3,7,14,15,16] [3,50]] rfl ⟨⟨⟨⟨tt_,i⟩,rfl⟩,rfl⟩,⟨Qg,Qgp z Qg,Qc8,QfU Qg⟩⟩ ?_
   cases h
   exact QZ rfl rfl
  refine Qa hC [.F,.n 2,.K [7] [50]] rfl ⟨tt_,f⟩ ?_
  cases h
  exact Q1 rfl (an_ rfl rfl)
 rcases A with(D | E)
 ·replace h:QrA D=some r:=h
  rintro e σ ⟨rfl,rfl⟩
  refine tg_ hC [.n 2,.K [6] [50],.ren 50 600] rfl ?_
  cases h
  exact d1_ rfl rfl ⟨rfl,tt_⟩
 replace h:QrB E=some r:=h
 rintro e σ ⟨rfl,rfl⟩
 refine tg_ hC [.n 9,.K [6] [50],.ren 50 600] rfl ?_
 cases h
 exact d1_ rfl rfl ⟨rfl,tt_⟩
def Qm2 (a:(QLL×Int))(b:Int)(c:(List Int))(g:Qk):Option Bool:=
 (idx a.1 b).bind fun d=>
 bif ((d.length:Int) != (c.length:Int))then
 some true
 else
 (idx a.1 b).bind fun e=>
 (Qel g e).bind fun f=>
 some (!f)
def Qbp (d:(QLL×Int))(c:Int)(a:Int)(b:(List Int)):Option ((Int×(List Int))⊕(List Int)):=
 bif (decide (a<(b.length:Int)))then
 (idx b a).bind fun e=>
 (idx d.1 c).bind fun f=>
 (idx f a).bind fun g=>
 (idx b a).bind fun h=>
 some (.inl ((w64 (a+1)),(b.set a.toNat (w64 (e+(w64 ((w64 (c+1))*g)))))))
 else
 some (.inr b)
def Qit (a:Int)(b:(List Int)):Option ((Int×(List Int))⊕(Unit⊕(List Int))):=
 some (.inl ((w64 (a+1)),b))
def QfD (b:(QLL×Int))(a:Int)(c:(List Int))(d:Bool):Option ((Int×(List Int))⊕(Unit⊕(List Int))):=
 bif d then
 some (.inr (.inl ()))
 else
 (QD (fun st=>Qbp b a st.1 st.2) (0,c)).bind (fun q=>Qit a q)
def Qbq (a:(QLL×Int))(e:Qk)(b:Int)(c:(List Int)):Option ((Int×(List Int))⊕(Unit⊕(List Int))):=
 bif (decide (b<(a.1.length:Int)))then
 (Qm2 a b c e).bind (fun d=>QfD a b c d)
 else
 some (.inr (.inr c))
def Qm3 : Option Bool:=
 some false
def QdN (c:(List Qq))(i:Qk)(f:(List Int))(d:(Int×Int))(g:QMk)(a:Int):Option ((QMk×Int)⊕(Unit⊕Unit)):=
 bif (decide (a<(c.length:Int)))then
 (idx c a).bind fun h=>
 (Qep i g h).bind fun b=>
 bif (b.2 != 0)then
 some (.inr (.inl ()))
 else
 (Qhf f b.1).bind fun e=>
 bif ((d.2==0)&&((e.2==0)&&(e.1 != d.1)))then
 some (.inr (.inl ()))
 else
 some (.inl (b.1,(w64 (a+1))))
 else
 some (.inr (.inr ()))
def Qm4 : Option Bool:=
 some false
def Qm5 (a:Bool):Option Bool:=
 some a
def Qe8 (c:Qk)(d:QMk)(a:(List Int))(h:Bool)(b:(List Int)):Option Bool:=
 (Qel c b).bind fun e=>
 bif (!e)then
 some false
 else
 (Qhf b d).bind fun f=>
 (QnM c d a).bind fun g=>
 (QD (fun st=>QdN g c b f st.1 st.2) (d,0)).bind (Sum.elim (fun q=>Qm4) (fun q=>Qm5 h))
def Qfh (b:Qk)(e:QMk)(a:(List Int)):Option Bool:=
 (Qmv).bind fun d=>
 (QnA b).bind fun f=>
 (QnC b e).bind fun g=>
 bif ((!f)||((!g)||(decide (8<(a.length:Int)))))then
 some d
 else
 (QfI b).bind fun c=>
 bif (c.2 != 0)then
 some (d&&(c.2==2))
 else
 (chk (decide (0≤(b.Places.length:Int))&&decide ((b.Places.length:Int)≤(b.Places.length:Int))&&decide ((b.Places.length:Int)≤4294967296))).bind fun _=>
 (QD (fun st=>Qbq c b st.1 st.2) (0,(List.replicate (b.Places.length:Int).toNat (0:Int)))).bind (Sum.elim (fun q=>Qm3) (fun q=>Qe8 b e a d q))
theorem Qsw (j P f){r}(h:Qfh j P f=some r):Qd prog 7 [.agg (Qe j),.sl 1 (P.map Qm),.sl 1 (f.map Qb)] [] (Gives (.b r) []):=by
 refine Qd.walk 155 func7 rfl rfl rfl fun C hC=>?_
 obtain⟨y,c3,h⟩:=Qc h
 obtain⟨x7,c4,h⟩:=Qc h
 obtain⟨x8,c5,h⟩:=Qc h
 refine Qa hC [.n 8,.o (.c false [] (.b y)),.n 5,.v .no [] (.agg (Qe j)),.o (.c false [.d] (.b x7)),.n 5,.v .no [] (.agg (Qe j)),.n 1,.o (.c false [.d,.d] (.b x8)),.n 5] rfl ⟨⟨⟨⟨⟨tt_,(Qwh  c3)⟩,rfl⟩,(Qxf _ c4)⟩,rfl⟩,(Qxh _ _ c5)⟩ ?_
 refine AK.meetX (fun σ=>σ=⟨[(1,.sl 1 (P.map Qm)),(2,.sl 1 (f.map Qb)),(3,.loc 3 0 0),(7,.b y),(39,.b ((!x7)||((!x8)||(decide (8<(f.length:Int))))))],[(3,.var (Qe j))]⟩) ?_ ?_
 ·refine tg_ hC [.n 4] rfl ?_
  rcases QW (!x7)with l | l
  ·refine Qa hC [.S 31 (.b true),.n 9,.S 39 (.b ((!x7)||((!x8)||(decide (8<(f.length:Int)))))),.K [1,2,3,7,39] [3]] rfl ⟨(tc_ l),(congrArg V.b (orT l rfl))⟩ ?_
   exact AK.met rfl
  refine Qa hC [.S 31 (.b false),.n 4] rfl (tc_ l) ?_
  rcases QW (!x8)with u | u
  ·refine Qa hC [.S 35 (.b true),.n 5,.S 39 (.b ((!x7)||((!x8)||(decide (8<(f.length:Int)))))),.K [1,2,3,7,39] [3]] rfl ⟨(tc_ u),(congrArg V.b (orF l (orT u rfl)))⟩ ?_
   exact AK.met rfl
  refine Qa hC [.S 35 (.b false),.n 1,.o (.ln f.length),.n 3,.S 39 (.b ((!x7)||((!x8)||(decide (8<(f.length:Int)))))),.K [1,2,3,7,39] [3]] rfl ⟨⟨(tc_ u),Qg⟩,(congrArg V.b (orF l (orF u rfl)))⟩ ?_
  exact AK.met rfl
 rintro σ rfl
 refine tg_ hC [.n 1] rfl ?_
 rcases Qt h with⟨A,h⟩|⟨A,h⟩
 ·refine Qa hC [.T,.n 8] rfl ⟨tt_,A⟩ ?_
  cases h
  exact d1_ rfl rfl tt_
 obtain⟨i,a5,h⟩:=Qc h
 refine Qa hC [.F,.n 4,.v .no [] (.agg (Qe j)),.o (.c false [.d] (.tup [.sl 1 (i.1.map Qj),.I i.2])),.n 14] rfl ⟨⟨⟨tt_,A⟩,rfl⟩,(Qp8 _ a5)⟩ ?_
 rcases Qt h with⟨B,h⟩|⟨B,h⟩
 ·refine Qa hC [.T,.n 1] rfl ⟨tt_,B⟩ ?_
  refine AK.meetX (fun σ=>σ=⟨[(6,.b (y&&(i.2==2)))],[]⟩) ?_ ?_
  ·refine tg_ hC [.n 3] rfl ?_
   rcases QW y with w | w
   ·refine Qa hC [.S 49 (.b true),.n 5,.S 6 (.b (y&&(i.2==2))),.K [6] []] rfl ⟨(tc_ w),(congrArg V.b (Qb1 w rfl))⟩ ?_
    exact AK.met rfl
   refine Qa hC [.S 49 (.b false),.n 5,.S 6 (.b (y&&(i.2==2))),.K [6] []] rfl ⟨(tc_ w),(congrArg V.b (QdZ w rfl))⟩ ?_
   exact AK.met rfl
  rintro σ rfl
  refine tg_ hC [.n 3] rfl ?_
  cases h
  exact d1_ rfl rfl tt_
 obtain⟨a6,h⟩:=QaE h
 refine Qa hC [.F,.n 6,.o (.ln j.Places.length),.o (.rows ((List.replicate (j.Places.length:Int).toNat (0:Int)).map Qb)),.S 56 (.own 56 (List.replicate (j.Places.length:Int).toNat (0:Int)).length),.n 10,.K [1,2,3,7,10,12,13] [3,56]] rfl ⟨⟨⟨⟨tt_,B⟩,Qg⟩,⟨a6,Qnj rfl⟩⟩,(by simp)⟩ ?_
 obtain⟨c6,a7,h⟩:=Qc h
 refine AK.loop (body:=(fun st=>Qbq i j st.1 st.2)) (fun st σ=>σ=⟨[(1,.sl 1 (P.map Qm)),(2,.sl 1 (f.map Qb)),(3,.loc 3 0 0),(7,.b y),(10,.sl 1 (i.1.map Qj)),(12,.own 56 st.2.length),(13,.I st.1)],[(3,.var (Qe j)),(56,.arr 1 (st.2.map Qb))]⟩) (Sum.elim (fun q e σ=>e=.ret∧σ=⟨[(6,.b false)],[]⟩) (fun q e σ=>e=.exit 0∧σ=⟨[(1,.sl 1 (P.map Qm)),(2,.sl 1 (f.map Qb)),(3,.loc 3 0 0),(7,.b y),(12,.own 56 q.length)],[(3,.var (Qe j)),(56,.arr 1 (q.map Qb))]⟩)) a7 rfl ?_ ?_
 ·rintro ⟨s,U⟩ o σ rfl h
  refine Qa hC [.n 5,.o (.ln i.1.length),.n 3] rfl ⟨tt_,Qg⟩ ?_
  refine bg_ h (fun D h=>Qa hC [.T,.n 6] rfl ⟨tt_,D⟩ ?_) fun D h=>Qa hC [.F,.n 2,.K [1,2,3,7,12] [3,56]] rfl ⟨tt_,D⟩ ?_
  ·obtain⟨a1,a8,h⟩:=Qc h
   replace h:QfD i s U a1=some o:=h
   refine AK.meetX (fun σ=>σ=⟨[(1,.sl 1 (P.map Qm)),(2,.sl 1 (f.map Qb)),(3,.loc 3 0 0),(7,.b y),(10,.sl 1 (i.1.map Qj)),(12,.own 56 U.length),(13,.I s),(79,.b a1)],[(3,.var (Qe j)),(56,.arr 1 (U.map Qb))]⟩) ?_ ?_
   ·replace h:=a8
    obtain⟨W,X,h⟩:=Qc h
    refine tg_ hC [.K [1,2,3,7,10,12,13] [3,56]] rfl ?_
    rcases Qt h with⟨E,h⟩|⟨E,h⟩
    ·refine AK.draw2 Qs hC mixed [.N,.N,.a (.row (Qj W)) none false,.N,.a (.ln W.length) none false,.N,.N,.N,.a .no (some ([],.b true)) false,.N,.N,.N,.N,.N,.N,.N,.N] [] [] [1,2,3,7,10,12,13,79] [3,56] rfl rfl rfl ⟨⟨⟨tt_,(QJ X)⟩,Qg⟩,(cb_ E)⟩ rfl (by kernel_rfl) rfl rfl rfl ?_
     refine tg_ hC [.K [1,2,3,7,10,12,13,79] [3,56]] rfl ?_
     cases h
     exact AK.met rfl
    obtain⟨c7,a9,h⟩:=Qc h
    obtain⟨c8,b0,h⟩:=Qc h
    refine AK.draw2 Qs hC mixed [.N,.N,.a (.row (Qj W)) none false,.N,.a (.ln W.length) none false,.N,.N,.N,.a .no (some ([],.b false)) false,.a .no (some ([],.agg (Qe j))) false,.N,.N,.a (.row (Qj c7)) none false,.N,.a (.c false [.d,.d] (.b c8)) none false,.N,.N] [] [] [1,2,3,7,10,12,13,79] [3,56] rfl rfl rfl ⟨⟨⟨⟨⟨⟨tt_,(QJ X)⟩,Qg⟩,(cb_ E)⟩,rfl⟩,(QJ a9)⟩,(QgH _ _ b0)⟩ rfl (by kernel_rfl) rfl rfl rfl ?_
    refine tg_ hC [.K [1,2,3,7,10,12,13,79] [3,56]] rfl ?_
    cases h
    exact AK.met rfl
   rintro σ rfl
   replace h:QfD i s U a1=some o:=h
   refine tg_ hC [.n 1] rfl ?_
   refine bg_ h (fun G h=>Qa hC [.T,.n 9,.K [6] []] rfl ⟨tt_,G⟩ ?_) fun G h=>Qa hC [.F,.n 8,.K [1,2,3,7,10,12,13,14] [3,56]] rfl ⟨tt_,G⟩ ?_
   ·cases h
    exact Qam rfl (an_ rfl rfl)
   obtain⟨c9,b1,h⟩:=Qc h
   refine AK.loop (body:=(fun st=>Qbp i s st.1 st.2)) (fun st σ=>σ=⟨[(1,.sl 1 (P.map Qm)),(2,.sl 1 (f.map Qb)),(3,.loc 3 0 0),(7,.b y),(10,.sl 1 (i.1.map Qj)),(12,.own 56 st.2.length),(13,.I s),(14,.I st.1)],[(3,.var (Qe j)),(56,.arr 1 (st.2.map Qb))]⟩) (fun q e σ=>e=.exit 2∧σ=⟨[(1,.sl 1 (P.map Qm)),(2,.sl 1 (f.map Qb)),(3,.loc 3 0 0),(7,.b y),(10,.sl 1 (i.1.map Qj)),(12,.own 56 q.length),(13,.I s)],[(3,.var (Qe j)),(56,.arr 1 (q.map Qb))]⟩) b1 rfl ?_ ?_
   ·rintro ⟨b2,b3⟩ o σ rfl h
    refine tg_ hC [.n 9] rfl ?_
    rcases Qt h with⟨H,h⟩|⟨H,h⟩
    ·obtain⟨a2,Y,h⟩:=Qc h
     obtain⟨d0,b4,h⟩:=Qc h
     obtain⟨a3,b5,h⟩:=Qc h
     obtain⟨d1,Z,h⟩:=Qc h
     refine Qa hC [.T,.n 4,.K [1,2,3,7,10,12,13,14] [3,56]] rfl ⟨tt_,H⟩ ?_
     refine AK.draw2 Qs hC mixed [.N,.N,.N,.N,.N,.a (.row (Qb a2)) none false,.N,.N,.N,.N,.a (.row (Qj d0)) none false,.N,.N,.a (.row (Qb a3)) none false,.N,.N,.N,.N,.m (.st (Qb d1) ((b3.set b2.toNat (w64 (a2+(w64 ((w64 (s+1))*a3))))).map Qb))] [] [] [1,2,3,7,10,12,13,14] [3,56] rfl rfl rfl ⟨⟨⟨⟨⟨⟨tt_,(QbB Y rfl)⟩,(QaL (Qcg Y).2)⟩,(QJ b4)⟩,(QJ b5)⟩,(QbB Z rfl)⟩,⟨(QaL (Qcg Z).2),QeJ rfl⟩⟩ rfl (by kernel_rfl) rfl rfl rfl ?_
     refine Qa hC [.n 7,.S 12 (.own 56 (b3.set b2.toNat (w64 (a2+(w64 ((w64 (s+1))*a3))))).length),.K [1,2,3,7,10,12,13,14] [3,56]] rfl ⟨tt_,(congrArg (fun n=>V.own 56 n) (by simp))⟩ ?_
     cases h
     exact QZ rfl rfl
    refine Qa hC [.F,.n 2,.K [1,2,3,7,10,12,13] [3,56]] rfl ⟨tt_,H⟩ ?_
    cases h
    exact Q1 rfl (an_ rfl rfl)
   replace h:Qit s c9=some o:=h
   rintro e σ ⟨rfl,rfl⟩
   refine tg_ hC [.n 8,.K [1,2,3,7,10,12,13] [3,56]] rfl ?_
   cases h
   exact QZ rfl rfl
  cases h
  exact Q1 rfl (an_ rfl rfl)
 rcases c6 with(_ | t)
 ·replace h:Qm3=some r:=h
  rintro e σ ⟨rfl,rfl⟩
  refine tg_ hC [.n 2] rfl ?_
  cases h
  exact d1_ rfl rfl tt_
 replace h:Qe8 j P f y t=some r:=h
 rintro e σ ⟨rfl,rfl⟩
 obtain⟨d2,b6,h⟩:=Qc h
 refine Qa hC [.n 5,.v .no [] (.agg (Qe j)),.n 1,.o (.c true [.d,.o (t.map Qb)] (.b d2)),.n 3] rfl ⟨⟨tt_,rfl⟩,⟨(Qic rfl),(QgH _ _ b6)⟩⟩ ?_
 rcases Qt h with⟨J,h⟩|⟨J,h⟩
 ·refine Qa hC [.T,.n 7] rfl ⟨tt_,J⟩ ?_
  cases h
  exact d1_ rfl rfl tt_
 obtain⟨g,b7,h⟩:=Qc h
 obtain⟨z,b8,h⟩:=Qc h
 refine Qa hC [.F,.n 6,.o (.c true [.o (t.map Qb),.d] (.tup [.I g.1,.I g.2])),.n 9,.v .no [] (.agg (Qe j)),.n 2,.o (.co false [.d,.d,.d] 4 (z.map Qp) z.length),.n 10,.K [1,3,7,12,15,16,17,18] [3,56,117]] rfl ⟨⟨⟨⟨tt_,J⟩,⟨(Qic rfl),(QmQ _ _ b7)⟩⟩,rfl⟩,⟨(Qxn _ _ _ b8),Qg,.inl rfl⟩⟩ ?_
 obtain⟨d3,b9,h⟩:=Qc h
 refine AK.loop (body:=(fun st=>QdN z j t g st.1 st.2)) (fun st σ=>σ=⟨[(1,.sl 1 (st.1.map Qm)),(3,.loc 3 0 0),(7,.b y),(12,.own 56 t.length),(15,.I g.1),(16,.I g.2),(17,.own 117 z.length),(18,.I st.2)],[(3,.var (Qe j)),(56,.arr 1 (t.map Qb)),(117,.arr 4 (z.map Qp))]⟩) (Sum.elim (fun q e σ=>e=.ret∧σ=⟨[(6,.b false)],[]⟩) (fun q e σ=>e=.exit 4∧σ=⟨[(7,.b y)],[]⟩)) b9 rfl ?_ ?_
 ·rintro ⟨d5,d4⟩ o σ rfl h
  refine tg_ hC [.n 9] rfl ?_
  rcases Qt h with⟨L,h⟩|⟨L,h⟩
  ·obtain⟨c0,a0,h⟩:=Qc h
   obtain⟨a4,c1,h⟩:=Qc h
   refine Qa hC [.T,.n 5,.K [1,3,7,12,15,16,17,18] [3,56,117]] rfl ⟨tt_,L⟩ ?_
   refine AK.draw2 Qs hC mixed [.a .no (some ([],.agg (Qe j))) false,.N,.N,.N,.N,.a (.row (Qp c0)) (some ([],.agg (Qp c0))) false,.a (.c false [.d,.d,.d] (.tup [.sl 1 (a4.1.map Qm),.I a4.2])) none false,.N,.N,.N,.N,.N] [] [] [3,7,12,15,16,17,18,19,20] [3,56,117] rfl rfl rfl ⟨⟨⟨⟨⟨tt_,rfl⟩,(QbB a0 rfl)⟩,(QaL (Qcg a0).2)⟩,rfl⟩,(QuR _ _ _ c1)⟩ rfl (by kernel_rfl) rfl rfl rfl ?_
   refine tg_ hC [.n 8] rfl ?_
   rcases Qt h with⟨M,h⟩|⟨M,h⟩
   ·refine Qa hC [.T,.n 9,.K [6] []] rfl ⟨tt_,M⟩ ?_
    cases h
    exact Qam rfl (an_ rfl rfl)
   obtain⟨k,c2,h⟩:=Qc h
   refine Qa hC [.F,.n 12,.o (.c true [.o (t.map Qb),.d] (.tup [.I k.1,.I k.2])),.n 8] rfl ⟨⟨tt_,M⟩,⟨(Qic rfl),(QmQ _ _ c2)⟩⟩ ?_
   refine AK.meetX (fun σ=>σ=⟨[(1,.sl 1 (a4.1.map Qm)),(3,.loc 3 0 0),(7,.b y),(12,.own 56 t.length),(15,.I g.1),(16,.I g.2),(17,.own 117 z.length),(18,.I d4),(153,.b ((g.2==0)&&((k.2==0)&&(k.1 != g.1))))],[(3,.var (Qe j)),(56,.arr 1 (t.map Qb)),(117,.arr 4 (z.map Qp))]⟩) ?_ ?_
   ·refine tg_ hC [.n 4] rfl ?_
    rcases QW (g.2==0)with p | p
    ·refine Qa hC [.S 145 (.b true),.n 4] rfl (tc_ p) ?_
     rcases QW (k.2==0)with x | x
     ·refine Qa hC [.S 149 (.b true),.n 5,.S 153 (.b ((g.2==0)&&((k.2==0)&&(k.1 != g.1)))),.K [1,3,7,12,15,16,17,18,153] [3,56,117]] rfl ⟨(tc_ x),(congrArg V.b (Qb1 p (Qb1 x rfl)))⟩ ?_
      exact AK.met rfl
     refine Qa hC [.S 149 (.b false),.n 5,.S 153 (.b ((g.2==0)&&((k.2==0)&&(k.1 != g.1)))),.K [1,3,7,12,15,16,17,18,153] [3,56,117]] rfl ⟨(tc_ x),(congrArg V.b (Qb1 p (QdZ x rfl)))⟩ ?_
     exact AK.met rfl
    refine Qa hC [.S 145 (.b false),.n 9,.S 153 (.b ((g.2==0)&&((k.2==0)&&(k.1 != g.1)))),.K [1,3,7,12,15,16,17,18,153] [3,56,117]] rfl ⟨(tc_ p),(congrArg V.b (QdZ p rfl))⟩ ?_
    exact AK.met rfl
   rintro σ rfl
   refine tg_ hC [.n 1] rfl ?_
   refine bg_ h (fun O h=>Qa hC [.T,.n 8,.K [6] []] rfl ⟨tt_,O⟩ ?_) fun O h=>Qa hC [.F,.n 8,.K [1,3,7,12,15,16,17,18] [3,56,117]] rfl ⟨tt_,O⟩ ?_
   ·cases h
    exact Qam rfl (an_ rfl rfl)
   cases h
   exact QZ rfl rfl
  refine Qa hC [.F,.n 2,.K [7] []] rfl ⟨tt_,L⟩ ?_
  cases h
  exact Q1 rfl (an_ rfl rfl)
 rcases d3 with(_ | _)
 ·replace h:Qm4=some r:=h
  rintro e σ ⟨rfl,rfl⟩
  refine tg_ hC [.n 2] rfl ?_
  cases h
  exact d1_ rfl rfl tt_
 replace h:Qm5 y=some r:=h
 rintro e σ ⟨rfl,rfl⟩
 refine tg_ hC [.n 9] rfl ?_
 cases h
 exact d1_ rfl rfl tt_

end Go.Proofs
