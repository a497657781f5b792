/- What functions of the program do, as functions over plain data, and the walks that show it: printed by a program. -/
import Derived.Test.YtbfgchciebcbpaaGreatDoorH2T2
set_option linter.unusedVariables false
set_option linter.unusedSimpArgs false
set_option linter.unusedSectionVars false
set_option linter.deprecated false
set_option maxRecDepth 100000
set_option maxHeartbeats 4000000
noncomputable section
namespace Go.Proofs
open Go Go.RowKit Go.Vm Go.Proofs.Tryz
def Qkh (a:(Int×QP))(d:Qq):Option Bool:=
 (Qej a.2.task.Join (a.2.task.Ins.length:Int) d.Ins).bind fun b=>
 bif (!b)then
 some true
 else
 (Qej a.2.task.Split (a.2.task.Outs.length:Int) d.Outs).bind fun c=>
 some (!c)
def Qfx (c:(Int×QP))(d:Qq)(e:Bool):Option Int:=
 bif e then
 some 11
 else
 (Qap c.2 d.Ins).bind fun a=>
 bif (a != 0)then
 some a
 else
 (QaB c.2 d.Outs).bind fun b=>
 some b
def Qdc (b:(Int×QP))(c:Qq)(a:Int):Option Int:=
 bif (a != 0)then
 some a
 else
 (Qkh b c).bind (fun d=>Qfx b c d)
def Qfd (d:Qk)(e:QMk)(b:Qq):Option Int:=
 (Qcl d e b.Task b.Vars).bind fun a=>
 bif (a.1==0)then
 (Qam a.2).bind fun c=>
 Qdc a b c
 else
 Qdc a b a.1
theorem Qxl (w G k){r}(h:Qfd w G k=some r):Qd prog 94 [.agg (Qe w),.sl 1 (G.map Qm),.agg (Qo k)] [] (Gives (.I r) []):=by
 refine Qd.walk 62 func94 rfl rfl rfl fun C hC=>?_
 obtain⟨a,x,h⟩:=Qc h
 refine Qa hC [.n 9,.v .no [] (.agg (Qe w)),.n 5,.o (.c false [.d,.d,.d,.d] (.tup [.agg (Qv a.2),.I a.1])),.n 5,.O 7 (.var (Qv a.2)),.n 3] rfl ⟨⟨⟨tt_,rfl⟩,(Qrp _ _ _ _ x)⟩,rfl⟩ ?_
 refine AK.meet (fun σ=>∃e:Int,σ=⟨[(5,.loc 5 0 0),(7,.loc 7 0 0),(8,.I e)],[(5,.var (Qo k)),(7,.var (Qv a.2))]⟩∧Qdc a k e=some r) ?_ ?_
 ·refine tg_ hC [.n 6] rfl ?_
  rcases Qt h with⟨f,h⟩|⟨f,h⟩
  ·obtain⟨y,m,h⟩:=Qc h
   refine Qa hC [.T,.n 1,.v .no [] (.agg (Qv a.2)),.o (.c false [.d] (.I y)),.n 2,.K [5,7,8] [5,7]] rfl ⟨⟨⟨tt_,f⟩,rfl⟩,(QkK _ m)⟩ ?_
   exact AK.met (ex_ _ (an_ rfl h))
  refine Qa hC [.F,.n 1,.K [5,7,8] [5,7]] rfl ⟨tt_,f⟩ ?_
  exact AK.met (ex_ _ (an_ rfl h))
 rintro σ ⟨e,rfl,h⟩
 refine tg_ hC [.n 7] rfl ?_
 refine bg_ h (fun l h=>Qa hC [.T,.n 8,.K [6] []] rfl ⟨tt_,l⟩ ?_) fun l h=>Qa hC [.F,.n 4] rfl ⟨tt_,l⟩ ?_
 ·cases h
  exact d1_ rfl rfl tt_
 obtain⟨z,p,h⟩:=Qc h
 replace h:Qfx a k z=some r:=h
 refine AK.meetX (fun σ=>σ=⟨[(5,.loc 5 0 0),(7,.loc 7 0 0),(50,.b z)],[(5,.var (Qo k)),(7,.var (Qv a.2))]⟩) ?_ ?_
 ·replace h:=p
  obtain⟨A,q,h⟩:=Qc h
  refine Qa hC [.n 7,.o (.ln a.2.task.Ins.length),.n 2,.o (.c false [.d,.d,.d] (.b A)),.n 2] rfl ⟨⟨tt_,Qg⟩,(Qqt _ _ _ q)⟩ ?_
  rcases Qt h with⟨g,h⟩|⟨g,h⟩
  ·refine Qa hC [.S 38 (.b true),.n 13,.K [5,7,50] [5,7]] rfl (tc_ g) ?_
   cases h
   exact AK.met rfl
  obtain⟨B,s,h⟩:=Qc h
  refine Qa hC [.S 38 (.b false),.n 6,.o (.ln a.2.task.Outs.length),.n 2,.o (.c false [.d,.d,.d] (.b B)),.n 3,.K [5,7,50] [5,7]] rfl ⟨⟨(tc_ g),Qg⟩,(Qqt _ _ _ s)⟩ ?_
  cases h
  exact AK.met rfl
 rintro σ rfl
 replace h:Qfx a k z=some r:=h
 refine tg_ hC [.n 1] rfl ?_
 rcases Qt h with⟨i,h⟩|⟨i,h⟩
 ·refine Qa hC [.T,.n 7] rfl ⟨tt_,i⟩ ?_
  cases h
  exact d1_ rfl rfl tt_
 obtain⟨D,t,h⟩:=Qc h
 refine Qa hC [.F,.n 5,.v .no [] (.agg (Qv a.2)),.n 2,.o (.c false [.d,.d] (.I D)),.n 9] rfl ⟨⟨⟨tt_,i⟩,rfl⟩,(Qmh _ _ t)⟩ ?_
 rcases Qt h with⟨j,h⟩|⟨j,h⟩
 ·refine Qa hC [.T,.n 8] rfl ⟨tt_,j⟩ ?_
  cases h
  exact d1_ rfl rfl tt_
 obtain⟨E,u,h⟩:=Qc h
 refine Qa hC [.F,.n 4,.v .no [] (.agg (Qv a.2)),.n 2,.o (.c false [.d,.d] (.I E)),.n 4] rfl ⟨⟨⟨tt_,j⟩,rfl⟩,(Ql8 _ _ u)⟩ ?_
 cases h
 exact d1_ rfl rfl tt_
def QgK (c:Qk)(b:Qq):Option (QMk×Int):=
 (QfT c b.Task b.Vars).bind fun d=>
 bif (d.2 != 0)then
 some (([]:List QBg),d.2)
 else
 (idx c.Tasks b.Task).bind fun e=>
 (QcY c e.Ins b.Ins d.1).bind fun a=>
 some (a.1,a.2)
theorem Qxm (g k){r}(h:QgK g k=some r):Qd prog 95 [.agg (Qe g),.agg (Qo k)] [] (Gives (.tup [.sl 1 (r.1.map Qm),.I r.2]) []):=by
 refine Qd.walk 34 func95 rfl rfl rfl fun C hC=>?_
 obtain⟨l,i,h⟩:=Qc h
 refine Qa hC [.n 10,.v .no [] (.agg (Qe g)),.n 4,.o (.c false [.d,.d,.d] (.tup [.sl 1 (l.1.map Qb),.I l.2])),.n 14] rfl ⟨⟨tt_,rfl⟩,(QoS _ _ _ i)⟩ ?_
 rcases Qt h with⟨b,h⟩|⟨b,h⟩
 ·refine Qa hC [.T,.n 9,.denil 4 [some 1]] rfl ⟨tt_,b⟩ ?_
  cases h
  exact d2_ rfl rfl rfl tt_
 obtain⟨p,j,h⟩:=Qc h
 obtain⟨e,f,h⟩:=Qc h
 refine Qa hC [.F,.n 3,.K [2,3,4,5,6] [2,3]] rfl ⟨tt_,b⟩ ?_
 refine AK.draw2 Qs hC mixed [.a .no (some ([],.agg (Qe g))) false,.N,.N,.N,.N,.a (.row (Qh p)) none false,.N,.N,.N,.N,.N,.a (.c false [.d,.d,.d,.d] (.tup [.sl 1 (e.1.map Qm),.I e.2])) none false,.N,.N,.m .s,.m .s] [] [] [4,5] [] rfl rfl rfl ⟨⟨⟨tt_,rfl⟩,(QJ j)⟩,(QgI _ _ _ _ f)⟩ rfl (by kernel_rfl) rfl rfl rfl ?_
 refine tg_ hC [.n 2] rfl ?_
 cases h
 exact d2_ rfl rfl rfl tt_
def QtI (a:Unit):Option (QBg×Int):=
 some (([]:List (Int×Int)),1)
def QtJ (a:QBg):Option (QBg×Int):=
 some (([]:List (Int×Int)),1)
def QtK (a:QBg):Option (QBg×Int):=
 some (([]:List (Int×Int)),1)
noncomputable def Qhc (m16:QBg)(k18:Int)(v19:Int):Option (QBg⊕Empty):=
 some (.inl (QaR ltI m16 k18 (w64 (((QR m16 k18).getD 0)-v19))))
def QoV (a:QBg):Option (QBg×Int):=
 (QeP a).bind fun b=>
 some (b,0)
noncomputable def QoW (a11:(QBg×QBg)):Option (QBg×Int):=
 (QeF a11.2 a11.1).bind fun x12=>
 bif (!x12)then
 some (([]:List (Int×Int)),10)
 else
 (QcE (fun st p=>Qhc st p.1 p.2) a11.1 a11.2).bind (Sum.elim (fun q=>QoV q) (fun q=>Empty.elim q))
def Qcg (a:QBg)(b:QBg):Option (QBg×Int):=
 (QlE a b).bind (Sum.elim (fun q=>QtI q) (Sum.elim (fun q=>QtJ q) (Sum.elim (fun q=>QtK q) (fun q=>QoW q))))
theorem Qy4 (N O){r}(h:Qcg N O=some r):Qd prog 97 [.sl 2 (N.map QK),.sl 2 (O.map QK)] [] (Gives (.tup [.sl 2 (r.1.map QK),.I r.2]) []):=by
 refine Qd.walk 40 func97 rfl rfl rfl fun C hC=>?_
 obtain⟨W,u,h⟩:=Qc h
 refine tg_ hC [.n 10] rfl ?_
 rcases W with(X | (P | (D | g)))
 ·replace h:QtI X=some r:=h
  refine Qa hC [.cm (.fn) [] [] [] [.d,.d] [] (.tup [.lit (.map none),.lit (.map none),.b false]),.n 28,.denil 4 [some 2]] rfl ⟨tt_,(QbV _ _ u)⟩ ?_
  cases h
  exact d2_ rfl rfl rfl tt_
 ·replace h:QtJ P=some r:=h
  refine Qa hC [.cm (.fn) [] [(14,603)] [] [.d,.d] [(603,.map (QB V.I V.I P))] (.tup [.lit (.map none),.map 603,.b false]),.n 28,.denil 4 [some 2]] rfl ⟨tt_,(QbV _ _ u)⟩ ?_
  cases h
  exact d2_ rfl rfl rfl tt_
 ·replace h:QtK D=some r:=h
  refine Qa hC [.cm (.fn) [] [(14,602)] [] [.d,.d] [(602,.map (QB V.I V.I D))] (.tup [.map 602,.lit (.map none),.b false]),.n 28,.denil 4 [some 2]] rfl ⟨tt_,(QbV _ _ u)⟩ ?_
  cases h
  exact d2_ rfl rfl rfl tt_
 replace h:QoW g=some r:=h
 obtain⟨J,E,h⟩:=Qc h
 refine Qa hC [.cm (.fn) [] [(14,602),(608,603)] [] [.d,.d] [(602,.map (QB V.I V.I g.1)),(603,.map (QB V.I V.I g.2))] (.tup [.map 602,.map 603,.b true]),.n 23,.cm (.fn) [(615,608),(616,14)] [(608,615),(14,616)] [] [.d,.d] [(615,.map (QB V.I V.I g.2)),(616,.map (QB V.I V.I g.1))] (.b J),.n 4] rfl ⟨⟨tt_,(QbV _ _ u)⟩,(Qmd _ _ E)⟩ ?_
 refine bg_ h (fun i h=>Qa hC [.T,.n 9,.denil 4 [some 2],.K [4,5] []] rfl ⟨tt_,i⟩ ?_) fun i h=>Qa hC [.F,.n 7] rfl ⟨tt_,i⟩ ?_
 ·cases h
  exact d2_ rfl rfl rfl tt_
 refine AK.openMapK (b:=608) Qen rfl fun j s L14 y L A=>?_
 refine Qa hC [.x (fun σ=>(σ.set 27 (.itr j s #[] none)).put 27 (.loc 27 0 0)),.n 3,.K [6,27] [14,27,608]] rfl ⟨tt_,(Stp.range (b:=608) rfl rfl (QH hC.n rfl) rfl rfl Qhj rfl)⟩ ?_
 obtain⟨M,G,h⟩:=Qc h
 refine AK.range (body:=(fun st p=>Qhc st p.1 p.2)) (fun st seen σ=>∃cur:Option Nat,σ=⟨[(6,.map 14),(27,.loc 27 0 0)],[(14,.map (QB V.I V.I st)),(27,.itr j s seen cur),(608,.mapX j s (Qbt V.I V.I L14) (QB V.I V.I g.2))]⟩) (fun (q:Empty) _ _=>False) (fun st e σ=>e=.exit 1∧σ=⟨[(6,.map 14)],[(14,.map (QB V.I V.I st))]⟩) y A G (ex_ _ rfl) ?_ ?_
 ·rintro a seen σ ⟨cur,rfl⟩ hex
  refine tg_ hC [.n 2] rfl ?_
  refine AK.nextT (b:=27) (m:=608) rfl rfl rfl (QH hC.n rfl) rfl rfl rfl rfl ?_ ?_
  ·intro hleft
   refine tg_ hC [.n 7,.K [6] [14]] rfl ?_
   exact AK.done (Or.inl (an_ hleft (an_ (fun h=>(by cases h)) (an_ rfl rfl))))
  intro S c w t
  obtain⟨o,h⟩:=hex _ t
  have ho:=h
  replace h:Qhc a c w=some o:=h
  refine Qa hC [.n 10,.x (fun σ=>σ.put 30 (.tup [.I c,.I w])),.n 9,.o (.any (.I ((QR a c).getD 0)) none),.n 2,.x (fun σ=>σ.set 14 (.map (QB V.I V.I (QaR ltI a c (w64 (((QR a c).getD 0)-w)))))),.n 2,.K [6,27] [14,27,608]] rfl ⟨⟨⟨tt_,(Stp.entryT (b:=27) (m:=608) (e:=V.I) (f:=V.I) rfl rfl (QH hC.n rfl) rfl t rfl rfl)⟩,(fun σ U Y _=>Stp.lookup (e:=V.I) (f:=V.I) (l:=a) (k:=c) (z:=0) rfl rfl (QH hC.n rfl) (U _ _ rfl) (Y _ _ rfl) (U _ _ rfl) Qhj Qen Qwf rfl)⟩,(Stp.mapUpdate (e:=V.I) (f:=V.I) (l:=a) (k:=c) (v:=(w64 (((QR a c).getD 0)-w))) ltI rfl rfl rfl rfl rfl rfl Qhj Qen rfl)⟩ ?_
  cases h
  exact AK.done (Or.inr (ex_ _ (an_ t (Or.inl (ex_ _ (an_ ho (an_ rfl (ex_ _ rfl))))))))
 rcases M with(a | q)
 ·replace h:QoV a=some r:=h
  rintro e σ ⟨rfl,rfl⟩
  obtain⟨B,H,h⟩:=Qc h
  refine Qa hC [.n 5,.cm (.fn) [(615,14)] [(39,600),(14,615)] [] [.d] [(600,.arr 2 (B.map QK)),(615,.map (QB V.I V.I a))] (.own 600 B.length),.n 5,.frz 39 (B.map QK) [4] []] rfl ⟨⟨tt_,(QjD _ H)⟩,⟨tt_,(Qci Qg)⟩⟩ ?_
  cases h
  exact d2_ rfl rfl rfl tt_
 exact q.elim
def QeR (f:QMk)(g:QMk)(c:Int)(a:QMk):Option ((Int×QMk)⊕(Int⊕QMk)):=
 bif (decide (c<((List.replicate (min2 (f.length:Int) (g.length:Int)).toNat (([]:QBg):QBg)).length:Int)))then
 (idx f c).bind fun d=>
 (idx g c).bind fun e=>
 (Qcg d e).bind fun b=>
 (idx a c).bind fun h=>
 bif (b.2 != 0)then
 some (.inr (.inl b.2))
 else
 some (.inl ((w64 (c+1)),(a.set c.toNat b.1)))
 else
 some (.inr (.inr a))
def Qqu (a:Int):Option (QMk×Int):=
 some (([]:List QBg),a)
def Qqv (a:QMk):Option (QMk×Int):=
 some (a,0)
def QfE (a:QMk)(b:QMk):Option (QMk×Int):=
 (chk (decide (0≤(min2 (a.length:Int) (b.length:Int)))&&decide ((min2 (a.length:Int) (b.length:Int))≤(min2 (a.length:Int) (b.length:Int)))&&decide ((min2 (a.length:Int) (b.length:Int))≤4294967296))).bind fun _=>
 (QE (fun st=>QeR a b st.1 st.2) (0,(List.replicate (min2 (a.length:Int) (b.length:Int)).toNat (([]:QBg):QBg)))).bind (Sum.elim (fun q=>Qqu q) (fun q=>Qqv q))
theorem Qwx (k l){r}(h:QfE k l=some r):Qd prog 96 [.sl 1 (k.map Qm),.sl 1 (l.map Qm),.clo (.func 97) [] []] [] (Gives (.tup [.sl 1 (r.1.map Qm),.I r.2]) []):=by
 refine Qd.walk 43 func96 rfl rfl rfl fun C hC=>?_
 obtain⟨A,h⟩:=QaE h
 refine Qa hC [.n 9,.o (.ln k.length),.n 1,.o (.ln l.length),.n 1,.o (.rows (List.replicate (min2 (k.length:Int) (l.length:Int)).toNat [.lit (.slice none 0 0)]))] rfl ⟨⟨⟨tt_,Qg⟩,Qg⟩,⟨A,rfl⟩⟩ ?_
 refine AK.denilA (b:=16) [some 2] rfl (QzM (f:=Qm) (x:=([]:QBg)) rfl) ?_
 refine Qa hC [.S 16 (.own 16 (List.replicate (min2 (k.length:Int) (l.length:Int)).toNat (([]:QBg):QBg)).length),.n 12,.K [0,1,2,8,18,19] [16]] rfl ⟨tt_,(by simp)⟩ ?_
 obtain⟨B,t,h⟩:=Qc h
 refine AK.loop (body:=(fun st=>QeR k l st.1 st.2)) (fun st σ=>σ=⟨[(0,.sl 1 (k.map Qm)),(1,.sl 1 (l.map Qm)),(2,.clo (.func 97) [] []),(8,.own 16 st.2.length),(18,.I ((List.replicate (min2 (k.length:Int) (l.length:Int)).toNat (([]:QBg):QBg)).length:Int)),(19,.I st.1)],[(16,.arr 1 (st.2.map Qm))]⟩) (Sum.elim (fun q e σ=>e=.ret∧σ=⟨[(6,.lit (.slice none 0 0)),(7,.I q)],[]⟩) (fun q e σ=>e=.exit 0∧σ=⟨[(8,.own 16 q.length)],[(16,.arr 1 (q.map Qm))]⟩)) t rfl ?_ ?_
 ·rintro ⟨J,u⟩ o σ rfl h
  refine tg_ hC [.n 6] rfl ?_
  rcases Qt h with⟨g,h⟩|⟨g,h⟩
  ·obtain⟨D,v,h⟩:=Qc h
   obtain⟨E,w,h⟩:=Qc h
   obtain⟨j,y,h⟩:=Qc h
   obtain⟨G,p,h⟩:=Qc h
   refine Qa hC [.T,.n 16,.K [0,1,2,8,9,10,18,19] [16]] rfl ⟨tt_,g⟩ ?_
   refine AK.draw2 Qs hC mixed [.N,.N,.N,.N,.N,.a (.row (Qm D)) none false,.N,.N,.N,.a (.row (Qm E)) none false,.N,.a (.c false [.d,.d] (.tup [.sl 2 (j.1.map QK),.I j.2])) none false,.a .no none true true,.N,.a .no none true,.N,.m (.st (Qm G) ((u.set J.toNat j.1).map Qm)),.m .s] [0,1,2,8,9,10,18,19] [] [0,1,2,8,10,18,19] [16] rfl rfl rfl ⟨⟨⟨⟨⟨tt_,(QJ v)⟩,(QJ w)⟩,(Qy4 _ _ y)⟩,(Qbx p rfl)⟩,⟨(QaJ (Qca p).2),Qe7 rfl⟩⟩ rfl (by kernel_rfl) rfl rfl rfl ?_
   refine tg_ hC [.n 7] rfl ?_
   refine bg_ h (fun i h=>Qa hC [.T,.n 10,.K [6,7] []] rfl ⟨tt_,i⟩ ?_) fun i h=>Qa hC [.F,.n 7,.S 8 (.own 16 (u.set J.toNat j.1).length),.K [0,1,2,8,18,19] [16]] rfl ⟨⟨tt_,i⟩,(congrArg (fun n=>V.own 16 n) (by simp))⟩ ?_
   ·cases h
    exact Qal rfl (an_ rfl rfl)
   cases h
   exact QZ rfl rfl
  refine Qa hC [.F,.n 2,.K [8] [16]] rfl ⟨tt_,g⟩ ?_
  cases h
  exact Q1 rfl (an_ rfl rfl)
 rcases B with(H | z)
 ·replace h:Qqu H=some r:=h
  rintro e σ ⟨rfl,rfl⟩
  refine tg_ hC [.n 2,.denil 6 [some 1]] rfl ?_
  cases h
  exact d2_ rfl rfl rfl tt_
 replace h:Qqv z=some r:=h
 rintro e σ ⟨rfl,rfl⟩
 refine Qa hC [.n 10,.frz 16 (z.map Qm) [6] []] rfl ⟨tt_,⟨tt_,(Qci Qg)⟩⟩ ?_
 cases h
 exact d2_ rfl rfl rfl tt_
def QhI (c:Qk)(d:QMk)(e:Qq):Option (QMk×Int):=
 (Qfd c d e).bind fun f=>
 bif (f != 0)then
 some (([]:List QBg),f)
 else
 (QgK c e).bind fun a=>
 bif (a.2 != 0)then
 some (([]:List QBg),a.2)
 else
 (QfE d a.1).bind fun b=>
 some (b.1,b.2)
theorem Qyd (j m k){r}(h:QhI j m k=some r):Qd prog 59 [.agg (Qe j),.sl 1 (m.map Qm),.agg (Qo k)] [] (Gives (.tup [.sl 1 (r.1.map Qm),.I r.2]) []):=by
 refine Qd.walk 32 func59 rfl rfl rfl fun C hC=>?_
 obtain⟨p,l,h⟩:=Qc h
 refine Qa hC [.n 11,.v .no [] (.agg (Qe j)),.n 1,.v .no [] (.agg (Qo k)),.o (.c false [.d,.d,.d] (.I p)),.n 9] rfl ⟨⟨⟨tt_,rfl⟩,rfl⟩,(Qxl _ _ _ l)⟩ ?_
 rcases Qt h with⟨b,h⟩|⟨b,h⟩
 ·refine Qa hC [.T,.n 9,.denil 6 [some 1]] rfl ⟨tt_,b⟩ ?_
  cases h
  exact d2_ rfl rfl rfl tt_
 obtain⟨e,f,h⟩:=Qc h
 refine Qa hC [.F,.n 4,.v .no [] (.agg (Qe j)),.v .no [] (.agg (Qo k)),.o (.c false [.d,.d] (.tup [.sl 1 (e.1.map Qm),.I e.2])),.n 14] rfl ⟨⟨⟨⟨tt_,b⟩,rfl⟩,rfl⟩,(Qxm _ _ f)⟩ ?_
 rcases Qt h with⟨a,h⟩|⟨a,h⟩
 ·refine Qa hC [.T,.n 9,.denil 6 [some 1]] rfl ⟨tt_,a⟩ ?_
  cases h
  exact d2_ rfl rfl rfl tt_
 obtain⟨g,i,h⟩:=Qc h
 refine Qa hC [.F,.n 6,.cm (.fn) [] [] [] [.d,.d,.d] [] (.tup [.sl 1 (g.1.map Qm),.I g.2]),.n 7] rfl ⟨⟨tt_,a⟩,(Qwx _ _ i)⟩ ?_
 cases h
 exact d2_ rfl rfl rfl tt_
def QgL (c:Qk)(b:Qq):Option (QMk×Int):=
 (QfT c b.Task b.Vars).bind fun d=>
 bif (d.2 != 0)then
 some (([]:List QBg),d.2)
 else
 (idx c.Tasks b.Task).bind fun e=>
 (QcY c e.Outs b.Outs d.1).bind fun a=>
 some (a.1,a.2)
theorem Qxn (g k){r}(h:QgL g k=some r):Qd prog 98 [.agg (Qe g),.agg (Qo k)] [] (Gives (.tup [.sl 1 (r.1.map Qm),.I r.2]) []):=by
 refine Qd.walk 34 func98 rfl rfl rfl fun C hC=>?_
 obtain⟨l,i,h⟩:=Qc h
 refine Qa hC [.n 10,.v .no [] (.agg (Qe g)),.n 4,.o (.c false [.d,.d,.d] (.tup [.sl 1 (l.1.map Qb),.I l.2])),.n 14] rfl ⟨⟨tt_,rfl⟩,(QoS _ _ _ i)⟩ ?_
 rcases Qt h with⟨b,h⟩|⟨b,h⟩
 ·refine Qa hC [.T,.n 9,.denil 4 [some 1]] rfl ⟨tt_,b⟩ ?_
  cases h
  exact d2_ rfl rfl rfl tt_
 obtain⟨p,j,h⟩:=Qc h
 obtain⟨e,f,h⟩:=Qc h
 refine Qa hC [.F,.n 3,.K [2,3,4,5,6] [2,3]] rfl ⟨tt_,b⟩ ?_
 refine AK.draw2 Qs hC mixed [.a .no (some ([],.agg (Qe g))) false,.N,.N,.N,.N,.a (.row (Qh p)) none false,.N,.N,.N,.N,.N,.a (.c false [.d,.d,.d,.d] (.tup [.sl 1 (e.1.map Qm),.I e.2])) none false,.N,.N,.m .s,.m .s] [] [] [4,5] [] rfl rfl rfl ⟨⟨⟨tt_,rfl⟩,(QJ j)⟩,(QgI _ _ _ _ f)⟩ rfl (by kernel_rfl) rfl rfl rfl ?_
 refine tg_ hC [.n 2] rfl ?_
 cases h
 exact d2_ rfl rfl rfl tt_
def QbU (a:QMk):Option QMk:=
 (chk (decide ((([]:List QBg).length+a.length)*24≤140737488355328))).bind fun _=>
 some (([]:List QBg)++a)
theorem Qkm (a){r}(h:QbU a=some r):Qd prog 100 [.sl 1 (a.map Qm)] [] (Gives (.own 600 r.length) [(600,.arr 1 (r.map Qm))]):=by
 refine Qd.walk 8 func100 rfl rfl rfl fun C hC=>?_
 unfold QbU at h
 refine tg_ hC [.n 9] rfl ?_
 refine AK.eqNil rfl rfl rfl (QH hC.n rfl) rfl rfl QFt ?_ ?_
 ·intro b
  replace h:some ([]:List QBg)=some r:=by simpa [chk,List.map_eq_nil_iff.1 b] using h
  refine Qa hC [.n 10,.adopt 2 600 1,.O 600 (.arr 1 (([]:List QBg).map Qm)),.S 2 (.own 600 ([]:List QBg).length)] rfl ⟨⟨tt_,rfl⟩,rfl⟩ ?_
  cases h
  exact d1_ rfl rfl ⟨rfl,tt_⟩
 obtain⟨c,h⟩:=QaE h
 refine Qa hC [.n 8,.O 5 (.arr 1 (([]:List QBg).map Qm)),.S 5 (.own 5 ([]:List QBg).length),.n 1,.x (fun σ=>σ.app 5 1 7 (([]:List QBg)++a).length ((([]:List QBg)++a).map Qm)),.n 4,.K [2] [5],.ren 5 600] rfl ⟨⟨⟨tt_,rfl⟩,rfl⟩,(Stp.appSB (by_:=24) (zs:=[.lit (.slice none 0 0)]) (e:=59) (e':=59) (z':=1) (by':=24) rfl rfl (QH hC.n rfl) rfl rfl rfl Qg (by kernel_rfl) (by kernel_rfl) (by kernel_rfl) rfl (by decide) (by decide) (Qvr c Qg) rfl Qc1 (QfN Qg))⟩ ?_
 cases h
 exact d1_ rfl rfl ⟨rfl,tt_⟩
def Qc5 (a:QBg):Option QBg:=
 (chk (decide ((([]:List (Int×Int)).length+a.length)*16≤140737488355328))).bind fun _=>
 some (([]:List (Int×Int))++a)
theorem Qm7 (a){r}(h:Qc5 a=some r):Qd prog 101 [.sl 2 (a.map QK)] [] (Gives (.own 600 r.length) [(600,.arr 2 (r.map QK))]):=by
 refine Qd.walk 8 func101 rfl rfl rfl fun C hC=>?_
 unfold Qc5 at h
 refine tg_ hC [.n 9] rfl ?_
 refine AK.eqNil rfl rfl rfl (QH hC.n rfl) rfl rfl QFv ?_ ?_
 ·intro b
  replace h:some ([]:List (Int×Int))=some r:=by simpa [chk,List.map_eq_nil_iff.1 b] using h
  refine Qa hC [.n 10,.adopt 2 600 2,.O 600 (.arr 2 (([]:List (Int×Int)).map QK)),.S 2 (.own 600 ([]:List (Int×Int)).length)] rfl ⟨⟨tt_,rfl⟩,rfl⟩ ?_
  cases h
  exact d1_ rfl rfl ⟨rfl,tt_⟩
 obtain⟨c,h⟩:=QaE h
 refine Qa hC [.n 8,.O 5 (.arr 2 (([]:List (Int×Int)).map QK)),.S 5 (.own 5 ([]:List (Int×Int)).length),.n 1,.x (fun σ=>σ.app 5 2 7 (([]:List (Int×Int))++a).length ((([]:List (Int×Int))++a).map QK)),.n 4,.K [2] [5],.ren 5 600] rfl ⟨⟨⟨tt_,rfl⟩,rfl⟩,(Stp.appSB (by_:=16) (zs:=[.I 0,.I 0]) (e:=61) (e':=61) (z':=2) (by':=16) rfl rfl (QH hC.n rfl) rfl rfl rfl Qg (by kernel_rfl) (by kernel_rfl) (by kernel_rfl) rfl (by decide) (by decide) (Qvr c Qg) rfl Qc1 (QfN Qg))⟩ ?_
 cases h
 exact d1_ rfl rfl ⟨rfl,tt_⟩
def Qis (e:QMk)(a:Int)(b:QMk):Option ((Int×QMk)⊕QMk):=
 bif (decide (a<(e.length:Int)))then
 (idx b a).bind fun c=>
 (Qc5 c).bind fun d=>
 (idx b a).bind fun f=>
 some (.inl ((w64 (a+1)),(b.set a.toNat d)))
 else
 some (.inr b)
def Qsu (a:QMk):Option QMk:=
 some a
def Qmj (b:QMk):Option QMk:=
 (QbU b).bind fun a=>
 (QE (fun st=>Qis a st.1 st.2) (0,a)).bind (fun q=>Qsu q)
theorem Qsv (t){r}(h:Qmj t=some r):Qd prog 61 [.sl 1 (t.map Qm)] [] (Gives (.own 600 r.length) [(600,.arr 1 (r.map Qm))]):=by
 refine Qd.walk 22 func61 rfl rfl rfl fun C hC=>?_
 obtain⟨j,k,h⟩:=Qc h
 refine Qa hC [.n 8,.o (.co false [.d] 1 (j.map Qm) j.length),.n 12,.K [3,8,9,10] [7]] rfl ⟨tt_,⟨(Qkm _ k),Qg,.inl rfl⟩⟩ ?_
 obtain⟨u,g,h⟩:=Qc h
 refine AK.loop (body:=(fun st=>Qis j st.1 st.2)) (fun st σ=>σ=⟨[(3,.own 7 st.2.length),(8,.own 7 st.2.length),(9,.I (j.length:Int)),(10,.I st.1)],[(7,.arr 1 (st.2.map Qm))]⟩) (fun q e σ=>e=.exit 0∧σ=⟨[(3,.own 7 q.length)],[(7,.arr 1 (q.map Qm))]⟩) g rfl ?_ ?_
 ·rintro ⟨l,m⟩ o σ rfl h
  refine tg_ hC [.n 6] rfl ?_
  rcases Qt h with⟨b,h⟩|⟨b,h⟩
  ·obtain⟨p,c,h⟩:=Qc h
   obtain⟨a,i,h⟩:=Qc h
   obtain⟨s,f,h⟩:=Qc h
   refine Qa hC [.T,.n 8,.o (.row (Qm p)),.n 8,.o (.co false [.d] 2 (a.map QK) a.length),.n 1,.frz 18 (a.map QK) [18] [],.st (Qm s) ((m.set l.toNat a).map Qm),.n 7,.S 3 (.own 7 (m.set l.toNat a).length),.S 8 (.own 7 (m.set l.toNat a).length),.K [3,8,9,10] [7]] rfl ⟨⟨⟨⟨⟨⟨⟨⟨⟨tt_,b⟩,(Qbx c rfl)⟩,(QaJ (Qca c).2)⟩,⟨(Qm7 _ i),Qg,.inl rfl⟩⟩,(Qbx f rfl)⟩,⟨tt_,(Qci Qg)⟩⟩,⟨(QaJ (Qca f).2),Qe7 rfl⟩⟩,(congrArg (fun n=>V.own 7 n) (by simp))⟩,(congrArg (fun n=>V.own 7 n) (by simp))⟩ ?_
   cases h
   exact QZ rfl rfl
  refine Qa hC [.F,.n 2,.K [3] [7]] rfl ⟨tt_,b⟩ ?_
  cases h
  exact Q1 rfl (an_ rfl rfl)
 replace h:Qsu u=some r:=h
 rintro e σ ⟨rfl,rfl⟩
 refine tg_ hC [.n 9,.K [2] [7],.ren 7 600] rfl ?_
 cases h
 exact d1_ rfl rfl ⟨rfl,tt_⟩
def Qde (f:QMk)(g:QMk)(c:Int)(a:QMk):Option ((Int×QMk)⊕(Int⊕QMk)):=
 bif (decide (c<((List.replicate (min2 (f.length:Int) (g.length:Int)).toNat (([]:QBg):QBg)).length:Int)))then
 (idx f c).bind fun d=>
 (idx g c).bind fun e=>
 (QbQ d e).bind fun b=>
 (idx a c).bind fun h=>
 bif (b.2 != 0)then
 some (.inr (.inl b.2))
 else
 some (.inl ((w64 (c+1)),(a.set c.toNat b.1)))
 else
 some (.inr (.inr a))
def QnU (a:Int):Option (QMk×Int):=
 some (([]:List QBg),a)
def QnV (a:QMk):Option (QMk×Int):=
 some (a,0)
def QdA (a:QMk)(b:QMk):Option (QMk×Int):=
 (chk (decide (0≤(min2 (a.length:Int) (b.length:Int)))&&decide ((min2 (a.length:Int) (b.length:Int))≤(min2 (a.length:Int) (b.length:Int)))&&decide ((min2 (a.length:Int) (b.length:Int))≤4294967296))).bind fun _=>
 (QE (fun st=>Qde a b st.1 st.2) (0,(List.replicate (min2 (a.length:Int) (b.length:Int)).toNat (([]:QBg):QBg)))).bind (Sum.elim (fun q=>QnU q) (fun q=>QnV q))
theorem Qt3 (k l){r}(h:QdA k l=some r):Qd prog 96 [.sl 1 (k.map Qm),.sl 1 (l.map Qm),.clo (.func 99) [] []] [] (Gives (.tup [.sl 1 (r.1.map Qm),.I r.2]) []):=by
 refine Qd.walk 43 func96 rfl rfl rfl fun C hC=>?_
 obtain⟨A,h⟩:=QaE h
 refine Qa hC [.n 9,.o (.ln k.length),.n 1,.o (.ln l.length),.n 1,.o (.rows (List.replicate (min2 (k.length:Int) (l.length:Int)).toNat [.lit (.slice none 0 0)]))] rfl ⟨⟨⟨tt_,Qg⟩,Qg⟩,⟨A,rfl⟩⟩ ?_
 refine AK.denilA (b:=16) [some 2] rfl (QzM (f:=Qm) (x:=([]:QBg)) rfl) ?_
 refine Qa hC [.S 16 (.own 16 (List.replicate (min2 (k.length:Int) (l.length:Int)).toNat (([]:QBg):QBg)).length),.n 12,.K [0,1,2,8,18,19] [16]] rfl ⟨tt_,(by simp)⟩ ?_
 obtain⟨B,t,h⟩:=Qc h
 refine AK.loop (body:=(fun st=>Qde k l st.1 st.2)) (fun st σ=>σ=⟨[(0,.sl 1 (k.map Qm)),(1,.sl 1 (l.map Qm)),(2,.clo (.func 99) [] []),(8,.own 16 st.2.length),(18,.I ((List.replicate (min2 (k.length:Int) (l.length:Int)).toNat (([]:QBg):QBg)).length:Int)),(19,.I st.1)],[(16,.arr 1 (st.2.map Qm))]⟩) (Sum.elim (fun q e σ=>e=.ret∧σ=⟨[(6,.lit (.slice none 0 0)),(7,.I q)],[]⟩) (fun q e σ=>e=.exit 0∧σ=⟨[(8,.own 16 q.length)],[(16,.arr 1 (q.map Qm))]⟩)) t rfl ?_ ?_
 ·rintro ⟨J,u⟩ o σ rfl h
  refine tg_ hC [.n 6] rfl ?_
  rcases Qt h with⟨g,h⟩|⟨g,h⟩
  ·obtain⟨D,v,h⟩:=Qc h
   obtain⟨E,w,h⟩:=Qc h
   obtain⟨j,y,h⟩:=Qc h
   obtain⟨G,p,h⟩:=Qc h
   refine Qa hC [.T,.n 16,.K [0,1,2,8,9,10,18,19] [16]] rfl ⟨tt_,g⟩ ?_
   refine AK.draw2 Qs hC mixed [.N,.N,.N,.N,.N,.a (.row (Qm D)) none false,.N,.N,.N,.a (.row (Qm E)) none false,.N,.a (.c false [.d,.d] (.tup [.sl 2 (j.1.map QK),.I j.2])) none false,.a .no none true true,.N,.a .no none true,.N,.m (.st (Qm G) ((u.set J.toNat j.1).map Qm)),.m .s] [0,1,2,8,9,10,18,19] [] [0,1,2,8,10,18,19] [16] rfl rfl rfl ⟨⟨⟨⟨⟨tt_,(QJ v)⟩,(QJ w)⟩,(QuP _ _ y)⟩,(Qbx p rfl)⟩,⟨(QaJ (Qca p).2),Qe7 rfl⟩⟩ rfl (by kernel_rfl) rfl rfl rfl ?_
   refine tg_ hC [.n 7] rfl ?_
   refine bg_ h (fun i h=>Qa hC [.T,.n 10,.K [6,7] []] rfl ⟨tt_,i⟩ ?_) fun i h=>Qa hC [.F,.n 7,.S 8 (.own 16 (u.set J.toNat j.1).length),.K [0,1,2,8,18,19] [16]] rfl ⟨⟨tt_,i⟩,(congrArg (fun n=>V.own 16 n) (by simp))⟩ ?_
   ·cases h
    exact Qal rfl (an_ rfl rfl)
   cases h
   exact QZ rfl rfl
  refine Qa hC [.F,.n 2,.K [8] [16]] rfl ⟨tt_,g⟩ ?_
  cases h
  exact Q1 rfl (an_ rfl rfl)
 rcases B with(H | z)
 ·replace h:QnU H=some r:=h
  rintro e σ ⟨rfl,rfl⟩
  refine tg_ hC [.n 2,.denil 6 [some 1]] rfl ?_
  cases h
  exact d2_ rfl rfl rfl tt_
 replace h:QnV z=some r:=h
 rintro e σ ⟨rfl,rfl⟩
 refine Qa hC [.n 10,.frz 16 (z.map Qm) [6] []] rfl ⟨tt_,⟨tt_,(Qci Qg)⟩⟩ ?_
 cases h
 exact d2_ rfl rfl rfl tt_
def QeS (a:Int)(b:QMk):Option ((Int×QMk)⊕QMk):=
 some (.inl ((w64 (a+1)),b))
def Qga (d:QA)(b:Int)(a:QMk):Option ((Int×QMk)⊕QMk):=
 bif (decide (b<(d.Cancel.length:Int)))then
 (idx d.Cancel b).bind fun c=>
 bif ((decide (0≤c))&&(decide (c<(a.length:Int))))then
 (idx a c).bind fun e=>
 QeS b (a.set c.toNat ([]:List (Int×Int)))
 else
 QeS b a
 else
 some (.inr a)
def Qgb (c:(QMk×Int))(b:QMk):Option (QMk×Int):=
 (QdA b c.1).bind fun a=>
 some (a.1,a.2)
def QhJ (d:Qk)(f:QMk)(e:Qq):Option (QMk×Int):=
 (QgL d e).bind fun a=>
 bif (a.2 != 0)then
 some (([]:List QBg),a.2)
 else
 (Qmj f).bind fun b=>
 (idx d.Tasks e.Task).bind fun c=>
 (QE (fun st=>Qga c st.1 st.2) (0,b)).bind (fun q=>Qgb a q)
theorem Qye (G M H){r}(h:QhJ G M H=some r):Qd prog 60 [.agg (Qe G),.sl 1 (M.map Qm),.agg (Qo H)] [] (Gives (.tup [.sl 1 (r.1.map Qm),.I r.2]) []):=by
 refine Qd.walk 53 func60 rfl rfl rfl fun C hC=>?_
 obtain⟨p,J,h⟩:=Qc h
 refine Qa hC [.n 10,.v .no [] (.agg (Qe G)),.v .no [] (.agg (Qo H)),.o (.c false [.d,.d] (.tup [.sl 1 (p.1.map Qm),.I p.2])),.n 14] rfl ⟨⟨⟨tt_,rfl⟩,rfl⟩,(Qxn _ _ J)⟩ ?_
 rcases Qt h with⟨s,h⟩|⟨s,h⟩
 ·refine Qa hC [.T,.n 9,.denil 6 [some 1]] rfl ⟨tt_,s⟩ ?_
  cases h
  exact d2_ rfl rfl rfl tt_
 obtain⟨u,w,h⟩:=Qc h
 obtain⟨f,y,h⟩:=Qc h
 refine Qa hC [.F,.n 5,.o (.co false [.d] 1 (u.map Qm) u.length),.n 10,.o (.row (Qh f)),.n 2,.o (.ln f.Cancel.length),.n 4,.K [8,10,30,31,32] [23]] rfl ⟨⟨⟨⟨tt_,s⟩,⟨(Qsv _ w),Qg,.inl rfl⟩⟩,(QJ y)⟩,Qg⟩ ?_
 obtain⟨z,A,h⟩:=Qc h
 refine AK.loop (body:=(fun st=>Qga f st.1 st.2)) (fun st σ=>σ=⟨[(8,.sl 1 (p.1.map Qm)),(10,.own 23 st.2.length),(30,.sl 1 (f.Cancel.map Qb)),(31,.I (f.Cancel.length:Int)),(32,.I st.1)],[(23,.arr 1 (st.2.map Qm))]⟩) (fun q e σ=>e=.exit 0∧σ=⟨[(8,.sl 1 (p.1.map Qm)),(10,.own 23 q.length)],[(23,.arr 1 (q.map Qm))]⟩) A rfl ?_ ?_
 ·rintro ⟨t,i⟩ o σ rfl h
  refine tg_ hC [.n 6] rfl ?_
  refine bg_ h (fun j h=>Qa hC [.T,.n 2] rfl ⟨tt_,j⟩ ?_) fun j h=>Qa hC [.F,.n 2,.K [8,10] [23]] rfl ⟨tt_,j⟩ ?_
  ·refine AK.meet (fun σ=>∃l:QMk,σ=⟨[(8,.sl 1 (p.1.map Qm)),(10,.own 23 l.length),(30,.sl 1 (f.Cancel.map Qb)),(31,.I (f.Cancel.length:Int)),(32,.I t)],[(23,.arr 1 (l.map Qm))]⟩∧QeS t l=some o) ?_ ?_
   ·obtain⟨a,B,h⟩:=Qc h
    refine Qa hC [.n 3,.o (.row (Qb a)),.n 5] rfl ⟨tt_,(QJ B)⟩ ?_
    refine AK.meetX (fun σ=>σ=⟨[(8,.sl 1 (p.1.map Qm)),(10,.own 23 i.length),(12,.I a),(30,.sl 1 (f.Cancel.map Qb)),(31,.I (f.Cancel.length:Int)),(32,.I t),(43,.b ((decide (0≤a))&&(decide (a<(i.length:Int)))))],[(23,.arr 1 (i.map Qm))]⟩) ?_ ?_
    ·refine tg_ hC [.n 4] rfl ?_
     rcases Q0 (decide (0≤a))with g | g
     ·refine Qa hC [.S 38 (.b true),.n 6,.S 43 (.b ((decide (0≤a))&&(decide (a<(i.length:Int))))),.K [8,10,12,30,31,32,43] [23]] rfl ⟨(tc_ g),(congrArg V.b (Qcy g rfl))⟩ ?_
      exact AK.met rfl
     refine Qa hC [.S 38 (.b false),.n 6,.S 43 (.b ((decide (0≤a))&&(decide (a<(i.length:Int))))),.K [8,10,12,30,31,32,43] [23]] rfl ⟨(tc_ g),(congrArg V.b (QeJ g rfl))⟩ ?_
     exact AK.met rfl
    rintro σ rfl
    refine tg_ hC [.n 1] rfl ?_
    rcases Qt h with⟨k,h⟩|⟨k,h⟩
    ·obtain⟨L,m,h⟩:=Qc h
     refine Qa hC [.T,.n 4,.x (fun σ=>σ.set 23 (.arr 1 ((i.set a.toNat ([]:List (Int×Int))).map Qm))),.n 2,.S 10 (.own 23 (i.set a.toNat ([]:List (Int×Int))).length),.K [8,10,30,31,32] [23]] rfl ⟨⟨⟨⟨tt_,k⟩,(Qbx m rfl)⟩,(Stp.storeNil (zz:=2) (r:=Qm L) rfl rfl rfl rfl (QaJ (Qca m).2) rfl (Qs.sz rfl) rfl (Qe7 rfl))⟩,(congrArg (fun n=>V.own 23 n) (by simp))⟩ ?_
     exact AK.met (ex_ _ (an_ rfl h))
    refine Qa hC [.F,.n 2,.K [8,10,30,31,32] [23]] rfl ⟨tt_,k⟩ ?_
    exact AK.met (ex_ _ (an_ rfl h))
   rintro σ ⟨l,rfl,h⟩
   refine tg_ hC [.n 4,.K [8,10,30,31,32] [23]] rfl ?_
   cases h
   exact QZ rfl rfl
  cases h
  exact Q1 rfl (an_ rfl rfl)
 replace h:Qgb p z=some r:=h
 rintro e σ ⟨rfl,rfl⟩
 obtain⟨D,E,h⟩:=Qc h
 refine Qa hC [.n 6,.frz 23 (z.map Qm) [10,48] [],.cm (.fn) [] [] [] [.d,.d,.d] [] (.tup [.sl 1 (D.1.map Qm),.I D.2]),.n 7] rfl ⟨⟨tt_,⟨⟨tt_,(Qci Qg)⟩,(Qci Qg)⟩⟩,(Qt3 _ _ E)⟩ ?_
 cases h
 exact d2_ rfl rfl rfl tt_
def Qek (c:Qk)(e:QMk)(d:Qq):Option (QMk×Int):=
 (QhI c e d).bind fun b=>
 bif (b.2 != 0)then
 some (([]:List QBg),b.2)
 else
 (QhJ c b.1 d).bind fun a=>
 some (a.1,a.2)
theorem QuR (f j g){r}(h:Qek f j g=some r):Qd prog 28 [.agg (Qe f),.sl 1 (j.map Qm),.agg (Qo g)] [] (Gives (.tup [.sl 1 (r.1.map Qm),.I r.2]) []):=by
 refine Qd.walk 26 func28 rfl rfl rfl fun C hC=>?_
 obtain⟨k,i,h⟩:=Qc h
 refine Qa hC [.n 10,.v .no [] (.agg (Qe f)),.n 1,.v .no [] (.agg (Qo g)),.o (.c false [.d,.d,.d] (.tup [.sl 1 (k.1.map Qm),.I k.2])),.n 14] rfl ⟨⟨⟨tt_,rfl⟩,rfl⟩,(Qyd _ _ _ i)⟩ ?_
 rcases Qt h with⟨a,h⟩|⟨a,h⟩
 ·refine Qa hC [.T,.n 9,.denil 6 [some 1]] rfl ⟨tt_,a⟩ ?_
  cases h
  exact d2_ rfl rfl rfl tt_
 obtain⟨b,e,h⟩:=Qc h
 refine Qa hC [.F,.n 4,.v .no [] (.agg (Qe f)),.n 1,.v .no [] (.agg (Qo g)),.o (.c false [.d,.d,.d] (.tup [.sl 1 (b.1.map Qm),.I b.2])),.n 7] rfl ⟨⟨⟨⟨tt_,a⟩,rfl⟩,rfl⟩,(Qye _ _ _ e)⟩ ?_
 cases h
 exact d2_ rfl rfl rfl tt_
def Qki (b:(List Int))(h:Qk)(i:QMk)(f:Int)(c:(List Qq)):Option ((QMk×Int×(List Qq))⊕((List Qq)⊕(List Qq))):=
 bif (decide (f<(b.length:Int)))then
 (idx b f).bind fun g=>
 (QpA h i 4096).bind fun a=>
 bif ((a.length:Int)==0)then
 some (.inr (.inl c))
 else
 (chk ((a.length:Int) != 0)).bind fun _=>
 (chk ((a.length:Int) != 0)).bind fun _=>
 (idx a (Int.tmod (w64 ((Int.tmod g (a.length:Int))+(a.length:Int))) (a.length:Int))).bind fun d=>
 (Qek h i d).bind fun e=>
 bif (e.2 != 0)then
 some (.inr (.inl c))
 else
 (chk (decide (c.length+([d]:List Qq).length≤4294967296))).bind fun _=>
 some (.inl (e.1,(w64 (f+1)),(c++([d]:List Qq))))
 else
 some (.inr (.inr c))
def Qrv (a:(List Qq)):Option (List Qq):=
 some a
def Qrw (a:(List Qq)):Option (List Qq):=
 some a
def QnG (b:Qk)(c:QMk)(a:(List Int)):Option (List Qq):=
 (QE (fun st=>Qki a b st.1 st.2.1 st.2.2) (c,0,([]:List Qq))).bind (Sum.elim (fun q=>Qrv q) (fun q=>Qrw q))
theorem Qxo (k G a){r}(h:QnG k G a=some r):Qd prog 27 [.agg (Qe k),.sl 1 (G.map Qm),.sl 1 (a.map Qb)] [] (Gives (.own 600 r.length) [(600,.arr 4 (r.map Qo))]):=by
 refine Qd.walk 57 func27 rfl rfl rfl fun C hC=>?_
 refine Qa hC [.n 15,.o (.ln a.length),.n 4,.adopt 7 50 4,.O 50 (.arr 4 (([]:List Qq).map Qo)),.S 7 (.own 50 ([]:List Qq).length),.K [1,3,7,14,15,16] [3,50]] rfl ⟨⟨⟨tt_,Qg⟩,rfl⟩,(congrArg (fun n=>V.own 50 n) (by simp))⟩ ?_
 obtain⟨A,l,h⟩:=Qc h
 refine AK.loop (body:=(fun st=>Qki a k st.1 st.2.1 st.2.2)) (fun st σ=>σ=⟨[(1,.sl 1 (st.1.map Qm)),(3,.loc 3 0 0),(7,.own 50 st.2.2.length),(14,.sl 1 (a.map Qb)),(15,.I (a.length:Int)),(16,.I st.2.1)],[(3,.var (Qe k)),(50,.arr 4 (st.2.2.map Qo))]⟩) (Sum.elim (fun q e σ=>e=.ret∧σ=⟨[(6,.own 50 q.length)],[(50,.arr 4 (q.map Qo))]⟩) (fun q e σ=>e=.exit 0∧σ=⟨[(7,.own 50 q.length)],[(50,.arr 4 (q.map Qo))]⟩)) l rfl ?_ ?_
 ·rintro ⟨H,J,m⟩ o σ rfl h
  refine tg_ hC [.n 6] rfl ?_
  rcases Qt h with⟨f,h⟩|⟨f,h⟩
  ·obtain⟨B,p,h⟩:=Qc h
   obtain⟨s,t,h⟩:=Qc h
   refine Qa hC [.T,.n 6,.o (.row (Qb B)),.n 6,.v .no [] (.agg (Qe k)),.n 1,.o (.co false [.d,.d,.d] 4 (s.map Qo) s.length),.n 11] rfl ⟨⟨⟨⟨tt_,f⟩,(QJ p)⟩,rfl⟩,⟨(Qy3 _ _ _ t),Qg,.inl rfl⟩⟩ ?_
   rcases Qt h with⟨g,h⟩|⟨g,h⟩
   ·refine Qa hC [.T,.n 10,.K [6] [50]] rfl ⟨tt_,g⟩ ?_
    cases h
    exact Qal rfl (an_ rfl rfl)
   obtain⟨u,h⟩:=QaE h
   obtain⟨w,h⟩:=QaE h
   obtain⟨b,j,h⟩:=Qc h
   obtain⟨x,y,h⟩:=Qc h
   refine Qa hC [.F,.n 16,.v (.row (Qo b)) [] (.agg (Qo b)),.n 2,.O 11 (.var (Qo b)),.n 4,.v .no [] (.agg (Qe k)),.n 1,.v .no [] (.agg (Qo b)),.o (.c false [.d,.d,.d] (.tup [.sl 1 (x.1.map Qm),.I x.2])),.n 14] rfl ⟨⟨⟨⟨⟨⟨⟨⟨⟨⟨tt_,g⟩,(neZ u)⟩,(neZ w)⟩,(Qbx j rfl)⟩,(QaJ (Qca j).2)⟩,rfl⟩,rfl⟩,rfl⟩,rfl⟩,(QuR _ _ _ y)⟩ ?_
   rcases Qt h with⟨i,h⟩|⟨i,h⟩
   ·refine Qa hC [.T,.n 10,.K [6] [50]] rfl ⟨tt_,i⟩ ?_
    cases h
    exact Qal rfl (an_ rfl rfl)
   obtain⟨z,h⟩:=QaE h
   refine Qa hC [.F,.n 4,.v .no [] (.agg (Qo b)),.v (.bd []) [] (.sl 4 (([b]:List Qq).map Qo)),.app ((m++([b]:List Qq)).map Qo) (m++([b]:List Qq)).length,.n 10,.K [1,3,7,14,15,16] [3,50]] rfl ⟨⟨⟨⟨tt_,i⟩,rfl⟩,rfl⟩,⟨Qg,Qgj z Qg,Qc1,QfN Qg⟩⟩ ?_
   cases h
   exact QZ rfl rfl
  refine Qa hC [.F,.n 2,.K [7] [50]] rfl ⟨tt_,f⟩ ?_
  cases h
  exact Q1 rfl (an_ rfl rfl)
 rcases A with(D | E)
 ·replace h:Qrv D=some r:=h
  rintro e σ ⟨rfl,rfl⟩
  refine tg_ hC [.n 2,.K [6] [50],.ren 50 600] rfl ?_
  cases h
  exact d1_ rfl rfl ⟨rfl,tt_⟩
 replace h:Qrw E=some r:=h
 rintro e σ ⟨rfl,rfl⟩
 refine tg_ hC [.n 9,.K [6] [50],.ren 50 600] rfl ?_
 cases h
 exact d1_ rfl rfl ⟨rfl,tt_⟩
def QfF (e:(List Qq))(f:Qk)(b:QMk)(a:Int):Option ((QMk×Int)⊕((QMk×Int)⊕QMk)):=
 bif (decide (a<(e.length:Int)))then
 (idx e a).bind fun d=>
 (Qek f b d).bind fun c=>
 bif (c.2 != 0)then
 some (.inr (.inl (b,a)))
 else
 some (.inl (c.1,(w64 (a+1))))
 else
 some (.inr (.inr b))
def QtL (a:QMk)(b:Int):Option (QMk×Int):=
 some (a,b)
def QtM (b:(List Qq))(a:QMk):Option (QMk×Int):=
 some (a,(b.length:Int))
def QpC (b:Qk)(c:QMk)(a:(List Qq)):Option (QMk×Int):=
 (Qmj c).bind fun d=>
 (QE (fun st=>QfF a b st.1 st.2) (d,0)).bind (Sum.elim (fun q=>QtL q.1 q.2) (fun q=>QtM a q))
theorem Qy5 (i y f){r}(h:QpC i y f=some r):Qd prog 29 [.agg (Qe i),.sl 1 (y.map Qm),.sl 4 (f.map Qo)] [] (Gives (.tup [.sl 1 (r.1.map Qm),.I r.2]) []):=by
 refine Qd.walk 37 func29 rfl rfl rfl fun C hC=>?_
 obtain⟨p,s,h⟩:=Qc h
 refine Qa hC [.n 10,.o (.co false [.d] 1 (p.map Qm) p.length),.n 7,.o (.ln f.length),.n 4,.frz 13 (p.map Qm) [1] [],.K [1,2,3,14,15,16] [3]] rfl ⟨⟨⟨tt_,⟨(Qsv _ s),Qg,.inl rfl⟩⟩,Qg⟩,⟨tt_,(Qci Qg)⟩⟩ ?_
 obtain⟨t,j,h⟩:=Qc h
 refine AK.loop (body:=(fun st=>QfF f i st.1 st.2)) (fun st σ=>σ=⟨[(1,.sl 1 (st.1.map Qm)),(2,.sl 4 (f.map Qo)),(3,.loc 3 0 0),(14,.sl 4 (f.map Qo)),(15,.I (f.length:Int)),(16,.I st.2)],[(3,.var (Qe i))]⟩) (Sum.elim (fun q e σ=>e=.ret∧σ=⟨[(6,.sl 1 (q.1.map Qm)),(7,.I q.2)],[]⟩) (fun q e σ=>e=.exit 0∧σ=⟨[(1,.sl 1 (q.map Qm)),(2,.sl 4 (f.map Qo))],[]⟩)) j rfl ?_ ?_
 ·rintro ⟨z,A⟩ o σ rfl h
  refine tg_ hC [.n 6] rfl ?_
  rcases Qt h with⟨a,h⟩|⟨a,h⟩
  ·obtain⟨g,k,h⟩:=Qc h
   obtain⟨l,m,h⟩:=Qc h
   refine Qa hC [.T,.n 7,.o (.row (Qo g)),.v .no [] (.agg (Qo g)),.n 3,.O 9 (.var (Qo g)),.n 4,.v .no [] (.agg (Qe i)),.n 1,.v .no [] (.agg (Qo g)),.o (.c false [.d,.d,.d] (.tup [.sl 1 (l.1.map Qm),.I l.2])),.n 14] rfl ⟨⟨⟨⟨⟨⟨⟨tt_,a⟩,(QJ k)⟩,rfl⟩,rfl⟩,rfl⟩,rfl⟩,(QuR _ _ _ m)⟩ ?_
   refine bg_ h (fun b h=>Qa hC [.T,.n 12,.K [6,7] []] rfl ⟨tt_,b⟩ ?_) fun b h=>Qa hC [.F,.n 12,.K [1,2,3,14,15,16] [3]] rfl ⟨tt_,b⟩ ?_
   ·cases h
    exact Qal rfl (an_ rfl rfl)
   cases h
   exact QZ rfl rfl
  refine Qa hC [.F,.n 2,.K [1,2] []] rfl ⟨tt_,a⟩ ?_
  cases h
  exact Q1 rfl (an_ rfl rfl)
 rcases t with(⟨u,w⟩|x)
 ·replace h:QtL u w=some r:=h
  rintro e σ ⟨rfl,rfl⟩
  refine tg_ hC [.n 2] rfl ?_
  cases h
  exact d2_ rfl rfl rfl tt_
 replace h:QtM f x=some r:=h
 rintro e σ ⟨rfl,rfl⟩
 refine Qa hC [.n 6,.o (.ln f.length),.n 5] rfl ⟨tt_,Qg⟩ ?_
 cases h
 exact d2_ rfl rfl rfl tt_
def Qdl (a:Int):Option (Int⊕(Unit⊕Unit)):=
 some (.inl (w64 (a+1)))
def Qmk (a:(List Int))(b:Int)(c:(QMk×Int))(d:(Int×Int)):Option Bool:=
 (idx a b).bind fun e=>
 bif (decide (e<0))then
 some true
 else
 (idx a b).bind fun f=>
 bif (decide ((c.1.length:Int)≤f))then
 some true
 else
 (idx a b).bind fun g=>
 (idx c.1 g).bind fun h=>
 (Qjt h).bind fun i=>
 some (decide (d.1<i))
def Qe4 (a:Int)(b:Bool):Option (Int⊕(Unit⊕Unit)):=
 bif b then
 some (.inr (.inl ()))
 else
 some (.inl (w64 (a+1)))
def Qdm (b:(List Int))(c:(QMk×Int))(d:(Int×Int))(a:Int):Option (Int⊕(Unit⊕Unit)):=
 bif (decide (a<(b.length:Int)))then
 (Qmk b a c d).bind (fun e=>Qe4 a e)
 else
 some (.inr (.inr ()))
def Qml : Option (Int⊕(Unit⊕Unit)):=
 some (.inr (.inl ()))
def QhK (a:Int):Option (Int⊕(Unit⊕Unit)):=
 Qdl a
def Qdn (b:(QLL×Int))(h:Qk)(i:QMk)(d:(QMk×Int))(a:Int):Option (Int⊕(Unit⊕Unit)):=
 bif (decide (a<(b.1.length:Int)))then
 (idx b.1 a).bind fun e=>
 (Qhn ([e]:List (List Int)) (h.Places.length:Int)).bind fun f=>
 (idx b.1 a).bind fun g=>
 (Qjg g i).bind fun c=>
 bif (c.2 != 0)then
 Qdl a
 else
 (QE (fun st=>Qdm f d c st) 0).bind (Sum.elim (fun q=>Qml) (fun q=>QhK a))
 else
 some (.inr (.inr ()))
def Qmm : Option Bool:=
 some false
def Qmn (a:Bool):Option Bool:=
 some a
def QeG (b:Qk)(d:QMk)(a:(List Int)):Option Bool:=
 (Qmv).bind fun e=>
 (Qnu b).bind fun h=>
 (Qnw b d).bind fun i=>
 bif ((!h)||((!i)||(decide (8<(a.length:Int)))))then
 some e
 else
 (QfB b).bind fun c=>
 bif (c.2 != 0)then
 some e
 else
 (QnG b d a).bind fun f=>
 (QpC b d f).bind fun g=>
 (QE (fun st=>Qdn c b d g st) 0).bind (Sum.elim (fun q=>Qmm) (fun q=>Qmn e))
theorem QrX (l D f){r}(h:QeG l D f=some r):Qd prog 8 [.agg (Qe l),.sl 1 (D.map Qm),.sl 1 (f.map Qb)] [] (Gives (.b r) []):=by
 refine Qd.walk 114 func8 rfl rfl rfl fun C hC=>?_
 obtain⟨E,a9,h⟩:=Qc h
 obtain⟨O,b0,h⟩:=Qc h
 obtain⟨P,b1,h⟩:=Qc h
 refine Qa hC [.n 8,.o (.c false [] (.b E)),.n 5,.v .no [] (.agg (Qe l)),.o (.c false [.d] (.b O)),.n 5,.v .no [] (.agg (Qe l)),.n 1,.o (.c false [.d,.d] (.b P)),.n 5] rfl ⟨⟨⟨⟨⟨tt_,(Qwi  a9)⟩,rfl⟩,(Qxg _ b0)⟩,rfl⟩,(Qxi _ _ b1)⟩ ?_
 refine AK.meetX (fun σ=>σ=⟨[(1,.sl 1 (D.map Qm)),(2,.sl 1 (f.map Qb)),(3,.loc 3 0 0),(7,.b E),(35,.b ((!O)||((!P)||(decide (8<(f.length:Int))))))],[(3,.var (Qe l))]⟩) ?_ ?_
 ·refine tg_ hC [.n 4] rfl ?_
  rcases Q0 (!O)with i | i
  ·refine Qa hC [.S 27 (.b true),.n 9,.S 35 (.b ((!O)||((!P)||(decide (8<(f.length:Int)))))),.K [1,2,3,7,35] [3]] rfl ⟨(tc_ i),(congrArg V.b (orT i rfl))⟩ ?_
   exact AK.met rfl
  refine Qa hC [.S 27 (.b false),.n 4] rfl (tc_ i) ?_
  rcases Q0 (!P)with k | k
  ·refine Qa hC [.S 31 (.b true),.n 5,.S 35 (.b ((!O)||((!P)||(decide (8<(f.length:Int)))))),.K [1,2,3,7,35] [3]] rfl ⟨(tc_ k),(congrArg V.b (orF i (orT k rfl)))⟩ ?_
   exact AK.met rfl
  refine Qa hC [.S 31 (.b false),.n 1,.o (.ln f.length),.n 3,.S 35 (.b ((!O)||((!P)||(decide (8<(f.length:Int)))))),.K [1,2,3,7,35] [3]] rfl ⟨⟨(tc_ k),Qg⟩,(congrArg V.b (orF i (orF k rfl)))⟩ ?_
  exact AK.met rfl
 rintro σ rfl
 refine tg_ hC [.n 1] rfl ?_
 rcases Qt h with⟨s,h⟩|⟨s,h⟩
 ·refine Qa hC [.T,.n 8] rfl ⟨tt_,s⟩ ?_
  cases h
  exact d1_ rfl rfl tt_
 obtain⟨j,U,h⟩:=Qc h
 refine Qa hC [.F,.n 4,.v .no [] (.agg (Qe l)),.o (.c false [.d] (.tup [.sl 1 (j.1.map Qj),.I j.2])),.n 14] rfl ⟨⟨⟨tt_,s⟩,rfl⟩,(Qp3 _ U)⟩ ?_
 rcases Qt h with⟨t,h⟩|⟨t,h⟩
 ·refine Qa hC [.T,.n 8] rfl ⟨tt_,t⟩ ?_
  cases h
  exact d1_ rfl rfl tt_
 obtain⟨W,X,h⟩:=Qc h
 obtain⟨g,Y,h⟩:=Qc h
 refine Qa hC [.F,.n 3,.K [1,2,3,7,10] [3]] rfl ⟨tt_,t⟩ ?_
 refine AK.draw2 Qs hC mixed [.a .no (some ([],.agg (Qe l))) false,.N,.a .no (some ([],.agg (Qe l))) false,.N,.N,.a (.cd false [.d,.d,.d] 4 (W.map Qo) W.length) none false,.a (.c false [.d,.d,.d] (.tup [.sl 1 (g.1.map Qm),.I g.2])) none false,.N,.N,.N,.N,.N] [] [] [1,3,7,10,12] [3] rfl rfl rfl ⟨⟨⟨⟨tt_,rfl⟩,rfl⟩,⟨(Qxo _ _ _ X),Qg⟩⟩,(Qy5 _ _ _ Y)⟩ rfl (by kernel_rfl) rfl rfl rfl ?_
 refine tg_ hC [.n 8,.K [1,3,7,10,12,14] [3]] rfl ?_
 obtain⟨b2,Z,h⟩:=Qc h
 refine AK.loop (body:=(fun st=>Qdn j l D g st)) (fun st σ=>σ=⟨[(1,.sl 1 (D.map Qm)),(3,.loc 3 0 0),(7,.b E),(10,.sl 1 (j.1.map Qj)),(12,.sl 1 (g.1.map Qm)),(14,.I st)],[(3,.var (Qe l))]⟩) (Sum.elim (fun q e σ=>e=.ret∧σ=⟨[(6,.b false)],[]⟩) (fun q e σ=>e=.exit 0∧σ=⟨[(7,.b E)],[]⟩)) Z rfl ?_ ?_
 ·rintro p o σ rfl h
  refine Qa hC [.n 5,.o (.ln j.1.length),.n 3] rfl ⟨tt_,Qg⟩ ?_
  refine bg_ h (fun u h=>Qa hC [.T,.n 2] rfl ⟨tt_,u⟩ ?_) fun u h=>Qa hC [.F,.n 2,.K [7] []] rfl ⟨tt_,u⟩ ?_
  ·refine AK.meet (fun σ=>σ=⟨[(1,.sl 1 (D.map Qm)),(3,.loc 3 0 0),(7,.b E),(10,.sl 1 (j.1.map Qj)),(12,.sl 1 (g.1.map Qm)),(14,.I p)],[(3,.var (Qe l))]⟩∧Qdl p=some o) ?_ ?_
   ·obtain⟨a0,a1,h⟩:=Qc h
    obtain⟨m,a2,h⟩:=Qc h
    refine tg_ hC [.n 2,.K [1,3,7,10,12,14] [3]] rfl ?_
    refine AK.draw2 Qs hC mixed [.N,.N,.a (.row (Qj a0)) none false,.N,.a (.bd []) (some ([],.sl 1 (([a0]:List (List Int)).map Qj))) false,.N,.N,.a (.ln l.Places.length) none false,.a (.co false [.d,.d] 1 (m.map Qb) m.length) none false,.N] [] [] [1,3,7,10,12,14,15] [3,69] rfl rfl rfl ⟨⟨⟨⟨tt_,(QJ a1)⟩,rfl⟩,Qg⟩,⟨(QoF _ _ a2),Qg,.inl rfl⟩⟩ rfl (by kernel_rfl) rfl rfl rfl ?_
    obtain⟨b3,a3,h⟩:=Qc h
    obtain⟨w,a4,h⟩:=Qc h
    refine Qa hC [.n 5,.o (.row (Qj b3)),.n 2,.o (.c false [.d,.d] (.tup [.I w.1,.I w.2])),.n 14] rfl ⟨⟨tt_,(QJ a3)⟩,(Qp6 _ _ a4)⟩ ?_
    refine bg_ h (fun x h=>Qa hC [.T,.n 3,.K [1,3,7,10,12,14] [3]] rfl ⟨tt_,x⟩ ?_) fun x h=>Qa hC [.F,.n 8,.K [1,3,7,10,12,14,15,16,18] [3,69]] rfl ⟨tt_,x⟩ ?_
    ·exact AK.met (an_ rfl h)
    obtain⟨b4,a5,h⟩:=Qc h
    refine AK.loop (body:=(fun st=>Qdm m g w st)) (fun st σ=>σ=⟨[(1,.sl 1 (D.map Qm)),(3,.loc 3 0 0),(7,.b E),(10,.sl 1 (j.1.map Qj)),(12,.sl 1 (g.1.map Qm)),(14,.I p),(15,.own 69 m.length),(16,.I w.1),(18,.I st)],[(3,.var (Qe l)),(69,.arr 1 (m.map Qb))]⟩) (Sum.elim (fun q e σ=>e=.ret∧σ=⟨[(6,.b false)],[]⟩) (fun q e σ=>e=.exit 2∧σ=⟨[(1,.sl 1 (D.map Qm)),(3,.loc 3 0 0),(7,.b E),(10,.sl 1 (j.1.map Qj)),(12,.sl 1 (g.1.map Qm)),(14,.I p)],[(3,.var (Qe l))]⟩)) a5 rfl ?_ ?_
    ·rintro L o σ rfl h
     refine tg_ hC [.n 9] rfl ?_
     refine bg_ h (fun y h=>Qa hC [.T,.n 5] rfl ⟨tt_,y⟩ ?_) fun y h=>Qa hC [.F,.n 2,.K [1,3,7,10,12,14] [3]] rfl ⟨tt_,y⟩ ?_
     ·obtain⟨M,a6,h⟩:=Qc h
      replace h:Qe4 L M=some o:=h
      refine AK.meetX (fun σ=>σ=⟨[(1,.sl 1 (D.map Qm)),(3,.loc 3 0 0),(7,.b E),(10,.sl 1 (j.1.map Qj)),(12,.sl 1 (g.1.map Qm)),(14,.I p),(15,.own 69 m.length),(16,.I w.1),(18,.I L),(112,.b M)],[(3,.var (Qe l)),(69,.arr 1 (m.map Qb))]⟩) ?_ ?_
      ·replace h:=a6
       obtain⟨b5,G,h⟩:=Qc h
       refine Qa hC [.n 4,.o (.row (Qb b5)),.n 2] rfl ⟨⟨tt_,(Qbx G rfl)⟩,(QaJ (Qca G).2)⟩ ?_
       rcases Qt h with⟨z,h⟩|⟨z,h⟩
       ·refine Qa hC [.S 92 (.b true),.n 21,.K [1,3,7,10,12,14,15,16,18,112] [3,69]] rfl (tc_ z) ?_
        cases h
        exact AK.met rfl
       obtain⟨b6,H,h⟩:=Qc h
       refine Qa hC [.S 92 (.b false),.n 3,.o (.row (Qb b6)),.n 1,.o (.ln g.1.length),.n 3] rfl ⟨⟨⟨(tc_ z),(Qbx H rfl)⟩,(QaJ (Qca H).2)⟩,Qg⟩ ?_
       rcases Qt h with⟨A,h⟩|⟨A,h⟩
       ·refine Qa hC [.S 101 (.b true),.n 12,.K [1,3,7,10,12,14,15,16,18,112] [3,69]] rfl (tc_ A) ?_
        cases h
        exact AK.met rfl
       obtain⟨b7,J,h⟩:=Qc h
       obtain⟨b8,a7,h⟩:=Qc h
       obtain⟨b9,a8,h⟩:=Qc h
       refine Qa hC [.S 101 (.b false),.n 4,.o (.row (Qb b7)),.o (.row (Qm b8)),.n 1,.o (.c false [.d] (.I b9)),.n 4,.K [1,3,7,10,12,14,15,16,18,112] [3,69]] rfl ⟨⟨⟨⟨(tc_ A),(Qbx J rfl)⟩,(QaJ (Qca J).2)⟩,(QJ a7)⟩,(Qsd _ a8)⟩ ?_
       cases h
       exact AK.met rfl
      rintro σ rfl
      replace h:Qe4 L M=some o:=h
      refine tg_ hC [.n 1] rfl ?_
      refine bg_ h (fun B h=>Qa hC [.T,.n 8,.K [6] []] rfl ⟨tt_,B⟩ ?_) fun B h=>Qa hC [.F,.n 8,.K [1,3,7,10,12,14,15,16,18] [3,69]] rfl ⟨tt_,B⟩ ?_
      ·cases h
       exact Qal rfl (an_ rfl rfl)
      cases h
      exact QZ rfl rfl
     cases h
     exact Q1 rfl (an_ rfl rfl)
    rcases b4 with(_ | _)
    ·replace h:Qml=some o:=h
     rintro e σ ⟨rfl,rfl⟩
     refine tg_ hC [.n 3,.K [6] []] rfl ?_
     cases h
     exact Qal rfl (an_ rfl rfl)
    replace h:QhK p=some o:=h
    unfold QhK at h
    rintro e σ ⟨rfl,rfl⟩
    refine tg_ hC [.n 2,.K [1,3,7,10,12,14] [3]] rfl ?_
    exact AK.met (an_ rfl h)
   rintro σ ⟨rfl,h⟩
   refine tg_ hC [.n 5,.K [1,3,7,10,12,14] [3]] rfl ?_
   cases h
   exact QZ rfl rfl
  cases h
  exact Q1 rfl (an_ rfl rfl)
 rcases b2 with(_ | _)
 ·replace h:Qmm=some r:=h
  rintro e σ ⟨rfl,rfl⟩
  refine tg_ hC [.n 2] rfl ?_
  cases h
  exact d1_ rfl rfl tt_
 replace h:Qmn E=some r:=h
 rintro e σ ⟨rfl,rfl⟩
 refine tg_ hC [.n 9] rfl ?_
 cases h
 exact d1_ rfl rfl tt_

end Go.Proofs
