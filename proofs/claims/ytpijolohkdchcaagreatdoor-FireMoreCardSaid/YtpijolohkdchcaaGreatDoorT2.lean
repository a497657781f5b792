/- What functions of the program do, as functions over plain data, and the walks that show it: printed by a program. -/
import Derived.Test.YtpijolohkdchcaaGreatDoorT1
set_option linter.unusedVariables false
set_option linter.unusedSimpArgs false
set_option linter.unusedSectionVars false
set_option linter.deprecated false
set_option maxRecDepth 100000
set_option maxHeartbeats 4000000
noncomputable section
namespace Go.Proofs
open Go Go.RowKit Go.Vm
def Qek (x13:Int)(l19:(List (List (Int×Int)))):Option ((Int×(List (List (Int×Int))))⊕(List (List (Int×Int)))):=
 some (.inl ((w64 (x13+1)),l19))
def Qcr (e11:Qr)(x13:Int)(l14:(List (List (Int×Int)))):Option ((Int×(List (List (Int×Int))))⊕(List (List (Int×Int)))):=
 bif (decide (x13<(e11.Cancel.length:Int)))then
 (idx e11.Cancel x13).bind fun e20=>
 bif ((decide (0≤e20))&&(decide (e20<(l14.length:Int))))then
 (idx l14 e20).bind fun e24=>
 Qek x13 (l14.set e20.toNat ([]:List (Int×Int)))
 else
 Qek x13 l14
 else
 some (.inr l14)
def Qgc (x8:((List (List (Int×Int)))×Int))(l17:(List (List (Int×Int)))):Option ((List (List (Int×Int)))×Int):=
 (QaN l17 x8.1).bind fun x26=>
 some (x26.1,x26.2)
def QcD (n1:TNet)(m2:(List (List (Int×Int))))(o3:Qk):Option ((List (List (Int×Int)))×Int):=
 (QeE n1 o3).bind fun x8=>
 bif (x8.2 != 0)then
 some (([]:List (List (Int×Int))),x8.2)
 else
 (Qg9 m2).bind fun x10=>
 (idx n1.Tasks o3.Task).bind fun e11=>
 (QF (fun st=>Qcr e11 st.1 st.2) (0,x10)).bind (fun q=>Qgc x8 q)
theorem QqM (n1:TNet)(m2:(List (List (Int×Int))))(o3:Qk){r:((List (List (Int×Int)))×Int)}(h:QcD n1 m2 o3=some r):Qc Tryz.prog 12 [.agg (Qd n1),.sl 1 (m2.map Qf),.agg (Qj o3)] [] (Gives (.tup [.sl 1 (r.1.map Qf),.i .i64 r.2]) []):=by
 refine Qc.walk 53 Tryz.func12 rfl Tryz.ntmps12 rfl fun C hC=>?_
 unfold QcD at h
 obtain⟨x8,hx8,h⟩:=Qb h
 refine Qa hC [.n 10,.v .no [] (.agg (Qd n1)),.v .no [] (.agg (Qj o3)),.o (.c false [.d,.d] (.tup [.sl 1 (x8.1.map Qf),.i .i64 x8.2])),.n 14] rfl ⟨⟨⟨tt_,rfl⟩,rfl⟩,(Qqb _ _ hx8)⟩ ?_
 rcases bifE h with⟨hc9,h⟩|⟨hc9,h⟩
 ·refine Qa hC [.br true,.n 9,.denil 6 [some 1],.keep [6,7] []] rfl ⟨tt_,hc9⟩ ?_
  cases h
  exact AK.done (ex_ [_,_] (an_ (an_ rfl (an_ rfl tt_)) (gives tt_)))
 ·obtain⟨x10,hx10,h⟩:=Qb h
  obtain⟨e11,he11,h⟩:=Qb h
  refine Qa hC [.br false,.n 5,.o (.co false [.d] 1 (x10.map Qf) x10.length),.n 10,.o (.row (Qi e11)),.n 2,.o (.ln e11.Cancel.length),.n 4,.keep [8,10,30,31,32] [23]] rfl ⟨⟨⟨⟨tt_,hc9⟩,⟨(Qmx _ hx10),Qg,.inl rfl⟩⟩,(idxM he11)⟩,Qg⟩ ?_
  obtain⟨l17,hl25,h⟩:=Qb h
  refine AK.loop (body:=(fun st=>Qcr e11 st.1 st.2)) (fun st σ=>σ=⟨[(8,.sl 1 (x8.1.map Qf)),(10,.own 23 st.2.length),(30,.sl 1 (e11.Cancel.map Qe)),(31,.i .i64 (e11.Cancel.length:Int)),(32,.i .i64 st.1)],[(23,.arr 1 (st.2.map Qf))]⟩) (fun q e σ=>e=.exit 0∧σ=⟨[(8,.sl 1 (x8.1.map Qf)),(10,.own 23 q.length)],[(23,.arr 1 (q.map Qf))]⟩) hl25 rfl ?_ ?_
  ·rintro ⟨x13,l14⟩ o σ rfl h
   replace h:Qcr e11 x13 l14=some o:=h
   unfold Qcr at h
   refine Qa hC [.n 6] rfl tt_ ?_
   rcases bifE h with⟨hc18,h⟩|⟨hc18,h⟩
   ·refine Qa hC [.br true,.n 2] rfl ⟨tt_,hc18⟩ ?_
    refine AK.meet (fun σ=>∃l19:(List (List (Int×Int))),σ=⟨[(8,.sl 1 (x8.1.map Qf)),(10,.own 23 l19.length),(30,.sl 1 (e11.Cancel.map Qe)),(31,.i .i64 (e11.Cancel.length:Int)),(32,.i .i64 x13)],[(23,.arr 1 (l19.map Qf))]⟩∧Qek x13 l19=some o) ?_ ?_
    ·obtain⟨e20,he20,h⟩:=Qb h
     refine Qa hC [.n 3,.o (.row (Qe e20)),.n 5] rfl ⟨tt_,(idxM he20)⟩ ?_
     refine AK.meetX (fun σ=>σ=⟨[(8,.sl 1 (x8.1.map Qf)),(10,.own 23 l14.length),(12,.i .i64 e20),(30,.sl 1 (e11.Cancel.map Qe)),(31,.i .i64 (e11.Cancel.length:Int)),(32,.i .i64 x13),(43,.b ((decide (0≤e20))&&(decide (e20<(l14.length:Int)))))],[(23,.arr 1 (l14.map Qf))]⟩) ?_ ?_
     ·refine Qa hC [.n 4] rfl tt_ ?_
      rcases QJ (decide (0≤e20))with hc22 | hc22
      ·refine Qa hC [.say 38 (.b true),.n 6,.say 43 (.b ((decide (0≤e20))&&(decide (e20<(l14.length:Int))))),.keep [8,10,12,30,31,32,43] [23]] rfl ⟨⟨tt_,(congrArg V.b hc22)⟩,(congrArg V.b (andT hc22 rfl))⟩ ?_
       exact AK.met rfl
      ·refine Qa hC [.say 38 (.b false),.n 6,.say 43 (.b ((decide (0≤e20))&&(decide (e20<(l14.length:Int))))),.keep [8,10,12,30,31,32,43] [23]] rfl ⟨⟨tt_,(congrArg V.b hc22)⟩,(congrArg V.b (andF hc22 rfl))⟩ ?_
       exact AK.met rfl
     ·rintro σ rfl
      refine Qa hC [.n 1] rfl tt_ ?_
      rcases bifE h with⟨hc23,h⟩|⟨hc23,h⟩
      ·obtain⟨e24,he24,h⟩:=Qb h
       refine Qa hC [.br true,.n 4,.x (fun σ=>σ.set 23 (.arr 1 ((l14.set e20.toNat ([]:List (Int×Int))).map Qf))),.n 2,.say 10 (.own 23 (l14.set e20.toNat ([]:List (Int×Int))).length),.keep [8,10,30,31,32] [23]] rfl ⟨⟨⟨⟨tt_,hc23⟩,(Qe0 he24 rfl)⟩,(Stp.storeNil (zz:=2) (r:=Qf e24) rfl rfl rfl rfl (QcE (idxE he24).2) rfl (Qp.sz rfl) rfl (Qjk rfl))⟩,(congrArg (fun n=>V.own 23 n) (by simp))⟩ ?_
       exact AK.met (ex_ _ (an_ rfl h))
      ·refine Qa hC [.br false,.n 2,.keep [8,10,30,31,32] [23]] rfl ⟨tt_,hc23⟩ ?_
       exact AK.met (ex_ _ (an_ rfl h))
    ·rintro σ ⟨l19,rfl,h⟩
     unfold Qek at h
     refine Qa hC [.n 4,.keep [8,10,30,31,32] [23]] rfl tt_ ?_
     cases h
     exact rndN rfl rfl
   ·refine Qa hC [.br false,.n 2,.keep [8,10] [23]] rfl ⟨tt_,hc18⟩ ?_
    cases h
    exact rndX rfl (an_ rfl rfl)
  ·replace h:Qgc x8 l17=some r:=h
   unfold Qgc at h
   rintro e σ ⟨rfl,rfl⟩
   obtain⟨x26,hx26,h⟩:=Qb h
   refine Qa hC [.n 6,.frz 23 (l17.map Qf) [10,48] [],.cm (.fn) [] [] [] [.d,.d,.d] [] (.tup [.sl 1 (x26.1.map Qf),.i .i64 x26.2]),.n 7,.keep [6,7] []] rfl ⟨⟨tt_,⟨⟨tt_,(frzL Qg)⟩,(frzL Qg)⟩⟩,(Qj5 _ _ hx26)⟩ ?_
   cases h
   exact AK.done (ex_ [_,_] (an_ (an_ rfl (an_ rfl tt_)) (gives tt_)))
def Qbb (n1:TNet)(m2:(List (List (Int×Int))))(o3:Qk):Option ((List (List (Int×Int)))×Int):=
 (QbL n1 m2 o3).bind fun x8=>
 bif (x8.2 != 0)then
 some (([]:List (List (Int×Int))),x8.2)
 else
 (QcD n1 x8.1 o3).bind fun x10=>
 some (x10.1,x10.2)
theorem Qgd (n1:TNet)(m2:(List (List (Int×Int))))(o3:Qk){r:((List (List (Int×Int)))×Int)}(h:Qbb n1 m2 o3=some r):Qc Tryz.prog 16 [.agg (Qd n1),.sl 1 (m2.map Qf),.agg (Qj o3)] [] (Gives (.tup [.sl 1 (r.1.map Qf),.i .i64 r.2]) []):=by
 refine Qc.walk 26 Tryz.func16 rfl Tryz.ntmps16 rfl fun C hC=>?_
 unfold Qbb at h
 obtain⟨x8,hx8,h⟩:=Qb h
 refine Qa hC [.n 10,.v .no [] (.agg (Qd n1)),.n 1,.v .no [] (.agg (Qj o3)),.o (.c false [.d,.d,.d] (.tup [.sl 1 (x8.1.map Qf),.i .i64 x8.2])),.n 14] rfl ⟨⟨⟨tt_,rfl⟩,rfl⟩,(Qmw _ _ _ hx8)⟩ ?_
 rcases bifE h with⟨hc9,h⟩|⟨hc9,h⟩
 ·refine Qa hC [.br true,.n 9,.denil 6 [some 1],.keep [6,7] []] rfl ⟨tt_,hc9⟩ ?_
  cases h
  exact AK.done (ex_ [_,_] (an_ (an_ rfl (an_ rfl tt_)) (gives tt_)))
 ·obtain⟨x10,hx10,h⟩:=Qb h
  refine Qa hC [.br false,.n 4,.v .no [] (.agg (Qd n1)),.n 1,.v .no [] (.agg (Qj o3)),.o (.c false [.d,.d,.d] (.tup [.sl 1 (x10.1.map Qf),.i .i64 x10.2])),.n 7,.keep [6,7] []] rfl ⟨⟨⟨⟨tt_,hc9⟩,rfl⟩,rfl⟩,(QqM _ _ _ hx10)⟩ ?_
  cases h
  exact AK.done (ex_ [_,_] (an_ (an_ rfl (an_ rfl tt_)) (gives tt_)))
def Qmg (n1:TNet)(m2:(List (List (Int×Int))))(o3:Qk):Option ((List (List (Int×Int)))×Int):=
 (QbF n1 o3).bind fun x8=>
 bif (x8.2 != 0)then
 some (([]:List (List (Int×Int))),x8.2)
 else
 (QaN m2 x8.1).bind fun x10=>
 some (x10.1,x10.2)
theorem QqN (n1:TNet)(m2:(List (List (Int×Int))))(o3:Qk){r:((List (List (Int×Int)))×Int)}(h:Qmg n1 m2 o3=some r):Qc Tryz.prog 14 [.agg (Qd n1),.sl 1 (m2.map Qf),.agg (Qj o3)] [] (Gives (.tup [.sl 1 (r.1.map Qf),.i .i64 r.2]) []):=by
 refine Qc.walk 24 Tryz.func14 rfl Tryz.ntmps14 rfl fun C hC=>?_
 unfold Qmg at h
 obtain⟨x8,hx8,h⟩:=Qb h
 refine Qa hC [.n 10,.v .no [] (.agg (Qd n1)),.v .no [] (.agg (Qj o3)),.o (.c false [.d,.d] (.tup [.sl 1 (x8.1.map Qf),.i .i64 x8.2])),.n 14] rfl ⟨⟨⟨tt_,rfl⟩,rfl⟩,(Ql3 _ _ hx8)⟩ ?_
 rcases bifE h with⟨hc9,h⟩|⟨hc9,h⟩
 ·refine Qa hC [.br true,.n 9,.denil 6 [some 1],.keep [6,7] []] rfl ⟨tt_,hc9⟩ ?_
  cases h
  exact AK.done (ex_ [_,_] (an_ (an_ rfl (an_ rfl tt_)) (gives tt_)))
 ·obtain⟨x10,hx10,h⟩:=Qb h
  refine Qa hC [.br false,.n 6,.cm (.fn) [] [] [] [.d,.d,.d] [] (.tup [.sl 1 (x10.1.map Qf),.i .i64 x10.2]),.n 7,.keep [6,7] []] rfl ⟨⟨tt_,hc9⟩,(Qj5 _ _ hx10)⟩ ?_
  cases h
  exact AK.done (ex_ [_,_] (an_ (an_ rfl (an_ rfl tt_)) (gives tt_)))
def QiM (l3:(List Qk))(n1:TNet)(m10:(List (List (Int×Int))))(x11:Int):Option (((List (List (Int×Int)))×Int)⊕(((List (List (Int×Int)))×Int)⊕(List (List (Int×Int))))):=
 bif (decide (x11<(l3.length:Int)))then
 (idx l3 x11).bind fun e18=>
 (Qbb n1 m10 e18).bind fun x19=>
 bif (x19.2 != 0)then
 some (.inr (.inl (m10,x11)))
 else
 some (.inl (x19.1,(w64 (x11+1))))
 else
 some (.inr (.inr m10))
def QkM (x14:(List (List (Int×Int))))(x15:Int):Option ((List (List (Int×Int)))×Int):=
 some (x14,x15)
def QkN (l3:(List Qk))(m16:(List (List (Int×Int)))):Option ((List (List (Int×Int)))×Int):=
 some (m16,(l3.length:Int))
def Qm9 (n1:TNet)(m2:(List (List (Int×Int))))(l3:(List Qk)):Option ((List (List (Int×Int)))×Int):=
 (Qg9 m2).bind fun x8=>
 (QF (fun st=>QiM l3 n1 st.1 st.2) (x8,0)).bind (Sum.elim (fun q=>QkM q.1 q.2) (fun q=>QkN l3 q))
theorem Qrl (n1:TNet)(m2:(List (List (Int×Int))))(l3:(List Qk)){r:((List (List (Int×Int)))×Int)}(h:Qm9 n1 m2 l3=some r):Qc Tryz.prog 19 [.agg (Qd n1),.sl 1 (m2.map Qf),.sl 4 (l3.map Qj)] [] (Gives (.tup [.sl 1 (r.1.map Qf),.i .i64 r.2]) []):=by
 refine Qc.walk 37 Tryz.func19 rfl Tryz.ntmps19 rfl fun C hC=>?_
 unfold Qm9 at h
 obtain⟨x8,hx8,h⟩:=Qb h
 refine Qa hC [.n 10,.o (.co false [.d] 1 (x8.map Qf) x8.length),.n 7,.o (.ln l3.length),.n 4,.frz 13 (x8.map Qf) [1] [],.keep [1,2,3,14,15,16] [3]] rfl ⟨⟨⟨tt_,⟨(Qmx _ hx8),Qg,.inl rfl⟩⟩,Qg⟩,⟨tt_,(frzL Qg)⟩⟩ ?_
 obtain⟨o21,hl21,h⟩:=Qb h
 refine AK.loop (body:=(fun st=>QiM l3 n1 st.1 st.2)) (fun st σ=>σ=⟨[(1,.sl 1 (st.1.map Qf)),(2,.sl 4 (l3.map Qj)),(3,.loc 3 0 0),(14,.sl 4 (l3.map Qj)),(15,.i .i64 (l3.length:Int)),(16,.i .i64 st.2)],[(3,.var (Qd n1))]⟩) (Sum.elim (fun q e σ=>e=.ret∧σ=⟨[(6,.sl 1 (q.1.map Qf)),(7,.i .i64 q.2)],[]⟩) (fun q e σ=>e=.exit 0∧σ=⟨[(1,.sl 1 (q.map Qf)),(2,.sl 4 (l3.map Qj))],[]⟩)) hl21 rfl ?_ ?_
 ·rintro ⟨m10,x11⟩ o σ rfl h
  replace h:QiM l3 n1 m10 x11=some o:=h
  unfold QiM at h
  refine Qa hC [.n 6] rfl tt_ ?_
  rcases bifE h with⟨hc17,h⟩|⟨hc17,h⟩
  ·obtain⟨e18,he18,h⟩:=Qb h
   obtain⟨x19,hx19,h⟩:=Qb h
   refine Qa hC [.br true,.n 7,.o (.row (Qj e18)),.v .no [] (.agg (Qj e18)),.n 3,.sayO 9 (.var (Qj e18)),.n 4,.v .no [] (.agg (Qd n1)),.n 1,.v .no [] (.agg (Qj e18)),.o (.c false [.d,.d,.d] (.tup [.sl 1 (x19.1.map Qf),.i .i64 x19.2])),.n 14] rfl ⟨⟨⟨⟨⟨⟨⟨tt_,hc17⟩,(idxM he18)⟩,rfl⟩,rfl⟩,rfl⟩,rfl⟩,(Qgd _ _ _ hx19)⟩ ?_
   rcases bifE h with⟨hc20,h⟩|⟨hc20,h⟩
   ·refine Qa hC [.br true,.n 12,.keep [6,7] []] rfl ⟨tt_,hc20⟩ ?_
    cases h
    exact rndR rfl (an_ rfl rfl)
   ·refine Qa hC [.br false,.n 12,.keep [1,2,3,14,15,16] [3]] rfl ⟨tt_,hc20⟩ ?_
    cases h
    exact rndN rfl rfl
  ·refine Qa hC [.br false,.n 2,.keep [1,2] []] rfl ⟨tt_,hc17⟩ ?_
   cases h
   exact rndX rfl (an_ rfl rfl)
 ·rcases o21 with(⟨x14,x15⟩|m16)
  ·replace h:QkM x14 x15=some r:=h
   unfold QkM at h
   rintro e σ ⟨rfl,rfl⟩
   refine Qa hC [.n 2,.keep [6,7] []] rfl tt_ ?_
   cases h
   exact AK.done (ex_ [_,_] (an_ (an_ rfl (an_ rfl tt_)) (gives tt_)))
  ·replace h:QkN l3 m16=some r:=h
   unfold QkN at h
   rintro e σ ⟨rfl,rfl⟩
   refine Qa hC [.n 6,.o (.ln l3.length),.n 5,.keep [6,7] []] rfl ⟨tt_,Qg⟩ ?_
   cases h
   exact AK.done (ex_ [_,_] (an_ (an_ rfl (an_ rfl tt_)) (gives tt_)))
def QjE (n1:TNet)(t2:Qr):Option (TNet×Qr):=
 some (n1,t2)
theorem Qn5 (n1:TNet)(t2:Qr){r:(TNet×Qr)}(h:QjE n1 t2=some r):Qc Tryz.prog 153 [.agg (Qd n1),.agg (Qi t2)] [] (Gives (.clo (.func 199) [] [.loc 3 0 0,.loc 2 0 0]) [(2,.var (Qd r.1)),(3,.var (Qi r.2))]):=by
 refine Qc.walk 6 Tryz.func153 rfl Tryz.ntmps153 rfl fun C hC=>?_
 unfold QjE at h
 refine Qa hC [.n 14,.keep [4] [2,3]] rfl tt_ ?_
 cases h
 exact AK.done (ex_ [_] (an_ (an_ rfl tt_) (gives ⟨rfl,rfl,tt_⟩)))
def Qd9 (s1:(List (List Int))):Option (List (List Int)):=
 (chk (decide (([]:List (List Int)).length+s1.length≤4294967296))).bind fun _=>
 some (([]:List (List Int))++s1)
theorem Qj9 (s1:(List (List Int))){r:(List (List Int))}(h:Qd9 s1=some r):Qc Tryz.prog 155 [.sl 1 (s1.map Qw)] [] (Gives (.own 30000 r.length) [(30000,.arr 1 (r.map Qw))]):=by
 refine Qc.walk 8 Tryz.func155 rfl Tryz.ntmps155 rfl fun C hC=>?_
 unfold Qd9 at h
 refine Qa hC [.n 9] rfl tt_ ?_
 refine AK.eqNil rfl rfl rfl (bleN hC.n rfl) rfl rfl QuY ?_ ?_
 ·intro hz4
  replace h:some ([]:List (List Int))=some r:=by simpa [chk,List.map_eq_nil_iff.1 hz4] using h
  refine Qa hC [.n 10,.adopt 2 30000 1,.sayO 30000 (.arr 1 (([]:List (List Int)).map Qw)),.say 2 (.own 30000 ([]:List (List Int)).length),.keep [2] [30000]] rfl ⟨⟨tt_,rfl⟩,rfl⟩ ?_
  cases h
  exact AK.done (ex_ [_] (an_ (an_ rfl tt_) (gives ⟨rfl,tt_⟩)))
 ·obtain⟨_,hk5,h⟩:=Qb h
  replace hk5:=chkE hk5
  refine Qa hC [.n 8,.sayO 5 (.arr 1 (([]:List (List Int)).map Qw)),.say 5 (.own 5 ([]:List (List Int)).length),.n 1,.app ((([]:List (List Int))++s1).map Qw) (([]:List (List Int))++s1).length,.n 4,.keep [2] [5],.ren 5 30000,.keep [2] [30000]] rfl ⟨⟨⟨tt_,rfl⟩,rfl⟩,⟨Qg,Qdn hk5 Qg,Qco,Qfl Qg⟩⟩ ?_
  cases h
  exact AK.done (ex_ [_] (an_ (an_ rfl tt_) (gives ⟨rfl,tt_⟩)))
def Qh9 (row1:(List Int))(v2:QA):Option Bool:=
 (Qb0 v2 row1).bind fun x4=>
 some (x4 != 0)
theorem QkU (row1:(List Int))(v2:QA){r:Bool}(h:Qh9 row1 v2=some r):Qc Tryz.prog 156 [.sl 1 (row1.map Qe),.loc 200000 0 0] [(200000,.var (Qo v2))] (Gives (.b r) [(200000,.var (Qo v2))]):=by
 refine Qc.walk 8 Tryz.func156 rfl Tryz.ntmps156 rfl fun C hC=>?_
 unfold Qh9 at h
 obtain⟨x4,hx4,h⟩:=Qb h
 refine Qa hC [.n 7,.v .no [] (.agg (Qo v2)),.n 1,.o (.c false [.d,.d] (.i .i64 x4)),.n 5,.keep [3] [200000]] rfl ⟨⟨tt_,rfl⟩,(QiB _ _ hx4)⟩ ?_
 cases h
 exact AK.done (ex_ [_] (an_ (an_ rfl tt_) (gives ⟨rfl,tt_⟩)))
def Qbg (l1:(List (List Int)))(v2:QA)(x5:Int):Option (Int⊕(Int⊕Unit)):=
 bif (decide (x5<(l1.length:Int)))then
 (idx l1 x5).bind fun e9=>
 (Qh9 e9 v2).bind fun x10=>
 bif x10 then
 some (.inr (.inl x5))
 else
 some (.inl (w64 (x5+1)))
 else
 some (.inr (.inr ()))
def Qcl (x7:Int):Option Int:=
 some x7
def Qcm : Option Int:=
 some (-1)
def QcX (l1:(List (List Int)))(v2:QA):Option Int:=
 (QF (fun st=>Qbg l1 v2 st) 0).bind (Sum.elim (fun q=>Qcl q) (fun q=>Qcm))
theorem Qi5 (l1:(List (List Int)))(v2:QA){r:Int}(h:QcX l1 v2=some r):Qc Tryz.prog 190 [.own 200000 l1.length,.clo (.func 156) [] [.loc 200001 0 0]] [(200000,.arr 1 (l1.map Qw)),(200001,.var (Qo v2))] (Gives (.i .i64 r) [(200000,.arr 1 (l1.map Qw)),(200001,.var (Qo v2))]):=by
 refine Qc.walk 19 Tryz.func190 rfl Tryz.ntmps190 rfl fun C hC=>?_
 unfold QcX at h
 refine Qa hC [.n 14,.keep [0,1,7,8] [200000,200001]] rfl tt_ ?_
 obtain⟨o12,hl12,h⟩:=Qb h
 refine AK.loop (body:=(fun st=>Qbg l1 v2 st)) (fun st σ=>σ=⟨[(0,.own 200000 l1.length),(1,.clo (.func 156) [] [.loc 200001 0 0]),(7,.i .i64 (l1.length:Int)),(8,.i .i64 st)],[(200000,.arr 1 (l1.map Qw)),(200001,.var (Qo v2))]⟩) (Sum.elim (fun q e σ=>e=.ret∧σ=⟨[(4,.i .i64 q)],[(200000,.arr 1 (l1.map Qw)),(200001,.var (Qo v2))]⟩) (fun q e σ=>e=.exit 0∧σ=⟨[],[(200000,.arr 1 (l1.map Qw)),(200001,.var (Qo v2))]⟩)) hl12 rfl ?_ ?_
 ·rintro x5 o σ rfl h
  replace h:Qbg l1 v2 x5=some o:=h
  unfold Qbg at h
  refine Qa hC [.n 6] rfl tt_ ?_
  rcases bifE h with⟨hc8,h⟩|⟨hc8,h⟩
  ·obtain⟨e9,he9,h⟩:=Qb h
   obtain⟨x10,hx10,h⟩:=Qb h
   refine Qa hC [.br true,.n 16,.o (.row (Qw e9)),.cm (.clo) [(200000,200001)] [(200001,200000)] [] [.d,.d] [(200000,.var (Qo v2))] (.b x10),.n 2] rfl ⟨⟨⟨⟨tt_,hc8⟩,(Qe0 he9 rfl)⟩,(QcE (idxE he9).2)⟩,(QkU _ _ hx10)⟩ ?_
   rcases bifE h with⟨hc11,h⟩|⟨hc11,h⟩
   ·refine Qa hC [.br true,.n 9,.keep [4] [200000,200001]] rfl ⟨tt_,hc11⟩ ?_
    cases h
    exact rndR rfl (an_ rfl rfl)
   ·refine Qa hC [.br false,.n 7,.keep [0,1,7,8] [200000,200001]] rfl ⟨tt_,hc11⟩ ?_
    cases h
    exact rndN rfl rfl
  ·refine Qa hC [.br false,.n 2,.keep [] [200000,200001]] rfl ⟨tt_,hc8⟩ ?_
   cases h
   exact rndX rfl (an_ rfl rfl)
 ·rcases o12 with(x7 | _)
  ·replace h:Qcl x7=some r:=h
   unfold Qcl at h
   rintro e σ ⟨rfl,rfl⟩
   refine Qa hC [.n 2,.keep [4] [200000,200001]] rfl tt_ ?_
   cases h
   exact AK.done (ex_ [_] (an_ (an_ rfl tt_) (gives ⟨rfl,rfl,tt_⟩)))
  ·replace h:Qcm=some r:=h
   unfold Qcm at h
   rintro e σ ⟨rfl,rfl⟩
   refine Qa hC [.n 8,.keep [4] [200000,200001]] rfl tt_ ?_
   cases h
   exact AK.done (ex_ [_] (an_ (an_ rfl tt_) (gives ⟨rfl,rfl,tt_⟩)))
def Qa7 (j10:Int)(i18:Int)(l19:(List (List Int))):Option ((Int×Int×(List (List Int)))⊕(Int×(List (List Int)))):=
 some (.inl (i18,(w64 (j10+1)),l19))
def Qa8 (v2:QA)(i9:Int)(j10:Int)(l11:(List (List Int))):Option ((Int×Int×(List (List Int)))⊕(Int×(List (List Int)))):=
 bif (decide (j10<(l11.length:Int)))then
 (idx l11 j10).bind fun e20=>
 (Qh9 e20 v2).bind fun x21=>
 bif (!x21)then
 (idx l11 i9).bind fun e23=>
 Qa7 j10 (w64 (i9+1)) (l11.set i9.toNat e20)
 else
 Qa7 j10 i9 l11
 else
 some (.inr (i9,l11))
def Qca (i15:Int)(l16:(List (List Int))):Option (List (List Int)):=
 (chk (decide (0≤i15)&&decide (i15.toNat≤l16.length))).bind fun _=>
 (chk (decide (0≤i15)&&decide (i15.toNat≤(l16.take i15.toNat++List.replicate (l16.length-i15.toNat) (([]:(List Int)):(List Int))).length))).bind fun _=>
 some ((l16.take i15.toNat++List.replicate (l16.length-i15.toNat) (([]:(List Int)):(List Int))).take i15.toNat)
def QcI (l1:(List (List Int)))(v2:QA):Option (List (List Int)):=
 (QcX l1 v2).bind fun x5=>
 bif (x5==(-1))then
 some l1
 else
 (QF (fun st=>Qa8 v2 st.1 st.2.1 st.2.2) (x5,(w64 (x5+1)),l1)).bind (fun q=>Qca q.1 q.2)
theorem QiC (l1:(List (List Int)))(v2:QA){r:(List (List Int))}(h:QcI l1 v2=some r):Qc Tryz.prog 154 [.own 200000 l1.length,.clo (.func 156) [] [.loc 200001 0 0]] [(200000,.arr 1 (l1.map Qw)),(200001,.var (Qo v2))] (Gives (.own 200000 r.length) [(200000,.arr 1 (r.map Qw)),(200001,.var (Qo v2))]):=by
 refine Qc.walk 42 Tryz.func154 rfl Tryz.ntmps154 rfl fun C hC=>?_
 unfold QcI at h
 obtain⟨x5,hx5,h⟩:=Qb h
 refine Qa hC [.n 9,.cm (.fn) [(200000,200000),(200001,200001)] [(200000,200000),(200001,200001)] [] [.d,.d] [(200000,.arr 1 (l1.map Qw)),(200001,.var (Qo v2))] (.i .i64 x5),.n 10] rfl ⟨tt_,(Qi5 _ _ hx5)⟩ ?_
 rcases bifE h with⟨hc6,h⟩|⟨hc6,h⟩
 ·refine Qa hC [.br true,.n 8,.keep [4] [200000,200001]] rfl ⟨tt_,hc6⟩ ?_
  cases h
  exact AK.done (ex_ [_] (an_ (an_ rfl tt_) (gives ⟨rfl,rfl,tt_⟩)))
 ·refine Qa hC [.br false,.n 11,.keep [0,1,5,6] [200000,200001]] rfl ⟨tt_,hc6⟩ ?_
  obtain⟨o24,hl24,h⟩:=Qb h
  refine AK.loop (body:=(fun st=>Qa8 v2 st.1 st.2.1 st.2.2)) (fun st σ=>σ=⟨[(0,.own 200000 st.2.2.length),(1,.clo (.func 156) [] [.loc 200001 0 0]),(5,.i .i64 st.1),(6,.i .i64 st.2.1)],[(200000,.arr 1 (st.2.2.map Qw)),(200001,.var (Qo v2))]⟩) (fun q e σ=>e=.exit 0∧σ=⟨[(0,.own 200000 q.2.length),(5,.i .i64 q.1)],[(200000,.arr 1 (q.2.map Qw)),(200001,.var (Qo v2))]⟩) hl24 rfl ?_ ?_
  ·rintro ⟨i9,j10,l11⟩ o σ rfl h
   replace h:Qa8 v2 i9 j10 l11=some o:=h
   unfold Qa8 at h
   refine Qa hC [.n 9] rfl tt_ ?_
   rcases bifE h with⟨hc17,h⟩|⟨hc17,h⟩
   ·refine Qa hC [.br true,.n 2] rfl ⟨tt_,hc17⟩ ?_
    refine AK.meet (fun σ=>∃i18:Int,∃l19:(List (List Int)),σ=⟨[(0,.own 200000 l19.length),(1,.clo (.func 156) [] [.loc 200001 0 0]),(5,.i .i64 i18),(6,.i .i64 j10)],[(200000,.arr 1 (l19.map Qw)),(200001,.var (Qo v2))]⟩∧Qa7 j10 i18 l19=some o) ?_ ?_
    ·obtain⟨e20,he20,h⟩:=Qb h
     obtain⟨x21,hx21,h⟩:=Qb h
     refine Qa hC [.n 6,.o (.row (Qw e20)),.n 7,.cm (.clo) [(200000,200001)] [(200001,200000)] [] [.d,.d] [(200000,.var (Qo v2))] (.b x21),.n 3] rfl ⟨⟨⟨tt_,(Qe0 he20 rfl)⟩,(QcE (idxE he20).2)⟩,(QkU _ _ hx21)⟩ ?_
     rcases bifE h with⟨hc22,h⟩|⟨hc22,h⟩
     ·obtain⟨e23,he23,h⟩:=Qb h
      refine Qa hC [.br true,.n 6,.st (Qw e23) ((l11.set i9.toNat e20).map Qw),.n 8,.say 0 (.own 200000 (l11.set i9.toNat e20).length),.keep [0,1,5,6] [200000,200001]] rfl ⟨⟨⟨⟨tt_,hc22⟩,(Qe0 he23 rfl)⟩,⟨(QcE (idxE he23).2),Qjk rfl⟩⟩,(congrArg (fun n=>V.own 200000 n) (by simp))⟩ ?_
      exact AK.met (ex_ _ (ex_ _ (an_ rfl h)))
     ·refine Qa hC [.br false,.n 2,.keep [0,1,5,6] [200000,200001]] rfl ⟨tt_,hc22⟩ ?_
      exact AK.met (ex_ _ (ex_ _ (an_ rfl h)))
    ·rintro σ ⟨i18,l19,rfl,h⟩
     unfold Qa7 at h
     refine Qa hC [.n 5,.keep [0,1,5,6] [200000,200001]] rfl tt_ ?_
     cases h
     exact rndN rfl rfl
   ·refine Qa hC [.br false,.n 2,.keep [0,5] [200000,200001]] rfl ⟨tt_,hc17⟩ ?_
    cases h
    exact rndX rfl (an_ rfl rfl)
  ·obtain⟨i15,l16⟩:=o24
   replace h:Qca i15 l16=some r:=h
   unfold Qca at h
   rintro e σ ⟨rfl,rfl⟩
   refine Qa hC [.n 6] rfl tt_ ?_
   obtain⟨_,hk25,h⟩:=Qb h
   replace hk25:=chkE hk25
   refine AK.clearTail (b:=200000) (l:=i15.toNat) (n:=l16.length) rfl rfl rfl rfl rfl rfl (bleN hC.n rfl) rfl rfl Qg (Qp.es rfl) Qur rfl rfl rfl (Bnd.val rfl (of_decide_eq_true (QnT hk25)) rfl) (of_decide_eq_true (Qkr hk25)) rfl ?_
   refine AK.denilA (b:=200000) [some 1] rfl (QuU (f:=Qw) (x:=(([]:(List Int)):(List Int))) (fun _=>rfl) rfl) ?_
   obtain⟨_,hk26,h⟩:=Qb h
   replace hk26:=chkE hk26
   refine Qa hC [.say 0 (.own 200000 (l16.take i15.toNat++List.replicate (l16.length-i15.toNat) (([]:(List Int)):(List Int))).length),.say 36 (.own 200000 (l16.take i15.toNat++List.replicate (l16.length-i15.toNat) (([]:(List Int)):(List Int))).length),.n 6] rfl ⟨⟨tt_,(Qtt (of_decide_eq_true (Qkr hk25)))⟩,(Qtt (of_decide_eq_true (Qkr hk25)))⟩ ?_
   have hl27:i15.toNat=((l16.take i15.toNat++List.replicate (l16.length-i15.toNat) (([]:(List Int)):(List Int))).take i15.toNat).length:=by rw [List.length_take,Nat.min_eq_left (of_decide_eq_true (Qkr hk26))]
   refine Qa hC [.x (fun σ=>(σ.set 200000 (.arr 1 (((l16.take i15.toNat++List.replicate (l16.length-i15.toNat) (([]:(List Int)):(List Int))).take i15.toNat).map Qw))).put 41 (.own 200000 i15.toNat)),.say 41 (.own 200000 ((l16.take i15.toNat++List.replicate (l16.length-i15.toNat) (([]:(List Int)):(List Int))).take i15.toNat).length),.n 4,.keep [4] [200000,200001]] rfl ⟨⟨tt_,(Stp.sliceO rfl rfl (bleN hC.n rfl) rfl rfl (Qp.es rfl) Bnd.no (Bnd.val rfl (of_decide_eq_true (QnT hk26)) rfl) (of_decide_eq_true (Qkr hk26)) (by simp))⟩,(QuQ (of_decide_eq_true (Qkr hk26)))⟩ ?_
   cases h
   exact AK.done (ex_ [_] (an_ (an_ rfl tt_) (gives ⟨rfl,rfl,tt_⟩)))
def QhS (x13:(Int×QA)):Option Bool:=
 bif (x13.1 != 0)then
 some true
 else
 (Qa0 x13.2).bind fun x17=>
 some (x17 != 0)
def QcJ (x22:Int)(l29:(List Qk)):Option ((Int×(List Qk))⊕((List Qk)⊕(List Qk))):=
 some (.inl ((w64 (x22+1)),l29))
def QcK (x20:(List (List Int)))(p9:(List Int))(e30:(List Int))(v3:Int)(v4:Int)(x34:Int)(l35:(List Qk)):Option ((Int×(List Qk))⊕((List Qk)⊕(List Qk))):=
 bif (decide (x34<(x20.length:Int)))then
 (idx x20 x34).bind fun e41=>
 (Qaj p9).bind fun x42=>
 (Qaj e30).bind fun x43=>
 (Qaj e41).bind fun x44=>
 (chk (decide (l35.length+([(Qk.mk v3 x42 x43 x44)]:List Qk).length≤4294967296))).bind fun _=>
 bif (((l35++[(Qk.mk v3 x42 x43 x44)]).length:Int)==v4)then
 some (.inr (.inl (l35++[(Qk.mk v3 x42 x43 x44)])))
 else
 some (.inl ((w64 (x34+1)),(l35++[(Qk.mk v3 x42 x43 x44)])))
 else
 some (.inr (.inr l35))
def QeF (l38:(List Qk)):Option ((Int×(List Qk))⊕((List Qk)⊕(List Qk))):=
 some (.inr (.inl l38))
def QeG (x22:Int)(l39:(List Qk)):Option ((Int×(List Qk))⊕((List Qk)⊕(List Qk))):=
 QcJ x22 l39
def QcL (v6:(List (List Int)))(x13:(Int×QA))(x20:(List (List Int)))(p9:(List Int))(v3:Int)(v4:Int)(x22:Int)(l23:(List Qk)):Option ((Int×(List Qk))⊕((List Qk)⊕(List Qk))):=
 bif (decide (x22<(v6.length:Int)))then
 (idx v6 x22).bind fun e30=>
 (QaS x13.2 e30).bind fun x31=>
 bif (x31 != 0)then
 QcJ x22 l23
 else
 (QF (fun st=>QcK x20 p9 e30 v3 v4 st.1 st.2) (0,l23)).bind (Sum.elim (fun q=>QeF q) (fun q=>QeG x22 q))
 else
 some (.inr (.inr l23))
def QeH (l26:(List Qk)):Option ((List Qk)⊕(List Qk)):=
 some (.inl l26)
def QeI (l27:(List Qk)):Option ((List Qk)⊕(List Qk)):=
 some (.inr l27)
def QcM (l8:(List Qk))(v7:(List (List Int)))(x13:(Int×QA))(v6:(List (List Int)))(p9:(List Int))(v3:Int)(v4:Int)(x14:Bool):Option ((List Qk)⊕(List Qk)):=
 bif x14 then
 some (.inr l8)
 else
 (Qd9 v7).bind fun x19=>
 (QcI x19 x13.2).bind fun x20=>
 (QF (fun st=>QcL v6 x13 x20 p9 v3 v4 st.1 st.2) (0,l8)).bind (Sum.elim (fun q=>QeH q) (fun q=>QeI q))
def Qge (v1:TNet)(v2:(List (List (Int×Int))))(v3:Int)(v4:Int)(l5:(List Qk))(v6:(List (List Int)))(v7:(List (List Int)))(l8:(List Qk))(p9:(List Int)):Option ((List Qk)⊕(List Qk)):=
 (QeA v1 v2 v3 p9).bind fun x13=>
 (QhS x13).bind (fun x14=>QcM l8 v7 x13 v6 p9 v3 v4 x14)
theorem QhT (lpl lpf:Nat)(v1:TNet)(v2:(List (List (Int×Int))))(v3:Int)(v4:Int)(l5:(List Qk))(v6:(List (List Int)))(v7:(List (List Int)))(l8:(List Qk))(p9:(List Int)){r:((List Qk)⊕(List Qk))}(h:Qge v1 v2 v3 v4 l5 v6 v7 l8 p9=some r):Qks Tryz.prog lpl (Qap lpf) [.J,.J,.J,.J,.loc 200001 0 0,.loc 200002 0 0,.loc 200003 0 0,.loc 200004 0 0,.loc 200005 0 0,.J,.loc 200006 0 0,.loc 200007 0 0,.loc 200008 0 0,.J,.J,.J,.J,.J,.J,.J,.J,.J,.J,.J,.J,.J,.J,.J,.J,.J,.J,.J,.J,.J,.J,.J,.J,.J,.J,.J,.J,.J,.J,.J,.J,.J,.J,.J,.J,.J,.J,.J,.J,.J,.sl 1 (p9.map Qe),.J,.J,.J,.J,.J,.J,.J,.J,.J,.J,.J,.J,.J,.J,.J,.J,.J,.J,.J,.J,.J,.J,.J,.J,.J,.J,.J,.J,.J,.J,.J,.J,.J,.J,.J,.J,.J,.J,.J,.J,.J,.J,.J,.J,.J,.J,.J,.J,.J,.J,.J,.J,.J,.J] [(200000,.lp lpl (Qap lpf) [.J,.J,.J,.J,.loc 200001 0 0,.loc 200002 0 0,.loc 200003 0 0,.loc 200004 0 0,.loc 200005 0 0,.J,.loc 200006 0 0,.loc 200007 0 0,.loc 200008 0 0,.J,.J,.J,.J,.J,.J,.J,.J,.J,.J,.J,.J,.J,.J,.J,.J,.J,.J,.J,.J,.J,.J,.J,.J,.J,.J,.J,.J,.J,.J,.J,.J,.J,.J,.J,.J,.J,.J,.J,.J,.J,.J,.J,.J,.J,.J,.J,.J,.J,.J,.J,.J,.J,.J,.J,.J,.J,.J,.J,.J,.J,.J,.J,.J,.J,.J,.J,.J,.J,.J,.J,.J,.J,.J,.J,.J,.J,.J,.J,.J,.J,.J,.J,.J,.J,.J,.J,.J,.J,.J,.J,.J,.J,.J,.J,.J] 0),(200001,.var (Qd v1)),(200002,.var (QT v2)),(200003,.var (Qe v3)),(200004,.var (Qe v4)),(200005,.var [.own 100000 l5.length]),(100000,.arr 4 (l5.map Qj)),(200006,.var (QE v6)),(200007,.var (QE v7)),(200008,.var [.own 100001 l8.length]),(100001,.arr 4 (l8.map Qj))] ((Sum.elim (fun q=>(Gives (.b false) [(100000,.arr 4 (l5.map Qj)),(100001,.arr 4 (q.map Qj)),(200000,.lp lpl (Qap lpf) [.J,.J,.J,.J,.loc 200001 0 0,.loc 200002 0 0,.loc 200003 0 0,.loc 200004 0 0,.loc 200005 0 0,.J,.loc 200006 0 0,.loc 200007 0 0,.loc 200008 0 0,.J,.J,.J,.J,.J,.J,.J,.J,.J,.J,.J,.J,.J,.J,.J,.J,.J,.J,.J,.J,.J,.J,.J,.J,.J,.J,.J,.J,.J,.J,.J,.J,.J,.J,.J,.J,.J,.J,.J,.J,.J,.J,.J,.J,.J,.J,.J,.J,.J,.J,.J,.J,.J,.J,.J,.J,.J,.J,.J,.J,.J,.J,.J,.J,.J,.J,.J,.J,.J,.J,.J,.J,.J,.J,.J,.J,.J,.J,.J,.J,.J,.J,.J,.J,.J,.J,.J,.J,.J,.J,.J,.J,.J,.J,.J,.J] 2),(200001,.var (Qd v1)),(200002,.var (QT v2)),(200003,.var (Qe v3)),(200004,.var (Qe v4)),(200005,.var [.own 100001 q.length]),(200006,.var (QE v6)),(200007,.var (QE v7)),(200008,.var [.own 100001 q.length])])) (fun q=>(Gives (.b true) [(100000,.arr 4 (l5.map Qj)),(100001,.arr 4 (q.map Qj)),(200000,.lp lpl (Qap lpf) [.J,.J,.J,.J,.loc 200001 0 0,.loc 200002 0 0,.loc 200003 0 0,.loc 200004 0 0,.loc 200005 0 0,.J,.loc 200006 0 0,.loc 200007 0 0,.loc 200008 0 0,.J,.J,.J,.J,.J,.J,.J,.J,.J,.J,.J,.J,.J,.J,.J,.J,.J,.J,.J,.J,.J,.J,.J,.J,.J,.J,.J,.J,.J,.J,.J,.J,.J,.J,.J,.J,.J,.J,.J,.J,.J,.J,.J,.J,.J,.J,.J,.J,.J,.J,.J,.J,.J,.J,.J,.J,.J,.J,.J,.J,.J,.J,.J,.J,.J,.J,.J,.J,.J,.J,.J,.J,.J,.J,.J,.J,.J,.J,.J,.J,.J,.J,.J,.J,.J,.J,.J,.J,.J,.J,.J,.J,.J,.J,.J,.J] 0),(200001,.var (Qd v1)),(200002,.var (QT v2)),(200003,.var (Qe v3)),(200004,.var (Qe v4)),(200005,.var [.own 100000 l5.length]),(200006,.var (QE v6)),(200007,.var (QE v7)),(200008,.var [.own 100001 q.length])]))) r):=by
 refine Qks.walk (b:=200000) 109 rfl rfl fun C hC=>?_
 unfold Qge at h
 refine Qa hC [.n 3] rfl tt_ ?_
 refine AK.done (an_ rfl (ex_ _ (an_ rfl ?_)))
 obtain⟨x13,hx13,h⟩:=Qb h
 refine Qa hC [.n 3,.v .no [] (.agg (Qd v1)),.n 3,.o (.c false [.d,.d,.d,.d] (.tup [.agg (Qo x13.2),.i .i64 x13.1])),.n 5,.sayO 14 (.var (Qo x13.2)),.n 5] rfl ⟨⟨⟨tt_,rfl⟩,(Ql2 _ _ _ _ hx13)⟩,rfl⟩ ?_
 obtain⟨x14,hv15,h⟩:=Qb h
 replace h:QcM l8 v7 x13 v6 p9 v3 v4 x14=some r:=h
 refine AK.meetX (fun σ=>σ=⟨[(6,.loc 200003 0 0),(7,.loc 200004 0 0),(8,.loc 200005 0 0),(10,.loc 200006 0 0),(11,.loc 200007 0 0),(12,.loc 200008 0 0),(13,.sl 1 (p9.map Qe)),(14,.loc 14 0 0),(69,.b x14)],[(14,.var (Qo x13.2)),(100000,.arr 4 (l5.map Qj)),(100001,.arr 4 (l8.map Qj)),(200000,.lp lpl (Qap lpf) [.J,.J,.J,.J,.loc 200001 0 0,.loc 200002 0 0,.loc 200003 0 0,.loc 200004 0 0,.loc 200005 0 0,.J,.loc 200006 0 0,.loc 200007 0 0,.loc 200008 0 0,.J,.J,.J,.J,.J,.J,.J,.J,.J,.J,.J,.J,.J,.J,.J,.J,.J,.J,.J,.J,.J,.J,.J,.J,.J,.J,.J,.J,.J,.J,.J,.J,.J,.J,.J,.J,.J,.J,.J,.J,.J,.J,.J,.J,.J,.J,.J,.J,.J,.J,.J,.J,.J,.J,.J,.J,.J,.J,.J,.J,.J,.J,.J,.J,.J,.J,.J,.J,.J,.J,.J,.J,.J,.J,.J,.J,.J,.J,.J,.J,.J,.J,.J,.J,.J,.J,.J,.J,.J,.J,.J,.J,.J,.J,.J,.J] 1),(200001,.var (Qd v1)),(200002,.var (QT v2)),(200003,.var (Qe v3)),(200004,.var (Qe v4)),(200005,.var [.own 100000 l5.length]),(200006,.var (QE v6)),(200007,.var (QE v7)),(200008,.var [.own 100001 l8.length])]⟩) ?_ ?_
 ·replace h:=hv15
  unfold QhS at h
  refine Qa hC [.n 4] rfl tt_ ?_
  rcases bifE h with⟨hc16,h⟩|⟨hc16,h⟩
  ·refine Qa hC [.say 65 (.b true),.n 5,.keep [6,7,8,10,11,12,13,14,69] [14,100000,100001,200000,200001,200002,200003,200004,200005,200006,200007,200008]] rfl ⟨tt_,(congrArg V.b hc16)⟩ ?_
   cases h
   exact AK.met rfl
  ·obtain⟨x17,hx17,h⟩:=Qb h
   refine Qa hC [.say 65 (.b false),.v .no [] (.agg (Qo x13.2)),.o (.c false [.d] (.i .i64 x17)),.n 3,.keep [6,7,8,10,11,12,13,14,69] [14,100000,100001,200000,200001,200002,200003,200004,200005,200006,200007,200008]] rfl ⟨⟨⟨tt_,(congrArg V.b hc16)⟩,rfl⟩,(QhO _ hx17)⟩ ?_
   cases h
   exact AK.met rfl
 ·rintro σ rfl
  replace h:QcM l8 v7 x13 v6 p9 v3 v4 x14=some r:=h
  unfold QcM at h
  refine Qa hC [.n 1] rfl tt_ ?_
  rcases bifE h with⟨hc18,h⟩|⟨hc18,h⟩
  ·refine Qa hC [.br true,.n 3,.keep [] [100000,100001,200000,200001,200002,200003,200004,200005,200006,200007,200008]] rfl ⟨tt_,hc18⟩ ?_
   cases h
   refine AK.done ?_
   exact ex_ _ (an_ rfl (gives ⟨rfl,rfl,rfl,rfl,rfl,rfl,rfl,rfl,rfl,rfl,rfl,tt_⟩))
  ·obtain⟨x19,hx19,h⟩:=Qb h
   obtain⟨x20,hx20,h⟩:=Qb h
   refine Qa hC [.br false,.n 5,.o (.co false [.d] 1 (x19.map Qw) x19.length),.n 1,.cm (.fn) [(200000,71),(200001,14)] [(71,200000),(14,200001)] [] [.d,.d] [(200000,.arr 1 (x20.map Qw)),(200001,.var (Qo x13.2))] (.own 200000 x20.length),.n 6,.o (.ln v6.length),.n 4,.keep [6,7,8,12,13,14,16,74,75,76] [14,71,100000,100001,200000,200001,200002,200003,200004,200005,200006,200007,200008]] rfl ⟨⟨⟨⟨tt_,hc18⟩,⟨(Qj9 _ hx19),Qg,.inl rfl⟩⟩,(QiC _ _ hx20)⟩,Qg⟩ ?_
   obtain⟨o48,hl48,h⟩:=Qb h
   refine AK.loop (body:=(fun st=>QcL v6 x13 x20 p9 v3 v4 st.1 st.2)) (fun st σ=>σ=⟨[(6,.loc 200003 0 0),(7,.loc 200004 0 0),(8,.loc 200005 0 0),(12,.loc 200008 0 0),(13,.sl 1 (p9.map Qe)),(14,.loc 14 0 0),(16,.own 71 x20.length),(74,.sl 1 (v6.map Qw)),(75,.i .i64 (v6.length:Int)),(76,.i .i64 st.1)],[(14,.var (Qo x13.2)),(71,.arr 1 (x20.map Qw)),(100000,.arr 4 (l5.map Qj)),(100001,.arr 4 (st.2.map Qj)),(200000,.lp lpl (Qap lpf) [.J,.J,.J,.J,.loc 200001 0 0,.loc 200002 0 0,.loc 200003 0 0,.loc 200004 0 0,.loc 200005 0 0,.J,.loc 200006 0 0,.loc 200007 0 0,.loc 200008 0 0,.J,.J,.J,.J,.J,.J,.J,.J,.J,.J,.J,.J,.J,.J,.J,.J,.J,.J,.J,.J,.J,.J,.J,.J,.J,.J,.J,.J,.J,.J,.J,.J,.J,.J,.J,.J,.J,.J,.J,.J,.J,.J,.J,.J,.J,.J,.J,.J,.J,.J,.J,.J,.J,.J,.J,.J,.J,.J,.J,.J,.J,.J,.J,.J,.J,.J,.J,.J,.J,.J,.J,.J,.J,.J,.J,.J,.J,.J,.J,.J,.J,.J,.J,.J,.J,.J,.J,.J,.J,.J,.J,.J,.J,.J,.J,.J] 1),(200001,.var (Qd v1)),(200002,.var (QT v2)),(200003,.var (Qe v3)),(200004,.var (Qe v4)),(200005,.var [.own 100000 l5.length]),(200006,.var (QE v6)),(200007,.var (QE v7)),(200008,.var [.own 100001 st.2.length])]⟩) (Sum.elim (fun q e σ=>e=.ret∧σ=⟨[],[(100000,.arr 4 (l5.map Qj)),(100001,.arr 4 (q.map Qj)),(200000,.lp lpl (Qap lpf) [.J,.J,.J,.J,.loc 200001 0 0,.loc 200002 0 0,.loc 200003 0 0,.loc 200004 0 0,.loc 200005 0 0,.J,.loc 200006 0 0,.loc 200007 0 0,.loc 200008 0 0,.J,.J,.J,.J,.J,.J,.J,.J,.J,.J,.J,.J,.J,.J,.J,.J,.J,.J,.J,.J,.J,.J,.J,.J,.J,.J,.J,.J,.J,.J,.J,.J,.J,.J,.J,.J,.J,.J,.J,.J,.J,.J,.J,.J,.J,.J,.J,.J,.J,.J,.J,.J,.J,.J,.J,.J,.J,.J,.J,.J,.J,.J,.J,.J,.J,.J,.J,.J,.J,.J,.J,.J,.J,.J,.J,.J,.J,.J,.J,.J,.J,.J,.J,.J,.J,.J,.J,.J,.J,.J,.J,.J,.J,.J,.J,.J] 1),(200001,.var (Qd v1)),(200002,.var (QT v2)),(200003,.var (Qe v3)),(200004,.var (Qe v4)),(200005,.var [.own 100001 q.length]),(200006,.var (QE v6)),(200007,.var (QE v7)),(200008,.var [.own 100001 q.length])]⟩) (fun q e σ=>e=.exit 2∧σ=⟨[],[(100000,.arr 4 (l5.map Qj)),(100001,.arr 4 (q.map Qj)),(200000,.lp lpl (Qap lpf) [.J,.J,.J,.J,.loc 200001 0 0,.loc 200002 0 0,.loc 200003 0 0,.loc 200004 0 0,.loc 200005 0 0,.J,.loc 200006 0 0,.loc 200007 0 0,.loc 200008 0 0,.J,.J,.J,.J,.J,.J,.J,.J,.J,.J,.J,.J,.J,.J,.J,.J,.J,.J,.J,.J,.J,.J,.J,.J,.J,.J,.J,.J,.J,.J,.J,.J,.J,.J,.J,.J,.J,.J,.J,.J,.J,.J,.J,.J,.J,.J,.J,.J,.J,.J,.J,.J,.J,.J,.J,.J,.J,.J,.J,.J,.J,.J,.J,.J,.J,.J,.J,.J,.J,.J,.J,.J,.J,.J,.J,.J,.J,.J,.J,.J,.J,.J,.J,.J,.J,.J,.J,.J,.J,.J,.J,.J,.J,.J,.J,.J] 1),(200001,.var (Qd v1)),(200002,.var (QT v2)),(200003,.var (Qe v3)),(200004,.var (Qe v4)),(200005,.var [.own 100000 l5.length]),(200006,.var (QE v6)),(200007,.var (QE v7)),(200008,.var [.own 100001 q.length])]⟩)) hl48 rfl ?_ ?_
   ·rintro ⟨x22,l23⟩ o σ rfl h
    replace h:QcL v6 x13 x20 p9 v3 v4 x22 l23=some o:=h
    unfold QcL at h
    refine Qa hC [.n 6] rfl tt_ ?_
    rcases bifE h with⟨hc28,h⟩|⟨hc28,h⟩
    ·refine Qa hC [.br true,.n 2] rfl ⟨tt_,hc28⟩ ?_
     refine AK.meet (fun σ=>∃l29:(List Qk),σ=⟨[(6,.loc 200003 0 0),(7,.loc 200004 0 0),(8,.loc 200005 0 0),(12,.loc 200008 0 0),(13,.sl 1 (p9.map Qe)),(14,.loc 14 0 0),(16,.own 71 x20.length),(74,.sl 1 (v6.map Qw)),(75,.i .i64 (v6.length:Int)),(76,.i .i64 x22)],[(14,.var (Qo x13.2)),(71,.arr 1 (x20.map Qw)),(100000,.arr 4 (l5.map Qj)),(100001,.arr 4 (l29.map Qj)),(200000,.lp lpl (Qap lpf) [.J,.J,.J,.J,.loc 200001 0 0,.loc 200002 0 0,.loc 200003 0 0,.loc 200004 0 0,.loc 200005 0 0,.J,.loc 200006 0 0,.loc 200007 0 0,.loc 200008 0 0,.J,.J,.J,.J,.J,.J,.J,.J,.J,.J,.J,.J,.J,.J,.J,.J,.J,.J,.J,.J,.J,.J,.J,.J,.J,.J,.J,.J,.J,.J,.J,.J,.J,.J,.J,.J,.J,.J,.J,.J,.J,.J,.J,.J,.J,.J,.J,.J,.J,.J,.J,.J,.J,.J,.J,.J,.J,.J,.J,.J,.J,.J,.J,.J,.J,.J,.J,.J,.J,.J,.J,.J,.J,.J,.J,.J,.J,.J,.J,.J,.J,.J,.J,.J,.J,.J,.J,.J,.J,.J,.J,.J,.J,.J,.J,.J] 1),(200001,.var (Qd v1)),(200002,.var (QT v2)),(200003,.var (Qe v3)),(200004,.var (Qe v4)),(200005,.var [.own 100000 l5.length]),(200006,.var (QE v6)),(200007,.var (QE v7)),(200008,.var [.own 100001 l29.length])]⟩∧QcJ x22 l29=some o) ?_ ?_
     ·obtain⟨e30,he30,h⟩:=Qb h
      obtain⟨x31,hx31,h⟩:=Qb h
      refine Qa hC [.n 3,.o (.row (Qw e30)),.n 7,.v .no [] (.agg (Qo x13.2)),.n 1,.o (.c false [.d,.d] (.i .i64 x31)),.n 3] rfl ⟨⟨⟨tt_,(idxM he30)⟩,rfl⟩,(QiA _ _ hx31)⟩ ?_
      rcases bifE h with⟨hc32,h⟩|⟨hc32,h⟩
      ·refine Qa hC [.br true,.n 3,.keep [6,7,8,12,13,14,16,74,75,76] [14,71,100000,100001,200000,200001,200002,200003,200004,200005,200006,200007,200008]] rfl ⟨tt_,hc32⟩ ?_
       exact AK.met (ex_ _ (an_ rfl h))
      ·refine Qa hC [.br false,.n 10,.keep [6,7,8,12,13,14,16,18,74,75,76,84,85,86] [14,71,100000,100001,200000,200001,200002,200003,200004,200005,200006,200007,200008]] rfl ⟨tt_,hc32⟩ ?_
       obtain⟨o47,hl47,h⟩:=Qb h
       refine AK.loop (body:=(fun st=>QcK x20 p9 e30 v3 v4 st.1 st.2)) (fun st σ=>σ=⟨[(6,.loc 200003 0 0),(7,.loc 200004 0 0),(8,.loc 200005 0 0),(12,.loc 200008 0 0),(13,.sl 1 (p9.map Qe)),(14,.loc 14 0 0),(16,.own 71 x20.length),(18,.sl 1 (e30.map Qe)),(74,.sl 1 (v6.map Qw)),(75,.i .i64 (v6.length:Int)),(76,.i .i64 x22),(84,.own 71 x20.length),(85,.i .i64 (x20.length:Int)),(86,.i .i64 st.1)],[(14,.var (Qo x13.2)),(71,.arr 1 (x20.map Qw)),(100000,.arr 4 (l5.map Qj)),(100001,.arr 4 (st.2.map Qj)),(200000,.lp lpl (Qap lpf) [.J,.J,.J,.J,.loc 200001 0 0,.loc 200002 0 0,.loc 200003 0 0,.loc 200004 0 0,.loc 200005 0 0,.J,.loc 200006 0 0,.loc 200007 0 0,.loc 200008 0 0,.J,.J,.J,.J,.J,.J,.J,.J,.J,.J,.J,.J,.J,.J,.J,.J,.J,.J,.J,.J,.J,.J,.J,.J,.J,.J,.J,.J,.J,.J,.J,.J,.J,.J,.J,.J,.J,.J,.J,.J,.J,.J,.J,.J,.J,.J,.J,.J,.J,.J,.J,.J,.J,.J,.J,.J,.J,.J,.J,.J,.J,.J,.J,.J,.J,.J,.J,.J,.J,.J,.J,.J,.J,.J,.J,.J,.J,.J,.J,.J,.J,.J,.J,.J,.J,.J,.J,.J,.J,.J,.J,.J,.J,.J,.J,.J] 1),(200001,.var (Qd v1)),(200002,.var (QT v2)),(200003,.var (Qe v3)),(200004,.var (Qe v4)),(200005,.var [.own 100000 l5.length]),(200006,.var (QE v6)),(200007,.var (QE v7)),(200008,.var [.own 100001 st.2.length])]⟩) (Sum.elim (fun q e σ=>e=.ret∧σ=⟨[],[(100000,.arr 4 (l5.map Qj)),(100001,.arr 4 (q.map Qj)),(200000,.lp lpl (Qap lpf) [.J,.J,.J,.J,.loc 200001 0 0,.loc 200002 0 0,.loc 200003 0 0,.loc 200004 0 0,.loc 200005 0 0,.J,.loc 200006 0 0,.loc 200007 0 0,.loc 200008 0 0,.J,.J,.J,.J,.J,.J,.J,.J,.J,.J,.J,.J,.J,.J,.J,.J,.J,.J,.J,.J,.J,.J,.J,.J,.J,.J,.J,.J,.J,.J,.J,.J,.J,.J,.J,.J,.J,.J,.J,.J,.J,.J,.J,.J,.J,.J,.J,.J,.J,.J,.J,.J,.J,.J,.J,.J,.J,.J,.J,.J,.J,.J,.J,.J,.J,.J,.J,.J,.J,.J,.J,.J,.J,.J,.J,.J,.J,.J,.J,.J,.J,.J,.J,.J,.J,.J,.J,.J,.J,.J,.J,.J,.J,.J,.J,.J] 1),(200001,.var (Qd v1)),(200002,.var (QT v2)),(200003,.var (Qe v3)),(200004,.var (Qe v4)),(200005,.var [.own 100001 q.length]),(200006,.var (QE v6)),(200007,.var (QE v7)),(200008,.var [.own 100001 q.length])]⟩) (fun q e σ=>e=.exit 4∧σ=⟨[(6,.loc 200003 0 0),(7,.loc 200004 0 0),(8,.loc 200005 0 0),(12,.loc 200008 0 0),(13,.sl 1 (p9.map Qe)),(14,.loc 14 0 0),(16,.own 71 x20.length),(74,.sl 1 (v6.map Qw)),(75,.i .i64 (v6.length:Int)),(76,.i .i64 x22)],[(14,.var (Qo x13.2)),(71,.arr 1 (x20.map Qw)),(100000,.arr 4 (l5.map Qj)),(100001,.arr 4 (q.map Qj)),(200000,.lp lpl (Qap lpf) [.J,.J,.J,.J,.loc 200001 0 0,.loc 200002 0 0,.loc 200003 0 0,.loc 200004 0 0,.loc 200005 0 0,.J,.loc 200006 0 0,.loc 200007 0 0,.loc 200008 0 0,.J,.J,.J,.J,.J,.J,.J,.J,.J,.J,.J,.J,.J,.J,.J,.J,.J,.J,.J,.J,.J,.J,.J,.J,.J,.J,.J,.J,.J,.J,.J,.J,.J,.J,.J,.J,.J,.J,.J,.J,.J,.J,.J,.J,.J,.J,.J,.J,.J,.J,.J,.J,.J,.J,.J,.J,.J,.J,.J,.J,.J,.J,.J,.J,.J,.J,.J,.J,.J,.J,.J,.J,.J,.J,.J,.J,.J,.J,.J,.J,.J,.J,.J,.J,.J,.J,.J,.J,.J,.J,.J,.J,.J,.J,.J,.J] 1),(200001,.var (Qd v1)),(200002,.var (QT v2)),(200003,.var (Qe v3)),(200004,.var (Qe v4)),(200005,.var [.own 100000 l5.length]),(200006,.var (QE v6)),(200007,.var (QE v7)),(200008,.var [.own 100001 q.length])]⟩)) hl47 rfl ?_ ?_
       ·rintro ⟨x34,l35⟩ o σ rfl h
        replace h:QcK x20 p9 e30 v3 v4 x34 l35=some o:=h
        unfold QcK at h
        refine Qa hC [.n 6] rfl tt_ ?_
        rcases bifE h with⟨hc40,h⟩|⟨hc40,h⟩
        ·obtain⟨e41,he41,h⟩:=Qb h
         obtain⟨x42,hx42,h⟩:=Qb h
         obtain⟨x43,hx43,h⟩:=Qb h
         obtain⟨x44,hx44,h⟩:=Qb h
         obtain⟨_,hk45,h⟩:=Qb h
         replace hk45:=chkE hk45
         refine Qa hC [.br true,.n 7,.o (.row (Qw e41)),.n 4,.keep [6,7,8,12,13,14,16,18,20,74,75,76,84,85,86] [14,71,100000,100001,200000,200001,200002,200003,200004,200005,200006,200007,200008]] rfl ⟨⟨⟨tt_,hc40⟩,(Qe0 he41 rfl)⟩,(QcE (idxE he41).2)⟩ ?_
         refine AK.draw2 Qp hC mixed [.a .no none false,.a .no none false,.a .no none false,.a (.cd false [.d] 1 (x42.map Qe) x42.length) none false,.a .no none false,.a (.cd false [.d] 1 (x43.map Qe) x43.length) none false,.a .no none false,.a (.cd false [.d] 1 (x44.map Qe) x44.length) none false,.a .no (some ([],.agg (Qj (Qk.mk v3 x42 x43 x44)))) false,.a (.bd []) (some ([],.sl 4 (([(Qk.mk v3 x42 x43 x44)]:List Qk).map Qj))) false,.m (.app ((l35++[(Qk.mk v3 x42 x43 x44)]).map Qj) (l35++[(Qk.mk v3 x42 x43 x44)]).length),.m .s] [] [] [6,7,8,12,13,14,16,18,74,75,76,84,85,86] [14,71,100000,100001,200000,200001,200002,200003,200004,200005,200006,200007,200008] rfl rfl rfl ⟨⟨⟨⟨⟨⟨tt_,⟨(Qbw _ hx42),Qg⟩⟩,⟨(Qbw _ hx43),Qg⟩⟩,⟨(Qbw _ hx44),Qg⟩⟩,rfl⟩,rfl⟩,⟨Qg,Qdn hk45 Qg,Qco,Qfl Qg⟩⟩ rfl (by kernel_rfl) rfl rfl rfl ?_
         refine Qa hC [.sayO 200008 (.var [.own 100001 (l35++[(Qk.mk v3 x42 x43 x44)]).length]),.n 9] rfl ⟨tt_,rfl⟩ ?_
         rcases bifE h with⟨hc46,h⟩|⟨hc46,h⟩
         ·refine Qa hC [.br true,.n 4,.sayO 200005 (.var [.own 100001 (l35++[(Qk.mk v3 x42 x43 x44)]).length]),.n 5,.keep [] [100000,100001,200000,200001,200002,200003,200004,200005,200006,200007,200008]] rfl ⟨⟨tt_,hc46⟩,rfl⟩ ?_
          cases h
          exact rndR rfl (an_ rfl rfl)
         ·refine Qa hC [.br false,.n 7,.keep [6,7,8,12,13,14,16,18,74,75,76,84,85,86] [14,71,100000,100001,200000,200001,200002,200003,200004,200005,200006,200007,200008]] rfl ⟨tt_,hc46⟩ ?_
          cases h
          exact rndN rfl rfl
        ·refine Qa hC [.br false,.n 2,.keep [6,7,8,12,13,14,16,74,75,76] [14,71,100000,100001,200000,200001,200002,200003,200004,200005,200006,200007,200008]] rfl ⟨tt_,hc40⟩ ?_
         cases h
         exact rndX rfl (an_ rfl rfl)
       ·rcases o47 with(l38 | l39)
        ·replace h:QeF l38=some o:=h
         unfold QeF at h
         rintro e σ ⟨rfl,rfl⟩
         refine Qa hC [.n 3,.keep [] [100000,100001,200000,200001,200002,200003,200004,200005,200006,200007,200008]] rfl tt_ ?_
         cases h
         exact rndR rfl (an_ rfl rfl)
        ·replace h:QeG x22 l39=some o:=h
         unfold QeG at h
         rintro e σ ⟨rfl,rfl⟩
         refine Qa hC [.n 2,.keep [6,7,8,12,13,14,16,74,75,76] [14,71,100000,100001,200000,200001,200002,200003,200004,200005,200006,200007,200008]] rfl tt_ ?_
         exact AK.met (ex_ _ (an_ rfl h))
     ·rintro σ ⟨l29,rfl,h⟩
      unfold QcJ at h
      refine Qa hC [.n 4,.keep [6,7,8,12,13,14,16,74,75,76] [14,71,100000,100001,200000,200001,200002,200003,200004,200005,200006,200007,200008]] rfl tt_ ?_
      cases h
      exact rndN rfl rfl
    ·refine Qa hC [.br false,.n 2,.keep [] [100000,100001,200000,200001,200002,200003,200004,200005,200006,200007,200008]] rfl ⟨tt_,hc28⟩ ?_
     cases h
     exact rndX rfl (an_ rfl rfl)
   ·rcases o48 with(l26 | l27)
    ·replace h:QeH l26=some r:=h
     unfold QeH at h
     rintro e σ ⟨rfl,rfl⟩
     refine Qa hC [.n 2,.keep [] [100000,100001,200000,200001,200002,200003,200004,200005,200006,200007,200008]] rfl tt_ ?_
     cases h
     refine AK.done ?_
     exact ex_ _ (an_ rfl (gives ⟨rfl,rfl,rfl,rfl,rfl,rfl,rfl,rfl,rfl,rfl,rfl,tt_⟩))
    ·replace h:QeI l27=some r:=h
     unfold QeI at h
     rintro e σ ⟨rfl,rfl⟩
     refine Qa hC [.n 2,.keep [] [100000,100001,200000,200001,200002,200003,200004,200005,200006,200007,200008]] rfl tt_ ?_
     cases h
     refine AK.done ?_
     exact ex_ _ (an_ rfl (gives ⟨rfl,rfl,rfl,rfl,rfl,rfl,rfl,rfl,rfl,rfl,rfl,tt_⟩))
def QaX (l1:(List Qz))(k2:Int):Option Int:=
 (Qef l1 k2).bind fun x5=>
 bif (!x5.1)then
 some 0
 else
 (idx x5.2.sizes k2).bind fun e7=>
 some e7
theorem QgG (l1:(List Qz))(k2:Int){r:Int}(h:QaX l1 k2=some r):Qc Tryz.prog 53 [.sl 7 (l1.map Qv),.i .i64 k2] [] (Gives (.i .i64 r) []):=by
 refine Qc.walk 20 Tryz.func53 rfl Tryz.ntmps53 rfl fun C hC=>?_
 unfold QaX at h
 obtain⟨x5,hx5,h⟩:=Qb h
 refine Qa hC [.n 9,.o (.c false [.d,.d] (.tup [.agg (QK x5.2),.b x5.1])),.n 5,.sayO 5 (.var (QK x5.2)),.n 10] rfl ⟨⟨tt_,(Qj7 _ _ hx5)⟩,rfl⟩ ?_
 rcases bifE h with⟨hc6,h⟩|⟨hc6,h⟩
 ·refine Qa hC [.br true,.n 7,.keep [4] []] rfl ⟨tt_,hc6⟩ ?_
  cases h
  exact AK.done (ex_ [_] (an_ (an_ rfl tt_) (gives tt_)))
 ·obtain⟨e7,he7,h⟩:=Qb h
  refine Qa hC [.br false,.n 7,.o (.row (Qe e7)),.n 5,.keep [4] []] rfl ⟨⟨tt_,hc6⟩,(idxM he7)⟩ ?_
  cases h
  exact AK.done (ex_ [_] (an_ (an_ rfl tt_) (gives tt_)))
def QgH (a22:(List Qk)):Option (((List Int)×(List Qk))⊕((List Qk)⊕(List Qk))):=
 some (.inr (.inr a22))
def QjF (at_25:Int)(l26:(List Int))(v9:Qr)(v10:TNet):Option Bool:=
 bif (decide (0≤at_25))then
 (idx l26 at_25).bind fun e34=>
 (idx v9.Vars at_25).bind fun e35=>
 (QaX v10.Colours e35.Colour).bind fun x36=>
 some (decide (x36≤(w64 (e34+1))))
 else
 some false
def Qea (l26:(List Int))(at_25:Int)(x31:Bool):Option ((Int×(List Int))⊕(Int×(List Int))):=
 bif x31 then
 (idx l26 at_25).bind fun e38=>
 some (.inl ((w64 (at_25-1)),(l26.set at_25.toNat 0)))
 else
 some (.inr (at_25,l26))
def Qeb (v9:Qr)(v10:TNet)(at_25:Int)(l26:(List Int)):Option ((Int×(List Int))⊕(Int×(List Int))):=
 (QjF at_25 l26 v9 v10).bind (fun x31=>Qea l26 at_25 x31)
def QgI (a23:(List Qk))(at_29:Int)(l30:(List Int)):Option (((List Int)×(List Qk))⊕((List Qk)⊕(List Qk))):=
 bif (decide (at_29<0))then
 some (.inr (.inl a23))
 else
 (idx l30 at_29).bind fun e41=>
 (idx l30 at_29).bind fun e42=>
 some (.inl ((l30.set at_29.toNat (w64 (e41+1))),a23))
def QgJ (v9:Qr)(v10:TNet)(l14:(List Int))(a23:(List Qk)):Option (((List Int)×(List Qk))⊕((List Qk)⊕(List Qk))):=
 (QF (fun st=>Qeb v9 v10 st.1 st.2) ((w64 ((l14.length:Int)-1)),l14)).bind (fun q=>QgI a23 q.1 q.2)
def Qec (v1:TNet)(v2:(List (List (Int×Int))))(v3:Int)(v4:Int)(l5:(List Qk))(v6:(List (List Int)))(v7:(List (List Int)))(v9:Qr)(v10:TNet)(l14:(List Int))(l15:(List Qk)):Option (((List Int)×(List Qk))⊕((List Qk)⊕(List Qk))):=
 (Qaj l14).bind fun x20=>
 (Qge v1 v2 v3 v4 l5 v6 v7 l15 x20).bind (Sum.elim (fun q=>QgH q) (fun q=>QgJ v9 v10 l14 q))
def QgK (l18:(List Qk)):Option ((List Qk)⊕(List Qk)):=
 some (.inl l18)
def QgL (l19:(List Qk)):Option ((List Qk)⊕(List Qk)):=
 some (.inr l19)
def Qim (v1:TNet)(v2:(List (List (Int×Int))))(v3:Int)(v4:Int)(l5:(List Qk))(v6:(List (List Int)))(v7:(List (List Int)))(l8:(List Qk))(v9:Qr)(v10:TNet):Option ((List Qk)⊕(List Qk)):=
 (chk (decide (0≤(v9.Vars.length:Int))&&decide ((v9.Vars.length:Int)≤(v9.Vars.length:Int))&&decide ((v9.Vars.length:Int)≤4294967296))).bind fun _=>
 (QF (fun st=>Qec v1 v2 v3 v4 l5 v6 v7 v9 v10 st.1 st.2) ((List.replicate (v9.Vars.length:Int).toNat (0:Int)),l8)).bind (Sum.elim (fun q=>QgK q) (fun q=>QgL q))
theorem QjG (lpl lpf:Nat)(v1:TNet)(v2:(List (List (Int×Int))))(v3:Int)(v4:Int)(l5:(List Qk))(v6:(List (List Int)))(v7:(List (List Int)))(l8:(List Qk))(v9:Qr)(v10:TNet){r:((List Qk)⊕(List Qk))}(h:Qim v1 v2 v3 v4 l5 v6 v7 l8 v9 v10=some r):Qc Tryz.prog 199 [.clo (.yield lpl) [] [],.loc 200009 0 0,.loc 200010 0 0] [(200000,.lp lpl (Qap lpf) [.J,.J,.J,.J,.loc 200001 0 0,.loc 200002 0 0,.loc 200003 0 0,.loc 200004 0 0,.loc 200005 0 0,.J,.loc 200006 0 0,.loc 200007 0 0,.loc 200008 0 0,.J,.J,.J,.J,.J,.J,.J,.J,.J,.J,.J,.J,.J,.J,.J,.J,.J,.J,.J,.J,.J,.J,.J,.J,.J,.J,.J,.J,.J,.J,.J,.J,.J,.J,.J,.J,.J,.J,.J,.J,.J,.J,.J,.J,.J,.J,.J,.J,.J,.J,.J,.J,.J,.J,.J,.J,.J,.J,.J,.J,.J,.J,.J,.J,.J,.J,.J,.J,.J,.J,.J,.J,.J,.J,.J,.J,.J,.J,.J,.J,.J,.J,.J,.J,.J,.J,.J,.J,.J,.J,.J,.J,.J,.J,.J,.J] 0),(200001,.var (Qd v1)),(200002,.var (QT v2)),(200003,.var (Qe v3)),(200004,.var (Qe v4)),(200005,.var [.own 100000 l5.length]),(100000,.arr 4 (l5.map Qj)),(200006,.var (QE v6)),(200007,.var (QE v7)),(200008,.var [.own 100001 l8.length]),(100001,.arr 4 (l8.map Qj)),(200009,.var (Qi v9)),(200010,.var (Qd v10))] ((Sum.elim (fun q=>(Gives (.tup []) [(100000,.arr 4 (l5.map Qj)),(100001,.arr 4 (q.map Qj)),(200000,.lp lpl (Qap lpf) [.J,.J,.J,.J,.loc 200001 0 0,.loc 200002 0 0,.loc 200003 0 0,.loc 200004 0 0,.loc 200005 0 0,.J,.loc 200006 0 0,.loc 200007 0 0,.loc 200008 0 0,.J,.J,.J,.J,.J,.J,.J,.J,.J,.J,.J,.J,.J,.J,.J,.J,.J,.J,.J,.J,.J,.J,.J,.J,.J,.J,.J,.J,.J,.J,.J,.J,.J,.J,.J,.J,.J,.J,.J,.J,.J,.J,.J,.J,.J,.J,.J,.J,.J,.J,.J,.J,.J,.J,.J,.J,.J,.J,.J,.J,.J,.J,.J,.J,.J,.J,.J,.J,.J,.J,.J,.J,.J,.J,.J,.J,.J,.J,.J,.J,.J,.J,.J,.J,.J,.J,.J,.J,.J,.J,.J,.J,.J,.J,.J,.J] 0),(200001,.var (Qd v1)),(200002,.var (QT v2)),(200003,.var (Qe v3)),(200004,.var (Qe v4)),(200005,.var [.own 100000 l5.length]),(200006,.var (QE v6)),(200007,.var (QE v7)),(200008,.var [.own 100001 q.length]),(200009,.var (Qi v9)),(200010,.var (Qd v10))])) (fun q=>(Gives (.tup []) [(100000,.arr 4 (l5.map Qj)),(100001,.arr 4 (q.map Qj)),(200000,.lp lpl (Qap lpf) [.J,.J,.J,.J,.loc 200001 0 0,.loc 200002 0 0,.loc 200003 0 0,.loc 200004 0 0,.loc 200005 0 0,.J,.loc 200006 0 0,.loc 200007 0 0,.loc 200008 0 0,.J,.J,.J,.J,.J,.J,.J,.J,.J,.J,.J,.J,.J,.J,.J,.J,.J,.J,.J,.J,.J,.J,.J,.J,.J,.J,.J,.J,.J,.J,.J,.J,.J,.J,.J,.J,.J,.J,.J,.J,.J,.J,.J,.J,.J,.J,.J,.J,.J,.J,.J,.J,.J,.J,.J,.J,.J,.J,.J,.J,.J,.J,.J,.J,.J,.J,.J,.J,.J,.J,.J,.J,.J,.J,.J,.J,.J,.J,.J,.J,.J,.J,.J,.J,.J,.J,.J,.J,.J,.J,.J,.J,.J,.J,.J,.J] 2),(200001,.var (Qd v1)),(200002,.var (QT v2)),(200003,.var (Qe v3)),(200004,.var (Qe v4)),(200005,.var [.own 100001 q.length]),(200006,.var (QE v6)),(200007,.var (QE v7)),(200008,.var [.own 100001 q.length]),(200009,.var (Qi v9)),(200010,.var (Qd v10))]))) r):=by
 refine Qc.walk 50 Tryz.func199 rfl Tryz.ntmps199 rfl fun C hC=>?_
 unfold Qim at h
 obtain⟨_,hk13,h⟩:=Qb h
 replace hk13:=chkE hk13
 refine Qa hC [.n 4,.o (.ln v9.Vars.length),.o (.rows ((List.replicate (v9.Vars.length:Int).toNat (0:Int)).map Qe)),.say 9 (.own 9 (List.replicate (v9.Vars.length:Int).toNat (0:Int)).length),.n 4,.keep [0,1,2,4] [9,100000,100001,200000,200001,200002,200003,200004,200005,200006,200007,200008,200009,200010]] rfl ⟨⟨⟨tt_,Qg⟩,⟨hk13,Qtd rfl⟩⟩,(by simp)⟩ ?_
 obtain⟨o43,hl43,h⟩:=Qb h
 refine AK.loop (body:=(fun st=>Qec v1 v2 v3 v4 l5 v6 v7 v9 v10 st.1 st.2)) (fun st σ=>σ=⟨[(0,.clo (.yield lpl) [] []),(1,.loc 200009 0 0),(2,.loc 200010 0 0),(4,.own 9 st.1.length)],[(9,.arr 1 (st.1.map Qe)),(100000,.arr 4 (l5.map Qj)),(100001,.arr 4 (st.2.map Qj)),(200000,.lp lpl (Qap lpf) [.J,.J,.J,.J,.loc 200001 0 0,.loc 200002 0 0,.loc 200003 0 0,.loc 200004 0 0,.loc 200005 0 0,.J,.loc 200006 0 0,.loc 200007 0 0,.loc 200008 0 0,.J,.J,.J,.J,.J,.J,.J,.J,.J,.J,.J,.J,.J,.J,.J,.J,.J,.J,.J,.J,.J,.J,.J,.J,.J,.J,.J,.J,.J,.J,.J,.J,.J,.J,.J,.J,.J,.J,.J,.J,.J,.J,.J,.J,.J,.J,.J,.J,.J,.J,.J,.J,.J,.J,.J,.J,.J,.J,.J,.J,.J,.J,.J,.J,.J,.J,.J,.J,.J,.J,.J,.J,.J,.J,.J,.J,.J,.J,.J,.J,.J,.J,.J,.J,.J,.J,.J,.J,.J,.J,.J,.J,.J,.J,.J,.J] 0),(200001,.var (Qd v1)),(200002,.var (QT v2)),(200003,.var (Qe v3)),(200004,.var (Qe v4)),(200005,.var [.own 100000 l5.length]),(200006,.var (QE v6)),(200007,.var (QE v7)),(200008,.var [.own 100001 st.2.length]),(200009,.var (Qi v9)),(200010,.var (Qd v10))]⟩) (Sum.elim (fun q e σ=>e=.ret∧σ=⟨[],[(100000,.arr 4 (l5.map Qj)),(100001,.arr 4 (q.map Qj)),(200000,.lp lpl (Qap lpf) [.J,.J,.J,.J,.loc 200001 0 0,.loc 200002 0 0,.loc 200003 0 0,.loc 200004 0 0,.loc 200005 0 0,.J,.loc 200006 0 0,.loc 200007 0 0,.loc 200008 0 0,.J,.J,.J,.J,.J,.J,.J,.J,.J,.J,.J,.J,.J,.J,.J,.J,.J,.J,.J,.J,.J,.J,.J,.J,.J,.J,.J,.J,.J,.J,.J,.J,.J,.J,.J,.J,.J,.J,.J,.J,.J,.J,.J,.J,.J,.J,.J,.J,.J,.J,.J,.J,.J,.J,.J,.J,.J,.J,.J,.J,.J,.J,.J,.J,.J,.J,.J,.J,.J,.J,.J,.J,.J,.J,.J,.J,.J,.J,.J,.J,.J,.J,.J,.J,.J,.J,.J,.J,.J,.J,.J,.J,.J,.J,.J,.J] 0),(200001,.var (Qd v1)),(200002,.var (QT v2)),(200003,.var (Qe v3)),(200004,.var (Qe v4)),(200005,.var [.own 100000 l5.length]),(200006,.var (QE v6)),(200007,.var (QE v7)),(200008,.var [.own 100001 q.length]),(200009,.var (Qi v9)),(200010,.var (Qd v10))]⟩) (fun q e σ=>e=.ret∧σ=⟨[],[(100000,.arr 4 (l5.map Qj)),(100001,.arr 4 (q.map Qj)),(200000,.lp lpl (Qap lpf) [.J,.J,.J,.J,.loc 200001 0 0,.loc 200002 0 0,.loc 200003 0 0,.loc 200004 0 0,.loc 200005 0 0,.J,.loc 200006 0 0,.loc 200007 0 0,.loc 200008 0 0,.J,.J,.J,.J,.J,.J,.J,.J,.J,.J,.J,.J,.J,.J,.J,.J,.J,.J,.J,.J,.J,.J,.J,.J,.J,.J,.J,.J,.J,.J,.J,.J,.J,.J,.J,.J,.J,.J,.J,.J,.J,.J,.J,.J,.J,.J,.J,.J,.J,.J,.J,.J,.J,.J,.J,.J,.J,.J,.J,.J,.J,.J,.J,.J,.J,.J,.J,.J,.J,.J,.J,.J,.J,.J,.J,.J,.J,.J,.J,.J,.J,.J,.J,.J,.J,.J,.J,.J,.J,.J,.J,.J,.J,.J,.J,.J] 2),(200001,.var (Qd v1)),(200002,.var (QT v2)),(200003,.var (Qe v3)),(200004,.var (Qe v4)),(200005,.var [.own 100001 q.length]),(200006,.var (QE v6)),(200007,.var (QE v7)),(200008,.var [.own 100001 q.length]),(200009,.var (Qi v9)),(200010,.var (Qd v10))]⟩)) hl43 rfl ?_ ?_
 ·rintro ⟨l14,l15⟩ o σ rfl h
  replace h:Qec v1 v2 v3 v4 l5 v6 v7 v9 v10 l14 l15=some o:=h
  unfold Qec at h
  obtain⟨x20,hx20,h⟩:=Qb h
  obtain⟨x21,hx21,h⟩:=Qb h
  refine Qa hC [.n 6,.o (.co true [.o (l14.map Qe)] 1 (x20.map Qe) x20.length),.frz 12 (x20.map Qe) [12] []] rfl ⟨⟨tt_,⟨(QoD rfl),⟨(Qbw _ hx20),Qg,.inr (Qtv _)⟩⟩⟩,⟨tt_,(frzL Qg)⟩⟩ ?_
  rcases x21 with(a22 | a23)
  ·replace h:QgH a22=some o:=h
   unfold QgH at h
   refine Qa hC [.x (fun σ=>(σ.after [100000,100001] [(100000,.arr 4 (l5.map Qj)),(100001,.arr 4 (a22.map Qj)),(200000,.lp lpl (Qap lpf) [.J,.J,.J,.J,.loc 200001 0 0,.loc 200002 0 0,.loc 200003 0 0,.loc 200004 0 0,.loc 200005 0 0,.J,.loc 200006 0 0,.loc 200007 0 0,.loc 200008 0 0,.J,.J,.J,.J,.J,.J,.J,.J,.J,.J,.J,.J,.J,.J,.J,.J,.J,.J,.J,.J,.J,.J,.J,.J,.J,.J,.J,.J,.J,.J,.J,.J,.J,.J,.J,.J,.J,.J,.J,.J,.J,.J,.J,.J,.J,.J,.J,.J,.J,.J,.J,.J,.J,.J,.J,.J,.J,.J,.J,.J,.J,.J,.J,.J,.J,.J,.J,.J,.J,.J,.J,.J,.J,.J,.J,.J,.J,.J,.J,.J,.J,.J,.J,.J,.J,.J,.J,.J,.J,.J,.J,.J,.J,.J,.J,.J] 2),(200001,.var (Qd v1)),(200002,.var (QT v2)),(200003,.var (Qe v3)),(200004,.var (Qe v4)),(200005,.var [.own 100001 a22.length]),(200006,.var (QE v6)),(200007,.var (QE v7)),(200008,.var [.own 100001 a22.length])]).put 13 (.b false)),.n 7,.keep [] [100000,100001,200000,200001,200002,200003,200004,200005,200006,200007,200008,200009,200010]] rfl ⟨tt_,(Stp.yieldV (b:=200000) (M:=[(200000,200000),(200001,200001),(200002,200002),(200003,200003),(200004,200004),(200005,200005),(100000,100000),(200006,200006),(200007,200007),(200008,200008),(100001,100001)]) (N:=[(100000,100000),(100001,100001),(200000,200000),(200001,200001),(200002,200002),(200003,200003),(200004,200004),(200005,200005),(200006,200006),(200007,200007),(200008,200008)]) (dead:=[100000,100001]) (ms:=[.d,.d,.d,.d,.d,.d,.d,.d,.d,.d,.d,.d,.d,.d,.d,.d,.d,.d,.d,.d,.d,.d,.d,.d,.d,.d,.d,.d,.d,.d,.d,.d,.d,.d,.d,.d,.d,.d,.d,.d,.d,.d,.d,.d,.d,.d,.d,.d,.d,.d,.d,.d,.d,.d,.d,.d,.d,.d,.d,.d,.d,.d,.d,.d,.d,.d,.d,.d,.d,.d,.d,.d,.d,.d,.d,.d,.d,.d,.d,.d,.d,.d,.d,.d,.d,.d,.d,.d,.d,.d,.d,.d,.d,.d,.d,.d,.d,.d,.d,.d,.d,.d,.d,.d,.d,.d,.d,.d,.d]) (outs:=[(100000,.arr 4 (l5.map Qj)),(100001,.arr 4 (a22.map Qj)),(200000,.lp lpl (Qap lpf) [.J,.J,.J,.J,.loc 200001 0 0,.loc 200002 0 0,.loc 200003 0 0,.loc 200004 0 0,.loc 200005 0 0,.J,.loc 200006 0 0,.loc 200007 0 0,.loc 200008 0 0,.J,.J,.J,.J,.J,.J,.J,.J,.J,.J,.J,.J,.J,.J,.J,.J,.J,.J,.J,.J,.J,.J,.J,.J,.J,.J,.J,.J,.J,.J,.J,.J,.J,.J,.J,.J,.J,.J,.J,.J,.J,.J,.J,.J,.J,.J,.J,.J,.J,.J,.J,.J,.J,.J,.J,.J,.J,.J,.J,.J,.J,.J,.J,.J,.J,.J,.J,.J,.J,.J,.J,.J,.J,.J,.J,.J,.J,.J,.J,.J,.J,.J,.J,.J,.J,.J,.J,.J,.J,.J,.J,.J,.J,.J,.J,.J] 2),(200001,.var (Qd v1)),(200002,.var (QT v2)),(200003,.var (Qe v3)),(200004,.var (Qe v4)),(200005,.var [.own 100001 a22.length]),(200006,.var (QE v6)),(200007,.var (QE v7)),(200008,.var [.own 100001 a22.length])]) (r:=.b false) rfl rfl rfl rfl rfl rfl rfl (bleN hC.n rfl) hC.g rfl rfl (QhT _ _ _ _ _ _ _ _ _ _ _ hx21))⟩ ?_
   cases h
   exact rndR rfl (an_ rfl rfl)
  ·replace h:QgJ v9 v10 l14 a23=some o:=h
   unfold QgJ at h
   refine Qa hC [.x (fun σ=>(σ.after [100000,100001] [(100000,.arr 4 (l5.map Qj)),(100001,.arr 4 (a23.map Qj)),(200000,.lp lpl (Qap lpf) [.J,.J,.J,.J,.loc 200001 0 0,.loc 200002 0 0,.loc 200003 0 0,.loc 200004 0 0,.loc 200005 0 0,.J,.loc 200006 0 0,.loc 200007 0 0,.loc 200008 0 0,.J,.J,.J,.J,.J,.J,.J,.J,.J,.J,.J,.J,.J,.J,.J,.J,.J,.J,.J,.J,.J,.J,.J,.J,.J,.J,.J,.J,.J,.J,.J,.J,.J,.J,.J,.J,.J,.J,.J,.J,.J,.J,.J,.J,.J,.J,.J,.J,.J,.J,.J,.J,.J,.J,.J,.J,.J,.J,.J,.J,.J,.J,.J,.J,.J,.J,.J,.J,.J,.J,.J,.J,.J,.J,.J,.J,.J,.J,.J,.J,.J,.J,.J,.J,.J,.J,.J,.J,.J,.J,.J,.J,.J,.J,.J,.J] 0),(200001,.var (Qd v1)),(200002,.var (QT v2)),(200003,.var (Qe v3)),(200004,.var (Qe v4)),(200005,.var [.own 100000 l5.length]),(200006,.var (QE v6)),(200007,.var (QE v7)),(200008,.var [.own 100001 a23.length])]).put 13 (.b true)),.n 16,.keep [0,1,2,4,5] [9,100000,100001,200000,200001,200002,200003,200004,200005,200006,200007,200008,200009,200010]] rfl ⟨tt_,(Stp.yieldV (b:=200000) (M:=[(200000,200000),(200001,200001),(200002,200002),(200003,200003),(200004,200004),(200005,200005),(100000,100000),(200006,200006),(200007,200007),(200008,200008),(100001,100001)]) (N:=[(100000,100000),(100001,100001),(200000,200000),(200001,200001),(200002,200002),(200003,200003),(200004,200004),(200005,200005),(200006,200006),(200007,200007),(200008,200008)]) (dead:=[100000,100001]) (ms:=[.d,.d,.d,.d,.d,.d,.d,.d,.d,.d,.d,.d,.d,.d,.d,.d,.d,.d,.d,.d,.d,.d,.d,.d,.d,.d,.d,.d,.d,.d,.d,.d,.d,.d,.d,.d,.d,.d,.d,.d,.d,.d,.d,.d,.d,.d,.d,.d,.d,.d,.d,.d,.d,.d,.d,.d,.d,.d,.d,.d,.d,.d,.d,.d,.d,.d,.d,.d,.d,.d,.d,.d,.d,.d,.d,.d,.d,.d,.d,.d,.d,.d,.d,.d,.d,.d,.d,.d,.d,.d,.d,.d,.d,.d,.d,.d,.d,.d,.d,.d,.d,.d,.d,.d,.d,.d,.d,.d,.d]) (outs:=[(100000,.arr 4 (l5.map Qj)),(100001,.arr 4 (a23.map Qj)),(200000,.lp lpl (Qap lpf) [.J,.J,.J,.J,.loc 200001 0 0,.loc 200002 0 0,.loc 200003 0 0,.loc 200004 0 0,.loc 200005 0 0,.J,.loc 200006 0 0,.loc 200007 0 0,.loc 200008 0 0,.J,.J,.J,.J,.J,.J,.J,.J,.J,.J,.J,.J,.J,.J,.J,.J,.J,.J,.J,.J,.J,.J,.J,.J,.J,.J,.J,.J,.J,.J,.J,.J,.J,.J,.J,.J,.J,.J,.J,.J,.J,.J,.J,.J,.J,.J,.J,.J,.J,.J,.J,.J,.J,.J,.J,.J,.J,.J,.J,.J,.J,.J,.J,.J,.J,.J,.J,.J,.J,.J,.J,.J,.J,.J,.J,.J,.J,.J,.J,.J,.J,.J,.J,.J,.J,.J,.J,.J,.J,.J,.J,.J,.J,.J,.J,.J] 0),(200001,.var (Qd v1)),(200002,.var (QT v2)),(200003,.var (Qe v3)),(200004,.var (Qe v4)),(200005,.var [.own 100000 l5.length]),(200006,.var (QE v6)),(200007,.var (QE v7)),(200008,.var [.own 100001 a23.length])]) (r:=.b true) rfl rfl rfl rfl rfl rfl rfl (bleN hC.n rfl) hC.g rfl rfl (QhT _ _ _ _ _ _ _ _ _ _ _ hx21))⟩ ?_
   obtain⟨o39,hl39,h⟩:=Qb h
   refine AK.loop (body:=(fun st=>Qeb v9 v10 st.1 st.2)) (fun st σ=>σ=⟨[(0,.clo (.yield lpl) [] []),(1,.loc 200009 0 0),(2,.loc 200010 0 0),(4,.own 9 st.2.length),(5,.i .i64 st.1)],[(9,.arr 1 (st.2.map Qe)),(100000,.arr 4 (l5.map Qj)),(100001,.arr 4 (a23.map Qj)),(200000,.lp lpl (Qap lpf) [.J,.J,.J,.J,.loc 200001 0 0,.loc 200002 0 0,.loc 200003 0 0,.loc 200004 0 0,.loc 200005 0 0,.J,.loc 200006 0 0,.loc 200007 0 0,.loc 200008 0 0,.J,.J,.J,.J,.J,.J,.J,.J,.J,.J,.J,.J,.J,.J,.J,.J,.J,.J,.J,.J,.J,.J,.J,.J,.J,.J,.J,.J,.J,.J,.J,.J,.J,.J,.J,.J,.J,.J,.J,.J,.J,.J,.J,.J,.J,.J,.J,.J,.J,.J,.J,.J,.J,.J,.J,.J,.J,.J,.J,.J,.J,.J,.J,.J,.J,.J,.J,.J,.J,.J,.J,.J,.J,.J,.J,.J,.J,.J,.J,.J,.J,.J,.J,.J,.J,.J,.J,.J,.J,.J,.J,.J,.J,.J,.J,.J] 0),(200001,.var (Qd v1)),(200002,.var (QT v2)),(200003,.var (Qe v3)),(200004,.var (Qe v4)),(200005,.var [.own 100000 l5.length]),(200006,.var (QE v6)),(200007,.var (QE v7)),(200008,.var [.own 100001 a23.length]),(200009,.var (Qi v9)),(200010,.var (Qd v10))]⟩) (fun q e σ=>e=.exit 2∧σ=⟨[(0,.clo (.yield lpl) [] []),(1,.loc 200009 0 0),(2,.loc 200010 0 0),(4,.own 9 q.2.length),(5,.i .i64 q.1)],[(9,.arr 1 (q.2.map Qe)),(100000,.arr 4 (l5.map Qj)),(100001,.arr 4 (a23.map Qj)),(200000,.lp lpl (Qap lpf) [.J,.J,.J,.J,.loc 200001 0 0,.loc 200002 0 0,.loc 200003 0 0,.loc 200004 0 0,.loc 200005 0 0,.J,.loc 200006 0 0,.loc 200007 0 0,.loc 200008 0 0,.J,.J,.J,.J,.J,.J,.J,.J,.J,.J,.J,.J,.J,.J,.J,.J,.J,.J,.J,.J,.J,.J,.J,.J,.J,.J,.J,.J,.J,.J,.J,.J,.J,.J,.J,.J,.J,.J,.J,.J,.J,.J,.J,.J,.J,.J,.J,.J,.J,.J,.J,.J,.J,.J,.J,.J,.J,.J,.J,.J,.J,.J,.J,.J,.J,.J,.J,.J,.J,.J,.J,.J,.J,.J,.J,.J,.J,.J,.J,.J,.J,.J,.J,.J,.J,.J,.J,.J,.J,.J,.J,.J,.J,.J,.J,.J] 0),(200001,.var (Qd v1)),(200002,.var (QT v2)),(200003,.var (Qe v3)),(200004,.var (Qe v4)),(200005,.var [.own 100000 l5.length]),(200006,.var (QE v6)),(200007,.var (QE v7)),(200008,.var [.own 100001 a23.length]),(200009,.var (Qi v9)),(200010,.var (Qd v10))]⟩) hl39 rfl ?_ ?_
   ·rintro ⟨at_25,l26⟩ o σ rfl h
    replace h:Qeb v9 v10 at_25 l26=some o:=h
    unfold Qeb at h
    refine Qa hC [.n 2] rfl tt_ ?_
    obtain⟨x31,hv32,h⟩:=Qb h
    replace h:Qea l26 at_25 x31=some o:=h
    refine AK.meetX (fun σ=>σ=⟨[(0,.clo (.yield lpl) [] []),(1,.loc 200009 0 0),(2,.loc 200010 0 0),(4,.own 9 l26.length),(5,.i .i64 at_25),(36,.b x31)],[(9,.arr 1 (l26.map Qe)),(100000,.arr 4 (l5.map Qj)),(100001,.arr 4 (a23.map Qj)),(200000,.lp lpl (Qap lpf) [.J,.J,.J,.J,.loc 200001 0 0,.loc 200002 0 0,.loc 200003 0 0,.loc 200004 0 0,.loc 200005 0 0,.J,.loc 200006 0 0,.loc 200007 0 0,.loc 200008 0 0,.J,.J,.J,.J,.J,.J,.J,.J,.J,.J,.J,.J,.J,.J,.J,.J,.J,.J,.J,.J,.J,.J,.J,.J,.J,.J,.J,.J,.J,.J,.J,.J,.J,.J,.J,.J,.J,.J,.J,.J,.J,.J,.J,.J,.J,.J,.J,.J,.J,.J,.J,.J,.J,.J,.J,.J,.J,.J,.J,.J,.J,.J,.J,.J,.J,.J,.J,.J,.J,.J,.J,.J,.J,.J,.J,.J,.J,.J,.J,.J,.J,.J,.J,.J,.J,.J,.J,.J,.J,.J,.J,.J,.J,.J,.J,.J] 0),(200001,.var (Qd v1)),(200002,.var (QT v2)),(200003,.var (Qe v3)),(200004,.var (Qe v4)),(200005,.var [.own 100000 l5.length]),(200006,.var (QE v6)),(200007,.var (QE v7)),(200008,.var [.own 100001 a23.length]),(200009,.var (Qi v9)),(200010,.var (Qd v10))]⟩) ?_ ?_
    ·replace h:=hv32
     unfold QjF at h
     refine Qa hC [.keep [0,1,2,4,5] [9,100000,100001,200000,200001,200002,200003,200004,200005,200006,200007,200008,200009,200010]] rfl tt_ ?_
     rcases bifE h with⟨hc33,h⟩|⟨hc33,h⟩
     ·obtain⟨e34,he34,h⟩:=Qb h
      obtain⟨e35,he35,h⟩:=Qb h
      obtain⟨x36,hx36,h⟩:=Qb h
      refine AK.draw2 Qp hC mixed [.a .no none false,.a .no none false,.a .no (some ([],.b true)) false,.a .no none false,.a .no none false,.a .no none false,.a (.row (Qe e34)) none false,.a .no none false,.a .no none false,.a .no none false,.a .no none false,.a .no none false,.a .no none false,.a (.row (QC e35)) none false,.a .no none false,.a .no none false,.a (.c false [.d,.d] (.i .i64 x36)) none false,.a .no none false,.a .no none false] [] [] [0,1,2,4,5,36] [9,100000,100001,200000,200001,200002,200003,200004,200005,200006,200007,200008,200009,200010] rfl rfl rfl ⟨⟨⟨⟨⟨tt_,(congrArg V.b hc33)⟩,(Qe0 he34 rfl)⟩,(QcE (idxE he34).2)⟩,(idxM he35)⟩,(QgG _ _ hx36)⟩ rfl (by kernel_rfl) rfl rfl rfl ?_
      refine Qa hC [.keep [0,1,2,4,5,36] [9,100000,100001,200000,200001,200002,200003,200004,200005,200006,200007,200008,200009,200010]] rfl tt_ ?_
      cases h
      exact AK.met rfl
     ·refine AK.draw2 Qp hC mixed [.a .no none false,.a .no none false,.a .no (some ([],.b false)) false,.a .no none false,.a .no none false,.a .no none false,.a .no none false,.a .no none false,.a .no none false,.a .no none false,.a .no none false,.a .no none false,.a .no none false,.a .no none false,.a .no none false,.a .no none false,.a .no none false,.a .no none false,.a .no none false] [] [] [0,1,2,4,5,36] [9,100000,100001,200000,200001,200002,200003,200004,200005,200006,200007,200008,200009,200010] rfl rfl rfl ⟨tt_,(congrArg V.b hc33)⟩ rfl (by kernel_rfl) rfl rfl rfl ?_
      refine Qa hC [.keep [0,1,2,4,5,36] [9,100000,100001,200000,200001,200002,200003,200004,200005,200006,200007,200008,200009,200010]] rfl tt_ ?_
      cases h
      exact AK.met rfl
    ·rintro σ rfl
     replace h:Qea l26 at_25 x31=some o:=h
     unfold Qea at h
     refine Qa hC [.n 1] rfl tt_ ?_
     rcases bifE h with⟨hc37,h⟩|⟨hc37,h⟩
     ·obtain⟨e38,he38,h⟩:=Qb h
      refine Qa hC [.br true,.n 8,.st (Qe e38) ((l26.set at_25.toNat 0).map Qe),.n 8,.say 4 (.own 9 (l26.set at_25.toNat 0).length),.keep [0,1,2,4,5] [9,100000,100001,200000,200001,200002,200003,200004,200005,200006,200007,200008,200009,200010]] rfl ⟨⟨⟨⟨tt_,hc37⟩,(Qe0 he38 rfl)⟩,⟨(QcE (idxE he38).2),Qjk rfl⟩⟩,(congrArg (fun n=>V.own 9 n) (by simp))⟩ ?_
      cases h
      exact rndN rfl rfl
     ·refine Qa hC [.br false,.n 2,.keep [0,1,2,4,5] [9,100000,100001,200000,200001,200002,200003,200004,200005,200006,200007,200008,200009,200010]] rfl ⟨tt_,hc37⟩ ?_
      cases h
      exact rndX rfl (an_ rfl rfl)
   ·obtain⟨at_29,l30⟩:=o39
    replace h:QgI a23 at_29 l30=some o:=h
    unfold QgI at h
    rintro e σ ⟨rfl,rfl⟩
    refine Qa hC [.n 9] rfl tt_ ?_
    rcases bifE h with⟨hc40,h⟩|⟨hc40,h⟩
    ·refine Qa hC [.br true,.n 3,.keep [] [100000,100001,200000,200001,200002,200003,200004,200005,200006,200007,200008,200009,200010]] rfl ⟨tt_,hc40⟩ ?_
     cases h
     exact rndR rfl (an_ rfl rfl)
    ·obtain⟨e41,he41,h⟩:=Qb h
     obtain⟨e42,he42,h⟩:=Qb h
     refine Qa hC [.br false,.n 6,.o (.row (Qe e41)),.n 2,.st (Qe e42) ((l30.set at_29.toNat (w64 (e41+1))).map Qe),.n 2,.say 4 (.own 9 (l30.set at_29.toNat (w64 (e41+1))).length),.keep [0,1,2,4] [9,100000,100001,200000,200001,200002,200003,200004,200005,200006,200007,200008,200009,200010]] rfl ⟨⟨⟨⟨⟨⟨tt_,hc40⟩,(Qe0 he41 rfl)⟩,(QcE (idxE he41).2)⟩,(Qe0 he42 rfl)⟩,⟨(QcE (idxE he42).2),Qjk rfl⟩⟩,(congrArg (fun n=>V.own 9 n) (by simp))⟩ ?_
     cases h
     exact rndN rfl rfl
 ·rcases o43 with(l18 | l19)
  ·replace h:QgK l18=some r:=h
   unfold QgK at h
   rintro e σ ⟨rfl,rfl⟩
   refine Qa hC [.n 1,.keep [] [100000,100001,200000,200001,200002,200003,200004,200005,200006,200007,200008,200009,200010]] rfl tt_ ?_
   cases h
   refine AK.done ?_
   exact ex_ [] (an_ tt_ (gives ⟨rfl,rfl,rfl,rfl,rfl,rfl,rfl,rfl,rfl,rfl,rfl,rfl,rfl,tt_⟩))
  ·replace h:QgL l19=some r:=h
   unfold QgL at h
   rintro e σ ⟨rfl,rfl⟩
   refine Qa hC [.n 1,.keep [] [100000,100001,200000,200001,200002,200003,200004,200005,200006,200007,200008,200009,200010]] rfl tt_ ?_
   cases h
   refine AK.done ?_
   exact ex_ [] (an_ tt_ (gives ⟨rfl,rfl,rfl,rfl,rfl,rfl,rfl,rfl,rfl,rfl,rfl,rfl,rfl,tt_⟩))
def QjH (a16:(List Qk)):Option (List Qk):=
 some a16
def QjI (a17:(List Qk)):Option (List Qk):=
 some a17
def Qlt (n1:TNet)(m2:(List (List (Int×Int))))(task3:Int)(most4:Int):Option (List Qk):=
 bif ((decide (task3<0))||((decide ((n1.Tasks.length:Int)≤task3))||(decide (most4<1))))then
 some ([]:List Qk)
 else
 (idx n1.Tasks task3).bind fun e11=>
 (Qcq e11.Join (e11.Ins.length:Int)).bind fun x12=>
 (Qcq e11.Split (e11.Outs.length:Int)).bind fun x13=>
 (QjE n1 e11).bind fun x14=>
 (Qim n1 m2 task3 most4 ([]:List Qk) x12 x13 ([]:List Qk) x14.2 x14.1).bind (Sum.elim (fun q=>QjH q) (fun q=>QjI q))
theorem Qqc (n1:TNet)(m2:(List (List (Int×Int))))(task3:Int)(most4:Int){r:(List Qk)}(h:Qlt n1 m2 task3 most4=some r):Qc Tryz.prog 88 [.agg (Qd n1),.sl 1 (m2.map Qf),.i .i64 task3,.i .i64 most4] [] (Gives (.sl 4 (r.map Qj)) []):=by
 refine Qc.walkR 109 Tryz.func88 rfl Tryz.ntmps88 rfl fun C hC hR=>?_
 unfold Qlt at h
 refine Qa hC [.n 11] rfl tt_ ?_
 refine AK.meetX (fun σ=>σ=⟨[(4,.loc 4 0 0),(5,.loc 5 0 0),(6,.loc 6 0 0),(7,.loc 7 0 0),(8,.loc 8 0 0),(33,.b ((decide (task3<0))||((decide ((n1.Tasks.length:Int)≤task3))||(decide (most4<1)))))],[(4,.var (Qd n1)),(5,.var (QT m2)),(6,.var (Qe task3)),(7,.var (Qe most4)),(8,.var [.lit (.slice none 0 0)])]⟩) ?_ ?_
 ·refine Qa hC [.n 4] rfl tt_ ?_
  rcases QJ (decide (task3<0))with hc8 | hc8
  ·refine Qa hC [.say 23 (.b true),.n 11,.say 33 (.b ((decide (task3<0))||((decide ((n1.Tasks.length:Int)≤task3))||(decide (most4<1))))),.keep [4,5,6,7,8,33] [4,5,6,7,8]] rfl ⟨⟨tt_,(congrArg V.b hc8)⟩,(congrArg V.b (orT hc8 rfl))⟩ ?_
   exact AK.met rfl
  ·refine Qa hC [.say 23 (.b false),.n 3,.o (.ln n1.Tasks.length),.n 3] rfl ⟨⟨tt_,(congrArg V.b hc8)⟩,Qg⟩ ?_
   rcases QJ (decide ((n1.Tasks.length:Int)≤task3))with hc9 | hc9
   ·refine Qa hC [.say 30 (.b true),.n 4,.say 33 (.b ((decide (task3<0))||((decide ((n1.Tasks.length:Int)≤task3))||(decide (most4<1))))),.keep [4,5,6,7,8,33] [4,5,6,7,8]] rfl ⟨⟨tt_,(congrArg V.b hc9)⟩,(congrArg V.b (orF hc8 (orT hc9 rfl)))⟩ ?_
    exact AK.met rfl
   ·refine Qa hC [.say 30 (.b false),.n 4,.say 33 (.b ((decide (task3<0))||((decide ((n1.Tasks.length:Int)≤task3))||(decide (most4<1))))),.keep [4,5,6,7,8,33] [4,5,6,7,8]] rfl ⟨⟨tt_,(congrArg V.b hc9)⟩,(congrArg V.b (orF hc8 (orF hc9 rfl)))⟩ ?_
    exact AK.met rfl
 ·rintro σ rfl
  refine Qa hC [.n 1] rfl tt_ ?_
  rcases bifE h with⟨hc10,h⟩|⟨hc10,h⟩
  ·refine Qa hC [.br true,.n 3,.sayO 8 (.var [.lit (.slice none 0 0)]),.n 4,.denilO 8 [some 4],.sayO 8 (.var (Qs1 ([]:List Qk))),.keep [8] [8]] rfl ⟨⟨⟨tt_,hc10⟩,rfl⟩,rfl⟩ ?_
   cases h
   exact AK.done (ex_ [_] (an_ (an_ (ex_ _ (ex_ _ (an_ rfl (an_ rfl (Or.inr (an_ (Qp.ag rfl) rfl)))))) tt_) (gives tt_)))
  ·obtain⟨e11,he11,h⟩:=Qb h
   obtain⟨x12,hx12,h⟩:=Qb h
   obtain⟨x13,hx13,h⟩:=Qb h
   refine Qa hC [.br false,.n 7,.o (.row (Qi e11)),.v .no [] (.agg (Qi e11)),.n 2,.sayO 9 (.var (Qi e11)),.n 3,.keep [4,5,6,7,8,9] [4,5,6,7,8,9]] rfl ⟨⟨⟨⟨tt_,hc10⟩,(idxM he11)⟩,rfl⟩,rfl⟩ ?_
   refine AK.draw2 Qp hC mixed [.a .no none false,.a .no none false,.a .no none false,.a .no none false,.a (.ln e11.Ins.length) none false,.a (.cd false [.d,.d] 1 (x12.map Qw) x12.length) none false,.a .no none false,.a .no none false,.a .no none false,.a .no none false,.a (.ln e11.Outs.length) none false,.a (.cd false [.d,.d] 1 (x13.map Qw) x13.length) none false,.a .no none false,.a .no none false,.m .s,.m .s] [] [] [4,5,6,7,8,9,10,11] [4,5,6,7,8,9,10,11] rfl rfl rfl ⟨⟨⟨⟨tt_,Qg⟩,⟨(Qil _ _ hx12),Qg⟩⟩,Qg⟩,⟨(Qil _ _ hx13),Qg⟩⟩ rfl (by kernel_rfl) rfl rfl rfl ?_
   obtain⟨x14,hx14,h⟩:=Qb h
   refine Qa hC [.sayO 10 (.var (QE x12)),.sayO 11 (.var (QE x13)),.n 9,.v .no [] (.agg (Qd n1)),.v .no [] (.agg (Qi e11)),.cm (.fn) [] [(53,2),(50000,3)] [] [.d,.d] [(2,.var (Qd x14.1)),(3,.var (Qi x14.2))] (.clo (.func 199) [] [.loc 3 0 0,.loc 2 0 0]),.n 3,.keep [4,5,6,7,8,10,11,12,53] [4,5,6,7,8,10,11,12,53,50000]] rfl ⟨⟨⟨⟨⟨tt_,rfl⟩,rfl⟩,rfl⟩,rfl⟩,(Qn5 _ _ hx14)⟩ ?_
   obtain⟨x15,hx15,h⟩:=Qb h
   refine Qa hC [.adoptO 8 0 45160 4,.sayO 45160 (.arr 4 (([]:List Qk).map Qj)),.sayO 8 (.var [.own 45160 ([]:List Qk).length]),.adoptO 12 0 45240 4,.sayO 45240 (.arr 4 (([]:List Qk).map Qj)),.sayO 12 (.var [.own 45240 ([]:List Qk).length])] rfl ⟨⟨⟨⟨tt_,rfl⟩,rfl⟩,rfl⟩,rfl⟩ ?_
   rcases x15 with(a16 | a17)
   ·replace h:QjH a16=some r:=h
    unfold QjH at h
    refine AK.rangeF 60000 [4,5,6,7,8,10,11,12] [(200000,60000),(200001,4),(200002,5),(200003,6),(200004,7),(200005,8),(100000,45160),(200006,10),(200007,11),(200008,12),(100001,45240),(200009,50000),(200010,53)] [(45160,100000),(45240,100001),(60000,200000),(4,200001),(5,200002),(6,200003),(7,200004),(8,200005),(10,200006),(11,200007),(12,200008),(50000,200009),(53,200010)] [45160,45240] [.d,.d,.d] Qap hC hR (fun _=>rfl) rfl rfl rfl rfl fun lpl lpf=>?_
    refine ex_ [(100000,.arr 4 (([]:List Qk).map Qj)),(100001,.arr 4 (a16.map Qj)),(200000,.lp lpl (Qap lpf) [.J,.J,.J,.J,.loc 200001 0 0,.loc 200002 0 0,.loc 200003 0 0,.loc 200004 0 0,.loc 200005 0 0,.J,.loc 200006 0 0,.loc 200007 0 0,.loc 200008 0 0,.J,.J,.J,.J,.J,.J,.J,.J,.J,.J,.J,.J,.J,.J,.J,.J,.J,.J,.J,.J,.J,.J,.J,.J,.J,.J,.J,.J,.J,.J,.J,.J,.J,.J,.J,.J,.J,.J,.J,.J,.J,.J,.J,.J,.J,.J,.J,.J,.J,.J,.J,.J,.J,.J,.J,.J,.J,.J,.J,.J,.J,.J,.J,.J,.J,.J,.J,.J,.J,.J,.J,.J,.J,.J,.J,.J,.J,.J,.J,.J,.J,.J,.J,.J,.J,.J,.J,.J,.J,.J,.J,.J,.J,.J,.J,.J] 0),(200001,.var (Qd n1)),(200002,.var (QT m2)),(200003,.var (Qe task3)),(200004,.var (Qe most4)),(200005,.var [.own 100000 ([]:List Qk).length]),(200006,.var (QE x12)),(200007,.var (QE x13)),(200008,.var [.own 100001 a16.length]),(200009,.var (Qi x14.2)),(200010,.var (Qd x14.1))] (ex_ (.tup []) (ex_ _ (ex_ _ (ex_ [.J,.J,.J,.J,.loc 4 0 0,.loc 5 0 0,.loc 6 0 0,.loc 7 0 0,.loc 8 0 0,.J,.loc 10 0 0,.loc 11 0 0,.loc 12 0 0,.J,.J,.J,.J,.J,.J,.J,.J,.J,.J,.J,.J,.J,.J,.J,.J,.J,.J,.J,.J,.J,.J,.J,.J,.J,.J,.J,.J,.J,.J,.J,.J,.J,.J,.J,.J,.J,.J,.J,.J,.J,.J,.J,.J,.J,.J,.J,.J,.J,.J,.J,.J,.J,.J,.J,.J,.J,.J,.J,.J,.J,.J,.J,.J,.J,.J,.J,.J,.J,.J,.J,.J,.J,.J,.J,.J,.J,.J,.J,.J,.J,.J,.J,.J,.J,.J,.J,.J,.J,.J,.J,.J,.J,.J,.J,.J] (ex_ 0 (an_ rfl ?_))))))
    refine an_ (QjG _ _ _ _ _ _ _ _ _ _ _ _ hx15) (an_ rfl (an_ (bne_iff_ne.1 (show(0 != 1)=true from rfl)) ?_))
    refine atJ0 rfl ?_
    refine Qa hC [.n 6,.sayO 8 (.var [.own 45240 a16.length]),.n 3,.frz 45240 (a16.map Qj) [] [8],.keep [8] [8]] rfl ⟨⟨tt_,rfl⟩,⟨tt_,⟨(frzL Qg),tt_⟩⟩⟩ ?_
    cases h
    exact AK.done (ex_ [_] (an_ (an_ (ex_ _ (ex_ _ (an_ rfl (an_ rfl (Or.inr (an_ (Qp.ag rfl) rfl)))))) tt_) (gives tt_)))
   ·replace h:QjI a17=some r:=h
    unfold QjI at h
    refine AK.rangeF 60000 [4,5,6,7,8,10,11,12] [(200000,60000),(200001,4),(200002,5),(200003,6),(200004,7),(200005,8),(100000,45160),(200006,10),(200007,11),(200008,12),(100001,45240),(200009,50000),(200010,53)] [(45160,100000),(45240,100001),(60000,200000),(4,200001),(5,200002),(6,200003),(7,200004),(8,200005),(10,200006),(11,200007),(12,200008),(50000,200009),(53,200010)] [45160,45240] [.d,.d,.d] Qap hC hR (fun _=>rfl) rfl rfl rfl rfl fun lpl lpf=>?_
    refine ex_ [(100000,.arr 4 (([]:List Qk).map Qj)),(100001,.arr 4 (a17.map Qj)),(200000,.lp lpl (Qap lpf) [.J,.J,.J,.J,.loc 200001 0 0,.loc 200002 0 0,.loc 200003 0 0,.loc 200004 0 0,.loc 200005 0 0,.J,.loc 200006 0 0,.loc 200007 0 0,.loc 200008 0 0,.J,.J,.J,.J,.J,.J,.J,.J,.J,.J,.J,.J,.J,.J,.J,.J,.J,.J,.J,.J,.J,.J,.J,.J,.J,.J,.J,.J,.J,.J,.J,.J,.J,.J,.J,.J,.J,.J,.J,.J,.J,.J,.J,.J,.J,.J,.J,.J,.J,.J,.J,.J,.J,.J,.J,.J,.J,.J,.J,.J,.J,.J,.J,.J,.J,.J,.J,.J,.J,.J,.J,.J,.J,.J,.J,.J,.J,.J,.J,.J,.J,.J,.J,.J,.J,.J,.J,.J,.J,.J,.J,.J,.J,.J,.J,.J] 2),(200001,.var (Qd n1)),(200002,.var (QT m2)),(200003,.var (Qe task3)),(200004,.var (Qe most4)),(200005,.var [.own 100001 a17.length]),(200006,.var (QE x12)),(200007,.var (QE x13)),(200008,.var [.own 100001 a17.length]),(200009,.var (Qi x14.2)),(200010,.var (Qd x14.1))] (ex_ (.tup []) (ex_ _ (ex_ _ (ex_ [.J,.J,.J,.J,.loc 4 0 0,.loc 5 0 0,.loc 6 0 0,.loc 7 0 0,.loc 8 0 0,.J,.loc 10 0 0,.loc 11 0 0,.loc 12 0 0,.J,.J,.J,.J,.J,.J,.J,.J,.J,.J,.J,.J,.J,.J,.J,.J,.J,.J,.J,.J,.J,.J,.J,.J,.J,.J,.J,.J,.J,.J,.J,.J,.J,.J,.J,.J,.J,.J,.J,.J,.J,.J,.J,.J,.J,.J,.J,.J,.J,.J,.J,.J,.J,.J,.J,.J,.J,.J,.J,.J,.J,.J,.J,.J,.J,.J,.J,.J,.J,.J,.J,.J,.J,.J,.J,.J,.J,.J,.J,.J,.J,.J,.J,.J,.J,.J,.J,.J,.J,.J,.J,.J,.J,.J,.J,.J] (ex_ 2 (an_ rfl ?_))))))
    refine an_ (QjG _ _ _ _ _ _ _ _ _ _ _ _ hx15) (an_ rfl (an_ (bne_iff_ne.1 (show(2 != 1)=true from rfl)) ?_))
    refine atJ2 rfl ?_
    refine Qa hC [.n 3,.frz 45240 (a17.map Qj) [] [8],.keep [8] [8]] rfl ⟨tt_,⟨tt_,⟨(frzL Qg),tt_⟩⟩⟩ ?_
    cases h
    exact AK.done (ex_ [_] (an_ (an_ (ex_ _ (ex_ _ (an_ rfl (an_ rfl (Or.inr (an_ (Qp.ag rfl) rfl)))))) tt_) (gives tt_)))
def QiN (n1:TNet)(m2:(List (List (Int×Int))))(most3:Int)(x6:Int)(l7:(List Qk)):Option ((Int×(List Qk))⊕(List Qk)):=
 bif (decide (x6<(n1.Tasks.length:Int)))then
 (Qlt n1 m2 x6 (w64 (most3-(l7.length:Int)))).bind fun x12=>
 (chk (decide (l7.length+x12.length≤4294967296))).bind fun _=>
 some (.inl ((w64 (x6+1)),(l7++x12)))
 else
 some (.inr l7)
def QkO (l10:(List Qk)):Option (List Qk):=
 some l10
def Qna (n1:TNet)(m2:(List (List (Int×Int))))(most3:Int):Option (List Qk):=
 (QF (fun st=>QiN n1 m2 most3 st.1 st.2) (0,([]:List Qk))).bind (fun q=>QkO q)
theorem Qrm (n1:TNet)(m2:(List (List (Int×Int))))(most3:Int){r:(List Qk)}(h:Qna n1 m2 most3=some r):Qc Tryz.prog 45 [.agg (Qd n1),.sl 1 (m2.map Qf),.i .i64 most3] [] (Gives (.own 30000 r.length) [(30000,.arr 4 (r.map Qj))]):=by
 refine Qc.walk 27 Tryz.func45 rfl Tryz.ntmps45 rfl fun C hC=>?_
 unfold Qna at h
 refine Qa hC [.n 16,.o (.ln n1.Tasks.length),.n 4,.adopt 7 15 4,.sayO 15 (.arr 4 (([]:List Qk).map Qj)),.say 7 (.own 15 ([]:List Qk).length),.keep [1,2,3,7,11,12] [3,15]] rfl ⟨⟨⟨tt_,Qg⟩,rfl⟩,(congrArg (fun n=>V.own 15 n) (by simp))⟩ ?_
 obtain⟨l10,hl14,h⟩:=Qb h
 refine AK.loop (body:=(fun st=>QiN n1 m2 most3 st.1 st.2)) (fun st σ=>σ=⟨[(1,.sl 1 (m2.map Qf)),(2,.i .i64 most3),(3,.loc 3 0 0),(7,.own 15 st.2.length),(11,.i .i64 (n1.Tasks.length:Int)),(12,.i .i64 st.1)],[(3,.var (Qd n1)),(15,.arr 4 (st.2.map Qj))]⟩) (fun q e σ=>e=.exit 0∧σ=⟨[(7,.own 15 q.length)],[(15,.arr 4 (q.map Qj))]⟩) hl14 rfl ?_ ?_
 ·rintro ⟨x6,l7⟩ o σ rfl h
  replace h:QiN n1 m2 most3 x6 l7=some o:=h
  unfold QiN at h
  refine Qa hC [.n 6] rfl tt_ ?_
  rcases bifE h with⟨hc11,h⟩|⟨hc11,h⟩
  ·obtain⟨x12,hx12,h⟩:=Qb h
   obtain⟨_,hk13,h⟩:=Qb h
   replace hk13:=chkE hk13
   refine Qa hC [.br true,.n 12,.v .no [] (.agg (Qd n1)),.n 6,.o (.c false [.d,.d,.d,.d] (.sl 4 (x12.map Qj))),.app ((l7++x12).map Qj) (l7++x12).length,.n 8,.keep [1,2,3,7,11,12] [3,15]] rfl ⟨⟨⟨⟨tt_,hc11⟩,rfl⟩,(Qqc _ _ _ _ hx12)⟩,⟨Qg,Qdn hk13 Qg,Qco,Qfl Qg⟩⟩ ?_
   cases h
   exact rndN rfl rfl
  ·refine Qa hC [.br false,.n 2,.keep [7] [15]] rfl ⟨tt_,hc11⟩ ?_
   cases h
   exact rndX rfl (an_ rfl rfl)
 ·replace h:QkO l10=some r:=h
  unfold QkO at h
  rintro e σ ⟨rfl,rfl⟩
  refine Qa hC [.n 9,.keep [6] [15],.ren 15 30000,.keep [6] [30000]] rfl tt_ ?_
  cases h
  exact AK.done (ex_ [_] (an_ (an_ rfl tt_) (gives ⟨rfl,tt_⟩)))
def Qhy (picks3:(List Int))(n1:TNet)(m8:(List (List (Int×Int))))(x9:Int)(l10:(List Qk)):Option (((List (List (Int×Int)))×Int×(List Qk))⊕((List Qk)⊕(List Qk))):=
 bif (decide (x9<(picks3.length:Int)))then
 (idx picks3 x9).bind fun e17=>
 (Qna n1 m8 4096).bind fun x18=>
 bif ((x18.length:Int)==0)then
 some (.inr (.inl l10))
 else
 (chk ((x18.length:Int) != 0)).bind fun _=>
 (chk ((x18.length:Int) != 0)).bind fun _=>
 (idx x18 (Int.tmod (w64 ((Int.tmod e17 (x18.length:Int))+(x18.length:Int))) (x18.length:Int))).bind fun e22=>
 (Qbb n1 m8 e22).bind fun x23=>
 bif (x23.2 != 0)then
 some (.inr (.inl l10))
 else
 (chk (decide (l10.length+([e22]:List Qk).length≤4294967296))).bind fun _=>
 some (.inl (x23.1,(w64 (x9+1)),(l10++([e22]:List Qk))))
 else
 some (.inr (.inr l10))
def QjJ (l14:(List Qk)):Option (List Qk):=
 some l14
def QjK (l15:(List Qk)):Option (List Qk):=
 some l15
def Qlu (n1:TNet)(m2:(List (List (Int×Int))))(picks3:(List Int)):Option (List Qk):=
 (QF (fun st=>Qhy picks3 n1 st.1 st.2.1 st.2.2) (m2,0,([]:List Qk))).bind (Sum.elim (fun q=>QjJ q) (fun q=>QjK q))
theorem Qqd (n1:TNet)(m2:(List (List (Int×Int))))(picks3:(List Int)){r:(List Qk)}(h:Qlu n1 m2 picks3=some r):Qc Tryz.prog 22 [.agg (Qd n1),.sl 1 (m2.map Qf),.sl 1 (picks3.map Qe)] [] (Gives (.own 30000 r.length) [(30000,.arr 4 (r.map Qj))]):=by
 refine Qc.walk 57 Tryz.func22 rfl Tryz.ntmps22 rfl fun C hC=>?_
 unfold Qlu at h
 refine Qa hC [.n 15,.o (.ln picks3.length),.n 4,.adopt 7 50 4,.sayO 50 (.arr 4 (([]:List Qk).map Qj)),.say 7 (.own 50 ([]:List Qk).length),.keep [1,3,7,14,15,16] [3,50]] rfl ⟨⟨⟨tt_,Qg⟩,rfl⟩,(congrArg (fun n=>V.own 50 n) (by simp))⟩ ?_
 obtain⟨o26,hl26,h⟩:=Qb h
 refine AK.loop (body:=(fun st=>Qhy picks3 n1 st.1 st.2.1 st.2.2)) (fun st σ=>σ=⟨[(1,.sl 1 (st.1.map Qf)),(3,.loc 3 0 0),(7,.own 50 st.2.2.length),(14,.sl 1 (picks3.map Qe)),(15,.i .i64 (picks3.length:Int)),(16,.i .i64 st.2.1)],[(3,.var (Qd n1)),(50,.arr 4 (st.2.2.map Qj))]⟩) (Sum.elim (fun q e σ=>e=.ret∧σ=⟨[(6,.own 50 q.length)],[(50,.arr 4 (q.map Qj))]⟩) (fun q e σ=>e=.exit 0∧σ=⟨[(7,.own 50 q.length)],[(50,.arr 4 (q.map Qj))]⟩)) hl26 rfl ?_ ?_
 ·rintro ⟨m8,x9,l10⟩ o σ rfl h
  replace h:Qhy picks3 n1 m8 x9 l10=some o:=h
  unfold Qhy at h
  refine Qa hC [.n 6] rfl tt_ ?_
  rcases bifE h with⟨hc16,h⟩|⟨hc16,h⟩
  ·obtain⟨e17,he17,h⟩:=Qb h
   obtain⟨x18,hx18,h⟩:=Qb h
   refine Qa hC [.br true,.n 6,.o (.row (Qe e17)),.n 6,.v .no [] (.agg (Qd n1)),.n 1,.o (.co false [.d,.d,.d] 4 (x18.map Qj) x18.length),.n 11] rfl ⟨⟨⟨⟨tt_,hc16⟩,(idxM he17)⟩,rfl⟩,⟨(Qrm _ _ _ hx18),Qg,.inl rfl⟩⟩ ?_
   rcases bifE h with⟨hc19,h⟩|⟨hc19,h⟩
   ·refine Qa hC [.br true,.n 10,.keep [6] [50]] rfl ⟨tt_,hc19⟩ ?_
    cases h
    exact rndR rfl (an_ rfl rfl)
   ·obtain⟨_,hk20,h⟩:=Qb h
    replace hk20:=chkE hk20
    obtain⟨_,hk21,h⟩:=Qb h
    replace hk21:=chkE hk21
    obtain⟨e22,he22,h⟩:=Qb h
    obtain⟨x23,hx23,h⟩:=Qb h
    refine Qa hC [.br false,.n 16,.v (.row (Qj e22)) [] (.agg (Qj e22)),.n 2,.sayO 11 (.var (Qj e22)),.n 4,.v .no [] (.agg (Qd n1)),.n 1,.v .no [] (.agg (Qj e22)),.o (.c false [.d,.d,.d] (.tup [.sl 1 (x23.1.map Qf),.i .i64 x23.2])),.n 14] rfl ⟨⟨⟨⟨⟨⟨⟨⟨⟨⟨tt_,hc19⟩,(neZ hk20)⟩,(neZ hk21)⟩,(Qe0 he22 rfl)⟩,(QcE (idxE he22).2)⟩,rfl⟩,rfl⟩,rfl⟩,rfl⟩,(Qgd _ _ _ hx23)⟩ ?_
    rcases bifE h with⟨hc24,h⟩|⟨hc24,h⟩
    ·refine Qa hC [.br true,.n 10,.keep [6] [50]] rfl ⟨tt_,hc24⟩ ?_
     cases h
     exact rndR rfl (an_ rfl rfl)
    ·obtain⟨_,hk25,h⟩:=Qb h
     replace hk25:=chkE hk25
     refine Qa hC [.br false,.n 4,.v .no [] (.agg (Qj e22)),.v (.bd []) [] (.sl 4 (([e22]:List Qk).map Qj)),.app ((l10++([e22]:List Qk)).map Qj) (l10++([e22]:List Qk)).length,.n 10,.keep [1,3,7,14,15,16] [3,50]] rfl ⟨⟨⟨⟨tt_,hc24⟩,rfl⟩,rfl⟩,⟨Qg,Qdn hk25 Qg,Qco,Qfl Qg⟩⟩ ?_
     cases h
     exact rndN rfl rfl
  ·refine Qa hC [.br false,.n 2,.keep [7] [50]] rfl ⟨tt_,hc16⟩ ?_
   cases h
   exact rndX rfl (an_ rfl rfl)
 ·rcases o26 with(l14 | l15)
  ·replace h:QjJ l14=some r:=h
   unfold QjJ at h
   rintro e σ ⟨rfl,rfl⟩
   refine Qa hC [.n 2,.keep [6] [50],.ren 50 30000,.keep [6] [30000]] rfl tt_ ?_
   cases h
   exact AK.done (ex_ [_] (an_ (an_ rfl tt_) (gives ⟨rfl,tt_⟩)))
  ·replace h:QjK l15=some r:=h
   unfold QjK at h
   rintro e σ ⟨rfl,rfl⟩
   refine Qa hC [.n 9,.keep [6] [50],.ren 50 30000,.keep [6] [30000]] rfl tt_ ?_
   cases h
   exact AK.done (ex_ [_] (an_ (an_ rfl tt_) (gives ⟨rfl,tt_⟩)))
def Qhz (a1:(List (Int×Int)))(b2:(List (Int×Int)))(i6:Int):Option (Int⊕(Unit⊕Unit)):=
 bif (decide (i6<(a1.length:Int)))then
 (idx a1 i6).bind fun e9=>
 (idx b2 i6).bind fun e10=>
 bif (!((e9.1==e10.1)&&(e9.2==e10.2)))then
 some (.inr (.inl ()))
 else
 some (.inl (w64 (i6+1)))
 else
 some (.inr (.inr ()))
def QjL : Option Bool:=
 some false
def QjM : Option Bool:=
 some true
def Qlv (a1:(List (Int×Int)))(b2:(List (Int×Int))):Option Bool:=
 bif ((a1.length:Int) != (b2.length:Int))then
 some false
 else
 (QF (fun st=>Qhz a1 b2 st) 0).bind (Sum.elim (fun q=>QjL) (fun q=>QjM))
theorem Qqe (a1:(List (Int×Int)))(b2:(List (Int×Int))){r:Bool}(h:Qlv a1 b2=some r):Qc Tryz.prog 43 [.sl 2 (a1.map Qs),.sl 2 (b2.map Qs)] [] (Gives (.b r) []):=by
 refine Qc.walk 26 Tryz.func43 rfl Tryz.ntmps43 rfl fun C hC=>?_
 unfold Qlv at h
 refine Qa hC [.n 9,.o (.ln a1.length),.n 1,.o (.ln b2.length),.n 3] rfl ⟨⟨tt_,Qg⟩,Qg⟩ ?_
 rcases bifE h with⟨hc5,h⟩|⟨hc5,h⟩
 ·refine Qa hC [.br true,.n 7,.keep [4] []] rfl ⟨tt_,hc5⟩ ?_
  cases h
  exact AK.done (ex_ [_] (an_ (an_ rfl tt_) (gives tt_)))
 ·refine Qa hC [.br false,.n 9,.keep [0,1,5] []] rfl ⟨tt_,hc5⟩ ?_
  obtain⟨o12,hl12,h⟩:=Qb h
  refine AK.loop (body:=(fun st=>Qhz a1 b2 st)) (fun st σ=>σ=⟨[(0,.sl 2 (a1.map Qs)),(1,.sl 2 (b2.map Qs)),(5,.i .i64 st)],[]⟩) (Sum.elim (fun q e σ=>e=.ret∧σ=⟨[(4,.b false)],[]⟩) (fun q e σ=>e=.exit 0∧σ=⟨[],[]⟩)) hl12 rfl ?_ ?_
  ·rintro i6 o σ rfl h
   replace h:Qhz a1 b2 i6=some o:=h
   unfold Qhz at h
   refine Qa hC [.n 5,.o (.ln a1.length),.n 3] rfl ⟨tt_,Qg⟩ ?_
   rcases bifE h with⟨hc8,h⟩|⟨hc8,h⟩
   ·obtain⟨e9,he9,h⟩:=Qb h
    obtain⟨e10,he10,h⟩:=Qb h
    refine Qa hC [.br true,.n 5,.keep [0,1,5] []] rfl ⟨tt_,hc8⟩ ?_
    refine AK.draw2 Qp hC mixed [.a .no none false,.a .no none false,.a (.row (Qs e9)) none false,.a .no (some ([],.agg (Qs e9))) false,.a .no none false,.a .no none false,.a (.row (Qs e10)) none false,.a .no (some ([],.agg (Qs e10))) false,.a (.any (.b (!((e9.1==e10.1)&&(e9.2==e10.2)))) none) none false] [] [] [0,1,5,25] [] rfl rfl rfl ⟨⟨⟨⟨⟨tt_,(idxM he9)⟩,rfl⟩,(idxM he10)⟩,rfl⟩,(fun σ h1 h2 _=>Stp.neAgg rfl rfl (bleN hC.n rfl) (h1 _ _ rfl) (h1 _ _ rfl) rfl rfl (Quq _ _ _ _))⟩ rfl (by kernel_rfl) rfl rfl rfl ?_
    refine Qa hC [.n 1] rfl tt_ ?_
    rcases bifE h with⟨hc11,h⟩|⟨hc11,h⟩
    ·refine Qa hC [.br true,.n 8,.keep [4] []] rfl ⟨tt_,hc11⟩ ?_
     cases h
     exact rndR rfl (an_ rfl rfl)
    ·refine Qa hC [.br false,.n 8,.keep [0,1,5] []] rfl ⟨tt_,hc11⟩ ?_
     cases h
     exact rndN rfl rfl
   ·refine Qa hC [.br false,.n 2,.keep [] []] rfl ⟨tt_,hc8⟩ ?_
    cases h
    exact rndX rfl (an_ rfl rfl)
  ·rcases o12 with(_ | _)
   ·replace h:QjL=some r:=h
    unfold QjL at h
    rintro e σ ⟨rfl,rfl⟩
    refine Qa hC [.n 2,.keep [4] []] rfl tt_ ?_
    cases h
    exact AK.done (ex_ [_] (an_ (an_ rfl tt_) (gives tt_)))
   ·replace h:QjM=some r:=h
    unfold QjM at h
    rintro e σ ⟨rfl,rfl⟩
    refine Qa hC [.n 8,.keep [4] []] rfl tt_ ?_
    cases h
    exact AK.done (ex_ [_] (an_ (an_ rfl tt_) (gives tt_)))
def Qe5 (a1:(List (List (Int×Int))))(b2:(List (List (Int×Int))))(i6:Int):Option (Int⊕(Unit⊕Unit)):=
 bif (decide (i6<(a1.length:Int)))then
 (idx a1 i6).bind fun e9=>
 (idx b2 i6).bind fun e10=>
 (Qlv e9 e10).bind fun x11=>
 bif (!x11)then
 some (.inr (.inl ()))
 else
 some (.inl (w64 (i6+1)))
 else
 some (.inr (.inr ()))
def Qhi : Option Bool:=
 some false
def Qhj : Option Bool:=
 some true
def Qi6 (a1:(List (List (Int×Int))))(b2:(List (List (Int×Int)))):Option Bool:=
 bif ((a1.length:Int) != (b2.length:Int))then
 some false
 else
 (QF (fun st=>Qe5 a1 b2 st) 0).bind (Sum.elim (fun q=>Qhi) (fun q=>Qhj))
theorem Qnp (a1:(List (List (Int×Int))))(b2:(List (List (Int×Int)))){r:Bool}(h:Qi6 a1 b2=some r):Qc Tryz.prog 18 [.sl 1 (a1.map Qf),.sl 1 (b2.map Qf)] [] (Gives (.b r) []):=by
 refine Qc.walk 27 Tryz.func18 rfl Tryz.ntmps18 rfl fun C hC=>?_
 unfold Qi6 at h
 refine Qa hC [.n 9,.o (.ln a1.length),.n 1,.o (.ln b2.length),.n 3] rfl ⟨⟨tt_,Qg⟩,Qg⟩ ?_
 rcases bifE h with⟨hc5,h⟩|⟨hc5,h⟩
 ·refine Qa hC [.br true,.n 7,.keep [4] []] rfl ⟨tt_,hc5⟩ ?_
  cases h
  exact AK.done (ex_ [_] (an_ (an_ rfl tt_) (gives tt_)))
 ·refine Qa hC [.br false,.n 9,.keep [0,1,5] []] rfl ⟨tt_,hc5⟩ ?_
  obtain⟨o13,hl13,h⟩:=Qb h
  refine AK.loop (body:=(fun st=>Qe5 a1 b2 st)) (fun st σ=>σ=⟨[(0,.sl 1 (a1.map Qf)),(1,.sl 1 (b2.map Qf)),(5,.i .i64 st)],[]⟩) (Sum.elim (fun q e σ=>e=.ret∧σ=⟨[(4,.b false)],[]⟩) (fun q e σ=>e=.exit 0∧σ=⟨[],[]⟩)) hl13 rfl ?_ ?_
  ·rintro i6 o σ rfl h
   replace h:Qe5 a1 b2 i6=some o:=h
   unfold Qe5 at h
   refine Qa hC [.n 5,.o (.ln a1.length),.n 3] rfl ⟨tt_,Qg⟩ ?_
   rcases bifE h with⟨hc8,h⟩|⟨hc8,h⟩
   ·obtain⟨e9,he9,h⟩:=Qb h
    obtain⟨e10,he10,h⟩:=Qb h
    obtain⟨x11,hx11,h⟩:=Qb h
    refine Qa hC [.br true,.n 5,.keep [0,1,5] []] rfl ⟨tt_,hc8⟩ ?_
    refine AK.draw2 Qp hC mixed [.a .no none false,.a .no none false,.a (.row (Qf e9)) none false,.a .no none false,.a .no none false,.a .no none false,.a (.row (Qf e10)) none false,.a .no none false,.a (.c false [.d,.d] (.b x11)) none false,.a .no none false] [] [] [0,1,5,26] [] rfl rfl rfl ⟨⟨⟨tt_,(idxM he9)⟩,(idxM he10)⟩,(Qqe _ _ hx11)⟩ rfl (by kernel_rfl) rfl rfl rfl ?_
    refine Qa hC [.n 1] rfl tt_ ?_
    rcases bifE h with⟨hc12,h⟩|⟨hc12,h⟩
    ·refine Qa hC [.br true,.n 8,.keep [4] []] rfl ⟨tt_,hc12⟩ ?_
     cases h
     exact rndR rfl (an_ rfl rfl)
    ·refine Qa hC [.br false,.n 8,.keep [0,1,5] []] rfl ⟨tt_,hc12⟩ ?_
     cases h
     exact rndN rfl rfl
   ·refine Qa hC [.br false,.n 2,.keep [] []] rfl ⟨tt_,hc8⟩ ?_
    cases h
    exact rndX rfl (an_ rfl rfl)
  ·rcases o13 with(_ | _)
   ·replace h:Qhi=some r:=h
    unfold Qhi at h
    rintro e σ ⟨rfl,rfl⟩
    refine Qa hC [.n 2,.keep [4] []] rfl tt_ ?_
    cases h
    exact AK.done (ex_ [_] (an_ (an_ rfl tt_) (gives tt_)))
   ·replace h:Qhj=some r:=h
    unfold Qhj at h
    rintro e σ ⟨rfl,rfl⟩
    refine Qa hC [.n 8,.keep [4] []] rfl tt_ ?_
    cases h
    exact AK.done (ex_ [_] (an_ (an_ rfl tt_) (gives tt_)))
def QY (s1:(List (Int×Int)))(s2:(List (Int×Int)))(x6:Int):Option (Int⊕(Unit⊕Unit)):=
 bif (decide (x6<(s1.length:Int)))then
 (idx s1 x6).bind fun e9=>
 (idx s2 x6).bind fun e10=>
 bif (!((e9.1==e10.1)&&(e9.2==e10.2)))then
 some (.inr (.inl ()))
 else
 some (.inl (w64 (x6+1)))
 else
 some (.inr (.inr ()))
def Qcz : Option Bool:=
 some false
def QcA : Option Bool:=
 some true
def Qa3 (s1:(List (Int×Int)))(s2:(List (Int×Int))):Option Bool:=
 bif ((s1.length:Int) != (s2.length:Int))then
 some false
 else
 (QF (fun st=>QY s1 s2 st) 0).bind (Sum.elim (fun q=>Qcz) (fun q=>QcA))
theorem Qjh (s1:(List (Int×Int)))(s2:(List (Int×Int))){r:Bool}(h:Qa3 s1 s2=some r):Qc Tryz.prog 93 [.sl 2 (s1.map Qs),.sl 2 (s2.map Qs)] [] (Gives (.b r) []):=by
 refine Qc.walk 26 Tryz.func93 rfl Tryz.ntmps93 rfl fun C hC=>?_
 unfold Qa3 at h
 refine Qa hC [.n 9,.o (.ln s1.length),.n 1,.o (.ln s2.length),.n 3] rfl ⟨⟨tt_,Qg⟩,Qg⟩ ?_
 rcases bifE h with⟨hc5,h⟩|⟨hc5,h⟩
 ·refine Qa hC [.br true,.n 7,.keep [4] []] rfl ⟨tt_,hc5⟩ ?_
  cases h
  exact AK.done (ex_ [_] (an_ (an_ rfl tt_) (gives tt_)))
 ·refine Qa hC [.br false,.n 6,.o (.ln s1.length),.n 4,.keep [0,1,12,13] []] rfl ⟨⟨tt_,hc5⟩,Qg⟩ ?_
  obtain⟨o12,hl12,h⟩:=Qb h
  refine AK.loop (body:=(fun st=>QY s1 s2 st)) (fun st σ=>σ=⟨[(0,.sl 2 (s1.map Qs)),(1,.sl 2 (s2.map Qs)),(12,.i .i64 (s1.length:Int)),(13,.i .i64 st)],[]⟩) (Sum.elim (fun q e σ=>e=.ret∧σ=⟨[(4,.b false)],[]⟩) (fun q e σ=>e=.exit 0∧σ=⟨[],[]⟩)) hl12 rfl ?_ ?_
  ·rintro x6 o σ rfl h
   replace h:QY s1 s2 x6=some o:=h
   unfold QY at h
   refine Qa hC [.n 6] rfl tt_ ?_
   rcases bifE h with⟨hc8,h⟩|⟨hc8,h⟩
   ·obtain⟨e9,he9,h⟩:=Qb h
    obtain⟨e10,he10,h⟩:=Qb h
    refine Qa hC [.br true,.n 11,.keep [0,1,5,12,13] []] rfl ⟨tt_,hc8⟩ ?_
    refine AK.draw2 Qp hC mixed [.a .no none false,.a .no none false,.a (.row (Qs e9)) none false,.a .no (some ([],.agg (Qs e9))) false,.a .no none false,.a .no none false,.a (.row (Qs e10)) none false,.a .no (some ([],.agg (Qs e10))) false,.a (.any (.b (!((e9.1==e10.1)&&(e9.2==e10.2)))) none) none false] [] [] [0,1,12,13,24] [] rfl rfl rfl ⟨⟨⟨⟨⟨tt_,(idxM he9)⟩,rfl⟩,(idxM he10)⟩,rfl⟩,(fun σ h1 h2 _=>Stp.neAgg rfl rfl (bleN hC.n rfl) (h1 _ _ rfl) (h1 _ _ rfl) rfl rfl (Quq _ _ _ _))⟩ rfl (by kernel_rfl) rfl rfl rfl ?_
    refine Qa hC [.n 1] rfl tt_ ?_
    rcases bifE h with⟨hc11,h⟩|⟨hc11,h⟩
    ·refine Qa hC [.br true,.n 8,.keep [4] []] rfl ⟨tt_,hc11⟩ ?_
     cases h
     exact rndR rfl (an_ rfl rfl)
    ·refine Qa hC [.br false,.n 7,.keep [0,1,12,13] []] rfl ⟨tt_,hc11⟩ ?_
     cases h
     exact rndN rfl rfl
   ·refine Qa hC [.br false,.n 2,.keep [] []] rfl ⟨tt_,hc8⟩ ?_
    cases h
    exact rndX rfl (an_ rfl rfl)
  ·rcases o12 with(_ | _)
   ·replace h:Qcz=some r:=h
    unfold Qcz at h
    rintro e σ ⟨rfl,rfl⟩
    refine Qa hC [.n 2,.keep [4] []] rfl tt_ ?_
    cases h
    exact AK.done (ex_ [_] (an_ (an_ rfl tt_) (gives tt_)))
   ·replace h:QcA=some r:=h
    unfold QcA at h
    rintro e σ ⟨rfl,rfl⟩
    refine Qa hC [.n 8,.keep [4] []] rfl tt_ ?_
    cases h
    exact AK.done (ex_ [_] (an_ (an_ rfl tt_) (gives tt_)))
def QkP (a1:(List (Int×Int)))(b2:(List (Int×Int))):Option Bool:=
 (Qb5 a1).bind fun x6=>
 bif x6 then
 (Qb5 b2).bind fun x8=>
 bif x8 then
 (Qa3 a1 b2).bind fun x10=>
 some x10
 else
 some false
 else
 some false
def QiO (x4:Bool):Option Bool:=
 some x4
def QjN (a1:(List (Int×Int)))(b2:(List (Int×Int))):Option Bool:=
 (QkP a1 b2).bind (fun x4=>QiO x4)
theorem Qrn (a1:(List (Int×Int)))(b2:(List (Int×Int))){r:Bool}(h:QjN a1 b2=some r):Qc Tryz.prog 50 [.sl 2 (a1.map Qs),.sl 2 (b2.map Qs)] [] (Gives (.b r) []):=by
 refine Qc.walk 16 Tryz.func50 rfl Tryz.ntmps50 rfl fun C hC=>?_
 unfold QjN at h
 refine Qa hC [.n 6] rfl tt_ ?_
 obtain⟨x4,hv5,h⟩:=Qb h
 replace h:QiO x4=some r:=h
 refine AK.meetX (fun σ=>σ=⟨[(4,.b x4)],[]⟩) ?_ ?_
 ·replace h:=hv5
  unfold QkP at h
  obtain⟨x6,hx6,h⟩:=Qb h
  refine Qa hC [.n 2,.o (.c false [.d] (.b x6)),.n 1] rfl ⟨tt_,(Qga _ hx6)⟩ ?_
  rcases bifE h with⟨hc7,h⟩|⟨hc7,h⟩
  ·obtain⟨x8,hx8,h⟩:=Qb h
   refine Qa hC [.say 7 (.b true),.n 1,.o (.c false [.d] (.b x8)),.n 2] rfl ⟨⟨tt_,(congrArg V.b hc7)⟩,(Qga _ hx8)⟩ ?_
   rcases bifE h with⟨hc9,h⟩|⟨hc9,h⟩
   ·obtain⟨x10,hx10,h⟩:=Qb h
    refine Qa hC [.say 11 (.b true),.n 2,.o (.c false [.d,.d] (.b x10)),.n 3,.keep [4] []] rfl ⟨⟨tt_,(congrArg V.b hc9)⟩,(Qjh _ _ hx10)⟩ ?_
    cases h
    exact AK.met rfl
   ·refine Qa hC [.say 11 (.b false),.n 6,.keep [4] []] rfl ⟨tt_,(congrArg V.b hc9)⟩ ?_
    cases h
    exact AK.met rfl
  ·refine Qa hC [.say 7 (.b false),.n 10,.keep [4] []] rfl ⟨tt_,(congrArg V.b hc7)⟩ ?_
   cases h
   exact AK.met rfl
 ·rintro σ rfl
  replace h:QiO x4=some r:=h
  unfold QiO at h
  refine Qa hC [.n 2,.keep [4] []] rfl tt_ ?_
  cases h
  exact AK.done (ex_ [_] (an_ (an_ rfl tt_) (gives tt_)))
def Qx (s1:(List (List (Int×Int))))(s2:(List (List (Int×Int))))(x6:Int):Option (Int⊕(Unit⊕Unit)):=
 bif (decide (x6<(s1.length:Int)))then
 (idx s1 x6).bind fun e9=>
 (idx s2 x6).bind fun e10=>
 (QjN e9 e10).bind fun x11=>
 bif (!x11)then
 some (.inr (.inl ()))
 else
 some (.inl (w64 (x6+1)))
 else
 some (.inr (.inr ()))
def QV : Option Bool:=
 some false
def QW : Option Bool:=
 some true
def QN (s1:(List (List (Int×Int))))(s2:(List (List (Int×Int)))):Option Bool:=
 bif ((s1.length:Int) != (s2.length:Int))then
 some false
 else
 (QF (fun st=>Qx s1 s2 st) 0).bind (Sum.elim (fun q=>QV) (fun q=>QW))
theorem Qcn (s1:(List (List (Int×Int))))(s2:(List (List (Int×Int)))){r:Bool}(h:QN s1 s2=some r):Qc Tryz.prog 49 [.sl 1 (s1.map Qf),.sl 1 (s2.map Qf),.clo (.func 50) [] []] [] (Gives (.b r) []):=by
 refine Qc.walk 32 Tryz.func49 rfl Tryz.ntmps49 rfl fun C hC=>?_
 unfold QN at h
 refine Qa hC [.n 9,.o (.ln s1.length),.n 1,.o (.ln s2.length),.n 3] rfl ⟨⟨tt_,Qg⟩,Qg⟩ ?_
 rcases bifE h with⟨hc5,h⟩|⟨hc5,h⟩
 ·refine Qa hC [.br true,.n 7,.keep [6] []] rfl ⟨tt_,hc5⟩ ?_
  cases h
  exact AK.done (ex_ [_] (an_ (an_ rfl tt_) (gives tt_)))
 ·refine Qa hC [.br false,.n 6,.o (.ln s1.length),.n 4,.keep [1,2,15,16,17] []] rfl ⟨⟨tt_,hc5⟩,Qg⟩ ?_
  obtain⟨o13,hl13,h⟩:=Qb h
  refine AK.loop (body:=(fun st=>Qx s1 s2 st)) (fun st σ=>σ=⟨[(1,.sl 1 (s2.map Qf)),(2,.clo (.func 50) [] []),(15,.sl 1 (s1.map Qf)),(16,.i .i64 (s1.length:Int)),(17,.i .i64 st)],[]⟩) (Sum.elim (fun q e σ=>e=.ret∧σ=⟨[(6,.b false)],[]⟩) (fun q e σ=>e=.exit 0∧σ=⟨[],[]⟩)) hl13 rfl ?_ ?_
  ·rintro x6 o σ rfl h
   replace h:Qx s1 s2 x6=some o:=h
   unfold Qx at h
   refine Qa hC [.n 6] rfl tt_ ?_
   rcases bifE h with⟨hc8,h⟩|⟨hc8,h⟩
   ·obtain⟨e9,he9,h⟩:=Qb h
    obtain⟨e10,he10,h⟩:=Qb h
    obtain⟨x11,hx11,h⟩:=Qb h
    refine Qa hC [.br true,.n 7,.o (.row (Qf e9)),.n 9,.o (.row (Qf e10)),.n 9,.o (.c false [.d,.d] (.b x11)),.n 3] rfl ⟨⟨⟨⟨tt_,hc8⟩,(idxM he9)⟩,(idxM he10)⟩,(Qrn _ _ hx11)⟩ ?_
    rcases bifE h with⟨hc12,h⟩|⟨hc12,h⟩
    ·refine Qa hC [.br true,.n 8,.keep [6] []] rfl ⟨tt_,hc12⟩ ?_
     cases h
     exact rndR rfl (an_ rfl rfl)
    ·refine Qa hC [.br false,.n 7,.keep [1,2,15,16,17] []] rfl ⟨tt_,hc12⟩ ?_
     cases h
     exact rndN rfl rfl
   ·refine Qa hC [.br false,.n 2,.keep [] []] rfl ⟨tt_,hc8⟩ ?_
    cases h
    exact rndX rfl (an_ rfl rfl)
  ·rcases o13 with(_ | _)
   ·replace h:QV=some r:=h
    unfold QV at h
    rintro e σ ⟨rfl,rfl⟩
    refine Qa hC [.n 2,.keep [6] []] rfl tt_ ?_
    cases h
    exact AK.done (ex_ [_] (an_ (an_ rfl tt_) (gives tt_)))
   ·replace h:QW=some r:=h
    unfold QW at h
    rintro e σ ⟨rfl,rfl⟩
    refine Qa hC [.n 8,.keep [6] []] rfl tt_ ?_
    cases h
    exact AK.done (ex_ [_] (an_ (an_ rfl tt_) (gives tt_)))
def Qha (a1:(List (List (Int×Int))))(b2:(List (List (Int×Int)))):Option Bool:=
 (QN a1 b2).bind fun x4=>
 some x4
theorem Qmy (a1:(List (List (Int×Int))))(b2:(List (List (Int×Int)))){r:Bool}(h:Qha a1 b2=some r):Qc Tryz.prog 25 [.sl 1 (a1.map Qf),.sl 1 (b2.map Qf)] [] (Gives (.b r) []):=by
 refine Qc.walk 8 Tryz.func25 rfl Tryz.ntmps25 rfl fun C hC=>?_
 unfold Qha at h
 obtain⟨x4,hx4,h⟩:=Qb h
 refine Qa hC [.n 9,.cm (.fn) [] [] [] [.d,.d,.d] [] (.b x4),.n 4,.keep [4] []] rfl ⟨tt_,(Qcn _ _ hx4)⟩ ?_
 cases h
 exact AK.done (ex_ [_] (an_ (an_ rfl tt_) (gives tt_)))
def Qlw (x3:((List (List (Int×Int)))×Int))(x4:((List (List (Int×Int)))×Int))(x5:((List (List (Int×Int)))×Int))(x6:((List (List (Int×Int)))×Int))(x7:((List (List (Int×Int)))×Int))(x8:(List Qk)):Option Bool:=
 bif (x3.2==0)then
 (Qi6 x3.1 ([([(2,1)]:List (Int×Int)),([(3,1)]:List (Int×Int)),([]:(List (Int×Int)))]:List (List (Int×Int)))).bind fun x12=>
 bif x12 then
 bif (x4.2==0)then
 bif (x5.2==0)then
 (Qha x5.1 ([([(2,2)]:List (Int×Int)),([]:(List (Int×Int))),([(0,5)]:List (Int×Int))]:List (List (Int×Int)))).bind fun x16=>
 bif x16 then
 bif (x6.2==10)then
 bif (x7.2==2)then
 some ((x8.length:Int)==2)
 else
 some false
 else
 some false
 else
 some false
 else
 some false
 else
 some false
 else
 some false
 else
 some false
def QgM (x9:Bool):Option Bool:=
 some x9
def QiP  : Option Bool:=
 (Qmb).bind fun x2=>
 (Qbb x2 ([([(2,2)]:List (Int×Int)),([]:(List (Int×Int))),([(0,5)]:List (Int×Int))]:List (List (Int×Int))) (Qk.mk 0 ([2]:List Int) ([0]:List Int) ([0]:List Int))).bind fun x3=>
 (QbL x2 ([([(2,2)]:List (Int×Int)),([]:(List (Int×Int))),([(0,5)]:List (Int×Int))]:List (List (Int×Int))) (Qk.mk 0 ([2]:List Int) ([0]:List Int) ([0]:List Int))).bind fun x4=>
 (Qmg x2 x4.1 (Qk.mk 0 ([2]:List Int) ([0]:List Int) ([0]:List Int))).bind fun x5=>
 (Qbb x2 x3.1 (Qk.mk 0 ([1]:List Int) ([0]:List Int) ([0]:List Int))).bind fun x6=>
 (Qm9 x2 ([([(2,2)]:List (Int×Int)),([]:(List (Int×Int))),([(0,5)]:List (Int×Int))]:List (List (Int×Int))) ([(Qk.mk 0 ([2]:List Int) ([0]:List Int) ([0]:List Int)),(Qk.mk 0 ([2]:List Int) ([0]:List Int) ([0]:List Int)),(Qk.mk 0 ([2]:List Int) ([0]:List Int) ([0]:List Int))]:List Qk)).bind fun x7=>
 (Qlu x2 ([([(2,2)]:List (Int×Int)),([]:(List (Int×Int))),([(0,5)]:List (Int×Int))]:List (List (Int×Int))) ([7,(-1),0]:List Int)).bind fun x8=>
 (Qlw x3 x4 x5 x6 x7 x8).bind (fun x9=>QgM x9)
theorem Qpq  {r:Bool}(h:QiP  = some r):Qc Tryz.prog 8 [] [] (Gives (.b r) []):=by
 refine Qc.walk 107 Tryz.func8 rfl Tryz.ntmps8 rfl fun C hC=>?_
 unfold QiP at h
 obtain⟨x2,hx2,h⟩:=Qb h
 obtain⟨x3,hx3,h⟩:=Qb h
 obtain⟨x4,hx4,h⟩:=Qb h
 obtain⟨x5,hx5,h⟩:=Qb h
 obtain⟨x6,hx6,h⟩:=Qb h
 obtain⟨x7,hx7,h⟩:=Qb h
 obtain⟨x8,hx8,h⟩:=Qb h
 refine Qa hC [.n 7,.o (.c false [] (.agg (Qd x2))),.n 2,.sayO 1 (.var (Qd x2)),.n 4,.v .no [] (.agg (Qs (2,2))),.v (.bd []) [] (.sl 2 (([(2,2)]:List (Int×Int)).map Qs)),.v .no [] (.agg (Qs (0,5))),.v (.bd []) [] (.sl 2 (([(0,5)]:List (Int×Int)).map Qs)),.v (.bd [none,some 2,none]) [] (.sl 1 (([([(2,2)]:List (Int×Int)),([]:(List (Int×Int))),([(0,5)]:List (Int×Int))]:List (List (Int×Int))).map Qf)),.n 5,.v (.bd []) [] (.sl 1 (([2]:List Int).map Qe)),.v (.bd []) [] (.sl 1 (([0]:List Int).map Qe)),.v (.bd []) [] (.sl 1 (([0]:List Int).map Qe)),.v .no [] (.agg (Qj (Qk.mk 0 ([2]:List Int) ([0]:List Int) ([0]:List Int)))),.n 2,.sayO 3 (.var (Qj (Qk.mk 0 ([2]:List Int) ([0]:List Int) ([0]:List Int)))),.n 4,.v .no [] (.agg (Qd x2)),.n 1,.v .no [] (.agg (Qj (Qk.mk 0 ([2]:List Int) ([0]:List Int) ([0]:List Int)))),.o (.c false [.d,.d,.d] (.tup [.sl 1 (x3.1.map Qf),.i .i64 x3.2])),.n 9,.v .no [] (.agg (Qd x2)),.n 1,.v .no [] (.agg (Qj (Qk.mk 0 ([2]:List Int) ([0]:List Int) ([0]:List Int)))),.o (.c false [.d,.d,.d] (.tup [.sl 1 (x4.1.map Qf),.i .i64 x4.2])),.n 9,.v .no [] (.agg (Qd x2)),.n 1,.v .no [] (.agg (Qj (Qk.mk 0 ([2]:List Int) ([0]:List Int) ([0]:List Int)))),.o (.c false [.d,.d,.d] (.tup [.sl 1 (x5.1.map Qf),.i .i64 x5.2])),.n 9,.v .no [] (.agg (Qd x2)),.n 1,.v (.bd []) [] (.sl 1 (([1]:List Int).map Qe)),.v (.bd []) [] (.sl 1 (([0]:List Int).map Qe)),.v (.bd []) [] (.sl 1 (([0]:List Int).map Qe)),.v .no [] (.agg (Qj (Qk.mk 0 ([1]:List Int) ([0]:List Int) ([0]:List Int)))),.o (.c false [.d,.d,.d] (.tup [.sl 1 (x6.1.map Qf),.i .i64 x6.2])),.n 9,.v .no [] (.agg (Qd x2)),.n 1,.v .no [] (.agg (Qj (Qk.mk 0 ([2]:List Int) ([0]:List Int) ([0]:List Int)))),.v .no [] (.agg (Qj (Qk.mk 0 ([2]:List Int) ([0]:List Int) ([0]:List Int)))),.v .no [] (.agg (Qj (Qk.mk 0 ([2]:List Int) ([0]:List Int) ([0]:List Int)))),.v (.bd []) [] (.sl 4 (([(Qk.mk 0 ([2]:List Int) ([0]:List Int) ([0]:List Int)),(Qk.mk 0 ([2]:List Int) ([0]:List Int) ([0]:List Int)),(Qk.mk 0 ([2]:List Int) ([0]:List Int) ([0]:List Int))]:List Qk).map Qj)),.o (.c false [.d,.d,.d] (.tup [.sl 1 (x7.1.map Qf),.i .i64 x7.2])),.n 9,.v .no [] (.agg (Qd x2)),.n 1,.v (.bd []) [] (.sl 1 (([7,(-1),0]:List Int).map Qe)),.o (.co false [.d,.d,.d] 4 (x8.map Qj) x8.length),.n 4] rfl ⟨⟨⟨⟨⟨⟨⟨⟨⟨⟨⟨⟨⟨⟨⟨⟨⟨⟨⟨⟨⟨⟨⟨⟨⟨⟨⟨⟨⟨⟨⟨⟨⟨⟨⟨⟨tt_,(QqJ  hx2)⟩,rfl⟩,rfl⟩,rfl⟩,rfl⟩,rfl⟩,rfl⟩,rfl⟩,rfl⟩,rfl⟩,rfl⟩,rfl⟩,rfl⟩,rfl⟩,(Qgd _ _ _ hx3)⟩,rfl⟩,rfl⟩,(Qmw _ _ _ hx4)⟩,rfl⟩,rfl⟩,(QqN _ _ _ hx5)⟩,rfl⟩,rfl⟩,rfl⟩,rfl⟩,rfl⟩,(Qgd _ _ _ hx6)⟩,rfl⟩,rfl⟩,rfl⟩,rfl⟩,rfl⟩,(Qrl _ _ _ hx7)⟩,rfl⟩,rfl⟩,⟨(Qqd _ _ _ hx8),Qg,.inl rfl⟩⟩ ?_
 obtain⟨x9,hv10,h⟩:=Qb h
 replace h:QgM x9=some r:=h
 refine AK.meetX (fun σ=>σ=⟨[(0,.b x9)],[]⟩) ?_ ?_
 ·replace h:=hv10
  unfold Qlw at h
  refine Qa hC [.n 4] rfl tt_ ?_
  rcases bifE h with⟨hc11,h⟩|⟨hc11,h⟩
  ·obtain⟨x12,hx12,h⟩:=Qb h
   refine Qa hC [.say 72 (.b true),.n 1,.v .no [] (.agg (Qs (2,1))),.v (.bd []) [] (.sl 2 (([(2,1)]:List (Int×Int)).map Qs)),.v .no [] (.agg (Qs (3,1))),.v (.bd []) [] (.sl 2 (([(3,1)]:List (Int×Int)).map Qs)),.v (.bd [none,none,some 2]) [] (.sl 1 (([([(2,1)]:List (Int×Int)),([(3,1)]:List (Int×Int)),([]:(List (Int×Int)))]:List (List (Int×Int))).map Qf)),.o (.c false [.d,.d] (.b x12)),.n 2] rfl ⟨⟨⟨⟨⟨⟨⟨tt_,(congrArg V.b hc11)⟩,rfl⟩,rfl⟩,rfl⟩,rfl⟩,rfl⟩,(Qnp _ _ hx12)⟩ ?_
   rcases bifE h with⟨hc13,h⟩|⟨hc13,h⟩
   ·refine Qa hC [.say 81 (.b true),.n 4] rfl ⟨tt_,(congrArg V.b hc13)⟩ ?_
    rcases bifE h with⟨hc14,h⟩|⟨hc14,h⟩
    ·refine Qa hC [.say 85 (.b true),.n 4] rfl ⟨tt_,(congrArg V.b hc14)⟩ ?_
     rcases bifE h with⟨hc15,h⟩|⟨hc15,h⟩
     ·obtain⟨x16,hx16,h⟩:=Qb h
      refine Qa hC [.say 89 (.b true),.n 2,.o (.c false [.d,.d] (.b x16)),.n 2] rfl ⟨⟨tt_,(congrArg V.b hc15)⟩,(Qmy _ _ hx16)⟩ ?_
      rcases bifE h with⟨hc17,h⟩|⟨hc17,h⟩
      ·refine Qa hC [.say 94 (.b true),.n 4] rfl ⟨tt_,(congrArg V.b hc17)⟩ ?_
       rcases bifE h with⟨hc18,h⟩|⟨hc18,h⟩
       ·refine Qa hC [.say 98 (.b true),.n 4] rfl ⟨tt_,(congrArg V.b hc18)⟩ ?_
        rcases bifE h with⟨hc19,h⟩|⟨hc19,h⟩
        ·refine Qa hC [.say 102 (.b true),.n 6,.keep [0] []] rfl ⟨tt_,(congrArg V.b hc19)⟩ ?_
         cases h
         exact AK.met rfl
        ·refine Qa hC [.say 102 (.b false),.n 6,.keep [0] []] rfl ⟨tt_,(congrArg V.b hc19)⟩ ?_
         cases h
         exact AK.met rfl
       ·refine Qa hC [.say 98 (.b false),.n 10,.keep [0] []] rfl ⟨tt_,(congrArg V.b hc18)⟩ ?_
        cases h
        exact AK.met rfl
      ·refine Qa hC [.say 94 (.b false),.n 14,.keep [0] []] rfl ⟨tt_,(congrArg V.b hc17)⟩ ?_
       cases h
       exact AK.met rfl
     ·refine Qa hC [.say 89 (.b false),.n 19,.keep [0] []] rfl ⟨tt_,(congrArg V.b hc15)⟩ ?_
      cases h
      exact AK.met rfl
    ·refine Qa hC [.say 85 (.b false),.n 23,.keep [0] []] rfl ⟨tt_,(congrArg V.b hc14)⟩ ?_
     cases h
     exact AK.met rfl
   ·refine Qa hC [.say 81 (.b false),.n 27,.keep [0] []] rfl ⟨tt_,(congrArg V.b hc13)⟩ ?_
    cases h
    exact AK.met rfl
  ·refine Qa hC [.say 72 (.b false),.n 36,.keep [0] []] rfl ⟨tt_,(congrArg V.b hc11)⟩ ?_
   cases h
   exact AK.met rfl
 ·rintro σ rfl
  replace h:QgM x9=some r:=h
  unfold QgM at h
  refine Qa hC [.n 2,.keep [0] []] rfl tt_ ?_
  cases h
  exact AK.done (ex_ [_] (an_ (an_ rfl tt_) (gives tt_)))
def Qel (e1:Qh)(rec_law04_few:Qh→Int→Option Int)(deep2:Int)(n8:Int)(i9:Int):Option ((Int×Int)⊕(Unit⊕Int)):=
 bif (decide (i9<(e1.Kids.length:Int)))then
 (idx e1.Kids i9).bind fun e14=>
 (rec_law04_few e14 (w64 (deep2-1))).bind fun x15=>
 bif (x15==0)then
 some (.inr (.inl ()))
 else
 bif (decide ((w64 ((w64 (n8-500))+x15))≤1))then
 some (.inr (.inl ()))
 else
 some (.inl ((w64 ((w64 (n8-500))+x15)),(w64 (i9+1))))
 else
 some (.inr (.inr n8))
def Qka : Option Int:=
 some 0
def Qkb (n12:Int):Option Int:=
 some (w64 (n12-1))
def QiQ (rec_law04_few:Qh→Int→Option Int)(e1:Qh)(deep2:Int):Option Int:=
 bif ((decide (deep2≤0))||(decide (9<(e1.Kids.length:Int))))then
 some 0
 else
 (QF (fun st=>Qel e1 rec_law04_few deep2 st.1 st.2) (500,0)).bind (Sum.elim (fun q=>Qka) (fun q=>Qkb q))
def QdQ : Nat→Qh→Int→Option Int
 | 0,_,_=>none
 | n+1,e1,deep2=>QiQ (QdQ n) e1 deep2
def Qmh (e1:Qh)(deep2:Int):Option Int:=QdQ (SizeOf.sizeOf e1) e1 deep2
theorem Qpr (rec_law04_few:Qh→Int→Option Int)(hrec_law04_few:∀(e1:Qh) (deep2:Int) {r:Int},rec_law04_few e1 deep2=some r→Qc Tryz.prog 99 [.agg (Ql e1),.i .i64 deep2] [] (Gives (.i .i64 r) []))(e1:Qh)(deep2:Int){r:Int}(h:QiQ rec_law04_few e1 deep2=some r):Qc Tryz.prog 99 [.agg (Ql e1),.i .i64 deep2] [] (Gives (.i .i64 r) []):=by
 refine Qc.walk 41 Tryz.func99 rfl Tryz.ntmps99 rfl fun C hC=>?_
 unfold QiQ at h
 refine Qa hC [.n 8] rfl tt_ ?_
 refine AK.meetX (fun σ=>σ=⟨[(1,.i .i64 deep2),(2,.loc 2 0 0),(15,.b ((decide (deep2≤0))||(decide (9<(e1.Kids.length:Int)))))],[(2,.var (Ql e1))]⟩) ?_ ?_
 ·refine Qa hC [.n 4] rfl tt_ ?_
  rcases QJ (decide (deep2≤0))with hc6 | hc6
  ·refine Qa hC [.say 10 (.b true),.n 6,.say 15 (.b ((decide (deep2≤0))||(decide (9<(e1.Kids.length:Int))))),.keep [1,2,15] [2]] rfl ⟨⟨tt_,(congrArg V.b hc6)⟩,(congrArg V.b (orT hc6 rfl))⟩ ?_
   exact AK.met rfl
  ·refine Qa hC [.say 10 (.b false),.n 2,.o (.ln e1.Kids.length),.n 3,.say 15 (.b ((decide (deep2≤0))||(decide (9<(e1.Kids.length:Int))))),.keep [1,2,15] [2]] rfl ⟨⟨⟨tt_,(congrArg V.b hc6)⟩,Qh2 _⟩,(congrArg V.b (orF hc6 rfl))⟩ ?_
   exact AK.met rfl
 ·rintro σ rfl
  refine Qa hC [.n 1] rfl tt_ ?_
  rcases bifE h with⟨hc7,h⟩|⟨hc7,h⟩
  ·refine Qa hC [.br true,.n 7,.keep [4] []] rfl ⟨tt_,hc7⟩ ?_
   cases h
   exact AK.done (ex_ [_] (an_ (an_ rfl tt_) (gives tt_)))
  ·refine Qa hC [.br false,.n 14,.keep [1,2,5,6] [2]] rfl ⟨tt_,hc7⟩ ?_
   obtain⟨o18,hl18,h⟩:=Qb h
   refine AK.loop (body:=(fun st=>Qel e1 rec_law04_few deep2 st.1 st.2)) (fun st σ=>σ=⟨[(1,.i .i64 deep2),(2,.loc 2 0 0),(5,.i .i64 st.1),(6,.i .i64 st.2)],[(2,.var (Ql e1))]⟩) (Sum.elim (fun q e σ=>e=.ret∧σ=⟨[(4,.i .i64 0)],[]⟩) (fun q e σ=>e=.exit 0∧σ=⟨[(5,.i .i64 q)],[]⟩)) hl18 rfl ?_ ?_
   ·rintro ⟨n8,i9⟩ o σ rfl h
    replace h:Qel e1 rec_law04_few deep2 n8 i9=some o:=h
    unfold Qel at h
    refine Qa hC [.n 6,.o (.ln e1.Kids.length),.n 3] rfl ⟨tt_,Qh2 _⟩ ?_
    rcases bifE h with⟨hc13,h⟩|⟨hc13,h⟩
    ·obtain⟨e14,he14,h⟩:=Qb h
     obtain⟨x15,hx15,h⟩:=Qb h
     refine Qa hC [.br true,.n 9,.o (.row (Ql e14)),.v .no [] (.agg (Ql e14)),.n 2,.o (.c false [.d,.d] (.i .i64 x15)),.n 10] rfl ⟨⟨⟨⟨tt_,hc13⟩,(Qdh he14)⟩,rfl⟩,(hrec_law04_few _ _ hx15)⟩ ?_
     rcases bifE h with⟨hc16,h⟩|⟨hc16,h⟩
     ·refine Qa hC [.br true,.n 9,.keep [4] []] rfl ⟨tt_,hc16⟩ ?_
      cases h
      exact rndR rfl (an_ rfl rfl)
     ·refine Qa hC [.br false,.n 17] rfl ⟨tt_,hc16⟩ ?_
      rcases bifE h with⟨hc17,h⟩|⟨hc17,h⟩
      ·refine Qa hC [.br true,.n 8,.keep [4] []] rfl ⟨tt_,hc17⟩ ?_
       cases h
       exact rndR rfl (an_ rfl rfl)
      ·refine Qa hC [.br false,.n 8,.keep [1,2,5,6] [2]] rfl ⟨tt_,hc17⟩ ?_
       cases h
       exact rndN rfl rfl
    ·refine Qa hC [.br false,.n 2,.keep [5] []] rfl ⟨tt_,hc13⟩ ?_
     cases h
     exact rndX rfl (an_ rfl rfl)
   ·rcases o18 with(_ | n12)
    ·replace h:Qka=some r:=h
     unfold Qka at h
     rintro e σ ⟨rfl,rfl⟩
     refine Qa hC [.n 2,.keep [4] []] rfl tt_ ?_
     cases h
     exact AK.done (ex_ [_] (an_ (an_ rfl tt_) (gives tt_)))
    ·replace h:Qkb n12=some r:=h
     unfold Qkb at h
     rintro e σ ⟨rfl,rfl⟩
     refine Qa hC [.n 10,.keep [4] []] rfl tt_ ?_
     cases h
     exact AK.done (ex_ [_] (an_ (an_ rfl tt_) (gives tt_)))
theorem Qlx : ∀(fuel:Nat) (e1:Qh) (deep2:Int) {r:Int},QdQ fuel e1 deep2=some r→Qc Tryz.prog 99 [.agg (Ql e1),.i .i64 deep2] [] (Gives (.i .i64 r) [])
 | 0,_,_,_,h=>by cases h
 | n+1,e1,deep2,_,h=>Qpr (QdQ n) (fun _ _ _ h=>Qlx n _ _ h) e1 deep2 h
theorem QqO (e1:Qh)(deep2:Int){r:Int}(h:Qmh e1 deep2=some r):Qc Tryz.prog 99 [.agg (Ql e1),.i .i64 deep2] [] (Gives (.i .i64 r) []):=Qlx _ e1 deep2 h
def QfO (e1:Qh):Option Bool:=
 (Qmh e1 60).bind fun x3=>
 some (decide (0<x3))
theorem Qkc (e1:Qh){r:Bool}(h:QfO e1=some r):Qc Tryz.prog 56 [.agg (Ql e1)] [] (Gives (.b r) []):=by
 refine Qc.walk 6 Tryz.func56 rfl Tryz.ntmps56 rfl fun C hC=>?_
 unfold QfO at h
 obtain⟨x3,hx3,h⟩:=Qb h
 refine Qa hC [.n 8,.v .no [] (.agg (Ql e1)),.o (.c false [.d,.d] (.i .i64 x3)),.n 5,.keep [2] []] rfl ⟨⟨tt_,rfl⟩,(QqO _ _ hx3)⟩ ?_
 cases h
 exact AK.done (ex_ [_] (an_ (an_ rfl tt_) (gives tt_)))
def Qkd (n1:TNet)(i9:Int)(parts8:Int)(e14:Qz):Option Bool:=
 (idx n1.Colours i9).bind fun e17=>
 bif (decide (100<(e17.Name.size:Int)))then
 some true
 else
 some (decide (400<(w64 (parts8+(e14.Names.length:Int)))))
def Qem (n1:TNet)(i9:Int)(k20:Int):Option (Int⊕(Unit⊕Unit)):=
 (idx n1.Colours i9).bind fun e22=>
 bif (decide (k20<(e22.Names.length:Int)))then
 (idx n1.Colours i9).bind fun e24=>
 (idx e24.Names k20).bind fun e25=>
 bif (decide (100<(e25.size:Int)))then
 some (.inr (.inl ()))
 else
 some (.inl (w64 (k20+1)))
 else
 some (.inr (.inr ()))
def Qke : Option ((Int×Int)⊕(Unit⊕Int)):=
 some (.inr (.inl ()))
def Qkf (parts8:Int)(e14:Qz)(i9:Int):Option ((Int×Int)⊕(Unit⊕Int)):=
 some (.inl ((w64 (parts8+(e14.Names.length:Int))),(w64 (i9+1))))
def Qgf (n1:TNet)(i9:Int)(parts8:Int)(e14:Qz)(x15:Bool):Option ((Int×Int)⊕(Unit⊕Int)):=
 bif x15 then
 some (.inr (.inl ()))
 else
 (QF (fun st=>Qem n1 i9 st) 0).bind (Sum.elim (fun q=>Qke) (fun q=>Qkf parts8 e14 i9))
def Qen (n1:TNet)(parts8:Int)(i9:Int):Option ((Int×Int)⊕(Unit⊕Int)):=
 bif (decide (i9<(n1.Colours.length:Int)))then
 (idx n1.Colours i9).bind fun e14=>
 (Qkd n1 i9 parts8 e14).bind (fun x15=>Qgf n1 i9 parts8 e14 x15)
 else
 some (.inr (.inr parts8))
def Qkg : Option Bool:=
 some false
def Qeo (n1:TNet)(parts29:Int)(i30:Int):Option ((Int×Int)⊕(Unit⊕Int)):=
 bif (decide (i30<(n1.Places.length:Int)))then
 (idx n1.Places i30).bind fun e35=>
 (idx n1.Places i30).bind fun e36=>
 bif (decide (100<(e36.Name.size:Int)))then
 some (.inr (.inl ()))
 else
 some (.inl ((w64 (parts29+(e35.First.length:Int))),(w64 (i30+1))))
 else
 some (.inr (.inr parts29))
def Qkh : Option Bool:=
 some false
def QdE (e44:Qr)(k48:Int):Option (Int⊕(Unit⊕Unit)):=
 bif (decide (k48<(e44.Vars.length:Int)))then
 (idx e44.Vars k48).bind fun e51=>
 bif (decide (100<(e51.Name.size:Int)))then
 some (.inr (.inl ()))
 else
 some (.inl (w64 (k48+1)))
 else
 some (.inr (.inr ()))
def QjO : Option ((Int×Int)⊕(Unit⊕Unit)):=
 some (.inr (.inl ()))
def QdF (e44:Qr)(ok55:Bool)(k56:Int):Option ((Bool×Int)⊕Bool):=
 bif (decide (k56<(e44.Ins.length:Int)))then
 (idx e44.Ins k56).bind fun e61=>
 (QfO e61.Expr).bind fun x62=>
 some (.inl ((ok55&&x62),(w64 (k56+1))))
 else
 some (.inr ok55)
def QdG (e44:Qr)(ok66:Bool)(k67:Int):Option ((Bool×Int)⊕Bool):=
 bif (decide (k67<(e44.Outs.length:Int)))then
 (idx e44.Outs k67).bind fun e72=>
 (QfO e72.Expr).bind fun x73=>
 some (.inl ((ok66&&x73),(w64 (k67+1))))
 else
 some (.inr ok66)
def Qfo (arcs39:Int)(e44:Qr)(i40:Int)(ok70:Bool):Option ((Int×Int)⊕(Unit⊕Unit)):=
 bif (!ok70)then
 some (.inr (.inl ()))
 else
 some (.inl ((w64 ((w64 ((w64 ((w64 (arcs39+(e44.Vars.length:Int)))+(e44.Ins.length:Int)))+(e44.Outs.length:Int)))+(e44.Cancel.length:Int))),(w64 (i40+1))))
def Qfp (e44:Qr)(arcs39:Int)(i40:Int)(ok59:Bool):Option ((Int×Int)⊕(Unit⊕Unit)):=
 (QF (fun st=>QdG e44 st.1 st.2) (ok59,0)).bind (fun q=>Qfo arcs39 e44 i40 q)
def Qfq (e44:Qr)(arcs39:Int)(i40:Int):Option ((Int×Int)⊕(Unit⊕Unit)):=
 (QfO e44.Guard).bind fun x54=>
 (QF (fun st=>QdF e44 st.1 st.2) (x54,0)).bind (fun q=>Qfp e44 arcs39 i40 q)
def QdH (n1:TNet)(arcs39:Int)(i40:Int):Option ((Int×Int)⊕(Unit⊕Unit)):=
 bif (decide (i40<(n1.Tasks.length:Int)))then
 (idx n1.Tasks i40).bind fun e44=>
 bif ((decide (200<(w64 ((w64 ((w64 ((w64 (arcs39+(e44.Vars.length:Int)))+(e44.Ins.length:Int)))+(e44.Outs.length:Int)))+(e44.Cancel.length:Int)))))||(decide (100<(e44.Name.size:Int))))then
 some (.inr (.inl ()))
 else
 (QF (fun st=>QdE e44 st) 0).bind (Sum.elim (fun q=>QjO) (fun q=>Qfq e44 arcs39 i40))
 else
 some (.inr (.inr ()))
def QjP : Option Bool:=
 some false
def QjQ (parts33:Int):Option Bool:=
 some (decide (parts33≤400))
def Qfr (n1:TNet)(parts33:Int):Option Bool:=
 (QF (fun st=>QdH n1 st.1 st.2) (0,0)).bind (Sum.elim (fun q=>QjP) (fun q=>QjQ parts33))
def Qfs (n1:TNet)(parts12:Int):Option Bool:=
 (QF (fun st=>Qeo n1 st.1 st.2) (parts12,0)).bind (Sum.elim (fun q=>Qkh) (fun q=>Qfr n1 q))
def QiD (n1:TNet):Option Bool:=
 bif ((decide (40<(n1.Colours.length:Int)))||((decide (70<(n1.Places.length:Int)))||(decide (70<(n1.Tasks.length:Int)))))then
 some false
 else
 (QF (fun st=>Qen n1 st.1 st.2) (0,0)).bind (Sum.elim (fun q=>Qkg) (fun q=>Qfs n1 q))
theorem QqP (n1:TNet){r:Bool}(h:QiD n1=some r):Qc Tryz.prog 30 [.agg (Qd n1)] [] (Gives (.b r) []):=by
 refine Qc.walk 201 Tryz.func30 rfl Tryz.ntmps30 rfl fun C hC=>?_
 unfold QiD at h
 refine Qa hC [.n 8] rfl tt_ ?_
 refine AK.meetX (fun σ=>σ=⟨[(1,.loc 1 0 0),(31,.b ((decide (40<(n1.Colours.length:Int)))||((decide (70<(n1.Places.length:Int)))||(decide (70<(n1.Tasks.length:Int))))))],[(1,.var (Qd n1))]⟩) ?_ ?_
 ·refine Qa hC [.n 3,.o (.ln n1.Colours.length),.n 2] rfl ⟨tt_,Qg⟩ ?_
  rcases QJ (decide (40<(n1.Colours.length:Int)))with hc5 | hc5
  ·refine Qa hC [.say 20 (.b true),.n 12,.say 31 (.b ((decide (40<(n1.Colours.length:Int)))||((decide (70<(n1.Places.length:Int)))||(decide (70<(n1.Tasks.length:Int)))))),.keep [1,31] [1]] rfl ⟨⟨tt_,(congrArg V.b hc5)⟩,(congrArg V.b (orT hc5 rfl))⟩ ?_
   exact AK.met rfl
  ·refine Qa hC [.say 20 (.b false),.n 2,.o (.ln n1.Places.length),.n 3] rfl ⟨⟨tt_,(congrArg V.b hc5)⟩,Qg⟩ ?_
   rcases QJ (decide (70<(n1.Places.length:Int)))with hc6 | hc6
   ·refine Qa hC [.say 26 (.b true),.n 6,.say 31 (.b ((decide (40<(n1.Colours.length:Int)))||((decide (70<(n1.Places.length:Int)))||(decide (70<(n1.Tasks.length:Int)))))),.keep [1,31] [1]] rfl ⟨⟨tt_,(congrArg V.b hc6)⟩,(congrArg V.b (orF hc5 (orT hc6 rfl)))⟩ ?_
    exact AK.met rfl
   ·refine Qa hC [.say 26 (.b false),.n 2,.o (.ln n1.Tasks.length),.n 3,.say 31 (.b ((decide (40<(n1.Colours.length:Int)))||((decide (70<(n1.Places.length:Int)))||(decide (70<(n1.Tasks.length:Int)))))),.keep [1,31] [1]] rfl ⟨⟨⟨tt_,(congrArg V.b hc6)⟩,Qg⟩,(congrArg V.b (orF hc5 (orF hc6 rfl)))⟩ ?_
    exact AK.met rfl
 ·rintro σ rfl
  refine Qa hC [.n 1] rfl tt_ ?_
  rcases bifE h with⟨hc7,h⟩|⟨hc7,h⟩
  ·refine Qa hC [.br true,.n 7,.keep [2] []] rfl ⟨tt_,hc7⟩ ?_
   cases h
   exact AK.done (ex_ [_] (an_ (an_ rfl tt_) (gives tt_)))
  ·refine Qa hC [.br false,.n 14,.keep [1,3,4] [1]] rfl ⟨tt_,hc7⟩ ?_
   obtain⟨o28,hl28,h⟩:=Qb h
   refine AK.loop (body:=(fun st=>Qen n1 st.1 st.2)) (fun st σ=>σ=⟨[(1,.loc 1 0 0),(3,.i .i64 st.1),(4,.i .i64 st.2)],[(1,.var (Qd n1))]⟩) (Sum.elim (fun q e σ=>e=.ret∧σ=⟨[(2,.b false)],[]⟩) (fun q e σ=>e=.exit 0∧σ=⟨[(1,.loc 1 0 0),(3,.i .i64 q)],[(1,.var (Qd n1))]⟩)) hl28 rfl ?_ ?_
   ·rintro ⟨parts8,i9⟩ o σ rfl h
    replace h:Qen n1 parts8 i9=some o:=h
    unfold Qen at h
    refine Qa hC [.n 6,.o (.ln n1.Colours.length),.n 3] rfl ⟨tt_,Qg⟩ ?_
    rcases bifE h with⟨hc13,h⟩|⟨hc13,h⟩
    ·obtain⟨e14,he14,h⟩:=Qb h
     refine Qa hC [.br true,.n 10,.o (.row (Qv e14)),.n 2,.o (.ln e14.Names.length),.n 6] rfl ⟨⟨⟨tt_,hc13⟩,(idxM he14)⟩,Qg⟩ ?_
     obtain⟨x15,hv16,h⟩:=Qb h
     replace h:Qgf n1 i9 parts8 e14 x15=some o:=h
     refine AK.meetX (fun σ=>σ=⟨[(1,.loc 1 0 0),(3,.i .i64 (w64 (parts8+(e14.Names.length:Int)))),(4,.i .i64 i9),(59,.b x15)],[(1,.var (Qd n1))]⟩) ?_ ?_
     ·replace h:=hv16
      unfold Qkd at h
      obtain⟨e17,he17,h⟩:=Qb h
      refine Qa hC [.n 4,.o (.row (Qv e17)),.n 5] rfl ⟨tt_,(idxM he17)⟩ ?_
      rcases bifE h with⟨hc18,h⟩|⟨hc18,h⟩
      ·refine Qa hC [.say 56 (.b true),.n 4,.keep [1,3,4,59] [1]] rfl ⟨tt_,(congrArg V.b hc18)⟩ ?_
       cases h
       exact AK.met rfl
      ·refine Qa hC [.say 56 (.b false),.n 4,.keep [1,3,4,59] [1]] rfl ⟨tt_,(congrArg V.b hc18)⟩ ?_
       cases h
       exact AK.met rfl
     ·rintro σ rfl
      replace h:Qgf n1 i9 parts8 e14 x15=some o:=h
      unfold Qgf at h
      refine Qa hC [.n 1] rfl tt_ ?_
      rcases bifE h with⟨hc19,h⟩|⟨hc19,h⟩
      ·refine Qa hC [.br true,.n 9,.keep [2] []] rfl ⟨tt_,hc19⟩ ?_
       cases h
       exact rndR rfl (an_ rfl rfl)
      ·refine Qa hC [.br false,.n 8,.keep [1,3,4,5] [1]] rfl ⟨tt_,hc19⟩ ?_
       obtain⟨o27,hl27,h⟩:=Qb h
       refine AK.loop (body:=(fun st=>Qem n1 i9 st)) (fun st σ=>σ=⟨[(1,.loc 1 0 0),(3,.i .i64 (w64 (parts8+(e14.Names.length:Int)))),(4,.i .i64 i9),(5,.i .i64 st)],[(1,.var (Qd n1))]⟩) (Sum.elim (fun q e σ=>e=.ret∧σ=⟨[(2,.b false)],[]⟩) (fun q e σ=>e=.exit 2∧σ=⟨[(1,.loc 1 0 0),(3,.i .i64 (w64 (parts8+(e14.Names.length:Int)))),(4,.i .i64 i9)],[(1,.var (Qd n1))]⟩)) hl27 rfl ?_ ?_
       ·rintro k20 o σ rfl h
        replace h:Qem n1 i9 k20=some o:=h
        unfold Qem at h
        obtain⟨e22,he22,h⟩:=Qb h
        refine Qa hC [.n 7,.o (.row (Qv e22)),.n 2,.o (.ln e22.Names.length),.n 3] rfl ⟨⟨tt_,(idxM he22)⟩,Qg⟩ ?_
        rcases bifE h with⟨hc23,h⟩|⟨hc23,h⟩
        ·obtain⟨e24,he24,h⟩:=Qb h
         obtain⟨e25,he25,h⟩:=Qb h
         refine Qa hC [.br true,.n 9,.o (.row (Qv e24)),.n 3,.o (.row (Qdg e25)),.n 5] rfl ⟨⟨⟨tt_,hc23⟩,(idxM he24)⟩,(idxM he25)⟩ ?_
         rcases bifE h with⟨hc26,h⟩|⟨hc26,h⟩
         ·refine Qa hC [.br true,.n 8,.keep [2] []] rfl ⟨tt_,hc26⟩ ?_
          cases h
          exact rndR rfl (an_ rfl rfl)
         ·refine Qa hC [.br false,.n 8,.keep [1,3,4,5] [1]] rfl ⟨tt_,hc26⟩ ?_
          cases h
          exact rndN rfl rfl
        ·refine Qa hC [.br false,.n 2,.keep [1,3,4] [1]] rfl ⟨tt_,hc23⟩ ?_
         cases h
         exact rndX rfl (an_ rfl rfl)
       ·rcases o27 with(_ | _)
        ·replace h:Qke=some o:=h
         unfold Qke at h
         rintro e σ ⟨rfl,rfl⟩
         refine Qa hC [.n 3,.keep [2] []] rfl tt_ ?_
         cases h
         exact rndR rfl (an_ rfl rfl)
        ·replace h:Qkf parts8 e14 i9=some o:=h
         unfold Qkf at h
         rintro e σ ⟨rfl,rfl⟩
         refine Qa hC [.n 8,.keep [1,3,4] [1]] rfl tt_ ?_
         cases h
         exact rndN rfl rfl
    ·refine Qa hC [.br false,.n 2,.keep [1,3] [1]] rfl ⟨tt_,hc13⟩ ?_
     cases h
     exact rndX rfl (an_ rfl rfl)
   ·rcases o28 with(_ | parts12)
    ·replace h:Qkg=some r:=h
     unfold Qkg at h
     rintro e σ ⟨rfl,rfl⟩
     refine Qa hC [.n 2,.keep [2] []] rfl tt_ ?_
     cases h
     exact AK.done (ex_ [_] (an_ (an_ rfl tt_) (gives tt_)))
    ·replace h:Qfs n1 parts12=some r:=h
     unfold Qfs at h
     rintro e σ ⟨rfl,rfl⟩
     refine Qa hC [.n 9,.keep [1,3,6] [1]] rfl tt_ ?_
     obtain⟨o38,hl38,h⟩:=Qb h
     refine AK.loop (body:=(fun st=>Qeo n1 st.1 st.2)) (fun st σ=>σ=⟨[(1,.loc 1 0 0),(3,.i .i64 st.1),(6,.i .i64 st.2)],[(1,.var (Qd n1))]⟩) (Sum.elim (fun q e σ=>e=.ret∧σ=⟨[(2,.b false)],[]⟩) (fun q e σ=>e=.exit 4∧σ=⟨[(1,.loc 1 0 0),(3,.i .i64 q)],[(1,.var (Qd n1))]⟩)) hl38 rfl ?_ ?_
     ·rintro ⟨parts29,i30⟩ o σ rfl h
      replace h:Qeo n1 parts29 i30=some o:=h
      unfold Qeo at h
      refine Qa hC [.n 6,.o (.ln n1.Places.length),.n 3] rfl ⟨tt_,Qg⟩ ?_
      rcases bifE h with⟨hc34,h⟩|⟨hc34,h⟩
      ·obtain⟨e35,he35,h⟩:=Qb h
       obtain⟨e36,he36,h⟩:=Qb h
       refine Qa hC [.br true,.n 10,.o (.row (Qt e35)),.n 2,.o (.ln e35.First.length),.n 9,.o (.row (Qt e36)),.n 6] rfl ⟨⟨⟨⟨tt_,hc34⟩,(idxM he35)⟩,Qg⟩,(idxM he36)⟩ ?_
       rcases bifE h with⟨hc37,h⟩|⟨hc37,h⟩
       ·refine Qa hC [.br true,.n 8,.keep [2] []] rfl ⟨tt_,hc37⟩ ?_
        cases h
        exact rndR rfl (an_ rfl rfl)
       ·refine Qa hC [.br false,.n 8,.keep [1,3,6] [1]] rfl ⟨tt_,hc37⟩ ?_
        cases h
        exact rndN rfl rfl
      ·refine Qa hC [.br false,.n 2,.keep [1,3] [1]] rfl ⟨tt_,hc34⟩ ?_
       cases h
       exact rndX rfl (an_ rfl rfl)
     ·rcases o38 with(_ | parts33)
      ·replace h:Qkh=some r:=h
       unfold Qkh at h
       rintro e σ ⟨rfl,rfl⟩
       refine Qa hC [.n 2,.keep [2] []] rfl tt_ ?_
       cases h
       exact AK.done (ex_ [_] (an_ (an_ rfl tt_) (gives tt_)))
      ·replace h:Qfr n1 parts33=some r:=h
       unfold Qfr at h
       rintro e σ ⟨rfl,rfl⟩
       refine Qa hC [.n 14,.keep [1,3,7,8] [1]] rfl tt_ ?_
       obtain⟨o78,hl78,h⟩:=Qb h
       refine AK.loop (body:=(fun st=>QdH n1 st.1 st.2)) (fun st σ=>σ=⟨[(1,.loc 1 0 0),(3,.i .i64 parts33),(7,.i .i64 st.1),(8,.i .i64 st.2)],[(1,.var (Qd n1))]⟩) (Sum.elim (fun q e σ=>e=.ret∧σ=⟨[(2,.b false)],[]⟩) (fun q e σ=>e=.exit 6∧σ=⟨[(3,.i .i64 parts33)],[]⟩)) hl78 rfl ?_ ?_
       ·rintro ⟨arcs39,i40⟩ o σ rfl h
        replace h:QdH n1 arcs39 i40=some o:=h
        unfold QdH at h
        refine Qa hC [.n 6,.o (.ln n1.Tasks.length),.n 3] rfl ⟨tt_,Qg⟩ ?_
        rcases bifE h with⟨hc43,h⟩|⟨hc43,h⟩
        ·obtain⟨e44,he44,h⟩:=Qb h
         refine Qa hC [.br true,.n 9,.o (.row (Qi e44)),.v .no [] (.agg (Qi e44)),.n 2,.sayO 9 (.var (Qi e44)),.n 7,.o (.ln e44.Vars.length),.n 3,.o (.ln e44.Ins.length),.n 3,.o (.ln e44.Outs.length),.n 3,.o (.ln e44.Cancel.length),.n 6] rfl ⟨⟨⟨⟨⟨⟨⟨⟨tt_,hc43⟩,(idxM he44)⟩,rfl⟩,rfl⟩,Qg⟩,Qg⟩,Qg⟩,Qg⟩ ?_
         refine AK.meetX (fun σ=>σ=⟨[(1,.loc 1 0 0),(3,.i .i64 parts33),(7,.i .i64 (w64 ((w64 ((w64 ((w64 (arcs39+(e44.Vars.length:Int)))+(e44.Ins.length:Int)))+(e44.Outs.length:Int)))+(e44.Cancel.length:Int)))),(8,.i .i64 i40),(9,.loc 9 0 0),(142,.b ((decide (200<(w64 ((w64 ((w64 ((w64 (arcs39+(e44.Vars.length:Int)))+(e44.Ins.length:Int)))+(e44.Outs.length:Int)))+(e44.Cancel.length:Int)))))||(decide (100<(e44.Name.size:Int)))))],[(1,.var (Qd n1)),(9,.var (Qi e44))]⟩) ?_ ?_
         ·refine Qa hC [.n 4] rfl tt_ ?_
          rcases QJ (decide (200<(w64 ((w64 ((w64 ((w64 (arcs39+(e44.Vars.length:Int)))+(e44.Ins.length:Int)))+(e44.Outs.length:Int)))+(e44.Cancel.length:Int)))))with hc46 | hc46
          ·refine Qa hC [.say 137 (.b true),.n 6,.say 142 (.b ((decide (200<(w64 ((w64 ((w64 ((w64 (arcs39+(e44.Vars.length:Int)))+(e44.Ins.length:Int)))+(e44.Outs.length:Int)))+(e44.Cancel.length:Int)))))||(decide (100<(e44.Name.size:Int))))),.keep [1,3,7,8,9,142] [1,9]] rfl ⟨⟨tt_,(congrArg V.b hc46)⟩,(congrArg V.b (orT hc46 rfl))⟩ ?_
           exact AK.met rfl
          ·refine Qa hC [.say 137 (.b false),.n 6,.say 142 (.b ((decide (200<(w64 ((w64 ((w64 ((w64 (arcs39+(e44.Vars.length:Int)))+(e44.Ins.length:Int)))+(e44.Outs.length:Int)))+(e44.Cancel.length:Int)))))||(decide (100<(e44.Name.size:Int))))),.keep [1,3,7,8,9,142] [1,9]] rfl ⟨⟨tt_,(congrArg V.b hc46)⟩,(congrArg V.b (orF hc46 rfl))⟩ ?_
           exact AK.met rfl
         ·rintro σ rfl
          refine Qa hC [.n 1] rfl tt_ ?_
          rcases bifE h with⟨hc47,h⟩|⟨hc47,h⟩
          ·refine Qa hC [.br true,.n 9,.keep [2] []] rfl ⟨tt_,hc47⟩ ?_
           cases h
           exact rndR rfl (an_ rfl rfl)
          ·refine Qa hC [.br false,.n 9,.keep [1,3,7,8,9,10] [1,9]] rfl ⟨tt_,hc47⟩ ?_
           obtain⟨o53,hl53,h⟩:=Qb h
           refine AK.loop (body:=(fun st=>QdE e44 st)) (fun st σ=>σ=⟨[(1,.loc 1 0 0),(3,.i .i64 parts33),(7,.i .i64 (w64 ((w64 ((w64 ((w64 (arcs39+(e44.Vars.length:Int)))+(e44.Ins.length:Int)))+(e44.Outs.length:Int)))+(e44.Cancel.length:Int)))),(8,.i .i64 i40),(9,.loc 9 0 0),(10,.i .i64 st)],[(1,.var (Qd n1)),(9,.var (Qi e44))]⟩) (Sum.elim (fun q e σ=>e=.ret∧σ=⟨[(2,.b false)],[]⟩) (fun q e σ=>e=.exit 8∧σ=⟨[(1,.loc 1 0 0),(3,.i .i64 parts33),(7,.i .i64 (w64 ((w64 ((w64 ((w64 (arcs39+(e44.Vars.length:Int)))+(e44.Ins.length:Int)))+(e44.Outs.length:Int)))+(e44.Cancel.length:Int)))),(8,.i .i64 i40),(9,.loc 9 0 0)],[(1,.var (Qd n1)),(9,.var (Qi e44))]⟩)) hl53 rfl ?_ ?_
           ·rintro k48 o σ rfl h
            replace h:QdE e44 k48=some o:=h
            unfold QdE at h
            refine Qa hC [.n 6,.o (.ln e44.Vars.length),.n 3] rfl ⟨tt_,Qg⟩ ?_
            rcases bifE h with⟨hc50,h⟩|⟨hc50,h⟩
            ·obtain⟨e51,he51,h⟩:=Qb h
             refine Qa hC [.br true,.n 9,.o (.row (QC e51)),.n 6] rfl ⟨⟨tt_,hc50⟩,(idxM he51)⟩ ?_
             rcases bifE h with⟨hc52,h⟩|⟨hc52,h⟩
             ·refine Qa hC [.br true,.n 8,.keep [2] []] rfl ⟨tt_,hc52⟩ ?_
              cases h
              exact rndR rfl (an_ rfl rfl)
             ·refine Qa hC [.br false,.n 8,.keep [1,3,7,8,9,10] [1,9]] rfl ⟨tt_,hc52⟩ ?_
              cases h
              exact rndN rfl rfl
            ·refine Qa hC [.br false,.n 2,.keep [1,3,7,8,9] [1,9]] rfl ⟨tt_,hc50⟩ ?_
             cases h
             exact rndX rfl (an_ rfl rfl)
           ·rcases o53 with(_ | _)
            ·replace h:QjO=some o:=h
             unfold QjO at h
             rintro e σ ⟨rfl,rfl⟩
             refine Qa hC [.n 4,.keep [2] []] rfl tt_ ?_
             cases h
             exact rndR rfl (an_ rfl rfl)
            ·replace h:Qfq e44 arcs39 i40=some o:=h
             unfold Qfq at h
             rintro e σ ⟨rfl,rfl⟩
             obtain⟨x54,hx54,h⟩:=Qb h
             refine Qa hC [.n 5,.v .no [] (.agg (Ql e44.Guard)),.o (.c false [.d] (.b x54)),.n 10,.keep [1,3,7,8,9,11,12] [1,9]] rfl ⟨⟨tt_,rfl⟩,(Qkc _ hx54)⟩ ?_
             obtain⟨ok59,hl65,h⟩:=Qb h
             refine AK.loop (body:=(fun st=>QdF e44 st.1 st.2)) (fun st σ=>σ=⟨[(1,.loc 1 0 0),(3,.i .i64 parts33),(7,.i .i64 (w64 ((w64 ((w64 ((w64 (arcs39+(e44.Vars.length:Int)))+(e44.Ins.length:Int)))+(e44.Outs.length:Int)))+(e44.Cancel.length:Int)))),(8,.i .i64 i40),(9,.loc 9 0 0),(11,.b st.1),(12,.i .i64 st.2)],[(1,.var (Qd n1)),(9,.var (Qi e44))]⟩) (fun q e σ=>e=.exit 10∧σ=⟨[(1,.loc 1 0 0),(3,.i .i64 parts33),(7,.i .i64 (w64 ((w64 ((w64 ((w64 (arcs39+(e44.Vars.length:Int)))+(e44.Ins.length:Int)))+(e44.Outs.length:Int)))+(e44.Cancel.length:Int)))),(8,.i .i64 i40),(9,.loc 9 0 0),(11,.b q)],[(1,.var (Qd n1)),(9,.var (Qi e44))]⟩) hl65 rfl ?_ ?_
             ·rintro ⟨ok55,k56⟩ o σ rfl h
              replace h:QdF e44 ok55 k56=some o:=h
              unfold QdF at h
              refine Qa hC [.n 6,.o (.ln e44.Ins.length),.n 3] rfl ⟨tt_,Qg⟩ ?_
              rcases bifE h with⟨hc60,h⟩|⟨hc60,h⟩
              ·obtain⟨e61,he61,h⟩:=Qb h
               obtain⟨x62,hx62,h⟩:=Qb h
               refine Qa hC [.br true,.n 9,.o (.row (QP e61)),.n 1,.v .no [] (.agg (Ql e61.Expr)),.o (.c false [.d] (.b x62)),.n 3] rfl ⟨⟨⟨⟨tt_,hc60⟩,(idxM he61)⟩,rfl⟩,(Qkc _ hx62)⟩ ?_
               refine AK.meetX (fun σ=>σ=⟨[(1,.loc 1 0 0),(3,.i .i64 parts33),(7,.i .i64 (w64 ((w64 ((w64 ((w64 (arcs39+(e44.Vars.length:Int)))+(e44.Ins.length:Int)))+(e44.Outs.length:Int)))+(e44.Cancel.length:Int)))),(8,.i .i64 i40),(9,.loc 9 0 0),(11,.b (ok55&&x62)),(12,.i .i64 k56)],[(1,.var (Qd n1)),(9,.var (Qi e44))]⟩) ?_ ?_
               ·refine Qa hC [.n 3] rfl tt_ ?_
                rcases QJ ok55 with hc64 | hc64
                ·refine Qa hC [.say 176 (.b true),.n 4,.say 11 (.b (ok55&&x62)),.keep [1,3,7,8,9,11,12] [1,9]] rfl ⟨⟨tt_,(congrArg V.b hc64)⟩,(congrArg V.b (andT hc64 rfl))⟩ ?_
                 exact AK.met rfl
                ·refine Qa hC [.say 176 (.b false),.n 4,.say 11 (.b (ok55&&x62)),.keep [1,3,7,8,9,11,12] [1,9]] rfl ⟨⟨tt_,(congrArg V.b hc64)⟩,(congrArg V.b (andF hc64 rfl))⟩ ?_
                 exact AK.met rfl
               ·rintro σ rfl
                refine Qa hC [.n 7,.keep [1,3,7,8,9,11,12] [1,9]] rfl tt_ ?_
                cases h
                exact rndN rfl rfl
              ·refine Qa hC [.br false,.n 2,.keep [1,3,7,8,9,11] [1,9]] rfl ⟨tt_,hc60⟩ ?_
               cases h
               exact rndX rfl (an_ rfl rfl)
             ·replace h:Qfp e44 arcs39 i40 ok59=some o:=h
              unfold Qfp at h
              rintro e σ ⟨rfl,rfl⟩
              refine Qa hC [.n 9,.keep [1,3,7,8,9,11,14] [1,9]] rfl tt_ ?_
              obtain⟨ok70,hl76,h⟩:=Qb h
              refine AK.loop (body:=(fun st=>QdG e44 st.1 st.2)) (fun st σ=>σ=⟨[(1,.loc 1 0 0),(3,.i .i64 parts33),(7,.i .i64 (w64 ((w64 ((w64 ((w64 (arcs39+(e44.Vars.length:Int)))+(e44.Ins.length:Int)))+(e44.Outs.length:Int)))+(e44.Cancel.length:Int)))),(8,.i .i64 i40),(9,.loc 9 0 0),(11,.b st.1),(14,.i .i64 st.2)],[(1,.var (Qd n1)),(9,.var (Qi e44))]⟩) (fun q e σ=>e=.exit 12∧σ=⟨[(1,.loc 1 0 0),(3,.i .i64 parts33),(7,.i .i64 (w64 ((w64 ((w64 ((w64 (arcs39+(e44.Vars.length:Int)))+(e44.Ins.length:Int)))+(e44.Outs.length:Int)))+(e44.Cancel.length:Int)))),(8,.i .i64 i40),(11,.b q)],[(1,.var (Qd n1))]⟩) hl76 rfl ?_ ?_
              ·rintro ⟨ok66,k67⟩ o σ rfl h
               replace h:QdG e44 ok66 k67=some o:=h
               unfold QdG at h
               refine Qa hC [.n 6,.o (.ln e44.Outs.length),.n 3] rfl ⟨tt_,Qg⟩ ?_
               rcases bifE h with⟨hc71,h⟩|⟨hc71,h⟩
               ·obtain⟨e72,he72,h⟩:=Qb h
                obtain⟨x73,hx73,h⟩:=Qb h
                refine Qa hC [.br true,.n 9,.o (.row (QP e72)),.n 1,.v .no [] (.agg (Ql e72.Expr)),.o (.c false [.d] (.b x73)),.n 3] rfl ⟨⟨⟨⟨tt_,hc71⟩,(idxM he72)⟩,rfl⟩,(Qkc _ hx73)⟩ ?_
                refine AK.meetX (fun σ=>σ=⟨[(1,.loc 1 0 0),(3,.i .i64 parts33),(7,.i .i64 (w64 ((w64 ((w64 ((w64 (arcs39+(e44.Vars.length:Int)))+(e44.Ins.length:Int)))+(e44.Outs.length:Int)))+(e44.Cancel.length:Int)))),(8,.i .i64 i40),(9,.loc 9 0 0),(11,.b (ok66&&x73)),(14,.i .i64 k67)],[(1,.var (Qd n1)),(9,.var (Qi e44))]⟩) ?_ ?_
                ·refine Qa hC [.n 3] rfl tt_ ?_
                 rcases QJ ok66 with hc75 | hc75
                 ·refine Qa hC [.say 194 (.b true),.n 4,.say 11 (.b (ok66&&x73)),.keep [1,3,7,8,9,11,14] [1,9]] rfl ⟨⟨tt_,(congrArg V.b hc75)⟩,(congrArg V.b (andT hc75 rfl))⟩ ?_
                  exact AK.met rfl
                 ·refine Qa hC [.say 194 (.b false),.n 4,.say 11 (.b (ok66&&x73)),.keep [1,3,7,8,9,11,14] [1,9]] rfl ⟨⟨tt_,(congrArg V.b hc75)⟩,(congrArg V.b (andF hc75 rfl))⟩ ?_
                  exact AK.met rfl
                ·rintro σ rfl
                 refine Qa hC [.n 7,.keep [1,3,7,8,9,11,14] [1,9]] rfl tt_ ?_
                 cases h
                 exact rndN rfl rfl
               ·refine Qa hC [.br false,.n 2,.keep [1,3,7,8,11] [1]] rfl ⟨tt_,hc71⟩ ?_
                cases h
                exact rndX rfl (an_ rfl rfl)
              ·replace h:Qfo arcs39 e44 i40 ok70=some o:=h
               unfold Qfo at h
               rintro e σ ⟨rfl,rfl⟩
               refine Qa hC [.n 8] rfl tt_ ?_
               rcases bifE h with⟨hc77,h⟩|⟨hc77,h⟩
               ·refine Qa hC [.br true,.n 8,.keep [2] []] rfl ⟨tt_,hc77⟩ ?_
                cases h
                exact rndR rfl (an_ rfl rfl)
               ·refine Qa hC [.br false,.n 8,.keep [1,3,7,8] [1]] rfl ⟨tt_,hc77⟩ ?_
                cases h
                exact rndN rfl rfl
        ·refine Qa hC [.br false,.n 2,.keep [3] []] rfl ⟨tt_,hc43⟩ ?_
         cases h
         exact rndX rfl (an_ rfl rfl)
       ·rcases o78 with(_ | _)
        ·replace h:QjP=some r:=h
         unfold QjP at h
         rintro e σ ⟨rfl,rfl⟩
         refine Qa hC [.n 2,.keep [2] []] rfl tt_ ?_
         cases h
         exact AK.done (ex_ [_] (an_ (an_ rfl tt_) (gives tt_)))
        ·replace h:QjQ parts33=some r:=h
         unfold QjQ at h
         rintro e σ ⟨rfl,rfl⟩
         refine Qa hC [.n 10,.keep [2] []] rfl tt_ ?_
         cases h
         exact AK.done (ex_ [_] (an_ (an_ rfl tt_) (gives tt_)))
def Qep (m1:(List (List (Int×Int))))(n3:Int)(i4:Int):Option ((Int×Int)⊕Int):=
 bif ((decide (i4<(m1.length:Int)))&&(decide (i4<100)))then
 (idx m1 i4).bind fun e11=>
 some (.inl ((w64 (n3+(e11.length:Int))),(w64 (i4+1))))
 else
 some (.inr n3)
def Qki (m1:(List (List (Int×Int))))(n7:Int):Option Bool:=
 some ((decide ((m1.length:Int)≤70))&&(decide (n7≤300)))
def QiE (m1:(List (List (Int×Int)))):Option Bool:=
 (QF (fun st=>Qep m1 st.1 st.2) (0,0)).bind (fun q=>Qki m1 q)
theorem QqQ (m1:(List (List (Int×Int)))){r:Bool}(h:QiE m1=some r):Qc Tryz.prog 31 [.sl 1 (m1.map Qf)] [] (Gives (.b r) []):=by
 refine Qc.walk 29 Tryz.func31 rfl Tryz.ntmps31 rfl fun C hC=>?_
 unfold QiE at h
 refine Qa hC [.n 17,.keep [0,3,4] []] rfl tt_ ?_
 obtain⟨n7,hl12,h⟩:=Qb h
 refine AK.loop (body:=(fun st=>Qep m1 st.1 st.2)) (fun st σ=>σ=⟨[(0,.sl 1 (m1.map Qf)),(3,.i .i64 st.1),(4,.i .i64 st.2)],[]⟩) (fun q e σ=>e=.exit 0∧σ=⟨[(0,.sl 1 (m1.map Qf)),(3,.i .i64 q)],[]⟩) hl12 rfl ?_ ?_
 ·rintro ⟨n3,i4⟩ o σ rfl h
  replace h:Qep m1 n3 i4=some o:=h
  unfold Qep at h
  refine Qa hC [.n 2] rfl tt_ ?_
  refine AK.meetX (fun σ=>σ=⟨[(0,.sl 1 (m1.map Qf)),(3,.i .i64 n3),(4,.i .i64 i4),(12,.b ((decide (i4<(m1.length:Int)))&&(decide (i4<100))))],[]⟩) ?_ ?_
  ·refine Qa hC [.n 3,.o (.ln m1.length),.n 2] rfl ⟨tt_,Qg⟩ ?_
   rcases QJ (decide (i4<(m1.length:Int)))with hc9 | hc9
   ·refine Qa hC [.say 9 (.b true),.n 4,.say 12 (.b ((decide (i4<(m1.length:Int)))&&(decide (i4<100)))),.keep [0,3,4,12] []] rfl ⟨⟨tt_,(congrArg V.b hc9)⟩,(congrArg V.b (andT hc9 rfl))⟩ ?_
    exact AK.met rfl
   ·refine Qa hC [.say 9 (.b false),.n 4,.say 12 (.b ((decide (i4<(m1.length:Int)))&&(decide (i4<100)))),.keep [0,3,4,12] []] rfl ⟨⟨tt_,(congrArg V.b hc9)⟩,(congrArg V.b (andF hc9 rfl))⟩ ?_
    exact AK.met rfl
  ·rintro σ rfl
   refine Qa hC [.n 1] rfl tt_ ?_
   rcases bifE h with⟨hc10,h⟩|⟨hc10,h⟩
   ·obtain⟨e11,he11,h⟩:=Qb h
    refine Qa hC [.br true,.n 8,.o (.row (Qf e11)),.n 1,.o (.ln e11.length),.n 10,.keep [0,3,4] []] rfl ⟨⟨⟨tt_,hc10⟩,(idxM he11)⟩,Qg⟩ ?_
    cases h
    exact rndN rfl rfl
   ·refine Qa hC [.br false,.n 2,.keep [0,3] []] rfl ⟨tt_,hc10⟩ ?_
    cases h
    exact rndX rfl (an_ rfl rfl)
 ·replace h:Qki m1 n7=some r:=h
  unfold Qki at h
  rintro e σ ⟨rfl,rfl⟩
  refine Qa hC [.n 3] rfl tt_ ?_
  refine AK.meetX (fun σ=>σ=⟨[(2,.b ((decide ((m1.length:Int)≤70))&&(decide (n7≤300))))],[]⟩) ?_ ?_
  ·refine Qa hC [.n 2,.o (.ln m1.length),.n 2] rfl ⟨tt_,Qg⟩ ?_
   rcases QJ (decide ((m1.length:Int)≤70))with hc14 | hc14
   ·refine Qa hC [.say 25 (.b true),.n 5,.say 2 (.b ((decide ((m1.length:Int)≤70))&&(decide (n7≤300)))),.keep [2] []] rfl ⟨⟨tt_,(congrArg V.b hc14)⟩,(congrArg V.b (andT hc14 rfl))⟩ ?_
    exact AK.met rfl
   ·refine Qa hC [.say 25 (.b false),.n 5,.say 2 (.b ((decide ((m1.length:Int)≤70))&&(decide (n7≤300)))),.keep [2] []] rfl ⟨⟨tt_,(congrArg V.b hc14)⟩,(congrArg V.b (andF hc14 rfl))⟩ ?_
    exact AK.met rfl
  ·rintro σ rfl
   refine Qa hC [.n 2,.keep [2] []] rfl tt_ ?_
   cases h
   exact AK.done (ex_ [_] (an_ (an_ rfl tt_) (gives tt_)))
def QgU (v1:TNet):Option Bool:=
 some ((decide ((v1.Places.length:Int)≤64))&&(decide ((v1.Tasks.length:Int)≤64)))
theorem Qps (v1:TNet){r:Bool}(h:QgU v1=some r):Qc Tryz.prog 58 [.loc 200000 0 0] [(200000,.var (Qd v1))] (Gives (.b r) [(200000,.var (Qd v1))]):=by
 refine Qc.walk 12 Tryz.func58 rfl Tryz.ntmps58 rfl fun C hC=>?_
 unfold QgU at h
 refine Qa hC [.n 6] rfl tt_ ?_
 refine AK.meetX (fun σ=>σ=⟨[(1,.b ((decide ((v1.Places.length:Int)≤64))&&(decide ((v1.Tasks.length:Int)≤64))))],[(200000,.var (Qd v1))]⟩) ?_ ?_
 ·refine Qa hC [.n 3,.o (.ln v1.Places.length),.n 2] rfl ⟨tt_,Qg⟩ ?_
  rcases QJ (decide ((v1.Places.length:Int)≤64))with hc4 | hc4
  ·refine Qa hC [.say 6 (.b true),.n 2,.o (.ln v1.Tasks.length),.n 4,.say 1 (.b ((decide ((v1.Places.length:Int)≤64))&&(decide ((v1.Tasks.length:Int)≤64)))),.keep [1] [200000]] rfl ⟨⟨⟨tt_,(congrArg V.b hc4)⟩,Qg⟩,(congrArg V.b (andT hc4 rfl))⟩ ?_
   exact AK.met rfl
  ·refine Qa hC [.say 6 (.b false),.n 7,.say 1 (.b ((decide ((v1.Places.length:Int)≤64))&&(decide ((v1.Tasks.length:Int)≤64)))),.keep [1] [200000]] rfl ⟨⟨tt_,(congrArg V.b hc4)⟩,(congrArg V.b (andF hc4 rfl))⟩ ?_
   exact AK.met rfl
 ·rintro σ rfl
  refine Qa hC [.n 2,.keep [1] [200000]] rfl tt_ ?_
  cases h
  exact AK.done (ex_ [_] (an_ (an_ rfl tt_) (gives ⟨rfl,tt_⟩)))
def Qac (l1:(List QB))(k2:Int):Option Bool:=
 some ((decide (0≤k2))&&(decide (k2<(l1.length:Int))))
theorem Qbj (l1:(List QB))(k2:Int){r:Bool}(h:Qac l1 k2=some r):Qc Tryz.prog 60 [.sl 3 (l1.map Qt),.i .i64 k2] [] (Gives (.b r) []):=by
 refine Qc.walk 13 Tryz.func60 rfl Tryz.ntmps60 rfl fun C hC=>?_
 unfold Qac at h
 refine Qa hC [.n 6] rfl tt_ ?_
 refine AK.meetX (fun σ=>σ=⟨[(4,.b ((decide (0≤k2))&&(decide (k2<(l1.length:Int)))))],[]⟩) ?_ ?_
 ·refine Qa hC [.n 4] rfl tt_ ?_
  rcases QJ (decide (0≤k2))with hc5 | hc5
  ·refine Qa hC [.say 7 (.b true),.n 2,.o (.ln l1.length),.n 4,.say 4 (.b ((decide (0≤k2))&&(decide (k2<(l1.length:Int))))),.keep [4] []] rfl ⟨⟨⟨tt_,(congrArg V.b hc5)⟩,Qg⟩,(congrArg V.b (andT hc5 rfl))⟩ ?_
   exact AK.met rfl
  ·refine Qa hC [.say 7 (.b false),.n 7,.say 4 (.b ((decide (0≤k2))&&(decide (k2<(l1.length:Int))))),.keep [4] []] rfl ⟨⟨tt_,(congrArg V.b hc5)⟩,(congrArg V.b (andF hc5 rfl))⟩ ?_
   exact AK.met rfl
 ·rintro σ rfl
  refine Qa hC [.n 2,.keep [4] []] rfl tt_ ?_
  cases h
  exact AK.done (ex_ [_] (an_ (an_ rfl tt_) (gives tt_)))
def Qi7 (v1:TNet):Option Bool:=
 (Qac v1.Places v1.From).bind fun x5=>
 bif x5 then
 (Qac v1.Places v1.To).bind fun x7=>
 some x7
 else
 some false
def QeJ (x3:Bool):Option Bool:=
 some x3
def QgV (v1:TNet):Option Bool:=
 (Qi7 v1).bind (fun x3=>QeJ x3)
theorem Qpt (v1:TNet){r:Bool}(h:QgV v1=some r):Qc Tryz.prog 59 [.loc 200000 0 0] [(200000,.var (Qd v1))] (Gives (.b r) [(200000,.var (Qd v1))]):=by
 refine Qc.walk 14 Tryz.func59 rfl Tryz.ntmps59 rfl fun C hC=>?_
 unfold QgV at h
 refine Qa hC [.n 6] rfl tt_ ?_
 obtain⟨x3,hv4,h⟩:=Qb h
 replace h:QeJ x3=some r:=h
 refine AK.meetX (fun σ=>σ=⟨[(1,.b x3)],[(200000,.var (Qd v1))]⟩) ?_ ?_
 ·replace h:=hv4
  unfold Qi7 at h
  obtain⟨x5,hx5,h⟩:=Qb h
  refine Qa hC [.n 5,.o (.c false [.d,.d] (.b x5)),.n 1] rfl ⟨tt_,(Qbj _ _ hx5)⟩ ?_
  rcases bifE h with⟨hc6,h⟩|⟨hc6,h⟩
  ·obtain⟨x7,hx7,h⟩:=Qb h
   refine Qa hC [.say 7 (.b true),.n 4,.o (.c false [.d,.d] (.b x7)),.n 3,.keep [1] [200000]] rfl ⟨⟨tt_,(congrArg V.b hc6)⟩,(Qbj _ _ hx7)⟩ ?_
   cases h
   exact AK.met rfl
  ·refine Qa hC [.say 7 (.b false),.n 8,.keep [1] [200000]] rfl ⟨tt_,(congrArg V.b hc6)⟩ ?_
   cases h
   exact AK.met rfl
 ·rintro σ rfl
  replace h:QeJ x3=some r:=h
  unfold QeJ at h
  refine Qa hC [.n 2,.keep [1] [200000]] rfl tt_ ?_
  cases h
  exact AK.done (ex_ [_] (an_ (an_ rfl tt_) (gives ⟨rfl,tt_⟩)))
def QgW (v1:TNet):Option Bool:=
 some (v1.From != v1.To)
theorem Qpu (v1:TNet){r:Bool}(h:QgW v1=some r):Qc Tryz.prog 61 [.loc 200000 0 0] [(200000,.var (Qd v1))] (Gives (.b r) [(200000,.var (Qd v1))]):=by
 refine Qc.walk 7 Tryz.func61 rfl Tryz.ntmps61 rfl fun C hC=>?_
 unfold QgW at h
 refine Qa hC [.n 16,.keep [1] [200000]] rfl tt_ ?_
 cases h
 exact AK.done (ex_ [_] (an_ (an_ rfl tt_) (gives ⟨rfl,tt_⟩)))
def QgX (v1:TNet)(v2:Int)(v3:Int)(v4:Int):Option Int:=
 (QgU v1).bind fun x7=>
 bif (!x7)then
 some v2
 else
 (QgV v1).bind fun x9=>
 bif (!x9)then
 some v3
 else
 (QgW v1).bind fun x11=>
 bif (!x11)then
 some v4
 else
 some 0
theorem Qpv (v1:TNet)(v2:Int)(v3:Int)(v4:Int){r:Int}(h:QgX v1 v2 v3 v4=some r):Qc Tryz.prog 57 [.own 200000 3] [(200000,.var [.clo (.func 58) [] [.loc 200001 0 0],.i .i64 v2,.clo (.func 59) [] [.loc 200001 0 0],.i .i64 v3,.clo (.func 61) [] [.loc 200001 0 0],.i .i64 v4]),(200001,.var (Qd v1))] (Gives (.i .i64 r) [(200000,.var [.clo (.func 58) [] [.loc 200001 0 0],.i .i64 v2,.clo (.func 59) [] [.loc 200001 0 0],.i .i64 v3,.clo (.func 61) [] [.loc 200001 0 0],.i .i64 v4]),(200001,.var (Qd v1))]):=by
 refine Qc.walk 18 Tryz.func57 rfl Tryz.ntmps57 rfl fun C hC=>?_
 unfold QgX at h
 refine Qa hC [.n 14] rfl tt_ ?_
 refine AK.loopN 4 (AK.rnd ?_)
 obtain⟨x7,hx7,h⟩:=Qb h
 refine Qa hC [.n 2,.v .no [] (.b true),.n 10,.o (.any (.loc 200000 0 0) none),.n 3,.sayO 4 (.var [.clo (.func 58) [] [.loc 200001 0 0],.i .i64 v2]),.n 6,.cm (.clo) [(200000,200001)] [(200001,200000)] [] [.d] [(200000,.var (Qd v1))] (.b x7),.n 3] rfl ⟨⟨⟨⟨tt_,rfl⟩,(fun σ h1 h2 _=>Stp.idxV rfl rfl (bleN hC.n rfl) (h1 _ _ rfl) (h1 _ _ rfl) (Qp.es rfl) (h2 _ _ rfl) (by decide))⟩,rfl⟩,(Qps _ hx7)⟩ ?_
 rcases bifE h with⟨hc8,h⟩|⟨hc8,h⟩
 ·refine Qa hC [.br true,.n 13,.keep [2] [200000,200001]] rfl ⟨tt_,hc8⟩ ?_
  cases h
  exact AK.done (ex_ [_] (an_ (an_ rfl tt_) (gives ⟨rfl,rfl,tt_⟩)))
 ·refine Qa hC [.br false,.n 4,.v .no [] (.i .i64 1),.n 2] rfl ⟨⟨tt_,hc8⟩,rfl⟩ ?_
  refine AK.met (AK.rnd ?_)
  obtain⟨x9,hx9,h⟩:=Qb h
  refine Qa hC [.n 2,.v .no [] (.b true),.n 10,.o (.any (.loc 200000 0 2) none),.n 1,.kill 4,.n 2,.sayO 4 (.var [.clo (.func 59) [] [.loc 200001 0 0],.i .i64 v3]),.n 6,.cm (.clo) [(200000,200001)] [(200001,200000)] [] [.d] [(200000,.var (Qd v1))] (.b x9),.n 3] rfl ⟨⟨⟨⟨tt_,rfl⟩,(fun σ h1 h2 _=>Stp.idxV rfl rfl (bleN hC.n rfl) (h1 _ _ rfl) (h1 _ _ rfl) (Qp.es rfl) (h2 _ _ rfl) (by decide))⟩,rfl⟩,(Qpt _ hx9)⟩ ?_
  rcases bifE h with⟨hc10,h⟩|⟨hc10,h⟩
  ·refine Qa hC [.br true,.n 13,.keep [2] [200000,200001]] rfl ⟨tt_,hc10⟩ ?_
   cases h
   exact AK.done (ex_ [_] (an_ (an_ rfl tt_) (gives ⟨rfl,rfl,tt_⟩)))
  ·refine Qa hC [.br false,.n 4,.v .no [] (.i .i64 2),.n 2] rfl ⟨⟨tt_,hc10⟩,rfl⟩ ?_
   refine AK.met (AK.rnd ?_)
   obtain⟨x11,hx11,h⟩:=Qb h
   refine Qa hC [.n 2,.v .no [] (.b true),.n 10,.o (.any (.loc 200000 0 4) none),.n 1,.kill 4,.n 2,.sayO 4 (.var [.clo (.func 61) [] [.loc 200001 0 0],.i .i64 v4]),.n 6,.cm (.clo) [(200000,200001)] [(200001,200000)] [] [.d] [(200000,.var (Qd v1))] (.b x11),.n 3] rfl ⟨⟨⟨⟨tt_,rfl⟩,(fun σ h1 h2 _=>Stp.idxV rfl rfl (bleN hC.n rfl) (h1 _ _ rfl) (h1 _ _ rfl) (Qp.es rfl) (h2 _ _ rfl) (by decide))⟩,rfl⟩,(Qpu _ hx11)⟩ ?_
   rcases bifE h with⟨hc12,h⟩|⟨hc12,h⟩
   ·refine Qa hC [.br true,.n 13,.keep [2] [200000,200001]] rfl ⟨tt_,hc12⟩ ?_
    cases h
    exact AK.done (ex_ [_] (an_ (an_ rfl tt_) (gives ⟨rfl,rfl,tt_⟩)))
   ·refine Qa hC [.br false,.n 4,.v .no [] (.i .i64 3),.n 2] rfl ⟨⟨tt_,hc12⟩,rfl⟩ ?_
    refine AK.met (AK.rnd ?_)
    refine Qa hC [.n 2,.v .no [] (.b false),.n 15,.keep [2] [200000,200001]] rfl ⟨tt_,rfl⟩ ?_
    cases h
    exact AK.done (ex_ [_] (an_ (an_ rfl tt_) (gives ⟨rfl,rfl,tt_⟩)))
def Qgg (l1:(List Qz)):Option Bool:=
 (Qeg l1).bind fun x3=>
 some x3.2
theorem QoP (l1:(List Qz)){r:Bool}(h:Qgg l1=some r):Qc Tryz.prog 107 [.sl 7 (l1.map Qv)] [] (Gives (.b r) []):=by
 refine Qc.walk 11 Tryz.func107 rfl Tryz.ntmps107 rfl fun C hC=>?_
 unfold Qgg at h
 obtain⟨x3,hx3,h⟩:=Qb h
 refine Qa hC [.n 8,.o (.c false [.d] (.tup [.sl 1 (x3.1.map Qe),.b x3.2])),.n 14,.keep [2] []] rfl ⟨tt_,(QkR _ hx3)⟩ ?_
 cases h
 exact AK.done (ex_ [_] (an_ (an_ rfl tt_) (gives tt_)))
def QcZ (v1:TNet)(v2:Int):Option Bool:=
 (chk (decide (0≤(w64 (v2+1)))&&decide (0≤(w64 (v2+1)).toNat)&&decide ((w64 (v2+1)).toNat≤v1.Colours.length))).bind fun _=>
 (Qgg ((v1.Colours.drop 0).take ((w64 (v2+1)).toNat-0))).bind fun x5=>
 some x5
theorem Qmi (v1:TNet)(v2:Int){r:Bool}(h:QcZ v1 v2=some r):Qc Tryz.prog 106 [.loc 200000 0 0,.loc 200001 0 0] [(200000,.var (Qd v1)),(200001,.var (Qe v2))] (Gives (.b r) [(200000,.var (Qd v1)),(200001,.var (Qe v2))]):=by
 refine Qc.walk 9 Tryz.func106 rfl Tryz.ntmps106 rfl fun C hC=>?_
 unfold QcZ at h
 obtain⟨_,hk4,h⟩:=Qb h
 replace hk4:=chkE hk4
 obtain⟨x5,hx5,h⟩:=Qb h
 refine Qa hC [.n 11,.o (.any (.sl 7 (((v1.Colours.drop 0).take ((w64 (v2+1)).toNat-0)).map Qv)) none),.o (.c false [.d] (.b x5)),.n 4,.keep [2] [200000,200001]] rfl ⟨⟨tt_,(fun σ h1 h2 _=>Stp.sliceD rfl rfl (bleN hC.n rfl) (h1 _ _ rfl) (Qp.es rfl) Bnd.no (Bnd.val (h1 _ _ rfl) (of_decide_eq_true (QnU hk4)) rfl) (of_decide_eq_true (QnV hk4)) (Nat.le_trans (of_decide_eq_true (QnW hk4)) (Nat.le_of_eq Qg.symm)) Qp3)⟩,(QoP _ hx5)⟩ ?_
 cases h
 exact AK.done (ex_ [_] (an_ (an_ rfl tt_) (gives ⟨rfl,rfl,tt_⟩)))
def Qi8 (x:ByteArray):Option (List ByteArray):=(chk (QrY x)).bind fun _=>some (Qfe x)
theorem Qnq (x:ByteArray){r:List ByteArray}(h:Qi8 x=some r):Qc Tryz.prog 238 [.s x] [] (Gives (.own 30000 r.length) [(30000,.arr 1 (r.map Qdg))]):=by
 unfold Qi8 at h
 obtain⟨_,h1,h⟩:=Qb h
 cases h
 exact Qrg Qtx (by kernel_rfl) (by kernel_rfl) x (chkE h1)
def Qfh  : Option (List ByteArray):=
 (Qi8 (⟨#[99,111,108,111,117,114,32,112,108,97,99,101,32,116,97,115,107,32,118,97,114,32,119,104,101,110,32,106,111,105,110,32,115,112,108,105,116,32,105,110,32,111,117,116,32,99,97,110,99,101,108,32,97,102,116,101,114,32,109,97,110,121,32,102,114,111,109,32,116,111,32,105,110,116,32,101,110,117,109,32,112,97,105,114,32,97,110,100,32,120,111,114,32,111,114,32,105,102]⟩:ByteArray)).bind fun x2=>
 some x2
theorem Qpw  {r:(List ByteArray)}(h:Qfh  = some r):Qc Tryz.prog 206 [] [] (Gives (.own 30000 r.length) [(30000,.arr 1 (r.map Qdg))]):=by
 refine Qc.walk 2 Tryz.func206 rfl Tryz.ntmps206 rfl fun C hC=>?_
 unfold Qfh at h
 obtain⟨x2,hx2,h⟩:=Qb h
 refine Qa hC [.n 7,.o (.co false [.d] 1 (x2.map Qdg) x2.length),.n 4,.keep [0] [1],.ren 1 30000,.keep [0] [30000]] rfl ⟨tt_,⟨(Qnq _ hx2),Qg,.inl rfl⟩⟩ ?_
 cases h
 exact AK.done (ex_ [_] (an_ (an_ rfl tt_) (gives ⟨rfl,tt_⟩)))
def Qak (s1:(List ByteArray))(v2:ByteArray)(x5:Int):Option (Int⊕(Int⊕Unit)):=
 bif (decide (x5<(s1.length:Int)))then
 (idx s1 x5).bind fun e9=>
 bif (QgB v2 e9)then
 some (.inr (.inl x5))
 else
 some (.inl (w64 (x5+1)))
 else
 some (.inr (.inr ()))
def QaG (x7:Int):Option Int:=
 some x7
def QaH : Option Int:=
 some (-1)
def Qa4 (s1:(List ByteArray))(v2:ByteArray):Option Int:=
 (QF (fun st=>Qak s1 v2 st) 0).bind (Sum.elim (fun q=>QaG q) (fun q=>QaH))
theorem Qji (s1:(List ByteArray))(v2:ByteArray){r:Int}(h:Qa4 s1 v2=some r):Qc Tryz.prog 237 [.sl 1 (s1.map Qdg),.s v2] [] (Gives (.i .i64 r) []):=by
 refine Qc.walk 19 Tryz.func237 rfl Tryz.ntmps237 rfl fun C hC=>?_
 unfold Qa4 at h
 refine Qa hC [.n 9,.o (.ln s1.length),.n 4,.keep [0,1,7,8] []] rfl ⟨tt_,Qg⟩ ?_
 obtain⟨o11,hl11,h⟩:=Qb h
 refine AK.loop (body:=(fun st=>Qak s1 v2 st)) (fun st σ=>σ=⟨[(0,.sl 1 (s1.map Qdg)),(1,.s v2),(7,.i .i64 (s1.length:Int)),(8,.i .i64 st)],[]⟩) (Sum.elim (fun q e σ=>e=.ret∧σ=⟨[(4,.i .i64 q)],[]⟩) (fun q e σ=>e=.exit 0∧σ=⟨[],[]⟩)) hl11 rfl ?_ ?_
 ·rintro x5 o σ rfl h
  replace h:Qak s1 v2 x5=some o:=h
  unfold Qak at h
  refine Qa hC [.n 6] rfl tt_ ?_
  rcases bifE h with⟨hc8,h⟩|⟨hc8,h⟩
  ·obtain⟨e9,he9,h⟩:=Qb h
   refine Qa hC [.br true,.n 15,.o (.row (Qdg e9)),.n 4] rfl ⟨⟨tt_,hc8⟩,(idxM he9)⟩ ?_
   rcases bifE h with⟨hc10,h⟩|⟨hc10,h⟩
   ·refine Qa hC [.br true,.n 9,.keep [4] []] rfl ⟨tt_,hc10⟩ ?_
    cases h
    exact rndR rfl (an_ rfl rfl)
   ·refine Qa hC [.br false,.n 7,.keep [0,1,7,8] []] rfl ⟨tt_,hc10⟩ ?_
    cases h
    exact rndN rfl rfl
  ·refine Qa hC [.br false,.n 2,.keep [] []] rfl ⟨tt_,hc8⟩ ?_
   cases h
   exact rndX rfl (an_ rfl rfl)
 ·rcases o11 with(x7 | _)
  ·replace h:QaG x7=some r:=h
   unfold QaG at h
   rintro e σ ⟨rfl,rfl⟩
   refine Qa hC [.n 2,.keep [4] []] rfl tt_ ?_
   cases h
   exact AK.done (ex_ [_] (an_ (an_ rfl tt_) (gives tt_)))
  ·replace h:QaH=some r:=h
   unfold QaH at h
   rintro e σ ⟨rfl,rfl⟩
   refine Qa hC [.n 8,.keep [4] []] rfl tt_ ?_
   cases h
   exact AK.done (ex_ [_] (an_ (an_ rfl tt_) (gives tt_)))
def QaI (s1:(List ByteArray))(v2:ByteArray):Option Bool:=
 (Qa4 s1 v2).bind fun x4=>
 some (decide (0≤x4))
theorem Qin (s1:(List ByteArray))(v2:ByteArray){r:Bool}(h:QaI s1 v2=some r):Qc Tryz.prog 205 [.sl 1 (s1.map Qdg),.s v2] [] (Gives (.b r) []):=by
 refine Qc.walk 9 Tryz.func205 rfl Tryz.ntmps205 rfl fun C hC=>?_
 unfold QaI at h
 obtain⟨x4,hx4,h⟩:=Qb h
 refine Qa hC [.n 9,.o (.c false [.d,.d] (.i .i64 x4)),.n 5,.keep [4] []] rfl ⟨tt_,(Qji _ _ hx4)⟩ ?_
 cases h
 exact AK.done (ex_ [_] (an_ (an_ rfl tt_) (gives tt_)))
def QhU (s1:ByteArray):Option Bool:=
 (Qfh).bind fun x3=>
 (QaI x3 s1).bind fun x4=>
 some x4
theorem Qqf (s1:ByteArray){r:Bool}(h:QhU s1=some r):Qc Tryz.prog 165 [.s s1] [] (Gives (.b r) []):=by
 refine Qc.walk 6 Tryz.func165 rfl Tryz.ntmps165 rfl fun C hC=>?_
 unfold QhU at h
 obtain⟨x3,hx3,h⟩:=Qb h
 obtain⟨x4,hx4,h⟩:=Qb h
 refine Qa hC [.n 7,.o (.co false [] 1 (x3.map Qdg) x3.length),.n 1,.o (.c true [.o (x3.map Qdg),.d] (.b x4)),.n 4,.keep [2] []] rfl ⟨⟨tt_,⟨(Qpw  hx3),Qg,.inl rfl⟩⟩,⟨(QoD rfl),(Qin _ _ hx4)⟩⟩ ?_
 cases h
 exact AK.done (ex_ [_] (an_ (an_ rfl tt_) (gives tt_)))
def QjR (s1:ByteArray):Option Bool:=
 (QdN s1).bind fun x5=>
 bif x5 then
 (QhU s1).bind fun x7=>
 some (!x7)
 else
 some false
def Qft (x3:Bool):Option Bool:=
 some x3
def QcN (s1:ByteArray):Option Bool:=
 (QjR s1).bind (fun x3=>Qft x3)
theorem Qfu (s1:ByteArray){r:Bool}(h:QcN s1=some r):Qc Tryz.prog 103 [.s s1] [] (Gives (.b r) []):=by
 refine Qc.walk 10 Tryz.func103 rfl Tryz.ntmps103 rfl fun C hC=>?_
 unfold QcN at h
 refine Qa hC [.n 6] rfl tt_ ?_
 obtain⟨x3,hv4,h⟩:=Qb h
 replace h:Qft x3=some r:=h
 refine AK.meetX (fun σ=>σ=⟨[(2,.b x3)],[]⟩) ?_ ?_
 ·replace h:=hv4
  unfold QjR at h
  obtain⟨x5,hx5,h⟩:=Qb h
  refine Qa hC [.n 2,.o (.c false [.d] (.b x5)),.n 1] rfl ⟨tt_,(QiY _ hx5)⟩ ?_
  rcases bifE h with⟨hc6,h⟩|⟨hc6,h⟩
  ·obtain⟨x7,hx7,h⟩:=Qb h
   refine Qa hC [.say 5 (.b true),.n 1,.o (.c false [.d] (.b x7)),.n 4,.keep [2] []] rfl ⟨⟨tt_,(congrArg V.b hc6)⟩,(Qqf _ hx7)⟩ ?_
   cases h
   exact AK.met rfl
  ·refine Qa hC [.say 5 (.b false),.n 6,.keep [2] []] rfl ⟨tt_,(congrArg V.b hc6)⟩ ?_
   cases h
   exact AK.met rfl
 ·rintro σ rfl
  replace h:Qft x3=some r:=h
  unfold Qft at h
  refine Qa hC [.n 2,.keep [2] []] rfl tt_ ?_
  cases h
  exact AK.done (ex_ [_] (an_ (an_ rfl tt_) (gives tt_)))
def Qcs (s1:ByteArray):Option Bool:=
 (QcN s1).bind fun x3=>
 some (!x3)
theorem Qly (s1:ByteArray){r:Bool}(h:Qcs s1=some r):Qc Tryz.prog 105 [.s s1] [] (Gives (.b r) []):=by
 refine Qc.walk 6 Tryz.func105 rfl Tryz.ntmps105 rfl fun C hC=>?_
 unfold Qcs at h
 obtain⟨x3,hx3,h⟩:=Qb h
 refine Qa hC [.n 8,.o (.c false [.d] (.b x3)),.n 5,.keep [2] []] rfl ⟨tt_,(Qfu _ hx3)⟩ ?_
 cases h
 exact AK.done (ex_ [_] (an_ (an_ rfl tt_) (gives tt_)))
def Q2 (s1:(List ByteArray))(x4:Int):Option (Int⊕(Int⊕Unit)):=
 bif (decide (x4<(s1.length:Int)))then
 (idx s1 x4).bind fun e8=>
 (Qcs e8).bind fun x9=>
 bif x9 then
 some (.inr (.inl x4))
 else
 some (.inl (w64 (x4+1)))
 else
 some (.inr (.inr ()))
def Qaq (x6:Int):Option Int:=
 some x6
def Qar : Option Int:=
 some (-1)
def QaB (s1:(List ByteArray)):Option Int:=
 (QF (fun st=>Q2 s1 st) 0).bind (Sum.elim (fun q=>Qaq q) (fun q=>Qar))
theorem Qia (s1:(List ByteArray)){r:Int}(h:QaB s1=some r):Qc Tryz.prog 166 [.sl 1 (s1.map Qdg),.clo (.func 105) [] []] [] (Gives (.i .i64 r) []):=by
 refine Qc.walk 19 Tryz.func166 rfl Tryz.ntmps166 rfl fun C hC=>?_
 unfold QaB at h
 refine Qa hC [.n 9,.o (.ln s1.length),.n 4,.keep [0,1,7,8] []] rfl ⟨tt_,Qg⟩ ?_
 obtain⟨o11,hl11,h⟩:=Qb h
 refine AK.loop (body:=(fun st=>Q2 s1 st)) (fun st σ=>σ=⟨[(0,.sl 1 (s1.map Qdg)),(1,.clo (.func 105) [] []),(7,.i .i64 (s1.length:Int)),(8,.i .i64 st)],[]⟩) (Sum.elim (fun q e σ=>e=.ret∧σ=⟨[(4,.i .i64 q)],[]⟩) (fun q e σ=>e=.exit 0∧σ=⟨[],[]⟩)) hl11 rfl ?_ ?_
 ·rintro x4 o σ rfl h
  replace h:Q2 s1 x4=some o:=h
  unfold Q2 at h
  refine Qa hC [.n 6] rfl tt_ ?_
  rcases bifE h with⟨hc7,h⟩|⟨hc7,h⟩
  ·obtain⟨e8,he8,h⟩:=Qb h
   obtain⟨x9,hx9,h⟩:=Qb h
   refine Qa hC [.br true,.n 15,.o (.row (Qdg e8)),.n 1,.o (.c false [.d] (.b x9)),.n 2] rfl ⟨⟨⟨tt_,hc7⟩,(idxM he8)⟩,(Qly _ hx9)⟩ ?_
   rcases bifE h with⟨hc10,h⟩|⟨hc10,h⟩
   ·refine Qa hC [.br true,.n 9,.keep [4] []] rfl ⟨tt_,hc10⟩ ?_
    cases h
    exact rndR rfl (an_ rfl rfl)
   ·refine Qa hC [.br false,.n 7,.keep [0,1,7,8] []] rfl ⟨tt_,hc10⟩ ?_
    cases h
    exact rndN rfl rfl
  ·refine Qa hC [.br false,.n 2,.keep [] []] rfl ⟨tt_,hc7⟩ ?_
   cases h
   exact rndX rfl (an_ rfl rfl)
 ·rcases o11 with(x6 | _)
  ·replace h:Qaq x6=some r:=h
   unfold Qaq at h
   rintro e σ ⟨rfl,rfl⟩
   refine Qa hC [.n 2,.keep [4] []] rfl tt_ ?_
   cases h
   exact AK.done (ex_ [_] (an_ (an_ rfl tt_) (gives tt_)))
  ·replace h:Qar=some r:=h
   unfold Qar at h
   rintro e σ ⟨rfl,rfl⟩
   refine Qa hC [.n 8,.keep [4] []] rfl tt_ ?_
   cases h
   exact AK.done (ex_ [_] (an_ (an_ rfl tt_) (gives tt_)))
def Qas (s1:(List ByteArray)):Option Bool:=
 (QaB s1).bind fun x3=>
 some (decide (0≤x3))
theorem Qhk (s1:(List ByteArray)){r:Bool}(h:Qas s1=some r):Qc Tryz.prog 104 [.sl 1 (s1.map Qdg),.clo (.func 105) [] []] [] (Gives (.b r) []):=by
 refine Qc.walk 9 Tryz.func104 rfl Tryz.ntmps104 rfl fun C hC=>?_
 unfold Qas at h
 obtain⟨x3,hx3,h⟩:=Qb h
 refine Qa hC [.n 9,.cm (.fn) [] [] [] [.d,.d] [] (.i .i64 x3),.n 5,.keep [4] []] rfl ⟨tt_,(Qia _ hx3)⟩ ?_
 cases h
 exact AK.done (ex_ [_] (an_ (an_ rfl tt_) (gives tt_)))
def QfP (v1:Qz):Option Bool:=
 (QcN v1.Name).bind fun x5=>
 bif x5 then
 bif (v1.Kind != 2)then
 some true
 else
 (Qas v1.Names).bind fun x8=>
 some (!x8)
 else
 some false
def Qcb (x3:Bool):Option Bool:=
 some x3
def Qc0 (v1:Qz):Option Bool:=
 (QfP v1).bind (fun x3=>Qcb x3)
theorem Qmj (v1:Qz){r:Bool}(h:Qc0 v1=some r):Qc Tryz.prog 102 [.loc 200000 0 0] [(200000,.var (Qv v1))] (Gives (.b r) [(200000,.var (Qv v1))]):=by
 refine Qc.walk 16 Tryz.func102 rfl Tryz.ntmps102 rfl fun C hC=>?_
 unfold Qc0 at h
 refine Qa hC [.n 6] rfl tt_ ?_
 obtain⟨x3,hv4,h⟩:=Qb h
 replace h:Qcb x3=some r:=h
 refine AK.meetX (fun σ=>σ=⟨[(1,.b x3)],[(200000,.var (Qv v1))]⟩) ?_ ?_
 ·replace h:=hv4
  unfold QfP at h
  obtain⟨x5,hx5,h⟩:=Qb h
  refine Qa hC [.n 3,.o (.c false [.d] (.b x5)),.n 1] rfl ⟨tt_,(Qfu _ hx5)⟩ ?_
  rcases bifE h with⟨hc6,h⟩|⟨hc6,h⟩
  ·refine Qa hC [.say 5 (.b true),.n 4] rfl ⟨tt_,(congrArg V.b hc6)⟩ ?_
   rcases bifE h with⟨hc7,h⟩|⟨hc7,h⟩
   ·refine Qa hC [.say 9 (.b true),.n 8,.keep [1] [200000]] rfl ⟨tt_,(congrArg V.b hc7)⟩ ?_
    cases h
    exact AK.met rfl
   ·obtain⟨x8,hx8,h⟩:=Qb h
    refine Qa hC [.say 9 (.b false),.n 2,.cm (.fn) [] [] [] [.d,.d] [] (.b x8),.n 5,.keep [1] [200000]] rfl ⟨⟨tt_,(congrArg V.b hc7)⟩,(Qhk _ hx8)⟩ ?_
    cases h
    exact AK.met rfl
  ·refine Qa hC [.say 5 (.b false),.n 12,.keep [1] [200000]] rfl ⟨tt_,(congrArg V.b hc6)⟩ ?_
   cases h
   exact AK.met rfl
 ·rintro σ rfl
  replace h:Qcb x3=some r:=h
  unfold Qcb at h
  refine Qa hC [.n 2,.keep [1] [200000]] rfl tt_ ?_
  cases h
  exact AK.done (ex_ [_] (an_ (an_ rfl tt_) (gives ⟨rfl,tt_⟩)))
def QeK (v1:TNet)(v2:Int)(v3:Int)(v4:Qz)(v5:Int):Option Int:=
 (QcZ v1 v2).bind fun x8=>
 bif (!x8)then
 some v3
 else
 (Qc0 v4).bind fun x10=>
 bif (!x10)then
 some v5
 else
 some 0
theorem Qnr (v1:TNet)(v2:Int)(v3:Int)(v4:Qz)(v5:Int){r:Int}(h:QeK v1 v2 v3 v4 v5=some r):Qc Tryz.prog 57 [.own 200000 2] [(200000,.var [.clo (.func 106) [] [.loc 200001 0 0,.loc 200002 0 0],.i .i64 v3,.clo (.func 102) [] [.loc 200003 0 0],.i .i64 v5]),(200001,.var (Qd v1)),(200002,.var (Qe v2)),(200003,.var (Qv v4))] (Gives (.i .i64 r) [(200000,.var [.clo (.func 106) [] [.loc 200001 0 0,.loc 200002 0 0],.i .i64 v3,.clo (.func 102) [] [.loc 200003 0 0],.i .i64 v5]),(200001,.var (Qd v1)),(200002,.var (Qe v2)),(200003,.var (Qv v4))]):=by
 refine Qc.walk 18 Tryz.func57 rfl Tryz.ntmps57 rfl fun C hC=>?_
 unfold QeK at h
 refine Qa hC [.n 14] rfl tt_ ?_
 refine AK.loopN 3 (AK.rnd ?_)
 obtain⟨x8,hx8,h⟩:=Qb h
 refine Qa hC [.n 2,.v .no [] (.b true),.n 10,.o (.any (.loc 200000 0 0) none),.n 3,.sayO 4 (.var [.clo (.func 106) [] [.loc 200001 0 0,.loc 200002 0 0],.i .i64 v3]),.n 6,.cm (.clo) [(200000,200001),(200001,200002)] [(200001,200000),(200002,200001)] [] [.d,.d] [(200000,.var (Qd v1)),(200001,.var (Qe v2))] (.b x8),.n 3] rfl ⟨⟨⟨⟨tt_,rfl⟩,(fun σ h1 h2 _=>Stp.idxV rfl rfl (bleN hC.n rfl) (h1 _ _ rfl) (h1 _ _ rfl) (Qp.es rfl) (h2 _ _ rfl) (by decide))⟩,rfl⟩,(Qmi _ _ hx8)⟩ ?_
 rcases bifE h with⟨hc9,h⟩|⟨hc9,h⟩
 ·refine Qa hC [.br true,.n 13,.keep [2] [200000,200001,200002,200003]] rfl ⟨tt_,hc9⟩ ?_
  cases h
  exact AK.done (ex_ [_] (an_ (an_ rfl tt_) (gives ⟨rfl,rfl,rfl,rfl,tt_⟩)))
 ·refine Qa hC [.br false,.n 4,.v .no [] (.i .i64 1),.n 2] rfl ⟨⟨tt_,hc9⟩,rfl⟩ ?_
  refine AK.met (AK.rnd ?_)
  obtain⟨x10,hx10,h⟩:=Qb h
  refine Qa hC [.n 2,.v .no [] (.b true),.n 10,.o (.any (.loc 200000 0 2) none),.n 1,.kill 4,.n 2,.sayO 4 (.var [.clo (.func 102) [] [.loc 200003 0 0],.i .i64 v5]),.n 6,.cm (.clo) [(200000,200003)] [(200003,200000)] [] [.d] [(200000,.var (Qv v4))] (.b x10),.n 3] rfl ⟨⟨⟨⟨tt_,rfl⟩,(fun σ h1 h2 _=>Stp.idxV rfl rfl (bleN hC.n rfl) (h1 _ _ rfl) (h1 _ _ rfl) (Qp.es rfl) (h2 _ _ rfl) (by decide))⟩,rfl⟩,(Qmj _ hx10)⟩ ?_
  rcases bifE h with⟨hc11,h⟩|⟨hc11,h⟩
  ·refine Qa hC [.br true,.n 13,.keep [2] [200000,200001,200002,200003]] rfl ⟨tt_,hc11⟩ ?_
   cases h
   exact AK.done (ex_ [_] (an_ (an_ rfl tt_) (gives ⟨rfl,rfl,rfl,rfl,tt_⟩)))
  ·refine Qa hC [.br false,.n 4,.v .no [] (.i .i64 2),.n 2] rfl ⟨⟨tt_,hc11⟩,rfl⟩ ?_
   refine AK.met (AK.rnd ?_)
   refine Qa hC [.n 2,.v .no [] (.b false),.n 15,.keep [2] [200000,200001,200002,200003]] rfl ⟨tt_,rfl⟩ ?_
   cases h
   exact AK.done (ex_ [_] (an_ (an_ rfl tt_) (gives ⟨rfl,rfl,rfl,rfl,tt_⟩)))
def QdZ (k1:Int)(c2:Qz)(v3:TNet):Option Int:=
 (QeK v3 k1 8 c2 8).bind fun x5=>
 some x5
theorem Qnb (k1:Int)(c2:Qz)(v3:TNet){r:Int}(h:QdZ k1 c2 v3=some r):Qc Tryz.prog 101 [.i .i64 k1,.agg (Qv c2),.loc 200000 0 0] [(200000,.var (Qd v3))] (Gives (.i .i64 r) [(200000,.var (Qd v3))]):=by
 refine Qc.walk 16 Tryz.func101 rfl Tryz.ntmps101 rfl fun C hC=>?_
 unfold QdZ at h
 obtain⟨x5,hx5,h⟩:=Qb h
 refine Qa hC [.n 22,.v .no [] (.agg [.clo (.func 106) [] [.loc 200000 0 0,.loc 3 0 0],.i .i64 8]),.n 1,.v .no [] (.agg [.clo (.func 102) [] [.loc 4 0 0],.i .i64 8]),.o (.any (.own 14 2) (some (.var [.clo (.func 106) [] [.loc 200000 0 0,.loc 3 0 0],.i .i64 8,.clo (.func 102) [] [.loc 4 0 0],.i .i64 8]))),.cm (.fn) [(200000,14),(200001,200000),(200002,3),(200003,4)] [(14,200000),(200000,200001),(3,200002),(4,200003)] [] [.d] [(200000,.var [.clo (.func 106) [] [.loc 200001 0 0,.loc 200002 0 0],.i .i64 8,.clo (.func 102) [] [.loc 200003 0 0],.i .i64 8]),(200001,.var (Qd v3)),(200002,.var (Qe k1)),(200003,.var (Qv c2))] (.i .i64 x5),.n 4,.keep [5] [200000]] rfl ⟨⟨⟨⟨tt_,rfl⟩,rfl⟩,(fun σ h1 h2 hf=>Stp.buildAny rfl rfl (bleN hC.n rfl) (Qp.es rfl) Qkt rfl (by decide) (by decide) (Qeu h1 rfl) rfl rfl (hf rfl))⟩,(Qnr _ _ _ _ _ hx5)⟩ ?_
 cases h
 exact AK.done (ex_ [_] (an_ (an_ rfl tt_) (gives ⟨rfl,tt_⟩)))
def QaJ (l1:(List Qz))(v2:TNet)(x7:Int):Option (Int⊕((Int×Int)⊕Unit)):=
 bif (decide (x7<(l1.length:Int)))then
 (idx l1 x7).bind fun e12=>
 (QdZ x7 e12 v2).bind fun x13=>
 bif (x13 != 0)then
 some (.inr (.inl (x7,x13)))
 else
 some (.inl (w64 (x7+1)))
 else
 some (.inr (.inr ()))
def Qbk (x9:Int)(x10:Int):Option (Int×Int):=
 some (x9,x10)
def Qbl : Option (Int×Int):=
 some (0,0)
def QbP (l1:(List Qz))(v2:TNet):Option (Int×Int):=
 (QF (fun st=>QaJ l1 v2 st) 0).bind (Sum.elim (fun q=>Qbk q.1 q.2) (fun q=>Qbl))
theorem QkQ (l1:(List Qz))(v2:TNet){r:(Int×Int)}(h:QbP l1 v2=some r):Qc Tryz.prog 100 [.sl 7 (l1.map Qv),.clo (.func 101) [] [.loc 200000 0 0]] [(200000,.var (Qd v2))] (Gives (.tup [.i .i64 r.1,.i .i64 r.2]) [(200000,.var (Qd v2))]):=by
 refine Qc.walk 25 Tryz.func100 rfl Tryz.ntmps100 rfl fun C hC=>?_
 unfold QbP at h
 refine Qa hC [.n 10,.o (.ln l1.length),.n 4,.keep [1,9,10,11] [200000]] rfl ⟨tt_,Qg⟩ ?_
 obtain⟨o15,hl15,h⟩:=Qb h
 refine AK.loop (body:=(fun st=>QaJ l1 v2 st)) (fun st σ=>σ=⟨[(1,.clo (.func 101) [] [.loc 200000 0 0]),(9,.sl 7 (l1.map Qv)),(10,.i .i64 (l1.length:Int)),(11,.i .i64 st)],[(200000,.var (Qd v2))]⟩) (Sum.elim (fun q e σ=>e=.ret∧σ=⟨[(4,.i .i64 q.1),(5,.i .i64 q.2)],[(200000,.var (Qd v2))]⟩) (fun q e σ=>e=.exit 0∧σ=⟨[],[(200000,.var (Qd v2))]⟩)) hl15 rfl ?_ ?_
 ·rintro x7 o σ rfl h
  replace h:QaJ l1 v2 x7=some o:=h
  unfold QaJ at h
  refine Qa hC [.n 6] rfl tt_ ?_
  rcases bifE h with⟨hc11,h⟩|⟨hc11,h⟩
  ·obtain⟨e12,he12,h⟩:=Qb h
   obtain⟨x13,hx13,h⟩:=Qb h
   refine Qa hC [.br true,.n 7,.o (.row (Qv e12)),.v .no [] (.agg (Qv e12)),.n 3,.sayO 7 (.var (Qv e12)),.n 6,.v .no [] (.agg (Qv e12)),.cm (.clo) [(200000,200000)] [(200000,200000)] [] [.d,.d,.d] [(200000,.var (Qd v2))] (.i .i64 x13),.n 9] rfl ⟨⟨⟨⟨⟨⟨tt_,hc11⟩,(idxM he12)⟩,rfl⟩,rfl⟩,rfl⟩,(Qnb _ _ _ hx13)⟩ ?_
   rcases bifE h with⟨hc14,h⟩|⟨hc14,h⟩
   ·refine Qa hC [.br true,.n 11,.keep [4,5] [200000]] rfl ⟨tt_,hc14⟩ ?_
    cases h
    exact rndR rfl (an_ rfl rfl)
   ·refine Qa hC [.br false,.n 7,.keep [1,9,10,11] [200000]] rfl ⟨tt_,hc14⟩ ?_
    cases h
    exact rndN rfl rfl
  ·refine Qa hC [.br false,.n 2,.keep [] [200000]] rfl ⟨tt_,hc11⟩ ?_
   cases h
   exact rndX rfl (an_ rfl rfl)
 ·rcases o15 with(⟨x9,x10⟩|_)
  ·replace h:Qbk x9 x10=some r:=h
   unfold Qbk at h
   rintro e σ ⟨rfl,rfl⟩
   refine Qa hC [.n 2,.keep [4,5] [200000]] rfl tt_ ?_
   cases h
   exact AK.done (ex_ [_,_] (an_ (an_ rfl (an_ rfl tt_)) (gives ⟨rfl,tt_⟩)))
  ·replace h:Qbl=some r:=h
   unfold Qbl at h
   rintro e σ ⟨rfl,rfl⟩
   refine Qa hC [.n 9,.keep [4,5] [200000]] rfl tt_ ?_
   cases h
   exact AK.done (ex_ [_,_] (an_ (an_ rfl (an_ rfl tt_)) (gives ⟨rfl,tt_⟩)))
def QdI (n1:TNet):Option (Int×Int):=
 (QbP n1.Colours n1).bind fun x4=>
 some (x4.1,x4.2)
theorem Qkw (n1:TNet){r:(Int×Int)}(h:QdI n1=some r):Qc Tryz.prog 62 [.agg (Qd n1)] [] (Gives (.tup [.i .i64 r.1,.i .i64 r.2]) []):=by
 refine Qc.walk 10 Tryz.func62 rfl Tryz.ntmps62 rfl fun C hC=>?_
 unfold QdI at h
 obtain⟨x4,hx4,h⟩:=Qb h
 refine Qa hC [.n 12,.cm (.fn) [(200000,1)] [(1,200000)] [] [.d,.d] [(200000,.var (Qd n1))] (.tup [.i .i64 x4.1,.i .i64 x4.2]),.n 7,.keep [2,3] []] rfl ⟨tt_,(QkQ _ _ hx4)⟩ ?_
 cases h
 exact AK.done (ex_ [_,_] (an_ (an_ rfl (an_ rfl tt_)) (gives tt_)))
def Qfv (v1:QB):Option Bool:=
 (QcN v1.Name).bind fun x3=>
 some x3
theorem Qn6 (v1:QB){r:Bool}(h:Qfv v1=some r):Qc Tryz.prog 109 [.loc 200000 0 0] [(200000,.var (Qt v1))] (Gives (.b r) [(200000,.var (Qt v1))]):=by
 refine Qc.walk 5 Tryz.func109 rfl Tryz.ntmps109 rfl fun C hC=>?_
 unfold Qfv at h
 obtain⟨x3,hx3,h⟩:=Qb h
 refine Qa hC [.n 9,.o (.c false [.d] (.b x3)),.n 4,.keep [1] [200000]] rfl ⟨tt_,(Qfu _ hx3)⟩ ?_
 cases h
 exact AK.done (ex_ [_] (an_ (an_ rfl tt_) (gives ⟨rfl,tt_⟩)))
def Qfw (p1:QB)(v2:QB):Option Bool:=
 some (QgB p1.Name v2.Name)
theorem Qn7 (p1:QB)(v2:QB){r:Bool}(h:Qfw p1 v2=some r):Qc Tryz.prog 108 [.agg (Qt p1),.loc 200000 0 0] [(200000,.var (Qt v2))] (Gives (.b r) [(200000,.var (Qt v2))]):=by
 refine Qc.walk 9 Tryz.func108 rfl Tryz.ntmps108 rfl fun C hC=>?_
 unfold Qfw at h
 refine Qa hC [.n 17,.keep [3] [200000]] rfl tt_ ?_
 cases h
 exact AK.done (ex_ [_] (an_ (an_ rfl tt_) (gives ⟨rfl,tt_⟩)))
def QQ (s1:(List QB))(v2:QB)(x5:Int):Option (Int⊕(Int⊕Unit)):=
 bif (decide (x5<(s1.length:Int)))then
 (idx s1 x5).bind fun e9=>
 (Qfw e9 v2).bind fun x10=>
 bif x10 then
 some (.inr (.inl x5))
 else
 some (.inl (w64 (x5+1)))
 else
 some (.inr (.inr ()))
def QZ (x7:Int):Option Int:=
 some x7
def Q0 : Option Int:=
 some (-1)
def Qad (s1:(List QB))(v2:QB):Option Int:=
 (QF (fun st=>QQ s1 v2 st) 0).bind (Sum.elim (fun q=>QZ q) (fun q=>Q0))
theorem Qgu (s1:(List QB))(v2:QB){r:Int}(h:Qad s1 v2=some r):Qc Tryz.prog 167 [.sl 3 (s1.map Qt),.clo (.func 108) [] [.loc 200000 0 0]] [(200000,.var (Qt v2))] (Gives (.i .i64 r) [(200000,.var (Qt v2))]):=by
 refine Qc.walk 19 Tryz.func167 rfl Tryz.ntmps167 rfl fun C hC=>?_
 unfold Qad at h
 refine Qa hC [.n 9,.o (.ln s1.length),.n 4,.keep [0,1,7,8] [200000]] rfl ⟨tt_,Qg⟩ ?_
 obtain⟨o12,hl12,h⟩:=Qb h
 refine AK.loop (body:=(fun st=>QQ s1 v2 st)) (fun st σ=>σ=⟨[(0,.sl 3 (s1.map Qt)),(1,.clo (.func 108) [] [.loc 200000 0 0]),(7,.i .i64 (s1.length:Int)),(8,.i .i64 st)],[(200000,.var (Qt v2))]⟩) (Sum.elim (fun q e σ=>e=.ret∧σ=⟨[(4,.i .i64 q)],[(200000,.var (Qt v2))]⟩) (fun q e σ=>e=.exit 0∧σ=⟨[],[(200000,.var (Qt v2))]⟩)) hl12 rfl ?_ ?_
 ·rintro x5 o σ rfl h
  replace h:QQ s1 v2 x5=some o:=h
  unfold QQ at h
  refine Qa hC [.n 6] rfl tt_ ?_
  rcases bifE h with⟨hc8,h⟩|⟨hc8,h⟩
  ·obtain⟨e9,he9,h⟩:=Qb h
   obtain⟨x10,hx10,h⟩:=Qb h
   refine Qa hC [.br true,.n 15,.o (.row (Qt e9)),.v .no [] (.agg (Qt e9)),.cm (.clo) [(200000,200000)] [(200000,200000)] [] [.d,.d] [(200000,.var (Qt v2))] (.b x10),.n 2] rfl ⟨⟨⟨⟨tt_,hc8⟩,(idxM he9)⟩,rfl⟩,(Qn7 _ _ hx10)⟩ ?_
   rcases bifE h with⟨hc11,h⟩|⟨hc11,h⟩
   ·refine Qa hC [.br true,.n 9,.keep [4] [200000]] rfl ⟨tt_,hc11⟩ ?_
    cases h
    exact rndR rfl (an_ rfl rfl)
   ·refine Qa hC [.br false,.n 7,.keep [0,1,7,8] [200000]] rfl ⟨tt_,hc11⟩ ?_
    cases h
    exact rndN rfl rfl
  ·refine Qa hC [.br false,.n 2,.keep [] [200000]] rfl ⟨tt_,hc8⟩ ?_
   cases h
   exact rndX rfl (an_ rfl rfl)
 ·rcases o12 with(x7 | _)
  ·replace h:QZ x7=some r:=h
   unfold QZ at h
   rintro e σ ⟨rfl,rfl⟩
   refine Qa hC [.n 2,.keep [4] [200000]] rfl tt_ ?_
   cases h
   exact AK.done (ex_ [_] (an_ (an_ rfl tt_) (gives ⟨rfl,tt_⟩)))
  ·replace h:Q0=some r:=h
   unfold Q0 at h
   rintro e σ ⟨rfl,rfl⟩
   refine Qa hC [.n 8,.keep [4] [200000]] rfl tt_ ?_
   cases h
   exact AK.done (ex_ [_] (an_ (an_ rfl tt_) (gives ⟨rfl,tt_⟩)))
def Q1 (s1:(List QB))(v2:QB):Option Bool:=
 (Qad s1 v2).bind fun x4=>
 some (decide (0≤x4))
theorem QfQ (s1:(List QB))(v2:QB){r:Bool}(h:Q1 s1 v2=some r):Qc Tryz.prog 111 [.sl 3 (s1.map Qt),.clo (.func 108) [] [.loc 200000 0 0]] [(200000,.var (Qt v2))] (Gives (.b r) [(200000,.var (Qt v2))]):=by
 refine Qc.walk 9 Tryz.func111 rfl Tryz.ntmps111 rfl fun C hC=>?_
 unfold Q1 at h
 obtain⟨x4,hx4,h⟩:=Qb h
 refine Qa hC [.n 9,.cm (.fn) [(200000,200000)] [(200000,200000)] [] [.d,.d] [(200000,.var (Qt v2))] (.i .i64 x4),.n 5,.keep [4] [200000]] rfl ⟨tt_,(Qgu _ _ hx4)⟩ ?_
 cases h
 exact AK.done (ex_ [_] (an_ (an_ rfl tt_) (gives ⟨rfl,tt_⟩)))
def Qfx (v1:TNet)(v2:Int)(v3:QB):Option Bool:=
 (chk (decide (0≤v2)&&decide (0≤v2.toNat)&&decide (v2.toNat≤v1.Places.length))).bind fun _=>
 (Q1 ((v1.Places.drop 0).take (v2.toNat-0)) v3).bind fun x6=>
 some (!x6)
theorem Qn8 (v1:TNet)(v2:Int)(v3:QB){r:Bool}(h:Qfx v1 v2 v3=some r):Qc Tryz.prog 110 [.loc 200000 0 0,.loc 200001 0 0,.loc 200002 0 0] [(200000,.var (Qd v1)),(200001,.var (Qe v2)),(200002,.var [.clo (.func 108) [] [.loc 200003 0 0]]),(200003,.var (Qt v3))] (Gives (.b r) [(200000,.var (Qd v1)),(200001,.var (Qe v2)),(200002,.var [.clo (.func 108) [] [.loc 200003 0 0]]),(200003,.var (Qt v3))]):=by
 refine Qc.walk 11 Tryz.func110 rfl Tryz.ntmps110 rfl fun C hC=>?_
 unfold Qfx at h
 obtain⟨_,hk5,h⟩:=Qb h
 replace hk5:=chkE hk5
 obtain⟨x6,hx6,h⟩:=Qb h
 refine Qa hC [.n 6,.keep [0,1,2,3] [200000,200001,200002,200003]] rfl tt_ ?_
 refine AK.draw2 Qp hC mixed [.a .no none false,.a .no none false,.a .no none false,.a (.any (.sl 3 (((v1.Places.drop 0).take (v2.toNat-0)).map Qt)) none) none false,.a .no none false,.a (.any (.b x6) none) none false,.a .no none false,.m .s] [] [] [3] [200000,200001,200002,200003] rfl rfl rfl ⟨⟨tt_,(fun σ h1 h2 _=>Stp.sliceD rfl rfl (bleN hC.n rfl) (h1 _ _ rfl) (Qp.es rfl) Bnd.no (Bnd.val (h1 _ _ rfl) (of_decide_eq_true (QnU hk5)) rfl) (of_decide_eq_true (QnV hk5)) (Nat.le_trans (of_decide_eq_true (QnW hk5)) (Nat.le_of_eq Qg.symm)) Qp3)⟩,(fun σ h1 h2 _=>Stp.callSame (md:=.cm (.fn) [(200000,200003)] [(200003,200000)] [] [.d,.d] [(200000,.var (Qt v3))] (.b x6) [200003]) Qp hC h1 h2 rfl ⟨⟨tt_,(QfQ _ _ hx6)⟩,⟨rfl,tt_⟩⟩)⟩ rfl (by kernel_rfl) rfl rfl rfl ?_
 refine Qa hC [.n 2,.keep [3] [200000,200001,200002,200003]] rfl tt_ ?_
 cases h
 exact AK.done (ex_ [_] (an_ (an_ rfl tt_) (gives ⟨rfl,rfl,rfl,rfl,tt_⟩)))
def Qa5 (l1:(List Qz))(k2:Int):Option Bool:=
 some ((decide (0≤k2))&&(decide (k2<(l1.length:Int))))
theorem Qgz (l1:(List Qz))(k2:Int){r:Bool}(h:Qa5 l1 k2=some r):Qc Tryz.prog 113 [.sl 7 (l1.map Qv),.i .i64 k2] [] (Gives (.b r) []):=by
 refine Qc.walk 13 Tryz.func113 rfl Tryz.ntmps113 rfl fun C hC=>?_
 unfold Qa5 at h
 refine Qa hC [.n 6] rfl tt_ ?_
 refine AK.meetX (fun σ=>σ=⟨[(4,.b ((decide (0≤k2))&&(decide (k2<(l1.length:Int)))))],[]⟩) ?_ ?_
 ·refine Qa hC [.n 4] rfl tt_ ?_
  rcases QJ (decide (0≤k2))with hc5 | hc5
  ·refine Qa hC [.say 7 (.b true),.n 2,.o (.ln l1.length),.n 4,.say 4 (.b ((decide (0≤k2))&&(decide (k2<(l1.length:Int))))),.keep [4] []] rfl ⟨⟨⟨tt_,(congrArg V.b hc5)⟩,Qg⟩,(congrArg V.b (andT hc5 rfl))⟩ ?_
   exact AK.met rfl
  ·refine Qa hC [.say 7 (.b false),.n 7,.say 4 (.b ((decide (0≤k2))&&(decide (k2<(l1.length:Int))))),.keep [4] []] rfl ⟨⟨tt_,(congrArg V.b hc5)⟩,(congrArg V.b (andF hc5 rfl))⟩ ?_
   exact AK.met rfl
 ·rintro σ rfl
  refine Qa hC [.n 2,.keep [4] []] rfl tt_ ?_
  cases h
  exact AK.done (ex_ [_] (an_ (an_ rfl tt_) (gives tt_)))
def Qfy (v1:TNet)(v2:QB):Option Bool:=
 (Qa5 v1.Colours v2.Colour).bind fun x4=>
 some x4
theorem Qn9 (v1:TNet)(v2:QB){r:Bool}(h:Qfy v1 v2=some r):Qc Tryz.prog 112 [.loc 200000 0 0,.loc 200001 0 0] [(200000,.var (Qd v1)),(200001,.var (Qt v2))] (Gives (.b r) [(200000,.var (Qd v1)),(200001,.var (Qt v2))]):=by
 refine Qc.walk 8 Tryz.func112 rfl Tryz.ntmps112 rfl fun C hC=>?_
 unfold Qfy at h
 obtain⟨x4,hx4,h⟩:=Qb h
 refine Qa hC [.n 11,.o (.c false [.d,.d] (.b x4)),.n 4,.keep [2] [200000,200001]] rfl ⟨tt_,(Qgz _ _ hx4)⟩ ?_
 cases h
 exact AK.done (ex_ [_] (an_ (an_ rfl tt_) (gives ⟨rfl,rfl,tt_⟩)))
def Qfz (v1:QB):Option Bool:=
 (Qb5 v1.First).bind fun x3=>
 some x3
theorem Qoa (v1:QB){r:Bool}(h:Qfz v1=some r):Qc Tryz.prog 114 [.loc 200000 0 0] [(200000,.var (Qt v1))] (Gives (.b r) [(200000,.var (Qt v1))]):=by
 refine Qc.walk 5 Tryz.func114 rfl Tryz.ntmps114 rfl fun C hC=>?_
 unfold Qfz at h
 obtain⟨x3,hx3,h⟩:=Qb h
 refine Qa hC [.n 9,.o (.c false [.d] (.b x3)),.n 4,.keep [1] [200000]] rfl ⟨tt_,(Qga _ hx3)⟩ ?_
 cases h
 exact AK.done (ex_ [_] (an_ (an_ rfl tt_) (gives ⟨rfl,tt_⟩)))
def Qd0 (row1:(Int×Int))(v2:Int):Option Bool:=
 some (decide (v2≤row1.1))
theorem Qnc (row1:(Int×Int))(v2:Int){r:Bool}(h:Qd0 row1 v2=some r):Qc Tryz.prog 117 [.agg (Qs row1),.loc 200000 0 0] [(200000,.var (Qe v2))] (Gives (.b r) [(200000,.var (Qe v2))]):=by
 refine Qc.walk 8 Tryz.func117 rfl Tryz.ntmps117 rfl fun C hC=>?_
 unfold Qd0 at h
 refine Qa hC [.n 16,.keep [3] [200000]] rfl tt_ ?_
 cases h
 exact AK.done (ex_ [_] (an_ (an_ rfl tt_) (gives ⟨rfl,tt_⟩)))
def Q3 (s1:(List (Int×Int)))(v2:Int)(x5:Int):Option (Int⊕(Int⊕Unit)):=
 bif (decide (x5<(s1.length:Int)))then
 (idx s1 x5).bind fun e9=>
 (Qd0 e9 v2).bind fun x10=>
 bif x10 then
 some (.inr (.inl x5))
 else
 some (.inl (w64 (x5+1)))
 else
 some (.inr (.inr ()))
def Qat (x7:Int):Option Int:=
 some x7
def Qau : Option Int:=
 some (-1)
def QaC (s1:(List (Int×Int)))(v2:Int):Option Int:=
 (QF (fun st=>Q3 s1 v2 st) 0).bind (Sum.elim (fun q=>Qat q) (fun q=>Qau))
theorem Qib (s1:(List (Int×Int)))(v2:Int){r:Int}(h:QaC s1 v2=some r):Qc Tryz.prog 168 [.sl 2 (s1.map Qs),.clo (.func 117) [] [.loc 200000 0 0]] [(200000,.var (Qe v2))] (Gives (.i .i64 r) [(200000,.var (Qe v2))]):=by
 refine Qc.walk 19 Tryz.func168 rfl Tryz.ntmps168 rfl fun C hC=>?_
 unfold QaC at h
 refine Qa hC [.n 9,.o (.ln s1.length),.n 4,.keep [0,1,7,8] [200000]] rfl ⟨tt_,Qg⟩ ?_
 obtain⟨o12,hl12,h⟩:=Qb h
 refine AK.loop (body:=(fun st=>Q3 s1 v2 st)) (fun st σ=>σ=⟨[(0,.sl 2 (s1.map Qs)),(1,.clo (.func 117) [] [.loc 200000 0 0]),(7,.i .i64 (s1.length:Int)),(8,.i .i64 st)],[(200000,.var (Qe v2))]⟩) (Sum.elim (fun q e σ=>e=.ret∧σ=⟨[(4,.i .i64 q)],[(200000,.var (Qe v2))]⟩) (fun q e σ=>e=.exit 0∧σ=⟨[],[(200000,.var (Qe v2))]⟩)) hl12 rfl ?_ ?_
 ·rintro x5 o σ rfl h
  replace h:Q3 s1 v2 x5=some o:=h
  unfold Q3 at h
  refine Qa hC [.n 6] rfl tt_ ?_
  rcases bifE h with⟨hc8,h⟩|⟨hc8,h⟩
  ·obtain⟨e9,he9,h⟩:=Qb h
   obtain⟨x10,hx10,h⟩:=Qb h
   refine Qa hC [.br true,.n 15,.o (.row (Qs e9)),.v .no [] (.agg (Qs e9)),.cm (.clo) [(200000,200000)] [(200000,200000)] [] [.d,.d] [(200000,.var (Qe v2))] (.b x10),.n 2] rfl ⟨⟨⟨⟨tt_,hc8⟩,(idxM he9)⟩,rfl⟩,(Qnc _ _ hx10)⟩ ?_
   rcases bifE h with⟨hc11,h⟩|⟨hc11,h⟩
   ·refine Qa hC [.br true,.n 9,.keep [4] [200000]] rfl ⟨tt_,hc11⟩ ?_
    cases h
    exact rndR rfl (an_ rfl rfl)
   ·refine Qa hC [.br false,.n 7,.keep [0,1,7,8] [200000]] rfl ⟨tt_,hc11⟩ ?_
    cases h
    exact rndN rfl rfl
  ·refine Qa hC [.br false,.n 2,.keep [] [200000]] rfl ⟨tt_,hc8⟩ ?_
   cases h
   exact rndX rfl (an_ rfl rfl)
 ·rcases o12 with(x7 | _)
  ·replace h:Qat x7=some r:=h
   unfold Qat at h
   rintro e σ ⟨rfl,rfl⟩
   refine Qa hC [.n 2,.keep [4] [200000]] rfl tt_ ?_
   cases h
   exact AK.done (ex_ [_] (an_ (an_ rfl tt_) (gives ⟨rfl,tt_⟩)))
  ·replace h:Qau=some r:=h
   unfold Qau at h
   rintro e σ ⟨rfl,rfl⟩
   refine Qa hC [.n 8,.keep [4] [200000]] rfl tt_ ?_
   cases h
   exact AK.done (ex_ [_] (an_ (an_ rfl tt_) (gives ⟨rfl,tt_⟩)))
def Qav (s1:(List (Int×Int)))(v2:Int):Option Bool:=
 (QaC s1 v2).bind fun x4=>
 some (decide (0≤x4))
theorem Qhl (s1:(List (Int×Int)))(v2:Int){r:Bool}(h:Qav s1 v2=some r):Qc Tryz.prog 116 [.sl 2 (s1.map Qs),.clo (.func 117) [] [.loc 200000 0 0]] [(200000,.var (Qe v2))] (Gives (.b r) [(200000,.var (Qe v2))]):=by
 refine Qc.walk 9 Tryz.func116 rfl Tryz.ntmps116 rfl fun C hC=>?_
 unfold Qav at h
 obtain⟨x4,hx4,h⟩:=Qb h
 refine Qa hC [.n 9,.cm (.fn) [(200000,200000)] [(200000,200000)] [] [.d,.d] [(200000,.var (Qe v2))] (.i .i64 x4),.n 5,.keep [4] [200000]] rfl ⟨tt_,(Qib _ _ hx4)⟩ ?_
 cases h
 exact AK.done (ex_ [_] (an_ (an_ rfl tt_) (gives ⟨rfl,tt_⟩)))
def QfA (v1:TNet)(v2:QB):Option Bool:=
 (QaX v1.Colours v2.Colour).bind fun x4=>
 (Qav v2.First x4).bind fun x5=>
 some (!x5)
theorem Qob (v1:TNet)(v2:QB){r:Bool}(h:QfA v1 v2=some r):Qc Tryz.prog 115 [.loc 200000 0 0,.loc 200001 0 0] [(200000,.var (Qd v1)),(200001,.var (Qt v2))] (Gives (.b r) [(200000,.var (Qd v1)),(200001,.var (Qt v2))]):=by
 refine Qc.walk 14 Tryz.func115 rfl Tryz.ntmps115 rfl fun C hC=>?_
 unfold QfA at h
 obtain⟨x4,hx4,h⟩:=Qb h
 obtain⟨x5,hx5,h⟩:=Qb h
 refine Qa hC [.n 11,.o (.c false [.d,.d] (.i .i64 x4)),.n 2,.sayO 3 (.var (Qe x4)),.n 7,.cm (.fn) [(200000,3)] [(3,200000)] [] [.d,.d] [(200000,.var (Qe x4))] (.b x5),.n 5,.keep [2] [200000,200001]] rfl ⟨⟨⟨tt_,(QgG _ _ hx4)⟩,rfl⟩,(Qhl _ _ hx5)⟩ ?_
 cases h
 exact AK.done (ex_ [_] (an_ (an_ rfl tt_) (gives ⟨rfl,rfl,tt_⟩)))
def QeL (v1:QB)(v2:Int)(v3:TNet)(v4:Int)(v5:Int)(v6:Int)(v7:Int)(v8:Int):Option Int:=
 (Qfv v1).bind fun x11=>
 bif (!x11)then
 some v2
 else
 (Qfx v3 v4 v1).bind fun x13=>
 bif (!x13)then
 some v5
 else
 (Qfy v3 v1).bind fun x15=>
 bif (!x15)then
 some v6
 else
 (Qfz v1).bind fun x17=>
 bif (!x17)then
 some v7
 else
 (QfA v3 v1).bind fun x19=>
 bif (!x19)then
 some v8
 else
 some 0
theorem Qns (v1:QB)(v2:Int)(v3:TNet)(v4:Int)(v5:Int)(v6:Int)(v7:Int)(v8:Int){r:Int}(h:QeL v1 v2 v3 v4 v5 v6 v7 v8=some r):Qc Tryz.prog 57 [.own 200000 5] [(200000,.var [.clo (.func 109) [] [.loc 200001 0 0],.i .i64 v2,.clo (.func 110) [] [.loc 200002 0 0,.loc 200003 0 0,.loc 200004 0 0],.i .i64 v5,.clo (.func 112) [] [.loc 200002 0 0,.loc 200001 0 0],.i .i64 v6,.clo (.func 114) [] [.loc 200001 0 0],.i .i64 v7,.clo (.func 115) [] [.loc 200002 0 0,.loc 200001 0 0],.i .i64 v8]),(200001,.var (Qt v1)),(200002,.var (Qd v3)),(200003,.var (Qe v4)),(200004,.var [.clo (.func 108) [] [.loc 200001 0 0]])] (Gives (.i .i64 r) [(200000,.var [.clo (.func 109) [] [.loc 200001 0 0],.i .i64 v2,.clo (.func 110) [] [.loc 200002 0 0,.loc 200003 0 0,.loc 200004 0 0],.i .i64 v5,.clo (.func 112) [] [.loc 200002 0 0,.loc 200001 0 0],.i .i64 v6,.clo (.func 114) [] [.loc 200001 0 0],.i .i64 v7,.clo (.func 115) [] [.loc 200002 0 0,.loc 200001 0 0],.i .i64 v8]),(200001,.var (Qt v1)),(200002,.var (Qd v3)),(200003,.var (Qe v4)),(200004,.var [.clo (.func 108) [] [.loc 200001 0 0]])]):=by
 refine Qc.walk 18 Tryz.func57 rfl Tryz.ntmps57 rfl fun C hC=>?_
 unfold QeL at h
 refine Qa hC [.n 14] rfl tt_ ?_
 refine AK.loopN 6 (AK.rnd ?_)
 obtain⟨x11,hx11,h⟩:=Qb h
 refine Qa hC [.n 2,.v .no [] (.b true),.n 10,.o (.any (.loc 200000 0 0) none),.n 3,.sayO 4 (.var [.clo (.func 109) [] [.loc 200001 0 0],.i .i64 v2]),.n 6,.cm (.clo) [(200000,200001)] [(200001,200000)] [] [.d] [(200000,.var (Qt v1))] (.b x11),.n 3] rfl ⟨⟨⟨⟨tt_,rfl⟩,(fun σ h1 h2 _=>Stp.idxV rfl rfl (bleN hC.n rfl) (h1 _ _ rfl) (h1 _ _ rfl) (Qp.es rfl) (h2 _ _ rfl) (by decide))⟩,rfl⟩,(Qn6 _ hx11)⟩ ?_
 rcases bifE h with⟨hc12,h⟩|⟨hc12,h⟩
 ·refine Qa hC [.br true,.n 13,.keep [2] [200000,200001,200002,200003,200004]] rfl ⟨tt_,hc12⟩ ?_
  cases h
  exact AK.done (ex_ [_] (an_ (an_ rfl tt_) (gives ⟨rfl,rfl,rfl,rfl,rfl,tt_⟩)))
 ·refine Qa hC [.br false,.n 4,.v .no [] (.i .i64 1),.n 2] rfl ⟨⟨tt_,hc12⟩,rfl⟩ ?_
  refine AK.met (AK.rnd ?_)
  obtain⟨x13,hx13,h⟩:=Qb h
  refine Qa hC [.n 2,.v .no [] (.b true),.n 10,.o (.any (.loc 200000 0 2) none),.n 1,.kill 4,.n 2,.sayO 4 (.var [.clo (.func 110) [] [.loc 200002 0 0,.loc 200003 0 0,.loc 200004 0 0],.i .i64 v5]),.n 6,.cm (.clo) [(200000,200002),(200001,200003),(200002,200004),(200003,200001)] [(200002,200000),(200003,200001),(200004,200002),(200001,200003)] [] [.d,.d,.d] [(200000,.var (Qd v3)),(200001,.var (Qe v4)),(200002,.var [.clo (.func 108) [] [.loc 200003 0 0]]),(200003,.var (Qt v1))] (.b x13),.n 3] rfl ⟨⟨⟨⟨tt_,rfl⟩,(fun σ h1 h2 _=>Stp.idxV rfl rfl (bleN hC.n rfl) (h1 _ _ rfl) (h1 _ _ rfl) (Qp.es rfl) (h2 _ _ rfl) (by decide))⟩,rfl⟩,(Qn8 _ _ _ hx13)⟩ ?_
  rcases bifE h with⟨hc14,h⟩|⟨hc14,h⟩
  ·refine Qa hC [.br true,.n 13,.keep [2] [200000,200001,200002,200003,200004]] rfl ⟨tt_,hc14⟩ ?_
   cases h
   exact AK.done (ex_ [_] (an_ (an_ rfl tt_) (gives ⟨rfl,rfl,rfl,rfl,rfl,tt_⟩)))
  ·refine Qa hC [.br false,.n 4,.v .no [] (.i .i64 2),.n 2] rfl ⟨⟨tt_,hc14⟩,rfl⟩ ?_
   refine AK.met (AK.rnd ?_)
   obtain⟨x15,hx15,h⟩:=Qb h
   refine Qa hC [.n 2,.v .no [] (.b true),.n 10,.o (.any (.loc 200000 0 4) none),.n 1,.kill 4,.n 2,.sayO 4 (.var [.clo (.func 112) [] [.loc 200002 0 0,.loc 200001 0 0],.i .i64 v6]),.n 6,.cm (.clo) [(200000,200002),(200001,200001)] [(200002,200000),(200001,200001)] [] [.d,.d] [(200000,.var (Qd v3)),(200001,.var (Qt v1))] (.b x15),.n 3] rfl ⟨⟨⟨⟨tt_,rfl⟩,(fun σ h1 h2 _=>Stp.idxV rfl rfl (bleN hC.n rfl) (h1 _ _ rfl) (h1 _ _ rfl) (Qp.es rfl) (h2 _ _ rfl) (by decide))⟩,rfl⟩,(Qn9 _ _ hx15)⟩ ?_
   rcases bifE h with⟨hc16,h⟩|⟨hc16,h⟩
   ·refine Qa hC [.br true,.n 13,.keep [2] [200000,200001,200002,200003,200004]] rfl ⟨tt_,hc16⟩ ?_
    cases h
    exact AK.done (ex_ [_] (an_ (an_ rfl tt_) (gives ⟨rfl,rfl,rfl,rfl,rfl,tt_⟩)))
   ·refine Qa hC [.br false,.n 4,.v .no [] (.i .i64 3),.n 2] rfl ⟨⟨tt_,hc16⟩,rfl⟩ ?_
    refine AK.met (AK.rnd ?_)
    obtain⟨x17,hx17,h⟩:=Qb h
    refine Qa hC [.n 2,.v .no [] (.b true),.n 10,.o (.any (.loc 200000 0 6) none),.n 1,.kill 4,.n 2,.sayO 4 (.var [.clo (.func 114) [] [.loc 200001 0 0],.i .i64 v7]),.n 6,.cm (.clo) [(200000,200001)] [(200001,200000)] [] [.d] [(200000,.var (Qt v1))] (.b x17),.n 3] rfl ⟨⟨⟨⟨tt_,rfl⟩,(fun σ h1 h2 _=>Stp.idxV rfl rfl (bleN hC.n rfl) (h1 _ _ rfl) (h1 _ _ rfl) (Qp.es rfl) (h2 _ _ rfl) (by decide))⟩,rfl⟩,(Qoa _ hx17)⟩ ?_
    rcases bifE h with⟨hc18,h⟩|⟨hc18,h⟩
    ·refine Qa hC [.br true,.n 13,.keep [2] [200000,200001,200002,200003,200004]] rfl ⟨tt_,hc18⟩ ?_
     cases h
     exact AK.done (ex_ [_] (an_ (an_ rfl tt_) (gives ⟨rfl,rfl,rfl,rfl,rfl,tt_⟩)))
    ·refine Qa hC [.br false,.n 4,.v .no [] (.i .i64 4),.n 2] rfl ⟨⟨tt_,hc18⟩,rfl⟩ ?_
     refine AK.met (AK.rnd ?_)
     obtain⟨x19,hx19,h⟩:=Qb h
     refine Qa hC [.n 2,.v .no [] (.b true),.n 10,.o (.any (.loc 200000 0 8) none),.n 1,.kill 4,.n 2,.sayO 4 (.var [.clo (.func 115) [] [.loc 200002 0 0,.loc 200001 0 0],.i .i64 v8]),.n 6,.cm (.clo) [(200000,200002),(200001,200001)] [(200002,200000),(200001,200001)] [] [.d,.d] [(200000,.var (Qd v3)),(200001,.var (Qt v1))] (.b x19),.n 3] rfl ⟨⟨⟨⟨tt_,rfl⟩,(fun σ h1 h2 _=>Stp.idxV rfl rfl (bleN hC.n rfl) (h1 _ _ rfl) (h1 _ _ rfl) (Qp.es rfl) (h2 _ _ rfl) (by decide))⟩,rfl⟩,(Qob _ _ hx19)⟩ ?_
     rcases bifE h with⟨hc20,h⟩|⟨hc20,h⟩
     ·refine Qa hC [.br true,.n 13,.keep [2] [200000,200001,200002,200003,200004]] rfl ⟨tt_,hc20⟩ ?_
      cases h
      exact AK.done (ex_ [_] (an_ (an_ rfl tt_) (gives ⟨rfl,rfl,rfl,rfl,rfl,tt_⟩)))
     ·refine Qa hC [.br false,.n 4,.v .no [] (.i .i64 5),.n 2] rfl ⟨⟨tt_,hc20⟩,rfl⟩ ?_
      refine AK.met (AK.rnd ?_)
      refine Qa hC [.n 2,.v .no [] (.b false),.n 15,.keep [2] [200000,200001,200002,200003,200004]] rfl ⟨tt_,rfl⟩ ?_
      cases h
      exact AK.done (ex_ [_] (an_ (an_ rfl tt_) (gives ⟨rfl,rfl,rfl,rfl,rfl,tt_⟩)))
def QgY (n1:TNet)(k2:Int):Option Int:=
 (Qac n1.Places k2).bind fun x5=>
 bif (!x5)then
 some 3
 else
 (idx n1.Places k2).bind fun e7=>
 (QeL e7 1 n1 k2 5 3 1 8).bind fun x8=>
 some x8
theorem Qpx (n1:TNet)(k2:Int){r:Int}(h:QgY n1 k2=some r):Qc Tryz.prog 65 [.agg (Qd n1),.i .i64 k2] [] (Gives (.i .i64 r) []):=by
 refine Qc.walk 30 Tryz.func65 rfl Tryz.ntmps65 rfl fun C hC=>?_
 unfold QgY at h
 obtain⟨x5,hx5,h⟩:=Qb h
 refine Qa hC [.n 13,.o (.c false [.d,.d] (.b x5)),.n 3] rfl ⟨tt_,(Qbj _ _ hx5)⟩ ?_
 rcases bifE h with⟨hc6,h⟩|⟨hc6,h⟩
 ·refine Qa hC [.br true,.n 7,.keep [4] []] rfl ⟨tt_,hc6⟩ ?_
  cases h
  exact AK.done (ex_ [_] (an_ (an_ rfl tt_) (gives tt_)))
 ·obtain⟨e7,he7,h⟩:=Qb h
  obtain⟨x8,hx8,h⟩:=Qb h
  refine Qa hC [.br false,.n 7,.o (.row (Qt e7)),.v .no [] (.agg (Qt e7)),.n 2,.sayO 5 (.var (Qt e7)),.n 7,.sayO 6 (.var [.clo (.func 108) [] [.loc 5 0 0]]),.n 5,.v .no [] (.agg [.clo (.func 109) [] [.loc 5 0 0],.i .i64 1]),.n 1,.v .no [] (.agg [.clo (.func 110) [] [.loc 2 0 0,.loc 3 0 0,.loc 6 0 0],.i .i64 5]),.n 1,.v .no [] (.agg [.clo (.func 112) [] [.loc 2 0 0,.loc 5 0 0],.i .i64 3]),.n 1,.v .no [] (.agg [.clo (.func 114) [] [.loc 5 0 0],.i .i64 1]),.n 1,.v .no [] (.agg [.clo (.func 115) [] [.loc 2 0 0,.loc 5 0 0],.i .i64 8]),.o (.any (.own 28 5) (some (.var [.clo (.func 109) [] [.loc 5 0 0],.i .i64 1,.clo (.func 110) [] [.loc 2 0 0,.loc 3 0 0,.loc 6 0 0],.i .i64 5,.clo (.func 112) [] [.loc 2 0 0,.loc 5 0 0],.i .i64 3,.clo (.func 114) [] [.loc 5 0 0],.i .i64 1,.clo (.func 115) [] [.loc 2 0 0,.loc 5 0 0],.i .i64 8]))),.cm (.fn) [(200000,28),(200001,5),(200002,2),(200003,3),(200004,6)] [(28,200000),(5,200001),(2,200002),(3,200003),(6,200004)] [] [.d] [(200000,.var [.clo (.func 109) [] [.loc 200001 0 0],.i .i64 1,.clo (.func 110) [] [.loc 200002 0 0,.loc 200003 0 0,.loc 200004 0 0],.i .i64 5,.clo (.func 112) [] [.loc 200002 0 0,.loc 200001 0 0],.i .i64 3,.clo (.func 114) [] [.loc 200001 0 0],.i .i64 1,.clo (.func 115) [] [.loc 200002 0 0,.loc 200001 0 0],.i .i64 8]),(200001,.var (Qt e7)),(200002,.var (Qd n1)),(200003,.var (Qe k2)),(200004,.var [.clo (.func 108) [] [.loc 200001 0 0]])] (.i .i64 x8),.n 4,.keep [4] []] rfl ⟨⟨⟨⟨⟨⟨⟨⟨⟨⟨⟨⟨tt_,hc6⟩,(idxM he7)⟩,rfl⟩,rfl⟩,rfl⟩,rfl⟩,rfl⟩,rfl⟩,rfl⟩,rfl⟩,(fun σ h1 h2 hf=>Stp.buildAny rfl rfl (bleN hC.n rfl) (Qp.es rfl) Qkt rfl (by decide) (by decide) (Qeu h1 rfl) rfl rfl (hf rfl))⟩,(Qns _ _ _ _ _ _ _ _ hx8)⟩ ?_
  cases h
  exact AK.done (ex_ [_] (an_ (an_ rfl tt_) (gives tt_)))
def QgZ (k1:Int)(p2:QB)(v3:TNet):Option Int:=
 (QgY v3 k1).bind fun x5=>
 some x5
theorem Qpy (k1:Int)(p2:QB)(v3:TNet){r:Int}(h:QgZ k1 p2 v3=some r):Qc Tryz.prog 64 [.i .i64 k1,.agg (Qt p2),.loc 200000 0 0] [(200000,.var (Qd v3))] (Gives (.i .i64 r) [(200000,.var (Qd v3))]):=by
 refine Qc.walk 9 Tryz.func64 rfl Tryz.ntmps64 rfl fun C hC=>?_
 unfold QgZ at h
 obtain⟨x5,hx5,h⟩:=Qb h
 refine Qa hC [.n 8,.v .no [] (.agg (Qd v3)),.n 1,.o (.c false [.d,.d] (.i .i64 x5)),.n 4,.keep [5] [200000]] rfl ⟨⟨tt_,rfl⟩,(Qpx _ _ hx5)⟩ ?_
 cases h
 exact AK.done (ex_ [_] (an_ (an_ rfl tt_) (gives ⟨rfl,tt_⟩)))
def QaR (l1:(List QB))(v2:TNet)(x7:Int):Option (Int⊕((Int×Int)⊕Unit)):=
 bif (decide (x7<(l1.length:Int)))then
 (idx l1 x7).bind fun e12=>
 (QgZ x7 e12 v2).bind fun x13=>
 bif (x13 != 0)then
 some (.inr (.inl (x7,x13)))
 else
 some (.inl (w64 (x7+1)))
 else
 some (.inr (.inr ()))
def Qbx (x9:Int)(x10:Int):Option (Int×Int):=
 some (x9,x10)
def Qby : Option (Int×Int):=
 some (0,0)
def Qcc (l1:(List QB))(v2:TNet):Option (Int×Int):=
 (QF (fun st=>QaR l1 v2 st) 0).bind (Sum.elim (fun q=>Qbx q.1 q.2) (fun q=>Qby))
theorem Qk4 (l1:(List QB))(v2:TNet){r:(Int×Int)}(h:Qcc l1 v2=some r):Qc Tryz.prog 63 [.sl 3 (l1.map Qt),.clo (.func 64) [] [.loc 200000 0 0]] [(200000,.var (Qd v2))] (Gives (.tup [.i .i64 r.1,.i .i64 r.2]) [(200000,.var (Qd v2))]):=by
 refine Qc.walk 25 Tryz.func63 rfl Tryz.ntmps63 rfl fun C hC=>?_
 unfold Qcc at h
 refine Qa hC [.n 10,.o (.ln l1.length),.n 4,.keep [1,9,10,11] [200000]] rfl ⟨tt_,Qg⟩ ?_
 obtain⟨o15,hl15,h⟩:=Qb h
 refine AK.loop (body:=(fun st=>QaR l1 v2 st)) (fun st σ=>σ=⟨[(1,.clo (.func 64) [] [.loc 200000 0 0]),(9,.sl 3 (l1.map Qt)),(10,.i .i64 (l1.length:Int)),(11,.i .i64 st)],[(200000,.var (Qd v2))]⟩) (Sum.elim (fun q e σ=>e=.ret∧σ=⟨[(4,.i .i64 q.1),(5,.i .i64 q.2)],[(200000,.var (Qd v2))]⟩) (fun q e σ=>e=.exit 0∧σ=⟨[],[(200000,.var (Qd v2))]⟩)) hl15 rfl ?_ ?_
 ·rintro x7 o σ rfl h
  replace h:QaR l1 v2 x7=some o:=h
  unfold QaR at h
  refine Qa hC [.n 6] rfl tt_ ?_
  rcases bifE h with⟨hc11,h⟩|⟨hc11,h⟩
  ·obtain⟨e12,he12,h⟩:=Qb h
   obtain⟨x13,hx13,h⟩:=Qb h
   refine Qa hC [.br true,.n 7,.o (.row (Qt e12)),.v .no [] (.agg (Qt e12)),.n 3,.sayO 7 (.var (Qt e12)),.n 6,.v .no [] (.agg (Qt e12)),.cm (.clo) [(200000,200000)] [(200000,200000)] [] [.d,.d,.d] [(200000,.var (Qd v2))] (.i .i64 x13),.n 9] rfl ⟨⟨⟨⟨⟨⟨tt_,hc11⟩,(idxM he12)⟩,rfl⟩,rfl⟩,rfl⟩,(Qpy _ _ _ hx13)⟩ ?_
   rcases bifE h with⟨hc14,h⟩|⟨hc14,h⟩
   ·refine Qa hC [.br true,.n 11,.keep [4,5] [200000]] rfl ⟨tt_,hc14⟩ ?_
    cases h
    exact rndR rfl (an_ rfl rfl)
   ·refine Qa hC [.br false,.n 7,.keep [1,9,10,11] [200000]] rfl ⟨tt_,hc14⟩ ?_
    cases h
    exact rndN rfl rfl
  ·refine Qa hC [.br false,.n 2,.keep [] [200000]] rfl ⟨tt_,hc11⟩ ?_
   cases h
   exact rndX rfl (an_ rfl rfl)
 ·rcases o15 with(⟨x9,x10⟩|_)
  ·replace h:Qbx x9 x10=some r:=h
   unfold Qbx at h
   rintro e σ ⟨rfl,rfl⟩
   refine Qa hC [.n 2,.keep [4,5] [200000]] rfl tt_ ?_
   cases h
   exact AK.done (ex_ [_,_] (an_ (an_ rfl (an_ rfl tt_)) (gives ⟨rfl,tt_⟩)))
  ·replace h:Qby=some r:=h
   unfold Qby at h
   rintro e σ ⟨rfl,rfl⟩
   refine Qa hC [.n 9,.keep [4,5] [200000]] rfl tt_ ?_
   cases h
   exact AK.done (ex_ [_,_] (an_ (an_ rfl (an_ rfl tt_)) (gives ⟨rfl,tt_⟩)))
def Qbo (l1:(List Qr))(k2:Int):Option Bool:=
 some ((decide (0≤k2))&&(decide (k2<(l1.length:Int))))
theorem QhA (l1:(List Qr))(k2:Int){r:Bool}(h:Qbo l1 k2=some r):Qc Tryz.prog 69 [.sl 14 (l1.map Qi),.i .i64 k2] [] (Gives (.b r) []):=by
 refine Qc.walk 13 Tryz.func69 rfl Tryz.ntmps69 rfl fun C hC=>?_
 unfold Qbo at h
 refine Qa hC [.n 6] rfl tt_ ?_
 refine AK.meetX (fun σ=>σ=⟨[(4,.b ((decide (0≤k2))&&(decide (k2<(l1.length:Int)))))],[]⟩) ?_ ?_
 ·refine Qa hC [.n 4] rfl tt_ ?_
  rcases QJ (decide (0≤k2))with hc5 | hc5
  ·refine Qa hC [.say 7 (.b true),.n 2,.o (.ln l1.length),.n 4,.say 4 (.b ((decide (0≤k2))&&(decide (k2<(l1.length:Int))))),.keep [4] []] rfl ⟨⟨⟨tt_,(congrArg V.b hc5)⟩,Qg⟩,(congrArg V.b (andT hc5 rfl))⟩ ?_
   exact AK.met rfl
  ·refine Qa hC [.say 7 (.b false),.n 7,.say 4 (.b ((decide (0≤k2))&&(decide (k2<(l1.length:Int))))),.keep [4] []] rfl ⟨⟨tt_,(congrArg V.b hc5)⟩,(congrArg V.b (andF hc5 rfl))⟩ ?_
   exact AK.met rfl
 ·rintro σ rfl
  refine Qa hC [.n 2,.keep [4] []] rfl tt_ ?_
  cases h
  exact AK.done (ex_ [_] (an_ (an_ rfl tt_) (gives tt_)))
def Qg0 (v1:Int)(v2:TNet)(v3:Qr):Option Unit:=
 some ()
theorem Qpz (v1:Int)(v2:TNet)(v3:Qr){r:Unit}(h:Qg0 v1 v2 v3=some r):Qc Tryz.prog 123 [.loc 200000 0 0,.clo (.func 124) [] [.loc 200001 0 0,.loc 200002 0 0]] [(200000,.var (Qe v1)),(200001,.var (Qd v2)),(200002,.var (Qi v3))] (Gives (.clo (.func 170) [] [.loc 3 0 0,.loc 2 0 0]) [(2,.var [.loc 200000 0 0]),(3,.var [.clo (.func 124) [] [.loc 200001 0 0,.loc 200002 0 0]]),(200000,.var (Qe v1)),(200001,.var (Qd v2)),(200002,.var (Qi v3))]):=by
 refine Qc.walk 6 Tryz.func123 rfl Tryz.ntmps123 rfl fun C hC=>?_
 unfold Qg0 at h
 refine Qa hC [.n 14,.keep [4] [2,3,200000,200001,200002]] rfl tt_ ?_
 cases h
 exact AK.done (ex_ [_] (an_ (an_ rfl tt_) (gives ⟨rfl,rfl,rfl,rfl,rfl,tt_⟩)))
def QeM (v1:Int)(v2:TNet)(v3:Qr)(v4:Int):Option Unit:=
 some ()
theorem Qnt (v1:Int)(v2:TNet)(v3:Qr)(v4:Int){r:Unit}(h:QeM v1 v2 v3 v4=some r):Qc Tryz.prog 123 [.loc 200000 0 0,.clo (.func 129) [] [.loc 200001 0 0,.loc 200002 0 0,.loc 200003 0 0]] [(200000,.var (Qe v1)),(200001,.var (Qd v2)),(200002,.var (Qi v3)),(200003,.var (Qe v4))] (Gives (.clo (.func 170) [] [.loc 3 0 0,.loc 2 0 0]) [(2,.var [.loc 200000 0 0]),(3,.var [.clo (.func 129) [] [.loc 200001 0 0,.loc 200002 0 0,.loc 200003 0 0]]),(200000,.var (Qe v1)),(200001,.var (Qd v2)),(200002,.var (Qi v3)),(200003,.var (Qe v4))]):=by
 refine Qc.walk 6 Tryz.func123 rfl Tryz.ntmps123 rfl fun C hC=>?_
 unfold QeM at h
 refine Qa hC [.n 14,.keep [4] [2,3,200000,200001,200002,200003]] rfl tt_ ?_
 cases h
 exact AK.done (ex_ [_] (an_ (an_ rfl tt_) (gives ⟨rfl,rfl,rfl,rfl,rfl,rfl,tt_⟩)))
def QeN (v1:Int)(v2:TNet)(v3:Qr)(v4:Int):Option Unit:=
 some ()
theorem Qnu (v1:Int)(v2:TNet)(v3:Qr)(v4:Int){r:Unit}(h:QeN v1 v2 v3 v4=some r):Qc Tryz.prog 123 [.loc 200000 0 0,.clo (.func 131) [] [.loc 200001 0 0,.loc 200002 0 0,.loc 200003 0 0]] [(200000,.var (Qe v1)),(200001,.var (Qd v2)),(200002,.var (Qi v3)),(200003,.var (Qe v4))] (Gives (.clo (.func 170) [] [.loc 3 0 0,.loc 2 0 0]) [(2,.var [.loc 200000 0 0]),(3,.var [.clo (.func 131) [] [.loc 200001 0 0,.loc 200002 0 0,.loc 200003 0 0]]),(200000,.var (Qe v1)),(200001,.var (Qd v2)),(200002,.var (Qi v3)),(200003,.var (Qe v4))]):=by
 refine Qc.walk 6 Tryz.func123 rfl Tryz.ntmps123 rfl fun C hC=>?_
 unfold QeN at h
 refine Qa hC [.n 14,.keep [4] [2,3,200000,200001,200002,200003]] rfl tt_ ?_
 cases h
 exact AK.done (ex_ [_] (an_ (an_ rfl tt_) (gives ⟨rfl,rfl,rfl,rfl,rfl,rfl,tt_⟩)))
def QeO (v1:Int)(v2:TNet)(v3:Qr):Option Unit:=
 some ()
theorem Qnv (v1:Int)(v2:TNet)(v3:Qr){r:Unit}(h:QeO v1 v2 v3=some r):Qc Tryz.prog 123 [.loc 200000 0 0,.clo (.func 132) [] [.loc 200001 0 0,.loc 200002 0 0]] [(200000,.var (Qe v1)),(200001,.var (Qd v2)),(200002,.var (Qi v3))] (Gives (.clo (.func 170) [] [.loc 3 0 0,.loc 2 0 0]) [(2,.var [.loc 200000 0 0]),(3,.var [.clo (.func 132) [] [.loc 200001 0 0,.loc 200002 0 0]]),(200000,.var (Qe v1)),(200001,.var (Qd v2)),(200002,.var (Qi v3))]):=by
 refine Qc.walk 6 Tryz.func123 rfl Tryz.ntmps123 rfl fun C hC=>?_
 unfold QeO at h
 refine Qa hC [.n 14,.keep [4] [2,3,200000,200001,200002]] rfl tt_ ?_
 cases h
 exact AK.done (ex_ [_] (an_ (an_ rfl tt_) (gives ⟨rfl,rfl,rfl,rfl,rfl,tt_⟩)))
def Qgh (v1:Qr):Option Bool:=
 (QcN v1.Name).bind fun x3=>
 some x3
theorem QoQ (v1:Qr){r:Bool}(h:Qgh v1=some r):Qc Tryz.prog 119 [.loc 200000 0 0] [(200000,.var (Qi v1))] (Gives (.b r) [(200000,.var (Qi v1))]):=by
 refine Qc.walk 5 Tryz.func119 rfl Tryz.ntmps119 rfl fun C hC=>?_
 unfold Qgh at h
 obtain⟨x3,hx3,h⟩:=Qb h
 refine Qa hC [.n 9,.o (.c false [.d] (.b x3)),.n 4,.keep [1] [200000]] rfl ⟨tt_,(Qfu _ hx3)⟩ ?_
 cases h
 exact AK.done (ex_ [_] (an_ (an_ rfl tt_) (gives ⟨rfl,tt_⟩)))
def Qgi (p1:Qr)(v2:Qr):Option Bool:=
 some (QgB p1.Name v2.Name)
theorem QoR (p1:Qr)(v2:Qr){r:Bool}(h:Qgi p1 v2=some r):Qc Tryz.prog 118 [.agg (Qi p1),.loc 200000 0 0] [(200000,.var (Qi v2))] (Gives (.b r) [(200000,.var (Qi v2))]):=by
 refine Qc.walk 9 Tryz.func118 rfl Tryz.ntmps118 rfl fun C hC=>?_
 unfold Qgi at h
 refine Qa hC [.n 17,.keep [3] [200000]] rfl tt_ ?_
 cases h
 exact AK.done (ex_ [_] (an_ (an_ rfl tt_) (gives ⟨rfl,tt_⟩)))
def QS (s1:(List Qr))(v2:Qr)(x5:Int):Option (Int⊕(Int⊕Unit)):=
 bif (decide (x5<(s1.length:Int)))then
 (idx s1 x5).bind fun e9=>
 (Qgi e9 v2).bind fun x10=>
 bif x10 then
 some (.inr (.inl x5))
 else
 some (.inl (w64 (x5+1)))
 else
 some (.inr (.inr ()))
def Q8 (x7:Int):Option Int:=
 some x7
def Q9 : Option Int:=
 some (-1)
def Qam (s1:(List Qr))(v2:Qr):Option Int:=
 (QF (fun st=>QS s1 v2 st) 0).bind (Sum.elim (fun q=>Q8 q) (fun q=>Q9))
theorem Qg1 (s1:(List Qr))(v2:Qr){r:Int}(h:Qam s1 v2=some r):Qc Tryz.prog 169 [.sl 14 (s1.map Qi),.clo (.func 118) [] [.loc 200000 0 0]] [(200000,.var (Qi v2))] (Gives (.i .i64 r) [(200000,.var (Qi v2))]):=by
 refine Qc.walk 19 Tryz.func169 rfl Tryz.ntmps169 rfl fun C hC=>?_
 unfold Qam at h
 refine Qa hC [.n 9,.o (.ln s1.length),.n 4,.keep [0,1,7,8] [200000]] rfl ⟨tt_,Qg⟩ ?_
 obtain⟨o12,hl12,h⟩:=Qb h
 refine AK.loop (body:=(fun st=>QS s1 v2 st)) (fun st σ=>σ=⟨[(0,.sl 14 (s1.map Qi)),(1,.clo (.func 118) [] [.loc 200000 0 0]),(7,.i .i64 (s1.length:Int)),(8,.i .i64 st)],[(200000,.var (Qi v2))]⟩) (Sum.elim (fun q e σ=>e=.ret∧σ=⟨[(4,.i .i64 q)],[(200000,.var (Qi v2))]⟩) (fun q e σ=>e=.exit 0∧σ=⟨[],[(200000,.var (Qi v2))]⟩)) hl12 rfl ?_ ?_
 ·rintro x5 o σ rfl h
  replace h:QS s1 v2 x5=some o:=h
  unfold QS at h
  refine Qa hC [.n 6] rfl tt_ ?_
  rcases bifE h with⟨hc8,h⟩|⟨hc8,h⟩
  ·obtain⟨e9,he9,h⟩:=Qb h
   obtain⟨x10,hx10,h⟩:=Qb h
   refine Qa hC [.br true,.n 15,.o (.row (Qi e9)),.v .no [] (.agg (Qi e9)),.cm (.clo) [(200000,200000)] [(200000,200000)] [] [.d,.d] [(200000,.var (Qi v2))] (.b x10),.n 2] rfl ⟨⟨⟨⟨tt_,hc8⟩,(idxM he9)⟩,rfl⟩,(QoR _ _ hx10)⟩ ?_
   rcases bifE h with⟨hc11,h⟩|⟨hc11,h⟩
   ·refine Qa hC [.br true,.n 9,.keep [4] [200000]] rfl ⟨tt_,hc11⟩ ?_
    cases h
    exact rndR rfl (an_ rfl rfl)
   ·refine Qa hC [.br false,.n 7,.keep [0,1,7,8] [200000]] rfl ⟨tt_,hc11⟩ ?_
    cases h
    exact rndN rfl rfl
  ·refine Qa hC [.br false,.n 2,.keep [] [200000]] rfl ⟨tt_,hc8⟩ ?_
   cases h
   exact rndX rfl (an_ rfl rfl)
 ·rcases o12 with(x7 | _)
  ·replace h:Q8 x7=some r:=h
   unfold Q8 at h
   rintro e σ ⟨rfl,rfl⟩
   refine Qa hC [.n 2,.keep [4] [200000]] rfl tt_ ?_
   cases h
   exact AK.done (ex_ [_] (an_ (an_ rfl tt_) (gives ⟨rfl,tt_⟩)))
  ·replace h:Q9=some r:=h
   unfold Q9 at h
   rintro e σ ⟨rfl,rfl⟩
   refine Qa hC [.n 8,.keep [4] [200000]] rfl tt_ ?_
   cases h
   exact AK.done (ex_ [_] (an_ (an_ rfl tt_) (gives ⟨rfl,tt_⟩)))
def Qaa (s1:(List Qr))(v2:Qr):Option Bool:=
 (Qam s1 v2).bind fun x4=>
 some (decide (0≤x4))
theorem Qgj (s1:(List Qr))(v2:Qr){r:Bool}(h:Qaa s1 v2=some r):Qc Tryz.prog 121 [.sl 14 (s1.map Qi),.clo (.func 118) [] [.loc 200000 0 0]] [(200000,.var (Qi v2))] (Gives (.b r) [(200000,.var (Qi v2))]):=by
 refine Qc.walk 9 Tryz.func121 rfl Tryz.ntmps121 rfl fun C hC=>?_
 unfold Qaa at h
 obtain⟨x4,hx4,h⟩:=Qb h
 refine Qa hC [.n 9,.cm (.fn) [(200000,200000)] [(200000,200000)] [] [.d,.d] [(200000,.var (Qi v2))] (.i .i64 x4),.n 5,.keep [4] [200000]] rfl ⟨tt_,(Qg1 _ _ hx4)⟩ ?_
 cases h
 exact AK.done (ex_ [_] (an_ (an_ rfl tt_) (gives ⟨rfl,tt_⟩)))
def Qgk (v1:TNet)(v2:Int)(v3:Qr):Option Bool:=
 (chk (decide (0≤v2)&&decide (0≤v2.toNat)&&decide (v2.toNat≤v1.Tasks.length))).bind fun _=>
 (Qaa ((v1.Tasks.drop 0).take (v2.toNat-0)) v3).bind fun x6=>
 some (!x6)
theorem QoS (v1:TNet)(v2:Int)(v3:Qr){r:Bool}(h:Qgk v1 v2 v3=some r):Qc Tryz.prog 120 [.loc 200000 0 0,.loc 200001 0 0,.loc 200002 0 0] [(200000,.var (Qd v1)),(200001,.var (Qe v2)),(200002,.var [.clo (.func 118) [] [.loc 200003 0 0]]),(200003,.var (Qi v3))] (Gives (.b r) [(200000,.var (Qd v1)),(200001,.var (Qe v2)),(200002,.var [.clo (.func 118) [] [.loc 200003 0 0]]),(200003,.var (Qi v3))]):=by
 refine Qc.walk 11 Tryz.func120 rfl Tryz.ntmps120 rfl fun C hC=>?_
 unfold Qgk at h
 obtain⟨_,hk5,h⟩:=Qb h
 replace hk5:=chkE hk5
 obtain⟨x6,hx6,h⟩:=Qb h
 refine Qa hC [.n 6,.keep [0,1,2,3] [200000,200001,200002,200003]] rfl tt_ ?_
 refine AK.draw2 Qp hC mixed [.a .no none false,.a .no none false,.a .no none false,.a (.any (.sl 14 (((v1.Tasks.drop 0).take (v2.toNat-0)).map Qi)) none) none false,.a .no none false,.a (.any (.b x6) none) none false,.a .no none false,.m .s] [] [] [3] [200000,200001,200002,200003] rfl rfl rfl ⟨⟨tt_,(fun σ h1 h2 _=>Stp.sliceD rfl rfl (bleN hC.n rfl) (h1 _ _ rfl) (Qp.es rfl) Bnd.no (Bnd.val (h1 _ _ rfl) (of_decide_eq_true (QnU hk5)) rfl) (of_decide_eq_true (QnV hk5)) (Nat.le_trans (of_decide_eq_true (QnW hk5)) (Nat.le_of_eq Qg.symm)) Qp3)⟩,(fun σ h1 h2 _=>Stp.callSame (md:=.cm (.fn) [(200000,200003)] [(200003,200000)] [] [.d,.d] [(200000,.var (Qi v3))] (.b x6) [200003]) Qp hC h1 h2 rfl ⟨⟨tt_,(Qgj _ _ hx6)⟩,⟨rfl,tt_⟩⟩)⟩ rfl (by kernel_rfl) rfl rfl rfl ?_
 refine Qa hC [.n 2,.keep [3] [200000,200001,200002,200003]] rfl tt_ ?_
 cases h
 exact AK.done (ex_ [_] (an_ (an_ rfl tt_) (gives ⟨rfl,rfl,rfl,rfl,tt_⟩)))
def Qeq (v1:Int)(v2:Qr):Option Bool:=
 some ((decide (v1≤16))&&(decide ((max2 (max2 (v2.Ins.length:Int) (v2.Outs.length:Int)) (v2.Cancel.length:Int))≤16)))
theorem QoT (v1:Int)(v2:Qr){r:Bool}(h:Qeq v1 v2=some r):Qc Tryz.prog 122 [.loc 200000 0 0,.loc 200001 0 0] [(200000,.var (Qe v1)),(200001,.var (Qi v2))] (Gives (.b r) [(200000,.var (Qe v1)),(200001,.var (Qi v2))]):=by
 refine Qc.walk 18 Tryz.func122 rfl Tryz.ntmps122 rfl fun C hC=>?_
 unfold Qeq at h
 refine Qa hC [.n 6] rfl tt_ ?_
 refine AK.meetX (fun σ=>σ=⟨[(2,.b ((decide (v1≤16))&&(decide ((max2 (max2 (v2.Ins.length:Int) (v2.Outs.length:Int)) (v2.Cancel.length:Int))≤16))))],[(200000,.var (Qe v1)),(200001,.var (Qi v2))]⟩) ?_ ?_
 ·refine Qa hC [.n 4] rfl tt_ ?_
  rcases QJ (decide (v1≤16))with hc5 | hc5
  ·refine Qa hC [.say 5 (.b true),.n 2,.o (.ln v2.Ins.length),.n 2,.o (.ln v2.Outs.length),.n 2,.o (.ln v2.Cancel.length),.o (.any (.i .i64 (max2 (max2 (v2.Ins.length:Int) (v2.Outs.length:Int)) (v2.Cancel.length:Int))) none),.n 4,.say 2 (.b ((decide (v1≤16))&&(decide ((max2 (max2 (v2.Ins.length:Int) (v2.Outs.length:Int)) (v2.Cancel.length:Int))≤16)))),.keep [2] [200000,200001]] rfl ⟨⟨⟨⟨⟨⟨tt_,(congrArg V.b hc5)⟩,Qg⟩,Qg⟩,Qg⟩,(fun σ h1 h2 _=>Stp.max3 rfl rfl (bleN hC.n rfl) (h1 _ _ rfl) (h1 _ _ rfl) (h1 _ _ rfl))⟩,(congrArg V.b (andT hc5 rfl))⟩ ?_
   exact AK.met rfl
  ·refine Qa hC [.say 5 (.b false),.n 14,.say 2 (.b ((decide (v1≤16))&&(decide ((max2 (max2 (v2.Ins.length:Int) (v2.Outs.length:Int)) (v2.Cancel.length:Int))≤16)))),.keep [2] [200000,200001]] rfl ⟨⟨tt_,(congrArg V.b hc5)⟩,(congrArg V.b (andF hc5 rfl))⟩ ?_
   exact AK.met rfl
 ·rintro σ rfl
  refine Qa hC [.n 2,.keep [2] [200000,200001]] rfl tt_ ?_
  cases h
  exact AK.done (ex_ [_] (an_ (an_ rfl tt_) (gives ⟨rfl,rfl,tt_⟩)))
def Qct (v1:TVar):Option Bool:=
 (QcN v1.Name).bind fun x3=>
 some x3
theorem Qlz (v1:TVar){r:Bool}(h:Qct v1=some r):Qc Tryz.prog 174 [.loc 200000 0 0] [(200000,.var (QC v1))] (Gives (.b r) [(200000,.var (QC v1))]):=by
 refine Qc.walk 5 Tryz.func174 rfl Tryz.ntmps174 rfl fun C hC=>?_
 unfold Qct at h
 obtain⟨x3,hx3,h⟩:=Qb h
 refine Qa hC [.n 9,.o (.c false [.d] (.b x3)),.n 4,.keep [1] [200000]] rfl ⟨tt_,(Qfu _ hx3)⟩ ?_
 cases h
 exact AK.done (ex_ [_] (an_ (an_ rfl tt_) (gives ⟨rfl,tt_⟩)))
def Qcu (p1:TVar)(v2:TVar):Option Bool:=
 some (QgB p1.Name v2.Name)
theorem QlA (p1:TVar)(v2:TVar){r:Bool}(h:Qcu p1 v2=some r):Qc Tryz.prog 173 [.agg (QC p1),.loc 200000 0 0] [(200000,.var (QC v2))] (Gives (.b r) [(200000,.var (QC v2))]):=by
 refine Qc.walk 9 Tryz.func173 rfl Tryz.ntmps173 rfl fun C hC=>?_
 unfold Qcu at h
 refine Qa hC [.n 17,.keep [3] [200000]] rfl tt_ ?_
 cases h
 exact AK.done (ex_ [_] (an_ (an_ rfl tt_) (gives ⟨rfl,tt_⟩)))
def QU (s1:(List TVar))(v2:TVar)(x5:Int):Option (Int⊕(Int⊕Unit)):=
 bif (decide (x5<(s1.length:Int)))then
 (idx s1 x5).bind fun e9=>
 (Qcu e9 v2).bind fun x10=>
 bif x10 then
 some (.inr (.inl x5))
 else
 some (.inl (w64 (x5+1)))
 else
 some (.inr (.inr ()))
def Qae (x7:Int):Option Int:=
 some x7
def Qaf : Option Int:=
 some (-1)
def Qax (s1:(List TVar))(v2:TVar):Option Int:=
 (QF (fun st=>QU s1 v2 st) 0).bind (Sum.elim (fun q=>Qae q) (fun q=>Qaf))
theorem QhC (s1:(List TVar))(v2:TVar){r:Int}(h:Qax s1 v2=some r):Qc Tryz.prog 207 [.sl 2 (s1.map QC),.clo (.func 173) [] [.loc 200000 0 0]] [(200000,.var (QC v2))] (Gives (.i .i64 r) [(200000,.var (QC v2))]):=by
 refine Qc.walk 19 Tryz.func207 rfl Tryz.ntmps207 rfl fun C hC=>?_
 unfold Qax at h
 refine Qa hC [.n 9,.o (.ln s1.length),.n 4,.keep [0,1,7,8] [200000]] rfl ⟨tt_,Qg⟩ ?_
 obtain⟨o12,hl12,h⟩:=Qb h
 refine AK.loop (body:=(fun st=>QU s1 v2 st)) (fun st σ=>σ=⟨[(0,.sl 2 (s1.map QC)),(1,.clo (.func 173) [] [.loc 200000 0 0]),(7,.i .i64 (s1.length:Int)),(8,.i .i64 st)],[(200000,.var (QC v2))]⟩) (Sum.elim (fun q e σ=>e=.ret∧σ=⟨[(4,.i .i64 q)],[(200000,.var (QC v2))]⟩) (fun q e σ=>e=.exit 0∧σ=⟨[],[(200000,.var (QC v2))]⟩)) hl12 rfl ?_ ?_
 ·rintro x5 o σ rfl h
  replace h:QU s1 v2 x5=some o:=h
  unfold QU at h
  refine Qa hC [.n 6] rfl tt_ ?_
  rcases bifE h with⟨hc8,h⟩|⟨hc8,h⟩
  ·obtain⟨e9,he9,h⟩:=Qb h
   obtain⟨x10,hx10,h⟩:=Qb h
   refine Qa hC [.br true,.n 15,.o (.row (QC e9)),.v .no [] (.agg (QC e9)),.cm (.clo) [(200000,200000)] [(200000,200000)] [] [.d,.d] [(200000,.var (QC v2))] (.b x10),.n 2] rfl ⟨⟨⟨⟨tt_,hc8⟩,(idxM he9)⟩,rfl⟩,(QlA _ _ hx10)⟩ ?_
   rcases bifE h with⟨hc11,h⟩|⟨hc11,h⟩
   ·refine Qa hC [.br true,.n 9,.keep [4] [200000]] rfl ⟨tt_,hc11⟩ ?_
    cases h
    exact rndR rfl (an_ rfl rfl)
   ·refine Qa hC [.br false,.n 7,.keep [0,1,7,8] [200000]] rfl ⟨tt_,hc11⟩ ?_
    cases h
    exact rndN rfl rfl
  ·refine Qa hC [.br false,.n 2,.keep [] [200000]] rfl ⟨tt_,hc8⟩ ?_
   cases h
   exact rndX rfl (an_ rfl rfl)
 ·rcases o12 with(x7 | _)
  ·replace h:Qae x7=some r:=h
   unfold Qae at h
   rintro e σ ⟨rfl,rfl⟩
   refine Qa hC [.n 2,.keep [4] [200000]] rfl tt_ ?_
   cases h
   exact AK.done (ex_ [_] (an_ (an_ rfl tt_) (gives ⟨rfl,tt_⟩)))
  ·replace h:Qaf=some r:=h
   unfold Qaf at h
   rintro e σ ⟨rfl,rfl⟩
   refine Qa hC [.n 8,.keep [4] [200000]] rfl tt_ ?_
   cases h
   exact AK.done (ex_ [_] (an_ (an_ rfl tt_) (gives ⟨rfl,tt_⟩)))
def Qag (s1:(List TVar))(v2:TVar):Option Bool:=
 (Qax s1 v2).bind fun x4=>
 some (decide (0≤x4))
theorem QgN (s1:(List TVar))(v2:TVar){r:Bool}(h:Qag s1 v2=some r):Qc Tryz.prog 176 [.sl 2 (s1.map QC),.clo (.func 173) [] [.loc 200000 0 0]] [(200000,.var (QC v2))] (Gives (.b r) [(200000,.var (QC v2))]):=by
 refine Qc.walk 9 Tryz.func176 rfl Tryz.ntmps176 rfl fun C hC=>?_
 unfold Qag at h
 obtain⟨x4,hx4,h⟩:=Qb h
 refine Qa hC [.n 9,.cm (.fn) [(200000,200000)] [(200000,200000)] [] [.d,.d] [(200000,.var (QC v2))] (.i .i64 x4),.n 5,.keep [4] [200000]] rfl ⟨tt_,(QhC _ _ hx4)⟩ ?_
 cases h
 exact AK.done (ex_ [_] (an_ (an_ rfl tt_) (gives ⟨rfl,tt_⟩)))
def Qcv (v1:(List TVar))(v2:Int)(v3:TVar):Option Bool:=
 (chk (decide (0≤v2)&&decide (0≤v2.toNat)&&decide (v2.toNat≤v1.length))).bind fun _=>
 (Qag ((v1.drop 0).take (v2.toNat-0)) v3).bind fun x6=>
 some (!x6)
theorem QlB (v1:(List TVar))(v2:Int)(v3:TVar){r:Bool}(h:Qcv v1 v2 v3=some r):Qc Tryz.prog 175 [.loc 200000 0 0,.loc 200001 0 0,.loc 200002 0 0] [(200000,.var (Qbp v1)),(200001,.var (Qe v2)),(200002,.var [.clo (.func 173) [] [.loc 200003 0 0]]),(200003,.var (QC v3))] (Gives (.b r) [(200000,.var (Qbp v1)),(200001,.var (Qe v2)),(200002,.var [.clo (.func 173) [] [.loc 200003 0 0]]),(200003,.var (QC v3))]):=by
 refine Qc.walk 10 Tryz.func175 rfl Tryz.ntmps175 rfl fun C hC=>?_
 unfold Qcv at h
 obtain⟨_,hk5,h⟩:=Qb h
 replace hk5:=chkE hk5
 obtain⟨x6,hx6,h⟩:=Qb h
 refine Qa hC [.n 6,.keep [0,1,2,3] [200000,200001,200002,200003]] rfl tt_ ?_
 refine AK.draw2 Qp hC mixed [.a .no none false,.a .no none false,.a (.any (.sl 2 (((v1.drop 0).take (v2.toNat-0)).map QC)) none) none false,.a .no none false,.a (.any (.b x6) none) none false,.a .no none false,.m .s] [] [] [3] [200000,200001,200002,200003] rfl rfl rfl ⟨⟨tt_,(fun σ h1 h2 _=>Stp.sliceD rfl rfl (bleN hC.n rfl) (h1 _ _ rfl) (Qp.es rfl) Bnd.no (Bnd.val (h1 _ _ rfl) (of_decide_eq_true (QnU hk5)) rfl) (of_decide_eq_true (QnV hk5)) (Nat.le_trans (of_decide_eq_true (QnW hk5)) (Nat.le_of_eq Qg.symm)) Qp3)⟩,(fun σ h1 h2 _=>Stp.callSame (md:=.cm (.fn) [(200000,200003)] [(200003,200000)] [] [.d,.d] [(200000,.var (QC v3))] (.b x6) [200003]) Qp hC h1 h2 rfl ⟨⟨tt_,(QgN _ _ hx6)⟩,⟨rfl,tt_⟩⟩)⟩ rfl (by kernel_rfl) rfl rfl rfl ?_
 refine Qa hC [.n 2,.keep [3] [200000,200001,200002,200003]] rfl tt_ ?_
 cases h
 exact AK.done (ex_ [_] (an_ (an_ rfl tt_) (gives ⟨rfl,rfl,rfl,rfl,tt_⟩)))
def Qcw (v1:TNet)(v2:TVar):Option Bool:=
 (Qa5 v1.Colours v2.Colour).bind fun x4=>
 some x4
theorem QlC (v1:TNet)(v2:TVar){r:Bool}(h:Qcw v1 v2=some r):Qc Tryz.prog 177 [.loc 200000 0 0,.loc 200001 0 0] [(200000,.var (Qd v1)),(200001,.var (QC v2))] (Gives (.b r) [(200000,.var (Qd v1)),(200001,.var (QC v2))]):=by
 refine Qc.walk 8 Tryz.func177 rfl Tryz.ntmps177 rfl fun C hC=>?_
 unfold Qcw at h
 obtain⟨x4,hx4,h⟩:=Qb h
 refine Qa hC [.n 11,.o (.c false [.d,.d] (.b x4)),.n 4,.keep [2] [200000,200001]] rfl ⟨tt_,(Qgz _ _ hx4)⟩ ?_
 cases h
 exact AK.done (ex_ [_] (an_ (an_ rfl tt_) (gives ⟨rfl,rfl,tt_⟩)))
def QeP (v1:TVar)(v2:Int)(v3:(List TVar))(v4:Int)(v5:Int)(v6:TNet)(v7:Int):Option Int:=
 (Qct v1).bind fun x10=>
 bif (!x10)then
 some v2
 else
 (Qcv v3 v4 v1).bind fun x12=>
 bif (!x12)then
 some v5
 else
 (Qcw v6 v1).bind fun x14=>
 bif (!x14)then
 some v7
 else
 some 0
theorem Qnw (v1:TVar)(v2:Int)(v3:(List TVar))(v4:Int)(v5:Int)(v6:TNet)(v7:Int){r:Int}(h:QeP v1 v2 v3 v4 v5 v6 v7=some r):Qc Tryz.prog 57 [.own 200000 3] [(200000,.var [.clo (.func 174) [] [.loc 200001 0 0],.i .i64 v2,.clo (.func 175) [] [.loc 200002 0 0,.loc 200003 0 0,.loc 200004 0 0],.i .i64 v5,.clo (.func 177) [] [.loc 200005 0 0,.loc 200001 0 0],.i .i64 v7]),(200001,.var (QC v1)),(200002,.var (Qbp v3)),(200003,.var (Qe v4)),(200004,.var [.clo (.func 173) [] [.loc 200001 0 0]]),(200005,.var (Qd v6))] (Gives (.i .i64 r) [(200000,.var [.clo (.func 174) [] [.loc 200001 0 0],.i .i64 v2,.clo (.func 175) [] [.loc 200002 0 0,.loc 200003 0 0,.loc 200004 0 0],.i .i64 v5,.clo (.func 177) [] [.loc 200005 0 0,.loc 200001 0 0],.i .i64 v7]),(200001,.var (QC v1)),(200002,.var (Qbp v3)),(200003,.var (Qe v4)),(200004,.var [.clo (.func 173) [] [.loc 200001 0 0]]),(200005,.var (Qd v6))]):=by
 refine Qc.walk 18 Tryz.func57 rfl Tryz.ntmps57 rfl fun C hC=>?_
 unfold QeP at h
 refine Qa hC [.n 14] rfl tt_ ?_
 refine AK.loopN 4 (AK.rnd ?_)
 obtain⟨x10,hx10,h⟩:=Qb h
 refine Qa hC [.n 2,.v .no [] (.b true),.n 10,.o (.any (.loc 200000 0 0) none),.n 3,.sayO 4 (.var [.clo (.func 174) [] [.loc 200001 0 0],.i .i64 v2]),.n 6,.cm (.clo) [(200000,200001)] [(200001,200000)] [] [.d] [(200000,.var (QC v1))] (.b x10),.n 3] rfl ⟨⟨⟨⟨tt_,rfl⟩,(fun σ h1 h2 _=>Stp.idxV rfl rfl (bleN hC.n rfl) (h1 _ _ rfl) (h1 _ _ rfl) (Qp.es rfl) (h2 _ _ rfl) (by decide))⟩,rfl⟩,(Qlz _ hx10)⟩ ?_
 rcases bifE h with⟨hc11,h⟩|⟨hc11,h⟩
 ·refine Qa hC [.br true,.n 13,.keep [2] [200000,200001,200002,200003,200004,200005]] rfl ⟨tt_,hc11⟩ ?_
  cases h
  exact AK.done (ex_ [_] (an_ (an_ rfl tt_) (gives ⟨rfl,rfl,rfl,rfl,rfl,rfl,tt_⟩)))
 ·refine Qa hC [.br false,.n 4,.v .no [] (.i .i64 1),.n 2] rfl ⟨⟨tt_,hc11⟩,rfl⟩ ?_
  refine AK.met (AK.rnd ?_)
  obtain⟨x12,hx12,h⟩:=Qb h
  refine Qa hC [.n 2,.v .no [] (.b true),.n 10,.o (.any (.loc 200000 0 2) none),.n 1,.kill 4,.n 2,.sayO 4 (.var [.clo (.func 175) [] [.loc 200002 0 0,.loc 200003 0 0,.loc 200004 0 0],.i .i64 v5]),.n 6,.cm (.clo) [(200000,200002),(200001,200003),(200002,200004),(200003,200001)] [(200002,200000),(200003,200001),(200004,200002),(200001,200003)] [] [.d,.d,.d] [(200000,.var (Qbp v3)),(200001,.var (Qe v4)),(200002,.var [.clo (.func 173) [] [.loc 200003 0 0]]),(200003,.var (QC v1))] (.b x12),.n 3] rfl ⟨⟨⟨⟨tt_,rfl⟩,(fun σ h1 h2 _=>Stp.idxV rfl rfl (bleN hC.n rfl) (h1 _ _ rfl) (h1 _ _ rfl) (Qp.es rfl) (h2 _ _ rfl) (by decide))⟩,rfl⟩,(QlB _ _ _ hx12)⟩ ?_
  rcases bifE h with⟨hc13,h⟩|⟨hc13,h⟩
  ·refine Qa hC [.br true,.n 13,.keep [2] [200000,200001,200002,200003,200004,200005]] rfl ⟨tt_,hc13⟩ ?_
   cases h
   exact AK.done (ex_ [_] (an_ (an_ rfl tt_) (gives ⟨rfl,rfl,rfl,rfl,rfl,rfl,tt_⟩)))
  ·refine Qa hC [.br false,.n 4,.v .no [] (.i .i64 2),.n 2] rfl ⟨⟨tt_,hc13⟩,rfl⟩ ?_
   refine AK.met (AK.rnd ?_)
   obtain⟨x14,hx14,h⟩:=Qb h
   refine Qa hC [.n 2,.v .no [] (.b true),.n 10,.o (.any (.loc 200000 0 4) none),.n 1,.kill 4,.n 2,.sayO 4 (.var [.clo (.func 177) [] [.loc 200005 0 0,.loc 200001 0 0],.i .i64 v7]),.n 6,.cm (.clo) [(200000,200005),(200001,200001)] [(200005,200000),(200001,200001)] [] [.d,.d] [(200000,.var (Qd v6)),(200001,.var (QC v1))] (.b x14),.n 3] rfl ⟨⟨⟨⟨tt_,rfl⟩,(fun σ h1 h2 _=>Stp.idxV rfl rfl (bleN hC.n rfl) (h1 _ _ rfl) (h1 _ _ rfl) (Qp.es rfl) (h2 _ _ rfl) (by decide))⟩,rfl⟩,(QlC _ _ hx14)⟩ ?_
   rcases bifE h with⟨hc15,h⟩|⟨hc15,h⟩
   ·refine Qa hC [.br true,.n 13,.keep [2] [200000,200001,200002,200003,200004,200005]] rfl ⟨tt_,hc15⟩ ?_
    cases h
    exact AK.done (ex_ [_] (an_ (an_ rfl tt_) (gives ⟨rfl,rfl,rfl,rfl,rfl,rfl,tt_⟩)))
   ·refine Qa hC [.br false,.n 4,.v .no [] (.i .i64 3),.n 2] rfl ⟨⟨tt_,hc15⟩,rfl⟩ ?_
    refine AK.met (AK.rnd ?_)
    refine Qa hC [.n 2,.v .no [] (.b false),.n 15,.keep [2] [200000,200001,200002,200003,200004,200005]] rfl ⟨tt_,rfl⟩ ?_
    cases h
    exact AK.done (ex_ [_] (an_ (an_ rfl tt_) (gives ⟨rfl,rfl,rfl,rfl,rfl,rfl,tt_⟩)))
def Qc1 (k1:Int)(v2:TVar)(v3:(List TVar))(v4:TNet):Option Int:=
 (QeP v2 1 v3 k1 5 v4 3).bind fun x6=>
 some x6
theorem Qmk (k1:Int)(v2:TVar)(v3:(List TVar))(v4:TNet){r:Int}(h:Qc1 k1 v2 v3 v4=some r):Qc Tryz.prog 172 [.i .i64 k1,.agg (QC v2),.loc 200000 0 0,.loc 200001 0 0] [(200000,.var (Qbp v3)),(200001,.var (Qd v4))] (Gives (.i .i64 r) [(200000,.var (Qbp v3)),(200001,.var (Qd v4))]):=by
 refine Qc.walk 17 Tryz.func172 rfl Tryz.ntmps172 rfl fun C hC=>?_
 unfold Qc1 at h
 obtain⟨x6,hx6,h⟩:=Qb h
 refine Qa hC [.n 12,.sayO 7 (.var [.clo (.func 173) [] [.loc 5 0 0]]),.n 5,.v .no [] (.agg [.clo (.func 174) [] [.loc 5 0 0],.i .i64 1]),.n 1,.v .no [] (.agg [.clo (.func 175) [] [.loc 200000 0 0,.loc 4 0 0,.loc 7 0 0],.i .i64 5]),.n 1,.v .no [] (.agg [.clo (.func 177) [] [.loc 200001 0 0,.loc 5 0 0],.i .i64 3]),.o (.any (.own 15 3) (some (.var [.clo (.func 174) [] [.loc 5 0 0],.i .i64 1,.clo (.func 175) [] [.loc 200000 0 0,.loc 4 0 0,.loc 7 0 0],.i .i64 5,.clo (.func 177) [] [.loc 200001 0 0,.loc 5 0 0],.i .i64 3]))),.cm (.fn) [(200000,15),(200001,5),(200002,200000),(200003,4),(200004,7),(200005,200001)] [(15,200000),(5,200001),(200000,200002),(4,200003),(7,200004),(200001,200005)] [] [.d] [(200000,.var [.clo (.func 174) [] [.loc 200001 0 0],.i .i64 1,.clo (.func 175) [] [.loc 200002 0 0,.loc 200003 0 0,.loc 200004 0 0],.i .i64 5,.clo (.func 177) [] [.loc 200005 0 0,.loc 200001 0 0],.i .i64 3]),(200001,.var (QC v2)),(200002,.var (Qbp v3)),(200003,.var (Qe k1)),(200004,.var [.clo (.func 173) [] [.loc 200001 0 0]]),(200005,.var (Qd v4))] (.i .i64 x6),.n 4,.keep [6] [200000,200001]] rfl ⟨⟨⟨⟨⟨⟨tt_,rfl⟩,rfl⟩,rfl⟩,rfl⟩,(fun σ h1 h2 hf=>Stp.buildAny rfl rfl (bleN hC.n rfl) (Qp.es rfl) Qkt rfl (by decide) (by decide) (Qeu h1 rfl) rfl rfl (hf rfl))⟩,(Qnw _ _ _ _ _ _ _ hx6)⟩ ?_
 cases h
 exact AK.done (ex_ [_] (an_ (an_ rfl tt_) (gives ⟨rfl,rfl,tt_⟩)))
def Qbc (l1:(List TVar))(v2:(List TVar))(v3:TNet)(x8:Int):Option (Int⊕((Int×Int)⊕Unit)):=
 bif (decide (x8<(l1.length:Int)))then
 (idx l1 x8).bind fun e13=>
 (Qc1 x8 e13 v2 v3).bind fun x14=>
 bif (x14 != 0)then
 some (.inr (.inl (x8,x14)))
 else
 some (.inl (w64 (x8+1)))
 else
 some (.inr (.inr ()))
def QbQ (x10:Int)(x11:Int):Option (Int×Int):=
 some (x10,x11)
def QbR : Option (Int×Int):=
 some (0,0)
def QcO (l1:(List TVar))(v2:(List TVar))(v3:TNet):Option (Int×Int):=
 (QF (fun st=>Qbc l1 v2 v3 st) 0).bind (Sum.elim (fun q=>QbQ q.1 q.2) (fun q=>QbR))
theorem QlO (l1:(List TVar))(v2:(List TVar))(v3:TNet){r:(Int×Int)}(h:QcO l1 v2 v3=some r):Qc Tryz.prog 171 [.sl 2 (l1.map QC),.clo (.func 172) [] [.loc 200000 0 0,.loc 200001 0 0]] [(200000,.var (Qbp v2)),(200001,.var (Qd v3))] (Gives (.tup [.i .i64 r.1,.i .i64 r.2]) [(200000,.var (Qbp v2)),(200001,.var (Qd v3))]):=by
 refine Qc.walk 25 Tryz.func171 rfl Tryz.ntmps171 rfl fun C hC=>?_
 unfold QcO at h
 refine Qa hC [.n 10,.o (.ln l1.length),.n 4,.keep [1,9,10,11] [200000,200001]] rfl ⟨tt_,Qg⟩ ?_
 obtain⟨o16,hl16,h⟩:=Qb h
 refine AK.loop (body:=(fun st=>Qbc l1 v2 v3 st)) (fun st σ=>σ=⟨[(1,.clo (.func 172) [] [.loc 200000 0 0,.loc 200001 0 0]),(9,.sl 2 (l1.map QC)),(10,.i .i64 (l1.length:Int)),(11,.i .i64 st)],[(200000,.var (Qbp v2)),(200001,.var (Qd v3))]⟩) (Sum.elim (fun q e σ=>e=.ret∧σ=⟨[(4,.i .i64 q.1),(5,.i .i64 q.2)],[(200000,.var (Qbp v2)),(200001,.var (Qd v3))]⟩) (fun q e σ=>e=.exit 0∧σ=⟨[],[(200000,.var (Qbp v2)),(200001,.var (Qd v3))]⟩)) hl16 rfl ?_ ?_
 ·rintro x8 o σ rfl h
  replace h:Qbc l1 v2 v3 x8=some o:=h
  unfold Qbc at h
  refine Qa hC [.n 6] rfl tt_ ?_
  rcases bifE h with⟨hc12,h⟩|⟨hc12,h⟩
  ·obtain⟨e13,he13,h⟩:=Qb h
   obtain⟨x14,hx14,h⟩:=Qb h
   refine Qa hC [.br true,.n 7,.o (.row (QC e13)),.v .no [] (.agg (QC e13)),.n 3,.sayO 7 (.var (QC e13)),.n 6,.v .no [] (.agg (QC e13)),.cm (.clo) [(200000,200000),(200001,200001)] [(200000,200000),(200001,200001)] [] [.d,.d,.d,.d] [(200000,.var (Qbp v2)),(200001,.var (Qd v3))] (.i .i64 x14),.n 9] rfl ⟨⟨⟨⟨⟨⟨tt_,hc12⟩,(idxM he13)⟩,rfl⟩,rfl⟩,rfl⟩,(Qmk _ _ _ _ hx14)⟩ ?_
   rcases bifE h with⟨hc15,h⟩|⟨hc15,h⟩
   ·refine Qa hC [.br true,.n 11,.keep [4,5] [200000,200001]] rfl ⟨tt_,hc15⟩ ?_
    cases h
    exact rndR rfl (an_ rfl rfl)
   ·refine Qa hC [.br false,.n 7,.keep [1,9,10,11] [200000,200001]] rfl ⟨tt_,hc15⟩ ?_
    cases h
    exact rndN rfl rfl
  ·refine Qa hC [.br false,.n 2,.keep [] [200000,200001]] rfl ⟨tt_,hc12⟩ ?_
   cases h
   exact rndX rfl (an_ rfl rfl)
 ·rcases o16 with(⟨x10,x11⟩|_)
  ·replace h:QbQ x10 x11=some r:=h
   unfold QbQ at h
   rintro e σ ⟨rfl,rfl⟩
   refine Qa hC [.n 2,.keep [4,5] [200000,200001]] rfl tt_ ?_
   cases h
   exact AK.done (ex_ [_,_] (an_ (an_ rfl (an_ rfl tt_)) (gives ⟨rfl,rfl,tt_⟩)))
  ·replace h:QbR=some r:=h
   unfold QbR at h
   rintro e σ ⟨rfl,rfl⟩
   refine Qa hC [.n 9,.keep [4,5] [200000,200001]] rfl tt_ ?_
   cases h
   exact AK.done (ex_ [_,_] (an_ (an_ rfl (an_ rfl tt_)) (gives ⟨rfl,rfl,tt_⟩)))
def Qd1 (n1:TNet)(l2:(List TVar)):Option Int:=
 (QcO l2 l2 n1).bind fun x4=>
 some x4.2
theorem Qnd (n1:TNet)(l2:(List TVar)){r:Int}(h:Qd1 n1 l2=some r):Qc Tryz.prog 125 [.agg (Qd n1),.sl 2 (l2.map QC)] [] (Gives (.i .i64 r) []):=by
 refine Qc.walk 14 Tryz.func125 rfl Tryz.ntmps125 rfl fun C hC=>?_
 unfold Qd1 at h
 obtain⟨x4,hx4,h⟩:=Qb h
 refine Qa hC [.n 11,.cm (.fn) [(200000,3),(200001,2)] [(3,200000),(2,200001)] [] [.d,.d] [(200000,.var (Qbp l2)),(200001,.var (Qd n1))] (.tup [.i .i64 x4.1,.i .i64 x4.2]),.n 14,.keep [4] []] rfl ⟨tt_,(QlO _ _ _ hx4)⟩ ?_
 cases h
 exact AK.done (ex_ [_] (an_ (an_ rfl tt_) (gives tt_)))
def Qgl (v1:TNet)(v2:Qr):Option Int:=
 (Qd1 v1 v2.Vars).bind fun x4=>
 some x4
theorem QoU (v1:TNet)(v2:Qr){r:Int}(h:Qgl v1 v2=some r):Qc Tryz.prog 124 [.loc 200000 0 0,.loc 200001 0 0] [(200000,.var (Qd v1)),(200001,.var (Qi v2))] (Gives (.i .i64 r) [(200000,.var (Qd v1)),(200001,.var (Qi v2))]):=by
 refine Qc.walk 7 Tryz.func124 rfl Tryz.ntmps124 rfl fun C hC=>?_
 unfold Qgl at h
 obtain⟨x4,hx4,h⟩:=Qb h
 refine Qa hC [.n 7,.v .no [] (.agg (Qd v1)),.n 2,.o (.c false [.d,.d] (.i .i64 x4)),.n 4,.keep [2] [200000,200001]] rfl ⟨⟨tt_,rfl⟩,(Qnd _ _ hx4)⟩ ?_
 cases h
 exact AK.done (ex_ [_] (an_ (an_ rfl tt_) (gives ⟨rfl,rfl,tt_⟩)))
def QfB (v1:TNet)(v2:Qr)(v3:Int):Option (Bool×Int):=
 (Qgl v1 v2).bind fun x6=>
 some ((x6==0),x6)
theorem Qoc (v1:TNet)(v2:Qr)(v3:Int){r:(Bool×Int)}(h:QfB v1 v2 v3=some r):Qc Tryz.prog 170 [.loc 200000 0 0,.loc 200003 0 0] [(200000,.var [.clo (.func 124) [] [.loc 200001 0 0,.loc 200002 0 0]]),(200001,.var (Qd v1)),(200002,.var (Qi v2)),(200003,.var [.loc 200004 0 0]),(200004,.var (Qe v3))] (Gives (.b r.1) [(200000,.var [.clo (.func 124) [] [.loc 200001 0 0,.loc 200002 0 0]]),(200001,.var (Qd v1)),(200002,.var (Qi v2)),(200003,.var [.loc 200004 0 0]),(200004,.var (Qe r.2))]):=by
 refine Qc.walk 11 Tryz.func170 rfl Tryz.ntmps170 rfl fun C hC=>?_
 unfold QfB at h
 obtain⟨x6,hx6,h⟩:=Qb h
 refine Qa hC [.n 6,.keep [0,1] [200000,200001,200002,200003,200004]] rfl tt_ ?_
 refine AK.draw2 Qp hC mixed [.a .no none false,.a .no none false,.a (.any (.i .i64 x6) none) none false,.a .no none false,.m .s] [] [] [1] [200000,200001,200002,200003,200004] rfl rfl rfl ⟨tt_,(fun σ h1 h2 _=>Stp.callSame (md:=.cm (.clo) [(200000,200001),(200001,200002)] [(200001,200000),(200002,200001)] [] [.d,.d] [(200000,.var (Qd v1)),(200001,.var (Qi v2))] (.i .i64 x6) [200001,200002]) Qp hC h1 h2 rfl ⟨⟨tt_,(QoU _ _ hx6)⟩,⟨rfl,rfl,tt_⟩⟩)⟩ rfl (by kernel_rfl) rfl rfl rfl ?_
 refine Qa hC [.sayO 200004 (.var (Qe x6)),.n 11,.keep [2] [200000,200001,200002,200003,200004]] rfl ⟨tt_,rfl⟩ ?_
 cases h
 exact AK.done (ex_ [_] (an_ (an_ rfl tt_) (gives ⟨rfl,rfl,rfl,rfl,rfl,tt_⟩)))
def Qdd (e7:Qr)(n1:TNet)(out8:Int)(x9:Int):Option ((Int×Int)⊕(Unit⊕Int)):=
 bif (decide (x9<(e7.Vars.length:Int)))then
 (idx e7.Vars x9).bind fun e14=>
 (QaX n1.Colours e14.Colour).bind fun x15=>
 bif (x15==0)then
 some (.inr (.inl ()))
 else
 some (.inl ((min2 (w64 (out8*x15)) 1025),(w64 (x9+1))))
 else
 some (.inr (.inr out8))
def QeQ : Option Int:=
 some 0
def QeR (out12:Int):Option Int:=
 some out12
def Qfi (n1:TNet)(k2:Int):Option Int:=
 (Qbo n1.Tasks k2).bind fun x5=>
 bif (!x5)then
 some 0
 else
 (idx n1.Tasks k2).bind fun e7=>
 (QF (fun st=>Qdd e7 n1 st.1 st.2) (1,0)).bind (Sum.elim (fun q=>QeQ) (fun q=>QeR q))
theorem QlD (n1:TNet)(k2:Int){r:Int}(h:Qfi n1 k2=some r):Qc Tryz.prog 33 [.agg (Qd n1),.i .i64 k2] [] (Gives (.i .i64 r) []):=by
 refine Qc.walk 38 Tryz.func33 rfl Tryz.ntmps33 rfl fun C hC=>?_
 unfold Qfi at h
 obtain⟨x5,hx5,h⟩:=Qb h
 refine Qa hC [.n 12,.o (.c false [.d,.d] (.b x5)),.n 3] rfl ⟨tt_,(QhA _ _ hx5)⟩ ?_
 rcases bifE h with⟨hc6,h⟩|⟨hc6,h⟩
 ·refine Qa hC [.br true,.n 7,.keep [4] []] rfl ⟨tt_,hc6⟩ ?_
  cases h
  exact AK.done (ex_ [_] (an_ (an_ rfl tt_) (gives tt_)))
 ·obtain⟨e7,he7,h⟩:=Qb h
  refine Qa hC [.br false,.n 13,.o (.row (Qi e7)),.n 2,.o (.ln e7.Vars.length),.n 4,.keep [2,5,19,20,21] [2]] rfl ⟨⟨⟨tt_,hc6⟩,(idxM he7)⟩,Qg⟩ ?_
  obtain⟨o17,hl17,h⟩:=Qb h
  refine AK.loop (body:=(fun st=>Qdd e7 n1 st.1 st.2)) (fun st σ=>σ=⟨[(2,.loc 2 0 0),(5,.i .i64 st.1),(19,.sl 2 (e7.Vars.map QC)),(20,.i .i64 (e7.Vars.length:Int)),(21,.i .i64 st.2)],[(2,.var (Qd n1))]⟩) (Sum.elim (fun q e σ=>e=.ret∧σ=⟨[(4,.i .i64 0)],[]⟩) (fun q e σ=>e=.exit 0∧σ=⟨[(5,.i .i64 q)],[]⟩)) hl17 rfl ?_ ?_
  ·rintro ⟨out8,x9⟩ o σ rfl h
   replace h:Qdd e7 n1 out8 x9=some o:=h
   unfold Qdd at h
   refine Qa hC [.n 6] rfl tt_ ?_
   rcases bifE h with⟨hc13,h⟩|⟨hc13,h⟩
   ·obtain⟨e14,he14,h⟩:=Qb h
    obtain⟨x15,hx15,h⟩:=Qb h
    refine Qa hC [.br true,.n 6,.o (.row (QC e14)),.v .no [] (.agg (QC e14)),.n 2,.sayO 7 (.var (QC e14)),.n 8,.o (.c false [.d,.d] (.i .i64 x15)),.n 10] rfl ⟨⟨⟨⟨⟨tt_,hc13⟩,(idxM he14)⟩,rfl⟩,rfl⟩,(QgG _ _ hx15)⟩ ?_
    rcases bifE h with⟨hc16,h⟩|⟨hc16,h⟩
    ·refine Qa hC [.br true,.n 9,.keep [4] []] rfl ⟨tt_,hc16⟩ ?_
     cases h
     exact rndR rfl (an_ rfl rfl)
    ·refine Qa hC [.br false,.n 15,.keep [2,5,19,20,21] [2]] rfl ⟨tt_,hc16⟩ ?_
     cases h
     exact rndN rfl rfl
   ·refine Qa hC [.br false,.n 2,.keep [5] []] rfl ⟨tt_,hc13⟩ ?_
    cases h
    exact rndX rfl (an_ rfl rfl)
  ·rcases o17 with(_ | out12)
   ·replace h:QeQ=some r:=h
    unfold QeQ at h
    rintro e σ ⟨rfl,rfl⟩
    refine Qa hC [.n 2,.keep [4] []] rfl tt_ ?_
    cases h
    exact AK.done (ex_ [_] (an_ (an_ rfl tt_) (gives tt_)))
   ·replace h:QeR out12=some r:=h
    unfold QeR at h
    rintro e σ ⟨rfl,rfl⟩
    refine Qa hC [.n 9,.keep [4] []] rfl tt_ ?_
    cases h
    exact AK.done (ex_ [_] (an_ (an_ rfl tt_) (gives tt_)))
def Qgm (v1:TNet)(v2:Int):Option Bool:=
 (Qfi v1 v2).bind fun x4=>
 some (decide (x4≤1024))
theorem QoV (v1:TNet)(v2:Int){r:Bool}(h:Qgm v1 v2=some r):Qc Tryz.prog 126 [.loc 200000 0 0,.loc 200001 0 0] [(200000,.var (Qd v1)),(200001,.var (Qe v2))] (Gives (.b r) [(200000,.var (Qd v1)),(200001,.var (Qe v2))]):=by
 refine Qc.walk 7 Tryz.func126 rfl Tryz.ntmps126 rfl fun C hC=>?_
 unfold Qgm at h
 obtain⟨x4,hx4,h⟩:=Qb h
 refine Qa hC [.n 7,.v .no [] (.agg (Qd v1)),.n 1,.o (.c false [.d,.d] (.i .i64 x4)),.n 5,.keep [2] [200000,200001]] rfl ⟨⟨tt_,rfl⟩,(QlD _ _ hx4)⟩ ?_
 cases h
 exact AK.done (ex_ [_] (an_ (an_ rfl tt_) (gives ⟨rfl,rfl,tt_⟩)))
def Qio (v1:Qr)(v2:Int):Option Bool:=
 (QeB v1.Guard v2).bind fun x6=>
 bif x6 then
 bif (decide (0<(v1.Ins.length:Int)))then
 some (decide (0<(v1.Outs.length:Int)))
 else
 some false
 else
 some false
def Qd2 (x4:Bool):Option Bool:=
 some x4
def Qgn (v1:Qr)(v2:Int):Option Bool:=
 (Qio v1 v2).bind (fun x4=>Qd2 x4)
theorem QoW (v1:Qr)(v2:Int){r:Bool}(h:Qgn v1 v2=some r):Qc Tryz.prog 127 [.loc 200000 0 0,.loc 200001 0 0] [(200000,.var (Qi v1)),(200001,.var (Qe v2))] (Gives (.b r) [(200000,.var (Qi v1)),(200001,.var (Qe v2))]):=by
 refine Qc.walk 19 Tryz.func127 rfl Tryz.ntmps127 rfl fun C hC=>?_
 unfold Qgn at h
 refine Qa hC [.n 6] rfl tt_ ?_
 obtain⟨x4,hv5,h⟩:=Qb h
 replace h:Qd2 x4=some r:=h
 refine AK.meetX (fun σ=>σ=⟨[(2,.b x4)],[(200000,.var (Qi v1)),(200001,.var (Qe v2))]⟩) ?_ ?_
 ·replace h:=hv5
  unfold Qio at h
  obtain⟨x6,hx6,h⟩:=Qb h
  refine Qa hC [.n 2,.v .no [] (.agg (Ql v1.Guard)),.n 1,.o (.c false [.d,.d] (.b x6)),.n 1] rfl ⟨⟨tt_,rfl⟩,(Qjs _ _ hx6)⟩ ?_
  rcases bifE h with⟨hc7,h⟩|⟨hc7,h⟩
  ·refine Qa hC [.say 7 (.b true),.n 2,.o (.ln v1.Ins.length),.n 3] rfl ⟨⟨tt_,(congrArg V.b hc7)⟩,Qg⟩ ?_
   rcases bifE h with⟨hc8,h⟩|⟨hc8,h⟩
   ·refine Qa hC [.say 13 (.b true),.n 2,.o (.ln v1.Outs.length),.n 4,.keep [2] [200000,200001]] rfl ⟨⟨tt_,(congrArg V.b hc8)⟩,Qg⟩ ?_
    cases h
    exact AK.met rfl
   ·refine Qa hC [.say 13 (.b false),.n 7,.keep [2] [200000,200001]] rfl ⟨tt_,(congrArg V.b hc8)⟩ ?_
    cases h
    exact AK.met rfl
  ·refine Qa hC [.say 7 (.b false),.n 13,.keep [2] [200000,200001]] rfl ⟨tt_,(congrArg V.b hc7)⟩ ?_
   cases h
   exact AK.met rfl
 ·rintro σ rfl
  replace h:Qd2 x4=some r:=h
  unfold Qd2 at h
  refine Qa hC [.n 2,.keep [2] [200000,200001]] rfl tt_ ?_
  cases h
  exact AK.done (ex_ [_] (an_ (an_ rfl tt_) (gives ⟨rfl,rfl,tt_⟩)))
def QeS (v1:TNet)(v2:TArc):Option Bool:=
 (Qac v1.Places v2.Place).bind fun x4=>
 some x4
theorem Qnx (v1:TNet)(v2:TArc){r:Bool}(h:QeS v1 v2=some r):Qc Tryz.prog 183 [.loc 200000 0 0,.loc 200001 0 0] [(200000,.var (Qd v1)),(200001,.var (QP v2))] (Gives (.b r) [(200000,.var (Qd v1)),(200001,.var (QP v2))]):=by
 refine Qc.walk 8 Tryz.func183 rfl Tryz.ntmps183 rfl fun C hC=>?_
 unfold QeS at h
 obtain⟨x4,hx4,h⟩:=Qb h
 refine Qa hC [.n 11,.o (.c false [.d,.d] (.b x4)),.n 4,.keep [2] [200000,200001]] rfl ⟨tt_,(Qbj _ _ hx4)⟩ ?_
 cases h
 exact AK.done (ex_ [_] (an_ (an_ rfl tt_) (gives ⟨rfl,rfl,tt_⟩)))
def QeT (v1:TArc)(v2:Int):Option Bool:=
 (QeB v1.Expr v2).bind fun x4=>
 some x4
theorem Qny (v1:TArc)(v2:Int){r:Bool}(h:QeT v1 v2=some r):Qc Tryz.prog 184 [.loc 200000 0 0,.loc 200001 0 0] [(200000,.var (QP v1)),(200001,.var (Qe v2))] (Gives (.b r) [(200000,.var (QP v1)),(200001,.var (Qe v2))]):=by
 refine Qc.walk 7 Tryz.func184 rfl Tryz.ntmps184 rfl fun C hC=>?_
 unfold QeT at h
 obtain⟨x4,hx4,h⟩:=Qb h
 refine Qa hC [.n 8,.v .no [] (.agg (Ql v1.Expr)),.n 1,.o (.c false [.d,.d] (.b x4)),.n 4,.keep [2] [200000,200001]] rfl ⟨⟨tt_,rfl⟩,(Qjs _ _ hx4)⟩ ?_
 cases h
 exact AK.done (ex_ [_] (an_ (an_ rfl tt_) (gives ⟨rfl,rfl,tt_⟩)))
def QeU (v1:TNet)(v2:TArc)(v3:Int)(v4:Int)(v5:Int):Option Int:=
 (QeS v1 v2).bind fun x8=>
 bif (!x8)then
 some v3
 else
 (QeT v2 v4).bind fun x10=>
 bif (!x10)then
 some v5
 else
 some 0
theorem Qnz (v1:TNet)(v2:TArc)(v3:Int)(v4:Int)(v5:Int){r:Int}(h:QeU v1 v2 v3 v4 v5=some r):Qc Tryz.prog 57 [.own 200000 2] [(200000,.var [.clo (.func 183) [] [.loc 200001 0 0,.loc 200002 0 0],.i .i64 v3,.clo (.func 184) [] [.loc 200002 0 0,.loc 200003 0 0],.i .i64 v5]),(200001,.var (Qd v1)),(200002,.var (QP v2)),(200003,.var (Qe v4))] (Gives (.i .i64 r) [(200000,.var [.clo (.func 183) [] [.loc 200001 0 0,.loc 200002 0 0],.i .i64 v3,.clo (.func 184) [] [.loc 200002 0 0,.loc 200003 0 0],.i .i64 v5]),(200001,.var (Qd v1)),(200002,.var (QP v2)),(200003,.var (Qe v4))]):=by
 refine Qc.walk 18 Tryz.func57 rfl Tryz.ntmps57 rfl fun C hC=>?_
 unfold QeU at h
 refine Qa hC [.n 14] rfl tt_ ?_
 refine AK.loopN 3 (AK.rnd ?_)
 obtain⟨x8,hx8,h⟩:=Qb h
 refine Qa hC [.n 2,.v .no [] (.b true),.n 10,.o (.any (.loc 200000 0 0) none),.n 3,.sayO 4 (.var [.clo (.func 183) [] [.loc 200001 0 0,.loc 200002 0 0],.i .i64 v3]),.n 6,.cm (.clo) [(200000,200001),(200001,200002)] [(200001,200000),(200002,200001)] [] [.d,.d] [(200000,.var (Qd v1)),(200001,.var (QP v2))] (.b x8),.n 3] rfl ⟨⟨⟨⟨tt_,rfl⟩,(fun σ h1 h2 _=>Stp.idxV rfl rfl (bleN hC.n rfl) (h1 _ _ rfl) (h1 _ _ rfl) (Qp.es rfl) (h2 _ _ rfl) (by decide))⟩,rfl⟩,(Qnx _ _ hx8)⟩ ?_
 rcases bifE h with⟨hc9,h⟩|⟨hc9,h⟩
 ·refine Qa hC [.br true,.n 13,.keep [2] [200000,200001,200002,200003]] rfl ⟨tt_,hc9⟩ ?_
  cases h
  exact AK.done (ex_ [_] (an_ (an_ rfl tt_) (gives ⟨rfl,rfl,rfl,rfl,tt_⟩)))
 ·refine Qa hC [.br false,.n 4,.v .no [] (.i .i64 1),.n 2] rfl ⟨⟨tt_,hc9⟩,rfl⟩ ?_
  refine AK.met (AK.rnd ?_)
  obtain⟨x10,hx10,h⟩:=Qb h
  refine Qa hC [.n 2,.v .no [] (.b true),.n 10,.o (.any (.loc 200000 0 2) none),.n 1,.kill 4,.n 2,.sayO 4 (.var [.clo (.func 184) [] [.loc 200002 0 0,.loc 200003 0 0],.i .i64 v5]),.n 6,.cm (.clo) [(200000,200002),(200001,200003)] [(200002,200000),(200003,200001)] [] [.d,.d] [(200000,.var (QP v2)),(200001,.var (Qe v4))] (.b x10),.n 3] rfl ⟨⟨⟨⟨tt_,rfl⟩,(fun σ h1 h2 _=>Stp.idxV rfl rfl (bleN hC.n rfl) (h1 _ _ rfl) (h1 _ _ rfl) (Qp.es rfl) (h2 _ _ rfl) (by decide))⟩,rfl⟩,(Qny _ _ hx10)⟩ ?_
  rcases bifE h with⟨hc11,h⟩|⟨hc11,h⟩
  ·refine Qa hC [.br true,.n 13,.keep [2] [200000,200001,200002,200003]] rfl ⟨tt_,hc11⟩ ?_
   cases h
   exact AK.done (ex_ [_] (an_ (an_ rfl tt_) (gives ⟨rfl,rfl,rfl,rfl,tt_⟩)))
  ·refine Qa hC [.br false,.n 4,.v .no [] (.i .i64 2),.n 2] rfl ⟨⟨tt_,hc11⟩,rfl⟩ ?_
   refine AK.met (AK.rnd ?_)
   refine Qa hC [.n 2,.v .no [] (.b false),.n 15,.keep [2] [200000,200001,200002,200003]] rfl ⟨tt_,rfl⟩ ?_
   cases h
   exact AK.done (ex_ [_] (an_ (an_ rfl tt_) (gives ⟨rfl,rfl,rfl,rfl,tt_⟩)))
def Qgo (p1:Int)(a2:TArc)(v3:TNet)(v4:Int):Option Int:=
 (QeU v3 a2 3 v4 1).bind fun x6=>
 some x6
theorem QoX (p1:Int)(a2:TArc)(v3:TNet)(v4:Int){r:Int}(h:Qgo p1 a2 v3 v4=some r):Qc Tryz.prog 182 [.i .i64 p1,.agg (QP a2),.loc 200000 0 0,.loc 200001 0 0] [(200000,.var (Qd v3)),(200001,.var (Qe v4))] (Gives (.i .i64 r) [(200000,.var (Qd v3)),(200001,.var (Qe v4))]):=by
 refine Qc.walk 13 Tryz.func182 rfl Tryz.ntmps182 rfl fun C hC=>?_
 unfold Qgo at h
 obtain⟨x6,hx6,h⟩:=Qb h
 refine Qa hC [.n 9,.v .no [] (.agg [.clo (.func 183) [] [.loc 200000 0 0,.loc 5 0 0],.i .i64 3]),.n 1,.v .no [] (.agg [.clo (.func 184) [] [.loc 5 0 0,.loc 200001 0 0],.i .i64 1]),.o (.any (.own 11 2) (some (.var [.clo (.func 183) [] [.loc 200000 0 0,.loc 5 0 0],.i .i64 3,.clo (.func 184) [] [.loc 5 0 0,.loc 200001 0 0],.i .i64 1]))),.cm (.fn) [(200000,11),(200001,200000),(200002,5),(200003,200001)] [(11,200000),(200000,200001),(5,200002),(200001,200003)] [] [.d] [(200000,.var [.clo (.func 183) [] [.loc 200001 0 0,.loc 200002 0 0],.i .i64 3,.clo (.func 184) [] [.loc 200002 0 0,.loc 200003 0 0],.i .i64 1]),(200001,.var (Qd v3)),(200002,.var (QP a2)),(200003,.var (Qe v4))] (.i .i64 x6),.n 4,.keep [6] [200000,200001]] rfl ⟨⟨⟨⟨tt_,rfl⟩,rfl⟩,(fun σ h1 h2 hf=>Stp.buildAny rfl rfl (bleN hC.n rfl) (Qp.es rfl) Qkt rfl (by decide) (by decide) (Qeu h1 rfl) rfl rfl (hf rfl))⟩,(Qnz _ _ _ _ _ hx6)⟩ ?_
 cases h
 exact AK.done (ex_ [_] (an_ (an_ rfl tt_) (gives ⟨rfl,rfl,tt_⟩)))
def Qbd (l1:(List TArc))(v2:TNet)(v3:Int)(x8:Int):Option (Int⊕((Int×Int)⊕Unit)):=
 bif (decide (x8<(l1.length:Int)))then
 (idx l1 x8).bind fun e13=>
 (Qgo x8 e13 v2 v3).bind fun x14=>
 bif (x14 != 0)then
 some (.inr (.inl (x8,x14)))
 else
 some (.inl (w64 (x8+1)))
 else
 some (.inr (.inr ()))
def QbS (x10:Int)(x11:Int):Option (Int×Int):=
 some (x10,x11)
def QbT : Option (Int×Int):=
 some (0,0)
def QcP (l1:(List TArc))(v2:TNet)(v3:Int):Option (Int×Int):=
 (QF (fun st=>Qbd l1 v2 v3 st) 0).bind (Sum.elim (fun q=>QbS q.1 q.2) (fun q=>QbT))
theorem QlP (l1:(List TArc))(v2:TNet)(v3:Int){r:(Int×Int)}(h:QcP l1 v2 v3=some r):Qc Tryz.prog 181 [.sl 4 (l1.map QP),.clo (.func 182) [] [.loc 200000 0 0,.loc 200001 0 0]] [(200000,.var (Qd v2)),(200001,.var (Qe v3))] (Gives (.tup [.i .i64 r.1,.i .i64 r.2]) [(200000,.var (Qd v2)),(200001,.var (Qe v3))]):=by
 refine Qc.walk 25 Tryz.func181 rfl Tryz.ntmps181 rfl fun C hC=>?_
 unfold QcP at h
 refine Qa hC [.n 10,.o (.ln l1.length),.n 4,.keep [1,9,10,11] [200000,200001]] rfl ⟨tt_,Qg⟩ ?_
 obtain⟨o16,hl16,h⟩:=Qb h
 refine AK.loop (body:=(fun st=>Qbd l1 v2 v3 st)) (fun st σ=>σ=⟨[(1,.clo (.func 182) [] [.loc 200000 0 0,.loc 200001 0 0]),(9,.sl 4 (l1.map QP)),(10,.i .i64 (l1.length:Int)),(11,.i .i64 st)],[(200000,.var (Qd v2)),(200001,.var (Qe v3))]⟩) (Sum.elim (fun q e σ=>e=.ret∧σ=⟨[(4,.i .i64 q.1),(5,.i .i64 q.2)],[(200000,.var (Qd v2)),(200001,.var (Qe v3))]⟩) (fun q e σ=>e=.exit 0∧σ=⟨[],[(200000,.var (Qd v2)),(200001,.var (Qe v3))]⟩)) hl16 rfl ?_ ?_
 ·rintro x8 o σ rfl h
  replace h:Qbd l1 v2 v3 x8=some o:=h
  unfold Qbd at h
  refine Qa hC [.n 6] rfl tt_ ?_
  rcases bifE h with⟨hc12,h⟩|⟨hc12,h⟩
  ·obtain⟨e13,he13,h⟩:=Qb h
   obtain⟨x14,hx14,h⟩:=Qb h
   refine Qa hC [.br true,.n 7,.o (.row (QP e13)),.v .no [] (.agg (QP e13)),.n 3,.sayO 7 (.var (QP e13)),.n 6,.v .no [] (.agg (QP e13)),.cm (.clo) [(200000,200000),(200001,200001)] [(200000,200000),(200001,200001)] [] [.d,.d,.d,.d] [(200000,.var (Qd v2)),(200001,.var (Qe v3))] (.i .i64 x14),.n 9] rfl ⟨⟨⟨⟨⟨⟨tt_,hc12⟩,(idxM he13)⟩,rfl⟩,rfl⟩,rfl⟩,(QoX _ _ _ _ hx14)⟩ ?_
   rcases bifE h with⟨hc15,h⟩|⟨hc15,h⟩
   ·refine Qa hC [.br true,.n 11,.keep [4,5] [200000,200001]] rfl ⟨tt_,hc15⟩ ?_
    cases h
    exact rndR rfl (an_ rfl rfl)
   ·refine Qa hC [.br false,.n 7,.keep [1,9,10,11] [200000,200001]] rfl ⟨tt_,hc15⟩ ?_
    cases h
    exact rndN rfl rfl
  ·refine Qa hC [.br false,.n 2,.keep [] [200000,200001]] rfl ⟨tt_,hc12⟩ ?_
   cases h
   exact rndX rfl (an_ rfl rfl)
 ·rcases o16 with(⟨x10,x11⟩|_)
  ·replace h:QbS x10 x11=some r:=h
   unfold QbS at h
   rintro e σ ⟨rfl,rfl⟩
   refine Qa hC [.n 2,.keep [4,5] [200000,200001]] rfl tt_ ?_
   cases h
   exact AK.done (ex_ [_,_] (an_ (an_ rfl (an_ rfl tt_)) (gives ⟨rfl,rfl,tt_⟩)))
  ·replace h:QbT=some r:=h
   unfold QbT at h
   rintro e σ ⟨rfl,rfl⟩
   refine Qa hC [.n 9,.keep [4,5] [200000,200001]] rfl tt_ ?_
   cases h
   exact AK.done (ex_ [_,_] (an_ (an_ rfl (an_ rfl tt_)) (gives ⟨rfl,rfl,tt_⟩)))
def Qgp (n1:TNet)(l2:(List TArc))(vars3:Int):Option Int:=
 (QcP l2 n1 vars3).bind fun x5=>
 some x5.2
theorem Ql4 (n1:TNet)(l2:(List TArc))(vars3:Int){r:Int}(h:Qgp n1 l2 vars3=some r):Qc Tryz.prog 130 [.agg (Qd n1),.sl 4 (l2.map QP),.i .i64 vars3] [] (Gives (.i .i64 r) []):=by
 refine Qc.walk 16 Tryz.func130 rfl Tryz.ntmps130 rfl fun C hC=>?_
 unfold Qgp at h
 obtain⟨x5,hx5,h⟩:=Qb h
 refine Qa hC [.n 11,.cm (.fn) [(200000,3),(200001,5)] [(3,200000),(5,200001)] [] [.d,.d] [(200000,.var (Qd n1)),(200001,.var (Qe vars3))] (.tup [.i .i64 x5.1,.i .i64 x5.2]),.n 14,.keep [6] []] rfl ⟨tt_,(QlP _ _ _ hx5)⟩ ?_
 cases h
 exact AK.done (ex_ [_] (an_ (an_ rfl tt_) (gives tt_)))
def Qgq (v1:TNet)(v2:Qr)(v3:Int):Option Int:=
 (Qgp v1 v2.Ins v3).bind fun x5=>
 some x5
theorem QoY (v1:TNet)(v2:Qr)(v3:Int){r:Int}(h:Qgq v1 v2 v3=some r):Qc Tryz.prog 129 [.loc 200000 0 0,.loc 200001 0 0,.loc 200002 0 0] [(200000,.var (Qd v1)),(200001,.var (Qi v2)),(200002,.var (Qe v3))] (Gives (.i .i64 r) [(200000,.var (Qd v1)),(200001,.var (Qi v2)),(200002,.var (Qe v3))]):=by
 refine Qc.walk 9 Tryz.func129 rfl Tryz.ntmps129 rfl fun C hC=>?_
 unfold Qgq at h
 obtain⟨x5,hx5,h⟩:=Qb h
 refine Qa hC [.n 7,.v .no [] (.agg (Qd v1)),.n 3,.o (.c false [.d,.d,.d] (.i .i64 x5)),.n 4,.keep [3] [200000,200001,200002]] rfl ⟨⟨tt_,rfl⟩,(Ql4 _ _ _ hx5)⟩ ?_
 cases h
 exact AK.done (ex_ [_] (an_ (an_ rfl tt_) (gives ⟨rfl,rfl,rfl,tt_⟩)))
def Qdt (v1:TNet)(v2:Qr)(v3:Int)(v4:Int):Option (Bool×Int):=
 (Qgq v1 v2 v3).bind fun x7=>
 some ((x7==0),x7)
theorem Qmz (v1:TNet)(v2:Qr)(v3:Int)(v4:Int){r:(Bool×Int)}(h:Qdt v1 v2 v3 v4=some r):Qc Tryz.prog 170 [.loc 200000 0 0,.loc 200004 0 0] [(200000,.var [.clo (.func 129) [] [.loc 200001 0 0,.loc 200002 0 0,.loc 200003 0 0]]),(200001,.var (Qd v1)),(200002,.var (Qi v2)),(200003,.var (Qe v3)),(200004,.var [.loc 200005 0 0]),(200005,.var (Qe v4))] (Gives (.b r.1) [(200000,.var [.clo (.func 129) [] [.loc 200001 0 0,.loc 200002 0 0,.loc 200003 0 0]]),(200001,.var (Qd v1)),(200002,.var (Qi v2)),(200003,.var (Qe v3)),(200004,.var [.loc 200005 0 0]),(200005,.var (Qe r.2))]):=by
 refine Qc.walk 11 Tryz.func170 rfl Tryz.ntmps170 rfl fun C hC=>?_
 unfold Qdt at h
 obtain⟨x7,hx7,h⟩:=Qb h
 refine Qa hC [.n 6,.keep [0,1] [200000,200001,200002,200003,200004,200005]] rfl tt_ ?_
 refine AK.draw2 Qp hC mixed [.a .no none false,.a .no none false,.a (.any (.i .i64 x7) none) none false,.a .no none false,.m .s] [] [] [1] [200000,200001,200002,200003,200004,200005] rfl rfl rfl ⟨tt_,(fun σ h1 h2 _=>Stp.callSame (md:=.cm (.clo) [(200000,200001),(200001,200002),(200002,200003)] [(200001,200000),(200002,200001),(200003,200002)] [] [.d,.d,.d] [(200000,.var (Qd v1)),(200001,.var (Qi v2)),(200002,.var (Qe v3))] (.i .i64 x7) [200001,200002,200003]) Qp hC h1 h2 rfl ⟨⟨tt_,(QoY _ _ _ hx7)⟩,⟨rfl,rfl,rfl,tt_⟩⟩)⟩ rfl (by kernel_rfl) rfl rfl rfl ?_
 refine Qa hC [.sayO 200005 (.var (Qe x7)),.n 11,.keep [2] [200000,200001,200002,200003,200004,200005]] rfl ⟨tt_,rfl⟩ ?_
 cases h
 exact AK.done (ex_ [_] (an_ (an_ rfl tt_) (gives ⟨rfl,rfl,rfl,rfl,rfl,rfl,tt_⟩)))
def Qgr (v1:TNet)(v2:Qr)(v3:Int):Option Int:=
 (Qgp v1 v2.Outs v3).bind fun x5=>
 some x5
theorem QoZ (v1:TNet)(v2:Qr)(v3:Int){r:Int}(h:Qgr v1 v2 v3=some r):Qc Tryz.prog 131 [.loc 200000 0 0,.loc 200001 0 0,.loc 200002 0 0] [(200000,.var (Qd v1)),(200001,.var (Qi v2)),(200002,.var (Qe v3))] (Gives (.i .i64 r) [(200000,.var (Qd v1)),(200001,.var (Qi v2)),(200002,.var (Qe v3))]):=by
 refine Qc.walk 9 Tryz.func131 rfl Tryz.ntmps131 rfl fun C hC=>?_
 unfold Qgr at h
 obtain⟨x5,hx5,h⟩:=Qb h
 refine Qa hC [.n 7,.v .no [] (.agg (Qd v1)),.n 3,.o (.c false [.d,.d,.d] (.i .i64 x5)),.n 4,.keep [3] [200000,200001,200002]] rfl ⟨⟨tt_,rfl⟩,(Ql4 _ _ _ hx5)⟩ ?_
 cases h
 exact AK.done (ex_ [_] (an_ (an_ rfl tt_) (gives ⟨rfl,rfl,rfl,tt_⟩)))
def Qdu (v1:TNet)(v2:Qr)(v3:Int)(v4:Int):Option (Bool×Int):=
 (Qgr v1 v2 v3).bind fun x7=>
 some ((x7==0),x7)
theorem QmA (v1:TNet)(v2:Qr)(v3:Int)(v4:Int){r:(Bool×Int)}(h:Qdu v1 v2 v3 v4=some r):Qc Tryz.prog 170 [.loc 200000 0 0,.loc 200004 0 0] [(200000,.var [.clo (.func 131) [] [.loc 200001 0 0,.loc 200002 0 0,.loc 200003 0 0]]),(200001,.var (Qd v1)),(200002,.var (Qi v2)),(200003,.var (Qe v3)),(200004,.var [.loc 200005 0 0]),(200005,.var (Qe v4))] (Gives (.b r.1) [(200000,.var [.clo (.func 131) [] [.loc 200001 0 0,.loc 200002 0 0,.loc 200003 0 0]]),(200001,.var (Qd v1)),(200002,.var (Qi v2)),(200003,.var (Qe v3)),(200004,.var [.loc 200005 0 0]),(200005,.var (Qe r.2))]):=by
 refine Qc.walk 11 Tryz.func170 rfl Tryz.ntmps170 rfl fun C hC=>?_
 unfold Qdu at h
 obtain⟨x7,hx7,h⟩:=Qb h
 refine Qa hC [.n 6,.keep [0,1] [200000,200001,200002,200003,200004,200005]] rfl tt_ ?_
 refine AK.draw2 Qp hC mixed [.a .no none false,.a .no none false,.a (.any (.i .i64 x7) none) none false,.a .no none false,.m .s] [] [] [1] [200000,200001,200002,200003,200004,200005] rfl rfl rfl ⟨tt_,(fun σ h1 h2 _=>Stp.callSame (md:=.cm (.clo) [(200000,200001),(200001,200002),(200002,200003)] [(200001,200000),(200002,200001),(200003,200002)] [] [.d,.d,.d] [(200000,.var (Qd v1)),(200001,.var (Qi v2)),(200002,.var (Qe v3))] (.i .i64 x7) [200001,200002,200003]) Qp hC h1 h2 rfl ⟨⟨tt_,(QoZ _ _ _ hx7)⟩,⟨rfl,rfl,rfl,tt_⟩⟩)⟩ rfl (by kernel_rfl) rfl rfl rfl ?_
 refine Qa hC [.sayO 200005 (.var (Qe x7)),.n 11,.keep [2] [200000,200001,200002,200003,200004,200005]] rfl ⟨tt_,rfl⟩ ?_
 cases h
 exact AK.done (ex_ [_] (an_ (an_ rfl tt_) (gives ⟨rfl,rfl,rfl,rfl,rfl,rfl,tt_⟩)))
def Qc2 (v1:TNet)(v2:Int):Option Bool:=
 (Qac v1.Places v2).bind fun x4=>
 some x4
theorem Qml (v1:TNet)(v2:Int){r:Bool}(h:Qc2 v1 v2=some r):Qc Tryz.prog 187 [.loc 200000 0 0,.loc 200001 0 0] [(200000,.var (Qd v1)),(200001,.var (Qe v2))] (Gives (.b r) [(200000,.var (Qd v1)),(200001,.var (Qe v2))]):=by
 refine Qc.walk 7 Tryz.func187 rfl Tryz.ntmps187 rfl fun C hC=>?_
 unfold Qc2 at h
 obtain⟨x4,hx4,h⟩:=Qb h
 refine Qa hC [.n 10,.o (.c false [.d,.d] (.b x4)),.n 4,.keep [2] [200000,200001]] rfl ⟨tt_,(Qbj _ _ hx4)⟩ ?_
 cases h
 exact AK.done (ex_ [_] (an_ (an_ rfl tt_) (gives ⟨rfl,rfl,tt_⟩)))
def Qc3 (v1:(List Int))(v2:Int)(v3:Int):Option Bool:=
 (chk (decide (0≤v2)&&decide (0≤v2.toNat)&&decide (v2.toNat≤v1.length))).bind fun _=>
 (Qaz ((v1.drop 0).take (v2.toNat-0)) v3).bind fun x6=>
 some (!x6)
theorem Qmm (v1:(List Int))(v2:Int)(v3:Int){r:Bool}(h:Qc3 v1 v2 v3=some r):Qc Tryz.prog 188 [.loc 200000 0 0,.loc 200001 0 0,.loc 200002 0 0] [(200000,.var (Qw v1)),(200001,.var (Qe v2)),(200002,.var (Qe v3))] (Gives (.b r) [(200000,.var (Qw v1)),(200001,.var (Qe v2)),(200002,.var (Qe v3))]):=by
 refine Qc.walk 10 Tryz.func188 rfl Tryz.ntmps188 rfl fun C hC=>?_
 unfold Qc3 at h
 obtain⟨_,hk5,h⟩:=Qb h
 replace hk5:=chkE hk5
 obtain⟨x6,hx6,h⟩:=Qb h
 refine Qa hC [.n 6,.keep [0,1,2,3] [200000,200001,200002]] rfl tt_ ?_
 refine AK.draw2 Qp hC mixed [.a .no none false,.a .no none false,.a (.any (.sl 1 (((v1.drop 0).take (v2.toNat-0)).map Qe)) none) none false,.a .no none false,.a (.c false [.d,.d] (.b x6)) none false,.a .no none false,.m .s] [] [] [3] [200000,200001,200002] rfl rfl rfl ⟨⟨tt_,(fun σ h1 h2 _=>Stp.sliceD rfl rfl (bleN hC.n rfl) (h1 _ _ rfl) (Qp.es rfl) Bnd.no (Bnd.val (h1 _ _ rfl) (of_decide_eq_true (QnU hk5)) rfl) (of_decide_eq_true (QnV hk5)) (Nat.le_trans (of_decide_eq_true (QnW hk5)) (Nat.le_of_eq Qg.symm)) Qp3)⟩,(Qgb _ _ hx6)⟩ rfl (by kernel_rfl) rfl rfl rfl ?_
 refine Qa hC [.n 2,.keep [3] [200000,200001,200002]] rfl tt_ ?_
 cases h
 exact AK.done (ex_ [_] (an_ (an_ rfl tt_) (gives ⟨rfl,rfl,rfl,tt_⟩)))
def QeV (v1:TNet)(v2:Int)(v3:Int)(v4:(List Int))(v5:Int)(v6:Int):Option Int:=
 (Qc2 v1 v2).bind fun x9=>
 bif (!x9)then
 some v3
 else
 (Qc3 v4 v5 v2).bind fun x11=>
 bif (!x11)then
 some v6
 else
 some 0
theorem QnA (v1:TNet)(v2:Int)(v3:Int)(v4:(List Int))(v5:Int)(v6:Int){r:Int}(h:QeV v1 v2 v3 v4 v5 v6=some r):Qc Tryz.prog 57 [.own 200000 2] [(200000,.var [.clo (.func 187) [] [.loc 200001 0 0,.loc 200002 0 0],.i .i64 v3,.clo (.func 188) [] [.loc 200003 0 0,.loc 200004 0 0,.loc 200002 0 0],.i .i64 v6]),(200001,.var (Qd v1)),(200002,.var (Qe v2)),(200003,.var (Qw v4)),(200004,.var (Qe v5))] (Gives (.i .i64 r) [(200000,.var [.clo (.func 187) [] [.loc 200001 0 0,.loc 200002 0 0],.i .i64 v3,.clo (.func 188) [] [.loc 200003 0 0,.loc 200004 0 0,.loc 200002 0 0],.i .i64 v6]),(200001,.var (Qd v1)),(200002,.var (Qe v2)),(200003,.var (Qw v4)),(200004,.var (Qe v5))]):=by
 refine Qc.walk 18 Tryz.func57 rfl Tryz.ntmps57 rfl fun C hC=>?_
 unfold QeV at h
 refine Qa hC [.n 14] rfl tt_ ?_
 refine AK.loopN 3 (AK.rnd ?_)
 obtain⟨x9,hx9,h⟩:=Qb h
 refine Qa hC [.n 2,.v .no [] (.b true),.n 10,.o (.any (.loc 200000 0 0) none),.n 3,.sayO 4 (.var [.clo (.func 187) [] [.loc 200001 0 0,.loc 200002 0 0],.i .i64 v3]),.n 6,.cm (.clo) [(200000,200001),(200001,200002)] [(200001,200000),(200002,200001)] [] [.d,.d] [(200000,.var (Qd v1)),(200001,.var (Qe v2))] (.b x9),.n 3] rfl ⟨⟨⟨⟨tt_,rfl⟩,(fun σ h1 h2 _=>Stp.idxV rfl rfl (bleN hC.n rfl) (h1 _ _ rfl) (h1 _ _ rfl) (Qp.es rfl) (h2 _ _ rfl) (by decide))⟩,rfl⟩,(Qml _ _ hx9)⟩ ?_
 rcases bifE h with⟨hc10,h⟩|⟨hc10,h⟩
 ·refine Qa hC [.br true,.n 13,.keep [2] [200000,200001,200002,200003,200004]] rfl ⟨tt_,hc10⟩ ?_
  cases h
  exact AK.done (ex_ [_] (an_ (an_ rfl tt_) (gives ⟨rfl,rfl,rfl,rfl,rfl,tt_⟩)))
 ·refine Qa hC [.br false,.n 4,.v .no [] (.i .i64 1),.n 2] rfl ⟨⟨tt_,hc10⟩,rfl⟩ ?_
  refine AK.met (AK.rnd ?_)
  obtain⟨x11,hx11,h⟩:=Qb h
  refine Qa hC [.n 2,.v .no [] (.b true),.n 10,.o (.any (.loc 200000 0 2) none),.n 1,.kill 4,.n 2,.sayO 4 (.var [.clo (.func 188) [] [.loc 200003 0 0,.loc 200004 0 0,.loc 200002 0 0],.i .i64 v6]),.n 6,.cm (.clo) [(200000,200003),(200001,200004),(200002,200002)] [(200003,200000),(200004,200001),(200002,200002)] [] [.d,.d,.d] [(200000,.var (Qw v4)),(200001,.var (Qe v5)),(200002,.var (Qe v2))] (.b x11),.n 3] rfl ⟨⟨⟨⟨tt_,rfl⟩,(fun σ h1 h2 _=>Stp.idxV rfl rfl (bleN hC.n rfl) (h1 _ _ rfl) (h1 _ _ rfl) (Qp.es rfl) (h2 _ _ rfl) (by decide))⟩,rfl⟩,(Qmm _ _ _ hx11)⟩ ?_
  rcases bifE h with⟨hc12,h⟩|⟨hc12,h⟩
  ·refine Qa hC [.br true,.n 13,.keep [2] [200000,200001,200002,200003,200004]] rfl ⟨tt_,hc12⟩ ?_
   cases h
   exact AK.done (ex_ [_] (an_ (an_ rfl tt_) (gives ⟨rfl,rfl,rfl,rfl,rfl,tt_⟩)))
  ·refine Qa hC [.br false,.n 4,.v .no [] (.i .i64 2),.n 2] rfl ⟨⟨tt_,hc12⟩,rfl⟩ ?_
   refine AK.met (AK.rnd ?_)
   refine Qa hC [.n 2,.v .no [] (.b false),.n 15,.keep [2] [200000,200001,200002,200003,200004]] rfl ⟨tt_,rfl⟩ ?_
   cases h
   exact AK.done (ex_ [_] (an_ (an_ rfl tt_) (gives ⟨rfl,rfl,rfl,rfl,rfl,tt_⟩)))
def Qd3 (k1:Int)(place2:Int)(v3:TNet)(v4:(List Int)):Option Int:=
 (QeV v3 place2 3 v4 k1 5).bind fun x6=>
 some x6
theorem Qne (k1:Int)(place2:Int)(v3:TNet)(v4:(List Int)){r:Int}(h:Qd3 k1 place2 v3 v4=some r):Qc Tryz.prog 186 [.i .i64 k1,.i .i64 place2,.loc 200000 0 0,.loc 200001 0 0] [(200000,.var (Qd v3)),(200001,.var (Qw v4))] (Gives (.i .i64 r) [(200000,.var (Qd v3)),(200001,.var (Qw v4))]):=by
 refine Qc.walk 13 Tryz.func186 rfl Tryz.ntmps186 rfl fun C hC=>?_
 unfold Qd3 at h
 obtain⟨x6,hx6,h⟩:=Qb h
 refine Qa hC [.n 10,.v .no [] (.agg [.clo (.func 187) [] [.loc 200000 0 0,.loc 5 0 0],.i .i64 3]),.n 1,.v .no [] (.agg [.clo (.func 188) [] [.loc 200001 0 0,.loc 4 0 0,.loc 5 0 0],.i .i64 5]),.o (.any (.own 11 2) (some (.var [.clo (.func 187) [] [.loc 200000 0 0,.loc 5 0 0],.i .i64 3,.clo (.func 188) [] [.loc 200001 0 0,.loc 4 0 0,.loc 5 0 0],.i .i64 5]))),.cm (.fn) [(200000,11),(200001,200000),(200002,5),(200003,200001),(200004,4)] [(11,200000),(200000,200001),(5,200002),(200001,200003),(4,200004)] [] [.d] [(200000,.var [.clo (.func 187) [] [.loc 200001 0 0,.loc 200002 0 0],.i .i64 3,.clo (.func 188) [] [.loc 200003 0 0,.loc 200004 0 0,.loc 200002 0 0],.i .i64 5]),(200001,.var (Qd v3)),(200002,.var (Qe place2)),(200003,.var (Qw v4)),(200004,.var (Qe k1))] (.i .i64 x6),.n 4,.keep [6] [200000,200001]] rfl ⟨⟨⟨⟨tt_,rfl⟩,rfl⟩,(fun σ h1 h2 hf=>Stp.buildAny rfl rfl (bleN hC.n rfl) (Qp.es rfl) Qkt rfl (by decide) (by decide) (Qeu h1 rfl) rfl rfl (hf rfl))⟩,(QnA _ _ _ _ _ _ hx6)⟩ ?_
 cases h
 exact AK.done (ex_ [_] (an_ (an_ rfl tt_) (gives ⟨rfl,rfl,tt_⟩)))
def Qb1 (l1:(List Int))(v2:TNet)(v3:(List Int))(x8:Int):Option (Int⊕((Int×Int)⊕Unit)):=
 bif (decide (x8<(l1.length:Int)))then
 (idx l1 x8).bind fun e13=>
 (Qd3 x8 e13 v2 v3).bind fun x14=>
 bif (x14 != 0)then
 some (.inr (.inl (x8,x14)))
 else
 some (.inl (w64 (x8+1)))
 else
 some (.inr (.inr ()))
def Qc4 (x10:Int)(x11:Int):Option (Int×Int):=
 some (x10,x11)
def Qc5 : Option (Int×Int):=
 some (0,0)
def QeW (l1:(List Int))(v2:TNet)(v3:(List Int)):Option (Int×Int):=
 (QF (fun st=>Qb1 l1 v2 v3 st) 0).bind (Sum.elim (fun q=>Qc4 q.1 q.2) (fun q=>Qc5))
theorem QnB (l1:(List Int))(v2:TNet)(v3:(List Int)){r:(Int×Int)}(h:QeW l1 v2 v3=some r):Qc Tryz.prog 185 [.sl 1 (l1.map Qe),.clo (.func 186) [] [.loc 200000 0 0,.loc 200001 0 0]] [(200000,.var (Qd v2)),(200001,.var (Qw v3))] (Gives (.tup [.i .i64 r.1,.i .i64 r.2]) [(200000,.var (Qd v2)),(200001,.var (Qw v3))]):=by
 refine Qc.walk 25 Tryz.func185 rfl Tryz.ntmps185 rfl fun C hC=>?_
 unfold QeW at h
 refine Qa hC [.n 10,.o (.ln l1.length),.n 4,.keep [1,9,10,11] [200000,200001]] rfl ⟨tt_,Qg⟩ ?_
 obtain⟨o16,hl16,h⟩:=Qb h
 refine AK.loop (body:=(fun st=>Qb1 l1 v2 v3 st)) (fun st σ=>σ=⟨[(1,.clo (.func 186) [] [.loc 200000 0 0,.loc 200001 0 0]),(9,.sl 1 (l1.map Qe)),(10,.i .i64 (l1.length:Int)),(11,.i .i64 st)],[(200000,.var (Qd v2)),(200001,.var (Qw v3))]⟩) (Sum.elim (fun q e σ=>e=.ret∧σ=⟨[(4,.i .i64 q.1),(5,.i .i64 q.2)],[(200000,.var (Qd v2)),(200001,.var (Qw v3))]⟩) (fun q e σ=>e=.exit 0∧σ=⟨[],[(200000,.var (Qd v2)),(200001,.var (Qw v3))]⟩)) hl16 rfl ?_ ?_
 ·rintro x8 o σ rfl h
  replace h:Qb1 l1 v2 v3 x8=some o:=h
  unfold Qb1 at h
  refine Qa hC [.n 6] rfl tt_ ?_
  rcases bifE h with⟨hc12,h⟩|⟨hc12,h⟩
  ·obtain⟨e13,he13,h⟩:=Qb h
   obtain⟨x14,hx14,h⟩:=Qb h
   refine Qa hC [.br true,.n 7,.o (.row (Qe e13)),.n 10,.cm (.clo) [(200000,200000),(200001,200001)] [(200000,200000),(200001,200001)] [] [.d,.d,.d,.d] [(200000,.var (Qd v2)),(200001,.var (Qw v3))] (.i .i64 x14),.n 9] rfl ⟨⟨⟨tt_,hc12⟩,(idxM he13)⟩,(Qne _ _ _ _ hx14)⟩ ?_
   rcases bifE h with⟨hc15,h⟩|⟨hc15,h⟩
   ·refine Qa hC [.br true,.n 11,.keep [4,5] [200000,200001]] rfl ⟨tt_,hc15⟩ ?_
    cases h
    exact rndR rfl (an_ rfl rfl)
   ·refine Qa hC [.br false,.n 7,.keep [1,9,10,11] [200000,200001]] rfl ⟨tt_,hc15⟩ ?_
    cases h
    exact rndN rfl rfl
  ·refine Qa hC [.br false,.n 2,.keep [] [200000,200001]] rfl ⟨tt_,hc12⟩ ?_
   cases h
   exact rndX rfl (an_ rfl rfl)
 ·rcases o16 with(⟨x10,x11⟩|_)
  ·replace h:Qc4 x10 x11=some r:=h
   unfold Qc4 at h
   rintro e σ ⟨rfl,rfl⟩
   refine Qa hC [.n 2,.keep [4,5] [200000,200001]] rfl tt_ ?_
   cases h
   exact AK.done (ex_ [_,_] (an_ (an_ rfl (an_ rfl tt_)) (gives ⟨rfl,rfl,tt_⟩)))
  ·replace h:Qc5=some r:=h
   unfold Qc5 at h
   rintro e σ ⟨rfl,rfl⟩
   refine Qa hC [.n 9,.keep [4,5] [200000,200001]] rfl tt_ ?_
   cases h
   exact AK.done (ex_ [_,_] (an_ (an_ rfl (an_ rfl tt_)) (gives ⟨rfl,rfl,tt_⟩)))
def QfC (n1:TNet)(l2:(List Int)):Option Int:=
 (QeW l2 n1 l2).bind fun x4=>
 some x4.2
theorem Qod (n1:TNet)(l2:(List Int)){r:Int}(h:QfC n1 l2=some r):Qc Tryz.prog 133 [.agg (Qd n1),.sl 1 (l2.map Qe)] [] (Gives (.i .i64 r) []):=by
 refine Qc.walk 14 Tryz.func133 rfl Tryz.ntmps133 rfl fun C hC=>?_
 unfold QfC at h
 obtain⟨x4,hx4,h⟩:=Qb h
 refine Qa hC [.n 11,.cm (.fn) [(200000,2),(200001,3)] [(2,200000),(3,200001)] [] [.d,.d] [(200000,.var (Qd n1)),(200001,.var (Qw l2))] (.tup [.i .i64 x4.1,.i .i64 x4.2]),.n 14,.keep [4] []] rfl ⟨tt_,(QnB _ _ _ hx4)⟩ ?_
 cases h
 exact AK.done (ex_ [_] (an_ (an_ rfl tt_) (gives tt_)))
def QfD (v1:TNet)(v2:Qr):Option Int:=
 (QfC v1 v2.Cancel).bind fun x4=>
 some x4
theorem Qoe (v1:TNet)(v2:Qr){r:Int}(h:QfD v1 v2=some r):Qc Tryz.prog 132 [.loc 200000 0 0,.loc 200001 0 0] [(200000,.var (Qd v1)),(200001,.var (Qi v2))] (Gives (.i .i64 r) [(200000,.var (Qd v1)),(200001,.var (Qi v2))]):=by
 refine Qc.walk 7 Tryz.func132 rfl Tryz.ntmps132 rfl fun C hC=>?_
 unfold QfD at h
 obtain⟨x4,hx4,h⟩:=Qb h
 refine Qa hC [.n 7,.v .no [] (.agg (Qd v1)),.n 2,.o (.c false [.d,.d] (.i .i64 x4)),.n 4,.keep [2] [200000,200001]] rfl ⟨⟨tt_,rfl⟩,(Qod _ _ hx4)⟩ ?_
 cases h
 exact AK.done (ex_ [_] (an_ (an_ rfl tt_) (gives ⟨rfl,rfl,tt_⟩)))

end Go.Proofs
