/- What functions of the program do, as functions over plain data, and the walks that show it: printed by a program. -/
import Derived.Test.YtpijolohkdchcaaGreatDoorT1
set_option linter.unusedVariables false
set_option linter.unusedSimpArgs false
set_option linter.unusedSectionVars false
set_option linter.deprecated false
set_option maxRecDepth 100000
set_option maxHeartbeats 4000000
noncomputable section
namespace Go.Proofs
open Go Go.RowKit Go.Vm
def QcB (x13:Int)(l19:(List (List (Int×Int)))):Option ((Int×(List (List (Int×Int))))⊕(List (List (Int×Int)))):=
 some (.inl ((w64 (x13+1)),l19))
def QcC (e11:Qr)(x13:Int)(l14:(List (List (Int×Int)))):Option ((Int×(List (List (Int×Int))))⊕(List (List (Int×Int)))):=
 bif (decide (x13<(e11.Cancel.length:Int)))then
 (idx e11.Cancel x13).bind fun e20=>
 bif ((decide (0≤e20))&&(decide (e20<(l14.length:Int))))then
 (idx l14 e20).bind fun e24=>
 QcB x13 (l14.set e20.toNat ([]:List (Int×Int)))
 else
 QcB x13 l14
 else
 some (.inr l14)
def Qds (x8:((List (List (Int×Int)))×Int))(l17:(List (List (Int×Int)))):Option ((List (List (Int×Int)))×Int):=
 (QbN l17 x8.1).bind fun x26=>
 some (x26.1,x26.2)
def Qew (n1:TNet)(m2:(List (List (Int×Int))))(o3:Qk):Option ((List (List (Int×Int)))×Int):=
 (Qh7 n1 o3).bind fun x8=>
 bif (x8.2 != 0)then
 some (([]:List (List (Int×Int))),x8.2)
 else
 (Qhr m2).bind fun x10=>
 (idx n1.Tasks o3.Task).bind fun e11=>
 (QE (fun st=>QcC e11 st.1 st.2) (0,x10)).bind (fun q=>Qds x8 q)
theorem Qq5 (n1:TNet)(m2:(List (List (Int×Int))))(o3:Qk){r:((List (List (Int×Int)))×Int)}(h:Qew n1 m2 o3=some r):Qc Tryz.prog 12 [.agg (Qd n1),.sl 1 (m2.map Qg),.agg (Qj o3)] [] (Gives (.tup [.sl 1 (r.1.map Qg),.i .i64 r.2]) []):=by
 refine Qc.walk 53 Tryz.func12 rfl Tryz.ntmps12 rfl fun C hC=>?_
 unfold Qew at h
 obtain⟨x8,hx8,h⟩:=Qb h
 refine Qa hC [.n 10,.v .no [] (.agg (Qd n1)),.v .no [] (.agg (Qj o3)),.o (.c false [.d,.d] (.tup [.sl 1 (x8.1.map Qg),.i .i64 x8.2])),.n 14] rfl ⟨⟨⟨tt_,rfl⟩,rfl⟩,(Qqv _ _ hx8)⟩ ?_
 rcases bifE h with⟨hc9,h⟩|⟨hc9,h⟩
 ·refine Qa hC [.br true,.n 9,.denil 6 [some 1],.keep [6,7] []] rfl ⟨tt_,hc9⟩ ?_
  cases h
  exact AK.done (ex_ [_,_] (an_ (an_ rfl (an_ rfl tt_)) (gives tt_)))
 ·obtain⟨x10,hx10,h⟩:=Qb h
  obtain⟨e11,he11,h⟩:=Qb h
  refine Qa hC [.br false,.n 5,.o (.co false [.d] 1 (x10.map Qg) x10.length),.n 10,.o (.row (Qi e11)),.n 2,.o (.ln e11.Cancel.length),.n 4,.keep [8,10,30,31,32] [23]] rfl ⟨⟨⟨⟨tt_,hc9⟩,⟨(QmO _ hx10),Qh,.inl rfl⟩⟩,(idxM he11)⟩,Qh⟩ ?_
  obtain⟨l17,hl25,h⟩:=Qb h
  refine AK.loop (body:=(fun st=>QcC e11 st.1 st.2)) (fun st σ=>σ=⟨[(8,.sl 1 (x8.1.map Qg)),(10,.own 23 st.2.length),(30,.sl 1 (e11.Cancel.map Qe)),(31,.i .i64 (e11.Cancel.length:Int)),(32,.i .i64 st.1)],[(23,.arr 1 (st.2.map Qg))]⟩) (fun q e σ=>e=.exit 0∧σ=⟨[(8,.sl 1 (x8.1.map Qg)),(10,.own 23 q.length)],[(23,.arr 1 (q.map Qg))]⟩) hl25 rfl ?_ ?_
  ·rintro ⟨x13,l14⟩ o σ rfl h
   replace h:QcC e11 x13 l14=some o:=h
   unfold QcC at h
   refine Qa hC [.n 6] rfl tt_ ?_
   rcases bifE h with⟨hc18,h⟩|⟨hc18,h⟩
   ·refine Qa hC [.br true,.n 2] rfl ⟨tt_,hc18⟩ ?_
    refine AK.meet (fun σ=>∃l19:(List (List (Int×Int))),σ=⟨[(8,.sl 1 (x8.1.map Qg)),(10,.own 23 l19.length),(30,.sl 1 (e11.Cancel.map Qe)),(31,.i .i64 (e11.Cancel.length:Int)),(32,.i .i64 x13)],[(23,.arr 1 (l19.map Qg))]⟩∧QcB x13 l19=some o) ?_ ?_
    ·obtain⟨e20,he20,h⟩:=Qb h
     refine Qa hC [.n 3,.o (.row (Qe e20)),.n 5] rfl ⟨tt_,(idxM he20)⟩ ?_
     refine AK.meetX (fun σ=>σ=⟨[(8,.sl 1 (x8.1.map Qg)),(10,.own 23 l14.length),(12,.i .i64 e20),(30,.sl 1 (e11.Cancel.map Qe)),(31,.i .i64 (e11.Cancel.length:Int)),(32,.i .i64 x13),(43,.b ((decide (0≤e20))&&(decide (e20<(l14.length:Int)))))],[(23,.arr 1 (l14.map Qg))]⟩) ?_ ?_
     ·refine Qa hC [.n 4] rfl tt_ ?_
      rcases QK (decide (0≤e20))with hc22 | hc22
      ·refine Qa hC [.say 38 (.b true),.n 6,.say 43 (.b ((decide (0≤e20))&&(decide (e20<(l14.length:Int))))),.keep [8,10,12,30,31,32,43] [23]] rfl ⟨⟨tt_,(congrArg V.b hc22)⟩,(congrArg V.b (andT hc22 rfl))⟩ ?_
       exact AK.met rfl
      ·refine Qa hC [.say 38 (.b false),.n 6,.say 43 (.b ((decide (0≤e20))&&(decide (e20<(l14.length:Int))))),.keep [8,10,12,30,31,32,43] [23]] rfl ⟨⟨tt_,(congrArg V.b hc22)⟩,(congrArg V.b (andF hc22 rfl))⟩ ?_
       exact AK.met rfl
     ·rintro σ rfl
      refine Qa hC [.n 1] rfl tt_ ?_
      rcases bifE h with⟨hc23,h⟩|⟨hc23,h⟩
      ·obtain⟨e24,he24,h⟩:=Qb h
       refine Qa hC [.br true,.n 4,.x (fun σ=>σ.set 23 (.arr 1 ((l14.set e20.toNat ([]:List (Int×Int))).map Qg))),.n 2,.say 10 (.own 23 (l14.set e20.toNat ([]:List (Int×Int))).length),.keep [8,10,30,31,32] [23]] rfl ⟨⟨⟨⟨tt_,hc23⟩,(Qdc he24 rfl)⟩,(Stp.storeNil (zz:=2) (r:=Qg e24) rfl rfl rfl rfl (QbJ (idxE he24).2) rfl (Qo.sz rfl) rfl (QjB rfl))⟩,(congrArg (fun n=>V.own 23 n) (by simp))⟩ ?_
       exact AK.met (ex_ _ (an_ rfl h))
      ·refine Qa hC [.br false,.n 2,.keep [8,10,30,31,32] [23]] rfl ⟨tt_,hc23⟩ ?_
       exact AK.met (ex_ _ (an_ rfl h))
    ·rintro σ ⟨l19,rfl,h⟩
     unfold QcB at h
     refine Qa hC [.n 4,.keep [8,10,30,31,32] [23]] rfl tt_ ?_
     cases h
     exact rndN rfl rfl
   ·refine Qa hC [.br false,.n 2,.keep [8,10] [23]] rfl ⟨tt_,hc18⟩ ?_
    cases h
    exact rndX rfl (an_ rfl rfl)
  ·replace h:Qds x8 l17=some r:=h
   unfold Qds at h
   rintro e σ ⟨rfl,rfl⟩
   obtain⟨x26,hx26,h⟩:=Qb h
   refine Qa hC [.n 6,.frz 23 (l17.map Qg) [10,48] [],.cm (.fn) [] [] [] [.d,.d,.d] [] (.tup [.sl 1 (x26.1.map Qg),.i .i64 x26.2]),.n 7,.keep [6,7] []] rfl ⟨⟨tt_,⟨⟨tt_,(frzL Qh)⟩,(frzL Qh)⟩⟩,(Qko _ _ hx26)⟩ ?_
   cases h
   exact AK.done (ex_ [_,_] (an_ (an_ rfl (an_ rfl tt_)) (gives tt_)))
def QbO (n1:TNet)(m2:(List (List (Int×Int))))(o3:Qk):Option ((List (List (Int×Int)))×Int):=
 (Qck n1 m2 o3).bind fun x8=>
 bif (x8.2 != 0)then
 some (([]:List (List (Int×Int))),x8.2)
 else
 (Qew n1 x8.1 o3).bind fun x10=>
 some (x10.1,x10.2)
theorem Qh8 (n1:TNet)(m2:(List (List (Int×Int))))(o3:Qk){r:((List (List (Int×Int)))×Int)}(h:QbO n1 m2 o3=some r):Qc Tryz.prog 16 [.agg (Qd n1),.sl 1 (m2.map Qg),.agg (Qj o3)] [] (Gives (.tup [.sl 1 (r.1.map Qg),.i .i64 r.2]) []):=by
 refine Qc.walk 26 Tryz.func16 rfl Tryz.ntmps16 rfl fun C hC=>?_
 unfold QbO at h
 obtain⟨x8,hx8,h⟩:=Qb h
 refine Qa hC [.n 10,.v .no [] (.agg (Qd n1)),.n 1,.v .no [] (.agg (Qj o3)),.o (.c false [.d,.d,.d] (.tup [.sl 1 (x8.1.map Qg),.i .i64 x8.2])),.n 14] rfl ⟨⟨⟨tt_,rfl⟩,rfl⟩,(Qks _ _ _ hx8)⟩ ?_
 rcases bifE h with⟨hc9,h⟩|⟨hc9,h⟩
 ·refine Qa hC [.br true,.n 9,.denil 6 [some 1],.keep [6,7] []] rfl ⟨tt_,hc9⟩ ?_
  cases h
  exact AK.done (ex_ [_,_] (an_ (an_ rfl (an_ rfl tt_)) (gives tt_)))
 ·obtain⟨x10,hx10,h⟩:=Qb h
  refine Qa hC [.br false,.n 4,.v .no [] (.agg (Qd n1)),.n 1,.v .no [] (.agg (Qj o3)),.o (.c false [.d,.d,.d] (.tup [.sl 1 (x10.1.map Qg),.i .i64 x10.2])),.n 7,.keep [6,7] []] rfl ⟨⟨⟨⟨tt_,hc9⟩,rfl⟩,rfl⟩,(Qq5 _ _ _ hx10)⟩ ?_
  cases h
  exact AK.done (ex_ [_,_] (an_ (an_ rfl (an_ rfl tt_)) (gives tt_)))
def Qf3 (n1:TNet)(m2:(List (List (Int×Int))))(o3:Qk):Option ((List (List (Int×Int)))×Int):=
 (QcT n1 o3).bind fun x8=>
 bif (x8.2 != 0)then
 some (([]:List (List (Int×Int))),x8.2)
 else
 (QbN m2 x8.1).bind fun x10=>
 some (x10.1,x10.2)
theorem QmP (n1:TNet)(m2:(List (List (Int×Int))))(o3:Qk){r:((List (List (Int×Int)))×Int)}(h:Qf3 n1 m2 o3=some r):Qc Tryz.prog 14 [.agg (Qd n1),.sl 1 (m2.map Qg),.agg (Qj o3)] [] (Gives (.tup [.sl 1 (r.1.map Qg),.i .i64 r.2]) []):=by
 refine Qc.walk 24 Tryz.func14 rfl Tryz.ntmps14 rfl fun C hC=>?_
 unfold Qf3 at h
 obtain⟨x8,hx8,h⟩:=Qb h
 refine Qa hC [.n 10,.v .no [] (.agg (Qd n1)),.v .no [] (.agg (Qj o3)),.o (.c false [.d,.d] (.tup [.sl 1 (x8.1.map Qg),.i .i64 x8.2])),.n 14] rfl ⟨⟨⟨tt_,rfl⟩,rfl⟩,(QjU _ _ hx8)⟩ ?_
 rcases bifE h with⟨hc9,h⟩|⟨hc9,h⟩
 ·refine Qa hC [.br true,.n 9,.denil 6 [some 1],.keep [6,7] []] rfl ⟨tt_,hc9⟩ ?_
  cases h
  exact AK.done (ex_ [_,_] (an_ (an_ rfl (an_ rfl tt_)) (gives tt_)))
 ·obtain⟨x10,hx10,h⟩:=Qb h
  refine Qa hC [.br false,.n 6,.cm (.fn) [] [] [] [.d,.d,.d] [] (.tup [.sl 1 (x10.1.map Qg),.i .i64 x10.2]),.n 7,.keep [6,7] []] rfl ⟨⟨tt_,hc9⟩,(Qko _ _ hx10)⟩ ?_
  cases h
  exact AK.done (ex_ [_,_] (an_ (an_ rfl (an_ rfl tt_)) (gives tt_)))
def Qcs (l3:(List Qk))(n1:TNet)(m10:(List (List (Int×Int))))(x11:Int):Option (((List (List (Int×Int)))×Int)⊕(((List (List (Int×Int)))×Int)⊕(List (List (Int×Int))))):=
 bif (decide (x11<(l3.length:Int)))then
 (idx l3 x11).bind fun e18=>
 (QbO n1 m10 e18).bind fun x19=>
 bif (x19.2 != 0)then
 some (.inr (.inl (m10,x11)))
 else
 some (.inl (x19.1,(w64 (x11+1))))
 else
 some (.inr (.inr m10))
def Qk7 (x14:(List (List (Int×Int))))(x15:Int):Option ((List (List (Int×Int)))×Int):=
 some (x14,x15)
def Qk8 (l3:(List Qk))(m16:(List (List (Int×Int)))):Option ((List (List (Int×Int)))×Int):=
 some (m16,(l3.length:Int))
def Qis (n1:TNet)(m2:(List (List (Int×Int))))(l3:(List Qk)):Option ((List (List (Int×Int)))×Int):=
 (Qhr m2).bind fun x8=>
 (QE (fun st=>Qcs l3 n1 st.1 st.2) (x8,0)).bind (Sum.elim (fun q=>Qk7 q.1 q.2) (fun q=>Qk8 l3 q))
theorem QnJ (n1:TNet)(m2:(List (List (Int×Int))))(l3:(List Qk)){r:((List (List (Int×Int)))×Int)}(h:Qis n1 m2 l3=some r):Qc Tryz.prog 19 [.agg (Qd n1),.sl 1 (m2.map Qg),.sl 4 (l3.map Qj)] [] (Gives (.tup [.sl 1 (r.1.map Qg),.i .i64 r.2]) []):=by
 refine Qc.walk 37 Tryz.func19 rfl Tryz.ntmps19 rfl fun C hC=>?_
 unfold Qis at h
 obtain⟨x8,hx8,h⟩:=Qb h
 refine Qa hC [.n 10,.o (.co false [.d] 1 (x8.map Qg) x8.length),.n 7,.o (.ln l3.length),.n 4,.frz 13 (x8.map Qg) [1] [],.keep [1,2,3,14,15,16] [3]] rfl ⟨⟨⟨tt_,⟨(QmO _ hx8),Qh,.inl rfl⟩⟩,Qh⟩,⟨tt_,(frzL Qh)⟩⟩ ?_
 obtain⟨o21,hl21,h⟩:=Qb h
 refine AK.loop (body:=(fun st=>Qcs l3 n1 st.1 st.2)) (fun st σ=>σ=⟨[(1,.sl 1 (st.1.map Qg)),(2,.sl 4 (l3.map Qj)),(3,.loc 3 0 0),(14,.sl 4 (l3.map Qj)),(15,.i .i64 (l3.length:Int)),(16,.i .i64 st.2)],[(3,.var (Qd n1))]⟩) (Sum.elim (fun q e σ=>e=.ret∧σ=⟨[(6,.sl 1 (q.1.map Qg)),(7,.i .i64 q.2)],[]⟩) (fun q e σ=>e=.exit 0∧σ=⟨[(1,.sl 1 (q.map Qg)),(2,.sl 4 (l3.map Qj))],[]⟩)) hl21 rfl ?_ ?_
 ·rintro ⟨m10,x11⟩ o σ rfl h
  replace h:Qcs l3 n1 m10 x11=some o:=h
  unfold Qcs at h
  refine Qa hC [.n 6] rfl tt_ ?_
  rcases bifE h with⟨hc17,h⟩|⟨hc17,h⟩
  ·obtain⟨e18,he18,h⟩:=Qb h
   obtain⟨x19,hx19,h⟩:=Qb h
   refine Qa hC [.br true,.n 7,.o (.row (Qj e18)),.v .no [] (.agg (Qj e18)),.n 3,.sayO 9 (.var (Qj e18)),.n 4,.v .no [] (.agg (Qd n1)),.n 1,.v .no [] (.agg (Qj e18)),.o (.c false [.d,.d,.d] (.tup [.sl 1 (x19.1.map Qg),.i .i64 x19.2])),.n 14] rfl ⟨⟨⟨⟨⟨⟨⟨tt_,hc17⟩,(idxM he18)⟩,rfl⟩,rfl⟩,rfl⟩,rfl⟩,(Qh8 _ _ _ hx19)⟩ ?_
   rcases bifE h with⟨hc20,h⟩|⟨hc20,h⟩
   ·refine Qa hC [.br true,.n 12,.keep [6,7] []] rfl ⟨tt_,hc20⟩ ?_
    cases h
    exact rndR rfl (an_ rfl rfl)
   ·refine Qa hC [.br false,.n 12,.keep [1,2,3,14,15,16] [3]] rfl ⟨tt_,hc20⟩ ?_
    cases h
    exact rndN rfl rfl
  ·refine Qa hC [.br false,.n 2,.keep [1,2] []] rfl ⟨tt_,hc17⟩ ?_
   cases h
   exact rndX rfl (an_ rfl rfl)
 ·rcases o21 with(⟨x14,x15⟩|m16)
  ·replace h:Qk7 x14 x15=some r:=h
   unfold Qk7 at h
   rintro e σ ⟨rfl,rfl⟩
   refine Qa hC [.n 2,.keep [6,7] []] rfl tt_ ?_
   cases h
   exact AK.done (ex_ [_,_] (an_ (an_ rfl (an_ rfl tt_)) (gives tt_)))
  ·replace h:Qk8 l3 m16=some r:=h
   unfold Qk8 at h
   rintro e σ ⟨rfl,rfl⟩
   refine Qa hC [.n 6,.o (.ln l3.length),.n 5,.keep [6,7] []] rfl ⟨tt_,Qh⟩ ?_
   cases h
   exact AK.done (ex_ [_,_] (an_ (an_ rfl (an_ rfl tt_)) (gives tt_)))
def QjV (n1:TNet)(t2:Qr):Option (TNet×Qr):=
 some (n1,t2)
theorem Qos (n1:TNet)(t2:Qr){r:(TNet×Qr)}(h:QjV n1 t2=some r):Qc Tryz.prog 153 [.agg (Qd n1),.agg (Qi t2)] [] (Gives (.clo (.func 199) [] [.loc 3 0 0,.loc 2 0 0]) [(2,.var (Qd r.1)),(3,.var (Qi r.2))]):=by
 refine Qc.walk 6 Tryz.func153 rfl Tryz.ntmps153 rfl fun C hC=>?_
 unfold QjV at h
 refine Qa hC [.n 14,.keep [4] [2,3]] rfl tt_ ?_
 cases h
 exact AK.done (ex_ [_] (an_ (an_ rfl tt_) (gives ⟨rfl,rfl,tt_⟩)))
def QcM (s1:(List (List Int))):Option (List (List Int)):=
 (chk (decide (([]:List (List Int)).length+s1.length≤4294967296))).bind fun _=>
 some (([]:List (List Int))++s1)
theorem Qku (s1:(List (List Int))){r:(List (List Int))}(h:QcM s1=some r):Qc Tryz.prog 155 [.sl 1 (s1.map Qw)] [] (Gives (.own 30000 r.length) [(30000,.arr 1 (r.map Qw))]):=by
 refine Qc.walk 8 Tryz.func155 rfl Tryz.ntmps155 rfl fun C hC=>?_
 unfold QcM at h
 refine Qa hC [.n 9] rfl tt_ ?_
 refine AK.eqNil rfl rfl rfl (bleN hC.n rfl) rfl rfl Qvp ?_ ?_
 ·intro hz4
  replace h:some ([]:List (List Int))=some r:=by simpa [chk,List.map_eq_nil_iff.1 hz4] using h
  refine Qa hC [.n 10,.adopt 2 30000 1,.sayO 30000 (.arr 1 (([]:List (List Int)).map Qw)),.say 2 (.own 30000 ([]:List (List Int)).length),.keep [2] [30000]] rfl ⟨⟨tt_,rfl⟩,rfl⟩ ?_
  cases h
  exact AK.done (ex_ [_] (an_ (an_ rfl tt_) (gives ⟨rfl,tt_⟩)))
 ·obtain⟨_,hk5,h⟩:=Qb h
  replace hk5:=chkE hk5
  refine Qa hC [.n 8,.sayO 5 (.arr 1 (([]:List (List Int)).map Qw)),.say 5 (.own 5 ([]:List (List Int)).length),.n 1,.app ((([]:List (List Int))++s1).map Qw) (([]:List (List Int))++s1).length,.n 4,.keep [2] [5],.ren 5 30000,.keep [2] [30000]] rfl ⟨⟨⟨tt_,rfl⟩,rfl⟩,⟨Qh,QeL hk5 Qh,Qdm,QgU Qh⟩⟩ ?_
  cases h
  exact AK.done (ex_ [_] (an_ (an_ rfl tt_) (gives ⟨rfl,tt_⟩)))
def QeB (row1:(List Int))(v2:QB):Option Bool:=
 (Qcc v2 row1).bind fun x4=>
 some (x4 != 0)
theorem Qlh (row1:(List Int))(v2:QB){r:Bool}(h:QeB row1 v2=some r):Qc Tryz.prog 156 [.sl 1 (row1.map Qe),.loc 200000 0 0] [(200000,.var (Qp v2))] (Gives (.b r) [(200000,.var (Qp v2))]):=by
 refine Qc.walk 8 Tryz.func156 rfl Tryz.ntmps156 rfl fun C hC=>?_
 unfold QeB at h
 obtain⟨x4,hx4,h⟩:=Qb h
 refine Qa hC [.n 7,.v .no [] (.agg (Qp v2)),.n 1,.o (.c false [.d,.d] (.i .i64 x4)),.n 5,.keep [3] [200000]] rfl ⟨⟨tt_,rfl⟩,(QiS _ _ hx4)⟩ ?_
 cases h
 exact AK.done (ex_ [_] (an_ (an_ rfl tt_) (gives ⟨rfl,tt_⟩)))
def Qae (l1:(List (List Int)))(v2:QB)(x5:Int):Option (Int⊕(Int⊕Unit)):=
 bif (decide (x5<(l1.length:Int)))then
 (idx l1 x5).bind fun e9=>
 (QeB e9 v2).bind fun x10=>
 bif x10 then
 some (.inr (.inl x5))
 else
 some (.inl (w64 (x5+1)))
 else
 some (.inr (.inr ()))
def Qcw (x7:Int):Option Int:=
 some x7
def Qcx : Option Int:=
 some (-1)
def QaU (l1:(List (List Int)))(v2:QB):Option Int:=
 (QE (fun st=>Qae l1 v2 st) 0).bind (Sum.elim (fun q=>Qcw q) (fun q=>Qcx))
theorem Qjk (l1:(List (List Int)))(v2:QB){r:Int}(h:QaU l1 v2=some r):Qc Tryz.prog 190 [.own 200000 l1.length,.clo (.func 156) [] [.loc 200001 0 0]] [(200000,.arr 1 (l1.map Qw)),(200001,.var (Qp v2))] (Gives (.i .i64 r) [(200000,.arr 1 (l1.map Qw)),(200001,.var (Qp v2))]):=by
 refine Qc.walk 19 Tryz.func190 rfl Tryz.ntmps190 rfl fun C hC=>?_
 unfold QaU at h
 refine Qa hC [.n 14,.keep [0,1,7,8] [200000,200001]] rfl tt_ ?_
 obtain⟨o12,hl12,h⟩:=Qb h
 refine AK.loop (body:=(fun st=>Qae l1 v2 st)) (fun st σ=>σ=⟨[(0,.own 200000 l1.length),(1,.clo (.func 156) [] [.loc 200001 0 0]),(7,.i .i64 (l1.length:Int)),(8,.i .i64 st)],[(200000,.arr 1 (l1.map Qw)),(200001,.var (Qp v2))]⟩) (Sum.elim (fun q e σ=>e=.ret∧σ=⟨[(4,.i .i64 q)],[(200000,.arr 1 (l1.map Qw)),(200001,.var (Qp v2))]⟩) (fun q e σ=>e=.exit 0∧σ=⟨[],[(200000,.arr 1 (l1.map Qw)),(200001,.var (Qp v2))]⟩)) hl12 rfl ?_ ?_
 ·rintro x5 o σ rfl h
  replace h:Qae l1 v2 x5=some o:=h
  unfold Qae at h
  refine Qa hC [.n 6] rfl tt_ ?_
  rcases bifE h with⟨hc8,h⟩|⟨hc8,h⟩
  ·obtain⟨e9,he9,h⟩:=Qb h
   obtain⟨x10,hx10,h⟩:=Qb h
   refine Qa hC [.br true,.n 16,.o (.row (Qw e9)),.cm (.clo) [(200000,200001)] [(200001,200000)] [] [.d,.d] [(200000,.var (Qp v2))] (.b x10),.n 2] rfl ⟨⟨⟨⟨tt_,hc8⟩,(Qdc he9 rfl)⟩,(QbJ (idxE he9).2)⟩,(Qlh _ _ hx10)⟩ ?_
   rcases bifE h with⟨hc11,h⟩|⟨hc11,h⟩
   ·refine Qa hC [.br true,.n 9,.keep [4] [200000,200001]] rfl ⟨tt_,hc11⟩ ?_
    cases h
    exact rndR rfl (an_ rfl rfl)
   ·refine Qa hC [.br false,.n 7,.keep [0,1,7,8] [200000,200001]] rfl ⟨tt_,hc11⟩ ?_
    cases h
    exact rndN rfl rfl
  ·refine Qa hC [.br false,.n 2,.keep [] [200000,200001]] rfl ⟨tt_,hc8⟩ ?_
   cases h
   exact rndX rfl (an_ rfl rfl)
 ·rcases o12 with(x7 | _)
  ·replace h:Qcw x7=some r:=h
   unfold Qcw at h
   rintro e σ ⟨rfl,rfl⟩
   refine Qa hC [.n 2,.keep [4] [200000,200001]] rfl tt_ ?_
   cases h
   exact AK.done (ex_ [_] (an_ (an_ rfl tt_) (gives ⟨rfl,rfl,tt_⟩)))
  ·replace h:Qcx=some r:=h
   unfold Qcx at h
   rintro e σ ⟨rfl,rfl⟩
   refine Qa hC [.n 8,.keep [4] [200000,200001]] rfl tt_ ?_
   cases h
   exact AK.done (ex_ [_] (an_ (an_ rfl tt_) (gives ⟨rfl,rfl,tt_⟩)))
def Qbd (j10:Int)(i18:Int)(l19:(List (List Int))):Option ((Int×Int×(List (List Int)))⊕(Int×(List (List Int)))):=
 some (.inl (i18,(w64 (j10+1)),l19))
def Qab (v2:QB)(i9:Int)(j10:Int)(l11:(List (List Int))):Option ((Int×Int×(List (List Int)))⊕(Int×(List (List Int)))):=
 bif (decide (j10<(l11.length:Int)))then
 (idx l11 j10).bind fun e20=>
 (QeB e20 v2).bind fun x21=>
 bif (!x21)then
 (idx l11 i9).bind fun e23=>
 Qbd j10 (w64 (i9+1)) (l11.set i9.toNat e20)
 else
 Qbd j10 i9 l11
 else
 some (.inr (i9,l11))
def QaB (i15:Int)(l16:(List (List Int))):Option (List (List Int)):=
 (chk (decide (0≤i15)&&decide (i15.toNat≤l16.length))).bind fun _=>
 (chk (decide (0≤i15)&&decide (i15.toNat≤(l16.take i15.toNat++List.replicate (l16.length-i15.toNat) (([]:(List Int)):(List Int))).length))).bind fun _=>
 some ((l16.take i15.toNat++List.replicate (l16.length-i15.toNat) (([]:(List Int)):(List Int))).take i15.toNat)
def QaP (l1:(List (List Int)))(v2:QB):Option (List (List Int)):=
 (QaU l1 v2).bind fun x5=>
 bif (x5==(-1))then
 some l1
 else
 (QE (fun st=>Qab v2 st.1 st.2.1 st.2.2) (x5,(w64 (x5+1)),l1)).bind (fun q=>QaB q.1 q.2)
theorem QiT (l1:(List (List Int)))(v2:QB){r:(List (List Int))}(h:QaP l1 v2=some r):Qc Tryz.prog 154 [.own 200000 l1.length,.clo (.func 156) [] [.loc 200001 0 0]] [(200000,.arr 1 (l1.map Qw)),(200001,.var (Qp v2))] (Gives (.own 200000 r.length) [(200000,.arr 1 (r.map Qw)),(200001,.var (Qp v2))]):=by
 refine Qc.walk 42 Tryz.func154 rfl Tryz.ntmps154 rfl fun C hC=>?_
 unfold QaP at h
 obtain⟨x5,hx5,h⟩:=Qb h
 refine Qa hC [.n 9,.cm (.fn) [(200000,200000),(200001,200001)] [(200000,200000),(200001,200001)] [] [.d,.d] [(200000,.arr 1 (l1.map Qw)),(200001,.var (Qp v2))] (.i .i64 x5),.n 10] rfl ⟨tt_,(Qjk _ _ hx5)⟩ ?_
 rcases bifE h with⟨hc6,h⟩|⟨hc6,h⟩
 ·refine Qa hC [.br true,.n 8,.keep [4] [200000,200001]] rfl ⟨tt_,hc6⟩ ?_
  cases h
  exact AK.done (ex_ [_] (an_ (an_ rfl tt_) (gives ⟨rfl,rfl,tt_⟩)))
 ·refine Qa hC [.br false,.n 11,.keep [0,1,5,6] [200000,200001]] rfl ⟨tt_,hc6⟩ ?_
  obtain⟨o24,hl24,h⟩:=Qb h
  refine AK.loop (body:=(fun st=>Qab v2 st.1 st.2.1 st.2.2)) (fun st σ=>σ=⟨[(0,.own 200000 st.2.2.length),(1,.clo (.func 156) [] [.loc 200001 0 0]),(5,.i .i64 st.1),(6,.i .i64 st.2.1)],[(200000,.arr 1 (st.2.2.map Qw)),(200001,.var (Qp v2))]⟩) (fun q e σ=>e=.exit 0∧σ=⟨[(0,.own 200000 q.2.length),(5,.i .i64 q.1)],[(200000,.arr 1 (q.2.map Qw)),(200001,.var (Qp v2))]⟩) hl24 rfl ?_ ?_
  ·rintro ⟨i9,j10,l11⟩ o σ rfl h
   replace h:Qab v2 i9 j10 l11=some o:=h
   unfold Qab at h
   refine Qa hC [.n 9] rfl tt_ ?_
   rcases bifE h with⟨hc17,h⟩|⟨hc17,h⟩
   ·refine Qa hC [.br true,.n 2] rfl ⟨tt_,hc17⟩ ?_
    refine AK.meet (fun σ=>∃i18:Int,∃l19:(List (List Int)),σ=⟨[(0,.own 200000 l19.length),(1,.clo (.func 156) [] [.loc 200001 0 0]),(5,.i .i64 i18),(6,.i .i64 j10)],[(200000,.arr 1 (l19.map Qw)),(200001,.var (Qp v2))]⟩∧Qbd j10 i18 l19=some o) ?_ ?_
    ·obtain⟨e20,he20,h⟩:=Qb h
     obtain⟨x21,hx21,h⟩:=Qb h
     refine Qa hC [.n 6,.o (.row (Qw e20)),.n 7,.cm (.clo) [(200000,200001)] [(200001,200000)] [] [.d,.d] [(200000,.var (Qp v2))] (.b x21),.n 3] rfl ⟨⟨⟨tt_,(Qdc he20 rfl)⟩,(QbJ (idxE he20).2)⟩,(Qlh _ _ hx21)⟩ ?_
     rcases bifE h with⟨hc22,h⟩|⟨hc22,h⟩
     ·obtain⟨e23,he23,h⟩:=Qb h
      refine Qa hC [.br true,.n 6,.st (Qw e23) ((l11.set i9.toNat e20).map Qw),.n 8,.say 0 (.own 200000 (l11.set i9.toNat e20).length),.keep [0,1,5,6] [200000,200001]] rfl ⟨⟨⟨⟨tt_,hc22⟩,(Qdc he23 rfl)⟩,⟨(QbJ (idxE he23).2),QjB rfl⟩⟩,(congrArg (fun n=>V.own 200000 n) (by simp))⟩ ?_
      exact AK.met (ex_ _ (ex_ _ (an_ rfl h)))
     ·refine Qa hC [.br false,.n 2,.keep [0,1,5,6] [200000,200001]] rfl ⟨tt_,hc22⟩ ?_
      exact AK.met (ex_ _ (ex_ _ (an_ rfl h)))
    ·rintro σ ⟨i18,l19,rfl,h⟩
     unfold Qbd at h
     refine Qa hC [.n 5,.keep [0,1,5,6] [200000,200001]] rfl tt_ ?_
     cases h
     exact rndN rfl rfl
   ·refine Qa hC [.br false,.n 2,.keep [0,5] [200000,200001]] rfl ⟨tt_,hc17⟩ ?_
    cases h
    exact rndX rfl (an_ rfl rfl)
  ·obtain⟨i15,l16⟩:=o24
   replace h:QaB i15 l16=some r:=h
   unfold QaB at h
   rintro e σ ⟨rfl,rfl⟩
   refine Qa hC [.n 6] rfl tt_ ?_
   obtain⟨_,hk25,h⟩:=Qb h
   replace hk25:=chkE hk25
   refine AK.clearTail (b:=200000) (l:=i15.toNat) (n:=l16.length) rfl rfl rfl rfl rfl rfl (bleN hC.n rfl) rfl rfl Qh (Qo.es rfl) QuT rfl rfl rfl (Bnd.val rfl (of_decide_eq_true (Qof hk25)) rfl) (of_decide_eq_true (QkN hk25)) rfl ?_
   refine AK.denilA (b:=200000) [some 1] rfl (Qvl (f:=Qw) (x:=(([]:(List Int)):(List Int))) (fun _=>rfl) rfl) ?_
   obtain⟨_,hk26,h⟩:=Qb h
   replace hk26:=chkE hk26
   refine Qa hC [.say 0 (.own 200000 (l16.take i15.toNat++List.replicate (l16.length-i15.toNat) (([]:(List Int)):(List Int))).length),.say 36 (.own 200000 (l16.take i15.toNat++List.replicate (l16.length-i15.toNat) (([]:(List Int)):(List Int))).length),.n 6] rfl ⟨⟨tt_,(QtP (of_decide_eq_true (QkN hk25)))⟩,(QtP (of_decide_eq_true (QkN hk25)))⟩ ?_
   have hl27:i15.toNat=((l16.take i15.toNat++List.replicate (l16.length-i15.toNat) (([]:(List Int)):(List Int))).take i15.toNat).length:=by rw [List.length_take,Nat.min_eq_left (of_decide_eq_true (QkN hk26))]
   refine Qa hC [.x (fun σ=>(σ.set 200000 (.arr 1 (((l16.take i15.toNat++List.replicate (l16.length-i15.toNat) (([]:(List Int)):(List Int))).take i15.toNat).map Qw))).put 41 (.own 200000 i15.toNat)),.say 41 (.own 200000 ((l16.take i15.toNat++List.replicate (l16.length-i15.toNat) (([]:(List Int)):(List Int))).take i15.toNat).length),.n 4,.keep [4] [200000,200001]] rfl ⟨⟨tt_,(Stp.sliceO rfl rfl (bleN hC.n rfl) rfl rfl (Qo.es rfl) Bnd.no (Bnd.val rfl (of_decide_eq_true (Qof hk26)) rfl) (of_decide_eq_true (QkN hk26)) (by simp))⟩,(Qvh (of_decide_eq_true (QkN hk26)))⟩ ?_
   cases h
   exact AK.done (ex_ [_] (an_ (an_ rfl tt_) (gives ⟨rfl,rfl,tt_⟩)))
def QeU (x13:(Int×QB)):Option Bool:=
 bif (x13.1 != 0)then
 some true
 else
 (QbH x13.2).bind fun x17=>
 some (x17 != 0)
def Qa6 (x22:Int)(l29:(List Qk)):Option ((Int×(List Qk))⊕((List Qk)⊕(List Qk))):=
 some (.inl ((w64 (x22+1)),l29))
def Qa7 (x20:(List (List Int)))(p9:(List Int))(e30:(List Int))(v3:Int)(v4:Int)(x34:Int)(l35:(List Qk)):Option ((Int×(List Qk))⊕((List Qk)⊕(List Qk))):=
 bif (decide (x34<(x20.length:Int)))then
 (idx x20 x34).bind fun e41=>
 (Qak p9).bind fun x42=>
 (Qak e30).bind fun x43=>
 (Qak e41).bind fun x44=>
 (chk (decide (l35.length+([(Qk.mk v3 x42 x43 x44)]:List Qk).length≤4294967296))).bind fun _=>
 bif (((l35++[(Qk.mk v3 x42 x43 x44)]).length:Int)==v4)then
 some (.inr (.inl (l35++[(Qk.mk v3 x42 x43 x44)])))
 else
 some (.inl ((w64 (x34+1)),(l35++[(Qk.mk v3 x42 x43 x44)])))
 else
 some (.inr (.inr l35))
def QeV (l38:(List Qk)):Option ((Int×(List Qk))⊕((List Qk)⊕(List Qk))):=
 some (.inr (.inl l38))
def QeW (x22:Int)(l39:(List Qk)):Option ((Int×(List Qk))⊕((List Qk)⊕(List Qk))):=
 Qa6 x22 l39
def Qa8 (v6:(List (List Int)))(x13:(Int×QB))(x20:(List (List Int)))(p9:(List Int))(v3:Int)(v4:Int)(x22:Int)(l23:(List Qk)):Option ((Int×(List Qk))⊕((List Qk)⊕(List Qk))):=
 bif (decide (x22<(v6.length:Int)))then
 (idx v6 x22).bind fun e30=>
 (Qcb x13.2 e30).bind fun x31=>
 bif (x31 != 0)then
 Qa6 x22 l23
 else
 (QE (fun st=>Qa7 x20 p9 e30 v3 v4 st.1 st.2) (0,l23)).bind (Sum.elim (fun q=>QeV q) (fun q=>QeW x22 q))
 else
 some (.inr (.inr l23))
def QeX (l26:(List Qk)):Option ((List Qk)⊕(List Qk)):=
 some (.inl l26)
def QeY (l27:(List Qk)):Option ((List Qk)⊕(List Qk)):=
 some (.inr l27)
def QbP (l8:(List Qk))(v7:(List (List Int)))(x13:(Int×QB))(v6:(List (List Int)))(p9:(List Int))(v3:Int)(v4:Int)(x14:Bool):Option ((List Qk)⊕(List Qk)):=
 bif x14 then
 some (.inr l8)
 else
 (QcM v7).bind fun x19=>
 (QaP x19 x13.2).bind fun x20=>
 (QE (fun st=>Qa8 v6 x13 x20 p9 v3 v4 st.1 st.2) (0,l8)).bind (Sum.elim (fun q=>QeX q) (fun q=>QeY q))
def QcD (v1:TNet)(v2:(List (List (Int×Int))))(v3:Int)(v4:Int)(l5:(List Qk))(v6:(List (List Int)))(v7:(List (List Int)))(l8:(List Qk))(p9:(List Int)):Option ((List Qk)⊕(List Qk)):=
 (Qgn v1 v2 v3 p9).bind fun x13=>
 (QeU x13).bind (fun x14=>QbP l8 v7 x13 v6 p9 v3 v4 x14)
theorem Qh9 (lpl lpf:Nat)(v1:TNet)(v2:(List (List (Int×Int))))(v3:Int)(v4:Int)(l5:(List Qk))(v6:(List (List Int)))(v7:(List (List Int)))(l8:(List Qk))(p9:(List Int)){r:((List Qk)⊕(List Qk))}(h:QcD v1 v2 v3 v4 l5 v6 v7 l8 p9=some r):QkO Tryz.prog lpl (Qaq lpf) [.J,.J,.J,.J,.loc 200001 0 0,.loc 200002 0 0,.loc 200003 0 0,.loc 200004 0 0,.loc 200005 0 0,.J,.loc 200006 0 0,.loc 200007 0 0,.loc 200008 0 0,.J,.J,.J,.J,.J,.J,.J,.J,.J,.J,.J,.J,.J,.J,.J,.J,.J,.J,.J,.J,.J,.J,.J,.J,.J,.J,.J,.J,.J,.J,.J,.J,.J,.J,.J,.J,.J,.J,.J,.J,.J,.sl 1 (p9.map Qe),.J,.J,.J,.J,.J,.J,.J,.J,.J,.J,.J,.J,.J,.J,.J,.J,.J,.J,.J,.J,.J,.J,.J,.J,.J,.J,.J,.J,.J,.J,.J,.J,.J,.J,.J,.J,.J,.J,.J,.J,.J,.J,.J,.J,.J,.J,.J,.J,.J,.J,.J,.J,.J,.J] [(200000,.lp lpl (Qaq lpf) [.J,.J,.J,.J,.loc 200001 0 0,.loc 200002 0 0,.loc 200003 0 0,.loc 200004 0 0,.loc 200005 0 0,.J,.loc 200006 0 0,.loc 200007 0 0,.loc 200008 0 0,.J,.J,.J,.J,.J,.J,.J,.J,.J,.J,.J,.J,.J,.J,.J,.J,.J,.J,.J,.J,.J,.J,.J,.J,.J,.J,.J,.J,.J,.J,.J,.J,.J,.J,.J,.J,.J,.J,.J,.J,.J,.J,.J,.J,.J,.J,.J,.J,.J,.J,.J,.J,.J,.J,.J,.J,.J,.J,.J,.J,.J,.J,.J,.J,.J,.J,.J,.J,.J,.J,.J,.J,.J,.J,.J,.J,.J,.J,.J,.J,.J,.J,.J,.J,.J,.J,.J,.J,.J,.J,.J,.J,.J,.J,.J,.J] 0),(200001,.var (Qd v1)),(200002,.var (QT v2)),(200003,.var (Qe v3)),(200004,.var (Qe v4)),(200005,.var [.own 100000 l5.length]),(100000,.arr 4 (l5.map Qj)),(200006,.var (QF v6)),(200007,.var (QF v7)),(200008,.var [.own 100001 l8.length]),(100001,.arr 4 (l8.map Qj))] ((Sum.elim (fun q=>(Gives (.b false) [(100000,.arr 4 (l5.map Qj)),(100001,.arr 4 (q.map Qj)),(200000,.lp lpl (Qaq lpf) [.J,.J,.J,.J,.loc 200001 0 0,.loc 200002 0 0,.loc 200003 0 0,.loc 200004 0 0,.loc 200005 0 0,.J,.loc 200006 0 0,.loc 200007 0 0,.loc 200008 0 0,.J,.J,.J,.J,.J,.J,.J,.J,.J,.J,.J,.J,.J,.J,.J,.J,.J,.J,.J,.J,.J,.J,.J,.J,.J,.J,.J,.J,.J,.J,.J,.J,.J,.J,.J,.J,.J,.J,.J,.J,.J,.J,.J,.J,.J,.J,.J,.J,.J,.J,.J,.J,.J,.J,.J,.J,.J,.J,.J,.J,.J,.J,.J,.J,.J,.J,.J,.J,.J,.J,.J,.J,.J,.J,.J,.J,.J,.J,.J,.J,.J,.J,.J,.J,.J,.J,.J,.J,.J,.J,.J,.J,.J,.J,.J,.J] 2),(200001,.var (Qd v1)),(200002,.var (QT v2)),(200003,.var (Qe v3)),(200004,.var (Qe v4)),(200005,.var [.own 100001 q.length]),(200006,.var (QF v6)),(200007,.var (QF v7)),(200008,.var [.own 100001 q.length])])) (fun q=>(Gives (.b true) [(100000,.arr 4 (l5.map Qj)),(100001,.arr 4 (q.map Qj)),(200000,.lp lpl (Qaq lpf) [.J,.J,.J,.J,.loc 200001 0 0,.loc 200002 0 0,.loc 200003 0 0,.loc 200004 0 0,.loc 200005 0 0,.J,.loc 200006 0 0,.loc 200007 0 0,.loc 200008 0 0,.J,.J,.J,.J,.J,.J,.J,.J,.J,.J,.J,.J,.J,.J,.J,.J,.J,.J,.J,.J,.J,.J,.J,.J,.J,.J,.J,.J,.J,.J,.J,.J,.J,.J,.J,.J,.J,.J,.J,.J,.J,.J,.J,.J,.J,.J,.J,.J,.J,.J,.J,.J,.J,.J,.J,.J,.J,.J,.J,.J,.J,.J,.J,.J,.J,.J,.J,.J,.J,.J,.J,.J,.J,.J,.J,.J,.J,.J,.J,.J,.J,.J,.J,.J,.J,.J,.J,.J,.J,.J,.J,.J,.J,.J,.J,.J] 0),(200001,.var (Qd v1)),(200002,.var (QT v2)),(200003,.var (Qe v3)),(200004,.var (Qe v4)),(200005,.var [.own 100000 l5.length]),(200006,.var (QF v6)),(200007,.var (QF v7)),(200008,.var [.own 100001 q.length])]))) r):=by
 refine QkO.walk (b:=200000) 109 rfl rfl fun C hC=>?_
 unfold QcD at h
 refine Qa hC [.n 3] rfl tt_ ?_
 refine AK.done (an_ rfl (ex_ _ (an_ rfl ?_)))
 obtain⟨x13,hx13,h⟩:=Qb h
 refine Qa hC [.n 3,.v .no [] (.agg (Qd v1)),.n 3,.o (.c false [.d,.d,.d,.d] (.tup [.agg (Qp x13.2),.i .i64 x13.1])),.n 5,.sayO 14 (.var (Qp x13.2)),.n 5] rfl ⟨⟨⟨tt_,rfl⟩,(Qmm _ _ _ _ hx13)⟩,rfl⟩ ?_
 obtain⟨x14,hv15,h⟩:=Qb h
 replace h:QbP l8 v7 x13 v6 p9 v3 v4 x14=some r:=h
 refine AK.meetX (fun σ=>σ=⟨[(6,.loc 200003 0 0),(7,.loc 200004 0 0),(8,.loc 200005 0 0),(10,.loc 200006 0 0),(11,.loc 200007 0 0),(12,.loc 200008 0 0),(13,.sl 1 (p9.map Qe)),(14,.loc 14 0 0),(69,.b x14)],[(14,.var (Qp x13.2)),(100000,.arr 4 (l5.map Qj)),(100001,.arr 4 (l8.map Qj)),(200000,.lp lpl (Qaq lpf) [.J,.J,.J,.J,.loc 200001 0 0,.loc 200002 0 0,.loc 200003 0 0,.loc 200004 0 0,.loc 200005 0 0,.J,.loc 200006 0 0,.loc 200007 0 0,.loc 200008 0 0,.J,.J,.J,.J,.J,.J,.J,.J,.J,.J,.J,.J,.J,.J,.J,.J,.J,.J,.J,.J,.J,.J,.J,.J,.J,.J,.J,.J,.J,.J,.J,.J,.J,.J,.J,.J,.J,.J,.J,.J,.J,.J,.J,.J,.J,.J,.J,.J,.J,.J,.J,.J,.J,.J,.J,.J,.J,.J,.J,.J,.J,.J,.J,.J,.J,.J,.J,.J,.J,.J,.J,.J,.J,.J,.J,.J,.J,.J,.J,.J,.J,.J,.J,.J,.J,.J,.J,.J,.J,.J,.J,.J,.J,.J,.J,.J] 1),(200001,.var (Qd v1)),(200002,.var (QT v2)),(200003,.var (Qe v3)),(200004,.var (Qe v4)),(200005,.var [.own 100000 l5.length]),(200006,.var (QF v6)),(200007,.var (QF v7)),(200008,.var [.own 100001 l8.length])]⟩) ?_ ?_
 ·replace h:=hv15
  unfold QeU at h
  refine Qa hC [.n 4] rfl tt_ ?_
  rcases bifE h with⟨hc16,h⟩|⟨hc16,h⟩
  ·refine Qa hC [.say 65 (.b true),.n 5,.keep [6,7,8,10,11,12,13,14,69] [14,100000,100001,200000,200001,200002,200003,200004,200005,200006,200007,200008]] rfl ⟨tt_,(congrArg V.b hc16)⟩ ?_
   cases h
   exact AK.met rfl
  ·obtain⟨x17,hx17,h⟩:=Qb h
   refine Qa hC [.say 65 (.b false),.v .no [] (.agg (Qp x13.2)),.o (.c false [.d] (.i .i64 x17)),.n 3,.keep [6,7,8,10,11,12,13,14,69] [14,100000,100001,200000,200001,200002,200003,200004,200005,200006,200007,200008]] rfl ⟨⟨⟨tt_,(congrArg V.b hc16)⟩,rfl⟩,(Qh2 _ hx17)⟩ ?_
   cases h
   exact AK.met rfl
 ·rintro σ rfl
  replace h:QbP l8 v7 x13 v6 p9 v3 v4 x14=some r:=h
  unfold QbP at h
  refine Qa hC [.n 1] rfl tt_ ?_
  rcases bifE h with⟨hc18,h⟩|⟨hc18,h⟩
  ·refine Qa hC [.br true,.n 3,.keep [] [100000,100001,200000,200001,200002,200003,200004,200005,200006,200007,200008]] rfl ⟨tt_,hc18⟩ ?_
   cases h
   refine AK.done ?_
   exact ex_ _ (an_ rfl (gives ⟨rfl,rfl,rfl,rfl,rfl,rfl,rfl,rfl,rfl,rfl,rfl,tt_⟩))
  ·obtain⟨x19,hx19,h⟩:=Qb h
   obtain⟨x20,hx20,h⟩:=Qb h
   refine Qa hC [.br false,.n 5,.o (.co false [.d] 1 (x19.map Qw) x19.length),.n 1,.cm (.fn) [(200000,71),(200001,14)] [(71,200000),(14,200001)] [] [.d,.d] [(200000,.arr 1 (x20.map Qw)),(200001,.var (Qp x13.2))] (.own 200000 x20.length),.n 6,.o (.ln v6.length),.n 4,.keep [6,7,8,12,13,14,16,74,75,76] [14,71,100000,100001,200000,200001,200002,200003,200004,200005,200006,200007,200008]] rfl ⟨⟨⟨⟨tt_,hc18⟩,⟨(Qku _ hx19),Qh,.inl rfl⟩⟩,(QiT _ _ hx20)⟩,Qh⟩ ?_
   obtain⟨o48,hl48,h⟩:=Qb h
   refine AK.loop (body:=(fun st=>Qa8 v6 x13 x20 p9 v3 v4 st.1 st.2)) (fun st σ=>σ=⟨[(6,.loc 200003 0 0),(7,.loc 200004 0 0),(8,.loc 200005 0 0),(12,.loc 200008 0 0),(13,.sl 1 (p9.map Qe)),(14,.loc 14 0 0),(16,.own 71 x20.length),(74,.sl 1 (v6.map Qw)),(75,.i .i64 (v6.length:Int)),(76,.i .i64 st.1)],[(14,.var (Qp x13.2)),(71,.arr 1 (x20.map Qw)),(100000,.arr 4 (l5.map Qj)),(100001,.arr 4 (st.2.map Qj)),(200000,.lp lpl (Qaq lpf) [.J,.J,.J,.J,.loc 200001 0 0,.loc 200002 0 0,.loc 200003 0 0,.loc 200004 0 0,.loc 200005 0 0,.J,.loc 200006 0 0,.loc 200007 0 0,.loc 200008 0 0,.J,.J,.J,.J,.J,.J,.J,.J,.J,.J,.J,.J,.J,.J,.J,.J,.J,.J,.J,.J,.J,.J,.J,.J,.J,.J,.J,.J,.J,.J,.J,.J,.J,.J,.J,.J,.J,.J,.J,.J,.J,.J,.J,.J,.J,.J,.J,.J,.J,.J,.J,.J,.J,.J,.J,.J,.J,.J,.J,.J,.J,.J,.J,.J,.J,.J,.J,.J,.J,.J,.J,.J,.J,.J,.J,.J,.J,.J,.J,.J,.J,.J,.J,.J,.J,.J,.J,.J,.J,.J,.J,.J,.J,.J,.J,.J] 1),(200001,.var (Qd v1)),(200002,.var (QT v2)),(200003,.var (Qe v3)),(200004,.var (Qe v4)),(200005,.var [.own 100000 l5.length]),(200006,.var (QF v6)),(200007,.var (QF v7)),(200008,.var [.own 100001 st.2.length])]⟩) (Sum.elim (fun q e σ=>e=.ret∧σ=⟨[],[(100000,.arr 4 (l5.map Qj)),(100001,.arr 4 (q.map Qj)),(200000,.lp lpl (Qaq lpf) [.J,.J,.J,.J,.loc 200001 0 0,.loc 200002 0 0,.loc 200003 0 0,.loc 200004 0 0,.loc 200005 0 0,.J,.loc 200006 0 0,.loc 200007 0 0,.loc 200008 0 0,.J,.J,.J,.J,.J,.J,.J,.J,.J,.J,.J,.J,.J,.J,.J,.J,.J,.J,.J,.J,.J,.J,.J,.J,.J,.J,.J,.J,.J,.J,.J,.J,.J,.J,.J,.J,.J,.J,.J,.J,.J,.J,.J,.J,.J,.J,.J,.J,.J,.J,.J,.J,.J,.J,.J,.J,.J,.J,.J,.J,.J,.J,.J,.J,.J,.J,.J,.J,.J,.J,.J,.J,.J,.J,.J,.J,.J,.J,.J,.J,.J,.J,.J,.J,.J,.J,.J,.J,.J,.J,.J,.J,.J,.J,.J,.J] 1),(200001,.var (Qd v1)),(200002,.var (QT v2)),(200003,.var (Qe v3)),(200004,.var (Qe v4)),(200005,.var [.own 100001 q.length]),(200006,.var (QF v6)),(200007,.var (QF v7)),(200008,.var [.own 100001 q.length])]⟩) (fun q e σ=>e=.exit 2∧σ=⟨[],[(100000,.arr 4 (l5.map Qj)),(100001,.arr 4 (q.map Qj)),(200000,.lp lpl (Qaq lpf) [.J,.J,.J,.J,.loc 200001 0 0,.loc 200002 0 0,.loc 200003 0 0,.loc 200004 0 0,.loc 200005 0 0,.J,.loc 200006 0 0,.loc 200007 0 0,.loc 200008 0 0,.J,.J,.J,.J,.J,.J,.J,.J,.J,.J,.J,.J,.J,.J,.J,.J,.J,.J,.J,.J,.J,.J,.J,.J,.J,.J,.J,.J,.J,.J,.J,.J,.J,.J,.J,.J,.J,.J,.J,.J,.J,.J,.J,.J,.J,.J,.J,.J,.J,.J,.J,.J,.J,.J,.J,.J,.J,.J,.J,.J,.J,.J,.J,.J,.J,.J,.J,.J,.J,.J,.J,.J,.J,.J,.J,.J,.J,.J,.J,.J,.J,.J,.J,.J,.J,.J,.J,.J,.J,.J,.J,.J,.J,.J,.J,.J] 1),(200001,.var (Qd v1)),(200002,.var (QT v2)),(200003,.var (Qe v3)),(200004,.var (Qe v4)),(200005,.var [.own 100000 l5.length]),(200006,.var (QF v6)),(200007,.var (QF v7)),(200008,.var [.own 100001 q.length])]⟩)) hl48 rfl ?_ ?_
   ·rintro ⟨x22,l23⟩ o σ rfl h
    replace h:Qa8 v6 x13 x20 p9 v3 v4 x22 l23=some o:=h
    unfold Qa8 at h
    refine Qa hC [.n 6] rfl tt_ ?_
    rcases bifE h with⟨hc28,h⟩|⟨hc28,h⟩
    ·refine Qa hC [.br true,.n 2] rfl ⟨tt_,hc28⟩ ?_
     refine AK.meet (fun σ=>∃l29:(List Qk),σ=⟨[(6,.loc 200003 0 0),(7,.loc 200004 0 0),(8,.loc 200005 0 0),(12,.loc 200008 0 0),(13,.sl 1 (p9.map Qe)),(14,.loc 14 0 0),(16,.own 71 x20.length),(74,.sl 1 (v6.map Qw)),(75,.i .i64 (v6.length:Int)),(76,.i .i64 x22)],[(14,.var (Qp x13.2)),(71,.arr 1 (x20.map Qw)),(100000,.arr 4 (l5.map Qj)),(100001,.arr 4 (l29.map Qj)),(200000,.lp lpl (Qaq lpf) [.J,.J,.J,.J,.loc 200001 0 0,.loc 200002 0 0,.loc 200003 0 0,.loc 200004 0 0,.loc 200005 0 0,.J,.loc 200006 0 0,.loc 200007 0 0,.loc 200008 0 0,.J,.J,.J,.J,.J,.J,.J,.J,.J,.J,.J,.J,.J,.J,.J,.J,.J,.J,.J,.J,.J,.J,.J,.J,.J,.J,.J,.J,.J,.J,.J,.J,.J,.J,.J,.J,.J,.J,.J,.J,.J,.J,.J,.J,.J,.J,.J,.J,.J,.J,.J,.J,.J,.J,.J,.J,.J,.J,.J,.J,.J,.J,.J,.J,.J,.J,.J,.J,.J,.J,.J,.J,.J,.J,.J,.J,.J,.J,.J,.J,.J,.J,.J,.J,.J,.J,.J,.J,.J,.J,.J,.J,.J,.J,.J,.J] 1),(200001,.var (Qd v1)),(200002,.var (QT v2)),(200003,.var (Qe v3)),(200004,.var (Qe v4)),(200005,.var [.own 100000 l5.length]),(200006,.var (QF v6)),(200007,.var (QF v7)),(200008,.var [.own 100001 l29.length])]⟩∧Qa6 x22 l29=some o) ?_ ?_
     ·obtain⟨e30,he30,h⟩:=Qb h
      obtain⟨x31,hx31,h⟩:=Qb h
      refine Qa hC [.n 3,.o (.row (Qw e30)),.n 7,.v .no [] (.agg (Qp x13.2)),.n 1,.o (.c false [.d,.d] (.i .i64 x31)),.n 3] rfl ⟨⟨⟨tt_,(idxM he30)⟩,rfl⟩,(QiR _ _ hx31)⟩ ?_
      rcases bifE h with⟨hc32,h⟩|⟨hc32,h⟩
      ·refine Qa hC [.br true,.n 3,.keep [6,7,8,12,13,14,16,74,75,76] [14,71,100000,100001,200000,200001,200002,200003,200004,200005,200006,200007,200008]] rfl ⟨tt_,hc32⟩ ?_
       exact AK.met (ex_ _ (an_ rfl h))
      ·refine Qa hC [.br false,.n 10,.keep [6,7,8,12,13,14,16,18,74,75,76,84,85,86] [14,71,100000,100001,200000,200001,200002,200003,200004,200005,200006,200007,200008]] rfl ⟨tt_,hc32⟩ ?_
       obtain⟨o47,hl47,h⟩:=Qb h
       refine AK.loop (body:=(fun st=>Qa7 x20 p9 e30 v3 v4 st.1 st.2)) (fun st σ=>σ=⟨[(6,.loc 200003 0 0),(7,.loc 200004 0 0),(8,.loc 200005 0 0),(12,.loc 200008 0 0),(13,.sl 1 (p9.map Qe)),(14,.loc 14 0 0),(16,.own 71 x20.length),(18,.sl 1 (e30.map Qe)),(74,.sl 1 (v6.map Qw)),(75,.i .i64 (v6.length:Int)),(76,.i .i64 x22),(84,.own 71 x20.length),(85,.i .i64 (x20.length:Int)),(86,.i .i64 st.1)],[(14,.var (Qp x13.2)),(71,.arr 1 (x20.map Qw)),(100000,.arr 4 (l5.map Qj)),(100001,.arr 4 (st.2.map Qj)),(200000,.lp lpl (Qaq lpf) [.J,.J,.J,.J,.loc 200001 0 0,.loc 200002 0 0,.loc 200003 0 0,.loc 200004 0 0,.loc 200005 0 0,.J,.loc 200006 0 0,.loc 200007 0 0,.loc 200008 0 0,.J,.J,.J,.J,.J,.J,.J,.J,.J,.J,.J,.J,.J,.J,.J,.J,.J,.J,.J,.J,.J,.J,.J,.J,.J,.J,.J,.J,.J,.J,.J,.J,.J,.J,.J,.J,.J,.J,.J,.J,.J,.J,.J,.J,.J,.J,.J,.J,.J,.J,.J,.J,.J,.J,.J,.J,.J,.J,.J,.J,.J,.J,.J,.J,.J,.J,.J,.J,.J,.J,.J,.J,.J,.J,.J,.J,.J,.J,.J,.J,.J,.J,.J,.J,.J,.J,.J,.J,.J,.J,.J,.J,.J,.J,.J,.J] 1),(200001,.var (Qd v1)),(200002,.var (QT v2)),(200003,.var (Qe v3)),(200004,.var (Qe v4)),(200005,.var [.own 100000 l5.length]),(200006,.var (QF v6)),(200007,.var (QF v7)),(200008,.var [.own 100001 st.2.length])]⟩) (Sum.elim (fun q e σ=>e=.ret∧σ=⟨[],[(100000,.arr 4 (l5.map Qj)),(100001,.arr 4 (q.map Qj)),(200000,.lp lpl (Qaq lpf) [.J,.J,.J,.J,.loc 200001 0 0,.loc 200002 0 0,.loc 200003 0 0,.loc 200004 0 0,.loc 200005 0 0,.J,.loc 200006 0 0,.loc 200007 0 0,.loc 200008 0 0,.J,.J,.J,.J,.J,.J,.J,.J,.J,.J,.J,.J,.J,.J,.J,.J,.J,.J,.J,.J,.J,.J,.J,.J,.J,.J,.J,.J,.J,.J,.J,.J,.J,.J,.J,.J,.J,.J,.J,.J,.J,.J,.J,.J,.J,.J,.J,.J,.J,.J,.J,.J,.J,.J,.J,.J,.J,.J,.J,.J,.J,.J,.J,.J,.J,.J,.J,.J,.J,.J,.J,.J,.J,.J,.J,.J,.J,.J,.J,.J,.J,.J,.J,.J,.J,.J,.J,.J,.J,.J,.J,.J,.J,.J,.J,.J] 1),(200001,.var (Qd v1)),(200002,.var (QT v2)),(200003,.var (Qe v3)),(200004,.var (Qe v4)),(200005,.var [.own 100001 q.length]),(200006,.var (QF v6)),(200007,.var (QF v7)),(200008,.var [.own 100001 q.length])]⟩) (fun q e σ=>e=.exit 4∧σ=⟨[(6,.loc 200003 0 0),(7,.loc 200004 0 0),(8,.loc 200005 0 0),(12,.loc 200008 0 0),(13,.sl 1 (p9.map Qe)),(14,.loc 14 0 0),(16,.own 71 x20.length),(74,.sl 1 (v6.map Qw)),(75,.i .i64 (v6.length:Int)),(76,.i .i64 x22)],[(14,.var (Qp x13.2)),(71,.arr 1 (x20.map Qw)),(100000,.arr 4 (l5.map Qj)),(100001,.arr 4 (q.map Qj)),(200000,.lp lpl (Qaq lpf) [.J,.J,.J,.J,.loc 200001 0 0,.loc 200002 0 0,.loc 200003 0 0,.loc 200004 0 0,.loc 200005 0 0,.J,.loc 200006 0 0,.loc 200007 0 0,.loc 200008 0 0,.J,.J,.J,.J,.J,.J,.J,.J,.J,.J,.J,.J,.J,.J,.J,.J,.J,.J,.J,.J,.J,.J,.J,.J,.J,.J,.J,.J,.J,.J,.J,.J,.J,.J,.J,.J,.J,.J,.J,.J,.J,.J,.J,.J,.J,.J,.J,.J,.J,.J,.J,.J,.J,.J,.J,.J,.J,.J,.J,.J,.J,.J,.J,.J,.J,.J,.J,.J,.J,.J,.J,.J,.J,.J,.J,.J,.J,.J,.J,.J,.J,.J,.J,.J,.J,.J,.J,.J,.J,.J,.J,.J,.J,.J,.J,.J] 1),(200001,.var (Qd v1)),(200002,.var (QT v2)),(200003,.var (Qe v3)),(200004,.var (Qe v4)),(200005,.var [.own 100000 l5.length]),(200006,.var (QF v6)),(200007,.var (QF v7)),(200008,.var [.own 100001 q.length])]⟩)) hl47 rfl ?_ ?_
       ·rintro ⟨x34,l35⟩ o σ rfl h
        replace h:Qa7 x20 p9 e30 v3 v4 x34 l35=some o:=h
        unfold Qa7 at h
        refine Qa hC [.n 6] rfl tt_ ?_
        rcases bifE h with⟨hc40,h⟩|⟨hc40,h⟩
        ·obtain⟨e41,he41,h⟩:=Qb h
         obtain⟨x42,hx42,h⟩:=Qb h
         obtain⟨x43,hx43,h⟩:=Qb h
         obtain⟨x44,hx44,h⟩:=Qb h
         obtain⟨_,hk45,h⟩:=Qb h
         replace hk45:=chkE hk45
         refine Qa hC [.br true,.n 7,.o (.row (Qw e41)),.n 4,.keep [6,7,8,12,13,14,16,18,20,74,75,76,84,85,86] [14,71,100000,100001,200000,200001,200002,200003,200004,200005,200006,200007,200008]] rfl ⟨⟨⟨tt_,hc40⟩,(Qdc he41 rfl)⟩,(QbJ (idxE he41).2)⟩ ?_
         refine AK.draw2 Qo hC mixed [.a .no none false,.a .no none false,.a .no none false,.a (.cd false [.d] 1 (x42.map Qe) x42.length) none false,.a .no none false,.a (.cd false [.d] 1 (x43.map Qe) x43.length) none false,.a .no none false,.a (.cd false [.d] 1 (x44.map Qe) x44.length) none false,.a .no (some ([],.agg (Qj (Qk.mk v3 x42 x43 x44)))) false,.a (.bd []) (some ([],.sl 4 (([(Qk.mk v3 x42 x43 x44)]:List Qk).map Qj))) false,.m (.app ((l35++[(Qk.mk v3 x42 x43 x44)]).map Qj) (l35++[(Qk.mk v3 x42 x43 x44)]).length),.m .s] [] [] [6,7,8,12,13,14,16,18,74,75,76,84,85,86] [14,71,100000,100001,200000,200001,200002,200003,200004,200005,200006,200007,200008] rfl rfl rfl ⟨⟨⟨⟨⟨⟨tt_,⟨(QbB _ hx42),Qh⟩⟩,⟨(QbB _ hx43),Qh⟩⟩,⟨(QbB _ hx44),Qh⟩⟩,rfl⟩,rfl⟩,⟨Qh,QeL hk45 Qh,Qdm,QgU Qh⟩⟩ rfl (by kernel_rfl) rfl rfl rfl ?_
         refine Qa hC [.sayO 200008 (.var [.own 100001 (l35++[(Qk.mk v3 x42 x43 x44)]).length]),.n 9] rfl ⟨tt_,rfl⟩ ?_
         rcases bifE h with⟨hc46,h⟩|⟨hc46,h⟩
         ·refine Qa hC [.br true,.n 4,.sayO 200005 (.var [.own 100001 (l35++[(Qk.mk v3 x42 x43 x44)]).length]),.n 5,.keep [] [100000,100001,200000,200001,200002,200003,200004,200005,200006,200007,200008]] rfl ⟨⟨tt_,hc46⟩,rfl⟩ ?_
          cases h
          exact rndR rfl (an_ rfl rfl)
         ·refine Qa hC [.br false,.n 7,.keep [6,7,8,12,13,14,16,18,74,75,76,84,85,86] [14,71,100000,100001,200000,200001,200002,200003,200004,200005,200006,200007,200008]] rfl ⟨tt_,hc46⟩ ?_
          cases h
          exact rndN rfl rfl
        ·refine Qa hC [.br false,.n 2,.keep [6,7,8,12,13,14,16,74,75,76] [14,71,100000,100001,200000,200001,200002,200003,200004,200005,200006,200007,200008]] rfl ⟨tt_,hc40⟩ ?_
         cases h
         exact rndX rfl (an_ rfl rfl)
       ·rcases o47 with(l38 | l39)
        ·replace h:QeV l38=some o:=h
         unfold QeV at h
         rintro e σ ⟨rfl,rfl⟩
         refine Qa hC [.n 3,.keep [] [100000,100001,200000,200001,200002,200003,200004,200005,200006,200007,200008]] rfl tt_ ?_
         cases h
         exact rndR rfl (an_ rfl rfl)
        ·replace h:QeW x22 l39=some o:=h
         unfold QeW at h
         rintro e σ ⟨rfl,rfl⟩
         refine Qa hC [.n 2,.keep [6,7,8,12,13,14,16,74,75,76] [14,71,100000,100001,200000,200001,200002,200003,200004,200005,200006,200007,200008]] rfl tt_ ?_
         exact AK.met (ex_ _ (an_ rfl h))
     ·rintro σ ⟨l29,rfl,h⟩
      unfold Qa6 at h
      refine Qa hC [.n 4,.keep [6,7,8,12,13,14,16,74,75,76] [14,71,100000,100001,200000,200001,200002,200003,200004,200005,200006,200007,200008]] rfl tt_ ?_
      cases h
      exact rndN rfl rfl
    ·refine Qa hC [.br false,.n 2,.keep [] [100000,100001,200000,200001,200002,200003,200004,200005,200006,200007,200008]] rfl ⟨tt_,hc28⟩ ?_
     cases h
     exact rndX rfl (an_ rfl rfl)
   ·rcases o48 with(l26 | l27)
    ·replace h:QeX l26=some r:=h
     unfold QeX at h
     rintro e σ ⟨rfl,rfl⟩
     refine Qa hC [.n 2,.keep [] [100000,100001,200000,200001,200002,200003,200004,200005,200006,200007,200008]] rfl tt_ ?_
     cases h
     refine AK.done ?_
     exact ex_ _ (an_ rfl (gives ⟨rfl,rfl,rfl,rfl,rfl,rfl,rfl,rfl,rfl,rfl,rfl,tt_⟩))
    ·replace h:QeY l27=some r:=h
     unfold QeY at h
     rintro e σ ⟨rfl,rfl⟩
     refine Qa hC [.n 2,.keep [] [100000,100001,200000,200001,200002,200003,200004,200005,200006,200007,200008]] rfl tt_ ?_
     cases h
     refine AK.done ?_
     exact ex_ _ (an_ rfl (gives ⟨rfl,rfl,rfl,rfl,rfl,rfl,rfl,rfl,rfl,rfl,rfl,tt_⟩))
def Qa1 (l1:(List Qy))(k2:Int):Option Int:=
 (Qeu l1 k2).bind fun x5=>
 bif (!x5.1)then
 some 0
 else
 (idx x5.2.sizes k2).bind fun e7=>
 some e7
theorem QgX (l1:(List Qy))(k2:Int){r:Int}(h:Qa1 l1 k2=some r):Qc Tryz.prog 53 [.sl 7 (l1.map Qu),.i .i64 k2] [] (Gives (.i .i64 r) []):=by
 refine Qc.walk 20 Tryz.func53 rfl Tryz.ntmps53 rfl fun C hC=>?_
 unfold Qa1 at h
 obtain⟨x5,hx5,h⟩:=Qb h
 refine Qa hC [.n 9,.o (.c false [.d,.d] (.tup [.agg (QI x5.2),.b x5.1])),.n 5,.sayO 5 (.var (QI x5.2)),.n 10] rfl ⟨⟨tt_,(Qkr _ _ hx5)⟩,rfl⟩ ?_
 rcases bifE h with⟨hc6,h⟩|⟨hc6,h⟩
 ·refine Qa hC [.br true,.n 7,.keep [4] []] rfl ⟨tt_,hc6⟩ ?_
  cases h
  exact AK.done (ex_ [_] (an_ (an_ rfl tt_) (gives tt_)))
 ·obtain⟨e7,he7,h⟩:=Qb h
  refine Qa hC [.br false,.n 7,.o (.row (Qe e7)),.n 5,.keep [4] []] rfl ⟨⟨tt_,hc6⟩,(idxM he7)⟩ ?_
  cases h
  exact AK.done (ex_ [_] (an_ (an_ rfl tt_) (gives tt_)))
def QgY (a22:(List Qk)):Option (((List Int)×(List Qk))⊕((List Qk)⊕(List Qk))):=
 some (.inr (.inr a22))
def QgZ (at_25:Int)(l26:(List Int))(v9:Qr)(v10:TNet):Option Bool:=
 bif (decide (0≤at_25))then
 (idx l26 at_25).bind fun e34=>
 (idx v9.Vars at_25).bind fun e35=>
 (Qa1 v10.Colours e35.Colour).bind fun x36=>
 some (decide (x36≤(w64 (e34+1))))
 else
 some false
def QcU (l26:(List Int))(at_25:Int)(x31:Bool):Option ((Int×(List Int))⊕(Int×(List Int))):=
 bif x31 then
 (idx l26 at_25).bind fun e38=>
 some (.inl ((w64 (at_25-1)),(l26.set at_25.toNat 0)))
 else
 some (.inr (at_25,l26))
def Qbk (v9:Qr)(v10:TNet)(at_25:Int)(l26:(List Int)):Option ((Int×(List Int))⊕(Int×(List Int))):=
 (QgZ at_25 l26 v9 v10).bind (fun x31=>QcU l26 at_25 x31)
def QcV (a23:(List Qk))(at_29:Int)(l30:(List Int)):Option (((List Int)×(List Qk))⊕((List Qk)⊕(List Qk))):=
 bif (decide (at_29<0))then
 some (.inr (.inl a23))
 else
 (idx l30 at_29).bind fun e41=>
 (idx l30 at_29).bind fun e42=>
 some (.inl ((l30.set at_29.toNat (w64 (e41+1))),a23))
def QcW (v9:Qr)(v10:TNet)(l14:(List Int))(a23:(List Qk)):Option (((List Int)×(List Qk))⊕((List Qk)⊕(List Qk))):=
 (QE (fun st=>Qbk v9 v10 st.1 st.2) ((w64 ((l14.length:Int)-1)),l14)).bind (fun q=>QcV a23 q.1 q.2)
def QbZ (v1:TNet)(v2:(List (List (Int×Int))))(v3:Int)(v4:Int)(l5:(List Qk))(v6:(List (List Int)))(v7:(List (List Int)))(v9:Qr)(v10:TNet)(l14:(List Int))(l15:(List Qk)):Option (((List Int)×(List Qk))⊕((List Qk)⊕(List Qk))):=
 (Qak l14).bind fun x20=>
 (QcD v1 v2 v3 v4 l5 v6 v7 l15 x20).bind (Sum.elim (fun q=>QgY q) (fun q=>QcW v9 v10 l14 q))
def Qg0 (l18:(List Qk)):Option ((List Qk)⊕(List Qk)):=
 some (.inl l18)
def Qg1 (l19:(List Qk)):Option ((List Qk)⊕(List Qk)):=
 some (.inr l19)
def Qef (v1:TNet)(v2:(List (List (Int×Int))))(v3:Int)(v4:Int)(l5:(List Qk))(v6:(List (List Int)))(v7:(List (List Int)))(l8:(List Qk))(v9:Qr)(v10:TNet):Option ((List Qk)⊕(List Qk)):=
 (chk (decide (0≤(v9.Vars.length:Int))&&decide ((v9.Vars.length:Int)≤(v9.Vars.length:Int))&&decide ((v9.Vars.length:Int)≤4294967296))).bind fun _=>
 (QE (fun st=>QbZ v1 v2 v3 v4 l5 v6 v7 v9 v10 st.1 st.2) ((List.replicate (v9.Vars.length:Int).toNat (0:Int)),l8)).bind (Sum.elim (fun q=>Qg0 q) (fun q=>Qg1 q))
theorem QjW (lpl lpf:Nat)(v1:TNet)(v2:(List (List (Int×Int))))(v3:Int)(v4:Int)(l5:(List Qk))(v6:(List (List Int)))(v7:(List (List Int)))(l8:(List Qk))(v9:Qr)(v10:TNet){r:((List Qk)⊕(List Qk))}(h:Qef v1 v2 v3 v4 l5 v6 v7 l8 v9 v10=some r):Qc Tryz.prog 199 [.clo (.yield lpl) [] [],.loc 200009 0 0,.loc 200010 0 0] [(200000,.lp lpl (Qaq lpf) [.J,.J,.J,.J,.loc 200001 0 0,.loc 200002 0 0,.loc 200003 0 0,.loc 200004 0 0,.loc 200005 0 0,.J,.loc 200006 0 0,.loc 200007 0 0,.loc 200008 0 0,.J,.J,.J,.J,.J,.J,.J,.J,.J,.J,.J,.J,.J,.J,.J,.J,.J,.J,.J,.J,.J,.J,.J,.J,.J,.J,.J,.J,.J,.J,.J,.J,.J,.J,.J,.J,.J,.J,.J,.J,.J,.J,.J,.J,.J,.J,.J,.J,.J,.J,.J,.J,.J,.J,.J,.J,.J,.J,.J,.J,.J,.J,.J,.J,.J,.J,.J,.J,.J,.J,.J,.J,.J,.J,.J,.J,.J,.J,.J,.J,.J,.J,.J,.J,.J,.J,.J,.J,.J,.J,.J,.J,.J,.J,.J,.J] 0),(200001,.var (Qd v1)),(200002,.var (QT v2)),(200003,.var (Qe v3)),(200004,.var (Qe v4)),(200005,.var [.own 100000 l5.length]),(100000,.arr 4 (l5.map Qj)),(200006,.var (QF v6)),(200007,.var (QF v7)),(200008,.var [.own 100001 l8.length]),(100001,.arr 4 (l8.map Qj)),(200009,.var (Qi v9)),(200010,.var (Qd v10))] ((Sum.elim (fun q=>(Gives (.tup []) [(100000,.arr 4 (l5.map Qj)),(100001,.arr 4 (q.map Qj)),(200000,.lp lpl (Qaq lpf) [.J,.J,.J,.J,.loc 200001 0 0,.loc 200002 0 0,.loc 200003 0 0,.loc 200004 0 0,.loc 200005 0 0,.J,.loc 200006 0 0,.loc 200007 0 0,.loc 200008 0 0,.J,.J,.J,.J,.J,.J,.J,.J,.J,.J,.J,.J,.J,.J,.J,.J,.J,.J,.J,.J,.J,.J,.J,.J,.J,.J,.J,.J,.J,.J,.J,.J,.J,.J,.J,.J,.J,.J,.J,.J,.J,.J,.J,.J,.J,.J,.J,.J,.J,.J,.J,.J,.J,.J,.J,.J,.J,.J,.J,.J,.J,.J,.J,.J,.J,.J,.J,.J,.J,.J,.J,.J,.J,.J,.J,.J,.J,.J,.J,.J,.J,.J,.J,.J,.J,.J,.J,.J,.J,.J,.J,.J,.J,.J,.J,.J] 0),(200001,.var (Qd v1)),(200002,.var (QT v2)),(200003,.var (Qe v3)),(200004,.var (Qe v4)),(200005,.var [.own 100000 l5.length]),(200006,.var (QF v6)),(200007,.var (QF v7)),(200008,.var [.own 100001 q.length]),(200009,.var (Qi v9)),(200010,.var (Qd v10))])) (fun q=>(Gives (.tup []) [(100000,.arr 4 (l5.map Qj)),(100001,.arr 4 (q.map Qj)),(200000,.lp lpl (Qaq lpf) [.J,.J,.J,.J,.loc 200001 0 0,.loc 200002 0 0,.loc 200003 0 0,.loc 200004 0 0,.loc 200005 0 0,.J,.loc 200006 0 0,.loc 200007 0 0,.loc 200008 0 0,.J,.J,.J,.J,.J,.J,.J,.J,.J,.J,.J,.J,.J,.J,.J,.J,.J,.J,.J,.J,.J,.J,.J,.J,.J,.J,.J,.J,.J,.J,.J,.J,.J,.J,.J,.J,.J,.J,.J,.J,.J,.J,.J,.J,.J,.J,.J,.J,.J,.J,.J,.J,.J,.J,.J,.J,.J,.J,.J,.J,.J,.J,.J,.J,.J,.J,.J,.J,.J,.J,.J,.J,.J,.J,.J,.J,.J,.J,.J,.J,.J,.J,.J,.J,.J,.J,.J,.J,.J,.J,.J,.J,.J,.J,.J,.J] 2),(200001,.var (Qd v1)),(200002,.var (QT v2)),(200003,.var (Qe v3)),(200004,.var (Qe v4)),(200005,.var [.own 100001 q.length]),(200006,.var (QF v6)),(200007,.var (QF v7)),(200008,.var [.own 100001 q.length]),(200009,.var (Qi v9)),(200010,.var (Qd v10))]))) r):=by
 refine Qc.walk 50 Tryz.func199 rfl Tryz.ntmps199 rfl fun C hC=>?_
 unfold Qef at h
 obtain⟨_,hk13,h⟩:=Qb h
 replace hk13:=chkE hk13
 refine Qa hC [.n 4,.o (.ln v9.Vars.length),.o (.rows ((List.replicate (v9.Vars.length:Int).toNat (0:Int)).map Qe)),.say 9 (.own 9 (List.replicate (v9.Vars.length:Int).toNat (0:Int)).length),.n 4,.keep [0,1,2,4] [9,100000,100001,200000,200001,200002,200003,200004,200005,200006,200007,200008,200009,200010]] rfl ⟨⟨⟨tt_,Qh⟩,⟨hk13,Qtz rfl⟩⟩,(by simp)⟩ ?_
 obtain⟨o43,hl43,h⟩:=Qb h
 refine AK.loop (body:=(fun st=>QbZ v1 v2 v3 v4 l5 v6 v7 v9 v10 st.1 st.2)) (fun st σ=>σ=⟨[(0,.clo (.yield lpl) [] []),(1,.loc 200009 0 0),(2,.loc 200010 0 0),(4,.own 9 st.1.length)],[(9,.arr 1 (st.1.map Qe)),(100000,.arr 4 (l5.map Qj)),(100001,.arr 4 (st.2.map Qj)),(200000,.lp lpl (Qaq lpf) [.J,.J,.J,.J,.loc 200001 0 0,.loc 200002 0 0,.loc 200003 0 0,.loc 200004 0 0,.loc 200005 0 0,.J,.loc 200006 0 0,.loc 200007 0 0,.loc 200008 0 0,.J,.J,.J,.J,.J,.J,.J,.J,.J,.J,.J,.J,.J,.J,.J,.J,.J,.J,.J,.J,.J,.J,.J,.J,.J,.J,.J,.J,.J,.J,.J,.J,.J,.J,.J,.J,.J,.J,.J,.J,.J,.J,.J,.J,.J,.J,.J,.J,.J,.J,.J,.J,.J,.J,.J,.J,.J,.J,.J,.J,.J,.J,.J,.J,.J,.J,.J,.J,.J,.J,.J,.J,.J,.J,.J,.J,.J,.J,.J,.J,.J,.J,.J,.J,.J,.J,.J,.J,.J,.J,.J,.J,.J,.J,.J,.J] 0),(200001,.var (Qd v1)),(200002,.var (QT v2)),(200003,.var (Qe v3)),(200004,.var (Qe v4)),(200005,.var [.own 100000 l5.length]),(200006,.var (QF v6)),(200007,.var (QF v7)),(200008,.var [.own 100001 st.2.length]),(200009,.var (Qi v9)),(200010,.var (Qd v10))]⟩) (Sum.elim (fun q e σ=>e=.ret∧σ=⟨[],[(100000,.arr 4 (l5.map Qj)),(100001,.arr 4 (q.map Qj)),(200000,.lp lpl (Qaq lpf) [.J,.J,.J,.J,.loc 200001 0 0,.loc 200002 0 0,.loc 200003 0 0,.loc 200004 0 0,.loc 200005 0 0,.J,.loc 200006 0 0,.loc 200007 0 0,.loc 200008 0 0,.J,.J,.J,.J,.J,.J,.J,.J,.J,.J,.J,.J,.J,.J,.J,.J,.J,.J,.J,.J,.J,.J,.J,.J,.J,.J,.J,.J,.J,.J,.J,.J,.J,.J,.J,.J,.J,.J,.J,.J,.J,.J,.J,.J,.J,.J,.J,.J,.J,.J,.J,.J,.J,.J,.J,.J,.J,.J,.J,.J,.J,.J,.J,.J,.J,.J,.J,.J,.J,.J,.J,.J,.J,.J,.J,.J,.J,.J,.J,.J,.J,.J,.J,.J,.J,.J,.J,.J,.J,.J,.J,.J,.J,.J,.J,.J] 0),(200001,.var (Qd v1)),(200002,.var (QT v2)),(200003,.var (Qe v3)),(200004,.var (Qe v4)),(200005,.var [.own 100000 l5.length]),(200006,.var (QF v6)),(200007,.var (QF v7)),(200008,.var [.own 100001 q.length]),(200009,.var (Qi v9)),(200010,.var (Qd v10))]⟩) (fun q e σ=>e=.ret∧σ=⟨[],[(100000,.arr 4 (l5.map Qj)),(100001,.arr 4 (q.map Qj)),(200000,.lp lpl (Qaq lpf) [.J,.J,.J,.J,.loc 200001 0 0,.loc 200002 0 0,.loc 200003 0 0,.loc 200004 0 0,.loc 200005 0 0,.J,.loc 200006 0 0,.loc 200007 0 0,.loc 200008 0 0,.J,.J,.J,.J,.J,.J,.J,.J,.J,.J,.J,.J,.J,.J,.J,.J,.J,.J,.J,.J,.J,.J,.J,.J,.J,.J,.J,.J,.J,.J,.J,.J,.J,.J,.J,.J,.J,.J,.J,.J,.J,.J,.J,.J,.J,.J,.J,.J,.J,.J,.J,.J,.J,.J,.J,.J,.J,.J,.J,.J,.J,.J,.J,.J,.J,.J,.J,.J,.J,.J,.J,.J,.J,.J,.J,.J,.J,.J,.J,.J,.J,.J,.J,.J,.J,.J,.J,.J,.J,.J,.J,.J,.J,.J,.J,.J] 2),(200001,.var (Qd v1)),(200002,.var (QT v2)),(200003,.var (Qe v3)),(200004,.var (Qe v4)),(200005,.var [.own 100001 q.length]),(200006,.var (QF v6)),(200007,.var (QF v7)),(200008,.var [.own 100001 q.length]),(200009,.var (Qi v9)),(200010,.var (Qd v10))]⟩)) hl43 rfl ?_ ?_
 ·rintro ⟨l14,l15⟩ o σ rfl h
  replace h:QbZ v1 v2 v3 v4 l5 v6 v7 v9 v10 l14 l15=some o:=h
  unfold QbZ at h
  obtain⟨x20,hx20,h⟩:=Qb h
  obtain⟨x21,hx21,h⟩:=Qb h
  refine Qa hC [.n 6,.o (.co true [.o (l14.map Qe)] 1 (x20.map Qe) x20.length),.frz 12 (x20.map Qe) [12] []] rfl ⟨⟨tt_,⟨(QqW rfl),⟨(QbB _ hx20),Qh,.inr (QtR _)⟩⟩⟩,⟨tt_,(frzL Qh)⟩⟩ ?_
  rcases x21 with(a22 | a23)
  ·replace h:QgY a22=some o:=h
   unfold QgY at h
   refine Qa hC [.x (fun σ=>(σ.after [100000,100001] [(100000,.arr 4 (l5.map Qj)),(100001,.arr 4 (a22.map Qj)),(200000,.lp lpl (Qaq lpf) [.J,.J,.J,.J,.loc 200001 0 0,.loc 200002 0 0,.loc 200003 0 0,.loc 200004 0 0,.loc 200005 0 0,.J,.loc 200006 0 0,.loc 200007 0 0,.loc 200008 0 0,.J,.J,.J,.J,.J,.J,.J,.J,.J,.J,.J,.J,.J,.J,.J,.J,.J,.J,.J,.J,.J,.J,.J,.J,.J,.J,.J,.J,.J,.J,.J,.J,.J,.J,.J,.J,.J,.J,.J,.J,.J,.J,.J,.J,.J,.J,.J,.J,.J,.J,.J,.J,.J,.J,.J,.J,.J,.J,.J,.J,.J,.J,.J,.J,.J,.J,.J,.J,.J,.J,.J,.J,.J,.J,.J,.J,.J,.J,.J,.J,.J,.J,.J,.J,.J,.J,.J,.J,.J,.J,.J,.J,.J,.J,.J,.J] 2),(200001,.var (Qd v1)),(200002,.var (QT v2)),(200003,.var (Qe v3)),(200004,.var (Qe v4)),(200005,.var [.own 100001 a22.length]),(200006,.var (QF v6)),(200007,.var (QF v7)),(200008,.var [.own 100001 a22.length])]).put 13 (.b false)),.n 7,.keep [] [100000,100001,200000,200001,200002,200003,200004,200005,200006,200007,200008,200009,200010]] rfl ⟨tt_,(Stp.yieldV (b:=200000) (M:=[(200000,200000),(200001,200001),(200002,200002),(200003,200003),(200004,200004),(200005,200005),(100000,100000),(200006,200006),(200007,200007),(200008,200008),(100001,100001)]) (N:=[(100000,100000),(100001,100001),(200000,200000),(200001,200001),(200002,200002),(200003,200003),(200004,200004),(200005,200005),(200006,200006),(200007,200007),(200008,200008)]) (dead:=[100000,100001]) (ms:=[.d,.d,.d,.d,.d,.d,.d,.d,.d,.d,.d,.d,.d,.d,.d,.d,.d,.d,.d,.d,.d,.d,.d,.d,.d,.d,.d,.d,.d,.d,.d,.d,.d,.d,.d,.d,.d,.d,.d,.d,.d,.d,.d,.d,.d,.d,.d,.d,.d,.d,.d,.d,.d,.d,.d,.d,.d,.d,.d,.d,.d,.d,.d,.d,.d,.d,.d,.d,.d,.d,.d,.d,.d,.d,.d,.d,.d,.d,.d,.d,.d,.d,.d,.d,.d,.d,.d,.d,.d,.d,.d,.d,.d,.d,.d,.d,.d,.d,.d,.d,.d,.d,.d,.d,.d,.d,.d,.d,.d]) (outs:=[(100000,.arr 4 (l5.map Qj)),(100001,.arr 4 (a22.map Qj)),(200000,.lp lpl (Qaq lpf) [.J,.J,.J,.J,.loc 200001 0 0,.loc 200002 0 0,.loc 200003 0 0,.loc 200004 0 0,.loc 200005 0 0,.J,.loc 200006 0 0,.loc 200007 0 0,.loc 200008 0 0,.J,.J,.J,.J,.J,.J,.J,.J,.J,.J,.J,.J,.J,.J,.J,.J,.J,.J,.J,.J,.J,.J,.J,.J,.J,.J,.J,.J,.J,.J,.J,.J,.J,.J,.J,.J,.J,.J,.J,.J,.J,.J,.J,.J,.J,.J,.J,.J,.J,.J,.J,.J,.J,.J,.J,.J,.J,.J,.J,.J,.J,.J,.J,.J,.J,.J,.J,.J,.J,.J,.J,.J,.J,.J,.J,.J,.J,.J,.J,.J,.J,.J,.J,.J,.J,.J,.J,.J,.J,.J,.J,.J,.J,.J,.J,.J] 2),(200001,.var (Qd v1)),(200002,.var (QT v2)),(200003,.var (Qe v3)),(200004,.var (Qe v4)),(200005,.var [.own 100001 a22.length]),(200006,.var (QF v6)),(200007,.var (QF v7)),(200008,.var [.own 100001 a22.length])]) (r:=.b false) rfl rfl rfl rfl rfl rfl rfl (bleN hC.n rfl) hC.g rfl rfl (Qh9 _ _ _ _ _ _ _ _ _ _ _ hx21))⟩ ?_
   cases h
   exact rndR rfl (an_ rfl rfl)
  ·replace h:QcW v9 v10 l14 a23=some o:=h
   unfold QcW at h
   refine Qa hC [.x (fun σ=>(σ.after [100000,100001] [(100000,.arr 4 (l5.map Qj)),(100001,.arr 4 (a23.map Qj)),(200000,.lp lpl (Qaq lpf) [.J,.J,.J,.J,.loc 200001 0 0,.loc 200002 0 0,.loc 200003 0 0,.loc 200004 0 0,.loc 200005 0 0,.J,.loc 200006 0 0,.loc 200007 0 0,.loc 200008 0 0,.J,.J,.J,.J,.J,.J,.J,.J,.J,.J,.J,.J,.J,.J,.J,.J,.J,.J,.J,.J,.J,.J,.J,.J,.J,.J,.J,.J,.J,.J,.J,.J,.J,.J,.J,.J,.J,.J,.J,.J,.J,.J,.J,.J,.J,.J,.J,.J,.J,.J,.J,.J,.J,.J,.J,.J,.J,.J,.J,.J,.J,.J,.J,.J,.J,.J,.J,.J,.J,.J,.J,.J,.J,.J,.J,.J,.J,.J,.J,.J,.J,.J,.J,.J,.J,.J,.J,.J,.J,.J,.J,.J,.J,.J,.J,.J] 0),(200001,.var (Qd v1)),(200002,.var (QT v2)),(200003,.var (Qe v3)),(200004,.var (Qe v4)),(200005,.var [.own 100000 l5.length]),(200006,.var (QF v6)),(200007,.var (QF v7)),(200008,.var [.own 100001 a23.length])]).put 13 (.b true)),.n 16,.keep [0,1,2,4,5] [9,100000,100001,200000,200001,200002,200003,200004,200005,200006,200007,200008,200009,200010]] rfl ⟨tt_,(Stp.yieldV (b:=200000) (M:=[(200000,200000),(200001,200001),(200002,200002),(200003,200003),(200004,200004),(200005,200005),(100000,100000),(200006,200006),(200007,200007),(200008,200008),(100001,100001)]) (N:=[(100000,100000),(100001,100001),(200000,200000),(200001,200001),(200002,200002),(200003,200003),(200004,200004),(200005,200005),(200006,200006),(200007,200007),(200008,200008)]) (dead:=[100000,100001]) (ms:=[.d,.d,.d,.d,.d,.d,.d,.d,.d,.d,.d,.d,.d,.d,.d,.d,.d,.d,.d,.d,.d,.d,.d,.d,.d,.d,.d,.d,.d,.d,.d,.d,.d,.d,.d,.d,.d,.d,.d,.d,.d,.d,.d,.d,.d,.d,.d,.d,.d,.d,.d,.d,.d,.d,.d,.d,.d,.d,.d,.d,.d,.d,.d,.d,.d,.d,.d,.d,.d,.d,.d,.d,.d,.d,.d,.d,.d,.d,.d,.d,.d,.d,.d,.d,.d,.d,.d,.d,.d,.d,.d,.d,.d,.d,.d,.d,.d,.d,.d,.d,.d,.d,.d,.d,.d,.d,.d,.d,.d]) (outs:=[(100000,.arr 4 (l5.map Qj)),(100001,.arr 4 (a23.map Qj)),(200000,.lp lpl (Qaq lpf) [.J,.J,.J,.J,.loc 200001 0 0,.loc 200002 0 0,.loc 200003 0 0,.loc 200004 0 0,.loc 200005 0 0,.J,.loc 200006 0 0,.loc 200007 0 0,.loc 200008 0 0,.J,.J,.J,.J,.J,.J,.J,.J,.J,.J,.J,.J,.J,.J,.J,.J,.J,.J,.J,.J,.J,.J,.J,.J,.J,.J,.J,.J,.J,.J,.J,.J,.J,.J,.J,.J,.J,.J,.J,.J,.J,.J,.J,.J,.J,.J,.J,.J,.J,.J,.J,.J,.J,.J,.J,.J,.J,.J,.J,.J,.J,.J,.J,.J,.J,.J,.J,.J,.J,.J,.J,.J,.J,.J,.J,.J,.J,.J,.J,.J,.J,.J,.J,.J,.J,.J,.J,.J,.J,.J,.J,.J,.J,.J,.J,.J] 0),(200001,.var (Qd v1)),(200002,.var (QT v2)),(200003,.var (Qe v3)),(200004,.var (Qe v4)),(200005,.var [.own 100000 l5.length]),(200006,.var (QF v6)),(200007,.var (QF v7)),(200008,.var [.own 100001 a23.length])]) (r:=.b true) rfl rfl rfl rfl rfl rfl rfl (bleN hC.n rfl) hC.g rfl rfl (Qh9 _ _ _ _ _ _ _ _ _ _ _ hx21))⟩ ?_
   obtain⟨o39,hl39,h⟩:=Qb h
   refine AK.loop (body:=(fun st=>Qbk v9 v10 st.1 st.2)) (fun st σ=>σ=⟨[(0,.clo (.yield lpl) [] []),(1,.loc 200009 0 0),(2,.loc 200010 0 0),(4,.own 9 st.2.length),(5,.i .i64 st.1)],[(9,.arr 1 (st.2.map Qe)),(100000,.arr 4 (l5.map Qj)),(100001,.arr 4 (a23.map Qj)),(200000,.lp lpl (Qaq lpf) [.J,.J,.J,.J,.loc 200001 0 0,.loc 200002 0 0,.loc 200003 0 0,.loc 200004 0 0,.loc 200005 0 0,.J,.loc 200006 0 0,.loc 200007 0 0,.loc 200008 0 0,.J,.J,.J,.J,.J,.J,.J,.J,.J,.J,.J,.J,.J,.J,.J,.J,.J,.J,.J,.J,.J,.J,.J,.J,.J,.J,.J,.J,.J,.J,.J,.J,.J,.J,.J,.J,.J,.J,.J,.J,.J,.J,.J,.J,.J,.J,.J,.J,.J,.J,.J,.J,.J,.J,.J,.J,.J,.J,.J,.J,.J,.J,.J,.J,.J,.J,.J,.J,.J,.J,.J,.J,.J,.J,.J,.J,.J,.J,.J,.J,.J,.J,.J,.J,.J,.J,.J,.J,.J,.J,.J,.J,.J,.J,.J,.J] 0),(200001,.var (Qd v1)),(200002,.var (QT v2)),(200003,.var (Qe v3)),(200004,.var (Qe v4)),(200005,.var [.own 100000 l5.length]),(200006,.var (QF v6)),(200007,.var (QF v7)),(200008,.var [.own 100001 a23.length]),(200009,.var (Qi v9)),(200010,.var (Qd v10))]⟩) (fun q e σ=>e=.exit 2∧σ=⟨[(0,.clo (.yield lpl) [] []),(1,.loc 200009 0 0),(2,.loc 200010 0 0),(4,.own 9 q.2.length),(5,.i .i64 q.1)],[(9,.arr 1 (q.2.map Qe)),(100000,.arr 4 (l5.map Qj)),(100001,.arr 4 (a23.map Qj)),(200000,.lp lpl (Qaq lpf) [.J,.J,.J,.J,.loc 200001 0 0,.loc 200002 0 0,.loc 200003 0 0,.loc 200004 0 0,.loc 200005 0 0,.J,.loc 200006 0 0,.loc 200007 0 0,.loc 200008 0 0,.J,.J,.J,.J,.J,.J,.J,.J,.J,.J,.J,.J,.J,.J,.J,.J,.J,.J,.J,.J,.J,.J,.J,.J,.J,.J,.J,.J,.J,.J,.J,.J,.J,.J,.J,.J,.J,.J,.J,.J,.J,.J,.J,.J,.J,.J,.J,.J,.J,.J,.J,.J,.J,.J,.J,.J,.J,.J,.J,.J,.J,.J,.J,.J,.J,.J,.J,.J,.J,.J,.J,.J,.J,.J,.J,.J,.J,.J,.J,.J,.J,.J,.J,.J,.J,.J,.J,.J,.J,.J,.J,.J,.J,.J,.J,.J] 0),(200001,.var (Qd v1)),(200002,.var (QT v2)),(200003,.var (Qe v3)),(200004,.var (Qe v4)),(200005,.var [.own 100000 l5.length]),(200006,.var (QF v6)),(200007,.var (QF v7)),(200008,.var [.own 100001 a23.length]),(200009,.var (Qi v9)),(200010,.var (Qd v10))]⟩) hl39 rfl ?_ ?_
   ·rintro ⟨at_25,l26⟩ o σ rfl h
    replace h:Qbk v9 v10 at_25 l26=some o:=h
    unfold Qbk at h
    refine Qa hC [.n 2] rfl tt_ ?_
    obtain⟨x31,hv32,h⟩:=Qb h
    replace h:QcU l26 at_25 x31=some o:=h
    refine AK.meetX (fun σ=>σ=⟨[(0,.clo (.yield lpl) [] []),(1,.loc 200009 0 0),(2,.loc 200010 0 0),(4,.own 9 l26.length),(5,.i .i64 at_25),(36,.b x31)],[(9,.arr 1 (l26.map Qe)),(100000,.arr 4 (l5.map Qj)),(100001,.arr 4 (a23.map Qj)),(200000,.lp lpl (Qaq lpf) [.J,.J,.J,.J,.loc 200001 0 0,.loc 200002 0 0,.loc 200003 0 0,.loc 200004 0 0,.loc 200005 0 0,.J,.loc 200006 0 0,.loc 200007 0 0,.loc 200008 0 0,.J,.J,.J,.J,.J,.J,.J,.J,.J,.J,.J,.J,.J,.J,.J,.J,.J,.J,.J,.J,.J,.J,.J,.J,.J,.J,.J,.J,.J,.J,.J,.J,.J,.J,.J,.J,.J,.J,.J,.J,.J,.J,.J,.J,.J,.J,.J,.J,.J,.J,.J,.J,.J,.J,.J,.J,.J,.J,.J,.J,.J,.J,.J,.J,.J,.J,.J,.J,.J,.J,.J,.J,.J,.J,.J,.J,.J,.J,.J,.J,.J,.J,.J,.J,.J,.J,.J,.J,.J,.J,.J,.J,.J,.J,.J,.J] 0),(200001,.var (Qd v1)),(200002,.var (QT v2)),(200003,.var (Qe v3)),(200004,.var (Qe v4)),(200005,.var [.own 100000 l5.length]),(200006,.var (QF v6)),(200007,.var (QF v7)),(200008,.var [.own 100001 a23.length]),(200009,.var (Qi v9)),(200010,.var (Qd v10))]⟩) ?_ ?_
    ·replace h:=hv32
     unfold QgZ at h
     refine Qa hC [.keep [0,1,2,4,5] [9,100000,100001,200000,200001,200002,200003,200004,200005,200006,200007,200008,200009,200010]] rfl tt_ ?_
     rcases bifE h with⟨hc33,h⟩|⟨hc33,h⟩
     ·obtain⟨e34,he34,h⟩:=Qb h
      obtain⟨e35,he35,h⟩:=Qb h
      obtain⟨x36,hx36,h⟩:=Qb h
      refine AK.draw2 Qo hC mixed [.a .no none false,.a .no none false,.a .no (some ([],.b true)) false,.a .no none false,.a .no none false,.a .no none false,.a (.row (Qe e34)) none false,.a .no none false,.a .no none false,.a .no none false,.a .no none false,.a .no none false,.a .no none false,.a (.row (QC e35)) none false,.a .no none false,.a .no none false,.a (.c false [.d,.d] (.i .i64 x36)) none false,.a .no none false,.a .no none false] [] [] [0,1,2,4,5,36] [9,100000,100001,200000,200001,200002,200003,200004,200005,200006,200007,200008,200009,200010] rfl rfl rfl ⟨⟨⟨⟨⟨tt_,(congrArg V.b hc33)⟩,(Qdc he34 rfl)⟩,(QbJ (idxE he34).2)⟩,(idxM he35)⟩,(QgX _ _ hx36)⟩ rfl (by kernel_rfl) rfl rfl rfl ?_
      refine Qa hC [.keep [0,1,2,4,5,36] [9,100000,100001,200000,200001,200002,200003,200004,200005,200006,200007,200008,200009,200010]] rfl tt_ ?_
      cases h
      exact AK.met rfl
     ·refine AK.draw2 Qo hC mixed [.a .no none false,.a .no none false,.a .no (some ([],.b false)) false,.a .no none false,.a .no none false,.a .no none false,.a .no none false,.a .no none false,.a .no none false,.a .no none false,.a .no none false,.a .no none false,.a .no none false,.a .no none false,.a .no none false,.a .no none false,.a .no none false,.a .no none false,.a .no none false] [] [] [0,1,2,4,5,36] [9,100000,100001,200000,200001,200002,200003,200004,200005,200006,200007,200008,200009,200010] rfl rfl rfl ⟨tt_,(congrArg V.b hc33)⟩ rfl (by kernel_rfl) rfl rfl rfl ?_
      refine Qa hC [.keep [0,1,2,4,5,36] [9,100000,100001,200000,200001,200002,200003,200004,200005,200006,200007,200008,200009,200010]] rfl tt_ ?_
      cases h
      exact AK.met rfl
    ·rintro σ rfl
     replace h:QcU l26 at_25 x31=some o:=h
     unfold QcU at h
     refine Qa hC [.n 1] rfl tt_ ?_
     rcases bifE h with⟨hc37,h⟩|⟨hc37,h⟩
     ·obtain⟨e38,he38,h⟩:=Qb h
      refine Qa hC [.br true,.n 8,.st (Qe e38) ((l26.set at_25.toNat 0).map Qe),.n 8,.say 4 (.own 9 (l26.set at_25.toNat 0).length),.keep [0,1,2,4,5] [9,100000,100001,200000,200001,200002,200003,200004,200005,200006,200007,200008,200009,200010]] rfl ⟨⟨⟨⟨tt_,hc37⟩,(Qdc he38 rfl)⟩,⟨(QbJ (idxE he38).2),QjB rfl⟩⟩,(congrArg (fun n=>V.own 9 n) (by simp))⟩ ?_
      cases h
      exact rndN rfl rfl
     ·refine Qa hC [.br false,.n 2,.keep [0,1,2,4,5] [9,100000,100001,200000,200001,200002,200003,200004,200005,200006,200007,200008,200009,200010]] rfl ⟨tt_,hc37⟩ ?_
      cases h
      exact rndX rfl (an_ rfl rfl)
   ·obtain⟨at_29,l30⟩:=o39
    replace h:QcV a23 at_29 l30=some o:=h
    unfold QcV at h
    rintro e σ ⟨rfl,rfl⟩
    refine Qa hC [.n 9] rfl tt_ ?_
    rcases bifE h with⟨hc40,h⟩|⟨hc40,h⟩
    ·refine Qa hC [.br true,.n 3,.keep [] [100000,100001,200000,200001,200002,200003,200004,200005,200006,200007,200008,200009,200010]] rfl ⟨tt_,hc40⟩ ?_
     cases h
     exact rndR rfl (an_ rfl rfl)
    ·obtain⟨e41,he41,h⟩:=Qb h
     obtain⟨e42,he42,h⟩:=Qb h
     refine Qa hC [.br false,.n 6,.o (.row (Qe e41)),.n 2,.st (Qe e42) ((l30.set at_29.toNat (w64 (e41+1))).map Qe),.n 2,.say 4 (.own 9 (l30.set at_29.toNat (w64 (e41+1))).length),.keep [0,1,2,4] [9,100000,100001,200000,200001,200002,200003,200004,200005,200006,200007,200008,200009,200010]] rfl ⟨⟨⟨⟨⟨⟨tt_,hc40⟩,(Qdc he41 rfl)⟩,(QbJ (idxE he41).2)⟩,(Qdc he42 rfl)⟩,⟨(QbJ (idxE he42).2),QjB rfl⟩⟩,(congrArg (fun n=>V.own 9 n) (by simp))⟩ ?_
     cases h
     exact rndN rfl rfl
 ·rcases o43 with(l18 | l19)
  ·replace h:Qg0 l18=some r:=h
   unfold Qg0 at h
   rintro e σ ⟨rfl,rfl⟩
   refine Qa hC [.n 1,.keep [] [100000,100001,200000,200001,200002,200003,200004,200005,200006,200007,200008,200009,200010]] rfl tt_ ?_
   cases h
   refine AK.done ?_
   exact ex_ [] (an_ tt_ (gives ⟨rfl,rfl,rfl,rfl,rfl,rfl,rfl,rfl,rfl,rfl,rfl,rfl,rfl,tt_⟩))
  ·replace h:Qg1 l19=some r:=h
   unfold Qg1 at h
   rintro e σ ⟨rfl,rfl⟩
   refine Qa hC [.n 1,.keep [] [100000,100001,200000,200001,200002,200003,200004,200005,200006,200007,200008,200009,200010]] rfl tt_ ?_
   cases h
   refine AK.done ?_
   exact ex_ [] (an_ tt_ (gives ⟨rfl,rfl,rfl,rfl,rfl,rfl,rfl,rfl,rfl,rfl,rfl,rfl,rfl,tt_⟩))
def QjX (a16:(List Qk)):Option (List Qk):=
 some a16
def QjY (a17:(List Qk)):Option (List Qk):=
 some a17
def Qia (n1:TNet)(m2:(List (List (Int×Int))))(task3:Int)(most4:Int):Option (List Qk):=
 bif ((decide (task3<0))||((decide ((n1.Tasks.length:Int)≤task3))||(decide (most4<1))))then
 some ([]:List Qk)
 else
 (idx n1.Tasks task3).bind fun e11=>
 (QcA e11.Join (e11.Ins.length:Int)).bind fun x12=>
 (QcA e11.Split (e11.Outs.length:Int)).bind fun x13=>
 (QjV n1 e11).bind fun x14=>
 (Qef n1 m2 task3 most4 ([]:List Qk) x12 x13 ([]:List Qk) x14.2 x14.1).bind (Sum.elim (fun q=>QjX q) (fun q=>QjY q))
theorem Qqw (n1:TNet)(m2:(List (List (Int×Int))))(task3:Int)(most4:Int){r:(List Qk)}(h:Qia n1 m2 task3 most4=some r):Qc Tryz.prog 88 [.agg (Qd n1),.sl 1 (m2.map Qg),.i .i64 task3,.i .i64 most4] [] (Gives (.sl 4 (r.map Qj)) []):=by
 refine Qc.walkR 109 Tryz.func88 rfl Tryz.ntmps88 rfl fun C hC hR=>?_
 unfold Qia at h
 refine Qa hC [.n 11] rfl tt_ ?_
 refine AK.meetX (fun σ=>σ=⟨[(4,.loc 4 0 0),(5,.loc 5 0 0),(6,.loc 6 0 0),(7,.loc 7 0 0),(8,.loc 8 0 0),(33,.b ((decide (task3<0))||((decide ((n1.Tasks.length:Int)≤task3))||(decide (most4<1)))))],[(4,.var (Qd n1)),(5,.var (QT m2)),(6,.var (Qe task3)),(7,.var (Qe most4)),(8,.var [.lit (.slice none 0 0)])]⟩) ?_ ?_
 ·refine Qa hC [.n 4] rfl tt_ ?_
  rcases QK (decide (task3<0))with hc8 | hc8
  ·refine Qa hC [.say 23 (.b true),.n 11,.say 33 (.b ((decide (task3<0))||((decide ((n1.Tasks.length:Int)≤task3))||(decide (most4<1))))),.keep [4,5,6,7,8,33] [4,5,6,7,8]] rfl ⟨⟨tt_,(congrArg V.b hc8)⟩,(congrArg V.b (orT hc8 rfl))⟩ ?_
   exact AK.met rfl
  ·refine Qa hC [.say 23 (.b false),.n 3,.o (.ln n1.Tasks.length),.n 3] rfl ⟨⟨tt_,(congrArg V.b hc8)⟩,Qh⟩ ?_
   rcases QK (decide ((n1.Tasks.length:Int)≤task3))with hc9 | hc9
   ·refine Qa hC [.say 30 (.b true),.n 4,.say 33 (.b ((decide (task3<0))||((decide ((n1.Tasks.length:Int)≤task3))||(decide (most4<1))))),.keep [4,5,6,7,8,33] [4,5,6,7,8]] rfl ⟨⟨tt_,(congrArg V.b hc9)⟩,(congrArg V.b (orF hc8 (orT hc9 rfl)))⟩ ?_
    exact AK.met rfl
   ·refine Qa hC [.say 30 (.b false),.n 4,.say 33 (.b ((decide (task3<0))||((decide ((n1.Tasks.length:Int)≤task3))||(decide (most4<1))))),.keep [4,5,6,7,8,33] [4,5,6,7,8]] rfl ⟨⟨tt_,(congrArg V.b hc9)⟩,(congrArg V.b (orF hc8 (orF hc9 rfl)))⟩ ?_
    exact AK.met rfl
 ·rintro σ rfl
  refine Qa hC [.n 1] rfl tt_ ?_
  rcases bifE h with⟨hc10,h⟩|⟨hc10,h⟩
  ·refine Qa hC [.br true,.n 3,.sayO 8 (.var [.lit (.slice none 0 0)]),.n 4,.denilO 8 [some 4],.sayO 8 (.var (Qtl ([]:List Qk))),.keep [8] [8]] rfl ⟨⟨⟨tt_,hc10⟩,rfl⟩,rfl⟩ ?_
   cases h
   exact AK.done (ex_ [_] (an_ (an_ (ex_ _ (ex_ _ (an_ rfl (an_ rfl (Or.inr (an_ (Qo.ag rfl) rfl)))))) tt_) (gives tt_)))
  ·obtain⟨e11,he11,h⟩:=Qb h
   obtain⟨x12,hx12,h⟩:=Qb h
   obtain⟨x13,hx13,h⟩:=Qb h
   refine Qa hC [.br false,.n 7,.o (.row (Qi e11)),.v .no [] (.agg (Qi e11)),.n 2,.sayO 9 (.var (Qi e11)),.n 3,.keep [4,5,6,7,8,9] [4,5,6,7,8,9]] rfl ⟨⟨⟨⟨tt_,hc10⟩,(idxM he11)⟩,rfl⟩,rfl⟩ ?_
   refine AK.draw2 Qo hC mixed [.a .no none false,.a .no none false,.a .no none false,.a .no none false,.a (.ln e11.Ins.length) none false,.a (.cd false [.d,.d] 1 (x12.map Qw) x12.length) none false,.a .no none false,.a .no none false,.a .no none false,.a .no none false,.a (.ln e11.Outs.length) none false,.a (.cd false [.d,.d] 1 (x13.map Qw) x13.length) none false,.a .no none false,.a .no none false,.m .s,.m .s] [] [] [4,5,6,7,8,9,10,11] [4,5,6,7,8,9,10,11] rfl rfl rfl ⟨⟨⟨⟨tt_,Qh⟩,⟨(QiE _ _ hx12),Qh⟩⟩,Qh⟩,⟨(QiE _ _ hx13),Qh⟩⟩ rfl (by kernel_rfl) rfl rfl rfl ?_
   obtain⟨x14,hx14,h⟩:=Qb h
   refine Qa hC [.sayO 10 (.var (QF x12)),.sayO 11 (.var (QF x13)),.n 9,.v .no [] (.agg (Qd n1)),.v .no [] (.agg (Qi e11)),.cm (.fn) [] [(53,2),(50000,3)] [] [.d,.d] [(2,.var (Qd x14.1)),(3,.var (Qi x14.2))] (.clo (.func 199) [] [.loc 3 0 0,.loc 2 0 0]),.n 3,.keep [4,5,6,7,8,10,11,12,53] [4,5,6,7,8,10,11,12,53,50000]] rfl ⟨⟨⟨⟨⟨tt_,rfl⟩,rfl⟩,rfl⟩,rfl⟩,(Qos _ _ hx14)⟩ ?_
   obtain⟨x15,hx15,h⟩:=Qb h
   refine Qa hC [.adoptO 8 0 45160 4,.sayO 45160 (.arr 4 (([]:List Qk).map Qj)),.sayO 8 (.var [.own 45160 ([]:List Qk).length]),.adoptO 12 0 45240 4,.sayO 45240 (.arr 4 (([]:List Qk).map Qj)),.sayO 12 (.var [.own 45240 ([]:List Qk).length])] rfl ⟨⟨⟨⟨tt_,rfl⟩,rfl⟩,rfl⟩,rfl⟩ ?_
   rcases x15 with(a16 | a17)
   ·replace h:QjX a16=some r:=h
    unfold QjX at h
    refine AK.rangeF 60000 [4,5,6,7,8,10,11,12] [(200000,60000),(200001,4),(200002,5),(200003,6),(200004,7),(200005,8),(100000,45160),(200006,10),(200007,11),(200008,12),(100001,45240),(200009,50000),(200010,53)] [(45160,100000),(45240,100001),(60000,200000),(4,200001),(5,200002),(6,200003),(7,200004),(8,200005),(10,200006),(11,200007),(12,200008),(50000,200009),(53,200010)] [45160,45240] [.d,.d,.d] Qaq hC hR (fun _=>rfl) rfl rfl rfl rfl fun lpl lpf=>?_
    refine ex_ [(100000,.arr 4 (([]:List Qk).map Qj)),(100001,.arr 4 (a16.map Qj)),(200000,.lp lpl (Qaq lpf) [.J,.J,.J,.J,.loc 200001 0 0,.loc 200002 0 0,.loc 200003 0 0,.loc 200004 0 0,.loc 200005 0 0,.J,.loc 200006 0 0,.loc 200007 0 0,.loc 200008 0 0,.J,.J,.J,.J,.J,.J,.J,.J,.J,.J,.J,.J,.J,.J,.J,.J,.J,.J,.J,.J,.J,.J,.J,.J,.J,.J,.J,.J,.J,.J,.J,.J,.J,.J,.J,.J,.J,.J,.J,.J,.J,.J,.J,.J,.J,.J,.J,.J,.J,.J,.J,.J,.J,.J,.J,.J,.J,.J,.J,.J,.J,.J,.J,.J,.J,.J,.J,.J,.J,.J,.J,.J,.J,.J,.J,.J,.J,.J,.J,.J,.J,.J,.J,.J,.J,.J,.J,.J,.J,.J,.J,.J,.J,.J,.J,.J] 0),(200001,.var (Qd n1)),(200002,.var (QT m2)),(200003,.var (Qe task3)),(200004,.var (Qe most4)),(200005,.var [.own 100000 ([]:List Qk).length]),(200006,.var (QF x12)),(200007,.var (QF x13)),(200008,.var [.own 100001 a16.length]),(200009,.var (Qi x14.2)),(200010,.var (Qd x14.1))] (ex_ (.tup []) (ex_ _ (ex_ _ (ex_ [.J,.J,.J,.J,.loc 4 0 0,.loc 5 0 0,.loc 6 0 0,.loc 7 0 0,.loc 8 0 0,.J,.loc 10 0 0,.loc 11 0 0,.loc 12 0 0,.J,.J,.J,.J,.J,.J,.J,.J,.J,.J,.J,.J,.J,.J,.J,.J,.J,.J,.J,.J,.J,.J,.J,.J,.J,.J,.J,.J,.J,.J,.J,.J,.J,.J,.J,.J,.J,.J,.J,.J,.J,.J,.J,.J,.J,.J,.J,.J,.J,.J,.J,.J,.J,.J,.J,.J,.J,.J,.J,.J,.J,.J,.J,.J,.J,.J,.J,.J,.J,.J,.J,.J,.J,.J,.J,.J,.J,.J,.J,.J,.J,.J,.J,.J,.J,.J,.J,.J,.J,.J,.J,.J,.J,.J,.J,.J] (ex_ 0 (an_ rfl ?_))))))
    refine an_ (QjW _ _ _ _ _ _ _ _ _ _ _ _ hx15) (an_ rfl (an_ (bne_iff_ne.1 (show(0 != 1)=true from rfl)) ?_))
    refine atJ0 rfl ?_
    refine Qa hC [.n 6,.sayO 8 (.var [.own 45240 a16.length]),.n 3,.frz 45240 (a16.map Qj) [] [8],.keep [8] [8]] rfl ⟨⟨tt_,rfl⟩,⟨tt_,⟨(frzL Qh),tt_⟩⟩⟩ ?_
    cases h
    exact AK.done (ex_ [_] (an_ (an_ (ex_ _ (ex_ _ (an_ rfl (an_ rfl (Or.inr (an_ (Qo.ag rfl) rfl)))))) tt_) (gives tt_)))
   ·replace h:QjY a17=some r:=h
    unfold QjY at h
    refine AK.rangeF 60000 [4,5,6,7,8,10,11,12] [(200000,60000),(200001,4),(200002,5),(200003,6),(200004,7),(200005,8),(100000,45160),(200006,10),(200007,11),(200008,12),(100001,45240),(200009,50000),(200010,53)] [(45160,100000),(45240,100001),(60000,200000),(4,200001),(5,200002),(6,200003),(7,200004),(8,200005),(10,200006),(11,200007),(12,200008),(50000,200009),(53,200010)] [45160,45240] [.d,.d,.d] Qaq hC hR (fun _=>rfl) rfl rfl rfl rfl fun lpl lpf=>?_
    refine ex_ [(100000,.arr 4 (([]:List Qk).map Qj)),(100001,.arr 4 (a17.map Qj)),(200000,.lp lpl (Qaq lpf) [.J,.J,.J,.J,.loc 200001 0 0,.loc 200002 0 0,.loc 200003 0 0,.loc 200004 0 0,.loc 200005 0 0,.J,.loc 200006 0 0,.loc 200007 0 0,.loc 200008 0 0,.J,.J,.J,.J,.J,.J,.J,.J,.J,.J,.J,.J,.J,.J,.J,.J,.J,.J,.J,.J,.J,.J,.J,.J,.J,.J,.J,.J,.J,.J,.J,.J,.J,.J,.J,.J,.J,.J,.J,.J,.J,.J,.J,.J,.J,.J,.J,.J,.J,.J,.J,.J,.J,.J,.J,.J,.J,.J,.J,.J,.J,.J,.J,.J,.J,.J,.J,.J,.J,.J,.J,.J,.J,.J,.J,.J,.J,.J,.J,.J,.J,.J,.J,.J,.J,.J,.J,.J,.J,.J,.J,.J,.J,.J,.J,.J] 2),(200001,.var (Qd n1)),(200002,.var (QT m2)),(200003,.var (Qe task3)),(200004,.var (Qe most4)),(200005,.var [.own 100001 a17.length]),(200006,.var (QF x12)),(200007,.var (QF x13)),(200008,.var [.own 100001 a17.length]),(200009,.var (Qi x14.2)),(200010,.var (Qd x14.1))] (ex_ (.tup []) (ex_ _ (ex_ _ (ex_ [.J,.J,.J,.J,.loc 4 0 0,.loc 5 0 0,.loc 6 0 0,.loc 7 0 0,.loc 8 0 0,.J,.loc 10 0 0,.loc 11 0 0,.loc 12 0 0,.J,.J,.J,.J,.J,.J,.J,.J,.J,.J,.J,.J,.J,.J,.J,.J,.J,.J,.J,.J,.J,.J,.J,.J,.J,.J,.J,.J,.J,.J,.J,.J,.J,.J,.J,.J,.J,.J,.J,.J,.J,.J,.J,.J,.J,.J,.J,.J,.J,.J,.J,.J,.J,.J,.J,.J,.J,.J,.J,.J,.J,.J,.J,.J,.J,.J,.J,.J,.J,.J,.J,.J,.J,.J,.J,.J,.J,.J,.J,.J,.J,.J,.J,.J,.J,.J,.J,.J,.J,.J,.J,.J,.J,.J,.J,.J] (ex_ 2 (an_ rfl ?_))))))
    refine an_ (QjW _ _ _ _ _ _ _ _ _ _ _ _ hx15) (an_ rfl (an_ (bne_iff_ne.1 (show(2 != 1)=true from rfl)) ?_))
    refine atJ2 rfl ?_
    refine Qa hC [.n 3,.frz 45240 (a17.map Qj) [] [8],.keep [8] [8]] rfl ⟨tt_,⟨tt_,⟨(frzL Qh),tt_⟩⟩⟩ ?_
    cases h
    exact AK.done (ex_ [_] (an_ (an_ (ex_ _ (ex_ _ (an_ rfl (an_ rfl (Or.inr (an_ (Qo.ag rfl) rfl)))))) tt_) (gives tt_)))
def Qfu (n1:TNet)(m2:(List (List (Int×Int))))(most3:Int)(x6:Int)(l7:(List Qk)):Option ((Int×(List Qk))⊕(List Qk)):=
 bif (decide (x6<(n1.Tasks.length:Int)))then
 (Qia n1 m2 x6 (w64 (most3-(l7.length:Int)))).bind fun x12=>
 (chk (decide (l7.length+x12.length≤4294967296))).bind fun _=>
 some (.inl ((w64 (x6+1)),(l7++x12)))
 else
 some (.inr l7)
def Qk9 (l10:(List Qk)):Option (List Qk):=
 some l10
def QjZ (n1:TNet)(m2:(List (List (Int×Int))))(most3:Int):Option (List Qk):=
 (QE (fun st=>Qfu n1 m2 most3 st.1 st.2) (0,([]:List Qk))).bind (fun q=>Qk9 q)
theorem QrH (n1:TNet)(m2:(List (List (Int×Int))))(most3:Int){r:(List Qk)}(h:QjZ n1 m2 most3=some r):Qc Tryz.prog 45 [.agg (Qd n1),.sl 1 (m2.map Qg),.i .i64 most3] [] (Gives (.own 30000 r.length) [(30000,.arr 4 (r.map Qj))]):=by
 refine Qc.walk 27 Tryz.func45 rfl Tryz.ntmps45 rfl fun C hC=>?_
 unfold QjZ at h
 refine Qa hC [.n 16,.o (.ln n1.Tasks.length),.n 4,.adopt 7 15 4,.sayO 15 (.arr 4 (([]:List Qk).map Qj)),.say 7 (.own 15 ([]:List Qk).length),.keep [1,2,3,7,11,12] [3,15]] rfl ⟨⟨⟨tt_,Qh⟩,rfl⟩,(congrArg (fun n=>V.own 15 n) (by simp))⟩ ?_
 obtain⟨l10,hl14,h⟩:=Qb h
 refine AK.loop (body:=(fun st=>Qfu n1 m2 most3 st.1 st.2)) (fun st σ=>σ=⟨[(1,.sl 1 (m2.map Qg)),(2,.i .i64 most3),(3,.loc 3 0 0),(7,.own 15 st.2.length),(11,.i .i64 (n1.Tasks.length:Int)),(12,.i .i64 st.1)],[(3,.var (Qd n1)),(15,.arr 4 (st.2.map Qj))]⟩) (fun q e σ=>e=.exit 0∧σ=⟨[(7,.own 15 q.length)],[(15,.arr 4 (q.map Qj))]⟩) hl14 rfl ?_ ?_
 ·rintro ⟨x6,l7⟩ o σ rfl h
  replace h:Qfu n1 m2 most3 x6 l7=some o:=h
  unfold Qfu at h
  refine Qa hC [.n 6] rfl tt_ ?_
  rcases bifE h with⟨hc11,h⟩|⟨hc11,h⟩
  ·obtain⟨x12,hx12,h⟩:=Qb h
   obtain⟨_,hk13,h⟩:=Qb h
   replace hk13:=chkE hk13
   refine Qa hC [.br true,.n 12,.v .no [] (.agg (Qd n1)),.n 6,.o (.c false [.d,.d,.d,.d] (.sl 4 (x12.map Qj))),.app ((l7++x12).map Qj) (l7++x12).length,.n 8,.keep [1,2,3,7,11,12] [3,15]] rfl ⟨⟨⟨⟨tt_,hc11⟩,rfl⟩,(Qqw _ _ _ _ hx12)⟩,⟨Qh,QeL hk13 Qh,Qdm,QgU Qh⟩⟩ ?_
   cases h
   exact rndN rfl rfl
  ·refine Qa hC [.br false,.n 2,.keep [7] [15]] rfl ⟨tt_,hc11⟩ ?_
   cases h
   exact rndX rfl (an_ rfl rfl)
 ·replace h:Qk9 l10=some r:=h
  unfold Qk9 at h
  rintro e σ ⟨rfl,rfl⟩
  refine Qa hC [.n 9,.keep [6] [15],.ren 15 30000,.keep [6] [30000]] rfl tt_ ?_
  cases h
  exact AK.done (ex_ [_] (an_ (an_ rfl tt_) (gives ⟨rfl,tt_⟩)))
def QdT (picks3:(List Int))(n1:TNet)(m8:(List (List (Int×Int))))(x9:Int)(l10:(List Qk)):Option (((List (List (Int×Int)))×Int×(List Qk))⊕((List Qk)⊕(List Qk))):=
 bif (decide (x9<(picks3.length:Int)))then
 (idx picks3 x9).bind fun e17=>
 (QjZ n1 m8 4096).bind fun x18=>
 bif ((x18.length:Int)==0)then
 some (.inr (.inl l10))
 else
 (chk ((x18.length:Int) != 0)).bind fun _=>
 (chk ((x18.length:Int) != 0)).bind fun _=>
 (idx x18 (Int.tmod (w64 ((Int.tmod e17 (x18.length:Int))+(x18.length:Int))) (x18.length:Int))).bind fun e22=>
 (QbO n1 m8 e22).bind fun x23=>
 bif (x23.2 != 0)then
 some (.inr (.inl l10))
 else
 (chk (decide (l10.length+([e22]:List Qk).length≤4294967296))).bind fun _=>
 some (.inl (x23.1,(w64 (x9+1)),(l10++([e22]:List Qk))))
 else
 some (.inr (.inr l10))
def Qj0 (l14:(List Qk)):Option (List Qk):=
 some l14
def Qj1 (l15:(List Qk)):Option (List Qk):=
 some l15
def Qgv (n1:TNet)(m2:(List (List (Int×Int))))(picks3:(List Int)):Option (List Qk):=
 (QE (fun st=>QdT picks3 n1 st.1 st.2.1 st.2.2) (m2,0,([]:List Qk))).bind (Sum.elim (fun q=>Qj0 q) (fun q=>Qj1 q))
theorem Qmn (n1:TNet)(m2:(List (List (Int×Int))))(picks3:(List Int)){r:(List Qk)}(h:Qgv n1 m2 picks3=some r):Qc Tryz.prog 22 [.agg (Qd n1),.sl 1 (m2.map Qg),.sl 1 (picks3.map Qe)] [] (Gives (.own 30000 r.length) [(30000,.arr 4 (r.map Qj))]):=by
 refine Qc.walk 57 Tryz.func22 rfl Tryz.ntmps22 rfl fun C hC=>?_
 unfold Qgv at h
 refine Qa hC [.n 15,.o (.ln picks3.length),.n 4,.adopt 7 50 4,.sayO 50 (.arr 4 (([]:List Qk).map Qj)),.say 7 (.own 50 ([]:List Qk).length),.keep [1,3,7,14,15,16] [3,50]] rfl ⟨⟨⟨tt_,Qh⟩,rfl⟩,(congrArg (fun n=>V.own 50 n) (by simp))⟩ ?_
 obtain⟨o26,hl26,h⟩:=Qb h
 refine AK.loop (body:=(fun st=>QdT picks3 n1 st.1 st.2.1 st.2.2)) (fun st σ=>σ=⟨[(1,.sl 1 (st.1.map Qg)),(3,.loc 3 0 0),(7,.own 50 st.2.2.length),(14,.sl 1 (picks3.map Qe)),(15,.i .i64 (picks3.length:Int)),(16,.i .i64 st.2.1)],[(3,.var (Qd n1)),(50,.arr 4 (st.2.2.map Qj))]⟩) (Sum.elim (fun q e σ=>e=.ret∧σ=⟨[(6,.own 50 q.length)],[(50,.arr 4 (q.map Qj))]⟩) (fun q e σ=>e=.exit 0∧σ=⟨[(7,.own 50 q.length)],[(50,.arr 4 (q.map Qj))]⟩)) hl26 rfl ?_ ?_
 ·rintro ⟨m8,x9,l10⟩ o σ rfl h
  replace h:QdT picks3 n1 m8 x9 l10=some o:=h
  unfold QdT at h
  refine Qa hC [.n 6] rfl tt_ ?_
  rcases bifE h with⟨hc16,h⟩|⟨hc16,h⟩
  ·obtain⟨e17,he17,h⟩:=Qb h
   obtain⟨x18,hx18,h⟩:=Qb h
   refine Qa hC [.br true,.n 6,.o (.row (Qe e17)),.n 6,.v .no [] (.agg (Qd n1)),.n 1,.o (.co false [.d,.d,.d] 4 (x18.map Qj) x18.length),.n 11] rfl ⟨⟨⟨⟨tt_,hc16⟩,(idxM he17)⟩,rfl⟩,⟨(QrH _ _ _ hx18),Qh,.inl rfl⟩⟩ ?_
   rcases bifE h with⟨hc19,h⟩|⟨hc19,h⟩
   ·refine Qa hC [.br true,.n 10,.keep [6] [50]] rfl ⟨tt_,hc19⟩ ?_
    cases h
    exact rndR rfl (an_ rfl rfl)
   ·obtain⟨_,hk20,h⟩:=Qb h
    replace hk20:=chkE hk20
    obtain⟨_,hk21,h⟩:=Qb h
    replace hk21:=chkE hk21
    obtain⟨e22,he22,h⟩:=Qb h
    obtain⟨x23,hx23,h⟩:=Qb h
    refine Qa hC [.br false,.n 16,.v (.row (Qj e22)) [] (.agg (Qj e22)),.n 2,.sayO 11 (.var (Qj e22)),.n 4,.v .no [] (.agg (Qd n1)),.n 1,.v .no [] (.agg (Qj e22)),.o (.c false [.d,.d,.d] (.tup [.sl 1 (x23.1.map Qg),.i .i64 x23.2])),.n 14] rfl ⟨⟨⟨⟨⟨⟨⟨⟨⟨⟨tt_,hc19⟩,(neZ hk20)⟩,(neZ hk21)⟩,(Qdc he22 rfl)⟩,(QbJ (idxE he22).2)⟩,rfl⟩,rfl⟩,rfl⟩,rfl⟩,(Qh8 _ _ _ hx23)⟩ ?_
    rcases bifE h with⟨hc24,h⟩|⟨hc24,h⟩
    ·refine Qa hC [.br true,.n 10,.keep [6] [50]] rfl ⟨tt_,hc24⟩ ?_
     cases h
     exact rndR rfl (an_ rfl rfl)
    ·obtain⟨_,hk25,h⟩:=Qb h
     replace hk25:=chkE hk25
     refine Qa hC [.br false,.n 4,.v .no [] (.agg (Qj e22)),.v (.bd []) [] (.sl 4 (([e22]:List Qk).map Qj)),.app ((l10++([e22]:List Qk)).map Qj) (l10++([e22]:List Qk)).length,.n 10,.keep [1,3,7,14,15,16] [3,50]] rfl ⟨⟨⟨⟨tt_,hc24⟩,rfl⟩,rfl⟩,⟨Qh,QeL hk25 Qh,Qdm,QgU Qh⟩⟩ ?_
     cases h
     exact rndN rfl rfl
  ·refine Qa hC [.br false,.n 2,.keep [7] [50]] rfl ⟨tt_,hc16⟩ ?_
   cases h
   exact rndX rfl (an_ rfl rfl)
 ·rcases o26 with(l14 | l15)
  ·replace h:Qj0 l14=some r:=h
   unfold Qj0 at h
   rintro e σ ⟨rfl,rfl⟩
   refine Qa hC [.n 2,.keep [6] [50],.ren 50 30000,.keep [6] [30000]] rfl tt_ ?_
   cases h
   exact AK.done (ex_ [_] (an_ (an_ rfl tt_) (gives ⟨rfl,tt_⟩)))
  ·replace h:Qj1 l15=some r:=h
   unfold Qj1 at h
   rintro e σ ⟨rfl,rfl⟩
   refine Qa hC [.n 9,.keep [6] [50],.ren 50 30000,.keep [6] [30000]] rfl tt_ ?_
   cases h
   exact AK.done (ex_ [_] (an_ (an_ rfl tt_) (gives ⟨rfl,tt_⟩)))
def QhL (a1:(List (Int×Int)))(b2:(List (Int×Int)))(i6:Int):Option (Int⊕(Unit⊕Unit)):=
 bif (decide (i6<(a1.length:Int)))then
 (idx a1 i6).bind fun e9=>
 (idx b2 i6).bind fun e10=>
 bif (!((e9.1==e10.1)&&(e9.2==e10.2)))then
 some (.inr (.inl ()))
 else
 some (.inl (w64 (i6+1)))
 else
 some (.inr (.inr ()))
def Qj2 : Option Bool:=
 some false
def Qj3 : Option Bool:=
 some true
def QlP (a1:(List (Int×Int)))(b2:(List (Int×Int))):Option Bool:=
 bif ((a1.length:Int) != (b2.length:Int))then
 some false
 else
 (QE (fun st=>QhL a1 b2 st) 0).bind (Sum.elim (fun q=>Qj2) (fun q=>Qj3))
theorem Qqx (a1:(List (Int×Int)))(b2:(List (Int×Int))){r:Bool}(h:QlP a1 b2=some r):Qc Tryz.prog 43 [.sl 2 (a1.map Qt),.sl 2 (b2.map Qt)] [] (Gives (.b r) []):=by
 refine Qc.walk 26 Tryz.func43 rfl Tryz.ntmps43 rfl fun C hC=>?_
 unfold QlP at h
 refine Qa hC [.n 9,.o (.ln a1.length),.n 1,.o (.ln b2.length),.n 3] rfl ⟨⟨tt_,Qh⟩,Qh⟩ ?_
 rcases bifE h with⟨hc5,h⟩|⟨hc5,h⟩
 ·refine Qa hC [.br true,.n 7,.keep [4] []] rfl ⟨tt_,hc5⟩ ?_
  cases h
  exact AK.done (ex_ [_] (an_ (an_ rfl tt_) (gives tt_)))
 ·refine Qa hC [.br false,.n 9,.keep [0,1,5] []] rfl ⟨tt_,hc5⟩ ?_
  obtain⟨o12,hl12,h⟩:=Qb h
  refine AK.loop (body:=(fun st=>QhL a1 b2 st)) (fun st σ=>σ=⟨[(0,.sl 2 (a1.map Qt)),(1,.sl 2 (b2.map Qt)),(5,.i .i64 st)],[]⟩) (Sum.elim (fun q e σ=>e=.ret∧σ=⟨[(4,.b false)],[]⟩) (fun q e σ=>e=.exit 0∧σ=⟨[],[]⟩)) hl12 rfl ?_ ?_
  ·rintro i6 o σ rfl h
   replace h:QhL a1 b2 i6=some o:=h
   unfold QhL at h
   refine Qa hC [.n 5,.o (.ln a1.length),.n 3] rfl ⟨tt_,Qh⟩ ?_
   rcases bifE h with⟨hc8,h⟩|⟨hc8,h⟩
   ·obtain⟨e9,he9,h⟩:=Qb h
    obtain⟨e10,he10,h⟩:=Qb h
    refine Qa hC [.br true,.n 5,.keep [0,1,5] []] rfl ⟨tt_,hc8⟩ ?_
    refine AK.draw2 Qo hC mixed [.a .no none false,.a .no none false,.a (.row (Qt e9)) none false,.a .no (some ([],.agg (Qt e9))) false,.a .no none false,.a .no none false,.a (.row (Qt e10)) none false,.a .no (some ([],.agg (Qt e10))) false,.a (.any (.b (!((e9.1==e10.1)&&(e9.2==e10.2)))) none) none false] [] [] [0,1,5,25] [] rfl rfl rfl ⟨⟨⟨⟨⟨tt_,(idxM he9)⟩,rfl⟩,(idxM he10)⟩,rfl⟩,(fun σ h1 h2 _=>Stp.neAgg rfl rfl (bleN hC.n rfl) (h1 _ _ rfl) (h1 _ _ rfl) rfl rfl (QuS _ _ _ _))⟩ rfl (by kernel_rfl) rfl rfl rfl ?_
    refine Qa hC [.n 1] rfl tt_ ?_
    rcases bifE h with⟨hc11,h⟩|⟨hc11,h⟩
    ·refine Qa hC [.br true,.n 8,.keep [4] []] rfl ⟨tt_,hc11⟩ ?_
     cases h
     exact rndR rfl (an_ rfl rfl)
    ·refine Qa hC [.br false,.n 8,.keep [0,1,5] []] rfl ⟨tt_,hc11⟩ ?_
     cases h
     exact rndN rfl rfl
   ·refine Qa hC [.br false,.n 2,.keep [] []] rfl ⟨tt_,hc8⟩ ?_
    cases h
    exact rndX rfl (an_ rfl rfl)
  ·rcases o12 with(_ | _)
   ·replace h:Qj2=some r:=h
    unfold Qj2 at h
    rintro e σ ⟨rfl,rfl⟩
    refine Qa hC [.n 2,.keep [4] []] rfl tt_ ?_
    cases h
    exact AK.done (ex_ [_] (an_ (an_ rfl tt_) (gives tt_)))
   ·replace h:Qj3=some r:=h
    unfold Qj3 at h
    rintro e σ ⟨rfl,rfl⟩
    refine Qa hC [.n 8,.keep [4] []] rfl tt_ ?_
    cases h
    exact AK.done (ex_ [_] (an_ (an_ rfl tt_) (gives tt_)))
def Qfj (a1:(List (List (Int×Int))))(b2:(List (List (Int×Int))))(i6:Int):Option (Int⊕(Unit⊕Unit)):=
 bif (decide (i6<(a1.length:Int)))then
 (idx a1 i6).bind fun e9=>
 (idx b2 i6).bind fun e10=>
 (QlP e9 e10).bind fun x11=>
 bif (!x11)then
 some (.inr (.inl ()))
 else
 some (.inl (w64 (i6+1)))
 else
 some (.inr (.inr ()))
def Qhy : Option Bool:=
 some false
def Qhz : Option Bool:=
 some true
def Qjl (a1:(List (List (Int×Int))))(b2:(List (List (Int×Int)))):Option Bool:=
 bif ((a1.length:Int) != (b2.length:Int))then
 some false
 else
 (QE (fun st=>Qfj a1 b2 st) 0).bind (Sum.elim (fun q=>Qhy) (fun q=>Qhz))
theorem QnM (a1:(List (List (Int×Int))))(b2:(List (List (Int×Int)))){r:Bool}(h:Qjl a1 b2=some r):Qc Tryz.prog 18 [.sl 1 (a1.map Qg),.sl 1 (b2.map Qg)] [] (Gives (.b r) []):=by
 refine Qc.walk 27 Tryz.func18 rfl Tryz.ntmps18 rfl fun C hC=>?_
 unfold Qjl at h
 refine Qa hC [.n 9,.o (.ln a1.length),.n 1,.o (.ln b2.length),.n 3] rfl ⟨⟨tt_,Qh⟩,Qh⟩ ?_
 rcases bifE h with⟨hc5,h⟩|⟨hc5,h⟩
 ·refine Qa hC [.br true,.n 7,.keep [4] []] rfl ⟨tt_,hc5⟩ ?_
  cases h
  exact AK.done (ex_ [_] (an_ (an_ rfl tt_) (gives tt_)))
 ·refine Qa hC [.br false,.n 9,.keep [0,1,5] []] rfl ⟨tt_,hc5⟩ ?_
  obtain⟨o13,hl13,h⟩:=Qb h
  refine AK.loop (body:=(fun st=>Qfj a1 b2 st)) (fun st σ=>σ=⟨[(0,.sl 1 (a1.map Qg)),(1,.sl 1 (b2.map Qg)),(5,.i .i64 st)],[]⟩) (Sum.elim (fun q e σ=>e=.ret∧σ=⟨[(4,.b false)],[]⟩) (fun q e σ=>e=.exit 0∧σ=⟨[],[]⟩)) hl13 rfl ?_ ?_
  ·rintro i6 o σ rfl h
   replace h:Qfj a1 b2 i6=some o:=h
   unfold Qfj at h
   refine Qa hC [.n 5,.o (.ln a1.length),.n 3] rfl ⟨tt_,Qh⟩ ?_
   rcases bifE h with⟨hc8,h⟩|⟨hc8,h⟩
   ·obtain⟨e9,he9,h⟩:=Qb h
    obtain⟨e10,he10,h⟩:=Qb h
    obtain⟨x11,hx11,h⟩:=Qb h
    refine Qa hC [.br true,.n 5,.keep [0,1,5] []] rfl ⟨tt_,hc8⟩ ?_
    refine AK.draw2 Qo hC mixed [.a .no none false,.a .no none false,.a (.row (Qg e9)) none false,.a .no none false,.a .no none false,.a .no none false,.a (.row (Qg e10)) none false,.a .no none false,.a (.c false [.d,.d] (.b x11)) none false,.a .no none false] [] [] [0,1,5,26] [] rfl rfl rfl ⟨⟨⟨tt_,(idxM he9)⟩,(idxM he10)⟩,(Qqx _ _ hx11)⟩ rfl (by kernel_rfl) rfl rfl rfl ?_
    refine Qa hC [.n 1] rfl tt_ ?_
    rcases bifE h with⟨hc12,h⟩|⟨hc12,h⟩
    ·refine Qa hC [.br true,.n 8,.keep [4] []] rfl ⟨tt_,hc12⟩ ?_
     cases h
     exact rndR rfl (an_ rfl rfl)
    ·refine Qa hC [.br false,.n 8,.keep [0,1,5] []] rfl ⟨tt_,hc12⟩ ?_
     cases h
     exact rndN rfl rfl
   ·refine Qa hC [.br false,.n 2,.keep [] []] rfl ⟨tt_,hc8⟩ ?_
    cases h
    exact rndX rfl (an_ rfl rfl)
  ·rcases o13 with(_ | _)
   ·replace h:Qhy=some r:=h
    unfold Qhy at h
    rintro e σ ⟨rfl,rfl⟩
    refine Qa hC [.n 2,.keep [4] []] rfl tt_ ?_
    cases h
    exact AK.done (ex_ [_] (an_ (an_ rfl tt_) (gives tt_)))
   ·replace h:Qhz=some r:=h
    unfold Qhz at h
    rintro e σ ⟨rfl,rfl⟩
    refine Qa hC [.n 8,.keep [4] []] rfl tt_ ?_
    cases h
    exact AK.done (ex_ [_] (an_ (an_ rfl tt_) (gives tt_)))
def QY (s1:(List (Int×Int)))(s2:(List (Int×Int)))(x6:Int):Option (Int⊕(Unit⊕Unit)):=
 bif (decide (x6<(s1.length:Int)))then
 (idx s1 x6).bind fun e9=>
 (idx s2 x6).bind fun e10=>
 bif (!((e9.1==e10.1)&&(e9.2==e10.2)))then
 some (.inr (.inl ()))
 else
 some (.inl (w64 (x6+1)))
 else
 some (.inr (.inr ()))
def QcN : Option Bool:=
 some false
def QcO : Option Bool:=
 some true
def Qa9 (s1:(List (Int×Int)))(s2:(List (Int×Int))):Option Bool:=
 bif ((s1.length:Int) != (s2.length:Int))then
 some false
 else
 (QE (fun st=>QY s1 s2 st) 0).bind (Sum.elim (fun q=>QcN) (fun q=>QcO))
theorem Qjy (s1:(List (Int×Int)))(s2:(List (Int×Int))){r:Bool}(h:Qa9 s1 s2=some r):Qc Tryz.prog 93 [.sl 2 (s1.map Qt),.sl 2 (s2.map Qt)] [] (Gives (.b r) []):=by
 refine Qc.walk 26 Tryz.func93 rfl Tryz.ntmps93 rfl fun C hC=>?_
 unfold Qa9 at h
 refine Qa hC [.n 9,.o (.ln s1.length),.n 1,.o (.ln s2.length),.n 3] rfl ⟨⟨tt_,Qh⟩,Qh⟩ ?_
 rcases bifE h with⟨hc5,h⟩|⟨hc5,h⟩
 ·refine Qa hC [.br true,.n 7,.keep [4] []] rfl ⟨tt_,hc5⟩ ?_
  cases h
  exact AK.done (ex_ [_] (an_ (an_ rfl tt_) (gives tt_)))
 ·refine Qa hC [.br false,.n 6,.o (.ln s1.length),.n 4,.keep [0,1,12,13] []] rfl ⟨⟨tt_,hc5⟩,Qh⟩ ?_
  obtain⟨o12,hl12,h⟩:=Qb h
  refine AK.loop (body:=(fun st=>QY s1 s2 st)) (fun st σ=>σ=⟨[(0,.sl 2 (s1.map Qt)),(1,.sl 2 (s2.map Qt)),(12,.i .i64 (s1.length:Int)),(13,.i .i64 st)],[]⟩) (Sum.elim (fun q e σ=>e=.ret∧σ=⟨[(4,.b false)],[]⟩) (fun q e σ=>e=.exit 0∧σ=⟨[],[]⟩)) hl12 rfl ?_ ?_
  ·rintro x6 o σ rfl h
   replace h:QY s1 s2 x6=some o:=h
   unfold QY at h
   refine Qa hC [.n 6] rfl tt_ ?_
   rcases bifE h with⟨hc8,h⟩|⟨hc8,h⟩
   ·obtain⟨e9,he9,h⟩:=Qb h
    obtain⟨e10,he10,h⟩:=Qb h
    refine Qa hC [.br true,.n 11,.keep [0,1,5,12,13] []] rfl ⟨tt_,hc8⟩ ?_
    refine AK.draw2 Qo hC mixed [.a .no none false,.a .no none false,.a (.row (Qt e9)) none false,.a .no (some ([],.agg (Qt e9))) false,.a .no none false,.a .no none false,.a (.row (Qt e10)) none false,.a .no (some ([],.agg (Qt e10))) false,.a (.any (.b (!((e9.1==e10.1)&&(e9.2==e10.2)))) none) none false] [] [] [0,1,12,13,24] [] rfl rfl rfl ⟨⟨⟨⟨⟨tt_,(idxM he9)⟩,rfl⟩,(idxM he10)⟩,rfl⟩,(fun σ h1 h2 _=>Stp.neAgg rfl rfl (bleN hC.n rfl) (h1 _ _ rfl) (h1 _ _ rfl) rfl rfl (QuS _ _ _ _))⟩ rfl (by kernel_rfl) rfl rfl rfl ?_
    refine Qa hC [.n 1] rfl tt_ ?_
    rcases bifE h with⟨hc11,h⟩|⟨hc11,h⟩
    ·refine Qa hC [.br true,.n 8,.keep [4] []] rfl ⟨tt_,hc11⟩ ?_
     cases h
     exact rndR rfl (an_ rfl rfl)
    ·refine Qa hC [.br false,.n 7,.keep [0,1,12,13] []] rfl ⟨tt_,hc11⟩ ?_
     cases h
     exact rndN rfl rfl
   ·refine Qa hC [.br false,.n 2,.keep [] []] rfl ⟨tt_,hc8⟩ ?_
    cases h
    exact rndX rfl (an_ rfl rfl)
  ·rcases o12 with(_ | _)
   ·replace h:QcN=some r:=h
    unfold QcN at h
    rintro e σ ⟨rfl,rfl⟩
    refine Qa hC [.n 2,.keep [4] []] rfl tt_ ?_
    cases h
    exact AK.done (ex_ [_] (an_ (an_ rfl tt_) (gives tt_)))
   ·replace h:QcO=some r:=h
    unfold QcO at h
    rintro e σ ⟨rfl,rfl⟩
    refine Qa hC [.n 8,.keep [4] []] rfl tt_ ?_
    cases h
    exact AK.done (ex_ [_] (an_ (an_ rfl tt_) (gives tt_)))
def Qla (a1:(List (Int×Int)))(b2:(List (Int×Int))):Option Bool:=
 (Qcg a1).bind fun x6=>
 bif x6 then
 (Qcg b2).bind fun x8=>
 bif x8 then
 (Qa9 a1 b2).bind fun x10=>
 some x10
 else
 some false
 else
 some false
def Qi5 (x4:Bool):Option Bool:=
 some x4
def Qj4 (a1:(List (Int×Int)))(b2:(List (Int×Int))):Option Bool:=
 (Qla a1 b2).bind (fun x4=>Qi5 x4)
theorem QrI (a1:(List (Int×Int)))(b2:(List (Int×Int))){r:Bool}(h:Qj4 a1 b2=some r):Qc Tryz.prog 50 [.sl 2 (a1.map Qt),.sl 2 (b2.map Qt)] [] (Gives (.b r) []):=by
 refine Qc.walk 16 Tryz.func50 rfl Tryz.ntmps50 rfl fun C hC=>?_
 unfold Qj4 at h
 refine Qa hC [.n 6] rfl tt_ ?_
 obtain⟨x4,hv5,h⟩:=Qb h
 replace h:Qi5 x4=some r:=h
 refine AK.meetX (fun σ=>σ=⟨[(4,.b x4)],[]⟩) ?_ ?_
 ·replace h:=hv5
  unfold Qla at h
  obtain⟨x6,hx6,h⟩:=Qb h
  refine Qa hC [.n 2,.o (.c false [.d] (.b x6)),.n 1] rfl ⟨tt_,(Qgs _ hx6)⟩ ?_
  rcases bifE h with⟨hc7,h⟩|⟨hc7,h⟩
  ·obtain⟨x8,hx8,h⟩:=Qb h
   refine Qa hC [.say 7 (.b true),.n 1,.o (.c false [.d] (.b x8)),.n 2] rfl ⟨⟨tt_,(congrArg V.b hc7)⟩,(Qgs _ hx8)⟩ ?_
   rcases bifE h with⟨hc9,h⟩|⟨hc9,h⟩
   ·obtain⟨x10,hx10,h⟩:=Qb h
    refine Qa hC [.say 11 (.b true),.n 2,.o (.c false [.d,.d] (.b x10)),.n 3,.keep [4] []] rfl ⟨⟨tt_,(congrArg V.b hc9)⟩,(Qjy _ _ hx10)⟩ ?_
    cases h
    exact AK.met rfl
   ·refine Qa hC [.say 11 (.b false),.n 6,.keep [4] []] rfl ⟨tt_,(congrArg V.b hc9)⟩ ?_
    cases h
    exact AK.met rfl
  ·refine Qa hC [.say 7 (.b false),.n 10,.keep [4] []] rfl ⟨tt_,(congrArg V.b hc7)⟩ ?_
   cases h
   exact AK.met rfl
 ·rintro σ rfl
  replace h:Qi5 x4=some r:=h
  unfold Qi5 at h
  refine Qa hC [.n 2,.keep [4] []] rfl tt_ ?_
  cases h
  exact AK.done (ex_ [_] (an_ (an_ rfl tt_) (gives tt_)))
def Qx (s1:(List (List (Int×Int))))(s2:(List (List (Int×Int))))(x6:Int):Option (Int⊕(Unit⊕Unit)):=
 bif (decide (x6<(s1.length:Int)))then
 (idx s1 x6).bind fun e9=>
 (idx s2 x6).bind fun e10=>
 (Qj4 e9 e10).bind fun x11=>
 bif (!x11)then
 some (.inr (.inl ()))
 else
 some (.inl (w64 (x6+1)))
 else
 some (.inr (.inr ()))
def QV : Option Bool:=
 some false
def QW : Option Bool:=
 some true
def QL (s1:(List (List (Int×Int))))(s2:(List (List (Int×Int)))):Option Bool:=
 bif ((s1.length:Int) != (s2.length:Int))then
 some false
 else
 (QE (fun st=>Qx s1 s2 st) 0).bind (Sum.elim (fun q=>QV) (fun q=>QW))
theorem Qcy (s1:(List (List (Int×Int))))(s2:(List (List (Int×Int)))){r:Bool}(h:QL s1 s2=some r):Qc Tryz.prog 49 [.sl 1 (s1.map Qg),.sl 1 (s2.map Qg),.clo (.func 50) [] []] [] (Gives (.b r) []):=by
 refine Qc.walk 32 Tryz.func49 rfl Tryz.ntmps49 rfl fun C hC=>?_
 unfold QL at h
 refine Qa hC [.n 9,.o (.ln s1.length),.n 1,.o (.ln s2.length),.n 3] rfl ⟨⟨tt_,Qh⟩,Qh⟩ ?_
 rcases bifE h with⟨hc5,h⟩|⟨hc5,h⟩
 ·refine Qa hC [.br true,.n 7,.keep [6] []] rfl ⟨tt_,hc5⟩ ?_
  cases h
  exact AK.done (ex_ [_] (an_ (an_ rfl tt_) (gives tt_)))
 ·refine Qa hC [.br false,.n 6,.o (.ln s1.length),.n 4,.keep [1,2,15,16,17] []] rfl ⟨⟨tt_,hc5⟩,Qh⟩ ?_
  obtain⟨o13,hl13,h⟩:=Qb h
  refine AK.loop (body:=(fun st=>Qx s1 s2 st)) (fun st σ=>σ=⟨[(1,.sl 1 (s2.map Qg)),(2,.clo (.func 50) [] []),(15,.sl 1 (s1.map Qg)),(16,.i .i64 (s1.length:Int)),(17,.i .i64 st)],[]⟩) (Sum.elim (fun q e σ=>e=.ret∧σ=⟨[(6,.b false)],[]⟩) (fun q e σ=>e=.exit 0∧σ=⟨[],[]⟩)) hl13 rfl ?_ ?_
  ·rintro x6 o σ rfl h
   replace h:Qx s1 s2 x6=some o:=h
   unfold Qx at h
   refine Qa hC [.n 6] rfl tt_ ?_
   rcases bifE h with⟨hc8,h⟩|⟨hc8,h⟩
   ·obtain⟨e9,he9,h⟩:=Qb h
    obtain⟨e10,he10,h⟩:=Qb h
    obtain⟨x11,hx11,h⟩:=Qb h
    refine Qa hC [.br true,.n 7,.o (.row (Qg e9)),.n 9,.o (.row (Qg e10)),.n 9,.o (.c false [.d,.d] (.b x11)),.n 3] rfl ⟨⟨⟨⟨tt_,hc8⟩,(idxM he9)⟩,(idxM he10)⟩,(QrI _ _ hx11)⟩ ?_
    rcases bifE h with⟨hc12,h⟩|⟨hc12,h⟩
    ·refine Qa hC [.br true,.n 8,.keep [6] []] rfl ⟨tt_,hc12⟩ ?_
     cases h
     exact rndR rfl (an_ rfl rfl)
    ·refine Qa hC [.br false,.n 7,.keep [1,2,15,16,17] []] rfl ⟨tt_,hc12⟩ ?_
     cases h
     exact rndN rfl rfl
   ·refine Qa hC [.br false,.n 2,.keep [] []] rfl ⟨tt_,hc8⟩ ?_
    cases h
    exact rndX rfl (an_ rfl rfl)
  ·rcases o13 with(_ | _)
   ·replace h:QV=some r:=h
    unfold QV at h
    rintro e σ ⟨rfl,rfl⟩
    refine Qa hC [.n 2,.keep [6] []] rfl tt_ ?_
    cases h
    exact AK.done (ex_ [_] (an_ (an_ rfl tt_) (gives tt_)))
   ·replace h:QW=some r:=h
    unfold QW at h
    rintro e σ ⟨rfl,rfl⟩
    refine Qa hC [.n 8,.keep [6] []] rfl tt_ ?_
    cases h
    exact AK.done (ex_ [_] (an_ (an_ rfl tt_) (gives tt_)))
def Qf4 (a1:(List (List (Int×Int))))(b2:(List (List (Int×Int)))):Option Bool:=
 (QL a1 b2).bind fun x4=>
 some x4
theorem Qkv (a1:(List (List (Int×Int))))(b2:(List (List (Int×Int)))){r:Bool}(h:Qf4 a1 b2=some r):Qc Tryz.prog 25 [.sl 1 (a1.map Qg),.sl 1 (b2.map Qg)] [] (Gives (.b r) []):=by
 refine Qc.walk 8 Tryz.func25 rfl Tryz.ntmps25 rfl fun C hC=>?_
 unfold Qf4 at h
 obtain⟨x4,hx4,h⟩:=Qb h
 refine Qa hC [.n 9,.cm (.fn) [] [] [] [.d,.d,.d] [] (.b x4),.n 4,.keep [4] []] rfl ⟨tt_,(Qcy _ _ hx4)⟩ ?_
 cases h
 exact AK.done (ex_ [_] (an_ (an_ rfl tt_) (gives tt_)))
def QlQ (x3:((List (List (Int×Int)))×Int))(x4:((List (List (Int×Int)))×Int))(x5:((List (List (Int×Int)))×Int))(x6:((List (List (Int×Int)))×Int))(x7:((List (List (Int×Int)))×Int))(x8:(List Qk)):Option Bool:=
 bif (x3.2==0)then
 (Qjl x3.1 ([([(2,1)]:List (Int×Int)),([(3,1)]:List (Int×Int)),([]:(List (Int×Int)))]:List (List (Int×Int)))).bind fun x12=>
 bif x12 then
 bif (x4.2==0)then
 bif (x5.2==0)then
 (Qf4 x5.1 ([([(2,2)]:List (Int×Int)),([]:(List (Int×Int))),([(0,5)]:List (Int×Int))]:List (List (Int×Int)))).bind fun x16=>
 bif x16 then
 bif (x6.2==10)then
 bif (x7.2==2)then
 some ((x8.length:Int)==2)
 else
 some false
 else
 some false
 else
 some false
 else
 some false
 else
 some false
 else
 some false
 else
 some false
def Qg2 (x9:Bool):Option Bool:=
 some x9
def Qi6  : Option Bool:=
 (Qmu).bind fun x2=>
 (QbO x2 ([([(2,2)]:List (Int×Int)),([]:(List (Int×Int))),([(0,5)]:List (Int×Int))]:List (List (Int×Int))) (Qk.mk 0 ([2]:List Int) ([0]:List Int) ([0]:List Int))).bind fun x3=>
 (Qck x2 ([([(2,2)]:List (Int×Int)),([]:(List (Int×Int))),([(0,5)]:List (Int×Int))]:List (List (Int×Int))) (Qk.mk 0 ([2]:List Int) ([0]:List Int) ([0]:List Int))).bind fun x4=>
 (Qf3 x2 x4.1 (Qk.mk 0 ([2]:List Int) ([0]:List Int) ([0]:List Int))).bind fun x5=>
 (QbO x2 x3.1 (Qk.mk 0 ([1]:List Int) ([0]:List Int) ([0]:List Int))).bind fun x6=>
 (Qis x2 ([([(2,2)]:List (Int×Int)),([]:(List (Int×Int))),([(0,5)]:List (Int×Int))]:List (List (Int×Int))) ([(Qk.mk 0 ([2]:List Int) ([0]:List Int) ([0]:List Int)),(Qk.mk 0 ([2]:List Int) ([0]:List Int) ([0]:List Int)),(Qk.mk 0 ([2]:List Int) ([0]:List Int) ([0]:List Int))]:List Qk)).bind fun x7=>
 (Qgv x2 ([([(2,2)]:List (Int×Int)),([]:(List (Int×Int))),([(0,5)]:List (Int×Int))]:List (List (Int×Int))) ([7,(-1),0]:List Int)).bind fun x8=>
 (QlQ x3 x4 x5 x6 x7 x8).bind (fun x9=>Qg2 x9)
theorem QpK  {r:Bool}(h:Qi6  = some r):Qc Tryz.prog 8 [] [] (Gives (.b r) []):=by
 refine Qc.walk 107 Tryz.func8 rfl Tryz.ntmps8 rfl fun C hC=>?_
 unfold Qi6 at h
 obtain⟨x2,hx2,h⟩:=Qb h
 obtain⟨x3,hx3,h⟩:=Qb h
 obtain⟨x4,hx4,h⟩:=Qb h
 obtain⟨x5,hx5,h⟩:=Qb h
 obtain⟨x6,hx6,h⟩:=Qb h
 obtain⟨x7,hx7,h⟩:=Qb h
 obtain⟨x8,hx8,h⟩:=Qb h
 refine Qa hC [.n 7,.o (.c false [] (.agg (Qd x2))),.n 2,.sayO 1 (.var (Qd x2)),.n 4,.v .no [] (.agg (Qt (2,2))),.v (.bd []) [] (.sl 2 (([(2,2)]:List (Int×Int)).map Qt)),.v .no [] (.agg (Qt (0,5))),.v (.bd []) [] (.sl 2 (([(0,5)]:List (Int×Int)).map Qt)),.v (.bd [none,some 2,none]) [] (.sl 1 (([([(2,2)]:List (Int×Int)),([]:(List (Int×Int))),([(0,5)]:List (Int×Int))]:List (List (Int×Int))).map Qg)),.n 5,.v (.bd []) [] (.sl 1 (([2]:List Int).map Qe)),.v (.bd []) [] (.sl 1 (([0]:List Int).map Qe)),.v (.bd []) [] (.sl 1 (([0]:List Int).map Qe)),.v .no [] (.agg (Qj (Qk.mk 0 ([2]:List Int) ([0]:List Int) ([0]:List Int)))),.n 2,.sayO 3 (.var (Qj (Qk.mk 0 ([2]:List Int) ([0]:List Int) ([0]:List Int)))),.n 4,.v .no [] (.agg (Qd x2)),.n 1,.v .no [] (.agg (Qj (Qk.mk 0 ([2]:List Int) ([0]:List Int) ([0]:List Int)))),.o (.c false [.d,.d,.d] (.tup [.sl 1 (x3.1.map Qg),.i .i64 x3.2])),.n 9,.v .no [] (.agg (Qd x2)),.n 1,.v .no [] (.agg (Qj (Qk.mk 0 ([2]:List Int) ([0]:List Int) ([0]:List Int)))),.o (.c false [.d,.d,.d] (.tup [.sl 1 (x4.1.map Qg),.i .i64 x4.2])),.n 9,.v .no [] (.agg (Qd x2)),.n 1,.v .no [] (.agg (Qj (Qk.mk 0 ([2]:List Int) ([0]:List Int) ([0]:List Int)))),.o (.c false [.d,.d,.d] (.tup [.sl 1 (x5.1.map Qg),.i .i64 x5.2])),.n 9,.v .no [] (.agg (Qd x2)),.n 1,.v (.bd []) [] (.sl 1 (([1]:List Int).map Qe)),.v (.bd []) [] (.sl 1 (([0]:List Int).map Qe)),.v (.bd []) [] (.sl 1 (([0]:List Int).map Qe)),.v .no [] (.agg (Qj (Qk.mk 0 ([1]:List Int) ([0]:List Int) ([0]:List Int)))),.o (.c false [.d,.d,.d] (.tup [.sl 1 (x6.1.map Qg),.i .i64 x6.2])),.n 9,.v .no [] (.agg (Qd x2)),.n 1,.v .no [] (.agg (Qj (Qk.mk 0 ([2]:List Int) ([0]:List Int) ([0]:List Int)))),.v .no [] (.agg (Qj (Qk.mk 0 ([2]:List Int) ([0]:List Int) ([0]:List Int)))),.v .no [] (.agg (Qj (Qk.mk 0 ([2]:List Int) ([0]:List Int) ([0]:List Int)))),.v (.bd []) [] (.sl 4 (([(Qk.mk 0 ([2]:List Int) ([0]:List Int) ([0]:List Int)),(Qk.mk 0 ([2]:List Int) ([0]:List Int) ([0]:List Int)),(Qk.mk 0 ([2]:List Int) ([0]:List Int) ([0]:List Int))]:List Qk).map Qj)),.o (.c false [.d,.d,.d] (.tup [.sl 1 (x7.1.map Qg),.i .i64 x7.2])),.n 9,.v .no [] (.agg (Qd x2)),.n 1,.v (.bd []) [] (.sl 1 (([7,(-1),0]:List Int).map Qe)),.o (.co false [.d,.d,.d] 4 (x8.map Qj) x8.length),.n 4] rfl ⟨⟨⟨⟨⟨⟨⟨⟨⟨⟨⟨⟨⟨⟨⟨⟨⟨⟨⟨⟨⟨⟨⟨⟨⟨⟨⟨⟨⟨⟨⟨⟨⟨⟨⟨⟨tt_,(Qq2  hx2)⟩,rfl⟩,rfl⟩,rfl⟩,rfl⟩,rfl⟩,rfl⟩,rfl⟩,rfl⟩,rfl⟩,rfl⟩,rfl⟩,rfl⟩,rfl⟩,(Qh8 _ _ _ hx3)⟩,rfl⟩,rfl⟩,(Qks _ _ _ hx4)⟩,rfl⟩,rfl⟩,(QmP _ _ _ hx5)⟩,rfl⟩,rfl⟩,rfl⟩,rfl⟩,rfl⟩,(Qh8 _ _ _ hx6)⟩,rfl⟩,rfl⟩,rfl⟩,rfl⟩,rfl⟩,(QnJ _ _ _ hx7)⟩,rfl⟩,rfl⟩,⟨(Qmn _ _ _ hx8),Qh,.inl rfl⟩⟩ ?_
 obtain⟨x9,hv10,h⟩:=Qb h
 replace h:Qg2 x9=some r:=h
 refine AK.meetX (fun σ=>σ=⟨[(0,.b x9)],[]⟩) ?_ ?_
 ·replace h:=hv10
  unfold QlQ at h
  refine Qa hC [.n 4] rfl tt_ ?_
  rcases bifE h with⟨hc11,h⟩|⟨hc11,h⟩
  ·obtain⟨x12,hx12,h⟩:=Qb h
   refine Qa hC [.say 72 (.b true),.n 1,.v .no [] (.agg (Qt (2,1))),.v (.bd []) [] (.sl 2 (([(2,1)]:List (Int×Int)).map Qt)),.v .no [] (.agg (Qt (3,1))),.v (.bd []) [] (.sl 2 (([(3,1)]:List (Int×Int)).map Qt)),.v (.bd [none,none,some 2]) [] (.sl 1 (([([(2,1)]:List (Int×Int)),([(3,1)]:List (Int×Int)),([]:(List (Int×Int)))]:List (List (Int×Int))).map Qg)),.o (.c false [.d,.d] (.b x12)),.n 2] rfl ⟨⟨⟨⟨⟨⟨⟨tt_,(congrArg V.b hc11)⟩,rfl⟩,rfl⟩,rfl⟩,rfl⟩,rfl⟩,(QnM _ _ hx12)⟩ ?_
   rcases bifE h with⟨hc13,h⟩|⟨hc13,h⟩
   ·refine Qa hC [.say 81 (.b true),.n 4] rfl ⟨tt_,(congrArg V.b hc13)⟩ ?_
    rcases bifE h with⟨hc14,h⟩|⟨hc14,h⟩
    ·refine Qa hC [.say 85 (.b true),.n 4] rfl ⟨tt_,(congrArg V.b hc14)⟩ ?_
     rcases bifE h with⟨hc15,h⟩|⟨hc15,h⟩
     ·obtain⟨x16,hx16,h⟩:=Qb h
      refine Qa hC [.say 89 (.b true),.n 2,.o (.c false [.d,.d] (.b x16)),.n 2] rfl ⟨⟨tt_,(congrArg V.b hc15)⟩,(Qkv _ _ hx16)⟩ ?_
      rcases bifE h with⟨hc17,h⟩|⟨hc17,h⟩
      ·refine Qa hC [.say 94 (.b true),.n 4] rfl ⟨tt_,(congrArg V.b hc17)⟩ ?_
       rcases bifE h with⟨hc18,h⟩|⟨hc18,h⟩
       ·refine Qa hC [.say 98 (.b true),.n 4] rfl ⟨tt_,(congrArg V.b hc18)⟩ ?_
        rcases bifE h with⟨hc19,h⟩|⟨hc19,h⟩
        ·refine Qa hC [.say 102 (.b true),.n 6,.keep [0] []] rfl ⟨tt_,(congrArg V.b hc19)⟩ ?_
         cases h
         exact AK.met rfl
        ·refine Qa hC [.say 102 (.b false),.n 6,.keep [0] []] rfl ⟨tt_,(congrArg V.b hc19)⟩ ?_
         cases h
         exact AK.met rfl
       ·refine Qa hC [.say 98 (.b false),.n 10,.keep [0] []] rfl ⟨tt_,(congrArg V.b hc18)⟩ ?_
        cases h
        exact AK.met rfl
      ·refine Qa hC [.say 94 (.b false),.n 14,.keep [0] []] rfl ⟨tt_,(congrArg V.b hc17)⟩ ?_
       cases h
       exact AK.met rfl
     ·refine Qa hC [.say 89 (.b false),.n 19,.keep [0] []] rfl ⟨tt_,(congrArg V.b hc15)⟩ ?_
      cases h
      exact AK.met rfl
    ·refine Qa hC [.say 85 (.b false),.n 23,.keep [0] []] rfl ⟨tt_,(congrArg V.b hc14)⟩ ?_
     cases h
     exact AK.met rfl
   ·refine Qa hC [.say 81 (.b false),.n 27,.keep [0] []] rfl ⟨tt_,(congrArg V.b hc13)⟩ ?_
    cases h
    exact AK.met rfl
  ·refine Qa hC [.say 72 (.b false),.n 36,.keep [0] []] rfl ⟨tt_,(congrArg V.b hc11)⟩ ?_
   cases h
   exact AK.met rfl
 ·rintro σ rfl
  replace h:Qg2 x9=some r:=h
  unfold Qg2 at h
  refine Qa hC [.n 2,.keep [0] []] rfl tt_ ?_
  cases h
  exact AK.done (ex_ [_] (an_ (an_ rfl tt_) (gives tt_)))
def QeC (e1:Qf)(rec_law04_few:Qf→Int→Option Int)(deep2:Int)(n8:Int)(i9:Int):Option ((Int×Int)⊕(Unit⊕Int)):=
 bif (decide (i9<(e1.Kids.length:Int)))then
 (idx e1.Kids i9).bind fun e14=>
 (rec_law04_few e14 (w64 (deep2-1))).bind fun x15=>
 bif (x15==0)then
 some (.inr (.inl ()))
 else
 bif (decide ((w64 ((w64 (n8-500))+x15))≤1))then
 some (.inr (.inl ()))
 else
 some (.inl ((w64 ((w64 (n8-500))+x15)),(w64 (i9+1))))
 else
 some (.inr (.inr n8))
def Qkw : Option Int:=
 some 0
def Qkx (n12:Int):Option Int:=
 some (w64 (n12-1))
def Qi7 (rec_law04_few:Qf→Int→Option Int)(e1:Qf)(deep2:Int):Option Int:=
 bif ((decide (deep2≤0))||(decide (9<(e1.Kids.length:Int))))then
 some 0
 else
 (QE (fun st=>QeC e1 rec_law04_few deep2 st.1 st.2) (500,0)).bind (Sum.elim (fun q=>Qkw) (fun q=>Qkx q))
def Qd6 : Nat→Qf→Int→Option Int
 | 0,_,_=>none
 | n+1,e1,deep2=>Qi7 (Qd6 n) e1 deep2
def Qmz (e1:Qf)(deep2:Int):Option Int:=Qd6 (SizeOf.sizeOf e1) e1 deep2
theorem QpL (rec_law04_few:Qf→Int→Option Int)(hrec_law04_few:∀(e1:Qf) (deep2:Int) {r:Int},rec_law04_few e1 deep2=some r→Qc Tryz.prog 99 [.agg (Ql e1),.i .i64 deep2] [] (Gives (.i .i64 r) []))(e1:Qf)(deep2:Int){r:Int}(h:Qi7 rec_law04_few e1 deep2=some r):Qc Tryz.prog 99 [.agg (Ql e1),.i .i64 deep2] [] (Gives (.i .i64 r) []):=by
 refine Qc.walk 41 Tryz.func99 rfl Tryz.ntmps99 rfl fun C hC=>?_
 unfold Qi7 at h
 refine Qa hC [.n 8] rfl tt_ ?_
 refine AK.meetX (fun σ=>σ=⟨[(1,.i .i64 deep2),(2,.loc 2 0 0),(15,.b ((decide (deep2≤0))||(decide (9<(e1.Kids.length:Int)))))],[(2,.var (Ql e1))]⟩) ?_ ?_
 ·refine Qa hC [.n 4] rfl tt_ ?_
  rcases QK (decide (deep2≤0))with hc6 | hc6
  ·refine Qa hC [.say 10 (.b true),.n 6,.say 15 (.b ((decide (deep2≤0))||(decide (9<(e1.Kids.length:Int))))),.keep [1,2,15] [2]] rfl ⟨⟨tt_,(congrArg V.b hc6)⟩,(congrArg V.b (orT hc6 rfl))⟩ ?_
   exact AK.met rfl
  ·refine Qa hC [.say 10 (.b false),.n 2,.o (.ln e1.Kids.length),.n 3,.say 15 (.b ((decide (deep2≤0))||(decide (9<(e1.Kids.length:Int))))),.keep [1,2,15] [2]] rfl ⟨⟨⟨tt_,(congrArg V.b hc6)⟩,Qil _⟩,(congrArg V.b (orF hc6 rfl))⟩ ?_
   exact AK.met rfl
 ·rintro σ rfl
  refine Qa hC [.n 1] rfl tt_ ?_
  rcases bifE h with⟨hc7,h⟩|⟨hc7,h⟩
  ·refine Qa hC [.br true,.n 7,.keep [4] []] rfl ⟨tt_,hc7⟩ ?_
   cases h
   exact AK.done (ex_ [_] (an_ (an_ rfl tt_) (gives tt_)))
  ·refine Qa hC [.br false,.n 14,.keep [1,2,5,6] [2]] rfl ⟨tt_,hc7⟩ ?_
   obtain⟨o18,hl18,h⟩:=Qb h
   refine AK.loop (body:=(fun st=>QeC e1 rec_law04_few deep2 st.1 st.2)) (fun st σ=>σ=⟨[(1,.i .i64 deep2),(2,.loc 2 0 0),(5,.i .i64 st.1),(6,.i .i64 st.2)],[(2,.var (Ql e1))]⟩) (Sum.elim (fun q e σ=>e=.ret∧σ=⟨[(4,.i .i64 0)],[]⟩) (fun q e σ=>e=.exit 0∧σ=⟨[(5,.i .i64 q)],[]⟩)) hl18 rfl ?_ ?_
   ·rintro ⟨n8,i9⟩ o σ rfl h
    replace h:QeC e1 rec_law04_few deep2 n8 i9=some o:=h
    unfold QeC at h
    refine Qa hC [.n 6,.o (.ln e1.Kids.length),.n 3] rfl ⟨tt_,Qil _⟩ ?_
    rcases bifE h with⟨hc13,h⟩|⟨hc13,h⟩
    ·obtain⟨e14,he14,h⟩:=Qb h
     obtain⟨x15,hx15,h⟩:=Qb h
     refine Qa hC [.br true,.n 9,.o (.row (Ql e14)),.v .no [] (.agg (Ql e14)),.n 2,.o (.c false [.d,.d] (.i .i64 x15)),.n 10] rfl ⟨⟨⟨⟨tt_,hc13⟩,(Qdw he14)⟩,rfl⟩,(hrec_law04_few _ _ hx15)⟩ ?_
     rcases bifE h with⟨hc16,h⟩|⟨hc16,h⟩
     ·refine Qa hC [.br true,.n 9,.keep [4] []] rfl ⟨tt_,hc16⟩ ?_
      cases h
      exact rndR rfl (an_ rfl rfl)
     ·refine Qa hC [.br false,.n 17] rfl ⟨tt_,hc16⟩ ?_
      rcases bifE h with⟨hc17,h⟩|⟨hc17,h⟩
      ·refine Qa hC [.br true,.n 8,.keep [4] []] rfl ⟨tt_,hc17⟩ ?_
       cases h
       exact rndR rfl (an_ rfl rfl)
      ·refine Qa hC [.br false,.n 8,.keep [1,2,5,6] [2]] rfl ⟨tt_,hc17⟩ ?_
       cases h
       exact rndN rfl rfl
    ·refine Qa hC [.br false,.n 2,.keep [5] []] rfl ⟨tt_,hc13⟩ ?_
     cases h
     exact rndX rfl (an_ rfl rfl)
   ·rcases o18 with(_ | n12)
    ·replace h:Qkw=some r:=h
     unfold Qkw at h
     rintro e σ ⟨rfl,rfl⟩
     refine Qa hC [.n 2,.keep [4] []] rfl tt_ ?_
     cases h
     exact AK.done (ex_ [_] (an_ (an_ rfl tt_) (gives tt_)))
    ·replace h:Qkx n12=some r:=h
     unfold Qkx at h
     rintro e σ ⟨rfl,rfl⟩
     refine Qa hC [.n 10,.keep [4] []] rfl tt_ ?_
     cases h
     exact AK.done (ex_ [_] (an_ (an_ rfl tt_) (gives tt_)))
theorem QlR : ∀(fuel:Nat) (e1:Qf) (deep2:Int) {r:Int},Qd6 fuel e1 deep2=some r→Qc Tryz.prog 99 [.agg (Ql e1),.i .i64 deep2] [] (Gives (.i .i64 r) [])
 | 0,_,_,_,h=>by cases h
 | n+1,e1,deep2,_,h=>QpL (Qd6 n) (fun _ _ _ h=>QlR n _ _ h) e1 deep2 h
theorem Qq6 (e1:Qf)(deep2:Int){r:Int}(h:Qmz e1 deep2=some r):Qc Tryz.prog 99 [.agg (Ql e1),.i .i64 deep2] [] (Gives (.i .i64 r) []):=QlR _ e1 deep2 h
def Qf5 (e1:Qf):Option Bool:=
 (Qmz e1 60).bind fun x3=>
 some (decide (0<x3))
theorem Qky (e1:Qf){r:Bool}(h:Qf5 e1=some r):Qc Tryz.prog 56 [.agg (Ql e1)] [] (Gives (.b r) []):=by
 refine Qc.walk 6 Tryz.func56 rfl Tryz.ntmps56 rfl fun C hC=>?_
 unfold Qf5 at h
 obtain⟨x3,hx3,h⟩:=Qb h
 refine Qa hC [.n 8,.v .no [] (.agg (Ql e1)),.o (.c false [.d,.d] (.i .i64 x3)),.n 5,.keep [2] []] rfl ⟨⟨tt_,rfl⟩,(Qq6 _ _ hx3)⟩ ?_
 cases h
 exact AK.done (ex_ [_] (an_ (an_ rfl tt_) (gives tt_)))
def Qkz (n1:TNet)(i9:Int)(parts8:Int)(e14:Qy):Option Bool:=
 (idx n1.Colours i9).bind fun e17=>
 bif (decide (100<(e17.Name.size:Int)))then
 some true
 else
 some (decide (400<(w64 (parts8+(e14.Names.length:Int)))))
def QeD (n1:TNet)(i9:Int)(k20:Int):Option (Int⊕(Unit⊕Unit)):=
 (idx n1.Colours i9).bind fun e22=>
 bif (decide (k20<(e22.Names.length:Int)))then
 (idx n1.Colours i9).bind fun e24=>
 (idx e24.Names k20).bind fun e25=>
 bif (decide (100<(e25.size:Int)))then
 some (.inr (.inl ()))
 else
 some (.inl (w64 (k20+1)))
 else
 some (.inr (.inr ()))
def QkA : Option ((Int×Int)⊕(Unit⊕Int)):=
 some (.inr (.inl ()))
def QkB (parts8:Int)(e14:Qy)(i9:Int):Option ((Int×Int)⊕(Unit⊕Int)):=
 some (.inl ((w64 (parts8+(e14.Names.length:Int))),(w64 (i9+1))))
def Qgw (n1:TNet)(i9:Int)(parts8:Int)(e14:Qy)(x15:Bool):Option ((Int×Int)⊕(Unit⊕Int)):=
 bif x15 then
 some (.inr (.inl ()))
 else
 (QE (fun st=>QeD n1 i9 st) 0).bind (Sum.elim (fun q=>QkA) (fun q=>QkB parts8 e14 i9))
def QeE (n1:TNet)(parts8:Int)(i9:Int):Option ((Int×Int)⊕(Unit⊕Int)):=
 bif (decide (i9<(n1.Colours.length:Int)))then
 (idx n1.Colours i9).bind fun e14=>
 (Qkz n1 i9 parts8 e14).bind (fun x15=>Qgw n1 i9 parts8 e14 x15)
 else
 some (.inr (.inr parts8))
def QkC : Option Bool:=
 some false
def QeF (n1:TNet)(parts29:Int)(i30:Int):Option ((Int×Int)⊕(Unit⊕Int)):=
 bif (decide (i30<(n1.Places.length:Int)))then
 (idx n1.Places i30).bind fun e35=>
 (idx n1.Places i30).bind fun e36=>
 bif (decide (100<(e36.Name.size:Int)))then
 some (.inr (.inl ()))
 else
 some (.inl ((w64 (parts29+(e35.First.length:Int))),(w64 (i30+1))))
 else
 some (.inr (.inr parts29))
def QkD : Option Bool:=
 some false
def QdU (e44:Qr)(k48:Int):Option (Int⊕(Unit⊕Unit)):=
 bif (decide (k48<(e44.Vars.length:Int)))then
 (idx e44.Vars k48).bind fun e51=>
 bif (decide (100<(e51.Name.size:Int)))then
 some (.inr (.inl ()))
 else
 some (.inl (w64 (k48+1)))
 else
 some (.inr (.inr ()))
def Qj5 : Option ((Int×Int)⊕(Unit⊕Unit)):=
 some (.inr (.inl ()))
def QdV (e44:Qr)(ok55:Bool)(k56:Int):Option ((Bool×Int)⊕Bool):=
 bif (decide (k56<(e44.Ins.length:Int)))then
 (idx e44.Ins k56).bind fun e61=>
 (Qf5 e61.Expr).bind fun x62=>
 some (.inl ((ok55&&x62),(w64 (k56+1))))
 else
 some (.inr ok55)
def QdW (e44:Qr)(ok66:Bool)(k67:Int):Option ((Bool×Int)⊕Bool):=
 bif (decide (k67<(e44.Outs.length:Int)))then
 (idx e44.Outs k67).bind fun e72=>
 (Qf5 e72.Expr).bind fun x73=>
 some (.inl ((ok66&&x73),(w64 (k67+1))))
 else
 some (.inr ok66)
def QfD (arcs39:Int)(e44:Qr)(i40:Int)(ok70:Bool):Option ((Int×Int)⊕(Unit⊕Unit)):=
 bif (!ok70)then
 some (.inr (.inl ()))
 else
 some (.inl ((w64 ((w64 ((w64 ((w64 (arcs39+(e44.Vars.length:Int)))+(e44.Ins.length:Int)))+(e44.Outs.length:Int)))+(e44.Cancel.length:Int))),(w64 (i40+1))))
def QfE (e44:Qr)(arcs39:Int)(i40:Int)(ok59:Bool):Option ((Int×Int)⊕(Unit⊕Unit)):=
 (QE (fun st=>QdW e44 st.1 st.2) (ok59,0)).bind (fun q=>QfD arcs39 e44 i40 q)
def QfF (e44:Qr)(arcs39:Int)(i40:Int):Option ((Int×Int)⊕(Unit⊕Unit)):=
 (Qf5 e44.Guard).bind fun x54=>
 (QE (fun st=>QdV e44 st.1 st.2) (x54,0)).bind (fun q=>QfE e44 arcs39 i40 q)
def QdX (n1:TNet)(arcs39:Int)(i40:Int):Option ((Int×Int)⊕(Unit⊕Unit)):=
 bif (decide (i40<(n1.Tasks.length:Int)))then
 (idx n1.Tasks i40).bind fun e44=>
 bif ((decide (200<(w64 ((w64 ((w64 ((w64 (arcs39+(e44.Vars.length:Int)))+(e44.Ins.length:Int)))+(e44.Outs.length:Int)))+(e44.Cancel.length:Int)))))||(decide (100<(e44.Name.size:Int))))then
 some (.inr (.inl ()))
 else
 (QE (fun st=>QdU e44 st) 0).bind (Sum.elim (fun q=>Qj5) (fun q=>QfF e44 arcs39 i40))
 else
 some (.inr (.inr ()))
def Qj6 : Option Bool:=
 some false
def Qj7 (parts33:Int):Option Bool:=
 some (decide (parts33≤400))
def QfG (n1:TNet)(parts33:Int):Option Bool:=
 (QE (fun st=>QdX n1 st.1 st.2) (0,0)).bind (Sum.elim (fun q=>Qj6) (fun q=>Qj7 parts33))
def QfH (n1:TNet)(parts12:Int):Option Bool:=
 (QE (fun st=>QeF n1 st.1 st.2) (parts12,0)).bind (Sum.elim (fun q=>QkD) (fun q=>QfG n1 q))
def QiU (n1:TNet):Option Bool:=
 bif ((decide (40<(n1.Colours.length:Int)))||((decide (70<(n1.Places.length:Int)))||(decide (70<(n1.Tasks.length:Int)))))then
 some false
 else
 (QE (fun st=>QeE n1 st.1 st.2) (0,0)).bind (Sum.elim (fun q=>QkC) (fun q=>QfH n1 q))
theorem Qq7 (n1:TNet){r:Bool}(h:QiU n1=some r):Qc Tryz.prog 30 [.agg (Qd n1)] [] (Gives (.b r) []):=by
 refine Qc.walk 201 Tryz.func30 rfl Tryz.ntmps30 rfl fun C hC=>?_
 unfold QiU at h
 refine Qa hC [.n 8] rfl tt_ ?_
 refine AK.meetX (fun σ=>σ=⟨[(1,.loc 1 0 0),(31,.b ((decide (40<(n1.Colours.length:Int)))||((decide (70<(n1.Places.length:Int)))||(decide (70<(n1.Tasks.length:Int))))))],[(1,.var (Qd n1))]⟩) ?_ ?_
 ·refine Qa hC [.n 3,.o (.ln n1.Colours.length),.n 2] rfl ⟨tt_,Qh⟩ ?_
  rcases QK (decide (40<(n1.Colours.length:Int)))with hc5 | hc5
  ·refine Qa hC [.say 20 (.b true),.n 12,.say 31 (.b ((decide (40<(n1.Colours.length:Int)))||((decide (70<(n1.Places.length:Int)))||(decide (70<(n1.Tasks.length:Int)))))),.keep [1,31] [1]] rfl ⟨⟨tt_,(congrArg V.b hc5)⟩,(congrArg V.b (orT hc5 rfl))⟩ ?_
   exact AK.met rfl
  ·refine Qa hC [.say 20 (.b false),.n 2,.o (.ln n1.Places.length),.n 3] rfl ⟨⟨tt_,(congrArg V.b hc5)⟩,Qh⟩ ?_
   rcases QK (decide (70<(n1.Places.length:Int)))with hc6 | hc6
   ·refine Qa hC [.say 26 (.b true),.n 6,.say 31 (.b ((decide (40<(n1.Colours.length:Int)))||((decide (70<(n1.Places.length:Int)))||(decide (70<(n1.Tasks.length:Int)))))),.keep [1,31] [1]] rfl ⟨⟨tt_,(congrArg V.b hc6)⟩,(congrArg V.b (orF hc5 (orT hc6 rfl)))⟩ ?_
    exact AK.met rfl
   ·refine Qa hC [.say 26 (.b false),.n 2,.o (.ln n1.Tasks.length),.n 3,.say 31 (.b ((decide (40<(n1.Colours.length:Int)))||((decide (70<(n1.Places.length:Int)))||(decide (70<(n1.Tasks.length:Int)))))),.keep [1,31] [1]] rfl ⟨⟨⟨tt_,(congrArg V.b hc6)⟩,Qh⟩,(congrArg V.b (orF hc5 (orF hc6 rfl)))⟩ ?_
    exact AK.met rfl
 ·rintro σ rfl
  refine Qa hC [.n 1] rfl tt_ ?_
  rcases bifE h with⟨hc7,h⟩|⟨hc7,h⟩
  ·refine Qa hC [.br true,.n 7,.keep [2] []] rfl ⟨tt_,hc7⟩ ?_
   cases h
   exact AK.done (ex_ [_] (an_ (an_ rfl tt_) (gives tt_)))
  ·refine Qa hC [.br false,.n 14,.keep [1,3,4] [1]] rfl ⟨tt_,hc7⟩ ?_
   obtain⟨o28,hl28,h⟩:=Qb h
   refine AK.loop (body:=(fun st=>QeE n1 st.1 st.2)) (fun st σ=>σ=⟨[(1,.loc 1 0 0),(3,.i .i64 st.1),(4,.i .i64 st.2)],[(1,.var (Qd n1))]⟩) (Sum.elim (fun q e σ=>e=.ret∧σ=⟨[(2,.b false)],[]⟩) (fun q e σ=>e=.exit 0∧σ=⟨[(1,.loc 1 0 0),(3,.i .i64 q)],[(1,.var (Qd n1))]⟩)) hl28 rfl ?_ ?_
   ·rintro ⟨parts8,i9⟩ o σ rfl h
    replace h:QeE n1 parts8 i9=some o:=h
    unfold QeE at h
    refine Qa hC [.n 6,.o (.ln n1.Colours.length),.n 3] rfl ⟨tt_,Qh⟩ ?_
    rcases bifE h with⟨hc13,h⟩|⟨hc13,h⟩
    ·obtain⟨e14,he14,h⟩:=Qb h
     refine Qa hC [.br true,.n 10,.o (.row (Qu e14)),.n 2,.o (.ln e14.Names.length),.n 6] rfl ⟨⟨⟨tt_,hc13⟩,(idxM he14)⟩,Qh⟩ ?_
     obtain⟨x15,hv16,h⟩:=Qb h
     replace h:Qgw n1 i9 parts8 e14 x15=some o:=h
     refine AK.meetX (fun σ=>σ=⟨[(1,.loc 1 0 0),(3,.i .i64 (w64 (parts8+(e14.Names.length:Int)))),(4,.i .i64 i9),(59,.b x15)],[(1,.var (Qd n1))]⟩) ?_ ?_
     ·replace h:=hv16
      unfold Qkz at h
      obtain⟨e17,he17,h⟩:=Qb h
      refine Qa hC [.n 4,.o (.row (Qu e17)),.n 5] rfl ⟨tt_,(idxM he17)⟩ ?_
      rcases bifE h with⟨hc18,h⟩|⟨hc18,h⟩
      ·refine Qa hC [.say 56 (.b true),.n 4,.keep [1,3,4,59] [1]] rfl ⟨tt_,(congrArg V.b hc18)⟩ ?_
       cases h
       exact AK.met rfl
      ·refine Qa hC [.say 56 (.b false),.n 4,.keep [1,3,4,59] [1]] rfl ⟨tt_,(congrArg V.b hc18)⟩ ?_
       cases h
       exact AK.met rfl
     ·rintro σ rfl
      replace h:Qgw n1 i9 parts8 e14 x15=some o:=h
      unfold Qgw at h
      refine Qa hC [.n 1] rfl tt_ ?_
      rcases bifE h with⟨hc19,h⟩|⟨hc19,h⟩
      ·refine Qa hC [.br true,.n 9,.keep [2] []] rfl ⟨tt_,hc19⟩ ?_
       cases h
       exact rndR rfl (an_ rfl rfl)
      ·refine Qa hC [.br false,.n 8,.keep [1,3,4,5] [1]] rfl ⟨tt_,hc19⟩ ?_
       obtain⟨o27,hl27,h⟩:=Qb h
       refine AK.loop (body:=(fun st=>QeD n1 i9 st)) (fun st σ=>σ=⟨[(1,.loc 1 0 0),(3,.i .i64 (w64 (parts8+(e14.Names.length:Int)))),(4,.i .i64 i9),(5,.i .i64 st)],[(1,.var (Qd n1))]⟩) (Sum.elim (fun q e σ=>e=.ret∧σ=⟨[(2,.b false)],[]⟩) (fun q e σ=>e=.exit 2∧σ=⟨[(1,.loc 1 0 0),(3,.i .i64 (w64 (parts8+(e14.Names.length:Int)))),(4,.i .i64 i9)],[(1,.var (Qd n1))]⟩)) hl27 rfl ?_ ?_
       ·rintro k20 o σ rfl h
        replace h:QeD n1 i9 k20=some o:=h
        unfold QeD at h
        obtain⟨e22,he22,h⟩:=Qb h
        refine Qa hC [.n 7,.o (.row (Qu e22)),.n 2,.o (.ln e22.Names.length),.n 3] rfl ⟨⟨tt_,(idxM he22)⟩,Qh⟩ ?_
        rcases bifE h with⟨hc23,h⟩|⟨hc23,h⟩
        ·obtain⟨e24,he24,h⟩:=Qb h
         obtain⟨e25,he25,h⟩:=Qb h
         refine Qa hC [.br true,.n 9,.o (.row (Qu e24)),.n 3,.o (.row (Qdv e25)),.n 5] rfl ⟨⟨⟨tt_,hc23⟩,(idxM he24)⟩,(idxM he25)⟩ ?_
         rcases bifE h with⟨hc26,h⟩|⟨hc26,h⟩
         ·refine Qa hC [.br true,.n 8,.keep [2] []] rfl ⟨tt_,hc26⟩ ?_
          cases h
          exact rndR rfl (an_ rfl rfl)
         ·refine Qa hC [.br false,.n 8,.keep [1,3,4,5] [1]] rfl ⟨tt_,hc26⟩ ?_
          cases h
          exact rndN rfl rfl
        ·refine Qa hC [.br false,.n 2,.keep [1,3,4] [1]] rfl ⟨tt_,hc23⟩ ?_
         cases h
         exact rndX rfl (an_ rfl rfl)
       ·rcases o27 with(_ | _)
        ·replace h:QkA=some o:=h
         unfold QkA at h
         rintro e σ ⟨rfl,rfl⟩
         refine Qa hC [.n 3,.keep [2] []] rfl tt_ ?_
         cases h
         exact rndR rfl (an_ rfl rfl)
        ·replace h:QkB parts8 e14 i9=some o:=h
         unfold QkB at h
         rintro e σ ⟨rfl,rfl⟩
         refine Qa hC [.n 8,.keep [1,3,4] [1]] rfl tt_ ?_
         cases h
         exact rndN rfl rfl
    ·refine Qa hC [.br false,.n 2,.keep [1,3] [1]] rfl ⟨tt_,hc13⟩ ?_
     cases h
     exact rndX rfl (an_ rfl rfl)
   ·rcases o28 with(_ | parts12)
    ·replace h:QkC=some r:=h
     unfold QkC at h
     rintro e σ ⟨rfl,rfl⟩
     refine Qa hC [.n 2,.keep [2] []] rfl tt_ ?_
     cases h
     exact AK.done (ex_ [_] (an_ (an_ rfl tt_) (gives tt_)))
    ·replace h:QfH n1 parts12=some r:=h
     unfold QfH at h
     rintro e σ ⟨rfl,rfl⟩
     refine Qa hC [.n 9,.keep [1,3,6] [1]] rfl tt_ ?_
     obtain⟨o38,hl38,h⟩:=Qb h
     refine AK.loop (body:=(fun st=>QeF n1 st.1 st.2)) (fun st σ=>σ=⟨[(1,.loc 1 0 0),(3,.i .i64 st.1),(6,.i .i64 st.2)],[(1,.var (Qd n1))]⟩) (Sum.elim (fun q e σ=>e=.ret∧σ=⟨[(2,.b false)],[]⟩) (fun q e σ=>e=.exit 4∧σ=⟨[(1,.loc 1 0 0),(3,.i .i64 q)],[(1,.var (Qd n1))]⟩)) hl38 rfl ?_ ?_
     ·rintro ⟨parts29,i30⟩ o σ rfl h
      replace h:QeF n1 parts29 i30=some o:=h
      unfold QeF at h
      refine Qa hC [.n 6,.o (.ln n1.Places.length),.n 3] rfl ⟨tt_,Qh⟩ ?_
      rcases bifE h with⟨hc34,h⟩|⟨hc34,h⟩
      ·obtain⟨e35,he35,h⟩:=Qb h
       obtain⟨e36,he36,h⟩:=Qb h
       refine Qa hC [.br true,.n 10,.o (.row (Qs e35)),.n 2,.o (.ln e35.First.length),.n 9,.o (.row (Qs e36)),.n 6] rfl ⟨⟨⟨⟨tt_,hc34⟩,(idxM he35)⟩,Qh⟩,(idxM he36)⟩ ?_
       rcases bifE h with⟨hc37,h⟩|⟨hc37,h⟩
       ·refine Qa hC [.br true,.n 8,.keep [2] []] rfl ⟨tt_,hc37⟩ ?_
        cases h
        exact rndR rfl (an_ rfl rfl)
       ·refine Qa hC [.br false,.n 8,.keep [1,3,6] [1]] rfl ⟨tt_,hc37⟩ ?_
        cases h
        exact rndN rfl rfl
      ·refine Qa hC [.br false,.n 2,.keep [1,3] [1]] rfl ⟨tt_,hc34⟩ ?_
       cases h
       exact rndX rfl (an_ rfl rfl)
     ·rcases o38 with(_ | parts33)
      ·replace h:QkD=some r:=h
       unfold QkD at h
       rintro e σ ⟨rfl,rfl⟩
       refine Qa hC [.n 2,.keep [2] []] rfl tt_ ?_
       cases h
       exact AK.done (ex_ [_] (an_ (an_ rfl tt_) (gives tt_)))
      ·replace h:QfG n1 parts33=some r:=h
       unfold QfG at h
       rintro e σ ⟨rfl,rfl⟩
       refine Qa hC [.n 14,.keep [1,3,7,8] [1]] rfl tt_ ?_
       obtain⟨o78,hl78,h⟩:=Qb h
       refine AK.loop (body:=(fun st=>QdX n1 st.1 st.2)) (fun st σ=>σ=⟨[(1,.loc 1 0 0),(3,.i .i64 parts33),(7,.i .i64 st.1),(8,.i .i64 st.2)],[(1,.var (Qd n1))]⟩) (Sum.elim (fun q e σ=>e=.ret∧σ=⟨[(2,.b false)],[]⟩) (fun q e σ=>e=.exit 6∧σ=⟨[(3,.i .i64 parts33)],[]⟩)) hl78 rfl ?_ ?_
       ·rintro ⟨arcs39,i40⟩ o σ rfl h
        replace h:QdX n1 arcs39 i40=some o:=h
        unfold QdX at h
        refine Qa hC [.n 6,.o (.ln n1.Tasks.length),.n 3] rfl ⟨tt_,Qh⟩ ?_
        rcases bifE h with⟨hc43,h⟩|⟨hc43,h⟩
        ·obtain⟨e44,he44,h⟩:=Qb h
         refine Qa hC [.br true,.n 9,.o (.row (Qi e44)),.v .no [] (.agg (Qi e44)),.n 2,.sayO 9 (.var (Qi e44)),.n 7,.o (.ln e44.Vars.length),.n 3,.o (.ln e44.Ins.length),.n 3,.o (.ln e44.Outs.length),.n 3,.o (.ln e44.Cancel.length),.n 6] rfl ⟨⟨⟨⟨⟨⟨⟨⟨tt_,hc43⟩,(idxM he44)⟩,rfl⟩,rfl⟩,Qh⟩,Qh⟩,Qh⟩,Qh⟩ ?_
         refine AK.meetX (fun σ=>σ=⟨[(1,.loc 1 0 0),(3,.i .i64 parts33),(7,.i .i64 (w64 ((w64 ((w64 ((w64 (arcs39+(e44.Vars.length:Int)))+(e44.Ins.length:Int)))+(e44.Outs.length:Int)))+(e44.Cancel.length:Int)))),(8,.i .i64 i40),(9,.loc 9 0 0),(142,.b ((decide (200<(w64 ((w64 ((w64 ((w64 (arcs39+(e44.Vars.length:Int)))+(e44.Ins.length:Int)))+(e44.Outs.length:Int)))+(e44.Cancel.length:Int)))))||(decide (100<(e44.Name.size:Int)))))],[(1,.var (Qd n1)),(9,.var (Qi e44))]⟩) ?_ ?_
         ·refine Qa hC [.n 4] rfl tt_ ?_
          rcases QK (decide (200<(w64 ((w64 ((w64 ((w64 (arcs39+(e44.Vars.length:Int)))+(e44.Ins.length:Int)))+(e44.Outs.length:Int)))+(e44.Cancel.length:Int)))))with hc46 | hc46
          ·refine Qa hC [.say 137 (.b true),.n 6,.say 142 (.b ((decide (200<(w64 ((w64 ((w64 ((w64 (arcs39+(e44.Vars.length:Int)))+(e44.Ins.length:Int)))+(e44.Outs.length:Int)))+(e44.Cancel.length:Int)))))||(decide (100<(e44.Name.size:Int))))),.keep [1,3,7,8,9,142] [1,9]] rfl ⟨⟨tt_,(congrArg V.b hc46)⟩,(congrArg V.b (orT hc46 rfl))⟩ ?_
           exact AK.met rfl
          ·refine Qa hC [.say 137 (.b false),.n 6,.say 142 (.b ((decide (200<(w64 ((w64 ((w64 ((w64 (arcs39+(e44.Vars.length:Int)))+(e44.Ins.length:Int)))+(e44.Outs.length:Int)))+(e44.Cancel.length:Int)))))||(decide (100<(e44.Name.size:Int))))),.keep [1,3,7,8,9,142] [1,9]] rfl ⟨⟨tt_,(congrArg V.b hc46)⟩,(congrArg V.b (orF hc46 rfl))⟩ ?_
           exact AK.met rfl
         ·rintro σ rfl
          refine Qa hC [.n 1] rfl tt_ ?_
          rcases bifE h with⟨hc47,h⟩|⟨hc47,h⟩
          ·refine Qa hC [.br true,.n 9,.keep [2] []] rfl ⟨tt_,hc47⟩ ?_
           cases h
           exact rndR rfl (an_ rfl rfl)
          ·refine Qa hC [.br false,.n 9,.keep [1,3,7,8,9,10] [1,9]] rfl ⟨tt_,hc47⟩ ?_
           obtain⟨o53,hl53,h⟩:=Qb h
           refine AK.loop (body:=(fun st=>QdU e44 st)) (fun st σ=>σ=⟨[(1,.loc 1 0 0),(3,.i .i64 parts33),(7,.i .i64 (w64 ((w64 ((w64 ((w64 (arcs39+(e44.Vars.length:Int)))+(e44.Ins.length:Int)))+(e44.Outs.length:Int)))+(e44.Cancel.length:Int)))),(8,.i .i64 i40),(9,.loc 9 0 0),(10,.i .i64 st)],[(1,.var (Qd n1)),(9,.var (Qi e44))]⟩) (Sum.elim (fun q e σ=>e=.ret∧σ=⟨[(2,.b false)],[]⟩) (fun q e σ=>e=.exit 8∧σ=⟨[(1,.loc 1 0 0),(3,.i .i64 parts33),(7,.i .i64 (w64 ((w64 ((w64 ((w64 (arcs39+(e44.Vars.length:Int)))+(e44.Ins.length:Int)))+(e44.Outs.length:Int)))+(e44.Cancel.length:Int)))),(8,.i .i64 i40),(9,.loc 9 0 0)],[(1,.var (Qd n1)),(9,.var (Qi e44))]⟩)) hl53 rfl ?_ ?_
           ·rintro k48 o σ rfl h
            replace h:QdU e44 k48=some o:=h
            unfold QdU at h
            refine Qa hC [.n 6,.o (.ln e44.Vars.length),.n 3] rfl ⟨tt_,Qh⟩ ?_
            rcases bifE h with⟨hc50,h⟩|⟨hc50,h⟩
            ·obtain⟨e51,he51,h⟩:=Qb h
             refine Qa hC [.br true,.n 9,.o (.row (QC e51)),.n 6] rfl ⟨⟨tt_,hc50⟩,(idxM he51)⟩ ?_
             rcases bifE h with⟨hc52,h⟩|⟨hc52,h⟩
             ·refine Qa hC [.br true,.n 8,.keep [2] []] rfl ⟨tt_,hc52⟩ ?_
              cases h
              exact rndR rfl (an_ rfl rfl)
             ·refine Qa hC [.br false,.n 8,.keep [1,3,7,8,9,10] [1,9]] rfl ⟨tt_,hc52⟩ ?_
              cases h
              exact rndN rfl rfl
            ·refine Qa hC [.br false,.n 2,.keep [1,3,7,8,9] [1,9]] rfl ⟨tt_,hc50⟩ ?_
             cases h
             exact rndX rfl (an_ rfl rfl)
           ·rcases o53 with(_ | _)
            ·replace h:Qj5=some o:=h
             unfold Qj5 at h
             rintro e σ ⟨rfl,rfl⟩
             refine Qa hC [.n 4,.keep [2] []] rfl tt_ ?_
             cases h
             exact rndR rfl (an_ rfl rfl)
            ·replace h:QfF e44 arcs39 i40=some o:=h
             unfold QfF at h
             rintro e σ ⟨rfl,rfl⟩
             obtain⟨x54,hx54,h⟩:=Qb h
             refine Qa hC [.n 5,.v .no [] (.agg (Ql e44.Guard)),.o (.c false [.d] (.b x54)),.n 10,.keep [1,3,7,8,9,11,12] [1,9]] rfl ⟨⟨tt_,rfl⟩,(Qky _ hx54)⟩ ?_
             obtain⟨ok59,hl65,h⟩:=Qb h
             refine AK.loop (body:=(fun st=>QdV e44 st.1 st.2)) (fun st σ=>σ=⟨[(1,.loc 1 0 0),(3,.i .i64 parts33),(7,.i .i64 (w64 ((w64 ((w64 ((w64 (arcs39+(e44.Vars.length:Int)))+(e44.Ins.length:Int)))+(e44.Outs.length:Int)))+(e44.Cancel.length:Int)))),(8,.i .i64 i40),(9,.loc 9 0 0),(11,.b st.1),(12,.i .i64 st.2)],[(1,.var (Qd n1)),(9,.var (Qi e44))]⟩) (fun q e σ=>e=.exit 10∧σ=⟨[(1,.loc 1 0 0),(3,.i .i64 parts33),(7,.i .i64 (w64 ((w64 ((w64 ((w64 (arcs39+(e44.Vars.length:Int)))+(e44.Ins.length:Int)))+(e44.Outs.length:Int)))+(e44.Cancel.length:Int)))),(8,.i .i64 i40),(9,.loc 9 0 0),(11,.b q)],[(1,.var (Qd n1)),(9,.var (Qi e44))]⟩) hl65 rfl ?_ ?_
             ·rintro ⟨ok55,k56⟩ o σ rfl h
              replace h:QdV e44 ok55 k56=some o:=h
              unfold QdV at h
              refine Qa hC [.n 6,.o (.ln e44.Ins.length),.n 3] rfl ⟨tt_,Qh⟩ ?_
              rcases bifE h with⟨hc60,h⟩|⟨hc60,h⟩
              ·obtain⟨e61,he61,h⟩:=Qb h
               obtain⟨x62,hx62,h⟩:=Qb h
               refine Qa hC [.br true,.n 9,.o (.row (QN e61)),.n 1,.v .no [] (.agg (Ql e61.Expr)),.o (.c false [.d] (.b x62)),.n 3] rfl ⟨⟨⟨⟨tt_,hc60⟩,(idxM he61)⟩,rfl⟩,(Qky _ hx62)⟩ ?_
               refine AK.meetX (fun σ=>σ=⟨[(1,.loc 1 0 0),(3,.i .i64 parts33),(7,.i .i64 (w64 ((w64 ((w64 ((w64 (arcs39+(e44.Vars.length:Int)))+(e44.Ins.length:Int)))+(e44.Outs.length:Int)))+(e44.Cancel.length:Int)))),(8,.i .i64 i40),(9,.loc 9 0 0),(11,.b (ok55&&x62)),(12,.i .i64 k56)],[(1,.var (Qd n1)),(9,.var (Qi e44))]⟩) ?_ ?_
               ·refine Qa hC [.n 3] rfl tt_ ?_
                rcases QK ok55 with hc64 | hc64
                ·refine Qa hC [.say 176 (.b true),.n 4,.say 11 (.b (ok55&&x62)),.keep [1,3,7,8,9,11,12] [1,9]] rfl ⟨⟨tt_,(congrArg V.b hc64)⟩,(congrArg V.b (andT hc64 rfl))⟩ ?_
                 exact AK.met rfl
                ·refine Qa hC [.say 176 (.b false),.n 4,.say 11 (.b (ok55&&x62)),.keep [1,3,7,8,9,11,12] [1,9]] rfl ⟨⟨tt_,(congrArg V.b hc64)⟩,(congrArg V.b (andF hc64 rfl))⟩ ?_
                 exact AK.met rfl
               ·rintro σ rfl
                refine Qa hC [.n 7,.keep [1,3,7,8,9,11,12] [1,9]] rfl tt_ ?_
                cases h
                exact rndN rfl rfl
              ·refine Qa hC [.br false,.n 2,.keep [1,3,7,8,9,11] [1,9]] rfl ⟨tt_,hc60⟩ ?_
               cases h
               exact rndX rfl (an_ rfl rfl)
             ·replace h:QfE e44 arcs39 i40 ok59=some o:=h
              unfold QfE at h
              rintro e σ ⟨rfl,rfl⟩
              refine Qa hC [.n 9,.keep [1,3,7,8,9,11,14] [1,9]] rfl tt_ ?_
              obtain⟨ok70,hl76,h⟩:=Qb h
              refine AK.loop (body:=(fun st=>QdW e44 st.1 st.2)) (fun st σ=>σ=⟨[(1,.loc 1 0 0),(3,.i .i64 parts33),(7,.i .i64 (w64 ((w64 ((w64 ((w64 (arcs39+(e44.Vars.length:Int)))+(e44.Ins.length:Int)))+(e44.Outs.length:Int)))+(e44.Cancel.length:Int)))),(8,.i .i64 i40),(9,.loc 9 0 0),(11,.b st.1),(14,.i .i64 st.2)],[(1,.var (Qd n1)),(9,.var (Qi e44))]⟩) (fun q e σ=>e=.exit 12∧σ=⟨[(1,.loc 1 0 0),(3,.i .i64 parts33),(7,.i .i64 (w64 ((w64 ((w64 ((w64 (arcs39+(e44.Vars.length:Int)))+(e44.Ins.length:Int)))+(e44.Outs.length:Int)))+(e44.Cancel.length:Int)))),(8,.i .i64 i40),(11,.b q)],[(1,.var (Qd n1))]⟩) hl76 rfl ?_ ?_
              ·rintro ⟨ok66,k67⟩ o σ rfl h
               replace h:QdW e44 ok66 k67=some o:=h
               unfold QdW at h
               refine Qa hC [.n 6,.o (.ln e44.Outs.length),.n 3] rfl ⟨tt_,Qh⟩ ?_
               rcases bifE h with⟨hc71,h⟩|⟨hc71,h⟩
               ·obtain⟨e72,he72,h⟩:=Qb h
                obtain⟨x73,hx73,h⟩:=Qb h
                refine Qa hC [.br true,.n 9,.o (.row (QN e72)),.n 1,.v .no [] (.agg (Ql e72.Expr)),.o (.c false [.d] (.b x73)),.n 3] rfl ⟨⟨⟨⟨tt_,hc71⟩,(idxM he72)⟩,rfl⟩,(Qky _ hx73)⟩ ?_
                refine AK.meetX (fun σ=>σ=⟨[(1,.loc 1 0 0),(3,.i .i64 parts33),(7,.i .i64 (w64 ((w64 ((w64 ((w64 (arcs39+(e44.Vars.length:Int)))+(e44.Ins.length:Int)))+(e44.Outs.length:Int)))+(e44.Cancel.length:Int)))),(8,.i .i64 i40),(9,.loc 9 0 0),(11,.b (ok66&&x73)),(14,.i .i64 k67)],[(1,.var (Qd n1)),(9,.var (Qi e44))]⟩) ?_ ?_
                ·refine Qa hC [.n 3] rfl tt_ ?_
                 rcases QK ok66 with hc75 | hc75
                 ·refine Qa hC [.say 194 (.b true),.n 4,.say 11 (.b (ok66&&x73)),.keep [1,3,7,8,9,11,14] [1,9]] rfl ⟨⟨tt_,(congrArg V.b hc75)⟩,(congrArg V.b (andT hc75 rfl))⟩ ?_
                  exact AK.met rfl
                 ·refine Qa hC [.say 194 (.b false),.n 4,.say 11 (.b (ok66&&x73)),.keep [1,3,7,8,9,11,14] [1,9]] rfl ⟨⟨tt_,(congrArg V.b hc75)⟩,(congrArg V.b (andF hc75 rfl))⟩ ?_
                  exact AK.met rfl
                ·rintro σ rfl
                 refine Qa hC [.n 7,.keep [1,3,7,8,9,11,14] [1,9]] rfl tt_ ?_
                 cases h
                 exact rndN rfl rfl
               ·refine Qa hC [.br false,.n 2,.keep [1,3,7,8,11] [1]] rfl ⟨tt_,hc71⟩ ?_
                cases h
                exact rndX rfl (an_ rfl rfl)
              ·replace h:QfD arcs39 e44 i40 ok70=some o:=h
               unfold QfD at h
               rintro e σ ⟨rfl,rfl⟩
               refine Qa hC [.n 8] rfl tt_ ?_
               rcases bifE h with⟨hc77,h⟩|⟨hc77,h⟩
               ·refine Qa hC [.br true,.n 8,.keep [2] []] rfl ⟨tt_,hc77⟩ ?_
                cases h
                exact rndR rfl (an_ rfl rfl)
               ·refine Qa hC [.br false,.n 8,.keep [1,3,7,8] [1]] rfl ⟨tt_,hc77⟩ ?_
                cases h
                exact rndN rfl rfl
        ·refine Qa hC [.br false,.n 2,.keep [3] []] rfl ⟨tt_,hc43⟩ ?_
         cases h
         exact rndX rfl (an_ rfl rfl)
       ·rcases o78 with(_ | _)
        ·replace h:Qj6=some r:=h
         unfold Qj6 at h
         rintro e σ ⟨rfl,rfl⟩
         refine Qa hC [.n 2,.keep [2] []] rfl tt_ ?_
         cases h
         exact AK.done (ex_ [_] (an_ (an_ rfl tt_) (gives tt_)))
        ·replace h:Qj7 parts33=some r:=h
         unfold Qj7 at h
         rintro e σ ⟨rfl,rfl⟩
         refine Qa hC [.n 10,.keep [2] []] rfl tt_ ?_
         cases h
         exact AK.done (ex_ [_] (an_ (an_ rfl tt_) (gives tt_)))
def QeG (m1:(List (List (Int×Int))))(n3:Int)(i4:Int):Option ((Int×Int)⊕Int):=
 bif ((decide (i4<(m1.length:Int)))&&(decide (i4<100)))then
 (idx m1 i4).bind fun e11=>
 some (.inl ((w64 (n3+(e11.length:Int))),(w64 (i4+1))))
 else
 some (.inr n3)
def QkE (m1:(List (List (Int×Int))))(n7:Int):Option Bool:=
 some ((decide ((m1.length:Int)≤70))&&(decide (n7≤300)))
def QiV (m1:(List (List (Int×Int)))):Option Bool:=
 (QE (fun st=>QeG m1 st.1 st.2) (0,0)).bind (fun q=>QkE m1 q)
theorem Qq8 (m1:(List (List (Int×Int)))){r:Bool}(h:QiV m1=some r):Qc Tryz.prog 31 [.sl 1 (m1.map Qg)] [] (Gives (.b r) []):=by
 refine Qc.walk 29 Tryz.func31 rfl Tryz.ntmps31 rfl fun C hC=>?_
 unfold QiV at h
 refine Qa hC [.n 17,.keep [0,3,4] []] rfl tt_ ?_
 obtain⟨n7,hl12,h⟩:=Qb h
 refine AK.loop (body:=(fun st=>QeG m1 st.1 st.2)) (fun st σ=>σ=⟨[(0,.sl 1 (m1.map Qg)),(3,.i .i64 st.1),(4,.i .i64 st.2)],[]⟩) (fun q e σ=>e=.exit 0∧σ=⟨[(0,.sl 1 (m1.map Qg)),(3,.i .i64 q)],[]⟩) hl12 rfl ?_ ?_
 ·rintro ⟨n3,i4⟩ o σ rfl h
  replace h:QeG m1 n3 i4=some o:=h
  unfold QeG at h
  refine Qa hC [.n 2] rfl tt_ ?_
  refine AK.meetX (fun σ=>σ=⟨[(0,.sl 1 (m1.map Qg)),(3,.i .i64 n3),(4,.i .i64 i4),(12,.b ((decide (i4<(m1.length:Int)))&&(decide (i4<100))))],[]⟩) ?_ ?_
  ·refine Qa hC [.n 3,.o (.ln m1.length),.n 2] rfl ⟨tt_,Qh⟩ ?_
   rcases QK (decide (i4<(m1.length:Int)))with hc9 | hc9
   ·refine Qa hC [.say 9 (.b true),.n 4,.say 12 (.b ((decide (i4<(m1.length:Int)))&&(decide (i4<100)))),.keep [0,3,4,12] []] rfl ⟨⟨tt_,(congrArg V.b hc9)⟩,(congrArg V.b (andT hc9 rfl))⟩ ?_
    exact AK.met rfl
   ·refine Qa hC [.say 9 (.b false),.n 4,.say 12 (.b ((decide (i4<(m1.length:Int)))&&(decide (i4<100)))),.keep [0,3,4,12] []] rfl ⟨⟨tt_,(congrArg V.b hc9)⟩,(congrArg V.b (andF hc9 rfl))⟩ ?_
    exact AK.met rfl
  ·rintro σ rfl
   refine Qa hC [.n 1] rfl tt_ ?_
   rcases bifE h with⟨hc10,h⟩|⟨hc10,h⟩
   ·obtain⟨e11,he11,h⟩:=Qb h
    refine Qa hC [.br true,.n 8,.o (.row (Qg e11)),.n 1,.o (.ln e11.length),.n 10,.keep [0,3,4] []] rfl ⟨⟨⟨tt_,hc10⟩,(idxM he11)⟩,Qh⟩ ?_
    cases h
    exact rndN rfl rfl
   ·refine Qa hC [.br false,.n 2,.keep [0,3] []] rfl ⟨tt_,hc10⟩ ?_
    cases h
    exact rndX rfl (an_ rfl rfl)
 ·replace h:QkE m1 n7=some r:=h
  unfold QkE at h
  rintro e σ ⟨rfl,rfl⟩
  refine Qa hC [.n 3] rfl tt_ ?_
  refine AK.meetX (fun σ=>σ=⟨[(2,.b ((decide ((m1.length:Int)≤70))&&(decide (n7≤300))))],[]⟩) ?_ ?_
  ·refine Qa hC [.n 2,.o (.ln m1.length),.n 2] rfl ⟨tt_,Qh⟩ ?_
   rcases QK (decide ((m1.length:Int)≤70))with hc14 | hc14
   ·refine Qa hC [.say 25 (.b true),.n 5,.say 2 (.b ((decide ((m1.length:Int)≤70))&&(decide (n7≤300)))),.keep [2] []] rfl ⟨⟨tt_,(congrArg V.b hc14)⟩,(congrArg V.b (andT hc14 rfl))⟩ ?_
    exact AK.met rfl
   ·refine Qa hC [.say 25 (.b false),.n 5,.say 2 (.b ((decide ((m1.length:Int)≤70))&&(decide (n7≤300)))),.keep [2] []] rfl ⟨⟨tt_,(congrArg V.b hc14)⟩,(congrArg V.b (andF hc14 rfl))⟩ ?_
    exact AK.met rfl
  ·rintro σ rfl
   refine Qa hC [.n 2,.keep [2] []] rfl tt_ ?_
   cases h
   exact AK.done (ex_ [_] (an_ (an_ rfl tt_) (gives tt_)))
def Qhd (v1:TNet):Option Bool:=
 some ((decide ((v1.Places.length:Int)≤64))&&(decide ((v1.Tasks.length:Int)≤64)))
theorem QpM (v1:TNet){r:Bool}(h:Qhd v1=some r):Qc Tryz.prog 58 [.loc 200000 0 0] [(200000,.var (Qd v1))] (Gives (.b r) [(200000,.var (Qd v1))]):=by
 refine Qc.walk 12 Tryz.func58 rfl Tryz.ntmps58 rfl fun C hC=>?_
 unfold Qhd at h
 refine Qa hC [.n 6] rfl tt_ ?_
 refine AK.meetX (fun σ=>σ=⟨[(1,.b ((decide ((v1.Places.length:Int)≤64))&&(decide ((v1.Tasks.length:Int)≤64))))],[(200000,.var (Qd v1))]⟩) ?_ ?_
 ·refine Qa hC [.n 3,.o (.ln v1.Places.length),.n 2] rfl ⟨tt_,Qh⟩ ?_
  rcases QK (decide ((v1.Places.length:Int)≤64))with hc4 | hc4
  ·refine Qa hC [.say 6 (.b true),.n 2,.o (.ln v1.Tasks.length),.n 4,.say 1 (.b ((decide ((v1.Places.length:Int)≤64))&&(decide ((v1.Tasks.length:Int)≤64)))),.keep [1] [200000]] rfl ⟨⟨⟨tt_,(congrArg V.b hc4)⟩,Qh⟩,(congrArg V.b (andT hc4 rfl))⟩ ?_
   exact AK.met rfl
  ·refine Qa hC [.say 6 (.b false),.n 7,.say 1 (.b ((decide ((v1.Places.length:Int)≤64))&&(decide ((v1.Tasks.length:Int)≤64)))),.keep [1] [200000]] rfl ⟨⟨tt_,(congrArg V.b hc4)⟩,(congrArg V.b (andF hc4 rfl))⟩ ?_
   exact AK.met rfl
 ·rintro σ rfl
  refine Qa hC [.n 2,.keep [1] [200000]] rfl tt_ ?_
  cases h
  exact AK.done (ex_ [_] (an_ (an_ rfl tt_) (gives ⟨rfl,tt_⟩)))
def Qac (l1:(List QA))(k2:Int):Option Bool:=
 some ((decide (0≤k2))&&(decide (k2<(l1.length:Int))))
theorem Qbo (l1:(List QA))(k2:Int){r:Bool}(h:Qac l1 k2=some r):Qc Tryz.prog 60 [.sl 3 (l1.map Qs),.i .i64 k2] [] (Gives (.b r) []):=by
 refine Qc.walk 13 Tryz.func60 rfl Tryz.ntmps60 rfl fun C hC=>?_
 unfold Qac at h
 refine Qa hC [.n 6] rfl tt_ ?_
 refine AK.meetX (fun σ=>σ=⟨[(4,.b ((decide (0≤k2))&&(decide (k2<(l1.length:Int)))))],[]⟩) ?_ ?_
 ·refine Qa hC [.n 4] rfl tt_ ?_
  rcases QK (decide (0≤k2))with hc5 | hc5
  ·refine Qa hC [.say 7 (.b true),.n 2,.o (.ln l1.length),.n 4,.say 4 (.b ((decide (0≤k2))&&(decide (k2<(l1.length:Int))))),.keep [4] []] rfl ⟨⟨⟨tt_,(congrArg V.b hc5)⟩,Qh⟩,(congrArg V.b (andT hc5 rfl))⟩ ?_
   exact AK.met rfl
  ·refine Qa hC [.say 7 (.b false),.n 7,.say 4 (.b ((decide (0≤k2))&&(decide (k2<(l1.length:Int))))),.keep [4] []] rfl ⟨⟨tt_,(congrArg V.b hc5)⟩,(congrArg V.b (andF hc5 rfl))⟩ ?_
   exact AK.met rfl
 ·rintro σ rfl
  refine Qa hC [.n 2,.keep [4] []] rfl tt_ ?_
  cases h
  exact AK.done (ex_ [_] (an_ (an_ rfl tt_) (gives tt_)))
def Qjm (v1:TNet):Option Bool:=
 (Qac v1.Places v1.From).bind fun x5=>
 bif x5 then
 (Qac v1.Places v1.To).bind fun x7=>
 some x7
 else
 some false
def QeZ (x3:Bool):Option Bool:=
 some x3
def Qhe (v1:TNet):Option Bool:=
 (Qjm v1).bind (fun x3=>QeZ x3)
theorem QpN (v1:TNet){r:Bool}(h:Qhe v1=some r):Qc Tryz.prog 59 [.loc 200000 0 0] [(200000,.var (Qd v1))] (Gives (.b r) [(200000,.var (Qd v1))]):=by
 refine Qc.walk 14 Tryz.func59 rfl Tryz.ntmps59 rfl fun C hC=>?_
 unfold Qhe at h
 refine Qa hC [.n 6] rfl tt_ ?_
 obtain⟨x3,hv4,h⟩:=Qb h
 replace h:QeZ x3=some r:=h
 refine AK.meetX (fun σ=>σ=⟨[(1,.b x3)],[(200000,.var (Qd v1))]⟩) ?_ ?_
 ·replace h:=hv4
  unfold Qjm at h
  obtain⟨x5,hx5,h⟩:=Qb h
  refine Qa hC [.n 5,.o (.c false [.d,.d] (.b x5)),.n 1] rfl ⟨tt_,(Qbo _ _ hx5)⟩ ?_
  rcases bifE h with⟨hc6,h⟩|⟨hc6,h⟩
  ·obtain⟨x7,hx7,h⟩:=Qb h
   refine Qa hC [.say 7 (.b true),.n 4,.o (.c false [.d,.d] (.b x7)),.n 3,.keep [1] [200000]] rfl ⟨⟨tt_,(congrArg V.b hc6)⟩,(Qbo _ _ hx7)⟩ ?_
   cases h
   exact AK.met rfl
  ·refine Qa hC [.say 7 (.b false),.n 8,.keep [1] [200000]] rfl ⟨tt_,(congrArg V.b hc6)⟩ ?_
   cases h
   exact AK.met rfl
 ·rintro σ rfl
  replace h:QeZ x3=some r:=h
  unfold QeZ at h
  refine Qa hC [.n 2,.keep [1] [200000]] rfl tt_ ?_
  cases h
  exact AK.done (ex_ [_] (an_ (an_ rfl tt_) (gives ⟨rfl,tt_⟩)))
def Qhf (v1:TNet):Option Bool:=
 some (v1.From != v1.To)
theorem QpO (v1:TNet){r:Bool}(h:Qhf v1=some r):Qc Tryz.prog 61 [.loc 200000 0 0] [(200000,.var (Qd v1))] (Gives (.b r) [(200000,.var (Qd v1))]):=by
 refine Qc.walk 7 Tryz.func61 rfl Tryz.ntmps61 rfl fun C hC=>?_
 unfold Qhf at h
 refine Qa hC [.n 16,.keep [1] [200000]] rfl tt_ ?_
 cases h
 exact AK.done (ex_ [_] (an_ (an_ rfl tt_) (gives ⟨rfl,tt_⟩)))
def Qhg (v1:TNet)(v2:Int)(v3:Int)(v4:Int):Option Int:=
 (Qhd v1).bind fun x7=>
 bif (!x7)then
 some v2
 else
 (Qhe v1).bind fun x9=>
 bif (!x9)then
 some v3
 else
 (Qhf v1).bind fun x11=>
 bif (!x11)then
 some v4
 else
 some 0
theorem QpP (v1:TNet)(v2:Int)(v3:Int)(v4:Int){r:Int}(h:Qhg v1 v2 v3 v4=some r):Qc Tryz.prog 57 [.own 200000 3] [(200000,.var [.clo (.func 58) [] [.loc 200001 0 0],.i .i64 v2,.clo (.func 59) [] [.loc 200001 0 0],.i .i64 v3,.clo (.func 61) [] [.loc 200001 0 0],.i .i64 v4]),(200001,.var (Qd v1))] (Gives (.i .i64 r) [(200000,.var [.clo (.func 58) [] [.loc 200001 0 0],.i .i64 v2,.clo (.func 59) [] [.loc 200001 0 0],.i .i64 v3,.clo (.func 61) [] [.loc 200001 0 0],.i .i64 v4]),(200001,.var (Qd v1))]):=by
 refine Qc.walk 18 Tryz.func57 rfl Tryz.ntmps57 rfl fun C hC=>?_
 unfold Qhg at h
 refine Qa hC [.n 14] rfl tt_ ?_
 refine AK.loopN 4 (AK.rnd ?_)
 obtain⟨x7,hx7,h⟩:=Qb h
 refine Qa hC [.n 2,.v .no [] (.b true),.n 10,.o (.any (.loc 200000 0 0) none),.n 3,.sayO 4 (.var [.clo (.func 58) [] [.loc 200001 0 0],.i .i64 v2]),.n 6,.cm (.clo) [(200000,200001)] [(200001,200000)] [] [.d] [(200000,.var (Qd v1))] (.b x7),.n 3] rfl ⟨⟨⟨⟨tt_,rfl⟩,(fun σ h1 h2 _=>Stp.idxV rfl rfl (bleN hC.n rfl) (h1 _ _ rfl) (h1 _ _ rfl) (Qo.es rfl) (h2 _ _ rfl) (by decide))⟩,rfl⟩,(QpM _ hx7)⟩ ?_
 rcases bifE h with⟨hc8,h⟩|⟨hc8,h⟩
 ·refine Qa hC [.br true,.n 13,.keep [2] [200000,200001]] rfl ⟨tt_,hc8⟩ ?_
  cases h
  exact AK.done (ex_ [_] (an_ (an_ rfl tt_) (gives ⟨rfl,rfl,tt_⟩)))
 ·refine Qa hC [.br false,.n 4,.v .no [] (.i .i64 1),.n 2] rfl ⟨⟨tt_,hc8⟩,rfl⟩ ?_
  refine AK.met (AK.rnd ?_)
  obtain⟨x9,hx9,h⟩:=Qb h
  refine Qa hC [.n 2,.v .no [] (.b true),.n 10,.o (.any (.loc 200000 0 2) none),.n 1,.kill 4,.n 2,.sayO 4 (.var [.clo (.func 59) [] [.loc 200001 0 0],.i .i64 v3]),.n 6,.cm (.clo) [(200000,200001)] [(200001,200000)] [] [.d] [(200000,.var (Qd v1))] (.b x9),.n 3] rfl ⟨⟨⟨⟨tt_,rfl⟩,(fun σ h1 h2 _=>Stp.idxV rfl rfl (bleN hC.n rfl) (h1 _ _ rfl) (h1 _ _ rfl) (Qo.es rfl) (h2 _ _ rfl) (by decide))⟩,rfl⟩,(QpN _ hx9)⟩ ?_
  rcases bifE h with⟨hc10,h⟩|⟨hc10,h⟩
  ·refine Qa hC [.br true,.n 13,.keep [2] [200000,200001]] rfl ⟨tt_,hc10⟩ ?_
   cases h
   exact AK.done (ex_ [_] (an_ (an_ rfl tt_) (gives ⟨rfl,rfl,tt_⟩)))
  ·refine Qa hC [.br false,.n 4,.v .no [] (.i .i64 2),.n 2] rfl ⟨⟨tt_,hc10⟩,rfl⟩ ?_
   refine AK.met (AK.rnd ?_)
   obtain⟨x11,hx11,h⟩:=Qb h
   refine Qa hC [.n 2,.v .no [] (.b true),.n 10,.o (.any (.loc 200000 0 4) none),.n 1,.kill 4,.n 2,.sayO 4 (.var [.clo (.func 61) [] [.loc 200001 0 0],.i .i64 v4]),.n 6,.cm (.clo) [(200000,200001)] [(200001,200000)] [] [.d] [(200000,.var (Qd v1))] (.b x11),.n 3] rfl ⟨⟨⟨⟨tt_,rfl⟩,(fun σ h1 h2 _=>Stp.idxV rfl rfl (bleN hC.n rfl) (h1 _ _ rfl) (h1 _ _ rfl) (Qo.es rfl) (h2 _ _ rfl) (by decide))⟩,rfl⟩,(QpO _ hx11)⟩ ?_
   rcases bifE h with⟨hc12,h⟩|⟨hc12,h⟩
   ·refine Qa hC [.br true,.n 13,.keep [2] [200000,200001]] rfl ⟨tt_,hc12⟩ ?_
    cases h
    exact AK.done (ex_ [_] (an_ (an_ rfl tt_) (gives ⟨rfl,rfl,tt_⟩)))
   ·refine Qa hC [.br false,.n 4,.v .no [] (.i .i64 3),.n 2] rfl ⟨⟨tt_,hc12⟩,rfl⟩ ?_
    refine AK.met (AK.rnd ?_)
    refine Qa hC [.n 2,.v .no [] (.b false),.n 15,.keep [2] [200000,200001]] rfl ⟨tt_,rfl⟩ ?_
    cases h
    exact AK.done (ex_ [_] (an_ (an_ rfl tt_) (gives ⟨rfl,rfl,tt_⟩)))
def Qgx (l1:(List Qy)):Option Bool:=
 (Qex l1).bind fun x3=>
 some x3.2
theorem Qpa (l1:(List Qy)){r:Bool}(h:Qgx l1=some r):Qc Tryz.prog 107 [.sl 7 (l1.map Qu)] [] (Gives (.b r) []):=by
 refine Qc.walk 11 Tryz.func107 rfl Tryz.ntmps107 rfl fun C hC=>?_
 unfold Qgx at h
 obtain⟨x3,hx3,h⟩:=Qb h
 refine Qa hC [.n 8,.o (.c false [.d] (.tup [.sl 1 (x3.1.map Qe),.b x3.2])),.n 14,.keep [2] []] rfl ⟨tt_,(Qle _ hx3)⟩ ?_
 cases h
 exact AK.done (ex_ [_] (an_ (an_ rfl tt_) (gives tt_)))
def Qdd (v1:TNet)(v2:Int):Option Bool:=
 (chk (decide (0≤(w64 (v2+1)))&&decide (0≤(w64 (v2+1)).toNat)&&decide ((w64 (v2+1)).toNat≤v1.Colours.length))).bind fun _=>
 (Qgx ((v1.Colours.drop 0).take ((w64 (v2+1)).toNat-0))).bind fun x5=>
 some x5
theorem QmA (v1:TNet)(v2:Int){r:Bool}(h:Qdd v1 v2=some r):Qc Tryz.prog 106 [.loc 200000 0 0,.loc 200001 0 0] [(200000,.var (Qd v1)),(200001,.var (Qe v2))] (Gives (.b r) [(200000,.var (Qd v1)),(200001,.var (Qe v2))]):=by
 refine Qc.walk 9 Tryz.func106 rfl Tryz.ntmps106 rfl fun C hC=>?_
 unfold Qdd at h
 obtain⟨_,hk4,h⟩:=Qb h
 replace hk4:=chkE hk4
 obtain⟨x5,hx5,h⟩:=Qb h
 refine Qa hC [.n 11,.o (.any (.sl 7 (((v1.Colours.drop 0).take ((w64 (v2+1)).toNat-0)).map Qu)) none),.o (.c false [.d] (.b x5)),.n 4,.keep [2] [200000,200001]] rfl ⟨⟨tt_,(fun σ h1 h2 _=>Stp.sliceD rfl rfl (bleN hC.n rfl) (h1 _ _ rfl) (Qo.es rfl) Bnd.no (Bnd.val (h1 _ _ rfl) (of_decide_eq_true (Qog hk4)) rfl) (of_decide_eq_true (Qoh hk4)) (Nat.le_trans (of_decide_eq_true (Qoi hk4)) (Nat.le_of_eq Qh.symm)) Qqn)⟩,(Qpa _ hx5)⟩ ?_
 cases h
 exact AK.done (ex_ [_] (an_ (an_ rfl tt_) (gives ⟨rfl,rfl,tt_⟩)))
def Qjn (x:ByteArray):Option (List ByteArray):=(chk (Qsi x)).bind fun _=>some (Qfq x)
theorem QnN (x:ByteArray){r:List ByteArray}(h:Qjn x=some r):Qc Tryz.prog 238 [.s x] [] (Gives (.own 30000 r.length) [(30000,.arr 1 (r.map Qdv))]):=by
 unfold Qjn at h
 obtain⟨_,h1,h⟩:=Qb h
 cases h
 exact QrC QtT (by kernel_rfl) (by kernel_rfl) x (chkE h1)
def Qfv  : Option (List ByteArray):=
 (Qjn (⟨#[99,111,108,111,117,114,32,112,108,97,99,101,32,116,97,115,107,32,118,97,114,32,119,104,101,110,32,106,111,105,110,32,115,112,108,105,116,32,105,110,32,111,117,116,32,99,97,110,99,101,108,32,97,102,116,101,114,32,109,97,110,121,32,102,114,111,109,32,116,111,32,105,110,116,32,101,110,117,109,32,112,97,105,114,32,97,110,100,32,120,111,114,32,111,114,32,105,102]⟩:ByteArray)).bind fun x2=>
 some x2
theorem QpQ  {r:(List ByteArray)}(h:Qfv  = some r):Qc Tryz.prog 206 [] [] (Gives (.own 30000 r.length) [(30000,.arr 1 (r.map Qdv))]):=by
 refine Qc.walk 2 Tryz.func206 rfl Tryz.ntmps206 rfl fun C hC=>?_
 unfold Qfv at h
 obtain⟨x2,hx2,h⟩:=Qb h
 refine Qa hC [.n 7,.o (.co false [.d] 1 (x2.map Qdv) x2.length),.n 4,.keep [0] [1],.ren 1 30000,.keep [0] [30000]] rfl ⟨tt_,⟨(QnN _ hx2),Qh,.inl rfl⟩⟩ ?_
 cases h
 exact AK.done (ex_ [_] (an_ (an_ rfl tt_) (gives ⟨rfl,tt_⟩)))
def Qal (s1:(List ByteArray))(v2:ByteArray)(x5:Int):Option (Int⊕(Int⊕Unit)):=
 bif (decide (x5<(s1.length:Int)))then
 (idx s1 x5).bind fun e9=>
 bif (QgS v2 e9)then
 some (.inr (.inl x5))
 else
 some (.inl (w64 (x5+1)))
 else
 some (.inr (.inr ()))
def QaI (x7:Int):Option Int:=
 some x7
def QaJ : Option Int:=
 some (-1)
def Qba (s1:(List ByteArray))(v2:ByteArray):Option Int:=
 (QE (fun st=>Qal s1 v2 st) 0).bind (Sum.elim (fun q=>QaI q) (fun q=>QaJ))
theorem Qjz (s1:(List ByteArray))(v2:ByteArray){r:Int}(h:Qba s1 v2=some r):Qc Tryz.prog 237 [.sl 1 (s1.map Qdv),.s v2] [] (Gives (.i .i64 r) []):=by
 refine Qc.walk 19 Tryz.func237 rfl Tryz.ntmps237 rfl fun C hC=>?_
 unfold Qba at h
 refine Qa hC [.n 9,.o (.ln s1.length),.n 4,.keep [0,1,7,8] []] rfl ⟨tt_,Qh⟩ ?_
 obtain⟨o11,hl11,h⟩:=Qb h
 refine AK.loop (body:=(fun st=>Qal s1 v2 st)) (fun st σ=>σ=⟨[(0,.sl 1 (s1.map Qdv)),(1,.s v2),(7,.i .i64 (s1.length:Int)),(8,.i .i64 st)],[]⟩) (Sum.elim (fun q e σ=>e=.ret∧σ=⟨[(4,.i .i64 q)],[]⟩) (fun q e σ=>e=.exit 0∧σ=⟨[],[]⟩)) hl11 rfl ?_ ?_
 ·rintro x5 o σ rfl h
  replace h:Qal s1 v2 x5=some o:=h
  unfold Qal at h
  refine Qa hC [.n 6] rfl tt_ ?_
  rcases bifE h with⟨hc8,h⟩|⟨hc8,h⟩
  ·obtain⟨e9,he9,h⟩:=Qb h
   refine Qa hC [.br true,.n 15,.o (.row (Qdv e9)),.n 4] rfl ⟨⟨tt_,hc8⟩,(idxM he9)⟩ ?_
   rcases bifE h with⟨hc10,h⟩|⟨hc10,h⟩
   ·refine Qa hC [.br true,.n 9,.keep [4] []] rfl ⟨tt_,hc10⟩ ?_
    cases h
    exact rndR rfl (an_ rfl rfl)
   ·refine Qa hC [.br false,.n 7,.keep [0,1,7,8] []] rfl ⟨tt_,hc10⟩ ?_
    cases h
    exact rndN rfl rfl
  ·refine Qa hC [.br false,.n 2,.keep [] []] rfl ⟨tt_,hc8⟩ ?_
   cases h
   exact rndX rfl (an_ rfl rfl)
 ·rcases o11 with(x7 | _)
  ·replace h:QaI x7=some r:=h
   unfold QaI at h
   rintro e σ ⟨rfl,rfl⟩
   refine Qa hC [.n 2,.keep [4] []] rfl tt_ ?_
   cases h
   exact AK.done (ex_ [_] (an_ (an_ rfl tt_) (gives tt_)))
  ·replace h:QaJ=some r:=h
   unfold QaJ at h
   rintro e σ ⟨rfl,rfl⟩
   refine Qa hC [.n 8,.keep [4] []] rfl tt_ ?_
   cases h
   exact AK.done (ex_ [_] (an_ (an_ rfl tt_) (gives tt_)))
def QaK (s1:(List ByteArray))(v2:ByteArray):Option Bool:=
 (Qba s1 v2).bind fun x4=>
 some (decide (0≤x4))
theorem QiF (s1:(List ByteArray))(v2:ByteArray){r:Bool}(h:QaK s1 v2=some r):Qc Tryz.prog 205 [.sl 1 (s1.map Qdv),.s v2] [] (Gives (.b r) []):=by
 refine Qc.walk 9 Tryz.func205 rfl Tryz.ntmps205 rfl fun C hC=>?_
 unfold QaK at h
 obtain⟨x4,hx4,h⟩:=Qb h
 refine Qa hC [.n 9,.o (.c false [.d,.d] (.i .i64 x4)),.n 5,.keep [4] []] rfl ⟨tt_,(Qjz _ _ hx4)⟩ ?_
 cases h
 exact AK.done (ex_ [_] (an_ (an_ rfl tt_) (gives tt_)))
def Qib (s1:ByteArray):Option Bool:=
 (Qfv).bind fun x3=>
 (QaK x3 s1).bind fun x4=>
 some x4
theorem Qqy (s1:ByteArray){r:Bool}(h:Qib s1=some r):Qc Tryz.prog 165 [.s s1] [] (Gives (.b r) []):=by
 refine Qc.walk 6 Tryz.func165 rfl Tryz.ntmps165 rfl fun C hC=>?_
 unfold Qib at h
 obtain⟨x3,hx3,h⟩:=Qb h
 obtain⟨x4,hx4,h⟩:=Qb h
 refine Qa hC [.n 7,.o (.co false [] 1 (x3.map Qdv) x3.length),.n 1,.o (.c true [.o (x3.map Qdv),.d] (.b x4)),.n 4,.keep [2] []] rfl ⟨⟨tt_,⟨(QpQ  hx3),Qh,.inl rfl⟩⟩,⟨(QqW rfl),(QiF _ _ hx4)⟩⟩ ?_
 cases h
 exact AK.done (ex_ [_] (an_ (an_ rfl tt_) (gives tt_)))
def Qj8 (s1:ByteArray):Option Bool:=
 (Qd3 s1).bind fun x5=>
 bif x5 then
 (Qib s1).bind fun x7=>
 some (!x7)
 else
 some false
def QfI (x3:Bool):Option Bool:=
 some x3
def QcX (s1:ByteArray):Option Bool:=
 (Qj8 s1).bind (fun x3=>QfI x3)
theorem QfJ (s1:ByteArray){r:Bool}(h:QcX s1=some r):Qc Tryz.prog 103 [.s s1] [] (Gives (.b r) []):=by
 refine Qc.walk 10 Tryz.func103 rfl Tryz.ntmps103 rfl fun C hC=>?_
 unfold QcX at h
 refine Qa hC [.n 6] rfl tt_ ?_
 obtain⟨x3,hv4,h⟩:=Qb h
 replace h:QfI x3=some r:=h
 refine AK.meetX (fun σ=>σ=⟨[(2,.b x3)],[]⟩) ?_ ?_
 ·replace h:=hv4
  unfold Qj8 at h
  obtain⟨x5,hx5,h⟩:=Qb h
  refine Qa hC [.n 2,.o (.c false [.d] (.b x5)),.n 1] rfl ⟨tt_,(Qje _ hx5)⟩ ?_
  rcases bifE h with⟨hc6,h⟩|⟨hc6,h⟩
  ·obtain⟨x7,hx7,h⟩:=Qb h
   refine Qa hC [.say 5 (.b true),.n 1,.o (.c false [.d] (.b x7)),.n 4,.keep [2] []] rfl ⟨⟨tt_,(congrArg V.b hc6)⟩,(Qqy _ hx7)⟩ ?_
   cases h
   exact AK.met rfl
  ·refine Qa hC [.say 5 (.b false),.n 6,.keep [2] []] rfl ⟨tt_,(congrArg V.b hc6)⟩ ?_
   cases h
   exact AK.met rfl
 ·rintro σ rfl
  replace h:QfI x3=some r:=h
  unfold QfI at h
  refine Qa hC [.n 2,.keep [2] []] rfl tt_ ?_
  cases h
  exact AK.done (ex_ [_] (an_ (an_ rfl tt_) (gives tt_)))
def QcE (s1:ByteArray):Option Bool:=
 (QcX s1).bind fun x3=>
 some (!x3)
theorem QlS (s1:ByteArray){r:Bool}(h:QcE s1=some r):Qc Tryz.prog 105 [.s s1] [] (Gives (.b r) []):=by
 refine Qc.walk 6 Tryz.func105 rfl Tryz.ntmps105 rfl fun C hC=>?_
 unfold QcE at h
 obtain⟨x3,hx3,h⟩:=Qb h
 refine Qa hC [.n 8,.o (.c false [.d] (.b x3)),.n 5,.keep [2] []] rfl ⟨tt_,(QfJ _ hx3)⟩ ?_
 cases h
 exact AK.done (ex_ [_] (an_ (an_ rfl tt_) (gives tt_)))
def Q2 (s1:(List ByteArray))(x4:Int):Option (Int⊕(Int⊕Unit)):=
 bif (decide (x4<(s1.length:Int)))then
 (idx s1 x4).bind fun e8=>
 (QcE e8).bind fun x9=>
 bif x9 then
 some (.inr (.inl x4))
 else
 some (.inl (w64 (x4+1)))
 else
 some (.inr (.inr ()))
def Qar (x6:Int):Option Int:=
 some x6
def Qas : Option Int:=
 some (-1)
def QaD (s1:(List ByteArray)):Option Int:=
 (QE (fun st=>Q2 s1 st) 0).bind (Sum.elim (fun q=>Qar q) (fun q=>Qas))
theorem Qit (s1:(List ByteArray)){r:Int}(h:QaD s1=some r):Qc Tryz.prog 166 [.sl 1 (s1.map Qdv),.clo (.func 105) [] []] [] (Gives (.i .i64 r) []):=by
 refine Qc.walk 19 Tryz.func166 rfl Tryz.ntmps166 rfl fun C hC=>?_
 unfold QaD at h
 refine Qa hC [.n 9,.o (.ln s1.length),.n 4,.keep [0,1,7,8] []] rfl ⟨tt_,Qh⟩ ?_
 obtain⟨o11,hl11,h⟩:=Qb h
 refine AK.loop (body:=(fun st=>Q2 s1 st)) (fun st σ=>σ=⟨[(0,.sl 1 (s1.map Qdv)),(1,.clo (.func 105) [] []),(7,.i .i64 (s1.length:Int)),(8,.i .i64 st)],[]⟩) (Sum.elim (fun q e σ=>e=.ret∧σ=⟨[(4,.i .i64 q)],[]⟩) (fun q e σ=>e=.exit 0∧σ=⟨[],[]⟩)) hl11 rfl ?_ ?_
 ·rintro x4 o σ rfl h
  replace h:Q2 s1 x4=some o:=h
  unfold Q2 at h
  refine Qa hC [.n 6] rfl tt_ ?_
  rcases bifE h with⟨hc7,h⟩|⟨hc7,h⟩
  ·obtain⟨e8,he8,h⟩:=Qb h
   obtain⟨x9,hx9,h⟩:=Qb h
   refine Qa hC [.br true,.n 15,.o (.row (Qdv e8)),.n 1,.o (.c false [.d] (.b x9)),.n 2] rfl ⟨⟨⟨tt_,hc7⟩,(idxM he8)⟩,(QlS _ hx9)⟩ ?_
   rcases bifE h with⟨hc10,h⟩|⟨hc10,h⟩
   ·refine Qa hC [.br true,.n 9,.keep [4] []] rfl ⟨tt_,hc10⟩ ?_
    cases h
    exact rndR rfl (an_ rfl rfl)
   ·refine Qa hC [.br false,.n 7,.keep [0,1,7,8] []] rfl ⟨tt_,hc10⟩ ?_
    cases h
    exact rndN rfl rfl
  ·refine Qa hC [.br false,.n 2,.keep [] []] rfl ⟨tt_,hc7⟩ ?_
   cases h
   exact rndX rfl (an_ rfl rfl)
 ·rcases o11 with(x6 | _)
  ·replace h:Qar x6=some r:=h
   unfold Qar at h
   rintro e σ ⟨rfl,rfl⟩
   refine Qa hC [.n 2,.keep [4] []] rfl tt_ ?_
   cases h
   exact AK.done (ex_ [_] (an_ (an_ rfl tt_) (gives tt_)))
  ·replace h:Qas=some r:=h
   unfold Qas at h
   rintro e σ ⟨rfl,rfl⟩
   refine Qa hC [.n 8,.keep [4] []] rfl tt_ ?_
   cases h
   exact AK.done (ex_ [_] (an_ (an_ rfl tt_) (gives tt_)))
def Qat (s1:(List ByteArray)):Option Bool:=
 (QaD s1).bind fun x3=>
 some (decide (0≤x3))
theorem QhA (s1:(List ByteArray)){r:Bool}(h:Qat s1=some r):Qc Tryz.prog 104 [.sl 1 (s1.map Qdv),.clo (.func 105) [] []] [] (Gives (.b r) []):=by
 refine Qc.walk 9 Tryz.func104 rfl Tryz.ntmps104 rfl fun C hC=>?_
 unfold Qat at h
 obtain⟨x3,hx3,h⟩:=Qb h
 refine Qa hC [.n 9,.cm (.fn) [] [] [] [.d,.d] [] (.i .i64 x3),.n 5,.keep [4] []] rfl ⟨tt_,(Qit _ hx3)⟩ ?_
 cases h
 exact AK.done (ex_ [_] (an_ (an_ rfl tt_) (gives tt_)))
def Qf6 (v1:Qy):Option Bool:=
 (QcX v1.Name).bind fun x5=>
 bif x5 then
 bif (v1.Kind != 2)then
 some true
 else
 (Qat v1.Names).bind fun x8=>
 some (!x8)
 else
 some false
def Qcl (x3:Bool):Option Bool:=
 some x3
def Qde (v1:Qy):Option Bool:=
 (Qf6 v1).bind (fun x3=>Qcl x3)
theorem QmB (v1:Qy){r:Bool}(h:Qde v1=some r):Qc Tryz.prog 102 [.loc 200000 0 0] [(200000,.var (Qu v1))] (Gives (.b r) [(200000,.var (Qu v1))]):=by
 refine Qc.walk 16 Tryz.func102 rfl Tryz.ntmps102 rfl fun C hC=>?_
 unfold Qde at h
 refine Qa hC [.n 6] rfl tt_ ?_
 obtain⟨x3,hv4,h⟩:=Qb h
 replace h:Qcl x3=some r:=h
 refine AK.meetX (fun σ=>σ=⟨[(1,.b x3)],[(200000,.var (Qu v1))]⟩) ?_ ?_
 ·replace h:=hv4
  unfold Qf6 at h
  obtain⟨x5,hx5,h⟩:=Qb h
  refine Qa hC [.n 3,.o (.c false [.d] (.b x5)),.n 1] rfl ⟨tt_,(QfJ _ hx5)⟩ ?_
  rcases bifE h with⟨hc6,h⟩|⟨hc6,h⟩
  ·refine Qa hC [.say 5 (.b true),.n 4] rfl ⟨tt_,(congrArg V.b hc6)⟩ ?_
   rcases bifE h with⟨hc7,h⟩|⟨hc7,h⟩
   ·refine Qa hC [.say 9 (.b true),.n 8,.keep [1] [200000]] rfl ⟨tt_,(congrArg V.b hc7)⟩ ?_
    cases h
    exact AK.met rfl
   ·obtain⟨x8,hx8,h⟩:=Qb h
    refine Qa hC [.say 9 (.b false),.n 2,.cm (.fn) [] [] [] [.d,.d] [] (.b x8),.n 5,.keep [1] [200000]] rfl ⟨⟨tt_,(congrArg V.b hc7)⟩,(QhA _ hx8)⟩ ?_
    cases h
    exact AK.met rfl
  ·refine Qa hC [.say 5 (.b false),.n 12,.keep [1] [200000]] rfl ⟨tt_,(congrArg V.b hc6)⟩ ?_
   cases h
   exact AK.met rfl
 ·rintro σ rfl
  replace h:Qcl x3=some r:=h
  unfold Qcl at h
  refine Qa hC [.n 2,.keep [1] [200000]] rfl tt_ ?_
  cases h
  exact AK.done (ex_ [_] (an_ (an_ rfl tt_) (gives ⟨rfl,tt_⟩)))
def Qe0 (v1:TNet)(v2:Int)(v3:Int)(v4:Qy)(v5:Int):Option Int:=
 (Qdd v1 v2).bind fun x8=>
 bif (!x8)then
 some v3
 else
 (Qde v4).bind fun x10=>
 bif (!x10)then
 some v5
 else
 some 0
theorem QnO (v1:TNet)(v2:Int)(v3:Int)(v4:Qy)(v5:Int){r:Int}(h:Qe0 v1 v2 v3 v4 v5=some r):Qc Tryz.prog 57 [.own 200000 2] [(200000,.var [.clo (.func 106) [] [.loc 200001 0 0,.loc 200002 0 0],.i .i64 v3,.clo (.func 102) [] [.loc 200003 0 0],.i .i64 v5]),(200001,.var (Qd v1)),(200002,.var (Qe v2)),(200003,.var (Qu v4))] (Gives (.i .i64 r) [(200000,.var [.clo (.func 106) [] [.loc 200001 0 0,.loc 200002 0 0],.i .i64 v3,.clo (.func 102) [] [.loc 200003 0 0],.i .i64 v5]),(200001,.var (Qd v1)),(200002,.var (Qe v2)),(200003,.var (Qu v4))]):=by
 refine Qc.walk 18 Tryz.func57 rfl Tryz.ntmps57 rfl fun C hC=>?_
 unfold Qe0 at h
 refine Qa hC [.n 14] rfl tt_ ?_
 refine AK.loopN 3 (AK.rnd ?_)
 obtain⟨x8,hx8,h⟩:=Qb h
 refine Qa hC [.n 2,.v .no [] (.b true),.n 10,.o (.any (.loc 200000 0 0) none),.n 3,.sayO 4 (.var [.clo (.func 106) [] [.loc 200001 0 0,.loc 200002 0 0],.i .i64 v3]),.n 6,.cm (.clo) [(200000,200001),(200001,200002)] [(200001,200000),(200002,200001)] [] [.d,.d] [(200000,.var (Qd v1)),(200001,.var (Qe v2))] (.b x8),.n 3] rfl ⟨⟨⟨⟨tt_,rfl⟩,(fun σ h1 h2 _=>Stp.idxV rfl rfl (bleN hC.n rfl) (h1 _ _ rfl) (h1 _ _ rfl) (Qo.es rfl) (h2 _ _ rfl) (by decide))⟩,rfl⟩,(QmA _ _ hx8)⟩ ?_
 rcases bifE h with⟨hc9,h⟩|⟨hc9,h⟩
 ·refine Qa hC [.br true,.n 13,.keep [2] [200000,200001,200002,200003]] rfl ⟨tt_,hc9⟩ ?_
  cases h
  exact AK.done (ex_ [_] (an_ (an_ rfl tt_) (gives ⟨rfl,rfl,rfl,rfl,tt_⟩)))
 ·refine Qa hC [.br false,.n 4,.v .no [] (.i .i64 1),.n 2] rfl ⟨⟨tt_,hc9⟩,rfl⟩ ?_
  refine AK.met (AK.rnd ?_)
  obtain⟨x10,hx10,h⟩:=Qb h
  refine Qa hC [.n 2,.v .no [] (.b true),.n 10,.o (.any (.loc 200000 0 2) none),.n 1,.kill 4,.n 2,.sayO 4 (.var [.clo (.func 102) [] [.loc 200003 0 0],.i .i64 v5]),.n 6,.cm (.clo) [(200000,200003)] [(200003,200000)] [] [.d] [(200000,.var (Qu v4))] (.b x10),.n 3] rfl ⟨⟨⟨⟨tt_,rfl⟩,(fun σ h1 h2 _=>Stp.idxV rfl rfl (bleN hC.n rfl) (h1 _ _ rfl) (h1 _ _ rfl) (Qo.es rfl) (h2 _ _ rfl) (by decide))⟩,rfl⟩,(QmB _ hx10)⟩ ?_
  rcases bifE h with⟨hc11,h⟩|⟨hc11,h⟩
  ·refine Qa hC [.br true,.n 13,.keep [2] [200000,200001,200002,200003]] rfl ⟨tt_,hc11⟩ ?_
   cases h
   exact AK.done (ex_ [_] (an_ (an_ rfl tt_) (gives ⟨rfl,rfl,rfl,rfl,tt_⟩)))
  ·refine Qa hC [.br false,.n 4,.v .no [] (.i .i64 2),.n 2] rfl ⟨⟨tt_,hc11⟩,rfl⟩ ?_
   refine AK.met (AK.rnd ?_)
   refine Qa hC [.n 2,.v .no [] (.b false),.n 15,.keep [2] [200000,200001,200002,200003]] rfl ⟨tt_,rfl⟩ ?_
   cases h
   exact AK.done (ex_ [_] (an_ (an_ rfl tt_) (gives ⟨rfl,rfl,rfl,rfl,tt_⟩)))
def Qeg (k1:Int)(c2:Qy)(v3:TNet):Option Int:=
 (Qe0 v3 k1 8 c2 8).bind fun x5=>
 some x5
theorem Qnt (k1:Int)(c2:Qy)(v3:TNet){r:Int}(h:Qeg k1 c2 v3=some r):Qc Tryz.prog 101 [.i .i64 k1,.agg (Qu c2),.loc 200000 0 0] [(200000,.var (Qd v3))] (Gives (.i .i64 r) [(200000,.var (Qd v3))]):=by
 refine Qc.walk 16 Tryz.func101 rfl Tryz.ntmps101 rfl fun C hC=>?_
 unfold Qeg at h
 obtain⟨x5,hx5,h⟩:=Qb h
 refine Qa hC [.n 22,.v .no [] (.agg [.clo (.func 106) [] [.loc 200000 0 0,.loc 3 0 0],.i .i64 8]),.n 1,.v .no [] (.agg [.clo (.func 102) [] [.loc 4 0 0],.i .i64 8]),.o (.any (.own 14 2) (some (.var [.clo (.func 106) [] [.loc 200000 0 0,.loc 3 0 0],.i .i64 8,.clo (.func 102) [] [.loc 4 0 0],.i .i64 8]))),.cm (.fn) [(200000,14),(200001,200000),(200002,3),(200003,4)] [(14,200000),(200000,200001),(3,200002),(4,200003)] [] [.d] [(200000,.var [.clo (.func 106) [] [.loc 200001 0 0,.loc 200002 0 0],.i .i64 8,.clo (.func 102) [] [.loc 200003 0 0],.i .i64 8]),(200001,.var (Qd v3)),(200002,.var (Qe k1)),(200003,.var (Qu c2))] (.i .i64 x5),.n 4,.keep [5] [200000]] rfl ⟨⟨⟨⟨tt_,rfl⟩,rfl⟩,(fun σ h1 h2 hf=>Stp.buildAny rfl rfl (bleN hC.n rfl) (Qo.es rfl) QkP rfl (by decide) (by decide) (QeK h1 rfl) rfl rfl (hf rfl))⟩,(QnO _ _ _ _ _ hx5)⟩ ?_
 cases h
 exact AK.done (ex_ [_] (an_ (an_ rfl tt_) (gives ⟨rfl,tt_⟩)))
def QaL (l1:(List Qy))(v2:TNet)(x7:Int):Option (Int⊕((Int×Int)⊕Unit)):=
 bif (decide (x7<(l1.length:Int)))then
 (idx l1 x7).bind fun e12=>
 (Qeg x7 e12 v2).bind fun x13=>
 bif (x13 != 0)then
 some (.inr (.inl (x7,x13)))
 else
 some (.inl (w64 (x7+1)))
 else
 some (.inr (.inr ()))
def Qbp (x9:Int)(x10:Int):Option (Int×Int):=
 some (x9,x10)
def Qbq : Option (Int×Int):=
 some (0,0)
def Qb0 (l1:(List Qy))(v2:TNet):Option (Int×Int):=
 (QE (fun st=>QaL l1 v2 st) 0).bind (Sum.elim (fun q=>Qbp q.1 q.2) (fun q=>Qbq))
theorem Qlb (l1:(List Qy))(v2:TNet){r:(Int×Int)}(h:Qb0 l1 v2=some r):Qc Tryz.prog 100 [.sl 7 (l1.map Qu),.clo (.func 101) [] [.loc 200000 0 0]] [(200000,.var (Qd v2))] (Gives (.tup [.i .i64 r.1,.i .i64 r.2]) [(200000,.var (Qd v2))]):=by
 refine Qc.walk 25 Tryz.func100 rfl Tryz.ntmps100 rfl fun C hC=>?_
 unfold Qb0 at h
 refine Qa hC [.n 10,.o (.ln l1.length),.n 4,.keep [1,9,10,11] [200000]] rfl ⟨tt_,Qh⟩ ?_
 obtain⟨o15,hl15,h⟩:=Qb h
 refine AK.loop (body:=(fun st=>QaL l1 v2 st)) (fun st σ=>σ=⟨[(1,.clo (.func 101) [] [.loc 200000 0 0]),(9,.sl 7 (l1.map Qu)),(10,.i .i64 (l1.length:Int)),(11,.i .i64 st)],[(200000,.var (Qd v2))]⟩) (Sum.elim (fun q e σ=>e=.ret∧σ=⟨[(4,.i .i64 q.1),(5,.i .i64 q.2)],[(200000,.var (Qd v2))]⟩) (fun q e σ=>e=.exit 0∧σ=⟨[],[(200000,.var (Qd v2))]⟩)) hl15 rfl ?_ ?_
 ·rintro x7 o σ rfl h
  replace h:QaL l1 v2 x7=some o:=h
  unfold QaL at h
  refine Qa hC [.n 6] rfl tt_ ?_
  rcases bifE h with⟨hc11,h⟩|⟨hc11,h⟩
  ·obtain⟨e12,he12,h⟩:=Qb h
   obtain⟨x13,hx13,h⟩:=Qb h
   refine Qa hC [.br true,.n 7,.o (.row (Qu e12)),.v .no [] (.agg (Qu e12)),.n 3,.sayO 7 (.var (Qu e12)),.n 6,.v .no [] (.agg (Qu e12)),.cm (.clo) [(200000,200000)] [(200000,200000)] [] [.d,.d,.d] [(200000,.var (Qd v2))] (.i .i64 x13),.n 9] rfl ⟨⟨⟨⟨⟨⟨tt_,hc11⟩,(idxM he12)⟩,rfl⟩,rfl⟩,rfl⟩,(Qnt _ _ _ hx13)⟩ ?_
   rcases bifE h with⟨hc14,h⟩|⟨hc14,h⟩
   ·refine Qa hC [.br true,.n 11,.keep [4,5] [200000]] rfl ⟨tt_,hc14⟩ ?_
    cases h
    exact rndR rfl (an_ rfl rfl)
   ·refine Qa hC [.br false,.n 7,.keep [1,9,10,11] [200000]] rfl ⟨tt_,hc14⟩ ?_
    cases h
    exact rndN rfl rfl
  ·refine Qa hC [.br false,.n 2,.keep [] [200000]] rfl ⟨tt_,hc11⟩ ?_
   cases h
   exact rndX rfl (an_ rfl rfl)
 ·rcases o15 with(⟨x9,x10⟩|_)
  ·replace h:Qbp x9 x10=some r:=h
   unfold Qbp at h
   rintro e σ ⟨rfl,rfl⟩
   refine Qa hC [.n 2,.keep [4,5] [200000]] rfl tt_ ?_
   cases h
   exact AK.done (ex_ [_,_] (an_ (an_ rfl (an_ rfl tt_)) (gives ⟨rfl,tt_⟩)))
  ·replace h:Qbq=some r:=h
   unfold Qbq at h
   rintro e σ ⟨rfl,rfl⟩
   refine Qa hC [.n 9,.keep [4,5] [200000]] rfl tt_ ?_
   cases h
   exact AK.done (ex_ [_,_] (an_ (an_ rfl (an_ rfl tt_)) (gives ⟨rfl,tt_⟩)))
def QdY (n1:TNet):Option (Int×Int):=
 (Qb0 n1.Colours n1).bind fun x4=>
 some (x4.1,x4.2)
theorem QkS (n1:TNet){r:(Int×Int)}(h:QdY n1=some r):Qc Tryz.prog 62 [.agg (Qd n1)] [] (Gives (.tup [.i .i64 r.1,.i .i64 r.2]) []):=by
 refine Qc.walk 10 Tryz.func62 rfl Tryz.ntmps62 rfl fun C hC=>?_
 unfold QdY at h
 obtain⟨x4,hx4,h⟩:=Qb h
 refine Qa hC [.n 12,.cm (.fn) [(200000,1)] [(1,200000)] [] [.d,.d] [(200000,.var (Qd n1))] (.tup [.i .i64 x4.1,.i .i64 x4.2]),.n 7,.keep [2,3] []] rfl ⟨tt_,(Qlb _ _ hx4)⟩ ?_
 cases h
 exact AK.done (ex_ [_,_] (an_ (an_ rfl (an_ rfl tt_)) (gives tt_)))
def QfK (v1:QA):Option Bool:=
 (QcX v1.Name).bind fun x3=>
 some x3
theorem Qot (v1:QA){r:Bool}(h:QfK v1=some r):Qc Tryz.prog 109 [.loc 200000 0 0] [(200000,.var (Qs v1))] (Gives (.b r) [(200000,.var (Qs v1))]):=by
 refine Qc.walk 5 Tryz.func109 rfl Tryz.ntmps109 rfl fun C hC=>?_
 unfold QfK at h
 obtain⟨x3,hx3,h⟩:=Qb h
 refine Qa hC [.n 9,.o (.c false [.d] (.b x3)),.n 4,.keep [1] [200000]] rfl ⟨tt_,(QfJ _ hx3)⟩ ?_
 cases h
 exact AK.done (ex_ [_] (an_ (an_ rfl tt_) (gives ⟨rfl,tt_⟩)))
def QfL (p1:QA)(v2:QA):Option Bool:=
 some (QgS p1.Name v2.Name)
theorem Qou (p1:QA)(v2:QA){r:Bool}(h:QfL p1 v2=some r):Qc Tryz.prog 108 [.agg (Qs p1),.loc 200000 0 0] [(200000,.var (Qs v2))] (Gives (.b r) [(200000,.var (Qs v2))]):=by
 refine Qc.walk 9 Tryz.func108 rfl Tryz.ntmps108 rfl fun C hC=>?_
 unfold QfL at h
 refine Qa hC [.n 17,.keep [3] [200000]] rfl tt_ ?_
 cases h
 exact AK.done (ex_ [_] (an_ (an_ rfl tt_) (gives ⟨rfl,tt_⟩)))
def QP (s1:(List QA))(v2:QA)(x5:Int):Option (Int⊕(Int⊕Unit)):=
 bif (decide (x5<(s1.length:Int)))then
 (idx s1 x5).bind fun e9=>
 (QfL e9 v2).bind fun x10=>
 bif x10 then
 some (.inr (.inl x5))
 else
 some (.inl (w64 (x5+1)))
 else
 some (.inr (.inr ()))
def QZ (x7:Int):Option Int:=
 some x7
def Q0 : Option Int:=
 some (-1)
def Qad (s1:(List QA))(v2:QA):Option Int:=
 (QE (fun st=>QP s1 v2 st) 0).bind (Sum.elim (fun q=>QZ q) (fun q=>Q0))
theorem QgL (s1:(List QA))(v2:QA){r:Int}(h:Qad s1 v2=some r):Qc Tryz.prog 167 [.sl 3 (s1.map Qs),.clo (.func 108) [] [.loc 200000 0 0]] [(200000,.var (Qs v2))] (Gives (.i .i64 r) [(200000,.var (Qs v2))]):=by
 refine Qc.walk 19 Tryz.func167 rfl Tryz.ntmps167 rfl fun C hC=>?_
 unfold Qad at h
 refine Qa hC [.n 9,.o (.ln s1.length),.n 4,.keep [0,1,7,8] [200000]] rfl ⟨tt_,Qh⟩ ?_
 obtain⟨o12,hl12,h⟩:=Qb h
 refine AK.loop (body:=(fun st=>QP s1 v2 st)) (fun st σ=>σ=⟨[(0,.sl 3 (s1.map Qs)),(1,.clo (.func 108) [] [.loc 200000 0 0]),(7,.i .i64 (s1.length:Int)),(8,.i .i64 st)],[(200000,.var (Qs v2))]⟩) (Sum.elim (fun q e σ=>e=.ret∧σ=⟨[(4,.i .i64 q)],[(200000,.var (Qs v2))]⟩) (fun q e σ=>e=.exit 0∧σ=⟨[],[(200000,.var (Qs v2))]⟩)) hl12 rfl ?_ ?_
 ·rintro x5 o σ rfl h
  replace h:QP s1 v2 x5=some o:=h
  unfold QP at h
  refine Qa hC [.n 6] rfl tt_ ?_
  rcases bifE h with⟨hc8,h⟩|⟨hc8,h⟩
  ·obtain⟨e9,he9,h⟩:=Qb h
   obtain⟨x10,hx10,h⟩:=Qb h
   refine Qa hC [.br true,.n 15,.o (.row (Qs e9)),.v .no [] (.agg (Qs e9)),.cm (.clo) [(200000,200000)] [(200000,200000)] [] [.d,.d] [(200000,.var (Qs v2))] (.b x10),.n 2] rfl ⟨⟨⟨⟨tt_,hc8⟩,(idxM he9)⟩,rfl⟩,(Qou _ _ hx10)⟩ ?_
   rcases bifE h with⟨hc11,h⟩|⟨hc11,h⟩
   ·refine Qa hC [.br true,.n 9,.keep [4] [200000]] rfl ⟨tt_,hc11⟩ ?_
    cases h
    exact rndR rfl (an_ rfl rfl)
   ·refine Qa hC [.br false,.n 7,.keep [0,1,7,8] [200000]] rfl ⟨tt_,hc11⟩ ?_
    cases h
    exact rndN rfl rfl
  ·refine Qa hC [.br false,.n 2,.keep [] [200000]] rfl ⟨tt_,hc8⟩ ?_
   cases h
   exact rndX rfl (an_ rfl rfl)
 ·rcases o12 with(x7 | _)
  ·replace h:QZ x7=some r:=h
   unfold QZ at h
   rintro e σ ⟨rfl,rfl⟩
   refine Qa hC [.n 2,.keep [4] [200000]] rfl tt_ ?_
   cases h
   exact AK.done (ex_ [_] (an_ (an_ rfl tt_) (gives ⟨rfl,tt_⟩)))
  ·replace h:Q0=some r:=h
   unfold Q0 at h
   rintro e σ ⟨rfl,rfl⟩
   refine Qa hC [.n 8,.keep [4] [200000]] rfl tt_ ?_
   cases h
   exact AK.done (ex_ [_] (an_ (an_ rfl tt_) (gives ⟨rfl,tt_⟩)))
def Q1 (s1:(List QA))(v2:QA):Option Bool:=
 (Qad s1 v2).bind fun x4=>
 some (decide (0≤x4))
theorem Qf7 (s1:(List QA))(v2:QA){r:Bool}(h:Q1 s1 v2=some r):Qc Tryz.prog 111 [.sl 3 (s1.map Qs),.clo (.func 108) [] [.loc 200000 0 0]] [(200000,.var (Qs v2))] (Gives (.b r) [(200000,.var (Qs v2))]):=by
 refine Qc.walk 9 Tryz.func111 rfl Tryz.ntmps111 rfl fun C hC=>?_
 unfold Q1 at h
 obtain⟨x4,hx4,h⟩:=Qb h
 refine Qa hC [.n 9,.cm (.fn) [(200000,200000)] [(200000,200000)] [] [.d,.d] [(200000,.var (Qs v2))] (.i .i64 x4),.n 5,.keep [4] [200000]] rfl ⟨tt_,(QgL _ _ hx4)⟩ ?_
 cases h
 exact AK.done (ex_ [_] (an_ (an_ rfl tt_) (gives ⟨rfl,tt_⟩)))
def QfM (v1:TNet)(v2:Int)(v3:QA):Option Bool:=
 (chk (decide (0≤v2)&&decide (0≤v2.toNat)&&decide (v2.toNat≤v1.Places.length))).bind fun _=>
 (Q1 ((v1.Places.drop 0).take (v2.toNat-0)) v3).bind fun x6=>
 some (!x6)
theorem Qov (v1:TNet)(v2:Int)(v3:QA){r:Bool}(h:QfM v1 v2 v3=some r):Qc Tryz.prog 110 [.loc 200000 0 0,.loc 200001 0 0,.loc 200002 0 0] [(200000,.var (Qd v1)),(200001,.var (Qe v2)),(200002,.var [.clo (.func 108) [] [.loc 200003 0 0]]),(200003,.var (Qs v3))] (Gives (.b r) [(200000,.var (Qd v1)),(200001,.var (Qe v2)),(200002,.var [.clo (.func 108) [] [.loc 200003 0 0]]),(200003,.var (Qs v3))]):=by
 refine Qc.walk 11 Tryz.func110 rfl Tryz.ntmps110 rfl fun C hC=>?_
 unfold QfM at h
 obtain⟨_,hk5,h⟩:=Qb h
 replace hk5:=chkE hk5
 obtain⟨x6,hx6,h⟩:=Qb h
 refine Qa hC [.n 6,.keep [0,1,2,3] [200000,200001,200002,200003]] rfl tt_ ?_
 refine AK.draw2 Qo hC mixed [.a .no none false,.a .no none false,.a .no none false,.a (.any (.sl 3 (((v1.Places.drop 0).take (v2.toNat-0)).map Qs)) none) none false,.a .no none false,.a (.any (.b x6) none) none false,.a .no none false,.m .s] [] [] [3] [200000,200001,200002,200003] rfl rfl rfl ⟨⟨tt_,(fun σ h1 h2 _=>Stp.sliceD rfl rfl (bleN hC.n rfl) (h1 _ _ rfl) (Qo.es rfl) Bnd.no (Bnd.val (h1 _ _ rfl) (of_decide_eq_true (Qog hk5)) rfl) (of_decide_eq_true (Qoh hk5)) (Nat.le_trans (of_decide_eq_true (Qoi hk5)) (Nat.le_of_eq Qh.symm)) Qqn)⟩,(fun σ h1 h2 _=>Stp.callSame (md:=.cm (.fn) [(200000,200003)] [(200003,200000)] [] [.d,.d] [(200000,.var (Qs v3))] (.b x6) [200003]) Qo hC h1 h2 rfl ⟨⟨tt_,(Qf7 _ _ hx6)⟩,⟨rfl,tt_⟩⟩)⟩ rfl (by kernel_rfl) rfl rfl rfl ?_
 refine Qa hC [.n 2,.keep [3] [200000,200001,200002,200003]] rfl tt_ ?_
 cases h
 exact AK.done (ex_ [_] (an_ (an_ rfl tt_) (gives ⟨rfl,rfl,rfl,rfl,tt_⟩)))
def Qbb (l1:(List Qy))(k2:Int):Option Bool:=
 some ((decide (0≤k2))&&(decide (k2<(l1.length:Int))))
theorem QgQ (l1:(List Qy))(k2:Int){r:Bool}(h:Qbb l1 k2=some r):Qc Tryz.prog 113 [.sl 7 (l1.map Qu),.i .i64 k2] [] (Gives (.b r) []):=by
 refine Qc.walk 13 Tryz.func113 rfl Tryz.ntmps113 rfl fun C hC=>?_
 unfold Qbb at h
 refine Qa hC [.n 6] rfl tt_ ?_
 refine AK.meetX (fun σ=>σ=⟨[(4,.b ((decide (0≤k2))&&(decide (k2<(l1.length:Int)))))],[]⟩) ?_ ?_
 ·refine Qa hC [.n 4] rfl tt_ ?_
  rcases QK (decide (0≤k2))with hc5 | hc5
  ·refine Qa hC [.say 7 (.b true),.n 2,.o (.ln l1.length),.n 4,.say 4 (.b ((decide (0≤k2))&&(decide (k2<(l1.length:Int))))),.keep [4] []] rfl ⟨⟨⟨tt_,(congrArg V.b hc5)⟩,Qh⟩,(congrArg V.b (andT hc5 rfl))⟩ ?_
   exact AK.met rfl
  ·refine Qa hC [.say 7 (.b false),.n 7,.say 4 (.b ((decide (0≤k2))&&(decide (k2<(l1.length:Int))))),.keep [4] []] rfl ⟨⟨tt_,(congrArg V.b hc5)⟩,(congrArg V.b (andF hc5 rfl))⟩ ?_
   exact AK.met rfl
 ·rintro σ rfl
  refine Qa hC [.n 2,.keep [4] []] rfl tt_ ?_
  cases h
  exact AK.done (ex_ [_] (an_ (an_ rfl tt_) (gives tt_)))
def QfN (v1:TNet)(v2:QA):Option Bool:=
 (Qbb v1.Colours v2.Colour).bind fun x4=>
 some x4
theorem Qow (v1:TNet)(v2:QA){r:Bool}(h:QfN v1 v2=some r):Qc Tryz.prog 112 [.loc 200000 0 0,.loc 200001 0 0] [(200000,.var (Qd v1)),(200001,.var (Qs v2))] (Gives (.b r) [(200000,.var (Qd v1)),(200001,.var (Qs v2))]):=by
 refine Qc.walk 8 Tryz.func112 rfl Tryz.ntmps112 rfl fun C hC=>?_
 unfold QfN at h
 obtain⟨x4,hx4,h⟩:=Qb h
 refine Qa hC [.n 11,.o (.c false [.d,.d] (.b x4)),.n 4,.keep [2] [200000,200001]] rfl ⟨tt_,(QgQ _ _ hx4)⟩ ?_
 cases h
 exact AK.done (ex_ [_] (an_ (an_ rfl tt_) (gives ⟨rfl,rfl,tt_⟩)))
def QfO (v1:QA):Option Bool:=
 (Qcg v1.First).bind fun x3=>
 some x3
theorem Qox (v1:QA){r:Bool}(h:QfO v1=some r):Qc Tryz.prog 114 [.loc 200000 0 0] [(200000,.var (Qs v1))] (Gives (.b r) [(200000,.var (Qs v1))]):=by
 refine Qc.walk 5 Tryz.func114 rfl Tryz.ntmps114 rfl fun C hC=>?_
 unfold QfO at h
 obtain⟨x3,hx3,h⟩:=Qb h
 refine Qa hC [.n 9,.o (.c false [.d] (.b x3)),.n 4,.keep [1] [200000]] rfl ⟨tt_,(Qgs _ hx3)⟩ ?_
 cases h
 exact AK.done (ex_ [_] (an_ (an_ rfl tt_) (gives ⟨rfl,tt_⟩)))
def Qeh (row1:(Int×Int))(v2:Int):Option Bool:=
 some (decide (v2≤row1.1))
theorem Qnu (row1:(Int×Int))(v2:Int){r:Bool}(h:Qeh row1 v2=some r):Qc Tryz.prog 117 [.agg (Qt row1),.loc 200000 0 0] [(200000,.var (Qe v2))] (Gives (.b r) [(200000,.var (Qe v2))]):=by
 refine Qc.walk 8 Tryz.func117 rfl Tryz.ntmps117 rfl fun C hC=>?_
 unfold Qeh at h
 refine Qa hC [.n 16,.keep [3] [200000]] rfl tt_ ?_
 cases h
 exact AK.done (ex_ [_] (an_ (an_ rfl tt_) (gives ⟨rfl,tt_⟩)))
def Q3 (s1:(List (Int×Int)))(v2:Int)(x5:Int):Option (Int⊕(Int⊕Unit)):=
 bif (decide (x5<(s1.length:Int)))then
 (idx s1 x5).bind fun e9=>
 (Qeh e9 v2).bind fun x10=>
 bif x10 then
 some (.inr (.inl x5))
 else
 some (.inl (w64 (x5+1)))
 else
 some (.inr (.inr ()))
def Qau (x7:Int):Option Int:=
 some x7
def Qav : Option Int:=
 some (-1)
def QaE (s1:(List (Int×Int)))(v2:Int):Option Int:=
 (QE (fun st=>Q3 s1 v2 st) 0).bind (Sum.elim (fun q=>Qau q) (fun q=>Qav))
theorem Qiu (s1:(List (Int×Int)))(v2:Int){r:Int}(h:QaE s1 v2=some r):Qc Tryz.prog 168 [.sl 2 (s1.map Qt),.clo (.func 117) [] [.loc 200000 0 0]] [(200000,.var (Qe v2))] (Gives (.i .i64 r) [(200000,.var (Qe v2))]):=by
 refine Qc.walk 19 Tryz.func168 rfl Tryz.ntmps168 rfl fun C hC=>?_
 unfold QaE at h
 refine Qa hC [.n 9,.o (.ln s1.length),.n 4,.keep [0,1,7,8] [200000]] rfl ⟨tt_,Qh⟩ ?_
 obtain⟨o12,hl12,h⟩:=Qb h
 refine AK.loop (body:=(fun st=>Q3 s1 v2 st)) (fun st σ=>σ=⟨[(0,.sl 2 (s1.map Qt)),(1,.clo (.func 117) [] [.loc 200000 0 0]),(7,.i .i64 (s1.length:Int)),(8,.i .i64 st)],[(200000,.var (Qe v2))]⟩) (Sum.elim (fun q e σ=>e=.ret∧σ=⟨[(4,.i .i64 q)],[(200000,.var (Qe v2))]⟩) (fun q e σ=>e=.exit 0∧σ=⟨[],[(200000,.var (Qe v2))]⟩)) hl12 rfl ?_ ?_
 ·rintro x5 o σ rfl h
  replace h:Q3 s1 v2 x5=some o:=h
  unfold Q3 at h
  refine Qa hC [.n 6] rfl tt_ ?_
  rcases bifE h with⟨hc8,h⟩|⟨hc8,h⟩
  ·obtain⟨e9,he9,h⟩:=Qb h
   obtain⟨x10,hx10,h⟩:=Qb h
   refine Qa hC [.br true,.n 15,.o (.row (Qt e9)),.v .no [] (.agg (Qt e9)),.cm (.clo) [(200000,200000)] [(200000,200000)] [] [.d,.d] [(200000,.var (Qe v2))] (.b x10),.n 2] rfl ⟨⟨⟨⟨tt_,hc8⟩,(idxM he9)⟩,rfl⟩,(Qnu _ _ hx10)⟩ ?_
   rcases bifE h with⟨hc11,h⟩|⟨hc11,h⟩
   ·refine Qa hC [.br true,.n 9,.keep [4] [200000]] rfl ⟨tt_,hc11⟩ ?_
    cases h
    exact rndR rfl (an_ rfl rfl)
   ·refine Qa hC [.br false,.n 7,.keep [0,1,7,8] [200000]] rfl ⟨tt_,hc11⟩ ?_
    cases h
    exact rndN rfl rfl
  ·refine Qa hC [.br false,.n 2,.keep [] [200000]] rfl ⟨tt_,hc8⟩ ?_
   cases h
   exact rndX rfl (an_ rfl rfl)
 ·rcases o12 with(x7 | _)
  ·replace h:Qau x7=some r:=h
   unfold Qau at h
   rintro e σ ⟨rfl,rfl⟩
   refine Qa hC [.n 2,.keep [4] [200000]] rfl tt_ ?_
   cases h
   exact AK.done (ex_ [_] (an_ (an_ rfl tt_) (gives ⟨rfl,tt_⟩)))
  ·replace h:Qav=some r:=h
   unfold Qav at h
   rintro e σ ⟨rfl,rfl⟩
   refine Qa hC [.n 8,.keep [4] [200000]] rfl tt_ ?_
   cases h
   exact AK.done (ex_ [_] (an_ (an_ rfl tt_) (gives ⟨rfl,tt_⟩)))
def Qaw (s1:(List (Int×Int)))(v2:Int):Option Bool:=
 (QaE s1 v2).bind fun x4=>
 some (decide (0≤x4))
theorem QhB (s1:(List (Int×Int)))(v2:Int){r:Bool}(h:Qaw s1 v2=some r):Qc Tryz.prog 116 [.sl 2 (s1.map Qt),.clo (.func 117) [] [.loc 200000 0 0]] [(200000,.var (Qe v2))] (Gives (.b r) [(200000,.var (Qe v2))]):=by
 refine Qc.walk 9 Tryz.func116 rfl Tryz.ntmps116 rfl fun C hC=>?_
 unfold Qaw at h
 obtain⟨x4,hx4,h⟩:=Qb h
 refine Qa hC [.n 9,.cm (.fn) [(200000,200000)] [(200000,200000)] [] [.d,.d] [(200000,.var (Qe v2))] (.i .i64 x4),.n 5,.keep [4] [200000]] rfl ⟨tt_,(Qiu _ _ hx4)⟩ ?_
 cases h
 exact AK.done (ex_ [_] (an_ (an_ rfl tt_) (gives ⟨rfl,tt_⟩)))
def QfP (v1:TNet)(v2:QA):Option Bool:=
 (Qa1 v1.Colours v2.Colour).bind fun x4=>
 (Qaw v2.First x4).bind fun x5=>
 some (!x5)
theorem Qoy (v1:TNet)(v2:QA){r:Bool}(h:QfP v1 v2=some r):Qc Tryz.prog 115 [.loc 200000 0 0,.loc 200001 0 0] [(200000,.var (Qd v1)),(200001,.var (Qs v2))] (Gives (.b r) [(200000,.var (Qd v1)),(200001,.var (Qs v2))]):=by
 refine Qc.walk 14 Tryz.func115 rfl Tryz.ntmps115 rfl fun C hC=>?_
 unfold QfP at h
 obtain⟨x4,hx4,h⟩:=Qb h
 obtain⟨x5,hx5,h⟩:=Qb h
 refine Qa hC [.n 11,.o (.c false [.d,.d] (.i .i64 x4)),.n 2,.sayO 3 (.var (Qe x4)),.n 7,.cm (.fn) [(200000,3)] [(3,200000)] [] [.d,.d] [(200000,.var (Qe x4))] (.b x5),.n 5,.keep [2] [200000,200001]] rfl ⟨⟨⟨tt_,(QgX _ _ hx4)⟩,rfl⟩,(QhB _ _ hx5)⟩ ?_
 cases h
 exact AK.done (ex_ [_] (an_ (an_ rfl tt_) (gives ⟨rfl,rfl,tt_⟩)))
def Qe1 (v1:QA)(v2:Int)(v3:TNet)(v4:Int)(v5:Int)(v6:Int)(v7:Int)(v8:Int):Option Int:=
 (QfK v1).bind fun x11=>
 bif (!x11)then
 some v2
 else
 (QfM v3 v4 v1).bind fun x13=>
 bif (!x13)then
 some v5
 else
 (QfN v3 v1).bind fun x15=>
 bif (!x15)then
 some v6
 else
 (QfO v1).bind fun x17=>
 bif (!x17)then
 some v7
 else
 (QfP v3 v1).bind fun x19=>
 bif (!x19)then
 some v8
 else
 some 0
theorem QnP (v1:QA)(v2:Int)(v3:TNet)(v4:Int)(v5:Int)(v6:Int)(v7:Int)(v8:Int){r:Int}(h:Qe1 v1 v2 v3 v4 v5 v6 v7 v8=some r):Qc Tryz.prog 57 [.own 200000 5] [(200000,.var [.clo (.func 109) [] [.loc 200001 0 0],.i .i64 v2,.clo (.func 110) [] [.loc 200002 0 0,.loc 200003 0 0,.loc 200004 0 0],.i .i64 v5,.clo (.func 112) [] [.loc 200002 0 0,.loc 200001 0 0],.i .i64 v6,.clo (.func 114) [] [.loc 200001 0 0],.i .i64 v7,.clo (.func 115) [] [.loc 200002 0 0,.loc 200001 0 0],.i .i64 v8]),(200001,.var (Qs v1)),(200002,.var (Qd v3)),(200003,.var (Qe v4)),(200004,.var [.clo (.func 108) [] [.loc 200001 0 0]])] (Gives (.i .i64 r) [(200000,.var [.clo (.func 109) [] [.loc 200001 0 0],.i .i64 v2,.clo (.func 110) [] [.loc 200002 0 0,.loc 200003 0 0,.loc 200004 0 0],.i .i64 v5,.clo (.func 112) [] [.loc 200002 0 0,.loc 200001 0 0],.i .i64 v6,.clo (.func 114) [] [.loc 200001 0 0],.i .i64 v7,.clo (.func 115) [] [.loc 200002 0 0,.loc 200001 0 0],.i .i64 v8]),(200001,.var (Qs v1)),(200002,.var (Qd v3)),(200003,.var (Qe v4)),(200004,.var [.clo (.func 108) [] [.loc 200001 0 0]])]):=by
 refine Qc.walk 18 Tryz.func57 rfl Tryz.ntmps57 rfl fun C hC=>?_
 unfold Qe1 at h
 refine Qa hC [.n 14] rfl tt_ ?_
 refine AK.loopN 6 (AK.rnd ?_)
 obtain⟨x11,hx11,h⟩:=Qb h
 refine Qa hC [.n 2,.v .no [] (.b true),.n 10,.o (.any (.loc 200000 0 0) none),.n 3,.sayO 4 (.var [.clo (.func 109) [] [.loc 200001 0 0],.i .i64 v2]),.n 6,.cm (.clo) [(200000,200001)] [(200001,200000)] [] [.d] [(200000,.var (Qs v1))] (.b x11),.n 3] rfl ⟨⟨⟨⟨tt_,rfl⟩,(fun σ h1 h2 _=>Stp.idxV rfl rfl (bleN hC.n rfl) (h1 _ _ rfl) (h1 _ _ rfl) (Qo.es rfl) (h2 _ _ rfl) (by decide))⟩,rfl⟩,(Qot _ hx11)⟩ ?_
 rcases bifE h with⟨hc12,h⟩|⟨hc12,h⟩
 ·refine Qa hC [.br true,.n 13,.keep [2] [200000,200001,200002,200003,200004]] rfl ⟨tt_,hc12⟩ ?_
  cases h
  exact AK.done (ex_ [_] (an_ (an_ rfl tt_) (gives ⟨rfl,rfl,rfl,rfl,rfl,tt_⟩)))
 ·refine Qa hC [.br false,.n 4,.v .no [] (.i .i64 1),.n 2] rfl ⟨⟨tt_,hc12⟩,rfl⟩ ?_
  refine AK.met (AK.rnd ?_)
  obtain⟨x13,hx13,h⟩:=Qb h
  refine Qa hC [.n 2,.v .no [] (.b true),.n 10,.o (.any (.loc 200000 0 2) none),.n 1,.kill 4,.n 2,.sayO 4 (.var [.clo (.func 110) [] [.loc 200002 0 0,.loc 200003 0 0,.loc 200004 0 0],.i .i64 v5]),.n 6,.cm (.clo) [(200000,200002),(200001,200003),(200002,200004),(200003,200001)] [(200002,200000),(200003,200001),(200004,200002),(200001,200003)] [] [.d,.d,.d] [(200000,.var (Qd v3)),(200001,.var (Qe v4)),(200002,.var [.clo (.func 108) [] [.loc 200003 0 0]]),(200003,.var (Qs v1))] (.b x13),.n 3] rfl ⟨⟨⟨⟨tt_,rfl⟩,(fun σ h1 h2 _=>Stp.idxV rfl rfl (bleN hC.n rfl) (h1 _ _ rfl) (h1 _ _ rfl) (Qo.es rfl) (h2 _ _ rfl) (by decide))⟩,rfl⟩,(Qov _ _ _ hx13)⟩ ?_
  rcases bifE h with⟨hc14,h⟩|⟨hc14,h⟩
  ·refine Qa hC [.br true,.n 13,.keep [2] [200000,200001,200002,200003,200004]] rfl ⟨tt_,hc14⟩ ?_
   cases h
   exact AK.done (ex_ [_] (an_ (an_ rfl tt_) (gives ⟨rfl,rfl,rfl,rfl,rfl,tt_⟩)))
  ·refine Qa hC [.br false,.n 4,.v .no [] (.i .i64 2),.n 2] rfl ⟨⟨tt_,hc14⟩,rfl⟩ ?_
   refine AK.met (AK.rnd ?_)
   obtain⟨x15,hx15,h⟩:=Qb h
   refine Qa hC [.n 2,.v .no [] (.b true),.n 10,.o (.any (.loc 200000 0 4) none),.n 1,.kill 4,.n 2,.sayO 4 (.var [.clo (.func 112) [] [.loc 200002 0 0,.loc 200001 0 0],.i .i64 v6]),.n 6,.cm (.clo) [(200000,200002),(200001,200001)] [(200002,200000),(200001,200001)] [] [.d,.d] [(200000,.var (Qd v3)),(200001,.var (Qs v1))] (.b x15),.n 3] rfl ⟨⟨⟨⟨tt_,rfl⟩,(fun σ h1 h2 _=>Stp.idxV rfl rfl (bleN hC.n rfl) (h1 _ _ rfl) (h1 _ _ rfl) (Qo.es rfl) (h2 _ _ rfl) (by decide))⟩,rfl⟩,(Qow _ _ hx15)⟩ ?_
   rcases bifE h with⟨hc16,h⟩|⟨hc16,h⟩
   ·refine Qa hC [.br true,.n 13,.keep [2] [200000,200001,200002,200003,200004]] rfl ⟨tt_,hc16⟩ ?_
    cases h
    exact AK.done (ex_ [_] (an_ (an_ rfl tt_) (gives ⟨rfl,rfl,rfl,rfl,rfl,tt_⟩)))
   ·refine Qa hC [.br false,.n 4,.v .no [] (.i .i64 3),.n 2] rfl ⟨⟨tt_,hc16⟩,rfl⟩ ?_
    refine AK.met (AK.rnd ?_)
    obtain⟨x17,hx17,h⟩:=Qb h
    refine Qa hC [.n 2,.v .no [] (.b true),.n 10,.o (.any (.loc 200000 0 6) none),.n 1,.kill 4,.n 2,.sayO 4 (.var [.clo (.func 114) [] [.loc 200001 0 0],.i .i64 v7]),.n 6,.cm (.clo) [(200000,200001)] [(200001,200000)] [] [.d] [(200000,.var (Qs v1))] (.b x17),.n 3] rfl ⟨⟨⟨⟨tt_,rfl⟩,(fun σ h1 h2 _=>Stp.idxV rfl rfl (bleN hC.n rfl) (h1 _ _ rfl) (h1 _ _ rfl) (Qo.es rfl) (h2 _ _ rfl) (by decide))⟩,rfl⟩,(Qox _ hx17)⟩ ?_
    rcases bifE h with⟨hc18,h⟩|⟨hc18,h⟩
    ·refine Qa hC [.br true,.n 13,.keep [2] [200000,200001,200002,200003,200004]] rfl ⟨tt_,hc18⟩ ?_
     cases h
     exact AK.done (ex_ [_] (an_ (an_ rfl tt_) (gives ⟨rfl,rfl,rfl,rfl,rfl,tt_⟩)))
    ·refine Qa hC [.br false,.n 4,.v .no [] (.i .i64 4),.n 2] rfl ⟨⟨tt_,hc18⟩,rfl⟩ ?_
     refine AK.met (AK.rnd ?_)
     obtain⟨x19,hx19,h⟩:=Qb h
     refine Qa hC [.n 2,.v .no [] (.b true),.n 10,.o (.any (.loc 200000 0 8) none),.n 1,.kill 4,.n 2,.sayO 4 (.var [.clo (.func 115) [] [.loc 200002 0 0,.loc 200001 0 0],.i .i64 v8]),.n 6,.cm (.clo) [(200000,200002),(200001,200001)] [(200002,200000),(200001,200001)] [] [.d,.d] [(200000,.var (Qd v3)),(200001,.var (Qs v1))] (.b x19),.n 3] rfl ⟨⟨⟨⟨tt_,rfl⟩,(fun σ h1 h2 _=>Stp.idxV rfl rfl (bleN hC.n rfl) (h1 _ _ rfl) (h1 _ _ rfl) (Qo.es rfl) (h2 _ _ rfl) (by decide))⟩,rfl⟩,(Qoy _ _ hx19)⟩ ?_
     rcases bifE h with⟨hc20,h⟩|⟨hc20,h⟩
     ·refine Qa hC [.br true,.n 13,.keep [2] [200000,200001,200002,200003,200004]] rfl ⟨tt_,hc20⟩ ?_
      cases h
      exact AK.done (ex_ [_] (an_ (an_ rfl tt_) (gives ⟨rfl,rfl,rfl,rfl,rfl,tt_⟩)))
     ·refine Qa hC [.br false,.n 4,.v .no [] (.i .i64 5),.n 2] rfl ⟨⟨tt_,hc20⟩,rfl⟩ ?_
      refine AK.met (AK.rnd ?_)
      refine Qa hC [.n 2,.v .no [] (.b false),.n 15,.keep [2] [200000,200001,200002,200003,200004]] rfl ⟨tt_,rfl⟩ ?_
      cases h
      exact AK.done (ex_ [_] (an_ (an_ rfl tt_) (gives ⟨rfl,rfl,rfl,rfl,rfl,tt_⟩)))
def Qhh (n1:TNet)(k2:Int):Option Int:=
 (Qac n1.Places k2).bind fun x5=>
 bif (!x5)then
 some 3
 else
 (idx n1.Places k2).bind fun e7=>
 (Qe1 e7 1 n1 k2 5 3 1 8).bind fun x8=>
 some x8
theorem QpR (n1:TNet)(k2:Int){r:Int}(h:Qhh n1 k2=some r):Qc Tryz.prog 65 [.agg (Qd n1),.i .i64 k2] [] (Gives (.i .i64 r) []):=by
 refine Qc.walk 30 Tryz.func65 rfl Tryz.ntmps65 rfl fun C hC=>?_
 unfold Qhh at h
 obtain⟨x5,hx5,h⟩:=Qb h
 refine Qa hC [.n 13,.o (.c false [.d,.d] (.b x5)),.n 3] rfl ⟨tt_,(Qbo _ _ hx5)⟩ ?_
 rcases bifE h with⟨hc6,h⟩|⟨hc6,h⟩
 ·refine Qa hC [.br true,.n 7,.keep [4] []] rfl ⟨tt_,hc6⟩ ?_
  cases h
  exact AK.done (ex_ [_] (an_ (an_ rfl tt_) (gives tt_)))
 ·obtain⟨e7,he7,h⟩:=Qb h
  obtain⟨x8,hx8,h⟩:=Qb h
  refine Qa hC [.br false,.n 7,.o (.row (Qs e7)),.v .no [] (.agg (Qs e7)),.n 2,.sayO 5 (.var (Qs e7)),.n 7,.sayO 6 (.var [.clo (.func 108) [] [.loc 5 0 0]]),.n 5,.v .no [] (.agg [.clo (.func 109) [] [.loc 5 0 0],.i .i64 1]),.n 1,.v .no [] (.agg [.clo (.func 110) [] [.loc 2 0 0,.loc 3 0 0,.loc 6 0 0],.i .i64 5]),.n 1,.v .no [] (.agg [.clo (.func 112) [] [.loc 2 0 0,.loc 5 0 0],.i .i64 3]),.n 1,.v .no [] (.agg [.clo (.func 114) [] [.loc 5 0 0],.i .i64 1]),.n 1,.v .no [] (.agg [.clo (.func 115) [] [.loc 2 0 0,.loc 5 0 0],.i .i64 8]),.o (.any (.own 28 5) (some (.var [.clo (.func 109) [] [.loc 5 0 0],.i .i64 1,.clo (.func 110) [] [.loc 2 0 0,.loc 3 0 0,.loc 6 0 0],.i .i64 5,.clo (.func 112) [] [.loc 2 0 0,.loc 5 0 0],.i .i64 3,.clo (.func 114) [] [.loc 5 0 0],.i .i64 1,.clo (.func 115) [] [.loc 2 0 0,.loc 5 0 0],.i .i64 8]))),.cm (.fn) [(200000,28),(200001,5),(200002,2),(200003,3),(200004,6)] [(28,200000),(5,200001),(2,200002),(3,200003),(6,200004)] [] [.d] [(200000,.var [.clo (.func 109) [] [.loc 200001 0 0],.i .i64 1,.clo (.func 110) [] [.loc 200002 0 0,.loc 200003 0 0,.loc 200004 0 0],.i .i64 5,.clo (.func 112) [] [.loc 200002 0 0,.loc 200001 0 0],.i .i64 3,.clo (.func 114) [] [.loc 200001 0 0],.i .i64 1,.clo (.func 115) [] [.loc 200002 0 0,.loc 200001 0 0],.i .i64 8]),(200001,.var (Qs e7)),(200002,.var (Qd n1)),(200003,.var (Qe k2)),(200004,.var [.clo (.func 108) [] [.loc 200001 0 0]])] (.i .i64 x8),.n 4,.keep [4] []] rfl ⟨⟨⟨⟨⟨⟨⟨⟨⟨⟨⟨⟨tt_,hc6⟩,(idxM he7)⟩,rfl⟩,rfl⟩,rfl⟩,rfl⟩,rfl⟩,rfl⟩,rfl⟩,rfl⟩,(fun σ h1 h2 hf=>Stp.buildAny rfl rfl (bleN hC.n rfl) (Qo.es rfl) QkP rfl (by decide) (by decide) (QeK h1 rfl) rfl rfl (hf rfl))⟩,(QnP _ _ _ _ _ _ _ _ hx8)⟩ ?_
  cases h
  exact AK.done (ex_ [_] (an_ (an_ rfl tt_) (gives tt_)))
def Qhi (k1:Int)(p2:QA)(v3:TNet):Option Int:=
 (Qhh v3 k1).bind fun x5=>
 some x5
theorem QpS (k1:Int)(p2:QA)(v3:TNet){r:Int}(h:Qhi k1 p2 v3=some r):Qc Tryz.prog 64 [.i .i64 k1,.agg (Qs p2),.loc 200000 0 0] [(200000,.var (Qd v3))] (Gives (.i .i64 r) [(200000,.var (Qd v3))]):=by
 refine Qc.walk 9 Tryz.func64 rfl Tryz.ntmps64 rfl fun C hC=>?_
 unfold Qhi at h
 obtain⟨x5,hx5,h⟩:=Qb h
 refine Qa hC [.n 8,.v .no [] (.agg (Qd v3)),.n 1,.o (.c false [.d,.d] (.i .i64 x5)),.n 4,.keep [5] [200000]] rfl ⟨⟨tt_,rfl⟩,(QpR _ _ hx5)⟩ ?_
 cases h
 exact AK.done (ex_ [_] (an_ (an_ rfl tt_) (gives ⟨rfl,tt_⟩)))
def QaT (l1:(List QA))(v2:TNet)(x7:Int):Option (Int⊕((Int×Int)⊕Unit)):=
 bif (decide (x7<(l1.length:Int)))then
 (idx l1 x7).bind fun e12=>
 (Qhi x7 e12 v2).bind fun x13=>
 bif (x13 != 0)then
 some (.inr (.inl (x7,x13)))
 else
 some (.inl (w64 (x7+1)))
 else
 some (.inr (.inr ()))
def QbC (x9:Int)(x10:Int):Option (Int×Int):=
 some (x9,x10)
def QbD : Option (Int×Int):=
 some (0,0)
def Qcm (l1:(List QA))(v2:TNet):Option (Int×Int):=
 (QE (fun st=>QaT l1 v2 st) 0).bind (Sum.elim (fun q=>QbC q.1 q.2) (fun q=>QbD))
theorem Qlr (l1:(List QA))(v2:TNet){r:(Int×Int)}(h:Qcm l1 v2=some r):Qc Tryz.prog 63 [.sl 3 (l1.map Qs),.clo (.func 64) [] [.loc 200000 0 0]] [(200000,.var (Qd v2))] (Gives (.tup [.i .i64 r.1,.i .i64 r.2]) [(200000,.var (Qd v2))]):=by
 refine Qc.walk 25 Tryz.func63 rfl Tryz.ntmps63 rfl fun C hC=>?_
 unfold Qcm at h
 refine Qa hC [.n 10,.o (.ln l1.length),.n 4,.keep [1,9,10,11] [200000]] rfl ⟨tt_,Qh⟩ ?_
 obtain⟨o15,hl15,h⟩:=Qb h
 refine AK.loop (body:=(fun st=>QaT l1 v2 st)) (fun st σ=>σ=⟨[(1,.clo (.func 64) [] [.loc 200000 0 0]),(9,.sl 3 (l1.map Qs)),(10,.i .i64 (l1.length:Int)),(11,.i .i64 st)],[(200000,.var (Qd v2))]⟩) (Sum.elim (fun q e σ=>e=.ret∧σ=⟨[(4,.i .i64 q.1),(5,.i .i64 q.2)],[(200000,.var (Qd v2))]⟩) (fun q e σ=>e=.exit 0∧σ=⟨[],[(200000,.var (Qd v2))]⟩)) hl15 rfl ?_ ?_
 ·rintro x7 o σ rfl h
  replace h:QaT l1 v2 x7=some o:=h
  unfold QaT at h
  refine Qa hC [.n 6] rfl tt_ ?_
  rcases bifE h with⟨hc11,h⟩|⟨hc11,h⟩
  ·obtain⟨e12,he12,h⟩:=Qb h
   obtain⟨x13,hx13,h⟩:=Qb h
   refine Qa hC [.br true,.n 7,.o (.row (Qs e12)),.v .no [] (.agg (Qs e12)),.n 3,.sayO 7 (.var (Qs e12)),.n 6,.v .no [] (.agg (Qs e12)),.cm (.clo) [(200000,200000)] [(200000,200000)] [] [.d,.d,.d] [(200000,.var (Qd v2))] (.i .i64 x13),.n 9] rfl ⟨⟨⟨⟨⟨⟨tt_,hc11⟩,(idxM he12)⟩,rfl⟩,rfl⟩,rfl⟩,(QpS _ _ _ hx13)⟩ ?_
   rcases bifE h with⟨hc14,h⟩|⟨hc14,h⟩
   ·refine Qa hC [.br true,.n 11,.keep [4,5] [200000]] rfl ⟨tt_,hc14⟩ ?_
    cases h
    exact rndR rfl (an_ rfl rfl)
   ·refine Qa hC [.br false,.n 7,.keep [1,9,10,11] [200000]] rfl ⟨tt_,hc14⟩ ?_
    cases h
    exact rndN rfl rfl
  ·refine Qa hC [.br false,.n 2,.keep [] [200000]] rfl ⟨tt_,hc11⟩ ?_
   cases h
   exact rndX rfl (an_ rfl rfl)
 ·rcases o15 with(⟨x9,x10⟩|_)
  ·replace h:QbC x9 x10=some r:=h
   unfold QbC at h
   rintro e σ ⟨rfl,rfl⟩
   refine Qa hC [.n 2,.keep [4,5] [200000]] rfl tt_ ?_
   cases h
   exact AK.done (ex_ [_,_] (an_ (an_ rfl (an_ rfl tt_)) (gives ⟨rfl,tt_⟩)))
  ·replace h:QbD=some r:=h
   unfold QbD at h
   rintro e σ ⟨rfl,rfl⟩
   refine Qa hC [.n 9,.keep [4,5] [200000]] rfl tt_ ?_
   cases h
   exact AK.done (ex_ [_,_] (an_ (an_ rfl (an_ rfl tt_)) (gives ⟨rfl,tt_⟩)))
def Qbt (l1:(List Qr))(k2:Int):Option Bool:=
 some ((decide (0≤k2))&&(decide (k2<(l1.length:Int))))
theorem QhM (l1:(List Qr))(k2:Int){r:Bool}(h:Qbt l1 k2=some r):Qc Tryz.prog 69 [.sl 14 (l1.map Qi),.i .i64 k2] [] (Gives (.b r) []):=by
 refine Qc.walk 13 Tryz.func69 rfl Tryz.ntmps69 rfl fun C hC=>?_
 unfold Qbt at h
 refine Qa hC [.n 6] rfl tt_ ?_
 refine AK.meetX (fun σ=>σ=⟨[(4,.b ((decide (0≤k2))&&(decide (k2<(l1.length:Int)))))],[]⟩) ?_ ?_
 ·refine Qa hC [.n 4] rfl tt_ ?_
  rcases QK (decide (0≤k2))with hc5 | hc5
  ·refine Qa hC [.say 7 (.b true),.n 2,.o (.ln l1.length),.n 4,.say 4 (.b ((decide (0≤k2))&&(decide (k2<(l1.length:Int))))),.keep [4] []] rfl ⟨⟨⟨tt_,(congrArg V.b hc5)⟩,Qh⟩,(congrArg V.b (andT hc5 rfl))⟩ ?_
   exact AK.met rfl
  ·refine Qa hC [.say 7 (.b false),.n 7,.say 4 (.b ((decide (0≤k2))&&(decide (k2<(l1.length:Int))))),.keep [4] []] rfl ⟨⟨tt_,(congrArg V.b hc5)⟩,(congrArg V.b (andF hc5 rfl))⟩ ?_
   exact AK.met rfl
 ·rintro σ rfl
  refine Qa hC [.n 2,.keep [4] []] rfl tt_ ?_
  cases h
  exact AK.done (ex_ [_] (an_ (an_ rfl tt_) (gives tt_)))
def Qhj (v1:Int)(v2:TNet)(v3:Qr):Option Unit:=
 some ()
theorem QpT (v1:Int)(v2:TNet)(v3:Qr){r:Unit}(h:Qhj v1 v2 v3=some r):Qc Tryz.prog 123 [.loc 200000 0 0,.clo (.func 124) [] [.loc 200001 0 0,.loc 200002 0 0]] [(200000,.var (Qe v1)),(200001,.var (Qd v2)),(200002,.var (Qi v3))] (Gives (.clo (.func 170) [] [.loc 3 0 0,.loc 2 0 0]) [(2,.var [.loc 200000 0 0]),(3,.var [.clo (.func 124) [] [.loc 200001 0 0,.loc 200002 0 0]]),(200000,.var (Qe v1)),(200001,.var (Qd v2)),(200002,.var (Qi v3))]):=by
 refine Qc.walk 6 Tryz.func123 rfl Tryz.ntmps123 rfl fun C hC=>?_
 unfold Qhj at h
 refine Qa hC [.n 14,.keep [4] [2,3,200000,200001,200002]] rfl tt_ ?_
 cases h
 exact AK.done (ex_ [_] (an_ (an_ rfl tt_) (gives ⟨rfl,rfl,rfl,rfl,rfl,tt_⟩)))
def Qe2 (v1:Int)(v2:TNet)(v3:Qr)(v4:Int):Option Unit:=
 some ()
theorem QnQ (v1:Int)(v2:TNet)(v3:Qr)(v4:Int){r:Unit}(h:Qe2 v1 v2 v3 v4=some r):Qc Tryz.prog 123 [.loc 200000 0 0,.clo (.func 129) [] [.loc 200001 0 0,.loc 200002 0 0,.loc 200003 0 0]] [(200000,.var (Qe v1)),(200001,.var (Qd v2)),(200002,.var (Qi v3)),(200003,.var (Qe v4))] (Gives (.clo (.func 170) [] [.loc 3 0 0,.loc 2 0 0]) [(2,.var [.loc 200000 0 0]),(3,.var [.clo (.func 129) [] [.loc 200001 0 0,.loc 200002 0 0,.loc 200003 0 0]]),(200000,.var (Qe v1)),(200001,.var (Qd v2)),(200002,.var (Qi v3)),(200003,.var (Qe v4))]):=by
 refine Qc.walk 6 Tryz.func123 rfl Tryz.ntmps123 rfl fun C hC=>?_
 unfold Qe2 at h
 refine Qa hC [.n 14,.keep [4] [2,3,200000,200001,200002,200003]] rfl tt_ ?_
 cases h
 exact AK.done (ex_ [_] (an_ (an_ rfl tt_) (gives ⟨rfl,rfl,rfl,rfl,rfl,rfl,tt_⟩)))
def Qe3 (v1:Int)(v2:TNet)(v3:Qr)(v4:Int):Option Unit:=
 some ()
theorem QnR (v1:Int)(v2:TNet)(v3:Qr)(v4:Int){r:Unit}(h:Qe3 v1 v2 v3 v4=some r):Qc Tryz.prog 123 [.loc 200000 0 0,.clo (.func 131) [] [.loc 200001 0 0,.loc 200002 0 0,.loc 200003 0 0]] [(200000,.var (Qe v1)),(200001,.var (Qd v2)),(200002,.var (Qi v3)),(200003,.var (Qe v4))] (Gives (.clo (.func 170) [] [.loc 3 0 0,.loc 2 0 0]) [(2,.var [.loc 200000 0 0]),(3,.var [.clo (.func 131) [] [.loc 200001 0 0,.loc 200002 0 0,.loc 200003 0 0]]),(200000,.var (Qe v1)),(200001,.var (Qd v2)),(200002,.var (Qi v3)),(200003,.var (Qe v4))]):=by
 refine Qc.walk 6 Tryz.func123 rfl Tryz.ntmps123 rfl fun C hC=>?_
 unfold Qe3 at h
 refine Qa hC [.n 14,.keep [4] [2,3,200000,200001,200002,200003]] rfl tt_ ?_
 cases h
 exact AK.done (ex_ [_] (an_ (an_ rfl tt_) (gives ⟨rfl,rfl,rfl,rfl,rfl,rfl,tt_⟩)))
def Qe4 (v1:Int)(v2:TNet)(v3:Qr):Option Unit:=
 some ()
theorem QnS (v1:Int)(v2:TNet)(v3:Qr){r:Unit}(h:Qe4 v1 v2 v3=some r):Qc Tryz.prog 123 [.loc 200000 0 0,.clo (.func 132) [] [.loc 200001 0 0,.loc 200002 0 0]] [(200000,.var (Qe v1)),(200001,.var (Qd v2)),(200002,.var (Qi v3))] (Gives (.clo (.func 170) [] [.loc 3 0 0,.loc 2 0 0]) [(2,.var [.loc 200000 0 0]),(3,.var [.clo (.func 132) [] [.loc 200001 0 0,.loc 200002 0 0]]),(200000,.var (Qe v1)),(200001,.var (Qd v2)),(200002,.var (Qi v3))]):=by
 refine Qc.walk 6 Tryz.func123 rfl Tryz.ntmps123 rfl fun C hC=>?_
 unfold Qe4 at h
 refine Qa hC [.n 14,.keep [4] [2,3,200000,200001,200002]] rfl tt_ ?_
 cases h
 exact AK.done (ex_ [_] (an_ (an_ rfl tt_) (gives ⟨rfl,rfl,rfl,rfl,rfl,tt_⟩)))
def Qgy (v1:Qr):Option Bool:=
 (QcX v1.Name).bind fun x3=>
 some x3
theorem Qpb (v1:Qr){r:Bool}(h:Qgy v1=some r):Qc Tryz.prog 119 [.loc 200000 0 0] [(200000,.var (Qi v1))] (Gives (.b r) [(200000,.var (Qi v1))]):=by
 refine Qc.walk 5 Tryz.func119 rfl Tryz.ntmps119 rfl fun C hC=>?_
 unfold Qgy at h
 obtain⟨x3,hx3,h⟩:=Qb h
 refine Qa hC [.n 9,.o (.c false [.d] (.b x3)),.n 4,.keep [1] [200000]] rfl ⟨tt_,(QfJ _ hx3)⟩ ?_
 cases h
 exact AK.done (ex_ [_] (an_ (an_ rfl tt_) (gives ⟨rfl,tt_⟩)))
def Qgz (p1:Qr)(v2:Qr):Option Bool:=
 some (QgS p1.Name v2.Name)
theorem Qpc (p1:Qr)(v2:Qr){r:Bool}(h:Qgz p1 v2=some r):Qc Tryz.prog 118 [.agg (Qi p1),.loc 200000 0 0] [(200000,.var (Qi v2))] (Gives (.b r) [(200000,.var (Qi v2))]):=by
 refine Qc.walk 9 Tryz.func118 rfl Tryz.ntmps118 rfl fun C hC=>?_
 unfold Qgz at h
 refine Qa hC [.n 17,.keep [3] [200000]] rfl tt_ ?_
 cases h
 exact AK.done (ex_ [_] (an_ (an_ rfl tt_) (gives ⟨rfl,tt_⟩)))
def QR (s1:(List Qr))(v2:Qr)(x5:Int):Option (Int⊕(Int⊕Unit)):=
 bif (decide (x5<(s1.length:Int)))then
 (idx s1 x5).bind fun e9=>
 (Qgz e9 v2).bind fun x10=>
 bif x10 then
 some (.inr (.inl x5))
 else
 some (.inl (w64 (x5+1)))
 else
 some (.inr (.inr ()))
def Q7 (x7:Int):Option Int:=
 some x7
def Q8 : Option Int:=
 some (-1)
def Qan (s1:(List Qr))(v2:Qr):Option Int:=
 (QE (fun st=>QR s1 v2 st) 0).bind (Sum.elim (fun q=>Q7 q) (fun q=>Q8))
theorem Qhk (s1:(List Qr))(v2:Qr){r:Int}(h:Qan s1 v2=some r):Qc Tryz.prog 169 [.sl 14 (s1.map Qi),.clo (.func 118) [] [.loc 200000 0 0]] [(200000,.var (Qi v2))] (Gives (.i .i64 r) [(200000,.var (Qi v2))]):=by
 refine Qc.walk 19 Tryz.func169 rfl Tryz.ntmps169 rfl fun C hC=>?_
 unfold Qan at h
 refine Qa hC [.n 9,.o (.ln s1.length),.n 4,.keep [0,1,7,8] [200000]] rfl ⟨tt_,Qh⟩ ?_
 obtain⟨o12,hl12,h⟩:=Qb h
 refine AK.loop (body:=(fun st=>QR s1 v2 st)) (fun st σ=>σ=⟨[(0,.sl 14 (s1.map Qi)),(1,.clo (.func 118) [] [.loc 200000 0 0]),(7,.i .i64 (s1.length:Int)),(8,.i .i64 st)],[(200000,.var (Qi v2))]⟩) (Sum.elim (fun q e σ=>e=.ret∧σ=⟨[(4,.i .i64 q)],[(200000,.var (Qi v2))]⟩) (fun q e σ=>e=.exit 0∧σ=⟨[],[(200000,.var (Qi v2))]⟩)) hl12 rfl ?_ ?_
 ·rintro x5 o σ rfl h
  replace h:QR s1 v2 x5=some o:=h
  unfold QR at h
  refine Qa hC [.n 6] rfl tt_ ?_
  rcases bifE h with⟨hc8,h⟩|⟨hc8,h⟩
  ·obtain⟨e9,he9,h⟩:=Qb h
   obtain⟨x10,hx10,h⟩:=Qb h
   refine Qa hC [.br true,.n 15,.o (.row (Qi e9)),.v .no [] (.agg (Qi e9)),.cm (.clo) [(200000,200000)] [(200000,200000)] [] [.d,.d] [(200000,.var (Qi v2))] (.b x10),.n 2] rfl ⟨⟨⟨⟨tt_,hc8⟩,(idxM he9)⟩,rfl⟩,(Qpc _ _ hx10)⟩ ?_
   rcases bifE h with⟨hc11,h⟩|⟨hc11,h⟩
   ·refine Qa hC [.br true,.n 9,.keep [4] [200000]] rfl ⟨tt_,hc11⟩ ?_
    cases h
    exact rndR rfl (an_ rfl rfl)
   ·refine Qa hC [.br false,.n 7,.keep [0,1,7,8] [200000]] rfl ⟨tt_,hc11⟩ ?_
    cases h
    exact rndN rfl rfl
  ·refine Qa hC [.br false,.n 2,.keep [] [200000]] rfl ⟨tt_,hc8⟩ ?_
   cases h
   exact rndX rfl (an_ rfl rfl)
 ·rcases o12 with(x7 | _)
  ·replace h:Q7 x7=some r:=h
   unfold Q7 at h
   rintro e σ ⟨rfl,rfl⟩
   refine Qa hC [.n 2,.keep [4] [200000]] rfl tt_ ?_
   cases h
   exact AK.done (ex_ [_] (an_ (an_ rfl tt_) (gives ⟨rfl,tt_⟩)))
  ·replace h:Q8=some r:=h
   unfold Q8 at h
   rintro e σ ⟨rfl,rfl⟩
   refine Qa hC [.n 8,.keep [4] [200000]] rfl tt_ ?_
   cases h
   exact AK.done (ex_ [_] (an_ (an_ rfl tt_) (gives ⟨rfl,tt_⟩)))
def Q9 (s1:(List Qr))(v2:Qr):Option Bool:=
 (Qan s1 v2).bind fun x4=>
 some (decide (0≤x4))
theorem QgA (s1:(List Qr))(v2:Qr){r:Bool}(h:Q9 s1 v2=some r):Qc Tryz.prog 121 [.sl 14 (s1.map Qi),.clo (.func 118) [] [.loc 200000 0 0]] [(200000,.var (Qi v2))] (Gives (.b r) [(200000,.var (Qi v2))]):=by
 refine Qc.walk 9 Tryz.func121 rfl Tryz.ntmps121 rfl fun C hC=>?_
 unfold Q9 at h
 obtain⟨x4,hx4,h⟩:=Qb h
 refine Qa hC [.n 9,.cm (.fn) [(200000,200000)] [(200000,200000)] [] [.d,.d] [(200000,.var (Qi v2))] (.i .i64 x4),.n 5,.keep [4] [200000]] rfl ⟨tt_,(Qhk _ _ hx4)⟩ ?_
 cases h
 exact AK.done (ex_ [_] (an_ (an_ rfl tt_) (gives ⟨rfl,tt_⟩)))
def QgB (v1:TNet)(v2:Int)(v3:Qr):Option Bool:=
 (chk (decide (0≤v2)&&decide (0≤v2.toNat)&&decide (v2.toNat≤v1.Tasks.length))).bind fun _=>
 (Q9 ((v1.Tasks.drop 0).take (v2.toNat-0)) v3).bind fun x6=>
 some (!x6)
theorem Qpd (v1:TNet)(v2:Int)(v3:Qr){r:Bool}(h:QgB v1 v2 v3=some r):Qc Tryz.prog 120 [.loc 200000 0 0,.loc 200001 0 0,.loc 200002 0 0] [(200000,.var (Qd v1)),(200001,.var (Qe v2)),(200002,.var [.clo (.func 118) [] [.loc 200003 0 0]]),(200003,.var (Qi v3))] (Gives (.b r) [(200000,.var (Qd v1)),(200001,.var (Qe v2)),(200002,.var [.clo (.func 118) [] [.loc 200003 0 0]]),(200003,.var (Qi v3))]):=by
 refine Qc.walk 11 Tryz.func120 rfl Tryz.ntmps120 rfl fun C hC=>?_
 unfold QgB at h
 obtain⟨_,hk5,h⟩:=Qb h
 replace hk5:=chkE hk5
 obtain⟨x6,hx6,h⟩:=Qb h
 refine Qa hC [.n 6,.keep [0,1,2,3] [200000,200001,200002,200003]] rfl tt_ ?_
 refine AK.draw2 Qo hC mixed [.a .no none false,.a .no none false,.a .no none false,.a (.any (.sl 14 (((v1.Tasks.drop 0).take (v2.toNat-0)).map Qi)) none) none false,.a .no none false,.a (.any (.b x6) none) none false,.a .no none false,.m .s] [] [] [3] [200000,200001,200002,200003] rfl rfl rfl ⟨⟨tt_,(fun σ h1 h2 _=>Stp.sliceD rfl rfl (bleN hC.n rfl) (h1 _ _ rfl) (Qo.es rfl) Bnd.no (Bnd.val (h1 _ _ rfl) (of_decide_eq_true (Qog hk5)) rfl) (of_decide_eq_true (Qoh hk5)) (Nat.le_trans (of_decide_eq_true (Qoi hk5)) (Nat.le_of_eq Qh.symm)) Qqn)⟩,(fun σ h1 h2 _=>Stp.callSame (md:=.cm (.fn) [(200000,200003)] [(200003,200000)] [] [.d,.d] [(200000,.var (Qi v3))] (.b x6) [200003]) Qo hC h1 h2 rfl ⟨⟨tt_,(QgA _ _ hx6)⟩,⟨rfl,tt_⟩⟩)⟩ rfl (by kernel_rfl) rfl rfl rfl ?_
 refine Qa hC [.n 2,.keep [3] [200000,200001,200002,200003]] rfl tt_ ?_
 cases h
 exact AK.done (ex_ [_] (an_ (an_ rfl tt_) (gives ⟨rfl,rfl,rfl,rfl,tt_⟩)))
def QeH (v1:Int)(v2:Qr):Option Bool:=
 some ((decide (v1≤16))&&(decide ((max2 (max2 (v2.Ins.length:Int) (v2.Outs.length:Int)) (v2.Cancel.length:Int))≤16)))
theorem Qpe (v1:Int)(v2:Qr){r:Bool}(h:QeH v1 v2=some r):Qc Tryz.prog 122 [.loc 200000 0 0,.loc 200001 0 0] [(200000,.var (Qe v1)),(200001,.var (Qi v2))] (Gives (.b r) [(200000,.var (Qe v1)),(200001,.var (Qi v2))]):=by
 refine Qc.walk 18 Tryz.func122 rfl Tryz.ntmps122 rfl fun C hC=>?_
 unfold QeH at h
 refine Qa hC [.n 6] rfl tt_ ?_
 refine AK.meetX (fun σ=>σ=⟨[(2,.b ((decide (v1≤16))&&(decide ((max2 (max2 (v2.Ins.length:Int) (v2.Outs.length:Int)) (v2.Cancel.length:Int))≤16))))],[(200000,.var (Qe v1)),(200001,.var (Qi v2))]⟩) ?_ ?_
 ·refine Qa hC [.n 4] rfl tt_ ?_
  rcases QK (decide (v1≤16))with hc5 | hc5
  ·refine Qa hC [.say 5 (.b true),.n 2,.o (.ln v2.Ins.length),.n 2,.o (.ln v2.Outs.length),.n 2,.o (.ln v2.Cancel.length),.o (.any (.i .i64 (max2 (max2 (v2.Ins.length:Int) (v2.Outs.length:Int)) (v2.Cancel.length:Int))) none),.n 4,.say 2 (.b ((decide (v1≤16))&&(decide ((max2 (max2 (v2.Ins.length:Int) (v2.Outs.length:Int)) (v2.Cancel.length:Int))≤16)))),.keep [2] [200000,200001]] rfl ⟨⟨⟨⟨⟨⟨tt_,(congrArg V.b hc5)⟩,Qh⟩,Qh⟩,Qh⟩,(fun σ h1 h2 _=>Stp.max3 rfl rfl (bleN hC.n rfl) (h1 _ _ rfl) (h1 _ _ rfl) (h1 _ _ rfl))⟩,(congrArg V.b (andT hc5 rfl))⟩ ?_
   exact AK.met rfl
  ·refine Qa hC [.say 5 (.b false),.n 14,.say 2 (.b ((decide (v1≤16))&&(decide ((max2 (max2 (v2.Ins.length:Int) (v2.Outs.length:Int)) (v2.Cancel.length:Int))≤16)))),.keep [2] [200000,200001]] rfl ⟨⟨tt_,(congrArg V.b hc5)⟩,(congrArg V.b (andF hc5 rfl))⟩ ?_
   exact AK.met rfl
 ·rintro σ rfl
  refine Qa hC [.n 2,.keep [2] [200000,200001]] rfl tt_ ?_
  cases h
  exact AK.done (ex_ [_] (an_ (an_ rfl tt_) (gives ⟨rfl,rfl,tt_⟩)))
def QcF (v1:TVar):Option Bool:=
 (QcX v1.Name).bind fun x3=>
 some x3
theorem QlT (v1:TVar){r:Bool}(h:QcF v1=some r):Qc Tryz.prog 174 [.loc 200000 0 0] [(200000,.var (QC v1))] (Gives (.b r) [(200000,.var (QC v1))]):=by
 refine Qc.walk 5 Tryz.func174 rfl Tryz.ntmps174 rfl fun C hC=>?_
 unfold QcF at h
 obtain⟨x3,hx3,h⟩:=Qb h
 refine Qa hC [.n 9,.o (.c false [.d] (.b x3)),.n 4,.keep [1] [200000]] rfl ⟨tt_,(QfJ _ hx3)⟩ ?_
 cases h
 exact AK.done (ex_ [_] (an_ (an_ rfl tt_) (gives ⟨rfl,tt_⟩)))
def QcG (p1:TVar)(v2:TVar):Option Bool:=
 some (QgS p1.Name v2.Name)
theorem QlU (p1:TVar)(v2:TVar){r:Bool}(h:QcG p1 v2=some r):Qc Tryz.prog 173 [.agg (QC p1),.loc 200000 0 0] [(200000,.var (QC v2))] (Gives (.b r) [(200000,.var (QC v2))]):=by
 refine Qc.walk 9 Tryz.func173 rfl Tryz.ntmps173 rfl fun C hC=>?_
 unfold QcG at h
 refine Qa hC [.n 17,.keep [3] [200000]] rfl tt_ ?_
 cases h
 exact AK.done (ex_ [_] (an_ (an_ rfl tt_) (gives ⟨rfl,tt_⟩)))
def QU (s1:(List TVar))(v2:TVar)(x5:Int):Option (Int⊕(Int⊕Unit)):=
 bif (decide (x5<(s1.length:Int)))then
 (idx s1 x5).bind fun e9=>
 (QcG e9 v2).bind fun x10=>
 bif x10 then
 some (.inr (.inl x5))
 else
 some (.inl (w64 (x5+1)))
 else
 some (.inr (.inr ()))
def Qaf (x7:Int):Option Int:=
 some x7
def Qag : Option Int:=
 some (-1)
def Qay (s1:(List TVar))(v2:TVar):Option Int:=
 (QE (fun st=>QU s1 v2 st) 0).bind (Sum.elim (fun q=>Qaf q) (fun q=>Qag))
theorem QhQ (s1:(List TVar))(v2:TVar){r:Int}(h:Qay s1 v2=some r):Qc Tryz.prog 207 [.sl 2 (s1.map QC),.clo (.func 173) [] [.loc 200000 0 0]] [(200000,.var (QC v2))] (Gives (.i .i64 r) [(200000,.var (QC v2))]):=by
 refine Qc.walk 19 Tryz.func207 rfl Tryz.ntmps207 rfl fun C hC=>?_
 unfold Qay at h
 refine Qa hC [.n 9,.o (.ln s1.length),.n 4,.keep [0,1,7,8] [200000]] rfl ⟨tt_,Qh⟩ ?_
 obtain⟨o12,hl12,h⟩:=Qb h
 refine AK.loop (body:=(fun st=>QU s1 v2 st)) (fun st σ=>σ=⟨[(0,.sl 2 (s1.map QC)),(1,.clo (.func 173) [] [.loc 200000 0 0]),(7,.i .i64 (s1.length:Int)),(8,.i .i64 st)],[(200000,.var (QC v2))]⟩) (Sum.elim (fun q e σ=>e=.ret∧σ=⟨[(4,.i .i64 q)],[(200000,.var (QC v2))]⟩) (fun q e σ=>e=.exit 0∧σ=⟨[],[(200000,.var (QC v2))]⟩)) hl12 rfl ?_ ?_
 ·rintro x5 o σ rfl h
  replace h:QU s1 v2 x5=some o:=h
  unfold QU at h
  refine Qa hC [.n 6] rfl tt_ ?_
  rcases bifE h with⟨hc8,h⟩|⟨hc8,h⟩
  ·obtain⟨e9,he9,h⟩:=Qb h
   obtain⟨x10,hx10,h⟩:=Qb h
   refine Qa hC [.br true,.n 15,.o (.row (QC e9)),.v .no [] (.agg (QC e9)),.cm (.clo) [(200000,200000)] [(200000,200000)] [] [.d,.d] [(200000,.var (QC v2))] (.b x10),.n 2] rfl ⟨⟨⟨⟨tt_,hc8⟩,(idxM he9)⟩,rfl⟩,(QlU _ _ hx10)⟩ ?_
   rcases bifE h with⟨hc11,h⟩|⟨hc11,h⟩
   ·refine Qa hC [.br true,.n 9,.keep [4] [200000]] rfl ⟨tt_,hc11⟩ ?_
    cases h
    exact rndR rfl (an_ rfl rfl)
   ·refine Qa hC [.br false,.n 7,.keep [0,1,7,8] [200000]] rfl ⟨tt_,hc11⟩ ?_
    cases h
    exact rndN rfl rfl
  ·refine Qa hC [.br false,.n 2,.keep [] [200000]] rfl ⟨tt_,hc8⟩ ?_
   cases h
   exact rndX rfl (an_ rfl rfl)
 ·rcases o12 with(x7 | _)
  ·replace h:Qaf x7=some r:=h
   unfold Qaf at h
   rintro e σ ⟨rfl,rfl⟩
   refine Qa hC [.n 2,.keep [4] [200000]] rfl tt_ ?_
   cases h
   exact AK.done (ex_ [_] (an_ (an_ rfl tt_) (gives ⟨rfl,tt_⟩)))
  ·replace h:Qag=some r:=h
   unfold Qag at h
   rintro e σ ⟨rfl,rfl⟩
   refine Qa hC [.n 8,.keep [4] [200000]] rfl tt_ ?_
   cases h
   exact AK.done (ex_ [_] (an_ (an_ rfl tt_) (gives ⟨rfl,tt_⟩)))
def Qah (s1:(List TVar))(v2:TVar):Option Bool:=
 (Qay s1 v2).bind fun x4=>
 some (decide (0≤x4))
theorem Qg3 (s1:(List TVar))(v2:TVar){r:Bool}(h:Qah s1 v2=some r):Qc Tryz.prog 176 [.sl 2 (s1.map QC),.clo (.func 173) [] [.loc 200000 0 0]] [(200000,.var (QC v2))] (Gives (.b r) [(200000,.var (QC v2))]):=by
 refine Qc.walk 9 Tryz.func176 rfl Tryz.ntmps176 rfl fun C hC=>?_
 unfold Qah at h
 obtain⟨x4,hx4,h⟩:=Qb h
 refine Qa hC [.n 9,.cm (.fn) [(200000,200000)] [(200000,200000)] [] [.d,.d] [(200000,.var (QC v2))] (.i .i64 x4),.n 5,.keep [4] [200000]] rfl ⟨tt_,(QhQ _ _ hx4)⟩ ?_
 cases h
 exact AK.done (ex_ [_] (an_ (an_ rfl tt_) (gives ⟨rfl,tt_⟩)))
def QcH (v1:(List TVar))(v2:Int)(v3:TVar):Option Bool:=
 (chk (decide (0≤v2)&&decide (0≤v2.toNat)&&decide (v2.toNat≤v1.length))).bind fun _=>
 (Qah ((v1.drop 0).take (v2.toNat-0)) v3).bind fun x6=>
 some (!x6)
theorem QlV (v1:(List TVar))(v2:Int)(v3:TVar){r:Bool}(h:QcH v1 v2 v3=some r):Qc Tryz.prog 175 [.loc 200000 0 0,.loc 200001 0 0,.loc 200002 0 0] [(200000,.var (Qbv v1)),(200001,.var (Qe v2)),(200002,.var [.clo (.func 173) [] [.loc 200003 0 0]]),(200003,.var (QC v3))] (Gives (.b r) [(200000,.var (Qbv v1)),(200001,.var (Qe v2)),(200002,.var [.clo (.func 173) [] [.loc 200003 0 0]]),(200003,.var (QC v3))]):=by
 refine Qc.walk 10 Tryz.func175 rfl Tryz.ntmps175 rfl fun C hC=>?_
 unfold QcH at h
 obtain⟨_,hk5,h⟩:=Qb h
 replace hk5:=chkE hk5
 obtain⟨x6,hx6,h⟩:=Qb h
 refine Qa hC [.n 6,.keep [0,1,2,3] [200000,200001,200002,200003]] rfl tt_ ?_
 refine AK.draw2 Qo hC mixed [.a .no none false,.a .no none false,.a (.any (.sl 2 (((v1.drop 0).take (v2.toNat-0)).map QC)) none) none false,.a .no none false,.a (.any (.b x6) none) none false,.a .no none false,.m .s] [] [] [3] [200000,200001,200002,200003] rfl rfl rfl ⟨⟨tt_,(fun σ h1 h2 _=>Stp.sliceD rfl rfl (bleN hC.n rfl) (h1 _ _ rfl) (Qo.es rfl) Bnd.no (Bnd.val (h1 _ _ rfl) (of_decide_eq_true (Qog hk5)) rfl) (of_decide_eq_true (Qoh hk5)) (Nat.le_trans (of_decide_eq_true (Qoi hk5)) (Nat.le_of_eq Qh.symm)) Qqn)⟩,(fun σ h1 h2 _=>Stp.callSame (md:=.cm (.fn) [(200000,200003)] [(200003,200000)] [] [.d,.d] [(200000,.var (QC v3))] (.b x6) [200003]) Qo hC h1 h2 rfl ⟨⟨tt_,(Qg3 _ _ hx6)⟩,⟨rfl,tt_⟩⟩)⟩ rfl (by kernel_rfl) rfl rfl rfl ?_
 refine Qa hC [.n 2,.keep [3] [200000,200001,200002,200003]] rfl tt_ ?_
 cases h
 exact AK.done (ex_ [_] (an_ (an_ rfl tt_) (gives ⟨rfl,rfl,rfl,rfl,tt_⟩)))
def QcI (v1:TNet)(v2:TVar):Option Bool:=
 (Qbb v1.Colours v2.Colour).bind fun x4=>
 some x4
theorem QlW (v1:TNet)(v2:TVar){r:Bool}(h:QcI v1 v2=some r):Qc Tryz.prog 177 [.loc 200000 0 0,.loc 200001 0 0] [(200000,.var (Qd v1)),(200001,.var (QC v2))] (Gives (.b r) [(200000,.var (Qd v1)),(200001,.var (QC v2))]):=by
 refine Qc.walk 8 Tryz.func177 rfl Tryz.ntmps177 rfl fun C hC=>?_
 unfold QcI at h
 obtain⟨x4,hx4,h⟩:=Qb h
 refine Qa hC [.n 11,.o (.c false [.d,.d] (.b x4)),.n 4,.keep [2] [200000,200001]] rfl ⟨tt_,(QgQ _ _ hx4)⟩ ?_
 cases h
 exact AK.done (ex_ [_] (an_ (an_ rfl tt_) (gives ⟨rfl,rfl,tt_⟩)))
def Qe5 (v1:TVar)(v2:Int)(v3:(List TVar))(v4:Int)(v5:Int)(v6:TNet)(v7:Int):Option Int:=
 (QcF v1).bind fun x10=>
 bif (!x10)then
 some v2
 else
 (QcH v3 v4 v1).bind fun x12=>
 bif (!x12)then
 some v5
 else
 (QcI v6 v1).bind fun x14=>
 bif (!x14)then
 some v7
 else
 some 0
theorem QnT (v1:TVar)(v2:Int)(v3:(List TVar))(v4:Int)(v5:Int)(v6:TNet)(v7:Int){r:Int}(h:Qe5 v1 v2 v3 v4 v5 v6 v7=some r):Qc Tryz.prog 57 [.own 200000 3] [(200000,.var [.clo (.func 174) [] [.loc 200001 0 0],.i .i64 v2,.clo (.func 175) [] [.loc 200002 0 0,.loc 200003 0 0,.loc 200004 0 0],.i .i64 v5,.clo (.func 177) [] [.loc 200005 0 0,.loc 200001 0 0],.i .i64 v7]),(200001,.var (QC v1)),(200002,.var (Qbv v3)),(200003,.var (Qe v4)),(200004,.var [.clo (.func 173) [] [.loc 200001 0 0]]),(200005,.var (Qd v6))] (Gives (.i .i64 r) [(200000,.var [.clo (.func 174) [] [.loc 200001 0 0],.i .i64 v2,.clo (.func 175) [] [.loc 200002 0 0,.loc 200003 0 0,.loc 200004 0 0],.i .i64 v5,.clo (.func 177) [] [.loc 200005 0 0,.loc 200001 0 0],.i .i64 v7]),(200001,.var (QC v1)),(200002,.var (Qbv v3)),(200003,.var (Qe v4)),(200004,.var [.clo (.func 173) [] [.loc 200001 0 0]]),(200005,.var (Qd v6))]):=by
 refine Qc.walk 18 Tryz.func57 rfl Tryz.ntmps57 rfl fun C hC=>?_
 unfold Qe5 at h
 refine Qa hC [.n 14] rfl tt_ ?_
 refine AK.loopN 4 (AK.rnd ?_)
 obtain⟨x10,hx10,h⟩:=Qb h
 refine Qa hC [.n 2,.v .no [] (.b true),.n 10,.o (.any (.loc 200000 0 0) none),.n 3,.sayO 4 (.var [.clo (.func 174) [] [.loc 200001 0 0],.i .i64 v2]),.n 6,.cm (.clo) [(200000,200001)] [(200001,200000)] [] [.d] [(200000,.var (QC v1))] (.b x10),.n 3] rfl ⟨⟨⟨⟨tt_,rfl⟩,(fun σ h1 h2 _=>Stp.idxV rfl rfl (bleN hC.n rfl) (h1 _ _ rfl) (h1 _ _ rfl) (Qo.es rfl) (h2 _ _ rfl) (by decide))⟩,rfl⟩,(QlT _ hx10)⟩ ?_
 rcases bifE h with⟨hc11,h⟩|⟨hc11,h⟩
 ·refine Qa hC [.br true,.n 13,.keep [2] [200000,200001,200002,200003,200004,200005]] rfl ⟨tt_,hc11⟩ ?_
  cases h
  exact AK.done (ex_ [_] (an_ (an_ rfl tt_) (gives ⟨rfl,rfl,rfl,rfl,rfl,rfl,tt_⟩)))
 ·refine Qa hC [.br false,.n 4,.v .no [] (.i .i64 1),.n 2] rfl ⟨⟨tt_,hc11⟩,rfl⟩ ?_
  refine AK.met (AK.rnd ?_)
  obtain⟨x12,hx12,h⟩:=Qb h
  refine Qa hC [.n 2,.v .no [] (.b true),.n 10,.o (.any (.loc 200000 0 2) none),.n 1,.kill 4,.n 2,.sayO 4 (.var [.clo (.func 175) [] [.loc 200002 0 0,.loc 200003 0 0,.loc 200004 0 0],.i .i64 v5]),.n 6,.cm (.clo) [(200000,200002),(200001,200003),(200002,200004),(200003,200001)] [(200002,200000),(200003,200001),(200004,200002),(200001,200003)] [] [.d,.d,.d] [(200000,.var (Qbv v3)),(200001,.var (Qe v4)),(200002,.var [.clo (.func 173) [] [.loc 200003 0 0]]),(200003,.var (QC v1))] (.b x12),.n 3] rfl ⟨⟨⟨⟨tt_,rfl⟩,(fun σ h1 h2 _=>Stp.idxV rfl rfl (bleN hC.n rfl) (h1 _ _ rfl) (h1 _ _ rfl) (Qo.es rfl) (h2 _ _ rfl) (by decide))⟩,rfl⟩,(QlV _ _ _ hx12)⟩ ?_
  rcases bifE h with⟨hc13,h⟩|⟨hc13,h⟩
  ·refine Qa hC [.br true,.n 13,.keep [2] [200000,200001,200002,200003,200004,200005]] rfl ⟨tt_,hc13⟩ ?_
   cases h
   exact AK.done (ex_ [_] (an_ (an_ rfl tt_) (gives ⟨rfl,rfl,rfl,rfl,rfl,rfl,tt_⟩)))
  ·refine Qa hC [.br false,.n 4,.v .no [] (.i .i64 2),.n 2] rfl ⟨⟨tt_,hc13⟩,rfl⟩ ?_
   refine AK.met (AK.rnd ?_)
   obtain⟨x14,hx14,h⟩:=Qb h
   refine Qa hC [.n 2,.v .no [] (.b true),.n 10,.o (.any (.loc 200000 0 4) none),.n 1,.kill 4,.n 2,.sayO 4 (.var [.clo (.func 177) [] [.loc 200005 0 0,.loc 200001 0 0],.i .i64 v7]),.n 6,.cm (.clo) [(200000,200005),(200001,200001)] [(200005,200000),(200001,200001)] [] [.d,.d] [(200000,.var (Qd v6)),(200001,.var (QC v1))] (.b x14),.n 3] rfl ⟨⟨⟨⟨tt_,rfl⟩,(fun σ h1 h2 _=>Stp.idxV rfl rfl (bleN hC.n rfl) (h1 _ _ rfl) (h1 _ _ rfl) (Qo.es rfl) (h2 _ _ rfl) (by decide))⟩,rfl⟩,(QlW _ _ hx14)⟩ ?_
   rcases bifE h with⟨hc15,h⟩|⟨hc15,h⟩
   ·refine Qa hC [.br true,.n 13,.keep [2] [200000,200001,200002,200003,200004,200005]] rfl ⟨tt_,hc15⟩ ?_
    cases h
    exact AK.done (ex_ [_] (an_ (an_ rfl tt_) (gives ⟨rfl,rfl,rfl,rfl,rfl,rfl,tt_⟩)))
   ·refine Qa hC [.br false,.n 4,.v .no [] (.i .i64 3),.n 2] rfl ⟨⟨tt_,hc15⟩,rfl⟩ ?_
    refine AK.met (AK.rnd ?_)
    refine Qa hC [.n 2,.v .no [] (.b false),.n 15,.keep [2] [200000,200001,200002,200003,200004,200005]] rfl ⟨tt_,rfl⟩ ?_
    cases h
    exact AK.done (ex_ [_] (an_ (an_ rfl tt_) (gives ⟨rfl,rfl,rfl,rfl,rfl,rfl,tt_⟩)))
def Qdf (k1:Int)(v2:TVar)(v3:(List TVar))(v4:TNet):Option Int:=
 (Qe5 v2 1 v3 k1 5 v4 3).bind fun x6=>
 some x6
theorem QmC (k1:Int)(v2:TVar)(v3:(List TVar))(v4:TNet){r:Int}(h:Qdf k1 v2 v3 v4=some r):Qc Tryz.prog 172 [.i .i64 k1,.agg (QC v2),.loc 200000 0 0,.loc 200001 0 0] [(200000,.var (Qbv v3)),(200001,.var (Qd v4))] (Gives (.i .i64 r) [(200000,.var (Qbv v3)),(200001,.var (Qd v4))]):=by
 refine Qc.walk 17 Tryz.func172 rfl Tryz.ntmps172 rfl fun C hC=>?_
 unfold Qdf at h
 obtain⟨x6,hx6,h⟩:=Qb h
 refine Qa hC [.n 12,.sayO 7 (.var [.clo (.func 173) [] [.loc 5 0 0]]),.n 5,.v .no [] (.agg [.clo (.func 174) [] [.loc 5 0 0],.i .i64 1]),.n 1,.v .no [] (.agg [.clo (.func 175) [] [.loc 200000 0 0,.loc 4 0 0,.loc 7 0 0],.i .i64 5]),.n 1,.v .no [] (.agg [.clo (.func 177) [] [.loc 200001 0 0,.loc 5 0 0],.i .i64 3]),.o (.any (.own 15 3) (some (.var [.clo (.func 174) [] [.loc 5 0 0],.i .i64 1,.clo (.func 175) [] [.loc 200000 0 0,.loc 4 0 0,.loc 7 0 0],.i .i64 5,.clo (.func 177) [] [.loc 200001 0 0,.loc 5 0 0],.i .i64 3]))),.cm (.fn) [(200000,15),(200001,5),(200002,200000),(200003,4),(200004,7),(200005,200001)] [(15,200000),(5,200001),(200000,200002),(4,200003),(7,200004),(200001,200005)] [] [.d] [(200000,.var [.clo (.func 174) [] [.loc 200001 0 0],.i .i64 1,.clo (.func 175) [] [.loc 200002 0 0,.loc 200003 0 0,.loc 200004 0 0],.i .i64 5,.clo (.func 177) [] [.loc 200005 0 0,.loc 200001 0 0],.i .i64 3]),(200001,.var (QC v2)),(200002,.var (Qbv v3)),(200003,.var (Qe k1)),(200004,.var [.clo (.func 173) [] [.loc 200001 0 0]]),(200005,.var (Qd v4))] (.i .i64 x6),.n 4,.keep [6] [200000,200001]] rfl ⟨⟨⟨⟨⟨⟨tt_,rfl⟩,rfl⟩,rfl⟩,rfl⟩,(fun σ h1 h2 hf=>Stp.buildAny rfl rfl (bleN hC.n rfl) (Qo.es rfl) QkP rfl (by decide) (by decide) (QeK h1 rfl) rfl rfl (hf rfl))⟩,(QnT _ _ _ _ _ _ _ hx6)⟩ ?_
 cases h
 exact AK.done (ex_ [_] (an_ (an_ rfl tt_) (gives ⟨rfl,rfl,tt_⟩)))
def Qbg (l1:(List TVar))(v2:(List TVar))(v3:TNet)(x8:Int):Option (Int⊕((Int×Int)⊕Unit)):=
 bif (decide (x8<(l1.length:Int)))then
 (idx l1 x8).bind fun e13=>
 (Qdf x8 e13 v2 v3).bind fun x14=>
 bif (x14 != 0)then
 some (.inr (.inl (x8,x14)))
 else
 some (.inl (w64 (x8+1)))
 else
 some (.inr (.inr ()))
def Qb1 (x10:Int)(x11:Int):Option (Int×Int):=
 some (x10,x11)
def Qb2 : Option (Int×Int):=
 some (0,0)
def QcY (l1:(List TVar))(v2:(List TVar))(v3:TNet):Option (Int×Int):=
 (QE (fun st=>Qbg l1 v2 v3 st) 0).bind (Sum.elim (fun q=>Qb1 q.1 q.2) (fun q=>Qb2))
theorem Ql8 (l1:(List TVar))(v2:(List TVar))(v3:TNet){r:(Int×Int)}(h:QcY l1 v2 v3=some r):Qc Tryz.prog 171 [.sl 2 (l1.map QC),.clo (.func 172) [] [.loc 200000 0 0,.loc 200001 0 0]] [(200000,.var (Qbv v2)),(200001,.var (Qd v3))] (Gives (.tup [.i .i64 r.1,.i .i64 r.2]) [(200000,.var (Qbv v2)),(200001,.var (Qd v3))]):=by
 refine Qc.walk 25 Tryz.func171 rfl Tryz.ntmps171 rfl fun C hC=>?_
 unfold QcY at h
 refine Qa hC [.n 10,.o (.ln l1.length),.n 4,.keep [1,9,10,11] [200000,200001]] rfl ⟨tt_,Qh⟩ ?_
 obtain⟨o16,hl16,h⟩:=Qb h
 refine AK.loop (body:=(fun st=>Qbg l1 v2 v3 st)) (fun st σ=>σ=⟨[(1,.clo (.func 172) [] [.loc 200000 0 0,.loc 200001 0 0]),(9,.sl 2 (l1.map QC)),(10,.i .i64 (l1.length:Int)),(11,.i .i64 st)],[(200000,.var (Qbv v2)),(200001,.var (Qd v3))]⟩) (Sum.elim (fun q e σ=>e=.ret∧σ=⟨[(4,.i .i64 q.1),(5,.i .i64 q.2)],[(200000,.var (Qbv v2)),(200001,.var (Qd v3))]⟩) (fun q e σ=>e=.exit 0∧σ=⟨[],[(200000,.var (Qbv v2)),(200001,.var (Qd v3))]⟩)) hl16 rfl ?_ ?_
 ·rintro x8 o σ rfl h
  replace h:Qbg l1 v2 v3 x8=some o:=h
  unfold Qbg at h
  refine Qa hC [.n 6] rfl tt_ ?_
  rcases bifE h with⟨hc12,h⟩|⟨hc12,h⟩
  ·obtain⟨e13,he13,h⟩:=Qb h
   obtain⟨x14,hx14,h⟩:=Qb h
   refine Qa hC [.br true,.n 7,.o (.row (QC e13)),.v .no [] (.agg (QC e13)),.n 3,.sayO 7 (.var (QC e13)),.n 6,.v .no [] (.agg (QC e13)),.cm (.clo) [(200000,200000),(200001,200001)] [(200000,200000),(200001,200001)] [] [.d,.d,.d,.d] [(200000,.var (Qbv v2)),(200001,.var (Qd v3))] (.i .i64 x14),.n 9] rfl ⟨⟨⟨⟨⟨⟨tt_,hc12⟩,(idxM he13)⟩,rfl⟩,rfl⟩,rfl⟩,(QmC _ _ _ _ hx14)⟩ ?_
   rcases bifE h with⟨hc15,h⟩|⟨hc15,h⟩
   ·refine Qa hC [.br true,.n 11,.keep [4,5] [200000,200001]] rfl ⟨tt_,hc15⟩ ?_
    cases h
    exact rndR rfl (an_ rfl rfl)
   ·refine Qa hC [.br false,.n 7,.keep [1,9,10,11] [200000,200001]] rfl ⟨tt_,hc15⟩ ?_
    cases h
    exact rndN rfl rfl
  ·refine Qa hC [.br false,.n 2,.keep [] [200000,200001]] rfl ⟨tt_,hc12⟩ ?_
   cases h
   exact rndX rfl (an_ rfl rfl)
 ·rcases o16 with(⟨x10,x11⟩|_)
  ·replace h:Qb1 x10 x11=some r:=h
   unfold Qb1 at h
   rintro e σ ⟨rfl,rfl⟩
   refine Qa hC [.n 2,.keep [4,5] [200000,200001]] rfl tt_ ?_
   cases h
   exact AK.done (ex_ [_,_] (an_ (an_ rfl (an_ rfl tt_)) (gives ⟨rfl,rfl,tt_⟩)))
  ·replace h:Qb2=some r:=h
   unfold Qb2 at h
   rintro e σ ⟨rfl,rfl⟩
   refine Qa hC [.n 9,.keep [4,5] [200000,200001]] rfl tt_ ?_
   cases h
   exact AK.done (ex_ [_,_] (an_ (an_ rfl (an_ rfl tt_)) (gives ⟨rfl,rfl,tt_⟩)))
def Qei (n1:TNet)(l2:(List TVar)):Option Int:=
 (QcY l2 l2 n1).bind fun x4=>
 some x4.2
theorem Qnv (n1:TNet)(l2:(List TVar)){r:Int}(h:Qei n1 l2=some r):Qc Tryz.prog 125 [.agg (Qd n1),.sl 2 (l2.map QC)] [] (Gives (.i .i64 r) []):=by
 refine Qc.walk 14 Tryz.func125 rfl Tryz.ntmps125 rfl fun C hC=>?_
 unfold Qei at h
 obtain⟨x4,hx4,h⟩:=Qb h
 refine Qa hC [.n 11,.cm (.fn) [(200000,3),(200001,2)] [(3,200000),(2,200001)] [] [.d,.d] [(200000,.var (Qbv l2)),(200001,.var (Qd n1))] (.tup [.i .i64 x4.1,.i .i64 x4.2]),.n 14,.keep [4] []] rfl ⟨tt_,(Ql8 _ _ _ hx4)⟩ ?_
 cases h
 exact AK.done (ex_ [_] (an_ (an_ rfl tt_) (gives tt_)))
def QgC (v1:TNet)(v2:Qr):Option Int:=
 (Qei v1 v2.Vars).bind fun x4=>
 some x4
theorem Qpf (v1:TNet)(v2:Qr){r:Int}(h:QgC v1 v2=some r):Qc Tryz.prog 124 [.loc 200000 0 0,.loc 200001 0 0] [(200000,.var (Qd v1)),(200001,.var (Qi v2))] (Gives (.i .i64 r) [(200000,.var (Qd v1)),(200001,.var (Qi v2))]):=by
 refine Qc.walk 7 Tryz.func124 rfl Tryz.ntmps124 rfl fun C hC=>?_
 unfold QgC at h
 obtain⟨x4,hx4,h⟩:=Qb h
 refine Qa hC [.n 7,.v .no [] (.agg (Qd v1)),.n 2,.o (.c false [.d,.d] (.i .i64 x4)),.n 4,.keep [2] [200000,200001]] rfl ⟨⟨tt_,rfl⟩,(Qnv _ _ hx4)⟩ ?_
 cases h
 exact AK.done (ex_ [_] (an_ (an_ rfl tt_) (gives ⟨rfl,rfl,tt_⟩)))
def QfQ (v1:TNet)(v2:Qr)(v3:Int):Option (Bool×Int):=
 (QgC v1 v2).bind fun x6=>
 some ((x6==0),x6)
theorem Qoz (v1:TNet)(v2:Qr)(v3:Int){r:(Bool×Int)}(h:QfQ v1 v2 v3=some r):Qc Tryz.prog 170 [.loc 200000 0 0,.loc 200003 0 0] [(200000,.var [.clo (.func 124) [] [.loc 200001 0 0,.loc 200002 0 0]]),(200001,.var (Qd v1)),(200002,.var (Qi v2)),(200003,.var [.loc 200004 0 0]),(200004,.var (Qe v3))] (Gives (.b r.1) [(200000,.var [.clo (.func 124) [] [.loc 200001 0 0,.loc 200002 0 0]]),(200001,.var (Qd v1)),(200002,.var (Qi v2)),(200003,.var [.loc 200004 0 0]),(200004,.var (Qe r.2))]):=by
 refine Qc.walk 11 Tryz.func170 rfl Tryz.ntmps170 rfl fun C hC=>?_
 unfold QfQ at h
 obtain⟨x6,hx6,h⟩:=Qb h
 refine Qa hC [.n 6,.keep [0,1] [200000,200001,200002,200003,200004]] rfl tt_ ?_
 refine AK.draw2 Qo hC mixed [.a .no none false,.a .no none false,.a (.any (.i .i64 x6) none) none false,.a .no none false,.m .s] [] [] [1] [200000,200001,200002,200003,200004] rfl rfl rfl ⟨tt_,(fun σ h1 h2 _=>Stp.callSame (md:=.cm (.clo) [(200000,200001),(200001,200002)] [(200001,200000),(200002,200001)] [] [.d,.d] [(200000,.var (Qd v1)),(200001,.var (Qi v2))] (.i .i64 x6) [200001,200002]) Qo hC h1 h2 rfl ⟨⟨tt_,(Qpf _ _ hx6)⟩,⟨rfl,rfl,tt_⟩⟩)⟩ rfl (by kernel_rfl) rfl rfl rfl ?_
 refine Qa hC [.sayO 200004 (.var (Qe x6)),.n 11,.keep [2] [200000,200001,200002,200003,200004]] rfl ⟨tt_,rfl⟩ ?_
 cases h
 exact AK.done (ex_ [_] (an_ (an_ rfl tt_) (gives ⟨rfl,rfl,rfl,rfl,rfl,tt_⟩)))
def Qdt (e7:Qr)(n1:TNet)(out8:Int)(x9:Int):Option ((Int×Int)⊕(Unit⊕Int)):=
 bif (decide (x9<(e7.Vars.length:Int)))then
 (idx e7.Vars x9).bind fun e14=>
 (Qa1 n1.Colours e14.Colour).bind fun x15=>
 bif (x15==0)then
 some (.inr (.inl ()))
 else
 some (.inl ((min2 (w64 (out8*x15)) 1025),(w64 (x9+1))))
 else
 some (.inr (.inr out8))
def Qe6 : Option Int:=
 some 0
def Qe7 (out12:Int):Option Int:=
 some out12
def Qfw (n1:TNet)(k2:Int):Option Int:=
 (Qbt n1.Tasks k2).bind fun x5=>
 bif (!x5)then
 some 0
 else
 (idx n1.Tasks k2).bind fun e7=>
 (QE (fun st=>Qdt e7 n1 st.1 st.2) (1,0)).bind (Sum.elim (fun q=>Qe6) (fun q=>Qe7 q))
theorem QlX (n1:TNet)(k2:Int){r:Int}(h:Qfw n1 k2=some r):Qc Tryz.prog 33 [.agg (Qd n1),.i .i64 k2] [] (Gives (.i .i64 r) []):=by
 refine Qc.walk 38 Tryz.func33 rfl Tryz.ntmps33 rfl fun C hC=>?_
 unfold Qfw at h
 obtain⟨x5,hx5,h⟩:=Qb h
 refine Qa hC [.n 12,.o (.c false [.d,.d] (.b x5)),.n 3] rfl ⟨tt_,(QhM _ _ hx5)⟩ ?_
 rcases bifE h with⟨hc6,h⟩|⟨hc6,h⟩
 ·refine Qa hC [.br true,.n 7,.keep [4] []] rfl ⟨tt_,hc6⟩ ?_
  cases h
  exact AK.done (ex_ [_] (an_ (an_ rfl tt_) (gives tt_)))
 ·obtain⟨e7,he7,h⟩:=Qb h
  refine Qa hC [.br false,.n 13,.o (.row (Qi e7)),.n 2,.o (.ln e7.Vars.length),.n 4,.keep [2,5,19,20,21] [2]] rfl ⟨⟨⟨tt_,hc6⟩,(idxM he7)⟩,Qh⟩ ?_
  obtain⟨o17,hl17,h⟩:=Qb h
  refine AK.loop (body:=(fun st=>Qdt e7 n1 st.1 st.2)) (fun st σ=>σ=⟨[(2,.loc 2 0 0),(5,.i .i64 st.1),(19,.sl 2 (e7.Vars.map QC)),(20,.i .i64 (e7.Vars.length:Int)),(21,.i .i64 st.2)],[(2,.var (Qd n1))]⟩) (Sum.elim (fun q e σ=>e=.ret∧σ=⟨[(4,.i .i64 0)],[]⟩) (fun q e σ=>e=.exit 0∧σ=⟨[(5,.i .i64 q)],[]⟩)) hl17 rfl ?_ ?_
  ·rintro ⟨out8,x9⟩ o σ rfl h
   replace h:Qdt e7 n1 out8 x9=some o:=h
   unfold Qdt at h
   refine Qa hC [.n 6] rfl tt_ ?_
   rcases bifE h with⟨hc13,h⟩|⟨hc13,h⟩
   ·obtain⟨e14,he14,h⟩:=Qb h
    obtain⟨x15,hx15,h⟩:=Qb h
    refine Qa hC [.br true,.n 6,.o (.row (QC e14)),.v .no [] (.agg (QC e14)),.n 2,.sayO 7 (.var (QC e14)),.n 8,.o (.c false [.d,.d] (.i .i64 x15)),.n 10] rfl ⟨⟨⟨⟨⟨tt_,hc13⟩,(idxM he14)⟩,rfl⟩,rfl⟩,(QgX _ _ hx15)⟩ ?_
    rcases bifE h with⟨hc16,h⟩|⟨hc16,h⟩
    ·refine Qa hC [.br true,.n 9,.keep [4] []] rfl ⟨tt_,hc16⟩ ?_
     cases h
     exact rndR rfl (an_ rfl rfl)
    ·refine Qa hC [.br false,.n 15,.keep [2,5,19,20,21] [2]] rfl ⟨tt_,hc16⟩ ?_
     cases h
     exact rndN rfl rfl
   ·refine Qa hC [.br false,.n 2,.keep [5] []] rfl ⟨tt_,hc13⟩ ?_
    cases h
    exact rndX rfl (an_ rfl rfl)
  ·rcases o17 with(_ | out12)
   ·replace h:Qe6=some r:=h
    unfold Qe6 at h
    rintro e σ ⟨rfl,rfl⟩
    refine Qa hC [.n 2,.keep [4] []] rfl tt_ ?_
    cases h
    exact AK.done (ex_ [_] (an_ (an_ rfl tt_) (gives tt_)))
   ·replace h:Qe7 out12=some r:=h
    unfold Qe7 at h
    rintro e σ ⟨rfl,rfl⟩
    refine Qa hC [.n 9,.keep [4] []] rfl tt_ ?_
    cases h
    exact AK.done (ex_ [_] (an_ (an_ rfl tt_) (gives tt_)))
def QgD (v1:TNet)(v2:Int):Option Bool:=
 (Qfw v1 v2).bind fun x4=>
 some (decide (x4≤1024))
theorem Qpg (v1:TNet)(v2:Int){r:Bool}(h:QgD v1 v2=some r):Qc Tryz.prog 126 [.loc 200000 0 0,.loc 200001 0 0] [(200000,.var (Qd v1)),(200001,.var (Qe v2))] (Gives (.b r) [(200000,.var (Qd v1)),(200001,.var (Qe v2))]):=by
 refine Qc.walk 7 Tryz.func126 rfl Tryz.ntmps126 rfl fun C hC=>?_
 unfold QgD at h
 obtain⟨x4,hx4,h⟩:=Qb h
 refine Qa hC [.n 7,.v .no [] (.agg (Qd v1)),.n 1,.o (.c false [.d,.d] (.i .i64 x4)),.n 5,.keep [2] [200000,200001]] rfl ⟨⟨tt_,rfl⟩,(QlX _ _ hx4)⟩ ?_
 cases h
 exact AK.done (ex_ [_] (an_ (an_ rfl tt_) (gives ⟨rfl,rfl,tt_⟩)))
def QiG (v1:Qr)(v2:Int):Option Bool:=
 (QeR v1.Guard v2).bind fun x6=>
 bif x6 then
 bif (decide (0<(v1.Ins.length:Int)))then
 some (decide (0<(v1.Outs.length:Int)))
 else
 some false
 else
 some false
def Qej (x4:Bool):Option Bool:=
 some x4
def QgE (v1:Qr)(v2:Int):Option Bool:=
 (QiG v1 v2).bind (fun x4=>Qej x4)
theorem Qph (v1:Qr)(v2:Int){r:Bool}(h:QgE v1 v2=some r):Qc Tryz.prog 127 [.loc 200000 0 0,.loc 200001 0 0] [(200000,.var (Qi v1)),(200001,.var (Qe v2))] (Gives (.b r) [(200000,.var (Qi v1)),(200001,.var (Qe v2))]):=by
 refine Qc.walk 19 Tryz.func127 rfl Tryz.ntmps127 rfl fun C hC=>?_
 unfold QgE at h
 refine Qa hC [.n 6] rfl tt_ ?_
 obtain⟨x4,hv5,h⟩:=Qb h
 replace h:Qej x4=some r:=h
 refine AK.meetX (fun σ=>σ=⟨[(2,.b x4)],[(200000,.var (Qi v1)),(200001,.var (Qe v2))]⟩) ?_ ?_
 ·replace h:=hv5
  unfold QiG at h
  obtain⟨x6,hx6,h⟩:=Qb h
  refine Qa hC [.n 2,.v .no [] (.agg (Ql v1.Guard)),.n 1,.o (.c false [.d,.d] (.b x6)),.n 1] rfl ⟨⟨tt_,rfl⟩,(QjI _ _ hx6)⟩ ?_
  rcases bifE h with⟨hc7,h⟩|⟨hc7,h⟩
  ·refine Qa hC [.say 7 (.b true),.n 2,.o (.ln v1.Ins.length),.n 3] rfl ⟨⟨tt_,(congrArg V.b hc7)⟩,Qh⟩ ?_
   rcases bifE h with⟨hc8,h⟩|⟨hc8,h⟩
   ·refine Qa hC [.say 13 (.b true),.n 2,.o (.ln v1.Outs.length),.n 4,.keep [2] [200000,200001]] rfl ⟨⟨tt_,(congrArg V.b hc8)⟩,Qh⟩ ?_
    cases h
    exact AK.met rfl
   ·refine Qa hC [.say 13 (.b false),.n 7,.keep [2] [200000,200001]] rfl ⟨tt_,(congrArg V.b hc8)⟩ ?_
    cases h
    exact AK.met rfl
  ·refine Qa hC [.say 7 (.b false),.n 13,.keep [2] [200000,200001]] rfl ⟨tt_,(congrArg V.b hc7)⟩ ?_
   cases h
   exact AK.met rfl
 ·rintro σ rfl
  replace h:Qej x4=some r:=h
  unfold Qej at h
  refine Qa hC [.n 2,.keep [2] [200000,200001]] rfl tt_ ?_
  cases h
  exact AK.done (ex_ [_] (an_ (an_ rfl tt_) (gives ⟨rfl,rfl,tt_⟩)))
def Qe8 (v1:TNet)(v2:TArc):Option Bool:=
 (Qac v1.Places v2.Place).bind fun x4=>
 some x4
theorem QnU (v1:TNet)(v2:TArc){r:Bool}(h:Qe8 v1 v2=some r):Qc Tryz.prog 183 [.loc 200000 0 0,.loc 200001 0 0] [(200000,.var (Qd v1)),(200001,.var (QN v2))] (Gives (.b r) [(200000,.var (Qd v1)),(200001,.var (QN v2))]):=by
 refine Qc.walk 8 Tryz.func183 rfl Tryz.ntmps183 rfl fun C hC=>?_
 unfold Qe8 at h
 obtain⟨x4,hx4,h⟩:=Qb h
 refine Qa hC [.n 11,.o (.c false [.d,.d] (.b x4)),.n 4,.keep [2] [200000,200001]] rfl ⟨tt_,(Qbo _ _ hx4)⟩ ?_
 cases h
 exact AK.done (ex_ [_] (an_ (an_ rfl tt_) (gives ⟨rfl,rfl,tt_⟩)))
def Qe9 (v1:TArc)(v2:Int):Option Bool:=
 (QeR v1.Expr v2).bind fun x4=>
 some x4
theorem QnV (v1:TArc)(v2:Int){r:Bool}(h:Qe9 v1 v2=some r):Qc Tryz.prog 184 [.loc 200000 0 0,.loc 200001 0 0] [(200000,.var (QN v1)),(200001,.var (Qe v2))] (Gives (.b r) [(200000,.var (QN v1)),(200001,.var (Qe v2))]):=by
 refine Qc.walk 7 Tryz.func184 rfl Tryz.ntmps184 rfl fun C hC=>?_
 unfold Qe9 at h
 obtain⟨x4,hx4,h⟩:=Qb h
 refine Qa hC [.n 8,.v .no [] (.agg (Ql v1.Expr)),.n 1,.o (.c false [.d,.d] (.b x4)),.n 4,.keep [2] [200000,200001]] rfl ⟨⟨tt_,rfl⟩,(QjI _ _ hx4)⟩ ?_
 cases h
 exact AK.done (ex_ [_] (an_ (an_ rfl tt_) (gives ⟨rfl,rfl,tt_⟩)))
def Qfa (v1:TNet)(v2:TArc)(v3:Int)(v4:Int)(v5:Int):Option Int:=
 (Qe8 v1 v2).bind fun x8=>
 bif (!x8)then
 some v3
 else
 (Qe9 v2 v4).bind fun x10=>
 bif (!x10)then
 some v5
 else
 some 0
theorem QnW (v1:TNet)(v2:TArc)(v3:Int)(v4:Int)(v5:Int){r:Int}(h:Qfa v1 v2 v3 v4 v5=some r):Qc Tryz.prog 57 [.own 200000 2] [(200000,.var [.clo (.func 183) [] [.loc 200001 0 0,.loc 200002 0 0],.i .i64 v3,.clo (.func 184) [] [.loc 200002 0 0,.loc 200003 0 0],.i .i64 v5]),(200001,.var (Qd v1)),(200002,.var (QN v2)),(200003,.var (Qe v4))] (Gives (.i .i64 r) [(200000,.var [.clo (.func 183) [] [.loc 200001 0 0,.loc 200002 0 0],.i .i64 v3,.clo (.func 184) [] [.loc 200002 0 0,.loc 200003 0 0],.i .i64 v5]),(200001,.var (Qd v1)),(200002,.var (QN v2)),(200003,.var (Qe v4))]):=by
 refine Qc.walk 18 Tryz.func57 rfl Tryz.ntmps57 rfl fun C hC=>?_
 unfold Qfa at h
 refine Qa hC [.n 14] rfl tt_ ?_
 refine AK.loopN 3 (AK.rnd ?_)
 obtain⟨x8,hx8,h⟩:=Qb h
 refine Qa hC [.n 2,.v .no [] (.b true),.n 10,.o (.any (.loc 200000 0 0) none),.n 3,.sayO 4 (.var [.clo (.func 183) [] [.loc 200001 0 0,.loc 200002 0 0],.i .i64 v3]),.n 6,.cm (.clo) [(200000,200001),(200001,200002)] [(200001,200000),(200002,200001)] [] [.d,.d] [(200000,.var (Qd v1)),(200001,.var (QN v2))] (.b x8),.n 3] rfl ⟨⟨⟨⟨tt_,rfl⟩,(fun σ h1 h2 _=>Stp.idxV rfl rfl (bleN hC.n rfl) (h1 _ _ rfl) (h1 _ _ rfl) (Qo.es rfl) (h2 _ _ rfl) (by decide))⟩,rfl⟩,(QnU _ _ hx8)⟩ ?_
 rcases bifE h with⟨hc9,h⟩|⟨hc9,h⟩
 ·refine Qa hC [.br true,.n 13,.keep [2] [200000,200001,200002,200003]] rfl ⟨tt_,hc9⟩ ?_
  cases h
  exact AK.done (ex_ [_] (an_ (an_ rfl tt_) (gives ⟨rfl,rfl,rfl,rfl,tt_⟩)))
 ·refine Qa hC [.br false,.n 4,.v .no [] (.i .i64 1),.n 2] rfl ⟨⟨tt_,hc9⟩,rfl⟩ ?_
  refine AK.met (AK.rnd ?_)
  obtain⟨x10,hx10,h⟩:=Qb h
  refine Qa hC [.n 2,.v .no [] (.b true),.n 10,.o (.any (.loc 200000 0 2) none),.n 1,.kill 4,.n 2,.sayO 4 (.var [.clo (.func 184) [] [.loc 200002 0 0,.loc 200003 0 0],.i .i64 v5]),.n 6,.cm (.clo) [(200000,200002),(200001,200003)] [(200002,200000),(200003,200001)] [] [.d,.d] [(200000,.var (QN v2)),(200001,.var (Qe v4))] (.b x10),.n 3] rfl ⟨⟨⟨⟨tt_,rfl⟩,(fun σ h1 h2 _=>Stp.idxV rfl rfl (bleN hC.n rfl) (h1 _ _ rfl) (h1 _ _ rfl) (Qo.es rfl) (h2 _ _ rfl) (by decide))⟩,rfl⟩,(QnV _ _ hx10)⟩ ?_
  rcases bifE h with⟨hc11,h⟩|⟨hc11,h⟩
  ·refine Qa hC [.br true,.n 13,.keep [2] [200000,200001,200002,200003]] rfl ⟨tt_,hc11⟩ ?_
   cases h
   exact AK.done (ex_ [_] (an_ (an_ rfl tt_) (gives ⟨rfl,rfl,rfl,rfl,tt_⟩)))
  ·refine Qa hC [.br false,.n 4,.v .no [] (.i .i64 2),.n 2] rfl ⟨⟨tt_,hc11⟩,rfl⟩ ?_
   refine AK.met (AK.rnd ?_)
   refine Qa hC [.n 2,.v .no [] (.b false),.n 15,.keep [2] [200000,200001,200002,200003]] rfl ⟨tt_,rfl⟩ ?_
   cases h
   exact AK.done (ex_ [_] (an_ (an_ rfl tt_) (gives ⟨rfl,rfl,rfl,rfl,tt_⟩)))
def QgF (p1:Int)(a2:TArc)(v3:TNet)(v4:Int):Option Int:=
 (Qfa v3 a2 3 v4 1).bind fun x6=>
 some x6
theorem Qpi (p1:Int)(a2:TArc)(v3:TNet)(v4:Int){r:Int}(h:QgF p1 a2 v3 v4=some r):Qc Tryz.prog 182 [.i .i64 p1,.agg (QN a2),.loc 200000 0 0,.loc 200001 0 0] [(200000,.var (Qd v3)),(200001,.var (Qe v4))] (Gives (.i .i64 r) [(200000,.var (Qd v3)),(200001,.var (Qe v4))]):=by
 refine Qc.walk 13 Tryz.func182 rfl Tryz.ntmps182 rfl fun C hC=>?_
 unfold QgF at h
 obtain⟨x6,hx6,h⟩:=Qb h
 refine Qa hC [.n 9,.v .no [] (.agg [.clo (.func 183) [] [.loc 200000 0 0,.loc 5 0 0],.i .i64 3]),.n 1,.v .no [] (.agg [.clo (.func 184) [] [.loc 5 0 0,.loc 200001 0 0],.i .i64 1]),.o (.any (.own 11 2) (some (.var [.clo (.func 183) [] [.loc 200000 0 0,.loc 5 0 0],.i .i64 3,.clo (.func 184) [] [.loc 5 0 0,.loc 200001 0 0],.i .i64 1]))),.cm (.fn) [(200000,11),(200001,200000),(200002,5),(200003,200001)] [(11,200000),(200000,200001),(5,200002),(200001,200003)] [] [.d] [(200000,.var [.clo (.func 183) [] [.loc 200001 0 0,.loc 200002 0 0],.i .i64 3,.clo (.func 184) [] [.loc 200002 0 0,.loc 200003 0 0],.i .i64 1]),(200001,.var (Qd v3)),(200002,.var (QN a2)),(200003,.var (Qe v4))] (.i .i64 x6),.n 4,.keep [6] [200000,200001]] rfl ⟨⟨⟨⟨tt_,rfl⟩,rfl⟩,(fun σ h1 h2 hf=>Stp.buildAny rfl rfl (bleN hC.n rfl) (Qo.es rfl) QkP rfl (by decide) (by decide) (QeK h1 rfl) rfl rfl (hf rfl))⟩,(QnW _ _ _ _ _ hx6)⟩ ?_
 cases h
 exact AK.done (ex_ [_] (an_ (an_ rfl tt_) (gives ⟨rfl,rfl,tt_⟩)))
def Qbh (l1:(List TArc))(v2:TNet)(v3:Int)(x8:Int):Option (Int⊕((Int×Int)⊕Unit)):=
 bif (decide (x8<(l1.length:Int)))then
 (idx l1 x8).bind fun e13=>
 (QgF x8 e13 v2 v3).bind fun x14=>
 bif (x14 != 0)then
 some (.inr (.inl (x8,x14)))
 else
 some (.inl (w64 (x8+1)))
 else
 some (.inr (.inr ()))
def Qb3 (x10:Int)(x11:Int):Option (Int×Int):=
 some (x10,x11)
def Qb4 : Option (Int×Int):=
 some (0,0)
def QcZ (l1:(List TArc))(v2:TNet)(v3:Int):Option (Int×Int):=
 (QE (fun st=>Qbh l1 v2 v3 st) 0).bind (Sum.elim (fun q=>Qb3 q.1 q.2) (fun q=>Qb4))
theorem Ql9 (l1:(List TArc))(v2:TNet)(v3:Int){r:(Int×Int)}(h:QcZ l1 v2 v3=some r):Qc Tryz.prog 181 [.sl 4 (l1.map QN),.clo (.func 182) [] [.loc 200000 0 0,.loc 200001 0 0]] [(200000,.var (Qd v2)),(200001,.var (Qe v3))] (Gives (.tup [.i .i64 r.1,.i .i64 r.2]) [(200000,.var (Qd v2)),(200001,.var (Qe v3))]):=by
 refine Qc.walk 25 Tryz.func181 rfl Tryz.ntmps181 rfl fun C hC=>?_
 unfold QcZ at h
 refine Qa hC [.n 10,.o (.ln l1.length),.n 4,.keep [1,9,10,11] [200000,200001]] rfl ⟨tt_,Qh⟩ ?_
 obtain⟨o16,hl16,h⟩:=Qb h
 refine AK.loop (body:=(fun st=>Qbh l1 v2 v3 st)) (fun st σ=>σ=⟨[(1,.clo (.func 182) [] [.loc 200000 0 0,.loc 200001 0 0]),(9,.sl 4 (l1.map QN)),(10,.i .i64 (l1.length:Int)),(11,.i .i64 st)],[(200000,.var (Qd v2)),(200001,.var (Qe v3))]⟩) (Sum.elim (fun q e σ=>e=.ret∧σ=⟨[(4,.i .i64 q.1),(5,.i .i64 q.2)],[(200000,.var (Qd v2)),(200001,.var (Qe v3))]⟩) (fun q e σ=>e=.exit 0∧σ=⟨[],[(200000,.var (Qd v2)),(200001,.var (Qe v3))]⟩)) hl16 rfl ?_ ?_
 ·rintro x8 o σ rfl h
  replace h:Qbh l1 v2 v3 x8=some o:=h
  unfold Qbh at h
  refine Qa hC [.n 6] rfl tt_ ?_
  rcases bifE h with⟨hc12,h⟩|⟨hc12,h⟩
  ·obtain⟨e13,he13,h⟩:=Qb h
   obtain⟨x14,hx14,h⟩:=Qb h
   refine Qa hC [.br true,.n 7,.o (.row (QN e13)),.v .no [] (.agg (QN e13)),.n 3,.sayO 7 (.var (QN e13)),.n 6,.v .no [] (.agg (QN e13)),.cm (.clo) [(200000,200000),(200001,200001)] [(200000,200000),(200001,200001)] [] [.d,.d,.d,.d] [(200000,.var (Qd v2)),(200001,.var (Qe v3))] (.i .i64 x14),.n 9] rfl ⟨⟨⟨⟨⟨⟨tt_,hc12⟩,(idxM he13)⟩,rfl⟩,rfl⟩,rfl⟩,(Qpi _ _ _ _ hx14)⟩ ?_
   rcases bifE h with⟨hc15,h⟩|⟨hc15,h⟩
   ·refine Qa hC [.br true,.n 11,.keep [4,5] [200000,200001]] rfl ⟨tt_,hc15⟩ ?_
    cases h
    exact rndR rfl (an_ rfl rfl)
   ·refine Qa hC [.br false,.n 7,.keep [1,9,10,11] [200000,200001]] rfl ⟨tt_,hc15⟩ ?_
    cases h
    exact rndN rfl rfl
  ·refine Qa hC [.br false,.n 2,.keep [] [200000,200001]] rfl ⟨tt_,hc12⟩ ?_
   cases h
   exact rndX rfl (an_ rfl rfl)
 ·rcases o16 with(⟨x10,x11⟩|_)
  ·replace h:Qb3 x10 x11=some r:=h
   unfold Qb3 at h
   rintro e σ ⟨rfl,rfl⟩
   refine Qa hC [.n 2,.keep [4,5] [200000,200001]] rfl tt_ ?_
   cases h
   exact AK.done (ex_ [_,_] (an_ (an_ rfl (an_ rfl tt_)) (gives ⟨rfl,rfl,tt_⟩)))
  ·replace h:Qb4=some r:=h
   unfold Qb4 at h
   rintro e σ ⟨rfl,rfl⟩
   refine Qa hC [.n 9,.keep [4,5] [200000,200001]] rfl tt_ ?_
   cases h
   exact AK.done (ex_ [_,_] (an_ (an_ rfl (an_ rfl tt_)) (gives ⟨rfl,rfl,tt_⟩)))
def QgG (n1:TNet)(l2:(List TArc))(vars3:Int):Option Int:=
 (QcZ l2 n1 vars3).bind fun x5=>
 some x5.2
theorem Qmo (n1:TNet)(l2:(List TArc))(vars3:Int){r:Int}(h:QgG n1 l2 vars3=some r):Qc Tryz.prog 130 [.agg (Qd n1),.sl 4 (l2.map QN),.i .i64 vars3] [] (Gives (.i .i64 r) []):=by
 refine Qc.walk 16 Tryz.func130 rfl Tryz.ntmps130 rfl fun C hC=>?_
 unfold QgG at h
 obtain⟨x5,hx5,h⟩:=Qb h
 refine Qa hC [.n 11,.cm (.fn) [(200000,3),(200001,5)] [(3,200000),(5,200001)] [] [.d,.d] [(200000,.var (Qd n1)),(200001,.var (Qe vars3))] (.tup [.i .i64 x5.1,.i .i64 x5.2]),.n 14,.keep [6] []] rfl ⟨tt_,(Ql9 _ _ _ hx5)⟩ ?_
 cases h
 exact AK.done (ex_ [_] (an_ (an_ rfl tt_) (gives tt_)))
def QgH (v1:TNet)(v2:Qr)(v3:Int):Option Int:=
 (QgG v1 v2.Ins v3).bind fun x5=>
 some x5
theorem Qpj (v1:TNet)(v2:Qr)(v3:Int){r:Int}(h:QgH v1 v2 v3=some r):Qc Tryz.prog 129 [.loc 200000 0 0,.loc 200001 0 0,.loc 200002 0 0] [(200000,.var (Qd v1)),(200001,.var (Qi v2)),(200002,.var (Qe v3))] (Gives (.i .i64 r) [(200000,.var (Qd v1)),(200001,.var (Qi v2)),(200002,.var (Qe v3))]):=by
 refine Qc.walk 9 Tryz.func129 rfl Tryz.ntmps129 rfl fun C hC=>?_
 unfold QgH at h
 obtain⟨x5,hx5,h⟩:=Qb h
 refine Qa hC [.n 7,.v .no [] (.agg (Qd v1)),.n 3,.o (.c false [.d,.d,.d] (.i .i64 x5)),.n 4,.keep [3] [200000,200001,200002]] rfl ⟨⟨tt_,rfl⟩,(Qmo _ _ _ hx5)⟩ ?_
 cases h
 exact AK.done (ex_ [_] (an_ (an_ rfl tt_) (gives ⟨rfl,rfl,rfl,tt_⟩)))
def QdH (v1:TNet)(v2:Qr)(v3:Int)(v4:Int):Option (Bool×Int):=
 (QgH v1 v2 v3).bind fun x7=>
 some ((x7==0),x7)
theorem QmQ (v1:TNet)(v2:Qr)(v3:Int)(v4:Int){r:(Bool×Int)}(h:QdH v1 v2 v3 v4=some r):Qc Tryz.prog 170 [.loc 200000 0 0,.loc 200004 0 0] [(200000,.var [.clo (.func 129) [] [.loc 200001 0 0,.loc 200002 0 0,.loc 200003 0 0]]),(200001,.var (Qd v1)),(200002,.var (Qi v2)),(200003,.var (Qe v3)),(200004,.var [.loc 200005 0 0]),(200005,.var (Qe v4))] (Gives (.b r.1) [(200000,.var [.clo (.func 129) [] [.loc 200001 0 0,.loc 200002 0 0,.loc 200003 0 0]]),(200001,.var (Qd v1)),(200002,.var (Qi v2)),(200003,.var (Qe v3)),(200004,.var [.loc 200005 0 0]),(200005,.var (Qe r.2))]):=by
 refine Qc.walk 11 Tryz.func170 rfl Tryz.ntmps170 rfl fun C hC=>?_
 unfold QdH at h
 obtain⟨x7,hx7,h⟩:=Qb h
 refine Qa hC [.n 6,.keep [0,1] [200000,200001,200002,200003,200004,200005]] rfl tt_ ?_
 refine AK.draw2 Qo hC mixed [.a .no none false,.a .no none false,.a (.any (.i .i64 x7) none) none false,.a .no none false,.m .s] [] [] [1] [200000,200001,200002,200003,200004,200005] rfl rfl rfl ⟨tt_,(fun σ h1 h2 _=>Stp.callSame (md:=.cm (.clo) [(200000,200001),(200001,200002),(200002,200003)] [(200001,200000),(200002,200001),(200003,200002)] [] [.d,.d,.d] [(200000,.var (Qd v1)),(200001,.var (Qi v2)),(200002,.var (Qe v3))] (.i .i64 x7) [200001,200002,200003]) Qo hC h1 h2 rfl ⟨⟨tt_,(Qpj _ _ _ hx7)⟩,⟨rfl,rfl,rfl,tt_⟩⟩)⟩ rfl (by kernel_rfl) rfl rfl rfl ?_
 refine Qa hC [.sayO 200005 (.var (Qe x7)),.n 11,.keep [2] [200000,200001,200002,200003,200004,200005]] rfl ⟨tt_,rfl⟩ ?_
 cases h
 exact AK.done (ex_ [_] (an_ (an_ rfl tt_) (gives ⟨rfl,rfl,rfl,rfl,rfl,rfl,tt_⟩)))
def QgI (v1:TNet)(v2:Qr)(v3:Int):Option Int:=
 (QgG v1 v2.Outs v3).bind fun x5=>
 some x5
theorem Qpk (v1:TNet)(v2:Qr)(v3:Int){r:Int}(h:QgI v1 v2 v3=some r):Qc Tryz.prog 131 [.loc 200000 0 0,.loc 200001 0 0,.loc 200002 0 0] [(200000,.var (Qd v1)),(200001,.var (Qi v2)),(200002,.var (Qe v3))] (Gives (.i .i64 r) [(200000,.var (Qd v1)),(200001,.var (Qi v2)),(200002,.var (Qe v3))]):=by
 refine Qc.walk 9 Tryz.func131 rfl Tryz.ntmps131 rfl fun C hC=>?_
 unfold QgI at h
 obtain⟨x5,hx5,h⟩:=Qb h
 refine Qa hC [.n 7,.v .no [] (.agg (Qd v1)),.n 3,.o (.c false [.d,.d,.d] (.i .i64 x5)),.n 4,.keep [3] [200000,200001,200002]] rfl ⟨⟨tt_,rfl⟩,(Qmo _ _ _ hx5)⟩ ?_
 cases h
 exact AK.done (ex_ [_] (an_ (an_ rfl tt_) (gives ⟨rfl,rfl,rfl,tt_⟩)))
def QdI (v1:TNet)(v2:Qr)(v3:Int)(v4:Int):Option (Bool×Int):=
 (QgI v1 v2 v3).bind fun x7=>
 some ((x7==0),x7)
theorem QmR (v1:TNet)(v2:Qr)(v3:Int)(v4:Int){r:(Bool×Int)}(h:QdI v1 v2 v3 v4=some r):Qc Tryz.prog 170 [.loc 200000 0 0,.loc 200004 0 0] [(200000,.var [.clo (.func 131) [] [.loc 200001 0 0,.loc 200002 0 0,.loc 200003 0 0]]),(200001,.var (Qd v1)),(200002,.var (Qi v2)),(200003,.var (Qe v3)),(200004,.var [.loc 200005 0 0]),(200005,.var (Qe v4))] (Gives (.b r.1) [(200000,.var [.clo (.func 131) [] [.loc 200001 0 0,.loc 200002 0 0,.loc 200003 0 0]]),(200001,.var (Qd v1)),(200002,.var (Qi v2)),(200003,.var (Qe v3)),(200004,.var [.loc 200005 0 0]),(200005,.var (Qe r.2))]):=by
 refine Qc.walk 11 Tryz.func170 rfl Tryz.ntmps170 rfl fun C hC=>?_
 unfold QdI at h
 obtain⟨x7,hx7,h⟩:=Qb h
 refine Qa hC [.n 6,.keep [0,1] [200000,200001,200002,200003,200004,200005]] rfl tt_ ?_
 refine AK.draw2 Qo hC mixed [.a .no none false,.a .no none false,.a (.any (.i .i64 x7) none) none false,.a .no none false,.m .s] [] [] [1] [200000,200001,200002,200003,200004,200005] rfl rfl rfl ⟨tt_,(fun σ h1 h2 _=>Stp.callSame (md:=.cm (.clo) [(200000,200001),(200001,200002),(200002,200003)] [(200001,200000),(200002,200001),(200003,200002)] [] [.d,.d,.d] [(200000,.var (Qd v1)),(200001,.var (Qi v2)),(200002,.var (Qe v3))] (.i .i64 x7) [200001,200002,200003]) Qo hC h1 h2 rfl ⟨⟨tt_,(Qpk _ _ _ hx7)⟩,⟨rfl,rfl,rfl,tt_⟩⟩)⟩ rfl (by kernel_rfl) rfl rfl rfl ?_
 refine Qa hC [.sayO 200005 (.var (Qe x7)),.n 11,.keep [2] [200000,200001,200002,200003,200004,200005]] rfl ⟨tt_,rfl⟩ ?_
 cases h
 exact AK.done (ex_ [_] (an_ (an_ rfl tt_) (gives ⟨rfl,rfl,rfl,rfl,rfl,rfl,tt_⟩)))
def Qdg (v1:TNet)(v2:Int):Option Bool:=
 (Qac v1.Places v2).bind fun x4=>
 some x4
theorem QmD (v1:TNet)(v2:Int){r:Bool}(h:Qdg v1 v2=some r):Qc Tryz.prog 187 [.loc 200000 0 0,.loc 200001 0 0] [(200000,.var (Qd v1)),(200001,.var (Qe v2))] (Gives (.b r) [(200000,.var (Qd v1)),(200001,.var (Qe v2))]):=by
 refine Qc.walk 7 Tryz.func187 rfl Tryz.ntmps187 rfl fun C hC=>?_
 unfold Qdg at h
 obtain⟨x4,hx4,h⟩:=Qb h
 refine Qa hC [.n 10,.o (.c false [.d,.d] (.b x4)),.n 4,.keep [2] [200000,200001]] rfl ⟨tt_,(Qbo _ _ hx4)⟩ ?_
 cases h
 exact AK.done (ex_ [_] (an_ (an_ rfl tt_) (gives ⟨rfl,rfl,tt_⟩)))
def Qdh (v1:(List Int))(v2:Int)(v3:Int):Option Bool:=
 (chk (decide (0≤v2)&&decide (0≤v2.toNat)&&decide (v2.toNat≤v1.length))).bind fun _=>
 (QaA ((v1.drop 0).take (v2.toNat-0)) v3).bind fun x6=>
 some (!x6)
theorem QmE (v1:(List Int))(v2:Int)(v3:Int){r:Bool}(h:Qdh v1 v2 v3=some r):Qc Tryz.prog 188 [.loc 200000 0 0,.loc 200001 0 0,.loc 200002 0 0] [(200000,.var (Qw v1)),(200001,.var (Qe v2)),(200002,.var (Qe v3))] (Gives (.b r) [(200000,.var (Qw v1)),(200001,.var (Qe v2)),(200002,.var (Qe v3))]):=by
 refine Qc.walk 10 Tryz.func188 rfl Tryz.ntmps188 rfl fun C hC=>?_
 unfold Qdh at h
 obtain⟨_,hk5,h⟩:=Qb h
 replace hk5:=chkE hk5
 obtain⟨x6,hx6,h⟩:=Qb h
 refine Qa hC [.n 6,.keep [0,1,2,3] [200000,200001,200002]] rfl tt_ ?_
 refine AK.draw2 Qo hC mixed [.a .no none false,.a .no none false,.a (.any (.sl 1 (((v1.drop 0).take (v2.toNat-0)).map Qe)) none) none false,.a .no none false,.a (.c false [.d,.d] (.b x6)) none false,.a .no none false,.m .s] [] [] [3] [200000,200001,200002] rfl rfl rfl ⟨⟨tt_,(fun σ h1 h2 _=>Stp.sliceD rfl rfl (bleN hC.n rfl) (h1 _ _ rfl) (Qo.es rfl) Bnd.no (Bnd.val (h1 _ _ rfl) (of_decide_eq_true (Qog hk5)) rfl) (of_decide_eq_true (Qoh hk5)) (Nat.le_trans (of_decide_eq_true (Qoi hk5)) (Nat.le_of_eq Qh.symm)) Qqn)⟩,(Qgt _ _ hx6)⟩ rfl (by kernel_rfl) rfl rfl rfl ?_
 refine Qa hC [.n 2,.keep [3] [200000,200001,200002]] rfl tt_ ?_
 cases h
 exact AK.done (ex_ [_] (an_ (an_ rfl tt_) (gives ⟨rfl,rfl,rfl,tt_⟩)))
def Qfb (v1:TNet)(v2:Int)(v3:Int)(v4:(List Int))(v5:Int)(v6:Int):Option Int:=
 (Qdg v1 v2).bind fun x9=>
 bif (!x9)then
 some v3
 else
 (Qdh v4 v5 v2).bind fun x11=>
 bif (!x11)then
 some v6
 else
 some 0
theorem QnX (v1:TNet)(v2:Int)(v3:Int)(v4:(List Int))(v5:Int)(v6:Int){r:Int}(h:Qfb v1 v2 v3 v4 v5 v6=some r):Qc Tryz.prog 57 [.own 200000 2] [(200000,.var [.clo (.func 187) [] [.loc 200001 0 0,.loc 200002 0 0],.i .i64 v3,.clo (.func 188) [] [.loc 200003 0 0,.loc 200004 0 0,.loc 200002 0 0],.i .i64 v6]),(200001,.var (Qd v1)),(200002,.var (Qe v2)),(200003,.var (Qw v4)),(200004,.var (Qe v5))] (Gives (.i .i64 r) [(200000,.var [.clo (.func 187) [] [.loc 200001 0 0,.loc 200002 0 0],.i .i64 v3,.clo (.func 188) [] [.loc 200003 0 0,.loc 200004 0 0,.loc 200002 0 0],.i .i64 v6]),(200001,.var (Qd v1)),(200002,.var (Qe v2)),(200003,.var (Qw v4)),(200004,.var (Qe v5))]):=by
 refine Qc.walk 18 Tryz.func57 rfl Tryz.ntmps57 rfl fun C hC=>?_
 unfold Qfb at h
 refine Qa hC [.n 14] rfl tt_ ?_
 refine AK.loopN 3 (AK.rnd ?_)
 obtain⟨x9,hx9,h⟩:=Qb h
 refine Qa hC [.n 2,.v .no [] (.b true),.n 10,.o (.any (.loc 200000 0 0) none),.n 3,.sayO 4 (.var [.clo (.func 187) [] [.loc 200001 0 0,.loc 200002 0 0],.i .i64 v3]),.n 6,.cm (.clo) [(200000,200001),(200001,200002)] [(200001,200000),(200002,200001)] [] [.d,.d] [(200000,.var (Qd v1)),(200001,.var (Qe v2))] (.b x9),.n 3] rfl ⟨⟨⟨⟨tt_,rfl⟩,(fun σ h1 h2 _=>Stp.idxV rfl rfl (bleN hC.n rfl) (h1 _ _ rfl) (h1 _ _ rfl) (Qo.es rfl) (h2 _ _ rfl) (by decide))⟩,rfl⟩,(QmD _ _ hx9)⟩ ?_
 rcases bifE h with⟨hc10,h⟩|⟨hc10,h⟩
 ·refine Qa hC [.br true,.n 13,.keep [2] [200000,200001,200002,200003,200004]] rfl ⟨tt_,hc10⟩ ?_
  cases h
  exact AK.done (ex_ [_] (an_ (an_ rfl tt_) (gives ⟨rfl,rfl,rfl,rfl,rfl,tt_⟩)))
 ·refine Qa hC [.br false,.n 4,.v .no [] (.i .i64 1),.n 2] rfl ⟨⟨tt_,hc10⟩,rfl⟩ ?_
  refine AK.met (AK.rnd ?_)
  obtain⟨x11,hx11,h⟩:=Qb h
  refine Qa hC [.n 2,.v .no [] (.b true),.n 10,.o (.any (.loc 200000 0 2) none),.n 1,.kill 4,.n 2,.sayO 4 (.var [.clo (.func 188) [] [.loc 200003 0 0,.loc 200004 0 0,.loc 200002 0 0],.i .i64 v6]),.n 6,.cm (.clo) [(200000,200003),(200001,200004),(200002,200002)] [(200003,200000),(200004,200001),(200002,200002)] [] [.d,.d,.d] [(200000,.var (Qw v4)),(200001,.var (Qe v5)),(200002,.var (Qe v2))] (.b x11),.n 3] rfl ⟨⟨⟨⟨tt_,rfl⟩,(fun σ h1 h2 _=>Stp.idxV rfl rfl (bleN hC.n rfl) (h1 _ _ rfl) (h1 _ _ rfl) (Qo.es rfl) (h2 _ _ rfl) (by decide))⟩,rfl⟩,(QmE _ _ _ hx11)⟩ ?_
  rcases bifE h with⟨hc12,h⟩|⟨hc12,h⟩
  ·refine Qa hC [.br true,.n 13,.keep [2] [200000,200001,200002,200003,200004]] rfl ⟨tt_,hc12⟩ ?_
   cases h
   exact AK.done (ex_ [_] (an_ (an_ rfl tt_) (gives ⟨rfl,rfl,rfl,rfl,rfl,tt_⟩)))
  ·refine Qa hC [.br false,.n 4,.v .no [] (.i .i64 2),.n 2] rfl ⟨⟨tt_,hc12⟩,rfl⟩ ?_
   refine AK.met (AK.rnd ?_)
   refine Qa hC [.n 2,.v .no [] (.b false),.n 15,.keep [2] [200000,200001,200002,200003,200004]] rfl ⟨tt_,rfl⟩ ?_
   cases h
   exact AK.done (ex_ [_] (an_ (an_ rfl tt_) (gives ⟨rfl,rfl,rfl,rfl,rfl,tt_⟩)))
def Qek (k1:Int)(place2:Int)(v3:TNet)(v4:(List Int)):Option Int:=
 (Qfb v3 place2 3 v4 k1 5).bind fun x6=>
 some x6
theorem Qnw (k1:Int)(place2:Int)(v3:TNet)(v4:(List Int)){r:Int}(h:Qek k1 place2 v3 v4=some r):Qc Tryz.prog 186 [.i .i64 k1,.i .i64 place2,.loc 200000 0 0,.loc 200001 0 0] [(200000,.var (Qd v3)),(200001,.var (Qw v4))] (Gives (.i .i64 r) [(200000,.var (Qd v3)),(200001,.var (Qw v4))]):=by
 refine Qc.walk 13 Tryz.func186 rfl Tryz.ntmps186 rfl fun C hC=>?_
 unfold Qek at h
 obtain⟨x6,hx6,h⟩:=Qb h
 refine Qa hC [.n 10,.v .no [] (.agg [.clo (.func 187) [] [.loc 200000 0 0,.loc 5 0 0],.i .i64 3]),.n 1,.v .no [] (.agg [.clo (.func 188) [] [.loc 200001 0 0,.loc 4 0 0,.loc 5 0 0],.i .i64 5]),.o (.any (.own 11 2) (some (.var [.clo (.func 187) [] [.loc 200000 0 0,.loc 5 0 0],.i .i64 3,.clo (.func 188) [] [.loc 200001 0 0,.loc 4 0 0,.loc 5 0 0],.i .i64 5]))),.cm (.fn) [(200000,11),(200001,200000),(200002,5),(200003,200001),(200004,4)] [(11,200000),(200000,200001),(5,200002),(200001,200003),(4,200004)] [] [.d] [(200000,.var [.clo (.func 187) [] [.loc 200001 0 0,.loc 200002 0 0],.i .i64 3,.clo (.func 188) [] [.loc 200003 0 0,.loc 200004 0 0,.loc 200002 0 0],.i .i64 5]),(200001,.var (Qd v3)),(200002,.var (Qe place2)),(200003,.var (Qw v4)),(200004,.var (Qe k1))] (.i .i64 x6),.n 4,.keep [6] [200000,200001]] rfl ⟨⟨⟨⟨tt_,rfl⟩,rfl⟩,(fun σ h1 h2 hf=>Stp.buildAny rfl rfl (bleN hC.n rfl) (Qo.es rfl) QkP rfl (by decide) (by decide) (QeK h1 rfl) rfl rfl (hf rfl))⟩,(QnX _ _ _ _ _ _ hx6)⟩ ?_
 cases h
 exact AK.done (ex_ [_] (an_ (an_ rfl tt_) (gives ⟨rfl,rfl,tt_⟩)))
def Qcd (l1:(List Int))(v2:TNet)(v3:(List Int))(x8:Int):Option (Int⊕((Int×Int)⊕Unit)):=
 bif (decide (x8<(l1.length:Int)))then
 (idx l1 x8).bind fun e13=>
 (Qek x8 e13 v2 v3).bind fun x14=>
 bif (x14 != 0)then
 some (.inr (.inl (x8,x14)))
 else
 some (.inl (w64 (x8+1)))
 else
 some (.inr (.inr ()))
def Qdi (x10:Int)(x11:Int):Option (Int×Int):=
 some (x10,x11)
def Qdj : Option (Int×Int):=
 some (0,0)
def Qfc (l1:(List Int))(v2:TNet)(v3:(List Int)):Option (Int×Int):=
 (QE (fun st=>Qcd l1 v2 v3 st) 0).bind (Sum.elim (fun q=>Qdi q.1 q.2) (fun q=>Qdj))
theorem QnY (l1:(List Int))(v2:TNet)(v3:(List Int)){r:(Int×Int)}(h:Qfc l1 v2 v3=some r):Qc Tryz.prog 185 [.sl 1 (l1.map Qe),.clo (.func 186) [] [.loc 200000 0 0,.loc 200001 0 0]] [(200000,.var (Qd v2)),(200001,.var (Qw v3))] (Gives (.tup [.i .i64 r.1,.i .i64 r.2]) [(200000,.var (Qd v2)),(200001,.var (Qw v3))]):=by
 refine Qc.walk 25 Tryz.func185 rfl Tryz.ntmps185 rfl fun C hC=>?_
 unfold Qfc at h
 refine Qa hC [.n 10,.o (.ln l1.length),.n 4,.keep [1,9,10,11] [200000,200001]] rfl ⟨tt_,Qh⟩ ?_
 obtain⟨o16,hl16,h⟩:=Qb h
 refine AK.loop (body:=(fun st=>Qcd l1 v2 v3 st)) (fun st σ=>σ=⟨[(1,.clo (.func 186) [] [.loc 200000 0 0,.loc 200001 0 0]),(9,.sl 1 (l1.map Qe)),(10,.i .i64 (l1.length:Int)),(11,.i .i64 st)],[(200000,.var (Qd v2)),(200001,.var (Qw v3))]⟩) (Sum.elim (fun q e σ=>e=.ret∧σ=⟨[(4,.i .i64 q.1),(5,.i .i64 q.2)],[(200000,.var (Qd v2)),(200001,.var (Qw v3))]⟩) (fun q e σ=>e=.exit 0∧σ=⟨[],[(200000,.var (Qd v2)),(200001,.var (Qw v3))]⟩)) hl16 rfl ?_ ?_
 ·rintro x8 o σ rfl h
  replace h:Qcd l1 v2 v3 x8=some o:=h
  unfold Qcd at h
  refine Qa hC [.n 6] rfl tt_ ?_
  rcases bifE h with⟨hc12,h⟩|⟨hc12,h⟩
  ·obtain⟨e13,he13,h⟩:=Qb h
   obtain⟨x14,hx14,h⟩:=Qb h
   refine Qa hC [.br true,.n 7,.o (.row (Qe e13)),.n 10,.cm (.clo) [(200000,200000),(200001,200001)] [(200000,200000),(200001,200001)] [] [.d,.d,.d,.d] [(200000,.var (Qd v2)),(200001,.var (Qw v3))] (.i .i64 x14),.n 9] rfl ⟨⟨⟨tt_,hc12⟩,(idxM he13)⟩,(Qnw _ _ _ _ hx14)⟩ ?_
   rcases bifE h with⟨hc15,h⟩|⟨hc15,h⟩
   ·refine Qa hC [.br true,.n 11,.keep [4,5] [200000,200001]] rfl ⟨tt_,hc15⟩ ?_
    cases h
    exact rndR rfl (an_ rfl rfl)
   ·refine Qa hC [.br false,.n 7,.keep [1,9,10,11] [200000,200001]] rfl ⟨tt_,hc15⟩ ?_
    cases h
    exact rndN rfl rfl
  ·refine Qa hC [.br false,.n 2,.keep [] [200000,200001]] rfl ⟨tt_,hc12⟩ ?_
   cases h
   exact rndX rfl (an_ rfl rfl)
 ·rcases o16 with(⟨x10,x11⟩|_)
  ·replace h:Qdi x10 x11=some r:=h
   unfold Qdi at h
   rintro e σ ⟨rfl,rfl⟩
   refine Qa hC [.n 2,.keep [4,5] [200000,200001]] rfl tt_ ?_
   cases h
   exact AK.done (ex_ [_,_] (an_ (an_ rfl (an_ rfl tt_)) (gives ⟨rfl,rfl,tt_⟩)))
  ·replace h:Qdj=some r:=h
   unfold Qdj at h
   rintro e σ ⟨rfl,rfl⟩
   refine Qa hC [.n 9,.keep [4,5] [200000,200001]] rfl tt_ ?_
   cases h
   exact AK.done (ex_ [_,_] (an_ (an_ rfl (an_ rfl tt_)) (gives ⟨rfl,rfl,tt_⟩)))
def QfR (n1:TNet)(l2:(List Int)):Option Int:=
 (Qfc l2 n1 l2).bind fun x4=>
 some x4.2
theorem QoA (n1:TNet)(l2:(List Int)){r:Int}(h:QfR n1 l2=some r):Qc Tryz.prog 133 [.agg (Qd n1),.sl 1 (l2.map Qe)] [] (Gives (.i .i64 r) []):=by
 refine Qc.walk 14 Tryz.func133 rfl Tryz.ntmps133 rfl fun C hC=>?_
 unfold QfR at h
 obtain⟨x4,hx4,h⟩:=Qb h
 refine Qa hC [.n 11,.cm (.fn) [(200000,2),(200001,3)] [(2,200000),(3,200001)] [] [.d,.d] [(200000,.var (Qd n1)),(200001,.var (Qw l2))] (.tup [.i .i64 x4.1,.i .i64 x4.2]),.n 14,.keep [4] []] rfl ⟨tt_,(QnY _ _ _ hx4)⟩ ?_
 cases h
 exact AK.done (ex_ [_] (an_ (an_ rfl tt_) (gives tt_)))
def QfS (v1:TNet)(v2:Qr):Option Int:=
 (QfR v1 v2.Cancel).bind fun x4=>
 some x4
theorem QoB (v1:TNet)(v2:Qr){r:Int}(h:QfS v1 v2=some r):Qc Tryz.prog 132 [.loc 200000 0 0,.loc 200001 0 0] [(200000,.var (Qd v1)),(200001,.var (Qi v2))] (Gives (.i .i64 r) [(200000,.var (Qd v1)),(200001,.var (Qi v2))]):=by
 refine Qc.walk 7 Tryz.func132 rfl Tryz.ntmps132 rfl fun C hC=>?_
 unfold QfS at h
 obtain⟨x4,hx4,h⟩:=Qb h
 refine Qa hC [.n 7,.v .no [] (.agg (Qd v1)),.n 2,.o (.c false [.d,.d] (.i .i64 x4)),.n 4,.keep [2] [200000,200001]] rfl ⟨⟨tt_,rfl⟩,(QoA _ _ hx4)⟩ ?_
 cases h
 exact AK.done (ex_ [_] (an_ (an_ rfl tt_) (gives ⟨rfl,rfl,tt_⟩)))

end Go.Proofs
