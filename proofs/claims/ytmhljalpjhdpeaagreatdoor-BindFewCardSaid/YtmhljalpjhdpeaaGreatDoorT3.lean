/- What functions of the program do, as functions over plain data, and the walks that show it: printed by a program. -/
import Derived.Test.YtmhljalpjhdpeaaGreatDoorT2
set_option linter.unusedVariables false
set_option linter.unusedSimpArgs false
set_option linter.unusedSectionVars false
set_option linter.deprecated false
set_option maxRecDepth 100000
set_option maxHeartbeats 4000000
noncomputable section
namespace Go.Proofs
open Go Go.RowKit Go.Vm
def Qjj (e9:(List (Int×Int)))(x11:Int):Option Bool:=
 (Qc3 e9).bind fun x14=>
 bif (!x14)then
 some true
 else
 bif (decide (0<(e9.length:Int)))then
 (idx e9 (w64 ((e9.length:Int)-1))).bind fun e17=>
 some (decide (x11≤e17.1))
 else
 some false
def Qfk (x6:Int)(x12:Bool):Option (Int⊕(Unit⊕Unit)):=
 bif x12 then
 some (.inr (.inl ()))
 else
 some (.inl (w64 (x6+1)))
def Qdx (m2:(List (List (Int×Int))))(n1:TNet)(x6:Int):Option (Int⊕(Unit⊕Unit)):=
 bif (decide (x6<(m2.length:Int)))then
 (idx m2 x6).bind fun e9=>
 (idx n1.Places x6).bind fun e10=>
 (QaK n1.Colours e10.Colour).bind fun x11=>
 (Qjj e9 x11).bind (fun x12=>Qfk x6 x12)
 else
 some (.inr (.inr ()))
def Qjk : Option Bool:=
 some false
def Qjl : Option Bool:=
 some true
def Qhs (n1:TNet)(m2:(List (List (Int×Int)))):Option Bool:=
 bif ((m2.length:Int) != (n1.Places.length:Int))then
 some false
 else
 (QF (fun st=>Qdx m2 n1 st) 0).bind (Sum.elim (fun q=>Qjk) (fun q=>Qjl))
theorem Qpt (n1:TNet)(m2:(List (List (Int×Int)))){r:Bool}(h:Qhs n1 m2=some r):Qc Tryz.prog 24 [.agg (Qd n1),.sl 1 (m2.map Qv)] [] (Qh (.b r) []):=by
 refine Qc.walk 50 Tryz.func24 rfl Tryz.ntmps24 rfl fun C hC=>?_
 unfold Qhs at h
 refine Qa hC [.n 10,.o (.ln m2.length),.n 2,.o (.ln n1.Places.length),.n 3] rfl ⟨⟨tt_,Qj⟩,Qj⟩ ?_
 rcases bifE h with⟨hc5,h⟩|⟨hc5,h⟩
 ·refine Qa hC [.br true,.n 7,.keep [4] []] rfl ⟨tt_,hc5⟩ ?_
  cases h
  exact AK.done (ex_ [_] (an_ (an_ rfl tt_) (gives tt_)))
 ·refine Qa hC [.br false,.n 6,.o (.ln m2.length),.n 4,.keep [2,14,15,16] [2]] rfl ⟨⟨tt_,hc5⟩,Qj⟩ ?_
  obtain⟨o19,hl19,h⟩:=Qb h
  refine AK.loop (body:=(fun st=>Qdx m2 n1 st)) (fun st σ=>σ=⟨[(2,.loc 2 0 0),(14,.sl 1 (m2.map Qv)),(15,.i .i64 (m2.length:Int)),(16,.i .i64 st)],[(2,.var (Qd n1))]⟩) (Sum.elim (fun q e σ=>e=.ret∧σ=⟨[(4,.b false)],[]⟩) (fun q e σ=>e=.exit 0∧σ=⟨[],[]⟩)) hl19 rfl ?_ ?_
  ·rintro x6 o σ rfl h
   replace h:Qdx m2 n1 x6=some o:=h
   unfold Qdx at h
   refine Qa hC [.n 6] rfl tt_ ?_
   rcases bifE h with⟨hc8,h⟩|⟨hc8,h⟩
   ·obtain⟨e9,he9,h⟩:=Qb h
    obtain⟨e10,he10,h⟩:=Qb h
    obtain⟨x11,hx11,h⟩:=Qb h
    refine Qa hC [.br true,.n 7,.o (.row (Qv e9)),.n 6,.keep [2,5,6,14,15,16] [2]] rfl ⟨⟨tt_,hc8⟩,(idxM he9)⟩ ?_
    refine AK.draw2 Qo hC mixed [.a .no none false,.a .no none false,.a .no none false,.a .no none false,.a .no none false,.a (.row (Qs e10)) none false,.a .no none false,.a .no none false,.a (.c false [.d,.d] (.i .i64 x11)) none false,.a .no none false] [] [] [2,6,7,14,15,16] [2] rfl rfl rfl ⟨⟨tt_,(idxM he10)⟩,(Qgm _ _ hx11)⟩ rfl (by kernel_rfl) rfl rfl rfl ?_
    refine Qa hC [.n 2] rfl tt_ ?_
    obtain⟨x12,hv13,h⟩:=Qb h
    replace h:Qfk x6 x12=some o:=h
    refine AK.meetX (fun σ=>σ=⟨[(2,.loc 2 0 0),(14,.sl 1 (m2.map Qv)),(15,.i .i64 (m2.length:Int)),(16,.i .i64 x6),(48,.b x12)],[(2,.var (Qd n1))]⟩) ?_ ?_
    ·replace h:=hv13
     unfold Qjj at h
     obtain⟨x14,hx14,h⟩:=Qb h
     refine Qa hC [.n 2,.o (.c false [.d] (.b x14)),.n 2] rfl ⟨tt_,(Qjy _ hx14)⟩ ?_
     rcases bifE h with⟨hc15,h⟩|⟨hc15,h⟩
     ·refine Qa hC [.say 33 (.b true),.n 16,.keep [2,14,15,16,48] [2]] rfl ⟨tt_,(congrArg V.b hc15)⟩ ?_
      cases h
      exact AK.met rfl
     ·refine Qa hC [.say 33 (.b false),.n 1,.o (.ln e9.length),.n 2] rfl ⟨⟨tt_,(congrArg V.b hc15)⟩,Qj⟩ ?_
      rcases bifE h with⟨hc16,h⟩|⟨hc16,h⟩
      ·obtain⟨e17,he17,h⟩:=Qb h
       refine Qa hC [.say 37 (.b true),.n 2,.o (.ln e9.length),.n 1,.o (.row (QC e17)),.n 7,.keep [2,14,15,16,48] [2]] rfl ⟨⟨⟨tt_,(congrArg V.b hc16)⟩,Qj⟩,(idxM he17)⟩ ?_
       cases h
       exact AK.met rfl
      ·refine Qa hC [.say 37 (.b false),.n 12,.keep [2,14,15,16,48] [2]] rfl ⟨tt_,(congrArg V.b hc16)⟩ ?_
       cases h
       exact AK.met rfl
    ·rintro σ rfl
     replace h:Qfk x6 x12=some o:=h
     unfold Qfk at h
     refine Qa hC [.n 1] rfl tt_ ?_
     rcases bifE h with⟨hc18,h⟩|⟨hc18,h⟩
     ·refine Qa hC [.br true,.n 8,.keep [4] []] rfl ⟨tt_,hc18⟩ ?_
      cases h
      exact rndR rfl (an_ rfl rfl)
     ·refine Qa hC [.br false,.n 7,.keep [2,14,15,16] [2]] rfl ⟨tt_,hc18⟩ ?_
      cases h
      exact rndN rfl rfl
   ·refine Qa hC [.br false,.n 2,.keep [] []] rfl ⟨tt_,hc8⟩ ?_
    cases h
    exact rndX rfl (an_ rfl rfl)
  ·rcases o19 with(_ | _)
   ·replace h:Qjk=some r:=h
    unfold Qjk at h
    rintro e σ ⟨rfl,rfl⟩
    refine Qa hC [.n 2,.keep [4] []] rfl tt_ ?_
    cases h
    exact AK.done (ex_ [_] (an_ (an_ rfl tt_) (gives tt_)))
   ·replace h:Qjl=some r:=h
    unfold Qjl at h
    rintro e σ ⟨rfl,rfl⟩
    refine Qa hC [.n 8,.keep [4] []] rfl tt_ ?_
    cases h
    exact AK.done (ex_ [_] (an_ (an_ rfl tt_) (gives tt_)))
def Qjm (x11:(Int×Qdn))(n1:TNet)(m2:(List (List (Int×Int)))):Option Bool:=
 bif (x11.1 != 0)then
 some true
 else
 (Qhs n1 m2).bind fun x15=>
 some (!x15)
def Qdy (n1:TNet)(work17:Int)(k18:Int):Option ((Int×Int)⊕Int):=
 bif (decide (k18<(n1.Tasks.length:Int)))then
 (idx n1.Tasks k18).bind fun e23=>
 (QeY n1 k18).bind fun x24=>
 some (.inl ((w64 (work17+(w64 (x24*(w64 (1+(w64 ((e23.Ins.length:Int)*(e23.Outs.length:Int))))))))),(w64 (k18+1))))
 else
 some (.inr work17)
def Qjn (work21:Int):Option Bool:=
 some (decide (work21≤600))
def Qfl (n1:TNet)(x12:Bool):Option Bool:=
 bif x12 then
 some false
 else
 (QF (fun st=>Qdy n1 st.1 st.2) (0,0)).bind (fun q=>Qjn q)
def Qht (n1:TNet)(m2:(List (List (Int×Int)))):Option Bool:=
 (Qic n1).bind fun x5=>
 (Qid m2).bind fun x6=>
 bif ((!x5)||((!x6)||(decide (12<(n1.Tasks.length:Int)))))then
 some false
 else
 (QfA n1).bind fun x11=>
 (Qjm x11 n1 m2).bind (fun x12=>Qfl n1 x12)
theorem Qpu (n1:TNet)(m2:(List (List (Int×Int)))){r:Bool}(h:Qht n1 m2=some r):Qc Tryz.prog 8 [.agg (Qd n1),.sl 1 (m2.map Qv)] [] (Qh (.b r) []):=by
 refine Qc.walk 69 Tryz.func8 rfl Tryz.ntmps8 rfl fun C hC=>?_
 unfold Qht at h
 obtain⟨x5,hx5,h⟩:=Qb h
 obtain⟨x6,hx6,h⟩:=Qb h
 refine Qa hC [.n 8,.v .no [] (.agg (Qd n1)),.o (.c false [.d] (.b x5)),.n 6,.o (.c false [.d] (.b x6)),.n 5] rfl ⟨⟨⟨tt_,rfl⟩,(QpZ _ hx5)⟩,(Qp0 _ hx6)⟩ ?_
 refine AK.meetX (fun σ=>σ=⟨[(1,.sl 1 (m2.map Qv)),(2,.loc 2 0 0),(27,.b ((!x5)||((!x6)||(decide (12<(n1.Tasks.length:Int))))))],[(2,.var (Qd n1))]⟩) ?_ ?_
 ·refine Qa hC [.n 4] rfl tt_ ?_
  rcases QI (!x5)with hc8 | hc8
  ·refine Qa hC [.say 18 (.b true),.n 10,.say 27 (.b ((!x5)||((!x6)||(decide (12<(n1.Tasks.length:Int)))))),.keep [1,2,27] [2]] rfl ⟨⟨tt_,(congrArg V.b hc8)⟩,(congrArg V.b (orT hc8 rfl))⟩ ?_
   exact AK.met rfl
  ·refine Qa hC [.say 18 (.b false),.n 4] rfl ⟨tt_,(congrArg V.b hc8)⟩ ?_
   rcases QI (!x6)with hc9 | hc9
   ·refine Qa hC [.say 22 (.b true),.n 6,.say 27 (.b ((!x5)||((!x6)||(decide (12<(n1.Tasks.length:Int)))))),.keep [1,2,27] [2]] rfl ⟨⟨tt_,(congrArg V.b hc9)⟩,(congrArg V.b (orF hc8 (orT hc9 rfl)))⟩ ?_
    exact AK.met rfl
   ·refine Qa hC [.say 22 (.b false),.n 2,.o (.ln n1.Tasks.length),.n 3,.say 27 (.b ((!x5)||((!x6)||(decide (12<(n1.Tasks.length:Int)))))),.keep [1,2,27] [2]] rfl ⟨⟨⟨tt_,(congrArg V.b hc9)⟩,Qj⟩,(congrArg V.b (orF hc8 (orF hc9 rfl)))⟩ ?_
    exact AK.met rfl
 ·rintro σ rfl
  refine Qa hC [.n 1] rfl tt_ ?_
  rcases bifE h with⟨hc10,h⟩|⟨hc10,h⟩
  ·refine Qa hC [.br true,.n 7,.keep [4] []] rfl ⟨tt_,hc10⟩ ?_
   cases h
   exact AK.done (ex_ [_] (an_ (an_ rfl tt_) (gives tt_)))
  ·obtain⟨x11,hx11,h⟩:=Qb h
   refine Qa hC [.br false,.n 4,.v .no [] (.agg (Qd n1)),.o (.c false [.d] (.tup [.agg (Qca x11.2),.i .i64 x11.1])),.n 5,.sayO 7 (.var (Qca x11.2)),.n 5] rfl ⟨⟨⟨⟨tt_,hc10⟩,rfl⟩,(Qp1 _ hx11)⟩,rfl⟩ ?_
   obtain⟨x12,hv13,h⟩:=Qb h
   replace h:Qfl n1 x12=some r:=h
   refine AK.meetX (fun σ=>σ=⟨[(2,.loc 2 0 0),(40,.b x12)],[(2,.var (Qd n1))]⟩) ?_ ?_
   ·replace h:=hv13
    unfold Qjm at h
    refine Qa hC [.n 4] rfl tt_ ?_
    rcases bifE h with⟨hc14,h⟩|⟨hc14,h⟩
    ·refine Qa hC [.say 35 (.b true),.n 6,.keep [2,40] [2]] rfl ⟨tt_,(congrArg V.b hc14)⟩ ?_
     cases h
     exact AK.met rfl
    ·obtain⟨x15,hx15,h⟩:=Qb h
     refine Qa hC [.say 35 (.b false),.v .no [] (.agg (Qd n1)),.n 1,.o (.c false [.d,.d] (.b x15)),.n 3,.keep [2,40] [2]] rfl ⟨⟨⟨tt_,(congrArg V.b hc14)⟩,rfl⟩,(Qpt _ _ hx15)⟩ ?_
     cases h
     exact AK.met rfl
   ·rintro σ rfl
    replace h:Qfl n1 x12=some r:=h
    unfold Qfl at h
    refine Qa hC [.n 1] rfl tt_ ?_
    rcases bifE h with⟨hc16,h⟩|⟨hc16,h⟩
    ·refine Qa hC [.br true,.n 7,.keep [4] []] rfl ⟨tt_,hc16⟩ ?_
     cases h
     exact AK.done (ex_ [_] (an_ (an_ rfl tt_) (gives tt_)))
    ·refine Qa hC [.br false,.n 14,.keep [2,9,10] [2]] rfl ⟨tt_,hc16⟩ ?_
     obtain⟨work21,hl25,h⟩:=Qb h
     refine AK.loop (body:=(fun st=>Qdy n1 st.1 st.2)) (fun st σ=>σ=⟨[(2,.loc 2 0 0),(9,.i .i64 st.1),(10,.i .i64 st.2)],[(2,.var (Qd n1))]⟩) (fun q e σ=>e=.exit 0∧σ=⟨[(9,.i .i64 q)],[]⟩) hl25 rfl ?_ ?_
     ·rintro ⟨work17,k18⟩ o σ rfl h
      replace h:Qdy n1 work17 k18=some o:=h
      unfold Qdy at h
      refine Qa hC [.n 6,.o (.ln n1.Tasks.length),.n 3] rfl ⟨tt_,Qj⟩ ?_
      rcases bifE h with⟨hc22,h⟩|⟨hc22,h⟩
      ·obtain⟨e23,he23,h⟩:=Qb h
       obtain⟨x24,hx24,h⟩:=Qb h
       refine Qa hC [.br true,.n 9,.o (.row (Qg e23)),.v .no [] (.agg (Qg e23)),.n 2,.sayO 11 (.var (Qg e23)),.n 2,.keep [2,9,10,11] [2,11]] rfl ⟨⟨⟨⟨tt_,hc22⟩,(idxM he23)⟩,rfl⟩,rfl⟩ ?_
       refine AK.draw2 Qo hC mixed [.a .no none false,.a .no (some ([],.agg (Qd n1))) false,.a .no none false,.a (.c false [.d,.d] (.i .i64 x24)) none false,.a .no none false,.a .no none false,.a (.ln e23.Ins.length) none false,.a .no none false,.a .no none false,.a (.ln e23.Outs.length) none false,.a .no none false,.a .no none false,.a .no none false,.a .no none false,.m .s] [] [] [2,9,10] [2] rfl rfl rfl ⟨⟨⟨⟨tt_,rfl⟩,(QkY _ _ hx24)⟩,Qj⟩,Qj⟩ rfl (by kernel_rfl) rfl rfl rfl ?_
       refine Qa hC [.n 7,.keep [2,9,10] [2]] rfl tt_ ?_
       cases h
       exact rndN rfl rfl
      ·refine Qa hC [.br false,.n 2,.keep [9] []] rfl ⟨tt_,hc22⟩ ?_
       cases h
       exact rndX rfl (an_ rfl rfl)
     ·replace h:Qjn work21=some r:=h
      unfold Qjn at h
      rintro e σ ⟨rfl,rfl⟩
      refine Qa hC [.n 10,.keep [4] []] rfl tt_ ?_
      cases h
      exact AK.done (ex_ [_] (an_ (an_ rfl tt_) (gives tt_)))
def QjI (a1:Ql)(b2:Ql):Option Bool:=
 bif (a1.Task==b2.Task)then
 (Qak a1.Vars b2.Vars).bind fun x7=>
 bif x7 then
 (Qak a1.Ins b2.Ins).bind fun x9=>
 bif x9 then
 (Qak a1.Outs b2.Outs).bind fun x11=>
 some x11
 else
 some false
 else
 some false
 else
 some false
def Qch (x4:Bool):Option Bool:=
 some x4
def Qd0 (a1:Ql)(b2:Ql):Option Bool:=
 (QjI a1 b2).bind (fun x4=>Qch x4)
theorem QjJ (a1:Ql)(b2:Ql){r:Bool}(h:Qd0 a1 b2=some r):Qc Tryz.prog 16 [.agg (Qi a1),.agg (Qi b2)] [] (Qh (.b r) []):=by
 refine Qc.walk 31 Tryz.func16 rfl Tryz.ntmps16 rfl fun C hC=>?_
 unfold Qd0 at h
 refine Qa hC [.n 8] rfl tt_ ?_
 obtain⟨x4,hv5,h⟩:=Qb h
 replace h:Qch x4=some r:=h
 refine AK.meetX (fun σ=>σ=⟨[(4,.b x4)],[]⟩) ?_ ?_
 ·replace h:=hv5
  unfold QjI at h
  refine Qa hC [.n 7] rfl tt_ ?_
  rcases bifE h with⟨hc6,h⟩|⟨hc6,h⟩
  ·obtain⟨x7,hx7,h⟩:=Qb h
   refine Qa hC [.say 10 (.b true),.n 4,.o (.c false [.d,.d] (.b x7)),.n 2] rfl ⟨⟨tt_,(congrArg V.b hc6)⟩,(Qcm _ _ hx7)⟩ ?_
   rcases bifE h with⟨hc8,h⟩|⟨hc8,h⟩
   ·obtain⟨x9,hx9,h⟩:=Qb h
    refine Qa hC [.say 17 (.b true),.n 4,.o (.c false [.d,.d] (.b x9)),.n 2] rfl ⟨⟨tt_,(congrArg V.b hc8)⟩,(Qcm _ _ hx9)⟩ ?_
    rcases bifE h with⟨hc10,h⟩|⟨hc10,h⟩
    ·obtain⟨x11,hx11,h⟩:=Qb h
     refine Qa hC [.say 24 (.b true),.n 4,.o (.c false [.d,.d] (.b x11)),.n 3,.keep [4] []] rfl ⟨⟨tt_,(congrArg V.b hc10)⟩,(Qcm _ _ hx11)⟩ ?_
     cases h
     exact AK.met rfl
    ·refine Qa hC [.say 24 (.b false),.n 8,.keep [4] []] rfl ⟨tt_,(congrArg V.b hc10)⟩ ?_
     cases h
     exact AK.met rfl
   ·refine Qa hC [.say 17 (.b false),.n 15,.keep [4] []] rfl ⟨tt_,(congrArg V.b hc8)⟩ ?_
    cases h
    exact AK.met rfl
  ·refine Qa hC [.say 10 (.b false),.n 22,.keep [4] []] rfl ⟨tt_,(congrArg V.b hc6)⟩ ?_
   cases h
   exact AK.met rfl
 ·rintro σ rfl
  replace h:Qch x4=some r:=h
  unfold Qch at h
  refine Qa hC [.n 2,.keep [4] []] rfl tt_ ?_
  cases h
  exact AK.done (ex_ [_] (an_ (an_ rfl tt_) (gives tt_)))
def QbE (x13:(List Ql))(x12:(List Ql))(i19:Int):Option (Int⊕(Unit⊕Unit)):=
 bif (decide (i19<(x13.length:Int)))then
 (idx x13 i19).bind fun e22=>
 (idx x12 i19).bind fun e23=>
 (Qd0 e22 e23).bind fun x24=>
 bif (!x24)then
 some (.inr (.inl ()))
 else
 some (.inl (w64 (i19+1)))
 else
 some (.inr (.inr ()))
def Qhu : Option Bool:=
 some false
def Qfm (x12:(List Ql))(at_34:Int)(x33:(List Ql))(i35:Int)(k28:Int):Option Bool:=
 bif (decide ((x12.length:Int)≤at_34))then
 some true
 else
 (idx x12 at_34).bind fun e43=>
 (idx x33 i35).bind fun e44=>
 (Qd0 e43 e44).bind fun x45=>
 bif (!x45)then
 some true
 else
 (idx x33 i35).bind fun e47=>
 some (e47.Task != k28)
def Qdj (at_34:Int)(i35:Int)(x40:Bool):Option ((Int×Int)⊕(Unit⊕Int)):=
 bif x40 then
 some (.inr (.inl ()))
 else
 some (.inl ((w64 (at_34+1)),(w64 (i35+1))))
def QbF (x33:(List Ql))(x12:(List Ql))(k28:Int)(at_34:Int)(i35:Int):Option ((Int×Int)⊕(Unit⊕Int)):=
 bif (decide (i35<(x33.length:Int)))then
 (Qfm x12 at_34 x33 i35 k28).bind (fun x40=>Qdj at_34 i35 x40)
 else
 some (.inr (.inr at_34))
def Qhv : Option ((Int×Int)⊕(Unit⊕Int)):=
 some (.inr (.inl ()))
def Qdk (k28:Int)(at_38:Int):Option ((Int×Int)⊕(Unit⊕Int)):=
 some (.inl (at_38,(w64 (k28+1))))
def QbG (n1:TNet)(m2:(List (List (Int×Int))))(x12:(List Ql))(at_27:Int)(k28:Int):Option ((Int×Int)⊕(Unit⊕Int)):=
 bif (decide (k28<(n1.Tasks.length:Int)))then
 (Qdf n1 m2 k28 2000).bind fun x33=>
 (QF (fun st=>QbF x33 x12 k28 st.1 st.2) (at_27,0)).bind (Sum.elim (fun q=>Qhv) (fun q=>Qdk k28 q))
 else
 some (.inr (.inr at_27))
def Qhw : Option Bool:=
 some false
def QcQ (x6:Bool)(x12:(List Ql))(at_31:Int):Option Bool:=
 some (x6&&(at_31==(x12.length:Int)))
def QcR (n1:TNet)(m2:(List (List (Int×Int))))(x12:(List Ql))(x6:Bool):Option Bool:=
 (QF (fun st=>QbG n1 m2 x12 st.1 st.2) (0,0)).bind (Sum.elim (fun q=>Qhw) (fun q=>QcQ x6 x12 q))
def Qdz (n1:TNet)(m2:(List (List (Int×Int))))(most3:Int):Option Bool:=
 (Qin).bind fun x6=>
 (Qht n1 m2).bind fun x7=>
 bif ((!x7)||((decide (most3<1))||(decide (50<most3))))then
 some x6
 else
 (Qe2 n1 m2 2000).bind fun x12=>
 (Qe2 n1 m2 most3).bind fun x13=>
 bif ((decide (2000≤(x12.length:Int)))||((x13.length:Int) != (min2 most3 (x12.length:Int))))then
 some (x6&&(decide (2000≤(x12.length:Int))))
 else
 (QF (fun st=>QbE x13 x12 st) 0).bind (Sum.elim (fun q=>Qhu) (fun q=>QcR n1 m2 x12 x6))
theorem Qnv (n1:TNet)(m2:(List (List (Int×Int))))(most3:Int){r:Bool}(h:Qdz n1 m2 most3=some r):Qc Tryz.prog 6 [.agg (Qd n1),.sl 1 (m2.map Qv),.i .i64 most3] [] (Qh (.b r) []):=by
 refine Qc.walk 123 Tryz.func6 rfl Tryz.ntmps6 rfl fun C hC=>?_
 unfold Qdz at h
 obtain⟨x6,hx6,h⟩:=Qb h
 obtain⟨x7,hx7,h⟩:=Qb h
 refine Qa hC [.n 8,.o (.c false [] (.b x6)),.n 5,.v .no [] (.agg (Qd n1)),.n 1,.o (.c false [.d,.d] (.b x7)),.n 5] rfl ⟨⟨⟨tt_,(QoE  hx6)⟩,rfl⟩,(Qpu _ _ hx7)⟩ ?_
 refine AK.meetX (fun σ=>σ=⟨[(1,.sl 1 (m2.map Qv)),(2,.i .i64 most3),(3,.loc 3 0 0),(7,.b x6),(29,.b ((!x7)||((decide (most3<1))||(decide (50<most3)))))],[(3,.var (Qd n1))]⟩) ?_ ?_
 ·refine Qa hC [.n 4] rfl tt_ ?_
  rcases QI (!x7)with hc9 | hc9
  ·refine Qa hC [.say 22 (.b true),.n 8,.say 29 (.b ((!x7)||((decide (most3<1))||(decide (50<most3))))),.keep [1,2,3,7,29] [3]] rfl ⟨⟨tt_,(congrArg V.b hc9)⟩,(congrArg V.b (orT hc9 rfl))⟩ ?_
   exact AK.met rfl
  ·refine Qa hC [.say 22 (.b false),.n 4] rfl ⟨tt_,(congrArg V.b hc9)⟩ ?_
   rcases QI (decide (most3<1))with hc10 | hc10
   ·refine Qa hC [.say 26 (.b true),.n 4,.say 29 (.b ((!x7)||((decide (most3<1))||(decide (50<most3))))),.keep [1,2,3,7,29] [3]] rfl ⟨⟨tt_,(congrArg V.b hc10)⟩,(congrArg V.b (orF hc9 (orT hc10 rfl)))⟩ ?_
    exact AK.met rfl
   ·refine Qa hC [.say 26 (.b false),.n 4,.say 29 (.b ((!x7)||((decide (most3<1))||(decide (50<most3))))),.keep [1,2,3,7,29] [3]] rfl ⟨⟨tt_,(congrArg V.b hc10)⟩,(congrArg V.b (orF hc9 (orF hc10 rfl)))⟩ ?_
    exact AK.met rfl
 ·rintro σ rfl
  refine Qa hC [.n 1] rfl tt_ ?_
  rcases bifE h with⟨hc11,h⟩|⟨hc11,h⟩
  ·refine Qa hC [.br true,.n 8,.keep [6] []] rfl ⟨tt_,hc11⟩ ?_
   cases h
   exact AK.done (ex_ [_] (an_ (an_ rfl tt_) (gives tt_)))
  ·obtain⟨x12,hx12,h⟩:=Qb h
   obtain⟨x13,hx13,h⟩:=Qb h
   refine Qa hC [.br false,.n 4,.v .no [] (.agg (Qd n1)),.n 1,.o (.co false [.d,.d,.d] 4 (x12.map Qi) x12.length),.n 5,.v .no [] (.agg (Qd n1)),.n 2,.o (.co false [.d,.d,.d] 4 (x13.map Qi) x13.length),.n 5] rfl ⟨⟨⟨⟨⟨tt_,hc11⟩,rfl⟩,⟨(Qj9 _ _ _ hx12),Qj,.inl rfl⟩⟩,rfl⟩,⟨(Qj9 _ _ _ hx13),Qj,.inl rfl⟩⟩ ?_
   refine AK.meetX (fun σ=>σ=⟨[(1,.sl 1 (m2.map Qv)),(3,.loc 3 0 0),(7,.b x6),(9,.own 33 x12.length),(10,.own 37 x13.length),(49,.b ((decide (2000≤(x12.length:Int)))||((x13.length:Int) != (min2 most3 (x12.length:Int)))))],[(3,.var (Qd n1)),(33,.arr 4 (x12.map Qi)),(37,.arr 4 (x13.map Qi))]⟩) ?_ ?_
   ·refine Qa hC [.n 5] rfl tt_ ?_
    rcases QI (decide (2000≤(x12.length:Int)))with hc15 | hc15
    ·refine Qa hC [.say 41 (.b true),.n 9,.say 49 (.b ((decide (2000≤(x12.length:Int)))||((x13.length:Int) != (min2 most3 (x12.length:Int))))),.keep [1,3,7,9,10,49] [3,33,37]] rfl ⟨⟨tt_,(congrArg V.b hc15)⟩,(congrArg V.b (orT hc15 rfl))⟩ ?_
     exact AK.met rfl
    ·refine Qa hC [.say 41 (.b false),.n 9,.say 49 (.b ((decide (2000≤(x12.length:Int)))||((x13.length:Int) != (min2 most3 (x12.length:Int))))),.keep [1,3,7,9,10,49] [3,33,37]] rfl ⟨⟨tt_,(congrArg V.b hc15)⟩,(congrArg V.b (orF hc15 rfl))⟩ ?_
     exact AK.met rfl
   ·rintro σ rfl
    refine Qa hC [.n 1] rfl tt_ ?_
    rcases bifE h with⟨hc16,h⟩|⟨hc16,h⟩
    ·refine Qa hC [.br true,.n 1] rfl ⟨tt_,hc16⟩ ?_
     refine AK.meetX (fun σ=>σ=⟨[(6,.b (x6&&(decide (2000≤(x12.length:Int)))))],[]⟩) ?_ ?_
     ·refine Qa hC [.n 3] rfl tt_ ?_
      rcases QI x6 with hc18 | hc18
      ·refine Qa hC [.say 51 (.b true),.n 6,.say 6 (.b (x6&&(decide (2000≤(x12.length:Int))))),.keep [6] []] rfl ⟨⟨tt_,(congrArg V.b hc18)⟩,(congrArg V.b (andT hc18 rfl))⟩ ?_
       exact AK.met rfl
      ·refine Qa hC [.say 51 (.b false),.n 6,.say 6 (.b (x6&&(decide (2000≤(x12.length:Int))))),.keep [6] []] rfl ⟨⟨tt_,(congrArg V.b hc18)⟩,(congrArg V.b (andF hc18 rfl))⟩ ?_
       exact AK.met rfl
     ·rintro σ rfl
      refine Qa hC [.n 3,.keep [6] []] rfl tt_ ?_
      cases h
      exact AK.done (ex_ [_] (an_ (an_ rfl tt_) (gives tt_)))
    ·refine Qa hC [.br false,.n 9,.keep [1,3,7,9,10,11] [3,33,37]] rfl ⟨tt_,hc16⟩ ?_
     obtain⟨o26,hl26,h⟩:=Qb h
     refine AK.loop (body:=(fun st=>QbE x13 x12 st)) (fun st σ=>σ=⟨[(1,.sl 1 (m2.map Qv)),(3,.loc 3 0 0),(7,.b x6),(9,.own 33 x12.length),(10,.own 37 x13.length),(11,.i .i64 st)],[(3,.var (Qd n1)),(33,.arr 4 (x12.map Qi)),(37,.arr 4 (x13.map Qi))]⟩) (Sum.elim (fun q e σ=>e=.ret∧σ=⟨[(6,.b false)],[]⟩) (fun q e σ=>e=.exit 0∧σ=⟨[(1,.sl 1 (m2.map Qv)),(3,.loc 3 0 0),(7,.b x6),(9,.own 33 x12.length)],[(3,.var (Qd n1)),(33,.arr 4 (x12.map Qi))]⟩)) hl26 rfl ?_ ?_
     ·rintro i19 o σ rfl h
      replace h:QbE x13 x12 i19=some o:=h
      unfold QbE at h
      refine Qa hC [.n 9] rfl tt_ ?_
      rcases bifE h with⟨hc21,h⟩|⟨hc21,h⟩
      ·obtain⟨e22,he22,h⟩:=Qb h
       obtain⟨e23,he23,h⟩:=Qb h
       obtain⟨x24,hx24,h⟩:=Qb h
       refine Qa hC [.br true,.n 5,.keep [1,3,7,9,10,11] [3,33,37]] rfl ⟨tt_,hc21⟩ ?_
       refine AK.draw2 Qo hC mixed [.a .no none false,.a .no none false,.a .no none false,.a (.row (Qi e22)) (some ([],.agg (Qi e22))) false,.a .no none false,.a .no none false,.a .no none false,.a (.row (Qi e23)) (some ([],.agg (Qi e23))) false,.a (.c false [.d,.d] (.b x24)) none false,.a .no none false] [] [] [1,3,7,9,10,11,71] [3,33,37] rfl rfl rfl ⟨⟨⟨⟨⟨⟨⟨tt_,(QfF he22 rfl)⟩,(Qc8 (idxE he22).2)⟩,rfl⟩,(QfF he23 rfl)⟩,(Qc8 (idxE he23).2)⟩,rfl⟩,(QjJ _ _ hx24)⟩ rfl (by kernel_rfl) rfl rfl rfl ?_
       refine Qa hC [.n 1] rfl tt_ ?_
       rcases bifE h with⟨hc25,h⟩|⟨hc25,h⟩
       ·refine Qa hC [.br true,.n 8,.keep [6] []] rfl ⟨tt_,hc25⟩ ?_
        cases h
        exact rndR rfl (an_ rfl rfl)
       ·refine Qa hC [.br false,.n 8,.keep [1,3,7,9,10,11] [3,33,37]] rfl ⟨tt_,hc25⟩ ?_
        cases h
        exact rndN rfl rfl
      ·refine Qa hC [.br false,.n 2,.keep [1,3,7,9] [3,33]] rfl ⟨tt_,hc21⟩ ?_
       cases h
       exact rndX rfl (an_ rfl rfl)
     ·rcases o26 with(_ | _)
      ·replace h:Qhu=some r:=h
       unfold Qhu at h
       rintro e σ ⟨rfl,rfl⟩
       refine Qa hC [.n 2,.keep [6] []] rfl tt_ ?_
       cases h
       exact AK.done (ex_ [_] (an_ (an_ rfl tt_) (gives tt_)))
      ·replace h:QcR n1 m2 x12 x6=some r:=h
       unfold QcR at h
       rintro e σ ⟨rfl,rfl⟩
       refine Qa hC [.n 14,.keep [1,3,7,9,12,13] [3,33]] rfl tt_ ?_
       obtain⟨o50,hl50,h⟩:=Qb h
       refine AK.loop (body:=(fun st=>QbG n1 m2 x12 st.1 st.2)) (fun st σ=>σ=⟨[(1,.sl 1 (m2.map Qv)),(3,.loc 3 0 0),(7,.b x6),(9,.own 33 x12.length),(12,.i .i64 st.1),(13,.i .i64 st.2)],[(3,.var (Qd n1)),(33,.arr 4 (x12.map Qi))]⟩) (Sum.elim (fun q e σ=>e=.ret∧σ=⟨[(6,.b false)],[]⟩) (fun q e σ=>e=.exit 2∧σ=⟨[(7,.b x6),(9,.own 33 x12.length),(12,.i .i64 q)],[(33,.arr 4 (x12.map Qi))]⟩)) hl50 rfl ?_ ?_
       ·rintro ⟨at_27,k28⟩ o σ rfl h
        replace h:QbG n1 m2 x12 at_27 k28=some o:=h
        unfold QbG at h
        refine Qa hC [.n 6,.o (.ln n1.Tasks.length),.n 3] rfl ⟨tt_,Qj⟩ ?_
        rcases bifE h with⟨hc32,h⟩|⟨hc32,h⟩
        ·obtain⟨x33,hx33,h⟩:=Qb h
         refine Qa hC [.br true,.n 6,.v .no [] (.agg (Qd n1)),.n 2,.o (.c false [.d,.d,.d,.d] (.sl 4 (x33.map Qi))),.n 9,.keep [1,3,7,9,12,13,14,15] [3,33]] rfl ⟨⟨⟨tt_,hc32⟩,rfl⟩,(Qja _ _ _ _ hx33)⟩ ?_
         obtain⟨o49,hl49,h⟩:=Qb h
         refine AK.loop (body:=(fun st=>QbF x33 x12 k28 st.1 st.2)) (fun st σ=>σ=⟨[(1,.sl 1 (m2.map Qv)),(3,.loc 3 0 0),(7,.b x6),(9,.own 33 x12.length),(12,.i .i64 st.1),(13,.i .i64 k28),(14,.sl 4 (x33.map Qi)),(15,.i .i64 st.2)],[(3,.var (Qd n1)),(33,.arr 4 (x12.map Qi))]⟩) (Sum.elim (fun q e σ=>e=.ret∧σ=⟨[(6,.b false)],[]⟩) (fun q e σ=>e=.exit 4∧σ=⟨[(1,.sl 1 (m2.map Qv)),(3,.loc 3 0 0),(7,.b x6),(9,.own 33 x12.length),(12,.i .i64 q),(13,.i .i64 k28)],[(3,.var (Qd n1)),(33,.arr 4 (x12.map Qi))]⟩)) hl49 rfl ?_ ?_
         ·rintro ⟨at_34,i35⟩ o σ rfl h
          replace h:QbF x33 x12 k28 at_34 i35=some o:=h
          unfold QbF at h
          refine Qa hC [.n 5,.o (.ln x33.length),.n 3] rfl ⟨tt_,Qj⟩ ?_
          rcases bifE h with⟨hc39,h⟩|⟨hc39,h⟩
          ·refine Qa hC [.br true,.n 6] rfl ⟨tt_,hc39⟩ ?_
           obtain⟨x40,hv41,h⟩:=Qb h
           replace h:Qdj at_34 i35 x40=some o:=h
           refine AK.meetX (fun σ=>σ=⟨[(1,.sl 1 (m2.map Qv)),(3,.loc 3 0 0),(7,.b x6),(9,.own 33 x12.length),(12,.i .i64 at_34),(13,.i .i64 k28),(14,.sl 4 (x33.map Qi)),(15,.i .i64 i35),(113,.b x40)],[(3,.var (Qd n1)),(33,.arr 4 (x12.map Qi))]⟩) ?_ ?_
           ·replace h:=hv41
            unfold Qfm at h
            refine Qa hC [.keep [1,3,7,9,12,13,14,15] [3,33]] rfl tt_ ?_
            rcases bifE h with⟨hc42,h⟩|⟨hc42,h⟩
            ·refine AK.draw2 Qo hC mixed [.a .no none false,.a .no none false,.a .no none false,.a .no none false,.a .no (some ([],.b true)) false,.a .no none false,.a .no none false,.a .no none false,.a .no none false,.a .no none false,.a .no none false,.a .no none false,.a .no none false,.a .no none false,.a .no none false,.a .no none false,.a .no none false,.a .no none false,.a .no none false,.a .no none false,.a .no none false,.a .no none false,.a .no none false,.a .no none false,.a .no none false] [] [] [1,3,7,9,12,13,14,15,113] [3,33] rfl rfl rfl ⟨tt_,(congrArg V.b hc42)⟩ rfl (by kernel_rfl) rfl rfl rfl ?_
             refine Qa hC [.keep [1,3,7,9,12,13,14,15,113] [3,33]] rfl tt_ ?_
             cases h
             exact AK.met rfl
            ·obtain⟨e43,he43,h⟩:=Qb h
             obtain⟨e44,he44,h⟩:=Qb h
             obtain⟨x45,hx45,h⟩:=Qb h
             rcases bifE h with⟨hc46,h⟩|⟨hc46,h⟩
             ·refine AK.draw2 Qo hC mixed [.a .no none false,.a .no none false,.a .no none false,.a .no none false,.a .no (some ([],.b false)) false,.a .no none false,.a .no none false,.a .no none false,.a (.row (Qi e43)) (some ([],.agg (Qi e43))) false,.a .no none false,.a .no none false,.a (.row (Qi e44)) none false,.a .no (some ([],.agg (Qi e44))) false,.a (.c false [.d,.d] (.b x45)) none false,.a .no none false,.a .no none false,.a .no (some ([],.b true)) false,.a .no none false,.a .no none false,.a .no none false,.a .no none false,.a .no none false,.a .no none false,.a .no none false,.a .no none false] [] [] [1,3,7,9,12,13,14,15,113] [3,33] rfl rfl rfl ⟨⟨⟨⟨⟨⟨⟨⟨tt_,(congrArg V.b hc42)⟩,(QfF he43 rfl)⟩,(Qc8 (idxE he43).2)⟩,rfl⟩,(idxM he44)⟩,rfl⟩,(QjJ _ _ hx45)⟩,(congrArg V.b hc46)⟩ rfl (by kernel_rfl) rfl rfl rfl ?_
              refine Qa hC [.keep [1,3,7,9,12,13,14,15,113] [3,33]] rfl tt_ ?_
              cases h
              exact AK.met rfl
             ·obtain⟨e47,he47,h⟩:=Qb h
              refine AK.draw2 Qo hC mixed [.a .no none false,.a .no none false,.a .no none false,.a .no none false,.a .no (some ([],.b false)) false,.a .no none false,.a .no none false,.a .no none false,.a (.row (Qi e43)) (some ([],.agg (Qi e43))) false,.a .no none false,.a .no none false,.a (.row (Qi e44)) none false,.a .no (some ([],.agg (Qi e44))) false,.a (.c false [.d,.d] (.b x45)) none false,.a .no none false,.a .no none false,.a .no (some ([],.b false)) false,.a .no none false,.a .no none false,.a (.row (Qi e47)) none false,.a .no none false,.a .no none false,.a .no none false,.a .no none false,.a .no none false] [] [] [1,3,7,9,12,13,14,15,113] [3,33] rfl rfl rfl ⟨⟨⟨⟨⟨⟨⟨⟨⟨tt_,(congrArg V.b hc42)⟩,(QfF he43 rfl)⟩,(Qc8 (idxE he43).2)⟩,rfl⟩,(idxM he44)⟩,rfl⟩,(QjJ _ _ hx45)⟩,(congrArg V.b hc46)⟩,(idxM he47)⟩ rfl (by kernel_rfl) rfl rfl rfl ?_
              refine Qa hC [.keep [1,3,7,9,12,13,14,15,113] [3,33]] rfl tt_ ?_
              cases h
              exact AK.met rfl
           ·rintro σ rfl
            replace h:Qdj at_34 i35 x40=some o:=h
            unfold Qdj at h
            refine Qa hC [.n 1] rfl tt_ ?_
            rcases bifE h with⟨hc48,h⟩|⟨hc48,h⟩
            ·refine Qa hC [.br true,.n 9,.keep [6] []] rfl ⟨tt_,hc48⟩ ?_
             cases h
             exact rndR rfl (an_ rfl rfl)
            ·refine Qa hC [.br false,.n 14,.keep [1,3,7,9,12,13,14,15] [3,33]] rfl ⟨tt_,hc48⟩ ?_
             cases h
             exact rndN rfl rfl
          ·refine Qa hC [.br false,.n 2,.keep [1,3,7,9,12,13] [3,33]] rfl ⟨tt_,hc39⟩ ?_
           cases h
           exact rndX rfl (an_ rfl rfl)
         ·rcases o49 with(_ | at_38)
          ·replace h:Qhv=some o:=h
           unfold Qhv at h
           rintro e σ ⟨rfl,rfl⟩
           refine Qa hC [.n 3,.keep [6] []] rfl tt_ ?_
           cases h
           exact rndR rfl (an_ rfl rfl)
          ·replace h:Qdk k28 at_38=some o:=h
           unfold Qdk at h
           rintro e σ ⟨rfl,rfl⟩
           refine Qa hC [.n 8,.keep [1,3,7,9,12,13] [3,33]] rfl tt_ ?_
           cases h
           exact rndN rfl rfl
        ·refine Qa hC [.br false,.n 2,.keep [7,9,12] [33]] rfl ⟨tt_,hc32⟩ ?_
         cases h
         exact rndX rfl (an_ rfl rfl)
       ·rcases o50 with(_ | at_31)
        ·replace h:Qhw=some r:=h
         unfold Qhw at h
         rintro e σ ⟨rfl,rfl⟩
         refine Qa hC [.n 2,.keep [6] []] rfl tt_ ?_
         cases h
         exact AK.done (ex_ [_] (an_ (an_ rfl tt_) (gives tt_)))
        ·replace h:QcQ x6 x12 at_31=some r:=h
         unfold QcQ at h
         rintro e σ ⟨rfl,rfl⟩
         refine Qa hC [.n 3] rfl tt_ ?_
         refine AK.meetX (fun σ=>σ=⟨[(6,.b (x6&&(at_31==(x12.length:Int))))],[]⟩) ?_ ?_
         ·refine Qa hC [.n 3] rfl tt_ ?_
          rcases QI x6 with hc52 | hc52
          ·refine Qa hC [.say 117 (.b true),.n 7,.say 6 (.b (x6&&(at_31==(x12.length:Int)))),.keep [6] []] rfl ⟨⟨tt_,(congrArg V.b hc52)⟩,(congrArg V.b (andT hc52 rfl))⟩ ?_
           exact AK.met rfl
          ·refine Qa hC [.say 117 (.b false),.n 7,.say 6 (.b (x6&&(at_31==(x12.length:Int)))),.keep [6] []] rfl ⟨⟨tt_,(congrArg V.b hc52)⟩,(congrArg V.b (andF hc52 rfl))⟩ ?_
           exact AK.met rfl
         ·rintro σ rfl
          refine Qa hC [.n 2,.keep [6] []] rfl tt_ ?_
          cases h
          exact AK.done (ex_ [_] (an_ (an_ rfl tt_) (gives tt_)))

end Go.Proofs
