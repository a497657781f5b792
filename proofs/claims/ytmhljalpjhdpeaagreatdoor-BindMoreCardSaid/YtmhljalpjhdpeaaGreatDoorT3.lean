/- What functions of the program do, as functions over plain data, and the walks that show it: printed by a program. -/
import Derived.Test.YtmhljalpjhdpeaaGreatDoorT2
set_option linter.unusedVariables false
set_option linter.unusedSimpArgs false
set_option linter.unusedSectionVars false
set_option linter.deprecated false
set_option maxRecDepth 100000
set_option maxHeartbeats 4000000
noncomputable section
namespace Go.Proofs
open Go Go.RowKit Go.Vm
def Qjh (e9:(List (Int×Int)))(x11:Int):Option Bool:=
 (Qdc e9).bind fun x14=>
 bif (!x14)then
 some true
 else
 bif (decide (0<(e9.length:Int)))then
 (idx e9 (w64 ((e9.length:Int)-1))).bind fun e17=>
 some (decide (x11≤e17.1))
 else
 some false
def Qfq (x6:Int)(x12:Bool):Option (Int⊕(Unit⊕Unit)):=
 bif x12 then
 some (.inr (.inl ()))
 else
 some (.inl (w64 (x6+1)))
def QdC (m2:(List (List (Int×Int))))(n1:TNet)(x6:Int):Option (Int⊕(Unit⊕Unit)):=
 bif (decide (x6<(m2.length:Int)))then
 (idx m2 x6).bind fun e9=>
 (idx n1.Places x6).bind fun e10=>
 (Qaw n1.Colours e10.Colour).bind fun x11=>
 (Qjh e9 x11).bind (fun x12=>Qfq x6 x12)
 else
 some (.inr (.inr ()))
def Qji : Option Bool:=
 some false
def Qjj : Option Bool:=
 some true
def Qhz (n1:TNet)(m2:(List (List (Int×Int)))):Option Bool:=
 bif ((m2.length:Int) != (n1.Places.length:Int))then
 some false
 else
 (QI (fun st=>QdC m2 n1 st) 0).bind (Sum.elim (fun q=>Qji) (fun q=>Qjj))
theorem Qpt (n1:TNet)(m2:(List (List (Int×Int)))){r:Bool}(h:Qhz n1 m2=some r):Qc Tryz.prog 24 [.agg (Qd n1),.sl 1 (m2.map Qv)] [] (Qh (.b r) []):=by
 refine Qc.walk 50 Tryz.func24 rfl Tryz.ntmps24 rfl fun C hC=>?_
 unfold Qhz at h
 refine Qa hC [.n 10,.o (.ln m2.length),.n 2,.o (.ln n1.Places.length),.n 3] rfl ⟨⟨tt_,Qi⟩,Qi⟩ ?_
 rcases bifE h with⟨hc5,h⟩|⟨hc5,h⟩
 ·refine Qa hC [.br true,.n 7,.keep [4] []] rfl ⟨tt_,hc5⟩ ?_
  cases h
  exact AK.done (ex_ [_] (an_ (an_ rfl tt_) (gives tt_)))
 ·refine Qa hC [.br false,.n 6,.o (.ln m2.length),.n 4,.keep [2,14,15,16] [2]] rfl ⟨⟨tt_,hc5⟩,Qi⟩ ?_
  obtain⟨o19,hl19,h⟩:=Qb h
  refine AK.loop (body:=(fun st=>QdC m2 n1 st)) (fun st σ=>σ=⟨[(2,.loc 2 0 0),(14,.sl 1 (m2.map Qv)),(15,.i .i64 (m2.length:Int)),(16,.i .i64 st)],[(2,.var (Qd n1))]⟩) (Sum.elim (fun q e σ=>e=.ret∧σ=⟨[(4,.b false)],[]⟩) (fun q e σ=>e=.exit 0∧σ=⟨[],[]⟩)) hl19 rfl ?_ ?_
  ·rintro x6 o σ rfl h
   replace h:QdC m2 n1 x6=some o:=h
   unfold QdC at h
   refine Qa hC [.n 6] rfl tt_ ?_
   rcases bifE h with⟨hc8,h⟩|⟨hc8,h⟩
   ·obtain⟨e9,he9,h⟩:=Qb h
    obtain⟨e10,he10,h⟩:=Qb h
    obtain⟨x11,hx11,h⟩:=Qb h
    refine Qa hC [.br true,.n 7,.o (.row (Qv e9)),.n 6,.keep [2,5,6,14,15,16] [2]] rfl ⟨⟨tt_,hc8⟩,(idxM he9)⟩ ?_
    refine AK.draw2 Qq hC mixed [.a .no none false,.a .no none false,.a .no none false,.a .no none false,.a .no none false,.a (.row (Qt e10)) none false,.a .no none false,.a .no none false,.a (.c false [.d,.d] (.i .i64 x11)) none false,.a .no none false] [] [] [2,6,7,14,15,16] [2] rfl rfl rfl ⟨⟨tt_,(idxM he10)⟩,(Qgq _ _ hx11)⟩ rfl (by kernel_rfl) rfl rfl rfl ?_
    refine Qa hC [.n 2] rfl tt_ ?_
    obtain⟨x12,hv13,h⟩:=Qb h
    replace h:Qfq x6 x12=some o:=h
    refine AK.meetX (fun σ=>σ=⟨[(2,.loc 2 0 0),(14,.sl 1 (m2.map Qv)),(15,.i .i64 (m2.length:Int)),(16,.i .i64 x6),(48,.b x12)],[(2,.var (Qd n1))]⟩) ?_ ?_
    ·replace h:=hv13
     unfold Qjh at h
     obtain⟨x14,hx14,h⟩:=Qb h
     refine Qa hC [.n 2,.o (.c false [.d] (.b x14)),.n 2] rfl ⟨tt_,(Qjx _ hx14)⟩ ?_
     rcases bifE h with⟨hc15,h⟩|⟨hc15,h⟩
     ·refine Qa hC [.say 33 (.b true),.n 16,.keep [2,14,15,16,48] [2]] rfl ⟨tt_,(congrArg V.b hc15)⟩ ?_
      cases h
      exact AK.met rfl
     ·refine Qa hC [.say 33 (.b false),.n 1,.o (.ln e9.length),.n 2] rfl ⟨⟨tt_,(congrArg V.b hc15)⟩,Qi⟩ ?_
      rcases bifE h with⟨hc16,h⟩|⟨hc16,h⟩
      ·obtain⟨e17,he17,h⟩:=Qb h
       refine Qa hC [.say 37 (.b true),.n 2,.o (.ln e9.length),.n 1,.o (.row (QD e17)),.n 7,.keep [2,14,15,16,48] [2]] rfl ⟨⟨⟨tt_,(congrArg V.b hc16)⟩,Qi⟩,(idxM he17)⟩ ?_
       cases h
       exact AK.met rfl
      ·refine Qa hC [.say 37 (.b false),.n 12,.keep [2,14,15,16,48] [2]] rfl ⟨tt_,(congrArg V.b hc16)⟩ ?_
       cases h
       exact AK.met rfl
    ·rintro σ rfl
     replace h:Qfq x6 x12=some o:=h
     unfold Qfq at h
     refine Qa hC [.n 1] rfl tt_ ?_
     rcases bifE h with⟨hc18,h⟩|⟨hc18,h⟩
     ·refine Qa hC [.br true,.n 8,.keep [4] []] rfl ⟨tt_,hc18⟩ ?_
      cases h
      exact rndR rfl (an_ rfl rfl)
     ·refine Qa hC [.br false,.n 7,.keep [2,14,15,16] [2]] rfl ⟨tt_,hc18⟩ ?_
      cases h
      exact rndN rfl rfl
   ·refine Qa hC [.br false,.n 2,.keep [] []] rfl ⟨tt_,hc8⟩ ?_
    cases h
    exact rndX rfl (an_ rfl rfl)
  ·rcases o19 with(_ | _)
   ·replace h:Qji=some r:=h
    unfold Qji at h
    rintro e σ ⟨rfl,rfl⟩
    refine Qa hC [.n 2,.keep [4] []] rfl tt_ ?_
    cases h
    exact AK.done (ex_ [_] (an_ (an_ rfl tt_) (gives tt_)))
   ·replace h:Qjj=some r:=h
    unfold Qjj at h
    rintro e σ ⟨rfl,rfl⟩
    refine Qa hC [.n 8,.keep [4] []] rfl tt_ ?_
    cases h
    exact AK.done (ex_ [_] (an_ (an_ rfl tt_) (gives tt_)))
def Qjk (x11:(Int×Qds))(n1:TNet)(m2:(List (List (Int×Int)))):Option Bool:=
 bif (x11.1 != 0)then
 some true
 else
 (Qhz n1 m2).bind fun x15=>
 some (!x15)
def QdD (n1:TNet)(work17:Int)(k18:Int):Option ((Int×Int)⊕Int):=
 bif (decide (k18<(n1.Tasks.length:Int)))then
 (idx n1.Tasks k18).bind fun e23=>
 (Qe2 n1 k18).bind fun x24=>
 some (.inl ((w64 (work17+(w64 (x24*(w64 (1+(w64 ((e23.Ins.length:Int)*(e23.Outs.length:Int))))))))),(w64 (k18+1))))
 else
 some (.inr work17)
def Qjl (work21:Int):Option Bool:=
 some (decide (work21≤600))
def Qfr (n1:TNet)(x12:Bool):Option Bool:=
 bif x12 then
 some false
 else
 (QI (fun st=>QdD n1 st.1 st.2) (0,0)).bind (fun q=>Qjl q)
def Qgc (n1:TNet)(m2:(List (List (Int×Int)))):Option Bool:=
 (Qif n1).bind fun x5=>
 (Qig m2).bind fun x6=>
 bif ((!x5)||((!x6)||(decide (12<(n1.Tasks.length:Int)))))then
 some false
 else
 (QfC n1).bind fun x11=>
 (Qjk x11 n1 m2).bind (fun x12=>Qfr n1 x12)
theorem Qlm (n1:TNet)(m2:(List (List (Int×Int)))){r:Bool}(h:Qgc n1 m2=some r):Qc Tryz.prog 8 [.agg (Qd n1),.sl 1 (m2.map Qv)] [] (Qh (.b r) []):=by
 refine Qc.walk 69 Tryz.func8 rfl Tryz.ntmps8 rfl fun C hC=>?_
 unfold Qgc at h
 obtain⟨x5,hx5,h⟩:=Qb h
 obtain⟨x6,hx6,h⟩:=Qb h
 refine Qa hC [.n 8,.v .no [] (.agg (Qd n1)),.o (.c false [.d] (.b x5)),.n 6,.o (.c false [.d] (.b x6)),.n 5] rfl ⟨⟨⟨tt_,rfl⟩,(QpX _ hx5)⟩,(QpY _ hx6)⟩ ?_
 refine AK.meetX (fun σ=>σ=⟨[(1,.sl 1 (m2.map Qv)),(2,.loc 2 0 0),(27,.b ((!x5)||((!x6)||(decide (12<(n1.Tasks.length:Int))))))],[(2,.var (Qd n1))]⟩) ?_ ?_
 ·refine Qa hC [.n 4] rfl tt_ ?_
  rcases QN (!x5)with hc8 | hc8
  ·refine Qa hC [.say 18 (.b true),.n 10,.say 27 (.b ((!x5)||((!x6)||(decide (12<(n1.Tasks.length:Int)))))),.keep [1,2,27] [2]] rfl ⟨⟨tt_,(congrArg V.b hc8)⟩,(congrArg V.b (orT hc8 rfl))⟩ ?_
   exact AK.met rfl
  ·refine Qa hC [.say 18 (.b false),.n 4] rfl ⟨tt_,(congrArg V.b hc8)⟩ ?_
   rcases QN (!x6)with hc9 | hc9
   ·refine Qa hC [.say 22 (.b true),.n 6,.say 27 (.b ((!x5)||((!x6)||(decide (12<(n1.Tasks.length:Int)))))),.keep [1,2,27] [2]] rfl ⟨⟨tt_,(congrArg V.b hc9)⟩,(congrArg V.b (orF hc8 (orT hc9 rfl)))⟩ ?_
    exact AK.met rfl
   ·refine Qa hC [.say 22 (.b false),.n 2,.o (.ln n1.Tasks.length),.n 3,.say 27 (.b ((!x5)||((!x6)||(decide (12<(n1.Tasks.length:Int)))))),.keep [1,2,27] [2]] rfl ⟨⟨⟨tt_,(congrArg V.b hc9)⟩,Qi⟩,(congrArg V.b (orF hc8 (orF hc9 rfl)))⟩ ?_
    exact AK.met rfl
 ·rintro σ rfl
  refine Qa hC [.n 1] rfl tt_ ?_
  rcases bifE h with⟨hc10,h⟩|⟨hc10,h⟩
  ·refine Qa hC [.br true,.n 7,.keep [4] []] rfl ⟨tt_,hc10⟩ ?_
   cases h
   exact AK.done (ex_ [_] (an_ (an_ rfl tt_) (gives tt_)))
  ·obtain⟨x11,hx11,h⟩:=Qb h
   refine Qa hC [.br false,.n 4,.v .no [] (.agg (Qd n1)),.o (.c false [.d] (.tup [.agg (Qch x11.2),.i .i64 x11.1])),.n 5,.sayO 7 (.var (Qch x11.2)),.n 5] rfl ⟨⟨⟨⟨tt_,hc10⟩,rfl⟩,(QpZ _ hx11)⟩,rfl⟩ ?_
   obtain⟨x12,hv13,h⟩:=Qb h
   replace h:Qfr n1 x12=some r:=h
   refine AK.meetX (fun σ=>σ=⟨[(2,.loc 2 0 0),(40,.b x12)],[(2,.var (Qd n1))]⟩) ?_ ?_
   ·replace h:=hv13
    unfold Qjk at h
    refine Qa hC [.n 4] rfl tt_ ?_
    rcases bifE h with⟨hc14,h⟩|⟨hc14,h⟩
    ·refine Qa hC [.say 35 (.b true),.n 6,.keep [2,40] [2]] rfl ⟨tt_,(congrArg V.b hc14)⟩ ?_
     cases h
     exact AK.met rfl
    ·obtain⟨x15,hx15,h⟩:=Qb h
     refine Qa hC [.say 35 (.b false),.v .no [] (.agg (Qd n1)),.n 1,.o (.c false [.d,.d] (.b x15)),.n 3,.keep [2,40] [2]] rfl ⟨⟨⟨tt_,(congrArg V.b hc14)⟩,rfl⟩,(Qpt _ _ hx15)⟩ ?_
     cases h
     exact AK.met rfl
   ·rintro σ rfl
    replace h:Qfr n1 x12=some r:=h
    unfold Qfr at h
    refine Qa hC [.n 1] rfl tt_ ?_
    rcases bifE h with⟨hc16,h⟩|⟨hc16,h⟩
    ·refine Qa hC [.br true,.n 7,.keep [4] []] rfl ⟨tt_,hc16⟩ ?_
     cases h
     exact AK.done (ex_ [_] (an_ (an_ rfl tt_) (gives tt_)))
    ·refine Qa hC [.br false,.n 14,.keep [2,9,10] [2]] rfl ⟨tt_,hc16⟩ ?_
     obtain⟨work21,hl25,h⟩:=Qb h
     refine AK.loop (body:=(fun st=>QdD n1 st.1 st.2)) (fun st σ=>σ=⟨[(2,.loc 2 0 0),(9,.i .i64 st.1),(10,.i .i64 st.2)],[(2,.var (Qd n1))]⟩) (fun q e σ=>e=.exit 0∧σ=⟨[(9,.i .i64 q)],[]⟩) hl25 rfl ?_ ?_
     ·rintro ⟨work17,k18⟩ o σ rfl h
      replace h:QdD n1 work17 k18=some o:=h
      unfold QdD at h
      refine Qa hC [.n 6,.o (.ln n1.Tasks.length),.n 3] rfl ⟨tt_,Qi⟩ ?_
      rcases bifE h with⟨hc22,h⟩|⟨hc22,h⟩
      ·obtain⟨e23,he23,h⟩:=Qb h
       obtain⟨x24,hx24,h⟩:=Qb h
       refine Qa hC [.br true,.n 9,.o (.row (Qg e23)),.v .no [] (.agg (Qg e23)),.n 2,.sayO 11 (.var (Qg e23)),.n 2,.keep [2,9,10,11] [2,11]] rfl ⟨⟨⟨⟨tt_,hc22⟩,(idxM he23)⟩,rfl⟩,rfl⟩ ?_
       refine AK.draw2 Qq hC mixed [.a .no none false,.a .no (some ([],.agg (Qd n1))) false,.a .no none false,.a (.c false [.d,.d] (.i .i64 x24)) none false,.a .no none false,.a .no none false,.a (.ln e23.Ins.length) none false,.a .no none false,.a .no none false,.a (.ln e23.Outs.length) none false,.a .no none false,.a .no none false,.a .no none false,.a .no none false,.m .s] [] [] [2,9,10] [2] rfl rfl rfl ⟨⟨⟨⟨tt_,rfl⟩,(QkW _ _ hx24)⟩,Qi⟩,Qi⟩ rfl (by kernel_rfl) rfl rfl rfl ?_
       refine Qa hC [.n 7,.keep [2,9,10] [2]] rfl tt_ ?_
       cases h
       exact rndN rfl rfl
      ·refine Qa hC [.br false,.n 2,.keep [9] []] rfl ⟨tt_,hc22⟩ ?_
       cases h
       exact rndX rfl (an_ rfl rfl)
     ·replace h:Qjl work21=some r:=h
      unfold Qjl at h
      rintro e σ ⟨rfl,rfl⟩
      refine Qa hC [.n 10,.keep [4] []] rfl tt_ ?_
      cases h
      exact AK.done (ex_ [_] (an_ (an_ rfl tt_) (gives tt_)))
def Qbx (m2:(List (List (Int×Int))))(more3:(List (List (Int×Int))))(i13:Int)(l14:(List (List (Int×Int)))):Option ((Int×(List (List (Int×Int))))⊕(Unit⊕(List (List (Int×Int))))):=
 bif (decide (i13<(m2.length:Int)))then
 (idx m2 i13).bind fun e19=>
 (idx more3 i13).bind fun e20=>
 (Qb2 e19 e20).bind fun x21=>
 bif (x21.2 != 0)then
 some (.inr (.inl ()))
 else
 (chk (decide (l14.length+([x21.1]:List (List (Int×Int))).length≤4294967296))).bind fun _=>
 some (.inl ((w64 (i13+1)),(l14++([x21.1]:List (List (Int×Int))))))
 else
 some (.inr (.inr l14))
def Qg3 (x6:Bool):Option Bool:=
 some x6
def QeR (x25:(List Qm))(i26:Int)(n1:TNet)(x30:Int):Option Bool:=
 (idx x25 i26).bind fun e33=>
 (idx n1.Tasks e33.Task).bind fun e34=>
 bif (e34.Join != 3)then
 bif (x30 != 0)then
 some true
 else
 some false
 else
 bif (x30 != 0)then
 some (x30 != 11)
 else
 some false
def QeS (i26:Int)(x31:Bool):Option (Int⊕(Unit⊕Unit)):=
 bif x31 then
 some (.inr (.inl ()))
 else
 some (.inl (w64 (i26+1)))
def Qby (x25:(List Qm))(n1:TNet)(l17:(List (List (Int×Int))))(i26:Int):Option (Int⊕(Unit⊕Unit)):=
 bif (decide (i26<(x25.length:Int)))then
 (idx x25 i26).bind fun e29=>
 (Qbl n1 l17 e29).bind fun x30=>
 (QeR x25 i26 n1 x30).bind (fun x31=>QeS i26 x31)
 else
 some (.inr (.inr ()))
def Qg4 : Option Bool:=
 some false
def Qg5 (x6:Bool):Option Bool:=
 some x6
def QcY (n1:TNet)(m2:(List (List (Int×Int))))(x6:Bool)(l17:(List (List (Int×Int)))):Option Bool:=
 (Qgv n1 m2 300).bind fun x25=>
 (QI (fun st=>Qby x25 n1 l17 st) 0).bind (Sum.elim (fun q=>Qg4) (fun q=>Qg5 x6))
def Qc8 (n1:TNet)(m2:(List (List (Int×Int))))(more3:(List (List (Int×Int)))):Option Bool:=
 (Qio).bind fun x6=>
 (Qgc n1 m2).bind fun x7=>
 (Qgc n1 more3).bind fun x8=>
 bif ((!x7)||(!x8))then
 some x6
 else
 (QI (fun st=>Qbx m2 more3 st.1 st.2) (0,([]:List (List (Int×Int))))).bind (Sum.elim (fun q=>Qg3 x6) (fun q=>QcY n1 m2 x6 q))
theorem QmQ (n1:TNet)(m2:(List (List (Int×Int))))(more3:(List (List (Int×Int)))){r:Bool}(h:Qc8 n1 m2 more3=some r):Qc Tryz.prog 4 [.agg (Qd n1),.sl 1 (m2.map Qv),.sl 1 (more3.map Qv)] [] (Qh (.b r) []):=by
 refine Qc.walk 96 Tryz.func4 rfl Tryz.ntmps4 rfl fun C hC=>?_
 unfold Qc8 at h
 obtain⟨x6,hx6,h⟩:=Qb h
 obtain⟨x7,hx7,h⟩:=Qb h
 obtain⟨x8,hx8,h⟩:=Qb h
 refine Qa hC [.n 8,.o (.c false [] (.b x6)),.n 5,.v .no [] (.agg (Qd n1)),.n 1,.o (.c false [.d,.d] (.b x7)),.n 5,.v .no [] (.agg (Qd n1)),.n 1,.o (.c false [.d,.d] (.b x8)),.n 5] rfl ⟨⟨⟨⟨⟨tt_,(QoE  hx6)⟩,rfl⟩,(Qlm _ _ hx7)⟩,rfl⟩,(Qlm _ _ hx8)⟩ ?_
 refine AK.meetX (fun σ=>σ=⟨[(1,.sl 1 (m2.map Qv)),(2,.sl 1 (more3.map Qv)),(3,.loc 3 0 0),(7,.b x6),(29,.b ((!x7)||(!x8)))],[(3,.var (Qd n1))]⟩) ?_ ?_
 ·refine Qa hC [.n 4] rfl tt_ ?_
  rcases QN (!x7)with hc10 | hc10
  ·refine Qa hC [.say 26 (.b true),.n 4,.say 29 (.b ((!x7)||(!x8))),.keep [1,2,3,7,29] [3]] rfl ⟨⟨tt_,(congrArg V.b hc10)⟩,(congrArg V.b (orT hc10 rfl))⟩ ?_
   exact AK.met rfl
  ·refine Qa hC [.say 26 (.b false),.n 4,.say 29 (.b ((!x7)||(!x8))),.keep [1,2,3,7,29] [3]] rfl ⟨⟨tt_,(congrArg V.b hc10)⟩,(congrArg V.b (orF hc10 rfl))⟩ ?_
   exact AK.met rfl
 ·rintro σ rfl
  refine Qa hC [.n 1] rfl tt_ ?_
  rcases bifE h with⟨hc11,h⟩|⟨hc11,h⟩
  ·refine Qa hC [.br true,.n 8,.keep [6] []] rfl ⟨tt_,hc11⟩ ?_
   cases h
   exact AK.done (ex_ [_] (an_ (an_ rfl tt_) (gives tt_)))
  ·refine Qa hC [.br false,.n 14,.adopt 10 52 1,.sayO 52 (.arr 1 (([]:List (List (Int×Int))).map Qv)),.say 10 (.own 52 ([]:List (List (Int×Int))).length),.keep [1,2,3,7,10,11] [3,52]] rfl ⟨⟨⟨tt_,hc11⟩,rfl⟩,(congrArg (fun n=>V.own 52 n) (by simp))⟩ ?_
   obtain⟨o24,hl24,h⟩:=Qb h
   refine AK.loop (body:=(fun st=>Qbx m2 more3 st.1 st.2)) (fun st σ=>σ=⟨[(1,.sl 1 (m2.map Qv)),(2,.sl 1 (more3.map Qv)),(3,.loc 3 0 0),(7,.b x6),(10,.own 52 st.2.length),(11,.i .i64 st.1)],[(3,.var (Qd n1)),(52,.arr 1 (st.2.map Qv))]⟩) (Sum.elim (fun q e σ=>e=.ret∧σ=⟨[(6,.b x6)],[]⟩) (fun q e σ=>e=.exit 0∧σ=⟨[(1,.sl 1 (m2.map Qv)),(3,.loc 3 0 0),(7,.b x6),(10,.own 52 q.length)],[(3,.var (Qd n1)),(52,.arr 1 (q.map Qv))]⟩)) hl24 rfl ?_ ?_
   ·rintro ⟨i13,l14⟩ o σ rfl h
    replace h:Qbx m2 more3 i13 l14=some o:=h
    unfold Qbx at h
    refine Qa hC [.n 5,.o (.ln m2.length),.n 3] rfl ⟨tt_,Qi⟩ ?_
    rcases bifE h with⟨hc18,h⟩|⟨hc18,h⟩
    ·obtain⟨e19,he19,h⟩:=Qb h
     obtain⟨e20,he20,h⟩:=Qb h
     obtain⟨x21,hx21,h⟩:=Qb h
     refine Qa hC [.br true,.n 5,.keep [1,2,3,7,10,11] [3,52]] rfl ⟨tt_,hc18⟩ ?_
     refine AK.draw2 Qq hC mixed [.a .no none false,.a .no none false,.a (.row (Qv e19)) none false,.a .no none false,.a .no none false,.a .no none false,.a (.row (Qv e20)) none false,.a .no none false,.a (.c false [.d,.d] (.tup [.sl 2 (x21.1.map QD),.i .i64 x21.2])) none false,.a .no none false,.a .no none false,.a .no none false,.a .no none false,.a .no none false] [] [] [1,2,3,7,10,11,12,13] [3,52] rfl rfl rfl ⟨⟨⟨tt_,(idxM he19)⟩,(idxM he20)⟩,(Qnj _ _ hx21)⟩ rfl (by kernel_rfl) rfl rfl rfl ?_
     refine Qa hC [.n 8] rfl tt_ ?_
     rcases bifE h with⟨hc22,h⟩|⟨hc22,h⟩
     ·refine Qa hC [.br true,.n 10,.keep [6] []] rfl ⟨tt_,hc22⟩ ?_
      cases h
      exact rndR rfl (an_ rfl rfl)
     ·obtain⟨_,hk23,h⟩:=Qb h
      replace hk23:=chkE hk23
      refine Qa hC [.br false,.n 5,.v (.bd []) [] (.sl 1 (([x21.1]:List (List (Int×Int))).map Qv)),.app ((l14++([x21.1]:List (List (Int×Int)))).map Qv) (l14++([x21.1]:List (List (Int×Int)))).length,.n 9,.keep [1,2,3,7,10,11] [3,52]] rfl ⟨⟨⟨tt_,hc22⟩,rfl⟩,⟨Qi,QfR hk23 Qi,Qd5,QhF Qi⟩⟩ ?_
      cases h
      exact rndN rfl rfl
    ·refine Qa hC [.br false,.n 2,.keep [1,3,7,10] [3,52]] rfl ⟨tt_,hc18⟩ ?_
     cases h
     exact rndX rfl (an_ rfl rfl)
   ·rcases o24 with(_ | l17)
    ·replace h:Qg3 x6=some r:=h
     unfold Qg3 at h
     rintro e σ ⟨rfl,rfl⟩
     refine Qa hC [.n 2,.keep [6] []] rfl tt_ ?_
     cases h
     exact AK.done (ex_ [_] (an_ (an_ rfl tt_) (gives tt_)))
    ·replace h:QcY n1 m2 x6 l17=some r:=h
     unfold QcY at h
     rintro e σ ⟨rfl,rfl⟩
     obtain⟨x25,hx25,h⟩:=Qb h
     refine Qa hC [.n 4,.v .no [] (.agg (Qd n1)),.n 1,.o (.co false [.d,.d,.d] 4 (x25.map Qk) x25.length),.n 10,.keep [3,7,10,14,15] [3,52,58]] rfl ⟨⟨tt_,rfl⟩,⟨(QmA _ _ _ hx25),Qi,.inl rfl⟩⟩ ?_
     obtain⟨o39,hl39,h⟩:=Qb h
     refine AK.loop (body:=(fun st=>Qby x25 n1 l17 st)) (fun st σ=>σ=⟨[(3,.loc 3 0 0),(7,.b x6),(10,.own 52 l17.length),(14,.own 58 x25.length),(15,.i .i64 st)],[(3,.var (Qd n1)),(52,.arr 1 (l17.map Qv)),(58,.arr 4 (x25.map Qk))]⟩) (Sum.elim (fun q e σ=>e=.ret∧σ=⟨[(6,.b false)],[]⟩) (fun q e σ=>e=.exit 2∧σ=⟨[(7,.b x6)],[]⟩)) hl39 rfl ?_ ?_
     ·rintro i26 o σ rfl h
      replace h:Qby x25 n1 l17 i26=some o:=h
      unfold Qby at h
      refine Qa hC [.n 9] rfl tt_ ?_
      rcases bifE h with⟨hc28,h⟩|⟨hc28,h⟩
      ·obtain⟨e29,he29,h⟩:=Qb h
       obtain⟨x30,hx30,h⟩:=Qb h
       refine Qa hC [.br true,.n 5,.keep [3,7,10,14,15] [3,52,58]] rfl ⟨tt_,hc28⟩ ?_
       refine AK.draw2 Qq hC mixed [.a .no (some ([],.agg (Qd n1))) false,.a .no none false,.a .no none false,.a .no none false,.a .no none false,.a (.row (Qk e29)) (some ([],.agg (Qk e29))) false,.a (.c true [.d,.o (l17.map Qv),.d] (.i .i64 x30)) none false,.a .no none false] [] [] [3,7,10,14,15,16] [3,52,58] rfl rfl rfl ⟨⟨⟨⟨⟨tt_,rfl⟩,(Qe4 he29 rfl)⟩,(QcO (idxE he29).2)⟩,rfl⟩,⟨(QnT rfl),(Qjc _ _ _ hx30)⟩⟩ rfl (by kernel_rfl) rfl rfl rfl ?_
       refine Qa hC [.n 2] rfl tt_ ?_
       obtain⟨x31,hv32,h⟩:=Qb h
       replace h:QeS i26 x31=some o:=h
       refine AK.meetX (fun σ=>σ=⟨[(3,.loc 3 0 0),(7,.b x6),(10,.own 52 l17.length),(14,.own 58 x25.length),(15,.i .i64 i26),(94,.b x31)],[(3,.var (Qd n1)),(52,.arr 1 (l17.map Qv)),(58,.arr 4 (x25.map Qk))]⟩) ?_ ?_
       ·replace h:=hv32
        unfold QeR at h
        obtain⟨e33,he33,h⟩:=Qb h
        obtain⟨e34,he34,h⟩:=Qb h
        refine Qa hC [.keep [3,7,10,14,15,16] [3,52,58]] rfl tt_ ?_
        rcases bifE h with⟨hc35,h⟩|⟨hc35,h⟩
        ·rcases bifE h with⟨hc36,h⟩|⟨hc36,h⟩
         ·refine AK.draw2 Qq hC mixed [.a .no none false,.a .no none false,.a .no none false,.a .no none false,.a .no none false,.a .no none false,.a (.row (Qk e33)) none false,.a (.row (Qg e34)) none false,.a .no none false,.a .no none false,.a .no none false,.a .no (some ([],.b true)) false,.a .no none false,.a .no none false,.a .no none false,.a .no (some ([],.b true)) false,.a .no none false,.a .no none false,.a .no none false,.a .no none false,.a .no none false,.a .no none false,.a .no none false] [] [] [3,7,10,14,15,94] [3,52,58] rfl rfl rfl ⟨⟨⟨⟨⟨tt_,(Qe4 he33 rfl)⟩,(QcO (idxE he33).2)⟩,(idxM he34)⟩,(congrArg V.b hc35)⟩,(congrArg V.b hc36)⟩ rfl (by kernel_rfl) rfl rfl rfl ?_
          refine Qa hC [.keep [3,7,10,14,15,94] [3,52,58]] rfl tt_ ?_
          cases h
          exact AK.met rfl
         ·refine AK.draw2 Qq hC mixed [.a .no none false,.a .no none false,.a .no none false,.a .no none false,.a .no none false,.a .no none false,.a (.row (Qk e33)) none false,.a (.row (Qg e34)) none false,.a .no none false,.a .no none false,.a .no none false,.a .no (some ([],.b true)) false,.a .no none false,.a .no none false,.a .no none false,.a .no (some ([],.b false)) false,.a .no none false,.a .no none false,.a .no (some ([],.b false)) false,.a .no none false,.a .no none false,.a .no none false,.a .no none false] [] [] [3,7,10,14,15,94] [3,52,58] rfl rfl rfl ⟨⟨⟨⟨⟨⟨tt_,(Qe4 he33 rfl)⟩,(QcO (idxE he33).2)⟩,(idxM he34)⟩,(congrArg V.b hc35)⟩,(congrArg V.b hc36)⟩,(congrArg V.b hc36)⟩ rfl (by kernel_rfl) rfl rfl rfl ?_
          refine Qa hC [.keep [3,7,10,14,15,94] [3,52,58]] rfl tt_ ?_
          cases h
          exact AK.met rfl
        ·rcases bifE h with⟨hc37,h⟩|⟨hc37,h⟩
         ·refine AK.draw2 Qq hC mixed [.a .no none false,.a .no none false,.a .no none false,.a .no none false,.a .no none false,.a .no none false,.a (.row (Qk e33)) none false,.a (.row (Qg e34)) none false,.a .no none false,.a .no none false,.a .no none false,.a .no (some ([],.b false)) false,.a .no none false,.a .no none false,.a .no none false,.a .no none false,.a .no none false,.a .no none false,.a .no (some ([],.b true)) false,.a .no none false,.a .no none false,.a .no none false,.a .no none false] [] [] [3,7,10,14,15,94] [3,52,58] rfl rfl rfl ⟨⟨⟨⟨⟨tt_,(Qe4 he33 rfl)⟩,(QcO (idxE he33).2)⟩,(idxM he34)⟩,(congrArg V.b hc35)⟩,(congrArg V.b hc37)⟩ rfl (by kernel_rfl) rfl rfl rfl ?_
          refine Qa hC [.keep [3,7,10,14,15,94] [3,52,58]] rfl tt_ ?_
          cases h
          exact AK.met rfl
         ·refine AK.draw2 Qq hC mixed [.a .no none false,.a .no none false,.a .no none false,.a .no none false,.a .no none false,.a .no none false,.a (.row (Qk e33)) none false,.a (.row (Qg e34)) none false,.a .no none false,.a .no none false,.a .no none false,.a .no (some ([],.b false)) false,.a .no none false,.a .no none false,.a .no none false,.a .no none false,.a .no none false,.a .no none false,.a .no (some ([],.b false)) false,.a .no none false,.a .no none false,.a .no none false,.a .no none false] [] [] [3,7,10,14,15,94] [3,52,58] rfl rfl rfl ⟨⟨⟨⟨⟨tt_,(Qe4 he33 rfl)⟩,(QcO (idxE he33).2)⟩,(idxM he34)⟩,(congrArg V.b hc35)⟩,(congrArg V.b hc37)⟩ rfl (by kernel_rfl) rfl rfl rfl ?_
          refine Qa hC [.keep [3,7,10,14,15,94] [3,52,58]] rfl tt_ ?_
          cases h
          exact AK.met rfl
       ·rintro σ rfl
        replace h:QeS i26 x31=some o:=h
        unfold QeS at h
        refine Qa hC [.n 1] rfl tt_ ?_
        rcases bifE h with⟨hc38,h⟩|⟨hc38,h⟩
        ·refine Qa hC [.br true,.n 8,.keep [6] []] rfl ⟨tt_,hc38⟩ ?_
         cases h
         exact rndR rfl (an_ rfl rfl)
        ·refine Qa hC [.br false,.n 8,.keep [3,7,10,14,15] [3,52,58]] rfl ⟨tt_,hc38⟩ ?_
         cases h
         exact rndN rfl rfl
      ·refine Qa hC [.br false,.n 2,.keep [7] []] rfl ⟨tt_,hc28⟩ ?_
       cases h
       exact rndX rfl (an_ rfl rfl)
     ·rcases o39 with(_ | _)
      ·replace h:Qg4=some r:=h
       unfold Qg4 at h
       rintro e σ ⟨rfl,rfl⟩
       refine Qa hC [.n 2,.keep [6] []] rfl tt_ ?_
       cases h
       exact AK.done (ex_ [_] (an_ (an_ rfl tt_) (gives tt_)))
      ·replace h:Qg5 x6=some r:=h
       unfold Qg5 at h
       rintro e σ ⟨rfl,rfl⟩
       refine Qa hC [.n 9,.keep [6] []] rfl tt_ ?_
       cases h
       exact AK.done (ex_ [_] (an_ (an_ rfl tt_) (gives tt_)))

end Go.Proofs
