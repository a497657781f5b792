/- What functions of the program do, as functions over plain data, and the walks that show it: printed by a program. -/
import Derived.Test.YtmhljalpjhdpeaaGreatDoorT2
set_option linter.unusedVariables false
set_option linter.unusedSimpArgs false
set_option linter.unusedSectionVars false
set_option linter.deprecated false
set_option maxRecDepth 100000
set_option maxHeartbeats 4000000
noncomputable section
namespace Go.Proofs
open Go Go.RowKit Go.Vm
def Qjl (e9:(List (Int×Int)))(x11:Int):Option Bool:=
 (Qde e9).bind fun x14=>
 bif (!x14)then
 some true
 else
 bif (decide (0<(e9.length:Int)))then
 (idx e9 (w64 ((e9.length:Int)-1))).bind fun e17=>
 some (decide (x11≤e17.1))
 else
 some false
def Qfr (x6:Int)(x12:Bool):Option (Int⊕(Unit⊕Unit)):=
 bif x12 then
 some (.inr (.inl ()))
 else
 some (.inl (w64 (x6+1)))
def QdF (m2:(List (List (Int×Int))))(n1:TNet)(x6:Int):Option (Int⊕(Unit⊕Unit)):=
 bif (decide (x6<(m2.length:Int)))then
 (idx m2 x6).bind fun e9=>
 (idx n1.Places x6).bind fun e10=>
 (Qaz n1.Colours e10.Colour).bind fun x11=>
 (Qjl e9 x11).bind (fun x12=>Qfr x6 x12)
 else
 some (.inr (.inr ()))
def Qjm : Option Bool:=
 some false
def Qjn : Option Bool:=
 some true
def QhC (n1:TNet)(m2:(List (List (Int×Int)))):Option Bool:=
 bif ((m2.length:Int) != (n1.Places.length:Int))then
 some false
 else
 (QG (fun st=>QdF m2 n1 st) 0).bind (Sum.elim (fun q=>Qjm) (fun q=>Qjn))
theorem Qpw (n1:TNet)(m2:(List (List (Int×Int)))){r:Bool}(h:QhC n1 m2=some r):Qc Tryz.prog 24 [.agg (Qd n1),.sl 1 (m2.map Qw)] [] (Qh (.b r) []):=by
 refine Qc.walk 50 Tryz.func24 rfl Tryz.ntmps24 rfl fun C hC=>?_
 unfold QhC at h
 refine Qa hC [.n 10,.o (.ln m2.length),.n 2,.o (.ln n1.Places.length),.n 3] rfl ⟨⟨tt_,Qi⟩,Qi⟩ ?_
 rcases bifE h with⟨hc5,h⟩|⟨hc5,h⟩
 ·refine Qa hC [.br true,.n 7,.keep [4] []] rfl ⟨tt_,hc5⟩ ?_
  cases h
  exact AK.done (ex_ [_] (an_ (an_ rfl tt_) (gives tt_)))
 ·refine Qa hC [.br false,.n 6,.o (.ln m2.length),.n 4,.keep [2,14,15,16] [2]] rfl ⟨⟨tt_,hc5⟩,Qi⟩ ?_
  obtain⟨o19,hl19,h⟩:=Qb h
  refine AK.loop (body:=(fun st=>QdF m2 n1 st)) (fun st σ=>σ=⟨[(2,.loc 2 0 0),(14,.sl 1 (m2.map Qw)),(15,.i .i64 (m2.length:Int)),(16,.i .i64 st)],[(2,.var (Qd n1))]⟩) (Sum.elim (fun q e σ=>e=.ret∧σ=⟨[(4,.b false)],[]⟩) (fun q e σ=>e=.exit 0∧σ=⟨[],[]⟩)) hl19 rfl ?_ ?_
  ·rintro x6 o σ rfl h
   replace h:QdF m2 n1 x6=some o:=h
   unfold QdF at h
   refine Qa hC [.n 6] rfl tt_ ?_
   rcases bifE h with⟨hc8,h⟩|⟨hc8,h⟩
   ·obtain⟨e9,he9,h⟩:=Qb h
    obtain⟨e10,he10,h⟩:=Qb h
    obtain⟨x11,hx11,h⟩:=Qb h
    refine Qa hC [.br true,.n 7,.o (.row (Qw e9)),.n 6,.keep [2,5,6,14,15,16] [2]] rfl ⟨⟨tt_,hc8⟩,(idxM he9)⟩ ?_
    refine AK.draw2 Qp hC mixed [.a .no none false,.a .no none false,.a .no none false,.a .no none false,.a .no none false,.a (.row (Qs e10)) none false,.a .no none false,.a .no none false,.a (.c false [.d,.d] (.i .i64 x11)) none false,.a .no none false] [] [] [2,6,7,14,15,16] [2] rfl rfl rfl ⟨⟨tt_,(idxM he10)⟩,(Qgs _ _ hx11)⟩ rfl (by kernel_rfl) rfl rfl rfl ?_
    refine Qa hC [.n 2] rfl tt_ ?_
    obtain⟨x12,hv13,h⟩:=Qb h
    replace h:Qfr x6 x12=some o:=h
    refine AK.meetX (fun σ=>σ=⟨[(2,.loc 2 0 0),(14,.sl 1 (m2.map Qw)),(15,.i .i64 (m2.length:Int)),(16,.i .i64 x6),(48,.b x12)],[(2,.var (Qd n1))]⟩) ?_ ?_
    ·replace h:=hv13
     unfold Qjl at h
     obtain⟨x14,hx14,h⟩:=Qb h
     refine Qa hC [.n 2,.o (.c false [.d] (.b x14)),.n 2] rfl ⟨tt_,(Qjz _ hx14)⟩ ?_
     rcases bifE h with⟨hc15,h⟩|⟨hc15,h⟩
     ·refine Qa hC [.say 33 (.b true),.n 16,.keep [2,14,15,16,48] [2]] rfl ⟨tt_,(congrArg V.b hc15)⟩ ?_
      cases h
      exact AK.met rfl
     ·refine Qa hC [.say 33 (.b false),.n 1,.o (.ln e9.length),.n 2] rfl ⟨⟨tt_,(congrArg V.b hc15)⟩,Qi⟩ ?_
      rcases bifE h with⟨hc16,h⟩|⟨hc16,h⟩
      ·obtain⟨e17,he17,h⟩:=Qb h
       refine Qa hC [.say 37 (.b true),.n 2,.o (.ln e9.length),.n 1,.o (.row (QD e17)),.n 7,.keep [2,14,15,16,48] [2]] rfl ⟨⟨⟨tt_,(congrArg V.b hc16)⟩,Qi⟩,(idxM he17)⟩ ?_
       cases h
       exact AK.met rfl
      ·refine Qa hC [.say 37 (.b false),.n 12,.keep [2,14,15,16,48] [2]] rfl ⟨tt_,(congrArg V.b hc16)⟩ ?_
       cases h
       exact AK.met rfl
    ·rintro σ rfl
     replace h:Qfr x6 x12=some o:=h
     unfold Qfr at h
     refine Qa hC [.n 1] rfl tt_ ?_
     rcases bifE h with⟨hc18,h⟩|⟨hc18,h⟩
     ·refine Qa hC [.br true,.n 8,.keep [4] []] rfl ⟨tt_,hc18⟩ ?_
      cases h
      exact rndR rfl (an_ rfl rfl)
     ·refine Qa hC [.br false,.n 7,.keep [2,14,15,16] [2]] rfl ⟨tt_,hc18⟩ ?_
      cases h
      exact rndN rfl rfl
   ·refine Qa hC [.br false,.n 2,.keep [] []] rfl ⟨tt_,hc8⟩ ?_
    cases h
    exact rndX rfl (an_ rfl rfl)
  ·rcases o19 with(_ | _)
   ·replace h:Qjm=some r:=h
    unfold Qjm at h
    rintro e σ ⟨rfl,rfl⟩
    refine Qa hC [.n 2,.keep [4] []] rfl tt_ ?_
    cases h
    exact AK.done (ex_ [_] (an_ (an_ rfl tt_) (gives tt_)))
   ·replace h:Qjn=some r:=h
    unfold Qjn at h
    rintro e σ ⟨rfl,rfl⟩
    refine Qa hC [.n 8,.keep [4] []] rfl tt_ ?_
    cases h
    exact AK.done (ex_ [_] (an_ (an_ rfl tt_) (gives tt_)))
def Qjo (x11:(Int×Qdv))(n1:TNet)(m2:(List (List (Int×Int)))):Option Bool:=
 bif (x11.1 != 0)then
 some true
 else
 (QhC n1 m2).bind fun x15=>
 some (!x15)
def QdG (n1:TNet)(work17:Int)(k18:Int):Option ((Int×Int)⊕Int):=
 bif (decide (k18<(n1.Tasks.length:Int)))then
 (idx n1.Tasks k18).bind fun e23=>
 (Qe4 n1 k18).bind fun x24=>
 some (.inl ((w64 (work17+(w64 (x24*(w64 (1+(w64 ((e23.Ins.length:Int)*(e23.Outs.length:Int))))))))),(w64 (k18+1))))
 else
 some (.inr work17)
def Qjp (work21:Int):Option Bool:=
 some (decide (work21≤600))
def Qfs (n1:TNet)(x12:Bool):Option Bool:=
 bif x12 then
 some false
 else
 (QG (fun st=>QdG n1 st.1 st.2) (0,0)).bind (fun q=>Qjp q)
def QhD (n1:TNet)(m2:(List (List (Int×Int)))):Option Bool:=
 (Qii n1).bind fun x5=>
 (Qij m2).bind fun x6=>
 bif ((!x5)||((!x6)||(decide (12<(n1.Tasks.length:Int)))))then
 some false
 else
 (QfD n1).bind fun x11=>
 (Qjo x11 n1 m2).bind (fun x12=>Qfs n1 x12)
theorem Qpx (n1:TNet)(m2:(List (List (Int×Int)))){r:Bool}(h:QhD n1 m2=some r):Qc Tryz.prog 8 [.agg (Qd n1),.sl 1 (m2.map Qw)] [] (Qh (.b r) []):=by
 refine Qc.walk 69 Tryz.func8 rfl Tryz.ntmps8 rfl fun C hC=>?_
 unfold QhD at h
 obtain⟨x5,hx5,h⟩:=Qb h
 obtain⟨x6,hx6,h⟩:=Qb h
 refine Qa hC [.n 8,.v .no [] (.agg (Qd n1)),.o (.c false [.d] (.b x5)),.n 6,.o (.c false [.d] (.b x6)),.n 5] rfl ⟨⟨⟨tt_,rfl⟩,(Qp2 _ hx5)⟩,(Qp3 _ hx6)⟩ ?_
 refine AK.meetX (fun σ=>σ=⟨[(1,.sl 1 (m2.map Qw)),(2,.loc 2 0 0),(27,.b ((!x5)||((!x6)||(decide (12<(n1.Tasks.length:Int))))))],[(2,.var (Qd n1))]⟩) ?_ ?_
 ·refine Qa hC [.n 4] rfl tt_ ?_
  rcases QK (!x5)with hc8 | hc8
  ·refine Qa hC [.say 18 (.b true),.n 10,.say 27 (.b ((!x5)||((!x6)||(decide (12<(n1.Tasks.length:Int)))))),.keep [1,2,27] [2]] rfl ⟨⟨tt_,(congrArg V.b hc8)⟩,(congrArg V.b (orT hc8 rfl))⟩ ?_
   exact AK.met rfl
  ·refine Qa hC [.say 18 (.b false),.n 4] rfl ⟨tt_,(congrArg V.b hc8)⟩ ?_
   rcases QK (!x6)with hc9 | hc9
   ·refine Qa hC [.say 22 (.b true),.n 6,.say 27 (.b ((!x5)||((!x6)||(decide (12<(n1.Tasks.length:Int)))))),.keep [1,2,27] [2]] rfl ⟨⟨tt_,(congrArg V.b hc9)⟩,(congrArg V.b (orF hc8 (orT hc9 rfl)))⟩ ?_
    exact AK.met rfl
   ·refine Qa hC [.say 22 (.b false),.n 2,.o (.ln n1.Tasks.length),.n 3,.say 27 (.b ((!x5)||((!x6)||(decide (12<(n1.Tasks.length:Int)))))),.keep [1,2,27] [2]] rfl ⟨⟨⟨tt_,(congrArg V.b hc9)⟩,Qi⟩,(congrArg V.b (orF hc8 (orF hc9 rfl)))⟩ ?_
    exact AK.met rfl
 ·rintro σ rfl
  refine Qa hC [.n 1] rfl tt_ ?_
  rcases bifE h with⟨hc10,h⟩|⟨hc10,h⟩
  ·refine Qa hC [.br true,.n 7,.keep [4] []] rfl ⟨tt_,hc10⟩ ?_
   cases h
   exact AK.done (ex_ [_] (an_ (an_ rfl tt_) (gives tt_)))
  ·obtain⟨x11,hx11,h⟩:=Qb h
   refine Qa hC [.br false,.n 4,.v .no [] (.agg (Qd n1)),.o (.c false [.d] (.tup [.agg (Qcg x11.2),.i .i64 x11.1])),.n 5,.sayO 7 (.var (Qcg x11.2)),.n 5] rfl ⟨⟨⟨⟨tt_,hc10⟩,rfl⟩,(Qp4 _ hx11)⟩,rfl⟩ ?_
   obtain⟨x12,hv13,h⟩:=Qb h
   replace h:Qfs n1 x12=some r:=h
   refine AK.meetX (fun σ=>σ=⟨[(2,.loc 2 0 0),(40,.b x12)],[(2,.var (Qd n1))]⟩) ?_ ?_
   ·replace h:=hv13
    unfold Qjo at h
    refine Qa hC [.n 4] rfl tt_ ?_
    rcases bifE h with⟨hc14,h⟩|⟨hc14,h⟩
    ·refine Qa hC [.say 35 (.b true),.n 6,.keep [2,40] [2]] rfl ⟨tt_,(congrArg V.b hc14)⟩ ?_
     cases h
     exact AK.met rfl
    ·obtain⟨x15,hx15,h⟩:=Qb h
     refine Qa hC [.say 35 (.b false),.v .no [] (.agg (Qd n1)),.n 1,.o (.c false [.d,.d] (.b x15)),.n 3,.keep [2,40] [2]] rfl ⟨⟨⟨tt_,(congrArg V.b hc14)⟩,rfl⟩,(Qpw _ _ hx15)⟩ ?_
     cases h
     exact AK.met rfl
   ·rintro σ rfl
    replace h:Qfs n1 x12=some r:=h
    unfold Qfs at h
    refine Qa hC [.n 1] rfl tt_ ?_
    rcases bifE h with⟨hc16,h⟩|⟨hc16,h⟩
    ·refine Qa hC [.br true,.n 7,.keep [4] []] rfl ⟨tt_,hc16⟩ ?_
     cases h
     exact AK.done (ex_ [_] (an_ (an_ rfl tt_) (gives tt_)))
    ·refine Qa hC [.br false,.n 14,.keep [2,9,10] [2]] rfl ⟨tt_,hc16⟩ ?_
     obtain⟨work21,hl25,h⟩:=Qb h
     refine AK.loop (body:=(fun st=>QdG n1 st.1 st.2)) (fun st σ=>σ=⟨[(2,.loc 2 0 0),(9,.i .i64 st.1),(10,.i .i64 st.2)],[(2,.var (Qd n1))]⟩) (fun q e σ=>e=.exit 0∧σ=⟨[(9,.i .i64 q)],[]⟩) hl25 rfl ?_ ?_
     ·rintro ⟨work17,k18⟩ o σ rfl h
      replace h:QdG n1 work17 k18=some o:=h
      unfold QdG at h
      refine Qa hC [.n 6,.o (.ln n1.Tasks.length),.n 3] rfl ⟨tt_,Qi⟩ ?_
      rcases bifE h with⟨hc22,h⟩|⟨hc22,h⟩
      ·obtain⟨e23,he23,h⟩:=Qb h
       obtain⟨x24,hx24,h⟩:=Qb h
       refine Qa hC [.br true,.n 9,.o (.row (Qg e23)),.v .no [] (.agg (Qg e23)),.n 2,.sayO 11 (.var (Qg e23)),.n 2,.keep [2,9,10,11] [2,11]] rfl ⟨⟨⟨⟨tt_,hc22⟩,(idxM he23)⟩,rfl⟩,rfl⟩ ?_
       refine AK.draw2 Qp hC mixed [.a .no none false,.a .no (some ([],.agg (Qd n1))) false,.a .no none false,.a (.c false [.d,.d] (.i .i64 x24)) none false,.a .no none false,.a .no none false,.a (.ln e23.Ins.length) none false,.a .no none false,.a .no none false,.a (.ln e23.Outs.length) none false,.a .no none false,.a .no none false,.a .no none false,.a .no none false,.m .s] [] [] [2,9,10] [2] rfl rfl rfl ⟨⟨⟨⟨tt_,rfl⟩,(QkZ _ _ hx24)⟩,Qi⟩,Qi⟩ rfl (by kernel_rfl) rfl rfl rfl ?_
       refine Qa hC [.n 7,.keep [2,9,10] [2]] rfl tt_ ?_
       cases h
       exact rndN rfl rfl
      ·refine Qa hC [.br false,.n 2,.keep [9] []] rfl ⟨tt_,hc22⟩ ?_
       cases h
       exact rndX rfl (an_ rfl rfl)
     ·replace h:Qjp work21=some r:=h
      unfold Qjp at h
      rintro e σ ⟨rfl,rfl⟩
      refine Qa hC [.n 10,.keep [4] []] rfl tt_ ?_
      cases h
      exact AK.done (ex_ [_] (an_ (an_ rfl tt_) (gives tt_)))
def QjJ (a1:Ql)(b2:Ql):Option Bool:=
 bif (a1.Task==b2.Task)then
 (QU a1.Vars b2.Vars).bind fun x7=>
 bif x7 then
 (QU a1.Ins b2.Ins).bind fun x9=>
 bif x9 then
 (QU a1.Outs b2.Outs).bind fun x11=>
 some x11
 else
 some false
 else
 some false
 else
 some false
def Qco (x4:Bool):Option Bool:=
 some x4
def QfE (a1:Ql)(b2:Ql):Option Bool:=
 (QjJ a1 b2).bind (fun x4=>Qco x4)
theorem QlQ (a1:Ql)(b2:Ql){r:Bool}(h:QfE a1 b2=some r):Qc Tryz.prog 16 [.agg (Qj a1),.agg (Qj b2)] [] (Qh (.b r) []):=by
 refine Qc.walk 31 Tryz.func16 rfl Tryz.ntmps16 rfl fun C hC=>?_
 unfold QfE at h
 refine Qa hC [.n 8] rfl tt_ ?_
 obtain⟨x4,hv5,h⟩:=Qb h
 replace h:Qco x4=some r:=h
 refine AK.meetX (fun σ=>σ=⟨[(4,.b x4)],[]⟩) ?_ ?_
 ·replace h:=hv5
  unfold QjJ at h
  refine Qa hC [.n 7] rfl tt_ ?_
  rcases bifE h with⟨hc6,h⟩|⟨hc6,h⟩
  ·obtain⟨x7,hx7,h⟩:=Qb h
   refine Qa hC [.say 10 (.b true),.n 4,.o (.c false [.d,.d] (.b x7)),.n 2] rfl ⟨⟨tt_,(congrArg V.b hc6)⟩,(Qct _ _ hx7)⟩ ?_
   rcases bifE h with⟨hc8,h⟩|⟨hc8,h⟩
   ·obtain⟨x9,hx9,h⟩:=Qb h
    refine Qa hC [.say 17 (.b true),.n 4,.o (.c false [.d,.d] (.b x9)),.n 2] rfl ⟨⟨tt_,(congrArg V.b hc8)⟩,(Qct _ _ hx9)⟩ ?_
    rcases bifE h with⟨hc10,h⟩|⟨hc10,h⟩
    ·obtain⟨x11,hx11,h⟩:=Qb h
     refine Qa hC [.say 24 (.b true),.n 4,.o (.c false [.d,.d] (.b x11)),.n 3,.keep [4] []] rfl ⟨⟨tt_,(congrArg V.b hc10)⟩,(Qct _ _ hx11)⟩ ?_
     cases h
     exact AK.met rfl
    ·refine Qa hC [.say 24 (.b false),.n 8,.keep [4] []] rfl ⟨tt_,(congrArg V.b hc10)⟩ ?_
     cases h
     exact AK.met rfl
   ·refine Qa hC [.say 17 (.b false),.n 15,.keep [4] []] rfl ⟨tt_,(congrArg V.b hc8)⟩ ?_
    cases h
    exact AK.met rfl
  ·refine Qa hC [.say 10 (.b false),.n 22,.keep [4] []] rfl ⟨tt_,(congrArg V.b hc6)⟩ ?_
   cases h
   exact AK.met rfl
 ·rintro σ rfl
  replace h:Qco x4=some r:=h
  unfold Qco at h
  refine Qa hC [.n 2,.keep [4] []] rfl tt_ ?_
  cases h
  exact AK.done (ex_ [_] (an_ (an_ rfl tt_) (gives tt_)))
def QgB (among15:Bool)(x13:(List Ql))(i16:Int)(o3:Ql):Option Bool:=
 bif among15 then
 some true
 else
 (idx x13 i16).bind fun e27=>
 (QfE e27 o3).bind fun x28=>
 some x28
def Qbk (i16:Int)(x13:(List Ql))(k29:Int):Option (Int⊕(Unit⊕Unit)):=
 bif (decide (k29<i16))then
 (idx x13 i16).bind fun e32=>
 (idx x13 k29).bind fun e33=>
 (QfE e32 e33).bind fun x34=>
 bif x34 then
 some (.inr (.inl ()))
 else
 some (.inl (w64 (k29+1)))
 else
 some (.inr (.inr ()))
def QgC : Option ((Bool×Int)⊕(Unit⊕Bool)):=
 some (.inr (.inl ()))
def QcG (among24:Bool)(i16:Int):Option ((Bool×Int)⊕(Unit⊕Bool)):=
 some (.inl (among24,(w64 (i16+1))))
def QcH (i16:Int)(x13:(List Ql))(among24:Bool):Option ((Bool×Int)⊕(Unit⊕Bool)):=
 (QG (fun st=>Qbk i16 x13 st) 0).bind (Sum.elim (fun q=>QgC) (fun q=>QcG among24 i16))
def Qbl (x13:(List Ql))(n1:TNet)(m2:(List (List (Int×Int))))(o3:Ql)(among15:Bool)(i16:Int):Option ((Bool×Int)⊕(Unit⊕Bool)):=
 bif (decide (i16<(x13.length:Int)))then
 (idx x13 i16).bind fun e21=>
 (Qa8 n1 m2 e21).bind fun x22=>
 bif (x22 != 0)then
 some (.inr (.inl ()))
 else
 (QgB among15 x13 i16 o3).bind (fun among24=>QcH i16 x13 among24)
 else
 some (.inr (.inr among15))
def QgD : Option Bool:=
 some false
def QgE (x6:Bool)(n1:TNet)(m2:(List (List (Int×Int))))(o3:Ql)(among19:Bool):Option Bool:=
 bif x6 then
 (Qa8 n1 m2 o3).bind fun x41=>
 some (among19==(x41==0))
 else
 some false
def QcI (x38:Bool):Option Bool:=
 some x38
def Qcp (x6:Bool)(n1:TNet)(m2:(List (List (Int×Int))))(o3:Ql)(among19:Bool):Option Bool:=
 (QgE x6 n1 m2 o3 among19).bind (fun x38=>QcI x38)
def QcN (n1:TNet)(m2:(List (List (Int×Int))))(o3:Ql):Option Bool:=
 (Qis).bind fun x6=>
 (QhD n1 m2).bind fun x7=>
 bif ((!x7)||((decide (20<(o3.Vars.length:Int)))||((decide (20<(o3.Ins.length:Int)))||(decide (20<(o3.Outs.length:Int))))))then
 some x6
 else
 (Qgx n1 m2 5000).bind fun x13=>
 bif (decide (400≤(x13.length:Int)))then
 some x6
 else
 (QG (fun st=>Qbl x13 n1 m2 o3 st.1 st.2) (false,0)).bind (Sum.elim (fun q=>QgD) (fun q=>Qcp x6 n1 m2 o3 q))
theorem Qmu (n1:TNet)(m2:(List (List (Int×Int))))(o3:Ql){r:Bool}(h:QcN n1 m2 o3=some r):Qc Tryz.prog 5 [.agg (Qd n1),.sl 1 (m2.map Qw),.agg (Qj o3)] [] (Qh (.b r) []):=by
 refine Qc.walk 92 Tryz.func5 rfl Tryz.ntmps5 rfl fun C hC=>?_
 unfold QcN at h
 obtain⟨x6,hx6,h⟩:=Qb h
 obtain⟨x7,hx7,h⟩:=Qb h
 refine Qa hC [.n 9,.o (.c false [] (.b x6)),.n 5,.v .no [] (.agg (Qd n1)),.n 1,.o (.c false [.d,.d] (.b x7)),.n 5] rfl ⟨⟨⟨tt_,(QoG  hx6)⟩,rfl⟩,(Qpx _ _ hx7)⟩ ?_
 refine AK.meetX (fun σ=>σ=⟨[(1,.sl 1 (m2.map Qw)),(3,.loc 3 0 0),(5,.loc 5 0 0),(7,.b x6),(36,.b ((!x7)||((decide (20<(o3.Vars.length:Int)))||((decide (20<(o3.Ins.length:Int)))||(decide (20<(o3.Outs.length:Int)))))))],[(3,.var (Qd n1)),(5,.var (Qj o3))]⟩) ?_ ?_
 ·refine Qa hC [.n 4] rfl tt_ ?_
  rcases QK (!x7)with hc9 | hc9
  ·refine Qa hC [.say 19 (.b true),.n 18,.say 36 (.b ((!x7)||((decide (20<(o3.Vars.length:Int)))||((decide (20<(o3.Ins.length:Int)))||(decide (20<(o3.Outs.length:Int))))))),.keep [1,3,5,7,36] [3,5]] rfl ⟨⟨tt_,(congrArg V.b hc9)⟩,(congrArg V.b (orT hc9 rfl))⟩ ?_
   exact AK.met rfl
  ·refine Qa hC [.say 19 (.b false),.n 2,.o (.ln o3.Vars.length),.n 3] rfl ⟨⟨tt_,(congrArg V.b hc9)⟩,Qi⟩ ?_
   rcases QK (decide (20<(o3.Vars.length:Int)))with hc10 | hc10
   ·refine Qa hC [.say 25 (.b true),.n 12,.say 36 (.b ((!x7)||((decide (20<(o3.Vars.length:Int)))||((decide (20<(o3.Ins.length:Int)))||(decide (20<(o3.Outs.length:Int))))))),.keep [1,3,5,7,36] [3,5]] rfl ⟨⟨tt_,(congrArg V.b hc10)⟩,(congrArg V.b (orF hc9 (orT hc10 rfl)))⟩ ?_
    exact AK.met rfl
   ·refine Qa hC [.say 25 (.b false),.n 2,.o (.ln o3.Ins.length),.n 3] rfl ⟨⟨tt_,(congrArg V.b hc10)⟩,Qi⟩ ?_
    rcases QK (decide (20<(o3.Ins.length:Int)))with hc11 | hc11
    ·refine Qa hC [.say 31 (.b true),.n 6,.say 36 (.b ((!x7)||((decide (20<(o3.Vars.length:Int)))||((decide (20<(o3.Ins.length:Int)))||(decide (20<(o3.Outs.length:Int))))))),.keep [1,3,5,7,36] [3,5]] rfl ⟨⟨tt_,(congrArg V.b hc11)⟩,(congrArg V.b (orF hc9 (orF hc10 (orT hc11 rfl))))⟩ ?_
     exact AK.met rfl
    ·refine Qa hC [.say 31 (.b false),.n 2,.o (.ln o3.Outs.length),.n 3,.say 36 (.b ((!x7)||((decide (20<(o3.Vars.length:Int)))||((decide (20<(o3.Ins.length:Int)))||(decide (20<(o3.Outs.length:Int))))))),.keep [1,3,5,7,36] [3,5]] rfl ⟨⟨⟨tt_,(congrArg V.b hc11)⟩,Qi⟩,(congrArg V.b (orF hc9 (orF hc10 (orF hc11 rfl))))⟩ ?_
     exact AK.met rfl
 ·rintro σ rfl
  refine Qa hC [.n 1] rfl tt_ ?_
  rcases bifE h with⟨hc12,h⟩|⟨hc12,h⟩
  ·refine Qa hC [.br true,.n 8,.keep [6] []] rfl ⟨tt_,hc12⟩ ?_
   cases h
   exact AK.done (ex_ [_] (an_ (an_ rfl tt_) (gives tt_)))
  ·obtain⟨x13,hx13,h⟩:=Qb h
   refine Qa hC [.br false,.n 4,.v .no [] (.agg (Qd n1)),.n 1,.o (.co false [.d,.d,.d] 4 (x13.map Qj) x13.length),.n 11] rfl ⟨⟨⟨tt_,hc12⟩,rfl⟩,⟨(QmF _ _ _ hx13),Qi,.inl rfl⟩⟩ ?_
   rcases bifE h with⟨hc14,h⟩|⟨hc14,h⟩
   ·refine Qa hC [.br true,.n 8,.keep [6] []] rfl ⟨tt_,hc14⟩ ?_
    cases h
    exact AK.done (ex_ [_] (an_ (an_ rfl tt_) (gives tt_)))
   ·refine Qa hC [.br false,.n 14,.keep [1,3,5,7,9,10,11] [3,5,40]] rfl ⟨tt_,hc14⟩ ?_
    obtain⟨o37,hl37,h⟩:=Qb h
    refine AK.loop (body:=(fun st=>Qbl x13 n1 m2 o3 st.1 st.2)) (fun st σ=>σ=⟨[(1,.sl 1 (m2.map Qw)),(3,.loc 3 0 0),(5,.loc 5 0 0),(7,.b x6),(9,.own 40 x13.length),(10,.b st.1),(11,.i .i64 st.2)],[(3,.var (Qd n1)),(5,.var (Qj o3)),(40,.arr 4 (x13.map Qj))]⟩) (Sum.elim (fun q e σ=>e=.ret∧σ=⟨[(6,.b false)],[]⟩) (fun q e σ=>e=.exit 0∧σ=⟨[(1,.sl 1 (m2.map Qw)),(3,.loc 3 0 0),(5,.loc 5 0 0),(7,.b x6),(10,.b q)],[(3,.var (Qd n1)),(5,.var (Qj o3))]⟩)) hl37 rfl ?_ ?_
    ·rintro ⟨among15,i16⟩ o σ rfl h
     replace h:Qbl x13 n1 m2 o3 among15 i16=some o:=h
     unfold Qbl at h
     refine Qa hC [.n 9] rfl tt_ ?_
     rcases bifE h with⟨hc20,h⟩|⟨hc20,h⟩
     ·obtain⟨e21,he21,h⟩:=Qb h
      obtain⟨x22,hx22,h⟩:=Qb h
      refine Qa hC [.br true,.n 6,.keep [1,3,5,7,9,10,11] [3,5,40]] rfl ⟨tt_,hc20⟩ ?_
      refine AK.draw2 Qp hC mixed [.a .no (some ([],.agg (Qd n1))) false,.a .no none false,.a .no none false,.a .no none false,.a .no none false,.a (.row (Qj e21)) (some ([],.agg (Qj e21))) false,.a (.c false [.d,.d,.d] (.i .i64 x22)) none false,.a .no none false] [] [] [1,3,5,7,9,10,11,58] [3,5,40] rfl rfl rfl ⟨⟨⟨⟨⟨tt_,rfl⟩,(QfJ he21 rfl)⟩,(Qdk (idxE he21).2)⟩,rfl⟩,(Qhi _ _ _ hx22)⟩ rfl (by kernel_rfl) rfl rfl rfl ?_
      refine Qa hC [.n 1] rfl tt_ ?_
      rcases bifE h with⟨hc23,h⟩|⟨hc23,h⟩
      ·refine Qa hC [.br true,.n 9,.keep [6] []] rfl ⟨tt_,hc23⟩ ?_
       cases h
       exact rndR rfl (an_ rfl rfl)
      ·refine Qa hC [.br false,.n 3] rfl ⟨tt_,hc23⟩ ?_
       obtain⟨among24,hv25,h⟩:=Qb h
       replace h:QcH i16 x13 among24=some o:=h
       refine AK.meetX (fun σ=>σ=⟨[(1,.sl 1 (m2.map Qw)),(3,.loc 3 0 0),(5,.loc 5 0 0),(7,.b x6),(9,.own 40 x13.length),(10,.b among24),(11,.i .i64 i16)],[(3,.var (Qd n1)),(5,.var (Qj o3)),(40,.arr 4 (x13.map Qj))]⟩) ?_ ?_
       ·replace h:=hv25
        unfold QgB at h
        refine Qa hC [.keep [1,3,5,7,9,10,11] [3,5,40]] rfl tt_ ?_
        rcases bifE h with⟨hc26,h⟩|⟨hc26,h⟩
        ·refine AK.draw2 Qp hC mixed [.a .no none false,.a .no (some ([],.b true)) false,.a .no none false,.a .no none false,.a .no none false,.a .no none false,.a .no none false,.a .no none false,.a .no none false,.m .s] [] [] [1,3,5,7,9,10,11] [3,5,40] rfl rfl rfl ⟨tt_,(congrArg V.b hc26)⟩ rfl (by kernel_rfl) rfl rfl rfl ?_
         refine Qa hC [.keep [1,3,5,7,9,10,11] [3,5,40]] rfl tt_ ?_
         cases h
         exact AK.met rfl
        ·obtain⟨e27,he27,h⟩:=Qb h
         obtain⟨x28,hx28,h⟩:=Qb h
         refine AK.draw2 Qp hC mixed [.a .no none false,.a .no (some ([],.b false)) false,.a .no none false,.a .no none false,.a .no none false,.a (.row (Qj e27)) (some ([],.agg (Qj e27))) false,.a .no (some ([],.agg (Qj o3))) false,.a (.c false [.d,.d] (.b x28)) none false,.a .no none false,.m .s] [] [] [1,3,5,7,9,10,11] [3,5,40] rfl rfl rfl ⟨⟨⟨⟨⟨⟨tt_,(congrArg V.b hc26)⟩,(QfJ he27 rfl)⟩,(Qdk (idxE he27).2)⟩,rfl⟩,rfl⟩,(QlQ _ _ hx28)⟩ rfl (by kernel_rfl) rfl rfl rfl ?_
         refine Qa hC [.keep [1,3,5,7,9,10,11] [3,5,40]] rfl tt_ ?_
         cases h
         exact AK.met rfl
       ·rintro σ rfl
        replace h:QcH i16 x13 among24=some o:=h
        unfold QcH at h
        refine Qa hC [.n 7,.keep [1,3,5,7,9,10,11,12] [3,5,40]] rfl tt_ ?_
        obtain⟨o36,hl36,h⟩:=Qb h
        refine AK.loop (body:=(fun st=>Qbk i16 x13 st)) (fun st σ=>σ=⟨[(1,.sl 1 (m2.map Qw)),(3,.loc 3 0 0),(5,.loc 5 0 0),(7,.b x6),(9,.own 40 x13.length),(10,.b among24),(11,.i .i64 i16),(12,.i .i64 st)],[(3,.var (Qd n1)),(5,.var (Qj o3)),(40,.arr 4 (x13.map Qj))]⟩) (Sum.elim (fun q e σ=>e=.ret∧σ=⟨[(6,.b false)],[]⟩) (fun q e σ=>e=.exit 2∧σ=⟨[(1,.sl 1 (m2.map Qw)),(3,.loc 3 0 0),(5,.loc 5 0 0),(7,.b x6),(9,.own 40 x13.length),(10,.b among24),(11,.i .i64 i16)],[(3,.var (Qd n1)),(5,.var (Qj o3)),(40,.arr 4 (x13.map Qj))]⟩)) hl36 rfl ?_ ?_
        ·rintro k29 o σ rfl h
         replace h:Qbk i16 x13 k29=some o:=h
         unfold Qbk at h
         refine Qa hC [.n 8] rfl tt_ ?_
         rcases bifE h with⟨hc31,h⟩|⟨hc31,h⟩
         ·obtain⟨e32,he32,h⟩:=Qb h
          obtain⟨e33,he33,h⟩:=Qb h
          obtain⟨x34,hx34,h⟩:=Qb h
          refine Qa hC [.br true,.n 5,.keep [1,3,5,7,9,10,11,12] [3,5,40]] rfl ⟨tt_,hc31⟩ ?_
          refine AK.draw2 Qp hC mixed [.a .no none false,.a .no none false,.a .no none false,.a (.row (Qj e32)) (some ([],.agg (Qj e32))) false,.a .no none false,.a .no none false,.a .no none false,.a (.row (Qj e33)) (some ([],.agg (Qj e33))) false,.a (.c false [.d,.d] (.b x34)) none false] [] [] [1,3,5,7,9,10,11,12,81] [3,5,40] rfl rfl rfl ⟨⟨⟨⟨⟨⟨⟨tt_,(QfJ he32 rfl)⟩,(Qdk (idxE he32).2)⟩,rfl⟩,(QfJ he33 rfl)⟩,(Qdk (idxE he33).2)⟩,rfl⟩,(QlQ _ _ hx34)⟩ rfl (by kernel_rfl) rfl rfl rfl ?_
          refine Qa hC [.n 1] rfl tt_ ?_
          rcases bifE h with⟨hc35,h⟩|⟨hc35,h⟩
          ·refine Qa hC [.br true,.n 8,.keep [6] []] rfl ⟨tt_,hc35⟩ ?_
           cases h
           exact rndR rfl (an_ rfl rfl)
          ·refine Qa hC [.br false,.n 8,.keep [1,3,5,7,9,10,11,12] [3,5,40]] rfl ⟨tt_,hc35⟩ ?_
           cases h
           exact rndN rfl rfl
         ·refine Qa hC [.br false,.n 2,.keep [1,3,5,7,9,10,11] [3,5,40]] rfl ⟨tt_,hc31⟩ ?_
          cases h
          exact rndX rfl (an_ rfl rfl)
        ·rcases o36 with(_ | _)
         ·replace h:QgC=some o:=h
          unfold QgC at h
          rintro e σ ⟨rfl,rfl⟩
          refine Qa hC [.n 3,.keep [6] []] rfl tt_ ?_
          cases h
          exact rndR rfl (an_ rfl rfl)
         ·replace h:QcG among24 i16=some o:=h
          unfold QcG at h
          rintro e σ ⟨rfl,rfl⟩
          refine Qa hC [.n 8,.keep [1,3,5,7,9,10,11] [3,5,40]] rfl tt_ ?_
          cases h
          exact rndN rfl rfl
     ·refine Qa hC [.br false,.n 2,.keep [1,3,5,7,10] [3,5]] rfl ⟨tt_,hc20⟩ ?_
      cases h
      exact rndX rfl (an_ rfl rfl)
    ·rcases o37 with(_ | among19)
     ·replace h:QgD=some r:=h
      unfold QgD at h
      rintro e σ ⟨rfl,rfl⟩
      refine Qa hC [.n 2,.keep [6] []] rfl tt_ ?_
      cases h
      exact AK.done (ex_ [_] (an_ (an_ rfl tt_) (gives tt_)))
     ·replace h:Qcp x6 n1 m2 o3 among19=some r:=h
      unfold Qcp at h
      rintro e σ ⟨rfl,rfl⟩
      refine Qa hC [.n 3] rfl tt_ ?_
      obtain⟨x38,hv39,h⟩:=Qb h
      replace h:QcI x38=some r:=h
      refine AK.meetX (fun σ=>σ=⟨[(6,.b x38)],[]⟩) ?_ ?_
      ·replace h:=hv39
       unfold QgE at h
       refine Qa hC [.n 3] rfl tt_ ?_
       rcases bifE h with⟨hc40,h⟩|⟨hc40,h⟩
       ·obtain⟨x41,hx41,h⟩:=Qb h
        refine Qa hC [.say 83 (.b true),.n 1,.v .no [] (.agg (Qd n1)),.n 1,.v .no [] (.agg (Qj o3)),.o (.c false [.d,.d,.d] (.i .i64 x41)),.n 5,.keep [6] []] rfl ⟨⟨⟨⟨tt_,(congrArg V.b hc40)⟩,rfl⟩,rfl⟩,(Qhi _ _ _ hx41)⟩ ?_
        cases h
        exact AK.met rfl
       ·refine Qa hC [.say 83 (.b false),.n 10,.keep [6] []] rfl ⟨tt_,(congrArg V.b hc40)⟩ ?_
        cases h
        exact AK.met rfl
      ·rintro σ rfl
       replace h:QcI x38=some r:=h
       unfold QcI at h
       refine Qa hC [.n 2,.keep [6] []] rfl tt_ ?_
       cases h
       exact AK.done (ex_ [_] (an_ (an_ rfl tt_) (gives tt_)))

end Go.Proofs
