/- What functions of the program do, as functions over plain data, and the walks that show it: printed by a program. -/
import Derived.Test.YtphohlpbjofddaaGreatDoorL4T2
set_option linter.unusedVariables false
set_option linter.unusedSimpArgs false
set_option linter.unusedSectionVars false
set_option linter.deprecated false
set_option maxRecDepth 100000
set_option maxHeartbeats 4000000
noncomputable section
namespace Go.Proofs
open Go Go.RowKit Go.Vm
def Qeq (v1:TNet)(v2:Qr)(v3:Int):Option (Bool×Int):=
 (Qhp v1 v2).bind fun x6=>
 some ((x6==0),x6)
theorem QpI (v1:TNet)(v2:Qr)(v3:Int){r:(Bool×Int)}(h:Qeq v1 v2 v3=some r):Qc Tryz.prog 215 [.loc 200000 0 0,.loc 200003 0 0] [(200000,.var [.clo (.func 173) [] [.loc 200001 0 0,.loc 200002 0 0]]),(200001,.var (Qd v1)),(200002,.var (Qi v2)),(200003,.var [.loc 200004 0 0]),(200004,.var (Qe v3))] (Gives (.b r.1) [(200000,.var [.clo (.func 173) [] [.loc 200001 0 0,.loc 200002 0 0]]),(200001,.var (Qd v1)),(200002,.var (Qi v2)),(200003,.var [.loc 200004 0 0]),(200004,.var (Qe r.2))]):=by
 refine Qc.walk 11 Tryz.func215 rfl Tryz.ntmps215 rfl fun C hC=>?_
 unfold Qeq at h
 obtain⟨x6,hx6,h⟩:=Qb h
 refine Qa hC [.n 6,.keep [0,1] [200000,200001,200002,200003,200004]] rfl tt_ ?_
 refine AK.draw2 Qo hC mixed [.a .no none false,.a .no none false,.a (.any (.i .i64 x6) none) none false,.a .no none false,.m .s] [] [] [1] [200000,200001,200002,200003,200004] rfl rfl rfl ⟨tt_,(fun σ h1 h2 _=>Stp.callSame (md:=.cm (.clo) [(200000,200001),(200001,200002)] [(200001,200000),(200002,200001)] [] [.d,.d] [(200000,.var (Qd v1)),(200001,.var (Qi v2))] (.i .i64 x6) [200001,200002]) Qo hC h1 h2 rfl ⟨⟨tt_,(Qqp _ _ hx6)⟩,⟨rfl,rfl,tt_⟩⟩)⟩ rfl (by kernel_rfl) rfl rfl rfl ?_
 refine Qa hC [.sayO 200004 (.var (Qe x6)),.n 11,.keep [2] [200000,200001,200002,200003,200004]] rfl ⟨tt_,rfl⟩ ?_
 cases h
 exact AK.done (ex_ [_] (an_ (an_ rfl tt_) (gives ⟨rfl,rfl,rfl,rfl,rfl,tt_⟩)))
def Qb6 (e7:Qr)(n1:TNet)(out8:Int)(x9:Int):Option ((Int×Int)⊕(Unit⊕Int)):=
 bif (decide (x9<(e7.Vars.length:Int)))then
 (idx e7.Vars x9).bind fun e14=>
 (QaG n1.Colours e14.Colour).bind fun x15=>
 bif (x15==0)then
 some (.inr (.inl ()))
 else
 some (.inl ((min2 (w64 (out8*x15)) 1025),(w64 (x9+1))))
 else
 some (.inr (.inr out8))
def QfN : Option Int:=
 some 0
def QfO (out12:Int):Option Int:=
 some out12
def Qca (n1:TNet)(k2:Int):Option Int:=
 (QaL n1.Tasks k2).bind fun x5=>
 bif (!x5)then
 some 0
 else
 (idx n1.Tasks k2).bind fun e7=>
 (QA (fun st=>Qb6 e7 n1 st.1 st.2) (1,0)).bind (Sum.elim (fun q=>QfN) (fun q=>QfO q))
theorem Qm3 (n1:TNet)(k2:Int){r:Int}(h:Qca n1 k2=some r):Qc Tryz.prog 54 [.agg (Qd n1),.i .i64 k2] [] (Gives (.i .i64 r) []):=by
 refine Qc.walk 38 Tryz.func54 rfl Tryz.ntmps54 rfl fun C hC=>?_
 unfold Qca at h
 obtain⟨x5,hx5,h⟩:=Qb h
 refine Qa hC [.n 12,.o (.c false [.d,.d] (.b x5)),.n 3] rfl ⟨tt_,(QiG _ _ hx5)⟩ ?_
 rcases bifE h with⟨hc6,h⟩|⟨hc6,h⟩
 ·refine Qa hC [.br true,.n 7,.keep [4] []] rfl ⟨tt_,hc6⟩ ?_
  cases h
  exact AK.done (ex_ [_] (an_ (an_ rfl tt_) (gives tt_)))
 ·obtain⟨e7,he7,h⟩:=Qb h
  refine Qa hC [.br false,.n 13,.o (.row (Qi e7)),.n 2,.o (.ln e7.Vars.length),.n 4,.keep [2,5,19,20,21] [2]] rfl ⟨⟨⟨tt_,hc6⟩,(idxM he7)⟩,Qf⟩ ?_
  obtain⟨o17,hl17,h⟩:=Qb h
  refine AK.loop (body:=(fun st=>Qb6 e7 n1 st.1 st.2)) (fun st σ=>σ=⟨[(2,.loc 2 0 0),(5,.i .i64 st.1),(19,.sl 2 (e7.Vars.map QE)),(20,.i .i64 (e7.Vars.length:Int)),(21,.i .i64 st.2)],[(2,.var (Qd n1))]⟩) (Sum.elim (fun q e σ=>e=.ret∧σ=⟨[(4,.i .i64 0)],[]⟩) (fun q e σ=>e=.exit 0∧σ=⟨[(5,.i .i64 q)],[]⟩)) hl17 rfl ?_ ?_
  ·rintro ⟨out8,x9⟩ o σ rfl h
   replace h:Qb6 e7 n1 out8 x9=some o:=h
   unfold Qb6 at h
   refine Qa hC [.n 6] rfl tt_ ?_
   rcases bifE h with⟨hc13,h⟩|⟨hc13,h⟩
   ·obtain⟨e14,he14,h⟩:=Qb h
    obtain⟨x15,hx15,h⟩:=Qb h
    refine Qa hC [.br true,.n 6,.o (.row (QE e14)),.v .no [] (.agg (QE e14)),.n 2,.sayO 7 (.var (QE e14)),.n 8,.o (.c false [.d,.d] (.i .i64 x15)),.n 10] rfl ⟨⟨⟨⟨⟨tt_,hc13⟩,(idxM he14)⟩,rfl⟩,rfl⟩,(QhR _ _ hx15)⟩ ?_
    rcases bifE h with⟨hc16,h⟩|⟨hc16,h⟩
    ·refine Qa hC [.br true,.n 9,.keep [4] []] rfl ⟨tt_,hc16⟩ ?_
     cases h
     exact rndR rfl (an_ rfl rfl)
    ·refine Qa hC [.br false,.n 15,.keep [2,5,19,20,21] [2]] rfl ⟨tt_,hc16⟩ ?_
     cases h
     exact rndN rfl rfl
   ·refine Qa hC [.br false,.n 2,.keep [5] []] rfl ⟨tt_,hc13⟩ ?_
    cases h
    exact rndX rfl (an_ rfl rfl)
  ·rcases o17 with(_ | out12)
   ·replace h:QfN=some r:=h
    unfold QfN at h
    rintro e σ ⟨rfl,rfl⟩
    refine Qa hC [.n 2,.keep [4] []] rfl tt_ ?_
    cases h
    exact AK.done (ex_ [_] (an_ (an_ rfl tt_) (gives tt_)))
   ·replace h:QfO out12=some r:=h
    unfold QfO at h
    rintro e σ ⟨rfl,rfl⟩
    refine Qa hC [.n 9,.keep [4] []] rfl tt_ ?_
    cases h
    exact AK.done (ex_ [_] (an_ (an_ rfl tt_) (gives tt_)))
def Qfj (v1:TNet)(v2:Int):Option Bool:=
 (Qca v1 v2).bind fun x4=>
 some (decide (x4≤1024))
theorem Qqq (v1:TNet)(v2:Int){r:Bool}(h:Qfj v1 v2=some r):Qc Tryz.prog 175 [.loc 200000 0 0,.loc 200001 0 0] [(200000,.var (Qd v1)),(200001,.var (Qe v2))] (Gives (.b r) [(200000,.var (Qd v1)),(200001,.var (Qe v2))]):=by
 refine Qc.walk 7 Tryz.func175 rfl Tryz.ntmps175 rfl fun C hC=>?_
 unfold Qfj at h
 obtain⟨x4,hx4,h⟩:=Qb h
 refine Qa hC [.n 7,.v .no [] (.agg (Qd v1)),.n 1,.o (.c false [.d,.d] (.i .i64 x4)),.n 5,.keep [2] [200000,200001]] rfl ⟨⟨tt_,rfl⟩,(Qm3 _ _ hx4)⟩ ?_
 cases h
 exact AK.done (ex_ [_] (an_ (an_ rfl tt_) (gives ⟨rfl,rfl,tt_⟩)))
def QjG (v1:Qr)(v2:Int):Option Bool:=
 (Qfu v1.Guard v2).bind fun x6=>
 bif x6 then
 bif (decide (0<(v1.Ins.length:Int)))then
 some (decide (0<(v1.Outs.length:Int)))
 else
 some false
 else
 some false
def QeP (x4:Bool):Option Bool:=
 some x4
def Qhq (v1:Qr)(v2:Int):Option Bool:=
 (QjG v1 v2).bind (fun x4=>QeP x4)
theorem Qqr (v1:Qr)(v2:Int){r:Bool}(h:Qhq v1 v2=some r):Qc Tryz.prog 176 [.loc 200000 0 0,.loc 200001 0 0] [(200000,.var (Qi v1)),(200001,.var (Qe v2))] (Gives (.b r) [(200000,.var (Qi v1)),(200001,.var (Qe v2))]):=by
 refine Qc.walk 19 Tryz.func176 rfl Tryz.ntmps176 rfl fun C hC=>?_
 unfold Qhq at h
 refine Qa hC [.n 6] rfl tt_ ?_
 obtain⟨x4,hv5,h⟩:=Qb h
 replace h:QeP x4=some r:=h
 refine AK.meetX (fun σ=>σ=⟨[(2,.b x4)],[(200000,.var (Qi v1)),(200001,.var (Qe v2))]⟩) ?_ ?_
 ·replace h:=hv5
  unfold QjG at h
  obtain⟨x6,hx6,h⟩:=Qb h
  refine Qa hC [.n 2,.v .no [] (.agg (Qm v1.Guard)),.n 1,.o (.c false [.d,.d] (.b x6)),.n 1] rfl ⟨⟨tt_,rfl⟩,(QkU _ _ hx6)⟩ ?_
  rcases bifE h with⟨hc7,h⟩|⟨hc7,h⟩
  ·refine Qa hC [.say 7 (.b true),.n 2,.o (.ln v1.Ins.length),.n 3] rfl ⟨⟨tt_,(congrArg V.b hc7)⟩,Qf⟩ ?_
   rcases bifE h with⟨hc8,h⟩|⟨hc8,h⟩
   ·refine Qa hC [.say 13 (.b true),.n 2,.o (.ln v1.Outs.length),.n 4,.keep [2] [200000,200001]] rfl ⟨⟨tt_,(congrArg V.b hc8)⟩,Qf⟩ ?_
    cases h
    exact AK.met rfl
   ·refine Qa hC [.say 13 (.b false),.n 7,.keep [2] [200000,200001]] rfl ⟨tt_,(congrArg V.b hc8)⟩ ?_
    cases h
    exact AK.met rfl
  ·refine Qa hC [.say 7 (.b false),.n 13,.keep [2] [200000,200001]] rfl ⟨tt_,(congrArg V.b hc7)⟩ ?_
   cases h
   exact AK.met rfl
 ·rintro σ rfl
  replace h:QeP x4=some r:=h
  unfold QeP at h
  refine Qa hC [.n 2,.keep [2] [200000,200001]] rfl tt_ ?_
  cases h
  exact AK.done (ex_ [_] (an_ (an_ rfl tt_) (gives ⟨rfl,rfl,tt_⟩)))
def QfP (v1:TNet)(v2:TArc):Option Bool:=
 (Qak v1.Places v2.Place).bind fun x4=>
 some x4
theorem Qo2 (v1:TNet)(v2:TArc){r:Bool}(h:QfP v1 v2=some r):Qc Tryz.prog 225 [.loc 200000 0 0,.loc 200001 0 0] [(200000,.var (Qd v1)),(200001,.var (QG v2))] (Gives (.b r) [(200000,.var (Qd v1)),(200001,.var (QG v2))]):=by
 refine Qc.walk 8 Tryz.func225 rfl Tryz.ntmps225 rfl fun C hC=>?_
 unfold QfP at h
 obtain⟨x4,hx4,h⟩:=Qb h
 refine Qa hC [.n 11,.o (.c false [.d,.d] (.b x4)),.n 4,.keep [2] [200000,200001]] rfl ⟨tt_,(QbF _ _ hx4)⟩ ?_
 cases h
 exact AK.done (ex_ [_] (an_ (an_ rfl tt_) (gives ⟨rfl,rfl,tt_⟩)))
def QfQ (v1:TArc)(v2:Int):Option Bool:=
 (Qfu v1.Expr v2).bind fun x4=>
 some x4
theorem Qo3 (v1:TArc)(v2:Int){r:Bool}(h:QfQ v1 v2=some r):Qc Tryz.prog 226 [.loc 200000 0 0,.loc 200001 0 0] [(200000,.var (QG v1)),(200001,.var (Qe v2))] (Gives (.b r) [(200000,.var (QG v1)),(200001,.var (Qe v2))]):=by
 refine Qc.walk 7 Tryz.func226 rfl Tryz.ntmps226 rfl fun C hC=>?_
 unfold QfQ at h
 obtain⟨x4,hx4,h⟩:=Qb h
 refine Qa hC [.n 8,.v .no [] (.agg (Qm v1.Expr)),.n 1,.o (.c false [.d,.d] (.b x4)),.n 4,.keep [2] [200000,200001]] rfl ⟨⟨tt_,rfl⟩,(QkU _ _ hx4)⟩ ?_
 cases h
 exact AK.done (ex_ [_] (an_ (an_ rfl tt_) (gives ⟨rfl,rfl,tt_⟩)))
def QfR (v1:TNet)(v2:TArc)(v3:Int)(v4:Int)(v5:Int):Option Int:=
 (QfP v1 v2).bind fun x8=>
 bif (!x8)then
 some v3
 else
 (QfQ v2 v4).bind fun x10=>
 bif (!x10)then
 some v5
 else
 some 0
theorem Qo4 (v1:TNet)(v2:TArc)(v3:Int)(v4:Int)(v5:Int){r:Int}(h:QfR v1 v2 v3 v4 v5=some r):Qc Tryz.prog 98 [.own 200000 2] [(200000,.var [.clo (.func 225) [] [.loc 200001 0 0,.loc 200002 0 0],.i .i64 v3,.clo (.func 226) [] [.loc 200002 0 0,.loc 200003 0 0],.i .i64 v5]),(200001,.var (Qd v1)),(200002,.var (QG v2)),(200003,.var (Qe v4))] (Gives (.i .i64 r) [(200000,.var [.clo (.func 225) [] [.loc 200001 0 0,.loc 200002 0 0],.i .i64 v3,.clo (.func 226) [] [.loc 200002 0 0,.loc 200003 0 0],.i .i64 v5]),(200001,.var (Qd v1)),(200002,.var (QG v2)),(200003,.var (Qe v4))]):=by
 refine Qc.walk 18 Tryz.func98 rfl Tryz.ntmps98 rfl fun C hC=>?_
 unfold QfR at h
 refine Qa hC [.n 14] rfl tt_ ?_
 refine AK.loopN 3 (AK.rnd ?_)
 obtain⟨x8,hx8,h⟩:=Qb h
 refine Qa hC [.n 2,.v .no [] (.b true),.n 10,.o (.any (.loc 200000 0 0) none),.n 3,.sayO 4 (.var [.clo (.func 225) [] [.loc 200001 0 0,.loc 200002 0 0],.i .i64 v3]),.n 6,.cm (.clo) [(200000,200001),(200001,200002)] [(200001,200000),(200002,200001)] [] [.d,.d] [(200000,.var (Qd v1)),(200001,.var (QG v2))] (.b x8),.n 3] rfl ⟨⟨⟨⟨tt_,rfl⟩,(fun σ h1 h2 _=>Stp.idxV rfl rfl (bleN hC.n rfl) (h1 _ _ rfl) (h1 _ _ rfl) (Qo.es rfl) (h2 _ _ rfl) (by decide))⟩,rfl⟩,(Qo2 _ _ hx8)⟩ ?_
 rcases bifE h with⟨hc9,h⟩|⟨hc9,h⟩
 ·refine Qa hC [.br true,.n 13,.keep [2] [200000,200001,200002,200003]] rfl ⟨tt_,hc9⟩ ?_
  cases h
  exact AK.done (ex_ [_] (an_ (an_ rfl tt_) (gives ⟨rfl,rfl,rfl,rfl,tt_⟩)))
 ·refine Qa hC [.br false,.n 4,.v .no [] (.i .i64 1),.n 2] rfl ⟨⟨tt_,hc9⟩,rfl⟩ ?_
  refine AK.met (AK.rnd ?_)
  obtain⟨x10,hx10,h⟩:=Qb h
  refine Qa hC [.n 2,.v .no [] (.b true),.n 10,.o (.any (.loc 200000 0 2) none),.n 1,.kill 4,.n 2,.sayO 4 (.var [.clo (.func 226) [] [.loc 200002 0 0,.loc 200003 0 0],.i .i64 v5]),.n 6,.cm (.clo) [(200000,200002),(200001,200003)] [(200002,200000),(200003,200001)] [] [.d,.d] [(200000,.var (QG v2)),(200001,.var (Qe v4))] (.b x10),.n 3] rfl ⟨⟨⟨⟨tt_,rfl⟩,(fun σ h1 h2 _=>Stp.idxV rfl rfl (bleN hC.n rfl) (h1 _ _ rfl) (h1 _ _ rfl) (Qo.es rfl) (h2 _ _ rfl) (by decide))⟩,rfl⟩,(Qo3 _ _ hx10)⟩ ?_
  rcases bifE h with⟨hc11,h⟩|⟨hc11,h⟩
  ·refine Qa hC [.br true,.n 13,.keep [2] [200000,200001,200002,200003]] rfl ⟨tt_,hc11⟩ ?_
   cases h
   exact AK.done (ex_ [_] (an_ (an_ rfl tt_) (gives ⟨rfl,rfl,rfl,rfl,tt_⟩)))
  ·refine Qa hC [.br false,.n 4,.v .no [] (.i .i64 2),.n 2] rfl ⟨⟨tt_,hc11⟩,rfl⟩ ?_
   refine AK.met (AK.rnd ?_)
   refine Qa hC [.n 2,.v .no [] (.b false),.n 15,.keep [2] [200000,200001,200002,200003]] rfl ⟨tt_,rfl⟩ ?_
   cases h
   exact AK.done (ex_ [_] (an_ (an_ rfl tt_) (gives ⟨rfl,rfl,rfl,rfl,tt_⟩)))
def Qhr (p1:Int)(a2:TArc)(v3:TNet)(v4:Int):Option Int:=
 (QfR v3 a2 3 v4 1).bind fun x6=>
 some x6
theorem Qqs (p1:Int)(a2:TArc)(v3:TNet)(v4:Int){r:Int}(h:Qhr p1 a2 v3 v4=some r):Qc Tryz.prog 224 [.i .i64 p1,.agg (QG a2),.loc 200000 0 0,.loc 200001 0 0] [(200000,.var (Qd v3)),(200001,.var (Qe v4))] (Gives (.i .i64 r) [(200000,.var (Qd v3)),(200001,.var (Qe v4))]):=by
 refine Qc.walk 13 Tryz.func224 rfl Tryz.ntmps224 rfl fun C hC=>?_
 unfold Qhr at h
 obtain⟨x6,hx6,h⟩:=Qb h
 refine Qa hC [.n 9,.v .no [] (.agg [.clo (.func 225) [] [.loc 200000 0 0,.loc 5 0 0],.i .i64 3]),.n 1,.v .no [] (.agg [.clo (.func 226) [] [.loc 5 0 0,.loc 200001 0 0],.i .i64 1]),.o (.any (.own 11 2) (some (.var [.clo (.func 225) [] [.loc 200000 0 0,.loc 5 0 0],.i .i64 3,.clo (.func 226) [] [.loc 5 0 0,.loc 200001 0 0],.i .i64 1]))),.cm (.fn) [(200000,11),(200001,200000),(200002,5),(200003,200001)] [(11,200000),(200000,200001),(5,200002),(200001,200003)] [] [.d] [(200000,.var [.clo (.func 225) [] [.loc 200001 0 0,.loc 200002 0 0],.i .i64 3,.clo (.func 226) [] [.loc 200002 0 0,.loc 200003 0 0],.i .i64 1]),(200001,.var (Qd v3)),(200002,.var (QG a2)),(200003,.var (Qe v4))] (.i .i64 x6),.n 4,.keep [6] [200000,200001]] rfl ⟨⟨⟨⟨tt_,rfl⟩,rfl⟩,(fun σ h1 h2 hf=>Stp.buildAny rfl rfl (bleN hC.n rfl) (Qo.es rfl) QlQ rfl (by decide) (by decide) (Qfm h1 rfl) rfl rfl (hf rfl))⟩,(Qo4 _ _ _ _ _ hx6)⟩ ?_
 cases h
 exact AK.done (ex_ [_] (an_ (an_ rfl tt_) (gives ⟨rfl,rfl,tt_⟩)))
def Qbx (l1:(List TArc))(v2:TNet)(v3:Int)(x8:Int):Option (Int⊕((Int×Int)⊕Unit)):=
 bif (decide (x8<(l1.length:Int)))then
 (idx l1 x8).bind fun e13=>
 (Qhr x8 e13 v2 v3).bind fun x14=>
 bif (x14 != 0)then
 some (.inr (.inl (x8,x14)))
 else
 some (.inl (w64 (x8+1)))
 else
 some (.inr (.inr ()))
def Qck (x10:Int)(x11:Int):Option (Int×Int):=
 some (x10,x11)
def Qcl : Option (Int×Int):=
 some (0,0)
def Qdn (l1:(List TArc))(v2:TNet)(v3:Int):Option (Int×Int):=
 (QA (fun st=>Qbx l1 v2 v3 st) 0).bind (Sum.elim (fun q=>Qck q.1 q.2) (fun q=>Qcl))
theorem Qng (l1:(List TArc))(v2:TNet)(v3:Int){r:(Int×Int)}(h:Qdn l1 v2 v3=some r):Qc Tryz.prog 223 [.sl 4 (l1.map QG),.clo (.func 224) [] [.loc 200000 0 0,.loc 200001 0 0]] [(200000,.var (Qd v2)),(200001,.var (Qe v3))] (Gives (.tup [.i .i64 r.1,.i .i64 r.2]) [(200000,.var (Qd v2)),(200001,.var (Qe v3))]):=by
 refine Qc.walk 25 Tryz.func223 rfl Tryz.ntmps223 rfl fun C hC=>?_
 unfold Qdn at h
 refine Qa hC [.n 10,.o (.ln l1.length),.n 4,.keep [1,9,10,11] [200000,200001]] rfl ⟨tt_,Qf⟩ ?_
 obtain⟨o16,hl16,h⟩:=Qb h
 refine AK.loop (body:=(fun st=>Qbx l1 v2 v3 st)) (fun st σ=>σ=⟨[(1,.clo (.func 224) [] [.loc 200000 0 0,.loc 200001 0 0]),(9,.sl 4 (l1.map QG)),(10,.i .i64 (l1.length:Int)),(11,.i .i64 st)],[(200000,.var (Qd v2)),(200001,.var (Qe v3))]⟩) (Sum.elim (fun q e σ=>e=.ret∧σ=⟨[(4,.i .i64 q.1),(5,.i .i64 q.2)],[(200000,.var (Qd v2)),(200001,.var (Qe v3))]⟩) (fun q e σ=>e=.exit 0∧σ=⟨[],[(200000,.var (Qd v2)),(200001,.var (Qe v3))]⟩)) hl16 rfl ?_ ?_
 ·rintro x8 o σ rfl h
  replace h:Qbx l1 v2 v3 x8=some o:=h
  unfold Qbx at h
  refine Qa hC [.n 6] rfl tt_ ?_
  rcases bifE h with⟨hc12,h⟩|⟨hc12,h⟩
  ·obtain⟨e13,he13,h⟩:=Qb h
   obtain⟨x14,hx14,h⟩:=Qb h
   refine Qa hC [.br true,.n 7,.o (.row (QG e13)),.v .no [] (.agg (QG e13)),.n 3,.sayO 7 (.var (QG e13)),.n 6,.v .no [] (.agg (QG e13)),.cm (.clo) [(200000,200000),(200001,200001)] [(200000,200000),(200001,200001)] [] [.d,.d,.d,.d] [(200000,.var (Qd v2)),(200001,.var (Qe v3))] (.i .i64 x14),.n 9] rfl ⟨⟨⟨⟨⟨⟨tt_,hc12⟩,(idxM he13)⟩,rfl⟩,rfl⟩,rfl⟩,(Qqs _ _ _ _ hx14)⟩ ?_
   rcases bifE h with⟨hc15,h⟩|⟨hc15,h⟩
   ·refine Qa hC [.br true,.n 11,.keep [4,5] [200000,200001]] rfl ⟨tt_,hc15⟩ ?_
    cases h
    exact rndR rfl (an_ rfl rfl)
   ·refine Qa hC [.br false,.n 7,.keep [1,9,10,11] [200000,200001]] rfl ⟨tt_,hc15⟩ ?_
    cases h
    exact rndN rfl rfl
  ·refine Qa hC [.br false,.n 2,.keep [] [200000,200001]] rfl ⟨tt_,hc12⟩ ?_
   cases h
   exact rndX rfl (an_ rfl rfl)
 ·rcases o16 with(⟨x10,x11⟩|_)
  ·replace h:Qck x10 x11=some r:=h
   unfold Qck at h
   rintro e σ ⟨rfl,rfl⟩
   refine Qa hC [.n 2,.keep [4,5] [200000,200001]] rfl tt_ ?_
   cases h
   exact AK.done (ex_ [_,_] (an_ (an_ rfl (an_ rfl tt_)) (gives ⟨rfl,rfl,tt_⟩)))
  ·replace h:Qcl=some r:=h
   unfold Qcl at h
   rintro e σ ⟨rfl,rfl⟩
   refine Qa hC [.n 9,.keep [4,5] [200000,200001]] rfl tt_ ?_
   cases h
   exact AK.done (ex_ [_,_] (an_ (an_ rfl (an_ rfl tt_)) (gives ⟨rfl,rfl,tt_⟩)))
def Qhs (n1:TNet)(l2:(List TArc))(vars3:Int):Option Int:=
 (Qdn l2 n1 vars3).bind fun x5=>
 some x5.2
theorem Qnx (n1:TNet)(l2:(List TArc))(vars3:Int){r:Int}(h:Qhs n1 l2 vars3=some r):Qc Tryz.prog 178 [.agg (Qd n1),.sl 4 (l2.map QG),.i .i64 vars3] [] (Gives (.i .i64 r) []):=by
 refine Qc.walk 16 Tryz.func178 rfl Tryz.ntmps178 rfl fun C hC=>?_
 unfold Qhs at h
 obtain⟨x5,hx5,h⟩:=Qb h
 refine Qa hC [.n 11,.cm (.fn) [(200000,3),(200001,5)] [(3,200000),(5,200001)] [] [.d,.d] [(200000,.var (Qd n1)),(200001,.var (Qe vars3))] (.tup [.i .i64 x5.1,.i .i64 x5.2]),.n 14,.keep [6] []] rfl ⟨tt_,(Qng _ _ _ hx5)⟩ ?_
 cases h
 exact AK.done (ex_ [_] (an_ (an_ rfl tt_) (gives tt_)))
def Qht (v1:TNet)(v2:Qr)(v3:Int):Option Int:=
 (Qhs v1 v2.Ins v3).bind fun x5=>
 some x5
theorem Qqt (v1:TNet)(v2:Qr)(v3:Int){r:Int}(h:Qht v1 v2 v3=some r):Qc Tryz.prog 177 [.loc 200000 0 0,.loc 200001 0 0,.loc 200002 0 0] [(200000,.var (Qd v1)),(200001,.var (Qi v2)),(200002,.var (Qe v3))] (Gives (.i .i64 r) [(200000,.var (Qd v1)),(200001,.var (Qi v2)),(200002,.var (Qe v3))]):=by
 refine Qc.walk 9 Tryz.func177 rfl Tryz.ntmps177 rfl fun C hC=>?_
 unfold Qht at h
 obtain⟨x5,hx5,h⟩:=Qb h
 refine Qa hC [.n 7,.v .no [] (.agg (Qd v1)),.n 3,.o (.c false [.d,.d,.d] (.i .i64 x5)),.n 4,.keep [3] [200000,200001,200002]] rfl ⟨⟨tt_,rfl⟩,(Qnx _ _ _ hx5)⟩ ?_
 cases h
 exact AK.done (ex_ [_] (an_ (an_ rfl tt_) (gives ⟨rfl,rfl,rfl,tt_⟩)))
def Qec (v1:TNet)(v2:Qr)(v3:Int)(v4:Int):Option (Bool×Int):=
 (Qht v1 v2 v3).bind fun x7=>
 some ((x7==0),x7)
theorem QnZ (v1:TNet)(v2:Qr)(v3:Int)(v4:Int){r:(Bool×Int)}(h:Qec v1 v2 v3 v4=some r):Qc Tryz.prog 215 [.loc 200000 0 0,.loc 200004 0 0] [(200000,.var [.clo (.func 177) [] [.loc 200001 0 0,.loc 200002 0 0,.loc 200003 0 0]]),(200001,.var (Qd v1)),(200002,.var (Qi v2)),(200003,.var (Qe v3)),(200004,.var [.loc 200005 0 0]),(200005,.var (Qe v4))] (Gives (.b r.1) [(200000,.var [.clo (.func 177) [] [.loc 200001 0 0,.loc 200002 0 0,.loc 200003 0 0]]),(200001,.var (Qd v1)),(200002,.var (Qi v2)),(200003,.var (Qe v3)),(200004,.var [.loc 200005 0 0]),(200005,.var (Qe r.2))]):=by
 refine Qc.walk 11 Tryz.func215 rfl Tryz.ntmps215 rfl fun C hC=>?_
 unfold Qec at h
 obtain⟨x7,hx7,h⟩:=Qb h
 refine Qa hC [.n 6,.keep [0,1] [200000,200001,200002,200003,200004,200005]] rfl tt_ ?_
 refine AK.draw2 Qo hC mixed [.a .no none false,.a .no none false,.a (.any (.i .i64 x7) none) none false,.a .no none false,.m .s] [] [] [1] [200000,200001,200002,200003,200004,200005] rfl rfl rfl ⟨tt_,(fun σ h1 h2 _=>Stp.callSame (md:=.cm (.clo) [(200000,200001),(200001,200002),(200002,200003)] [(200001,200000),(200002,200001),(200003,200002)] [] [.d,.d,.d] [(200000,.var (Qd v1)),(200001,.var (Qi v2)),(200002,.var (Qe v3))] (.i .i64 x7) [200001,200002,200003]) Qo hC h1 h2 rfl ⟨⟨tt_,(Qqt _ _ _ hx7)⟩,⟨rfl,rfl,rfl,tt_⟩⟩)⟩ rfl (by kernel_rfl) rfl rfl rfl ?_
 refine Qa hC [.sayO 200005 (.var (Qe x7)),.n 11,.keep [2] [200000,200001,200002,200003,200004,200005]] rfl ⟨tt_,rfl⟩ ?_
 cases h
 exact AK.done (ex_ [_] (an_ (an_ rfl tt_) (gives ⟨rfl,rfl,rfl,rfl,rfl,rfl,tt_⟩)))
def Qhu (v1:TNet)(v2:Qr)(v3:Int):Option Int:=
 (Qhs v1 v2.Outs v3).bind fun x5=>
 some x5
theorem Qqu (v1:TNet)(v2:Qr)(v3:Int){r:Int}(h:Qhu v1 v2 v3=some r):Qc Tryz.prog 179 [.loc 200000 0 0,.loc 200001 0 0,.loc 200002 0 0] [(200000,.var (Qd v1)),(200001,.var (Qi v2)),(200002,.var (Qe v3))] (Gives (.i .i64 r) [(200000,.var (Qd v1)),(200001,.var (Qi v2)),(200002,.var (Qe v3))]):=by
 refine Qc.walk 9 Tryz.func179 rfl Tryz.ntmps179 rfl fun C hC=>?_
 unfold Qhu at h
 obtain⟨x5,hx5,h⟩:=Qb h
 refine Qa hC [.n 7,.v .no [] (.agg (Qd v1)),.n 3,.o (.c false [.d,.d,.d] (.i .i64 x5)),.n 4,.keep [3] [200000,200001,200002]] rfl ⟨⟨tt_,rfl⟩,(Qnx _ _ _ hx5)⟩ ?_
 cases h
 exact AK.done (ex_ [_] (an_ (an_ rfl tt_) (gives ⟨rfl,rfl,rfl,tt_⟩)))
def Qed (v1:TNet)(v2:Qr)(v3:Int)(v4:Int):Option (Bool×Int):=
 (Qhu v1 v2 v3).bind fun x7=>
 some ((x7==0),x7)
theorem Qn0 (v1:TNet)(v2:Qr)(v3:Int)(v4:Int){r:(Bool×Int)}(h:Qed v1 v2 v3 v4=some r):Qc Tryz.prog 215 [.loc 200000 0 0,.loc 200004 0 0] [(200000,.var [.clo (.func 179) [] [.loc 200001 0 0,.loc 200002 0 0,.loc 200003 0 0]]),(200001,.var (Qd v1)),(200002,.var (Qi v2)),(200003,.var (Qe v3)),(200004,.var [.loc 200005 0 0]),(200005,.var (Qe v4))] (Gives (.b r.1) [(200000,.var [.clo (.func 179) [] [.loc 200001 0 0,.loc 200002 0 0,.loc 200003 0 0]]),(200001,.var (Qd v1)),(200002,.var (Qi v2)),(200003,.var (Qe v3)),(200004,.var [.loc 200005 0 0]),(200005,.var (Qe r.2))]):=by
 refine Qc.walk 11 Tryz.func215 rfl Tryz.ntmps215 rfl fun C hC=>?_
 unfold Qed at h
 obtain⟨x7,hx7,h⟩:=Qb h
 refine Qa hC [.n 6,.keep [0,1] [200000,200001,200002,200003,200004,200005]] rfl tt_ ?_
 refine AK.draw2 Qo hC mixed [.a .no none false,.a .no none false,.a (.any (.i .i64 x7) none) none false,.a .no none false,.m .s] [] [] [1] [200000,200001,200002,200003,200004,200005] rfl rfl rfl ⟨tt_,(fun σ h1 h2 _=>Stp.callSame (md:=.cm (.clo) [(200000,200001),(200001,200002),(200002,200003)] [(200001,200000),(200002,200001),(200003,200002)] [] [.d,.d,.d] [(200000,.var (Qd v1)),(200001,.var (Qi v2)),(200002,.var (Qe v3))] (.i .i64 x7) [200001,200002,200003]) Qo hC h1 h2 rfl ⟨⟨tt_,(Qqu _ _ _ hx7)⟩,⟨rfl,rfl,rfl,tt_⟩⟩)⟩ rfl (by kernel_rfl) rfl rfl rfl ?_
 refine Qa hC [.sayO 200005 (.var (Qe x7)),.n 11,.keep [2] [200000,200001,200002,200003,200004,200005]] rfl ⟨tt_,rfl⟩ ?_
 cases h
 exact AK.done (ex_ [_] (an_ (an_ rfl tt_) (gives ⟨rfl,rfl,rfl,rfl,rfl,rfl,tt_⟩)))
def QdL (v1:TNet)(v2:Int):Option Bool:=
 (Qak v1.Places v2).bind fun x4=>
 some x4
theorem QnN (v1:TNet)(v2:Int){r:Bool}(h:QdL v1 v2=some r):Qc Tryz.prog 229 [.loc 200000 0 0,.loc 200001 0 0] [(200000,.var (Qd v1)),(200001,.var (Qe v2))] (Gives (.b r) [(200000,.var (Qd v1)),(200001,.var (Qe v2))]):=by
 refine Qc.walk 7 Tryz.func229 rfl Tryz.ntmps229 rfl fun C hC=>?_
 unfold QdL at h
 obtain⟨x4,hx4,h⟩:=Qb h
 refine Qa hC [.n 10,.o (.c false [.d,.d] (.b x4)),.n 4,.keep [2] [200000,200001]] rfl ⟨tt_,(QbF _ _ hx4)⟩ ?_
 cases h
 exact AK.done (ex_ [_] (an_ (an_ rfl tt_) (gives ⟨rfl,rfl,tt_⟩)))
def QdM (v1:(List Int))(v2:Int)(v3:Int):Option Bool:=
 (chk (decide (0≤v2)&&decide (0≤v2.toNat)&&decide (v2.toNat≤v1.length))).bind fun _=>
 (QaJ ((v1.drop 0).take (v2.toNat-0)) v3).bind fun x6=>
 some (!x6)
theorem QnO (v1:(List Int))(v2:Int)(v3:Int){r:Bool}(h:QdM v1 v2 v3=some r):Qc Tryz.prog 230 [.loc 200000 0 0,.loc 200001 0 0,.loc 200002 0 0] [(200000,.var (Qz v1)),(200001,.var (Qe v2)),(200002,.var (Qe v3))] (Gives (.b r) [(200000,.var (Qz v1)),(200001,.var (Qe v2)),(200002,.var (Qe v3))]):=by
 refine Qc.walk 10 Tryz.func230 rfl Tryz.ntmps230 rfl fun C hC=>?_
 unfold QdM at h
 obtain⟨_,hk5,h⟩:=Qb h
 replace hk5:=chkE hk5
 obtain⟨x6,hx6,h⟩:=Qb h
 refine Qa hC [.n 6,.keep [0,1,2,3] [200000,200001,200002]] rfl tt_ ?_
 refine AK.draw2 Qo hC mixed [.a .no none false,.a .no none false,.a (.any (.sl 1 (((v1.drop 0).take (v2.toNat-0)).map Qe)) none) none false,.a .no none false,.a (.c false [.d,.d] (.b x6)) none false,.a .no none false,.m .s] [] [] [3] [200000,200001,200002] rfl rfl rfl ⟨⟨tt_,(fun σ h1 h2 _=>Stp.sliceD rfl rfl (bleN hC.n rfl) (h1 _ _ rfl) (Qo.es rfl) Bnd.no (Bnd.val (h1 _ _ rfl) (of_decide_eq_true (Qpo hk5)) rfl) (of_decide_eq_true (Qpp hk5)) (Nat.le_trans (of_decide_eq_true (Qpq hk5)) (Nat.le_of_eq Qf.symm)) QrF)⟩,(Qhg _ _ hx6)⟩ rfl (by kernel_rfl) rfl rfl rfl ?_
 refine Qa hC [.n 2,.keep [3] [200000,200001,200002]] rfl tt_ ?_
 cases h
 exact AK.done (ex_ [_] (an_ (an_ rfl tt_) (gives ⟨rfl,rfl,rfl,tt_⟩)))
def QfS (v1:TNet)(v2:Int)(v3:Int)(v4:(List Int))(v5:Int)(v6:Int):Option Int:=
 (QdL v1 v2).bind fun x9=>
 bif (!x9)then
 some v3
 else
 (QdM v4 v5 v2).bind fun x11=>
 bif (!x11)then
 some v6
 else
 some 0
theorem Qo5 (v1:TNet)(v2:Int)(v3:Int)(v4:(List Int))(v5:Int)(v6:Int){r:Int}(h:QfS v1 v2 v3 v4 v5 v6=some r):Qc Tryz.prog 98 [.own 200000 2] [(200000,.var [.clo (.func 229) [] [.loc 200001 0 0,.loc 200002 0 0],.i .i64 v3,.clo (.func 230) [] [.loc 200003 0 0,.loc 200004 0 0,.loc 200002 0 0],.i .i64 v6]),(200001,.var (Qd v1)),(200002,.var (Qe v2)),(200003,.var (Qz v4)),(200004,.var (Qe v5))] (Gives (.i .i64 r) [(200000,.var [.clo (.func 229) [] [.loc 200001 0 0,.loc 200002 0 0],.i .i64 v3,.clo (.func 230) [] [.loc 200003 0 0,.loc 200004 0 0,.loc 200002 0 0],.i .i64 v6]),(200001,.var (Qd v1)),(200002,.var (Qe v2)),(200003,.var (Qz v4)),(200004,.var (Qe v5))]):=by
 refine Qc.walk 18 Tryz.func98 rfl Tryz.ntmps98 rfl fun C hC=>?_
 unfold QfS at h
 refine Qa hC [.n 14] rfl tt_ ?_
 refine AK.loopN 3 (AK.rnd ?_)
 obtain⟨x9,hx9,h⟩:=Qb h
 refine Qa hC [.n 2,.v .no [] (.b true),.n 10,.o (.any (.loc 200000 0 0) none),.n 3,.sayO 4 (.var [.clo (.func 229) [] [.loc 200001 0 0,.loc 200002 0 0],.i .i64 v3]),.n 6,.cm (.clo) [(200000,200001),(200001,200002)] [(200001,200000),(200002,200001)] [] [.d,.d] [(200000,.var (Qd v1)),(200001,.var (Qe v2))] (.b x9),.n 3] rfl ⟨⟨⟨⟨tt_,rfl⟩,(fun σ h1 h2 _=>Stp.idxV rfl rfl (bleN hC.n rfl) (h1 _ _ rfl) (h1 _ _ rfl) (Qo.es rfl) (h2 _ _ rfl) (by decide))⟩,rfl⟩,(QnN _ _ hx9)⟩ ?_
 rcases bifE h with⟨hc10,h⟩|⟨hc10,h⟩
 ·refine Qa hC [.br true,.n 13,.keep [2] [200000,200001,200002,200003,200004]] rfl ⟨tt_,hc10⟩ ?_
  cases h
  exact AK.done (ex_ [_] (an_ (an_ rfl tt_) (gives ⟨rfl,rfl,rfl,rfl,rfl,tt_⟩)))
 ·refine Qa hC [.br false,.n 4,.v .no [] (.i .i64 1),.n 2] rfl ⟨⟨tt_,hc10⟩,rfl⟩ ?_
  refine AK.met (AK.rnd ?_)
  obtain⟨x11,hx11,h⟩:=Qb h
  refine Qa hC [.n 2,.v .no [] (.b true),.n 10,.o (.any (.loc 200000 0 2) none),.n 1,.kill 4,.n 2,.sayO 4 (.var [.clo (.func 230) [] [.loc 200003 0 0,.loc 200004 0 0,.loc 200002 0 0],.i .i64 v6]),.n 6,.cm (.clo) [(200000,200003),(200001,200004),(200002,200002)] [(200003,200000),(200004,200001),(200002,200002)] [] [.d,.d,.d] [(200000,.var (Qz v4)),(200001,.var (Qe v5)),(200002,.var (Qe v2))] (.b x11),.n 3] rfl ⟨⟨⟨⟨tt_,rfl⟩,(fun σ h1 h2 _=>Stp.idxV rfl rfl (bleN hC.n rfl) (h1 _ _ rfl) (h1 _ _ rfl) (Qo.es rfl) (h2 _ _ rfl) (by decide))⟩,rfl⟩,(QnO _ _ _ hx11)⟩ ?_
  rcases bifE h with⟨hc12,h⟩|⟨hc12,h⟩
  ·refine Qa hC [.br true,.n 13,.keep [2] [200000,200001,200002,200003,200004]] rfl ⟨tt_,hc12⟩ ?_
   cases h
   exact AK.done (ex_ [_] (an_ (an_ rfl tt_) (gives ⟨rfl,rfl,rfl,rfl,rfl,tt_⟩)))
  ·refine Qa hC [.br false,.n 4,.v .no [] (.i .i64 2),.n 2] rfl ⟨⟨tt_,hc12⟩,rfl⟩ ?_
   refine AK.met (AK.rnd ?_)
   refine Qa hC [.n 2,.v .no [] (.b false),.n 15,.keep [2] [200000,200001,200002,200003,200004]] rfl ⟨tt_,rfl⟩ ?_
   cases h
   exact AK.done (ex_ [_] (an_ (an_ rfl tt_) (gives ⟨rfl,rfl,rfl,rfl,rfl,tt_⟩)))
def QeQ (k1:Int)(place2:Int)(v3:TNet)(v4:(List Int)):Option Int:=
 (QfS v3 place2 3 v4 k1 5).bind fun x6=>
 some x6
theorem QoH (k1:Int)(place2:Int)(v3:TNet)(v4:(List Int)){r:Int}(h:QeQ k1 place2 v3 v4=some r):Qc Tryz.prog 228 [.i .i64 k1,.i .i64 place2,.loc 200000 0 0,.loc 200001 0 0] [(200000,.var (Qd v3)),(200001,.var (Qz v4))] (Gives (.i .i64 r) [(200000,.var (Qd v3)),(200001,.var (Qz v4))]):=by
 refine Qc.walk 13 Tryz.func228 rfl Tryz.ntmps228 rfl fun C hC=>?_
 unfold QeQ at h
 obtain⟨x6,hx6,h⟩:=Qb h
 refine Qa hC [.n 10,.v .no [] (.agg [.clo (.func 229) [] [.loc 200000 0 0,.loc 5 0 0],.i .i64 3]),.n 1,.v .no [] (.agg [.clo (.func 230) [] [.loc 200001 0 0,.loc 4 0 0,.loc 5 0 0],.i .i64 5]),.o (.any (.own 11 2) (some (.var [.clo (.func 229) [] [.loc 200000 0 0,.loc 5 0 0],.i .i64 3,.clo (.func 230) [] [.loc 200001 0 0,.loc 4 0 0,.loc 5 0 0],.i .i64 5]))),.cm (.fn) [(200000,11),(200001,200000),(200002,5),(200003,200001),(200004,4)] [(11,200000),(200000,200001),(5,200002),(200001,200003),(4,200004)] [] [.d] [(200000,.var [.clo (.func 229) [] [.loc 200001 0 0,.loc 200002 0 0],.i .i64 3,.clo (.func 230) [] [.loc 200003 0 0,.loc 200004 0 0,.loc 200002 0 0],.i .i64 5]),(200001,.var (Qd v3)),(200002,.var (Qe place2)),(200003,.var (Qz v4)),(200004,.var (Qe k1))] (.i .i64 x6),.n 4,.keep [6] [200000,200001]] rfl ⟨⟨⟨⟨tt_,rfl⟩,rfl⟩,(fun σ h1 h2 hf=>Stp.buildAny rfl rfl (bleN hC.n rfl) (Qo.es rfl) QlQ rfl (by decide) (by decide) (Qfm h1 rfl) rfl rfl (hf rfl))⟩,(Qo5 _ _ _ _ _ _ hx6)⟩ ?_
 cases h
 exact AK.done (ex_ [_] (an_ (an_ rfl tt_) (gives ⟨rfl,rfl,tt_⟩)))
def Qcw (l1:(List Int))(v2:TNet)(v3:(List Int))(x8:Int):Option (Int⊕((Int×Int)⊕Unit)):=
 bif (decide (x8<(l1.length:Int)))then
 (idx l1 x8).bind fun e13=>
 (QeQ x8 e13 v2 v3).bind fun x14=>
 bif (x14 != 0)then
 some (.inr (.inl (x8,x14)))
 else
 some (.inl (w64 (x8+1)))
 else
 some (.inr (.inr ()))
def QdN (x10:Int)(x11:Int):Option (Int×Int):=
 some (x10,x11)
def QdO : Option (Int×Int):=
 some (0,0)
def QfT (l1:(List Int))(v2:TNet)(v3:(List Int)):Option (Int×Int):=
 (QA (fun st=>Qcw l1 v2 v3 st) 0).bind (Sum.elim (fun q=>QdN q.1 q.2) (fun q=>QdO))
theorem Qo6 (l1:(List Int))(v2:TNet)(v3:(List Int)){r:(Int×Int)}(h:QfT l1 v2 v3=some r):Qc Tryz.prog 227 [.sl 1 (l1.map Qe),.clo (.func 228) [] [.loc 200000 0 0,.loc 200001 0 0]] [(200000,.var (Qd v2)),(200001,.var (Qz v3))] (Gives (.tup [.i .i64 r.1,.i .i64 r.2]) [(200000,.var (Qd v2)),(200001,.var (Qz v3))]):=by
 refine Qc.walk 25 Tryz.func227 rfl Tryz.ntmps227 rfl fun C hC=>?_
 unfold QfT at h
 refine Qa hC [.n 10,.o (.ln l1.length),.n 4,.keep [1,9,10,11] [200000,200001]] rfl ⟨tt_,Qf⟩ ?_
 obtain⟨o16,hl16,h⟩:=Qb h
 refine AK.loop (body:=(fun st=>Qcw l1 v2 v3 st)) (fun st σ=>σ=⟨[(1,.clo (.func 228) [] [.loc 200000 0 0,.loc 200001 0 0]),(9,.sl 1 (l1.map Qe)),(10,.i .i64 (l1.length:Int)),(11,.i .i64 st)],[(200000,.var (Qd v2)),(200001,.var (Qz v3))]⟩) (Sum.elim (fun q e σ=>e=.ret∧σ=⟨[(4,.i .i64 q.1),(5,.i .i64 q.2)],[(200000,.var (Qd v2)),(200001,.var (Qz v3))]⟩) (fun q e σ=>e=.exit 0∧σ=⟨[],[(200000,.var (Qd v2)),(200001,.var (Qz v3))]⟩)) hl16 rfl ?_ ?_
 ·rintro x8 o σ rfl h
  replace h:Qcw l1 v2 v3 x8=some o:=h
  unfold Qcw at h
  refine Qa hC [.n 6] rfl tt_ ?_
  rcases bifE h with⟨hc12,h⟩|⟨hc12,h⟩
  ·obtain⟨e13,he13,h⟩:=Qb h
   obtain⟨x14,hx14,h⟩:=Qb h
   refine Qa hC [.br true,.n 7,.o (.row (Qe e13)),.n 10,.cm (.clo) [(200000,200000),(200001,200001)] [(200000,200000),(200001,200001)] [] [.d,.d,.d,.d] [(200000,.var (Qd v2)),(200001,.var (Qz v3))] (.i .i64 x14),.n 9] rfl ⟨⟨⟨tt_,hc12⟩,(idxM he13)⟩,(QoH _ _ _ _ hx14)⟩ ?_
   rcases bifE h with⟨hc15,h⟩|⟨hc15,h⟩
   ·refine Qa hC [.br true,.n 11,.keep [4,5] [200000,200001]] rfl ⟨tt_,hc15⟩ ?_
    cases h
    exact rndR rfl (an_ rfl rfl)
   ·refine Qa hC [.br false,.n 7,.keep [1,9,10,11] [200000,200001]] rfl ⟨tt_,hc15⟩ ?_
    cases h
    exact rndN rfl rfl
  ·refine Qa hC [.br false,.n 2,.keep [] [200000,200001]] rfl ⟨tt_,hc12⟩ ?_
   cases h
   exact rndX rfl (an_ rfl rfl)
 ·rcases o16 with(⟨x10,x11⟩|_)
  ·replace h:QdN x10 x11=some r:=h
   unfold QdN at h
   rintro e σ ⟨rfl,rfl⟩
   refine Qa hC [.n 2,.keep [4,5] [200000,200001]] rfl tt_ ?_
   cases h
   exact AK.done (ex_ [_,_] (an_ (an_ rfl (an_ rfl tt_)) (gives ⟨rfl,rfl,tt_⟩)))
  ·replace h:QdO=some r:=h
   unfold QdO at h
   rintro e σ ⟨rfl,rfl⟩
   refine Qa hC [.n 9,.keep [4,5] [200000,200001]] rfl tt_ ?_
   cases h
   exact AK.done (ex_ [_,_] (an_ (an_ rfl (an_ rfl tt_)) (gives ⟨rfl,rfl,tt_⟩)))
def QgD (n1:TNet)(l2:(List Int)):Option Int:=
 (QfT l2 n1 l2).bind fun x4=>
 some x4.2
theorem QpJ (n1:TNet)(l2:(List Int)){r:Int}(h:QgD n1 l2=some r):Qc Tryz.prog 181 [.agg (Qd n1),.sl 1 (l2.map Qe)] [] (Gives (.i .i64 r) []):=by
 refine Qc.walk 14 Tryz.func181 rfl Tryz.ntmps181 rfl fun C hC=>?_
 unfold QgD at h
 obtain⟨x4,hx4,h⟩:=Qb h
 refine Qa hC [.n 11,.cm (.fn) [(200000,2),(200001,3)] [(2,200000),(3,200001)] [] [.d,.d] [(200000,.var (Qd n1)),(200001,.var (Qz l2))] (.tup [.i .i64 x4.1,.i .i64 x4.2]),.n 14,.keep [4] []] rfl ⟨tt_,(Qo6 _ _ _ hx4)⟩ ?_
 cases h
 exact AK.done (ex_ [_] (an_ (an_ rfl tt_) (gives tt_)))
def QgE (v1:TNet)(v2:Qr):Option Int:=
 (QgD v1 v2.Cancel).bind fun x4=>
 some x4
theorem QpK (v1:TNet)(v2:Qr){r:Int}(h:QgE v1 v2=some r):Qc Tryz.prog 180 [.loc 200000 0 0,.loc 200001 0 0] [(200000,.var (Qd v1)),(200001,.var (Qi v2))] (Gives (.i .i64 r) [(200000,.var (Qd v1)),(200001,.var (Qi v2))]):=by
 refine Qc.walk 7 Tryz.func180 rfl Tryz.ntmps180 rfl fun C hC=>?_
 unfold QgE at h
 obtain⟨x4,hx4,h⟩:=Qb h
 refine Qa hC [.n 7,.v .no [] (.agg (Qd v1)),.n 2,.o (.c false [.d,.d] (.i .i64 x4)),.n 4,.keep [2] [200000,200001]] rfl ⟨⟨tt_,rfl⟩,(QpJ _ _ hx4)⟩ ?_
 cases h
 exact AK.done (ex_ [_] (an_ (an_ rfl tt_) (gives ⟨rfl,rfl,tt_⟩)))
def Qee (v1:TNet)(v2:Qr)(v3:Int):Option (Bool×Int):=
 (QgE v1 v2).bind fun x6=>
 some ((x6==0),x6)
theorem Qn1 (v1:TNet)(v2:Qr)(v3:Int){r:(Bool×Int)}(h:Qee v1 v2 v3=some r):Qc Tryz.prog 215 [.loc 200000 0 0,.loc 200003 0 0] [(200000,.var [.clo (.func 180) [] [.loc 200001 0 0,.loc 200002 0 0]]),(200001,.var (Qd v1)),(200002,.var (Qi v2)),(200003,.var [.loc 200004 0 0]),(200004,.var (Qe v3))] (Gives (.b r.1) [(200000,.var [.clo (.func 180) [] [.loc 200001 0 0,.loc 200002 0 0]]),(200001,.var (Qd v1)),(200002,.var (Qi v2)),(200003,.var [.loc 200004 0 0]),(200004,.var (Qe r.2))]):=by
 refine Qc.walk 11 Tryz.func215 rfl Tryz.ntmps215 rfl fun C hC=>?_
 unfold Qee at h
 obtain⟨x6,hx6,h⟩:=Qb h
 refine Qa hC [.n 6,.keep [0,1] [200000,200001,200002,200003,200004]] rfl tt_ ?_
 refine AK.draw2 Qo hC mixed [.a .no none false,.a .no none false,.a (.any (.i .i64 x6) none) none false,.a .no none false,.m .s] [] [] [1] [200000,200001,200002,200003,200004] rfl rfl rfl ⟨tt_,(fun σ h1 h2 _=>Stp.callSame (md:=.cm (.clo) [(200000,200001),(200001,200002)] [(200001,200000),(200002,200001)] [] [.d,.d] [(200000,.var (Qd v1)),(200001,.var (Qi v2))] (.i .i64 x6) [200001,200002]) Qo hC h1 h2 rfl ⟨⟨tt_,(QpK _ _ hx6)⟩,⟨rfl,rfl,tt_⟩⟩)⟩ rfl (by kernel_rfl) rfl rfl rfl ?_
 refine Qa hC [.sayO 200004 (.var (Qe x6)),.n 11,.keep [2] [200000,200001,200002,200003,200004]] rfl ⟨tt_,rfl⟩ ?_
 cases h
 exact AK.done (ex_ [_] (an_ (an_ rfl tt_) (gives ⟨rfl,rfl,rfl,rfl,rfl,tt_⟩)))
def Qer (k1:Int)(l2:(List TArc)):Option Bool:=
 some ((decide (1≤k1))&&((decide (k1≤3))&&((k1 != 3)||(decide ((l2.length:Int)≤4)))))
theorem QlV (k1:Int)(l2:(List TArc)){r:Bool}(h:Qer k1 l2=some r):Qc Tryz.prog 231 [.i .i64 k1,.sl 4 (l2.map QG)] [] (Gives (.b r) []):=by
 refine Qc.walk 20 Tryz.func231 rfl Tryz.ntmps231 rfl fun C hC=>?_
 unfold Qer at h
 refine Qa hC [.n 6] rfl tt_ ?_
 refine AK.meetX (fun σ=>σ=⟨[(4,.b ((decide (1≤k1))&&((decide (k1≤3))&&((k1 != 3)||(decide ((l2.length:Int)≤4))))))],[]⟩) ?_ ?_
 ·refine Qa hC [.n 4] rfl tt_ ?_
  rcases QN (decide (1≤k1))with hc5 | hc5
  ·refine Qa hC [.say 7 (.b true),.n 4] rfl ⟨tt_,(congrArg V.b hc5)⟩ ?_
   rcases QN (decide (k1≤3))with hc6 | hc6
   ·refine Qa hC [.say 11 (.b true),.n 3] rfl ⟨tt_,(congrArg V.b hc6)⟩ ?_
    rcases QN (k1 != 3)with hc7 | hc7
    ·refine Qa hC [.say 14 (.b true),.n 7,.say 4 (.b ((decide (1≤k1))&&((decide (k1≤3))&&((k1 != 3)||(decide ((l2.length:Int)≤4)))))),.keep [4] []] rfl ⟨⟨tt_,(congrArg V.b hc7)⟩,(congrArg V.b (andT hc5 (andT hc6 (orT hc7 rfl))))⟩ ?_
     exact AK.met rfl
    ·refine Qa hC [.say 14 (.b false),.n 1,.o (.ln l2.length),.n 5,.say 4 (.b ((decide (1≤k1))&&((decide (k1≤3))&&((k1 != 3)||(decide ((l2.length:Int)≤4)))))),.keep [4] []] rfl ⟨⟨⟨tt_,(congrArg V.b hc7)⟩,Qf⟩,(congrArg V.b (andT hc5 (andT hc6 (orF hc7 rfl))))⟩ ?_
     exact AK.met rfl
   ·refine Qa hC [.say 11 (.b false),.n 10,.say 4 (.b ((decide (1≤k1))&&((decide (k1≤3))&&((k1 != 3)||(decide ((l2.length:Int)≤4)))))),.keep [4] []] rfl ⟨⟨tt_,(congrArg V.b hc6)⟩,(congrArg V.b (andT hc5 (andF hc6 rfl)))⟩ ?_
    exact AK.met rfl
  ·refine Qa hC [.say 7 (.b false),.n 14,.say 4 (.b ((decide (1≤k1))&&((decide (k1≤3))&&((k1 != 3)||(decide ((l2.length:Int)≤4)))))),.keep [4] []] rfl ⟨⟨tt_,(congrArg V.b hc5)⟩,(congrArg V.b (andF hc5 rfl))⟩ ?_
   exact AK.met rfl
 ·rintro σ rfl
  refine Qa hC [.n 2,.keep [4] []] rfl tt_ ?_
  cases h
  exact AK.done (ex_ [_] (an_ (an_ rfl tt_) (gives tt_)))
def QkB (t1:Qr):Option Bool:=
 (Qer t1.Join t1.Ins).bind fun x11=>
 bif x11 then
 (Qer t1.Split t1.Outs).bind fun x13=>
 bif x13 then
 bif (decide (0≤t1.After))then
 bif (decide (t1.After≤65536))then
 some (((t1.Many.1==0)&&((t1.Many.2.1==0)&&(t1.Many.2.2==0)))||((decide (1≤t1.Many.1))&&((decide (t1.Many.1≤t1.Many.2.1))&&((decide (t1.Many.2.1≤16))&&((decide (1≤t1.Many.2.2))&&(decide (t1.Many.2.2≤t1.Many.2.1)))))))
 else
 some false
 else
 some false
 else
 some false
 else
 some false
def QfU (x9:Bool):Option Bool:=
 some x9
def Qid (t1:Qr):Option Bool:=
 (QkB t1).bind (fun x9=>QfU x9)
theorem Qq8 (t1:Qr){r:Bool}(h:Qid t1=some r):Qc Tryz.prog 183 [.agg (Qi t1)] [] (Gives (.b r) []):=by
 refine Qc.walk 70 Tryz.func183 rfl Tryz.ntmps183 rfl fun C hC=>?_
 unfold Qid at h
 refine Qa hC [.n 7,.keep [1] [1]] rfl tt_ ?_
 refine AK.draw2 Qo hC mixed [.a .no none false,.a .no none false,.a .no none false,.a .no none false,.a .no none false,.a .no none false,.a .no none false,.a .no none false,.a .no none false,.a .no none false,.a .no none false,.a .no none false] [] [] [1,3,4,5] [1] rfl rfl rfl tt_ rfl (by kernel_rfl) rfl rfl rfl ?_
 refine Qa hC [.n 2] rfl tt_ ?_
 refine AK.meetX (fun σ=>σ=⟨[(1,.loc 1 0 0),(6,.b (((t1.Many.1==0)&&((t1.Many.2.1==0)&&(t1.Many.2.2==0)))||((decide (1≤t1.Many.1))&&((decide (t1.Many.1≤t1.Many.2.1))&&((decide (t1.Many.2.1≤16))&&((decide (1≤t1.Many.2.2))&&(decide (t1.Many.2.2≤t1.Many.2.1))))))))],[(1,.var (Qi t1))]⟩) ?_ ?_
 ·refine Qa hC [.n 2,.v .no [] (.agg (Qso t1.Many)),.v .no [] (.agg (Qso (0,0,0))),.o (.any (.b ((t1.Many.1==0)&&((t1.Many.2.1==0)&&(t1.Many.2.2==0)))) none),.n 1] rfl ⟨⟨⟨tt_,rfl⟩,rfl⟩,(fun σ h1 h2 _=>Stp.eqAgg rfl rfl (bleN hC.n rfl) (h1 _ _ rfl) (h1 _ _ rfl) rfl rfl (Qx2 _ _ _ _ _ _))⟩ ?_
  rcases QN ((t1.Many.1==0)&&((t1.Many.2.1==0)&&(t1.Many.2.2==0)))with hc4 | hc4
  ·refine Qa hC [.say 21 (.b true),.n 23,.say 6 (.b (((t1.Many.1==0)&&((t1.Many.2.1==0)&&(t1.Many.2.2==0)))||((decide (1≤t1.Many.1))&&((decide (t1.Many.1≤t1.Many.2.1))&&((decide (t1.Many.2.1≤16))&&((decide (1≤t1.Many.2.2))&&(decide (t1.Many.2.2≤t1.Many.2.1)))))))),.keep [1,6] [1]] rfl ⟨⟨tt_,(congrArg V.b hc4)⟩,(congrArg V.b (orT hc4 rfl))⟩ ?_
   exact AK.met rfl
  ·refine Qa hC [.say 21 (.b false),.n 3] rfl ⟨tt_,(congrArg V.b hc4)⟩ ?_
   rcases QN (decide (1≤t1.Many.1))with hc5 | hc5
   ·refine Qa hC [.say 24 (.b true),.n 5] rfl ⟨tt_,(congrArg V.b hc5)⟩ ?_
    rcases QN (decide (t1.Many.1≤t1.Many.2.1))with hc6 | hc6
    ·refine Qa hC [.say 29 (.b true),.n 4] rfl ⟨tt_,(congrArg V.b hc6)⟩ ?_
     rcases QN (decide (t1.Many.2.1≤16))with hc7 | hc7
     ·refine Qa hC [.say 33 (.b true),.n 4] rfl ⟨tt_,(congrArg V.b hc7)⟩ ?_
      rcases QN (decide (1≤t1.Many.2.2))with hc8 | hc8
      ·refine Qa hC [.say 37 (.b true),.n 7,.say 6 (.b (((t1.Many.1==0)&&((t1.Many.2.1==0)&&(t1.Many.2.2==0)))||((decide (1≤t1.Many.1))&&((decide (t1.Many.1≤t1.Many.2.1))&&((decide (t1.Many.2.1≤16))&&((decide (1≤t1.Many.2.2))&&(decide (t1.Many.2.2≤t1.Many.2.1)))))))),.keep [1,6] [1]] rfl ⟨⟨tt_,(congrArg V.b hc8)⟩,(congrArg V.b (orF hc4 (andT hc5 (andT hc6 (andT hc7 (andT hc8 rfl))))))⟩ ?_
       exact AK.met rfl
      ·refine Qa hC [.say 37 (.b false),.n 7,.say 6 (.b (((t1.Many.1==0)&&((t1.Many.2.1==0)&&(t1.Many.2.2==0)))||((decide (1≤t1.Many.1))&&((decide (t1.Many.1≤t1.Many.2.1))&&((decide (t1.Many.2.1≤16))&&((decide (1≤t1.Many.2.2))&&(decide (t1.Many.2.2≤t1.Many.2.1)))))))),.keep [1,6] [1]] rfl ⟨⟨tt_,(congrArg V.b hc8)⟩,(congrArg V.b (orF hc4 (andT hc5 (andT hc6 (andT hc7 (andF hc8 rfl))))))⟩ ?_
       exact AK.met rfl
     ·refine Qa hC [.say 33 (.b false),.n 11,.say 6 (.b (((t1.Many.1==0)&&((t1.Many.2.1==0)&&(t1.Many.2.2==0)))||((decide (1≤t1.Many.1))&&((decide (t1.Many.1≤t1.Many.2.1))&&((decide (t1.Many.2.1≤16))&&((decide (1≤t1.Many.2.2))&&(decide (t1.Many.2.2≤t1.Many.2.1)))))))),.keep [1,6] [1]] rfl ⟨⟨tt_,(congrArg V.b hc7)⟩,(congrArg V.b (orF hc4 (andT hc5 (andT hc6 (andF hc7 rfl)))))⟩ ?_
      exact AK.met rfl
    ·refine Qa hC [.say 29 (.b false),.n 15,.say 6 (.b (((t1.Many.1==0)&&((t1.Many.2.1==0)&&(t1.Many.2.2==0)))||((decide (1≤t1.Many.1))&&((decide (t1.Many.1≤t1.Many.2.1))&&((decide (t1.Many.2.1≤16))&&((decide (1≤t1.Many.2.2))&&(decide (t1.Many.2.2≤t1.Many.2.1)))))))),.keep [1,6] [1]] rfl ⟨⟨tt_,(congrArg V.b hc6)⟩,(congrArg V.b (orF hc4 (andT hc5 (andF hc6 rfl))))⟩ ?_
     exact AK.met rfl
   ·refine Qa hC [.say 24 (.b false),.n 20,.say 6 (.b (((t1.Many.1==0)&&((t1.Many.2.1==0)&&(t1.Many.2.2==0)))||((decide (1≤t1.Many.1))&&((decide (t1.Many.1≤t1.Many.2.1))&&((decide (t1.Many.2.1≤16))&&((decide (1≤t1.Many.2.2))&&(decide (t1.Many.2.2≤t1.Many.2.1)))))))),.keep [1,6] [1]] rfl ⟨⟨tt_,(congrArg V.b hc5)⟩,(congrArg V.b (orF hc4 (andF hc5 rfl)))⟩ ?_
    exact AK.met rfl
 ·rintro σ rfl
  refine Qa hC [.n 7] rfl tt_ ?_
  obtain⟨x9,hv10,h⟩:=Qb h
  replace h:QfU x9=some r:=h
  refine AK.meetX (fun σ=>σ=⟨[(2,.b x9)],[]⟩) ?_ ?_
  ·replace h:=hv10
   unfold QkB at h
   obtain⟨x11,hx11,h⟩:=Qb h
   refine Qa hC [.n 6,.o (.c false [.d,.d] (.b x11)),.n 1] rfl ⟨tt_,(QlV _ _ hx11)⟩ ?_
   rcases bifE h with⟨hc12,h⟩|⟨hc12,h⟩
   ·obtain⟨x13,hx13,h⟩:=Qb h
    refine Qa hC [.say 49 (.b true),.n 5,.o (.c false [.d,.d] (.b x13)),.n 2] rfl ⟨⟨tt_,(congrArg V.b hc12)⟩,(QlV _ _ hx13)⟩ ?_
    rcases bifE h with⟨hc14,h⟩|⟨hc14,h⟩
    ·refine Qa hC [.say 57 (.b true),.n 5] rfl ⟨tt_,(congrArg V.b hc14)⟩ ?_
     rcases bifE h with⟨hc15,h⟩|⟨hc15,h⟩
     ·refine Qa hC [.say 62 (.b true),.n 5] rfl ⟨tt_,(congrArg V.b hc15)⟩ ?_
      rcases bifE h with⟨hc16,h⟩|⟨hc16,h⟩
      ·refine Qa hC [.say 67 (.b true),.n 4,.keep [2] []] rfl ⟨tt_,(congrArg V.b hc16)⟩ ?_
       cases h
       exact AK.met rfl
      ·refine Qa hC [.say 67 (.b false),.n 4,.keep [2] []] rfl ⟨tt_,(congrArg V.b hc16)⟩ ?_
       cases h
       exact AK.met rfl
     ·refine Qa hC [.say 62 (.b false),.n 9,.keep [2] []] rfl ⟨tt_,(congrArg V.b hc15)⟩ ?_
      cases h
      exact AK.met rfl
    ·refine Qa hC [.say 57 (.b false),.n 14,.keep [2] []] rfl ⟨tt_,(congrArg V.b hc14)⟩ ?_
     cases h
     exact AK.met rfl
   ·refine Qa hC [.say 49 (.b false),.n 22,.keep [2] []] rfl ⟨tt_,(congrArg V.b hc12)⟩ ?_
    cases h
    exact AK.met rfl
  ·rintro σ rfl
   replace h:QfU x9=some r:=h
   unfold QfU at h
   refine Qa hC [.n 2,.keep [2] []] rfl tt_ ?_
   cases h
   exact AK.done (ex_ [_] (an_ (an_ rfl tt_) (gives tt_)))
def QgF (v1:Qr):Option Bool:=
 (Qid v1).bind fun x3=>
 some x3
theorem QpL (v1:Qr){r:Bool}(h:QgF v1=some r):Qc Tryz.prog 182 [.loc 200000 0 0] [(200000,.var (Qi v1))] (Gives (.b r) [(200000,.var (Qi v1))]):=by
 refine Qc.walk 4 Tryz.func182 rfl Tryz.ntmps182 rfl fun C hC=>?_
 unfold QgF at h
 obtain⟨x3,hx3,h⟩:=Qb h
 refine Qa hC [.n 7,.v .no [] (.agg (Qi v1)),.o (.c false [.d] (.b x3)),.n 4,.keep [1] [200000]] rfl ⟨⟨tt_,rfl⟩,(Qq8 _ hx3)⟩ ?_
 cases h
 exact AK.done (ex_ [_] (an_ (an_ rfl tt_) (gives ⟨rfl,tt_⟩)))
def QcT (v1:Qr)(v2:Int)(v3:TNet)(v4:Int)(v5:Int)(v6:Int)(v7:Int)(v8:Int)(v9:Int)(v10:Int)(v11:Int)(v12:Int)(v13:Int)(v14:Int)(v15:Int):Option (Int×Int):=
 (Qhl v1).bind fun x20=>
 bif (!x20)then
 some (v2,v8)
 else
 (Qho v3 v4 v1).bind fun x22=>
 bif (!x22)then
 some (v5,v8)
 else
 (Qfi v6 v1).bind fun x24=>
 bif (!x24)then
 some (v7,v8)
 else
 (Qeq v3 v1 v8).bind fun x26=>
 bif (!x26.1)then
 some (v9,x26.2)
 else
 (Qfj v3 v4).bind fun x28=>
 bif (!x28)then
 some (v10,x26.2)
 else
 (Qhq v1 v6).bind fun x30=>
 bif (!x30)then
 some (v11,x26.2)
 else
 (Qec v3 v1 v6 x26.2).bind fun x32=>
 bif (!x32.1)then
 some (v12,x32.2)
 else
 (Qed v3 v1 v6 x32.2).bind fun x34=>
 bif (!x34.1)then
 some (v13,x34.2)
 else
 (Qee v3 v1 x34.2).bind fun x36=>
 bif (!x36.1)then
 some (v14,x36.2)
 else
 (QgF v1).bind fun x38=>
 bif (!x38)then
 some (v15,x36.2)
 else
 some (0,x36.2)
theorem Qo7 (v1:Qr)(v2:Int)(v3:TNet)(v4:Int)(v5:Int)(v6:Int)(v7:Int)(v8:Int)(v9:Int)(v10:Int)(v11:Int)(v12:Int)(v13:Int)(v14:Int)(v15:Int){r:(Int×Int)}(h:QcT v1 v2 v3 v4 v5 v6 v7 v8 v9 v10 v11 v12 v13 v14 v15=some r):Qc Tryz.prog 98 [.own 200000 10] [(200000,.var [.clo (.func 168) [] [.loc 200001 0 0],.i .i64 v2,.clo (.func 169) [] [.loc 200002 0 0,.loc 200003 0 0,.loc 200004 0 0],.i .i64 v5,.clo (.func 171) [] [.loc 200005 0 0,.loc 200001 0 0],.i .i64 v7,.clo (.func 215) [] [.loc 200006 0 0,.loc 200007 0 0],.i .i64 v9,.clo (.func 175) [] [.loc 200002 0 0,.loc 200003 0 0],.i .i64 v10,.clo (.func 176) [] [.loc 200001 0 0,.loc 200005 0 0],.i .i64 v11,.clo (.func 215) [] [.loc 200009 0 0,.loc 200010 0 0],.i .i64 v12,.clo (.func 215) [] [.loc 200011 0 0,.loc 200012 0 0],.i .i64 v13,.clo (.func 215) [] [.loc 200013 0 0,.loc 200014 0 0],.i .i64 v14,.clo (.func 182) [] [.loc 200001 0 0],.i .i64 v15]),(200001,.var (Qi v1)),(200002,.var (Qd v3)),(200003,.var (Qe v4)),(200004,.var [.clo (.func 167) [] [.loc 200001 0 0]]),(200005,.var (Qe v6)),(200006,.var [.clo (.func 173) [] [.loc 200002 0 0,.loc 200001 0 0]]),(200007,.var [.loc 200008 0 0]),(200008,.var (Qe v8)),(200009,.var [.clo (.func 177) [] [.loc 200002 0 0,.loc 200001 0 0,.loc 200005 0 0]]),(200010,.var [.loc 200008 0 0]),(200011,.var [.clo (.func 179) [] [.loc 200002 0 0,.loc 200001 0 0,.loc 200005 0 0]]),(200012,.var [.loc 200008 0 0]),(200013,.var [.clo (.func 180) [] [.loc 200002 0 0,.loc 200001 0 0]]),(200014,.var [.loc 200008 0 0])] (Gives (.i .i64 r.1) [(200000,.var [.clo (.func 168) [] [.loc 200001 0 0],.i .i64 v2,.clo (.func 169) [] [.loc 200002 0 0,.loc 200003 0 0,.loc 200004 0 0],.i .i64 v5,.clo (.func 171) [] [.loc 200005 0 0,.loc 200001 0 0],.i .i64 v7,.clo (.func 215) [] [.loc 200006 0 0,.loc 200007 0 0],.i .i64 v9,.clo (.func 175) [] [.loc 200002 0 0,.loc 200003 0 0],.i .i64 v10,.clo (.func 176) [] [.loc 200001 0 0,.loc 200005 0 0],.i .i64 v11,.clo (.func 215) [] [.loc 200009 0 0,.loc 200010 0 0],.i .i64 v12,.clo (.func 215) [] [.loc 200011 0 0,.loc 200012 0 0],.i .i64 v13,.clo (.func 215) [] [.loc 200013 0 0,.loc 200014 0 0],.i .i64 v14,.clo (.func 182) [] [.loc 200001 0 0],.i .i64 v15]),(200001,.var (Qi v1)),(200002,.var (Qd v3)),(200003,.var (Qe v4)),(200004,.var [.clo (.func 167) [] [.loc 200001 0 0]]),(200005,.var (Qe v6)),(200006,.var [.clo (.func 173) [] [.loc 200002 0 0,.loc 200001 0 0]]),(200007,.var [.loc 200008 0 0]),(200008,.var (Qe r.2)),(200009,.var [.clo (.func 177) [] [.loc 200002 0 0,.loc 200001 0 0,.loc 200005 0 0]]),(200010,.var [.loc 200008 0 0]),(200011,.var [.clo (.func 179) [] [.loc 200002 0 0,.loc 200001 0 0,.loc 200005 0 0]]),(200012,.var [.loc 200008 0 0]),(200013,.var [.clo (.func 180) [] [.loc 200002 0 0,.loc 200001 0 0]]),(200014,.var [.loc 200008 0 0])]):=by
 refine Qc.walk 18 Tryz.func98 rfl Tryz.ntmps98 rfl fun C hC=>?_
 unfold QcT at h
 refine Qa hC [.n 14] rfl tt_ ?_
 refine AK.loopN 11 (AK.rnd ?_)
 obtain⟨x20,hx20,h⟩:=Qb h
 refine Qa hC [.n 2,.v .no [] (.b true),.n 10,.o (.any (.loc 200000 0 0) none),.n 3,.sayO 4 (.var [.clo (.func 168) [] [.loc 200001 0 0],.i .i64 v2]),.n 6,.cm (.clo) [(200000,200001)] [(200001,200000)] [] [.d] [(200000,.var (Qi v1))] (.b x20),.n 3] rfl ⟨⟨⟨⟨tt_,rfl⟩,(fun σ h1 h2 _=>Stp.idxV rfl rfl (bleN hC.n rfl) (h1 _ _ rfl) (h1 _ _ rfl) (Qo.es rfl) (h2 _ _ rfl) (by decide))⟩,rfl⟩,(Qql _ hx20)⟩ ?_
 rcases bifE h with⟨hc21,h⟩|⟨hc21,h⟩
 ·refine Qa hC [.br true,.n 13,.keep [2] [200000,200001,200002,200003,200004,200005,200006,200007,200008,200009,200010,200011,200012,200013,200014]] rfl ⟨tt_,hc21⟩ ?_
  cases h
  exact AK.done (ex_ [_] (an_ (an_ rfl tt_) (gives ⟨rfl,rfl,rfl,rfl,rfl,rfl,rfl,rfl,rfl,rfl,rfl,rfl,rfl,rfl,rfl,tt_⟩)))
 ·refine Qa hC [.br false,.n 4,.v .no [] (.i .i64 1),.n 2] rfl ⟨⟨tt_,hc21⟩,rfl⟩ ?_
  refine AK.met (AK.rnd ?_)
  obtain⟨x22,hx22,h⟩:=Qb h
  refine Qa hC [.n 2,.v .no [] (.b true),.n 10,.o (.any (.loc 200000 0 2) none),.n 1,.kill 4,.n 2,.sayO 4 (.var [.clo (.func 169) [] [.loc 200002 0 0,.loc 200003 0 0,.loc 200004 0 0],.i .i64 v5]),.n 6,.cm (.clo) [(200000,200002),(200001,200003),(200002,200004),(200003,200001)] [(200002,200000),(200003,200001),(200004,200002),(200001,200003)] [] [.d,.d,.d] [(200000,.var (Qd v3)),(200001,.var (Qe v4)),(200002,.var [.clo (.func 167) [] [.loc 200003 0 0]]),(200003,.var (Qi v1))] (.b x22),.n 3] rfl ⟨⟨⟨⟨tt_,rfl⟩,(fun σ h1 h2 _=>Stp.idxV rfl rfl (bleN hC.n rfl) (h1 _ _ rfl) (h1 _ _ rfl) (Qo.es rfl) (h2 _ _ rfl) (by decide))⟩,rfl⟩,(Qqn _ _ _ hx22)⟩ ?_
  rcases bifE h with⟨hc23,h⟩|⟨hc23,h⟩
  ·refine Qa hC [.br true,.n 13,.keep [2] [200000,200001,200002,200003,200004,200005,200006,200007,200008,200009,200010,200011,200012,200013,200014]] rfl ⟨tt_,hc23⟩ ?_
   cases h
   exact AK.done (ex_ [_] (an_ (an_ rfl tt_) (gives ⟨rfl,rfl,rfl,rfl,rfl,rfl,rfl,rfl,rfl,rfl,rfl,rfl,rfl,rfl,rfl,tt_⟩)))
  ·refine Qa hC [.br false,.n 4,.v .no [] (.i .i64 2),.n 2] rfl ⟨⟨tt_,hc23⟩,rfl⟩ ?_
   refine AK.met (AK.rnd ?_)
   obtain⟨x24,hx24,h⟩:=Qb h
   refine Qa hC [.n 2,.v .no [] (.b true),.n 10,.o (.any (.loc 200000 0 4) none),.n 1,.kill 4,.n 2,.sayO 4 (.var [.clo (.func 171) [] [.loc 200005 0 0,.loc 200001 0 0],.i .i64 v7]),.n 6,.cm (.clo) [(200000,200005),(200001,200001)] [(200005,200000),(200001,200001)] [] [.d,.d] [(200000,.var (Qe v6)),(200001,.var (Qi v1))] (.b x24),.n 3] rfl ⟨⟨⟨⟨tt_,rfl⟩,(fun σ h1 h2 _=>Stp.idxV rfl rfl (bleN hC.n rfl) (h1 _ _ rfl) (h1 _ _ rfl) (Qo.es rfl) (h2 _ _ rfl) (by decide))⟩,rfl⟩,(Qqo _ _ hx24)⟩ ?_
   rcases bifE h with⟨hc25,h⟩|⟨hc25,h⟩
   ·refine Qa hC [.br true,.n 13,.keep [2] [200000,200001,200002,200003,200004,200005,200006,200007,200008,200009,200010,200011,200012,200013,200014]] rfl ⟨tt_,hc25⟩ ?_
    cases h
    exact AK.done (ex_ [_] (an_ (an_ rfl tt_) (gives ⟨rfl,rfl,rfl,rfl,rfl,rfl,rfl,rfl,rfl,rfl,rfl,rfl,rfl,rfl,rfl,tt_⟩)))
   ·refine Qa hC [.br false,.n 4,.v .no [] (.i .i64 3),.n 2] rfl ⟨⟨tt_,hc25⟩,rfl⟩ ?_
    refine AK.met (AK.rnd ?_)
    obtain⟨x26,hx26,h⟩:=Qb h
    refine Qa hC [.n 2,.v .no [] (.b true),.n 10,.o (.any (.loc 200000 0 6) none),.n 1,.kill 4,.n 2,.sayO 4 (.var [.clo (.func 215) [] [.loc 200006 0 0,.loc 200007 0 0],.i .i64 v9]),.n 6,.cm (.clo) [(200000,200006),(200001,200002),(200002,200001),(200003,200007),(200004,200008)] [(200006,200000),(200002,200001),(200001,200002),(200007,200003),(200008,200004)] [] [.d,.d] [(200000,.var [.clo (.func 173) [] [.loc 200001 0 0,.loc 200002 0 0]]),(200001,.var (Qd v3)),(200002,.var (Qi v1)),(200003,.var [.loc 200004 0 0]),(200004,.var (Qe x26.2))] (.b x26.1),.n 3] rfl ⟨⟨⟨⟨tt_,rfl⟩,(fun σ h1 h2 _=>Stp.idxV rfl rfl (bleN hC.n rfl) (h1 _ _ rfl) (h1 _ _ rfl) (Qo.es rfl) (h2 _ _ rfl) (by decide))⟩,rfl⟩,(QpI _ _ _ hx26)⟩ ?_
    rcases bifE h with⟨hc27,h⟩|⟨hc27,h⟩
    ·refine Qa hC [.br true,.n 13,.keep [2] [200000,200001,200002,200003,200004,200005,200006,200007,200008,200009,200010,200011,200012,200013,200014]] rfl ⟨tt_,hc27⟩ ?_
     cases h
     exact AK.done (ex_ [_] (an_ (an_ rfl tt_) (gives ⟨rfl,rfl,rfl,rfl,rfl,rfl,rfl,rfl,rfl,rfl,rfl,rfl,rfl,rfl,rfl,tt_⟩)))
    ·refine Qa hC [.br false,.n 4,.v .no [] (.i .i64 4),.n 2] rfl ⟨⟨tt_,hc27⟩,rfl⟩ ?_
     refine AK.met (AK.rnd ?_)
     obtain⟨x28,hx28,h⟩:=Qb h
     refine Qa hC [.n 2,.v .no [] (.b true),.n 10,.o (.any (.loc 200000 0 8) none),.n 1,.kill 4,.n 2,.sayO 4 (.var [.clo (.func 175) [] [.loc 200002 0 0,.loc 200003 0 0],.i .i64 v10]),.n 6,.cm (.clo) [(200000,200002),(200001,200003)] [(200002,200000),(200003,200001)] [] [.d,.d] [(200000,.var (Qd v3)),(200001,.var (Qe v4))] (.b x28),.n 3] rfl ⟨⟨⟨⟨tt_,rfl⟩,(fun σ h1 h2 _=>Stp.idxV rfl rfl (bleN hC.n rfl) (h1 _ _ rfl) (h1 _ _ rfl) (Qo.es rfl) (h2 _ _ rfl) (by decide))⟩,rfl⟩,(Qqq _ _ hx28)⟩ ?_
     rcases bifE h with⟨hc29,h⟩|⟨hc29,h⟩
     ·refine Qa hC [.br true,.n 13,.keep [2] [200000,200001,200002,200003,200004,200005,200006,200007,200008,200009,200010,200011,200012,200013,200014]] rfl ⟨tt_,hc29⟩ ?_
      cases h
      exact AK.done (ex_ [_] (an_ (an_ rfl tt_) (gives ⟨rfl,rfl,rfl,rfl,rfl,rfl,rfl,rfl,rfl,rfl,rfl,rfl,rfl,rfl,rfl,tt_⟩)))
     ·refine Qa hC [.br false,.n 4,.v .no [] (.i .i64 5),.n 2] rfl ⟨⟨tt_,hc29⟩,rfl⟩ ?_
      refine AK.met (AK.rnd ?_)
      obtain⟨x30,hx30,h⟩:=Qb h
      refine Qa hC [.n 2,.v .no [] (.b true),.n 10,.o (.any (.loc 200000 0 10) none),.n 1,.kill 4,.n 2,.sayO 4 (.var [.clo (.func 176) [] [.loc 200001 0 0,.loc 200005 0 0],.i .i64 v11]),.n 6,.cm (.clo) [(200000,200001),(200001,200005)] [(200001,200000),(200005,200001)] [] [.d,.d] [(200000,.var (Qi v1)),(200001,.var (Qe v6))] (.b x30),.n 3] rfl ⟨⟨⟨⟨tt_,rfl⟩,(fun σ h1 h2 _=>Stp.idxV rfl rfl (bleN hC.n rfl) (h1 _ _ rfl) (h1 _ _ rfl) (Qo.es rfl) (h2 _ _ rfl) (by decide))⟩,rfl⟩,(Qqr _ _ hx30)⟩ ?_
      rcases bifE h with⟨hc31,h⟩|⟨hc31,h⟩
      ·refine Qa hC [.br true,.n 13,.keep [2] [200000,200001,200002,200003,200004,200005,200006,200007,200008,200009,200010,200011,200012,200013,200014]] rfl ⟨tt_,hc31⟩ ?_
       cases h
       exact AK.done (ex_ [_] (an_ (an_ rfl tt_) (gives ⟨rfl,rfl,rfl,rfl,rfl,rfl,rfl,rfl,rfl,rfl,rfl,rfl,rfl,rfl,rfl,tt_⟩)))
      ·refine Qa hC [.br false,.n 4,.v .no [] (.i .i64 6),.n 2] rfl ⟨⟨tt_,hc31⟩,rfl⟩ ?_
       refine AK.met (AK.rnd ?_)
       obtain⟨x32,hx32,h⟩:=Qb h
       refine Qa hC [.n 2,.v .no [] (.b true),.n 10,.o (.any (.loc 200000 0 12) none),.n 1,.kill 4,.n 2,.sayO 4 (.var [.clo (.func 215) [] [.loc 200009 0 0,.loc 200010 0 0],.i .i64 v12]),.n 6,.cm (.clo) [(200000,200009),(200001,200002),(200002,200001),(200003,200005),(200004,200010),(200005,200008)] [(200009,200000),(200002,200001),(200001,200002),(200005,200003),(200010,200004),(200008,200005)] [] [.d,.d] [(200000,.var [.clo (.func 177) [] [.loc 200001 0 0,.loc 200002 0 0,.loc 200003 0 0]]),(200001,.var (Qd v3)),(200002,.var (Qi v1)),(200003,.var (Qe v6)),(200004,.var [.loc 200005 0 0]),(200005,.var (Qe x32.2))] (.b x32.1),.n 3] rfl ⟨⟨⟨⟨tt_,rfl⟩,(fun σ h1 h2 _=>Stp.idxV rfl rfl (bleN hC.n rfl) (h1 _ _ rfl) (h1 _ _ rfl) (Qo.es rfl) (h2 _ _ rfl) (by decide))⟩,rfl⟩,(QnZ _ _ _ _ hx32)⟩ ?_
       rcases bifE h with⟨hc33,h⟩|⟨hc33,h⟩
       ·refine Qa hC [.br true,.n 13,.keep [2] [200000,200001,200002,200003,200004,200005,200006,200007,200008,200009,200010,200011,200012,200013,200014]] rfl ⟨tt_,hc33⟩ ?_
        cases h
        exact AK.done (ex_ [_] (an_ (an_ rfl tt_) (gives ⟨rfl,rfl,rfl,rfl,rfl,rfl,rfl,rfl,rfl,rfl,rfl,rfl,rfl,rfl,rfl,tt_⟩)))
       ·refine Qa hC [.br false,.n 4,.v .no [] (.i .i64 7),.n 2] rfl ⟨⟨tt_,hc33⟩,rfl⟩ ?_
        refine AK.met (AK.rnd ?_)
        obtain⟨x34,hx34,h⟩:=Qb h
        refine Qa hC [.n 2,.v .no [] (.b true),.n 10,.o (.any (.loc 200000 0 14) none),.n 1,.kill 4,.n 2,.sayO 4 (.var [.clo (.func 215) [] [.loc 200011 0 0,.loc 200012 0 0],.i .i64 v13]),.n 6,.cm (.clo) [(200000,200011),(200001,200002),(200002,200001),(200003,200005),(200004,200012),(200005,200008)] [(200011,200000),(200002,200001),(200001,200002),(200005,200003),(200012,200004),(200008,200005)] [] [.d,.d] [(200000,.var [.clo (.func 179) [] [.loc 200001 0 0,.loc 200002 0 0,.loc 200003 0 0]]),(200001,.var (Qd v3)),(200002,.var (Qi v1)),(200003,.var (Qe v6)),(200004,.var [.loc 200005 0 0]),(200005,.var (Qe x34.2))] (.b x34.1),.n 3] rfl ⟨⟨⟨⟨tt_,rfl⟩,(fun σ h1 h2 _=>Stp.idxV rfl rfl (bleN hC.n rfl) (h1 _ _ rfl) (h1 _ _ rfl) (Qo.es rfl) (h2 _ _ rfl) (by decide))⟩,rfl⟩,(Qn0 _ _ _ _ hx34)⟩ ?_
        rcases bifE h with⟨hc35,h⟩|⟨hc35,h⟩
        ·refine Qa hC [.br true,.n 13,.keep [2] [200000,200001,200002,200003,200004,200005,200006,200007,200008,200009,200010,200011,200012,200013,200014]] rfl ⟨tt_,hc35⟩ ?_
         cases h
         exact AK.done (ex_ [_] (an_ (an_ rfl tt_) (gives ⟨rfl,rfl,rfl,rfl,rfl,rfl,rfl,rfl,rfl,rfl,rfl,rfl,rfl,rfl,rfl,tt_⟩)))
        ·refine Qa hC [.br false,.n 4,.v .no [] (.i .i64 8),.n 2] rfl ⟨⟨tt_,hc35⟩,rfl⟩ ?_
         refine AK.met (AK.rnd ?_)
         obtain⟨x36,hx36,h⟩:=Qb h
         refine Qa hC [.n 2,.v .no [] (.b true),.n 10,.o (.any (.loc 200000 0 16) none),.n 1,.kill 4,.n 2,.sayO 4 (.var [.clo (.func 215) [] [.loc 200013 0 0,.loc 200014 0 0],.i .i64 v14]),.n 6,.cm (.clo) [(200000,200013),(200001,200002),(200002,200001),(200003,200014),(200004,200008)] [(200013,200000),(200002,200001),(200001,200002),(200014,200003),(200008,200004)] [] [.d,.d] [(200000,.var [.clo (.func 180) [] [.loc 200001 0 0,.loc 200002 0 0]]),(200001,.var (Qd v3)),(200002,.var (Qi v1)),(200003,.var [.loc 200004 0 0]),(200004,.var (Qe x36.2))] (.b x36.1),.n 3] rfl ⟨⟨⟨⟨tt_,rfl⟩,(fun σ h1 h2 _=>Stp.idxV rfl rfl (bleN hC.n rfl) (h1 _ _ rfl) (h1 _ _ rfl) (Qo.es rfl) (h2 _ _ rfl) (by decide))⟩,rfl⟩,(Qn1 _ _ _ hx36)⟩ ?_
         rcases bifE h with⟨hc37,h⟩|⟨hc37,h⟩
         ·refine Qa hC [.br true,.n 13,.keep [2] [200000,200001,200002,200003,200004,200005,200006,200007,200008,200009,200010,200011,200012,200013,200014]] rfl ⟨tt_,hc37⟩ ?_
          cases h
          exact AK.done (ex_ [_] (an_ (an_ rfl tt_) (gives ⟨rfl,rfl,rfl,rfl,rfl,rfl,rfl,rfl,rfl,rfl,rfl,rfl,rfl,rfl,rfl,tt_⟩)))
         ·refine Qa hC [.br false,.n 4,.v .no [] (.i .i64 9),.n 2] rfl ⟨⟨tt_,hc37⟩,rfl⟩ ?_
          refine AK.met (AK.rnd ?_)
          obtain⟨x38,hx38,h⟩:=Qb h
          refine Qa hC [.n 2,.v .no [] (.b true),.n 10,.o (.any (.loc 200000 0 18) none),.n 1,.kill 4,.n 2,.sayO 4 (.var [.clo (.func 182) [] [.loc 200001 0 0],.i .i64 v15]),.n 6,.cm (.clo) [(200000,200001)] [(200001,200000)] [] [.d] [(200000,.var (Qi v1))] (.b x38),.n 3] rfl ⟨⟨⟨⟨tt_,rfl⟩,(fun σ h1 h2 _=>Stp.idxV rfl rfl (bleN hC.n rfl) (h1 _ _ rfl) (h1 _ _ rfl) (Qo.es rfl) (h2 _ _ rfl) (by decide))⟩,rfl⟩,(QpL _ hx38)⟩ ?_
          rcases bifE h with⟨hc39,h⟩|⟨hc39,h⟩
          ·refine Qa hC [.br true,.n 13,.keep [2] [200000,200001,200002,200003,200004,200005,200006,200007,200008,200009,200010,200011,200012,200013,200014]] rfl ⟨tt_,hc39⟩ ?_
           cases h
           exact AK.done (ex_ [_] (an_ (an_ rfl tt_) (gives ⟨rfl,rfl,rfl,rfl,rfl,rfl,rfl,rfl,rfl,rfl,rfl,rfl,rfl,rfl,rfl,tt_⟩)))
          ·refine Qa hC [.br false,.n 4,.v .no [] (.i .i64 10),.n 2] rfl ⟨⟨tt_,hc39⟩,rfl⟩ ?_
           refine AK.met (AK.rnd ?_)
           refine Qa hC [.n 2,.v .no [] (.b false),.n 15,.keep [2] [200000,200001,200002,200003,200004,200005,200006,200007,200008,200009,200010,200011,200012,200013,200014]] rfl ⟨tt_,rfl⟩ ?_
           cases h
           exact AK.done (ex_ [_] (an_ (an_ rfl tt_) (gives ⟨rfl,rfl,rfl,rfl,rfl,rfl,rfl,rfl,rfl,rfl,rfl,rfl,rfl,rfl,rfl,tt_⟩)))
def Qbp (n1:TNet)(k2:Int):Option Int:=
 (QaL n1.Tasks k2).bind fun x5=>
 bif (!x5)then
 some 3
 else
 (Qep n1).bind fun x7=>
 bif (x7.2 != 0)then
 some x7.2
 else
 (idx n1.Tasks k2).bind fun e9=>
 (idx n1.Tasks k2).bind fun e10=>
 (Qib 0 n1 e9).bind fun x11=>
 (QfJ 0 n1 e9 (e10.Vars.length:Int)).bind fun x12=>
 (QfK 0 n1 e9 (e10.Vars.length:Int)).bind fun x13=>
 (QfL 0 n1 e9).bind fun x14=>
 (QcT e9 1 n1 k2 5 (e10.Vars.length:Int) 2 0 (-1) 2 1 (-1) (-1) (-1) 11).bind fun x15=>
 bif (x15.1==(-1))then
 some x15.2
 else
 some x15.1
theorem QrR (n1:TNet)(k2:Int){r:Int}(h:Qbp n1 k2=some r):Qc Tryz.prog 109 [.agg (Qd n1),.i .i64 k2] [] (Gives (.i .i64 r) []):=by
 refine Qc.walk 68 Tryz.func109 rfl Tryz.ntmps109 rfl fun C hC=>?_
 unfold Qbp at h
 obtain⟨x5,hx5,h⟩:=Qb h
 refine Qa hC [.n 13,.o (.c false [.d,.d] (.b x5)),.n 3] rfl ⟨tt_,(QiG _ _ hx5)⟩ ?_
 rcases bifE h with⟨hc6,h⟩|⟨hc6,h⟩
 ·refine Qa hC [.br true,.n 7,.keep [4] []] rfl ⟨tt_,hc6⟩ ?_
  cases h
  exact AK.done (ex_ [_] (an_ (an_ rfl tt_) (gives tt_)))
 ·obtain⟨x7,hx7,h⟩:=Qb h
  refine Qa hC [.br false,.n 5,.v .no [] (.agg (Qd n1)),.o (.c false [.d] (.tup [.i .i64 x7.1,.i .i64 x7.2])),.n 13] rfl ⟨⟨⟨tt_,hc6⟩,rfl⟩,(QlU _ hx7)⟩ ?_
  rcases bifE h with⟨hc8,h⟩|⟨hc8,h⟩
  ·refine Qa hC [.br true,.n 8,.keep [4] []] rfl ⟨tt_,hc8⟩ ?_
   cases h
   exact AK.done (ex_ [_] (an_ (an_ rfl tt_) (gives tt_)))
  ·obtain⟨e9,he9,h⟩:=Qb h
   obtain⟨e10,he10,h⟩:=Qb h
   refine Qa hC [.br false,.n 3,.keep [2,3] [2,3]] rfl ⟨tt_,hc8⟩ ?_
   refine AK.draw2 Qo hC mixed [.a .no none false,.a .no none false,.a .no none false,.a (.row (Qi e9)) none false,.a .no (some ([],.agg (Qi e9))) false,.a .no none true,.a .no none true,.a .no none true,.a (.row (Qi e10)) none true,.a .no none true,.a .no none true,.a (.ln e10.Vars.length) none true,.a .no none false,.a .no none false,.m .s,.m .s] [2,3] [2,3] [2,3,7,8] [2,3,7,8] rfl rfl rfl ⟨⟨⟨⟨tt_,(idxM he9)⟩,rfl⟩,(idxM he10)⟩,Qf⟩ rfl (by kernel_rfl) rfl rfl rfl ?_
   obtain⟨x11,hx11,h⟩:=Qb h
   obtain⟨x12,hx12,h⟩:=Qb h
   obtain⟨x13,hx13,h⟩:=Qb h
   obtain⟨x14,hx14,h⟩:=Qb h
   obtain⟨x15,hx15,h⟩:=Qb h
   refine Qa hC [.sayO 7 (.var (Qi e9)),.sayO 8 (.var (Qe (e10.Vars.length:Int))),.n 6,.sayO 9 (.var [.clo (.func 167) [] [.loc 7 0 0]]),.n 10,.v .no [] (.agg [.clo (.func 168) [] [.loc 7 0 0],.i .i64 1]),.n 1,.v .no [] (.agg [.clo (.func 169) [] [.loc 2 0 0,.loc 3 0 0,.loc 9 0 0],.i .i64 5]),.n 1,.v .no [] (.agg [.clo (.func 171) [] [.loc 8 0 0,.loc 7 0 0],.i .i64 2]),.n 1,.cm (.fn) [(200000,10),(200001,2),(200002,7)] [(45,2),(50000,3),(10,200000),(2,200001),(7,200002)] [] [.d,.d] [(2,.var [.loc 200000 0 0]),(3,.var [.clo (.func 173) [] [.loc 200001 0 0,.loc 200002 0 0]]),(200000,.var (Qe 0)),(200001,.var (Qd n1)),(200002,.var (Qi e9))] (.clo (.func 215) [] [.loc 3 0 0,.loc 2 0 0]),.v .no [] (.agg [.clo (.func 215) [] [.loc 50000 0 0,.loc 45 0 0],.i .i64 (-1)]),.n 1,.v .no [] (.agg [.clo (.func 175) [] [.loc 2 0 0,.loc 3 0 0],.i .i64 2]),.n 1,.v .no [] (.agg [.clo (.func 176) [] [.loc 7 0 0,.loc 8 0 0],.i .i64 1]),.n 1,.cm (.fn) [(200000,10),(200001,2),(200002,7),(200003,8)] [(52,2),(50001,3),(10,200000),(2,200001),(7,200002),(8,200003)] [] [.d,.d] [(2,.var [.loc 200000 0 0]),(3,.var [.clo (.func 177) [] [.loc 200001 0 0,.loc 200002 0 0,.loc 200003 0 0]]),(200000,.var (Qe 0)),(200001,.var (Qd n1)),(200002,.var (Qi e9)),(200003,.var (Qe (e10.Vars.length:Int)))] (.clo (.func 215) [] [.loc 3 0 0,.loc 2 0 0]),.v .no [] (.agg [.clo (.func 215) [] [.loc 50001 0 0,.loc 52 0 0],.i .i64 (-1)]),.n 1,.cm (.fn) [(200000,10),(200001,2),(200002,7),(200003,8)] [(55,2),(50002,3),(10,200000),(2,200001),(7,200002),(8,200003)] [] [.d,.d] [(2,.var [.loc 200000 0 0]),(3,.var [.clo (.func 179) [] [.loc 200001 0 0,.loc 200002 0 0,.loc 200003 0 0]]),(200000,.var (Qe 0)),(200001,.var (Qd n1)),(200002,.var (Qi e9)),(200003,.var (Qe (e10.Vars.length:Int)))] (.clo (.func 215) [] [.loc 3 0 0,.loc 2 0 0]),.v .no [] (.agg [.clo (.func 215) [] [.loc 50002 0 0,.loc 55 0 0],.i .i64 (-1)]),.n 1,.cm (.fn) [(200000,10),(200001,2),(200002,7)] [(58,2),(50003,3),(10,200000),(2,200001),(7,200002)] [] [.d,.d] [(2,.var [.loc 200000 0 0]),(3,.var [.clo (.func 180) [] [.loc 200001 0 0,.loc 200002 0 0]]),(200000,.var (Qe 0)),(200001,.var (Qd n1)),(200002,.var (Qi e9))] (.clo (.func 215) [] [.loc 3 0 0,.loc 2 0 0]),.v .no [] (.agg [.clo (.func 215) [] [.loc 50003 0 0,.loc 58 0 0],.i .i64 (-1)]),.n 1,.v .no [] (.agg [.clo (.func 182) [] [.loc 7 0 0],.i .i64 11]),.o (.any (.own 62 10) (some (.var [.clo (.func 168) [] [.loc 7 0 0],.i .i64 1,.clo (.func 169) [] [.loc 2 0 0,.loc 3 0 0,.loc 9 0 0],.i .i64 5,.clo (.func 171) [] [.loc 8 0 0,.loc 7 0 0],.i .i64 2,.clo (.func 215) [] [.loc 50000 0 0,.loc 45 0 0],.i .i64 (-1),.clo (.func 175) [] [.loc 2 0 0,.loc 3 0 0],.i .i64 2,.clo (.func 176) [] [.loc 7 0 0,.loc 8 0 0],.i .i64 1,.clo (.func 215) [] [.loc 50001 0 0,.loc 52 0 0],.i .i64 (-1),.clo (.func 215) [] [.loc 50002 0 0,.loc 55 0 0],.i .i64 (-1),.clo (.func 215) [] [.loc 50003 0 0,.loc 58 0 0],.i .i64 (-1),.clo (.func 182) [] [.loc 7 0 0],.i .i64 11]))),.cm (.fn) [(200000,62),(200001,7),(200002,2),(200003,3),(200004,9),(200005,8),(200006,50000),(200007,45),(200008,10),(200009,50001),(200010,52),(200011,50002),(200012,55),(200013,50003),(200014,58)] [(62,200000),(7,200001),(2,200002),(3,200003),(9,200004),(8,200005),(50000,200006),(45,200007),(10,200008),(50001,200009),(52,200010),(50002,200011),(55,200012),(50003,200013),(58,200014)] [] [.d] [(200000,.var [.clo (.func 168) [] [.loc 200001 0 0],.i .i64 1,.clo (.func 169) [] [.loc 200002 0 0,.loc 200003 0 0,.loc 200004 0 0],.i .i64 5,.clo (.func 171) [] [.loc 200005 0 0,.loc 200001 0 0],.i .i64 2,.clo (.func 215) [] [.loc 200006 0 0,.loc 200007 0 0],.i .i64 (-1),.clo (.func 175) [] [.loc 200002 0 0,.loc 200003 0 0],.i .i64 2,.clo (.func 176) [] [.loc 200001 0 0,.loc 200005 0 0],.i .i64 1,.clo (.func 215) [] [.loc 200009 0 0,.loc 200010 0 0],.i .i64 (-1),.clo (.func 215) [] [.loc 200011 0 0,.loc 200012 0 0],.i .i64 (-1),.clo (.func 215) [] [.loc 200013 0 0,.loc 200014 0 0],.i .i64 (-1),.clo (.func 182) [] [.loc 200001 0 0],.i .i64 11]),(200001,.var (Qi e9)),(200002,.var (Qd n1)),(200003,.var (Qe k2)),(200004,.var [.clo (.func 167) [] [.loc 200001 0 0]]),(200005,.var (Qe (e10.Vars.length:Int))),(200006,.var [.clo (.func 173) [] [.loc 200002 0 0,.loc 200001 0 0]]),(200007,.var [.loc 200008 0 0]),(200008,.var (Qe x15.2)),(200009,.var [.clo (.func 177) [] [.loc 200002 0 0,.loc 200001 0 0,.loc 200005 0 0]]),(200010,.var [.loc 200008 0 0]),(200011,.var [.clo (.func 179) [] [.loc 200002 0 0,.loc 200001 0 0,.loc 200005 0 0]]),(200012,.var [.loc 200008 0 0]),(200013,.var [.clo (.func 180) [] [.loc 200002 0 0,.loc 200001 0 0]]),(200014,.var [.loc 200008 0 0])] (.i .i64 x15.1),.n 10] rfl ⟨⟨⟨⟨⟨⟨⟨⟨⟨⟨⟨⟨⟨⟨⟨⟨⟨⟨⟨tt_,rfl⟩,rfl⟩,rfl⟩,rfl⟩,rfl⟩,rfl⟩,(Qq7 _ _ _ hx11)⟩,rfl⟩,rfl⟩,rfl⟩,(QoY _ _ _ _ hx12)⟩,rfl⟩,(QoZ _ _ _ _ hx13)⟩,rfl⟩,(Qo0 _ _ _ hx14)⟩,rfl⟩,rfl⟩,(fun σ h1 h2 hf=>Stp.buildAny rfl rfl (bleN hC.n rfl) (Qo.es rfl) QlQ rfl (by decide) (by decide) (Qfm h1 rfl) rfl rfl (hf rfl))⟩,(Qo7 _ _ _ _ _ _ _ _ _ _ _ _ _ _ _ hx15)⟩ ?_
   rcases bifE h with⟨hc16,h⟩|⟨hc16,h⟩
   ·refine Qa hC [.br true,.n 8,.keep [4] []] rfl ⟨tt_,hc16⟩ ?_
    cases h
    exact AK.done (ex_ [_] (an_ (an_ rfl tt_) (gives tt_)))
   ·refine Qa hC [.br false,.n 9,.keep [4] []] rfl ⟨tt_,hc16⟩ ?_
    cases h
    exact AK.done (ex_ [_] (an_ (an_ rfl tt_) (gives tt_)))
def Qgk (k1:Int)(p2:Qr)(v3:TNet):Option Int:=
 (Qbp v3 k1).bind fun x5=>
 some x5
theorem Qq9 (k1:Int)(p2:Qr)(v3:TNet){r:Int}(h:Qgk k1 p2 v3=some r):Qc Tryz.prog 108 [.i .i64 k1,.agg (Qi p2),.loc 200000 0 0] [(200000,.var (Qd v3))] (Gives (.i .i64 r) [(200000,.var (Qd v3))]):=by
 refine Qc.walk 9 Tryz.func108 rfl Tryz.ntmps108 rfl fun C hC=>?_
 unfold Qgk at h
 obtain⟨x5,hx5,h⟩:=Qb h
 refine Qa hC [.n 8,.v .no [] (.agg (Qd v3)),.n 1,.o (.c false [.d,.d] (.i .i64 x5)),.n 4,.keep [5] [200000]] rfl ⟨⟨tt_,rfl⟩,(QrR _ _ hx5)⟩ ?_
 cases h
 exact AK.done (ex_ [_] (an_ (an_ rfl tt_) (gives ⟨rfl,tt_⟩)))
def Qay (l1:(List Qr))(v2:TNet)(x7:Int):Option (Int⊕((Int×Int)⊕Unit)):=
 bif (decide (x7<(l1.length:Int)))then
 (idx l1 x7).bind fun e12=>
 (Qgk x7 e12 v2).bind fun x13=>
 bif (x13 != 0)then
 some (.inr (.inl (x7,x13)))
 else
 some (.inl (w64 (x7+1)))
 else
 some (.inr (.inr ()))
def Qb7 (x9:Int)(x10:Int):Option (Int×Int):=
 some (x9,x10)
def Qb8 : Option (Int×Int):=
 some (0,0)
def Qbq (l1:(List Qr))(v2:TNet):Option (Int×Int):=
 (QA (fun st=>Qay l1 v2 st) 0).bind (Sum.elim (fun q=>Qb7 q.1 q.2) (fun q=>Qb8))
theorem Qm4 (l1:(List Qr))(v2:TNet){r:(Int×Int)}(h:Qbq l1 v2=some r):Qc Tryz.prog 107 [.sl 14 (l1.map Qi),.clo (.func 108) [] [.loc 200000 0 0]] [(200000,.var (Qd v2))] (Gives (.tup [.i .i64 r.1,.i .i64 r.2]) [(200000,.var (Qd v2))]):=by
 refine Qc.walk 25 Tryz.func107 rfl Tryz.ntmps107 rfl fun C hC=>?_
 unfold Qbq at h
 refine Qa hC [.n 10,.o (.ln l1.length),.n 4,.keep [1,9,10,11] [200000]] rfl ⟨tt_,Qf⟩ ?_
 obtain⟨o15,hl15,h⟩:=Qb h
 refine AK.loop (body:=(fun st=>Qay l1 v2 st)) (fun st σ=>σ=⟨[(1,.clo (.func 108) [] [.loc 200000 0 0]),(9,.sl 14 (l1.map Qi)),(10,.i .i64 (l1.length:Int)),(11,.i .i64 st)],[(200000,.var (Qd v2))]⟩) (Sum.elim (fun q e σ=>e=.ret∧σ=⟨[(4,.i .i64 q.1),(5,.i .i64 q.2)],[(200000,.var (Qd v2))]⟩) (fun q e σ=>e=.exit 0∧σ=⟨[],[(200000,.var (Qd v2))]⟩)) hl15 rfl ?_ ?_
 ·rintro x7 o σ rfl h
  replace h:Qay l1 v2 x7=some o:=h
  unfold Qay at h
  refine Qa hC [.n 6] rfl tt_ ?_
  rcases bifE h with⟨hc11,h⟩|⟨hc11,h⟩
  ·obtain⟨e12,he12,h⟩:=Qb h
   obtain⟨x13,hx13,h⟩:=Qb h
   refine Qa hC [.br true,.n 7,.o (.row (Qi e12)),.v .no [] (.agg (Qi e12)),.n 3,.sayO 7 (.var (Qi e12)),.n 6,.v .no [] (.agg (Qi e12)),.cm (.clo) [(200000,200000)] [(200000,200000)] [] [.d,.d,.d] [(200000,.var (Qd v2))] (.i .i64 x13),.n 9] rfl ⟨⟨⟨⟨⟨⟨tt_,hc11⟩,(idxM he12)⟩,rfl⟩,rfl⟩,rfl⟩,(Qq9 _ _ _ hx13)⟩ ?_
   rcases bifE h with⟨hc14,h⟩|⟨hc14,h⟩
   ·refine Qa hC [.br true,.n 11,.keep [4,5] [200000]] rfl ⟨tt_,hc14⟩ ?_
    cases h
    exact rndR rfl (an_ rfl rfl)
   ·refine Qa hC [.br false,.n 7,.keep [1,9,10,11] [200000]] rfl ⟨tt_,hc14⟩ ?_
    cases h
    exact rndN rfl rfl
  ·refine Qa hC [.br false,.n 2,.keep [] [200000]] rfl ⟨tt_,hc11⟩ ?_
   cases h
   exact rndX rfl (an_ rfl rfl)
 ·rcases o15 with(⟨x9,x10⟩|_)
  ·replace h:Qb7 x9 x10=some r:=h
   unfold Qb7 at h
   rintro e σ ⟨rfl,rfl⟩
   refine Qa hC [.n 2,.keep [4,5] [200000]] rfl tt_ ?_
   cases h
   exact AK.done (ex_ [_,_] (an_ (an_ rfl (an_ rfl tt_)) (gives ⟨rfl,tt_⟩)))
  ·replace h:Qb8=some r:=h
   unfold Qb8 at h
   rintro e σ ⟨rfl,rfl⟩
   refine Qa hC [.n 9,.keep [4,5] [200000]] rfl tt_ ?_
   cases h
   exact AK.done (ex_ [_,_] (an_ (an_ rfl (an_ rfl tt_)) (gives ⟨rfl,tt_⟩)))
def Qdd (n1:TNet):Option (Int×QdZ):=
 (Qgi n1 2 3 1).bind fun x6=>
 bif (x6 != 0)then
 some (x6,(QdZ.mk 1 0))
 else
 (Qep n1).bind fun x8=>
 bif (x8.2 != 0)then
 some (x8.2,(QdZ.mk 2 x8.1))
 else
 (QcD n1.Places n1).bind fun x10=>
 bif (x10.2 != 0)then
 some (x10.2,(QdZ.mk 3 x10.1))
 else
 (Qbq n1.Tasks n1).bind fun x12=>
 bif (x12.2 != 0)then
 some (x12.2,(QdZ.mk 4 x12.1))
 else
 some (0,(QdZ.mk 0 0))
theorem Qsx (n1:TNet){r:(Int×QdZ)}(h:Qdd n1=some r):Qc Tryz.prog 52 [.agg (Qd n1)] [] (Gives (.tup [.agg (QcV r.2),.i .i64 r.1]) []):=by
 refine Qc.walk 58 Tryz.func52 rfl Tryz.ntmps52 rfl fun C hC=>?_
 unfold Qdd at h
 obtain⟨x6,hx6,h⟩:=Qb h
 refine Qa hC [.n 10,.v .no [] (.agg [.clo (.func 99) [] [.loc 1 0 0],.i .i64 2]),.n 1,.v .no [] (.agg [.clo (.func 100) [] [.loc 1 0 0],.i .i64 3]),.n 1,.v .no [] (.agg [.clo (.func 102) [] [.loc 1 0 0],.i .i64 1]),.o (.any (.own 17 3) (some (.var [.clo (.func 99) [] [.loc 1 0 0],.i .i64 2,.clo (.func 100) [] [.loc 1 0 0],.i .i64 3,.clo (.func 102) [] [.loc 1 0 0],.i .i64 1]))),.cm (.fn) [(200000,17),(200001,1)] [(17,200000),(1,200001)] [] [.d] [(200000,.var [.clo (.func 99) [] [.loc 200001 0 0],.i .i64 2,.clo (.func 100) [] [.loc 200001 0 0],.i .i64 3,.clo (.func 102) [] [.loc 200001 0 0],.i .i64 1]),(200001,.var (Qd n1))] (.i .i64 x6),.n 10] rfl ⟨⟨⟨⟨⟨tt_,rfl⟩,rfl⟩,rfl⟩,(fun σ h1 h2 hf=>Stp.buildAny rfl rfl (bleN hC.n rfl) (Qo.es rfl) QlQ rfl (by decide) (by decide) (Qfm h1 rfl) rfl rfl (hf rfl))⟩,(Qq3 _ _ _ _ hx6)⟩ ?_
 rcases bifE h with⟨hc7,h⟩|⟨hc7,h⟩
 ·refine Qa hC [.br true,.n 2,.v .no [] (.agg (QcV (QdZ.mk 1 0))),.n 2,.sayO 2 (.var (QcV (QdZ.mk 1 0))),.n 5,.keep [2,3] [2]] rfl ⟨⟨⟨tt_,hc7⟩,rfl⟩,rfl⟩ ?_
  cases h
  exact AK.done (ex_ [_,_] (an_ (an_ (ex_ _ (ex_ _ (an_ rfl (an_ rfl (Or.inl (an_ (Qo.ag rfl) (an_ (Qo.sz rfl) rfl))))))) (an_ rfl tt_)) (gives tt_)))
 ·obtain⟨x8,hx8,h⟩:=Qb h
  refine Qa hC [.br false,.n 5,.v .no [] (.agg (Qd n1)),.o (.c false [.d] (.tup [.i .i64 x8.1,.i .i64 x8.2])),.n 13] rfl ⟨⟨⟨tt_,hc7⟩,rfl⟩,(QlU _ hx8)⟩ ?_
  rcases bifE h with⟨hc9,h⟩|⟨hc9,h⟩
  ·refine Qa hC [.br true,.n 3,.v .no [] (.agg (QcV (QdZ.mk 2 x8.1))),.n 2,.sayO 2 (.var (QcV (QdZ.mk 2 x8.1))),.n 5,.keep [2,3] [2]] rfl ⟨⟨⟨tt_,hc9⟩,rfl⟩,rfl⟩ ?_
   cases h
   exact AK.done (ex_ [_,_] (an_ (an_ (ex_ _ (ex_ _ (an_ rfl (an_ rfl (Or.inl (an_ (Qo.ag rfl) (an_ (Qo.sz rfl) rfl))))))) (an_ rfl tt_)) (gives tt_)))
  ·obtain⟨x10,hx10,h⟩:=Qb h
   refine Qa hC [.br false,.n 8,.cm (.fn) [(200000,1)] [(1,200000)] [] [.d,.d] [(200000,.var (Qd n1))] (.tup [.i .i64 x10.1,.i .i64 x10.2]),.n 13] rfl ⟨⟨tt_,hc9⟩,(Qms _ _ hx10)⟩ ?_
   rcases bifE h with⟨hc11,h⟩|⟨hc11,h⟩
   ·refine Qa hC [.br true,.n 3,.v .no [] (.agg (QcV (QdZ.mk 3 x10.1))),.n 2,.sayO 2 (.var (QcV (QdZ.mk 3 x10.1))),.n 5,.keep [2,3] [2]] rfl ⟨⟨⟨tt_,hc11⟩,rfl⟩,rfl⟩ ?_
    cases h
    exact AK.done (ex_ [_,_] (an_ (an_ (ex_ _ (ex_ _ (an_ rfl (an_ rfl (Or.inl (an_ (Qo.ag rfl) (an_ (Qo.sz rfl) rfl))))))) (an_ rfl tt_)) (gives tt_)))
   ·obtain⟨x12,hx12,h⟩:=Qb h
    refine Qa hC [.br false,.n 8,.cm (.fn) [(200000,1)] [(1,200000)] [] [.d,.d] [(200000,.var (Qd n1))] (.tup [.i .i64 x12.1,.i .i64 x12.2]),.n 13] rfl ⟨⟨tt_,hc11⟩,(Qm4 _ _ hx12)⟩ ?_
    rcases bifE h with⟨hc13,h⟩|⟨hc13,h⟩
    ·refine Qa hC [.br true,.n 3,.v .no [] (.agg (QcV (QdZ.mk 4 x12.1))),.n 2,.sayO 2 (.var (QcV (QdZ.mk 4 x12.1))),.n 5,.keep [2,3] [2]] rfl ⟨⟨⟨tt_,hc13⟩,rfl⟩,rfl⟩ ?_
     cases h
     exact AK.done (ex_ [_,_] (an_ (an_ (ex_ _ (ex_ _ (an_ rfl (an_ rfl (Or.inl (an_ (Qo.ag rfl) (an_ (Qo.sz rfl) rfl))))))) (an_ rfl tt_)) (gives tt_)))
    ·refine Qa hC [.br false,.n 4,.v .no [] (.agg (QcV (QdZ.mk 0 0))),.n 1,.sayO 2 (.var (QcV (QdZ.mk 0 0))),.n 4,.keep [2,3] [2]] rfl ⟨⟨⟨tt_,hc13⟩,rfl⟩,rfl⟩ ?_
     cases h
     exact AK.done (ex_ [_,_] (an_ (an_ (ex_ _ (ex_ _ (an_ rfl (an_ rfl (Or.inl (an_ (Qo.ag rfl) (an_ (Qo.sz rfl) rfl))))))) (an_ rfl tt_)) (gives tt_)))
def Qlf (e9:QBg)(x11:Int):Option Bool:=
 (Qb9 e9).bind fun x14=>
 bif (!x14)then
 some true
 else
 bif (decide (0<(e9.length:Int)))then
 (idx e9 (w64 ((e9.length:Int)-1))).bind fun e17=>
 some (decide (x11≤e17.1))
 else
 some false
def QgG (x6:Int)(x12:Bool):Option (Int⊕(Unit⊕Unit)):=
 bif x12 then
 some (.inr (.inl ()))
 else
 some (.inl (w64 (x6+1)))
def Qes (m2:QMk)(n1:TNet)(x6:Int):Option (Int⊕(Unit⊕Unit)):=
 bif (decide (x6<(m2.length:Int)))then
 (idx m2 x6).bind fun e9=>
 (idx n1.Places x6).bind fun e10=>
 (QaG n1.Colours e10.Colour).bind fun x11=>
 (Qlf e9 x11).bind (fun x12=>QgG x6 x12)
 else
 some (.inr (.inr ()))
def Qlg : Option Bool:=
 some false
def Qlh : Option Bool:=
 some true
def Qi2 (n1:TNet)(m2:QMk):Option Bool:=
 bif ((m2.length:Int) != (n1.Places.length:Int))then
 some false
 else
 (QA (fun st=>Qes m2 n1 st) 0).bind (Sum.elim (fun q=>Qlg) (fun q=>Qlh))
theorem QrS (n1:TNet)(m2:QMk){r:Bool}(h:Qi2 n1 m2=some r):Qc Tryz.prog 53 [.agg (Qd n1),.sl 1 (m2.map Qh)] [] (Gives (.b r) []):=by
 refine Qc.walk 50 Tryz.func53 rfl Tryz.ntmps53 rfl fun C hC=>?_
 unfold Qi2 at h
 refine Qa hC [.n 10,.o (.ln m2.length),.n 2,.o (.ln n1.Places.length),.n 3] rfl ⟨⟨tt_,Qf⟩,Qf⟩ ?_
 rcases bifE h with⟨hc5,h⟩|⟨hc5,h⟩
 ·refine Qa hC [.br true,.n 7,.keep [4] []] rfl ⟨tt_,hc5⟩ ?_
  cases h
  exact AK.done (ex_ [_] (an_ (an_ rfl tt_) (gives tt_)))
 ·refine Qa hC [.br false,.n 6,.o (.ln m2.length),.n 4,.keep [2,14,15,16] [2]] rfl ⟨⟨tt_,hc5⟩,Qf⟩ ?_
  obtain⟨o19,hl19,h⟩:=Qb h
  refine AK.loop (body:=(fun st=>Qes m2 n1 st)) (fun st σ=>σ=⟨[(2,.loc 2 0 0),(14,.sl 1 (m2.map Qh)),(15,.i .i64 (m2.length:Int)),(16,.i .i64 st)],[(2,.var (Qd n1))]⟩) (Sum.elim (fun q e σ=>e=.ret∧σ=⟨[(4,.b false)],[]⟩) (fun q e σ=>e=.exit 0∧σ=⟨[],[]⟩)) hl19 rfl ?_ ?_
  ·rintro x6 o σ rfl h
   replace h:Qes m2 n1 x6=some o:=h
   unfold Qes at h
   refine Qa hC [.n 6] rfl tt_ ?_
   rcases bifE h with⟨hc8,h⟩|⟨hc8,h⟩
   ·obtain⟨e9,he9,h⟩:=Qb h
    obtain⟨e10,he10,h⟩:=Qb h
    obtain⟨x11,hx11,h⟩:=Qb h
    refine Qa hC [.br true,.n 7,.o (.row (Qh e9)),.n 6,.keep [2,5,6,14,15,16] [2]] rfl ⟨⟨tt_,hc8⟩,(idxM he9)⟩ ?_
    refine AK.draw2 Qo hC mixed [.a .no none false,.a .no none false,.a .no none false,.a .no none false,.a .no none false,.a (.row (Qv e10)) none false,.a .no none false,.a .no none false,.a (.c false [.d,.d] (.i .i64 x11)) none false,.a .no none false] [] [] [2,6,7,14,15,16] [2] rfl rfl rfl ⟨⟨tt_,(idxM he10)⟩,(QhR _ _ hx11)⟩ rfl (by kernel_rfl) rfl rfl rfl ?_
    refine Qa hC [.n 2] rfl tt_ ?_
    obtain⟨x12,hv13,h⟩:=Qb h
    replace h:QgG x6 x12=some o:=h
    refine AK.meetX (fun σ=>σ=⟨[(2,.loc 2 0 0),(14,.sl 1 (m2.map Qh)),(15,.i .i64 (m2.length:Int)),(16,.i .i64 x6),(48,.b x12)],[(2,.var (Qd n1))]⟩) ?_ ?_
    ·replace h:=hv13
     unfold Qlf at h
     obtain⟨x14,hx14,h⟩:=Qb h
     refine Qa hC [.n 2,.o (.c false [.d] (.b x14)),.n 2] rfl ⟨tt_,(Qe6 _ hx14)⟩ ?_
     rcases bifE h with⟨hc15,h⟩|⟨hc15,h⟩
     ·refine Qa hC [.say 33 (.b true),.n 16,.keep [2,14,15,16,48] [2]] rfl ⟨tt_,(congrArg V.b hc15)⟩ ?_
      cases h
      exact AK.met rfl
     ·refine Qa hC [.say 33 (.b false),.n 1,.o (.ln e9.length),.n 2] rfl ⟨⟨tt_,(congrArg V.b hc15)⟩,Qf⟩ ?_
      rcases bifE h with⟨hc16,h⟩|⟨hc16,h⟩
      ·obtain⟨e17,he17,h⟩:=Qb h
       refine Qa hC [.say 37 (.b true),.n 2,.o (.ln e9.length),.n 1,.o (.row (Qy e17)),.n 7,.keep [2,14,15,16,48] [2]] rfl ⟨⟨⟨tt_,(congrArg V.b hc16)⟩,Qf⟩,(idxM he17)⟩ ?_
       cases h
       exact AK.met rfl
      ·refine Qa hC [.say 37 (.b false),.n 12,.keep [2,14,15,16,48] [2]] rfl ⟨tt_,(congrArg V.b hc16)⟩ ?_
       cases h
       exact AK.met rfl
    ·rintro σ rfl
     replace h:QgG x6 x12=some o:=h
     unfold QgG at h
     refine Qa hC [.n 1] rfl tt_ ?_
     rcases bifE h with⟨hc18,h⟩|⟨hc18,h⟩
     ·refine Qa hC [.br true,.n 8,.keep [4] []] rfl ⟨tt_,hc18⟩ ?_
      cases h
      exact rndR rfl (an_ rfl rfl)
     ·refine Qa hC [.br false,.n 7,.keep [2,14,15,16] [2]] rfl ⟨tt_,hc18⟩ ?_
      cases h
      exact rndN rfl rfl
   ·refine Qa hC [.br false,.n 2,.keep [] []] rfl ⟨tt_,hc8⟩ ?_
    cases h
    exact rndX rfl (an_ rfl rfl)
  ·rcases o19 with(_ | _)
   ·replace h:Qlg=some r:=h
    unfold Qlg at h
    rintro e σ ⟨rfl,rfl⟩
    refine Qa hC [.n 2,.keep [4] []] rfl tt_ ?_
    cases h
    exact AK.done (ex_ [_] (an_ (an_ rfl tt_) (gives tt_)))
   ·replace h:Qlh=some r:=h
    unfold Qlh at h
    rintro e σ ⟨rfl,rfl⟩
    refine Qa hC [.n 8,.keep [4] []] rfl tt_ ?_
    cases h
    exact AK.done (ex_ [_] (an_ (an_ rfl tt_) (gives tt_)))
def QgH (x11:(Int×QdZ))(n1:TNet)(m2:QMk):Option Bool:=
 bif (x11.1 != 0)then
 some true
 else
 (Qi2 n1 m2).bind fun x15=>
 some (!x15)
def Qet (n1:TNet)(work17:Int)(k18:Int):Option ((Int×Int)⊕Int):=
 bif (decide (k18<(n1.Tasks.length:Int)))then
 (idx n1.Tasks k18).bind fun e23=>
 (Qca n1 k18).bind fun x24=>
 some (.inl ((w64 (work17+(w64 (x24*(w64 (1+(w64 ((e23.Ins.length:Int)*(e23.Outs.length:Int))))))))),(w64 (k18+1))))
 else
 some (.inr work17)
def Qli (work21:Int):Option Bool:=
 some (decide (work21≤600))
def Qdo (n1:TNet)(x12:Bool):Option Bool:=
 bif x12 then
 some false
 else
 (QA (fun st=>Qet n1 st.1 st.2) (0,0)).bind (fun q=>Qli q)
def Qdp (n1:TNet)(m2:QMk):Option Bool:=
 (QjV n1).bind fun x5=>
 (QjW m2).bind fun x6=>
 bif ((!x5)||((!x6)||(decide (12<(n1.Tasks.length:Int)))))then
 some false
 else
 (Qdd n1).bind fun x11=>
 (QgH x11 n1 m2).bind (fun x12=>Qdo n1 x12)
theorem QrT (n1:TNet)(m2:QMk){r:Bool}(h:Qdp n1 m2=some r):Qc Tryz.prog 27 [.agg (Qd n1),.sl 1 (m2.map Qh)] [] (Gives (.b r) []):=by
 refine Qc.walk 69 Tryz.func27 rfl Tryz.ntmps27 rfl fun C hC=>?_
 unfold Qdp at h
 obtain⟨x5,hx5,h⟩:=Qb h
 obtain⟨x6,hx6,h⟩:=Qb h
 refine Qa hC [.n 8,.v .no [] (.agg (Qd n1)),.o (.c false [.d] (.b x5)),.n 6,.o (.c false [.d] (.b x6)),.n 5] rfl ⟨⟨⟨tt_,rfl⟩,(Qsv _ hx5)⟩,(Qsw _ hx6)⟩ ?_
 refine AK.meetX (fun σ=>σ=⟨[(1,.sl 1 (m2.map Qh)),(2,.loc 2 0 0),(27,.b ((!x5)||((!x6)||(decide (12<(n1.Tasks.length:Int))))))],[(2,.var (Qd n1))]⟩) ?_ ?_
 ·refine Qa hC [.n 4] rfl tt_ ?_
  rcases QN (!x5)with hc8 | hc8
  ·refine Qa hC [.say 18 (.b true),.n 10,.say 27 (.b ((!x5)||((!x6)||(decide (12<(n1.Tasks.length:Int)))))),.keep [1,2,27] [2]] rfl ⟨⟨tt_,(congrArg V.b hc8)⟩,(congrArg V.b (orT hc8 rfl))⟩ ?_
   exact AK.met rfl
  ·refine Qa hC [.say 18 (.b false),.n 4] rfl ⟨tt_,(congrArg V.b hc8)⟩ ?_
   rcases QN (!x6)with hc9 | hc9
   ·refine Qa hC [.say 22 (.b true),.n 6,.say 27 (.b ((!x5)||((!x6)||(decide (12<(n1.Tasks.length:Int)))))),.keep [1,2,27] [2]] rfl ⟨⟨tt_,(congrArg V.b hc9)⟩,(congrArg V.b (orF hc8 (orT hc9 rfl)))⟩ ?_
    exact AK.met rfl
   ·refine Qa hC [.say 22 (.b false),.n 2,.o (.ln n1.Tasks.length),.n 3,.say 27 (.b ((!x5)||((!x6)||(decide (12<(n1.Tasks.length:Int)))))),.keep [1,2,27] [2]] rfl ⟨⟨⟨tt_,(congrArg V.b hc9)⟩,Qf⟩,(congrArg V.b (orF hc8 (orF hc9 rfl)))⟩ ?_
    exact AK.met rfl
 ·rintro σ rfl
  refine Qa hC [.n 1] rfl tt_ ?_
  rcases bifE h with⟨hc10,h⟩|⟨hc10,h⟩
  ·refine Qa hC [.br true,.n 7,.keep [4] []] rfl ⟨tt_,hc10⟩ ?_
   cases h
   exact AK.done (ex_ [_] (an_ (an_ rfl tt_) (gives tt_)))
  ·obtain⟨x11,hx11,h⟩:=Qb h
   refine Qa hC [.br false,.n 4,.v .no [] (.agg (Qd n1)),.o (.c false [.d] (.tup [.agg (QcV x11.2),.i .i64 x11.1])),.n 5,.sayO 7 (.var (QcV x11.2)),.n 5] rfl ⟨⟨⟨⟨tt_,hc10⟩,rfl⟩,(Qsx _ hx11)⟩,rfl⟩ ?_
   obtain⟨x12,hv13,h⟩:=Qb h
   replace h:Qdo n1 x12=some r:=h
   refine AK.meetX (fun σ=>σ=⟨[(2,.loc 2 0 0),(40,.b x12)],[(2,.var (Qd n1))]⟩) ?_ ?_
   ·replace h:=hv13
    unfold QgH at h
    refine Qa hC [.n 4] rfl tt_ ?_
    rcases bifE h with⟨hc14,h⟩|⟨hc14,h⟩
    ·refine Qa hC [.say 35 (.b true),.n 6,.keep [2,40] [2]] rfl ⟨tt_,(congrArg V.b hc14)⟩ ?_
     cases h
     exact AK.met rfl
    ·obtain⟨x15,hx15,h⟩:=Qb h
     refine Qa hC [.say 35 (.b false),.v .no [] (.agg (Qd n1)),.n 1,.o (.c false [.d,.d] (.b x15)),.n 3,.keep [2,40] [2]] rfl ⟨⟨⟨tt_,(congrArg V.b hc14)⟩,rfl⟩,(QrS _ _ hx15)⟩ ?_
     cases h
     exact AK.met rfl
   ·rintro σ rfl
    replace h:Qdo n1 x12=some r:=h
    unfold Qdo at h
    refine Qa hC [.n 1] rfl tt_ ?_
    rcases bifE h with⟨hc16,h⟩|⟨hc16,h⟩
    ·refine Qa hC [.br true,.n 7,.keep [4] []] rfl ⟨tt_,hc16⟩ ?_
     cases h
     exact AK.done (ex_ [_] (an_ (an_ rfl tt_) (gives tt_)))
    ·refine Qa hC [.br false,.n 14,.keep [2,9,10] [2]] rfl ⟨tt_,hc16⟩ ?_
     obtain⟨work21,hl25,h⟩:=Qb h
     refine AK.loop (body:=(fun st=>Qet n1 st.1 st.2)) (fun st σ=>σ=⟨[(2,.loc 2 0 0),(9,.i .i64 st.1),(10,.i .i64 st.2)],[(2,.var (Qd n1))]⟩) (fun q e σ=>e=.exit 0∧σ=⟨[(9,.i .i64 q)],[]⟩) hl25 rfl ?_ ?_
     ·rintro ⟨work17,k18⟩ o σ rfl h
      replace h:Qet n1 work17 k18=some o:=h
      unfold Qet at h
      refine Qa hC [.n 6,.o (.ln n1.Tasks.length),.n 3] rfl ⟨tt_,Qf⟩ ?_
      rcases bifE h with⟨hc22,h⟩|⟨hc22,h⟩
      ·obtain⟨e23,he23,h⟩:=Qb h
       obtain⟨x24,hx24,h⟩:=Qb h
       refine Qa hC [.br true,.n 9,.o (.row (Qi e23)),.v .no [] (.agg (Qi e23)),.n 2,.sayO 11 (.var (Qi e23)),.n 2,.keep [2,9,10,11] [2,11]] rfl ⟨⟨⟨⟨tt_,hc22⟩,(idxM he23)⟩,rfl⟩,rfl⟩ ?_
       refine AK.draw2 Qo hC mixed [.a .no none false,.a .no (some ([],.agg (Qd n1))) false,.a .no none false,.a (.c false [.d,.d] (.i .i64 x24)) none false,.a .no none false,.a .no none false,.a (.ln e23.Ins.length) none false,.a .no none false,.a .no none false,.a (.ln e23.Outs.length) none false,.a .no none false,.a .no none false,.a .no none false,.a .no none false,.m .s] [] [] [2,9,10] [2] rfl rfl rfl ⟨⟨⟨⟨tt_,rfl⟩,(Qm3 _ _ hx24)⟩,Qf⟩,Qf⟩ rfl (by kernel_rfl) rfl rfl rfl ?_
       refine Qa hC [.n 7,.keep [2,9,10] [2]] rfl tt_ ?_
       cases h
       exact rndN rfl rfl
      ·refine Qa hC [.br false,.n 2,.keep [9] []] rfl ⟨tt_,hc22⟩ ?_
       cases h
       exact rndX rfl (an_ rfl rfl)
     ·replace h:Qli work21=some r:=h
      unfold Qli at h
      rintro e σ ⟨rfl,rfl⟩
      refine Qa hC [.n 10,.keep [4] []] rfl tt_ ?_
      cases h
      exact AK.done (ex_ [_] (an_ (an_ rfl tt_) (gives tt_)))
def QlE (a5:Unit):Option Int:=
 some 0
def Qc5 (n9:Int)(k11:Int)(v12:Int):Option (Int⊕Empty):=
 some (.inl (w64 (n9+v12)))
def QlF (n9:Int):Option Int:=
 some n9
def Qhv (a6:QBg):Option Int:=
 (Qh3 (fun st p=>Qc5 st p.1 p.2) 0 a6).bind (Sum.elim (fun q=>QlF q) (fun q=>Empty.elim q))
def QjX (b1:QBg):Option Int:=
 (QiX b1).bind (Sum.elim (fun q=>QlE q) (fun q=>Qhv q))
theorem Qsy (b1:QBg){r:Int}(h:QjX b1=some r):Qc Tryz.prog 55 [.sl 2 (b1.map Qy)] [] (Gives (.i .i64 r) []):=by
 refine Qc.walk 23 Tryz.func55 rfl Tryz.ntmps55 rfl fun C hC=>?_
 unfold QjX at h
 obtain⟨x4,hx4,h⟩:=Qb h
 refine Qa hC [.n 8] rfl tt_ ?_
 rcases x4 with(a5 | a6)
 ·replace h:QlE a5=some r:=h
  unfold QlE at h
  refine Qa hC [.cm (.fn) [] [] [] [.d] [] (.tup [.lit (.map none),.b false]),.n 16,.x (fun σ=>(σ.set 14 .itr0).put 14 (.loc 14 0 0)),.n 3] rfl ⟨⟨tt_,(Qe2 _ hx4)⟩,(Stp.range0 rfl rfl (bleN hC.n rfl) rfl Qd7 rfl)⟩ ?_
  refine AK.loopOnce ?_
  refine Qa hC [.n 2,.x (fun σ=>σ.put 15 (.tup [.b false])),.n 17,.keep [2] []] rfl ⟨tt_,(Stp.next0 rfl rfl (bleN hC.n rfl) rfl rfl)⟩ ?_
  cases h
  exact AK.done (ex_ [_] (an_ (an_ rfl tt_) (gives tt_)))
 ·replace h:Qhv a6=some r:=h
  unfold Qhv at h
  refine Qa hC [.cm (.fn) [] [(10,30002)] [] [.d] [(30002,.map (mapV (V.i .i64) (V.i .i64) a6))] (.tup [.map 30002,.b true]),.n 16] rfl ⟨tt_,(Qe2 _ hx4)⟩ ?_
  refine AK.openMap (b:=10) ky_3 rfl fun bm7 cl7 L7 hbn7 hpm7=>?_
  refine Qa hC [.x (fun σ=>(σ.set 14 (.itr bm7 cl7 #[] none)).put 14 (.loc 14 0 0)),.n 3,.keep [5,14] [10,14]] rfl ⟨tt_,(Stp.range (b:=10) rfl rfl (bleN hC.n rfl) rfl rfl Qd7 rfl)⟩ ?_
  obtain⟨o13,hl13,h⟩:=Qb h
  refine AK.range (body:=(fun st p=>Qc5 st p.1 p.2)) (fun st seen σ=>∃cur:Option MapEntry,σ=⟨[(5,.i .i64 st),(14,.loc 14 0 0)],[(10,.mapX bm7 cl7 (typV (V.i .i64) (V.i .i64) L7) (mapV (V.i .i64) (V.i .i64) a6)),(14,.itr bm7 cl7 seen cur)]⟩) (fun (q:Empty) _ _=>False) (fun st e σ=>e=.exit 0∧σ=⟨[(5,.i .i64 st)],[]⟩) hbn7 hpm7 hl13 (ex_ _ rfl) ?_ ?_
  ·rintro n9 seen σ ⟨cur,rfl⟩ hex
   refine Qa hC [.n 2] rfl tt_ ?_
   refine AK.nextT (b:=14) (m:=10) rfl rfl rfl (bleN hC.n rfl) rfl rfl rfl rfl ?_ ?_
   ·intro hleft
    refine Qa hC [.n 7,.keep [5] []] rfl tt_ ?_
    exact AK.done (Or.inl (an_ hleft (an_ (fun h=>(by cases h)) (an_ rfl rfl))))
   ·intro xk11 k11 v12 hq8
    obtain⟨o,h⟩:=hex _ hq8
    have ho:=h
    replace h:Qc5 n9 k11 v12=some o:=h
    unfold Qc5 at h
    refine Qa hC [.n 10,.x (fun σ=>σ.put 17 (.tup [.i .i64 k11,.i .i64 v12])),.n 11,.keep [5,14] [10,14]] rfl ⟨tt_,(Stp.entryT (b:=14) (m:=10) rfl rfl (bleN hC.n rfl) rfl hq8 rfl rfl)⟩ ?_
    cases h
    exact AK.done (Or.inr (ex_ _ (an_ hq8 (Or.inl (ex_ _ (an_ ho (an_ rfl (ex_ _ rfl))))))))
  ·rcases o13 with(n9 | q)
   ·replace h:QlF n9=some r:=h
    unfold QlF at h
    rintro e σ ⟨rfl,rfl⟩
    refine Qa hC [.n 9,.keep [2] []] rfl tt_ ?_
    cases h
    exact AK.done (ex_ [_] (an_ (an_ rfl tt_) (gives tt_)))
   ·exact q.elim
def Qdq (m1:QMk)(n3:Int)(x4:Int):Option ((Int×Int)⊕Int):=
 bif (decide (x4<(m1.length:Int)))then
 (idx m1 x4).bind fun e9=>
 (QjX e9).bind fun x10=>
 some (.inl ((w64 (n3+x10)),(w64 (x4+1))))
 else
 some (.inr n3)
def Qlj (n7:Int):Option Int:=
 some n7
def Qi3 (m1:QMk):Option Int:=
 (QA (fun st=>Qdq m1 st.1 st.2) (0,0)).bind (fun q=>Qlj q)
theorem QrU (m1:QMk){r:Int}(h:Qi3 m1=some r):Qc Tryz.prog 28 [.sl 1 (m1.map Qh)] [] (Gives (.i .i64 r) []):=by
 refine Qc.walk 18 Tryz.func28 rfl Tryz.ntmps28 rfl fun C hC=>?_
 unfold Qi3 at h
 refine Qa hC [.n 14,.o (.ln m1.length),.n 4,.keep [3,6,7,8] []] rfl ⟨tt_,Qf⟩ ?_
 obtain⟨n7,hl11,h⟩:=Qb h
 refine AK.loop (body:=(fun st=>Qdq m1 st.1 st.2)) (fun st σ=>σ=⟨[(3,.i .i64 st.1),(6,.sl 1 (m1.map Qh)),(7,.i .i64 (m1.length:Int)),(8,.i .i64 st.2)],[]⟩) (fun q e σ=>e=.exit 0∧σ=⟨[(3,.i .i64 q)],[]⟩) hl11 rfl ?_ ?_
 ·rintro ⟨n3,x4⟩ o σ rfl h
  replace h:Qdq m1 n3 x4=some o:=h
  unfold Qdq at h
  refine Qa hC [.n 6] rfl tt_ ?_
  rcases bifE h with⟨hc8,h⟩|⟨hc8,h⟩
  ·obtain⟨e9,he9,h⟩:=Qb h
   obtain⟨x10,hx10,h⟩:=Qb h
   refine Qa hC [.br true,.n 6,.o (.row (Qh e9)),.n 7,.o (.c false [.d] (.i .i64 x10)),.n 9,.keep [3,6,7,8] []] rfl ⟨⟨⟨tt_,hc8⟩,(idxM he9)⟩,(Qsy _ hx10)⟩ ?_
   cases h
   exact rndN rfl rfl
  ·refine Qa hC [.br false,.n 2,.keep [3] []] rfl ⟨tt_,hc8⟩ ?_
   cases h
   exact rndX rfl (an_ rfl rfl)
 ·replace h:Qlj n7=some r:=h
  unfold Qlj at h
  rintro e σ ⟨rfl,rfl⟩
  refine Qa hC [.n 9,.keep [2] []] rfl tt_ ?_
  cases h
  exact AK.done (ex_ [_] (an_ (an_ rfl tt_) (gives tt_)))
def QiH (x5:Bool)(budget3:Int)(n1:TNet)(m2:QMk):Option Bool:=
 bif x5 then
 bif (decide (budget3≤12))then
 bif (decide ((n1.Tasks.length:Int)≤6))then
 (Qi3 m2).bind fun x11=>
 some (decide (x11≤30))
 else
 some false
 else
 some false
 else
 some false
def Qeu (x6:Bool):Option Bool:=
 some x6
def Qhw (n1:TNet)(m2:QMk)(budget3:Int):Option Bool:=
 (Qdp n1 m2).bind fun x5=>
 (QiH x5 budget3 n1 m2).bind (fun x6=>Qeu x6)
theorem QrV (n1:TNet)(m2:QMk)(budget3:Int){r:Bool}(h:Qhw n1 m2 budget3=some r):Qc Tryz.prog 9 [.agg (Qd n1),.sl 1 (m2.map Qh),.i .i64 budget3] [] (Gives (.b r) []):=by
 refine Qc.walk 27 Tryz.func9 rfl Tryz.ntmps9 rfl fun C hC=>?_
 unfold Qhw at h
 obtain⟨x5,hx5,h⟩:=Qb h
 refine Qa hC [.n 8,.v .no [] (.agg (Qd n1)),.n 1,.o (.c false [.d,.d] (.b x5)),.n 4] rfl ⟨⟨tt_,rfl⟩,(QrT _ _ hx5)⟩ ?_
 obtain⟨x6,hv7,h⟩:=Qb h
 replace h:Qeu x6=some r:=h
 refine AK.meetX (fun σ=>σ=⟨[(6,.b x6)],[]⟩) ?_ ?_
 ·replace h:=hv7
  unfold QiH at h
  refine Qa hC [.n 3] rfl tt_ ?_
  rcases bifE h with⟨hc8,h⟩|⟨hc8,h⟩
  ·refine Qa hC [.say 12 (.b true),.n 4] rfl ⟨tt_,(congrArg V.b hc8)⟩ ?_
   rcases bifE h with⟨hc9,h⟩|⟨hc9,h⟩
   ·refine Qa hC [.say 16 (.b true),.n 2,.o (.ln n1.Tasks.length),.n 3] rfl ⟨⟨tt_,(congrArg V.b hc9)⟩,Qf⟩ ?_
    rcases bifE h with⟨hc10,h⟩|⟨hc10,h⟩
    ·obtain⟨x11,hx11,h⟩:=Qb h
     refine Qa hC [.say 22 (.b true),.n 1,.o (.c false [.d] (.i .i64 x11)),.n 4,.keep [6] []] rfl ⟨⟨tt_,(congrArg V.b hc10)⟩,(QrU _ hx11)⟩ ?_
     cases h
     exact AK.met rfl
    ·refine Qa hC [.say 22 (.b false),.n 6,.keep [6] []] rfl ⟨tt_,(congrArg V.b hc10)⟩ ?_
     cases h
     exact AK.met rfl
   ·refine Qa hC [.say 16 (.b false),.n 12,.keep [6] []] rfl ⟨tt_,(congrArg V.b hc9)⟩ ?_
    cases h
    exact AK.met rfl
  ·refine Qa hC [.say 12 (.b false),.n 16,.keep [6] []] rfl ⟨tt_,(congrArg V.b hc8)⟩ ?_
   cases h
   exact AK.met rfl
 ·rintro σ rfl
  replace h:Qeu x6=some r:=h
  unfold Qeu at h
  refine Qa hC [.n 2,.keep [6] []] rfl tt_ ?_
  cases h
  exact AK.done (ex_ [_] (an_ (an_ rfl tt_) (gives tt_)))
def Qie (n1:TNet)(m2:QMk):Option Int:=
 (QeX n1 m2 60).bind fun x4=>
 some (x4.length:Int)
theorem Qra (n1:TNet)(m2:QMk){r:Int}(h:Qie n1 m2=some r):Qc Tryz.prog 10 [.agg (Qd n1),.sl 1 (m2.map Qh)] [] (Gives (.i .i64 r) []):=by
 refine Qc.walk 9 Tryz.func10 rfl Tryz.ntmps10 rfl fun C hC=>?_
 unfold Qie at h
 obtain⟨x4,hx4,h⟩:=Qb h
 refine Qa hC [.n 8,.v .no [] (.agg (Qd n1)),.n 1,.o (.co false [.d,.d,.d] 4 (x4.map Qj) x4.length),.n 5,.keep [4] []] rfl ⟨⟨tt_,rfl⟩,⟨(Qj6 _ _ _ hx4),Qf,.inl rfl⟩⟩ ?_
 cases h
 exact AK.done (ex_ [_] (an_ (an_ rfl tt_) (gives tt_)))
def QO (s1:QBg)(s2:QBg)(x6:Int):Option (Int⊕(Unit⊕Unit)):=
 bif (decide (x6<(s1.length:Int)))then
 (idx s1 x6).bind fun e9=>
 (idx s2 x6).bind fun e10=>
 bif (!((e9.1==e10.1)&&(e9.2==e10.2)))then
 some (.inr (.inl ()))
 else
 some (.inl (w64 (x6+1)))
 else
 some (.inr (.inr ()))
def Qc9 : Option Bool:=
 some false
def Qda : Option Bool:=
 some true
def Q3 (s1:QBg)(s2:QBg):Option Bool:=
 bif ((s1.length:Int) != (s2.length:Int))then
 some false
 else
 (QA (fun st=>QO s1 s2 st) 0).bind (Sum.elim (fun q=>Qc9) (fun q=>Qda))
theorem QkK (s1:QBg)(s2:QBg){r:Bool}(h:Q3 s1 s2=some r):Qc Tryz.prog 91 [.sl 2 (s1.map Qy),.sl 2 (s2.map Qy)] [] (Gives (.b r) []):=by
 refine Qc.walk 26 Tryz.func91 rfl Tryz.ntmps91 rfl fun C hC=>?_
 unfold Q3 at h
 refine Qa hC [.n 9,.o (.ln s1.length),.n 1,.o (.ln s2.length),.n 3] rfl ⟨⟨tt_,Qf⟩,Qf⟩ ?_
 rcases bifE h with⟨hc5,h⟩|⟨hc5,h⟩
 ·refine Qa hC [.br true,.n 7,.keep [4] []] rfl ⟨tt_,hc5⟩ ?_
  cases h
  exact AK.done (ex_ [_] (an_ (an_ rfl tt_) (gives tt_)))
 ·refine Qa hC [.br false,.n 6,.o (.ln s1.length),.n 4,.keep [0,1,12,13] []] rfl ⟨⟨tt_,hc5⟩,Qf⟩ ?_
  obtain⟨o12,hl12,h⟩:=Qb h
  refine AK.loop (body:=(fun st=>QO s1 s2 st)) (fun st σ=>σ=⟨[(0,.sl 2 (s1.map Qy)),(1,.sl 2 (s2.map Qy)),(12,.i .i64 (s1.length:Int)),(13,.i .i64 st)],[]⟩) (Sum.elim (fun q e σ=>e=.ret∧σ=⟨[(4,.b false)],[]⟩) (fun q e σ=>e=.exit 0∧σ=⟨[],[]⟩)) hl12 rfl ?_ ?_
  ·rintro x6 o σ rfl h
   replace h:QO s1 s2 x6=some o:=h
   unfold QO at h
   refine Qa hC [.n 6] rfl tt_ ?_
   rcases bifE h with⟨hc8,h⟩|⟨hc8,h⟩
   ·obtain⟨e9,he9,h⟩:=Qb h
    obtain⟨e10,he10,h⟩:=Qb h
    refine Qa hC [.br true,.n 11,.keep [0,1,5,12,13] []] rfl ⟨tt_,hc8⟩ ?_
    refine AK.draw2 Qo hC mixed [.a .no none false,.a .no none false,.a (.row (Qy e9)) none false,.a .no (some ([],.agg (Qy e9))) false,.a .no none false,.a .no none false,.a (.row (Qy e10)) none false,.a .no (some ([],.agg (Qy e10))) false,.a (.any (.b (!((e9.1==e10.1)&&(e9.2==e10.2)))) none) none false] [] [] [0,1,12,13,24] [] rfl rfl rfl ⟨⟨⟨⟨⟨tt_,(idxM he9)⟩,rfl⟩,(idxM he10)⟩,rfl⟩,(fun σ h1 h2 _=>Stp.neAgg rfl rfl (bleN hC.n rfl) (h1 _ _ rfl) (h1 _ _ rfl) rfl rfl (Qx3 _ _ _ _))⟩ rfl (by kernel_rfl) rfl rfl rfl ?_
    refine Qa hC [.n 1] rfl tt_ ?_
    rcases bifE h with⟨hc11,h⟩|⟨hc11,h⟩
    ·refine Qa hC [.br true,.n 8,.keep [4] []] rfl ⟨tt_,hc11⟩ ?_
     cases h
     exact rndR rfl (an_ rfl rfl)
    ·refine Qa hC [.br false,.n 7,.keep [0,1,12,13] []] rfl ⟨tt_,hc11⟩ ?_
     cases h
     exact rndN rfl rfl
   ·refine Qa hC [.br false,.n 2,.keep [] []] rfl ⟨tt_,hc8⟩ ?_
    cases h
    exact rndX rfl (an_ rfl rfl)
  ·rcases o12 with(_ | _)
   ·replace h:Qc9=some r:=h
    unfold Qc9 at h
    rintro e σ ⟨rfl,rfl⟩
    refine Qa hC [.n 2,.keep [4] []] rfl tt_ ?_
    cases h
    exact AK.done (ex_ [_] (an_ (an_ rfl tt_) (gives tt_)))
   ·replace h:Qda=some r:=h
    unfold Qda at h
    rintro e σ ⟨rfl,rfl⟩
    refine Qa hC [.n 8,.keep [4] []] rfl tt_ ?_
    cases h
    exact AK.done (ex_ [_] (an_ (an_ rfl tt_) (gives tt_)))
def Qkb (a1:QBg)(b2:QBg):Option Bool:=
 (Qb9 a1).bind fun x6=>
 bif x6 then
 (Qb9 b2).bind fun x8=>
 bif x8 then
 (Q3 a1 b2).bind fun x10=>
 some x10
 else
 some false
 else
 some false
def Qkc (x4:Bool):Option Bool:=
 some x4
def Qjo (a1:QBg)(b2:QBg):Option Bool:=
 (Qkb a1 b2).bind (fun x4=>Qkc x4)
theorem Qs9 (a1:QBg)(b2:QBg){r:Bool}(h:Qjo a1 b2=some r):Qc Tryz.prog 47 [.sl 2 (a1.map Qy),.sl 2 (b2.map Qy)] [] (Gives (.b r) []):=by
 refine Qc.walk 16 Tryz.func47 rfl Tryz.ntmps47 rfl fun C hC=>?_
 unfold Qjo at h
 refine Qa hC [.n 6] rfl tt_ ?_
 obtain⟨x4,hv5,h⟩:=Qb h
 replace h:Qkc x4=some r:=h
 refine AK.meetX (fun σ=>σ=⟨[(4,.b x4)],[]⟩) ?_ ?_
 ·replace h:=hv5
  unfold Qkb at h
  obtain⟨x6,hx6,h⟩:=Qb h
  refine Qa hC [.n 2,.o (.c false [.d] (.b x6)),.n 1] rfl ⟨tt_,(Qe6 _ hx6)⟩ ?_
  rcases bifE h with⟨hc7,h⟩|⟨hc7,h⟩
  ·obtain⟨x8,hx8,h⟩:=Qb h
   refine Qa hC [.say 7 (.b true),.n 1,.o (.c false [.d] (.b x8)),.n 2] rfl ⟨⟨tt_,(congrArg V.b hc7)⟩,(Qe6 _ hx8)⟩ ?_
   rcases bifE h with⟨hc9,h⟩|⟨hc9,h⟩
   ·obtain⟨x10,hx10,h⟩:=Qb h
    refine Qa hC [.say 11 (.b true),.n 2,.o (.c false [.d,.d] (.b x10)),.n 3,.keep [4] []] rfl ⟨⟨tt_,(congrArg V.b hc9)⟩,(QkK _ _ hx10)⟩ ?_
    cases h
    exact AK.met rfl
   ·refine Qa hC [.say 11 (.b false),.n 6,.keep [4] []] rfl ⟨tt_,(congrArg V.b hc9)⟩ ?_
    cases h
    exact AK.met rfl
  ·refine Qa hC [.say 7 (.b false),.n 10,.keep [4] []] rfl ⟨tt_,(congrArg V.b hc7)⟩ ?_
   cases h
   exact AK.met rfl
 ·rintro σ rfl
  replace h:Qkc x4=some r:=h
  unfold Qkc at h
  refine Qa hC [.n 2,.keep [4] []] rfl tt_ ?_
  cases h
  exact AK.done (ex_ [_] (an_ (an_ rfl tt_) (gives tt_)))
def Qt (s1:QMk)(s2:QMk)(x6:Int):Option (Int⊕(Unit⊕Unit)):=
 bif (decide (x6<(s1.length:Int)))then
 (idx s1 x6).bind fun e9=>
 (idx s2 x6).bind fun e10=>
 (Qjo e9 e10).bind fun x11=>
 bif (!x11)then
 some (.inr (.inl ()))
 else
 some (.inl (w64 (x6+1)))
 else
 some (.inr (.inr ()))
def Q0 : Option Bool:=
 some false
def Q1 : Option Bool:=
 some true
def QK (s1:QMk)(s2:QMk):Option Bool:=
 bif ((s1.length:Int) != (s2.length:Int))then
 some false
 else
 (QA (fun st=>Qt s1 s2 st) 0).bind (Sum.elim (fun q=>Q0) (fun q=>Q1))
theorem QcU (s1:QMk)(s2:QMk){r:Bool}(h:QK s1 s2=some r):Qc Tryz.prog 46 [.sl 1 (s1.map Qh),.sl 1 (s2.map Qh),.clo (.func 47) [] []] [] (Gives (.b r) []):=by
 refine Qc.walk 32 Tryz.func46 rfl Tryz.ntmps46 rfl fun C hC=>?_
 unfold QK at h
 refine Qa hC [.n 9,.o (.ln s1.length),.n 1,.o (.ln s2.length),.n 3] rfl ⟨⟨tt_,Qf⟩,Qf⟩ ?_
 rcases bifE h with⟨hc5,h⟩|⟨hc5,h⟩
 ·refine Qa hC [.br true,.n 7,.keep [6] []] rfl ⟨tt_,hc5⟩ ?_
  cases h
  exact AK.done (ex_ [_] (an_ (an_ rfl tt_) (gives tt_)))
 ·refine Qa hC [.br false,.n 6,.o (.ln s1.length),.n 4,.keep [1,2,15,16,17] []] rfl ⟨⟨tt_,hc5⟩,Qf⟩ ?_
  obtain⟨o13,hl13,h⟩:=Qb h
  refine AK.loop (body:=(fun st=>Qt s1 s2 st)) (fun st σ=>σ=⟨[(1,.sl 1 (s2.map Qh)),(2,.clo (.func 47) [] []),(15,.sl 1 (s1.map Qh)),(16,.i .i64 (s1.length:Int)),(17,.i .i64 st)],[]⟩) (Sum.elim (fun q e σ=>e=.ret∧σ=⟨[(6,.b false)],[]⟩) (fun q e σ=>e=.exit 0∧σ=⟨[],[]⟩)) hl13 rfl ?_ ?_
  ·rintro x6 o σ rfl h
   replace h:Qt s1 s2 x6=some o:=h
   unfold Qt at h
   refine Qa hC [.n 6] rfl tt_ ?_
   rcases bifE h with⟨hc8,h⟩|⟨hc8,h⟩
   ·obtain⟨e9,he9,h⟩:=Qb h
    obtain⟨e10,he10,h⟩:=Qb h
    obtain⟨x11,hx11,h⟩:=Qb h
    refine Qa hC [.br true,.n 7,.o (.row (Qh e9)),.n 9,.o (.row (Qh e10)),.n 9,.o (.c false [.d,.d] (.b x11)),.n 3] rfl ⟨⟨⟨⟨tt_,hc8⟩,(idxM he9)⟩,(idxM he10)⟩,(Qs9 _ _ hx11)⟩ ?_
    rcases bifE h with⟨hc12,h⟩|⟨hc12,h⟩
    ·refine Qa hC [.br true,.n 8,.keep [6] []] rfl ⟨tt_,hc12⟩ ?_
     cases h
     exact rndR rfl (an_ rfl rfl)
    ·refine Qa hC [.br false,.n 7,.keep [1,2,15,16,17] []] rfl ⟨tt_,hc12⟩ ?_
     cases h
     exact rndN rfl rfl
   ·refine Qa hC [.br false,.n 2,.keep [] []] rfl ⟨tt_,hc8⟩ ?_
    cases h
    exact rndX rfl (an_ rfl rfl)
  ·rcases o13 with(_ | _)
   ·replace h:Q0=some r:=h
    unfold Q0 at h
    rintro e σ ⟨rfl,rfl⟩
    refine Qa hC [.n 2,.keep [6] []] rfl tt_ ?_
    cases h
    exact AK.done (ex_ [_] (an_ (an_ rfl tt_) (gives tt_)))
   ·replace h:Q1=some r:=h
    unfold Q1 at h
    rintro e σ ⟨rfl,rfl⟩
    refine Qa hC [.n 8,.keep [6] []] rfl tt_ ?_
    cases h
    exact AK.done (ex_ [_] (an_ (an_ rfl tt_) (gives tt_)))
def Qe5 (a1:QMk)(b2:QMk):Option Bool:=
 (QK a1 b2).bind fun x4=>
 some x4
theorem Qsz (a1:QMk)(b2:QMk){r:Bool}(h:Qe5 a1 b2=some r):Qc Tryz.prog 24 [.sl 1 (a1.map Qh),.sl 1 (b2.map Qh)] [] (Gives (.b r) []):=by
 refine Qc.walk 8 Tryz.func24 rfl Tryz.ntmps24 rfl fun C hC=>?_
 unfold Qe5 at h
 obtain⟨x4,hx4,h⟩:=Qb h
 refine Qa hC [.n 9,.cm (.fn) [] [] [] [.d,.d,.d] [] (.b x4),.n 4,.keep [4] []] rfl ⟨tt_,(QcU _ _ hx4)⟩ ?_
 cases h
 exact AK.done (ex_ [_] (an_ (an_ rfl tt_) (gives tt_)))
def Qf2 (in_24:Bool)(x11:((List QMk)×Bool))(j25:Int)(x23:(QMk×Int)):Option Bool:=
 bif in_24 then
 some true
 else
 (idx x11.1 j25).bind fun e33=>
 (Qe5 x23.1 e33).bind fun x34=>
 some x34
def Qcm (j25:Int)(in_30:Bool):Option ((Bool×Int)⊕Bool):=
 some (.inl (in_30,(w64 (j25+1))))
def Qal (x11:((List QMk)×Bool))(x23:(QMk×Int))(in_24:Bool)(j25:Int):Option ((Bool×Int)⊕Bool):=
 bif (decide (j25<(x11.1.length:Int)))then
 (Qf2 in_24 x11 j25 x23).bind (fun in_30=>Qcm j25 in_30)
 else
 some (.inr in_24)
def Qf3 (k18:Int)(in_28:Bool):Option (Int⊕(Unit⊕Unit)):=
 bif (!in_28)then
 some (.inr (.inl ()))
 else
 some (.inl (w64 (k18+1)))
def QaX (x17:(List Qk))(x11:((List QMk)×Bool))(i13:Int)(n1:TNet)(k18:Int):Option (Int⊕(Unit⊕Unit)):=
 bif (decide (k18<(x17.length:Int)))then
 (idx x11.1 i13).bind fun e21=>
 (idx x17 k18).bind fun e22=>
 (QdB n1 e21 e22).bind fun x23=>
 (QA (fun st=>Qal x11 x23 st.1 st.2) ((x23.2 != 0),0)).bind (fun q=>Qf3 k18 q)
 else
 some (.inr (.inr ()))
def Qf4 : Option (Int⊕(Unit⊕Unit)):=
 some (.inr (.inl ()))
def Qf5 (i13:Int):Option (Int⊕(Unit⊕Unit)):=
 some (.inl (w64 (i13+1)))
def QaY (x11:((List QMk)×Bool))(n1:TNet)(i13:Int):Option (Int⊕(Unit⊕Unit)):=
 bif (decide (i13<(x11.1.length:Int)))then
 (idx x11.1 i13).bind fun e16=>
 (QeX n1 e16 200).bind fun x17=>
 (QA (fun st=>QaX x17 x11 i13 n1 st) 0).bind (Sum.elim (fun q=>Qf4) (fun q=>Qf5 i13))
 else
 some (.inr (.inr ()))
def Qf6 : Option Bool:=
 some false
def QfV (x6:Bool):Option Bool:=
 some x6
def Qcg (n1:TNet)(m2:QMk)(budget3:Int):Option Bool:=
 (Qj9).bind fun x6=>
 (Qhw n1 m2 budget3).bind fun x7=>
 bif (!x7)then
 some x6
 else
 (Qie n1 m2).bind fun x9=>
 bif (decide (40≤x9))then
 some x6
 else
 (QdY n1 m2 (-1) budget3).bind fun x11=>
 bif (!x11.2)then
 some x6
 else
 (QA (fun st=>QaY x11 n1 st) 0).bind (Sum.elim (fun q=>Qf6) (fun q=>QfV x6))
theorem Qnh (n1:TNet)(m2:QMk)(budget3:Int){r:Bool}(h:Qcg n1 m2 budget3=some r):Qc Tryz.prog 7 [.agg (Qd n1),.sl 1 (m2.map Qh),.i .i64 budget3] [] (Gives (.b r) []):=by
 refine Qc.walk 92 Tryz.func7 rfl Tryz.ntmps7 rfl fun C hC=>?_
 unfold Qcg at h
 obtain⟨x6,hx6,h⟩:=Qb h
 obtain⟨x7,hx7,h⟩:=Qb h
 refine Qa hC [.n 8,.o (.c false [] (.b x6)),.n 5,.v .no [] (.agg (Qd n1)),.n 2,.o (.c false [.d,.d,.d] (.b x7)),.n 10] rfl ⟨⟨⟨tt_,(QqY  hx6)⟩,rfl⟩,(QrV _ _ _ hx7)⟩ ?_
 rcases bifE h with⟨hc8,h⟩|⟨hc8,h⟩
 ·refine Qa hC [.br true,.n 8,.keep [6] []] rfl ⟨tt_,hc8⟩ ?_
  cases h
  exact AK.done (ex_ [_] (an_ (an_ rfl tt_) (gives tt_)))
 ·obtain⟨x9,hx9,h⟩:=Qb h
  refine Qa hC [.br false,.n 5,.v .no [] (.agg (Qd n1)),.n 1,.o (.c false [.d,.d] (.i .i64 x9)),.n 3] rfl ⟨⟨⟨tt_,hc8⟩,rfl⟩,(Qra _ _ hx9)⟩ ?_
  rcases bifE h with⟨hc10,h⟩|⟨hc10,h⟩
  ·refine Qa hC [.br true,.n 8,.keep [6] []] rfl ⟨tt_,hc10⟩ ?_
   cases h
   exact AK.done (ex_ [_] (an_ (an_ rfl tt_) (gives tt_)))
  ·obtain⟨x11,hx11,h⟩:=Qb h
   refine Qa hC [.br false,.n 4,.v .no [] (.agg (Qd n1)),.n 2,.o (.c false [.d,.d,.d,.d] (.tup [.sl 1 (x11.1.map Qs),.b x11.2])),.n 14] rfl ⟨⟨⟨tt_,hc10⟩,rfl⟩,(QjB _ _ _ _ hx11)⟩ ?_
   rcases bifE h with⟨hc12,h⟩|⟨hc12,h⟩
   ·refine Qa hC [.br true,.n 8,.keep [6] []] rfl ⟨tt_,hc12⟩ ?_
    cases h
    exact AK.done (ex_ [_] (an_ (an_ rfl tt_) (gives tt_)))
   ·refine Qa hC [.br false,.n 9,.keep [3,7,9,11] [3]] rfl ⟨tt_,hc12⟩ ?_
    obtain⟨o38,hl38,h⟩:=Qb h
    refine AK.loop (body:=(fun st=>QaY x11 n1 st)) (fun st σ=>σ=⟨[(3,.loc 3 0 0),(7,.b x6),(9,.sl 1 (x11.1.map Qs)),(11,.i .i64 st)],[(3,.var (Qd n1))]⟩) (Sum.elim (fun q e σ=>e=.ret∧σ=⟨[(6,.b false)],[]⟩) (fun q e σ=>e=.exit 0∧σ=⟨[(7,.b x6)],[]⟩)) hl38 rfl ?_ ?_
    ·rintro i13 o σ rfl h
     replace h:QaY x11 n1 i13=some o:=h
     unfold QaY at h
     refine Qa hC [.n 5,.o (.ln x11.1.length),.n 3] rfl ⟨tt_,Qf⟩ ?_
     rcases bifE h with⟨hc15,h⟩|⟨hc15,h⟩
     ·obtain⟨e16,he16,h⟩:=Qb h
      obtain⟨x17,hx17,h⟩:=Qb h
      refine Qa hC [.br true,.n 5,.keep [3,7,9,11] [3]] rfl ⟨tt_,hc15⟩ ?_
      refine AK.draw2 Qo hC mixed [.a .no (some ([],.agg (Qd n1))) false,.a .no none false,.a .no none false,.a (.row (Qs e16)) none false,.a .no none false,.a (.co false [.d,.d,.d] 4 (x17.map Qj) x17.length) none false,.a .no none false] [] [] [3,7,9,11,12] [3,52] rfl rfl rfl ⟨⟨⟨tt_,rfl⟩,(idxM he16)⟩,⟨(Qj6 _ _ _ hx17),Qf,.inl rfl⟩⟩ rfl (by kernel_rfl) rfl rfl rfl ?_
      refine Qa hC [.n 7,.keep [3,7,9,11,12,13] [3,52]] rfl tt_ ?_
      obtain⟨o37,hl37,h⟩:=Qb h
      refine AK.loop (body:=(fun st=>QaX x17 x11 i13 n1 st)) (fun st σ=>σ=⟨[(3,.loc 3 0 0),(7,.b x6),(9,.sl 1 (x11.1.map Qs)),(11,.i .i64 i13),(12,.own 52 x17.length),(13,.i .i64 st)],[(3,.var (Qd n1)),(52,.arr 4 (x17.map Qj))]⟩) (Sum.elim (fun q e σ=>e=.ret∧σ=⟨[(6,.b false)],[]⟩) (fun q e σ=>e=.exit 2∧σ=⟨[(3,.loc 3 0 0),(7,.b x6),(9,.sl 1 (x11.1.map Qs)),(11,.i .i64 i13)],[(3,.var (Qd n1))]⟩)) hl37 rfl ?_ ?_
      ·rintro k18 o σ rfl h
       replace h:QaX x17 x11 i13 n1 k18=some o:=h
       unfold QaX at h
       refine Qa hC [.n 9] rfl tt_ ?_
       rcases bifE h with⟨hc20,h⟩|⟨hc20,h⟩
       ·obtain⟨e21,he21,h⟩:=Qb h
        obtain⟨e22,he22,h⟩:=Qb h
        obtain⟨x23,hx23,h⟩:=Qb h
        refine Qa hC [.br true,.n 5,.keep [3,7,9,11,12,13] [3,52]] rfl ⟨tt_,hc20⟩ ?_
        refine AK.draw2 Qo hC mixed [.a .no (some ([],.agg (Qd n1))) false,.a .no none false,.a .no none false,.a (.row (Qs e21)) none false,.a .no none false,.a .no none false,.a .no none false,.a .no none false,.a (.row (Qj e22)) (some ([],.agg (Qj e22))) false,.a (.c false [.d,.d,.d] (.tup [.sl 1 (x23.1.map Qh),.i .i64 x23.2])) none false,.a .no none false,.a .no none false,.a .no none false,.a .no none false,.a .no none false] [] [] [3,7,9,11,12,13,14,15] [3,52] rfl rfl rfl ⟨⟨⟨⟨⟨⟨tt_,rfl⟩,(idxM he21)⟩,(QdE he22 rfl)⟩,(QbZ (idxE he22).2)⟩,rfl⟩,(QpB _ _ _ hx23)⟩ rfl (by kernel_rfl) rfl rfl rfl ?_
        refine Qa hC [.n 15,.keep [3,7,9,11,12,13,14,16,17] [3,52]] rfl tt_ ?_
        obtain⟨in_28,hl35,h⟩:=Qb h
        refine AK.loop (body:=(fun st=>Qal x11 x23 st.1 st.2)) (fun st σ=>σ=⟨[(3,.loc 3 0 0),(7,.b x6),(9,.sl 1 (x11.1.map Qs)),(11,.i .i64 i13),(12,.own 52 x17.length),(13,.i .i64 k18),(14,.sl 1 (x23.1.map Qh)),(16,.b st.1),(17,.i .i64 st.2)],[(3,.var (Qd n1)),(52,.arr 4 (x17.map Qj))]⟩) (fun q e σ=>e=.exit 4∧σ=⟨[(3,.loc 3 0 0),(7,.b x6),(9,.sl 1 (x11.1.map Qs)),(11,.i .i64 i13),(12,.own 52 x17.length),(13,.i .i64 k18),(16,.b q)],[(3,.var (Qd n1)),(52,.arr 4 (x17.map Qj))]⟩) hl35 rfl ?_ ?_
        ·rintro ⟨in_24,j25⟩ o σ rfl h
         replace h:Qal x11 x23 in_24 j25=some o:=h
         unfold Qal at h
         refine Qa hC [.n 5,.o (.ln x11.1.length),.n 3] rfl ⟨tt_,Qf⟩ ?_
         rcases bifE h with⟨hc29,h⟩|⟨hc29,h⟩
         ·refine Qa hC [.br true,.n 4] rfl ⟨tt_,hc29⟩ ?_
          obtain⟨in_30,hv31,h⟩:=Qb h
          replace h:Qcm j25 in_30=some o:=h
          refine AK.meetX (fun σ=>σ=⟨[(3,.loc 3 0 0),(7,.b x6),(9,.sl 1 (x11.1.map Qs)),(11,.i .i64 i13),(12,.own 52 x17.length),(13,.i .i64 k18),(14,.sl 1 (x23.1.map Qh)),(16,.b in_30),(17,.i .i64 j25)],[(3,.var (Qd n1)),(52,.arr 4 (x17.map Qj))]⟩) ?_ ?_
          ·replace h:=hv31
           unfold Qf2 at h
           refine Qa hC [.n 3] rfl tt_ ?_
           rcases bifE h with⟨hc32,h⟩|⟨hc32,h⟩
           ·refine Qa hC [.say 81 (.b true),.n 9,.keep [3,7,9,11,12,13,14,16,17] [3,52]] rfl ⟨tt_,(congrArg V.b hc32)⟩ ?_
            cases h
            exact AK.met rfl
           ·obtain⟨e33,he33,h⟩:=Qb h
            obtain⟨x34,hx34,h⟩:=Qb h
            refine Qa hC [.say 81 (.b false),.n 3,.o (.row (Qs e33)),.n 1,.o (.c false [.d,.d] (.b x34)),.n 3,.keep [3,7,9,11,12,13,14,16,17] [3,52]] rfl ⟨⟨⟨tt_,(congrArg V.b hc32)⟩,(idxM he33)⟩,(Qsz _ _ hx34)⟩ ?_
            cases h
            exact AK.met rfl
          ·rintro σ rfl
           replace h:Qcm j25 in_30=some o:=h
           unfold Qcm at h
           refine Qa hC [.n 7,.keep [3,7,9,11,12,13,14,16,17] [3,52]] rfl tt_ ?_
           cases h
           exact rndN rfl rfl
         ·refine Qa hC [.br false,.n 2,.keep [3,7,9,11,12,13,16] [3,52]] rfl ⟨tt_,hc29⟩ ?_
          cases h
          exact rndX rfl (an_ rfl rfl)
        ·replace h:Qf3 k18 in_28=some o:=h
         unfold Qf3 at h
         rintro e σ ⟨rfl,rfl⟩
         refine Qa hC [.n 8] rfl tt_ ?_
         rcases bifE h with⟨hc36,h⟩|⟨hc36,h⟩
         ·refine Qa hC [.br true,.n 8,.keep [6] []] rfl ⟨tt_,hc36⟩ ?_
          cases h
          exact rndR rfl (an_ rfl rfl)
         ·refine Qa hC [.br false,.n 8,.keep [3,7,9,11,12,13] [3,52]] rfl ⟨tt_,hc36⟩ ?_
          cases h
          exact rndN rfl rfl
       ·refine Qa hC [.br false,.n 2,.keep [3,7,9,11] [3]] rfl ⟨tt_,hc20⟩ ?_
        cases h
        exact rndX rfl (an_ rfl rfl)
      ·rcases o37 with(_ | _)
       ·replace h:Qf4=some o:=h
        unfold Qf4 at h
        rintro e σ ⟨rfl,rfl⟩
        refine Qa hC [.n 3,.keep [6] []] rfl tt_ ?_
        cases h
        exact rndR rfl (an_ rfl rfl)
       ·replace h:Qf5 i13=some o:=h
        unfold Qf5 at h
        rintro e σ ⟨rfl,rfl⟩
        refine Qa hC [.n 8,.keep [3,7,9,11] [3]] rfl tt_ ?_
        cases h
        exact rndN rfl rfl
     ·refine Qa hC [.br false,.n 2,.keep [7] []] rfl ⟨tt_,hc15⟩ ?_
      cases h
      exact rndX rfl (an_ rfl rfl)
    ·rcases o38 with(_ | _)
     ·replace h:Qf6=some r:=h
      unfold Qf6 at h
      rintro e σ ⟨rfl,rfl⟩
      refine Qa hC [.n 2,.keep [6] []] rfl tt_ ?_
      cases h
      exact AK.done (ex_ [_] (an_ (an_ rfl tt_) (gives tt_)))
     ·replace h:QfV x6=some r:=h
      unfold QfV at h
      rintro e σ ⟨rfl,rfl⟩
      refine Qa hC [.n 9,.keep [6] []] rfl tt_ ?_
      cases h
      exact AK.done (ex_ [_] (an_ (an_ rfl tt_) (gives tt_)))

end Go.Proofs
