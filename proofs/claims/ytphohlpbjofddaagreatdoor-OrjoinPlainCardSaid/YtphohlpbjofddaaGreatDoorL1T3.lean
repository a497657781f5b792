/- What functions of the program do, as functions over plain data, and the walks that show it: printed by a program. -/
import Derived.Test.YtphohlpbjofddaaGreatDoorL1T2
set_option linter.unusedVariables false
set_option linter.unusedSimpArgs false
set_option linter.unusedSectionVars false
set_option linter.deprecated false
set_option maxRecDepth 100000
set_option maxHeartbeats 4000000
noncomputable section
namespace Go.Proofs
open Go Go.RowKit Go.Vm
def Qeo (v1:TNet)(v2:Qr)(v3:Int):Option (Bool×Int):=
 (Qhf v1 v2).bind fun x6=>
 some ((x6==0),x6)
theorem Qpu (v1:TNet)(v2:Qr)(v3:Int){r:(Bool×Int)}(h:Qeo v1 v2 v3=some r):Qc Tryz.prog 215 [.loc 200000 0 0,.loc 200003 0 0] [(200000,.var [.clo (.func 173) [] [.loc 200001 0 0,.loc 200002 0 0]]),(200001,.var (Qd v1)),(200002,.var (Qh v2)),(200003,.var [.loc 200004 0 0]),(200004,.var (Qe v3))] (Gives (.b r.1) [(200000,.var [.clo (.func 173) [] [.loc 200001 0 0,.loc 200002 0 0]]),(200001,.var (Qd v1)),(200002,.var (Qh v2)),(200003,.var [.loc 200004 0 0]),(200004,.var (Qe r.2))]):=by
 refine Qc.walk 11 Tryz.func215 rfl Tryz.ntmps215 rfl fun C hC=>?_
 unfold Qeo at h
 obtain⟨x6,hx6,h⟩:=Qb h
 refine Qa hC [.n 6,.keep [0,1] [200000,200001,200002,200003,200004]] rfl tt_ ?_
 refine AK.draw2 Qq hC mixed [.a .no none false,.a .no none false,.a (.any (.i .i64 x6) none) none false,.a .no none false,.m .s] [] [] [1] [200000,200001,200002,200003,200004] rfl rfl rfl ⟨tt_,(fun σ h1 h2 _=>Stp.callSame (md:=.cm (.clo) [(200000,200001),(200001,200002)] [(200001,200000),(200002,200001)] [] [.d,.d] [(200000,.var (Qd v1)),(200001,.var (Qh v2))] (.i .i64 x6) [200001,200002]) Qq hC h1 h2 rfl ⟨⟨tt_,(Qqd _ _ hx6)⟩,⟨rfl,rfl,tt_⟩⟩)⟩ rfl (by kernel_rfl) rfl rfl rfl ?_
 refine Qa hC [.sayO 200004 (.var (Qe x6)),.n 11,.keep [2] [200000,200001,200002,200003,200004]] rfl ⟨tt_,rfl⟩ ?_
 cases h
 exact AK.done (ex_ [_] (an_ (an_ rfl tt_) (gives ⟨rfl,rfl,rfl,rfl,rfl,tt_⟩)))
def Qb1 (e7:Qr)(n1:TNet)(out8:Int)(x9:Int):Option ((Int×Int)⊕(Unit⊕Int)):=
 bif (decide (x9<(e7.Vars.length:Int)))then
 (idx e7.Vars x9).bind fun e14=>
 (QaC n1.Colours e14.Colour).bind fun x15=>
 bif (x15==0)then
 some (.inr (.inl ()))
 else
 some (.inl ((min2 (w64 (out8*x15)) 1025),(w64 (x9+1))))
 else
 some (.inr (.inr out8))
def QfL : Option Int:=
 some 0
def QfM (out12:Int):Option Int:=
 some out12
def Qb5 (n1:TNet)(k2:Int):Option Int:=
 (QaJ n1.Tasks k2).bind fun x5=>
 bif (!x5)then
 some 0
 else
 (idx n1.Tasks k2).bind fun e7=>
 (QC (fun st=>Qb1 e7 n1 st.1 st.2) (1,0)).bind (Sum.elim (fun q=>QfL) (fun q=>QfM q))
theorem QmO (n1:TNet)(k2:Int){r:Int}(h:Qb5 n1 k2=some r):Qc Tryz.prog 54 [.agg (Qd n1),.i .i64 k2] [] (Gives (.i .i64 r) []):=by
 refine Qc.walk 38 Tryz.func54 rfl Tryz.ntmps54 rfl fun C hC=>?_
 unfold Qb5 at h
 obtain⟨x5,hx5,h⟩:=Qb h
 refine Qa hC [.n 12,.o (.c false [.d,.d] (.b x5)),.n 3] rfl ⟨tt_,(Qiu _ _ hx5)⟩ ?_
 rcases bifE h with⟨hc6,h⟩|⟨hc6,h⟩
 ·refine Qa hC [.br true,.n 7,.keep [4] []] rfl ⟨tt_,hc6⟩ ?_
  cases h
  exact AK.done (ex_ [_] (an_ (an_ rfl tt_) (gives tt_)))
 ·obtain⟨e7,he7,h⟩:=Qb h
  refine Qa hC [.br false,.n 13,.o (.row (Qh e7)),.n 2,.o (.ln e7.Vars.length),.n 4,.keep [2,5,19,20,21] [2]] rfl ⟨⟨⟨tt_,hc6⟩,(idxM he7)⟩,Qf⟩ ?_
  obtain⟨o17,hl17,h⟩:=Qb h
  refine AK.loop (body:=(fun st=>Qb1 e7 n1 st.1 st.2)) (fun st σ=>σ=⟨[(2,.loc 2 0 0),(5,.i .i64 st.1),(19,.sl 2 (e7.Vars.map QD)),(20,.i .i64 (e7.Vars.length:Int)),(21,.i .i64 st.2)],[(2,.var (Qd n1))]⟩) (Sum.elim (fun q e σ=>e=.ret∧σ=⟨[(4,.i .i64 0)],[]⟩) (fun q e σ=>e=.exit 0∧σ=⟨[(5,.i .i64 q)],[]⟩)) hl17 rfl ?_ ?_
  ·rintro ⟨out8,x9⟩ o σ rfl h
   replace h:Qb1 e7 n1 out8 x9=some o:=h
   unfold Qb1 at h
   refine Qa hC [.n 6] rfl tt_ ?_
   rcases bifE h with⟨hc13,h⟩|⟨hc13,h⟩
   ·obtain⟨e14,he14,h⟩:=Qb h
    obtain⟨x15,hx15,h⟩:=Qb h
    refine Qa hC [.br true,.n 6,.o (.row (QD e14)),.v .no [] (.agg (QD e14)),.n 2,.sayO 7 (.var (QD e14)),.n 8,.o (.c false [.d,.d] (.i .i64 x15)),.n 10] rfl ⟨⟨⟨⟨⟨tt_,hc13⟩,(idxM he14)⟩,rfl⟩,rfl⟩,(QhG _ _ hx15)⟩ ?_
    rcases bifE h with⟨hc16,h⟩|⟨hc16,h⟩
    ·refine Qa hC [.br true,.n 9,.keep [4] []] rfl ⟨tt_,hc16⟩ ?_
     cases h
     exact rndR rfl (an_ rfl rfl)
    ·refine Qa hC [.br false,.n 15,.keep [2,5,19,20,21] [2]] rfl ⟨tt_,hc16⟩ ?_
     cases h
     exact rndN rfl rfl
   ·refine Qa hC [.br false,.n 2,.keep [5] []] rfl ⟨tt_,hc13⟩ ?_
    cases h
    exact rndX rfl (an_ rfl rfl)
  ·rcases o17 with(_ | out12)
   ·replace h:QfL=some r:=h
    unfold QfL at h
    rintro e σ ⟨rfl,rfl⟩
    refine Qa hC [.n 2,.keep [4] []] rfl tt_ ?_
    cases h
    exact AK.done (ex_ [_] (an_ (an_ rfl tt_) (gives tt_)))
   ·replace h:QfM out12=some r:=h
    unfold QfM at h
    rintro e σ ⟨rfl,rfl⟩
    refine Qa hC [.n 9,.keep [4] []] rfl tt_ ?_
    cases h
    exact AK.done (ex_ [_] (an_ (an_ rfl tt_) (gives tt_)))
def Qfk (v1:TNet)(v2:Int):Option Bool:=
 (Qb5 v1 v2).bind fun x4=>
 some (decide (x4≤1024))
theorem Qqe (v1:TNet)(v2:Int){r:Bool}(h:Qfk v1 v2=some r):Qc Tryz.prog 175 [.loc 200000 0 0,.loc 200001 0 0] [(200000,.var (Qd v1)),(200001,.var (Qe v2))] (Gives (.b r) [(200000,.var (Qd v1)),(200001,.var (Qe v2))]):=by
 refine Qc.walk 7 Tryz.func175 rfl Tryz.ntmps175 rfl fun C hC=>?_
 unfold Qfk at h
 obtain⟨x4,hx4,h⟩:=Qb h
 refine Qa hC [.n 7,.v .no [] (.agg (Qd v1)),.n 1,.o (.c false [.d,.d] (.i .i64 x4)),.n 5,.keep [2] [200000,200001]] rfl ⟨⟨tt_,rfl⟩,(QmO _ _ hx4)⟩ ?_
 cases h
 exact AK.done (ex_ [_] (an_ (an_ rfl tt_) (gives ⟨rfl,rfl,tt_⟩)))
def Qjx (v1:Qr)(v2:Int):Option Bool:=
 (Qfv v1.Guard v2).bind fun x6=>
 bif x6 then
 bif (decide (0<(v1.Ins.length:Int)))then
 some (decide (0<(v1.Outs.length:Int)))
 else
 some false
 else
 some false
def QeR (x4:Bool):Option Bool:=
 some x4
def Qhg (v1:Qr)(v2:Int):Option Bool:=
 (Qjx v1 v2).bind (fun x4=>QeR x4)
theorem Qqf (v1:Qr)(v2:Int){r:Bool}(h:Qhg v1 v2=some r):Qc Tryz.prog 176 [.loc 200000 0 0,.loc 200001 0 0] [(200000,.var (Qh v1)),(200001,.var (Qe v2))] (Gives (.b r) [(200000,.var (Qh v1)),(200001,.var (Qe v2))]):=by
 refine Qc.walk 19 Tryz.func176 rfl Tryz.ntmps176 rfl fun C hC=>?_
 unfold Qhg at h
 refine Qa hC [.n 6] rfl tt_ ?_
 obtain⟨x4,hv5,h⟩:=Qb h
 replace h:QeR x4=some r:=h
 refine AK.meetX (fun σ=>σ=⟨[(2,.b x4)],[(200000,.var (Qh v1)),(200001,.var (Qe v2))]⟩) ?_ ?_
 ·replace h:=hv5
  unfold Qjx at h
  obtain⟨x6,hx6,h⟩:=Qb h
  refine Qa hC [.n 2,.v .no [] (.agg (Qm v1.Guard)),.n 1,.o (.c false [.d,.d] (.b x6)),.n 1] rfl ⟨⟨tt_,rfl⟩,(QkF _ _ hx6)⟩ ?_
  rcases bifE h with⟨hc7,h⟩|⟨hc7,h⟩
  ·refine Qa hC [.say 7 (.b true),.n 2,.o (.ln v1.Ins.length),.n 3] rfl ⟨⟨tt_,(congrArg V.b hc7)⟩,Qf⟩ ?_
   rcases bifE h with⟨hc8,h⟩|⟨hc8,h⟩
   ·refine Qa hC [.say 13 (.b true),.n 2,.o (.ln v1.Outs.length),.n 4,.keep [2] [200000,200001]] rfl ⟨⟨tt_,(congrArg V.b hc8)⟩,Qf⟩ ?_
    cases h
    exact AK.met rfl
   ·refine Qa hC [.say 13 (.b false),.n 7,.keep [2] [200000,200001]] rfl ⟨tt_,(congrArg V.b hc8)⟩ ?_
    cases h
    exact AK.met rfl
  ·refine Qa hC [.say 7 (.b false),.n 13,.keep [2] [200000,200001]] rfl ⟨tt_,(congrArg V.b hc7)⟩ ?_
   cases h
   exact AK.met rfl
 ·rintro σ rfl
  replace h:QeR x4=some r:=h
  unfold QeR at h
  refine Qa hC [.n 2,.keep [2] [200000,200001]] rfl tt_ ?_
  cases h
  exact AK.done (ex_ [_] (an_ (an_ rfl tt_) (gives ⟨rfl,rfl,tt_⟩)))
def QfN (v1:TNet)(v2:TArc):Option Bool:=
 (Qah v1.Places v2.Place).bind fun x4=>
 some x4
theorem QoP (v1:TNet)(v2:TArc){r:Bool}(h:QfN v1 v2=some r):Qc Tryz.prog 225 [.loc 200000 0 0,.loc 200001 0 0] [(200000,.var (Qd v1)),(200001,.var (QF v2))] (Gives (.b r) [(200000,.var (Qd v1)),(200001,.var (QF v2))]):=by
 refine Qc.walk 8 Tryz.func225 rfl Tryz.ntmps225 rfl fun C hC=>?_
 unfold QfN at h
 obtain⟨x4,hx4,h⟩:=Qb h
 refine Qa hC [.n 11,.o (.c false [.d,.d] (.b x4)),.n 4,.keep [2] [200000,200001]] rfl ⟨tt_,(QbB _ _ hx4)⟩ ?_
 cases h
 exact AK.done (ex_ [_] (an_ (an_ rfl tt_) (gives ⟨rfl,rfl,tt_⟩)))
def QfO (v1:TArc)(v2:Int):Option Bool:=
 (Qfv v1.Expr v2).bind fun x4=>
 some x4
theorem QoQ (v1:TArc)(v2:Int){r:Bool}(h:QfO v1 v2=some r):Qc Tryz.prog 226 [.loc 200000 0 0,.loc 200001 0 0] [(200000,.var (QF v1)),(200001,.var (Qe v2))] (Gives (.b r) [(200000,.var (QF v1)),(200001,.var (Qe v2))]):=by
 refine Qc.walk 7 Tryz.func226 rfl Tryz.ntmps226 rfl fun C hC=>?_
 unfold QfO at h
 obtain⟨x4,hx4,h⟩:=Qb h
 refine Qa hC [.n 8,.v .no [] (.agg (Qm v1.Expr)),.n 1,.o (.c false [.d,.d] (.b x4)),.n 4,.keep [2] [200000,200001]] rfl ⟨⟨tt_,rfl⟩,(QkF _ _ hx4)⟩ ?_
 cases h
 exact AK.done (ex_ [_] (an_ (an_ rfl tt_) (gives ⟨rfl,rfl,tt_⟩)))
def QfP (v1:TNet)(v2:TArc)(v3:Int)(v4:Int)(v5:Int):Option Int:=
 (QfN v1 v2).bind fun x8=>
 bif (!x8)then
 some v3
 else
 (QfO v2 v4).bind fun x10=>
 bif (!x10)then
 some v5
 else
 some 0
theorem QoR (v1:TNet)(v2:TArc)(v3:Int)(v4:Int)(v5:Int){r:Int}(h:QfP v1 v2 v3 v4 v5=some r):Qc Tryz.prog 98 [.own 200000 2] [(200000,.var [.clo (.func 225) [] [.loc 200001 0 0,.loc 200002 0 0],.i .i64 v3,.clo (.func 226) [] [.loc 200002 0 0,.loc 200003 0 0],.i .i64 v5]),(200001,.var (Qd v1)),(200002,.var (QF v2)),(200003,.var (Qe v4))] (Gives (.i .i64 r) [(200000,.var [.clo (.func 225) [] [.loc 200001 0 0,.loc 200002 0 0],.i .i64 v3,.clo (.func 226) [] [.loc 200002 0 0,.loc 200003 0 0],.i .i64 v5]),(200001,.var (Qd v1)),(200002,.var (QF v2)),(200003,.var (Qe v4))]):=by
 refine Qc.walk 18 Tryz.func98 rfl Tryz.ntmps98 rfl fun C hC=>?_
 unfold QfP at h
 refine Qa hC [.n 14] rfl tt_ ?_
 refine AK.loopN 3 (AK.rnd ?_)
 obtain⟨x8,hx8,h⟩:=Qb h
 refine Qa hC [.n 2,.v .no [] (.b true),.n 10,.o (.any (.loc 200000 0 0) none),.n 3,.sayO 4 (.var [.clo (.func 225) [] [.loc 200001 0 0,.loc 200002 0 0],.i .i64 v3]),.n 6,.cm (.clo) [(200000,200001),(200001,200002)] [(200001,200000),(200002,200001)] [] [.d,.d] [(200000,.var (Qd v1)),(200001,.var (QF v2))] (.b x8),.n 3] rfl ⟨⟨⟨⟨tt_,rfl⟩,(fun σ h1 h2 _=>Stp.idxV rfl rfl (bleN hC.n rfl) (h1 _ _ rfl) (h1 _ _ rfl) (Qq.es rfl) (h2 _ _ rfl) (by decide))⟩,rfl⟩,(QoP _ _ hx8)⟩ ?_
 rcases bifE h with⟨hc9,h⟩|⟨hc9,h⟩
 ·refine Qa hC [.br true,.n 13,.keep [2] [200000,200001,200002,200003]] rfl ⟨tt_,hc9⟩ ?_
  cases h
  exact AK.done (ex_ [_] (an_ (an_ rfl tt_) (gives ⟨rfl,rfl,rfl,rfl,tt_⟩)))
 ·refine Qa hC [.br false,.n 4,.v .no [] (.i .i64 1),.n 2] rfl ⟨⟨tt_,hc9⟩,rfl⟩ ?_
  refine AK.met (AK.rnd ?_)
  obtain⟨x10,hx10,h⟩:=Qb h
  refine Qa hC [.n 2,.v .no [] (.b true),.n 10,.o (.any (.loc 200000 0 2) none),.n 1,.kill 4,.n 2,.sayO 4 (.var [.clo (.func 226) [] [.loc 200002 0 0,.loc 200003 0 0],.i .i64 v5]),.n 6,.cm (.clo) [(200000,200002),(200001,200003)] [(200002,200000),(200003,200001)] [] [.d,.d] [(200000,.var (QF v2)),(200001,.var (Qe v4))] (.b x10),.n 3] rfl ⟨⟨⟨⟨tt_,rfl⟩,(fun σ h1 h2 _=>Stp.idxV rfl rfl (bleN hC.n rfl) (h1 _ _ rfl) (h1 _ _ rfl) (Qq.es rfl) (h2 _ _ rfl) (by decide))⟩,rfl⟩,(QoQ _ _ hx10)⟩ ?_
  rcases bifE h with⟨hc11,h⟩|⟨hc11,h⟩
  ·refine Qa hC [.br true,.n 13,.keep [2] [200000,200001,200002,200003]] rfl ⟨tt_,hc11⟩ ?_
   cases h
   exact AK.done (ex_ [_] (an_ (an_ rfl tt_) (gives ⟨rfl,rfl,rfl,rfl,tt_⟩)))
  ·refine Qa hC [.br false,.n 4,.v .no [] (.i .i64 2),.n 2] rfl ⟨⟨tt_,hc11⟩,rfl⟩ ?_
   refine AK.met (AK.rnd ?_)
   refine Qa hC [.n 2,.v .no [] (.b false),.n 15,.keep [2] [200000,200001,200002,200003]] rfl ⟨tt_,rfl⟩ ?_
   cases h
   exact AK.done (ex_ [_] (an_ (an_ rfl tt_) (gives ⟨rfl,rfl,rfl,rfl,tt_⟩)))
def Qhh (p1:Int)(a2:TArc)(v3:TNet)(v4:Int):Option Int:=
 (QfP v3 a2 3 v4 1).bind fun x6=>
 some x6
theorem Qqg (p1:Int)(a2:TArc)(v3:TNet)(v4:Int){r:Int}(h:Qhh p1 a2 v3 v4=some r):Qc Tryz.prog 224 [.i .i64 p1,.agg (QF a2),.loc 200000 0 0,.loc 200001 0 0] [(200000,.var (Qd v3)),(200001,.var (Qe v4))] (Gives (.i .i64 r) [(200000,.var (Qd v3)),(200001,.var (Qe v4))]):=by
 refine Qc.walk 13 Tryz.func224 rfl Tryz.ntmps224 rfl fun C hC=>?_
 unfold Qhh at h
 obtain⟨x6,hx6,h⟩:=Qb h
 refine Qa hC [.n 9,.v .no [] (.agg [.clo (.func 225) [] [.loc 200000 0 0,.loc 5 0 0],.i .i64 3]),.n 1,.v .no [] (.agg [.clo (.func 226) [] [.loc 5 0 0,.loc 200001 0 0],.i .i64 1]),.o (.any (.own 11 2) (some (.var [.clo (.func 225) [] [.loc 200000 0 0,.loc 5 0 0],.i .i64 3,.clo (.func 226) [] [.loc 5 0 0,.loc 200001 0 0],.i .i64 1]))),.cm (.fn) [(200000,11),(200001,200000),(200002,5),(200003,200001)] [(11,200000),(200000,200001),(5,200002),(200001,200003)] [] [.d] [(200000,.var [.clo (.func 225) [] [.loc 200001 0 0,.loc 200002 0 0],.i .i64 3,.clo (.func 226) [] [.loc 200002 0 0,.loc 200003 0 0],.i .i64 1]),(200001,.var (Qd v3)),(200002,.var (QF a2)),(200003,.var (Qe v4))] (.i .i64 x6),.n 4,.keep [6] [200000,200001]] rfl ⟨⟨⟨⟨tt_,rfl⟩,rfl⟩,(fun σ h1 h2 hf=>Stp.buildAny rfl rfl (bleN hC.n rfl) (Qq.es rfl) QlC rfl (by decide) (by decide) (Qfn h1 rfl) rfl rfl (hf rfl))⟩,(QoR _ _ _ _ _ hx6)⟩ ?_
 cases h
 exact AK.done (ex_ [_] (an_ (an_ rfl tt_) (gives ⟨rfl,rfl,tt_⟩)))
def Qbv (l1:(List TArc))(v2:TNet)(v3:Int)(x8:Int):Option (Int⊕((Int×Int)⊕Unit)):=
 bif (decide (x8<(l1.length:Int)))then
 (idx l1 x8).bind fun e13=>
 (Qhh x8 e13 v2 v3).bind fun x14=>
 bif (x14 != 0)then
 some (.inr (.inl (x8,x14)))
 else
 some (.inl (w64 (x8+1)))
 else
 some (.inr (.inr ()))
def Qch (x10:Int)(x11:Int):Option (Int×Int):=
 some (x10,x11)
def Qci : Option (Int×Int):=
 some (0,0)
def Qdk (l1:(List TArc))(v2:TNet)(v3:Int):Option (Int×Int):=
 (QC (fun st=>Qbv l1 v2 v3 st) 0).bind (Sum.elim (fun q=>Qch q.1 q.2) (fun q=>Qci))
theorem Qm2 (l1:(List TArc))(v2:TNet)(v3:Int){r:(Int×Int)}(h:Qdk l1 v2 v3=some r):Qc Tryz.prog 223 [.sl 4 (l1.map QF),.clo (.func 224) [] [.loc 200000 0 0,.loc 200001 0 0]] [(200000,.var (Qd v2)),(200001,.var (Qe v3))] (Gives (.tup [.i .i64 r.1,.i .i64 r.2]) [(200000,.var (Qd v2)),(200001,.var (Qe v3))]):=by
 refine Qc.walk 25 Tryz.func223 rfl Tryz.ntmps223 rfl fun C hC=>?_
 unfold Qdk at h
 refine Qa hC [.n 10,.o (.ln l1.length),.n 4,.keep [1,9,10,11] [200000,200001]] rfl ⟨tt_,Qf⟩ ?_
 obtain⟨o16,hl16,h⟩:=Qb h
 refine AK.loop (body:=(fun st=>Qbv l1 v2 v3 st)) (fun st σ=>σ=⟨[(1,.clo (.func 224) [] [.loc 200000 0 0,.loc 200001 0 0]),(9,.sl 4 (l1.map QF)),(10,.i .i64 (l1.length:Int)),(11,.i .i64 st)],[(200000,.var (Qd v2)),(200001,.var (Qe v3))]⟩) (Sum.elim (fun q e σ=>e=.ret∧σ=⟨[(4,.i .i64 q.1),(5,.i .i64 q.2)],[(200000,.var (Qd v2)),(200001,.var (Qe v3))]⟩) (fun q e σ=>e=.exit 0∧σ=⟨[],[(200000,.var (Qd v2)),(200001,.var (Qe v3))]⟩)) hl16 rfl ?_ ?_
 ·rintro x8 o σ rfl h
  replace h:Qbv l1 v2 v3 x8=some o:=h
  unfold Qbv at h
  refine Qa hC [.n 6] rfl tt_ ?_
  rcases bifE h with⟨hc12,h⟩|⟨hc12,h⟩
  ·obtain⟨e13,he13,h⟩:=Qb h
   obtain⟨x14,hx14,h⟩:=Qb h
   refine Qa hC [.br true,.n 7,.o (.row (QF e13)),.v .no [] (.agg (QF e13)),.n 3,.sayO 7 (.var (QF e13)),.n 6,.v .no [] (.agg (QF e13)),.cm (.clo) [(200000,200000),(200001,200001)] [(200000,200000),(200001,200001)] [] [.d,.d,.d,.d] [(200000,.var (Qd v2)),(200001,.var (Qe v3))] (.i .i64 x14),.n 9] rfl ⟨⟨⟨⟨⟨⟨tt_,hc12⟩,(idxM he13)⟩,rfl⟩,rfl⟩,rfl⟩,(Qqg _ _ _ _ hx14)⟩ ?_
   rcases bifE h with⟨hc15,h⟩|⟨hc15,h⟩
   ·refine Qa hC [.br true,.n 11,.keep [4,5] [200000,200001]] rfl ⟨tt_,hc15⟩ ?_
    cases h
    exact rndR rfl (an_ rfl rfl)
   ·refine Qa hC [.br false,.n 7,.keep [1,9,10,11] [200000,200001]] rfl ⟨tt_,hc15⟩ ?_
    cases h
    exact rndN rfl rfl
  ·refine Qa hC [.br false,.n 2,.keep [] [200000,200001]] rfl ⟨tt_,hc12⟩ ?_
   cases h
   exact rndX rfl (an_ rfl rfl)
 ·rcases o16 with(⟨x10,x11⟩|_)
  ·replace h:Qch x10 x11=some r:=h
   unfold Qch at h
   rintro e σ ⟨rfl,rfl⟩
   refine Qa hC [.n 2,.keep [4,5] [200000,200001]] rfl tt_ ?_
   cases h
   exact AK.done (ex_ [_,_] (an_ (an_ rfl (an_ rfl tt_)) (gives ⟨rfl,rfl,tt_⟩)))
  ·replace h:Qci=some r:=h
   unfold Qci at h
   rintro e σ ⟨rfl,rfl⟩
   refine Qa hC [.n 9,.keep [4,5] [200000,200001]] rfl tt_ ?_
   cases h
   exact AK.done (ex_ [_,_] (an_ (an_ rfl (an_ rfl tt_)) (gives ⟨rfl,rfl,tt_⟩)))
def Qhi (n1:TNet)(l2:(List TArc))(vars3:Int):Option Int:=
 (Qdk l2 n1 vars3).bind fun x5=>
 some x5.2
theorem Qnh (n1:TNet)(l2:(List TArc))(vars3:Int){r:Int}(h:Qhi n1 l2 vars3=some r):Qc Tryz.prog 178 [.agg (Qd n1),.sl 4 (l2.map QF),.i .i64 vars3] [] (Gives (.i .i64 r) []):=by
 refine Qc.walk 16 Tryz.func178 rfl Tryz.ntmps178 rfl fun C hC=>?_
 unfold Qhi at h
 obtain⟨x5,hx5,h⟩:=Qb h
 refine Qa hC [.n 11,.cm (.fn) [(200000,3),(200001,5)] [(3,200000),(5,200001)] [] [.d,.d] [(200000,.var (Qd n1)),(200001,.var (Qe vars3))] (.tup [.i .i64 x5.1,.i .i64 x5.2]),.n 14,.keep [6] []] rfl ⟨tt_,(Qm2 _ _ _ hx5)⟩ ?_
 cases h
 exact AK.done (ex_ [_] (an_ (an_ rfl tt_) (gives tt_)))
def Qhj (v1:TNet)(v2:Qr)(v3:Int):Option Int:=
 (Qhi v1 v2.Ins v3).bind fun x5=>
 some x5
theorem Qqh (v1:TNet)(v2:Qr)(v3:Int){r:Int}(h:Qhj v1 v2 v3=some r):Qc Tryz.prog 177 [.loc 200000 0 0,.loc 200001 0 0,.loc 200002 0 0] [(200000,.var (Qd v1)),(200001,.var (Qh v2)),(200002,.var (Qe v3))] (Gives (.i .i64 r) [(200000,.var (Qd v1)),(200001,.var (Qh v2)),(200002,.var (Qe v3))]):=by
 refine Qc.walk 9 Tryz.func177 rfl Tryz.ntmps177 rfl fun C hC=>?_
 unfold Qhj at h
 obtain⟨x5,hx5,h⟩:=Qb h
 refine Qa hC [.n 7,.v .no [] (.agg (Qd v1)),.n 3,.o (.c false [.d,.d,.d] (.i .i64 x5)),.n 4,.keep [3] [200000,200001,200002]] rfl ⟨⟨tt_,rfl⟩,(Qnh _ _ _ hx5)⟩ ?_
 cases h
 exact AK.done (ex_ [_] (an_ (an_ rfl tt_) (gives ⟨rfl,rfl,rfl,tt_⟩)))
def Qeb (v1:TNet)(v2:Qr)(v3:Int)(v4:Int):Option (Bool×Int):=
 (Qhj v1 v2 v3).bind fun x7=>
 some ((x7==0),x7)
theorem QnK (v1:TNet)(v2:Qr)(v3:Int)(v4:Int){r:(Bool×Int)}(h:Qeb v1 v2 v3 v4=some r):Qc Tryz.prog 215 [.loc 200000 0 0,.loc 200004 0 0] [(200000,.var [.clo (.func 177) [] [.loc 200001 0 0,.loc 200002 0 0,.loc 200003 0 0]]),(200001,.var (Qd v1)),(200002,.var (Qh v2)),(200003,.var (Qe v3)),(200004,.var [.loc 200005 0 0]),(200005,.var (Qe v4))] (Gives (.b r.1) [(200000,.var [.clo (.func 177) [] [.loc 200001 0 0,.loc 200002 0 0,.loc 200003 0 0]]),(200001,.var (Qd v1)),(200002,.var (Qh v2)),(200003,.var (Qe v3)),(200004,.var [.loc 200005 0 0]),(200005,.var (Qe r.2))]):=by
 refine Qc.walk 11 Tryz.func215 rfl Tryz.ntmps215 rfl fun C hC=>?_
 unfold Qeb at h
 obtain⟨x7,hx7,h⟩:=Qb h
 refine Qa hC [.n 6,.keep [0,1] [200000,200001,200002,200003,200004,200005]] rfl tt_ ?_
 refine AK.draw2 Qq hC mixed [.a .no none false,.a .no none false,.a (.any (.i .i64 x7) none) none false,.a .no none false,.m .s] [] [] [1] [200000,200001,200002,200003,200004,200005] rfl rfl rfl ⟨tt_,(fun σ h1 h2 _=>Stp.callSame (md:=.cm (.clo) [(200000,200001),(200001,200002),(200002,200003)] [(200001,200000),(200002,200001),(200003,200002)] [] [.d,.d,.d] [(200000,.var (Qd v1)),(200001,.var (Qh v2)),(200002,.var (Qe v3))] (.i .i64 x7) [200001,200002,200003]) Qq hC h1 h2 rfl ⟨⟨tt_,(Qqh _ _ _ hx7)⟩,⟨rfl,rfl,rfl,tt_⟩⟩)⟩ rfl (by kernel_rfl) rfl rfl rfl ?_
 refine Qa hC [.sayO 200005 (.var (Qe x7)),.n 11,.keep [2] [200000,200001,200002,200003,200004,200005]] rfl ⟨tt_,rfl⟩ ?_
 cases h
 exact AK.done (ex_ [_] (an_ (an_ rfl tt_) (gives ⟨rfl,rfl,rfl,rfl,rfl,rfl,tt_⟩)))
def Qhk (v1:TNet)(v2:Qr)(v3:Int):Option Int:=
 (Qhi v1 v2.Outs v3).bind fun x5=>
 some x5
theorem Qqi (v1:TNet)(v2:Qr)(v3:Int){r:Int}(h:Qhk v1 v2 v3=some r):Qc Tryz.prog 179 [.loc 200000 0 0,.loc 200001 0 0,.loc 200002 0 0] [(200000,.var (Qd v1)),(200001,.var (Qh v2)),(200002,.var (Qe v3))] (Gives (.i .i64 r) [(200000,.var (Qd v1)),(200001,.var (Qh v2)),(200002,.var (Qe v3))]):=by
 refine Qc.walk 9 Tryz.func179 rfl Tryz.ntmps179 rfl fun C hC=>?_
 unfold Qhk at h
 obtain⟨x5,hx5,h⟩:=Qb h
 refine Qa hC [.n 7,.v .no [] (.agg (Qd v1)),.n 3,.o (.c false [.d,.d,.d] (.i .i64 x5)),.n 4,.keep [3] [200000,200001,200002]] rfl ⟨⟨tt_,rfl⟩,(Qnh _ _ _ hx5)⟩ ?_
 cases h
 exact AK.done (ex_ [_] (an_ (an_ rfl tt_) (gives ⟨rfl,rfl,rfl,tt_⟩)))
def Qec (v1:TNet)(v2:Qr)(v3:Int)(v4:Int):Option (Bool×Int):=
 (Qhk v1 v2 v3).bind fun x7=>
 some ((x7==0),x7)
theorem QnL (v1:TNet)(v2:Qr)(v3:Int)(v4:Int){r:(Bool×Int)}(h:Qec v1 v2 v3 v4=some r):Qc Tryz.prog 215 [.loc 200000 0 0,.loc 200004 0 0] [(200000,.var [.clo (.func 179) [] [.loc 200001 0 0,.loc 200002 0 0,.loc 200003 0 0]]),(200001,.var (Qd v1)),(200002,.var (Qh v2)),(200003,.var (Qe v3)),(200004,.var [.loc 200005 0 0]),(200005,.var (Qe v4))] (Gives (.b r.1) [(200000,.var [.clo (.func 179) [] [.loc 200001 0 0,.loc 200002 0 0,.loc 200003 0 0]]),(200001,.var (Qd v1)),(200002,.var (Qh v2)),(200003,.var (Qe v3)),(200004,.var [.loc 200005 0 0]),(200005,.var (Qe r.2))]):=by
 refine Qc.walk 11 Tryz.func215 rfl Tryz.ntmps215 rfl fun C hC=>?_
 unfold Qec at h
 obtain⟨x7,hx7,h⟩:=Qb h
 refine Qa hC [.n 6,.keep [0,1] [200000,200001,200002,200003,200004,200005]] rfl tt_ ?_
 refine AK.draw2 Qq hC mixed [.a .no none false,.a .no none false,.a (.any (.i .i64 x7) none) none false,.a .no none false,.m .s] [] [] [1] [200000,200001,200002,200003,200004,200005] rfl rfl rfl ⟨tt_,(fun σ h1 h2 _=>Stp.callSame (md:=.cm (.clo) [(200000,200001),(200001,200002),(200002,200003)] [(200001,200000),(200002,200001),(200003,200002)] [] [.d,.d,.d] [(200000,.var (Qd v1)),(200001,.var (Qh v2)),(200002,.var (Qe v3))] (.i .i64 x7) [200001,200002,200003]) Qq hC h1 h2 rfl ⟨⟨tt_,(Qqi _ _ _ hx7)⟩,⟨rfl,rfl,rfl,tt_⟩⟩)⟩ rfl (by kernel_rfl) rfl rfl rfl ?_
 refine Qa hC [.sayO 200005 (.var (Qe x7)),.n 11,.keep [2] [200000,200001,200002,200003,200004,200005]] rfl ⟨tt_,rfl⟩ ?_
 cases h
 exact AK.done (ex_ [_] (an_ (an_ rfl tt_) (gives ⟨rfl,rfl,rfl,rfl,rfl,rfl,tt_⟩)))
def QdE (v1:TNet)(v2:Int):Option Bool:=
 (Qah v1.Places v2).bind fun x4=>
 some x4
theorem Qnx (v1:TNet)(v2:Int){r:Bool}(h:QdE v1 v2=some r):Qc Tryz.prog 229 [.loc 200000 0 0,.loc 200001 0 0] [(200000,.var (Qd v1)),(200001,.var (Qe v2))] (Gives (.b r) [(200000,.var (Qd v1)),(200001,.var (Qe v2))]):=by
 refine Qc.walk 7 Tryz.func229 rfl Tryz.ntmps229 rfl fun C hC=>?_
 unfold QdE at h
 obtain⟨x4,hx4,h⟩:=Qb h
 refine Qa hC [.n 10,.o (.c false [.d,.d] (.b x4)),.n 4,.keep [2] [200000,200001]] rfl ⟨tt_,(QbB _ _ hx4)⟩ ?_
 cases h
 exact AK.done (ex_ [_] (an_ (an_ rfl tt_) (gives ⟨rfl,rfl,tt_⟩)))
def QdF (v1:(List Int))(v2:Int)(v3:Int):Option Bool:=
 (chk (decide (0≤v2)&&decide (0≤v2.toNat)&&decide (v2.toNat≤v1.length))).bind fun _=>
 (QaG ((v1.drop 0).take (v2.toNat-0)) v3).bind fun x6=>
 some (!x6)
theorem Qny (v1:(List Int))(v2:Int)(v3:Int){r:Bool}(h:QdF v1 v2 v3=some r):Qc Tryz.prog 230 [.loc 200000 0 0,.loc 200001 0 0,.loc 200002 0 0] [(200000,.var (Qx v1)),(200001,.var (Qe v2)),(200002,.var (Qe v3))] (Gives (.b r) [(200000,.var (Qx v1)),(200001,.var (Qe v2)),(200002,.var (Qe v3))]):=by
 refine Qc.walk 10 Tryz.func230 rfl Tryz.ntmps230 rfl fun C hC=>?_
 unfold QdF at h
 obtain⟨_,hk5,h⟩:=Qb h
 replace hk5:=chkE hk5
 obtain⟨x6,hx6,h⟩:=Qb h
 refine Qa hC [.n 6,.keep [0,1,2,3] [200000,200001,200002]] rfl tt_ ?_
 refine AK.draw2 Qq hC mixed [.a .no none false,.a .no none false,.a (.any (.sl 1 (((v1.drop 0).take (v2.toNat-0)).map Qe)) none) none false,.a .no none false,.a (.c false [.d,.d] (.b x6)) none false,.a .no none false,.m .s] [] [] [3] [200000,200001,200002] rfl rfl rfl ⟨⟨tt_,(fun σ h1 h2 _=>Stp.sliceD rfl rfl (bleN hC.n rfl) (h1 _ _ rfl) (Qq.es rfl) Bnd.no (Bnd.val (h1 _ _ rfl) (of_decide_eq_true (Qpb hk5)) rfl) (of_decide_eq_true (Qpc hk5)) (Nat.le_trans (of_decide_eq_true (Qpd hk5)) (Nat.le_of_eq Qf.symm)) Qrq)⟩,(Qg5 _ _ hx6)⟩ rfl (by kernel_rfl) rfl rfl rfl ?_
 refine Qa hC [.n 2,.keep [3] [200000,200001,200002]] rfl tt_ ?_
 cases h
 exact AK.done (ex_ [_] (an_ (an_ rfl tt_) (gives ⟨rfl,rfl,rfl,tt_⟩)))
def QfQ (v1:TNet)(v2:Int)(v3:Int)(v4:(List Int))(v5:Int)(v6:Int):Option Int:=
 (QdE v1 v2).bind fun x9=>
 bif (!x9)then
 some v3
 else
 (QdF v4 v5 v2).bind fun x11=>
 bif (!x11)then
 some v6
 else
 some 0
theorem QoS (v1:TNet)(v2:Int)(v3:Int)(v4:(List Int))(v5:Int)(v6:Int){r:Int}(h:QfQ v1 v2 v3 v4 v5 v6=some r):Qc Tryz.prog 98 [.own 200000 2] [(200000,.var [.clo (.func 229) [] [.loc 200001 0 0,.loc 200002 0 0],.i .i64 v3,.clo (.func 230) [] [.loc 200003 0 0,.loc 200004 0 0,.loc 200002 0 0],.i .i64 v6]),(200001,.var (Qd v1)),(200002,.var (Qe v2)),(200003,.var (Qx v4)),(200004,.var (Qe v5))] (Gives (.i .i64 r) [(200000,.var [.clo (.func 229) [] [.loc 200001 0 0,.loc 200002 0 0],.i .i64 v3,.clo (.func 230) [] [.loc 200003 0 0,.loc 200004 0 0,.loc 200002 0 0],.i .i64 v6]),(200001,.var (Qd v1)),(200002,.var (Qe v2)),(200003,.var (Qx v4)),(200004,.var (Qe v5))]):=by
 refine Qc.walk 18 Tryz.func98 rfl Tryz.ntmps98 rfl fun C hC=>?_
 unfold QfQ at h
 refine Qa hC [.n 14] rfl tt_ ?_
 refine AK.loopN 3 (AK.rnd ?_)
 obtain⟨x9,hx9,h⟩:=Qb h
 refine Qa hC [.n 2,.v .no [] (.b true),.n 10,.o (.any (.loc 200000 0 0) none),.n 3,.sayO 4 (.var [.clo (.func 229) [] [.loc 200001 0 0,.loc 200002 0 0],.i .i64 v3]),.n 6,.cm (.clo) [(200000,200001),(200001,200002)] [(200001,200000),(200002,200001)] [] [.d,.d] [(200000,.var (Qd v1)),(200001,.var (Qe v2))] (.b x9),.n 3] rfl ⟨⟨⟨⟨tt_,rfl⟩,(fun σ h1 h2 _=>Stp.idxV rfl rfl (bleN hC.n rfl) (h1 _ _ rfl) (h1 _ _ rfl) (Qq.es rfl) (h2 _ _ rfl) (by decide))⟩,rfl⟩,(Qnx _ _ hx9)⟩ ?_
 rcases bifE h with⟨hc10,h⟩|⟨hc10,h⟩
 ·refine Qa hC [.br true,.n 13,.keep [2] [200000,200001,200002,200003,200004]] rfl ⟨tt_,hc10⟩ ?_
  cases h
  exact AK.done (ex_ [_] (an_ (an_ rfl tt_) (gives ⟨rfl,rfl,rfl,rfl,rfl,tt_⟩)))
 ·refine Qa hC [.br false,.n 4,.v .no [] (.i .i64 1),.n 2] rfl ⟨⟨tt_,hc10⟩,rfl⟩ ?_
  refine AK.met (AK.rnd ?_)
  obtain⟨x11,hx11,h⟩:=Qb h
  refine Qa hC [.n 2,.v .no [] (.b true),.n 10,.o (.any (.loc 200000 0 2) none),.n 1,.kill 4,.n 2,.sayO 4 (.var [.clo (.func 230) [] [.loc 200003 0 0,.loc 200004 0 0,.loc 200002 0 0],.i .i64 v6]),.n 6,.cm (.clo) [(200000,200003),(200001,200004),(200002,200002)] [(200003,200000),(200004,200001),(200002,200002)] [] [.d,.d,.d] [(200000,.var (Qx v4)),(200001,.var (Qe v5)),(200002,.var (Qe v2))] (.b x11),.n 3] rfl ⟨⟨⟨⟨tt_,rfl⟩,(fun σ h1 h2 _=>Stp.idxV rfl rfl (bleN hC.n rfl) (h1 _ _ rfl) (h1 _ _ rfl) (Qq.es rfl) (h2 _ _ rfl) (by decide))⟩,rfl⟩,(Qny _ _ _ hx11)⟩ ?_
  rcases bifE h with⟨hc12,h⟩|⟨hc12,h⟩
  ·refine Qa hC [.br true,.n 13,.keep [2] [200000,200001,200002,200003,200004]] rfl ⟨tt_,hc12⟩ ?_
   cases h
   exact AK.done (ex_ [_] (an_ (an_ rfl tt_) (gives ⟨rfl,rfl,rfl,rfl,rfl,tt_⟩)))
  ·refine Qa hC [.br false,.n 4,.v .no [] (.i .i64 2),.n 2] rfl ⟨⟨tt_,hc12⟩,rfl⟩ ?_
   refine AK.met (AK.rnd ?_)
   refine Qa hC [.n 2,.v .no [] (.b false),.n 15,.keep [2] [200000,200001,200002,200003,200004]] rfl ⟨tt_,rfl⟩ ?_
   cases h
   exact AK.done (ex_ [_] (an_ (an_ rfl tt_) (gives ⟨rfl,rfl,rfl,rfl,rfl,tt_⟩)))
def QeS (k1:Int)(place2:Int)(v3:TNet)(v4:(List Int)):Option Int:=
 (QfQ v3 place2 3 v4 k1 5).bind fun x6=>
 some x6
theorem Qou (k1:Int)(place2:Int)(v3:TNet)(v4:(List Int)){r:Int}(h:QeS k1 place2 v3 v4=some r):Qc Tryz.prog 228 [.i .i64 k1,.i .i64 place2,.loc 200000 0 0,.loc 200001 0 0] [(200000,.var (Qd v3)),(200001,.var (Qx v4))] (Gives (.i .i64 r) [(200000,.var (Qd v3)),(200001,.var (Qx v4))]):=by
 refine Qc.walk 13 Tryz.func228 rfl Tryz.ntmps228 rfl fun C hC=>?_
 unfold QeS at h
 obtain⟨x6,hx6,h⟩:=Qb h
 refine Qa hC [.n 10,.v .no [] (.agg [.clo (.func 229) [] [.loc 200000 0 0,.loc 5 0 0],.i .i64 3]),.n 1,.v .no [] (.agg [.clo (.func 230) [] [.loc 200001 0 0,.loc 4 0 0,.loc 5 0 0],.i .i64 5]),.o (.any (.own 11 2) (some (.var [.clo (.func 229) [] [.loc 200000 0 0,.loc 5 0 0],.i .i64 3,.clo (.func 230) [] [.loc 200001 0 0,.loc 4 0 0,.loc 5 0 0],.i .i64 5]))),.cm (.fn) [(200000,11),(200001,200000),(200002,5),(200003,200001),(200004,4)] [(11,200000),(200000,200001),(5,200002),(200001,200003),(4,200004)] [] [.d] [(200000,.var [.clo (.func 229) [] [.loc 200001 0 0,.loc 200002 0 0],.i .i64 3,.clo (.func 230) [] [.loc 200003 0 0,.loc 200004 0 0,.loc 200002 0 0],.i .i64 5]),(200001,.var (Qd v3)),(200002,.var (Qe place2)),(200003,.var (Qx v4)),(200004,.var (Qe k1))] (.i .i64 x6),.n 4,.keep [6] [200000,200001]] rfl ⟨⟨⟨⟨tt_,rfl⟩,rfl⟩,(fun σ h1 h2 hf=>Stp.buildAny rfl rfl (bleN hC.n rfl) (Qq.es rfl) QlC rfl (by decide) (by decide) (Qfn h1 rfl) rfl rfl (hf rfl))⟩,(QoS _ _ _ _ _ _ hx6)⟩ ?_
 cases h
 exact AK.done (ex_ [_] (an_ (an_ rfl tt_) (gives ⟨rfl,rfl,tt_⟩)))
def Qcr (l1:(List Int))(v2:TNet)(v3:(List Int))(x8:Int):Option (Int⊕((Int×Int)⊕Unit)):=
 bif (decide (x8<(l1.length:Int)))then
 (idx l1 x8).bind fun e13=>
 (QeS x8 e13 v2 v3).bind fun x14=>
 bif (x14 != 0)then
 some (.inr (.inl (x8,x14)))
 else
 some (.inl (w64 (x8+1)))
 else
 some (.inr (.inr ()))
def QdG (x10:Int)(x11:Int):Option (Int×Int):=
 some (x10,x11)
def QdH : Option (Int×Int):=
 some (0,0)
def QfR (l1:(List Int))(v2:TNet)(v3:(List Int)):Option (Int×Int):=
 (QC (fun st=>Qcr l1 v2 v3 st) 0).bind (Sum.elim (fun q=>QdG q.1 q.2) (fun q=>QdH))
theorem QoT (l1:(List Int))(v2:TNet)(v3:(List Int)){r:(Int×Int)}(h:QfR l1 v2 v3=some r):Qc Tryz.prog 227 [.sl 1 (l1.map Qe),.clo (.func 228) [] [.loc 200000 0 0,.loc 200001 0 0]] [(200000,.var (Qd v2)),(200001,.var (Qx v3))] (Gives (.tup [.i .i64 r.1,.i .i64 r.2]) [(200000,.var (Qd v2)),(200001,.var (Qx v3))]):=by
 refine Qc.walk 25 Tryz.func227 rfl Tryz.ntmps227 rfl fun C hC=>?_
 unfold QfR at h
 refine Qa hC [.n 10,.o (.ln l1.length),.n 4,.keep [1,9,10,11] [200000,200001]] rfl ⟨tt_,Qf⟩ ?_
 obtain⟨o16,hl16,h⟩:=Qb h
 refine AK.loop (body:=(fun st=>Qcr l1 v2 v3 st)) (fun st σ=>σ=⟨[(1,.clo (.func 228) [] [.loc 200000 0 0,.loc 200001 0 0]),(9,.sl 1 (l1.map Qe)),(10,.i .i64 (l1.length:Int)),(11,.i .i64 st)],[(200000,.var (Qd v2)),(200001,.var (Qx v3))]⟩) (Sum.elim (fun q e σ=>e=.ret∧σ=⟨[(4,.i .i64 q.1),(5,.i .i64 q.2)],[(200000,.var (Qd v2)),(200001,.var (Qx v3))]⟩) (fun q e σ=>e=.exit 0∧σ=⟨[],[(200000,.var (Qd v2)),(200001,.var (Qx v3))]⟩)) hl16 rfl ?_ ?_
 ·rintro x8 o σ rfl h
  replace h:Qcr l1 v2 v3 x8=some o:=h
  unfold Qcr at h
  refine Qa hC [.n 6] rfl tt_ ?_
  rcases bifE h with⟨hc12,h⟩|⟨hc12,h⟩
  ·obtain⟨e13,he13,h⟩:=Qb h
   obtain⟨x14,hx14,h⟩:=Qb h
   refine Qa hC [.br true,.n 7,.o (.row (Qe e13)),.n 10,.cm (.clo) [(200000,200000),(200001,200001)] [(200000,200000),(200001,200001)] [] [.d,.d,.d,.d] [(200000,.var (Qd v2)),(200001,.var (Qx v3))] (.i .i64 x14),.n 9] rfl ⟨⟨⟨tt_,hc12⟩,(idxM he13)⟩,(Qou _ _ _ _ hx14)⟩ ?_
   rcases bifE h with⟨hc15,h⟩|⟨hc15,h⟩
   ·refine Qa hC [.br true,.n 11,.keep [4,5] [200000,200001]] rfl ⟨tt_,hc15⟩ ?_
    cases h
    exact rndR rfl (an_ rfl rfl)
   ·refine Qa hC [.br false,.n 7,.keep [1,9,10,11] [200000,200001]] rfl ⟨tt_,hc15⟩ ?_
    cases h
    exact rndN rfl rfl
  ·refine Qa hC [.br false,.n 2,.keep [] [200000,200001]] rfl ⟨tt_,hc12⟩ ?_
   cases h
   exact rndX rfl (an_ rfl rfl)
 ·rcases o16 with(⟨x10,x11⟩|_)
  ·replace h:QdG x10 x11=some r:=h
   unfold QdG at h
   rintro e σ ⟨rfl,rfl⟩
   refine Qa hC [.n 2,.keep [4,5] [200000,200001]] rfl tt_ ?_
   cases h
   exact AK.done (ex_ [_,_] (an_ (an_ rfl (an_ rfl tt_)) (gives ⟨rfl,rfl,tt_⟩)))
  ·replace h:QdH=some r:=h
   unfold QdH at h
   rintro e σ ⟨rfl,rfl⟩
   refine Qa hC [.n 9,.keep [4,5] [200000,200001]] rfl tt_ ?_
   cases h
   exact AK.done (ex_ [_,_] (an_ (an_ rfl (an_ rfl tt_)) (gives ⟨rfl,rfl,tt_⟩)))
def Qgv (n1:TNet)(l2:(List Int)):Option Int:=
 (QfR l2 n1 l2).bind fun x4=>
 some x4.2
theorem Qpv (n1:TNet)(l2:(List Int)){r:Int}(h:Qgv n1 l2=some r):Qc Tryz.prog 181 [.agg (Qd n1),.sl 1 (l2.map Qe)] [] (Gives (.i .i64 r) []):=by
 refine Qc.walk 14 Tryz.func181 rfl Tryz.ntmps181 rfl fun C hC=>?_
 unfold Qgv at h
 obtain⟨x4,hx4,h⟩:=Qb h
 refine Qa hC [.n 11,.cm (.fn) [(200000,2),(200001,3)] [(2,200000),(3,200001)] [] [.d,.d] [(200000,.var (Qd n1)),(200001,.var (Qx l2))] (.tup [.i .i64 x4.1,.i .i64 x4.2]),.n 14,.keep [4] []] rfl ⟨tt_,(QoT _ _ _ hx4)⟩ ?_
 cases h
 exact AK.done (ex_ [_] (an_ (an_ rfl tt_) (gives tt_)))
def Qgw (v1:TNet)(v2:Qr):Option Int:=
 (Qgv v1 v2.Cancel).bind fun x4=>
 some x4
theorem Qpw (v1:TNet)(v2:Qr){r:Int}(h:Qgw v1 v2=some r):Qc Tryz.prog 180 [.loc 200000 0 0,.loc 200001 0 0] [(200000,.var (Qd v1)),(200001,.var (Qh v2))] (Gives (.i .i64 r) [(200000,.var (Qd v1)),(200001,.var (Qh v2))]):=by
 refine Qc.walk 7 Tryz.func180 rfl Tryz.ntmps180 rfl fun C hC=>?_
 unfold Qgw at h
 obtain⟨x4,hx4,h⟩:=Qb h
 refine Qa hC [.n 7,.v .no [] (.agg (Qd v1)),.n 2,.o (.c false [.d,.d] (.i .i64 x4)),.n 4,.keep [2] [200000,200001]] rfl ⟨⟨tt_,rfl⟩,(Qpv _ _ hx4)⟩ ?_
 cases h
 exact AK.done (ex_ [_] (an_ (an_ rfl tt_) (gives ⟨rfl,rfl,tt_⟩)))
def Qed (v1:TNet)(v2:Qr)(v3:Int):Option (Bool×Int):=
 (Qgw v1 v2).bind fun x6=>
 some ((x6==0),x6)
theorem QnM (v1:TNet)(v2:Qr)(v3:Int){r:(Bool×Int)}(h:Qed v1 v2 v3=some r):Qc Tryz.prog 215 [.loc 200000 0 0,.loc 200003 0 0] [(200000,.var [.clo (.func 180) [] [.loc 200001 0 0,.loc 200002 0 0]]),(200001,.var (Qd v1)),(200002,.var (Qh v2)),(200003,.var [.loc 200004 0 0]),(200004,.var (Qe v3))] (Gives (.b r.1) [(200000,.var [.clo (.func 180) [] [.loc 200001 0 0,.loc 200002 0 0]]),(200001,.var (Qd v1)),(200002,.var (Qh v2)),(200003,.var [.loc 200004 0 0]),(200004,.var (Qe r.2))]):=by
 refine Qc.walk 11 Tryz.func215 rfl Tryz.ntmps215 rfl fun C hC=>?_
 unfold Qed at h
 obtain⟨x6,hx6,h⟩:=Qb h
 refine Qa hC [.n 6,.keep [0,1] [200000,200001,200002,200003,200004]] rfl tt_ ?_
 refine AK.draw2 Qq hC mixed [.a .no none false,.a .no none false,.a (.any (.i .i64 x6) none) none false,.a .no none false,.m .s] [] [] [1] [200000,200001,200002,200003,200004] rfl rfl rfl ⟨tt_,(fun σ h1 h2 _=>Stp.callSame (md:=.cm (.clo) [(200000,200001),(200001,200002)] [(200001,200000),(200002,200001)] [] [.d,.d] [(200000,.var (Qd v1)),(200001,.var (Qh v2))] (.i .i64 x6) [200001,200002]) Qq hC h1 h2 rfl ⟨⟨tt_,(Qpw _ _ hx6)⟩,⟨rfl,rfl,tt_⟩⟩)⟩ rfl (by kernel_rfl) rfl rfl rfl ?_
 refine Qa hC [.sayO 200004 (.var (Qe x6)),.n 11,.keep [2] [200000,200001,200002,200003,200004]] rfl ⟨tt_,rfl⟩ ?_
 cases h
 exact AK.done (ex_ [_] (an_ (an_ rfl tt_) (gives ⟨rfl,rfl,rfl,rfl,rfl,tt_⟩)))
def Qep (k1:Int)(l2:(List TArc)):Option Bool:=
 some ((decide (1≤k1))&&((decide (k1≤3))&&((k1 != 3)||(decide ((l2.length:Int)≤4)))))
theorem QlH (k1:Int)(l2:(List TArc)){r:Bool}(h:Qep k1 l2=some r):Qc Tryz.prog 231 [.i .i64 k1,.sl 4 (l2.map QF)] [] (Gives (.b r) []):=by
 refine Qc.walk 20 Tryz.func231 rfl Tryz.ntmps231 rfl fun C hC=>?_
 unfold Qep at h
 refine Qa hC [.n 6] rfl tt_ ?_
 refine AK.meetX (fun σ=>σ=⟨[(4,.b ((decide (1≤k1))&&((decide (k1≤3))&&((k1 != 3)||(decide ((l2.length:Int)≤4))))))],[]⟩) ?_ ?_
 ·refine Qa hC [.n 4] rfl tt_ ?_
  rcases QJ (decide (1≤k1))with hc5 | hc5
  ·refine Qa hC [.say 7 (.b true),.n 4] rfl ⟨tt_,(congrArg V.b hc5)⟩ ?_
   rcases QJ (decide (k1≤3))with hc6 | hc6
   ·refine Qa hC [.say 11 (.b true),.n 3] rfl ⟨tt_,(congrArg V.b hc6)⟩ ?_
    rcases QJ (k1 != 3)with hc7 | hc7
    ·refine Qa hC [.say 14 (.b true),.n 7,.say 4 (.b ((decide (1≤k1))&&((decide (k1≤3))&&((k1 != 3)||(decide ((l2.length:Int)≤4)))))),.keep [4] []] rfl ⟨⟨tt_,(congrArg V.b hc7)⟩,(congrArg V.b (andT hc5 (andT hc6 (orT hc7 rfl))))⟩ ?_
     exact AK.met rfl
    ·refine Qa hC [.say 14 (.b false),.n 1,.o (.ln l2.length),.n 5,.say 4 (.b ((decide (1≤k1))&&((decide (k1≤3))&&((k1 != 3)||(decide ((l2.length:Int)≤4)))))),.keep [4] []] rfl ⟨⟨⟨tt_,(congrArg V.b hc7)⟩,Qf⟩,(congrArg V.b (andT hc5 (andT hc6 (orF hc7 rfl))))⟩ ?_
     exact AK.met rfl
   ·refine Qa hC [.say 11 (.b false),.n 10,.say 4 (.b ((decide (1≤k1))&&((decide (k1≤3))&&((k1 != 3)||(decide ((l2.length:Int)≤4)))))),.keep [4] []] rfl ⟨⟨tt_,(congrArg V.b hc6)⟩,(congrArg V.b (andT hc5 (andF hc6 rfl)))⟩ ?_
    exact AK.met rfl
  ·refine Qa hC [.say 7 (.b false),.n 14,.say 4 (.b ((decide (1≤k1))&&((decide (k1≤3))&&((k1 != 3)||(decide ((l2.length:Int)≤4)))))),.keep [4] []] rfl ⟨⟨tt_,(congrArg V.b hc5)⟩,(congrArg V.b (andF hc5 rfl))⟩ ?_
   exact AK.met rfl
 ·rintro σ rfl
  refine Qa hC [.n 2,.keep [4] []] rfl tt_ ?_
  cases h
  exact AK.done (ex_ [_] (an_ (an_ rfl tt_) (gives tt_)))
def Qkm (t1:Qr):Option Bool:=
 (Qep t1.Join t1.Ins).bind fun x11=>
 bif x11 then
 (Qep t1.Split t1.Outs).bind fun x13=>
 bif x13 then
 bif (decide (0≤t1.After))then
 bif (decide (t1.After≤65536))then
 some (((t1.Many.1==0)&&((t1.Many.2.1==0)&&(t1.Many.2.2==0)))||((decide (1≤t1.Many.1))&&((decide (t1.Many.1≤t1.Many.2.1))&&((decide (t1.Many.2.1≤16))&&((decide (1≤t1.Many.2.2))&&(decide (t1.Many.2.2≤t1.Many.2.1)))))))
 else
 some false
 else
 some false
 else
 some false
 else
 some false
def QfS (x9:Bool):Option Bool:=
 some x9
def Qh3 (t1:Qr):Option Bool:=
 (Qkm t1).bind (fun x9=>QfS x9)
theorem QqW (t1:Qr){r:Bool}(h:Qh3 t1=some r):Qc Tryz.prog 183 [.agg (Qh t1)] [] (Gives (.b r) []):=by
 refine Qc.walk 70 Tryz.func183 rfl Tryz.ntmps183 rfl fun C hC=>?_
 unfold Qh3 at h
 refine Qa hC [.n 7,.keep [1] [1]] rfl tt_ ?_
 refine AK.draw2 Qq hC mixed [.a .no none false,.a .no none false,.a .no none false,.a .no none false,.a .no none false,.a .no none false,.a .no none false,.a .no none false,.a .no none false,.a .no none false,.a .no none false,.a .no none false] [] [] [1,3,4,5] [1] rfl rfl rfl tt_ rfl (by kernel_rfl) rfl rfl rfl ?_
 refine Qa hC [.n 2] rfl tt_ ?_
 refine AK.meetX (fun σ=>σ=⟨[(1,.loc 1 0 0),(6,.b (((t1.Many.1==0)&&((t1.Many.2.1==0)&&(t1.Many.2.2==0)))||((decide (1≤t1.Many.1))&&((decide (t1.Many.1≤t1.Many.2.1))&&((decide (t1.Many.2.1≤16))&&((decide (1≤t1.Many.2.2))&&(decide (t1.Many.2.2≤t1.Many.2.1))))))))],[(1,.var (Qh t1))]⟩) ?_ ?_
 ·refine Qa hC [.n 2,.v .no [] (.agg (Qr8 t1.Many)),.v .no [] (.agg (Qr8 (0,0,0))),.o (.any (.b ((t1.Many.1==0)&&((t1.Many.2.1==0)&&(t1.Many.2.2==0)))) none),.n 1] rfl ⟨⟨⟨tt_,rfl⟩,rfl⟩,(fun σ h1 h2 _=>Stp.eqAgg rfl rfl (bleN hC.n rfl) (h1 _ _ rfl) (h1 _ _ rfl) rfl rfl (QxF _ _ _ _ _ _))⟩ ?_
  rcases QJ ((t1.Many.1==0)&&((t1.Many.2.1==0)&&(t1.Many.2.2==0)))with hc4 | hc4
  ·refine Qa hC [.say 21 (.b true),.n 23,.say 6 (.b (((t1.Many.1==0)&&((t1.Many.2.1==0)&&(t1.Many.2.2==0)))||((decide (1≤t1.Many.1))&&((decide (t1.Many.1≤t1.Many.2.1))&&((decide (t1.Many.2.1≤16))&&((decide (1≤t1.Many.2.2))&&(decide (t1.Many.2.2≤t1.Many.2.1)))))))),.keep [1,6] [1]] rfl ⟨⟨tt_,(congrArg V.b hc4)⟩,(congrArg V.b (orT hc4 rfl))⟩ ?_
   exact AK.met rfl
  ·refine Qa hC [.say 21 (.b false),.n 3] rfl ⟨tt_,(congrArg V.b hc4)⟩ ?_
   rcases QJ (decide (1≤t1.Many.1))with hc5 | hc5
   ·refine Qa hC [.say 24 (.b true),.n 5] rfl ⟨tt_,(congrArg V.b hc5)⟩ ?_
    rcases QJ (decide (t1.Many.1≤t1.Many.2.1))with hc6 | hc6
    ·refine Qa hC [.say 29 (.b true),.n 4] rfl ⟨tt_,(congrArg V.b hc6)⟩ ?_
     rcases QJ (decide (t1.Many.2.1≤16))with hc7 | hc7
     ·refine Qa hC [.say 33 (.b true),.n 4] rfl ⟨tt_,(congrArg V.b hc7)⟩ ?_
      rcases QJ (decide (1≤t1.Many.2.2))with hc8 | hc8
      ·refine Qa hC [.say 37 (.b true),.n 7,.say 6 (.b (((t1.Many.1==0)&&((t1.Many.2.1==0)&&(t1.Many.2.2==0)))||((decide (1≤t1.Many.1))&&((decide (t1.Many.1≤t1.Many.2.1))&&((decide (t1.Many.2.1≤16))&&((decide (1≤t1.Many.2.2))&&(decide (t1.Many.2.2≤t1.Many.2.1)))))))),.keep [1,6] [1]] rfl ⟨⟨tt_,(congrArg V.b hc8)⟩,(congrArg V.b (orF hc4 (andT hc5 (andT hc6 (andT hc7 (andT hc8 rfl))))))⟩ ?_
       exact AK.met rfl
      ·refine Qa hC [.say 37 (.b false),.n 7,.say 6 (.b (((t1.Many.1==0)&&((t1.Many.2.1==0)&&(t1.Many.2.2==0)))||((decide (1≤t1.Many.1))&&((decide (t1.Many.1≤t1.Many.2.1))&&((decide (t1.Many.2.1≤16))&&((decide (1≤t1.Many.2.2))&&(decide (t1.Many.2.2≤t1.Many.2.1)))))))),.keep [1,6] [1]] rfl ⟨⟨tt_,(congrArg V.b hc8)⟩,(congrArg V.b (orF hc4 (andT hc5 (andT hc6 (andT hc7 (andF hc8 rfl))))))⟩ ?_
       exact AK.met rfl
     ·refine Qa hC [.say 33 (.b false),.n 11,.say 6 (.b (((t1.Many.1==0)&&((t1.Many.2.1==0)&&(t1.Many.2.2==0)))||((decide (1≤t1.Many.1))&&((decide (t1.Many.1≤t1.Many.2.1))&&((decide (t1.Many.2.1≤16))&&((decide (1≤t1.Many.2.2))&&(decide (t1.Many.2.2≤t1.Many.2.1)))))))),.keep [1,6] [1]] rfl ⟨⟨tt_,(congrArg V.b hc7)⟩,(congrArg V.b (orF hc4 (andT hc5 (andT hc6 (andF hc7 rfl)))))⟩ ?_
      exact AK.met rfl
    ·refine Qa hC [.say 29 (.b false),.n 15,.say 6 (.b (((t1.Many.1==0)&&((t1.Many.2.1==0)&&(t1.Many.2.2==0)))||((decide (1≤t1.Many.1))&&((decide (t1.Many.1≤t1.Many.2.1))&&((decide (t1.Many.2.1≤16))&&((decide (1≤t1.Many.2.2))&&(decide (t1.Many.2.2≤t1.Many.2.1)))))))),.keep [1,6] [1]] rfl ⟨⟨tt_,(congrArg V.b hc6)⟩,(congrArg V.b (orF hc4 (andT hc5 (andF hc6 rfl))))⟩ ?_
     exact AK.met rfl
   ·refine Qa hC [.say 24 (.b false),.n 20,.say 6 (.b (((t1.Many.1==0)&&((t1.Many.2.1==0)&&(t1.Many.2.2==0)))||((decide (1≤t1.Many.1))&&((decide (t1.Many.1≤t1.Many.2.1))&&((decide (t1.Many.2.1≤16))&&((decide (1≤t1.Many.2.2))&&(decide (t1.Many.2.2≤t1.Many.2.1)))))))),.keep [1,6] [1]] rfl ⟨⟨tt_,(congrArg V.b hc5)⟩,(congrArg V.b (orF hc4 (andF hc5 rfl)))⟩ ?_
    exact AK.met rfl
 ·rintro σ rfl
  refine Qa hC [.n 7] rfl tt_ ?_
  obtain⟨x9,hv10,h⟩:=Qb h
  replace h:QfS x9=some r:=h
  refine AK.meetX (fun σ=>σ=⟨[(2,.b x9)],[]⟩) ?_ ?_
  ·replace h:=hv10
   unfold Qkm at h
   obtain⟨x11,hx11,h⟩:=Qb h
   refine Qa hC [.n 6,.o (.c false [.d,.d] (.b x11)),.n 1] rfl ⟨tt_,(QlH _ _ hx11)⟩ ?_
   rcases bifE h with⟨hc12,h⟩|⟨hc12,h⟩
   ·obtain⟨x13,hx13,h⟩:=Qb h
    refine Qa hC [.say 49 (.b true),.n 5,.o (.c false [.d,.d] (.b x13)),.n 2] rfl ⟨⟨tt_,(congrArg V.b hc12)⟩,(QlH _ _ hx13)⟩ ?_
    rcases bifE h with⟨hc14,h⟩|⟨hc14,h⟩
    ·refine Qa hC [.say 57 (.b true),.n 5] rfl ⟨tt_,(congrArg V.b hc14)⟩ ?_
     rcases bifE h with⟨hc15,h⟩|⟨hc15,h⟩
     ·refine Qa hC [.say 62 (.b true),.n 5] rfl ⟨tt_,(congrArg V.b hc15)⟩ ?_
      rcases bifE h with⟨hc16,h⟩|⟨hc16,h⟩
      ·refine Qa hC [.say 67 (.b true),.n 4,.keep [2] []] rfl ⟨tt_,(congrArg V.b hc16)⟩ ?_
       cases h
       exact AK.met rfl
      ·refine Qa hC [.say 67 (.b false),.n 4,.keep [2] []] rfl ⟨tt_,(congrArg V.b hc16)⟩ ?_
       cases h
       exact AK.met rfl
     ·refine Qa hC [.say 62 (.b false),.n 9,.keep [2] []] rfl ⟨tt_,(congrArg V.b hc15)⟩ ?_
      cases h
      exact AK.met rfl
    ·refine Qa hC [.say 57 (.b false),.n 14,.keep [2] []] rfl ⟨tt_,(congrArg V.b hc14)⟩ ?_
     cases h
     exact AK.met rfl
   ·refine Qa hC [.say 49 (.b false),.n 22,.keep [2] []] rfl ⟨tt_,(congrArg V.b hc12)⟩ ?_
    cases h
    exact AK.met rfl
  ·rintro σ rfl
   replace h:QfS x9=some r:=h
   unfold QfS at h
   refine Qa hC [.n 2,.keep [2] []] rfl tt_ ?_
   cases h
   exact AK.done (ex_ [_] (an_ (an_ rfl tt_) (gives tt_)))
def Qgx (v1:Qr):Option Bool:=
 (Qh3 v1).bind fun x3=>
 some x3
theorem Qpx (v1:Qr){r:Bool}(h:Qgx v1=some r):Qc Tryz.prog 182 [.loc 200000 0 0] [(200000,.var (Qh v1))] (Gives (.b r) [(200000,.var (Qh v1))]):=by
 refine Qc.walk 4 Tryz.func182 rfl Tryz.ntmps182 rfl fun C hC=>?_
 unfold Qgx at h
 obtain⟨x3,hx3,h⟩:=Qb h
 refine Qa hC [.n 7,.v .no [] (.agg (Qh v1)),.o (.c false [.d] (.b x3)),.n 4,.keep [1] [200000]] rfl ⟨⟨tt_,rfl⟩,(QqW _ hx3)⟩ ?_
 cases h
 exact AK.done (ex_ [_] (an_ (an_ rfl tt_) (gives ⟨rfl,tt_⟩)))
def QcQ (v1:Qr)(v2:Int)(v3:TNet)(v4:Int)(v5:Int)(v6:Int)(v7:Int)(v8:Int)(v9:Int)(v10:Int)(v11:Int)(v12:Int)(v13:Int)(v14:Int)(v15:Int):Option (Int×Int):=
 (Qhb v1).bind fun x20=>
 bif (!x20)then
 some (v2,v8)
 else
 (Qhe v3 v4 v1).bind fun x22=>
 bif (!x22)then
 some (v5,v8)
 else
 (Qfj v6 v1).bind fun x24=>
 bif (!x24)then
 some (v7,v8)
 else
 (Qeo v3 v1 v8).bind fun x26=>
 bif (!x26.1)then
 some (v9,x26.2)
 else
 (Qfk v3 v4).bind fun x28=>
 bif (!x28)then
 some (v10,x26.2)
 else
 (Qhg v1 v6).bind fun x30=>
 bif (!x30)then
 some (v11,x26.2)
 else
 (Qeb v3 v1 v6 x26.2).bind fun x32=>
 bif (!x32.1)then
 some (v12,x32.2)
 else
 (Qec v3 v1 v6 x32.2).bind fun x34=>
 bif (!x34.1)then
 some (v13,x34.2)
 else
 (Qed v3 v1 x34.2).bind fun x36=>
 bif (!x36.1)then
 some (v14,x36.2)
 else
 (Qgx v1).bind fun x38=>
 bif (!x38)then
 some (v15,x36.2)
 else
 some (0,x36.2)
theorem QoU (v1:Qr)(v2:Int)(v3:TNet)(v4:Int)(v5:Int)(v6:Int)(v7:Int)(v8:Int)(v9:Int)(v10:Int)(v11:Int)(v12:Int)(v13:Int)(v14:Int)(v15:Int){r:(Int×Int)}(h:QcQ v1 v2 v3 v4 v5 v6 v7 v8 v9 v10 v11 v12 v13 v14 v15=some r):Qc Tryz.prog 98 [.own 200000 10] [(200000,.var [.clo (.func 168) [] [.loc 200001 0 0],.i .i64 v2,.clo (.func 169) [] [.loc 200002 0 0,.loc 200003 0 0,.loc 200004 0 0],.i .i64 v5,.clo (.func 171) [] [.loc 200005 0 0,.loc 200001 0 0],.i .i64 v7,.clo (.func 215) [] [.loc 200006 0 0,.loc 200007 0 0],.i .i64 v9,.clo (.func 175) [] [.loc 200002 0 0,.loc 200003 0 0],.i .i64 v10,.clo (.func 176) [] [.loc 200001 0 0,.loc 200005 0 0],.i .i64 v11,.clo (.func 215) [] [.loc 200009 0 0,.loc 200010 0 0],.i .i64 v12,.clo (.func 215) [] [.loc 200011 0 0,.loc 200012 0 0],.i .i64 v13,.clo (.func 215) [] [.loc 200013 0 0,.loc 200014 0 0],.i .i64 v14,.clo (.func 182) [] [.loc 200001 0 0],.i .i64 v15]),(200001,.var (Qh v1)),(200002,.var (Qd v3)),(200003,.var (Qe v4)),(200004,.var [.clo (.func 167) [] [.loc 200001 0 0]]),(200005,.var (Qe v6)),(200006,.var [.clo (.func 173) [] [.loc 200002 0 0,.loc 200001 0 0]]),(200007,.var [.loc 200008 0 0]),(200008,.var (Qe v8)),(200009,.var [.clo (.func 177) [] [.loc 200002 0 0,.loc 200001 0 0,.loc 200005 0 0]]),(200010,.var [.loc 200008 0 0]),(200011,.var [.clo (.func 179) [] [.loc 200002 0 0,.loc 200001 0 0,.loc 200005 0 0]]),(200012,.var [.loc 200008 0 0]),(200013,.var [.clo (.func 180) [] [.loc 200002 0 0,.loc 200001 0 0]]),(200014,.var [.loc 200008 0 0])] (Gives (.i .i64 r.1) [(200000,.var [.clo (.func 168) [] [.loc 200001 0 0],.i .i64 v2,.clo (.func 169) [] [.loc 200002 0 0,.loc 200003 0 0,.loc 200004 0 0],.i .i64 v5,.clo (.func 171) [] [.loc 200005 0 0,.loc 200001 0 0],.i .i64 v7,.clo (.func 215) [] [.loc 200006 0 0,.loc 200007 0 0],.i .i64 v9,.clo (.func 175) [] [.loc 200002 0 0,.loc 200003 0 0],.i .i64 v10,.clo (.func 176) [] [.loc 200001 0 0,.loc 200005 0 0],.i .i64 v11,.clo (.func 215) [] [.loc 200009 0 0,.loc 200010 0 0],.i .i64 v12,.clo (.func 215) [] [.loc 200011 0 0,.loc 200012 0 0],.i .i64 v13,.clo (.func 215) [] [.loc 200013 0 0,.loc 200014 0 0],.i .i64 v14,.clo (.func 182) [] [.loc 200001 0 0],.i .i64 v15]),(200001,.var (Qh v1)),(200002,.var (Qd v3)),(200003,.var (Qe v4)),(200004,.var [.clo (.func 167) [] [.loc 200001 0 0]]),(200005,.var (Qe v6)),(200006,.var [.clo (.func 173) [] [.loc 200002 0 0,.loc 200001 0 0]]),(200007,.var [.loc 200008 0 0]),(200008,.var (Qe r.2)),(200009,.var [.clo (.func 177) [] [.loc 200002 0 0,.loc 200001 0 0,.loc 200005 0 0]]),(200010,.var [.loc 200008 0 0]),(200011,.var [.clo (.func 179) [] [.loc 200002 0 0,.loc 200001 0 0,.loc 200005 0 0]]),(200012,.var [.loc 200008 0 0]),(200013,.var [.clo (.func 180) [] [.loc 200002 0 0,.loc 200001 0 0]]),(200014,.var [.loc 200008 0 0])]):=by
 refine Qc.walk 18 Tryz.func98 rfl Tryz.ntmps98 rfl fun C hC=>?_
 unfold QcQ at h
 refine Qa hC [.n 14] rfl tt_ ?_
 refine AK.loopN 11 (AK.rnd ?_)
 obtain⟨x20,hx20,h⟩:=Qb h
 refine Qa hC [.n 2,.v .no [] (.b true),.n 10,.o (.any (.loc 200000 0 0) none),.n 3,.sayO 4 (.var [.clo (.func 168) [] [.loc 200001 0 0],.i .i64 v2]),.n 6,.cm (.clo) [(200000,200001)] [(200001,200000)] [] [.d] [(200000,.var (Qh v1))] (.b x20),.n 3] rfl ⟨⟨⟨⟨tt_,rfl⟩,(fun σ h1 h2 _=>Stp.idxV rfl rfl (bleN hC.n rfl) (h1 _ _ rfl) (h1 _ _ rfl) (Qq.es rfl) (h2 _ _ rfl) (by decide))⟩,rfl⟩,(Qp9 _ hx20)⟩ ?_
 rcases bifE h with⟨hc21,h⟩|⟨hc21,h⟩
 ·refine Qa hC [.br true,.n 13,.keep [2] [200000,200001,200002,200003,200004,200005,200006,200007,200008,200009,200010,200011,200012,200013,200014]] rfl ⟨tt_,hc21⟩ ?_
  cases h
  exact AK.done (ex_ [_] (an_ (an_ rfl tt_) (gives ⟨rfl,rfl,rfl,rfl,rfl,rfl,rfl,rfl,rfl,rfl,rfl,rfl,rfl,rfl,rfl,tt_⟩)))
 ·refine Qa hC [.br false,.n 4,.v .no [] (.i .i64 1),.n 2] rfl ⟨⟨tt_,hc21⟩,rfl⟩ ?_
  refine AK.met (AK.rnd ?_)
  obtain⟨x22,hx22,h⟩:=Qb h
  refine Qa hC [.n 2,.v .no [] (.b true),.n 10,.o (.any (.loc 200000 0 2) none),.n 1,.kill 4,.n 2,.sayO 4 (.var [.clo (.func 169) [] [.loc 200002 0 0,.loc 200003 0 0,.loc 200004 0 0],.i .i64 v5]),.n 6,.cm (.clo) [(200000,200002),(200001,200003),(200002,200004),(200003,200001)] [(200002,200000),(200003,200001),(200004,200002),(200001,200003)] [] [.d,.d,.d] [(200000,.var (Qd v3)),(200001,.var (Qe v4)),(200002,.var [.clo (.func 167) [] [.loc 200003 0 0]]),(200003,.var (Qh v1))] (.b x22),.n 3] rfl ⟨⟨⟨⟨tt_,rfl⟩,(fun σ h1 h2 _=>Stp.idxV rfl rfl (bleN hC.n rfl) (h1 _ _ rfl) (h1 _ _ rfl) (Qq.es rfl) (h2 _ _ rfl) (by decide))⟩,rfl⟩,(Qqb _ _ _ hx22)⟩ ?_
  rcases bifE h with⟨hc23,h⟩|⟨hc23,h⟩
  ·refine Qa hC [.br true,.n 13,.keep [2] [200000,200001,200002,200003,200004,200005,200006,200007,200008,200009,200010,200011,200012,200013,200014]] rfl ⟨tt_,hc23⟩ ?_
   cases h
   exact AK.done (ex_ [_] (an_ (an_ rfl tt_) (gives ⟨rfl,rfl,rfl,rfl,rfl,rfl,rfl,rfl,rfl,rfl,rfl,rfl,rfl,rfl,rfl,tt_⟩)))
  ·refine Qa hC [.br false,.n 4,.v .no [] (.i .i64 2),.n 2] rfl ⟨⟨tt_,hc23⟩,rfl⟩ ?_
   refine AK.met (AK.rnd ?_)
   obtain⟨x24,hx24,h⟩:=Qb h
   refine Qa hC [.n 2,.v .no [] (.b true),.n 10,.o (.any (.loc 200000 0 4) none),.n 1,.kill 4,.n 2,.sayO 4 (.var [.clo (.func 171) [] [.loc 200005 0 0,.loc 200001 0 0],.i .i64 v7]),.n 6,.cm (.clo) [(200000,200005),(200001,200001)] [(200005,200000),(200001,200001)] [] [.d,.d] [(200000,.var (Qe v6)),(200001,.var (Qh v1))] (.b x24),.n 3] rfl ⟨⟨⟨⟨tt_,rfl⟩,(fun σ h1 h2 _=>Stp.idxV rfl rfl (bleN hC.n rfl) (h1 _ _ rfl) (h1 _ _ rfl) (Qq.es rfl) (h2 _ _ rfl) (by decide))⟩,rfl⟩,(Qqc _ _ hx24)⟩ ?_
   rcases bifE h with⟨hc25,h⟩|⟨hc25,h⟩
   ·refine Qa hC [.br true,.n 13,.keep [2] [200000,200001,200002,200003,200004,200005,200006,200007,200008,200009,200010,200011,200012,200013,200014]] rfl ⟨tt_,hc25⟩ ?_
    cases h
    exact AK.done (ex_ [_] (an_ (an_ rfl tt_) (gives ⟨rfl,rfl,rfl,rfl,rfl,rfl,rfl,rfl,rfl,rfl,rfl,rfl,rfl,rfl,rfl,tt_⟩)))
   ·refine Qa hC [.br false,.n 4,.v .no [] (.i .i64 3),.n 2] rfl ⟨⟨tt_,hc25⟩,rfl⟩ ?_
    refine AK.met (AK.rnd ?_)
    obtain⟨x26,hx26,h⟩:=Qb h
    refine Qa hC [.n 2,.v .no [] (.b true),.n 10,.o (.any (.loc 200000 0 6) none),.n 1,.kill 4,.n 2,.sayO 4 (.var [.clo (.func 215) [] [.loc 200006 0 0,.loc 200007 0 0],.i .i64 v9]),.n 6,.cm (.clo) [(200000,200006),(200001,200002),(200002,200001),(200003,200007),(200004,200008)] [(200006,200000),(200002,200001),(200001,200002),(200007,200003),(200008,200004)] [] [.d,.d] [(200000,.var [.clo (.func 173) [] [.loc 200001 0 0,.loc 200002 0 0]]),(200001,.var (Qd v3)),(200002,.var (Qh v1)),(200003,.var [.loc 200004 0 0]),(200004,.var (Qe x26.2))] (.b x26.1),.n 3] rfl ⟨⟨⟨⟨tt_,rfl⟩,(fun σ h1 h2 _=>Stp.idxV rfl rfl (bleN hC.n rfl) (h1 _ _ rfl) (h1 _ _ rfl) (Qq.es rfl) (h2 _ _ rfl) (by decide))⟩,rfl⟩,(Qpu _ _ _ hx26)⟩ ?_
    rcases bifE h with⟨hc27,h⟩|⟨hc27,h⟩
    ·refine Qa hC [.br true,.n 13,.keep [2] [200000,200001,200002,200003,200004,200005,200006,200007,200008,200009,200010,200011,200012,200013,200014]] rfl ⟨tt_,hc27⟩ ?_
     cases h
     exact AK.done (ex_ [_] (an_ (an_ rfl tt_) (gives ⟨rfl,rfl,rfl,rfl,rfl,rfl,rfl,rfl,rfl,rfl,rfl,rfl,rfl,rfl,rfl,tt_⟩)))
    ·refine Qa hC [.br false,.n 4,.v .no [] (.i .i64 4),.n 2] rfl ⟨⟨tt_,hc27⟩,rfl⟩ ?_
     refine AK.met (AK.rnd ?_)
     obtain⟨x28,hx28,h⟩:=Qb h
     refine Qa hC [.n 2,.v .no [] (.b true),.n 10,.o (.any (.loc 200000 0 8) none),.n 1,.kill 4,.n 2,.sayO 4 (.var [.clo (.func 175) [] [.loc 200002 0 0,.loc 200003 0 0],.i .i64 v10]),.n 6,.cm (.clo) [(200000,200002),(200001,200003)] [(200002,200000),(200003,200001)] [] [.d,.d] [(200000,.var (Qd v3)),(200001,.var (Qe v4))] (.b x28),.n 3] rfl ⟨⟨⟨⟨tt_,rfl⟩,(fun σ h1 h2 _=>Stp.idxV rfl rfl (bleN hC.n rfl) (h1 _ _ rfl) (h1 _ _ rfl) (Qq.es rfl) (h2 _ _ rfl) (by decide))⟩,rfl⟩,(Qqe _ _ hx28)⟩ ?_
     rcases bifE h with⟨hc29,h⟩|⟨hc29,h⟩
     ·refine Qa hC [.br true,.n 13,.keep [2] [200000,200001,200002,200003,200004,200005,200006,200007,200008,200009,200010,200011,200012,200013,200014]] rfl ⟨tt_,hc29⟩ ?_
      cases h
      exact AK.done (ex_ [_] (an_ (an_ rfl tt_) (gives ⟨rfl,rfl,rfl,rfl,rfl,rfl,rfl,rfl,rfl,rfl,rfl,rfl,rfl,rfl,rfl,tt_⟩)))
     ·refine Qa hC [.br false,.n 4,.v .no [] (.i .i64 5),.n 2] rfl ⟨⟨tt_,hc29⟩,rfl⟩ ?_
      refine AK.met (AK.rnd ?_)
      obtain⟨x30,hx30,h⟩:=Qb h
      refine Qa hC [.n 2,.v .no [] (.b true),.n 10,.o (.any (.loc 200000 0 10) none),.n 1,.kill 4,.n 2,.sayO 4 (.var [.clo (.func 176) [] [.loc 200001 0 0,.loc 200005 0 0],.i .i64 v11]),.n 6,.cm (.clo) [(200000,200001),(200001,200005)] [(200001,200000),(200005,200001)] [] [.d,.d] [(200000,.var (Qh v1)),(200001,.var (Qe v6))] (.b x30),.n 3] rfl ⟨⟨⟨⟨tt_,rfl⟩,(fun σ h1 h2 _=>Stp.idxV rfl rfl (bleN hC.n rfl) (h1 _ _ rfl) (h1 _ _ rfl) (Qq.es rfl) (h2 _ _ rfl) (by decide))⟩,rfl⟩,(Qqf _ _ hx30)⟩ ?_
      rcases bifE h with⟨hc31,h⟩|⟨hc31,h⟩
      ·refine Qa hC [.br true,.n 13,.keep [2] [200000,200001,200002,200003,200004,200005,200006,200007,200008,200009,200010,200011,200012,200013,200014]] rfl ⟨tt_,hc31⟩ ?_
       cases h
       exact AK.done (ex_ [_] (an_ (an_ rfl tt_) (gives ⟨rfl,rfl,rfl,rfl,rfl,rfl,rfl,rfl,rfl,rfl,rfl,rfl,rfl,rfl,rfl,tt_⟩)))
      ·refine Qa hC [.br false,.n 4,.v .no [] (.i .i64 6),.n 2] rfl ⟨⟨tt_,hc31⟩,rfl⟩ ?_
       refine AK.met (AK.rnd ?_)
       obtain⟨x32,hx32,h⟩:=Qb h
       refine Qa hC [.n 2,.v .no [] (.b true),.n 10,.o (.any (.loc 200000 0 12) none),.n 1,.kill 4,.n 2,.sayO 4 (.var [.clo (.func 215) [] [.loc 200009 0 0,.loc 200010 0 0],.i .i64 v12]),.n 6,.cm (.clo) [(200000,200009),(200001,200002),(200002,200001),(200003,200005),(200004,200010),(200005,200008)] [(200009,200000),(200002,200001),(200001,200002),(200005,200003),(200010,200004),(200008,200005)] [] [.d,.d] [(200000,.var [.clo (.func 177) [] [.loc 200001 0 0,.loc 200002 0 0,.loc 200003 0 0]]),(200001,.var (Qd v3)),(200002,.var (Qh v1)),(200003,.var (Qe v6)),(200004,.var [.loc 200005 0 0]),(200005,.var (Qe x32.2))] (.b x32.1),.n 3] rfl ⟨⟨⟨⟨tt_,rfl⟩,(fun σ h1 h2 _=>Stp.idxV rfl rfl (bleN hC.n rfl) (h1 _ _ rfl) (h1 _ _ rfl) (Qq.es rfl) (h2 _ _ rfl) (by decide))⟩,rfl⟩,(QnK _ _ _ _ hx32)⟩ ?_
       rcases bifE h with⟨hc33,h⟩|⟨hc33,h⟩
       ·refine Qa hC [.br true,.n 13,.keep [2] [200000,200001,200002,200003,200004,200005,200006,200007,200008,200009,200010,200011,200012,200013,200014]] rfl ⟨tt_,hc33⟩ ?_
        cases h
        exact AK.done (ex_ [_] (an_ (an_ rfl tt_) (gives ⟨rfl,rfl,rfl,rfl,rfl,rfl,rfl,rfl,rfl,rfl,rfl,rfl,rfl,rfl,rfl,tt_⟩)))
       ·refine Qa hC [.br false,.n 4,.v .no [] (.i .i64 7),.n 2] rfl ⟨⟨tt_,hc33⟩,rfl⟩ ?_
        refine AK.met (AK.rnd ?_)
        obtain⟨x34,hx34,h⟩:=Qb h
        refine Qa hC [.n 2,.v .no [] (.b true),.n 10,.o (.any (.loc 200000 0 14) none),.n 1,.kill 4,.n 2,.sayO 4 (.var [.clo (.func 215) [] [.loc 200011 0 0,.loc 200012 0 0],.i .i64 v13]),.n 6,.cm (.clo) [(200000,200011),(200001,200002),(200002,200001),(200003,200005),(200004,200012),(200005,200008)] [(200011,200000),(200002,200001),(200001,200002),(200005,200003),(200012,200004),(200008,200005)] [] [.d,.d] [(200000,.var [.clo (.func 179) [] [.loc 200001 0 0,.loc 200002 0 0,.loc 200003 0 0]]),(200001,.var (Qd v3)),(200002,.var (Qh v1)),(200003,.var (Qe v6)),(200004,.var [.loc 200005 0 0]),(200005,.var (Qe x34.2))] (.b x34.1),.n 3] rfl ⟨⟨⟨⟨tt_,rfl⟩,(fun σ h1 h2 _=>Stp.idxV rfl rfl (bleN hC.n rfl) (h1 _ _ rfl) (h1 _ _ rfl) (Qq.es rfl) (h2 _ _ rfl) (by decide))⟩,rfl⟩,(QnL _ _ _ _ hx34)⟩ ?_
        rcases bifE h with⟨hc35,h⟩|⟨hc35,h⟩
        ·refine Qa hC [.br true,.n 13,.keep [2] [200000,200001,200002,200003,200004,200005,200006,200007,200008,200009,200010,200011,200012,200013,200014]] rfl ⟨tt_,hc35⟩ ?_
         cases h
         exact AK.done (ex_ [_] (an_ (an_ rfl tt_) (gives ⟨rfl,rfl,rfl,rfl,rfl,rfl,rfl,rfl,rfl,rfl,rfl,rfl,rfl,rfl,rfl,tt_⟩)))
        ·refine Qa hC [.br false,.n 4,.v .no [] (.i .i64 8),.n 2] rfl ⟨⟨tt_,hc35⟩,rfl⟩ ?_
         refine AK.met (AK.rnd ?_)
         obtain⟨x36,hx36,h⟩:=Qb h
         refine Qa hC [.n 2,.v .no [] (.b true),.n 10,.o (.any (.loc 200000 0 16) none),.n 1,.kill 4,.n 2,.sayO 4 (.var [.clo (.func 215) [] [.loc 200013 0 0,.loc 200014 0 0],.i .i64 v14]),.n 6,.cm (.clo) [(200000,200013),(200001,200002),(200002,200001),(200003,200014),(200004,200008)] [(200013,200000),(200002,200001),(200001,200002),(200014,200003),(200008,200004)] [] [.d,.d] [(200000,.var [.clo (.func 180) [] [.loc 200001 0 0,.loc 200002 0 0]]),(200001,.var (Qd v3)),(200002,.var (Qh v1)),(200003,.var [.loc 200004 0 0]),(200004,.var (Qe x36.2))] (.b x36.1),.n 3] rfl ⟨⟨⟨⟨tt_,rfl⟩,(fun σ h1 h2 _=>Stp.idxV rfl rfl (bleN hC.n rfl) (h1 _ _ rfl) (h1 _ _ rfl) (Qq.es rfl) (h2 _ _ rfl) (by decide))⟩,rfl⟩,(QnM _ _ _ hx36)⟩ ?_
         rcases bifE h with⟨hc37,h⟩|⟨hc37,h⟩
         ·refine Qa hC [.br true,.n 13,.keep [2] [200000,200001,200002,200003,200004,200005,200006,200007,200008,200009,200010,200011,200012,200013,200014]] rfl ⟨tt_,hc37⟩ ?_
          cases h
          exact AK.done (ex_ [_] (an_ (an_ rfl tt_) (gives ⟨rfl,rfl,rfl,rfl,rfl,rfl,rfl,rfl,rfl,rfl,rfl,rfl,rfl,rfl,rfl,tt_⟩)))
         ·refine Qa hC [.br false,.n 4,.v .no [] (.i .i64 9),.n 2] rfl ⟨⟨tt_,hc37⟩,rfl⟩ ?_
          refine AK.met (AK.rnd ?_)
          obtain⟨x38,hx38,h⟩:=Qb h
          refine Qa hC [.n 2,.v .no [] (.b true),.n 10,.o (.any (.loc 200000 0 18) none),.n 1,.kill 4,.n 2,.sayO 4 (.var [.clo (.func 182) [] [.loc 200001 0 0],.i .i64 v15]),.n 6,.cm (.clo) [(200000,200001)] [(200001,200000)] [] [.d] [(200000,.var (Qh v1))] (.b x38),.n 3] rfl ⟨⟨⟨⟨tt_,rfl⟩,(fun σ h1 h2 _=>Stp.idxV rfl rfl (bleN hC.n rfl) (h1 _ _ rfl) (h1 _ _ rfl) (Qq.es rfl) (h2 _ _ rfl) (by decide))⟩,rfl⟩,(Qpx _ hx38)⟩ ?_
          rcases bifE h with⟨hc39,h⟩|⟨hc39,h⟩
          ·refine Qa hC [.br true,.n 13,.keep [2] [200000,200001,200002,200003,200004,200005,200006,200007,200008,200009,200010,200011,200012,200013,200014]] rfl ⟨tt_,hc39⟩ ?_
           cases h
           exact AK.done (ex_ [_] (an_ (an_ rfl tt_) (gives ⟨rfl,rfl,rfl,rfl,rfl,rfl,rfl,rfl,rfl,rfl,rfl,rfl,rfl,rfl,rfl,tt_⟩)))
          ·refine Qa hC [.br false,.n 4,.v .no [] (.i .i64 10),.n 2] rfl ⟨⟨tt_,hc39⟩,rfl⟩ ?_
           refine AK.met (AK.rnd ?_)
           refine Qa hC [.n 2,.v .no [] (.b false),.n 15,.keep [2] [200000,200001,200002,200003,200004,200005,200006,200007,200008,200009,200010,200011,200012,200013,200014]] rfl ⟨tt_,rfl⟩ ?_
           cases h
           exact AK.done (ex_ [_] (an_ (an_ rfl tt_) (gives ⟨rfl,rfl,rfl,rfl,rfl,rfl,rfl,rfl,rfl,rfl,rfl,rfl,rfl,rfl,rfl,tt_⟩)))
def Qbo (n1:TNet)(k2:Int):Option Int:=
 (QaJ n1.Tasks k2).bind fun x5=>
 bif (!x5)then
 some 3
 else
 (Qen n1).bind fun x7=>
 bif (x7.2 != 0)then
 some x7.2
 else
 (idx n1.Tasks k2).bind fun e9=>
 (idx n1.Tasks k2).bind fun e10=>
 (Qh1 0 n1 e9).bind fun x11=>
 (QfH 0 n1 e9 (e10.Vars.length:Int)).bind fun x12=>
 (QfI 0 n1 e9 (e10.Vars.length:Int)).bind fun x13=>
 (QfJ 0 n1 e9).bind fun x14=>
 (QcQ e9 1 n1 k2 5 (e10.Vars.length:Int) 2 0 (-1) 2 1 (-1) (-1) (-1) 11).bind fun x15=>
 bif (x15.1==(-1))then
 some x15.2
 else
 some x15.1
theorem QrB (n1:TNet)(k2:Int){r:Int}(h:Qbo n1 k2=some r):Qc Tryz.prog 109 [.agg (Qd n1),.i .i64 k2] [] (Gives (.i .i64 r) []):=by
 refine Qc.walk 68 Tryz.func109 rfl Tryz.ntmps109 rfl fun C hC=>?_
 unfold Qbo at h
 obtain⟨x5,hx5,h⟩:=Qb h
 refine Qa hC [.n 13,.o (.c false [.d,.d] (.b x5)),.n 3] rfl ⟨tt_,(Qiu _ _ hx5)⟩ ?_
 rcases bifE h with⟨hc6,h⟩|⟨hc6,h⟩
 ·refine Qa hC [.br true,.n 7,.keep [4] []] rfl ⟨tt_,hc6⟩ ?_
  cases h
  exact AK.done (ex_ [_] (an_ (an_ rfl tt_) (gives tt_)))
 ·obtain⟨x7,hx7,h⟩:=Qb h
  refine Qa hC [.br false,.n 5,.v .no [] (.agg (Qd n1)),.o (.c false [.d] (.tup [.i .i64 x7.1,.i .i64 x7.2])),.n 13] rfl ⟨⟨⟨tt_,hc6⟩,rfl⟩,(QlG _ hx7)⟩ ?_
  rcases bifE h with⟨hc8,h⟩|⟨hc8,h⟩
  ·refine Qa hC [.br true,.n 8,.keep [4] []] rfl ⟨tt_,hc8⟩ ?_
   cases h
   exact AK.done (ex_ [_] (an_ (an_ rfl tt_) (gives tt_)))
  ·obtain⟨e9,he9,h⟩:=Qb h
   obtain⟨e10,he10,h⟩:=Qb h
   refine Qa hC [.br false,.n 3,.keep [2,3] [2,3]] rfl ⟨tt_,hc8⟩ ?_
   refine AK.draw2 Qq hC mixed [.a .no none false,.a .no none false,.a .no none false,.a (.row (Qh e9)) none false,.a .no (some ([],.agg (Qh e9))) false,.a .no none true,.a .no none true,.a .no none true,.a (.row (Qh e10)) none true,.a .no none true,.a .no none true,.a (.ln e10.Vars.length) none true,.a .no none false,.a .no none false,.m .s,.m .s] [2,3] [2,3] [2,3,7,8] [2,3,7,8] rfl rfl rfl ⟨⟨⟨⟨tt_,(idxM he9)⟩,rfl⟩,(idxM he10)⟩,Qf⟩ rfl (by kernel_rfl) rfl rfl rfl ?_
   obtain⟨x11,hx11,h⟩:=Qb h
   obtain⟨x12,hx12,h⟩:=Qb h
   obtain⟨x13,hx13,h⟩:=Qb h
   obtain⟨x14,hx14,h⟩:=Qb h
   obtain⟨x15,hx15,h⟩:=Qb h
   refine Qa hC [.sayO 7 (.var (Qh e9)),.sayO 8 (.var (Qe (e10.Vars.length:Int))),.n 6,.sayO 9 (.var [.clo (.func 167) [] [.loc 7 0 0]]),.n 10,.v .no [] (.agg [.clo (.func 168) [] [.loc 7 0 0],.i .i64 1]),.n 1,.v .no [] (.agg [.clo (.func 169) [] [.loc 2 0 0,.loc 3 0 0,.loc 9 0 0],.i .i64 5]),.n 1,.v .no [] (.agg [.clo (.func 171) [] [.loc 8 0 0,.loc 7 0 0],.i .i64 2]),.n 1,.cm (.fn) [(200000,10),(200001,2),(200002,7)] [(45,2),(50000,3),(10,200000),(2,200001),(7,200002)] [] [.d,.d] [(2,.var [.loc 200000 0 0]),(3,.var [.clo (.func 173) [] [.loc 200001 0 0,.loc 200002 0 0]]),(200000,.var (Qe 0)),(200001,.var (Qd n1)),(200002,.var (Qh e9))] (.clo (.func 215) [] [.loc 3 0 0,.loc 2 0 0]),.v .no [] (.agg [.clo (.func 215) [] [.loc 50000 0 0,.loc 45 0 0],.i .i64 (-1)]),.n 1,.v .no [] (.agg [.clo (.func 175) [] [.loc 2 0 0,.loc 3 0 0],.i .i64 2]),.n 1,.v .no [] (.agg [.clo (.func 176) [] [.loc 7 0 0,.loc 8 0 0],.i .i64 1]),.n 1,.cm (.fn) [(200000,10),(200001,2),(200002,7),(200003,8)] [(52,2),(50001,3),(10,200000),(2,200001),(7,200002),(8,200003)] [] [.d,.d] [(2,.var [.loc 200000 0 0]),(3,.var [.clo (.func 177) [] [.loc 200001 0 0,.loc 200002 0 0,.loc 200003 0 0]]),(200000,.var (Qe 0)),(200001,.var (Qd n1)),(200002,.var (Qh e9)),(200003,.var (Qe (e10.Vars.length:Int)))] (.clo (.func 215) [] [.loc 3 0 0,.loc 2 0 0]),.v .no [] (.agg [.clo (.func 215) [] [.loc 50001 0 0,.loc 52 0 0],.i .i64 (-1)]),.n 1,.cm (.fn) [(200000,10),(200001,2),(200002,7),(200003,8)] [(55,2),(50002,3),(10,200000),(2,200001),(7,200002),(8,200003)] [] [.d,.d] [(2,.var [.loc 200000 0 0]),(3,.var [.clo (.func 179) [] [.loc 200001 0 0,.loc 200002 0 0,.loc 200003 0 0]]),(200000,.var (Qe 0)),(200001,.var (Qd n1)),(200002,.var (Qh e9)),(200003,.var (Qe (e10.Vars.length:Int)))] (.clo (.func 215) [] [.loc 3 0 0,.loc 2 0 0]),.v .no [] (.agg [.clo (.func 215) [] [.loc 50002 0 0,.loc 55 0 0],.i .i64 (-1)]),.n 1,.cm (.fn) [(200000,10),(200001,2),(200002,7)] [(58,2),(50003,3),(10,200000),(2,200001),(7,200002)] [] [.d,.d] [(2,.var [.loc 200000 0 0]),(3,.var [.clo (.func 180) [] [.loc 200001 0 0,.loc 200002 0 0]]),(200000,.var (Qe 0)),(200001,.var (Qd n1)),(200002,.var (Qh e9))] (.clo (.func 215) [] [.loc 3 0 0,.loc 2 0 0]),.v .no [] (.agg [.clo (.func 215) [] [.loc 50003 0 0,.loc 58 0 0],.i .i64 (-1)]),.n 1,.v .no [] (.agg [.clo (.func 182) [] [.loc 7 0 0],.i .i64 11]),.o (.any (.own 62 10) (some (.var [.clo (.func 168) [] [.loc 7 0 0],.i .i64 1,.clo (.func 169) [] [.loc 2 0 0,.loc 3 0 0,.loc 9 0 0],.i .i64 5,.clo (.func 171) [] [.loc 8 0 0,.loc 7 0 0],.i .i64 2,.clo (.func 215) [] [.loc 50000 0 0,.loc 45 0 0],.i .i64 (-1),.clo (.func 175) [] [.loc 2 0 0,.loc 3 0 0],.i .i64 2,.clo (.func 176) [] [.loc 7 0 0,.loc 8 0 0],.i .i64 1,.clo (.func 215) [] [.loc 50001 0 0,.loc 52 0 0],.i .i64 (-1),.clo (.func 215) [] [.loc 50002 0 0,.loc 55 0 0],.i .i64 (-1),.clo (.func 215) [] [.loc 50003 0 0,.loc 58 0 0],.i .i64 (-1),.clo (.func 182) [] [.loc 7 0 0],.i .i64 11]))),.cm (.fn) [(200000,62),(200001,7),(200002,2),(200003,3),(200004,9),(200005,8),(200006,50000),(200007,45),(200008,10),(200009,50001),(200010,52),(200011,50002),(200012,55),(200013,50003),(200014,58)] [(62,200000),(7,200001),(2,200002),(3,200003),(9,200004),(8,200005),(50000,200006),(45,200007),(10,200008),(50001,200009),(52,200010),(50002,200011),(55,200012),(50003,200013),(58,200014)] [] [.d] [(200000,.var [.clo (.func 168) [] [.loc 200001 0 0],.i .i64 1,.clo (.func 169) [] [.loc 200002 0 0,.loc 200003 0 0,.loc 200004 0 0],.i .i64 5,.clo (.func 171) [] [.loc 200005 0 0,.loc 200001 0 0],.i .i64 2,.clo (.func 215) [] [.loc 200006 0 0,.loc 200007 0 0],.i .i64 (-1),.clo (.func 175) [] [.loc 200002 0 0,.loc 200003 0 0],.i .i64 2,.clo (.func 176) [] [.loc 200001 0 0,.loc 200005 0 0],.i .i64 1,.clo (.func 215) [] [.loc 200009 0 0,.loc 200010 0 0],.i .i64 (-1),.clo (.func 215) [] [.loc 200011 0 0,.loc 200012 0 0],.i .i64 (-1),.clo (.func 215) [] [.loc 200013 0 0,.loc 200014 0 0],.i .i64 (-1),.clo (.func 182) [] [.loc 200001 0 0],.i .i64 11]),(200001,.var (Qh e9)),(200002,.var (Qd n1)),(200003,.var (Qe k2)),(200004,.var [.clo (.func 167) [] [.loc 200001 0 0]]),(200005,.var (Qe (e10.Vars.length:Int))),(200006,.var [.clo (.func 173) [] [.loc 200002 0 0,.loc 200001 0 0]]),(200007,.var [.loc 200008 0 0]),(200008,.var (Qe x15.2)),(200009,.var [.clo (.func 177) [] [.loc 200002 0 0,.loc 200001 0 0,.loc 200005 0 0]]),(200010,.var [.loc 200008 0 0]),(200011,.var [.clo (.func 179) [] [.loc 200002 0 0,.loc 200001 0 0,.loc 200005 0 0]]),(200012,.var [.loc 200008 0 0]),(200013,.var [.clo (.func 180) [] [.loc 200002 0 0,.loc 200001 0 0]]),(200014,.var [.loc 200008 0 0])] (.i .i64 x15.1),.n 10] rfl ⟨⟨⟨⟨⟨⟨⟨⟨⟨⟨⟨⟨⟨⟨⟨⟨⟨⟨⟨tt_,rfl⟩,rfl⟩,rfl⟩,rfl⟩,rfl⟩,rfl⟩,(QqV _ _ _ hx11)⟩,rfl⟩,rfl⟩,rfl⟩,(QoL _ _ _ _ hx12)⟩,rfl⟩,(QoM _ _ _ _ hx13)⟩,rfl⟩,(QoN _ _ _ hx14)⟩,rfl⟩,rfl⟩,(fun σ h1 h2 hf=>Stp.buildAny rfl rfl (bleN hC.n rfl) (Qq.es rfl) QlC rfl (by decide) (by decide) (Qfn h1 rfl) rfl rfl (hf rfl))⟩,(QoU _ _ _ _ _ _ _ _ _ _ _ _ _ _ _ hx15)⟩ ?_
   rcases bifE h with⟨hc16,h⟩|⟨hc16,h⟩
   ·refine Qa hC [.br true,.n 8,.keep [4] []] rfl ⟨tt_,hc16⟩ ?_
    cases h
    exact AK.done (ex_ [_] (an_ (an_ rfl tt_) (gives tt_)))
   ·refine Qa hC [.br false,.n 9,.keep [4] []] rfl ⟨tt_,hc16⟩ ?_
    cases h
    exact AK.done (ex_ [_] (an_ (an_ rfl tt_) (gives tt_)))
def Qgb (k1:Int)(p2:Qr)(v3:TNet):Option Int:=
 (Qbo v3 k1).bind fun x5=>
 some x5
theorem QqX (k1:Int)(p2:Qr)(v3:TNet){r:Int}(h:Qgb k1 p2 v3=some r):Qc Tryz.prog 108 [.i .i64 k1,.agg (Qh p2),.loc 200000 0 0] [(200000,.var (Qd v3))] (Gives (.i .i64 r) [(200000,.var (Qd v3))]):=by
 refine Qc.walk 9 Tryz.func108 rfl Tryz.ntmps108 rfl fun C hC=>?_
 unfold Qgb at h
 obtain⟨x5,hx5,h⟩:=Qb h
 refine Qa hC [.n 8,.v .no [] (.agg (Qd v3)),.n 1,.o (.c false [.d,.d] (.i .i64 x5)),.n 4,.keep [5] [200000]] rfl ⟨⟨tt_,rfl⟩,(QrB _ _ hx5)⟩ ?_
 cases h
 exact AK.done (ex_ [_] (an_ (an_ rfl tt_) (gives ⟨rfl,tt_⟩)))
def Qau (l1:(List Qr))(v2:TNet)(x7:Int):Option (Int⊕((Int×Int)⊕Unit)):=
 bif (decide (x7<(l1.length:Int)))then
 (idx l1 x7).bind fun e12=>
 (Qgb x7 e12 v2).bind fun x13=>
 bif (x13 != 0)then
 some (.inr (.inl (x7,x13)))
 else
 some (.inl (w64 (x7+1)))
 else
 some (.inr (.inr ()))
def Qb2 (x9:Int)(x10:Int):Option (Int×Int):=
 some (x9,x10)
def Qb3 : Option (Int×Int):=
 some (0,0)
def Qbp (l1:(List Qr))(v2:TNet):Option (Int×Int):=
 (QC (fun st=>Qau l1 v2 st) 0).bind (Sum.elim (fun q=>Qb2 q.1 q.2) (fun q=>Qb3))
theorem QmP (l1:(List Qr))(v2:TNet){r:(Int×Int)}(h:Qbp l1 v2=some r):Qc Tryz.prog 107 [.sl 14 (l1.map Qh),.clo (.func 108) [] [.loc 200000 0 0]] [(200000,.var (Qd v2))] (Gives (.tup [.i .i64 r.1,.i .i64 r.2]) [(200000,.var (Qd v2))]):=by
 refine Qc.walk 25 Tryz.func107 rfl Tryz.ntmps107 rfl fun C hC=>?_
 unfold Qbp at h
 refine Qa hC [.n 10,.o (.ln l1.length),.n 4,.keep [1,9,10,11] [200000]] rfl ⟨tt_,Qf⟩ ?_
 obtain⟨o15,hl15,h⟩:=Qb h
 refine AK.loop (body:=(fun st=>Qau l1 v2 st)) (fun st σ=>σ=⟨[(1,.clo (.func 108) [] [.loc 200000 0 0]),(9,.sl 14 (l1.map Qh)),(10,.i .i64 (l1.length:Int)),(11,.i .i64 st)],[(200000,.var (Qd v2))]⟩) (Sum.elim (fun q e σ=>e=.ret∧σ=⟨[(4,.i .i64 q.1),(5,.i .i64 q.2)],[(200000,.var (Qd v2))]⟩) (fun q e σ=>e=.exit 0∧σ=⟨[],[(200000,.var (Qd v2))]⟩)) hl15 rfl ?_ ?_
 ·rintro x7 o σ rfl h
  replace h:Qau l1 v2 x7=some o:=h
  unfold Qau at h
  refine Qa hC [.n 6] rfl tt_ ?_
  rcases bifE h with⟨hc11,h⟩|⟨hc11,h⟩
  ·obtain⟨e12,he12,h⟩:=Qb h
   obtain⟨x13,hx13,h⟩:=Qb h
   refine Qa hC [.br true,.n 7,.o (.row (Qh e12)),.v .no [] (.agg (Qh e12)),.n 3,.sayO 7 (.var (Qh e12)),.n 6,.v .no [] (.agg (Qh e12)),.cm (.clo) [(200000,200000)] [(200000,200000)] [] [.d,.d,.d] [(200000,.var (Qd v2))] (.i .i64 x13),.n 9] rfl ⟨⟨⟨⟨⟨⟨tt_,hc11⟩,(idxM he12)⟩,rfl⟩,rfl⟩,rfl⟩,(QqX _ _ _ hx13)⟩ ?_
   rcases bifE h with⟨hc14,h⟩|⟨hc14,h⟩
   ·refine Qa hC [.br true,.n 11,.keep [4,5] [200000]] rfl ⟨tt_,hc14⟩ ?_
    cases h
    exact rndR rfl (an_ rfl rfl)
   ·refine Qa hC [.br false,.n 7,.keep [1,9,10,11] [200000]] rfl ⟨tt_,hc14⟩ ?_
    cases h
    exact rndN rfl rfl
  ·refine Qa hC [.br false,.n 2,.keep [] [200000]] rfl ⟨tt_,hc11⟩ ?_
   cases h
   exact rndX rfl (an_ rfl rfl)
 ·rcases o15 with(⟨x9,x10⟩|_)
  ·replace h:Qb2 x9 x10=some r:=h
   unfold Qb2 at h
   rintro e σ ⟨rfl,rfl⟩
   refine Qa hC [.n 2,.keep [4,5] [200000]] rfl tt_ ?_
   cases h
   exact AK.done (ex_ [_,_] (an_ (an_ rfl (an_ rfl tt_)) (gives ⟨rfl,tt_⟩)))
  ·replace h:Qb3=some r:=h
   unfold Qb3 at h
   rintro e σ ⟨rfl,rfl⟩
   refine Qa hC [.n 9,.keep [4,5] [200000]] rfl tt_ ?_
   cases h
   exact AK.done (ex_ [_,_] (an_ (an_ rfl (an_ rfl tt_)) (gives ⟨rfl,tt_⟩)))
def Qd0 (n1:TNet):Option (Int×QdV):=
 (QhY n1 2 3 1).bind fun x6=>
 bif (x6 != 0)then
 some (x6,(QdV.mk 1 0))
 else
 (Qen n1).bind fun x8=>
 bif (x8.2 != 0)then
 some (x8.2,(QdV.mk 2 x8.1))
 else
 (Qcy n1.Places n1).bind fun x10=>
 bif (x10.2 != 0)then
 some (x10.2,(QdV.mk 3 x10.1))
 else
 (Qbp n1.Tasks n1).bind fun x12=>
 bif (x12.2 != 0)then
 some (x12.2,(QdV.mk 4 x12.1))
 else
 some (0,(QdV.mk 0 0))
theorem Qsh (n1:TNet){r:(Int×QdV)}(h:Qd0 n1=some r):Qc Tryz.prog 52 [.agg (Qd n1)] [] (Gives (.tup [.agg (QcR r.2),.i .i64 r.1]) []):=by
 refine Qc.walk 58 Tryz.func52 rfl Tryz.ntmps52 rfl fun C hC=>?_
 unfold Qd0 at h
 obtain⟨x6,hx6,h⟩:=Qb h
 refine Qa hC [.n 10,.v .no [] (.agg [.clo (.func 99) [] [.loc 1 0 0],.i .i64 2]),.n 1,.v .no [] (.agg [.clo (.func 100) [] [.loc 1 0 0],.i .i64 3]),.n 1,.v .no [] (.agg [.clo (.func 102) [] [.loc 1 0 0],.i .i64 1]),.o (.any (.own 17 3) (some (.var [.clo (.func 99) [] [.loc 1 0 0],.i .i64 2,.clo (.func 100) [] [.loc 1 0 0],.i .i64 3,.clo (.func 102) [] [.loc 1 0 0],.i .i64 1]))),.cm (.fn) [(200000,17),(200001,1)] [(17,200000),(1,200001)] [] [.d] [(200000,.var [.clo (.func 99) [] [.loc 200001 0 0],.i .i64 2,.clo (.func 100) [] [.loc 200001 0 0],.i .i64 3,.clo (.func 102) [] [.loc 200001 0 0],.i .i64 1]),(200001,.var (Qd n1))] (.i .i64 x6),.n 10] rfl ⟨⟨⟨⟨⟨tt_,rfl⟩,rfl⟩,rfl⟩,(fun σ h1 h2 hf=>Stp.buildAny rfl rfl (bleN hC.n rfl) (Qq.es rfl) QlC rfl (by decide) (by decide) (Qfn h1 rfl) rfl rfl (hf rfl))⟩,(QqR _ _ _ _ hx6)⟩ ?_
 rcases bifE h with⟨hc7,h⟩|⟨hc7,h⟩
 ·refine Qa hC [.br true,.n 2,.v .no [] (.agg (QcR (QdV.mk 1 0))),.n 2,.sayO 2 (.var (QcR (QdV.mk 1 0))),.n 5,.keep [2,3] [2]] rfl ⟨⟨⟨tt_,hc7⟩,rfl⟩,rfl⟩ ?_
  cases h
  exact AK.done (ex_ [_,_] (an_ (an_ (ex_ _ (ex_ _ (an_ rfl (an_ rfl (Or.inl (an_ (Qq.ag rfl) (an_ (Qq.sz rfl) rfl))))))) (an_ rfl tt_)) (gives tt_)))
 ·obtain⟨x8,hx8,h⟩:=Qb h
  refine Qa hC [.br false,.n 5,.v .no [] (.agg (Qd n1)),.o (.c false [.d] (.tup [.i .i64 x8.1,.i .i64 x8.2])),.n 13] rfl ⟨⟨⟨tt_,hc7⟩,rfl⟩,(QlG _ hx8)⟩ ?_
  rcases bifE h with⟨hc9,h⟩|⟨hc9,h⟩
  ·refine Qa hC [.br true,.n 3,.v .no [] (.agg (QcR (QdV.mk 2 x8.1))),.n 2,.sayO 2 (.var (QcR (QdV.mk 2 x8.1))),.n 5,.keep [2,3] [2]] rfl ⟨⟨⟨tt_,hc9⟩,rfl⟩,rfl⟩ ?_
   cases h
   exact AK.done (ex_ [_,_] (an_ (an_ (ex_ _ (ex_ _ (an_ rfl (an_ rfl (Or.inl (an_ (Qq.ag rfl) (an_ (Qq.sz rfl) rfl))))))) (an_ rfl tt_)) (gives tt_)))
  ·obtain⟨x10,hx10,h⟩:=Qb h
   refine Qa hC [.br false,.n 8,.cm (.fn) [(200000,1)] [(1,200000)] [] [.d,.d] [(200000,.var (Qd n1))] (.tup [.i .i64 x10.1,.i .i64 x10.2]),.n 13] rfl ⟨⟨tt_,hc9⟩,(Qmd _ _ hx10)⟩ ?_
   rcases bifE h with⟨hc11,h⟩|⟨hc11,h⟩
   ·refine Qa hC [.br true,.n 3,.v .no [] (.agg (QcR (QdV.mk 3 x10.1))),.n 2,.sayO 2 (.var (QcR (QdV.mk 3 x10.1))),.n 5,.keep [2,3] [2]] rfl ⟨⟨⟨tt_,hc11⟩,rfl⟩,rfl⟩ ?_
    cases h
    exact AK.done (ex_ [_,_] (an_ (an_ (ex_ _ (ex_ _ (an_ rfl (an_ rfl (Or.inl (an_ (Qq.ag rfl) (an_ (Qq.sz rfl) rfl))))))) (an_ rfl tt_)) (gives tt_)))
   ·obtain⟨x12,hx12,h⟩:=Qb h
    refine Qa hC [.br false,.n 8,.cm (.fn) [(200000,1)] [(1,200000)] [] [.d,.d] [(200000,.var (Qd n1))] (.tup [.i .i64 x12.1,.i .i64 x12.2]),.n 13] rfl ⟨⟨tt_,hc11⟩,(QmP _ _ hx12)⟩ ?_
    rcases bifE h with⟨hc13,h⟩|⟨hc13,h⟩
    ·refine Qa hC [.br true,.n 3,.v .no [] (.agg (QcR (QdV.mk 4 x12.1))),.n 2,.sayO 2 (.var (QcR (QdV.mk 4 x12.1))),.n 5,.keep [2,3] [2]] rfl ⟨⟨⟨tt_,hc13⟩,rfl⟩,rfl⟩ ?_
     cases h
     exact AK.done (ex_ [_,_] (an_ (an_ (ex_ _ (ex_ _ (an_ rfl (an_ rfl (Or.inl (an_ (Qq.ag rfl) (an_ (Qq.sz rfl) rfl))))))) (an_ rfl tt_)) (gives tt_)))
    ·refine Qa hC [.br false,.n 4,.v .no [] (.agg (QcR (QdV.mk 0 0))),.n 1,.sayO 2 (.var (QcR (QdV.mk 0 0))),.n 4,.keep [2,3] [2]] rfl ⟨⟨⟨tt_,hc13⟩,rfl⟩,rfl⟩ ?_
     cases h
     exact AK.done (ex_ [_,_] (an_ (an_ (ex_ _ (ex_ _ (an_ rfl (an_ rfl (Or.inl (an_ (Qq.ag rfl) (an_ (Qq.sz rfl) rfl))))))) (an_ rfl tt_)) (gives tt_)))
def Qk0 (e9:QBg)(x11:Int):Option Bool:=
 (Qc7 e9).bind fun x14=>
 bif (!x14)then
 some true
 else
 bif (decide (0<(e9.length:Int)))then
 (idx e9 (w64 ((e9.length:Int)-1))).bind fun e17=>
 some (decide (x11≤e17.1))
 else
 some false
def Qgy (x6:Int)(x12:Bool):Option (Int⊕(Unit⊕Unit)):=
 bif x12 then
 some (.inr (.inl ()))
 else
 some (.inl (w64 (x6+1)))
def Qeq (m2:QMk)(n1:TNet)(x6:Int):Option (Int⊕(Unit⊕Unit)):=
 bif (decide (x6<(m2.length:Int)))then
 (idx m2 x6).bind fun e9=>
 (idx n1.Places x6).bind fun e10=>
 (QaC n1.Colours e10.Colour).bind fun x11=>
 (Qk0 e9 x11).bind (fun x12=>Qgy x6 x12)
 else
 some (.inr (.inr ()))
def Qk1 : Option Bool:=
 some false
def Qk2 : Option Bool:=
 some true
def QiR (n1:TNet)(m2:QMk):Option Bool:=
 bif ((m2.length:Int) != (n1.Places.length:Int))then
 some false
 else
 (QC (fun st=>Qeq m2 n1 st) 0).bind (Sum.elim (fun q=>Qk1) (fun q=>Qk2))
theorem QrC (n1:TNet)(m2:QMk){r:Bool}(h:QiR n1 m2=some r):Qc Tryz.prog 53 [.agg (Qd n1),.sl 1 (m2.map Qi)] [] (Gives (.b r) []):=by
 refine Qc.walk 50 Tryz.func53 rfl Tryz.ntmps53 rfl fun C hC=>?_
 unfold QiR at h
 refine Qa hC [.n 10,.o (.ln m2.length),.n 2,.o (.ln n1.Places.length),.n 3] rfl ⟨⟨tt_,Qf⟩,Qf⟩ ?_
 rcases bifE h with⟨hc5,h⟩|⟨hc5,h⟩
 ·refine Qa hC [.br true,.n 7,.keep [4] []] rfl ⟨tt_,hc5⟩ ?_
  cases h
  exact AK.done (ex_ [_] (an_ (an_ rfl tt_) (gives tt_)))
 ·refine Qa hC [.br false,.n 6,.o (.ln m2.length),.n 4,.keep [2,14,15,16] [2]] rfl ⟨⟨tt_,hc5⟩,Qf⟩ ?_
  obtain⟨o19,hl19,h⟩:=Qb h
  refine AK.loop (body:=(fun st=>Qeq m2 n1 st)) (fun st σ=>σ=⟨[(2,.loc 2 0 0),(14,.sl 1 (m2.map Qi)),(15,.i .i64 (m2.length:Int)),(16,.i .i64 st)],[(2,.var (Qd n1))]⟩) (Sum.elim (fun q e σ=>e=.ret∧σ=⟨[(4,.b false)],[]⟩) (fun q e σ=>e=.exit 0∧σ=⟨[],[]⟩)) hl19 rfl ?_ ?_
  ·rintro x6 o σ rfl h
   replace h:Qeq m2 n1 x6=some o:=h
   unfold Qeq at h
   refine Qa hC [.n 6] rfl tt_ ?_
   rcases bifE h with⟨hc8,h⟩|⟨hc8,h⟩
   ·obtain⟨e9,he9,h⟩:=Qb h
    obtain⟨e10,he10,h⟩:=Qb h
    obtain⟨x11,hx11,h⟩:=Qb h
    refine Qa hC [.br true,.n 7,.o (.row (Qi e9)),.n 6,.keep [2,5,6,14,15,16] [2]] rfl ⟨⟨tt_,hc8⟩,(idxM he9)⟩ ?_
    refine AK.draw2 Qq hC mixed [.a .no none false,.a .no none false,.a .no none false,.a .no none false,.a .no none false,.a (.row (Qt e10)) none false,.a .no none false,.a .no none false,.a (.c false [.d,.d] (.i .i64 x11)) none false,.a .no none false] [] [] [2,6,7,14,15,16] [2] rfl rfl rfl ⟨⟨tt_,(idxM he10)⟩,(QhG _ _ hx11)⟩ rfl (by kernel_rfl) rfl rfl rfl ?_
    refine Qa hC [.n 2] rfl tt_ ?_
    obtain⟨x12,hv13,h⟩:=Qb h
    replace h:Qgy x6 x12=some o:=h
    refine AK.meetX (fun σ=>σ=⟨[(2,.loc 2 0 0),(14,.sl 1 (m2.map Qi)),(15,.i .i64 (m2.length:Int)),(16,.i .i64 x6),(48,.b x12)],[(2,.var (Qd n1))]⟩) ?_ ?_
    ·replace h:=hv13
     unfold Qk0 at h
     obtain⟨x14,hx14,h⟩:=Qb h
     refine Qa hC [.n 2,.o (.c false [.d] (.b x14)),.n 2] rfl ⟨tt_,(Qi5 _ hx14)⟩ ?_
     rcases bifE h with⟨hc15,h⟩|⟨hc15,h⟩
     ·refine Qa hC [.say 33 (.b true),.n 16,.keep [2,14,15,16,48] [2]] rfl ⟨tt_,(congrArg V.b hc15)⟩ ?_
      cases h
      exact AK.met rfl
     ·refine Qa hC [.say 33 (.b false),.n 1,.o (.ln e9.length),.n 2] rfl ⟨⟨tt_,(congrArg V.b hc15)⟩,Qf⟩ ?_
      rcases bifE h with⟨hc16,h⟩|⟨hc16,h⟩
      ·obtain⟨e17,he17,h⟩:=Qb h
       refine Qa hC [.say 37 (.b true),.n 2,.o (.ln e9.length),.n 1,.o (.row (QB e17)),.n 7,.keep [2,14,15,16,48] [2]] rfl ⟨⟨⟨tt_,(congrArg V.b hc16)⟩,Qf⟩,(idxM he17)⟩ ?_
       cases h
       exact AK.met rfl
      ·refine Qa hC [.say 37 (.b false),.n 12,.keep [2,14,15,16,48] [2]] rfl ⟨tt_,(congrArg V.b hc16)⟩ ?_
       cases h
       exact AK.met rfl
    ·rintro σ rfl
     replace h:Qgy x6 x12=some o:=h
     unfold Qgy at h
     refine Qa hC [.n 1] rfl tt_ ?_
     rcases bifE h with⟨hc18,h⟩|⟨hc18,h⟩
     ·refine Qa hC [.br true,.n 8,.keep [4] []] rfl ⟨tt_,hc18⟩ ?_
      cases h
      exact rndR rfl (an_ rfl rfl)
     ·refine Qa hC [.br false,.n 7,.keep [2,14,15,16] [2]] rfl ⟨tt_,hc18⟩ ?_
      cases h
      exact rndN rfl rfl
   ·refine Qa hC [.br false,.n 2,.keep [] []] rfl ⟨tt_,hc8⟩ ?_
    cases h
    exact rndX rfl (an_ rfl rfl)
  ·rcases o19 with(_ | _)
   ·replace h:Qk1=some r:=h
    unfold Qk1 at h
    rintro e σ ⟨rfl,rfl⟩
    refine Qa hC [.n 2,.keep [4] []] rfl tt_ ?_
    cases h
    exact AK.done (ex_ [_] (an_ (an_ rfl tt_) (gives tt_)))
   ·replace h:Qk2=some r:=h
    unfold Qk2 at h
    rintro e σ ⟨rfl,rfl⟩
    refine Qa hC [.n 8,.keep [4] []] rfl tt_ ?_
    cases h
    exact AK.done (ex_ [_] (an_ (an_ rfl tt_) (gives tt_)))
def Qiv (x11:(Int×QdV))(n1:TNet)(m2:QMk):Option Bool:=
 bif (x11.1 != 0)then
 some true
 else
 (QiR n1 m2).bind fun x15=>
 some (!x15)
def Qer (n1:TNet)(work17:Int)(k18:Int):Option ((Int×Int)⊕Int):=
 bif (decide (k18<(n1.Tasks.length:Int)))then
 (idx n1.Tasks k18).bind fun e23=>
 (Qb5 n1 k18).bind fun x24=>
 some (.inl ((w64 (work17+(w64 (x24*(w64 (1+(w64 ((e23.Ins.length:Int)*(e23.Outs.length:Int))))))))),(w64 (k18+1))))
 else
 some (.inr work17)
def Qk3 (work21:Int):Option Bool:=
 some (decide (work21≤600))
def Qes (n1:TNet)(x12:Bool):Option Bool:=
 bif x12 then
 some false
 else
 (QC (fun st=>Qer n1 st.1 st.2) (0,0)).bind (fun q=>Qk3 q)
def QfT (n1:TNet)(m2:QMk):Option Bool:=
 (QjM n1).bind fun x5=>
 (QjN m2).bind fun x6=>
 bif ((!x5)||((!x6)||(decide (12<(n1.Tasks.length:Int)))))then
 some false
 else
 (Qd0 n1).bind fun x11=>
 (Qiv x11 n1 m2).bind (fun x12=>Qes n1 x12)
theorem QrD (n1:TNet)(m2:QMk){r:Bool}(h:QfT n1 m2=some r):Qc Tryz.prog 27 [.agg (Qd n1),.sl 1 (m2.map Qi)] [] (Gives (.b r) []):=by
 refine Qc.walk 69 Tryz.func27 rfl Tryz.ntmps27 rfl fun C hC=>?_
 unfold QfT at h
 obtain⟨x5,hx5,h⟩:=Qb h
 obtain⟨x6,hx6,h⟩:=Qb h
 refine Qa hC [.n 8,.v .no [] (.agg (Qd n1)),.o (.c false [.d] (.b x5)),.n 6,.o (.c false [.d] (.b x6)),.n 5] rfl ⟨⟨⟨tt_,rfl⟩,(Qsf _ hx5)⟩,(Qsg _ hx6)⟩ ?_
 refine AK.meetX (fun σ=>σ=⟨[(1,.sl 1 (m2.map Qi)),(2,.loc 2 0 0),(27,.b ((!x5)||((!x6)||(decide (12<(n1.Tasks.length:Int))))))],[(2,.var (Qd n1))]⟩) ?_ ?_
 ·refine Qa hC [.n 4] rfl tt_ ?_
  rcases QJ (!x5)with hc8 | hc8
  ·refine Qa hC [.say 18 (.b true),.n 10,.say 27 (.b ((!x5)||((!x6)||(decide (12<(n1.Tasks.length:Int)))))),.keep [1,2,27] [2]] rfl ⟨⟨tt_,(congrArg V.b hc8)⟩,(congrArg V.b (orT hc8 rfl))⟩ ?_
   exact AK.met rfl
  ·refine Qa hC [.say 18 (.b false),.n 4] rfl ⟨tt_,(congrArg V.b hc8)⟩ ?_
   rcases QJ (!x6)with hc9 | hc9
   ·refine Qa hC [.say 22 (.b true),.n 6,.say 27 (.b ((!x5)||((!x6)||(decide (12<(n1.Tasks.length:Int)))))),.keep [1,2,27] [2]] rfl ⟨⟨tt_,(congrArg V.b hc9)⟩,(congrArg V.b (orF hc8 (orT hc9 rfl)))⟩ ?_
    exact AK.met rfl
   ·refine Qa hC [.say 22 (.b false),.n 2,.o (.ln n1.Tasks.length),.n 3,.say 27 (.b ((!x5)||((!x6)||(decide (12<(n1.Tasks.length:Int)))))),.keep [1,2,27] [2]] rfl ⟨⟨⟨tt_,(congrArg V.b hc9)⟩,Qf⟩,(congrArg V.b (orF hc8 (orF hc9 rfl)))⟩ ?_
    exact AK.met rfl
 ·rintro σ rfl
  refine Qa hC [.n 1] rfl tt_ ?_
  rcases bifE h with⟨hc10,h⟩|⟨hc10,h⟩
  ·refine Qa hC [.br true,.n 7,.keep [4] []] rfl ⟨tt_,hc10⟩ ?_
   cases h
   exact AK.done (ex_ [_] (an_ (an_ rfl tt_) (gives tt_)))
  ·obtain⟨x11,hx11,h⟩:=Qb h
   refine Qa hC [.br false,.n 4,.v .no [] (.agg (Qd n1)),.o (.c false [.d] (.tup [.agg (QcR x11.2),.i .i64 x11.1])),.n 5,.sayO 7 (.var (QcR x11.2)),.n 5] rfl ⟨⟨⟨⟨tt_,hc10⟩,rfl⟩,(Qsh _ hx11)⟩,rfl⟩ ?_
   obtain⟨x12,hv13,h⟩:=Qb h
   replace h:Qes n1 x12=some r:=h
   refine AK.meetX (fun σ=>σ=⟨[(2,.loc 2 0 0),(40,.b x12)],[(2,.var (Qd n1))]⟩) ?_ ?_
   ·replace h:=hv13
    unfold Qiv at h
    refine Qa hC [.n 4] rfl tt_ ?_
    rcases bifE h with⟨hc14,h⟩|⟨hc14,h⟩
    ·refine Qa hC [.say 35 (.b true),.n 6,.keep [2,40] [2]] rfl ⟨tt_,(congrArg V.b hc14)⟩ ?_
     cases h
     exact AK.met rfl
    ·obtain⟨x15,hx15,h⟩:=Qb h
     refine Qa hC [.say 35 (.b false),.v .no [] (.agg (Qd n1)),.n 1,.o (.c false [.d,.d] (.b x15)),.n 3,.keep [2,40] [2]] rfl ⟨⟨⟨tt_,(congrArg V.b hc14)⟩,rfl⟩,(QrC _ _ hx15)⟩ ?_
     cases h
     exact AK.met rfl
   ·rintro σ rfl
    replace h:Qes n1 x12=some r:=h
    unfold Qes at h
    refine Qa hC [.n 1] rfl tt_ ?_
    rcases bifE h with⟨hc16,h⟩|⟨hc16,h⟩
    ·refine Qa hC [.br true,.n 7,.keep [4] []] rfl ⟨tt_,hc16⟩ ?_
     cases h
     exact AK.done (ex_ [_] (an_ (an_ rfl tt_) (gives tt_)))
    ·refine Qa hC [.br false,.n 14,.keep [2,9,10] [2]] rfl ⟨tt_,hc16⟩ ?_
     obtain⟨work21,hl25,h⟩:=Qb h
     refine AK.loop (body:=(fun st=>Qer n1 st.1 st.2)) (fun st σ=>σ=⟨[(2,.loc 2 0 0),(9,.i .i64 st.1),(10,.i .i64 st.2)],[(2,.var (Qd n1))]⟩) (fun q e σ=>e=.exit 0∧σ=⟨[(9,.i .i64 q)],[]⟩) hl25 rfl ?_ ?_
     ·rintro ⟨work17,k18⟩ o σ rfl h
      replace h:Qer n1 work17 k18=some o:=h
      unfold Qer at h
      refine Qa hC [.n 6,.o (.ln n1.Tasks.length),.n 3] rfl ⟨tt_,Qf⟩ ?_
      rcases bifE h with⟨hc22,h⟩|⟨hc22,h⟩
      ·obtain⟨e23,he23,h⟩:=Qb h
       obtain⟨x24,hx24,h⟩:=Qb h
       refine Qa hC [.br true,.n 9,.o (.row (Qh e23)),.v .no [] (.agg (Qh e23)),.n 2,.sayO 11 (.var (Qh e23)),.n 2,.keep [2,9,10,11] [2,11]] rfl ⟨⟨⟨⟨tt_,hc22⟩,(idxM he23)⟩,rfl⟩,rfl⟩ ?_
       refine AK.draw2 Qq hC mixed [.a .no none false,.a .no (some ([],.agg (Qd n1))) false,.a .no none false,.a (.c false [.d,.d] (.i .i64 x24)) none false,.a .no none false,.a .no none false,.a (.ln e23.Ins.length) none false,.a .no none false,.a .no none false,.a (.ln e23.Outs.length) none false,.a .no none false,.a .no none false,.a .no none false,.a .no none false,.m .s] [] [] [2,9,10] [2] rfl rfl rfl ⟨⟨⟨⟨tt_,rfl⟩,(QmO _ _ hx24)⟩,Qf⟩,Qf⟩ rfl (by kernel_rfl) rfl rfl rfl ?_
       refine Qa hC [.n 7,.keep [2,9,10] [2]] rfl tt_ ?_
       cases h
       exact rndN rfl rfl
      ·refine Qa hC [.br false,.n 2,.keep [9] []] rfl ⟨tt_,hc22⟩ ?_
       cases h
       exact rndX rfl (an_ rfl rfl)
     ·replace h:Qk3 work21=some r:=h
      unfold Qk3 at h
      rintro e σ ⟨rfl,rfl⟩
      refine Qa hC [.n 10,.keep [4] []] rfl tt_ ?_
      cases h
      exact AK.done (ex_ [_] (an_ (an_ rfl tt_) (gives tt_)))
def Qlp (a5:Unit):Option Int:=
 some 0
def Qc2 (n9:Int)(k11:Int)(v12:Int):Option (Int⊕Empty):=
 some (.inl (w64 (n9+v12)))
def Qlq (n9:Int):Option Int:=
 some n9
def Qhl (a6:QBg):Option Int:=
 (QhR (fun st p=>Qc2 st p.1 p.2) 0 a6).bind (Sum.elim (fun q=>Qlq q) (fun q=>Empty.elim q))
def QjO (b1:QBg):Option Int:=
 (QiM b1).bind (Sum.elim (fun q=>Qlp q) (fun q=>Qhl q))
theorem Qsi (b1:QBg){r:Int}(h:QjO b1=some r):Qc Tryz.prog 55 [.sl 2 (b1.map QB)] [] (Gives (.i .i64 r) []):=by
 refine Qc.walk 23 Tryz.func55 rfl Tryz.ntmps55 rfl fun C hC=>?_
 unfold QjO at h
 obtain⟨x4,hx4,h⟩:=Qb h
 refine Qa hC [.n 8] rfl tt_ ?_
 rcases x4 with(a5 | a6)
 ·replace h:Qlp a5=some r:=h
  unfold Qlp at h
  refine Qa hC [.cm (.fn) [] [] [] [.d] [] (.tup [.lit (.map none),.b false]),.n 16,.x (fun σ=>(σ.set 14 .itr0).put 14 (.loc 14 0 0)),.n 3] rfl ⟨⟨tt_,(Qe5 _ hx4)⟩,(Stp.range0 rfl rfl (bleN hC.n rfl) rfl Qd5 rfl)⟩ ?_
  refine AK.loopOnce ?_
  refine Qa hC [.n 2,.x (fun σ=>σ.put 15 (.tup [.b false])),.n 17,.keep [2] []] rfl ⟨tt_,(Stp.next0 rfl rfl (bleN hC.n rfl) rfl rfl)⟩ ?_
  cases h
  exact AK.done (ex_ [_] (an_ (an_ rfl tt_) (gives tt_)))
 ·replace h:Qhl a6=some r:=h
  unfold Qhl at h
  refine Qa hC [.cm (.fn) [] [(10,30002)] [] [.d] [(30002,.map (mapV (V.i .i64) (V.i .i64) a6))] (.tup [.map 30002,.b true]),.n 16] rfl ⟨tt_,(Qe5 _ hx4)⟩ ?_
  refine AK.openMap (b:=10) ky_3 rfl fun bm7 cl7 L7 hbn7 hpm7=>?_
  refine Qa hC [.x (fun σ=>(σ.set 14 (.itr bm7 cl7 #[] none)).put 14 (.loc 14 0 0)),.n 3,.keep [5,14] [10,14]] rfl ⟨tt_,(Stp.range (b:=10) rfl rfl (bleN hC.n rfl) rfl rfl Qd5 rfl)⟩ ?_
  obtain⟨o13,hl13,h⟩:=Qb h
  refine AK.range (body:=(fun st p=>Qc2 st p.1 p.2)) (fun st seen σ=>∃cur:Option MapEntry,σ=⟨[(5,.i .i64 st),(14,.loc 14 0 0)],[(10,.mapX bm7 cl7 (typV (V.i .i64) (V.i .i64) L7) (mapV (V.i .i64) (V.i .i64) a6)),(14,.itr bm7 cl7 seen cur)]⟩) (fun (q:Empty) _ _=>False) (fun st e σ=>e=.exit 0∧σ=⟨[(5,.i .i64 st)],[]⟩) hbn7 hpm7 hl13 (ex_ _ rfl) ?_ ?_
  ·rintro n9 seen σ ⟨cur,rfl⟩ hex
   refine Qa hC [.n 2] rfl tt_ ?_
   refine AK.nextT (b:=14) (m:=10) rfl rfl rfl (bleN hC.n rfl) rfl rfl rfl rfl ?_ ?_
   ·intro hleft
    refine Qa hC [.n 7,.keep [5] []] rfl tt_ ?_
    exact AK.done (Or.inl (an_ hleft (an_ (fun h=>(by cases h)) (an_ rfl rfl))))
   ·intro xk11 k11 v12 hq8
    obtain⟨o,h⟩:=hex _ hq8
    have ho:=h
    replace h:Qc2 n9 k11 v12=some o:=h
    unfold Qc2 at h
    refine Qa hC [.n 10,.x (fun σ=>σ.put 17 (.tup [.i .i64 k11,.i .i64 v12])),.n 11,.keep [5,14] [10,14]] rfl ⟨tt_,(Stp.entryT (b:=14) (m:=10) rfl rfl (bleN hC.n rfl) rfl hq8 rfl rfl)⟩ ?_
    cases h
    exact AK.done (Or.inr (ex_ _ (an_ hq8 (Or.inl (ex_ _ (an_ ho (an_ rfl (ex_ _ rfl))))))))
  ·rcases o13 with(n9 | q)
   ·replace h:Qlq n9=some r:=h
    unfold Qlq at h
    rintro e σ ⟨rfl,rfl⟩
    refine Qa hC [.n 9,.keep [2] []] rfl tt_ ?_
    cases h
    exact AK.done (ex_ [_] (an_ (an_ rfl tt_) (gives tt_)))
   ·exact q.elim
def Qdl (m1:QMk)(n3:Int)(x4:Int):Option ((Int×Int)⊕Int):=
 bif (decide (x4<(m1.length:Int)))then
 (idx m1 x4).bind fun e9=>
 (QjO e9).bind fun x10=>
 some (.inl ((w64 (n3+x10)),(w64 (x4+1))))
 else
 some (.inr n3)
def Qk4 (n7:Int):Option Int:=
 some n7
def QiS (m1:QMk):Option Int:=
 (QC (fun st=>Qdl m1 st.1 st.2) (0,0)).bind (fun q=>Qk4 q)
theorem QrE (m1:QMk){r:Int}(h:QiS m1=some r):Qc Tryz.prog 28 [.sl 1 (m1.map Qi)] [] (Gives (.i .i64 r) []):=by
 refine Qc.walk 18 Tryz.func28 rfl Tryz.ntmps28 rfl fun C hC=>?_
 unfold QiS at h
 refine Qa hC [.n 14,.o (.ln m1.length),.n 4,.keep [3,6,7,8] []] rfl ⟨tt_,Qf⟩ ?_
 obtain⟨n7,hl11,h⟩:=Qb h
 refine AK.loop (body:=(fun st=>Qdl m1 st.1 st.2)) (fun st σ=>σ=⟨[(3,.i .i64 st.1),(6,.sl 1 (m1.map Qi)),(7,.i .i64 (m1.length:Int)),(8,.i .i64 st.2)],[]⟩) (fun q e σ=>e=.exit 0∧σ=⟨[(3,.i .i64 q)],[]⟩) hl11 rfl ?_ ?_
 ·rintro ⟨n3,x4⟩ o σ rfl h
  replace h:Qdl m1 n3 x4=some o:=h
  unfold Qdl at h
  refine Qa hC [.n 6] rfl tt_ ?_
  rcases bifE h with⟨hc8,h⟩|⟨hc8,h⟩
  ·obtain⟨e9,he9,h⟩:=Qb h
   obtain⟨x10,hx10,h⟩:=Qb h
   refine Qa hC [.br true,.n 6,.o (.row (Qi e9)),.n 7,.o (.c false [.d] (.i .i64 x10)),.n 9,.keep [3,6,7,8] []] rfl ⟨⟨⟨tt_,hc8⟩,(idxM he9)⟩,(Qsi _ hx10)⟩ ?_
   cases h
   exact rndN rfl rfl
  ·refine Qa hC [.br false,.n 2,.keep [3] []] rfl ⟨tt_,hc8⟩ ?_
   cases h
   exact rndX rfl (an_ rfl rfl)
 ·replace h:Qk4 n7=some r:=h
  unfold Qk4 at h
  rintro e σ ⟨rfl,rfl⟩
  refine Qa hC [.n 9,.keep [2] []] rfl tt_ ?_
  cases h
  exact AK.done (ex_ [_] (an_ (an_ rfl tt_) (gives tt_)))
def Qk5 (x5:Bool)(budget3:Int)(n1:TNet)(m2:QMk):Option Bool:=
 bif x5 then
 bif (decide (budget3≤12))then
 bif (decide ((n1.Tasks.length:Int)≤6))then
 (QiS m2).bind fun x11=>
 some (decide (x11≤30))
 else
 some false
 else
 some false
 else
 some false
def Qgz (x6:Bool):Option Bool:=
 some x6
def QiT (n1:TNet)(m2:QMk)(budget3:Int):Option Bool:=
 (QfT n1 m2).bind fun x5=>
 (Qk5 x5 budget3 n1 m2).bind (fun x6=>Qgz x6)
theorem QrF (n1:TNet)(m2:QMk)(budget3:Int){r:Bool}(h:QiT n1 m2 budget3=some r):Qc Tryz.prog 9 [.agg (Qd n1),.sl 1 (m2.map Qi),.i .i64 budget3] [] (Gives (.b r) []):=by
 refine Qc.walk 27 Tryz.func9 rfl Tryz.ntmps9 rfl fun C hC=>?_
 unfold QiT at h
 obtain⟨x5,hx5,h⟩:=Qb h
 refine Qa hC [.n 8,.v .no [] (.agg (Qd n1)),.n 1,.o (.c false [.d,.d] (.b x5)),.n 4] rfl ⟨⟨tt_,rfl⟩,(QrD _ _ hx5)⟩ ?_
 obtain⟨x6,hv7,h⟩:=Qb h
 replace h:Qgz x6=some r:=h
 refine AK.meetX (fun σ=>σ=⟨[(6,.b x6)],[]⟩) ?_ ?_
 ·replace h:=hv7
  unfold Qk5 at h
  refine Qa hC [.n 3] rfl tt_ ?_
  rcases bifE h with⟨hc8,h⟩|⟨hc8,h⟩
  ·refine Qa hC [.say 12 (.b true),.n 4] rfl ⟨tt_,(congrArg V.b hc8)⟩ ?_
   rcases bifE h with⟨hc9,h⟩|⟨hc9,h⟩
   ·refine Qa hC [.say 16 (.b true),.n 2,.o (.ln n1.Tasks.length),.n 3] rfl ⟨⟨tt_,(congrArg V.b hc9)⟩,Qf⟩ ?_
    rcases bifE h with⟨hc10,h⟩|⟨hc10,h⟩
    ·obtain⟨x11,hx11,h⟩:=Qb h
     refine Qa hC [.say 22 (.b true),.n 1,.o (.c false [.d] (.i .i64 x11)),.n 4,.keep [6] []] rfl ⟨⟨tt_,(congrArg V.b hc10)⟩,(QrE _ hx11)⟩ ?_
     cases h
     exact AK.met rfl
    ·refine Qa hC [.say 22 (.b false),.n 6,.keep [6] []] rfl ⟨tt_,(congrArg V.b hc10)⟩ ?_
     cases h
     exact AK.met rfl
   ·refine Qa hC [.say 16 (.b false),.n 12,.keep [6] []] rfl ⟨tt_,(congrArg V.b hc9)⟩ ?_
    cases h
    exact AK.met rfl
  ·refine Qa hC [.say 12 (.b false),.n 16,.keep [6] []] rfl ⟨tt_,(congrArg V.b hc8)⟩ ?_
   cases h
   exact AK.met rfl
 ·rintro σ rfl
  replace h:Qgz x6=some r:=h
  unfold Qgz at h
  refine Qa hC [.n 2,.keep [6] []] rfl tt_ ?_
  cases h
  exact AK.done (ex_ [_] (an_ (an_ rfl tt_) (gives tt_)))
def Qh4 (n1:TNet)(m2:QMk):Option Int:=
 (Qe0 n1 m2 60).bind fun x4=>
 some (x4.length:Int)
theorem QqY (n1:TNet)(m2:QMk){r:Int}(h:Qh4 n1 m2=some r):Qc Tryz.prog 10 [.agg (Qd n1),.sl 1 (m2.map Qi)] [] (Gives (.i .i64 r) []):=by
 refine Qc.walk 9 Tryz.func10 rfl Tryz.ntmps10 rfl fun C hC=>?_
 unfold Qh4 at h
 obtain⟨x4,hx4,h⟩:=Qb h
 refine Qa hC [.n 8,.v .no [] (.agg (Qd n1)),.n 1,.o (.co false [.d,.d,.d] 4 (x4.map Qj) x4.length),.n 5,.keep [4] []] rfl ⟨⟨tt_,rfl⟩,⟨(QjV _ _ _ hx4),Qf,.inl rfl⟩⟩ ?_
 cases h
 exact AK.done (ex_ [_] (an_ (an_ rfl tt_) (gives tt_)))
def QgK (some9:Bool)(n1:TNet)(k10:Int):Option Bool:=
 bif some9 then
 some true
 else
 (idx n1.Tasks k10).bind fun e18=>
 some (e18.Join==3)
def Qcz (k10:Int)(some15:Bool):Option ((Bool×Int)⊕Bool):=
 some (.inl (some15,(w64 (k10+1))))
def Qa2 (n1:TNet)(some9:Bool)(k10:Int):Option ((Bool×Int)⊕Bool):=
 bif (decide (k10<(n1.Tasks.length:Int)))then
 (QgK some9 n1 k10).bind (fun some15=>Qcz k10 some15)
 else
 some (.inr some9)
def Qa3 (x23:((List Qk)×Bool))(n1:TNet)(m2:QMk)(i24:Int):Option (Int⊕(Unit⊕Unit)):=
 bif (decide (i24<(x23.1.length:Int)))then
 (idx x23.1 i24).bind fun e27=>
 (QaE n1 m2 e27).bind fun x28=>
 bif (x28 != 0)then
 some (.inr (.inl ()))
 else
 some (.inl (w64 (i24+1)))
 else
 some (.inr (.inr ()))
def QgL : Option Bool:=
 some false
def QcA (x6:Bool)(x23:((List Qk)×Bool))(x22:(List Qk))(some13:Bool):Option Bool:=
 some (x6&&((decide ((x23.1.length:Int)≤(x22.length:Int)))&&(some13||(x23.2&&((x23.1.length:Int)==(x22.length:Int))))))
def Qd1 (n1:TNet)(m2:QMk)(x6:Bool)(budget3:Int)(some13:Bool):Option Bool:=
 (Qh4 n1 m2).bind fun x20=>
 bif (decide (40≤x20))then
 some x6
 else
 (Qe0 n1 m2 50).bind fun x22=>
 (Qf9 n1 m2 budget3 50).bind fun x23=>
 (QC (fun st=>Qa3 x23 n1 m2 st) 0).bind (Sum.elim (fun q=>QgL) (fun q=>QcA x6 x23 x22 some13))
def Qcs (n1:TNet)(m2:QMk)(budget3:Int):Option Bool:=
 (QjY).bind fun x6=>
 (QiT n1 m2 budget3).bind fun x7=>
 bif (!x7)then
 some x6
 else
 (QC (fun st=>Qa2 n1 st.1 st.2) (false,0)).bind (fun q=>Qd1 n1 m2 x6 budget3 q)
theorem Qnz (n1:TNet)(m2:QMk)(budget3:Int){r:Bool}(h:Qcs n1 m2 budget3=some r):Qc Tryz.prog 4 [.agg (Qd n1),.sl 1 (m2.map Qi),.i .i64 budget3] [] (Gives (.b r) []):=by
 refine Qc.walk 90 Tryz.func4 rfl Tryz.ntmps4 rfl fun C hC=>?_
 unfold Qcs at h
 obtain⟨x6,hx6,h⟩:=Qb h
 obtain⟨x7,hx7,h⟩:=Qb h
 refine Qa hC [.n 8,.o (.c false [] (.b x6)),.n 5,.v .no [] (.agg (Qd n1)),.n 2,.o (.c false [.d,.d,.d] (.b x7)),.n 10] rfl ⟨⟨⟨tt_,(QqM  hx6)⟩,rfl⟩,(QrF _ _ _ hx7)⟩ ?_
 rcases bifE h with⟨hc8,h⟩|⟨hc8,h⟩
 ·refine Qa hC [.br true,.n 8,.keep [6] []] rfl ⟨tt_,hc8⟩ ?_
  cases h
  exact AK.done (ex_ [_] (an_ (an_ rfl tt_) (gives tt_)))
 ·refine Qa hC [.br false,.n 14,.keep [1,2,3,7,9,10] [3]] rfl ⟨tt_,hc8⟩ ?_
  obtain⟨some13,hl19,h⟩:=Qb h
  refine AK.loop (body:=(fun st=>Qa2 n1 st.1 st.2)) (fun st σ=>σ=⟨[(1,.sl 1 (m2.map Qi)),(2,.i .i64 budget3),(3,.loc 3 0 0),(7,.b x6),(9,.b st.1),(10,.i .i64 st.2)],[(3,.var (Qd n1))]⟩) (fun q e σ=>e=.exit 0∧σ=⟨[(1,.sl 1 (m2.map Qi)),(2,.i .i64 budget3),(3,.loc 3 0 0),(7,.b x6),(9,.b q)],[(3,.var (Qd n1))]⟩) hl19 rfl ?_ ?_
  ·rintro ⟨some9,k10⟩ o σ rfl h
   replace h:Qa2 n1 some9 k10=some o:=h
   unfold Qa2 at h
   refine Qa hC [.n 6,.o (.ln n1.Tasks.length),.n 3] rfl ⟨tt_,Qf⟩ ?_
   rcases bifE h with⟨hc14,h⟩|⟨hc14,h⟩
   ·refine Qa hC [.br true,.n 4] rfl ⟨tt_,hc14⟩ ?_
    obtain⟨some15,hv16,h⟩:=Qb h
    replace h:Qcz k10 some15=some o:=h
    refine AK.meetX (fun σ=>σ=⟨[(1,.sl 1 (m2.map Qi)),(2,.i .i64 budget3),(3,.loc 3 0 0),(7,.b x6),(9,.b some15),(10,.i .i64 k10)],[(3,.var (Qd n1))]⟩) ?_ ?_
    ·replace h:=hv16
     unfold QgK at h
     refine Qa hC [.n 3] rfl tt_ ?_
     rcases bifE h with⟨hc17,h⟩|⟨hc17,h⟩
     ·refine Qa hC [.say 31 (.b true),.n 10,.keep [1,2,3,7,9,10] [3]] rfl ⟨tt_,(congrArg V.b hc17)⟩ ?_
      cases h
      exact AK.met rfl
     ·obtain⟨e18,he18,h⟩:=Qb h
      refine Qa hC [.say 31 (.b false),.n 3,.o (.row (Qh e18)),.n 6,.keep [1,2,3,7,9,10] [3]] rfl ⟨⟨tt_,(congrArg V.b hc17)⟩,(idxM he18)⟩ ?_
      cases h
      exact AK.met rfl
    ·rintro σ rfl
     replace h:Qcz k10 some15=some o:=h
     unfold Qcz at h
     refine Qa hC [.n 7,.keep [1,2,3,7,9,10] [3]] rfl tt_ ?_
     cases h
     exact rndN rfl rfl
   ·refine Qa hC [.br false,.n 2,.keep [1,2,3,7,9] [3]] rfl ⟨tt_,hc14⟩ ?_
    cases h
    exact rndX rfl (an_ rfl rfl)
  ·replace h:Qd1 n1 m2 x6 budget3 some13=some r:=h
   unfold Qd1 at h
   rintro e σ ⟨rfl,rfl⟩
   obtain⟨x20,hx20,h⟩:=Qb h
   refine Qa hC [.n 5,.v .no [] (.agg (Qd n1)),.n 1,.o (.c false [.d,.d] (.i .i64 x20)),.n 3] rfl ⟨⟨tt_,rfl⟩,(QqY _ _ hx20)⟩ ?_
   rcases bifE h with⟨hc21,h⟩|⟨hc21,h⟩
   ·refine Qa hC [.br true,.n 8,.keep [6] []] rfl ⟨tt_,hc21⟩ ?_
    cases h
    exact AK.done (ex_ [_] (an_ (an_ rfl tt_) (gives tt_)))
   ·obtain⟨x22,hx22,h⟩:=Qb h
    obtain⟨x23,hx23,h⟩:=Qb h
    refine Qa hC [.br false,.n 4,.v .no [] (.agg (Qd n1)),.n 1,.o (.co false [.d,.d,.d] 4 (x22.map Qj) x22.length),.n 5,.v .no [] (.agg (Qd n1)),.n 2,.o (.c false [.d,.d,.d,.d] (.tup [.sl 4 (x23.1.map Qj),.b x23.2])),.n 14,.keep [1,3,7,9,11,12,13,14] [3,47]] rfl ⟨⟨⟨⟨⟨tt_,hc21⟩,rfl⟩,⟨(QjV _ _ _ hx22),Qf,.inl rfl⟩⟩,rfl⟩,(QmF _ _ _ _ hx23)⟩ ?_
    obtain⟨o30,hl30,h⟩:=Qb h
    refine AK.loop (body:=(fun st=>Qa3 x23 n1 m2 st)) (fun st σ=>σ=⟨[(1,.sl 1 (m2.map Qi)),(3,.loc 3 0 0),(7,.b x6),(9,.b some13),(11,.own 47 x22.length),(12,.sl 4 (x23.1.map Qj)),(13,.b x23.2),(14,.i .i64 st)],[(3,.var (Qd n1)),(47,.arr 4 (x22.map Qj))]⟩) (Sum.elim (fun q e σ=>e=.ret∧σ=⟨[(6,.b false)],[]⟩) (fun q e σ=>e=.exit 2∧σ=⟨[(7,.b x6),(9,.b some13),(11,.own 47 x22.length),(12,.sl 4 (x23.1.map Qj)),(13,.b x23.2)],[(47,.arr 4 (x22.map Qj))]⟩)) hl30 rfl ?_ ?_
    ·rintro i24 o σ rfl h
     replace h:Qa3 x23 n1 m2 i24=some o:=h
     unfold Qa3 at h
     refine Qa hC [.n 5,.o (.ln x23.1.length),.n 3] rfl ⟨tt_,Qf⟩ ?_
     rcases bifE h with⟨hc26,h⟩|⟨hc26,h⟩
     ·obtain⟨e27,he27,h⟩:=Qb h
      obtain⟨x28,hx28,h⟩:=Qb h
      refine Qa hC [.br true,.n 5,.keep [1,3,7,9,11,12,13,14] [3,47]] rfl ⟨tt_,hc26⟩ ?_
      refine AK.draw2 Qq hC mixed [.a .no (some ([],.agg (Qd n1))) false,.a .no none false,.a .no none false,.a .no none false,.a (.row (Qj e27)) none false,.a .no (some ([],.agg (Qj e27))) false,.a (.c false [.d,.d,.d] (.i .i64 x28)) none false,.a .no none false] [] [] [1,3,7,9,11,12,13,14,68] [3,47] rfl rfl rfl ⟨⟨⟨⟨tt_,rfl⟩,(idxM he27)⟩,rfl⟩,(QkT _ _ _ hx28)⟩ rfl (by kernel_rfl) rfl rfl rfl ?_
      refine Qa hC [.n 1] rfl tt_ ?_
      rcases bifE h with⟨hc29,h⟩|⟨hc29,h⟩
      ·refine Qa hC [.br true,.n 8,.keep [6] []] rfl ⟨tt_,hc29⟩ ?_
       cases h
       exact rndR rfl (an_ rfl rfl)
      ·refine Qa hC [.br false,.n 8,.keep [1,3,7,9,11,12,13,14] [3,47]] rfl ⟨tt_,hc29⟩ ?_
       cases h
       exact rndN rfl rfl
     ·refine Qa hC [.br false,.n 2,.keep [7,9,11,12,13] [47]] rfl ⟨tt_,hc26⟩ ?_
      cases h
      exact rndX rfl (an_ rfl rfl)
    ·rcases o30 with(_ | _)
     ·replace h:QgL=some r:=h
      unfold QgL at h
      rintro e σ ⟨rfl,rfl⟩
      refine Qa hC [.n 2,.keep [6] []] rfl tt_ ?_
      cases h
      exact AK.done (ex_ [_] (an_ (an_ rfl tt_) (gives tt_)))
     ·replace h:QcA x6 x23 x22 some13=some r:=h
      unfold QcA at h
      rintro e σ ⟨rfl,rfl⟩
      refine Qa hC [.n 3] rfl tt_ ?_
      refine AK.meetX (fun σ=>σ=⟨[(6,.b (x6&&((decide ((x23.1.length:Int)≤(x22.length:Int)))&&(some13||(x23.2&&((x23.1.length:Int)==(x22.length:Int)))))))],[]⟩) ?_ ?_
      ·refine Qa hC [.n 3] rfl tt_ ?_
       rcases QJ x6 with hc32 | hc32
       ·refine Qa hC [.say 70 (.b true),.n 1,.o (.ln x23.1.length),.n 5] rfl ⟨⟨tt_,(congrArg V.b hc32)⟩,Qf⟩ ?_
        rcases QJ (decide ((x23.1.length:Int)≤(x22.length:Int)))with hc33 | hc33
        ·refine Qa hC [.say 77 (.b true),.n 2] rfl ⟨tt_,(congrArg V.b hc33)⟩ ?_
         rcases QJ some13 with hc34 | hc34
         ·refine Qa hC [.say 79 (.b true),.n 12,.say 6 (.b (x6&&((decide ((x23.1.length:Int)≤(x22.length:Int)))&&(some13||(x23.2&&((x23.1.length:Int)==(x22.length:Int))))))),.keep [6] []] rfl ⟨⟨tt_,(congrArg V.b hc34)⟩,(congrArg V.b (andT hc32 (andT hc33 (orT hc34 rfl))))⟩ ?_
          exact AK.met rfl
         ·refine Qa hC [.say 79 (.b false),.n 2] rfl ⟨tt_,(congrArg V.b hc34)⟩ ?_
          rcases QJ x23.2 with hc35 | hc35
          ·refine Qa hC [.say 81 (.b true),.n 1,.o (.ln x23.1.length),.n 8,.say 6 (.b (x6&&((decide ((x23.1.length:Int)≤(x22.length:Int)))&&(some13||(x23.2&&((x23.1.length:Int)==(x22.length:Int))))))),.keep [6] []] rfl ⟨⟨⟨tt_,(congrArg V.b hc35)⟩,Qf⟩,(congrArg V.b (andT hc32 (andT hc33 (orF hc34 (andT hc35 rfl)))))⟩ ?_
           exact AK.met rfl
          ·refine Qa hC [.say 81 (.b false),.n 10,.say 6 (.b (x6&&((decide ((x23.1.length:Int)≤(x22.length:Int)))&&(some13||(x23.2&&((x23.1.length:Int)==(x22.length:Int))))))),.keep [6] []] rfl ⟨⟨tt_,(congrArg V.b hc35)⟩,(congrArg V.b (andT hc32 (andT hc33 (orF hc34 (andF hc35 rfl)))))⟩ ?_
           exact AK.met rfl
        ·refine Qa hC [.say 77 (.b false),.n 14,.say 6 (.b (x6&&((decide ((x23.1.length:Int)≤(x22.length:Int)))&&(some13||(x23.2&&((x23.1.length:Int)==(x22.length:Int))))))),.keep [6] []] rfl ⟨⟨tt_,(congrArg V.b hc33)⟩,(congrArg V.b (andT hc32 (andF hc33 rfl)))⟩ ?_
         exact AK.met rfl
       ·refine Qa hC [.say 70 (.b false),.n 21,.say 6 (.b (x6&&((decide ((x23.1.length:Int)≤(x22.length:Int)))&&(some13||(x23.2&&((x23.1.length:Int)==(x22.length:Int))))))),.keep [6] []] rfl ⟨⟨tt_,(congrArg V.b hc32)⟩,(congrArg V.b (andF hc32 rfl))⟩ ?_
        exact AK.met rfl
      ·rintro σ rfl
       refine Qa hC [.n 2,.keep [6] []] rfl tt_ ?_
       cases h
       exact AK.done (ex_ [_] (an_ (an_ rfl tt_) (gives tt_)))

end Go.Proofs
