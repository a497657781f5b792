/- What functions of the program do, as functions over plain data, and the walks that show it: printed by a program. -/
import Derived.Test.YtphohlpbjofddaaGreatDoorL2T2
set_option linter.unusedVariables false
set_option linter.unusedSimpArgs false
set_option linter.unusedSectionVars false
set_option linter.deprecated false
set_option maxRecDepth 100000
set_option maxHeartbeats 4000000
noncomputable section
namespace Go.Proofs
open Go Go.RowKit Go.Vm
def Qem (v1:TNet)(v2:Qr)(v3:Int):Option (Bool×Int):=
 (Qhd v1 v2).bind fun x6=>
 some ((x6==0),x6)
theorem Qpt (v1:TNet)(v2:Qr)(v3:Int){r:(Bool×Int)}(h:Qem v1 v2 v3=some r):Qc Tryz.prog 215 [.loc 200000 0 0,.loc 200003 0 0] [(200000,.var [.clo (.func 173) [] [.loc 200001 0 0,.loc 200002 0 0]]),(200001,.var (Qd v1)),(200002,.var (Qh v2)),(200003,.var [.loc 200004 0 0]),(200004,.var (Qe v3))] (Gives (.b r.1) [(200000,.var [.clo (.func 173) [] [.loc 200001 0 0,.loc 200002 0 0]]),(200001,.var (Qd v1)),(200002,.var (Qh v2)),(200003,.var [.loc 200004 0 0]),(200004,.var (Qe r.2))]):=by
 refine Qc.walk 11 Tryz.func215 rfl Tryz.ntmps215 rfl fun C hC=>?_
 unfold Qem at h
 obtain⟨x6,hx6,h⟩:=Qb h
 refine Qa hC [.n 6,.keep [0,1] [200000,200001,200002,200003,200004]] rfl tt_ ?_
 refine AK.draw2 Qo hC mixed [.a .no none false,.a .no none false,.a (.any (.i .i64 x6) none) none false,.a .no none false,.m .s] [] [] [1] [200000,200001,200002,200003,200004] rfl rfl rfl ⟨tt_,(fun σ h1 h2 _=>Stp.callSame (md:=.cm (.clo) [(200000,200001),(200001,200002)] [(200001,200000),(200002,200001)] [] [.d,.d] [(200000,.var (Qd v1)),(200001,.var (Qh v2))] (.i .i64 x6) [200001,200002]) Qo hC h1 h2 rfl ⟨⟨tt_,(Qqb _ _ hx6)⟩,⟨rfl,rfl,tt_⟩⟩)⟩ rfl (by kernel_rfl) rfl rfl rfl ?_
 refine Qa hC [.sayO 200004 (.var (Qe x6)),.n 11,.keep [2] [200000,200001,200002,200003,200004]] rfl ⟨tt_,rfl⟩ ?_
 cases h
 exact AK.done (ex_ [_] (an_ (an_ rfl tt_) (gives ⟨rfl,rfl,rfl,rfl,rfl,tt_⟩)))
def Qb3 (e7:Qr)(n1:TNet)(out8:Int)(x9:Int):Option ((Int×Int)⊕(Unit⊕Int)):=
 bif (decide (x9<(e7.Vars.length:Int)))then
 (idx e7.Vars x9).bind fun e14=>
 (QaD n1.Colours e14.Colour).bind fun x15=>
 bif (x15==0)then
 some (.inr (.inl ()))
 else
 some (.inl ((min2 (w64 (out8*x15)) 1025),(w64 (x9+1))))
 else
 some (.inr (.inr out8))
def QfK : Option Int:=
 some 0
def QfL (out12:Int):Option Int:=
 some out12
def Qb7 (n1:TNet)(k2:Int):Option Int:=
 (QaJ n1.Tasks k2).bind fun x5=>
 bif (!x5)then
 some 0
 else
 (idx n1.Tasks k2).bind fun e7=>
 (QC (fun st=>Qb3 e7 n1 st.1 st.2) (1,0)).bind (Sum.elim (fun q=>QfK) (fun q=>QfL q))
theorem QmO (n1:TNet)(k2:Int){r:Int}(h:Qb7 n1 k2=some r):Qc Tryz.prog 54 [.agg (Qd n1),.i .i64 k2] [] (Gives (.i .i64 r) []):=by
 refine Qc.walk 38 Tryz.func54 rfl Tryz.ntmps54 rfl fun C hC=>?_
 unfold Qb7 at h
 obtain⟨x5,hx5,h⟩:=Qb h
 refine Qa hC [.n 12,.o (.c false [.d,.d] (.b x5)),.n 3] rfl ⟨tt_,(Qiu _ _ hx5)⟩ ?_
 rcases bifE h with⟨hc6,h⟩|⟨hc6,h⟩
 ·refine Qa hC [.br true,.n 7,.keep [4] []] rfl ⟨tt_,hc6⟩ ?_
  cases h
  exact AK.done (ex_ [_] (an_ (an_ rfl tt_) (gives tt_)))
 ·obtain⟨e7,he7,h⟩:=Qb h
  refine Qa hC [.br false,.n 13,.o (.row (Qh e7)),.n 2,.o (.ln e7.Vars.length),.n 4,.keep [2,5,19,20,21] [2]] rfl ⟨⟨⟨tt_,hc6⟩,(idxM he7)⟩,Qf⟩ ?_
  obtain⟨o17,hl17,h⟩:=Qb h
  refine AK.loop (body:=(fun st=>Qb3 e7 n1 st.1 st.2)) (fun st σ=>σ=⟨[(2,.loc 2 0 0),(5,.i .i64 st.1),(19,.sl 2 (e7.Vars.map QD)),(20,.i .i64 (e7.Vars.length:Int)),(21,.i .i64 st.2)],[(2,.var (Qd n1))]⟩) (Sum.elim (fun q e σ=>e=.ret∧σ=⟨[(4,.i .i64 0)],[]⟩) (fun q e σ=>e=.exit 0∧σ=⟨[(5,.i .i64 q)],[]⟩)) hl17 rfl ?_ ?_
  ·rintro ⟨out8,x9⟩ o σ rfl h
   replace h:Qb3 e7 n1 out8 x9=some o:=h
   unfold Qb3 at h
   refine Qa hC [.n 6] rfl tt_ ?_
   rcases bifE h with⟨hc13,h⟩|⟨hc13,h⟩
   ·obtain⟨e14,he14,h⟩:=Qb h
    obtain⟨x15,hx15,h⟩:=Qb h
    refine Qa hC [.br true,.n 6,.o (.row (QD e14)),.v .no [] (.agg (QD e14)),.n 2,.sayO 7 (.var (QD e14)),.n 8,.o (.c false [.d,.d] (.i .i64 x15)),.n 10] rfl ⟨⟨⟨⟨⟨tt_,hc13⟩,(idxM he14)⟩,rfl⟩,rfl⟩,(QhC _ _ hx15)⟩ ?_
    rcases bifE h with⟨hc16,h⟩|⟨hc16,h⟩
    ·refine Qa hC [.br true,.n 9,.keep [4] []] rfl ⟨tt_,hc16⟩ ?_
     cases h
     exact rndR rfl (an_ rfl rfl)
    ·refine Qa hC [.br false,.n 15,.keep [2,5,19,20,21] [2]] rfl ⟨tt_,hc16⟩ ?_
     cases h
     exact rndN rfl rfl
   ·refine Qa hC [.br false,.n 2,.keep [5] []] rfl ⟨tt_,hc13⟩ ?_
    cases h
    exact rndX rfl (an_ rfl rfl)
  ·rcases o17 with(_ | out12)
   ·replace h:QfK=some r:=h
    unfold QfK at h
    rintro e σ ⟨rfl,rfl⟩
    refine Qa hC [.n 2,.keep [4] []] rfl tt_ ?_
    cases h
    exact AK.done (ex_ [_] (an_ (an_ rfl tt_) (gives tt_)))
   ·replace h:QfL out12=some r:=h
    unfold QfL at h
    rintro e σ ⟨rfl,rfl⟩
    refine Qa hC [.n 9,.keep [4] []] rfl tt_ ?_
    cases h
    exact AK.done (ex_ [_] (an_ (an_ rfl tt_) (gives tt_)))
def Qfi (v1:TNet)(v2:Int):Option Bool:=
 (Qb7 v1 v2).bind fun x4=>
 some (decide (x4≤1024))
theorem Qqc (v1:TNet)(v2:Int){r:Bool}(h:Qfi v1 v2=some r):Qc Tryz.prog 175 [.loc 200000 0 0,.loc 200001 0 0] [(200000,.var (Qd v1)),(200001,.var (Qe v2))] (Gives (.b r) [(200000,.var (Qd v1)),(200001,.var (Qe v2))]):=by
 refine Qc.walk 7 Tryz.func175 rfl Tryz.ntmps175 rfl fun C hC=>?_
 unfold Qfi at h
 obtain⟨x4,hx4,h⟩:=Qb h
 refine Qa hC [.n 7,.v .no [] (.agg (Qd v1)),.n 1,.o (.c false [.d,.d] (.i .i64 x4)),.n 5,.keep [2] [200000,200001]] rfl ⟨⟨tt_,rfl⟩,(QmO _ _ hx4)⟩ ?_
 cases h
 exact AK.done (ex_ [_] (an_ (an_ rfl tt_) (gives ⟨rfl,rfl,tt_⟩)))
def Qjx (v1:Qr)(v2:Int):Option Bool:=
 (Qft v1.Guard v2).bind fun x6=>
 bif x6 then
 bif (decide (0<(v1.Ins.length:Int)))then
 some (decide (0<(v1.Outs.length:Int)))
 else
 some false
 else
 some false
def QeQ (x4:Bool):Option Bool:=
 some x4
def Qhe (v1:Qr)(v2:Int):Option Bool:=
 (Qjx v1 v2).bind (fun x4=>QeQ x4)
theorem Qqd (v1:Qr)(v2:Int){r:Bool}(h:Qhe v1 v2=some r):Qc Tryz.prog 176 [.loc 200000 0 0,.loc 200001 0 0] [(200000,.var (Qh v1)),(200001,.var (Qe v2))] (Gives (.b r) [(200000,.var (Qh v1)),(200001,.var (Qe v2))]):=by
 refine Qc.walk 19 Tryz.func176 rfl Tryz.ntmps176 rfl fun C hC=>?_
 unfold Qhe at h
 refine Qa hC [.n 6] rfl tt_ ?_
 obtain⟨x4,hv5,h⟩:=Qb h
 replace h:QeQ x4=some r:=h
 refine AK.meetX (fun σ=>σ=⟨[(2,.b x4)],[(200000,.var (Qh v1)),(200001,.var (Qe v2))]⟩) ?_ ?_
 ·replace h:=hv5
  unfold Qjx at h
  obtain⟨x6,hx6,h⟩:=Qb h
  refine Qa hC [.n 2,.v .no [] (.agg (Qm v1.Guard)),.n 1,.o (.c false [.d,.d] (.b x6)),.n 1] rfl ⟨⟨tt_,rfl⟩,(QkF _ _ hx6)⟩ ?_
  rcases bifE h with⟨hc7,h⟩|⟨hc7,h⟩
  ·refine Qa hC [.say 7 (.b true),.n 2,.o (.ln v1.Ins.length),.n 3] rfl ⟨⟨tt_,(congrArg V.b hc7)⟩,Qf⟩ ?_
   rcases bifE h with⟨hc8,h⟩|⟨hc8,h⟩
   ·refine Qa hC [.say 13 (.b true),.n 2,.o (.ln v1.Outs.length),.n 4,.keep [2] [200000,200001]] rfl ⟨⟨tt_,(congrArg V.b hc8)⟩,Qf⟩ ?_
    cases h
    exact AK.met rfl
   ·refine Qa hC [.say 13 (.b false),.n 7,.keep [2] [200000,200001]] rfl ⟨tt_,(congrArg V.b hc8)⟩ ?_
    cases h
    exact AK.met rfl
  ·refine Qa hC [.say 7 (.b false),.n 13,.keep [2] [200000,200001]] rfl ⟨tt_,(congrArg V.b hc7)⟩ ?_
   cases h
   exact AK.met rfl
 ·rintro σ rfl
  replace h:QeQ x4=some r:=h
  unfold QeQ at h
  refine Qa hC [.n 2,.keep [2] [200000,200001]] rfl tt_ ?_
  cases h
  exact AK.done (ex_ [_] (an_ (an_ rfl tt_) (gives ⟨rfl,rfl,tt_⟩)))
def QfM (v1:TNet)(v2:TArc):Option Bool:=
 (Qah v1.Places v2.Place).bind fun x4=>
 some x4
theorem QoO (v1:TNet)(v2:TArc){r:Bool}(h:QfM v1 v2=some r):Qc Tryz.prog 225 [.loc 200000 0 0,.loc 200001 0 0] [(200000,.var (Qd v1)),(200001,.var (QF v2))] (Gives (.b r) [(200000,.var (Qd v1)),(200001,.var (QF v2))]):=by
 refine Qc.walk 8 Tryz.func225 rfl Tryz.ntmps225 rfl fun C hC=>?_
 unfold QfM at h
 obtain⟨x4,hx4,h⟩:=Qb h
 refine Qa hC [.n 11,.o (.c false [.d,.d] (.b x4)),.n 4,.keep [2] [200000,200001]] rfl ⟨tt_,(QbC _ _ hx4)⟩ ?_
 cases h
 exact AK.done (ex_ [_] (an_ (an_ rfl tt_) (gives ⟨rfl,rfl,tt_⟩)))
def QfN (v1:TArc)(v2:Int):Option Bool:=
 (Qft v1.Expr v2).bind fun x4=>
 some x4
theorem QoP (v1:TArc)(v2:Int){r:Bool}(h:QfN v1 v2=some r):Qc Tryz.prog 226 [.loc 200000 0 0,.loc 200001 0 0] [(200000,.var (QF v1)),(200001,.var (Qe v2))] (Gives (.b r) [(200000,.var (QF v1)),(200001,.var (Qe v2))]):=by
 refine Qc.walk 7 Tryz.func226 rfl Tryz.ntmps226 rfl fun C hC=>?_
 unfold QfN at h
 obtain⟨x4,hx4,h⟩:=Qb h
 refine Qa hC [.n 8,.v .no [] (.agg (Qm v1.Expr)),.n 1,.o (.c false [.d,.d] (.b x4)),.n 4,.keep [2] [200000,200001]] rfl ⟨⟨tt_,rfl⟩,(QkF _ _ hx4)⟩ ?_
 cases h
 exact AK.done (ex_ [_] (an_ (an_ rfl tt_) (gives ⟨rfl,rfl,tt_⟩)))
def QfO (v1:TNet)(v2:TArc)(v3:Int)(v4:Int)(v5:Int):Option Int:=
 (QfM v1 v2).bind fun x8=>
 bif (!x8)then
 some v3
 else
 (QfN v2 v4).bind fun x10=>
 bif (!x10)then
 some v5
 else
 some 0
theorem QoQ (v1:TNet)(v2:TArc)(v3:Int)(v4:Int)(v5:Int){r:Int}(h:QfO v1 v2 v3 v4 v5=some r):Qc Tryz.prog 98 [.own 200000 2] [(200000,.var [.clo (.func 225) [] [.loc 200001 0 0,.loc 200002 0 0],.i .i64 v3,.clo (.func 226) [] [.loc 200002 0 0,.loc 200003 0 0],.i .i64 v5]),(200001,.var (Qd v1)),(200002,.var (QF v2)),(200003,.var (Qe v4))] (Gives (.i .i64 r) [(200000,.var [.clo (.func 225) [] [.loc 200001 0 0,.loc 200002 0 0],.i .i64 v3,.clo (.func 226) [] [.loc 200002 0 0,.loc 200003 0 0],.i .i64 v5]),(200001,.var (Qd v1)),(200002,.var (QF v2)),(200003,.var (Qe v4))]):=by
 refine Qc.walk 18 Tryz.func98 rfl Tryz.ntmps98 rfl fun C hC=>?_
 unfold QfO at h
 refine Qa hC [.n 14] rfl tt_ ?_
 refine AK.loopN 3 (AK.rnd ?_)
 obtain⟨x8,hx8,h⟩:=Qb h
 refine Qa hC [.n 2,.v .no [] (.b true),.n 10,.o (.any (.loc 200000 0 0) none),.n 3,.sayO 4 (.var [.clo (.func 225) [] [.loc 200001 0 0,.loc 200002 0 0],.i .i64 v3]),.n 6,.cm (.clo) [(200000,200001),(200001,200002)] [(200001,200000),(200002,200001)] [] [.d,.d] [(200000,.var (Qd v1)),(200001,.var (QF v2))] (.b x8),.n 3] rfl ⟨⟨⟨⟨tt_,rfl⟩,(fun σ h1 h2 _=>Stp.idxV rfl rfl (bleN hC.n rfl) (h1 _ _ rfl) (h1 _ _ rfl) (Qo.es rfl) (h2 _ _ rfl) (by decide))⟩,rfl⟩,(QoO _ _ hx8)⟩ ?_
 rcases bifE h with⟨hc9,h⟩|⟨hc9,h⟩
 ·refine Qa hC [.br true,.n 13,.keep [2] [200000,200001,200002,200003]] rfl ⟨tt_,hc9⟩ ?_
  cases h
  exact AK.done (ex_ [_] (an_ (an_ rfl tt_) (gives ⟨rfl,rfl,rfl,rfl,tt_⟩)))
 ·refine Qa hC [.br false,.n 4,.v .no [] (.i .i64 1),.n 2] rfl ⟨⟨tt_,hc9⟩,rfl⟩ ?_
  refine AK.met (AK.rnd ?_)
  obtain⟨x10,hx10,h⟩:=Qb h
  refine Qa hC [.n 2,.v .no [] (.b true),.n 10,.o (.any (.loc 200000 0 2) none),.n 1,.kill 4,.n 2,.sayO 4 (.var [.clo (.func 226) [] [.loc 200002 0 0,.loc 200003 0 0],.i .i64 v5]),.n 6,.cm (.clo) [(200000,200002),(200001,200003)] [(200002,200000),(200003,200001)] [] [.d,.d] [(200000,.var (QF v2)),(200001,.var (Qe v4))] (.b x10),.n 3] rfl ⟨⟨⟨⟨tt_,rfl⟩,(fun σ h1 h2 _=>Stp.idxV rfl rfl (bleN hC.n rfl) (h1 _ _ rfl) (h1 _ _ rfl) (Qo.es rfl) (h2 _ _ rfl) (by decide))⟩,rfl⟩,(QoP _ _ hx10)⟩ ?_
  rcases bifE h with⟨hc11,h⟩|⟨hc11,h⟩
  ·refine Qa hC [.br true,.n 13,.keep [2] [200000,200001,200002,200003]] rfl ⟨tt_,hc11⟩ ?_
   cases h
   exact AK.done (ex_ [_] (an_ (an_ rfl tt_) (gives ⟨rfl,rfl,rfl,rfl,tt_⟩)))
  ·refine Qa hC [.br false,.n 4,.v .no [] (.i .i64 2),.n 2] rfl ⟨⟨tt_,hc11⟩,rfl⟩ ?_
   refine AK.met (AK.rnd ?_)
   refine Qa hC [.n 2,.v .no [] (.b false),.n 15,.keep [2] [200000,200001,200002,200003]] rfl ⟨tt_,rfl⟩ ?_
   cases h
   exact AK.done (ex_ [_] (an_ (an_ rfl tt_) (gives ⟨rfl,rfl,rfl,rfl,tt_⟩)))
def Qhf (p1:Int)(a2:TArc)(v3:TNet)(v4:Int):Option Int:=
 (QfO v3 a2 3 v4 1).bind fun x6=>
 some x6
theorem Qqe (p1:Int)(a2:TArc)(v3:TNet)(v4:Int){r:Int}(h:Qhf p1 a2 v3 v4=some r):Qc Tryz.prog 224 [.i .i64 p1,.agg (QF a2),.loc 200000 0 0,.loc 200001 0 0] [(200000,.var (Qd v3)),(200001,.var (Qe v4))] (Gives (.i .i64 r) [(200000,.var (Qd v3)),(200001,.var (Qe v4))]):=by
 refine Qc.walk 13 Tryz.func224 rfl Tryz.ntmps224 rfl fun C hC=>?_
 unfold Qhf at h
 obtain⟨x6,hx6,h⟩:=Qb h
 refine Qa hC [.n 9,.v .no [] (.agg [.clo (.func 225) [] [.loc 200000 0 0,.loc 5 0 0],.i .i64 3]),.n 1,.v .no [] (.agg [.clo (.func 226) [] [.loc 5 0 0,.loc 200001 0 0],.i .i64 1]),.o (.any (.own 11 2) (some (.var [.clo (.func 225) [] [.loc 200000 0 0,.loc 5 0 0],.i .i64 3,.clo (.func 226) [] [.loc 5 0 0,.loc 200001 0 0],.i .i64 1]))),.cm (.fn) [(200000,11),(200001,200000),(200002,5),(200003,200001)] [(11,200000),(200000,200001),(5,200002),(200001,200003)] [] [.d] [(200000,.var [.clo (.func 225) [] [.loc 200001 0 0,.loc 200002 0 0],.i .i64 3,.clo (.func 226) [] [.loc 200002 0 0,.loc 200003 0 0],.i .i64 1]),(200001,.var (Qd v3)),(200002,.var (QF a2)),(200003,.var (Qe v4))] (.i .i64 x6),.n 4,.keep [6] [200000,200001]] rfl ⟨⟨⟨⟨tt_,rfl⟩,rfl⟩,(fun σ h1 h2 hf=>Stp.buildAny rfl rfl (bleN hC.n rfl) (Qo.es rfl) QlD rfl (by decide) (by decide) (Qfl h1 rfl) rfl rfl (hf rfl))⟩,(QoQ _ _ _ _ _ hx6)⟩ ?_
 cases h
 exact AK.done (ex_ [_] (an_ (an_ rfl tt_) (gives ⟨rfl,rfl,tt_⟩)))
def Qbw (l1:(List TArc))(v2:TNet)(v3:Int)(x8:Int):Option (Int⊕((Int×Int)⊕Unit)):=
 bif (decide (x8<(l1.length:Int)))then
 (idx l1 x8).bind fun e13=>
 (Qhf x8 e13 v2 v3).bind fun x14=>
 bif (x14 != 0)then
 some (.inr (.inl (x8,x14)))
 else
 some (.inl (w64 (x8+1)))
 else
 some (.inr (.inr ()))
def Qci (x10:Int)(x11:Int):Option (Int×Int):=
 some (x10,x11)
def Qcj : Option (Int×Int):=
 some (0,0)
def Qdj (l1:(List TArc))(v2:TNet)(v3:Int):Option (Int×Int):=
 (QC (fun st=>Qbw l1 v2 v3 st) 0).bind (Sum.elim (fun q=>Qci q.1 q.2) (fun q=>Qcj))
theorem Qm2 (l1:(List TArc))(v2:TNet)(v3:Int){r:(Int×Int)}(h:Qdj l1 v2 v3=some r):Qc Tryz.prog 223 [.sl 4 (l1.map QF),.clo (.func 224) [] [.loc 200000 0 0,.loc 200001 0 0]] [(200000,.var (Qd v2)),(200001,.var (Qe v3))] (Gives (.tup [.i .i64 r.1,.i .i64 r.2]) [(200000,.var (Qd v2)),(200001,.var (Qe v3))]):=by
 refine Qc.walk 25 Tryz.func223 rfl Tryz.ntmps223 rfl fun C hC=>?_
 unfold Qdj at h
 refine Qa hC [.n 10,.o (.ln l1.length),.n 4,.keep [1,9,10,11] [200000,200001]] rfl ⟨tt_,Qf⟩ ?_
 obtain⟨o16,hl16,h⟩:=Qb h
 refine AK.loop (body:=(fun st=>Qbw l1 v2 v3 st)) (fun st σ=>σ=⟨[(1,.clo (.func 224) [] [.loc 200000 0 0,.loc 200001 0 0]),(9,.sl 4 (l1.map QF)),(10,.i .i64 (l1.length:Int)),(11,.i .i64 st)],[(200000,.var (Qd v2)),(200001,.var (Qe v3))]⟩) (Sum.elim (fun q e σ=>e=.ret∧σ=⟨[(4,.i .i64 q.1),(5,.i .i64 q.2)],[(200000,.var (Qd v2)),(200001,.var (Qe v3))]⟩) (fun q e σ=>e=.exit 0∧σ=⟨[],[(200000,.var (Qd v2)),(200001,.var (Qe v3))]⟩)) hl16 rfl ?_ ?_
 ·rintro x8 o σ rfl h
  replace h:Qbw l1 v2 v3 x8=some o:=h
  unfold Qbw at h
  refine Qa hC [.n 6] rfl tt_ ?_
  rcases bifE h with⟨hc12,h⟩|⟨hc12,h⟩
  ·obtain⟨e13,he13,h⟩:=Qb h
   obtain⟨x14,hx14,h⟩:=Qb h
   refine Qa hC [.br true,.n 7,.o (.row (QF e13)),.v .no [] (.agg (QF e13)),.n 3,.sayO 7 (.var (QF e13)),.n 6,.v .no [] (.agg (QF e13)),.cm (.clo) [(200000,200000),(200001,200001)] [(200000,200000),(200001,200001)] [] [.d,.d,.d,.d] [(200000,.var (Qd v2)),(200001,.var (Qe v3))] (.i .i64 x14),.n 9] rfl ⟨⟨⟨⟨⟨⟨tt_,hc12⟩,(idxM he13)⟩,rfl⟩,rfl⟩,rfl⟩,(Qqe _ _ _ _ hx14)⟩ ?_
   rcases bifE h with⟨hc15,h⟩|⟨hc15,h⟩
   ·refine Qa hC [.br true,.n 11,.keep [4,5] [200000,200001]] rfl ⟨tt_,hc15⟩ ?_
    cases h
    exact rndR rfl (an_ rfl rfl)
   ·refine Qa hC [.br false,.n 7,.keep [1,9,10,11] [200000,200001]] rfl ⟨tt_,hc15⟩ ?_
    cases h
    exact rndN rfl rfl
  ·refine Qa hC [.br false,.n 2,.keep [] [200000,200001]] rfl ⟨tt_,hc12⟩ ?_
   cases h
   exact rndX rfl (an_ rfl rfl)
 ·rcases o16 with(⟨x10,x11⟩|_)
  ·replace h:Qci x10 x11=some r:=h
   unfold Qci at h
   rintro e σ ⟨rfl,rfl⟩
   refine Qa hC [.n 2,.keep [4,5] [200000,200001]] rfl tt_ ?_
   cases h
   exact AK.done (ex_ [_,_] (an_ (an_ rfl (an_ rfl tt_)) (gives ⟨rfl,rfl,tt_⟩)))
  ·replace h:Qcj=some r:=h
   unfold Qcj at h
   rintro e σ ⟨rfl,rfl⟩
   refine Qa hC [.n 9,.keep [4,5] [200000,200001]] rfl tt_ ?_
   cases h
   exact AK.done (ex_ [_,_] (an_ (an_ rfl (an_ rfl tt_)) (gives ⟨rfl,rfl,tt_⟩)))
def Qhg (n1:TNet)(l2:(List TArc))(vars3:Int):Option Int:=
 (Qdj l2 n1 vars3).bind fun x5=>
 some x5.2
theorem Qnh (n1:TNet)(l2:(List TArc))(vars3:Int){r:Int}(h:Qhg n1 l2 vars3=some r):Qc Tryz.prog 178 [.agg (Qd n1),.sl 4 (l2.map QF),.i .i64 vars3] [] (Gives (.i .i64 r) []):=by
 refine Qc.walk 16 Tryz.func178 rfl Tryz.ntmps178 rfl fun C hC=>?_
 unfold Qhg at h
 obtain⟨x5,hx5,h⟩:=Qb h
 refine Qa hC [.n 11,.cm (.fn) [(200000,3),(200001,5)] [(3,200000),(5,200001)] [] [.d,.d] [(200000,.var (Qd n1)),(200001,.var (Qe vars3))] (.tup [.i .i64 x5.1,.i .i64 x5.2]),.n 14,.keep [6] []] rfl ⟨tt_,(Qm2 _ _ _ hx5)⟩ ?_
 cases h
 exact AK.done (ex_ [_] (an_ (an_ rfl tt_) (gives tt_)))
def Qhh (v1:TNet)(v2:Qr)(v3:Int):Option Int:=
 (Qhg v1 v2.Ins v3).bind fun x5=>
 some x5
theorem Qqf (v1:TNet)(v2:Qr)(v3:Int){r:Int}(h:Qhh v1 v2 v3=some r):Qc Tryz.prog 177 [.loc 200000 0 0,.loc 200001 0 0,.loc 200002 0 0] [(200000,.var (Qd v1)),(200001,.var (Qh v2)),(200002,.var (Qe v3))] (Gives (.i .i64 r) [(200000,.var (Qd v1)),(200001,.var (Qh v2)),(200002,.var (Qe v3))]):=by
 refine Qc.walk 9 Tryz.func177 rfl Tryz.ntmps177 rfl fun C hC=>?_
 unfold Qhh at h
 obtain⟨x5,hx5,h⟩:=Qb h
 refine Qa hC [.n 7,.v .no [] (.agg (Qd v1)),.n 3,.o (.c false [.d,.d,.d] (.i .i64 x5)),.n 4,.keep [3] [200000,200001,200002]] rfl ⟨⟨tt_,rfl⟩,(Qnh _ _ _ hx5)⟩ ?_
 cases h
 exact AK.done (ex_ [_] (an_ (an_ rfl tt_) (gives ⟨rfl,rfl,rfl,tt_⟩)))
def Qd9 (v1:TNet)(v2:Qr)(v3:Int)(v4:Int):Option (Bool×Int):=
 (Qhh v1 v2 v3).bind fun x7=>
 some ((x7==0),x7)
theorem QnK (v1:TNet)(v2:Qr)(v3:Int)(v4:Int){r:(Bool×Int)}(h:Qd9 v1 v2 v3 v4=some r):Qc Tryz.prog 215 [.loc 200000 0 0,.loc 200004 0 0] [(200000,.var [.clo (.func 177) [] [.loc 200001 0 0,.loc 200002 0 0,.loc 200003 0 0]]),(200001,.var (Qd v1)),(200002,.var (Qh v2)),(200003,.var (Qe v3)),(200004,.var [.loc 200005 0 0]),(200005,.var (Qe v4))] (Gives (.b r.1) [(200000,.var [.clo (.func 177) [] [.loc 200001 0 0,.loc 200002 0 0,.loc 200003 0 0]]),(200001,.var (Qd v1)),(200002,.var (Qh v2)),(200003,.var (Qe v3)),(200004,.var [.loc 200005 0 0]),(200005,.var (Qe r.2))]):=by
 refine Qc.walk 11 Tryz.func215 rfl Tryz.ntmps215 rfl fun C hC=>?_
 unfold Qd9 at h
 obtain⟨x7,hx7,h⟩:=Qb h
 refine Qa hC [.n 6,.keep [0,1] [200000,200001,200002,200003,200004,200005]] rfl tt_ ?_
 refine AK.draw2 Qo hC mixed [.a .no none false,.a .no none false,.a (.any (.i .i64 x7) none) none false,.a .no none false,.m .s] [] [] [1] [200000,200001,200002,200003,200004,200005] rfl rfl rfl ⟨tt_,(fun σ h1 h2 _=>Stp.callSame (md:=.cm (.clo) [(200000,200001),(200001,200002),(200002,200003)] [(200001,200000),(200002,200001),(200003,200002)] [] [.d,.d,.d] [(200000,.var (Qd v1)),(200001,.var (Qh v2)),(200002,.var (Qe v3))] (.i .i64 x7) [200001,200002,200003]) Qo hC h1 h2 rfl ⟨⟨tt_,(Qqf _ _ _ hx7)⟩,⟨rfl,rfl,rfl,tt_⟩⟩)⟩ rfl (by kernel_rfl) rfl rfl rfl ?_
 refine Qa hC [.sayO 200005 (.var (Qe x7)),.n 11,.keep [2] [200000,200001,200002,200003,200004,200005]] rfl ⟨tt_,rfl⟩ ?_
 cases h
 exact AK.done (ex_ [_] (an_ (an_ rfl tt_) (gives ⟨rfl,rfl,rfl,rfl,rfl,rfl,tt_⟩)))
def Qhi (v1:TNet)(v2:Qr)(v3:Int):Option Int:=
 (Qhg v1 v2.Outs v3).bind fun x5=>
 some x5
theorem Qqg (v1:TNet)(v2:Qr)(v3:Int){r:Int}(h:Qhi v1 v2 v3=some r):Qc Tryz.prog 179 [.loc 200000 0 0,.loc 200001 0 0,.loc 200002 0 0] [(200000,.var (Qd v1)),(200001,.var (Qh v2)),(200002,.var (Qe v3))] (Gives (.i .i64 r) [(200000,.var (Qd v1)),(200001,.var (Qh v2)),(200002,.var (Qe v3))]):=by
 refine Qc.walk 9 Tryz.func179 rfl Tryz.ntmps179 rfl fun C hC=>?_
 unfold Qhi at h
 obtain⟨x5,hx5,h⟩:=Qb h
 refine Qa hC [.n 7,.v .no [] (.agg (Qd v1)),.n 3,.o (.c false [.d,.d,.d] (.i .i64 x5)),.n 4,.keep [3] [200000,200001,200002]] rfl ⟨⟨tt_,rfl⟩,(Qnh _ _ _ hx5)⟩ ?_
 cases h
 exact AK.done (ex_ [_] (an_ (an_ rfl tt_) (gives ⟨rfl,rfl,rfl,tt_⟩)))
def Qea (v1:TNet)(v2:Qr)(v3:Int)(v4:Int):Option (Bool×Int):=
 (Qhi v1 v2 v3).bind fun x7=>
 some ((x7==0),x7)
theorem QnL (v1:TNet)(v2:Qr)(v3:Int)(v4:Int){r:(Bool×Int)}(h:Qea v1 v2 v3 v4=some r):Qc Tryz.prog 215 [.loc 200000 0 0,.loc 200004 0 0] [(200000,.var [.clo (.func 179) [] [.loc 200001 0 0,.loc 200002 0 0,.loc 200003 0 0]]),(200001,.var (Qd v1)),(200002,.var (Qh v2)),(200003,.var (Qe v3)),(200004,.var [.loc 200005 0 0]),(200005,.var (Qe v4))] (Gives (.b r.1) [(200000,.var [.clo (.func 179) [] [.loc 200001 0 0,.loc 200002 0 0,.loc 200003 0 0]]),(200001,.var (Qd v1)),(200002,.var (Qh v2)),(200003,.var (Qe v3)),(200004,.var [.loc 200005 0 0]),(200005,.var (Qe r.2))]):=by
 refine Qc.walk 11 Tryz.func215 rfl Tryz.ntmps215 rfl fun C hC=>?_
 unfold Qea at h
 obtain⟨x7,hx7,h⟩:=Qb h
 refine Qa hC [.n 6,.keep [0,1] [200000,200001,200002,200003,200004,200005]] rfl tt_ ?_
 refine AK.draw2 Qo hC mixed [.a .no none false,.a .no none false,.a (.any (.i .i64 x7) none) none false,.a .no none false,.m .s] [] [] [1] [200000,200001,200002,200003,200004,200005] rfl rfl rfl ⟨tt_,(fun σ h1 h2 _=>Stp.callSame (md:=.cm (.clo) [(200000,200001),(200001,200002),(200002,200003)] [(200001,200000),(200002,200001),(200003,200002)] [] [.d,.d,.d] [(200000,.var (Qd v1)),(200001,.var (Qh v2)),(200002,.var (Qe v3))] (.i .i64 x7) [200001,200002,200003]) Qo hC h1 h2 rfl ⟨⟨tt_,(Qqg _ _ _ hx7)⟩,⟨rfl,rfl,rfl,tt_⟩⟩)⟩ rfl (by kernel_rfl) rfl rfl rfl ?_
 refine Qa hC [.sayO 200005 (.var (Qe x7)),.n 11,.keep [2] [200000,200001,200002,200003,200004,200005]] rfl ⟨tt_,rfl⟩ ?_
 cases h
 exact AK.done (ex_ [_] (an_ (an_ rfl tt_) (gives ⟨rfl,rfl,rfl,rfl,rfl,rfl,tt_⟩)))
def QdD (v1:TNet)(v2:Int):Option Bool:=
 (Qah v1.Places v2).bind fun x4=>
 some x4
theorem Qnx (v1:TNet)(v2:Int){r:Bool}(h:QdD v1 v2=some r):Qc Tryz.prog 229 [.loc 200000 0 0,.loc 200001 0 0] [(200000,.var (Qd v1)),(200001,.var (Qe v2))] (Gives (.b r) [(200000,.var (Qd v1)),(200001,.var (Qe v2))]):=by
 refine Qc.walk 7 Tryz.func229 rfl Tryz.ntmps229 rfl fun C hC=>?_
 unfold QdD at h
 obtain⟨x4,hx4,h⟩:=Qb h
 refine Qa hC [.n 10,.o (.c false [.d,.d] (.b x4)),.n 4,.keep [2] [200000,200001]] rfl ⟨tt_,(QbC _ _ hx4)⟩ ?_
 cases h
 exact AK.done (ex_ [_] (an_ (an_ rfl tt_) (gives ⟨rfl,rfl,tt_⟩)))
def QdE (v1:(List Int))(v2:Int)(v3:Int):Option Bool:=
 (chk (decide (0≤v2)&&decide (0≤v2.toNat)&&decide (v2.toNat≤v1.length))).bind fun _=>
 (QaG ((v1.drop 0).take (v2.toNat-0)) v3).bind fun x6=>
 some (!x6)
theorem Qny (v1:(List Int))(v2:Int)(v3:Int){r:Bool}(h:QdE v1 v2 v3=some r):Qc Tryz.prog 230 [.loc 200000 0 0,.loc 200001 0 0,.loc 200002 0 0] [(200000,.var (Qx v1)),(200001,.var (Qe v2)),(200002,.var (Qe v3))] (Gives (.b r) [(200000,.var (Qx v1)),(200001,.var (Qe v2)),(200002,.var (Qe v3))]):=by
 refine Qc.walk 10 Tryz.func230 rfl Tryz.ntmps230 rfl fun C hC=>?_
 unfold QdE at h
 obtain⟨_,hk5,h⟩:=Qb h
 replace hk5:=chkE hk5
 obtain⟨x6,hx6,h⟩:=Qb h
 refine Qa hC [.n 6,.keep [0,1,2,3] [200000,200001,200002]] rfl tt_ ?_
 refine AK.draw2 Qo hC mixed [.a .no none false,.a .no none false,.a (.any (.sl 1 (((v1.drop 0).take (v2.toNat-0)).map Qe)) none) none false,.a .no none false,.a (.c false [.d,.d] (.b x6)) none false,.a .no none false,.m .s] [] [] [3] [200000,200001,200002] rfl rfl rfl ⟨⟨tt_,(fun σ h1 h2 _=>Stp.sliceD rfl rfl (bleN hC.n rfl) (h1 _ _ rfl) (Qo.es rfl) Bnd.no (Bnd.val (h1 _ _ rfl) (of_decide_eq_true (Qpa hk5)) rfl) (of_decide_eq_true (Qpb hk5)) (Nat.le_trans (of_decide_eq_true (Qpc hk5)) (Nat.le_of_eq Qf.symm)) Qrq)⟩,(Qg3 _ _ hx6)⟩ rfl (by kernel_rfl) rfl rfl rfl ?_
 refine Qa hC [.n 2,.keep [3] [200000,200001,200002]] rfl tt_ ?_
 cases h
 exact AK.done (ex_ [_] (an_ (an_ rfl tt_) (gives ⟨rfl,rfl,rfl,tt_⟩)))
def QfP (v1:TNet)(v2:Int)(v3:Int)(v4:(List Int))(v5:Int)(v6:Int):Option Int:=
 (QdD v1 v2).bind fun x9=>
 bif (!x9)then
 some v3
 else
 (QdE v4 v5 v2).bind fun x11=>
 bif (!x11)then
 some v6
 else
 some 0
theorem QoR (v1:TNet)(v2:Int)(v3:Int)(v4:(List Int))(v5:Int)(v6:Int){r:Int}(h:QfP v1 v2 v3 v4 v5 v6=some r):Qc Tryz.prog 98 [.own 200000 2] [(200000,.var [.clo (.func 229) [] [.loc 200001 0 0,.loc 200002 0 0],.i .i64 v3,.clo (.func 230) [] [.loc 200003 0 0,.loc 200004 0 0,.loc 200002 0 0],.i .i64 v6]),(200001,.var (Qd v1)),(200002,.var (Qe v2)),(200003,.var (Qx v4)),(200004,.var (Qe v5))] (Gives (.i .i64 r) [(200000,.var [.clo (.func 229) [] [.loc 200001 0 0,.loc 200002 0 0],.i .i64 v3,.clo (.func 230) [] [.loc 200003 0 0,.loc 200004 0 0,.loc 200002 0 0],.i .i64 v6]),(200001,.var (Qd v1)),(200002,.var (Qe v2)),(200003,.var (Qx v4)),(200004,.var (Qe v5))]):=by
 refine Qc.walk 18 Tryz.func98 rfl Tryz.ntmps98 rfl fun C hC=>?_
 unfold QfP at h
 refine Qa hC [.n 14] rfl tt_ ?_
 refine AK.loopN 3 (AK.rnd ?_)
 obtain⟨x9,hx9,h⟩:=Qb h
 refine Qa hC [.n 2,.v .no [] (.b true),.n 10,.o (.any (.loc 200000 0 0) none),.n 3,.sayO 4 (.var [.clo (.func 229) [] [.loc 200001 0 0,.loc 200002 0 0],.i .i64 v3]),.n 6,.cm (.clo) [(200000,200001),(200001,200002)] [(200001,200000),(200002,200001)] [] [.d,.d] [(200000,.var (Qd v1)),(200001,.var (Qe v2))] (.b x9),.n 3] rfl ⟨⟨⟨⟨tt_,rfl⟩,(fun σ h1 h2 _=>Stp.idxV rfl rfl (bleN hC.n rfl) (h1 _ _ rfl) (h1 _ _ rfl) (Qo.es rfl) (h2 _ _ rfl) (by decide))⟩,rfl⟩,(Qnx _ _ hx9)⟩ ?_
 rcases bifE h with⟨hc10,h⟩|⟨hc10,h⟩
 ·refine Qa hC [.br true,.n 13,.keep [2] [200000,200001,200002,200003,200004]] rfl ⟨tt_,hc10⟩ ?_
  cases h
  exact AK.done (ex_ [_] (an_ (an_ rfl tt_) (gives ⟨rfl,rfl,rfl,rfl,rfl,tt_⟩)))
 ·refine Qa hC [.br false,.n 4,.v .no [] (.i .i64 1),.n 2] rfl ⟨⟨tt_,hc10⟩,rfl⟩ ?_
  refine AK.met (AK.rnd ?_)
  obtain⟨x11,hx11,h⟩:=Qb h
  refine Qa hC [.n 2,.v .no [] (.b true),.n 10,.o (.any (.loc 200000 0 2) none),.n 1,.kill 4,.n 2,.sayO 4 (.var [.clo (.func 230) [] [.loc 200003 0 0,.loc 200004 0 0,.loc 200002 0 0],.i .i64 v6]),.n 6,.cm (.clo) [(200000,200003),(200001,200004),(200002,200002)] [(200003,200000),(200004,200001),(200002,200002)] [] [.d,.d,.d] [(200000,.var (Qx v4)),(200001,.var (Qe v5)),(200002,.var (Qe v2))] (.b x11),.n 3] rfl ⟨⟨⟨⟨tt_,rfl⟩,(fun σ h1 h2 _=>Stp.idxV rfl rfl (bleN hC.n rfl) (h1 _ _ rfl) (h1 _ _ rfl) (Qo.es rfl) (h2 _ _ rfl) (by decide))⟩,rfl⟩,(Qny _ _ _ hx11)⟩ ?_
  rcases bifE h with⟨hc12,h⟩|⟨hc12,h⟩
  ·refine Qa hC [.br true,.n 13,.keep [2] [200000,200001,200002,200003,200004]] rfl ⟨tt_,hc12⟩ ?_
   cases h
   exact AK.done (ex_ [_] (an_ (an_ rfl tt_) (gives ⟨rfl,rfl,rfl,rfl,rfl,tt_⟩)))
  ·refine Qa hC [.br false,.n 4,.v .no [] (.i .i64 2),.n 2] rfl ⟨⟨tt_,hc12⟩,rfl⟩ ?_
   refine AK.met (AK.rnd ?_)
   refine Qa hC [.n 2,.v .no [] (.b false),.n 15,.keep [2] [200000,200001,200002,200003,200004]] rfl ⟨tt_,rfl⟩ ?_
   cases h
   exact AK.done (ex_ [_] (an_ (an_ rfl tt_) (gives ⟨rfl,rfl,rfl,rfl,rfl,tt_⟩)))
def QeR (k1:Int)(place2:Int)(v3:TNet)(v4:(List Int)):Option Int:=
 (QfP v3 place2 3 v4 k1 5).bind fun x6=>
 some x6
theorem Qou (k1:Int)(place2:Int)(v3:TNet)(v4:(List Int)){r:Int}(h:QeR k1 place2 v3 v4=some r):Qc Tryz.prog 228 [.i .i64 k1,.i .i64 place2,.loc 200000 0 0,.loc 200001 0 0] [(200000,.var (Qd v3)),(200001,.var (Qx v4))] (Gives (.i .i64 r) [(200000,.var (Qd v3)),(200001,.var (Qx v4))]):=by
 refine Qc.walk 13 Tryz.func228 rfl Tryz.ntmps228 rfl fun C hC=>?_
 unfold QeR at h
 obtain⟨x6,hx6,h⟩:=Qb h
 refine Qa hC [.n 10,.v .no [] (.agg [.clo (.func 229) [] [.loc 200000 0 0,.loc 5 0 0],.i .i64 3]),.n 1,.v .no [] (.agg [.clo (.func 230) [] [.loc 200001 0 0,.loc 4 0 0,.loc 5 0 0],.i .i64 5]),.o (.any (.own 11 2) (some (.var [.clo (.func 229) [] [.loc 200000 0 0,.loc 5 0 0],.i .i64 3,.clo (.func 230) [] [.loc 200001 0 0,.loc 4 0 0,.loc 5 0 0],.i .i64 5]))),.cm (.fn) [(200000,11),(200001,200000),(200002,5),(200003,200001),(200004,4)] [(11,200000),(200000,200001),(5,200002),(200001,200003),(4,200004)] [] [.d] [(200000,.var [.clo (.func 229) [] [.loc 200001 0 0,.loc 200002 0 0],.i .i64 3,.clo (.func 230) [] [.loc 200003 0 0,.loc 200004 0 0,.loc 200002 0 0],.i .i64 5]),(200001,.var (Qd v3)),(200002,.var (Qe place2)),(200003,.var (Qx v4)),(200004,.var (Qe k1))] (.i .i64 x6),.n 4,.keep [6] [200000,200001]] rfl ⟨⟨⟨⟨tt_,rfl⟩,rfl⟩,(fun σ h1 h2 hf=>Stp.buildAny rfl rfl (bleN hC.n rfl) (Qo.es rfl) QlD rfl (by decide) (by decide) (Qfl h1 rfl) rfl rfl (hf rfl))⟩,(QoR _ _ _ _ _ _ hx6)⟩ ?_
 cases h
 exact AK.done (ex_ [_] (an_ (an_ rfl tt_) (gives ⟨rfl,rfl,tt_⟩)))
def Qct (l1:(List Int))(v2:TNet)(v3:(List Int))(x8:Int):Option (Int⊕((Int×Int)⊕Unit)):=
 bif (decide (x8<(l1.length:Int)))then
 (idx l1 x8).bind fun e13=>
 (QeR x8 e13 v2 v3).bind fun x14=>
 bif (x14 != 0)then
 some (.inr (.inl (x8,x14)))
 else
 some (.inl (w64 (x8+1)))
 else
 some (.inr (.inr ()))
def QdF (x10:Int)(x11:Int):Option (Int×Int):=
 some (x10,x11)
def QdG : Option (Int×Int):=
 some (0,0)
def QfQ (l1:(List Int))(v2:TNet)(v3:(List Int)):Option (Int×Int):=
 (QC (fun st=>Qct l1 v2 v3 st) 0).bind (Sum.elim (fun q=>QdF q.1 q.2) (fun q=>QdG))
theorem QoS (l1:(List Int))(v2:TNet)(v3:(List Int)){r:(Int×Int)}(h:QfQ l1 v2 v3=some r):Qc Tryz.prog 227 [.sl 1 (l1.map Qe),.clo (.func 228) [] [.loc 200000 0 0,.loc 200001 0 0]] [(200000,.var (Qd v2)),(200001,.var (Qx v3))] (Gives (.tup [.i .i64 r.1,.i .i64 r.2]) [(200000,.var (Qd v2)),(200001,.var (Qx v3))]):=by
 refine Qc.walk 25 Tryz.func227 rfl Tryz.ntmps227 rfl fun C hC=>?_
 unfold QfQ at h
 refine Qa hC [.n 10,.o (.ln l1.length),.n 4,.keep [1,9,10,11] [200000,200001]] rfl ⟨tt_,Qf⟩ ?_
 obtain⟨o16,hl16,h⟩:=Qb h
 refine AK.loop (body:=(fun st=>Qct l1 v2 v3 st)) (fun st σ=>σ=⟨[(1,.clo (.func 228) [] [.loc 200000 0 0,.loc 200001 0 0]),(9,.sl 1 (l1.map Qe)),(10,.i .i64 (l1.length:Int)),(11,.i .i64 st)],[(200000,.var (Qd v2)),(200001,.var (Qx v3))]⟩) (Sum.elim (fun q e σ=>e=.ret∧σ=⟨[(4,.i .i64 q.1),(5,.i .i64 q.2)],[(200000,.var (Qd v2)),(200001,.var (Qx v3))]⟩) (fun q e σ=>e=.exit 0∧σ=⟨[],[(200000,.var (Qd v2)),(200001,.var (Qx v3))]⟩)) hl16 rfl ?_ ?_
 ·rintro x8 o σ rfl h
  replace h:Qct l1 v2 v3 x8=some o:=h
  unfold Qct at h
  refine Qa hC [.n 6] rfl tt_ ?_
  rcases bifE h with⟨hc12,h⟩|⟨hc12,h⟩
  ·obtain⟨e13,he13,h⟩:=Qb h
   obtain⟨x14,hx14,h⟩:=Qb h
   refine Qa hC [.br true,.n 7,.o (.row (Qe e13)),.n 10,.cm (.clo) [(200000,200000),(200001,200001)] [(200000,200000),(200001,200001)] [] [.d,.d,.d,.d] [(200000,.var (Qd v2)),(200001,.var (Qx v3))] (.i .i64 x14),.n 9] rfl ⟨⟨⟨tt_,hc12⟩,(idxM he13)⟩,(Qou _ _ _ _ hx14)⟩ ?_
   rcases bifE h with⟨hc15,h⟩|⟨hc15,h⟩
   ·refine Qa hC [.br true,.n 11,.keep [4,5] [200000,200001]] rfl ⟨tt_,hc15⟩ ?_
    cases h
    exact rndR rfl (an_ rfl rfl)
   ·refine Qa hC [.br false,.n 7,.keep [1,9,10,11] [200000,200001]] rfl ⟨tt_,hc15⟩ ?_
    cases h
    exact rndN rfl rfl
  ·refine Qa hC [.br false,.n 2,.keep [] [200000,200001]] rfl ⟨tt_,hc12⟩ ?_
   cases h
   exact rndX rfl (an_ rfl rfl)
 ·rcases o16 with(⟨x10,x11⟩|_)
  ·replace h:QdF x10 x11=some r:=h
   unfold QdF at h
   rintro e σ ⟨rfl,rfl⟩
   refine Qa hC [.n 2,.keep [4,5] [200000,200001]] rfl tt_ ?_
   cases h
   exact AK.done (ex_ [_,_] (an_ (an_ rfl (an_ rfl tt_)) (gives ⟨rfl,rfl,tt_⟩)))
  ·replace h:QdG=some r:=h
   unfold QdG at h
   rintro e σ ⟨rfl,rfl⟩
   refine Qa hC [.n 9,.keep [4,5] [200000,200001]] rfl tt_ ?_
   cases h
   exact AK.done (ex_ [_,_] (an_ (an_ rfl (an_ rfl tt_)) (gives ⟨rfl,rfl,tt_⟩)))
def Qgu (n1:TNet)(l2:(List Int)):Option Int:=
 (QfQ l2 n1 l2).bind fun x4=>
 some x4.2
theorem Qpu (n1:TNet)(l2:(List Int)){r:Int}(h:Qgu n1 l2=some r):Qc Tryz.prog 181 [.agg (Qd n1),.sl 1 (l2.map Qe)] [] (Gives (.i .i64 r) []):=by
 refine Qc.walk 14 Tryz.func181 rfl Tryz.ntmps181 rfl fun C hC=>?_
 unfold Qgu at h
 obtain⟨x4,hx4,h⟩:=Qb h
 refine Qa hC [.n 11,.cm (.fn) [(200000,2),(200001,3)] [(2,200000),(3,200001)] [] [.d,.d] [(200000,.var (Qd n1)),(200001,.var (Qx l2))] (.tup [.i .i64 x4.1,.i .i64 x4.2]),.n 14,.keep [4] []] rfl ⟨tt_,(QoS _ _ _ hx4)⟩ ?_
 cases h
 exact AK.done (ex_ [_] (an_ (an_ rfl tt_) (gives tt_)))
def Qgv (v1:TNet)(v2:Qr):Option Int:=
 (Qgu v1 v2.Cancel).bind fun x4=>
 some x4
theorem Qpv (v1:TNet)(v2:Qr){r:Int}(h:Qgv v1 v2=some r):Qc Tryz.prog 180 [.loc 200000 0 0,.loc 200001 0 0] [(200000,.var (Qd v1)),(200001,.var (Qh v2))] (Gives (.i .i64 r) [(200000,.var (Qd v1)),(200001,.var (Qh v2))]):=by
 refine Qc.walk 7 Tryz.func180 rfl Tryz.ntmps180 rfl fun C hC=>?_
 unfold Qgv at h
 obtain⟨x4,hx4,h⟩:=Qb h
 refine Qa hC [.n 7,.v .no [] (.agg (Qd v1)),.n 2,.o (.c false [.d,.d] (.i .i64 x4)),.n 4,.keep [2] [200000,200001]] rfl ⟨⟨tt_,rfl⟩,(Qpu _ _ hx4)⟩ ?_
 cases h
 exact AK.done (ex_ [_] (an_ (an_ rfl tt_) (gives ⟨rfl,rfl,tt_⟩)))
def Qeb (v1:TNet)(v2:Qr)(v3:Int):Option (Bool×Int):=
 (Qgv v1 v2).bind fun x6=>
 some ((x6==0),x6)
theorem QnM (v1:TNet)(v2:Qr)(v3:Int){r:(Bool×Int)}(h:Qeb v1 v2 v3=some r):Qc Tryz.prog 215 [.loc 200000 0 0,.loc 200003 0 0] [(200000,.var [.clo (.func 180) [] [.loc 200001 0 0,.loc 200002 0 0]]),(200001,.var (Qd v1)),(200002,.var (Qh v2)),(200003,.var [.loc 200004 0 0]),(200004,.var (Qe v3))] (Gives (.b r.1) [(200000,.var [.clo (.func 180) [] [.loc 200001 0 0,.loc 200002 0 0]]),(200001,.var (Qd v1)),(200002,.var (Qh v2)),(200003,.var [.loc 200004 0 0]),(200004,.var (Qe r.2))]):=by
 refine Qc.walk 11 Tryz.func215 rfl Tryz.ntmps215 rfl fun C hC=>?_
 unfold Qeb at h
 obtain⟨x6,hx6,h⟩:=Qb h
 refine Qa hC [.n 6,.keep [0,1] [200000,200001,200002,200003,200004]] rfl tt_ ?_
 refine AK.draw2 Qo hC mixed [.a .no none false,.a .no none false,.a (.any (.i .i64 x6) none) none false,.a .no none false,.m .s] [] [] [1] [200000,200001,200002,200003,200004] rfl rfl rfl ⟨tt_,(fun σ h1 h2 _=>Stp.callSame (md:=.cm (.clo) [(200000,200001),(200001,200002)] [(200001,200000),(200002,200001)] [] [.d,.d] [(200000,.var (Qd v1)),(200001,.var (Qh v2))] (.i .i64 x6) [200001,200002]) Qo hC h1 h2 rfl ⟨⟨tt_,(Qpv _ _ hx6)⟩,⟨rfl,rfl,tt_⟩⟩)⟩ rfl (by kernel_rfl) rfl rfl rfl ?_
 refine Qa hC [.sayO 200004 (.var (Qe x6)),.n 11,.keep [2] [200000,200001,200002,200003,200004]] rfl ⟨tt_,rfl⟩ ?_
 cases h
 exact AK.done (ex_ [_] (an_ (an_ rfl tt_) (gives ⟨rfl,rfl,rfl,rfl,rfl,tt_⟩)))
def Qen (k1:Int)(l2:(List TArc)):Option Bool:=
 some ((decide (1≤k1))&&((decide (k1≤3))&&((k1 != 3)||(decide ((l2.length:Int)≤4)))))
theorem QlI (k1:Int)(l2:(List TArc)){r:Bool}(h:Qen k1 l2=some r):Qc Tryz.prog 231 [.i .i64 k1,.sl 4 (l2.map QF)] [] (Gives (.b r) []):=by
 refine Qc.walk 20 Tryz.func231 rfl Tryz.ntmps231 rfl fun C hC=>?_
 unfold Qen at h
 refine Qa hC [.n 6] rfl tt_ ?_
 refine AK.meetX (fun σ=>σ=⟨[(4,.b ((decide (1≤k1))&&((decide (k1≤3))&&((k1 != 3)||(decide ((l2.length:Int)≤4))))))],[]⟩) ?_ ?_
 ·refine Qa hC [.n 4] rfl tt_ ?_
  rcases QJ (decide (1≤k1))with hc5 | hc5
  ·refine Qa hC [.say 7 (.b true),.n 4] rfl ⟨tt_,(congrArg V.b hc5)⟩ ?_
   rcases QJ (decide (k1≤3))with hc6 | hc6
   ·refine Qa hC [.say 11 (.b true),.n 3] rfl ⟨tt_,(congrArg V.b hc6)⟩ ?_
    rcases QJ (k1 != 3)with hc7 | hc7
    ·refine Qa hC [.say 14 (.b true),.n 7,.say 4 (.b ((decide (1≤k1))&&((decide (k1≤3))&&((k1 != 3)||(decide ((l2.length:Int)≤4)))))),.keep [4] []] rfl ⟨⟨tt_,(congrArg V.b hc7)⟩,(congrArg V.b (andT hc5 (andT hc6 (orT hc7 rfl))))⟩ ?_
     exact AK.met rfl
    ·refine Qa hC [.say 14 (.b false),.n 1,.o (.ln l2.length),.n 5,.say 4 (.b ((decide (1≤k1))&&((decide (k1≤3))&&((k1 != 3)||(decide ((l2.length:Int)≤4)))))),.keep [4] []] rfl ⟨⟨⟨tt_,(congrArg V.b hc7)⟩,Qf⟩,(congrArg V.b (andT hc5 (andT hc6 (orF hc7 rfl))))⟩ ?_
     exact AK.met rfl
   ·refine Qa hC [.say 11 (.b false),.n 10,.say 4 (.b ((decide (1≤k1))&&((decide (k1≤3))&&((k1 != 3)||(decide ((l2.length:Int)≤4)))))),.keep [4] []] rfl ⟨⟨tt_,(congrArg V.b hc6)⟩,(congrArg V.b (andT hc5 (andF hc6 rfl)))⟩ ?_
    exact AK.met rfl
  ·refine Qa hC [.say 7 (.b false),.n 14,.say 4 (.b ((decide (1≤k1))&&((decide (k1≤3))&&((k1 != 3)||(decide ((l2.length:Int)≤4)))))),.keep [4] []] rfl ⟨⟨tt_,(congrArg V.b hc5)⟩,(congrArg V.b (andF hc5 rfl))⟩ ?_
   exact AK.met rfl
 ·rintro σ rfl
  refine Qa hC [.n 2,.keep [4] []] rfl tt_ ?_
  cases h
  exact AK.done (ex_ [_] (an_ (an_ rfl tt_) (gives tt_)))
def Qkl (t1:Qr):Option Bool:=
 (Qen t1.Join t1.Ins).bind fun x11=>
 bif x11 then
 (Qen t1.Split t1.Outs).bind fun x13=>
 bif x13 then
 bif (decide (0≤t1.After))then
 bif (decide (t1.After≤65536))then
 some (((t1.Many.1==0)&&((t1.Many.2.1==0)&&(t1.Many.2.2==0)))||((decide (1≤t1.Many.1))&&((decide (t1.Many.1≤t1.Many.2.1))&&((decide (t1.Many.2.1≤16))&&((decide (1≤t1.Many.2.2))&&(decide (t1.Many.2.2≤t1.Many.2.1)))))))
 else
 some false
 else
 some false
 else
 some false
 else
 some false
def QfR (x9:Bool):Option Bool:=
 some x9
def Qh1 (t1:Qr):Option Bool:=
 (Qkl t1).bind (fun x9=>QfR x9)
theorem QqV (t1:Qr){r:Bool}(h:Qh1 t1=some r):Qc Tryz.prog 183 [.agg (Qh t1)] [] (Gives (.b r) []):=by
 refine Qc.walk 70 Tryz.func183 rfl Tryz.ntmps183 rfl fun C hC=>?_
 unfold Qh1 at h
 refine Qa hC [.n 7,.keep [1] [1]] rfl tt_ ?_
 refine AK.draw2 Qo hC mixed [.a .no none false,.a .no none false,.a .no none false,.a .no none false,.a .no none false,.a .no none false,.a .no none false,.a .no none false,.a .no none false,.a .no none false,.a .no none false,.a .no none false] [] [] [1,3,4,5] [1] rfl rfl rfl tt_ rfl (by kernel_rfl) rfl rfl rfl ?_
 refine Qa hC [.n 2] rfl tt_ ?_
 refine AK.meetX (fun σ=>σ=⟨[(1,.loc 1 0 0),(6,.b (((t1.Many.1==0)&&((t1.Many.2.1==0)&&(t1.Many.2.2==0)))||((decide (1≤t1.Many.1))&&((decide (t1.Many.1≤t1.Many.2.1))&&((decide (t1.Many.2.1≤16))&&((decide (1≤t1.Many.2.2))&&(decide (t1.Many.2.2≤t1.Many.2.1))))))))],[(1,.var (Qh t1))]⟩) ?_ ?_
 ·refine Qa hC [.n 2,.v .no [] (.agg (Qr6 t1.Many)),.v .no [] (.agg (Qr6 (0,0,0))),.o (.any (.b ((t1.Many.1==0)&&((t1.Many.2.1==0)&&(t1.Many.2.2==0)))) none),.n 1] rfl ⟨⟨⟨tt_,rfl⟩,rfl⟩,(fun σ h1 h2 _=>Stp.eqAgg rfl rfl (bleN hC.n rfl) (h1 _ _ rfl) (h1 _ _ rfl) rfl rfl (QxF _ _ _ _ _ _))⟩ ?_
  rcases QJ ((t1.Many.1==0)&&((t1.Many.2.1==0)&&(t1.Many.2.2==0)))with hc4 | hc4
  ·refine Qa hC [.say 21 (.b true),.n 23,.say 6 (.b (((t1.Many.1==0)&&((t1.Many.2.1==0)&&(t1.Many.2.2==0)))||((decide (1≤t1.Many.1))&&((decide (t1.Many.1≤t1.Many.2.1))&&((decide (t1.Many.2.1≤16))&&((decide (1≤t1.Many.2.2))&&(decide (t1.Many.2.2≤t1.Many.2.1)))))))),.keep [1,6] [1]] rfl ⟨⟨tt_,(congrArg V.b hc4)⟩,(congrArg V.b (orT hc4 rfl))⟩ ?_
   exact AK.met rfl
  ·refine Qa hC [.say 21 (.b false),.n 3] rfl ⟨tt_,(congrArg V.b hc4)⟩ ?_
   rcases QJ (decide (1≤t1.Many.1))with hc5 | hc5
   ·refine Qa hC [.say 24 (.b true),.n 5] rfl ⟨tt_,(congrArg V.b hc5)⟩ ?_
    rcases QJ (decide (t1.Many.1≤t1.Many.2.1))with hc6 | hc6
    ·refine Qa hC [.say 29 (.b true),.n 4] rfl ⟨tt_,(congrArg V.b hc6)⟩ ?_
     rcases QJ (decide (t1.Many.2.1≤16))with hc7 | hc7
     ·refine Qa hC [.say 33 (.b true),.n 4] rfl ⟨tt_,(congrArg V.b hc7)⟩ ?_
      rcases QJ (decide (1≤t1.Many.2.2))with hc8 | hc8
      ·refine Qa hC [.say 37 (.b true),.n 7,.say 6 (.b (((t1.Many.1==0)&&((t1.Many.2.1==0)&&(t1.Many.2.2==0)))||((decide (1≤t1.Many.1))&&((decide (t1.Many.1≤t1.Many.2.1))&&((decide (t1.Many.2.1≤16))&&((decide (1≤t1.Many.2.2))&&(decide (t1.Many.2.2≤t1.Many.2.1)))))))),.keep [1,6] [1]] rfl ⟨⟨tt_,(congrArg V.b hc8)⟩,(congrArg V.b (orF hc4 (andT hc5 (andT hc6 (andT hc7 (andT hc8 rfl))))))⟩ ?_
       exact AK.met rfl
      ·refine Qa hC [.say 37 (.b false),.n 7,.say 6 (.b (((t1.Many.1==0)&&((t1.Many.2.1==0)&&(t1.Many.2.2==0)))||((decide (1≤t1.Many.1))&&((decide (t1.Many.1≤t1.Many.2.1))&&((decide (t1.Many.2.1≤16))&&((decide (1≤t1.Many.2.2))&&(decide (t1.Many.2.2≤t1.Many.2.1)))))))),.keep [1,6] [1]] rfl ⟨⟨tt_,(congrArg V.b hc8)⟩,(congrArg V.b (orF hc4 (andT hc5 (andT hc6 (andT hc7 (andF hc8 rfl))))))⟩ ?_
       exact AK.met rfl
     ·refine Qa hC [.say 33 (.b false),.n 11,.say 6 (.b (((t1.Many.1==0)&&((t1.Many.2.1==0)&&(t1.Many.2.2==0)))||((decide (1≤t1.Many.1))&&((decide (t1.Many.1≤t1.Many.2.1))&&((decide (t1.Many.2.1≤16))&&((decide (1≤t1.Many.2.2))&&(decide (t1.Many.2.2≤t1.Many.2.1)))))))),.keep [1,6] [1]] rfl ⟨⟨tt_,(congrArg V.b hc7)⟩,(congrArg V.b (orF hc4 (andT hc5 (andT hc6 (andF hc7 rfl)))))⟩ ?_
      exact AK.met rfl
    ·refine Qa hC [.say 29 (.b false),.n 15,.say 6 (.b (((t1.Many.1==0)&&((t1.Many.2.1==0)&&(t1.Many.2.2==0)))||((decide (1≤t1.Many.1))&&((decide (t1.Many.1≤t1.Many.2.1))&&((decide (t1.Many.2.1≤16))&&((decide (1≤t1.Many.2.2))&&(decide (t1.Many.2.2≤t1.Many.2.1)))))))),.keep [1,6] [1]] rfl ⟨⟨tt_,(congrArg V.b hc6)⟩,(congrArg V.b (orF hc4 (andT hc5 (andF hc6 rfl))))⟩ ?_
     exact AK.met rfl
   ·refine Qa hC [.say 24 (.b false),.n 20,.say 6 (.b (((t1.Many.1==0)&&((t1.Many.2.1==0)&&(t1.Many.2.2==0)))||((decide (1≤t1.Many.1))&&((decide (t1.Many.1≤t1.Many.2.1))&&((decide (t1.Many.2.1≤16))&&((decide (1≤t1.Many.2.2))&&(decide (t1.Many.2.2≤t1.Many.2.1)))))))),.keep [1,6] [1]] rfl ⟨⟨tt_,(congrArg V.b hc5)⟩,(congrArg V.b (orF hc4 (andF hc5 rfl)))⟩ ?_
    exact AK.met rfl
 ·rintro σ rfl
  refine Qa hC [.n 7] rfl tt_ ?_
  obtain⟨x9,hv10,h⟩:=Qb h
  replace h:QfR x9=some r:=h
  refine AK.meetX (fun σ=>σ=⟨[(2,.b x9)],[]⟩) ?_ ?_
  ·replace h:=hv10
   unfold Qkl at h
   obtain⟨x11,hx11,h⟩:=Qb h
   refine Qa hC [.n 6,.o (.c false [.d,.d] (.b x11)),.n 1] rfl ⟨tt_,(QlI _ _ hx11)⟩ ?_
   rcases bifE h with⟨hc12,h⟩|⟨hc12,h⟩
   ·obtain⟨x13,hx13,h⟩:=Qb h
    refine Qa hC [.say 49 (.b true),.n 5,.o (.c false [.d,.d] (.b x13)),.n 2] rfl ⟨⟨tt_,(congrArg V.b hc12)⟩,(QlI _ _ hx13)⟩ ?_
    rcases bifE h with⟨hc14,h⟩|⟨hc14,h⟩
    ·refine Qa hC [.say 57 (.b true),.n 5] rfl ⟨tt_,(congrArg V.b hc14)⟩ ?_
     rcases bifE h with⟨hc15,h⟩|⟨hc15,h⟩
     ·refine Qa hC [.say 62 (.b true),.n 5] rfl ⟨tt_,(congrArg V.b hc15)⟩ ?_
      rcases bifE h with⟨hc16,h⟩|⟨hc16,h⟩
      ·refine Qa hC [.say 67 (.b true),.n 4,.keep [2] []] rfl ⟨tt_,(congrArg V.b hc16)⟩ ?_
       cases h
       exact AK.met rfl
      ·refine Qa hC [.say 67 (.b false),.n 4,.keep [2] []] rfl ⟨tt_,(congrArg V.b hc16)⟩ ?_
       cases h
       exact AK.met rfl
     ·refine Qa hC [.say 62 (.b false),.n 9,.keep [2] []] rfl ⟨tt_,(congrArg V.b hc15)⟩ ?_
      cases h
      exact AK.met rfl
    ·refine Qa hC [.say 57 (.b false),.n 14,.keep [2] []] rfl ⟨tt_,(congrArg V.b hc14)⟩ ?_
     cases h
     exact AK.met rfl
   ·refine Qa hC [.say 49 (.b false),.n 22,.keep [2] []] rfl ⟨tt_,(congrArg V.b hc12)⟩ ?_
    cases h
    exact AK.met rfl
  ·rintro σ rfl
   replace h:QfR x9=some r:=h
   unfold QfR at h
   refine Qa hC [.n 2,.keep [2] []] rfl tt_ ?_
   cases h
   exact AK.done (ex_ [_] (an_ (an_ rfl tt_) (gives tt_)))
def Qgw (v1:Qr):Option Bool:=
 (Qh1 v1).bind fun x3=>
 some x3
theorem Qpw (v1:Qr){r:Bool}(h:Qgw v1=some r):Qc Tryz.prog 182 [.loc 200000 0 0] [(200000,.var (Qh v1))] (Gives (.b r) [(200000,.var (Qh v1))]):=by
 refine Qc.walk 4 Tryz.func182 rfl Tryz.ntmps182 rfl fun C hC=>?_
 unfold Qgw at h
 obtain⟨x3,hx3,h⟩:=Qb h
 refine Qa hC [.n 7,.v .no [] (.agg (Qh v1)),.o (.c false [.d] (.b x3)),.n 4,.keep [1] [200000]] rfl ⟨⟨tt_,rfl⟩,(QqV _ hx3)⟩ ?_
 cases h
 exact AK.done (ex_ [_] (an_ (an_ rfl tt_) (gives ⟨rfl,tt_⟩)))
def QcQ (v1:Qr)(v2:Int)(v3:TNet)(v4:Int)(v5:Int)(v6:Int)(v7:Int)(v8:Int)(v9:Int)(v10:Int)(v11:Int)(v12:Int)(v13:Int)(v14:Int)(v15:Int):Option (Int×Int):=
 (Qg9 v1).bind fun x20=>
 bif (!x20)then
 some (v2,v8)
 else
 (Qhc v3 v4 v1).bind fun x22=>
 bif (!x22)then
 some (v5,v8)
 else
 (Qfh v6 v1).bind fun x24=>
 bif (!x24)then
 some (v7,v8)
 else
 (Qem v3 v1 v8).bind fun x26=>
 bif (!x26.1)then
 some (v9,x26.2)
 else
 (Qfi v3 v4).bind fun x28=>
 bif (!x28)then
 some (v10,x26.2)
 else
 (Qhe v1 v6).bind fun x30=>
 bif (!x30)then
 some (v11,x26.2)
 else
 (Qd9 v3 v1 v6 x26.2).bind fun x32=>
 bif (!x32.1)then
 some (v12,x32.2)
 else
 (Qea v3 v1 v6 x32.2).bind fun x34=>
 bif (!x34.1)then
 some (v13,x34.2)
 else
 (Qeb v3 v1 x34.2).bind fun x36=>
 bif (!x36.1)then
 some (v14,x36.2)
 else
 (Qgw v1).bind fun x38=>
 bif (!x38)then
 some (v15,x36.2)
 else
 some (0,x36.2)
theorem QoT (v1:Qr)(v2:Int)(v3:TNet)(v4:Int)(v5:Int)(v6:Int)(v7:Int)(v8:Int)(v9:Int)(v10:Int)(v11:Int)(v12:Int)(v13:Int)(v14:Int)(v15:Int){r:(Int×Int)}(h:QcQ v1 v2 v3 v4 v5 v6 v7 v8 v9 v10 v11 v12 v13 v14 v15=some r):Qc Tryz.prog 98 [.own 200000 10] [(200000,.var [.clo (.func 168) [] [.loc 200001 0 0],.i .i64 v2,.clo (.func 169) [] [.loc 200002 0 0,.loc 200003 0 0,.loc 200004 0 0],.i .i64 v5,.clo (.func 171) [] [.loc 200005 0 0,.loc 200001 0 0],.i .i64 v7,.clo (.func 215) [] [.loc 200006 0 0,.loc 200007 0 0],.i .i64 v9,.clo (.func 175) [] [.loc 200002 0 0,.loc 200003 0 0],.i .i64 v10,.clo (.func 176) [] [.loc 200001 0 0,.loc 200005 0 0],.i .i64 v11,.clo (.func 215) [] [.loc 200009 0 0,.loc 200010 0 0],.i .i64 v12,.clo (.func 215) [] [.loc 200011 0 0,.loc 200012 0 0],.i .i64 v13,.clo (.func 215) [] [.loc 200013 0 0,.loc 200014 0 0],.i .i64 v14,.clo (.func 182) [] [.loc 200001 0 0],.i .i64 v15]),(200001,.var (Qh v1)),(200002,.var (Qd v3)),(200003,.var (Qe v4)),(200004,.var [.clo (.func 167) [] [.loc 200001 0 0]]),(200005,.var (Qe v6)),(200006,.var [.clo (.func 173) [] [.loc 200002 0 0,.loc 200001 0 0]]),(200007,.var [.loc 200008 0 0]),(200008,.var (Qe v8)),(200009,.var [.clo (.func 177) [] [.loc 200002 0 0,.loc 200001 0 0,.loc 200005 0 0]]),(200010,.var [.loc 200008 0 0]),(200011,.var [.clo (.func 179) [] [.loc 200002 0 0,.loc 200001 0 0,.loc 200005 0 0]]),(200012,.var [.loc 200008 0 0]),(200013,.var [.clo (.func 180) [] [.loc 200002 0 0,.loc 200001 0 0]]),(200014,.var [.loc 200008 0 0])] (Gives (.i .i64 r.1) [(200000,.var [.clo (.func 168) [] [.loc 200001 0 0],.i .i64 v2,.clo (.func 169) [] [.loc 200002 0 0,.loc 200003 0 0,.loc 200004 0 0],.i .i64 v5,.clo (.func 171) [] [.loc 200005 0 0,.loc 200001 0 0],.i .i64 v7,.clo (.func 215) [] [.loc 200006 0 0,.loc 200007 0 0],.i .i64 v9,.clo (.func 175) [] [.loc 200002 0 0,.loc 200003 0 0],.i .i64 v10,.clo (.func 176) [] [.loc 200001 0 0,.loc 200005 0 0],.i .i64 v11,.clo (.func 215) [] [.loc 200009 0 0,.loc 200010 0 0],.i .i64 v12,.clo (.func 215) [] [.loc 200011 0 0,.loc 200012 0 0],.i .i64 v13,.clo (.func 215) [] [.loc 200013 0 0,.loc 200014 0 0],.i .i64 v14,.clo (.func 182) [] [.loc 200001 0 0],.i .i64 v15]),(200001,.var (Qh v1)),(200002,.var (Qd v3)),(200003,.var (Qe v4)),(200004,.var [.clo (.func 167) [] [.loc 200001 0 0]]),(200005,.var (Qe v6)),(200006,.var [.clo (.func 173) [] [.loc 200002 0 0,.loc 200001 0 0]]),(200007,.var [.loc 200008 0 0]),(200008,.var (Qe r.2)),(200009,.var [.clo (.func 177) [] [.loc 200002 0 0,.loc 200001 0 0,.loc 200005 0 0]]),(200010,.var [.loc 200008 0 0]),(200011,.var [.clo (.func 179) [] [.loc 200002 0 0,.loc 200001 0 0,.loc 200005 0 0]]),(200012,.var [.loc 200008 0 0]),(200013,.var [.clo (.func 180) [] [.loc 200002 0 0,.loc 200001 0 0]]),(200014,.var [.loc 200008 0 0])]):=by
 refine Qc.walk 18 Tryz.func98 rfl Tryz.ntmps98 rfl fun C hC=>?_
 unfold QcQ at h
 refine Qa hC [.n 14] rfl tt_ ?_
 refine AK.loopN 11 (AK.rnd ?_)
 obtain⟨x20,hx20,h⟩:=Qb h
 refine Qa hC [.n 2,.v .no [] (.b true),.n 10,.o (.any (.loc 200000 0 0) none),.n 3,.sayO 4 (.var [.clo (.func 168) [] [.loc 200001 0 0],.i .i64 v2]),.n 6,.cm (.clo) [(200000,200001)] [(200001,200000)] [] [.d] [(200000,.var (Qh v1))] (.b x20),.n 3] rfl ⟨⟨⟨⟨tt_,rfl⟩,(fun σ h1 h2 _=>Stp.idxV rfl rfl (bleN hC.n rfl) (h1 _ _ rfl) (h1 _ _ rfl) (Qo.es rfl) (h2 _ _ rfl) (by decide))⟩,rfl⟩,(Qp7 _ hx20)⟩ ?_
 rcases bifE h with⟨hc21,h⟩|⟨hc21,h⟩
 ·refine Qa hC [.br true,.n 13,.keep [2] [200000,200001,200002,200003,200004,200005,200006,200007,200008,200009,200010,200011,200012,200013,200014]] rfl ⟨tt_,hc21⟩ ?_
  cases h
  exact AK.done (ex_ [_] (an_ (an_ rfl tt_) (gives ⟨rfl,rfl,rfl,rfl,rfl,rfl,rfl,rfl,rfl,rfl,rfl,rfl,rfl,rfl,rfl,tt_⟩)))
 ·refine Qa hC [.br false,.n 4,.v .no [] (.i .i64 1),.n 2] rfl ⟨⟨tt_,hc21⟩,rfl⟩ ?_
  refine AK.met (AK.rnd ?_)
  obtain⟨x22,hx22,h⟩:=Qb h
  refine Qa hC [.n 2,.v .no [] (.b true),.n 10,.o (.any (.loc 200000 0 2) none),.n 1,.kill 4,.n 2,.sayO 4 (.var [.clo (.func 169) [] [.loc 200002 0 0,.loc 200003 0 0,.loc 200004 0 0],.i .i64 v5]),.n 6,.cm (.clo) [(200000,200002),(200001,200003),(200002,200004),(200003,200001)] [(200002,200000),(200003,200001),(200004,200002),(200001,200003)] [] [.d,.d,.d] [(200000,.var (Qd v3)),(200001,.var (Qe v4)),(200002,.var [.clo (.func 167) [] [.loc 200003 0 0]]),(200003,.var (Qh v1))] (.b x22),.n 3] rfl ⟨⟨⟨⟨tt_,rfl⟩,(fun σ h1 h2 _=>Stp.idxV rfl rfl (bleN hC.n rfl) (h1 _ _ rfl) (h1 _ _ rfl) (Qo.es rfl) (h2 _ _ rfl) (by decide))⟩,rfl⟩,(Qp9 _ _ _ hx22)⟩ ?_
  rcases bifE h with⟨hc23,h⟩|⟨hc23,h⟩
  ·refine Qa hC [.br true,.n 13,.keep [2] [200000,200001,200002,200003,200004,200005,200006,200007,200008,200009,200010,200011,200012,200013,200014]] rfl ⟨tt_,hc23⟩ ?_
   cases h
   exact AK.done (ex_ [_] (an_ (an_ rfl tt_) (gives ⟨rfl,rfl,rfl,rfl,rfl,rfl,rfl,rfl,rfl,rfl,rfl,rfl,rfl,rfl,rfl,tt_⟩)))
  ·refine Qa hC [.br false,.n 4,.v .no [] (.i .i64 2),.n 2] rfl ⟨⟨tt_,hc23⟩,rfl⟩ ?_
   refine AK.met (AK.rnd ?_)
   obtain⟨x24,hx24,h⟩:=Qb h
   refine Qa hC [.n 2,.v .no [] (.b true),.n 10,.o (.any (.loc 200000 0 4) none),.n 1,.kill 4,.n 2,.sayO 4 (.var [.clo (.func 171) [] [.loc 200005 0 0,.loc 200001 0 0],.i .i64 v7]),.n 6,.cm (.clo) [(200000,200005),(200001,200001)] [(200005,200000),(200001,200001)] [] [.d,.d] [(200000,.var (Qe v6)),(200001,.var (Qh v1))] (.b x24),.n 3] rfl ⟨⟨⟨⟨tt_,rfl⟩,(fun σ h1 h2 _=>Stp.idxV rfl rfl (bleN hC.n rfl) (h1 _ _ rfl) (h1 _ _ rfl) (Qo.es rfl) (h2 _ _ rfl) (by decide))⟩,rfl⟩,(Qqa _ _ hx24)⟩ ?_
   rcases bifE h with⟨hc25,h⟩|⟨hc25,h⟩
   ·refine Qa hC [.br true,.n 13,.keep [2] [200000,200001,200002,200003,200004,200005,200006,200007,200008,200009,200010,200011,200012,200013,200014]] rfl ⟨tt_,hc25⟩ ?_
    cases h
    exact AK.done (ex_ [_] (an_ (an_ rfl tt_) (gives ⟨rfl,rfl,rfl,rfl,rfl,rfl,rfl,rfl,rfl,rfl,rfl,rfl,rfl,rfl,rfl,tt_⟩)))
   ·refine Qa hC [.br false,.n 4,.v .no [] (.i .i64 3),.n 2] rfl ⟨⟨tt_,hc25⟩,rfl⟩ ?_
    refine AK.met (AK.rnd ?_)
    obtain⟨x26,hx26,h⟩:=Qb h
    refine Qa hC [.n 2,.v .no [] (.b true),.n 10,.o (.any (.loc 200000 0 6) none),.n 1,.kill 4,.n 2,.sayO 4 (.var [.clo (.func 215) [] [.loc 200006 0 0,.loc 200007 0 0],.i .i64 v9]),.n 6,.cm (.clo) [(200000,200006),(200001,200002),(200002,200001),(200003,200007),(200004,200008)] [(200006,200000),(200002,200001),(200001,200002),(200007,200003),(200008,200004)] [] [.d,.d] [(200000,.var [.clo (.func 173) [] [.loc 200001 0 0,.loc 200002 0 0]]),(200001,.var (Qd v3)),(200002,.var (Qh v1)),(200003,.var [.loc 200004 0 0]),(200004,.var (Qe x26.2))] (.b x26.1),.n 3] rfl ⟨⟨⟨⟨tt_,rfl⟩,(fun σ h1 h2 _=>Stp.idxV rfl rfl (bleN hC.n rfl) (h1 _ _ rfl) (h1 _ _ rfl) (Qo.es rfl) (h2 _ _ rfl) (by decide))⟩,rfl⟩,(Qpt _ _ _ hx26)⟩ ?_
    rcases bifE h with⟨hc27,h⟩|⟨hc27,h⟩
    ·refine Qa hC [.br true,.n 13,.keep [2] [200000,200001,200002,200003,200004,200005,200006,200007,200008,200009,200010,200011,200012,200013,200014]] rfl ⟨tt_,hc27⟩ ?_
     cases h
     exact AK.done (ex_ [_] (an_ (an_ rfl tt_) (gives ⟨rfl,rfl,rfl,rfl,rfl,rfl,rfl,rfl,rfl,rfl,rfl,rfl,rfl,rfl,rfl,tt_⟩)))
    ·refine Qa hC [.br false,.n 4,.v .no [] (.i .i64 4),.n 2] rfl ⟨⟨tt_,hc27⟩,rfl⟩ ?_
     refine AK.met (AK.rnd ?_)
     obtain⟨x28,hx28,h⟩:=Qb h
     refine Qa hC [.n 2,.v .no [] (.b true),.n 10,.o (.any (.loc 200000 0 8) none),.n 1,.kill 4,.n 2,.sayO 4 (.var [.clo (.func 175) [] [.loc 200002 0 0,.loc 200003 0 0],.i .i64 v10]),.n 6,.cm (.clo) [(200000,200002),(200001,200003)] [(200002,200000),(200003,200001)] [] [.d,.d] [(200000,.var (Qd v3)),(200001,.var (Qe v4))] (.b x28),.n 3] rfl ⟨⟨⟨⟨tt_,rfl⟩,(fun σ h1 h2 _=>Stp.idxV rfl rfl (bleN hC.n rfl) (h1 _ _ rfl) (h1 _ _ rfl) (Qo.es rfl) (h2 _ _ rfl) (by decide))⟩,rfl⟩,(Qqc _ _ hx28)⟩ ?_
     rcases bifE h with⟨hc29,h⟩|⟨hc29,h⟩
     ·refine Qa hC [.br true,.n 13,.keep [2] [200000,200001,200002,200003,200004,200005,200006,200007,200008,200009,200010,200011,200012,200013,200014]] rfl ⟨tt_,hc29⟩ ?_
      cases h
      exact AK.done (ex_ [_] (an_ (an_ rfl tt_) (gives ⟨rfl,rfl,rfl,rfl,rfl,rfl,rfl,rfl,rfl,rfl,rfl,rfl,rfl,rfl,rfl,tt_⟩)))
     ·refine Qa hC [.br false,.n 4,.v .no [] (.i .i64 5),.n 2] rfl ⟨⟨tt_,hc29⟩,rfl⟩ ?_
      refine AK.met (AK.rnd ?_)
      obtain⟨x30,hx30,h⟩:=Qb h
      refine Qa hC [.n 2,.v .no [] (.b true),.n 10,.o (.any (.loc 200000 0 10) none),.n 1,.kill 4,.n 2,.sayO 4 (.var [.clo (.func 176) [] [.loc 200001 0 0,.loc 200005 0 0],.i .i64 v11]),.n 6,.cm (.clo) [(200000,200001),(200001,200005)] [(200001,200000),(200005,200001)] [] [.d,.d] [(200000,.var (Qh v1)),(200001,.var (Qe v6))] (.b x30),.n 3] rfl ⟨⟨⟨⟨tt_,rfl⟩,(fun σ h1 h2 _=>Stp.idxV rfl rfl (bleN hC.n rfl) (h1 _ _ rfl) (h1 _ _ rfl) (Qo.es rfl) (h2 _ _ rfl) (by decide))⟩,rfl⟩,(Qqd _ _ hx30)⟩ ?_
      rcases bifE h with⟨hc31,h⟩|⟨hc31,h⟩
      ·refine Qa hC [.br true,.n 13,.keep [2] [200000,200001,200002,200003,200004,200005,200006,200007,200008,200009,200010,200011,200012,200013,200014]] rfl ⟨tt_,hc31⟩ ?_
       cases h
       exact AK.done (ex_ [_] (an_ (an_ rfl tt_) (gives ⟨rfl,rfl,rfl,rfl,rfl,rfl,rfl,rfl,rfl,rfl,rfl,rfl,rfl,rfl,rfl,tt_⟩)))
      ·refine Qa hC [.br false,.n 4,.v .no [] (.i .i64 6),.n 2] rfl ⟨⟨tt_,hc31⟩,rfl⟩ ?_
       refine AK.met (AK.rnd ?_)
       obtain⟨x32,hx32,h⟩:=Qb h
       refine Qa hC [.n 2,.v .no [] (.b true),.n 10,.o (.any (.loc 200000 0 12) none),.n 1,.kill 4,.n 2,.sayO 4 (.var [.clo (.func 215) [] [.loc 200009 0 0,.loc 200010 0 0],.i .i64 v12]),.n 6,.cm (.clo) [(200000,200009),(200001,200002),(200002,200001),(200003,200005),(200004,200010),(200005,200008)] [(200009,200000),(200002,200001),(200001,200002),(200005,200003),(200010,200004),(200008,200005)] [] [.d,.d] [(200000,.var [.clo (.func 177) [] [.loc 200001 0 0,.loc 200002 0 0,.loc 200003 0 0]]),(200001,.var (Qd v3)),(200002,.var (Qh v1)),(200003,.var (Qe v6)),(200004,.var [.loc 200005 0 0]),(200005,.var (Qe x32.2))] (.b x32.1),.n 3] rfl ⟨⟨⟨⟨tt_,rfl⟩,(fun σ h1 h2 _=>Stp.idxV rfl rfl (bleN hC.n rfl) (h1 _ _ rfl) (h1 _ _ rfl) (Qo.es rfl) (h2 _ _ rfl) (by decide))⟩,rfl⟩,(QnK _ _ _ _ hx32)⟩ ?_
       rcases bifE h with⟨hc33,h⟩|⟨hc33,h⟩
       ·refine Qa hC [.br true,.n 13,.keep [2] [200000,200001,200002,200003,200004,200005,200006,200007,200008,200009,200010,200011,200012,200013,200014]] rfl ⟨tt_,hc33⟩ ?_
        cases h
        exact AK.done (ex_ [_] (an_ (an_ rfl tt_) (gives ⟨rfl,rfl,rfl,rfl,rfl,rfl,rfl,rfl,rfl,rfl,rfl,rfl,rfl,rfl,rfl,tt_⟩)))
       ·refine Qa hC [.br false,.n 4,.v .no [] (.i .i64 7),.n 2] rfl ⟨⟨tt_,hc33⟩,rfl⟩ ?_
        refine AK.met (AK.rnd ?_)
        obtain⟨x34,hx34,h⟩:=Qb h
        refine Qa hC [.n 2,.v .no [] (.b true),.n 10,.o (.any (.loc 200000 0 14) none),.n 1,.kill 4,.n 2,.sayO 4 (.var [.clo (.func 215) [] [.loc 200011 0 0,.loc 200012 0 0],.i .i64 v13]),.n 6,.cm (.clo) [(200000,200011),(200001,200002),(200002,200001),(200003,200005),(200004,200012),(200005,200008)] [(200011,200000),(200002,200001),(200001,200002),(200005,200003),(200012,200004),(200008,200005)] [] [.d,.d] [(200000,.var [.clo (.func 179) [] [.loc 200001 0 0,.loc 200002 0 0,.loc 200003 0 0]]),(200001,.var (Qd v3)),(200002,.var (Qh v1)),(200003,.var (Qe v6)),(200004,.var [.loc 200005 0 0]),(200005,.var (Qe x34.2))] (.b x34.1),.n 3] rfl ⟨⟨⟨⟨tt_,rfl⟩,(fun σ h1 h2 _=>Stp.idxV rfl rfl (bleN hC.n rfl) (h1 _ _ rfl) (h1 _ _ rfl) (Qo.es rfl) (h2 _ _ rfl) (by decide))⟩,rfl⟩,(QnL _ _ _ _ hx34)⟩ ?_
        rcases bifE h with⟨hc35,h⟩|⟨hc35,h⟩
        ·refine Qa hC [.br true,.n 13,.keep [2] [200000,200001,200002,200003,200004,200005,200006,200007,200008,200009,200010,200011,200012,200013,200014]] rfl ⟨tt_,hc35⟩ ?_
         cases h
         exact AK.done (ex_ [_] (an_ (an_ rfl tt_) (gives ⟨rfl,rfl,rfl,rfl,rfl,rfl,rfl,rfl,rfl,rfl,rfl,rfl,rfl,rfl,rfl,tt_⟩)))
        ·refine Qa hC [.br false,.n 4,.v .no [] (.i .i64 8),.n 2] rfl ⟨⟨tt_,hc35⟩,rfl⟩ ?_
         refine AK.met (AK.rnd ?_)
         obtain⟨x36,hx36,h⟩:=Qb h
         refine Qa hC [.n 2,.v .no [] (.b true),.n 10,.o (.any (.loc 200000 0 16) none),.n 1,.kill 4,.n 2,.sayO 4 (.var [.clo (.func 215) [] [.loc 200013 0 0,.loc 200014 0 0],.i .i64 v14]),.n 6,.cm (.clo) [(200000,200013),(200001,200002),(200002,200001),(200003,200014),(200004,200008)] [(200013,200000),(200002,200001),(200001,200002),(200014,200003),(200008,200004)] [] [.d,.d] [(200000,.var [.clo (.func 180) [] [.loc 200001 0 0,.loc 200002 0 0]]),(200001,.var (Qd v3)),(200002,.var (Qh v1)),(200003,.var [.loc 200004 0 0]),(200004,.var (Qe x36.2))] (.b x36.1),.n 3] rfl ⟨⟨⟨⟨tt_,rfl⟩,(fun σ h1 h2 _=>Stp.idxV rfl rfl (bleN hC.n rfl) (h1 _ _ rfl) (h1 _ _ rfl) (Qo.es rfl) (h2 _ _ rfl) (by decide))⟩,rfl⟩,(QnM _ _ _ hx36)⟩ ?_
         rcases bifE h with⟨hc37,h⟩|⟨hc37,h⟩
         ·refine Qa hC [.br true,.n 13,.keep [2] [200000,200001,200002,200003,200004,200005,200006,200007,200008,200009,200010,200011,200012,200013,200014]] rfl ⟨tt_,hc37⟩ ?_
          cases h
          exact AK.done (ex_ [_] (an_ (an_ rfl tt_) (gives ⟨rfl,rfl,rfl,rfl,rfl,rfl,rfl,rfl,rfl,rfl,rfl,rfl,rfl,rfl,rfl,tt_⟩)))
         ·refine Qa hC [.br false,.n 4,.v .no [] (.i .i64 9),.n 2] rfl ⟨⟨tt_,hc37⟩,rfl⟩ ?_
          refine AK.met (AK.rnd ?_)
          obtain⟨x38,hx38,h⟩:=Qb h
          refine Qa hC [.n 2,.v .no [] (.b true),.n 10,.o (.any (.loc 200000 0 18) none),.n 1,.kill 4,.n 2,.sayO 4 (.var [.clo (.func 182) [] [.loc 200001 0 0],.i .i64 v15]),.n 6,.cm (.clo) [(200000,200001)] [(200001,200000)] [] [.d] [(200000,.var (Qh v1))] (.b x38),.n 3] rfl ⟨⟨⟨⟨tt_,rfl⟩,(fun σ h1 h2 _=>Stp.idxV rfl rfl (bleN hC.n rfl) (h1 _ _ rfl) (h1 _ _ rfl) (Qo.es rfl) (h2 _ _ rfl) (by decide))⟩,rfl⟩,(Qpw _ hx38)⟩ ?_
          rcases bifE h with⟨hc39,h⟩|⟨hc39,h⟩
          ·refine Qa hC [.br true,.n 13,.keep [2] [200000,200001,200002,200003,200004,200005,200006,200007,200008,200009,200010,200011,200012,200013,200014]] rfl ⟨tt_,hc39⟩ ?_
           cases h
           exact AK.done (ex_ [_] (an_ (an_ rfl tt_) (gives ⟨rfl,rfl,rfl,rfl,rfl,rfl,rfl,rfl,rfl,rfl,rfl,rfl,rfl,rfl,rfl,tt_⟩)))
          ·refine Qa hC [.br false,.n 4,.v .no [] (.i .i64 10),.n 2] rfl ⟨⟨tt_,hc39⟩,rfl⟩ ?_
           refine AK.met (AK.rnd ?_)
           refine Qa hC [.n 2,.v .no [] (.b false),.n 15,.keep [2] [200000,200001,200002,200003,200004,200005,200006,200007,200008,200009,200010,200011,200012,200013,200014]] rfl ⟨tt_,rfl⟩ ?_
           cases h
           exact AK.done (ex_ [_] (an_ (an_ rfl tt_) (gives ⟨rfl,rfl,rfl,rfl,rfl,rfl,rfl,rfl,rfl,rfl,rfl,rfl,rfl,rfl,rfl,tt_⟩)))
def Qbp (n1:TNet)(k2:Int):Option Int:=
 (QaJ n1.Tasks k2).bind fun x5=>
 bif (!x5)then
 some 3
 else
 (Qel n1).bind fun x7=>
 bif (x7.2 != 0)then
 some x7.2
 else
 (idx n1.Tasks k2).bind fun e9=>
 (idx n1.Tasks k2).bind fun e10=>
 (QhZ 0 n1 e9).bind fun x11=>
 (QfG 0 n1 e9 (e10.Vars.length:Int)).bind fun x12=>
 (QfH 0 n1 e9 (e10.Vars.length:Int)).bind fun x13=>
 (QfI 0 n1 e9).bind fun x14=>
 (QcQ e9 1 n1 k2 5 (e10.Vars.length:Int) 2 0 (-1) 2 1 (-1) (-1) (-1) 11).bind fun x15=>
 bif (x15.1==(-1))then
 some x15.2
 else
 some x15.1
theorem QrB (n1:TNet)(k2:Int){r:Int}(h:Qbp n1 k2=some r):Qc Tryz.prog 109 [.agg (Qd n1),.i .i64 k2] [] (Gives (.i .i64 r) []):=by
 refine Qc.walk 68 Tryz.func109 rfl Tryz.ntmps109 rfl fun C hC=>?_
 unfold Qbp at h
 obtain⟨x5,hx5,h⟩:=Qb h
 refine Qa hC [.n 13,.o (.c false [.d,.d] (.b x5)),.n 3] rfl ⟨tt_,(Qiu _ _ hx5)⟩ ?_
 rcases bifE h with⟨hc6,h⟩|⟨hc6,h⟩
 ·refine Qa hC [.br true,.n 7,.keep [4] []] rfl ⟨tt_,hc6⟩ ?_
  cases h
  exact AK.done (ex_ [_] (an_ (an_ rfl tt_) (gives tt_)))
 ·obtain⟨x7,hx7,h⟩:=Qb h
  refine Qa hC [.br false,.n 5,.v .no [] (.agg (Qd n1)),.o (.c false [.d] (.tup [.i .i64 x7.1,.i .i64 x7.2])),.n 13] rfl ⟨⟨⟨tt_,hc6⟩,rfl⟩,(QlH _ hx7)⟩ ?_
  rcases bifE h with⟨hc8,h⟩|⟨hc8,h⟩
  ·refine Qa hC [.br true,.n 8,.keep [4] []] rfl ⟨tt_,hc8⟩ ?_
   cases h
   exact AK.done (ex_ [_] (an_ (an_ rfl tt_) (gives tt_)))
  ·obtain⟨e9,he9,h⟩:=Qb h
   obtain⟨e10,he10,h⟩:=Qb h
   refine Qa hC [.br false,.n 3,.keep [2,3] [2,3]] rfl ⟨tt_,hc8⟩ ?_
   refine AK.draw2 Qo hC mixed [.a .no none false,.a .no none false,.a .no none false,.a (.row (Qh e9)) none false,.a .no (some ([],.agg (Qh e9))) false,.a .no none true,.a .no none true,.a .no none true,.a (.row (Qh e10)) none true,.a .no none true,.a .no none true,.a (.ln e10.Vars.length) none true,.a .no none false,.a .no none false,.m .s,.m .s] [2,3] [2,3] [2,3,7,8] [2,3,7,8] rfl rfl rfl ⟨⟨⟨⟨tt_,(idxM he9)⟩,rfl⟩,(idxM he10)⟩,Qf⟩ rfl (by kernel_rfl) rfl rfl rfl ?_
   obtain⟨x11,hx11,h⟩:=Qb h
   obtain⟨x12,hx12,h⟩:=Qb h
   obtain⟨x13,hx13,h⟩:=Qb h
   obtain⟨x14,hx14,h⟩:=Qb h
   obtain⟨x15,hx15,h⟩:=Qb h
   refine Qa hC [.sayO 7 (.var (Qh e9)),.sayO 8 (.var (Qe (e10.Vars.length:Int))),.n 6,.sayO 9 (.var [.clo (.func 167) [] [.loc 7 0 0]]),.n 10,.v .no [] (.agg [.clo (.func 168) [] [.loc 7 0 0],.i .i64 1]),.n 1,.v .no [] (.agg [.clo (.func 169) [] [.loc 2 0 0,.loc 3 0 0,.loc 9 0 0],.i .i64 5]),.n 1,.v .no [] (.agg [.clo (.func 171) [] [.loc 8 0 0,.loc 7 0 0],.i .i64 2]),.n 1,.cm (.fn) [(200000,10),(200001,2),(200002,7)] [(45,2),(50000,3),(10,200000),(2,200001),(7,200002)] [] [.d,.d] [(2,.var [.loc 200000 0 0]),(3,.var [.clo (.func 173) [] [.loc 200001 0 0,.loc 200002 0 0]]),(200000,.var (Qe 0)),(200001,.var (Qd n1)),(200002,.var (Qh e9))] (.clo (.func 215) [] [.loc 3 0 0,.loc 2 0 0]),.v .no [] (.agg [.clo (.func 215) [] [.loc 50000 0 0,.loc 45 0 0],.i .i64 (-1)]),.n 1,.v .no [] (.agg [.clo (.func 175) [] [.loc 2 0 0,.loc 3 0 0],.i .i64 2]),.n 1,.v .no [] (.agg [.clo (.func 176) [] [.loc 7 0 0,.loc 8 0 0],.i .i64 1]),.n 1,.cm (.fn) [(200000,10),(200001,2),(200002,7),(200003,8)] [(52,2),(50001,3),(10,200000),(2,200001),(7,200002),(8,200003)] [] [.d,.d] [(2,.var [.loc 200000 0 0]),(3,.var [.clo (.func 177) [] [.loc 200001 0 0,.loc 200002 0 0,.loc 200003 0 0]]),(200000,.var (Qe 0)),(200001,.var (Qd n1)),(200002,.var (Qh e9)),(200003,.var (Qe (e10.Vars.length:Int)))] (.clo (.func 215) [] [.loc 3 0 0,.loc 2 0 0]),.v .no [] (.agg [.clo (.func 215) [] [.loc 50001 0 0,.loc 52 0 0],.i .i64 (-1)]),.n 1,.cm (.fn) [(200000,10),(200001,2),(200002,7),(200003,8)] [(55,2),(50002,3),(10,200000),(2,200001),(7,200002),(8,200003)] [] [.d,.d] [(2,.var [.loc 200000 0 0]),(3,.var [.clo (.func 179) [] [.loc 200001 0 0,.loc 200002 0 0,.loc 200003 0 0]]),(200000,.var (Qe 0)),(200001,.var (Qd n1)),(200002,.var (Qh e9)),(200003,.var (Qe (e10.Vars.length:Int)))] (.clo (.func 215) [] [.loc 3 0 0,.loc 2 0 0]),.v .no [] (.agg [.clo (.func 215) [] [.loc 50002 0 0,.loc 55 0 0],.i .i64 (-1)]),.n 1,.cm (.fn) [(200000,10),(200001,2),(200002,7)] [(58,2),(50003,3),(10,200000),(2,200001),(7,200002)] [] [.d,.d] [(2,.var [.loc 200000 0 0]),(3,.var [.clo (.func 180) [] [.loc 200001 0 0,.loc 200002 0 0]]),(200000,.var (Qe 0)),(200001,.var (Qd n1)),(200002,.var (Qh e9))] (.clo (.func 215) [] [.loc 3 0 0,.loc 2 0 0]),.v .no [] (.agg [.clo (.func 215) [] [.loc 50003 0 0,.loc 58 0 0],.i .i64 (-1)]),.n 1,.v .no [] (.agg [.clo (.func 182) [] [.loc 7 0 0],.i .i64 11]),.o (.any (.own 62 10) (some (.var [.clo (.func 168) [] [.loc 7 0 0],.i .i64 1,.clo (.func 169) [] [.loc 2 0 0,.loc 3 0 0,.loc 9 0 0],.i .i64 5,.clo (.func 171) [] [.loc 8 0 0,.loc 7 0 0],.i .i64 2,.clo (.func 215) [] [.loc 50000 0 0,.loc 45 0 0],.i .i64 (-1),.clo (.func 175) [] [.loc 2 0 0,.loc 3 0 0],.i .i64 2,.clo (.func 176) [] [.loc 7 0 0,.loc 8 0 0],.i .i64 1,.clo (.func 215) [] [.loc 50001 0 0,.loc 52 0 0],.i .i64 (-1),.clo (.func 215) [] [.loc 50002 0 0,.loc 55 0 0],.i .i64 (-1),.clo (.func 215) [] [.loc 50003 0 0,.loc 58 0 0],.i .i64 (-1),.clo (.func 182) [] [.loc 7 0 0],.i .i64 11]))),.cm (.fn) [(200000,62),(200001,7),(200002,2),(200003,3),(200004,9),(200005,8),(200006,50000),(200007,45),(200008,10),(200009,50001),(200010,52),(200011,50002),(200012,55),(200013,50003),(200014,58)] [(62,200000),(7,200001),(2,200002),(3,200003),(9,200004),(8,200005),(50000,200006),(45,200007),(10,200008),(50001,200009),(52,200010),(50002,200011),(55,200012),(50003,200013),(58,200014)] [] [.d] [(200000,.var [.clo (.func 168) [] [.loc 200001 0 0],.i .i64 1,.clo (.func 169) [] [.loc 200002 0 0,.loc 200003 0 0,.loc 200004 0 0],.i .i64 5,.clo (.func 171) [] [.loc 200005 0 0,.loc 200001 0 0],.i .i64 2,.clo (.func 215) [] [.loc 200006 0 0,.loc 200007 0 0],.i .i64 (-1),.clo (.func 175) [] [.loc 200002 0 0,.loc 200003 0 0],.i .i64 2,.clo (.func 176) [] [.loc 200001 0 0,.loc 200005 0 0],.i .i64 1,.clo (.func 215) [] [.loc 200009 0 0,.loc 200010 0 0],.i .i64 (-1),.clo (.func 215) [] [.loc 200011 0 0,.loc 200012 0 0],.i .i64 (-1),.clo (.func 215) [] [.loc 200013 0 0,.loc 200014 0 0],.i .i64 (-1),.clo (.func 182) [] [.loc 200001 0 0],.i .i64 11]),(200001,.var (Qh e9)),(200002,.var (Qd n1)),(200003,.var (Qe k2)),(200004,.var [.clo (.func 167) [] [.loc 200001 0 0]]),(200005,.var (Qe (e10.Vars.length:Int))),(200006,.var [.clo (.func 173) [] [.loc 200002 0 0,.loc 200001 0 0]]),(200007,.var [.loc 200008 0 0]),(200008,.var (Qe x15.2)),(200009,.var [.clo (.func 177) [] [.loc 200002 0 0,.loc 200001 0 0,.loc 200005 0 0]]),(200010,.var [.loc 200008 0 0]),(200011,.var [.clo (.func 179) [] [.loc 200002 0 0,.loc 200001 0 0,.loc 200005 0 0]]),(200012,.var [.loc 200008 0 0]),(200013,.var [.clo (.func 180) [] [.loc 200002 0 0,.loc 200001 0 0]]),(200014,.var [.loc 200008 0 0])] (.i .i64 x15.1),.n 10] rfl ⟨⟨⟨⟨⟨⟨⟨⟨⟨⟨⟨⟨⟨⟨⟨⟨⟨⟨⟨tt_,rfl⟩,rfl⟩,rfl⟩,rfl⟩,rfl⟩,rfl⟩,(QqU _ _ _ hx11)⟩,rfl⟩,rfl⟩,rfl⟩,(QoK _ _ _ _ hx12)⟩,rfl⟩,(QoL _ _ _ _ hx13)⟩,rfl⟩,(QoM _ _ _ hx14)⟩,rfl⟩,rfl⟩,(fun σ h1 h2 hf=>Stp.buildAny rfl rfl (bleN hC.n rfl) (Qo.es rfl) QlD rfl (by decide) (by decide) (Qfl h1 rfl) rfl rfl (hf rfl))⟩,(QoT _ _ _ _ _ _ _ _ _ _ _ _ _ _ _ hx15)⟩ ?_
   rcases bifE h with⟨hc16,h⟩|⟨hc16,h⟩
   ·refine Qa hC [.br true,.n 8,.keep [4] []] rfl ⟨tt_,hc16⟩ ?_
    cases h
    exact AK.done (ex_ [_] (an_ (an_ rfl tt_) (gives tt_)))
   ·refine Qa hC [.br false,.n 9,.keep [4] []] rfl ⟨tt_,hc16⟩ ?_
    cases h
    exact AK.done (ex_ [_] (an_ (an_ rfl tt_) (gives tt_)))
def Qf9 (k1:Int)(p2:Qr)(v3:TNet):Option Int:=
 (Qbp v3 k1).bind fun x5=>
 some x5
theorem QqW (k1:Int)(p2:Qr)(v3:TNet){r:Int}(h:Qf9 k1 p2 v3=some r):Qc Tryz.prog 108 [.i .i64 k1,.agg (Qh p2),.loc 200000 0 0] [(200000,.var (Qd v3))] (Gives (.i .i64 r) [(200000,.var (Qd v3))]):=by
 refine Qc.walk 9 Tryz.func108 rfl Tryz.ntmps108 rfl fun C hC=>?_
 unfold Qf9 at h
 obtain⟨x5,hx5,h⟩:=Qb h
 refine Qa hC [.n 8,.v .no [] (.agg (Qd v3)),.n 1,.o (.c false [.d,.d] (.i .i64 x5)),.n 4,.keep [5] [200000]] rfl ⟨⟨tt_,rfl⟩,(QrB _ _ hx5)⟩ ?_
 cases h
 exact AK.done (ex_ [_] (an_ (an_ rfl tt_) (gives ⟨rfl,tt_⟩)))
def Qav (l1:(List Qr))(v2:TNet)(x7:Int):Option (Int⊕((Int×Int)⊕Unit)):=
 bif (decide (x7<(l1.length:Int)))then
 (idx l1 x7).bind fun e12=>
 (Qf9 x7 e12 v2).bind fun x13=>
 bif (x13 != 0)then
 some (.inr (.inl (x7,x13)))
 else
 some (.inl (w64 (x7+1)))
 else
 some (.inr (.inr ()))
def Qb4 (x9:Int)(x10:Int):Option (Int×Int):=
 some (x9,x10)
def Qb5 : Option (Int×Int):=
 some (0,0)
def Qbq (l1:(List Qr))(v2:TNet):Option (Int×Int):=
 (QC (fun st=>Qav l1 v2 st) 0).bind (Sum.elim (fun q=>Qb4 q.1 q.2) (fun q=>Qb5))
theorem QmP (l1:(List Qr))(v2:TNet){r:(Int×Int)}(h:Qbq l1 v2=some r):Qc Tryz.prog 107 [.sl 14 (l1.map Qh),.clo (.func 108) [] [.loc 200000 0 0]] [(200000,.var (Qd v2))] (Gives (.tup [.i .i64 r.1,.i .i64 r.2]) [(200000,.var (Qd v2))]):=by
 refine Qc.walk 25 Tryz.func107 rfl Tryz.ntmps107 rfl fun C hC=>?_
 unfold Qbq at h
 refine Qa hC [.n 10,.o (.ln l1.length),.n 4,.keep [1,9,10,11] [200000]] rfl ⟨tt_,Qf⟩ ?_
 obtain⟨o15,hl15,h⟩:=Qb h
 refine AK.loop (body:=(fun st=>Qav l1 v2 st)) (fun st σ=>σ=⟨[(1,.clo (.func 108) [] [.loc 200000 0 0]),(9,.sl 14 (l1.map Qh)),(10,.i .i64 (l1.length:Int)),(11,.i .i64 st)],[(200000,.var (Qd v2))]⟩) (Sum.elim (fun q e σ=>e=.ret∧σ=⟨[(4,.i .i64 q.1),(5,.i .i64 q.2)],[(200000,.var (Qd v2))]⟩) (fun q e σ=>e=.exit 0∧σ=⟨[],[(200000,.var (Qd v2))]⟩)) hl15 rfl ?_ ?_
 ·rintro x7 o σ rfl h
  replace h:Qav l1 v2 x7=some o:=h
  unfold Qav at h
  refine Qa hC [.n 6] rfl tt_ ?_
  rcases bifE h with⟨hc11,h⟩|⟨hc11,h⟩
  ·obtain⟨e12,he12,h⟩:=Qb h
   obtain⟨x13,hx13,h⟩:=Qb h
   refine Qa hC [.br true,.n 7,.o (.row (Qh e12)),.v .no [] (.agg (Qh e12)),.n 3,.sayO 7 (.var (Qh e12)),.n 6,.v .no [] (.agg (Qh e12)),.cm (.clo) [(200000,200000)] [(200000,200000)] [] [.d,.d,.d] [(200000,.var (Qd v2))] (.i .i64 x13),.n 9] rfl ⟨⟨⟨⟨⟨⟨tt_,hc11⟩,(idxM he12)⟩,rfl⟩,rfl⟩,rfl⟩,(QqW _ _ _ hx13)⟩ ?_
   rcases bifE h with⟨hc14,h⟩|⟨hc14,h⟩
   ·refine Qa hC [.br true,.n 11,.keep [4,5] [200000]] rfl ⟨tt_,hc14⟩ ?_
    cases h
    exact rndR rfl (an_ rfl rfl)
   ·refine Qa hC [.br false,.n 7,.keep [1,9,10,11] [200000]] rfl ⟨tt_,hc14⟩ ?_
    cases h
    exact rndN rfl rfl
  ·refine Qa hC [.br false,.n 2,.keep [] [200000]] rfl ⟨tt_,hc11⟩ ?_
   cases h
   exact rndX rfl (an_ rfl rfl)
 ·rcases o15 with(⟨x9,x10⟩|_)
  ·replace h:Qb4 x9 x10=some r:=h
   unfold Qb4 at h
   rintro e σ ⟨rfl,rfl⟩
   refine Qa hC [.n 2,.keep [4,5] [200000]] rfl tt_ ?_
   cases h
   exact AK.done (ex_ [_,_] (an_ (an_ rfl (an_ rfl tt_)) (gives ⟨rfl,tt_⟩)))
  ·replace h:Qb5=some r:=h
   unfold Qb5 at h
   rintro e σ ⟨rfl,rfl⟩
   refine Qa hC [.n 9,.keep [4,5] [200000]] rfl tt_ ?_
   cases h
   exact AK.done (ex_ [_,_] (an_ (an_ rfl (an_ rfl tt_)) (gives ⟨rfl,tt_⟩)))
def QdV (n1:TNet):Option (Int×QdQ):=
 (QhW n1 2 3 1).bind fun x6=>
 bif (x6 != 0)then
 some (x6,(QdQ.mk 1 0))
 else
 (Qel n1).bind fun x8=>
 bif (x8.2 != 0)then
 some (x8.2,(QdQ.mk 2 x8.1))
 else
 (QcA n1.Places n1).bind fun x10=>
 bif (x10.2 != 0)then
 some (x10.2,(QdQ.mk 3 x10.1))
 else
 (Qbq n1.Tasks n1).bind fun x12=>
 bif (x12.2 != 0)then
 some (x12.2,(QdQ.mk 4 x12.1))
 else
 some (0,(QdQ.mk 0 0))
theorem Qsf (n1:TNet){r:(Int×QdQ)}(h:QdV n1=some r):Qc Tryz.prog 52 [.agg (Qd n1)] [] (Gives (.tup [.agg (QcR r.2),.i .i64 r.1]) []):=by
 refine Qc.walk 58 Tryz.func52 rfl Tryz.ntmps52 rfl fun C hC=>?_
 unfold QdV at h
 obtain⟨x6,hx6,h⟩:=Qb h
 refine Qa hC [.n 10,.v .no [] (.agg [.clo (.func 99) [] [.loc 1 0 0],.i .i64 2]),.n 1,.v .no [] (.agg [.clo (.func 100) [] [.loc 1 0 0],.i .i64 3]),.n 1,.v .no [] (.agg [.clo (.func 102) [] [.loc 1 0 0],.i .i64 1]),.o (.any (.own 17 3) (some (.var [.clo (.func 99) [] [.loc 1 0 0],.i .i64 2,.clo (.func 100) [] [.loc 1 0 0],.i .i64 3,.clo (.func 102) [] [.loc 1 0 0],.i .i64 1]))),.cm (.fn) [(200000,17),(200001,1)] [(17,200000),(1,200001)] [] [.d] [(200000,.var [.clo (.func 99) [] [.loc 200001 0 0],.i .i64 2,.clo (.func 100) [] [.loc 200001 0 0],.i .i64 3,.clo (.func 102) [] [.loc 200001 0 0],.i .i64 1]),(200001,.var (Qd n1))] (.i .i64 x6),.n 10] rfl ⟨⟨⟨⟨⟨tt_,rfl⟩,rfl⟩,rfl⟩,(fun σ h1 h2 hf=>Stp.buildAny rfl rfl (bleN hC.n rfl) (Qo.es rfl) QlD rfl (by decide) (by decide) (Qfl h1 rfl) rfl rfl (hf rfl))⟩,(QqQ _ _ _ _ hx6)⟩ ?_
 rcases bifE h with⟨hc7,h⟩|⟨hc7,h⟩
 ·refine Qa hC [.br true,.n 2,.v .no [] (.agg (QcR (QdQ.mk 1 0))),.n 2,.sayO 2 (.var (QcR (QdQ.mk 1 0))),.n 5,.keep [2,3] [2]] rfl ⟨⟨⟨tt_,hc7⟩,rfl⟩,rfl⟩ ?_
  cases h
  exact AK.done (ex_ [_,_] (an_ (an_ (ex_ _ (ex_ _ (an_ rfl (an_ rfl (Or.inl (an_ (Qo.ag rfl) (an_ (Qo.sz rfl) rfl))))))) (an_ rfl tt_)) (gives tt_)))
 ·obtain⟨x8,hx8,h⟩:=Qb h
  refine Qa hC [.br false,.n 5,.v .no [] (.agg (Qd n1)),.o (.c false [.d] (.tup [.i .i64 x8.1,.i .i64 x8.2])),.n 13] rfl ⟨⟨⟨tt_,hc7⟩,rfl⟩,(QlH _ hx8)⟩ ?_
  rcases bifE h with⟨hc9,h⟩|⟨hc9,h⟩
  ·refine Qa hC [.br true,.n 3,.v .no [] (.agg (QcR (QdQ.mk 2 x8.1))),.n 2,.sayO 2 (.var (QcR (QdQ.mk 2 x8.1))),.n 5,.keep [2,3] [2]] rfl ⟨⟨⟨tt_,hc9⟩,rfl⟩,rfl⟩ ?_
   cases h
   exact AK.done (ex_ [_,_] (an_ (an_ (ex_ _ (ex_ _ (an_ rfl (an_ rfl (Or.inl (an_ (Qo.ag rfl) (an_ (Qo.sz rfl) rfl))))))) (an_ rfl tt_)) (gives tt_)))
  ·obtain⟨x10,hx10,h⟩:=Qb h
   refine Qa hC [.br false,.n 8,.cm (.fn) [(200000,1)] [(1,200000)] [] [.d,.d] [(200000,.var (Qd n1))] (.tup [.i .i64 x10.1,.i .i64 x10.2]),.n 13] rfl ⟨⟨tt_,hc9⟩,(Qme _ _ hx10)⟩ ?_
   rcases bifE h with⟨hc11,h⟩|⟨hc11,h⟩
   ·refine Qa hC [.br true,.n 3,.v .no [] (.agg (QcR (QdQ.mk 3 x10.1))),.n 2,.sayO 2 (.var (QcR (QdQ.mk 3 x10.1))),.n 5,.keep [2,3] [2]] rfl ⟨⟨⟨tt_,hc11⟩,rfl⟩,rfl⟩ ?_
    cases h
    exact AK.done (ex_ [_,_] (an_ (an_ (ex_ _ (ex_ _ (an_ rfl (an_ rfl (Or.inl (an_ (Qo.ag rfl) (an_ (Qo.sz rfl) rfl))))))) (an_ rfl tt_)) (gives tt_)))
   ·obtain⟨x12,hx12,h⟩:=Qb h
    refine Qa hC [.br false,.n 8,.cm (.fn) [(200000,1)] [(1,200000)] [] [.d,.d] [(200000,.var (Qd n1))] (.tup [.i .i64 x12.1,.i .i64 x12.2]),.n 13] rfl ⟨⟨tt_,hc11⟩,(QmP _ _ hx12)⟩ ?_
    rcases bifE h with⟨hc13,h⟩|⟨hc13,h⟩
    ·refine Qa hC [.br true,.n 3,.v .no [] (.agg (QcR (QdQ.mk 4 x12.1))),.n 2,.sayO 2 (.var (QcR (QdQ.mk 4 x12.1))),.n 5,.keep [2,3] [2]] rfl ⟨⟨⟨tt_,hc13⟩,rfl⟩,rfl⟩ ?_
     cases h
     exact AK.done (ex_ [_,_] (an_ (an_ (ex_ _ (ex_ _ (an_ rfl (an_ rfl (Or.inl (an_ (Qo.ag rfl) (an_ (Qo.sz rfl) rfl))))))) (an_ rfl tt_)) (gives tt_)))
    ·refine Qa hC [.br false,.n 4,.v .no [] (.agg (QcR (QdQ.mk 0 0))),.n 1,.sayO 2 (.var (QcR (QdQ.mk 0 0))),.n 4,.keep [2,3] [2]] rfl ⟨⟨⟨tt_,hc13⟩,rfl⟩,rfl⟩ ?_
     cases h
     exact AK.done (ex_ [_,_] (an_ (an_ (ex_ _ (ex_ _ (an_ rfl (an_ rfl (Or.inl (an_ (Qo.ag rfl) (an_ (Qo.sz rfl) rfl))))))) (an_ rfl tt_)) (gives tt_)))
def Qk0 (e9:QBg)(x11:Int):Option Bool:=
 (Qc6 e9).bind fun x14=>
 bif (!x14)then
 some true
 else
 bif (decide (0<(e9.length:Int)))then
 (idx e9 (w64 ((e9.length:Int)-1))).bind fun e17=>
 some (decide (x11≤e17.1))
 else
 some false
def Qgx (x6:Int)(x12:Bool):Option (Int⊕(Unit⊕Unit)):=
 bif x12 then
 some (.inr (.inl ()))
 else
 some (.inl (w64 (x6+1)))
def Qeo (m2:QMk)(n1:TNet)(x6:Int):Option (Int⊕(Unit⊕Unit)):=
 bif (decide (x6<(m2.length:Int)))then
 (idx m2 x6).bind fun e9=>
 (idx n1.Places x6).bind fun e10=>
 (QaD n1.Colours e10.Colour).bind fun x11=>
 (Qk0 e9 x11).bind (fun x12=>Qgx x6 x12)
 else
 some (.inr (.inr ()))
def Qk1 : Option Bool:=
 some false
def Qk2 : Option Bool:=
 some true
def QiR (n1:TNet)(m2:QMk):Option Bool:=
 bif ((m2.length:Int) != (n1.Places.length:Int))then
 some false
 else
 (QC (fun st=>Qeo m2 n1 st) 0).bind (Sum.elim (fun q=>Qk1) (fun q=>Qk2))
theorem QrC (n1:TNet)(m2:QMk){r:Bool}(h:QiR n1 m2=some r):Qc Tryz.prog 53 [.agg (Qd n1),.sl 1 (m2.map Qi)] [] (Gives (.b r) []):=by
 refine Qc.walk 50 Tryz.func53 rfl Tryz.ntmps53 rfl fun C hC=>?_
 unfold QiR at h
 refine Qa hC [.n 10,.o (.ln m2.length),.n 2,.o (.ln n1.Places.length),.n 3] rfl ⟨⟨tt_,Qf⟩,Qf⟩ ?_
 rcases bifE h with⟨hc5,h⟩|⟨hc5,h⟩
 ·refine Qa hC [.br true,.n 7,.keep [4] []] rfl ⟨tt_,hc5⟩ ?_
  cases h
  exact AK.done (ex_ [_] (an_ (an_ rfl tt_) (gives tt_)))
 ·refine Qa hC [.br false,.n 6,.o (.ln m2.length),.n 4,.keep [2,14,15,16] [2]] rfl ⟨⟨tt_,hc5⟩,Qf⟩ ?_
  obtain⟨o19,hl19,h⟩:=Qb h
  refine AK.loop (body:=(fun st=>Qeo m2 n1 st)) (fun st σ=>σ=⟨[(2,.loc 2 0 0),(14,.sl 1 (m2.map Qi)),(15,.i .i64 (m2.length:Int)),(16,.i .i64 st)],[(2,.var (Qd n1))]⟩) (Sum.elim (fun q e σ=>e=.ret∧σ=⟨[(4,.b false)],[]⟩) (fun q e σ=>e=.exit 0∧σ=⟨[],[]⟩)) hl19 rfl ?_ ?_
  ·rintro x6 o σ rfl h
   replace h:Qeo m2 n1 x6=some o:=h
   unfold Qeo at h
   refine Qa hC [.n 6] rfl tt_ ?_
   rcases bifE h with⟨hc8,h⟩|⟨hc8,h⟩
   ·obtain⟨e9,he9,h⟩:=Qb h
    obtain⟨e10,he10,h⟩:=Qb h
    obtain⟨x11,hx11,h⟩:=Qb h
    refine Qa hC [.br true,.n 7,.o (.row (Qi e9)),.n 6,.keep [2,5,6,14,15,16] [2]] rfl ⟨⟨tt_,hc8⟩,(idxM he9)⟩ ?_
    refine AK.draw2 Qo hC mixed [.a .no none false,.a .no none false,.a .no none false,.a .no none false,.a .no none false,.a (.row (Qs e10)) none false,.a .no none false,.a .no none false,.a (.c false [.d,.d] (.i .i64 x11)) none false,.a .no none false] [] [] [2,6,7,14,15,16] [2] rfl rfl rfl ⟨⟨tt_,(idxM he10)⟩,(QhC _ _ hx11)⟩ rfl (by kernel_rfl) rfl rfl rfl ?_
    refine Qa hC [.n 2] rfl tt_ ?_
    obtain⟨x12,hv13,h⟩:=Qb h
    replace h:Qgx x6 x12=some o:=h
    refine AK.meetX (fun σ=>σ=⟨[(2,.loc 2 0 0),(14,.sl 1 (m2.map Qi)),(15,.i .i64 (m2.length:Int)),(16,.i .i64 x6),(48,.b x12)],[(2,.var (Qd n1))]⟩) ?_ ?_
    ·replace h:=hv13
     unfold Qk0 at h
     obtain⟨x14,hx14,h⟩:=Qb h
     refine Qa hC [.n 2,.o (.c false [.d] (.b x14)),.n 2] rfl ⟨tt_,(Qi5 _ hx14)⟩ ?_
     rcases bifE h with⟨hc15,h⟩|⟨hc15,h⟩
     ·refine Qa hC [.say 33 (.b true),.n 16,.keep [2,14,15,16,48] [2]] rfl ⟨tt_,(congrArg V.b hc15)⟩ ?_
      cases h
      exact AK.met rfl
     ·refine Qa hC [.say 33 (.b false),.n 1,.o (.ln e9.length),.n 2] rfl ⟨⟨tt_,(congrArg V.b hc15)⟩,Qf⟩ ?_
      rcases bifE h with⟨hc16,h⟩|⟨hc16,h⟩
      ·obtain⟨e17,he17,h⟩:=Qb h
       refine Qa hC [.say 37 (.b true),.n 2,.o (.ln e9.length),.n 1,.o (.row (QB e17)),.n 7,.keep [2,14,15,16,48] [2]] rfl ⟨⟨⟨tt_,(congrArg V.b hc16)⟩,Qf⟩,(idxM he17)⟩ ?_
       cases h
       exact AK.met rfl
      ·refine Qa hC [.say 37 (.b false),.n 12,.keep [2,14,15,16,48] [2]] rfl ⟨tt_,(congrArg V.b hc16)⟩ ?_
       cases h
       exact AK.met rfl
    ·rintro σ rfl
     replace h:Qgx x6 x12=some o:=h
     unfold Qgx at h
     refine Qa hC [.n 1] rfl tt_ ?_
     rcases bifE h with⟨hc18,h⟩|⟨hc18,h⟩
     ·refine Qa hC [.br true,.n 8,.keep [4] []] rfl ⟨tt_,hc18⟩ ?_
      cases h
      exact rndR rfl (an_ rfl rfl)
     ·refine Qa hC [.br false,.n 7,.keep [2,14,15,16] [2]] rfl ⟨tt_,hc18⟩ ?_
      cases h
      exact rndN rfl rfl
   ·refine Qa hC [.br false,.n 2,.keep [] []] rfl ⟨tt_,hc8⟩ ?_
    cases h
    exact rndX rfl (an_ rfl rfl)
  ·rcases o19 with(_ | _)
   ·replace h:Qk1=some r:=h
    unfold Qk1 at h
    rintro e σ ⟨rfl,rfl⟩
    refine Qa hC [.n 2,.keep [4] []] rfl tt_ ?_
    cases h
    exact AK.done (ex_ [_] (an_ (an_ rfl tt_) (gives tt_)))
   ·replace h:Qk2=some r:=h
    unfold Qk2 at h
    rintro e σ ⟨rfl,rfl⟩
    refine Qa hC [.n 8,.keep [4] []] rfl tt_ ?_
    cases h
    exact AK.done (ex_ [_] (an_ (an_ rfl tt_) (gives tt_)))
def Qiv (x11:(Int×QdQ))(n1:TNet)(m2:QMk):Option Bool:=
 bif (x11.1 != 0)then
 some true
 else
 (QiR n1 m2).bind fun x15=>
 some (!x15)
def Qep (n1:TNet)(work17:Int)(k18:Int):Option ((Int×Int)⊕Int):=
 bif (decide (k18<(n1.Tasks.length:Int)))then
 (idx n1.Tasks k18).bind fun e23=>
 (Qb7 n1 k18).bind fun x24=>
 some (.inl ((w64 (work17+(w64 (x24*(w64 (1+(w64 ((e23.Ins.length:Int)*(e23.Outs.length:Int))))))))),(w64 (k18+1))))
 else
 some (.inr work17)
def Qk3 (work21:Int):Option Bool:=
 some (decide (work21≤600))
def Qeq (n1:TNet)(x12:Bool):Option Bool:=
 bif x12 then
 some false
 else
 (QC (fun st=>Qep n1 st.1 st.2) (0,0)).bind (fun q=>Qk3 q)
def QfS (n1:TNet)(m2:QMk):Option Bool:=
 (QjM n1).bind fun x5=>
 (QjN m2).bind fun x6=>
 bif ((!x5)||((!x6)||(decide (12<(n1.Tasks.length:Int)))))then
 some false
 else
 (QdV n1).bind fun x11=>
 (Qiv x11 n1 m2).bind (fun x12=>Qeq n1 x12)
theorem QrD (n1:TNet)(m2:QMk){r:Bool}(h:QfS n1 m2=some r):Qc Tryz.prog 27 [.agg (Qd n1),.sl 1 (m2.map Qi)] [] (Gives (.b r) []):=by
 refine Qc.walk 69 Tryz.func27 rfl Tryz.ntmps27 rfl fun C hC=>?_
 unfold QfS at h
 obtain⟨x5,hx5,h⟩:=Qb h
 obtain⟨x6,hx6,h⟩:=Qb h
 refine Qa hC [.n 8,.v .no [] (.agg (Qd n1)),.o (.c false [.d] (.b x5)),.n 6,.o (.c false [.d] (.b x6)),.n 5] rfl ⟨⟨⟨tt_,rfl⟩,(Qsd _ hx5)⟩,(Qse _ hx6)⟩ ?_
 refine AK.meetX (fun σ=>σ=⟨[(1,.sl 1 (m2.map Qi)),(2,.loc 2 0 0),(27,.b ((!x5)||((!x6)||(decide (12<(n1.Tasks.length:Int))))))],[(2,.var (Qd n1))]⟩) ?_ ?_
 ·refine Qa hC [.n 4] rfl tt_ ?_
  rcases QJ (!x5)with hc8 | hc8
  ·refine Qa hC [.say 18 (.b true),.n 10,.say 27 (.b ((!x5)||((!x6)||(decide (12<(n1.Tasks.length:Int)))))),.keep [1,2,27] [2]] rfl ⟨⟨tt_,(congrArg V.b hc8)⟩,(congrArg V.b (orT hc8 rfl))⟩ ?_
   exact AK.met rfl
  ·refine Qa hC [.say 18 (.b false),.n 4] rfl ⟨tt_,(congrArg V.b hc8)⟩ ?_
   rcases QJ (!x6)with hc9 | hc9
   ·refine Qa hC [.say 22 (.b true),.n 6,.say 27 (.b ((!x5)||((!x6)||(decide (12<(n1.Tasks.length:Int)))))),.keep [1,2,27] [2]] rfl ⟨⟨tt_,(congrArg V.b hc9)⟩,(congrArg V.b (orF hc8 (orT hc9 rfl)))⟩ ?_
    exact AK.met rfl
   ·refine Qa hC [.say 22 (.b false),.n 2,.o (.ln n1.Tasks.length),.n 3,.say 27 (.b ((!x5)||((!x6)||(decide (12<(n1.Tasks.length:Int)))))),.keep [1,2,27] [2]] rfl ⟨⟨⟨tt_,(congrArg V.b hc9)⟩,Qf⟩,(congrArg V.b (orF hc8 (orF hc9 rfl)))⟩ ?_
    exact AK.met rfl
 ·rintro σ rfl
  refine Qa hC [.n 1] rfl tt_ ?_
  rcases bifE h with⟨hc10,h⟩|⟨hc10,h⟩
  ·refine Qa hC [.br true,.n 7,.keep [4] []] rfl ⟨tt_,hc10⟩ ?_
   cases h
   exact AK.done (ex_ [_] (an_ (an_ rfl tt_) (gives tt_)))
  ·obtain⟨x11,hx11,h⟩:=Qb h
   refine Qa hC [.br false,.n 4,.v .no [] (.agg (Qd n1)),.o (.c false [.d] (.tup [.agg (QcR x11.2),.i .i64 x11.1])),.n 5,.sayO 7 (.var (QcR x11.2)),.n 5] rfl ⟨⟨⟨⟨tt_,hc10⟩,rfl⟩,(Qsf _ hx11)⟩,rfl⟩ ?_
   obtain⟨x12,hv13,h⟩:=Qb h
   replace h:Qeq n1 x12=some r:=h
   refine AK.meetX (fun σ=>σ=⟨[(2,.loc 2 0 0),(40,.b x12)],[(2,.var (Qd n1))]⟩) ?_ ?_
   ·replace h:=hv13
    unfold Qiv at h
    refine Qa hC [.n 4] rfl tt_ ?_
    rcases bifE h with⟨hc14,h⟩|⟨hc14,h⟩
    ·refine Qa hC [.say 35 (.b true),.n 6,.keep [2,40] [2]] rfl ⟨tt_,(congrArg V.b hc14)⟩ ?_
     cases h
     exact AK.met rfl
    ·obtain⟨x15,hx15,h⟩:=Qb h
     refine Qa hC [.say 35 (.b false),.v .no [] (.agg (Qd n1)),.n 1,.o (.c false [.d,.d] (.b x15)),.n 3,.keep [2,40] [2]] rfl ⟨⟨⟨tt_,(congrArg V.b hc14)⟩,rfl⟩,(QrC _ _ hx15)⟩ ?_
     cases h
     exact AK.met rfl
   ·rintro σ rfl
    replace h:Qeq n1 x12=some r:=h
    unfold Qeq at h
    refine Qa hC [.n 1] rfl tt_ ?_
    rcases bifE h with⟨hc16,h⟩|⟨hc16,h⟩
    ·refine Qa hC [.br true,.n 7,.keep [4] []] rfl ⟨tt_,hc16⟩ ?_
     cases h
     exact AK.done (ex_ [_] (an_ (an_ rfl tt_) (gives tt_)))
    ·refine Qa hC [.br false,.n 14,.keep [2,9,10] [2]] rfl ⟨tt_,hc16⟩ ?_
     obtain⟨work21,hl25,h⟩:=Qb h
     refine AK.loop (body:=(fun st=>Qep n1 st.1 st.2)) (fun st σ=>σ=⟨[(2,.loc 2 0 0),(9,.i .i64 st.1),(10,.i .i64 st.2)],[(2,.var (Qd n1))]⟩) (fun q e σ=>e=.exit 0∧σ=⟨[(9,.i .i64 q)],[]⟩) hl25 rfl ?_ ?_
     ·rintro ⟨work17,k18⟩ o σ rfl h
      replace h:Qep n1 work17 k18=some o:=h
      unfold Qep at h
      refine Qa hC [.n 6,.o (.ln n1.Tasks.length),.n 3] rfl ⟨tt_,Qf⟩ ?_
      rcases bifE h with⟨hc22,h⟩|⟨hc22,h⟩
      ·obtain⟨e23,he23,h⟩:=Qb h
       obtain⟨x24,hx24,h⟩:=Qb h
       refine Qa hC [.br true,.n 9,.o (.row (Qh e23)),.v .no [] (.agg (Qh e23)),.n 2,.sayO 11 (.var (Qh e23)),.n 2,.keep [2,9,10,11] [2,11]] rfl ⟨⟨⟨⟨tt_,hc22⟩,(idxM he23)⟩,rfl⟩,rfl⟩ ?_
       refine AK.draw2 Qo hC mixed [.a .no none false,.a .no (some ([],.agg (Qd n1))) false,.a .no none false,.a (.c false [.d,.d] (.i .i64 x24)) none false,.a .no none false,.a .no none false,.a (.ln e23.Ins.length) none false,.a .no none false,.a .no none false,.a (.ln e23.Outs.length) none false,.a .no none false,.a .no none false,.a .no none false,.a .no none false,.m .s] [] [] [2,9,10] [2] rfl rfl rfl ⟨⟨⟨⟨tt_,rfl⟩,(QmO _ _ hx24)⟩,Qf⟩,Qf⟩ rfl (by kernel_rfl) rfl rfl rfl ?_
       refine Qa hC [.n 7,.keep [2,9,10] [2]] rfl tt_ ?_
       cases h
       exact rndN rfl rfl
      ·refine Qa hC [.br false,.n 2,.keep [9] []] rfl ⟨tt_,hc22⟩ ?_
       cases h
       exact rndX rfl (an_ rfl rfl)
     ·replace h:Qk3 work21=some r:=h
      unfold Qk3 at h
      rintro e σ ⟨rfl,rfl⟩
      refine Qa hC [.n 10,.keep [4] []] rfl tt_ ?_
      cases h
      exact AK.done (ex_ [_] (an_ (an_ rfl tt_) (gives tt_)))
def Qlq (a5:Unit):Option Int:=
 some 0
def Qc1 (n9:Int)(k11:Int)(v12:Int):Option (Int⊕Empty):=
 some (.inl (w64 (n9+v12)))
def Qlr (n9:Int):Option Int:=
 some n9
def Qhj (a6:QBg):Option Int:=
 (QhP (fun st p=>Qc1 st p.1 p.2) 0 a6).bind (Sum.elim (fun q=>Qlr q) (fun q=>Empty.elim q))
def QjO (b1:QBg):Option Int:=
 (QiM b1).bind (Sum.elim (fun q=>Qlq q) (fun q=>Qhj q))
theorem Qsg (b1:QBg){r:Int}(h:QjO b1=some r):Qc Tryz.prog 55 [.sl 2 (b1.map QB)] [] (Gives (.i .i64 r) []):=by
 refine Qc.walk 23 Tryz.func55 rfl Tryz.ntmps55 rfl fun C hC=>?_
 unfold QjO at h
 obtain⟨x4,hx4,h⟩:=Qb h
 refine Qa hC [.n 8] rfl tt_ ?_
 rcases x4 with(a5 | a6)
 ·replace h:Qlq a5=some r:=h
  unfold Qlq at h
  refine Qa hC [.cm (.fn) [] [] [] [.d] [] (.tup [.lit (.map none),.b false]),.n 16,.x (fun σ=>(σ.set 14 .itr0).put 14 (.loc 14 0 0)),.n 3] rfl ⟨⟨tt_,(Qe3 _ hx4)⟩,(Stp.range0 rfl rfl (bleN hC.n rfl) rfl Qd3 rfl)⟩ ?_
  refine AK.loopOnce ?_
  refine Qa hC [.n 2,.x (fun σ=>σ.put 15 (.tup [.b false])),.n 17,.keep [2] []] rfl ⟨tt_,(Stp.next0 rfl rfl (bleN hC.n rfl) rfl rfl)⟩ ?_
  cases h
  exact AK.done (ex_ [_] (an_ (an_ rfl tt_) (gives tt_)))
 ·replace h:Qhj a6=some r:=h
  unfold Qhj at h
  refine Qa hC [.cm (.fn) [] [(10,30002)] [] [.d] [(30002,.map (mapV (V.i .i64) (V.i .i64) a6))] (.tup [.map 30002,.b true]),.n 16] rfl ⟨tt_,(Qe3 _ hx4)⟩ ?_
  refine AK.openMap (b:=10) ky_3 rfl fun bm7 cl7 L7 hbn7 hpm7=>?_
  refine Qa hC [.x (fun σ=>(σ.set 14 (.itr bm7 cl7 #[] none)).put 14 (.loc 14 0 0)),.n 3,.keep [5,14] [10,14]] rfl ⟨tt_,(Stp.range (b:=10) rfl rfl (bleN hC.n rfl) rfl rfl Qd3 rfl)⟩ ?_
  obtain⟨o13,hl13,h⟩:=Qb h
  refine AK.range (body:=(fun st p=>Qc1 st p.1 p.2)) (fun st seen σ=>∃cur:Option MapEntry,σ=⟨[(5,.i .i64 st),(14,.loc 14 0 0)],[(10,.mapX bm7 cl7 (typV (V.i .i64) (V.i .i64) L7) (mapV (V.i .i64) (V.i .i64) a6)),(14,.itr bm7 cl7 seen cur)]⟩) (fun (q:Empty) _ _=>False) (fun st e σ=>e=.exit 0∧σ=⟨[(5,.i .i64 st)],[]⟩) hbn7 hpm7 hl13 (ex_ _ rfl) ?_ ?_
  ·rintro n9 seen σ ⟨cur,rfl⟩ hex
   refine Qa hC [.n 2] rfl tt_ ?_
   refine AK.nextT (b:=14) (m:=10) rfl rfl rfl (bleN hC.n rfl) rfl rfl rfl rfl ?_ ?_
   ·intro hleft
    refine Qa hC [.n 7,.keep [5] []] rfl tt_ ?_
    exact AK.done (Or.inl (an_ hleft (an_ (fun h=>(by cases h)) (an_ rfl rfl))))
   ·intro xk11 k11 v12 hq8
    obtain⟨o,h⟩:=hex _ hq8
    have ho:=h
    replace h:Qc1 n9 k11 v12=some o:=h
    unfold Qc1 at h
    refine Qa hC [.n 10,.x (fun σ=>σ.put 17 (.tup [.i .i64 k11,.i .i64 v12])),.n 11,.keep [5,14] [10,14]] rfl ⟨tt_,(Stp.entryT (b:=14) (m:=10) rfl rfl (bleN hC.n rfl) rfl hq8 rfl rfl)⟩ ?_
    cases h
    exact AK.done (Or.inr (ex_ _ (an_ hq8 (Or.inl (ex_ _ (an_ ho (an_ rfl (ex_ _ rfl))))))))
  ·rcases o13 with(n9 | q)
   ·replace h:Qlr n9=some r:=h
    unfold Qlr at h
    rintro e σ ⟨rfl,rfl⟩
    refine Qa hC [.n 9,.keep [2] []] rfl tt_ ?_
    cases h
    exact AK.done (ex_ [_] (an_ (an_ rfl tt_) (gives tt_)))
   ·exact q.elim
def Qdk (m1:QMk)(n3:Int)(x4:Int):Option ((Int×Int)⊕Int):=
 bif (decide (x4<(m1.length:Int)))then
 (idx m1 x4).bind fun e9=>
 (QjO e9).bind fun x10=>
 some (.inl ((w64 (n3+x10)),(w64 (x4+1))))
 else
 some (.inr n3)
def Qk4 (n7:Int):Option Int:=
 some n7
def QiS (m1:QMk):Option Int:=
 (QC (fun st=>Qdk m1 st.1 st.2) (0,0)).bind (fun q=>Qk4 q)
theorem QrE (m1:QMk){r:Int}(h:QiS m1=some r):Qc Tryz.prog 28 [.sl 1 (m1.map Qi)] [] (Gives (.i .i64 r) []):=by
 refine Qc.walk 18 Tryz.func28 rfl Tryz.ntmps28 rfl fun C hC=>?_
 unfold QiS at h
 refine Qa hC [.n 14,.o (.ln m1.length),.n 4,.keep [3,6,7,8] []] rfl ⟨tt_,Qf⟩ ?_
 obtain⟨n7,hl11,h⟩:=Qb h
 refine AK.loop (body:=(fun st=>Qdk m1 st.1 st.2)) (fun st σ=>σ=⟨[(3,.i .i64 st.1),(6,.sl 1 (m1.map Qi)),(7,.i .i64 (m1.length:Int)),(8,.i .i64 st.2)],[]⟩) (fun q e σ=>e=.exit 0∧σ=⟨[(3,.i .i64 q)],[]⟩) hl11 rfl ?_ ?_
 ·rintro ⟨n3,x4⟩ o σ rfl h
  replace h:Qdk m1 n3 x4=some o:=h
  unfold Qdk at h
  refine Qa hC [.n 6] rfl tt_ ?_
  rcases bifE h with⟨hc8,h⟩|⟨hc8,h⟩
  ·obtain⟨e9,he9,h⟩:=Qb h
   obtain⟨x10,hx10,h⟩:=Qb h
   refine Qa hC [.br true,.n 6,.o (.row (Qi e9)),.n 7,.o (.c false [.d] (.i .i64 x10)),.n 9,.keep [3,6,7,8] []] rfl ⟨⟨⟨tt_,hc8⟩,(idxM he9)⟩,(Qsg _ hx10)⟩ ?_
   cases h
   exact rndN rfl rfl
  ·refine Qa hC [.br false,.n 2,.keep [3] []] rfl ⟨tt_,hc8⟩ ?_
   cases h
   exact rndX rfl (an_ rfl rfl)
 ·replace h:Qk4 n7=some r:=h
  unfold Qk4 at h
  rintro e σ ⟨rfl,rfl⟩
  refine Qa hC [.n 9,.keep [2] []] rfl tt_ ?_
  cases h
  exact AK.done (ex_ [_] (an_ (an_ rfl tt_) (gives tt_)))
def Qk5 (x5:Bool)(budget3:Int)(n1:TNet)(m2:QMk):Option Bool:=
 bif x5 then
 bif (decide (budget3≤12))then
 bif (decide ((n1.Tasks.length:Int)≤6))then
 (QiS m2).bind fun x11=>
 some (decide (x11≤30))
 else
 some false
 else
 some false
 else
 some false
def Qgy (x6:Bool):Option Bool:=
 some x6
def QiT (n1:TNet)(m2:QMk)(budget3:Int):Option Bool:=
 (QfS n1 m2).bind fun x5=>
 (Qk5 x5 budget3 n1 m2).bind (fun x6=>Qgy x6)
theorem QrF (n1:TNet)(m2:QMk)(budget3:Int){r:Bool}(h:QiT n1 m2 budget3=some r):Qc Tryz.prog 9 [.agg (Qd n1),.sl 1 (m2.map Qi),.i .i64 budget3] [] (Gives (.b r) []):=by
 refine Qc.walk 27 Tryz.func9 rfl Tryz.ntmps9 rfl fun C hC=>?_
 unfold QiT at h
 obtain⟨x5,hx5,h⟩:=Qb h
 refine Qa hC [.n 8,.v .no [] (.agg (Qd n1)),.n 1,.o (.c false [.d,.d] (.b x5)),.n 4] rfl ⟨⟨tt_,rfl⟩,(QrD _ _ hx5)⟩ ?_
 obtain⟨x6,hv7,h⟩:=Qb h
 replace h:Qgy x6=some r:=h
 refine AK.meetX (fun σ=>σ=⟨[(6,.b x6)],[]⟩) ?_ ?_
 ·replace h:=hv7
  unfold Qk5 at h
  refine Qa hC [.n 3] rfl tt_ ?_
  rcases bifE h with⟨hc8,h⟩|⟨hc8,h⟩
  ·refine Qa hC [.say 12 (.b true),.n 4] rfl ⟨tt_,(congrArg V.b hc8)⟩ ?_
   rcases bifE h with⟨hc9,h⟩|⟨hc9,h⟩
   ·refine Qa hC [.say 16 (.b true),.n 2,.o (.ln n1.Tasks.length),.n 3] rfl ⟨⟨tt_,(congrArg V.b hc9)⟩,Qf⟩ ?_
    rcases bifE h with⟨hc10,h⟩|⟨hc10,h⟩
    ·obtain⟨x11,hx11,h⟩:=Qb h
     refine Qa hC [.say 22 (.b true),.n 1,.o (.c false [.d] (.i .i64 x11)),.n 4,.keep [6] []] rfl ⟨⟨tt_,(congrArg V.b hc10)⟩,(QrE _ hx11)⟩ ?_
     cases h
     exact AK.met rfl
    ·refine Qa hC [.say 22 (.b false),.n 6,.keep [6] []] rfl ⟨tt_,(congrArg V.b hc10)⟩ ?_
     cases h
     exact AK.met rfl
   ·refine Qa hC [.say 16 (.b false),.n 12,.keep [6] []] rfl ⟨tt_,(congrArg V.b hc9)⟩ ?_
    cases h
    exact AK.met rfl
  ·refine Qa hC [.say 12 (.b false),.n 16,.keep [6] []] rfl ⟨tt_,(congrArg V.b hc8)⟩ ?_
   cases h
   exact AK.met rfl
 ·rintro σ rfl
  replace h:Qgy x6=some r:=h
  unfold Qgy at h
  refine Qa hC [.n 2,.keep [6] []] rfl tt_ ?_
  cases h
  exact AK.done (ex_ [_] (an_ (an_ rfl tt_) (gives tt_)))
def Qh2 (n1:TNet)(m2:QMk):Option Int:=
 (Qge n1 m2 60).bind fun x4=>
 some (x4.length:Int)
theorem QqX (n1:TNet)(m2:QMk){r:Int}(h:Qh2 n1 m2=some r):Qc Tryz.prog 10 [.agg (Qd n1),.sl 1 (m2.map Qi)] [] (Gives (.i .i64 r) []):=by
 refine Qc.walk 9 Tryz.func10 rfl Tryz.ntmps10 rfl fun C hC=>?_
 unfold Qh2 at h
 obtain⟨x4,hx4,h⟩:=Qb h
 refine Qa hC [.n 8,.v .no [] (.agg (Qd n1)),.n 1,.o (.co false [.d,.d,.d] 4 (x4.map Qj) x4.length),.n 5,.keep [4] []] rfl ⟨⟨tt_,rfl⟩,⟨(QlT _ _ _ hx4),Qf,.inl rfl⟩⟩ ?_
 cases h
 exact AK.done (ex_ [_] (an_ (an_ rfl tt_) (gives tt_)))
def QdW (x19:(List Int))(i20:Int)(m2:QMk):Option Bool:=
 (idx x19 i20).bind fun e25=>
 bif (decide (e25<0))then
 some true
 else
 (idx x19 i20).bind fun e27=>
 bif (decide ((m2.length:Int)≤e27))then
 some true
 else
 (idx x19 i20).bind fun e29=>
 (idx m2 e29).bind fun e30=>
 bif (decide (0<(e30.length:Int)))then
 some true
 else
 bif (decide (0<i20))then
 (idx x19 i20).bind fun e33=>
 (idx x19 (w64 (i20-1))).bind fun e34=>
 some (decide (e33≤e34))
 else
 some false
def QdX (i20:Int)(x23:Bool):Option (Int⊕(Unit⊕Unit)):=
 bif x23 then
 some (.inr (.inl ()))
 else
 some (.inl (w64 (i20+1)))
def Qa4 (x19:(List Int))(m2:QMk)(i20:Int):Option (Int⊕(Unit⊕Unit)):=
 bif (decide (i20<(x19.length:Int)))then
 (QdW x19 i20 m2).bind (fun x23=>QdX i20 x23)
 else
 some (.inr (.inr ()))
def QgK : Option Bool:=
 some false
def QdY (x7:Bool)(x19:(List Int))(n1:TNet)(o3:Qk)(x37:Int):Option Bool:=
 bif x7 then
 bif (decide (0<(x19.length:Int)))then
 (idx n1.Tasks o3.Task).bind fun e46=>
 bif (e46.Join==3)then
 some true
 else
 some (x37==1)
 else
 bif (x37 != 0)then
 (idx n1.Tasks o3.Task).bind fun e49=>
 bif (e49.Join==3)then
 some true
 else
 some (x37==1)
 else
 some false
 else
 some false
def QdZ (x42:Bool):Option Bool:=
 some x42
def QcB (n1:TNet)(m2:QMk)(o3:Qk)(budget4:Int)(x7:Bool)(x19:(List Int)):Option Bool:=
 (Qcd n1 m2 o3 budget4).bind fun x37=>
 (Qa3 n1 m2 o3).bind fun x38=>
 bif (x38 != 0)then
 some (x7&&(x37==0))
 else
 (QdY x7 x19 n1 o3 x37).bind (fun x42=>QdZ x42)
def Qcu (n1:TNet)(m2:QMk)(o3:Qk)(budget4:Int):Option Bool:=
 (QjX).bind fun x7=>
 (QiT n1 m2 budget4).bind fun x8=>
 bif ((!x8)||((decide (budget4<1))||((decide (20<(o3.Vars.length:Int)))||((decide (20<(o3.Ins.length:Int)))||((decide (20<(o3.Outs.length:Int)))||((decide (o3.Task<0))||(decide ((n1.Tasks.length:Int)≤o3.Task))))))))then
 some x7
 else
 (Qh2 n1 m2).bind fun x17=>
 bif (decide (40≤x17))then
 some x7
 else
 (QbI n1 m2 o3.Task).bind fun x19=>
 (QC (fun st=>Qa4 x19 m2 st) 0).bind (Sum.elim (fun q=>QgK) (fun q=>QcB n1 m2 o3 budget4 x7 x19))
theorem Qnz (n1:TNet)(m2:QMk)(o3:Qk)(budget4:Int){r:Bool}(h:Qcu n1 m2 o3 budget4=some r):Qc Tryz.prog 5 [.agg (Qd n1),.sl 1 (m2.map Qi),.agg (Qj o3),.i .i64 budget4] [] (Gives (.b r) []):=by
 refine Qc.walk 153 Tryz.func5 rfl Tryz.ntmps5 rfl fun C hC=>?_
 unfold Qcu at h
 obtain⟨x7,hx7,h⟩:=Qb h
 obtain⟨x8,hx8,h⟩:=Qb h
 refine Qa hC [.n 9,.o (.c false [] (.b x7)),.n 5,.v .no [] (.agg (Qd n1)),.n 2,.o (.c false [.d,.d,.d] (.b x8)),.n 5] rfl ⟨⟨⟨tt_,(QqL  hx7)⟩,rfl⟩,(QrF _ _ _ hx8)⟩ ?_
 refine AK.meetX (fun σ=>σ=⟨[(1,.sl 1 (m2.map Qi)),(3,.i .i64 budget4),(4,.loc 4 0 0),(6,.loc 6 0 0),(9,.b x7),(55,.b ((!x8)||((decide (budget4<1))||((decide (20<(o3.Vars.length:Int)))||((decide (20<(o3.Ins.length:Int)))||((decide (20<(o3.Outs.length:Int)))||((decide (o3.Task<0))||(decide ((n1.Tasks.length:Int)≤o3.Task)))))))))],[(4,.var (Qd n1)),(6,.var (Qj o3))]⟩) ?_ ?_
 ·refine Qa hC [.n 4] rfl tt_ ?_
  rcases QJ (!x8)with hc10 | hc10
  ·refine Qa hC [.say 21 (.b true),.n 35,.say 55 (.b ((!x8)||((decide (budget4<1))||((decide (20<(o3.Vars.length:Int)))||((decide (20<(o3.Ins.length:Int)))||((decide (20<(o3.Outs.length:Int)))||((decide (o3.Task<0))||(decide ((n1.Tasks.length:Int)≤o3.Task))))))))),.keep [1,3,4,6,9,55] [4,6]] rfl ⟨⟨tt_,(congrArg V.b hc10)⟩,(congrArg V.b (orT hc10 rfl))⟩ ?_
   exact AK.met rfl
  ·refine Qa hC [.say 21 (.b false),.n 4] rfl ⟨tt_,(congrArg V.b hc10)⟩ ?_
   rcases QJ (decide (budget4<1))with hc11 | hc11
   ·refine Qa hC [.say 25 (.b true),.n 31,.say 55 (.b ((!x8)||((decide (budget4<1))||((decide (20<(o3.Vars.length:Int)))||((decide (20<(o3.Ins.length:Int)))||((decide (20<(o3.Outs.length:Int)))||((decide (o3.Task<0))||(decide ((n1.Tasks.length:Int)≤o3.Task))))))))),.keep [1,3,4,6,9,55] [4,6]] rfl ⟨⟨tt_,(congrArg V.b hc11)⟩,(congrArg V.b (orF hc10 (orT hc11 rfl)))⟩ ?_
    exact AK.met rfl
   ·refine Qa hC [.say 25 (.b false),.n 2,.o (.ln o3.Vars.length),.n 3] rfl ⟨⟨tt_,(congrArg V.b hc11)⟩,Qf⟩ ?_
    rcases QJ (decide (20<(o3.Vars.length:Int)))with hc12 | hc12
    ·refine Qa hC [.say 31 (.b true),.n 25,.say 55 (.b ((!x8)||((decide (budget4<1))||((decide (20<(o3.Vars.length:Int)))||((decide (20<(o3.Ins.length:Int)))||((decide (20<(o3.Outs.length:Int)))||((decide (o3.Task<0))||(decide ((n1.Tasks.length:Int)≤o3.Task))))))))),.keep [1,3,4,6,9,55] [4,6]] rfl ⟨⟨tt_,(congrArg V.b hc12)⟩,(congrArg V.b (orF hc10 (orF hc11 (orT hc12 rfl))))⟩ ?_
     exact AK.met rfl
    ·refine Qa hC [.say 31 (.b false),.n 2,.o (.ln o3.Ins.length),.n 3] rfl ⟨⟨tt_,(congrArg V.b hc12)⟩,Qf⟩ ?_
     rcases QJ (decide (20<(o3.Ins.length:Int)))with hc13 | hc13
     ·refine Qa hC [.say 37 (.b true),.n 19,.say 55 (.b ((!x8)||((decide (budget4<1))||((decide (20<(o3.Vars.length:Int)))||((decide (20<(o3.Ins.length:Int)))||((decide (20<(o3.Outs.length:Int)))||((decide (o3.Task<0))||(decide ((n1.Tasks.length:Int)≤o3.Task))))))))),.keep [1,3,4,6,9,55] [4,6]] rfl ⟨⟨tt_,(congrArg V.b hc13)⟩,(congrArg V.b (orF hc10 (orF hc11 (orF hc12 (orT hc13 rfl)))))⟩ ?_
      exact AK.met rfl
     ·refine Qa hC [.say 37 (.b false),.n 2,.o (.ln o3.Outs.length),.n 3] rfl ⟨⟨tt_,(congrArg V.b hc13)⟩,Qf⟩ ?_
      rcases QJ (decide (20<(o3.Outs.length:Int)))with hc14 | hc14
      ·refine Qa hC [.say 43 (.b true),.n 13,.say 55 (.b ((!x8)||((decide (budget4<1))||((decide (20<(o3.Vars.length:Int)))||((decide (20<(o3.Ins.length:Int)))||((decide (20<(o3.Outs.length:Int)))||((decide (o3.Task<0))||(decide ((n1.Tasks.length:Int)≤o3.Task))))))))),.keep [1,3,4,6,9,55] [4,6]] rfl ⟨⟨tt_,(congrArg V.b hc14)⟩,(congrArg V.b (orF hc10 (orF hc11 (orF hc12 (orF hc13 (orT hc14 rfl))))))⟩ ?_
       exact AK.met rfl
      ·refine Qa hC [.say 43 (.b false),.n 5] rfl ⟨tt_,(congrArg V.b hc14)⟩ ?_
       rcases QJ (decide (o3.Task<0))with hc15 | hc15
       ·refine Qa hC [.say 48 (.b true),.n 8,.say 55 (.b ((!x8)||((decide (budget4<1))||((decide (20<(o3.Vars.length:Int)))||((decide (20<(o3.Ins.length:Int)))||((decide (20<(o3.Outs.length:Int)))||((decide (o3.Task<0))||(decide ((n1.Tasks.length:Int)≤o3.Task))))))))),.keep [1,3,4,6,9,55] [4,6]] rfl ⟨⟨tt_,(congrArg V.b hc15)⟩,(congrArg V.b (orF hc10 (orF hc11 (orF hc12 (orF hc13 (orF hc14 (orT hc15 rfl)))))))⟩ ?_
        exact AK.met rfl
       ·refine Qa hC [.say 48 (.b false),.n 4,.o (.ln n1.Tasks.length),.n 3,.say 55 (.b ((!x8)||((decide (budget4<1))||((decide (20<(o3.Vars.length:Int)))||((decide (20<(o3.Ins.length:Int)))||((decide (20<(o3.Outs.length:Int)))||((decide (o3.Task<0))||(decide ((n1.Tasks.length:Int)≤o3.Task))))))))),.keep [1,3,4,6,9,55] [4,6]] rfl ⟨⟨⟨tt_,(congrArg V.b hc15)⟩,Qf⟩,(congrArg V.b (orF hc10 (orF hc11 (orF hc12 (orF hc13 (orF hc14 (orF hc15 rfl)))))))⟩ ?_
        exact AK.met rfl
 ·rintro σ rfl
  refine Qa hC [.n 1] rfl tt_ ?_
  rcases bifE h with⟨hc16,h⟩|⟨hc16,h⟩
  ·refine Qa hC [.br true,.n 8,.keep [8] []] rfl ⟨tt_,hc16⟩ ?_
   cases h
   exact AK.done (ex_ [_] (an_ (an_ rfl tt_) (gives tt_)))
  ·obtain⟨x17,hx17,h⟩:=Qb h
   refine Qa hC [.br false,.n 5,.v .no [] (.agg (Qd n1)),.n 1,.o (.c false [.d,.d] (.i .i64 x17)),.n 3] rfl ⟨⟨⟨tt_,hc16⟩,rfl⟩,(QqX _ _ hx17)⟩ ?_
   rcases bifE h with⟨hc18,h⟩|⟨hc18,h⟩
   ·refine Qa hC [.br true,.n 8,.keep [8] []] rfl ⟨tt_,hc18⟩ ?_
    cases h
    exact AK.done (ex_ [_] (an_ (an_ rfl tt_) (gives tt_)))
   ·obtain⟨x19,hx19,h⟩:=Qb h
    refine Qa hC [.br false,.n 4,.v .no [] (.agg (Qd n1)),.n 3,.o (.co false [.d,.d,.d] 1 (x19.map Qe) x19.length),.n 10,.keep [1,3,4,6,9,11,12] [4,6,66]] rfl ⟨⟨⟨tt_,hc18⟩,rfl⟩,⟨(Qju _ _ _ hx19),Qf,.inl rfl⟩⟩ ?_
    obtain⟨o36,hl36,h⟩:=Qb h
    refine AK.loop (body:=(fun st=>Qa4 x19 m2 st)) (fun st σ=>σ=⟨[(1,.sl 1 (m2.map Qi)),(3,.i .i64 budget4),(4,.loc 4 0 0),(6,.loc 6 0 0),(9,.b x7),(11,.own 66 x19.length),(12,.i .i64 st)],[(4,.var (Qd n1)),(6,.var (Qj o3)),(66,.arr 1 (x19.map Qe))]⟩) (Sum.elim (fun q e σ=>e=.ret∧σ=⟨[(8,.b false)],[]⟩) (fun q e σ=>e=.exit 0∧σ=⟨[(1,.sl 1 (m2.map Qi)),(3,.i .i64 budget4),(4,.loc 4 0 0),(6,.loc 6 0 0),(9,.b x7),(11,.own 66 x19.length)],[(4,.var (Qd n1)),(6,.var (Qj o3)),(66,.arr 1 (x19.map Qe))]⟩)) hl36 rfl ?_ ?_
    ·rintro i20 o σ rfl h
     replace h:Qa4 x19 m2 i20=some o:=h
     unfold Qa4 at h
     refine Qa hC [.n 9] rfl tt_ ?_
     rcases bifE h with⟨hc22,h⟩|⟨hc22,h⟩
     ·refine Qa hC [.br true,.n 5] rfl ⟨tt_,hc22⟩ ?_
      obtain⟨x23,hv24,h⟩:=Qb h
      replace h:QdX i20 x23=some o:=h
      refine AK.meetX (fun σ=>σ=⟨[(1,.sl 1 (m2.map Qi)),(3,.i .i64 budget4),(4,.loc 4 0 0),(6,.loc 6 0 0),(9,.b x7),(11,.own 66 x19.length),(12,.i .i64 i20),(113,.b x23)],[(4,.var (Qd n1)),(6,.var (Qj o3)),(66,.arr 1 (x19.map Qe))]⟩) ?_ ?_
      ·replace h:=hv24
       unfold QdW at h
       obtain⟨e25,he25,h⟩:=Qb h
       refine Qa hC [.keep [1,3,4,6,9,11,12] [4,6,66]] rfl tt_ ?_
       rcases bifE h with⟨hc26,h⟩|⟨hc26,h⟩
       ·refine AK.draw2 Qo hC mixed [.a .no none false,.a .no none false,.a .no none false,.a (.row (Qe e25)) none false,.a .no none false,.a .no (some ([],.b true)) false,.a .no none false,.a .no none false,.a .no none false,.a .no none false,.a .no none false,.a .no none false,.a .no none false,.a .no none false,.a .no none false,.a .no none false,.a .no none false,.a .no none false,.a .no none false,.a .no none false,.a .no none false,.a .no none false,.a .no none false,.a .no none false,.a .no none false,.a .no none false,.a .no none false,.a .no none false,.a .no none false,.a .no none false,.a .no none false,.a .no none false,.a .no none false,.a .no none false,.a .no none false,.a .no none false,.a .no none false,.a .no none false,.a .no none false,.a .no none false,.a .no none false] [] [] [1,3,4,6,9,11,12,113] [4,6,66] rfl rfl rfl ⟨⟨⟨tt_,(QaX he25 rfl)⟩,(Qal (idxE he25).2)⟩,(congrArg V.b hc26)⟩ rfl (by kernel_rfl) rfl rfl rfl ?_
        refine Qa hC [.keep [1,3,4,6,9,11,12,113] [4,6,66]] rfl tt_ ?_
        cases h
        exact AK.met rfl
       ·obtain⟨e27,he27,h⟩:=Qb h
        rcases bifE h with⟨hc28,h⟩|⟨hc28,h⟩
        ·refine AK.draw2 Qo hC mixed [.a .no none false,.a .no none false,.a .no none false,.a (.row (Qe e25)) none false,.a .no none false,.a .no (some ([],.b false)) false,.a .no none false,.a .no none false,.a .no none false,.a (.row (Qe e27)) none false,.a .no none false,.a (.ln m2.length) none false,.a .no none false,.a .no none false,.a .no (some ([],.b true)) false,.a .no none false,.a .no none false,.a .no none false,.a .no none false,.a .no none false,.a .no none false,.a .no none false,.a .no none false,.a .no none false,.a .no none false,.a .no none false,.a .no none false,.a .no none false,.a .no none false,.a .no none false,.a .no none false,.a .no none false,.a .no none false,.a .no none false,.a .no none false,.a .no none false,.a .no none false,.a .no none false,.a .no none false,.a .no none false,.a .no none false] [] [] [1,3,4,6,9,11,12,113] [4,6,66] rfl rfl rfl ⟨⟨⟨⟨⟨⟨⟨tt_,(QaX he25 rfl)⟩,(Qal (idxE he25).2)⟩,(congrArg V.b hc26)⟩,(QaX he27 rfl)⟩,(Qal (idxE he27).2)⟩,Qf⟩,(congrArg V.b hc28)⟩ rfl (by kernel_rfl) rfl rfl rfl ?_
         refine Qa hC [.keep [1,3,4,6,9,11,12,113] [4,6,66]] rfl tt_ ?_
         cases h
         exact AK.met rfl
        ·obtain⟨e29,he29,h⟩:=Qb h
         obtain⟨e30,he30,h⟩:=Qb h
         rcases bifE h with⟨hc31,h⟩|⟨hc31,h⟩
         ·refine AK.draw2 Qo hC mixed [.a .no none false,.a .no none false,.a .no none false,.a (.row (Qe e25)) none false,.a .no none false,.a .no (some ([],.b false)) false,.a .no none false,.a .no none false,.a .no none false,.a (.row (Qe e27)) none false,.a .no none false,.a (.ln m2.length) none false,.a .no none false,.a .no none false,.a .no (some ([],.b false)) false,.a .no none false,.a .no none false,.a .no none false,.a .no none false,.a (.row (Qe e29)) none false,.a (.row (Qi e30)) none false,.a .no none false,.a (.ln e30.length) none false,.a .no none false,.a .no none false,.a .no (some ([],.b true)) false,.a .no none false,.a .no none false,.a .no none false,.a .no none false,.a .no none false,.a .no none false,.a .no none false,.a .no none false,.a .no none false,.a .no none false,.a .no none false,.a .no none false,.a .no none false,.a .no none false,.a .no none false] [] [] [1,3,4,6,9,11,12,113] [4,6,66] rfl rfl rfl ⟨⟨⟨⟨⟨⟨⟨⟨⟨⟨⟨⟨tt_,(QaX he25 rfl)⟩,(Qal (idxE he25).2)⟩,(congrArg V.b hc26)⟩,(QaX he27 rfl)⟩,(Qal (idxE he27).2)⟩,Qf⟩,(congrArg V.b hc28)⟩,(QaX he29 rfl)⟩,(Qal (idxE he29).2)⟩,(idxM he30)⟩,Qf⟩,(congrArg V.b hc31)⟩ rfl (by kernel_rfl) rfl rfl rfl ?_
          refine Qa hC [.keep [1,3,4,6,9,11,12,113] [4,6,66]] rfl tt_ ?_
          cases h
          exact AK.met rfl
         ·rcases bifE h with⟨hc32,h⟩|⟨hc32,h⟩
          ·obtain⟨e33,he33,h⟩:=Qb h
           obtain⟨e34,he34,h⟩:=Qb h
           refine AK.draw2 Qo hC mixed [.a .no none false,.a .no none false,.a .no none false,.a (.row (Qe e25)) none false,.a .no none false,.a .no (some ([],.b false)) false,.a .no none false,.a .no none false,.a .no none false,.a (.row (Qe e27)) none false,.a .no none false,.a (.ln m2.length) none false,.a .no none false,.a .no none false,.a .no (some ([],.b false)) false,.a .no none false,.a .no none false,.a .no none false,.a .no none false,.a (.row (Qe e29)) none false,.a (.row (Qi e30)) none false,.a .no none false,.a (.ln e30.length) none false,.a .no none false,.a .no none false,.a .no (some ([],.b false)) false,.a .no none false,.a .no none false,.a .no (some ([],.b true)) false,.a .no none false,.a .no none false,.a .no none false,.a (.row (Qe e33)) none false,.a .no none false,.a .no none false,.a .no none false,.a .no none false,.a (.row (Qe e34)) none false,.a .no none false,.a .no none false,.a .no none false] [] [] [1,3,4,6,9,11,12,113] [4,6,66] rfl rfl rfl ⟨⟨⟨⟨⟨⟨⟨⟨⟨⟨⟨⟨⟨⟨⟨⟨⟨tt_,(QaX he25 rfl)⟩,(Qal (idxE he25).2)⟩,(congrArg V.b hc26)⟩,(QaX he27 rfl)⟩,(Qal (idxE he27).2)⟩,Qf⟩,(congrArg V.b hc28)⟩,(QaX he29 rfl)⟩,(Qal (idxE he29).2)⟩,(idxM he30)⟩,Qf⟩,(congrArg V.b hc31)⟩,(congrArg V.b hc32)⟩,(QaX he33 rfl)⟩,(Qal (idxE he33).2)⟩,(QaX he34 rfl)⟩,(Qal (idxE he34).2)⟩ rfl (by kernel_rfl) rfl rfl rfl ?_
           refine Qa hC [.keep [1,3,4,6,9,11,12,113] [4,6,66]] rfl tt_ ?_
           cases h
           exact AK.met rfl
          ·refine AK.draw2 Qo hC mixed [.a .no none false,.a .no none false,.a .no none false,.a (.row (Qe e25)) none false,.a .no none false,.a .no (some ([],.b false)) false,.a .no none false,.a .no none false,.a .no none false,.a (.row (Qe e27)) none false,.a .no none false,.a (.ln m2.length) none false,.a .no none false,.a .no none false,.a .no (some ([],.b false)) false,.a .no none false,.a .no none false,.a .no none false,.a .no none false,.a (.row (Qe e29)) none false,.a (.row (Qi e30)) none false,.a .no none false,.a (.ln e30.length) none false,.a .no none false,.a .no none false,.a .no (some ([],.b false)) false,.a .no none false,.a .no none false,.a .no (some ([],.b false)) false,.a .no none false,.a .no none false,.a .no none false,.a .no none false,.a .no none false,.a .no none false,.a .no none false,.a .no none false,.a .no none false,.a .no none false,.a .no none false,.a .no none false] [] [] [1,3,4,6,9,11,12,113] [4,6,66] rfl rfl rfl ⟨⟨⟨⟨⟨⟨⟨⟨⟨⟨⟨⟨⟨tt_,(QaX he25 rfl)⟩,(Qal (idxE he25).2)⟩,(congrArg V.b hc26)⟩,(QaX he27 rfl)⟩,(Qal (idxE he27).2)⟩,Qf⟩,(congrArg V.b hc28)⟩,(QaX he29 rfl)⟩,(Qal (idxE he29).2)⟩,(idxM he30)⟩,Qf⟩,(congrArg V.b hc31)⟩,(congrArg V.b hc32)⟩ rfl (by kernel_rfl) rfl rfl rfl ?_
           refine Qa hC [.keep [1,3,4,6,9,11,12,113] [4,6,66]] rfl tt_ ?_
           cases h
           exact AK.met rfl
      ·rintro σ rfl
       replace h:QdX i20 x23=some o:=h
       unfold QdX at h
       refine Qa hC [.n 1] rfl tt_ ?_
       rcases bifE h with⟨hc35,h⟩|⟨hc35,h⟩
       ·refine Qa hC [.br true,.n 8,.keep [8] []] rfl ⟨tt_,hc35⟩ ?_
        cases h
        exact rndR rfl (an_ rfl rfl)
       ·refine Qa hC [.br false,.n 8,.keep [1,3,4,6,9,11,12] [4,6,66]] rfl ⟨tt_,hc35⟩ ?_
        cases h
        exact rndN rfl rfl
     ·refine Qa hC [.br false,.n 2,.keep [1,3,4,6,9,11] [4,6,66]] rfl ⟨tt_,hc22⟩ ?_
      cases h
      exact rndX rfl (an_ rfl rfl)
    ·rcases o36 with(_ | _)
     ·replace h:QgK=some r:=h
      unfold QgK at h
      rintro e σ ⟨rfl,rfl⟩
      refine Qa hC [.n 2,.keep [8] []] rfl tt_ ?_
      cases h
      exact AK.done (ex_ [_] (an_ (an_ rfl tt_) (gives tt_)))
     ·replace h:QcB n1 m2 o3 budget4 x7 x19=some r:=h
      unfold QcB at h
      rintro e σ ⟨rfl,rfl⟩
      obtain⟨x37,hx37,h⟩:=Qb h
      obtain⟨x38,hx38,h⟩:=Qb h
      refine Qa hC [.n 4,.v .no [] (.agg (Qd n1)),.n 1,.v .no [] (.agg (Qj o3)),.n 1,.o (.c false [.d,.d,.d,.d] (.i .i64 x37)),.n 6,.v .no [] (.agg (Qd n1)),.n 1,.v .no [] (.agg (Qj o3)),.o (.c false [.d,.d,.d] (.i .i64 x38)),.n 3] rfl ⟨⟨⟨⟨⟨⟨tt_,rfl⟩,rfl⟩,(QeM _ _ _ _ hx37)⟩,rfl⟩,rfl⟩,(QkT _ _ _ hx38)⟩ ?_
      rcases bifE h with⟨hc39,h⟩|⟨hc39,h⟩
      ·refine Qa hC [.br true,.n 1] rfl ⟨tt_,hc39⟩ ?_
       refine AK.meetX (fun σ=>σ=⟨[(8,.b (x7&&(x37==0)))],[]⟩) ?_ ?_
       ·refine Qa hC [.n 3] rfl tt_ ?_
        rcases QJ x7 with hc41 | hc41
        ·refine Qa hC [.say 125 (.b true),.n 5,.say 8 (.b (x7&&(x37==0))),.keep [8] []] rfl ⟨⟨tt_,(congrArg V.b hc41)⟩,(congrArg V.b (andT hc41 rfl))⟩ ?_
         exact AK.met rfl
        ·refine Qa hC [.say 125 (.b false),.n 5,.say 8 (.b (x7&&(x37==0))),.keep [8] []] rfl ⟨⟨tt_,(congrArg V.b hc41)⟩,(congrArg V.b (andF hc41 rfl))⟩ ?_
         exact AK.met rfl
       ·rintro σ rfl
        refine Qa hC [.n 3,.keep [8] []] rfl tt_ ?_
        cases h
        exact AK.done (ex_ [_] (an_ (an_ rfl tt_) (gives tt_)))
      ·refine Qa hC [.br false,.n 3] rfl ⟨tt_,hc39⟩ ?_
       obtain⟨x42,hv43,h⟩:=Qb h
       replace h:QdZ x42=some r:=h
       refine AK.meetX (fun σ=>σ=⟨[(8,.b x42)],[]⟩) ?_ ?_
       ·replace h:=hv43
        unfold QdY at h
        refine Qa hC [.n 3] rfl tt_ ?_
        rcases bifE h with⟨hc44,h⟩|⟨hc44,h⟩
        ·refine Qa hC [.say 130 (.b true),.n 4] rfl ⟨tt_,(congrArg V.b hc44)⟩ ?_
         rcases bifE h with⟨hc45,h⟩|⟨hc45,h⟩
         ·obtain⟨e46,he46,h⟩:=Qb h
          refine Qa hC [.say 134 (.b true),.n 9,.o (.row (Qh e46)),.n 4] rfl ⟨⟨tt_,(congrArg V.b hc45)⟩,(idxM he46)⟩ ?_
          rcases bifE h with⟨hc47,h⟩|⟨hc47,h⟩
          ·refine Qa hC [.say 148 (.b true),.n 6,.keep [8] []] rfl ⟨tt_,(congrArg V.b hc47)⟩ ?_
           cases h
           exact AK.met rfl
          ·refine Qa hC [.say 148 (.b false),.n 6,.keep [8] []] rfl ⟨tt_,(congrArg V.b hc47)⟩ ?_
           cases h
           exact AK.met rfl
         ·refine Qa hC [.say 134 (.b false),.n 5] rfl ⟨tt_,(congrArg V.b hc45)⟩ ?_
          rcases bifE h with⟨hc48,h⟩|⟨hc48,h⟩
          ·obtain⟨e49,he49,h⟩:=Qb h
           refine Qa hC [.say 139 (.b true),.n 4,.o (.row (Qh e49)),.n 4] rfl ⟨⟨tt_,(congrArg V.b hc48)⟩,(idxM he49)⟩ ?_
           rcases bifE h with⟨hc50,h⟩|⟨hc50,h⟩
           ·refine Qa hC [.say 148 (.b true),.n 6,.keep [8] []] rfl ⟨tt_,(congrArg V.b hc50)⟩ ?_
            cases h
            exact AK.met rfl
           ·refine Qa hC [.say 148 (.b false),.n 6,.keep [8] []] rfl ⟨tt_,(congrArg V.b hc50)⟩ ?_
            cases h
            exact AK.met rfl
          ·refine Qa hC [.say 139 (.b false),.n 15,.keep [8] []] rfl ⟨tt_,(congrArg V.b hc48)⟩ ?_
           cases h
           exact AK.met rfl
        ·refine Qa hC [.say 130 (.b false),.n 24,.keep [8] []] rfl ⟨tt_,(congrArg V.b hc44)⟩ ?_
         cases h
         exact AK.met rfl
       ·rintro σ rfl
        replace h:QdZ x42=some r:=h
        unfold QdZ at h
        refine Qa hC [.n 2,.keep [8] []] rfl tt_ ?_
        cases h
        exact AK.done (ex_ [_] (an_ (an_ rfl tt_) (gives tt_)))

end Go.Proofs
