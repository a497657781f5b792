/- What functions of the program do, as functions over plain data, and the walks that show it: printed by a program. -/
import Derived.Test.YtphohlpbjofddaaGreatDoorL4T1
set_option linter.unusedVariables false
set_option linter.unusedSimpArgs false
set_option linter.unusedSectionVars false
set_option linter.deprecated false
set_option maxRecDepth 100000
set_option maxHeartbeats 4000000
noncomputable section
namespace Go.Proofs
open Go Go.RowKit Go.Vm
def Qfy (x13:(Int×QD)):Option Bool:=
 bif (x13.1 != 0)then
 some true
 else
 (Q2 x13.2).bind fun x17=>
 some (x17 != 0)
def Qbk (x22:Int)(l29:(List Qk)):Option ((Int×(List Qk))⊕((List Qk)⊕(List Qk))):=
 some (.inl ((w64 (x22+1)),l29))
def Qbl (x20:QLL)(p9:(List Int))(e30:(List Int))(v3:Int)(v4:Int)(x34:Int)(l35:(List Qk)):Option ((Int×(List Qk))⊕((List Qk)⊕(List Qk))):=
 bif (decide (x34<(x20.length:Int)))then
 (idx x20 x34).bind fun e41=>
 (Qau p9).bind fun x42=>
 (Qau e30).bind fun x43=>
 (Qau e41).bind fun x44=>
 (chk (decide (l35.length+([(Qk.mk v3 x42 x43 x44)]:List Qk).length≤4294967296))).bind fun _=>
 bif (((l35++[(Qk.mk v3 x42 x43 x44)]).length:Int)==v4)then
 some (.inr (.inl (l35++[(Qk.mk v3 x42 x43 x44)])))
 else
 some (.inl ((w64 (x34+1)),(l35++[(Qk.mk v3 x42 x43 x44)])))
 else
 some (.inr (.inr l35))
def Qfz (l38:(List Qk)):Option ((Int×(List Qk))⊕((List Qk)⊕(List Qk))):=
 some (.inr (.inl l38))
def QfA (x22:Int)(l39:(List Qk)):Option ((Int×(List Qk))⊕((List Qk)⊕(List Qk))):=
 Qbk x22 l39
def Qbm (v6:QLL)(x13:(Int×QD))(x20:QLL)(p9:(List Int))(v3:Int)(v4:Int)(x22:Int)(l23:(List Qk)):Option ((Int×(List Qk))⊕((List Qk)⊕(List Qk))):=
 bif (decide (x22<(v6.length:Int)))then
 (idx v6 x22).bind fun e30=>
 (Q4 x13.2 e30).bind fun x31=>
 bif (x31 != 0)then
 Qbk x22 l23
 else
 (QA (fun st=>Qbl x20 p9 e30 v3 v4 st.1 st.2) (0,l23)).bind (Sum.elim (fun q=>Qfz q) (fun q=>QfA x22 q))
 else
 some (.inr (.inr l23))
def QfB (l26:(List Qk)):Option ((List Qk)⊕(List Qk)):=
 some (.inl l26)
def QfC (l27:(List Qk)):Option ((List Qk)⊕(List Qk)):=
 some (.inr l27)
def Qb4 (l8:(List Qk))(v7:QLL)(x13:(Int×QD))(v6:QLL)(p9:(List Int))(v3:Int)(v4:Int)(x14:Bool):Option ((List Qk)⊕(List Qk)):=
 bif x14 then
 some (.inr l8)
 else
 (Qc8 v7).bind fun x19=>
 (Qa3 x19 x13.2).bind fun x20=>
 (QA (fun st=>Qbm v6 x13 x20 p9 v3 v4 st.1 st.2) (0,l8)).bind (Sum.elim (fun q=>QfB q) (fun q=>QfC q))
def QcX (v1:TNet)(v2:QMk)(v3:Int)(v4:Int)(l5:(List Qk))(v6:QLL)(v7:QLL)(l8:(List Qk))(p9:(List Int)):Option ((List Qk)⊕(List Qk)):=
 (Qbj v1 v2 v3 p9).bind fun x13=>
 (Qfy x13).bind (fun x14=>Qb4 l8 v7 x13 v6 p9 v3 v4 x14)
theorem QiZ (lpl lpf:Nat)(v1:TNet)(v2:QMk)(v3:Int)(v4:Int)(l5:(List Qk))(v6:QLL)(v7:QLL)(l8:(List Qk))(p9:(List Int)){r:((List Qk)⊕(List Qk))}(h:QcX v1 v2 v3 v4 l5 v6 v7 l8 p9=some r):QlP Tryz.prog lpl (Qaz lpf) [.J,.J,.J,.J,.loc 200001 0 0,.loc 200002 0 0,.loc 200003 0 0,.loc 200004 0 0,.loc 200005 0 0,.J,.loc 200006 0 0,.loc 200007 0 0,.loc 200008 0 0,.J,.J,.J,.J,.J,.J,.J,.J,.J,.J,.J,.J,.J,.J,.J,.J,.J,.J,.J,.J,.J,.J,.J,.J,.J,.J,.J,.J,.J,.J,.J,.J,.J,.J,.J,.J,.J,.J,.J,.J,.J,.sl 1 (p9.map Qe),.J,.J,.J,.J,.J,.J,.J,.J,.J,.J,.J,.J,.J,.J,.J,.J,.J,.J,.J,.J,.J,.J,.J,.J,.J,.J,.J,.J,.J,.J,.J,.J,.J,.J,.J,.J,.J,.J,.J,.J,.J,.J,.J,.J,.J,.J,.J,.J,.J,.J,.J,.J,.J,.J] [(200000,.lp lpl (Qaz lpf) [.J,.J,.J,.J,.loc 200001 0 0,.loc 200002 0 0,.loc 200003 0 0,.loc 200004 0 0,.loc 200005 0 0,.J,.loc 200006 0 0,.loc 200007 0 0,.loc 200008 0 0,.J,.J,.J,.J,.J,.J,.J,.J,.J,.J,.J,.J,.J,.J,.J,.J,.J,.J,.J,.J,.J,.J,.J,.J,.J,.J,.J,.J,.J,.J,.J,.J,.J,.J,.J,.J,.J,.J,.J,.J,.J,.J,.J,.J,.J,.J,.J,.J,.J,.J,.J,.J,.J,.J,.J,.J,.J,.J,.J,.J,.J,.J,.J,.J,.J,.J,.J,.J,.J,.J,.J,.J,.J,.J,.J,.J,.J,.J,.J,.J,.J,.J,.J,.J,.J,.J,.J,.J,.J,.J,.J,.J,.J,.J,.J,.J] 0),(200001,.var (Qd v1)),(200002,.var (Qs v2)),(200003,.var (Qe v3)),(200004,.var (Qe v4)),(200005,.var [.own 100000 l5.length]),(100000,.arr 4 (l5.map Qj)),(200006,.var (QH v6)),(200007,.var (QH v7)),(200008,.var [.own 100001 l8.length]),(100001,.arr 4 (l8.map Qj))] ((Sum.elim (fun q=>(Gives (.b false) [(100000,.arr 4 (l5.map Qj)),(100001,.arr 4 (q.map Qj)),(200000,.lp lpl (Qaz lpf) [.J,.J,.J,.J,.loc 200001 0 0,.loc 200002 0 0,.loc 200003 0 0,.loc 200004 0 0,.loc 200005 0 0,.J,.loc 200006 0 0,.loc 200007 0 0,.loc 200008 0 0,.J,.J,.J,.J,.J,.J,.J,.J,.J,.J,.J,.J,.J,.J,.J,.J,.J,.J,.J,.J,.J,.J,.J,.J,.J,.J,.J,.J,.J,.J,.J,.J,.J,.J,.J,.J,.J,.J,.J,.J,.J,.J,.J,.J,.J,.J,.J,.J,.J,.J,.J,.J,.J,.J,.J,.J,.J,.J,.J,.J,.J,.J,.J,.J,.J,.J,.J,.J,.J,.J,.J,.J,.J,.J,.J,.J,.J,.J,.J,.J,.J,.J,.J,.J,.J,.J,.J,.J,.J,.J,.J,.J,.J,.J,.J,.J] 2),(200001,.var (Qd v1)),(200002,.var (Qs v2)),(200003,.var (Qe v3)),(200004,.var (Qe v4)),(200005,.var [.own 100001 q.length]),(200006,.var (QH v6)),(200007,.var (QH v7)),(200008,.var [.own 100001 q.length])])) (fun q=>(Gives (.b true) [(100000,.arr 4 (l5.map Qj)),(100001,.arr 4 (q.map Qj)),(200000,.lp lpl (Qaz lpf) [.J,.J,.J,.J,.loc 200001 0 0,.loc 200002 0 0,.loc 200003 0 0,.loc 200004 0 0,.loc 200005 0 0,.J,.loc 200006 0 0,.loc 200007 0 0,.loc 200008 0 0,.J,.J,.J,.J,.J,.J,.J,.J,.J,.J,.J,.J,.J,.J,.J,.J,.J,.J,.J,.J,.J,.J,.J,.J,.J,.J,.J,.J,.J,.J,.J,.J,.J,.J,.J,.J,.J,.J,.J,.J,.J,.J,.J,.J,.J,.J,.J,.J,.J,.J,.J,.J,.J,.J,.J,.J,.J,.J,.J,.J,.J,.J,.J,.J,.J,.J,.J,.J,.J,.J,.J,.J,.J,.J,.J,.J,.J,.J,.J,.J,.J,.J,.J,.J,.J,.J,.J,.J,.J,.J,.J,.J,.J,.J,.J,.J] 0),(200001,.var (Qd v1)),(200002,.var (Qs v2)),(200003,.var (Qe v3)),(200004,.var (Qe v4)),(200005,.var [.own 100000 l5.length]),(200006,.var (QH v6)),(200007,.var (QH v7)),(200008,.var [.own 100001 q.length])]))) r):=by
 refine QlP.walk (b:=200000) 109 rfl rfl fun C hC=>?_
 unfold QcX at h
 refine Qa hC [.n 3] rfl tt_ ?_
 refine AK.done (an_ rfl (ex_ _ (an_ rfl ?_)))
 obtain⟨x13,hx13,h⟩:=Qb h
 refine Qa hC [.n 3,.v .no [] (.agg (Qd v1)),.n 3,.o (.c false [.d,.d,.d,.d] (.tup [.agg (Qq x13.2),.i .i64 x13.1])),.n 5,.sayO 14 (.var (Qq x13.2)),.n 5] rfl ⟨⟨⟨tt_,rfl⟩,(Qnv _ _ _ _ hx13)⟩,rfl⟩ ?_
 obtain⟨x14,hv15,h⟩:=Qb h
 replace h:Qb4 l8 v7 x13 v6 p9 v3 v4 x14=some r:=h
 refine AK.meetX (fun σ=>σ=⟨[(6,.loc 200003 0 0),(7,.loc 200004 0 0),(8,.loc 200005 0 0),(10,.loc 200006 0 0),(11,.loc 200007 0 0),(12,.loc 200008 0 0),(13,.sl 1 (p9.map Qe)),(14,.loc 14 0 0),(69,.b x14)],[(14,.var (Qq x13.2)),(100000,.arr 4 (l5.map Qj)),(100001,.arr 4 (l8.map Qj)),(200000,.lp lpl (Qaz lpf) [.J,.J,.J,.J,.loc 200001 0 0,.loc 200002 0 0,.loc 200003 0 0,.loc 200004 0 0,.loc 200005 0 0,.J,.loc 200006 0 0,.loc 200007 0 0,.loc 200008 0 0,.J,.J,.J,.J,.J,.J,.J,.J,.J,.J,.J,.J,.J,.J,.J,.J,.J,.J,.J,.J,.J,.J,.J,.J,.J,.J,.J,.J,.J,.J,.J,.J,.J,.J,.J,.J,.J,.J,.J,.J,.J,.J,.J,.J,.J,.J,.J,.J,.J,.J,.J,.J,.J,.J,.J,.J,.J,.J,.J,.J,.J,.J,.J,.J,.J,.J,.J,.J,.J,.J,.J,.J,.J,.J,.J,.J,.J,.J,.J,.J,.J,.J,.J,.J,.J,.J,.J,.J,.J,.J,.J,.J,.J,.J,.J,.J] 1),(200001,.var (Qd v1)),(200002,.var (Qs v2)),(200003,.var (Qe v3)),(200004,.var (Qe v4)),(200005,.var [.own 100000 l5.length]),(200006,.var (QH v6)),(200007,.var (QH v7)),(200008,.var [.own 100001 l8.length])]⟩) ?_ ?_
 ·replace h:=hv15
  unfold Qfy at h
  refine Qa hC [.n 4] rfl tt_ ?_
  rcases bifE h with⟨hc16,h⟩|⟨hc16,h⟩
  ·refine Qa hC [.say 65 (.b true),.n 5,.keep [6,7,8,10,11,12,13,14,69] [14,100000,100001,200000,200001,200002,200003,200004,200005,200006,200007,200008]] rfl ⟨tt_,(congrArg V.b hc16)⟩ ?_
   cases h
   exact AK.met rfl
  ·obtain⟨x17,hx17,h⟩:=Qb h
   refine Qa hC [.say 65 (.b false),.v .no [] (.agg (Qq x13.2)),.o (.c false [.d] (.i .i64 x17)),.n 3,.keep [6,7,8,10,11,12,13,14,69] [14,100000,100001,200000,200001,200002,200003,200004,200005,200006,200007,200008]] rfl ⟨⟨⟨tt_,(congrArg V.b hc16)⟩,rfl⟩,(QiW _ hx17)⟩ ?_
   cases h
   exact AK.met rfl
 ·rintro σ rfl
  replace h:Qb4 l8 v7 x13 v6 p9 v3 v4 x14=some r:=h
  unfold Qb4 at h
  refine Qa hC [.n 1] rfl tt_ ?_
  rcases bifE h with⟨hc18,h⟩|⟨hc18,h⟩
  ·refine Qa hC [.br true,.n 3,.keep [] [100000,100001,200000,200001,200002,200003,200004,200005,200006,200007,200008]] rfl ⟨tt_,hc18⟩ ?_
   cases h
   refine AK.done ?_
   exact ex_ _ (an_ rfl (gives ⟨rfl,rfl,rfl,rfl,rfl,rfl,rfl,rfl,rfl,rfl,rfl,tt_⟩))
  ·obtain⟨x19,hx19,h⟩:=Qb h
   obtain⟨x20,hx20,h⟩:=Qb h
   refine Qa hC [.br false,.n 5,.o (.co false [.d] 1 (x19.map Qz) x19.length),.n 1,.cm (.fn) [(200000,71),(200001,14)] [(71,200000),(14,200001)] [] [.d,.d] [(200000,.arr 1 (x20.map Qz)),(200001,.var (Qq x13.2))] (.own 200000 x20.length),.n 6,.o (.ln v6.length),.n 4,.keep [6,7,8,12,13,14,16,74,75,76] [14,71,100000,100001,200000,200001,200002,200003,200004,200005,200006,200007,200008]] rfl ⟨⟨⟨⟨tt_,hc18⟩,⟨(Qlt _ hx19),Qf,.inl rfl⟩⟩,(QjS _ _ hx20)⟩,Qf⟩ ?_
   obtain⟨o48,hl48,h⟩:=Qb h
   refine AK.loop (body:=(fun st=>Qbm v6 x13 x20 p9 v3 v4 st.1 st.2)) (fun st σ=>σ=⟨[(6,.loc 200003 0 0),(7,.loc 200004 0 0),(8,.loc 200005 0 0),(12,.loc 200008 0 0),(13,.sl 1 (p9.map Qe)),(14,.loc 14 0 0),(16,.own 71 x20.length),(74,.sl 1 (v6.map Qz)),(75,.i .i64 (v6.length:Int)),(76,.i .i64 st.1)],[(14,.var (Qq x13.2)),(71,.arr 1 (x20.map Qz)),(100000,.arr 4 (l5.map Qj)),(100001,.arr 4 (st.2.map Qj)),(200000,.lp lpl (Qaz lpf) [.J,.J,.J,.J,.loc 200001 0 0,.loc 200002 0 0,.loc 200003 0 0,.loc 200004 0 0,.loc 200005 0 0,.J,.loc 200006 0 0,.loc 200007 0 0,.loc 200008 0 0,.J,.J,.J,.J,.J,.J,.J,.J,.J,.J,.J,.J,.J,.J,.J,.J,.J,.J,.J,.J,.J,.J,.J,.J,.J,.J,.J,.J,.J,.J,.J,.J,.J,.J,.J,.J,.J,.J,.J,.J,.J,.J,.J,.J,.J,.J,.J,.J,.J,.J,.J,.J,.J,.J,.J,.J,.J,.J,.J,.J,.J,.J,.J,.J,.J,.J,.J,.J,.J,.J,.J,.J,.J,.J,.J,.J,.J,.J,.J,.J,.J,.J,.J,.J,.J,.J,.J,.J,.J,.J,.J,.J,.J,.J,.J,.J] 1),(200001,.var (Qd v1)),(200002,.var (Qs v2)),(200003,.var (Qe v3)),(200004,.var (Qe v4)),(200005,.var [.own 100000 l5.length]),(200006,.var (QH v6)),(200007,.var (QH v7)),(200008,.var [.own 100001 st.2.length])]⟩) (Sum.elim (fun q e σ=>e=.ret∧σ=⟨[],[(100000,.arr 4 (l5.map Qj)),(100001,.arr 4 (q.map Qj)),(200000,.lp lpl (Qaz lpf) [.J,.J,.J,.J,.loc 200001 0 0,.loc 200002 0 0,.loc 200003 0 0,.loc 200004 0 0,.loc 200005 0 0,.J,.loc 200006 0 0,.loc 200007 0 0,.loc 200008 0 0,.J,.J,.J,.J,.J,.J,.J,.J,.J,.J,.J,.J,.J,.J,.J,.J,.J,.J,.J,.J,.J,.J,.J,.J,.J,.J,.J,.J,.J,.J,.J,.J,.J,.J,.J,.J,.J,.J,.J,.J,.J,.J,.J,.J,.J,.J,.J,.J,.J,.J,.J,.J,.J,.J,.J,.J,.J,.J,.J,.J,.J,.J,.J,.J,.J,.J,.J,.J,.J,.J,.J,.J,.J,.J,.J,.J,.J,.J,.J,.J,.J,.J,.J,.J,.J,.J,.J,.J,.J,.J,.J,.J,.J,.J,.J,.J] 1),(200001,.var (Qd v1)),(200002,.var (Qs v2)),(200003,.var (Qe v3)),(200004,.var (Qe v4)),(200005,.var [.own 100001 q.length]),(200006,.var (QH v6)),(200007,.var (QH v7)),(200008,.var [.own 100001 q.length])]⟩) (fun q e σ=>e=.exit 2∧σ=⟨[],[(100000,.arr 4 (l5.map Qj)),(100001,.arr 4 (q.map Qj)),(200000,.lp lpl (Qaz lpf) [.J,.J,.J,.J,.loc 200001 0 0,.loc 200002 0 0,.loc 200003 0 0,.loc 200004 0 0,.loc 200005 0 0,.J,.loc 200006 0 0,.loc 200007 0 0,.loc 200008 0 0,.J,.J,.J,.J,.J,.J,.J,.J,.J,.J,.J,.J,.J,.J,.J,.J,.J,.J,.J,.J,.J,.J,.J,.J,.J,.J,.J,.J,.J,.J,.J,.J,.J,.J,.J,.J,.J,.J,.J,.J,.J,.J,.J,.J,.J,.J,.J,.J,.J,.J,.J,.J,.J,.J,.J,.J,.J,.J,.J,.J,.J,.J,.J,.J,.J,.J,.J,.J,.J,.J,.J,.J,.J,.J,.J,.J,.J,.J,.J,.J,.J,.J,.J,.J,.J,.J,.J,.J,.J,.J,.J,.J,.J,.J,.J,.J] 1),(200001,.var (Qd v1)),(200002,.var (Qs v2)),(200003,.var (Qe v3)),(200004,.var (Qe v4)),(200005,.var [.own 100000 l5.length]),(200006,.var (QH v6)),(200007,.var (QH v7)),(200008,.var [.own 100001 q.length])]⟩)) hl48 rfl ?_ ?_
   ·rintro ⟨x22,l23⟩ o σ rfl h
    replace h:Qbm v6 x13 x20 p9 v3 v4 x22 l23=some o:=h
    unfold Qbm at h
    refine Qa hC [.n 6] rfl tt_ ?_
    rcases bifE h with⟨hc28,h⟩|⟨hc28,h⟩
    ·refine Qa hC [.br true,.n 2] rfl ⟨tt_,hc28⟩ ?_
     refine AK.meet (fun σ=>∃l29:(List Qk),σ=⟨[(6,.loc 200003 0 0),(7,.loc 200004 0 0),(8,.loc 200005 0 0),(12,.loc 200008 0 0),(13,.sl 1 (p9.map Qe)),(14,.loc 14 0 0),(16,.own 71 x20.length),(74,.sl 1 (v6.map Qz)),(75,.i .i64 (v6.length:Int)),(76,.i .i64 x22)],[(14,.var (Qq x13.2)),(71,.arr 1 (x20.map Qz)),(100000,.arr 4 (l5.map Qj)),(100001,.arr 4 (l29.map Qj)),(200000,.lp lpl (Qaz lpf) [.J,.J,.J,.J,.loc 200001 0 0,.loc 200002 0 0,.loc 200003 0 0,.loc 200004 0 0,.loc 200005 0 0,.J,.loc 200006 0 0,.loc 200007 0 0,.loc 200008 0 0,.J,.J,.J,.J,.J,.J,.J,.J,.J,.J,.J,.J,.J,.J,.J,.J,.J,.J,.J,.J,.J,.J,.J,.J,.J,.J,.J,.J,.J,.J,.J,.J,.J,.J,.J,.J,.J,.J,.J,.J,.J,.J,.J,.J,.J,.J,.J,.J,.J,.J,.J,.J,.J,.J,.J,.J,.J,.J,.J,.J,.J,.J,.J,.J,.J,.J,.J,.J,.J,.J,.J,.J,.J,.J,.J,.J,.J,.J,.J,.J,.J,.J,.J,.J,.J,.J,.J,.J,.J,.J,.J,.J,.J,.J,.J,.J] 1),(200001,.var (Qd v1)),(200002,.var (Qs v2)),(200003,.var (Qe v3)),(200004,.var (Qe v4)),(200005,.var [.own 100000 l5.length]),(200006,.var (QH v6)),(200007,.var (QH v7)),(200008,.var [.own 100001 l29.length])]⟩∧Qbk x22 l29=some o) ?_ ?_
     ·obtain⟨e30,he30,h⟩:=Qb h
      obtain⟨x31,hx31,h⟩:=Qb h
      refine Qa hC [.n 3,.o (.row (Qz e30)),.n 7,.v .no [] (.agg (Qq x13.2)),.n 1,.o (.c false [.d,.d] (.i .i64 x31)),.n 3] rfl ⟨⟨⟨tt_,(idxM he30)⟩,rfl⟩,(QjU _ _ hx31)⟩ ?_
      rcases bifE h with⟨hc32,h⟩|⟨hc32,h⟩
      ·refine Qa hC [.br true,.n 3,.keep [6,7,8,12,13,14,16,74,75,76] [14,71,100000,100001,200000,200001,200002,200003,200004,200005,200006,200007,200008]] rfl ⟨tt_,hc32⟩ ?_
       exact AK.met (ex_ _ (an_ rfl h))
      ·refine Qa hC [.br false,.n 10,.keep [6,7,8,12,13,14,16,18,74,75,76,84,85,86] [14,71,100000,100001,200000,200001,200002,200003,200004,200005,200006,200007,200008]] rfl ⟨tt_,hc32⟩ ?_
       obtain⟨o47,hl47,h⟩:=Qb h
       refine AK.loop (body:=(fun st=>Qbl x20 p9 e30 v3 v4 st.1 st.2)) (fun st σ=>σ=⟨[(6,.loc 200003 0 0),(7,.loc 200004 0 0),(8,.loc 200005 0 0),(12,.loc 200008 0 0),(13,.sl 1 (p9.map Qe)),(14,.loc 14 0 0),(16,.own 71 x20.length),(18,.sl 1 (e30.map Qe)),(74,.sl 1 (v6.map Qz)),(75,.i .i64 (v6.length:Int)),(76,.i .i64 x22),(84,.own 71 x20.length),(85,.i .i64 (x20.length:Int)),(86,.i .i64 st.1)],[(14,.var (Qq x13.2)),(71,.arr 1 (x20.map Qz)),(100000,.arr 4 (l5.map Qj)),(100001,.arr 4 (st.2.map Qj)),(200000,.lp lpl (Qaz lpf) [.J,.J,.J,.J,.loc 200001 0 0,.loc 200002 0 0,.loc 200003 0 0,.loc 200004 0 0,.loc 200005 0 0,.J,.loc 200006 0 0,.loc 200007 0 0,.loc 200008 0 0,.J,.J,.J,.J,.J,.J,.J,.J,.J,.J,.J,.J,.J,.J,.J,.J,.J,.J,.J,.J,.J,.J,.J,.J,.J,.J,.J,.J,.J,.J,.J,.J,.J,.J,.J,.J,.J,.J,.J,.J,.J,.J,.J,.J,.J,.J,.J,.J,.J,.J,.J,.J,.J,.J,.J,.J,.J,.J,.J,.J,.J,.J,.J,.J,.J,.J,.J,.J,.J,.J,.J,.J,.J,.J,.J,.J,.J,.J,.J,.J,.J,.J,.J,.J,.J,.J,.J,.J,.J,.J,.J,.J,.J,.J,.J,.J] 1),(200001,.var (Qd v1)),(200002,.var (Qs v2)),(200003,.var (Qe v3)),(200004,.var (Qe v4)),(200005,.var [.own 100000 l5.length]),(200006,.var (QH v6)),(200007,.var (QH v7)),(200008,.var [.own 100001 st.2.length])]⟩) (Sum.elim (fun q e σ=>e=.ret∧σ=⟨[],[(100000,.arr 4 (l5.map Qj)),(100001,.arr 4 (q.map Qj)),(200000,.lp lpl (Qaz lpf) [.J,.J,.J,.J,.loc 200001 0 0,.loc 200002 0 0,.loc 200003 0 0,.loc 200004 0 0,.loc 200005 0 0,.J,.loc 200006 0 0,.loc 200007 0 0,.loc 200008 0 0,.J,.J,.J,.J,.J,.J,.J,.J,.J,.J,.J,.J,.J,.J,.J,.J,.J,.J,.J,.J,.J,.J,.J,.J,.J,.J,.J,.J,.J,.J,.J,.J,.J,.J,.J,.J,.J,.J,.J,.J,.J,.J,.J,.J,.J,.J,.J,.J,.J,.J,.J,.J,.J,.J,.J,.J,.J,.J,.J,.J,.J,.J,.J,.J,.J,.J,.J,.J,.J,.J,.J,.J,.J,.J,.J,.J,.J,.J,.J,.J,.J,.J,.J,.J,.J,.J,.J,.J,.J,.J,.J,.J,.J,.J,.J,.J] 1),(200001,.var (Qd v1)),(200002,.var (Qs v2)),(200003,.var (Qe v3)),(200004,.var (Qe v4)),(200005,.var [.own 100001 q.length]),(200006,.var (QH v6)),(200007,.var (QH v7)),(200008,.var [.own 100001 q.length])]⟩) (fun q e σ=>e=.exit 4∧σ=⟨[(6,.loc 200003 0 0),(7,.loc 200004 0 0),(8,.loc 200005 0 0),(12,.loc 200008 0 0),(13,.sl 1 (p9.map Qe)),(14,.loc 14 0 0),(16,.own 71 x20.length),(74,.sl 1 (v6.map Qz)),(75,.i .i64 (v6.length:Int)),(76,.i .i64 x22)],[(14,.var (Qq x13.2)),(71,.arr 1 (x20.map Qz)),(100000,.arr 4 (l5.map Qj)),(100001,.arr 4 (q.map Qj)),(200000,.lp lpl (Qaz lpf) [.J,.J,.J,.J,.loc 200001 0 0,.loc 200002 0 0,.loc 200003 0 0,.loc 200004 0 0,.loc 200005 0 0,.J,.loc 200006 0 0,.loc 200007 0 0,.loc 200008 0 0,.J,.J,.J,.J,.J,.J,.J,.J,.J,.J,.J,.J,.J,.J,.J,.J,.J,.J,.J,.J,.J,.J,.J,.J,.J,.J,.J,.J,.J,.J,.J,.J,.J,.J,.J,.J,.J,.J,.J,.J,.J,.J,.J,.J,.J,.J,.J,.J,.J,.J,.J,.J,.J,.J,.J,.J,.J,.J,.J,.J,.J,.J,.J,.J,.J,.J,.J,.J,.J,.J,.J,.J,.J,.J,.J,.J,.J,.J,.J,.J,.J,.J,.J,.J,.J,.J,.J,.J,.J,.J,.J,.J,.J,.J,.J,.J] 1),(200001,.var (Qd v1)),(200002,.var (Qs v2)),(200003,.var (Qe v3)),(200004,.var (Qe v4)),(200005,.var [.own 100000 l5.length]),(200006,.var (QH v6)),(200007,.var (QH v7)),(200008,.var [.own 100001 q.length])]⟩)) hl47 rfl ?_ ?_
       ·rintro ⟨x34,l35⟩ o σ rfl h
        replace h:Qbl x20 p9 e30 v3 v4 x34 l35=some o:=h
        unfold Qbl at h
        refine Qa hC [.n 6] rfl tt_ ?_
        rcases bifE h with⟨hc40,h⟩|⟨hc40,h⟩
        ·obtain⟨e41,he41,h⟩:=Qb h
         obtain⟨x42,hx42,h⟩:=Qb h
         obtain⟨x43,hx43,h⟩:=Qb h
         obtain⟨x44,hx44,h⟩:=Qb h
         obtain⟨_,hk45,h⟩:=Qb h
         replace hk45:=chkE hk45
         refine Qa hC [.br true,.n 7,.o (.row (Qz e41)),.n 4,.keep [6,7,8,12,13,14,16,18,20,74,75,76,84,85,86] [14,71,100000,100001,200000,200001,200002,200003,200004,200005,200006,200007,200008]] rfl ⟨⟨⟨tt_,hc40⟩,(QdE he41 rfl)⟩,(QbZ (idxE he41).2)⟩ ?_
         refine AK.draw2 Qo hC mixed [.a .no none false,.a .no none false,.a .no none false,.a (.cd false [.d] 1 (x42.map Qe) x42.length) none false,.a .no none false,.a (.cd false [.d] 1 (x43.map Qe) x43.length) none false,.a .no none false,.a (.cd false [.d] 1 (x44.map Qe) x44.length) none false,.a .no (some ([],.agg (Qj (Qk.mk v3 x42 x43 x44)))) false,.a (.bd []) (some ([],.sl 4 (([(Qk.mk v3 x42 x43 x44)]:List Qk).map Qj))) false,.m (.app ((l35++[(Qk.mk v3 x42 x43 x44)]).map Qj) (l35++[(Qk.mk v3 x42 x43 x44)]).length),.m .s] [] [] [6,7,8,12,13,14,16,18,74,75,76,84,85,86] [14,71,100000,100001,200000,200001,200002,200003,200004,200005,200006,200007,200008] rfl rfl rfl ⟨⟨⟨⟨⟨⟨tt_,⟨(QbO _ hx42),Qf⟩⟩,⟨(QbO _ hx43),Qf⟩⟩,⟨(QbO _ hx44),Qf⟩⟩,rfl⟩,rfl⟩,⟨Qf,Qdf hk45 Qf,Qcc,QeV Qf⟩⟩ rfl (by kernel_rfl) rfl rfl rfl ?_
         refine Qa hC [.sayO 200008 (.var [.own 100001 (l35++[(Qk.mk v3 x42 x43 x44)]).length]),.n 9] rfl ⟨tt_,rfl⟩ ?_
         rcases bifE h with⟨hc46,h⟩|⟨hc46,h⟩
         ·refine Qa hC [.br true,.n 4,.sayO 200005 (.var [.own 100001 (l35++[(Qk.mk v3 x42 x43 x44)]).length]),.n 5,.keep [] [100000,100001,200000,200001,200002,200003,200004,200005,200006,200007,200008]] rfl ⟨⟨tt_,hc46⟩,rfl⟩ ?_
          cases h
          exact rndR rfl (an_ rfl rfl)
         ·refine Qa hC [.br false,.n 7,.keep [6,7,8,12,13,14,16,18,74,75,76,84,85,86] [14,71,100000,100001,200000,200001,200002,200003,200004,200005,200006,200007,200008]] rfl ⟨tt_,hc46⟩ ?_
          cases h
          exact rndN rfl rfl
        ·refine Qa hC [.br false,.n 2,.keep [6,7,8,12,13,14,16,74,75,76] [14,71,100000,100001,200000,200001,200002,200003,200004,200005,200006,200007,200008]] rfl ⟨tt_,hc40⟩ ?_
         cases h
         exact rndX rfl (an_ rfl rfl)
       ·rcases o47 with(l38 | l39)
        ·replace h:Qfz l38=some o:=h
         unfold Qfz at h
         rintro e σ ⟨rfl,rfl⟩
         refine Qa hC [.n 3,.keep [] [100000,100001,200000,200001,200002,200003,200004,200005,200006,200007,200008]] rfl tt_ ?_
         cases h
         exact rndR rfl (an_ rfl rfl)
        ·replace h:QfA x22 l39=some o:=h
         unfold QfA at h
         rintro e σ ⟨rfl,rfl⟩
         refine Qa hC [.n 2,.keep [6,7,8,12,13,14,16,74,75,76] [14,71,100000,100001,200000,200001,200002,200003,200004,200005,200006,200007,200008]] rfl tt_ ?_
         exact AK.met (ex_ _ (an_ rfl h))
     ·rintro σ ⟨l29,rfl,h⟩
      unfold Qbk at h
      refine Qa hC [.n 4,.keep [6,7,8,12,13,14,16,74,75,76] [14,71,100000,100001,200000,200001,200002,200003,200004,200005,200006,200007,200008]] rfl tt_ ?_
      cases h
      exact rndN rfl rfl
    ·refine Qa hC [.br false,.n 2,.keep [] [100000,100001,200000,200001,200002,200003,200004,200005,200006,200007,200008]] rfl ⟨tt_,hc28⟩ ?_
     cases h
     exact rndX rfl (an_ rfl rfl)
   ·rcases o48 with(l26 | l27)
    ·replace h:QfB l26=some r:=h
     unfold QfB at h
     rintro e σ ⟨rfl,rfl⟩
     refine Qa hC [.n 2,.keep [] [100000,100001,200000,200001,200002,200003,200004,200005,200006,200007,200008]] rfl tt_ ?_
     cases h
     refine AK.done ?_
     exact ex_ _ (an_ rfl (gives ⟨rfl,rfl,rfl,rfl,rfl,rfl,rfl,rfl,rfl,rfl,rfl,tt_⟩))
    ·replace h:QfC l27=some r:=h
     unfold QfC at h
     rintro e σ ⟨rfl,rfl⟩
     refine Qa hC [.n 2,.keep [] [100000,100001,200000,200001,200002,200003,200004,200005,200006,200007,200008]] rfl tt_ ?_
     cases h
     refine AK.done ?_
     exact ex_ _ (an_ rfl (gives ⟨rfl,rfl,rfl,rfl,rfl,rfl,rfl,rfl,rfl,rfl,rfl,tt_⟩))
def QaG (l1:(List QB))(k2:Int):Option Int:=
 (Qd1 l1 k2).bind fun x5=>
 bif (!x5.1)then
 some 0
 else
 (idx x5.2.sizes k2).bind fun e7=>
 some e7
theorem QhR (l1:(List QB))(k2:Int){r:Int}(h:QaG l1 k2=some r):Qc Tryz.prog 110 [.sl 7 (l1.map Qw),.i .i64 k2] [] (Gives (.i .i64 r) []):=by
 refine Qc.walk 20 Tryz.func110 rfl Tryz.ntmps110 rfl fun C hC=>?_
 unfold QaG at h
 obtain⟨x5,hx5,h⟩:=Qb h
 refine Qa hC [.n 9,.o (.c false [.d,.d] (.tup [.agg (QL x5.2),.b x5.1])),.n 5,.sayO 5 (.var (QL x5.2)),.n 10] rfl ⟨⟨tt_,(Qls _ _ hx5)⟩,rfl⟩ ?_
 rcases bifE h with⟨hc6,h⟩|⟨hc6,h⟩
 ·refine Qa hC [.br true,.n 7,.keep [4] []] rfl ⟨tt_,hc6⟩ ?_
  cases h
  exact AK.done (ex_ [_] (an_ (an_ rfl tt_) (gives tt_)))
 ·obtain⟨e7,he7,h⟩:=Qb h
  refine Qa hC [.br false,.n 7,.o (.row (Qe e7)),.n 5,.keep [4] []] rfl ⟨⟨tt_,hc6⟩,(idxM he7)⟩ ?_
  cases h
  exact AK.done (ex_ [_] (an_ (an_ rfl tt_) (gives tt_)))
def QhS (a22:(List Qk)):Option (((List Int)×(List Qk))⊕((List Qk)⊕(List Qk))):=
 some (.inr (.inr a22))
def QhT (at_25:Int)(l26:(List Int))(v9:Qr)(v10:TNet):Option Bool:=
 bif (decide (0≤at_25))then
 (idx l26 at_25).bind fun e34=>
 (idx v9.Vars at_25).bind fun e35=>
 (QaG v10.Colours e35.Colour).bind fun x36=>
 some (decide (x36≤(w64 (e34+1))))
 else
 some false
def Qdi (l26:(List Int))(at_25:Int)(x31:Bool):Option ((Int×(List Int))⊕(Int×(List Int))):=
 bif x31 then
 (idx l26 at_25).bind fun e38=>
 some (.inl ((w64 (at_25-1)),(l26.set at_25.toNat 0)))
 else
 some (.inr (at_25,l26))
def Qbz (v9:Qr)(v10:TNet)(at_25:Int)(l26:(List Int)):Option ((Int×(List Int))⊕(Int×(List Int))):=
 (QhT at_25 l26 v9 v10).bind (fun x31=>Qdi l26 at_25 x31)
def Qdj (a23:(List Qk))(at_29:Int)(l30:(List Int)):Option (((List Int)×(List Qk))⊕((List Qk)⊕(List Qk))):=
 bif (decide (at_29<0))then
 some (.inr (.inl a23))
 else
 (idx l30 at_29).bind fun e41=>
 (idx l30 at_29).bind fun e42=>
 some (.inl ((l30.set at_29.toNat (w64 (e41+1))),a23))
def Qdk (v9:Qr)(v10:TNet)(l14:(List Int))(a23:(List Qk)):Option (((List Int)×(List Qk))⊕((List Qk)⊕(List Qk))):=
 (QA (fun st=>Qbz v9 v10 st.1 st.2) ((w64 ((l14.length:Int)-1)),l14)).bind (fun q=>Qdj a23 q.1 q.2)
def Qcf (v1:TNet)(v2:QMk)(v3:Int)(v4:Int)(l5:(List Qk))(v6:QLL)(v7:QLL)(v9:Qr)(v10:TNet)(l14:(List Int))(l15:(List Qk)):Option (((List Int)×(List Qk))⊕((List Qk)⊕(List Qk))):=
 (Qau l14).bind fun x20=>
 (QcX v1 v2 v3 v4 l5 v6 v7 l15 x20).bind (Sum.elim (fun q=>QhS q) (fun q=>Qdk v9 v10 l14 q))
def QhU (l18:(List Qk)):Option ((List Qk)⊕(List Qk)):=
 some (.inl l18)
def QhV (l19:(List Qk)):Option ((List Qk)⊕(List Qk)):=
 some (.inr l19)
def QeJ (v1:TNet)(v2:QMk)(v3:Int)(v4:Int)(l5:(List Qk))(v6:QLL)(v7:QLL)(l8:(List Qk))(v9:Qr)(v10:TNet):Option ((List Qk)⊕(List Qk)):=
 (chk (decide (0≤(v9.Vars.length:Int))&&decide ((v9.Vars.length:Int)≤(v9.Vars.length:Int))&&decide ((v9.Vars.length:Int)≤4294967296))).bind fun _=>
 (QA (fun st=>Qcf v1 v2 v3 v4 l5 v6 v7 v9 v10 st.1 st.2) ((List.replicate (v9.Vars.length:Int).toNat (0:Int)),l8)).bind (Sum.elim (fun q=>QhU q) (fun q=>QhV q))
theorem Qk5 (lpl lpf:Nat)(v1:TNet)(v2:QMk)(v3:Int)(v4:Int)(l5:(List Qk))(v6:QLL)(v7:QLL)(l8:(List Qk))(v9:Qr)(v10:TNet){r:((List Qk)⊕(List Qk))}(h:QeJ v1 v2 v3 v4 l5 v6 v7 l8 v9 v10=some r):Qc Tryz.prog 136 [.clo (.yield lpl) [] [],.loc 200009 0 0,.loc 200010 0 0] [(200000,.lp lpl (Qaz lpf) [.J,.J,.J,.J,.loc 200001 0 0,.loc 200002 0 0,.loc 200003 0 0,.loc 200004 0 0,.loc 200005 0 0,.J,.loc 200006 0 0,.loc 200007 0 0,.loc 200008 0 0,.J,.J,.J,.J,.J,.J,.J,.J,.J,.J,.J,.J,.J,.J,.J,.J,.J,.J,.J,.J,.J,.J,.J,.J,.J,.J,.J,.J,.J,.J,.J,.J,.J,.J,.J,.J,.J,.J,.J,.J,.J,.J,.J,.J,.J,.J,.J,.J,.J,.J,.J,.J,.J,.J,.J,.J,.J,.J,.J,.J,.J,.J,.J,.J,.J,.J,.J,.J,.J,.J,.J,.J,.J,.J,.J,.J,.J,.J,.J,.J,.J,.J,.J,.J,.J,.J,.J,.J,.J,.J,.J,.J,.J,.J,.J,.J] 0),(200001,.var (Qd v1)),(200002,.var (Qs v2)),(200003,.var (Qe v3)),(200004,.var (Qe v4)),(200005,.var [.own 100000 l5.length]),(100000,.arr 4 (l5.map Qj)),(200006,.var (QH v6)),(200007,.var (QH v7)),(200008,.var [.own 100001 l8.length]),(100001,.arr 4 (l8.map Qj)),(200009,.var (Qi v9)),(200010,.var (Qd v10))] ((Sum.elim (fun q=>(Gives (.tup []) [(100000,.arr 4 (l5.map Qj)),(100001,.arr 4 (q.map Qj)),(200000,.lp lpl (Qaz lpf) [.J,.J,.J,.J,.loc 200001 0 0,.loc 200002 0 0,.loc 200003 0 0,.loc 200004 0 0,.loc 200005 0 0,.J,.loc 200006 0 0,.loc 200007 0 0,.loc 200008 0 0,.J,.J,.J,.J,.J,.J,.J,.J,.J,.J,.J,.J,.J,.J,.J,.J,.J,.J,.J,.J,.J,.J,.J,.J,.J,.J,.J,.J,.J,.J,.J,.J,.J,.J,.J,.J,.J,.J,.J,.J,.J,.J,.J,.J,.J,.J,.J,.J,.J,.J,.J,.J,.J,.J,.J,.J,.J,.J,.J,.J,.J,.J,.J,.J,.J,.J,.J,.J,.J,.J,.J,.J,.J,.J,.J,.J,.J,.J,.J,.J,.J,.J,.J,.J,.J,.J,.J,.J,.J,.J,.J,.J,.J,.J,.J,.J] 0),(200001,.var (Qd v1)),(200002,.var (Qs v2)),(200003,.var (Qe v3)),(200004,.var (Qe v4)),(200005,.var [.own 100000 l5.length]),(200006,.var (QH v6)),(200007,.var (QH v7)),(200008,.var [.own 100001 q.length]),(200009,.var (Qi v9)),(200010,.var (Qd v10))])) (fun q=>(Gives (.tup []) [(100000,.arr 4 (l5.map Qj)),(100001,.arr 4 (q.map Qj)),(200000,.lp lpl (Qaz lpf) [.J,.J,.J,.J,.loc 200001 0 0,.loc 200002 0 0,.loc 200003 0 0,.loc 200004 0 0,.loc 200005 0 0,.J,.loc 200006 0 0,.loc 200007 0 0,.loc 200008 0 0,.J,.J,.J,.J,.J,.J,.J,.J,.J,.J,.J,.J,.J,.J,.J,.J,.J,.J,.J,.J,.J,.J,.J,.J,.J,.J,.J,.J,.J,.J,.J,.J,.J,.J,.J,.J,.J,.J,.J,.J,.J,.J,.J,.J,.J,.J,.J,.J,.J,.J,.J,.J,.J,.J,.J,.J,.J,.J,.J,.J,.J,.J,.J,.J,.J,.J,.J,.J,.J,.J,.J,.J,.J,.J,.J,.J,.J,.J,.J,.J,.J,.J,.J,.J,.J,.J,.J,.J,.J,.J,.J,.J,.J,.J,.J,.J] 2),(200001,.var (Qd v1)),(200002,.var (Qs v2)),(200003,.var (Qe v3)),(200004,.var (Qe v4)),(200005,.var [.own 100001 q.length]),(200006,.var (QH v6)),(200007,.var (QH v7)),(200008,.var [.own 100001 q.length]),(200009,.var (Qi v9)),(200010,.var (Qd v10))]))) r):=by
 refine Qc.walk 50 Tryz.func136 rfl Tryz.ntmps136 rfl fun C hC=>?_
 unfold QeJ at h
 obtain⟨_,hk13,h⟩:=Qb h
 replace hk13:=chkE hk13
 refine Qa hC [.n 4,.o (.ln v9.Vars.length),.o (.rows ((List.replicate (v9.Vars.length:Int).toNat (0:Int)).map Qe)),.say 9 (.own 9 (List.replicate (v9.Vars.length:Int).toNat (0:Int)).length),.n 4,.keep [0,1,2,4] [9,100000,100001,200000,200001,200002,200003,200004,200005,200006,200007,200008,200009,200010]] rfl ⟨⟨⟨tt_,Qf⟩,⟨hk13,Qvx rfl⟩⟩,(by simp)⟩ ?_
 obtain⟨o43,hl43,h⟩:=Qb h
 refine AK.loop (body:=(fun st=>Qcf v1 v2 v3 v4 l5 v6 v7 v9 v10 st.1 st.2)) (fun st σ=>σ=⟨[(0,.clo (.yield lpl) [] []),(1,.loc 200009 0 0),(2,.loc 200010 0 0),(4,.own 9 st.1.length)],[(9,.arr 1 (st.1.map Qe)),(100000,.arr 4 (l5.map Qj)),(100001,.arr 4 (st.2.map Qj)),(200000,.lp lpl (Qaz lpf) [.J,.J,.J,.J,.loc 200001 0 0,.loc 200002 0 0,.loc 200003 0 0,.loc 200004 0 0,.loc 200005 0 0,.J,.loc 200006 0 0,.loc 200007 0 0,.loc 200008 0 0,.J,.J,.J,.J,.J,.J,.J,.J,.J,.J,.J,.J,.J,.J,.J,.J,.J,.J,.J,.J,.J,.J,.J,.J,.J,.J,.J,.J,.J,.J,.J,.J,.J,.J,.J,.J,.J,.J,.J,.J,.J,.J,.J,.J,.J,.J,.J,.J,.J,.J,.J,.J,.J,.J,.J,.J,.J,.J,.J,.J,.J,.J,.J,.J,.J,.J,.J,.J,.J,.J,.J,.J,.J,.J,.J,.J,.J,.J,.J,.J,.J,.J,.J,.J,.J,.J,.J,.J,.J,.J,.J,.J,.J,.J,.J,.J] 0),(200001,.var (Qd v1)),(200002,.var (Qs v2)),(200003,.var (Qe v3)),(200004,.var (Qe v4)),(200005,.var [.own 100000 l5.length]),(200006,.var (QH v6)),(200007,.var (QH v7)),(200008,.var [.own 100001 st.2.length]),(200009,.var (Qi v9)),(200010,.var (Qd v10))]⟩) (Sum.elim (fun q e σ=>e=.ret∧σ=⟨[],[(100000,.arr 4 (l5.map Qj)),(100001,.arr 4 (q.map Qj)),(200000,.lp lpl (Qaz lpf) [.J,.J,.J,.J,.loc 200001 0 0,.loc 200002 0 0,.loc 200003 0 0,.loc 200004 0 0,.loc 200005 0 0,.J,.loc 200006 0 0,.loc 200007 0 0,.loc 200008 0 0,.J,.J,.J,.J,.J,.J,.J,.J,.J,.J,.J,.J,.J,.J,.J,.J,.J,.J,.J,.J,.J,.J,.J,.J,.J,.J,.J,.J,.J,.J,.J,.J,.J,.J,.J,.J,.J,.J,.J,.J,.J,.J,.J,.J,.J,.J,.J,.J,.J,.J,.J,.J,.J,.J,.J,.J,.J,.J,.J,.J,.J,.J,.J,.J,.J,.J,.J,.J,.J,.J,.J,.J,.J,.J,.J,.J,.J,.J,.J,.J,.J,.J,.J,.J,.J,.J,.J,.J,.J,.J,.J,.J,.J,.J,.J,.J] 0),(200001,.var (Qd v1)),(200002,.var (Qs v2)),(200003,.var (Qe v3)),(200004,.var (Qe v4)),(200005,.var [.own 100000 l5.length]),(200006,.var (QH v6)),(200007,.var (QH v7)),(200008,.var [.own 100001 q.length]),(200009,.var (Qi v9)),(200010,.var (Qd v10))]⟩) (fun q e σ=>e=.ret∧σ=⟨[],[(100000,.arr 4 (l5.map Qj)),(100001,.arr 4 (q.map Qj)),(200000,.lp lpl (Qaz lpf) [.J,.J,.J,.J,.loc 200001 0 0,.loc 200002 0 0,.loc 200003 0 0,.loc 200004 0 0,.loc 200005 0 0,.J,.loc 200006 0 0,.loc 200007 0 0,.loc 200008 0 0,.J,.J,.J,.J,.J,.J,.J,.J,.J,.J,.J,.J,.J,.J,.J,.J,.J,.J,.J,.J,.J,.J,.J,.J,.J,.J,.J,.J,.J,.J,.J,.J,.J,.J,.J,.J,.J,.J,.J,.J,.J,.J,.J,.J,.J,.J,.J,.J,.J,.J,.J,.J,.J,.J,.J,.J,.J,.J,.J,.J,.J,.J,.J,.J,.J,.J,.J,.J,.J,.J,.J,.J,.J,.J,.J,.J,.J,.J,.J,.J,.J,.J,.J,.J,.J,.J,.J,.J,.J,.J,.J,.J,.J,.J,.J,.J] 2),(200001,.var (Qd v1)),(200002,.var (Qs v2)),(200003,.var (Qe v3)),(200004,.var (Qe v4)),(200005,.var [.own 100001 q.length]),(200006,.var (QH v6)),(200007,.var (QH v7)),(200008,.var [.own 100001 q.length]),(200009,.var (Qi v9)),(200010,.var (Qd v10))]⟩)) hl43 rfl ?_ ?_
 ·rintro ⟨l14,l15⟩ o σ rfl h
  replace h:Qcf v1 v2 v3 v4 l5 v6 v7 v9 v10 l14 l15=some o:=h
  unfold Qcf at h
  obtain⟨x20,hx20,h⟩:=Qb h
  obtain⟨x21,hx21,h⟩:=Qb h
  refine Qa hC [.n 6,.o (.co true [.o (l14.map Qe)] 1 (x20.map Qe) x20.length),.frz 12 (x20.map Qe) [12] []] rfl ⟨⟨tt_,⟨(Qp7 rfl),⟨(QbO _ hx20),Qf,.inr (QvP _)⟩⟩⟩,⟨tt_,(frzL Qf)⟩⟩ ?_
  rcases x21 with(a22 | a23)
  ·replace h:QhS a22=some o:=h
   unfold QhS at h
   refine Qa hC [.x (fun σ=>(σ.after [100000,100001] [(100000,.arr 4 (l5.map Qj)),(100001,.arr 4 (a22.map Qj)),(200000,.lp lpl (Qaz lpf) [.J,.J,.J,.J,.loc 200001 0 0,.loc 200002 0 0,.loc 200003 0 0,.loc 200004 0 0,.loc 200005 0 0,.J,.loc 200006 0 0,.loc 200007 0 0,.loc 200008 0 0,.J,.J,.J,.J,.J,.J,.J,.J,.J,.J,.J,.J,.J,.J,.J,.J,.J,.J,.J,.J,.J,.J,.J,.J,.J,.J,.J,.J,.J,.J,.J,.J,.J,.J,.J,.J,.J,.J,.J,.J,.J,.J,.J,.J,.J,.J,.J,.J,.J,.J,.J,.J,.J,.J,.J,.J,.J,.J,.J,.J,.J,.J,.J,.J,.J,.J,.J,.J,.J,.J,.J,.J,.J,.J,.J,.J,.J,.J,.J,.J,.J,.J,.J,.J,.J,.J,.J,.J,.J,.J,.J,.J,.J,.J,.J,.J] 2),(200001,.var (Qd v1)),(200002,.var (Qs v2)),(200003,.var (Qe v3)),(200004,.var (Qe v4)),(200005,.var [.own 100001 a22.length]),(200006,.var (QH v6)),(200007,.var (QH v7)),(200008,.var [.own 100001 a22.length])]).put 13 (.b false)),.n 7,.keep [] [100000,100001,200000,200001,200002,200003,200004,200005,200006,200007,200008,200009,200010]] rfl ⟨tt_,(Stp.yieldV (b:=200000) (M:=[(200000,200000),(200001,200001),(200002,200002),(200003,200003),(200004,200004),(200005,200005),(100000,100000),(200006,200006),(200007,200007),(200008,200008),(100001,100001)]) (N:=[(100000,100000),(100001,100001),(200000,200000),(200001,200001),(200002,200002),(200003,200003),(200004,200004),(200005,200005),(200006,200006),(200007,200007),(200008,200008)]) (dead:=[100000,100001]) (ms:=[.d,.d,.d,.d,.d,.d,.d,.d,.d,.d,.d,.d,.d,.d,.d,.d,.d,.d,.d,.d,.d,.d,.d,.d,.d,.d,.d,.d,.d,.d,.d,.d,.d,.d,.d,.d,.d,.d,.d,.d,.d,.d,.d,.d,.d,.d,.d,.d,.d,.d,.d,.d,.d,.d,.d,.d,.d,.d,.d,.d,.d,.d,.d,.d,.d,.d,.d,.d,.d,.d,.d,.d,.d,.d,.d,.d,.d,.d,.d,.d,.d,.d,.d,.d,.d,.d,.d,.d,.d,.d,.d,.d,.d,.d,.d,.d,.d,.d,.d,.d,.d,.d,.d,.d,.d,.d,.d,.d,.d]) (outs:=[(100000,.arr 4 (l5.map Qj)),(100001,.arr 4 (a22.map Qj)),(200000,.lp lpl (Qaz lpf) [.J,.J,.J,.J,.loc 200001 0 0,.loc 200002 0 0,.loc 200003 0 0,.loc 200004 0 0,.loc 200005 0 0,.J,.loc 200006 0 0,.loc 200007 0 0,.loc 200008 0 0,.J,.J,.J,.J,.J,.J,.J,.J,.J,.J,.J,.J,.J,.J,.J,.J,.J,.J,.J,.J,.J,.J,.J,.J,.J,.J,.J,.J,.J,.J,.J,.J,.J,.J,.J,.J,.J,.J,.J,.J,.J,.J,.J,.J,.J,.J,.J,.J,.J,.J,.J,.J,.J,.J,.J,.J,.J,.J,.J,.J,.J,.J,.J,.J,.J,.J,.J,.J,.J,.J,.J,.J,.J,.J,.J,.J,.J,.J,.J,.J,.J,.J,.J,.J,.J,.J,.J,.J,.J,.J,.J,.J,.J,.J,.J,.J] 2),(200001,.var (Qd v1)),(200002,.var (Qs v2)),(200003,.var (Qe v3)),(200004,.var (Qe v4)),(200005,.var [.own 100001 a22.length]),(200006,.var (QH v6)),(200007,.var (QH v7)),(200008,.var [.own 100001 a22.length])]) (r:=.b false) rfl rfl rfl rfl rfl rfl rfl (bleN hC.n rfl) hC.g rfl rfl (QiZ _ _ _ _ _ _ _ _ _ _ _ hx21))⟩ ?_
   cases h
   exact rndR rfl (an_ rfl rfl)
  ·replace h:Qdk v9 v10 l14 a23=some o:=h
   unfold Qdk at h
   refine Qa hC [.x (fun σ=>(σ.after [100000,100001] [(100000,.arr 4 (l5.map Qj)),(100001,.arr 4 (a23.map Qj)),(200000,.lp lpl (Qaz lpf) [.J,.J,.J,.J,.loc 200001 0 0,.loc 200002 0 0,.loc 200003 0 0,.loc 200004 0 0,.loc 200005 0 0,.J,.loc 200006 0 0,.loc 200007 0 0,.loc 200008 0 0,.J,.J,.J,.J,.J,.J,.J,.J,.J,.J,.J,.J,.J,.J,.J,.J,.J,.J,.J,.J,.J,.J,.J,.J,.J,.J,.J,.J,.J,.J,.J,.J,.J,.J,.J,.J,.J,.J,.J,.J,.J,.J,.J,.J,.J,.J,.J,.J,.J,.J,.J,.J,.J,.J,.J,.J,.J,.J,.J,.J,.J,.J,.J,.J,.J,.J,.J,.J,.J,.J,.J,.J,.J,.J,.J,.J,.J,.J,.J,.J,.J,.J,.J,.J,.J,.J,.J,.J,.J,.J,.J,.J,.J,.J,.J,.J] 0),(200001,.var (Qd v1)),(200002,.var (Qs v2)),(200003,.var (Qe v3)),(200004,.var (Qe v4)),(200005,.var [.own 100000 l5.length]),(200006,.var (QH v6)),(200007,.var (QH v7)),(200008,.var [.own 100001 a23.length])]).put 13 (.b true)),.n 16,.keep [0,1,2,4,5] [9,100000,100001,200000,200001,200002,200003,200004,200005,200006,200007,200008,200009,200010]] rfl ⟨tt_,(Stp.yieldV (b:=200000) (M:=[(200000,200000),(200001,200001),(200002,200002),(200003,200003),(200004,200004),(200005,200005),(100000,100000),(200006,200006),(200007,200007),(200008,200008),(100001,100001)]) (N:=[(100000,100000),(100001,100001),(200000,200000),(200001,200001),(200002,200002),(200003,200003),(200004,200004),(200005,200005),(200006,200006),(200007,200007),(200008,200008)]) (dead:=[100000,100001]) (ms:=[.d,.d,.d,.d,.d,.d,.d,.d,.d,.d,.d,.d,.d,.d,.d,.d,.d,.d,.d,.d,.d,.d,.d,.d,.d,.d,.d,.d,.d,.d,.d,.d,.d,.d,.d,.d,.d,.d,.d,.d,.d,.d,.d,.d,.d,.d,.d,.d,.d,.d,.d,.d,.d,.d,.d,.d,.d,.d,.d,.d,.d,.d,.d,.d,.d,.d,.d,.d,.d,.d,.d,.d,.d,.d,.d,.d,.d,.d,.d,.d,.d,.d,.d,.d,.d,.d,.d,.d,.d,.d,.d,.d,.d,.d,.d,.d,.d,.d,.d,.d,.d,.d,.d,.d,.d,.d,.d,.d,.d]) (outs:=[(100000,.arr 4 (l5.map Qj)),(100001,.arr 4 (a23.map Qj)),(200000,.lp lpl (Qaz lpf) [.J,.J,.J,.J,.loc 200001 0 0,.loc 200002 0 0,.loc 200003 0 0,.loc 200004 0 0,.loc 200005 0 0,.J,.loc 200006 0 0,.loc 200007 0 0,.loc 200008 0 0,.J,.J,.J,.J,.J,.J,.J,.J,.J,.J,.J,.J,.J,.J,.J,.J,.J,.J,.J,.J,.J,.J,.J,.J,.J,.J,.J,.J,.J,.J,.J,.J,.J,.J,.J,.J,.J,.J,.J,.J,.J,.J,.J,.J,.J,.J,.J,.J,.J,.J,.J,.J,.J,.J,.J,.J,.J,.J,.J,.J,.J,.J,.J,.J,.J,.J,.J,.J,.J,.J,.J,.J,.J,.J,.J,.J,.J,.J,.J,.J,.J,.J,.J,.J,.J,.J,.J,.J,.J,.J,.J,.J,.J,.J,.J,.J] 0),(200001,.var (Qd v1)),(200002,.var (Qs v2)),(200003,.var (Qe v3)),(200004,.var (Qe v4)),(200005,.var [.own 100000 l5.length]),(200006,.var (QH v6)),(200007,.var (QH v7)),(200008,.var [.own 100001 a23.length])]) (r:=.b true) rfl rfl rfl rfl rfl rfl rfl (bleN hC.n rfl) hC.g rfl rfl (QiZ _ _ _ _ _ _ _ _ _ _ _ hx21))⟩ ?_
   obtain⟨o39,hl39,h⟩:=Qb h
   refine AK.loop (body:=(fun st=>Qbz v9 v10 st.1 st.2)) (fun st σ=>σ=⟨[(0,.clo (.yield lpl) [] []),(1,.loc 200009 0 0),(2,.loc 200010 0 0),(4,.own 9 st.2.length),(5,.i .i64 st.1)],[(9,.arr 1 (st.2.map Qe)),(100000,.arr 4 (l5.map Qj)),(100001,.arr 4 (a23.map Qj)),(200000,.lp lpl (Qaz lpf) [.J,.J,.J,.J,.loc 200001 0 0,.loc 200002 0 0,.loc 200003 0 0,.loc 200004 0 0,.loc 200005 0 0,.J,.loc 200006 0 0,.loc 200007 0 0,.loc 200008 0 0,.J,.J,.J,.J,.J,.J,.J,.J,.J,.J,.J,.J,.J,.J,.J,.J,.J,.J,.J,.J,.J,.J,.J,.J,.J,.J,.J,.J,.J,.J,.J,.J,.J,.J,.J,.J,.J,.J,.J,.J,.J,.J,.J,.J,.J,.J,.J,.J,.J,.J,.J,.J,.J,.J,.J,.J,.J,.J,.J,.J,.J,.J,.J,.J,.J,.J,.J,.J,.J,.J,.J,.J,.J,.J,.J,.J,.J,.J,.J,.J,.J,.J,.J,.J,.J,.J,.J,.J,.J,.J,.J,.J,.J,.J,.J,.J] 0),(200001,.var (Qd v1)),(200002,.var (Qs v2)),(200003,.var (Qe v3)),(200004,.var (Qe v4)),(200005,.var [.own 100000 l5.length]),(200006,.var (QH v6)),(200007,.var (QH v7)),(200008,.var [.own 100001 a23.length]),(200009,.var (Qi v9)),(200010,.var (Qd v10))]⟩) (fun q e σ=>e=.exit 2∧σ=⟨[(0,.clo (.yield lpl) [] []),(1,.loc 200009 0 0),(2,.loc 200010 0 0),(4,.own 9 q.2.length),(5,.i .i64 q.1)],[(9,.arr 1 (q.2.map Qe)),(100000,.arr 4 (l5.map Qj)),(100001,.arr 4 (a23.map Qj)),(200000,.lp lpl (Qaz lpf) [.J,.J,.J,.J,.loc 200001 0 0,.loc 200002 0 0,.loc 200003 0 0,.loc 200004 0 0,.loc 200005 0 0,.J,.loc 200006 0 0,.loc 200007 0 0,.loc 200008 0 0,.J,.J,.J,.J,.J,.J,.J,.J,.J,.J,.J,.J,.J,.J,.J,.J,.J,.J,.J,.J,.J,.J,.J,.J,.J,.J,.J,.J,.J,.J,.J,.J,.J,.J,.J,.J,.J,.J,.J,.J,.J,.J,.J,.J,.J,.J,.J,.J,.J,.J,.J,.J,.J,.J,.J,.J,.J,.J,.J,.J,.J,.J,.J,.J,.J,.J,.J,.J,.J,.J,.J,.J,.J,.J,.J,.J,.J,.J,.J,.J,.J,.J,.J,.J,.J,.J,.J,.J,.J,.J,.J,.J,.J,.J,.J,.J] 0),(200001,.var (Qd v1)),(200002,.var (Qs v2)),(200003,.var (Qe v3)),(200004,.var (Qe v4)),(200005,.var [.own 100000 l5.length]),(200006,.var (QH v6)),(200007,.var (QH v7)),(200008,.var [.own 100001 a23.length]),(200009,.var (Qi v9)),(200010,.var (Qd v10))]⟩) hl39 rfl ?_ ?_
   ·rintro ⟨at_25,l26⟩ o σ rfl h
    replace h:Qbz v9 v10 at_25 l26=some o:=h
    unfold Qbz at h
    refine Qa hC [.n 2] rfl tt_ ?_
    obtain⟨x31,hv32,h⟩:=Qb h
    replace h:Qdi l26 at_25 x31=some o:=h
    refine AK.meetX (fun σ=>σ=⟨[(0,.clo (.yield lpl) [] []),(1,.loc 200009 0 0),(2,.loc 200010 0 0),(4,.own 9 l26.length),(5,.i .i64 at_25),(36,.b x31)],[(9,.arr 1 (l26.map Qe)),(100000,.arr 4 (l5.map Qj)),(100001,.arr 4 (a23.map Qj)),(200000,.lp lpl (Qaz lpf) [.J,.J,.J,.J,.loc 200001 0 0,.loc 200002 0 0,.loc 200003 0 0,.loc 200004 0 0,.loc 200005 0 0,.J,.loc 200006 0 0,.loc 200007 0 0,.loc 200008 0 0,.J,.J,.J,.J,.J,.J,.J,.J,.J,.J,.J,.J,.J,.J,.J,.J,.J,.J,.J,.J,.J,.J,.J,.J,.J,.J,.J,.J,.J,.J,.J,.J,.J,.J,.J,.J,.J,.J,.J,.J,.J,.J,.J,.J,.J,.J,.J,.J,.J,.J,.J,.J,.J,.J,.J,.J,.J,.J,.J,.J,.J,.J,.J,.J,.J,.J,.J,.J,.J,.J,.J,.J,.J,.J,.J,.J,.J,.J,.J,.J,.J,.J,.J,.J,.J,.J,.J,.J,.J,.J,.J,.J,.J,.J,.J,.J] 0),(200001,.var (Qd v1)),(200002,.var (Qs v2)),(200003,.var (Qe v3)),(200004,.var (Qe v4)),(200005,.var [.own 100000 l5.length]),(200006,.var (QH v6)),(200007,.var (QH v7)),(200008,.var [.own 100001 a23.length]),(200009,.var (Qi v9)),(200010,.var (Qd v10))]⟩) ?_ ?_
    ·replace h:=hv32
     unfold QhT at h
     refine Qa hC [.keep [0,1,2,4,5] [9,100000,100001,200000,200001,200002,200003,200004,200005,200006,200007,200008,200009,200010]] rfl tt_ ?_
     rcases bifE h with⟨hc33,h⟩|⟨hc33,h⟩
     ·obtain⟨e34,he34,h⟩:=Qb h
      obtain⟨e35,he35,h⟩:=Qb h
      obtain⟨x36,hx36,h⟩:=Qb h
      refine AK.draw2 Qo hC mixed [.a .no none false,.a .no none false,.a .no (some ([],.b true)) false,.a .no none false,.a .no none false,.a .no none false,.a (.row (Qe e34)) none false,.a .no none false,.a .no none false,.a .no none false,.a .no none false,.a .no none false,.a .no none false,.a (.row (QE e35)) none false,.a .no none false,.a .no none false,.a (.c false [.d,.d] (.i .i64 x36)) none false,.a .no none false,.a .no none false] [] [] [0,1,2,4,5,36] [9,100000,100001,200000,200001,200002,200003,200004,200005,200006,200007,200008,200009,200010] rfl rfl rfl ⟨⟨⟨⟨⟨tt_,(congrArg V.b hc33)⟩,(QdE he34 rfl)⟩,(QbZ (idxE he34).2)⟩,(idxM he35)⟩,(QhR _ _ hx36)⟩ rfl (by kernel_rfl) rfl rfl rfl ?_
      refine Qa hC [.keep [0,1,2,4,5,36] [9,100000,100001,200000,200001,200002,200003,200004,200005,200006,200007,200008,200009,200010]] rfl tt_ ?_
      cases h
      exact AK.met rfl
     ·refine AK.draw2 Qo hC mixed [.a .no none false,.a .no none false,.a .no (some ([],.b false)) false,.a .no none false,.a .no none false,.a .no none false,.a .no none false,.a .no none false,.a .no none false,.a .no none false,.a .no none false,.a .no none false,.a .no none false,.a .no none false,.a .no none false,.a .no none false,.a .no none false,.a .no none false,.a .no none false] [] [] [0,1,2,4,5,36] [9,100000,100001,200000,200001,200002,200003,200004,200005,200006,200007,200008,200009,200010] rfl rfl rfl ⟨tt_,(congrArg V.b hc33)⟩ rfl (by kernel_rfl) rfl rfl rfl ?_
      refine Qa hC [.keep [0,1,2,4,5,36] [9,100000,100001,200000,200001,200002,200003,200004,200005,200006,200007,200008,200009,200010]] rfl tt_ ?_
      cases h
      exact AK.met rfl
    ·rintro σ rfl
     replace h:Qdi l26 at_25 x31=some o:=h
     unfold Qdi at h
     refine Qa hC [.n 1] rfl tt_ ?_
     rcases bifE h with⟨hc37,h⟩|⟨hc37,h⟩
     ·obtain⟨e38,he38,h⟩:=Qb h
      refine Qa hC [.br true,.n 8,.st (Qe e38) ((l26.set at_25.toNat 0).map Qe),.n 8,.say 4 (.own 9 (l26.set at_25.toNat 0).length),.keep [0,1,2,4,5] [9,100000,100001,200000,200001,200002,200003,200004,200005,200006,200007,200008,200009,200010]] rfl ⟨⟨⟨⟨tt_,hc37⟩,(QdE he38 rfl)⟩,⟨(QbZ (idxE he38).2),QkM rfl⟩⟩,(congrArg (fun n=>V.own 9 n) (by simp))⟩ ?_
      cases h
      exact rndN rfl rfl
     ·refine Qa hC [.br false,.n 2,.keep [0,1,2,4,5] [9,100000,100001,200000,200001,200002,200003,200004,200005,200006,200007,200008,200009,200010]] rfl ⟨tt_,hc37⟩ ?_
      cases h
      exact rndX rfl (an_ rfl rfl)
   ·obtain⟨at_29,l30⟩:=o39
    replace h:Qdj a23 at_29 l30=some o:=h
    unfold Qdj at h
    rintro e σ ⟨rfl,rfl⟩
    refine Qa hC [.n 9] rfl tt_ ?_
    rcases bifE h with⟨hc40,h⟩|⟨hc40,h⟩
    ·refine Qa hC [.br true,.n 3,.keep [] [100000,100001,200000,200001,200002,200003,200004,200005,200006,200007,200008,200009,200010]] rfl ⟨tt_,hc40⟩ ?_
     cases h
     exact rndR rfl (an_ rfl rfl)
    ·obtain⟨e41,he41,h⟩:=Qb h
     obtain⟨e42,he42,h⟩:=Qb h
     refine Qa hC [.br false,.n 6,.o (.row (Qe e41)),.n 2,.st (Qe e42) ((l30.set at_29.toNat (w64 (e41+1))).map Qe),.n 2,.say 4 (.own 9 (l30.set at_29.toNat (w64 (e41+1))).length),.keep [0,1,2,4] [9,100000,100001,200000,200001,200002,200003,200004,200005,200006,200007,200008,200009,200010]] rfl ⟨⟨⟨⟨⟨⟨tt_,hc40⟩,(QdE he41 rfl)⟩,(QbZ (idxE he41).2)⟩,(QdE he42 rfl)⟩,⟨(QbZ (idxE he42).2),QkM rfl⟩⟩,(congrArg (fun n=>V.own 9 n) (by simp))⟩ ?_
     cases h
     exact rndN rfl rfl
 ·rcases o43 with(l18 | l19)
  ·replace h:QhU l18=some r:=h
   unfold QhU at h
   rintro e σ ⟨rfl,rfl⟩
   refine Qa hC [.n 1,.keep [] [100000,100001,200000,200001,200002,200003,200004,200005,200006,200007,200008,200009,200010]] rfl tt_ ?_
   cases h
   refine AK.done ?_
   exact ex_ [] (an_ tt_ (gives ⟨rfl,rfl,rfl,rfl,rfl,rfl,rfl,rfl,rfl,rfl,rfl,rfl,rfl,tt_⟩))
  ·replace h:QhV l19=some r:=h
   unfold QhV at h
   rintro e σ ⟨rfl,rfl⟩
   refine Qa hC [.n 1,.keep [] [100000,100001,200000,200001,200002,200003,200004,200005,200006,200007,200008,200009,200010]] rfl tt_ ?_
   cases h
   refine AK.done ?_
   exact ex_ [] (an_ tt_ (gives ⟨rfl,rfl,rfl,rfl,rfl,rfl,rfl,rfl,rfl,rfl,rfl,rfl,rfl,tt_⟩))
def Qk6 (a16:(List Qk)):Option (List Qk):=
 some a16
def Qk7 (a17:(List Qk)):Option (List Qk):=
 some a17
def Qhh (n1:TNet)(m2:QMk)(task3:Int)(most4:Int):Option (List Qk):=
 bif ((decide (task3<0))||((decide ((n1.Tasks.length:Int)≤task3))||(decide (most4<1))))then
 some ([]:List Qk)
 else
 (idx n1.Tasks task3).bind fun e11=>
 (QbI e11.Join (e11.Ins.length:Int)).bind fun x12=>
 (QbI e11.Split (e11.Outs.length:Int)).bind fun x13=>
 (QkR n1 e11).bind fun x14=>
 (QeJ n1 m2 task3 most4 ([]:List Qk) x12 x13 ([]:List Qk) x14.2 x14.1).bind (Sum.elim (fun q=>Qk6 q) (fun q=>Qk7 q))
theorem QrM (n1:TNet)(m2:QMk)(task3:Int)(most4:Int){r:(List Qk)}(h:Qhh n1 m2 task3 most4=some r):Qc Tryz.prog 40 [.agg (Qd n1),.sl 1 (m2.map Qh),.i .i64 task3,.i .i64 most4] [] (Gives (.sl 4 (r.map Qj)) []):=by
 refine Qc.walkR 109 Tryz.func40 rfl Tryz.ntmps40 rfl fun C hC hR=>?_
 unfold Qhh at h
 refine Qa hC [.n 11] rfl tt_ ?_
 refine AK.meetX (fun σ=>σ=⟨[(4,.loc 4 0 0),(5,.loc 5 0 0),(6,.loc 6 0 0),(7,.loc 7 0 0),(8,.loc 8 0 0),(33,.b ((decide (task3<0))||((decide ((n1.Tasks.length:Int)≤task3))||(decide (most4<1)))))],[(4,.var (Qd n1)),(5,.var (Qs m2)),(6,.var (Qe task3)),(7,.var (Qe most4)),(8,.var [.lit (.slice none 0 0)])]⟩) ?_ ?_
 ·refine Qa hC [.n 4] rfl tt_ ?_
  rcases QN (decide (task3<0))with hc8 | hc8
  ·refine Qa hC [.say 23 (.b true),.n 11,.say 33 (.b ((decide (task3<0))||((decide ((n1.Tasks.length:Int)≤task3))||(decide (most4<1))))),.keep [4,5,6,7,8,33] [4,5,6,7,8]] rfl ⟨⟨tt_,(congrArg V.b hc8)⟩,(congrArg V.b (orT hc8 rfl))⟩ ?_
   exact AK.met rfl
  ·refine Qa hC [.say 23 (.b false),.n 3,.o (.ln n1.Tasks.length),.n 3] rfl ⟨⟨tt_,(congrArg V.b hc8)⟩,Qf⟩ ?_
   rcases QN (decide ((n1.Tasks.length:Int)≤task3))with hc9 | hc9
   ·refine Qa hC [.say 30 (.b true),.n 4,.say 33 (.b ((decide (task3<0))||((decide ((n1.Tasks.length:Int)≤task3))||(decide (most4<1))))),.keep [4,5,6,7,8,33] [4,5,6,7,8]] rfl ⟨⟨tt_,(congrArg V.b hc9)⟩,(congrArg V.b (orF hc8 (orT hc9 rfl)))⟩ ?_
    exact AK.met rfl
   ·refine Qa hC [.say 30 (.b false),.n 4,.say 33 (.b ((decide (task3<0))||((decide ((n1.Tasks.length:Int)≤task3))||(decide (most4<1))))),.keep [4,5,6,7,8,33] [4,5,6,7,8]] rfl ⟨⟨tt_,(congrArg V.b hc9)⟩,(congrArg V.b (orF hc8 (orF hc9 rfl)))⟩ ?_
    exact AK.met rfl
 ·rintro σ rfl
  refine Qa hC [.n 1] rfl tt_ ?_
  rcases bifE h with⟨hc10,h⟩|⟨hc10,h⟩
  ·refine Qa hC [.br true,.n 3,.sayO 8 (.var [.lit (.slice none 0 0)]),.n 4,.denilO 8 [some 4],.sayO 8 (.var (Qu9 ([]:List Qk))),.keep [8] [8]] rfl ⟨⟨⟨tt_,hc10⟩,rfl⟩,rfl⟩ ?_
   cases h
   exact AK.done (ex_ [_] (an_ (an_ (ex_ _ (ex_ _ (an_ rfl (an_ rfl (Or.inr (an_ (Qo.ag rfl) rfl)))))) tt_) (gives tt_)))
  ·obtain⟨e11,he11,h⟩:=Qb h
   obtain⟨x12,hx12,h⟩:=Qb h
   obtain⟨x13,hx13,h⟩:=Qb h
   refine Qa hC [.br false,.n 7,.o (.row (Qi e11)),.v .no [] (.agg (Qi e11)),.n 2,.sayO 9 (.var (Qi e11)),.n 3,.keep [4,5,6,7,8,9] [4,5,6,7,8,9]] rfl ⟨⟨⟨⟨tt_,hc10⟩,(idxM he11)⟩,rfl⟩,rfl⟩ ?_
   refine AK.draw2 Qo hC mixed [.a .no none false,.a .no none false,.a .no none false,.a .no none false,.a (.ln e11.Ins.length) none false,.a (.cd false [.d,.d] 1 (x12.map Qz) x12.length) none false,.a .no none false,.a .no none false,.a .no none false,.a .no none false,.a (.ln e11.Outs.length) none false,.a (.cd false [.d,.d] 1 (x13.map Qz) x13.length) none false,.a .no none false,.a .no none false,.m .s,.m .s] [] [] [4,5,6,7,8,9,10,11] [4,5,6,7,8,9,10,11] rfl rfl rfl ⟨⟨⟨⟨tt_,Qf⟩,⟨(Qjt _ _ hx12),Qf⟩⟩,Qf⟩,⟨(Qjt _ _ hx13),Qf⟩⟩ rfl (by kernel_rfl) rfl rfl rfl ?_
   obtain⟨x14,hx14,h⟩:=Qb h
   refine Qa hC [.sayO 10 (.var (QH x12)),.sayO 11 (.var (QH x13)),.n 9,.v .no [] (.agg (Qd n1)),.v .no [] (.agg (Qi e11)),.cm (.fn) [] [(53,2),(50000,3)] [] [.d,.d] [(2,.var (Qd x14.1)),(3,.var (Qi x14.2))] (.clo (.func 136) [] [.loc 3 0 0,.loc 2 0 0]),.n 3,.keep [4,5,6,7,8,10,11,12,53] [4,5,6,7,8,10,11,12,53,50000]] rfl ⟨⟨⟨⟨⟨tt_,rfl⟩,rfl⟩,rfl⟩,rfl⟩,(Qpv _ _ hx14)⟩ ?_
   obtain⟨x15,hx15,h⟩:=Qb h
   refine Qa hC [.adoptO 8 0 45160 4,.sayO 45160 (.arr 4 (([]:List Qk).map Qj)),.sayO 8 (.var [.own 45160 ([]:List Qk).length]),.adoptO 12 0 45240 4,.sayO 45240 (.arr 4 (([]:List Qk).map Qj)),.sayO 12 (.var [.own 45240 ([]:List Qk).length])] rfl ⟨⟨⟨⟨tt_,rfl⟩,rfl⟩,rfl⟩,rfl⟩ ?_
   rcases x15 with(a16 | a17)
   ·replace h:Qk6 a16=some r:=h
    unfold Qk6 at h
    refine AK.rangeF 60000 [4,5,6,7,8,10,11,12] [(200000,60000),(200001,4),(200002,5),(200003,6),(200004,7),(200005,8),(100000,45160),(200006,10),(200007,11),(200008,12),(100001,45240),(200009,50000),(200010,53)] [(45160,100000),(45240,100001),(60000,200000),(4,200001),(5,200002),(6,200003),(7,200004),(8,200005),(10,200006),(11,200007),(12,200008),(50000,200009),(53,200010)] [45160,45240] [.d,.d,.d] Qaz hC hR (fun _=>rfl) rfl rfl rfl rfl fun lpl lpf=>?_
    refine ex_ [(100000,.arr 4 (([]:List Qk).map Qj)),(100001,.arr 4 (a16.map Qj)),(200000,.lp lpl (Qaz lpf) [.J,.J,.J,.J,.loc 200001 0 0,.loc 200002 0 0,.loc 200003 0 0,.loc 200004 0 0,.loc 200005 0 0,.J,.loc 200006 0 0,.loc 200007 0 0,.loc 200008 0 0,.J,.J,.J,.J,.J,.J,.J,.J,.J,.J,.J,.J,.J,.J,.J,.J,.J,.J,.J,.J,.J,.J,.J,.J,.J,.J,.J,.J,.J,.J,.J,.J,.J,.J,.J,.J,.J,.J,.J,.J,.J,.J,.J,.J,.J,.J,.J,.J,.J,.J,.J,.J,.J,.J,.J,.J,.J,.J,.J,.J,.J,.J,.J,.J,.J,.J,.J,.J,.J,.J,.J,.J,.J,.J,.J,.J,.J,.J,.J,.J,.J,.J,.J,.J,.J,.J,.J,.J,.J,.J,.J,.J,.J,.J,.J,.J] 0),(200001,.var (Qd n1)),(200002,.var (Qs m2)),(200003,.var (Qe task3)),(200004,.var (Qe most4)),(200005,.var [.own 100000 ([]:List Qk).length]),(200006,.var (QH x12)),(200007,.var (QH x13)),(200008,.var [.own 100001 a16.length]),(200009,.var (Qi x14.2)),(200010,.var (Qd x14.1))] (ex_ (.tup []) (ex_ _ (ex_ _ (ex_ [.J,.J,.J,.J,.loc 4 0 0,.loc 5 0 0,.loc 6 0 0,.loc 7 0 0,.loc 8 0 0,.J,.loc 10 0 0,.loc 11 0 0,.loc 12 0 0,.J,.J,.J,.J,.J,.J,.J,.J,.J,.J,.J,.J,.J,.J,.J,.J,.J,.J,.J,.J,.J,.J,.J,.J,.J,.J,.J,.J,.J,.J,.J,.J,.J,.J,.J,.J,.J,.J,.J,.J,.J,.J,.J,.J,.J,.J,.J,.J,.J,.J,.J,.J,.J,.J,.J,.J,.J,.J,.J,.J,.J,.J,.J,.J,.J,.J,.J,.J,.J,.J,.J,.J,.J,.J,.J,.J,.J,.J,.J,.J,.J,.J,.J,.J,.J,.J,.J,.J,.J,.J,.J,.J,.J,.J,.J,.J] (ex_ 0 (an_ rfl ?_))))))
    refine an_ (Qk5 _ _ _ _ _ _ _ _ _ _ _ _ hx15) (an_ rfl (an_ (bne_iff_ne.1 (show(0 != 1)=true from rfl)) ?_))
    refine atJ0 rfl ?_
    refine Qa hC [.n 6,.sayO 8 (.var [.own 45240 a16.length]),.n 3,.frz 45240 (a16.map Qj) [] [8],.keep [8] [8]] rfl ⟨⟨tt_,rfl⟩,⟨tt_,⟨(frzL Qf),tt_⟩⟩⟩ ?_
    cases h
    exact AK.done (ex_ [_] (an_ (an_ (ex_ _ (ex_ _ (an_ rfl (an_ rfl (Or.inr (an_ (Qo.ag rfl) rfl)))))) tt_) (gives tt_)))
   ·replace h:Qk7 a17=some r:=h
    unfold Qk7 at h
    refine AK.rangeF 60000 [4,5,6,7,8,10,11,12] [(200000,60000),(200001,4),(200002,5),(200003,6),(200004,7),(200005,8),(100000,45160),(200006,10),(200007,11),(200008,12),(100001,45240),(200009,50000),(200010,53)] [(45160,100000),(45240,100001),(60000,200000),(4,200001),(5,200002),(6,200003),(7,200004),(8,200005),(10,200006),(11,200007),(12,200008),(50000,200009),(53,200010)] [45160,45240] [.d,.d,.d] Qaz hC hR (fun _=>rfl) rfl rfl rfl rfl fun lpl lpf=>?_
    refine ex_ [(100000,.arr 4 (([]:List Qk).map Qj)),(100001,.arr 4 (a17.map Qj)),(200000,.lp lpl (Qaz lpf) [.J,.J,.J,.J,.loc 200001 0 0,.loc 200002 0 0,.loc 200003 0 0,.loc 200004 0 0,.loc 200005 0 0,.J,.loc 200006 0 0,.loc 200007 0 0,.loc 200008 0 0,.J,.J,.J,.J,.J,.J,.J,.J,.J,.J,.J,.J,.J,.J,.J,.J,.J,.J,.J,.J,.J,.J,.J,.J,.J,.J,.J,.J,.J,.J,.J,.J,.J,.J,.J,.J,.J,.J,.J,.J,.J,.J,.J,.J,.J,.J,.J,.J,.J,.J,.J,.J,.J,.J,.J,.J,.J,.J,.J,.J,.J,.J,.J,.J,.J,.J,.J,.J,.J,.J,.J,.J,.J,.J,.J,.J,.J,.J,.J,.J,.J,.J,.J,.J,.J,.J,.J,.J,.J,.J,.J,.J,.J,.J,.J,.J] 2),(200001,.var (Qd n1)),(200002,.var (Qs m2)),(200003,.var (Qe task3)),(200004,.var (Qe most4)),(200005,.var [.own 100001 a17.length]),(200006,.var (QH x12)),(200007,.var (QH x13)),(200008,.var [.own 100001 a17.length]),(200009,.var (Qi x14.2)),(200010,.var (Qd x14.1))] (ex_ (.tup []) (ex_ _ (ex_ _ (ex_ [.J,.J,.J,.J,.loc 4 0 0,.loc 5 0 0,.loc 6 0 0,.loc 7 0 0,.loc 8 0 0,.J,.loc 10 0 0,.loc 11 0 0,.loc 12 0 0,.J,.J,.J,.J,.J,.J,.J,.J,.J,.J,.J,.J,.J,.J,.J,.J,.J,.J,.J,.J,.J,.J,.J,.J,.J,.J,.J,.J,.J,.J,.J,.J,.J,.J,.J,.J,.J,.J,.J,.J,.J,.J,.J,.J,.J,.J,.J,.J,.J,.J,.J,.J,.J,.J,.J,.J,.J,.J,.J,.J,.J,.J,.J,.J,.J,.J,.J,.J,.J,.J,.J,.J,.J,.J,.J,.J,.J,.J,.J,.J,.J,.J,.J,.J,.J,.J,.J,.J,.J,.J,.J,.J,.J,.J,.J,.J] (ex_ 2 (an_ rfl ?_))))))
    refine an_ (Qk5 _ _ _ _ _ _ _ _ _ _ _ _ hx15) (an_ rfl (an_ (bne_iff_ne.1 (show(2 != 1)=true from rfl)) ?_))
    refine atJ2 rfl ?_
    refine Qa hC [.n 3,.frz 45240 (a17.map Qj) [] [8],.keep [8] [8]] rfl ⟨tt_,⟨tt_,⟨(frzL Qf),tt_⟩⟩⟩ ?_
    cases h
    exact AK.done (ex_ [_] (an_ (an_ (ex_ _ (ex_ _ (an_ rfl (an_ rfl (Or.inr (an_ (Qo.ag rfl) rfl)))))) tt_) (gives tt_)))
def Qgf (n1:TNet)(m2:QMk)(most3:Int)(x6:Int)(l7:(List Qk)):Option ((Int×(List Qk))⊕(List Qk)):=
 bif (decide (x6<(n1.Tasks.length:Int)))then
 (Qhh n1 m2 x6 (w64 (most3-(l7.length:Int)))).bind fun x12=>
 (chk (decide (l7.length+x12.length≤4294967296))).bind fun _=>
 some (.inl ((w64 (x6+1)),(l7++x12)))
 else
 some (.inr l7)
def Ql6 (l10:(List Qk)):Option (List Qk):=
 some l10
def QeX (n1:TNet)(m2:QMk)(most3:Int):Option (List Qk):=
 (QA (fun st=>Qgf n1 m2 most3 st.1 st.2) (0,([]:List Qk))).bind (fun q=>Ql6 q)
theorem Qj6 (n1:TNet)(m2:QMk)(most3:Int){r:(List Qk)}(h:QeX n1 m2 most3=some r):Qc Tryz.prog 22 [.agg (Qd n1),.sl 1 (m2.map Qh),.i .i64 most3] [] (Gives (.own 30000 r.length) [(30000,.arr 4 (r.map Qj))]):=by
 refine Qc.walk 27 Tryz.func22 rfl Tryz.ntmps22 rfl fun C hC=>?_
 unfold QeX at h
 refine Qa hC [.n 16,.o (.ln n1.Tasks.length),.n 4,.adopt 7 15 4,.sayO 15 (.arr 4 (([]:List Qk).map Qj)),.say 7 (.own 15 ([]:List Qk).length),.keep [1,2,3,7,11,12] [3,15]] rfl ⟨⟨⟨tt_,Qf⟩,rfl⟩,(congrArg (fun n=>V.own 15 n) (by simp))⟩ ?_
 obtain⟨l10,hl14,h⟩:=Qb h
 refine AK.loop (body:=(fun st=>Qgf n1 m2 most3 st.1 st.2)) (fun st σ=>σ=⟨[(1,.sl 1 (m2.map Qh)),(2,.i .i64 most3),(3,.loc 3 0 0),(7,.own 15 st.2.length),(11,.i .i64 (n1.Tasks.length:Int)),(12,.i .i64 st.1)],[(3,.var (Qd n1)),(15,.arr 4 (st.2.map Qj))]⟩) (fun q e σ=>e=.exit 0∧σ=⟨[(7,.own 15 q.length)],[(15,.arr 4 (q.map Qj))]⟩) hl14 rfl ?_ ?_
 ·rintro ⟨x6,l7⟩ o σ rfl h
  replace h:Qgf n1 m2 most3 x6 l7=some o:=h
  unfold Qgf at h
  refine Qa hC [.n 6] rfl tt_ ?_
  rcases bifE h with⟨hc11,h⟩|⟨hc11,h⟩
  ·obtain⟨x12,hx12,h⟩:=Qb h
   obtain⟨_,hk13,h⟩:=Qb h
   replace hk13:=chkE hk13
   refine Qa hC [.br true,.n 12,.v .no [] (.agg (Qd n1)),.n 6,.o (.c false [.d,.d,.d,.d] (.sl 4 (x12.map Qj))),.app ((l7++x12).map Qj) (l7++x12).length,.n 8,.keep [1,2,3,7,11,12] [3,15]] rfl ⟨⟨⟨⟨tt_,hc11⟩,rfl⟩,(QrM _ _ _ _ hx12)⟩,⟨Qf,Qdf hk13 Qf,Qcc,QeV Qf⟩⟩ ?_
   cases h
   exact rndN rfl rfl
  ·refine Qa hC [.br false,.n 2,.keep [7] [15]] rfl ⟨tt_,hc11⟩ ?_
   cases h
   exact rndX rfl (an_ rfl rfl)
 ·replace h:Ql6 l10=some r:=h
  unfold Ql6 at h
  rintro e σ ⟨rfl,rfl⟩
  refine Qa hC [.n 9,.keep [6] [15],.ren 15 30000,.keep [6] [30000]] rfl tt_ ?_
  cases h
  exact AK.done (ex_ [_] (an_ (an_ rfl tt_) (gives ⟨rfl,tt_⟩)))
def Qa7 (s1:(List Int))(s2:(List Int))(x6:Int):Option (Int⊕(Unit⊕Unit)):=
 bif (decide (x6<(s1.length:Int)))then
 (idx s1 x6).bind fun e9=>
 (idx s2 x6).bind fun e10=>
 bif (e9 != e10)then
 some (.inr (.inl ()))
 else
 some (.inl (w64 (x6+1)))
 else
 some (.inr (.inr ()))
def QeY : Option Bool:=
 some false
def QeZ : Option Bool:=
 some true
def QcB (s1:(List Int))(s2:(List Int)):Option Bool:=
 bif ((s1.length:Int) != (s2.length:Int))then
 some false
 else
 (QA (fun st=>Qa7 s1 s2 st) 0).bind (Sum.elim (fun q=>QeY) (fun q=>QeZ))
theorem Qmr (s1:(List Int))(s2:(List Int)){r:Bool}(h:QcB s1 s2=some r):Qc Tryz.prog 86 [.sl 1 (s1.map Qe),.sl 1 (s2.map Qe)] [] (Gives (.b r) []):=by
 refine Qc.walk 26 Tryz.func86 rfl Tryz.ntmps86 rfl fun C hC=>?_
 unfold QcB at h
 refine Qa hC [.n 9,.o (.ln s1.length),.n 1,.o (.ln s2.length),.n 3] rfl ⟨⟨tt_,Qf⟩,Qf⟩ ?_
 rcases bifE h with⟨hc5,h⟩|⟨hc5,h⟩
 ·refine Qa hC [.br true,.n 7,.keep [4] []] rfl ⟨tt_,hc5⟩ ?_
  cases h
  exact AK.done (ex_ [_] (an_ (an_ rfl tt_) (gives tt_)))
 ·refine Qa hC [.br false,.n 6,.o (.ln s1.length),.n 4,.keep [0,1,12,13] []] rfl ⟨⟨tt_,hc5⟩,Qf⟩ ?_
  obtain⟨o12,hl12,h⟩:=Qb h
  refine AK.loop (body:=(fun st=>Qa7 s1 s2 st)) (fun st σ=>σ=⟨[(0,.sl 1 (s1.map Qe)),(1,.sl 1 (s2.map Qe)),(12,.i .i64 (s1.length:Int)),(13,.i .i64 st)],[]⟩) (Sum.elim (fun q e σ=>e=.ret∧σ=⟨[(4,.b false)],[]⟩) (fun q e σ=>e=.exit 0∧σ=⟨[],[]⟩)) hl12 rfl ?_ ?_
  ·rintro x6 o σ rfl h
   replace h:Qa7 s1 s2 x6=some o:=h
   unfold Qa7 at h
   refine Qa hC [.n 6] rfl tt_ ?_
   rcases bifE h with⟨hc8,h⟩|⟨hc8,h⟩
   ·obtain⟨e9,he9,h⟩:=Qb h
    obtain⟨e10,he10,h⟩:=Qb h
    refine Qa hC [.br true,.n 11,.keep [0,1,5,12,13] []] rfl ⟨tt_,hc8⟩ ?_
    refine AK.draw2 Qo hC mixed [.a .no none false,.a .no none false,.a (.row (Qe e9)) none false,.a .no none false,.a .no none false,.a .no none false,.a (.row (Qe e10)) none false,.a .no none false,.a .no none false] [] [] [0,1,12,13,24] [] rfl rfl rfl ⟨⟨tt_,(idxM he9)⟩,(idxM he10)⟩ rfl (by kernel_rfl) rfl rfl rfl ?_
    refine Qa hC [.n 1] rfl tt_ ?_
    rcases bifE h with⟨hc11,h⟩|⟨hc11,h⟩
    ·refine Qa hC [.br true,.n 8,.keep [4] []] rfl ⟨tt_,hc11⟩ ?_
     cases h
     exact rndR rfl (an_ rfl rfl)
    ·refine Qa hC [.br false,.n 7,.keep [0,1,12,13] []] rfl ⟨tt_,hc11⟩ ?_
     cases h
     exact rndN rfl rfl
   ·refine Qa hC [.br false,.n 2,.keep [] []] rfl ⟨tt_,hc8⟩ ?_
    cases h
    exact rndX rfl (an_ rfl rfl)
  ·rcases o12 with(_ | _)
   ·replace h:QeY=some r:=h
    unfold QeY at h
    rintro e σ ⟨rfl,rfl⟩
    refine Qa hC [.n 2,.keep [4] []] rfl tt_ ?_
    cases h
    exact AK.done (ex_ [_] (an_ (an_ rfl tt_) (gives tt_)))
   ·replace h:QeZ=some r:=h
    unfold QeZ at h
    rintro e σ ⟨rfl,rfl⟩
    refine Qa hC [.n 8,.keep [4] []] rfl tt_ ?_
    cases h
    exact AK.done (ex_ [_] (an_ (an_ rfl tt_) (gives tt_)))
def QiE (p1:(List Int))(v2:(List Int)):Option Bool:=
 (QcB p1 v2).bind fun x4=>
 some x4
theorem QpA (p1:(List Int))(v2:(List Int)){r:Bool}(h:QiE p1 v2=some r):Qc Tryz.prog 85 [.sl 1 (p1.map Qe),.loc 200000 0 0] [(200000,.var (Qz v2))] (Gives (.b r) [(200000,.var (Qz v2))]):=by
 refine Qc.walk 7 Tryz.func85 rfl Tryz.ntmps85 rfl fun C hC=>?_
 unfold QiE at h
 obtain⟨x4,hx4,h⟩:=Qb h
 refine Qa hC [.n 9,.o (.c false [.d,.d] (.b x4)),.n 4,.keep [3] [200000]] rfl ⟨tt_,(Qmr _ _ hx4)⟩ ?_
 cases h
 exact AK.done (ex_ [_] (an_ (an_ rfl tt_) (gives ⟨rfl,tt_⟩)))
def Qao (s1:QLL)(v2:(List Int))(x5:Int):Option (Int⊕(Int⊕Unit)):=
 bif (decide (x5<(s1.length:Int)))then
 (idx s1 x5).bind fun e9=>
 (QiE e9 v2).bind fun x10=>
 bif x10 then
 some (.inr (.inl x5))
 else
 some (.inl (w64 (x5+1)))
 else
 some (.inr (.inr ()))
def QcN (x7:Int):Option Int:=
 some x7
def QcO : Option Int:=
 some (-1)
def QbX (s1:QLL)(v2:(List Int)):Option Int:=
 (QA (fun st=>Qao s1 v2 st) 0).bind (Sum.elim (fun q=>QcN q) (fun q=>QcO))
theorem Qks (s1:QLL)(v2:(List Int)){r:Int}(h:QbX s1 v2=some r):Qc Tryz.prog 137 [.sl 1 (s1.map Qz),.clo (.func 85) [] [.loc 200000 0 0]] [(200000,.var (Qz v2))] (Gives (.i .i64 r) [(200000,.var (Qz v2))]):=by
 refine Qc.walk 19 Tryz.func137 rfl Tryz.ntmps137 rfl fun C hC=>?_
 unfold QbX at h
 refine Qa hC [.n 9,.o (.ln s1.length),.n 4,.keep [0,1,7,8] [200000]] rfl ⟨tt_,Qf⟩ ?_
 obtain⟨o12,hl12,h⟩:=Qb h
 refine AK.loop (body:=(fun st=>Qao s1 v2 st)) (fun st σ=>σ=⟨[(0,.sl 1 (s1.map Qz)),(1,.clo (.func 85) [] [.loc 200000 0 0]),(7,.i .i64 (s1.length:Int)),(8,.i .i64 st)],[(200000,.var (Qz v2))]⟩) (Sum.elim (fun q e σ=>e=.ret∧σ=⟨[(4,.i .i64 q)],[(200000,.var (Qz v2))]⟩) (fun q e σ=>e=.exit 0∧σ=⟨[],[(200000,.var (Qz v2))]⟩)) hl12 rfl ?_ ?_
 ·rintro x5 o σ rfl h
  replace h:Qao s1 v2 x5=some o:=h
  unfold Qao at h
  refine Qa hC [.n 6] rfl tt_ ?_
  rcases bifE h with⟨hc8,h⟩|⟨hc8,h⟩
  ·obtain⟨e9,he9,h⟩:=Qb h
   obtain⟨x10,hx10,h⟩:=Qb h
   refine Qa hC [.br true,.n 15,.o (.row (Qz e9)),.n 1,.cm (.clo) [(200000,200000)] [(200000,200000)] [] [.d,.d] [(200000,.var (Qz v2))] (.b x10),.n 2] rfl ⟨⟨⟨tt_,hc8⟩,(idxM he9)⟩,(QpA _ _ hx10)⟩ ?_
   rcases bifE h with⟨hc11,h⟩|⟨hc11,h⟩
   ·refine Qa hC [.br true,.n 9,.keep [4] [200000]] rfl ⟨tt_,hc11⟩ ?_
    cases h
    exact rndR rfl (an_ rfl rfl)
   ·refine Qa hC [.br false,.n 7,.keep [0,1,7,8] [200000]] rfl ⟨tt_,hc11⟩ ?_
    cases h
    exact rndN rfl rfl
  ·refine Qa hC [.br false,.n 2,.keep [] [200000]] rfl ⟨tt_,hc8⟩ ?_
   cases h
   exact rndX rfl (an_ rfl rfl)
 ·rcases o12 with(x7 | _)
  ·replace h:QcN x7=some r:=h
   unfold QcN at h
   rintro e σ ⟨rfl,rfl⟩
   refine Qa hC [.n 2,.keep [4] [200000]] rfl tt_ ?_
   cases h
   exact AK.done (ex_ [_] (an_ (an_ rfl tt_) (gives ⟨rfl,tt_⟩)))
  ·replace h:QcO=some r:=h
   unfold QcO at h
   rintro e σ ⟨rfl,rfl⟩
   refine Qa hC [.n 8,.keep [4] [200000]] rfl tt_ ?_
   cases h
   exact AK.done (ex_ [_] (an_ (an_ rfl tt_) (gives ⟨rfl,tt_⟩)))
def QbY (s1:QLL)(v2:(List Int)):Option Bool:=
 (QbX s1 v2).bind fun x4=>
 some (decide (0≤x4))
theorem Qkt (s1:QLL)(v2:(List Int)){r:Bool}(h:QbY s1 v2=some r):Qc Tryz.prog 84 [.sl 1 (s1.map Qz),.clo (.func 85) [] [.loc 200000 0 0]] [(200000,.var (Qz v2))] (Gives (.b r) [(200000,.var (Qz v2))]):=by
 refine Qc.walk 9 Tryz.func84 rfl Tryz.ntmps84 rfl fun C hC=>?_
 unfold QbY at h
 obtain⟨x4,hx4,h⟩:=Qb h
 refine Qa hC [.n 9,.cm (.fn) [(200000,200000)] [(200000,200000)] [] [.d,.d] [(200000,.var (Qz v2))] (.i .i64 x4),.n 5,.keep [4] [200000]] rfl ⟨tt_,(Qks _ _ hx4)⟩ ?_
 cases h
 exact AK.done (ex_ [_] (an_ (an_ rfl tt_) (gives ⟨rfl,tt_⟩)))
def Qgg (kind1:Int)(arcs2:Int)(row3:(List Int)):Option Bool:=
 (QbI kind1 arcs2).bind fun x5=>
 (QbY x5 row3).bind fun x6=>
 some x6
theorem QmU (kind1:Int)(arcs2:Int)(row3:(List Int)){r:Bool}(h:Qgg kind1 arcs2 row3=some r):Qc Tryz.prog 43 [.i .i64 kind1,.i .i64 arcs2,.sl 1 (row3.map Qe)] [] (Gives (.b r) []):=by
 refine Qc.walk 12 Tryz.func43 rfl Tryz.ntmps43 rfl fun C hC=>?_
 unfold Qgg at h
 obtain⟨x5,hx5,h⟩:=Qb h
 obtain⟨x6,hx6,h⟩:=Qb h
 refine Qa hC [.n 10,.o (.co false [.d,.d] 1 (x5.map Qz) x5.length),.n 1,.frz 9 (x5.map Qz) [9] [],.cm (.fn) [(200000,5)] [(5,200000)] [] [.d,.d] [(200000,.var (Qz row3))] (.b x6),.n 4,.keep [6] []] rfl ⟨⟨⟨tt_,⟨(Qjt _ _ hx5),Qf,.inl rfl⟩⟩,⟨tt_,(frzL Qf)⟩⟩,(Qkt _ _ hx6)⟩ ?_
 cases h
 exact AK.done (ex_ [_] (an_ (an_ rfl tt_) (gives tt_)))
def Qk8 (x6:(Int×QD))(o3:Qk):Option Bool:=
 (Qgg x6.2.task.Join (x6.2.task.Ins.length:Int) o3.Ins).bind fun x11=>
 bif (!x11)then
 some true
 else
 (Qgg x6.2.task.Split (x6.2.task.Outs.length:Int) o3.Outs).bind fun x13=>
 some (!x13)
def Qgp (x6:(Int×QD))(o3:Qk)(x9:Bool):Option Int:=
 bif x9 then
 some 11
 else
 (Q4 x6.2 o3.Ins).bind fun x15=>
 bif (x15 != 0)then
 some x15
 else
 (QaR x6.2 o3.Outs).bind fun x17=>
 some x17
def Qek (x6:(Int×QD))(o3:Qk)(err7:Int):Option Int:=
 bif (err7 != 0)then
 some err7
 else
 (Qk8 x6 o3).bind (fun x9=>Qgp x6 o3 x9)
def QfD (n1:TNet)(m2:QMk)(o3:Qk):Option Int:=
 (Qbj n1 m2 o3.Task o3.Vars).bind fun x6=>
 bif (x6.1==0)then
 (Q2 x6.2).bind fun x19=>
 Qek x6 o3 x19
 else
 Qek x6 o3 x6.1
theorem Qnw (n1:TNet)(m2:QMk)(o3:Qk){r:Int}(h:QfD n1 m2 o3=some r):Qc Tryz.prog 23 [.agg (Qd n1),.sl 1 (m2.map Qh),.agg (Qj o3)] [] (Gives (.i .i64 r) []):=by
 refine Qc.walk 62 Tryz.func23 rfl Tryz.ntmps23 rfl fun C hC=>?_
 unfold QfD at h
 obtain⟨x6,hx6,h⟩:=Qb h
 refine Qa hC [.n 9,.v .no [] (.agg (Qd n1)),.n 5,.o (.c false [.d,.d,.d,.d] (.tup [.agg (Qq x6.2),.i .i64 x6.1])),.n 5,.sayO 7 (.var (Qq x6.2)),.n 3] rfl ⟨⟨⟨tt_,rfl⟩,(Qnv _ _ _ _ hx6)⟩,rfl⟩ ?_
 refine AK.meet (fun σ=>∃err7:Int,σ=⟨[(5,.loc 5 0 0),(7,.loc 7 0 0),(8,.i .i64 err7)],[(5,.var (Qj o3)),(7,.var (Qq x6.2))]⟩∧Qek x6 o3 err7=some r) ?_ ?_
 ·refine Qa hC [.n 6] rfl tt_ ?_
  rcases bifE h with⟨hc18,h⟩|⟨hc18,h⟩
  ·obtain⟨x19,hx19,h⟩:=Qb h
   refine Qa hC [.br true,.n 1,.v .no [] (.agg (Qq x6.2)),.o (.c false [.d] (.i .i64 x19)),.n 2,.keep [5,7,8] [5,7]] rfl ⟨⟨⟨tt_,hc18⟩,rfl⟩,(QiW _ hx19)⟩ ?_
   exact AK.met (ex_ _ (an_ rfl h))
  ·refine Qa hC [.br false,.n 1,.keep [5,7,8] [5,7]] rfl ⟨tt_,hc18⟩ ?_
   exact AK.met (ex_ _ (an_ rfl h))
 ·rintro σ ⟨err7,rfl,h⟩
  unfold Qek at h
  refine Qa hC [.n 7] rfl tt_ ?_
  rcases bifE h with⟨hc8,h⟩|⟨hc8,h⟩
  ·refine Qa hC [.br true,.n 8,.keep [6] []] rfl ⟨tt_,hc8⟩ ?_
   cases h
   exact AK.done (ex_ [_] (an_ (an_ rfl tt_) (gives tt_)))
  ·refine Qa hC [.br false,.n 4] rfl ⟨tt_,hc8⟩ ?_
   obtain⟨x9,hv10,h⟩:=Qb h
   replace h:Qgp x6 o3 x9=some r:=h
   refine AK.meetX (fun σ=>σ=⟨[(5,.loc 5 0 0),(7,.loc 7 0 0),(50,.b x9)],[(5,.var (Qj o3)),(7,.var (Qq x6.2))]⟩) ?_ ?_
   ·replace h:=hv10
    unfold Qk8 at h
    obtain⟨x11,hx11,h⟩:=Qb h
    refine Qa hC [.n 7,.o (.ln x6.2.task.Ins.length),.n 2,.o (.c false [.d,.d,.d] (.b x11)),.n 2] rfl ⟨⟨tt_,Qf⟩,(QmU _ _ _ hx11)⟩ ?_
    rcases bifE h with⟨hc12,h⟩|⟨hc12,h⟩
    ·refine Qa hC [.say 38 (.b true),.n 13,.keep [5,7,50] [5,7]] rfl ⟨tt_,(congrArg V.b hc12)⟩ ?_
     cases h
     exact AK.met rfl
    ·obtain⟨x13,hx13,h⟩:=Qb h
     refine Qa hC [.say 38 (.b false),.n 6,.o (.ln x6.2.task.Outs.length),.n 2,.o (.c false [.d,.d,.d] (.b x13)),.n 3,.keep [5,7,50] [5,7]] rfl ⟨⟨⟨tt_,(congrArg V.b hc12)⟩,Qf⟩,(QmU _ _ _ hx13)⟩ ?_
     cases h
     exact AK.met rfl
   ·rintro σ rfl
    replace h:Qgp x6 o3 x9=some r:=h
    unfold Qgp at h
    refine Qa hC [.n 1] rfl tt_ ?_
    rcases bifE h with⟨hc14,h⟩|⟨hc14,h⟩
    ·refine Qa hC [.br true,.n 7,.keep [6] []] rfl ⟨tt_,hc14⟩ ?_
     cases h
     exact AK.done (ex_ [_] (an_ (an_ rfl tt_) (gives tt_)))
    ·obtain⟨x15,hx15,h⟩:=Qb h
     refine Qa hC [.br false,.n 5,.v .no [] (.agg (Qq x6.2)),.n 2,.o (.c false [.d,.d] (.i .i64 x15)),.n 9] rfl ⟨⟨⟨tt_,hc14⟩,rfl⟩,(QjU _ _ hx15)⟩ ?_
     rcases bifE h with⟨hc16,h⟩|⟨hc16,h⟩
     ·refine Qa hC [.br true,.n 8,.keep [6] []] rfl ⟨tt_,hc16⟩ ?_
      cases h
      exact AK.done (ex_ [_] (an_ (an_ rfl tt_) (gives tt_)))
     ·obtain⟨x17,hx17,h⟩:=Qb h
      refine Qa hC [.br false,.n 4,.v .no [] (.agg (Qq x6.2)),.n 2,.o (.c false [.d,.d] (.i .i64 x17)),.n 4,.keep [6] []] rfl ⟨⟨⟨tt_,hc16⟩,rfl⟩,(QjR _ _ hx17)⟩ ?_
      cases h
      exact AK.done (ex_ [_] (an_ (an_ rfl tt_) (gives tt_)))
def Qhi (n1:TNet)(o2:Qk):Option (QMk×Int):=
 (Qd2 n1 o2.Task o2.Vars).bind fun x7=>
 bif (x7.2 != 0)then
 some (([]:List QBg),x7.2)
 else
 (idx n1.Tasks o2.Task).bind fun e9=>
 (QcG n1 e9.Ins o2.Ins x7.1).bind fun x10=>
 some (x10.1,x10.2)
theorem QrN (n1:TNet)(o2:Qk){r:(QMk×Int)}(h:Qhi n1 o2=some r):Qc Tryz.prog 92 [.agg (Qd n1),.agg (Qj o2)] [] (Gives (.tup [.sl 1 (r.1.map Qh),.i .i64 r.2]) []):=by
 refine Qc.walk 34 Tryz.func92 rfl Tryz.ntmps92 rfl fun C hC=>?_
 unfold Qhi at h
 obtain⟨x7,hx7,h⟩:=Qb h
 refine Qa hC [.n 10,.v .no [] (.agg (Qd n1)),.n 4,.o (.c false [.d,.d,.d] (.tup [.sl 1 (x7.1.map Qe),.i .i64 x7.2])),.n 14] rfl ⟨⟨tt_,rfl⟩,(Ql1 _ _ _ hx7)⟩ ?_
 rcases bifE h with⟨hc8,h⟩|⟨hc8,h⟩
 ·refine Qa hC [.br true,.n 9,.denil 4 [some 1],.keep [4,5] []] rfl ⟨tt_,hc8⟩ ?_
  cases h
  exact AK.done (ex_ [_,_] (an_ (an_ rfl (an_ rfl tt_)) (gives tt_)))
 ·obtain⟨e9,he9,h⟩:=Qb h
  obtain⟨x10,hx10,h⟩:=Qb h
  refine Qa hC [.br false,.n 3,.keep [2,3,4,5,6] [2,3]] rfl ⟨tt_,hc8⟩ ?_
  refine AK.draw2 Qo hC mixed [.a .no (some ([],.agg (Qd n1))) false,.a .no none false,.a .no none false,.a .no none false,.a .no none false,.a (.row (Qi e9)) none false,.a .no none false,.a .no none false,.a .no none false,.a .no none false,.a .no none false,.a (.c false [.d,.d,.d,.d] (.tup [.sl 1 (x10.1.map Qh),.i .i64 x10.2])) none false,.a .no none false,.a .no none false,.m .s,.m .s] [] [] [4,5] [] rfl rfl rfl ⟨⟨⟨tt_,rfl⟩,(idxM he9)⟩,(Qfx _ _ _ _ hx10)⟩ rfl (by kernel_rfl) rfl rfl rfl ?_
  refine Qa hC [.n 2,.keep [4,5] []] rfl tt_ ?_
  cases h
  exact AK.done (ex_ [_,_] (an_ (an_ rfl (an_ rfl tt_)) (gives tt_)))
def Ql7 (a8:Unit):Option (QBg×Int):=
 some (([]:List (Int×Int)),1)
def Ql8 (a9:QBg):Option (QBg×Int):=
 some (([]:List (Int×Int)),1)
def Ql9 (a10:QBg):Option (QBg×Int):=
 some (([]:List (Int×Int)),1)
def Qez (m16:QBg)(k18:Int)(v19:Int):Option (QBg⊕Empty):=
 some (.inl (mset ltI m16 k18 (w64 (((mget m16 k18).getD 0)-v19))))
def Qj7 (m16:QBg):Option (QBg×Int):=
 (QcK m16).bind fun x21=>
 some (x21,0)
def Qj8 (a11:(QBg×QBg)):Option (QBg×Int):=
 (Qcv a11.2 a11.1).bind fun x12=>
 bif (!x12)then
 some (([]:List (Int×Int)),10)
 else
 (Qh3 (fun st p=>Qez st p.1 p.2) a11.1 a11.2).bind (Sum.elim (fun q=>Qj7 q) (fun q=>Empty.elim q))
def Qbe (a1:QBg)(b2:QBg):Option (QBg×Int):=
 (QhQ a1 b2).bind (Sum.elim (fun q=>Ql7 q) (Sum.elim (fun q=>Ql8 q) (Sum.elim (fun q=>Ql9 q) (fun q=>Qj8 q))))
theorem Qs8 (a1:QBg)(b2:QBg){r:(QBg×Int)}(h:Qbe a1 b2=some r):Qc Tryz.prog 94 [.sl 2 (a1.map Qy),.sl 2 (b2.map Qy)] [] (Gives (.tup [.sl 2 (r.1.map Qy),.i .i64 r.2]) []):=by
 refine Qc.walk 40 Tryz.func94 rfl Tryz.ntmps94 rfl fun C hC=>?_
 unfold Qbe at h
 obtain⟨x7,hx7,h⟩:=Qb h
 refine Qa hC [.n 10] rfl tt_ ?_
 rcases x7 with(a8 | (a9 | (a10 | a11)))
 ·replace h:Ql7 a8=some r:=h
  unfold Ql7 at h
  refine Qa hC [.cm (.fn) [] [] [] [.d,.d] [] (.tup [.lit (.map none),.lit (.map none),.b false]),.n 28,.denil 4 [some 2],.keep [4,5] []] rfl ⟨tt_,(Qbf _ _ hx7)⟩ ?_
  cases h
  exact AK.done (ex_ [_,_] (an_ (an_ rfl (an_ rfl tt_)) (gives tt_)))
 ·replace h:Ql8 a9=some r:=h
  unfold Ql8 at h
  refine Qa hC [.cm (.fn) [] [(14,30005)] [] [.d,.d] [(30005,.map (mapV (V.i .i64) (V.i .i64) a9))] (.tup [.lit (.map none),.map 30005,.b false]),.n 28,.denil 4 [some 2],.keep [4,5] []] rfl ⟨tt_,(Qbf _ _ hx7)⟩ ?_
  cases h
  exact AK.done (ex_ [_,_] (an_ (an_ rfl (an_ rfl tt_)) (gives tt_)))
 ·replace h:Ql9 a10=some r:=h
  unfold Ql9 at h
  refine Qa hC [.cm (.fn) [] [(14,30004)] [] [.d,.d] [(30004,.map (mapV (V.i .i64) (V.i .i64) a10))] (.tup [.map 30004,.lit (.map none),.b false]),.n 28,.denil 4 [some 2],.keep [4,5] []] rfl ⟨tt_,(Qbf _ _ hx7)⟩ ?_
  cases h
  exact AK.done (ex_ [_,_] (an_ (an_ rfl (an_ rfl tt_)) (gives tt_)))
 ·replace h:Qj8 a11=some r:=h
  unfold Qj8 at h
  obtain⟨x12,hx12,h⟩:=Qb h
  refine Qa hC [.cm (.fn) [] [(14,30004),(50000,30005)] [] [.d,.d] [(30004,.map (mapV (V.i .i64) (V.i .i64) a11.1)),(30005,.map (mapV (V.i .i64) (V.i .i64) a11.2))] (.tup [.map 30004,.map 30005,.b true]),.n 23,.cm (.fn) [(200000,50000),(200001,14)] [(50000,200000),(14,200001)] [] [.d,.d] [(200000,.map (mapV (V.i .i64) (V.i .i64) a11.2)),(200001,.map (mapV (V.i .i64) (V.i .i64) a11.1))] (.b x12),.n 4] rfl ⟨⟨tt_,(Qbf _ _ hx7)⟩,(QjT _ _ hx12)⟩ ?_
  rcases bifE h with⟨hc13,h⟩|⟨hc13,h⟩
  ·refine Qa hC [.br true,.n 9,.denil 4 [some 2],.keep [4,5] []] rfl ⟨tt_,hc13⟩ ?_
   cases h
   exact AK.done (ex_ [_,_] (an_ (an_ rfl (an_ rfl tt_)) (gives tt_)))
  ·refine Qa hC [.br false,.n 7] rfl ⟨tt_,hc13⟩ ?_
   refine AK.openMap (b:=50000) ky_3 rfl fun bm14 cl14 L14 hbn14 hpm14=>?_
   refine Qa hC [.x (fun σ=>(σ.set 27 (.itr bm14 cl14 #[] none)).put 27 (.loc 27 0 0)),.n 3,.keep [6,27] [14,27,50000]] rfl ⟨tt_,(Stp.range (b:=50000) rfl rfl (bleN hC.n rfl) rfl rfl Qd7 rfl)⟩ ?_
   obtain⟨o20,hl20,h⟩:=Qb h
   refine AK.range (body:=(fun st p=>Qez st p.1 p.2)) (fun st seen σ=>∃cur:Option MapEntry,σ=⟨[(6,.map 14),(27,.loc 27 0 0)],[(14,.map (mapV (V.i .i64) (V.i .i64) st)),(27,.itr bm14 cl14 seen cur),(50000,.mapX bm14 cl14 (typV (V.i .i64) (V.i .i64) L14) (mapV (V.i .i64) (V.i .i64) a11.2))]⟩) (fun (q:Empty) _ _=>False) (fun st e σ=>e=.exit 1∧σ=⟨[(6,.map 14)],[(14,.map (mapV (V.i .i64) (V.i .i64) st))]⟩) hbn14 hpm14 hl20 (ex_ _ rfl) ?_ ?_
   ·rintro m16 seen σ ⟨cur,rfl⟩ hex
    refine Qa hC [.n 2] rfl tt_ ?_
    refine AK.nextT (b:=27) (m:=50000) rfl rfl rfl (bleN hC.n rfl) rfl rfl rfl rfl ?_ ?_
    ·intro hleft
     refine Qa hC [.n 7,.keep [6] [14]] rfl tt_ ?_
     exact AK.done (Or.inl (an_ hleft (an_ (fun h=>(by cases h)) (an_ rfl rfl))))
    ·intro xk18 k18 v19 hq15
     obtain⟨o,h⟩:=hex _ hq15
     have ho:=h
     replace h:Qez m16 k18 v19=some o:=h
     unfold Qez at h
     refine Qa hC [.n 10,.x (fun σ=>σ.put 30 (.tup [.i .i64 k18,.i .i64 v19])),.n 9,.o (.any (.i .i64 ((mget m16 k18).getD 0)) none),.n 2,.x (fun σ=>σ.set 14 (.map (mapV (V.i .i64) (V.i .i64) (mset ltI m16 k18 (w64 (((mget m16 k18).getD 0)-v19)))))),.n 2,.keep [6,27] [14,27,50000]] rfl ⟨⟨⟨tt_,(Stp.entryT (b:=27) (m:=50000) rfl rfl (bleN hC.n rfl) rfl hq15 rfl rfl)⟩,(fun σ h1 h2 _=>Stp.lookup (e:=(V.i .i64)) (f:=(V.i .i64)) (l:=m16) (k:=k18) (z:=0) rfl rfl (bleN hC.n rfl) (h1 _ _ rfl) (h2 _ _ rfl) (h1 _ _ rfl) Qd7 ky_3 zi_3 rfl)⟩,(Stp.mapUpdate (e:=(V.i .i64)) (f:=(V.i .i64)) (l:=m16) (k:=k18) (v:=(w64 (((mget m16 k18).getD 0)-v19))) ltI rfl rfl rfl rfl rfl rfl Qd7 ky_3 rfl)⟩ ?_
     cases h
     exact AK.done (Or.inr (ex_ _ (an_ hq15 (Or.inl (ex_ _ (an_ ho (an_ rfl (ex_ _ rfl))))))))
   ·rcases o20 with(m16 | q)
    ·replace h:Qj7 m16=some r:=h
     unfold Qj7 at h
     rintro e σ ⟨rfl,rfl⟩
     obtain⟨x21,hx21,h⟩:=Qb h
     refine Qa hC [.n 5,.cm (.fn) [(200000,14)] [(39,30000),(14,200000)] [] [.d] [(30000,.arr 2 (x21.map Qy)),(200000,.map (mapV (V.i .i64) (V.i .i64) m16))] (.own 30000 x21.length),.n 5,.frz 39 (x21.map Qy) [4] [],.keep [4,5] []] rfl ⟨⟨tt_,(Qir _ hx21)⟩,⟨tt_,(frzL Qf)⟩⟩ ?_
     cases h
     exact AK.done (ex_ [_,_] (an_ (an_ rfl (an_ rfl tt_)) (gives tt_)))
    ·exact q.elim
def Qb5 (a1:QMk)(b2:QMk)(x9:Int)(l10:QMk):Option ((Int×QMk)⊕(Int⊕QMk)):=
 bif (decide (x9<((List.replicate (min2 (a1.length:Int) (b2.length:Int)).toNat (([]:QBg):QBg)).length:Int)))then
 (idx a1 x9).bind fun e16=>
 (idx b2 x9).bind fun e17=>
 (Qbe e16 e17).bind fun x18=>
 (idx l10 x9).bind fun e19=>
 bif (x18.2 != 0)then
 some (.inr (.inl x18.2))
 else
 some (.inl ((w64 (x9+1)),(l10.set x9.toNat x18.1)))
 else
 some (.inr (.inr l10))
def Qku (x13:Int):Option (QMk×Int):=
 some (([]:List QBg),x13)
def Qkv (l14:QMk):Option (QMk×Int):=
 some (l14,0)
def QdA (a1:QMk)(b2:QMk):Option (QMk×Int):=
 (chk (decide (0≤(min2 (a1.length:Int) (b2.length:Int)))&&decide ((min2 (a1.length:Int) (b2.length:Int))≤(min2 (a1.length:Int) (b2.length:Int)))&&decide ((min2 (a1.length:Int) (b2.length:Int))≤4294967296))).bind fun _=>
 (QA (fun st=>Qb5 a1 b2 st.1 st.2) (0,(List.replicate (min2 (a1.length:Int) (b2.length:Int)).toNat (([]:QBg):QBg)))).bind (Sum.elim (fun q=>Qku q) (fun q=>Qkv q))
theorem QqW (a1:QMk)(b2:QMk){r:(QMk×Int)}(h:QdA a1 b2=some r):Qc Tryz.prog 93 [.sl 1 (a1.map Qh),.sl 1 (b2.map Qh),.clo (.func 94) [] []] [] (Gives (.tup [.sl 1 (r.1.map Qh),.i .i64 r.2]) []):=by
 refine Qc.walk 43 Tryz.func93 rfl Tryz.ntmps93 rfl fun C hC=>?_
 unfold QdA at h
 obtain⟨_,hk7,h⟩:=Qb h
 replace hk7:=chkE hk7
 refine Qa hC [.n 9,.o (.ln a1.length),.n 1,.o (.ln b2.length),.n 1,.o (.rows (List.replicate (min2 (a1.length:Int) (b2.length:Int)).toNat [.lit (.slice none 0 0)]))] rfl ⟨⟨⟨tt_,Qf⟩,Qf⟩,⟨hk7,rfl⟩⟩ ?_
 refine AK.denilA (b:=16) [some 2] rfl (QtJ (f:=Qh) (x:=([]:QBg)) rfl) ?_
 refine Qa hC [.say 16 (.own 16 (List.replicate (min2 (a1.length:Int) (b2.length:Int)).toNat (([]:QBg):QBg)).length),.n 12,.keep [0,1,2,8,18,19] [16]] rfl ⟨tt_,(by simp)⟩ ?_
 obtain⟨o21,hl21,h⟩:=Qb h
 refine AK.loop (body:=(fun st=>Qb5 a1 b2 st.1 st.2)) (fun st σ=>σ=⟨[(0,.sl 1 (a1.map Qh)),(1,.sl 1 (b2.map Qh)),(2,.clo (.func 94) [] []),(8,.own 16 st.2.length),(18,.i .i64 ((List.replicate (min2 (a1.length:Int) (b2.length:Int)).toNat (([]:QBg):QBg)).length:Int)),(19,.i .i64 st.1)],[(16,.arr 1 (st.2.map Qh))]⟩) (Sum.elim (fun q e σ=>e=.ret∧σ=⟨[(6,.lit (.slice none 0 0)),(7,.i .i64 q)],[]⟩) (fun q e σ=>e=.exit 0∧σ=⟨[(8,.own 16 q.length)],[(16,.arr 1 (q.map Qh))]⟩)) hl21 rfl ?_ ?_
 ·rintro ⟨x9,l10⟩ o σ rfl h
  replace h:Qb5 a1 b2 x9 l10=some o:=h
  unfold Qb5 at h
  refine Qa hC [.n 6] rfl tt_ ?_
  rcases bifE h with⟨hc15,h⟩|⟨hc15,h⟩
  ·obtain⟨e16,he16,h⟩:=Qb h
   obtain⟨e17,he17,h⟩:=Qb h
   obtain⟨x18,hx18,h⟩:=Qb h
   obtain⟨e19,he19,h⟩:=Qb h
   refine Qa hC [.br true,.n 16,.keep [0,1,2,8,9,10,18,19] [16]] rfl ⟨tt_,hc15⟩ ?_
   refine AK.draw2 Qo hC mixed [.a .no none false,.a .no none false,.a .no none false,.a .no none false,.a .no none false,.a (.row (Qh e16)) none false,.a .no none false,.a .no none false,.a .no none false,.a (.row (Qh e17)) none false,.a .no none false,.a (.c false [.d,.d] (.tup [.sl 2 (x18.1.map Qy),.i .i64 x18.2])) none false,.a .no none true true,.a .no none false,.a .no none true,.a .no none false,.m (.st (Qh e19) ((l10.set x9.toNat x18.1).map Qh)),.m .s] [0,1,2,8,9,10,18,19] [] [0,1,2,8,10,18,19] [16] rfl rfl rfl ⟨⟨⟨⟨⟨tt_,(idxM he16)⟩,(idxM he17)⟩,(Qs8 _ _ hx18)⟩,(QdE he19 rfl)⟩,⟨(QbZ (idxE he19).2),QkM rfl⟩⟩ rfl (by kernel_rfl) rfl rfl rfl ?_
   refine Qa hC [.n 7] rfl tt_ ?_
   rcases bifE h with⟨hc20,h⟩|⟨hc20,h⟩
   ·refine Qa hC [.br true,.n 10,.keep [6,7] []] rfl ⟨tt_,hc20⟩ ?_
    cases h
    exact rndR rfl (an_ rfl rfl)
   ·refine Qa hC [.br false,.n 7,.say 8 (.own 16 (l10.set x9.toNat x18.1).length),.keep [0,1,2,8,18,19] [16]] rfl ⟨⟨tt_,hc20⟩,(congrArg (fun n=>V.own 16 n) (by simp))⟩ ?_
    cases h
    exact rndN rfl rfl
  ·refine Qa hC [.br false,.n 2,.keep [8] [16]] rfl ⟨tt_,hc15⟩ ?_
   cases h
   exact rndX rfl (an_ rfl rfl)
 ·rcases o21 with(x13 | l14)
  ·replace h:Qku x13=some r:=h
   unfold Qku at h
   rintro e σ ⟨rfl,rfl⟩
   refine Qa hC [.n 2,.denil 6 [some 1],.keep [6,7] []] rfl tt_ ?_
   cases h
   exact AK.done (ex_ [_,_] (an_ (an_ rfl (an_ rfl tt_)) (gives tt_)))
  ·replace h:Qkv l14=some r:=h
   unfold Qkv at h
   rintro e σ ⟨rfl,rfl⟩
   refine Qa hC [.n 10,.frz 16 (l14.map Qh) [6] [],.keep [6,7] []] rfl ⟨tt_,⟨tt_,(frzL Qf)⟩⟩ ?_
   cases h
   exact AK.done (ex_ [_,_] (an_ (an_ rfl (an_ rfl tt_)) (gives tt_)))
def Qe3 (n1:TNet)(m2:QMk)(o3:Qk):Option (QMk×Int):=
 (QfD n1 m2 o3).bind fun x8=>
 bif (x8 != 0)then
 some (([]:List QBg),x8)
 else
 (Qhi n1 o3).bind fun x10=>
 bif (x10.2 != 0)then
 some (([]:List QBg),x10.2)
 else
 (QdA m2 x10.1).bind fun x12=>
 some (x12.1,x12.2)
theorem Qss (n1:TNet)(m2:QMk)(o3:Qk){r:(QMk×Int)}(h:Qe3 n1 m2 o3=some r):Qc Tryz.prog 48 [.agg (Qd n1),.sl 1 (m2.map Qh),.agg (Qj o3)] [] (Gives (.tup [.sl 1 (r.1.map Qh),.i .i64 r.2]) []):=by
 refine Qc.walk 32 Tryz.func48 rfl Tryz.ntmps48 rfl fun C hC=>?_
 unfold Qe3 at h
 obtain⟨x8,hx8,h⟩:=Qb h
 refine Qa hC [.n 11,.v .no [] (.agg (Qd n1)),.n 1,.v .no [] (.agg (Qj o3)),.o (.c false [.d,.d,.d] (.i .i64 x8)),.n 9] rfl ⟨⟨⟨tt_,rfl⟩,rfl⟩,(Qnw _ _ _ hx8)⟩ ?_
 rcases bifE h with⟨hc9,h⟩|⟨hc9,h⟩
 ·refine Qa hC [.br true,.n 9,.denil 6 [some 1],.keep [6,7] []] rfl ⟨tt_,hc9⟩ ?_
  cases h
  exact AK.done (ex_ [_,_] (an_ (an_ rfl (an_ rfl tt_)) (gives tt_)))
 ·obtain⟨x10,hx10,h⟩:=Qb h
  refine Qa hC [.br false,.n 4,.v .no [] (.agg (Qd n1)),.v .no [] (.agg (Qj o3)),.o (.c false [.d,.d] (.tup [.sl 1 (x10.1.map Qh),.i .i64 x10.2])),.n 14] rfl ⟨⟨⟨⟨tt_,hc9⟩,rfl⟩,rfl⟩,(QrN _ _ hx10)⟩ ?_
  rcases bifE h with⟨hc11,h⟩|⟨hc11,h⟩
  ·refine Qa hC [.br true,.n 9,.denil 6 [some 1],.keep [6,7] []] rfl ⟨tt_,hc11⟩ ?_
   cases h
   exact AK.done (ex_ [_,_] (an_ (an_ rfl (an_ rfl tt_)) (gives tt_)))
  ·obtain⟨x12,hx12,h⟩:=Qb h
   refine Qa hC [.br false,.n 6,.cm (.fn) [] [] [] [.d,.d,.d] [] (.tup [.sl 1 (x12.1.map Qh),.i .i64 x12.2]),.n 7,.keep [6,7] []] rfl ⟨⟨tt_,hc11⟩,(QqW _ _ hx12)⟩ ?_
   cases h
   exact AK.done (ex_ [_,_] (an_ (an_ rfl (an_ rfl tt_)) (gives tt_)))
def Qi0 (n1:TNet)(o2:Qk):Option (QMk×Int):=
 (Qd2 n1 o2.Task o2.Vars).bind fun x7=>
 bif (x7.2 != 0)then
 some (([]:List QBg),x7.2)
 else
 (idx n1.Tasks o2.Task).bind fun e9=>
 (QcG n1 e9.Outs o2.Outs x7.1).bind fun x10=>
 some (x10.1,x10.2)
theorem QrO (n1:TNet)(o2:Qk){r:(QMk×Int)}(h:Qi0 n1 o2=some r):Qc Tryz.prog 95 [.agg (Qd n1),.agg (Qj o2)] [] (Gives (.tup [.sl 1 (r.1.map Qh),.i .i64 r.2]) []):=by
 refine Qc.walk 34 Tryz.func95 rfl Tryz.ntmps95 rfl fun C hC=>?_
 unfold Qi0 at h
 obtain⟨x7,hx7,h⟩:=Qb h
 refine Qa hC [.n 10,.v .no [] (.agg (Qd n1)),.n 4,.o (.c false [.d,.d,.d] (.tup [.sl 1 (x7.1.map Qe),.i .i64 x7.2])),.n 14] rfl ⟨⟨tt_,rfl⟩,(Ql1 _ _ _ hx7)⟩ ?_
 rcases bifE h with⟨hc8,h⟩|⟨hc8,h⟩
 ·refine Qa hC [.br true,.n 9,.denil 4 [some 1],.keep [4,5] []] rfl ⟨tt_,hc8⟩ ?_
  cases h
  exact AK.done (ex_ [_,_] (an_ (an_ rfl (an_ rfl tt_)) (gives tt_)))
 ·obtain⟨e9,he9,h⟩:=Qb h
  obtain⟨x10,hx10,h⟩:=Qb h
  refine Qa hC [.br false,.n 3,.keep [2,3,4,5,6] [2,3]] rfl ⟨tt_,hc8⟩ ?_
  refine AK.draw2 Qo hC mixed [.a .no (some ([],.agg (Qd n1))) false,.a .no none false,.a .no none false,.a .no none false,.a .no none false,.a (.row (Qi e9)) none false,.a .no none false,.a .no none false,.a .no none false,.a .no none false,.a .no none false,.a (.c false [.d,.d,.d,.d] (.tup [.sl 1 (x10.1.map Qh),.i .i64 x10.2])) none false,.a .no none false,.a .no none false,.m .s,.m .s] [] [] [4,5] [] rfl rfl rfl ⟨⟨⟨tt_,rfl⟩,(idxM he9)⟩,(Qfx _ _ _ _ hx10)⟩ rfl (by kernel_rfl) rfl rfl rfl ?_
  refine Qa hC [.n 2,.keep [4,5] []] rfl tt_ ?_
  cases h
  exact AK.done (ex_ [_,_] (an_ (an_ rfl (an_ rfl tt_)) (gives tt_)))
def Qbb (a1:QMk)(b2:QMk)(x9:Int)(l10:QMk):Option ((Int×QMk)⊕(Int⊕QMk)):=
 bif (decide (x9<((List.replicate (min2 (a1.length:Int) (b2.length:Int)).toNat (([]:QBg):QBg)).length:Int)))then
 (idx a1 x9).bind fun e16=>
 (idx b2 x9).bind fun e17=>
 (Qba e16 e17).bind fun x18=>
 (idx l10 x9).bind fun e19=>
 bif (x18.2 != 0)then
 some (.inr (.inl x18.2))
 else
 some (.inl ((w64 (x9+1)),(l10.set x9.toNat x18.1)))
 else
 some (.inr (.inr l10))
def Qis (x13:Int):Option (QMk×Int):=
 some (([]:List QBg),x13)
def Qit (l14:QMk):Option (QMk×Int):=
 some (l14,0)
def QcP (a1:QMk)(b2:QMk):Option (QMk×Int):=
 (chk (decide (0≤(min2 (a1.length:Int) (b2.length:Int)))&&decide ((min2 (a1.length:Int) (b2.length:Int))≤(min2 (a1.length:Int) (b2.length:Int)))&&decide ((min2 (a1.length:Int) (b2.length:Int))≤4294967296))).bind fun _=>
 (QA (fun st=>Qbb a1 b2 st.1 st.2) (0,(List.replicate (min2 (a1.length:Int) (b2.length:Int)).toNat (([]:QBg):QBg)))).bind (Sum.elim (fun q=>Qis q) (fun q=>Qit q))
theorem QoT (a1:QMk)(b2:QMk){r:(QMk×Int)}(h:QcP a1 b2=some r):Qc Tryz.prog 93 [.sl 1 (a1.map Qh),.sl 1 (b2.map Qh),.clo (.func 96) [] []] [] (Gives (.tup [.sl 1 (r.1.map Qh),.i .i64 r.2]) []):=by
 refine Qc.walk 43 Tryz.func93 rfl Tryz.ntmps93 rfl fun C hC=>?_
 unfold QcP at h
 obtain⟨_,hk7,h⟩:=Qb h
 replace hk7:=chkE hk7
 refine Qa hC [.n 9,.o (.ln a1.length),.n 1,.o (.ln b2.length),.n 1,.o (.rows (List.replicate (min2 (a1.length:Int) (b2.length:Int)).toNat [.lit (.slice none 0 0)]))] rfl ⟨⟨⟨tt_,Qf⟩,Qf⟩,⟨hk7,rfl⟩⟩ ?_
 refine AK.denilA (b:=16) [some 2] rfl (QtJ (f:=Qh) (x:=([]:QBg)) rfl) ?_
 refine Qa hC [.say 16 (.own 16 (List.replicate (min2 (a1.length:Int) (b2.length:Int)).toNat (([]:QBg):QBg)).length),.n 12,.keep [0,1,2,8,18,19] [16]] rfl ⟨tt_,(by simp)⟩ ?_
 obtain⟨o21,hl21,h⟩:=Qb h
 refine AK.loop (body:=(fun st=>Qbb a1 b2 st.1 st.2)) (fun st σ=>σ=⟨[(0,.sl 1 (a1.map Qh)),(1,.sl 1 (b2.map Qh)),(2,.clo (.func 96) [] []),(8,.own 16 st.2.length),(18,.i .i64 ((List.replicate (min2 (a1.length:Int) (b2.length:Int)).toNat (([]:QBg):QBg)).length:Int)),(19,.i .i64 st.1)],[(16,.arr 1 (st.2.map Qh))]⟩) (Sum.elim (fun q e σ=>e=.ret∧σ=⟨[(6,.lit (.slice none 0 0)),(7,.i .i64 q)],[]⟩) (fun q e σ=>e=.exit 0∧σ=⟨[(8,.own 16 q.length)],[(16,.arr 1 (q.map Qh))]⟩)) hl21 rfl ?_ ?_
 ·rintro ⟨x9,l10⟩ o σ rfl h
  replace h:Qbb a1 b2 x9 l10=some o:=h
  unfold Qbb at h
  refine Qa hC [.n 6] rfl tt_ ?_
  rcases bifE h with⟨hc15,h⟩|⟨hc15,h⟩
  ·obtain⟨e16,he16,h⟩:=Qb h
   obtain⟨e17,he17,h⟩:=Qb h
   obtain⟨x18,hx18,h⟩:=Qb h
   obtain⟨e19,he19,h⟩:=Qb h
   refine Qa hC [.br true,.n 16,.keep [0,1,2,8,9,10,18,19] [16]] rfl ⟨tt_,hc15⟩ ?_
   refine AK.draw2 Qo hC mixed [.a .no none false,.a .no none false,.a .no none false,.a .no none false,.a .no none false,.a (.row (Qh e16)) none false,.a .no none false,.a .no none false,.a .no none false,.a (.row (Qh e17)) none false,.a .no none false,.a (.c false [.d,.d] (.tup [.sl 2 (x18.1.map Qy),.i .i64 x18.2])) none false,.a .no none true true,.a .no none false,.a .no none true,.a .no none false,.m (.st (Qh e19) ((l10.set x9.toNat x18.1).map Qh)),.m .s] [0,1,2,8,9,10,18,19] [] [0,1,2,8,10,18,19] [16] rfl rfl rfl ⟨⟨⟨⟨⟨tt_,(idxM he16)⟩,(idxM he17)⟩,(Qpz _ _ hx18)⟩,(QdE he19 rfl)⟩,⟨(QbZ (idxE he19).2),QkM rfl⟩⟩ rfl (by kernel_rfl) rfl rfl rfl ?_
   refine Qa hC [.n 7] rfl tt_ ?_
   rcases bifE h with⟨hc20,h⟩|⟨hc20,h⟩
   ·refine Qa hC [.br true,.n 10,.keep [6,7] []] rfl ⟨tt_,hc20⟩ ?_
    cases h
    exact rndR rfl (an_ rfl rfl)
   ·refine Qa hC [.br false,.n 7,.say 8 (.own 16 (l10.set x9.toNat x18.1).length),.keep [0,1,2,8,18,19] [16]] rfl ⟨⟨tt_,hc20⟩,(congrArg (fun n=>V.own 16 n) (by simp))⟩ ?_
    cases h
    exact rndN rfl rfl
  ·refine Qa hC [.br false,.n 2,.keep [8] [16]] rfl ⟨tt_,hc15⟩ ?_
   cases h
   exact rndX rfl (an_ rfl rfl)
 ·rcases o21 with(x13 | l14)
  ·replace h:Qis x13=some r:=h
   unfold Qis at h
   rintro e σ ⟨rfl,rfl⟩
   refine Qa hC [.n 2,.denil 6 [some 1],.keep [6,7] []] rfl tt_ ?_
   cases h
   exact AK.done (ex_ [_,_] (an_ (an_ rfl (an_ rfl tt_)) (gives tt_)))
  ·replace h:Qit l14=some r:=h
   unfold Qit at h
   rintro e σ ⟨rfl,rfl⟩
   refine Qa hC [.n 10,.frz 16 (l14.map Qh) [6] [],.keep [6,7] []] rfl ⟨tt_,⟨tt_,(frzL Qf)⟩⟩ ?_
   cases h
   exact AK.done (ex_ [_,_] (an_ (an_ rfl (an_ rfl tt_)) (gives tt_)))
def QcY (x13:Int)(l19:QMk):Option ((Int×QMk)⊕QMk):=
 some (.inl ((w64 (x13+1)),l19))
def QcZ (e11:Qr)(x13:Int)(l14:QMk):Option ((Int×QMk)⊕QMk):=
 bif (decide (x13<(e11.Cancel.length:Int)))then
 (idx e11.Cancel x13).bind fun e20=>
 bif ((decide (0≤e20))&&(decide (e20<(l14.length:Int))))then
 (idx l14 e20).bind fun e24=>
 QcY x13 (l14.set e20.toNat ([]:List (Int×Int)))
 else
 QcY x13 l14
 else
 some (.inr l14)
def QdX (x8:(QMk×Int))(l17:QMk):Option (QMk×Int):=
 (QcP l17 x8.1).bind fun x26=>
 some (x26.1,x26.2)
def Qe4 (n1:TNet)(m2:QMk)(o3:Qk):Option (QMk×Int):=
 (Qi0 n1 o3).bind fun x8=>
 bif (x8.2 != 0)then
 some (([]:List QBg),x8.2)
 else
 (Qik m2).bind fun x10=>
 (idx n1.Tasks o3.Task).bind fun e11=>
 (QA (fun st=>QcZ e11 st.1 st.2) (0,x10)).bind (fun q=>QdX x8 q)
theorem Qst (n1:TNet)(m2:QMk)(o3:Qk){r:(QMk×Int)}(h:Qe4 n1 m2 o3=some r):Qc Tryz.prog 49 [.agg (Qd n1),.sl 1 (m2.map Qh),.agg (Qj o3)] [] (Gives (.tup [.sl 1 (r.1.map Qh),.i .i64 r.2]) []):=by
 refine Qc.walk 53 Tryz.func49 rfl Tryz.ntmps49 rfl fun C hC=>?_
 unfold Qe4 at h
 obtain⟨x8,hx8,h⟩:=Qb h
 refine Qa hC [.n 10,.v .no [] (.agg (Qd n1)),.v .no [] (.agg (Qj o3)),.o (.c false [.d,.d] (.tup [.sl 1 (x8.1.map Qh),.i .i64 x8.2])),.n 14] rfl ⟨⟨⟨tt_,rfl⟩,rfl⟩,(QrO _ _ hx8)⟩ ?_
 rcases bifE h with⟨hc9,h⟩|⟨hc9,h⟩
 ·refine Qa hC [.br true,.n 9,.denil 6 [some 1],.keep [6,7] []] rfl ⟨tt_,hc9⟩ ?_
  cases h
  exact AK.done (ex_ [_,_] (an_ (an_ rfl (an_ rfl tt_)) (gives tt_)))
 ·obtain⟨x10,hx10,h⟩:=Qb h
  obtain⟨e11,he11,h⟩:=Qb h
  refine Qa hC [.br false,.n 5,.o (.co false [.d] 1 (x10.map Qh) x10.length),.n 10,.o (.row (Qi e11)),.n 2,.o (.ln e11.Cancel.length),.n 4,.keep [8,10,30,31,32] [23]] rfl ⟨⟨⟨⟨tt_,hc9⟩,⟨(QnW _ hx10),Qf,.inl rfl⟩⟩,(idxM he11)⟩,Qf⟩ ?_
  obtain⟨l17,hl25,h⟩:=Qb h
  refine AK.loop (body:=(fun st=>QcZ e11 st.1 st.2)) (fun st σ=>σ=⟨[(8,.sl 1 (x8.1.map Qh)),(10,.own 23 st.2.length),(30,.sl 1 (e11.Cancel.map Qe)),(31,.i .i64 (e11.Cancel.length:Int)),(32,.i .i64 st.1)],[(23,.arr 1 (st.2.map Qh))]⟩) (fun q e σ=>e=.exit 0∧σ=⟨[(8,.sl 1 (x8.1.map Qh)),(10,.own 23 q.length)],[(23,.arr 1 (q.map Qh))]⟩) hl25 rfl ?_ ?_
  ·rintro ⟨x13,l14⟩ o σ rfl h
   replace h:QcZ e11 x13 l14=some o:=h
   unfold QcZ at h
   refine Qa hC [.n 6] rfl tt_ ?_
   rcases bifE h with⟨hc18,h⟩|⟨hc18,h⟩
   ·refine Qa hC [.br true,.n 2] rfl ⟨tt_,hc18⟩ ?_
    refine AK.meet (fun σ=>∃l19:QMk,σ=⟨[(8,.sl 1 (x8.1.map Qh)),(10,.own 23 l19.length),(30,.sl 1 (e11.Cancel.map Qe)),(31,.i .i64 (e11.Cancel.length:Int)),(32,.i .i64 x13)],[(23,.arr 1 (l19.map Qh))]⟩∧QcY x13 l19=some o) ?_ ?_
    ·obtain⟨e20,he20,h⟩:=Qb h
     refine Qa hC [.n 3,.o (.row (Qe e20)),.n 5] rfl ⟨tt_,(idxM he20)⟩ ?_
     refine AK.meetX (fun σ=>σ=⟨[(8,.sl 1 (x8.1.map Qh)),(10,.own 23 l14.length),(12,.i .i64 e20),(30,.sl 1 (e11.Cancel.map Qe)),(31,.i .i64 (e11.Cancel.length:Int)),(32,.i .i64 x13),(43,.b ((decide (0≤e20))&&(decide (e20<(l14.length:Int)))))],[(23,.arr 1 (l14.map Qh))]⟩) ?_ ?_
     ·refine Qa hC [.n 4] rfl tt_ ?_
      rcases QN (decide (0≤e20))with hc22 | hc22
      ·refine Qa hC [.say 38 (.b true),.n 6,.say 43 (.b ((decide (0≤e20))&&(decide (e20<(l14.length:Int))))),.keep [8,10,12,30,31,32,43] [23]] rfl ⟨⟨tt_,(congrArg V.b hc22)⟩,(congrArg V.b (andT hc22 rfl))⟩ ?_
       exact AK.met rfl
      ·refine Qa hC [.say 38 (.b false),.n 6,.say 43 (.b ((decide (0≤e20))&&(decide (e20<(l14.length:Int))))),.keep [8,10,12,30,31,32,43] [23]] rfl ⟨⟨tt_,(congrArg V.b hc22)⟩,(congrArg V.b (andF hc22 rfl))⟩ ?_
       exact AK.met rfl
     ·rintro σ rfl
      refine Qa hC [.n 1] rfl tt_ ?_
      rcases bifE h with⟨hc23,h⟩|⟨hc23,h⟩
      ·obtain⟨e24,he24,h⟩:=Qb h
       refine Qa hC [.br true,.n 4,.x (fun σ=>σ.set 23 (.arr 1 ((l14.set e20.toNat ([]:List (Int×Int))).map Qh))),.n 2,.say 10 (.own 23 (l14.set e20.toNat ([]:List (Int×Int))).length),.keep [8,10,30,31,32] [23]] rfl ⟨⟨⟨⟨tt_,hc23⟩,(QdE he24 rfl)⟩,(Stp.storeNil (zz:=2) (r:=Qh e24) rfl rfl rfl rfl (QbZ (idxE he24).2) rfl (Qo.sz rfl) rfl (QkM rfl))⟩,(congrArg (fun n=>V.own 23 n) (by simp))⟩ ?_
       exact AK.met (ex_ _ (an_ rfl h))
      ·refine Qa hC [.br false,.n 2,.keep [8,10,30,31,32] [23]] rfl ⟨tt_,hc23⟩ ?_
       exact AK.met (ex_ _ (an_ rfl h))
    ·rintro σ ⟨l19,rfl,h⟩
     unfold QcY at h
     refine Qa hC [.n 4,.keep [8,10,30,31,32] [23]] rfl tt_ ?_
     cases h
     exact rndN rfl rfl
   ·refine Qa hC [.br false,.n 2,.keep [8,10] [23]] rfl ⟨tt_,hc18⟩ ?_
    cases h
    exact rndX rfl (an_ rfl rfl)
  ·replace h:QdX x8 l17=some r:=h
   unfold QdX at h
   rintro e σ ⟨rfl,rfl⟩
   obtain⟨x26,hx26,h⟩:=Qb h
   refine Qa hC [.n 6,.frz 23 (l17.map Qh) [10,48] [],.cm (.fn) [] [] [] [.d,.d,.d] [] (.tup [.sl 1 (x26.1.map Qh),.i .i64 x26.2]),.n 7,.keep [6,7] []] rfl ⟨⟨tt_,⟨⟨tt_,(frzL Qf)⟩,(frzL Qf)⟩⟩,(QoT _ _ hx26)⟩ ?_
   cases h
   exact AK.done (ex_ [_,_] (an_ (an_ rfl (an_ rfl tt_)) (gives tt_)))
def QdB (n1:TNet)(m2:QMk)(o3:Qk):Option (QMk×Int):=
 (Qe3 n1 m2 o3).bind fun x8=>
 bif (x8.2 != 0)then
 some (([]:List QBg),x8.2)
 else
 (Qe4 n1 x8.1 o3).bind fun x10=>
 some (x10.1,x10.2)
theorem QpB (n1:TNet)(m2:QMk)(o3:Qk){r:(QMk×Int)}(h:QdB n1 m2 o3=some r):Qc Tryz.prog 25 [.agg (Qd n1),.sl 1 (m2.map Qh),.agg (Qj o3)] [] (Gives (.tup [.sl 1 (r.1.map Qh),.i .i64 r.2]) []):=by
 refine Qc.walk 26 Tryz.func25 rfl Tryz.ntmps25 rfl fun C hC=>?_
 unfold QdB at h
 obtain⟨x8,hx8,h⟩:=Qb h
 refine Qa hC [.n 10,.v .no [] (.agg (Qd n1)),.n 1,.v .no [] (.agg (Qj o3)),.o (.c false [.d,.d,.d] (.tup [.sl 1 (x8.1.map Qh),.i .i64 x8.2])),.n 14] rfl ⟨⟨⟨tt_,rfl⟩,rfl⟩,(Qss _ _ _ hx8)⟩ ?_
 rcases bifE h with⟨hc9,h⟩|⟨hc9,h⟩
 ·refine Qa hC [.br true,.n 9,.denil 6 [some 1],.keep [6,7] []] rfl ⟨tt_,hc9⟩ ?_
  cases h
  exact AK.done (ex_ [_,_] (an_ (an_ rfl (an_ rfl tt_)) (gives tt_)))
 ·obtain⟨x10,hx10,h⟩:=Qb h
  refine Qa hC [.br false,.n 4,.v .no [] (.agg (Qd n1)),.n 1,.v .no [] (.agg (Qj o3)),.o (.c false [.d,.d,.d] (.tup [.sl 1 (x10.1.map Qh),.i .i64 x10.2])),.n 7,.keep [6,7] []] rfl ⟨⟨⟨⟨tt_,hc9⟩,rfl⟩,rfl⟩,(Qst _ _ _ hx10)⟩ ?_
  cases h
  exact AK.done (ex_ [_,_] (an_ (an_ rfl (an_ rfl tt_)) (gives tt_)))
def Qcp (x25:Int)(m35:QSB)(l36:(List QMk)):Option ((Int×QSB×(List QMk))⊕((List QMk)⊕(QSB×(List QMk)))):=
 some (.inl ((w64 (x25+1)),m35,l36))
def Qg2 (x40:(QMk×Int))(m26:QSB):Option Bool:=
 bif (x40.2 != 0)then
 some true
 else
 (Qfp x40.1).bind fun x44=>
 some ((mget m26 x44).getD false)
def Qdx (x25:Int)(m26:QSB)(l27:(List QMk))(budget4:Int)(x40:(QMk×Int))(x41:Bool):Option ((Int×QSB×(List QMk))⊕((List QMk)⊕(QSB×(List QMk)))):=
 bif x41 then
 Qcp x25 m26 l27
 else
 bif ((l27.length:Int)==(min2 (max2 0 budget4) 4096))then
 some (.inr (.inl l27))
 else
 (Qfp x40.1).bind fun x47=>
 (chk (decide (l27.length+([x40.1]:List QMk).length≤4294967296))).bind fun _=>
 Qcp x25 (mset ltS m26 x47 true) (l27++([x40.1]:List QMk))
def Qcq (x23:(List Qk))(without3:Int)(at_13:Int)(n1:TNet)(budget4:Int)(x25:Int)(m26:QSB)(l27:(List QMk)):Option ((Int×QSB×(List QMk))⊕((List QMk)⊕(QSB×(List QMk)))):=
 bif (decide (x25<(x23.length:Int)))then
 (idx x23 x25).bind fun e37=>
 bif (e37.Task==without3)then
 Qcp x25 m26 l27
 else
 (idx l27 at_13).bind fun e39=>
 (QdB n1 e39 e37).bind fun x40=>
 (Qg2 x40 m26).bind (fun x41=>Qdx x25 m26 l27 budget4 x40 x41)
 else
 some (.inr (.inr (m26,l27)))
def QeK (l31:(List QMk)):Option ((Int×QSB×(List QMk))⊕((List QMk)⊕(List QMk))):=
 some (.inr (.inl l31))
def QeL (at_13:Int)(m32:QSB)(l33:(List QMk)):Option ((Int×QSB×(List QMk))⊕((List QMk)⊕(List QMk))):=
 some (.inl ((w64 (at_13+1)),m32,l33))
def Qcr (n1:TNet)(without3:Int)(budget4:Int)(at_13:Int)(m14:QSB)(l15:(List QMk)):Option ((Int×QSB×(List QMk))⊕((List QMk)⊕(List QMk))):=
 bif (decide (at_13<(l15.length:Int)))then
 (idx l15 at_13).bind fun e22=>
 (QeX n1 e22 9223372036854775807).bind fun x23=>
 (QA (fun st=>Qcq x23 without3 at_13 n1 budget4 st.1 st.2.1 st.2.2) (0,m14,l15)).bind (Sum.elim (fun q=>QeK q) (fun q=>QeL at_13 q.1 q.2))
 else
 some (.inr (.inr l15))
def Qjz (l19:(List QMk)):Option ((List QMk)×Bool):=
 some (l19,false)
def QjA (l20:(List QMk)):Option ((List QMk)×Bool):=
 some (l20,true)
def QdY (n1:TNet)(m2:QMk)(without3:Int)(budget4:Int):Option ((List QMk)×Bool):=
 bif ((min2 (max2 0 budget4) 4096)==0)then
 some (([]:List QMk),false)
 else
 (Qfp m2).bind fun x10=>
 (Qik m2).bind fun x11=>
 (QA (fun st=>Qcr n1 without3 budget4 st.1 st.2.1 st.2.2) (0,(mset ltS ([]:QSB) x10 true),([x11]:List QMk))).bind (Sum.elim (fun q=>Qjz q) (fun q=>QjA q))
theorem QjB (n1:TNet)(m2:QMk)(without3:Int)(budget4:Int){r:((List QMk)×Bool)}(h:QdY n1 m2 without3 budget4=some r):Qc Tryz.prog 11 [.agg (Qd n1),.sl 1 (m2.map Qh),.i .i64 without3,.i .i64 budget4] [] (Gives (.tup [.sl 1 (r.1.map Qs),.b r.2]) []):=by
 refine Qc.walk 83 Tryz.func11 rfl Tryz.ntmps11 rfl fun C hC=>?_
 unfold QdY at h
 refine Qa hC [.n 22] rfl tt_ ?_
 rcases bifE h with⟨hc9,h⟩|⟨hc9,h⟩
 ·refine Qa hC [.br true,.n 8,.denil 8 [some 1],.keep [8,9] []] rfl ⟨tt_,hc9⟩ ?_
  cases h
  exact AK.done (ex_ [_,_] (an_ (an_ rfl (an_ rfl tt_)) (gives tt_)))
 ·obtain⟨x10,hx10,h⟩:=Qb h
  obtain⟨x11,hx11,h⟩:=Qb h
  refine Qa hC [.br false,.n 5,.sayO 23 (.map (mapV V.s V.b ([]:QSB))),.n 1,.o (.c false [.d] (.s x10)),.x (fun σ=>σ.set 23 (.map (mapV V.s V.b (mset ltS ([]:QSB) x10 true)))),.n 7,.o (.co false [.d] 1 (x11.map Qh) x11.length),.frz 28 (x11.map Qh) [28] [],.n 1,.sayO 29 (.arr 1 (([x11]:List QMk).map Qs)),.say 29 (.own 29 ([x11]:List QMk).length),.n 10,.keep [2,4,10,11,12,13] [4,23,29]] rfl ⟨⟨⟨⟨⟨⟨⟨⟨tt_,hc9⟩,rfl⟩,(QkQ _ hx10)⟩,(Stp.insert (e:=V.s) (f:=V.b) (l:=([]:QSB)) (k:=x10) (v:=true) ltS rfl rfl rfl rfl rfl rfl Qox ky_9 rfl)⟩,⟨(QnW _ hx11),Qf,.inl rfl⟩⟩,⟨tt_,(frzL Qf)⟩⟩,rfl⟩,rfl⟩ ?_
  obtain⟨o50,hl50,h⟩:=Qb h
  refine AK.loop (body:=(fun st=>Qcr n1 without3 budget4 st.1 st.2.1 st.2.2)) (fun st σ=>σ=⟨[(2,.i .i64 without3),(4,.loc 4 0 0),(10,.i .i64 (min2 (max2 0 budget4) 4096)),(11,.map 23),(12,.own 29 st.2.2.length),(13,.i .i64 st.1)],[(4,.var (Qd n1)),(23,.map (mapV V.s V.b st.2.1)),(29,.arr 1 (st.2.2.map Qs))]⟩) (Sum.elim (fun q e σ=>e=.ret∧σ=⟨[(8,.own 29 q.length),(9,.b false)],[(29,.arr 1 (q.map Qs))]⟩) (fun q e σ=>e=.exit 0∧σ=⟨[(12,.own 29 q.length)],[(29,.arr 1 (q.map Qs))]⟩)) hl50 rfl ?_ ?_
  ·rintro ⟨at_13,m14,l15⟩ o σ rfl h
   replace h:Qcr n1 without3 budget4 at_13 m14 l15=some o:=h
   unfold Qcr at h
   refine Qa hC [.n 9] rfl tt_ ?_
   rcases bifE h with⟨hc21,h⟩|⟨hc21,h⟩
   ·obtain⟨e22,he22,h⟩:=Qb h
    obtain⟨x23,hx23,h⟩:=Qb h
    refine Qa hC [.br true,.n 5,.keep [2,4,10,11,12,13] [4,23,29]] rfl ⟨tt_,hc21⟩ ?_
    refine AK.draw2 Qo hC mixed [.a .no (some ([],.agg (Qd n1))) false,.a .no none false,.a .no none false,.a .no none false,.a (.row (Qs e22)) none false,.a (.co false [.d,.d,.d] 4 (x23.map Qj) x23.length) none false,.a .no none false,.a .no none false] [] [] [2,4,10,11,12,13,41,42,43] [4,23,29,41] rfl rfl rfl ⟨⟨⟨⟨tt_,rfl⟩,(QdE he22 rfl)⟩,(QbZ (idxE he22).2)⟩,⟨(Qj6 _ _ _ hx23),Qf,.inl rfl⟩⟩ rfl (by kernel_rfl) rfl rfl rfl ?_
    refine Qa hC [.n 2,.keep [2,4,10,11,12,13,41,42,43] [4,23,29,41]] rfl tt_ ?_
    obtain⟨o49,hl49,h⟩:=Qb h
    refine AK.loop (body:=(fun st=>Qcq x23 without3 at_13 n1 budget4 st.1 st.2.1 st.2.2)) (fun st σ=>σ=⟨[(2,.i .i64 without3),(4,.loc 4 0 0),(10,.i .i64 (min2 (max2 0 budget4) 4096)),(11,.map 23),(12,.own 29 st.2.2.length),(13,.i .i64 at_13),(41,.own 41 x23.length),(42,.i .i64 (x23.length:Int)),(43,.i .i64 st.1)],[(4,.var (Qd n1)),(23,.map (mapV V.s V.b st.2.1)),(29,.arr 1 (st.2.2.map Qs)),(41,.arr 4 (x23.map Qj))]⟩) (Sum.elim (fun q e σ=>e=.ret∧σ=⟨[(8,.own 29 q.length),(9,.b false)],[(29,.arr 1 (q.map Qs))]⟩) (fun q e σ=>e=.exit 2∧σ=⟨[(2,.i .i64 without3),(4,.loc 4 0 0),(10,.i .i64 (min2 (max2 0 budget4) 4096)),(11,.map 23),(12,.own 29 q.2.length),(13,.i .i64 at_13)],[(4,.var (Qd n1)),(23,.map (mapV V.s V.b q.1)),(29,.arr 1 (q.2.map Qs))]⟩)) hl49 rfl ?_ ?_
    ·rintro ⟨x25,m26,l27⟩ o σ rfl h
     replace h:Qcq x23 without3 at_13 n1 budget4 x25 m26 l27=some o:=h
     unfold Qcq at h
     refine Qa hC [.n 6] rfl tt_ ?_
     rcases bifE h with⟨hc34,h⟩|⟨hc34,h⟩
     ·refine Qa hC [.br true,.n 2] rfl ⟨tt_,hc34⟩ ?_
      refine AK.meet (fun σ=>∃m35:QSB,∃l36:(List QMk),σ=⟨[(2,.i .i64 without3),(4,.loc 4 0 0),(10,.i .i64 (min2 (max2 0 budget4) 4096)),(11,.map 23),(12,.own 29 l36.length),(13,.i .i64 at_13),(41,.own 41 x23.length),(42,.i .i64 (x23.length:Int)),(43,.i .i64 x25)],[(4,.var (Qd n1)),(23,.map (mapV V.s V.b m35)),(29,.arr 1 (l36.map Qs)),(41,.arr 4 (x23.map Qj))]⟩∧Qcp x25 m35 l36=some o) ?_ ?_
      ·obtain⟨e37,he37,h⟩:=Qb h
       refine Qa hC [.n 4,.v (.row (Qj e37)) [] (.agg (Qj e37)),.n 2,.sayO 15 (.var (Qj e37)),.n 11] rfl ⟨⟨⟨⟨tt_,(QdE he37 rfl)⟩,(QbZ (idxE he37).2)⟩,rfl⟩,rfl⟩ ?_
       rcases bifE h with⟨hc38,h⟩|⟨hc38,h⟩
       ·refine Qa hC [.br true,.n 3,.keep [2,4,10,11,12,13,41,42,43] [4,23,29,41]] rfl ⟨tt_,hc38⟩ ?_
        exact AK.met (ex_ _ (ex_ _ (an_ rfl h)))
       ·obtain⟨e39,he39,h⟩:=Qb h
        obtain⟨x40,hx40,h⟩:=Qb h
        refine Qa hC [.br false,.n 3,.keep [2,4,10,11,12,13,15,41,42,43] [4,15,23,29,41]] rfl ⟨tt_,hc38⟩ ?_
        refine AK.draw2 Qo hC mixed [.a .no (some ([],.agg (Qd n1))) false,.a .no none false,.a .no none false,.a .no none false,.a (.row (Qs e39)) none false,.a .no (some ([],.agg (Qj e37))) false,.a (.c false [.d,.d,.d] (.tup [.sl 1 (x40.1.map Qh),.i .i64 x40.2])) none false,.a .no none false,.a .no none false,.a .no none false,.a .no none false,.a .no none false] [] [] [2,4,10,11,12,13,16,17,41,42,43] [4,23,29,41] rfl rfl rfl ⟨⟨⟨⟨⟨tt_,rfl⟩,(QdE he39 rfl)⟩,(QbZ (idxE he39).2)⟩,rfl⟩,(QpB _ _ _ hx40)⟩ rfl (by kernel_rfl) rfl rfl rfl ?_
        refine Qa hC [.n 3] rfl tt_ ?_
        obtain⟨x41,hv42,h⟩:=Qb h
        replace h:Qdx x25 m26 l27 budget4 x40 x41=some o:=h
        refine AK.meetX (fun σ=>σ=⟨[(2,.i .i64 without3),(4,.loc 4 0 0),(10,.i .i64 (min2 (max2 0 budget4) 4096)),(11,.map 23),(12,.own 29 l27.length),(13,.i .i64 at_13),(16,.sl 1 (x40.1.map Qh)),(41,.own 41 x23.length),(42,.i .i64 (x23.length:Int)),(43,.i .i64 x25),(68,.b x41)],[(4,.var (Qd n1)),(23,.map (mapV V.s V.b m26)),(29,.arr 1 (l27.map Qs)),(41,.arr 4 (x23.map Qj))]⟩) ?_ ?_
        ·replace h:=hv42
         unfold Qg2 at h
         refine Qa hC [.n 4] rfl tt_ ?_
         rcases bifE h with⟨hc43,h⟩|⟨hc43,h⟩
         ·refine Qa hC [.say 63 (.b true),.n 6,.keep [2,4,10,11,12,13,16,41,42,43,68] [4,23,29,41]] rfl ⟨tt_,(congrArg V.b hc43)⟩ ?_
          cases h
          exact AK.met rfl
         ·obtain⟨x44,hx44,h⟩:=Qb h
          refine Qa hC [.say 63 (.b false),.n 2,.o (.c false [.d] (.s x44)),.o (.any (.b ((mget m26 x44).getD false)) none),.n 2,.keep [2,4,10,11,12,13,16,41,42,43,68] [4,23,29,41]] rfl ⟨⟨⟨tt_,(congrArg V.b hc43)⟩,(QkQ _ hx44)⟩,(fun σ h1 h2 _=>Stp.lookup (e:=V.s) (f:=V.b) (l:=m26) (k:=x44) (z:=false) rfl rfl (bleN hC.n rfl) (h1 _ _ rfl) (h2 _ _ rfl) (h1 _ _ rfl) Qox ky_9 zi_4 rfl)⟩ ?_
          cases h
          exact AK.met rfl
        ·rintro σ rfl
         replace h:Qdx x25 m26 l27 budget4 x40 x41=some o:=h
         unfold Qdx at h
         refine Qa hC [.n 1] rfl tt_ ?_
         rcases bifE h with⟨hc45,h⟩|⟨hc45,h⟩
         ·refine Qa hC [.br true,.n 3,.keep [2,4,10,11,12,13,41,42,43] [4,23,29,41]] rfl ⟨tt_,hc45⟩ ?_
          exact AK.met (ex_ _ (ex_ _ (an_ rfl h)))
         ·refine Qa hC [.br false,.n 11] rfl ⟨tt_,hc45⟩ ?_
          rcases bifE h with⟨hc46,h⟩|⟨hc46,h⟩
          ·refine Qa hC [.br true,.n 11,.keep [8,9] [29]] rfl ⟨tt_,hc46⟩ ?_
           cases h
           exact rndR rfl (an_ rfl rfl)
          ·obtain⟨x47,hx47,h⟩:=Qb h
           obtain⟨_,hk48,h⟩:=Qb h
           replace hk48:=chkE hk48
           refine Qa hC [.br false,.n 6,.o (.c false [.d] (.s x47)),.x (fun σ=>σ.set 23 (.map (mapV V.s V.b (mset ltS m26 x47 true)))),.n 5,.v (.bd []) [] (.sl 1 (([x40.1]:List QMk).map Qs)),.app ((l27++([x40.1]:List QMk)).map Qs) (l27++([x40.1]:List QMk)).length,.n 3,.keep [2,4,10,11,12,13,41,42,43] [4,23,29,41]] rfl ⟨⟨⟨⟨⟨tt_,hc46⟩,(QkQ _ hx47)⟩,(Stp.mapUpdate (e:=V.s) (f:=V.b) (l:=m26) (k:=x47) (v:=true) ltS rfl rfl rfl rfl rfl rfl Qox ky_9 rfl)⟩,rfl⟩,⟨Qf,Qdf hk48 Qf,Qcc,QeV Qf⟩⟩ ?_
           exact AK.met (ex_ _ (ex_ _ (an_ rfl h)))
      ·rintro σ ⟨m35,l36,rfl,h⟩
       unfold Qcp at h
       refine Qa hC [.n 4,.keep [2,4,10,11,12,13,41,42,43] [4,23,29,41]] rfl tt_ ?_
       cases h
       exact rndN rfl rfl
     ·refine Qa hC [.br false,.n 2,.keep [2,4,10,11,12,13] [4,23,29]] rfl ⟨tt_,hc34⟩ ?_
      cases h
      exact rndX rfl (an_ rfl rfl)
    ·rcases o49 with(l31 | ⟨m32,l33⟩)
     ·replace h:QeK l31=some o:=h
      unfold QeK at h
      rintro e σ ⟨rfl,rfl⟩
      refine Qa hC [.n 3,.keep [8,9] [29]] rfl tt_ ?_
      cases h
      exact rndR rfl (an_ rfl rfl)
     ·replace h:QeL at_13 m32 l33=some o:=h
      unfold QeL at h
      rintro e σ ⟨rfl,rfl⟩
      refine Qa hC [.n 8,.keep [2,4,10,11,12,13] [4,23,29]] rfl tt_ ?_
      cases h
      exact rndN rfl rfl
   ·refine Qa hC [.br false,.n 2,.keep [12] [29]] rfl ⟨tt_,hc21⟩ ?_
    cases h
    exact rndX rfl (an_ rfl rfl)
  ·rcases o50 with(l19 | l20)
   ·replace h:Qjz l19=some r:=h
    unfold Qjz at h
    rintro e σ ⟨rfl,rfl⟩
    refine Qa hC [.n 2,.frz 29 (l19.map Qs) [8] [],.keep [8,9] []] rfl ⟨tt_,⟨tt_,(frzL Qf)⟩⟩ ?_
    cases h
    exact AK.done (ex_ [_,_] (an_ (an_ rfl (an_ rfl tt_)) (gives tt_)))
   ·replace h:QjA l20=some r:=h
    unfold QjA at h
    rintro e σ ⟨rfl,rfl⟩
    refine Qa hC [.n 10,.frz 29 (l20.map Qs) [8] [],.keep [8,9] []] rfl ⟨tt_,⟨tt_,(frzL Qf)⟩⟩ ?_
    cases h
    exact AK.done (ex_ [_,_] (an_ (an_ rfl (an_ rfl tt_)) (gives tt_)))
def QfE (l:List Int):Option (List Int):=(chk (decide (l.length<4611686018427387904))).bind fun _=>some (QhK l)
theorem QlT (l:List Int){r:List Int}(h:QfE l=some r):Qc Tryz.prog 39 [.own 200000 l.length] [(200000,.arr 1 (l.map Qe))] (Gives (.own 200000 r.length) [(200000,.arr 1 (r.map Qe))]):=by
 unfold QfE at h
 obtain⟨_,h1,h⟩:=Qb h
 cases h
 exact Qui QvR l (of_decide_eq_true (chkE h1))
def Qg3 (x11:Int)(l17:(List Int)):Option ((Int×(List Int))⊕(List Int)):=
 some (.inl ((w64 (x11+1)),l17))
def Qmh (e18:TArc)(m2:QMk):Option Bool:=
 bif (decide (0≤e18.Place))then
 bif (decide (e18.Place<(m2.length:Int)))then
 (idx m2 e18.Place).bind fun e23=>
 some ((e23.length:Int)==0)
 else
 some false
 else
 some false
def Qg4 (l12:(List Int))(e18:TArc)(x11:Int)(x19:Bool):Option ((Int×(List Int))⊕(List Int)):=
 bif x19 then
 (chk (decide (l12.length+([e18.Place]:List Int).length≤4294967296))).bind fun _=>
 Qg3 x11 (l12++([e18.Place]:List Int))
 else
 Qg3 x11 l12
def Qg5 (e9:Qr)(m2:QMk)(x11:Int)(l12:(List Int)):Option ((Int×(List Int))⊕(List Int)):=
 bif (decide (x11<(e9.Ins.length:Int)))then
 (idx e9.Ins x11).bind fun e18=>
 (Qmh e18 m2).bind (fun x19=>Qg4 l12 e18 x11 x19)
 else
 some (.inr l12)
def QjC (l15:(List Int)):Option (List Int):=
 (QaS l15).bind fun x27=>
 (chk (decide (x27.length=l15.length))).bind fun _=>
 (QfE x27).bind fun x29=>
 some x29
def Qjk (n1:TNet)(m2:QMk)(task3:Int):Option (List Int):=
 bif ((decide (task3<0))||(decide ((n1.Tasks.length:Int)≤task3)))then
 some ([]:List Int)
 else
 (idx n1.Tasks task3).bind fun e9=>
 (QA (fun st=>Qg5 e9 m2 st.1 st.2) (0,([]:List Int))).bind (fun q=>QjC q)
theorem Qmi (n1:TNet)(m2:QMk)(task3:Int){r:(List Int)}(h:Qjk n1 m2 task3=some r):Qc Tryz.prog 20 [.agg (Qd n1),.sl 1 (m2.map Qh),.i .i64 task3] [] (Gives (.own 30000 r.length) [(30000,.arr 1 (r.map Qe))]):=by
 refine Qc.walk 59 Tryz.func20 rfl Tryz.ntmps20 rfl fun C hC=>?_
 unfold Qjk at h
 refine Qa hC [.n 8] rfl tt_ ?_
 refine AK.meetX (fun σ=>σ=⟨[(1,.sl 1 (m2.map Qh)),(2,.i .i64 task3),(3,.loc 3 0 0),(18,.b ((decide (task3<0))||(decide ((n1.Tasks.length:Int)≤task3))))],[(3,.var (Qd n1))]⟩) ?_ ?_
 ·refine Qa hC [.n 4] rfl tt_ ?_
  rcases QN (decide (task3<0))with hc7 | hc7
  ·refine Qa hC [.say 12 (.b true),.n 7,.say 18 (.b ((decide (task3<0))||(decide ((n1.Tasks.length:Int)≤task3)))),.keep [1,2,3,18] [3]] rfl ⟨⟨tt_,(congrArg V.b hc7)⟩,(congrArg V.b (orT hc7 rfl))⟩ ?_
   exact AK.met rfl
  ·refine Qa hC [.say 12 (.b false),.n 3,.o (.ln n1.Tasks.length),.n 3,.say 18 (.b ((decide (task3<0))||(decide ((n1.Tasks.length:Int)≤task3)))),.keep [1,2,3,18] [3]] rfl ⟨⟨⟨tt_,(congrArg V.b hc7)⟩,Qf⟩,(congrArg V.b (orF hc7 rfl))⟩ ?_
   exact AK.met rfl
 ·rintro σ rfl
  refine Qa hC [.n 1] rfl tt_ ?_
  rcases bifE h with⟨hc8,h⟩|⟨hc8,h⟩
  ·refine Qa hC [.br true,.n 7,.adopt 6 30000 1,.sayO 30000 (.arr 1 (([]:List Int).map Qe)),.say 6 (.own 30000 ([]:List Int).length),.keep [6] [30000]] rfl ⟨⟨⟨tt_,hc8⟩,rfl⟩,rfl⟩ ?_
   cases h
   exact AK.done (ex_ [_] (an_ (an_ rfl tt_) (gives ⟨rfl,tt_⟩)))
  ·obtain⟨e9,he9,h⟩:=Qb h
   refine Qa hC [.br false,.n 13,.o (.row (Qi e9)),.n 2,.o (.ln e9.Ins.length),.n 4,.adopt 7 49 1,.sayO 49 (.arr 1 (([]:List Int).map Qe)),.say 7 (.own 49 ([]:List Int).length),.keep [1,7,24,25,26] [49]] rfl ⟨⟨⟨⟨⟨tt_,hc8⟩,(idxM he9)⟩,Qf⟩,rfl⟩,(congrArg (fun n=>V.own 49 n) (by simp))⟩ ?_
   obtain⟨l15,hl26,h⟩:=Qb h
   refine AK.loop (body:=(fun st=>Qg5 e9 m2 st.1 st.2)) (fun st σ=>σ=⟨[(1,.sl 1 (m2.map Qh)),(7,.own 49 st.2.length),(24,.sl 4 (e9.Ins.map QG)),(25,.i .i64 (e9.Ins.length:Int)),(26,.i .i64 st.1)],[(49,.arr 1 (st.2.map Qe))]⟩) (fun q e σ=>e=.exit 0∧σ=⟨[(7,.own 49 q.length)],[(49,.arr 1 (q.map Qe))]⟩) hl26 rfl ?_ ?_
   ·rintro ⟨x11,l12⟩ o σ rfl h
    replace h:Qg5 e9 m2 x11 l12=some o:=h
    unfold Qg5 at h
    refine Qa hC [.n 6] rfl tt_ ?_
    rcases bifE h with⟨hc16,h⟩|⟨hc16,h⟩
    ·refine Qa hC [.br true,.n 2] rfl ⟨tt_,hc16⟩ ?_
     refine AK.meet (fun σ=>∃l17:(List Int),σ=⟨[(1,.sl 1 (m2.map Qh)),(7,.own 49 l17.length),(24,.sl 4 (e9.Ins.map QG)),(25,.i .i64 (e9.Ins.length:Int)),(26,.i .i64 x11)],[(49,.arr 1 (l17.map Qe))]⟩∧Qg3 x11 l17=some o) ?_ ?_
     ·obtain⟨e18,he18,h⟩:=Qb h
      refine Qa hC [.n 3,.o (.row (QG e18)),.v .no [] (.agg (QG e18)),.n 2,.sayO 9 (.var (QG e18)),.n 3] rfl ⟨⟨⟨tt_,(idxM he18)⟩,rfl⟩,rfl⟩ ?_
      obtain⟨x19,hv20,h⟩:=Qb h
      replace h:Qg4 l12 e18 x11 x19=some o:=h
      refine AK.meetX (fun σ=>σ=⟨[(1,.sl 1 (m2.map Qh)),(7,.own 49 l12.length),(9,.loc 9 0 0),(24,.sl 4 (e9.Ins.map QG)),(25,.i .i64 (e9.Ins.length:Int)),(26,.i .i64 x11),(48,.b x19)],[(9,.var (QG e18)),(49,.arr 1 (l12.map Qe))]⟩) ?_ ?_
      ·replace h:=hv20
       unfold Qmh at h
       refine Qa hC [.n 5] rfl tt_ ?_
       rcases bifE h with⟨hc21,h⟩|⟨hc21,h⟩
       ·refine Qa hC [.say 33 (.b true),.n 3,.o (.ln m2.length),.n 3] rfl ⟨⟨tt_,(congrArg V.b hc21)⟩,Qf⟩ ?_
        rcases bifE h with⟨hc22,h⟩|⟨hc22,h⟩
        ·obtain⟨e23,he23,h⟩:=Qb h
         refine Qa hC [.say 40 (.b true),.n 3,.o (.row (Qh e23)),.n 1,.o (.ln e23.length),.n 3,.keep [1,7,9,24,25,26,48] [9,49]] rfl ⟨⟨⟨tt_,(congrArg V.b hc22)⟩,(idxM he23)⟩,Qf⟩ ?_
         cases h
         exact AK.met rfl
        ·refine Qa hC [.say 40 (.b false),.n 9,.keep [1,7,9,24,25,26,48] [9,49]] rfl ⟨tt_,(congrArg V.b hc22)⟩ ?_
         cases h
         exact AK.met rfl
       ·refine Qa hC [.say 33 (.b false),.n 16,.keep [1,7,9,24,25,26,48] [9,49]] rfl ⟨tt_,(congrArg V.b hc21)⟩ ?_
        cases h
        exact AK.met rfl
      ·rintro σ rfl
       replace h:Qg4 l12 e18 x11 x19=some o:=h
       unfold Qg4 at h
       refine Qa hC [.n 1] rfl tt_ ?_
       rcases bifE h with⟨hc24,h⟩|⟨hc24,h⟩
       ·obtain⟨_,hk25,h⟩:=Qb h
        replace hk25:=chkE hk25
        refine Qa hC [.br true,.n 4,.v (.bd []) [] (.sl 1 (([e18.Place]:List Int).map Qe)),.app ((l12++([e18.Place]:List Int)).map Qe) (l12++([e18.Place]:List Int)).length,.n 3,.keep [1,7,24,25,26] [49]] rfl ⟨⟨⟨tt_,hc24⟩,rfl⟩,⟨Qf,Qdf hk25 Qf,Qcc,QeV Qf⟩⟩ ?_
        exact AK.met (ex_ _ (an_ rfl h))
       ·refine Qa hC [.br false,.n 2,.keep [1,7,24,25,26] [49]] rfl ⟨tt_,hc24⟩ ?_
        exact AK.met (ex_ _ (an_ rfl h))
     ·rintro σ ⟨l17,rfl,h⟩
      unfold Qg3 at h
      refine Qa hC [.n 4,.keep [1,7,24,25,26] [49]] rfl tt_ ?_
      cases h
      exact rndN rfl rfl
    ·refine Qa hC [.br false,.n 2,.keep [7] [49]] rfl ⟨tt_,hc16⟩ ?_
     cases h
     exact rndX rfl (an_ rfl rfl)
   ·replace h:QjC l15=some r:=h
    unfold QjC at h
    rintro e σ ⟨rfl,rfl⟩
    obtain⟨x27,hx27,h⟩:=Qb h
    obtain⟨_,hk28,h⟩:=Qb h
    replace hk28:=chkE hk28
    obtain⟨x29,hx29,h⟩:=Qb h
    refine Qa hC [.n 5,.cm (.fn) [(200000,49)] [(49,200000)] [] [.d] [(200000,.arr 1 (x27.map Qe))] (.tup []),.say 7 (.own 49 x27.length),.say 55 (.own 49 x27.length),.n 5,.cm (.fn) [(200000,49)] [(49,200000)] [] [.d] [(200000,.arr 1 (x29.map Qe))] (.own 200000 x29.length),.n 4,.keep [6] [49],.ren 49 30000,.keep [6] [30000]] rfl ⟨⟨⟨⟨tt_,(Qfv _ hx27)⟩,(by simp [of_decide_eq_true hk28])⟩,(by simp [of_decide_eq_true hk28])⟩,(QlT _ hx29)⟩ ?_
    cases h
    exact AK.done (ex_ [_] (an_ (an_ rfl tt_) (gives ⟨rfl,tt_⟩)))
def Qkw (k1:Int)(v2:QMk):Option Bool:=
 (idx v2 k1).bind fun e4=>
 some (decide (0<(e4.length:Int)))
theorem QoU (k1:Int)(v2:QMk){r:Bool}(h:Qkw k1 v2=some r):Qc Tryz.prog 64 [.i .i64 k1,.loc 200000 0 0] [(200000,.var (Qs v2))] (Gives (.b r) [(200000,.var (Qs v2))]):=by
 refine Qc.walk 10 Tryz.func64 rfl Tryz.ntmps64 rfl fun C hC=>?_
 unfold Qkw at h
 obtain⟨e4,he4,h⟩:=Qb h
 refine Qa hC [.n 9,.o (.row (Qh e4)),.n 1,.o (.ln e4.length),.n 5,.keep [3] [200000]] rfl ⟨⟨tt_,(idxM he4)⟩,Qf⟩ ?_
 cases h
 exact AK.done (ex_ [_] (an_ (an_ rfl tt_) (gives ⟨rfl,tt_⟩)))
def QbA (s1:(List Int))(v2:QMk)(x5:Int):Option (Int⊕(Int⊕Unit)):=
 bif (decide (x5<(s1.length:Int)))then
 (idx s1 x5).bind fun e9=>
 (Qkw e9 v2).bind fun x10=>
 bif x10 then
 some (.inr (.inl x5))
 else
 some (.inl (w64 (x5+1)))
 else
 some (.inr (.inr ()))
def QcQ (x7:Int):Option Int:=
 some x7
def QcR : Option Int:=
 some (-1)
def QdD (s1:(List Int))(v2:QMk):Option Int:=
 (QA (fun st=>QbA s1 v2 st) 0).bind (Sum.elim (fun q=>QcQ q) (fun q=>QcR))
theorem Qkx (s1:(List Int))(v2:QMk){r:Int}(h:QdD s1 v2=some r):Qc Tryz.prog 118 [.sl 1 (s1.map Qe),.clo (.func 64) [] [.loc 200000 0 0]] [(200000,.var (Qs v2))] (Gives (.i .i64 r) [(200000,.var (Qs v2))]):=by
 refine Qc.walk 19 Tryz.func118 rfl Tryz.ntmps118 rfl fun C hC=>?_
 unfold QdD at h
 refine Qa hC [.n 9,.o (.ln s1.length),.n 4,.keep [0,1,7,8] [200000]] rfl ⟨tt_,Qf⟩ ?_
 obtain⟨o12,hl12,h⟩:=Qb h
 refine AK.loop (body:=(fun st=>QbA s1 v2 st)) (fun st σ=>σ=⟨[(0,.sl 1 (s1.map Qe)),(1,.clo (.func 64) [] [.loc 200000 0 0]),(7,.i .i64 (s1.length:Int)),(8,.i .i64 st)],[(200000,.var (Qs v2))]⟩) (Sum.elim (fun q e σ=>e=.ret∧σ=⟨[(4,.i .i64 q)],[(200000,.var (Qs v2))]⟩) (fun q e σ=>e=.exit 0∧σ=⟨[],[(200000,.var (Qs v2))]⟩)) hl12 rfl ?_ ?_
 ·rintro x5 o σ rfl h
  replace h:QbA s1 v2 x5=some o:=h
  unfold QbA at h
  refine Qa hC [.n 6] rfl tt_ ?_
  rcases bifE h with⟨hc8,h⟩|⟨hc8,h⟩
  ·obtain⟨e9,he9,h⟩:=Qb h
   obtain⟨x10,hx10,h⟩:=Qb h
   refine Qa hC [.br true,.n 15,.o (.row (Qe e9)),.n 1,.cm (.clo) [(200000,200000)] [(200000,200000)] [] [.d,.d] [(200000,.var (Qs v2))] (.b x10),.n 2] rfl ⟨⟨⟨tt_,hc8⟩,(idxM he9)⟩,(QoU _ _ hx10)⟩ ?_
   rcases bifE h with⟨hc11,h⟩|⟨hc11,h⟩
   ·refine Qa hC [.br true,.n 9,.keep [4] [200000]] rfl ⟨tt_,hc11⟩ ?_
    cases h
    exact rndR rfl (an_ rfl rfl)
   ·refine Qa hC [.br false,.n 7,.keep [0,1,7,8] [200000]] rfl ⟨tt_,hc11⟩ ?_
    cases h
    exact rndN rfl rfl
  ·refine Qa hC [.br false,.n 2,.keep [] [200000]] rfl ⟨tt_,hc8⟩ ?_
   cases h
   exact rndX rfl (an_ rfl rfl)
 ·rcases o12 with(x7 | _)
  ·replace h:QcQ x7=some r:=h
   unfold QcQ at h
   rintro e σ ⟨rfl,rfl⟩
   refine Qa hC [.n 2,.keep [4] [200000]] rfl tt_ ?_
   cases h
   exact AK.done (ex_ [_] (an_ (an_ rfl tt_) (gives ⟨rfl,tt_⟩)))
  ·replace h:QcR=some r:=h
   unfold QcR at h
   rintro e σ ⟨rfl,rfl⟩
   refine Qa hC [.n 8,.keep [4] [200000]] rfl tt_ ?_
   cases h
   exact AK.done (ex_ [_] (an_ (an_ rfl tt_) (gives ⟨rfl,tt_⟩)))
def QcS (s1:(List Int))(v2:QMk):Option Bool:=
 (QdD s1 v2).bind fun x4=>
 some (decide (0≤x4))
theorem Qjl (s1:(List Int))(v2:QMk){r:Bool}(h:QcS s1 v2=some r):Qc Tryz.prog 63 [.sl 1 (s1.map Qe),.clo (.func 64) [] [.loc 200000 0 0]] [(200000,.var (Qs v2))] (Gives (.b r) [(200000,.var (Qs v2))]):=by
 refine Qc.walk 9 Tryz.func63 rfl Tryz.ntmps63 rfl fun C hC=>?_
 unfold QcS at h
 obtain⟨x4,hx4,h⟩:=Qb h
 refine Qa hC [.n 9,.cm (.fn) [(200000,200000)] [(200000,200000)] [] [.d,.d] [(200000,.var (Qs v2))] (.i .i64 x4),.n 5,.keep [4] [200000]] rfl ⟨tt_,(Qkx _ _ hx4)⟩ ?_
 cases h
 exact AK.done (ex_ [_] (an_ (an_ rfl tt_) (gives ⟨rfl,tt_⟩)))
def Qg6 (x8:((List QMk)×Bool))(empty10:(List Int))(x11:Int):Option (((List Int)×Int)⊕(Unit⊕Unit)):=
 bif (decide (x11<(x8.1.length:Int)))then
 (idx x8.1 x11).bind fun e15=>
 (QcS empty10 e15).bind fun x16=>
 bif x16 then
 some (.inr (.inl ()))
 else
 some (.inl (empty10,(w64 (x11+1))))
 else
 some (.inr (.inr ()))
def QjD : Option Int:=
 some 0
def QjE (x8:((List QMk)×Bool)):Option Int:=
 bif (!x8.2)then
 some 2
 else
 some 1
def Qlu (n1:TNet)(m2:QMk)(task3:Int)(budget4:Int):Option Int:=
 (Qjk n1 m2 task3).bind fun x7=>
 (QdY n1 m2 task3 budget4).bind fun x8=>
 (QA (fun st=>Qg6 x8 st.1 st.2) (x7,0)).bind (Sum.elim (fun q=>QjD) (fun q=>QjE x8))
theorem Qqj (n1:TNet)(m2:QMk)(task3:Int)(budget4:Int){r:Int}(h:Qlu n1 m2 task3 budget4=some r):Qc Tryz.prog 36 [.agg (Qd n1),.sl 1 (m2.map Qh),.i .i64 task3,.i .i64 budget4] [] (Gives (.i .i64 r) []):=by
 refine Qc.walk 38 Tryz.func36 rfl Tryz.ntmps36 rfl fun C hC=>?_
 unfold Qlu at h
 obtain⟨x7,hx7,h⟩:=Qb h
 obtain⟨x8,hx8,h⟩:=Qb h
 refine Qa hC [.n 8,.v .no [] (.agg (Qd n1)),.n 2,.o (.co false [.d,.d,.d] 1 (x7.map Qe) x7.length),.n 5,.v .no [] (.agg (Qd n1)),.n 3,.o (.c false [.d,.d,.d,.d] (.tup [.sl 1 (x8.1.map Qs),.b x8.2])),.n 11,.o (.ln x8.1.length),.n 4,.frz 17 (x7.map Qe) [9] [],.keep [9,11,26,27,28] []] rfl ⟨⟨⟨⟨⟨⟨tt_,rfl⟩,⟨(Qmi _ _ _ hx7),Qf,.inl rfl⟩⟩,rfl⟩,(QjB _ _ _ _ hx8)⟩,Qf⟩,⟨tt_,(frzL Qf)⟩⟩ ?_
 obtain⟨o18,hl18,h⟩:=Qb h
 refine AK.loop (body:=(fun st=>Qg6 x8 st.1 st.2)) (fun st σ=>σ=⟨[(9,.sl 1 (st.1.map Qe)),(11,.b x8.2),(26,.sl 1 (x8.1.map Qs)),(27,.i .i64 (x8.1.length:Int)),(28,.i .i64 st.2)],[]⟩) (Sum.elim (fun q e σ=>e=.ret∧σ=⟨[(8,.i .i64 0)],[]⟩) (fun q e σ=>e=.exit 0∧σ=⟨[(11,.b x8.2)],[]⟩)) hl18 rfl ?_ ?_
 ·rintro ⟨empty10,x11⟩ o σ rfl h
  replace h:Qg6 x8 empty10 x11=some o:=h
  unfold Qg6 at h
  refine Qa hC [.n 6] rfl tt_ ?_
  rcases bifE h with⟨hc14,h⟩|⟨hc14,h⟩
  ·obtain⟨e15,he15,h⟩:=Qb h
   obtain⟨x16,hx16,h⟩:=Qb h
   refine Qa hC [.br true,.n 6,.o (.row (Qs e15)),.n 3,.sayO 13 (.var (Qs e15)),.n 6,.cm (.fn) [(200000,13)] [(13,200000)] [] [.d,.d] [(200000,.var (Qs e15))] (.b x16),.n 2] rfl ⟨⟨⟨⟨tt_,hc14⟩,(idxM he15)⟩,rfl⟩,(Qjl _ _ hx16)⟩ ?_
   rcases bifE h with⟨hc17,h⟩|⟨hc17,h⟩
   ·refine Qa hC [.br true,.n 8,.keep [8] []] rfl ⟨tt_,hc17⟩ ?_
    cases h
    exact rndR rfl (an_ rfl rfl)
   ·refine Qa hC [.br false,.n 7,.keep [9,11,26,27,28] []] rfl ⟨tt_,hc17⟩ ?_
    cases h
    exact rndN rfl rfl
  ·refine Qa hC [.br false,.n 2,.keep [11] []] rfl ⟨tt_,hc14⟩ ?_
   cases h
   exact rndX rfl (an_ rfl rfl)
 ·rcases o18 with(_ | _)
  ·replace h:QjD=some r:=h
   unfold QjD at h
   rintro e σ ⟨rfl,rfl⟩
   refine Qa hC [.n 2,.keep [8] []] rfl tt_ ?_
   cases h
   exact AK.done (ex_ [_] (an_ (an_ rfl tt_) (gives tt_)))
  ·replace h:QjE x8=some r:=h
   unfold QjE at h
   rintro e σ ⟨rfl,rfl⟩
   refine Qa hC [.n 9] rfl tt_ ?_
   rcases bifE h with⟨hc19,h⟩|⟨hc19,h⟩
   ·refine Qa hC [.br true,.n 7,.keep [8] []] rfl ⟨tt_,hc19⟩ ?_
    cases h
    exact AK.done (ex_ [_] (an_ (an_ rfl tt_) (gives tt_)))
   ·refine Qa hC [.br false,.n 8,.keep [8] []] rfl ⟨tt_,hc19⟩ ?_
    cases h
    exact AK.done (ex_ [_] (an_ (an_ rfl tt_) (gives tt_)))
def Qfc (n1:TNet)(m2:QMk)(o3:Qk)(budget4:Int):Option Int:=
 (QfD n1 m2 o3).bind fun x7=>
 bif (x7 != 0)then
 some 0
 else
 (idx n1.Tasks o3.Task).bind fun e9=>
 bif (e9.Join != 3)then
 some 1
 else
 (Qlu n1 m2 o3.Task budget4).bind fun x11=>
 some x11
theorem Qg7 (n1:TNet)(m2:QMk)(o3:Qk)(budget4:Int){r:Int}(h:Qfc n1 m2 o3 budget4=some r):Qc Tryz.prog 17 [.agg (Qd n1),.sl 1 (m2.map Qh),.agg (Qj o3),.i .i64 budget4] [] (Gives (.i .i64 r) []):=by
 refine Qc.walk 30 Tryz.func17 rfl Tryz.ntmps17 rfl fun C hC=>?_
 unfold Qfc at h
 obtain⟨x7,hx7,h⟩:=Qb h
 refine Qa hC [.n 11,.v .no [] (.agg (Qd n1)),.n 1,.v .no [] (.agg (Qj o3)),.o (.c false [.d,.d,.d] (.i .i64 x7)),.n 4] rfl ⟨⟨⟨tt_,rfl⟩,rfl⟩,(Qnw _ _ _ hx7)⟩ ?_
 rcases bifE h with⟨hc8,h⟩|⟨hc8,h⟩
 ·refine Qa hC [.br true,.n 8,.keep [8] []] rfl ⟨tt_,hc8⟩ ?_
  cases h
  exact AK.done (ex_ [_] (an_ (an_ rfl tt_) (gives tt_)))
 ·obtain⟨e9,he9,h⟩:=Qb h
  refine Qa hC [.br false,.n 6,.o (.row (Qi e9)),.n 6] rfl ⟨⟨tt_,hc8⟩,(idxM he9)⟩ ?_
  rcases bifE h with⟨hc10,h⟩|⟨hc10,h⟩
  ·refine Qa hC [.br true,.n 8,.keep [8] []] rfl ⟨tt_,hc10⟩ ?_
   cases h
   exact AK.done (ex_ [_] (an_ (an_ rfl tt_) (gives tt_)))
  ·obtain⟨x11,hx11,h⟩:=Qb h
   refine Qa hC [.br false,.n 5,.v .no [] (.agg (Qd n1)),.n 4,.o (.c false [.d,.d,.d,.d] (.i .i64 x11)),.n 4,.keep [8] []] rfl ⟨⟨⟨tt_,hc10⟩,rfl⟩,(Qqj _ _ _ _ hx11)⟩ ?_
   cases h
   exact AK.done (ex_ [_] (an_ (an_ rfl tt_) (gives tt_)))
def QfF (x11:Int)(known21:Bool)(l22:(List Qk))(m23:QBg):Option ((Bool×Int×(List Qk)×QBg)⊕(Bool×(List Qk))):=
 some (.inl (known21,(w64 (x11+1)),l22,m23))
def QhW (e24:Qk)(l12:(List Qk))(x11:Int)(known10:Bool)(m25:QBg):Option ((Bool×Int×(List Qk)×QBg)⊕(Bool×(List Qk))):=
 bif (((mget m25 e24.Task).getD 0)==1)then
 (chk (decide (l12.length+([e24]:List Qk).length≤4294967296))).bind fun _=>
 QfF x11 known10 (l12++([e24]:List Qk)) m25
 else
 bif (((mget m25 e24.Task).getD 0)==2)then
 QfF x11 false l12 m25
 else
 QfF x11 known10 l12 m25
def QhX (x7:(List Qk))(n1:TNet)(m2:QMk)(budget3:Int)(known10:Bool)(x11:Int)(l12:(List Qk))(m13:QBg):Option ((Bool×Int×(List Qk)×QBg)⊕(Bool×(List Qk))):=
 bif (decide (x11<(x7.length:Int)))then
 (idx x7 x11).bind fun e24=>
 bif (!(mget m13 e24.Task).isSome)then
 (Qfc n1 m2 e24 budget3).bind fun x30=>
 QhW e24 l12 x11 known10 (mset ltI m13 e24.Task x30)
 else
 QhW e24 l12 x11 known10 m13
 else
 some (.inr (known10,l12))
def Qky (known18:Bool)(l19:(List Qk)):Option ((List Qk)×Bool):=
 some (l19,known18)
def Qma (n1:TNet)(m2:QMk)(budget3:Int)(most4:Int):Option ((List Qk)×Bool):=
 (QeX n1 m2 most4).bind fun x7=>
 (QA (fun st=>QhX x7 n1 m2 budget3 st.1 st.2.1 st.2.2.1 st.2.2.2) (true,0,([]:List Qk),([]:QBg))).bind (fun q=>Qky q.1 q.2)
theorem QqX (n1:TNet)(m2:QMk)(budget3:Int)(most4:Int){r:((List Qk)×Bool)}(h:Qma n1 m2 budget3 most4=some r):Qc Tryz.prog 14 [.agg (Qd n1),.sl 1 (m2.map Qh),.i .i64 budget3,.i .i64 most4] [] (Gives (.tup [.sl 4 (r.1.map Qj),.b r.2]) []):=by
 refine Qc.walk 59 Tryz.func14 rfl Tryz.ntmps14 rfl fun C hC=>?_
 unfold Qma at h
 obtain⟨x7,hx7,h⟩:=Qb h
 refine Qa hC [.n 20,.sayO 17 (.map (mapV (V.i .i64) (V.i .i64) ([]:QBg))),.n 6,.v .no [] (.agg (Qd n1)),.n 2,.o (.co false [.d,.d,.d] 4 (x7.map Qj) x7.length),.n 5,.adopt 10 50 4,.sayO 50 (.arr 4 (([]:List Qk).map Qj)),.say 10 (.own 50 ([]:List Qk).length),.keep [1,2,4,10,11,12,21,22,23] [4,17,21,50]] rfl ⟨⟨⟨⟨⟨tt_,rfl⟩,rfl⟩,⟨(Qj6 _ _ _ hx7),Qf,.inl rfl⟩⟩,rfl⟩,(congrArg (fun n=>V.own 50 n) (by simp))⟩ ?_
 obtain⟨o31,hl31,h⟩:=Qb h
 refine AK.loop (body:=(fun st=>QhX x7 n1 m2 budget3 st.1 st.2.1 st.2.2.1 st.2.2.2)) (fun st σ=>σ=⟨[(1,.sl 1 (m2.map Qh)),(2,.i .i64 budget3),(4,.loc 4 0 0),(10,.own 50 st.2.2.1.length),(11,.b st.1),(12,.map 17),(21,.own 21 x7.length),(22,.i .i64 (x7.length:Int)),(23,.i .i64 st.2.1)],[(4,.var (Qd n1)),(17,.map (mapV (V.i .i64) (V.i .i64) st.2.2.2)),(21,.arr 4 (x7.map Qj)),(50,.arr 4 (st.2.2.1.map Qj))]⟩) (fun q e σ=>e=.exit 0∧σ=⟨[(10,.own 50 q.2.length),(11,.b q.1)],[(50,.arr 4 (q.2.map Qj))]⟩) hl31 rfl ?_ ?_
 ·rintro ⟨known10,x11,l12,m13⟩ o σ rfl h
  replace h:QhX x7 n1 m2 budget3 known10 x11 l12 m13=some o:=h
  unfold QhX at h
  refine Qa hC [.n 6] rfl tt_ ?_
  rcases bifE h with⟨hc20,h⟩|⟨hc20,h⟩
  ·refine Qa hC [.br true,.n 2] rfl ⟨tt_,hc20⟩ ?_
   refine AK.meet (fun σ=>∃known21:Bool,∃l22:(List Qk),∃m23:QBg,σ=⟨[(1,.sl 1 (m2.map Qh)),(2,.i .i64 budget3),(4,.loc 4 0 0),(10,.own 50 l22.length),(11,.b known21),(12,.map 17),(21,.own 21 x7.length),(22,.i .i64 (x7.length:Int)),(23,.i .i64 x11)],[(4,.var (Qd n1)),(17,.map (mapV (V.i .i64) (V.i .i64) m23)),(21,.arr 4 (x7.map Qj)),(50,.arr 4 (l22.map Qj))]⟩∧QfF x11 known21 l22 m23=some o) ?_ ?_
   ·obtain⟨e24,he24,h⟩:=Qb h
    refine Qa hC [.n 4,.v (.row (Qj e24)) [] (.agg (Qj e24)),.n 2,.sayO 14 (.var (Qj e24)),.n 2] rfl ⟨⟨⟨⟨tt_,(QdE he24 rfl)⟩,(QbZ (idxE he24).2)⟩,rfl⟩,rfl⟩ ?_
    refine AK.meet (fun σ=>∃m25:QBg,σ=⟨[(1,.sl 1 (m2.map Qh)),(2,.i .i64 budget3),(4,.loc 4 0 0),(10,.own 50 l12.length),(11,.b known10),(12,.map 17),(14,.loc 14 0 0),(21,.own 21 x7.length),(22,.i .i64 (x7.length:Int)),(23,.i .i64 x11)],[(4,.var (Qd n1)),(14,.var (Qj e24)),(17,.map (mapV (V.i .i64) (V.i .i64) m25)),(21,.arr 4 (x7.map Qj)),(50,.arr 4 (l12.map Qj))]⟩∧QhW e24 l12 x11 known10 m25=some o) ?_ ?_
    ·refine Qa hC [.n 5,.o (.any (.tup [.i .i64 ((mget m13 e24.Task).getD 0),.b (mget m13 e24.Task).isSome]) none),.n 13] rfl ⟨tt_,(fun σ h1 h2 _=>Stp.lookupOk (e:=(V.i .i64)) (f:=(V.i .i64)) (l:=m13) (k:=e24.Task) (z:=0) rfl rfl (bleN hC.n rfl) (h1 _ _ rfl) (h2 _ _ rfl) (h1 _ _ rfl) Qva ky_3 zi_3 rfl rfl)⟩ ?_
     rcases bifE h with⟨hc29,h⟩|⟨hc29,h⟩
     ·obtain⟨x30,hx30,h⟩:=Qb h
      refine Qa hC [.br true,.keep [1,2,4,10,11,12,14,21,22,23] [4,14,17,21,50]] rfl ⟨tt_,hc29⟩ ?_
      refine AK.draw2 Qo hC mixed [.a .no none false,.a .no none false,.a .no none false,.a .no (some ([],.agg (Qd n1))) false,.a .no none false,.a .no (some ([],.agg (Qj e24))) false,.a .no none false,.a (.c false [.d,.d,.d,.d] (.i .i64 x30)) none false,.m (.any ⟨[],[(17,.map (mapV (V.i .i64) (V.i .i64) (mset ltI m13 e24.Task x30)))],none⟩)] [] [] [1,2,4,10,11,12,14,21,22,23] [4,14,17,21,50] rfl rfl rfl ⟨⟨⟨⟨tt_,rfl⟩,rfl⟩,(Qg7 _ _ _ _ hx30)⟩,(fun σ h1 h2=>Stp.mapUpdate (e:=(V.i .i64)) (f:=(V.i .i64)) (l:=m13) (k:=e24.Task) (v:=x30) ltI rfl rfl (h1 _ _ rfl) (h2 _ _ rfl) (h1 _ _ rfl) (h1 _ _ rfl) Qva ky_3 rfl)⟩ rfl (by kernel_rfl) rfl rfl rfl ?_
      refine Qa hC [.keep [1,2,4,10,11,12,14,21,22,23] [4,14,17,21,50]] rfl tt_ ?_
      exact AK.met (ex_ _ (an_ rfl h))
     ·refine Qa hC [.br false,.n 1,.keep [1,2,4,10,11,12,14,21,22,23] [4,14,17,21,50]] rfl ⟨tt_,hc29⟩ ?_
      exact AK.met (ex_ _ (an_ rfl h))
    ·rintro σ ⟨m25,rfl,h⟩
     unfold QhW at h
     refine Qa hC [.n 5,.o (.any (.i .i64 ((mget m25 e24.Task).getD 0)) none),.n 9] rfl ⟨tt_,(fun σ h1 h2 _=>Stp.lookup (e:=(V.i .i64)) (f:=(V.i .i64)) (l:=m25) (k:=e24.Task) (z:=0) rfl rfl (bleN hC.n rfl) (h1 _ _ rfl) (h2 _ _ rfl) (h1 _ _ rfl) Qva ky_3 zi_3 rfl)⟩ ?_
     rcases bifE h with⟨hc26,h⟩|⟨hc26,h⟩
     ·obtain⟨_,hk27,h⟩:=Qb h
      replace hk27:=chkE hk27
      refine Qa hC [.br true,.n 2,.v .no [] (.agg (Qj e24)),.v (.bd []) [] (.sl 4 (([e24]:List Qk).map Qj)),.app ((l12++([e24]:List Qk)).map Qj) (l12++([e24]:List Qk)).length,.n 4,.keep [1,2,4,10,11,12,21,22,23] [4,17,21,50]] rfl ⟨⟨⟨⟨tt_,hc26⟩,rfl⟩,rfl⟩,⟨Qf,Qdf hk27 Qf,Qcc,QeV Qf⟩⟩ ?_
      exact AK.met (ex_ _ (ex_ _ (ex_ _ (an_ rfl h))))
     ·refine Qa hC [.br false,.n 6] rfl ⟨tt_,hc26⟩ ?_
      rcases bifE h with⟨hc28,h⟩|⟨hc28,h⟩
      ·refine Qa hC [.br true,.n 5,.keep [1,2,4,10,11,12,21,22,23] [4,17,21,50]] rfl ⟨tt_,hc28⟩ ?_
       exact AK.met (ex_ _ (ex_ _ (ex_ _ (an_ rfl h))))
      ·refine Qa hC [.br false,.n 3,.keep [1,2,4,10,11,12,21,22,23] [4,17,21,50]] rfl ⟨tt_,hc28⟩ ?_
       exact AK.met (ex_ _ (ex_ _ (ex_ _ (an_ rfl h))))
   ·rintro σ ⟨known21,l22,m23,rfl,h⟩
    unfold QfF at h
    refine Qa hC [.n 4,.keep [1,2,4,10,11,12,21,22,23] [4,17,21,50]] rfl tt_ ?_
    cases h
    exact rndN rfl rfl
  ·refine Qa hC [.br false,.n 2,.keep [10,11] [50]] rfl ⟨tt_,hc20⟩ ?_
   cases h
   exact rndX rfl (an_ rfl rfl)
 ·obtain⟨known18,l19⟩:=o31
  replace h:Qky known18 l19=some r:=h
  unfold Qky at h
  rintro e σ ⟨rfl,rfl⟩
  refine Qa hC [.n 11,.frz 50 (l19.map Qj) [8] [],.keep [8,9] []] rfl ⟨tt_,⟨tt_,(frzL Qf)⟩⟩ ?_
  cases h
  exact AK.done (ex_ [_,_] (an_ (an_ rfl (an_ rfl tt_)) (gives tt_)))
def QiF (a1:(List Int))(b2:(List Int))(i6:Int):Option (Int⊕(Unit⊕Unit)):=
 bif (decide (i6<(a1.length:Int)))then
 (idx a1 i6).bind fun e9=>
 (idx b2 i6).bind fun e10=>
 bif (e9 != e10)then
 some (.inr (.inl ()))
 else
 some (.inl (w64 (i6+1)))
 else
 some (.inr (.inr ()))
def Qk9 : Option Bool:=
 some false
def Qla : Option Bool:=
 some true
def QmV (a1:(List Int))(b2:(List Int)):Option Bool:=
 bif ((a1.length:Int) != (b2.length:Int))then
 some false
 else
 (QA (fun st=>QiF a1 b2 st) 0).bind (Sum.elim (fun q=>Qk9) (fun q=>Qla))
theorem QrP (a1:(List Int))(b2:(List Int)){r:Bool}(h:QmV a1 b2=some r):Qc Tryz.prog 19 [.sl 1 (a1.map Qe),.sl 1 (b2.map Qe)] [] (Gives (.b r) []):=by
 refine Qc.walk 26 Tryz.func19 rfl Tryz.ntmps19 rfl fun C hC=>?_
 unfold QmV at h
 refine Qa hC [.n 9,.o (.ln a1.length),.n 1,.o (.ln b2.length),.n 3] rfl ⟨⟨tt_,Qf⟩,Qf⟩ ?_
 rcases bifE h with⟨hc5,h⟩|⟨hc5,h⟩
 ·refine Qa hC [.br true,.n 7,.keep [4] []] rfl ⟨tt_,hc5⟩ ?_
  cases h
  exact AK.done (ex_ [_] (an_ (an_ rfl tt_) (gives tt_)))
 ·refine Qa hC [.br false,.n 9,.keep [0,1,5] []] rfl ⟨tt_,hc5⟩ ?_
  obtain⟨o12,hl12,h⟩:=Qb h
  refine AK.loop (body:=(fun st=>QiF a1 b2 st)) (fun st σ=>σ=⟨[(0,.sl 1 (a1.map Qe)),(1,.sl 1 (b2.map Qe)),(5,.i .i64 st)],[]⟩) (Sum.elim (fun q e σ=>e=.ret∧σ=⟨[(4,.b false)],[]⟩) (fun q e σ=>e=.exit 0∧σ=⟨[],[]⟩)) hl12 rfl ?_ ?_
  ·rintro i6 o σ rfl h
   replace h:QiF a1 b2 i6=some o:=h
   unfold QiF at h
   refine Qa hC [.n 5,.o (.ln a1.length),.n 3] rfl ⟨tt_,Qf⟩ ?_
   rcases bifE h with⟨hc8,h⟩|⟨hc8,h⟩
   ·obtain⟨e9,he9,h⟩:=Qb h
    obtain⟨e10,he10,h⟩:=Qb h
    refine Qa hC [.br true,.n 5,.keep [0,1,5] []] rfl ⟨tt_,hc8⟩ ?_
    refine AK.draw2 Qo hC mixed [.a .no none false,.a .no none false,.a (.row (Qe e9)) none false,.a .no none false,.a .no none false,.a .no none false,.a (.row (Qe e10)) none false,.a .no none false,.a .no none false] [] [] [0,1,5,25] [] rfl rfl rfl ⟨⟨tt_,(idxM he9)⟩,(idxM he10)⟩ rfl (by kernel_rfl) rfl rfl rfl ?_
    refine Qa hC [.n 1] rfl tt_ ?_
    rcases bifE h with⟨hc11,h⟩|⟨hc11,h⟩
    ·refine Qa hC [.br true,.n 8,.keep [4] []] rfl ⟨tt_,hc11⟩ ?_
     cases h
     exact rndR rfl (an_ rfl rfl)
    ·refine Qa hC [.br false,.n 8,.keep [0,1,5] []] rfl ⟨tt_,hc11⟩ ?_
     cases h
     exact rndN rfl rfl
   ·refine Qa hC [.br false,.n 2,.keep [] []] rfl ⟨tt_,hc8⟩ ?_
    cases h
    exact rndX rfl (an_ rfl rfl)
  ·rcases o12 with(_ | _)
   ·replace h:Qk9=some r:=h
    unfold Qk9 at h
    rintro e σ ⟨rfl,rfl⟩
    refine Qa hC [.n 2,.keep [4] []] rfl tt_ ?_
    cases h
    exact AK.done (ex_ [_] (an_ (an_ rfl tt_) (gives tt_)))
   ·replace h:Qla=some r:=h
    unfold Qla at h
    rintro e σ ⟨rfl,rfl⟩
    refine Qa hC [.n 8,.keep [4] []] rfl tt_ ?_
    cases h
    exact AK.done (ex_ [_] (an_ (an_ rfl tt_) (gives tt_)))
def QmW (x2:TNet)(x3:((List QMk)×Bool))(x4:((List Qk)×Bool)):Option Bool:=
 (Qfc x2 ([([(0,1)]:List (Int×Int)),([]:QBg),([(0,1)]:List (Int×Int)),([]:QBg)]:List QBg) (Qk.mk 1 ([]:(List Int)) ([0]:List Int) ([0]:List Int)) 10).bind fun x7=>
 bif (x7==0)then
 (Qfc x2 ([([(0,1)]:List (Int×Int)),([]:QBg),([]:QBg),([]:QBg)]:List QBg) (Qk.mk 1 ([]:(List Int)) ([0]:List Int) ([0]:List Int)) 10).bind fun x9=>
 bif (x9==1)then
 (Qfc x2 ([([(0,1)]:List (Int×Int)),([]:QBg),([(0,1)]:List (Int×Int)),([]:QBg)]:List QBg) (Qk.mk 1 ([]:(List Int)) ([0]:List Int) ([0]:List Int)) 1).bind fun x11=>
 bif (x11==2)then
 bif ((x3.1.length:Int)==2)then
 bif x3.2 then
 bif ((x4.1.length:Int)==1)then
 bif x4.2 then
 (Qjk x2 ([([(0,1)]:List (Int×Int)),([]:QBg),([]:QBg),([]:QBg)]:List QBg) 1).bind fun x17=>
 (QmV x17 ([1]:List Int)).bind fun x18=>
 some x18
 else
 some false
 else
 some false
 else
 some false
 else
 some false
 else
 some false
 else
 some false
 else
 some false
def QhY (x5:Bool):Option Bool:=
 some x5
def Qj9  : Option Bool:=
 (QnE).bind fun x2=>
 (QdY x2 ([([(0,1)]:List (Int×Int)),([]:QBg),([(0,1)]:List (Int×Int)),([]:QBg)]:List QBg) 1 10).bind fun x3=>
 (Qma x2 ([([(0,1)]:List (Int×Int)),([]:QBg),([(0,1)]:List (Int×Int)),([]:QBg)]:List QBg) 10 10).bind fun x4=>
 (QmW x2 x3 x4).bind (fun x5=>QhY x5)
theorem QqY  {r:Bool}(h:Qj9  = some r):Qc Tryz.prog 8 [] [] (Gives (.b r) []):=by
 refine Qc.walk 78 Tryz.func8 rfl Tryz.ntmps8 rfl fun C hC=>?_
 unfold Qj9 at h
 obtain⟨x2,hx2,h⟩:=Qb h
 obtain⟨x3,hx3,h⟩:=Qb h
 obtain⟨x4,hx4,h⟩:=Qb h
 refine Qa hC [.n 7,.o (.c false [] (.agg (Qd x2))),.n 2,.sayO 1 (.var (Qd x2)),.n 4,.v .no [] (.agg (Qy (0,1))),.n 1,.sayO 10 (.arr 2 (([(0,1)]:List (Int×Int)).map Qy)),.say 10 (.own 10 ([(0,1)]:List (Int×Int)).length),.n 5,.v (.bd []) [] (.sl 1 (([0]:List Int).map Qe)),.v (.bd []) [] (.sl 1 (([0]:List Int).map Qe)),.v .no [none,some 1,none,none] (.agg (Qj (Qk.mk 1 ([]:(List Int)) ([0]:List Int) ([0]:List Int)))),.n 2,.sayO 3 (.var (Qj (Qk.mk 1 ([]:(List Int)) ([0]:List Int) ([0]:List Int)))),.n 4,.v .no [] (.agg (Qd x2)),.n 2,.frz 10 (([(0,1)]:List (Int×Int)).map Qy) [2,10,16,17] [],.v (.bd [none,some 2,none,some 2]) [] (.sl 1 (([([(0,1)]:List (Int×Int)),([]:QBg),([(0,1)]:List (Int×Int)),([]:QBg)]:List QBg).map Qh)),.o (.c false [.d,.d,.d,.d] (.tup [.sl 1 (x3.1.map Qs),.b x3.2])),.n 9,.v .no [] (.agg (Qd x2)),.n 2,.v (.bd [none,some 2,none,some 2]) [] (.sl 1 (([([(0,1)]:List (Int×Int)),([]:QBg),([(0,1)]:List (Int×Int)),([]:QBg)]:List QBg).map Qh)),.o (.c false [.d,.d,.d,.d] (.tup [.sl 4 (x4.1.map Qj),.b x4.2])),.n 8] rfl ⟨⟨⟨⟨⟨⟨⟨⟨⟨⟨⟨⟨⟨⟨⟨⟨tt_,(Qsp  hx2)⟩,rfl⟩,rfl⟩,rfl⟩,rfl⟩,rfl⟩,rfl⟩,rfl⟩,rfl⟩,rfl⟩,⟨⟨⟨⟨tt_,(frzL Qf)⟩,(frzL Qf)⟩,(frzL Qf)⟩,(frzL Qf)⟩⟩,rfl⟩,(QjB _ _ _ _ hx3)⟩,rfl⟩,rfl⟩,(QqX _ _ _ _ hx4)⟩ ?_
 obtain⟨x5,hv6,h⟩:=Qb h
 replace h:QhY x5=some r:=h
 refine AK.meetX (fun σ=>σ=⟨[(0,.b x5)],[]⟩) ?_ ?_
 ·replace h:=hv6
  unfold QmW at h
  obtain⟨x7,hx7,h⟩:=Qb h
  refine Qa hC [.n 1,.v .no [] (.agg (Qd x2)),.n 2,.v (.bd [none,some 2,none,some 2]) [] (.sl 1 (([([(0,1)]:List (Int×Int)),([]:QBg),([(0,1)]:List (Int×Int)),([]:QBg)]:List QBg).map Qh)),.v .no [] (.agg (Qj (Qk.mk 1 ([]:(List Int)) ([0]:List Int) ([0]:List Int)))),.o (.c false [.d,.d,.d,.d] (.i .i64 x7)),.n 2] rfl ⟨⟨⟨⟨tt_,rfl⟩,rfl⟩,rfl⟩,(Qg7 _ _ _ _ hx7)⟩ ?_
  rcases bifE h with⟨hc8,h⟩|⟨hc8,h⟩
  ·obtain⟨x9,hx9,h⟩:=Qb h
   refine Qa hC [.say 37 (.b true),.v .no [] (.agg (Qd x2)),.n 1,.v (.bd [none,some 2,some 2,some 2]) [] (.sl 1 (([([(0,1)]:List (Int×Int)),([]:QBg),([]:QBg),([]:QBg)]:List QBg).map Qh)),.v .no [] (.agg (Qj (Qk.mk 1 ([]:(List Int)) ([0]:List Int) ([0]:List Int)))),.o (.c false [.d,.d,.d,.d] (.i .i64 x9)),.n 3] rfl ⟨⟨⟨⟨⟨tt_,(congrArg V.b hc8)⟩,rfl⟩,rfl⟩,rfl⟩,(Qg7 _ _ _ _ hx9)⟩ ?_
   rcases bifE h with⟨hc10,h⟩|⟨hc10,h⟩
   ·obtain⟨x11,hx11,h⟩:=Qb h
    refine Qa hC [.say 45 (.b true),.v .no [] (.agg (Qd x2)),.n 2,.v (.bd [none,some 2,none,some 2]) [] (.sl 1 (([([(0,1)]:List (Int×Int)),([]:QBg),([(0,1)]:List (Int×Int)),([]:QBg)]:List QBg).map Qh)),.v .no [] (.agg (Qj (Qk.mk 1 ([]:(List Int)) ([0]:List Int) ([0]:List Int)))),.o (.c false [.d,.d,.d,.d] (.i .i64 x11)),.n 3] rfl ⟨⟨⟨⟨⟨tt_,(congrArg V.b hc10)⟩,rfl⟩,rfl⟩,rfl⟩,(Qg7 _ _ _ _ hx11)⟩ ?_
    rcases bifE h with⟨hc12,h⟩|⟨hc12,h⟩
    ·refine Qa hC [.say 54 (.b true),.n 1,.o (.ln x3.1.length),.n 3] rfl ⟨⟨tt_,(congrArg V.b hc12)⟩,Qf⟩ ?_
     rcases bifE h with⟨hc13,h⟩|⟨hc13,h⟩
     ·refine Qa hC [.say 59 (.b true),.n 3] rfl ⟨tt_,(congrArg V.b hc13)⟩ ?_
      rcases bifE h with⟨hc14,h⟩|⟨hc14,h⟩
      ·refine Qa hC [.say 62 (.b true),.n 1,.o (.ln x4.1.length),.n 3] rfl ⟨⟨tt_,(congrArg V.b hc14)⟩,Qf⟩ ?_
       rcases bifE h with⟨hc15,h⟩|⟨hc15,h⟩
       ·refine Qa hC [.say 67 (.b true),.n 3] rfl ⟨tt_,(congrArg V.b hc15)⟩ ?_
        rcases bifE h with⟨hc16,h⟩|⟨hc16,h⟩
        ·obtain⟨x17,hx17,h⟩:=Qb h
         obtain⟨x18,hx18,h⟩:=Qb h
         refine Qa hC [.say 70 (.b true),.v .no [] (.agg (Qd x2)),.n 1,.v (.bd [none,some 2,some 2,some 2]) [] (.sl 1 (([([(0,1)]:List (Int×Int)),([]:QBg),([]:QBg),([]:QBg)]:List QBg).map Qh)),.o (.co false [.d,.d,.d] 1 (x17.map Qe) x17.length),.v (.bd []) [] (.sl 1 (([1]:List Int).map Qe)),.o (.c true [.o (x17.map Qe),.d] (.b x18)),.n 3,.keep [0] []] rfl ⟨⟨⟨⟨⟨⟨tt_,(congrArg V.b hc16)⟩,rfl⟩,rfl⟩,⟨(Qmi _ _ _ hx17),Qf,.inl rfl⟩⟩,rfl⟩,⟨(Qp7 rfl),(QrP _ _ hx18)⟩⟩ ?_
         cases h
         exact AK.met rfl
        ·refine Qa hC [.say 70 (.b false),.n 9,.keep [0] []] rfl ⟨tt_,(congrArg V.b hc16)⟩ ?_
         cases h
         exact AK.met rfl
       ·refine Qa hC [.say 67 (.b false),.n 12,.keep [0] []] rfl ⟨tt_,(congrArg V.b hc15)⟩ ?_
        cases h
        exact AK.met rfl
      ·refine Qa hC [.say 62 (.b false),.n 17,.keep [0] []] rfl ⟨tt_,(congrArg V.b hc14)⟩ ?_
       cases h
       exact AK.met rfl
     ·refine Qa hC [.say 59 (.b false),.n 20,.keep [0] []] rfl ⟨tt_,(congrArg V.b hc13)⟩ ?_
      cases h
      exact AK.met rfl
    ·refine Qa hC [.say 54 (.b false),.n 25,.keep [0] []] rfl ⟨tt_,(congrArg V.b hc12)⟩ ?_
     cases h
     exact AK.met rfl
   ·refine Qa hC [.say 45 (.b false),.n 34,.keep [0] []] rfl ⟨tt_,(congrArg V.b hc10)⟩ ?_
    cases h
    exact AK.met rfl
  ·refine Qa hC [.say 37 (.b false),.n 42,.keep [0] []] rfl ⟨tt_,(congrArg V.b hc8)⟩ ?_
   cases h
   exact AK.met rfl
 ·rintro σ rfl
  replace h:QhY x5=some r:=h
  unfold QhY at h
  refine Qa hC [.n 2,.keep [0] []] rfl tt_ ?_
  cases h
  exact AK.done (ex_ [_] (an_ (an_ rfl tt_) (gives tt_)))
def Qfd (e1:Qg)(rec_law04_few:Qg→Int→Option Int)(deep2:Int)(n8:Int)(i9:Int):Option ((Int×Int)⊕(Unit⊕Int)):=
 bif (decide (i9<(e1.Kids.length:Int)))then
 (idx e1.Kids i9).bind fun e14=>
 (rec_law04_few e14 (w64 (deep2-1))).bind fun x15=>
 bif (x15==0)then
 some (.inr (.inl ()))
 else
 bif (decide ((w64 ((w64 (n8-500))+x15))≤1))then
 some (.inr (.inl ()))
 else
 some (.inl ((w64 ((w64 (n8-500))+x15)),(w64 (i9+1))))
 else
 some (.inr (.inr n8))
def Qlv : Option Int:=
 some 0
def Qlw (n12:Int):Option Int:=
 some (w64 (n12-1))
def Qka (rec_law04_few:Qg→Int→Option Int)(e1:Qg)(deep2:Int):Option Int:=
 bif ((decide (deep2≤0))||(decide (9<(e1.Kids.length:Int))))then
 some 0
 else
 (QA (fun st=>Qfd e1 rec_law04_few deep2 st.1 st.2) (500,0)).bind (Sum.elim (fun q=>Qlv) (fun q=>Qlw q))
def QeA : Nat→Qg→Int→Option Int
 | 0,_,_=>none
 | n+1,e1,deep2=>Qka (QeA n) e1 deep2
def QnJ (e1:Qg)(deep2:Int):Option Int:=QeA (SizeOf.sizeOf e1) e1 deep2
theorem QqZ (rec_law04_few:Qg→Int→Option Int)(hrec_law04_few:∀(e1:Qg) (deep2:Int) {r:Int},rec_law04_few e1 deep2=some r→Qc Tryz.prog 148 [.agg (Qm e1),.i .i64 deep2] [] (Gives (.i .i64 r) []))(e1:Qg)(deep2:Int){r:Int}(h:Qka rec_law04_few e1 deep2=some r):Qc Tryz.prog 148 [.agg (Qm e1),.i .i64 deep2] [] (Gives (.i .i64 r) []):=by
 refine Qc.walk 41 Tryz.func148 rfl Tryz.ntmps148 rfl fun C hC=>?_
 unfold Qka at h
 refine Qa hC [.n 8] rfl tt_ ?_
 refine AK.meetX (fun σ=>σ=⟨[(1,.i .i64 deep2),(2,.loc 2 0 0),(15,.b ((decide (deep2≤0))||(decide (9<(e1.Kids.length:Int)))))],[(2,.var (Qm e1))]⟩) ?_ ?_
 ·refine Qa hC [.n 4] rfl tt_ ?_
  rcases QN (decide (deep2≤0))with hc6 | hc6
  ·refine Qa hC [.say 10 (.b true),.n 6,.say 15 (.b ((decide (deep2≤0))||(decide (9<(e1.Kids.length:Int))))),.keep [1,2,15] [2]] rfl ⟨⟨tt_,(congrArg V.b hc6)⟩,(congrArg V.b (orT hc6 rfl))⟩ ?_
   exact AK.met rfl
  ·refine Qa hC [.say 10 (.b false),.n 2,.o (.ln e1.Kids.length),.n 3,.say 15 (.b ((decide (deep2≤0))||(decide (9<(e1.Kids.length:Int))))),.keep [1,2,15] [2]] rfl ⟨⟨⟨tt_,(congrArg V.b hc6)⟩,Qjd _⟩,(congrArg V.b (orF hc6 rfl))⟩ ?_
   exact AK.met rfl
 ·rintro σ rfl
  refine Qa hC [.n 1] rfl tt_ ?_
  rcases bifE h with⟨hc7,h⟩|⟨hc7,h⟩
  ·refine Qa hC [.br true,.n 7,.keep [4] []] rfl ⟨tt_,hc7⟩ ?_
   cases h
   exact AK.done (ex_ [_] (an_ (an_ rfl tt_) (gives tt_)))
  ·refine Qa hC [.br false,.n 14,.keep [1,2,5,6] [2]] rfl ⟨tt_,hc7⟩ ?_
   obtain⟨o18,hl18,h⟩:=Qb h
   refine AK.loop (body:=(fun st=>Qfd e1 rec_law04_few deep2 st.1 st.2)) (fun st σ=>σ=⟨[(1,.i .i64 deep2),(2,.loc 2 0 0),(5,.i .i64 st.1),(6,.i .i64 st.2)],[(2,.var (Qm e1))]⟩) (Sum.elim (fun q e σ=>e=.ret∧σ=⟨[(4,.i .i64 0)],[]⟩) (fun q e σ=>e=.exit 0∧σ=⟨[(5,.i .i64 q)],[]⟩)) hl18 rfl ?_ ?_
   ·rintro ⟨n8,i9⟩ o σ rfl h
    replace h:Qfd e1 rec_law04_few deep2 n8 i9=some o:=h
    unfold Qfd at h
    refine Qa hC [.n 6,.o (.ln e1.Kids.length),.n 3] rfl ⟨tt_,Qjd _⟩ ?_
    rcases bifE h with⟨hc13,h⟩|⟨hc13,h⟩
    ·obtain⟨e14,he14,h⟩:=Qb h
     obtain⟨x15,hx15,h⟩:=Qb h
     refine Qa hC [.br true,.n 9,.o (.row (Qm e14)),.v .no [] (.agg (Qm e14)),.n 2,.o (.c false [.d,.d] (.i .i64 x15)),.n 10] rfl ⟨⟨⟨⟨tt_,hc13⟩,(Qd0 he14)⟩,rfl⟩,(hrec_law04_few _ _ hx15)⟩ ?_
     rcases bifE h with⟨hc16,h⟩|⟨hc16,h⟩
     ·refine Qa hC [.br true,.n 9,.keep [4] []] rfl ⟨tt_,hc16⟩ ?_
      cases h
      exact rndR rfl (an_ rfl rfl)
     ·refine Qa hC [.br false,.n 17] rfl ⟨tt_,hc16⟩ ?_
      rcases bifE h with⟨hc17,h⟩|⟨hc17,h⟩
      ·refine Qa hC [.br true,.n 8,.keep [4] []] rfl ⟨tt_,hc17⟩ ?_
       cases h
       exact rndR rfl (an_ rfl rfl)
      ·refine Qa hC [.br false,.n 8,.keep [1,2,5,6] [2]] rfl ⟨tt_,hc17⟩ ?_
       cases h
       exact rndN rfl rfl
    ·refine Qa hC [.br false,.n 2,.keep [5] []] rfl ⟨tt_,hc13⟩ ?_
     cases h
     exact rndX rfl (an_ rfl rfl)
   ·rcases o18 with(_ | n12)
    ·replace h:Qlv=some r:=h
     unfold Qlv at h
     rintro e σ ⟨rfl,rfl⟩
     refine Qa hC [.n 2,.keep [4] []] rfl tt_ ?_
     cases h
     exact AK.done (ex_ [_] (an_ (an_ rfl tt_) (gives tt_)))
    ·replace h:Qlw n12=some r:=h
     unfold Qlw at h
     rintro e σ ⟨rfl,rfl⟩
     refine Qa hC [.n 10,.keep [4] []] rfl tt_ ?_
     cases h
     exact AK.done (ex_ [_] (an_ (an_ rfl tt_) (gives tt_)))
theorem QmX : ∀(fuel:Nat) (e1:Qg) (deep2:Int) {r:Int},QeA fuel e1 deep2=some r→Qc Tryz.prog 148 [.agg (Qm e1),.i .i64 deep2] [] (Gives (.i .i64 r) [])
 | 0,_,_,_,h=>by cases h
 | n+1,e1,deep2,_,h=>QqZ (QeA n) (fun _ _ _ h=>QmX n _ _ h) e1 deep2 h
theorem Qsu (e1:Qg)(deep2:Int){r:Int}(h:QnJ e1 deep2=some r):Qc Tryz.prog 148 [.agg (Qm e1),.i .i64 deep2] [] (Gives (.i .i64 r) []):=QmX _ e1 deep2 h
def QgQ (e1:Qg):Option Bool:=
 (QnJ e1 60).bind fun x3=>
 some (decide (0<x3))
theorem Qlx (e1:Qg){r:Bool}(h:QgQ e1=some r):Qc Tryz.prog 97 [.agg (Qm e1)] [] (Gives (.b r) []):=by
 refine Qc.walk 6 Tryz.func97 rfl Tryz.ntmps97 rfl fun C hC=>?_
 unfold QgQ at h
 obtain⟨x3,hx3,h⟩:=Qb h
 refine Qa hC [.n 8,.v .no [] (.agg (Qm e1)),.o (.c false [.d,.d] (.i .i64 x3)),.n 5,.keep [2] []] rfl ⟨⟨tt_,rfl⟩,(Qsu _ _ hx3)⟩ ?_
 cases h
 exact AK.done (ex_ [_] (an_ (an_ rfl tt_) (gives tt_)))
def Qly (n1:TNet)(i9:Int)(parts8:Int)(e14:QB):Option Bool:=
 (idx n1.Colours i9).bind fun e17=>
 bif (decide (100<(e17.Name.size:Int)))then
 some true
 else
 some (decide (400<(w64 (parts8+(e14.Names.length:Int)))))
def Qfe (n1:TNet)(i9:Int)(k20:Int):Option (Int⊕(Unit⊕Unit)):=
 (idx n1.Colours i9).bind fun e22=>
 bif (decide (k20<(e22.Names.length:Int)))then
 (idx n1.Colours i9).bind fun e24=>
 (idx e24.Names k20).bind fun e25=>
 bif (decide (100<(e25.size:Int)))then
 some (.inr (.inl ()))
 else
 some (.inl (w64 (k20+1)))
 else
 some (.inr (.inr ()))
def Qlz : Option ((Int×Int)⊕(Unit⊕Int)):=
 some (.inr (.inl ()))
def QlA (parts8:Int)(e14:QB)(i9:Int):Option ((Int×Int)⊕(Unit⊕Int)):=
 some (.inl ((w64 (parts8+(e14.Names.length:Int))),(w64 (i9+1))))
def Qhj (n1:TNet)(i9:Int)(parts8:Int)(e14:QB)(x15:Bool):Option ((Int×Int)⊕(Unit⊕Int)):=
 bif x15 then
 some (.inr (.inl ()))
 else
 (QA (fun st=>Qfe n1 i9 st) 0).bind (Sum.elim (fun q=>Qlz) (fun q=>QlA parts8 e14 i9))
def Qff (n1:TNet)(parts8:Int)(i9:Int):Option ((Int×Int)⊕(Unit⊕Int)):=
 bif (decide (i9<(n1.Colours.length:Int)))then
 (idx n1.Colours i9).bind fun e14=>
 (Qly n1 i9 parts8 e14).bind (fun x15=>Qhj n1 i9 parts8 e14 x15)
 else
 some (.inr (.inr parts8))
def QlB : Option Bool:=
 some false
def Qfg (n1:TNet)(parts29:Int)(i30:Int):Option ((Int×Int)⊕(Unit⊕Int)):=
 bif (decide (i30<(n1.Places.length:Int)))then
 (idx n1.Places i30).bind fun e35=>
 (idx n1.Places i30).bind fun e36=>
 bif (decide (100<(e36.Name.size:Int)))then
 some (.inr (.inl ()))
 else
 some (.inl ((w64 (parts29+(e35.First.length:Int))),(w64 (i30+1))))
 else
 some (.inr (.inr parts29))
def QlC : Option Bool:=
 some false
def Qel (e44:Qr)(k48:Int):Option (Int⊕(Unit⊕Unit)):=
 bif (decide (k48<(e44.Vars.length:Int)))then
 (idx e44.Vars k48).bind fun e51=>
 bif (decide (100<(e51.Name.size:Int)))then
 some (.inr (.inl ()))
 else
 some (.inl (w64 (k48+1)))
 else
 some (.inr (.inr ()))
def Qlb : Option ((Int×Int)⊕(Unit⊕Unit)):=
 some (.inr (.inl ()))
def Qem (e44:Qr)(ok55:Bool)(k56:Int):Option ((Bool×Int)⊕Bool):=
 bif (decide (k56<(e44.Ins.length:Int)))then
 (idx e44.Ins k56).bind fun e61=>
 (QgQ e61.Expr).bind fun x62=>
 some (.inl ((ok55&&x62),(w64 (k56+1))))
 else
 some (.inr ok55)
def Qen (e44:Qr)(ok66:Bool)(k67:Int):Option ((Bool×Int)⊕Bool):=
 bif (decide (k67<(e44.Outs.length:Int)))then
 (idx e44.Outs k67).bind fun e72=>
 (QgQ e72.Expr).bind fun x73=>
 some (.inl ((ok66&&x73),(w64 (k67+1))))
 else
 some (.inr ok66)
def Qgq (arcs39:Int)(e44:Qr)(i40:Int)(ok70:Bool):Option ((Int×Int)⊕(Unit⊕Unit)):=
 bif (!ok70)then
 some (.inr (.inl ()))
 else
 some (.inl ((w64 ((w64 ((w64 ((w64 (arcs39+(e44.Vars.length:Int)))+(e44.Ins.length:Int)))+(e44.Outs.length:Int)))+(e44.Cancel.length:Int))),(w64 (i40+1))))
def Qgr (e44:Qr)(arcs39:Int)(i40:Int)(ok59:Bool):Option ((Int×Int)⊕(Unit⊕Unit)):=
 (QA (fun st=>Qen e44 st.1 st.2) (ok59,0)).bind (fun q=>Qgq arcs39 e44 i40 q)
def Qgs (e44:Qr)(arcs39:Int)(i40:Int):Option ((Int×Int)⊕(Unit⊕Unit)):=
 (QgQ e44.Guard).bind fun x54=>
 (QA (fun st=>Qem e44 st.1 st.2) (x54,0)).bind (fun q=>Qgr e44 arcs39 i40 q)
def Qeo (n1:TNet)(arcs39:Int)(i40:Int):Option ((Int×Int)⊕(Unit⊕Unit)):=
 bif (decide (i40<(n1.Tasks.length:Int)))then
 (idx n1.Tasks i40).bind fun e44=>
 bif ((decide (200<(w64 ((w64 ((w64 ((w64 (arcs39+(e44.Vars.length:Int)))+(e44.Ins.length:Int)))+(e44.Outs.length:Int)))+(e44.Cancel.length:Int)))))||(decide (100<(e44.Name.size:Int))))then
 some (.inr (.inl ()))
 else
 (QA (fun st=>Qel e44 st) 0).bind (Sum.elim (fun q=>Qlb) (fun q=>Qgs e44 arcs39 i40))
 else
 some (.inr (.inr ()))
def Qlc : Option Bool:=
 some false
def Qld (parts33:Int):Option Bool:=
 some (decide (parts33≤400))
def Qgt (n1:TNet)(parts33:Int):Option Bool:=
 (QA (fun st=>Qeo n1 st.1 st.2) (0,0)).bind (Sum.elim (fun q=>Qlc) (fun q=>Qld parts33))
def Qgu (n1:TNet)(parts12:Int):Option Bool:=
 (QA (fun st=>Qfg n1 st.1 st.2) (parts12,0)).bind (Sum.elim (fun q=>QlC) (fun q=>Qgt n1 q))
def QjV (n1:TNet):Option Bool:=
 bif ((decide (40<(n1.Colours.length:Int)))||((decide (70<(n1.Places.length:Int)))||(decide (70<(n1.Tasks.length:Int)))))then
 some false
 else
 (QA (fun st=>Qff n1 st.1 st.2) (0,0)).bind (Sum.elim (fun q=>QlB) (fun q=>Qgu n1 q))
theorem Qsv (n1:TNet){r:Bool}(h:QjV n1=some r):Qc Tryz.prog 50 [.agg (Qd n1)] [] (Gives (.b r) []):=by
 refine Qc.walk 201 Tryz.func50 rfl Tryz.ntmps50 rfl fun C hC=>?_
 unfold QjV at h
 refine Qa hC [.n 8] rfl tt_ ?_
 refine AK.meetX (fun σ=>σ=⟨[(1,.loc 1 0 0),(31,.b ((decide (40<(n1.Colours.length:Int)))||((decide (70<(n1.Places.length:Int)))||(decide (70<(n1.Tasks.length:Int))))))],[(1,.var (Qd n1))]⟩) ?_ ?_
 ·refine Qa hC [.n 3,.o (.ln n1.Colours.length),.n 2] rfl ⟨tt_,Qf⟩ ?_
  rcases QN (decide (40<(n1.Colours.length:Int)))with hc5 | hc5
  ·refine Qa hC [.say 20 (.b true),.n 12,.say 31 (.b ((decide (40<(n1.Colours.length:Int)))||((decide (70<(n1.Places.length:Int)))||(decide (70<(n1.Tasks.length:Int)))))),.keep [1,31] [1]] rfl ⟨⟨tt_,(congrArg V.b hc5)⟩,(congrArg V.b (orT hc5 rfl))⟩ ?_
   exact AK.met rfl
  ·refine Qa hC [.say 20 (.b false),.n 2,.o (.ln n1.Places.length),.n 3] rfl ⟨⟨tt_,(congrArg V.b hc5)⟩,Qf⟩ ?_
   rcases QN (decide (70<(n1.Places.length:Int)))with hc6 | hc6
   ·refine Qa hC [.say 26 (.b true),.n 6,.say 31 (.b ((decide (40<(n1.Colours.length:Int)))||((decide (70<(n1.Places.length:Int)))||(decide (70<(n1.Tasks.length:Int)))))),.keep [1,31] [1]] rfl ⟨⟨tt_,(congrArg V.b hc6)⟩,(congrArg V.b (orF hc5 (orT hc6 rfl)))⟩ ?_
    exact AK.met rfl
   ·refine Qa hC [.say 26 (.b false),.n 2,.o (.ln n1.Tasks.length),.n 3,.say 31 (.b ((decide (40<(n1.Colours.length:Int)))||((decide (70<(n1.Places.length:Int)))||(decide (70<(n1.Tasks.length:Int)))))),.keep [1,31] [1]] rfl ⟨⟨⟨tt_,(congrArg V.b hc6)⟩,Qf⟩,(congrArg V.b (orF hc5 (orF hc6 rfl)))⟩ ?_
    exact AK.met rfl
 ·rintro σ rfl
  refine Qa hC [.n 1] rfl tt_ ?_
  rcases bifE h with⟨hc7,h⟩|⟨hc7,h⟩
  ·refine Qa hC [.br true,.n 7,.keep [2] []] rfl ⟨tt_,hc7⟩ ?_
   cases h
   exact AK.done (ex_ [_] (an_ (an_ rfl tt_) (gives tt_)))
  ·refine Qa hC [.br false,.n 14,.keep [1,3,4] [1]] rfl ⟨tt_,hc7⟩ ?_
   obtain⟨o28,hl28,h⟩:=Qb h
   refine AK.loop (body:=(fun st=>Qff n1 st.1 st.2)) (fun st σ=>σ=⟨[(1,.loc 1 0 0),(3,.i .i64 st.1),(4,.i .i64 st.2)],[(1,.var (Qd n1))]⟩) (Sum.elim (fun q e σ=>e=.ret∧σ=⟨[(2,.b false)],[]⟩) (fun q e σ=>e=.exit 0∧σ=⟨[(1,.loc 1 0 0),(3,.i .i64 q)],[(1,.var (Qd n1))]⟩)) hl28 rfl ?_ ?_
   ·rintro ⟨parts8,i9⟩ o σ rfl h
    replace h:Qff n1 parts8 i9=some o:=h
    unfold Qff at h
    refine Qa hC [.n 6,.o (.ln n1.Colours.length),.n 3] rfl ⟨tt_,Qf⟩ ?_
    rcases bifE h with⟨hc13,h⟩|⟨hc13,h⟩
    ·obtain⟨e14,he14,h⟩:=Qb h
     refine Qa hC [.br true,.n 10,.o (.row (Qw e14)),.n 2,.o (.ln e14.Names.length),.n 6] rfl ⟨⟨⟨tt_,hc13⟩,(idxM he14)⟩,Qf⟩ ?_
     obtain⟨x15,hv16,h⟩:=Qb h
     replace h:Qhj n1 i9 parts8 e14 x15=some o:=h
     refine AK.meetX (fun σ=>σ=⟨[(1,.loc 1 0 0),(3,.i .i64 (w64 (parts8+(e14.Names.length:Int)))),(4,.i .i64 i9),(59,.b x15)],[(1,.var (Qd n1))]⟩) ?_ ?_
     ·replace h:=hv16
      unfold Qly at h
      obtain⟨e17,he17,h⟩:=Qb h
      refine Qa hC [.n 4,.o (.row (Qw e17)),.n 5] rfl ⟨tt_,(idxM he17)⟩ ?_
      rcases bifE h with⟨hc18,h⟩|⟨hc18,h⟩
      ·refine Qa hC [.say 56 (.b true),.n 4,.keep [1,3,4,59] [1]] rfl ⟨tt_,(congrArg V.b hc18)⟩ ?_
       cases h
       exact AK.met rfl
      ·refine Qa hC [.say 56 (.b false),.n 4,.keep [1,3,4,59] [1]] rfl ⟨tt_,(congrArg V.b hc18)⟩ ?_
       cases h
       exact AK.met rfl
     ·rintro σ rfl
      replace h:Qhj n1 i9 parts8 e14 x15=some o:=h
      unfold Qhj at h
      refine Qa hC [.n 1] rfl tt_ ?_
      rcases bifE h with⟨hc19,h⟩|⟨hc19,h⟩
      ·refine Qa hC [.br true,.n 9,.keep [2] []] rfl ⟨tt_,hc19⟩ ?_
       cases h
       exact rndR rfl (an_ rfl rfl)
      ·refine Qa hC [.br false,.n 8,.keep [1,3,4,5] [1]] rfl ⟨tt_,hc19⟩ ?_
       obtain⟨o27,hl27,h⟩:=Qb h
       refine AK.loop (body:=(fun st=>Qfe n1 i9 st)) (fun st σ=>σ=⟨[(1,.loc 1 0 0),(3,.i .i64 (w64 (parts8+(e14.Names.length:Int)))),(4,.i .i64 i9),(5,.i .i64 st)],[(1,.var (Qd n1))]⟩) (Sum.elim (fun q e σ=>e=.ret∧σ=⟨[(2,.b false)],[]⟩) (fun q e σ=>e=.exit 2∧σ=⟨[(1,.loc 1 0 0),(3,.i .i64 (w64 (parts8+(e14.Names.length:Int)))),(4,.i .i64 i9)],[(1,.var (Qd n1))]⟩)) hl27 rfl ?_ ?_
       ·rintro k20 o σ rfl h
        replace h:Qfe n1 i9 k20=some o:=h
        unfold Qfe at h
        obtain⟨e22,he22,h⟩:=Qb h
        refine Qa hC [.n 7,.o (.row (Qw e22)),.n 2,.o (.ln e22.Names.length),.n 3] rfl ⟨⟨tt_,(idxM he22)⟩,Qf⟩ ?_
        rcases bifE h with⟨hc23,h⟩|⟨hc23,h⟩
        ·obtain⟨e24,he24,h⟩:=Qb h
         obtain⟨e25,he25,h⟩:=Qb h
         refine Qa hC [.br true,.n 9,.o (.row (Qw e24)),.n 3,.o (.row (QdF e25)),.n 5] rfl ⟨⟨⟨tt_,hc23⟩,(idxM he24)⟩,(idxM he25)⟩ ?_
         rcases bifE h with⟨hc26,h⟩|⟨hc26,h⟩
         ·refine Qa hC [.br true,.n 8,.keep [2] []] rfl ⟨tt_,hc26⟩ ?_
          cases h
          exact rndR rfl (an_ rfl rfl)
         ·refine Qa hC [.br false,.n 8,.keep [1,3,4,5] [1]] rfl ⟨tt_,hc26⟩ ?_
          cases h
          exact rndN rfl rfl
        ·refine Qa hC [.br false,.n 2,.keep [1,3,4] [1]] rfl ⟨tt_,hc23⟩ ?_
         cases h
         exact rndX rfl (an_ rfl rfl)
       ·rcases o27 with(_ | _)
        ·replace h:Qlz=some o:=h
         unfold Qlz at h
         rintro e σ ⟨rfl,rfl⟩
         refine Qa hC [.n 3,.keep [2] []] rfl tt_ ?_
         cases h
         exact rndR rfl (an_ rfl rfl)
        ·replace h:QlA parts8 e14 i9=some o:=h
         unfold QlA at h
         rintro e σ ⟨rfl,rfl⟩
         refine Qa hC [.n 8,.keep [1,3,4] [1]] rfl tt_ ?_
         cases h
         exact rndN rfl rfl
    ·refine Qa hC [.br false,.n 2,.keep [1,3] [1]] rfl ⟨tt_,hc13⟩ ?_
     cases h
     exact rndX rfl (an_ rfl rfl)
   ·rcases o28 with(_ | parts12)
    ·replace h:QlB=some r:=h
     unfold QlB at h
     rintro e σ ⟨rfl,rfl⟩
     refine Qa hC [.n 2,.keep [2] []] rfl tt_ ?_
     cases h
     exact AK.done (ex_ [_] (an_ (an_ rfl tt_) (gives tt_)))
    ·replace h:Qgu n1 parts12=some r:=h
     unfold Qgu at h
     rintro e σ ⟨rfl,rfl⟩
     refine Qa hC [.n 9,.keep [1,3,6] [1]] rfl tt_ ?_
     obtain⟨o38,hl38,h⟩:=Qb h
     refine AK.loop (body:=(fun st=>Qfg n1 st.1 st.2)) (fun st σ=>σ=⟨[(1,.loc 1 0 0),(3,.i .i64 st.1),(6,.i .i64 st.2)],[(1,.var (Qd n1))]⟩) (Sum.elim (fun q e σ=>e=.ret∧σ=⟨[(2,.b false)],[]⟩) (fun q e σ=>e=.exit 4∧σ=⟨[(1,.loc 1 0 0),(3,.i .i64 q)],[(1,.var (Qd n1))]⟩)) hl38 rfl ?_ ?_
     ·rintro ⟨parts29,i30⟩ o σ rfl h
      replace h:Qfg n1 parts29 i30=some o:=h
      unfold Qfg at h
      refine Qa hC [.n 6,.o (.ln n1.Places.length),.n 3] rfl ⟨tt_,Qf⟩ ?_
      rcases bifE h with⟨hc34,h⟩|⟨hc34,h⟩
      ·obtain⟨e35,he35,h⟩:=Qb h
       obtain⟨e36,he36,h⟩:=Qb h
       refine Qa hC [.br true,.n 10,.o (.row (Qv e35)),.n 2,.o (.ln e35.First.length),.n 9,.o (.row (Qv e36)),.n 6] rfl ⟨⟨⟨⟨tt_,hc34⟩,(idxM he35)⟩,Qf⟩,(idxM he36)⟩ ?_
       rcases bifE h with⟨hc37,h⟩|⟨hc37,h⟩
       ·refine Qa hC [.br true,.n 8,.keep [2] []] rfl ⟨tt_,hc37⟩ ?_
        cases h
        exact rndR rfl (an_ rfl rfl)
       ·refine Qa hC [.br false,.n 8,.keep [1,3,6] [1]] rfl ⟨tt_,hc37⟩ ?_
        cases h
        exact rndN rfl rfl
      ·refine Qa hC [.br false,.n 2,.keep [1,3] [1]] rfl ⟨tt_,hc34⟩ ?_
       cases h
       exact rndX rfl (an_ rfl rfl)
     ·rcases o38 with(_ | parts33)
      ·replace h:QlC=some r:=h
       unfold QlC at h
       rintro e σ ⟨rfl,rfl⟩
       refine Qa hC [.n 2,.keep [2] []] rfl tt_ ?_
       cases h
       exact AK.done (ex_ [_] (an_ (an_ rfl tt_) (gives tt_)))
      ·replace h:Qgt n1 parts33=some r:=h
       unfold Qgt at h
       rintro e σ ⟨rfl,rfl⟩
       refine Qa hC [.n 14,.keep [1,3,7,8] [1]] rfl tt_ ?_
       obtain⟨o78,hl78,h⟩:=Qb h
       refine AK.loop (body:=(fun st=>Qeo n1 st.1 st.2)) (fun st σ=>σ=⟨[(1,.loc 1 0 0),(3,.i .i64 parts33),(7,.i .i64 st.1),(8,.i .i64 st.2)],[(1,.var (Qd n1))]⟩) (Sum.elim (fun q e σ=>e=.ret∧σ=⟨[(2,.b false)],[]⟩) (fun q e σ=>e=.exit 6∧σ=⟨[(3,.i .i64 parts33)],[]⟩)) hl78 rfl ?_ ?_
       ·rintro ⟨arcs39,i40⟩ o σ rfl h
        replace h:Qeo n1 arcs39 i40=some o:=h
        unfold Qeo at h
        refine Qa hC [.n 6,.o (.ln n1.Tasks.length),.n 3] rfl ⟨tt_,Qf⟩ ?_
        rcases bifE h with⟨hc43,h⟩|⟨hc43,h⟩
        ·obtain⟨e44,he44,h⟩:=Qb h
         refine Qa hC [.br true,.n 9,.o (.row (Qi e44)),.v .no [] (.agg (Qi e44)),.n 2,.sayO 9 (.var (Qi e44)),.n 7,.o (.ln e44.Vars.length),.n 3,.o (.ln e44.Ins.length),.n 3,.o (.ln e44.Outs.length),.n 3,.o (.ln e44.Cancel.length),.n 6] rfl ⟨⟨⟨⟨⟨⟨⟨⟨tt_,hc43⟩,(idxM he44)⟩,rfl⟩,rfl⟩,Qf⟩,Qf⟩,Qf⟩,Qf⟩ ?_
         refine AK.meetX (fun σ=>σ=⟨[(1,.loc 1 0 0),(3,.i .i64 parts33),(7,.i .i64 (w64 ((w64 ((w64 ((w64 (arcs39+(e44.Vars.length:Int)))+(e44.Ins.length:Int)))+(e44.Outs.length:Int)))+(e44.Cancel.length:Int)))),(8,.i .i64 i40),(9,.loc 9 0 0),(142,.b ((decide (200<(w64 ((w64 ((w64 ((w64 (arcs39+(e44.Vars.length:Int)))+(e44.Ins.length:Int)))+(e44.Outs.length:Int)))+(e44.Cancel.length:Int)))))||(decide (100<(e44.Name.size:Int)))))],[(1,.var (Qd n1)),(9,.var (Qi e44))]⟩) ?_ ?_
         ·refine Qa hC [.n 4] rfl tt_ ?_
          rcases QN (decide (200<(w64 ((w64 ((w64 ((w64 (arcs39+(e44.Vars.length:Int)))+(e44.Ins.length:Int)))+(e44.Outs.length:Int)))+(e44.Cancel.length:Int)))))with hc46 | hc46
          ·refine Qa hC [.say 137 (.b true),.n 6,.say 142 (.b ((decide (200<(w64 ((w64 ((w64 ((w64 (arcs39+(e44.Vars.length:Int)))+(e44.Ins.length:Int)))+(e44.Outs.length:Int)))+(e44.Cancel.length:Int)))))||(decide (100<(e44.Name.size:Int))))),.keep [1,3,7,8,9,142] [1,9]] rfl ⟨⟨tt_,(congrArg V.b hc46)⟩,(congrArg V.b (orT hc46 rfl))⟩ ?_
           exact AK.met rfl
          ·refine Qa hC [.say 137 (.b false),.n 6,.say 142 (.b ((decide (200<(w64 ((w64 ((w64 ((w64 (arcs39+(e44.Vars.length:Int)))+(e44.Ins.length:Int)))+(e44.Outs.length:Int)))+(e44.Cancel.length:Int)))))||(decide (100<(e44.Name.size:Int))))),.keep [1,3,7,8,9,142] [1,9]] rfl ⟨⟨tt_,(congrArg V.b hc46)⟩,(congrArg V.b (orF hc46 rfl))⟩ ?_
           exact AK.met rfl
         ·rintro σ rfl
          refine Qa hC [.n 1] rfl tt_ ?_
          rcases bifE h with⟨hc47,h⟩|⟨hc47,h⟩
          ·refine Qa hC [.br true,.n 9,.keep [2] []] rfl ⟨tt_,hc47⟩ ?_
           cases h
           exact rndR rfl (an_ rfl rfl)
          ·refine Qa hC [.br false,.n 9,.keep [1,3,7,8,9,10] [1,9]] rfl ⟨tt_,hc47⟩ ?_
           obtain⟨o53,hl53,h⟩:=Qb h
           refine AK.loop (body:=(fun st=>Qel e44 st)) (fun st σ=>σ=⟨[(1,.loc 1 0 0),(3,.i .i64 parts33),(7,.i .i64 (w64 ((w64 ((w64 ((w64 (arcs39+(e44.Vars.length:Int)))+(e44.Ins.length:Int)))+(e44.Outs.length:Int)))+(e44.Cancel.length:Int)))),(8,.i .i64 i40),(9,.loc 9 0 0),(10,.i .i64 st)],[(1,.var (Qd n1)),(9,.var (Qi e44))]⟩) (Sum.elim (fun q e σ=>e=.ret∧σ=⟨[(2,.b false)],[]⟩) (fun q e σ=>e=.exit 8∧σ=⟨[(1,.loc 1 0 0),(3,.i .i64 parts33),(7,.i .i64 (w64 ((w64 ((w64 ((w64 (arcs39+(e44.Vars.length:Int)))+(e44.Ins.length:Int)))+(e44.Outs.length:Int)))+(e44.Cancel.length:Int)))),(8,.i .i64 i40),(9,.loc 9 0 0)],[(1,.var (Qd n1)),(9,.var (Qi e44))]⟩)) hl53 rfl ?_ ?_
           ·rintro k48 o σ rfl h
            replace h:Qel e44 k48=some o:=h
            unfold Qel at h
            refine Qa hC [.n 6,.o (.ln e44.Vars.length),.n 3] rfl ⟨tt_,Qf⟩ ?_
            rcases bifE h with⟨hc50,h⟩|⟨hc50,h⟩
            ·obtain⟨e51,he51,h⟩:=Qb h
             refine Qa hC [.br true,.n 9,.o (.row (QE e51)),.n 6] rfl ⟨⟨tt_,hc50⟩,(idxM he51)⟩ ?_
             rcases bifE h with⟨hc52,h⟩|⟨hc52,h⟩
             ·refine Qa hC [.br true,.n 8,.keep [2] []] rfl ⟨tt_,hc52⟩ ?_
              cases h
              exact rndR rfl (an_ rfl rfl)
             ·refine Qa hC [.br false,.n 8,.keep [1,3,7,8,9,10] [1,9]] rfl ⟨tt_,hc52⟩ ?_
              cases h
              exact rndN rfl rfl
            ·refine Qa hC [.br false,.n 2,.keep [1,3,7,8,9] [1,9]] rfl ⟨tt_,hc50⟩ ?_
             cases h
             exact rndX rfl (an_ rfl rfl)
           ·rcases o53 with(_ | _)
            ·replace h:Qlb=some o:=h
             unfold Qlb at h
             rintro e σ ⟨rfl,rfl⟩
             refine Qa hC [.n 4,.keep [2] []] rfl tt_ ?_
             cases h
             exact rndR rfl (an_ rfl rfl)
            ·replace h:Qgs e44 arcs39 i40=some o:=h
             unfold Qgs at h
             rintro e σ ⟨rfl,rfl⟩
             obtain⟨x54,hx54,h⟩:=Qb h
             refine Qa hC [.n 5,.v .no [] (.agg (Qm e44.Guard)),.o (.c false [.d] (.b x54)),.n 10,.keep [1,3,7,8,9,11,12] [1,9]] rfl ⟨⟨tt_,rfl⟩,(Qlx _ hx54)⟩ ?_
             obtain⟨ok59,hl65,h⟩:=Qb h
             refine AK.loop (body:=(fun st=>Qem e44 st.1 st.2)) (fun st σ=>σ=⟨[(1,.loc 1 0 0),(3,.i .i64 parts33),(7,.i .i64 (w64 ((w64 ((w64 ((w64 (arcs39+(e44.Vars.length:Int)))+(e44.Ins.length:Int)))+(e44.Outs.length:Int)))+(e44.Cancel.length:Int)))),(8,.i .i64 i40),(9,.loc 9 0 0),(11,.b st.1),(12,.i .i64 st.2)],[(1,.var (Qd n1)),(9,.var (Qi e44))]⟩) (fun q e σ=>e=.exit 10∧σ=⟨[(1,.loc 1 0 0),(3,.i .i64 parts33),(7,.i .i64 (w64 ((w64 ((w64 ((w64 (arcs39+(e44.Vars.length:Int)))+(e44.Ins.length:Int)))+(e44.Outs.length:Int)))+(e44.Cancel.length:Int)))),(8,.i .i64 i40),(9,.loc 9 0 0),(11,.b q)],[(1,.var (Qd n1)),(9,.var (Qi e44))]⟩) hl65 rfl ?_ ?_
             ·rintro ⟨ok55,k56⟩ o σ rfl h
              replace h:Qem e44 ok55 k56=some o:=h
              unfold Qem at h
              refine Qa hC [.n 6,.o (.ln e44.Ins.length),.n 3] rfl ⟨tt_,Qf⟩ ?_
              rcases bifE h with⟨hc60,h⟩|⟨hc60,h⟩
              ·obtain⟨e61,he61,h⟩:=Qb h
               obtain⟨x62,hx62,h⟩:=Qb h
               refine Qa hC [.br true,.n 9,.o (.row (QG e61)),.n 1,.v .no [] (.agg (Qm e61.Expr)),.o (.c false [.d] (.b x62)),.n 3] rfl ⟨⟨⟨⟨tt_,hc60⟩,(idxM he61)⟩,rfl⟩,(Qlx _ hx62)⟩ ?_
               refine AK.meetX (fun σ=>σ=⟨[(1,.loc 1 0 0),(3,.i .i64 parts33),(7,.i .i64 (w64 ((w64 ((w64 ((w64 (arcs39+(e44.Vars.length:Int)))+(e44.Ins.length:Int)))+(e44.Outs.length:Int)))+(e44.Cancel.length:Int)))),(8,.i .i64 i40),(9,.loc 9 0 0),(11,.b (ok55&&x62)),(12,.i .i64 k56)],[(1,.var (Qd n1)),(9,.var (Qi e44))]⟩) ?_ ?_
               ·refine Qa hC [.n 3] rfl tt_ ?_
                rcases QN ok55 with hc64 | hc64
                ·refine Qa hC [.say 176 (.b true),.n 4,.say 11 (.b (ok55&&x62)),.keep [1,3,7,8,9,11,12] [1,9]] rfl ⟨⟨tt_,(congrArg V.b hc64)⟩,(congrArg V.b (andT hc64 rfl))⟩ ?_
                 exact AK.met rfl
                ·refine Qa hC [.say 176 (.b false),.n 4,.say 11 (.b (ok55&&x62)),.keep [1,3,7,8,9,11,12] [1,9]] rfl ⟨⟨tt_,(congrArg V.b hc64)⟩,(congrArg V.b (andF hc64 rfl))⟩ ?_
                 exact AK.met rfl
               ·rintro σ rfl
                refine Qa hC [.n 7,.keep [1,3,7,8,9,11,12] [1,9]] rfl tt_ ?_
                cases h
                exact rndN rfl rfl
              ·refine Qa hC [.br false,.n 2,.keep [1,3,7,8,9,11] [1,9]] rfl ⟨tt_,hc60⟩ ?_
               cases h
               exact rndX rfl (an_ rfl rfl)
             ·replace h:Qgr e44 arcs39 i40 ok59=some o:=h
              unfold Qgr at h
              rintro e σ ⟨rfl,rfl⟩
              refine Qa hC [.n 9,.keep [1,3,7,8,9,11,14] [1,9]] rfl tt_ ?_
              obtain⟨ok70,hl76,h⟩:=Qb h
              refine AK.loop (body:=(fun st=>Qen e44 st.1 st.2)) (fun st σ=>σ=⟨[(1,.loc 1 0 0),(3,.i .i64 parts33),(7,.i .i64 (w64 ((w64 ((w64 ((w64 (arcs39+(e44.Vars.length:Int)))+(e44.Ins.length:Int)))+(e44.Outs.length:Int)))+(e44.Cancel.length:Int)))),(8,.i .i64 i40),(9,.loc 9 0 0),(11,.b st.1),(14,.i .i64 st.2)],[(1,.var (Qd n1)),(9,.var (Qi e44))]⟩) (fun q e σ=>e=.exit 12∧σ=⟨[(1,.loc 1 0 0),(3,.i .i64 parts33),(7,.i .i64 (w64 ((w64 ((w64 ((w64 (arcs39+(e44.Vars.length:Int)))+(e44.Ins.length:Int)))+(e44.Outs.length:Int)))+(e44.Cancel.length:Int)))),(8,.i .i64 i40),(11,.b q)],[(1,.var (Qd n1))]⟩) hl76 rfl ?_ ?_
              ·rintro ⟨ok66,k67⟩ o σ rfl h
               replace h:Qen e44 ok66 k67=some o:=h
               unfold Qen at h
               refine Qa hC [.n 6,.o (.ln e44.Outs.length),.n 3] rfl ⟨tt_,Qf⟩ ?_
               rcases bifE h with⟨hc71,h⟩|⟨hc71,h⟩
               ·obtain⟨e72,he72,h⟩:=Qb h
                obtain⟨x73,hx73,h⟩:=Qb h
                refine Qa hC [.br true,.n 9,.o (.row (QG e72)),.n 1,.v .no [] (.agg (Qm e72.Expr)),.o (.c false [.d] (.b x73)),.n 3] rfl ⟨⟨⟨⟨tt_,hc71⟩,(idxM he72)⟩,rfl⟩,(Qlx _ hx73)⟩ ?_
                refine AK.meetX (fun σ=>σ=⟨[(1,.loc 1 0 0),(3,.i .i64 parts33),(7,.i .i64 (w64 ((w64 ((w64 ((w64 (arcs39+(e44.Vars.length:Int)))+(e44.Ins.length:Int)))+(e44.Outs.length:Int)))+(e44.Cancel.length:Int)))),(8,.i .i64 i40),(9,.loc 9 0 0),(11,.b (ok66&&x73)),(14,.i .i64 k67)],[(1,.var (Qd n1)),(9,.var (Qi e44))]⟩) ?_ ?_
                ·refine Qa hC [.n 3] rfl tt_ ?_
                 rcases QN ok66 with hc75 | hc75
                 ·refine Qa hC [.say 194 (.b true),.n 4,.say 11 (.b (ok66&&x73)),.keep [1,3,7,8,9,11,14] [1,9]] rfl ⟨⟨tt_,(congrArg V.b hc75)⟩,(congrArg V.b (andT hc75 rfl))⟩ ?_
                  exact AK.met rfl
                 ·refine Qa hC [.say 194 (.b false),.n 4,.say 11 (.b (ok66&&x73)),.keep [1,3,7,8,9,11,14] [1,9]] rfl ⟨⟨tt_,(congrArg V.b hc75)⟩,(congrArg V.b (andF hc75 rfl))⟩ ?_
                  exact AK.met rfl
                ·rintro σ rfl
                 refine Qa hC [.n 7,.keep [1,3,7,8,9,11,14] [1,9]] rfl tt_ ?_
                 cases h
                 exact rndN rfl rfl
               ·refine Qa hC [.br false,.n 2,.keep [1,3,7,8,11] [1]] rfl ⟨tt_,hc71⟩ ?_
                cases h
                exact rndX rfl (an_ rfl rfl)
              ·replace h:Qgq arcs39 e44 i40 ok70=some o:=h
               unfold Qgq at h
               rintro e σ ⟨rfl,rfl⟩
               refine Qa hC [.n 8] rfl tt_ ?_
               rcases bifE h with⟨hc77,h⟩|⟨hc77,h⟩
               ·refine Qa hC [.br true,.n 8,.keep [2] []] rfl ⟨tt_,hc77⟩ ?_
                cases h
                exact rndR rfl (an_ rfl rfl)
               ·refine Qa hC [.br false,.n 8,.keep [1,3,7,8] [1]] rfl ⟨tt_,hc77⟩ ?_
                cases h
                exact rndN rfl rfl
        ·refine Qa hC [.br false,.n 2,.keep [3] []] rfl ⟨tt_,hc43⟩ ?_
         cases h
         exact rndX rfl (an_ rfl rfl)
       ·rcases o78 with(_ | _)
        ·replace h:Qlc=some r:=h
         unfold Qlc at h
         rintro e σ ⟨rfl,rfl⟩
         refine Qa hC [.n 2,.keep [2] []] rfl tt_ ?_
         cases h
         exact AK.done (ex_ [_] (an_ (an_ rfl tt_) (gives tt_)))
        ·replace h:Qld parts33=some r:=h
         unfold Qld at h
         rintro e σ ⟨rfl,rfl⟩
         refine Qa hC [.n 10,.keep [2] []] rfl tt_ ?_
         cases h
         exact AK.done (ex_ [_] (an_ (an_ rfl tt_) (gives tt_)))
def Qfh (m1:QMk)(n3:Int)(i4:Int):Option ((Int×Int)⊕Int):=
 bif ((decide (i4<(m1.length:Int)))&&(decide (i4<100)))then
 (idx m1 i4).bind fun e11=>
 some (.inl ((w64 (n3+(e11.length:Int))),(w64 (i4+1))))
 else
 some (.inr n3)
def QlD (m1:QMk)(n7:Int):Option Bool:=
 some ((decide ((m1.length:Int)≤70))&&(decide (n7≤300)))
def QjW (m1:QMk):Option Bool:=
 (QA (fun st=>Qfh m1 st.1 st.2) (0,0)).bind (fun q=>QlD m1 q)
theorem Qsw (m1:QMk){r:Bool}(h:QjW m1=some r):Qc Tryz.prog 51 [.sl 1 (m1.map Qh)] [] (Gives (.b r) []):=by
 refine Qc.walk 29 Tryz.func51 rfl Tryz.ntmps51 rfl fun C hC=>?_
 unfold QjW at h
 refine Qa hC [.n 17,.keep [0,3,4] []] rfl tt_ ?_
 obtain⟨n7,hl12,h⟩:=Qb h
 refine AK.loop (body:=(fun st=>Qfh m1 st.1 st.2)) (fun st σ=>σ=⟨[(0,.sl 1 (m1.map Qh)),(3,.i .i64 st.1),(4,.i .i64 st.2)],[]⟩) (fun q e σ=>e=.exit 0∧σ=⟨[(0,.sl 1 (m1.map Qh)),(3,.i .i64 q)],[]⟩) hl12 rfl ?_ ?_
 ·rintro ⟨n3,i4⟩ o σ rfl h
  replace h:Qfh m1 n3 i4=some o:=h
  unfold Qfh at h
  refine Qa hC [.n 2] rfl tt_ ?_
  refine AK.meetX (fun σ=>σ=⟨[(0,.sl 1 (m1.map Qh)),(3,.i .i64 n3),(4,.i .i64 i4),(12,.b ((decide (i4<(m1.length:Int)))&&(decide (i4<100))))],[]⟩) ?_ ?_
  ·refine Qa hC [.n 3,.o (.ln m1.length),.n 2] rfl ⟨tt_,Qf⟩ ?_
   rcases QN (decide (i4<(m1.length:Int)))with hc9 | hc9
   ·refine Qa hC [.say 9 (.b true),.n 4,.say 12 (.b ((decide (i4<(m1.length:Int)))&&(decide (i4<100)))),.keep [0,3,4,12] []] rfl ⟨⟨tt_,(congrArg V.b hc9)⟩,(congrArg V.b (andT hc9 rfl))⟩ ?_
    exact AK.met rfl
   ·refine Qa hC [.say 9 (.b false),.n 4,.say 12 (.b ((decide (i4<(m1.length:Int)))&&(decide (i4<100)))),.keep [0,3,4,12] []] rfl ⟨⟨tt_,(congrArg V.b hc9)⟩,(congrArg V.b (andF hc9 rfl))⟩ ?_
    exact AK.met rfl
  ·rintro σ rfl
   refine Qa hC [.n 1] rfl tt_ ?_
   rcases bifE h with⟨hc10,h⟩|⟨hc10,h⟩
   ·obtain⟨e11,he11,h⟩:=Qb h
    refine Qa hC [.br true,.n 8,.o (.row (Qh e11)),.n 1,.o (.ln e11.length),.n 10,.keep [0,3,4] []] rfl ⟨⟨⟨tt_,hc10⟩,(idxM he11)⟩,Qf⟩ ?_
    cases h
    exact rndN rfl rfl
   ·refine Qa hC [.br false,.n 2,.keep [0,3] []] rfl ⟨tt_,hc10⟩ ?_
    cases h
    exact rndX rfl (an_ rfl rfl)
 ·replace h:QlD m1 n7=some r:=h
  unfold QlD at h
  rintro e σ ⟨rfl,rfl⟩
  refine Qa hC [.n 3] rfl tt_ ?_
  refine AK.meetX (fun σ=>σ=⟨[(2,.b ((decide ((m1.length:Int)≤70))&&(decide (n7≤300))))],[]⟩) ?_ ?_
  ·refine Qa hC [.n 2,.o (.ln m1.length),.n 2] rfl ⟨tt_,Qf⟩ ?_
   rcases QN (decide ((m1.length:Int)≤70))with hc14 | hc14
   ·refine Qa hC [.say 25 (.b true),.n 5,.say 2 (.b ((decide ((m1.length:Int)≤70))&&(decide (n7≤300)))),.keep [2] []] rfl ⟨⟨tt_,(congrArg V.b hc14)⟩,(congrArg V.b (andT hc14 rfl))⟩ ?_
    exact AK.met rfl
   ·refine Qa hC [.say 25 (.b false),.n 5,.say 2 (.b ((decide ((m1.length:Int)≤70))&&(decide (n7≤300)))),.keep [2] []] rfl ⟨⟨tt_,(congrArg V.b hc14)⟩,(congrArg V.b (andF hc14 rfl))⟩ ?_
    exact AK.met rfl
  ·rintro σ rfl
   refine Qa hC [.n 2,.keep [2] []] rfl tt_ ?_
   cases h
   exact AK.done (ex_ [_] (an_ (an_ rfl tt_) (gives tt_)))
def Qgh (v1:TNet):Option Bool:=
 some ((decide ((v1.Places.length:Int)≤64))&&(decide ((v1.Tasks.length:Int)≤64)))
theorem Qq0 (v1:TNet){r:Bool}(h:Qgh v1=some r):Qc Tryz.prog 99 [.loc 200000 0 0] [(200000,.var (Qd v1))] (Gives (.b r) [(200000,.var (Qd v1))]):=by
 refine Qc.walk 12 Tryz.func99 rfl Tryz.ntmps99 rfl fun C hC=>?_
 unfold Qgh at h
 refine Qa hC [.n 6] rfl tt_ ?_
 refine AK.meetX (fun σ=>σ=⟨[(1,.b ((decide ((v1.Places.length:Int)≤64))&&(decide ((v1.Tasks.length:Int)≤64))))],[(200000,.var (Qd v1))]⟩) ?_ ?_
 ·refine Qa hC [.n 3,.o (.ln v1.Places.length),.n 2] rfl ⟨tt_,Qf⟩ ?_
  rcases QN (decide ((v1.Places.length:Int)≤64))with hc4 | hc4
  ·refine Qa hC [.say 6 (.b true),.n 2,.o (.ln v1.Tasks.length),.n 4,.say 1 (.b ((decide ((v1.Places.length:Int)≤64))&&(decide ((v1.Tasks.length:Int)≤64)))),.keep [1] [200000]] rfl ⟨⟨⟨tt_,(congrArg V.b hc4)⟩,Qf⟩,(congrArg V.b (andT hc4 rfl))⟩ ?_
   exact AK.met rfl
  ·refine Qa hC [.say 6 (.b false),.n 7,.say 1 (.b ((decide ((v1.Places.length:Int)≤64))&&(decide ((v1.Tasks.length:Int)≤64)))),.keep [1] [200000]] rfl ⟨⟨tt_,(congrArg V.b hc4)⟩,(congrArg V.b (andF hc4 rfl))⟩ ?_
   exact AK.met rfl
 ·rintro σ rfl
  refine Qa hC [.n 2,.keep [1] [200000]] rfl tt_ ?_
  cases h
  exact AK.done (ex_ [_] (an_ (an_ rfl tt_) (gives ⟨rfl,tt_⟩)))
def Qak (l1:(List QC))(k2:Int):Option Bool:=
 some ((decide (0≤k2))&&(decide (k2<(l1.length:Int))))
theorem QbF (l1:(List QC))(k2:Int){r:Bool}(h:Qak l1 k2=some r):Qc Tryz.prog 101 [.sl 3 (l1.map Qv),.i .i64 k2] [] (Gives (.b r) []):=by
 refine Qc.walk 13 Tryz.func101 rfl Tryz.ntmps101 rfl fun C hC=>?_
 unfold Qak at h
 refine Qa hC [.n 6] rfl tt_ ?_
 refine AK.meetX (fun σ=>σ=⟨[(4,.b ((decide (0≤k2))&&(decide (k2<(l1.length:Int)))))],[]⟩) ?_ ?_
 ·refine Qa hC [.n 4] rfl tt_ ?_
  rcases QN (decide (0≤k2))with hc5 | hc5
  ·refine Qa hC [.say 7 (.b true),.n 2,.o (.ln l1.length),.n 4,.say 4 (.b ((decide (0≤k2))&&(decide (k2<(l1.length:Int))))),.keep [4] []] rfl ⟨⟨⟨tt_,(congrArg V.b hc5)⟩,Qf⟩,(congrArg V.b (andT hc5 rfl))⟩ ?_
   exact AK.met rfl
  ·refine Qa hC [.say 7 (.b false),.n 7,.say 4 (.b ((decide (0≤k2))&&(decide (k2<(l1.length:Int))))),.keep [4] []] rfl ⟨⟨tt_,(congrArg V.b hc5)⟩,(congrArg V.b (andF hc5 rfl))⟩ ?_
   exact AK.met rfl
 ·rintro σ rfl
  refine Qa hC [.n 2,.keep [4] []] rfl tt_ ?_
  cases h
  exact AK.done (ex_ [_] (an_ (an_ rfl tt_) (gives tt_)))
def Qkz (v1:TNet):Option Bool:=
 (Qak v1.Places v1.From).bind fun x5=>
 bif x5 then
 (Qak v1.Places v1.To).bind fun x7=>
 some x7
 else
 some false
def QfG (x3:Bool):Option Bool:=
 some x3
def Qh7 (v1:TNet):Option Bool:=
 (Qkz v1).bind (fun x3=>QfG x3)
theorem Qq1 (v1:TNet){r:Bool}(h:Qh7 v1=some r):Qc Tryz.prog 100 [.loc 200000 0 0] [(200000,.var (Qd v1))] (Gives (.b r) [(200000,.var (Qd v1))]):=by
 refine Qc.walk 14 Tryz.func100 rfl Tryz.ntmps100 rfl fun C hC=>?_
 unfold Qh7 at h
 refine Qa hC [.n 6] rfl tt_ ?_
 obtain⟨x3,hv4,h⟩:=Qb h
 replace h:QfG x3=some r:=h
 refine AK.meetX (fun σ=>σ=⟨[(1,.b x3)],[(200000,.var (Qd v1))]⟩) ?_ ?_
 ·replace h:=hv4
  unfold Qkz at h
  obtain⟨x5,hx5,h⟩:=Qb h
  refine Qa hC [.n 5,.o (.c false [.d,.d] (.b x5)),.n 1] rfl ⟨tt_,(QbF _ _ hx5)⟩ ?_
  rcases bifE h with⟨hc6,h⟩|⟨hc6,h⟩
  ·obtain⟨x7,hx7,h⟩:=Qb h
   refine Qa hC [.say 7 (.b true),.n 4,.o (.c false [.d,.d] (.b x7)),.n 3,.keep [1] [200000]] rfl ⟨⟨tt_,(congrArg V.b hc6)⟩,(QbF _ _ hx7)⟩ ?_
   cases h
   exact AK.met rfl
  ·refine Qa hC [.say 7 (.b false),.n 8,.keep [1] [200000]] rfl ⟨tt_,(congrArg V.b hc6)⟩ ?_
   cases h
   exact AK.met rfl
 ·rintro σ rfl
  replace h:QfG x3=some r:=h
  unfold QfG at h
  refine Qa hC [.n 2,.keep [1] [200000]] rfl tt_ ?_
  cases h
  exact AK.done (ex_ [_] (an_ (an_ rfl tt_) (gives ⟨rfl,tt_⟩)))
def Qh8 (v1:TNet):Option Bool:=
 some (v1.From != v1.To)
theorem Qq2 (v1:TNet){r:Bool}(h:Qh8 v1=some r):Qc Tryz.prog 102 [.loc 200000 0 0] [(200000,.var (Qd v1))] (Gives (.b r) [(200000,.var (Qd v1))]):=by
 refine Qc.walk 7 Tryz.func102 rfl Tryz.ntmps102 rfl fun C hC=>?_
 unfold Qh8 at h
 refine Qa hC [.n 16,.keep [1] [200000]] rfl tt_ ?_
 cases h
 exact AK.done (ex_ [_] (an_ (an_ rfl tt_) (gives ⟨rfl,tt_⟩)))
def Qgi (v1:TNet)(v2:Int)(v3:Int)(v4:Int):Option Int:=
 (Qgh v1).bind fun x7=>
 bif (!x7)then
 some v2
 else
 (Qh7 v1).bind fun x9=>
 bif (!x9)then
 some v3
 else
 (Qh8 v1).bind fun x11=>
 bif (!x11)then
 some v4
 else
 some 0
theorem Qq3 (v1:TNet)(v2:Int)(v3:Int)(v4:Int){r:Int}(h:Qgi v1 v2 v3 v4=some r):Qc Tryz.prog 98 [.own 200000 3] [(200000,.var [.clo (.func 99) [] [.loc 200001 0 0],.i .i64 v2,.clo (.func 100) [] [.loc 200001 0 0],.i .i64 v3,.clo (.func 102) [] [.loc 200001 0 0],.i .i64 v4]),(200001,.var (Qd v1))] (Gives (.i .i64 r) [(200000,.var [.clo (.func 99) [] [.loc 200001 0 0],.i .i64 v2,.clo (.func 100) [] [.loc 200001 0 0],.i .i64 v3,.clo (.func 102) [] [.loc 200001 0 0],.i .i64 v4]),(200001,.var (Qd v1))]):=by
 refine Qc.walk 18 Tryz.func98 rfl Tryz.ntmps98 rfl fun C hC=>?_
 unfold Qgi at h
 refine Qa hC [.n 14] rfl tt_ ?_
 refine AK.loopN 4 (AK.rnd ?_)
 obtain⟨x7,hx7,h⟩:=Qb h
 refine Qa hC [.n 2,.v .no [] (.b true),.n 10,.o (.any (.loc 200000 0 0) none),.n 3,.sayO 4 (.var [.clo (.func 99) [] [.loc 200001 0 0],.i .i64 v2]),.n 6,.cm (.clo) [(200000,200001)] [(200001,200000)] [] [.d] [(200000,.var (Qd v1))] (.b x7),.n 3] rfl ⟨⟨⟨⟨tt_,rfl⟩,(fun σ h1 h2 _=>Stp.idxV rfl rfl (bleN hC.n rfl) (h1 _ _ rfl) (h1 _ _ rfl) (Qo.es rfl) (h2 _ _ rfl) (by decide))⟩,rfl⟩,(Qq0 _ hx7)⟩ ?_
 rcases bifE h with⟨hc8,h⟩|⟨hc8,h⟩
 ·refine Qa hC [.br true,.n 13,.keep [2] [200000,200001]] rfl ⟨tt_,hc8⟩ ?_
  cases h
  exact AK.done (ex_ [_] (an_ (an_ rfl tt_) (gives ⟨rfl,rfl,tt_⟩)))
 ·refine Qa hC [.br false,.n 4,.v .no [] (.i .i64 1),.n 2] rfl ⟨⟨tt_,hc8⟩,rfl⟩ ?_
  refine AK.met (AK.rnd ?_)
  obtain⟨x9,hx9,h⟩:=Qb h
  refine Qa hC [.n 2,.v .no [] (.b true),.n 10,.o (.any (.loc 200000 0 2) none),.n 1,.kill 4,.n 2,.sayO 4 (.var [.clo (.func 100) [] [.loc 200001 0 0],.i .i64 v3]),.n 6,.cm (.clo) [(200000,200001)] [(200001,200000)] [] [.d] [(200000,.var (Qd v1))] (.b x9),.n 3] rfl ⟨⟨⟨⟨tt_,rfl⟩,(fun σ h1 h2 _=>Stp.idxV rfl rfl (bleN hC.n rfl) (h1 _ _ rfl) (h1 _ _ rfl) (Qo.es rfl) (h2 _ _ rfl) (by decide))⟩,rfl⟩,(Qq1 _ hx9)⟩ ?_
  rcases bifE h with⟨hc10,h⟩|⟨hc10,h⟩
  ·refine Qa hC [.br true,.n 13,.keep [2] [200000,200001]] rfl ⟨tt_,hc10⟩ ?_
   cases h
   exact AK.done (ex_ [_] (an_ (an_ rfl tt_) (gives ⟨rfl,rfl,tt_⟩)))
  ·refine Qa hC [.br false,.n 4,.v .no [] (.i .i64 2),.n 2] rfl ⟨⟨tt_,hc10⟩,rfl⟩ ?_
   refine AK.met (AK.rnd ?_)
   obtain⟨x11,hx11,h⟩:=Qb h
   refine Qa hC [.n 2,.v .no [] (.b true),.n 10,.o (.any (.loc 200000 0 4) none),.n 1,.kill 4,.n 2,.sayO 4 (.var [.clo (.func 102) [] [.loc 200001 0 0],.i .i64 v4]),.n 6,.cm (.clo) [(200000,200001)] [(200001,200000)] [] [.d] [(200000,.var (Qd v1))] (.b x11),.n 3] rfl ⟨⟨⟨⟨tt_,rfl⟩,(fun σ h1 h2 _=>Stp.idxV rfl rfl (bleN hC.n rfl) (h1 _ _ rfl) (h1 _ _ rfl) (Qo.es rfl) (h2 _ _ rfl) (by decide))⟩,rfl⟩,(Qq2 _ hx11)⟩ ?_
   rcases bifE h with⟨hc12,h⟩|⟨hc12,h⟩
   ·refine Qa hC [.br true,.n 13,.keep [2] [200000,200001]] rfl ⟨tt_,hc12⟩ ?_
    cases h
    exact AK.done (ex_ [_] (an_ (an_ rfl tt_) (gives ⟨rfl,rfl,tt_⟩)))
   ·refine Qa hC [.br false,.n 4,.v .no [] (.i .i64 3),.n 2] rfl ⟨⟨tt_,hc12⟩,rfl⟩ ?_
    refine AK.met (AK.rnd ?_)
    refine Qa hC [.n 2,.v .no [] (.b false),.n 15,.keep [2] [200000,200001]] rfl ⟨tt_,rfl⟩ ?_
    cases h
    exact AK.done (ex_ [_] (an_ (an_ rfl tt_) (gives ⟨rfl,rfl,tt_⟩)))
def Qhk (l1:(List QB)):Option Bool:=
 (Qe7 l1).bind fun x3=>
 some x3.2
theorem Qqk (l1:(List QB)){r:Bool}(h:Qhk l1=some r):Qc Tryz.prog 156 [.sl 7 (l1.map Qw)] [] (Gives (.b r) []):=by
 refine Qc.walk 11 Tryz.func156 rfl Tryz.ntmps156 rfl fun C hC=>?_
 unfold Qhk at h
 obtain⟨x3,hx3,h⟩:=Qb h
 refine Qa hC [.n 8,.o (.c false [.d] (.tup [.sl 1 (x3.1.map Qe),.b x3.2])),.n 14,.keep [2] []] rfl ⟨tt_,(Qmd _ hx3)⟩ ?_
 cases h
 exact AK.done (ex_ [_] (an_ (an_ rfl tt_) (gives tt_)))
def QdI (v1:TNet)(v2:Int):Option Bool:=
 (chk (decide (0≤(w64 (v2+1)))&&decide (0≤(w64 (v2+1)).toNat)&&decide ((w64 (v2+1)).toNat≤v1.Colours.length))).bind fun _=>
 (Qhk ((v1.Colours.drop 0).take ((w64 (v2+1)).toNat-0))).bind fun x5=>
 some x5
theorem QnK (v1:TNet)(v2:Int){r:Bool}(h:QdI v1 v2=some r):Qc Tryz.prog 155 [.loc 200000 0 0,.loc 200001 0 0] [(200000,.var (Qd v1)),(200001,.var (Qe v2))] (Gives (.b r) [(200000,.var (Qd v1)),(200001,.var (Qe v2))]):=by
 refine Qc.walk 9 Tryz.func155 rfl Tryz.ntmps155 rfl fun C hC=>?_
 unfold QdI at h
 obtain⟨_,hk4,h⟩:=Qb h
 replace hk4:=chkE hk4
 obtain⟨x5,hx5,h⟩:=Qb h
 refine Qa hC [.n 11,.o (.any (.sl 7 (((v1.Colours.drop 0).take ((w64 (v2+1)).toNat-0)).map Qw)) none),.o (.c false [.d] (.b x5)),.n 4,.keep [2] [200000,200001]] rfl ⟨⟨tt_,(fun σ h1 h2 _=>Stp.sliceD rfl rfl (bleN hC.n rfl) (h1 _ _ rfl) (Qo.es rfl) Bnd.no (Bnd.val (h1 _ _ rfl) (of_decide_eq_true (Qpo hk4)) rfl) (of_decide_eq_true (Qpp hk4)) (Nat.le_trans (of_decide_eq_true (Qpq hk4)) (Nat.le_of_eq Qf.symm)) QrF)⟩,(Qqk _ hx5)⟩ ?_
 cases h
 exact AK.done (ex_ [_] (an_ (an_ rfl tt_) (gives ⟨rfl,rfl,tt_⟩)))
def QkA (x:ByteArray):Option (List ByteArray):=(chk (QtK x)).bind fun _=>some (Qgc x)
theorem QoV (x:ByteArray){r:List ByteArray}(h:QkA x=some r):Qc Tryz.prog 263 [.s x] [] (Gives (.own 30000 r.length) [(30000,.arr 1 (r.map QdF))]):=by
 unfold QkA at h
 obtain⟨_,h1,h⟩:=Qb h
 cases h
 exact Qs4 QvS (by kernel_rfl) (by kernel_rfl) x (chkE h1)
def Qgj  : Option (List ByteArray):=
 (QkA (⟨#[99,111,108,111,117,114,32,112,108,97,99,101,32,116,97,115,107,32,118,97,114,32,119,104,101,110,32,106,111,105,110,32,115,112,108,105,116,32,105,110,32,111,117,116,32,99,97,110,99,101,108,32,97,102,116,101,114,32,109,97,110,121,32,102,114,111,109,32,116,111,32,105,110,116,32,101,110,117,109,32,112,97,105,114,32,97,110,100,32,120,111,114,32,111,114,32,105,102]⟩:ByteArray)).bind fun x2=>
 some x2
theorem Qq4  {r:(List ByteArray)}(h:Qgj  = some r):Qc Tryz.prog 253 [] [] (Gives (.own 30000 r.length) [(30000,.arr 1 (r.map QdF))]):=by
 refine Qc.walk 2 Tryz.func253 rfl Tryz.ntmps253 rfl fun C hC=>?_
 unfold Qgj at h
 obtain⟨x2,hx2,h⟩:=Qb h
 refine Qa hC [.n 7,.o (.co false [.d] 1 (x2.map QdF) x2.length),.n 4,.keep [0] [1],.ren 1 30000,.keep [0] [30000]] rfl ⟨tt_,⟨(QoV _ hx2),Qf,.inl rfl⟩⟩ ?_
 cases h
 exact AK.done (ex_ [_] (an_ (an_ rfl tt_) (gives ⟨rfl,tt_⟩)))
def Qav (s1:(List ByteArray))(v2:ByteArray)(x5:Int):Option (Int⊕(Int⊕Unit)):=
 bif (decide (x5<(s1.length:Int)))then
 (idx s1 x5).bind fun e9=>
 bif (QhI v2 e9)then
 some (.inr (.inl x5))
 else
 some (.inl (w64 (x5+1)))
 else
 some (.inr (.inr ()))
def QaU (x7:Int):Option Int:=
 some x7
def QaV : Option Int:=
 some (-1)
def Qbn (s1:(List ByteArray))(v2:ByteArray):Option Int:=
 (QA (fun st=>Qav s1 v2 st) 0).bind (Sum.elim (fun q=>QaU q) (fun q=>QaV))
theorem QkJ (s1:(List ByteArray))(v2:ByteArray){r:Int}(h:Qbn s1 v2=some r):Qc Tryz.prog 262 [.sl 1 (s1.map QdF),.s v2] [] (Gives (.i .i64 r) []):=by
 refine Qc.walk 19 Tryz.func262 rfl Tryz.ntmps262 rfl fun C hC=>?_
 unfold Qbn at h
 refine Qa hC [.n 9,.o (.ln s1.length),.n 4,.keep [0,1,7,8] []] rfl ⟨tt_,Qf⟩ ?_
 obtain⟨o11,hl11,h⟩:=Qb h
 refine AK.loop (body:=(fun st=>Qav s1 v2 st)) (fun st σ=>σ=⟨[(0,.sl 1 (s1.map QdF)),(1,.s v2),(7,.i .i64 (s1.length:Int)),(8,.i .i64 st)],[]⟩) (Sum.elim (fun q e σ=>e=.ret∧σ=⟨[(4,.i .i64 q)],[]⟩) (fun q e σ=>e=.exit 0∧σ=⟨[],[]⟩)) hl11 rfl ?_ ?_
 ·rintro x5 o σ rfl h
  replace h:Qav s1 v2 x5=some o:=h
  unfold Qav at h
  refine Qa hC [.n 6] rfl tt_ ?_
  rcases bifE h with⟨hc8,h⟩|⟨hc8,h⟩
  ·obtain⟨e9,he9,h⟩:=Qb h
   refine Qa hC [.br true,.n 15,.o (.row (QdF e9)),.n 4] rfl ⟨⟨tt_,hc8⟩,(idxM he9)⟩ ?_
   rcases bifE h with⟨hc10,h⟩|⟨hc10,h⟩
   ·refine Qa hC [.br true,.n 9,.keep [4] []] rfl ⟨tt_,hc10⟩ ?_
    cases h
    exact rndR rfl (an_ rfl rfl)
   ·refine Qa hC [.br false,.n 7,.keep [0,1,7,8] []] rfl ⟨tt_,hc10⟩ ?_
    cases h
    exact rndN rfl rfl
  ·refine Qa hC [.br false,.n 2,.keep [] []] rfl ⟨tt_,hc8⟩ ?_
   cases h
   exact rndX rfl (an_ rfl rfl)
 ·rcases o11 with(x7 | _)
  ·replace h:QaU x7=some r:=h
   unfold QaU at h
   rintro e σ ⟨rfl,rfl⟩
   refine Qa hC [.n 2,.keep [4] []] rfl tt_ ?_
   cases h
   exact AK.done (ex_ [_] (an_ (an_ rfl tt_) (gives tt_)))
  ·replace h:QaV=some r:=h
   unfold QaV at h
   rintro e σ ⟨rfl,rfl⟩
   refine Qa hC [.n 8,.keep [4] []] rfl tt_ ?_
   cases h
   exact AK.done (ex_ [_] (an_ (an_ rfl tt_) (gives tt_)))
def QaW (s1:(List ByteArray))(v2:ByteArray):Option Bool:=
 (Qbn s1 v2).bind fun x4=>
 some (decide (0≤x4))
theorem QjF (s1:(List ByteArray))(v2:ByteArray){r:Bool}(h:QaW s1 v2=some r):Qc Tryz.prog 252 [.sl 1 (s1.map QdF),.s v2] [] (Gives (.b r) []):=by
 refine Qc.walk 9 Tryz.func252 rfl Tryz.ntmps252 rfl fun C hC=>?_
 unfold QaW at h
 obtain⟨x4,hx4,h⟩:=Qb h
 refine Qa hC [.n 9,.o (.c false [.d,.d] (.i .i64 x4)),.n 5,.keep [4] []] rfl ⟨tt_,(QkJ _ _ hx4)⟩ ?_
 cases h
 exact AK.done (ex_ [_] (an_ (an_ rfl tt_) (gives tt_)))
def Qi1 (s1:ByteArray):Option Bool:=
 (Qgj).bind fun x3=>
 (QaW x3 s1).bind fun x4=>
 some x4
theorem QrQ (s1:ByteArray){r:Bool}(h:Qi1 s1=some r):Qc Tryz.prog 209 [.s s1] [] (Gives (.b r) []):=by
 refine Qc.walk 6 Tryz.func209 rfl Tryz.ntmps209 rfl fun C hC=>?_
 unfold Qi1 at h
 obtain⟨x3,hx3,h⟩:=Qb h
 obtain⟨x4,hx4,h⟩:=Qb h
 refine Qa hC [.n 7,.o (.co false [] 1 (x3.map QdF) x3.length),.n 1,.o (.c true [.o (x3.map QdF),.d] (.b x4)),.n 4,.keep [2] []] rfl ⟨⟨tt_,⟨(Qq4  hx3),Qf,.inl rfl⟩⟩,⟨(Qp7 rfl),(QjF _ _ hx4)⟩⟩ ?_
 cases h
 exact AK.done (ex_ [_] (an_ (an_ rfl tt_) (gives tt_)))
def Qle (s1:ByteArray):Option Bool:=
 (Qex s1).bind fun x5=>
 bif x5 then
 (Qi1 s1).bind fun x7=>
 some (!x7)
 else
 some false
def Qgv (x3:Bool):Option Bool:=
 some x3
def Qdl (s1:ByteArray):Option Bool:=
 (Qle s1).bind (fun x3=>Qgv x3)
theorem Qgw (s1:ByteArray){r:Bool}(h:Qdl s1=some r):Qc Tryz.prog 152 [.s s1] [] (Gives (.b r) []):=by
 refine Qc.walk 10 Tryz.func152 rfl Tryz.ntmps152 rfl fun C hC=>?_
 unfold Qdl at h
 refine Qa hC [.n 6] rfl tt_ ?_
 obtain⟨x3,hv4,h⟩:=Qb h
 replace h:Qgv x3=some r:=h
 refine AK.meetX (fun σ=>σ=⟨[(2,.b x3)],[]⟩) ?_ ?_
 ·replace h:=hv4
  unfold Qle at h
  obtain⟨x5,hx5,h⟩:=Qb h
  refine Qa hC [.n 2,.o (.c false [.d] (.b x5)),.n 1] rfl ⟨tt_,(Qko _ hx5)⟩ ?_
  rcases bifE h with⟨hc6,h⟩|⟨hc6,h⟩
  ·obtain⟨x7,hx7,h⟩:=Qb h
   refine Qa hC [.say 5 (.b true),.n 1,.o (.c false [.d] (.b x7)),.n 4,.keep [2] []] rfl ⟨⟨tt_,(congrArg V.b hc6)⟩,(QrQ _ hx7)⟩ ?_
   cases h
   exact AK.met rfl
  ·refine Qa hC [.say 5 (.b false),.n 6,.keep [2] []] rfl ⟨tt_,(congrArg V.b hc6)⟩ ?_
   cases h
   exact AK.met rfl
 ·rintro σ rfl
  replace h:Qgv x3=some r:=h
  unfold Qgv at h
  refine Qa hC [.n 2,.keep [2] []] rfl tt_ ?_
  cases h
  exact AK.done (ex_ [_] (an_ (an_ rfl tt_) (gives tt_)))
def Qc0 (s1:ByteArray):Option Bool:=
 (Qdl s1).bind fun x3=>
 some (!x3)
theorem QmY (s1:ByteArray){r:Bool}(h:Qc0 s1=some r):Qc Tryz.prog 154 [.s s1] [] (Gives (.b r) []):=by
 refine Qc.walk 6 Tryz.func154 rfl Tryz.ntmps154 rfl fun C hC=>?_
 unfold Qc0 at h
 obtain⟨x3,hx3,h⟩:=Qb h
 refine Qa hC [.n 8,.o (.c false [.d] (.b x3)),.n 5,.keep [2] []] rfl ⟨tt_,(Qgw _ hx3)⟩ ?_
 cases h
 exact AK.done (ex_ [_] (an_ (an_ rfl tt_) (gives tt_)))
def Q8 (s1:(List ByteArray))(x4:Int):Option (Int⊕(Int⊕Unit)):=
 bif (decide (x4<(s1.length:Int)))then
 (idx s1 x4).bind fun e8=>
 (Qc0 e8).bind fun x9=>
 bif x9 then
 some (.inr (.inl x4))
 else
 some (.inl (w64 (x4+1)))
 else
 some (.inr (.inr ()))
def QaA (x6:Int):Option Int:=
 some x6
def QaB : Option Int:=
 some (-1)
def QaO (s1:(List ByteArray)):Option Int:=
 (QA (fun st=>Q8 s1 st) 0).bind (Sum.elim (fun q=>QaA q) (fun q=>QaB))
theorem Qjm (s1:(List ByteArray)){r:Int}(h:QaO s1=some r):Qc Tryz.prog 210 [.sl 1 (s1.map QdF),.clo (.func 154) [] []] [] (Gives (.i .i64 r) []):=by
 refine Qc.walk 19 Tryz.func210 rfl Tryz.ntmps210 rfl fun C hC=>?_
 unfold QaO at h
 refine Qa hC [.n 9,.o (.ln s1.length),.n 4,.keep [0,1,7,8] []] rfl ⟨tt_,Qf⟩ ?_
 obtain⟨o11,hl11,h⟩:=Qb h
 refine AK.loop (body:=(fun st=>Q8 s1 st)) (fun st σ=>σ=⟨[(0,.sl 1 (s1.map QdF)),(1,.clo (.func 154) [] []),(7,.i .i64 (s1.length:Int)),(8,.i .i64 st)],[]⟩) (Sum.elim (fun q e σ=>e=.ret∧σ=⟨[(4,.i .i64 q)],[]⟩) (fun q e σ=>e=.exit 0∧σ=⟨[],[]⟩)) hl11 rfl ?_ ?_
 ·rintro x4 o σ rfl h
  replace h:Q8 s1 x4=some o:=h
  unfold Q8 at h
  refine Qa hC [.n 6] rfl tt_ ?_
  rcases bifE h with⟨hc7,h⟩|⟨hc7,h⟩
  ·obtain⟨e8,he8,h⟩:=Qb h
   obtain⟨x9,hx9,h⟩:=Qb h
   refine Qa hC [.br true,.n 15,.o (.row (QdF e8)),.n 1,.o (.c false [.d] (.b x9)),.n 2] rfl ⟨⟨⟨tt_,hc7⟩,(idxM he8)⟩,(QmY _ hx9)⟩ ?_
   rcases bifE h with⟨hc10,h⟩|⟨hc10,h⟩
   ·refine Qa hC [.br true,.n 9,.keep [4] []] rfl ⟨tt_,hc10⟩ ?_
    cases h
    exact rndR rfl (an_ rfl rfl)
   ·refine Qa hC [.br false,.n 7,.keep [0,1,7,8] []] rfl ⟨tt_,hc10⟩ ?_
    cases h
    exact rndN rfl rfl
  ·refine Qa hC [.br false,.n 2,.keep [] []] rfl ⟨tt_,hc7⟩ ?_
   cases h
   exact rndX rfl (an_ rfl rfl)
 ·rcases o11 with(x6 | _)
  ·replace h:QaA x6=some r:=h
   unfold QaA at h
   rintro e σ ⟨rfl,rfl⟩
   refine Qa hC [.n 2,.keep [4] []] rfl tt_ ?_
   cases h
   exact AK.done (ex_ [_] (an_ (an_ rfl tt_) (gives tt_)))
  ·replace h:QaB=some r:=h
   unfold QaB at h
   rintro e σ ⟨rfl,rfl⟩
   refine Qa hC [.n 8,.keep [4] []] rfl tt_ ?_
   cases h
   exact AK.done (ex_ [_] (an_ (an_ rfl tt_) (gives tt_)))
def QaC (s1:(List ByteArray)):Option Bool:=
 (QaO s1).bind fun x3=>
 some (decide (0≤x3))
theorem Qiu (s1:(List ByteArray)){r:Bool}(h:QaC s1=some r):Qc Tryz.prog 153 [.sl 1 (s1.map QdF),.clo (.func 154) [] []] [] (Gives (.b r) []):=by
 refine Qc.walk 9 Tryz.func153 rfl Tryz.ntmps153 rfl fun C hC=>?_
 unfold QaC at h
 obtain⟨x3,hx3,h⟩:=Qb h
 refine Qa hC [.n 9,.cm (.fn) [] [] [] [.d,.d] [] (.i .i64 x3),.n 5,.keep [4] []] rfl ⟨tt_,(Qjm _ hx3)⟩ ?_
 cases h
 exact AK.done (ex_ [_] (an_ (an_ rfl tt_) (gives tt_)))
def QgR (v1:QB):Option Bool:=
 (Qdl v1.Name).bind fun x5=>
 bif x5 then
 bif (v1.Kind != 2)then
 some true
 else
 (QaC v1.Names).bind fun x8=>
 some (!x8)
 else
 some false
def QcC (x3:Bool):Option Bool:=
 some x3
def QdJ (v1:QB):Option Bool:=
 (QgR v1).bind (fun x3=>QcC x3)
theorem QnL (v1:QB){r:Bool}(h:QdJ v1=some r):Qc Tryz.prog 151 [.loc 200000 0 0] [(200000,.var (Qw v1))] (Gives (.b r) [(200000,.var (Qw v1))]):=by
 refine Qc.walk 16 Tryz.func151 rfl Tryz.ntmps151 rfl fun C hC=>?_
 unfold QdJ at h
 refine Qa hC [.n 6] rfl tt_ ?_
 obtain⟨x3,hv4,h⟩:=Qb h
 replace h:QcC x3=some r:=h
 refine AK.meetX (fun σ=>σ=⟨[(1,.b x3)],[(200000,.var (Qw v1))]⟩) ?_ ?_
 ·replace h:=hv4
  unfold QgR at h
  obtain⟨x5,hx5,h⟩:=Qb h
  refine Qa hC [.n 3,.o (.c false [.d] (.b x5)),.n 1] rfl ⟨tt_,(Qgw _ hx5)⟩ ?_
  rcases bifE h with⟨hc6,h⟩|⟨hc6,h⟩
  ·refine Qa hC [.say 5 (.b true),.n 4] rfl ⟨tt_,(congrArg V.b hc6)⟩ ?_
   rcases bifE h with⟨hc7,h⟩|⟨hc7,h⟩
   ·refine Qa hC [.say 9 (.b true),.n 8,.keep [1] [200000]] rfl ⟨tt_,(congrArg V.b hc7)⟩ ?_
    cases h
    exact AK.met rfl
   ·obtain⟨x8,hx8,h⟩:=Qb h
    refine Qa hC [.say 9 (.b false),.n 2,.cm (.fn) [] [] [] [.d,.d] [] (.b x8),.n 5,.keep [1] [200000]] rfl ⟨⟨tt_,(congrArg V.b hc7)⟩,(Qiu _ hx8)⟩ ?_
    cases h
    exact AK.met rfl
  ·refine Qa hC [.say 5 (.b false),.n 12,.keep [1] [200000]] rfl ⟨tt_,(congrArg V.b hc6)⟩ ?_
   cases h
   exact AK.met rfl
 ·rintro σ rfl
  replace h:QcC x3=some r:=h
  unfold QcC at h
  refine Qa hC [.n 2,.keep [1] [200000]] rfl tt_ ?_
  cases h
  exact AK.done (ex_ [_] (an_ (an_ rfl tt_) (gives ⟨rfl,tt_⟩)))
def QfH (v1:TNet)(v2:Int)(v3:Int)(v4:QB)(v5:Int):Option Int:=
 (QdI v1 v2).bind fun x8=>
 bif (!x8)then
 some v3
 else
 (QdJ v4).bind fun x10=>
 bif (!x10)then
 some v5
 else
 some 0
theorem QoW (v1:TNet)(v2:Int)(v3:Int)(v4:QB)(v5:Int){r:Int}(h:QfH v1 v2 v3 v4 v5=some r):Qc Tryz.prog 98 [.own 200000 2] [(200000,.var [.clo (.func 155) [] [.loc 200001 0 0,.loc 200002 0 0],.i .i64 v3,.clo (.func 151) [] [.loc 200003 0 0],.i .i64 v5]),(200001,.var (Qd v1)),(200002,.var (Qe v2)),(200003,.var (Qw v4))] (Gives (.i .i64 r) [(200000,.var [.clo (.func 155) [] [.loc 200001 0 0,.loc 200002 0 0],.i .i64 v3,.clo (.func 151) [] [.loc 200003 0 0],.i .i64 v5]),(200001,.var (Qd v1)),(200002,.var (Qe v2)),(200003,.var (Qw v4))]):=by
 refine Qc.walk 18 Tryz.func98 rfl Tryz.ntmps98 rfl fun C hC=>?_
 unfold QfH at h
 refine Qa hC [.n 14] rfl tt_ ?_
 refine AK.loopN 3 (AK.rnd ?_)
 obtain⟨x8,hx8,h⟩:=Qb h
 refine Qa hC [.n 2,.v .no [] (.b true),.n 10,.o (.any (.loc 200000 0 0) none),.n 3,.sayO 4 (.var [.clo (.func 155) [] [.loc 200001 0 0,.loc 200002 0 0],.i .i64 v3]),.n 6,.cm (.clo) [(200000,200001),(200001,200002)] [(200001,200000),(200002,200001)] [] [.d,.d] [(200000,.var (Qd v1)),(200001,.var (Qe v2))] (.b x8),.n 3] rfl ⟨⟨⟨⟨tt_,rfl⟩,(fun σ h1 h2 _=>Stp.idxV rfl rfl (bleN hC.n rfl) (h1 _ _ rfl) (h1 _ _ rfl) (Qo.es rfl) (h2 _ _ rfl) (by decide))⟩,rfl⟩,(QnK _ _ hx8)⟩ ?_
 rcases bifE h with⟨hc9,h⟩|⟨hc9,h⟩
 ·refine Qa hC [.br true,.n 13,.keep [2] [200000,200001,200002,200003]] rfl ⟨tt_,hc9⟩ ?_
  cases h
  exact AK.done (ex_ [_] (an_ (an_ rfl tt_) (gives ⟨rfl,rfl,rfl,rfl,tt_⟩)))
 ·refine Qa hC [.br false,.n 4,.v .no [] (.i .i64 1),.n 2] rfl ⟨⟨tt_,hc9⟩,rfl⟩ ?_
  refine AK.met (AK.rnd ?_)
  obtain⟨x10,hx10,h⟩:=Qb h
  refine Qa hC [.n 2,.v .no [] (.b true),.n 10,.o (.any (.loc 200000 0 2) none),.n 1,.kill 4,.n 2,.sayO 4 (.var [.clo (.func 151) [] [.loc 200003 0 0],.i .i64 v5]),.n 6,.cm (.clo) [(200000,200003)] [(200003,200000)] [] [.d] [(200000,.var (Qw v4))] (.b x10),.n 3] rfl ⟨⟨⟨⟨tt_,rfl⟩,(fun σ h1 h2 _=>Stp.idxV rfl rfl (bleN hC.n rfl) (h1 _ _ rfl) (h1 _ _ rfl) (Qo.es rfl) (h2 _ _ rfl) (by decide))⟩,rfl⟩,(QnL _ hx10)⟩ ?_
  rcases bifE h with⟨hc11,h⟩|⟨hc11,h⟩
  ·refine Qa hC [.br true,.n 13,.keep [2] [200000,200001,200002,200003]] rfl ⟨tt_,hc11⟩ ?_
   cases h
   exact AK.done (ex_ [_] (an_ (an_ rfl tt_) (gives ⟨rfl,rfl,rfl,rfl,tt_⟩)))
  ·refine Qa hC [.br false,.n 4,.v .no [] (.i .i64 2),.n 2] rfl ⟨⟨tt_,hc11⟩,rfl⟩ ?_
   refine AK.met (AK.rnd ?_)
   refine Qa hC [.n 2,.v .no [] (.b false),.n 15,.keep [2] [200000,200001,200002,200003]] rfl ⟨tt_,rfl⟩ ?_
   cases h
   exact AK.done (ex_ [_] (an_ (an_ rfl tt_) (gives ⟨rfl,rfl,rfl,rfl,tt_⟩)))
def QeM (k1:Int)(c2:QB)(v3:TNet):Option Int:=
 (QfH v3 k1 8 c2 8).bind fun x5=>
 some x5
theorem QoE (k1:Int)(c2:QB)(v3:TNet){r:Int}(h:QeM k1 c2 v3=some r):Qc Tryz.prog 150 [.i .i64 k1,.agg (Qw c2),.loc 200000 0 0] [(200000,.var (Qd v3))] (Gives (.i .i64 r) [(200000,.var (Qd v3))]):=by
 refine Qc.walk 16 Tryz.func150 rfl Tryz.ntmps150 rfl fun C hC=>?_
 unfold QeM at h
 obtain⟨x5,hx5,h⟩:=Qb h
 refine Qa hC [.n 22,.v .no [] (.agg [.clo (.func 155) [] [.loc 200000 0 0,.loc 3 0 0],.i .i64 8]),.n 1,.v .no [] (.agg [.clo (.func 151) [] [.loc 4 0 0],.i .i64 8]),.o (.any (.own 14 2) (some (.var [.clo (.func 155) [] [.loc 200000 0 0,.loc 3 0 0],.i .i64 8,.clo (.func 151) [] [.loc 4 0 0],.i .i64 8]))),.cm (.fn) [(200000,14),(200001,200000),(200002,3),(200003,4)] [(14,200000),(200000,200001),(3,200002),(4,200003)] [] [.d] [(200000,.var [.clo (.func 155) [] [.loc 200001 0 0,.loc 200002 0 0],.i .i64 8,.clo (.func 151) [] [.loc 200003 0 0],.i .i64 8]),(200001,.var (Qd v3)),(200002,.var (Qe k1)),(200003,.var (Qw c2))] (.i .i64 x5),.n 4,.keep [5] [200000]] rfl ⟨⟨⟨⟨tt_,rfl⟩,rfl⟩,(fun σ h1 h2 hf=>Stp.buildAny rfl rfl (bleN hC.n rfl) (Qo.es rfl) QlQ rfl (by decide) (by decide) (Qfm h1 rfl) rfl rfl (hf rfl))⟩,(QoW _ _ _ _ _ hx5)⟩ ?_
 cases h
 exact AK.done (ex_ [_] (an_ (an_ rfl tt_) (gives ⟨rfl,tt_⟩)))
def QaZ (l1:(List QB))(v2:TNet)(x7:Int):Option (Int⊕((Int×Int)⊕Unit)):=
 bif (decide (x7<(l1.length:Int)))then
 (idx l1 x7).bind fun e12=>
 (QeM x7 e12 v2).bind fun x13=>
 bif (x13 != 0)then
 some (.inr (.inl (x7,x13)))
 else
 some (.inl (w64 (x7+1)))
 else
 some (.inr (.inr ()))
def QbG (x9:Int)(x10:Int):Option (Int×Int):=
 some (x9,x10)
def QbH : Option (Int×Int):=
 some (0,0)
def Qch (l1:(List QB))(v2:TNet):Option (Int×Int):=
 (QA (fun st=>QaZ l1 v2 st) 0).bind (Sum.elim (fun q=>QbG q.1 q.2) (fun q=>QbH))
theorem Qmb (l1:(List QB))(v2:TNet){r:(Int×Int)}(h:Qch l1 v2=some r):Qc Tryz.prog 149 [.sl 7 (l1.map Qw),.clo (.func 150) [] [.loc 200000 0 0]] [(200000,.var (Qd v2))] (Gives (.tup [.i .i64 r.1,.i .i64 r.2]) [(200000,.var (Qd v2))]):=by
 refine Qc.walk 25 Tryz.func149 rfl Tryz.ntmps149 rfl fun C hC=>?_
 unfold Qch at h
 refine Qa hC [.n 10,.o (.ln l1.length),.n 4,.keep [1,9,10,11] [200000]] rfl ⟨tt_,Qf⟩ ?_
 obtain⟨o15,hl15,h⟩:=Qb h
 refine AK.loop (body:=(fun st=>QaZ l1 v2 st)) (fun st σ=>σ=⟨[(1,.clo (.func 150) [] [.loc 200000 0 0]),(9,.sl 7 (l1.map Qw)),(10,.i .i64 (l1.length:Int)),(11,.i .i64 st)],[(200000,.var (Qd v2))]⟩) (Sum.elim (fun q e σ=>e=.ret∧σ=⟨[(4,.i .i64 q.1),(5,.i .i64 q.2)],[(200000,.var (Qd v2))]⟩) (fun q e σ=>e=.exit 0∧σ=⟨[],[(200000,.var (Qd v2))]⟩)) hl15 rfl ?_ ?_
 ·rintro x7 o σ rfl h
  replace h:QaZ l1 v2 x7=some o:=h
  unfold QaZ at h
  refine Qa hC [.n 6] rfl tt_ ?_
  rcases bifE h with⟨hc11,h⟩|⟨hc11,h⟩
  ·obtain⟨e12,he12,h⟩:=Qb h
   obtain⟨x13,hx13,h⟩:=Qb h
   refine Qa hC [.br true,.n 7,.o (.row (Qw e12)),.v .no [] (.agg (Qw e12)),.n 3,.sayO 7 (.var (Qw e12)),.n 6,.v .no [] (.agg (Qw e12)),.cm (.clo) [(200000,200000)] [(200000,200000)] [] [.d,.d,.d] [(200000,.var (Qd v2))] (.i .i64 x13),.n 9] rfl ⟨⟨⟨⟨⟨⟨tt_,hc11⟩,(idxM he12)⟩,rfl⟩,rfl⟩,rfl⟩,(QoE _ _ _ hx13)⟩ ?_
   rcases bifE h with⟨hc14,h⟩|⟨hc14,h⟩
   ·refine Qa hC [.br true,.n 11,.keep [4,5] [200000]] rfl ⟨tt_,hc14⟩ ?_
    cases h
    exact rndR rfl (an_ rfl rfl)
   ·refine Qa hC [.br false,.n 7,.keep [1,9,10,11] [200000]] rfl ⟨tt_,hc14⟩ ?_
    cases h
    exact rndN rfl rfl
  ·refine Qa hC [.br false,.n 2,.keep [] [200000]] rfl ⟨tt_,hc11⟩ ?_
   cases h
   exact rndX rfl (an_ rfl rfl)
 ·rcases o15 with(⟨x9,x10⟩|_)
  ·replace h:QbG x9 x10=some r:=h
   unfold QbG at h
   rintro e σ ⟨rfl,rfl⟩
   refine Qa hC [.n 2,.keep [4,5] [200000]] rfl tt_ ?_
   cases h
   exact AK.done (ex_ [_,_] (an_ (an_ rfl (an_ rfl tt_)) (gives ⟨rfl,tt_⟩)))
  ·replace h:QbH=some r:=h
   unfold QbH at h
   rintro e σ ⟨rfl,rfl⟩
   refine Qa hC [.n 9,.keep [4,5] [200000]] rfl tt_ ?_
   cases h
   exact AK.done (ex_ [_,_] (an_ (an_ rfl (an_ rfl tt_)) (gives ⟨rfl,tt_⟩)))
def Qep (n1:TNet):Option (Int×Int):=
 (Qch n1.Colours n1).bind fun x4=>
 some (x4.1,x4.2)
theorem QlU (n1:TNet){r:(Int×Int)}(h:Qep n1=some r):Qc Tryz.prog 103 [.agg (Qd n1)] [] (Gives (.tup [.i .i64 r.1,.i .i64 r.2]) []):=by
 refine Qc.walk 10 Tryz.func103 rfl Tryz.ntmps103 rfl fun C hC=>?_
 unfold Qep at h
 obtain⟨x4,hx4,h⟩:=Qb h
 refine Qa hC [.n 12,.cm (.fn) [(200000,1)] [(1,200000)] [] [.d,.d] [(200000,.var (Qd n1))] (.tup [.i .i64 x4.1,.i .i64 x4.2]),.n 7,.keep [2,3] []] rfl ⟨tt_,(Qmb _ _ hx4)⟩ ?_
 cases h
 exact AK.done (ex_ [_,_] (an_ (an_ rfl (an_ rfl tt_)) (gives tt_)))
def Qgx (v1:QC):Option Bool:=
 (Qdl v1.Name).bind fun x3=>
 some x3
theorem QpC (v1:QC){r:Bool}(h:Qgx v1=some r):Qc Tryz.prog 158 [.loc 200000 0 0] [(200000,.var (Qv v1))] (Gives (.b r) [(200000,.var (Qv v1))]):=by
 refine Qc.walk 5 Tryz.func158 rfl Tryz.ntmps158 rfl fun C hC=>?_
 unfold Qgx at h
 obtain⟨x3,hx3,h⟩:=Qb h
 refine Qa hC [.n 9,.o (.c false [.d] (.b x3)),.n 4,.keep [1] [200000]] rfl ⟨tt_,(Qgw _ hx3)⟩ ?_
 cases h
 exact AK.done (ex_ [_] (an_ (an_ rfl tt_) (gives ⟨rfl,tt_⟩)))
def Qgy (p1:QC)(v2:QC):Option Bool:=
 some (QhI p1.Name v2.Name)
theorem QpD (p1:QC)(v2:QC){r:Bool}(h:Qgy p1 v2=some r):Qc Tryz.prog 157 [.agg (Qv p1),.loc 200000 0 0] [(200000,.var (Qv v2))] (Gives (.b r) [(200000,.var (Qv v2))]):=by
 refine Qc.walk 9 Tryz.func157 rfl Tryz.ntmps157 rfl fun C hC=>?_
 unfold Qgy at h
 refine Qa hC [.n 17,.keep [3] [200000]] rfl tt_ ?_
 cases h
 exact AK.done (ex_ [_] (an_ (an_ rfl tt_) (gives ⟨rfl,tt_⟩)))
def QS (s1:(List QC))(v2:QC)(x5:Int):Option (Int⊕(Int⊕Unit)):=
 bif (decide (x5<(s1.length:Int)))then
 (idx s1 x5).bind fun e9=>
 (Qgy e9 v2).bind fun x10=>
 bif x10 then
 some (.inr (.inl x5))
 else
 some (.inl (w64 (x5+1)))
 else
 some (.inr (.inr ()))
def Q5 (x7:Int):Option Int:=
 some x7
def Q6 : Option Int:=
 some (-1)
def Qam (s1:(List QC))(v2:QC):Option Int:=
 (QA (fun st=>QS s1 v2 st) 0).bind (Sum.elim (fun q=>Q5 q) (fun q=>Q6))
theorem QhB (s1:(List QC))(v2:QC){r:Int}(h:Qam s1 v2=some r):Qc Tryz.prog 212 [.sl 3 (s1.map Qv),.clo (.func 157) [] [.loc 200000 0 0]] [(200000,.var (Qv v2))] (Gives (.i .i64 r) [(200000,.var (Qv v2))]):=by
 refine Qc.walk 19 Tryz.func212 rfl Tryz.ntmps212 rfl fun C hC=>?_
 unfold Qam at h
 refine Qa hC [.n 9,.o (.ln s1.length),.n 4,.keep [0,1,7,8] [200000]] rfl ⟨tt_,Qf⟩ ?_
 obtain⟨o12,hl12,h⟩:=Qb h
 refine AK.loop (body:=(fun st=>QS s1 v2 st)) (fun st σ=>σ=⟨[(0,.sl 3 (s1.map Qv)),(1,.clo (.func 157) [] [.loc 200000 0 0]),(7,.i .i64 (s1.length:Int)),(8,.i .i64 st)],[(200000,.var (Qv v2))]⟩) (Sum.elim (fun q e σ=>e=.ret∧σ=⟨[(4,.i .i64 q)],[(200000,.var (Qv v2))]⟩) (fun q e σ=>e=.exit 0∧σ=⟨[],[(200000,.var (Qv v2))]⟩)) hl12 rfl ?_ ?_
 ·rintro x5 o σ rfl h
  replace h:QS s1 v2 x5=some o:=h
  unfold QS at h
  refine Qa hC [.n 6] rfl tt_ ?_
  rcases bifE h with⟨hc8,h⟩|⟨hc8,h⟩
  ·obtain⟨e9,he9,h⟩:=Qb h
   obtain⟨x10,hx10,h⟩:=Qb h
   refine Qa hC [.br true,.n 15,.o (.row (Qv e9)),.v .no [] (.agg (Qv e9)),.cm (.clo) [(200000,200000)] [(200000,200000)] [] [.d,.d] [(200000,.var (Qv v2))] (.b x10),.n 2] rfl ⟨⟨⟨⟨tt_,hc8⟩,(idxM he9)⟩,rfl⟩,(QpD _ _ hx10)⟩ ?_
   rcases bifE h with⟨hc11,h⟩|⟨hc11,h⟩
   ·refine Qa hC [.br true,.n 9,.keep [4] [200000]] rfl ⟨tt_,hc11⟩ ?_
    cases h
    exact rndR rfl (an_ rfl rfl)
   ·refine Qa hC [.br false,.n 7,.keep [0,1,7,8] [200000]] rfl ⟨tt_,hc11⟩ ?_
    cases h
    exact rndN rfl rfl
  ·refine Qa hC [.br false,.n 2,.keep [] [200000]] rfl ⟨tt_,hc8⟩ ?_
   cases h
   exact rndX rfl (an_ rfl rfl)
 ·rcases o12 with(x7 | _)
  ·replace h:Q5 x7=some r:=h
   unfold Q5 at h
   rintro e σ ⟨rfl,rfl⟩
   refine Qa hC [.n 2,.keep [4] [200000]] rfl tt_ ?_
   cases h
   exact AK.done (ex_ [_] (an_ (an_ rfl tt_) (gives ⟨rfl,tt_⟩)))
  ·replace h:Q6=some r:=h
   unfold Q6 at h
   rintro e σ ⟨rfl,rfl⟩
   refine Qa hC [.n 8,.keep [4] [200000]] rfl tt_ ?_
   cases h
   exact AK.done (ex_ [_] (an_ (an_ rfl tt_) (gives ⟨rfl,tt_⟩)))
def Q7 (s1:(List QC))(v2:QC):Option Bool:=
 (Qam s1 v2).bind fun x4=>
 some (decide (0≤x4))
theorem QgS (s1:(List QC))(v2:QC){r:Bool}(h:Q7 s1 v2=some r):Qc Tryz.prog 160 [.sl 3 (s1.map Qv),.clo (.func 157) [] [.loc 200000 0 0]] [(200000,.var (Qv v2))] (Gives (.b r) [(200000,.var (Qv v2))]):=by
 refine Qc.walk 9 Tryz.func160 rfl Tryz.ntmps160 rfl fun C hC=>?_
 unfold Q7 at h
 obtain⟨x4,hx4,h⟩:=Qb h
 refine Qa hC [.n 9,.cm (.fn) [(200000,200000)] [(200000,200000)] [] [.d,.d] [(200000,.var (Qv v2))] (.i .i64 x4),.n 5,.keep [4] [200000]] rfl ⟨tt_,(QhB _ _ hx4)⟩ ?_
 cases h
 exact AK.done (ex_ [_] (an_ (an_ rfl tt_) (gives ⟨rfl,tt_⟩)))
def Qgz (v1:TNet)(v2:Int)(v3:QC):Option Bool:=
 (chk (decide (0≤v2)&&decide (0≤v2.toNat)&&decide (v2.toNat≤v1.Places.length))).bind fun _=>
 (Q7 ((v1.Places.drop 0).take (v2.toNat-0)) v3).bind fun x6=>
 some (!x6)
theorem QpE (v1:TNet)(v2:Int)(v3:QC){r:Bool}(h:Qgz v1 v2 v3=some r):Qc Tryz.prog 159 [.loc 200000 0 0,.loc 200001 0 0,.loc 200002 0 0] [(200000,.var (Qd v1)),(200001,.var (Qe v2)),(200002,.var [.clo (.func 157) [] [.loc 200003 0 0]]),(200003,.var (Qv v3))] (Gives (.b r) [(200000,.var (Qd v1)),(200001,.var (Qe v2)),(200002,.var [.clo (.func 157) [] [.loc 200003 0 0]]),(200003,.var (Qv v3))]):=by
 refine Qc.walk 11 Tryz.func159 rfl Tryz.ntmps159 rfl fun C hC=>?_
 unfold Qgz at h
 obtain⟨_,hk5,h⟩:=Qb h
 replace hk5:=chkE hk5
 obtain⟨x6,hx6,h⟩:=Qb h
 refine Qa hC [.n 6,.keep [0,1,2,3] [200000,200001,200002,200003]] rfl tt_ ?_
 refine AK.draw2 Qo hC mixed [.a .no none false,.a .no none false,.a .no none false,.a (.any (.sl 3 (((v1.Places.drop 0).take (v2.toNat-0)).map Qv)) none) none false,.a .no none false,.a (.any (.b x6) none) none false,.a .no none false,.m .s] [] [] [3] [200000,200001,200002,200003] rfl rfl rfl ⟨⟨tt_,(fun σ h1 h2 _=>Stp.sliceD rfl rfl (bleN hC.n rfl) (h1 _ _ rfl) (Qo.es rfl) Bnd.no (Bnd.val (h1 _ _ rfl) (of_decide_eq_true (Qpo hk5)) rfl) (of_decide_eq_true (Qpp hk5)) (Nat.le_trans (of_decide_eq_true (Qpq hk5)) (Nat.le_of_eq Qf.symm)) QrF)⟩,(fun σ h1 h2 _=>Stp.callSame (md:=.cm (.fn) [(200000,200003)] [(200003,200000)] [] [.d,.d] [(200000,.var (Qv v3))] (.b x6) [200003]) Qo hC h1 h2 rfl ⟨⟨tt_,(QgS _ _ hx6)⟩,⟨rfl,tt_⟩⟩)⟩ rfl (by kernel_rfl) rfl rfl rfl ?_
 refine Qa hC [.n 2,.keep [3] [200000,200001,200002,200003]] rfl tt_ ?_
 cases h
 exact AK.done (ex_ [_] (an_ (an_ rfl tt_) (gives ⟨rfl,rfl,rfl,rfl,tt_⟩)))
def Qbo (l1:(List QB))(k2:Int):Option Bool:=
 some ((decide (0≤k2))&&(decide (k2<(l1.length:Int))))
theorem QhG (l1:(List QB))(k2:Int){r:Bool}(h:Qbo l1 k2=some r):Qc Tryz.prog 162 [.sl 7 (l1.map Qw),.i .i64 k2] [] (Gives (.b r) []):=by
 refine Qc.walk 13 Tryz.func162 rfl Tryz.ntmps162 rfl fun C hC=>?_
 unfold Qbo at h
 refine Qa hC [.n 6] rfl tt_ ?_
 refine AK.meetX (fun σ=>σ=⟨[(4,.b ((decide (0≤k2))&&(decide (k2<(l1.length:Int)))))],[]⟩) ?_ ?_
 ·refine Qa hC [.n 4] rfl tt_ ?_
  rcases QN (decide (0≤k2))with hc5 | hc5
  ·refine Qa hC [.say 7 (.b true),.n 2,.o (.ln l1.length),.n 4,.say 4 (.b ((decide (0≤k2))&&(decide (k2<(l1.length:Int))))),.keep [4] []] rfl ⟨⟨⟨tt_,(congrArg V.b hc5)⟩,Qf⟩,(congrArg V.b (andT hc5 rfl))⟩ ?_
   exact AK.met rfl
  ·refine Qa hC [.say 7 (.b false),.n 7,.say 4 (.b ((decide (0≤k2))&&(decide (k2<(l1.length:Int))))),.keep [4] []] rfl ⟨⟨tt_,(congrArg V.b hc5)⟩,(congrArg V.b (andF hc5 rfl))⟩ ?_
   exact AK.met rfl
 ·rintro σ rfl
  refine Qa hC [.n 2,.keep [4] []] rfl tt_ ?_
  cases h
  exact AK.done (ex_ [_] (an_ (an_ rfl tt_) (gives tt_)))
def QgA (v1:TNet)(v2:QC):Option Bool:=
 (Qbo v1.Colours v2.Colour).bind fun x4=>
 some x4
theorem QpF (v1:TNet)(v2:QC){r:Bool}(h:QgA v1 v2=some r):Qc Tryz.prog 161 [.loc 200000 0 0,.loc 200001 0 0] [(200000,.var (Qd v1)),(200001,.var (Qv v2))] (Gives (.b r) [(200000,.var (Qd v1)),(200001,.var (Qv v2))]):=by
 refine Qc.walk 8 Tryz.func161 rfl Tryz.ntmps161 rfl fun C hC=>?_
 unfold QgA at h
 obtain⟨x4,hx4,h⟩:=Qb h
 refine Qa hC [.n 11,.o (.c false [.d,.d] (.b x4)),.n 4,.keep [2] [200000,200001]] rfl ⟨tt_,(QhG _ _ hx4)⟩ ?_
 cases h
 exact AK.done (ex_ [_] (an_ (an_ rfl tt_) (gives ⟨rfl,rfl,tt_⟩)))
def QgB (v1:QC):Option Bool:=
 (Qb9 v1.First).bind fun x3=>
 some x3
theorem QpG (v1:QC){r:Bool}(h:QgB v1=some r):Qc Tryz.prog 163 [.loc 200000 0 0] [(200000,.var (Qv v1))] (Gives (.b r) [(200000,.var (Qv v1))]):=by
 refine Qc.walk 5 Tryz.func163 rfl Tryz.ntmps163 rfl fun C hC=>?_
 unfold QgB at h
 obtain⟨x3,hx3,h⟩:=Qb h
 refine Qa hC [.n 9,.o (.c false [.d] (.b x3)),.n 4,.keep [1] [200000]] rfl ⟨tt_,(Qe6 _ hx3)⟩ ?_
 cases h
 exact AK.done (ex_ [_] (an_ (an_ rfl tt_) (gives ⟨rfl,tt_⟩)))
def QeN (row1:(Int×Int))(v2:Int):Option Bool:=
 some (decide (v2≤row1.1))
theorem QoF (row1:(Int×Int))(v2:Int){r:Bool}(h:QeN row1 v2=some r):Qc Tryz.prog 166 [.agg (Qy row1),.loc 200000 0 0] [(200000,.var (Qe v2))] (Gives (.b r) [(200000,.var (Qe v2))]):=by
 refine Qc.walk 8 Tryz.func166 rfl Tryz.ntmps166 rfl fun C hC=>?_
 unfold QeN at h
 refine Qa hC [.n 16,.keep [3] [200000]] rfl tt_ ?_
 cases h
 exact AK.done (ex_ [_] (an_ (an_ rfl tt_) (gives ⟨rfl,tt_⟩)))
def Q9 (s1:QBg)(v2:Int)(x5:Int):Option (Int⊕(Int⊕Unit)):=
 bif (decide (x5<(s1.length:Int)))then
 (idx s1 x5).bind fun e9=>
 (QeN e9 v2).bind fun x10=>
 bif x10 then
 some (.inr (.inl x5))
 else
 some (.inl (w64 (x5+1)))
 else
 some (.inr (.inr ()))
def QaD (x7:Int):Option Int:=
 some x7
def QaE : Option Int:=
 some (-1)
def QaP (s1:QBg)(v2:Int):Option Int:=
 (QA (fun st=>Q9 s1 v2 st) 0).bind (Sum.elim (fun q=>QaD q) (fun q=>QaE))
theorem Qjn (s1:QBg)(v2:Int){r:Int}(h:QaP s1 v2=some r):Qc Tryz.prog 213 [.sl 2 (s1.map Qy),.clo (.func 166) [] [.loc 200000 0 0]] [(200000,.var (Qe v2))] (Gives (.i .i64 r) [(200000,.var (Qe v2))]):=by
 refine Qc.walk 19 Tryz.func213 rfl Tryz.ntmps213 rfl fun C hC=>?_
 unfold QaP at h
 refine Qa hC [.n 9,.o (.ln s1.length),.n 4,.keep [0,1,7,8] [200000]] rfl ⟨tt_,Qf⟩ ?_
 obtain⟨o12,hl12,h⟩:=Qb h
 refine AK.loop (body:=(fun st=>Q9 s1 v2 st)) (fun st σ=>σ=⟨[(0,.sl 2 (s1.map Qy)),(1,.clo (.func 166) [] [.loc 200000 0 0]),(7,.i .i64 (s1.length:Int)),(8,.i .i64 st)],[(200000,.var (Qe v2))]⟩) (Sum.elim (fun q e σ=>e=.ret∧σ=⟨[(4,.i .i64 q)],[(200000,.var (Qe v2))]⟩) (fun q e σ=>e=.exit 0∧σ=⟨[],[(200000,.var (Qe v2))]⟩)) hl12 rfl ?_ ?_
 ·rintro x5 o σ rfl h
  replace h:Q9 s1 v2 x5=some o:=h
  unfold Q9 at h
  refine Qa hC [.n 6] rfl tt_ ?_
  rcases bifE h with⟨hc8,h⟩|⟨hc8,h⟩
  ·obtain⟨e9,he9,h⟩:=Qb h
   obtain⟨x10,hx10,h⟩:=Qb h
   refine Qa hC [.br true,.n 15,.o (.row (Qy e9)),.v .no [] (.agg (Qy e9)),.cm (.clo) [(200000,200000)] [(200000,200000)] [] [.d,.d] [(200000,.var (Qe v2))] (.b x10),.n 2] rfl ⟨⟨⟨⟨tt_,hc8⟩,(idxM he9)⟩,rfl⟩,(QoF _ _ hx10)⟩ ?_
   rcases bifE h with⟨hc11,h⟩|⟨hc11,h⟩
   ·refine Qa hC [.br true,.n 9,.keep [4] [200000]] rfl ⟨tt_,hc11⟩ ?_
    cases h
    exact rndR rfl (an_ rfl rfl)
   ·refine Qa hC [.br false,.n 7,.keep [0,1,7,8] [200000]] rfl ⟨tt_,hc11⟩ ?_
    cases h
    exact rndN rfl rfl
  ·refine Qa hC [.br false,.n 2,.keep [] [200000]] rfl ⟨tt_,hc8⟩ ?_
   cases h
   exact rndX rfl (an_ rfl rfl)
 ·rcases o12 with(x7 | _)
  ·replace h:QaD x7=some r:=h
   unfold QaD at h
   rintro e σ ⟨rfl,rfl⟩
   refine Qa hC [.n 2,.keep [4] [200000]] rfl tt_ ?_
   cases h
   exact AK.done (ex_ [_] (an_ (an_ rfl tt_) (gives ⟨rfl,tt_⟩)))
  ·replace h:QaE=some r:=h
   unfold QaE at h
   rintro e σ ⟨rfl,rfl⟩
   refine Qa hC [.n 8,.keep [4] [200000]] rfl tt_ ?_
   cases h
   exact AK.done (ex_ [_] (an_ (an_ rfl tt_) (gives ⟨rfl,tt_⟩)))
def QaF (s1:QBg)(v2:Int):Option Bool:=
 (QaP s1 v2).bind fun x4=>
 some (decide (0≤x4))
theorem Qiv (s1:QBg)(v2:Int){r:Bool}(h:QaF s1 v2=some r):Qc Tryz.prog 165 [.sl 2 (s1.map Qy),.clo (.func 166) [] [.loc 200000 0 0]] [(200000,.var (Qe v2))] (Gives (.b r) [(200000,.var (Qe v2))]):=by
 refine Qc.walk 9 Tryz.func165 rfl Tryz.ntmps165 rfl fun C hC=>?_
 unfold QaF at h
 obtain⟨x4,hx4,h⟩:=Qb h
 refine Qa hC [.n 9,.cm (.fn) [(200000,200000)] [(200000,200000)] [] [.d,.d] [(200000,.var (Qe v2))] (.i .i64 x4),.n 5,.keep [4] [200000]] rfl ⟨tt_,(Qjn _ _ hx4)⟩ ?_
 cases h
 exact AK.done (ex_ [_] (an_ (an_ rfl tt_) (gives ⟨rfl,tt_⟩)))
def QgC (v1:TNet)(v2:QC):Option Bool:=
 (QaG v1.Colours v2.Colour).bind fun x4=>
 (QaF v2.First x4).bind fun x5=>
 some (!x5)
theorem QpH (v1:TNet)(v2:QC){r:Bool}(h:QgC v1 v2=some r):Qc Tryz.prog 164 [.loc 200000 0 0,.loc 200001 0 0] [(200000,.var (Qd v1)),(200001,.var (Qv v2))] (Gives (.b r) [(200000,.var (Qd v1)),(200001,.var (Qv v2))]):=by
 refine Qc.walk 14 Tryz.func164 rfl Tryz.ntmps164 rfl fun C hC=>?_
 unfold QgC at h
 obtain⟨x4,hx4,h⟩:=Qb h
 obtain⟨x5,hx5,h⟩:=Qb h
 refine Qa hC [.n 11,.o (.c false [.d,.d] (.i .i64 x4)),.n 2,.sayO 3 (.var (Qe x4)),.n 7,.cm (.fn) [(200000,3)] [(3,200000)] [] [.d,.d] [(200000,.var (Qe x4))] (.b x5),.n 5,.keep [2] [200000,200001]] rfl ⟨⟨⟨tt_,(QhR _ _ hx4)⟩,rfl⟩,(Qiv _ _ hx5)⟩ ?_
 cases h
 exact AK.done (ex_ [_] (an_ (an_ rfl tt_) (gives ⟨rfl,rfl,tt_⟩)))
def QfI (v1:QC)(v2:Int)(v3:TNet)(v4:Int)(v5:Int)(v6:Int)(v7:Int)(v8:Int):Option Int:=
 (Qgx v1).bind fun x11=>
 bif (!x11)then
 some v2
 else
 (Qgz v3 v4 v1).bind fun x13=>
 bif (!x13)then
 some v5
 else
 (QgA v3 v1).bind fun x15=>
 bif (!x15)then
 some v6
 else
 (QgB v1).bind fun x17=>
 bif (!x17)then
 some v7
 else
 (QgC v3 v1).bind fun x19=>
 bif (!x19)then
 some v8
 else
 some 0
theorem QoX (v1:QC)(v2:Int)(v3:TNet)(v4:Int)(v5:Int)(v6:Int)(v7:Int)(v8:Int){r:Int}(h:QfI v1 v2 v3 v4 v5 v6 v7 v8=some r):Qc Tryz.prog 98 [.own 200000 5] [(200000,.var [.clo (.func 158) [] [.loc 200001 0 0],.i .i64 v2,.clo (.func 159) [] [.loc 200002 0 0,.loc 200003 0 0,.loc 200004 0 0],.i .i64 v5,.clo (.func 161) [] [.loc 200002 0 0,.loc 200001 0 0],.i .i64 v6,.clo (.func 163) [] [.loc 200001 0 0],.i .i64 v7,.clo (.func 164) [] [.loc 200002 0 0,.loc 200001 0 0],.i .i64 v8]),(200001,.var (Qv v1)),(200002,.var (Qd v3)),(200003,.var (Qe v4)),(200004,.var [.clo (.func 157) [] [.loc 200001 0 0]])] (Gives (.i .i64 r) [(200000,.var [.clo (.func 158) [] [.loc 200001 0 0],.i .i64 v2,.clo (.func 159) [] [.loc 200002 0 0,.loc 200003 0 0,.loc 200004 0 0],.i .i64 v5,.clo (.func 161) [] [.loc 200002 0 0,.loc 200001 0 0],.i .i64 v6,.clo (.func 163) [] [.loc 200001 0 0],.i .i64 v7,.clo (.func 164) [] [.loc 200002 0 0,.loc 200001 0 0],.i .i64 v8]),(200001,.var (Qv v1)),(200002,.var (Qd v3)),(200003,.var (Qe v4)),(200004,.var [.clo (.func 157) [] [.loc 200001 0 0]])]):=by
 refine Qc.walk 18 Tryz.func98 rfl Tryz.ntmps98 rfl fun C hC=>?_
 unfold QfI at h
 refine Qa hC [.n 14] rfl tt_ ?_
 refine AK.loopN 6 (AK.rnd ?_)
 obtain⟨x11,hx11,h⟩:=Qb h
 refine Qa hC [.n 2,.v .no [] (.b true),.n 10,.o (.any (.loc 200000 0 0) none),.n 3,.sayO 4 (.var [.clo (.func 158) [] [.loc 200001 0 0],.i .i64 v2]),.n 6,.cm (.clo) [(200000,200001)] [(200001,200000)] [] [.d] [(200000,.var (Qv v1))] (.b x11),.n 3] rfl ⟨⟨⟨⟨tt_,rfl⟩,(fun σ h1 h2 _=>Stp.idxV rfl rfl (bleN hC.n rfl) (h1 _ _ rfl) (h1 _ _ rfl) (Qo.es rfl) (h2 _ _ rfl) (by decide))⟩,rfl⟩,(QpC _ hx11)⟩ ?_
 rcases bifE h with⟨hc12,h⟩|⟨hc12,h⟩
 ·refine Qa hC [.br true,.n 13,.keep [2] [200000,200001,200002,200003,200004]] rfl ⟨tt_,hc12⟩ ?_
  cases h
  exact AK.done (ex_ [_] (an_ (an_ rfl tt_) (gives ⟨rfl,rfl,rfl,rfl,rfl,tt_⟩)))
 ·refine Qa hC [.br false,.n 4,.v .no [] (.i .i64 1),.n 2] rfl ⟨⟨tt_,hc12⟩,rfl⟩ ?_
  refine AK.met (AK.rnd ?_)
  obtain⟨x13,hx13,h⟩:=Qb h
  refine Qa hC [.n 2,.v .no [] (.b true),.n 10,.o (.any (.loc 200000 0 2) none),.n 1,.kill 4,.n 2,.sayO 4 (.var [.clo (.func 159) [] [.loc 200002 0 0,.loc 200003 0 0,.loc 200004 0 0],.i .i64 v5]),.n 6,.cm (.clo) [(200000,200002),(200001,200003),(200002,200004),(200003,200001)] [(200002,200000),(200003,200001),(200004,200002),(200001,200003)] [] [.d,.d,.d] [(200000,.var (Qd v3)),(200001,.var (Qe v4)),(200002,.var [.clo (.func 157) [] [.loc 200003 0 0]]),(200003,.var (Qv v1))] (.b x13),.n 3] rfl ⟨⟨⟨⟨tt_,rfl⟩,(fun σ h1 h2 _=>Stp.idxV rfl rfl (bleN hC.n rfl) (h1 _ _ rfl) (h1 _ _ rfl) (Qo.es rfl) (h2 _ _ rfl) (by decide))⟩,rfl⟩,(QpE _ _ _ hx13)⟩ ?_
  rcases bifE h with⟨hc14,h⟩|⟨hc14,h⟩
  ·refine Qa hC [.br true,.n 13,.keep [2] [200000,200001,200002,200003,200004]] rfl ⟨tt_,hc14⟩ ?_
   cases h
   exact AK.done (ex_ [_] (an_ (an_ rfl tt_) (gives ⟨rfl,rfl,rfl,rfl,rfl,tt_⟩)))
  ·refine Qa hC [.br false,.n 4,.v .no [] (.i .i64 2),.n 2] rfl ⟨⟨tt_,hc14⟩,rfl⟩ ?_
   refine AK.met (AK.rnd ?_)
   obtain⟨x15,hx15,h⟩:=Qb h
   refine Qa hC [.n 2,.v .no [] (.b true),.n 10,.o (.any (.loc 200000 0 4) none),.n 1,.kill 4,.n 2,.sayO 4 (.var [.clo (.func 161) [] [.loc 200002 0 0,.loc 200001 0 0],.i .i64 v6]),.n 6,.cm (.clo) [(200000,200002),(200001,200001)] [(200002,200000),(200001,200001)] [] [.d,.d] [(200000,.var (Qd v3)),(200001,.var (Qv v1))] (.b x15),.n 3] rfl ⟨⟨⟨⟨tt_,rfl⟩,(fun σ h1 h2 _=>Stp.idxV rfl rfl (bleN hC.n rfl) (h1 _ _ rfl) (h1 _ _ rfl) (Qo.es rfl) (h2 _ _ rfl) (by decide))⟩,rfl⟩,(QpF _ _ hx15)⟩ ?_
   rcases bifE h with⟨hc16,h⟩|⟨hc16,h⟩
   ·refine Qa hC [.br true,.n 13,.keep [2] [200000,200001,200002,200003,200004]] rfl ⟨tt_,hc16⟩ ?_
    cases h
    exact AK.done (ex_ [_] (an_ (an_ rfl tt_) (gives ⟨rfl,rfl,rfl,rfl,rfl,tt_⟩)))
   ·refine Qa hC [.br false,.n 4,.v .no [] (.i .i64 3),.n 2] rfl ⟨⟨tt_,hc16⟩,rfl⟩ ?_
    refine AK.met (AK.rnd ?_)
    obtain⟨x17,hx17,h⟩:=Qb h
    refine Qa hC [.n 2,.v .no [] (.b true),.n 10,.o (.any (.loc 200000 0 6) none),.n 1,.kill 4,.n 2,.sayO 4 (.var [.clo (.func 163) [] [.loc 200001 0 0],.i .i64 v7]),.n 6,.cm (.clo) [(200000,200001)] [(200001,200000)] [] [.d] [(200000,.var (Qv v1))] (.b x17),.n 3] rfl ⟨⟨⟨⟨tt_,rfl⟩,(fun σ h1 h2 _=>Stp.idxV rfl rfl (bleN hC.n rfl) (h1 _ _ rfl) (h1 _ _ rfl) (Qo.es rfl) (h2 _ _ rfl) (by decide))⟩,rfl⟩,(QpG _ hx17)⟩ ?_
    rcases bifE h with⟨hc18,h⟩|⟨hc18,h⟩
    ·refine Qa hC [.br true,.n 13,.keep [2] [200000,200001,200002,200003,200004]] rfl ⟨tt_,hc18⟩ ?_
     cases h
     exact AK.done (ex_ [_] (an_ (an_ rfl tt_) (gives ⟨rfl,rfl,rfl,rfl,rfl,tt_⟩)))
    ·refine Qa hC [.br false,.n 4,.v .no [] (.i .i64 4),.n 2] rfl ⟨⟨tt_,hc18⟩,rfl⟩ ?_
     refine AK.met (AK.rnd ?_)
     obtain⟨x19,hx19,h⟩:=Qb h
     refine Qa hC [.n 2,.v .no [] (.b true),.n 10,.o (.any (.loc 200000 0 8) none),.n 1,.kill 4,.n 2,.sayO 4 (.var [.clo (.func 164) [] [.loc 200002 0 0,.loc 200001 0 0],.i .i64 v8]),.n 6,.cm (.clo) [(200000,200002),(200001,200001)] [(200002,200000),(200001,200001)] [] [.d,.d] [(200000,.var (Qd v3)),(200001,.var (Qv v1))] (.b x19),.n 3] rfl ⟨⟨⟨⟨tt_,rfl⟩,(fun σ h1 h2 _=>Stp.idxV rfl rfl (bleN hC.n rfl) (h1 _ _ rfl) (h1 _ _ rfl) (Qo.es rfl) (h2 _ _ rfl) (by decide))⟩,rfl⟩,(QpH _ _ hx19)⟩ ?_
     rcases bifE h with⟨hc20,h⟩|⟨hc20,h⟩
     ·refine Qa hC [.br true,.n 13,.keep [2] [200000,200001,200002,200003,200004]] rfl ⟨tt_,hc20⟩ ?_
      cases h
      exact AK.done (ex_ [_] (an_ (an_ rfl tt_) (gives ⟨rfl,rfl,rfl,rfl,rfl,tt_⟩)))
     ·refine Qa hC [.br false,.n 4,.v .no [] (.i .i64 5),.n 2] rfl ⟨⟨tt_,hc20⟩,rfl⟩ ?_
      refine AK.met (AK.rnd ?_)
      refine Qa hC [.n 2,.v .no [] (.b false),.n 15,.keep [2] [200000,200001,200002,200003,200004]] rfl ⟨tt_,rfl⟩ ?_
      cases h
      exact AK.done (ex_ [_] (an_ (an_ rfl tt_) (gives ⟨rfl,rfl,rfl,rfl,rfl,tt_⟩)))
def Qh9 (n1:TNet)(k2:Int):Option Int:=
 (Qak n1.Places k2).bind fun x5=>
 bif (!x5)then
 some 3
 else
 (idx n1.Places k2).bind fun e7=>
 (QfI e7 1 n1 k2 5 3 1 8).bind fun x8=>
 some x8
theorem Qq5 (n1:TNet)(k2:Int){r:Int}(h:Qh9 n1 k2=some r):Qc Tryz.prog 106 [.agg (Qd n1),.i .i64 k2] [] (Gives (.i .i64 r) []):=by
 refine Qc.walk 30 Tryz.func106 rfl Tryz.ntmps106 rfl fun C hC=>?_
 unfold Qh9 at h
 obtain⟨x5,hx5,h⟩:=Qb h
 refine Qa hC [.n 13,.o (.c false [.d,.d] (.b x5)),.n 3] rfl ⟨tt_,(QbF _ _ hx5)⟩ ?_
 rcases bifE h with⟨hc6,h⟩|⟨hc6,h⟩
 ·refine Qa hC [.br true,.n 7,.keep [4] []] rfl ⟨tt_,hc6⟩ ?_
  cases h
  exact AK.done (ex_ [_] (an_ (an_ rfl tt_) (gives tt_)))
 ·obtain⟨e7,he7,h⟩:=Qb h
  obtain⟨x8,hx8,h⟩:=Qb h
  refine Qa hC [.br false,.n 7,.o (.row (Qv e7)),.v .no [] (.agg (Qv e7)),.n 2,.sayO 5 (.var (Qv e7)),.n 7,.sayO 6 (.var [.clo (.func 157) [] [.loc 5 0 0]]),.n 5,.v .no [] (.agg [.clo (.func 158) [] [.loc 5 0 0],.i .i64 1]),.n 1,.v .no [] (.agg [.clo (.func 159) [] [.loc 2 0 0,.loc 3 0 0,.loc 6 0 0],.i .i64 5]),.n 1,.v .no [] (.agg [.clo (.func 161) [] [.loc 2 0 0,.loc 5 0 0],.i .i64 3]),.n 1,.v .no [] (.agg [.clo (.func 163) [] [.loc 5 0 0],.i .i64 1]),.n 1,.v .no [] (.agg [.clo (.func 164) [] [.loc 2 0 0,.loc 5 0 0],.i .i64 8]),.o (.any (.own 28 5) (some (.var [.clo (.func 158) [] [.loc 5 0 0],.i .i64 1,.clo (.func 159) [] [.loc 2 0 0,.loc 3 0 0,.loc 6 0 0],.i .i64 5,.clo (.func 161) [] [.loc 2 0 0,.loc 5 0 0],.i .i64 3,.clo (.func 163) [] [.loc 5 0 0],.i .i64 1,.clo (.func 164) [] [.loc 2 0 0,.loc 5 0 0],.i .i64 8]))),.cm (.fn) [(200000,28),(200001,5),(200002,2),(200003,3),(200004,6)] [(28,200000),(5,200001),(2,200002),(3,200003),(6,200004)] [] [.d] [(200000,.var [.clo (.func 158) [] [.loc 200001 0 0],.i .i64 1,.clo (.func 159) [] [.loc 200002 0 0,.loc 200003 0 0,.loc 200004 0 0],.i .i64 5,.clo (.func 161) [] [.loc 200002 0 0,.loc 200001 0 0],.i .i64 3,.clo (.func 163) [] [.loc 200001 0 0],.i .i64 1,.clo (.func 164) [] [.loc 200002 0 0,.loc 200001 0 0],.i .i64 8]),(200001,.var (Qv e7)),(200002,.var (Qd n1)),(200003,.var (Qe k2)),(200004,.var [.clo (.func 157) [] [.loc 200001 0 0]])] (.i .i64 x8),.n 4,.keep [4] []] rfl ⟨⟨⟨⟨⟨⟨⟨⟨⟨⟨⟨⟨tt_,hc6⟩,(idxM he7)⟩,rfl⟩,rfl⟩,rfl⟩,rfl⟩,rfl⟩,rfl⟩,rfl⟩,rfl⟩,(fun σ h1 h2 hf=>Stp.buildAny rfl rfl (bleN hC.n rfl) (Qo.es rfl) QlQ rfl (by decide) (by decide) (Qfm h1 rfl) rfl rfl (hf rfl))⟩,(QoX _ _ _ _ _ _ _ _ hx8)⟩ ?_
  cases h
  exact AK.done (ex_ [_] (an_ (an_ rfl tt_) (gives tt_)))
def Qia (k1:Int)(p2:QC)(v3:TNet):Option Int:=
 (Qh9 v3 k1).bind fun x5=>
 some x5
theorem Qq6 (k1:Int)(p2:QC)(v3:TNet){r:Int}(h:Qia k1 p2 v3=some r):Qc Tryz.prog 105 [.i .i64 k1,.agg (Qv p2),.loc 200000 0 0] [(200000,.var (Qd v3))] (Gives (.i .i64 r) [(200000,.var (Qd v3))]):=by
 refine Qc.walk 9 Tryz.func105 rfl Tryz.ntmps105 rfl fun C hC=>?_
 unfold Qia at h
 obtain⟨x5,hx5,h⟩:=Qb h
 refine Qa hC [.n 8,.v .no [] (.agg (Qd v3)),.n 1,.o (.c false [.d,.d] (.i .i64 x5)),.n 4,.keep [5] [200000]] rfl ⟨⟨tt_,rfl⟩,(Qq5 _ _ hx5)⟩ ?_
 cases h
 exact AK.done (ex_ [_] (an_ (an_ rfl tt_) (gives ⟨rfl,tt_⟩)))
def Qa8 (l1:(List QC))(v2:TNet)(x7:Int):Option (Int⊕((Int×Int)⊕Unit)):=
 bif (decide (x7<(l1.length:Int)))then
 (idx l1 x7).bind fun e12=>
 (Qia x7 e12 v2).bind fun x13=>
 bif (x13 != 0)then
 some (.inr (.inl (x7,x13)))
 else
 some (.inl (w64 (x7+1)))
 else
 some (.inr (.inr ()))
def QbT (x9:Int)(x10:Int):Option (Int×Int):=
 some (x9,x10)
def QbU : Option (Int×Int):=
 some (0,0)
def QcD (l1:(List QC))(v2:TNet):Option (Int×Int):=
 (QA (fun st=>Qa8 l1 v2 st) 0).bind (Sum.elim (fun q=>QbT q.1 q.2) (fun q=>QbU))
theorem Qms (l1:(List QC))(v2:TNet){r:(Int×Int)}(h:QcD l1 v2=some r):Qc Tryz.prog 104 [.sl 3 (l1.map Qv),.clo (.func 105) [] [.loc 200000 0 0]] [(200000,.var (Qd v2))] (Gives (.tup [.i .i64 r.1,.i .i64 r.2]) [(200000,.var (Qd v2))]):=by
 refine Qc.walk 25 Tryz.func104 rfl Tryz.ntmps104 rfl fun C hC=>?_
 unfold QcD at h
 refine Qa hC [.n 10,.o (.ln l1.length),.n 4,.keep [1,9,10,11] [200000]] rfl ⟨tt_,Qf⟩ ?_
 obtain⟨o15,hl15,h⟩:=Qb h
 refine AK.loop (body:=(fun st=>Qa8 l1 v2 st)) (fun st σ=>σ=⟨[(1,.clo (.func 105) [] [.loc 200000 0 0]),(9,.sl 3 (l1.map Qv)),(10,.i .i64 (l1.length:Int)),(11,.i .i64 st)],[(200000,.var (Qd v2))]⟩) (Sum.elim (fun q e σ=>e=.ret∧σ=⟨[(4,.i .i64 q.1),(5,.i .i64 q.2)],[(200000,.var (Qd v2))]⟩) (fun q e σ=>e=.exit 0∧σ=⟨[],[(200000,.var (Qd v2))]⟩)) hl15 rfl ?_ ?_
 ·rintro x7 o σ rfl h
  replace h:Qa8 l1 v2 x7=some o:=h
  unfold Qa8 at h
  refine Qa hC [.n 6] rfl tt_ ?_
  rcases bifE h with⟨hc11,h⟩|⟨hc11,h⟩
  ·obtain⟨e12,he12,h⟩:=Qb h
   obtain⟨x13,hx13,h⟩:=Qb h
   refine Qa hC [.br true,.n 7,.o (.row (Qv e12)),.v .no [] (.agg (Qv e12)),.n 3,.sayO 7 (.var (Qv e12)),.n 6,.v .no [] (.agg (Qv e12)),.cm (.clo) [(200000,200000)] [(200000,200000)] [] [.d,.d,.d] [(200000,.var (Qd v2))] (.i .i64 x13),.n 9] rfl ⟨⟨⟨⟨⟨⟨tt_,hc11⟩,(idxM he12)⟩,rfl⟩,rfl⟩,rfl⟩,(Qq6 _ _ _ hx13)⟩ ?_
   rcases bifE h with⟨hc14,h⟩|⟨hc14,h⟩
   ·refine Qa hC [.br true,.n 11,.keep [4,5] [200000]] rfl ⟨tt_,hc14⟩ ?_
    cases h
    exact rndR rfl (an_ rfl rfl)
   ·refine Qa hC [.br false,.n 7,.keep [1,9,10,11] [200000]] rfl ⟨tt_,hc14⟩ ?_
    cases h
    exact rndN rfl rfl
  ·refine Qa hC [.br false,.n 2,.keep [] [200000]] rfl ⟨tt_,hc11⟩ ?_
   cases h
   exact rndX rfl (an_ rfl rfl)
 ·rcases o15 with(⟨x9,x10⟩|_)
  ·replace h:QbT x9 x10=some r:=h
   unfold QbT at h
   rintro e σ ⟨rfl,rfl⟩
   refine Qa hC [.n 2,.keep [4,5] [200000]] rfl tt_ ?_
   cases h
   exact AK.done (ex_ [_,_] (an_ (an_ rfl (an_ rfl tt_)) (gives ⟨rfl,tt_⟩)))
  ·replace h:QbU=some r:=h
   unfold QbU at h
   rintro e σ ⟨rfl,rfl⟩
   refine Qa hC [.n 9,.keep [4,5] [200000]] rfl tt_ ?_
   cases h
   exact AK.done (ex_ [_,_] (an_ (an_ rfl (an_ rfl tt_)) (gives ⟨rfl,tt_⟩)))
def QaL (l1:(List Qr))(k2:Int):Option Bool:=
 some ((decide (0≤k2))&&(decide (k2<(l1.length:Int))))
theorem QiG (l1:(List Qr))(k2:Int){r:Bool}(h:QaL l1 k2=some r):Qc Tryz.prog 111 [.sl 14 (l1.map Qi),.i .i64 k2] [] (Gives (.b r) []):=by
 refine Qc.walk 13 Tryz.func111 rfl Tryz.ntmps111 rfl fun C hC=>?_
 unfold QaL at h
 refine Qa hC [.n 6] rfl tt_ ?_
 refine AK.meetX (fun σ=>σ=⟨[(4,.b ((decide (0≤k2))&&(decide (k2<(l1.length:Int)))))],[]⟩) ?_ ?_
 ·refine Qa hC [.n 4] rfl tt_ ?_
  rcases QN (decide (0≤k2))with hc5 | hc5
  ·refine Qa hC [.say 7 (.b true),.n 2,.o (.ln l1.length),.n 4,.say 4 (.b ((decide (0≤k2))&&(decide (k2<(l1.length:Int))))),.keep [4] []] rfl ⟨⟨⟨tt_,(congrArg V.b hc5)⟩,Qf⟩,(congrArg V.b (andT hc5 rfl))⟩ ?_
   exact AK.met rfl
  ·refine Qa hC [.say 7 (.b false),.n 7,.say 4 (.b ((decide (0≤k2))&&(decide (k2<(l1.length:Int))))),.keep [4] []] rfl ⟨⟨tt_,(congrArg V.b hc5)⟩,(congrArg V.b (andF hc5 rfl))⟩ ?_
   exact AK.met rfl
 ·rintro σ rfl
  refine Qa hC [.n 2,.keep [4] []] rfl tt_ ?_
  cases h
  exact AK.done (ex_ [_] (an_ (an_ rfl tt_) (gives tt_)))
def Qib (v1:Int)(v2:TNet)(v3:Qr):Option Unit:=
 some ()
theorem Qq7 (v1:Int)(v2:TNet)(v3:Qr){r:Unit}(h:Qib v1 v2 v3=some r):Qc Tryz.prog 172 [.loc 200000 0 0,.clo (.func 173) [] [.loc 200001 0 0,.loc 200002 0 0]] [(200000,.var (Qe v1)),(200001,.var (Qd v2)),(200002,.var (Qi v3))] (Gives (.clo (.func 215) [] [.loc 3 0 0,.loc 2 0 0]) [(2,.var [.loc 200000 0 0]),(3,.var [.clo (.func 173) [] [.loc 200001 0 0,.loc 200002 0 0]]),(200000,.var (Qe v1)),(200001,.var (Qd v2)),(200002,.var (Qi v3))]):=by
 refine Qc.walk 6 Tryz.func172 rfl Tryz.ntmps172 rfl fun C hC=>?_
 unfold Qib at h
 refine Qa hC [.n 14,.keep [4] [2,3,200000,200001,200002]] rfl tt_ ?_
 cases h
 exact AK.done (ex_ [_] (an_ (an_ rfl tt_) (gives ⟨rfl,rfl,rfl,rfl,rfl,tt_⟩)))
def QfJ (v1:Int)(v2:TNet)(v3:Qr)(v4:Int):Option Unit:=
 some ()
theorem QoY (v1:Int)(v2:TNet)(v3:Qr)(v4:Int){r:Unit}(h:QfJ v1 v2 v3 v4=some r):Qc Tryz.prog 172 [.loc 200000 0 0,.clo (.func 177) [] [.loc 200001 0 0,.loc 200002 0 0,.loc 200003 0 0]] [(200000,.var (Qe v1)),(200001,.var (Qd v2)),(200002,.var (Qi v3)),(200003,.var (Qe v4))] (Gives (.clo (.func 215) [] [.loc 3 0 0,.loc 2 0 0]) [(2,.var [.loc 200000 0 0]),(3,.var [.clo (.func 177) [] [.loc 200001 0 0,.loc 200002 0 0,.loc 200003 0 0]]),(200000,.var (Qe v1)),(200001,.var (Qd v2)),(200002,.var (Qi v3)),(200003,.var (Qe v4))]):=by
 refine Qc.walk 6 Tryz.func172 rfl Tryz.ntmps172 rfl fun C hC=>?_
 unfold QfJ at h
 refine Qa hC [.n 14,.keep [4] [2,3,200000,200001,200002,200003]] rfl tt_ ?_
 cases h
 exact AK.done (ex_ [_] (an_ (an_ rfl tt_) (gives ⟨rfl,rfl,rfl,rfl,rfl,rfl,tt_⟩)))
def QfK (v1:Int)(v2:TNet)(v3:Qr)(v4:Int):Option Unit:=
 some ()
theorem QoZ (v1:Int)(v2:TNet)(v3:Qr)(v4:Int){r:Unit}(h:QfK v1 v2 v3 v4=some r):Qc Tryz.prog 172 [.loc 200000 0 0,.clo (.func 179) [] [.loc 200001 0 0,.loc 200002 0 0,.loc 200003 0 0]] [(200000,.var (Qe v1)),(200001,.var (Qd v2)),(200002,.var (Qi v3)),(200003,.var (Qe v4))] (Gives (.clo (.func 215) [] [.loc 3 0 0,.loc 2 0 0]) [(2,.var [.loc 200000 0 0]),(3,.var [.clo (.func 179) [] [.loc 200001 0 0,.loc 200002 0 0,.loc 200003 0 0]]),(200000,.var (Qe v1)),(200001,.var (Qd v2)),(200002,.var (Qi v3)),(200003,.var (Qe v4))]):=by
 refine Qc.walk 6 Tryz.func172 rfl Tryz.ntmps172 rfl fun C hC=>?_
 unfold QfK at h
 refine Qa hC [.n 14,.keep [4] [2,3,200000,200001,200002,200003]] rfl tt_ ?_
 cases h
 exact AK.done (ex_ [_] (an_ (an_ rfl tt_) (gives ⟨rfl,rfl,rfl,rfl,rfl,rfl,tt_⟩)))
def QfL (v1:Int)(v2:TNet)(v3:Qr):Option Unit:=
 some ()
theorem Qo0 (v1:Int)(v2:TNet)(v3:Qr){r:Unit}(h:QfL v1 v2 v3=some r):Qc Tryz.prog 172 [.loc 200000 0 0,.clo (.func 180) [] [.loc 200001 0 0,.loc 200002 0 0]] [(200000,.var (Qe v1)),(200001,.var (Qd v2)),(200002,.var (Qi v3))] (Gives (.clo (.func 215) [] [.loc 3 0 0,.loc 2 0 0]) [(2,.var [.loc 200000 0 0]),(3,.var [.clo (.func 180) [] [.loc 200001 0 0,.loc 200002 0 0]]),(200000,.var (Qe v1)),(200001,.var (Qd v2)),(200002,.var (Qi v3))]):=by
 refine Qc.walk 6 Tryz.func172 rfl Tryz.ntmps172 rfl fun C hC=>?_
 unfold QfL at h
 refine Qa hC [.n 14,.keep [4] [2,3,200000,200001,200002]] rfl tt_ ?_
 cases h
 exact AK.done (ex_ [_] (an_ (an_ rfl tt_) (gives ⟨rfl,rfl,rfl,rfl,rfl,tt_⟩)))
def Qhl (v1:Qr):Option Bool:=
 (Qdl v1.Name).bind fun x3=>
 some x3
theorem Qql (v1:Qr){r:Bool}(h:Qhl v1=some r):Qc Tryz.prog 168 [.loc 200000 0 0] [(200000,.var (Qi v1))] (Gives (.b r) [(200000,.var (Qi v1))]):=by
 refine Qc.walk 5 Tryz.func168 rfl Tryz.ntmps168 rfl fun C hC=>?_
 unfold Qhl at h
 obtain⟨x3,hx3,h⟩:=Qb h
 refine Qa hC [.n 9,.o (.c false [.d] (.b x3)),.n 4,.keep [1] [200000]] rfl ⟨tt_,(Qgw _ hx3)⟩ ?_
 cases h
 exact AK.done (ex_ [_] (an_ (an_ rfl tt_) (gives ⟨rfl,tt_⟩)))
def Qhm (p1:Qr)(v2:Qr):Option Bool:=
 some (QhI p1.Name v2.Name)
theorem Qqm (p1:Qr)(v2:Qr){r:Bool}(h:Qhm p1 v2=some r):Qc Tryz.prog 167 [.agg (Qi p1),.loc 200000 0 0] [(200000,.var (Qi v2))] (Gives (.b r) [(200000,.var (Qi v2))]):=by
 refine Qc.walk 9 Tryz.func167 rfl Tryz.ntmps167 rfl fun C hC=>?_
 unfold Qhm at h
 refine Qa hC [.n 17,.keep [3] [200000]] rfl tt_ ?_
 cases h
 exact AK.done (ex_ [_] (an_ (an_ rfl tt_) (gives ⟨rfl,tt_⟩)))
def QV (s1:(List Qr))(v2:Qr)(x5:Int):Option (Int⊕(Int⊕Unit)):=
 bif (decide (x5<(s1.length:Int)))then
 (idx s1 x5).bind fun e9=>
 (Qhm e9 v2).bind fun x10=>
 bif x10 then
 some (.inr (.inl x5))
 else
 some (.inl (w64 (x5+1)))
 else
 some (.inr (.inr ()))
def Qae (x7:Int):Option Int:=
 some x7
def Qaf : Option Int:=
 some (-1)
def Qax (s1:(List Qr))(v2:Qr):Option Int:=
 (QA (fun st=>QV s1 v2 st) 0).bind (Sum.elim (fun q=>Qae q) (fun q=>Qaf))
theorem Qic (s1:(List Qr))(v2:Qr){r:Int}(h:Qax s1 v2=some r):Qc Tryz.prog 214 [.sl 14 (s1.map Qi),.clo (.func 167) [] [.loc 200000 0 0]] [(200000,.var (Qi v2))] (Gives (.i .i64 r) [(200000,.var (Qi v2))]):=by
 refine Qc.walk 19 Tryz.func214 rfl Tryz.ntmps214 rfl fun C hC=>?_
 unfold Qax at h
 refine Qa hC [.n 9,.o (.ln s1.length),.n 4,.keep [0,1,7,8] [200000]] rfl ⟨tt_,Qf⟩ ?_
 obtain⟨o12,hl12,h⟩:=Qb h
 refine AK.loop (body:=(fun st=>QV s1 v2 st)) (fun st σ=>σ=⟨[(0,.sl 14 (s1.map Qi)),(1,.clo (.func 167) [] [.loc 200000 0 0]),(7,.i .i64 (s1.length:Int)),(8,.i .i64 st)],[(200000,.var (Qi v2))]⟩) (Sum.elim (fun q e σ=>e=.ret∧σ=⟨[(4,.i .i64 q)],[(200000,.var (Qi v2))]⟩) (fun q e σ=>e=.exit 0∧σ=⟨[],[(200000,.var (Qi v2))]⟩)) hl12 rfl ?_ ?_
 ·rintro x5 o σ rfl h
  replace h:QV s1 v2 x5=some o:=h
  unfold QV at h
  refine Qa hC [.n 6] rfl tt_ ?_
  rcases bifE h with⟨hc8,h⟩|⟨hc8,h⟩
  ·obtain⟨e9,he9,h⟩:=Qb h
   obtain⟨x10,hx10,h⟩:=Qb h
   refine Qa hC [.br true,.n 15,.o (.row (Qi e9)),.v .no [] (.agg (Qi e9)),.cm (.clo) [(200000,200000)] [(200000,200000)] [] [.d,.d] [(200000,.var (Qi v2))] (.b x10),.n 2] rfl ⟨⟨⟨⟨tt_,hc8⟩,(idxM he9)⟩,rfl⟩,(Qqm _ _ hx10)⟩ ?_
   rcases bifE h with⟨hc11,h⟩|⟨hc11,h⟩
   ·refine Qa hC [.br true,.n 9,.keep [4] [200000]] rfl ⟨tt_,hc11⟩ ?_
    cases h
    exact rndR rfl (an_ rfl rfl)
   ·refine Qa hC [.br false,.n 7,.keep [0,1,7,8] [200000]] rfl ⟨tt_,hc11⟩ ?_
    cases h
    exact rndN rfl rfl
  ·refine Qa hC [.br false,.n 2,.keep [] [200000]] rfl ⟨tt_,hc8⟩ ?_
   cases h
   exact rndX rfl (an_ rfl rfl)
 ·rcases o12 with(x7 | _)
  ·replace h:Qae x7=some r:=h
   unfold Qae at h
   rintro e σ ⟨rfl,rfl⟩
   refine Qa hC [.n 2,.keep [4] [200000]] rfl tt_ ?_
   cases h
   exact AK.done (ex_ [_] (an_ (an_ rfl tt_) (gives ⟨rfl,tt_⟩)))
  ·replace h:Qaf=some r:=h
   unfold Qaf at h
   rintro e σ ⟨rfl,rfl⟩
   refine Qa hC [.n 8,.keep [4] [200000]] rfl tt_ ?_
   cases h
   exact AK.done (ex_ [_] (an_ (an_ rfl tt_) (gives ⟨rfl,tt_⟩)))
def Qag (s1:(List Qr))(v2:Qr):Option Bool:=
 (Qax s1 v2).bind fun x4=>
 some (decide (0≤x4))
theorem Qhn (s1:(List Qr))(v2:Qr){r:Bool}(h:Qag s1 v2=some r):Qc Tryz.prog 170 [.sl 14 (s1.map Qi),.clo (.func 167) [] [.loc 200000 0 0]] [(200000,.var (Qi v2))] (Gives (.b r) [(200000,.var (Qi v2))]):=by
 refine Qc.walk 9 Tryz.func170 rfl Tryz.ntmps170 rfl fun C hC=>?_
 unfold Qag at h
 obtain⟨x4,hx4,h⟩:=Qb h
 refine Qa hC [.n 9,.cm (.fn) [(200000,200000)] [(200000,200000)] [] [.d,.d] [(200000,.var (Qi v2))] (.i .i64 x4),.n 5,.keep [4] [200000]] rfl ⟨tt_,(Qic _ _ hx4)⟩ ?_
 cases h
 exact AK.done (ex_ [_] (an_ (an_ rfl tt_) (gives ⟨rfl,tt_⟩)))
def Qho (v1:TNet)(v2:Int)(v3:Qr):Option Bool:=
 (chk (decide (0≤v2)&&decide (0≤v2.toNat)&&decide (v2.toNat≤v1.Tasks.length))).bind fun _=>
 (Qag ((v1.Tasks.drop 0).take (v2.toNat-0)) v3).bind fun x6=>
 some (!x6)
theorem Qqn (v1:TNet)(v2:Int)(v3:Qr){r:Bool}(h:Qho v1 v2 v3=some r):Qc Tryz.prog 169 [.loc 200000 0 0,.loc 200001 0 0,.loc 200002 0 0] [(200000,.var (Qd v1)),(200001,.var (Qe v2)),(200002,.var [.clo (.func 167) [] [.loc 200003 0 0]]),(200003,.var (Qi v3))] (Gives (.b r) [(200000,.var (Qd v1)),(200001,.var (Qe v2)),(200002,.var [.clo (.func 167) [] [.loc 200003 0 0]]),(200003,.var (Qi v3))]):=by
 refine Qc.walk 11 Tryz.func169 rfl Tryz.ntmps169 rfl fun C hC=>?_
 unfold Qho at h
 obtain⟨_,hk5,h⟩:=Qb h
 replace hk5:=chkE hk5
 obtain⟨x6,hx6,h⟩:=Qb h
 refine Qa hC [.n 6,.keep [0,1,2,3] [200000,200001,200002,200003]] rfl tt_ ?_
 refine AK.draw2 Qo hC mixed [.a .no none false,.a .no none false,.a .no none false,.a (.any (.sl 14 (((v1.Tasks.drop 0).take (v2.toNat-0)).map Qi)) none) none false,.a .no none false,.a (.any (.b x6) none) none false,.a .no none false,.m .s] [] [] [3] [200000,200001,200002,200003] rfl rfl rfl ⟨⟨tt_,(fun σ h1 h2 _=>Stp.sliceD rfl rfl (bleN hC.n rfl) (h1 _ _ rfl) (Qo.es rfl) Bnd.no (Bnd.val (h1 _ _ rfl) (of_decide_eq_true (Qpo hk5)) rfl) (of_decide_eq_true (Qpp hk5)) (Nat.le_trans (of_decide_eq_true (Qpq hk5)) (Nat.le_of_eq Qf.symm)) QrF)⟩,(fun σ h1 h2 _=>Stp.callSame (md:=.cm (.fn) [(200000,200003)] [(200003,200000)] [] [.d,.d] [(200000,.var (Qi v3))] (.b x6) [200003]) Qo hC h1 h2 rfl ⟨⟨tt_,(Qhn _ _ hx6)⟩,⟨rfl,tt_⟩⟩)⟩ rfl (by kernel_rfl) rfl rfl rfl ?_
 refine Qa hC [.n 2,.keep [3] [200000,200001,200002,200003]] rfl tt_ ?_
 cases h
 exact AK.done (ex_ [_] (an_ (an_ rfl tt_) (gives ⟨rfl,rfl,rfl,rfl,tt_⟩)))
def Qfi (v1:Int)(v2:Qr):Option Bool:=
 some ((decide (v1≤16))&&(decide ((max2 (max2 (v2.Ins.length:Int) (v2.Outs.length:Int)) (v2.Cancel.length:Int))≤16)))
theorem Qqo (v1:Int)(v2:Qr){r:Bool}(h:Qfi v1 v2=some r):Qc Tryz.prog 171 [.loc 200000 0 0,.loc 200001 0 0] [(200000,.var (Qe v1)),(200001,.var (Qi v2))] (Gives (.b r) [(200000,.var (Qe v1)),(200001,.var (Qi v2))]):=by
 refine Qc.walk 18 Tryz.func171 rfl Tryz.ntmps171 rfl fun C hC=>?_
 unfold Qfi at h
 refine Qa hC [.n 6] rfl tt_ ?_
 refine AK.meetX (fun σ=>σ=⟨[(2,.b ((decide (v1≤16))&&(decide ((max2 (max2 (v2.Ins.length:Int) (v2.Outs.length:Int)) (v2.Cancel.length:Int))≤16))))],[(200000,.var (Qe v1)),(200001,.var (Qi v2))]⟩) ?_ ?_
 ·refine Qa hC [.n 4] rfl tt_ ?_
  rcases QN (decide (v1≤16))with hc5 | hc5
  ·refine Qa hC [.say 5 (.b true),.n 2,.o (.ln v2.Ins.length),.n 2,.o (.ln v2.Outs.length),.n 2,.o (.ln v2.Cancel.length),.o (.any (.i .i64 (max2 (max2 (v2.Ins.length:Int) (v2.Outs.length:Int)) (v2.Cancel.length:Int))) none),.n 4,.say 2 (.b ((decide (v1≤16))&&(decide ((max2 (max2 (v2.Ins.length:Int) (v2.Outs.length:Int)) (v2.Cancel.length:Int))≤16)))),.keep [2] [200000,200001]] rfl ⟨⟨⟨⟨⟨⟨tt_,(congrArg V.b hc5)⟩,Qf⟩,Qf⟩,Qf⟩,(fun σ h1 h2 _=>Stp.max3 rfl rfl (bleN hC.n rfl) (h1 _ _ rfl) (h1 _ _ rfl) (h1 _ _ rfl))⟩,(congrArg V.b (andT hc5 rfl))⟩ ?_
   exact AK.met rfl
  ·refine Qa hC [.say 5 (.b false),.n 14,.say 2 (.b ((decide (v1≤16))&&(decide ((max2 (max2 (v2.Ins.length:Int) (v2.Outs.length:Int)) (v2.Cancel.length:Int))≤16)))),.keep [2] [200000,200001]] rfl ⟨⟨tt_,(congrArg V.b hc5)⟩,(congrArg V.b (andF hc5 rfl))⟩ ?_
   exact AK.met rfl
 ·rintro σ rfl
  refine Qa hC [.n 2,.keep [2] [200000,200001]] rfl tt_ ?_
  cases h
  exact AK.done (ex_ [_] (an_ (an_ rfl tt_) (gives ⟨rfl,rfl,tt_⟩)))
def Qc1 (v1:TVar):Option Bool:=
 (Qdl v1.Name).bind fun x3=>
 some x3
theorem QmZ (v1:TVar){r:Bool}(h:Qc1 v1=some r):Qc Tryz.prog 219 [.loc 200000 0 0] [(200000,.var (QE v1))] (Gives (.b r) [(200000,.var (QE v1))]):=by
 refine Qc.walk 5 Tryz.func219 rfl Tryz.ntmps219 rfl fun C hC=>?_
 unfold Qc1 at h
 obtain⟨x3,hx3,h⟩:=Qb h
 refine Qa hC [.n 9,.o (.c false [.d] (.b x3)),.n 4,.keep [1] [200000]] rfl ⟨tt_,(Qgw _ hx3)⟩ ?_
 cases h
 exact AK.done (ex_ [_] (an_ (an_ rfl tt_) (gives ⟨rfl,tt_⟩)))
def Qc2 (p1:TVar)(v2:TVar):Option Bool:=
 some (QhI p1.Name v2.Name)
theorem Qm0 (p1:TVar)(v2:TVar){r:Bool}(h:Qc2 p1 v2=some r):Qc Tryz.prog 218 [.agg (QE p1),.loc 200000 0 0] [(200000,.var (QE v2))] (Gives (.b r) [(200000,.var (QE v2))]):=by
 refine Qc.walk 9 Tryz.func218 rfl Tryz.ntmps218 rfl fun C hC=>?_
 unfold Qc2 at h
 refine Qa hC [.n 17,.keep [3] [200000]] rfl tt_ ?_
 cases h
 exact AK.done (ex_ [_] (an_ (an_ rfl tt_) (gives ⟨rfl,tt_⟩)))
def QZ (s1:(List TVar))(v2:TVar)(x5:Int):Option (Int⊕(Int⊕Unit)):=
 bif (decide (x5<(s1.length:Int)))then
 (idx s1 x5).bind fun e9=>
 (Qc2 e9 v2).bind fun x10=>
 bif x10 then
 some (.inr (.inl x5))
 else
 some (.inl (w64 (x5+1)))
 else
 some (.inr (.inr ()))
def Qap (x7:Int):Option Int:=
 some x7
def Qaq : Option Int:=
 some (-1)
def QaI (s1:(List TVar))(v2:TVar):Option Int:=
 (QA (fun st=>QZ s1 v2 st) 0).bind (Sum.elim (fun q=>Qap q) (fun q=>Qaq))
theorem QiJ (s1:(List TVar))(v2:TVar){r:Int}(h:QaI s1 v2=some r):Qc Tryz.prog 255 [.sl 2 (s1.map QE),.clo (.func 218) [] [.loc 200000 0 0]] [(200000,.var (QE v2))] (Gives (.i .i64 r) [(200000,.var (QE v2))]):=by
 refine Qc.walk 19 Tryz.func255 rfl Tryz.ntmps255 rfl fun C hC=>?_
 unfold QaI at h
 refine Qa hC [.n 9,.o (.ln s1.length),.n 4,.keep [0,1,7,8] [200000]] rfl ⟨tt_,Qf⟩ ?_
 obtain⟨o12,hl12,h⟩:=Qb h
 refine AK.loop (body:=(fun st=>QZ s1 v2 st)) (fun st σ=>σ=⟨[(0,.sl 2 (s1.map QE)),(1,.clo (.func 218) [] [.loc 200000 0 0]),(7,.i .i64 (s1.length:Int)),(8,.i .i64 st)],[(200000,.var (QE v2))]⟩) (Sum.elim (fun q e σ=>e=.ret∧σ=⟨[(4,.i .i64 q)],[(200000,.var (QE v2))]⟩) (fun q e σ=>e=.exit 0∧σ=⟨[],[(200000,.var (QE v2))]⟩)) hl12 rfl ?_ ?_
 ·rintro x5 o σ rfl h
  replace h:QZ s1 v2 x5=some o:=h
  unfold QZ at h
  refine Qa hC [.n 6] rfl tt_ ?_
  rcases bifE h with⟨hc8,h⟩|⟨hc8,h⟩
  ·obtain⟨e9,he9,h⟩:=Qb h
   obtain⟨x10,hx10,h⟩:=Qb h
   refine Qa hC [.br true,.n 15,.o (.row (QE e9)),.v .no [] (.agg (QE e9)),.cm (.clo) [(200000,200000)] [(200000,200000)] [] [.d,.d] [(200000,.var (QE v2))] (.b x10),.n 2] rfl ⟨⟨⟨⟨tt_,hc8⟩,(idxM he9)⟩,rfl⟩,(Qm0 _ _ hx10)⟩ ?_
   rcases bifE h with⟨hc11,h⟩|⟨hc11,h⟩
   ·refine Qa hC [.br true,.n 9,.keep [4] [200000]] rfl ⟨tt_,hc11⟩ ?_
    cases h
    exact rndR rfl (an_ rfl rfl)
   ·refine Qa hC [.br false,.n 7,.keep [0,1,7,8] [200000]] rfl ⟨tt_,hc11⟩ ?_
    cases h
    exact rndN rfl rfl
  ·refine Qa hC [.br false,.n 2,.keep [] [200000]] rfl ⟨tt_,hc8⟩ ?_
   cases h
   exact rndX rfl (an_ rfl rfl)
 ·rcases o12 with(x7 | _)
  ·replace h:Qap x7=some r:=h
   unfold Qap at h
   rintro e σ ⟨rfl,rfl⟩
   refine Qa hC [.n 2,.keep [4] [200000]] rfl tt_ ?_
   cases h
   exact AK.done (ex_ [_] (an_ (an_ rfl tt_) (gives ⟨rfl,tt_⟩)))
  ·replace h:Qaq=some r:=h
   unfold Qaq at h
   rintro e σ ⟨rfl,rfl⟩
   refine Qa hC [.n 8,.keep [4] [200000]] rfl tt_ ?_
   cases h
   exact AK.done (ex_ [_] (an_ (an_ rfl tt_) (gives ⟨rfl,tt_⟩)))
def Qar (s1:(List TVar))(v2:TVar):Option Bool:=
 (QaI s1 v2).bind fun x4=>
 some (decide (0≤x4))
theorem QhZ (s1:(List TVar))(v2:TVar){r:Bool}(h:Qar s1 v2=some r):Qc Tryz.prog 221 [.sl 2 (s1.map QE),.clo (.func 218) [] [.loc 200000 0 0]] [(200000,.var (QE v2))] (Gives (.b r) [(200000,.var (QE v2))]):=by
 refine Qc.walk 9 Tryz.func221 rfl Tryz.ntmps221 rfl fun C hC=>?_
 unfold Qar at h
 obtain⟨x4,hx4,h⟩:=Qb h
 refine Qa hC [.n 9,.cm (.fn) [(200000,200000)] [(200000,200000)] [] [.d,.d] [(200000,.var (QE v2))] (.i .i64 x4),.n 5,.keep [4] [200000]] rfl ⟨tt_,(QiJ _ _ hx4)⟩ ?_
 cases h
 exact AK.done (ex_ [_] (an_ (an_ rfl tt_) (gives ⟨rfl,tt_⟩)))
def Qc3 (v1:(List TVar))(v2:Int)(v3:TVar):Option Bool:=
 (chk (decide (0≤v2)&&decide (0≤v2.toNat)&&decide (v2.toNat≤v1.length))).bind fun _=>
 (Qar ((v1.drop 0).take (v2.toNat-0)) v3).bind fun x6=>
 some (!x6)
theorem Qm1 (v1:(List TVar))(v2:Int)(v3:TVar){r:Bool}(h:Qc3 v1 v2 v3=some r):Qc Tryz.prog 220 [.loc 200000 0 0,.loc 200001 0 0,.loc 200002 0 0] [(200000,.var (QbL v1)),(200001,.var (Qe v2)),(200002,.var [.clo (.func 218) [] [.loc 200003 0 0]]),(200003,.var (QE v3))] (Gives (.b r) [(200000,.var (QbL v1)),(200001,.var (Qe v2)),(200002,.var [.clo (.func 218) [] [.loc 200003 0 0]]),(200003,.var (QE v3))]):=by
 refine Qc.walk 10 Tryz.func220 rfl Tryz.ntmps220 rfl fun C hC=>?_
 unfold Qc3 at h
 obtain⟨_,hk5,h⟩:=Qb h
 replace hk5:=chkE hk5
 obtain⟨x6,hx6,h⟩:=Qb h
 refine Qa hC [.n 6,.keep [0,1,2,3] [200000,200001,200002,200003]] rfl tt_ ?_
 refine AK.draw2 Qo hC mixed [.a .no none false,.a .no none false,.a (.any (.sl 2 (((v1.drop 0).take (v2.toNat-0)).map QE)) none) none false,.a .no none false,.a (.any (.b x6) none) none false,.a .no none false,.m .s] [] [] [3] [200000,200001,200002,200003] rfl rfl rfl ⟨⟨tt_,(fun σ h1 h2 _=>Stp.sliceD rfl rfl (bleN hC.n rfl) (h1 _ _ rfl) (Qo.es rfl) Bnd.no (Bnd.val (h1 _ _ rfl) (of_decide_eq_true (Qpo hk5)) rfl) (of_decide_eq_true (Qpp hk5)) (Nat.le_trans (of_decide_eq_true (Qpq hk5)) (Nat.le_of_eq Qf.symm)) QrF)⟩,(fun σ h1 h2 _=>Stp.callSame (md:=.cm (.fn) [(200000,200003)] [(200003,200000)] [] [.d,.d] [(200000,.var (QE v3))] (.b x6) [200003]) Qo hC h1 h2 rfl ⟨⟨tt_,(QhZ _ _ hx6)⟩,⟨rfl,tt_⟩⟩)⟩ rfl (by kernel_rfl) rfl rfl rfl ?_
 refine Qa hC [.n 2,.keep [3] [200000,200001,200002,200003]] rfl tt_ ?_
 cases h
 exact AK.done (ex_ [_] (an_ (an_ rfl tt_) (gives ⟨rfl,rfl,rfl,rfl,tt_⟩)))
def Qc4 (v1:TNet)(v2:TVar):Option Bool:=
 (Qbo v1.Colours v2.Colour).bind fun x4=>
 some x4
theorem Qm2 (v1:TNet)(v2:TVar){r:Bool}(h:Qc4 v1 v2=some r):Qc Tryz.prog 222 [.loc 200000 0 0,.loc 200001 0 0] [(200000,.var (Qd v1)),(200001,.var (QE v2))] (Gives (.b r) [(200000,.var (Qd v1)),(200001,.var (QE v2))]):=by
 refine Qc.walk 8 Tryz.func222 rfl Tryz.ntmps222 rfl fun C hC=>?_
 unfold Qc4 at h
 obtain⟨x4,hx4,h⟩:=Qb h
 refine Qa hC [.n 11,.o (.c false [.d,.d] (.b x4)),.n 4,.keep [2] [200000,200001]] rfl ⟨tt_,(QhG _ _ hx4)⟩ ?_
 cases h
 exact AK.done (ex_ [_] (an_ (an_ rfl tt_) (gives ⟨rfl,rfl,tt_⟩)))
def QfM (v1:TVar)(v2:Int)(v3:(List TVar))(v4:Int)(v5:Int)(v6:TNet)(v7:Int):Option Int:=
 (Qc1 v1).bind fun x10=>
 bif (!x10)then
 some v2
 else
 (Qc3 v3 v4 v1).bind fun x12=>
 bif (!x12)then
 some v5
 else
 (Qc4 v6 v1).bind fun x14=>
 bif (!x14)then
 some v7
 else
 some 0
theorem Qo1 (v1:TVar)(v2:Int)(v3:(List TVar))(v4:Int)(v5:Int)(v6:TNet)(v7:Int){r:Int}(h:QfM v1 v2 v3 v4 v5 v6 v7=some r):Qc Tryz.prog 98 [.own 200000 3] [(200000,.var [.clo (.func 219) [] [.loc 200001 0 0],.i .i64 v2,.clo (.func 220) [] [.loc 200002 0 0,.loc 200003 0 0,.loc 200004 0 0],.i .i64 v5,.clo (.func 222) [] [.loc 200005 0 0,.loc 200001 0 0],.i .i64 v7]),(200001,.var (QE v1)),(200002,.var (QbL v3)),(200003,.var (Qe v4)),(200004,.var [.clo (.func 218) [] [.loc 200001 0 0]]),(200005,.var (Qd v6))] (Gives (.i .i64 r) [(200000,.var [.clo (.func 219) [] [.loc 200001 0 0],.i .i64 v2,.clo (.func 220) [] [.loc 200002 0 0,.loc 200003 0 0,.loc 200004 0 0],.i .i64 v5,.clo (.func 222) [] [.loc 200005 0 0,.loc 200001 0 0],.i .i64 v7]),(200001,.var (QE v1)),(200002,.var (QbL v3)),(200003,.var (Qe v4)),(200004,.var [.clo (.func 218) [] [.loc 200001 0 0]]),(200005,.var (Qd v6))]):=by
 refine Qc.walk 18 Tryz.func98 rfl Tryz.ntmps98 rfl fun C hC=>?_
 unfold QfM at h
 refine Qa hC [.n 14] rfl tt_ ?_
 refine AK.loopN 4 (AK.rnd ?_)
 obtain⟨x10,hx10,h⟩:=Qb h
 refine Qa hC [.n 2,.v .no [] (.b true),.n 10,.o (.any (.loc 200000 0 0) none),.n 3,.sayO 4 (.var [.clo (.func 219) [] [.loc 200001 0 0],.i .i64 v2]),.n 6,.cm (.clo) [(200000,200001)] [(200001,200000)] [] [.d] [(200000,.var (QE v1))] (.b x10),.n 3] rfl ⟨⟨⟨⟨tt_,rfl⟩,(fun σ h1 h2 _=>Stp.idxV rfl rfl (bleN hC.n rfl) (h1 _ _ rfl) (h1 _ _ rfl) (Qo.es rfl) (h2 _ _ rfl) (by decide))⟩,rfl⟩,(QmZ _ hx10)⟩ ?_
 rcases bifE h with⟨hc11,h⟩|⟨hc11,h⟩
 ·refine Qa hC [.br true,.n 13,.keep [2] [200000,200001,200002,200003,200004,200005]] rfl ⟨tt_,hc11⟩ ?_
  cases h
  exact AK.done (ex_ [_] (an_ (an_ rfl tt_) (gives ⟨rfl,rfl,rfl,rfl,rfl,rfl,tt_⟩)))
 ·refine Qa hC [.br false,.n 4,.v .no [] (.i .i64 1),.n 2] rfl ⟨⟨tt_,hc11⟩,rfl⟩ ?_
  refine AK.met (AK.rnd ?_)
  obtain⟨x12,hx12,h⟩:=Qb h
  refine Qa hC [.n 2,.v .no [] (.b true),.n 10,.o (.any (.loc 200000 0 2) none),.n 1,.kill 4,.n 2,.sayO 4 (.var [.clo (.func 220) [] [.loc 200002 0 0,.loc 200003 0 0,.loc 200004 0 0],.i .i64 v5]),.n 6,.cm (.clo) [(200000,200002),(200001,200003),(200002,200004),(200003,200001)] [(200002,200000),(200003,200001),(200004,200002),(200001,200003)] [] [.d,.d,.d] [(200000,.var (QbL v3)),(200001,.var (Qe v4)),(200002,.var [.clo (.func 218) [] [.loc 200003 0 0]]),(200003,.var (QE v1))] (.b x12),.n 3] rfl ⟨⟨⟨⟨tt_,rfl⟩,(fun σ h1 h2 _=>Stp.idxV rfl rfl (bleN hC.n rfl) (h1 _ _ rfl) (h1 _ _ rfl) (Qo.es rfl) (h2 _ _ rfl) (by decide))⟩,rfl⟩,(Qm1 _ _ _ hx12)⟩ ?_
  rcases bifE h with⟨hc13,h⟩|⟨hc13,h⟩
  ·refine Qa hC [.br true,.n 13,.keep [2] [200000,200001,200002,200003,200004,200005]] rfl ⟨tt_,hc13⟩ ?_
   cases h
   exact AK.done (ex_ [_] (an_ (an_ rfl tt_) (gives ⟨rfl,rfl,rfl,rfl,rfl,rfl,tt_⟩)))
  ·refine Qa hC [.br false,.n 4,.v .no [] (.i .i64 2),.n 2] rfl ⟨⟨tt_,hc13⟩,rfl⟩ ?_
   refine AK.met (AK.rnd ?_)
   obtain⟨x14,hx14,h⟩:=Qb h
   refine Qa hC [.n 2,.v .no [] (.b true),.n 10,.o (.any (.loc 200000 0 4) none),.n 1,.kill 4,.n 2,.sayO 4 (.var [.clo (.func 222) [] [.loc 200005 0 0,.loc 200001 0 0],.i .i64 v7]),.n 6,.cm (.clo) [(200000,200005),(200001,200001)] [(200005,200000),(200001,200001)] [] [.d,.d] [(200000,.var (Qd v6)),(200001,.var (QE v1))] (.b x14),.n 3] rfl ⟨⟨⟨⟨tt_,rfl⟩,(fun σ h1 h2 _=>Stp.idxV rfl rfl (bleN hC.n rfl) (h1 _ _ rfl) (h1 _ _ rfl) (Qo.es rfl) (h2 _ _ rfl) (by decide))⟩,rfl⟩,(Qm2 _ _ hx14)⟩ ?_
   rcases bifE h with⟨hc15,h⟩|⟨hc15,h⟩
   ·refine Qa hC [.br true,.n 13,.keep [2] [200000,200001,200002,200003,200004,200005]] rfl ⟨tt_,hc15⟩ ?_
    cases h
    exact AK.done (ex_ [_] (an_ (an_ rfl tt_) (gives ⟨rfl,rfl,rfl,rfl,rfl,rfl,tt_⟩)))
   ·refine Qa hC [.br false,.n 4,.v .no [] (.i .i64 3),.n 2] rfl ⟨⟨tt_,hc15⟩,rfl⟩ ?_
    refine AK.met (AK.rnd ?_)
    refine Qa hC [.n 2,.v .no [] (.b false),.n 15,.keep [2] [200000,200001,200002,200003,200004,200005]] rfl ⟨tt_,rfl⟩ ?_
    cases h
    exact AK.done (ex_ [_] (an_ (an_ rfl tt_) (gives ⟨rfl,rfl,rfl,rfl,rfl,rfl,tt_⟩)))
def QdK (k1:Int)(v2:TVar)(v3:(List TVar))(v4:TNet):Option Int:=
 (QfM v2 1 v3 k1 5 v4 3).bind fun x6=>
 some x6
theorem QnM (k1:Int)(v2:TVar)(v3:(List TVar))(v4:TNet){r:Int}(h:QdK k1 v2 v3 v4=some r):Qc Tryz.prog 217 [.i .i64 k1,.agg (QE v2),.loc 200000 0 0,.loc 200001 0 0] [(200000,.var (QbL v3)),(200001,.var (Qd v4))] (Gives (.i .i64 r) [(200000,.var (QbL v3)),(200001,.var (Qd v4))]):=by
 refine Qc.walk 17 Tryz.func217 rfl Tryz.ntmps217 rfl fun C hC=>?_
 unfold QdK at h
 obtain⟨x6,hx6,h⟩:=Qb h
 refine Qa hC [.n 12,.sayO 7 (.var [.clo (.func 218) [] [.loc 5 0 0]]),.n 5,.v .no [] (.agg [.clo (.func 219) [] [.loc 5 0 0],.i .i64 1]),.n 1,.v .no [] (.agg [.clo (.func 220) [] [.loc 200000 0 0,.loc 4 0 0,.loc 7 0 0],.i .i64 5]),.n 1,.v .no [] (.agg [.clo (.func 222) [] [.loc 200001 0 0,.loc 5 0 0],.i .i64 3]),.o (.any (.own 15 3) (some (.var [.clo (.func 219) [] [.loc 5 0 0],.i .i64 1,.clo (.func 220) [] [.loc 200000 0 0,.loc 4 0 0,.loc 7 0 0],.i .i64 5,.clo (.func 222) [] [.loc 200001 0 0,.loc 5 0 0],.i .i64 3]))),.cm (.fn) [(200000,15),(200001,5),(200002,200000),(200003,4),(200004,7),(200005,200001)] [(15,200000),(5,200001),(200000,200002),(4,200003),(7,200004),(200001,200005)] [] [.d] [(200000,.var [.clo (.func 219) [] [.loc 200001 0 0],.i .i64 1,.clo (.func 220) [] [.loc 200002 0 0,.loc 200003 0 0,.loc 200004 0 0],.i .i64 5,.clo (.func 222) [] [.loc 200005 0 0,.loc 200001 0 0],.i .i64 3]),(200001,.var (QE v2)),(200002,.var (QbL v3)),(200003,.var (Qe k1)),(200004,.var [.clo (.func 218) [] [.loc 200001 0 0]]),(200005,.var (Qd v4))] (.i .i64 x6),.n 4,.keep [6] [200000,200001]] rfl ⟨⟨⟨⟨⟨⟨tt_,rfl⟩,rfl⟩,rfl⟩,rfl⟩,(fun σ h1 h2 hf=>Stp.buildAny rfl rfl (bleN hC.n rfl) (Qo.es rfl) QlQ rfl (by decide) (by decide) (Qfm h1 rfl) rfl rfl (hf rfl))⟩,(Qo1 _ _ _ _ _ _ _ hx6)⟩ ?_
 cases h
 exact AK.done (ex_ [_] (an_ (an_ rfl tt_) (gives ⟨rfl,rfl,tt_⟩)))
def Qbw (l1:(List TVar))(v2:(List TVar))(v3:TNet)(x8:Int):Option (Int⊕((Int×Int)⊕Unit)):=
 bif (decide (x8<(l1.length:Int)))then
 (idx l1 x8).bind fun e13=>
 (QdK x8 e13 v2 v3).bind fun x14=>
 bif (x14 != 0)then
 some (.inr (.inl (x8,x14)))
 else
 some (.inl (w64 (x8+1)))
 else
 some (.inr (.inr ()))
def Qci (x10:Int)(x11:Int):Option (Int×Int):=
 some (x10,x11)
def Qcj : Option (Int×Int):=
 some (0,0)
def Qdm (l1:(List TVar))(v2:(List TVar))(v3:TNet):Option (Int×Int):=
 (QA (fun st=>Qbw l1 v2 v3 st) 0).bind (Sum.elim (fun q=>Qci q.1 q.2) (fun q=>Qcj))
theorem Qnf (l1:(List TVar))(v2:(List TVar))(v3:TNet){r:(Int×Int)}(h:Qdm l1 v2 v3=some r):Qc Tryz.prog 216 [.sl 2 (l1.map QE),.clo (.func 217) [] [.loc 200000 0 0,.loc 200001 0 0]] [(200000,.var (QbL v2)),(200001,.var (Qd v3))] (Gives (.tup [.i .i64 r.1,.i .i64 r.2]) [(200000,.var (QbL v2)),(200001,.var (Qd v3))]):=by
 refine Qc.walk 25 Tryz.func216 rfl Tryz.ntmps216 rfl fun C hC=>?_
 unfold Qdm at h
 refine Qa hC [.n 10,.o (.ln l1.length),.n 4,.keep [1,9,10,11] [200000,200001]] rfl ⟨tt_,Qf⟩ ?_
 obtain⟨o16,hl16,h⟩:=Qb h
 refine AK.loop (body:=(fun st=>Qbw l1 v2 v3 st)) (fun st σ=>σ=⟨[(1,.clo (.func 217) [] [.loc 200000 0 0,.loc 200001 0 0]),(9,.sl 2 (l1.map QE)),(10,.i .i64 (l1.length:Int)),(11,.i .i64 st)],[(200000,.var (QbL v2)),(200001,.var (Qd v3))]⟩) (Sum.elim (fun q e σ=>e=.ret∧σ=⟨[(4,.i .i64 q.1),(5,.i .i64 q.2)],[(200000,.var (QbL v2)),(200001,.var (Qd v3))]⟩) (fun q e σ=>e=.exit 0∧σ=⟨[],[(200000,.var (QbL v2)),(200001,.var (Qd v3))]⟩)) hl16 rfl ?_ ?_
 ·rintro x8 o σ rfl h
  replace h:Qbw l1 v2 v3 x8=some o:=h
  unfold Qbw at h
  refine Qa hC [.n 6] rfl tt_ ?_
  rcases bifE h with⟨hc12,h⟩|⟨hc12,h⟩
  ·obtain⟨e13,he13,h⟩:=Qb h
   obtain⟨x14,hx14,h⟩:=Qb h
   refine Qa hC [.br true,.n 7,.o (.row (QE e13)),.v .no [] (.agg (QE e13)),.n 3,.sayO 7 (.var (QE e13)),.n 6,.v .no [] (.agg (QE e13)),.cm (.clo) [(200000,200000),(200001,200001)] [(200000,200000),(200001,200001)] [] [.d,.d,.d,.d] [(200000,.var (QbL v2)),(200001,.var (Qd v3))] (.i .i64 x14),.n 9] rfl ⟨⟨⟨⟨⟨⟨tt_,hc12⟩,(idxM he13)⟩,rfl⟩,rfl⟩,rfl⟩,(QnM _ _ _ _ hx14)⟩ ?_
   rcases bifE h with⟨hc15,h⟩|⟨hc15,h⟩
   ·refine Qa hC [.br true,.n 11,.keep [4,5] [200000,200001]] rfl ⟨tt_,hc15⟩ ?_
    cases h
    exact rndR rfl (an_ rfl rfl)
   ·refine Qa hC [.br false,.n 7,.keep [1,9,10,11] [200000,200001]] rfl ⟨tt_,hc15⟩ ?_
    cases h
    exact rndN rfl rfl
  ·refine Qa hC [.br false,.n 2,.keep [] [200000,200001]] rfl ⟨tt_,hc12⟩ ?_
   cases h
   exact rndX rfl (an_ rfl rfl)
 ·rcases o16 with(⟨x10,x11⟩|_)
  ·replace h:Qci x10 x11=some r:=h
   unfold Qci at h
   rintro e σ ⟨rfl,rfl⟩
   refine Qa hC [.n 2,.keep [4,5] [200000,200001]] rfl tt_ ?_
   cases h
   exact AK.done (ex_ [_,_] (an_ (an_ rfl (an_ rfl tt_)) (gives ⟨rfl,rfl,tt_⟩)))
  ·replace h:Qcj=some r:=h
   unfold Qcj at h
   rintro e σ ⟨rfl,rfl⟩
   refine Qa hC [.n 9,.keep [4,5] [200000,200001]] rfl tt_ ?_
   cases h
   exact AK.done (ex_ [_,_] (an_ (an_ rfl (an_ rfl tt_)) (gives ⟨rfl,rfl,tt_⟩)))
def QeO (n1:TNet)(l2:(List TVar)):Option Int:=
 (Qdm l2 l2 n1).bind fun x4=>
 some x4.2
theorem QoG (n1:TNet)(l2:(List TVar)){r:Int}(h:QeO n1 l2=some r):Qc Tryz.prog 174 [.agg (Qd n1),.sl 2 (l2.map QE)] [] (Gives (.i .i64 r) []):=by
 refine Qc.walk 14 Tryz.func174 rfl Tryz.ntmps174 rfl fun C hC=>?_
 unfold QeO at h
 obtain⟨x4,hx4,h⟩:=Qb h
 refine Qa hC [.n 11,.cm (.fn) [(200000,3),(200001,2)] [(3,200000),(2,200001)] [] [.d,.d] [(200000,.var (QbL l2)),(200001,.var (Qd n1))] (.tup [.i .i64 x4.1,.i .i64 x4.2]),.n 14,.keep [4] []] rfl ⟨tt_,(Qnf _ _ _ hx4)⟩ ?_
 cases h
 exact AK.done (ex_ [_] (an_ (an_ rfl tt_) (gives tt_)))
def Qhp (v1:TNet)(v2:Qr):Option Int:=
 (QeO v1 v2.Vars).bind fun x4=>
 some x4
theorem Qqp (v1:TNet)(v2:Qr){r:Int}(h:Qhp v1 v2=some r):Qc Tryz.prog 173 [.loc 200000 0 0,.loc 200001 0 0] [(200000,.var (Qd v1)),(200001,.var (Qi v2))] (Gives (.i .i64 r) [(200000,.var (Qd v1)),(200001,.var (Qi v2))]):=by
 refine Qc.walk 7 Tryz.func173 rfl Tryz.ntmps173 rfl fun C hC=>?_
 unfold Qhp at h
 obtain⟨x4,hx4,h⟩:=Qb h
 refine Qa hC [.n 7,.v .no [] (.agg (Qd v1)),.n 2,.o (.c false [.d,.d] (.i .i64 x4)),.n 4,.keep [2] [200000,200001]] rfl ⟨⟨tt_,rfl⟩,(QoG _ _ hx4)⟩ ?_
 cases h
 exact AK.done (ex_ [_] (an_ (an_ rfl tt_) (gives ⟨rfl,rfl,tt_⟩)))

end Go.Proofs
