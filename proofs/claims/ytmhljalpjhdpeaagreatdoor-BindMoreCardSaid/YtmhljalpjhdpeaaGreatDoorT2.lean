/- What functions of the program do, as functions over plain data, and the walks that show it: printed by a program. -/
import Derived.Test.YtmhljalpjhdpeaaGreatDoorT1
set_option linter.unusedVariables false
set_option linter.unusedSimpArgs false
set_option linter.unusedSectionVars false
set_option linter.deprecated false
set_option maxRecDepth 100000
set_option maxHeartbeats 4000000
noncomputable section
namespace Go.Proofs
open Go Go.RowKit Go.Vm
def Qgr (a22:(List Qm)):Option (((List Int)×(List Qm))⊕((List Qm)⊕(List Qm))):=
 some (.inr (.inr a22))
def Qgs (at_25:Int)(l26:(List Int))(v9:Qs)(v10:TNet):Option Bool:=
 bif (decide (0≤at_25))then
 (idx l26 at_25).bind fun e34=>
 (idx v9.Vars at_25).bind fun e35=>
 (Qaw v10.Colours e35.Colour).bind fun x36=>
 some (decide (x36≤(w64 (e34+1))))
 else
 some false
def Qcx (l26:(List Int))(at_25:Int)(x31:Bool):Option ((Int×(List Int))⊕(Int×(List Int))):=
 bif x31 then
 (idx l26 at_25).bind fun e38=>
 some (.inl ((w64 (at_25-1)),(l26.set at_25.toNat 0)))
 else
 some (.inr (at_25,l26))
def Qbi (v9:Qs)(v10:TNet)(at_25:Int)(l26:(List Int)):Option ((Int×(List Int))⊕(Int×(List Int))):=
 (Qgs at_25 l26 v9 v10).bind (fun x31=>Qcx l26 at_25 x31)
def Qcy (a23:(List Qm))(at_29:Int)(l30:(List Int)):Option (((List Int)×(List Qm))⊕((List Qm)⊕(List Qm))):=
 bif (decide (at_29<0))then
 some (.inr (.inl a23))
 else
 (idx l30 at_29).bind fun e41=>
 (idx l30 at_29).bind fun e42=>
 some (.inl ((l30.set at_29.toNat (w64 (e41+1))),a23))
def Qcz (v9:Qs)(v10:TNet)(l14:(List Int))(a23:(List Qm)):Option (((List Int)×(List Qm))⊕((List Qm)⊕(List Qm))):=
 (QI (fun st=>Qbi v9 v10 st.1 st.2) ((w64 ((l14.length:Int)-1)),l14)).bind (fun q=>Qcy a23 q.1 q.2)
def QbT (v1:TNet)(v2:(List (List (Int×Int))))(v3:Int)(v4:Int)(l5:(List Qm))(v6:(List (List Int)))(v7:(List (List Int)))(v9:Qs)(v10:TNet)(l14:(List Int))(l15:(List Qm)):Option (((List Int)×(List Qm))⊕((List Qm)⊕(List Qm))):=
 (Qak l14).bind fun x20=>
 (Qcj v1 v2 v3 v4 l5 v6 v7 l15 x20).bind (Sum.elim (fun q=>Qgr q) (fun q=>Qcz v9 v10 l14 q))
def Qgt (l18:(List Qm)):Option ((List Qm)⊕(List Qm)):=
 some (.inl l18)
def Qgu (l19:(List Qm)):Option ((List Qm)⊕(List Qm)):=
 some (.inr l19)
def QdR (v1:TNet)(v2:(List (List (Int×Int))))(v3:Int)(v4:Int)(l5:(List Qm))(v6:(List (List Int)))(v7:(List (List Int)))(l8:(List Qm))(v9:Qs)(v10:TNet):Option ((List Qm)⊕(List Qm)):=
 (chk (decide (0≤(v9.Vars.length:Int))&&decide ((v9.Vars.length:Int)≤(v9.Vars.length:Int))&&decide ((v9.Vars.length:Int)≤4294967296))).bind fun _=>
 (QI (fun st=>QbT v1 v2 v3 v4 l5 v6 v7 v9 v10 st.1 st.2) ((List.replicate (v9.Vars.length:Int).toNat (0:Int)),l8)).bind (Sum.elim (fun q=>Qgt q) (fun q=>Qgu q))
theorem Qi7 (lpl lpf:Nat)(v1:TNet)(v2:(List (List (Int×Int))))(v3:Int)(v4:Int)(l5:(List Qm))(v6:(List (List Int)))(v7:(List (List Int)))(l8:(List Qm))(v9:Qs)(v10:TNet){r:((List Qm)⊕(List Qm))}(h:QdR v1 v2 v3 v4 l5 v6 v7 l8 v9 v10=some r):Qc Tryz.prog 62 [.clo (.yield lpl) [] [],.loc 200009 0 0,.loc 200010 0 0] [(200000,.lp lpl (QaP lpf) [.J,.J,.J,.J,.loc 200001 0 0,.loc 200002 0 0,.loc 200003 0 0,.loc 200004 0 0,.loc 200005 0 0,.J,.loc 200006 0 0,.loc 200007 0 0,.loc 200008 0 0,.J,.J,.J,.J,.J,.J,.J,.J,.J,.J,.J,.J,.J,.J,.J,.J,.J,.J,.J,.J,.J,.J,.J,.J,.J,.J,.J,.J,.J,.J,.J,.J,.J,.J,.J,.J,.J,.J,.J,.J,.J,.J,.J,.J,.J,.J,.J,.J,.J,.J,.J,.J,.J,.J,.J,.J,.J,.J,.J,.J,.J,.J,.J,.J,.J,.J,.J,.J,.J,.J,.J,.J,.J,.J,.J,.J,.J,.J,.J,.J,.J,.J,.J,.J,.J,.J,.J,.J,.J,.J,.J,.J,.J,.J,.J,.J] 0),(200001,.var (Qd v1)),(200002,.var (QU v2)),(200003,.var (Qe v3)),(200004,.var (Qe v4)),(200005,.var [.own 100000 l5.length]),(100000,.arr 4 (l5.map Qk)),(200006,.var (QG v6)),(200007,.var (QG v7)),(200008,.var [.own 100001 l8.length]),(100001,.arr 4 (l8.map Qk)),(200009,.var (Qg v9)),(200010,.var (Qd v10))] ((Sum.elim (fun q=>(Qh (.tup []) [(100000,.arr 4 (l5.map Qk)),(100001,.arr 4 (q.map Qk)),(200000,.lp lpl (QaP lpf) [.J,.J,.J,.J,.loc 200001 0 0,.loc 200002 0 0,.loc 200003 0 0,.loc 200004 0 0,.loc 200005 0 0,.J,.loc 200006 0 0,.loc 200007 0 0,.loc 200008 0 0,.J,.J,.J,.J,.J,.J,.J,.J,.J,.J,.J,.J,.J,.J,.J,.J,.J,.J,.J,.J,.J,.J,.J,.J,.J,.J,.J,.J,.J,.J,.J,.J,.J,.J,.J,.J,.J,.J,.J,.J,.J,.J,.J,.J,.J,.J,.J,.J,.J,.J,.J,.J,.J,.J,.J,.J,.J,.J,.J,.J,.J,.J,.J,.J,.J,.J,.J,.J,.J,.J,.J,.J,.J,.J,.J,.J,.J,.J,.J,.J,.J,.J,.J,.J,.J,.J,.J,.J,.J,.J,.J,.J,.J,.J,.J,.J] 0),(200001,.var (Qd v1)),(200002,.var (QU v2)),(200003,.var (Qe v3)),(200004,.var (Qe v4)),(200005,.var [.own 100000 l5.length]),(200006,.var (QG v6)),(200007,.var (QG v7)),(200008,.var [.own 100001 q.length]),(200009,.var (Qg v9)),(200010,.var (Qd v10))])) (fun q=>(Qh (.tup []) [(100000,.arr 4 (l5.map Qk)),(100001,.arr 4 (q.map Qk)),(200000,.lp lpl (QaP lpf) [.J,.J,.J,.J,.loc 200001 0 0,.loc 200002 0 0,.loc 200003 0 0,.loc 200004 0 0,.loc 200005 0 0,.J,.loc 200006 0 0,.loc 200007 0 0,.loc 200008 0 0,.J,.J,.J,.J,.J,.J,.J,.J,.J,.J,.J,.J,.J,.J,.J,.J,.J,.J,.J,.J,.J,.J,.J,.J,.J,.J,.J,.J,.J,.J,.J,.J,.J,.J,.J,.J,.J,.J,.J,.J,.J,.J,.J,.J,.J,.J,.J,.J,.J,.J,.J,.J,.J,.J,.J,.J,.J,.J,.J,.J,.J,.J,.J,.J,.J,.J,.J,.J,.J,.J,.J,.J,.J,.J,.J,.J,.J,.J,.J,.J,.J,.J,.J,.J,.J,.J,.J,.J,.J,.J,.J,.J,.J,.J,.J,.J] 2),(200001,.var (Qd v1)),(200002,.var (QU v2)),(200003,.var (Qe v3)),(200004,.var (Qe v4)),(200005,.var [.own 100001 q.length]),(200006,.var (QG v6)),(200007,.var (QG v7)),(200008,.var [.own 100001 q.length]),(200009,.var (Qg v9)),(200010,.var (Qd v10))]))) r):=by
 refine Qc.walk 50 Tryz.func62 rfl Tryz.ntmps62 rfl fun C hC=>?_
 unfold QdR at h
 obtain⟨_,hk13,h⟩:=Qb h
 replace hk13:=chkE hk13
 refine Qa hC [.n 4,.o (.ln v9.Vars.length),.o (.rows ((List.replicate (v9.Vars.length:Int).toNat (0:Int)).map Qe)),.say 9 (.own 9 (List.replicate (v9.Vars.length:Int).toNat (0:Int)).length),.n 4,.keep [0,1,2,4] [9,100000,100001,200000,200001,200002,200003,200004,200005,200006,200007,200008,200009,200010]] rfl ⟨⟨⟨tt_,Qi⟩,⟨hk13,Qsj rfl⟩⟩,(by simp)⟩ ?_
 obtain⟨o43,hl43,h⟩:=Qb h
 refine AK.loop (body:=(fun st=>QbT v1 v2 v3 v4 l5 v6 v7 v9 v10 st.1 st.2)) (fun st σ=>σ=⟨[(0,.clo (.yield lpl) [] []),(1,.loc 200009 0 0),(2,.loc 200010 0 0),(4,.own 9 st.1.length)],[(9,.arr 1 (st.1.map Qe)),(100000,.arr 4 (l5.map Qk)),(100001,.arr 4 (st.2.map Qk)),(200000,.lp lpl (QaP lpf) [.J,.J,.J,.J,.loc 200001 0 0,.loc 200002 0 0,.loc 200003 0 0,.loc 200004 0 0,.loc 200005 0 0,.J,.loc 200006 0 0,.loc 200007 0 0,.loc 200008 0 0,.J,.J,.J,.J,.J,.J,.J,.J,.J,.J,.J,.J,.J,.J,.J,.J,.J,.J,.J,.J,.J,.J,.J,.J,.J,.J,.J,.J,.J,.J,.J,.J,.J,.J,.J,.J,.J,.J,.J,.J,.J,.J,.J,.J,.J,.J,.J,.J,.J,.J,.J,.J,.J,.J,.J,.J,.J,.J,.J,.J,.J,.J,.J,.J,.J,.J,.J,.J,.J,.J,.J,.J,.J,.J,.J,.J,.J,.J,.J,.J,.J,.J,.J,.J,.J,.J,.J,.J,.J,.J,.J,.J,.J,.J,.J,.J] 0),(200001,.var (Qd v1)),(200002,.var (QU v2)),(200003,.var (Qe v3)),(200004,.var (Qe v4)),(200005,.var [.own 100000 l5.length]),(200006,.var (QG v6)),(200007,.var (QG v7)),(200008,.var [.own 100001 st.2.length]),(200009,.var (Qg v9)),(200010,.var (Qd v10))]⟩) (Sum.elim (fun q e σ=>e=.ret∧σ=⟨[],[(100000,.arr 4 (l5.map Qk)),(100001,.arr 4 (q.map Qk)),(200000,.lp lpl (QaP lpf) [.J,.J,.J,.J,.loc 200001 0 0,.loc 200002 0 0,.loc 200003 0 0,.loc 200004 0 0,.loc 200005 0 0,.J,.loc 200006 0 0,.loc 200007 0 0,.loc 200008 0 0,.J,.J,.J,.J,.J,.J,.J,.J,.J,.J,.J,.J,.J,.J,.J,.J,.J,.J,.J,.J,.J,.J,.J,.J,.J,.J,.J,.J,.J,.J,.J,.J,.J,.J,.J,.J,.J,.J,.J,.J,.J,.J,.J,.J,.J,.J,.J,.J,.J,.J,.J,.J,.J,.J,.J,.J,.J,.J,.J,.J,.J,.J,.J,.J,.J,.J,.J,.J,.J,.J,.J,.J,.J,.J,.J,.J,.J,.J,.J,.J,.J,.J,.J,.J,.J,.J,.J,.J,.J,.J,.J,.J,.J,.J,.J,.J] 0),(200001,.var (Qd v1)),(200002,.var (QU v2)),(200003,.var (Qe v3)),(200004,.var (Qe v4)),(200005,.var [.own 100000 l5.length]),(200006,.var (QG v6)),(200007,.var (QG v7)),(200008,.var [.own 100001 q.length]),(200009,.var (Qg v9)),(200010,.var (Qd v10))]⟩) (fun q e σ=>e=.ret∧σ=⟨[],[(100000,.arr 4 (l5.map Qk)),(100001,.arr 4 (q.map Qk)),(200000,.lp lpl (QaP lpf) [.J,.J,.J,.J,.loc 200001 0 0,.loc 200002 0 0,.loc 200003 0 0,.loc 200004 0 0,.loc 200005 0 0,.J,.loc 200006 0 0,.loc 200007 0 0,.loc 200008 0 0,.J,.J,.J,.J,.J,.J,.J,.J,.J,.J,.J,.J,.J,.J,.J,.J,.J,.J,.J,.J,.J,.J,.J,.J,.J,.J,.J,.J,.J,.J,.J,.J,.J,.J,.J,.J,.J,.J,.J,.J,.J,.J,.J,.J,.J,.J,.J,.J,.J,.J,.J,.J,.J,.J,.J,.J,.J,.J,.J,.J,.J,.J,.J,.J,.J,.J,.J,.J,.J,.J,.J,.J,.J,.J,.J,.J,.J,.J,.J,.J,.J,.J,.J,.J,.J,.J,.J,.J,.J,.J,.J,.J,.J,.J,.J,.J] 2),(200001,.var (Qd v1)),(200002,.var (QU v2)),(200003,.var (Qe v3)),(200004,.var (Qe v4)),(200005,.var [.own 100001 q.length]),(200006,.var (QG v6)),(200007,.var (QG v7)),(200008,.var [.own 100001 q.length]),(200009,.var (Qg v9)),(200010,.var (Qd v10))]⟩)) hl43 rfl ?_ ?_
 ·rintro ⟨l14,l15⟩ o σ rfl h
  replace h:QbT v1 v2 v3 v4 l5 v6 v7 v9 v10 l14 l15=some o:=h
  unfold QbT at h
  obtain⟨x20,hx20,h⟩:=Qb h
  obtain⟨x21,hx21,h⟩:=Qb h
  refine Qa hC [.n 6,.o (.co true [.o (l14.map Qe)] 1 (x20.map Qe) x20.length),.frz 12 (x20.map Qe) [12] []] rfl ⟨⟨tt_,⟨(QnT rfl),⟨(Qbz _ hx20),Qi,.inr (QsB _)⟩⟩⟩,⟨tt_,(frzL Qi)⟩⟩ ?_
  rcases x21 with(a22 | a23)
  ·replace h:Qgr a22=some o:=h
   unfold Qgr at h
   refine Qa hC [.x (fun σ=>(σ.after [100000,100001] [(100000,.arr 4 (l5.map Qk)),(100001,.arr 4 (a22.map Qk)),(200000,.lp lpl (QaP lpf) [.J,.J,.J,.J,.loc 200001 0 0,.loc 200002 0 0,.loc 200003 0 0,.loc 200004 0 0,.loc 200005 0 0,.J,.loc 200006 0 0,.loc 200007 0 0,.loc 200008 0 0,.J,.J,.J,.J,.J,.J,.J,.J,.J,.J,.J,.J,.J,.J,.J,.J,.J,.J,.J,.J,.J,.J,.J,.J,.J,.J,.J,.J,.J,.J,.J,.J,.J,.J,.J,.J,.J,.J,.J,.J,.J,.J,.J,.J,.J,.J,.J,.J,.J,.J,.J,.J,.J,.J,.J,.J,.J,.J,.J,.J,.J,.J,.J,.J,.J,.J,.J,.J,.J,.J,.J,.J,.J,.J,.J,.J,.J,.J,.J,.J,.J,.J,.J,.J,.J,.J,.J,.J,.J,.J,.J,.J,.J,.J,.J,.J] 2),(200001,.var (Qd v1)),(200002,.var (QU v2)),(200003,.var (Qe v3)),(200004,.var (Qe v4)),(200005,.var [.own 100001 a22.length]),(200006,.var (QG v6)),(200007,.var (QG v7)),(200008,.var [.own 100001 a22.length])]).put 13 (.b false)),.n 7,.keep [] [100000,100001,200000,200001,200002,200003,200004,200005,200006,200007,200008,200009,200010]] rfl ⟨tt_,(Stp.yieldV (b:=200000) (M:=[(200000,200000),(200001,200001),(200002,200002),(200003,200003),(200004,200004),(200005,200005),(100000,100000),(200006,200006),(200007,200007),(200008,200008),(100001,100001)]) (N:=[(100000,100000),(100001,100001),(200000,200000),(200001,200001),(200002,200002),(200003,200003),(200004,200004),(200005,200005),(200006,200006),(200007,200007),(200008,200008)]) (dead:=[100000,100001]) (ms:=[.d,.d,.d,.d,.d,.d,.d,.d,.d,.d,.d,.d,.d,.d,.d,.d,.d,.d,.d,.d,.d,.d,.d,.d,.d,.d,.d,.d,.d,.d,.d,.d,.d,.d,.d,.d,.d,.d,.d,.d,.d,.d,.d,.d,.d,.d,.d,.d,.d,.d,.d,.d,.d,.d,.d,.d,.d,.d,.d,.d,.d,.d,.d,.d,.d,.d,.d,.d,.d,.d,.d,.d,.d,.d,.d,.d,.d,.d,.d,.d,.d,.d,.d,.d,.d,.d,.d,.d,.d,.d,.d,.d,.d,.d,.d,.d,.d,.d,.d,.d,.d,.d,.d,.d,.d,.d,.d,.d,.d]) (outs:=[(100000,.arr 4 (l5.map Qk)),(100001,.arr 4 (a22.map Qk)),(200000,.lp lpl (QaP lpf) [.J,.J,.J,.J,.loc 200001 0 0,.loc 200002 0 0,.loc 200003 0 0,.loc 200004 0 0,.loc 200005 0 0,.J,.loc 200006 0 0,.loc 200007 0 0,.loc 200008 0 0,.J,.J,.J,.J,.J,.J,.J,.J,.J,.J,.J,.J,.J,.J,.J,.J,.J,.J,.J,.J,.J,.J,.J,.J,.J,.J,.J,.J,.J,.J,.J,.J,.J,.J,.J,.J,.J,.J,.J,.J,.J,.J,.J,.J,.J,.J,.J,.J,.J,.J,.J,.J,.J,.J,.J,.J,.J,.J,.J,.J,.J,.J,.J,.J,.J,.J,.J,.J,.J,.J,.J,.J,.J,.J,.J,.J,.J,.J,.J,.J,.J,.J,.J,.J,.J,.J,.J,.J,.J,.J,.J,.J,.J,.J,.J,.J] 2),(200001,.var (Qd v1)),(200002,.var (QU v2)),(200003,.var (Qe v3)),(200004,.var (Qe v4)),(200005,.var [.own 100001 a22.length]),(200006,.var (QG v6)),(200007,.var (QG v7)),(200008,.var [.own 100001 a22.length])]) (r:=.b false) rfl rfl rfl rfl rfl rfl rfl (bleN hC.n rfl) hC.g rfl rfl (Qhx _ _ _ _ _ _ _ _ _ _ _ hx21))⟩ ?_
   cases h
   exact rndR rfl (an_ rfl rfl)
  ·replace h:Qcz v9 v10 l14 a23=some o:=h
   unfold Qcz at h
   refine Qa hC [.x (fun σ=>(σ.after [100000,100001] [(100000,.arr 4 (l5.map Qk)),(100001,.arr 4 (a23.map Qk)),(200000,.lp lpl (QaP lpf) [.J,.J,.J,.J,.loc 200001 0 0,.loc 200002 0 0,.loc 200003 0 0,.loc 200004 0 0,.loc 200005 0 0,.J,.loc 200006 0 0,.loc 200007 0 0,.loc 200008 0 0,.J,.J,.J,.J,.J,.J,.J,.J,.J,.J,.J,.J,.J,.J,.J,.J,.J,.J,.J,.J,.J,.J,.J,.J,.J,.J,.J,.J,.J,.J,.J,.J,.J,.J,.J,.J,.J,.J,.J,.J,.J,.J,.J,.J,.J,.J,.J,.J,.J,.J,.J,.J,.J,.J,.J,.J,.J,.J,.J,.J,.J,.J,.J,.J,.J,.J,.J,.J,.J,.J,.J,.J,.J,.J,.J,.J,.J,.J,.J,.J,.J,.J,.J,.J,.J,.J,.J,.J,.J,.J,.J,.J,.J,.J,.J,.J] 0),(200001,.var (Qd v1)),(200002,.var (QU v2)),(200003,.var (Qe v3)),(200004,.var (Qe v4)),(200005,.var [.own 100000 l5.length]),(200006,.var (QG v6)),(200007,.var (QG v7)),(200008,.var [.own 100001 a23.length])]).put 13 (.b true)),.n 16,.keep [0,1,2,4,5] [9,100000,100001,200000,200001,200002,200003,200004,200005,200006,200007,200008,200009,200010]] rfl ⟨tt_,(Stp.yieldV (b:=200000) (M:=[(200000,200000),(200001,200001),(200002,200002),(200003,200003),(200004,200004),(200005,200005),(100000,100000),(200006,200006),(200007,200007),(200008,200008),(100001,100001)]) (N:=[(100000,100000),(100001,100001),(200000,200000),(200001,200001),(200002,200002),(200003,200003),(200004,200004),(200005,200005),(200006,200006),(200007,200007),(200008,200008)]) (dead:=[100000,100001]) (ms:=[.d,.d,.d,.d,.d,.d,.d,.d,.d,.d,.d,.d,.d,.d,.d,.d,.d,.d,.d,.d,.d,.d,.d,.d,.d,.d,.d,.d,.d,.d,.d,.d,.d,.d,.d,.d,.d,.d,.d,.d,.d,.d,.d,.d,.d,.d,.d,.d,.d,.d,.d,.d,.d,.d,.d,.d,.d,.d,.d,.d,.d,.d,.d,.d,.d,.d,.d,.d,.d,.d,.d,.d,.d,.d,.d,.d,.d,.d,.d,.d,.d,.d,.d,.d,.d,.d,.d,.d,.d,.d,.d,.d,.d,.d,.d,.d,.d,.d,.d,.d,.d,.d,.d,.d,.d,.d,.d,.d,.d]) (outs:=[(100000,.arr 4 (l5.map Qk)),(100001,.arr 4 (a23.map Qk)),(200000,.lp lpl (QaP lpf) [.J,.J,.J,.J,.loc 200001 0 0,.loc 200002 0 0,.loc 200003 0 0,.loc 200004 0 0,.loc 200005 0 0,.J,.loc 200006 0 0,.loc 200007 0 0,.loc 200008 0 0,.J,.J,.J,.J,.J,.J,.J,.J,.J,.J,.J,.J,.J,.J,.J,.J,.J,.J,.J,.J,.J,.J,.J,.J,.J,.J,.J,.J,.J,.J,.J,.J,.J,.J,.J,.J,.J,.J,.J,.J,.J,.J,.J,.J,.J,.J,.J,.J,.J,.J,.J,.J,.J,.J,.J,.J,.J,.J,.J,.J,.J,.J,.J,.J,.J,.J,.J,.J,.J,.J,.J,.J,.J,.J,.J,.J,.J,.J,.J,.J,.J,.J,.J,.J,.J,.J,.J,.J,.J,.J,.J,.J,.J,.J,.J,.J] 0),(200001,.var (Qd v1)),(200002,.var (QU v2)),(200003,.var (Qe v3)),(200004,.var (Qe v4)),(200005,.var [.own 100000 l5.length]),(200006,.var (QG v6)),(200007,.var (QG v7)),(200008,.var [.own 100001 a23.length])]) (r:=.b true) rfl rfl rfl rfl rfl rfl rfl (bleN hC.n rfl) hC.g rfl rfl (Qhx _ _ _ _ _ _ _ _ _ _ _ hx21))⟩ ?_
   obtain⟨o39,hl39,h⟩:=Qb h
   refine AK.loop (body:=(fun st=>Qbi v9 v10 st.1 st.2)) (fun st σ=>σ=⟨[(0,.clo (.yield lpl) [] []),(1,.loc 200009 0 0),(2,.loc 200010 0 0),(4,.own 9 st.2.length),(5,.i .i64 st.1)],[(9,.arr 1 (st.2.map Qe)),(100000,.arr 4 (l5.map Qk)),(100001,.arr 4 (a23.map Qk)),(200000,.lp lpl (QaP lpf) [.J,.J,.J,.J,.loc 200001 0 0,.loc 200002 0 0,.loc 200003 0 0,.loc 200004 0 0,.loc 200005 0 0,.J,.loc 200006 0 0,.loc 200007 0 0,.loc 200008 0 0,.J,.J,.J,.J,.J,.J,.J,.J,.J,.J,.J,.J,.J,.J,.J,.J,.J,.J,.J,.J,.J,.J,.J,.J,.J,.J,.J,.J,.J,.J,.J,.J,.J,.J,.J,.J,.J,.J,.J,.J,.J,.J,.J,.J,.J,.J,.J,.J,.J,.J,.J,.J,.J,.J,.J,.J,.J,.J,.J,.J,.J,.J,.J,.J,.J,.J,.J,.J,.J,.J,.J,.J,.J,.J,.J,.J,.J,.J,.J,.J,.J,.J,.J,.J,.J,.J,.J,.J,.J,.J,.J,.J,.J,.J,.J,.J] 0),(200001,.var (Qd v1)),(200002,.var (QU v2)),(200003,.var (Qe v3)),(200004,.var (Qe v4)),(200005,.var [.own 100000 l5.length]),(200006,.var (QG v6)),(200007,.var (QG v7)),(200008,.var [.own 100001 a23.length]),(200009,.var (Qg v9)),(200010,.var (Qd v10))]⟩) (fun q e σ=>e=.exit 2∧σ=⟨[(0,.clo (.yield lpl) [] []),(1,.loc 200009 0 0),(2,.loc 200010 0 0),(4,.own 9 q.2.length),(5,.i .i64 q.1)],[(9,.arr 1 (q.2.map Qe)),(100000,.arr 4 (l5.map Qk)),(100001,.arr 4 (a23.map Qk)),(200000,.lp lpl (QaP lpf) [.J,.J,.J,.J,.loc 200001 0 0,.loc 200002 0 0,.loc 200003 0 0,.loc 200004 0 0,.loc 200005 0 0,.J,.loc 200006 0 0,.loc 200007 0 0,.loc 200008 0 0,.J,.J,.J,.J,.J,.J,.J,.J,.J,.J,.J,.J,.J,.J,.J,.J,.J,.J,.J,.J,.J,.J,.J,.J,.J,.J,.J,.J,.J,.J,.J,.J,.J,.J,.J,.J,.J,.J,.J,.J,.J,.J,.J,.J,.J,.J,.J,.J,.J,.J,.J,.J,.J,.J,.J,.J,.J,.J,.J,.J,.J,.J,.J,.J,.J,.J,.J,.J,.J,.J,.J,.J,.J,.J,.J,.J,.J,.J,.J,.J,.J,.J,.J,.J,.J,.J,.J,.J,.J,.J,.J,.J,.J,.J,.J,.J] 0),(200001,.var (Qd v1)),(200002,.var (QU v2)),(200003,.var (Qe v3)),(200004,.var (Qe v4)),(200005,.var [.own 100000 l5.length]),(200006,.var (QG v6)),(200007,.var (QG v7)),(200008,.var [.own 100001 a23.length]),(200009,.var (Qg v9)),(200010,.var (Qd v10))]⟩) hl39 rfl ?_ ?_
   ·rintro ⟨at_25,l26⟩ o σ rfl h
    replace h:Qbi v9 v10 at_25 l26=some o:=h
    unfold Qbi at h
    refine Qa hC [.n 2] rfl tt_ ?_
    obtain⟨x31,hv32,h⟩:=Qb h
    replace h:Qcx l26 at_25 x31=some o:=h
    refine AK.meetX (fun σ=>σ=⟨[(0,.clo (.yield lpl) [] []),(1,.loc 200009 0 0),(2,.loc 200010 0 0),(4,.own 9 l26.length),(5,.i .i64 at_25),(36,.b x31)],[(9,.arr 1 (l26.map Qe)),(100000,.arr 4 (l5.map Qk)),(100001,.arr 4 (a23.map Qk)),(200000,.lp lpl (QaP lpf) [.J,.J,.J,.J,.loc 200001 0 0,.loc 200002 0 0,.loc 200003 0 0,.loc 200004 0 0,.loc 200005 0 0,.J,.loc 200006 0 0,.loc 200007 0 0,.loc 200008 0 0,.J,.J,.J,.J,.J,.J,.J,.J,.J,.J,.J,.J,.J,.J,.J,.J,.J,.J,.J,.J,.J,.J,.J,.J,.J,.J,.J,.J,.J,.J,.J,.J,.J,.J,.J,.J,.J,.J,.J,.J,.J,.J,.J,.J,.J,.J,.J,.J,.J,.J,.J,.J,.J,.J,.J,.J,.J,.J,.J,.J,.J,.J,.J,.J,.J,.J,.J,.J,.J,.J,.J,.J,.J,.J,.J,.J,.J,.J,.J,.J,.J,.J,.J,.J,.J,.J,.J,.J,.J,.J,.J,.J,.J,.J,.J,.J] 0),(200001,.var (Qd v1)),(200002,.var (QU v2)),(200003,.var (Qe v3)),(200004,.var (Qe v4)),(200005,.var [.own 100000 l5.length]),(200006,.var (QG v6)),(200007,.var (QG v7)),(200008,.var [.own 100001 a23.length]),(200009,.var (Qg v9)),(200010,.var (Qd v10))]⟩) ?_ ?_
    ·replace h:=hv32
     unfold Qgs at h
     refine Qa hC [.keep [0,1,2,4,5] [9,100000,100001,200000,200001,200002,200003,200004,200005,200006,200007,200008,200009,200010]] rfl tt_ ?_
     rcases bifE h with⟨hc33,h⟩|⟨hc33,h⟩
     ·obtain⟨e34,he34,h⟩:=Qb h
      obtain⟨e35,he35,h⟩:=Qb h
      obtain⟨x36,hx36,h⟩:=Qb h
      refine AK.draw2 Qq hC mixed [.a .no none false,.a .no none false,.a .no (some ([],.b true)) false,.a .no none false,.a .no none false,.a .no none false,.a (.row (Qe e34)) none false,.a .no none false,.a .no none false,.a .no none false,.a .no none false,.a .no none false,.a .no none false,.a (.row (QA e35)) none false,.a .no none false,.a .no none false,.a (.c false [.d,.d] (.i .i64 x36)) none false,.a .no none false,.a .no none false] [] [] [0,1,2,4,5,36] [9,100000,100001,200000,200001,200002,200003,200004,200005,200006,200007,200008,200009,200010] rfl rfl rfl ⟨⟨⟨⟨⟨tt_,(congrArg V.b hc33)⟩,(Qe4 he34 rfl)⟩,(QcO (idxE he34).2)⟩,(idxM he35)⟩,(Qgq _ _ hx36)⟩ rfl (by kernel_rfl) rfl rfl rfl ?_
      refine Qa hC [.keep [0,1,2,4,5,36] [9,100000,100001,200000,200001,200002,200003,200004,200005,200006,200007,200008,200009,200010]] rfl tt_ ?_
      cases h
      exact AK.met rfl
     ·refine AK.draw2 Qq hC mixed [.a .no none false,.a .no none false,.a .no (some ([],.b false)) false,.a .no none false,.a .no none false,.a .no none false,.a .no none false,.a .no none false,.a .no none false,.a .no none false,.a .no none false,.a .no none false,.a .no none false,.a .no none false,.a .no none false,.a .no none false,.a .no none false,.a .no none false,.a .no none false] [] [] [0,1,2,4,5,36] [9,100000,100001,200000,200001,200002,200003,200004,200005,200006,200007,200008,200009,200010] rfl rfl rfl ⟨tt_,(congrArg V.b hc33)⟩ rfl (by kernel_rfl) rfl rfl rfl ?_
      refine Qa hC [.keep [0,1,2,4,5,36] [9,100000,100001,200000,200001,200002,200003,200004,200005,200006,200007,200008,200009,200010]] rfl tt_ ?_
      cases h
      exact AK.met rfl
    ·rintro σ rfl
     replace h:Qcx l26 at_25 x31=some o:=h
     unfold Qcx at h
     refine Qa hC [.n 1] rfl tt_ ?_
     rcases bifE h with⟨hc37,h⟩|⟨hc37,h⟩
     ·obtain⟨e38,he38,h⟩:=Qb h
      refine Qa hC [.br true,.n 8,.st (Qe e38) ((l26.set at_25.toNat 0).map Qe),.n 8,.say 4 (.own 9 (l26.set at_25.toNat 0).length),.keep [0,1,2,4,5] [9,100000,100001,200000,200001,200002,200003,200004,200005,200006,200007,200008,200009,200010]] rfl ⟨⟨⟨⟨tt_,hc37⟩,(Qe4 he38 rfl)⟩,⟨(QcO (idxE he38).2),QmY rfl⟩⟩,(congrArg (fun n=>V.own 9 n) (by simp))⟩ ?_
      cases h
      exact rndN rfl rfl
     ·refine Qa hC [.br false,.n 2,.keep [0,1,2,4,5] [9,100000,100001,200000,200001,200002,200003,200004,200005,200006,200007,200008,200009,200010]] rfl ⟨tt_,hc37⟩ ?_
      cases h
      exact rndX rfl (an_ rfl rfl)
   ·obtain⟨at_29,l30⟩:=o39
    replace h:Qcy a23 at_29 l30=some o:=h
    unfold Qcy at h
    rintro e σ ⟨rfl,rfl⟩
    refine Qa hC [.n 9] rfl tt_ ?_
    rcases bifE h with⟨hc40,h⟩|⟨hc40,h⟩
    ·refine Qa hC [.br true,.n 3,.keep [] [100000,100001,200000,200001,200002,200003,200004,200005,200006,200007,200008,200009,200010]] rfl ⟨tt_,hc40⟩ ?_
     cases h
     exact rndR rfl (an_ rfl rfl)
    ·obtain⟨e41,he41,h⟩:=Qb h
     obtain⟨e42,he42,h⟩:=Qb h
     refine Qa hC [.br false,.n 6,.o (.row (Qe e41)),.n 2,.st (Qe e42) ((l30.set at_29.toNat (w64 (e41+1))).map Qe),.n 2,.say 4 (.own 9 (l30.set at_29.toNat (w64 (e41+1))).length),.keep [0,1,2,4] [9,100000,100001,200000,200001,200002,200003,200004,200005,200006,200007,200008,200009,200010]] rfl ⟨⟨⟨⟨⟨⟨tt_,hc40⟩,(Qe4 he41 rfl)⟩,(QcO (idxE he41).2)⟩,(Qe4 he42 rfl)⟩,⟨(QcO (idxE he42).2),QmY rfl⟩⟩,(congrArg (fun n=>V.own 9 n) (by simp))⟩ ?_
     cases h
     exact rndN rfl rfl
 ·rcases o43 with(l18 | l19)
  ·replace h:Qgt l18=some r:=h
   unfold Qgt at h
   rintro e σ ⟨rfl,rfl⟩
   refine Qa hC [.n 1,.keep [] [100000,100001,200000,200001,200002,200003,200004,200005,200006,200007,200008,200009,200010]] rfl tt_ ?_
   cases h
   refine AK.done ?_
   exact ex_ [] (an_ tt_ (gives ⟨rfl,rfl,rfl,rfl,rfl,rfl,rfl,rfl,rfl,rfl,rfl,rfl,rfl,tt_⟩))
  ·replace h:Qgu l19=some r:=h
   unfold Qgu at h
   rintro e σ ⟨rfl,rfl⟩
   refine Qa hC [.n 1,.keep [] [100000,100001,200000,200001,200002,200003,200004,200005,200006,200007,200008,200009,200010]] rfl tt_ ?_
   cases h
   refine AK.done ?_
   exact ex_ [] (an_ tt_ (gives ⟨rfl,rfl,rfl,rfl,rfl,rfl,rfl,rfl,rfl,rfl,rfl,rfl,rfl,tt_⟩))
def Qi8 (a16:(List Qm)):Option (List Qm):=
 some a16
def Qi9 (a17:(List Qm)):Option (List Qm):=
 some a17
def Qew (n1:TNet)(m2:(List (List (Int×Int))))(task3:Int)(most4:Int):Option (List Qm):=
 bif ((decide (task3<0))||((decide ((n1.Tasks.length:Int)≤task3))||(decide (most4<1))))then
 some ([]:List Qm)
 else
 (idx n1.Tasks task3).bind fun e11=>
 (Qa1 e11.Join (e11.Ins.length:Int)).bind fun x12=>
 (Qa1 e11.Split (e11.Outs.length:Int)).bind fun x13=>
 (QiT n1 e11).bind fun x14=>
 (QdR n1 m2 task3 most4 ([]:List Qm) x12 x13 ([]:List Qm) x14.2 x14.1).bind (Sum.elim (fun q=>Qi8 q) (fun q=>Qi9 q))
theorem Qlk (n1:TNet)(m2:(List (List (Int×Int))))(task3:Int)(most4:Int){r:(List Qm)}(h:Qew n1 m2 task3 most4=some r):Qc Tryz.prog 9 [.agg (Qd n1),.sl 1 (m2.map Qv),.i .i64 task3,.i .i64 most4] [] (Qh (.sl 4 (r.map Qk)) []):=by
 refine Qc.walkR 109 Tryz.func9 rfl Tryz.ntmps9 rfl fun C hC hR=>?_
 unfold Qew at h
 refine Qa hC [.n 11] rfl tt_ ?_
 refine AK.meetX (fun σ=>σ=⟨[(4,.loc 4 0 0),(5,.loc 5 0 0),(6,.loc 6 0 0),(7,.loc 7 0 0),(8,.loc 8 0 0),(33,.b ((decide (task3<0))||((decide ((n1.Tasks.length:Int)≤task3))||(decide (most4<1)))))],[(4,.var (Qd n1)),(5,.var (QU m2)),(6,.var (Qe task3)),(7,.var (Qe most4)),(8,.var [.lit (.slice none 0 0)])]⟩) ?_ ?_
 ·refine Qa hC [.n 4] rfl tt_ ?_
  rcases QN (decide (task3<0))with hc8 | hc8
  ·refine Qa hC [.say 23 (.b true),.n 11,.say 33 (.b ((decide (task3<0))||((decide ((n1.Tasks.length:Int)≤task3))||(decide (most4<1))))),.keep [4,5,6,7,8,33] [4,5,6,7,8]] rfl ⟨⟨tt_,(congrArg V.b hc8)⟩,(congrArg V.b (orT hc8 rfl))⟩ ?_
   exact AK.met rfl
  ·refine Qa hC [.say 23 (.b false),.n 3,.o (.ln n1.Tasks.length),.n 3] rfl ⟨⟨tt_,(congrArg V.b hc8)⟩,Qi⟩ ?_
   rcases QN (decide ((n1.Tasks.length:Int)≤task3))with hc9 | hc9
   ·refine Qa hC [.say 30 (.b true),.n 4,.say 33 (.b ((decide (task3<0))||((decide ((n1.Tasks.length:Int)≤task3))||(decide (most4<1))))),.keep [4,5,6,7,8,33] [4,5,6,7,8]] rfl ⟨⟨tt_,(congrArg V.b hc9)⟩,(congrArg V.b (orF hc8 (orT hc9 rfl)))⟩ ?_
    exact AK.met rfl
   ·refine Qa hC [.say 30 (.b false),.n 4,.say 33 (.b ((decide (task3<0))||((decide ((n1.Tasks.length:Int)≤task3))||(decide (most4<1))))),.keep [4,5,6,7,8,33] [4,5,6,7,8]] rfl ⟨⟨tt_,(congrArg V.b hc9)⟩,(congrArg V.b (orF hc8 (orF hc9 rfl)))⟩ ?_
    exact AK.met rfl
 ·rintro σ rfl
  refine Qa hC [.n 1] rfl tt_ ?_
  rcases bifE h with⟨hc10,h⟩|⟨hc10,h⟩
  ·refine Qa hC [.br true,.n 3,.sayO 8 (.var [.lit (.slice none 0 0)]),.n 4,.denilO 8 [some 4],.sayO 8 (.var (Qr0 ([]:List Qm))),.keep [8] [8]] rfl ⟨⟨⟨tt_,hc10⟩,rfl⟩,rfl⟩ ?_
   cases h
   exact AK.done (ex_ [_] (an_ (an_ (ex_ _ (ex_ _ (an_ rfl (an_ rfl (Or.inr (an_ (Qq.ag rfl) rfl)))))) tt_) (gives tt_)))
  ·obtain⟨e11,he11,h⟩:=Qb h
   obtain⟨x12,hx12,h⟩:=Qb h
   obtain⟨x13,hx13,h⟩:=Qb h
   refine Qa hC [.br false,.n 7,.o (.row (Qg e11)),.v .no [] (.agg (Qg e11)),.n 2,.sayO 9 (.var (Qg e11)),.n 3,.keep [4,5,6,7,8,9] [4,5,6,7,8,9]] rfl ⟨⟨⟨⟨tt_,hc10⟩,(idxM he11)⟩,rfl⟩,rfl⟩ ?_
   refine AK.draw2 Qq hC mixed [.a .no none false,.a .no none false,.a .no none false,.a .no none false,.a (.ln e11.Ins.length) none false,.a (.cd false [.d,.d] 1 (x12.map Qx) x12.length) none false,.a .no none false,.a .no none false,.a .no none false,.a .no none false,.a (.ln e11.Outs.length) none false,.a (.cd false [.d,.d] 1 (x13.map Qx) x13.length) none false,.a .no none false,.a .no none false,.m .s,.m .s] [] [] [4,5,6,7,8,9,10,11] [4,5,6,7,8,9,10,11] rfl rfl rfl ⟨⟨⟨⟨tt_,Qi⟩,⟨(QfM _ _ hx12),Qi⟩⟩,Qi⟩,⟨(QfM _ _ hx13),Qi⟩⟩ rfl (by kernel_rfl) rfl rfl rfl ?_
   obtain⟨x14,hx14,h⟩:=Qb h
   refine Qa hC [.sayO 10 (.var (QG x12)),.sayO 11 (.var (QG x13)),.n 9,.v .no [] (.agg (Qd n1)),.v .no [] (.agg (Qg e11)),.cm (.fn) [] [(53,2),(50000,3)] [] [.d,.d] [(2,.var (Qd x14.1)),(3,.var (Qg x14.2))] (.clo (.func 62) [] [.loc 3 0 0,.loc 2 0 0]),.n 3,.keep [4,5,6,7,8,10,11,12,53] [4,5,6,7,8,10,11,12,53,50000]] rfl ⟨⟨⟨⟨⟨tt_,rfl⟩,rfl⟩,rfl⟩,rfl⟩,(Qnf _ _ hx14)⟩ ?_
   obtain⟨x15,hx15,h⟩:=Qb h
   refine Qa hC [.adoptO 8 0 45160 4,.sayO 45160 (.arr 4 (([]:List Qm).map Qk)),.sayO 8 (.var [.own 45160 ([]:List Qm).length]),.adoptO 12 0 45240 4,.sayO 45240 (.arr 4 (([]:List Qm).map Qk)),.sayO 12 (.var [.own 45240 ([]:List Qm).length])] rfl ⟨⟨⟨⟨tt_,rfl⟩,rfl⟩,rfl⟩,rfl⟩ ?_
   rcases x15 with(a16 | a17)
   ·replace h:Qi8 a16=some r:=h
    unfold Qi8 at h
    refine AK.rangeF 60000 [4,5,6,7,8,10,11,12] [(200000,60000),(200001,4),(200002,5),(200003,6),(200004,7),(200005,8),(100000,45160),(200006,10),(200007,11),(200008,12),(100001,45240),(200009,50000),(200010,53)] [(45160,100000),(45240,100001),(60000,200000),(4,200001),(5,200002),(6,200003),(7,200004),(8,200005),(10,200006),(11,200007),(12,200008),(50000,200009),(53,200010)] [45160,45240] [.d,.d,.d] QaP hC hR (fun _=>rfl) rfl rfl rfl rfl fun lpl lpf=>?_
    refine ex_ [(100000,.arr 4 (([]:List Qm).map Qk)),(100001,.arr 4 (a16.map Qk)),(200000,.lp lpl (QaP lpf) [.J,.J,.J,.J,.loc 200001 0 0,.loc 200002 0 0,.loc 200003 0 0,.loc 200004 0 0,.loc 200005 0 0,.J,.loc 200006 0 0,.loc 200007 0 0,.loc 200008 0 0,.J,.J,.J,.J,.J,.J,.J,.J,.J,.J,.J,.J,.J,.J,.J,.J,.J,.J,.J,.J,.J,.J,.J,.J,.J,.J,.J,.J,.J,.J,.J,.J,.J,.J,.J,.J,.J,.J,.J,.J,.J,.J,.J,.J,.J,.J,.J,.J,.J,.J,.J,.J,.J,.J,.J,.J,.J,.J,.J,.J,.J,.J,.J,.J,.J,.J,.J,.J,.J,.J,.J,.J,.J,.J,.J,.J,.J,.J,.J,.J,.J,.J,.J,.J,.J,.J,.J,.J,.J,.J,.J,.J,.J,.J,.J,.J] 0),(200001,.var (Qd n1)),(200002,.var (QU m2)),(200003,.var (Qe task3)),(200004,.var (Qe most4)),(200005,.var [.own 100000 ([]:List Qm).length]),(200006,.var (QG x12)),(200007,.var (QG x13)),(200008,.var [.own 100001 a16.length]),(200009,.var (Qg x14.2)),(200010,.var (Qd x14.1))] (ex_ (.tup []) (ex_ _ (ex_ _ (ex_ [.J,.J,.J,.J,.loc 4 0 0,.loc 5 0 0,.loc 6 0 0,.loc 7 0 0,.loc 8 0 0,.J,.loc 10 0 0,.loc 11 0 0,.loc 12 0 0,.J,.J,.J,.J,.J,.J,.J,.J,.J,.J,.J,.J,.J,.J,.J,.J,.J,.J,.J,.J,.J,.J,.J,.J,.J,.J,.J,.J,.J,.J,.J,.J,.J,.J,.J,.J,.J,.J,.J,.J,.J,.J,.J,.J,.J,.J,.J,.J,.J,.J,.J,.J,.J,.J,.J,.J,.J,.J,.J,.J,.J,.J,.J,.J,.J,.J,.J,.J,.J,.J,.J,.J,.J,.J,.J,.J,.J,.J,.J,.J,.J,.J,.J,.J,.J,.J,.J,.J,.J,.J,.J,.J,.J,.J,.J,.J] (ex_ 0 (an_ rfl ?_))))))
    refine an_ (Qi7 _ _ _ _ _ _ _ _ _ _ _ _ hx15) (an_ rfl (an_ (bne_iff_ne.1 (show(0 != 1)=true from rfl)) ?_))
    refine atJ0 rfl ?_
    refine Qa hC [.n 6,.sayO 8 (.var [.own 45240 a16.length]),.n 3,.frz 45240 (a16.map Qk) [] [8],.keep [8] [8]] rfl ⟨⟨tt_,rfl⟩,⟨tt_,⟨(frzL Qi),tt_⟩⟩⟩ ?_
    cases h
    exact AK.done (ex_ [_] (an_ (an_ (ex_ _ (ex_ _ (an_ rfl (an_ rfl (Or.inr (an_ (Qq.ag rfl) rfl)))))) tt_) (gives tt_)))
   ·replace h:Qi9 a17=some r:=h
    unfold Qi9 at h
    refine AK.rangeF 60000 [4,5,6,7,8,10,11,12] [(200000,60000),(200001,4),(200002,5),(200003,6),(200004,7),(200005,8),(100000,45160),(200006,10),(200007,11),(200008,12),(100001,45240),(200009,50000),(200010,53)] [(45160,100000),(45240,100001),(60000,200000),(4,200001),(5,200002),(6,200003),(7,200004),(8,200005),(10,200006),(11,200007),(12,200008),(50000,200009),(53,200010)] [45160,45240] [.d,.d,.d] QaP hC hR (fun _=>rfl) rfl rfl rfl rfl fun lpl lpf=>?_
    refine ex_ [(100000,.arr 4 (([]:List Qm).map Qk)),(100001,.arr 4 (a17.map Qk)),(200000,.lp lpl (QaP lpf) [.J,.J,.J,.J,.loc 200001 0 0,.loc 200002 0 0,.loc 200003 0 0,.loc 200004 0 0,.loc 200005 0 0,.J,.loc 200006 0 0,.loc 200007 0 0,.loc 200008 0 0,.J,.J,.J,.J,.J,.J,.J,.J,.J,.J,.J,.J,.J,.J,.J,.J,.J,.J,.J,.J,.J,.J,.J,.J,.J,.J,.J,.J,.J,.J,.J,.J,.J,.J,.J,.J,.J,.J,.J,.J,.J,.J,.J,.J,.J,.J,.J,.J,.J,.J,.J,.J,.J,.J,.J,.J,.J,.J,.J,.J,.J,.J,.J,.J,.J,.J,.J,.J,.J,.J,.J,.J,.J,.J,.J,.J,.J,.J,.J,.J,.J,.J,.J,.J,.J,.J,.J,.J,.J,.J,.J,.J,.J,.J,.J,.J] 2),(200001,.var (Qd n1)),(200002,.var (QU m2)),(200003,.var (Qe task3)),(200004,.var (Qe most4)),(200005,.var [.own 100001 a17.length]),(200006,.var (QG x12)),(200007,.var (QG x13)),(200008,.var [.own 100001 a17.length]),(200009,.var (Qg x14.2)),(200010,.var (Qd x14.1))] (ex_ (.tup []) (ex_ _ (ex_ _ (ex_ [.J,.J,.J,.J,.loc 4 0 0,.loc 5 0 0,.loc 6 0 0,.loc 7 0 0,.loc 8 0 0,.J,.loc 10 0 0,.loc 11 0 0,.loc 12 0 0,.J,.J,.J,.J,.J,.J,.J,.J,.J,.J,.J,.J,.J,.J,.J,.J,.J,.J,.J,.J,.J,.J,.J,.J,.J,.J,.J,.J,.J,.J,.J,.J,.J,.J,.J,.J,.J,.J,.J,.J,.J,.J,.J,.J,.J,.J,.J,.J,.J,.J,.J,.J,.J,.J,.J,.J,.J,.J,.J,.J,.J,.J,.J,.J,.J,.J,.J,.J,.J,.J,.J,.J,.J,.J,.J,.J,.J,.J,.J,.J,.J,.J,.J,.J,.J,.J,.J,.J,.J,.J,.J,.J,.J,.J,.J,.J] (ex_ 2 (an_ rfl ?_))))))
    refine an_ (Qi7 _ _ _ _ _ _ _ _ _ _ _ _ hx15) (an_ rfl (an_ (bne_iff_ne.1 (show(2 != 1)=true from rfl)) ?_))
    refine atJ2 rfl ?_
    refine Qa hC [.n 3,.frz 45240 (a17.map Qk) [] [8],.keep [8] [8]] rfl ⟨tt_,⟨tt_,⟨(frzL Qi),tt_⟩⟩⟩ ?_
    cases h
    exact AK.done (ex_ [_] (an_ (an_ (ex_ _ (ex_ _ (an_ rfl (an_ rfl (Or.inr (an_ (Qq.ag rfl) rfl)))))) tt_) (gives tt_)))
def QkL (n1:TNet)(o2:Qm):Option ((List (List (Int×Int)))×Int):=
 (Qd0 n1 o2.Task o2.Vars).bind fun x7=>
 bif (x7.2 != 0)then
 some (([]:List (List (Int×Int))),x7.2)
 else
 (idx n1.Tasks o2.Task).bind fun e9=>
 (Qcc n1 e9.Ins o2.Ins x7.1).bind fun x10=>
 some (x10.1,x10.2)
theorem Qpp (n1:TNet)(o2:Qm){r:((List (List (Int×Int)))×Int)}(h:QkL n1 o2=some r):Qc Tryz.prog 18 [.agg (Qd n1),.agg (Qk o2)] [] (Qh (.tup [.sl 1 (r.1.map Qv),.i .i64 r.2]) []):=by
 refine Qc.walk 34 Tryz.func18 rfl Tryz.ntmps18 rfl fun C hC=>?_
 unfold QkL at h
 obtain⟨x7,hx7,h⟩:=Qb h
 refine Qa hC [.n 10,.v .no [] (.agg (Qd n1)),.n 4,.o (.c false [.d,.d,.d] (.tup [.sl 1 (x7.1.map Qe),.i .i64 x7.2])),.n 14] rfl ⟨⟨tt_,rfl⟩,(Qmz _ _ _ hx7)⟩ ?_
 rcases bifE h with⟨hc8,h⟩|⟨hc8,h⟩
 ·refine Qa hC [.br true,.n 9,.denil 4 [some 1],.keep [4,5] []] rfl ⟨tt_,hc8⟩ ?_
  cases h
  exact AK.done (ex_ [_,_] (an_ (an_ rfl (an_ rfl tt_)) (gives tt_)))
 ·obtain⟨e9,he9,h⟩:=Qb h
  obtain⟨x10,hx10,h⟩:=Qb h
  refine Qa hC [.br false,.n 3,.keep [2,3,4,5,6] [2,3]] rfl ⟨tt_,hc8⟩ ?_
  refine AK.draw2 Qq hC mixed [.a .no (some ([],.agg (Qd n1))) false,.a .no none false,.a .no none false,.a .no none false,.a .no none false,.a (.row (Qg e9)) none false,.a .no none false,.a .no none false,.a .no none false,.a .no none false,.a .no none false,.a (.c false [.d,.d,.d,.d] (.tup [.sl 1 (x10.1.map Qv),.i .i64 x10.2])) none false,.a .no none false,.a .no none false,.m .s,.m .s] [] [] [4,5] [] rfl rfl rfl ⟨⟨⟨tt_,rfl⟩,(idxM he9)⟩,(Qgp _ _ _ _ hx10)⟩ rfl (by kernel_rfl) rfl rfl rfl ?_
  refine Qa hC [.n 2,.keep [4,5] []] rfl tt_ ?_
  cases h
  exact AK.done (ex_ [_,_] (an_ (an_ rfl (an_ rfl tt_)) (gives tt_)))
def Qhe (a1:(List (Int×Int)))(b2:(List (Int×Int)))(i6:Int):Option (Int⊕(Unit⊕Unit)):=
 bif (decide (i6<(a1.length:Int)))then
 (idx a1 i6).bind fun e9=>
 (idx b2 i6).bind fun e10=>
 bif (!((e9.1==e10.1)&&(e9.2==e10.2)))then
 some (.inr (.inl ()))
 else
 some (.inl (w64 (i6+1)))
 else
 some (.inr (.inr ()))
def Qja : Option Bool:=
 some false
def Qjb : Option Bool:=
 some true
def QkM (a1:(List (Int×Int)))(b2:(List (Int×Int))):Option Bool:=
 bif ((a1.length:Int) != (b2.length:Int))then
 some false
 else
 (QI (fun st=>Qhe a1 b2 st) 0).bind (Sum.elim (fun q=>Qja) (fun q=>Qjb))
theorem Qpq (a1:(List (Int×Int)))(b2:(List (Int×Int))){r:Bool}(h:QkM a1 b2=some r):Qc Tryz.prog 45 [.sl 2 (a1.map QD),.sl 2 (b2.map QD)] [] (Qh (.b r) []):=by
 refine Qc.walk 26 Tryz.func45 rfl Tryz.ntmps45 rfl fun C hC=>?_
 unfold QkM at h
 refine Qa hC [.n 9,.o (.ln a1.length),.n 1,.o (.ln b2.length),.n 3] rfl ⟨⟨tt_,Qi⟩,Qi⟩ ?_
 rcases bifE h with⟨hc5,h⟩|⟨hc5,h⟩
 ·refine Qa hC [.br true,.n 7,.keep [4] []] rfl ⟨tt_,hc5⟩ ?_
  cases h
  exact AK.done (ex_ [_] (an_ (an_ rfl tt_) (gives tt_)))
 ·refine Qa hC [.br false,.n 9,.keep [0,1,5] []] rfl ⟨tt_,hc5⟩ ?_
  obtain⟨o12,hl12,h⟩:=Qb h
  refine AK.loop (body:=(fun st=>Qhe a1 b2 st)) (fun st σ=>σ=⟨[(0,.sl 2 (a1.map QD)),(1,.sl 2 (b2.map QD)),(5,.i .i64 st)],[]⟩) (Sum.elim (fun q e σ=>e=.ret∧σ=⟨[(4,.b false)],[]⟩) (fun q e σ=>e=.exit 0∧σ=⟨[],[]⟩)) hl12 rfl ?_ ?_
  ·rintro i6 o σ rfl h
   replace h:Qhe a1 b2 i6=some o:=h
   unfold Qhe at h
   refine Qa hC [.n 5,.o (.ln a1.length),.n 3] rfl ⟨tt_,Qi⟩ ?_
   rcases bifE h with⟨hc8,h⟩|⟨hc8,h⟩
   ·obtain⟨e9,he9,h⟩:=Qb h
    obtain⟨e10,he10,h⟩:=Qb h
    refine Qa hC [.br true,.n 5,.keep [0,1,5] []] rfl ⟨tt_,hc8⟩ ?_
    refine AK.draw2 Qq hC mixed [.a .no none false,.a .no none false,.a (.row (QD e9)) none false,.a .no (some ([],.agg (QD e9))) false,.a .no none false,.a .no none false,.a (.row (QD e10)) none false,.a .no (some ([],.agg (QD e10))) false,.a (.any (.b (!((e9.1==e10.1)&&(e9.2==e10.2)))) none) none false] [] [] [0,1,5,25] [] rfl rfl rfl ⟨⟨⟨⟨⟨tt_,(idxM he9)⟩,rfl⟩,(idxM he10)⟩,rfl⟩,(fun σ h1 h2 _=>Stp.neAgg rfl rfl (bleN hC.n rfl) (h1 _ _ rfl) (h1 _ _ rfl) rfl rfl (Qul _ _ _ _))⟩ rfl (by kernel_rfl) rfl rfl rfl ?_
    refine Qa hC [.n 1] rfl tt_ ?_
    rcases bifE h with⟨hc11,h⟩|⟨hc11,h⟩
    ·refine Qa hC [.br true,.n 8,.keep [4] []] rfl ⟨tt_,hc11⟩ ?_
     cases h
     exact rndR rfl (an_ rfl rfl)
    ·refine Qa hC [.br false,.n 8,.keep [0,1,5] []] rfl ⟨tt_,hc11⟩ ?_
     cases h
     exact rndN rfl rfl
   ·refine Qa hC [.br false,.n 2,.keep [] []] rfl ⟨tt_,hc8⟩ ?_
    cases h
    exact rndX rfl (an_ rfl rfl)
  ·rcases o12 with(_ | _)
   ·replace h:Qja=some r:=h
    unfold Qja at h
    rintro e σ ⟨rfl,rfl⟩
    refine Qa hC [.n 2,.keep [4] []] rfl tt_ ?_
    cases h
    exact AK.done (ex_ [_] (an_ (an_ rfl tt_) (gives tt_)))
   ·replace h:Qjb=some r:=h
    unfold Qjb at h
    rintro e σ ⟨rfl,rfl⟩
    refine Qa hC [.n 8,.keep [4] []] rfl tt_ ?_
    cases h
    exact AK.done (ex_ [_] (an_ (an_ rfl tt_) (gives tt_)))
def QeQ (a1:(List (List (Int×Int))))(b2:(List (List (Int×Int))))(i6:Int):Option (Int⊕(Unit⊕Unit)):=
 bif (decide (i6<(a1.length:Int)))then
 (idx a1 i6).bind fun e9=>
 (idx b2 i6).bind fun e10=>
 (QkM e9 e10).bind fun x11=>
 bif (!x11)then
 some (.inr (.inl ()))
 else
 some (.inl (w64 (i6+1)))
 else
 some (.inr (.inr ()))
def QgZ : Option Bool:=
 some false
def Qg0 : Option Bool:=
 some true
def Qiz (a1:(List (List (Int×Int))))(b2:(List (List (Int×Int)))):Option Bool:=
 bif ((a1.length:Int) != (b2.length:Int))then
 some false
 else
 (QI (fun st=>QeQ a1 b2 st) 0).bind (Sum.elim (fun q=>QgZ) (fun q=>Qg0))
theorem QmC (a1:(List (List (Int×Int))))(b2:(List (List (Int×Int)))){r:Bool}(h:Qiz a1 b2=some r):Qc Tryz.prog 19 [.sl 1 (a1.map Qv),.sl 1 (b2.map Qv)] [] (Qh (.b r) []):=by
 refine Qc.walk 27 Tryz.func19 rfl Tryz.ntmps19 rfl fun C hC=>?_
 unfold Qiz at h
 refine Qa hC [.n 9,.o (.ln a1.length),.n 1,.o (.ln b2.length),.n 3] rfl ⟨⟨tt_,Qi⟩,Qi⟩ ?_
 rcases bifE h with⟨hc5,h⟩|⟨hc5,h⟩
 ·refine Qa hC [.br true,.n 7,.keep [4] []] rfl ⟨tt_,hc5⟩ ?_
  cases h
  exact AK.done (ex_ [_] (an_ (an_ rfl tt_) (gives tt_)))
 ·refine Qa hC [.br false,.n 9,.keep [0,1,5] []] rfl ⟨tt_,hc5⟩ ?_
  obtain⟨o13,hl13,h⟩:=Qb h
  refine AK.loop (body:=(fun st=>QeQ a1 b2 st)) (fun st σ=>σ=⟨[(0,.sl 1 (a1.map Qv)),(1,.sl 1 (b2.map Qv)),(5,.i .i64 st)],[]⟩) (Sum.elim (fun q e σ=>e=.ret∧σ=⟨[(4,.b false)],[]⟩) (fun q e σ=>e=.exit 0∧σ=⟨[],[]⟩)) hl13 rfl ?_ ?_
  ·rintro i6 o σ rfl h
   replace h:QeQ a1 b2 i6=some o:=h
   unfold QeQ at h
   refine Qa hC [.n 5,.o (.ln a1.length),.n 3] rfl ⟨tt_,Qi⟩ ?_
   rcases bifE h with⟨hc8,h⟩|⟨hc8,h⟩
   ·obtain⟨e9,he9,h⟩:=Qb h
    obtain⟨e10,he10,h⟩:=Qb h
    obtain⟨x11,hx11,h⟩:=Qb h
    refine Qa hC [.br true,.n 5,.keep [0,1,5] []] rfl ⟨tt_,hc8⟩ ?_
    refine AK.draw2 Qq hC mixed [.a .no none false,.a .no none false,.a (.row (Qv e9)) none false,.a .no none false,.a .no none false,.a .no none false,.a (.row (Qv e10)) none false,.a .no none false,.a (.c false [.d,.d] (.b x11)) none false,.a .no none false] [] [] [0,1,5,26] [] rfl rfl rfl ⟨⟨⟨tt_,(idxM he9)⟩,(idxM he10)⟩,(Qpq _ _ hx11)⟩ rfl (by kernel_rfl) rfl rfl rfl ?_
    refine Qa hC [.n 1] rfl tt_ ?_
    rcases bifE h with⟨hc12,h⟩|⟨hc12,h⟩
    ·refine Qa hC [.br true,.n 8,.keep [4] []] rfl ⟨tt_,hc12⟩ ?_
     cases h
     exact rndR rfl (an_ rfl rfl)
    ·refine Qa hC [.br false,.n 8,.keep [0,1,5] []] rfl ⟨tt_,hc12⟩ ?_
     cases h
     exact rndN rfl rfl
   ·refine Qa hC [.br false,.n 2,.keep [] []] rfl ⟨tt_,hc8⟩ ?_
    cases h
    exact rndX rfl (an_ rfl rfl)
  ·rcases o13 with(_ | _)
   ·replace h:QgZ=some r:=h
    unfold QgZ at h
    rintro e σ ⟨rfl,rfl⟩
    refine Qa hC [.n 2,.keep [4] []] rfl tt_ ?_
    cases h
    exact AK.done (ex_ [_] (an_ (an_ rfl tt_) (gives tt_)))
   ·replace h:Qg0=some r:=h
    unfold Qg0 at h
    rintro e σ ⟨rfl,rfl⟩
    refine Qa hC [.n 8,.keep [4] []] rfl tt_ ?_
    cases h
    exact AK.done (ex_ [_] (an_ (an_ rfl tt_) (gives tt_)))
def QaU (s1:(List Int))(s2:(List Int))(x6:Int):Option (Int⊕(Unit⊕Unit)):=
 bif (decide (x6<(s1.length:Int)))then
 (idx s1 x6).bind fun e9=>
 (idx s2 x6).bind fun e10=>
 bif (e9 != e10)then
 some (.inr (.inl ()))
 else
 some (.inl (w64 (x6+1)))
 else
 some (.inr (.inr ()))
def Qd1 : Option Bool:=
 some false
def Qd2 : Option Bool:=
 some true
def Qbs (s1:(List Int))(s2:(List Int)):Option Bool:=
 bif ((s1.length:Int) != (s2.length:Int))then
 some false
 else
 (QI (fun st=>QaU s1 s2 st) 0).bind (Sum.elim (fun q=>Qd1) (fun q=>Qd2))
theorem Qkl (s1:(List Int))(s2:(List Int)){r:Bool}(h:Qbs s1 s2=some r):Qc Tryz.prog 42 [.sl 1 (s1.map Qe),.sl 1 (s2.map Qe)] [] (Qh (.b r) []):=by
 refine Qc.walk 26 Tryz.func42 rfl Tryz.ntmps42 rfl fun C hC=>?_
 unfold Qbs at h
 refine Qa hC [.n 9,.o (.ln s1.length),.n 1,.o (.ln s2.length),.n 3] rfl ⟨⟨tt_,Qi⟩,Qi⟩ ?_
 rcases bifE h with⟨hc5,h⟩|⟨hc5,h⟩
 ·refine Qa hC [.br true,.n 7,.keep [4] []] rfl ⟨tt_,hc5⟩ ?_
  cases h
  exact AK.done (ex_ [_] (an_ (an_ rfl tt_) (gives tt_)))
 ·refine Qa hC [.br false,.n 6,.o (.ln s1.length),.n 4,.keep [0,1,12,13] []] rfl ⟨⟨tt_,hc5⟩,Qi⟩ ?_
  obtain⟨o12,hl12,h⟩:=Qb h
  refine AK.loop (body:=(fun st=>QaU s1 s2 st)) (fun st σ=>σ=⟨[(0,.sl 1 (s1.map Qe)),(1,.sl 1 (s2.map Qe)),(12,.i .i64 (s1.length:Int)),(13,.i .i64 st)],[]⟩) (Sum.elim (fun q e σ=>e=.ret∧σ=⟨[(4,.b false)],[]⟩) (fun q e σ=>e=.exit 0∧σ=⟨[],[]⟩)) hl12 rfl ?_ ?_
  ·rintro x6 o σ rfl h
   replace h:QaU s1 s2 x6=some o:=h
   unfold QaU at h
   refine Qa hC [.n 6] rfl tt_ ?_
   rcases bifE h with⟨hc8,h⟩|⟨hc8,h⟩
   ·obtain⟨e9,he9,h⟩:=Qb h
    obtain⟨e10,he10,h⟩:=Qb h
    refine Qa hC [.br true,.n 11,.keep [0,1,5,12,13] []] rfl ⟨tt_,hc8⟩ ?_
    refine AK.draw2 Qq hC mixed [.a .no none false,.a .no none false,.a (.row (Qe e9)) none false,.a .no none false,.a .no none false,.a .no none false,.a (.row (Qe e10)) none false,.a .no none false,.a .no none false] [] [] [0,1,12,13,24] [] rfl rfl rfl ⟨⟨tt_,(idxM he9)⟩,(idxM he10)⟩ rfl (by kernel_rfl) rfl rfl rfl ?_
    refine Qa hC [.n 1] rfl tt_ ?_
    rcases bifE h with⟨hc11,h⟩|⟨hc11,h⟩
    ·refine Qa hC [.br true,.n 8,.keep [4] []] rfl ⟨tt_,hc11⟩ ?_
     cases h
     exact rndR rfl (an_ rfl rfl)
    ·refine Qa hC [.br false,.n 7,.keep [0,1,12,13] []] rfl ⟨tt_,hc11⟩ ?_
     cases h
     exact rndN rfl rfl
   ·refine Qa hC [.br false,.n 2,.keep [] []] rfl ⟨tt_,hc8⟩ ?_
    cases h
    exact rndX rfl (an_ rfl rfl)
  ·rcases o12 with(_ | _)
   ·replace h:Qd1=some r:=h
    unfold Qd1 at h
    rintro e σ ⟨rfl,rfl⟩
    refine Qa hC [.n 2,.keep [4] []] rfl tt_ ?_
    cases h
    exact AK.done (ex_ [_] (an_ (an_ rfl tt_) (gives tt_)))
   ·replace h:Qd2=some r:=h
    unfold Qd2 at h
    rintro e σ ⟨rfl,rfl⟩
    refine Qa hC [.n 8,.keep [4] []] rfl tt_ ?_
    cases h
    exact AK.done (ex_ [_] (an_ (an_ rfl tt_) (gives tt_)))
def Qhf (p1:(List Int))(v2:(List Int)):Option Bool:=
 (Qbs p1 v2).bind fun x4=>
 some x4
theorem Qnk (p1:(List Int))(v2:(List Int)){r:Bool}(h:Qhf p1 v2=some r):Qc Tryz.prog 83 [.sl 1 (p1.map Qe),.loc 200000 0 0] [(200000,.var (Qx v2))] (Qh (.b r) [(200000,.var (Qx v2))]):=by
 refine Qc.walk 7 Tryz.func83 rfl Tryz.ntmps83 rfl fun C hC=>?_
 unfold Qhf at h
 obtain⟨x4,hx4,h⟩:=Qb h
 refine Qa hC [.n 9,.o (.c false [.d,.d] (.b x4)),.n 4,.keep [3] [200000]] rfl ⟨tt_,(Qkl _ _ hx4)⟩ ?_
 cases h
 exact AK.done (ex_ [_] (an_ (an_ rfl tt_) (gives ⟨rfl,tt_⟩)))
def QW (s1:(List (List Int)))(v2:(List Int))(x5:Int):Option (Int⊕(Int⊕Unit)):=
 bif (decide (x5<(s1.length:Int)))then
 (idx s1 x5).bind fun e9=>
 (Qhf e9 v2).bind fun x10=>
 bif x10 then
 some (.inr (.inl x5))
 else
 some (.inl (w64 (x5+1)))
 else
 some (.inr (.inr ()))
def Qcf (x7:Int):Option Int:=
 some x7
def Qcg : Option Int:=
 some (-1)
def QbH (s1:(List (List Int)))(v2:(List Int)):Option Int:=
 (QI (fun st=>QW s1 v2 st) 0).bind (Sum.elim (fun q=>Qcf q) (fun q=>Qcg))
theorem QiA (s1:(List (List Int)))(v2:(List Int)){r:Int}(h:QbH s1 v2=some r):Qc Tryz.prog 64 [.sl 1 (s1.map Qx),.clo (.func 83) [] [.loc 200000 0 0]] [(200000,.var (Qx v2))] (Qh (.i .i64 r) [(200000,.var (Qx v2))]):=by
 refine Qc.walk 19 Tryz.func64 rfl Tryz.ntmps64 rfl fun C hC=>?_
 unfold QbH at h
 refine Qa hC [.n 9,.o (.ln s1.length),.n 4,.keep [0,1,7,8] [200000]] rfl ⟨tt_,Qi⟩ ?_
 obtain⟨o12,hl12,h⟩:=Qb h
 refine AK.loop (body:=(fun st=>QW s1 v2 st)) (fun st σ=>σ=⟨[(0,.sl 1 (s1.map Qx)),(1,.clo (.func 83) [] [.loc 200000 0 0]),(7,.i .i64 (s1.length:Int)),(8,.i .i64 st)],[(200000,.var (Qx v2))]⟩) (Sum.elim (fun q e σ=>e=.ret∧σ=⟨[(4,.i .i64 q)],[(200000,.var (Qx v2))]⟩) (fun q e σ=>e=.exit 0∧σ=⟨[],[(200000,.var (Qx v2))]⟩)) hl12 rfl ?_ ?_
 ·rintro x5 o σ rfl h
  replace h:QW s1 v2 x5=some o:=h
  unfold QW at h
  refine Qa hC [.n 6] rfl tt_ ?_
  rcases bifE h with⟨hc8,h⟩|⟨hc8,h⟩
  ·obtain⟨e9,he9,h⟩:=Qb h
   obtain⟨x10,hx10,h⟩:=Qb h
   refine Qa hC [.br true,.n 15,.o (.row (Qx e9)),.n 1,.cm (.clo) [(200000,200000)] [(200000,200000)] [] [.d,.d] [(200000,.var (Qx v2))] (.b x10),.n 2] rfl ⟨⟨⟨tt_,hc8⟩,(idxM he9)⟩,(Qnk _ _ hx10)⟩ ?_
   rcases bifE h with⟨hc11,h⟩|⟨hc11,h⟩
   ·refine Qa hC [.br true,.n 9,.keep [4] [200000]] rfl ⟨tt_,hc11⟩ ?_
    cases h
    exact rndR rfl (an_ rfl rfl)
   ·refine Qa hC [.br false,.n 7,.keep [0,1,7,8] [200000]] rfl ⟨tt_,hc11⟩ ?_
    cases h
    exact rndN rfl rfl
  ·refine Qa hC [.br false,.n 2,.keep [] [200000]] rfl ⟨tt_,hc8⟩ ?_
   cases h
   exact rndX rfl (an_ rfl rfl)
 ·rcases o12 with(x7 | _)
  ·replace h:Qcf x7=some r:=h
   unfold Qcf at h
   rintro e σ ⟨rfl,rfl⟩
   refine Qa hC [.n 2,.keep [4] [200000]] rfl tt_ ?_
   cases h
   exact AK.done (ex_ [_] (an_ (an_ rfl tt_) (gives ⟨rfl,tt_⟩)))
  ·replace h:Qcg=some r:=h
   unfold Qcg at h
   rintro e σ ⟨rfl,rfl⟩
   refine Qa hC [.n 8,.keep [4] [200000]] rfl tt_ ?_
   cases h
   exact AK.done (ex_ [_] (an_ (an_ rfl tt_) (gives ⟨rfl,tt_⟩)))
def QbI (s1:(List (List Int)))(v2:(List Int)):Option Bool:=
 (QbH s1 v2).bind fun x4=>
 some (decide (0≤x4))
theorem QiB (s1:(List (List Int)))(v2:(List Int)){r:Bool}(h:QbI s1 v2=some r):Qc Tryz.prog 82 [.sl 1 (s1.map Qx),.clo (.func 83) [] [.loc 200000 0 0]] [(200000,.var (Qx v2))] (Qh (.b r) [(200000,.var (Qx v2))]):=by
 refine Qc.walk 9 Tryz.func82 rfl Tryz.ntmps82 rfl fun C hC=>?_
 unfold QbI at h
 obtain⟨x4,hx4,h⟩:=Qb h
 refine Qa hC [.n 9,.cm (.fn) [(200000,200000)] [(200000,200000)] [] [.d,.d] [(200000,.var (Qx v2))] (.i .i64 x4),.n 5,.keep [4] [200000]] rfl ⟨tt_,(QiA _ _ hx4)⟩ ?_
 cases h
 exact AK.done (ex_ [_] (an_ (an_ rfl tt_) (gives ⟨rfl,tt_⟩)))
def QdH (kind1:Int)(arcs2:Int)(row3:(List Int)):Option Bool:=
 (Qa1 kind1 arcs2).bind fun x5=>
 (QbI x5 row3).bind fun x6=>
 some x6
theorem QkN (kind1:Int)(arcs2:Int)(row3:(List Int)){r:Bool}(h:QdH kind1 arcs2 row3=some r):Qc Tryz.prog 41 [.i .i64 kind1,.i .i64 arcs2,.sl 1 (row3.map Qe)] [] (Qh (.b r) []):=by
 refine Qc.walk 12 Tryz.func41 rfl Tryz.ntmps41 rfl fun C hC=>?_
 unfold QdH at h
 obtain⟨x5,hx5,h⟩:=Qb h
 obtain⟨x6,hx6,h⟩:=Qb h
 refine Qa hC [.n 10,.o (.co false [.d,.d] 1 (x5.map Qx) x5.length),.n 1,.frz 9 (x5.map Qx) [9] [],.cm (.fn) [(200000,5)] [(5,200000)] [] [.d,.d] [(200000,.var (Qx row3))] (.b x6),.n 4,.keep [6] []] rfl ⟨⟨⟨tt_,⟨(QfM _ _ hx5),Qi,.inl rfl⟩⟩,⟨tt_,(frzL Qi)⟩⟩,(QiB _ _ hx6)⟩ ?_
 cases h
 exact AK.done (ex_ [_] (an_ (an_ rfl tt_) (gives tt_)))
def Qe8 (x6:(Int×Qw))(o3:Qm):Option Bool:=
 (QdH x6.2.task.Join (x6.2.task.Ins.length:Int) o3.Ins).bind fun x11=>
 bif (!x11)then
 some true
 else
 (QdH x6.2.task.Split (x6.2.task.Outs.length:Int) o3.Outs).bind fun x13=>
 some (!x13)
def QcA (x6:(Int×Qw))(o3:Qm)(x9:Bool):Option Int:=
 bif x9 then
 some 11
 else
 (QF x6.2 o3.Ins).bind fun x15=>
 bif (x15 != 0)then
 some x15
 else
 (QR x6.2 o3.Outs).bind fun x17=>
 some x17
def Qb3 (x6:(Int×Qw))(o3:Qm)(err7:Int):Option Int:=
 bif (err7 != 0)then
 some err7
 else
 (Qe8 x6 o3).bind (fun x9=>QcA x6 o3 x9)
def Qbl (n1:TNet)(m2:(List (List (Int×Int))))(o3:Qm):Option Int:=
 (QaD n1 m2 o3.Task o3.Vars).bind fun x6=>
 bif (x6.1==0)then
 (QM x6.2).bind fun x19=>
 Qb3 x6 o3 x19
 else
 Qb3 x6 o3 x6.1
theorem Qjc (n1:TNet)(m2:(List (List (Int×Int))))(o3:Qm){r:Int}(h:Qbl n1 m2 o3=some r):Qc Tryz.prog 15 [.agg (Qd n1),.sl 1 (m2.map Qv),.agg (Qk o3)] [] (Qh (.i .i64 r) []):=by
 refine Qc.walk 62 Tryz.func15 rfl Tryz.ntmps15 rfl fun C hC=>?_
 unfold Qbl at h
 obtain⟨x6,hx6,h⟩:=Qb h
 refine Qa hC [.n 9,.v .no [] (.agg (Qd n1)),.n 5,.o (.c false [.d,.d,.d,.d] (.tup [.agg (Qp x6.2),.i .i64 x6.1])),.n 5,.sayO 7 (.var (Qp x6.2)),.n 3] rfl ⟨⟨⟨tt_,rfl⟩,(Qlj _ _ _ _ hx6)⟩,rfl⟩ ?_
 refine AK.meet (fun σ=>∃err7:Int,σ=⟨[(5,.loc 5 0 0),(7,.loc 7 0 0),(8,.i .i64 err7)],[(5,.var (Qk o3)),(7,.var (Qp x6.2))]⟩∧Qb3 x6 o3 err7=some r) ?_ ?_
 ·refine Qa hC [.n 6] rfl tt_ ?_
  rcases bifE h with⟨hc18,h⟩|⟨hc18,h⟩
  ·obtain⟨x19,hx19,h⟩:=Qb h
   refine Qa hC [.br true,.n 1,.v .no [] (.agg (Qp x6.2)),.o (.c false [.d] (.i .i64 x19)),.n 2,.keep [5,7,8] [5,7]] rfl ⟨⟨⟨tt_,hc18⟩,rfl⟩,(Qhu _ hx19)⟩ ?_
   exact AK.met (ex_ _ (an_ rfl h))
  ·refine Qa hC [.br false,.n 1,.keep [5,7,8] [5,7]] rfl ⟨tt_,hc18⟩ ?_
   exact AK.met (ex_ _ (an_ rfl h))
 ·rintro σ ⟨err7,rfl,h⟩
  unfold Qb3 at h
  refine Qa hC [.n 7] rfl tt_ ?_
  rcases bifE h with⟨hc8,h⟩|⟨hc8,h⟩
  ·refine Qa hC [.br true,.n 8,.keep [6] []] rfl ⟨tt_,hc8⟩ ?_
   cases h
   exact AK.done (ex_ [_] (an_ (an_ rfl tt_) (gives tt_)))
  ·refine Qa hC [.br false,.n 4] rfl ⟨tt_,hc8⟩ ?_
   obtain⟨x9,hv10,h⟩:=Qb h
   replace h:QcA x6 o3 x9=some r:=h
   refine AK.meetX (fun σ=>σ=⟨[(5,.loc 5 0 0),(7,.loc 7 0 0),(50,.b x9)],[(5,.var (Qk o3)),(7,.var (Qp x6.2))]⟩) ?_ ?_
   ·replace h:=hv10
    unfold Qe8 at h
    obtain⟨x11,hx11,h⟩:=Qb h
    refine Qa hC [.n 7,.o (.ln x6.2.task.Ins.length),.n 2,.o (.c false [.d,.d,.d] (.b x11)),.n 2] rfl ⟨⟨tt_,Qi⟩,(QkN _ _ _ hx11)⟩ ?_
    rcases bifE h with⟨hc12,h⟩|⟨hc12,h⟩
    ·refine Qa hC [.say 38 (.b true),.n 13,.keep [5,7,50] [5,7]] rfl ⟨tt_,(congrArg V.b hc12)⟩ ?_
     cases h
     exact AK.met rfl
    ·obtain⟨x13,hx13,h⟩:=Qb h
     refine Qa hC [.say 38 (.b false),.n 6,.o (.ln x6.2.task.Outs.length),.n 2,.o (.c false [.d,.d,.d] (.b x13)),.n 3,.keep [5,7,50] [5,7]] rfl ⟨⟨⟨tt_,(congrArg V.b hc12)⟩,Qi⟩,(QkN _ _ _ hx13)⟩ ?_
     cases h
     exact AK.met rfl
   ·rintro σ rfl
    replace h:QcA x6 o3 x9=some r:=h
    unfold QcA at h
    refine Qa hC [.n 1] rfl tt_ ?_
    rcases bifE h with⟨hc14,h⟩|⟨hc14,h⟩
    ·refine Qa hC [.br true,.n 7,.keep [6] []] rfl ⟨tt_,hc14⟩ ?_
     cases h
     exact AK.done (ex_ [_] (an_ (an_ rfl tt_) (gives tt_)))
    ·obtain⟨x15,hx15,h⟩:=Qb h
     refine Qa hC [.br false,.n 5,.v .no [] (.agg (Qp x6.2)),.n 2,.o (.c false [.d,.d] (.i .i64 x15)),.n 9] rfl ⟨⟨⟨tt_,hc14⟩,rfl⟩,(Qie _ _ hx15)⟩ ?_
     rcases bifE h with⟨hc16,h⟩|⟨hc16,h⟩
     ·refine Qa hC [.br true,.n 8,.keep [6] []] rfl ⟨tt_,hc16⟩ ?_
      cases h
      exact AK.done (ex_ [_] (an_ (an_ rfl tt_) (gives tt_)))
     ·obtain⟨x17,hx17,h⟩:=Qb h
      refine Qa hC [.br false,.n 4,.v .no [] (.agg (Qp x6.2)),.n 2,.o (.c false [.d,.d] (.i .i64 x17)),.n 4,.keep [6] []] rfl ⟨⟨⟨tt_,hc16⟩,rfl⟩,(Qic _ _ hx17)⟩ ?_
      cases h
      exact AK.done (ex_ [_] (an_ (an_ rfl tt_) (gives tt_)))
def Qe0 (n1:TNet)(m2:(List (List (Int×Int))))(most3:Int)(x6:Int)(l7:(List Qm)):Option ((Int×(List Qm))⊕(List Qm)):=
 bif (decide (x6<(n1.Tasks.length:Int)))then
 (Qew n1 m2 x6 (w64 (most3-(l7.length:Int)))).bind fun x12=>
 (chk (decide (l7.length+x12.length≤4294967296))).bind fun _=>
 some (.inl ((w64 (x6+1)),(l7++x12)))
 else
 some (.inr l7)
def Qj6 (l10:(List Qm)):Option (List Qm):=
 some l10
def Qgv (n1:TNet)(m2:(List (List (Int×Int))))(most3:Int):Option (List Qm):=
 (QI (fun st=>Qe0 n1 m2 most3 st.1 st.2) (0,([]:List Qm))).bind (fun q=>Qj6 q)
theorem QmA (n1:TNet)(m2:(List (List (Int×Int))))(most3:Int){r:(List Qm)}(h:Qgv n1 m2 most3=some r):Qc Tryz.prog 10 [.agg (Qd n1),.sl 1 (m2.map Qv),.i .i64 most3] [] (Qh (.own 30000 r.length) [(30000,.arr 4 (r.map Qk))]):=by
 refine Qc.walk 27 Tryz.func10 rfl Tryz.ntmps10 rfl fun C hC=>?_
 unfold Qgv at h
 refine Qa hC [.n 16,.o (.ln n1.Tasks.length),.n 4,.adopt 7 15 4,.sayO 15 (.arr 4 (([]:List Qm).map Qk)),.say 7 (.own 15 ([]:List Qm).length),.keep [1,2,3,7,11,12] [3,15]] rfl ⟨⟨⟨tt_,Qi⟩,rfl⟩,(congrArg (fun n=>V.own 15 n) (by simp))⟩ ?_
 obtain⟨l10,hl14,h⟩:=Qb h
 refine AK.loop (body:=(fun st=>Qe0 n1 m2 most3 st.1 st.2)) (fun st σ=>σ=⟨[(1,.sl 1 (m2.map Qv)),(2,.i .i64 most3),(3,.loc 3 0 0),(7,.own 15 st.2.length),(11,.i .i64 (n1.Tasks.length:Int)),(12,.i .i64 st.1)],[(3,.var (Qd n1)),(15,.arr 4 (st.2.map Qk))]⟩) (fun q e σ=>e=.exit 0∧σ=⟨[(7,.own 15 q.length)],[(15,.arr 4 (q.map Qk))]⟩) hl14 rfl ?_ ?_
 ·rintro ⟨x6,l7⟩ o σ rfl h
  replace h:Qe0 n1 m2 most3 x6 l7=some o:=h
  unfold Qe0 at h
  refine Qa hC [.n 6] rfl tt_ ?_
  rcases bifE h with⟨hc11,h⟩|⟨hc11,h⟩
  ·obtain⟨x12,hx12,h⟩:=Qb h
   obtain⟨_,hk13,h⟩:=Qb h
   replace hk13:=chkE hk13
   refine Qa hC [.br true,.n 12,.v .no [] (.agg (Qd n1)),.n 6,.o (.c false [.d,.d,.d,.d] (.sl 4 (x12.map Qk))),.app ((l7++x12).map Qk) (l7++x12).length,.n 8,.keep [1,2,3,7,11,12] [3,15]] rfl ⟨⟨⟨⟨tt_,hc11⟩,rfl⟩,(Qlk _ _ _ _ hx12)⟩,⟨Qi,QfR hk13 Qi,Qd5,QhF Qi⟩⟩ ?_
   cases h
   exact rndN rfl rfl
  ·refine Qa hC [.br false,.n 2,.keep [7] [15]] rfl ⟨tt_,hc11⟩ ?_
   cases h
   exact rndX rfl (an_ rfl rfl)
 ·replace h:Qj6 l10=some r:=h
  unfold Qj6 at h
  rintro e σ ⟨rfl,rfl⟩
  refine Qa hC [.n 9,.keep [6] [15],.ren 15 30000,.keep [6] [30000]] rfl tt_ ?_
  cases h
  exact AK.done (ex_ [_] (an_ (an_ rfl tt_) (gives ⟨rfl,tt_⟩)))
def QkO (x4:(List Qm)):Option Bool:=
 bif ((x4.length:Int) != 2)then
 some true
 else
 (idx x4 0).bind fun e8=>
 bif ((e8.Vars.length:Int) != 1)then
 some true
 else
 (idx x4 1).bind fun e10=>
 some ((e10.Vars.length:Int) != 1)
def QkP (x4:(List Qm))(x13:((List (List (Int×Int)))×Int))(x3:TNet):Option Bool:=
 (idx x4 0).bind fun e16=>
 (idx e16.Vars 0).bind fun e17=>
 bif (e17==0)then
 (idx x4 1).bind fun e19=>
 (idx e19.Vars 0).bind fun e20=>
 bif (e20==2)then
 bif (x13.2==0)then
 (Qiz x13.1 ([([(2,1)]:List (Int×Int)),([]:(List (Int×Int)))]:List (List (Int×Int)))).bind fun x23=>
 bif x23 then
 (Qbl x3 ([([(0,1),(2,3),(3,1)]:List (Int×Int)),([]:(List (Int×Int)))]:List (List (Int×Int))) (Qm.mk 0 ([3]:List Int) ([0]:List Int) ([0]:List Int))).bind fun x25=>
 bif (x25==8)then
 (Qbl x3 ([([(0,1),(2,3),(3,1)]:List (Int×Int)),([]:(List (Int×Int)))]:List (List (Int×Int))) (Qm.mk 0 ([1]:List Int) ([0]:List Int) ([0]:List Int))).bind fun x27=>
 bif (x27==10)then
 (Qa1 3 3).bind fun x29=>
 bif ((x29.length:Int)==7)then
 (Qgv x3 ([([(0,1),(2,3),(3,1)]:List (Int×Int)),([]:(List (Int×Int)))]:List (List (Int×Int))) 1).bind fun x31=>
 some ((x31.length:Int)==1)
 else
 some false
 else
 some false
 else
 some false
 else
 some false
 else
 some false
 else
 some false
 else
 some false
def Qgw (x14:Bool):Option Bool:=
 some x14
def Qgx (x4:(List Qm))(x3:TNet)(x5:Bool):Option Bool:=
 bif x5 then
 some false
 else
 (idx x4 1).bind fun e12=>
 (QkL x3 e12).bind fun x13=>
 (QkP x4 x13 x3).bind (fun x14=>Qgw x14)
def Qio  : Option Bool:=
 (Qlr).bind fun x3=>
 (Qew x3 ([([(0,1),(2,3),(3,1)]:List (Int×Int)),([]:(List (Int×Int)))]:List (List (Int×Int))) 0 100).bind fun x4=>
 (QkO x4).bind (fun x5=>Qgx x4 x3 x5)
theorem QoE  {r:Bool}(h:Qio  = some r):Qc Tryz.prog 7 [] [] (Qh (.b r) []):=by
 refine Qc.walk 105 Tryz.func7 rfl Tryz.ntmps7 rfl fun C hC=>?_
 unfold Qio at h
 obtain⟨x3,hx3,h⟩:=Qb h
 obtain⟨x4,hx4,h⟩:=Qb h
 refine Qa hC [.n 7,.o (.c false [] (.agg (Qd x3))),.n 2,.sayO 1 (.var (Qd x3)),.n 4,.v .no [] (.agg (QD (0,1))),.v .no [] (.agg (QD (2,3))),.v .no [] (.agg (QD (3,1))),.v (.bd []) [] (.sl 2 (([(0,1),(2,3),(3,1)]:List (Int×Int)).map QD)),.v (.bd [none,some 2]) [] (.sl 1 (([([(0,1),(2,3),(3,1)]:List (Int×Int)),([]:(List (Int×Int)))]:List (List (Int×Int))).map Qv)),.n 5,.v .no [] (.agg (Qd x3)),.n 1,.o (.c false [.d,.d,.d,.d] (.sl 4 (x4.map Qk))),.n 5] rfl ⟨⟨⟨⟨⟨⟨⟨⟨⟨tt_,(QpT  hx3)⟩,rfl⟩,rfl⟩,rfl⟩,rfl⟩,rfl⟩,rfl⟩,rfl⟩,(Qlk _ _ _ _ hx4)⟩ ?_
 obtain⟨x5,hv6,h⟩:=Qb h
 replace h:Qgx x4 x3 x5=some r:=h
 refine AK.meetX (fun σ=>σ=⟨[(1,.loc 1 0 0),(2,.sl 1 (([([(0,1),(2,3),(3,1)]:List (Int×Int)),([]:(List (Int×Int)))]:List (List (Int×Int))).map Qv)),(3,.sl 4 (x4.map Qk)),(35,.b x5)],[(1,.var (Qd x3))]⟩) ?_ ?_
 ·replace h:=hv6
  unfold QkO at h
  refine Qa hC [.n 2,.o (.ln x4.length),.n 2] rfl ⟨tt_,Qi⟩ ?_
  rcases bifE h with⟨hc7,h⟩|⟨hc7,h⟩
  ·refine Qa hC [.say 20 (.b true),.n 16,.keep [1,2,3,35] [1]] rfl ⟨tt_,(congrArg V.b hc7)⟩ ?_
   cases h
   exact AK.met rfl
  ·obtain⟨e8,he8,h⟩:=Qb h
   refine Qa hC [.say 20 (.b false),.n 1,.o (.row (Qk e8)),.n 2,.o (.ln e8.Vars.length),.n 3] rfl ⟨⟨⟨tt_,(congrArg V.b hc7)⟩,(idxM he8)⟩,Qi⟩ ?_
   rcases bifE h with⟨hc9,h⟩|⟨hc9,h⟩
   ·refine Qa hC [.say 28 (.b true),.n 8,.keep [1,2,3,35] [1]] rfl ⟨tt_,(congrArg V.b hc9)⟩ ?_
    cases h
    exact AK.met rfl
   ·obtain⟨e10,he10,h⟩:=Qb h
    refine Qa hC [.say 28 (.b false),.n 1,.o (.row (Qk e10)),.n 2,.o (.ln e10.Vars.length),.n 3,.keep [1,2,3,35] [1]] rfl ⟨⟨⟨tt_,(congrArg V.b hc9)⟩,(idxM he10)⟩,Qi⟩ ?_
    cases h
    exact AK.met rfl
 ·rintro σ rfl
  replace h:Qgx x4 x3 x5=some r:=h
  unfold Qgx at h
  refine Qa hC [.n 1] rfl tt_ ?_
  rcases bifE h with⟨hc11,h⟩|⟨hc11,h⟩
  ·refine Qa hC [.br true,.n 7,.keep [0] []] rfl ⟨tt_,hc11⟩ ?_
   cases h
   exact AK.done (ex_ [_] (an_ (an_ rfl tt_) (gives tt_)))
  ·obtain⟨e12,he12,h⟩:=Qb h
   obtain⟨x13,hx13,h⟩:=Qb h
   refine Qa hC [.br false,.n 3,.keep [1,2,3] [1]] rfl ⟨tt_,hc11⟩ ?_
   refine AK.draw2 Qq hC mixed [.a .no (some ([],.agg (Qd x3))) false,.a .no none false,.a (.row (Qk e12)) none false,.a .no (some ([],.agg (Qk e12))) false,.a (.c false [.d,.d] (.tup [.sl 1 (x13.1.map Qv),.i .i64 x13.2])) none false,.a .no none false,.a .no none false,.a .no none false,.a .no none false,.a .no none false] [] [] [1,2,3,4,5] [1] rfl rfl rfl ⟨⟨⟨⟨tt_,rfl⟩,(idxM he12)⟩,rfl⟩,(Qpp _ _ hx13)⟩ rfl (by kernel_rfl) rfl rfl rfl ?_
   refine Qa hC [.n 3,.v (.bd []) [] (.sl 1 (([3]:List Int).map Qe)),.v (.bd []) [] (.sl 1 (([0]:List Int).map Qe)),.v (.bd []) [] (.sl 1 (([0]:List Int).map Qe)),.v .no [] (.agg (Qk (Qm.mk 0 ([3]:List Int) ([0]:List Int) ([0]:List Int)))),.n 2,.sayO 6 (.var (Qk (Qm.mk 0 ([3]:List Int) ([0]:List Int) ([0]:List Int)))),.n 4,.v (.bd []) [] (.sl 1 (([1]:List Int).map Qe)),.v (.bd []) [] (.sl 1 (([0]:List Int).map Qe)),.v (.bd []) [] (.sl 1 (([0]:List Int).map Qe)),.v .no [] (.agg (Qk (Qm.mk 0 ([1]:List Int) ([0]:List Int) ([0]:List Int)))),.n 2,.sayO 7 (.var (Qk (Qm.mk 0 ([1]:List Int) ([0]:List Int) ([0]:List Int)))),.n 3] rfl ⟨⟨⟨⟨⟨⟨⟨⟨⟨⟨tt_,rfl⟩,rfl⟩,rfl⟩,rfl⟩,rfl⟩,rfl⟩,rfl⟩,rfl⟩,rfl⟩,rfl⟩ ?_
   obtain⟨x14,hv15,h⟩:=Qb h
   replace h:Qgw x14=some r:=h
   refine AK.meetX (fun σ=>σ=⟨[(0,.b x14)],[]⟩) ?_ ?_
   ·replace h:=hv15
    unfold QkP at h
    obtain⟨e16,he16,h⟩:=Qb h
    obtain⟨e17,he17,h⟩:=Qb h
    refine Qa hC [.n 2,.o (.row (Qk e16)),.n 2,.o (.row (Qe e17)),.n 3] rfl ⟨⟨tt_,(idxM he16)⟩,(idxM he17)⟩ ?_
    rcases bifE h with⟨hc18,h⟩|⟨hc18,h⟩
    ·obtain⟨e19,he19,h⟩:=Qb h
     obtain⟨e20,he20,h⟩:=Qb h
     refine Qa hC [.say 59 (.b true),.n 1,.o (.row (Qk e19)),.n 2,.o (.row (Qe e20)),.n 4] rfl ⟨⟨⟨tt_,(congrArg V.b hc18)⟩,(idxM he19)⟩,(idxM he20)⟩ ?_
     rcases bifE h with⟨hc21,h⟩|⟨hc21,h⟩
     ·refine Qa hC [.say 68 (.b true),.n 4] rfl ⟨tt_,(congrArg V.b hc21)⟩ ?_
      rcases bifE h with⟨hc22,h⟩|⟨hc22,h⟩
      ·obtain⟨x23,hx23,h⟩:=Qb h
       refine Qa hC [.say 72 (.b true),.n 1,.v .no [] (.agg (QD (2,1))),.v (.bd []) [] (.sl 2 (([(2,1)]:List (Int×Int)).map QD)),.v (.bd [none,some 2]) [] (.sl 1 (([([(2,1)]:List (Int×Int)),([]:(List (Int×Int)))]:List (List (Int×Int))).map Qv)),.o (.c false [.d,.d] (.b x23)),.n 2] rfl ⟨⟨⟨⟨⟨tt_,(congrArg V.b hc22)⟩,rfl⟩,rfl⟩,rfl⟩,(QmC _ _ hx23)⟩ ?_
       rcases bifE h with⟨hc24,h⟩|⟨hc24,h⟩
       ·obtain⟨x25,hx25,h⟩:=Qb h
        refine Qa hC [.say 79 (.b true),.v .no [] (.agg (Qd x3)),.n 1,.v .no [] (.agg (Qk (Qm.mk 0 ([3]:List Int) ([0]:List Int) ([0]:List Int)))),.o (.c false [.d,.d,.d] (.i .i64 x25)),.n 3] rfl ⟨⟨⟨⟨tt_,(congrArg V.b hc24)⟩,rfl⟩,rfl⟩,(Qjc _ _ _ hx25)⟩ ?_
        rcases bifE h with⟨hc26,h⟩|⟨hc26,h⟩
        ·obtain⟨x27,hx27,h⟩:=Qb h
         refine Qa hC [.say 86 (.b true),.v .no [] (.agg (Qd x3)),.n 1,.v .no [] (.agg (Qk (Qm.mk 0 ([1]:List Int) ([0]:List Int) ([0]:List Int)))),.o (.c false [.d,.d,.d] (.i .i64 x27)),.n 3] rfl ⟨⟨⟨⟨tt_,(congrArg V.b hc26)⟩,rfl⟩,rfl⟩,(Qjc _ _ _ hx27)⟩ ?_
         rcases bifE h with⟨hc28,h⟩|⟨hc28,h⟩
         ·obtain⟨x29,hx29,h⟩:=Qb h
          refine Qa hC [.say 93 (.b true),.o (.co false [.d,.d] 1 (x29.map Qx) x29.length),.n 4] rfl ⟨⟨tt_,(congrArg V.b hc28)⟩,⟨(QfM _ _ hx29),Qi,.inl rfl⟩⟩ ?_
          rcases bifE h with⟨hc30,h⟩|⟨hc30,h⟩
          ·obtain⟨x31,hx31,h⟩:=Qb h
           refine Qa hC [.say 98 (.b true),.v .no [] (.agg (Qd x3)),.n 1,.o (.co false [.d,.d,.d] 4 (x31.map Qk) x31.length),.n 5,.keep [0] []] rfl ⟨⟨⟨tt_,(congrArg V.b hc30)⟩,rfl⟩,⟨(QmA _ _ _ hx31),Qi,.inl rfl⟩⟩ ?_
           cases h
           exact AK.met rfl
          ·refine Qa hC [.say 98 (.b false),.n 8,.keep [0] []] rfl ⟨tt_,(congrArg V.b hc30)⟩ ?_
           cases h
           exact AK.met rfl
         ·refine Qa hC [.say 93 (.b false),.n 13,.keep [0] []] rfl ⟨tt_,(congrArg V.b hc28)⟩ ?_
          cases h
          exact AK.met rfl
        ·refine Qa hC [.say 86 (.b false),.n 20,.keep [0] []] rfl ⟨tt_,(congrArg V.b hc26)⟩ ?_
         cases h
         exact AK.met rfl
       ·refine Qa hC [.say 79 (.b false),.n 27,.keep [0] []] rfl ⟨tt_,(congrArg V.b hc24)⟩ ?_
        cases h
        exact AK.met rfl
      ·refine Qa hC [.say 72 (.b false),.n 34,.keep [0] []] rfl ⟨tt_,(congrArg V.b hc22)⟩ ?_
       cases h
       exact AK.met rfl
     ·refine Qa hC [.say 68 (.b false),.n 38,.keep [0] []] rfl ⟨tt_,(congrArg V.b hc21)⟩ ?_
      cases h
      exact AK.met rfl
    ·refine Qa hC [.say 59 (.b false),.n 47,.keep [0] []] rfl ⟨tt_,(congrArg V.b hc18)⟩ ?_
     cases h
     exact AK.met rfl
   ·rintro σ rfl
    replace h:Qgw x14=some r:=h
    unfold Qgw at h
    refine Qa hC [.n 2,.keep [0] []] rfl tt_ ?_
    cases h
    exact AK.done (ex_ [_] (an_ (an_ rfl tt_) (gives tt_)))
def Qeb (e1:Qf)(rec_law04_few:Qf→Int→Option Int)(deep2:Int)(n8:Int)(i9:Int):Option ((Int×Int)⊕(Unit⊕Int)):=
 bif (decide (i9<(e1.Kids.length:Int)))then
 (idx e1.Kids i9).bind fun e14=>
 (rec_law04_few e14 (w64 (deep2-1))).bind fun x15=>
 bif (x15==0)then
 some (.inr (.inl ()))
 else
 bif (decide ((w64 ((w64 (n8-500))+x15))≤1))then
 some (.inr (.inl ()))
 else
 some (.inl ((w64 ((w64 (n8-500))+x15)),(w64 (i9+1))))
 else
 some (.inr (.inr n8))
def Qjy : Option Int:=
 some 0
def Qjz (n12:Int):Option Int:=
 some (w64 (n12-1))
def Qip (rec_law04_few:Qf→Int→Option Int)(e1:Qf)(deep2:Int):Option Int:=
 bif ((decide (deep2≤0))||(decide (9<(e1.Kids.length:Int))))then
 some 0
 else
 (QI (fun st=>Qeb e1 rec_law04_few deep2 st.1 st.2) (500,0)).bind (Sum.elim (fun q=>Qjy) (fun q=>Qjz q))
def QdI : Nat→Qf→Int→Option Int
 | 0,_,_=>none
 | n+1,e1,deep2=>Qip (QdI n) e1 deep2
def Qlx (e1:Qf)(deep2:Int):Option Int:=QdI (SizeOf.sizeOf e1) e1 deep2
theorem QoF (rec_law04_few:Qf→Int→Option Int)(hrec_law04_few:∀(e1:Qf) (deep2:Int) {r:Int},rec_law04_few e1 deep2=some r→Qc Tryz.prog 87 [.agg (Qj e1),.i .i64 deep2] [] (Qh (.i .i64 r) []))(e1:Qf)(deep2:Int){r:Int}(h:Qip rec_law04_few e1 deep2=some r):Qc Tryz.prog 87 [.agg (Qj e1),.i .i64 deep2] [] (Qh (.i .i64 r) []):=by
 refine Qc.walk 41 Tryz.func87 rfl Tryz.ntmps87 rfl fun C hC=>?_
 unfold Qip at h
 refine Qa hC [.n 8] rfl tt_ ?_
 refine AK.meetX (fun σ=>σ=⟨[(1,.i .i64 deep2),(2,.loc 2 0 0),(15,.b ((decide (deep2≤0))||(decide (9<(e1.Kids.length:Int)))))],[(2,.var (Qj e1))]⟩) ?_ ?_
 ·refine Qa hC [.n 4] rfl tt_ ?_
  rcases QN (decide (deep2≤0))with hc6 | hc6
  ·refine Qa hC [.say 10 (.b true),.n 6,.say 15 (.b ((decide (deep2≤0))||(decide (9<(e1.Kids.length:Int))))),.keep [1,2,15] [2]] rfl ⟨⟨tt_,(congrArg V.b hc6)⟩,(congrArg V.b (orT hc6 rfl))⟩ ?_
   exact AK.met rfl
  ·refine Qa hC [.say 10 (.b false),.n 2,.o (.ln e1.Kids.length),.n 3,.say 15 (.b ((decide (deep2≤0))||(decide (9<(e1.Kids.length:Int))))),.keep [1,2,15] [2]] rfl ⟨⟨⟨tt_,(congrArg V.b hc6)⟩,QhI _⟩,(congrArg V.b (orF hc6 rfl))⟩ ?_
   exact AK.met rfl
 ·rintro σ rfl
  refine Qa hC [.n 1] rfl tt_ ?_
  rcases bifE h with⟨hc7,h⟩|⟨hc7,h⟩
  ·refine Qa hC [.br true,.n 7,.keep [4] []] rfl ⟨tt_,hc7⟩ ?_
   cases h
   exact AK.done (ex_ [_] (an_ (an_ rfl tt_) (gives tt_)))
  ·refine Qa hC [.br false,.n 14,.keep [1,2,5,6] [2]] rfl ⟨tt_,hc7⟩ ?_
   obtain⟨o18,hl18,h⟩:=Qb h
   refine AK.loop (body:=(fun st=>Qeb e1 rec_law04_few deep2 st.1 st.2)) (fun st σ=>σ=⟨[(1,.i .i64 deep2),(2,.loc 2 0 0),(5,.i .i64 st.1),(6,.i .i64 st.2)],[(2,.var (Qj e1))]⟩) (Sum.elim (fun q e σ=>e=.ret∧σ=⟨[(4,.i .i64 0)],[]⟩) (fun q e σ=>e=.exit 0∧σ=⟨[(5,.i .i64 q)],[]⟩)) hl18 rfl ?_ ?_
   ·rintro ⟨n8,i9⟩ o σ rfl h
    replace h:Qeb e1 rec_law04_few deep2 n8 i9=some o:=h
    unfold Qeb at h
    refine Qa hC [.n 6,.o (.ln e1.Kids.length),.n 3] rfl ⟨tt_,QhI _⟩ ?_
    rcases bifE h with⟨hc13,h⟩|⟨hc13,h⟩
    ·obtain⟨e14,he14,h⟩:=Qb h
     obtain⟨x15,hx15,h⟩:=Qb h
     refine Qa hC [.br true,.n 9,.o (.row (Qj e14)),.v .no [] (.agg (Qj e14)),.n 2,.o (.c false [.d,.d] (.i .i64 x15)),.n 10] rfl ⟨⟨⟨⟨tt_,hc13⟩,(Qda he14)⟩,rfl⟩,(hrec_law04_few _ _ hx15)⟩ ?_
     rcases bifE h with⟨hc16,h⟩|⟨hc16,h⟩
     ·refine Qa hC [.br true,.n 9,.keep [4] []] rfl ⟨tt_,hc16⟩ ?_
      cases h
      exact rndR rfl (an_ rfl rfl)
     ·refine Qa hC [.br false,.n 17] rfl ⟨tt_,hc16⟩ ?_
      rcases bifE h with⟨hc17,h⟩|⟨hc17,h⟩
      ·refine Qa hC [.br true,.n 8,.keep [4] []] rfl ⟨tt_,hc17⟩ ?_
       cases h
       exact rndR rfl (an_ rfl rfl)
      ·refine Qa hC [.br false,.n 8,.keep [1,2,5,6] [2]] rfl ⟨tt_,hc17⟩ ?_
       cases h
       exact rndN rfl rfl
    ·refine Qa hC [.br false,.n 2,.keep [5] []] rfl ⟨tt_,hc13⟩ ?_
     cases h
     exact rndX rfl (an_ rfl rfl)
   ·rcases o18 with(_ | n12)
    ·replace h:Qjy=some r:=h
     unfold Qjy at h
     rintro e σ ⟨rfl,rfl⟩
     refine Qa hC [.n 2,.keep [4] []] rfl tt_ ?_
     cases h
     exact AK.done (ex_ [_] (an_ (an_ rfl tt_) (gives tt_)))
    ·replace h:Qjz n12=some r:=h
     unfold Qjz at h
     rintro e σ ⟨rfl,rfl⟩
     refine Qa hC [.n 10,.keep [4] []] rfl tt_ ?_
     cases h
     exact AK.done (ex_ [_] (an_ (an_ rfl tt_) (gives tt_)))
theorem QkQ : ∀(fuel:Nat) (e1:Qf) (deep2:Int) {r:Int},QdI fuel e1 deep2=some r→Qc Tryz.prog 87 [.agg (Qj e1),.i .i64 deep2] [] (Qh (.i .i64 r) [])
 | 0,_,_,_,h=>by cases h
 | n+1,e1,deep2,_,h=>QoF (QdI n) (fun _ _ _ h=>QkQ n _ _ h) e1 deep2 h
theorem QpW (e1:Qf)(deep2:Int){r:Int}(h:Qlx e1 deep2=some r):Qc Tryz.prog 87 [.agg (Qj e1),.i .i64 deep2] [] (Qh (.i .i64 r) []):=QkQ _ e1 deep2 h
def Qfz (e1:Qf):Option Bool:=
 (Qlx e1 60).bind fun x3=>
 some (decide (0<x3))
theorem QjA (e1:Qf){r:Bool}(h:Qfz e1=some r):Qc Tryz.prog 46 [.agg (Qj e1)] [] (Qh (.b r) []):=by
 refine Qc.walk 6 Tryz.func46 rfl Tryz.ntmps46 rfl fun C hC=>?_
 unfold Qfz at h
 obtain⟨x3,hx3,h⟩:=Qb h
 refine Qa hC [.n 8,.v .no [] (.agg (Qj e1)),.o (.c false [.d,.d] (.i .i64 x3)),.n 5,.keep [2] []] rfl ⟨⟨tt_,rfl⟩,(QpW _ _ hx3)⟩ ?_
 cases h
 exact AK.done (ex_ [_] (an_ (an_ rfl tt_) (gives tt_)))
def QjB (n1:TNet)(i9:Int)(parts8:Int)(e14:Qy):Option Bool:=
 (idx n1.Colours i9).bind fun e17=>
 bif (decide (100<(e17.Name.size:Int)))then
 some true
 else
 some (decide (400<(w64 (parts8+(e14.Names.length:Int)))))
def Qec (n1:TNet)(i9:Int)(k20:Int):Option (Int⊕(Unit⊕Unit)):=
 (idx n1.Colours i9).bind fun e22=>
 bif (decide (k20<(e22.Names.length:Int)))then
 (idx n1.Colours i9).bind fun e24=>
 (idx e24.Names k20).bind fun e25=>
 bif (decide (100<(e25.size:Int)))then
 some (.inr (.inl ()))
 else
 some (.inl (w64 (k20+1)))
 else
 some (.inr (.inr ()))
def QjC : Option ((Int×Int)⊕(Unit⊕Int)):=
 some (.inr (.inl ()))
def QjD (parts8:Int)(e14:Qy)(i9:Int):Option ((Int×Int)⊕(Unit⊕Int)):=
 some (.inl ((w64 (parts8+(e14.Names.length:Int))),(w64 (i9+1))))
def QfZ (n1:TNet)(i9:Int)(parts8:Int)(e14:Qy)(x15:Bool):Option ((Int×Int)⊕(Unit⊕Int)):=
 bif x15 then
 some (.inr (.inl ()))
 else
 (QI (fun st=>Qec n1 i9 st) 0).bind (Sum.elim (fun q=>QjC) (fun q=>QjD parts8 e14 i9))
def Qed (n1:TNet)(parts8:Int)(i9:Int):Option ((Int×Int)⊕(Unit⊕Int)):=
 bif (decide (i9<(n1.Colours.length:Int)))then
 (idx n1.Colours i9).bind fun e14=>
 (QjB n1 i9 parts8 e14).bind (fun x15=>QfZ n1 i9 parts8 e14 x15)
 else
 some (.inr (.inr parts8))
def QjE : Option Bool:=
 some false
def Qee (n1:TNet)(parts29:Int)(i30:Int):Option ((Int×Int)⊕(Unit⊕Int)):=
 bif (decide (i30<(n1.Places.length:Int)))then
 (idx n1.Places i30).bind fun e35=>
 (idx n1.Places i30).bind fun e36=>
 bif (decide (100<(e36.Name.size:Int)))then
 some (.inr (.inl ()))
 else
 some (.inl ((w64 (parts29+(e35.First.length:Int))),(w64 (i30+1))))
 else
 some (.inr (.inr parts29))
def QjF : Option Bool:=
 some false
def Qdw (e44:Qs)(k48:Int):Option (Int⊕(Unit⊕Unit)):=
 bif (decide (k48<(e44.Vars.length:Int)))then
 (idx e44.Vars k48).bind fun e51=>
 bif (decide (100<(e51.Name.size:Int)))then
 some (.inr (.inl ()))
 else
 some (.inl (w64 (k48+1)))
 else
 some (.inr (.inr ()))
def Qjd : Option ((Int×Int)⊕(Unit⊕Unit)):=
 some (.inr (.inl ()))
def Qdx (e44:Qs)(ok55:Bool)(k56:Int):Option ((Bool×Int)⊕Bool):=
 bif (decide (k56<(e44.Ins.length:Int)))then
 (idx e44.Ins k56).bind fun e61=>
 (Qfz e61.Expr).bind fun x62=>
 some (.inl ((ok55&&x62),(w64 (k56+1))))
 else
 some (.inr ok55)
def Qdy (e44:Qs)(ok66:Bool)(k67:Int):Option ((Bool×Int)⊕Bool):=
 bif (decide (k67<(e44.Outs.length:Int)))then
 (idx e44.Outs k67).bind fun e72=>
 (Qfz e72.Expr).bind fun x73=>
 some (.inl ((ok66&&x73),(w64 (k67+1))))
 else
 some (.inr ok66)
def Qe9 (arcs39:Int)(e44:Qs)(i40:Int)(ok70:Bool):Option ((Int×Int)⊕(Unit⊕Unit)):=
 bif (!ok70)then
 some (.inr (.inl ()))
 else
 some (.inl ((w64 ((w64 ((w64 ((w64 (arcs39+(e44.Vars.length:Int)))+(e44.Ins.length:Int)))+(e44.Outs.length:Int)))+(e44.Cancel.length:Int))),(w64 (i40+1))))
def Qfa (e44:Qs)(arcs39:Int)(i40:Int)(ok59:Bool):Option ((Int×Int)⊕(Unit⊕Unit)):=
 (QI (fun st=>Qdy e44 st.1 st.2) (ok59,0)).bind (fun q=>Qe9 arcs39 e44 i40 q)
def Qfb (e44:Qs)(arcs39:Int)(i40:Int):Option ((Int×Int)⊕(Unit⊕Unit)):=
 (Qfz e44.Guard).bind fun x54=>
 (QI (fun st=>Qdx e44 st.1 st.2) (x54,0)).bind (fun q=>Qfa e44 arcs39 i40 q)
def Qdz (n1:TNet)(arcs39:Int)(i40:Int):Option ((Int×Int)⊕(Unit⊕Unit)):=
 bif (decide (i40<(n1.Tasks.length:Int)))then
 (idx n1.Tasks i40).bind fun e44=>
 bif ((decide (200<(w64 ((w64 ((w64 ((w64 (arcs39+(e44.Vars.length:Int)))+(e44.Ins.length:Int)))+(e44.Outs.length:Int)))+(e44.Cancel.length:Int)))))||(decide (100<(e44.Name.size:Int))))then
 some (.inr (.inl ()))
 else
 (QI (fun st=>Qdw e44 st) 0).bind (Sum.elim (fun q=>Qjd) (fun q=>Qfb e44 arcs39 i40))
 else
 some (.inr (.inr ()))
def Qje : Option Bool:=
 some false
def Qjf (parts33:Int):Option Bool:=
 some (decide (parts33≤400))
def Qfc (n1:TNet)(parts33:Int):Option Bool:=
 (QI (fun st=>Qdz n1 st.1 st.2) (0,0)).bind (Sum.elim (fun q=>Qje) (fun q=>Qjf parts33))
def Qfd (n1:TNet)(parts12:Int):Option Bool:=
 (QI (fun st=>Qee n1 st.1 st.2) (parts12,0)).bind (Sum.elim (fun q=>QjF) (fun q=>Qfc n1 q))
def Qif (n1:TNet):Option Bool:=
 bif ((decide (40<(n1.Colours.length:Int)))||((decide (70<(n1.Places.length:Int)))||(decide (70<(n1.Tasks.length:Int)))))then
 some false
 else
 (QI (fun st=>Qed n1 st.1 st.2) (0,0)).bind (Sum.elim (fun q=>QjE) (fun q=>Qfd n1 q))
theorem QpX (n1:TNet){r:Bool}(h:Qif n1=some r):Qc Tryz.prog 21 [.agg (Qd n1)] [] (Qh (.b r) []):=by
 refine Qc.walk 201 Tryz.func21 rfl Tryz.ntmps21 rfl fun C hC=>?_
 unfold Qif at h
 refine Qa hC [.n 8] rfl tt_ ?_
 refine AK.meetX (fun σ=>σ=⟨[(1,.loc 1 0 0),(31,.b ((decide (40<(n1.Colours.length:Int)))||((decide (70<(n1.Places.length:Int)))||(decide (70<(n1.Tasks.length:Int))))))],[(1,.var (Qd n1))]⟩) ?_ ?_
 ·refine Qa hC [.n 3,.o (.ln n1.Colours.length),.n 2] rfl ⟨tt_,Qi⟩ ?_
  rcases QN (decide (40<(n1.Colours.length:Int)))with hc5 | hc5
  ·refine Qa hC [.say 20 (.b true),.n 12,.say 31 (.b ((decide (40<(n1.Colours.length:Int)))||((decide (70<(n1.Places.length:Int)))||(decide (70<(n1.Tasks.length:Int)))))),.keep [1,31] [1]] rfl ⟨⟨tt_,(congrArg V.b hc5)⟩,(congrArg V.b (orT hc5 rfl))⟩ ?_
   exact AK.met rfl
  ·refine Qa hC [.say 20 (.b false),.n 2,.o (.ln n1.Places.length),.n 3] rfl ⟨⟨tt_,(congrArg V.b hc5)⟩,Qi⟩ ?_
   rcases QN (decide (70<(n1.Places.length:Int)))with hc6 | hc6
   ·refine Qa hC [.say 26 (.b true),.n 6,.say 31 (.b ((decide (40<(n1.Colours.length:Int)))||((decide (70<(n1.Places.length:Int)))||(decide (70<(n1.Tasks.length:Int)))))),.keep [1,31] [1]] rfl ⟨⟨tt_,(congrArg V.b hc6)⟩,(congrArg V.b (orF hc5 (orT hc6 rfl)))⟩ ?_
    exact AK.met rfl
   ·refine Qa hC [.say 26 (.b false),.n 2,.o (.ln n1.Tasks.length),.n 3,.say 31 (.b ((decide (40<(n1.Colours.length:Int)))||((decide (70<(n1.Places.length:Int)))||(decide (70<(n1.Tasks.length:Int)))))),.keep [1,31] [1]] rfl ⟨⟨⟨tt_,(congrArg V.b hc6)⟩,Qi⟩,(congrArg V.b (orF hc5 (orF hc6 rfl)))⟩ ?_
    exact AK.met rfl
 ·rintro σ rfl
  refine Qa hC [.n 1] rfl tt_ ?_
  rcases bifE h with⟨hc7,h⟩|⟨hc7,h⟩
  ·refine Qa hC [.br true,.n 7,.keep [2] []] rfl ⟨tt_,hc7⟩ ?_
   cases h
   exact AK.done (ex_ [_] (an_ (an_ rfl tt_) (gives tt_)))
  ·refine Qa hC [.br false,.n 14,.keep [1,3,4] [1]] rfl ⟨tt_,hc7⟩ ?_
   obtain⟨o28,hl28,h⟩:=Qb h
   refine AK.loop (body:=(fun st=>Qed n1 st.1 st.2)) (fun st σ=>σ=⟨[(1,.loc 1 0 0),(3,.i .i64 st.1),(4,.i .i64 st.2)],[(1,.var (Qd n1))]⟩) (Sum.elim (fun q e σ=>e=.ret∧σ=⟨[(2,.b false)],[]⟩) (fun q e σ=>e=.exit 0∧σ=⟨[(1,.loc 1 0 0),(3,.i .i64 q)],[(1,.var (Qd n1))]⟩)) hl28 rfl ?_ ?_
   ·rintro ⟨parts8,i9⟩ o σ rfl h
    replace h:Qed n1 parts8 i9=some o:=h
    unfold Qed at h
    refine Qa hC [.n 6,.o (.ln n1.Colours.length),.n 3] rfl ⟨tt_,Qi⟩ ?_
    rcases bifE h with⟨hc13,h⟩|⟨hc13,h⟩
    ·obtain⟨e14,he14,h⟩:=Qb h
     refine Qa hC [.br true,.n 10,.o (.row (Qu e14)),.n 2,.o (.ln e14.Names.length),.n 6] rfl ⟨⟨⟨tt_,hc13⟩,(idxM he14)⟩,Qi⟩ ?_
     obtain⟨x15,hv16,h⟩:=Qb h
     replace h:QfZ n1 i9 parts8 e14 x15=some o:=h
     refine AK.meetX (fun σ=>σ=⟨[(1,.loc 1 0 0),(3,.i .i64 (w64 (parts8+(e14.Names.length:Int)))),(4,.i .i64 i9),(59,.b x15)],[(1,.var (Qd n1))]⟩) ?_ ?_
     ·replace h:=hv16
      unfold QjB at h
      obtain⟨e17,he17,h⟩:=Qb h
      refine Qa hC [.n 4,.o (.row (Qu e17)),.n 5] rfl ⟨tt_,(idxM he17)⟩ ?_
      rcases bifE h with⟨hc18,h⟩|⟨hc18,h⟩
      ·refine Qa hC [.say 56 (.b true),.n 4,.keep [1,3,4,59] [1]] rfl ⟨tt_,(congrArg V.b hc18)⟩ ?_
       cases h
       exact AK.met rfl
      ·refine Qa hC [.say 56 (.b false),.n 4,.keep [1,3,4,59] [1]] rfl ⟨tt_,(congrArg V.b hc18)⟩ ?_
       cases h
       exact AK.met rfl
     ·rintro σ rfl
      replace h:QfZ n1 i9 parts8 e14 x15=some o:=h
      unfold QfZ at h
      refine Qa hC [.n 1] rfl tt_ ?_
      rcases bifE h with⟨hc19,h⟩|⟨hc19,h⟩
      ·refine Qa hC [.br true,.n 9,.keep [2] []] rfl ⟨tt_,hc19⟩ ?_
       cases h
       exact rndR rfl (an_ rfl rfl)
      ·refine Qa hC [.br false,.n 8,.keep [1,3,4,5] [1]] rfl ⟨tt_,hc19⟩ ?_
       obtain⟨o27,hl27,h⟩:=Qb h
       refine AK.loop (body:=(fun st=>Qec n1 i9 st)) (fun st σ=>σ=⟨[(1,.loc 1 0 0),(3,.i .i64 (w64 (parts8+(e14.Names.length:Int)))),(4,.i .i64 i9),(5,.i .i64 st)],[(1,.var (Qd n1))]⟩) (Sum.elim (fun q e σ=>e=.ret∧σ=⟨[(2,.b false)],[]⟩) (fun q e σ=>e=.exit 2∧σ=⟨[(1,.loc 1 0 0),(3,.i .i64 (w64 (parts8+(e14.Names.length:Int)))),(4,.i .i64 i9)],[(1,.var (Qd n1))]⟩)) hl27 rfl ?_ ?_
       ·rintro k20 o σ rfl h
        replace h:Qec n1 i9 k20=some o:=h
        unfold Qec at h
        obtain⟨e22,he22,h⟩:=Qb h
        refine Qa hC [.n 7,.o (.row (Qu e22)),.n 2,.o (.ln e22.Names.length),.n 3] rfl ⟨⟨tt_,(idxM he22)⟩,Qi⟩ ?_
        rcases bifE h with⟨hc23,h⟩|⟨hc23,h⟩
        ·obtain⟨e24,he24,h⟩:=Qb h
         obtain⟨e25,he25,h⟩:=Qb h
         refine Qa hC [.br true,.n 9,.o (.row (Qu e24)),.n 3,.o (.row (Qc9 e25)),.n 5] rfl ⟨⟨⟨tt_,hc23⟩,(idxM he24)⟩,(idxM he25)⟩ ?_
         rcases bifE h with⟨hc26,h⟩|⟨hc26,h⟩
         ·refine Qa hC [.br true,.n 8,.keep [2] []] rfl ⟨tt_,hc26⟩ ?_
          cases h
          exact rndR rfl (an_ rfl rfl)
         ·refine Qa hC [.br false,.n 8,.keep [1,3,4,5] [1]] rfl ⟨tt_,hc26⟩ ?_
          cases h
          exact rndN rfl rfl
        ·refine Qa hC [.br false,.n 2,.keep [1,3,4] [1]] rfl ⟨tt_,hc23⟩ ?_
         cases h
         exact rndX rfl (an_ rfl rfl)
       ·rcases o27 with(_ | _)
        ·replace h:QjC=some o:=h
         unfold QjC at h
         rintro e σ ⟨rfl,rfl⟩
         refine Qa hC [.n 3,.keep [2] []] rfl tt_ ?_
         cases h
         exact rndR rfl (an_ rfl rfl)
        ·replace h:QjD parts8 e14 i9=some o:=h
         unfold QjD at h
         rintro e σ ⟨rfl,rfl⟩
         refine Qa hC [.n 8,.keep [1,3,4] [1]] rfl tt_ ?_
         cases h
         exact rndN rfl rfl
    ·refine Qa hC [.br false,.n 2,.keep [1,3] [1]] rfl ⟨tt_,hc13⟩ ?_
     cases h
     exact rndX rfl (an_ rfl rfl)
   ·rcases o28 with(_ | parts12)
    ·replace h:QjE=some r:=h
     unfold QjE at h
     rintro e σ ⟨rfl,rfl⟩
     refine Qa hC [.n 2,.keep [2] []] rfl tt_ ?_
     cases h
     exact AK.done (ex_ [_] (an_ (an_ rfl tt_) (gives tt_)))
    ·replace h:Qfd n1 parts12=some r:=h
     unfold Qfd at h
     rintro e σ ⟨rfl,rfl⟩
     refine Qa hC [.n 9,.keep [1,3,6] [1]] rfl tt_ ?_
     obtain⟨o38,hl38,h⟩:=Qb h
     refine AK.loop (body:=(fun st=>Qee n1 st.1 st.2)) (fun st σ=>σ=⟨[(1,.loc 1 0 0),(3,.i .i64 st.1),(6,.i .i64 st.2)],[(1,.var (Qd n1))]⟩) (Sum.elim (fun q e σ=>e=.ret∧σ=⟨[(2,.b false)],[]⟩) (fun q e σ=>e=.exit 4∧σ=⟨[(1,.loc 1 0 0),(3,.i .i64 q)],[(1,.var (Qd n1))]⟩)) hl38 rfl ?_ ?_
     ·rintro ⟨parts29,i30⟩ o σ rfl h
      replace h:Qee n1 parts29 i30=some o:=h
      unfold Qee at h
      refine Qa hC [.n 6,.o (.ln n1.Places.length),.n 3] rfl ⟨tt_,Qi⟩ ?_
      rcases bifE h with⟨hc34,h⟩|⟨hc34,h⟩
      ·obtain⟨e35,he35,h⟩:=Qb h
       obtain⟨e36,he36,h⟩:=Qb h
       refine Qa hC [.br true,.n 10,.o (.row (Qt e35)),.n 2,.o (.ln e35.First.length),.n 9,.o (.row (Qt e36)),.n 6] rfl ⟨⟨⟨⟨tt_,hc34⟩,(idxM he35)⟩,Qi⟩,(idxM he36)⟩ ?_
       rcases bifE h with⟨hc37,h⟩|⟨hc37,h⟩
       ·refine Qa hC [.br true,.n 8,.keep [2] []] rfl ⟨tt_,hc37⟩ ?_
        cases h
        exact rndR rfl (an_ rfl rfl)
       ·refine Qa hC [.br false,.n 8,.keep [1,3,6] [1]] rfl ⟨tt_,hc37⟩ ?_
        cases h
        exact rndN rfl rfl
      ·refine Qa hC [.br false,.n 2,.keep [1,3] [1]] rfl ⟨tt_,hc34⟩ ?_
       cases h
       exact rndX rfl (an_ rfl rfl)
     ·rcases o38 with(_ | parts33)
      ·replace h:QjF=some r:=h
       unfold QjF at h
       rintro e σ ⟨rfl,rfl⟩
       refine Qa hC [.n 2,.keep [2] []] rfl tt_ ?_
       cases h
       exact AK.done (ex_ [_] (an_ (an_ rfl tt_) (gives tt_)))
      ·replace h:Qfc n1 parts33=some r:=h
       unfold Qfc at h
       rintro e σ ⟨rfl,rfl⟩
       refine Qa hC [.n 14,.keep [1,3,7,8] [1]] rfl tt_ ?_
       obtain⟨o78,hl78,h⟩:=Qb h
       refine AK.loop (body:=(fun st=>Qdz n1 st.1 st.2)) (fun st σ=>σ=⟨[(1,.loc 1 0 0),(3,.i .i64 parts33),(7,.i .i64 st.1),(8,.i .i64 st.2)],[(1,.var (Qd n1))]⟩) (Sum.elim (fun q e σ=>e=.ret∧σ=⟨[(2,.b false)],[]⟩) (fun q e σ=>e=.exit 6∧σ=⟨[(3,.i .i64 parts33)],[]⟩)) hl78 rfl ?_ ?_
       ·rintro ⟨arcs39,i40⟩ o σ rfl h
        replace h:Qdz n1 arcs39 i40=some o:=h
        unfold Qdz at h
        refine Qa hC [.n 6,.o (.ln n1.Tasks.length),.n 3] rfl ⟨tt_,Qi⟩ ?_
        rcases bifE h with⟨hc43,h⟩|⟨hc43,h⟩
        ·obtain⟨e44,he44,h⟩:=Qb h
         refine Qa hC [.br true,.n 9,.o (.row (Qg e44)),.v .no [] (.agg (Qg e44)),.n 2,.sayO 9 (.var (Qg e44)),.n 7,.o (.ln e44.Vars.length),.n 3,.o (.ln e44.Ins.length),.n 3,.o (.ln e44.Outs.length),.n 3,.o (.ln e44.Cancel.length),.n 6] rfl ⟨⟨⟨⟨⟨⟨⟨⟨tt_,hc43⟩,(idxM he44)⟩,rfl⟩,rfl⟩,Qi⟩,Qi⟩,Qi⟩,Qi⟩ ?_
         refine AK.meetX (fun σ=>σ=⟨[(1,.loc 1 0 0),(3,.i .i64 parts33),(7,.i .i64 (w64 ((w64 ((w64 ((w64 (arcs39+(e44.Vars.length:Int)))+(e44.Ins.length:Int)))+(e44.Outs.length:Int)))+(e44.Cancel.length:Int)))),(8,.i .i64 i40),(9,.loc 9 0 0),(142,.b ((decide (200<(w64 ((w64 ((w64 ((w64 (arcs39+(e44.Vars.length:Int)))+(e44.Ins.length:Int)))+(e44.Outs.length:Int)))+(e44.Cancel.length:Int)))))||(decide (100<(e44.Name.size:Int)))))],[(1,.var (Qd n1)),(9,.var (Qg e44))]⟩) ?_ ?_
         ·refine Qa hC [.n 4] rfl tt_ ?_
          rcases QN (decide (200<(w64 ((w64 ((w64 ((w64 (arcs39+(e44.Vars.length:Int)))+(e44.Ins.length:Int)))+(e44.Outs.length:Int)))+(e44.Cancel.length:Int)))))with hc46 | hc46
          ·refine Qa hC [.say 137 (.b true),.n 6,.say 142 (.b ((decide (200<(w64 ((w64 ((w64 ((w64 (arcs39+(e44.Vars.length:Int)))+(e44.Ins.length:Int)))+(e44.Outs.length:Int)))+(e44.Cancel.length:Int)))))||(decide (100<(e44.Name.size:Int))))),.keep [1,3,7,8,9,142] [1,9]] rfl ⟨⟨tt_,(congrArg V.b hc46)⟩,(congrArg V.b (orT hc46 rfl))⟩ ?_
           exact AK.met rfl
          ·refine Qa hC [.say 137 (.b false),.n 6,.say 142 (.b ((decide (200<(w64 ((w64 ((w64 ((w64 (arcs39+(e44.Vars.length:Int)))+(e44.Ins.length:Int)))+(e44.Outs.length:Int)))+(e44.Cancel.length:Int)))))||(decide (100<(e44.Name.size:Int))))),.keep [1,3,7,8,9,142] [1,9]] rfl ⟨⟨tt_,(congrArg V.b hc46)⟩,(congrArg V.b (orF hc46 rfl))⟩ ?_
           exact AK.met rfl
         ·rintro σ rfl
          refine Qa hC [.n 1] rfl tt_ ?_
          rcases bifE h with⟨hc47,h⟩|⟨hc47,h⟩
          ·refine Qa hC [.br true,.n 9,.keep [2] []] rfl ⟨tt_,hc47⟩ ?_
           cases h
           exact rndR rfl (an_ rfl rfl)
          ·refine Qa hC [.br false,.n 9,.keep [1,3,7,8,9,10] [1,9]] rfl ⟨tt_,hc47⟩ ?_
           obtain⟨o53,hl53,h⟩:=Qb h
           refine AK.loop (body:=(fun st=>Qdw e44 st)) (fun st σ=>σ=⟨[(1,.loc 1 0 0),(3,.i .i64 parts33),(7,.i .i64 (w64 ((w64 ((w64 ((w64 (arcs39+(e44.Vars.length:Int)))+(e44.Ins.length:Int)))+(e44.Outs.length:Int)))+(e44.Cancel.length:Int)))),(8,.i .i64 i40),(9,.loc 9 0 0),(10,.i .i64 st)],[(1,.var (Qd n1)),(9,.var (Qg e44))]⟩) (Sum.elim (fun q e σ=>e=.ret∧σ=⟨[(2,.b false)],[]⟩) (fun q e σ=>e=.exit 8∧σ=⟨[(1,.loc 1 0 0),(3,.i .i64 parts33),(7,.i .i64 (w64 ((w64 ((w64 ((w64 (arcs39+(e44.Vars.length:Int)))+(e44.Ins.length:Int)))+(e44.Outs.length:Int)))+(e44.Cancel.length:Int)))),(8,.i .i64 i40),(9,.loc 9 0 0)],[(1,.var (Qd n1)),(9,.var (Qg e44))]⟩)) hl53 rfl ?_ ?_
           ·rintro k48 o σ rfl h
            replace h:Qdw e44 k48=some o:=h
            unfold Qdw at h
            refine Qa hC [.n 6,.o (.ln e44.Vars.length),.n 3] rfl ⟨tt_,Qi⟩ ?_
            rcases bifE h with⟨hc50,h⟩|⟨hc50,h⟩
            ·obtain⟨e51,he51,h⟩:=Qb h
             refine Qa hC [.br true,.n 9,.o (.row (QA e51)),.n 6] rfl ⟨⟨tt_,hc50⟩,(idxM he51)⟩ ?_
             rcases bifE h with⟨hc52,h⟩|⟨hc52,h⟩
             ·refine Qa hC [.br true,.n 8,.keep [2] []] rfl ⟨tt_,hc52⟩ ?_
              cases h
              exact rndR rfl (an_ rfl rfl)
             ·refine Qa hC [.br false,.n 8,.keep [1,3,7,8,9,10] [1,9]] rfl ⟨tt_,hc52⟩ ?_
              cases h
              exact rndN rfl rfl
            ·refine Qa hC [.br false,.n 2,.keep [1,3,7,8,9] [1,9]] rfl ⟨tt_,hc50⟩ ?_
             cases h
             exact rndX rfl (an_ rfl rfl)
           ·rcases o53 with(_ | _)
            ·replace h:Qjd=some o:=h
             unfold Qjd at h
             rintro e σ ⟨rfl,rfl⟩
             refine Qa hC [.n 4,.keep [2] []] rfl tt_ ?_
             cases h
             exact rndR rfl (an_ rfl rfl)
            ·replace h:Qfb e44 arcs39 i40=some o:=h
             unfold Qfb at h
             rintro e σ ⟨rfl,rfl⟩
             obtain⟨x54,hx54,h⟩:=Qb h
             refine Qa hC [.n 5,.v .no [] (.agg (Qj e44.Guard)),.o (.c false [.d] (.b x54)),.n 10,.keep [1,3,7,8,9,11,12] [1,9]] rfl ⟨⟨tt_,rfl⟩,(QjA _ hx54)⟩ ?_
             obtain⟨ok59,hl65,h⟩:=Qb h
             refine AK.loop (body:=(fun st=>Qdx e44 st.1 st.2)) (fun st σ=>σ=⟨[(1,.loc 1 0 0),(3,.i .i64 parts33),(7,.i .i64 (w64 ((w64 ((w64 ((w64 (arcs39+(e44.Vars.length:Int)))+(e44.Ins.length:Int)))+(e44.Outs.length:Int)))+(e44.Cancel.length:Int)))),(8,.i .i64 i40),(9,.loc 9 0 0),(11,.b st.1),(12,.i .i64 st.2)],[(1,.var (Qd n1)),(9,.var (Qg e44))]⟩) (fun q e σ=>e=.exit 10∧σ=⟨[(1,.loc 1 0 0),(3,.i .i64 parts33),(7,.i .i64 (w64 ((w64 ((w64 ((w64 (arcs39+(e44.Vars.length:Int)))+(e44.Ins.length:Int)))+(e44.Outs.length:Int)))+(e44.Cancel.length:Int)))),(8,.i .i64 i40),(9,.loc 9 0 0),(11,.b q)],[(1,.var (Qd n1)),(9,.var (Qg e44))]⟩) hl65 rfl ?_ ?_
             ·rintro ⟨ok55,k56⟩ o σ rfl h
              replace h:Qdx e44 ok55 k56=some o:=h
              unfold Qdx at h
              refine Qa hC [.n 6,.o (.ln e44.Ins.length),.n 3] rfl ⟨tt_,Qi⟩ ?_
              rcases bifE h with⟨hc60,h⟩|⟨hc60,h⟩
              ·obtain⟨e61,he61,h⟩:=Qb h
               obtain⟨x62,hx62,h⟩:=Qb h
               refine Qa hC [.br true,.n 9,.o (.row (QP e61)),.n 1,.v .no [] (.agg (Qj e61.Expr)),.o (.c false [.d] (.b x62)),.n 3] rfl ⟨⟨⟨⟨tt_,hc60⟩,(idxM he61)⟩,rfl⟩,(QjA _ hx62)⟩ ?_
               refine AK.meetX (fun σ=>σ=⟨[(1,.loc 1 0 0),(3,.i .i64 parts33),(7,.i .i64 (w64 ((w64 ((w64 ((w64 (arcs39+(e44.Vars.length:Int)))+(e44.Ins.length:Int)))+(e44.Outs.length:Int)))+(e44.Cancel.length:Int)))),(8,.i .i64 i40),(9,.loc 9 0 0),(11,.b (ok55&&x62)),(12,.i .i64 k56)],[(1,.var (Qd n1)),(9,.var (Qg e44))]⟩) ?_ ?_
               ·refine Qa hC [.n 3] rfl tt_ ?_
                rcases QN ok55 with hc64 | hc64
                ·refine Qa hC [.say 176 (.b true),.n 4,.say 11 (.b (ok55&&x62)),.keep [1,3,7,8,9,11,12] [1,9]] rfl ⟨⟨tt_,(congrArg V.b hc64)⟩,(congrArg V.b (andT hc64 rfl))⟩ ?_
                 exact AK.met rfl
                ·refine Qa hC [.say 176 (.b false),.n 4,.say 11 (.b (ok55&&x62)),.keep [1,3,7,8,9,11,12] [1,9]] rfl ⟨⟨tt_,(congrArg V.b hc64)⟩,(congrArg V.b (andF hc64 rfl))⟩ ?_
                 exact AK.met rfl
               ·rintro σ rfl
                refine Qa hC [.n 7,.keep [1,3,7,8,9,11,12] [1,9]] rfl tt_ ?_
                cases h
                exact rndN rfl rfl
              ·refine Qa hC [.br false,.n 2,.keep [1,3,7,8,9,11] [1,9]] rfl ⟨tt_,hc60⟩ ?_
               cases h
               exact rndX rfl (an_ rfl rfl)
             ·replace h:Qfa e44 arcs39 i40 ok59=some o:=h
              unfold Qfa at h
              rintro e σ ⟨rfl,rfl⟩
              refine Qa hC [.n 9,.keep [1,3,7,8,9,11,14] [1,9]] rfl tt_ ?_
              obtain⟨ok70,hl76,h⟩:=Qb h
              refine AK.loop (body:=(fun st=>Qdy e44 st.1 st.2)) (fun st σ=>σ=⟨[(1,.loc 1 0 0),(3,.i .i64 parts33),(7,.i .i64 (w64 ((w64 ((w64 ((w64 (arcs39+(e44.Vars.length:Int)))+(e44.Ins.length:Int)))+(e44.Outs.length:Int)))+(e44.Cancel.length:Int)))),(8,.i .i64 i40),(9,.loc 9 0 0),(11,.b st.1),(14,.i .i64 st.2)],[(1,.var (Qd n1)),(9,.var (Qg e44))]⟩) (fun q e σ=>e=.exit 12∧σ=⟨[(1,.loc 1 0 0),(3,.i .i64 parts33),(7,.i .i64 (w64 ((w64 ((w64 ((w64 (arcs39+(e44.Vars.length:Int)))+(e44.Ins.length:Int)))+(e44.Outs.length:Int)))+(e44.Cancel.length:Int)))),(8,.i .i64 i40),(11,.b q)],[(1,.var (Qd n1))]⟩) hl76 rfl ?_ ?_
              ·rintro ⟨ok66,k67⟩ o σ rfl h
               replace h:Qdy e44 ok66 k67=some o:=h
               unfold Qdy at h
               refine Qa hC [.n 6,.o (.ln e44.Outs.length),.n 3] rfl ⟨tt_,Qi⟩ ?_
               rcases bifE h with⟨hc71,h⟩|⟨hc71,h⟩
               ·obtain⟨e72,he72,h⟩:=Qb h
                obtain⟨x73,hx73,h⟩:=Qb h
                refine Qa hC [.br true,.n 9,.o (.row (QP e72)),.n 1,.v .no [] (.agg (Qj e72.Expr)),.o (.c false [.d] (.b x73)),.n 3] rfl ⟨⟨⟨⟨tt_,hc71⟩,(idxM he72)⟩,rfl⟩,(QjA _ hx73)⟩ ?_
                refine AK.meetX (fun σ=>σ=⟨[(1,.loc 1 0 0),(3,.i .i64 parts33),(7,.i .i64 (w64 ((w64 ((w64 ((w64 (arcs39+(e44.Vars.length:Int)))+(e44.Ins.length:Int)))+(e44.Outs.length:Int)))+(e44.Cancel.length:Int)))),(8,.i .i64 i40),(9,.loc 9 0 0),(11,.b (ok66&&x73)),(14,.i .i64 k67)],[(1,.var (Qd n1)),(9,.var (Qg e44))]⟩) ?_ ?_
                ·refine Qa hC [.n 3] rfl tt_ ?_
                 rcases QN ok66 with hc75 | hc75
                 ·refine Qa hC [.say 194 (.b true),.n 4,.say 11 (.b (ok66&&x73)),.keep [1,3,7,8,9,11,14] [1,9]] rfl ⟨⟨tt_,(congrArg V.b hc75)⟩,(congrArg V.b (andT hc75 rfl))⟩ ?_
                  exact AK.met rfl
                 ·refine Qa hC [.say 194 (.b false),.n 4,.say 11 (.b (ok66&&x73)),.keep [1,3,7,8,9,11,14] [1,9]] rfl ⟨⟨tt_,(congrArg V.b hc75)⟩,(congrArg V.b (andF hc75 rfl))⟩ ?_
                  exact AK.met rfl
                ·rintro σ rfl
                 refine Qa hC [.n 7,.keep [1,3,7,8,9,11,14] [1,9]] rfl tt_ ?_
                 cases h
                 exact rndN rfl rfl
               ·refine Qa hC [.br false,.n 2,.keep [1,3,7,8,11] [1]] rfl ⟨tt_,hc71⟩ ?_
                cases h
                exact rndX rfl (an_ rfl rfl)
              ·replace h:Qe9 arcs39 e44 i40 ok70=some o:=h
               unfold Qe9 at h
               rintro e σ ⟨rfl,rfl⟩
               refine Qa hC [.n 8] rfl tt_ ?_
               rcases bifE h with⟨hc77,h⟩|⟨hc77,h⟩
               ·refine Qa hC [.br true,.n 8,.keep [2] []] rfl ⟨tt_,hc77⟩ ?_
                cases h
                exact rndR rfl (an_ rfl rfl)
               ·refine Qa hC [.br false,.n 8,.keep [1,3,7,8] [1]] rfl ⟨tt_,hc77⟩ ?_
                cases h
                exact rndN rfl rfl
        ·refine Qa hC [.br false,.n 2,.keep [3] []] rfl ⟨tt_,hc43⟩ ?_
         cases h
         exact rndX rfl (an_ rfl rfl)
       ·rcases o78 with(_ | _)
        ·replace h:Qje=some r:=h
         unfold Qje at h
         rintro e σ ⟨rfl,rfl⟩
         refine Qa hC [.n 2,.keep [2] []] rfl tt_ ?_
         cases h
         exact AK.done (ex_ [_] (an_ (an_ rfl tt_) (gives tt_)))
        ·replace h:Qjf parts33=some r:=h
         unfold Qjf at h
         rintro e σ ⟨rfl,rfl⟩
         refine Qa hC [.n 10,.keep [2] []] rfl tt_ ?_
         cases h
         exact AK.done (ex_ [_] (an_ (an_ rfl tt_) (gives tt_)))
def Qef (m1:(List (List (Int×Int))))(n3:Int)(i4:Int):Option ((Int×Int)⊕Int):=
 bif ((decide (i4<(m1.length:Int)))&&(decide (i4<100)))then
 (idx m1 i4).bind fun e11=>
 some (.inl ((w64 (n3+(e11.length:Int))),(w64 (i4+1))))
 else
 some (.inr n3)
def QjG (m1:(List (List (Int×Int))))(n7:Int):Option Bool:=
 some ((decide ((m1.length:Int)≤70))&&(decide (n7≤300)))
def Qig (m1:(List (List (Int×Int)))):Option Bool:=
 (QI (fun st=>Qef m1 st.1 st.2) (0,0)).bind (fun q=>QjG m1 q)
theorem QpY (m1:(List (List (Int×Int)))){r:Bool}(h:Qig m1=some r):Qc Tryz.prog 22 [.sl 1 (m1.map Qv)] [] (Qh (.b r) []):=by
 refine Qc.walk 29 Tryz.func22 rfl Tryz.ntmps22 rfl fun C hC=>?_
 unfold Qig at h
 refine Qa hC [.n 17,.keep [0,3,4] []] rfl tt_ ?_
 obtain⟨n7,hl12,h⟩:=Qb h
 refine AK.loop (body:=(fun st=>Qef m1 st.1 st.2)) (fun st σ=>σ=⟨[(0,.sl 1 (m1.map Qv)),(3,.i .i64 st.1),(4,.i .i64 st.2)],[]⟩) (fun q e σ=>e=.exit 0∧σ=⟨[(0,.sl 1 (m1.map Qv)),(3,.i .i64 q)],[]⟩) hl12 rfl ?_ ?_
 ·rintro ⟨n3,i4⟩ o σ rfl h
  replace h:Qef m1 n3 i4=some o:=h
  unfold Qef at h
  refine Qa hC [.n 2] rfl tt_ ?_
  refine AK.meetX (fun σ=>σ=⟨[(0,.sl 1 (m1.map Qv)),(3,.i .i64 n3),(4,.i .i64 i4),(12,.b ((decide (i4<(m1.length:Int)))&&(decide (i4<100))))],[]⟩) ?_ ?_
  ·refine Qa hC [.n 3,.o (.ln m1.length),.n 2] rfl ⟨tt_,Qi⟩ ?_
   rcases QN (decide (i4<(m1.length:Int)))with hc9 | hc9
   ·refine Qa hC [.say 9 (.b true),.n 4,.say 12 (.b ((decide (i4<(m1.length:Int)))&&(decide (i4<100)))),.keep [0,3,4,12] []] rfl ⟨⟨tt_,(congrArg V.b hc9)⟩,(congrArg V.b (andT hc9 rfl))⟩ ?_
    exact AK.met rfl
   ·refine Qa hC [.say 9 (.b false),.n 4,.say 12 (.b ((decide (i4<(m1.length:Int)))&&(decide (i4<100)))),.keep [0,3,4,12] []] rfl ⟨⟨tt_,(congrArg V.b hc9)⟩,(congrArg V.b (andF hc9 rfl))⟩ ?_
    exact AK.met rfl
  ·rintro σ rfl
   refine Qa hC [.n 1] rfl tt_ ?_
   rcases bifE h with⟨hc10,h⟩|⟨hc10,h⟩
   ·obtain⟨e11,he11,h⟩:=Qb h
    refine Qa hC [.br true,.n 8,.o (.row (Qv e11)),.n 1,.o (.ln e11.length),.n 10,.keep [0,3,4] []] rfl ⟨⟨⟨tt_,hc10⟩,(idxM he11)⟩,Qi⟩ ?_
    cases h
    exact rndN rfl rfl
   ·refine Qa hC [.br false,.n 2,.keep [0,3] []] rfl ⟨tt_,hc10⟩ ?_
    cases h
    exact rndX rfl (an_ rfl rfl)
 ·replace h:QjG m1 n7=some r:=h
  unfold QjG at h
  rintro e σ ⟨rfl,rfl⟩
  refine Qa hC [.n 3] rfl tt_ ?_
  refine AK.meetX (fun σ=>σ=⟨[(2,.b ((decide ((m1.length:Int)≤70))&&(decide (n7≤300))))],[]⟩) ?_ ?_
  ·refine Qa hC [.n 2,.o (.ln m1.length),.n 2] rfl ⟨tt_,Qi⟩ ?_
   rcases QN (decide ((m1.length:Int)≤70))with hc14 | hc14
   ·refine Qa hC [.say 25 (.b true),.n 5,.say 2 (.b ((decide ((m1.length:Int)≤70))&&(decide (n7≤300)))),.keep [2] []] rfl ⟨⟨tt_,(congrArg V.b hc14)⟩,(congrArg V.b (andT hc14 rfl))⟩ ?_
    exact AK.met rfl
   ·refine Qa hC [.say 25 (.b false),.n 5,.say 2 (.b ((decide ((m1.length:Int)≤70))&&(decide (n7≤300)))),.keep [2] []] rfl ⟨⟨tt_,(congrArg V.b hc14)⟩,(congrArg V.b (andF hc14 rfl))⟩ ?_
    exact AK.met rfl
  ·rintro σ rfl
   refine Qa hC [.n 2,.keep [2] []] rfl tt_ ?_
   cases h
   exact AK.done (ex_ [_] (an_ (an_ rfl tt_) (gives tt_)))
def QgF (v1:TNet):Option Bool:=
 some ((decide ((v1.Places.length:Int)≤64))&&(decide ((v1.Tasks.length:Int)≤64)))
theorem QoG (v1:TNet){r:Bool}(h:QgF v1=some r):Qc Tryz.prog 48 [.loc 200000 0 0] [(200000,.var (Qd v1))] (Qh (.b r) [(200000,.var (Qd v1))]):=by
 refine Qc.walk 12 Tryz.func48 rfl Tryz.ntmps48 rfl fun C hC=>?_
 unfold QgF at h
 refine Qa hC [.n 6] rfl tt_ ?_
 refine AK.meetX (fun σ=>σ=⟨[(1,.b ((decide ((v1.Places.length:Int)≤64))&&(decide ((v1.Tasks.length:Int)≤64))))],[(200000,.var (Qd v1))]⟩) ?_ ?_
 ·refine Qa hC [.n 3,.o (.ln v1.Places.length),.n 2] rfl ⟨tt_,Qi⟩ ?_
  rcases QN (decide ((v1.Places.length:Int)≤64))with hc4 | hc4
  ·refine Qa hC [.say 6 (.b true),.n 2,.o (.ln v1.Tasks.length),.n 4,.say 1 (.b ((decide ((v1.Places.length:Int)≤64))&&(decide ((v1.Tasks.length:Int)≤64)))),.keep [1] [200000]] rfl ⟨⟨⟨tt_,(congrArg V.b hc4)⟩,Qi⟩,(congrArg V.b (andT hc4 rfl))⟩ ?_
   exact AK.met rfl
  ·refine Qa hC [.say 6 (.b false),.n 7,.say 1 (.b ((decide ((v1.Places.length:Int)≤64))&&(decide ((v1.Tasks.length:Int)≤64)))),.keep [1] [200000]] rfl ⟨⟨tt_,(congrArg V.b hc4)⟩,(congrArg V.b (andF hc4 rfl))⟩ ?_
   exact AK.met rfl
 ·rintro σ rfl
  refine Qa hC [.n 2,.keep [1] [200000]] rfl tt_ ?_
  cases h
  exact AK.done (ex_ [_] (an_ (an_ rfl tt_) (gives ⟨rfl,tt_⟩)))
def Qac (l1:(List QB))(k2:Int):Option Bool:=
 some ((decide (0≤k2))&&(decide (k2<(l1.length:Int))))
theorem Qbm (l1:(List QB))(k2:Int){r:Bool}(h:Qac l1 k2=some r):Qc Tryz.prog 50 [.sl 3 (l1.map Qt),.i .i64 k2] [] (Qh (.b r) []):=by
 refine Qc.walk 13 Tryz.func50 rfl Tryz.ntmps50 rfl fun C hC=>?_
 unfold Qac at h
 refine Qa hC [.n 6] rfl tt_ ?_
 refine AK.meetX (fun σ=>σ=⟨[(4,.b ((decide (0≤k2))&&(decide (k2<(l1.length:Int)))))],[]⟩) ?_ ?_
 ·refine Qa hC [.n 4] rfl tt_ ?_
  rcases QN (decide (0≤k2))with hc5 | hc5
  ·refine Qa hC [.say 7 (.b true),.n 2,.o (.ln l1.length),.n 4,.say 4 (.b ((decide (0≤k2))&&(decide (k2<(l1.length:Int))))),.keep [4] []] rfl ⟨⟨⟨tt_,(congrArg V.b hc5)⟩,Qi⟩,(congrArg V.b (andT hc5 rfl))⟩ ?_
   exact AK.met rfl
  ·refine Qa hC [.say 7 (.b false),.n 7,.say 4 (.b ((decide (0≤k2))&&(decide (k2<(l1.length:Int))))),.keep [4] []] rfl ⟨⟨tt_,(congrArg V.b hc5)⟩,(congrArg V.b (andF hc5 rfl))⟩ ?_
   exact AK.met rfl
 ·rintro σ rfl
  refine Qa hC [.n 2,.keep [4] []] rfl tt_ ?_
  cases h
  exact AK.done (ex_ [_] (an_ (an_ rfl tt_) (gives tt_)))
def QiC (v1:TNet):Option Bool:=
 (Qac v1.Places v1.From).bind fun x5=>
 bif x5 then
 (Qac v1.Places v1.To).bind fun x7=>
 some x7
 else
 some false
def Qex (x3:Bool):Option Bool:=
 some x3
def QgG (v1:TNet):Option Bool:=
 (QiC v1).bind (fun x3=>Qex x3)
theorem QoH (v1:TNet){r:Bool}(h:QgG v1=some r):Qc Tryz.prog 49 [.loc 200000 0 0] [(200000,.var (Qd v1))] (Qh (.b r) [(200000,.var (Qd v1))]):=by
 refine Qc.walk 14 Tryz.func49 rfl Tryz.ntmps49 rfl fun C hC=>?_
 unfold QgG at h
 refine Qa hC [.n 6] rfl tt_ ?_
 obtain⟨x3,hv4,h⟩:=Qb h
 replace h:Qex x3=some r:=h
 refine AK.meetX (fun σ=>σ=⟨[(1,.b x3)],[(200000,.var (Qd v1))]⟩) ?_ ?_
 ·replace h:=hv4
  unfold QiC at h
  obtain⟨x5,hx5,h⟩:=Qb h
  refine Qa hC [.n 5,.o (.c false [.d,.d] (.b x5)),.n 1] rfl ⟨tt_,(Qbm _ _ hx5)⟩ ?_
  rcases bifE h with⟨hc6,h⟩|⟨hc6,h⟩
  ·obtain⟨x7,hx7,h⟩:=Qb h
   refine Qa hC [.say 7 (.b true),.n 4,.o (.c false [.d,.d] (.b x7)),.n 3,.keep [1] [200000]] rfl ⟨⟨tt_,(congrArg V.b hc6)⟩,(Qbm _ _ hx7)⟩ ?_
   cases h
   exact AK.met rfl
  ·refine Qa hC [.say 7 (.b false),.n 8,.keep [1] [200000]] rfl ⟨tt_,(congrArg V.b hc6)⟩ ?_
   cases h
   exact AK.met rfl
 ·rintro σ rfl
  replace h:Qex x3=some r:=h
  unfold Qex at h
  refine Qa hC [.n 2,.keep [1] [200000]] rfl tt_ ?_
  cases h
  exact AK.done (ex_ [_] (an_ (an_ rfl tt_) (gives ⟨rfl,tt_⟩)))
def QgH (v1:TNet):Option Bool:=
 some (v1.From != v1.To)
theorem QoI (v1:TNet){r:Bool}(h:QgH v1=some r):Qc Tryz.prog 51 [.loc 200000 0 0] [(200000,.var (Qd v1))] (Qh (.b r) [(200000,.var (Qd v1))]):=by
 refine Qc.walk 7 Tryz.func51 rfl Tryz.ntmps51 rfl fun C hC=>?_
 unfold QgH at h
 refine Qa hC [.n 16,.keep [1] [200000]] rfl tt_ ?_
 cases h
 exact AK.done (ex_ [_] (an_ (an_ rfl tt_) (gives ⟨rfl,tt_⟩)))
def QgI (v1:TNet)(v2:Int)(v3:Int)(v4:Int):Option Int:=
 (QgF v1).bind fun x7=>
 bif (!x7)then
 some v2
 else
 (QgG v1).bind fun x9=>
 bif (!x9)then
 some v3
 else
 (QgH v1).bind fun x11=>
 bif (!x11)then
 some v4
 else
 some 0
theorem QoJ (v1:TNet)(v2:Int)(v3:Int)(v4:Int){r:Int}(h:QgI v1 v2 v3 v4=some r):Qc Tryz.prog 47 [.own 200000 3] [(200000,.var [.clo (.func 48) [] [.loc 200001 0 0],.i .i64 v2,.clo (.func 49) [] [.loc 200001 0 0],.i .i64 v3,.clo (.func 51) [] [.loc 200001 0 0],.i .i64 v4]),(200001,.var (Qd v1))] (Qh (.i .i64 r) [(200000,.var [.clo (.func 48) [] [.loc 200001 0 0],.i .i64 v2,.clo (.func 49) [] [.loc 200001 0 0],.i .i64 v3,.clo (.func 51) [] [.loc 200001 0 0],.i .i64 v4]),(200001,.var (Qd v1))]):=by
 refine Qc.walk 18 Tryz.func47 rfl Tryz.ntmps47 rfl fun C hC=>?_
 unfold QgI at h
 refine Qa hC [.n 14] rfl tt_ ?_
 refine AK.loopN 4 (AK.rnd ?_)
 obtain⟨x7,hx7,h⟩:=Qb h
 refine Qa hC [.n 2,.v .no [] (.b true),.n 10,.o (.any (.loc 200000 0 0) none),.n 3,.sayO 4 (.var [.clo (.func 48) [] [.loc 200001 0 0],.i .i64 v2]),.n 6,.cm (.clo) [(200000,200001)] [(200001,200000)] [] [.d] [(200000,.var (Qd v1))] (.b x7),.n 3] rfl ⟨⟨⟨⟨tt_,rfl⟩,(fun σ h1 h2 _=>Stp.idxV rfl rfl (bleN hC.n rfl) (h1 _ _ rfl) (h1 _ _ rfl) (Qq.es rfl) (h2 _ _ rfl) (by decide))⟩,rfl⟩,(QoG _ hx7)⟩ ?_
 rcases bifE h with⟨hc8,h⟩|⟨hc8,h⟩
 ·refine Qa hC [.br true,.n 13,.keep [2] [200000,200001]] rfl ⟨tt_,hc8⟩ ?_
  cases h
  exact AK.done (ex_ [_] (an_ (an_ rfl tt_) (gives ⟨rfl,rfl,tt_⟩)))
 ·refine Qa hC [.br false,.n 4,.v .no [] (.i .i64 1),.n 2] rfl ⟨⟨tt_,hc8⟩,rfl⟩ ?_
  refine AK.met (AK.rnd ?_)
  obtain⟨x9,hx9,h⟩:=Qb h
  refine Qa hC [.n 2,.v .no [] (.b true),.n 10,.o (.any (.loc 200000 0 2) none),.n 1,.kill 4,.n 2,.sayO 4 (.var [.clo (.func 49) [] [.loc 200001 0 0],.i .i64 v3]),.n 6,.cm (.clo) [(200000,200001)] [(200001,200000)] [] [.d] [(200000,.var (Qd v1))] (.b x9),.n 3] rfl ⟨⟨⟨⟨tt_,rfl⟩,(fun σ h1 h2 _=>Stp.idxV rfl rfl (bleN hC.n rfl) (h1 _ _ rfl) (h1 _ _ rfl) (Qq.es rfl) (h2 _ _ rfl) (by decide))⟩,rfl⟩,(QoH _ hx9)⟩ ?_
  rcases bifE h with⟨hc10,h⟩|⟨hc10,h⟩
  ·refine Qa hC [.br true,.n 13,.keep [2] [200000,200001]] rfl ⟨tt_,hc10⟩ ?_
   cases h
   exact AK.done (ex_ [_] (an_ (an_ rfl tt_) (gives ⟨rfl,rfl,tt_⟩)))
  ·refine Qa hC [.br false,.n 4,.v .no [] (.i .i64 2),.n 2] rfl ⟨⟨tt_,hc10⟩,rfl⟩ ?_
   refine AK.met (AK.rnd ?_)
   obtain⟨x11,hx11,h⟩:=Qb h
   refine Qa hC [.n 2,.v .no [] (.b true),.n 10,.o (.any (.loc 200000 0 4) none),.n 1,.kill 4,.n 2,.sayO 4 (.var [.clo (.func 51) [] [.loc 200001 0 0],.i .i64 v4]),.n 6,.cm (.clo) [(200000,200001)] [(200001,200000)] [] [.d] [(200000,.var (Qd v1))] (.b x11),.n 3] rfl ⟨⟨⟨⟨tt_,rfl⟩,(fun σ h1 h2 _=>Stp.idxV rfl rfl (bleN hC.n rfl) (h1 _ _ rfl) (h1 _ _ rfl) (Qq.es rfl) (h2 _ _ rfl) (by decide))⟩,rfl⟩,(QoI _ hx11)⟩ ?_
   rcases bifE h with⟨hc12,h⟩|⟨hc12,h⟩
   ·refine Qa hC [.br true,.n 13,.keep [2] [200000,200001]] rfl ⟨tt_,hc12⟩ ?_
    cases h
    exact AK.done (ex_ [_] (an_ (an_ rfl tt_) (gives ⟨rfl,rfl,tt_⟩)))
   ·refine Qa hC [.br false,.n 4,.v .no [] (.i .i64 3),.n 2] rfl ⟨⟨tt_,hc12⟩,rfl⟩ ?_
    refine AK.met (AK.rnd ?_)
    refine Qa hC [.n 2,.v .no [] (.b false),.n 15,.keep [2] [200000,200001]] rfl ⟨tt_,rfl⟩ ?_
    cases h
    exact AK.done (ex_ [_] (an_ (an_ rfl tt_) (gives ⟨rfl,rfl,tt_⟩)))
def Qf0 (l1:(List Qy)):Option Bool:=
 (Qd6 l1).bind fun x3=>
 some x3.2
theorem Qn3 (l1:(List Qy)){r:Bool}(h:Qf0 l1=some r):Qc Tryz.prog 95 [.sl 7 (l1.map Qu)] [] (Qh (.b r) []):=by
 refine Qc.walk 11 Tryz.func95 rfl Tryz.ntmps95 rfl fun C hC=>?_
 unfold Qf0 at h
 obtain⟨x3,hx3,h⟩:=Qb h
 refine Qa hC [.n 8,.o (.c false [.d] (.tup [.sl 1 (x3.1.map Qe),.b x3.2])),.n 14,.keep [2] []] rfl ⟨tt_,(Qj9 _ hx3)⟩ ?_
 cases h
 exact AK.done (ex_ [_] (an_ (an_ rfl tt_) (gives tt_)))
def QcR (v1:TNet)(v2:Int):Option Bool:=
 (chk (decide (0≤(w64 (v2+1)))&&decide (0≤(w64 (v2+1)).toNat)&&decide ((w64 (v2+1)).toNat≤v1.Colours.length))).bind fun _=>
 (Qf0 ((v1.Colours.drop 0).take ((w64 (v2+1)).toNat-0))).bind fun x5=>
 some x5
theorem Qly (v1:TNet)(v2:Int){r:Bool}(h:QcR v1 v2=some r):Qc Tryz.prog 94 [.loc 200000 0 0,.loc 200001 0 0] [(200000,.var (Qd v1)),(200001,.var (Qe v2))] (Qh (.b r) [(200000,.var (Qd v1)),(200001,.var (Qe v2))]):=by
 refine Qc.walk 9 Tryz.func94 rfl Tryz.ntmps94 rfl fun C hC=>?_
 unfold QcR at h
 obtain⟨_,hk4,h⟩:=Qb h
 replace hk4:=chkE hk4
 obtain⟨x5,hx5,h⟩:=Qb h
 refine Qa hC [.n 11,.o (.any (.sl 7 (((v1.Colours.drop 0).take ((w64 (v2+1)).toNat-0)).map Qu)) none),.o (.c false [.d] (.b x5)),.n 4,.keep [2] [200000,200001]] rfl ⟨⟨tt_,(fun σ h1 h2 _=>Stp.sliceD rfl rfl (bleN hC.n rfl) (h1 _ _ rfl) (Qq.es rfl) Bnd.no (Bnd.val (h1 _ _ rfl) (of_decide_eq_true (Qm8 hk4)) rfl) (of_decide_eq_true (Qm9 hk4)) (Nat.le_trans (of_decide_eq_true (Qna hk4)) (Nat.le_of_eq Qi.symm)) Qpi)⟩,(Qn3 _ hx5)⟩ ?_
 cases h
 exact AK.done (ex_ [_] (an_ (an_ rfl tt_) (gives ⟨rfl,rfl,tt_⟩)))
def QiD (x:ByteArray):Option (List ByteArray):=(chk (QqY x)).bind fun _=>some (QeZ x)
theorem QmD (x:ByteArray){r:List ByteArray}(h:QiD x=some r):Qc Tryz.prog 219 [.s x] [] (Qh (.own 30000 r.length) [(30000,.arr 1 (r.map Qc9))]):=by
 unfold QiD at h
 obtain⟨_,h1,h⟩:=Qb h
 cases h
 exact Qqn QsD (by kernel_rfl) (by kernel_rfl) x (chkE h1)
def Qe1  : Option (List ByteArray):=
 (QiD (⟨#[99,111,108,111,117,114,32,112,108,97,99,101,32,116,97,115,107,32,118,97,114,32,119,104,101,110,32,106,111,105,110,32,115,112,108,105,116,32,105,110,32,111,117,116,32,99,97,110,99,101,108,32,97,102,116,101,114,32,109,97,110,121,32,102,114,111,109,32,116,111,32,105,110,116,32,101,110,117,109,32,112,97,105,114,32,97,110,100,32,120,111,114,32,111,114,32,105,102]⟩:ByteArray)).bind fun x2=>
 some x2
theorem QoK  {r:(List ByteArray)}(h:Qe1  = some r):Qc Tryz.prog 195 [] [] (Qh (.own 30000 r.length) [(30000,.arr 1 (r.map Qc9))]):=by
 refine Qc.walk 2 Tryz.func195 rfl Tryz.ntmps195 rfl fun C hC=>?_
 unfold Qe1 at h
 obtain⟨x2,hx2,h⟩:=Qb h
 refine Qa hC [.n 7,.o (.co false [.d] 1 (x2.map Qc9) x2.length),.n 4,.keep [0] [1],.ren 1 30000,.keep [0] [30000]] rfl ⟨tt_,⟨(QmD _ hx2),Qi,.inl rfl⟩⟩ ?_
 cases h
 exact AK.done (ex_ [_] (an_ (an_ rfl tt_) (gives ⟨rfl,tt_⟩)))
def Qal (s1:(List ByteArray))(v2:ByteArray)(x5:Int):Option (Int⊕(Int⊕Unit)):=
 bif (decide (x5<(s1.length:Int)))then
 (idx s1 x5).bind fun e9=>
 bif (Qgn v2 e9)then
 some (.inr (.inl x5))
 else
 some (.inl (w64 (x5+1)))
 else
 some (.inr (.inr ()))
def QaJ (x7:Int):Option Int:=
 some x7
def QaK : Option Int:=
 some (-1)
def Qa7 (s1:(List ByteArray))(v2:ByteArray):Option Int:=
 (QI (fun st=>Qal s1 v2 st) 0).bind (Sum.elim (fun q=>QaJ q) (fun q=>QaK))
theorem QiL (s1:(List ByteArray))(v2:ByteArray){r:Int}(h:Qa7 s1 v2=some r):Qc Tryz.prog 218 [.sl 1 (s1.map Qc9),.s v2] [] (Qh (.i .i64 r) []):=by
 refine Qc.walk 19 Tryz.func218 rfl Tryz.ntmps218 rfl fun C hC=>?_
 unfold Qa7 at h
 refine Qa hC [.n 9,.o (.ln s1.length),.n 4,.keep [0,1,7,8] []] rfl ⟨tt_,Qi⟩ ?_
 obtain⟨o11,hl11,h⟩:=Qb h
 refine AK.loop (body:=(fun st=>Qal s1 v2 st)) (fun st σ=>σ=⟨[(0,.sl 1 (s1.map Qc9)),(1,.s v2),(7,.i .i64 (s1.length:Int)),(8,.i .i64 st)],[]⟩) (Sum.elim (fun q e σ=>e=.ret∧σ=⟨[(4,.i .i64 q)],[]⟩) (fun q e σ=>e=.exit 0∧σ=⟨[],[]⟩)) hl11 rfl ?_ ?_
 ·rintro x5 o σ rfl h
  replace h:Qal s1 v2 x5=some o:=h
  unfold Qal at h
  refine Qa hC [.n 6] rfl tt_ ?_
  rcases bifE h with⟨hc8,h⟩|⟨hc8,h⟩
  ·obtain⟨e9,he9,h⟩:=Qb h
   refine Qa hC [.br true,.n 15,.o (.row (Qc9 e9)),.n 4] rfl ⟨⟨tt_,hc8⟩,(idxM he9)⟩ ?_
   rcases bifE h with⟨hc10,h⟩|⟨hc10,h⟩
   ·refine Qa hC [.br true,.n 9,.keep [4] []] rfl ⟨tt_,hc10⟩ ?_
    cases h
    exact rndR rfl (an_ rfl rfl)
   ·refine Qa hC [.br false,.n 7,.keep [0,1,7,8] []] rfl ⟨tt_,hc10⟩ ?_
    cases h
    exact rndN rfl rfl
  ·refine Qa hC [.br false,.n 2,.keep [] []] rfl ⟨tt_,hc8⟩ ?_
   cases h
   exact rndX rfl (an_ rfl rfl)
 ·rcases o11 with(x7 | _)
  ·replace h:QaJ x7=some r:=h
   unfold QaJ at h
   rintro e σ ⟨rfl,rfl⟩
   refine Qa hC [.n 2,.keep [4] []] rfl tt_ ?_
   cases h
   exact AK.done (ex_ [_] (an_ (an_ rfl tt_) (gives tt_)))
  ·replace h:QaK=some r:=h
   unfold QaK at h
   rintro e σ ⟨rfl,rfl⟩
   refine Qa hC [.n 8,.keep [4] []] rfl tt_ ?_
   cases h
   exact AK.done (ex_ [_] (an_ (an_ rfl tt_) (gives tt_)))
def QaL (s1:(List ByteArray))(v2:ByteArray):Option Bool:=
 (Qa7 s1 v2).bind fun x4=>
 some (decide (0≤x4))
theorem Qh1 (s1:(List ByteArray))(v2:ByteArray){r:Bool}(h:QaL s1 v2=some r):Qc Tryz.prog 194 [.sl 1 (s1.map Qc9),.s v2] [] (Qh (.b r) []):=by
 refine Qc.walk 9 Tryz.func194 rfl Tryz.ntmps194 rfl fun C hC=>?_
 unfold QaL at h
 obtain⟨x4,hx4,h⟩:=Qb h
 refine Qa hC [.n 9,.o (.c false [.d,.d] (.i .i64 x4)),.n 5,.keep [4] []] rfl ⟨tt_,(QiL _ _ hx4)⟩ ?_
 cases h
 exact AK.done (ex_ [_] (an_ (an_ rfl tt_) (gives tt_)))
def Qhy (s1:ByteArray):Option Bool:=
 (Qe1).bind fun x3=>
 (QaL x3 s1).bind fun x4=>
 some x4
theorem Qpr (s1:ByteArray){r:Bool}(h:Qhy s1=some r):Qc Tryz.prog 144 [.s s1] [] (Qh (.b r) []):=by
 refine Qc.walk 6 Tryz.func144 rfl Tryz.ntmps144 rfl fun C hC=>?_
 unfold Qhy at h
 obtain⟨x3,hx3,h⟩:=Qb h
 obtain⟨x4,hx4,h⟩:=Qb h
 refine Qa hC [.n 7,.o (.co false [] 1 (x3.map Qc9) x3.length),.n 1,.o (.c true [.o (x3.map Qc9),.d] (.b x4)),.n 4,.keep [2] []] rfl ⟨⟨tt_,⟨(QoK  hx3),Qi,.inl rfl⟩⟩,⟨(QnT rfl),(Qh1 _ _ hx4)⟩⟩ ?_
 cases h
 exact AK.done (ex_ [_] (an_ (an_ rfl tt_) (gives tt_)))
def Qjg (s1:ByteArray):Option Bool:=
 (QdF s1).bind fun x5=>
 bif x5 then
 (Qhy s1).bind fun x7=>
 some (!x7)
 else
 some false
def Qfe (x3:Bool):Option Bool:=
 some x3
def QcB (s1:ByteArray):Option Bool:=
 (Qjg s1).bind (fun x3=>Qfe x3)
theorem Qff (s1:ByteArray){r:Bool}(h:QcB s1=some r):Qc Tryz.prog 91 [.s s1] [] (Qh (.b r) []):=by
 refine Qc.walk 10 Tryz.func91 rfl Tryz.ntmps91 rfl fun C hC=>?_
 unfold QcB at h
 refine Qa hC [.n 6] rfl tt_ ?_
 obtain⟨x3,hv4,h⟩:=Qb h
 replace h:Qfe x3=some r:=h
 refine AK.meetX (fun σ=>σ=⟨[(2,.b x3)],[]⟩) ?_ ?_
 ·replace h:=hv4
  unfold Qjg at h
  obtain⟨x5,hx5,h⟩:=Qb h
  refine Qa hC [.n 2,.o (.c false [.d] (.b x5)),.n 1] rfl ⟨tt_,(Qiu _ hx5)⟩ ?_
  rcases bifE h with⟨hc6,h⟩|⟨hc6,h⟩
  ·obtain⟨x7,hx7,h⟩:=Qb h
   refine Qa hC [.say 5 (.b true),.n 1,.o (.c false [.d] (.b x7)),.n 4,.keep [2] []] rfl ⟨⟨tt_,(congrArg V.b hc6)⟩,(Qpr _ hx7)⟩ ?_
   cases h
   exact AK.met rfl
  ·refine Qa hC [.say 5 (.b false),.n 6,.keep [2] []] rfl ⟨tt_,(congrArg V.b hc6)⟩ ?_
   cases h
   exact AK.met rfl
 ·rintro σ rfl
  replace h:Qfe x3=some r:=h
  unfold Qfe at h
  refine Qa hC [.n 2,.keep [2] []] rfl tt_ ?_
  cases h
  exact AK.done (ex_ [_] (an_ (an_ rfl tt_) (gives tt_)))
def Qck (s1:ByteArray):Option Bool:=
 (QcB s1).bind fun x3=>
 some (!x3)
theorem QkR (s1:ByteArray){r:Bool}(h:Qck s1=some r):Qc Tryz.prog 93 [.s s1] [] (Qh (.b r) []):=by
 refine Qc.walk 6 Tryz.func93 rfl Tryz.ntmps93 rfl fun C hC=>?_
 unfold Qck at h
 obtain⟨x3,hx3,h⟩:=Qb h
 refine Qa hC [.n 8,.o (.c false [.d] (.b x3)),.n 5,.keep [2] []] rfl ⟨tt_,(Qff _ hx3)⟩ ?_
 cases h
 exact AK.done (ex_ [_] (an_ (an_ rfl tt_) (gives tt_)))
def Q1 (s1:(List ByteArray))(x4:Int):Option (Int⊕(Int⊕Unit)):=
 bif (decide (x4<(s1.length:Int)))then
 (idx s1 x4).bind fun e8=>
 (Qck e8).bind fun x9=>
 bif x9 then
 some (.inr (.inl x4))
 else
 some (.inl (w64 (x4+1)))
 else
 some (.inr (.inr ()))
def Qaq (x6:Int):Option Int:=
 some x6
def Qar : Option Int:=
 some (-1)
def QaE (s1:(List ByteArray)):Option Int:=
 (QI (fun st=>Q1 s1 st) 0).bind (Sum.elim (fun q=>Qaq q) (fun q=>Qar))
theorem QhQ (s1:(List ByteArray)){r:Int}(h:QaE s1=some r):Qc Tryz.prog 145 [.sl 1 (s1.map Qc9),.clo (.func 93) [] []] [] (Qh (.i .i64 r) []):=by
 refine Qc.walk 19 Tryz.func145 rfl Tryz.ntmps145 rfl fun C hC=>?_
 unfold QaE at h
 refine Qa hC [.n 9,.o (.ln s1.length),.n 4,.keep [0,1,7,8] []] rfl ⟨tt_,Qi⟩ ?_
 obtain⟨o11,hl11,h⟩:=Qb h
 refine AK.loop (body:=(fun st=>Q1 s1 st)) (fun st σ=>σ=⟨[(0,.sl 1 (s1.map Qc9)),(1,.clo (.func 93) [] []),(7,.i .i64 (s1.length:Int)),(8,.i .i64 st)],[]⟩) (Sum.elim (fun q e σ=>e=.ret∧σ=⟨[(4,.i .i64 q)],[]⟩) (fun q e σ=>e=.exit 0∧σ=⟨[],[]⟩)) hl11 rfl ?_ ?_
 ·rintro x4 o σ rfl h
  replace h:Q1 s1 x4=some o:=h
  unfold Q1 at h
  refine Qa hC [.n 6] rfl tt_ ?_
  rcases bifE h with⟨hc7,h⟩|⟨hc7,h⟩
  ·obtain⟨e8,he8,h⟩:=Qb h
   obtain⟨x9,hx9,h⟩:=Qb h
   refine Qa hC [.br true,.n 15,.o (.row (Qc9 e8)),.n 1,.o (.c false [.d] (.b x9)),.n 2] rfl ⟨⟨⟨tt_,hc7⟩,(idxM he8)⟩,(QkR _ hx9)⟩ ?_
   rcases bifE h with⟨hc10,h⟩|⟨hc10,h⟩
   ·refine Qa hC [.br true,.n 9,.keep [4] []] rfl ⟨tt_,hc10⟩ ?_
    cases h
    exact rndR rfl (an_ rfl rfl)
   ·refine Qa hC [.br false,.n 7,.keep [0,1,7,8] []] rfl ⟨tt_,hc10⟩ ?_
    cases h
    exact rndN rfl rfl
  ·refine Qa hC [.br false,.n 2,.keep [] []] rfl ⟨tt_,hc7⟩ ?_
   cases h
   exact rndX rfl (an_ rfl rfl)
 ·rcases o11 with(x6 | _)
  ·replace h:Qaq x6=some r:=h
   unfold Qaq at h
   rintro e σ ⟨rfl,rfl⟩
   refine Qa hC [.n 2,.keep [4] []] rfl tt_ ?_
   cases h
   exact AK.done (ex_ [_] (an_ (an_ rfl tt_) (gives tt_)))
  ·replace h:Qar=some r:=h
   unfold Qar at h
   rintro e σ ⟨rfl,rfl⟩
   refine Qa hC [.n 8,.keep [4] []] rfl tt_ ?_
   cases h
   exact AK.done (ex_ [_] (an_ (an_ rfl tt_) (gives tt_)))
def Qas (s1:(List ByteArray)):Option Bool:=
 (QaE s1).bind fun x3=>
 some (decide (0≤x3))
theorem Qg1 (s1:(List ByteArray)){r:Bool}(h:Qas s1=some r):Qc Tryz.prog 92 [.sl 1 (s1.map Qc9),.clo (.func 93) [] []] [] (Qh (.b r) []):=by
 refine Qc.walk 9 Tryz.func92 rfl Tryz.ntmps92 rfl fun C hC=>?_
 unfold Qas at h
 obtain⟨x3,hx3,h⟩:=Qb h
 refine Qa hC [.n 9,.cm (.fn) [] [] [] [.d,.d] [] (.i .i64 x3),.n 5,.keep [4] []] rfl ⟨tt_,(QhQ _ hx3)⟩ ?_
 cases h
 exact AK.done (ex_ [_] (an_ (an_ rfl tt_) (gives tt_)))
def QfA (v1:Qy):Option Bool:=
 (QcB v1.Name).bind fun x5=>
 bif x5 then
 bif (v1.Kind != 2)then
 some true
 else
 (Qas v1.Names).bind fun x8=>
 some (!x8)
 else
 some false
def Qb8 (x3:Bool):Option Bool:=
 some x3
def QcS (v1:Qy):Option Bool:=
 (QfA v1).bind (fun x3=>Qb8 x3)
theorem Qlz (v1:Qy){r:Bool}(h:QcS v1=some r):Qc Tryz.prog 90 [.loc 200000 0 0] [(200000,.var (Qu v1))] (Qh (.b r) [(200000,.var (Qu v1))]):=by
 refine Qc.walk 16 Tryz.func90 rfl Tryz.ntmps90 rfl fun C hC=>?_
 unfold QcS at h
 refine Qa hC [.n 6] rfl tt_ ?_
 obtain⟨x3,hv4,h⟩:=Qb h
 replace h:Qb8 x3=some r:=h
 refine AK.meetX (fun σ=>σ=⟨[(1,.b x3)],[(200000,.var (Qu v1))]⟩) ?_ ?_
 ·replace h:=hv4
  unfold QfA at h
  obtain⟨x5,hx5,h⟩:=Qb h
  refine Qa hC [.n 3,.o (.c false [.d] (.b x5)),.n 1] rfl ⟨tt_,(Qff _ hx5)⟩ ?_
  rcases bifE h with⟨hc6,h⟩|⟨hc6,h⟩
  ·refine Qa hC [.say 5 (.b true),.n 4] rfl ⟨tt_,(congrArg V.b hc6)⟩ ?_
   rcases bifE h with⟨hc7,h⟩|⟨hc7,h⟩
   ·refine Qa hC [.say 9 (.b true),.n 8,.keep [1] [200000]] rfl ⟨tt_,(congrArg V.b hc7)⟩ ?_
    cases h
    exact AK.met rfl
   ·obtain⟨x8,hx8,h⟩:=Qb h
    refine Qa hC [.say 9 (.b false),.n 2,.cm (.fn) [] [] [] [.d,.d] [] (.b x8),.n 5,.keep [1] [200000]] rfl ⟨⟨tt_,(congrArg V.b hc7)⟩,(Qg1 _ hx8)⟩ ?_
    cases h
    exact AK.met rfl
  ·refine Qa hC [.say 5 (.b false),.n 12,.keep [1] [200000]] rfl ⟨tt_,(congrArg V.b hc6)⟩ ?_
   cases h
   exact AK.met rfl
 ·rintro σ rfl
  replace h:Qb8 x3=some r:=h
  unfold Qb8 at h
  refine Qa hC [.n 2,.keep [1] [200000]] rfl tt_ ?_
  cases h
  exact AK.done (ex_ [_] (an_ (an_ rfl tt_) (gives ⟨rfl,tt_⟩)))
def Qey (v1:TNet)(v2:Int)(v3:Int)(v4:Qy)(v5:Int):Option Int:=
 (QcR v1 v2).bind fun x8=>
 bif (!x8)then
 some v3
 else
 (QcS v4).bind fun x10=>
 bif (!x10)then
 some v5
 else
 some 0
theorem QmE (v1:TNet)(v2:Int)(v3:Int)(v4:Qy)(v5:Int){r:Int}(h:Qey v1 v2 v3 v4 v5=some r):Qc Tryz.prog 47 [.own 200000 2] [(200000,.var [.clo (.func 94) [] [.loc 200001 0 0,.loc 200002 0 0],.i .i64 v3,.clo (.func 90) [] [.loc 200003 0 0],.i .i64 v5]),(200001,.var (Qd v1)),(200002,.var (Qe v2)),(200003,.var (Qu v4))] (Qh (.i .i64 r) [(200000,.var [.clo (.func 94) [] [.loc 200001 0 0,.loc 200002 0 0],.i .i64 v3,.clo (.func 90) [] [.loc 200003 0 0],.i .i64 v5]),(200001,.var (Qd v1)),(200002,.var (Qe v2)),(200003,.var (Qu v4))]):=by
 refine Qc.walk 18 Tryz.func47 rfl Tryz.ntmps47 rfl fun C hC=>?_
 unfold Qey at h
 refine Qa hC [.n 14] rfl tt_ ?_
 refine AK.loopN 3 (AK.rnd ?_)
 obtain⟨x8,hx8,h⟩:=Qb h
 refine Qa hC [.n 2,.v .no [] (.b true),.n 10,.o (.any (.loc 200000 0 0) none),.n 3,.sayO 4 (.var [.clo (.func 94) [] [.loc 200001 0 0,.loc 200002 0 0],.i .i64 v3]),.n 6,.cm (.clo) [(200000,200001),(200001,200002)] [(200001,200000),(200002,200001)] [] [.d,.d] [(200000,.var (Qd v1)),(200001,.var (Qe v2))] (.b x8),.n 3] rfl ⟨⟨⟨⟨tt_,rfl⟩,(fun σ h1 h2 _=>Stp.idxV rfl rfl (bleN hC.n rfl) (h1 _ _ rfl) (h1 _ _ rfl) (Qq.es rfl) (h2 _ _ rfl) (by decide))⟩,rfl⟩,(Qly _ _ hx8)⟩ ?_
 rcases bifE h with⟨hc9,h⟩|⟨hc9,h⟩
 ·refine Qa hC [.br true,.n 13,.keep [2] [200000,200001,200002,200003]] rfl ⟨tt_,hc9⟩ ?_
  cases h
  exact AK.done (ex_ [_] (an_ (an_ rfl tt_) (gives ⟨rfl,rfl,rfl,rfl,tt_⟩)))
 ·refine Qa hC [.br false,.n 4,.v .no [] (.i .i64 1),.n 2] rfl ⟨⟨tt_,hc9⟩,rfl⟩ ?_
  refine AK.met (AK.rnd ?_)
  obtain⟨x10,hx10,h⟩:=Qb h
  refine Qa hC [.n 2,.v .no [] (.b true),.n 10,.o (.any (.loc 200000 0 2) none),.n 1,.kill 4,.n 2,.sayO 4 (.var [.clo (.func 90) [] [.loc 200003 0 0],.i .i64 v5]),.n 6,.cm (.clo) [(200000,200003)] [(200003,200000)] [] [.d] [(200000,.var (Qu v4))] (.b x10),.n 3] rfl ⟨⟨⟨⟨tt_,rfl⟩,(fun σ h1 h2 _=>Stp.idxV rfl rfl (bleN hC.n rfl) (h1 _ _ rfl) (h1 _ _ rfl) (Qq.es rfl) (h2 _ _ rfl) (by decide))⟩,rfl⟩,(Qlz _ hx10)⟩ ?_
  rcases bifE h with⟨hc11,h⟩|⟨hc11,h⟩
  ·refine Qa hC [.br true,.n 13,.keep [2] [200000,200001,200002,200003]] rfl ⟨tt_,hc11⟩ ?_
   cases h
   exact AK.done (ex_ [_] (an_ (an_ rfl tt_) (gives ⟨rfl,rfl,rfl,rfl,tt_⟩)))
  ·refine Qa hC [.br false,.n 4,.v .no [] (.i .i64 2),.n 2] rfl ⟨⟨tt_,hc11⟩,rfl⟩ ?_
   refine AK.met (AK.rnd ?_)
   refine Qa hC [.n 2,.v .no [] (.b false),.n 15,.keep [2] [200000,200001,200002,200003]] rfl ⟨tt_,rfl⟩ ?_
   cases h
   exact AK.done (ex_ [_] (an_ (an_ rfl tt_) (gives ⟨rfl,rfl,rfl,rfl,tt_⟩)))
def QdS (k1:Int)(c2:Qy)(v3:TNet):Option Int:=
 (Qey v3 k1 8 c2 8).bind fun x5=>
 some x5
theorem Qml (k1:Int)(c2:Qy)(v3:TNet){r:Int}(h:QdS k1 c2 v3=some r):Qc Tryz.prog 89 [.i .i64 k1,.agg (Qu c2),.loc 200000 0 0] [(200000,.var (Qd v3))] (Qh (.i .i64 r) [(200000,.var (Qd v3))]):=by
 refine Qc.walk 16 Tryz.func89 rfl Tryz.ntmps89 rfl fun C hC=>?_
 unfold QdS at h
 obtain⟨x5,hx5,h⟩:=Qb h
 refine Qa hC [.n 22,.v .no [] (.agg [.clo (.func 94) [] [.loc 200000 0 0,.loc 3 0 0],.i .i64 8]),.n 1,.v .no [] (.agg [.clo (.func 90) [] [.loc 4 0 0],.i .i64 8]),.o (.any (.own 14 2) (some (.var [.clo (.func 94) [] [.loc 200000 0 0,.loc 3 0 0],.i .i64 8,.clo (.func 90) [] [.loc 4 0 0],.i .i64 8]))),.cm (.fn) [(200000,14),(200001,200000),(200002,3),(200003,4)] [(14,200000),(200000,200001),(3,200002),(4,200003)] [] [.d] [(200000,.var [.clo (.func 94) [] [.loc 200001 0 0,.loc 200002 0 0],.i .i64 8,.clo (.func 90) [] [.loc 200003 0 0],.i .i64 8]),(200001,.var (Qd v3)),(200002,.var (Qe k1)),(200003,.var (Qu c2))] (.i .i64 x5),.n 4,.keep [5] [200000]] rfl ⟨⟨⟨⟨tt_,rfl⟩,rfl⟩,(fun σ h1 h2 hf=>Stp.buildAny rfl rfl (bleN hC.n rfl) (Qq.es rfl) QjR rfl (by decide) (by decide) (Qej h1 rfl) rfl rfl (hf rfl))⟩,(QmE _ _ _ _ _ hx5)⟩ ?_
 cases h
 exact AK.done (ex_ [_] (an_ (an_ rfl tt_) (gives ⟨rfl,tt_⟩)))
def QaN (l1:(List Qy))(v2:TNet)(x7:Int):Option (Int⊕((Int×Int)⊕Unit)):=
 bif (decide (x7<(l1.length:Int)))then
 (idx l1 x7).bind fun e12=>
 (QdS x7 e12 v2).bind fun x13=>
 bif (x13 != 0)then
 some (.inr (.inl (x7,x13)))
 else
 some (.inl (w64 (x7+1)))
 else
 some (.inr (.inr ()))
def Qbn (x9:Int)(x10:Int):Option (Int×Int):=
 some (x9,x10)
def Qbo : Option (Int×Int):=
 some (0,0)
def QbU (l1:(List Qy))(v2:TNet):Option (Int×Int):=
 (QI (fun st=>QaN l1 v2 st) 0).bind (Sum.elim (fun q=>Qbn q.1 q.2) (fun q=>Qbo))
theorem Qj7 (l1:(List Qy))(v2:TNet){r:(Int×Int)}(h:QbU l1 v2=some r):Qc Tryz.prog 88 [.sl 7 (l1.map Qu),.clo (.func 89) [] [.loc 200000 0 0]] [(200000,.var (Qd v2))] (Qh (.tup [.i .i64 r.1,.i .i64 r.2]) [(200000,.var (Qd v2))]):=by
 refine Qc.walk 25 Tryz.func88 rfl Tryz.ntmps88 rfl fun C hC=>?_
 unfold QbU at h
 refine Qa hC [.n 10,.o (.ln l1.length),.n 4,.keep [1,9,10,11] [200000]] rfl ⟨tt_,Qi⟩ ?_
 obtain⟨o15,hl15,h⟩:=Qb h
 refine AK.loop (body:=(fun st=>QaN l1 v2 st)) (fun st σ=>σ=⟨[(1,.clo (.func 89) [] [.loc 200000 0 0]),(9,.sl 7 (l1.map Qu)),(10,.i .i64 (l1.length:Int)),(11,.i .i64 st)],[(200000,.var (Qd v2))]⟩) (Sum.elim (fun q e σ=>e=.ret∧σ=⟨[(4,.i .i64 q.1),(5,.i .i64 q.2)],[(200000,.var (Qd v2))]⟩) (fun q e σ=>e=.exit 0∧σ=⟨[],[(200000,.var (Qd v2))]⟩)) hl15 rfl ?_ ?_
 ·rintro x7 o σ rfl h
  replace h:QaN l1 v2 x7=some o:=h
  unfold QaN at h
  refine Qa hC [.n 6] rfl tt_ ?_
  rcases bifE h with⟨hc11,h⟩|⟨hc11,h⟩
  ·obtain⟨e12,he12,h⟩:=Qb h
   obtain⟨x13,hx13,h⟩:=Qb h
   refine Qa hC [.br true,.n 7,.o (.row (Qu e12)),.v .no [] (.agg (Qu e12)),.n 3,.sayO 7 (.var (Qu e12)),.n 6,.v .no [] (.agg (Qu e12)),.cm (.clo) [(200000,200000)] [(200000,200000)] [] [.d,.d,.d] [(200000,.var (Qd v2))] (.i .i64 x13),.n 9] rfl ⟨⟨⟨⟨⟨⟨tt_,hc11⟩,(idxM he12)⟩,rfl⟩,rfl⟩,rfl⟩,(Qml _ _ _ hx13)⟩ ?_
   rcases bifE h with⟨hc14,h⟩|⟨hc14,h⟩
   ·refine Qa hC [.br true,.n 11,.keep [4,5] [200000]] rfl ⟨tt_,hc14⟩ ?_
    cases h
    exact rndR rfl (an_ rfl rfl)
   ·refine Qa hC [.br false,.n 7,.keep [1,9,10,11] [200000]] rfl ⟨tt_,hc14⟩ ?_
    cases h
    exact rndN rfl rfl
  ·refine Qa hC [.br false,.n 2,.keep [] [200000]] rfl ⟨tt_,hc11⟩ ?_
   cases h
   exact rndX rfl (an_ rfl rfl)
 ·rcases o15 with(⟨x9,x10⟩|_)
  ·replace h:Qbn x9 x10=some r:=h
   unfold Qbn at h
   rintro e σ ⟨rfl,rfl⟩
   refine Qa hC [.n 2,.keep [4,5] [200000]] rfl tt_ ?_
   cases h
   exact AK.done (ex_ [_,_] (an_ (an_ rfl (an_ rfl tt_)) (gives ⟨rfl,tt_⟩)))
  ·replace h:Qbo=some r:=h
   unfold Qbo at h
   rintro e σ ⟨rfl,rfl⟩
   refine Qa hC [.n 9,.keep [4,5] [200000]] rfl tt_ ?_
   cases h
   exact AK.done (ex_ [_,_] (an_ (an_ rfl (an_ rfl tt_)) (gives ⟨rfl,tt_⟩)))
def QdA (n1:TNet):Option (Int×Int):=
 (QbU n1.Colours n1).bind fun x4=>
 some (x4.1,x4.2)
theorem QjU (n1:TNet){r:(Int×Int)}(h:QdA n1=some r):Qc Tryz.prog 52 [.agg (Qd n1)] [] (Qh (.tup [.i .i64 r.1,.i .i64 r.2]) []):=by
 refine Qc.walk 10 Tryz.func52 rfl Tryz.ntmps52 rfl fun C hC=>?_
 unfold QdA at h
 obtain⟨x4,hx4,h⟩:=Qb h
 refine Qa hC [.n 12,.cm (.fn) [(200000,1)] [(1,200000)] [] [.d,.d] [(200000,.var (Qd n1))] (.tup [.i .i64 x4.1,.i .i64 x4.2]),.n 7,.keep [2,3] []] rfl ⟨tt_,(Qj7 _ _ hx4)⟩ ?_
 cases h
 exact AK.done (ex_ [_,_] (an_ (an_ rfl (an_ rfl tt_)) (gives tt_)))
def Qfg (v1:QB):Option Bool:=
 (QcB v1.Name).bind fun x3=>
 some x3
theorem Qnl (v1:QB){r:Bool}(h:Qfg v1=some r):Qc Tryz.prog 97 [.loc 200000 0 0] [(200000,.var (Qt v1))] (Qh (.b r) [(200000,.var (Qt v1))]):=by
 refine Qc.walk 5 Tryz.func97 rfl Tryz.ntmps97 rfl fun C hC=>?_
 unfold Qfg at h
 obtain⟨x3,hx3,h⟩:=Qb h
 refine Qa hC [.n 9,.o (.c false [.d] (.b x3)),.n 4,.keep [1] [200000]] rfl ⟨tt_,(Qff _ hx3)⟩ ?_
 cases h
 exact AK.done (ex_ [_] (an_ (an_ rfl tt_) (gives ⟨rfl,tt_⟩)))
def Qfh (p1:QB)(v2:QB):Option Bool:=
 some (Qgn p1.Name v2.Name)
theorem Qnm (p1:QB)(v2:QB){r:Bool}(h:Qfh p1 v2=some r):Qc Tryz.prog 96 [.agg (Qt p1),.loc 200000 0 0] [(200000,.var (Qt v2))] (Qh (.b r) [(200000,.var (Qt v2))]):=by
 refine Qc.walk 9 Tryz.func96 rfl Tryz.ntmps96 rfl fun C hC=>?_
 unfold Qfh at h
 refine Qa hC [.n 17,.keep [3] [200000]] rfl tt_ ?_
 cases h
 exact AK.done (ex_ [_] (an_ (an_ rfl tt_) (gives ⟨rfl,tt_⟩)))
def QQ (s1:(List QB))(v2:QB)(x5:Int):Option (Int⊕(Int⊕Unit)):=
 bif (decide (x5<(s1.length:Int)))then
 (idx s1 x5).bind fun e9=>
 (Qfh e9 v2).bind fun x10=>
 bif x10 then
 some (.inr (.inl x5))
 else
 some (.inl (w64 (x5+1)))
 else
 some (.inr (.inr ()))
def QY (x7:Int):Option Int:=
 some x7
def QZ : Option Int:=
 some (-1)
def Qad (s1:(List QB))(v2:QB):Option Int:=
 (QI (fun st=>QQ s1 v2 st) 0).bind (Sum.elim (fun q=>QY q) (fun q=>QZ))
theorem Qgg (s1:(List QB))(v2:QB){r:Int}(h:Qad s1 v2=some r):Qc Tryz.prog 147 [.sl 3 (s1.map Qt),.clo (.func 96) [] [.loc 200000 0 0]] [(200000,.var (Qt v2))] (Qh (.i .i64 r) [(200000,.var (Qt v2))]):=by
 refine Qc.walk 19 Tryz.func147 rfl Tryz.ntmps147 rfl fun C hC=>?_
 unfold Qad at h
 refine Qa hC [.n 9,.o (.ln s1.length),.n 4,.keep [0,1,7,8] [200000]] rfl ⟨tt_,Qi⟩ ?_
 obtain⟨o12,hl12,h⟩:=Qb h
 refine AK.loop (body:=(fun st=>QQ s1 v2 st)) (fun st σ=>σ=⟨[(0,.sl 3 (s1.map Qt)),(1,.clo (.func 96) [] [.loc 200000 0 0]),(7,.i .i64 (s1.length:Int)),(8,.i .i64 st)],[(200000,.var (Qt v2))]⟩) (Sum.elim (fun q e σ=>e=.ret∧σ=⟨[(4,.i .i64 q)],[(200000,.var (Qt v2))]⟩) (fun q e σ=>e=.exit 0∧σ=⟨[],[(200000,.var (Qt v2))]⟩)) hl12 rfl ?_ ?_
 ·rintro x5 o σ rfl h
  replace h:QQ s1 v2 x5=some o:=h
  unfold QQ at h
  refine Qa hC [.n 6] rfl tt_ ?_
  rcases bifE h with⟨hc8,h⟩|⟨hc8,h⟩
  ·obtain⟨e9,he9,h⟩:=Qb h
   obtain⟨x10,hx10,h⟩:=Qb h
   refine Qa hC [.br true,.n 15,.o (.row (Qt e9)),.v .no [] (.agg (Qt e9)),.cm (.clo) [(200000,200000)] [(200000,200000)] [] [.d,.d] [(200000,.var (Qt v2))] (.b x10),.n 2] rfl ⟨⟨⟨⟨tt_,hc8⟩,(idxM he9)⟩,rfl⟩,(Qnm _ _ hx10)⟩ ?_
   rcases bifE h with⟨hc11,h⟩|⟨hc11,h⟩
   ·refine Qa hC [.br true,.n 9,.keep [4] [200000]] rfl ⟨tt_,hc11⟩ ?_
    cases h
    exact rndR rfl (an_ rfl rfl)
   ·refine Qa hC [.br false,.n 7,.keep [0,1,7,8] [200000]] rfl ⟨tt_,hc11⟩ ?_
    cases h
    exact rndN rfl rfl
  ·refine Qa hC [.br false,.n 2,.keep [] [200000]] rfl ⟨tt_,hc8⟩ ?_
   cases h
   exact rndX rfl (an_ rfl rfl)
 ·rcases o12 with(x7 | _)
  ·replace h:QY x7=some r:=h
   unfold QY at h
   rintro e σ ⟨rfl,rfl⟩
   refine Qa hC [.n 2,.keep [4] [200000]] rfl tt_ ?_
   cases h
   exact AK.done (ex_ [_] (an_ (an_ rfl tt_) (gives ⟨rfl,tt_⟩)))
  ·replace h:QZ=some r:=h
   unfold QZ at h
   rintro e σ ⟨rfl,rfl⟩
   refine Qa hC [.n 8,.keep [4] [200000]] rfl tt_ ?_
   cases h
   exact AK.done (ex_ [_] (an_ (an_ rfl tt_) (gives ⟨rfl,tt_⟩)))
def Q0 (s1:(List QB))(v2:QB):Option Bool:=
 (Qad s1 v2).bind fun x4=>
 some (decide (0≤x4))
theorem QfB (s1:(List QB))(v2:QB){r:Bool}(h:Q0 s1 v2=some r):Qc Tryz.prog 99 [.sl 3 (s1.map Qt),.clo (.func 96) [] [.loc 200000 0 0]] [(200000,.var (Qt v2))] (Qh (.b r) [(200000,.var (Qt v2))]):=by
 refine Qc.walk 9 Tryz.func99 rfl Tryz.ntmps99 rfl fun C hC=>?_
 unfold Q0 at h
 obtain⟨x4,hx4,h⟩:=Qb h
 refine Qa hC [.n 9,.cm (.fn) [(200000,200000)] [(200000,200000)] [] [.d,.d] [(200000,.var (Qt v2))] (.i .i64 x4),.n 5,.keep [4] [200000]] rfl ⟨tt_,(Qgg _ _ hx4)⟩ ?_
 cases h
 exact AK.done (ex_ [_] (an_ (an_ rfl tt_) (gives ⟨rfl,tt_⟩)))
def Qfi (v1:TNet)(v2:Int)(v3:QB):Option Bool:=
 (chk (decide (0≤v2)&&decide (0≤v2.toNat)&&decide (v2.toNat≤v1.Places.length))).bind fun _=>
 (Q0 ((v1.Places.drop 0).take (v2.toNat-0)) v3).bind fun x6=>
 some (!x6)
theorem Qnn (v1:TNet)(v2:Int)(v3:QB){r:Bool}(h:Qfi v1 v2 v3=some r):Qc Tryz.prog 98 [.loc 200000 0 0,.loc 200001 0 0,.loc 200002 0 0] [(200000,.var (Qd v1)),(200001,.var (Qe v2)),(200002,.var [.clo (.func 96) [] [.loc 200003 0 0]]),(200003,.var (Qt v3))] (Qh (.b r) [(200000,.var (Qd v1)),(200001,.var (Qe v2)),(200002,.var [.clo (.func 96) [] [.loc 200003 0 0]]),(200003,.var (Qt v3))]):=by
 refine Qc.walk 11 Tryz.func98 rfl Tryz.ntmps98 rfl fun C hC=>?_
 unfold Qfi at h
 obtain⟨_,hk5,h⟩:=Qb h
 replace hk5:=chkE hk5
 obtain⟨x6,hx6,h⟩:=Qb h
 refine Qa hC [.n 6,.keep [0,1,2,3] [200000,200001,200002,200003]] rfl tt_ ?_
 refine AK.draw2 Qq hC mixed [.a .no none false,.a .no none false,.a .no none false,.a (.any (.sl 3 (((v1.Places.drop 0).take (v2.toNat-0)).map Qt)) none) none false,.a .no none false,.a (.any (.b x6) none) none false,.a .no none false,.m .s] [] [] [3] [200000,200001,200002,200003] rfl rfl rfl ⟨⟨tt_,(fun σ h1 h2 _=>Stp.sliceD rfl rfl (bleN hC.n rfl) (h1 _ _ rfl) (Qq.es rfl) Bnd.no (Bnd.val (h1 _ _ rfl) (of_decide_eq_true (Qm8 hk5)) rfl) (of_decide_eq_true (Qm9 hk5)) (Nat.le_trans (of_decide_eq_true (Qna hk5)) (Nat.le_of_eq Qi.symm)) Qpi)⟩,(fun σ h1 h2 _=>Stp.callSame (md:=.cm (.fn) [(200000,200003)] [(200003,200000)] [] [.d,.d] [(200000,.var (Qt v3))] (.b x6) [200003]) Qq hC h1 h2 rfl ⟨⟨tt_,(QfB _ _ hx6)⟩,⟨rfl,tt_⟩⟩)⟩ rfl (by kernel_rfl) rfl rfl rfl ?_
 refine Qa hC [.n 2,.keep [3] [200000,200001,200002,200003]] rfl tt_ ?_
 cases h
 exact AK.done (ex_ [_] (an_ (an_ rfl tt_) (gives ⟨rfl,rfl,rfl,rfl,tt_⟩)))
def Qa8 (l1:(List Qy))(k2:Int):Option Bool:=
 some ((decide (0≤k2))&&(decide (k2<(l1.length:Int))))
theorem Qgl (l1:(List Qy))(k2:Int){r:Bool}(h:Qa8 l1 k2=some r):Qc Tryz.prog 101 [.sl 7 (l1.map Qu),.i .i64 k2] [] (Qh (.b r) []):=by
 refine Qc.walk 13 Tryz.func101 rfl Tryz.ntmps101 rfl fun C hC=>?_
 unfold Qa8 at h
 refine Qa hC [.n 6] rfl tt_ ?_
 refine AK.meetX (fun σ=>σ=⟨[(4,.b ((decide (0≤k2))&&(decide (k2<(l1.length:Int)))))],[]⟩) ?_ ?_
 ·refine Qa hC [.n 4] rfl tt_ ?_
  rcases QN (decide (0≤k2))with hc5 | hc5
  ·refine Qa hC [.say 7 (.b true),.n 2,.o (.ln l1.length),.n 4,.say 4 (.b ((decide (0≤k2))&&(decide (k2<(l1.length:Int))))),.keep [4] []] rfl ⟨⟨⟨tt_,(congrArg V.b hc5)⟩,Qi⟩,(congrArg V.b (andT hc5 rfl))⟩ ?_
   exact AK.met rfl
  ·refine Qa hC [.say 7 (.b false),.n 7,.say 4 (.b ((decide (0≤k2))&&(decide (k2<(l1.length:Int))))),.keep [4] []] rfl ⟨⟨tt_,(congrArg V.b hc5)⟩,(congrArg V.b (andF hc5 rfl))⟩ ?_
   exact AK.met rfl
 ·rintro σ rfl
  refine Qa hC [.n 2,.keep [4] []] rfl tt_ ?_
  cases h
  exact AK.done (ex_ [_] (an_ (an_ rfl tt_) (gives tt_)))
def Qfj (v1:TNet)(v2:QB):Option Bool:=
 (Qa8 v1.Colours v2.Colour).bind fun x4=>
 some x4
theorem Qno (v1:TNet)(v2:QB){r:Bool}(h:Qfj v1 v2=some r):Qc Tryz.prog 100 [.loc 200000 0 0,.loc 200001 0 0] [(200000,.var (Qd v1)),(200001,.var (Qt v2))] (Qh (.b r) [(200000,.var (Qd v1)),(200001,.var (Qt v2))]):=by
 refine Qc.walk 8 Tryz.func100 rfl Tryz.ntmps100 rfl fun C hC=>?_
 unfold Qfj at h
 obtain⟨x4,hx4,h⟩:=Qb h
 refine Qa hC [.n 11,.o (.c false [.d,.d] (.b x4)),.n 4,.keep [2] [200000,200001]] rfl ⟨tt_,(Qgl _ _ hx4)⟩ ?_
 cases h
 exact AK.done (ex_ [_] (an_ (an_ rfl tt_) (gives ⟨rfl,rfl,tt_⟩)))
def Qfk (v1:QB):Option Bool:=
 (Qdc v1.First).bind fun x3=>
 some x3
theorem Qnp (v1:QB){r:Bool}(h:Qfk v1=some r):Qc Tryz.prog 102 [.loc 200000 0 0] [(200000,.var (Qt v1))] (Qh (.b r) [(200000,.var (Qt v1))]):=by
 refine Qc.walk 5 Tryz.func102 rfl Tryz.ntmps102 rfl fun C hC=>?_
 unfold Qfk at h
 obtain⟨x3,hx3,h⟩:=Qb h
 refine Qa hC [.n 9,.o (.c false [.d] (.b x3)),.n 4,.keep [1] [200000]] rfl ⟨tt_,(Qjx _ hx3)⟩ ?_
 cases h
 exact AK.done (ex_ [_] (an_ (an_ rfl tt_) (gives ⟨rfl,tt_⟩)))
def QdT (row1:(Int×Int))(v2:Int):Option Bool:=
 some (decide (v2≤row1.1))
theorem Qmm (row1:(Int×Int))(v2:Int){r:Bool}(h:QdT row1 v2=some r):Qc Tryz.prog 105 [.agg (QD row1),.loc 200000 0 0] [(200000,.var (Qe v2))] (Qh (.b r) [(200000,.var (Qe v2))]):=by
 refine Qc.walk 8 Tryz.func105 rfl Tryz.ntmps105 rfl fun C hC=>?_
 unfold QdT at h
 refine Qa hC [.n 16,.keep [3] [200000]] rfl tt_ ?_
 cases h
 exact AK.done (ex_ [_] (an_ (an_ rfl tt_) (gives ⟨rfl,tt_⟩)))
def Q2 (s1:(List (Int×Int)))(v2:Int)(x5:Int):Option (Int⊕(Int⊕Unit)):=
 bif (decide (x5<(s1.length:Int)))then
 (idx s1 x5).bind fun e9=>
 (QdT e9 v2).bind fun x10=>
 bif x10 then
 some (.inr (.inl x5))
 else
 some (.inl (w64 (x5+1)))
 else
 some (.inr (.inr ()))
def Qat (x7:Int):Option Int:=
 some x7
def Qau : Option Int:=
 some (-1)
def QaF (s1:(List (Int×Int)))(v2:Int):Option Int:=
 (QI (fun st=>Q2 s1 v2 st) 0).bind (Sum.elim (fun q=>Qat q) (fun q=>Qau))
theorem QhR (s1:(List (Int×Int)))(v2:Int){r:Int}(h:QaF s1 v2=some r):Qc Tryz.prog 148 [.sl 2 (s1.map QD),.clo (.func 105) [] [.loc 200000 0 0]] [(200000,.var (Qe v2))] (Qh (.i .i64 r) [(200000,.var (Qe v2))]):=by
 refine Qc.walk 19 Tryz.func148 rfl Tryz.ntmps148 rfl fun C hC=>?_
 unfold QaF at h
 refine Qa hC [.n 9,.o (.ln s1.length),.n 4,.keep [0,1,7,8] [200000]] rfl ⟨tt_,Qi⟩ ?_
 obtain⟨o12,hl12,h⟩:=Qb h
 refine AK.loop (body:=(fun st=>Q2 s1 v2 st)) (fun st σ=>σ=⟨[(0,.sl 2 (s1.map QD)),(1,.clo (.func 105) [] [.loc 200000 0 0]),(7,.i .i64 (s1.length:Int)),(8,.i .i64 st)],[(200000,.var (Qe v2))]⟩) (Sum.elim (fun q e σ=>e=.ret∧σ=⟨[(4,.i .i64 q)],[(200000,.var (Qe v2))]⟩) (fun q e σ=>e=.exit 0∧σ=⟨[],[(200000,.var (Qe v2))]⟩)) hl12 rfl ?_ ?_
 ·rintro x5 o σ rfl h
  replace h:Q2 s1 v2 x5=some o:=h
  unfold Q2 at h
  refine Qa hC [.n 6] rfl tt_ ?_
  rcases bifE h with⟨hc8,h⟩|⟨hc8,h⟩
  ·obtain⟨e9,he9,h⟩:=Qb h
   obtain⟨x10,hx10,h⟩:=Qb h
   refine Qa hC [.br true,.n 15,.o (.row (QD e9)),.v .no [] (.agg (QD e9)),.cm (.clo) [(200000,200000)] [(200000,200000)] [] [.d,.d] [(200000,.var (Qe v2))] (.b x10),.n 2] rfl ⟨⟨⟨⟨tt_,hc8⟩,(idxM he9)⟩,rfl⟩,(Qmm _ _ hx10)⟩ ?_
   rcases bifE h with⟨hc11,h⟩|⟨hc11,h⟩
   ·refine Qa hC [.br true,.n 9,.keep [4] [200000]] rfl ⟨tt_,hc11⟩ ?_
    cases h
    exact rndR rfl (an_ rfl rfl)
   ·refine Qa hC [.br false,.n 7,.keep [0,1,7,8] [200000]] rfl ⟨tt_,hc11⟩ ?_
    cases h
    exact rndN rfl rfl
  ·refine Qa hC [.br false,.n 2,.keep [] [200000]] rfl ⟨tt_,hc8⟩ ?_
   cases h
   exact rndX rfl (an_ rfl rfl)
 ·rcases o12 with(x7 | _)
  ·replace h:Qat x7=some r:=h
   unfold Qat at h
   rintro e σ ⟨rfl,rfl⟩
   refine Qa hC [.n 2,.keep [4] [200000]] rfl tt_ ?_
   cases h
   exact AK.done (ex_ [_] (an_ (an_ rfl tt_) (gives ⟨rfl,tt_⟩)))
  ·replace h:Qau=some r:=h
   unfold Qau at h
   rintro e σ ⟨rfl,rfl⟩
   refine Qa hC [.n 8,.keep [4] [200000]] rfl tt_ ?_
   cases h
   exact AK.done (ex_ [_] (an_ (an_ rfl tt_) (gives ⟨rfl,tt_⟩)))
def Qav (s1:(List (Int×Int)))(v2:Int):Option Bool:=
 (QaF s1 v2).bind fun x4=>
 some (decide (0≤x4))
theorem Qg2 (s1:(List (Int×Int)))(v2:Int){r:Bool}(h:Qav s1 v2=some r):Qc Tryz.prog 104 [.sl 2 (s1.map QD),.clo (.func 105) [] [.loc 200000 0 0]] [(200000,.var (Qe v2))] (Qh (.b r) [(200000,.var (Qe v2))]):=by
 refine Qc.walk 9 Tryz.func104 rfl Tryz.ntmps104 rfl fun C hC=>?_
 unfold Qav at h
 obtain⟨x4,hx4,h⟩:=Qb h
 refine Qa hC [.n 9,.cm (.fn) [(200000,200000)] [(200000,200000)] [] [.d,.d] [(200000,.var (Qe v2))] (.i .i64 x4),.n 5,.keep [4] [200000]] rfl ⟨tt_,(QhR _ _ hx4)⟩ ?_
 cases h
 exact AK.done (ex_ [_] (an_ (an_ rfl tt_) (gives ⟨rfl,tt_⟩)))
def Qfl (v1:TNet)(v2:QB):Option Bool:=
 (Qaw v1.Colours v2.Colour).bind fun x4=>
 (Qav v2.First x4).bind fun x5=>
 some (!x5)
theorem Qnq (v1:TNet)(v2:QB){r:Bool}(h:Qfl v1 v2=some r):Qc Tryz.prog 103 [.loc 200000 0 0,.loc 200001 0 0] [(200000,.var (Qd v1)),(200001,.var (Qt v2))] (Qh (.b r) [(200000,.var (Qd v1)),(200001,.var (Qt v2))]):=by
 refine Qc.walk 14 Tryz.func103 rfl Tryz.ntmps103 rfl fun C hC=>?_
 unfold Qfl at h
 obtain⟨x4,hx4,h⟩:=Qb h
 obtain⟨x5,hx5,h⟩:=Qb h
 refine Qa hC [.n 11,.o (.c false [.d,.d] (.i .i64 x4)),.n 2,.sayO 3 (.var (Qe x4)),.n 7,.cm (.fn) [(200000,3)] [(3,200000)] [] [.d,.d] [(200000,.var (Qe x4))] (.b x5),.n 5,.keep [2] [200000,200001]] rfl ⟨⟨⟨tt_,(Qgq _ _ hx4)⟩,rfl⟩,(Qg2 _ _ hx5)⟩ ?_
 cases h
 exact AK.done (ex_ [_] (an_ (an_ rfl tt_) (gives ⟨rfl,rfl,tt_⟩)))
def Qez (v1:QB)(v2:Int)(v3:TNet)(v4:Int)(v5:Int)(v6:Int)(v7:Int)(v8:Int):Option Int:=
 (Qfg v1).bind fun x11=>
 bif (!x11)then
 some v2
 else
 (Qfi v3 v4 v1).bind fun x13=>
 bif (!x13)then
 some v5
 else
 (Qfj v3 v1).bind fun x15=>
 bif (!x15)then
 some v6
 else
 (Qfk v1).bind fun x17=>
 bif (!x17)then
 some v7
 else
 (Qfl v3 v1).bind fun x19=>
 bif (!x19)then
 some v8
 else
 some 0
theorem QmF (v1:QB)(v2:Int)(v3:TNet)(v4:Int)(v5:Int)(v6:Int)(v7:Int)(v8:Int){r:Int}(h:Qez v1 v2 v3 v4 v5 v6 v7 v8=some r):Qc Tryz.prog 47 [.own 200000 5] [(200000,.var [.clo (.func 97) [] [.loc 200001 0 0],.i .i64 v2,.clo (.func 98) [] [.loc 200002 0 0,.loc 200003 0 0,.loc 200004 0 0],.i .i64 v5,.clo (.func 100) [] [.loc 200002 0 0,.loc 200001 0 0],.i .i64 v6,.clo (.func 102) [] [.loc 200001 0 0],.i .i64 v7,.clo (.func 103) [] [.loc 200002 0 0,.loc 200001 0 0],.i .i64 v8]),(200001,.var (Qt v1)),(200002,.var (Qd v3)),(200003,.var (Qe v4)),(200004,.var [.clo (.func 96) [] [.loc 200001 0 0]])] (Qh (.i .i64 r) [(200000,.var [.clo (.func 97) [] [.loc 200001 0 0],.i .i64 v2,.clo (.func 98) [] [.loc 200002 0 0,.loc 200003 0 0,.loc 200004 0 0],.i .i64 v5,.clo (.func 100) [] [.loc 200002 0 0,.loc 200001 0 0],.i .i64 v6,.clo (.func 102) [] [.loc 200001 0 0],.i .i64 v7,.clo (.func 103) [] [.loc 200002 0 0,.loc 200001 0 0],.i .i64 v8]),(200001,.var (Qt v1)),(200002,.var (Qd v3)),(200003,.var (Qe v4)),(200004,.var [.clo (.func 96) [] [.loc 200001 0 0]])]):=by
 refine Qc.walk 18 Tryz.func47 rfl Tryz.ntmps47 rfl fun C hC=>?_
 unfold Qez at h
 refine Qa hC [.n 14] rfl tt_ ?_
 refine AK.loopN 6 (AK.rnd ?_)
 obtain⟨x11,hx11,h⟩:=Qb h
 refine Qa hC [.n 2,.v .no [] (.b true),.n 10,.o (.any (.loc 200000 0 0) none),.n 3,.sayO 4 (.var [.clo (.func 97) [] [.loc 200001 0 0],.i .i64 v2]),.n 6,.cm (.clo) [(200000,200001)] [(200001,200000)] [] [.d] [(200000,.var (Qt v1))] (.b x11),.n 3] rfl ⟨⟨⟨⟨tt_,rfl⟩,(fun σ h1 h2 _=>Stp.idxV rfl rfl (bleN hC.n rfl) (h1 _ _ rfl) (h1 _ _ rfl) (Qq.es rfl) (h2 _ _ rfl) (by decide))⟩,rfl⟩,(Qnl _ hx11)⟩ ?_
 rcases bifE h with⟨hc12,h⟩|⟨hc12,h⟩
 ·refine Qa hC [.br true,.n 13,.keep [2] [200000,200001,200002,200003,200004]] rfl ⟨tt_,hc12⟩ ?_
  cases h
  exact AK.done (ex_ [_] (an_ (an_ rfl tt_) (gives ⟨rfl,rfl,rfl,rfl,rfl,tt_⟩)))
 ·refine Qa hC [.br false,.n 4,.v .no [] (.i .i64 1),.n 2] rfl ⟨⟨tt_,hc12⟩,rfl⟩ ?_
  refine AK.met (AK.rnd ?_)
  obtain⟨x13,hx13,h⟩:=Qb h
  refine Qa hC [.n 2,.v .no [] (.b true),.n 10,.o (.any (.loc 200000 0 2) none),.n 1,.kill 4,.n 2,.sayO 4 (.var [.clo (.func 98) [] [.loc 200002 0 0,.loc 200003 0 0,.loc 200004 0 0],.i .i64 v5]),.n 6,.cm (.clo) [(200000,200002),(200001,200003),(200002,200004),(200003,200001)] [(200002,200000),(200003,200001),(200004,200002),(200001,200003)] [] [.d,.d,.d] [(200000,.var (Qd v3)),(200001,.var (Qe v4)),(200002,.var [.clo (.func 96) [] [.loc 200003 0 0]]),(200003,.var (Qt v1))] (.b x13),.n 3] rfl ⟨⟨⟨⟨tt_,rfl⟩,(fun σ h1 h2 _=>Stp.idxV rfl rfl (bleN hC.n rfl) (h1 _ _ rfl) (h1 _ _ rfl) (Qq.es rfl) (h2 _ _ rfl) (by decide))⟩,rfl⟩,(Qnn _ _ _ hx13)⟩ ?_
  rcases bifE h with⟨hc14,h⟩|⟨hc14,h⟩
  ·refine Qa hC [.br true,.n 13,.keep [2] [200000,200001,200002,200003,200004]] rfl ⟨tt_,hc14⟩ ?_
   cases h
   exact AK.done (ex_ [_] (an_ (an_ rfl tt_) (gives ⟨rfl,rfl,rfl,rfl,rfl,tt_⟩)))
  ·refine Qa hC [.br false,.n 4,.v .no [] (.i .i64 2),.n 2] rfl ⟨⟨tt_,hc14⟩,rfl⟩ ?_
   refine AK.met (AK.rnd ?_)
   obtain⟨x15,hx15,h⟩:=Qb h
   refine Qa hC [.n 2,.v .no [] (.b true),.n 10,.o (.any (.loc 200000 0 4) none),.n 1,.kill 4,.n 2,.sayO 4 (.var [.clo (.func 100) [] [.loc 200002 0 0,.loc 200001 0 0],.i .i64 v6]),.n 6,.cm (.clo) [(200000,200002),(200001,200001)] [(200002,200000),(200001,200001)] [] [.d,.d] [(200000,.var (Qd v3)),(200001,.var (Qt v1))] (.b x15),.n 3] rfl ⟨⟨⟨⟨tt_,rfl⟩,(fun σ h1 h2 _=>Stp.idxV rfl rfl (bleN hC.n rfl) (h1 _ _ rfl) (h1 _ _ rfl) (Qq.es rfl) (h2 _ _ rfl) (by decide))⟩,rfl⟩,(Qno _ _ hx15)⟩ ?_
   rcases bifE h with⟨hc16,h⟩|⟨hc16,h⟩
   ·refine Qa hC [.br true,.n 13,.keep [2] [200000,200001,200002,200003,200004]] rfl ⟨tt_,hc16⟩ ?_
    cases h
    exact AK.done (ex_ [_] (an_ (an_ rfl tt_) (gives ⟨rfl,rfl,rfl,rfl,rfl,tt_⟩)))
   ·refine Qa hC [.br false,.n 4,.v .no [] (.i .i64 3),.n 2] rfl ⟨⟨tt_,hc16⟩,rfl⟩ ?_
    refine AK.met (AK.rnd ?_)
    obtain⟨x17,hx17,h⟩:=Qb h
    refine Qa hC [.n 2,.v .no [] (.b true),.n 10,.o (.any (.loc 200000 0 6) none),.n 1,.kill 4,.n 2,.sayO 4 (.var [.clo (.func 102) [] [.loc 200001 0 0],.i .i64 v7]),.n 6,.cm (.clo) [(200000,200001)] [(200001,200000)] [] [.d] [(200000,.var (Qt v1))] (.b x17),.n 3] rfl ⟨⟨⟨⟨tt_,rfl⟩,(fun σ h1 h2 _=>Stp.idxV rfl rfl (bleN hC.n rfl) (h1 _ _ rfl) (h1 _ _ rfl) (Qq.es rfl) (h2 _ _ rfl) (by decide))⟩,rfl⟩,(Qnp _ hx17)⟩ ?_
    rcases bifE h with⟨hc18,h⟩|⟨hc18,h⟩
    ·refine Qa hC [.br true,.n 13,.keep [2] [200000,200001,200002,200003,200004]] rfl ⟨tt_,hc18⟩ ?_
     cases h
     exact AK.done (ex_ [_] (an_ (an_ rfl tt_) (gives ⟨rfl,rfl,rfl,rfl,rfl,tt_⟩)))
    ·refine Qa hC [.br false,.n 4,.v .no [] (.i .i64 4),.n 2] rfl ⟨⟨tt_,hc18⟩,rfl⟩ ?_
     refine AK.met (AK.rnd ?_)
     obtain⟨x19,hx19,h⟩:=Qb h
     refine Qa hC [.n 2,.v .no [] (.b true),.n 10,.o (.any (.loc 200000 0 8) none),.n 1,.kill 4,.n 2,.sayO 4 (.var [.clo (.func 103) [] [.loc 200002 0 0,.loc 200001 0 0],.i .i64 v8]),.n 6,.cm (.clo) [(200000,200002),(200001,200001)] [(200002,200000),(200001,200001)] [] [.d,.d] [(200000,.var (Qd v3)),(200001,.var (Qt v1))] (.b x19),.n 3] rfl ⟨⟨⟨⟨tt_,rfl⟩,(fun σ h1 h2 _=>Stp.idxV rfl rfl (bleN hC.n rfl) (h1 _ _ rfl) (h1 _ _ rfl) (Qq.es rfl) (h2 _ _ rfl) (by decide))⟩,rfl⟩,(Qnq _ _ hx19)⟩ ?_
     rcases bifE h with⟨hc20,h⟩|⟨hc20,h⟩
     ·refine Qa hC [.br true,.n 13,.keep [2] [200000,200001,200002,200003,200004]] rfl ⟨tt_,hc20⟩ ?_
      cases h
      exact AK.done (ex_ [_] (an_ (an_ rfl tt_) (gives ⟨rfl,rfl,rfl,rfl,rfl,tt_⟩)))
     ·refine Qa hC [.br false,.n 4,.v .no [] (.i .i64 5),.n 2] rfl ⟨⟨tt_,hc20⟩,rfl⟩ ?_
      refine AK.met (AK.rnd ?_)
      refine Qa hC [.n 2,.v .no [] (.b false),.n 15,.keep [2] [200000,200001,200002,200003,200004]] rfl ⟨tt_,rfl⟩ ?_
      cases h
      exact AK.done (ex_ [_] (an_ (an_ rfl tt_) (gives ⟨rfl,rfl,rfl,rfl,rfl,tt_⟩)))
def QgJ (n1:TNet)(k2:Int):Option Int:=
 (Qac n1.Places k2).bind fun x5=>
 bif (!x5)then
 some 3
 else
 (idx n1.Places k2).bind fun e7=>
 (Qez e7 1 n1 k2 5 3 1 8).bind fun x8=>
 some x8
theorem QoL (n1:TNet)(k2:Int){r:Int}(h:QgJ n1 k2=some r):Qc Tryz.prog 55 [.agg (Qd n1),.i .i64 k2] [] (Qh (.i .i64 r) []):=by
 refine Qc.walk 30 Tryz.func55 rfl Tryz.ntmps55 rfl fun C hC=>?_
 unfold QgJ at h
 obtain⟨x5,hx5,h⟩:=Qb h
 refine Qa hC [.n 13,.o (.c false [.d,.d] (.b x5)),.n 3] rfl ⟨tt_,(Qbm _ _ hx5)⟩ ?_
 rcases bifE h with⟨hc6,h⟩|⟨hc6,h⟩
 ·refine Qa hC [.br true,.n 7,.keep [4] []] rfl ⟨tt_,hc6⟩ ?_
  cases h
  exact AK.done (ex_ [_] (an_ (an_ rfl tt_) (gives tt_)))
 ·obtain⟨e7,he7,h⟩:=Qb h
  obtain⟨x8,hx8,h⟩:=Qb h
  refine Qa hC [.br false,.n 7,.o (.row (Qt e7)),.v .no [] (.agg (Qt e7)),.n 2,.sayO 5 (.var (Qt e7)),.n 7,.sayO 6 (.var [.clo (.func 96) [] [.loc 5 0 0]]),.n 5,.v .no [] (.agg [.clo (.func 97) [] [.loc 5 0 0],.i .i64 1]),.n 1,.v .no [] (.agg [.clo (.func 98) [] [.loc 2 0 0,.loc 3 0 0,.loc 6 0 0],.i .i64 5]),.n 1,.v .no [] (.agg [.clo (.func 100) [] [.loc 2 0 0,.loc 5 0 0],.i .i64 3]),.n 1,.v .no [] (.agg [.clo (.func 102) [] [.loc 5 0 0],.i .i64 1]),.n 1,.v .no [] (.agg [.clo (.func 103) [] [.loc 2 0 0,.loc 5 0 0],.i .i64 8]),.o (.any (.own 28 5) (some (.var [.clo (.func 97) [] [.loc 5 0 0],.i .i64 1,.clo (.func 98) [] [.loc 2 0 0,.loc 3 0 0,.loc 6 0 0],.i .i64 5,.clo (.func 100) [] [.loc 2 0 0,.loc 5 0 0],.i .i64 3,.clo (.func 102) [] [.loc 5 0 0],.i .i64 1,.clo (.func 103) [] [.loc 2 0 0,.loc 5 0 0],.i .i64 8]))),.cm (.fn) [(200000,28),(200001,5),(200002,2),(200003,3),(200004,6)] [(28,200000),(5,200001),(2,200002),(3,200003),(6,200004)] [] [.d] [(200000,.var [.clo (.func 97) [] [.loc 200001 0 0],.i .i64 1,.clo (.func 98) [] [.loc 200002 0 0,.loc 200003 0 0,.loc 200004 0 0],.i .i64 5,.clo (.func 100) [] [.loc 200002 0 0,.loc 200001 0 0],.i .i64 3,.clo (.func 102) [] [.loc 200001 0 0],.i .i64 1,.clo (.func 103) [] [.loc 200002 0 0,.loc 200001 0 0],.i .i64 8]),(200001,.var (Qt e7)),(200002,.var (Qd n1)),(200003,.var (Qe k2)),(200004,.var [.clo (.func 96) [] [.loc 200001 0 0]])] (.i .i64 x8),.n 4,.keep [4] []] rfl ⟨⟨⟨⟨⟨⟨⟨⟨⟨⟨⟨⟨tt_,hc6⟩,(idxM he7)⟩,rfl⟩,rfl⟩,rfl⟩,rfl⟩,rfl⟩,rfl⟩,rfl⟩,rfl⟩,(fun σ h1 h2 hf=>Stp.buildAny rfl rfl (bleN hC.n rfl) (Qq.es rfl) QjR rfl (by decide) (by decide) (Qej h1 rfl) rfl rfl (hf rfl))⟩,(QmF _ _ _ _ _ _ _ _ hx8)⟩ ?_
  cases h
  exact AK.done (ex_ [_] (an_ (an_ rfl tt_) (gives tt_)))
def QgK (k1:Int)(p2:QB)(v3:TNet):Option Int:=
 (QgJ v3 k1).bind fun x5=>
 some x5
theorem QoM (k1:Int)(p2:QB)(v3:TNet){r:Int}(h:QgK k1 p2 v3=some r):Qc Tryz.prog 54 [.i .i64 k1,.agg (Qt p2),.loc 200000 0 0] [(200000,.var (Qd v3))] (Qh (.i .i64 r) [(200000,.var (Qd v3))]):=by
 refine Qc.walk 9 Tryz.func54 rfl Tryz.ntmps54 rfl fun C hC=>?_
 unfold QgK at h
 obtain⟨x5,hx5,h⟩:=Qb h
 refine Qa hC [.n 8,.v .no [] (.agg (Qd v3)),.n 1,.o (.c false [.d,.d] (.i .i64 x5)),.n 4,.keep [5] [200000]] rfl ⟨⟨tt_,rfl⟩,(QoL _ _ hx5)⟩ ?_
 cases h
 exact AK.done (ex_ [_] (an_ (an_ rfl tt_) (gives ⟨rfl,tt_⟩)))
def QaV (l1:(List QB))(v2:TNet)(x7:Int):Option (Int⊕((Int×Int)⊕Unit)):=
 bif (decide (x7<(l1.length:Int)))then
 (idx l1 x7).bind fun e12=>
 (QgK x7 e12 v2).bind fun x13=>
 bif (x13 != 0)then
 some (.inr (.inl (x7,x13)))
 else
 some (.inl (w64 (x7+1)))
 else
 some (.inr (.inr ()))
def QbE (x9:Int)(x10:Int):Option (Int×Int):=
 some (x9,x10)
def QbF : Option (Int×Int):=
 some (0,0)
def Qb9 (l1:(List QB))(v2:TNet):Option (Int×Int):=
 (QI (fun st=>QaV l1 v2 st) 0).bind (Sum.elim (fun q=>QbE q.1 q.2) (fun q=>QbF))
theorem Qkm (l1:(List QB))(v2:TNet){r:(Int×Int)}(h:Qb9 l1 v2=some r):Qc Tryz.prog 53 [.sl 3 (l1.map Qt),.clo (.func 54) [] [.loc 200000 0 0]] [(200000,.var (Qd v2))] (Qh (.tup [.i .i64 r.1,.i .i64 r.2]) [(200000,.var (Qd v2))]):=by
 refine Qc.walk 25 Tryz.func53 rfl Tryz.ntmps53 rfl fun C hC=>?_
 unfold Qb9 at h
 refine Qa hC [.n 10,.o (.ln l1.length),.n 4,.keep [1,9,10,11] [200000]] rfl ⟨tt_,Qi⟩ ?_
 obtain⟨o15,hl15,h⟩:=Qb h
 refine AK.loop (body:=(fun st=>QaV l1 v2 st)) (fun st σ=>σ=⟨[(1,.clo (.func 54) [] [.loc 200000 0 0]),(9,.sl 3 (l1.map Qt)),(10,.i .i64 (l1.length:Int)),(11,.i .i64 st)],[(200000,.var (Qd v2))]⟩) (Sum.elim (fun q e σ=>e=.ret∧σ=⟨[(4,.i .i64 q.1),(5,.i .i64 q.2)],[(200000,.var (Qd v2))]⟩) (fun q e σ=>e=.exit 0∧σ=⟨[],[(200000,.var (Qd v2))]⟩)) hl15 rfl ?_ ?_
 ·rintro x7 o σ rfl h
  replace h:QaV l1 v2 x7=some o:=h
  unfold QaV at h
  refine Qa hC [.n 6] rfl tt_ ?_
  rcases bifE h with⟨hc11,h⟩|⟨hc11,h⟩
  ·obtain⟨e12,he12,h⟩:=Qb h
   obtain⟨x13,hx13,h⟩:=Qb h
   refine Qa hC [.br true,.n 7,.o (.row (Qt e12)),.v .no [] (.agg (Qt e12)),.n 3,.sayO 7 (.var (Qt e12)),.n 6,.v .no [] (.agg (Qt e12)),.cm (.clo) [(200000,200000)] [(200000,200000)] [] [.d,.d,.d] [(200000,.var (Qd v2))] (.i .i64 x13),.n 9] rfl ⟨⟨⟨⟨⟨⟨tt_,hc11⟩,(idxM he12)⟩,rfl⟩,rfl⟩,rfl⟩,(QoM _ _ _ hx13)⟩ ?_
   rcases bifE h with⟨hc14,h⟩|⟨hc14,h⟩
   ·refine Qa hC [.br true,.n 11,.keep [4,5] [200000]] rfl ⟨tt_,hc14⟩ ?_
    cases h
    exact rndR rfl (an_ rfl rfl)
   ·refine Qa hC [.br false,.n 7,.keep [1,9,10,11] [200000]] rfl ⟨tt_,hc14⟩ ?_
    cases h
    exact rndN rfl rfl
  ·refine Qa hC [.br false,.n 2,.keep [] [200000]] rfl ⟨tt_,hc11⟩ ?_
   cases h
   exact rndX rfl (an_ rfl rfl)
 ·rcases o15 with(⟨x9,x10⟩|_)
  ·replace h:QbE x9 x10=some r:=h
   unfold QbE at h
   rintro e σ ⟨rfl,rfl⟩
   refine Qa hC [.n 2,.keep [4,5] [200000]] rfl tt_ ?_
   cases h
   exact AK.done (ex_ [_,_] (an_ (an_ rfl (an_ rfl tt_)) (gives ⟨rfl,tt_⟩)))
  ·replace h:QbF=some r:=h
   unfold QbF at h
   rintro e σ ⟨rfl,rfl⟩
   refine Qa hC [.n 9,.keep [4,5] [200000]] rfl tt_ ?_
   cases h
   exact AK.done (ex_ [_,_] (an_ (an_ rfl (an_ rfl tt_)) (gives ⟨rfl,tt_⟩)))
def Qbt (l1:(List Qs))(k2:Int):Option Bool:=
 some ((decide (0≤k2))&&(decide (k2<(l1.length:Int))))
theorem Qhg (l1:(List Qs))(k2:Int){r:Bool}(h:Qbt l1 k2=some r):Qc Tryz.prog 61 [.sl 14 (l1.map Qg),.i .i64 k2] [] (Qh (.b r) []):=by
 refine Qc.walk 13 Tryz.func61 rfl Tryz.ntmps61 rfl fun C hC=>?_
 unfold Qbt at h
 refine Qa hC [.n 6] rfl tt_ ?_
 refine AK.meetX (fun σ=>σ=⟨[(4,.b ((decide (0≤k2))&&(decide (k2<(l1.length:Int)))))],[]⟩) ?_ ?_
 ·refine Qa hC [.n 4] rfl tt_ ?_
  rcases QN (decide (0≤k2))with hc5 | hc5
  ·refine Qa hC [.say 7 (.b true),.n 2,.o (.ln l1.length),.n 4,.say 4 (.b ((decide (0≤k2))&&(decide (k2<(l1.length:Int))))),.keep [4] []] rfl ⟨⟨⟨tt_,(congrArg V.b hc5)⟩,Qi⟩,(congrArg V.b (andT hc5 rfl))⟩ ?_
   exact AK.met rfl
  ·refine Qa hC [.say 7 (.b false),.n 7,.say 4 (.b ((decide (0≤k2))&&(decide (k2<(l1.length:Int))))),.keep [4] []] rfl ⟨⟨tt_,(congrArg V.b hc5)⟩,(congrArg V.b (andF hc5 rfl))⟩ ?_
   exact AK.met rfl
 ·rintro σ rfl
  refine Qa hC [.n 2,.keep [4] []] rfl tt_ ?_
  cases h
  exact AK.done (ex_ [_] (an_ (an_ rfl tt_) (gives tt_)))
def QgL (v1:Int)(v2:TNet)(v3:Qs):Option Unit:=
 some ()
theorem QoN (v1:Int)(v2:TNet)(v3:Qs){r:Unit}(h:QgL v1 v2 v3=some r):Qc Tryz.prog 111 [.loc 200000 0 0,.clo (.func 112) [] [.loc 200001 0 0,.loc 200002 0 0]] [(200000,.var (Qe v1)),(200001,.var (Qd v2)),(200002,.var (Qg v3))] (Qh (.clo (.func 150) [] [.loc 3 0 0,.loc 2 0 0]) [(2,.var [.loc 200000 0 0]),(3,.var [.clo (.func 112) [] [.loc 200001 0 0,.loc 200002 0 0]]),(200000,.var (Qe v1)),(200001,.var (Qd v2)),(200002,.var (Qg v3))]):=by
 refine Qc.walk 6 Tryz.func111 rfl Tryz.ntmps111 rfl fun C hC=>?_
 unfold QgL at h
 refine Qa hC [.n 14,.keep [4] [2,3,200000,200001,200002]] rfl tt_ ?_
 cases h
 exact AK.done (ex_ [_] (an_ (an_ rfl tt_) (gives ⟨rfl,rfl,rfl,rfl,rfl,tt_⟩)))
def QeA (v1:Int)(v2:TNet)(v3:Qs)(v4:Int):Option Unit:=
 some ()
theorem QmG (v1:Int)(v2:TNet)(v3:Qs)(v4:Int){r:Unit}(h:QeA v1 v2 v3 v4=some r):Qc Tryz.prog 111 [.loc 200000 0 0,.clo (.func 117) [] [.loc 200001 0 0,.loc 200002 0 0,.loc 200003 0 0]] [(200000,.var (Qe v1)),(200001,.var (Qd v2)),(200002,.var (Qg v3)),(200003,.var (Qe v4))] (Qh (.clo (.func 150) [] [.loc 3 0 0,.loc 2 0 0]) [(2,.var [.loc 200000 0 0]),(3,.var [.clo (.func 117) [] [.loc 200001 0 0,.loc 200002 0 0,.loc 200003 0 0]]),(200000,.var (Qe v1)),(200001,.var (Qd v2)),(200002,.var (Qg v3)),(200003,.var (Qe v4))]):=by
 refine Qc.walk 6 Tryz.func111 rfl Tryz.ntmps111 rfl fun C hC=>?_
 unfold QeA at h
 refine Qa hC [.n 14,.keep [4] [2,3,200000,200001,200002,200003]] rfl tt_ ?_
 cases h
 exact AK.done (ex_ [_] (an_ (an_ rfl tt_) (gives ⟨rfl,rfl,rfl,rfl,rfl,rfl,tt_⟩)))
def QeB (v1:Int)(v2:TNet)(v3:Qs)(v4:Int):Option Unit:=
 some ()
theorem QmH (v1:Int)(v2:TNet)(v3:Qs)(v4:Int){r:Unit}(h:QeB v1 v2 v3 v4=some r):Qc Tryz.prog 111 [.loc 200000 0 0,.clo (.func 119) [] [.loc 200001 0 0,.loc 200002 0 0,.loc 200003 0 0]] [(200000,.var (Qe v1)),(200001,.var (Qd v2)),(200002,.var (Qg v3)),(200003,.var (Qe v4))] (Qh (.clo (.func 150) [] [.loc 3 0 0,.loc 2 0 0]) [(2,.var [.loc 200000 0 0]),(3,.var [.clo (.func 119) [] [.loc 200001 0 0,.loc 200002 0 0,.loc 200003 0 0]]),(200000,.var (Qe v1)),(200001,.var (Qd v2)),(200002,.var (Qg v3)),(200003,.var (Qe v4))]):=by
 refine Qc.walk 6 Tryz.func111 rfl Tryz.ntmps111 rfl fun C hC=>?_
 unfold QeB at h
 refine Qa hC [.n 14,.keep [4] [2,3,200000,200001,200002,200003]] rfl tt_ ?_
 cases h
 exact AK.done (ex_ [_] (an_ (an_ rfl tt_) (gives ⟨rfl,rfl,rfl,rfl,rfl,rfl,tt_⟩)))
def QeC (v1:Int)(v2:TNet)(v3:Qs):Option Unit:=
 some ()
theorem QmI (v1:Int)(v2:TNet)(v3:Qs){r:Unit}(h:QeC v1 v2 v3=some r):Qc Tryz.prog 111 [.loc 200000 0 0,.clo (.func 120) [] [.loc 200001 0 0,.loc 200002 0 0]] [(200000,.var (Qe v1)),(200001,.var (Qd v2)),(200002,.var (Qg v3))] (Qh (.clo (.func 150) [] [.loc 3 0 0,.loc 2 0 0]) [(2,.var [.loc 200000 0 0]),(3,.var [.clo (.func 120) [] [.loc 200001 0 0,.loc 200002 0 0]]),(200000,.var (Qe v1)),(200001,.var (Qd v2)),(200002,.var (Qg v3))]):=by
 refine Qc.walk 6 Tryz.func111 rfl Tryz.ntmps111 rfl fun C hC=>?_
 unfold QeC at h
 refine Qa hC [.n 14,.keep [4] [2,3,200000,200001,200002]] rfl tt_ ?_
 cases h
 exact AK.done (ex_ [_] (an_ (an_ rfl tt_) (gives ⟨rfl,rfl,rfl,rfl,rfl,tt_⟩)))
def Qf1 (v1:Qs):Option Bool:=
 (QcB v1.Name).bind fun x3=>
 some x3
theorem Qn4 (v1:Qs){r:Bool}(h:Qf1 v1=some r):Qc Tryz.prog 107 [.loc 200000 0 0] [(200000,.var (Qg v1))] (Qh (.b r) [(200000,.var (Qg v1))]):=by
 refine Qc.walk 5 Tryz.func107 rfl Tryz.ntmps107 rfl fun C hC=>?_
 unfold Qf1 at h
 obtain⟨x3,hx3,h⟩:=Qb h
 refine Qa hC [.n 9,.o (.c false [.d] (.b x3)),.n 4,.keep [1] [200000]] rfl ⟨tt_,(Qff _ hx3)⟩ ?_
 cases h
 exact AK.done (ex_ [_] (an_ (an_ rfl tt_) (gives ⟨rfl,tt_⟩)))
def Qf2 (p1:Qs)(v2:Qs):Option Bool:=
 some (Qgn p1.Name v2.Name)
theorem Qn5 (p1:Qs)(v2:Qs){r:Bool}(h:Qf2 p1 v2=some r):Qc Tryz.prog 106 [.agg (Qg p1),.loc 200000 0 0] [(200000,.var (Qg v2))] (Qh (.b r) [(200000,.var (Qg v2))]):=by
 refine Qc.walk 9 Tryz.func106 rfl Tryz.ntmps106 rfl fun C hC=>?_
 unfold Qf2 at h
 refine Qa hC [.n 17,.keep [3] [200000]] rfl tt_ ?_
 cases h
 exact AK.done (ex_ [_] (an_ (an_ rfl tt_) (gives ⟨rfl,tt_⟩)))
def QT (s1:(List Qs))(v2:Qs)(x5:Int):Option (Int⊕(Int⊕Unit)):=
 bif (decide (x5<(s1.length:Int)))then
 (idx s1 x5).bind fun e9=>
 (Qf2 e9 v2).bind fun x10=>
 bif x10 then
 some (.inr (.inl x5))
 else
 some (.inl (w64 (x5+1)))
 else
 some (.inr (.inr ()))
def Q7 (x7:Int):Option Int:=
 some x7
def Q8 : Option Int:=
 some (-1)
def Qan (s1:(List Qs))(v2:Qs):Option Int:=
 (QI (fun st=>QT s1 v2 st) 0).bind (Sum.elim (fun q=>Q7 q) (fun q=>Q8))
theorem QgM (s1:(List Qs))(v2:Qs){r:Int}(h:Qan s1 v2=some r):Qc Tryz.prog 149 [.sl 14 (s1.map Qg),.clo (.func 106) [] [.loc 200000 0 0]] [(200000,.var (Qg v2))] (Qh (.i .i64 r) [(200000,.var (Qg v2))]):=by
 refine Qc.walk 19 Tryz.func149 rfl Tryz.ntmps149 rfl fun C hC=>?_
 unfold Qan at h
 refine Qa hC [.n 9,.o (.ln s1.length),.n 4,.keep [0,1,7,8] [200000]] rfl ⟨tt_,Qi⟩ ?_
 obtain⟨o12,hl12,h⟩:=Qb h
 refine AK.loop (body:=(fun st=>QT s1 v2 st)) (fun st σ=>σ=⟨[(0,.sl 14 (s1.map Qg)),(1,.clo (.func 106) [] [.loc 200000 0 0]),(7,.i .i64 (s1.length:Int)),(8,.i .i64 st)],[(200000,.var (Qg v2))]⟩) (Sum.elim (fun q e σ=>e=.ret∧σ=⟨[(4,.i .i64 q)],[(200000,.var (Qg v2))]⟩) (fun q e σ=>e=.exit 0∧σ=⟨[],[(200000,.var (Qg v2))]⟩)) hl12 rfl ?_ ?_
 ·rintro x5 o σ rfl h
  replace h:QT s1 v2 x5=some o:=h
  unfold QT at h
  refine Qa hC [.n 6] rfl tt_ ?_
  rcases bifE h with⟨hc8,h⟩|⟨hc8,h⟩
  ·obtain⟨e9,he9,h⟩:=Qb h
   obtain⟨x10,hx10,h⟩:=Qb h
   refine Qa hC [.br true,.n 15,.o (.row (Qg e9)),.v .no [] (.agg (Qg e9)),.cm (.clo) [(200000,200000)] [(200000,200000)] [] [.d,.d] [(200000,.var (Qg v2))] (.b x10),.n 2] rfl ⟨⟨⟨⟨tt_,hc8⟩,(idxM he9)⟩,rfl⟩,(Qn5 _ _ hx10)⟩ ?_
   rcases bifE h with⟨hc11,h⟩|⟨hc11,h⟩
   ·refine Qa hC [.br true,.n 9,.keep [4] [200000]] rfl ⟨tt_,hc11⟩ ?_
    cases h
    exact rndR rfl (an_ rfl rfl)
   ·refine Qa hC [.br false,.n 7,.keep [0,1,7,8] [200000]] rfl ⟨tt_,hc11⟩ ?_
    cases h
    exact rndN rfl rfl
  ·refine Qa hC [.br false,.n 2,.keep [] [200000]] rfl ⟨tt_,hc8⟩ ?_
   cases h
   exact rndX rfl (an_ rfl rfl)
 ·rcases o12 with(x7 | _)
  ·replace h:Q7 x7=some r:=h
   unfold Q7 at h
   rintro e σ ⟨rfl,rfl⟩
   refine Qa hC [.n 2,.keep [4] [200000]] rfl tt_ ?_
   cases h
   exact AK.done (ex_ [_] (an_ (an_ rfl tt_) (gives ⟨rfl,tt_⟩)))
  ·replace h:Q8=some r:=h
   unfold Q8 at h
   rintro e σ ⟨rfl,rfl⟩
   refine Qa hC [.n 8,.keep [4] [200000]] rfl tt_ ?_
   cases h
   exact AK.done (ex_ [_] (an_ (an_ rfl tt_) (gives ⟨rfl,tt_⟩)))
def Q9 (s1:(List Qs))(v2:Qs):Option Bool:=
 (Qan s1 v2).bind fun x4=>
 some (decide (0≤x4))
theorem Qf3 (s1:(List Qs))(v2:Qs){r:Bool}(h:Q9 s1 v2=some r):Qc Tryz.prog 109 [.sl 14 (s1.map Qg),.clo (.func 106) [] [.loc 200000 0 0]] [(200000,.var (Qg v2))] (Qh (.b r) [(200000,.var (Qg v2))]):=by
 refine Qc.walk 9 Tryz.func109 rfl Tryz.ntmps109 rfl fun C hC=>?_
 unfold Q9 at h
 obtain⟨x4,hx4,h⟩:=Qb h
 refine Qa hC [.n 9,.cm (.fn) [(200000,200000)] [(200000,200000)] [] [.d,.d] [(200000,.var (Qg v2))] (.i .i64 x4),.n 5,.keep [4] [200000]] rfl ⟨tt_,(QgM _ _ hx4)⟩ ?_
 cases h
 exact AK.done (ex_ [_] (an_ (an_ rfl tt_) (gives ⟨rfl,tt_⟩)))
def Qf4 (v1:TNet)(v2:Int)(v3:Qs):Option Bool:=
 (chk (decide (0≤v2)&&decide (0≤v2.toNat)&&decide (v2.toNat≤v1.Tasks.length))).bind fun _=>
 (Q9 ((v1.Tasks.drop 0).take (v2.toNat-0)) v3).bind fun x6=>
 some (!x6)
theorem Qn6 (v1:TNet)(v2:Int)(v3:Qs){r:Bool}(h:Qf4 v1 v2 v3=some r):Qc Tryz.prog 108 [.loc 200000 0 0,.loc 200001 0 0,.loc 200002 0 0] [(200000,.var (Qd v1)),(200001,.var (Qe v2)),(200002,.var [.clo (.func 106) [] [.loc 200003 0 0]]),(200003,.var (Qg v3))] (Qh (.b r) [(200000,.var (Qd v1)),(200001,.var (Qe v2)),(200002,.var [.clo (.func 106) [] [.loc 200003 0 0]]),(200003,.var (Qg v3))]):=by
 refine Qc.walk 11 Tryz.func108 rfl Tryz.ntmps108 rfl fun C hC=>?_
 unfold Qf4 at h
 obtain⟨_,hk5,h⟩:=Qb h
 replace hk5:=chkE hk5
 obtain⟨x6,hx6,h⟩:=Qb h
 refine Qa hC [.n 6,.keep [0,1,2,3] [200000,200001,200002,200003]] rfl tt_ ?_
 refine AK.draw2 Qq hC mixed [.a .no none false,.a .no none false,.a .no none false,.a (.any (.sl 14 (((v1.Tasks.drop 0).take (v2.toNat-0)).map Qg)) none) none false,.a .no none false,.a (.any (.b x6) none) none false,.a .no none false,.m .s] [] [] [3] [200000,200001,200002,200003] rfl rfl rfl ⟨⟨tt_,(fun σ h1 h2 _=>Stp.sliceD rfl rfl (bleN hC.n rfl) (h1 _ _ rfl) (Qq.es rfl) Bnd.no (Bnd.val (h1 _ _ rfl) (of_decide_eq_true (Qm8 hk5)) rfl) (of_decide_eq_true (Qm9 hk5)) (Nat.le_trans (of_decide_eq_true (Qna hk5)) (Nat.le_of_eq Qi.symm)) Qpi)⟩,(fun σ h1 h2 _=>Stp.callSame (md:=.cm (.fn) [(200000,200003)] [(200003,200000)] [] [.d,.d] [(200000,.var (Qg v3))] (.b x6) [200003]) Qq hC h1 h2 rfl ⟨⟨tt_,(Qf3 _ _ hx6)⟩,⟨rfl,tt_⟩⟩)⟩ rfl (by kernel_rfl) rfl rfl rfl ?_
 refine Qa hC [.n 2,.keep [3] [200000,200001,200002,200003]] rfl tt_ ?_
 cases h
 exact AK.done (ex_ [_] (an_ (an_ rfl tt_) (gives ⟨rfl,rfl,rfl,rfl,tt_⟩)))
def Qeg (v1:Int)(v2:Qs):Option Bool:=
 some ((decide (v1≤16))&&(decide ((max2 (max2 (v2.Ins.length:Int) (v2.Outs.length:Int)) (v2.Cancel.length:Int))≤16)))
theorem Qn7 (v1:Int)(v2:Qs){r:Bool}(h:Qeg v1 v2=some r):Qc Tryz.prog 110 [.loc 200000 0 0,.loc 200001 0 0] [(200000,.var (Qe v1)),(200001,.var (Qg v2))] (Qh (.b r) [(200000,.var (Qe v1)),(200001,.var (Qg v2))]):=by
 refine Qc.walk 18 Tryz.func110 rfl Tryz.ntmps110 rfl fun C hC=>?_
 unfold Qeg at h
 refine Qa hC [.n 6] rfl tt_ ?_
 refine AK.meetX (fun σ=>σ=⟨[(2,.b ((decide (v1≤16))&&(decide ((max2 (max2 (v2.Ins.length:Int) (v2.Outs.length:Int)) (v2.Cancel.length:Int))≤16))))],[(200000,.var (Qe v1)),(200001,.var (Qg v2))]⟩) ?_ ?_
 ·refine Qa hC [.n 4] rfl tt_ ?_
  rcases QN (decide (v1≤16))with hc5 | hc5
  ·refine Qa hC [.say 5 (.b true),.n 2,.o (.ln v2.Ins.length),.n 2,.o (.ln v2.Outs.length),.n 2,.o (.ln v2.Cancel.length),.o (.any (.i .i64 (max2 (max2 (v2.Ins.length:Int) (v2.Outs.length:Int)) (v2.Cancel.length:Int))) none),.n 4,.say 2 (.b ((decide (v1≤16))&&(decide ((max2 (max2 (v2.Ins.length:Int) (v2.Outs.length:Int)) (v2.Cancel.length:Int))≤16)))),.keep [2] [200000,200001]] rfl ⟨⟨⟨⟨⟨⟨tt_,(congrArg V.b hc5)⟩,Qi⟩,Qi⟩,Qi⟩,(fun σ h1 h2 _=>Stp.max3 rfl rfl (bleN hC.n rfl) (h1 _ _ rfl) (h1 _ _ rfl) (h1 _ _ rfl))⟩,(congrArg V.b (andT hc5 rfl))⟩ ?_
   exact AK.met rfl
  ·refine Qa hC [.say 5 (.b false),.n 14,.say 2 (.b ((decide (v1≤16))&&(decide ((max2 (max2 (v2.Ins.length:Int) (v2.Outs.length:Int)) (v2.Cancel.length:Int))≤16)))),.keep [2] [200000,200001]] rfl ⟨⟨tt_,(congrArg V.b hc5)⟩,(congrArg V.b (andF hc5 rfl))⟩ ?_
   exact AK.met rfl
 ·rintro σ rfl
  refine Qa hC [.n 2,.keep [2] [200000,200001]] rfl tt_ ?_
  cases h
  exact AK.done (ex_ [_] (an_ (an_ rfl tt_) (gives ⟨rfl,rfl,tt_⟩)))
def Qcl (v1:TVar):Option Bool:=
 (QcB v1.Name).bind fun x3=>
 some x3
theorem QkS (v1:TVar){r:Bool}(h:Qcl v1=some r):Qc Tryz.prog 154 [.loc 200000 0 0] [(200000,.var (QA v1))] (Qh (.b r) [(200000,.var (QA v1))]):=by
 refine Qc.walk 5 Tryz.func154 rfl Tryz.ntmps154 rfl fun C hC=>?_
 unfold Qcl at h
 obtain⟨x3,hx3,h⟩:=Qb h
 refine Qa hC [.n 9,.o (.c false [.d] (.b x3)),.n 4,.keep [1] [200000]] rfl ⟨tt_,(Qff _ hx3)⟩ ?_
 cases h
 exact AK.done (ex_ [_] (an_ (an_ rfl tt_) (gives ⟨rfl,tt_⟩)))
def Qcm (p1:TVar)(v2:TVar):Option Bool:=
 some (Qgn p1.Name v2.Name)
theorem QkT (p1:TVar)(v2:TVar){r:Bool}(h:Qcm p1 v2=some r):Qc Tryz.prog 153 [.agg (QA p1),.loc 200000 0 0] [(200000,.var (QA v2))] (Qh (.b r) [(200000,.var (QA v2))]):=by
 refine Qc.walk 9 Tryz.func153 rfl Tryz.ntmps153 rfl fun C hC=>?_
 unfold Qcm at h
 refine Qa hC [.n 17,.keep [3] [200000]] rfl tt_ ?_
 cases h
 exact AK.done (ex_ [_] (an_ (an_ rfl tt_) (gives ⟨rfl,tt_⟩)))
def QV (s1:(List TVar))(v2:TVar)(x5:Int):Option (Int⊕(Int⊕Unit)):=
 bif (decide (x5<(s1.length:Int)))then
 (idx s1 x5).bind fun e9=>
 (Qcm e9 v2).bind fun x10=>
 bif x10 then
 some (.inr (.inl x5))
 else
 some (.inl (w64 (x5+1)))
 else
 some (.inr (.inr ()))
def Qaf (x7:Int):Option Int:=
 some x7
def Qag : Option Int:=
 some (-1)
def Qay (s1:(List TVar))(v2:TVar):Option Int:=
 (QI (fun st=>QV s1 v2 st) 0).bind (Sum.elim (fun q=>Qaf q) (fun q=>Qag))
theorem Qhi (s1:(List TVar))(v2:TVar){r:Int}(h:Qay s1 v2=some r):Qc Tryz.prog 197 [.sl 2 (s1.map QA),.clo (.func 153) [] [.loc 200000 0 0]] [(200000,.var (QA v2))] (Qh (.i .i64 r) [(200000,.var (QA v2))]):=by
 refine Qc.walk 19 Tryz.func197 rfl Tryz.ntmps197 rfl fun C hC=>?_
 unfold Qay at h
 refine Qa hC [.n 9,.o (.ln s1.length),.n 4,.keep [0,1,7,8] [200000]] rfl ⟨tt_,Qi⟩ ?_
 obtain⟨o12,hl12,h⟩:=Qb h
 refine AK.loop (body:=(fun st=>QV s1 v2 st)) (fun st σ=>σ=⟨[(0,.sl 2 (s1.map QA)),(1,.clo (.func 153) [] [.loc 200000 0 0]),(7,.i .i64 (s1.length:Int)),(8,.i .i64 st)],[(200000,.var (QA v2))]⟩) (Sum.elim (fun q e σ=>e=.ret∧σ=⟨[(4,.i .i64 q)],[(200000,.var (QA v2))]⟩) (fun q e σ=>e=.exit 0∧σ=⟨[],[(200000,.var (QA v2))]⟩)) hl12 rfl ?_ ?_
 ·rintro x5 o σ rfl h
  replace h:QV s1 v2 x5=some o:=h
  unfold QV at h
  refine Qa hC [.n 6] rfl tt_ ?_
  rcases bifE h with⟨hc8,h⟩|⟨hc8,h⟩
  ·obtain⟨e9,he9,h⟩:=Qb h
   obtain⟨x10,hx10,h⟩:=Qb h
   refine Qa hC [.br true,.n 15,.o (.row (QA e9)),.v .no [] (.agg (QA e9)),.cm (.clo) [(200000,200000)] [(200000,200000)] [] [.d,.d] [(200000,.var (QA v2))] (.b x10),.n 2] rfl ⟨⟨⟨⟨tt_,hc8⟩,(idxM he9)⟩,rfl⟩,(QkT _ _ hx10)⟩ ?_
   rcases bifE h with⟨hc11,h⟩|⟨hc11,h⟩
   ·refine Qa hC [.br true,.n 9,.keep [4] [200000]] rfl ⟨tt_,hc11⟩ ?_
    cases h
    exact rndR rfl (an_ rfl rfl)
   ·refine Qa hC [.br false,.n 7,.keep [0,1,7,8] [200000]] rfl ⟨tt_,hc11⟩ ?_
    cases h
    exact rndN rfl rfl
  ·refine Qa hC [.br false,.n 2,.keep [] [200000]] rfl ⟨tt_,hc8⟩ ?_
   cases h
   exact rndX rfl (an_ rfl rfl)
 ·rcases o12 with(x7 | _)
  ·replace h:Qaf x7=some r:=h
   unfold Qaf at h
   rintro e σ ⟨rfl,rfl⟩
   refine Qa hC [.n 2,.keep [4] [200000]] rfl tt_ ?_
   cases h
   exact AK.done (ex_ [_] (an_ (an_ rfl tt_) (gives ⟨rfl,tt_⟩)))
  ·replace h:Qag=some r:=h
   unfold Qag at h
   rintro e σ ⟨rfl,rfl⟩
   refine Qa hC [.n 8,.keep [4] [200000]] rfl tt_ ?_
   cases h
   exact AK.done (ex_ [_] (an_ (an_ rfl tt_) (gives ⟨rfl,tt_⟩)))
def Qah (s1:(List TVar))(v2:TVar):Option Bool:=
 (Qay s1 v2).bind fun x4=>
 some (decide (0≤x4))
theorem Qgy (s1:(List TVar))(v2:TVar){r:Bool}(h:Qah s1 v2=some r):Qc Tryz.prog 156 [.sl 2 (s1.map QA),.clo (.func 153) [] [.loc 200000 0 0]] [(200000,.var (QA v2))] (Qh (.b r) [(200000,.var (QA v2))]):=by
 refine Qc.walk 9 Tryz.func156 rfl Tryz.ntmps156 rfl fun C hC=>?_
 unfold Qah at h
 obtain⟨x4,hx4,h⟩:=Qb h
 refine Qa hC [.n 9,.cm (.fn) [(200000,200000)] [(200000,200000)] [] [.d,.d] [(200000,.var (QA v2))] (.i .i64 x4),.n 5,.keep [4] [200000]] rfl ⟨tt_,(Qhi _ _ hx4)⟩ ?_
 cases h
 exact AK.done (ex_ [_] (an_ (an_ rfl tt_) (gives ⟨rfl,tt_⟩)))
def Qcn (v1:(List TVar))(v2:Int)(v3:TVar):Option Bool:=
 (chk (decide (0≤v2)&&decide (0≤v2.toNat)&&decide (v2.toNat≤v1.length))).bind fun _=>
 (Qah ((v1.drop 0).take (v2.toNat-0)) v3).bind fun x6=>
 some (!x6)
theorem QkU (v1:(List TVar))(v2:Int)(v3:TVar){r:Bool}(h:Qcn v1 v2 v3=some r):Qc Tryz.prog 155 [.loc 200000 0 0,.loc 200001 0 0,.loc 200002 0 0] [(200000,.var (Qbu v1)),(200001,.var (Qe v2)),(200002,.var [.clo (.func 153) [] [.loc 200003 0 0]]),(200003,.var (QA v3))] (Qh (.b r) [(200000,.var (Qbu v1)),(200001,.var (Qe v2)),(200002,.var [.clo (.func 153) [] [.loc 200003 0 0]]),(200003,.var (QA v3))]):=by
 refine Qc.walk 10 Tryz.func155 rfl Tryz.ntmps155 rfl fun C hC=>?_
 unfold Qcn at h
 obtain⟨_,hk5,h⟩:=Qb h
 replace hk5:=chkE hk5
 obtain⟨x6,hx6,h⟩:=Qb h
 refine Qa hC [.n 6,.keep [0,1,2,3] [200000,200001,200002,200003]] rfl tt_ ?_
 refine AK.draw2 Qq hC mixed [.a .no none false,.a .no none false,.a (.any (.sl 2 (((v1.drop 0).take (v2.toNat-0)).map QA)) none) none false,.a .no none false,.a (.any (.b x6) none) none false,.a .no none false,.m .s] [] [] [3] [200000,200001,200002,200003] rfl rfl rfl ⟨⟨tt_,(fun σ h1 h2 _=>Stp.sliceD rfl rfl (bleN hC.n rfl) (h1 _ _ rfl) (Qq.es rfl) Bnd.no (Bnd.val (h1 _ _ rfl) (of_decide_eq_true (Qm8 hk5)) rfl) (of_decide_eq_true (Qm9 hk5)) (Nat.le_trans (of_decide_eq_true (Qna hk5)) (Nat.le_of_eq Qi.symm)) Qpi)⟩,(fun σ h1 h2 _=>Stp.callSame (md:=.cm (.fn) [(200000,200003)] [(200003,200000)] [] [.d,.d] [(200000,.var (QA v3))] (.b x6) [200003]) Qq hC h1 h2 rfl ⟨⟨tt_,(Qgy _ _ hx6)⟩,⟨rfl,tt_⟩⟩)⟩ rfl (by kernel_rfl) rfl rfl rfl ?_
 refine Qa hC [.n 2,.keep [3] [200000,200001,200002,200003]] rfl tt_ ?_
 cases h
 exact AK.done (ex_ [_] (an_ (an_ rfl tt_) (gives ⟨rfl,rfl,rfl,rfl,tt_⟩)))
def Qco (v1:TNet)(v2:TVar):Option Bool:=
 (Qa8 v1.Colours v2.Colour).bind fun x4=>
 some x4
theorem QkV (v1:TNet)(v2:TVar){r:Bool}(h:Qco v1 v2=some r):Qc Tryz.prog 157 [.loc 200000 0 0,.loc 200001 0 0] [(200000,.var (Qd v1)),(200001,.var (QA v2))] (Qh (.b r) [(200000,.var (Qd v1)),(200001,.var (QA v2))]):=by
 refine Qc.walk 8 Tryz.func157 rfl Tryz.ntmps157 rfl fun C hC=>?_
 unfold Qco at h
 obtain⟨x4,hx4,h⟩:=Qb h
 refine Qa hC [.n 11,.o (.c false [.d,.d] (.b x4)),.n 4,.keep [2] [200000,200001]] rfl ⟨tt_,(Qgl _ _ hx4)⟩ ?_
 cases h
 exact AK.done (ex_ [_] (an_ (an_ rfl tt_) (gives ⟨rfl,rfl,tt_⟩)))
def QeD (v1:TVar)(v2:Int)(v3:(List TVar))(v4:Int)(v5:Int)(v6:TNet)(v7:Int):Option Int:=
 (Qcl v1).bind fun x10=>
 bif (!x10)then
 some v2
 else
 (Qcn v3 v4 v1).bind fun x12=>
 bif (!x12)then
 some v5
 else
 (Qco v6 v1).bind fun x14=>
 bif (!x14)then
 some v7
 else
 some 0
theorem QmJ (v1:TVar)(v2:Int)(v3:(List TVar))(v4:Int)(v5:Int)(v6:TNet)(v7:Int){r:Int}(h:QeD v1 v2 v3 v4 v5 v6 v7=some r):Qc Tryz.prog 47 [.own 200000 3] [(200000,.var [.clo (.func 154) [] [.loc 200001 0 0],.i .i64 v2,.clo (.func 155) [] [.loc 200002 0 0,.loc 200003 0 0,.loc 200004 0 0],.i .i64 v5,.clo (.func 157) [] [.loc 200005 0 0,.loc 200001 0 0],.i .i64 v7]),(200001,.var (QA v1)),(200002,.var (Qbu v3)),(200003,.var (Qe v4)),(200004,.var [.clo (.func 153) [] [.loc 200001 0 0]]),(200005,.var (Qd v6))] (Qh (.i .i64 r) [(200000,.var [.clo (.func 154) [] [.loc 200001 0 0],.i .i64 v2,.clo (.func 155) [] [.loc 200002 0 0,.loc 200003 0 0,.loc 200004 0 0],.i .i64 v5,.clo (.func 157) [] [.loc 200005 0 0,.loc 200001 0 0],.i .i64 v7]),(200001,.var (QA v1)),(200002,.var (Qbu v3)),(200003,.var (Qe v4)),(200004,.var [.clo (.func 153) [] [.loc 200001 0 0]]),(200005,.var (Qd v6))]):=by
 refine Qc.walk 18 Tryz.func47 rfl Tryz.ntmps47 rfl fun C hC=>?_
 unfold QeD at h
 refine Qa hC [.n 14] rfl tt_ ?_
 refine AK.loopN 4 (AK.rnd ?_)
 obtain⟨x10,hx10,h⟩:=Qb h
 refine Qa hC [.n 2,.v .no [] (.b true),.n 10,.o (.any (.loc 200000 0 0) none),.n 3,.sayO 4 (.var [.clo (.func 154) [] [.loc 200001 0 0],.i .i64 v2]),.n 6,.cm (.clo) [(200000,200001)] [(200001,200000)] [] [.d] [(200000,.var (QA v1))] (.b x10),.n 3] rfl ⟨⟨⟨⟨tt_,rfl⟩,(fun σ h1 h2 _=>Stp.idxV rfl rfl (bleN hC.n rfl) (h1 _ _ rfl) (h1 _ _ rfl) (Qq.es rfl) (h2 _ _ rfl) (by decide))⟩,rfl⟩,(QkS _ hx10)⟩ ?_
 rcases bifE h with⟨hc11,h⟩|⟨hc11,h⟩
 ·refine Qa hC [.br true,.n 13,.keep [2] [200000,200001,200002,200003,200004,200005]] rfl ⟨tt_,hc11⟩ ?_
  cases h
  exact AK.done (ex_ [_] (an_ (an_ rfl tt_) (gives ⟨rfl,rfl,rfl,rfl,rfl,rfl,tt_⟩)))
 ·refine Qa hC [.br false,.n 4,.v .no [] (.i .i64 1),.n 2] rfl ⟨⟨tt_,hc11⟩,rfl⟩ ?_
  refine AK.met (AK.rnd ?_)
  obtain⟨x12,hx12,h⟩:=Qb h
  refine Qa hC [.n 2,.v .no [] (.b true),.n 10,.o (.any (.loc 200000 0 2) none),.n 1,.kill 4,.n 2,.sayO 4 (.var [.clo (.func 155) [] [.loc 200002 0 0,.loc 200003 0 0,.loc 200004 0 0],.i .i64 v5]),.n 6,.cm (.clo) [(200000,200002),(200001,200003),(200002,200004),(200003,200001)] [(200002,200000),(200003,200001),(200004,200002),(200001,200003)] [] [.d,.d,.d] [(200000,.var (Qbu v3)),(200001,.var (Qe v4)),(200002,.var [.clo (.func 153) [] [.loc 200003 0 0]]),(200003,.var (QA v1))] (.b x12),.n 3] rfl ⟨⟨⟨⟨tt_,rfl⟩,(fun σ h1 h2 _=>Stp.idxV rfl rfl (bleN hC.n rfl) (h1 _ _ rfl) (h1 _ _ rfl) (Qq.es rfl) (h2 _ _ rfl) (by decide))⟩,rfl⟩,(QkU _ _ _ hx12)⟩ ?_
  rcases bifE h with⟨hc13,h⟩|⟨hc13,h⟩
  ·refine Qa hC [.br true,.n 13,.keep [2] [200000,200001,200002,200003,200004,200005]] rfl ⟨tt_,hc13⟩ ?_
   cases h
   exact AK.done (ex_ [_] (an_ (an_ rfl tt_) (gives ⟨rfl,rfl,rfl,rfl,rfl,rfl,tt_⟩)))
  ·refine Qa hC [.br false,.n 4,.v .no [] (.i .i64 2),.n 2] rfl ⟨⟨tt_,hc13⟩,rfl⟩ ?_
   refine AK.met (AK.rnd ?_)
   obtain⟨x14,hx14,h⟩:=Qb h
   refine Qa hC [.n 2,.v .no [] (.b true),.n 10,.o (.any (.loc 200000 0 4) none),.n 1,.kill 4,.n 2,.sayO 4 (.var [.clo (.func 157) [] [.loc 200005 0 0,.loc 200001 0 0],.i .i64 v7]),.n 6,.cm (.clo) [(200000,200005),(200001,200001)] [(200005,200000),(200001,200001)] [] [.d,.d] [(200000,.var (Qd v6)),(200001,.var (QA v1))] (.b x14),.n 3] rfl ⟨⟨⟨⟨tt_,rfl⟩,(fun σ h1 h2 _=>Stp.idxV rfl rfl (bleN hC.n rfl) (h1 _ _ rfl) (h1 _ _ rfl) (Qq.es rfl) (h2 _ _ rfl) (by decide))⟩,rfl⟩,(QkV _ _ hx14)⟩ ?_
   rcases bifE h with⟨hc15,h⟩|⟨hc15,h⟩
   ·refine Qa hC [.br true,.n 13,.keep [2] [200000,200001,200002,200003,200004,200005]] rfl ⟨tt_,hc15⟩ ?_
    cases h
    exact AK.done (ex_ [_] (an_ (an_ rfl tt_) (gives ⟨rfl,rfl,rfl,rfl,rfl,rfl,tt_⟩)))
   ·refine Qa hC [.br false,.n 4,.v .no [] (.i .i64 3),.n 2] rfl ⟨⟨tt_,hc15⟩,rfl⟩ ?_
    refine AK.met (AK.rnd ?_)
    refine Qa hC [.n 2,.v .no [] (.b false),.n 15,.keep [2] [200000,200001,200002,200003,200004,200005]] rfl ⟨tt_,rfl⟩ ?_
    cases h
    exact AK.done (ex_ [_] (an_ (an_ rfl tt_) (gives ⟨rfl,rfl,rfl,rfl,rfl,rfl,tt_⟩)))
def QcT (k1:Int)(v2:TVar)(v3:(List TVar))(v4:TNet):Option Int:=
 (QeD v2 1 v3 k1 5 v4 3).bind fun x6=>
 some x6
theorem QlA (k1:Int)(v2:TVar)(v3:(List TVar))(v4:TNet){r:Int}(h:QcT k1 v2 v3 v4=some r):Qc Tryz.prog 152 [.i .i64 k1,.agg (QA v2),.loc 200000 0 0,.loc 200001 0 0] [(200000,.var (Qbu v3)),(200001,.var (Qd v4))] (Qh (.i .i64 r) [(200000,.var (Qbu v3)),(200001,.var (Qd v4))]):=by
 refine Qc.walk 17 Tryz.func152 rfl Tryz.ntmps152 rfl fun C hC=>?_
 unfold QcT at h
 obtain⟨x6,hx6,h⟩:=Qb h
 refine Qa hC [.n 12,.sayO 7 (.var [.clo (.func 153) [] [.loc 5 0 0]]),.n 5,.v .no [] (.agg [.clo (.func 154) [] [.loc 5 0 0],.i .i64 1]),.n 1,.v .no [] (.agg [.clo (.func 155) [] [.loc 200000 0 0,.loc 4 0 0,.loc 7 0 0],.i .i64 5]),.n 1,.v .no [] (.agg [.clo (.func 157) [] [.loc 200001 0 0,.loc 5 0 0],.i .i64 3]),.o (.any (.own 15 3) (some (.var [.clo (.func 154) [] [.loc 5 0 0],.i .i64 1,.clo (.func 155) [] [.loc 200000 0 0,.loc 4 0 0,.loc 7 0 0],.i .i64 5,.clo (.func 157) [] [.loc 200001 0 0,.loc 5 0 0],.i .i64 3]))),.cm (.fn) [(200000,15),(200001,5),(200002,200000),(200003,4),(200004,7),(200005,200001)] [(15,200000),(5,200001),(200000,200002),(4,200003),(7,200004),(200001,200005)] [] [.d] [(200000,.var [.clo (.func 154) [] [.loc 200001 0 0],.i .i64 1,.clo (.func 155) [] [.loc 200002 0 0,.loc 200003 0 0,.loc 200004 0 0],.i .i64 5,.clo (.func 157) [] [.loc 200005 0 0,.loc 200001 0 0],.i .i64 3]),(200001,.var (QA v2)),(200002,.var (Qbu v3)),(200003,.var (Qe k1)),(200004,.var [.clo (.func 153) [] [.loc 200001 0 0]]),(200005,.var (Qd v4))] (.i .i64 x6),.n 4,.keep [6] [200000,200001]] rfl ⟨⟨⟨⟨⟨⟨tt_,rfl⟩,rfl⟩,rfl⟩,rfl⟩,(fun σ h1 h2 hf=>Stp.buildAny rfl rfl (bleN hC.n rfl) (Qq.es rfl) QjR rfl (by decide) (by decide) (Qej h1 rfl) rfl rfl (hf rfl))⟩,(QmJ _ _ _ _ _ _ _ hx6)⟩ ?_
 cases h
 exact AK.done (ex_ [_] (an_ (an_ rfl tt_) (gives ⟨rfl,rfl,tt_⟩)))
def Qbe (l1:(List TVar))(v2:(List TVar))(v3:TNet)(x8:Int):Option (Int⊕((Int×Int)⊕Unit)):=
 bif (decide (x8<(l1.length:Int)))then
 (idx l1 x8).bind fun e13=>
 (QcT x8 e13 v2 v3).bind fun x14=>
 bif (x14 != 0)then
 some (.inr (.inl (x8,x14)))
 else
 some (.inl (w64 (x8+1)))
 else
 some (.inr (.inr ()))
def QbV (x10:Int)(x11:Int):Option (Int×Int):=
 some (x10,x11)
def QbW : Option (Int×Int):=
 some (0,0)
def QcC (l1:(List TVar))(v2:(List TVar))(v3:TNet):Option (Int×Int):=
 (QI (fun st=>Qbe l1 v2 v3 st) 0).bind (Sum.elim (fun q=>QbV q.1 q.2) (fun q=>QbW))
theorem Qk5 (l1:(List TVar))(v2:(List TVar))(v3:TNet){r:(Int×Int)}(h:QcC l1 v2 v3=some r):Qc Tryz.prog 151 [.sl 2 (l1.map QA),.clo (.func 152) [] [.loc 200000 0 0,.loc 200001 0 0]] [(200000,.var (Qbu v2)),(200001,.var (Qd v3))] (Qh (.tup [.i .i64 r.1,.i .i64 r.2]) [(200000,.var (Qbu v2)),(200001,.var (Qd v3))]):=by
 refine Qc.walk 25 Tryz.func151 rfl Tryz.ntmps151 rfl fun C hC=>?_
 unfold QcC at h
 refine Qa hC [.n 10,.o (.ln l1.length),.n 4,.keep [1,9,10,11] [200000,200001]] rfl ⟨tt_,Qi⟩ ?_
 obtain⟨o16,hl16,h⟩:=Qb h
 refine AK.loop (body:=(fun st=>Qbe l1 v2 v3 st)) (fun st σ=>σ=⟨[(1,.clo (.func 152) [] [.loc 200000 0 0,.loc 200001 0 0]),(9,.sl 2 (l1.map QA)),(10,.i .i64 (l1.length:Int)),(11,.i .i64 st)],[(200000,.var (Qbu v2)),(200001,.var (Qd v3))]⟩) (Sum.elim (fun q e σ=>e=.ret∧σ=⟨[(4,.i .i64 q.1),(5,.i .i64 q.2)],[(200000,.var (Qbu v2)),(200001,.var (Qd v3))]⟩) (fun q e σ=>e=.exit 0∧σ=⟨[],[(200000,.var (Qbu v2)),(200001,.var (Qd v3))]⟩)) hl16 rfl ?_ ?_
 ·rintro x8 o σ rfl h
  replace h:Qbe l1 v2 v3 x8=some o:=h
  unfold Qbe at h
  refine Qa hC [.n 6] rfl tt_ ?_
  rcases bifE h with⟨hc12,h⟩|⟨hc12,h⟩
  ·obtain⟨e13,he13,h⟩:=Qb h
   obtain⟨x14,hx14,h⟩:=Qb h
   refine Qa hC [.br true,.n 7,.o (.row (QA e13)),.v .no [] (.agg (QA e13)),.n 3,.sayO 7 (.var (QA e13)),.n 6,.v .no [] (.agg (QA e13)),.cm (.clo) [(200000,200000),(200001,200001)] [(200000,200000),(200001,200001)] [] [.d,.d,.d,.d] [(200000,.var (Qbu v2)),(200001,.var (Qd v3))] (.i .i64 x14),.n 9] rfl ⟨⟨⟨⟨⟨⟨tt_,hc12⟩,(idxM he13)⟩,rfl⟩,rfl⟩,rfl⟩,(QlA _ _ _ _ hx14)⟩ ?_
   rcases bifE h with⟨hc15,h⟩|⟨hc15,h⟩
   ·refine Qa hC [.br true,.n 11,.keep [4,5] [200000,200001]] rfl ⟨tt_,hc15⟩ ?_
    cases h
    exact rndR rfl (an_ rfl rfl)
   ·refine Qa hC [.br false,.n 7,.keep [1,9,10,11] [200000,200001]] rfl ⟨tt_,hc15⟩ ?_
    cases h
    exact rndN rfl rfl
  ·refine Qa hC [.br false,.n 2,.keep [] [200000,200001]] rfl ⟨tt_,hc12⟩ ?_
   cases h
   exact rndX rfl (an_ rfl rfl)
 ·rcases o16 with(⟨x10,x11⟩|_)
  ·replace h:QbV x10 x11=some r:=h
   unfold QbV at h
   rintro e σ ⟨rfl,rfl⟩
   refine Qa hC [.n 2,.keep [4,5] [200000,200001]] rfl tt_ ?_
   cases h
   exact AK.done (ex_ [_,_] (an_ (an_ rfl (an_ rfl tt_)) (gives ⟨rfl,rfl,tt_⟩)))
  ·replace h:QbW=some r:=h
   unfold QbW at h
   rintro e σ ⟨rfl,rfl⟩
   refine Qa hC [.n 9,.keep [4,5] [200000,200001]] rfl tt_ ?_
   cases h
   exact AK.done (ex_ [_,_] (an_ (an_ rfl (an_ rfl tt_)) (gives ⟨rfl,rfl,tt_⟩)))
def QdU (n1:TNet)(l2:(List TVar)):Option Int:=
 (QcC l2 l2 n1).bind fun x4=>
 some x4.2
theorem Qmn (n1:TNet)(l2:(List TVar)){r:Int}(h:QdU n1 l2=some r):Qc Tryz.prog 113 [.agg (Qd n1),.sl 2 (l2.map QA)] [] (Qh (.i .i64 r) []):=by
 refine Qc.walk 14 Tryz.func113 rfl Tryz.ntmps113 rfl fun C hC=>?_
 unfold QdU at h
 obtain⟨x4,hx4,h⟩:=Qb h
 refine Qa hC [.n 11,.cm (.fn) [(200000,3),(200001,2)] [(3,200000),(2,200001)] [] [.d,.d] [(200000,.var (Qbu l2)),(200001,.var (Qd n1))] (.tup [.i .i64 x4.1,.i .i64 x4.2]),.n 14,.keep [4] []] rfl ⟨tt_,(Qk5 _ _ _ hx4)⟩ ?_
 cases h
 exact AK.done (ex_ [_] (an_ (an_ rfl tt_) (gives tt_)))
def Qf5 (v1:TNet)(v2:Qs):Option Int:=
 (QdU v1 v2.Vars).bind fun x4=>
 some x4
theorem Qn8 (v1:TNet)(v2:Qs){r:Int}(h:Qf5 v1 v2=some r):Qc Tryz.prog 112 [.loc 200000 0 0,.loc 200001 0 0] [(200000,.var (Qd v1)),(200001,.var (Qg v2))] (Qh (.i .i64 r) [(200000,.var (Qd v1)),(200001,.var (Qg v2))]):=by
 refine Qc.walk 7 Tryz.func112 rfl Tryz.ntmps112 rfl fun C hC=>?_
 unfold Qf5 at h
 obtain⟨x4,hx4,h⟩:=Qb h
 refine Qa hC [.n 7,.v .no [] (.agg (Qd v1)),.n 2,.o (.c false [.d,.d] (.i .i64 x4)),.n 4,.keep [2] [200000,200001]] rfl ⟨⟨tt_,rfl⟩,(Qmn _ _ hx4)⟩ ?_
 cases h
 exact AK.done (ex_ [_] (an_ (an_ rfl tt_) (gives ⟨rfl,rfl,tt_⟩)))
def Qfm (v1:TNet)(v2:Qs)(v3:Int):Option (Bool×Int):=
 (Qf5 v1 v2).bind fun x6=>
 some ((x6==0),x6)
theorem Qnr (v1:TNet)(v2:Qs)(v3:Int){r:(Bool×Int)}(h:Qfm v1 v2 v3=some r):Qc Tryz.prog 150 [.loc 200000 0 0,.loc 200003 0 0] [(200000,.var [.clo (.func 112) [] [.loc 200001 0 0,.loc 200002 0 0]]),(200001,.var (Qd v1)),(200002,.var (Qg v2)),(200003,.var [.loc 200004 0 0]),(200004,.var (Qe v3))] (Qh (.b r.1) [(200000,.var [.clo (.func 112) [] [.loc 200001 0 0,.loc 200002 0 0]]),(200001,.var (Qd v1)),(200002,.var (Qg v2)),(200003,.var [.loc 200004 0 0]),(200004,.var (Qe r.2))]):=by
 refine Qc.walk 11 Tryz.func150 rfl Tryz.ntmps150 rfl fun C hC=>?_
 unfold Qfm at h
 obtain⟨x6,hx6,h⟩:=Qb h
 refine Qa hC [.n 6,.keep [0,1] [200000,200001,200002,200003,200004]] rfl tt_ ?_
 refine AK.draw2 Qq hC mixed [.a .no none false,.a .no none false,.a (.any (.i .i64 x6) none) none false,.a .no none false,.m .s] [] [] [1] [200000,200001,200002,200003,200004] rfl rfl rfl ⟨tt_,(fun σ h1 h2 _=>Stp.callSame (md:=.cm (.clo) [(200000,200001),(200001,200002)] [(200001,200000),(200002,200001)] [] [.d,.d] [(200000,.var (Qd v1)),(200001,.var (Qg v2))] (.i .i64 x6) [200001,200002]) Qq hC h1 h2 rfl ⟨⟨tt_,(Qn8 _ _ hx6)⟩,⟨rfl,rfl,tt_⟩⟩)⟩ rfl (by kernel_rfl) rfl rfl rfl ?_
 refine Qa hC [.sayO 200004 (.var (Qe x6)),.n 11,.keep [2] [200000,200001,200002,200003,200004]] rfl ⟨tt_,rfl⟩ ?_
 cases h
 exact AK.done (ex_ [_] (an_ (an_ rfl tt_) (gives ⟨rfl,rfl,rfl,rfl,rfl,tt_⟩)))
def Qc6 (e7:Qs)(n1:TNet)(out8:Int)(x9:Int):Option ((Int×Int)⊕(Unit⊕Int)):=
 bif (decide (x9<(e7.Vars.length:Int)))then
 (idx e7.Vars x9).bind fun e14=>
 (Qaw n1.Colours e14.Colour).bind fun x15=>
 bif (x15==0)then
 some (.inr (.inl ()))
 else
 some (.inl ((min2 (w64 (out8*x15)) 1025),(w64 (x9+1))))
 else
 some (.inr (.inr out8))
def QeE : Option Int:=
 some 0
def QeF (out12:Int):Option Int:=
 some out12
def Qe2 (n1:TNet)(k2:Int):Option Int:=
 (Qbt n1.Tasks k2).bind fun x5=>
 bif (!x5)then
 some 0
 else
 (idx n1.Tasks k2).bind fun e7=>
 (QI (fun st=>Qc6 e7 n1 st.1 st.2) (1,0)).bind (Sum.elim (fun q=>QeE) (fun q=>QeF q))
theorem QkW (n1:TNet)(k2:Int){r:Int}(h:Qe2 n1 k2=some r):Qc Tryz.prog 25 [.agg (Qd n1),.i .i64 k2] [] (Qh (.i .i64 r) []):=by
 refine Qc.walk 38 Tryz.func25 rfl Tryz.ntmps25 rfl fun C hC=>?_
 unfold Qe2 at h
 obtain⟨x5,hx5,h⟩:=Qb h
 refine Qa hC [.n 12,.o (.c false [.d,.d] (.b x5)),.n 3] rfl ⟨tt_,(Qhg _ _ hx5)⟩ ?_
 rcases bifE h with⟨hc6,h⟩|⟨hc6,h⟩
 ·refine Qa hC [.br true,.n 7,.keep [4] []] rfl ⟨tt_,hc6⟩ ?_
  cases h
  exact AK.done (ex_ [_] (an_ (an_ rfl tt_) (gives tt_)))
 ·obtain⟨e7,he7,h⟩:=Qb h
  refine Qa hC [.br false,.n 13,.o (.row (Qg e7)),.n 2,.o (.ln e7.Vars.length),.n 4,.keep [2,5,19,20,21] [2]] rfl ⟨⟨⟨tt_,hc6⟩,(idxM he7)⟩,Qi⟩ ?_
  obtain⟨o17,hl17,h⟩:=Qb h
  refine AK.loop (body:=(fun st=>Qc6 e7 n1 st.1 st.2)) (fun st σ=>σ=⟨[(2,.loc 2 0 0),(5,.i .i64 st.1),(19,.sl 2 (e7.Vars.map QA)),(20,.i .i64 (e7.Vars.length:Int)),(21,.i .i64 st.2)],[(2,.var (Qd n1))]⟩) (Sum.elim (fun q e σ=>e=.ret∧σ=⟨[(4,.i .i64 0)],[]⟩) (fun q e σ=>e=.exit 0∧σ=⟨[(5,.i .i64 q)],[]⟩)) hl17 rfl ?_ ?_
  ·rintro ⟨out8,x9⟩ o σ rfl h
   replace h:Qc6 e7 n1 out8 x9=some o:=h
   unfold Qc6 at h
   refine Qa hC [.n 6] rfl tt_ ?_
   rcases bifE h with⟨hc13,h⟩|⟨hc13,h⟩
   ·obtain⟨e14,he14,h⟩:=Qb h
    obtain⟨x15,hx15,h⟩:=Qb h
    refine Qa hC [.br true,.n 6,.o (.row (QA e14)),.v .no [] (.agg (QA e14)),.n 2,.sayO 7 (.var (QA e14)),.n 8,.o (.c false [.d,.d] (.i .i64 x15)),.n 10] rfl ⟨⟨⟨⟨⟨tt_,hc13⟩,(idxM he14)⟩,rfl⟩,rfl⟩,(Qgq _ _ hx15)⟩ ?_
    rcases bifE h with⟨hc16,h⟩|⟨hc16,h⟩
    ·refine Qa hC [.br true,.n 9,.keep [4] []] rfl ⟨tt_,hc16⟩ ?_
     cases h
     exact rndR rfl (an_ rfl rfl)
    ·refine Qa hC [.br false,.n 15,.keep [2,5,19,20,21] [2]] rfl ⟨tt_,hc16⟩ ?_
     cases h
     exact rndN rfl rfl
   ·refine Qa hC [.br false,.n 2,.keep [5] []] rfl ⟨tt_,hc13⟩ ?_
    cases h
    exact rndX rfl (an_ rfl rfl)
  ·rcases o17 with(_ | out12)
   ·replace h:QeE=some r:=h
    unfold QeE at h
    rintro e σ ⟨rfl,rfl⟩
    refine Qa hC [.n 2,.keep [4] []] rfl tt_ ?_
    cases h
    exact AK.done (ex_ [_] (an_ (an_ rfl tt_) (gives tt_)))
   ·replace h:QeF out12=some r:=h
    unfold QeF at h
    rintro e σ ⟨rfl,rfl⟩
    refine Qa hC [.n 9,.keep [4] []] rfl tt_ ?_
    cases h
    exact AK.done (ex_ [_] (an_ (an_ rfl tt_) (gives tt_)))
def Qf6 (v1:TNet)(v2:Int):Option Bool:=
 (Qe2 v1 v2).bind fun x4=>
 some (decide (x4≤1024))
theorem Qn9 (v1:TNet)(v2:Int){r:Bool}(h:Qf6 v1 v2=some r):Qc Tryz.prog 114 [.loc 200000 0 0,.loc 200001 0 0] [(200000,.var (Qd v1)),(200001,.var (Qe v2))] (Qh (.b r) [(200000,.var (Qd v1)),(200001,.var (Qe v2))]):=by
 refine Qc.walk 7 Tryz.func114 rfl Tryz.ntmps114 rfl fun C hC=>?_
 unfold Qf6 at h
 obtain⟨x4,hx4,h⟩:=Qb h
 refine Qa hC [.n 7,.v .no [] (.agg (Qd v1)),.n 1,.o (.c false [.d,.d] (.i .i64 x4)),.n 5,.keep [2] [200000,200001]] rfl ⟨⟨tt_,rfl⟩,(QkW _ _ hx4)⟩ ?_
 cases h
 exact AK.done (ex_ [_] (an_ (an_ rfl tt_) (gives ⟨rfl,rfl,tt_⟩)))
def Qh2 (v1:Qs)(v2:Int):Option Bool:=
 (Qep v1.Guard v2).bind fun x6=>
 bif x6 then
 bif (decide (0<(v1.Ins.length:Int)))then
 some (decide (0<(v1.Outs.length:Int)))
 else
 some false
 else
 some false
def QdV (x4:Bool):Option Bool:=
 some x4
def Qf7 (v1:Qs)(v2:Int):Option Bool:=
 (Qh2 v1 v2).bind (fun x4=>QdV x4)
theorem Qoa (v1:Qs)(v2:Int){r:Bool}(h:Qf7 v1 v2=some r):Qc Tryz.prog 115 [.loc 200000 0 0,.loc 200001 0 0] [(200000,.var (Qg v1)),(200001,.var (Qe v2))] (Qh (.b r) [(200000,.var (Qg v1)),(200001,.var (Qe v2))]):=by
 refine Qc.walk 19 Tryz.func115 rfl Tryz.ntmps115 rfl fun C hC=>?_
 unfold Qf7 at h
 refine Qa hC [.n 6] rfl tt_ ?_
 obtain⟨x4,hv5,h⟩:=Qb h
 replace h:QdV x4=some r:=h
 refine AK.meetX (fun σ=>σ=⟨[(2,.b x4)],[(200000,.var (Qg v1)),(200001,.var (Qe v2))]⟩) ?_ ?_
 ·replace h:=hv5
  unfold Qh2 at h
  obtain⟨x6,hx6,h⟩:=Qb h
  refine Qa hC [.n 2,.v .no [] (.agg (Qj v1.Guard)),.n 1,.o (.c false [.d,.d] (.b x6)),.n 1] rfl ⟨⟨tt_,rfl⟩,(QiW _ _ hx6)⟩ ?_
  rcases bifE h with⟨hc7,h⟩|⟨hc7,h⟩
  ·refine Qa hC [.say 7 (.b true),.n 2,.o (.ln v1.Ins.length),.n 3] rfl ⟨⟨tt_,(congrArg V.b hc7)⟩,Qi⟩ ?_
   rcases bifE h with⟨hc8,h⟩|⟨hc8,h⟩
   ·refine Qa hC [.say 13 (.b true),.n 2,.o (.ln v1.Outs.length),.n 4,.keep [2] [200000,200001]] rfl ⟨⟨tt_,(congrArg V.b hc8)⟩,Qi⟩ ?_
    cases h
    exact AK.met rfl
   ·refine Qa hC [.say 13 (.b false),.n 7,.keep [2] [200000,200001]] rfl ⟨tt_,(congrArg V.b hc8)⟩ ?_
    cases h
    exact AK.met rfl
  ·refine Qa hC [.say 7 (.b false),.n 13,.keep [2] [200000,200001]] rfl ⟨tt_,(congrArg V.b hc7)⟩ ?_
   cases h
   exact AK.met rfl
 ·rintro σ rfl
  replace h:QdV x4=some r:=h
  unfold QdV at h
  refine Qa hC [.n 2,.keep [2] [200000,200001]] rfl tt_ ?_
  cases h
  exact AK.done (ex_ [_] (an_ (an_ rfl tt_) (gives ⟨rfl,rfl,tt_⟩)))
def QeG (v1:TNet)(v2:TArc):Option Bool:=
 (Qac v1.Places v2.Place).bind fun x4=>
 some x4
theorem QmK (v1:TNet)(v2:TArc){r:Bool}(h:QeG v1 v2=some r):Qc Tryz.prog 163 [.loc 200000 0 0,.loc 200001 0 0] [(200000,.var (Qd v1)),(200001,.var (QP v2))] (Qh (.b r) [(200000,.var (Qd v1)),(200001,.var (QP v2))]):=by
 refine Qc.walk 8 Tryz.func163 rfl Tryz.ntmps163 rfl fun C hC=>?_
 unfold QeG at h
 obtain⟨x4,hx4,h⟩:=Qb h
 refine Qa hC [.n 11,.o (.c false [.d,.d] (.b x4)),.n 4,.keep [2] [200000,200001]] rfl ⟨tt_,(Qbm _ _ hx4)⟩ ?_
 cases h
 exact AK.done (ex_ [_] (an_ (an_ rfl tt_) (gives ⟨rfl,rfl,tt_⟩)))
def QeH (v1:TArc)(v2:Int):Option Bool:=
 (Qep v1.Expr v2).bind fun x4=>
 some x4
theorem QmL (v1:TArc)(v2:Int){r:Bool}(h:QeH v1 v2=some r):Qc Tryz.prog 164 [.loc 200000 0 0,.loc 200001 0 0] [(200000,.var (QP v1)),(200001,.var (Qe v2))] (Qh (.b r) [(200000,.var (QP v1)),(200001,.var (Qe v2))]):=by
 refine Qc.walk 7 Tryz.func164 rfl Tryz.ntmps164 rfl fun C hC=>?_
 unfold QeH at h
 obtain⟨x4,hx4,h⟩:=Qb h
 refine Qa hC [.n 8,.v .no [] (.agg (Qj v1.Expr)),.n 1,.o (.c false [.d,.d] (.b x4)),.n 4,.keep [2] [200000,200001]] rfl ⟨⟨tt_,rfl⟩,(QiW _ _ hx4)⟩ ?_
 cases h
 exact AK.done (ex_ [_] (an_ (an_ rfl tt_) (gives ⟨rfl,rfl,tt_⟩)))
def QeI (v1:TNet)(v2:TArc)(v3:Int)(v4:Int)(v5:Int):Option Int:=
 (QeG v1 v2).bind fun x8=>
 bif (!x8)then
 some v3
 else
 (QeH v2 v4).bind fun x10=>
 bif (!x10)then
 some v5
 else
 some 0
theorem QmM (v1:TNet)(v2:TArc)(v3:Int)(v4:Int)(v5:Int){r:Int}(h:QeI v1 v2 v3 v4 v5=some r):Qc Tryz.prog 47 [.own 200000 2] [(200000,.var [.clo (.func 163) [] [.loc 200001 0 0,.loc 200002 0 0],.i .i64 v3,.clo (.func 164) [] [.loc 200002 0 0,.loc 200003 0 0],.i .i64 v5]),(200001,.var (Qd v1)),(200002,.var (QP v2)),(200003,.var (Qe v4))] (Qh (.i .i64 r) [(200000,.var [.clo (.func 163) [] [.loc 200001 0 0,.loc 200002 0 0],.i .i64 v3,.clo (.func 164) [] [.loc 200002 0 0,.loc 200003 0 0],.i .i64 v5]),(200001,.var (Qd v1)),(200002,.var (QP v2)),(200003,.var (Qe v4))]):=by
 refine Qc.walk 18 Tryz.func47 rfl Tryz.ntmps47 rfl fun C hC=>?_
 unfold QeI at h
 refine Qa hC [.n 14] rfl tt_ ?_
 refine AK.loopN 3 (AK.rnd ?_)
 obtain⟨x8,hx8,h⟩:=Qb h
 refine Qa hC [.n 2,.v .no [] (.b true),.n 10,.o (.any (.loc 200000 0 0) none),.n 3,.sayO 4 (.var [.clo (.func 163) [] [.loc 200001 0 0,.loc 200002 0 0],.i .i64 v3]),.n 6,.cm (.clo) [(200000,200001),(200001,200002)] [(200001,200000),(200002,200001)] [] [.d,.d] [(200000,.var (Qd v1)),(200001,.var (QP v2))] (.b x8),.n 3] rfl ⟨⟨⟨⟨tt_,rfl⟩,(fun σ h1 h2 _=>Stp.idxV rfl rfl (bleN hC.n rfl) (h1 _ _ rfl) (h1 _ _ rfl) (Qq.es rfl) (h2 _ _ rfl) (by decide))⟩,rfl⟩,(QmK _ _ hx8)⟩ ?_
 rcases bifE h with⟨hc9,h⟩|⟨hc9,h⟩
 ·refine Qa hC [.br true,.n 13,.keep [2] [200000,200001,200002,200003]] rfl ⟨tt_,hc9⟩ ?_
  cases h
  exact AK.done (ex_ [_] (an_ (an_ rfl tt_) (gives ⟨rfl,rfl,rfl,rfl,tt_⟩)))
 ·refine Qa hC [.br false,.n 4,.v .no [] (.i .i64 1),.n 2] rfl ⟨⟨tt_,hc9⟩,rfl⟩ ?_
  refine AK.met (AK.rnd ?_)
  obtain⟨x10,hx10,h⟩:=Qb h
  refine Qa hC [.n 2,.v .no [] (.b true),.n 10,.o (.any (.loc 200000 0 2) none),.n 1,.kill 4,.n 2,.sayO 4 (.var [.clo (.func 164) [] [.loc 200002 0 0,.loc 200003 0 0],.i .i64 v5]),.n 6,.cm (.clo) [(200000,200002),(200001,200003)] [(200002,200000),(200003,200001)] [] [.d,.d] [(200000,.var (QP v2)),(200001,.var (Qe v4))] (.b x10),.n 3] rfl ⟨⟨⟨⟨tt_,rfl⟩,(fun σ h1 h2 _=>Stp.idxV rfl rfl (bleN hC.n rfl) (h1 _ _ rfl) (h1 _ _ rfl) (Qq.es rfl) (h2 _ _ rfl) (by decide))⟩,rfl⟩,(QmL _ _ hx10)⟩ ?_
  rcases bifE h with⟨hc11,h⟩|⟨hc11,h⟩
  ·refine Qa hC [.br true,.n 13,.keep [2] [200000,200001,200002,200003]] rfl ⟨tt_,hc11⟩ ?_
   cases h
   exact AK.done (ex_ [_] (an_ (an_ rfl tt_) (gives ⟨rfl,rfl,rfl,rfl,tt_⟩)))
  ·refine Qa hC [.br false,.n 4,.v .no [] (.i .i64 2),.n 2] rfl ⟨⟨tt_,hc11⟩,rfl⟩ ?_
   refine AK.met (AK.rnd ?_)
   refine Qa hC [.n 2,.v .no [] (.b false),.n 15,.keep [2] [200000,200001,200002,200003]] rfl ⟨tt_,rfl⟩ ?_
   cases h
   exact AK.done (ex_ [_] (an_ (an_ rfl tt_) (gives ⟨rfl,rfl,rfl,rfl,tt_⟩)))
def Qf8 (p1:Int)(a2:TArc)(v3:TNet)(v4:Int):Option Int:=
 (QeI v3 a2 3 v4 1).bind fun x6=>
 some x6
theorem Qob (p1:Int)(a2:TArc)(v3:TNet)(v4:Int){r:Int}(h:Qf8 p1 a2 v3 v4=some r):Qc Tryz.prog 162 [.i .i64 p1,.agg (QP a2),.loc 200000 0 0,.loc 200001 0 0] [(200000,.var (Qd v3)),(200001,.var (Qe v4))] (Qh (.i .i64 r) [(200000,.var (Qd v3)),(200001,.var (Qe v4))]):=by
 refine Qc.walk 13 Tryz.func162 rfl Tryz.ntmps162 rfl fun C hC=>?_
 unfold Qf8 at h
 obtain⟨x6,hx6,h⟩:=Qb h
 refine Qa hC [.n 9,.v .no [] (.agg [.clo (.func 163) [] [.loc 200000 0 0,.loc 5 0 0],.i .i64 3]),.n 1,.v .no [] (.agg [.clo (.func 164) [] [.loc 5 0 0,.loc 200001 0 0],.i .i64 1]),.o (.any (.own 11 2) (some (.var [.clo (.func 163) [] [.loc 200000 0 0,.loc 5 0 0],.i .i64 3,.clo (.func 164) [] [.loc 5 0 0,.loc 200001 0 0],.i .i64 1]))),.cm (.fn) [(200000,11),(200001,200000),(200002,5),(200003,200001)] [(11,200000),(200000,200001),(5,200002),(200001,200003)] [] [.d] [(200000,.var [.clo (.func 163) [] [.loc 200001 0 0,.loc 200002 0 0],.i .i64 3,.clo (.func 164) [] [.loc 200002 0 0,.loc 200003 0 0],.i .i64 1]),(200001,.var (Qd v3)),(200002,.var (QP a2)),(200003,.var (Qe v4))] (.i .i64 x6),.n 4,.keep [6] [200000,200001]] rfl ⟨⟨⟨⟨tt_,rfl⟩,rfl⟩,(fun σ h1 h2 hf=>Stp.buildAny rfl rfl (bleN hC.n rfl) (Qq.es rfl) QjR rfl (by decide) (by decide) (Qej h1 rfl) rfl rfl (hf rfl))⟩,(QmM _ _ _ _ _ hx6)⟩ ?_
 cases h
 exact AK.done (ex_ [_] (an_ (an_ rfl tt_) (gives ⟨rfl,rfl,tt_⟩)))
def Qbf (l1:(List TArc))(v2:TNet)(v3:Int)(x8:Int):Option (Int⊕((Int×Int)⊕Unit)):=
 bif (decide (x8<(l1.length:Int)))then
 (idx l1 x8).bind fun e13=>
 (Qf8 x8 e13 v2 v3).bind fun x14=>
 bif (x14 != 0)then
 some (.inr (.inl (x8,x14)))
 else
 some (.inl (w64 (x8+1)))
 else
 some (.inr (.inr ()))
def QbX (x10:Int)(x11:Int):Option (Int×Int):=
 some (x10,x11)
def QbY : Option (Int×Int):=
 some (0,0)
def QcD (l1:(List TArc))(v2:TNet)(v3:Int):Option (Int×Int):=
 (QI (fun st=>Qbf l1 v2 v3 st) 0).bind (Sum.elim (fun q=>QbX q.1 q.2) (fun q=>QbY))
theorem Qk6 (l1:(List TArc))(v2:TNet)(v3:Int){r:(Int×Int)}(h:QcD l1 v2 v3=some r):Qc Tryz.prog 161 [.sl 4 (l1.map QP),.clo (.func 162) [] [.loc 200000 0 0,.loc 200001 0 0]] [(200000,.var (Qd v2)),(200001,.var (Qe v3))] (Qh (.tup [.i .i64 r.1,.i .i64 r.2]) [(200000,.var (Qd v2)),(200001,.var (Qe v3))]):=by
 refine Qc.walk 25 Tryz.func161 rfl Tryz.ntmps161 rfl fun C hC=>?_
 unfold QcD at h
 refine Qa hC [.n 10,.o (.ln l1.length),.n 4,.keep [1,9,10,11] [200000,200001]] rfl ⟨tt_,Qi⟩ ?_
 obtain⟨o16,hl16,h⟩:=Qb h
 refine AK.loop (body:=(fun st=>Qbf l1 v2 v3 st)) (fun st σ=>σ=⟨[(1,.clo (.func 162) [] [.loc 200000 0 0,.loc 200001 0 0]),(9,.sl 4 (l1.map QP)),(10,.i .i64 (l1.length:Int)),(11,.i .i64 st)],[(200000,.var (Qd v2)),(200001,.var (Qe v3))]⟩) (Sum.elim (fun q e σ=>e=.ret∧σ=⟨[(4,.i .i64 q.1),(5,.i .i64 q.2)],[(200000,.var (Qd v2)),(200001,.var (Qe v3))]⟩) (fun q e σ=>e=.exit 0∧σ=⟨[],[(200000,.var (Qd v2)),(200001,.var (Qe v3))]⟩)) hl16 rfl ?_ ?_
 ·rintro x8 o σ rfl h
  replace h:Qbf l1 v2 v3 x8=some o:=h
  unfold Qbf at h
  refine Qa hC [.n 6] rfl tt_ ?_
  rcases bifE h with⟨hc12,h⟩|⟨hc12,h⟩
  ·obtain⟨e13,he13,h⟩:=Qb h
   obtain⟨x14,hx14,h⟩:=Qb h
   refine Qa hC [.br true,.n 7,.o (.row (QP e13)),.v .no [] (.agg (QP e13)),.n 3,.sayO 7 (.var (QP e13)),.n 6,.v .no [] (.agg (QP e13)),.cm (.clo) [(200000,200000),(200001,200001)] [(200000,200000),(200001,200001)] [] [.d,.d,.d,.d] [(200000,.var (Qd v2)),(200001,.var (Qe v3))] (.i .i64 x14),.n 9] rfl ⟨⟨⟨⟨⟨⟨tt_,hc12⟩,(idxM he13)⟩,rfl⟩,rfl⟩,rfl⟩,(Qob _ _ _ _ hx14)⟩ ?_
   rcases bifE h with⟨hc15,h⟩|⟨hc15,h⟩
   ·refine Qa hC [.br true,.n 11,.keep [4,5] [200000,200001]] rfl ⟨tt_,hc15⟩ ?_
    cases h
    exact rndR rfl (an_ rfl rfl)
   ·refine Qa hC [.br false,.n 7,.keep [1,9,10,11] [200000,200001]] rfl ⟨tt_,hc15⟩ ?_
    cases h
    exact rndN rfl rfl
  ·refine Qa hC [.br false,.n 2,.keep [] [200000,200001]] rfl ⟨tt_,hc12⟩ ?_
   cases h
   exact rndX rfl (an_ rfl rfl)
 ·rcases o16 with(⟨x10,x11⟩|_)
  ·replace h:QbX x10 x11=some r:=h
   unfold QbX at h
   rintro e σ ⟨rfl,rfl⟩
   refine Qa hC [.n 2,.keep [4,5] [200000,200001]] rfl tt_ ?_
   cases h
   exact AK.done (ex_ [_,_] (an_ (an_ rfl (an_ rfl tt_)) (gives ⟨rfl,rfl,tt_⟩)))
  ·replace h:QbY=some r:=h
   unfold QbY at h
   rintro e σ ⟨rfl,rfl⟩
   refine Qa hC [.n 9,.keep [4,5] [200000,200001]] rfl tt_ ?_
   cases h
   exact AK.done (ex_ [_,_] (an_ (an_ rfl (an_ rfl tt_)) (gives ⟨rfl,rfl,tt_⟩)))
def Qf9 (n1:TNet)(l2:(List TArc))(vars3:Int):Option Int:=
 (QcD l2 n1 vars3).bind fun x5=>
 some x5.2
theorem Qll (n1:TNet)(l2:(List TArc))(vars3:Int){r:Int}(h:Qf9 n1 l2 vars3=some r):Qc Tryz.prog 118 [.agg (Qd n1),.sl 4 (l2.map QP),.i .i64 vars3] [] (Qh (.i .i64 r) []):=by
 refine Qc.walk 16 Tryz.func118 rfl Tryz.ntmps118 rfl fun C hC=>?_
 unfold Qf9 at h
 obtain⟨x5,hx5,h⟩:=Qb h
 refine Qa hC [.n 11,.cm (.fn) [(200000,3),(200001,5)] [(3,200000),(5,200001)] [] [.d,.d] [(200000,.var (Qd n1)),(200001,.var (Qe vars3))] (.tup [.i .i64 x5.1,.i .i64 x5.2]),.n 14,.keep [6] []] rfl ⟨tt_,(Qk6 _ _ _ hx5)⟩ ?_
 cases h
 exact AK.done (ex_ [_] (an_ (an_ rfl tt_) (gives tt_)))
def Qga (v1:TNet)(v2:Qs)(v3:Int):Option Int:=
 (Qf9 v1 v2.Ins v3).bind fun x5=>
 some x5
theorem Qoc (v1:TNet)(v2:Qs)(v3:Int){r:Int}(h:Qga v1 v2 v3=some r):Qc Tryz.prog 117 [.loc 200000 0 0,.loc 200001 0 0,.loc 200002 0 0] [(200000,.var (Qd v1)),(200001,.var (Qg v2)),(200002,.var (Qe v3))] (Qh (.i .i64 r) [(200000,.var (Qd v1)),(200001,.var (Qg v2)),(200002,.var (Qe v3))]):=by
 refine Qc.walk 9 Tryz.func117 rfl Tryz.ntmps117 rfl fun C hC=>?_
 unfold Qga at h
 obtain⟨x5,hx5,h⟩:=Qb h
 refine Qa hC [.n 7,.v .no [] (.agg (Qd v1)),.n 3,.o (.c false [.d,.d,.d] (.i .i64 x5)),.n 4,.keep [3] [200000,200001,200002]] rfl ⟨⟨tt_,rfl⟩,(Qll _ _ _ hx5)⟩ ?_
 cases h
 exact AK.done (ex_ [_] (an_ (an_ rfl tt_) (gives ⟨rfl,rfl,rfl,tt_⟩)))
def Qdn (v1:TNet)(v2:Qs)(v3:Int)(v4:Int):Option (Bool×Int):=
 (Qga v1 v2 v3).bind fun x7=>
 some ((x7==0),x7)
theorem QlL (v1:TNet)(v2:Qs)(v3:Int)(v4:Int){r:(Bool×Int)}(h:Qdn v1 v2 v3 v4=some r):Qc Tryz.prog 150 [.loc 200000 0 0,.loc 200004 0 0] [(200000,.var [.clo (.func 117) [] [.loc 200001 0 0,.loc 200002 0 0,.loc 200003 0 0]]),(200001,.var (Qd v1)),(200002,.var (Qg v2)),(200003,.var (Qe v3)),(200004,.var [.loc 200005 0 0]),(200005,.var (Qe v4))] (Qh (.b r.1) [(200000,.var [.clo (.func 117) [] [.loc 200001 0 0,.loc 200002 0 0,.loc 200003 0 0]]),(200001,.var (Qd v1)),(200002,.var (Qg v2)),(200003,.var (Qe v3)),(200004,.var [.loc 200005 0 0]),(200005,.var (Qe r.2))]):=by
 refine Qc.walk 11 Tryz.func150 rfl Tryz.ntmps150 rfl fun C hC=>?_
 unfold Qdn at h
 obtain⟨x7,hx7,h⟩:=Qb h
 refine Qa hC [.n 6,.keep [0,1] [200000,200001,200002,200003,200004,200005]] rfl tt_ ?_
 refine AK.draw2 Qq hC mixed [.a .no none false,.a .no none false,.a (.any (.i .i64 x7) none) none false,.a .no none false,.m .s] [] [] [1] [200000,200001,200002,200003,200004,200005] rfl rfl rfl ⟨tt_,(fun σ h1 h2 _=>Stp.callSame (md:=.cm (.clo) [(200000,200001),(200001,200002),(200002,200003)] [(200001,200000),(200002,200001),(200003,200002)] [] [.d,.d,.d] [(200000,.var (Qd v1)),(200001,.var (Qg v2)),(200002,.var (Qe v3))] (.i .i64 x7) [200001,200002,200003]) Qq hC h1 h2 rfl ⟨⟨tt_,(Qoc _ _ _ hx7)⟩,⟨rfl,rfl,rfl,tt_⟩⟩)⟩ rfl (by kernel_rfl) rfl rfl rfl ?_
 refine Qa hC [.sayO 200005 (.var (Qe x7)),.n 11,.keep [2] [200000,200001,200002,200003,200004,200005]] rfl ⟨tt_,rfl⟩ ?_
 cases h
 exact AK.done (ex_ [_] (an_ (an_ rfl tt_) (gives ⟨rfl,rfl,rfl,rfl,rfl,rfl,tt_⟩)))
def Qgb (v1:TNet)(v2:Qs)(v3:Int):Option Int:=
 (Qf9 v1 v2.Outs v3).bind fun x5=>
 some x5
theorem Qod (v1:TNet)(v2:Qs)(v3:Int){r:Int}(h:Qgb v1 v2 v3=some r):Qc Tryz.prog 119 [.loc 200000 0 0,.loc 200001 0 0,.loc 200002 0 0] [(200000,.var (Qd v1)),(200001,.var (Qg v2)),(200002,.var (Qe v3))] (Qh (.i .i64 r) [(200000,.var (Qd v1)),(200001,.var (Qg v2)),(200002,.var (Qe v3))]):=by
 refine Qc.walk 9 Tryz.func119 rfl Tryz.ntmps119 rfl fun C hC=>?_
 unfold Qgb at h
 obtain⟨x5,hx5,h⟩:=Qb h
 refine Qa hC [.n 7,.v .no [] (.agg (Qd v1)),.n 3,.o (.c false [.d,.d,.d] (.i .i64 x5)),.n 4,.keep [3] [200000,200001,200002]] rfl ⟨⟨tt_,rfl⟩,(Qll _ _ _ hx5)⟩ ?_
 cases h
 exact AK.done (ex_ [_] (an_ (an_ rfl tt_) (gives ⟨rfl,rfl,rfl,tt_⟩)))
def Qdo (v1:TNet)(v2:Qs)(v3:Int)(v4:Int):Option (Bool×Int):=
 (Qgb v1 v2 v3).bind fun x7=>
 some ((x7==0),x7)
theorem QlM (v1:TNet)(v2:Qs)(v3:Int)(v4:Int){r:(Bool×Int)}(h:Qdo v1 v2 v3 v4=some r):Qc Tryz.prog 150 [.loc 200000 0 0,.loc 200004 0 0] [(200000,.var [.clo (.func 119) [] [.loc 200001 0 0,.loc 200002 0 0,.loc 200003 0 0]]),(200001,.var (Qd v1)),(200002,.var (Qg v2)),(200003,.var (Qe v3)),(200004,.var [.loc 200005 0 0]),(200005,.var (Qe v4))] (Qh (.b r.1) [(200000,.var [.clo (.func 119) [] [.loc 200001 0 0,.loc 200002 0 0,.loc 200003 0 0]]),(200001,.var (Qd v1)),(200002,.var (Qg v2)),(200003,.var (Qe v3)),(200004,.var [.loc 200005 0 0]),(200005,.var (Qe r.2))]):=by
 refine Qc.walk 11 Tryz.func150 rfl Tryz.ntmps150 rfl fun C hC=>?_
 unfold Qdo at h
 obtain⟨x7,hx7,h⟩:=Qb h
 refine Qa hC [.n 6,.keep [0,1] [200000,200001,200002,200003,200004,200005]] rfl tt_ ?_
 refine AK.draw2 Qq hC mixed [.a .no none false,.a .no none false,.a (.any (.i .i64 x7) none) none false,.a .no none false,.m .s] [] [] [1] [200000,200001,200002,200003,200004,200005] rfl rfl rfl ⟨tt_,(fun σ h1 h2 _=>Stp.callSame (md:=.cm (.clo) [(200000,200001),(200001,200002),(200002,200003)] [(200001,200000),(200002,200001),(200003,200002)] [] [.d,.d,.d] [(200000,.var (Qd v1)),(200001,.var (Qg v2)),(200002,.var (Qe v3))] (.i .i64 x7) [200001,200002,200003]) Qq hC h1 h2 rfl ⟨⟨tt_,(Qod _ _ _ hx7)⟩,⟨rfl,rfl,rfl,tt_⟩⟩)⟩ rfl (by kernel_rfl) rfl rfl rfl ?_
 refine Qa hC [.sayO 200005 (.var (Qe x7)),.n 11,.keep [2] [200000,200001,200002,200003,200004,200005]] rfl ⟨tt_,rfl⟩ ?_
 cases h
 exact AK.done (ex_ [_] (an_ (an_ rfl tt_) (gives ⟨rfl,rfl,rfl,rfl,rfl,rfl,tt_⟩)))
def QcU (v1:TNet)(v2:Int):Option Bool:=
 (Qac v1.Places v2).bind fun x4=>
 some x4
theorem QlB (v1:TNet)(v2:Int){r:Bool}(h:QcU v1 v2=some r):Qc Tryz.prog 167 [.loc 200000 0 0,.loc 200001 0 0] [(200000,.var (Qd v1)),(200001,.var (Qe v2))] (Qh (.b r) [(200000,.var (Qd v1)),(200001,.var (Qe v2))]):=by
 refine Qc.walk 7 Tryz.func167 rfl Tryz.ntmps167 rfl fun C hC=>?_
 unfold QcU at h
 obtain⟨x4,hx4,h⟩:=Qb h
 refine Qa hC [.n 10,.o (.c false [.d,.d] (.b x4)),.n 4,.keep [2] [200000,200001]] rfl ⟨tt_,(Qbm _ _ hx4)⟩ ?_
 cases h
 exact AK.done (ex_ [_] (an_ (an_ rfl tt_) (gives ⟨rfl,rfl,tt_⟩)))
def QcV (v1:(List Int))(v2:Int)(v3:Int):Option Bool:=
 (chk (decide (0≤v2)&&decide (0≤v2.toNat)&&decide (v2.toNat≤v1.length))).bind fun _=>
 (Qaz ((v1.drop 0).take (v2.toNat-0)) v3).bind fun x6=>
 some (!x6)
theorem QlC (v1:(List Int))(v2:Int)(v3:Int){r:Bool}(h:QcV v1 v2 v3=some r):Qc Tryz.prog 168 [.loc 200000 0 0,.loc 200001 0 0,.loc 200002 0 0] [(200000,.var (Qx v1)),(200001,.var (Qe v2)),(200002,.var (Qe v3))] (Qh (.b r) [(200000,.var (Qx v1)),(200001,.var (Qe v2)),(200002,.var (Qe v3))]):=by
 refine Qc.walk 10 Tryz.func168 rfl Tryz.ntmps168 rfl fun C hC=>?_
 unfold QcV at h
 obtain⟨_,hk5,h⟩:=Qb h
 replace hk5:=chkE hk5
 obtain⟨x6,hx6,h⟩:=Qb h
 refine Qa hC [.n 6,.keep [0,1,2,3] [200000,200001,200002]] rfl tt_ ?_
 refine AK.draw2 Qq hC mixed [.a .no none false,.a .no none false,.a (.any (.sl 1 (((v1.drop 0).take (v2.toNat-0)).map Qe)) none) none false,.a .no none false,.a (.c false [.d,.d] (.b x6)) none false,.a .no none false,.m .s] [] [] [3] [200000,200001,200002] rfl rfl rfl ⟨⟨tt_,(fun σ h1 h2 _=>Stp.sliceD rfl rfl (bleN hC.n rfl) (h1 _ _ rfl) (Qq.es rfl) Bnd.no (Bnd.val (h1 _ _ rfl) (of_decide_eq_true (Qm8 hk5)) rfl) (of_decide_eq_true (Qm9 hk5)) (Nat.le_trans (of_decide_eq_true (Qna hk5)) (Nat.le_of_eq Qi.symm)) Qpi)⟩,(QfY _ _ hx6)⟩ rfl (by kernel_rfl) rfl rfl rfl ?_
 refine Qa hC [.n 2,.keep [3] [200000,200001,200002]] rfl tt_ ?_
 cases h
 exact AK.done (ex_ [_] (an_ (an_ rfl tt_) (gives ⟨rfl,rfl,rfl,tt_⟩)))
def QeJ (v1:TNet)(v2:Int)(v3:Int)(v4:(List Int))(v5:Int)(v6:Int):Option Int:=
 (QcU v1 v2).bind fun x9=>
 bif (!x9)then
 some v3
 else
 (QcV v4 v5 v2).bind fun x11=>
 bif (!x11)then
 some v6
 else
 some 0
theorem QmN (v1:TNet)(v2:Int)(v3:Int)(v4:(List Int))(v5:Int)(v6:Int){r:Int}(h:QeJ v1 v2 v3 v4 v5 v6=some r):Qc Tryz.prog 47 [.own 200000 2] [(200000,.var [.clo (.func 167) [] [.loc 200001 0 0,.loc 200002 0 0],.i .i64 v3,.clo (.func 168) [] [.loc 200003 0 0,.loc 200004 0 0,.loc 200002 0 0],.i .i64 v6]),(200001,.var (Qd v1)),(200002,.var (Qe v2)),(200003,.var (Qx v4)),(200004,.var (Qe v5))] (Qh (.i .i64 r) [(200000,.var [.clo (.func 167) [] [.loc 200001 0 0,.loc 200002 0 0],.i .i64 v3,.clo (.func 168) [] [.loc 200003 0 0,.loc 200004 0 0,.loc 200002 0 0],.i .i64 v6]),(200001,.var (Qd v1)),(200002,.var (Qe v2)),(200003,.var (Qx v4)),(200004,.var (Qe v5))]):=by
 refine Qc.walk 18 Tryz.func47 rfl Tryz.ntmps47 rfl fun C hC=>?_
 unfold QeJ at h
 refine Qa hC [.n 14] rfl tt_ ?_
 refine AK.loopN 3 (AK.rnd ?_)
 obtain⟨x9,hx9,h⟩:=Qb h
 refine Qa hC [.n 2,.v .no [] (.b true),.n 10,.o (.any (.loc 200000 0 0) none),.n 3,.sayO 4 (.var [.clo (.func 167) [] [.loc 200001 0 0,.loc 200002 0 0],.i .i64 v3]),.n 6,.cm (.clo) [(200000,200001),(200001,200002)] [(200001,200000),(200002,200001)] [] [.d,.d] [(200000,.var (Qd v1)),(200001,.var (Qe v2))] (.b x9),.n 3] rfl ⟨⟨⟨⟨tt_,rfl⟩,(fun σ h1 h2 _=>Stp.idxV rfl rfl (bleN hC.n rfl) (h1 _ _ rfl) (h1 _ _ rfl) (Qq.es rfl) (h2 _ _ rfl) (by decide))⟩,rfl⟩,(QlB _ _ hx9)⟩ ?_
 rcases bifE h with⟨hc10,h⟩|⟨hc10,h⟩
 ·refine Qa hC [.br true,.n 13,.keep [2] [200000,200001,200002,200003,200004]] rfl ⟨tt_,hc10⟩ ?_
  cases h
  exact AK.done (ex_ [_] (an_ (an_ rfl tt_) (gives ⟨rfl,rfl,rfl,rfl,rfl,tt_⟩)))
 ·refine Qa hC [.br false,.n 4,.v .no [] (.i .i64 1),.n 2] rfl ⟨⟨tt_,hc10⟩,rfl⟩ ?_
  refine AK.met (AK.rnd ?_)
  obtain⟨x11,hx11,h⟩:=Qb h
  refine Qa hC [.n 2,.v .no [] (.b true),.n 10,.o (.any (.loc 200000 0 2) none),.n 1,.kill 4,.n 2,.sayO 4 (.var [.clo (.func 168) [] [.loc 200003 0 0,.loc 200004 0 0,.loc 200002 0 0],.i .i64 v6]),.n 6,.cm (.clo) [(200000,200003),(200001,200004),(200002,200002)] [(200003,200000),(200004,200001),(200002,200002)] [] [.d,.d,.d] [(200000,.var (Qx v4)),(200001,.var (Qe v5)),(200002,.var (Qe v2))] (.b x11),.n 3] rfl ⟨⟨⟨⟨tt_,rfl⟩,(fun σ h1 h2 _=>Stp.idxV rfl rfl (bleN hC.n rfl) (h1 _ _ rfl) (h1 _ _ rfl) (Qq.es rfl) (h2 _ _ rfl) (by decide))⟩,rfl⟩,(QlC _ _ _ hx11)⟩ ?_
  rcases bifE h with⟨hc12,h⟩|⟨hc12,h⟩
  ·refine Qa hC [.br true,.n 13,.keep [2] [200000,200001,200002,200003,200004]] rfl ⟨tt_,hc12⟩ ?_
   cases h
   exact AK.done (ex_ [_] (an_ (an_ rfl tt_) (gives ⟨rfl,rfl,rfl,rfl,rfl,tt_⟩)))
  ·refine Qa hC [.br false,.n 4,.v .no [] (.i .i64 2),.n 2] rfl ⟨⟨tt_,hc12⟩,rfl⟩ ?_
   refine AK.met (AK.rnd ?_)
   refine Qa hC [.n 2,.v .no [] (.b false),.n 15,.keep [2] [200000,200001,200002,200003,200004]] rfl ⟨tt_,rfl⟩ ?_
   cases h
   exact AK.done (ex_ [_] (an_ (an_ rfl tt_) (gives ⟨rfl,rfl,rfl,rfl,rfl,tt_⟩)))
def QdW (k1:Int)(place2:Int)(v3:TNet)(v4:(List Int)):Option Int:=
 (QeJ v3 place2 3 v4 k1 5).bind fun x6=>
 some x6
theorem Qmo (k1:Int)(place2:Int)(v3:TNet)(v4:(List Int)){r:Int}(h:QdW k1 place2 v3 v4=some r):Qc Tryz.prog 166 [.i .i64 k1,.i .i64 place2,.loc 200000 0 0,.loc 200001 0 0] [(200000,.var (Qd v3)),(200001,.var (Qx v4))] (Qh (.i .i64 r) [(200000,.var (Qd v3)),(200001,.var (Qx v4))]):=by
 refine Qc.walk 13 Tryz.func166 rfl Tryz.ntmps166 rfl fun C hC=>?_
 unfold QdW at h
 obtain⟨x6,hx6,h⟩:=Qb h
 refine Qa hC [.n 10,.v .no [] (.agg [.clo (.func 167) [] [.loc 200000 0 0,.loc 5 0 0],.i .i64 3]),.n 1,.v .no [] (.agg [.clo (.func 168) [] [.loc 200001 0 0,.loc 4 0 0,.loc 5 0 0],.i .i64 5]),.o (.any (.own 11 2) (some (.var [.clo (.func 167) [] [.loc 200000 0 0,.loc 5 0 0],.i .i64 3,.clo (.func 168) [] [.loc 200001 0 0,.loc 4 0 0,.loc 5 0 0],.i .i64 5]))),.cm (.fn) [(200000,11),(200001,200000),(200002,5),(200003,200001),(200004,4)] [(11,200000),(200000,200001),(5,200002),(200001,200003),(4,200004)] [] [.d] [(200000,.var [.clo (.func 167) [] [.loc 200001 0 0,.loc 200002 0 0],.i .i64 3,.clo (.func 168) [] [.loc 200003 0 0,.loc 200004 0 0,.loc 200002 0 0],.i .i64 5]),(200001,.var (Qd v3)),(200002,.var (Qe place2)),(200003,.var (Qx v4)),(200004,.var (Qe k1))] (.i .i64 x6),.n 4,.keep [6] [200000,200001]] rfl ⟨⟨⟨⟨tt_,rfl⟩,rfl⟩,(fun σ h1 h2 hf=>Stp.buildAny rfl rfl (bleN hC.n rfl) (Qq.es rfl) QjR rfl (by decide) (by decide) (Qej h1 rfl) rfl rfl (hf rfl))⟩,(QmN _ _ _ _ _ _ hx6)⟩ ?_
 cases h
 exact AK.done (ex_ [_] (an_ (an_ rfl tt_) (gives ⟨rfl,rfl,tt_⟩)))
def Qb5 (l1:(List Int))(v2:TNet)(v3:(List Int))(x8:Int):Option (Int⊕((Int×Int)⊕Unit)):=
 bif (decide (x8<(l1.length:Int)))then
 (idx l1 x8).bind fun e13=>
 (QdW x8 e13 v2 v3).bind fun x14=>
 bif (x14 != 0)then
 some (.inr (.inl (x8,x14)))
 else
 some (.inl (w64 (x8+1)))
 else
 some (.inr (.inr ()))
def QcW (x10:Int)(x11:Int):Option (Int×Int):=
 some (x10,x11)
def QcX : Option (Int×Int):=
 some (0,0)
def QeK (l1:(List Int))(v2:TNet)(v3:(List Int)):Option (Int×Int):=
 (QI (fun st=>Qb5 l1 v2 v3 st) 0).bind (Sum.elim (fun q=>QcW q.1 q.2) (fun q=>QcX))
theorem QmO (l1:(List Int))(v2:TNet)(v3:(List Int)){r:(Int×Int)}(h:QeK l1 v2 v3=some r):Qc Tryz.prog 165 [.sl 1 (l1.map Qe),.clo (.func 166) [] [.loc 200000 0 0,.loc 200001 0 0]] [(200000,.var (Qd v2)),(200001,.var (Qx v3))] (Qh (.tup [.i .i64 r.1,.i .i64 r.2]) [(200000,.var (Qd v2)),(200001,.var (Qx v3))]):=by
 refine Qc.walk 25 Tryz.func165 rfl Tryz.ntmps165 rfl fun C hC=>?_
 unfold QeK at h
 refine Qa hC [.n 10,.o (.ln l1.length),.n 4,.keep [1,9,10,11] [200000,200001]] rfl ⟨tt_,Qi⟩ ?_
 obtain⟨o16,hl16,h⟩:=Qb h
 refine AK.loop (body:=(fun st=>Qb5 l1 v2 v3 st)) (fun st σ=>σ=⟨[(1,.clo (.func 166) [] [.loc 200000 0 0,.loc 200001 0 0]),(9,.sl 1 (l1.map Qe)),(10,.i .i64 (l1.length:Int)),(11,.i .i64 st)],[(200000,.var (Qd v2)),(200001,.var (Qx v3))]⟩) (Sum.elim (fun q e σ=>e=.ret∧σ=⟨[(4,.i .i64 q.1),(5,.i .i64 q.2)],[(200000,.var (Qd v2)),(200001,.var (Qx v3))]⟩) (fun q e σ=>e=.exit 0∧σ=⟨[],[(200000,.var (Qd v2)),(200001,.var (Qx v3))]⟩)) hl16 rfl ?_ ?_
 ·rintro x8 o σ rfl h
  replace h:Qb5 l1 v2 v3 x8=some o:=h
  unfold Qb5 at h
  refine Qa hC [.n 6] rfl tt_ ?_
  rcases bifE h with⟨hc12,h⟩|⟨hc12,h⟩
  ·obtain⟨e13,he13,h⟩:=Qb h
   obtain⟨x14,hx14,h⟩:=Qb h
   refine Qa hC [.br true,.n 7,.o (.row (Qe e13)),.n 10,.cm (.clo) [(200000,200000),(200001,200001)] [(200000,200000),(200001,200001)] [] [.d,.d,.d,.d] [(200000,.var (Qd v2)),(200001,.var (Qx v3))] (.i .i64 x14),.n 9] rfl ⟨⟨⟨tt_,hc12⟩,(idxM he13)⟩,(Qmo _ _ _ _ hx14)⟩ ?_
   rcases bifE h with⟨hc15,h⟩|⟨hc15,h⟩
   ·refine Qa hC [.br true,.n 11,.keep [4,5] [200000,200001]] rfl ⟨tt_,hc15⟩ ?_
    cases h
    exact rndR rfl (an_ rfl rfl)
   ·refine Qa hC [.br false,.n 7,.keep [1,9,10,11] [200000,200001]] rfl ⟨tt_,hc15⟩ ?_
    cases h
    exact rndN rfl rfl
  ·refine Qa hC [.br false,.n 2,.keep [] [200000,200001]] rfl ⟨tt_,hc12⟩ ?_
   cases h
   exact rndX rfl (an_ rfl rfl)
 ·rcases o16 with(⟨x10,x11⟩|_)
  ·replace h:QcW x10 x11=some r:=h
   unfold QcW at h
   rintro e σ ⟨rfl,rfl⟩
   refine Qa hC [.n 2,.keep [4,5] [200000,200001]] rfl tt_ ?_
   cases h
   exact AK.done (ex_ [_,_] (an_ (an_ rfl (an_ rfl tt_)) (gives ⟨rfl,rfl,tt_⟩)))
  ·replace h:QcX=some r:=h
   unfold QcX at h
   rintro e σ ⟨rfl,rfl⟩
   refine Qa hC [.n 9,.keep [4,5] [200000,200001]] rfl tt_ ?_
   cases h
   exact AK.done (ex_ [_,_] (an_ (an_ rfl (an_ rfl tt_)) (gives ⟨rfl,rfl,tt_⟩)))
def Qfn (n1:TNet)(l2:(List Int)):Option Int:=
 (QeK l2 n1 l2).bind fun x4=>
 some x4.2
theorem Qns (n1:TNet)(l2:(List Int)){r:Int}(h:Qfn n1 l2=some r):Qc Tryz.prog 121 [.agg (Qd n1),.sl 1 (l2.map Qe)] [] (Qh (.i .i64 r) []):=by
 refine Qc.walk 14 Tryz.func121 rfl Tryz.ntmps121 rfl fun C hC=>?_
 unfold Qfn at h
 obtain⟨x4,hx4,h⟩:=Qb h
 refine Qa hC [.n 11,.cm (.fn) [(200000,2),(200001,3)] [(2,200000),(3,200001)] [] [.d,.d] [(200000,.var (Qd n1)),(200001,.var (Qx l2))] (.tup [.i .i64 x4.1,.i .i64 x4.2]),.n 14,.keep [4] []] rfl ⟨tt_,(QmO _ _ _ hx4)⟩ ?_
 cases h
 exact AK.done (ex_ [_] (an_ (an_ rfl tt_) (gives tt_)))
def Qfo (v1:TNet)(v2:Qs):Option Int:=
 (Qfn v1 v2.Cancel).bind fun x4=>
 some x4
theorem Qnt (v1:TNet)(v2:Qs){r:Int}(h:Qfo v1 v2=some r):Qc Tryz.prog 120 [.loc 200000 0 0,.loc 200001 0 0] [(200000,.var (Qd v1)),(200001,.var (Qg v2))] (Qh (.i .i64 r) [(200000,.var (Qd v1)),(200001,.var (Qg v2))]):=by
 refine Qc.walk 7 Tryz.func120 rfl Tryz.ntmps120 rfl fun C hC=>?_
 unfold Qfo at h
 obtain⟨x4,hx4,h⟩:=Qb h
 refine Qa hC [.n 7,.v .no [] (.agg (Qd v1)),.n 2,.o (.c false [.d,.d] (.i .i64 x4)),.n 4,.keep [2] [200000,200001]] rfl ⟨⟨tt_,rfl⟩,(Qns _ _ hx4)⟩ ?_
 cases h
 exact AK.done (ex_ [_] (an_ (an_ rfl tt_) (gives ⟨rfl,rfl,tt_⟩)))
def Qdp (v1:TNet)(v2:Qs)(v3:Int):Option (Bool×Int):=
 (Qfo v1 v2).bind fun x6=>
 some ((x6==0),x6)
theorem QlN (v1:TNet)(v2:Qs)(v3:Int){r:(Bool×Int)}(h:Qdp v1 v2 v3=some r):Qc Tryz.prog 150 [.loc 200000 0 0,.loc 200003 0 0] [(200000,.var [.clo (.func 120) [] [.loc 200001 0 0,.loc 200002 0 0]]),(200001,.var (Qd v1)),(200002,.var (Qg v2)),(200003,.var [.loc 200004 0 0]),(200004,.var (Qe v3))] (Qh (.b r.1) [(200000,.var [.clo (.func 120) [] [.loc 200001 0 0,.loc 200002 0 0]]),(200001,.var (Qd v1)),(200002,.var (Qg v2)),(200003,.var [.loc 200004 0 0]),(200004,.var (Qe r.2))]):=by
 refine Qc.walk 11 Tryz.func150 rfl Tryz.ntmps150 rfl fun C hC=>?_
 unfold Qdp at h
 obtain⟨x6,hx6,h⟩:=Qb h
 refine Qa hC [.n 6,.keep [0,1] [200000,200001,200002,200003,200004]] rfl tt_ ?_
 refine AK.draw2 Qq hC mixed [.a .no none false,.a .no none false,.a (.any (.i .i64 x6) none) none false,.a .no none false,.m .s] [] [] [1] [200000,200001,200002,200003,200004] rfl rfl rfl ⟨tt_,(fun σ h1 h2 _=>Stp.callSame (md:=.cm (.clo) [(200000,200001),(200001,200002)] [(200001,200000),(200002,200001)] [] [.d,.d] [(200000,.var (Qd v1)),(200001,.var (Qg v2))] (.i .i64 x6) [200001,200002]) Qq hC h1 h2 rfl ⟨⟨tt_,(Qnt _ _ hx6)⟩,⟨rfl,rfl,tt_⟩⟩)⟩ rfl (by kernel_rfl) rfl rfl rfl ?_
 refine Qa hC [.sayO 200004 (.var (Qe x6)),.n 11,.keep [2] [200000,200001,200002,200003,200004]] rfl ⟨tt_,rfl⟩ ?_
 cases h
 exact AK.done (ex_ [_] (an_ (an_ rfl tt_) (gives ⟨rfl,rfl,rfl,rfl,rfl,tt_⟩)))
def QdB (k1:Int)(l2:(List TArc)):Option Bool:=
 some ((decide (1≤k1))&&((decide (k1≤3))&&((k1 != 3)||(decide ((l2.length:Int)≤4)))))
theorem QjV (k1:Int)(l2:(List TArc)){r:Bool}(h:QdB k1 l2=some r):Qc Tryz.prog 169 [.i .i64 k1,.sl 4 (l2.map QP)] [] (Qh (.b r) []):=by
 refine Qc.walk 20 Tryz.func169 rfl Tryz.ntmps169 rfl fun C hC=>?_
 unfold QdB at h
 refine Qa hC [.n 6] rfl tt_ ?_
 refine AK.meetX (fun σ=>σ=⟨[(4,.b ((decide (1≤k1))&&((decide (k1≤3))&&((k1 != 3)||(decide ((l2.length:Int)≤4))))))],[]⟩) ?_ ?_
 ·refine Qa hC [.n 4] rfl tt_ ?_
  rcases QN (decide (1≤k1))with hc5 | hc5
  ·refine Qa hC [.say 7 (.b true),.n 4] rfl ⟨tt_,(congrArg V.b hc5)⟩ ?_
   rcases QN (decide (k1≤3))with hc6 | hc6
   ·refine Qa hC [.say 11 (.b true),.n 3] rfl ⟨tt_,(congrArg V.b hc6)⟩ ?_
    rcases QN (k1 != 3)with hc7 | hc7
    ·refine Qa hC [.say 14 (.b true),.n 7,.say 4 (.b ((decide (1≤k1))&&((decide (k1≤3))&&((k1 != 3)||(decide ((l2.length:Int)≤4)))))),.keep [4] []] rfl ⟨⟨tt_,(congrArg V.b hc7)⟩,(congrArg V.b (andT hc5 (andT hc6 (orT hc7 rfl))))⟩ ?_
     exact AK.met rfl
    ·refine Qa hC [.say 14 (.b false),.n 1,.o (.ln l2.length),.n 5,.say 4 (.b ((decide (1≤k1))&&((decide (k1≤3))&&((k1 != 3)||(decide ((l2.length:Int)≤4)))))),.keep [4] []] rfl ⟨⟨⟨tt_,(congrArg V.b hc7)⟩,Qi⟩,(congrArg V.b (andT hc5 (andT hc6 (orF hc7 rfl))))⟩ ?_
     exact AK.met rfl
   ·refine Qa hC [.say 11 (.b false),.n 10,.say 4 (.b ((decide (1≤k1))&&((decide (k1≤3))&&((k1 != 3)||(decide ((l2.length:Int)≤4)))))),.keep [4] []] rfl ⟨⟨tt_,(congrArg V.b hc6)⟩,(congrArg V.b (andT hc5 (andF hc6 rfl)))⟩ ?_
    exact AK.met rfl
  ·refine Qa hC [.say 7 (.b false),.n 14,.say 4 (.b ((decide (1≤k1))&&((decide (k1≤3))&&((k1 != 3)||(decide ((l2.length:Int)≤4)))))),.keep [4] []] rfl ⟨⟨tt_,(congrArg V.b hc5)⟩,(congrArg V.b (andF hc5 rfl))⟩ ?_
   exact AK.met rfl
 ·rintro σ rfl
  refine Qa hC [.n 2,.keep [4] []] rfl tt_ ?_
  cases h
  exact AK.done (ex_ [_] (an_ (an_ rfl tt_) (gives tt_)))
def QiE (t1:Qs):Option Bool:=
 (QdB t1.Join t1.Ins).bind fun x11=>
 bif x11 then
 (QdB t1.Split t1.Outs).bind fun x13=>
 bif x13 then
 bif (decide (0≤t1.After))then
 bif (decide (t1.After≤65536))then
 some (((t1.Many.1==0)&&((t1.Many.2.1==0)&&(t1.Many.2.2==0)))||((decide (1≤t1.Many.1))&&((decide (t1.Many.1≤t1.Many.2.1))&&((decide (t1.Many.2.1≤16))&&((decide (1≤t1.Many.2.2))&&(decide (t1.Many.2.2≤t1.Many.2.1)))))))
 else
 some false
 else
 some false
 else
 some false
 else
 some false
def QeL (x9:Bool):Option Bool:=
 some x9
def QgN (t1:Qs):Option Bool:=
 (QiE t1).bind (fun x9=>QeL x9)
theorem QoO (t1:Qs){r:Bool}(h:QgN t1=some r):Qc Tryz.prog 123 [.agg (Qg t1)] [] (Qh (.b r) []):=by
 refine Qc.walk 70 Tryz.func123 rfl Tryz.ntmps123 rfl fun C hC=>?_
 unfold QgN at h
 refine Qa hC [.n 7,.keep [1] [1]] rfl tt_ ?_
 refine AK.draw2 Qq hC mixed [.a .no none false,.a .no none false,.a .no none false,.a .no none false,.a .no none false,.a .no none false,.a .no none false,.a .no none false,.a .no none false,.a .no none false,.a .no none false,.a .no none false] [] [] [1,3,4,5] [1] rfl rfl rfl tt_ rfl (by kernel_rfl) rfl rfl rfl ?_
 refine Qa hC [.n 2] rfl tt_ ?_
 refine AK.meetX (fun σ=>σ=⟨[(1,.loc 1 0 0),(6,.b (((t1.Many.1==0)&&((t1.Many.2.1==0)&&(t1.Many.2.2==0)))||((decide (1≤t1.Many.1))&&((decide (t1.Many.1≤t1.Many.2.1))&&((decide (t1.Many.2.1≤16))&&((decide (1≤t1.Many.2.2))&&(decide (t1.Many.2.2≤t1.Many.2.1))))))))],[(1,.var (Qg t1))]⟩) ?_ ?_
 ·refine Qa hC [.n 2,.v .no [] (.agg (QpS t1.Many)),.v .no [] (.agg (QpS (0,0,0))),.o (.any (.b ((t1.Many.1==0)&&((t1.Many.2.1==0)&&(t1.Many.2.2==0)))) none),.n 1] rfl ⟨⟨⟨tt_,rfl⟩,rfl⟩,(fun σ h1 h2 _=>Stp.eqAgg rfl rfl (bleN hC.n rfl) (h1 _ _ rfl) (h1 _ _ rfl) rfl rfl (Quk _ _ _ _ _ _))⟩ ?_
  rcases QN ((t1.Many.1==0)&&((t1.Many.2.1==0)&&(t1.Many.2.2==0)))with hc4 | hc4
  ·refine Qa hC [.say 21 (.b true),.n 23,.say 6 (.b (((t1.Many.1==0)&&((t1.Many.2.1==0)&&(t1.Many.2.2==0)))||((decide (1≤t1.Many.1))&&((decide (t1.Many.1≤t1.Many.2.1))&&((decide (t1.Many.2.1≤16))&&((decide (1≤t1.Many.2.2))&&(decide (t1.Many.2.2≤t1.Many.2.1)))))))),.keep [1,6] [1]] rfl ⟨⟨tt_,(congrArg V.b hc4)⟩,(congrArg V.b (orT hc4 rfl))⟩ ?_
   exact AK.met rfl
  ·refine Qa hC [.say 21 (.b false),.n 3] rfl ⟨tt_,(congrArg V.b hc4)⟩ ?_
   rcases QN (decide (1≤t1.Many.1))with hc5 | hc5
   ·refine Qa hC [.say 24 (.b true),.n 5] rfl ⟨tt_,(congrArg V.b hc5)⟩ ?_
    rcases QN (decide (t1.Many.1≤t1.Many.2.1))with hc6 | hc6
    ·refine Qa hC [.say 29 (.b true),.n 4] rfl ⟨tt_,(congrArg V.b hc6)⟩ ?_
     rcases QN (decide (t1.Many.2.1≤16))with hc7 | hc7
     ·refine Qa hC [.say 33 (.b true),.n 4] rfl ⟨tt_,(congrArg V.b hc7)⟩ ?_
      rcases QN (decide (1≤t1.Many.2.2))with hc8 | hc8
      ·refine Qa hC [.say 37 (.b true),.n 7,.say 6 (.b (((t1.Many.1==0)&&((t1.Many.2.1==0)&&(t1.Many.2.2==0)))||((decide (1≤t1.Many.1))&&((decide (t1.Many.1≤t1.Many.2.1))&&((decide (t1.Many.2.1≤16))&&((decide (1≤t1.Many.2.2))&&(decide (t1.Many.2.2≤t1.Many.2.1)))))))),.keep [1,6] [1]] rfl ⟨⟨tt_,(congrArg V.b hc8)⟩,(congrArg V.b (orF hc4 (andT hc5 (andT hc6 (andT hc7 (andT hc8 rfl))))))⟩ ?_
       exact AK.met rfl
      ·refine Qa hC [.say 37 (.b false),.n 7,.say 6 (.b (((t1.Many.1==0)&&((t1.Many.2.1==0)&&(t1.Many.2.2==0)))||((decide (1≤t1.Many.1))&&((decide (t1.Many.1≤t1.Many.2.1))&&((decide (t1.Many.2.1≤16))&&((decide (1≤t1.Many.2.2))&&(decide (t1.Many.2.2≤t1.Many.2.1)))))))),.keep [1,6] [1]] rfl ⟨⟨tt_,(congrArg V.b hc8)⟩,(congrArg V.b (orF hc4 (andT hc5 (andT hc6 (andT hc7 (andF hc8 rfl))))))⟩ ?_
       exact AK.met rfl
     ·refine Qa hC [.say 33 (.b false),.n 11,.say 6 (.b (((t1.Many.1==0)&&((t1.Many.2.1==0)&&(t1.Many.2.2==0)))||((decide (1≤t1.Many.1))&&((decide (t1.Many.1≤t1.Many.2.1))&&((decide (t1.Many.2.1≤16))&&((decide (1≤t1.Many.2.2))&&(decide (t1.Many.2.2≤t1.Many.2.1)))))))),.keep [1,6] [1]] rfl ⟨⟨tt_,(congrArg V.b hc7)⟩,(congrArg V.b (orF hc4 (andT hc5 (andT hc6 (andF hc7 rfl)))))⟩ ?_
      exact AK.met rfl
    ·refine Qa hC [.say 29 (.b false),.n 15,.say 6 (.b (((t1.Many.1==0)&&((t1.Many.2.1==0)&&(t1.Many.2.2==0)))||((decide (1≤t1.Many.1))&&((decide (t1.Many.1≤t1.Many.2.1))&&((decide (t1.Many.2.1≤16))&&((decide (1≤t1.Many.2.2))&&(decide (t1.Many.2.2≤t1.Many.2.1)))))))),.keep [1,6] [1]] rfl ⟨⟨tt_,(congrArg V.b hc6)⟩,(congrArg V.b (orF hc4 (andT hc5 (andF hc6 rfl))))⟩ ?_
     exact AK.met rfl
   ·refine Qa hC [.say 24 (.b false),.n 20,.say 6 (.b (((t1.Many.1==0)&&((t1.Many.2.1==0)&&(t1.Many.2.2==0)))||((decide (1≤t1.Many.1))&&((decide (t1.Many.1≤t1.Many.2.1))&&((decide (t1.Many.2.1≤16))&&((decide (1≤t1.Many.2.2))&&(decide (t1.Many.2.2≤t1.Many.2.1)))))))),.keep [1,6] [1]] rfl ⟨⟨tt_,(congrArg V.b hc5)⟩,(congrArg V.b (orF hc4 (andF hc5 rfl)))⟩ ?_
    exact AK.met rfl
 ·rintro σ rfl
  refine Qa hC [.n 7] rfl tt_ ?_
  obtain⟨x9,hv10,h⟩:=Qb h
  replace h:QeL x9=some r:=h
  refine AK.meetX (fun σ=>σ=⟨[(2,.b x9)],[]⟩) ?_ ?_
  ·replace h:=hv10
   unfold QiE at h
   obtain⟨x11,hx11,h⟩:=Qb h
   refine Qa hC [.n 6,.o (.c false [.d,.d] (.b x11)),.n 1] rfl ⟨tt_,(QjV _ _ hx11)⟩ ?_
   rcases bifE h with⟨hc12,h⟩|⟨hc12,h⟩
   ·obtain⟨x13,hx13,h⟩:=Qb h
    refine Qa hC [.say 49 (.b true),.n 5,.o (.c false [.d,.d] (.b x13)),.n 2] rfl ⟨⟨tt_,(congrArg V.b hc12)⟩,(QjV _ _ hx13)⟩ ?_
    rcases bifE h with⟨hc14,h⟩|⟨hc14,h⟩
    ·refine Qa hC [.say 57 (.b true),.n 5] rfl ⟨tt_,(congrArg V.b hc14)⟩ ?_
     rcases bifE h with⟨hc15,h⟩|⟨hc15,h⟩
     ·refine Qa hC [.say 62 (.b true),.n 5] rfl ⟨tt_,(congrArg V.b hc15)⟩ ?_
      rcases bifE h with⟨hc16,h⟩|⟨hc16,h⟩
      ·refine Qa hC [.say 67 (.b true),.n 4,.keep [2] []] rfl ⟨tt_,(congrArg V.b hc16)⟩ ?_
       cases h
       exact AK.met rfl
      ·refine Qa hC [.say 67 (.b false),.n 4,.keep [2] []] rfl ⟨tt_,(congrArg V.b hc16)⟩ ?_
       cases h
       exact AK.met rfl
     ·refine Qa hC [.say 62 (.b false),.n 9,.keep [2] []] rfl ⟨tt_,(congrArg V.b hc15)⟩ ?_
      cases h
      exact AK.met rfl
    ·refine Qa hC [.say 57 (.b false),.n 14,.keep [2] []] rfl ⟨tt_,(congrArg V.b hc14)⟩ ?_
     cases h
     exact AK.met rfl
   ·refine Qa hC [.say 49 (.b false),.n 22,.keep [2] []] rfl ⟨tt_,(congrArg V.b hc12)⟩ ?_
    cases h
    exact AK.met rfl
  ·rintro σ rfl
   replace h:QeL x9=some r:=h
   unfold QeL at h
   refine Qa hC [.n 2,.keep [2] []] rfl tt_ ?_
   cases h
   exact AK.done (ex_ [_] (an_ (an_ rfl tt_) (gives tt_)))
def Qfp (v1:Qs):Option Bool:=
 (QgN v1).bind fun x3=>
 some x3
theorem Qnu (v1:Qs){r:Bool}(h:Qfp v1=some r):Qc Tryz.prog 122 [.loc 200000 0 0] [(200000,.var (Qg v1))] (Qh (.b r) [(200000,.var (Qg v1))]):=by
 refine Qc.walk 4 Tryz.func122 rfl Tryz.ntmps122 rfl fun C hC=>?_
 unfold Qfp at h
 obtain⟨x3,hx3,h⟩:=Qb h
 refine Qa hC [.n 7,.v .no [] (.agg (Qg v1)),.o (.c false [.d] (.b x3)),.n 4,.keep [1] [200000]] rfl ⟨⟨tt_,rfl⟩,(QoO _ hx3)⟩ ?_
 cases h
 exact AK.done (ex_ [_] (an_ (an_ rfl tt_) (gives ⟨rfl,tt_⟩)))
def Qc7 (v1:Qs)(v2:Int)(v3:TNet)(v4:Int)(v5:Int)(v6:Int)(v7:Int)(v8:Int)(v9:Int)(v10:Int)(v11:Int)(v12:Int)(v13:Int)(v14:Int)(v15:Int):Option (Int×Int):=
 (Qf1 v1).bind fun x20=>
 bif (!x20)then
 some (v2,v8)
 else
 (Qf4 v3 v4 v1).bind fun x22=>
 bif (!x22)then
 some (v5,v8)
 else
 (Qeg v6 v1).bind fun x24=>
 bif (!x24)then
 some (v7,v8)
 else
 (Qfm v3 v1 v8).bind fun x26=>
 bif (!x26.1)then
 some (v9,x26.2)
 else
 (Qf6 v3 v4).bind fun x28=>
 bif (!x28)then
 some (v10,x26.2)
 else
 (Qf7 v1 v6).bind fun x30=>
 bif (!x30)then
 some (v11,x26.2)
 else
 (Qdn v3 v1 v6 x26.2).bind fun x32=>
 bif (!x32.1)then
 some (v12,x32.2)
 else
 (Qdo v3 v1 v6 x32.2).bind fun x34=>
 bif (!x34.1)then
 some (v13,x34.2)
 else
 (Qdp v3 v1 x34.2).bind fun x36=>
 bif (!x36.1)then
 some (v14,x36.2)
 else
 (Qfp v1).bind fun x38=>
 bif (!x38)then
 some (v15,x36.2)
 else
 some (0,x36.2)
theorem QmP (v1:Qs)(v2:Int)(v3:TNet)(v4:Int)(v5:Int)(v6:Int)(v7:Int)(v8:Int)(v9:Int)(v10:Int)(v11:Int)(v12:Int)(v13:Int)(v14:Int)(v15:Int){r:(Int×Int)}(h:Qc7 v1 v2 v3 v4 v5 v6 v7 v8 v9 v10 v11 v12 v13 v14 v15=some r):Qc Tryz.prog 47 [.own 200000 10] [(200000,.var [.clo (.func 107) [] [.loc 200001 0 0],.i .i64 v2,.clo (.func 108) [] [.loc 200002 0 0,.loc 200003 0 0,.loc 200004 0 0],.i .i64 v5,.clo (.func 110) [] [.loc 200005 0 0,.loc 200001 0 0],.i .i64 v7,.clo (.func 150) [] [.loc 200006 0 0,.loc 200007 0 0],.i .i64 v9,.clo (.func 114) [] [.loc 200002 0 0,.loc 200003 0 0],.i .i64 v10,.clo (.func 115) [] [.loc 200001 0 0,.loc 200005 0 0],.i .i64 v11,.clo (.func 150) [] [.loc 200009 0 0,.loc 200010 0 0],.i .i64 v12,.clo (.func 150) [] [.loc 200011 0 0,.loc 200012 0 0],.i .i64 v13,.clo (.func 150) [] [.loc 200013 0 0,.loc 200014 0 0],.i .i64 v14,.clo (.func 122) [] [.loc 200001 0 0],.i .i64 v15]),(200001,.var (Qg v1)),(200002,.var (Qd v3)),(200003,.var (Qe v4)),(200004,.var [.clo (.func 106) [] [.loc 200001 0 0]]),(200005,.var (Qe v6)),(200006,.var [.clo (.func 112) [] [.loc 200002 0 0,.loc 200001 0 0]]),(200007,.var [.loc 200008 0 0]),(200008,.var (Qe v8)),(200009,.var [.clo (.func 117) [] [.loc 200002 0 0,.loc 200001 0 0,.loc 200005 0 0]]),(200010,.var [.loc 200008 0 0]),(200011,.var [.clo (.func 119) [] [.loc 200002 0 0,.loc 200001 0 0,.loc 200005 0 0]]),(200012,.var [.loc 200008 0 0]),(200013,.var [.clo (.func 120) [] [.loc 200002 0 0,.loc 200001 0 0]]),(200014,.var [.loc 200008 0 0])] (Qh (.i .i64 r.1) [(200000,.var [.clo (.func 107) [] [.loc 200001 0 0],.i .i64 v2,.clo (.func 108) [] [.loc 200002 0 0,.loc 200003 0 0,.loc 200004 0 0],.i .i64 v5,.clo (.func 110) [] [.loc 200005 0 0,.loc 200001 0 0],.i .i64 v7,.clo (.func 150) [] [.loc 200006 0 0,.loc 200007 0 0],.i .i64 v9,.clo (.func 114) [] [.loc 200002 0 0,.loc 200003 0 0],.i .i64 v10,.clo (.func 115) [] [.loc 200001 0 0,.loc 200005 0 0],.i .i64 v11,.clo (.func 150) [] [.loc 200009 0 0,.loc 200010 0 0],.i .i64 v12,.clo (.func 150) [] [.loc 200011 0 0,.loc 200012 0 0],.i .i64 v13,.clo (.func 150) [] [.loc 200013 0 0,.loc 200014 0 0],.i .i64 v14,.clo (.func 122) [] [.loc 200001 0 0],.i .i64 v15]),(200001,.var (Qg v1)),(200002,.var (Qd v3)),(200003,.var (Qe v4)),(200004,.var [.clo (.func 106) [] [.loc 200001 0 0]]),(200005,.var (Qe v6)),(200006,.var [.clo (.func 112) [] [.loc 200002 0 0,.loc 200001 0 0]]),(200007,.var [.loc 200008 0 0]),(200008,.var (Qe r.2)),(200009,.var [.clo (.func 117) [] [.loc 200002 0 0,.loc 200001 0 0,.loc 200005 0 0]]),(200010,.var [.loc 200008 0 0]),(200011,.var [.clo (.func 119) [] [.loc 200002 0 0,.loc 200001 0 0,.loc 200005 0 0]]),(200012,.var [.loc 200008 0 0]),(200013,.var [.clo (.func 120) [] [.loc 200002 0 0,.loc 200001 0 0]]),(200014,.var [.loc 200008 0 0])]):=by
 refine Qc.walk 18 Tryz.func47 rfl Tryz.ntmps47 rfl fun C hC=>?_
 unfold Qc7 at h
 refine Qa hC [.n 14] rfl tt_ ?_
 refine AK.loopN 11 (AK.rnd ?_)
 obtain⟨x20,hx20,h⟩:=Qb h
 refine Qa hC [.n 2,.v .no [] (.b true),.n 10,.o (.any (.loc 200000 0 0) none),.n 3,.sayO 4 (.var [.clo (.func 107) [] [.loc 200001 0 0],.i .i64 v2]),.n 6,.cm (.clo) [(200000,200001)] [(200001,200000)] [] [.d] [(200000,.var (Qg v1))] (.b x20),.n 3] rfl ⟨⟨⟨⟨tt_,rfl⟩,(fun σ h1 h2 _=>Stp.idxV rfl rfl (bleN hC.n rfl) (h1 _ _ rfl) (h1 _ _ rfl) (Qq.es rfl) (h2 _ _ rfl) (by decide))⟩,rfl⟩,(Qn4 _ hx20)⟩ ?_
 rcases bifE h with⟨hc21,h⟩|⟨hc21,h⟩
 ·refine Qa hC [.br true,.n 13,.keep [2] [200000,200001,200002,200003,200004,200005,200006,200007,200008,200009,200010,200011,200012,200013,200014]] rfl ⟨tt_,hc21⟩ ?_
  cases h
  exact AK.done (ex_ [_] (an_ (an_ rfl tt_) (gives ⟨rfl,rfl,rfl,rfl,rfl,rfl,rfl,rfl,rfl,rfl,rfl,rfl,rfl,rfl,rfl,tt_⟩)))
 ·refine Qa hC [.br false,.n 4,.v .no [] (.i .i64 1),.n 2] rfl ⟨⟨tt_,hc21⟩,rfl⟩ ?_
  refine AK.met (AK.rnd ?_)
  obtain⟨x22,hx22,h⟩:=Qb h
  refine Qa hC [.n 2,.v .no [] (.b true),.n 10,.o (.any (.loc 200000 0 2) none),.n 1,.kill 4,.n 2,.sayO 4 (.var [.clo (.func 108) [] [.loc 200002 0 0,.loc 200003 0 0,.loc 200004 0 0],.i .i64 v5]),.n 6,.cm (.clo) [(200000,200002),(200001,200003),(200002,200004),(200003,200001)] [(200002,200000),(200003,200001),(200004,200002),(200001,200003)] [] [.d,.d,.d] [(200000,.var (Qd v3)),(200001,.var (Qe v4)),(200002,.var [.clo (.func 106) [] [.loc 200003 0 0]]),(200003,.var (Qg v1))] (.b x22),.n 3] rfl ⟨⟨⟨⟨tt_,rfl⟩,(fun σ h1 h2 _=>Stp.idxV rfl rfl (bleN hC.n rfl) (h1 _ _ rfl) (h1 _ _ rfl) (Qq.es rfl) (h2 _ _ rfl) (by decide))⟩,rfl⟩,(Qn6 _ _ _ hx22)⟩ ?_
  rcases bifE h with⟨hc23,h⟩|⟨hc23,h⟩
  ·refine Qa hC [.br true,.n 13,.keep [2] [200000,200001,200002,200003,200004,200005,200006,200007,200008,200009,200010,200011,200012,200013,200014]] rfl ⟨tt_,hc23⟩ ?_
   cases h
   exact AK.done (ex_ [_] (an_ (an_ rfl tt_) (gives ⟨rfl,rfl,rfl,rfl,rfl,rfl,rfl,rfl,rfl,rfl,rfl,rfl,rfl,rfl,rfl,tt_⟩)))
  ·refine Qa hC [.br false,.n 4,.v .no [] (.i .i64 2),.n 2] rfl ⟨⟨tt_,hc23⟩,rfl⟩ ?_
   refine AK.met (AK.rnd ?_)
   obtain⟨x24,hx24,h⟩:=Qb h
   refine Qa hC [.n 2,.v .no [] (.b true),.n 10,.o (.any (.loc 200000 0 4) none),.n 1,.kill 4,.n 2,.sayO 4 (.var [.clo (.func 110) [] [.loc 200005 0 0,.loc 200001 0 0],.i .i64 v7]),.n 6,.cm (.clo) [(200000,200005),(200001,200001)] [(200005,200000),(200001,200001)] [] [.d,.d] [(200000,.var (Qe v6)),(200001,.var (Qg v1))] (.b x24),.n 3] rfl ⟨⟨⟨⟨tt_,rfl⟩,(fun σ h1 h2 _=>Stp.idxV rfl rfl (bleN hC.n rfl) (h1 _ _ rfl) (h1 _ _ rfl) (Qq.es rfl) (h2 _ _ rfl) (by decide))⟩,rfl⟩,(Qn7 _ _ hx24)⟩ ?_
   rcases bifE h with⟨hc25,h⟩|⟨hc25,h⟩
   ·refine Qa hC [.br true,.n 13,.keep [2] [200000,200001,200002,200003,200004,200005,200006,200007,200008,200009,200010,200011,200012,200013,200014]] rfl ⟨tt_,hc25⟩ ?_
    cases h
    exact AK.done (ex_ [_] (an_ (an_ rfl tt_) (gives ⟨rfl,rfl,rfl,rfl,rfl,rfl,rfl,rfl,rfl,rfl,rfl,rfl,rfl,rfl,rfl,tt_⟩)))
   ·refine Qa hC [.br false,.n 4,.v .no [] (.i .i64 3),.n 2] rfl ⟨⟨tt_,hc25⟩,rfl⟩ ?_
    refine AK.met (AK.rnd ?_)
    obtain⟨x26,hx26,h⟩:=Qb h
    refine Qa hC [.n 2,.v .no [] (.b true),.n 10,.o (.any (.loc 200000 0 6) none),.n 1,.kill 4,.n 2,.sayO 4 (.var [.clo (.func 150) [] [.loc 200006 0 0,.loc 200007 0 0],.i .i64 v9]),.n 6,.cm (.clo) [(200000,200006),(200001,200002),(200002,200001),(200003,200007),(200004,200008)] [(200006,200000),(200002,200001),(200001,200002),(200007,200003),(200008,200004)] [] [.d,.d] [(200000,.var [.clo (.func 112) [] [.loc 200001 0 0,.loc 200002 0 0]]),(200001,.var (Qd v3)),(200002,.var (Qg v1)),(200003,.var [.loc 200004 0 0]),(200004,.var (Qe x26.2))] (.b x26.1),.n 3] rfl ⟨⟨⟨⟨tt_,rfl⟩,(fun σ h1 h2 _=>Stp.idxV rfl rfl (bleN hC.n rfl) (h1 _ _ rfl) (h1 _ _ rfl) (Qq.es rfl) (h2 _ _ rfl) (by decide))⟩,rfl⟩,(Qnr _ _ _ hx26)⟩ ?_
    rcases bifE h with⟨hc27,h⟩|⟨hc27,h⟩
    ·refine Qa hC [.br true,.n 13,.keep [2] [200000,200001,200002,200003,200004,200005,200006,200007,200008,200009,200010,200011,200012,200013,200014]] rfl ⟨tt_,hc27⟩ ?_
     cases h
     exact AK.done (ex_ [_] (an_ (an_ rfl tt_) (gives ⟨rfl,rfl,rfl,rfl,rfl,rfl,rfl,rfl,rfl,rfl,rfl,rfl,rfl,rfl,rfl,tt_⟩)))
    ·refine Qa hC [.br false,.n 4,.v .no [] (.i .i64 4),.n 2] rfl ⟨⟨tt_,hc27⟩,rfl⟩ ?_
     refine AK.met (AK.rnd ?_)
     obtain⟨x28,hx28,h⟩:=Qb h
     refine Qa hC [.n 2,.v .no [] (.b true),.n 10,.o (.any (.loc 200000 0 8) none),.n 1,.kill 4,.n 2,.sayO 4 (.var [.clo (.func 114) [] [.loc 200002 0 0,.loc 200003 0 0],.i .i64 v10]),.n 6,.cm (.clo) [(200000,200002),(200001,200003)] [(200002,200000),(200003,200001)] [] [.d,.d] [(200000,.var (Qd v3)),(200001,.var (Qe v4))] (.b x28),.n 3] rfl ⟨⟨⟨⟨tt_,rfl⟩,(fun σ h1 h2 _=>Stp.idxV rfl rfl (bleN hC.n rfl) (h1 _ _ rfl) (h1 _ _ rfl) (Qq.es rfl) (h2 _ _ rfl) (by decide))⟩,rfl⟩,(Qn9 _ _ hx28)⟩ ?_
     rcases bifE h with⟨hc29,h⟩|⟨hc29,h⟩
     ·refine Qa hC [.br true,.n 13,.keep [2] [200000,200001,200002,200003,200004,200005,200006,200007,200008,200009,200010,200011,200012,200013,200014]] rfl ⟨tt_,hc29⟩ ?_
      cases h
      exact AK.done (ex_ [_] (an_ (an_ rfl tt_) (gives ⟨rfl,rfl,rfl,rfl,rfl,rfl,rfl,rfl,rfl,rfl,rfl,rfl,rfl,rfl,rfl,tt_⟩)))
     ·refine Qa hC [.br false,.n 4,.v .no [] (.i .i64 5),.n 2] rfl ⟨⟨tt_,hc29⟩,rfl⟩ ?_
      refine AK.met (AK.rnd ?_)
      obtain⟨x30,hx30,h⟩:=Qb h
      refine Qa hC [.n 2,.v .no [] (.b true),.n 10,.o (.any (.loc 200000 0 10) none),.n 1,.kill 4,.n 2,.sayO 4 (.var [.clo (.func 115) [] [.loc 200001 0 0,.loc 200005 0 0],.i .i64 v11]),.n 6,.cm (.clo) [(200000,200001),(200001,200005)] [(200001,200000),(200005,200001)] [] [.d,.d] [(200000,.var (Qg v1)),(200001,.var (Qe v6))] (.b x30),.n 3] rfl ⟨⟨⟨⟨tt_,rfl⟩,(fun σ h1 h2 _=>Stp.idxV rfl rfl (bleN hC.n rfl) (h1 _ _ rfl) (h1 _ _ rfl) (Qq.es rfl) (h2 _ _ rfl) (by decide))⟩,rfl⟩,(Qoa _ _ hx30)⟩ ?_
      rcases bifE h with⟨hc31,h⟩|⟨hc31,h⟩
      ·refine Qa hC [.br true,.n 13,.keep [2] [200000,200001,200002,200003,200004,200005,200006,200007,200008,200009,200010,200011,200012,200013,200014]] rfl ⟨tt_,hc31⟩ ?_
       cases h
       exact AK.done (ex_ [_] (an_ (an_ rfl tt_) (gives ⟨rfl,rfl,rfl,rfl,rfl,rfl,rfl,rfl,rfl,rfl,rfl,rfl,rfl,rfl,rfl,tt_⟩)))
      ·refine Qa hC [.br false,.n 4,.v .no [] (.i .i64 6),.n 2] rfl ⟨⟨tt_,hc31⟩,rfl⟩ ?_
       refine AK.met (AK.rnd ?_)
       obtain⟨x32,hx32,h⟩:=Qb h
       refine Qa hC [.n 2,.v .no [] (.b true),.n 10,.o (.any (.loc 200000 0 12) none),.n 1,.kill 4,.n 2,.sayO 4 (.var [.clo (.func 150) [] [.loc 200009 0 0,.loc 200010 0 0],.i .i64 v12]),.n 6,.cm (.clo) [(200000,200009),(200001,200002),(200002,200001),(200003,200005),(200004,200010),(200005,200008)] [(200009,200000),(200002,200001),(200001,200002),(200005,200003),(200010,200004),(200008,200005)] [] [.d,.d] [(200000,.var [.clo (.func 117) [] [.loc 200001 0 0,.loc 200002 0 0,.loc 200003 0 0]]),(200001,.var (Qd v3)),(200002,.var (Qg v1)),(200003,.var (Qe v6)),(200004,.var [.loc 200005 0 0]),(200005,.var (Qe x32.2))] (.b x32.1),.n 3] rfl ⟨⟨⟨⟨tt_,rfl⟩,(fun σ h1 h2 _=>Stp.idxV rfl rfl (bleN hC.n rfl) (h1 _ _ rfl) (h1 _ _ rfl) (Qq.es rfl) (h2 _ _ rfl) (by decide))⟩,rfl⟩,(QlL _ _ _ _ hx32)⟩ ?_
       rcases bifE h with⟨hc33,h⟩|⟨hc33,h⟩
       ·refine Qa hC [.br true,.n 13,.keep [2] [200000,200001,200002,200003,200004,200005,200006,200007,200008,200009,200010,200011,200012,200013,200014]] rfl ⟨tt_,hc33⟩ ?_
        cases h
        exact AK.done (ex_ [_] (an_ (an_ rfl tt_) (gives ⟨rfl,rfl,rfl,rfl,rfl,rfl,rfl,rfl,rfl,rfl,rfl,rfl,rfl,rfl,rfl,tt_⟩)))
       ·refine Qa hC [.br false,.n 4,.v .no [] (.i .i64 7),.n 2] rfl ⟨⟨tt_,hc33⟩,rfl⟩ ?_
        refine AK.met (AK.rnd ?_)
        obtain⟨x34,hx34,h⟩:=Qb h
        refine Qa hC [.n 2,.v .no [] (.b true),.n 10,.o (.any (.loc 200000 0 14) none),.n 1,.kill 4,.n 2,.sayO 4 (.var [.clo (.func 150) [] [.loc 200011 0 0,.loc 200012 0 0],.i .i64 v13]),.n 6,.cm (.clo) [(200000,200011),(200001,200002),(200002,200001),(200003,200005),(200004,200012),(200005,200008)] [(200011,200000),(200002,200001),(200001,200002),(200005,200003),(200012,200004),(200008,200005)] [] [.d,.d] [(200000,.var [.clo (.func 119) [] [.loc 200001 0 0,.loc 200002 0 0,.loc 200003 0 0]]),(200001,.var (Qd v3)),(200002,.var (Qg v1)),(200003,.var (Qe v6)),(200004,.var [.loc 200005 0 0]),(200005,.var (Qe x34.2))] (.b x34.1),.n 3] rfl ⟨⟨⟨⟨tt_,rfl⟩,(fun σ h1 h2 _=>Stp.idxV rfl rfl (bleN hC.n rfl) (h1 _ _ rfl) (h1 _ _ rfl) (Qq.es rfl) (h2 _ _ rfl) (by decide))⟩,rfl⟩,(QlM _ _ _ _ hx34)⟩ ?_
        rcases bifE h with⟨hc35,h⟩|⟨hc35,h⟩
        ·refine Qa hC [.br true,.n 13,.keep [2] [200000,200001,200002,200003,200004,200005,200006,200007,200008,200009,200010,200011,200012,200013,200014]] rfl ⟨tt_,hc35⟩ ?_
         cases h
         exact AK.done (ex_ [_] (an_ (an_ rfl tt_) (gives ⟨rfl,rfl,rfl,rfl,rfl,rfl,rfl,rfl,rfl,rfl,rfl,rfl,rfl,rfl,rfl,tt_⟩)))
        ·refine Qa hC [.br false,.n 4,.v .no [] (.i .i64 8),.n 2] rfl ⟨⟨tt_,hc35⟩,rfl⟩ ?_
         refine AK.met (AK.rnd ?_)
         obtain⟨x36,hx36,h⟩:=Qb h
         refine Qa hC [.n 2,.v .no [] (.b true),.n 10,.o (.any (.loc 200000 0 16) none),.n 1,.kill 4,.n 2,.sayO 4 (.var [.clo (.func 150) [] [.loc 200013 0 0,.loc 200014 0 0],.i .i64 v14]),.n 6,.cm (.clo) [(200000,200013),(200001,200002),(200002,200001),(200003,200014),(200004,200008)] [(200013,200000),(200002,200001),(200001,200002),(200014,200003),(200008,200004)] [] [.d,.d] [(200000,.var [.clo (.func 120) [] [.loc 200001 0 0,.loc 200002 0 0]]),(200001,.var (Qd v3)),(200002,.var (Qg v1)),(200003,.var [.loc 200004 0 0]),(200004,.var (Qe x36.2))] (.b x36.1),.n 3] rfl ⟨⟨⟨⟨tt_,rfl⟩,(fun σ h1 h2 _=>Stp.idxV rfl rfl (bleN hC.n rfl) (h1 _ _ rfl) (h1 _ _ rfl) (Qq.es rfl) (h2 _ _ rfl) (by decide))⟩,rfl⟩,(QlN _ _ _ hx36)⟩ ?_
         rcases bifE h with⟨hc37,h⟩|⟨hc37,h⟩
         ·refine Qa hC [.br true,.n 13,.keep [2] [200000,200001,200002,200003,200004,200005,200006,200007,200008,200009,200010,200011,200012,200013,200014]] rfl ⟨tt_,hc37⟩ ?_
          cases h
          exact AK.done (ex_ [_] (an_ (an_ rfl tt_) (gives ⟨rfl,rfl,rfl,rfl,rfl,rfl,rfl,rfl,rfl,rfl,rfl,rfl,rfl,rfl,rfl,tt_⟩)))
         ·refine Qa hC [.br false,.n 4,.v .no [] (.i .i64 9),.n 2] rfl ⟨⟨tt_,hc37⟩,rfl⟩ ?_
          refine AK.met (AK.rnd ?_)
          obtain⟨x38,hx38,h⟩:=Qb h
          refine Qa hC [.n 2,.v .no [] (.b true),.n 10,.o (.any (.loc 200000 0 18) none),.n 1,.kill 4,.n 2,.sayO 4 (.var [.clo (.func 122) [] [.loc 200001 0 0],.i .i64 v15]),.n 6,.cm (.clo) [(200000,200001)] [(200001,200000)] [] [.d] [(200000,.var (Qg v1))] (.b x38),.n 3] rfl ⟨⟨⟨⟨tt_,rfl⟩,(fun σ h1 h2 _=>Stp.idxV rfl rfl (bleN hC.n rfl) (h1 _ _ rfl) (h1 _ _ rfl) (Qq.es rfl) (h2 _ _ rfl) (by decide))⟩,rfl⟩,(Qnu _ hx38)⟩ ?_
          rcases bifE h with⟨hc39,h⟩|⟨hc39,h⟩
          ·refine Qa hC [.br true,.n 13,.keep [2] [200000,200001,200002,200003,200004,200005,200006,200007,200008,200009,200010,200011,200012,200013,200014]] rfl ⟨tt_,hc39⟩ ?_
           cases h
           exact AK.done (ex_ [_] (an_ (an_ rfl tt_) (gives ⟨rfl,rfl,rfl,rfl,rfl,rfl,rfl,rfl,rfl,rfl,rfl,rfl,rfl,rfl,rfl,tt_⟩)))
          ·refine Qa hC [.br false,.n 4,.v .no [] (.i .i64 10),.n 2] rfl ⟨⟨tt_,hc39⟩,rfl⟩ ?_
           refine AK.met (AK.rnd ?_)
           refine Qa hC [.n 2,.v .no [] (.b false),.n 15,.keep [2] [200000,200001,200002,200003,200004,200005,200006,200007,200008,200009,200010,200011,200012,200013,200014]] rfl ⟨tt_,rfl⟩ ?_
           cases h
           exact AK.done (ex_ [_] (an_ (an_ rfl tt_) (gives ⟨rfl,rfl,rfl,rfl,rfl,rfl,rfl,rfl,rfl,rfl,rfl,rfl,rfl,rfl,rfl,tt_⟩)))
def QbN (n1:TNet)(k2:Int):Option Int:=
 (Qbt n1.Tasks k2).bind fun x5=>
 bif (!x5)then
 some 3
 else
 (QdA n1).bind fun x7=>
 bif (x7.2 != 0)then
 some x7.2
 else
 (idx n1.Tasks k2).bind fun e9=>
 (idx n1.Tasks k2).bind fun e10=>
 (QgL 0 n1 e9).bind fun x11=>
 (QeA 0 n1 e9 (e10.Vars.length:Int)).bind fun x12=>
 (QeB 0 n1 e9 (e10.Vars.length:Int)).bind fun x13=>
 (QeC 0 n1 e9).bind fun x14=>
 (Qc7 e9 1 n1 k2 5 (e10.Vars.length:Int) 2 0 (-1) 2 1 (-1) (-1) (-1) 11).bind fun x15=>
 bif (x15.1==(-1))then
 some x15.2
 else
 some x15.1
theorem Qps (n1:TNet)(k2:Int){r:Int}(h:QbN n1 k2=some r):Qc Tryz.prog 58 [.agg (Qd n1),.i .i64 k2] [] (Qh (.i .i64 r) []):=by
 refine Qc.walk 68 Tryz.func58 rfl Tryz.ntmps58 rfl fun C hC=>?_
 unfold QbN at h
 obtain⟨x5,hx5,h⟩:=Qb h
 refine Qa hC [.n 13,.o (.c false [.d,.d] (.b x5)),.n 3] rfl ⟨tt_,(Qhg _ _ hx5)⟩ ?_
 rcases bifE h with⟨hc6,h⟩|⟨hc6,h⟩
 ·refine Qa hC [.br true,.n 7,.keep [4] []] rfl ⟨tt_,hc6⟩ ?_
  cases h
  exact AK.done (ex_ [_] (an_ (an_ rfl tt_) (gives tt_)))
 ·obtain⟨x7,hx7,h⟩:=Qb h
  refine Qa hC [.br false,.n 5,.v .no [] (.agg (Qd n1)),.o (.c false [.d] (.tup [.i .i64 x7.1,.i .i64 x7.2])),.n 13] rfl ⟨⟨⟨tt_,hc6⟩,rfl⟩,(QjU _ hx7)⟩ ?_
  rcases bifE h with⟨hc8,h⟩|⟨hc8,h⟩
  ·refine Qa hC [.br true,.n 8,.keep [4] []] rfl ⟨tt_,hc8⟩ ?_
   cases h
   exact AK.done (ex_ [_] (an_ (an_ rfl tt_) (gives tt_)))
  ·obtain⟨e9,he9,h⟩:=Qb h
   obtain⟨e10,he10,h⟩:=Qb h
   refine Qa hC [.br false,.n 3,.keep [2,3] [2,3]] rfl ⟨tt_,hc8⟩ ?_
   refine AK.draw2 Qq hC mixed [.a .no none false,.a .no none false,.a .no none false,.a (.row (Qg e9)) none false,.a .no (some ([],.agg (Qg e9))) false,.a .no none true,.a .no none true,.a .no none true,.a (.row (Qg e10)) none true,.a .no none true,.a .no none true,.a (.ln e10.Vars.length) none true,.a .no none false,.a .no none false,.m .s,.m .s] [2,3] [2,3] [2,3,7,8] [2,3,7,8] rfl rfl rfl ⟨⟨⟨⟨tt_,(idxM he9)⟩,rfl⟩,(idxM he10)⟩,Qi⟩ rfl (by kernel_rfl) rfl rfl rfl ?_
   obtain⟨x11,hx11,h⟩:=Qb h
   obtain⟨x12,hx12,h⟩:=Qb h
   obtain⟨x13,hx13,h⟩:=Qb h
   obtain⟨x14,hx14,h⟩:=Qb h
   obtain⟨x15,hx15,h⟩:=Qb h
   refine Qa hC [.sayO 7 (.var (Qg e9)),.sayO 8 (.var (Qe (e10.Vars.length:Int))),.n 6,.sayO 9 (.var [.clo (.func 106) [] [.loc 7 0 0]]),.n 10,.v .no [] (.agg [.clo (.func 107) [] [.loc 7 0 0],.i .i64 1]),.n 1,.v .no [] (.agg [.clo (.func 108) [] [.loc 2 0 0,.loc 3 0 0,.loc 9 0 0],.i .i64 5]),.n 1,.v .no [] (.agg [.clo (.func 110) [] [.loc 8 0 0,.loc 7 0 0],.i .i64 2]),.n 1,.cm (.fn) [(200000,10),(200001,2),(200002,7)] [(45,2),(50000,3),(10,200000),(2,200001),(7,200002)] [] [.d,.d] [(2,.var [.loc 200000 0 0]),(3,.var [.clo (.func 112) [] [.loc 200001 0 0,.loc 200002 0 0]]),(200000,.var (Qe 0)),(200001,.var (Qd n1)),(200002,.var (Qg e9))] (.clo (.func 150) [] [.loc 3 0 0,.loc 2 0 0]),.v .no [] (.agg [.clo (.func 150) [] [.loc 50000 0 0,.loc 45 0 0],.i .i64 (-1)]),.n 1,.v .no [] (.agg [.clo (.func 114) [] [.loc 2 0 0,.loc 3 0 0],.i .i64 2]),.n 1,.v .no [] (.agg [.clo (.func 115) [] [.loc 7 0 0,.loc 8 0 0],.i .i64 1]),.n 1,.cm (.fn) [(200000,10),(200001,2),(200002,7),(200003,8)] [(52,2),(50001,3),(10,200000),(2,200001),(7,200002),(8,200003)] [] [.d,.d] [(2,.var [.loc 200000 0 0]),(3,.var [.clo (.func 117) [] [.loc 200001 0 0,.loc 200002 0 0,.loc 200003 0 0]]),(200000,.var (Qe 0)),(200001,.var (Qd n1)),(200002,.var (Qg e9)),(200003,.var (Qe (e10.Vars.length:Int)))] (.clo (.func 150) [] [.loc 3 0 0,.loc 2 0 0]),.v .no [] (.agg [.clo (.func 150) [] [.loc 50001 0 0,.loc 52 0 0],.i .i64 (-1)]),.n 1,.cm (.fn) [(200000,10),(200001,2),(200002,7),(200003,8)] [(55,2),(50002,3),(10,200000),(2,200001),(7,200002),(8,200003)] [] [.d,.d] [(2,.var [.loc 200000 0 0]),(3,.var [.clo (.func 119) [] [.loc 200001 0 0,.loc 200002 0 0,.loc 200003 0 0]]),(200000,.var (Qe 0)),(200001,.var (Qd n1)),(200002,.var (Qg e9)),(200003,.var (Qe (e10.Vars.length:Int)))] (.clo (.func 150) [] [.loc 3 0 0,.loc 2 0 0]),.v .no [] (.agg [.clo (.func 150) [] [.loc 50002 0 0,.loc 55 0 0],.i .i64 (-1)]),.n 1,.cm (.fn) [(200000,10),(200001,2),(200002,7)] [(58,2),(50003,3),(10,200000),(2,200001),(7,200002)] [] [.d,.d] [(2,.var [.loc 200000 0 0]),(3,.var [.clo (.func 120) [] [.loc 200001 0 0,.loc 200002 0 0]]),(200000,.var (Qe 0)),(200001,.var (Qd n1)),(200002,.var (Qg e9))] (.clo (.func 150) [] [.loc 3 0 0,.loc 2 0 0]),.v .no [] (.agg [.clo (.func 150) [] [.loc 50003 0 0,.loc 58 0 0],.i .i64 (-1)]),.n 1,.v .no [] (.agg [.clo (.func 122) [] [.loc 7 0 0],.i .i64 11]),.o (.any (.own 62 10) (some (.var [.clo (.func 107) [] [.loc 7 0 0],.i .i64 1,.clo (.func 108) [] [.loc 2 0 0,.loc 3 0 0,.loc 9 0 0],.i .i64 5,.clo (.func 110) [] [.loc 8 0 0,.loc 7 0 0],.i .i64 2,.clo (.func 150) [] [.loc 50000 0 0,.loc 45 0 0],.i .i64 (-1),.clo (.func 114) [] [.loc 2 0 0,.loc 3 0 0],.i .i64 2,.clo (.func 115) [] [.loc 7 0 0,.loc 8 0 0],.i .i64 1,.clo (.func 150) [] [.loc 50001 0 0,.loc 52 0 0],.i .i64 (-1),.clo (.func 150) [] [.loc 50002 0 0,.loc 55 0 0],.i .i64 (-1),.clo (.func 150) [] [.loc 50003 0 0,.loc 58 0 0],.i .i64 (-1),.clo (.func 122) [] [.loc 7 0 0],.i .i64 11]))),.cm (.fn) [(200000,62),(200001,7),(200002,2),(200003,3),(200004,9),(200005,8),(200006,50000),(200007,45),(200008,10),(200009,50001),(200010,52),(200011,50002),(200012,55),(200013,50003),(200014,58)] [(62,200000),(7,200001),(2,200002),(3,200003),(9,200004),(8,200005),(50000,200006),(45,200007),(10,200008),(50001,200009),(52,200010),(50002,200011),(55,200012),(50003,200013),(58,200014)] [] [.d] [(200000,.var [.clo (.func 107) [] [.loc 200001 0 0],.i .i64 1,.clo (.func 108) [] [.loc 200002 0 0,.loc 200003 0 0,.loc 200004 0 0],.i .i64 5,.clo (.func 110) [] [.loc 200005 0 0,.loc 200001 0 0],.i .i64 2,.clo (.func 150) [] [.loc 200006 0 0,.loc 200007 0 0],.i .i64 (-1),.clo (.func 114) [] [.loc 200002 0 0,.loc 200003 0 0],.i .i64 2,.clo (.func 115) [] [.loc 200001 0 0,.loc 200005 0 0],.i .i64 1,.clo (.func 150) [] [.loc 200009 0 0,.loc 200010 0 0],.i .i64 (-1),.clo (.func 150) [] [.loc 200011 0 0,.loc 200012 0 0],.i .i64 (-1),.clo (.func 150) [] [.loc 200013 0 0,.loc 200014 0 0],.i .i64 (-1),.clo (.func 122) [] [.loc 200001 0 0],.i .i64 11]),(200001,.var (Qg e9)),(200002,.var (Qd n1)),(200003,.var (Qe k2)),(200004,.var [.clo (.func 106) [] [.loc 200001 0 0]]),(200005,.var (Qe (e10.Vars.length:Int))),(200006,.var [.clo (.func 112) [] [.loc 200002 0 0,.loc 200001 0 0]]),(200007,.var [.loc 200008 0 0]),(200008,.var (Qe x15.2)),(200009,.var [.clo (.func 117) [] [.loc 200002 0 0,.loc 200001 0 0,.loc 200005 0 0]]),(200010,.var [.loc 200008 0 0]),(200011,.var [.clo (.func 119) [] [.loc 200002 0 0,.loc 200001 0 0,.loc 200005 0 0]]),(200012,.var [.loc 200008 0 0]),(200013,.var [.clo (.func 120) [] [.loc 200002 0 0,.loc 200001 0 0]]),(200014,.var [.loc 200008 0 0])] (.i .i64 x15.1),.n 10] rfl ⟨⟨⟨⟨⟨⟨⟨⟨⟨⟨⟨⟨⟨⟨⟨⟨⟨⟨⟨tt_,rfl⟩,rfl⟩,rfl⟩,rfl⟩,rfl⟩,rfl⟩,(QoN _ _ _ hx11)⟩,rfl⟩,rfl⟩,rfl⟩,(QmG _ _ _ _ hx12)⟩,rfl⟩,(QmH _ _ _ _ hx13)⟩,rfl⟩,(QmI _ _ _ hx14)⟩,rfl⟩,rfl⟩,(fun σ h1 h2 hf=>Stp.buildAny rfl rfl (bleN hC.n rfl) (Qq.es rfl) QjR rfl (by decide) (by decide) (Qej h1 rfl) rfl rfl (hf rfl))⟩,(QmP _ _ _ _ _ _ _ _ _ _ _ _ _ _ _ hx15)⟩ ?_
   rcases bifE h with⟨hc16,h⟩|⟨hc16,h⟩
   ·refine Qa hC [.br true,.n 8,.keep [4] []] rfl ⟨tt_,hc16⟩ ?_
    cases h
    exact AK.done (ex_ [_] (an_ (an_ rfl tt_) (gives tt_)))
   ·refine Qa hC [.br false,.n 9,.keep [4] []] rfl ⟨tt_,hc16⟩ ?_
    cases h
    exact AK.done (ex_ [_] (an_ (an_ rfl tt_) (gives tt_)))
def Qe3 (k1:Int)(p2:Qs)(v3:TNet):Option Int:=
 (QbN v3 k1).bind fun x5=>
 some x5
theorem QoP (k1:Int)(p2:Qs)(v3:TNet){r:Int}(h:Qe3 k1 p2 v3=some r):Qc Tryz.prog 57 [.i .i64 k1,.agg (Qg p2),.loc 200000 0 0] [(200000,.var (Qd v3))] (Qh (.i .i64 r) [(200000,.var (Qd v3))]):=by
 refine Qc.walk 9 Tryz.func57 rfl Tryz.ntmps57 rfl fun C hC=>?_
 unfold Qe3 at h
 obtain⟨x5,hx5,h⟩:=Qb h
 refine Qa hC [.n 8,.v .no [] (.agg (Qd v3)),.n 1,.o (.c false [.d,.d] (.i .i64 x5)),.n 4,.keep [5] [200000]] rfl ⟨⟨tt_,rfl⟩,(Qps _ _ hx5)⟩ ?_
 cases h
 exact AK.done (ex_ [_] (an_ (an_ rfl tt_) (gives ⟨rfl,tt_⟩)))
def Qao (l1:(List Qs))(v2:TNet)(x7:Int):Option (Int⊕((Int×Int)⊕Unit)):=
 bif (decide (x7<(l1.length:Int)))then
 (idx l1 x7).bind fun e12=>
 (Qe3 x7 e12 v2).bind fun x13=>
 bif (x13 != 0)then
 some (.inr (.inl (x7,x13)))
 else
 some (.inl (w64 (x7+1)))
 else
 some (.inr (.inr ()))
def QbO (x9:Int)(x10:Int):Option (Int×Int):=
 some (x9,x10)
def QbP : Option (Int×Int):=
 some (0,0)
def Qa9 (l1:(List Qs))(v2:TNet):Option (Int×Int):=
 (QI (fun st=>Qao l1 v2 st) 0).bind (Sum.elim (fun q=>QbO q.1 q.2) (fun q=>QbP))
theorem QkX (l1:(List Qs))(v2:TNet){r:(Int×Int)}(h:Qa9 l1 v2=some r):Qc Tryz.prog 56 [.sl 14 (l1.map Qg),.clo (.func 57) [] [.loc 200000 0 0]] [(200000,.var (Qd v2))] (Qh (.tup [.i .i64 r.1,.i .i64 r.2]) [(200000,.var (Qd v2))]):=by
 refine Qc.walk 25 Tryz.func56 rfl Tryz.ntmps56 rfl fun C hC=>?_
 unfold Qa9 at h
 refine Qa hC [.n 10,.o (.ln l1.length),.n 4,.keep [1,9,10,11] [200000]] rfl ⟨tt_,Qi⟩ ?_
 obtain⟨o15,hl15,h⟩:=Qb h
 refine AK.loop (body:=(fun st=>Qao l1 v2 st)) (fun st σ=>σ=⟨[(1,.clo (.func 57) [] [.loc 200000 0 0]),(9,.sl 14 (l1.map Qg)),(10,.i .i64 (l1.length:Int)),(11,.i .i64 st)],[(200000,.var (Qd v2))]⟩) (Sum.elim (fun q e σ=>e=.ret∧σ=⟨[(4,.i .i64 q.1),(5,.i .i64 q.2)],[(200000,.var (Qd v2))]⟩) (fun q e σ=>e=.exit 0∧σ=⟨[],[(200000,.var (Qd v2))]⟩)) hl15 rfl ?_ ?_
 ·rintro x7 o σ rfl h
  replace h:Qao l1 v2 x7=some o:=h
  unfold Qao at h
  refine Qa hC [.n 6] rfl tt_ ?_
  rcases bifE h with⟨hc11,h⟩|⟨hc11,h⟩
  ·obtain⟨e12,he12,h⟩:=Qb h
   obtain⟨x13,hx13,h⟩:=Qb h
   refine Qa hC [.br true,.n 7,.o (.row (Qg e12)),.v .no [] (.agg (Qg e12)),.n 3,.sayO 7 (.var (Qg e12)),.n 6,.v .no [] (.agg (Qg e12)),.cm (.clo) [(200000,200000)] [(200000,200000)] [] [.d,.d,.d] [(200000,.var (Qd v2))] (.i .i64 x13),.n 9] rfl ⟨⟨⟨⟨⟨⟨tt_,hc11⟩,(idxM he12)⟩,rfl⟩,rfl⟩,rfl⟩,(QoP _ _ _ hx13)⟩ ?_
   rcases bifE h with⟨hc14,h⟩|⟨hc14,h⟩
   ·refine Qa hC [.br true,.n 11,.keep [4,5] [200000]] rfl ⟨tt_,hc14⟩ ?_
    cases h
    exact rndR rfl (an_ rfl rfl)
   ·refine Qa hC [.br false,.n 7,.keep [1,9,10,11] [200000]] rfl ⟨tt_,hc14⟩ ?_
    cases h
    exact rndN rfl rfl
  ·refine Qa hC [.br false,.n 2,.keep [] [200000]] rfl ⟨tt_,hc11⟩ ?_
   cases h
   exact rndX rfl (an_ rfl rfl)
 ·rcases o15 with(⟨x9,x10⟩|_)
  ·replace h:QbO x9 x10=some r:=h
   unfold QbO at h
   rintro e σ ⟨rfl,rfl⟩
   refine Qa hC [.n 2,.keep [4,5] [200000]] rfl tt_ ?_
   cases h
   exact AK.done (ex_ [_,_] (an_ (an_ rfl (an_ rfl tt_)) (gives ⟨rfl,tt_⟩)))
  ·replace h:QbP=some r:=h
   unfold QbP at h
   rintro e σ ⟨rfl,rfl⟩
   refine Qa hC [.n 9,.keep [4,5] [200000]] rfl tt_ ?_
   cases h
   exact AK.done (ex_ [_,_] (an_ (an_ rfl (an_ rfl tt_)) (gives ⟨rfl,tt_⟩)))
def QfC (n1:TNet):Option (Int×Qds):=
 (QgI n1 2 3 1).bind fun x6=>
 bif (x6 != 0)then
 some (x6,(Qds.mk 1 0))
 else
 (QdA n1).bind fun x8=>
 bif (x8.2 != 0)then
 some (x8.2,(Qds.mk 2 x8.1))
 else
 (Qb9 n1.Places n1).bind fun x10=>
 bif (x10.2 != 0)then
 some (x10.2,(Qds.mk 3 x10.1))
 else
 (Qa9 n1.Tasks n1).bind fun x12=>
 bif (x12.2 != 0)then
 some (x12.2,(Qds.mk 4 x12.1))
 else
 some (0,(Qds.mk 0 0))
theorem QpZ (n1:TNet){r:(Int×Qds)}(h:QfC n1=some r):Qc Tryz.prog 23 [.agg (Qd n1)] [] (Qh (.tup [.agg (Qch r.2),.i .i64 r.1]) []):=by
 refine Qc.walk 58 Tryz.func23 rfl Tryz.ntmps23 rfl fun C hC=>?_
 unfold QfC at h
 obtain⟨x6,hx6,h⟩:=Qb h
 refine Qa hC [.n 10,.v .no [] (.agg [.clo (.func 48) [] [.loc 1 0 0],.i .i64 2]),.n 1,.v .no [] (.agg [.clo (.func 49) [] [.loc 1 0 0],.i .i64 3]),.n 1,.v .no [] (.agg [.clo (.func 51) [] [.loc 1 0 0],.i .i64 1]),.o (.any (.own 17 3) (some (.var [.clo (.func 48) [] [.loc 1 0 0],.i .i64 2,.clo (.func 49) [] [.loc 1 0 0],.i .i64 3,.clo (.func 51) [] [.loc 1 0 0],.i .i64 1]))),.cm (.fn) [(200000,17),(200001,1)] [(17,200000),(1,200001)] [] [.d] [(200000,.var [.clo (.func 48) [] [.loc 200001 0 0],.i .i64 2,.clo (.func 49) [] [.loc 200001 0 0],.i .i64 3,.clo (.func 51) [] [.loc 200001 0 0],.i .i64 1]),(200001,.var (Qd n1))] (.i .i64 x6),.n 10] rfl ⟨⟨⟨⟨⟨tt_,rfl⟩,rfl⟩,rfl⟩,(fun σ h1 h2 hf=>Stp.buildAny rfl rfl (bleN hC.n rfl) (Qq.es rfl) QjR rfl (by decide) (by decide) (Qej h1 rfl) rfl rfl (hf rfl))⟩,(QoJ _ _ _ _ hx6)⟩ ?_
 rcases bifE h with⟨hc7,h⟩|⟨hc7,h⟩
 ·refine Qa hC [.br true,.n 2,.v .no [] (.agg (Qch (Qds.mk 1 0))),.n 2,.sayO 2 (.var (Qch (Qds.mk 1 0))),.n 5,.keep [2,3] [2]] rfl ⟨⟨⟨tt_,hc7⟩,rfl⟩,rfl⟩ ?_
  cases h
  exact AK.done (ex_ [_,_] (an_ (an_ (ex_ _ (ex_ _ (an_ rfl (an_ rfl (Or.inl (an_ (Qq.ag rfl) (an_ (Qq.sz rfl) rfl))))))) (an_ rfl tt_)) (gives tt_)))
 ·obtain⟨x8,hx8,h⟩:=Qb h
  refine Qa hC [.br false,.n 5,.v .no [] (.agg (Qd n1)),.o (.c false [.d] (.tup [.i .i64 x8.1,.i .i64 x8.2])),.n 13] rfl ⟨⟨⟨tt_,hc7⟩,rfl⟩,(QjU _ hx8)⟩ ?_
  rcases bifE h with⟨hc9,h⟩|⟨hc9,h⟩
  ·refine Qa hC [.br true,.n 3,.v .no [] (.agg (Qch (Qds.mk 2 x8.1))),.n 2,.sayO 2 (.var (Qch (Qds.mk 2 x8.1))),.n 5,.keep [2,3] [2]] rfl ⟨⟨⟨tt_,hc9⟩,rfl⟩,rfl⟩ ?_
   cases h
   exact AK.done (ex_ [_,_] (an_ (an_ (ex_ _ (ex_ _ (an_ rfl (an_ rfl (Or.inl (an_ (Qq.ag rfl) (an_ (Qq.sz rfl) rfl))))))) (an_ rfl tt_)) (gives tt_)))
  ·obtain⟨x10,hx10,h⟩:=Qb h
   refine Qa hC [.br false,.n 8,.cm (.fn) [(200000,1)] [(1,200000)] [] [.d,.d] [(200000,.var (Qd n1))] (.tup [.i .i64 x10.1,.i .i64 x10.2]),.n 13] rfl ⟨⟨tt_,hc9⟩,(Qkm _ _ hx10)⟩ ?_
   rcases bifE h with⟨hc11,h⟩|⟨hc11,h⟩
   ·refine Qa hC [.br true,.n 3,.v .no [] (.agg (Qch (Qds.mk 3 x10.1))),.n 2,.sayO 2 (.var (Qch (Qds.mk 3 x10.1))),.n 5,.keep [2,3] [2]] rfl ⟨⟨⟨tt_,hc11⟩,rfl⟩,rfl⟩ ?_
    cases h
    exact AK.done (ex_ [_,_] (an_ (an_ (ex_ _ (ex_ _ (an_ rfl (an_ rfl (Or.inl (an_ (Qq.ag rfl) (an_ (Qq.sz rfl) rfl))))))) (an_ rfl tt_)) (gives tt_)))
   ·obtain⟨x12,hx12,h⟩:=Qb h
    refine Qa hC [.br false,.n 8,.cm (.fn) [(200000,1)] [(1,200000)] [] [.d,.d] [(200000,.var (Qd n1))] (.tup [.i .i64 x12.1,.i .i64 x12.2]),.n 13] rfl ⟨⟨tt_,hc11⟩,(QkX _ _ hx12)⟩ ?_
    rcases bifE h with⟨hc13,h⟩|⟨hc13,h⟩
    ·refine Qa hC [.br true,.n 3,.v .no [] (.agg (Qch (Qds.mk 4 x12.1))),.n 2,.sayO 2 (.var (Qch (Qds.mk 4 x12.1))),.n 5,.keep [2,3] [2]] rfl ⟨⟨⟨tt_,hc13⟩,rfl⟩,rfl⟩ ?_
     cases h
     exact AK.done (ex_ [_,_] (an_ (an_ (ex_ _ (ex_ _ (an_ rfl (an_ rfl (Or.inl (an_ (Qq.ag rfl) (an_ (Qq.sz rfl) rfl))))))) (an_ rfl tt_)) (gives tt_)))
    ·refine Qa hC [.br false,.n 4,.v .no [] (.agg (Qch (Qds.mk 0 0))),.n 1,.sayO 2 (.var (Qch (Qds.mk 0 0))),.n 4,.keep [2,3] [2]] rfl ⟨⟨⟨tt_,hc13⟩,rfl⟩,rfl⟩ ?_
     cases h
     exact AK.done (ex_ [_,_] (an_ (an_ (ex_ _ (ex_ _ (an_ rfl (an_ rfl (Or.inl (an_ (Qq.ag rfl) (an_ (Qq.sz rfl) rfl))))))) (an_ rfl tt_)) (gives tt_)))

end Go.Proofs
