/- What functions of the program do, as functions over plain data, and the walks that show it: printed by a program. -/
import Derived.Test.YtpijolohkdchcaaGreatDoorT2
set_option linter.unusedVariables false
set_option linter.unusedSimpArgs false
set_option linter.unusedSectionVars false
set_option linter.deprecated false
set_option maxRecDepth 100000
set_option maxHeartbeats 4000000
noncomputable section
namespace Go.Proofs
open Go Go.RowKit Go.Vm
def QeM (v1 : TVar) (v2 : Int) (v3 : (List TVar)) (v4 : Int) (v5 : Int) (v6 : TNet) (v7 : Int) : Option Int :=
 (Qco v1).bind fun x10 =>
 bif (!x10) then
 some v2
 else
 (Qcq v3 v4 v1).bind fun x12 =>
 bif (!x12) then
 some v5
 else
 (Qcr v6 v1).bind fun x14 =>
 bif (!x14) then
 some v7
 else
 some 0
theorem QnB (v1 : TVar) (v2 : Int) (v3 : (List TVar)) (v4 : Int) (v5 : Int) (v6 : TNet) (v7 : Int) {r : Int} (h : QeM v1 v2 v3 v4 v5 v6 v7 = some r) : Qc Tryz.prog 57 [.own 200000 3] [(200000, .var [.clo (.func 174) [] [.loc 200001 0 0], .i .i64 v2, .clo (.func 175) [] [.loc 200002 0 0, .loc 200003 0 0, .loc 200004 0 0], .i .i64 v5, .clo (.func 177) [] [.loc 200005 0 0, .loc 200001 0 0], .i .i64 v7]), (200001, .var (QB v1)), (200002, .var (Qbn v3)), (200003, .var (Qe v4)), (200004, .var [.clo (.func 173) [] [.loc 200001 0 0]]), (200005, .var (Qd v6))] (Gives (.i .i64 r) [(200000, .var [.clo (.func 174) [] [.loc 200001 0 0], .i .i64 v2, .clo (.func 175) [] [.loc 200002 0 0, .loc 200003 0 0, .loc 200004 0 0], .i .i64 v5, .clo (.func 177) [] [.loc 200005 0 0, .loc 200001 0 0], .i .i64 v7]), (200001, .var (QB v1)), (200002, .var (Qbn v3)), (200003, .var (Qe v4)), (200004, .var [.clo (.func 173) [] [.loc 200001 0 0]]), (200005, .var (Qd v6))]) := by
 refine Qc.walk 18 Tryz.func57 rfl Tryz.ntmps57 rfl fun C hC => ?_
 unfold QeM at h
 refine Qa hC [.n 14] rfl tt_ ?_
 refine AK.loopN 4 (AK.rnd ?_)
 obtain ⟨x10, hx10, h⟩ := Qb h
 refine Qa hC [.n 2, .v .no [] (.b true), .n 10, .o (.any (.loc 200000 0 0) none), .n 3, .sayO 4 (.var [.clo (.func 174) [] [.loc 200001 0 0], .i .i64 v2]), .n 6, .cm (.clo) [(200000, 200001)] [(200001, 200000)] [] [.d] [(200000, .var (QB v1))] (.b x10), .n 3] rfl ⟨⟨⟨⟨tt_, rfl⟩, (fun σ h1 h2 _ => Stp.idxV rfl rfl (bleN hC.n rfl) (h1 _ _ rfl) (h1 _ _ rfl) (Qo.es rfl) (h2 _ _ rfl) (by decide))⟩, rfl⟩, (QlA _ hx10)⟩ ?_
 rcases bifE h with ⟨hc11, h⟩ | ⟨hc11, h⟩
 ·refine Qa hC [.br true, .n 13, .keep [2] [200000, 200001, 200002, 200003, 200004, 200005]] rfl ⟨tt_, hc11⟩ ?_
  cases h
  exact AK.done (ex_ [_] (an_ (an_ rfl tt_) (gives ⟨rfl, rfl, rfl, rfl, rfl, rfl, tt_⟩)))
 ·refine Qa hC [.br false, .n 4, .v .no [] (.i .i64 1), .n 2] rfl ⟨⟨tt_, hc11⟩, rfl⟩ ?_
  refine AK.met (AK.rnd ?_)
  obtain ⟨x12, hx12, h⟩ := Qb h
  refine Qa hC [.n 2, .v .no [] (.b true), .n 10, .o (.any (.loc 200000 0 2) none), .n 1, .kill 4, .n 2, .sayO 4 (.var [.clo (.func 175) [] [.loc 200002 0 0, .loc 200003 0 0, .loc 200004 0 0], .i .i64 v5]), .n 6, .cm (.clo) [(200000, 200002), (200001, 200003), (200002, 200004), (200003, 200001)] [(200002, 200000), (200003, 200001), (200004, 200002), (200001, 200003)] [] [.d, .d, .d] [(200000, .var (Qbn v3)), (200001, .var (Qe v4)), (200002, .var [.clo (.func 173) [] [.loc 200003 0 0]]), (200003, .var (QB v1))] (.b x12), .n 3] rfl ⟨⟨⟨⟨tt_, rfl⟩, (fun σ h1 h2 _ => Stp.idxV rfl rfl (bleN hC.n rfl) (h1 _ _ rfl) (h1 _ _ rfl) (Qo.es rfl) (h2 _ _ rfl) (by decide))⟩, rfl⟩, (QlC _ _ _ hx12)⟩ ?_
  rcases bifE h with ⟨hc13, h⟩ | ⟨hc13, h⟩
  ·refine Qa hC [.br true, .n 13, .keep [2] [200000, 200001, 200002, 200003, 200004, 200005]] rfl ⟨tt_, hc13⟩ ?_
   cases h
   exact AK.done (ex_ [_] (an_ (an_ rfl tt_) (gives ⟨rfl, rfl, rfl, rfl, rfl, rfl, tt_⟩)))
  ·refine Qa hC [.br false, .n 4, .v .no [] (.i .i64 2), .n 2] rfl ⟨⟨tt_, hc13⟩, rfl⟩ ?_
   refine AK.met (AK.rnd ?_)
   obtain ⟨x14, hx14, h⟩ := Qb h
   refine Qa hC [.n 2, .v .no [] (.b true), .n 10, .o (.any (.loc 200000 0 4) none), .n 1, .kill 4, .n 2, .sayO 4 (.var [.clo (.func 177) [] [.loc 200005 0 0, .loc 200001 0 0], .i .i64 v7]), .n 6, .cm (.clo) [(200000, 200005), (200001, 200001)] [(200005, 200000), (200001, 200001)] [] [.d, .d] [(200000, .var (Qd v6)), (200001, .var (QB v1))] (.b x14), .n 3] rfl ⟨⟨⟨⟨tt_, rfl⟩, (fun σ h1 h2 _ => Stp.idxV rfl rfl (bleN hC.n rfl) (h1 _ _ rfl) (h1 _ _ rfl) (Qo.es rfl) (h2 _ _ rfl) (by decide))⟩, rfl⟩, (QlD _ _ hx14)⟩ ?_
   rcases bifE h with ⟨hc15, h⟩ | ⟨hc15, h⟩
   ·refine Qa hC [.br true, .n 13, .keep [2] [200000, 200001, 200002, 200003, 200004, 200005]] rfl ⟨tt_, hc15⟩ ?_
    cases h
    exact AK.done (ex_ [_] (an_ (an_ rfl tt_) (gives ⟨rfl, rfl, rfl, rfl, rfl, rfl, tt_⟩)))
   ·refine Qa hC [.br false, .n 4, .v .no [] (.i .i64 3), .n 2] rfl ⟨⟨tt_, hc15⟩, rfl⟩ ?_
    refine AK.met (AK.rnd ?_)
    refine Qa hC [.n 2, .v .no [] (.b false), .n 15, .keep [2] [200000, 200001, 200002, 200003, 200004, 200005]] rfl ⟨tt_, rfl⟩ ?_
    cases h
    exact AK.done (ex_ [_] (an_ (an_ rfl tt_) (gives ⟨rfl, rfl, rfl, rfl, rfl, rfl, tt_⟩)))
def QcT (k1 : Int) (v2 : TVar) (v3 : (List TVar)) (v4 : TNet) : Option Int :=
 (QeM v2 1 v3 k1 5 v4 3).bind fun x6 =>
 some x6
theorem Qml (k1 : Int) (v2 : TVar) (v3 : (List TVar)) (v4 : TNet) {r : Int} (h : QcT k1 v2 v3 v4 = some r) : Qc Tryz.prog 172 [.i .i64 k1, .agg (QB v2), .loc 200000 0 0, .loc 200001 0 0] [(200000, .var (Qbn v3)), (200001, .var (Qd v4))] (Gives (.i .i64 r) [(200000, .var (Qbn v3)), (200001, .var (Qd v4))]) := by
 refine Qc.walk 17 Tryz.func172 rfl Tryz.ntmps172 rfl fun C hC => ?_
 unfold QcT at h
 obtain ⟨x6, hx6, h⟩ := Qb h
 refine Qa hC [.n 12, .sayO 7 (.var [.clo (.func 173) [] [.loc 5 0 0]]), .n 5, .v .no [] (.agg [.clo (.func 174) [] [.loc 5 0 0], .i .i64 1]), .n 1, .v .no [] (.agg [.clo (.func 175) [] [.loc 200000 0 0, .loc 4 0 0, .loc 7 0 0], .i .i64 5]), .n 1, .v .no [] (.agg [.clo (.func 177) [] [.loc 200001 0 0, .loc 5 0 0], .i .i64 3]), .o (.any (.own 15 3) (some (.var [.clo (.func 174) [] [.loc 5 0 0], .i .i64 1, .clo (.func 175) [] [.loc 200000 0 0, .loc 4 0 0, .loc 7 0 0], .i .i64 5, .clo (.func 177) [] [.loc 200001 0 0, .loc 5 0 0], .i .i64 3]))), .cm (.fn) [(200000, 15), (200001, 5), (200002, 200000), (200003, 4), (200004, 7), (200005, 200001)] [(15, 200000), (5, 200001), (200000, 200002), (4, 200003), (7, 200004), (200001, 200005)] [] [.d] [(200000, .var [.clo (.func 174) [] [.loc 200001 0 0], .i .i64 1, .clo (.func 175) [] [.loc 200002 0 0, .loc 200003 0 0, .loc 200004 0 0], .i .i64 5, .clo (.func 177) [] [.loc 200005 0 0, .loc 200001 0 0], .i .i64 3]), (200001, .var (QB v2)), (200002, .var (Qbn v3)), (200003, .var (Qe k1)), (200004, .var [.clo (.func 173) [] [.loc 200001 0 0]]), (200005, .var (Qd v4))] (.i .i64 x6), .n 4, .keep [6] [200000, 200001]] rfl ⟨⟨⟨⟨⟨⟨tt_, rfl⟩, rfl⟩, rfl⟩, rfl⟩, (fun σ h1 h2 hf => Stp.buildAny rfl rfl (bleN hC.n rfl) (Qo.es rfl) Qkv rfl (by decide) (by decide) (Qer h1 rfl) rfl rfl (hf rfl))⟩, (QnB _ _ _ _ _ _ _ hx6)⟩ ?_
 cases h
 exact AK.done (ex_ [_] (an_ (an_ rfl tt_) (gives ⟨rfl, rfl, tt_⟩)))
def Qba (l1 : (List TVar)) (v2 : (List TVar)) (v3 : TNet) (x8 : Int) : Option (Int ⊕ ((Int × Int) ⊕ Unit)) :=
 bif (decide (x8 < (l1.length : Int))) then
 (idx l1 x8).bind fun e13 =>
 (QcT x8 e13 v2 v3).bind fun x14 =>
 bif (x14 != 0) then
 some (.inr (.inl (x8, x14)))
 else
 some (.inl (w64 (x8 + 1)))
 else
 some (.inr (.inr ()))
def QbM (x10 : Int) (x11 : Int) : Option (Int × Int) :=
 some (x10, x11)
def QbN : Option (Int × Int) :=
 some (0, 0)
def QcF (l1 : (List TVar)) (v2 : (List TVar)) (v3 : TNet) : Option (Int × Int) :=
 (QE (fun st => Qba l1 v2 v3 st) 0).bind (Sum.elim (fun q => QbM q.1 q.2) (fun q => QbN))
theorem QlQ (l1 : (List TVar)) (v2 : (List TVar)) (v3 : TNet) {r : (Int × Int)} (h : QcF l1 v2 v3 = some r) : Qc Tryz.prog 171 [.sl 2 (l1.map QB), .clo (.func 172) [] [.loc 200000 0 0, .loc 200001 0 0]] [(200000, .var (Qbn v2)), (200001, .var (Qd v3))] (Gives (.tup [.i .i64 r.1, .i .i64 r.2]) [(200000, .var (Qbn v2)), (200001, .var (Qd v3))]) := by
 refine Qc.walk 25 Tryz.func171 rfl Tryz.ntmps171 rfl fun C hC => ?_
 unfold QcF at h
 refine Qa hC [.n 10, .o (.ln l1.length), .n 4, .keep [1, 9, 10, 11] [200000, 200001]] rfl ⟨tt_, Qg⟩ ?_
 obtain ⟨o16, hl16, h⟩ := Qb h
 refine AK.loop (body := (fun st => Qba l1 v2 v3 st)) (fun st σ => σ = ⟨[(1, .clo (.func 172) [] [.loc 200000 0 0, .loc 200001 0 0]), (9, .sl 2 (l1.map QB)), (10, .i .i64 (l1.length : Int)), (11, .i .i64 st)], [(200000, .var (Qbn v2)), (200001, .var (Qd v3))]⟩) (Sum.elim (fun q e σ => e = .ret ∧ σ = ⟨[(4, .i .i64 q.1), (5, .i .i64 q.2)], [(200000, .var (Qbn v2)), (200001, .var (Qd v3))]⟩) (fun q e σ => e = .exit 0 ∧ σ = ⟨[], [(200000, .var (Qbn v2)), (200001, .var (Qd v3))]⟩)) hl16 rfl ?_ ?_
 ·rintro x8 o σ rfl h
  replace h : Qba l1 v2 v3 x8 = some o := h
  unfold Qba at h
  refine Qa hC [.n 6] rfl tt_ ?_
  rcases bifE h with ⟨hc12, h⟩ | ⟨hc12, h⟩
  ·obtain ⟨e13, he13, h⟩ := Qb h
   obtain ⟨x14, hx14, h⟩ := Qb h
   refine Qa hC [.br true, .n 7, .o (.row (QB e13)), .v .no [] (.agg (QB e13)), .n 3, .sayO 7 (.var (QB e13)), .n 6, .v .no [] (.agg (QB e13)), .cm (.clo) [(200000, 200000), (200001, 200001)] [(200000, 200000), (200001, 200001)] [] [.d, .d, .d, .d] [(200000, .var (Qbn v2)), (200001, .var (Qd v3))] (.i .i64 x14), .n 9] rfl ⟨⟨⟨⟨⟨⟨tt_, hc12⟩, (idxM he13)⟩, rfl⟩, rfl⟩, rfl⟩, (Qml _ _ _ _ hx14)⟩ ?_
   rcases bifE h with ⟨hc15, h⟩ | ⟨hc15, h⟩
   ·refine Qa hC [.br true, .n 11, .keep [4, 5] [200000, 200001]] rfl ⟨tt_, hc15⟩ ?_
    cases h
    exact rndR rfl (an_ rfl rfl)
   ·refine Qa hC [.br false, .n 7, .keep [1, 9, 10, 11] [200000, 200001]] rfl ⟨tt_, hc15⟩ ?_
    cases h
    exact rndN rfl rfl
  ·refine Qa hC [.br false, .n 2, .keep [] [200000, 200001]] rfl ⟨tt_, hc12⟩ ?_
   cases h
   exact rndX rfl (an_ rfl rfl)
 ·rcases o16 with (⟨x10, x11⟩ | _)
  ·replace h : QbM x10 x11 = some r := h
   unfold QbM at h
   rintro e σ ⟨rfl, rfl⟩
   refine Qa hC [.n 2, .keep [4, 5] [200000, 200001]] rfl tt_ ?_
   cases h
   exact AK.done (ex_ [_, _] (an_ (an_ rfl (an_ rfl tt_)) (gives ⟨rfl, rfl, tt_⟩)))
  ·replace h : QbN = some r := h
   unfold QbN at h
   rintro e σ ⟨rfl, rfl⟩
   refine Qa hC [.n 9, .keep [4, 5] [200000, 200001]] rfl tt_ ?_
   cases h
   exact AK.done (ex_ [_, _] (an_ (an_ rfl (an_ rfl tt_)) (gives ⟨rfl, rfl, tt_⟩)))
def QdZ (n1 : TNet) (l2 : (List TVar)) : Option Int :=
 (QcF l2 l2 n1).bind fun x4 =>
 some x4.2
theorem Qnf (n1 : TNet) (l2 : (List TVar)) {r : Int} (h : QdZ n1 l2 = some r) : Qc Tryz.prog 125 [.agg (Qd n1), .sl 2 (l2.map QB)] [] (Gives (.i .i64 r) []) := by
 refine Qc.walk 14 Tryz.func125 rfl Tryz.ntmps125 rfl fun C hC => ?_
 unfold QdZ at h
 obtain ⟨x4, hx4, h⟩ := Qb h
 refine Qa hC [.n 11, .cm (.fn) [(200000, 3), (200001, 2)] [(3, 200000), (2, 200001)] [] [.d, .d] [(200000, .var (Qbn l2)), (200001, .var (Qd n1))] (.tup [.i .i64 x4.1, .i .i64 x4.2]), .n 14, .keep [4] []] rfl ⟨tt_, (QlQ _ _ _ hx4)⟩ ?_
 cases h
 exact AK.done (ex_ [_] (an_ (an_ rfl tt_) (gives tt_)))
def Qgo (v1 : TNet) (v2 : Qr) : Option Int :=
 (QdZ v1 v2.Vars).bind fun x4 =>
 some x4
theorem QoW (v1 : TNet) (v2 : Qr) {r : Int} (h : Qgo v1 v2 = some r) : Qc Tryz.prog 124 [.loc 200000 0 0, .loc 200001 0 0] [(200000, .var (Qd v1)), (200001, .var (Qi v2))] (Gives (.i .i64 r) [(200000, .var (Qd v1)), (200001, .var (Qi v2))]) := by
 refine Qc.walk 7 Tryz.func124 rfl Tryz.ntmps124 rfl fun C hC => ?_
 unfold Qgo at h
 obtain ⟨x4, hx4, h⟩ := Qb h
 refine Qa hC [.n 7, .v .no [] (.agg (Qd v1)), .n 2, .o (.c false [.d, .d] (.i .i64 x4)), .n 4, .keep [2] [200000, 200001]] rfl ⟨⟨tt_, rfl⟩, (Qnf _ _ hx4)⟩ ?_
 cases h
 exact AK.done (ex_ [_] (an_ (an_ rfl tt_) (gives ⟨rfl, rfl, tt_⟩)))
def QfA (v1 : TNet) (v2 : Qr) (v3 : Int) : Option (Bool × Int) :=
 (Qgo v1 v2).bind fun x6 =>
 some ((x6 == 0), x6)
theorem Qoe (v1 : TNet) (v2 : Qr) (v3 : Int) {r : (Bool × Int)} (h : QfA v1 v2 v3 = some r) : Qc Tryz.prog 170 [.loc 200000 0 0, .loc 200003 0 0] [(200000, .var [.clo (.func 124) [] [.loc 200001 0 0, .loc 200002 0 0]]), (200001, .var (Qd v1)), (200002, .var (Qi v2)), (200003, .var [.loc 200004 0 0]), (200004, .var (Qe v3))] (Gives (.b r.1) [(200000, .var [.clo (.func 124) [] [.loc 200001 0 0, .loc 200002 0 0]]), (200001, .var (Qd v1)), (200002, .var (Qi v2)), (200003, .var [.loc 200004 0 0]), (200004, .var (Qe r.2))]) := by
 refine Qc.walk 11 Tryz.func170 rfl Tryz.ntmps170 rfl fun C hC => ?_
 unfold QfA at h
 obtain ⟨x6, hx6, h⟩ := Qb h
 refine Qa hC [.n 6, .keep [0, 1] [200000, 200001, 200002, 200003, 200004]] rfl tt_ ?_
 refine AK.draw2 Qo hC mixed [.a .no none false, .a .no none false, .a (.any (.i .i64 x6) none) none false, .a .no none false, .m .s] [] [] [1] [200000, 200001, 200002, 200003, 200004] rfl rfl rfl ⟨tt_, (fun σ h1 h2 _ => Stp.callSame (md := .cm (.clo) [(200000, 200001), (200001, 200002)] [(200001, 200000), (200002, 200001)] [] [.d, .d] [(200000, .var (Qd v1)), (200001, .var (Qi v2))] (.i .i64 x6) [200001, 200002]) Qo hC h1 h2 rfl ⟨⟨tt_, (QoW _ _ hx6)⟩, ⟨rfl, rfl, tt_⟩⟩)⟩ rfl (by kernel_rfl) rfl rfl rfl ?_
 refine Qa hC [.sayO 200004 (.var (Qe x6)), .n 11, .keep [2] [200000, 200001, 200002, 200003, 200004]] rfl ⟨tt_, rfl⟩ ?_
 cases h
 exact AK.done (ex_ [_] (an_ (an_ rfl tt_) (gives ⟨rfl, rfl, rfl, rfl, rfl, tt_⟩)))
def Qc9 (e7 : Qr) (n1 : TNet) (out8 : Int) (x9 : Int) : Option ((Int × Int) ⊕ (Unit ⊕ Int)) :=
 bif (decide (x9 < (e7.Vars.length : Int))) then
 (idx e7.Vars x9).bind fun e14 =>
 (QcO n1.Colours e14.Colour).bind fun x15 =>
 bif (x15 == 0) then
 some (.inr (.inl ()))
 else
 some (.inl ((min2 (w64 (out8 * x15)) 1025), (w64 (x9 + 1))))
 else
 some (.inr (.inr out8))
def QeN : Option Int :=
 some 0
def QeO (out12 : Int) : Option Int :=
 some out12
def Qfe (n1 : TNet) (k2 : Int) : Option Int :=
 (Qbm n1.Tasks k2).bind fun x5 =>
 bif (!x5) then
 some 0
 else
 (idx n1.Tasks k2).bind fun e7 =>
 (QE (fun st => Qc9 e7 n1 st.1 st.2) (1, 0)).bind (Sum.elim (fun q => QeN) (fun q => QeO q))
theorem QlE (n1 : TNet) (k2 : Int) {r : Int} (h : Qfe n1 k2 = some r) : Qc Tryz.prog 33 [.agg (Qd n1), .i .i64 k2] [] (Gives (.i .i64 r) []) := by
 refine Qc.walk 38 Tryz.func33 rfl Tryz.ntmps33 rfl fun C hC => ?_
 unfold Qfe at h
 obtain ⟨x5, hx5, h⟩ := Qb h
 refine Qa hC [.n 12, .o (.c false [.d, .d] (.b x5)), .n 3] rfl ⟨tt_, (QhB _ _ hx5)⟩ ?_
 rcases bifE h with ⟨hc6, h⟩ | ⟨hc6, h⟩
 ·refine Qa hC [.br true, .n 7, .keep [4] []] rfl ⟨tt_, hc6⟩ ?_
  cases h
  exact AK.done (ex_ [_] (an_ (an_ rfl tt_) (gives tt_)))
 ·obtain ⟨e7, he7, h⟩ := Qb h
  refine Qa hC [.br false, .n 13, .o (.row (Qi e7)), .n 2, .o (.ln e7.Vars.length), .n 4, .keep [2, 5, 19, 20, 21] [2]] rfl ⟨⟨⟨tt_, hc6⟩, (idxM he7)⟩, Qg⟩ ?_
  obtain ⟨o17, hl17, h⟩ := Qb h
  refine AK.loop (body := (fun st => Qc9 e7 n1 st.1 st.2)) (fun st σ => σ = ⟨[(2, .loc 2 0 0), (5, .i .i64 st.1), (19, .sl 2 (e7.Vars.map QB)), (20, .i .i64 (e7.Vars.length : Int)), (21, .i .i64 st.2)], [(2, .var (Qd n1))]⟩) (Sum.elim (fun q e σ => e = .ret ∧ σ = ⟨[(4, .i .i64 0)], []⟩) (fun q e σ => e = .exit 0 ∧ σ = ⟨[(5, .i .i64 q)], []⟩)) hl17 rfl ?_ ?_
  ·rintro ⟨out8, x9⟩ o σ rfl h
   replace h : Qc9 e7 n1 out8 x9 = some o := h
   unfold Qc9 at h
   refine Qa hC [.n 6] rfl tt_ ?_
   rcases bifE h with ⟨hc13, h⟩ | ⟨hc13, h⟩
   ·obtain ⟨e14, he14, h⟩ := Qb h
    obtain ⟨x15, hx15, h⟩ := Qb h
    refine Qa hC [.br true, .n 6, .o (.row (QB e14)), .v .no [] (.agg (QB e14)), .n 2, .sayO 7 (.var (QB e14)), .n 8, .o (.c false [.d, .d] (.i .i64 x15)), .n 10] rfl ⟨⟨⟨⟨⟨tt_, hc13⟩, (idxM he14)⟩, rfl⟩, rfl⟩, (QgK _ _ hx15)⟩ ?_
    rcases bifE h with ⟨hc16, h⟩ | ⟨hc16, h⟩
    ·refine Qa hC [.br true, .n 9, .keep [4] []] rfl ⟨tt_, hc16⟩ ?_
     cases h
     exact rndR rfl (an_ rfl rfl)
    ·refine Qa hC [.br false, .n 15, .keep [2, 5, 19, 20, 21] [2]] rfl ⟨tt_, hc16⟩ ?_
     cases h
     exact rndN rfl rfl
   ·refine Qa hC [.br false, .n 2, .keep [5] []] rfl ⟨tt_, hc13⟩ ?_
    cases h
    exact rndX rfl (an_ rfl rfl)
  ·rcases o17 with (_ | out12)
   ·replace h : QeN = some r := h
    unfold QeN at h
    rintro e σ ⟨rfl, rfl⟩
    refine Qa hC [.n 2, .keep [4] []] rfl tt_ ?_
    cases h
    exact AK.done (ex_ [_] (an_ (an_ rfl tt_) (gives tt_)))
   ·replace h : QeO out12 = some r := h
    unfold QeO at h
    rintro e σ ⟨rfl, rfl⟩
    refine Qa hC [.n 9, .keep [4] []] rfl tt_ ?_
    cases h
    exact AK.done (ex_ [_] (an_ (an_ rfl tt_) (gives tt_)))
def Qgp (v1 : TNet) (v2 : Int) : Option Bool :=
 (Qfe v1 v2).bind fun x4 =>
 some (decide (x4 ≤ 1024))
theorem QoX (v1 : TNet) (v2 : Int) {r : Bool} (h : Qgp v1 v2 = some r) : Qc Tryz.prog 126 [.loc 200000 0 0, .loc 200001 0 0] [(200000, .var (Qd v1)), (200001, .var (Qe v2))] (Gives (.b r) [(200000, .var (Qd v1)), (200001, .var (Qe v2))]) := by
 refine Qc.walk 7 Tryz.func126 rfl Tryz.ntmps126 rfl fun C hC => ?_
 unfold Qgp at h
 obtain ⟨x4, hx4, h⟩ := Qb h
 refine Qa hC [.n 7, .v .no [] (.agg (Qd v1)), .n 1, .o (.c false [.d, .d] (.i .i64 x4)), .n 5, .keep [2] [200000, 200001]] rfl ⟨⟨tt_, rfl⟩, (QlE _ _ hx4)⟩ ?_
 cases h
 exact AK.done (ex_ [_] (an_ (an_ rfl tt_) (gives ⟨rfl, rfl, tt_⟩)))
def Qit (v1 : Qr) (v2 : Int) : Option Bool :=
 (Qey v1.Guard v2).bind fun x6 =>
 bif x6 then
 bif (decide (0 < (v1.Ins.length : Int))) then
 some (decide (0 < (v1.Outs.length : Int)))
 else
 some false
 else
 some false
def Qd0 (x4 : Bool) : Option Bool :=
 some x4
def Qgq (v1 : Qr) (v2 : Int) : Option Bool :=
 (Qit v1 v2).bind (fun x4 => Qd0 x4)
theorem QoY (v1 : Qr) (v2 : Int) {r : Bool} (h : Qgq v1 v2 = some r) : Qc Tryz.prog 127 [.loc 200000 0 0, .loc 200001 0 0] [(200000, .var (Qi v1)), (200001, .var (Qe v2))] (Gives (.b r) [(200000, .var (Qi v1)), (200001, .var (Qe v2))]) := by
 refine Qc.walk 19 Tryz.func127 rfl Tryz.ntmps127 rfl fun C hC => ?_
 unfold Qgq at h
 refine Qa hC [.n 6] rfl tt_ ?_
 obtain ⟨x4, hv5, h⟩ := Qb h
 replace h : Qd0 x4 = some r := h
 refine AK.meetX (fun σ => σ = ⟨[(2, .b x4)], [(200000, .var (Qi v1)), (200001, .var (Qe v2))]⟩) ?_ ?_
 ·replace h := hv5
  unfold Qit at h
  obtain ⟨x6, hx6, h⟩ := Qb h
  refine Qa hC [.n 2, .v .no [] (.agg (Ql v1.Guard)), .n 1, .o (.c false [.d, .d] (.b x6)), .n 1] rfl ⟨⟨tt_, rfl⟩, (Qjv _ _ hx6)⟩ ?_
  rcases bifE h with ⟨hc7, h⟩ | ⟨hc7, h⟩
  ·refine Qa hC [.say 7 (.b true), .n 2, .o (.ln v1.Ins.length), .n 3] rfl ⟨⟨tt_, (congrArg V.b hc7)⟩, Qg⟩ ?_
   rcases bifE h with ⟨hc8, h⟩ | ⟨hc8, h⟩
   ·refine Qa hC [.say 13 (.b true), .n 2, .o (.ln v1.Outs.length), .n 4, .keep [2] [200000, 200001]] rfl ⟨⟨tt_, (congrArg V.b hc8)⟩, Qg⟩ ?_
    cases h
    exact AK.met rfl
   ·refine Qa hC [.say 13 (.b false), .n 7, .keep [2] [200000, 200001]] rfl ⟨tt_, (congrArg V.b hc8)⟩ ?_
    cases h
    exact AK.met rfl
  ·refine Qa hC [.say 7 (.b false), .n 13, .keep [2] [200000, 200001]] rfl ⟨tt_, (congrArg V.b hc7)⟩ ?_
   cases h
   exact AK.met rfl
 ·rintro σ rfl
  replace h : Qd0 x4 = some r := h
  unfold Qd0 at h
  refine Qa hC [.n 2, .keep [2] [200000, 200001]] rfl tt_ ?_
  cases h
  exact AK.done (ex_ [_] (an_ (an_ rfl tt_) (gives ⟨rfl, rfl, tt_⟩)))
def QeP (v1 : TNet) (v2 : TArc) : Option Bool :=
 (Qac v1.Places v2.Place).bind fun x4 =>
 some x4
theorem QnC (v1 : TNet) (v2 : TArc) {r : Bool} (h : QeP v1 v2 = some r) : Qc Tryz.prog 183 [.loc 200000 0 0, .loc 200001 0 0] [(200000, .var (Qd v1)), (200001, .var (QN v2))] (Gives (.b r) [(200000, .var (Qd v1)), (200001, .var (QN v2))]) := by
 refine Qc.walk 8 Tryz.func183 rfl Tryz.ntmps183 rfl fun C hC => ?_
 unfold QeP at h
 obtain ⟨x4, hx4, h⟩ := Qb h
 refine Qa hC [.n 11, .o (.c false [.d, .d] (.b x4)), .n 4, .keep [2] [200000, 200001]] rfl ⟨tt_, (Qbh _ _ hx4)⟩ ?_
 cases h
 exact AK.done (ex_ [_] (an_ (an_ rfl tt_) (gives ⟨rfl, rfl, tt_⟩)))
def QeQ (v1 : TArc) (v2 : Int) : Option Bool :=
 (Qey v1.Expr v2).bind fun x4 =>
 some x4
theorem QnD (v1 : TArc) (v2 : Int) {r : Bool} (h : QeQ v1 v2 = some r) : Qc Tryz.prog 184 [.loc 200000 0 0, .loc 200001 0 0] [(200000, .var (QN v1)), (200001, .var (Qe v2))] (Gives (.b r) [(200000, .var (QN v1)), (200001, .var (Qe v2))]) := by
 refine Qc.walk 7 Tryz.func184 rfl Tryz.ntmps184 rfl fun C hC => ?_
 unfold QeQ at h
 obtain ⟨x4, hx4, h⟩ := Qb h
 refine Qa hC [.n 8, .v .no [] (.agg (Ql v1.Expr)), .n 1, .o (.c false [.d, .d] (.b x4)), .n 4, .keep [2] [200000, 200001]] rfl ⟨⟨tt_, rfl⟩, (Qjv _ _ hx4)⟩ ?_
 cases h
 exact AK.done (ex_ [_] (an_ (an_ rfl tt_) (gives ⟨rfl, rfl, tt_⟩)))
def QeR (v1 : TNet) (v2 : TArc) (v3 : Int) (v4 : Int) (v5 : Int) : Option Int :=
 (QeP v1 v2).bind fun x8 =>
 bif (!x8) then
 some v3
 else
 (QeQ v2 v4).bind fun x10 =>
 bif (!x10) then
 some v5
 else
 some 0
theorem QnE (v1 : TNet) (v2 : TArc) (v3 : Int) (v4 : Int) (v5 : Int) {r : Int} (h : QeR v1 v2 v3 v4 v5 = some r) : Qc Tryz.prog 57 [.own 200000 2] [(200000, .var [.clo (.func 183) [] [.loc 200001 0 0, .loc 200002 0 0], .i .i64 v3, .clo (.func 184) [] [.loc 200002 0 0, .loc 200003 0 0], .i .i64 v5]), (200001, .var (Qd v1)), (200002, .var (QN v2)), (200003, .var (Qe v4))] (Gives (.i .i64 r) [(200000, .var [.clo (.func 183) [] [.loc 200001 0 0, .loc 200002 0 0], .i .i64 v3, .clo (.func 184) [] [.loc 200002 0 0, .loc 200003 0 0], .i .i64 v5]), (200001, .var (Qd v1)), (200002, .var (QN v2)), (200003, .var (Qe v4))]) := by
 refine Qc.walk 18 Tryz.func57 rfl Tryz.ntmps57 rfl fun C hC => ?_
 unfold QeR at h
 refine Qa hC [.n 14] rfl tt_ ?_
 refine AK.loopN 3 (AK.rnd ?_)
 obtain ⟨x8, hx8, h⟩ := Qb h
 refine Qa hC [.n 2, .v .no [] (.b true), .n 10, .o (.any (.loc 200000 0 0) none), .n 3, .sayO 4 (.var [.clo (.func 183) [] [.loc 200001 0 0, .loc 200002 0 0], .i .i64 v3]), .n 6, .cm (.clo) [(200000, 200001), (200001, 200002)] [(200001, 200000), (200002, 200001)] [] [.d, .d] [(200000, .var (Qd v1)), (200001, .var (QN v2))] (.b x8), .n 3] rfl ⟨⟨⟨⟨tt_, rfl⟩, (fun σ h1 h2 _ => Stp.idxV rfl rfl (bleN hC.n rfl) (h1 _ _ rfl) (h1 _ _ rfl) (Qo.es rfl) (h2 _ _ rfl) (by decide))⟩, rfl⟩, (QnC _ _ hx8)⟩ ?_
 rcases bifE h with ⟨hc9, h⟩ | ⟨hc9, h⟩
 ·refine Qa hC [.br true, .n 13, .keep [2] [200000, 200001, 200002, 200003]] rfl ⟨tt_, hc9⟩ ?_
  cases h
  exact AK.done (ex_ [_] (an_ (an_ rfl tt_) (gives ⟨rfl, rfl, rfl, rfl, tt_⟩)))
 ·refine Qa hC [.br false, .n 4, .v .no [] (.i .i64 1), .n 2] rfl ⟨⟨tt_, hc9⟩, rfl⟩ ?_
  refine AK.met (AK.rnd ?_)
  obtain ⟨x10, hx10, h⟩ := Qb h
  refine Qa hC [.n 2, .v .no [] (.b true), .n 10, .o (.any (.loc 200000 0 2) none), .n 1, .kill 4, .n 2, .sayO 4 (.var [.clo (.func 184) [] [.loc 200002 0 0, .loc 200003 0 0], .i .i64 v5]), .n 6, .cm (.clo) [(200000, 200002), (200001, 200003)] [(200002, 200000), (200003, 200001)] [] [.d, .d] [(200000, .var (QN v2)), (200001, .var (Qe v4))] (.b x10), .n 3] rfl ⟨⟨⟨⟨tt_, rfl⟩, (fun σ h1 h2 _ => Stp.idxV rfl rfl (bleN hC.n rfl) (h1 _ _ rfl) (h1 _ _ rfl) (Qo.es rfl) (h2 _ _ rfl) (by decide))⟩, rfl⟩, (QnD _ _ hx10)⟩ ?_
  rcases bifE h with ⟨hc11, h⟩ | ⟨hc11, h⟩
  ·refine Qa hC [.br true, .n 13, .keep [2] [200000, 200001, 200002, 200003]] rfl ⟨tt_, hc11⟩ ?_
   cases h
   exact AK.done (ex_ [_] (an_ (an_ rfl tt_) (gives ⟨rfl, rfl, rfl, rfl, tt_⟩)))
  ·refine Qa hC [.br false, .n 4, .v .no [] (.i .i64 2), .n 2] rfl ⟨⟨tt_, hc11⟩, rfl⟩ ?_
   refine AK.met (AK.rnd ?_)
   refine Qa hC [.n 2, .v .no [] (.b false), .n 15, .keep [2] [200000, 200001, 200002, 200003]] rfl ⟨tt_, rfl⟩ ?_
   cases h
   exact AK.done (ex_ [_] (an_ (an_ rfl tt_) (gives ⟨rfl, rfl, rfl, rfl, tt_⟩)))
def Qgr (p1 : Int) (a2 : TArc) (v3 : TNet) (v4 : Int) : Option Int :=
 (QeR v3 a2 3 v4 1).bind fun x6 =>
 some x6
theorem QoZ (p1 : Int) (a2 : TArc) (v3 : TNet) (v4 : Int) {r : Int} (h : Qgr p1 a2 v3 v4 = some r) : Qc Tryz.prog 182 [.i .i64 p1, .agg (QN a2), .loc 200000 0 0, .loc 200001 0 0] [(200000, .var (Qd v3)), (200001, .var (Qe v4))] (Gives (.i .i64 r) [(200000, .var (Qd v3)), (200001, .var (Qe v4))]) := by
 refine Qc.walk 13 Tryz.func182 rfl Tryz.ntmps182 rfl fun C hC => ?_
 unfold Qgr at h
 obtain ⟨x6, hx6, h⟩ := Qb h
 refine Qa hC [.n 9, .v .no [] (.agg [.clo (.func 183) [] [.loc 200000 0 0, .loc 5 0 0], .i .i64 3]), .n 1, .v .no [] (.agg [.clo (.func 184) [] [.loc 5 0 0, .loc 200001 0 0], .i .i64 1]), .o (.any (.own 11 2) (some (.var [.clo (.func 183) [] [.loc 200000 0 0, .loc 5 0 0], .i .i64 3, .clo (.func 184) [] [.loc 5 0 0, .loc 200001 0 0], .i .i64 1]))), .cm (.fn) [(200000, 11), (200001, 200000), (200002, 5), (200003, 200001)] [(11, 200000), (200000, 200001), (5, 200002), (200001, 200003)] [] [.d] [(200000, .var [.clo (.func 183) [] [.loc 200001 0 0, .loc 200002 0 0], .i .i64 3, .clo (.func 184) [] [.loc 200002 0 0, .loc 200003 0 0], .i .i64 1]), (200001, .var (Qd v3)), (200002, .var (QN a2)), (200003, .var (Qe v4))] (.i .i64 x6), .n 4, .keep [6] [200000, 200001]] rfl ⟨⟨⟨⟨tt_, rfl⟩, rfl⟩, (fun σ h1 h2 hf => Stp.buildAny rfl rfl (bleN hC.n rfl) (Qo.es rfl) Qkv rfl (by decide) (by decide) (Qer h1 rfl) rfl rfl (hf rfl))⟩, (QnE _ _ _ _ _ hx6)⟩ ?_
 cases h
 exact AK.done (ex_ [_] (an_ (an_ rfl tt_) (gives ⟨rfl, rfl, tt_⟩)))
def Qbb (l1 : (List TArc)) (v2 : TNet) (v3 : Int) (x8 : Int) : Option (Int ⊕ ((Int × Int) ⊕ Unit)) :=
 bif (decide (x8 < (l1.length : Int))) then
 (idx l1 x8).bind fun e13 =>
 (Qgr x8 e13 v2 v3).bind fun x14 =>
 bif (x14 != 0) then
 some (.inr (.inl (x8, x14)))
 else
 some (.inl (w64 (x8 + 1)))
 else
 some (.inr (.inr ()))
def QbO (x10 : Int) (x11 : Int) : Option (Int × Int) :=
 some (x10, x11)
def QbP : Option (Int × Int) :=
 some (0, 0)
def QcG (l1 : (List TArc)) (v2 : TNet) (v3 : Int) : Option (Int × Int) :=
 (QE (fun st => Qbb l1 v2 v3 st) 0).bind (Sum.elim (fun q => QbO q.1 q.2) (fun q => QbP))
theorem QlR (l1 : (List TArc)) (v2 : TNet) (v3 : Int) {r : (Int × Int)} (h : QcG l1 v2 v3 = some r) : Qc Tryz.prog 181 [.sl 4 (l1.map QN), .clo (.func 182) [] [.loc 200000 0 0, .loc 200001 0 0]] [(200000, .var (Qd v2)), (200001, .var (Qe v3))] (Gives (.tup [.i .i64 r.1, .i .i64 r.2]) [(200000, .var (Qd v2)), (200001, .var (Qe v3))]) := by
 refine Qc.walk 25 Tryz.func181 rfl Tryz.ntmps181 rfl fun C hC => ?_
 unfold QcG at h
 refine Qa hC [.n 10, .o (.ln l1.length), .n 4, .keep [1, 9, 10, 11] [200000, 200001]] rfl ⟨tt_, Qg⟩ ?_
 obtain ⟨o16, hl16, h⟩ := Qb h
 refine AK.loop (body := (fun st => Qbb l1 v2 v3 st)) (fun st σ => σ = ⟨[(1, .clo (.func 182) [] [.loc 200000 0 0, .loc 200001 0 0]), (9, .sl 4 (l1.map QN)), (10, .i .i64 (l1.length : Int)), (11, .i .i64 st)], [(200000, .var (Qd v2)), (200001, .var (Qe v3))]⟩) (Sum.elim (fun q e σ => e = .ret ∧ σ = ⟨[(4, .i .i64 q.1), (5, .i .i64 q.2)], [(200000, .var (Qd v2)), (200001, .var (Qe v3))]⟩) (fun q e σ => e = .exit 0 ∧ σ = ⟨[], [(200000, .var (Qd v2)), (200001, .var (Qe v3))]⟩)) hl16 rfl ?_ ?_
 ·rintro x8 o σ rfl h
  replace h : Qbb l1 v2 v3 x8 = some o := h
  unfold Qbb at h
  refine Qa hC [.n 6] rfl tt_ ?_
  rcases bifE h with ⟨hc12, h⟩ | ⟨hc12, h⟩
  ·obtain ⟨e13, he13, h⟩ := Qb h
   obtain ⟨x14, hx14, h⟩ := Qb h
   refine Qa hC [.br true, .n 7, .o (.row (QN e13)), .v .no [] (.agg (QN e13)), .n 3, .sayO 7 (.var (QN e13)), .n 6, .v .no [] (.agg (QN e13)), .cm (.clo) [(200000, 200000), (200001, 200001)] [(200000, 200000), (200001, 200001)] [] [.d, .d, .d, .d] [(200000, .var (Qd v2)), (200001, .var (Qe v3))] (.i .i64 x14), .n 9] rfl ⟨⟨⟨⟨⟨⟨tt_, hc12⟩, (idxM he13)⟩, rfl⟩, rfl⟩, rfl⟩, (QoZ _ _ _ _ hx14)⟩ ?_
   rcases bifE h with ⟨hc15, h⟩ | ⟨hc15, h⟩
   ·refine Qa hC [.br true, .n 11, .keep [4, 5] [200000, 200001]] rfl ⟨tt_, hc15⟩ ?_
    cases h
    exact rndR rfl (an_ rfl rfl)
   ·refine Qa hC [.br false, .n 7, .keep [1, 9, 10, 11] [200000, 200001]] rfl ⟨tt_, hc15⟩ ?_
    cases h
    exact rndN rfl rfl
  ·refine Qa hC [.br false, .n 2, .keep [] [200000, 200001]] rfl ⟨tt_, hc12⟩ ?_
   cases h
   exact rndX rfl (an_ rfl rfl)
 ·rcases o16 with (⟨x10, x11⟩ | _)
  ·replace h : QbO x10 x11 = some r := h
   unfold QbO at h
   rintro e σ ⟨rfl, rfl⟩
   refine Qa hC [.n 2, .keep [4, 5] [200000, 200001]] rfl tt_ ?_
   cases h
   exact AK.done (ex_ [_, _] (an_ (an_ rfl (an_ rfl tt_)) (gives ⟨rfl, rfl, tt_⟩)))
  ·replace h : QbP = some r := h
   unfold QbP at h
   rintro e σ ⟨rfl, rfl⟩
   refine Qa hC [.n 9, .keep [4, 5] [200000, 200001]] rfl tt_ ?_
   cases h
   exact AK.done (ex_ [_, _] (an_ (an_ rfl (an_ rfl tt_)) (gives ⟨rfl, rfl, tt_⟩)))
def Qgs (n1 : TNet) (l2 : (List TArc)) (vars3 : Int) : Option Int :=
 (QcG l2 n1 vars3).bind fun x5 =>
 some x5.2
theorem Ql7 (n1 : TNet) (l2 : (List TArc)) (vars3 : Int) {r : Int} (h : Qgs n1 l2 vars3 = some r) : Qc Tryz.prog 130 [.agg (Qd n1), .sl 4 (l2.map QN), .i .i64 vars3] [] (Gives (.i .i64 r) []) := by
 refine Qc.walk 16 Tryz.func130 rfl Tryz.ntmps130 rfl fun C hC => ?_
 unfold Qgs at h
 obtain ⟨x5, hx5, h⟩ := Qb h
 refine Qa hC [.n 11, .cm (.fn) [(200000, 3), (200001, 5)] [(3, 200000), (5, 200001)] [] [.d, .d] [(200000, .var (Qd n1)), (200001, .var (Qe vars3))] (.tup [.i .i64 x5.1, .i .i64 x5.2]), .n 14, .keep [6] []] rfl ⟨tt_, (QlR _ _ _ hx5)⟩ ?_
 cases h
 exact AK.done (ex_ [_] (an_ (an_ rfl tt_) (gives tt_)))
def Qgt (v1 : TNet) (v2 : Qr) (v3 : Int) : Option Int :=
 (Qgs v1 v2.Ins v3).bind fun x5 =>
 some x5
theorem Qo0 (v1 : TNet) (v2 : Qr) (v3 : Int) {r : Int} (h : Qgt v1 v2 v3 = some r) : Qc Tryz.prog 129 [.loc 200000 0 0, .loc 200001 0 0, .loc 200002 0 0] [(200000, .var (Qd v1)), (200001, .var (Qi v2)), (200002, .var (Qe v3))] (Gives (.i .i64 r) [(200000, .var (Qd v1)), (200001, .var (Qi v2)), (200002, .var (Qe v3))]) := by
 refine Qc.walk 9 Tryz.func129 rfl Tryz.ntmps129 rfl fun C hC => ?_
 unfold Qgt at h
 obtain ⟨x5, hx5, h⟩ := Qb h
 refine Qa hC [.n 7, .v .no [] (.agg (Qd v1)), .n 3, .o (.c false [.d, .d, .d] (.i .i64 x5)), .n 4, .keep [3] [200000, 200001, 200002]] rfl ⟨⟨tt_, rfl⟩, (Ql7 _ _ _ hx5)⟩ ?_
 cases h
 exact AK.done (ex_ [_] (an_ (an_ rfl tt_) (gives ⟨rfl, rfl, rfl, tt_⟩)))
def Qdo (v1 : TNet) (v2 : Qr) (v3 : Int) (v4 : Int) : Option (Bool × Int) :=
 (Qgt v1 v2 v3).bind fun x7 =>
 some ((x7 == 0), x7)
theorem QmA (v1 : TNet) (v2 : Qr) (v3 : Int) (v4 : Int) {r : (Bool × Int)} (h : Qdo v1 v2 v3 v4 = some r) : Qc Tryz.prog 170 [.loc 200000 0 0, .loc 200004 0 0] [(200000, .var [.clo (.func 129) [] [.loc 200001 0 0, .loc 200002 0 0, .loc 200003 0 0]]), (200001, .var (Qd v1)), (200002, .var (Qi v2)), (200003, .var (Qe v3)), (200004, .var [.loc 200005 0 0]), (200005, .var (Qe v4))] (Gives (.b r.1) [(200000, .var [.clo (.func 129) [] [.loc 200001 0 0, .loc 200002 0 0, .loc 200003 0 0]]), (200001, .var (Qd v1)), (200002, .var (Qi v2)), (200003, .var (Qe v3)), (200004, .var [.loc 200005 0 0]), (200005, .var (Qe r.2))]) := by
 refine Qc.walk 11 Tryz.func170 rfl Tryz.ntmps170 rfl fun C hC => ?_
 unfold Qdo at h
 obtain ⟨x7, hx7, h⟩ := Qb h
 refine Qa hC [.n 6, .keep [0, 1] [200000, 200001, 200002, 200003, 200004, 200005]] rfl tt_ ?_
 refine AK.draw2 Qo hC mixed [.a .no none false, .a .no none false, .a (.any (.i .i64 x7) none) none false, .a .no none false, .m .s] [] [] [1] [200000, 200001, 200002, 200003, 200004, 200005] rfl rfl rfl ⟨tt_, (fun σ h1 h2 _ => Stp.callSame (md := .cm (.clo) [(200000, 200001), (200001, 200002), (200002, 200003)] [(200001, 200000), (200002, 200001), (200003, 200002)] [] [.d, .d, .d] [(200000, .var (Qd v1)), (200001, .var (Qi v2)), (200002, .var (Qe v3))] (.i .i64 x7) [200001, 200002, 200003]) Qo hC h1 h2 rfl ⟨⟨tt_, (Qo0 _ _ _ hx7)⟩, ⟨rfl, rfl, rfl, tt_⟩⟩)⟩ rfl (by kernel_rfl) rfl rfl rfl ?_
 refine Qa hC [.sayO 200005 (.var (Qe x7)), .n 11, .keep [2] [200000, 200001, 200002, 200003, 200004, 200005]] rfl ⟨tt_, rfl⟩ ?_
 cases h
 exact AK.done (ex_ [_] (an_ (an_ rfl tt_) (gives ⟨rfl, rfl, rfl, rfl, rfl, rfl, tt_⟩)))
def Qgu (v1 : TNet) (v2 : Qr) (v3 : Int) : Option Int :=
 (Qgs v1 v2.Outs v3).bind fun x5 =>
 some x5
theorem Qo1 (v1 : TNet) (v2 : Qr) (v3 : Int) {r : Int} (h : Qgu v1 v2 v3 = some r) : Qc Tryz.prog 131 [.loc 200000 0 0, .loc 200001 0 0, .loc 200002 0 0] [(200000, .var (Qd v1)), (200001, .var (Qi v2)), (200002, .var (Qe v3))] (Gives (.i .i64 r) [(200000, .var (Qd v1)), (200001, .var (Qi v2)), (200002, .var (Qe v3))]) := by
 refine Qc.walk 9 Tryz.func131 rfl Tryz.ntmps131 rfl fun C hC => ?_
 unfold Qgu at h
 obtain ⟨x5, hx5, h⟩ := Qb h
 refine Qa hC [.n 7, .v .no [] (.agg (Qd v1)), .n 3, .o (.c false [.d, .d, .d] (.i .i64 x5)), .n 4, .keep [3] [200000, 200001, 200002]] rfl ⟨⟨tt_, rfl⟩, (Ql7 _ _ _ hx5)⟩ ?_
 cases h
 exact AK.done (ex_ [_] (an_ (an_ rfl tt_) (gives ⟨rfl, rfl, rfl, tt_⟩)))
def Qdp (v1 : TNet) (v2 : Qr) (v3 : Int) (v4 : Int) : Option (Bool × Int) :=
 (Qgu v1 v2 v3).bind fun x7 =>
 some ((x7 == 0), x7)
theorem QmB (v1 : TNet) (v2 : Qr) (v3 : Int) (v4 : Int) {r : (Bool × Int)} (h : Qdp v1 v2 v3 v4 = some r) : Qc Tryz.prog 170 [.loc 200000 0 0, .loc 200004 0 0] [(200000, .var [.clo (.func 131) [] [.loc 200001 0 0, .loc 200002 0 0, .loc 200003 0 0]]), (200001, .var (Qd v1)), (200002, .var (Qi v2)), (200003, .var (Qe v3)), (200004, .var [.loc 200005 0 0]), (200005, .var (Qe v4))] (Gives (.b r.1) [(200000, .var [.clo (.func 131) [] [.loc 200001 0 0, .loc 200002 0 0, .loc 200003 0 0]]), (200001, .var (Qd v1)), (200002, .var (Qi v2)), (200003, .var (Qe v3)), (200004, .var [.loc 200005 0 0]), (200005, .var (Qe r.2))]) := by
 refine Qc.walk 11 Tryz.func170 rfl Tryz.ntmps170 rfl fun C hC => ?_
 unfold Qdp at h
 obtain ⟨x7, hx7, h⟩ := Qb h
 refine Qa hC [.n 6, .keep [0, 1] [200000, 200001, 200002, 200003, 200004, 200005]] rfl tt_ ?_
 refine AK.draw2 Qo hC mixed [.a .no none false, .a .no none false, .a (.any (.i .i64 x7) none) none false, .a .no none false, .m .s] [] [] [1] [200000, 200001, 200002, 200003, 200004, 200005] rfl rfl rfl ⟨tt_, (fun σ h1 h2 _ => Stp.callSame (md := .cm (.clo) [(200000, 200001), (200001, 200002), (200002, 200003)] [(200001, 200000), (200002, 200001), (200003, 200002)] [] [.d, .d, .d] [(200000, .var (Qd v1)), (200001, .var (Qi v2)), (200002, .var (Qe v3))] (.i .i64 x7) [200001, 200002, 200003]) Qo hC h1 h2 rfl ⟨⟨tt_, (Qo1 _ _ _ hx7)⟩, ⟨rfl, rfl, rfl, tt_⟩⟩)⟩ rfl (by kernel_rfl) rfl rfl rfl ?_
 refine Qa hC [.sayO 200005 (.var (Qe x7)), .n 11, .keep [2] [200000, 200001, 200002, 200003, 200004, 200005]] rfl ⟨tt_, rfl⟩ ?_
 cases h
 exact AK.done (ex_ [_] (an_ (an_ rfl tt_) (gives ⟨rfl, rfl, rfl, rfl, rfl, rfl, tt_⟩)))
def QcU (v1 : TNet) (v2 : Int) : Option Bool :=
 (Qac v1.Places v2).bind fun x4 =>
 some x4
theorem Qmm (v1 : TNet) (v2 : Int) {r : Bool} (h : QcU v1 v2 = some r) : Qc Tryz.prog 187 [.loc 200000 0 0, .loc 200001 0 0] [(200000, .var (Qd v1)), (200001, .var (Qe v2))] (Gives (.b r) [(200000, .var (Qd v1)), (200001, .var (Qe v2))]) := by
 refine Qc.walk 7 Tryz.func187 rfl Tryz.ntmps187 rfl fun C hC => ?_
 unfold QcU at h
 obtain ⟨x4, hx4, h⟩ := Qb h
 refine Qa hC [.n 10, .o (.c false [.d, .d] (.b x4)), .n 4, .keep [2] [200000, 200001]] rfl ⟨tt_, (Qbh _ _ hx4)⟩ ?_
 cases h
 exact AK.done (ex_ [_] (an_ (an_ rfl tt_) (gives ⟨rfl, rfl, tt_⟩)))
def QcV (v1 : (List Int)) (v2 : Int) (v3 : Int) : Option Bool :=
 (chk (decide (0 ≤ v2) && decide (0 ≤ v2.toNat) && decide (v2.toNat ≤ v1.length))).bind fun _ =>
 (QaA ((v1.drop 0).take (v2.toNat - 0)) v3).bind fun x6 =>
 some (!x6)
theorem Qmn (v1 : (List Int)) (v2 : Int) (v3 : Int) {r : Bool} (h : QcV v1 v2 v3 = some r) : Qc Tryz.prog 188 [.loc 200000 0 0, .loc 200001 0 0, .loc 200002 0 0] [(200000, .var (Qv v1)), (200001, .var (Qe v2)), (200002, .var (Qe v3))] (Gives (.b r) [(200000, .var (Qv v1)), (200001, .var (Qe v2)), (200002, .var (Qe v3))]) := by
 refine Qc.walk 10 Tryz.func188 rfl Tryz.ntmps188 rfl fun C hC => ?_
 unfold QcV at h
 obtain ⟨_, hk5, h⟩ := Qb h
 replace hk5 := chkE hk5
 obtain ⟨x6, hx6, h⟩ := Qb h
 refine Qa hC [.n 6, .keep [0, 1, 2, 3] [200000, 200001, 200002]] rfl tt_ ?_
 refine AK.draw2 Qo hC mixed [.a .no none false, .a .no none false, .a (.any (.sl 1 (((v1.drop 0).take (v2.toNat - 0)).map Qe)) none) none false, .a .no none false, .a (.c false [.d, .d] (.b x6)) none false, .a .no none false, .m .s] [] [] [3] [200000, 200001, 200002] rfl rfl rfl ⟨⟨tt_, (fun σ h1 h2 _ => Stp.sliceD rfl rfl (bleN hC.n rfl) (h1 _ _ rfl) (Qo.es rfl) Bnd.no (Bnd.val (h1 _ _ rfl) (of_decide_eq_true (Qlh hk5)) rfl) (of_decide_eq_true (Qli hk5)) (Nat.le_trans (of_decide_eq_true (Qmt hk5)) (Nat.le_of_eq Qg.symm)) Qm5)⟩, (Qge _ _ hx6)⟩ rfl (by kernel_rfl) rfl rfl rfl ?_
 refine Qa hC [.n 2, .keep [3] [200000, 200001, 200002]] rfl tt_ ?_
 cases h
 exact AK.done (ex_ [_] (an_ (an_ rfl tt_) (gives ⟨rfl, rfl, rfl, tt_⟩)))
def QeS (v1 : TNet) (v2 : Int) (v3 : Int) (v4 : (List Int)) (v5 : Int) (v6 : Int) : Option Int :=
 (QcU v1 v2).bind fun x9 =>
 bif (!x9) then
 some v3
 else
 (QcV v4 v5 v2).bind fun x11 =>
 bif (!x11) then
 some v6
 else
 some 0
theorem QnF (v1 : TNet) (v2 : Int) (v3 : Int) (v4 : (List Int)) (v5 : Int) (v6 : Int) {r : Int} (h : QeS v1 v2 v3 v4 v5 v6 = some r) : Qc Tryz.prog 57 [.own 200000 2] [(200000, .var [.clo (.func 187) [] [.loc 200001 0 0, .loc 200002 0 0], .i .i64 v3, .clo (.func 188) [] [.loc 200003 0 0, .loc 200004 0 0, .loc 200002 0 0], .i .i64 v6]), (200001, .var (Qd v1)), (200002, .var (Qe v2)), (200003, .var (Qv v4)), (200004, .var (Qe v5))] (Gives (.i .i64 r) [(200000, .var [.clo (.func 187) [] [.loc 200001 0 0, .loc 200002 0 0], .i .i64 v3, .clo (.func 188) [] [.loc 200003 0 0, .loc 200004 0 0, .loc 200002 0 0], .i .i64 v6]), (200001, .var (Qd v1)), (200002, .var (Qe v2)), (200003, .var (Qv v4)), (200004, .var (Qe v5))]) := by
 refine Qc.walk 18 Tryz.func57 rfl Tryz.ntmps57 rfl fun C hC => ?_
 unfold QeS at h
 refine Qa hC [.n 14] rfl tt_ ?_
 refine AK.loopN 3 (AK.rnd ?_)
 obtain ⟨x9, hx9, h⟩ := Qb h
 refine Qa hC [.n 2, .v .no [] (.b true), .n 10, .o (.any (.loc 200000 0 0) none), .n 3, .sayO 4 (.var [.clo (.func 187) [] [.loc 200001 0 0, .loc 200002 0 0], .i .i64 v3]), .n 6, .cm (.clo) [(200000, 200001), (200001, 200002)] [(200001, 200000), (200002, 200001)] [] [.d, .d] [(200000, .var (Qd v1)), (200001, .var (Qe v2))] (.b x9), .n 3] rfl ⟨⟨⟨⟨tt_, rfl⟩, (fun σ h1 h2 _ => Stp.idxV rfl rfl (bleN hC.n rfl) (h1 _ _ rfl) (h1 _ _ rfl) (Qo.es rfl) (h2 _ _ rfl) (by decide))⟩, rfl⟩, (Qmm _ _ hx9)⟩ ?_
 rcases bifE h with ⟨hc10, h⟩ | ⟨hc10, h⟩
 ·refine Qa hC [.br true, .n 13, .keep [2] [200000, 200001, 200002, 200003, 200004]] rfl ⟨tt_, hc10⟩ ?_
  cases h
  exact AK.done (ex_ [_] (an_ (an_ rfl tt_) (gives ⟨rfl, rfl, rfl, rfl, rfl, tt_⟩)))
 ·refine Qa hC [.br false, .n 4, .v .no [] (.i .i64 1), .n 2] rfl ⟨⟨tt_, hc10⟩, rfl⟩ ?_
  refine AK.met (AK.rnd ?_)
  obtain ⟨x11, hx11, h⟩ := Qb h
  refine Qa hC [.n 2, .v .no [] (.b true), .n 10, .o (.any (.loc 200000 0 2) none), .n 1, .kill 4, .n 2, .sayO 4 (.var [.clo (.func 188) [] [.loc 200003 0 0, .loc 200004 0 0, .loc 200002 0 0], .i .i64 v6]), .n 6, .cm (.clo) [(200000, 200003), (200001, 200004), (200002, 200002)] [(200003, 200000), (200004, 200001), (200002, 200002)] [] [.d, .d, .d] [(200000, .var (Qv v4)), (200001, .var (Qe v5)), (200002, .var (Qe v2))] (.b x11), .n 3] rfl ⟨⟨⟨⟨tt_, rfl⟩, (fun σ h1 h2 _ => Stp.idxV rfl rfl (bleN hC.n rfl) (h1 _ _ rfl) (h1 _ _ rfl) (Qo.es rfl) (h2 _ _ rfl) (by decide))⟩, rfl⟩, (Qmn _ _ _ hx11)⟩ ?_
  rcases bifE h with ⟨hc12, h⟩ | ⟨hc12, h⟩
  ·refine Qa hC [.br true, .n 13, .keep [2] [200000, 200001, 200002, 200003, 200004]] rfl ⟨tt_, hc12⟩ ?_
   cases h
   exact AK.done (ex_ [_] (an_ (an_ rfl tt_) (gives ⟨rfl, rfl, rfl, rfl, rfl, tt_⟩)))
  ·refine Qa hC [.br false, .n 4, .v .no [] (.i .i64 2), .n 2] rfl ⟨⟨tt_, hc12⟩, rfl⟩ ?_
   refine AK.met (AK.rnd ?_)
   refine Qa hC [.n 2, .v .no [] (.b false), .n 15, .keep [2] [200000, 200001, 200002, 200003, 200004]] rfl ⟨tt_, rfl⟩ ?_
   cases h
   exact AK.done (ex_ [_] (an_ (an_ rfl tt_) (gives ⟨rfl, rfl, rfl, rfl, rfl, tt_⟩)))
def Qd1 (k1 : Int) (place2 : Int) (v3 : TNet) (v4 : (List Int)) : Option Int :=
 (QeS v3 place2 3 v4 k1 5).bind fun x6 =>
 some x6
theorem Qng (k1 : Int) (place2 : Int) (v3 : TNet) (v4 : (List Int)) {r : Int} (h : Qd1 k1 place2 v3 v4 = some r) : Qc Tryz.prog 186 [.i .i64 k1, .i .i64 place2, .loc 200000 0 0, .loc 200001 0 0] [(200000, .var (Qd v3)), (200001, .var (Qv v4))] (Gives (.i .i64 r) [(200000, .var (Qd v3)), (200001, .var (Qv v4))]) := by
 refine Qc.walk 13 Tryz.func186 rfl Tryz.ntmps186 rfl fun C hC => ?_
 unfold Qd1 at h
 obtain ⟨x6, hx6, h⟩ := Qb h
 refine Qa hC [.n 10, .v .no [] (.agg [.clo (.func 187) [] [.loc 200000 0 0, .loc 5 0 0], .i .i64 3]), .n 1, .v .no [] (.agg [.clo (.func 188) [] [.loc 200001 0 0, .loc 4 0 0, .loc 5 0 0], .i .i64 5]), .o (.any (.own 11 2) (some (.var [.clo (.func 187) [] [.loc 200000 0 0, .loc 5 0 0], .i .i64 3, .clo (.func 188) [] [.loc 200001 0 0, .loc 4 0 0, .loc 5 0 0], .i .i64 5]))), .cm (.fn) [(200000, 11), (200001, 200000), (200002, 5), (200003, 200001), (200004, 4)] [(11, 200000), (200000, 200001), (5, 200002), (200001, 200003), (4, 200004)] [] [.d] [(200000, .var [.clo (.func 187) [] [.loc 200001 0 0, .loc 200002 0 0], .i .i64 3, .clo (.func 188) [] [.loc 200003 0 0, .loc 200004 0 0, .loc 200002 0 0], .i .i64 5]), (200001, .var (Qd v3)), (200002, .var (Qe place2)), (200003, .var (Qv v4)), (200004, .var (Qe k1))] (.i .i64 x6), .n 4, .keep [6] [200000, 200001]] rfl ⟨⟨⟨⟨tt_, rfl⟩, rfl⟩, (fun σ h1 h2 hf => Stp.buildAny rfl rfl (bleN hC.n rfl) (Qo.es rfl) Qkv rfl (by decide) (by decide) (Qer h1 rfl) rfl rfl (hf rfl))⟩, (QnF _ _ _ _ _ _ hx6)⟩ ?_
 cases h
 exact AK.done (ex_ [_] (an_ (an_ rfl tt_) (gives ⟨rfl, rfl, tt_⟩)))
def QbZ (l1 : (List Int)) (v2 : TNet) (v3 : (List Int)) (x8 : Int) : Option (Int ⊕ ((Int × Int) ⊕ Unit)) :=
 bif (decide (x8 < (l1.length : Int))) then
 (idx l1 x8).bind fun e13 =>
 (Qd1 x8 e13 v2 v3).bind fun x14 =>
 bif (x14 != 0) then
 some (.inr (.inl (x8, x14)))
 else
 some (.inl (w64 (x8 + 1)))
 else
 some (.inr (.inr ()))
def QcW (x10 : Int) (x11 : Int) : Option (Int × Int) :=
 some (x10, x11)
def QcX : Option (Int × Int) :=
 some (0, 0)
def QeT (l1 : (List Int)) (v2 : TNet) (v3 : (List Int)) : Option (Int × Int) :=
 (QE (fun st => QbZ l1 v2 v3 st) 0).bind (Sum.elim (fun q => QcW q.1 q.2) (fun q => QcX))
theorem QnG (l1 : (List Int)) (v2 : TNet) (v3 : (List Int)) {r : (Int × Int)} (h : QeT l1 v2 v3 = some r) : Qc Tryz.prog 185 [.sl 1 (l1.map Qe), .clo (.func 186) [] [.loc 200000 0 0, .loc 200001 0 0]] [(200000, .var (Qd v2)), (200001, .var (Qv v3))] (Gives (.tup [.i .i64 r.1, .i .i64 r.2]) [(200000, .var (Qd v2)), (200001, .var (Qv v3))]) := by
 refine Qc.walk 25 Tryz.func185 rfl Tryz.ntmps185 rfl fun C hC => ?_
 unfold QeT at h
 refine Qa hC [.n 10, .o (.ln l1.length), .n 4, .keep [1, 9, 10, 11] [200000, 200001]] rfl ⟨tt_, Qg⟩ ?_
 obtain ⟨o16, hl16, h⟩ := Qb h
 refine AK.loop (body := (fun st => QbZ l1 v2 v3 st)) (fun st σ => σ = ⟨[(1, .clo (.func 186) [] [.loc 200000 0 0, .loc 200001 0 0]), (9, .sl 1 (l1.map Qe)), (10, .i .i64 (l1.length : Int)), (11, .i .i64 st)], [(200000, .var (Qd v2)), (200001, .var (Qv v3))]⟩) (Sum.elim (fun q e σ => e = .ret ∧ σ = ⟨[(4, .i .i64 q.1), (5, .i .i64 q.2)], [(200000, .var (Qd v2)), (200001, .var (Qv v3))]⟩) (fun q e σ => e = .exit 0 ∧ σ = ⟨[], [(200000, .var (Qd v2)), (200001, .var (Qv v3))]⟩)) hl16 rfl ?_ ?_
 ·rintro x8 o σ rfl h
  replace h : QbZ l1 v2 v3 x8 = some o := h
  unfold QbZ at h
  refine Qa hC [.n 6] rfl tt_ ?_
  rcases bifE h with ⟨hc12, h⟩ | ⟨hc12, h⟩
  ·obtain ⟨e13, he13, h⟩ := Qb h
   obtain ⟨x14, hx14, h⟩ := Qb h
   refine Qa hC [.br true, .n 7, .o (.row (Qe e13)), .n 10, .cm (.clo) [(200000, 200000), (200001, 200001)] [(200000, 200000), (200001, 200001)] [] [.d, .d, .d, .d] [(200000, .var (Qd v2)), (200001, .var (Qv v3))] (.i .i64 x14), .n 9] rfl ⟨⟨⟨tt_, hc12⟩, (idxM he13)⟩, (Qng _ _ _ _ hx14)⟩ ?_
   rcases bifE h with ⟨hc15, h⟩ | ⟨hc15, h⟩
   ·refine Qa hC [.br true, .n 11, .keep [4, 5] [200000, 200001]] rfl ⟨tt_, hc15⟩ ?_
    cases h
    exact rndR rfl (an_ rfl rfl)
   ·refine Qa hC [.br false, .n 7, .keep [1, 9, 10, 11] [200000, 200001]] rfl ⟨tt_, hc15⟩ ?_
    cases h
    exact rndN rfl rfl
  ·refine Qa hC [.br false, .n 2, .keep [] [200000, 200001]] rfl ⟨tt_, hc12⟩ ?_
   cases h
   exact rndX rfl (an_ rfl rfl)
 ·rcases o16 with (⟨x10, x11⟩ | _)
  ·replace h : QcW x10 x11 = some r := h
   unfold QcW at h
   rintro e σ ⟨rfl, rfl⟩
   refine Qa hC [.n 2, .keep [4, 5] [200000, 200001]] rfl tt_ ?_
   cases h
   exact AK.done (ex_ [_, _] (an_ (an_ rfl (an_ rfl tt_)) (gives ⟨rfl, rfl, tt_⟩)))
  ·replace h : QcX = some r := h
   unfold QcX at h
   rintro e σ ⟨rfl, rfl⟩
   refine Qa hC [.n 9, .keep [4, 5] [200000, 200001]] rfl tt_ ?_
   cases h
   exact AK.done (ex_ [_, _] (an_ (an_ rfl (an_ rfl tt_)) (gives ⟨rfl, rfl, tt_⟩)))
def QfB (n1 : TNet) (l2 : (List Int)) : Option Int :=
 (QeT l2 n1 l2).bind fun x4 =>
 some x4.2
theorem Qof (n1 : TNet) (l2 : (List Int)) {r : Int} (h : QfB n1 l2 = some r) : Qc Tryz.prog 133 [.agg (Qd n1), .sl 1 (l2.map Qe)] [] (Gives (.i .i64 r) []) := by
 refine Qc.walk 14 Tryz.func133 rfl Tryz.ntmps133 rfl fun C hC => ?_
 unfold QfB at h
 obtain ⟨x4, hx4, h⟩ := Qb h
 refine Qa hC [.n 11, .cm (.fn) [(200000, 2), (200001, 3)] [(2, 200000), (3, 200001)] [] [.d, .d] [(200000, .var (Qd n1)), (200001, .var (Qv l2))] (.tup [.i .i64 x4.1, .i .i64 x4.2]), .n 14, .keep [4] []] rfl ⟨tt_, (QnG _ _ _ hx4)⟩ ?_
 cases h
 exact AK.done (ex_ [_] (an_ (an_ rfl tt_) (gives tt_)))
def QfC (v1 : TNet) (v2 : Qr) : Option Int :=
 (QfB v1 v2.Cancel).bind fun x4 =>
 some x4
theorem Qog (v1 : TNet) (v2 : Qr) {r : Int} (h : QfC v1 v2 = some r) : Qc Tryz.prog 132 [.loc 200000 0 0, .loc 200001 0 0] [(200000, .var (Qd v1)), (200001, .var (Qi v2))] (Gives (.i .i64 r) [(200000, .var (Qd v1)), (200001, .var (Qi v2))]) := by
 refine Qc.walk 7 Tryz.func132 rfl Tryz.ntmps132 rfl fun C hC => ?_
 unfold QfC at h
 obtain ⟨x4, hx4, h⟩ := Qb h
 refine Qa hC [.n 7, .v .no [] (.agg (Qd v1)), .n 2, .o (.c false [.d, .d] (.i .i64 x4)), .n 4, .keep [2] [200000, 200001]] rfl ⟨⟨tt_, rfl⟩, (Qof _ _ hx4)⟩ ?_
 cases h
 exact AK.done (ex_ [_] (an_ (an_ rfl tt_) (gives ⟨rfl, rfl, tt_⟩)))
def Qdq (v1 : TNet) (v2 : Qr) (v3 : Int) : Option (Bool × Int) :=
 (QfC v1 v2).bind fun x6 =>
 some ((x6 == 0), x6)
theorem QmC (v1 : TNet) (v2 : Qr) (v3 : Int) {r : (Bool × Int)} (h : Qdq v1 v2 v3 = some r) : Qc Tryz.prog 170 [.loc 200000 0 0, .loc 200003 0 0] [(200000, .var [.clo (.func 132) [] [.loc 200001 0 0, .loc 200002 0 0]]), (200001, .var (Qd v1)), (200002, .var (Qi v2)), (200003, .var [.loc 200004 0 0]), (200004, .var (Qe v3))] (Gives (.b r.1) [(200000, .var [.clo (.func 132) [] [.loc 200001 0 0, .loc 200002 0 0]]), (200001, .var (Qd v1)), (200002, .var (Qi v2)), (200003, .var [.loc 200004 0 0]), (200004, .var (Qe r.2))]) := by
 refine Qc.walk 11 Tryz.func170 rfl Tryz.ntmps170 rfl fun C hC => ?_
 unfold Qdq at h
 obtain ⟨x6, hx6, h⟩ := Qb h
 refine Qa hC [.n 6, .keep [0, 1] [200000, 200001, 200002, 200003, 200004]] rfl tt_ ?_
 refine AK.draw2 Qo hC mixed [.a .no none false, .a .no none false, .a (.any (.i .i64 x6) none) none false, .a .no none false, .m .s] [] [] [1] [200000, 200001, 200002, 200003, 200004] rfl rfl rfl ⟨tt_, (fun σ h1 h2 _ => Stp.callSame (md := .cm (.clo) [(200000, 200001), (200001, 200002)] [(200001, 200000), (200002, 200001)] [] [.d, .d] [(200000, .var (Qd v1)), (200001, .var (Qi v2))] (.i .i64 x6) [200001, 200002]) Qo hC h1 h2 rfl ⟨⟨tt_, (Qog _ _ hx6)⟩, ⟨rfl, rfl, tt_⟩⟩)⟩ rfl (by kernel_rfl) rfl rfl rfl ?_
 refine Qa hC [.sayO 200004 (.var (Qe x6)), .n 11, .keep [2] [200000, 200001, 200002, 200003, 200004]] rfl ⟨tt_, rfl⟩ ?_
 cases h
 exact AK.done (ex_ [_] (an_ (an_ rfl tt_) (gives ⟨rfl, rfl, rfl, rfl, rfl, tt_⟩)))
def QdG (k1 : Int) (l2 : (List TArc)) : Option Bool :=
 some ((decide (1 ≤ k1)) && ((decide (k1 ≤ 3)) && ((k1 != 3) || (decide ((l2.length : Int) ≤ 4)))))
theorem Qkz (k1 : Int) (l2 : (List TArc)) {r : Bool} (h : QdG k1 l2 = some r) : Qc Tryz.prog 189 [.i .i64 k1, .sl 4 (l2.map QN)] [] (Gives (.b r) []) := by
 refine Qc.walk 20 Tryz.func189 rfl Tryz.ntmps189 rfl fun C hC => ?_
 unfold QdG at h
 refine Qa hC [.n 6] rfl tt_ ?_
 refine AK.meetX (fun σ => σ = ⟨[(4, .b ((decide (1 ≤ k1)) && ((decide (k1 ≤ 3)) && ((k1 != 3) || (decide ((l2.length : Int) ≤ 4))))))], []⟩) ?_ ?_
 ·refine Qa hC [.n 4] rfl tt_ ?_
  rcases QJ (decide (1 ≤ k1)) with hc5 | hc5
  ·refine Qa hC [.say 7 (.b true), .n 4] rfl ⟨tt_, (congrArg V.b hc5)⟩ ?_
   rcases QJ (decide (k1 ≤ 3)) with hc6 | hc6
   ·refine Qa hC [.say 11 (.b true), .n 3] rfl ⟨tt_, (congrArg V.b hc6)⟩ ?_
    rcases QJ (k1 != 3) with hc7 | hc7
    ·refine Qa hC [.say 14 (.b true), .n 7, .say 4 (.b ((decide (1 ≤ k1)) && ((decide (k1 ≤ 3)) && ((k1 != 3) || (decide ((l2.length : Int) ≤ 4)))))), .keep [4] []] rfl ⟨⟨tt_, (congrArg V.b hc7)⟩, (congrArg V.b (andT hc5 (andT hc6 (orT hc7 rfl))))⟩ ?_
     exact AK.met rfl
    ·refine Qa hC [.say 14 (.b false), .n 1, .o (.ln l2.length), .n 5, .say 4 (.b ((decide (1 ≤ k1)) && ((decide (k1 ≤ 3)) && ((k1 != 3) || (decide ((l2.length : Int) ≤ 4)))))), .keep [4] []] rfl ⟨⟨⟨tt_, (congrArg V.b hc7)⟩, Qg⟩, (congrArg V.b (andT hc5 (andT hc6 (orF hc7 rfl))))⟩ ?_
     exact AK.met rfl
   ·refine Qa hC [.say 11 (.b false), .n 10, .say 4 (.b ((decide (1 ≤ k1)) && ((decide (k1 ≤ 3)) && ((k1 != 3) || (decide ((l2.length : Int) ≤ 4)))))), .keep [4] []] rfl ⟨⟨tt_, (congrArg V.b hc6)⟩, (congrArg V.b (andT hc5 (andF hc6 rfl)))⟩ ?_
    exact AK.met rfl
  ·refine Qa hC [.say 7 (.b false), .n 14, .say 4 (.b ((decide (1 ≤ k1)) && ((decide (k1 ≤ 3)) && ((k1 != 3) || (decide ((l2.length : Int) ≤ 4)))))), .keep [4] []] rfl ⟨⟨tt_, (congrArg V.b hc5)⟩, (congrArg V.b (andF hc5 rfl))⟩ ?_
   exact AK.met rfl
 ·rintro σ rfl
  refine Qa hC [.n 2, .keep [4] []] rfl tt_ ?_
  cases h
  exact AK.done (ex_ [_] (an_ (an_ rfl tt_) (gives tt_)))
def Qjc (t1 : Qr) : Option Bool :=
 (QdG t1.Join t1.Ins).bind fun x11 =>
 bif x11 then
 (QdG t1.Split t1.Outs).bind fun x13 =>
 bif x13 then
 bif (decide (0 ≤ t1.After)) then
 bif (decide (t1.After ≤ 65536)) then
 some (((t1.Many.1 == 0) && ((t1.Many.2.1 == 0) && (t1.Many.2.2 == 0))) || ((decide (1 ≤ t1.Many.1)) && ((decide (t1.Many.1 ≤ t1.Many.2.1)) && ((decide (t1.Many.2.1 ≤ 16)) && ((decide (1 ≤ t1.Many.2.2)) && (decide (t1.Many.2.2 ≤ t1.Many.2.1)))))))
 else
 some false
 else
 some false
 else
 some false
 else
 some false
def QeU (x9 : Bool) : Option Bool :=
 some x9
def Qg7 (t1 : Qr) : Option Bool :=
 (Qjc t1).bind (fun x9 => QeU x9)
theorem QpB (t1 : Qr) {r : Bool} (h : Qg7 t1 = some r) : Qc Tryz.prog 135 [.agg (Qi t1)] [] (Gives (.b r) []) := by
 refine Qc.walk 70 Tryz.func135 rfl Tryz.ntmps135 rfl fun C hC => ?_
 unfold Qg7 at h
 refine Qa hC [.n 7, .keep [1] [1]] rfl tt_ ?_
 refine AK.draw2 Qo hC mixed [.a .no none false, .a .no none false, .a .no none false, .a .no none false, .a .no none false, .a .no none false, .a .no none false, .a .no none false, .a .no none false, .a .no none false, .a .no none false, .a .no none false] [] [] [1, 3, 4, 5] [1] rfl rfl rfl tt_ rfl (by kernel_rfl) rfl rfl rfl ?_
 refine Qa hC [.n 2] rfl tt_ ?_
 refine AK.meetX (fun σ => σ = ⟨[(1, .loc 1 0 0), (6, .b (((t1.Many.1 == 0) && ((t1.Many.2.1 == 0) && (t1.Many.2.2 == 0))) || ((decide (1 ≤ t1.Many.1)) && ((decide (t1.Many.1 ≤ t1.Many.2.1)) && ((decide (t1.Many.2.1 ≤ 16)) && ((decide (1 ≤ t1.Many.2.2)) && (decide (t1.Many.2.2 ≤ t1.Many.2.1))))))))], [(1, .var (Qi t1))]⟩) ?_ ?_
 ·refine Qa hC [.n 2, .v .no [] (.agg (QqJ t1.Many)), .v .no [] (.agg (QqJ (0, 0, 0))), .o (.any (.b ((t1.Many.1 == 0) && ((t1.Many.2.1 == 0) && (t1.Many.2.2 == 0)))) none), .n 1] rfl ⟨⟨⟨tt_, rfl⟩, rfl⟩, (fun σ h1 h2 _ => Stp.eqAgg rfl rfl (bleN hC.n rfl) (h1 _ _ rfl) (h1 _ _ rfl) rfl rfl (Qu2 _ _ _ _ _ _))⟩ ?_
  rcases QJ ((t1.Many.1 == 0) && ((t1.Many.2.1 == 0) && (t1.Many.2.2 == 0))) with hc4 | hc4
  ·refine Qa hC [.say 21 (.b true), .n 23, .say 6 (.b (((t1.Many.1 == 0) && ((t1.Many.2.1 == 0) && (t1.Many.2.2 == 0))) || ((decide (1 ≤ t1.Many.1)) && ((decide (t1.Many.1 ≤ t1.Many.2.1)) && ((decide (t1.Many.2.1 ≤ 16)) && ((decide (1 ≤ t1.Many.2.2)) && (decide (t1.Many.2.2 ≤ t1.Many.2.1)))))))), .keep [1, 6] [1]] rfl ⟨⟨tt_, (congrArg V.b hc4)⟩, (congrArg V.b (orT hc4 rfl))⟩ ?_
   exact AK.met rfl
  ·refine Qa hC [.say 21 (.b false), .n 3] rfl ⟨tt_, (congrArg V.b hc4)⟩ ?_
   rcases QJ (decide (1 ≤ t1.Many.1)) with hc5 | hc5
   ·refine Qa hC [.say 24 (.b true), .n 5] rfl ⟨tt_, (congrArg V.b hc5)⟩ ?_
    rcases QJ (decide (t1.Many.1 ≤ t1.Many.2.1)) with hc6 | hc6
    ·refine Qa hC [.say 29 (.b true), .n 4] rfl ⟨tt_, (congrArg V.b hc6)⟩ ?_
     rcases QJ (decide (t1.Many.2.1 ≤ 16)) with hc7 | hc7
     ·refine Qa hC [.say 33 (.b true), .n 4] rfl ⟨tt_, (congrArg V.b hc7)⟩ ?_
      rcases QJ (decide (1 ≤ t1.Many.2.2)) with hc8 | hc8
      ·refine Qa hC [.say 37 (.b true), .n 7, .say 6 (.b (((t1.Many.1 == 0) && ((t1.Many.2.1 == 0) && (t1.Many.2.2 == 0))) || ((decide (1 ≤ t1.Many.1)) && ((decide (t1.Many.1 ≤ t1.Many.2.1)) && ((decide (t1.Many.2.1 ≤ 16)) && ((decide (1 ≤ t1.Many.2.2)) && (decide (t1.Many.2.2 ≤ t1.Many.2.1)))))))), .keep [1, 6] [1]] rfl ⟨⟨tt_, (congrArg V.b hc8)⟩, (congrArg V.b (orF hc4 (andT hc5 (andT hc6 (andT hc7 (andT hc8 rfl))))))⟩ ?_
       exact AK.met rfl
      ·refine Qa hC [.say 37 (.b false), .n 7, .say 6 (.b (((t1.Many.1 == 0) && ((t1.Many.2.1 == 0) && (t1.Many.2.2 == 0))) || ((decide (1 ≤ t1.Many.1)) && ((decide (t1.Many.1 ≤ t1.Many.2.1)) && ((decide (t1.Many.2.1 ≤ 16)) && ((decide (1 ≤ t1.Many.2.2)) && (decide (t1.Many.2.2 ≤ t1.Many.2.1)))))))), .keep [1, 6] [1]] rfl ⟨⟨tt_, (congrArg V.b hc8)⟩, (congrArg V.b (orF hc4 (andT hc5 (andT hc6 (andT hc7 (andF hc8 rfl))))))⟩ ?_
       exact AK.met rfl
     ·refine Qa hC [.say 33 (.b false), .n 11, .say 6 (.b (((t1.Many.1 == 0) && ((t1.Many.2.1 == 0) && (t1.Many.2.2 == 0))) || ((decide (1 ≤ t1.Many.1)) && ((decide (t1.Many.1 ≤ t1.Many.2.1)) && ((decide (t1.Many.2.1 ≤ 16)) && ((decide (1 ≤ t1.Many.2.2)) && (decide (t1.Many.2.2 ≤ t1.Many.2.1)))))))), .keep [1, 6] [1]] rfl ⟨⟨tt_, (congrArg V.b hc7)⟩, (congrArg V.b (orF hc4 (andT hc5 (andT hc6 (andF hc7 rfl)))))⟩ ?_
      exact AK.met rfl
    ·refine Qa hC [.say 29 (.b false), .n 15, .say 6 (.b (((t1.Many.1 == 0) && ((t1.Many.2.1 == 0) && (t1.Many.2.2 == 0))) || ((decide (1 ≤ t1.Many.1)) && ((decide (t1.Many.1 ≤ t1.Many.2.1)) && ((decide (t1.Many.2.1 ≤ 16)) && ((decide (1 ≤ t1.Many.2.2)) && (decide (t1.Many.2.2 ≤ t1.Many.2.1)))))))), .keep [1, 6] [1]] rfl ⟨⟨tt_, (congrArg V.b hc6)⟩, (congrArg V.b (orF hc4 (andT hc5 (andF hc6 rfl))))⟩ ?_
     exact AK.met rfl
   ·refine Qa hC [.say 24 (.b false), .n 20, .say 6 (.b (((t1.Many.1 == 0) && ((t1.Many.2.1 == 0) && (t1.Many.2.2 == 0))) || ((decide (1 ≤ t1.Many.1)) && ((decide (t1.Many.1 ≤ t1.Many.2.1)) && ((decide (t1.Many.2.1 ≤ 16)) && ((decide (1 ≤ t1.Many.2.2)) && (decide (t1.Many.2.2 ≤ t1.Many.2.1)))))))), .keep [1, 6] [1]] rfl ⟨⟨tt_, (congrArg V.b hc5)⟩, (congrArg V.b (orF hc4 (andF hc5 rfl)))⟩ ?_
    exact AK.met rfl
 ·rintro σ rfl
  refine Qa hC [.n 7] rfl tt_ ?_
  obtain ⟨x9, hv10, h⟩ := Qb h
  replace h : QeU x9 = some r := h
  refine AK.meetX (fun σ => σ = ⟨[(2, .b x9)], []⟩) ?_ ?_
  ·replace h := hv10
   unfold Qjc at h
   obtain ⟨x11, hx11, h⟩ := Qb h
   refine Qa hC [.n 6, .o (.c false [.d, .d] (.b x11)), .n 1] rfl ⟨tt_, (Qkz _ _ hx11)⟩ ?_
   rcases bifE h with ⟨hc12, h⟩ | ⟨hc12, h⟩
   ·obtain ⟨x13, hx13, h⟩ := Qb h
    refine Qa hC [.say 49 (.b true), .n 5, .o (.c false [.d, .d] (.b x13)), .n 2] rfl ⟨⟨tt_, (congrArg V.b hc12)⟩, (Qkz _ _ hx13)⟩ ?_
    rcases bifE h with ⟨hc14, h⟩ | ⟨hc14, h⟩
    ·refine Qa hC [.say 57 (.b true), .n 5] rfl ⟨tt_, (congrArg V.b hc14)⟩ ?_
     rcases bifE h with ⟨hc15, h⟩ | ⟨hc15, h⟩
     ·refine Qa hC [.say 62 (.b true), .n 5] rfl ⟨tt_, (congrArg V.b hc15)⟩ ?_
      rcases bifE h with ⟨hc16, h⟩ | ⟨hc16, h⟩
      ·refine Qa hC [.say 67 (.b true), .n 4, .keep [2] []] rfl ⟨tt_, (congrArg V.b hc16)⟩ ?_
       cases h
       exact AK.met rfl
      ·refine Qa hC [.say 67 (.b false), .n 4, .keep [2] []] rfl ⟨tt_, (congrArg V.b hc16)⟩ ?_
       cases h
       exact AK.met rfl
     ·refine Qa hC [.say 62 (.b false), .n 9, .keep [2] []] rfl ⟨tt_, (congrArg V.b hc15)⟩ ?_
      cases h
      exact AK.met rfl
    ·refine Qa hC [.say 57 (.b false), .n 14, .keep [2] []] rfl ⟨tt_, (congrArg V.b hc14)⟩ ?_
     cases h
     exact AK.met rfl
   ·refine Qa hC [.say 49 (.b false), .n 22, .keep [2] []] rfl ⟨tt_, (congrArg V.b hc12)⟩ ?_
    cases h
    exact AK.met rfl
  ·rintro σ rfl
   replace h : QeU x9 = some r := h
   unfold QeU at h
   refine Qa hC [.n 2, .keep [2] []] rfl tt_ ?_
   cases h
   exact AK.done (ex_ [_] (an_ (an_ rfl tt_) (gives tt_)))
def QfD (v1 : Qr) : Option Bool :=
 (Qg7 v1).bind fun x3 =>
 some x3
theorem Qoh (v1 : Qr) {r : Bool} (h : QfD v1 = some r) : Qc Tryz.prog 134 [.loc 200000 0 0] [(200000, .var (Qi v1))] (Gives (.b r) [(200000, .var (Qi v1))]) := by
 refine Qc.walk 4 Tryz.func134 rfl Tryz.ntmps134 rfl fun C hC => ?_
 unfold QfD at h
 obtain ⟨x3, hx3, h⟩ := Qb h
 refine Qa hC [.n 7, .v .no [] (.agg (Qi v1)), .o (.c false [.d] (.b x3)), .n 4, .keep [1] [200000]] rfl ⟨⟨tt_, rfl⟩, (QpB _ hx3)⟩ ?_
 cases h
 exact AK.done (ex_ [_] (an_ (an_ rfl tt_) (gives ⟨rfl, tt_⟩)))
def Qda (v1 : Qr) (v2 : Int) (v3 : TNet) (v4 : Int) (v5 : Int) (v6 : Int) (v7 : Int) (v8 : Int) (v9 : Int) (v10 : Int) (v11 : Int) (v12 : Int) (v13 : Int) (v14 : Int) (v15 : Int) : Option (Int × Int) :=
 (Qgk v1).bind fun x20 =>
 bif (!x20) then
 some (v2, v8)
 else
 (Qgn v3 v4 v1).bind fun x22 =>
 bif (!x22) then
 some (v5, v8)
 else
 (Qeo v6 v1).bind fun x24 =>
 bif (!x24) then
 some (v7, v8)
 else
 (QfA v3 v1 v8).bind fun x26 =>
 bif (!x26.1) then
 some (v9, x26.2)
 else
 (Qgp v3 v4).bind fun x28 =>
 bif (!x28) then
 some (v10, x26.2)
 else
 (Qgq v1 v6).bind fun x30 =>
 bif (!x30) then
 some (v11, x26.2)
 else
 (Qdo v3 v1 v6 x26.2).bind fun x32 =>
 bif (!x32.1) then
 some (v12, x32.2)
 else
 (Qdp v3 v1 v6 x32.2).bind fun x34 =>
 bif (!x34.1) then
 some (v13, x34.2)
 else
 (Qdq v3 v1 x34.2).bind fun x36 =>
 bif (!x36.1) then
 some (v14, x36.2)
 else
 (QfD v1).bind fun x38 =>
 bif (!x38) then
 some (v15, x36.2)
 else
 some (0, x36.2)
theorem QnH (v1 : Qr) (v2 : Int) (v3 : TNet) (v4 : Int) (v5 : Int) (v6 : Int) (v7 : Int) (v8 : Int) (v9 : Int) (v10 : Int) (v11 : Int) (v12 : Int) (v13 : Int) (v14 : Int) (v15 : Int) {r : (Int × Int)} (h : Qda v1 v2 v3 v4 v5 v6 v7 v8 v9 v10 v11 v12 v13 v14 v15 = some r) : Qc Tryz.prog 57 [.own 200000 10] [(200000, .var [.clo (.func 119) [] [.loc 200001 0 0], .i .i64 v2, .clo (.func 120) [] [.loc 200002 0 0, .loc 200003 0 0, .loc 200004 0 0], .i .i64 v5, .clo (.func 122) [] [.loc 200005 0 0, .loc 200001 0 0], .i .i64 v7, .clo (.func 170) [] [.loc 200006 0 0, .loc 200007 0 0], .i .i64 v9, .clo (.func 126) [] [.loc 200002 0 0, .loc 200003 0 0], .i .i64 v10, .clo (.func 127) [] [.loc 200001 0 0, .loc 200005 0 0], .i .i64 v11, .clo (.func 170) [] [.loc 200009 0 0, .loc 200010 0 0], .i .i64 v12, .clo (.func 170) [] [.loc 200011 0 0, .loc 200012 0 0], .i .i64 v13, .clo (.func 170) [] [.loc 200013 0 0, .loc 200014 0 0], .i .i64 v14, .clo (.func 134) [] [.loc 200001 0 0], .i .i64 v15]), (200001, .var (Qi v1)), (200002, .var (Qd v3)), (200003, .var (Qe v4)), (200004, .var [.clo (.func 118) [] [.loc 200001 0 0]]), (200005, .var (Qe v6)), (200006, .var [.clo (.func 124) [] [.loc 200002 0 0, .loc 200001 0 0]]), (200007, .var [.loc 200008 0 0]), (200008, .var (Qe v8)), (200009, .var [.clo (.func 129) [] [.loc 200002 0 0, .loc 200001 0 0, .loc 200005 0 0]]), (200010, .var [.loc 200008 0 0]), (200011, .var [.clo (.func 131) [] [.loc 200002 0 0, .loc 200001 0 0, .loc 200005 0 0]]), (200012, .var [.loc 200008 0 0]), (200013, .var [.clo (.func 132) [] [.loc 200002 0 0, .loc 200001 0 0]]), (200014, .var [.loc 200008 0 0])] (Gives (.i .i64 r.1) [(200000, .var [.clo (.func 119) [] [.loc 200001 0 0], .i .i64 v2, .clo (.func 120) [] [.loc 200002 0 0, .loc 200003 0 0, .loc 200004 0 0], .i .i64 v5, .clo (.func 122) [] [.loc 200005 0 0, .loc 200001 0 0], .i .i64 v7, .clo (.func 170) [] [.loc 200006 0 0, .loc 200007 0 0], .i .i64 v9, .clo (.func 126) [] [.loc 200002 0 0, .loc 200003 0 0], .i .i64 v10, .clo (.func 127) [] [.loc 200001 0 0, .loc 200005 0 0], .i .i64 v11, .clo (.func 170) [] [.loc 200009 0 0, .loc 200010 0 0], .i .i64 v12, .clo (.func 170) [] [.loc 200011 0 0, .loc 200012 0 0], .i .i64 v13, .clo (.func 170) [] [.loc 200013 0 0, .loc 200014 0 0], .i .i64 v14, .clo (.func 134) [] [.loc 200001 0 0], .i .i64 v15]), (200001, .var (Qi v1)), (200002, .var (Qd v3)), (200003, .var (Qe v4)), (200004, .var [.clo (.func 118) [] [.loc 200001 0 0]]), (200005, .var (Qe v6)), (200006, .var [.clo (.func 124) [] [.loc 200002 0 0, .loc 200001 0 0]]), (200007, .var [.loc 200008 0 0]), (200008, .var (Qe r.2)), (200009, .var [.clo (.func 129) [] [.loc 200002 0 0, .loc 200001 0 0, .loc 200005 0 0]]), (200010, .var [.loc 200008 0 0]), (200011, .var [.clo (.func 131) [] [.loc 200002 0 0, .loc 200001 0 0, .loc 200005 0 0]]), (200012, .var [.loc 200008 0 0]), (200013, .var [.clo (.func 132) [] [.loc 200002 0 0, .loc 200001 0 0]]), (200014, .var [.loc 200008 0 0])]) := by
 refine Qc.walk 18 Tryz.func57 rfl Tryz.ntmps57 rfl fun C hC => ?_
 unfold Qda at h
 refine Qa hC [.n 14] rfl tt_ ?_
 refine AK.loopN 11 (AK.rnd ?_)
 obtain ⟨x20, hx20, h⟩ := Qb h
 refine Qa hC [.n 2, .v .no [] (.b true), .n 10, .o (.any (.loc 200000 0 0) none), .n 3, .sayO 4 (.var [.clo (.func 119) [] [.loc 200001 0 0], .i .i64 v2]), .n 6, .cm (.clo) [(200000, 200001)] [(200001, 200000)] [] [.d] [(200000, .var (Qi v1))] (.b x20), .n 3] rfl ⟨⟨⟨⟨tt_, rfl⟩, (fun σ h1 h2 _ => Stp.idxV rfl rfl (bleN hC.n rfl) (h1 _ _ rfl) (h1 _ _ rfl) (Qo.es rfl) (h2 _ _ rfl) (by decide))⟩, rfl⟩, (QoS _ hx20)⟩ ?_
 rcases bifE h with ⟨hc21, h⟩ | ⟨hc21, h⟩
 ·refine Qa hC [.br true, .n 13, .keep [2] [200000, 200001, 200002, 200003, 200004, 200005, 200006, 200007, 200008, 200009, 200010, 200011, 200012, 200013, 200014]] rfl ⟨tt_, hc21⟩ ?_
  cases h
  exact AK.done (ex_ [_] (an_ (an_ rfl tt_) (gives ⟨rfl, rfl, rfl, rfl, rfl, rfl, rfl, rfl, rfl, rfl, rfl, rfl, rfl, rfl, rfl, tt_⟩)))
 ·refine Qa hC [.br false, .n 4, .v .no [] (.i .i64 1), .n 2] rfl ⟨⟨tt_, hc21⟩, rfl⟩ ?_
  refine AK.met (AK.rnd ?_)
  obtain ⟨x22, hx22, h⟩ := Qb h
  refine Qa hC [.n 2, .v .no [] (.b true), .n 10, .o (.any (.loc 200000 0 2) none), .n 1, .kill 4, .n 2, .sayO 4 (.var [.clo (.func 120) [] [.loc 200002 0 0, .loc 200003 0 0, .loc 200004 0 0], .i .i64 v5]), .n 6, .cm (.clo) [(200000, 200002), (200001, 200003), (200002, 200004), (200003, 200001)] [(200002, 200000), (200003, 200001), (200004, 200002), (200001, 200003)] [] [.d, .d, .d] [(200000, .var (Qd v3)), (200001, .var (Qe v4)), (200002, .var [.clo (.func 118) [] [.loc 200003 0 0]]), (200003, .var (Qi v1))] (.b x22), .n 3] rfl ⟨⟨⟨⟨tt_, rfl⟩, (fun σ h1 h2 _ => Stp.idxV rfl rfl (bleN hC.n rfl) (h1 _ _ rfl) (h1 _ _ rfl) (Qo.es rfl) (h2 _ _ rfl) (by decide))⟩, rfl⟩, (QoU _ _ _ hx22)⟩ ?_
  rcases bifE h with ⟨hc23, h⟩ | ⟨hc23, h⟩
  ·refine Qa hC [.br true, .n 13, .keep [2] [200000, 200001, 200002, 200003, 200004, 200005, 200006, 200007, 200008, 200009, 200010, 200011, 200012, 200013, 200014]] rfl ⟨tt_, hc23⟩ ?_
   cases h
   exact AK.done (ex_ [_] (an_ (an_ rfl tt_) (gives ⟨rfl, rfl, rfl, rfl, rfl, rfl, rfl, rfl, rfl, rfl, rfl, rfl, rfl, rfl, rfl, tt_⟩)))
  ·refine Qa hC [.br false, .n 4, .v .no [] (.i .i64 2), .n 2] rfl ⟨⟨tt_, hc23⟩, rfl⟩ ?_
   refine AK.met (AK.rnd ?_)
   obtain ⟨x24, hx24, h⟩ := Qb h
   refine Qa hC [.n 2, .v .no [] (.b true), .n 10, .o (.any (.loc 200000 0 4) none), .n 1, .kill 4, .n 2, .sayO 4 (.var [.clo (.func 122) [] [.loc 200005 0 0, .loc 200001 0 0], .i .i64 v7]), .n 6, .cm (.clo) [(200000, 200005), (200001, 200001)] [(200005, 200000), (200001, 200001)] [] [.d, .d] [(200000, .var (Qe v6)), (200001, .var (Qi v1))] (.b x24), .n 3] rfl ⟨⟨⟨⟨tt_, rfl⟩, (fun σ h1 h2 _ => Stp.idxV rfl rfl (bleN hC.n rfl) (h1 _ _ rfl) (h1 _ _ rfl) (Qo.es rfl) (h2 _ _ rfl) (by decide))⟩, rfl⟩, (QoV _ _ hx24)⟩ ?_
   rcases bifE h with ⟨hc25, h⟩ | ⟨hc25, h⟩
   ·refine Qa hC [.br true, .n 13, .keep [2] [200000, 200001, 200002, 200003, 200004, 200005, 200006, 200007, 200008, 200009, 200010, 200011, 200012, 200013, 200014]] rfl ⟨tt_, hc25⟩ ?_
    cases h
    exact AK.done (ex_ [_] (an_ (an_ rfl tt_) (gives ⟨rfl, rfl, rfl, rfl, rfl, rfl, rfl, rfl, rfl, rfl, rfl, rfl, rfl, rfl, rfl, tt_⟩)))
   ·refine Qa hC [.br false, .n 4, .v .no [] (.i .i64 3), .n 2] rfl ⟨⟨tt_, hc25⟩, rfl⟩ ?_
    refine AK.met (AK.rnd ?_)
    obtain ⟨x26, hx26, h⟩ := Qb h
    refine Qa hC [.n 2, .v .no [] (.b true), .n 10, .o (.any (.loc 200000 0 6) none), .n 1, .kill 4, .n 2, .sayO 4 (.var [.clo (.func 170) [] [.loc 200006 0 0, .loc 200007 0 0], .i .i64 v9]), .n 6, .cm (.clo) [(200000, 200006), (200001, 200002), (200002, 200001), (200003, 200007), (200004, 200008)] [(200006, 200000), (200002, 200001), (200001, 200002), (200007, 200003), (200008, 200004)] [] [.d, .d] [(200000, .var [.clo (.func 124) [] [.loc 200001 0 0, .loc 200002 0 0]]), (200001, .var (Qd v3)), (200002, .var (Qi v1)), (200003, .var [.loc 200004 0 0]), (200004, .var (Qe x26.2))] (.b x26.1), .n 3] rfl ⟨⟨⟨⟨tt_, rfl⟩, (fun σ h1 h2 _ => Stp.idxV rfl rfl (bleN hC.n rfl) (h1 _ _ rfl) (h1 _ _ rfl) (Qo.es rfl) (h2 _ _ rfl) (by decide))⟩, rfl⟩, (Qoe _ _ _ hx26)⟩ ?_
    rcases bifE h with ⟨hc27, h⟩ | ⟨hc27, h⟩
    ·refine Qa hC [.br true, .n 13, .keep [2] [200000, 200001, 200002, 200003, 200004, 200005, 200006, 200007, 200008, 200009, 200010, 200011, 200012, 200013, 200014]] rfl ⟨tt_, hc27⟩ ?_
     cases h
     exact AK.done (ex_ [_] (an_ (an_ rfl tt_) (gives ⟨rfl, rfl, rfl, rfl, rfl, rfl, rfl, rfl, rfl, rfl, rfl, rfl, rfl, rfl, rfl, tt_⟩)))
    ·refine Qa hC [.br false, .n 4, .v .no [] (.i .i64 4), .n 2] rfl ⟨⟨tt_, hc27⟩, rfl⟩ ?_
     refine AK.met (AK.rnd ?_)
     obtain ⟨x28, hx28, h⟩ := Qb h
     refine Qa hC [.n 2, .v .no [] (.b true), .n 10, .o (.any (.loc 200000 0 8) none), .n 1, .kill 4, .n 2, .sayO 4 (.var [.clo (.func 126) [] [.loc 200002 0 0, .loc 200003 0 0], .i .i64 v10]), .n 6, .cm (.clo) [(200000, 200002), (200001, 200003)] [(200002, 200000), (200003, 200001)] [] [.d, .d] [(200000, .var (Qd v3)), (200001, .var (Qe v4))] (.b x28), .n 3] rfl ⟨⟨⟨⟨tt_, rfl⟩, (fun σ h1 h2 _ => Stp.idxV rfl rfl (bleN hC.n rfl) (h1 _ _ rfl) (h1 _ _ rfl) (Qo.es rfl) (h2 _ _ rfl) (by decide))⟩, rfl⟩, (QoX _ _ hx28)⟩ ?_
     rcases bifE h with ⟨hc29, h⟩ | ⟨hc29, h⟩
     ·refine Qa hC [.br true, .n 13, .keep [2] [200000, 200001, 200002, 200003, 200004, 200005, 200006, 200007, 200008, 200009, 200010, 200011, 200012, 200013, 200014]] rfl ⟨tt_, hc29⟩ ?_
      cases h
      exact AK.done (ex_ [_] (an_ (an_ rfl tt_) (gives ⟨rfl, rfl, rfl, rfl, rfl, rfl, rfl, rfl, rfl, rfl, rfl, rfl, rfl, rfl, rfl, tt_⟩)))
     ·refine Qa hC [.br false, .n 4, .v .no [] (.i .i64 5), .n 2] rfl ⟨⟨tt_, hc29⟩, rfl⟩ ?_
      refine AK.met (AK.rnd ?_)
      obtain ⟨x30, hx30, h⟩ := Qb h
      refine Qa hC [.n 2, .v .no [] (.b true), .n 10, .o (.any (.loc 200000 0 10) none), .n 1, .kill 4, .n 2, .sayO 4 (.var [.clo (.func 127) [] [.loc 200001 0 0, .loc 200005 0 0], .i .i64 v11]), .n 6, .cm (.clo) [(200000, 200001), (200001, 200005)] [(200001, 200000), (200005, 200001)] [] [.d, .d] [(200000, .var (Qi v1)), (200001, .var (Qe v6))] (.b x30), .n 3] rfl ⟨⟨⟨⟨tt_, rfl⟩, (fun σ h1 h2 _ => Stp.idxV rfl rfl (bleN hC.n rfl) (h1 _ _ rfl) (h1 _ _ rfl) (Qo.es rfl) (h2 _ _ rfl) (by decide))⟩, rfl⟩, (QoY _ _ hx30)⟩ ?_
      rcases bifE h with ⟨hc31, h⟩ | ⟨hc31, h⟩
      ·refine Qa hC [.br true, .n 13, .keep [2] [200000, 200001, 200002, 200003, 200004, 200005, 200006, 200007, 200008, 200009, 200010, 200011, 200012, 200013, 200014]] rfl ⟨tt_, hc31⟩ ?_
       cases h
       exact AK.done (ex_ [_] (an_ (an_ rfl tt_) (gives ⟨rfl, rfl, rfl, rfl, rfl, rfl, rfl, rfl, rfl, rfl, rfl, rfl, rfl, rfl, rfl, tt_⟩)))
      ·refine Qa hC [.br false, .n 4, .v .no [] (.i .i64 6), .n 2] rfl ⟨⟨tt_, hc31⟩, rfl⟩ ?_
       refine AK.met (AK.rnd ?_)
       obtain ⟨x32, hx32, h⟩ := Qb h
       refine Qa hC [.n 2, .v .no [] (.b true), .n 10, .o (.any (.loc 200000 0 12) none), .n 1, .kill 4, .n 2, .sayO 4 (.var [.clo (.func 170) [] [.loc 200009 0 0, .loc 200010 0 0], .i .i64 v12]), .n 6, .cm (.clo) [(200000, 200009), (200001, 200002), (200002, 200001), (200003, 200005), (200004, 200010), (200005, 200008)] [(200009, 200000), (200002, 200001), (200001, 200002), (200005, 200003), (200010, 200004), (200008, 200005)] [] [.d, .d] [(200000, .var [.clo (.func 129) [] [.loc 200001 0 0, .loc 200002 0 0, .loc 200003 0 0]]), (200001, .var (Qd v3)), (200002, .var (Qi v1)), (200003, .var (Qe v6)), (200004, .var [.loc 200005 0 0]), (200005, .var (Qe x32.2))] (.b x32.1), .n 3] rfl ⟨⟨⟨⟨tt_, rfl⟩, (fun σ h1 h2 _ => Stp.idxV rfl rfl (bleN hC.n rfl) (h1 _ _ rfl) (h1 _ _ rfl) (Qo.es rfl) (h2 _ _ rfl) (by decide))⟩, rfl⟩, (QmA _ _ _ _ hx32)⟩ ?_
       rcases bifE h with ⟨hc33, h⟩ | ⟨hc33, h⟩
       ·refine Qa hC [.br true, .n 13, .keep [2] [200000, 200001, 200002, 200003, 200004, 200005, 200006, 200007, 200008, 200009, 200010, 200011, 200012, 200013, 200014]] rfl ⟨tt_, hc33⟩ ?_
        cases h
        exact AK.done (ex_ [_] (an_ (an_ rfl tt_) (gives ⟨rfl, rfl, rfl, rfl, rfl, rfl, rfl, rfl, rfl, rfl, rfl, rfl, rfl, rfl, rfl, tt_⟩)))
       ·refine Qa hC [.br false, .n 4, .v .no [] (.i .i64 7), .n 2] rfl ⟨⟨tt_, hc33⟩, rfl⟩ ?_
        refine AK.met (AK.rnd ?_)
        obtain ⟨x34, hx34, h⟩ := Qb h
        refine Qa hC [.n 2, .v .no [] (.b true), .n 10, .o (.any (.loc 200000 0 14) none), .n 1, .kill 4, .n 2, .sayO 4 (.var [.clo (.func 170) [] [.loc 200011 0 0, .loc 200012 0 0], .i .i64 v13]), .n 6, .cm (.clo) [(200000, 200011), (200001, 200002), (200002, 200001), (200003, 200005), (200004, 200012), (200005, 200008)] [(200011, 200000), (200002, 200001), (200001, 200002), (200005, 200003), (200012, 200004), (200008, 200005)] [] [.d, .d] [(200000, .var [.clo (.func 131) [] [.loc 200001 0 0, .loc 200002 0 0, .loc 200003 0 0]]), (200001, .var (Qd v3)), (200002, .var (Qi v1)), (200003, .var (Qe v6)), (200004, .var [.loc 200005 0 0]), (200005, .var (Qe x34.2))] (.b x34.1), .n 3] rfl ⟨⟨⟨⟨tt_, rfl⟩, (fun σ h1 h2 _ => Stp.idxV rfl rfl (bleN hC.n rfl) (h1 _ _ rfl) (h1 _ _ rfl) (Qo.es rfl) (h2 _ _ rfl) (by decide))⟩, rfl⟩, (QmB _ _ _ _ hx34)⟩ ?_
        rcases bifE h with ⟨hc35, h⟩ | ⟨hc35, h⟩
        ·refine Qa hC [.br true, .n 13, .keep [2] [200000, 200001, 200002, 200003, 200004, 200005, 200006, 200007, 200008, 200009, 200010, 200011, 200012, 200013, 200014]] rfl ⟨tt_, hc35⟩ ?_
         cases h
         exact AK.done (ex_ [_] (an_ (an_ rfl tt_) (gives ⟨rfl, rfl, rfl, rfl, rfl, rfl, rfl, rfl, rfl, rfl, rfl, rfl, rfl, rfl, rfl, tt_⟩)))
        ·refine Qa hC [.br false, .n 4, .v .no [] (.i .i64 8), .n 2] rfl ⟨⟨tt_, hc35⟩, rfl⟩ ?_
         refine AK.met (AK.rnd ?_)
         obtain ⟨x36, hx36, h⟩ := Qb h
         refine Qa hC [.n 2, .v .no [] (.b true), .n 10, .o (.any (.loc 200000 0 16) none), .n 1, .kill 4, .n 2, .sayO 4 (.var [.clo (.func 170) [] [.loc 200013 0 0, .loc 200014 0 0], .i .i64 v14]), .n 6, .cm (.clo) [(200000, 200013), (200001, 200002), (200002, 200001), (200003, 200014), (200004, 200008)] [(200013, 200000), (200002, 200001), (200001, 200002), (200014, 200003), (200008, 200004)] [] [.d, .d] [(200000, .var [.clo (.func 132) [] [.loc 200001 0 0, .loc 200002 0 0]]), (200001, .var (Qd v3)), (200002, .var (Qi v1)), (200003, .var [.loc 200004 0 0]), (200004, .var (Qe x36.2))] (.b x36.1), .n 3] rfl ⟨⟨⟨⟨tt_, rfl⟩, (fun σ h1 h2 _ => Stp.idxV rfl rfl (bleN hC.n rfl) (h1 _ _ rfl) (h1 _ _ rfl) (Qo.es rfl) (h2 _ _ rfl) (by decide))⟩, rfl⟩, (QmC _ _ _ hx36)⟩ ?_
         rcases bifE h with ⟨hc37, h⟩ | ⟨hc37, h⟩
         ·refine Qa hC [.br true, .n 13, .keep [2] [200000, 200001, 200002, 200003, 200004, 200005, 200006, 200007, 200008, 200009, 200010, 200011, 200012, 200013, 200014]] rfl ⟨tt_, hc37⟩ ?_
          cases h
          exact AK.done (ex_ [_] (an_ (an_ rfl tt_) (gives ⟨rfl, rfl, rfl, rfl, rfl, rfl, rfl, rfl, rfl, rfl, rfl, rfl, rfl, rfl, rfl, tt_⟩)))
         ·refine Qa hC [.br false, .n 4, .v .no [] (.i .i64 9), .n 2] rfl ⟨⟨tt_, hc37⟩, rfl⟩ ?_
          refine AK.met (AK.rnd ?_)
          obtain ⟨x38, hx38, h⟩ := Qb h
          refine Qa hC [.n 2, .v .no [] (.b true), .n 10, .o (.any (.loc 200000 0 18) none), .n 1, .kill 4, .n 2, .sayO 4 (.var [.clo (.func 134) [] [.loc 200001 0 0], .i .i64 v15]), .n 6, .cm (.clo) [(200000, 200001)] [(200001, 200000)] [] [.d] [(200000, .var (Qi v1))] (.b x38), .n 3] rfl ⟨⟨⟨⟨tt_, rfl⟩, (fun σ h1 h2 _ => Stp.idxV rfl rfl (bleN hC.n rfl) (h1 _ _ rfl) (h1 _ _ rfl) (Qo.es rfl) (h2 _ _ rfl) (by decide))⟩, rfl⟩, (Qoh _ hx38)⟩ ?_
          rcases bifE h with ⟨hc39, h⟩ | ⟨hc39, h⟩
          ·refine Qa hC [.br true, .n 13, .keep [2] [200000, 200001, 200002, 200003, 200004, 200005, 200006, 200007, 200008, 200009, 200010, 200011, 200012, 200013, 200014]] rfl ⟨tt_, hc39⟩ ?_
           cases h
           exact AK.done (ex_ [_] (an_ (an_ rfl tt_) (gives ⟨rfl, rfl, rfl, rfl, rfl, rfl, rfl, rfl, rfl, rfl, rfl, rfl, rfl, rfl, rfl, tt_⟩)))
          ·refine Qa hC [.br false, .n 4, .v .no [] (.i .i64 10), .n 2] rfl ⟨⟨tt_, hc39⟩, rfl⟩ ?_
           refine AK.met (AK.rnd ?_)
           refine Qa hC [.n 2, .v .no [] (.b false), .n 15, .keep [2] [200000, 200001, 200002, 200003, 200004, 200005, 200006, 200007, 200008, 200009, 200010, 200011, 200012, 200013, 200014]] rfl ⟨tt_, rfl⟩ ?_
           cases h
           exact AK.done (ex_ [_] (an_ (an_ rfl tt_) (gives ⟨rfl, rfl, rfl, rfl, rfl, rfl, rfl, rfl, rfl, rfl, rfl, rfl, rfl, rfl, rfl, tt_⟩)))
def QbD (n1 : TNet) (k2 : Int) : Option Int :=
 (Qbm n1.Tasks k2).bind fun x5 =>
 bif (!x5) then
 some 3
 else
 (QdF n1).bind fun x7 =>
 bif (x7.2 != 0) then
 some x7.2
 else
 (idx n1.Tasks k2).bind fun e9 =>
 (idx n1.Tasks k2).bind fun e10 =>
 (Qg5 0 n1 e9).bind fun x11 =>
 (QeJ 0 n1 e9 (e10.Vars.length : Int)).bind fun x12 =>
 (QeK 0 n1 e9 (e10.Vars.length : Int)).bind fun x13 =>
 (QeL 0 n1 e9).bind fun x14 =>
 (Qda e9 1 n1 k2 5 (e10.Vars.length : Int) 2 0 (-1) 2 1 (-1) (-1) (-1) 11).bind fun x15 =>
 bif (x15.1 == (-1)) then
 some x15.2
 else
 some x15.1
theorem Qqf (n1 : TNet) (k2 : Int) {r : Int} (h : QbD n1 k2 = some r) : Qc Tryz.prog 68 [.agg (Qd n1), .i .i64 k2] [] (Gives (.i .i64 r) []) := by
 refine Qc.walk 68 Tryz.func68 rfl Tryz.ntmps68 rfl fun C hC => ?_
 unfold QbD at h
 obtain ⟨x5, hx5, h⟩ := Qb h
 refine Qa hC [.n 13, .o (.c false [.d, .d] (.b x5)), .n 3] rfl ⟨tt_, (QhB _ _ hx5)⟩ ?_
 rcases bifE h with ⟨hc6, h⟩ | ⟨hc6, h⟩
 ·refine Qa hC [.br true, .n 7, .keep [4] []] rfl ⟨tt_, hc6⟩ ?_
  cases h
  exact AK.done (ex_ [_] (an_ (an_ rfl tt_) (gives tt_)))
 ·obtain ⟨x7, hx7, h⟩ := Qb h
  refine Qa hC [.br false, .n 5, .v .no [] (.agg (Qd n1)), .o (.c false [.d] (.tup [.i .i64 x7.1, .i .i64 x7.2])), .n 13] rfl ⟨⟨⟨tt_, hc6⟩, rfl⟩, (Qky _ hx7)⟩ ?_
  rcases bifE h with ⟨hc8, h⟩ | ⟨hc8, h⟩
  ·refine Qa hC [.br true, .n 8, .keep [4] []] rfl ⟨tt_, hc8⟩ ?_
   cases h
   exact AK.done (ex_ [_] (an_ (an_ rfl tt_) (gives tt_)))
  ·obtain ⟨e9, he9, h⟩ := Qb h
   obtain ⟨e10, he10, h⟩ := Qb h
   refine Qa hC [.br false, .n 3, .keep [2, 3] [2, 3]] rfl ⟨tt_, hc8⟩ ?_
   refine AK.draw2 Qo hC mixed [.a .no none false, .a .no none false, .a .no none false, .a (.row (Qi e9)) none false, .a .no (some ([], .agg (Qi e9))) false, .a .no none true, .a .no none true, .a .no none true, .a (.row (Qi e10)) none true, .a .no none true, .a .no none true, .a (.ln e10.Vars.length) none true, .a .no none false, .a .no none false, .m .s, .m .s] [2, 3] [2, 3] [2, 3, 7, 8] [2, 3, 7, 8] rfl rfl rfl ⟨⟨⟨⟨tt_, (idxM he9)⟩, rfl⟩, (idxM he10)⟩, Qg⟩ rfl (by kernel_rfl) rfl rfl rfl ?_
   obtain ⟨x11, hx11, h⟩ := Qb h
   obtain ⟨x12, hx12, h⟩ := Qb h
   obtain ⟨x13, hx13, h⟩ := Qb h
   obtain ⟨x14, hx14, h⟩ := Qb h
   obtain ⟨x15, hx15, h⟩ := Qb h
   refine Qa hC [.sayO 7 (.var (Qi e9)), .sayO 8 (.var (Qe (e10.Vars.length : Int))), .n 6, .sayO 9 (.var [.clo (.func 118) [] [.loc 7 0 0]]), .n 10, .v .no [] (.agg [.clo (.func 119) [] [.loc 7 0 0], .i .i64 1]), .n 1, .v .no [] (.agg [.clo (.func 120) [] [.loc 2 0 0, .loc 3 0 0, .loc 9 0 0], .i .i64 5]), .n 1, .v .no [] (.agg [.clo (.func 122) [] [.loc 8 0 0, .loc 7 0 0], .i .i64 2]), .n 1, .cm (.fn) [(200000, 10), (200001, 2), (200002, 7)] [(45, 2), (50000, 3), (10, 200000), (2, 200001), (7, 200002)] [] [.d, .d] [(2, .var [.loc 200000 0 0]), (3, .var [.clo (.func 124) [] [.loc 200001 0 0, .loc 200002 0 0]]), (200000, .var (Qe 0)), (200001, .var (Qd n1)), (200002, .var (Qi e9))] (.clo (.func 170) [] [.loc 3 0 0, .loc 2 0 0]), .v .no [] (.agg [.clo (.func 170) [] [.loc 50000 0 0, .loc 45 0 0], .i .i64 (-1)]), .n 1, .v .no [] (.agg [.clo (.func 126) [] [.loc 2 0 0, .loc 3 0 0], .i .i64 2]), .n 1, .v .no [] (.agg [.clo (.func 127) [] [.loc 7 0 0, .loc 8 0 0], .i .i64 1]), .n 1, .cm (.fn) [(200000, 10), (200001, 2), (200002, 7), (200003, 8)] [(52, 2), (50001, 3), (10, 200000), (2, 200001), (7, 200002), (8, 200003)] [] [.d, .d] [(2, .var [.loc 200000 0 0]), (3, .var [.clo (.func 129) [] [.loc 200001 0 0, .loc 200002 0 0, .loc 200003 0 0]]), (200000, .var (Qe 0)), (200001, .var (Qd n1)), (200002, .var (Qi e9)), (200003, .var (Qe (e10.Vars.length : Int)))] (.clo (.func 170) [] [.loc 3 0 0, .loc 2 0 0]), .v .no [] (.agg [.clo (.func 170) [] [.loc 50001 0 0, .loc 52 0 0], .i .i64 (-1)]), .n 1, .cm (.fn) [(200000, 10), (200001, 2), (200002, 7), (200003, 8)] [(55, 2), (50002, 3), (10, 200000), (2, 200001), (7, 200002), (8, 200003)] [] [.d, .d] [(2, .var [.loc 200000 0 0]), (3, .var [.clo (.func 131) [] [.loc 200001 0 0, .loc 200002 0 0, .loc 200003 0 0]]), (200000, .var (Qe 0)), (200001, .var (Qd n1)), (200002, .var (Qi e9)), (200003, .var (Qe (e10.Vars.length : Int)))] (.clo (.func 170) [] [.loc 3 0 0, .loc 2 0 0]), .v .no [] (.agg [.clo (.func 170) [] [.loc 50002 0 0, .loc 55 0 0], .i .i64 (-1)]), .n 1, .cm (.fn) [(200000, 10), (200001, 2), (200002, 7)] [(58, 2), (50003, 3), (10, 200000), (2, 200001), (7, 200002)] [] [.d, .d] [(2, .var [.loc 200000 0 0]), (3, .var [.clo (.func 132) [] [.loc 200001 0 0, .loc 200002 0 0]]), (200000, .var (Qe 0)), (200001, .var (Qd n1)), (200002, .var (Qi e9))] (.clo (.func 170) [] [.loc 3 0 0, .loc 2 0 0]), .v .no [] (.agg [.clo (.func 170) [] [.loc 50003 0 0, .loc 58 0 0], .i .i64 (-1)]), .n 1, .v .no [] (.agg [.clo (.func 134) [] [.loc 7 0 0], .i .i64 11]), .o (.any (.own 62 10) (some (.var [.clo (.func 119) [] [.loc 7 0 0], .i .i64 1, .clo (.func 120) [] [.loc 2 0 0, .loc 3 0 0, .loc 9 0 0], .i .i64 5, .clo (.func 122) [] [.loc 8 0 0, .loc 7 0 0], .i .i64 2, .clo (.func 170) [] [.loc 50000 0 0, .loc 45 0 0], .i .i64 (-1), .clo (.func 126) [] [.loc 2 0 0, .loc 3 0 0], .i .i64 2, .clo (.func 127) [] [.loc 7 0 0, .loc 8 0 0], .i .i64 1, .clo (.func 170) [] [.loc 50001 0 0, .loc 52 0 0], .i .i64 (-1), .clo (.func 170) [] [.loc 50002 0 0, .loc 55 0 0], .i .i64 (-1), .clo (.func 170) [] [.loc 50003 0 0, .loc 58 0 0], .i .i64 (-1), .clo (.func 134) [] [.loc 7 0 0], .i .i64 11]))), .cm (.fn) [(200000, 62), (200001, 7), (200002, 2), (200003, 3), (200004, 9), (200005, 8), (200006, 50000), (200007, 45), (200008, 10), (200009, 50001), (200010, 52), (200011, 50002), (200012, 55), (200013, 50003), (200014, 58)] [(62, 200000), (7, 200001), (2, 200002), (3, 200003), (9, 200004), (8, 200005), (50000, 200006), (45, 200007), (10, 200008), (50001, 200009), (52, 200010), (50002, 200011), (55, 200012), (50003, 200013), (58, 200014)] [] [.d] [(200000, .var [.clo (.func 119) [] [.loc 200001 0 0], .i .i64 1, .clo (.func 120) [] [.loc 200002 0 0, .loc 200003 0 0, .loc 200004 0 0], .i .i64 5, .clo (.func 122) [] [.loc 200005 0 0, .loc 200001 0 0], .i .i64 2, .clo (.func 170) [] [.loc 200006 0 0, .loc 200007 0 0], .i .i64 (-1), .clo (.func 126) [] [.loc 200002 0 0, .loc 200003 0 0], .i .i64 2, .clo (.func 127) [] [.loc 200001 0 0, .loc 200005 0 0], .i .i64 1, .clo (.func 170) [] [.loc 200009 0 0, .loc 200010 0 0], .i .i64 (-1), .clo (.func 170) [] [.loc 200011 0 0, .loc 200012 0 0], .i .i64 (-1), .clo (.func 170) [] [.loc 200013 0 0, .loc 200014 0 0], .i .i64 (-1), .clo (.func 134) [] [.loc 200001 0 0], .i .i64 11]), (200001, .var (Qi e9)), (200002, .var (Qd n1)), (200003, .var (Qe k2)), (200004, .var [.clo (.func 118) [] [.loc 200001 0 0]]), (200005, .var (Qe (e10.Vars.length : Int))), (200006, .var [.clo (.func 124) [] [.loc 200002 0 0, .loc 200001 0 0]]), (200007, .var [.loc 200008 0 0]), (200008, .var (Qe x15.2)), (200009, .var [.clo (.func 129) [] [.loc 200002 0 0, .loc 200001 0 0, .loc 200005 0 0]]), (200010, .var [.loc 200008 0 0]), (200011, .var [.clo (.func 131) [] [.loc 200002 0 0, .loc 200001 0 0, .loc 200005 0 0]]), (200012, .var [.loc 200008 0 0]), (200013, .var [.clo (.func 132) [] [.loc 200002 0 0, .loc 200001 0 0]]), (200014, .var [.loc 200008 0 0])] (.i .i64 x15.1), .n 10] rfl ⟨⟨⟨⟨⟨⟨⟨⟨⟨⟨⟨⟨⟨⟨⟨⟨⟨⟨⟨tt_, rfl⟩, rfl⟩, rfl⟩, rfl⟩, rfl⟩, rfl⟩, (QpA _ _ _ hx11)⟩, rfl⟩, rfl⟩, rfl⟩, (Qny _ _ _ _ hx12)⟩, rfl⟩, (Qnz _ _ _ _ hx13)⟩, rfl⟩, (QnA _ _ _ hx14)⟩, rfl⟩, rfl⟩, (fun σ h1 h2 hf => Stp.buildAny rfl rfl (bleN hC.n rfl) (Qo.es rfl) Qkv rfl (by decide) (by decide) (Qer h1 rfl) rfl rfl (hf rfl))⟩, (QnH _ _ _ _ _ _ _ _ _ _ _ _ _ _ _ hx15)⟩ ?_
   rcases bifE h with ⟨hc16, h⟩ | ⟨hc16, h⟩
   ·refine Qa hC [.br true, .n 8, .keep [4] []] rfl ⟨tt_, hc16⟩ ?_
    cases h
    exact AK.done (ex_ [_] (an_ (an_ rfl tt_) (gives tt_)))
   ·refine Qa hC [.br false, .n 9, .keep [4] []] rfl ⟨tt_, hc16⟩ ?_
    cases h
    exact AK.done (ex_ [_] (an_ (an_ rfl tt_) (gives tt_)))
def Qff (k1 : Int) (p2 : Qr) (v3 : TNet) : Option Int :=
 (QbD v3 k1).bind fun x5 =>
 some x5
theorem QpC (k1 : Int) (p2 : Qr) (v3 : TNet) {r : Int} (h : Qff k1 p2 v3 = some r) : Qc Tryz.prog 67 [.i .i64 k1, .agg (Qi p2), .loc 200000 0 0] [(200000, .var (Qd v3))] (Gives (.i .i64 r) [(200000, .var (Qd v3))]) := by
 refine Qc.walk 9 Tryz.func67 rfl Tryz.ntmps67 rfl fun C hC => ?_
 unfold Qff at h
 obtain ⟨x5, hx5, h⟩ := Qb h
 refine Qa hC [.n 8, .v .no [] (.agg (Qd v3)), .n 1, .o (.c false [.d, .d] (.i .i64 x5)), .n 4, .keep [5] [200000]] rfl ⟨⟨tt_, rfl⟩, (Qqf _ _ hx5)⟩ ?_
 cases h
 exact AK.done (ex_ [_] (an_ (an_ rfl tt_) (gives ⟨rfl, tt_⟩)))
def Qao (l1 : (List Qr)) (v2 : TNet) (x7 : Int) : Option (Int ⊕ ((Int × Int) ⊕ Unit)) :=
 bif (decide (x7 < (l1.length : Int))) then
 (idx l1 x7).bind fun e12 =>
 (Qff x7 e12 v2).bind fun x13 =>
 bif (x13 != 0) then
 some (.inr (.inl (x7, x13)))
 else
 some (.inl (w64 (x7 + 1)))
 else
 some (.inr (.inr ()))
def QbE (x9 : Int) (x10 : Int) : Option (Int × Int) :=
 some (x9, x10)
def QbF : Option (Int × Int) :=
 some (0, 0)
def Qa7 (l1 : (List Qr)) (v2 : TNet) : Option (Int × Int) :=
 (QE (fun st => Qao l1 v2 st) 0).bind (Sum.elim (fun q => QbE q.1 q.2) (fun q => QbF))
theorem QlF (l1 : (List Qr)) (v2 : TNet) {r : (Int × Int)} (h : Qa7 l1 v2 = some r) : Qc Tryz.prog 66 [.sl 14 (l1.map Qi), .clo (.func 67) [] [.loc 200000 0 0]] [(200000, .var (Qd v2))] (Gives (.tup [.i .i64 r.1, .i .i64 r.2]) [(200000, .var (Qd v2))]) := by
 refine Qc.walk 25 Tryz.func66 rfl Tryz.ntmps66 rfl fun C hC => ?_
 unfold Qa7 at h
 refine Qa hC [.n 10, .o (.ln l1.length), .n 4, .keep [1, 9, 10, 11] [200000]] rfl ⟨tt_, Qg⟩ ?_
 obtain ⟨o15, hl15, h⟩ := Qb h
 refine AK.loop (body := (fun st => Qao l1 v2 st)) (fun st σ => σ = ⟨[(1, .clo (.func 67) [] [.loc 200000 0 0]), (9, .sl 14 (l1.map Qi)), (10, .i .i64 (l1.length : Int)), (11, .i .i64 st)], [(200000, .var (Qd v2))]⟩) (Sum.elim (fun q e σ => e = .ret ∧ σ = ⟨[(4, .i .i64 q.1), (5, .i .i64 q.2)], [(200000, .var (Qd v2))]⟩) (fun q e σ => e = .exit 0 ∧ σ = ⟨[], [(200000, .var (Qd v2))]⟩)) hl15 rfl ?_ ?_
 ·rintro x7 o σ rfl h
  replace h : Qao l1 v2 x7 = some o := h
  unfold Qao at h
  refine Qa hC [.n 6] rfl tt_ ?_
  rcases bifE h with ⟨hc11, h⟩ | ⟨hc11, h⟩
  ·obtain ⟨e12, he12, h⟩ := Qb h
   obtain ⟨x13, hx13, h⟩ := Qb h
   refine Qa hC [.br true, .n 7, .o (.row (Qi e12)), .v .no [] (.agg (Qi e12)), .n 3, .sayO 7 (.var (Qi e12)), .n 6, .v .no [] (.agg (Qi e12)), .cm (.clo) [(200000, 200000)] [(200000, 200000)] [] [.d, .d, .d] [(200000, .var (Qd v2))] (.i .i64 x13), .n 9] rfl ⟨⟨⟨⟨⟨⟨tt_, hc11⟩, (idxM he12)⟩, rfl⟩, rfl⟩, rfl⟩, (QpC _ _ _ hx13)⟩ ?_
   rcases bifE h with ⟨hc14, h⟩ | ⟨hc14, h⟩
   ·refine Qa hC [.br true, .n 11, .keep [4, 5] [200000]] rfl ⟨tt_, hc14⟩ ?_
    cases h
    exact rndR rfl (an_ rfl rfl)
   ·refine Qa hC [.br false, .n 7, .keep [1, 9, 10, 11] [200000]] rfl ⟨tt_, hc14⟩ ?_
    cases h
    exact rndN rfl rfl
  ·refine Qa hC [.br false, .n 2, .keep [] [200000]] rfl ⟨tt_, hc11⟩ ?_
   cases h
   exact rndX rfl (an_ rfl rfl)
 ·rcases o15 with (⟨x9, x10⟩ | _)
  ·replace h : QbE x9 x10 = some r := h
   unfold QbE at h
   rintro e σ ⟨rfl, rfl⟩
   refine Qa hC [.n 2, .keep [4, 5] [200000]] rfl tt_ ?_
   cases h
   exact AK.done (ex_ [_, _] (an_ (an_ rfl (an_ rfl tt_)) (gives ⟨rfl, tt_⟩)))
  ·replace h : QbF = some r := h
   unfold QbF at h
   rintro e σ ⟨rfl, rfl⟩
   refine Qa hC [.n 9, .keep [4, 5] [200000]] rfl tt_ ?_
   cases h
   exact AK.done (ex_ [_, _] (an_ (an_ rfl (an_ rfl tt_)) (gives ⟨rfl, tt_⟩)))
def QfT (n1 : TNet) : Option (Int × Qdv) :=
 (Qg2 n1 2 3 1).bind fun x6 =>
 bif (x6 != 0) then
 some (x6, (Qdv.mk 1 0))
 else
 (QdF n1).bind fun x8 =>
 bif (x8.2 != 0) then
 some (x8.2, (Qdv.mk 2 x8.1))
 else
 (Qb7 n1.Places n1).bind fun x10 =>
 bif (x10.2 != 0) then
 some (x10.2, (Qdv.mk 3 x10.1))
 else
 (Qa7 n1.Tasks n1).bind fun x12 =>
 bif (x12.2 != 0) then
 some (x12.2, (Qdv.mk 4 x12.1))
 else
 some (0, (Qdv.mk 0 0))
theorem QqR (n1 : TNet) {r : (Int × Qdv)} (h : QfT n1 = some r) : Qc Tryz.prog 32 [.agg (Qd n1)] [] (Gives (.tup [.agg (Qci r.2), .i .i64 r.1]) []) := by
 refine Qc.walk 58 Tryz.func32 rfl Tryz.ntmps32 rfl fun C hC => ?_
 unfold QfT at h
 obtain ⟨x6, hx6, h⟩ := Qb h
 refine Qa hC [.n 10, .v .no [] (.agg [.clo (.func 58) [] [.loc 1 0 0], .i .i64 2]), .n 1, .v .no [] (.agg [.clo (.func 59) [] [.loc 1 0 0], .i .i64 3]), .n 1, .v .no [] (.agg [.clo (.func 61) [] [.loc 1 0 0], .i .i64 1]), .o (.any (.own 17 3) (some (.var [.clo (.func 58) [] [.loc 1 0 0], .i .i64 2, .clo (.func 59) [] [.loc 1 0 0], .i .i64 3, .clo (.func 61) [] [.loc 1 0 0], .i .i64 1]))), .cm (.fn) [(200000, 17), (200001, 1)] [(17, 200000), (1, 200001)] [] [.d] [(200000, .var [.clo (.func 58) [] [.loc 200001 0 0], .i .i64 2, .clo (.func 59) [] [.loc 200001 0 0], .i .i64 3, .clo (.func 61) [] [.loc 200001 0 0], .i .i64 1]), (200001, .var (Qd n1))] (.i .i64 x6), .n 10] rfl ⟨⟨⟨⟨⟨tt_, rfl⟩, rfl⟩, rfl⟩, (fun σ h1 h2 hf => Stp.buildAny rfl rfl (bleN hC.n rfl) (Qo.es rfl) Qkv rfl (by decide) (by decide) (Qer h1 rfl) rfl rfl (hf rfl))⟩, (Qpw _ _ _ _ hx6)⟩ ?_
 rcases bifE h with ⟨hc7, h⟩ | ⟨hc7, h⟩
 ·refine Qa hC [.br true, .n 2, .v .no [] (.agg (Qci (Qdv.mk 1 0))), .n 2, .sayO 2 (.var (Qci (Qdv.mk 1 0))), .n 5, .keep [2, 3] [2]] rfl ⟨⟨⟨tt_, hc7⟩, rfl⟩, rfl⟩ ?_
  cases h
  exact AK.done (ex_ [_, _] (an_ (an_ (ex_ _ (ex_ _ (an_ rfl (an_ rfl (Or.inl (an_ (Qo.ag rfl) (an_ (Qo.sz rfl) rfl))))))) (an_ rfl tt_)) (gives tt_)))
 ·obtain ⟨x8, hx8, h⟩ := Qb h
  refine Qa hC [.br false, .n 5, .v .no [] (.agg (Qd n1)), .o (.c false [.d] (.tup [.i .i64 x8.1, .i .i64 x8.2])), .n 13] rfl ⟨⟨⟨tt_, hc7⟩, rfl⟩, (Qky _ hx8)⟩ ?_
  rcases bifE h with ⟨hc9, h⟩ | ⟨hc9, h⟩
  ·refine Qa hC [.br true, .n 3, .v .no [] (.agg (Qci (Qdv.mk 2 x8.1))), .n 2, .sayO 2 (.var (Qci (Qdv.mk 2 x8.1))), .n 5, .keep [2, 3] [2]] rfl ⟨⟨⟨tt_, hc9⟩, rfl⟩, rfl⟩ ?_
   cases h
   exact AK.done (ex_ [_, _] (an_ (an_ (ex_ _ (ex_ _ (an_ rfl (an_ rfl (Or.inl (an_ (Qo.ag rfl) (an_ (Qo.sz rfl) rfl))))))) (an_ rfl tt_)) (gives tt_)))
  ·obtain ⟨x10, hx10, h⟩ := Qb h
   refine Qa hC [.br false, .n 8, .cm (.fn) [(200000, 1)] [(1, 200000)] [] [.d, .d] [(200000, .var (Qd n1))] (.tup [.i .i64 x10.1, .i .i64 x10.2]), .n 13] rfl ⟨⟨tt_, hc9⟩, (Qk6 _ _ hx10)⟩ ?_
   rcases bifE h with ⟨hc11, h⟩ | ⟨hc11, h⟩
   ·refine Qa hC [.br true, .n 3, .v .no [] (.agg (Qci (Qdv.mk 3 x10.1))), .n 2, .sayO 2 (.var (Qci (Qdv.mk 3 x10.1))), .n 5, .keep [2, 3] [2]] rfl ⟨⟨⟨tt_, hc11⟩, rfl⟩, rfl⟩ ?_
    cases h
    exact AK.done (ex_ [_, _] (an_ (an_ (ex_ _ (ex_ _ (an_ rfl (an_ rfl (Or.inl (an_ (Qo.ag rfl) (an_ (Qo.sz rfl) rfl))))))) (an_ rfl tt_)) (gives tt_)))
   ·obtain ⟨x12, hx12, h⟩ := Qb h
    refine Qa hC [.br false, .n 8, .cm (.fn) [(200000, 1)] [(1, 200000)] [] [.d, .d] [(200000, .var (Qd n1))] (.tup [.i .i64 x12.1, .i .i64 x12.2]), .n 13] rfl ⟨⟨tt_, hc11⟩, (QlF _ _ hx12)⟩ ?_
    rcases bifE h with ⟨hc13, h⟩ | ⟨hc13, h⟩
    ·refine Qa hC [.br true, .n 3, .v .no [] (.agg (Qci (Qdv.mk 4 x12.1))), .n 2, .sayO 2 (.var (Qci (Qdv.mk 4 x12.1))), .n 5, .keep [2, 3] [2]] rfl ⟨⟨⟨tt_, hc13⟩, rfl⟩, rfl⟩ ?_
     cases h
     exact AK.done (ex_ [_, _] (an_ (an_ (ex_ _ (ex_ _ (an_ rfl (an_ rfl (Or.inl (an_ (Qo.ag rfl) (an_ (Qo.sz rfl) rfl))))))) (an_ rfl tt_)) (gives tt_)))
    ·refine Qa hC [.br false, .n 4, .v .no [] (.agg (Qci (Qdv.mk 0 0))), .n 1, .sayO 2 (.var (Qci (Qdv.mk 0 0))), .n 4, .keep [2, 3] [2]] rfl ⟨⟨⟨tt_, hc13⟩, rfl⟩, rfl⟩ ?_
     cases h
     exact AK.done (ex_ [_, _] (an_ (an_ (ex_ _ (ex_ _ (an_ rfl (an_ rfl (Or.inl (an_ (Qo.ag rfl) (an_ (Qo.sz rfl) rfl))))))) (an_ rfl tt_)) (gives tt_)))
def QjV (e9 : (List (Int × Int))) (x11 : Int) : Option Bool :=
 (Qb2 e9).bind fun x14 =>
 bif (!x14) then
 some true
 else
 bif (decide (0 < (e9.length : Int))) then
 (idx e9 (w64 ((e9.length : Int) - 1))).bind fun e17 =>
 some (decide (x11 ≤ e17.1))
 else
 some false
def QfE (x6 : Int) (x12 : Bool) : Option (Int ⊕ (Unit ⊕ Unit)) :=
 bif x12 then
 some (.inr (.inl ()))
 else
 some (.inl (w64 (x6 + 1)))
def QdH (m2 : (List (List (Int × Int)))) (n1 : TNet) (x6 : Int) : Option (Int ⊕ (Unit ⊕ Unit)) :=
 bif (decide (x6 < (m2.length : Int))) then
 (idx m2 x6).bind fun e9 =>
 (idx n1.Places x6).bind fun e10 =>
 (QcO n1.Colours e10.Colour).bind fun x11 =>
 (QjV e9 x11).bind (fun x12 => QfE x6 x12)
 else
 some (.inr (.inr ()))
def QjW : Option Bool :=
 some false
def QjX : Option Bool :=
 some true
def Qh1 (n1 : TNet) (m2 : (List (List (Int × Int)))) : Option Bool :=
 bif ((m2.length : Int) != (n1.Places.length : Int)) then
 some false
 else
 (QE (fun st => QdH m2 n1 st) 0).bind (Sum.elim (fun q => QjW) (fun q => QjX))
theorem Qqg (n1 : TNet) (m2 : (List (List (Int × Int)))) {r : Bool} (h : Qh1 n1 m2 = some r) : Qc Tryz.prog 27 [.agg (Qd n1), .sl 1 (m2.map Qh)] [] (Gives (.b r) []) := by
 refine Qc.walk 50 Tryz.func27 rfl Tryz.ntmps27 rfl fun C hC => ?_
 unfold Qh1 at h
 refine Qa hC [.n 10, .o (.ln m2.length), .n 2, .o (.ln n1.Places.length), .n 3] rfl ⟨⟨tt_, Qg⟩, Qg⟩ ?_
 rcases bifE h with ⟨hc5, h⟩ | ⟨hc5, h⟩
 ·refine Qa hC [.br true, .n 7, .keep [4] []] rfl ⟨tt_, hc5⟩ ?_
  cases h
  exact AK.done (ex_ [_] (an_ (an_ rfl tt_) (gives tt_)))
 ·refine Qa hC [.br false, .n 6, .o (.ln m2.length), .n 4, .keep [2, 14, 15, 16] [2]] rfl ⟨⟨tt_, hc5⟩, Qg⟩ ?_
  obtain ⟨o19, hl19, h⟩ := Qb h
  refine AK.loop (body := (fun st => QdH m2 n1 st)) (fun st σ => σ = ⟨[(2, .loc 2 0 0), (14, .sl 1 (m2.map Qh)), (15, .i .i64 (m2.length : Int)), (16, .i .i64 st)], [(2, .var (Qd n1))]⟩) (Sum.elim (fun q e σ => e = .ret ∧ σ = ⟨[(4, .b false)], []⟩) (fun q e σ => e = .exit 0 ∧ σ = ⟨[], []⟩)) hl19 rfl ?_ ?_
  ·rintro x6 o σ rfl h
   replace h : QdH m2 n1 x6 = some o := h
   unfold QdH at h
   refine Qa hC [.n 6] rfl tt_ ?_
   rcases bifE h with ⟨hc8, h⟩ | ⟨hc8, h⟩
   ·obtain ⟨e9, he9, h⟩ := Qb h
    obtain ⟨e10, he10, h⟩ := Qb h
    obtain ⟨x11, hx11, h⟩ := Qb h
    refine Qa hC [.br true, .n 7, .o (.row (Qh e9)), .n 6, .keep [2, 5, 6, 14, 15, 16] [2]] rfl ⟨⟨tt_, hc8⟩, (idxM he9)⟩ ?_
    refine AK.draw2 Qo hC mixed [.a .no none false, .a .no none false, .a .no none false, .a .no none false, .a .no none false, .a (.row (Qs e10)) none false, .a .no none false, .a .no none false, .a (.c false [.d, .d] (.i .i64 x11)) none false, .a .no none false] [] [] [2, 6, 7, 14, 15, 16] [2] rfl rfl rfl ⟨⟨tt_, (idxM he10)⟩, (QgK _ _ hx11)⟩ rfl (by kernel_rfl) rfl rfl rfl ?_
    refine Qa hC [.n 2] rfl tt_ ?_
    obtain ⟨x12, hv13, h⟩ := Qb h
    replace h : QfE x6 x12 = some o := h
    refine AK.meetX (fun σ => σ = ⟨[(2, .loc 2 0 0), (14, .sl 1 (m2.map Qh)), (15, .i .i64 (m2.length : Int)), (16, .i .i64 x6), (48, .b x12)], [(2, .var (Qd n1))]⟩) ?_ ?_
    ·replace h := hv13
     unfold QjV at h
     obtain ⟨x14, hx14, h⟩ := Qb h
     refine Qa hC [.n 2, .o (.c false [.d] (.b x14)), .n 2] rfl ⟨tt_, (Qgd _ hx14)⟩ ?_
     rcases bifE h with ⟨hc15, h⟩ | ⟨hc15, h⟩
     ·refine Qa hC [.say 33 (.b true), .n 16, .keep [2, 14, 15, 16, 48] [2]] rfl ⟨tt_, (congrArg V.b hc15)⟩ ?_
      cases h
      exact AK.met rfl
     ·refine Qa hC [.say 33 (.b false), .n 1, .o (.ln e9.length), .n 2] rfl ⟨⟨tt_, (congrArg V.b hc15)⟩, Qg⟩ ?_
      rcases bifE h with ⟨hc16, h⟩ | ⟨hc16, h⟩
      ·obtain ⟨e17, he17, h⟩ := Qb h
       refine Qa hC [.say 37 (.b true), .n 2, .o (.ln e9.length), .n 1, .o (.row (Qt e17)), .n 7, .keep [2, 14, 15, 16, 48] [2]] rfl ⟨⟨⟨tt_, (congrArg V.b hc16)⟩, Qg⟩, (idxM he17)⟩ ?_
       cases h
       exact AK.met rfl
      ·refine Qa hC [.say 37 (.b false), .n 12, .keep [2, 14, 15, 16, 48] [2]] rfl ⟨tt_, (congrArg V.b hc16)⟩ ?_
       cases h
       exact AK.met rfl
    ·rintro σ rfl
     replace h : QfE x6 x12 = some o := h
     unfold QfE at h
     refine Qa hC [.n 1] rfl tt_ ?_
     rcases bifE h with ⟨hc18, h⟩ | ⟨hc18, h⟩
     ·refine Qa hC [.br true, .n 8, .keep [4] []] rfl ⟨tt_, hc18⟩ ?_
      cases h
      exact rndR rfl (an_ rfl rfl)
     ·refine Qa hC [.br false, .n 7, .keep [2, 14, 15, 16] [2]] rfl ⟨tt_, hc18⟩ ?_
      cases h
      exact rndN rfl rfl
   ·refine Qa hC [.br false, .n 2, .keep [] []] rfl ⟨tt_, hc8⟩ ?_
    cases h
    exact rndX rfl (an_ rfl rfl)
  ·rcases o19 with (_ | _)
   ·replace h : QjW = some r := h
    unfold QjW at h
    rintro e σ ⟨rfl, rfl⟩
    refine Qa hC [.n 2, .keep [4] []] rfl tt_ ?_
    cases h
    exact AK.done (ex_ [_] (an_ (an_ rfl tt_) (gives tt_)))
   ·replace h : QjX = some r := h
    unfold QjX at h
    rintro e σ ⟨rfl, rfl⟩
    refine Qa hC [.n 8, .keep [4] []] rfl tt_ ?_
    cases h
    exact AK.done (ex_ [_] (an_ (an_ rfl tt_) (gives tt_)))
def QjY (x11 : (Int × Qdv)) (n1 : TNet) (m2 : (List (List (Int × Int)))) : Option Bool :=
 bif (x11.1 != 0) then
 some true
 else
 (Qh1 n1 m2).bind fun x15 =>
 some (!x15)
def QdI (n1 : TNet) (work17 : Int) (k18 : Int) : Option ((Int × Int) ⊕ Int) :=
 bif (decide (k18 < (n1.Tasks.length : Int))) then
 (idx n1.Tasks k18).bind fun e23 =>
 (Qfe n1 k18).bind fun x24 =>
 some (.inl ((w64 (work17 + (w64 (x24 * (w64 (1 + (w64 ((e23.Ins.length : Int) * (e23.Outs.length : Int))))))))), (w64 (k18 + 1))))
 else
 some (.inr work17)
def QjZ (work21 : Int) : Option Bool :=
 some (decide (work21 ≤ 600))
def QfF (n1 : TNet) (x12 : Bool) : Option Bool :=
 bif x12 then
 some false
 else
 (QE (fun st => QdI n1 st.1 st.2) (0, 0)).bind (fun q => QjZ q)
def Qh2 (n1 : TNet) (m2 : (List (List (Int × Int)))) : Option Bool :=
 (QiI n1).bind fun x5 =>
 (QiJ m2).bind fun x6 =>
 bif ((!x5) || ((!x6) || (decide (12 < (n1.Tasks.length : Int))))) then
 some false
 else
 (QfT n1).bind fun x11 =>
 (QjY x11 n1 m2).bind (fun x12 => QfF n1 x12)
theorem Qqh (n1 : TNet) (m2 : (List (List (Int × Int)))) {r : Bool} (h : Qh2 n1 m2 = some r) : Qc Tryz.prog 9 [.agg (Qd n1), .sl 1 (m2.map Qh)] [] (Gives (.b r) []) := by
 refine Qc.walk 69 Tryz.func9 rfl Tryz.ntmps9 rfl fun C hC => ?_
 unfold Qh2 at h
 obtain ⟨x5, hx5, h⟩ := Qb h
 obtain ⟨x6, hx6, h⟩ := Qb h
 refine Qa hC [.n 8, .v .no [] (.agg (Qd n1)), .o (.c false [.d] (.b x5)), .n 6, .o (.c false [.d] (.b x6)), .n 5] rfl ⟨⟨⟨tt_, rfl⟩, (QqP _ hx5)⟩, (QqQ _ hx6)⟩ ?_
 refine AK.meetX (fun σ => σ = ⟨[(1, .sl 1 (m2.map Qh)), (2, .loc 2 0 0), (27, .b ((!x5) || ((!x6) || (decide (12 < (n1.Tasks.length : Int))))))], [(2, .var (Qd n1))]⟩) ?_ ?_
 ·refine Qa hC [.n 4] rfl tt_ ?_
  rcases QJ (!x5) with hc8 | hc8
  ·refine Qa hC [.say 18 (.b true), .n 10, .say 27 (.b ((!x5) || ((!x6) || (decide (12 < (n1.Tasks.length : Int)))))), .keep [1, 2, 27] [2]] rfl ⟨⟨tt_, (congrArg V.b hc8)⟩, (congrArg V.b (orT hc8 rfl))⟩ ?_
   exact AK.met rfl
  ·refine Qa hC [.say 18 (.b false), .n 4] rfl ⟨tt_, (congrArg V.b hc8)⟩ ?_
   rcases QJ (!x6) with hc9 | hc9
   ·refine Qa hC [.say 22 (.b true), .n 6, .say 27 (.b ((!x5) || ((!x6) || (decide (12 < (n1.Tasks.length : Int)))))), .keep [1, 2, 27] [2]] rfl ⟨⟨tt_, (congrArg V.b hc9)⟩, (congrArg V.b (orF hc8 (orT hc9 rfl)))⟩ ?_
    exact AK.met rfl
   ·refine Qa hC [.say 22 (.b false), .n 2, .o (.ln n1.Tasks.length), .n 3, .say 27 (.b ((!x5) || ((!x6) || (decide (12 < (n1.Tasks.length : Int)))))), .keep [1, 2, 27] [2]] rfl ⟨⟨⟨tt_, (congrArg V.b hc9)⟩, Qg⟩, (congrArg V.b (orF hc8 (orF hc9 rfl)))⟩ ?_
    exact AK.met rfl
 ·rintro σ rfl
  refine Qa hC [.n 1] rfl tt_ ?_
  rcases bifE h with ⟨hc10, h⟩ | ⟨hc10, h⟩
  ·refine Qa hC [.br true, .n 7, .keep [4] []] rfl ⟨tt_, hc10⟩ ?_
   cases h
   exact AK.done (ex_ [_] (an_ (an_ rfl tt_) (gives tt_)))
  ·obtain ⟨x11, hx11, h⟩ := Qb h
   refine Qa hC [.br false, .n 4, .v .no [] (.agg (Qd n1)), .o (.c false [.d] (.tup [.agg (Qci x11.2), .i .i64 x11.1])), .n 5, .sayO 7 (.var (Qci x11.2)), .n 5] rfl ⟨⟨⟨⟨tt_, hc10⟩, rfl⟩, (QqR _ hx11)⟩, rfl⟩ ?_
   obtain ⟨x12, hv13, h⟩ := Qb h
   replace h : QfF n1 x12 = some r := h
   refine AK.meetX (fun σ => σ = ⟨[(2, .loc 2 0 0), (40, .b x12)], [(2, .var (Qd n1))]⟩) ?_ ?_
   ·replace h := hv13
    unfold QjY at h
    refine Qa hC [.n 4] rfl tt_ ?_
    rcases bifE h with ⟨hc14, h⟩ | ⟨hc14, h⟩
    ·refine Qa hC [.say 35 (.b true), .n 6, .keep [2, 40] [2]] rfl ⟨tt_, (congrArg V.b hc14)⟩ ?_
     cases h
     exact AK.met rfl
    ·obtain ⟨x15, hx15, h⟩ := Qb h
     refine Qa hC [.say 35 (.b false), .v .no [] (.agg (Qd n1)), .n 1, .o (.c false [.d, .d] (.b x15)), .n 3, .keep [2, 40] [2]] rfl ⟨⟨⟨tt_, (congrArg V.b hc14)⟩, rfl⟩, (Qqg _ _ hx15)⟩ ?_
     cases h
     exact AK.met rfl
   ·rintro σ rfl
    replace h : QfF n1 x12 = some r := h
    unfold QfF at h
    refine Qa hC [.n 1] rfl tt_ ?_
    rcases bifE h with ⟨hc16, h⟩ | ⟨hc16, h⟩
    ·refine Qa hC [.br true, .n 7, .keep [4] []] rfl ⟨tt_, hc16⟩ ?_
     cases h
     exact AK.done (ex_ [_] (an_ (an_ rfl tt_) (gives tt_)))
    ·refine Qa hC [.br false, .n 14, .keep [2, 9, 10] [2]] rfl ⟨tt_, hc16⟩ ?_
     obtain ⟨work21, hl25, h⟩ := Qb h
     refine AK.loop (body := (fun st => QdI n1 st.1 st.2)) (fun st σ => σ = ⟨[(2, .loc 2 0 0), (9, .i .i64 st.1), (10, .i .i64 st.2)], [(2, .var (Qd n1))]⟩) (fun q e σ => e = .exit 0 ∧ σ = ⟨[(9, .i .i64 q)], []⟩) hl25 rfl ?_ ?_
     ·rintro ⟨work17, k18⟩ o σ rfl h
      replace h : QdI n1 work17 k18 = some o := h
      unfold QdI at h
      refine Qa hC [.n 6, .o (.ln n1.Tasks.length), .n 3] rfl ⟨tt_, Qg⟩ ?_
      rcases bifE h with ⟨hc22, h⟩ | ⟨hc22, h⟩
      ·obtain ⟨e23, he23, h⟩ := Qb h
       obtain ⟨x24, hx24, h⟩ := Qb h
       refine Qa hC [.br true, .n 9, .o (.row (Qi e23)), .v .no [] (.agg (Qi e23)), .n 2, .sayO 11 (.var (Qi e23)), .n 2, .keep [2, 9, 10, 11] [2, 11]] rfl ⟨⟨⟨⟨tt_, hc22⟩, (idxM he23)⟩, rfl⟩, rfl⟩ ?_
       refine AK.draw2 Qo hC mixed [.a .no none false, .a .no (some ([], .agg (Qd n1))) false, .a .no none false, .a (.c false [.d, .d] (.i .i64 x24)) none false, .a .no none false, .a .no none false, .a (.ln e23.Ins.length) none false, .a .no none false, .a .no none false, .a (.ln e23.Outs.length) none false, .a .no none false, .a .no none false, .a .no none false, .a .no none false, .m .s] [] [] [2, 9, 10] [2] rfl rfl rfl ⟨⟨⟨⟨tt_, rfl⟩, (QlE _ _ hx24)⟩, Qg⟩, Qg⟩ rfl (by kernel_rfl) rfl rfl rfl ?_
       refine Qa hC [.n 7, .keep [2, 9, 10] [2]] rfl tt_ ?_
       cases h
       exact rndN rfl rfl
      ·refine Qa hC [.br false, .n 2, .keep [9] []] rfl ⟨tt_, hc22⟩ ?_
       cases h
       exact rndX rfl (an_ rfl rfl)
     ·replace h : QjZ work21 = some r := h
      unfold QjZ at h
      rintro e σ ⟨rfl, rfl⟩
      refine Qa hC [.n 10, .keep [4] []] rfl tt_ ?_
      cases h
      exact AK.done (ex_ [_] (an_ (an_ rfl tt_) (gives tt_)))
def Qd7 (x17 : ((List (List (Int × Int))) × Int)) (k4 : Int) (x19 : ((List (List (Int × Int))) × Int)) (x12 : (List Qk)) (x20 : ((List (List (Int × Int))) × Int)) : Option Bool :=
 bif (x17.2 != k4) then
 some true
 else
 bif (x19.2 != (w64 ((x12.length : Int) - k4))) then
 some true
 else
 bif (x20.2 != (x12.length : Int)) then
 some true
 else
 (QfP x19.1 x20.1).bind fun x26 =>
 some (!x26)
def QgR (x7 : Bool) (x33 : ((List (List (Int × Int))) × Int)) (x35 : ((List (List (Int × Int))) × Int)) : Option Bool :=
 bif x7 then
 bif (x33.2 == 0) then
 bif (x35.2 == 0) then
 (QfP x33.1 x35.1).bind fun x41 =>
 some x41
 else
 some false
 else
 some false
 else
 some false
def Qd8 (x36 : Bool) : Option Bool :=
 some x36
def QcH (x12 : (List Qk)) (x7 : Bool) (n1 : TNet) (m2 : (List (List (Int × Int)))) (x21 : Bool) : Option Bool :=
 bif x21 then
 some false
 else
 bif ((x12.length : Int) == 0) then
 some x7
 else
 (idx x12 0).bind fun e29 =>
 (QfO n1 m2 e29).bind fun x30 =>
 bif (x30.2 != 0) then
 some false
 else
 (idx x12 0).bind fun e32 =>
 (Qhf n1 x30.1 e32).bind fun x33 =>
 (idx x12 0).bind fun e34 =>
 (Qcl n1 m2 e34).bind fun x35 =>
 (QgR x7 x33 x35).bind (fun x36 => Qd8 x36)
def QcM (n1 : TNet) (m2 : (List (List (Int × Int)))) (picks3 : (List Int)) (k4 : Int) : Option Bool :=
 (QiU).bind fun x7 =>
 (Qh2 n1 m2).bind fun x8 =>
 bif ((!x8) || (decide (8 < (picks3.length : Int)))) then
 some x7
 else
 (Qgh n1 m2 picks3).bind fun x12 =>
 bif ((decide (k4 < 0)) || (decide ((x12.length : Int) < k4))) then
 some x7
 else
 (chk (decide (0 ≤ k4) && decide (0 ≤ k4.toNat) && decide (k4.toNat ≤ x12.length))).bind fun _ =>
 (Qfm n1 m2 ((x12.drop 0).take (k4.toNat - 0))).bind fun x17 =>
 (chk (decide (0 ≤ k4) && decide (k4.toNat ≤ x12.length) && decide (x12.length ≤ x12.length))).bind fun _ =>
 (Qfm n1 x17.1 ((x12.drop k4.toNat).take (x12.length - k4.toNat))).bind fun x19 =>
 (Qfm n1 m2 x12).bind fun x20 =>
 (Qd7 x17 k4 x19 x12 x20).bind (fun x21 => QcH x12 x7 n1 m2 x21)
theorem Qnh (n1 : TNet) (m2 : (List (List (Int × Int)))) (picks3 : (List Int)) (k4 : Int) {r : Bool} (h : QcM n1 m2 picks3 k4 = some r) : Qc Tryz.prog 6 [.agg (Qd n1), .sl 1 (m2.map Qh), .sl 1 (picks3.map Qe), .i .i64 k4] [] (Gives (.b r) []) := by
 refine Qc.walk 144 Tryz.func6 rfl Tryz.ntmps6 rfl fun C hC => ?_
 unfold QcM at h
 obtain ⟨x7, hx7, h⟩ := Qb h
 obtain ⟨x8, hx8, h⟩ := Qb h
 refine Qa hC [.n 8, .o (.c false [] (.b x7)), .n 5, .v .no [] (.agg (Qd n1)), .n 1, .o (.c false [.d, .d] (.b x8)), .n 5] rfl ⟨⟨⟨tt_, (Qpr  hx7)⟩, rfl⟩, (Qqh _ _ hx8)⟩ ?_
 refine AK.meetX (fun σ => σ = ⟨[(1, .sl 1 (m2.map Qh)), (2, .sl 1 (picks3.map Qe)), (3, .i .i64 k4), (4, .loc 4 0 0), (9, .b x7), (34, .b ((!x8) || (decide (8 < (picks3.length : Int)))))], [(4, .var (Qd n1))]⟩) ?_ ?_
 ·refine Qa hC [.n 4] rfl tt_ ?_
  rcases QJ (!x8) with hc10 | hc10
  ·refine Qa hC [.say 30 (.b true), .n 5, .say 34 (.b ((!x8) || (decide (8 < (picks3.length : Int))))), .keep [1, 2, 3, 4, 9, 34] [4]] rfl ⟨⟨tt_, (congrArg V.b hc10)⟩, (congrArg V.b (orT hc10 rfl))⟩ ?_
   exact AK.met rfl
  ·refine Qa hC [.say 30 (.b false), .n 1, .o (.ln picks3.length), .n 3, .say 34 (.b ((!x8) || (decide (8 < (picks3.length : Int))))), .keep [1, 2, 3, 4, 9, 34] [4]] rfl ⟨⟨⟨tt_, (congrArg V.b hc10)⟩, Qg⟩, (congrArg V.b (orF hc10 rfl))⟩ ?_
   exact AK.met rfl
 ·rintro σ rfl
  refine Qa hC [.n 1] rfl tt_ ?_
  rcases bifE h with ⟨hc11, h⟩ | ⟨hc11, h⟩
  ·refine Qa hC [.br true, .n 8, .keep [8] []] rfl ⟨tt_, hc11⟩ ?_
   cases h
   exact AK.done (ex_ [_] (an_ (an_ rfl tt_) (gives tt_)))
  ·obtain ⟨x12, hx12, h⟩ := Qb h
   refine Qa hC [.br false, .n 4, .v .no [] (.agg (Qd n1)), .n 2, .o (.co false [.d, .d, .d] 4 (x12.map Qj) x12.length), .n 5] rfl ⟨⟨⟨tt_, hc11⟩, rfl⟩, ⟨(Ql6 _ _ _ hx12), Qg, .inl rfl⟩⟩ ?_
   refine AK.meetX (fun σ => σ = ⟨[(1, .sl 1 (m2.map Qh)), (3, .i .i64 k4), (4, .loc 4 0 0), (9, .b x7), (11, .own 39 x12.length), (47, .b ((decide (k4 < 0)) || (decide ((x12.length : Int) < k4))))], [(4, .var (Qd n1)), (39, .arr 4 (x12.map Qj))]⟩) ?_ ?_
   ·refine Qa hC [.n 4] rfl tt_ ?_
    rcases QJ (decide (k4 < 0)) with hc14 | hc14
    ·refine Qa hC [.say 42 (.b true), .n 6, .say 47 (.b ((decide (k4 < 0)) || (decide ((x12.length : Int) < k4)))), .keep [1, 3, 4, 9, 11, 47] [4, 39]] rfl ⟨⟨tt_, (congrArg V.b hc14)⟩, (congrArg V.b (orT hc14 rfl))⟩ ?_
     exact AK.met rfl
    ·refine Qa hC [.say 42 (.b false), .n 6, .say 47 (.b ((decide (k4 < 0)) || (decide ((x12.length : Int) < k4)))), .keep [1, 3, 4, 9, 11, 47] [4, 39]] rfl ⟨⟨tt_, (congrArg V.b hc14)⟩, (congrArg V.b (orF hc14 rfl))⟩ ?_
     exact AK.met rfl
   ·rintro σ rfl
    refine Qa hC [.n 1] rfl tt_ ?_
    rcases bifE h with ⟨hc15, h⟩ | ⟨hc15, h⟩
    ·refine Qa hC [.br true, .n 8, .keep [8] []] rfl ⟨tt_, hc15⟩ ?_
     cases h
     exact AK.done (ex_ [_] (an_ (an_ rfl tt_) (gives tt_)))
    ·obtain ⟨_, hk16, h⟩ := Qb h
     replace hk16 := chkE hk16
     obtain ⟨x17, hx17, h⟩ := Qb h
     refine Qa hC [.br false, .n 3, .frz 39 (x12.map Qj) [11] [], .keep [1, 3, 4, 9, 11] [4]] rfl ⟨⟨tt_, hc15⟩, ⟨tt_, (frzL Qg)⟩⟩ ?_
     refine AK.draw2 Qo hC mixed [.a .no (some ([], .agg (Qd n1))) false, .a .no none false, .a .no none false, .a .no none false, .a (.any (.sl 4 (((x12.drop 0).take (k4.toNat - 0)).map Qj)) none) none false, .a (.c false [.d, .d, .d] (.tup [.sl 1 (x17.1.map Qh), .i .i64 x17.2])) none false, .a .no none false, .a .no none false, .a .no none false, .a .no none false, .a .no none false] [] [] [1, 3, 4, 9, 11, 12, 13] [4] rfl rfl rfl ⟨⟨⟨tt_, rfl⟩, (fun σ h1 h2 _ => Stp.sliceD rfl rfl (bleN hC.n rfl) (h1 _ _ rfl) (Qo.es rfl) Bnd.no (Bnd.val (h1 _ _ rfl) (of_decide_eq_true (Qlh hk16)) rfl) (of_decide_eq_true (Qli hk16)) (Nat.le_trans (of_decide_eq_true (Qmt hk16)) (Nat.le_of_eq Qg.symm)) Qm5)⟩, (QiS _ _ _ hx17)⟩ rfl (by kernel_rfl) rfl rfl rfl ?_
     obtain ⟨_, hk18, h⟩ := Qb h
     replace hk18 := chkE hk18
     obtain ⟨x19, hx19, h⟩ := Qb h
     refine Qa hC [.n 2, .keep [1, 3, 4, 9, 11, 12, 13] [4]] rfl tt_ ?_
     refine AK.draw2 Qo hC mixed [.a .no (some ([], .agg (Qd n1))) false, .a .no none false, .a .no none false, .a .no none false, .a (.any (.sl 4 (((x12.drop k4.toNat).take (x12.length - k4.toNat)).map Qj)) none) none false, .a (.c false [.d, .d, .d] (.tup [.sl 1 (x19.1.map Qh), .i .i64 x19.2])) none false, .a .no none false, .a .no none false, .a .no none false, .a .no none false, .a .no none false] [] [] [1, 3, 4, 9, 11, 13, 14, 15] [4] rfl rfl rfl ⟨⟨⟨tt_, rfl⟩, (fun σ h1 h2 _ => Stp.sliceD rfl rfl (bleN hC.n rfl) (h1 _ _ rfl) (Qo.es rfl) (Bnd.val (h1 _ _ rfl) (of_decide_eq_true (Qlh hk18)) rfl) (Bnd.none_ Qg) (of_decide_eq_true (Qli hk18)) (Nat.le_of_eq Qg.symm) Qm5)⟩, (QiS _ _ _ hx19)⟩ rfl (by kernel_rfl) rfl rfl rfl ?_
     obtain ⟨x20, hx20, h⟩ := Qb h
     refine Qa hC [.n 3, .v .no [] (.agg (Qd n1)), .n 2, .o (.c false [.d, .d, .d] (.tup [.sl 1 (x20.1.map Qh), .i .i64 x20.2])), .n 9] rfl ⟨⟨tt_, rfl⟩, (QiS _ _ _ hx20)⟩ ?_
     obtain ⟨x21, hv22, h⟩ := Qb h
     replace h : QcH x12 x7 n1 m2 x21 = some r := h
     refine AK.meetX (fun σ => σ = ⟨[(1, .sl 1 (m2.map Qh)), (4, .loc 4 0 0), (9, .b x7), (11, .sl 4 (x12.map Qj)), (96, .b x21)], [(4, .var (Qd n1))]⟩) ?_ ?_
     ·replace h := hv22
      unfold Qd7 at h
      refine Qa hC [.n 5] rfl tt_ ?_
      rcases bifE h with ⟨hc23, h⟩ | ⟨hc23, h⟩
      ·refine Qa hC [.say 77 (.b true), .n 20, .keep [1, 4, 9, 11, 96] [4]] rfl ⟨tt_, (congrArg V.b hc23)⟩ ?_
       cases h
       exact AK.met rfl
      ·refine Qa hC [.say 77 (.b false), .n 2, .o (.ln x12.length), .n 5] rfl ⟨⟨tt_, (congrArg V.b hc23)⟩, Qg⟩ ?_
       rcases bifE h with ⟨hc24, h⟩ | ⟨hc24, h⟩
       ·refine Qa hC [.say 85 (.b true), .n 12, .keep [1, 4, 9, 11, 96] [4]] rfl ⟨tt_, (congrArg V.b hc24)⟩ ?_
        cases h
        exact AK.met rfl
       ·refine Qa hC [.say 85 (.b false), .n 2, .o (.ln x12.length), .n 3] rfl ⟨⟨tt_, (congrArg V.b hc24)⟩, Qg⟩ ?_
        rcases bifE h with ⟨hc25, h⟩ | ⟨hc25, h⟩
        ·refine Qa hC [.say 91 (.b true), .n 6, .keep [1, 4, 9, 11, 96] [4]] rfl ⟨tt_, (congrArg V.b hc25)⟩ ?_
         cases h
         exact AK.met rfl
        ·obtain ⟨x26, hx26, h⟩ := Qb h
         refine Qa hC [.say 91 (.b false), .n 2, .o (.c false [.d, .d] (.b x26)), .n 3, .keep [1, 4, 9, 11, 96] [4]] rfl ⟨⟨tt_, (congrArg V.b hc25)⟩, (Qkb _ _ hx26)⟩ ?_
         cases h
         exact AK.met rfl
     ·rintro σ rfl
      replace h : QcH x12 x7 n1 m2 x21 = some r := h
      unfold QcH at h
      refine Qa hC [.n 1] rfl tt_ ?_
      rcases bifE h with ⟨hc27, h⟩ | ⟨hc27, h⟩
      ·refine Qa hC [.br true, .n 7, .keep [8] []] rfl ⟨tt_, hc27⟩ ?_
       cases h
       exact AK.done (ex_ [_] (an_ (an_ rfl tt_) (gives tt_)))
      ·refine Qa hC [.br false, .n 6, .o (.ln x12.length), .n 3] rfl ⟨⟨tt_, hc27⟩, Qg⟩ ?_
       rcases bifE h with ⟨hc28, h⟩ | ⟨hc28, h⟩
       ·refine Qa hC [.br true, .n 8, .keep [8] []] rfl ⟨tt_, hc28⟩ ?_
        cases h
        exact AK.done (ex_ [_] (an_ (an_ rfl tt_) (gives tt_)))
       ·obtain ⟨e29, he29, h⟩ := Qb h
        obtain ⟨x30, hx30, h⟩ := Qb h
        refine Qa hC [.br false, .n 3, .keep [1, 4, 9, 11] [4]] rfl ⟨tt_, hc28⟩ ?_
        refine AK.draw2 Qo hC mixed [.a .no (some ([], .agg (Qd n1))) false, .a .no none false, .a .no none false, .a (.row (Qj e29)) none false, .a .no (some ([], .agg (Qj e29))) false, .a (.c false [.d, .d, .d] (.tup [.sl 1 (x30.1.map Qh), .i .i64 x30.2])) none false, .a .no none false, .a .no none false, .a .no none false, .a .no none false, .a .no none false] [] [] [1, 4, 9, 11, 18, 19] [4] rfl rfl rfl ⟨⟨⟨⟨tt_, rfl⟩, (idxM he29)⟩, rfl⟩, (Qj8 _ _ _ hx30)⟩ rfl (by kernel_rfl) rfl rfl rfl ?_
        refine Qa hC [.n 8] rfl tt_ ?_
        rcases bifE h with ⟨hc31, h⟩ | ⟨hc31, h⟩
        ·refine Qa hC [.br true, .n 7, .keep [8] []] rfl ⟨tt_, hc31⟩ ?_
         cases h
         exact AK.done (ex_ [_] (an_ (an_ rfl tt_) (gives tt_)))
        ·obtain ⟨e32, he32, h⟩ := Qb h
         obtain ⟨x33, hx33, h⟩ := Qb h
         refine Qa hC [.br false, .n 3, .keep [1, 4, 9, 11, 18] [4]] rfl ⟨tt_, hc31⟩ ?_
         refine AK.draw2 Qo hC mixed [.a .no (some ([], .agg (Qd n1))) false, .a .no none false, .a .no none false, .a (.row (Qj e32)) none false, .a .no (some ([], .agg (Qj e32))) false, .a (.c false [.d, .d, .d] (.tup [.sl 1 (x33.1.map Qh), .i .i64 x33.2])) none false, .a .no none false, .a .no none false, .a .no none false, .a .no none false, .a .no none false] [] [] [1, 4, 9, 11, 20, 21] [4] rfl rfl rfl ⟨⟨⟨⟨tt_, rfl⟩, (idxM he32)⟩, rfl⟩, (Qmz _ _ _ hx33)⟩ rfl (by kernel_rfl) rfl rfl rfl ?_
         obtain ⟨e34, he34, h⟩ := Qb h
         obtain ⟨x35, hx35, h⟩ := Qb h
         refine Qa hC [.n 2, .keep [1, 4, 9, 11, 20, 21] [4]] rfl tt_ ?_
         refine AK.draw2 Qo hC mixed [.a .no (some ([], .agg (Qd n1))) false, .a .no none false, .a .no none false, .a (.row (Qj e34)) none false, .a .no (some ([], .agg (Qj e34))) false, .a (.c false [.d, .d, .d] (.tup [.sl 1 (x35.1.map Qh), .i .i64 x35.2])) none false, .a .no none false, .a .no none false, .a .no none false, .a .no none false, .a .no none false] [] [] [9, 20, 21, 22, 23] [] rfl rfl rfl ⟨⟨⟨⟨tt_, rfl⟩, (idxM he34)⟩, rfl⟩, (QhX _ _ _ hx35)⟩ rfl (by kernel_rfl) rfl rfl rfl ?_
         refine Qa hC [.n 2] rfl tt_ ?_
         obtain ⟨x36, hv37, h⟩ := Qb h
         replace h : Qd8 x36 = some r := h
         refine AK.meetX (fun σ => σ = ⟨[(8, .b x36)], []⟩) ?_ ?_
         ·replace h := hv37
          unfold QgR at h
          refine Qa hC [.n 3] rfl tt_ ?_
          rcases bifE h with ⟨hc38, h⟩ | ⟨hc38, h⟩
          ·refine Qa hC [.say 131 (.b true), .n 4] rfl ⟨tt_, (congrArg V.b hc38)⟩ ?_
           rcases bifE h with ⟨hc39, h⟩ | ⟨hc39, h⟩
           ·refine Qa hC [.say 135 (.b true), .n 4] rfl ⟨tt_, (congrArg V.b hc39)⟩ ?_
            rcases bifE h with ⟨hc40, h⟩ | ⟨hc40, h⟩
            ·obtain ⟨x41, hx41, h⟩ := Qb h
             refine Qa hC [.say 139 (.b true), .n 2, .o (.c false [.d, .d] (.b x41)), .n 3, .keep [8] []] rfl ⟨⟨tt_, (congrArg V.b hc40)⟩, (Qkb _ _ hx41)⟩ ?_
             cases h
             exact AK.met rfl
            ·refine Qa hC [.say 139 (.b false), .n 6, .keep [8] []] rfl ⟨tt_, (congrArg V.b hc40)⟩ ?_
             cases h
             exact AK.met rfl
           ·refine Qa hC [.say 135 (.b false), .n 10, .keep [8] []] rfl ⟨tt_, (congrArg V.b hc39)⟩ ?_
            cases h
            exact AK.met rfl
          ·refine Qa hC [.say 131 (.b false), .n 14, .keep [8] []] rfl ⟨tt_, (congrArg V.b hc38)⟩ ?_
           cases h
           exact AK.met rfl
         ·rintro σ rfl
          replace h : Qd8 x36 = some r := h
          unfold Qd8 at h
          refine Qa hC [.n 2, .keep [8] []] rfl tt_ ?_
          cases h
          exact AK.done (ex_ [_] (an_ (an_ rfl tt_) (gives tt_)))

end Go.Proofs
