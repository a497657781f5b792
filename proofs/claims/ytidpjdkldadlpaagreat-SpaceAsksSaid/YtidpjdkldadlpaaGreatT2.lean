/- What functions of the program do, as functions over plain data, and the walks that show it: printed by a program. -/
import Derived.Test.YtidpjdkldadlpaaGreatT1
set_option linter.unusedVariables false
set_option linter.unusedSimpArgs false
set_option linter.unusedSectionVars false
set_option linter.deprecated false
noncomputable section
namespace Go.Proofs
open Go Go.RowKit Go.Vm
-- 82 baldric/bind.Modes
noncomputable def F_bind_Modes_v2_round_g1 (x12 : (Int × Tbind_binder)) : Option Bool :=
  bif (x12.1 != 0) then
  some true
  else
  (F_bind_binder_guarded x12.2).bind fun x16 =>
  some (x16 != 0)

noncomputable def F_bind_Modes_v2_round_k2 (x21 : Int) (l27 : (List TMode)) : Option ((Int × (List TMode)) ⊕ (List TMode)) :=
  some (.inl ((w64 (x21 + 1)), l27))

noncomputable def F_bind_Modes_v2_round_l3 (x19 : (List (List Int))) (p9 : (List Int)) (e28 : (List Int)) (v3 : Int) (v4 : Int) (x32 : Int) (l33 : (List TMode)) : Option ((Int × (List TMode)) ⊕ (List TMode)) :=
  bif (decide (x32 < (x19.length : Int))) then
  (idx x19 x32).bind fun e38 =>
  (F_slices_Clone_int_int p9).bind fun x39 =>
  (F_slices_Clone_int_int e28).bind fun x40 =>
  (F_slices_Clone_int_int e38).bind fun x41 =>
  (chk (decide (l33.length + ([(TMode.mk v3 x39 x40 x41)] : List TMode).length ≤ 4294967296))).bind fun _ =>
  bif (((l33 ++ [(TMode.mk v3 x39 x40 x41)]).length : Int) == v4) then
  none
  else
  some (.inl ((w64 (x32 + 1)), (l33 ++ [(TMode.mk v3 x39 x40 x41)])))
  else
  some (.inr l33)

noncomputable def F_bind_Modes_v2_round_c4 (x21 : Int) (l36 : (List TMode)) : Option ((Int × (List TMode)) ⊕ (List TMode)) :=
  F_bind_Modes_v2_round_k2 x21 l36

noncomputable def F_bind_Modes_v2_round_l5 (v6 : (List (List Int))) (x12 : (Int × Tbind_binder)) (x19 : (List (List Int))) (p9 : (List Int)) (v3 : Int) (v4 : Int) (x21 : Int) (l22 : (List TMode)) : Option ((Int × (List TMode)) ⊕ (List TMode)) :=
  bif (decide (x21 < (v6.length : Int))) then
  (idx v6 x21).bind fun e28 =>
  (F_bind_binder_takes x12.2 e28).bind fun x29 =>
  bif (x29 != 0) then
  F_bind_Modes_v2_round_k2 x21 l22
  else
  (loopM (fun st => F_bind_Modes_v2_round_l3 x19 p9 e28 v3 v4 st.1 st.2) (0, l22)).bind (fun q => F_bind_Modes_v2_round_c4 x21 q)
  else
  some (.inr l22)

noncomputable def F_bind_Modes_v2_round_c6 (l25 : (List TMode)) : Option (List TMode) :=
  some l25

noncomputable def F_bind_Modes_v2_round_k7 (l8 : (List TMode)) (v7 : (List (List Int))) (x12 : (Int × Tbind_binder)) (v6 : (List (List Int))) (p9 : (List Int)) (v3 : Int) (v4 : Int) (x13 : Bool) : Option (List TMode) :=
  bif x13 then
  some l8
  else
  (F_slices_Clone_int_int_v2 v7).bind fun x18 =>
  (F_slices_DeleteFunc_int_int_v2 x18 x12.2).bind fun x19 =>
  (loopM (fun st => F_bind_Modes_v2_round_l5 v6 x12 x19 p9 v3 v4 st.1 st.2) (0, l8)).bind (fun q => F_bind_Modes_v2_round_c6 q)

noncomputable def F_bind_Modes_v2_round (v1 : TNet) (v2 : (List (List (Int × Int)))) (v3 : Int) (v4 : Int) (l5 : (List TMode)) (v6 : (List (List Int))) (v7 : (List (List Int))) (l8 : (List TMode)) (p9 : (List Int)) : Option (List TMode) :=
  (F_bind_bound v1 v2 v3 p9).bind fun x12 =>
  (F_bind_Modes_v2_round_g1 x12).bind (fun x13 => F_bind_Modes_v2_round_k7 l8 v7 x12 v6 p9 v3 v4 x13)

set_option maxRecDepth 100000 in
set_option maxHeartbeats 4000000 in
theorem F_bind_Modes_v2_round_ok (lpl lpf : Nat) (v1 : TNet) (v2 : (List (List (Int × Int)))) (v3 : Int) (v4 : Int) (l5 : (List TMode)) (v6 : (List (List Int))) (v7 : (List (List Int))) (l8 : (List TMode)) (p9 : (List Int)) {r : (List TMode)} (h : F_bind_Modes_v2_round v1 v2 v3 v4 l5 v6 v7 l8 p9 = some r) : ARound Tryz.prog lpl (LK_82_0 lpf) [.junk, .junk, .junk, .junk, .loc 200001 0 0, .loc 200002 0 0, .loc 200003 0 0, .loc 200004 0 0, .loc 200005 0 0, .junk, .loc 200006 0 0, .loc 200007 0 0, .loc 200008 0 0, .junk, .junk, .junk, .junk, .junk, .junk, .junk, .junk, .junk, .junk, .junk, .junk, .junk, .junk, .junk, .junk, .junk, .junk, .junk, .junk, .junk, .junk, .junk, .junk, .junk, .junk, .junk, .junk, .junk, .junk, .junk, .junk, .junk, .junk, .junk, .junk, .junk, .junk, .junk, .junk, .junk, .sl 1 (p9.map row_I), .junk, .junk, .junk, .junk, .junk, .junk, .junk, .junk, .junk, .junk, .junk, .junk, .junk, .junk, .junk, .junk, .junk, .junk, .junk, .junk, .junk, .junk, .junk, .junk, .junk, .junk, .junk, .junk, .junk, .junk, .junk, .junk, .junk, .junk, .junk, .junk, .junk, .junk, .junk, .junk, .junk, .junk, .junk, .junk, .junk, .junk, .junk, .junk, .junk, .junk, .junk, .junk, .junk, .junk] [(200000, .lp lpl (LK_82_0 lpf) [.junk, .junk, .junk, .junk, .loc 200001 0 0, .loc 200002 0 0, .loc 200003 0 0, .loc 200004 0 0, .loc 200005 0 0, .junk, .loc 200006 0 0, .loc 200007 0 0, .loc 200008 0 0, .junk, .junk, .junk, .junk, .junk, .junk, .junk, .junk, .junk, .junk, .junk, .junk, .junk, .junk, .junk, .junk, .junk, .junk, .junk, .junk, .junk, .junk, .junk, .junk, .junk, .junk, .junk, .junk, .junk, .junk, .junk, .junk, .junk, .junk, .junk, .junk, .junk, .junk, .junk, .junk, .junk, .junk, .junk, .junk, .junk, .junk, .junk, .junk, .junk, .junk, .junk, .junk, .junk, .junk, .junk, .junk, .junk, .junk, .junk, .junk, .junk, .junk, .junk, .junk, .junk, .junk, .junk, .junk, .junk, .junk, .junk, .junk, .junk, .junk, .junk, .junk, .junk, .junk, .junk, .junk, .junk, .junk, .junk, .junk, .junk, .junk, .junk, .junk, .junk, .junk, .junk, .junk, .junk, .junk, .junk, .junk] 0), (200001, .var (row_TNet v1)), (200002, .var (row_LLA2I v2)), (200003, .var (row_I v3)), (200004, .var (row_I v4)), (200005, .var [.own 100000 l5.length]), (100000, .arr 4 (l5.map row_TMode)), (200006, .var (row_LLI v6)), (200007, .var (row_LLI v7)), (200008, .var [.own 100001 l8.length]), (100001, .arr 4 (l8.map row_TMode))] (Gives (.b true) [(100000, .arr 4 (l5.map row_TMode)), (100001, .arr 4 (r.map row_TMode)), (200000, .lp lpl (LK_82_0 lpf) [.junk, .junk, .junk, .junk, .loc 200001 0 0, .loc 200002 0 0, .loc 200003 0 0, .loc 200004 0 0, .loc 200005 0 0, .junk, .loc 200006 0 0, .loc 200007 0 0, .loc 200008 0 0, .junk, .junk, .junk, .junk, .junk, .junk, .junk, .junk, .junk, .junk, .junk, .junk, .junk, .junk, .junk, .junk, .junk, .junk, .junk, .junk, .junk, .junk, .junk, .junk, .junk, .junk, .junk, .junk, .junk, .junk, .junk, .junk, .junk, .junk, .junk, .junk, .junk, .junk, .junk, .junk, .junk, .junk, .junk, .junk, .junk, .junk, .junk, .junk, .junk, .junk, .junk, .junk, .junk, .junk, .junk, .junk, .junk, .junk, .junk, .junk, .junk, .junk, .junk, .junk, .junk, .junk, .junk, .junk, .junk, .junk, .junk, .junk, .junk, .junk, .junk, .junk, .junk, .junk, .junk, .junk, .junk, .junk, .junk, .junk, .junk, .junk, .junk, .junk, .junk, .junk, .junk, .junk, .junk, .junk, .junk, .junk] 0), (200001, .var (row_TNet v1)), (200002, .var (row_LLA2I v2)), (200003, .var (row_I v3)), (200004, .var (row_I v4)), (200005, .var [.own 100000 l5.length]), (200006, .var (row_LLI v6)), (200007, .var (row_LLI v7)), (200008, .var [.own 100001 r.length])]) := by
  refine ARound.walk (b := 200000) 109 rfl rfl fun C hC => ?_
  unfold F_bind_Modes_v2_round at h
  refine AK.go tab_ok hC [.n 3] rfl trivial ?_
  refine AK.done (And.intro rfl (Exists.intro _ (And.intro rfl ?_)))
  obtain ⟨x12, hx12, h⟩ := bindE h
  refine AK.go tab_ok hC [.n 3, .v .no [] (.agg (row_TNet v1)), .n 3, .o (.c false [.d, .d, .d, .d] (.tup [.agg (row_Tbind_binder x12.2), .i .i64 x12.1])), .n 5, .sayO 14 (.var (row_Tbind_binder x12.2)), .n 5] rfl ⟨⟨⟨trivial, rfl⟩, (F_bind_bound_ok _ _ _ _ hx12)⟩, rfl⟩ ?_
  obtain ⟨x13, hv14, h⟩ := bindE h
  replace h : F_bind_Modes_v2_round_k7 l8 v7 x12 v6 p9 v3 v4 x13 = some r := h
  refine AK.meetX (fun σ => σ = ⟨[(6, .loc 200003 0 0), (7, .loc 200004 0 0), (8, .loc 200005 0 0), (10, .loc 200006 0 0), (11, .loc 200007 0 0), (12, .loc 200008 0 0), (13, .sl 1 (p9.map row_I)), (14, .loc 14 0 0), (69, .b x13)], [(14, .var (row_Tbind_binder x12.2)), (100000, .arr 4 (l5.map row_TMode)), (100001, .arr 4 (l8.map row_TMode)), (200000, .lp lpl (LK_82_0 lpf) [.junk, .junk, .junk, .junk, .loc 200001 0 0, .loc 200002 0 0, .loc 200003 0 0, .loc 200004 0 0, .loc 200005 0 0, .junk, .loc 200006 0 0, .loc 200007 0 0, .loc 200008 0 0, .junk, .junk, .junk, .junk, .junk, .junk, .junk, .junk, .junk, .junk, .junk, .junk, .junk, .junk, .junk, .junk, .junk, .junk, .junk, .junk, .junk, .junk, .junk, .junk, .junk, .junk, .junk, .junk, .junk, .junk, .junk, .junk, .junk, .junk, .junk, .junk, .junk, .junk, .junk, .junk, .junk, .junk, .junk, .junk, .junk, .junk, .junk, .junk, .junk, .junk, .junk, .junk, .junk, .junk, .junk, .junk, .junk, .junk, .junk, .junk, .junk, .junk, .junk, .junk, .junk, .junk, .junk, .junk, .junk, .junk, .junk, .junk, .junk, .junk, .junk, .junk, .junk, .junk, .junk, .junk, .junk, .junk, .junk, .junk, .junk, .junk, .junk, .junk, .junk, .junk, .junk, .junk, .junk, .junk, .junk, .junk] 1), (200001, .var (row_TNet v1)), (200002, .var (row_LLA2I v2)), (200003, .var (row_I v3)), (200004, .var (row_I v4)), (200005, .var [.own 100000 l5.length]), (200006, .var (row_LLI v6)), (200007, .var (row_LLI v7)), (200008, .var [.own 100001 l8.length])]⟩) ?_ ?_
  · replace h := hv14
    unfold F_bind_Modes_v2_round_g1 at h
    refine AK.go tab_ok hC [.n 4] rfl trivial ?_
    rcases bifE h with ⟨hc15, h⟩ | ⟨hc15, h⟩
    · refine AK.go tab_ok hC [.say 65 (.b true), .n 5, .keep [6, 7, 8, 10, 11, 12, 13, 14, 69] [14, 100000, 100001, 200000, 200001, 200002, 200003, 200004, 200005, 200006, 200007, 200008]] rfl ⟨trivial, (congrArg V.b hc15)⟩ ?_
      obtain rfl := Option.some.inj h
      exact AK.met rfl
    · obtain ⟨x16, hx16, h⟩ := bindE h
      refine AK.go tab_ok hC [.say 65 (.b false), .v .no [] (.agg (row_Tbind_binder x12.2)), .o (.c false [.d] (.i .i64 x16)), .n 3, .keep [6, 7, 8, 10, 11, 12, 13, 14, 69] [14, 100000, 100001, 200000, 200001, 200002, 200003, 200004, 200005, 200006, 200007, 200008]] rfl ⟨⟨⟨trivial, (congrArg V.b hc15)⟩, rfl⟩, (F_bind_binder_guarded_ok _ hx16)⟩ ?_
      obtain rfl := Option.some.inj h
      exact AK.met rfl
  · rintro σ rfl
    replace h : F_bind_Modes_v2_round_k7 l8 v7 x12 v6 p9 v3 v4 x13 = some r := h
    unfold F_bind_Modes_v2_round_k7 at h
    refine AK.go tab_ok hC [.n 1] rfl trivial ?_
    rcases bifE h with ⟨hc17, h⟩ | ⟨hc17, h⟩
    · refine AK.go tab_ok hC [.br true, .n 3, .keep [] [100000, 100001, 200000, 200001, 200002, 200003, 200004, 200005, 200006, 200007, 200008]] rfl ⟨trivial, hc17⟩ ?_
      obtain rfl := Option.some.inj h
      refine AK.done ?_
      exact Exists.intro _ (And.intro rfl (gives ⟨rfl, rfl, rfl, rfl, rfl, rfl, rfl, rfl, rfl, rfl, rfl, trivial⟩))
    · obtain ⟨x18, hx18, h⟩ := bindE h
      obtain ⟨x19, hx19, h⟩ := bindE h
      refine AK.go tab_ok hC [.br false, .n 5, .o (.co false [.d] 1 (x18.map row_LI) x18.length), .n 1, .cm (.fn) [(200000, 71), (200001, 14)] [(71, 200000), (14, 200001)] [] [.d, .d] [(200000, .arr 1 (x19.map row_LI)), (200001, .var (row_Tbind_binder x12.2))] (.own 200000 x19.length), .n 6, .o (.ln v6.length), .n 4, .keep [6, 7, 8, 12, 13, 14, 16, 74, 75, 76] [14, 71, 100000, 100001, 200000, 200001, 200002, 200003, 200004, 200005, 200006, 200007, 200008]] rfl ⟨⟨⟨⟨trivial, hc17⟩, ⟨(F_slices_Clone_int_int_v2_ok _ hx18), mapLen, .inl rfl⟩⟩, (F_slices_DeleteFunc_int_int_v2_ok _ _ hx19)⟩, mapLen⟩ ?_
      obtain ⟨l25, hl45, h⟩ := bindE h
      refine AK.loop (body := (fun st => F_bind_Modes_v2_round_l5 v6 x12 x19 p9 v3 v4 st.1 st.2)) (fun st σ => σ = ⟨[(6, .loc 200003 0 0), (7, .loc 200004 0 0), (8, .loc 200005 0 0), (12, .loc 200008 0 0), (13, .sl 1 (p9.map row_I)), (14, .loc 14 0 0), (16, .own 71 x19.length), (74, .sl 1 (v6.map row_LI)), (75, .i .i64 (v6.length : Int)), (76, .i .i64 st.1)], [(14, .var (row_Tbind_binder x12.2)), (71, .arr 1 (x19.map row_LI)), (100000, .arr 4 (l5.map row_TMode)), (100001, .arr 4 (st.2.map row_TMode)), (200000, .lp lpl (LK_82_0 lpf) [.junk, .junk, .junk, .junk, .loc 200001 0 0, .loc 200002 0 0, .loc 200003 0 0, .loc 200004 0 0, .loc 200005 0 0, .junk, .loc 200006 0 0, .loc 200007 0 0, .loc 200008 0 0, .junk, .junk, .junk, .junk, .junk, .junk, .junk, .junk, .junk, .junk, .junk, .junk, .junk, .junk, .junk, .junk, .junk, .junk, .junk, .junk, .junk, .junk, .junk, .junk, .junk, .junk, .junk, .junk, .junk, .junk, .junk, .junk, .junk, .junk, .junk, .junk, .junk, .junk, .junk, .junk, .junk, .junk, .junk, .junk, .junk, .junk, .junk, .junk, .junk, .junk, .junk, .junk, .junk, .junk, .junk, .junk, .junk, .junk, .junk, .junk, .junk, .junk, .junk, .junk, .junk, .junk, .junk, .junk, .junk, .junk, .junk, .junk, .junk, .junk, .junk, .junk, .junk, .junk, .junk, .junk, .junk, .junk, .junk, .junk, .junk, .junk, .junk, .junk, .junk, .junk, .junk, .junk, .junk, .junk, .junk, .junk] 1), (200001, .var (row_TNet v1)), (200002, .var (row_LLA2I v2)), (200003, .var (row_I v3)), (200004, .var (row_I v4)), (200005, .var [.own 100000 l5.length]), (200006, .var (row_LLI v6)), (200007, .var (row_LLI v7)), (200008, .var [.own 100001 st.2.length])]⟩) (fun q e σ => e = .exit 2 ∧ σ = ⟨[], [(100000, .arr 4 (l5.map row_TMode)), (100001, .arr 4 (q.map row_TMode)), (200000, .lp lpl (LK_82_0 lpf) [.junk, .junk, .junk, .junk, .loc 200001 0 0, .loc 200002 0 0, .loc 200003 0 0, .loc 200004 0 0, .loc 200005 0 0, .junk, .loc 200006 0 0, .loc 200007 0 0, .loc 200008 0 0, .junk, .junk, .junk, .junk, .junk, .junk, .junk, .junk, .junk, .junk, .junk, .junk, .junk, .junk, .junk, .junk, .junk, .junk, .junk, .junk, .junk, .junk, .junk, .junk, .junk, .junk, .junk, .junk, .junk, .junk, .junk, .junk, .junk, .junk, .junk, .junk, .junk, .junk, .junk, .junk, .junk, .junk, .junk, .junk, .junk, .junk, .junk, .junk, .junk, .junk, .junk, .junk, .junk, .junk, .junk, .junk, .junk, .junk, .junk, .junk, .junk, .junk, .junk, .junk, .junk, .junk, .junk, .junk, .junk, .junk, .junk, .junk, .junk, .junk, .junk, .junk, .junk, .junk, .junk, .junk, .junk, .junk, .junk, .junk, .junk, .junk, .junk, .junk, .junk, .junk, .junk, .junk, .junk, .junk, .junk, .junk] 1), (200001, .var (row_TNet v1)), (200002, .var (row_LLA2I v2)), (200003, .var (row_I v3)), (200004, .var (row_I v4)), (200005, .var [.own 100000 l5.length]), (200006, .var (row_LLI v6)), (200007, .var (row_LLI v7)), (200008, .var [.own 100001 q.length])]⟩) hl45 rfl ?_ ?_
      · rintro ⟨x21, l22⟩ o σ rfl h
        replace h : F_bind_Modes_v2_round_l5 v6 x12 x19 p9 v3 v4 x21 l22 = some o := h
        unfold F_bind_Modes_v2_round_l5 at h
        refine AK.go tab_ok hC [.n 6] rfl trivial ?_
        rcases bifE h with ⟨hc26, h⟩ | ⟨hc26, h⟩
        · refine AK.go tab_ok hC [.br true, .n 2] rfl ⟨trivial, hc26⟩ ?_
          refine AK.meet (fun σ => ∃ l27 : (List TMode), σ = ⟨[(6, .loc 200003 0 0), (7, .loc 200004 0 0), (8, .loc 200005 0 0), (12, .loc 200008 0 0), (13, .sl 1 (p9.map row_I)), (14, .loc 14 0 0), (16, .own 71 x19.length), (74, .sl 1 (v6.map row_LI)), (75, .i .i64 (v6.length : Int)), (76, .i .i64 x21)], [(14, .var (row_Tbind_binder x12.2)), (71, .arr 1 (x19.map row_LI)), (100000, .arr 4 (l5.map row_TMode)), (100001, .arr 4 (l27.map row_TMode)), (200000, .lp lpl (LK_82_0 lpf) [.junk, .junk, .junk, .junk, .loc 200001 0 0, .loc 200002 0 0, .loc 200003 0 0, .loc 200004 0 0, .loc 200005 0 0, .junk, .loc 200006 0 0, .loc 200007 0 0, .loc 200008 0 0, .junk, .junk, .junk, .junk, .junk, .junk, .junk, .junk, .junk, .junk, .junk, .junk, .junk, .junk, .junk, .junk, .junk, .junk, .junk, .junk, .junk, .junk, .junk, .junk, .junk, .junk, .junk, .junk, .junk, .junk, .junk, .junk, .junk, .junk, .junk, .junk, .junk, .junk, .junk, .junk, .junk, .junk, .junk, .junk, .junk, .junk, .junk, .junk, .junk, .junk, .junk, .junk, .junk, .junk, .junk, .junk, .junk, .junk, .junk, .junk, .junk, .junk, .junk, .junk, .junk, .junk, .junk, .junk, .junk, .junk, .junk, .junk, .junk, .junk, .junk, .junk, .junk, .junk, .junk, .junk, .junk, .junk, .junk, .junk, .junk, .junk, .junk, .junk, .junk, .junk, .junk, .junk, .junk, .junk, .junk, .junk] 1), (200001, .var (row_TNet v1)), (200002, .var (row_LLA2I v2)), (200003, .var (row_I v3)), (200004, .var (row_I v4)), (200005, .var [.own 100000 l5.length]), (200006, .var (row_LLI v6)), (200007, .var (row_LLI v7)), (200008, .var [.own 100001 l27.length])]⟩ ∧ F_bind_Modes_v2_round_k2 x21 l27 = some o) ?_ ?_
          · obtain ⟨e28, he28, h⟩ := bindE h
            obtain ⟨x29, hx29, h⟩ := bindE h
            refine AK.go tab_ok hC [.n 3, .o (.row (row_LI e28)), .n 7, .v .no [] (.agg (row_Tbind_binder x12.2)), .n 1, .o (.c false [.d, .d] (.i .i64 x29)), .n 3] rfl ⟨⟨⟨trivial, (idxM he28)⟩, rfl⟩, (F_bind_binder_takes_ok _ _ hx29)⟩ ?_
            rcases bifE h with ⟨hc30, h⟩ | ⟨hc30, h⟩
            · refine AK.go tab_ok hC [.br true, .n 3, .keep [6, 7, 8, 12, 13, 14, 16, 74, 75, 76] [14, 71, 100000, 100001, 200000, 200001, 200002, 200003, 200004, 200005, 200006, 200007, 200008]] rfl ⟨trivial, hc30⟩ ?_
              exact AK.met (Exists.intro _ (And.intro rfl h))
            · refine AK.go tab_ok hC [.br false, .n 10, .keep [6, 7, 8, 12, 13, 14, 16, 18, 74, 75, 76, 84, 85, 86] [14, 71, 100000, 100001, 200000, 200001, 200002, 200003, 200004, 200005, 200006, 200007, 200008]] rfl ⟨trivial, hc30⟩ ?_
              obtain ⟨l36, hl44, h⟩ := bindE h
              refine AK.loop (body := (fun st => F_bind_Modes_v2_round_l3 x19 p9 e28 v3 v4 st.1 st.2)) (fun st σ => σ = ⟨[(6, .loc 200003 0 0), (7, .loc 200004 0 0), (8, .loc 200005 0 0), (12, .loc 200008 0 0), (13, .sl 1 (p9.map row_I)), (14, .loc 14 0 0), (16, .own 71 x19.length), (18, .sl 1 (e28.map row_I)), (74, .sl 1 (v6.map row_LI)), (75, .i .i64 (v6.length : Int)), (76, .i .i64 x21), (84, .own 71 x19.length), (85, .i .i64 (x19.length : Int)), (86, .i .i64 st.1)], [(14, .var (row_Tbind_binder x12.2)), (71, .arr 1 (x19.map row_LI)), (100000, .arr 4 (l5.map row_TMode)), (100001, .arr 4 (st.2.map row_TMode)), (200000, .lp lpl (LK_82_0 lpf) [.junk, .junk, .junk, .junk, .loc 200001 0 0, .loc 200002 0 0, .loc 200003 0 0, .loc 200004 0 0, .loc 200005 0 0, .junk, .loc 200006 0 0, .loc 200007 0 0, .loc 200008 0 0, .junk, .junk, .junk, .junk, .junk, .junk, .junk, .junk, .junk, .junk, .junk, .junk, .junk, .junk, .junk, .junk, .junk, .junk, .junk, .junk, .junk, .junk, .junk, .junk, .junk, .junk, .junk, .junk, .junk, .junk, .junk, .junk, .junk, .junk, .junk, .junk, .junk, .junk, .junk, .junk, .junk, .junk, .junk, .junk, .junk, .junk, .junk, .junk, .junk, .junk, .junk, .junk, .junk, .junk, .junk, .junk, .junk, .junk, .junk, .junk, .junk, .junk, .junk, .junk, .junk, .junk, .junk, .junk, .junk, .junk, .junk, .junk, .junk, .junk, .junk, .junk, .junk, .junk, .junk, .junk, .junk, .junk, .junk, .junk, .junk, .junk, .junk, .junk, .junk, .junk, .junk, .junk, .junk, .junk, .junk, .junk] 1), (200001, .var (row_TNet v1)), (200002, .var (row_LLA2I v2)), (200003, .var (row_I v3)), (200004, .var (row_I v4)), (200005, .var [.own 100000 l5.length]), (200006, .var (row_LLI v6)), (200007, .var (row_LLI v7)), (200008, .var [.own 100001 st.2.length])]⟩) (fun q e σ => e = .exit 4 ∧ σ = ⟨[(6, .loc 200003 0 0), (7, .loc 200004 0 0), (8, .loc 200005 0 0), (12, .loc 200008 0 0), (13, .sl 1 (p9.map row_I)), (14, .loc 14 0 0), (16, .own 71 x19.length), (74, .sl 1 (v6.map row_LI)), (75, .i .i64 (v6.length : Int)), (76, .i .i64 x21)], [(14, .var (row_Tbind_binder x12.2)), (71, .arr 1 (x19.map row_LI)), (100000, .arr 4 (l5.map row_TMode)), (100001, .arr 4 (q.map row_TMode)), (200000, .lp lpl (LK_82_0 lpf) [.junk, .junk, .junk, .junk, .loc 200001 0 0, .loc 200002 0 0, .loc 200003 0 0, .loc 200004 0 0, .loc 200005 0 0, .junk, .loc 200006 0 0, .loc 200007 0 0, .loc 200008 0 0, .junk, .junk, .junk, .junk, .junk, .junk, .junk, .junk, .junk, .junk, .junk, .junk, .junk, .junk, .junk, .junk, .junk, .junk, .junk, .junk, .junk, .junk, .junk, .junk, .junk, .junk, .junk, .junk, .junk, .junk, .junk, .junk, .junk, .junk, .junk, .junk, .junk, .junk, .junk, .junk, .junk, .junk, .junk, .junk, .junk, .junk, .junk, .junk, .junk, .junk, .junk, .junk, .junk, .junk, .junk, .junk, .junk, .junk, .junk, .junk, .junk, .junk, .junk, .junk, .junk, .junk, .junk, .junk, .junk, .junk, .junk, .junk, .junk, .junk, .junk, .junk, .junk, .junk, .junk, .junk, .junk, .junk, .junk, .junk, .junk, .junk, .junk, .junk, .junk, .junk, .junk, .junk, .junk, .junk, .junk, .junk] 1), (200001, .var (row_TNet v1)), (200002, .var (row_LLA2I v2)), (200003, .var (row_I v3)), (200004, .var (row_I v4)), (200005, .var [.own 100000 l5.length]), (200006, .var (row_LLI v6)), (200007, .var (row_LLI v7)), (200008, .var [.own 100001 q.length])]⟩) hl44 rfl ?_ ?_
              · rintro ⟨x32, l33⟩ o σ rfl h
                replace h : F_bind_Modes_v2_round_l3 x19 p9 e28 v3 v4 x32 l33 = some o := h
                unfold F_bind_Modes_v2_round_l3 at h
                refine AK.go tab_ok hC [.n 6] rfl trivial ?_
                rcases bifE h with ⟨hc37, h⟩ | ⟨hc37, h⟩
                · obtain ⟨e38, he38, h⟩ := bindE h
                  obtain ⟨x39, hx39, h⟩ := bindE h
                  obtain ⟨x40, hx40, h⟩ := bindE h
                  obtain ⟨x41, hx41, h⟩ := bindE h
                  obtain ⟨_, hk42, h⟩ := bindE h
                  replace hk42 := chkE hk42
                  refine AK.go tab_ok hC [.br true, .n 7, .o (.row (row_LI e38)), .n 4, .keep [6, 7, 8, 12, 13, 14, 16, 18, 20, 74, 75, 76, 84, 85, 86] [14, 71, 100000, 100001, 200000, 200001, 200002, 200003, 200004, 200005, 200006, 200007, 200008]] rfl ⟨⟨⟨trivial, hc37⟩, (idxOw he38 rfl)⟩, (mapGet (idxE he38).2)⟩ ?_
                  refine AK.draw2 tab_ok hC mixed [.a .no none false, .a .no none false, .a .no none false, .a (.cd false [.d] 1 (x39.map row_I) x39.length) none false, .a .no none false, .a (.cd false [.d] 1 (x40.map row_I) x40.length) none false, .a .no none false, .a (.cd false [.d] 1 (x41.map row_I) x41.length) none false, .a .no (some ([], .agg (row_TMode (TMode.mk v3 x39 x40 x41)))) false, .a (.bd []) (some ([], .sl 4 (([(TMode.mk v3 x39 x40 x41)] : List TMode).map row_TMode))) false, .m (.app ((l33 ++ [(TMode.mk v3 x39 x40 x41)]).map row_TMode) (l33 ++ [(TMode.mk v3 x39 x40 x41)]).length), .m .s] [] [] [6, 7, 8, 12, 13, 14, 16, 18, 74, 75, 76, 84, 85, 86] [14, 71, 100000, 100001, 200000, 200001, 200002, 200003, 200004, 200005, 200006, 200007, 200008] rfl rfl rfl ⟨⟨⟨⟨⟨⟨trivial, ⟨(F_slices_Clone_int_int_ok _ hx39), mapLen⟩⟩, ⟨(F_slices_Clone_int_int_ok _ hx40), mapLen⟩⟩, ⟨(F_slices_Clone_int_int_ok _ hx41), mapLen⟩⟩, rfl⟩, rfl⟩, ⟨mapLen, appLim hk42 mapLen, mapApps, appLn mapLen⟩⟩ rfl (by kernel_rfl) rfl rfl rfl ?_
                  refine AK.go tab_ok hC [.sayO 200008 (.var [.own 100001 (l33 ++ [(TMode.mk v3 x39 x40 x41)]).length]), .n 9] rfl ⟨trivial, rfl⟩ ?_
                  rcases bifE h with ⟨hc43, h⟩ | ⟨hc43, h⟩
                  · refine AK.go tab_ok hC [.br true, .n 1] rfl ⟨trivial, hc43⟩ ?_
                    cases h
                  · refine AK.go tab_ok hC [.br false, .n 7, .keep [6, 7, 8, 12, 13, 14, 16, 18, 74, 75, 76, 84, 85, 86] [14, 71, 100000, 100001, 200000, 200001, 200002, 200003, 200004, 200005, 200006, 200007, 200008]] rfl ⟨trivial, hc43⟩ ?_
                    obtain rfl := Option.some.inj h
                    exact rndN rfl rfl
                · refine AK.go tab_ok hC [.br false, .n 2, .keep [6, 7, 8, 12, 13, 14, 16, 74, 75, 76] [14, 71, 100000, 100001, 200000, 200001, 200002, 200003, 200004, 200005, 200006, 200007, 200008]] rfl ⟨trivial, hc37⟩ ?_
                  obtain rfl := Option.some.inj h
                  exact rndX rfl (And.intro rfl rfl)
              · replace h : F_bind_Modes_v2_round_c4 x21 l36 = some o := h
                unfold F_bind_Modes_v2_round_c4 at h
                rintro e σ ⟨rfl, rfl⟩
                refine AK.go tab_ok hC [.n 2, .keep [6, 7, 8, 12, 13, 14, 16, 74, 75, 76] [14, 71, 100000, 100001, 200000, 200001, 200002, 200003, 200004, 200005, 200006, 200007, 200008]] rfl trivial ?_
                exact AK.met (Exists.intro _ (And.intro rfl h))
          · rintro σ ⟨l27, rfl, h⟩
            unfold F_bind_Modes_v2_round_k2 at h
            refine AK.go tab_ok hC [.n 4, .keep [6, 7, 8, 12, 13, 14, 16, 74, 75, 76] [14, 71, 100000, 100001, 200000, 200001, 200002, 200003, 200004, 200005, 200006, 200007, 200008]] rfl trivial ?_
            obtain rfl := Option.some.inj h
            exact rndN rfl rfl
        · refine AK.go tab_ok hC [.br false, .n 2, .keep [] [100000, 100001, 200000, 200001, 200002, 200003, 200004, 200005, 200006, 200007, 200008]] rfl ⟨trivial, hc26⟩ ?_
          obtain rfl := Option.some.inj h
          exact rndX rfl (And.intro rfl rfl)
      · replace h : F_bind_Modes_v2_round_c6 l25 = some r := h
        unfold F_bind_Modes_v2_round_c6 at h
        rintro e σ ⟨rfl, rfl⟩
        refine AK.go tab_ok hC [.n 2, .keep [] [100000, 100001, 200000, 200001, 200002, 200003, 200004, 200005, 200006, 200007, 200008]] rfl trivial ?_
        obtain rfl := Option.some.inj h
        refine AK.done ?_
        exact Exists.intro _ (And.intro rfl (gives ⟨rfl, rfl, rfl, rfl, rfl, rfl, rfl, rfl, rfl, rfl, rfl, trivial⟩))

-- 110 baldric/bind.bindings$1
noncomputable def F_bind_bindings_1_l1 (at_16 : Int) : Option (Int ⊕ Int) :=
  bif (decide (0 ≤ at_16)) then
  none
  else
  some (.inr at_16)

noncomputable def F_bind_bindings_1_c2 (x15 : (List TMode)) (at_18 : Int) : Option (Unit ⊕ (List TMode)) :=
  bif (decide (at_18 < 0)) then
  some (.inr x15)
  else
  none

noncomputable def F_bind_bindings_1_l3 (v9 : TTask) (v1 : TNet) (v2 : (List (List (Int × Int)))) (v3 : Int) (v4 : Int) (l5 : (List TMode)) (v6 : (List (List Int))) (v7 : (List (List Int))) (l8 : (List TMode)) : Option (Unit ⊕ (List TMode)) :=
  (F_slices_Clone_int_int (List.replicate (v9.Vars.length : Int).toNat (0 : Int))).bind fun x14 =>
  (F_bind_Modes_v2_round v1 v2 v3 v4 l5 v6 v7 l8 x14).bind fun x15 =>
  (loopM (fun st => F_bind_bindings_1_l1 st) (w64 (((List.replicate (v9.Vars.length : Int).toNat (0 : Int)).length : Int) - 1))).bind (fun q => F_bind_bindings_1_c2 x15 q)

noncomputable def F_bind_bindings_1_c4 (l13 : (List TMode)) : Option (List TMode) :=
  some l13

noncomputable def F_bind_bindings_1 (v1 : TNet) (v2 : (List (List (Int × Int)))) (v3 : Int) (v4 : Int) (l5 : (List TMode)) (v6 : (List (List Int))) (v7 : (List (List Int))) (l8 : (List TMode)) (v9 : TTask) (v10 : TNet) : Option (List TMode) :=
  (chk (decide (0 ≤ (v9.Vars.length : Int)) && decide ((v9.Vars.length : Int) ≤ (v9.Vars.length : Int)) && decide ((v9.Vars.length : Int) ≤ 4294967296))).bind fun _ =>
  (loopM (fun st => F_bind_bindings_1_l3 v9 v1 v2 v3 v4 l5 v6 v7 l8) ()).bind (fun q => F_bind_bindings_1_c4 q)

set_option maxRecDepth 100000 in
set_option maxHeartbeats 4000000 in
theorem F_bind_bindings_1_ok (lpl lpf : Nat) (v1 : TNet) (v2 : (List (List (Int × Int)))) (v3 : Int) (v4 : Int) (l5 : (List TMode)) (v6 : (List (List Int))) (v7 : (List (List Int))) (l8 : (List TMode)) (v9 : TTask) (v10 : TNet) {r : (List TMode)} (h : F_bind_bindings_1 v1 v2 v3 v4 l5 v6 v7 l8 v9 v10 = some r) : ACalls Tryz.prog 110 [.clo (.yield lpl) [] [], .loc 200009 0 0, .loc 200010 0 0] [(200000, .lp lpl (LK_82_0 lpf) [.junk, .junk, .junk, .junk, .loc 200001 0 0, .loc 200002 0 0, .loc 200003 0 0, .loc 200004 0 0, .loc 200005 0 0, .junk, .loc 200006 0 0, .loc 200007 0 0, .loc 200008 0 0, .junk, .junk, .junk, .junk, .junk, .junk, .junk, .junk, .junk, .junk, .junk, .junk, .junk, .junk, .junk, .junk, .junk, .junk, .junk, .junk, .junk, .junk, .junk, .junk, .junk, .junk, .junk, .junk, .junk, .junk, .junk, .junk, .junk, .junk, .junk, .junk, .junk, .junk, .junk, .junk, .junk, .junk, .junk, .junk, .junk, .junk, .junk, .junk, .junk, .junk, .junk, .junk, .junk, .junk, .junk, .junk, .junk, .junk, .junk, .junk, .junk, .junk, .junk, .junk, .junk, .junk, .junk, .junk, .junk, .junk, .junk, .junk, .junk, .junk, .junk, .junk, .junk, .junk, .junk, .junk, .junk, .junk, .junk, .junk, .junk, .junk, .junk, .junk, .junk, .junk, .junk, .junk, .junk, .junk, .junk, .junk] 0), (200001, .var (row_TNet v1)), (200002, .var (row_LLA2I v2)), (200003, .var (row_I v3)), (200004, .var (row_I v4)), (200005, .var [.own 100000 l5.length]), (100000, .arr 4 (l5.map row_TMode)), (200006, .var (row_LLI v6)), (200007, .var (row_LLI v7)), (200008, .var [.own 100001 l8.length]), (100001, .arr 4 (l8.map row_TMode)), (200009, .var (row_TTask v9)), (200010, .var (row_TNet v10))] (Gives (.tup []) [(100000, .arr 4 (l5.map row_TMode)), (100001, .arr 4 (r.map row_TMode)), (200000, .lp lpl (LK_82_0 lpf) [.junk, .junk, .junk, .junk, .loc 200001 0 0, .loc 200002 0 0, .loc 200003 0 0, .loc 200004 0 0, .loc 200005 0 0, .junk, .loc 200006 0 0, .loc 200007 0 0, .loc 200008 0 0, .junk, .junk, .junk, .junk, .junk, .junk, .junk, .junk, .junk, .junk, .junk, .junk, .junk, .junk, .junk, .junk, .junk, .junk, .junk, .junk, .junk, .junk, .junk, .junk, .junk, .junk, .junk, .junk, .junk, .junk, .junk, .junk, .junk, .junk, .junk, .junk, .junk, .junk, .junk, .junk, .junk, .junk, .junk, .junk, .junk, .junk, .junk, .junk, .junk, .junk, .junk, .junk, .junk, .junk, .junk, .junk, .junk, .junk, .junk, .junk, .junk, .junk, .junk, .junk, .junk, .junk, .junk, .junk, .junk, .junk, .junk, .junk, .junk, .junk, .junk, .junk, .junk, .junk, .junk, .junk, .junk, .junk, .junk, .junk, .junk, .junk, .junk, .junk, .junk, .junk, .junk, .junk, .junk, .junk, .junk, .junk] 0), (200001, .var (row_TNet v1)), (200002, .var (row_LLA2I v2)), (200003, .var (row_I v3)), (200004, .var (row_I v4)), (200005, .var [.own 100000 l5.length]), (200006, .var (row_LLI v6)), (200007, .var (row_LLI v7)), (200008, .var [.own 100001 r.length]), (200009, .var (row_TTask v9)), (200010, .var (row_TNet v10))]) := by
  refine ACalls.walk 50 Tryz.func110 rfl Tryz.ntmps110 rfl fun C hC => ?_
  unfold F_bind_bindings_1 at h
  obtain ⟨_, hk12, h⟩ := bindE h
  replace hk12 := chkE hk12
  refine AK.go tab_ok hC [.n 4, .o (.ln v9.Vars.length), .o (.rows ((List.replicate (v9.Vars.length : Int).toNat (0 : Int)).map row_I)), .say 9 (.own 9 (List.replicate (v9.Vars.length : Int).toNat (0 : Int)).length), .n 4, .keep [0, 1, 2, 4] [9, 100000, 100001, 200000, 200001, 200002, 200003, 200004, 200005, 200006, 200007, 200008, 200009, 200010]] rfl ⟨⟨⟨trivial, mapLen⟩, ⟨hk12, mapRep rfl⟩⟩, (by simp)⟩ ?_
  obtain ⟨l13, hl24, h⟩ := bindE h
  refine AK.loop (body := (fun st => F_bind_bindings_1_l3 v9 v1 v2 v3 v4 l5 v6 v7 l8)) (fun st σ => σ = ⟨[(0, .clo (.yield lpl) [] []), (1, .loc 200009 0 0), (2, .loc 200010 0 0), (4, .own 9 (List.replicate (v9.Vars.length : Int).toNat (0 : Int)).length)], [(9, .arr 1 ((List.replicate (v9.Vars.length : Int).toNat (0 : Int)).map row_I)), (100000, .arr 4 (l5.map row_TMode)), (100001, .arr 4 (l8.map row_TMode)), (200000, .lp lpl (LK_82_0 lpf) [.junk, .junk, .junk, .junk, .loc 200001 0 0, .loc 200002 0 0, .loc 200003 0 0, .loc 200004 0 0, .loc 200005 0 0, .junk, .loc 200006 0 0, .loc 200007 0 0, .loc 200008 0 0, .junk, .junk, .junk, .junk, .junk, .junk, .junk, .junk, .junk, .junk, .junk, .junk, .junk, .junk, .junk, .junk, .junk, .junk, .junk, .junk, .junk, .junk, .junk, .junk, .junk, .junk, .junk, .junk, .junk, .junk, .junk, .junk, .junk, .junk, .junk, .junk, .junk, .junk, .junk, .junk, .junk, .junk, .junk, .junk, .junk, .junk, .junk, .junk, .junk, .junk, .junk, .junk, .junk, .junk, .junk, .junk, .junk, .junk, .junk, .junk, .junk, .junk, .junk, .junk, .junk, .junk, .junk, .junk, .junk, .junk, .junk, .junk, .junk, .junk, .junk, .junk, .junk, .junk, .junk, .junk, .junk, .junk, .junk, .junk, .junk, .junk, .junk, .junk, .junk, .junk, .junk, .junk, .junk, .junk, .junk, .junk] 0), (200001, .var (row_TNet v1)), (200002, .var (row_LLA2I v2)), (200003, .var (row_I v3)), (200004, .var (row_I v4)), (200005, .var [.own 100000 l5.length]), (200006, .var (row_LLI v6)), (200007, .var (row_LLI v7)), (200008, .var [.own 100001 l8.length]), (200009, .var (row_TTask v9)), (200010, .var (row_TNet v10))]⟩) (fun q e σ => e = .ret ∧ σ = ⟨[], [(100000, .arr 4 (l5.map row_TMode)), (100001, .arr 4 (q.map row_TMode)), (200000, .lp lpl (LK_82_0 lpf) [.junk, .junk, .junk, .junk, .loc 200001 0 0, .loc 200002 0 0, .loc 200003 0 0, .loc 200004 0 0, .loc 200005 0 0, .junk, .loc 200006 0 0, .loc 200007 0 0, .loc 200008 0 0, .junk, .junk, .junk, .junk, .junk, .junk, .junk, .junk, .junk, .junk, .junk, .junk, .junk, .junk, .junk, .junk, .junk, .junk, .junk, .junk, .junk, .junk, .junk, .junk, .junk, .junk, .junk, .junk, .junk, .junk, .junk, .junk, .junk, .junk, .junk, .junk, .junk, .junk, .junk, .junk, .junk, .junk, .junk, .junk, .junk, .junk, .junk, .junk, .junk, .junk, .junk, .junk, .junk, .junk, .junk, .junk, .junk, .junk, .junk, .junk, .junk, .junk, .junk, .junk, .junk, .junk, .junk, .junk, .junk, .junk, .junk, .junk, .junk, .junk, .junk, .junk, .junk, .junk, .junk, .junk, .junk, .junk, .junk, .junk, .junk, .junk, .junk, .junk, .junk, .junk, .junk, .junk, .junk, .junk, .junk, .junk] 0), (200001, .var (row_TNet v1)), (200002, .var (row_LLA2I v2)), (200003, .var (row_I v3)), (200004, .var (row_I v4)), (200005, .var [.own 100000 l5.length]), (200006, .var (row_LLI v6)), (200007, .var (row_LLI v7)), (200008, .var [.own 100001 q.length]), (200009, .var (row_TTask v9)), (200010, .var (row_TNet v10))]⟩) hl24 rfl ?_ ?_
  · rintro _ o σ rfl h
    replace h : F_bind_bindings_1_l3 v9 v1 v2 v3 v4 l5 v6 v7 l8 = some o := h
    unfold F_bind_bindings_1_l3 at h
    obtain ⟨x14, hx14, h⟩ := bindE h
    obtain ⟨x15, hx15, h⟩ := bindE h
    refine AK.go tab_ok hC [.n 6, .o (.co true [.o ((List.replicate (v9.Vars.length : Int).toNat (0 : Int)).map row_I)] 1 (x14.map row_I) x14.length), .frz 12 (x14.map row_I) [12] [], .x (fun σ => (σ.after [100000, 100001] [(100000, .arr 4 (l5.map row_TMode)), (100001, .arr 4 (x15.map row_TMode)), (200000, .lp lpl (LK_82_0 lpf) [.junk, .junk, .junk, .junk, .loc 200001 0 0, .loc 200002 0 0, .loc 200003 0 0, .loc 200004 0 0, .loc 200005 0 0, .junk, .loc 200006 0 0, .loc 200007 0 0, .loc 200008 0 0, .junk, .junk, .junk, .junk, .junk, .junk, .junk, .junk, .junk, .junk, .junk, .junk, .junk, .junk, .junk, .junk, .junk, .junk, .junk, .junk, .junk, .junk, .junk, .junk, .junk, .junk, .junk, .junk, .junk, .junk, .junk, .junk, .junk, .junk, .junk, .junk, .junk, .junk, .junk, .junk, .junk, .junk, .junk, .junk, .junk, .junk, .junk, .junk, .junk, .junk, .junk, .junk, .junk, .junk, .junk, .junk, .junk, .junk, .junk, .junk, .junk, .junk, .junk, .junk, .junk, .junk, .junk, .junk, .junk, .junk, .junk, .junk, .junk, .junk, .junk, .junk, .junk, .junk, .junk, .junk, .junk, .junk, .junk, .junk, .junk, .junk, .junk, .junk, .junk, .junk, .junk, .junk, .junk, .junk, .junk, .junk] 0), (200001, .var (row_TNet v1)), (200002, .var (row_LLA2I v2)), (200003, .var (row_I v3)), (200004, .var (row_I v4)), (200005, .var [.own 100000 l5.length]), (200006, .var (row_LLI v6)), (200007, .var (row_LLI v7)), (200008, .var [.own 100001 x15.length])]).put 13 (.b true)), .n 16, .keep [0, 1, 2, 4, 5] [9, 100000, 100001, 200000, 200001, 200002, 200003, 200004, 200005, 200006, 200007, 200008, 200009, 200010]] rfl ⟨⟨⟨trivial, ⟨(viewMap rfl), ⟨(F_slices_Clone_int_int_ok _ hx14), mapLen, .inr (scaRows_I _)⟩⟩⟩, ⟨trivial, (frzL mapLen)⟩⟩, (Stp.yieldV (b := 200000) (M := [(200000, 200000), (200001, 200001), (200002, 200002), (200003, 200003), (200004, 200004), (200005, 200005), (100000, 100000), (200006, 200006), (200007, 200007), (200008, 200008), (100001, 100001)]) (N := [(100000, 100000), (100001, 100001), (200000, 200000), (200001, 200001), (200002, 200002), (200003, 200003), (200004, 200004), (200005, 200005), (200006, 200006), (200007, 200007), (200008, 200008)]) (dead := [100000, 100001]) (ms := [.d, .d, .d, .d, .d, .d, .d, .d, .d, .d, .d, .d, .d, .d, .d, .d, .d, .d, .d, .d, .d, .d, .d, .d, .d, .d, .d, .d, .d, .d, .d, .d, .d, .d, .d, .d, .d, .d, .d, .d, .d, .d, .d, .d, .d, .d, .d, .d, .d, .d, .d, .d, .d, .d, .d, .d, .d, .d, .d, .d, .d, .d, .d, .d, .d, .d, .d, .d, .d, .d, .d, .d, .d, .d, .d, .d, .d, .d, .d, .d, .d, .d, .d, .d, .d, .d, .d, .d, .d, .d, .d, .d, .d, .d, .d, .d, .d, .d, .d, .d, .d, .d, .d, .d, .d, .d, .d, .d, .d]) (outs := [(100000, .arr 4 (l5.map row_TMode)), (100001, .arr 4 (x15.map row_TMode)), (200000, .lp lpl (LK_82_0 lpf) [.junk, .junk, .junk, .junk, .loc 200001 0 0, .loc 200002 0 0, .loc 200003 0 0, .loc 200004 0 0, .loc 200005 0 0, .junk, .loc 200006 0 0, .loc 200007 0 0, .loc 200008 0 0, .junk, .junk, .junk, .junk, .junk, .junk, .junk, .junk, .junk, .junk, .junk, .junk, .junk, .junk, .junk, .junk, .junk, .junk, .junk, .junk, .junk, .junk, .junk, .junk, .junk, .junk, .junk, .junk, .junk, .junk, .junk, .junk, .junk, .junk, .junk, .junk, .junk, .junk, .junk, .junk, .junk, .junk, .junk, .junk, .junk, .junk, .junk, .junk, .junk, .junk, .junk, .junk, .junk, .junk, .junk, .junk, .junk, .junk, .junk, .junk, .junk, .junk, .junk, .junk, .junk, .junk, .junk, .junk, .junk, .junk, .junk, .junk, .junk, .junk, .junk, .junk, .junk, .junk, .junk, .junk, .junk, .junk, .junk, .junk, .junk, .junk, .junk, .junk, .junk, .junk, .junk, .junk, .junk, .junk, .junk, .junk] 0), (200001, .var (row_TNet v1)), (200002, .var (row_LLA2I v2)), (200003, .var (row_I v3)), (200004, .var (row_I v4)), (200005, .var [.own 100000 l5.length]), (200006, .var (row_LLI v6)), (200007, .var (row_LLI v7)), (200008, .var [.own 100001 x15.length])]) (r := .b true) rfl rfl rfl rfl rfl rfl rfl (hC ▸ rfl) rfl rfl (F_bind_Modes_v2_round_ok _ _ _ _ _ _ _ _ _ _ _ hx15))⟩ ?_
    obtain ⟨at_18, hl22, h⟩ := bindE h
    refine AK.loop (body := (fun st => F_bind_bindings_1_l1 st)) (fun st σ => σ = ⟨[(0, .clo (.yield lpl) [] []), (1, .loc 200009 0 0), (2, .loc 200010 0 0), (4, .own 9 (List.replicate (v9.Vars.length : Int).toNat (0 : Int)).length), (5, .i .i64 st)], [(9, .arr 1 ((List.replicate (v9.Vars.length : Int).toNat (0 : Int)).map row_I)), (100000, .arr 4 (l5.map row_TMode)), (100001, .arr 4 (x15.map row_TMode)), (200000, .lp lpl (LK_82_0 lpf) [.junk, .junk, .junk, .junk, .loc 200001 0 0, .loc 200002 0 0, .loc 200003 0 0, .loc 200004 0 0, .loc 200005 0 0, .junk, .loc 200006 0 0, .loc 200007 0 0, .loc 200008 0 0, .junk, .junk, .junk, .junk, .junk, .junk, .junk, .junk, .junk, .junk, .junk, .junk, .junk, .junk, .junk, .junk, .junk, .junk, .junk, .junk, .junk, .junk, .junk, .junk, .junk, .junk, .junk, .junk, .junk, .junk, .junk, .junk, .junk, .junk, .junk, .junk, .junk, .junk, .junk, .junk, .junk, .junk, .junk, .junk, .junk, .junk, .junk, .junk, .junk, .junk, .junk, .junk, .junk, .junk, .junk, .junk, .junk, .junk, .junk, .junk, .junk, .junk, .junk, .junk, .junk, .junk, .junk, .junk, .junk, .junk, .junk, .junk, .junk, .junk, .junk, .junk, .junk, .junk, .junk, .junk, .junk, .junk, .junk, .junk, .junk, .junk, .junk, .junk, .junk, .junk, .junk, .junk, .junk, .junk, .junk, .junk] 0), (200001, .var (row_TNet v1)), (200002, .var (row_LLA2I v2)), (200003, .var (row_I v3)), (200004, .var (row_I v4)), (200005, .var [.own 100000 l5.length]), (200006, .var (row_LLI v6)), (200007, .var (row_LLI v7)), (200008, .var [.own 100001 x15.length]), (200009, .var (row_TTask v9)), (200010, .var (row_TNet v10))]⟩) (fun q e σ => e = .exit 2 ∧ σ = ⟨[(0, .clo (.yield lpl) [] []), (1, .loc 200009 0 0), (2, .loc 200010 0 0), (4, .own 9 (List.replicate (v9.Vars.length : Int).toNat (0 : Int)).length), (5, .i .i64 q)], [(9, .arr 1 ((List.replicate (v9.Vars.length : Int).toNat (0 : Int)).map row_I)), (100000, .arr 4 (l5.map row_TMode)), (100001, .arr 4 (x15.map row_TMode)), (200000, .lp lpl (LK_82_0 lpf) [.junk, .junk, .junk, .junk, .loc 200001 0 0, .loc 200002 0 0, .loc 200003 0 0, .loc 200004 0 0, .loc 200005 0 0, .junk, .loc 200006 0 0, .loc 200007 0 0, .loc 200008 0 0, .junk, .junk, .junk, .junk, .junk, .junk, .junk, .junk, .junk, .junk, .junk, .junk, .junk, .junk, .junk, .junk, .junk, .junk, .junk, .junk, .junk, .junk, .junk, .junk, .junk, .junk, .junk, .junk, .junk, .junk, .junk, .junk, .junk, .junk, .junk, .junk, .junk, .junk, .junk, .junk, .junk, .junk, .junk, .junk, .junk, .junk, .junk, .junk, .junk, .junk, .junk, .junk, .junk, .junk, .junk, .junk, .junk, .junk, .junk, .junk, .junk, .junk, .junk, .junk, .junk, .junk, .junk, .junk, .junk, .junk, .junk, .junk, .junk, .junk, .junk, .junk, .junk, .junk, .junk, .junk, .junk, .junk, .junk, .junk, .junk, .junk, .junk, .junk, .junk, .junk, .junk, .junk, .junk, .junk, .junk, .junk] 0), (200001, .var (row_TNet v1)), (200002, .var (row_LLA2I v2)), (200003, .var (row_I v3)), (200004, .var (row_I v4)), (200005, .var [.own 100000 l5.length]), (200006, .var (row_LLI v6)), (200007, .var (row_LLI v7)), (200008, .var [.own 100001 x15.length]), (200009, .var (row_TTask v9)), (200010, .var (row_TNet v10))]⟩) hl22 rfl ?_ ?_
    · rintro at_16 o σ rfl h
      replace h : F_bind_bindings_1_l1 at_16 = some o := h
      unfold F_bind_bindings_1_l1 at h
      refine AK.go tab_ok hC [.n 2, .keep [0, 1, 2, 4, 5] [9, 100000, 100001, 200000, 200001, 200002, 200003, 200004, 200005, 200006, 200007, 200008, 200009, 200010]] rfl trivial ?_
      rcases bifE h with ⟨hc19, h⟩ | ⟨hc19, h⟩
      · cases h
      · refine AK.draw2 tab_ok hC mixed [.a .no none false, .a .no none false, .a .no (some ([], .b false)) false, .a .no none false, .a .no none false, .a .no none false, .a .no none false, .a .no none false, .a .no none false, .a .no none false, .a .no none false, .a .no none false, .a .no none false, .a .no none false, .a .no none false, .a .no none false, .a .no none false, .a .no none false, .a .no none false] [] [] [0, 1, 2, 4, 5, 36] [9, 100000, 100001, 200000, 200001, 200002, 200003, 200004, 200005, 200006, 200007, 200008, 200009, 200010] rfl rfl rfl ⟨trivial, (congrArg V.b hc19)⟩ rfl (by kernel_rfl) rfl rfl rfl ?_
        refine AK.go tab_ok hC [.n 4, .keep [0, 1, 2, 4, 5] [9, 100000, 100001, 200000, 200001, 200002, 200003, 200004, 200005, 200006, 200007, 200008, 200009, 200010]] rfl trivial ?_
        obtain rfl := Option.some.inj h
        exact rndX rfl (And.intro rfl rfl)
    · replace h : F_bind_bindings_1_c2 x15 at_18 = some o := h
      unfold F_bind_bindings_1_c2 at h
      rintro e σ ⟨rfl, rfl⟩
      refine AK.go tab_ok hC [.n 9] rfl trivial ?_
      rcases bifE h with ⟨hc23, h⟩ | ⟨hc23, h⟩
      · refine AK.go tab_ok hC [.br true, .n 3, .keep [] [100000, 100001, 200000, 200001, 200002, 200003, 200004, 200005, 200006, 200007, 200008, 200009, 200010]] rfl ⟨trivial, hc23⟩ ?_
        obtain rfl := Option.some.inj h
        exact rndR rfl (And.intro rfl rfl)
      · refine AK.go tab_ok hC [.br false, .n 2] rfl ⟨trivial, hc23⟩ ?_
        cases h
  · replace h : F_bind_bindings_1_c4 l13 = some r := h
    unfold F_bind_bindings_1_c4 at h
    rintro e σ ⟨rfl, rfl⟩
    refine AK.go tab_ok hC [.n 1, .keep [] [100000, 100001, 200000, 200001, 200002, 200003, 200004, 200005, 200006, 200007, 200008, 200009, 200010]] rfl trivial ?_
    obtain rfl := Option.some.inj h
    refine AK.done ?_
    exact Exists.intro [] (And.intro trivial (gives ⟨rfl, rfl, rfl, rfl, rfl, rfl, rfl, rfl, rfl, rfl, rfl, rfl, rfl, trivial⟩))

-- 82 baldric/bind.Modes
noncomputable def F_bind_Modes (n1 : TNet) (m2 : (List (List (Int × Int)))) (task3 : Int) (most4 : Int) : Option (List TMode) :=
  bif ((decide (task3 < 0)) || ((decide ((n1.Tasks.length : Int) ≤ task3)) || (decide (most4 < 1)))) then
  none
  else
  (idx n1.Tasks task3).bind fun e10 =>
  (F_bind_Choices e10.Join (e10.Ins.length : Int)).bind fun x11 =>
  (F_bind_Choices e10.Split (e10.Outs.length : Int)).bind fun x12 =>
  (F_bind_bindings n1 e10).bind fun x13 =>
  (F_bind_bindings_1 n1 m2 task3 most4 ([] : List TMode) x11 x12 ([] : List TMode) x13.2 x13.1).bind fun x14 =>
  some x14

set_option maxRecDepth 100000 in
set_option maxHeartbeats 4000000 in
theorem F_bind_Modes_ok (n1 : TNet) (m2 : (List (List (Int × Int)))) (task3 : Int) (most4 : Int) {r : (List TMode)} (h : F_bind_Modes n1 m2 task3 most4 = some r) : ACalls Tryz.prog 82 [.agg (row_TNet n1), .sl 1 (m2.map row_LA2I), .i .i64 task3, .i .i64 most4] [] (Gives (.sl 4 (r.map row_TMode)) []) := by
  refine ACalls.walkR 109 Tryz.func82 rfl Tryz.ntmps82 rfl fun C hC hR => ?_
  unfold F_bind_Modes at h
  refine AK.go tab_ok hC [.n 11] rfl trivial ?_
  refine AK.meetX (fun σ => σ = ⟨[(4, .loc 4 0 0), (5, .loc 5 0 0), (6, .loc 6 0 0), (7, .loc 7 0 0), (8, .loc 8 0 0), (33, .b ((decide (task3 < 0)) || ((decide ((n1.Tasks.length : Int) ≤ task3)) || (decide (most4 < 1)))))], [(4, .var (row_TNet n1)), (5, .var (row_LLA2I m2)), (6, .var (row_I task3)), (7, .var (row_I most4)), (8, .var [.lit (.slice none 0 0)])]⟩) ?_ ?_
  · refine AK.go tab_ok hC [.n 4] rfl trivial ?_
    rcases boolOr (decide (task3 < 0)) with hc7 | hc7
    · refine AK.go tab_ok hC [.say 23 (.b true), .n 11, .say 33 (.b ((decide (task3 < 0)) || ((decide ((n1.Tasks.length : Int) ≤ task3)) || (decide (most4 < 1))))), .keep [4, 5, 6, 7, 8, 33] [4, 5, 6, 7, 8]] rfl ⟨⟨trivial, (congrArg V.b hc7)⟩, (congrArg V.b (orT hc7 rfl))⟩ ?_
      exact AK.met rfl
    · refine AK.go tab_ok hC [.say 23 (.b false), .n 3, .o (.ln n1.Tasks.length), .n 3] rfl ⟨⟨trivial, (congrArg V.b hc7)⟩, mapLen⟩ ?_
      rcases boolOr (decide ((n1.Tasks.length : Int) ≤ task3)) with hc8 | hc8
      · refine AK.go tab_ok hC [.say 30 (.b true), .n 4, .say 33 (.b ((decide (task3 < 0)) || ((decide ((n1.Tasks.length : Int) ≤ task3)) || (decide (most4 < 1))))), .keep [4, 5, 6, 7, 8, 33] [4, 5, 6, 7, 8]] rfl ⟨⟨trivial, (congrArg V.b hc8)⟩, (congrArg V.b (orF hc7 (orT hc8 rfl)))⟩ ?_
        exact AK.met rfl
      · refine AK.go tab_ok hC [.say 30 (.b false), .n 4, .say 33 (.b ((decide (task3 < 0)) || ((decide ((n1.Tasks.length : Int) ≤ task3)) || (decide (most4 < 1))))), .keep [4, 5, 6, 7, 8, 33] [4, 5, 6, 7, 8]] rfl ⟨⟨trivial, (congrArg V.b hc8)⟩, (congrArg V.b (orF hc7 (orF hc8 rfl)))⟩ ?_
        exact AK.met rfl
  · rintro σ rfl
    refine AK.go tab_ok hC [.n 1] rfl trivial ?_
    rcases bifE h with ⟨hc9, h⟩ | ⟨hc9, h⟩
    · refine AK.go tab_ok hC [.br true, .n 1] rfl ⟨trivial, hc9⟩ ?_
      cases h
    · obtain ⟨e10, he10, h⟩ := bindE h
      obtain ⟨x11, hx11, h⟩ := bindE h
      obtain ⟨x12, hx12, h⟩ := bindE h
      refine AK.go tab_ok hC [.br false, .n 7, .o (.row (row_TTask e10)), .v .no [] (.agg (row_TTask e10)), .n 2, .sayO 9 (.var (row_TTask e10)), .n 3, .keep [4, 5, 6, 7, 8, 9] [4, 5, 6, 7, 8, 9]] rfl ⟨⟨⟨⟨trivial, hc9⟩, (idxM he10)⟩, rfl⟩, rfl⟩ ?_
      refine AK.draw2 tab_ok hC mixed [.a .no none false, .a .no none false, .a .no none false, .a .no none false, .a (.ln e10.Ins.length) none false, .a (.cd false [.d, .d] 1 (x11.map row_LI) x11.length) none false, .a .no none false, .a .no none false, .a .no none false, .a .no none false, .a (.ln e10.Outs.length) none false, .a (.cd false [.d, .d] 1 (x12.map row_LI) x12.length) none false, .a .no none false, .a .no none false, .m .s, .m .s] [] [] [4, 5, 6, 7, 8, 9, 10, 11] [4, 5, 6, 7, 8, 9, 10, 11] rfl rfl rfl ⟨⟨⟨⟨trivial, mapLen⟩, ⟨(F_bind_Choices_ok _ _ hx11), mapLen⟩⟩, mapLen⟩, ⟨(F_bind_Choices_ok _ _ hx12), mapLen⟩⟩ rfl (by kernel_rfl) rfl rfl rfl ?_
      obtain ⟨x13, hx13, h⟩ := bindE h
      refine AK.go tab_ok hC [.sayO 10 (.var (row_LLI x11)), .sayO 11 (.var (row_LLI x12)), .n 9, .v .no [] (.agg (row_TNet n1)), .v .no [] (.agg (row_TTask e10)), .cm (.fn) [] [(53, 2), (50000, 3)] [] [.d, .d] [(2, .var (row_TNet x13.1)), (3, .var (row_TTask x13.2))] (.clo (.func 110) [] [.loc 3 0 0, .loc 2 0 0]), .n 3, .keep [4, 5, 6, 7, 8, 10, 11, 12, 53] [4, 5, 6, 7, 8, 10, 11, 12, 53, 50000]] rfl ⟨⟨⟨⟨⟨trivial, rfl⟩, rfl⟩, rfl⟩, rfl⟩, (F_bind_bindings_ok _ _ hx13)⟩ ?_
      obtain ⟨x14, hx14, h⟩ := bindE h
      refine AK.go tab_ok hC [.adoptO 8 0 45160 4, .sayO 45160 (.arr 4 (([] : List TMode).map row_TMode)), .sayO 8 (.var [.own 45160 ([] : List TMode).length]), .adoptO 12 0 45240 4, .sayO 45240 (.arr 4 (([] : List TMode).map row_TMode)), .sayO 12 (.var [.own 45240 ([] : List TMode).length])] rfl ⟨⟨⟨⟨trivial, rfl⟩, rfl⟩, rfl⟩, rfl⟩ ?_
      refine AK.rangeF 60000 [4, 5, 6, 7, 8, 10, 11, 12] [(200000, 60000), (200001, 4), (200002, 5), (200003, 6), (200004, 7), (200005, 8), (100000, 45160), (200006, 10), (200007, 11), (200008, 12), (100001, 45240), (200009, 50000), (200010, 53)] [(45160, 100000), (45240, 100001), (60000, 200000), (4, 200001), (5, 200002), (6, 200003), (7, 200004), (8, 200005), (10, 200006), (11, 200007), (12, 200008), (50000, 200009), (53, 200010)] [45160, 45240] [.d, .d, .d] LK_82_0 hC hR (fun _ => rfl) rfl rfl rfl rfl fun lpl lpf => ?_
      refine Exists.intro [(100000, .arr 4 (([] : List TMode).map row_TMode)), (100001, .arr 4 (x14.map row_TMode)), (200000, .lp lpl (LK_82_0 lpf) [.junk, .junk, .junk, .junk, .loc 200001 0 0, .loc 200002 0 0, .loc 200003 0 0, .loc 200004 0 0, .loc 200005 0 0, .junk, .loc 200006 0 0, .loc 200007 0 0, .loc 200008 0 0, .junk, .junk, .junk, .junk, .junk, .junk, .junk, .junk, .junk, .junk, .junk, .junk, .junk, .junk, .junk, .junk, .junk, .junk, .junk, .junk, .junk, .junk, .junk, .junk, .junk, .junk, .junk, .junk, .junk, .junk, .junk, .junk, .junk, .junk, .junk, .junk, .junk, .junk, .junk, .junk, .junk, .junk, .junk, .junk, .junk, .junk, .junk, .junk, .junk, .junk, .junk, .junk, .junk, .junk, .junk, .junk, .junk, .junk, .junk, .junk, .junk, .junk, .junk, .junk, .junk, .junk, .junk, .junk, .junk, .junk, .junk, .junk, .junk, .junk, .junk, .junk, .junk, .junk, .junk, .junk, .junk, .junk, .junk, .junk, .junk, .junk, .junk, .junk, .junk, .junk, .junk, .junk, .junk, .junk, .junk, .junk] 0), (200001, .var (row_TNet n1)), (200002, .var (row_LLA2I m2)), (200003, .var (row_I task3)), (200004, .var (row_I most4)), (200005, .var [.own 100000 ([] : List TMode).length]), (200006, .var (row_LLI x11)), (200007, .var (row_LLI x12)), (200008, .var [.own 100001 x14.length]), (200009, .var (row_TTask x13.2)), (200010, .var (row_TNet x13.1))] (Exists.intro (.tup []) (Exists.intro _ (Exists.intro _ (Exists.intro [.junk, .junk, .junk, .junk, .loc 4 0 0, .loc 5 0 0, .loc 6 0 0, .loc 7 0 0, .loc 8 0 0, .junk, .loc 10 0 0, .loc 11 0 0, .loc 12 0 0, .junk, .junk, .junk, .junk, .junk, .junk, .junk, .junk, .junk, .junk, .junk, .junk, .junk, .junk, .junk, .junk, .junk, .junk, .junk, .junk, .junk, .junk, .junk, .junk, .junk, .junk, .junk, .junk, .junk, .junk, .junk, .junk, .junk, .junk, .junk, .junk, .junk, .junk, .junk, .junk, .junk, .junk, .junk, .junk, .junk, .junk, .junk, .junk, .junk, .junk, .junk, .junk, .junk, .junk, .junk, .junk, .junk, .junk, .junk, .junk, .junk, .junk, .junk, .junk, .junk, .junk, .junk, .junk, .junk, .junk, .junk, .junk, .junk, .junk, .junk, .junk, .junk, .junk, .junk, .junk, .junk, .junk, .junk, .junk, .junk, .junk, .junk, .junk, .junk, .junk, .junk, .junk, .junk, .junk, .junk, .junk] (Exists.intro 0 (And.intro rfl ?_))))))
      refine And.intro (F_bind_bindings_1_ok _ _ _ _ _ _ _ _ _ _ _ _ hx14) (And.intro rfl (And.intro (bne_iff_ne.1 (show (0 != 1) = true from rfl)) ?_))
      refine atJ0 rfl ?_
      refine AK.go tab_ok hC [.n 6, .sayO 8 (.var [.own 45240 x14.length]), .n 3, .frz 45240 (x14.map row_TMode) [] [8], .keep [8] [8]] rfl ⟨⟨trivial, rfl⟩, ⟨trivial, ⟨(frzL mapLen), trivial⟩⟩⟩ ?_
      obtain rfl := Option.some.inj h
      refine AK.done ?_
      exact Exists.intro [_] (And.intro (And.intro (Exists.intro _ (Exists.intro _ (And.intro rfl (And.intro rfl (Or.inr (And.intro (tab_ok.ag rfl) rfl)))))) trivial) (gives trivial))

-- 74 baldric/bind.All
noncomputable def F_bind_All_l1 (n1 : TNet) (m2 : (List (List (Int × Int)))) (most3 : Int) (x6 : Int) (l7 : (List TMode)) : Option ((Int × (List TMode)) ⊕ (List TMode)) :=
  bif (decide (x6 < (n1.Tasks.length : Int))) then
  (F_bind_Modes n1 m2 x6 (w64 (most3 - (l7.length : Int)))).bind fun x12 =>
  (chk (decide (l7.length + x12.length ≤ 4294967296))).bind fun _ =>
  some (.inl ((w64 (x6 + 1)), (l7 ++ x12)))
  else
  some (.inr l7)

noncomputable def F_bind_All_c2 (l10 : (List TMode)) : Option (List TMode) :=
  some l10

noncomputable def F_bind_All (n1 : TNet) (m2 : (List (List (Int × Int)))) (most3 : Int) : Option (List TMode) :=
  (loopM (fun st => F_bind_All_l1 n1 m2 most3 st.1 st.2) (0, ([] : List TMode))).bind (fun q => F_bind_All_c2 q)

set_option maxRecDepth 100000 in
set_option maxHeartbeats 4000000 in
theorem F_bind_All_ok (n1 : TNet) (m2 : (List (List (Int × Int)))) (most3 : Int) {r : (List TMode)} (h : F_bind_All n1 m2 most3 = some r) : ACalls Tryz.prog 74 [.agg (row_TNet n1), .sl 1 (m2.map row_LA2I), .i .i64 most3] [] (Gives (.own 30000 r.length) [(30000, .arr 4 (r.map row_TMode))]) := by
  refine ACalls.walk 27 Tryz.func74 rfl Tryz.ntmps74 rfl fun C hC => ?_
  unfold F_bind_All at h
  refine AK.go tab_ok hC [.n 16, .o (.ln n1.Tasks.length), .n 4, .adopt 7 15 4, .sayO 15 (.arr 4 (([] : List TMode).map row_TMode)), .say 7 (.own 15 ([] : List TMode).length), .keep [1, 2, 3, 7, 11, 12] [3, 15]] rfl ⟨⟨⟨trivial, mapLen⟩, rfl⟩, (congrArg (fun n => V.own 15 n) (by simp))⟩ ?_
  obtain ⟨l10, hl14, h⟩ := bindE h
  refine AK.loop (body := (fun st => F_bind_All_l1 n1 m2 most3 st.1 st.2)) (fun st σ => σ = ⟨[(1, .sl 1 (m2.map row_LA2I)), (2, .i .i64 most3), (3, .loc 3 0 0), (7, .own 15 st.2.length), (11, .i .i64 (n1.Tasks.length : Int)), (12, .i .i64 st.1)], [(3, .var (row_TNet n1)), (15, .arr 4 (st.2.map row_TMode))]⟩) (fun q e σ => e = .exit 0 ∧ σ = ⟨[(7, .own 15 q.length)], [(15, .arr 4 (q.map row_TMode))]⟩) hl14 rfl ?_ ?_
  · rintro ⟨x6, l7⟩ o σ rfl h
    replace h : F_bind_All_l1 n1 m2 most3 x6 l7 = some o := h
    unfold F_bind_All_l1 at h
    refine AK.go tab_ok hC [.n 6] rfl trivial ?_
    rcases bifE h with ⟨hc11, h⟩ | ⟨hc11, h⟩
    · obtain ⟨x12, hx12, h⟩ := bindE h
      obtain ⟨_, hk13, h⟩ := bindE h
      replace hk13 := chkE hk13
      refine AK.go tab_ok hC [.br true, .n 12, .v .no [] (.agg (row_TNet n1)), .n 6, .o (.c false [.d, .d, .d, .d] (.sl 4 (x12.map row_TMode))), .app ((l7 ++ x12).map row_TMode) (l7 ++ x12).length, .n 8, .keep [1, 2, 3, 7, 11, 12] [3, 15]] rfl ⟨⟨⟨⟨trivial, hc11⟩, rfl⟩, (F_bind_Modes_ok _ _ _ _ hx12)⟩, ⟨mapLen, appLim hk13 mapLen, mapApps, appLn mapLen⟩⟩ ?_
      obtain rfl := Option.some.inj h
      exact rndN rfl rfl
    · refine AK.go tab_ok hC [.br false, .n 2, .keep [7] [15]] rfl ⟨trivial, hc11⟩ ?_
      obtain rfl := Option.some.inj h
      exact rndX rfl (And.intro rfl rfl)
  · replace h : F_bind_All_c2 l10 = some r := h
    unfold F_bind_All_c2 at h
    rintro e σ ⟨rfl, rfl⟩
    refine AK.go tab_ok hC [.n 9, .keep [6] [15], .ren 15 30000, .keep [6] [30000]] rfl trivial ?_
    obtain rfl := Option.some.inj h
    refine AK.done ?_
    exact Exists.intro [_] (And.intro (And.intro rfl trivial) (gives ⟨rfl, trivial⟩))

-- 118 slices.Equal[[]int,int]
noncomputable def F_slices_Equal_int_int_l1 (s1 : (List Int)) (s2 : (List Int)) (x6 : Int) : Option (Int ⊕ (Unit ⊕ Unit)) :=
  bif (decide (x6 < (s1.length : Int))) then
  (idx s1 x6).bind fun e9 =>
  (idx s2 x6).bind fun e10 =>
  bif (e9 != e10) then
  some (.inr (.inl ()))
  else
  some (.inl (w64 (x6 + 1)))
  else
  some (.inr (.inr ()))

noncomputable def F_slices_Equal_int_int_c2 : Option Bool :=
  some false

noncomputable def F_slices_Equal_int_int_c3 : Option Bool :=
  some true

noncomputable def F_slices_Equal_int_int (s1 : (List Int)) (s2 : (List Int)) : Option Bool :=
  bif ((s1.length : Int) != (s2.length : Int)) then
  some false
  else
  (loopM (fun st => F_slices_Equal_int_int_l1 s1 s2 st) 0).bind (Sum.elim (fun q => F_slices_Equal_int_int_c2) (fun q => F_slices_Equal_int_int_c3))

set_option maxRecDepth 100000 in
set_option maxHeartbeats 4000000 in
theorem F_slices_Equal_int_int_ok (s1 : (List Int)) (s2 : (List Int)) {r : Bool} (h : F_slices_Equal_int_int s1 s2 = some r) : ACalls Tryz.prog 118 [.sl 1 (s1.map row_I), .sl 1 (s2.map row_I)] [] (Gives (.b r) []) := by
  refine ACalls.walk 26 Tryz.func118 rfl Tryz.ntmps118 rfl fun C hC => ?_
  unfold F_slices_Equal_int_int at h
  refine AK.go tab_ok hC [.n 9, .o (.ln s1.length), .n 1, .o (.ln s2.length), .n 3] rfl ⟨⟨trivial, mapLen⟩, mapLen⟩ ?_
  rcases bifE h with ⟨hc5, h⟩ | ⟨hc5, h⟩
  · refine AK.go tab_ok hC [.br true, .n 7, .keep [4] []] rfl ⟨trivial, hc5⟩ ?_
    obtain rfl := Option.some.inj h
    refine AK.done ?_
    exact Exists.intro [_] (And.intro (And.intro rfl trivial) (gives trivial))
  · refine AK.go tab_ok hC [.br false, .n 6, .o (.ln s1.length), .n 4, .keep [0, 1, 12, 13] []] rfl ⟨⟨trivial, hc5⟩, mapLen⟩ ?_
    obtain ⟨o12, hl12, h⟩ := bindE h
    refine AK.loop (body := (fun st => F_slices_Equal_int_int_l1 s1 s2 st)) (fun st σ => σ = ⟨[(0, .sl 1 (s1.map row_I)), (1, .sl 1 (s2.map row_I)), (12, .i .i64 (s1.length : Int)), (13, .i .i64 st)], []⟩) (Sum.elim (fun q e σ => e = .ret ∧ σ = ⟨[(4, .b false)], []⟩) (fun q e σ => e = .exit 0 ∧ σ = ⟨[], []⟩)) hl12 rfl ?_ ?_
    · rintro x6 o σ rfl h
      replace h : F_slices_Equal_int_int_l1 s1 s2 x6 = some o := h
      unfold F_slices_Equal_int_int_l1 at h
      refine AK.go tab_ok hC [.n 6] rfl trivial ?_
      rcases bifE h with ⟨hc8, h⟩ | ⟨hc8, h⟩
      · obtain ⟨e9, he9, h⟩ := bindE h
        obtain ⟨e10, he10, h⟩ := bindE h
        refine AK.go tab_ok hC [.br true, .n 11, .keep [0, 1, 5, 12, 13] []] rfl ⟨trivial, hc8⟩ ?_
        refine AK.draw2 tab_ok hC mixed [.a .no none false, .a .no none false, .a (.row (row_I e9)) none false, .a .no none false, .a .no none false, .a .no none false, .a (.row (row_I e10)) none false, .a .no none false, .a .no none false] [] [] [0, 1, 12, 13, 24] [] rfl rfl rfl ⟨⟨trivial, (idxM he9)⟩, (idxM he10)⟩ rfl (by kernel_rfl) rfl rfl rfl ?_
        refine AK.go tab_ok hC [.n 1] rfl trivial ?_
        rcases bifE h with ⟨hc11, h⟩ | ⟨hc11, h⟩
        · refine AK.go tab_ok hC [.br true, .n 8, .keep [4] []] rfl ⟨trivial, hc11⟩ ?_
          obtain rfl := Option.some.inj h
          exact rndR rfl (And.intro rfl rfl)
        · refine AK.go tab_ok hC [.br false, .n 7, .keep [0, 1, 12, 13] []] rfl ⟨trivial, hc11⟩ ?_
          obtain rfl := Option.some.inj h
          exact rndN rfl rfl
      · refine AK.go tab_ok hC [.br false, .n 2, .keep [] []] rfl ⟨trivial, hc8⟩ ?_
        obtain rfl := Option.some.inj h
        exact rndX rfl (And.intro rfl rfl)
    · rcases o12 with (_ | _)
      · replace h : F_slices_Equal_int_int_c2 = some r := h
        unfold F_slices_Equal_int_int_c2 at h
        rintro e σ ⟨rfl, rfl⟩
        refine AK.go tab_ok hC [.n 2, .keep [4] []] rfl trivial ?_
        obtain rfl := Option.some.inj h
        refine AK.done ?_
        exact Exists.intro [_] (And.intro (And.intro rfl trivial) (gives trivial))
      · replace h : F_slices_Equal_int_int_c3 = some r := h
        unfold F_slices_Equal_int_int_c3 at h
        rintro e σ ⟨rfl, rfl⟩
        refine AK.go tab_ok hC [.n 8, .keep [4] []] rfl trivial ?_
        obtain rfl := Option.some.inj h
        refine AK.done ?_
        exact Exists.intro [_] (And.intro (And.intro rfl trivial) (gives trivial))

-- 117 baldric/bind.chosen$1
noncomputable def F_bind_chosen_1 (p1 : (List Int)) (v2 : (List Int)) : Option Bool :=
  (F_slices_Equal_int_int p1 v2).bind fun x4 =>
  some x4

set_option maxRecDepth 100000 in
set_option maxHeartbeats 4000000 in
theorem F_bind_chosen_1_ok (p1 : (List Int)) (v2 : (List Int)) {r : Bool} (h : F_bind_chosen_1 p1 v2 = some r) : ACalls Tryz.prog 117 [.sl 1 (p1.map row_I), .loc 200000 0 0] [(200000, .var (row_LI v2))] (Gives (.b r) [(200000, .var (row_LI v2))]) := by
  refine ACalls.walk 7 Tryz.func117 rfl Tryz.ntmps117 rfl fun C hC => ?_
  unfold F_bind_chosen_1 at h
  obtain ⟨x4, hx4, h⟩ := bindE h
  refine AK.go tab_ok hC [.n 9, .o (.c false [.d, .d] (.b x4)), .n 4, .keep [3] [200000]] rfl ⟨trivial, (F_slices_Equal_int_int_ok _ _ hx4)⟩ ?_
  obtain rfl := Option.some.inj h
  refine AK.done ?_
  exact Exists.intro [_] (And.intro (And.intro rfl trivial) (gives ⟨rfl, trivial⟩))

-- 113 slices.IndexFunc[[][]int,[]int]
noncomputable def F_slices_IndexFunc_int_int_v3_l1 (s1 : (List (List Int))) (v2 : (List Int)) (x5 : Int) : Option (Int ⊕ (Int ⊕ Unit)) :=
  bif (decide (x5 < (s1.length : Int))) then
  (idx s1 x5).bind fun e9 =>
  (F_bind_chosen_1 e9 v2).bind fun x10 =>
  bif x10 then
  some (.inr (.inl x5))
  else
  some (.inl (w64 (x5 + 1)))
  else
  some (.inr (.inr ()))

noncomputable def F_slices_IndexFunc_int_int_v3_c2 (x7 : Int) : Option Int :=
  some x7

noncomputable def F_slices_IndexFunc_int_int_v3_c3 : Option Int :=
  some (-1)

noncomputable def F_slices_IndexFunc_int_int_v3 (s1 : (List (List Int))) (v2 : (List Int)) : Option Int :=
  (loopM (fun st => F_slices_IndexFunc_int_int_v3_l1 s1 v2 st) 0).bind (Sum.elim (fun q => F_slices_IndexFunc_int_int_v3_c2 q) (fun q => F_slices_IndexFunc_int_int_v3_c3))

set_option maxRecDepth 100000 in
set_option maxHeartbeats 4000000 in
theorem F_slices_IndexFunc_int_int_v3_ok (s1 : (List (List Int))) (v2 : (List Int)) {r : Int} (h : F_slices_IndexFunc_int_int_v3 s1 v2 = some r) : ACalls Tryz.prog 113 [.sl 1 (s1.map row_LI), .clo (.func 117) [] [.loc 200000 0 0]] [(200000, .var (row_LI v2))] (Gives (.i .i64 r) [(200000, .var (row_LI v2))]) := by
  refine ACalls.walk 19 Tryz.func113 rfl Tryz.ntmps113 rfl fun C hC => ?_
  unfold F_slices_IndexFunc_int_int_v3 at h
  refine AK.go tab_ok hC [.n 9, .o (.ln s1.length), .n 4, .keep [0, 1, 7, 8] [200000]] rfl ⟨trivial, mapLen⟩ ?_
  obtain ⟨o12, hl12, h⟩ := bindE h
  refine AK.loop (body := (fun st => F_slices_IndexFunc_int_int_v3_l1 s1 v2 st)) (fun st σ => σ = ⟨[(0, .sl 1 (s1.map row_LI)), (1, .clo (.func 117) [] [.loc 200000 0 0]), (7, .i .i64 (s1.length : Int)), (8, .i .i64 st)], [(200000, .var (row_LI v2))]⟩) (Sum.elim (fun q e σ => e = .ret ∧ σ = ⟨[(4, .i .i64 q)], [(200000, .var (row_LI v2))]⟩) (fun q e σ => e = .exit 0 ∧ σ = ⟨[], [(200000, .var (row_LI v2))]⟩)) hl12 rfl ?_ ?_
  · rintro x5 o σ rfl h
    replace h : F_slices_IndexFunc_int_int_v3_l1 s1 v2 x5 = some o := h
    unfold F_slices_IndexFunc_int_int_v3_l1 at h
    refine AK.go tab_ok hC [.n 6] rfl trivial ?_
    rcases bifE h with ⟨hc8, h⟩ | ⟨hc8, h⟩
    · obtain ⟨e9, he9, h⟩ := bindE h
      obtain ⟨x10, hx10, h⟩ := bindE h
      refine AK.go tab_ok hC [.br true, .n 15, .o (.row (row_LI e9)), .n 1, .cm (.clo) [(200000, 200000)] [(200000, 200000)] [] [.d, .d] [(200000, .var (row_LI v2))] (.b x10), .n 2] rfl ⟨⟨⟨trivial, hc8⟩, (idxM he9)⟩, (F_bind_chosen_1_ok _ _ hx10)⟩ ?_
      rcases bifE h with ⟨hc11, h⟩ | ⟨hc11, h⟩
      · refine AK.go tab_ok hC [.br true, .n 9, .keep [4] [200000]] rfl ⟨trivial, hc11⟩ ?_
        obtain rfl := Option.some.inj h
        exact rndR rfl (And.intro rfl rfl)
      · refine AK.go tab_ok hC [.br false, .n 7, .keep [0, 1, 7, 8] [200000]] rfl ⟨trivial, hc11⟩ ?_
        obtain rfl := Option.some.inj h
        exact rndN rfl rfl
    · refine AK.go tab_ok hC [.br false, .n 2, .keep [] [200000]] rfl ⟨trivial, hc8⟩ ?_
      obtain rfl := Option.some.inj h
      exact rndX rfl (And.intro rfl rfl)
  · rcases o12 with (x7 | _)
    · replace h : F_slices_IndexFunc_int_int_v3_c2 x7 = some r := h
      unfold F_slices_IndexFunc_int_int_v3_c2 at h
      rintro e σ ⟨rfl, rfl⟩
      refine AK.go tab_ok hC [.n 2, .keep [4] [200000]] rfl trivial ?_
      obtain rfl := Option.some.inj h
      refine AK.done ?_
      exact Exists.intro [_] (And.intro (And.intro rfl trivial) (gives ⟨rfl, trivial⟩))
    · replace h : F_slices_IndexFunc_int_int_v3_c3 = some r := h
      unfold F_slices_IndexFunc_int_int_v3_c3 at h
      rintro e σ ⟨rfl, rfl⟩
      refine AK.go tab_ok hC [.n 8, .keep [4] [200000]] rfl trivial ?_
      obtain rfl := Option.some.inj h
      refine AK.done ?_
      exact Exists.intro [_] (And.intro (And.intro rfl trivial) (gives ⟨rfl, trivial⟩))

-- 116 slices.ContainsFunc[[][]int,[]int]
noncomputable def F_slices_ContainsFunc_int_int (s1 : (List (List Int))) (v2 : (List Int)) : Option Bool :=
  (F_slices_IndexFunc_int_int_v3 s1 v2).bind fun x4 =>
  some (decide (0 ≤ x4))

set_option maxRecDepth 100000 in
set_option maxHeartbeats 4000000 in
theorem F_slices_ContainsFunc_int_int_ok (s1 : (List (List Int))) (v2 : (List Int)) {r : Bool} (h : F_slices_ContainsFunc_int_int s1 v2 = some r) : ACalls Tryz.prog 116 [.sl 1 (s1.map row_LI), .clo (.func 117) [] [.loc 200000 0 0]] [(200000, .var (row_LI v2))] (Gives (.b r) [(200000, .var (row_LI v2))]) := by
  refine ACalls.walk 9 Tryz.func116 rfl Tryz.ntmps116 rfl fun C hC => ?_
  unfold F_slices_ContainsFunc_int_int at h
  obtain ⟨x4, hx4, h⟩ := bindE h
  refine AK.go tab_ok hC [.n 9, .cm (.fn) [(200000, 200000)] [(200000, 200000)] [] [.d, .d] [(200000, .var (row_LI v2))] (.i .i64 x4), .n 5, .keep [4] [200000]] rfl ⟨trivial, (F_slices_IndexFunc_int_int_v3_ok _ _ hx4)⟩ ?_
  obtain rfl := Option.some.inj h
  refine AK.done ?_
  exact Exists.intro [_] (And.intro (And.intro rfl trivial) (gives ⟨rfl, trivial⟩))

-- 101 baldric/bind.chosen
noncomputable def F_bind_chosen (kind1 : Int) (arcs2 : Int) (row3 : (List Int)) : Option Bool :=
  (F_bind_Choices kind1 arcs2).bind fun x5 =>
  (F_slices_ContainsFunc_int_int x5 row3).bind fun x6 =>
  some x6

set_option maxRecDepth 100000 in
set_option maxHeartbeats 4000000 in
theorem F_bind_chosen_ok (kind1 : Int) (arcs2 : Int) (row3 : (List Int)) {r : Bool} (h : F_bind_chosen kind1 arcs2 row3 = some r) : ACalls Tryz.prog 101 [.i .i64 kind1, .i .i64 arcs2, .sl 1 (row3.map row_I)] [] (Gives (.b r) []) := by
  refine ACalls.walk 12 Tryz.func101 rfl Tryz.ntmps101 rfl fun C hC => ?_
  unfold F_bind_chosen at h
  obtain ⟨x5, hx5, h⟩ := bindE h
  obtain ⟨x6, hx6, h⟩ := bindE h
  refine AK.go tab_ok hC [.n 10, .o (.co false [.d, .d] 1 (x5.map row_LI) x5.length), .n 1, .frz 9 (x5.map row_LI) [9] [], .cm (.fn) [(200000, 5)] [(5, 200000)] [] [.d, .d] [(200000, .var (row_LI row3))] (.b x6), .n 4, .keep [6] []] rfl ⟨⟨⟨trivial, ⟨(F_bind_Choices_ok _ _ hx5), mapLen, .inl rfl⟩⟩, ⟨trivial, (frzL mapLen)⟩⟩, (F_slices_ContainsFunc_int_int_ok _ _ hx6)⟩ ?_
  obtain rfl := Option.some.inj h
  refine AK.done ?_
  exact Exists.intro [_] (And.intro (And.intro rfl trivial) (gives trivial))

-- 83 baldric/bind.Check
noncomputable def F_bind_Check_g1 (x5 : (Int × Tbind_binder)) (o3 : TMode) : Option Bool :=
  (F_bind_chosen x5.2.task.Join (x5.2.task.Ins.length : Int) o3.Ins).bind fun x10 =>
  bif (!x10) then
  some true
  else
  (F_bind_chosen x5.2.task.Split (x5.2.task.Outs.length : Int) o3.Outs).bind fun x12 =>
  some (!x12)

noncomputable def F_bind_Check_k2 (x5 : (Int × Tbind_binder)) (o3 : TMode) (x8 : Bool) : Option Int :=
  bif x8 then
  none
  else
  (F_bind_binder_takes x5.2 o3.Ins).bind fun x14 =>
  bif (x14 != 0) then
  none
  else
  (F_bind_binder_gives x5.2 o3.Outs).bind fun x16 =>
  some x16

noncomputable def F_bind_Check_k3 (x5 : (Int × Tbind_binder)) (o3 : TMode) (err6 : Int) : Option Int :=
  bif (err6 != 0) then
  none
  else
  (F_bind_Check_g1 x5 o3).bind (fun x8 => F_bind_Check_k2 x5 o3 x8)

noncomputable def F_bind_Check (n1 : TNet) (m2 : (List (List (Int × Int)))) (o3 : TMode) : Option Int :=
  (F_bind_bound n1 m2 o3.Task o3.Vars).bind fun x5 =>
  bif (x5.1 == 0) then
  (F_bind_binder_guarded x5.2).bind fun x18 =>
  F_bind_Check_k3 x5 o3 x18
  else
  F_bind_Check_k3 x5 o3 x5.1

set_option maxRecDepth 100000 in
set_option maxHeartbeats 4000000 in
theorem F_bind_Check_ok (n1 : TNet) (m2 : (List (List (Int × Int)))) (o3 : TMode) {r : Int} (h : F_bind_Check n1 m2 o3 = some r) : ACalls Tryz.prog 83 [.agg (row_TNet n1), .sl 1 (m2.map row_LA2I), .agg (row_TMode o3)] [] (Gives (.i .i64 r) []) := by
  refine ACalls.walk 62 Tryz.func83 rfl Tryz.ntmps83 rfl fun C hC => ?_
  unfold F_bind_Check at h
  obtain ⟨x5, hx5, h⟩ := bindE h
  refine AK.go tab_ok hC [.n 9, .v .no [] (.agg (row_TNet n1)), .n 5, .o (.c false [.d, .d, .d, .d] (.tup [.agg (row_Tbind_binder x5.2), .i .i64 x5.1])), .n 5, .sayO 7 (.var (row_Tbind_binder x5.2)), .n 3] rfl ⟨⟨⟨trivial, rfl⟩, (F_bind_bound_ok _ _ _ _ hx5)⟩, rfl⟩ ?_
  refine AK.meet (fun σ => ∃ err6 : Int, σ = ⟨[(5, .loc 5 0 0), (7, .loc 7 0 0), (8, .i .i64 err6)], [(5, .var (row_TMode o3)), (7, .var (row_Tbind_binder x5.2))]⟩ ∧ F_bind_Check_k3 x5 o3 err6 = some r) ?_ ?_
  · refine AK.go tab_ok hC [.n 6] rfl trivial ?_
    rcases bifE h with ⟨hc17, h⟩ | ⟨hc17, h⟩
    · obtain ⟨x18, hx18, h⟩ := bindE h
      refine AK.go tab_ok hC [.br true, .n 1, .v .no [] (.agg (row_Tbind_binder x5.2)), .o (.c false [.d] (.i .i64 x18)), .n 2, .keep [5, 7, 8] [5, 7]] rfl ⟨⟨⟨trivial, hc17⟩, rfl⟩, (F_bind_binder_guarded_ok _ hx18)⟩ ?_
      exact AK.met (Exists.intro _ (And.intro rfl h))
    · refine AK.go tab_ok hC [.br false, .n 1, .keep [5, 7, 8] [5, 7]] rfl ⟨trivial, hc17⟩ ?_
      exact AK.met (Exists.intro _ (And.intro rfl h))
  · rintro σ ⟨err6, rfl, h⟩
    unfold F_bind_Check_k3 at h
    refine AK.go tab_ok hC [.n 7] rfl trivial ?_
    rcases bifE h with ⟨hc7, h⟩ | ⟨hc7, h⟩
    · refine AK.go tab_ok hC [.br true, .n 1] rfl ⟨trivial, hc7⟩ ?_
      cases h
    · refine AK.go tab_ok hC [.br false, .n 4] rfl ⟨trivial, hc7⟩ ?_
      obtain ⟨x8, hv9, h⟩ := bindE h
      replace h : F_bind_Check_k2 x5 o3 x8 = some r := h
      refine AK.meetX (fun σ => σ = ⟨[(5, .loc 5 0 0), (7, .loc 7 0 0), (50, .b x8)], [(5, .var (row_TMode o3)), (7, .var (row_Tbind_binder x5.2))]⟩) ?_ ?_
      · replace h := hv9
        unfold F_bind_Check_g1 at h
        obtain ⟨x10, hx10, h⟩ := bindE h
        refine AK.go tab_ok hC [.n 7, .o (.ln x5.2.task.Ins.length), .n 2, .o (.c false [.d, .d, .d] (.b x10)), .n 2] rfl ⟨⟨trivial, mapLen⟩, (F_bind_chosen_ok _ _ _ hx10)⟩ ?_
        rcases bifE h with ⟨hc11, h⟩ | ⟨hc11, h⟩
        · refine AK.go tab_ok hC [.say 38 (.b true), .n 13, .keep [5, 7, 50] [5, 7]] rfl ⟨trivial, (congrArg V.b hc11)⟩ ?_
          obtain rfl := Option.some.inj h
          exact AK.met rfl
        · obtain ⟨x12, hx12, h⟩ := bindE h
          refine AK.go tab_ok hC [.say 38 (.b false), .n 6, .o (.ln x5.2.task.Outs.length), .n 2, .o (.c false [.d, .d, .d] (.b x12)), .n 3, .keep [5, 7, 50] [5, 7]] rfl ⟨⟨⟨trivial, (congrArg V.b hc11)⟩, mapLen⟩, (F_bind_chosen_ok _ _ _ hx12)⟩ ?_
          obtain rfl := Option.some.inj h
          exact AK.met rfl
      · rintro σ rfl
        replace h : F_bind_Check_k2 x5 o3 x8 = some r := h
        unfold F_bind_Check_k2 at h
        refine AK.go tab_ok hC [.n 1] rfl trivial ?_
        rcases bifE h with ⟨hc13, h⟩ | ⟨hc13, h⟩
        · refine AK.go tab_ok hC [.br true, .n 1] rfl ⟨trivial, hc13⟩ ?_
          cases h
        · obtain ⟨x14, hx14, h⟩ := bindE h
          refine AK.go tab_ok hC [.br false, .n 5, .v .no [] (.agg (row_Tbind_binder x5.2)), .n 2, .o (.c false [.d, .d] (.i .i64 x14)), .n 9] rfl ⟨⟨⟨trivial, hc13⟩, rfl⟩, (F_bind_binder_takes_ok _ _ hx14)⟩ ?_
          rcases bifE h with ⟨hc15, h⟩ | ⟨hc15, h⟩
          · refine AK.go tab_ok hC [.br true, .n 1] rfl ⟨trivial, hc15⟩ ?_
            cases h
          · obtain ⟨x16, hx16, h⟩ := bindE h
            refine AK.go tab_ok hC [.br false, .n 4, .v .no [] (.agg (row_Tbind_binder x5.2)), .n 2, .o (.c false [.d, .d] (.i .i64 x16)), .n 4, .keep [6] []] rfl ⟨⟨⟨trivial, hc15⟩, rfl⟩, (F_bind_binder_gives_ok _ _ hx16)⟩ ?_
            obtain rfl := Option.some.inj h
            refine AK.done ?_
            exact Exists.intro [_] (And.intro (And.intro rfl trivial) (gives trivial))

-- 75 baldric/orjoin.Ready
noncomputable def F_orjoin_Ready (n1 : TNet) (m2 : (List (List (Int × Int)))) (o3 : TMode) (budget4 : Int) : Option Int :=
  (F_bind_Check n1 m2 o3).bind fun x6 =>
  bif (x6 != 0) then
  none
  else
  (idx n1.Tasks o3.Task).bind fun e8 =>
  bif (e8.Join != 3) then
  some 1
  else
  none

set_option maxRecDepth 100000 in
set_option maxHeartbeats 4000000 in
theorem F_orjoin_Ready_ok (n1 : TNet) (m2 : (List (List (Int × Int)))) (o3 : TMode) (budget4 : Int) {r : Int} (h : F_orjoin_Ready n1 m2 o3 budget4 = some r) : ACalls Tryz.prog 75 [.agg (row_TNet n1), .sl 1 (m2.map row_LA2I), .agg (row_TMode o3), .i .i64 budget4] [] (Gives (.i .i64 r) []) := by
  refine ACalls.walk 30 Tryz.func75 rfl Tryz.ntmps75 rfl fun C hC => ?_
  unfold F_orjoin_Ready at h
  obtain ⟨x6, hx6, h⟩ := bindE h
  refine AK.go tab_ok hC [.n 11, .v .no [] (.agg (row_TNet n1)), .n 1, .v .no [] (.agg (row_TMode o3)), .o (.c false [.d, .d, .d] (.i .i64 x6)), .n 4] rfl ⟨⟨⟨trivial, rfl⟩, rfl⟩, (F_bind_Check_ok _ _ _ hx6)⟩ ?_
  rcases bifE h with ⟨hc7, h⟩ | ⟨hc7, h⟩
  · refine AK.go tab_ok hC [.br true, .n 1] rfl ⟨trivial, hc7⟩ ?_
    cases h
  · obtain ⟨e8, he8, h⟩ := bindE h
    refine AK.go tab_ok hC [.br false, .n 6, .o (.row (row_TTask e8)), .n 6] rfl ⟨⟨trivial, hc7⟩, (idxM he8)⟩ ?_
    rcases bifE h with ⟨hc9, h⟩ | ⟨hc9, h⟩
    · refine AK.go tab_ok hC [.br true, .n 8, .keep [8] []] rfl ⟨trivial, hc9⟩ ?_
      obtain rfl := Option.some.inj h
      refine AK.done ?_
      exact Exists.intro [_] (And.intro (And.intro rfl trivial) (gives trivial))
    · refine AK.go tab_ok hC [.br false, .n 4] rfl ⟨trivial, hc9⟩ ?_
      cases h

-- 60 baldric/orjoin.Fair
noncomputable def F_orjoin_Fair_k1 (known10 : Bool) (x11 : Int) (l21 : (List TMode)) (m22 : (List (Int × Int))) : Option ((Bool × Int × (List TMode) × (List (Int × Int))) ⊕ (Bool × (List TMode))) :=
  some (.inl (known10, (w64 (x11 + 1)), l21, m22))

noncomputable def F_orjoin_Fair_k2 (e23 : TMode) (l12 : (List TMode)) (known10 : Bool) (x11 : Int) (m24 : (List (Int × Int))) : Option ((Bool × Int × (List TMode) × (List (Int × Int))) ⊕ (Bool × (List TMode))) :=
  bif (((mget m24 e23.Task).getD 0) == 1) then
  (chk (decide (l12.length + ([e23] : List TMode).length ≤ 4294967296))).bind fun _ =>
  F_orjoin_Fair_k1 known10 x11 (l12 ++ ([e23] : List TMode)) m24
  else
  bif (((mget m24 e23.Task).getD 0) == 2) then
  none
  else
  F_orjoin_Fair_k1 known10 x11 l12 m24

noncomputable def F_orjoin_Fair_l3 (x7 : (List TMode)) (n1 : TNet) (m2 : (List (List (Int × Int)))) (budget3 : Int) (known10 : Bool) (x11 : Int) (l12 : (List TMode)) (m13 : (List (Int × Int))) : Option ((Bool × Int × (List TMode) × (List (Int × Int))) ⊕ (Bool × (List TMode))) :=
  bif (decide (x11 < (x7.length : Int))) then
  (idx x7 x11).bind fun e23 =>
  bif (!(mget m13 e23.Task).isSome) then
  (F_orjoin_Ready n1 m2 e23 budget3).bind fun x29 =>
  F_orjoin_Fair_k2 e23 l12 known10 x11 (mset ltI m13 e23.Task x29)
  else
  F_orjoin_Fair_k2 e23 l12 known10 x11 m13
  else
  some (.inr (known10, l12))

noncomputable def F_orjoin_Fair_c4 (known18 : Bool) (l19 : (List TMode)) : Option ((List TMode) × Bool) :=
  some (l19, known18)

noncomputable def F_orjoin_Fair (n1 : TNet) (m2 : (List (List (Int × Int)))) (budget3 : Int) (most4 : Int) : Option ((List TMode) × Bool) :=
  (F_bind_All n1 m2 most4).bind fun x7 =>
  (loopM (fun st => F_orjoin_Fair_l3 x7 n1 m2 budget3 st.1 st.2.1 st.2.2.1 st.2.2.2) (true, 0, ([] : List TMode), ([] : (List (Int × Int))))).bind (fun q => F_orjoin_Fair_c4 q.1 q.2)

set_option maxRecDepth 100000 in
set_option maxHeartbeats 4000000 in
theorem F_orjoin_Fair_ok (n1 : TNet) (m2 : (List (List (Int × Int)))) (budget3 : Int) (most4 : Int) {r : ((List TMode) × Bool)} (h : F_orjoin_Fair n1 m2 budget3 most4 = some r) : ACalls Tryz.prog 60 [.agg (row_TNet n1), .sl 1 (m2.map row_LA2I), .i .i64 budget3, .i .i64 most4] [] (Gives (.tup [.sl 4 (r.1.map row_TMode), .b r.2]) []) := by
  refine ACalls.walk 59 Tryz.func60 rfl Tryz.ntmps60 rfl fun C hC => ?_
  unfold F_orjoin_Fair at h
  obtain ⟨x7, hx7, h⟩ := bindE h
  refine AK.go tab_ok hC [.n 20, .sayO 17 (.map (mapV (V.i .i64) (V.i .i64) ([] : (List (Int × Int))))), .n 6, .v .no [] (.agg (row_TNet n1)), .n 2, .o (.co false [.d, .d, .d] 4 (x7.map row_TMode) x7.length), .n 5, .adopt 10 50 4, .sayO 50 (.arr 4 (([] : List TMode).map row_TMode)), .say 10 (.own 50 ([] : List TMode).length), .keep [1, 2, 4, 10, 11, 12, 21, 22, 23] [4, 17, 21, 50]] rfl ⟨⟨⟨⟨⟨trivial, rfl⟩, rfl⟩, ⟨(F_bind_All_ok _ _ _ hx7), mapLen, .inl rfl⟩⟩, rfl⟩, (congrArg (fun n => V.own 50 n) (by simp))⟩ ?_
  obtain ⟨o30, hl30, h⟩ := bindE h
  refine AK.loop (body := (fun st => F_orjoin_Fair_l3 x7 n1 m2 budget3 st.1 st.2.1 st.2.2.1 st.2.2.2)) (fun st σ => σ = ⟨[(1, .sl 1 (m2.map row_LA2I)), (2, .i .i64 budget3), (4, .loc 4 0 0), (10, .own 50 st.2.2.1.length), (11, .b st.1), (12, .map 17), (21, .own 21 x7.length), (22, .i .i64 (x7.length : Int)), (23, .i .i64 st.2.1)], [(4, .var (row_TNet n1)), (17, .map (mapV (V.i .i64) (V.i .i64) st.2.2.2)), (21, .arr 4 (x7.map row_TMode)), (50, .arr 4 (st.2.2.1.map row_TMode))]⟩) (fun q e σ => e = .exit 0 ∧ σ = ⟨[(10, .own 50 q.2.length), (11, .b q.1)], [(50, .arr 4 (q.2.map row_TMode))]⟩) hl30 rfl ?_ ?_
  · rintro ⟨known10, x11, l12, m13⟩ o σ rfl h
    replace h : F_orjoin_Fair_l3 x7 n1 m2 budget3 known10 x11 l12 m13 = some o := h
    unfold F_orjoin_Fair_l3 at h
    refine AK.go tab_ok hC [.n 6] rfl trivial ?_
    rcases bifE h with ⟨hc20, h⟩ | ⟨hc20, h⟩
    · refine AK.go tab_ok hC [.br true, .n 2] rfl ⟨trivial, hc20⟩ ?_
      refine AK.meet (fun σ => ∃ l21 : (List TMode), ∃ m22 : (List (Int × Int)), σ = ⟨[(1, .sl 1 (m2.map row_LA2I)), (2, .i .i64 budget3), (4, .loc 4 0 0), (10, .own 50 l21.length), (11, .b known10), (12, .map 17), (21, .own 21 x7.length), (22, .i .i64 (x7.length : Int)), (23, .i .i64 x11)], [(4, .var (row_TNet n1)), (17, .map (mapV (V.i .i64) (V.i .i64) m22)), (21, .arr 4 (x7.map row_TMode)), (50, .arr 4 (l21.map row_TMode))]⟩ ∧ F_orjoin_Fair_k1 known10 x11 l21 m22 = some o) ?_ ?_
      · obtain ⟨e23, he23, h⟩ := bindE h
        refine AK.go tab_ok hC [.n 4, .v (.row (row_TMode e23)) [] (.agg (row_TMode e23)), .n 2, .sayO 14 (.var (row_TMode e23)), .n 2] rfl ⟨⟨⟨⟨trivial, (idxOw he23 rfl)⟩, (mapGet (idxE he23).2)⟩, rfl⟩, rfl⟩ ?_
        refine AK.meet (fun σ => ∃ m24 : (List (Int × Int)), σ = ⟨[(1, .sl 1 (m2.map row_LA2I)), (2, .i .i64 budget3), (4, .loc 4 0 0), (10, .own 50 l12.length), (11, .b known10), (12, .map 17), (14, .loc 14 0 0), (21, .own 21 x7.length), (22, .i .i64 (x7.length : Int)), (23, .i .i64 x11)], [(4, .var (row_TNet n1)), (14, .var (row_TMode e23)), (17, .map (mapV (V.i .i64) (V.i .i64) m24)), (21, .arr 4 (x7.map row_TMode)), (50, .arr 4 (l12.map row_TMode))]⟩ ∧ F_orjoin_Fair_k2 e23 l12 known10 x11 m24 = some o) ?_ ?_
        · refine AK.go tab_ok hC [.n 5, .o (.any (.tup [.i .i64 ((mget m13 e23.Task).getD 0), .b (mget m13 e23.Task).isSome]) none), .n 13] rfl ⟨trivial, (fun σ h1 h2 _ => Stp.lookupOk (e := (V.i .i64)) (f := (V.i .i64)) (l := m13) (k := e23.Task) (z := 0) rfl rfl (hC ▸ rfl) (h1 _ _ rfl) (h2 _ _ rfl) (h1 _ _ rfl) mt_58 ky_3 zi_3 rfl rfl)⟩ ?_
          rcases bifE h with ⟨hc28, h⟩ | ⟨hc28, h⟩
          · obtain ⟨x29, hx29, h⟩ := bindE h
            refine AK.go tab_ok hC [.br true, .keep [1, 2, 4, 10, 11, 12, 14, 21, 22, 23] [4, 14, 17, 21, 50]] rfl ⟨trivial, hc28⟩ ?_
            refine AK.draw2 tab_ok hC mixed [.a .no none false, .a .no none false, .a .no none false, .a .no (some ([], .agg (row_TNet n1))) false, .a .no none false, .a .no (some ([], .agg (row_TMode e23))) false, .a .no none false, .a (.c false [.d, .d, .d, .d] (.i .i64 x29)) none false, .m (.any ⟨[], [(17, .map (mapV (V.i .i64) (V.i .i64) (mset ltI m13 e23.Task x29)))], none⟩)] [] [] [1, 2, 4, 10, 11, 12, 14, 21, 22, 23] [4, 14, 17, 21, 50] rfl rfl rfl ⟨⟨⟨⟨trivial, rfl⟩, rfl⟩, (F_orjoin_Ready_ok _ _ _ _ hx29)⟩, (fun σ h1 h2 => Stp.mapUpdate (e := (V.i .i64)) (f := (V.i .i64)) (l := m13) (k := e23.Task) (v := x29) ltI rfl rfl (h1 _ _ rfl) (h2 _ _ rfl) (h1 _ _ rfl) (h1 _ _ rfl) mt_58 ky_3 rfl)⟩ rfl (by kernel_rfl) rfl rfl rfl ?_
            refine AK.go tab_ok hC [.keep [1, 2, 4, 10, 11, 12, 14, 21, 22, 23] [4, 14, 17, 21, 50]] rfl trivial ?_
            exact AK.met (Exists.intro _ (And.intro rfl h))
          · refine AK.go tab_ok hC [.br false, .n 1, .keep [1, 2, 4, 10, 11, 12, 14, 21, 22, 23] [4, 14, 17, 21, 50]] rfl ⟨trivial, hc28⟩ ?_
            exact AK.met (Exists.intro _ (And.intro rfl h))
        · rintro σ ⟨m24, rfl, h⟩
          unfold F_orjoin_Fair_k2 at h
          refine AK.go tab_ok hC [.n 5, .o (.any (.i .i64 ((mget m24 e23.Task).getD 0)) none), .n 9] rfl ⟨trivial, (fun σ h1 h2 _ => Stp.lookup (e := (V.i .i64)) (f := (V.i .i64)) (l := m24) (k := e23.Task) (z := 0) rfl rfl (hC ▸ rfl) (h1 _ _ rfl) (h2 _ _ rfl) (h1 _ _ rfl) mt_58 ky_3 zi_3 rfl)⟩ ?_
          rcases bifE h with ⟨hc25, h⟩ | ⟨hc25, h⟩
          · obtain ⟨_, hk26, h⟩ := bindE h
            replace hk26 := chkE hk26
            refine AK.go tab_ok hC [.br true, .n 2, .v .no [] (.agg (row_TMode e23)), .v (.bd []) [] (.sl 4 (([e23] : List TMode).map row_TMode)), .app ((l12 ++ ([e23] : List TMode)).map row_TMode) (l12 ++ ([e23] : List TMode)).length, .n 4, .keep [1, 2, 4, 10, 11, 12, 21, 22, 23] [4, 17, 21, 50]] rfl ⟨⟨⟨⟨trivial, hc25⟩, rfl⟩, rfl⟩, ⟨mapLen, appLim hk26 mapLen, mapApps, appLn mapLen⟩⟩ ?_
            exact AK.met (Exists.intro _ (Exists.intro _ (And.intro rfl h)))
          · refine AK.go tab_ok hC [.br false, .n 6] rfl ⟨trivial, hc25⟩ ?_
            rcases bifE h with ⟨hc27, h⟩ | ⟨hc27, h⟩
            · refine AK.go tab_ok hC [.br true] rfl ⟨trivial, hc27⟩ ?_
              cases h
            · refine AK.go tab_ok hC [.br false, .n 3, .keep [1, 2, 4, 10, 11, 12, 21, 22, 23] [4, 17, 21, 50]] rfl ⟨trivial, hc27⟩ ?_
              exact AK.met (Exists.intro _ (Exists.intro _ (And.intro rfl h)))
      · rintro σ ⟨l21, m22, rfl, h⟩
        unfold F_orjoin_Fair_k1 at h
        refine AK.go tab_ok hC [.n 4, .keep [1, 2, 4, 10, 11, 12, 21, 22, 23] [4, 17, 21, 50]] rfl trivial ?_
        obtain rfl := Option.some.inj h
        exact rndN rfl rfl
    · refine AK.go tab_ok hC [.br false, .n 2, .keep [10, 11] [50]] rfl ⟨trivial, hc20⟩ ?_
      obtain rfl := Option.some.inj h
      exact rndX rfl (And.intro rfl rfl)
  · obtain ⟨known18, l19⟩ := o30
    replace h : F_orjoin_Fair_c4 known18 l19 = some r := h
    unfold F_orjoin_Fair_c4 at h
    rintro e σ ⟨rfl, rfl⟩
    refine AK.go tab_ok hC [.n 11, .frz 50 (l19.map row_TMode) [8] [], .keep [8, 9] []] rfl ⟨trivial, ⟨trivial, (frzL mapLen)⟩⟩ ?_
    obtain rfl := Option.some.inj h
    refine AK.done ?_
    exact Exists.intro [_, _] (And.intro (And.intro rfl (And.intro rfl trivial)) (gives trivial))

-- 85 baldric/bind.Needs
noncomputable def F_bind_Needs (n1 : TNet) (o2 : TMode) : Option ((List (List (Int × Int))) × Int) :=
  (F_bind_Env n1 o2.Task o2.Vars).bind fun x5 =>
  bif (x5.2 != 0) then
  none
  else
  (idx n1.Tasks o2.Task).bind fun e7 =>
  (F_bind_tokens n1 e7.Ins o2.Ins x5.1).bind fun x8 =>
  some (x8.1, x8.2)

set_option maxRecDepth 100000 in
set_option maxHeartbeats 4000000 in
theorem F_bind_Needs_ok (n1 : TNet) (o2 : TMode) {r : ((List (List (Int × Int))) × Int)} (h : F_bind_Needs n1 o2 = some r) : ACalls Tryz.prog 85 [.agg (row_TNet n1), .agg (row_TMode o2)] [] (Gives (.tup [.sl 1 (r.1.map row_LA2I), .i .i64 r.2]) []) := by
  refine ACalls.walk 34 Tryz.func85 rfl Tryz.ntmps85 rfl fun C hC => ?_
  unfold F_bind_Needs at h
  obtain ⟨x5, hx5, h⟩ := bindE h
  refine AK.go tab_ok hC [.n 10, .v .no [] (.agg (row_TNet n1)), .n 4, .o (.c false [.d, .d, .d] (.tup [.sl 1 (x5.1.map row_I), .i .i64 x5.2])), .n 14] rfl ⟨⟨trivial, rfl⟩, (F_bind_Env_ok _ _ _ hx5)⟩ ?_
  rcases bifE h with ⟨hc6, h⟩ | ⟨hc6, h⟩
  · refine AK.go tab_ok hC [.br true, .n 1] rfl ⟨trivial, hc6⟩ ?_
    cases h
  · obtain ⟨e7, he7, h⟩ := bindE h
    obtain ⟨x8, hx8, h⟩ := bindE h
    refine AK.go tab_ok hC [.br false, .n 3, .keep [2, 3, 4, 5, 6] [2, 3]] rfl ⟨trivial, hc6⟩ ?_
    refine AK.draw2 tab_ok hC mixed [.a .no (some ([], .agg (row_TNet n1))) false, .a .no none false, .a .no none false, .a .no none false, .a .no none false, .a (.row (row_TTask e7)) none false, .a .no none false, .a .no none false, .a .no none false, .a .no none false, .a .no none false, .a (.c false [.d, .d, .d, .d] (.tup [.sl 1 (x8.1.map row_LA2I), .i .i64 x8.2])) none false, .a .no none false, .a .no none false, .m .s, .m .s] [] [] [4, 5] [] rfl rfl rfl ⟨⟨⟨trivial, rfl⟩, (idxM he7)⟩, (F_bind_tokens_ok _ _ _ _ hx8)⟩ rfl (by kernel_rfl) rfl rfl rfl ?_
    refine AK.go tab_ok hC [.n 2, .keep [4, 5] []] rfl trivial ?_
    obtain rfl := Option.some.inj h
    refine AK.done ?_
    exact Exists.intro [_, _] (And.intro (And.intro rfl (And.intro rfl trivial)) (gives trivial))

-- 87 baldric/bag.Less
noncomputable def F_bag_Less_m1 (m11 : (List (Int × Int))) (k13 : Int) (v14 : Int) : Option ((List (Int × Int)) ⊕ Empty) :=
  some (.inl (mset ltI m11 k13 (w64 (((mget m11 k13).getD 0) - v14))))

noncomputable def F_bag_Less_c2 (m11 : (List (Int × Int))) : Option ((List (Int × Int)) × Int) :=
  (F_bag_counts_bag m11).bind fun x16 =>
  some (x16, 0)

noncomputable def F_bag_Less (a1 : (List (Int × Int))) (b2 : (List (Int × Int))) : Option ((List (Int × Int)) × Int) :=
  (F_bag_both a1 b2).bind fun x5 =>
  bif (!x5.1) then
  none
  else
  (F_bag_counts_within x5.2.2 x5.2.1).bind fun x7 =>
  bif (!x7) then
  none
  else
  (rangeM (fun st p => F_bag_Less_m1 st p.1 p.2) x5.2.1 x5.2.2).bind (Sum.elim (fun q => F_bag_Less_c2 q) (fun q => Empty.elim q))

set_option maxRecDepth 100000 in
set_option maxHeartbeats 4000000 in
theorem F_bag_Less_ok (a1 : (List (Int × Int))) (b2 : (List (Int × Int))) {r : ((List (Int × Int)) × Int)} (h : F_bag_Less a1 b2 = some r) : ACalls Tryz.prog 87 [.sl 2 (a1.map row_A2I), .sl 2 (b2.map row_A2I)] [] (Gives (.tup [.sl 2 (r.1.map row_A2I), .i .i64 r.2]) []) := by
  refine ACalls.walk 40 Tryz.func87 rfl Tryz.ntmps87 rfl fun C hC => ?_
  unfold F_bag_Less at h
  obtain ⟨x5, hx5, h⟩ := bindE h
  refine AK.go tab_ok hC [.n 10, .cm (.fn) [] [(14, 30004), (50000, 30005)] [] [.d, .d] [(30004, .map (mapV (V.i .i64) (V.i .i64) x5.2.1)), (30005, .map (mapV (V.i .i64) (V.i .i64) x5.2.2))] (.tup [.map 30004, .map 30005, .b x5.1]), .n 18] rfl ⟨trivial, (F_bag_both_ok _ _ hx5)⟩ ?_
  rcases bifE h with ⟨hc6, h⟩ | ⟨hc6, h⟩
  · refine AK.go tab_ok hC [.br true, .n 1] rfl ⟨trivial, hc6⟩ ?_
    cases h
  · obtain ⟨x7, hx7, h⟩ := bindE h
    refine AK.go tab_ok hC [.br false, .n 4, .cm (.fn) [(200000, 50000), (200001, 14)] [(50000, 200000), (14, 200001)] [] [.d, .d] [(200000, .map (mapV (V.i .i64) (V.i .i64) x5.2.2)), (200001, .map (mapV (V.i .i64) (V.i .i64) x5.2.1))] (.b x7), .n 4] rfl ⟨⟨trivial, hc6⟩, (F_bag_counts_within_ok _ _ hx7)⟩ ?_
    rcases bifE h with ⟨hc8, h⟩ | ⟨hc8, h⟩
    · refine AK.go tab_ok hC [.br true, .n 1] rfl ⟨trivial, hc8⟩ ?_
      cases h
    · refine AK.go tab_ok hC [.br false, .n 7] rfl ⟨trivial, hc8⟩ ?_
      refine AK.openMap (b := 50000) ky_3 rfl fun bm9 cl9 L9 hbn9 hpm9 => ?_
      refine AK.go tab_ok hC [.x (fun σ => (σ.set 27 (.itr bm9 cl9 #[] none)).put 27 (.loc 27 0 0)), .n 3, .keep [6, 27] [14, 27, 50000]] rfl ⟨trivial, (Stp.range (b := 50000) rfl rfl (hC ▸ rfl) rfl rfl mt_117 rfl)⟩ ?_
      obtain ⟨o15, hl15, h⟩ := bindE h
      refine AK.range (body := (fun st p => F_bag_Less_m1 st p.1 p.2)) (fun st seen σ => ∃ cur : Option MapEntry, σ = ⟨[(6, .map 14), (27, .loc 27 0 0)], [(14, .map (mapV (V.i .i64) (V.i .i64) st)), (27, .itr bm9 cl9 seen cur), (50000, .mapX bm9 cl9 (typV (V.i .i64) (V.i .i64) L9) (mapV (V.i .i64) (V.i .i64) x5.2.2))]⟩) (fun (q : Empty) _ _ => False) (fun st e σ => e = .exit 1 ∧ σ = ⟨[(6, .map 14)], [(14, .map (mapV (V.i .i64) (V.i .i64) st))]⟩) hbn9 hpm9 hl15 (Exists.intro _ rfl) ?_ ?_
      · rintro m11 seen σ ⟨cur, rfl⟩ hex
        refine AK.go tab_ok hC [.n 2] rfl trivial ?_
        refine AK.nextT (b := 27) (m := 50000) rfl rfl rfl (hC ▸ rfl) rfl rfl rfl rfl ?_ ?_
        · intro hleft
          refine AK.go tab_ok hC [.n 7, .keep [6] [14]] rfl trivial ?_
          exact AK.done (Or.inl (And.intro hleft (And.intro (fun h => (by cases h)) (And.intro rfl rfl))))
        · intro xk13 k13 v14 hq10
          obtain ⟨o, h⟩ := hex _ hq10
          have ho := h
          replace h : F_bag_Less_m1 m11 k13 v14 = some o := h
          unfold F_bag_Less_m1 at h
          refine AK.go tab_ok hC [.n 10, .x (fun σ => σ.put 30 (.tup [.i .i64 k13, .i .i64 v14])), .n 9, .o (.any (.i .i64 ((mget m11 k13).getD 0)) none), .n 2, .x (fun σ => σ.set 14 (.map (mapV (V.i .i64) (V.i .i64) (mset ltI m11 k13 (w64 (((mget m11 k13).getD 0) - v14)))))), .n 2, .keep [6, 27] [14, 27, 50000]] rfl ⟨⟨⟨trivial, (Stp.entryT (b := 27) (m := 50000) rfl rfl (hC ▸ rfl) rfl hq10 rfl rfl)⟩, (fun σ h1 h2 _ => Stp.lookup (e := (V.i .i64)) (f := (V.i .i64)) (l := m11) (k := k13) (z := 0) rfl rfl (hC ▸ rfl) (h1 _ _ rfl) (h2 _ _ rfl) (h1 _ _ rfl) mt_117 ky_3 zi_3 rfl)⟩, (Stp.mapUpdate (e := (V.i .i64)) (f := (V.i .i64)) (l := m11) (k := k13) (v := (w64 (((mget m11 k13).getD 0) - v14))) ltI rfl rfl rfl rfl rfl rfl mt_117 ky_3 rfl)⟩ ?_
          obtain rfl := Option.some.inj h
          exact AK.done (Or.inr (Exists.intro _ (And.intro hq10 (Or.inl (Exists.intro _ (And.intro ho (And.intro rfl (Exists.intro _ rfl))))))))
      · rcases o15 with (m11 | q)
        · replace h : F_bag_Less_c2 m11 = some r := h
          unfold F_bag_Less_c2 at h
          rintro e σ ⟨rfl, rfl⟩
          obtain ⟨x16, hx16, h⟩ := bindE h
          refine AK.go tab_ok hC [.n 5, .cm (.fn) [(200000, 14)] [(39, 30000), (14, 200000)] [] [.d] [(30000, .arr 2 (x16.map row_A2I)), (200000, .map (mapV (V.i .i64) (V.i .i64) m11))] (.own 30000 x16.length), .n 5, .frz 39 (x16.map row_A2I) [4] [], .keep [4, 5] []] rfl ⟨⟨trivial, (F_bag_counts_bag_ok _ hx16)⟩, ⟨trivial, (frzL mapLen)⟩⟩ ?_
          obtain rfl := Option.some.inj h
          refine AK.done ?_
          exact Exists.intro [_, _] (And.intro (And.intro rfl (And.intro rfl trivial)) (gives trivial))
        · exact q.elim

-- 86 baldric/fire.joined
noncomputable def F_fire_joined_l1 (a1 : (List (List (Int × Int)))) (b2 : (List (List (Int × Int)))) (x7 : Int) (l8 : (List (List (Int × Int)))) : Option ((Int × (List (List (Int × Int)))) ⊕ (List (List (Int × Int)))) :=
  bif (decide (x7 < ((List.replicate (min2 (a1.length : Int) (b2.length : Int)).toNat (([] : (List (Int × Int))) : (List (Int × Int)))).length : Int))) then
  (idx a1 x7).bind fun e13 =>
  (idx b2 x7).bind fun e14 =>
  (F_bag_Less e13 e14).bind fun x15 =>
  (idx l8 x7).bind fun e16 =>
  bif (x15.2 != 0) then
  none
  else
  some (.inl ((w64 (x7 + 1)), (l8.set x7.toNat x15.1)))
  else
  some (.inr l8)

noncomputable def F_fire_joined_c2 (l11 : (List (List (Int × Int)))) : Option ((List (List (Int × Int))) × Int) :=
  some (l11, 0)

noncomputable def F_fire_joined (a1 : (List (List (Int × Int)))) (b2 : (List (List (Int × Int)))) : Option ((List (List (Int × Int))) × Int) :=
  (chk (decide (0 ≤ (min2 (a1.length : Int) (b2.length : Int))) && decide ((min2 (a1.length : Int) (b2.length : Int)) ≤ (min2 (a1.length : Int) (b2.length : Int))) && decide ((min2 (a1.length : Int) (b2.length : Int)) ≤ 4294967296))).bind fun _ =>
  (loopM (fun st => F_fire_joined_l1 a1 b2 st.1 st.2) (0, (List.replicate (min2 (a1.length : Int) (b2.length : Int)).toNat (([] : (List (Int × Int))) : (List (Int × Int)))))).bind (fun q => F_fire_joined_c2 q)

set_option maxRecDepth 100000 in
set_option maxHeartbeats 4000000 in
theorem F_fire_joined_ok (a1 : (List (List (Int × Int)))) (b2 : (List (List (Int × Int)))) {r : ((List (List (Int × Int))) × Int)} (h : F_fire_joined a1 b2 = some r) : ACalls Tryz.prog 86 [.sl 1 (a1.map row_LA2I), .sl 1 (b2.map row_LA2I), .clo (.func 87) [] []] [] (Gives (.tup [.sl 1 (r.1.map row_LA2I), .i .i64 r.2]) []) := by
  refine ACalls.walk 43 Tryz.func86 rfl Tryz.ntmps86 rfl fun C hC => ?_
  unfold F_fire_joined at h
  obtain ⟨_, hk5, h⟩ := bindE h
  replace hk5 := chkE hk5
  refine AK.go tab_ok hC [.n 9, .o (.ln a1.length), .n 1, .o (.ln b2.length), .n 1, .o (.rows (List.replicate (min2 (a1.length : Int) (b2.length : Int)).toNat [.lit (.slice none 0 0)]))] rfl ⟨⟨⟨trivial, mapLen⟩, mapLen⟩, ⟨hk5, rfl⟩⟩ ?_
  refine AK.denilA (b := 16) [some 2] rfl (mapDen (f := row_LA2I) (x := ([] : (List (Int × Int)))) rfl) ?_
  refine AK.go tab_ok hC [.say 16 (.own 16 (List.replicate (min2 (a1.length : Int) (b2.length : Int)).toNat (([] : (List (Int × Int))) : (List (Int × Int)))).length), .n 12, .keep [0, 1, 2, 8, 18, 19] [16]] rfl ⟨trivial, (by simp)⟩ ?_
  obtain ⟨l11, hl18, h⟩ := bindE h
  refine AK.loop (body := (fun st => F_fire_joined_l1 a1 b2 st.1 st.2)) (fun st σ => σ = ⟨[(0, .sl 1 (a1.map row_LA2I)), (1, .sl 1 (b2.map row_LA2I)), (2, .clo (.func 87) [] []), (8, .own 16 st.2.length), (18, .i .i64 ((List.replicate (min2 (a1.length : Int) (b2.length : Int)).toNat (([] : (List (Int × Int))) : (List (Int × Int)))).length : Int)), (19, .i .i64 st.1)], [(16, .arr 1 (st.2.map row_LA2I))]⟩) (fun q e σ => e = .exit 0 ∧ σ = ⟨[(8, .own 16 q.length)], [(16, .arr 1 (q.map row_LA2I))]⟩) hl18 rfl ?_ ?_
  · rintro ⟨x7, l8⟩ o σ rfl h
    replace h : F_fire_joined_l1 a1 b2 x7 l8 = some o := h
    unfold F_fire_joined_l1 at h
    refine AK.go tab_ok hC [.n 6] rfl trivial ?_
    rcases bifE h with ⟨hc12, h⟩ | ⟨hc12, h⟩
    · obtain ⟨e13, he13, h⟩ := bindE h
      obtain ⟨e14, he14, h⟩ := bindE h
      obtain ⟨x15, hx15, h⟩ := bindE h
      obtain ⟨e16, he16, h⟩ := bindE h
      refine AK.go tab_ok hC [.br true, .n 16, .keep [0, 1, 2, 8, 9, 10, 18, 19] [16]] rfl ⟨trivial, hc12⟩ ?_
      refine AK.draw2 tab_ok hC mixed [.a .no none false, .a .no none false, .a .no none false, .a .no none false, .a .no none false, .a (.row (row_LA2I e13)) none false, .a .no none false, .a .no none false, .a .no none false, .a (.row (row_LA2I e14)) none false, .a .no none false, .a (.c false [.d, .d] (.tup [.sl 2 (x15.1.map row_A2I), .i .i64 x15.2])) none false, .a .no none true true, .a .no none false, .a .no none true, .a .no none false, .m (.st (row_LA2I e16) ((l8.set x7.toNat x15.1).map row_LA2I)), .m .s] [0, 1, 2, 8, 9, 10, 18, 19] [] [0, 1, 2, 8, 10, 18, 19] [16] rfl rfl rfl ⟨⟨⟨⟨⟨trivial, (idxM he13)⟩, (idxM he14)⟩, (F_bag_Less_ok _ _ hx15)⟩, (idxOw he16 rfl)⟩, ⟨(mapGet (idxE he16).2), mapSet rfl⟩⟩ rfl (by kernel_rfl) rfl rfl rfl ?_
      refine AK.go tab_ok hC [.n 7] rfl trivial ?_
      rcases bifE h with ⟨hc17, h⟩ | ⟨hc17, h⟩
      · refine AK.go tab_ok hC [.br true, .n 1] rfl ⟨trivial, hc17⟩ ?_
        cases h
      · refine AK.go tab_ok hC [.br false, .n 7, .say 8 (.own 16 (l8.set x7.toNat x15.1).length), .keep [0, 1, 2, 8, 18, 19] [16]] rfl ⟨⟨trivial, hc17⟩, (congrArg (fun n => V.own 16 n) (by simp))⟩ ?_
        obtain rfl := Option.some.inj h
        exact rndN rfl rfl
    · refine AK.go tab_ok hC [.br false, .n 2, .keep [8] [16]] rfl ⟨trivial, hc12⟩ ?_
      obtain rfl := Option.some.inj h
      exact rndX rfl (And.intro rfl rfl)
  · replace h : F_fire_joined_c2 l11 = some r := h
    unfold F_fire_joined_c2 at h
    rintro e σ ⟨rfl, rfl⟩
    refine AK.go tab_ok hC [.n 10, .frz 16 (l11.map row_LA2I) [6] [], .keep [6, 7] []] rfl ⟨trivial, ⟨trivial, (frzL mapLen)⟩⟩ ?_
    obtain rfl := Option.some.inj h
    refine AK.done ?_
    exact Exists.intro [_, _] (And.intro (And.intro rfl (And.intro rfl trivial)) (gives trivial))

-- 76 baldric/fire.Take
noncomputable def F_fire_Take (n1 : TNet) (m2 : (List (List (Int × Int)))) (o3 : TMode) : Option ((List (List (Int × Int))) × Int) :=
  (F_bind_Check n1 m2 o3).bind fun x6 =>
  bif (x6 != 0) then
  none
  else
  (F_bind_Needs n1 o3).bind fun x8 =>
  bif (x8.2 != 0) then
  none
  else
  (F_fire_joined m2 x8.1).bind fun x10 =>
  some (x10.1, x10.2)

set_option maxRecDepth 100000 in
set_option maxHeartbeats 4000000 in
theorem F_fire_Take_ok (n1 : TNet) (m2 : (List (List (Int × Int)))) (o3 : TMode) {r : ((List (List (Int × Int))) × Int)} (h : F_fire_Take n1 m2 o3 = some r) : ACalls Tryz.prog 76 [.agg (row_TNet n1), .sl 1 (m2.map row_LA2I), .agg (row_TMode o3)] [] (Gives (.tup [.sl 1 (r.1.map row_LA2I), .i .i64 r.2]) []) := by
  refine ACalls.walk 32 Tryz.func76 rfl Tryz.ntmps76 rfl fun C hC => ?_
  unfold F_fire_Take at h
  obtain ⟨x6, hx6, h⟩ := bindE h
  refine AK.go tab_ok hC [.n 11, .v .no [] (.agg (row_TNet n1)), .n 1, .v .no [] (.agg (row_TMode o3)), .o (.c false [.d, .d, .d] (.i .i64 x6)), .n 9] rfl ⟨⟨⟨trivial, rfl⟩, rfl⟩, (F_bind_Check_ok _ _ _ hx6)⟩ ?_
  rcases bifE h with ⟨hc7, h⟩ | ⟨hc7, h⟩
  · refine AK.go tab_ok hC [.br true, .n 1] rfl ⟨trivial, hc7⟩ ?_
    cases h
  · obtain ⟨x8, hx8, h⟩ := bindE h
    refine AK.go tab_ok hC [.br false, .n 4, .v .no [] (.agg (row_TNet n1)), .v .no [] (.agg (row_TMode o3)), .o (.c false [.d, .d] (.tup [.sl 1 (x8.1.map row_LA2I), .i .i64 x8.2])), .n 14] rfl ⟨⟨⟨⟨trivial, hc7⟩, rfl⟩, rfl⟩, (F_bind_Needs_ok _ _ hx8)⟩ ?_
    rcases bifE h with ⟨hc9, h⟩ | ⟨hc9, h⟩
    · refine AK.go tab_ok hC [.br true, .n 1] rfl ⟨trivial, hc9⟩ ?_
      cases h
    · obtain ⟨x10, hx10, h⟩ := bindE h
      refine AK.go tab_ok hC [.br false, .n 6, .cm (.fn) [] [] [] [.d, .d, .d] [] (.tup [.sl 1 (x10.1.map row_LA2I), .i .i64 x10.2]), .n 7, .keep [6, 7] []] rfl ⟨⟨trivial, hc9⟩, (F_fire_joined_ok _ _ hx10)⟩ ?_
      obtain rfl := Option.some.inj h
      refine AK.done ?_
      exact Exists.intro [_, _] (And.intro (And.intro rfl (And.intro rfl trivial)) (gives trivial))

-- 88 baldric/bind.Gives
noncomputable def F_bind_Gives (n1 : TNet) (o2 : TMode) : Option ((List (List (Int × Int))) × Int) :=
  (F_bind_Env n1 o2.Task o2.Vars).bind fun x5 =>
  bif (x5.2 != 0) then
  none
  else
  (idx n1.Tasks o2.Task).bind fun e7 =>
  (F_bind_tokens n1 e7.Outs o2.Outs x5.1).bind fun x8 =>
  some (x8.1, x8.2)

set_option maxRecDepth 100000 in
set_option maxHeartbeats 4000000 in
theorem F_bind_Gives_ok (n1 : TNet) (o2 : TMode) {r : ((List (List (Int × Int))) × Int)} (h : F_bind_Gives n1 o2 = some r) : ACalls Tryz.prog 88 [.agg (row_TNet n1), .agg (row_TMode o2)] [] (Gives (.tup [.sl 1 (r.1.map row_LA2I), .i .i64 r.2]) []) := by
  refine ACalls.walk 34 Tryz.func88 rfl Tryz.ntmps88 rfl fun C hC => ?_
  unfold F_bind_Gives at h
  obtain ⟨x5, hx5, h⟩ := bindE h
  refine AK.go tab_ok hC [.n 10, .v .no [] (.agg (row_TNet n1)), .n 4, .o (.c false [.d, .d, .d] (.tup [.sl 1 (x5.1.map row_I), .i .i64 x5.2])), .n 14] rfl ⟨⟨trivial, rfl⟩, (F_bind_Env_ok _ _ _ hx5)⟩ ?_
  rcases bifE h with ⟨hc6, h⟩ | ⟨hc6, h⟩
  · refine AK.go tab_ok hC [.br true, .n 1] rfl ⟨trivial, hc6⟩ ?_
    cases h
  · obtain ⟨e7, he7, h⟩ := bindE h
    obtain ⟨x8, hx8, h⟩ := bindE h
    refine AK.go tab_ok hC [.br false, .n 3, .keep [2, 3, 4, 5, 6] [2, 3]] rfl ⟨trivial, hc6⟩ ?_
    refine AK.draw2 tab_ok hC mixed [.a .no (some ([], .agg (row_TNet n1))) false, .a .no none false, .a .no none false, .a .no none false, .a .no none false, .a (.row (row_TTask e7)) none false, .a .no none false, .a .no none false, .a .no none false, .a .no none false, .a .no none false, .a (.c false [.d, .d, .d, .d] (.tup [.sl 1 (x8.1.map row_LA2I), .i .i64 x8.2])) none false, .a .no none false, .a .no none false, .m .s, .m .s] [] [] [4, 5] [] rfl rfl rfl ⟨⟨⟨trivial, rfl⟩, (idxM he7)⟩, (F_bind_tokens_ok _ _ _ _ hx8)⟩ rfl (by kernel_rfl) rfl rfl rfl ?_
    refine AK.go tab_ok hC [.n 2, .keep [4, 5] []] rfl trivial ?_
    obtain rfl := Option.some.inj h
    refine AK.done ?_
    exact Exists.intro [_, _] (And.intro (And.intro rfl (And.intro rfl trivial)) (gives trivial))

-- 86 baldric/fire.joined
noncomputable def F_fire_joined_v2_l1 (a1 : (List (List (Int × Int)))) (b2 : (List (List (Int × Int)))) (x7 : Int) (l8 : (List (List (Int × Int)))) : Option ((Int × (List (List (Int × Int)))) ⊕ (List (List (Int × Int)))) :=
  bif (decide (x7 < ((List.replicate (min2 (a1.length : Int) (b2.length : Int)).toNat (([] : (List (Int × Int))) : (List (Int × Int)))).length : Int))) then
  (idx a1 x7).bind fun e13 =>
  (idx b2 x7).bind fun e14 =>
  (F_bag_Sum e13 e14).bind fun x15 =>
  (idx l8 x7).bind fun e16 =>
  bif (x15.2 != 0) then
  none
  else
  some (.inl ((w64 (x7 + 1)), (l8.set x7.toNat x15.1)))
  else
  some (.inr l8)

noncomputable def F_fire_joined_v2_c2 (l11 : (List (List (Int × Int)))) : Option ((List (List (Int × Int))) × Int) :=
  some (l11, 0)

noncomputable def F_fire_joined_v2 (a1 : (List (List (Int × Int)))) (b2 : (List (List (Int × Int)))) : Option ((List (List (Int × Int))) × Int) :=
  (chk (decide (0 ≤ (min2 (a1.length : Int) (b2.length : Int))) && decide ((min2 (a1.length : Int) (b2.length : Int)) ≤ (min2 (a1.length : Int) (b2.length : Int))) && decide ((min2 (a1.length : Int) (b2.length : Int)) ≤ 4294967296))).bind fun _ =>
  (loopM (fun st => F_fire_joined_v2_l1 a1 b2 st.1 st.2) (0, (List.replicate (min2 (a1.length : Int) (b2.length : Int)).toNat (([] : (List (Int × Int))) : (List (Int × Int)))))).bind (fun q => F_fire_joined_v2_c2 q)

set_option maxRecDepth 100000 in
set_option maxHeartbeats 4000000 in
theorem F_fire_joined_v2_ok (a1 : (List (List (Int × Int)))) (b2 : (List (List (Int × Int)))) {r : ((List (List (Int × Int))) × Int)} (h : F_fire_joined_v2 a1 b2 = some r) : ACalls Tryz.prog 86 [.sl 1 (a1.map row_LA2I), .sl 1 (b2.map row_LA2I), .clo (.func 41) [] []] [] (Gives (.tup [.sl 1 (r.1.map row_LA2I), .i .i64 r.2]) []) := by
  refine ACalls.walk 43 Tryz.func86 rfl Tryz.ntmps86 rfl fun C hC => ?_
  unfold F_fire_joined_v2 at h
  obtain ⟨_, hk5, h⟩ := bindE h
  replace hk5 := chkE hk5
  refine AK.go tab_ok hC [.n 9, .o (.ln a1.length), .n 1, .o (.ln b2.length), .n 1, .o (.rows (List.replicate (min2 (a1.length : Int) (b2.length : Int)).toNat [.lit (.slice none 0 0)]))] rfl ⟨⟨⟨trivial, mapLen⟩, mapLen⟩, ⟨hk5, rfl⟩⟩ ?_
  refine AK.denilA (b := 16) [some 2] rfl (mapDen (f := row_LA2I) (x := ([] : (List (Int × Int)))) rfl) ?_
  refine AK.go tab_ok hC [.say 16 (.own 16 (List.replicate (min2 (a1.length : Int) (b2.length : Int)).toNat (([] : (List (Int × Int))) : (List (Int × Int)))).length), .n 12, .keep [0, 1, 2, 8, 18, 19] [16]] rfl ⟨trivial, (by simp)⟩ ?_
  obtain ⟨l11, hl18, h⟩ := bindE h
  refine AK.loop (body := (fun st => F_fire_joined_v2_l1 a1 b2 st.1 st.2)) (fun st σ => σ = ⟨[(0, .sl 1 (a1.map row_LA2I)), (1, .sl 1 (b2.map row_LA2I)), (2, .clo (.func 41) [] []), (8, .own 16 st.2.length), (18, .i .i64 ((List.replicate (min2 (a1.length : Int) (b2.length : Int)).toNat (([] : (List (Int × Int))) : (List (Int × Int)))).length : Int)), (19, .i .i64 st.1)], [(16, .arr 1 (st.2.map row_LA2I))]⟩) (fun q e σ => e = .exit 0 ∧ σ = ⟨[(8, .own 16 q.length)], [(16, .arr 1 (q.map row_LA2I))]⟩) hl18 rfl ?_ ?_
  · rintro ⟨x7, l8⟩ o σ rfl h
    replace h : F_fire_joined_v2_l1 a1 b2 x7 l8 = some o := h
    unfold F_fire_joined_v2_l1 at h
    refine AK.go tab_ok hC [.n 6] rfl trivial ?_
    rcases bifE h with ⟨hc12, h⟩ | ⟨hc12, h⟩
    · obtain ⟨e13, he13, h⟩ := bindE h
      obtain ⟨e14, he14, h⟩ := bindE h
      obtain ⟨x15, hx15, h⟩ := bindE h
      obtain ⟨e16, he16, h⟩ := bindE h
      refine AK.go tab_ok hC [.br true, .n 16, .keep [0, 1, 2, 8, 9, 10, 18, 19] [16]] rfl ⟨trivial, hc12⟩ ?_
      refine AK.draw2 tab_ok hC mixed [.a .no none false, .a .no none false, .a .no none false, .a .no none false, .a .no none false, .a (.row (row_LA2I e13)) none false, .a .no none false, .a .no none false, .a .no none false, .a (.row (row_LA2I e14)) none false, .a .no none false, .a (.c false [.d, .d] (.tup [.sl 2 (x15.1.map row_A2I), .i .i64 x15.2])) none false, .a .no none true true, .a .no none false, .a .no none true, .a .no none false, .m (.st (row_LA2I e16) ((l8.set x7.toNat x15.1).map row_LA2I)), .m .s] [0, 1, 2, 8, 9, 10, 18, 19] [] [0, 1, 2, 8, 10, 18, 19] [16] rfl rfl rfl ⟨⟨⟨⟨⟨trivial, (idxM he13)⟩, (idxM he14)⟩, (F_bag_Sum_ok _ _ hx15)⟩, (idxOw he16 rfl)⟩, ⟨(mapGet (idxE he16).2), mapSet rfl⟩⟩ rfl (by kernel_rfl) rfl rfl rfl ?_
      refine AK.go tab_ok hC [.n 7] rfl trivial ?_
      rcases bifE h with ⟨hc17, h⟩ | ⟨hc17, h⟩
      · refine AK.go tab_ok hC [.br true, .n 1] rfl ⟨trivial, hc17⟩ ?_
        cases h
      · refine AK.go tab_ok hC [.br false, .n 7, .say 8 (.own 16 (l8.set x7.toNat x15.1).length), .keep [0, 1, 2, 8, 18, 19] [16]] rfl ⟨⟨trivial, hc17⟩, (congrArg (fun n => V.own 16 n) (by simp))⟩ ?_
        obtain rfl := Option.some.inj h
        exact rndN rfl rfl
    · refine AK.go tab_ok hC [.br false, .n 2, .keep [8] [16]] rfl ⟨trivial, hc12⟩ ?_
      obtain rfl := Option.some.inj h
      exact rndX rfl (And.intro rfl rfl)
  · replace h : F_fire_joined_v2_c2 l11 = some r := h
    unfold F_fire_joined_v2_c2 at h
    rintro e σ ⟨rfl, rfl⟩
    refine AK.go tab_ok hC [.n 10, .frz 16 (l11.map row_LA2I) [6] [], .keep [6, 7] []] rfl ⟨trivial, ⟨trivial, (frzL mapLen)⟩⟩ ?_
    obtain rfl := Option.some.inj h
    refine AK.done ?_
    exact Exists.intro [_, _] (And.intro (And.intro rfl (And.intro rfl trivial)) (gives trivial))

-- 77 baldric/fire.Give
noncomputable def F_fire_Give_l1 (e9 : TTask) (x10 : Int) : Option (Int ⊕ Unit) :=
  bif (decide (x10 < (e9.Cancel.length : Int))) then
  (idx e9.Cancel x10).bind fun e13 =>
  none
  else
  some (.inr ())

noncomputable def F_fire_Give_c2 (x8 : (List (List (Int × Int)))) (x6 : ((List (List (Int × Int))) × Int)) : Option ((List (List (Int × Int))) × Int) :=
  (F_fire_joined_v2 x8 x6.1).bind fun x15 =>
  some (x15.1, x15.2)

noncomputable def F_fire_Give (n1 : TNet) (m2 : (List (List (Int × Int)))) (o3 : TMode) : Option ((List (List (Int × Int))) × Int) :=
  (F_bind_Gives n1 o3).bind fun x6 =>
  bif (x6.2 != 0) then
  none
  else
  (F_mark_Copy m2).bind fun x8 =>
  (idx n1.Tasks o3.Task).bind fun e9 =>
  (loopM (fun st => F_fire_Give_l1 e9 st) 0).bind (fun q => F_fire_Give_c2 x8 x6)

set_option maxRecDepth 100000 in
set_option maxHeartbeats 4000000 in
theorem F_fire_Give_ok (n1 : TNet) (m2 : (List (List (Int × Int)))) (o3 : TMode) {r : ((List (List (Int × Int))) × Int)} (h : F_fire_Give n1 m2 o3 = some r) : ACalls Tryz.prog 77 [.agg (row_TNet n1), .sl 1 (m2.map row_LA2I), .agg (row_TMode o3)] [] (Gives (.tup [.sl 1 (r.1.map row_LA2I), .i .i64 r.2]) []) := by
  refine ACalls.walk 53 Tryz.func77 rfl Tryz.ntmps77 rfl fun C hC => ?_
  unfold F_fire_Give at h
  obtain ⟨x6, hx6, h⟩ := bindE h
  refine AK.go tab_ok hC [.n 10, .v .no [] (.agg (row_TNet n1)), .v .no [] (.agg (row_TMode o3)), .o (.c false [.d, .d] (.tup [.sl 1 (x6.1.map row_LA2I), .i .i64 x6.2])), .n 14] rfl ⟨⟨⟨trivial, rfl⟩, rfl⟩, (F_bind_Gives_ok _ _ hx6)⟩ ?_
  rcases bifE h with ⟨hc7, h⟩ | ⟨hc7, h⟩
  · refine AK.go tab_ok hC [.br true, .n 1] rfl ⟨trivial, hc7⟩ ?_
    cases h
  · obtain ⟨x8, hx8, h⟩ := bindE h
    obtain ⟨e9, he9, h⟩ := bindE h
    refine AK.go tab_ok hC [.br false, .n 5, .o (.co false [.d] 1 (x8.map row_LA2I) x8.length), .n 10, .o (.row (row_TTask e9)), .n 2, .o (.ln e9.Cancel.length), .n 4, .keep [8, 10, 30, 31, 32] [23]] rfl ⟨⟨⟨⟨trivial, hc7⟩, ⟨(F_mark_Copy_ok _ hx8), mapLen, .inl rfl⟩⟩, (idxM he9)⟩, mapLen⟩ ?_
    obtain ⟨o14, hl14, h⟩ := bindE h
    refine AK.loop (body := (fun st => F_fire_Give_l1 e9 st)) (fun st σ => σ = ⟨[(8, .sl 1 (x6.1.map row_LA2I)), (10, .own 23 x8.length), (30, .sl 1 (e9.Cancel.map row_I)), (31, .i .i64 (e9.Cancel.length : Int)), (32, .i .i64 st)], [(23, .arr 1 (x8.map row_LA2I))]⟩) (fun q e σ => e = .exit 0 ∧ σ = ⟨[(8, .sl 1 (x6.1.map row_LA2I)), (10, .own 23 x8.length)], [(23, .arr 1 (x8.map row_LA2I))]⟩) hl14 rfl ?_ ?_
    · rintro x10 o σ rfl h
      replace h : F_fire_Give_l1 e9 x10 = some o := h
      unfold F_fire_Give_l1 at h
      refine AK.go tab_ok hC [.n 6] rfl trivial ?_
      rcases bifE h with ⟨hc12, h⟩ | ⟨hc12, h⟩
      · obtain ⟨e13, he13, h⟩ := bindE h
        refine AK.go tab_ok hC [.br true, .n 6, .o (.row (row_I e13)), .n 5] rfl ⟨⟨trivial, hc12⟩, (idxM he13)⟩ ?_
        cases h
      · refine AK.go tab_ok hC [.br false, .n 2, .keep [8, 10] [23]] rfl ⟨trivial, hc12⟩ ?_
        obtain rfl := Option.some.inj h
        exact rndX rfl (And.intro rfl rfl)
    · obtain _ := o14
      replace h : F_fire_Give_c2 x8 x6 = some r := h
      unfold F_fire_Give_c2 at h
      rintro e σ ⟨rfl, rfl⟩
      obtain ⟨x15, hx15, h⟩ := bindE h
      refine AK.go tab_ok hC [.n 6, .frz 23 (x8.map row_LA2I) [10, 48] [], .cm (.fn) [] [] [] [.d, .d, .d] [] (.tup [.sl 1 (x15.1.map row_LA2I), .i .i64 x15.2]), .n 7, .keep [6, 7] []] rfl ⟨⟨trivial, ⟨⟨trivial, (frzL mapLen)⟩, (frzL mapLen)⟩⟩, (F_fire_joined_v2_ok _ _ hx15)⟩ ?_
      obtain rfl := Option.some.inj h
      refine AK.done ?_
      exact Exists.intro [_, _] (And.intro (And.intro rfl (And.intro rfl trivial)) (gives trivial))

-- 61 baldric/fire.Do
noncomputable def F_fire_Do (n1 : TNet) (m2 : (List (List (Int × Int)))) (o3 : TMode) : Option ((List (List (Int × Int))) × Int) :=
  (F_fire_Take n1 m2 o3).bind fun x6 =>
  bif (x6.2 != 0) then
  none
  else
  (F_fire_Give n1 x6.1 o3).bind fun x8 =>
  some (x8.1, x8.2)

set_option maxRecDepth 100000 in
set_option maxHeartbeats 4000000 in
theorem F_fire_Do_ok (n1 : TNet) (m2 : (List (List (Int × Int)))) (o3 : TMode) {r : ((List (List (Int × Int))) × Int)} (h : F_fire_Do n1 m2 o3 = some r) : ACalls Tryz.prog 61 [.agg (row_TNet n1), .sl 1 (m2.map row_LA2I), .agg (row_TMode o3)] [] (Gives (.tup [.sl 1 (r.1.map row_LA2I), .i .i64 r.2]) []) := by
  refine ACalls.walk 26 Tryz.func61 rfl Tryz.ntmps61 rfl fun C hC => ?_
  unfold F_fire_Do at h
  obtain ⟨x6, hx6, h⟩ := bindE h
  refine AK.go tab_ok hC [.n 10, .v .no [] (.agg (row_TNet n1)), .n 1, .v .no [] (.agg (row_TMode o3)), .o (.c false [.d, .d, .d] (.tup [.sl 1 (x6.1.map row_LA2I), .i .i64 x6.2])), .n 14] rfl ⟨⟨⟨trivial, rfl⟩, rfl⟩, (F_fire_Take_ok _ _ _ hx6)⟩ ?_
  rcases bifE h with ⟨hc7, h⟩ | ⟨hc7, h⟩
  · refine AK.go tab_ok hC [.br true, .n 1] rfl ⟨trivial, hc7⟩ ?_
    cases h
  · obtain ⟨x8, hx8, h⟩ := bindE h
    refine AK.go tab_ok hC [.br false, .n 4, .v .no [] (.agg (row_TNet n1)), .n 1, .v .no [] (.agg (row_TMode o3)), .o (.c false [.d, .d, .d] (.tup [.sl 1 (x8.1.map row_LA2I), .i .i64 x8.2])), .n 7, .keep [6, 7] []] rfl ⟨⟨⟨⟨trivial, hc7⟩, rfl⟩, rfl⟩, (F_fire_Give_ok _ _ _ hx8)⟩ ?_
    obtain rfl := Option.some.inj h
    refine AK.done ?_
    exact Exists.intro [_, _] (And.intro (And.intro rfl (And.intro rfl trivial)) (gives trivial))

-- 39 (*baldric/space.explorer).leave
noncomputable def F_space_explorer_leave_g1 (v10 : Bool) (x23 : ((List TMode) × Bool)) : Option Bool :=
  bif v10 then
  some x23.2
  else
  some false

noncomputable def F_space_explorer_leave_k2 (x28 : Int) (l61 : (List TColour)) (l62 : (List TPlace)) (l63 : (List TTask)) (l64 : Int) (l65 : Int) (l66 : Int) (l67 : Bool) (m68 : (List (ByteArray × Int))) (l69 : (List TEdge)) (l70 : (List (List (List (Int × Int))))) : Option ((Int × (List TColour) × (List TPlace) × (List TTask) × Int × Int × Int × Bool × (List (ByteArray × Int)) × (List TEdge) × (List (List (List (Int × Int))))) ⊕ ((List TColour) × (List TPlace) × (List TTask) × Int × Int × Int × Bool × (List (ByteArray × Int)) × (List TEdge) × (List (List (List (Int × Int)))))) :=
  some (.inl ((w64 (x28 + 1)), l61, l62, l63, l64, l65, l66, l67, m68, l69, l70))

noncomputable def F_space_explorer_leave_k3 (x28 : Int) (l37 : (List TEdge)) (at_11 : Int) (e71 : TMode) (k73 : Int) (l74 : (List TColour)) (l75 : (List TPlace)) (l76 : (List TTask)) (l77 : Int) (l78 : Int) (l79 : Int) (l80 : Bool) (m81 : (List (ByteArray × Int))) (l82 : (List (List (List (Int × Int))))) : Option ((Int × (List TColour) × (List TPlace) × (List TTask) × Int × Int × Int × Bool × (List (ByteArray × Int)) × (List TEdge) × (List (List (List (Int × Int))))) ⊕ ((List TColour) × (List TPlace) × (List TTask) × Int × Int × Int × Bool × (List (ByteArray × Int)) × (List TEdge) × (List (List (List (Int × Int)))))) :=
  bif (decide (k73 < 0)) then
  F_space_explorer_leave_k2 x28 l74 l75 l76 l77 l78 l79 false m81 l37 l82
  else
  (chk (decide (l37.length + ([(TEdge.mk at_11 k73 e71)] : List TEdge).length ≤ 4294967296))).bind fun _ =>
  F_space_explorer_leave_k2 x28 l74 l75 l76 l77 l78 l79 l80 m81 (l37 ++ [(TEdge.mk at_11 k73 e71)]) l82

noncomputable def F_space_explorer_leave_l4 (x23 : ((List TMode) × Bool)) (e22 : (List (List (Int × Int)))) (at_11 : Int) (x28 : Int) (l29 : (List TColour)) (l30 : (List TPlace)) (l31 : (List TTask)) (l32 : Int) (l33 : Int) (l34 : Int) (l35 : Bool) (m36 : (List (ByteArray × Int))) (l37 : (List TEdge)) (l38 : (List (List (List (Int × Int))))) : Option ((Int × (List TColour) × (List TPlace) × (List TTask) × Int × Int × Int × Bool × (List (ByteArray × Int)) × (List TEdge) × (List (List (List (Int × Int))))) ⊕ ((List TColour) × (List TPlace) × (List TTask) × Int × Int × Int × Bool × (List (ByteArray × Int)) × (List TEdge) × (List (List (List (Int × Int)))))) :=
  bif (decide (x28 < (x23.1.length : Int))) then
  (idx x23.1 x28).bind fun e71 =>
  (F_fire_Do (TNet.mk l29 l30 l31 l32 l33) e22 e71).bind fun x72 =>
  bif (x72.2 == 0) then
  (F_space_explorer_state l29 l30 l31 l32 l33 l34 m36 l38 l37 l35 x72.1).bind fun x86 =>
  F_space_explorer_leave_k3 x28 l37 at_11 e71 x86.1 x86.2.2.1 x86.2.2.2.1 x86.2.2.2.2.1 x86.2.2.2.2.2.1 x86.2.2.2.2.2.2.1 x86.2.2.2.2.2.2.2.1 x86.2.2.2.2.2.2.2.2.1 x86.2.2.2.2.2.2.2.2.2 x86.2.1
  else
  F_space_explorer_leave_k3 x28 l37 at_11 e71 (-1) l29 l30 l31 l32 l33 l34 l35 m36 l38
  else
  some (.inr (l29, l30, l31, l32, l33, l34, l35, m36, l37, l38))

noncomputable def F_space_explorer_leave_c5 (l50 : (List TColour)) (l51 : (List TPlace)) (l52 : (List TTask)) (l53 : Int) (l54 : Int) (l55 : Int) (l56 : Bool) (m57 : (List (ByteArray × Int))) (l58 : (List TEdge)) (l59 : (List (List (List (Int × Int))))) : Option ((List (List (List (Int × Int)))) × (List TEdge) × (List TColour) × (List TPlace) × (List TTask) × Int × Int × Int × Bool × (List (ByteArray × Int))) :=
  some (l59, l58, l50, l51, l52, l53, l54, l55, l56, m57)

noncomputable def F_space_explorer_leave_k6 (x23 : ((List TMode) × Bool)) (e22 : (List (List (Int × Int)))) (at_11 : Int) (v1 : (List TColour)) (v2 : (List TPlace)) (v3 : (List TTask)) (v4 : Int) (v5 : Int) (v6 : Int) (m7 : (List (ByteArray × Int))) (l9 : (List TEdge)) (l8 : (List (List (List (Int × Int))))) (l24 : Bool) : Option ((List (List (List (Int × Int)))) × (List TEdge) × (List TColour) × (List TPlace) × (List TTask) × Int × Int × Int × Bool × (List (ByteArray × Int))) :=
  (loopM (fun st => F_space_explorer_leave_l4 x23 e22 at_11 st.1 st.2.1 st.2.2.1 st.2.2.2.1 st.2.2.2.2.1 st.2.2.2.2.2.1 st.2.2.2.2.2.2.1 st.2.2.2.2.2.2.2.1 st.2.2.2.2.2.2.2.2.1 st.2.2.2.2.2.2.2.2.2.1 st.2.2.2.2.2.2.2.2.2.2) (0, v1, v2, v3, v4, v5, v6, l24, m7, l9, l8)).bind (fun q => F_space_explorer_leave_c5 q.1 q.2.1 q.2.2.1 q.2.2.2.1 q.2.2.2.2.1 q.2.2.2.2.2.1 q.2.2.2.2.2.2.1 q.2.2.2.2.2.2.2.1 q.2.2.2.2.2.2.2.2.1 q.2.2.2.2.2.2.2.2.2)

noncomputable def F_space_explorer_leave (v1 : (List TColour)) (v2 : (List TPlace)) (v3 : (List TTask)) (v4 : Int) (v5 : Int) (v6 : Int) (m7 : (List (ByteArray × Int))) (l8 : (List (List (List (Int × Int))))) (l9 : (List TEdge)) (v10 : Bool) (at_11 : Int) : Option ((List (List (List (Int × Int)))) × (List TEdge) × (List TColour) × (List TPlace) × (List TTask) × Int × Int × Int × Bool × (List (ByteArray × Int))) :=
  (idx l8 at_11).bind fun e22 =>
  (F_orjoin_Fair (TNet.mk v1 v2 v3 v4 v5) e22 v6 9223372036854775807).bind fun x23 =>
  (F_space_explorer_leave_g1 v10 x23).bind (fun l24 => F_space_explorer_leave_k6 x23 e22 at_11 v1 v2 v3 v4 v5 v6 m7 l9 l8 l24)

set_option maxRecDepth 100000 in
set_option maxHeartbeats 4000000 in
theorem F_space_explorer_leave_ok (v1 : (List TColour)) (v2 : (List TPlace)) (v3 : (List TTask)) (v4 : Int) (v5 : Int) (v6 : Int) (m7 : (List (ByteArray × Int))) (l8 : (List (List (List (Int × Int))))) (l9 : (List TEdge)) (v10 : Bool) (at_11 : Int) {r : ((List (List (List (Int × Int)))) × (List TEdge) × (List TColour) × (List TPlace) × (List TTask) × Int × Int × Int × Bool × (List (ByteArray × Int)))} (h : F_space_explorer_leave v1 v2 v3 v4 v5 v6 m7 l8 l9 v10 at_11 = some r) : ACalls Tryz.prog 39 [.loc 200000 0 0, .i .i64 at_11] [(200000, .var [.sl 7 (v1.map row_TColour), .sl 3 (v2.map row_TPlace), .sl 14 (v3.map row_TTask), .i .i64 v4, .i .i64 v5, .i .i64 v6, .map 200001, .own 100000 l8.length, .own 100001 l9.length, .b v10]), (200001, .map (mapV V.s (V.i .i64) m7)), (100000, .arr 1 (l8.map row_LLA2I)), (100001, .arr 6 (l9.map row_TEdge))] (Gives (.tup []) [(100000, .arr 1 (r.1.map row_LLA2I)), (100001, .arr 6 (r.2.1.map row_TEdge)), (200000, .var [.sl 7 (r.2.2.1.map row_TColour), .sl 3 (r.2.2.2.1.map row_TPlace), .sl 14 (r.2.2.2.2.1.map row_TTask), .i .i64 r.2.2.2.2.2.1, .i .i64 r.2.2.2.2.2.2.1, .i .i64 r.2.2.2.2.2.2.2.1, .map 200001, .own 100000 r.1.length, .own 100001 r.2.1.length, .b r.2.2.2.2.2.2.2.2.1]), (200001, .map (mapV V.s (V.i .i64) r.2.2.2.2.2.2.2.2.2))]) := by
  refine ACalls.walk 88 Tryz.func39 rfl Tryz.ntmps39 rfl fun C hC => ?_
  unfold F_space_explorer_leave at h
  obtain ⟨e22, he22, h⟩ := bindE h
  obtain ⟨x23, hx23, h⟩ := bindE h
  refine AK.go tab_ok hC [.n 9, .o (.row (row_LLA2I e22)), .n 4, .keep [0, 1, 4] [100000, 100001, 200000, 200001]] rfl ⟨⟨trivial, (idxOw he22 rfl)⟩, (mapGet (idxE he22).2)⟩ ?_
  refine AK.draw2 tab_ok hC mixed [.a .no none false, .a .no none false, .a .no none false, .a .no (some ([], .agg (row_TNet (TNet.mk v1 v2 v3 v4 v5)))) false, .a .no none false, .a .no none false, .a .no none false, .a .no none false, .a .no none false, .a (.c false [.d, .d, .d, .d] (.tup [.sl 4 (x23.1.map row_TMode), .b x23.2])) none false, .a .no none false, .a .no none false, .a .no none false, .a .no none false, .a .no none false] [] [] [0, 1, 4, 5, 6] [100000, 100001, 200000, 200001] rfl rfl rfl ⟨⟨trivial, rfl⟩, (F_orjoin_Fair_ok _ _ _ _ hx23)⟩ rfl (by kernel_rfl) rfl rfl rfl ?_
  refine AK.go tab_ok hC [.n 2] rfl trivial ?_
  obtain ⟨l24, hv25, h⟩ := bindE h
  replace h : F_space_explorer_leave_k6 x23 e22 at_11 v1 v2 v3 v4 v5 v6 m7 l9 l8 l24 = some r := h
  refine AK.meetX (fun σ => σ = ⟨[(0, .loc 200000 0 0), (1, .i .i64 at_11), (4, .sl 1 (e22.map row_LA2I)), (5, .sl 4 (x23.1.map row_TMode))], [(100000, .arr 1 (l8.map row_LLA2I)), (100001, .arr 6 (l9.map row_TEdge)), (200000, .var [.sl 7 (v1.map row_TColour), .sl 3 (v2.map row_TPlace), .sl 14 (v3.map row_TTask), .i .i64 v4, .i .i64 v5, .i .i64 v6, .map 200001, .own 100000 l8.length, .own 100001 l9.length, .b l24]), (200001, .map (mapV V.s (V.i .i64) m7))]⟩) ?_ ?_
  · replace h := hv25
    unfold F_space_explorer_leave_g1 at h
    refine AK.go tab_ok hC [.n 8] rfl trivial ?_
    rcases bifE h with ⟨hc26, h⟩ | ⟨hc26, h⟩
    · refine AK.go tab_ok hC [.say 39 (.b true), .n 6, .sayO 200000 (.var [.sl 7 (v1.map row_TColour), .sl 3 (v2.map row_TPlace), .sl 14 (v3.map row_TTask), .i .i64 v4, .i .i64 v5, .i .i64 v6, .map 200001, .own 100000 l8.length, .own 100001 l9.length, .b x23.2]), .n 1, .keep [0, 1, 4, 5] [100000, 100001, 200000, 200001]] rfl ⟨⟨trivial, (congrArg V.b hc26)⟩, rfl⟩ ?_
      obtain rfl := Option.some.inj h
      exact AK.met rfl
    · refine AK.go tab_ok hC [.say 39 (.b false), .n 6, .sayO 200000 (.var [.sl 7 (v1.map row_TColour), .sl 3 (v2.map row_TPlace), .sl 14 (v3.map row_TTask), .i .i64 v4, .i .i64 v5, .i .i64 v6, .map 200001, .own 100000 l8.length, .own 100001 l9.length, .b false]), .n 1, .keep [0, 1, 4, 5] [100000, 100001, 200000, 200001]] rfl ⟨⟨trivial, (congrArg V.b hc26)⟩, rfl⟩ ?_
      obtain rfl := Option.some.inj h
      exact AK.met rfl
  · rintro σ rfl
    replace h : F_space_explorer_leave_k6 x23 e22 at_11 v1 v2 v3 v4 v5 v6 m7 l9 l8 l24 = some r := h
    unfold F_space_explorer_leave_k6 at h
    refine AK.go tab_ok hC [.n 4, .o (.ln x23.1.length), .n 4, .keep [0, 1, 4, 45, 46, 47] [100000, 100001, 200000, 200001]] rfl ⟨trivial, mapLen⟩ ?_
    obtain ⟨o87, hl87, h⟩ := bindE h
    refine AK.loop (body := (fun st => F_space_explorer_leave_l4 x23 e22 at_11 st.1 st.2.1 st.2.2.1 st.2.2.2.1 st.2.2.2.2.1 st.2.2.2.2.2.1 st.2.2.2.2.2.2.1 st.2.2.2.2.2.2.2.1 st.2.2.2.2.2.2.2.2.1 st.2.2.2.2.2.2.2.2.2.1 st.2.2.2.2.2.2.2.2.2.2)) (fun st σ => σ = ⟨[(0, .loc 200000 0 0), (1, .i .i64 at_11), (4, .sl 1 (e22.map row_LA2I)), (45, .sl 4 (x23.1.map row_TMode)), (46, .i .i64 (x23.1.length : Int)), (47, .i .i64 st.1)], [(100000, .arr 1 (st.2.2.2.2.2.2.2.2.2.2.map row_LLA2I)), (100001, .arr 6 (st.2.2.2.2.2.2.2.2.2.1.map row_TEdge)), (200000, .var [.sl 7 (st.2.1.map row_TColour), .sl 3 (st.2.2.1.map row_TPlace), .sl 14 (st.2.2.2.1.map row_TTask), .i .i64 st.2.2.2.2.1, .i .i64 st.2.2.2.2.2.1, .i .i64 st.2.2.2.2.2.2.1, .map 200001, .own 100000 st.2.2.2.2.2.2.2.2.2.2.length, .own 100001 st.2.2.2.2.2.2.2.2.2.1.length, .b st.2.2.2.2.2.2.2.1]), (200001, .map (mapV V.s (V.i .i64) st.2.2.2.2.2.2.2.2.1))]⟩) (fun q e σ => e = .exit 0 ∧ σ = ⟨[], [(100000, .arr 1 (q.2.2.2.2.2.2.2.2.2.map row_LLA2I)), (100001, .arr 6 (q.2.2.2.2.2.2.2.2.1.map row_TEdge)), (200000, .var [.sl 7 (q.1.map row_TColour), .sl 3 (q.2.1.map row_TPlace), .sl 14 (q.2.2.1.map row_TTask), .i .i64 q.2.2.2.1, .i .i64 q.2.2.2.2.1, .i .i64 q.2.2.2.2.2.1, .map 200001, .own 100000 q.2.2.2.2.2.2.2.2.2.length, .own 100001 q.2.2.2.2.2.2.2.2.1.length, .b q.2.2.2.2.2.2.1]), (200001, .map (mapV V.s (V.i .i64) q.2.2.2.2.2.2.2.1))]⟩) hl87 rfl ?_ ?_
    · rintro ⟨x28, l29, l30, l31, l32, l33, l34, l35, m36, l37, l38⟩ o σ rfl h
      replace h : F_space_explorer_leave_l4 x23 e22 at_11 x28 l29 l30 l31 l32 l33 l34 l35 m36 l37 l38 = some o := h
      unfold F_space_explorer_leave_l4 at h
      refine AK.go tab_ok hC [.n 6] rfl trivial ?_
      rcases bifE h with ⟨hc60, h⟩ | ⟨hc60, h⟩
      · refine AK.go tab_ok hC [.br true, .n 2] rfl ⟨trivial, hc60⟩ ?_
        refine AK.meet (fun σ => ∃ l61 : (List TColour), ∃ l62 : (List TPlace), ∃ l63 : (List TTask), ∃ l64 : Int, ∃ l65 : Int, ∃ l66 : Int, ∃ l67 : Bool, ∃ m68 : (List (ByteArray × Int)), ∃ l69 : (List TEdge), ∃ l70 : (List (List (List (Int × Int)))), σ = ⟨[(0, .loc 200000 0 0), (1, .i .i64 at_11), (4, .sl 1 (e22.map row_LA2I)), (45, .sl 4 (x23.1.map row_TMode)), (46, .i .i64 (x23.1.length : Int)), (47, .i .i64 x28)], [(100000, .arr 1 (l70.map row_LLA2I)), (100001, .arr 6 (l69.map row_TEdge)), (200000, .var [.sl 7 (l61.map row_TColour), .sl 3 (l62.map row_TPlace), .sl 14 (l63.map row_TTask), .i .i64 l64, .i .i64 l65, .i .i64 l66, .map 200001, .own 100000 l70.length, .own 100001 l69.length, .b l67]), (200001, .map (mapV V.s (V.i .i64) m68))]⟩ ∧ F_space_explorer_leave_k2 x28 l61 l62 l63 l64 l65 l66 l67 m68 l69 l70 = some o) ?_ ?_
        · obtain ⟨e71, he71, h⟩ := bindE h
          obtain ⟨x72, hx72, h⟩ := bindE h
          refine AK.go tab_ok hC [.n 3, .o (.row (row_TMode e71)), .v .no [] (.agg (row_TMode e71)), .n 2, .sayO 8 (.var (row_TMode e71)), .n 3, .keep [0, 1, 4, 8, 45, 46, 47] [8, 100000, 100001, 200000, 200001]] rfl ⟨⟨⟨trivial, (idxM he71)⟩, rfl⟩, rfl⟩ ?_
          refine AK.draw2 tab_ok hC mixed [.a .no none false, .a .no none false, .a .no none false, .a .no (some ([], .agg (row_TNet (TNet.mk l29 l30 l31 l32 l33)))) false, .a .no none false, .a .no (some ([], .agg (row_TMode e71))) false, .a (.c false [.d, .d, .d] (.tup [.sl 1 (x72.1.map row_LA2I), .i .i64 x72.2])) none false, .a .no none false, .a .no none false, .a .no none false, .a .no none false, .a .no none false] [] [] [0, 1, 4, 8, 9, 10, 45, 46, 47] [8, 100000, 100001, 200000, 200001] rfl rfl rfl ⟨⟨⟨trivial, rfl⟩, rfl⟩, (F_fire_Do_ok _ _ _ hx72)⟩ rfl (by kernel_rfl) rfl rfl rfl ?_
          refine AK.go tab_ok hC [.n 6] rfl trivial ?_
          refine AK.meet (fun σ => ∃ k73 : Int, ∃ l74 : (List TColour), ∃ l75 : (List TPlace), ∃ l76 : (List TTask), ∃ l77 : Int, ∃ l78 : Int, ∃ l79 : Int, ∃ l80 : Bool, ∃ m81 : (List (ByteArray × Int)), ∃ l82 : (List (List (List (Int × Int)))), σ = ⟨[(0, .loc 200000 0 0), (1, .i .i64 at_11), (4, .sl 1 (e22.map row_LA2I)), (8, .loc 8 0 0), (11, .i .i64 k73), (45, .sl 4 (x23.1.map row_TMode)), (46, .i .i64 (x23.1.length : Int)), (47, .i .i64 x28)], [(8, .var (row_TMode e71)), (100000, .arr 1 (l82.map row_LLA2I)), (100001, .arr 6 (l37.map row_TEdge)), (200000, .var [.sl 7 (l74.map row_TColour), .sl 3 (l75.map row_TPlace), .sl 14 (l76.map row_TTask), .i .i64 l77, .i .i64 l78, .i .i64 l79, .map 200001, .own 100000 l82.length, .own 100001 l37.length, .b l80]), (200001, .map (mapV V.s (V.i .i64) m81))]⟩ ∧ F_space_explorer_leave_k3 x28 l37 at_11 e71 k73 l74 l75 l76 l77 l78 l79 l80 m81 l82 = some o) ?_ ?_
          · refine AK.go tab_ok hC [.n 6] rfl trivial ?_
            rcases bifE h with ⟨hc85, h⟩ | ⟨hc85, h⟩
            · obtain ⟨x86, hx86, h⟩ := bindE h
              refine AK.go tab_ok hC [.br true, .n 3, .cm (.fn) [(200000, 200000), (200001, 200001), (100000, 100000), (100001, 100001)] [(100000, 100000), (100001, 100001), (200000, 200000), (200001, 200001)] [100000, 100001] [.d, .d] [(100000, .arr 1 (x86.2.1.map row_LLA2I)), (100001, .arr 6 (l37.map row_TEdge)), (200000, .var [.sl 7 (x86.2.2.1.map row_TColour), .sl 3 (x86.2.2.2.1.map row_TPlace), .sl 14 (x86.2.2.2.2.1.map row_TTask), .i .i64 x86.2.2.2.2.2.1, .i .i64 x86.2.2.2.2.2.2.1, .i .i64 x86.2.2.2.2.2.2.2.1, .map 200001, .own 100000 x86.2.1.length, .own 100001 l37.length, .b x86.2.2.2.2.2.2.2.2.1]), (200001, .map (mapV V.s (V.i .i64) x86.2.2.2.2.2.2.2.2.2))] (.i .i64 x86.1), .n 2, .keep [0, 1, 4, 8, 11, 45, 46, 47] [8, 100000, 100001, 200000, 200001]] rfl ⟨⟨trivial, hc85⟩, (F_space_explorer_state_ok _ _ _ _ _ _ _ _ _ _ _ hx86)⟩ ?_
              exact AK.met (Exists.intro _ (Exists.intro _ (Exists.intro _ (Exists.intro _ (Exists.intro _ (Exists.intro _ (Exists.intro _ (Exists.intro _ (Exists.intro _ (Exists.intro _ (And.intro rfl h)))))))))))
            · refine AK.go tab_ok hC [.br false, .n 1, .keep [0, 1, 4, 8, 11, 45, 46, 47] [8, 100000, 100001, 200000, 200001]] rfl ⟨trivial, hc85⟩ ?_
              exact AK.met (Exists.intro _ (Exists.intro _ (Exists.intro _ (Exists.intro _ (Exists.intro _ (Exists.intro _ (Exists.intro _ (Exists.intro _ (Exists.intro _ (Exists.intro _ (And.intro rfl h)))))))))))
          · rintro σ ⟨k73, l74, l75, l76, l77, l78, l79, l80, m81, l82, rfl, h⟩
            unfold F_space_explorer_leave_k3 at h
            refine AK.go tab_ok hC [.n 7] rfl trivial ?_
            rcases bifE h with ⟨hc83, h⟩ | ⟨hc83, h⟩
            · refine AK.go tab_ok hC [.br true, .n 7, .sayO 200000 (.var [.sl 7 (l74.map row_TColour), .sl 3 (l75.map row_TPlace), .sl 14 (l76.map row_TTask), .i .i64 l77, .i .i64 l78, .i .i64 l79, .map 200001, .own 100000 l82.length, .own 100001 l37.length, .b false]), .n 5, .keep [0, 1, 4, 45, 46, 47] [100000, 100001, 200000, 200001]] rfl ⟨⟨trivial, hc83⟩, rfl⟩ ?_
              exact AK.met (Exists.intro _ (Exists.intro _ (Exists.intro _ (Exists.intro _ (Exists.intro _ (Exists.intro _ (Exists.intro _ (Exists.intro _ (Exists.intro _ (Exists.intro _ (And.intro rfl h)))))))))))
            · obtain ⟨_, hk84, h⟩ := bindE h
              replace hk84 := chkE hk84
              refine AK.go tab_ok hC [.br false, .n 2, .keep [0, 1, 4, 8, 11, 45, 46, 47] [8, 100000, 100001, 200000, 200001]] rfl ⟨trivial, hc83⟩ ?_
              refine AK.draw2 tab_ok hC mixed [.a .no none true, .a .no none false, .a .no none false, .a .no none false, .a .no none false, .a .no none false, .a .no none false, .a .no none false, .a .no (some ([], .agg (row_TMode e71))) false, .a .no (some ([], .agg (row_TEdge (TEdge.mk at_11 k73 e71)))) false, .a (.bd []) (some ([], .sl 6 (([(TEdge.mk at_11 k73 e71)] : List TEdge).map row_TEdge))) false, .m (.app ((l37 ++ [(TEdge.mk at_11 k73 e71)]).map row_TEdge) (l37 ++ [(TEdge.mk at_11 k73 e71)]).length), .a .no none false, .a .no none false, .a .no none false, .m .s] [0, 1, 4, 8, 11, 45, 46, 47] [8, 100000, 200001] [0, 1, 4, 45, 46, 47] [100000, 100001, 200000, 200001] rfl rfl rfl ⟨⟨⟨⟨trivial, rfl⟩, rfl⟩, rfl⟩, ⟨mapLen, appLim hk84 mapLen, mapApps, appLn mapLen⟩⟩ rfl (by kernel_rfl) rfl rfl rfl ?_
              refine AK.go tab_ok hC [.sayO 200000 (.var [.sl 7 (l74.map row_TColour), .sl 3 (l75.map row_TPlace), .sl 14 (l76.map row_TTask), .i .i64 l77, .i .i64 l78, .i .i64 l79, .map 200001, .own 100000 l82.length, .own 100001 (l37 ++ [(TEdge.mk at_11 k73 e71)]).length, .b l80]), .n 1, .keep [0, 1, 4, 45, 46, 47] [100000, 100001, 200000, 200001]] rfl ⟨trivial, rfl⟩ ?_
              exact AK.met (Exists.intro _ (Exists.intro _ (Exists.intro _ (Exists.intro _ (Exists.intro _ (Exists.intro _ (Exists.intro _ (Exists.intro _ (Exists.intro _ (Exists.intro _ (And.intro rfl h)))))))))))
        · rintro σ ⟨l61, l62, l63, l64, l65, l66, l67, m68, l69, l70, rfl, h⟩
          unfold F_space_explorer_leave_k2 at h
          refine AK.go tab_ok hC [.n 4, .keep [0, 1, 4, 45, 46, 47] [100000, 100001, 200000, 200001]] rfl trivial ?_
          obtain rfl := Option.some.inj h
          exact rndN rfl rfl
      · refine AK.go tab_ok hC [.br false, .n 2, .keep [] [100000, 100001, 200000, 200001]] rfl ⟨trivial, hc60⟩ ?_
        obtain rfl := Option.some.inj h
        exact rndX rfl (And.intro rfl rfl)
    · obtain ⟨l50, l51, l52, l53, l54, l55, l56, m57, l58, l59⟩ := o87
      replace h : F_space_explorer_leave_c5 l50 l51 l52 l53 l54 l55 l56 m57 l58 l59 = some r := h
      unfold F_space_explorer_leave_c5 at h
      rintro e σ ⟨rfl, rfl⟩
      refine AK.go tab_ok hC [.n 1, .keep [] [100000, 100001, 200000, 200001]] rfl trivial ?_
      obtain rfl := Option.some.inj h
      refine AK.done ?_
      exact Exists.intro [] (And.intro trivial (gives ⟨rfl, rfl, rfl, rfl, trivial⟩))

-- 28 baldric/space.From
noncomputable def F_space_From_k1 (at_10 : Int) (l43 : (List TColour)) (l44 : (List TPlace)) (l45 : (List TTask)) (l46 : Int) (l47 : Int) (l48 : Int) (l49 : Bool) (m50 : (List (ByteArray × Int))) (l51 : (List (List (List (Int × Int))))) (l52 : (List TEdge)) : Option ((Int × (List TColour) × (List TPlace) × (List TTask) × Int × Int × Int × Bool × (List (ByteArray × Int)) × (List (List (List (Int × Int)))) × (List TEdge)) ⊕ ((List TColour) × (List TPlace) × (List TTask) × Int × Int × Int × Bool × (List (ByteArray × Int)) × (List (List (List (Int × Int)))) × (List TEdge))) :=
  some (.inl ((w64 (at_10 + 1)), l43, l44, l45, l46, l47, l48, l49, m50, l51, l52))

noncomputable def F_space_From_l2 (tokens4 : Int) (at_10 : Int) (l11 : (List TColour)) (l12 : (List TPlace)) (l13 : (List TTask)) (l14 : Int) (l15 : Int) (l16 : Int) (l17 : Bool) (m18 : (List (ByteArray × Int))) (l19 : (List (List (List (Int × Int))))) (l20 : (List TEdge)) : Option ((Int × (List TColour) × (List TPlace) × (List TTask) × Int × Int × Int × Bool × (List (ByteArray × Int)) × (List (List (List (Int × Int)))) × (List TEdge)) ⊕ ((List TColour) × (List TPlace) × (List TTask) × Int × Int × Int × Bool × (List (ByteArray × Int)) × (List (List (List (Int × Int)))) × (List TEdge))) :=
  bif (decide (at_10 < (l19.length : Int))) then
  (idx l19 at_10).bind fun e53 =>
  (F_mark_Total e53).bind fun x54 =>
  bif (decide (tokens4 < x54)) then
  F_space_From_k1 at_10 l11 l12 l13 l14 l15 l16 false m18 l19 l20
  else
  (F_space_explorer_leave l11 l12 l13 l14 l15 l16 m18 l19 l20 l17 at_10).bind fun x56 =>
  F_space_From_k1 at_10 x56.2.2.1 x56.2.2.2.1 x56.2.2.2.2.1 x56.2.2.2.2.2.1 x56.2.2.2.2.2.2.1 x56.2.2.2.2.2.2.2.1 x56.2.2.2.2.2.2.2.2.1 x56.2.2.2.2.2.2.2.2.2 x56.1 x56.2.1
  else
  some (.inr (l11, l12, l13, l14, l15, l16, l17, m18, l19, l20))

noncomputable def F_space_From_c3 (l32 : (List TColour)) (l33 : (List TPlace)) (l34 : (List TTask)) (l35 : Int) (l36 : Int) (l37 : Int) (l38 : Bool) (m39 : (List (ByteArray × Int))) (l40 : (List (List (List (Int × Int))))) (l41 : (List TEdge)) : Option TSpace :=
  some (TSpace.mk l40 l41 l38)

noncomputable def F_space_From (n1 : TNet) (m2 : (List (List (Int × Int)))) (budget3 : Int) (tokens4 : Int) : Option TSpace :=
  bif (decide (budget3 ≤ 0)) then
  none
  else
  (F_mark_Copy m2).bind fun x7 =>
  (F_space_explorer_state n1.Colours n1.Places n1.Tasks n1.From n1.To budget3 ([] : (List (ByteArray × Int))) ([] : List (List (List (Int × Int)))) ([] : List TEdge) true x7).bind fun x8 =>
  (loopM (fun st => F_space_From_l2 tokens4 st.1 st.2.1 st.2.2.1 st.2.2.2.1 st.2.2.2.2.1 st.2.2.2.2.2.1 st.2.2.2.2.2.2.1 st.2.2.2.2.2.2.2.1 st.2.2.2.2.2.2.2.2.1 st.2.2.2.2.2.2.2.2.2.1 st.2.2.2.2.2.2.2.2.2.2) (0, x8.2.2.1, x8.2.2.2.1, x8.2.2.2.2.1, x8.2.2.2.2.2.1, x8.2.2.2.2.2.2.1, x8.2.2.2.2.2.2.2.1, x8.2.2.2.2.2.2.2.2.1, x8.2.2.2.2.2.2.2.2.2, x8.2.1, ([] : List TEdge))).bind (fun q => F_space_From_c3 q.1 q.2.1 q.2.2.1 q.2.2.2.1 q.2.2.2.2.1 q.2.2.2.2.2.1 q.2.2.2.2.2.2.1 q.2.2.2.2.2.2.2.1 q.2.2.2.2.2.2.2.2.1 q.2.2.2.2.2.2.2.2.2)

set_option maxRecDepth 100000 in
set_option maxHeartbeats 4000000 in
theorem F_space_From_ok (n1 : TNet) (m2 : (List (List (Int × Int)))) (budget3 : Int) (tokens4 : Int) {r : TSpace} (h : F_space_From n1 m2 budget3 tokens4 = some r) : ACalls Tryz.prog 28 [.agg (row_TNet n1), .sl 1 (m2.map row_LA2I), .i .i64 budget3, .i .i64 tokens4] [] (Gives (.agg (row_TSpace r)) []) := by
  refine ACalls.walk 59 Tryz.func28 rfl Tryz.ntmps28 rfl fun C hC => ?_
  unfold F_space_From at h
  refine AK.go tab_ok hC [.n 13] rfl trivial ?_
  rcases bifE h with ⟨hc6, h⟩ | ⟨hc6, h⟩
  · refine AK.go tab_ok hC [.br true, .n 1] rfl ⟨trivial, hc6⟩ ?_
    cases h
  · obtain ⟨x7, hx7, h⟩ := bindE h
    obtain ⟨x8, hx8, h⟩ := bindE h
    refine AK.go tab_ok hC [.br false, .n 4, .v .no [] (.agg (row_TNet n1)), .n 2, .sayO 16 (.map (mapV V.s (V.i .i64) ([] : (List (ByteArray × Int))))), .v .no [] (.agg [.sl 7 (n1.Colours.map row_TColour), .sl 3 (n1.Places.map row_TPlace), .sl 14 (n1.Tasks.map row_TTask), .i .i64 n1.From, .i .i64 n1.To, .i .i64 budget3, .map 16, .lit (.slice none 0 0), .lit (.slice none 0 0), .b false]), .n 11, .sayO 18 (.var [.sl 7 (n1.Colours.map row_TColour), .sl 3 (n1.Places.map row_TPlace), .sl 14 (n1.Tasks.map row_TTask), .i .i64 n1.From, .i .i64 n1.To, .i .i64 budget3, .map 16, .lit (.slice none 0 0), .lit (.slice none 0 0), .b true]), .n 6, .o (.co false [.d] 1 (x7.map row_LA2I) x7.length), .frz 25 (x7.map row_LA2I) [25] [], .adoptO 18 7 45367 1, .sayO 45367 (.arr 1 (([] : List (List (List (Int × Int)))).map row_LLA2I)), .sayO 18 (.var [.sl 7 (n1.Colours.map row_TColour), .sl 3 (n1.Places.map row_TPlace), .sl 14 (n1.Tasks.map row_TTask), .i .i64 n1.From, .i .i64 n1.To, .i .i64 budget3, .map 16, .own 45367 ([] : List (List (List (Int × Int)))).length, .lit (.slice none 0 0), .b true]), .adoptO 18 8 45368 6, .sayO 45368 (.arr 6 (([] : List TEdge).map row_TEdge)), .sayO 18 (.var [.sl 7 (n1.Colours.map row_TColour), .sl 3 (n1.Places.map row_TPlace), .sl 14 (n1.Tasks.map row_TTask), .i .i64 n1.From, .i .i64 n1.To, .i .i64 budget3, .map 16, .own 45367 ([] : List (List (List (Int × Int)))).length, .own 45368 ([] : List TEdge).length, .b true]), .cm (.fn) [(200000, 18), (200001, 16), (100000, 45367), (100001, 45368)] [(45367, 100000), (45368, 100001), (18, 200000), (16, 200001)] [45367, 45368] [.d, .d] [(100000, .arr 1 (x8.2.1.map row_LLA2I)), (100001, .arr 6 (([] : List TEdge).map row_TEdge)), (200000, .var [.sl 7 (x8.2.2.1.map row_TColour), .sl 3 (x8.2.2.2.1.map row_TPlace), .sl 14 (x8.2.2.2.2.1.map row_TTask), .i .i64 x8.2.2.2.2.2.1, .i .i64 x8.2.2.2.2.2.2.1, .i .i64 x8.2.2.2.2.2.2.2.1, .map 200001, .own 100000 x8.2.1.length, .own 100001 ([] : List TEdge).length, .b x8.2.2.2.2.2.2.2.2.1]), (200001, .map (mapV V.s (V.i .i64) x8.2.2.2.2.2.2.2.2.2))] (.i .i64 x8.1), .n 9, .keep [3, 8, 9, 10] [8, 16, 18, 45367, 45368]] rfl ⟨⟨⟨⟨⟨⟨⟨⟨⟨⟨⟨⟨trivial, hc6⟩, rfl⟩, rfl⟩, rfl⟩, rfl⟩, ⟨(F_mark_Copy_ok _ hx7), mapLen, .inl rfl⟩⟩, ⟨trivial, (frzL mapLen)⟩⟩, rfl⟩, rfl⟩, rfl⟩, rfl⟩, (F_space_explorer_state_ok _ _ _ _ _ _ _ _ _ _ _ hx8)⟩ ?_
    obtain ⟨o57, hl57, h⟩ := bindE h
    refine AK.loop (body := (fun st => F_space_From_l2 tokens4 st.1 st.2.1 st.2.2.1 st.2.2.2.1 st.2.2.2.2.1 st.2.2.2.2.2.1 st.2.2.2.2.2.2.1 st.2.2.2.2.2.2.2.1 st.2.2.2.2.2.2.2.2.1 st.2.2.2.2.2.2.2.2.2.1 st.2.2.2.2.2.2.2.2.2.2)) (fun st σ => σ = ⟨[(3, .i .i64 tokens4), (8, .loc 8 0 0), (9, .loc 18 0 0), (10, .i .i64 st.1)], [(8, .var [.lit (.slice none 0 0), .lit (.slice none 0 0), .b false]), (16, .map (mapV V.s (V.i .i64) st.2.2.2.2.2.2.2.2.1)), (18, .var [.sl 7 (st.2.1.map row_TColour), .sl 3 (st.2.2.1.map row_TPlace), .sl 14 (st.2.2.2.1.map row_TTask), .i .i64 st.2.2.2.2.1, .i .i64 st.2.2.2.2.2.1, .i .i64 st.2.2.2.2.2.2.1, .map 16, .own 45367 st.2.2.2.2.2.2.2.2.2.1.length, .own 45368 st.2.2.2.2.2.2.2.2.2.2.length, .b st.2.2.2.2.2.2.2.1]), (45367, .arr 1 (st.2.2.2.2.2.2.2.2.2.1.map row_LLA2I)), (45368, .arr 6 (st.2.2.2.2.2.2.2.2.2.2.map row_TEdge))]⟩) (fun q e σ => e = .exit 0 ∧ σ = ⟨[(8, .loc 8 0 0), (9, .loc 18 0 0)], [(8, .var [.lit (.slice none 0 0), .lit (.slice none 0 0), .b false]), (16, .map (mapV V.s (V.i .i64) q.2.2.2.2.2.2.2.1)), (18, .var [.sl 7 (q.1.map row_TColour), .sl 3 (q.2.1.map row_TPlace), .sl 14 (q.2.2.1.map row_TTask), .i .i64 q.2.2.2.1, .i .i64 q.2.2.2.2.1, .i .i64 q.2.2.2.2.2.1, .map 16, .own 45367 q.2.2.2.2.2.2.2.2.1.length, .own 45368 q.2.2.2.2.2.2.2.2.2.length, .b q.2.2.2.2.2.2.1]), (45367, .arr 1 (q.2.2.2.2.2.2.2.2.1.map row_LLA2I)), (45368, .arr 6 (q.2.2.2.2.2.2.2.2.2.map row_TEdge))]⟩) hl57 rfl ?_ ?_
    · rintro ⟨at_10, l11, l12, l13, l14, l15, l16, l17, m18, l19, l20⟩ o σ rfl h
      replace h : F_space_From_l2 tokens4 at_10 l11 l12 l13 l14 l15 l16 l17 m18 l19 l20 = some o := h
      unfold F_space_From_l2 at h
      refine AK.go tab_ok hC [.n 13] rfl trivial ?_
      rcases bifE h with ⟨hc42, h⟩ | ⟨hc42, h⟩
      · refine AK.go tab_ok hC [.br true, .n 2] rfl ⟨trivial, hc42⟩ ?_
        refine AK.meet (fun σ => ∃ l43 : (List TColour), ∃ l44 : (List TPlace), ∃ l45 : (List TTask), ∃ l46 : Int, ∃ l47 : Int, ∃ l48 : Int, ∃ l49 : Bool, ∃ m50 : (List (ByteArray × Int)), ∃ l51 : (List (List (List (Int × Int)))), ∃ l52 : (List TEdge), σ = ⟨[(3, .i .i64 tokens4), (8, .loc 8 0 0), (9, .loc 18 0 0), (10, .i .i64 at_10)], [(8, .var [.lit (.slice none 0 0), .lit (.slice none 0 0), .b false]), (16, .map (mapV V.s (V.i .i64) m50)), (18, .var [.sl 7 (l43.map row_TColour), .sl 3 (l44.map row_TPlace), .sl 14 (l45.map row_TTask), .i .i64 l46, .i .i64 l47, .i .i64 l48, .map 16, .own 45367 l51.length, .own 45368 l52.length, .b l49]), (45367, .arr 1 (l51.map row_LLA2I)), (45368, .arr 6 (l52.map row_TEdge))]⟩ ∧ F_space_From_k1 at_10 l43 l44 l45 l46 l47 l48 l49 m50 l51 l52 = some o) ?_ ?_
        · obtain ⟨e53, he53, h⟩ := bindE h
          obtain ⟨x54, hx54, h⟩ := bindE h
          refine AK.go tab_ok hC [.n 11, .o (.row (row_LLA2I e53)), .o (.c false [.d] (.i .i64 x54)), .n 4] rfl ⟨⟨⟨trivial, (idxOw he53 rfl)⟩, (mapGet (idxE he53).2)⟩, (F_mark_Total_ok _ hx54)⟩ ?_
          rcases bifE h with ⟨hc55, h⟩ | ⟨hc55, h⟩
          · refine AK.go tab_ok hC [.br true, .n 7, .sayO 18 (.var [.sl 7 (l11.map row_TColour), .sl 3 (l12.map row_TPlace), .sl 14 (l13.map row_TTask), .i .i64 l14, .i .i64 l15, .i .i64 l16, .map 16, .own 45367 l19.length, .own 45368 l20.length, .b false]), .n 5, .keep [3, 8, 9, 10] [8, 16, 18, 45367, 45368]] rfl ⟨⟨trivial, hc55⟩, rfl⟩ ?_
            exact AK.met (Exists.intro _ (Exists.intro _ (Exists.intro _ (Exists.intro _ (Exists.intro _ (Exists.intro _ (Exists.intro _ (Exists.intro _ (Exists.intro _ (Exists.intro _ (And.intro rfl h)))))))))))
          · obtain ⟨x56, hx56, h⟩ := bindE h
            refine AK.go tab_ok hC [.br false, .n 5, .cm (.fn) [(200000, 18), (200001, 16), (100000, 45367), (100001, 45368)] [(45367, 100000), (45368, 100001), (18, 200000), (16, 200001)] [45367, 45368] [.d, .d] [(100000, .arr 1 (x56.1.map row_LLA2I)), (100001, .arr 6 (x56.2.1.map row_TEdge)), (200000, .var [.sl 7 (x56.2.2.1.map row_TColour), .sl 3 (x56.2.2.2.1.map row_TPlace), .sl 14 (x56.2.2.2.2.1.map row_TTask), .i .i64 x56.2.2.2.2.2.1, .i .i64 x56.2.2.2.2.2.2.1, .i .i64 x56.2.2.2.2.2.2.2.1, .map 200001, .own 100000 x56.1.length, .own 100001 x56.2.1.length, .b x56.2.2.2.2.2.2.2.2.1]), (200001, .map (mapV V.s (V.i .i64) x56.2.2.2.2.2.2.2.2.2))] (.tup []), .n 2, .keep [3, 8, 9, 10] [8, 16, 18, 45367, 45368]] rfl ⟨⟨trivial, hc55⟩, (F_space_explorer_leave_ok _ _ _ _ _ _ _ _ _ _ _ hx56)⟩ ?_
            exact AK.met (Exists.intro _ (Exists.intro _ (Exists.intro _ (Exists.intro _ (Exists.intro _ (Exists.intro _ (Exists.intro _ (Exists.intro _ (Exists.intro _ (Exists.intro _ (And.intro rfl h)))))))))))
        · rintro σ ⟨l43, l44, l45, l46, l47, l48, l49, m50, l51, l52, rfl, h⟩
          unfold F_space_From_k1 at h
          refine AK.go tab_ok hC [.n 5, .keep [3, 8, 9, 10] [8, 16, 18, 45367, 45368]] rfl trivial ?_
          obtain rfl := Option.some.inj h
          exact rndN rfl rfl
      · refine AK.go tab_ok hC [.br false, .n 2, .keep [8, 9] [8, 16, 18, 45367, 45368]] rfl ⟨trivial, hc42⟩ ?_
        obtain rfl := Option.some.inj h
        exact rndX rfl (And.intro rfl rfl)
    · obtain ⟨l32, l33, l34, l35, l36, l37, l38, m39, l40, l41⟩ := o57
      replace h : F_space_From_c3 l32 l33 l34 l35 l36 l37 l38 m39 l40 l41 = some r := h
      unfold F_space_From_c3 at h
      rintro e σ ⟨rfl, rfl⟩
      refine AK.go tab_ok hC [.n 9, .sayO 8 (.var [.own 45367 l40.length, .own 45368 l41.length, .b l38]), .n 3, .frz 45367 (l40.map row_LLA2I) [] [8], .frz 45368 (l41.map row_TEdge) [] [8], .keep [8] [8]] rfl ⟨⟨⟨trivial, rfl⟩, ⟨trivial, ⟨(frzL mapLen), ⟨trivial, trivial⟩⟩⟩⟩, ⟨trivial, ⟨(frzL mapLen), trivial⟩⟩⟩ ?_
      obtain rfl := Option.some.inj h
      refine AK.done ?_
      exact Exists.intro [_] (And.intro (And.intro (Exists.intro _ (Exists.intro _ (And.intro rfl (And.intro rfl (Or.inl (And.intro (tab_ok.ag rfl) (And.intro (tab_ok.sz rfl) rfl))))))) trivial) (gives trivial))

-- 16 baldric/space.Explore
noncomputable def F_space_Explore (n1 : TNet) (budget2 : Int) (tokens3 : Int) : Option TSpace :=
  (F_mark_First n1).bind fun x5 =>
  (F_space_From n1 x5 budget2 tokens3).bind fun x6 =>
  some x6

set_option maxRecDepth 100000 in
set_option maxHeartbeats 4000000 in
theorem F_space_Explore_ok (n1 : TNet) (budget2 : Int) (tokens3 : Int) {r : TSpace} (h : F_space_Explore n1 budget2 tokens3 = some r) : ACalls Tryz.prog 16 [.agg (row_TNet n1), .i .i64 budget2, .i .i64 tokens3] [] (Gives (.agg (row_TSpace r)) []) := by
  refine ACalls.walk 13 Tryz.func16 rfl Tryz.ntmps16 rfl fun C hC => ?_
  unfold F_space_Explore at h
  obtain ⟨x5, hx5, h⟩ := bindE h
  obtain ⟨x6, hx6, h⟩ := bindE h
  refine AK.go tab_ok hC [.n 7, .keep [1, 2, 3, 6] [3, 6]] rfl trivial ?_
  refine AK.draw2 tab_ok hC mixed [.a .no (some ([], .agg (row_TNet n1))) false, .a .no (some ([], .agg (row_TNet n1))) false, .a (.cd false [.d] 1 (x5.map row_LA2I) x5.length) none false, .a .no none false, .a .no none false, .a (.c false [.d, .d, .d, .d] (.agg (row_TSpace x6))) none false, .m .s] [] [] [6] [6] rfl rfl rfl ⟨⟨⟨⟨trivial, rfl⟩, rfl⟩, ⟨(F_mark_First_ok _ hx5), mapLen⟩⟩, (F_space_From_ok _ _ _ _ hx6)⟩ rfl (by kernel_rfl) rfl rfl rfl ?_
  refine AK.go tab_ok hC [.sayO 6 (.var (row_TSpace x6)), .n 2, .keep [6] [6]] rfl ⟨trivial, rfl⟩ ?_
  obtain rfl := Option.some.inj h
  refine AK.done ?_
  exact Exists.intro [_] (And.intro (And.intro (Exists.intro _ (Exists.intro _ (And.intro rfl (And.intro rfl (Or.inl (And.intro (tab_ok.ag rfl) (And.intro (tab_ok.sz rfl) rfl))))))) trivial) (gives trivial))

-- 35 baldric/space.far$1
noncomputable def F_space_far_1 (k1 : Int) (v2 : TSpace) : Option Bool :=
  some ((decide (0 ≤ k1)) && (decide (k1 < (v2.States.length : Int))))

set_option maxRecDepth 100000 in
set_option maxHeartbeats 4000000 in
theorem F_space_far_1_ok (k1 : Int) (v2 : TSpace) {r : Bool} (h : F_space_far_1 k1 v2 = some r) : ACalls Tryz.prog 35 [.i .i64 k1, .loc 200000 0 0] [(200000, .var (row_TSpace v2))] (Gives (.b r) [(200000, .var (row_TSpace v2))]) := by
  refine ACalls.walk 13 Tryz.func35 rfl Tryz.ntmps35 rfl fun C hC => ?_
  unfold F_space_far_1 at h
  refine AK.go tab_ok hC [.n 6] rfl trivial ?_
  refine AK.meetX (fun σ => σ = ⟨[(3, .b ((decide (0 ≤ k1)) && (decide (k1 < (v2.States.length : Int)))))], [(200000, .var (row_TSpace v2))]⟩) ?_ ?_
  · refine AK.go tab_ok hC [.n 4] rfl trivial ?_
    rcases boolOr (decide (0 ≤ k1)) with hc5 | hc5
    · refine AK.go tab_ok hC [.say 6 (.b true), .n 3, .o (.ln v2.States.length), .n 4, .say 3 (.b ((decide (0 ≤ k1)) && (decide (k1 < (v2.States.length : Int))))), .keep [3] [200000]] rfl ⟨⟨⟨trivial, (congrArg V.b hc5)⟩, mapLen⟩, (congrArg V.b (andT hc5 rfl))⟩ ?_
      exact AK.met rfl
    · refine AK.go tab_ok hC [.say 6 (.b false), .n 8, .say 3 (.b ((decide (0 ≤ k1)) && (decide (k1 < (v2.States.length : Int))))), .keep [3] [200000]] rfl ⟨⟨trivial, (congrArg V.b hc5)⟩, (congrArg V.b (andF hc5 rfl))⟩ ?_
      exact AK.met rfl
  · rintro σ rfl
    refine AK.go tab_ok hC [.n 2, .keep [3] [200000]] rfl trivial ?_
    obtain rfl := Option.some.inj h
    refine AK.done ?_
    exact Exists.intro [_] (And.intro (And.intro rfl trivial) (gives ⟨rfl, trivial⟩))

-- 24 baldric/space.far
noncomputable def F_space_far_k1 (x8 : Int) (m14 : (List (Int × (List Int)))) : Option ((Int × (List (Int × (List Int)))) ⊕ (List (Int × (List Int)))) :=
  some (.inl ((w64 (x8 + 1)), m14))

noncomputable def F_space_far_g2 (e15 : TEdge) (s1 : TSpace) : Option Bool :=
  (F_space_far_1 e15.From s1).bind fun x18 =>
  bif x18 then
  (F_space_far_1 e15.To s1).bind fun x20 =>
  some x20
  else
  some false

noncomputable def F_space_far_k3 (m9 : (List (Int × (List Int)))) (e15 : TEdge) (x8 : Int) (x16 : Bool) : Option ((Int × (List (Int × (List Int)))) ⊕ (List (Int × (List Int)))) :=
  bif x16 then
  (chk (decide (((mget m9 e15.To).getD []).length + ([e15.From] : List Int).length ≤ 4294967296))).bind fun _ =>
  F_space_far_k1 x8 (mset ltI m9 e15.To (((mget m9 e15.To).getD []) ++ [e15.From]))
  else
  F_space_far_k1 x8 m9

noncomputable def F_space_far_l4 (s1 : TSpace) (x8 : Int) (m9 : (List (Int × (List Int)))) : Option ((Int × (List (Int × (List Int)))) ⊕ (List (Int × (List Int)))) :=
  bif (decide (x8 < (s1.Edges.length : Int))) then
  (idx s1.Edges x8).bind fun e15 =>
  (F_space_far_g2 e15 s1).bind (fun x16 => F_space_far_k3 m9 e15 x8 x16)
  else
  some (.inr m9)

noncomputable def F_space_far_k5 (x32 : Int) (m41 : (List (Int × Int))) (l42 : (List Int)) : Option ((Int × (List (Int × Int)) × (List Int)) ⊕ ((List (Int × Int)) × (List Int))) :=
  some (.inl ((w64 (x32 + 1)), m41, l42))

noncomputable def F_space_far_l6 (m12 : (List (Int × (List Int)))) (e30 : Int) (x32 : Int) (m33 : (List (Int × Int))) (l34 : (List Int)) : Option ((Int × (List (Int × Int)) × (List Int)) ⊕ ((List (Int × Int)) × (List Int))) :=
  bif (decide (x32 < (((mget m12 e30).getD ([] : (List Int))).length : Int))) then
  (idx ((mget m12 e30).getD ([] : (List Int))) x32).bind fun e43 =>
  bif (!(mget m33 e43).isSome) then
  (idx l34 0).bind fun e45 =>
  (chk (decide (l34.length + ([e43] : List Int).length ≤ 4294967296))).bind fun _ =>
  F_space_far_k5 x32 (mset ltI m33 e43 (w64 (((mget m33 e45).getD 0) + 1))) (l34 ++ ([e43] : List Int))
  else
  F_space_far_k5 x32 m33 l34
  else
  some (.inr (m33, l34))

noncomputable def F_space_far_c7 (m38 : (List (Int × Int))) (l39 : (List Int)) : Option (((List (Int × Int)) × (List Int)) ⊕ (List (Int × Int))) :=
  (chk (decide (0 ≤ 1) && decide (1 ≤ l39.length))).bind fun _ =>
  some (.inl (m38, (l39.drop 1)))

noncomputable def F_space_far_l8 (m12 : (List (Int × (List Int)))) (m24 : (List (Int × Int))) (l25 : (List Int)) : Option (((List (Int × Int)) × (List Int)) ⊕ (List (Int × Int))) :=
  bif (decide (0 < (l25.length : Int))) then
  (idx l25 0).bind fun e30 =>
  (loopM (fun st => F_space_far_l6 m12 e30 st.1 st.2.1 st.2.2) (0, m24, l25)).bind (fun q => F_space_far_c7 q.1 q.2)
  else
  some (.inr m24)

noncomputable def F_space_far_c9 (m28 : (List (Int × Int))) : Option (List (Int × Int)) :=
  some m28

noncomputable def F_space_far_c10 (k2 : Int) (m12 : (List (Int × (List Int)))) : Option (List (Int × Int)) :=
  (loopM (fun st => F_space_far_l8 m12 st.1 st.2) ((mset ltI ([] : (List (Int × Int))) k2 0), ([k2] : List Int))).bind (fun q => F_space_far_c9 q)

noncomputable def F_space_far (s1 : TSpace) (k2 : Int) : Option (List (Int × Int)) :=
  (F_space_far_1 k2 s1).bind fun x5 =>
  bif (!x5) then
  some ([] : (List (Int × Int)))
  else
  (loopM (fun st => F_space_far_l4 s1 st.1 st.2) (0, ([] : (List (Int × (List Int)))))).bind (fun q => F_space_far_c10 k2 q)

set_option maxRecDepth 100000 in
set_option maxHeartbeats 4000000 in
theorem F_space_far_ok (s1 : TSpace) (k2 : Int) {r : (List (Int × Int))} (h : F_space_far s1 k2 = some r) : ACalls Tryz.prog 24 [.agg (row_TSpace s1), .i .i64 k2] [] (Gives (.map 30004) [(30004, .map (mapV (V.i .i64) (V.i .i64) r))]) := by
  refine ACalls.walk 93 Tryz.func24 rfl Tryz.ntmps24 rfl fun C hC => ?_
  unfold F_space_far at h
  obtain ⟨x5, hx5, h⟩ := bindE h
  refine AK.go tab_ok hC [.n 15, .sayO 16 (.map (mapV (V.i .i64) (V.i .i64) ([] : (List (Int × Int))))), .n 8, .cm (.clo) [(200000, 2)] [(2, 200000)] [] [.d, .d] [(200000, .var (row_TSpace s1))] (.b x5), .n 3] rfl ⟨⟨trivial, rfl⟩, (F_space_far_1_ok _ _ hx5)⟩ ?_
  rcases bifE h with ⟨hc6, h⟩ | ⟨hc6, h⟩
  · refine AK.go tab_ok hC [.br true, .n 8, .keep [4] [16], .ren 16 30004, .keep [4] [30004]] rfl ⟨trivial, hc6⟩ ?_
    obtain rfl := Option.some.inj h
    refine AK.done ?_
    exact Exists.intro [_] (And.intro (And.intro rfl trivial) (gives ⟨rfl, trivial⟩))
  · refine AK.go tab_ok hC [.br false, .n 4, .x (fun σ => (σ.set 22 (.grp 1 [] none)).put 22 (.map 22)), .sayO 22 (.grp 1 (grpT (V.i .i64) row_I ([] : (List (Int × (List Int))))) none), .n 8, .o (.ln s1.Edges.length), .n 4, .keep [1, 5, 6, 7, 24, 25, 26] [2, 16, 22]] rfl ⟨⟨⟨⟨trivial, hc6⟩, (Stp.makeGrp 1 rfl rfl (hC ▸ rfl) rfl)⟩, rfl⟩, mapLen⟩ ?_
    obtain ⟨m12, hl23, h⟩ := bindE h
    refine AK.loop (body := (fun st => F_space_far_l4 s1 st.1 st.2)) (fun st σ => σ = ⟨[(1, .i .i64 k2), (5, .clo (.func 35) [] [.loc 2 0 0]), (6, .map 16), (7, .map 22), (24, .sl 6 (s1.Edges.map row_TEdge)), (25, .i .i64 (s1.Edges.length : Int)), (26, .i .i64 st.1)], [(2, .var (row_TSpace s1)), (16, .map (mapV (V.i .i64) (V.i .i64) ([] : (List (Int × Int))))), (22, .grp 1 (grpT (V.i .i64) row_I st.2) none)]⟩) (fun q e σ => e = .exit 0 ∧ σ = ⟨[(1, .i .i64 k2), (6, .map 16), (7, .map 22)], [(16, .map (mapV (V.i .i64) (V.i .i64) ([] : (List (Int × Int))))), (22, .grp 1 (grpT (V.i .i64) row_I q) none)]⟩) hl23 rfl ?_ ?_
    · rintro ⟨x8, m9⟩ o σ rfl h
      replace h : F_space_far_l4 s1 x8 m9 = some o := h
      unfold F_space_far_l4 at h
      refine AK.go tab_ok hC [.n 6] rfl trivial ?_
      rcases bifE h with ⟨hc13, h⟩ | ⟨hc13, h⟩
      · refine AK.go tab_ok hC [.br true, .n 2] rfl ⟨trivial, hc13⟩ ?_
        refine AK.meet (fun σ => ∃ m14 : (List (Int × (List Int))), σ = ⟨[(1, .i .i64 k2), (5, .clo (.func 35) [] [.loc 2 0 0]), (6, .map 16), (7, .map 22), (24, .sl 6 (s1.Edges.map row_TEdge)), (25, .i .i64 (s1.Edges.length : Int)), (26, .i .i64 x8)], [(2, .var (row_TSpace s1)), (16, .map (mapV (V.i .i64) (V.i .i64) ([] : (List (Int × Int))))), (22, .grp 1 (grpT (V.i .i64) row_I m14) none)]⟩ ∧ F_space_far_k1 x8 m14 = some o) ?_ ?_
        · obtain ⟨e15, he15, h⟩ := bindE h
          refine AK.go tab_ok hC [.n 3, .o (.row (row_TEdge e15)), .v .no [] (.agg (row_TEdge e15)), .n 2, .sayO 9 (.var (row_TEdge e15)), .n 3] rfl ⟨⟨⟨trivial, (idxM he15)⟩, rfl⟩, rfl⟩ ?_
          obtain ⟨x16, hv17, h⟩ := bindE h
          replace h : F_space_far_k3 m9 e15 x8 x16 = some o := h
          refine AK.meetX (fun σ => σ = ⟨[(1, .i .i64 k2), (5, .clo (.func 35) [] [.loc 2 0 0]), (6, .map 16), (7, .map 22), (9, .loc 9 0 0), (24, .sl 6 (s1.Edges.map row_TEdge)), (25, .i .i64 (s1.Edges.length : Int)), (26, .i .i64 x8), (39, .b x16)], [(2, .var (row_TSpace s1)), (9, .var (row_TEdge e15)), (16, .map (mapV (V.i .i64) (V.i .i64) ([] : (List (Int × Int))))), (22, .grp 1 (grpT (V.i .i64) row_I m9) none)]⟩) ?_ ?_
          · replace h := hv17
            unfold F_space_far_g2 at h
            obtain ⟨x18, hx18, h⟩ := bindE h
            refine AK.go tab_ok hC [.n 4, .cm (.clo) [(200000, 2)] [(2, 200000)] [] [.d, .d] [(200000, .var (row_TSpace s1))] (.b x18), .n 1] rfl ⟨trivial, (F_space_far_1_ok _ _ hx18)⟩ ?_
            rcases bifE h with ⟨hc19, h⟩ | ⟨hc19, h⟩
            · obtain ⟨x20, hx20, h⟩ := bindE h
              refine AK.go tab_ok hC [.say 34 (.b true), .n 3, .cm (.clo) [(200000, 2)] [(2, 200000)] [] [.d, .d] [(200000, .var (row_TSpace s1))] (.b x20), .n 2, .keep [1, 5, 6, 7, 9, 24, 25, 26, 39] [2, 9, 16, 22]] rfl ⟨⟨trivial, (congrArg V.b hc19)⟩, (F_space_far_1_ok _ _ hx20)⟩ ?_
              obtain rfl := Option.some.inj h
              exact AK.met rfl
            · refine AK.go tab_ok hC [.say 34 (.b false), .n 6, .keep [1, 5, 6, 7, 9, 24, 25, 26, 39] [2, 9, 16, 22]] rfl ⟨trivial, (congrArg V.b hc19)⟩ ?_
              obtain rfl := Option.some.inj h
              exact AK.met rfl
          · rintro σ rfl
            replace h : F_space_far_k3 m9 e15 x8 x16 = some o := h
            unfold F_space_far_k3 at h
            refine AK.go tab_ok hC [.n 1] rfl trivial ?_
            rcases bifE h with ⟨hc21, h⟩ | ⟨hc21, h⟩
            · obtain ⟨_, hk22, h⟩ := bindE h
              replace hk22 := chkE hk22
              refine AK.go tab_ok hC [.br true, .keep [1, 5, 6, 7, 9, 24, 25, 26] [2, 9, 16, 22]] rfl ⟨trivial, hc21⟩ ?_
              refine AK.draw2 tab_ok hC mixed [.a .no none true, .a .no none true, .a .no none true, .a .no none false, .a .no none false, .a .no none false, .m (.any ⟨[46], [(46, .arr 1 (((mget m9 e15.To).getD []).map row_I)), (22, .grp 1 (grpT (V.i .i64) row_I m9) (some ((V.i .i64) e15.To)))], some (46, .own 46 ((mget m9 e15.To).getD []).length)⟩), .a .no none true, .a .no none true, .a (.bd []) (some ([], .sl 1 (([e15.From] : List Int).map row_I))) true, .m (.app ((((mget m9 e15.To).getD []) ++ [e15.From]).map row_I) (((mget m9 e15.To).getD []) ++ [e15.From]).length), .m (.any ⟨[46], [(22, .grp 1 (grpT (V.i .i64) row_I (mset ltI m9 e15.To (((mget m9 e15.To).getD []) ++ [e15.From]))) none)], none⟩)] [1, 5, 6, 7, 9, 24, 25, 26] [2, 9, 16] [1, 5, 6, 7, 24, 25, 26] [2, 16, 22] rfl rfl rfl ⟨⟨⟨⟨trivial, (fun σ h1 h2 => Stp.lookupOutT (e := (V.i .i64)) (f := row_I) (l := m9) (k := e15.To) rfl rfl (hC ▸ rfl) (h1 _ _ rfl) (h2 _ _ rfl) (h1 _ _ rfl) mt_85 ky_3 nz_31 rfl rfl rfl rfl rfl)⟩, rfl⟩, ⟨mapLen, appLim hk22 mapLen, mapApps, appLn mapLen⟩⟩, (fun σ h1 h2 => Stp.updateBackT (e := (V.i .i64)) (f := row_I) (l := m9) (k := e15.To) (((mget m9 e15.To).getD []) ++ [e15.From]) ltI rfl rfl (h1 _ _ rfl) (h2 _ _ rfl) (h1 _ _ rfl) (h1 _ _ rfl) (h2 _ _ rfl) mt_85 ky_3 rfl rfl rfl rfl rfl (by simp))⟩ rfl (by kernel_rfl) rfl rfl rfl ?_
              refine AK.go tab_ok hC [.n 1, .keep [1, 5, 6, 7, 24, 25, 26] [2, 16, 22]] rfl trivial ?_
              exact AK.met (Exists.intro _ (And.intro rfl h))
            · refine AK.go tab_ok hC [.br false, .n 2, .keep [1, 5, 6, 7, 24, 25, 26] [2, 16, 22]] rfl ⟨trivial, hc21⟩ ?_
              exact AK.met (Exists.intro _ (And.intro rfl h))
        · rintro σ ⟨m14, rfl, h⟩
          unfold F_space_far_k1 at h
          refine AK.go tab_ok hC [.n 4, .keep [1, 5, 6, 7, 24, 25, 26] [2, 16, 22]] rfl trivial ?_
          obtain rfl := Option.some.inj h
          exact rndN rfl rfl
      · refine AK.go tab_ok hC [.br false, .n 2, .keep [1, 6, 7] [16, 22]] rfl ⟨trivial, hc13⟩ ?_
        obtain rfl := Option.some.inj h
        exact rndX rfl (And.intro rfl rfl)
    · replace h : F_space_far_c10 k2 m12 = some r := h
      unfold F_space_far_c10 at h
      rintro e σ ⟨rfl, rfl⟩
      refine AK.go tab_ok hC [.n 6, .x (fun σ => σ.set 16 (.map (mapV (V.i .i64) (V.i .i64) (mset ltI ([] : (List (Int × Int))) k2 0)))), .n 7, .sayO 55 (.arr 1 (([k2] : List Int).map row_I)), .say 55 (.own 55 ([k2] : List Int).length), .n 4] rfl ⟨⟨⟨trivial, (Stp.mapUpdate (e := (V.i .i64)) (f := (V.i .i64)) (l := ([] : (List (Int × Int)))) (k := k2) (v := 0) ltI rfl rfl rfl rfl rfl rfl mt_58 ky_3 rfl)⟩, rfl⟩, rfl⟩ ?_
      refine AK.grpMap (b := 22) (e := (V.i .i64)) (f := row_I) (l := m12) ky_3 rfl rfl ?_
      refine AK.go tab_ok hC [.sayO 22 (.map (mapV (V.i .i64) (fun x => V.sl 1 (x.map row_I)) m12)), .keep [6, 7, 10] [16, 22, 55]] rfl ⟨trivial, rfl⟩ ?_
      obtain ⟨m28, hl49, h⟩ := bindE h
      refine AK.loop (body := (fun st => F_space_far_l8 m12 st.1 st.2)) (fun st σ => σ = ⟨[(6, .map 16), (7, .map 22), (10, .own 55 st.2.length)], [(16, .map (mapV (V.i .i64) (V.i .i64) st.1)), (22, .map (mapV (V.i .i64) (fun x => V.sl 1 (x.map row_I)) m12)), (55, .arr 1 (st.2.map row_I))]⟩) (fun q e σ => e = .exit 2 ∧ σ = ⟨[(6, .map 16)], [(16, .map (mapV (V.i .i64) (V.i .i64) q))]⟩) hl49 rfl ?_ ?_
      · rintro ⟨m24, l25⟩ o σ rfl h
        replace h : F_space_far_l8 m12 m24 l25 = some o := h
        unfold F_space_far_l8 at h
        refine AK.go tab_ok hC [.n 8] rfl trivial ?_
        rcases bifE h with ⟨hc29, h⟩ | ⟨hc29, h⟩
        · obtain ⟨e30, he30, h⟩ := bindE h
          refine AK.go tab_ok hC [.br true, .n 9, .o (.row (row_I e30)), .o (.any (.sl 1 (((mget m12 e30).getD ([] : (List Int))).map row_I)) none), .o (.ln ((mget m12 e30).getD ([] : (List Int))).length), .n 4, .keep [6, 7, 10, 65, 66, 67] [16, 22, 55]] rfl ⟨⟨⟨⟨⟨trivial, hc29⟩, (idxOw he30 rfl)⟩, (mapGet (idxE he30).2)⟩, (fun σ h1 h2 _ => Stp.lookup (e := (V.i .i64)) (f := (fun x => V.sl 1 (x.map row_I))) (l := m12) (k := e30) (z := ([] : (List Int))) rfl rfl (hC ▸ rfl) (h1 _ _ rfl) (h2 _ _ rfl) (h1 _ _ rfl) mt_85 ky_3 zi_31 rfl)⟩, mapLen⟩ ?_
          obtain ⟨o47, hl47, h⟩ := bindE h
          refine AK.loop (body := (fun st => F_space_far_l6 m12 e30 st.1 st.2.1 st.2.2)) (fun st σ => σ = ⟨[(6, .map 16), (7, .map 22), (10, .own 55 st.2.2.length), (65, .sl 1 (((mget m12 e30).getD ([] : (List Int))).map row_I)), (66, .i .i64 (((mget m12 e30).getD ([] : (List Int))).length : Int)), (67, .i .i64 st.1)], [(16, .map (mapV (V.i .i64) (V.i .i64) st.2.1)), (22, .map (mapV (V.i .i64) (fun x => V.sl 1 (x.map row_I)) m12)), (55, .arr 1 (st.2.2.map row_I))]⟩) (fun q e σ => e = .exit 4 ∧ σ = ⟨[(6, .map 16), (7, .map 22), (10, .own 55 q.2.length)], [(16, .map (mapV (V.i .i64) (V.i .i64) q.1)), (22, .map (mapV (V.i .i64) (fun x => V.sl 1 (x.map row_I)) m12)), (55, .arr 1 (q.2.map row_I))]⟩) hl47 rfl ?_ ?_
          · rintro ⟨x32, m33, l34⟩ o σ rfl h
            replace h : F_space_far_l6 m12 e30 x32 m33 l34 = some o := h
            unfold F_space_far_l6 at h
            refine AK.go tab_ok hC [.n 6] rfl trivial ?_
            rcases bifE h with ⟨hc40, h⟩ | ⟨hc40, h⟩
            · refine AK.go tab_ok hC [.br true, .n 2] rfl ⟨trivial, hc40⟩ ?_
              refine AK.meet (fun σ => ∃ m41 : (List (Int × Int)), ∃ l42 : (List Int), σ = ⟨[(6, .map 16), (7, .map 22), (10, .own 55 l42.length), (65, .sl 1 (((mget m12 e30).getD ([] : (List Int))).map row_I)), (66, .i .i64 (((mget m12 e30).getD ([] : (List Int))).length : Int)), (67, .i .i64 x32)], [(16, .map (mapV (V.i .i64) (V.i .i64) m41)), (22, .map (mapV (V.i .i64) (fun x => V.sl 1 (x.map row_I)) m12)), (55, .arr 1 (l42.map row_I))]⟩ ∧ F_space_far_k5 x32 m41 l42 = some o) ?_ ?_
              · obtain ⟨e43, he43, h⟩ := bindE h
                refine AK.go tab_ok hC [.n 3, .o (.row (row_I e43)), .n 8, .o (.any (.tup [.i .i64 ((mget m33 e43).getD 0), .b (mget m33 e43).isSome]) none), .n 13] rfl ⟨⟨trivial, (idxM he43)⟩, (fun σ h1 h2 _ => Stp.lookupOk (e := (V.i .i64)) (f := (V.i .i64)) (l := m33) (k := e43) (z := 0) rfl rfl (hC ▸ rfl) (h1 _ _ rfl) (h2 _ _ rfl) (h1 _ _ rfl) mt_58 ky_3 zi_3 rfl rfl)⟩ ?_
                rcases bifE h with ⟨hc44, h⟩ | ⟨hc44, h⟩
                · obtain ⟨e45, he45, h⟩ := bindE h
                  obtain ⟨_, hk46, h⟩ := bindE h
                  replace hk46 := chkE hk46
                  refine AK.go tab_ok hC [.br true, .n 7, .o (.row (row_I e45)), .o (.any (.i .i64 ((mget m33 e45).getD 0)) none), .n 1, .x (fun σ => σ.set 16 (.map (mapV (V.i .i64) (V.i .i64) (mset ltI m33 e43 (w64 (((mget m33 e45).getD 0) + 1)))))), .n 5, .v (.bd []) [] (.sl 1 (([e43] : List Int).map row_I)), .app ((l34 ++ ([e43] : List Int)).map row_I) (l34 ++ ([e43] : List Int)).length, .n 3, .keep [6, 7, 10, 65, 66, 67] [16, 22, 55]] rfl ⟨⟨⟨⟨⟨⟨⟨trivial, hc44⟩, (idxOw he45 rfl)⟩, (mapGet (idxE he45).2)⟩, (fun σ h1 h2 _ => Stp.lookup (e := (V.i .i64)) (f := (V.i .i64)) (l := m33) (k := e45) (z := 0) rfl rfl (hC ▸ rfl) (h1 _ _ rfl) (h2 _ _ rfl) (h1 _ _ rfl) mt_58 ky_3 zi_3 rfl)⟩, (Stp.mapUpdate (e := (V.i .i64)) (f := (V.i .i64)) (l := m33) (k := e43) (v := (w64 (((mget m33 e45).getD 0) + 1))) ltI rfl rfl rfl rfl rfl rfl mt_58 ky_3 rfl)⟩, rfl⟩, ⟨mapLen, appLim hk46 mapLen, mapApps, appLn mapLen⟩⟩ ?_
                  exact AK.met (Exists.intro _ (Exists.intro _ (And.intro rfl h)))
                · refine AK.go tab_ok hC [.br false, .n 2, .keep [6, 7, 10, 65, 66, 67] [16, 22, 55]] rfl ⟨trivial, hc44⟩ ?_
                  exact AK.met (Exists.intro _ (Exists.intro _ (And.intro rfl h)))
              · rintro σ ⟨m41, l42, rfl, h⟩
                unfold F_space_far_k5 at h
                refine AK.go tab_ok hC [.n 4, .keep [6, 7, 10, 65, 66, 67] [16, 22, 55]] rfl trivial ?_
                obtain rfl := Option.some.inj h
                exact rndN rfl rfl
            · refine AK.go tab_ok hC [.br false, .n 2, .keep [6, 7, 10] [16, 22, 55]] rfl ⟨trivial, hc40⟩ ?_
              obtain rfl := Option.some.inj h
              exact rndX rfl (And.intro rfl rfl)
          · obtain ⟨m38, l39⟩ := o47
            replace h : F_space_far_c7 m38 l39 = some o := h
            unfold F_space_far_c7 at h
            rintro e σ ⟨rfl, rfl⟩
            obtain ⟨_, hk48, h⟩ := bindE h
            replace hk48 := chkE hk48
            refine AK.go tab_ok hC [.n 5, .x (fun σ => σ.app 55 1 60 (l39.drop 1).length ((l39.drop 1).map row_I)), .n 2, .keep [6, 7, 10] [16, 22, 55]] rfl ⟨trivial, (Stp.sliceT rfl rfl (hC ▸ rfl) rfl rfl rfl (tab_ok.es rfl) (Bnd.val rfl (of_decide_eq_true (and2_0 hk48)) rfl) (Bnd.none_ rfl) (le_of_dec (and2_1 hk48)) (Nat.le_refl _) dropA dropL)⟩ ?_
            obtain rfl := Option.some.inj h
            exact rndN rfl rfl
        · refine AK.go tab_ok hC [.br false, .n 2, .keep [6] [16]] rfl ⟨trivial, hc29⟩ ?_
          obtain rfl := Option.some.inj h
          exact rndX rfl (And.intro rfl rfl)
      · replace h : F_space_far_c9 m28 = some r := h
        unfold F_space_far_c9 at h
        rintro e σ ⟨rfl, rfl⟩
        refine AK.go tab_ok hC [.n 9, .keep [4] [16], .ren 16 30004, .keep [4] [30004]] rfl trivial ?_
        obtain rfl := Option.some.inj h
        refine AK.done ?_
        exact Exists.intro [_] (And.intro (And.intro rfl trivial) (gives ⟨rfl, trivial⟩))

-- 8 baldric/space.Out
noncomputable def F_space_Out_k1 (x5 : Int) (l11 : (List Int)) : Option ((Int × (List Int)) ⊕ (List Int)) :=
  some (.inl ((w64 (x5 + 1)), l11))

noncomputable def F_space_Out_l2 (s1 : TSpace) (k2 : Int) (x5 : Int) (l6 : (List Int)) : Option ((Int × (List Int)) ⊕ (List Int)) :=
  bif (decide (x5 < (s1.Edges.length : Int))) then
  (idx s1.Edges x5).bind fun e12 =>
  bif (e12.From == k2) then
  (chk (decide (l6.length + ([x5] : List Int).length ≤ 4294967296))).bind fun _ =>
  F_space_Out_k1 x5 (l6 ++ ([x5] : List Int))
  else
  F_space_Out_k1 x5 l6
  else
  some (.inr l6)

noncomputable def F_space_Out_c3 (l9 : (List Int)) : Option (List Int) :=
  some l9

noncomputable def F_space_Out (s1 : TSpace) (k2 : Int) : Option (List Int) :=
  (loopM (fun st => F_space_Out_l2 s1 k2 st.1 st.2) (0, ([] : List Int))).bind (fun q => F_space_Out_c3 q)

set_option maxRecDepth 100000 in
set_option maxHeartbeats 4000000 in
theorem F_space_Out_ok (s1 : TSpace) (k2 : Int) {r : (List Int)} (h : F_space_Out s1 k2 = some r) : ACalls Tryz.prog 8 [.agg (row_TSpace s1), .i .i64 k2] [] (Gives (.own 30000 r.length) [(30000, .arr 1 (r.map row_I))]) := by
  refine ACalls.walk 26 Tryz.func8 rfl Tryz.ntmps8 rfl fun C hC => ?_
  unfold F_space_Out at h
  refine AK.go tab_ok hC [.n 16, .o (.ln s1.Edges.length), .n 4, .adopt 5 20 1, .sayO 20 (.arr 1 (([] : List Int).map row_I)), .say 5 (.own 20 ([] : List Int).length), .keep [1, 5, 9, 10, 11] [20]] rfl ⟨⟨⟨trivial, mapLen⟩, rfl⟩, (congrArg (fun n => V.own 20 n) (by simp))⟩ ?_
  obtain ⟨l9, hl15, h⟩ := bindE h
  refine AK.loop (body := (fun st => F_space_Out_l2 s1 k2 st.1 st.2)) (fun st σ => σ = ⟨[(1, .i .i64 k2), (5, .own 20 st.2.length), (9, .sl 6 (s1.Edges.map row_TEdge)), (10, .i .i64 (s1.Edges.length : Int)), (11, .i .i64 st.1)], [(20, .arr 1 (st.2.map row_I))]⟩) (fun q e σ => e = .exit 0 ∧ σ = ⟨[(5, .own 20 q.length)], [(20, .arr 1 (q.map row_I))]⟩) hl15 rfl ?_ ?_
  · rintro ⟨x5, l6⟩ o σ rfl h
    replace h : F_space_Out_l2 s1 k2 x5 l6 = some o := h
    unfold F_space_Out_l2 at h
    refine AK.go tab_ok hC [.n 6] rfl trivial ?_
    rcases bifE h with ⟨hc10, h⟩ | ⟨hc10, h⟩
    · refine AK.go tab_ok hC [.br true, .n 2] rfl ⟨trivial, hc10⟩ ?_
      refine AK.meet (fun σ => ∃ l11 : (List Int), σ = ⟨[(1, .i .i64 k2), (5, .own 20 l11.length), (9, .sl 6 (s1.Edges.map row_TEdge)), (10, .i .i64 (s1.Edges.length : Int)), (11, .i .i64 x5)], [(20, .arr 1 (l11.map row_I))]⟩ ∧ F_space_Out_k1 x5 l11 = some o) ?_ ?_
      · obtain ⟨e12, he12, h⟩ := bindE h
        refine AK.go tab_ok hC [.n 4, .o (.row (row_TEdge e12)), .v .no [] (.agg (row_TEdge e12)), .n 3, .sayO 7 (.var (row_TEdge e12)), .n 10] rfl ⟨⟨⟨trivial, (idxM he12)⟩, rfl⟩, rfl⟩ ?_
        rcases bifE h with ⟨hc13, h⟩ | ⟨hc13, h⟩
        · obtain ⟨_, hk14, h⟩ := bindE h
          replace hk14 := chkE hk14
          refine AK.go tab_ok hC [.br true, .n 3, .v (.bd []) [] (.sl 1 (([x5] : List Int).map row_I)), .app ((l6 ++ ([x5] : List Int)).map row_I) (l6 ++ ([x5] : List Int)).length, .n 3, .keep [1, 5, 9, 10, 11] [20]] rfl ⟨⟨⟨trivial, hc13⟩, rfl⟩, ⟨mapLen, appLim hk14 mapLen, mapApps, appLn mapLen⟩⟩ ?_
          exact AK.met (Exists.intro _ (And.intro rfl h))
        · refine AK.go tab_ok hC [.br false, .n 2, .keep [1, 5, 9, 10, 11] [20]] rfl ⟨trivial, hc13⟩ ?_
          exact AK.met (Exists.intro _ (And.intro rfl h))
      · rintro σ ⟨l11, rfl, h⟩
        unfold F_space_Out_k1 at h
        refine AK.go tab_ok hC [.n 4, .keep [1, 5, 9, 10, 11] [20]] rfl trivial ?_
        obtain rfl := Option.some.inj h
        exact rndN rfl rfl
    · refine AK.go tab_ok hC [.br false, .n 2, .keep [5] [20]] rfl ⟨trivial, hc10⟩ ?_
      obtain rfl := Option.some.inj h
      exact rndX rfl (And.intro rfl rfl)
  · replace h : F_space_Out_c3 l9 = some r := h
    unfold F_space_Out_c3 at h
    rintro e σ ⟨rfl, rfl⟩
    refine AK.go tab_ok hC [.n 9, .keep [4] [20], .ren 20 30000, .keep [4] [30000]] rfl trivial ?_
    obtain rfl := Option.some.inj h
    refine AK.done ?_
    exact Exists.intro [_] (And.intro (And.intro rfl trivial) (gives ⟨rfl, trivial⟩))

-- 25 baldric/space.Path$1
noncomputable def F_space_Path_1 (i1 : Int) (m2 : (List (Int × Int))) (v3 : TSpace) (v4 : Int) : Option Bool :=
  (idx v3.Edges i1).bind fun e6 =>
  some ((mget m2 e6.To).isSome && (((mget m2 e6.To).getD 0) == (w64 (((mget m2 v4).getD 0) - 1))))

set_option maxRecDepth 100000 in
set_option maxHeartbeats 4000000 in
theorem F_space_Path_1_ok (i1 : Int) (m2 : (List (Int × Int))) (v3 : TSpace) (v4 : Int) {r : Bool} (h : F_space_Path_1 i1 m2 v3 v4 = some r) : ACalls Tryz.prog 25 [.i .i64 i1, .loc 200000 0 0, .loc 200002 0 0, .loc 200003 0 0] [(200000, .var [.map 200001]), (200001, .map (mapV (V.i .i64) (V.i .i64) m2)), (200002, .var (row_TSpace v3)), (200003, .var (row_I v4))] (Gives (.b r) [(200000, .var [.map 200001]), (200001, .map (mapV (V.i .i64) (V.i .i64) m2)), (200002, .var (row_TSpace v3)), (200003, .var (row_I v4))]) := by
  refine ACalls.walk 28 Tryz.func25 rfl Tryz.ntmps25 rfl fun C hC => ?_
  unfold F_space_Path_1 at h
  obtain ⟨e6, he6, h⟩ := bindE h
  refine AK.go tab_ok hC [.n 6, .keep [0, 1, 2, 3] [200000, 200001, 200002, 200003]] rfl trivial ?_
  refine AK.draw2 tab_ok hC mixed [.a .no none false, .a .no none false, .a .no none false, .a .no none false, .a (.row (row_TEdge e6)) none false, .a .no none false, .a .no none false, .a (.any (.tup [.i .i64 ((mget m2 e6.To).getD 0), .b (mget m2 e6.To).isSome]) none) none false, .a .no none false, .a .no none false, .a .no none false, .a .no none false, .a .no none false] [] [] [1, 3, 6, 7] [200000, 200001, 200002, 200003] rfl rfl rfl ⟨⟨trivial, (idxM he6)⟩, (fun σ h1 h2 _ => Stp.lookupOk (e := (V.i .i64)) (f := (V.i .i64)) (l := m2) (k := e6.To) (z := 0) rfl rfl (hC ▸ rfl) (h1 _ _ rfl) (h2 _ _ rfl) (h1 _ _ rfl) mt_58 ky_3 zi_3 rfl rfl)⟩ rfl (by kernel_rfl) rfl rfl rfl ?_
  refine AK.go tab_ok hC [.n 2] rfl trivial ?_
  refine AK.meetX (fun σ => σ = ⟨[(5, .b ((mget m2 e6.To).isSome && (((mget m2 e6.To).getD 0) == (w64 (((mget m2 v4).getD 0) - 1)))))], [(200000, .var [.map 200001]), (200001, .map (mapV (V.i .i64) (V.i .i64) m2)), (200002, .var (row_TSpace v3)), (200003, .var (row_I v4))]⟩) ?_ ?_
  · refine AK.go tab_ok hC [.n 3] rfl trivial ?_
    rcases boolOr (mget m2 e6.To).isSome with hc8 | hc8
    · refine AK.go tab_ok hC [.say 20 (.b true), .n 3, .o (.any (.i .i64 ((mget m2 v4).getD 0)) none), .n 5, .say 5 (.b ((mget m2 e6.To).isSome && (((mget m2 e6.To).getD 0) == (w64 (((mget m2 v4).getD 0) - 1))))), .keep [5] [200000, 200001, 200002, 200003]] rfl ⟨⟨⟨trivial, (congrArg V.b hc8)⟩, (fun σ h1 h2 _ => Stp.lookup (e := (V.i .i64)) (f := (V.i .i64)) (l := m2) (k := v4) (z := 0) rfl rfl (hC ▸ rfl) (h1 _ _ rfl) (h2 _ _ rfl) (h1 _ _ rfl) mt_58 ky_3 zi_3 rfl)⟩, (congrArg V.b (andT hc8 rfl))⟩ ?_
      exact AK.met rfl
    · refine AK.go tab_ok hC [.say 20 (.b false), .n 9, .say 5 (.b ((mget m2 e6.To).isSome && (((mget m2 e6.To).getD 0) == (w64 (((mget m2 v4).getD 0) - 1))))), .keep [5] [200000, 200001, 200002, 200003]] rfl ⟨⟨trivial, (congrArg V.b hc8)⟩, (congrArg V.b (andF hc8 rfl))⟩ ?_
      exact AK.met rfl
  · rintro σ rfl
    refine AK.go tab_ok hC [.n 2, .keep [5] [200000, 200001, 200002, 200003]] rfl trivial ?_
    obtain rfl := Option.some.inj h
    refine AK.done ?_
    exact Exists.intro [_] (And.intro (And.intro rfl trivial) (gives ⟨rfl, rfl, rfl, rfl, trivial⟩))

-- 26 slices.IndexFunc[[]int,int]
noncomputable def F_slices_IndexFunc_int_int_v4_l1 (s1 : (List Int)) (m2 : (List (Int × Int))) (v3 : TSpace) (v4 : Int) (x7 : Int) : Option (Int ⊕ (Int ⊕ Unit)) :=
  bif (decide (x7 < (s1.length : Int))) then
  (idx s1 x7).bind fun e11 =>
  (F_space_Path_1 e11 m2 v3 v4).bind fun x12 =>
  bif x12 then
  some (.inr (.inl x7))
  else
  some (.inl (w64 (x7 + 1)))
  else
  some (.inr (.inr ()))

noncomputable def F_slices_IndexFunc_int_int_v4_c2 (x9 : Int) : Option Int :=
  some x9

noncomputable def F_slices_IndexFunc_int_int_v4_c3 : Option Int :=
  some (-1)

noncomputable def F_slices_IndexFunc_int_int_v4 (s1 : (List Int)) (m2 : (List (Int × Int))) (v3 : TSpace) (v4 : Int) : Option Int :=
  (loopM (fun st => F_slices_IndexFunc_int_int_v4_l1 s1 m2 v3 v4 st) 0).bind (Sum.elim (fun q => F_slices_IndexFunc_int_int_v4_c2 q) (fun q => F_slices_IndexFunc_int_int_v4_c3))

set_option maxRecDepth 100000 in
set_option maxHeartbeats 4000000 in
theorem F_slices_IndexFunc_int_int_v4_ok (s1 : (List Int)) (m2 : (List (Int × Int))) (v3 : TSpace) (v4 : Int) {r : Int} (h : F_slices_IndexFunc_int_int_v4 s1 m2 v3 v4 = some r) : ACalls Tryz.prog 26 [.sl 1 (s1.map row_I), .clo (.func 25) [] [.loc 200000 0 0, .loc 200002 0 0, .loc 200003 0 0]] [(200000, .var [.map 200001]), (200001, .map (mapV (V.i .i64) (V.i .i64) m2)), (200002, .var (row_TSpace v3)), (200003, .var (row_I v4))] (Gives (.i .i64 r) [(200000, .var [.map 200001]), (200001, .map (mapV (V.i .i64) (V.i .i64) m2)), (200002, .var (row_TSpace v3)), (200003, .var (row_I v4))]) := by
  refine ACalls.walk 19 Tryz.func26 rfl Tryz.ntmps26 rfl fun C hC => ?_
  unfold F_slices_IndexFunc_int_int_v4 at h
  refine AK.go tab_ok hC [.n 9, .o (.ln s1.length), .n 4, .keep [0, 1, 7, 8] [200000, 200001, 200002, 200003]] rfl ⟨trivial, mapLen⟩ ?_
  obtain ⟨o14, hl14, h⟩ := bindE h
  refine AK.loop (body := (fun st => F_slices_IndexFunc_int_int_v4_l1 s1 m2 v3 v4 st)) (fun st σ => σ = ⟨[(0, .sl 1 (s1.map row_I)), (1, .clo (.func 25) [] [.loc 200000 0 0, .loc 200002 0 0, .loc 200003 0 0]), (7, .i .i64 (s1.length : Int)), (8, .i .i64 st)], [(200000, .var [.map 200001]), (200001, .map (mapV (V.i .i64) (V.i .i64) m2)), (200002, .var (row_TSpace v3)), (200003, .var (row_I v4))]⟩) (Sum.elim (fun q e σ => e = .ret ∧ σ = ⟨[(4, .i .i64 q)], [(200000, .var [.map 200001]), (200001, .map (mapV (V.i .i64) (V.i .i64) m2)), (200002, .var (row_TSpace v3)), (200003, .var (row_I v4))]⟩) (fun q e σ => e = .exit 0 ∧ σ = ⟨[], [(200000, .var [.map 200001]), (200001, .map (mapV (V.i .i64) (V.i .i64) m2)), (200002, .var (row_TSpace v3)), (200003, .var (row_I v4))]⟩)) hl14 rfl ?_ ?_
  · rintro x7 o σ rfl h
    replace h : F_slices_IndexFunc_int_int_v4_l1 s1 m2 v3 v4 x7 = some o := h
    unfold F_slices_IndexFunc_int_int_v4_l1 at h
    refine AK.go tab_ok hC [.n 6] rfl trivial ?_
    rcases bifE h with ⟨hc10, h⟩ | ⟨hc10, h⟩
    · obtain ⟨e11, he11, h⟩ := bindE h
      obtain ⟨x12, hx12, h⟩ := bindE h
      refine AK.go tab_ok hC [.br true, .n 15, .o (.row (row_I e11)), .n 1, .cm (.clo) [(200000, 200000), (200001, 200001), (200002, 200002), (200003, 200003)] [(200000, 200000), (200001, 200001), (200002, 200002), (200003, 200003)] [] [.d, .d, .d, .d] [(200000, .var [.map 200001]), (200001, .map (mapV (V.i .i64) (V.i .i64) m2)), (200002, .var (row_TSpace v3)), (200003, .var (row_I v4))] (.b x12), .n 2] rfl ⟨⟨⟨trivial, hc10⟩, (idxM he11)⟩, (F_space_Path_1_ok _ _ _ _ hx12)⟩ ?_
      rcases bifE h with ⟨hc13, h⟩ | ⟨hc13, h⟩
      · refine AK.go tab_ok hC [.br true, .n 9, .keep [4] [200000, 200001, 200002, 200003]] rfl ⟨trivial, hc13⟩ ?_
        obtain rfl := Option.some.inj h
        exact rndR rfl (And.intro rfl rfl)
      · refine AK.go tab_ok hC [.br false, .n 7, .keep [0, 1, 7, 8] [200000, 200001, 200002, 200003]] rfl ⟨trivial, hc13⟩ ?_
        obtain rfl := Option.some.inj h
        exact rndN rfl rfl
    · refine AK.go tab_ok hC [.br false, .n 2, .keep [] [200000, 200001, 200002, 200003]] rfl ⟨trivial, hc10⟩ ?_
      obtain rfl := Option.some.inj h
      exact rndX rfl (And.intro rfl rfl)
  · rcases o14 with (x9 | _)
    · replace h : F_slices_IndexFunc_int_int_v4_c2 x9 = some r := h
      unfold F_slices_IndexFunc_int_int_v4_c2 at h
      rintro e σ ⟨rfl, rfl⟩
      refine AK.go tab_ok hC [.n 2, .keep [4] [200000, 200001, 200002, 200003]] rfl trivial ?_
      obtain rfl := Option.some.inj h
      refine AK.done ?_
      exact Exists.intro [_] (And.intro (And.intro rfl trivial) (gives ⟨rfl, rfl, rfl, rfl, trivial⟩))
    · replace h : F_slices_IndexFunc_int_int_v4_c3 = some r := h
      unfold F_slices_IndexFunc_int_int_v4_c3 at h
      rintro e σ ⟨rfl, rfl⟩
      refine AK.go tab_ok hC [.n 8, .keep [4] [200000, 200001, 200002, 200003]] rfl trivial ?_
      obtain rfl := Option.some.inj h
      refine AK.done ?_
      exact Exists.intro [_] (And.intro (And.intro rfl trivial) (gives ⟨rfl, rfl, rfl, rfl, trivial⟩))

-- 13 baldric/space.Path
noncomputable def F_space_Path_l1 (x5 : (List (Int × Int))) (s1 : TSpace) (out7 : (List TMode)) (at_8 : Int) : Option (((List TMode) × Int) ⊕ (List TMode)) :=
  bif (decide (0 < ((mget x5 at_8).getD 0))) then
  (F_space_Out s1 at_8).bind fun x13 =>
  (F_slices_IndexFunc_int_int_v4 x13 x5 s1 at_8).bind fun x14 =>
  (idx x13 x14).bind fun e15 =>
  (idx s1.Edges e15).bind fun e16 =>
  (chk (decide (out7.length + ([e16.Mode] : List TMode).length ≤ 4294967296))).bind fun _ =>
  some (.inl ((out7 ++ [e16.Mode]), e16.To))
  else
  some (.inr out7)

noncomputable def F_space_Path_c2 (out11 : (List TMode)) : Option (List TMode) :=
  some out11

noncomputable def F_space_Path (s1 : TSpace) (k2 : Int) : Option (List TMode) :=
  (F_space_far s1 k2).bind fun x5 =>
  bif (!(mget x5 0).isSome) then
  some ([] : List TMode)
  else
  (loopM (fun st => F_space_Path_l1 x5 s1 st.1 st.2) (([] : List TMode), 0)).bind (fun q => F_space_Path_c2 q)

set_option maxRecDepth 100000 in
set_option maxHeartbeats 4000000 in
theorem F_space_Path_ok (s1 : TSpace) (k2 : Int) {r : (List TMode)} (h : F_space_Path s1 k2 = some r) : ACalls Tryz.prog 13 [.agg (row_TSpace s1), .i .i64 k2] [] (Gives (.own 30000 r.length) [(30000, .arr 4 (r.map row_TMode))]) := by
  refine ACalls.walk 50 Tryz.func13 rfl Tryz.ntmps13 rfl fun C hC => ?_
  unfold F_space_Path at h
  obtain ⟨x5, hx5, h⟩ := bindE h
  refine AK.go tab_ok hC [.n 8, .v .no [] (.agg (row_TSpace s1)), .n 1, .cm (.fn) [] [(15, 30004)] [] [.d, .d] [(30004, .map (mapV (V.i .i64) (V.i .i64) x5))] (.map 30004), .n 2, .sayO 5 (.var [.map 15]), .n 6, .o (.any (.tup [.i .i64 ((mget x5 0).getD 0), .b (mget x5 0).isSome]) none), .n 13] rfl ⟨⟨⟨⟨trivial, rfl⟩, (F_space_far_ok _ _ hx5)⟩, rfl⟩, (fun σ h1 h2 _ => Stp.lookupOk (e := (V.i .i64)) (f := (V.i .i64)) (l := x5) (k := 0) (z := 0) rfl rfl (hC ▸ rfl) (h1 _ _ rfl) (h2 _ _ rfl) (h1 _ _ rfl) mt_58 ky_3 zi_3 rfl rfl)⟩ ?_
  rcases bifE h with ⟨hc6, h⟩ | ⟨hc6, h⟩
  · refine AK.go tab_ok hC [.br true, .n 7, .adopt 4 30000 4, .sayO 30000 (.arr 4 (([] : List TMode).map row_TMode)), .say 4 (.own 30000 ([] : List TMode).length), .keep [4] [30000]] rfl ⟨⟨⟨trivial, hc6⟩, rfl⟩, rfl⟩ ?_
    obtain rfl := Option.some.inj h
    refine AK.done ?_
    exact Exists.intro [_] (And.intro (And.intro rfl trivial) (gives ⟨rfl, trivial⟩))
  · refine AK.go tab_ok hC [.br false, .n 12, .sayO 9 (.var (row_I 0)), .n 3, .adopt 8 8 4, .sayO 8 (.arr 4 (([] : List TMode).map row_TMode)), .say 8 (.own 8 ([] : List TMode).length), .keep [2, 5, 8, 9] [2, 5, 8, 9, 15]] rfl ⟨⟨⟨⟨trivial, hc6⟩, rfl⟩, rfl⟩, (congrArg (fun n => V.own 8 n) (by simp))⟩ ?_
    obtain ⟨out11, hl18, h⟩ := bindE h
    refine AK.loop (body := (fun st => F_space_Path_l1 x5 s1 st.1 st.2)) (fun st σ => σ = ⟨[(2, .loc 2 0 0), (5, .loc 5 0 0), (8, .own 8 st.1.length), (9, .loc 9 0 0)], [(2, .var (row_TSpace s1)), (5, .var [.map 15]), (8, .arr 4 (st.1.map row_TMode)), (9, .var (row_I st.2)), (15, .map (mapV (V.i .i64) (V.i .i64) x5))]⟩) (fun q e σ => e = .exit 0 ∧ σ = ⟨[(8, .own 8 q.length)], [(8, .arr 4 (q.map row_TMode))]⟩) hl18 rfl ?_ ?_
    · rintro ⟨out7, at_8⟩ o σ rfl h
      replace h : F_space_Path_l1 x5 s1 out7 at_8 = some o := h
      unfold F_space_Path_l1 at h
      refine AK.go tab_ok hC [.n 5, .o (.any (.i .i64 ((mget x5 at_8).getD 0)) none), .n 3] rfl ⟨trivial, (fun σ h1 h2 _ => Stp.lookup (e := (V.i .i64)) (f := (V.i .i64)) (l := x5) (k := at_8) (z := 0) rfl rfl (hC ▸ rfl) (h1 _ _ rfl) (h2 _ _ rfl) (h1 _ _ rfl) mt_58 ky_3 zi_3 rfl)⟩ ?_
      rcases bifE h with ⟨hc12, h⟩ | ⟨hc12, h⟩
      · obtain ⟨x13, hx13, h⟩ := bindE h
        obtain ⟨x14, hx14, h⟩ := bindE h
        obtain ⟨e15, he15, h⟩ := bindE h
        obtain ⟨e16, he16, h⟩ := bindE h
        refine AK.go tab_ok hC [.br true, .n 12, .v .no [] (.agg (row_TSpace s1)), .n 1, .o (.co false [.d, .d] 1 (x13.map row_I) x13.length), .n 4, .frz 30 (x13.map row_I) [11, 30] [], .keep [2, 5, 8, 9, 10, 11] [2, 5, 8, 9, 15]] rfl ⟨⟨⟨⟨trivial, hc12⟩, rfl⟩, ⟨(F_space_Out_ok _ _ hx13), mapLen, .inl rfl⟩⟩, ⟨⟨trivial, (frzL mapLen)⟩, (frzL mapLen)⟩⟩ ?_
        refine AK.draw2 tab_ok hC mixed [.a .no none false, .a .no none false, .a .no none false, .a .no none false, .a .no none false, .a (.any (.i .i64 x14) none) none false, .a (.row (row_I e15)) none false, .a .no none false, .a (.row (row_TEdge e16)) none false, .a .no (some ([], .agg (row_TEdge e16))) false, .a .no none false, .m .s] [] [] [2, 5, 8, 9, 12] [2, 5, 8, 9, 12, 15] rfl rfl rfl ⟨⟨⟨⟨trivial, (fun σ h1 h2 _ => Stp.callSame (md := .cm (.fn) [(200000, 5), (200001, 15), (200002, 2), (200003, 9)] [(5, 200000), (15, 200001), (2, 200002), (9, 200003)] [] [.d, .d] [(200000, .var [.map 200001]), (200001, .map (mapV (V.i .i64) (V.i .i64) x5)), (200002, .var (row_TSpace s1)), (200003, .var (row_I at_8))] (.i .i64 x14) [5, 15, 2, 9]) tab_ok hC h1 h2 rfl ⟨⟨trivial, (F_slices_IndexFunc_int_int_v4_ok _ _ _ _ hx14)⟩, ⟨rfl, rfl, rfl, rfl, trivial⟩⟩)⟩, (idxM he15)⟩, (idxM he16)⟩, rfl⟩ rfl (by kernel_rfl) rfl rfl rfl ?_
        obtain ⟨_, hk17, h⟩ := bindE h
        replace hk17 := chkE hk17
        refine AK.go tab_ok hC [.sayO 12 (.var (row_TEdge e16)), .n 1, .keep [2, 5, 8, 9, 12] [2, 5, 8, 9, 12, 15]] rfl ⟨trivial, rfl⟩ ?_
        refine AK.draw2 tab_ok hC mixed [.a .no none false, .a .no none false, .a .no (some ([], .agg (row_TMode e16.Mode))) false, .a (.bd []) (some ([], .sl 4 (([e16.Mode] : List TMode).map row_TMode))) false, .m (.app ((out7 ++ [e16.Mode]).map row_TMode) (out7 ++ [e16.Mode]).length), .a .no none true, .a .no none true, .m .s, .m .s] [2, 5, 9, 12] [2, 5, 9, 12, 15] [2, 5, 8, 9] [2, 5, 8, 9, 15] rfl rfl rfl ⟨⟨⟨trivial, rfl⟩, rfl⟩, ⟨mapLen, appLim hk17 mapLen, mapApps, appLn mapLen⟩⟩ rfl (by kernel_rfl) rfl rfl rfl ?_
        refine AK.go tab_ok hC [.sayO 9 (.var (row_I e16.To)), .n 8, .kill 9, .n 2, .sayO 9 (.var (row_I e16.To)), .n 1, .keep [2, 5, 8, 9] [2, 5, 8, 9, 15]] rfl ⟨⟨trivial, rfl⟩, rfl⟩ ?_
        obtain rfl := Option.some.inj h
        exact rndN rfl rfl
      · refine AK.go tab_ok hC [.br false, .n 2, .keep [8] [8]] rfl ⟨trivial, hc12⟩ ?_
        obtain rfl := Option.some.inj h
        exact rndX rfl (And.intro rfl rfl)
    · replace h : F_space_Path_c2 out11 = some r := h
      unfold F_space_Path_c2 at h
      rintro e σ ⟨rfl, rfl⟩
      refine AK.go tab_ok hC [.n 9, .keep [4] [8], .ren 8 30000, .keep [4] [30000]] rfl trivial ?_
      obtain rfl := Option.some.inj h
      refine AK.done ?_
      exact Exists.intro [_] (And.intro (And.intro rfl trivial) (gives ⟨rfl, trivial⟩))

-- 44 slices.Equal[baldric/api.Bag,[2]int]
noncomputable def F_slices_Equal_api_Bag_2_int_l1 (s1 : (List (Int × Int))) (s2 : (List (Int × Int))) (x6 : Int) : Option (Int ⊕ (Unit ⊕ Unit)) :=
  bif (decide (x6 < (s1.length : Int))) then
  (idx s1 x6).bind fun e9 =>
  (idx s2 x6).bind fun e10 =>
  bif (!((e9.1 == e10.1) && (e9.2 == e10.2))) then
  some (.inr (.inl ()))
  else
  some (.inl (w64 (x6 + 1)))
  else
  some (.inr (.inr ()))

noncomputable def F_slices_Equal_api_Bag_2_int_c2 : Option Bool :=
  some false

noncomputable def F_slices_Equal_api_Bag_2_int_c3 : Option Bool :=
  some true

noncomputable def F_slices_Equal_api_Bag_2_int (s1 : (List (Int × Int))) (s2 : (List (Int × Int))) : Option Bool :=
  bif ((s1.length : Int) != (s2.length : Int)) then
  some false
  else
  (loopM (fun st => F_slices_Equal_api_Bag_2_int_l1 s1 s2 st) 0).bind (Sum.elim (fun q => F_slices_Equal_api_Bag_2_int_c2) (fun q => F_slices_Equal_api_Bag_2_int_c3))

set_option maxRecDepth 100000 in
set_option maxHeartbeats 4000000 in
theorem F_slices_Equal_api_Bag_2_int_ok (s1 : (List (Int × Int))) (s2 : (List (Int × Int))) {r : Bool} (h : F_slices_Equal_api_Bag_2_int s1 s2 = some r) : ACalls Tryz.prog 44 [.sl 2 (s1.map row_A2I), .sl 2 (s2.map row_A2I)] [] (Gives (.b r) []) := by
  refine ACalls.walk 26 Tryz.func44 rfl Tryz.ntmps44 rfl fun C hC => ?_
  unfold F_slices_Equal_api_Bag_2_int at h
  refine AK.go tab_ok hC [.n 9, .o (.ln s1.length), .n 1, .o (.ln s2.length), .n 3] rfl ⟨⟨trivial, mapLen⟩, mapLen⟩ ?_
  rcases bifE h with ⟨hc5, h⟩ | ⟨hc5, h⟩
  · refine AK.go tab_ok hC [.br true, .n 7, .keep [4] []] rfl ⟨trivial, hc5⟩ ?_
    obtain rfl := Option.some.inj h
    refine AK.done ?_
    exact Exists.intro [_] (And.intro (And.intro rfl trivial) (gives trivial))
  · refine AK.go tab_ok hC [.br false, .n 6, .o (.ln s1.length), .n 4, .keep [0, 1, 12, 13] []] rfl ⟨⟨trivial, hc5⟩, mapLen⟩ ?_
    obtain ⟨o12, hl12, h⟩ := bindE h
    refine AK.loop (body := (fun st => F_slices_Equal_api_Bag_2_int_l1 s1 s2 st)) (fun st σ => σ = ⟨[(0, .sl 2 (s1.map row_A2I)), (1, .sl 2 (s2.map row_A2I)), (12, .i .i64 (s1.length : Int)), (13, .i .i64 st)], []⟩) (Sum.elim (fun q e σ => e = .ret ∧ σ = ⟨[(4, .b false)], []⟩) (fun q e σ => e = .exit 0 ∧ σ = ⟨[], []⟩)) hl12 rfl ?_ ?_
    · rintro x6 o σ rfl h
      replace h : F_slices_Equal_api_Bag_2_int_l1 s1 s2 x6 = some o := h
      unfold F_slices_Equal_api_Bag_2_int_l1 at h
      refine AK.go tab_ok hC [.n 6] rfl trivial ?_
      rcases bifE h with ⟨hc8, h⟩ | ⟨hc8, h⟩
      · obtain ⟨e9, he9, h⟩ := bindE h
        obtain ⟨e10, he10, h⟩ := bindE h
        refine AK.go tab_ok hC [.br true, .n 11, .keep [0, 1, 5, 12, 13] []] rfl ⟨trivial, hc8⟩ ?_
        refine AK.draw2 tab_ok hC mixed [.a .no none false, .a .no none false, .a (.row (row_A2I e9)) none false, .a .no (some ([], .agg (row_A2I e9))) false, .a .no none false, .a .no none false, .a (.row (row_A2I e10)) none false, .a .no (some ([], .agg (row_A2I e10))) false, .a (.any (.b (!((e9.1 == e10.1) && (e9.2 == e10.2)))) none) none false] [] [] [0, 1, 12, 13, 24] [] rfl rfl rfl ⟨⟨⟨⟨⟨trivial, (idxM he9)⟩, rfl⟩, (idxM he10)⟩, rfl⟩, (fun σ h1 h2 _ => Stp.neAgg rfl rfl (hC ▸ rfl) (h1 _ _ rfl) (h1 _ _ rfl) rfl rfl (eq_45 _ _ _ _))⟩ rfl (by kernel_rfl) rfl rfl rfl ?_
        refine AK.go tab_ok hC [.n 1] rfl trivial ?_
        rcases bifE h with ⟨hc11, h⟩ | ⟨hc11, h⟩
        · refine AK.go tab_ok hC [.br true, .n 8, .keep [4] []] rfl ⟨trivial, hc11⟩ ?_
          obtain rfl := Option.some.inj h
          exact rndR rfl (And.intro rfl rfl)
        · refine AK.go tab_ok hC [.br false, .n 7, .keep [0, 1, 12, 13] []] rfl ⟨trivial, hc11⟩ ?_
          obtain rfl := Option.some.inj h
          exact rndN rfl rfl
      · refine AK.go tab_ok hC [.br false, .n 2, .keep [] []] rfl ⟨trivial, hc8⟩ ?_
        obtain rfl := Option.some.inj h
        exact rndX rfl (And.intro rfl rfl)
    · rcases o12 with (_ | _)
      · replace h : F_slices_Equal_api_Bag_2_int_c2 = some r := h
        unfold F_slices_Equal_api_Bag_2_int_c2 at h
        rintro e σ ⟨rfl, rfl⟩
        refine AK.go tab_ok hC [.n 2, .keep [4] []] rfl trivial ?_
        obtain rfl := Option.some.inj h
        refine AK.done ?_
        exact Exists.intro [_] (And.intro (And.intro rfl trivial) (gives trivial))
      · replace h : F_slices_Equal_api_Bag_2_int_c3 = some r := h
        unfold F_slices_Equal_api_Bag_2_int_c3 at h
        rintro e σ ⟨rfl, rfl⟩
        refine AK.go tab_ok hC [.n 8, .keep [4] []] rfl trivial ?_
        obtain rfl := Option.some.inj h
        refine AK.done ?_
        exact Exists.intro [_] (And.intro (And.intro rfl trivial) (gives trivial))

-- 31 baldric/bag.Same
noncomputable def F_bag_Same_g1 (a1 : (List (Int × Int))) (b2 : (List (Int × Int))) : Option Bool :=
  (F_bag_Right a1).bind fun x6 =>
  bif x6 then
  (F_bag_Right b2).bind fun x8 =>
  bif x8 then
  (F_slices_Equal_api_Bag_2_int a1 b2).bind fun x10 =>
  some x10
  else
  some false
  else
  some false

noncomputable def F_bag_Same_k2 (x4 : Bool) : Option Bool :=
  some x4

noncomputable def F_bag_Same (a1 : (List (Int × Int))) (b2 : (List (Int × Int))) : Option Bool :=
  (F_bag_Same_g1 a1 b2).bind (fun x4 => F_bag_Same_k2 x4)

set_option maxRecDepth 100000 in
set_option maxHeartbeats 4000000 in
theorem F_bag_Same_ok (a1 : (List (Int × Int))) (b2 : (List (Int × Int))) {r : Bool} (h : F_bag_Same a1 b2 = some r) : ACalls Tryz.prog 31 [.sl 2 (a1.map row_A2I), .sl 2 (b2.map row_A2I)] [] (Gives (.b r) []) := by
  refine ACalls.walk 16 Tryz.func31 rfl Tryz.ntmps31 rfl fun C hC => ?_
  unfold F_bag_Same at h
  refine AK.go tab_ok hC [.n 6] rfl trivial ?_
  obtain ⟨x4, hv5, h⟩ := bindE h
  replace h : F_bag_Same_k2 x4 = some r := h
  refine AK.meetX (fun σ => σ = ⟨[(4, .b x4)], []⟩) ?_ ?_
  · replace h := hv5
    unfold F_bag_Same_g1 at h
    obtain ⟨x6, hx6, h⟩ := bindE h
    refine AK.go tab_ok hC [.n 2, .o (.c false [.d] (.b x6)), .n 1] rfl ⟨trivial, (F_bag_Right_ok _ hx6)⟩ ?_
    rcases bifE h with ⟨hc7, h⟩ | ⟨hc7, h⟩
    · obtain ⟨x8, hx8, h⟩ := bindE h
      refine AK.go tab_ok hC [.say 7 (.b true), .n 1, .o (.c false [.d] (.b x8)), .n 2] rfl ⟨⟨trivial, (congrArg V.b hc7)⟩, (F_bag_Right_ok _ hx8)⟩ ?_
      rcases bifE h with ⟨hc9, h⟩ | ⟨hc9, h⟩
      · obtain ⟨x10, hx10, h⟩ := bindE h
        refine AK.go tab_ok hC [.say 11 (.b true), .n 2, .o (.c false [.d, .d] (.b x10)), .n 3, .keep [4] []] rfl ⟨⟨trivial, (congrArg V.b hc9)⟩, (F_slices_Equal_api_Bag_2_int_ok _ _ hx10)⟩ ?_
        obtain rfl := Option.some.inj h
        exact AK.met rfl
      · refine AK.go tab_ok hC [.say 11 (.b false), .n 6, .keep [4] []] rfl ⟨trivial, (congrArg V.b hc9)⟩ ?_
        obtain rfl := Option.some.inj h
        exact AK.met rfl
    · refine AK.go tab_ok hC [.say 7 (.b false), .n 10, .keep [4] []] rfl ⟨trivial, (congrArg V.b hc7)⟩ ?_
      obtain rfl := Option.some.inj h
      exact AK.met rfl
  · rintro σ rfl
    replace h : F_bag_Same_k2 x4 = some r := h
    unfold F_bag_Same_k2 at h
    refine AK.go tab_ok hC [.n 2, .keep [4] []] rfl trivial ?_
    obtain rfl := Option.some.inj h
    refine AK.done ?_
    exact Exists.intro [_] (And.intro (And.intro rfl trivial) (gives trivial))

-- 30 slices.EqualFunc[baldric/api.Marking,baldric/api.Marking,baldric/api.Bag,baldric/api.Bag]
noncomputable def F_slices_EqualFunc_api_Marking_api_Marking_api_Bag_api_Bag_v2_l1 (s1 : (List (List (Int × Int)))) (s2 : (List (List (Int × Int)))) (x6 : Int) : Option (Int ⊕ (Unit ⊕ Unit)) :=
  bif (decide (x6 < (s1.length : Int))) then
  (idx s1 x6).bind fun e9 =>
  (idx s2 x6).bind fun e10 =>
  (F_bag_Same e9 e10).bind fun x11 =>
  bif (!x11) then
  some (.inr (.inl ()))
  else
  some (.inl (w64 (x6 + 1)))
  else
  some (.inr (.inr ()))

noncomputable def F_slices_EqualFunc_api_Marking_api_Marking_api_Bag_api_Bag_v2_c2 : Option Bool :=
  some false

noncomputable def F_slices_EqualFunc_api_Marking_api_Marking_api_Bag_api_Bag_v2_c3 : Option Bool :=
  some true

noncomputable def F_slices_EqualFunc_api_Marking_api_Marking_api_Bag_api_Bag_v2 (s1 : (List (List (Int × Int)))) (s2 : (List (List (Int × Int)))) : Option Bool :=
  bif ((s1.length : Int) != (s2.length : Int)) then
  some false
  else
  (loopM (fun st => F_slices_EqualFunc_api_Marking_api_Marking_api_Bag_api_Bag_v2_l1 s1 s2 st) 0).bind (Sum.elim (fun q => F_slices_EqualFunc_api_Marking_api_Marking_api_Bag_api_Bag_v2_c2) (fun q => F_slices_EqualFunc_api_Marking_api_Marking_api_Bag_api_Bag_v2_c3))

set_option maxRecDepth 100000 in
set_option maxHeartbeats 4000000 in
theorem F_slices_EqualFunc_api_Marking_api_Marking_api_Bag_api_Bag_v2_ok (s1 : (List (List (Int × Int)))) (s2 : (List (List (Int × Int)))) {r : Bool} (h : F_slices_EqualFunc_api_Marking_api_Marking_api_Bag_api_Bag_v2 s1 s2 = some r) : ACalls Tryz.prog 30 [.sl 1 (s1.map row_LA2I), .sl 1 (s2.map row_LA2I), .clo (.func 31) [] []] [] (Gives (.b r) []) := by
  refine ACalls.walk 32 Tryz.func30 rfl Tryz.ntmps30 rfl fun C hC => ?_
  unfold F_slices_EqualFunc_api_Marking_api_Marking_api_Bag_api_Bag_v2 at h
  refine AK.go tab_ok hC [.n 9, .o (.ln s1.length), .n 1, .o (.ln s2.length), .n 3] rfl ⟨⟨trivial, mapLen⟩, mapLen⟩ ?_
  rcases bifE h with ⟨hc5, h⟩ | ⟨hc5, h⟩
  · refine AK.go tab_ok hC [.br true, .n 7, .keep [6] []] rfl ⟨trivial, hc5⟩ ?_
    obtain rfl := Option.some.inj h
    refine AK.done ?_
    exact Exists.intro [_] (And.intro (And.intro rfl trivial) (gives trivial))
  · refine AK.go tab_ok hC [.br false, .n 6, .o (.ln s1.length), .n 4, .keep [1, 2, 15, 16, 17] []] rfl ⟨⟨trivial, hc5⟩, mapLen⟩ ?_
    obtain ⟨o13, hl13, h⟩ := bindE h
    refine AK.loop (body := (fun st => F_slices_EqualFunc_api_Marking_api_Marking_api_Bag_api_Bag_v2_l1 s1 s2 st)) (fun st σ => σ = ⟨[(1, .sl 1 (s2.map row_LA2I)), (2, .clo (.func 31) [] []), (15, .sl 1 (s1.map row_LA2I)), (16, .i .i64 (s1.length : Int)), (17, .i .i64 st)], []⟩) (Sum.elim (fun q e σ => e = .ret ∧ σ = ⟨[(6, .b false)], []⟩) (fun q e σ => e = .exit 0 ∧ σ = ⟨[], []⟩)) hl13 rfl ?_ ?_
    · rintro x6 o σ rfl h
      replace h : F_slices_EqualFunc_api_Marking_api_Marking_api_Bag_api_Bag_v2_l1 s1 s2 x6 = some o := h
      unfold F_slices_EqualFunc_api_Marking_api_Marking_api_Bag_api_Bag_v2_l1 at h
      refine AK.go tab_ok hC [.n 6] rfl trivial ?_
      rcases bifE h with ⟨hc8, h⟩ | ⟨hc8, h⟩
      · obtain ⟨e9, he9, h⟩ := bindE h
        obtain ⟨e10, he10, h⟩ := bindE h
        obtain ⟨x11, hx11, h⟩ := bindE h
        refine AK.go tab_ok hC [.br true, .n 7, .o (.row (row_LA2I e9)), .n 9, .o (.row (row_LA2I e10)), .n 9, .o (.c false [.d, .d] (.b x11)), .n 3] rfl ⟨⟨⟨⟨trivial, hc8⟩, (idxM he9)⟩, (idxM he10)⟩, (F_bag_Same_ok _ _ hx11)⟩ ?_
        rcases bifE h with ⟨hc12, h⟩ | ⟨hc12, h⟩
        · refine AK.go tab_ok hC [.br true, .n 8, .keep [6] []] rfl ⟨trivial, hc12⟩ ?_
          obtain rfl := Option.some.inj h
          exact rndR rfl (And.intro rfl rfl)
        · refine AK.go tab_ok hC [.br false, .n 7, .keep [1, 2, 15, 16, 17] []] rfl ⟨trivial, hc12⟩ ?_
          obtain rfl := Option.some.inj h
          exact rndN rfl rfl
      · refine AK.go tab_ok hC [.br false, .n 2, .keep [] []] rfl ⟨trivial, hc8⟩ ?_
        obtain rfl := Option.some.inj h
        exact rndX rfl (And.intro rfl rfl)
    · rcases o13 with (_ | _)
      · replace h : F_slices_EqualFunc_api_Marking_api_Marking_api_Bag_api_Bag_v2_c2 = some r := h
        unfold F_slices_EqualFunc_api_Marking_api_Marking_api_Bag_api_Bag_v2_c2 at h
        rintro e σ ⟨rfl, rfl⟩
        refine AK.go tab_ok hC [.n 2, .keep [6] []] rfl trivial ?_
        obtain rfl := Option.some.inj h
        refine AK.done ?_
        exact Exists.intro [_] (And.intro (And.intro rfl trivial) (gives trivial))
      · replace h : F_slices_EqualFunc_api_Marking_api_Marking_api_Bag_api_Bag_v2_c3 = some r := h
        unfold F_slices_EqualFunc_api_Marking_api_Marking_api_Bag_api_Bag_v2_c3 at h
        rintro e σ ⟨rfl, rfl⟩
        refine AK.go tab_ok hC [.n 8, .keep [6] []] rfl trivial ?_
        obtain rfl := Option.some.inj h
        refine AK.done ?_
        exact Exists.intro [_] (And.intro (And.intro rfl trivial) (gives trivial))

-- 19 baldric/mark.Same
noncomputable def F_mark_Same (a1 : (List (List (Int × Int)))) (b2 : (List (List (Int × Int)))) : Option Bool :=
  (F_slices_EqualFunc_api_Marking_api_Marking_api_Bag_api_Bag_v2 a1 b2).bind fun x4 =>
  some x4

set_option maxRecDepth 100000 in
set_option maxHeartbeats 4000000 in
theorem F_mark_Same_ok (a1 : (List (List (Int × Int)))) (b2 : (List (List (Int × Int)))) {r : Bool} (h : F_mark_Same a1 b2 = some r) : ACalls Tryz.prog 19 [.sl 1 (a1.map row_LA2I), .sl 1 (b2.map row_LA2I)] [] (Gives (.b r) []) := by
  refine ACalls.walk 8 Tryz.func19 rfl Tryz.ntmps19 rfl fun C hC => ?_
  unfold F_mark_Same at h
  obtain ⟨x4, hx4, h⟩ := bindE h
  refine AK.go tab_ok hC [.n 9, .cm (.fn) [] [] [] [.d, .d, .d] [] (.b x4), .n 4, .keep [4] []] rfl ⟨trivial, (F_slices_EqualFunc_api_Marking_api_Marking_api_Bag_api_Bag_v2_ok _ _ hx4)⟩ ?_
  obtain rfl := Option.some.inj h
  refine AK.done ?_
  exact Exists.intro [_] (And.intro (And.intro rfl trivial) (gives trivial))

-- 18 baldric/space.Find$1
noncomputable def F_space_Find_1 (p1 : (List (List (Int × Int)))) (v2 : (List (List (Int × Int)))) : Option Bool :=
  (F_mark_Same p1 v2).bind fun x4 =>
  some x4

set_option maxRecDepth 100000 in
set_option maxHeartbeats 4000000 in
theorem F_space_Find_1_ok (p1 : (List (List (Int × Int)))) (v2 : (List (List (Int × Int)))) {r : Bool} (h : F_space_Find_1 p1 v2 = some r) : ACalls Tryz.prog 18 [.sl 1 (p1.map row_LA2I), .loc 200000 0 0] [(200000, .var (row_LLA2I v2))] (Gives (.b r) [(200000, .var (row_LLA2I v2))]) := by
  refine ACalls.walk 7 Tryz.func18 rfl Tryz.ntmps18 rfl fun C hC => ?_
  unfold F_space_Find_1 at h
  obtain ⟨x4, hx4, h⟩ := bindE h
  refine AK.go tab_ok hC [.n 9, .o (.c false [.d, .d] (.b x4)), .n 4, .keep [3] [200000]] rfl ⟨trivial, (F_mark_Same_ok _ _ hx4)⟩ ?_
  obtain rfl := Option.some.inj h
  refine AK.done ?_
  exact Exists.intro [_] (And.intro (And.intro rfl trivial) (gives ⟨rfl, trivial⟩))

-- 17 slices.IndexFunc[[]baldric/api.Marking,baldric/api.Marking]
noncomputable def F_slices_IndexFunc_api_Marking_api_Marking_l1 (s1 : (List (List (List (Int × Int))))) (v2 : (List (List (Int × Int)))) (x5 : Int) : Option (Int ⊕ (Int ⊕ Unit)) :=
  bif (decide (x5 < (s1.length : Int))) then
  (idx s1 x5).bind fun e9 =>
  (F_space_Find_1 e9 v2).bind fun x10 =>
  bif x10 then
  some (.inr (.inl x5))
  else
  some (.inl (w64 (x5 + 1)))
  else
  some (.inr (.inr ()))

noncomputable def F_slices_IndexFunc_api_Marking_api_Marking_c2 (x7 : Int) : Option Int :=
  some x7

noncomputable def F_slices_IndexFunc_api_Marking_api_Marking_c3 : Option Int :=
  some (-1)

noncomputable def F_slices_IndexFunc_api_Marking_api_Marking (s1 : (List (List (List (Int × Int))))) (v2 : (List (List (Int × Int)))) : Option Int :=
  (loopM (fun st => F_slices_IndexFunc_api_Marking_api_Marking_l1 s1 v2 st) 0).bind (Sum.elim (fun q => F_slices_IndexFunc_api_Marking_api_Marking_c2 q) (fun q => F_slices_IndexFunc_api_Marking_api_Marking_c3))

set_option maxRecDepth 100000 in
set_option maxHeartbeats 4000000 in
theorem F_slices_IndexFunc_api_Marking_api_Marking_ok (s1 : (List (List (List (Int × Int))))) (v2 : (List (List (Int × Int)))) {r : Int} (h : F_slices_IndexFunc_api_Marking_api_Marking s1 v2 = some r) : ACalls Tryz.prog 17 [.sl 1 (s1.map row_LLA2I), .clo (.func 18) [] [.loc 200000 0 0]] [(200000, .var (row_LLA2I v2))] (Gives (.i .i64 r) [(200000, .var (row_LLA2I v2))]) := by
  refine ACalls.walk 19 Tryz.func17 rfl Tryz.ntmps17 rfl fun C hC => ?_
  unfold F_slices_IndexFunc_api_Marking_api_Marking at h
  refine AK.go tab_ok hC [.n 9, .o (.ln s1.length), .n 4, .keep [0, 1, 7, 8] [200000]] rfl ⟨trivial, mapLen⟩ ?_
  obtain ⟨o12, hl12, h⟩ := bindE h
  refine AK.loop (body := (fun st => F_slices_IndexFunc_api_Marking_api_Marking_l1 s1 v2 st)) (fun st σ => σ = ⟨[(0, .sl 1 (s1.map row_LLA2I)), (1, .clo (.func 18) [] [.loc 200000 0 0]), (7, .i .i64 (s1.length : Int)), (8, .i .i64 st)], [(200000, .var (row_LLA2I v2))]⟩) (Sum.elim (fun q e σ => e = .ret ∧ σ = ⟨[(4, .i .i64 q)], [(200000, .var (row_LLA2I v2))]⟩) (fun q e σ => e = .exit 0 ∧ σ = ⟨[], [(200000, .var (row_LLA2I v2))]⟩)) hl12 rfl ?_ ?_
  · rintro x5 o σ rfl h
    replace h : F_slices_IndexFunc_api_Marking_api_Marking_l1 s1 v2 x5 = some o := h
    unfold F_slices_IndexFunc_api_Marking_api_Marking_l1 at h
    refine AK.go tab_ok hC [.n 6] rfl trivial ?_
    rcases bifE h with ⟨hc8, h⟩ | ⟨hc8, h⟩
    · obtain ⟨e9, he9, h⟩ := bindE h
      obtain ⟨x10, hx10, h⟩ := bindE h
      refine AK.go tab_ok hC [.br true, .n 15, .o (.row (row_LLA2I e9)), .n 1, .cm (.clo) [(200000, 200000)] [(200000, 200000)] [] [.d, .d] [(200000, .var (row_LLA2I v2))] (.b x10), .n 2] rfl ⟨⟨⟨trivial, hc8⟩, (idxM he9)⟩, (F_space_Find_1_ok _ _ hx10)⟩ ?_
      rcases bifE h with ⟨hc11, h⟩ | ⟨hc11, h⟩
      · refine AK.go tab_ok hC [.br true, .n 9, .keep [4] [200000]] rfl ⟨trivial, hc11⟩ ?_
        obtain rfl := Option.some.inj h
        exact rndR rfl (And.intro rfl rfl)
      · refine AK.go tab_ok hC [.br false, .n 7, .keep [0, 1, 7, 8] [200000]] rfl ⟨trivial, hc11⟩ ?_
        obtain rfl := Option.some.inj h
        exact rndN rfl rfl
    · refine AK.go tab_ok hC [.br false, .n 2, .keep [] [200000]] rfl ⟨trivial, hc8⟩ ?_
      obtain rfl := Option.some.inj h
      exact rndX rfl (And.intro rfl rfl)
  · rcases o12 with (x7 | _)
    · replace h : F_slices_IndexFunc_api_Marking_api_Marking_c2 x7 = some r := h
      unfold F_slices_IndexFunc_api_Marking_api_Marking_c2 at h
      rintro e σ ⟨rfl, rfl⟩
      refine AK.go tab_ok hC [.n 2, .keep [4] [200000]] rfl trivial ?_
      obtain rfl := Option.some.inj h
      refine AK.done ?_
      exact Exists.intro [_] (And.intro (And.intro rfl trivial) (gives ⟨rfl, trivial⟩))
    · replace h : F_slices_IndexFunc_api_Marking_api_Marking_c3 = some r := h
      unfold F_slices_IndexFunc_api_Marking_api_Marking_c3 at h
      rintro e σ ⟨rfl, rfl⟩
      refine AK.go tab_ok hC [.n 8, .keep [4] [200000]] rfl trivial ?_
      obtain rfl := Option.some.inj h
      refine AK.done ?_
      exact Exists.intro [_] (And.intro (And.intro rfl trivial) (gives ⟨rfl, trivial⟩))

-- 5 baldric/space.Find
noncomputable def F_space_Find (s1 : TSpace) (m2 : (List (List (Int × Int)))) : Option Int :=
  (F_slices_IndexFunc_api_Marking_api_Marking s1.States m2).bind fun x4 =>
  some x4

set_option maxRecDepth 100000 in
set_option maxHeartbeats 4000000 in
theorem F_space_Find_ok (s1 : TSpace) (m2 : (List (List (Int × Int)))) {r : Int} (h : F_space_Find s1 m2 = some r) : ACalls Tryz.prog 5 [.agg (row_TSpace s1), .sl 1 (m2.map row_LA2I)] [] (Gives (.i .i64 r) []) := by
  refine ACalls.walk 9 Tryz.func5 rfl Tryz.ntmps5 rfl fun C hC => ?_
  unfold F_space_Find at h
  obtain ⟨x4, hx4, h⟩ := bindE h
  refine AK.go tab_ok hC [.n 12, .cm (.fn) [(200000, 3)] [(3, 200000)] [] [.d, .d] [(200000, .var (row_LLA2I m2))] (.i .i64 x4), .n 4, .keep [4] []] rfl ⟨trivial, (F_slices_IndexFunc_api_Marking_api_Marking_ok _ _ hx4)⟩ ?_
  obtain rfl := Option.some.inj h
  refine AK.done ?_
  exact Exists.intro [_] (And.intro (And.intro rfl trivial) (gives trivial))

-- 22 slices.Compact[[]int,int]
noncomputable def F_slices_Compact_int_int (l : List Int) : Option (List Int) := (chk (decide (l.length < 4611686018427387904))).bind fun _ => some (compI l)

theorem F_slices_Compact_int_int_ok (l : List Int) {r : List Int} (h : F_slices_Compact_int_int l = some r) : ACalls Tryz.prog 22 [.own 200000 l.length] [(200000, .arr 1 (l.map row_I))] (Gives (.own 200000 r.length) [(200000, .arr 1 (r.map row_I))]) := by
  unfold F_slices_Compact_int_int at h
  obtain ⟨_, h1, h⟩ := bindE h
  cases h
  exact compI_calls lays_comp l (of_decide_eq_true (chkE h1))

-- 10 baldric/space.Tasks
noncomputable def F_space_Tasks_l1 (s1 : TSpace) (x4 : Int) (l5 : (List Int)) : Option ((Int × (List Int)) ⊕ (List Int)) :=
  bif (decide (x4 < (s1.Edges.length : Int))) then
  (idx s1.Edges x4).bind fun e10 =>
  (chk (decide (l5.length + ([e10.Mode.Task] : List Int).length ≤ 4294967296))).bind fun _ =>
  some (.inl ((w64 (x4 + 1)), (l5 ++ ([e10.Mode.Task] : List Int))))
  else
  some (.inr l5)

noncomputable def F_space_Tasks_c2 (l8 : (List Int)) : Option (List Int) :=
  (F_slices_Sort_int_int l8).bind fun x13 =>
  (chk (decide (x13.length = l8.length))).bind fun _ =>
  (F_slices_Compact_int_int x13).bind fun x15 =>
  some x15

noncomputable def F_space_Tasks (s1 : TSpace) : Option (List Int) :=
  (loopM (fun st => F_space_Tasks_l1 s1 st.1 st.2) (0, ([] : List Int))).bind (fun q => F_space_Tasks_c2 q)

set_option maxRecDepth 100000 in
set_option maxHeartbeats 4000000 in
theorem F_space_Tasks_ok (s1 : TSpace) {r : (List Int)} (h : F_space_Tasks s1 = some r) : ACalls Tryz.prog 10 [.agg (row_TSpace s1)] [] (Gives (.own 30000 r.length) [(30000, .arr 1 (r.map row_I))]) := by
  refine ACalls.walk 24 Tryz.func10 rfl Tryz.ntmps10 rfl fun C hC => ?_
  unfold F_space_Tasks at h
  refine AK.go tab_ok hC [.n 16, .o (.ln s1.Edges.length), .n 4, .adopt 3 13 1, .sayO 13 (.arr 1 (([] : List Int).map row_I)), .say 3 (.own 13 ([] : List Int).length), .keep [3, 7, 8, 9] [13]] rfl ⟨⟨⟨trivial, mapLen⟩, rfl⟩, (congrArg (fun n => V.own 13 n) (by simp))⟩ ?_
  obtain ⟨l8, hl12, h⟩ := bindE h
  refine AK.loop (body := (fun st => F_space_Tasks_l1 s1 st.1 st.2)) (fun st σ => σ = ⟨[(3, .own 13 st.2.length), (7, .sl 6 (s1.Edges.map row_TEdge)), (8, .i .i64 (s1.Edges.length : Int)), (9, .i .i64 st.1)], [(13, .arr 1 (st.2.map row_I))]⟩) (fun q e σ => e = .exit 0 ∧ σ = ⟨[(3, .own 13 q.length)], [(13, .arr 1 (q.map row_I))]⟩) hl12 rfl ?_ ?_
  · rintro ⟨x4, l5⟩ o σ rfl h
    replace h : F_space_Tasks_l1 s1 x4 l5 = some o := h
    unfold F_space_Tasks_l1 at h
    refine AK.go tab_ok hC [.n 6] rfl trivial ?_
    rcases bifE h with ⟨hc9, h⟩ | ⟨hc9, h⟩
    · obtain ⟨e10, he10, h⟩ := bindE h
      obtain ⟨_, hk11, h⟩ := bindE h
      replace hk11 := chkE hk11
      refine AK.go tab_ok hC [.br true, .n 6, .o (.row (row_TEdge e10)), .v .no [] (.agg (row_TEdge e10)), .n 2, .sayO 5 (.var (row_TEdge e10)), .n 7, .v (.bd []) [] (.sl 1 (([e10.Mode.Task] : List Int).map row_I)), .app ((l5 ++ ([e10.Mode.Task] : List Int)).map row_I) (l5 ++ ([e10.Mode.Task] : List Int)).length, .n 8, .keep [3, 7, 8, 9] [13]] rfl ⟨⟨⟨⟨⟨⟨trivial, hc9⟩, (idxM he10)⟩, rfl⟩, rfl⟩, rfl⟩, ⟨mapLen, appLim hk11 mapLen, mapApps, appLn mapLen⟩⟩ ?_
      obtain rfl := Option.some.inj h
      exact rndN rfl rfl
    · refine AK.go tab_ok hC [.br false, .n 2, .keep [3] [13]] rfl ⟨trivial, hc9⟩ ?_
      obtain rfl := Option.some.inj h
      exact rndX rfl (And.intro rfl rfl)
  · replace h : F_space_Tasks_c2 l8 = some r := h
    unfold F_space_Tasks_c2 at h
    rintro e σ ⟨rfl, rfl⟩
    obtain ⟨x13, hx13, h⟩ := bindE h
    obtain ⟨_, hk14, h⟩ := bindE h
    replace hk14 := chkE hk14
    obtain ⟨x15, hx15, h⟩ := bindE h
    refine AK.go tab_ok hC [.n 5, .cm (.fn) [(200000, 13)] [(13, 200000)] [] [.d] [(200000, .arr 1 (x13.map row_I))] (.tup []), .say 3 (.own 13 x13.length), .say 20 (.own 13 x13.length), .n 5, .cm (.fn) [(200000, 13)] [(13, 200000)] [] [.d] [(200000, .arr 1 (x15.map row_I))] (.own 200000 x15.length), .n 4, .keep [2] [13], .ren 13 30000, .keep [2] [30000]] rfl ⟨⟨⟨⟨trivial, (F_slices_Sort_int_int_ok _ hx13)⟩, (by simp [of_decide_eq_true hk14])⟩, (by simp [of_decide_eq_true hk14])⟩, (F_slices_Compact_int_int_ok _ hx15)⟩ ?_
    obtain rfl := Option.some.inj h
    refine AK.done ?_
    exact Exists.intro [_] (And.intro (And.intro rfl trivial) (gives ⟨rfl, trivial⟩))

-- 7 baldric/baldricref03.Ints
noncomputable def F_ref03_Ints_l1 (a1 : (List Int)) (b2 : (List Int)) (i6 : Int) : Option (Int ⊕ (Unit ⊕ Unit)) :=
  bif (decide (i6 < (a1.length : Int))) then
  (idx a1 i6).bind fun e9 =>
  (idx b2 i6).bind fun e10 =>
  bif (e9 != e10) then
  some (.inr (.inl ()))
  else
  some (.inl (w64 (i6 + 1)))
  else
  some (.inr (.inr ()))

noncomputable def F_ref03_Ints_c2 : Option Bool :=
  some false

noncomputable def F_ref03_Ints_c3 : Option Bool :=
  some true

noncomputable def F_ref03_Ints (a1 : (List Int)) (b2 : (List Int)) : Option Bool :=
  bif ((a1.length : Int) != (b2.length : Int)) then
  some false
  else
  (loopM (fun st => F_ref03_Ints_l1 a1 b2 st) 0).bind (Sum.elim (fun q => F_ref03_Ints_c2) (fun q => F_ref03_Ints_c3))

set_option maxRecDepth 100000 in
set_option maxHeartbeats 4000000 in
theorem F_ref03_Ints_ok (a1 : (List Int)) (b2 : (List Int)) {r : Bool} (h : F_ref03_Ints a1 b2 = some r) : ACalls Tryz.prog 7 [.sl 1 (a1.map row_I), .sl 1 (b2.map row_I)] [] (Gives (.b r) []) := by
  refine ACalls.walk 26 Tryz.func7 rfl Tryz.ntmps7 rfl fun C hC => ?_
  unfold F_ref03_Ints at h
  refine AK.go tab_ok hC [.n 9, .o (.ln a1.length), .n 1, .o (.ln b2.length), .n 3] rfl ⟨⟨trivial, mapLen⟩, mapLen⟩ ?_
  rcases bifE h with ⟨hc5, h⟩ | ⟨hc5, h⟩
  · refine AK.go tab_ok hC [.br true, .n 7, .keep [4] []] rfl ⟨trivial, hc5⟩ ?_
    obtain rfl := Option.some.inj h
    refine AK.done ?_
    exact Exists.intro [_] (And.intro (And.intro rfl trivial) (gives trivial))
  · refine AK.go tab_ok hC [.br false, .n 9, .keep [0, 1, 5] []] rfl ⟨trivial, hc5⟩ ?_
    obtain ⟨o12, hl12, h⟩ := bindE h
    refine AK.loop (body := (fun st => F_ref03_Ints_l1 a1 b2 st)) (fun st σ => σ = ⟨[(0, .sl 1 (a1.map row_I)), (1, .sl 1 (b2.map row_I)), (5, .i .i64 st)], []⟩) (Sum.elim (fun q e σ => e = .ret ∧ σ = ⟨[(4, .b false)], []⟩) (fun q e σ => e = .exit 0 ∧ σ = ⟨[], []⟩)) hl12 rfl ?_ ?_
    · rintro i6 o σ rfl h
      replace h : F_ref03_Ints_l1 a1 b2 i6 = some o := h
      unfold F_ref03_Ints_l1 at h
      refine AK.go tab_ok hC [.n 5, .o (.ln a1.length), .n 3] rfl ⟨trivial, mapLen⟩ ?_
      rcases bifE h with ⟨hc8, h⟩ | ⟨hc8, h⟩
      · obtain ⟨e9, he9, h⟩ := bindE h
        obtain ⟨e10, he10, h⟩ := bindE h
        refine AK.go tab_ok hC [.br true, .n 5, .keep [0, 1, 5] []] rfl ⟨trivial, hc8⟩ ?_
        refine AK.draw2 tab_ok hC mixed [.a .no none false, .a .no none false, .a (.row (row_I e9)) none false, .a .no none false, .a .no none false, .a .no none false, .a (.row (row_I e10)) none false, .a .no none false, .a .no none false] [] [] [0, 1, 5, 25] [] rfl rfl rfl ⟨⟨trivial, (idxM he9)⟩, (idxM he10)⟩ rfl (by kernel_rfl) rfl rfl rfl ?_
        refine AK.go tab_ok hC [.n 1] rfl trivial ?_
        rcases bifE h with ⟨hc11, h⟩ | ⟨hc11, h⟩
        · refine AK.go tab_ok hC [.br true, .n 8, .keep [4] []] rfl ⟨trivial, hc11⟩ ?_
          obtain rfl := Option.some.inj h
          exact rndR rfl (And.intro rfl rfl)
        · refine AK.go tab_ok hC [.br false, .n 8, .keep [0, 1, 5] []] rfl ⟨trivial, hc11⟩ ?_
          obtain rfl := Option.some.inj h
          exact rndN rfl rfl
      · refine AK.go tab_ok hC [.br false, .n 2, .keep [] []] rfl ⟨trivial, hc8⟩ ?_
        obtain rfl := Option.some.inj h
        exact rndX rfl (And.intro rfl rfl)
    · rcases o12 with (_ | _)
      · replace h : F_ref03_Ints_c2 = some r := h
        unfold F_ref03_Ints_c2 at h
        rintro e σ ⟨rfl, rfl⟩
        refine AK.go tab_ok hC [.n 2, .keep [4] []] rfl trivial ?_
        obtain rfl := Option.some.inj h
        refine AK.done ?_
        exact Exists.intro [_] (And.intro (And.intro rfl trivial) (gives trivial))
      · replace h : F_ref03_Ints_c3 = some r := h
        unfold F_ref03_Ints_c3 at h
        rintro e σ ⟨rfl, rfl⟩
        refine AK.go tab_ok hC [.n 8, .keep [4] []] rfl trivial ?_
        obtain rfl := Option.some.inj h
        refine AK.done ?_
        exact Exists.intro [_] (And.intro (And.intro rfl trivial) (gives trivial))

-- 4 baldric/baldriclaw15.small
noncomputable def F_law15_small_g1 (x3 : TSpace) (x4 : TSpace) (x5 : TSpace) (x6 : (List TMode)) : Option Bool :=
  bif ((x3.States.length : Int) == 2) then
  bif ((x3.Edges.length : Int) == 1) then
  bif x3.Full then
  bif ((x4.States.length : Int) == 1) then
  bif (!x4.Full) then
  bif (!x5.Full) then
  bif ((x5.States.length : Int) == 1) then
  bif ((x6.length : Int) == 1) then
  (F_space_Find x3 ([([] : (List (Int × Int))), ([(0, 1)] : List (Int × Int))] : List (List (Int × Int)))).bind fun x17 =>
  bif (x17 == 1) then
  (F_space_Tasks x3).bind fun x19 =>
  (F_ref03_Ints x19 ([0] : List Int)).bind fun x20 =>
  bif x20 then
  (F_space_Out x3 0).bind fun x22 =>
  (F_ref03_Ints x22 ([0] : List Int)).bind fun x23 =>
  bif x23 then
  (F_space_Out x3 1).bind fun x25 =>
  some ((x25.length : Int) == 0)
  else
  some false
  else
  some false
  else
  some false
  else
  some false
  else
  some false
  else
  some false
  else
  some false
  else
  some false
  else
  some false
  else
  some false
  else
  some false

noncomputable def F_law15_small_k2 (x7 : Bool) : Option Bool :=
  some x7

noncomputable def F_law15_small  : Option Bool :=
  (F_law15_net).bind fun x2 =>
  (F_space_Explore x2 10 10).bind fun x3 =>
  (F_space_Explore x2 1 10).bind fun x4 =>
  (F_space_Explore x2 10 0).bind fun x5 =>
  (F_space_Path x3 1).bind fun x6 =>
  (F_law15_small_g1 x3 x4 x5 x6).bind (fun x7 => F_law15_small_k2 x7)

set_option maxRecDepth 100000 in
set_option maxHeartbeats 4000000 in
theorem F_law15_small_ok  {r : Bool} (h : F_law15_small  = some r) : ACalls Tryz.prog 4 [] [] (Gives (.b r) []) := by
  refine ACalls.walk 82 Tryz.func4 rfl Tryz.ntmps4 rfl fun C hC => ?_
  unfold F_law15_small at h
  obtain ⟨x2, hx2, h⟩ := bindE h
  obtain ⟨x3, hx3, h⟩ := bindE h
  obtain ⟨x4, hx4, h⟩ := bindE h
  obtain ⟨x5, hx5, h⟩ := bindE h
  obtain ⟨x6, hx6, h⟩ := bindE h
  refine AK.go tab_ok hC [.n 7, .o (.c false [] (.agg (row_TNet x2))), .n 2, .sayO 1 (.var (row_TNet x2)), .n 4, .v .no [] (.agg (row_TNet x2)), .o (.c false [.d, .d, .d] (.agg (row_TSpace x3))), .n 2, .sayO 2 (.var (row_TSpace x3)), .n 4, .v .no [] (.agg (row_TNet x2)), .o (.c false [.d, .d, .d] (.agg (row_TSpace x4))), .n 2, .sayO 3 (.var (row_TSpace x4)), .n 4, .v .no [] (.agg (row_TNet x2)), .o (.c false [.d, .d, .d] (.agg (row_TSpace x5))), .n 2, .sayO 4 (.var (row_TSpace x5)), .n 4, .v .no [] (.agg (row_TSpace x3)), .o (.co false [.d, .d] 4 (x6.map row_TMode) x6.length), .n 4] rfl ⟨⟨⟨⟨⟨⟨⟨⟨⟨⟨⟨⟨⟨trivial, (F_law15_net_ok  hx2)⟩, rfl⟩, rfl⟩, (F_space_Explore_ok _ _ _ hx3)⟩, rfl⟩, rfl⟩, (F_space_Explore_ok _ _ _ hx4)⟩, rfl⟩, rfl⟩, (F_space_Explore_ok _ _ _ hx5)⟩, rfl⟩, rfl⟩, ⟨(F_space_Path_ok _ _ hx6), mapLen, .inl rfl⟩⟩ ?_
  obtain ⟨x7, hv8, h⟩ := bindE h
  replace h : F_law15_small_k2 x7 = some r := h
  refine AK.meetX (fun σ => σ = ⟨[(0, .b x7)], []⟩) ?_ ?_
  · replace h := hv8
    unfold F_law15_small_g1 at h
    refine AK.go tab_ok hC [.n 3, .o (.ln x3.States.length), .n 2] rfl ⟨trivial, mapLen⟩ ?_
    rcases bifE h with ⟨hc9, h⟩ | ⟨hc9, h⟩
    · refine AK.go tab_ok hC [.say 19 (.b true), .n 2, .o (.ln x3.Edges.length), .n 3] rfl ⟨⟨trivial, (congrArg V.b hc9)⟩, mapLen⟩ ?_
      rcases bifE h with ⟨hc10, h⟩ | ⟨hc10, h⟩
      · refine AK.go tab_ok hC [.say 25 (.b true), .n 4] rfl ⟨trivial, (congrArg V.b hc10)⟩ ?_
        rcases bifE h with ⟨hc11, h⟩ | ⟨hc11, h⟩
        · refine AK.go tab_ok hC [.say 29 (.b true), .n 2, .o (.ln x4.States.length), .n 3] rfl ⟨⟨trivial, (congrArg V.b hc11)⟩, mapLen⟩ ?_
          rcases bifE h with ⟨hc12, h⟩ | ⟨hc12, h⟩
          · refine AK.go tab_ok hC [.say 35 (.b true), .n 5] rfl ⟨trivial, (congrArg V.b hc12)⟩ ?_
            rcases bifE h with ⟨hc13, h⟩ | ⟨hc13, h⟩
            · refine AK.go tab_ok hC [.say 40 (.b true), .n 5] rfl ⟨trivial, (congrArg V.b hc13)⟩ ?_
              rcases bifE h with ⟨hc14, h⟩ | ⟨hc14, h⟩
              · refine AK.go tab_ok hC [.say 45 (.b true), .n 2, .o (.ln x5.States.length), .n 3] rfl ⟨⟨trivial, (congrArg V.b hc14)⟩, mapLen⟩ ?_
                rcases bifE h with ⟨hc15, h⟩ | ⟨hc15, h⟩
                · refine AK.go tab_ok hC [.say 51 (.b true), .n 5] rfl ⟨trivial, (congrArg V.b hc15)⟩ ?_
                  rcases bifE h with ⟨hc16, h⟩ | ⟨hc16, h⟩
                  · obtain ⟨x17, hx17, h⟩ := bindE h
                    refine AK.go tab_ok hC [.say 56 (.b true), .v .no [] (.agg (row_TSpace x3)), .v .no [] (.agg (row_A2I (0, 1))), .v (.bd []) [] (.sl 2 (([(0, 1)] : List (Int × Int)).map row_A2I)), .v (.bd [some 2, none]) [] (.sl 1 (([([] : (List (Int × Int))), ([(0, 1)] : List (Int × Int))] : List (List (Int × Int))).map row_LA2I)), .o (.c false [.d, .d] (.i .i64 x17)), .n 3] rfl ⟨⟨⟨⟨⟨⟨trivial, (congrArg V.b hc16)⟩, rfl⟩, rfl⟩, rfl⟩, rfl⟩, (F_space_Find_ok _ _ hx17)⟩ ?_
                    rcases bifE h with ⟨hc18, h⟩ | ⟨hc18, h⟩
                    · obtain ⟨x19, hx19, h⟩ := bindE h
                      obtain ⟨x20, hx20, h⟩ := bindE h
                      refine AK.go tab_ok hC [.say 64 (.b true), .v .no [] (.agg (row_TSpace x3)), .o (.co false [.d] 1 (x19.map row_I) x19.length), .v (.bd []) [] (.sl 1 (([0] : List Int).map row_I)), .o (.c true [.o (x19.map row_I), .d] (.b x20)), .n 2] rfl ⟨⟨⟨⟨⟨trivial, (congrArg V.b hc18)⟩, rfl⟩, ⟨(F_space_Tasks_ok _ hx19), mapLen, .inl rfl⟩⟩, rfl⟩, ⟨(viewMap rfl), (F_ref03_Ints_ok _ _ hx20)⟩⟩ ?_
                      rcases bifE h with ⟨hc21, h⟩ | ⟨hc21, h⟩
                      · obtain ⟨x22, hx22, h⟩ := bindE h
                        obtain ⟨x23, hx23, h⟩ := bindE h
                        refine AK.go tab_ok hC [.say 70 (.b true), .v .no [] (.agg (row_TSpace x3)), .o (.co false [.d, .d] 1 (x22.map row_I) x22.length), .v (.bd []) [] (.sl 1 (([0] : List Int).map row_I)), .o (.c true [.o (x22.map row_I), .d] (.b x23)), .n 2] rfl ⟨⟨⟨⟨⟨trivial, (congrArg V.b hc21)⟩, rfl⟩, ⟨(F_space_Out_ok _ _ hx22), mapLen, .inl rfl⟩⟩, rfl⟩, ⟨(viewMap rfl), (F_ref03_Ints_ok _ _ hx23)⟩⟩ ?_
                        rcases bifE h with ⟨hc24, h⟩ | ⟨hc24, h⟩
                        · obtain ⟨x25, hx25, h⟩ := bindE h
                          refine AK.go tab_ok hC [.say 76 (.b true), .v .no [] (.agg (row_TSpace x3)), .o (.co false [.d, .d] 1 (x25.map row_I) x25.length), .n 5, .keep [0] []] rfl ⟨⟨⟨trivial, (congrArg V.b hc24)⟩, rfl⟩, ⟨(F_space_Out_ok _ _ hx25), mapLen, .inl rfl⟩⟩ ?_
                          obtain rfl := Option.some.inj h
                          exact AK.met rfl
                        · refine AK.go tab_ok hC [.say 76 (.b false), .n 7, .keep [0] []] rfl ⟨trivial, (congrArg V.b hc24)⟩ ?_
                          obtain rfl := Option.some.inj h
                          exact AK.met rfl
                      · refine AK.go tab_ok hC [.say 70 (.b false), .n 13, .keep [0] []] rfl ⟨trivial, (congrArg V.b hc21)⟩ ?_
                        obtain rfl := Option.some.inj h
                        exact AK.met rfl
                    · refine AK.go tab_ok hC [.say 64 (.b false), .n 19, .keep [0] []] rfl ⟨trivial, (congrArg V.b hc18)⟩ ?_
                      obtain rfl := Option.some.inj h
                      exact AK.met rfl
                  · refine AK.go tab_ok hC [.say 56 (.b false), .n 27, .keep [0] []] rfl ⟨trivial, (congrArg V.b hc16)⟩ ?_
                    obtain rfl := Option.some.inj h
                    exact AK.met rfl
                · refine AK.go tab_ok hC [.say 51 (.b false), .n 32, .keep [0] []] rfl ⟨trivial, (congrArg V.b hc15)⟩ ?_
                  obtain rfl := Option.some.inj h
                  exact AK.met rfl
              · refine AK.go tab_ok hC [.say 45 (.b false), .n 38, .keep [0] []] rfl ⟨trivial, (congrArg V.b hc14)⟩ ?_
                obtain rfl := Option.some.inj h
                exact AK.met rfl
            · refine AK.go tab_ok hC [.say 40 (.b false), .n 43, .keep [0] []] rfl ⟨trivial, (congrArg V.b hc13)⟩ ?_
              obtain rfl := Option.some.inj h
              exact AK.met rfl
          · refine AK.go tab_ok hC [.say 35 (.b false), .n 48, .keep [0] []] rfl ⟨trivial, (congrArg V.b hc12)⟩ ?_
            obtain rfl := Option.some.inj h
            exact AK.met rfl
        · refine AK.go tab_ok hC [.say 29 (.b false), .n 54, .keep [0] []] rfl ⟨trivial, (congrArg V.b hc11)⟩ ?_
          obtain rfl := Option.some.inj h
          exact AK.met rfl
      · refine AK.go tab_ok hC [.say 25 (.b false), .n 58, .keep [0] []] rfl ⟨trivial, (congrArg V.b hc10)⟩ ?_
        obtain rfl := Option.some.inj h
        exact AK.met rfl
    · refine AK.go tab_ok hC [.say 19 (.b false), .n 64, .keep [0] []] rfl ⟨trivial, (congrArg V.b hc9)⟩ ?_
      obtain rfl := Option.some.inj h
      exact AK.met rfl
  · rintro σ rfl
    replace h : F_law15_small_k2 x7 = some r := h
    unfold F_law15_small_k2 at h
    refine AK.go tab_ok hC [.n 2, .keep [0] []] rfl trivial ?_
    obtain rfl := Option.some.inj h
    refine AK.done ?_
    exact Exists.intro [_] (And.intro (And.intro rfl trivial) (gives trivial))

-- 64 baldric/baldricref03.Right
noncomputable def F_ref03_Right_g1 (b1 : (List (Int × Int))) (i4 : Int) : Option Bool :=
  (idx b1 i4).bind fun e9 =>
  bif (decide (e9.1 < 0)) then
  some true
  else
  (idx b1 i4).bind fun e11 =>
  bif (decide (e11.2 < 1)) then
  some true
  else
  (idx b1 i4).bind fun e13 =>
  bif (decide (1048576 < e13.2)) then
  some true
  else
  bif (decide (0 < i4)) then
  (idx b1 i4).bind fun e16 =>
  (idx b1 (w64 (i4 - 1))).bind fun e17 =>
  some (decide (e16.1 ≤ e17.1))
  else
  some false

noncomputable def F_ref03_Right_k2 (i4 : Int) (x7 : Bool) : Option (Int ⊕ (Unit ⊕ Unit)) :=
  bif x7 then
  some (.inr (.inl ()))
  else
  some (.inl (w64 (i4 + 1)))

noncomputable def F_ref03_Right_l3 (b1 : (List (Int × Int))) (i4 : Int) : Option (Int ⊕ (Unit ⊕ Unit)) :=
  bif (decide (i4 < (b1.length : Int))) then
  (F_ref03_Right_g1 b1 i4).bind (fun x7 => F_ref03_Right_k2 i4 x7)
  else
  some (.inr (.inr ()))

noncomputable def F_ref03_Right_c4 : Option Bool :=
  some false

noncomputable def F_ref03_Right_c5 : Option Bool :=
  some true

noncomputable def F_ref03_Right (b1 : (List (Int × Int))) : Option Bool :=
  (loopM (fun st => F_ref03_Right_l3 b1 st) 0).bind (Sum.elim (fun q => F_ref03_Right_c4) (fun q => F_ref03_Right_c5))

set_option maxRecDepth 100000 in
set_option maxHeartbeats 4000000 in
theorem F_ref03_Right_ok (b1 : (List (Int × Int))) {r : Bool} (h : F_ref03_Right b1 = some r) : ACalls Tryz.prog 64 [.sl 2 (b1.map row_A2I)] [] (Gives (.b r) []) := by
  refine ACalls.walk 50 Tryz.func64 rfl Tryz.ntmps64 rfl fun C hC => ?_
  unfold F_ref03_Right at h
  refine AK.go tab_ok hC [.n 12, .keep [0, 3] []] rfl trivial ?_
  obtain ⟨o19, hl19, h⟩ := bindE h
  refine AK.loop (body := (fun st => F_ref03_Right_l3 b1 st)) (fun st σ => σ = ⟨[(0, .sl 2 (b1.map row_A2I)), (3, .i .i64 st)], []⟩) (Sum.elim (fun q e σ => e = .ret ∧ σ = ⟨[(2, .b false)], []⟩) (fun q e σ => e = .exit 0 ∧ σ = ⟨[], []⟩)) hl19 rfl ?_ ?_
  · rintro i4 o σ rfl h
    replace h : F_ref03_Right_l3 b1 i4 = some o := h
    unfold F_ref03_Right_l3 at h
    refine AK.go tab_ok hC [.n 5, .o (.ln b1.length), .n 3] rfl ⟨trivial, mapLen⟩ ?_
    rcases bifE h with ⟨hc6, h⟩ | ⟨hc6, h⟩
    · refine AK.go tab_ok hC [.br true, .n 5] rfl ⟨trivial, hc6⟩ ?_
      obtain ⟨x7, hv8, h⟩ := bindE h
      replace h : F_ref03_Right_k2 i4 x7 = some o := h
      refine AK.meetX (fun σ => σ = ⟨[(0, .sl 2 (b1.map row_A2I)), (3, .i .i64 i4), (49, .b x7)], []⟩) ?_ ?_
      · replace h := hv8
        unfold F_ref03_Right_g1 at h
        obtain ⟨e9, he9, h⟩ := bindE h
        refine AK.go tab_ok hC [.keep [0, 3] []] rfl trivial ?_
        rcases bifE h with ⟨hc10, h⟩ | ⟨hc10, h⟩
        · refine AK.draw2 tab_ok hC mixed [.a .no none false, .a .no none false, .a (.row (row_A2I e9)) none false, .a .no none false, .a .no none false, .a .no none false, .a .no (some ([], .b true)) false, .a .no none false, .a .no none false, .a .no none false, .a .no none false, .a .no none false, .a .no none false, .a .no none false, .a .no none false, .a .no none false, .a .no none false, .a .no none false, .a .no none false, .a .no none false, .a .no none false, .a .no none false, .a .no none false, .a .no none false, .a .no none false, .a .no none false, .a .no none false, .a .no none false, .a .no none false, .a .no none false, .a .no none false, .a .no none false, .a .no none false, .a .no none false, .a .no none false, .a .no none false, .a .no none false, .a .no none false, .a .no none false, .a .no none false] [] [] [0, 3, 49] [] rfl rfl rfl ⟨⟨trivial, (idxM he9)⟩, (congrArg V.b hc10)⟩ rfl (by kernel_rfl) rfl rfl rfl ?_
          refine AK.go tab_ok hC [.keep [0, 3, 49] []] rfl trivial ?_
          obtain rfl := Option.some.inj h
          exact AK.met rfl
        · obtain ⟨e11, he11, h⟩ := bindE h
          rcases bifE h with ⟨hc12, h⟩ | ⟨hc12, h⟩
          · refine AK.draw2 tab_ok hC mixed [.a .no none false, .a .no none false, .a (.row (row_A2I e9)) none false, .a .no none false, .a .no none false, .a .no none false, .a .no (some ([], .b false)) false, .a .no none false, .a .no none false, .a (.row (row_A2I e11)) none false, .a .no none false, .a .no none false, .a .no none false, .a .no none false, .a .no (some ([], .b true)) false, .a .no none false, .a .no none false, .a .no none false, .a .no none false, .a .no none false, .a .no none false, .a .no none false, .a .no none false, .a .no none false, .a .no none false, .a .no none false, .a .no none false, .a .no none false, .a .no none false, .a .no none false, .a .no none false, .a .no none false, .a .no none false, .a .no none false, .a .no none false, .a .no none false, .a .no none false, .a .no none false, .a .no none false, .a .no none false] [] [] [0, 3, 49] [] rfl rfl rfl ⟨⟨⟨⟨trivial, (idxM he9)⟩, (congrArg V.b hc10)⟩, (idxM he11)⟩, (congrArg V.b hc12)⟩ rfl (by kernel_rfl) rfl rfl rfl ?_
            refine AK.go tab_ok hC [.keep [0, 3, 49] []] rfl trivial ?_
            obtain rfl := Option.some.inj h
            exact AK.met rfl
          · obtain ⟨e13, he13, h⟩ := bindE h
            rcases bifE h with ⟨hc14, h⟩ | ⟨hc14, h⟩
            · refine AK.draw2 tab_ok hC mixed [.a .no none false, .a .no none false, .a (.row (row_A2I e9)) none false, .a .no none false, .a .no none false, .a .no none false, .a .no (some ([], .b false)) false, .a .no none false, .a .no none false, .a (.row (row_A2I e11)) none false, .a .no none false, .a .no none false, .a .no none false, .a .no none false, .a .no (some ([], .b false)) false, .a .no none false, .a .no none false, .a (.row (row_A2I e13)) none false, .a .no none false, .a .no none false, .a .no none false, .a .no none false, .a .no (some ([], .b true)) false, .a .no none false, .a .no none false, .a .no none false, .a .no none false, .a .no none false, .a .no none false, .a .no none false, .a .no none false, .a .no none false, .a .no none false, .a .no none false, .a .no none false, .a .no none false, .a .no none false, .a .no none false, .a .no none false, .a .no none false] [] [] [0, 3, 49] [] rfl rfl rfl ⟨⟨⟨⟨⟨⟨trivial, (idxM he9)⟩, (congrArg V.b hc10)⟩, (idxM he11)⟩, (congrArg V.b hc12)⟩, (idxM he13)⟩, (congrArg V.b hc14)⟩ rfl (by kernel_rfl) rfl rfl rfl ?_
              refine AK.go tab_ok hC [.keep [0, 3, 49] []] rfl trivial ?_
              obtain rfl := Option.some.inj h
              exact AK.met rfl
            · rcases bifE h with ⟨hc15, h⟩ | ⟨hc15, h⟩
              · obtain ⟨e16, he16, h⟩ := bindE h
                obtain ⟨e17, he17, h⟩ := bindE h
                refine AK.draw2 tab_ok hC mixed [.a .no none false, .a .no none false, .a (.row (row_A2I e9)) none false, .a .no none false, .a .no none false, .a .no none false, .a .no (some ([], .b false)) false, .a .no none false, .a .no none false, .a (.row (row_A2I e11)) none false, .a .no none false, .a .no none false, .a .no none false, .a .no none false, .a .no (some ([], .b false)) false, .a .no none false, .a .no none false, .a (.row (row_A2I e13)) none false, .a .no none false, .a .no none false, .a .no none false, .a .no none false, .a .no (some ([], .b false)) false, .a .no none false, .a .no none false, .a .no (some ([], .b true)) false, .a .no none false, .a .no none false, .a (.row (row_A2I e16)) none false, .a .no none false, .a .no none false, .a .no none false, .a .no none false, .a .no none false, .a (.row (row_A2I e17)) none false, .a .no none false, .a .no none false, .a .no none false, .a .no none false, .a .no none false] [] [] [0, 3, 49] [] rfl rfl rfl ⟨⟨⟨⟨⟨⟨⟨⟨⟨trivial, (idxM he9)⟩, (congrArg V.b hc10)⟩, (idxM he11)⟩, (congrArg V.b hc12)⟩, (idxM he13)⟩, (congrArg V.b hc14)⟩, (congrArg V.b hc15)⟩, (idxM he16)⟩, (idxM he17)⟩ rfl (by kernel_rfl) rfl rfl rfl ?_
                refine AK.go tab_ok hC [.keep [0, 3, 49] []] rfl trivial ?_
                obtain rfl := Option.some.inj h
                exact AK.met rfl
              · refine AK.draw2 tab_ok hC mixed [.a .no none false, .a .no none false, .a (.row (row_A2I e9)) none false, .a .no none false, .a .no none false, .a .no none false, .a .no (some ([], .b false)) false, .a .no none false, .a .no none false, .a (.row (row_A2I e11)) none false, .a .no none false, .a .no none false, .a .no none false, .a .no none false, .a .no (some ([], .b false)) false, .a .no none false, .a .no none false, .a (.row (row_A2I e13)) none false, .a .no none false, .a .no none false, .a .no none false, .a .no none false, .a .no (some ([], .b false)) false, .a .no none false, .a .no none false, .a .no (some ([], .b false)) false, .a .no none false, .a .no none false, .a .no none false, .a .no none false, .a .no none false, .a .no none false, .a .no none false, .a .no none false, .a .no none false, .a .no none false, .a .no none false, .a .no none false, .a .no none false, .a .no none false] [] [] [0, 3, 49] [] rfl rfl rfl ⟨⟨⟨⟨⟨⟨⟨trivial, (idxM he9)⟩, (congrArg V.b hc10)⟩, (idxM he11)⟩, (congrArg V.b hc12)⟩, (idxM he13)⟩, (congrArg V.b hc14)⟩, (congrArg V.b hc15)⟩ rfl (by kernel_rfl) rfl rfl rfl ?_
                refine AK.go tab_ok hC [.keep [0, 3, 49] []] rfl trivial ?_
                obtain rfl := Option.some.inj h
                exact AK.met rfl
      · rintro σ rfl
        replace h : F_ref03_Right_k2 i4 x7 = some o := h
        unfold F_ref03_Right_k2 at h
        refine AK.go tab_ok hC [.n 1] rfl trivial ?_
        rcases bifE h with ⟨hc18, h⟩ | ⟨hc18, h⟩
        · refine AK.go tab_ok hC [.br true, .n 8, .keep [2] []] rfl ⟨trivial, hc18⟩ ?_
          obtain rfl := Option.some.inj h
          exact rndR rfl (And.intro rfl rfl)
        · refine AK.go tab_ok hC [.br false, .n 8, .keep [0, 3] []] rfl ⟨trivial, hc18⟩ ?_
          obtain rfl := Option.some.inj h
          exact rndN rfl rfl
    · refine AK.go tab_ok hC [.br false, .n 2, .keep [] []] rfl ⟨trivial, hc6⟩ ?_
      obtain rfl := Option.some.inj h
      exact rndX rfl (And.intro rfl rfl)
  · rcases o19 with (_ | _)
    · replace h : F_ref03_Right_c4 = some r := h
      unfold F_ref03_Right_c4 at h
      rintro e σ ⟨rfl, rfl⟩
      refine AK.go tab_ok hC [.n 2, .keep [2] []] rfl trivial ?_
      obtain rfl := Option.some.inj h
      refine AK.done ?_
      exact Exists.intro [_] (And.intro (And.intro rfl trivial) (gives trivial))
    · replace h : F_ref03_Right_c5 = some r := h
      unfold F_ref03_Right_c5 at h
      rintro e σ ⟨rfl, rfl⟩
      refine AK.go tab_ok hC [.n 8, .keep [2] []] rfl trivial ?_
      obtain rfl := Option.some.inj h
      refine AK.done ?_
      exact Exists.intro [_] (And.intro (And.intro rfl trivial) (gives trivial))

-- 65 baldric/baldricref03.Count
noncomputable def F_ref03_Count_l1 (b1 : (List (Int × Int))) (x5 : Bool) (m2 : Int) (i6 : Int) : Option (Int ⊕ (Int ⊕ Unit)) :=
  bif ((decide (i6 < (b1.length : Int))) && x5) then
  (idx b1 i6).bind fun e12 =>
  bif (e12.1 == m2) then
  (idx b1 i6).bind fun e14 =>
  some (.inr (.inl e14.2))
  else
  some (.inl (w64 (i6 + 1)))
  else
  some (.inr (.inr ()))

noncomputable def F_ref03_Count_c2 (x8 : Int) : Option Int :=
  some x8

noncomputable def F_ref03_Count_c3 : Option Int :=
  some 0

noncomputable def F_ref03_Count (b1 : (List (Int × Int))) (m2 : Int) : Option Int :=
  (F_ref03_Right b1).bind fun x5 =>
  (loopM (fun st => F_ref03_Count_l1 b1 x5 m2 st) 0).bind (Sum.elim (fun q => F_ref03_Count_c2 q) (fun q => F_ref03_Count_c3))

set_option maxRecDepth 100000 in
set_option maxHeartbeats 4000000 in
theorem F_ref03_Count_ok (b1 : (List (Int × Int))) (m2 : Int) {r : Int} (h : F_ref03_Count b1 m2 = some r) : ACalls Tryz.prog 65 [.sl 2 (b1.map row_A2I), .i .i64 m2] [] (Gives (.i .i64 r) []) := by
  refine ACalls.walk 30 Tryz.func65 rfl Tryz.ntmps65 rfl fun C hC => ?_
  unfold F_ref03_Count at h
  obtain ⟨x5, hx5, h⟩ := bindE h
  refine AK.go tab_ok hC [.n 8, .o (.c false [.d] (.b x5)), .n 10, .keep [0, 1, 5, 6] []] rfl ⟨trivial, (F_ref03_Right_ok _ hx5)⟩ ?_
  obtain ⟨o15, hl15, h⟩ := bindE h
  refine AK.loop (body := (fun st => F_ref03_Count_l1 b1 x5 m2 st)) (fun st σ => σ = ⟨[(0, .sl 2 (b1.map row_A2I)), (1, .i .i64 m2), (5, .b x5), (6, .i .i64 st)], []⟩) (Sum.elim (fun q e σ => e = .ret ∧ σ = ⟨[(4, .i .i64 q)], []⟩) (fun q e σ => e = .exit 0 ∧ σ = ⟨[], []⟩)) hl15 rfl ?_ ?_
  · rintro i6 o σ rfl h
    replace h : F_ref03_Count_l1 b1 x5 m2 i6 = some o := h
    unfold F_ref03_Count_l1 at h
    refine AK.go tab_ok hC [.n 2] rfl trivial ?_
    refine AK.meetX (fun σ => σ = ⟨[(0, .sl 2 (b1.map row_A2I)), (1, .i .i64 m2), (5, .b x5), (6, .i .i64 i6), (15, .b ((decide (i6 < (b1.length : Int))) && x5))], []⟩) ?_ ?_
    · refine AK.go tab_ok hC [.n 3, .o (.ln b1.length), .n 2] rfl ⟨trivial, mapLen⟩ ?_
      rcases boolOr (decide (i6 < (b1.length : Int))) with hc10 | hc10
      · refine AK.go tab_ok hC [.say 13 (.b true), .n 3, .say 15 (.b ((decide (i6 < (b1.length : Int))) && x5)), .keep [0, 1, 5, 6, 15] []] rfl ⟨⟨trivial, (congrArg V.b hc10)⟩, (congrArg V.b (andT hc10 rfl))⟩ ?_
        exact AK.met rfl
      · refine AK.go tab_ok hC [.say 13 (.b false), .n 3, .say 15 (.b ((decide (i6 < (b1.length : Int))) && x5)), .keep [0, 1, 5, 6, 15] []] rfl ⟨⟨trivial, (congrArg V.b hc10)⟩, (congrArg V.b (andF hc10 rfl))⟩ ?_
        exact AK.met rfl
    · rintro σ rfl
      refine AK.go tab_ok hC [.n 1] rfl trivial ?_
      rcases bifE h with ⟨hc11, h⟩ | ⟨hc11, h⟩
      · obtain ⟨e12, he12, h⟩ := bindE h
        refine AK.go tab_ok hC [.br true, .n 8, .o (.row (row_A2I e12)), .n 6] rfl ⟨⟨trivial, hc11⟩, (idxM he12)⟩ ?_
        rcases bifE h with ⟨hc13, h⟩ | ⟨hc13, h⟩
        · obtain ⟨e14, he14, h⟩ := bindE h
          refine AK.go tab_ok hC [.br true, .n 4, .o (.row (row_A2I e14)), .n 8, .keep [4] []] rfl ⟨⟨trivial, hc13⟩, (idxM he14)⟩ ?_
          obtain rfl := Option.some.inj h
          exact rndR rfl (And.intro rfl rfl)
        · refine AK.go tab_ok hC [.br false, .n 8, .keep [0, 1, 5, 6] []] rfl ⟨trivial, hc13⟩ ?_
          obtain rfl := Option.some.inj h
          exact rndN rfl rfl
      · refine AK.go tab_ok hC [.br false, .n 2, .keep [] []] rfl ⟨trivial, hc11⟩ ?_
        obtain rfl := Option.some.inj h
        exact rndX rfl (And.intro rfl rfl)
  · rcases o15 with (x8 | _)
    · replace h : F_ref03_Count_c2 x8 = some r := h
      unfold F_ref03_Count_c2 at h
      rintro e σ ⟨rfl, rfl⟩
      refine AK.go tab_ok hC [.n 2, .keep [4] []] rfl trivial ?_
      obtain rfl := Option.some.inj h
      refine AK.done ?_
      exact Exists.intro [_] (And.intro (And.intro rfl trivial) (gives trivial))
    · replace h : F_ref03_Count_c3 = some r := h
      unfold F_ref03_Count_c3 at h
      rintro e σ ⟨rfl, rfl⟩
      refine AK.go tab_ok hC [.n 8, .keep [4] []] rfl trivial ?_
      obtain rfl := Option.some.inj h
      refine AK.done ?_
      exact Exists.intro [_] (And.intro (And.intro rfl trivial) (gives trivial))

-- 45 baldric/baldricref03.Within
noncomputable def F_ref03_Within_g1 (a1 : (List (Int × Int))) (b2 : (List (Int × Int))) : Option Bool :=
  (F_ref03_Right a1).bind fun x7 =>
  bif (!x7) then
  some true
  else
  (F_ref03_Right b2).bind fun x9 =>
  some (!x9)

noncomputable def F_ref03_Within_l2 (a1 : (List (Int × Int))) (b2 : (List (Int × Int))) (i11 : Int) : Option (Int ⊕ (Unit ⊕ Unit)) :=
  bif (decide (i11 < (a1.length : Int))) then
  (idx a1 i11).bind fun e14 =>
  (idx a1 i11).bind fun e15 =>
  (F_ref03_Count b2 e15.1).bind fun x16 =>
  bif (decide (x16 < e14.2)) then
  some (.inr (.inl ()))
  else
  some (.inl (w64 (i11 + 1)))
  else
  some (.inr (.inr ()))

noncomputable def F_ref03_Within_c3 : Option Bool :=
  some false

noncomputable def F_ref03_Within_c4 : Option Bool :=
  some true

noncomputable def F_ref03_Within_k5 (a1 : (List (Int × Int))) (b2 : (List (Int × Int))) (x5 : Bool) : Option Bool :=
  bif x5 then
  some false
  else
  (loopM (fun st => F_ref03_Within_l2 a1 b2 st) 0).bind (Sum.elim (fun q => F_ref03_Within_c3) (fun q => F_ref03_Within_c4))

noncomputable def F_ref03_Within (a1 : (List (Int × Int))) (b2 : (List (Int × Int))) : Option Bool :=
  (F_ref03_Within_g1 a1 b2).bind (fun x5 => F_ref03_Within_k5 a1 b2 x5)

set_option maxRecDepth 100000 in
set_option maxHeartbeats 4000000 in
theorem F_ref03_Within_ok (a1 : (List (Int × Int))) (b2 : (List (Int × Int))) {r : Bool} (h : F_ref03_Within a1 b2 = some r) : ACalls Tryz.prog 45 [.sl 2 (a1.map row_A2I), .sl 2 (b2.map row_A2I)] [] (Gives (.b r) []) := by
  refine ACalls.walk 33 Tryz.func45 rfl Tryz.ntmps45 rfl fun C hC => ?_
  unfold F_ref03_Within at h
  refine AK.go tab_ok hC [.n 7] rfl trivial ?_
  obtain ⟨x5, hv6, h⟩ := bindE h
  replace h : F_ref03_Within_k5 a1 b2 x5 = some r := h
  refine AK.meetX (fun σ => σ = ⟨[(0, .sl 2 (a1.map row_A2I)), (1, .sl 2 (b2.map row_A2I)), (13, .b x5)], []⟩) ?_ ?_
  · replace h := hv6
    unfold F_ref03_Within_g1 at h
    obtain ⟨x7, hx7, h⟩ := bindE h
    refine AK.go tab_ok hC [.n 2, .o (.c false [.d] (.b x7)), .n 2] rfl ⟨trivial, (F_ref03_Right_ok _ hx7)⟩ ?_
    rcases bifE h with ⟨hc8, h⟩ | ⟨hc8, h⟩
    · refine AK.go tab_ok hC [.say 9 (.b true), .n 5, .keep [0, 1, 13] []] rfl ⟨trivial, (congrArg V.b hc8)⟩ ?_
      obtain rfl := Option.some.inj h
      exact AK.met rfl
    · obtain ⟨x9, hx9, h⟩ := bindE h
      refine AK.go tab_ok hC [.say 9 (.b false), .n 1, .o (.c false [.d] (.b x9)), .n 3, .keep [0, 1, 13] []] rfl ⟨⟨trivial, (congrArg V.b hc8)⟩, (F_ref03_Right_ok _ hx9)⟩ ?_
      obtain rfl := Option.some.inj h
      exact AK.met rfl
  · rintro σ rfl
    replace h : F_ref03_Within_k5 a1 b2 x5 = some r := h
    unfold F_ref03_Within_k5 at h
    refine AK.go tab_ok hC [.n 1] rfl trivial ?_
    rcases bifE h with ⟨hc10, h⟩ | ⟨hc10, h⟩
    · refine AK.go tab_ok hC [.br true, .n 7, .keep [4] []] rfl ⟨trivial, hc10⟩ ?_
      obtain rfl := Option.some.inj h
      refine AK.done ?_
      exact Exists.intro [_] (And.intro (And.intro rfl trivial) (gives trivial))
    · refine AK.go tab_ok hC [.br false, .n 9, .keep [0, 1, 5] []] rfl ⟨trivial, hc10⟩ ?_
      obtain ⟨o18, hl18, h⟩ := bindE h
      refine AK.loop (body := (fun st => F_ref03_Within_l2 a1 b2 st)) (fun st σ => σ = ⟨[(0, .sl 2 (a1.map row_A2I)), (1, .sl 2 (b2.map row_A2I)), (5, .i .i64 st)], []⟩) (Sum.elim (fun q e σ => e = .ret ∧ σ = ⟨[(4, .b false)], []⟩) (fun q e σ => e = .exit 0 ∧ σ = ⟨[], []⟩)) hl18 rfl ?_ ?_
      · rintro i11 o σ rfl h
        replace h : F_ref03_Within_l2 a1 b2 i11 = some o := h
        unfold F_ref03_Within_l2 at h
        refine AK.go tab_ok hC [.n 5, .o (.ln a1.length), .n 3] rfl ⟨trivial, mapLen⟩ ?_
        rcases bifE h with ⟨hc13, h⟩ | ⟨hc13, h⟩
        · obtain ⟨e14, he14, h⟩ := bindE h
          obtain ⟨e15, he15, h⟩ := bindE h
          obtain ⟨x16, hx16, h⟩ := bindE h
          refine AK.go tab_ok hC [.br true, .n 5, .keep [0, 1, 5] []] rfl ⟨trivial, hc13⟩ ?_
          refine AK.draw2 tab_ok hC mixed [.a .no none false, .a .no none false, .a (.row (row_A2I e14)) none false, .a .no none false, .a .no none false, .a .no none false, .a .no none false, .a .no none false, .a (.row (row_A2I e15)) none false, .a .no none false, .a .no none false, .a (.c false [.d, .d] (.i .i64 x16)) none false, .a .no none false] [] [] [0, 1, 5, 32] [] rfl rfl rfl ⟨⟨⟨trivial, (idxM he14)⟩, (idxM he15)⟩, (F_ref03_Count_ok _ _ hx16)⟩ rfl (by kernel_rfl) rfl rfl rfl ?_
          refine AK.go tab_ok hC [.n 1] rfl trivial ?_
          rcases bifE h with ⟨hc17, h⟩ | ⟨hc17, h⟩
          · refine AK.go tab_ok hC [.br true, .n 8, .keep [4] []] rfl ⟨trivial, hc17⟩ ?_
            obtain rfl := Option.some.inj h
            exact rndR rfl (And.intro rfl rfl)
          · refine AK.go tab_ok hC [.br false, .n 8, .keep [0, 1, 5] []] rfl ⟨trivial, hc17⟩ ?_
            obtain rfl := Option.some.inj h
            exact rndN rfl rfl
        · refine AK.go tab_ok hC [.br false, .n 2, .keep [] []] rfl ⟨trivial, hc13⟩ ?_
          obtain rfl := Option.some.inj h
          exact rndX rfl (And.intro rfl rfl)
      · rcases o18 with (_ | _)
        · replace h : F_ref03_Within_c3 = some r := h
          unfold F_ref03_Within_c3 at h
          rintro e σ ⟨rfl, rfl⟩
          refine AK.go tab_ok hC [.n 2, .keep [4] []] rfl trivial ?_
          obtain rfl := Option.some.inj h
          refine AK.done ?_
          exact Exists.intro [_] (And.intro (And.intro rfl trivial) (gives trivial))
        · replace h : F_ref03_Within_c4 = some r := h
          unfold F_ref03_Within_c4 at h
          rintro e σ ⟨rfl, rfl⟩
          refine AK.go tab_ok hC [.n 8, .keep [4] []] rfl trivial ?_
          obtain rfl := Option.some.inj h
          refine AK.done ?_
          exact Exists.intro [_] (And.intro (And.intro rfl trivial) (gives trivial))

-- 32 baldric/baldricref03.Same
noncomputable def F_ref03_Same_g1 (a1 : (List (Int × Int))) (b2 : (List (Int × Int))) : Option Bool :=
  (F_ref03_Within a1 b2).bind fun x6 =>
  bif x6 then
  (F_ref03_Within b2 a1).bind fun x8 =>
  some x8
  else
  some false

noncomputable def F_ref03_Same_k2 (x4 : Bool) : Option Bool :=
  some x4

noncomputable def F_ref03_Same (a1 : (List (Int × Int))) (b2 : (List (Int × Int))) : Option Bool :=
  (F_ref03_Same_g1 a1 b2).bind (fun x4 => F_ref03_Same_k2 x4)

set_option maxRecDepth 100000 in
set_option maxHeartbeats 4000000 in
theorem F_ref03_Same_ok (a1 : (List (Int × Int))) (b2 : (List (Int × Int))) {r : Bool} (h : F_ref03_Same a1 b2 = some r) : ACalls Tryz.prog 32 [.sl 2 (a1.map row_A2I), .sl 2 (b2.map row_A2I)] [] (Gives (.b r) []) := by
  refine ACalls.walk 13 Tryz.func32 rfl Tryz.ntmps32 rfl fun C hC => ?_
  unfold F_ref03_Same at h
  refine AK.go tab_ok hC [.n 6] rfl trivial ?_
  obtain ⟨x4, hv5, h⟩ := bindE h
  replace h : F_ref03_Same_k2 x4 = some r := h
  refine AK.meetX (fun σ => σ = ⟨[(4, .b x4)], []⟩) ?_ ?_
  · replace h := hv5
    unfold F_ref03_Same_g1 at h
    obtain ⟨x6, hx6, h⟩ := bindE h
    refine AK.go tab_ok hC [.n 3, .o (.c false [.d, .d] (.b x6)), .n 1] rfl ⟨trivial, (F_ref03_Within_ok _ _ hx6)⟩ ?_
    rcases bifE h with ⟨hc7, h⟩ | ⟨hc7, h⟩
    · obtain ⟨x8, hx8, h⟩ := bindE h
      refine AK.go tab_ok hC [.say 8 (.b true), .n 2, .o (.c false [.d, .d] (.b x8)), .n 3, .keep [4] []] rfl ⟨⟨trivial, (congrArg V.b hc7)⟩, (F_ref03_Within_ok _ _ hx8)⟩ ?_
      obtain rfl := Option.some.inj h
      exact AK.met rfl
    · refine AK.go tab_ok hC [.say 8 (.b false), .n 6, .keep [4] []] rfl ⟨trivial, (congrArg V.b hc7)⟩ ?_
      obtain rfl := Option.some.inj h
      exact AK.met rfl
  · rintro σ rfl
    replace h : F_ref03_Same_k2 x4 = some r := h
    unfold F_ref03_Same_k2 at h
    refine AK.go tab_ok hC [.n 2, .keep [4] []] rfl trivial ?_
    obtain rfl := Option.some.inj h
    refine AK.done ?_
    exact Exists.intro [_] (And.intro (And.intro rfl trivial) (gives trivial))

-- 20 baldric/baldricref09.Same
noncomputable def F_ref09_Same_l1 (a1 : (List (List (Int × Int)))) (b2 : (List (List (Int × Int)))) (i6 : Int) : Option (Int ⊕ (Unit ⊕ Unit)) :=
  bif (decide (i6 < (a1.length : Int))) then
  (idx a1 i6).bind fun e9 =>
  (idx b2 i6).bind fun e10 =>
  (F_ref03_Same e9 e10).bind fun x11 =>
  bif (!x11) then
  some (.inr (.inl ()))
  else
  some (.inl (w64 (i6 + 1)))
  else
  some (.inr (.inr ()))

noncomputable def F_ref09_Same_c2 : Option Bool :=
  some false

noncomputable def F_ref09_Same_c3 : Option Bool :=
  some true

noncomputable def F_ref09_Same (a1 : (List (List (Int × Int)))) (b2 : (List (List (Int × Int)))) : Option Bool :=
  bif ((a1.length : Int) != (b2.length : Int)) then
  some false
  else
  (loopM (fun st => F_ref09_Same_l1 a1 b2 st) 0).bind (Sum.elim (fun q => F_ref09_Same_c2) (fun q => F_ref09_Same_c3))

set_option maxRecDepth 100000 in
set_option maxHeartbeats 4000000 in
theorem F_ref09_Same_ok (a1 : (List (List (Int × Int)))) (b2 : (List (List (Int × Int)))) {r : Bool} (h : F_ref09_Same a1 b2 = some r) : ACalls Tryz.prog 20 [.sl 1 (a1.map row_LA2I), .sl 1 (b2.map row_LA2I)] [] (Gives (.b r) []) := by
  refine ACalls.walk 29 Tryz.func20 rfl Tryz.ntmps20 rfl fun C hC => ?_
  unfold F_ref09_Same at h
  refine AK.go tab_ok hC [.n 9, .o (.ln a1.length), .n 1, .o (.ln b2.length), .n 3] rfl ⟨⟨trivial, mapLen⟩, mapLen⟩ ?_
  rcases bifE h with ⟨hc5, h⟩ | ⟨hc5, h⟩
  · refine AK.go tab_ok hC [.br true, .n 7, .keep [4] []] rfl ⟨trivial, hc5⟩ ?_
    obtain rfl := Option.some.inj h
    refine AK.done ?_
    exact Exists.intro [_] (And.intro (And.intro rfl trivial) (gives trivial))
  · refine AK.go tab_ok hC [.br false, .n 9, .keep [0, 1, 5] []] rfl ⟨trivial, hc5⟩ ?_
    obtain ⟨o13, hl13, h⟩ := bindE h
    refine AK.loop (body := (fun st => F_ref09_Same_l1 a1 b2 st)) (fun st σ => σ = ⟨[(0, .sl 1 (a1.map row_LA2I)), (1, .sl 1 (b2.map row_LA2I)), (5, .i .i64 st)], []⟩) (Sum.elim (fun q e σ => e = .ret ∧ σ = ⟨[(4, .b false)], []⟩) (fun q e σ => e = .exit 0 ∧ σ = ⟨[], []⟩)) hl13 rfl ?_ ?_
    · rintro i6 o σ rfl h
      replace h : F_ref09_Same_l1 a1 b2 i6 = some o := h
      unfold F_ref09_Same_l1 at h
      refine AK.go tab_ok hC [.n 5, .o (.ln a1.length), .n 3] rfl ⟨trivial, mapLen⟩ ?_
      rcases bifE h with ⟨hc8, h⟩ | ⟨hc8, h⟩
      · obtain ⟨e9, he9, h⟩ := bindE h
        obtain ⟨e10, he10, h⟩ := bindE h
        obtain ⟨x11, hx11, h⟩ := bindE h
        refine AK.go tab_ok hC [.br true, .n 5, .keep [0, 1, 5] []] rfl ⟨trivial, hc8⟩ ?_
        refine AK.draw2 tab_ok hC mixed [.a .no none false, .a .no none false, .a (.row (row_LA2I e9)) none false, .a .no none false, .a .no none false, .a .no none false, .a (.row (row_LA2I e10)) none false, .a .no none false, .a (.c false [.d, .d] (.b x11)) none false, .a .no none false] [] [] [0, 1, 5, 6] [] rfl rfl rfl ⟨⟨⟨trivial, (idxM he9)⟩, (idxM he10)⟩, (F_ref03_Same_ok _ _ hx11)⟩ rfl (by kernel_rfl) rfl rfl rfl ?_
        refine AK.go tab_ok hC [.n 7] rfl trivial ?_
        rcases bifE h with ⟨hc12, h⟩ | ⟨hc12, h⟩
        · refine AK.go tab_ok hC [.br true, .n 8, .keep [4] []] rfl ⟨trivial, hc12⟩ ?_
          obtain rfl := Option.some.inj h
          exact rndR rfl (And.intro rfl rfl)
        · refine AK.go tab_ok hC [.br false, .n 8, .keep [0, 1, 5] []] rfl ⟨trivial, hc12⟩ ?_
          obtain rfl := Option.some.inj h
          exact rndN rfl rfl
      · refine AK.go tab_ok hC [.br false, .n 2, .keep [] []] rfl ⟨trivial, hc8⟩ ?_
        obtain rfl := Option.some.inj h
        exact rndX rfl (And.intro rfl rfl)
    · rcases o13 with (_ | _)
      · replace h : F_ref09_Same_c2 = some r := h
        unfold F_ref09_Same_c2 at h
        rintro e σ ⟨rfl, rfl⟩
        refine AK.go tab_ok hC [.n 2, .keep [4] []] rfl trivial ?_
        obtain rfl := Option.some.inj h
        refine AK.done ?_
        exact Exists.intro [_] (And.intro (And.intro rfl trivial) (gives trivial))
      · replace h : F_ref09_Same_c3 = some r := h
        unfold F_ref09_Same_c3 at h
        rintro e σ ⟨rfl, rfl⟩
        refine AK.go tab_ok hC [.n 8, .keep [4] []] rfl trivial ?_
        obtain rfl := Option.some.inj h
        refine AK.done ?_
        exact Exists.intro [_] (And.intro (And.intro rfl trivial) (gives trivial))


end Go.Proofs
