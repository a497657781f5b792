/- What functions of the program do, as functions over plain data, and the walks that show it: printed by a program. -/
import Derived.Test.YtidpjdkldadlpaaGreatT2
set_option linter.unusedVariables false
set_option linter.unusedSimpArgs false
set_option linter.unusedSectionVars false
set_option linter.deprecated false
noncomputable section
namespace Go.Proofs
open Go Go.RowKit Go.Vm
-- 6 baldric/baldricref15.Find
noncomputable def F_ref15_Find_l1 (s1 : TSpace) (m2 : (List (List (Int × Int)))) (i5 : Int) : Option (Int ⊕ (Int ⊕ Unit)) :=
  bif (decide (i5 < (s1.States.length : Int))) then
  (idx s1.States i5).bind fun e9 =>
  (F_ref09_Same e9 m2).bind fun x10 =>
  bif x10 then
  some (.inr (.inl i5))
  else
  some (.inl (w64 (i5 + 1)))
  else
  some (.inr (.inr ()))

noncomputable def F_ref15_Find_c2 (x7 : Int) : Option Int :=
  some x7

noncomputable def F_ref15_Find_c3 : Option Int :=
  some (-1)

noncomputable def F_ref15_Find (s1 : TSpace) (m2 : (List (List (Int × Int)))) : Option Int :=
  (loopM (fun st => F_ref15_Find_l1 s1 m2 st) 0).bind (Sum.elim (fun q => F_ref15_Find_c2 q) (fun q => F_ref15_Find_c3))

set_option maxRecDepth 100000 in
set_option maxHeartbeats 4000000 in
theorem F_ref15_Find_ok (s1 : TSpace) (m2 : (List (List (Int × Int)))) {r : Int} (h : F_ref15_Find s1 m2 = some r) : ACalls Tryz.prog 6 [.agg (row_TSpace s1), .sl 1 (m2.map row_LA2I)] [] (Gives (.i .i64 r) []) := by
  refine ACalls.walk 23 Tryz.func6 rfl Tryz.ntmps6 rfl fun C hC => ?_
  unfold F_ref15_Find at h
  refine AK.go tab_ok hC [.n 13, .keep [1, 2, 5] [2]] rfl trivial ?_
  obtain ⟨o12, hl12, h⟩ := bindE h
  refine AK.loop (body := (fun st => F_ref15_Find_l1 s1 m2 st)) (fun st σ => σ = ⟨[(1, .sl 1 (m2.map row_LA2I)), (2, .loc 2 0 0), (5, .i .i64 st)], [(2, .var (row_TSpace s1))]⟩) (Sum.elim (fun q e σ => e = .ret ∧ σ = ⟨[(4, .i .i64 q)], []⟩) (fun q e σ => e = .exit 0 ∧ σ = ⟨[], []⟩)) hl12 rfl ?_ ?_
  · rintro i5 o σ rfl h
    replace h : F_ref15_Find_l1 s1 m2 i5 = some o := h
    unfold F_ref15_Find_l1 at h
    refine AK.go tab_ok hC [.n 6, .o (.ln s1.States.length), .n 3] rfl ⟨trivial, mapLen⟩ ?_
    rcases bifE h with ⟨hc8, h⟩ | ⟨hc8, h⟩
    · obtain ⟨e9, he9, h⟩ := bindE h
      obtain ⟨x10, hx10, h⟩ := bindE h
      refine AK.go tab_ok hC [.br true, .n 9, .o (.row (row_LLA2I e9)), .n 2, .o (.c false [.d, .d] (.b x10)), .n 8] rfl ⟨⟨⟨trivial, hc8⟩, (idxM he9)⟩, (F_ref09_Same_ok _ _ hx10)⟩ ?_
      rcases bifE h with ⟨hc11, h⟩ | ⟨hc11, h⟩
      · refine AK.go tab_ok hC [.br true, .n 9, .keep [4] []] rfl ⟨trivial, hc11⟩ ?_
        obtain rfl := Option.some.inj h
        exact rndR rfl (And.intro rfl rfl)
      · refine AK.go tab_ok hC [.br false, .n 8, .keep [1, 2, 5] [2]] rfl ⟨trivial, hc11⟩ ?_
        obtain rfl := Option.some.inj h
        exact rndN rfl rfl
    · refine AK.go tab_ok hC [.br false, .n 2, .keep [] []] rfl ⟨trivial, hc8⟩ ?_
      obtain rfl := Option.some.inj h
      exact rndX rfl (And.intro rfl rfl)
  · rcases o12 with (x7 | _)
    · replace h : F_ref15_Find_c2 x7 = some r := h
      unfold F_ref15_Find_c2 at h
      rintro e σ ⟨rfl, rfl⟩
      refine AK.go tab_ok hC [.n 2, .keep [4] []] rfl trivial ?_
      obtain rfl := Option.some.inj h
      refine AK.done ?_
      exact Exists.intro [_] (And.intro (And.intro rfl trivial) (gives trivial))
    · replace h : F_ref15_Find_c3 = some r := h
      unfold F_ref15_Find_c3 at h
      rintro e σ ⟨rfl, rfl⟩
      refine AK.go tab_ok hC [.n 8, .keep [4] []] rfl trivial ?_
      obtain rfl := Option.some.inj h
      refine AK.done ?_
      exact Exists.intro [_] (And.intro (And.intro rfl trivial) (gives trivial))

-- 9 baldric/baldricref15.Out
noncomputable def F_ref15_Out_k1 (i5 : Int) (l11 : (List Int)) : Option ((Int × (List Int)) ⊕ (List Int)) :=
  some (.inl ((w64 (i5 + 1)), l11))

noncomputable def F_ref15_Out_l2 (s1 : TSpace) (k2 : Int) (i5 : Int) (l6 : (List Int)) : Option ((Int × (List Int)) ⊕ (List Int)) :=
  bif (decide (i5 < (s1.Edges.length : Int))) then
  (idx s1.Edges i5).bind fun e12 =>
  bif (e12.From == k2) then
  (chk (decide (l6.length + ([i5] : List Int).length ≤ 4294967296))).bind fun _ =>
  F_ref15_Out_k1 i5 (l6 ++ ([i5] : List Int))
  else
  F_ref15_Out_k1 i5 l6
  else
  some (.inr l6)

noncomputable def F_ref15_Out_c3 (l9 : (List Int)) : Option (List Int) :=
  some l9

noncomputable def F_ref15_Out (s1 : TSpace) (k2 : Int) : Option (List Int) :=
  (loopM (fun st => F_ref15_Out_l2 s1 k2 st.1 st.2) (0, ([] : List Int))).bind (fun q => F_ref15_Out_c3 q)

set_option maxRecDepth 100000 in
set_option maxHeartbeats 4000000 in
theorem F_ref15_Out_ok (s1 : TSpace) (k2 : Int) {r : (List Int)} (h : F_ref15_Out s1 k2 = some r) : ACalls Tryz.prog 9 [.agg (row_TSpace s1), .i .i64 k2] [] (Gives (.own 30000 r.length) [(30000, .arr 1 (r.map row_I))]) := by
  refine ACalls.walk 27 Tryz.func9 rfl Tryz.ntmps9 rfl fun C hC => ?_
  unfold F_ref15_Out at h
  refine AK.go tab_ok hC [.n 18, .adopt 5 22 1, .sayO 22 (.arr 1 (([] : List Int).map row_I)), .say 5 (.own 22 ([] : List Int).length), .keep [1, 2, 5, 6] [2, 22]] rfl ⟨⟨trivial, rfl⟩, (congrArg (fun n => V.own 22 n) (by simp))⟩ ?_
  obtain ⟨l9, hl15, h⟩ := bindE h
  refine AK.loop (body := (fun st => F_ref15_Out_l2 s1 k2 st.1 st.2)) (fun st σ => σ = ⟨[(1, .i .i64 k2), (2, .loc 2 0 0), (5, .own 22 st.2.length), (6, .i .i64 st.1)], [(2, .var (row_TSpace s1)), (22, .arr 1 (st.2.map row_I))]⟩) (fun q e σ => e = .exit 0 ∧ σ = ⟨[(5, .own 22 q.length)], [(22, .arr 1 (q.map row_I))]⟩) hl15 rfl ?_ ?_
  · rintro ⟨i5, l6⟩ o σ rfl h
    replace h : F_ref15_Out_l2 s1 k2 i5 l6 = some o := h
    unfold F_ref15_Out_l2 at h
    refine AK.go tab_ok hC [.n 6, .o (.ln s1.Edges.length), .n 3] rfl ⟨trivial, mapLen⟩ ?_
    rcases bifE h with ⟨hc10, h⟩ | ⟨hc10, h⟩
    · refine AK.go tab_ok hC [.br true, .n 2] rfl ⟨trivial, hc10⟩ ?_
      refine AK.meet (fun σ => ∃ l11 : (List Int), σ = ⟨[(1, .i .i64 k2), (2, .loc 2 0 0), (5, .own 22 l11.length), (6, .i .i64 i5)], [(2, .var (row_TSpace s1)), (22, .arr 1 (l11.map row_I))]⟩ ∧ F_ref15_Out_k1 i5 l11 = some o) ?_ ?_
      · obtain ⟨e12, he12, h⟩ := bindE h
        refine AK.go tab_ok hC [.n 6, .o (.row (row_TEdge e12)), .n 6] rfl ⟨trivial, (idxM he12)⟩ ?_
        rcases bifE h with ⟨hc13, h⟩ | ⟨hc13, h⟩
        · obtain ⟨_, hk14, h⟩ := bindE h
          replace hk14 := chkE hk14
          refine AK.go tab_ok hC [.br true, .n 3, .v (.bd []) [] (.sl 1 (([i5] : List Int).map row_I)), .app ((l6 ++ ([i5] : List Int)).map row_I) (l6 ++ ([i5] : List Int)).length, .n 3, .keep [1, 2, 5, 6] [2, 22]] rfl ⟨⟨⟨trivial, hc13⟩, rfl⟩, ⟨mapLen, appLim hk14 mapLen, mapApps, appLn mapLen⟩⟩ ?_
          exact AK.met (Exists.intro _ (And.intro rfl h))
        · refine AK.go tab_ok hC [.br false, .n 2, .keep [1, 2, 5, 6] [2, 22]] rfl ⟨trivial, hc13⟩ ?_
          exact AK.met (Exists.intro _ (And.intro rfl h))
      · rintro σ ⟨l11, rfl, h⟩
        unfold F_ref15_Out_k1 at h
        refine AK.go tab_ok hC [.n 5, .keep [1, 2, 5, 6] [2, 22]] rfl trivial ?_
        obtain rfl := Option.some.inj h
        exact rndN rfl rfl
    · refine AK.go tab_ok hC [.br false, .n 2, .keep [5] [22]] rfl ⟨trivial, hc10⟩ ?_
      obtain rfl := Option.some.inj h
      exact rndX rfl (And.intro rfl rfl)
  · replace h : F_ref15_Out_c3 l9 = some r := h
    unfold F_ref15_Out_c3 at h
    rintro e σ ⟨rfl, rfl⟩
    refine AK.go tab_ok hC [.n 9, .keep [4] [22], .ren 22 30000, .keep [4] [30000]] rfl trivial ?_
    obtain rfl := Option.some.inj h
    refine AK.done ?_
    exact Exists.intro [_] (And.intro (And.intro rfl trivial) (gives ⟨rfl, trivial⟩))

-- 11 baldric/baldricref15.Tasks
noncomputable def F_ref15_Tasks_k1 (i4 : Int) (l10 : (List Int)) : Option ((Int × (List Int)) ⊕ (List Int)) :=
  some (.inl ((w64 (i4 + 1)), l10))

noncomputable def F_ref15_Tasks_g2 (at_12 : Int) (l5 : (List Int)) (e11 : TEdge) : Option Bool :=
  bif (decide (at_12 < (l5.length : Int))) then
  (idx l5 at_12).bind fun e18 =>
  some (decide (e18 < e11.Mode.Task))
  else
  some false

noncomputable def F_ref15_Tasks_k3 (at_12 : Int) (x15 : Bool) : Option (Int ⊕ Int) :=
  bif x15 then
  some (.inl (w64 (at_12 + 1)))
  else
  some (.inr at_12)

noncomputable def F_ref15_Tasks_l4 (l5 : (List Int)) (e11 : TEdge) (at_12 : Int) : Option (Int ⊕ Int) :=
  (F_ref15_Tasks_g2 at_12 l5 e11).bind (fun x15 => F_ref15_Tasks_k3 at_12 x15)

noncomputable def F_ref15_Tasks_g5 (at_14 : Int) (l5 : (List Int)) (e11 : TEdge) : Option Bool :=
  bif (at_14 == (l5.length : Int)) then
  some true
  else
  (idx l5 at_14).bind fun e24 =>
  some (e24 != e11.Mode.Task)

noncomputable def F_ref15_Tasks_k6 (at_14 : Int) (l5 : (List Int)) (e11 : TEdge) (i4 : Int) (x21 : Bool) : Option ((Int × (List Int)) ⊕ (List Int)) :=
  bif x21 then
  (chk (decide (0 ≤ at_14) && decide (0 ≤ at_14.toNat) && decide (at_14.toNat ≤ l5.length))).bind fun _ =>
  (chk (decide (([] : List Int).length + ((l5.drop 0).take (at_14.toNat - 0)).length ≤ 4294967296))).bind fun _ =>
  (chk (decide ((([] : List Int) ++ ((l5.drop 0).take (at_14.toNat - 0))).length + ([e11.Mode.Task] : List Int).length ≤ 4294967296))).bind fun _ =>
  (chk (decide (0 ≤ at_14) && decide (at_14.toNat ≤ l5.length) && decide (l5.length ≤ l5.length))).bind fun _ =>
  (chk (decide (((([] : List Int) ++ ((l5.drop 0).take (at_14.toNat - 0))) ++ [e11.Mode.Task]).length + ((l5.drop at_14.toNat).take (l5.length - at_14.toNat)).length ≤ 4294967296))).bind fun _ =>
  F_ref15_Tasks_k1 i4 (((([] : List Int) ++ ((l5.drop 0).take (at_14.toNat - 0))) ++ [e11.Mode.Task]) ++ ((l5.drop at_14.toNat).take (l5.length - at_14.toNat)))
  else
  F_ref15_Tasks_k1 i4 l5

noncomputable def F_ref15_Tasks_c7 (l5 : (List Int)) (e11 : TEdge) (i4 : Int) (at_14 : Int) : Option ((Int × (List Int)) ⊕ (List Int)) :=
  (F_ref15_Tasks_g5 at_14 l5 e11).bind (fun x21 => F_ref15_Tasks_k6 at_14 l5 e11 i4 x21)

noncomputable def F_ref15_Tasks_l8 (s1 : TSpace) (i4 : Int) (l5 : (List Int)) : Option ((Int × (List Int)) ⊕ (List Int)) :=
  bif (decide (i4 < (s1.Edges.length : Int))) then
  (idx s1.Edges i4).bind fun e11 =>
  (loopM (fun st => F_ref15_Tasks_l4 l5 e11 st) 0).bind (fun q => F_ref15_Tasks_c7 l5 e11 i4 q)
  else
  some (.inr l5)

noncomputable def F_ref15_Tasks_c9 (l8 : (List Int)) : Option (List Int) :=
  some l8

noncomputable def F_ref15_Tasks (s1 : TSpace) : Option (List Int) :=
  (loopM (fun st => F_ref15_Tasks_l8 s1 st.1 st.2) (0, ([] : List Int))).bind (fun q => F_ref15_Tasks_c9 q)

set_option maxRecDepth 100000 in
set_option maxHeartbeats 4000000 in
theorem F_ref15_Tasks_ok (s1 : TSpace) {r : (List Int)} (h : F_ref15_Tasks s1 = some r) : ACalls Tryz.prog 11 [.agg (row_TSpace s1)] [] (Gives (.own 30000 r.length) [(30000, .arr 1 (r.map row_I))]) := by
  refine ACalls.walk 60 Tryz.func11 rfl Tryz.ntmps11 rfl fun C hC => ?_
  unfold F_ref15_Tasks at h
  refine AK.go tab_ok hC [.n 18, .adopt 3 47 1, .sayO 47 (.arr 1 (([] : List Int).map row_I)), .say 3 (.own 47 ([] : List Int).length), .keep [1, 3, 4] [1, 47]] rfl ⟨⟨trivial, rfl⟩, (congrArg (fun n => V.own 47 n) (by simp))⟩ ?_
  obtain ⟨l8, hl31, h⟩ := bindE h
  refine AK.loop (body := (fun st => F_ref15_Tasks_l8 s1 st.1 st.2)) (fun st σ => σ = ⟨[(1, .loc 1 0 0), (3, .own 47 st.2.length), (4, .i .i64 st.1)], [(1, .var (row_TSpace s1)), (47, .arr 1 (st.2.map row_I))]⟩) (fun q e σ => e = .exit 0 ∧ σ = ⟨[(3, .own 47 q.length)], [(47, .arr 1 (q.map row_I))]⟩) hl31 rfl ?_ ?_
  · rintro ⟨i4, l5⟩ o σ rfl h
    replace h : F_ref15_Tasks_l8 s1 i4 l5 = some o := h
    unfold F_ref15_Tasks_l8 at h
    refine AK.go tab_ok hC [.n 6, .o (.ln s1.Edges.length), .n 3] rfl ⟨trivial, mapLen⟩ ?_
    rcases bifE h with ⟨hc9, h⟩ | ⟨hc9, h⟩
    · refine AK.go tab_ok hC [.br true, .n 2] rfl ⟨trivial, hc9⟩ ?_
      refine AK.meet (fun σ => ∃ l10 : (List Int), σ = ⟨[(1, .loc 1 0 0), (3, .own 47 l10.length), (4, .i .i64 i4)], [(1, .var (row_TSpace s1)), (47, .arr 1 (l10.map row_I))]⟩ ∧ F_ref15_Tasks_k1 i4 l10 = some o) ?_ ?_
      · obtain ⟨e11, he11, h⟩ := bindE h
        refine AK.go tab_ok hC [.n 6, .o (.row (row_TEdge e11)), .n 13, .keep [1, 3, 4, 5, 6] [1, 47]] rfl ⟨trivial, (idxM he11)⟩ ?_
        obtain ⟨at_14, hl20, h⟩ := bindE h
        refine AK.loop (body := (fun st => F_ref15_Tasks_l4 l5 e11 st)) (fun st σ => σ = ⟨[(1, .loc 1 0 0), (3, .own 47 l5.length), (4, .i .i64 i4), (5, .i .i64 e11.Mode.Task), (6, .i .i64 st)], [(1, .var (row_TSpace s1)), (47, .arr 1 (l5.map row_I))]⟩) (fun q e σ => e = .exit 2 ∧ σ = ⟨[(1, .loc 1 0 0), (3, .own 47 l5.length), (4, .i .i64 i4), (5, .i .i64 e11.Mode.Task), (6, .i .i64 q)], [(1, .var (row_TSpace s1)), (47, .arr 1 (l5.map row_I))]⟩) hl20 rfl ?_ ?_
        · rintro at_12 o σ rfl h
          replace h : F_ref15_Tasks_l4 l5 e11 at_12 = some o := h
          unfold F_ref15_Tasks_l4 at h
          refine AK.go tab_ok hC [.n 2] rfl trivial ?_
          obtain ⟨x15, hv16, h⟩ := bindE h
          replace h : F_ref15_Tasks_k3 at_12 x15 = some o := h
          refine AK.meetX (fun σ => σ = ⟨[(1, .loc 1 0 0), (3, .own 47 l5.length), (4, .i .i64 i4), (5, .i .i64 e11.Mode.Task), (6, .i .i64 at_12), (32, .b x15)], [(1, .var (row_TSpace s1)), (47, .arr 1 (l5.map row_I))]⟩) ?_ ?_
          · replace h := hv16
            unfold F_ref15_Tasks_g2 at h
            refine AK.go tab_ok hC [.n 6] rfl trivial ?_
            rcases bifE h with ⟨hc17, h⟩ | ⟨hc17, h⟩
            · obtain ⟨e18, he18, h⟩ := bindE h
              refine AK.go tab_ok hC [.say 25 (.b true), .n 3, .o (.row (row_I e18)), .n 4, .keep [1, 3, 4, 5, 6, 32] [1, 47]] rfl ⟨⟨⟨trivial, (congrArg V.b hc17)⟩, (idxOw he18 rfl)⟩, (mapGet (idxE he18).2)⟩ ?_
              obtain rfl := Option.some.inj h
              exact AK.met rfl
            · refine AK.go tab_ok hC [.say 25 (.b false), .n 8, .keep [1, 3, 4, 5, 6, 32] [1, 47]] rfl ⟨trivial, (congrArg V.b hc17)⟩ ?_
              obtain rfl := Option.some.inj h
              exact AK.met rfl
          · rintro σ rfl
            replace h : F_ref15_Tasks_k3 at_12 x15 = some o := h
            unfold F_ref15_Tasks_k3 at h
            refine AK.go tab_ok hC [.n 1] rfl trivial ?_
            rcases bifE h with ⟨hc19, h⟩ | ⟨hc19, h⟩
            · refine AK.go tab_ok hC [.br true, .n 9, .keep [1, 3, 4, 5, 6] [1, 47]] rfl ⟨trivial, hc19⟩ ?_
              obtain rfl := Option.some.inj h
              exact rndN rfl rfl
            · refine AK.go tab_ok hC [.br false, .n 2, .keep [1, 3, 4, 5, 6] [1, 47]] rfl ⟨trivial, hc19⟩ ?_
              obtain rfl := Option.some.inj h
              exact rndX rfl (And.intro rfl rfl)
        · replace h : F_ref15_Tasks_c7 l5 e11 i4 at_14 = some o := h
          unfold F_ref15_Tasks_c7 at h
          rintro e σ ⟨rfl, rfl⟩
          refine AK.go tab_ok hC [.n 3] rfl trivial ?_
          obtain ⟨x21, hv22, h⟩ := bindE h
          replace h : F_ref15_Tasks_k6 at_14 l5 e11 i4 x21 = some o := h
          refine AK.meetX (fun σ => σ = ⟨[(1, .loc 1 0 0), (3, .own 47 l5.length), (4, .i .i64 i4), (5, .i .i64 e11.Mode.Task), (6, .i .i64 at_14), (46, .b x21)], [(1, .var (row_TSpace s1)), (47, .arr 1 (l5.map row_I))]⟩) ?_ ?_
          · replace h := hv22
            unfold F_ref15_Tasks_g5 at h
            refine AK.go tab_ok hC [.n 6] rfl trivial ?_
            rcases bifE h with ⟨hc23, h⟩ | ⟨hc23, h⟩
            · refine AK.go tab_ok hC [.say 39 (.b true), .n 8, .keep [1, 3, 4, 5, 6, 46] [1, 47]] rfl ⟨trivial, (congrArg V.b hc23)⟩ ?_
              obtain rfl := Option.some.inj h
              exact AK.met rfl
            · obtain ⟨e24, he24, h⟩ := bindE h
              refine AK.go tab_ok hC [.say 39 (.b false), .n 3, .o (.row (row_I e24)), .n 4, .keep [1, 3, 4, 5, 6, 46] [1, 47]] rfl ⟨⟨⟨trivial, (congrArg V.b hc23)⟩, (idxOw he24 rfl)⟩, (mapGet (idxE he24).2)⟩ ?_
              obtain rfl := Option.some.inj h
              exact AK.met rfl
          · rintro σ rfl
            replace h : F_ref15_Tasks_k6 at_14 l5 e11 i4 x21 = some o := h
            unfold F_ref15_Tasks_k6 at h
            refine AK.go tab_ok hC [.n 1] rfl trivial ?_
            rcases bifE h with ⟨hc25, h⟩ | ⟨hc25, h⟩
            · obtain ⟨_, hk26, h⟩ := bindE h
              replace hk26 := chkE hk26
              obtain ⟨_, hk27, h⟩ := bindE h
              replace hk27 := chkE hk27
              obtain ⟨_, hk28, h⟩ := bindE h
              replace hk28 := chkE hk28
              obtain ⟨_, hk29, h⟩ := bindE h
              replace hk29 := chkE hk29
              obtain ⟨_, hk30, h⟩ := bindE h
              replace hk30 := chkE hk30
              refine AK.go tab_ok hC [.br true, .frz 47 (l5.map row_I) [3] [], .keep [1, 3, 4, 5, 6] [1]] rfl ⟨⟨trivial, hc25⟩, ⟨trivial, (frzL mapLen)⟩⟩ ?_
              refine AK.draw2 tab_ok hC mixed [.a .no none false, .a .no none false, .a .no none false, .a (.any (.sl 1 (((l5.drop 0).take (at_14.toNat - 0)).map row_I)) none) none false, .m (.app ((([] : List Int) ++ ((l5.drop 0).take (at_14.toNat - 0))).map row_I) (([] : List Int) ++ ((l5.drop 0).take (at_14.toNat - 0))).length), .a .no none true, .a (.bd []) (some ([], .sl 1 (([e11.Mode.Task] : List Int).map row_I))) true, .m (.app (((([] : List Int) ++ ((l5.drop 0).take (at_14.toNat - 0))) ++ [e11.Mode.Task]).map row_I) ((([] : List Int) ++ ((l5.drop 0).take (at_14.toNat - 0))) ++ [e11.Mode.Task]).length), .a .no none true, .a .no none true, .a (.any (.sl 1 (((l5.drop at_14.toNat).take (l5.length - at_14.toNat)).map row_I)) none) none true, .m (.app ((((([] : List Int) ++ ((l5.drop 0).take (at_14.toNat - 0))) ++ [e11.Mode.Task]) ++ ((l5.drop at_14.toNat).take (l5.length - at_14.toNat))).map row_I) (((([] : List Int) ++ ((l5.drop 0).take (at_14.toNat - 0))) ++ [e11.Mode.Task]) ++ ((l5.drop at_14.toNat).take (l5.length - at_14.toNat))).length), .m .s] [1, 3, 4, 5, 6] [1] [1, 3, 4] [1, 47] rfl rfl rfl ⟨⟨⟨⟨⟨⟨trivial, (fun σ h1 h2 _ => Stp.sliceD rfl rfl (hC ▸ rfl) (h1 _ _ rfl) (tab_ok.es rfl) Bnd.no (Bnd.val (h1 _ _ rfl) (of_decide_eq_true (and3_0 hk26)) rfl) (of_decide_eq_true (and3_1 hk26)) (Nat.le_trans (of_decide_eq_true (and3_2 hk26)) (Nat.le_of_eq mapLen.symm)) (by simp))⟩, ⟨(mapLen (f := row_I) (l := ([] : List Int))), appLim hk27 mapLen, (mapApps (f := row_I) (l := ([] : List Int)) (m := ((l5.drop 0).take (at_14.toNat - 0)))), appLn (l := ([] : List Int)) mapLen⟩⟩, rfl⟩, ⟨mapLen, appLim hk28 mapLen, mapApps, appLn mapLen⟩⟩, (fun σ h1 h2 _ => Stp.sliceD rfl rfl (hC ▸ rfl) (h1 _ _ rfl) (tab_ok.es rfl) (Bnd.val (h1 _ _ rfl) (of_decide_eq_true (and3_0 hk29)) rfl) (Bnd.none_ mapLen) (of_decide_eq_true (and3_1 hk29)) (Nat.le_of_eq mapLen.symm) (by simp))⟩, ⟨mapLen, appLim hk30 mapLen, mapApps, appLn mapLen⟩⟩ rfl (by kernel_rfl) rfl rfl rfl ?_
              refine AK.go tab_ok hC [.n 1, .keep [1, 3, 4] [1, 47]] rfl trivial ?_
              exact AK.met (Exists.intro _ (And.intro rfl h))
            · refine AK.go tab_ok hC [.br false, .n 2, .keep [1, 3, 4] [1, 47]] rfl ⟨trivial, hc25⟩ ?_
              exact AK.met (Exists.intro _ (And.intro rfl h))
      · rintro σ ⟨l10, rfl, h⟩
        unfold F_ref15_Tasks_k1 at h
        refine AK.go tab_ok hC [.n 5, .keep [1, 3, 4] [1, 47]] rfl trivial ?_
        obtain rfl := Option.some.inj h
        exact rndN rfl rfl
    · refine AK.go tab_ok hC [.br false, .n 2, .keep [3] [47]] rfl ⟨trivial, hc9⟩ ?_
      obtain rfl := Option.some.inj h
      exact rndX rfl (And.intro rfl rfl)
  · replace h : F_ref15_Tasks_c9 l8 = some r := h
    unfold F_ref15_Tasks_c9 at h
    rintro e σ ⟨rfl, rfl⟩
    refine AK.go tab_ok hC [.n 9, .keep [2] [47], .ren 47 30000, .keep [2] [30000]] rfl trivial ?_
    obtain rfl := Option.some.inj h
    refine AK.done ?_
    exact Exists.intro [_] (And.intro (And.intro rfl trivial) (gives ⟨rfl, trivial⟩))

-- 27 baldric/baldricref15.far
noncomputable def F_ref15_far_l1 (i7 : Int) (l8 : (List Int)) : Option ((Int × (List Int)) ⊕ (List Int)) :=
  bif (decide (i7 < (l8.length : Int))) then
  (idx l8 i7).bind fun e13 =>
  some (.inl ((w64 (i7 + 1)), (l8.set i7.toNat (-1))))
  else
  some (.inr l8)

noncomputable def F_ref15_far_k2 (i27 : Int) (l33 : (List Int)) : Option ((Int × (List Int)) ⊕ (List Int)) :=
  some (.inl ((w64 (i27 + 1)), l33))

noncomputable def F_ref15_far_g3 (e34 : TEdge) (l28 : (List Int)) (round20 : Int) : Option Bool :=
  bif (decide (e34.From < 0)) then
  some true
  else
  bif (decide ((l28.length : Int) ≤ e34.From)) then
  some true
  else
  bif (decide (e34.To < 0)) then
  some true
  else
  bif (decide ((l28.length : Int) ≤ e34.To)) then
  some true
  else
  (idx l28 e34.To).bind fun e41 =>
  bif (e41 != round20) then
  some true
  else
  (idx l28 e34.From).bind fun e43 =>
  some (decide (0 ≤ e43))

noncomputable def F_ref15_far_k4 (i27 : Int) (l28 : (List Int)) (e34 : TEdge) (round20 : Int) (x35 : Bool) : Option ((Int × (List Int)) ⊕ (List Int)) :=
  bif x35 then
  F_ref15_far_k2 i27 l28
  else
  (idx l28 e34.From).bind fun e45 =>
  F_ref15_far_k2 i27 (l28.set e34.From.toNat (w64 (round20 + 1)))

noncomputable def F_ref15_far_l5 (s1 : TSpace) (round20 : Int) (i27 : Int) (l28 : (List Int)) : Option ((Int × (List Int)) ⊕ (List Int)) :=
  bif (decide (i27 < (s1.Edges.length : Int))) then
  (idx s1.Edges i27).bind fun e34 =>
  (F_ref15_far_g3 e34 l28 round20).bind (fun x35 => F_ref15_far_k4 i27 l28 e34 round20 x35)
  else
  some (.inr l28)

noncomputable def F_ref15_far_c6 (round20 : Int) (l31 : (List Int)) : Option ((Int × (List Int)) ⊕ (List Int)) :=
  some (.inl ((w64 (round20 + 1)), l31))

noncomputable def F_ref15_far_l7 (s1 : TSpace) (round20 : Int) (l21 : (List Int)) : Option ((Int × (List Int)) ⊕ (List Int)) :=
  bif (decide (round20 < (l21.length : Int))) then
  (loopM (fun st => F_ref15_far_l5 s1 round20 st.1 st.2) (0, l21)).bind (fun q => F_ref15_far_c6 round20 q)
  else
  some (.inr l21)

noncomputable def F_ref15_far_c8 (l24 : (List Int)) : Option (List Int) :=
  some l24

noncomputable def F_ref15_far_c9 (k2 : Int) (s1 : TSpace) (l11 : (List Int)) : Option (List Int) :=
  bif ((decide (k2 < 0)) || (decide ((l11.length : Int) ≤ k2))) then
  some l11
  else
  (idx l11 k2).bind fun e18 =>
  (loopM (fun st => F_ref15_far_l7 s1 st.1 st.2) (0, (l11.set k2.toNat 0))).bind (fun q => F_ref15_far_c8 q)

noncomputable def F_ref15_far (s1 : TSpace) (k2 : Int) : Option (List Int) :=
  (chk (decide (0 ≤ (s1.States.length : Int)) && decide ((s1.States.length : Int) ≤ (s1.States.length : Int)) && decide ((s1.States.length : Int) ≤ 4294967296))).bind fun _ =>
  (loopM (fun st => F_ref15_far_l1 st.1 st.2) (0, (List.replicate (s1.States.length : Int).toNat (0 : Int)))).bind (fun q => F_ref15_far_c9 k2 s1 q)

set_option maxRecDepth 100000 in
set_option maxHeartbeats 4000000 in
theorem F_ref15_far_ok (s1 : TSpace) (k2 : Int) {r : (List Int)} (h : F_ref15_far s1 k2 = some r) : ACalls Tryz.prog 27 [.agg (row_TSpace s1), .i .i64 k2] [] (Gives (.own 30000 r.length) [(30000, .arr 1 (r.map row_I))]) := by
  refine ACalls.walk 99 Tryz.func27 rfl Tryz.ntmps27 rfl fun C hC => ?_
  unfold F_ref15_far at h
  obtain ⟨_, hk5, h⟩ := bindE h
  replace hk5 := chkE hk5
  refine AK.go tab_ok hC [.n 10, .o (.ln s1.States.length), .o (.rows ((List.replicate (s1.States.length : Int).toNat (0 : Int)).map row_I)), .say 13 (.own 13 (List.replicate (s1.States.length : Int).toNat (0 : Int)).length), .n 10, .keep [1, 2, 5, 6] [2, 13]] rfl ⟨⟨⟨trivial, mapLen⟩, ⟨hk5, mapRep rfl⟩⟩, (by simp)⟩ ?_
  obtain ⟨l11, hl14, h⟩ := bindE h
  refine AK.loop (body := (fun st => F_ref15_far_l1 st.1 st.2)) (fun st σ => σ = ⟨[(1, .i .i64 k2), (2, .loc 2 0 0), (5, .own 13 st.2.length), (6, .i .i64 st.1)], [(2, .var (row_TSpace s1)), (13, .arr 1 (st.2.map row_I))]⟩) (fun q e σ => e = .exit 0 ∧ σ = ⟨[(1, .i .i64 k2), (2, .loc 2 0 0), (5, .own 13 q.length)], [(2, .var (row_TSpace s1)), (13, .arr 1 (q.map row_I))]⟩) hl14 rfl ?_ ?_
  · rintro ⟨i7, l8⟩ o σ rfl h
    replace h : F_ref15_far_l1 i7 l8 = some o := h
    unfold F_ref15_far_l1 at h
    refine AK.go tab_ok hC [.n 9] rfl trivial ?_
    rcases bifE h with ⟨hc12, h⟩ | ⟨hc12, h⟩
    · obtain ⟨e13, he13, h⟩ := bindE h
      refine AK.go tab_ok hC [.br true, .n 8, .st (row_I e13) ((l8.set i7.toNat (-1)).map row_I), .n 8, .say 5 (.own 13 (l8.set i7.toNat (-1)).length), .keep [1, 2, 5, 6] [2, 13]] rfl ⟨⟨⟨⟨trivial, hc12⟩, (idxOw he13 rfl)⟩, ⟨(mapGet (idxE he13).2), mapSet rfl⟩⟩, (congrArg (fun n => V.own 13 n) (by simp))⟩ ?_
      obtain rfl := Option.some.inj h
      exact rndN rfl rfl
    · refine AK.go tab_ok hC [.br false, .n 2, .keep [1, 2, 5] [2, 13]] rfl ⟨trivial, hc12⟩ ?_
      obtain rfl := Option.some.inj h
      exact rndX rfl (And.intro rfl rfl)
  · replace h : F_ref15_far_c9 k2 s1 l11 = some r := h
    unfold F_ref15_far_c9 at h
    rintro e σ ⟨rfl, rfl⟩
    refine AK.go tab_ok hC [.n 4] rfl trivial ?_
    refine AK.meetX (fun σ => σ = ⟨[(1, .i .i64 k2), (2, .loc 2 0 0), (5, .own 13 l11.length), (30, .b ((decide (k2 < 0)) || (decide ((l11.length : Int) ≤ k2))))], [(2, .var (row_TSpace s1)), (13, .arr 1 (l11.map row_I))]⟩) ?_ ?_
    · refine AK.go tab_ok hC [.n 4] rfl trivial ?_
      rcases boolOr (decide (k2 < 0)) with hc16 | hc16
      · refine AK.go tab_ok hC [.say 25 (.b true), .n 6, .say 30 (.b ((decide (k2 < 0)) || (decide ((l11.length : Int) ≤ k2)))), .keep [1, 2, 5, 30] [2, 13]] rfl ⟨⟨trivial, (congrArg V.b hc16)⟩, (congrArg V.b (orT hc16 rfl))⟩ ?_
        exact AK.met rfl
      · refine AK.go tab_ok hC [.say 25 (.b false), .n 6, .say 30 (.b ((decide (k2 < 0)) || (decide ((l11.length : Int) ≤ k2)))), .keep [1, 2, 5, 30] [2, 13]] rfl ⟨⟨trivial, (congrArg V.b hc16)⟩, (congrArg V.b (orF hc16 rfl))⟩ ?_
        exact AK.met rfl
    · rintro σ rfl
      refine AK.go tab_ok hC [.n 1] rfl trivial ?_
      rcases bifE h with ⟨hc17, h⟩ | ⟨hc17, h⟩
      · refine AK.go tab_ok hC [.br true, .n 8, .keep [4] [13], .ren 13 30000, .keep [4] [30000]] rfl ⟨trivial, hc17⟩ ?_
        obtain rfl := Option.some.inj h
        refine AK.done ?_
        exact Exists.intro [_] (And.intro (And.intro rfl trivial) (gives ⟨rfl, trivial⟩))
      · obtain ⟨e18, he18, h⟩ := bindE h
        refine AK.go tab_ok hC [.br false, .n 7, .st (row_I e18) ((l11.set k2.toNat 0).map row_I), .n 9, .say 5 (.own 13 (l11.set k2.toNat 0).length), .keep [2, 5, 7] [2, 13]] rfl ⟨⟨⟨⟨trivial, hc17⟩, (idxOw he18 rfl)⟩, ⟨(mapGet (idxE he18).2), mapSet rfl⟩⟩, (congrArg (fun n => V.own 13 n) (by simp))⟩ ?_
        obtain ⟨l24, hl47, h⟩ := bindE h
        refine AK.loop (body := (fun st => F_ref15_far_l7 s1 st.1 st.2)) (fun st σ => σ = ⟨[(2, .loc 2 0 0), (5, .own 13 st.2.length), (7, .i .i64 st.1)], [(2, .var (row_TSpace s1)), (13, .arr 1 (st.2.map row_I))]⟩) (fun q e σ => e = .exit 2 ∧ σ = ⟨[(5, .own 13 q.length)], [(13, .arr 1 (q.map row_I))]⟩) hl47 rfl ?_ ?_
        · rintro ⟨round20, l21⟩ o σ rfl h
          replace h : F_ref15_far_l7 s1 round20 l21 = some o := h
          unfold F_ref15_far_l7 at h
          refine AK.go tab_ok hC [.n 9] rfl trivial ?_
          rcases bifE h with ⟨hc25, h⟩ | ⟨hc25, h⟩
          · refine AK.go tab_ok hC [.br true, .n 10, .keep [2, 5, 7, 8] [2, 13]] rfl ⟨trivial, hc25⟩ ?_
            obtain ⟨l31, hl46, h⟩ := bindE h
            refine AK.loop (body := (fun st => F_ref15_far_l5 s1 round20 st.1 st.2)) (fun st σ => σ = ⟨[(2, .loc 2 0 0), (5, .own 13 st.2.length), (7, .i .i64 round20), (8, .i .i64 st.1)], [(2, .var (row_TSpace s1)), (13, .arr 1 (st.2.map row_I))]⟩) (fun q e σ => e = .exit 4 ∧ σ = ⟨[(2, .loc 2 0 0), (5, .own 13 q.length), (7, .i .i64 round20)], [(2, .var (row_TSpace s1)), (13, .arr 1 (q.map row_I))]⟩) hl46 rfl ?_ ?_
            · rintro ⟨i27, l28⟩ o σ rfl h
              replace h : F_ref15_far_l5 s1 round20 i27 l28 = some o := h
              unfold F_ref15_far_l5 at h
              refine AK.go tab_ok hC [.n 6, .o (.ln s1.Edges.length), .n 3] rfl ⟨trivial, mapLen⟩ ?_
              rcases bifE h with ⟨hc32, h⟩ | ⟨hc32, h⟩
              · refine AK.go tab_ok hC [.br true, .n 2] rfl ⟨trivial, hc32⟩ ?_
                refine AK.meet (fun σ => ∃ l33 : (List Int), σ = ⟨[(2, .loc 2 0 0), (5, .own 13 l33.length), (7, .i .i64 round20), (8, .i .i64 i27)], [(2, .var (row_TSpace s1)), (13, .arr 1 (l33.map row_I))]⟩ ∧ F_ref15_far_k2 i27 l33 = some o) ?_ ?_
                · obtain ⟨e34, he34, h⟩ := bindE h
                  refine AK.go tab_ok hC [.n 6, .o (.row (row_TEdge e34)), .v .no [] (.agg (row_TEdge e34)), .n 2, .sayO 9 (.var (row_TEdge e34)), .n 4] rfl ⟨⟨⟨trivial, (idxM he34)⟩, rfl⟩, rfl⟩ ?_
                  obtain ⟨x35, hv36, h⟩ := bindE h
                  replace h : F_ref15_far_k4 i27 l28 e34 round20 x35 = some o := h
                  refine AK.meetX (fun σ => σ = ⟨[(2, .loc 2 0 0), (5, .own 13 l28.length), (7, .i .i64 round20), (8, .i .i64 i27), (9, .loc 9 0 0), (91, .b x35)], [(2, .var (row_TSpace s1)), (9, .var (row_TEdge e34)), (13, .arr 1 (l28.map row_I))]⟩) ?_ ?_
                  · replace h := hv36
                    unfold F_ref15_far_g3 at h
                    refine AK.go tab_ok hC [.n 5] rfl trivial ?_
                    rcases bifE h with ⟨hc37, h⟩ | ⟨hc37, h⟩
                    · refine AK.go tab_ok hC [.say 56 (.b true), .n 36, .keep [2, 5, 7, 8, 9, 91] [2, 9, 13]] rfl ⟨trivial, (congrArg V.b hc37)⟩ ?_
                      obtain rfl := Option.some.inj h
                      exact AK.met rfl
                    · refine AK.go tab_ok hC [.say 56 (.b false), .n 7] rfl ⟨trivial, (congrArg V.b hc37)⟩ ?_
                      rcases bifE h with ⟨hc38, h⟩ | ⟨hc38, h⟩
                      · refine AK.go tab_ok hC [.say 63 (.b true), .n 29, .keep [2, 5, 7, 8, 9, 91] [2, 9, 13]] rfl ⟨trivial, (congrArg V.b hc38)⟩ ?_
                        obtain rfl := Option.some.inj h
                        exact AK.met rfl
                      · refine AK.go tab_ok hC [.say 63 (.b false), .n 5] rfl ⟨trivial, (congrArg V.b hc38)⟩ ?_
                        rcases bifE h with ⟨hc39, h⟩ | ⟨hc39, h⟩
                        · refine AK.go tab_ok hC [.say 68 (.b true), .n 24, .keep [2, 5, 7, 8, 9, 91] [2, 9, 13]] rfl ⟨trivial, (congrArg V.b hc39)⟩ ?_
                          obtain rfl := Option.some.inj h
                          exact AK.met rfl
                        · refine AK.go tab_ok hC [.say 68 (.b false), .n 7] rfl ⟨trivial, (congrArg V.b hc39)⟩ ?_
                          rcases bifE h with ⟨hc40, h⟩ | ⟨hc40, h⟩
                          · refine AK.go tab_ok hC [.say 75 (.b true), .n 17, .keep [2, 5, 7, 8, 9, 91] [2, 9, 13]] rfl ⟨trivial, (congrArg V.b hc40)⟩ ?_
                            obtain rfl := Option.some.inj h
                            exact AK.met rfl
                          · obtain ⟨e41, he41, h⟩ := bindE h
                            refine AK.go tab_ok hC [.say 75 (.b false), .n 4, .o (.row (row_I e41)), .n 4] rfl ⟨⟨⟨trivial, (congrArg V.b hc40)⟩, (idxOw he41 rfl)⟩, (mapGet (idxE he41).2)⟩ ?_
                            rcases bifE h with ⟨hc42, h⟩ | ⟨hc42, h⟩
                            · refine AK.go tab_ok hC [.say 84 (.b true), .n 8, .keep [2, 5, 7, 8, 9, 91] [2, 9, 13]] rfl ⟨trivial, (congrArg V.b hc42)⟩ ?_
                              obtain rfl := Option.some.inj h
                              exact AK.met rfl
                            · obtain ⟨e43, he43, h⟩ := bindE h
                              refine AK.go tab_ok hC [.say 84 (.b false), .n 4, .o (.row (row_I e43)), .n 3, .keep [2, 5, 7, 8, 9, 91] [2, 9, 13]] rfl ⟨⟨⟨trivial, (congrArg V.b hc42)⟩, (idxOw he43 rfl)⟩, (mapGet (idxE he43).2)⟩ ?_
                              obtain rfl := Option.some.inj h
                              exact AK.met rfl
                  · rintro σ rfl
                    replace h : F_ref15_far_k4 i27 l28 e34 round20 x35 = some o := h
                    unfold F_ref15_far_k4 at h
                    refine AK.go tab_ok hC [.n 1] rfl trivial ?_
                    rcases bifE h with ⟨hc44, h⟩ | ⟨hc44, h⟩
                    · refine AK.go tab_ok hC [.br true, .n 3, .keep [2, 5, 7, 8] [2, 13]] rfl ⟨trivial, hc44⟩ ?_
                      exact AK.met (Exists.intro _ (And.intro rfl h))
                    · obtain ⟨e45, he45, h⟩ := bindE h
                      refine AK.go tab_ok hC [.br false, .n 9, .st (row_I e45) ((l28.set e34.From.toNat (w64 (round20 + 1))).map row_I), .n 2, .say 5 (.own 13 (l28.set e34.From.toNat (w64 (round20 + 1))).length), .keep [2, 5, 7, 8] [2, 13]] rfl ⟨⟨⟨⟨trivial, hc44⟩, (idxOw he45 rfl)⟩, ⟨(mapGet (idxE he45).2), mapSet rfl⟩⟩, (congrArg (fun n => V.own 13 n) (by simp))⟩ ?_
                      exact AK.met (Exists.intro _ (And.intro rfl h))
                · rintro σ ⟨l33, rfl, h⟩
                  unfold F_ref15_far_k2 at h
                  refine AK.go tab_ok hC [.n 5, .keep [2, 5, 7, 8] [2, 13]] rfl trivial ?_
                  obtain rfl := Option.some.inj h
                  exact rndN rfl rfl
              · refine AK.go tab_ok hC [.br false, .n 2, .keep [2, 5, 7] [2, 13]] rfl ⟨trivial, hc32⟩ ?_
                obtain rfl := Option.some.inj h
                exact rndX rfl (And.intro rfl rfl)
            · replace h : F_ref15_far_c6 round20 l31 = some o := h
              unfold F_ref15_far_c6 at h
              rintro e σ ⟨rfl, rfl⟩
              refine AK.go tab_ok hC [.n 8, .keep [2, 5, 7] [2, 13]] rfl trivial ?_
              obtain rfl := Option.some.inj h
              exact rndN rfl rfl
          · refine AK.go tab_ok hC [.br false, .n 2, .keep [5] [13]] rfl ⟨trivial, hc25⟩ ?_
            obtain rfl := Option.some.inj h
            exact rndX rfl (And.intro rfl rfl)
        · replace h : F_ref15_far_c8 l24 = some r := h
          unfold F_ref15_far_c8 at h
          rintro e σ ⟨rfl, rfl⟩
          refine AK.go tab_ok hC [.n 9, .keep [4] [13], .ren 13 30000, .keep [4] [30000]] rfl trivial ?_
          obtain rfl := Option.some.inj h
          refine AK.done ?_
          exact Exists.intro [_] (And.intro (And.intro rfl trivial) (gives ⟨rfl, trivial⟩))

-- 14 baldric/baldricref15.Path
noncomputable def F_ref15_Path_g1 (x5 : (List Int)) : Option Bool :=
  bif ((x5.length : Int) == 0) then
  some true
  else
  (idx x5 0).bind fun e9 =>
  some (decide (e9 < 0))

noncomputable def F_ref15_Path_k2 (i21 : Int) (next_28 : Int) : Option ((Int × Int) ⊕ Int) :=
  some (.inl (next_28, (w64 (i21 + 1))))

noncomputable def F_ref15_Path_g3 (e30 : TEdge) (x5 : (List Int)) (at_12 : Int) : Option Bool :=
  bif (decide (0 ≤ e30.To)) then
  bif (decide (e30.To < (x5.length : Int))) then
  (idx x5 e30.To).bind fun e35 =>
  (idx x5 at_12).bind fun e36 =>
  some (e35 == (w64 (e36 - 1)))
  else
  some false
  else
  some false

noncomputable def F_ref15_Path_k4 (x19 : (List Int)) (i21 : Int) (next_20 : Int) (x31 : Bool) : Option ((Int × Int) ⊕ Int) :=
  bif x31 then
  (idx x19 i21).bind fun e38 =>
  F_ref15_Path_k2 i21 e38
  else
  F_ref15_Path_k2 i21 next_20

noncomputable def F_ref15_Path_l5 (x19 : (List Int)) (s1 : TSpace) (x5 : (List Int)) (at_12 : Int) (next_20 : Int) (i21 : Int) : Option ((Int × Int) ⊕ Int) :=
  bif ((decide (i21 < (x19.length : Int))) && (decide (next_20 < 0))) then
  (idx x19 i21).bind fun e29 =>
  (idx s1.Edges e29).bind fun e30 =>
  (F_ref15_Path_g3 e30 x5 at_12).bind (fun x31 => F_ref15_Path_k4 x19 i21 next_20 x31)
  else
  some (.inr next_20)

noncomputable def F_ref15_Path_c6 (s1 : TSpace) (l13 : (List TMode)) (next_24 : Int) : Option ((Int × (List TMode)) ⊕ (Unit ⊕ (List TMode))) :=
  bif (decide (next_24 < 0)) then
  some (.inr (.inl ()))
  else
  (idx s1.Edges next_24).bind fun e41 =>
  (chk (decide (l13.length + ([e41.Mode] : List TMode).length ≤ 4294967296))).bind fun _ =>
  (idx s1.Edges next_24).bind fun e43 =>
  some (.inl (e43.To, (l13 ++ ([e41.Mode] : List TMode))))

noncomputable def F_ref15_Path_l7 (x5 : (List Int)) (s1 : TSpace) (at_12 : Int) (l13 : (List TMode)) : Option ((Int × (List TMode)) ⊕ (Unit ⊕ (List TMode))) :=
  (idx x5 at_12).bind fun e17 =>
  bif (decide (0 < e17)) then
  (F_ref15_Out s1 at_12).bind fun x19 =>
  (loopM (fun st => F_ref15_Path_l5 x19 s1 x5 at_12 st.1 st.2) ((-1), 0)).bind (fun q => F_ref15_Path_c6 s1 l13 q)
  else
  some (.inr (.inr l13))

noncomputable def F_ref15_Path_c8 : Option (List TMode) :=
  some ([] : List TMode)

noncomputable def F_ref15_Path_c9 (l16 : (List TMode)) : Option (List TMode) :=
  some l16

noncomputable def F_ref15_Path_k10 (x5 : (List Int)) (s1 : TSpace) (x6 : Bool) : Option (List TMode) :=
  bif x6 then
  some ([] : List TMode)
  else
  (loopM (fun st => F_ref15_Path_l7 x5 s1 st.1 st.2) (0, ([] : List TMode))).bind (Sum.elim (fun q => F_ref15_Path_c8) (fun q => F_ref15_Path_c9 q))

noncomputable def F_ref15_Path (s1 : TSpace) (k2 : Int) : Option (List TMode) :=
  (F_ref15_far s1 k2).bind fun x5 =>
  (F_ref15_Path_g1 x5).bind (fun x6 => F_ref15_Path_k10 x5 s1 x6)

set_option maxRecDepth 100000 in
set_option maxHeartbeats 4000000 in
theorem F_ref15_Path_ok (s1 : TSpace) (k2 : Int) {r : (List TMode)} (h : F_ref15_Path s1 k2 = some r) : ACalls Tryz.prog 14 [.agg (row_TSpace s1), .i .i64 k2] [] (Gives (.own 30000 r.length) [(30000, .arr 4 (r.map row_TMode))]) := by
  refine ACalls.walk 95 Tryz.func14 rfl Tryz.ntmps14 rfl fun C hC => ?_
  unfold F_ref15_Path at h
  obtain ⟨x5, hx5, h⟩ := bindE h
  refine AK.go tab_ok hC [.n 8, .v .no [] (.agg (row_TSpace s1)), .n 1, .o (.co false [.d, .d] 1 (x5.map row_I) x5.length), .n 5] rfl ⟨⟨trivial, rfl⟩, ⟨(F_ref15_far_ok _ _ hx5), mapLen, .inl rfl⟩⟩ ?_
  obtain ⟨x6, hv7, h⟩ := bindE h
  replace h : F_ref15_Path_k10 x5 s1 x6 = some r := h
  refine AK.meetX (fun σ => σ = ⟨[(2, .loc 2 0 0), (5, .own 14 x5.length), (23, .b x6)], [(2, .var (row_TSpace s1)), (14, .arr 1 (x5.map row_I))]⟩) ?_ ?_
  · replace h := hv7
    unfold F_ref15_Path_g1 at h
    refine AK.go tab_ok hC [.n 5] rfl trivial ?_
    rcases bifE h with ⟨hc8, h⟩ | ⟨hc8, h⟩
    · refine AK.go tab_ok hC [.say 18 (.b true), .n 6, .keep [2, 5, 23] [2, 14]] rfl ⟨trivial, (congrArg V.b hc8)⟩ ?_
      obtain rfl := Option.some.inj h
      exact AK.met rfl
    · obtain ⟨e9, he9, h⟩ := bindE h
      refine AK.go tab_ok hC [.say 18 (.b false), .n 2, .o (.row (row_I e9)), .n 3, .keep [2, 5, 23] [2, 14]] rfl ⟨⟨⟨trivial, (congrArg V.b hc8)⟩, (idxOw he9 rfl)⟩, (mapGet (idxE he9).2)⟩ ?_
      obtain rfl := Option.some.inj h
      exact AK.met rfl
  · rintro σ rfl
    replace h : F_ref15_Path_k10 x5 s1 x6 = some r := h
    unfold F_ref15_Path_k10 at h
    refine AK.go tab_ok hC [.n 1] rfl trivial ?_
    rcases bifE h with ⟨hc10, h⟩ | ⟨hc10, h⟩
    · refine AK.go tab_ok hC [.br true, .n 7, .adopt 4 30000 4, .sayO 30000 (.arr 4 (([] : List TMode).map row_TMode)), .say 4 (.own 30000 ([] : List TMode).length), .keep [4] [30000]] rfl ⟨⟨⟨trivial, hc10⟩, rfl⟩, rfl⟩ ?_
      obtain rfl := Option.some.inj h
      refine AK.done ?_
      exact Exists.intro [_] (And.intro (And.intro rfl trivial) (gives ⟨rfl, trivial⟩))
    · refine AK.go tab_ok hC [.br false, .n 14, .adopt 6 79 4, .sayO 79 (.arr 4 (([] : List TMode).map row_TMode)), .say 6 (.own 79 ([] : List TMode).length), .keep [2, 5, 6, 7] [2, 14, 79]] rfl ⟨⟨⟨trivial, hc10⟩, rfl⟩, (congrArg (fun n => V.own 79 n) (by simp))⟩ ?_
      obtain ⟨o44, hl44, h⟩ := bindE h
      refine AK.loop (body := (fun st => F_ref15_Path_l7 x5 s1 st.1 st.2)) (fun st σ => σ = ⟨[(2, .loc 2 0 0), (5, .own 14 x5.length), (6, .own 79 st.2.length), (7, .i .i64 st.1)], [(2, .var (row_TSpace s1)), (14, .arr 1 (x5.map row_I)), (79, .arr 4 (st.2.map row_TMode))]⟩) (Sum.elim (fun q e σ => e = .ret ∧ σ = ⟨[(4, .lit (.slice none 0 0))], []⟩) (fun q e σ => e = .exit 0 ∧ σ = ⟨[(6, .own 79 q.length)], [(79, .arr 4 (q.map row_TMode))]⟩)) hl44 rfl ?_ ?_
      · rintro ⟨at_12, l13⟩ o σ rfl h
        replace h : F_ref15_Path_l7 x5 s1 at_12 l13 = some o := h
        unfold F_ref15_Path_l7 at h
        obtain ⟨e17, he17, h⟩ := bindE h
        refine AK.go tab_ok hC [.n 6, .o (.row (row_I e17)), .n 3] rfl ⟨⟨trivial, (idxOw he17 rfl)⟩, (mapGet (idxE he17).2)⟩ ?_
        rcases bifE h with ⟨hc18, h⟩ | ⟨hc18, h⟩
        · obtain ⟨x19, hx19, h⟩ := bindE h
          refine AK.go tab_ok hC [.br true, .n 5, .v .no [] (.agg (row_TSpace s1)), .n 1, .o (.co false [.d, .d] 1 (x19.map row_I) x19.length), .n 15, .keep [2, 5, 6, 7, 8, 9, 10] [2, 14, 31, 79]] rfl ⟨⟨⟨trivial, hc18⟩, rfl⟩, ⟨(F_ref15_Out_ok _ _ hx19), mapLen, .inl rfl⟩⟩ ?_
          obtain ⟨next_24, hl39, h⟩ := bindE h
          refine AK.loop (body := (fun st => F_ref15_Path_l5 x19 s1 x5 at_12 st.1 st.2)) (fun st σ => σ = ⟨[(2, .loc 2 0 0), (5, .own 14 x5.length), (6, .own 79 l13.length), (7, .i .i64 at_12), (8, .own 31 x19.length), (9, .i .i64 st.1), (10, .i .i64 st.2)], [(2, .var (row_TSpace s1)), (14, .arr 1 (x5.map row_I)), (31, .arr 1 (x19.map row_I)), (79, .arr 4 (l13.map row_TMode))]⟩) (fun q e σ => e = .exit 2 ∧ σ = ⟨[(2, .loc 2 0 0), (5, .own 14 x5.length), (6, .own 79 l13.length), (9, .i .i64 q)], [(2, .var (row_TSpace s1)), (14, .arr 1 (x5.map row_I)), (79, .arr 4 (l13.map row_TMode))]⟩) hl39 rfl ?_ ?_
          · rintro ⟨next_20, i21⟩ o σ rfl h
            replace h : F_ref15_Path_l5 x19 s1 x5 at_12 next_20 i21 = some o := h
            unfold F_ref15_Path_l5 at h
            refine AK.go tab_ok hC [.n 2] rfl trivial ?_
            refine AK.meetX (fun σ => σ = ⟨[(2, .loc 2 0 0), (5, .own 14 x5.length), (6, .own 79 l13.length), (7, .i .i64 at_12), (8, .own 31 x19.length), (9, .i .i64 next_20), (10, .i .i64 i21), (39, .b ((decide (i21 < (x19.length : Int))) && (decide (next_20 < 0))))], [(2, .var (row_TSpace s1)), (14, .arr 1 (x5.map row_I)), (31, .arr 1 (x19.map row_I)), (79, .arr 4 (l13.map row_TMode))]⟩) ?_ ?_
            · refine AK.go tab_ok hC [.n 6] rfl trivial ?_
              rcases boolOr (decide (i21 < (x19.length : Int))) with hc26 | hc26
              · refine AK.go tab_ok hC [.say 36 (.b true), .n 4, .say 39 (.b ((decide (i21 < (x19.length : Int))) && (decide (next_20 < 0)))), .keep [2, 5, 6, 7, 8, 9, 10, 39] [2, 14, 31, 79]] rfl ⟨⟨trivial, (congrArg V.b hc26)⟩, (congrArg V.b (andT hc26 rfl))⟩ ?_
                exact AK.met rfl
              · refine AK.go tab_ok hC [.say 36 (.b false), .n 4, .say 39 (.b ((decide (i21 < (x19.length : Int))) && (decide (next_20 < 0)))), .keep [2, 5, 6, 7, 8, 9, 10, 39] [2, 14, 31, 79]] rfl ⟨⟨trivial, (congrArg V.b hc26)⟩, (congrArg V.b (andF hc26 rfl))⟩ ?_
                exact AK.met rfl
            · rintro σ rfl
              refine AK.go tab_ok hC [.n 1] rfl trivial ?_
              rcases bifE h with ⟨hc27, h⟩ | ⟨hc27, h⟩
              · refine AK.go tab_ok hC [.br true, .n 2] rfl ⟨trivial, hc27⟩ ?_
                refine AK.meet (fun σ => ∃ next_28 : Int, σ = ⟨[(2, .loc 2 0 0), (5, .own 14 x5.length), (6, .own 79 l13.length), (7, .i .i64 at_12), (8, .own 31 x19.length), (9, .i .i64 next_28), (10, .i .i64 i21)], [(2, .var (row_TSpace s1)), (14, .arr 1 (x5.map row_I)), (31, .arr 1 (x19.map row_I)), (79, .arr 4 (l13.map row_TMode))]⟩ ∧ F_ref15_Path_k2 i21 next_28 = some o) ?_ ?_
                · obtain ⟨e29, he29, h⟩ := bindE h
                  obtain ⟨e30, he30, h⟩ := bindE h
                  refine AK.go tab_ok hC [.n 2, .keep [2, 5, 6, 7, 8, 9, 10] [2, 14, 31, 79]] rfl trivial ?_
                  refine AK.draw2 tab_ok hC mixed [.a .no none false, .a .no none false, .a .no none false, .a .no none false, .a .no none false, .a (.row (row_I e29)) none false, .a (.row (row_TEdge e30)) none false, .a .no (some ([], .agg (row_TEdge e30))) false, .a .no none false, .m .s] [] [] [2, 5, 6, 7, 8, 9, 10, 11] [2, 11, 14, 31, 79] rfl rfl rfl ⟨⟨⟨⟨trivial, (idxOw he29 rfl)⟩, (mapGet (idxE he29).2)⟩, (idxM he30)⟩, rfl⟩ rfl (by kernel_rfl) rfl rfl rfl ?_
                  refine AK.go tab_ok hC [.sayO 11 (.var (row_TEdge e30)), .n 2] rfl ⟨trivial, rfl⟩ ?_
                  obtain ⟨x31, hv32, h⟩ := bindE h
                  replace h : F_ref15_Path_k4 x19 i21 next_20 x31 = some o := h
                  refine AK.meetX (fun σ => σ = ⟨[(2, .loc 2 0 0), (5, .own 14 x5.length), (6, .own 79 l13.length), (7, .i .i64 at_12), (8, .own 31 x19.length), (9, .i .i64 next_20), (10, .i .i64 i21), (72, .b x31)], [(2, .var (row_TSpace s1)), (14, .arr 1 (x5.map row_I)), (31, .arr 1 (x19.map row_I)), (79, .arr 4 (l13.map row_TMode))]⟩) ?_ ?_
                  · replace h := hv32
                    unfold F_ref15_Path_g3 at h
                    refine AK.go tab_ok hC [.keep [2, 5, 6, 7, 8, 9, 10, 11] [2, 11, 14, 31, 79]] rfl trivial ?_
                    rcases bifE h with ⟨hc33, h⟩ | ⟨hc33, h⟩
                    · rcases bifE h with ⟨hc34, h⟩ | ⟨hc34, h⟩
                      · obtain ⟨e35, he35, h⟩ := bindE h
                        obtain ⟨e36, he36, h⟩ := bindE h
                        refine AK.draw2 tab_ok hC mixed [.a .no none false, .a .no none false, .a .no none false, .a .no (some ([], .b true)) false, .a .no none false, .a .no none false, .a .no none false, .a .no none false, .a .no none false, .a .no none false, .a .no (some ([], .b true)) false, .a .no none false, .a .no none false, .a .no none false, .a .no none false, .a (.row (row_I e35)) none false, .a .no none false, .a .no none false, .a .no none false, .a (.row (row_I e36)) none false, .a .no none false, .a .no none false, .a .no none false] [] [] [2, 5, 6, 7, 8, 9, 10, 72] [2, 14, 31, 79] rfl rfl rfl ⟨⟨⟨⟨⟨⟨trivial, (congrArg V.b hc33)⟩, (congrArg V.b hc34)⟩, (idxOw he35 rfl)⟩, (mapGet (idxE he35).2)⟩, (idxOw he36 rfl)⟩, (mapGet (idxE he36).2)⟩ rfl (by kernel_rfl) rfl rfl rfl ?_
                        refine AK.go tab_ok hC [.keep [2, 5, 6, 7, 8, 9, 10, 72] [2, 14, 31, 79]] rfl trivial ?_
                        obtain rfl := Option.some.inj h
                        exact AK.met rfl
                      · refine AK.draw2 tab_ok hC mixed [.a .no none false, .a .no none false, .a .no none false, .a .no (some ([], .b true)) false, .a .no none false, .a .no none false, .a .no none false, .a .no none false, .a .no none false, .a .no none false, .a .no (some ([], .b false)) false, .a .no none false, .a .no none false, .a .no none false, .a .no none false, .a .no none false, .a .no none false, .a .no none false, .a .no none false, .a .no none false, .a .no none false, .a .no none false, .a .no none false] [] [] [2, 5, 6, 7, 8, 9, 10, 72] [2, 14, 31, 79] rfl rfl rfl ⟨⟨trivial, (congrArg V.b hc33)⟩, (congrArg V.b hc34)⟩ rfl (by kernel_rfl) rfl rfl rfl ?_
                        refine AK.go tab_ok hC [.keep [2, 5, 6, 7, 8, 9, 10, 72] [2, 14, 31, 79]] rfl trivial ?_
                        obtain rfl := Option.some.inj h
                        exact AK.met rfl
                    · refine AK.draw2 tab_ok hC mixed [.a .no none false, .a .no none false, .a .no none false, .a .no (some ([], .b false)) false, .a .no none false, .a .no none false, .a .no none false, .a .no none false, .a .no none false, .a .no none false, .a .no none false, .a .no none false, .a .no none false, .a .no none false, .a .no none false, .a .no none false, .a .no none false, .a .no none false, .a .no none false, .a .no none false, .a .no none false, .a .no none false, .a .no none false] [] [] [2, 5, 6, 7, 8, 9, 10, 72] [2, 14, 31, 79] rfl rfl rfl ⟨trivial, (congrArg V.b hc33)⟩ rfl (by kernel_rfl) rfl rfl rfl ?_
                      refine AK.go tab_ok hC [.keep [2, 5, 6, 7, 8, 9, 10, 72] [2, 14, 31, 79]] rfl trivial ?_
                      obtain rfl := Option.some.inj h
                      exact AK.met rfl
                  · rintro σ rfl
                    replace h : F_ref15_Path_k4 x19 i21 next_20 x31 = some o := h
                    unfold F_ref15_Path_k4 at h
                    refine AK.go tab_ok hC [.n 1] rfl trivial ?_
                    rcases bifE h with ⟨hc37, h⟩ | ⟨hc37, h⟩
                    · obtain ⟨e38, he38, h⟩ := bindE h
                      refine AK.go tab_ok hC [.br true, .n 4, .o (.row (row_I e38)), .n 3, .keep [2, 5, 6, 7, 8, 9, 10] [2, 14, 31, 79]] rfl ⟨⟨⟨trivial, hc37⟩, (idxOw he38 rfl)⟩, (mapGet (idxE he38).2)⟩ ?_
                      exact AK.met (Exists.intro _ (And.intro rfl h))
                    · refine AK.go tab_ok hC [.br false, .n 2, .keep [2, 5, 6, 7, 8, 9, 10] [2, 14, 31, 79]] rfl ⟨trivial, hc37⟩ ?_
                      exact AK.met (Exists.intro _ (And.intro rfl h))
                · rintro σ ⟨next_28, rfl, h⟩
                  unfold F_ref15_Path_k2 at h
                  refine AK.go tab_ok hC [.n 5, .keep [2, 5, 6, 7, 8, 9, 10] [2, 14, 31, 79]] rfl trivial ?_
                  obtain rfl := Option.some.inj h
                  exact rndN rfl rfl
              · refine AK.go tab_ok hC [.br false, .n 2, .keep [2, 5, 6, 9] [2, 14, 79]] rfl ⟨trivial, hc27⟩ ?_
                obtain rfl := Option.some.inj h
                exact rndX rfl (And.intro rfl rfl)
          · replace h : F_ref15_Path_c6 s1 l13 next_24 = some o := h
            unfold F_ref15_Path_c6 at h
            rintro e σ ⟨rfl, rfl⟩
            refine AK.go tab_ok hC [.n 9] rfl trivial ?_
            rcases bifE h with ⟨hc40, h⟩ | ⟨hc40, h⟩
            · refine AK.go tab_ok hC [.br true, .n 8, .keep [4] []] rfl ⟨trivial, hc40⟩ ?_
              obtain rfl := Option.some.inj h
              exact rndR rfl (And.intro rfl rfl)
            · obtain ⟨e41, he41, h⟩ := bindE h
              obtain ⟨_, hk42, h⟩ := bindE h
              replace hk42 := chkE hk42
              obtain ⟨e43, he43, h⟩ := bindE h
              refine AK.go tab_ok hC [.br false, .n 8, .o (.row (row_TEdge e41)), .n 1, .v .no [] (.agg (row_TMode e41.Mode)), .v (.bd []) [] (.sl 4 (([e41.Mode] : List TMode).map row_TMode)), .app ((l13 ++ ([e41.Mode] : List TMode)).map row_TMode) (l13 ++ ([e41.Mode] : List TMode)).length, .n 7, .o (.row (row_TEdge e43)), .n 5, .keep [2, 5, 6, 7] [2, 14, 79]] rfl ⟨⟨⟨⟨⟨⟨trivial, hc40⟩, (idxM he41)⟩, rfl⟩, rfl⟩, ⟨mapLen, appLim hk42 mapLen, mapApps, appLn mapLen⟩⟩, (idxM he43)⟩ ?_
              obtain rfl := Option.some.inj h
              exact rndN rfl rfl
        · refine AK.go tab_ok hC [.br false, .n 2, .keep [6] [79]] rfl ⟨trivial, hc18⟩ ?_
          obtain rfl := Option.some.inj h
          exact rndX rfl (And.intro rfl rfl)
      · rcases o44 with (_ | l16)
        · replace h : F_ref15_Path_c8 = some r := h
          unfold F_ref15_Path_c8 at h
          rintro e σ ⟨rfl, rfl⟩
          refine AK.go tab_ok hC [.n 2, .adopt 4 30000 4, .sayO 30000 (.arr 4 (([] : List TMode).map row_TMode)), .say 4 (.own 30000 ([] : List TMode).length), .keep [4] [30000]] rfl ⟨⟨trivial, rfl⟩, rfl⟩ ?_
          obtain rfl := Option.some.inj h
          refine AK.done ?_
          exact Exists.intro [_] (And.intro (And.intro rfl trivial) (gives ⟨rfl, trivial⟩))
        · replace h : F_ref15_Path_c9 l16 = some r := h
          unfold F_ref15_Path_c9 at h
          rintro e σ ⟨rfl, rfl⟩
          refine AK.go tab_ok hC [.n 9, .keep [4] [79], .ren 79 30000, .keep [4] [30000]] rfl trivial ?_
          obtain rfl := Option.some.inj h
          refine AK.done ?_
          exact Exists.intro [_] (And.intro (And.intro rfl trivial) (gives ⟨rfl, trivial⟩))

-- 23 baldric/baldricref10.Same
noncomputable def F_ref10_Same_g1 (a1 : TMode) (b2 : TMode) : Option Bool :=
  bif (a1.Task == b2.Task) then
  (F_ref03_Ints a1.Vars b2.Vars).bind fun x7 =>
  bif x7 then
  (F_ref03_Ints a1.Ins b2.Ins).bind fun x9 =>
  bif x9 then
  (F_ref03_Ints a1.Outs b2.Outs).bind fun x11 =>
  some x11
  else
  some false
  else
  some false
  else
  some false

noncomputable def F_ref10_Same_k2 (x4 : Bool) : Option Bool :=
  some x4

noncomputable def F_ref10_Same (a1 : TMode) (b2 : TMode) : Option Bool :=
  (F_ref10_Same_g1 a1 b2).bind (fun x4 => F_ref10_Same_k2 x4)

set_option maxRecDepth 100000 in
set_option maxHeartbeats 4000000 in
theorem F_ref10_Same_ok (a1 : TMode) (b2 : TMode) {r : Bool} (h : F_ref10_Same a1 b2 = some r) : ACalls Tryz.prog 23 [.agg (row_TMode a1), .agg (row_TMode b2)] [] (Gives (.b r) []) := by
  refine ACalls.walk 31 Tryz.func23 rfl Tryz.ntmps23 rfl fun C hC => ?_
  unfold F_ref10_Same at h
  refine AK.go tab_ok hC [.n 8] rfl trivial ?_
  obtain ⟨x4, hv5, h⟩ := bindE h
  replace h : F_ref10_Same_k2 x4 = some r := h
  refine AK.meetX (fun σ => σ = ⟨[(4, .b x4)], []⟩) ?_ ?_
  · replace h := hv5
    unfold F_ref10_Same_g1 at h
    refine AK.go tab_ok hC [.n 7] rfl trivial ?_
    rcases bifE h with ⟨hc6, h⟩ | ⟨hc6, h⟩
    · obtain ⟨x7, hx7, h⟩ := bindE h
      refine AK.go tab_ok hC [.say 10 (.b true), .n 4, .o (.c false [.d, .d] (.b x7)), .n 2] rfl ⟨⟨trivial, (congrArg V.b hc6)⟩, (F_ref03_Ints_ok _ _ hx7)⟩ ?_
      rcases bifE h with ⟨hc8, h⟩ | ⟨hc8, h⟩
      · obtain ⟨x9, hx9, h⟩ := bindE h
        refine AK.go tab_ok hC [.say 17 (.b true), .n 4, .o (.c false [.d, .d] (.b x9)), .n 2] rfl ⟨⟨trivial, (congrArg V.b hc8)⟩, (F_ref03_Ints_ok _ _ hx9)⟩ ?_
        rcases bifE h with ⟨hc10, h⟩ | ⟨hc10, h⟩
        · obtain ⟨x11, hx11, h⟩ := bindE h
          refine AK.go tab_ok hC [.say 24 (.b true), .n 4, .o (.c false [.d, .d] (.b x11)), .n 3, .keep [4] []] rfl ⟨⟨trivial, (congrArg V.b hc10)⟩, (F_ref03_Ints_ok _ _ hx11)⟩ ?_
          obtain rfl := Option.some.inj h
          exact AK.met rfl
        · refine AK.go tab_ok hC [.say 24 (.b false), .n 8, .keep [4] []] rfl ⟨trivial, (congrArg V.b hc10)⟩ ?_
          obtain rfl := Option.some.inj h
          exact AK.met rfl
      · refine AK.go tab_ok hC [.say 17 (.b false), .n 15, .keep [4] []] rfl ⟨trivial, (congrArg V.b hc8)⟩ ?_
        obtain rfl := Option.some.inj h
        exact AK.met rfl
    · refine AK.go tab_ok hC [.say 10 (.b false), .n 22, .keep [4] []] rfl ⟨trivial, (congrArg V.b hc6)⟩ ?_
      obtain rfl := Option.some.inj h
      exact AK.met rfl
  · rintro σ rfl
    replace h : F_ref10_Same_k2 x4 = some r := h
    unfold F_ref10_Same_k2 at h
    refine AK.go tab_ok hC [.n 2, .keep [4] []] rfl trivial ?_
    obtain rfl := Option.some.inj h
    refine AK.done ?_
    exact Exists.intro [_] (And.intro (And.intro rfl trivial) (gives trivial))

-- 12 baldric/baldricref10.Lists
noncomputable def F_ref10_Lists_l1 (a1 : (List TMode)) (b2 : (List TMode)) (i6 : Int) : Option (Int ⊕ (Unit ⊕ Unit)) :=
  bif (decide (i6 < (a1.length : Int))) then
  (idx a1 i6).bind fun e9 =>
  (idx b2 i6).bind fun e10 =>
  (F_ref10_Same e9 e10).bind fun x11 =>
  bif (!x11) then
  some (.inr (.inl ()))
  else
  some (.inl (w64 (i6 + 1)))
  else
  some (.inr (.inr ()))

noncomputable def F_ref10_Lists_c2 : Option Bool :=
  some false

noncomputable def F_ref10_Lists_c3 : Option Bool :=
  some true

noncomputable def F_ref10_Lists (a1 : (List TMode)) (b2 : (List TMode)) : Option Bool :=
  bif ((a1.length : Int) != (b2.length : Int)) then
  some false
  else
  (loopM (fun st => F_ref10_Lists_l1 a1 b2 st) 0).bind (Sum.elim (fun q => F_ref10_Lists_c2) (fun q => F_ref10_Lists_c3))

set_option maxRecDepth 100000 in
set_option maxHeartbeats 4000000 in
theorem F_ref10_Lists_ok (a1 : (List TMode)) (b2 : (List TMode)) {r : Bool} (h : F_ref10_Lists a1 b2 = some r) : ACalls Tryz.prog 12 [.sl 4 (a1.map row_TMode), .sl 4 (b2.map row_TMode)] [] (Gives (.b r) []) := by
  refine ACalls.walk 29 Tryz.func12 rfl Tryz.ntmps12 rfl fun C hC => ?_
  unfold F_ref10_Lists at h
  refine AK.go tab_ok hC [.n 9, .o (.ln a1.length), .n 1, .o (.ln b2.length), .n 3] rfl ⟨⟨trivial, mapLen⟩, mapLen⟩ ?_
  rcases bifE h with ⟨hc5, h⟩ | ⟨hc5, h⟩
  · refine AK.go tab_ok hC [.br true, .n 7, .keep [4] []] rfl ⟨trivial, hc5⟩ ?_
    obtain rfl := Option.some.inj h
    refine AK.done ?_
    exact Exists.intro [_] (And.intro (And.intro rfl trivial) (gives trivial))
  · refine AK.go tab_ok hC [.br false, .n 9, .keep [0, 1, 5] []] rfl ⟨trivial, hc5⟩ ?_
    obtain ⟨o13, hl13, h⟩ := bindE h
    refine AK.loop (body := (fun st => F_ref10_Lists_l1 a1 b2 st)) (fun st σ => σ = ⟨[(0, .sl 4 (a1.map row_TMode)), (1, .sl 4 (b2.map row_TMode)), (5, .i .i64 st)], []⟩) (Sum.elim (fun q e σ => e = .ret ∧ σ = ⟨[(4, .b false)], []⟩) (fun q e σ => e = .exit 0 ∧ σ = ⟨[], []⟩)) hl13 rfl ?_ ?_
    · rintro i6 o σ rfl h
      replace h : F_ref10_Lists_l1 a1 b2 i6 = some o := h
      unfold F_ref10_Lists_l1 at h
      refine AK.go tab_ok hC [.n 5, .o (.ln a1.length), .n 3] rfl ⟨trivial, mapLen⟩ ?_
      rcases bifE h with ⟨hc8, h⟩ | ⟨hc8, h⟩
      · obtain ⟨e9, he9, h⟩ := bindE h
        obtain ⟨e10, he10, h⟩ := bindE h
        obtain ⟨x11, hx11, h⟩ := bindE h
        refine AK.go tab_ok hC [.br true, .n 5, .keep [0, 1, 5] []] rfl ⟨trivial, hc8⟩ ?_
        refine AK.draw2 tab_ok hC mixed [.a .no none false, .a .no none false, .a (.row (row_TMode e9)) none false, .a .no (some ([], .agg (row_TMode e9))) false, .a .no none false, .a .no none false, .a (.row (row_TMode e10)) none false, .a .no (some ([], .agg (row_TMode e10))) false, .a (.c false [.d, .d] (.b x11)) none false, .a .no none false] [] [] [0, 1, 5, 6] [] rfl rfl rfl ⟨⟨⟨⟨⟨trivial, (idxM he9)⟩, rfl⟩, (idxM he10)⟩, rfl⟩, (F_ref10_Same_ok _ _ hx11)⟩ rfl (by kernel_rfl) rfl rfl rfl ?_
        refine AK.go tab_ok hC [.n 7] rfl trivial ?_
        rcases bifE h with ⟨hc12, h⟩ | ⟨hc12, h⟩
        · refine AK.go tab_ok hC [.br true, .n 8, .keep [4] []] rfl ⟨trivial, hc12⟩ ?_
          obtain rfl := Option.some.inj h
          exact rndR rfl (And.intro rfl rfl)
        · refine AK.go tab_ok hC [.br false, .n 8, .keep [0, 1, 5] []] rfl ⟨trivial, hc12⟩ ?_
          obtain rfl := Option.some.inj h
          exact rndN rfl rfl
      · refine AK.go tab_ok hC [.br false, .n 2, .keep [] []] rfl ⟨trivial, hc8⟩ ?_
        obtain rfl := Option.some.inj h
        exact rndX rfl (And.intro rfl rfl)
    · rcases o13 with (_ | _)
      · replace h : F_ref10_Lists_c2 = some r := h
        unfold F_ref10_Lists_c2 at h
        rintro e σ ⟨rfl, rfl⟩
        refine AK.go tab_ok hC [.n 2, .keep [4] []] rfl trivial ?_
        obtain rfl := Option.some.inj h
        refine AK.done ?_
        exact Exists.intro [_] (And.intro (And.intro rfl trivial) (gives trivial))
      · replace h : F_ref10_Lists_c3 = some r := h
        unfold F_ref10_Lists_c3 at h
        rintro e σ ⟨rfl, rfl⟩
        refine AK.go tab_ok hC [.n 8, .keep [4] []] rfl trivial ?_
        obtain rfl := Option.some.inj h
        refine AK.done ?_
        exact Exists.intro [_] (And.intro (And.intro rfl trivial) (gives trivial))

-- 3 baldric/baldriclaw15.SpaceAsks
noncomputable def F_law15_SpaceAsks_g1 (x6 : Bool) (s1 : TSpace) (m2 : (List (List (Int × Int)))) (k3 : Int) : Option Bool :=
  bif x6 then
  (F_space_Find s1 m2).bind fun x14 =>
  (F_ref15_Find s1 m2).bind fun x15 =>
  bif (x14 == x15) then
  (F_space_Out s1 k3).bind fun x17 =>
  (F_ref15_Out s1 k3).bind fun x18 =>
  (F_ref03_Ints x17 x18).bind fun x19 =>
  bif x19 then
  (F_space_Tasks s1).bind fun x21 =>
  (F_ref15_Tasks s1).bind fun x22 =>
  (F_ref03_Ints x21 x22).bind fun x23 =>
  bif x23 then
  (F_space_Path s1 k3).bind fun x25 =>
  (F_ref15_Path s1 k3).bind fun x26 =>
  (F_ref10_Lists x25 x26).bind fun x27 =>
  some x27
  else
  some false
  else
  some false
  else
  some false
  else
  some false

noncomputable def F_law15_SpaceAsks_k2 (x11 : Bool) : Option Bool :=
  some x11

noncomputable def F_law15_SpaceAsks (s1 : TSpace) (m2 : (List (List (Int × Int)))) (k3 : Int) : Option Bool :=
  (F_law15_small).bind fun x6 =>
  bif ((decide (40 < (s1.States.length : Int))) || ((decide (200 < (s1.Edges.length : Int))) || (decide (20 < (m2.length : Int))))) then
  some x6
  else
  (F_law15_SpaceAsks_g1 x6 s1 m2 k3).bind (fun x11 => F_law15_SpaceAsks_k2 x11)

set_option maxRecDepth 100000 in
set_option maxHeartbeats 4000000 in
theorem F_law15_SpaceAsks_ok (s1 : TSpace) (m2 : (List (List (Int × Int)))) (k3 : Int) {r : Bool} (h : F_law15_SpaceAsks s1 m2 k3 = some r) : ACalls Tryz.prog 3 [.agg (row_TSpace s1), .sl 1 (m2.map row_LA2I), .i .i64 k3] [] (Gives (.b r) []) := by
  refine ACalls.walk 60 Tryz.func3 rfl Tryz.ntmps3 rfl fun C hC => ?_
  unfold F_law15_SpaceAsks at h
  obtain ⟨x6, hx6, h⟩ := bindE h
  refine AK.go tab_ok hC [.n 8, .o (.c false [] (.b x6)), .n 5] rfl ⟨trivial, (F_law15_small_ok  hx6)⟩ ?_
  refine AK.meetX (fun σ => σ = ⟨[(1, .sl 1 (m2.map row_LA2I)), (2, .i .i64 k3), (3, .loc 3 0 0), (7, .b x6), (23, .b ((decide (40 < (s1.States.length : Int))) || ((decide (200 < (s1.Edges.length : Int))) || (decide (20 < (m2.length : Int))))))], [(3, .var (row_TSpace s1))]⟩) ?_ ?_
  · refine AK.go tab_ok hC [.n 3, .o (.ln s1.States.length), .n 2] rfl ⟨trivial, mapLen⟩ ?_
    rcases boolOr (decide (40 < (s1.States.length : Int))) with hc8 | hc8
    · refine AK.go tab_ok hC [.say 13 (.b true), .n 11, .say 23 (.b ((decide (40 < (s1.States.length : Int))) || ((decide (200 < (s1.Edges.length : Int))) || (decide (20 < (m2.length : Int)))))), .keep [1, 2, 3, 7, 23] [3]] rfl ⟨⟨trivial, (congrArg V.b hc8)⟩, (congrArg V.b (orT hc8 rfl))⟩ ?_
      exact AK.met rfl
    · refine AK.go tab_ok hC [.say 13 (.b false), .n 2, .o (.ln s1.Edges.length), .n 3] rfl ⟨⟨trivial, (congrArg V.b hc8)⟩, mapLen⟩ ?_
      rcases boolOr (decide (200 < (s1.Edges.length : Int))) with hc9 | hc9
      · refine AK.go tab_ok hC [.say 19 (.b true), .n 5, .say 23 (.b ((decide (40 < (s1.States.length : Int))) || ((decide (200 < (s1.Edges.length : Int))) || (decide (20 < (m2.length : Int)))))), .keep [1, 2, 3, 7, 23] [3]] rfl ⟨⟨trivial, (congrArg V.b hc9)⟩, (congrArg V.b (orF hc8 (orT hc9 rfl)))⟩ ?_
        exact AK.met rfl
      · refine AK.go tab_ok hC [.say 19 (.b false), .n 1, .o (.ln m2.length), .n 3, .say 23 (.b ((decide (40 < (s1.States.length : Int))) || ((decide (200 < (s1.Edges.length : Int))) || (decide (20 < (m2.length : Int)))))), .keep [1, 2, 3, 7, 23] [3]] rfl ⟨⟨⟨trivial, (congrArg V.b hc9)⟩, mapLen⟩, (congrArg V.b (orF hc8 (orF hc9 rfl)))⟩ ?_
        exact AK.met rfl
  · rintro σ rfl
    refine AK.go tab_ok hC [.n 1] rfl trivial ?_
    rcases bifE h with ⟨hc10, h⟩ | ⟨hc10, h⟩
    · refine AK.go tab_ok hC [.br true, .n 8, .keep [6] []] rfl ⟨trivial, hc10⟩ ?_
      obtain rfl := Option.some.inj h
      refine AK.done ?_
      exact Exists.intro [_] (And.intro (And.intro rfl trivial) (gives trivial))
    · refine AK.go tab_ok hC [.br false, .n 3] rfl ⟨trivial, hc10⟩ ?_
      obtain ⟨x11, hv12, h⟩ := bindE h
      replace h : F_law15_SpaceAsks_k2 x11 = some r := h
      refine AK.meetX (fun σ => σ = ⟨[(6, .b x11)], []⟩) ?_ ?_
      · replace h := hv12
        unfold F_law15_SpaceAsks_g1 at h
        refine AK.go tab_ok hC [.keep [1, 2, 3, 7] [3]] rfl trivial ?_
        rcases bifE h with ⟨hc13, h⟩ | ⟨hc13, h⟩
        · obtain ⟨x14, hx14, h⟩ := bindE h
          obtain ⟨x15, hx15, h⟩ := bindE h
          rcases bifE h with ⟨hc16, h⟩ | ⟨hc16, h⟩
          · obtain ⟨x17, hx17, h⟩ := bindE h
            obtain ⟨x18, hx18, h⟩ := bindE h
            obtain ⟨x19, hx19, h⟩ := bindE h
            rcases bifE h with ⟨hc20, h⟩ | ⟨hc20, h⟩
            · obtain ⟨x21, hx21, h⟩ := bindE h
              obtain ⟨x22, hx22, h⟩ := bindE h
              obtain ⟨x23, hx23, h⟩ := bindE h
              rcases bifE h with ⟨hc24, h⟩ | ⟨hc24, h⟩
              · obtain ⟨x25, hx25, h⟩ := bindE h
                obtain ⟨x26, hx26, h⟩ := bindE h
                obtain ⟨x27, hx27, h⟩ := bindE h
                refine AK.draw2 tab_ok hC mixed [.a .no none false, .a .no (some ([], .b true)) false, .a .no (some ([], .agg (row_TSpace s1))) false, .a .no none false, .a (.c false [.d, .d] (.i .i64 x14)) none false, .a .no (some ([], .agg (row_TSpace s1))) false, .a .no none false, .a (.c false [.d, .d] (.i .i64 x15)) none false, .a .no none false, .a .no none false, .a .no (some ([], .b true)) false, .a .no (some ([], .agg (row_TSpace s1))) false, .a .no none false, .a (.cd false [.d, .d] 1 (x17.map row_I) x17.length) none false, .a .no (some ([], .agg (row_TSpace s1))) false, .a .no none false, .a (.cd false [.d, .d] 1 (x18.map row_I) x18.length) none false, .a (.c false [.d, .d] (.b x19)) none false, .a .no none false, .a .no (some ([], .b true)) false, .a .no (some ([], .agg (row_TSpace s1))) false, .a (.cd false [.d] 1 (x21.map row_I) x21.length) none false, .a .no (some ([], .agg (row_TSpace s1))) false, .a (.cd false [.d] 1 (x22.map row_I) x22.length) none false, .a (.c false [.d, .d] (.b x23)) none false, .a .no none false, .a .no (some ([], .b true)) false, .a .no (some ([], .agg (row_TSpace s1))) false, .a .no none false, .a (.cd false [.d, .d] 4 (x25.map row_TMode) x25.length) none false, .a .no (some ([], .agg (row_TSpace s1))) false, .a .no none false, .a (.cd false [.d, .d] 4 (x26.map row_TMode) x26.length) none false, .a (.c false [.d, .d] (.b x27)) none false, .a .no none false, .a .no none false] [] [] [6] [] rfl rfl rfl ⟨⟨⟨⟨⟨⟨⟨⟨⟨⟨⟨⟨⟨⟨⟨⟨⟨⟨⟨⟨⟨⟨⟨trivial, (congrArg V.b hc13)⟩, rfl⟩, (F_space_Find_ok _ _ hx14)⟩, rfl⟩, (F_ref15_Find_ok _ _ hx15)⟩, (congrArg V.b hc16)⟩, rfl⟩, ⟨(F_space_Out_ok _ _ hx17), mapLen⟩⟩, rfl⟩, ⟨(F_ref15_Out_ok _ _ hx18), mapLen⟩⟩, (F_ref03_Ints_ok _ _ hx19)⟩, (congrArg V.b hc20)⟩, rfl⟩, ⟨(F_space_Tasks_ok _ hx21), mapLen⟩⟩, rfl⟩, ⟨(F_ref15_Tasks_ok _ hx22), mapLen⟩⟩, (F_ref03_Ints_ok _ _ hx23)⟩, (congrArg V.b hc24)⟩, rfl⟩, ⟨(F_space_Path_ok _ _ hx25), mapLen⟩⟩, rfl⟩, ⟨(F_ref15_Path_ok _ _ hx26), mapLen⟩⟩, (F_ref10_Lists_ok _ _ hx27)⟩ rfl (by kernel_rfl) rfl rfl rfl ?_
                refine AK.go tab_ok hC [.keep [6] []] rfl trivial ?_
                obtain rfl := Option.some.inj h
                exact AK.met rfl
              · refine AK.draw2 tab_ok hC mixed [.a .no none false, .a .no (some ([], .b true)) false, .a .no (some ([], .agg (row_TSpace s1))) false, .a .no none false, .a (.c false [.d, .d] (.i .i64 x14)) none false, .a .no (some ([], .agg (row_TSpace s1))) false, .a .no none false, .a (.c false [.d, .d] (.i .i64 x15)) none false, .a .no none false, .a .no none false, .a .no (some ([], .b true)) false, .a .no (some ([], .agg (row_TSpace s1))) false, .a .no none false, .a (.cd false [.d, .d] 1 (x17.map row_I) x17.length) none false, .a .no (some ([], .agg (row_TSpace s1))) false, .a .no none false, .a (.cd false [.d, .d] 1 (x18.map row_I) x18.length) none false, .a (.c false [.d, .d] (.b x19)) none false, .a .no none false, .a .no (some ([], .b true)) false, .a .no (some ([], .agg (row_TSpace s1))) false, .a (.cd false [.d] 1 (x21.map row_I) x21.length) none false, .a .no (some ([], .agg (row_TSpace s1))) false, .a (.cd false [.d] 1 (x22.map row_I) x22.length) none false, .a (.c false [.d, .d] (.b x23)) none false, .a .no none false, .a .no (some ([], .b false)) false, .a .no none false, .a .no none false, .a .no none false, .a .no none false, .a .no none false, .a .no none false, .a .no none false, .a .no none false, .a .no none false] [] [] [6] [] rfl rfl rfl ⟨⟨⟨⟨⟨⟨⟨⟨⟨⟨⟨⟨⟨⟨⟨⟨⟨⟨trivial, (congrArg V.b hc13)⟩, rfl⟩, (F_space_Find_ok _ _ hx14)⟩, rfl⟩, (F_ref15_Find_ok _ _ hx15)⟩, (congrArg V.b hc16)⟩, rfl⟩, ⟨(F_space_Out_ok _ _ hx17), mapLen⟩⟩, rfl⟩, ⟨(F_ref15_Out_ok _ _ hx18), mapLen⟩⟩, (F_ref03_Ints_ok _ _ hx19)⟩, (congrArg V.b hc20)⟩, rfl⟩, ⟨(F_space_Tasks_ok _ hx21), mapLen⟩⟩, rfl⟩, ⟨(F_ref15_Tasks_ok _ hx22), mapLen⟩⟩, (F_ref03_Ints_ok _ _ hx23)⟩, (congrArg V.b hc24)⟩ rfl (by kernel_rfl) rfl rfl rfl ?_
                refine AK.go tab_ok hC [.keep [6] []] rfl trivial ?_
                obtain rfl := Option.some.inj h
                exact AK.met rfl
            · refine AK.draw2 tab_ok hC mixed [.a .no none false, .a .no (some ([], .b true)) false, .a .no (some ([], .agg (row_TSpace s1))) false, .a .no none false, .a (.c false [.d, .d] (.i .i64 x14)) none false, .a .no (some ([], .agg (row_TSpace s1))) false, .a .no none false, .a (.c false [.d, .d] (.i .i64 x15)) none false, .a .no none false, .a .no none false, .a .no (some ([], .b true)) false, .a .no (some ([], .agg (row_TSpace s1))) false, .a .no none false, .a (.cd false [.d, .d] 1 (x17.map row_I) x17.length) none false, .a .no (some ([], .agg (row_TSpace s1))) false, .a .no none false, .a (.cd false [.d, .d] 1 (x18.map row_I) x18.length) none false, .a (.c false [.d, .d] (.b x19)) none false, .a .no none false, .a .no (some ([], .b false)) false, .a .no none false, .a .no none false, .a .no none false, .a .no none false, .a .no none false, .a .no none false, .a .no none false, .a .no none false, .a .no none false, .a .no none false, .a .no none false, .a .no none false, .a .no none false, .a .no none false, .a .no none false, .a .no none false] [] [] [6] [] rfl rfl rfl ⟨⟨⟨⟨⟨⟨⟨⟨⟨⟨⟨⟨trivial, (congrArg V.b hc13)⟩, rfl⟩, (F_space_Find_ok _ _ hx14)⟩, rfl⟩, (F_ref15_Find_ok _ _ hx15)⟩, (congrArg V.b hc16)⟩, rfl⟩, ⟨(F_space_Out_ok _ _ hx17), mapLen⟩⟩, rfl⟩, ⟨(F_ref15_Out_ok _ _ hx18), mapLen⟩⟩, (F_ref03_Ints_ok _ _ hx19)⟩, (congrArg V.b hc20)⟩ rfl (by kernel_rfl) rfl rfl rfl ?_
              refine AK.go tab_ok hC [.keep [6] []] rfl trivial ?_
              obtain rfl := Option.some.inj h
              exact AK.met rfl
          · refine AK.draw2 tab_ok hC mixed [.a .no none false, .a .no (some ([], .b true)) false, .a .no (some ([], .agg (row_TSpace s1))) false, .a .no none false, .a (.c false [.d, .d] (.i .i64 x14)) none false, .a .no (some ([], .agg (row_TSpace s1))) false, .a .no none false, .a (.c false [.d, .d] (.i .i64 x15)) none false, .a .no none false, .a .no none false, .a .no (some ([], .b false)) false, .a .no none false, .a .no none false, .a .no none false, .a .no none false, .a .no none false, .a .no none false, .a .no none false, .a .no none false, .a .no none false, .a .no none false, .a .no none false, .a .no none false, .a .no none false, .a .no none false, .a .no none false, .a .no none false, .a .no none false, .a .no none false, .a .no none false, .a .no none false, .a .no none false, .a .no none false, .a .no none false, .a .no none false, .a .no none false] [] [] [6] [] rfl rfl rfl ⟨⟨⟨⟨⟨⟨trivial, (congrArg V.b hc13)⟩, rfl⟩, (F_space_Find_ok _ _ hx14)⟩, rfl⟩, (F_ref15_Find_ok _ _ hx15)⟩, (congrArg V.b hc16)⟩ rfl (by kernel_rfl) rfl rfl rfl ?_
            refine AK.go tab_ok hC [.keep [6] []] rfl trivial ?_
            obtain rfl := Option.some.inj h
            exact AK.met rfl
        · refine AK.draw2 tab_ok hC mixed [.a .no none false, .a .no (some ([], .b false)) false, .a .no none false, .a .no none false, .a .no none false, .a .no none false, .a .no none false, .a .no none false, .a .no none false, .a .no none false, .a .no none false, .a .no none false, .a .no none false, .a .no none false, .a .no none false, .a .no none false, .a .no none false, .a .no none false, .a .no none false, .a .no none false, .a .no none false, .a .no none false, .a .no none false, .a .no none false, .a .no none false, .a .no none false, .a .no none false, .a .no none false, .a .no none false, .a .no none false, .a .no none false, .a .no none false, .a .no none false, .a .no none false, .a .no none false, .a .no none false] [] [] [6] [] rfl rfl rfl ⟨trivial, (congrArg V.b hc13)⟩ rfl (by kernel_rfl) rfl rfl rfl ?_
          refine AK.go tab_ok hC [.keep [6] []] rfl trivial ?_
          obtain rfl := Option.some.inj h
          exact AK.met rfl
      · rintro σ rfl
        replace h : F_law15_SpaceAsks_k2 x11 = some r := h
        unfold F_law15_SpaceAsks_k2 at h
        refine AK.go tab_ok hC [.n 2, .keep [6] []] rfl trivial ?_
        obtain rfl := Option.some.inj h
        refine AK.done ?_
        exact Exists.intro [_] (And.intro (And.intro rfl trivial) (gives trivial))


end Go.Proofs
