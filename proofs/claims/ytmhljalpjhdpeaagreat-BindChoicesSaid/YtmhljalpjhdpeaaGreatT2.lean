/- What functions of the program do, as functions over plain data, and the walks that show it: printed by a program. -/
import Derived.Test.YtmhljalpjhdpeaaGreatT1
set_option linter.unusedVariables false
set_option linter.unusedSimpArgs false
set_option linter.unusedSectionVars false
set_option linter.deprecated false
noncomputable section
namespace Go.Proofs
open Go Go.RowKit Go.Vm
-- 51 baldric/bag.both
noncomputable def F_bag_both_a1 (a11 : Unit) : Option (Unit ⊕ ((List (Int × Int)) ⊕ ((List (Int × Int)) ⊕ ((List (Int × Int)) × (List (Int × Int)))))) :=
  some (.inl ())

noncomputable def F_bag_both_a2 (a12 : (List (Int × Int))) : Option (Unit ⊕ ((List (Int × Int)) ⊕ ((List (Int × Int)) ⊕ ((List (Int × Int)) × (List (Int × Int)))))) :=
  some (.inr (.inl a12))

noncomputable def F_bag_both_a3 (b2 : (List (Int × Int))) (a8 : Unit) : Option (Unit ⊕ ((List (Int × Int)) ⊕ ((List (Int × Int)) ⊕ ((List (Int × Int)) × (List (Int × Int)))))) :=
  (F_bag_of b2).bind (Sum.elim (fun q => F_bag_both_a1 q) (fun q => F_bag_both_a2 q))

noncomputable def F_bag_both_a4 (a9 : (List (Int × Int))) (a14 : Unit) : Option (Unit ⊕ ((List (Int × Int)) ⊕ ((List (Int × Int)) ⊕ ((List (Int × Int)) × (List (Int × Int)))))) :=
  some (.inr (.inr (.inl a9)))

noncomputable def F_bag_both_a5 (a9 : (List (Int × Int))) (a15 : (List (Int × Int))) : Option (Unit ⊕ ((List (Int × Int)) ⊕ ((List (Int × Int)) ⊕ ((List (Int × Int)) × (List (Int × Int)))))) :=
  some (.inr (.inr (.inr (a9, a15))))

noncomputable def F_bag_both_a6 (b2 : (List (Int × Int))) (a9 : (List (Int × Int))) : Option (Unit ⊕ ((List (Int × Int)) ⊕ ((List (Int × Int)) ⊕ ((List (Int × Int)) × (List (Int × Int)))))) :=
  (F_bag_of b2).bind (Sum.elim (fun q => F_bag_both_a4 a9 q) (fun q => F_bag_both_a5 a9 q))

noncomputable def F_bag_both (a1 : (List (Int × Int))) (b2 : (List (Int × Int))) : Option (Unit ⊕ ((List (Int × Int)) ⊕ ((List (Int × Int)) ⊕ ((List (Int × Int)) × (List (Int × Int)))))) :=
  (F_bag_of a1).bind (Sum.elim (fun q => F_bag_both_a3 b2 q) (fun q => F_bag_both_a6 b2 q))

set_option maxRecDepth 100000 in
set_option maxHeartbeats 4000000 in
theorem F_bag_both_ok (a1 : (List (Int × Int))) (b2 : (List (Int × Int))) {r : (Unit ⊕ ((List (Int × Int)) ⊕ ((List (Int × Int)) ⊕ ((List (Int × Int)) × (List (Int × Int))))))} (h : F_bag_both a1 b2 = some r) : ACalls Tryz.prog 51 [.sl 2 (a1.map row_A2I), .sl 2 (b2.map row_A2I)] [] ((Sum.elim (fun q => (Gives (.tup [.lit (.map none), .lit (.map none), .b false]) [])) (Sum.elim (fun q => (Gives (.tup [.lit (.map none), .map 30005, .b false]) [(30005, .map (mapV (V.i .i64) (V.i .i64) q))])) (Sum.elim (fun q => (Gives (.tup [.map 30004, .lit (.map none), .b false]) [(30004, .map (mapV (V.i .i64) (V.i .i64) q))])) (fun q => (Gives (.tup [.map 30004, .map 30005, .b true]) [(30004, .map (mapV (V.i .i64) (V.i .i64) q.1)), (30005, .map (mapV (V.i .i64) (V.i .i64) q.2))]))))) r) := by
  refine ACalls.walk 25 Tryz.func51 rfl Tryz.ntmps51 rfl fun C hC => ?_
  unfold F_bag_both at h
  obtain ⟨x7, hx7, h⟩ := bindE h
  refine AK.go tab_ok hC [.n 10] rfl trivial ?_
  rcases x7 with (a8 | a9)
  · replace h : F_bag_both_a3 b2 a8 = some r := h
    unfold F_bag_both_a3 at h
    obtain ⟨x10, hx10, h⟩ := bindE h
    refine AK.go tab_ok hC [.cm (.fn) [] [] [] [.d] [] (.tup [.lit (.map none), .b false]), .n 10] rfl ⟨trivial, (F_bag_of_ok _ hx7)⟩ ?_
    rcases x10 with (a11 | a12)
    · replace h : F_bag_both_a1 a11 = some r := h
      unfold F_bag_both_a1 at h
      refine AK.go tab_ok hC [.cm (.fn) [] [] [] [.d] [] (.tup [.lit (.map none), .b false]), .n 21, .keep [4, 5, 6] []] rfl ⟨trivial, (F_bag_of_ok _ hx10)⟩ ?_
      obtain rfl := Option.some.inj h
      refine AK.done ?_
      exact Exists.intro [_, _, _] (And.intro (And.intro rfl (And.intro rfl (And.intro rfl trivial))) (gives trivial))
    · replace h : F_bag_both_a2 a12 = some r := h
      unfold F_bag_both_a2 at h
      refine AK.go tab_ok hC [.cm (.fn) [] [(16, 30002)] [] [.d] [(30002, .map (mapV (V.i .i64) (V.i .i64) a12))] (.tup [.map 30002, .b true]), .n 21, .keep [4, 5, 6] [16], .ren 16 30005, .keep [4, 5, 6] [30005]] rfl ⟨trivial, (F_bag_of_ok _ hx10)⟩ ?_
      obtain rfl := Option.some.inj h
      refine AK.done ?_
      exact Exists.intro [_, _, _] (And.intro (And.intro rfl (And.intro rfl (And.intro rfl trivial))) (gives ⟨rfl, trivial⟩))
  · replace h : F_bag_both_a6 b2 a9 = some r := h
    unfold F_bag_both_a6 at h
    obtain ⟨x13, hx13, h⟩ := bindE h
    refine AK.go tab_ok hC [.cm (.fn) [] [(11, 30002)] [] [.d] [(30002, .map (mapV (V.i .i64) (V.i .i64) a9))] (.tup [.map 30002, .b true]), .n 10] rfl ⟨trivial, (F_bag_of_ok _ hx7)⟩ ?_
    rcases x13 with (a14 | a15)
    · replace h : F_bag_both_a4 a9 a14 = some r := h
      unfold F_bag_both_a4 at h
      refine AK.go tab_ok hC [.cm (.fn) [] [] [] [.d] [] (.tup [.lit (.map none), .b false]), .n 21, .keep [4, 5, 6] [11], .ren 11 30004, .keep [4, 5, 6] [30004]] rfl ⟨trivial, (F_bag_of_ok _ hx13)⟩ ?_
      obtain rfl := Option.some.inj h
      refine AK.done ?_
      exact Exists.intro [_, _, _] (And.intro (And.intro rfl (And.intro rfl (And.intro rfl trivial))) (gives ⟨rfl, trivial⟩))
    · replace h : F_bag_both_a5 a9 a15 = some r := h
      unfold F_bag_both_a5 at h
      refine AK.go tab_ok hC [.cm (.fn) [] [(16, 30002)] [] [.d] [(30002, .map (mapV (V.i .i64) (V.i .i64) a15))] (.tup [.map 30002, .b true]), .n 21, .keep [4, 5, 6] [11, 16], .ren 11 30004, .keep [4, 5, 6] [16, 30004], .ren 16 30005, .keep [4, 5, 6] [30004, 30005]] rfl ⟨trivial, (F_bag_of_ok _ hx13)⟩ ?_
      obtain rfl := Option.some.inj h
      refine AK.done ?_
      exact Exists.intro [_, _, _] (And.intro (And.intro rfl (And.intro rfl (And.intro rfl trivial))) (gives ⟨rfl, rfl, trivial⟩))

-- 36 baldric/bag.Sum
noncomputable def F_bag_Sum_a1 (a8 : Unit) : Option ((List (Int × Int)) × Int) :=
  some (([] : List (Int × Int)), 1)

noncomputable def F_bag_Sum_a2 (a9 : (List (Int × Int))) : Option ((List (Int × Int)) × Int) :=
  some (([] : List (Int × Int)), 1)

noncomputable def F_bag_Sum_a3 (a10 : (List (Int × Int))) : Option ((List (Int × Int)) × Int) :=
  some (([] : List (Int × Int)), 1)

noncomputable def F_bag_Sum_m4 (m14 : (List (Int × Int))) (k16 : Int) (v17 : Int) : Option ((List (Int × Int)) ⊕ Unit) :=
  bif (decide (1048576 < ((mget (mset ltI m14 k16 (w64 (((mget m14 k16).getD 0) + v17))) k16).getD 0))) then
  some (.inr ())
  else
  some (.inl (mset ltI m14 k16 (w64 (((mget m14 k16).getD 0) + v17))))

noncomputable def F_bag_Sum_c5 (m14 : (List (Int × Int))) : Option ((List (Int × Int)) × Int) :=
  (F_bag_counts_bag m14).bind fun x20 =>
  some (x20, 0)

noncomputable def F_bag_Sum_c6 : Option ((List (Int × Int)) × Int) :=
  some (([] : List (Int × Int)), 2)

noncomputable def F_bag_Sum_a7 (a11 : ((List (Int × Int)) × (List (Int × Int)))) : Option ((List (Int × Int)) × Int) :=
  (rangeM (fun st p => F_bag_Sum_m4 st p.1 p.2) a11.1 a11.2).bind (Sum.elim (fun q => F_bag_Sum_c5 q) (fun q => F_bag_Sum_c6))

noncomputable def F_bag_Sum (a1 : (List (Int × Int))) (b2 : (List (Int × Int))) : Option ((List (Int × Int)) × Int) :=
  (F_bag_both a1 b2).bind (Sum.elim (fun q => F_bag_Sum_a1 q) (Sum.elim (fun q => F_bag_Sum_a2 q) (Sum.elim (fun q => F_bag_Sum_a3 q) (fun q => F_bag_Sum_a7 q))))

set_option maxRecDepth 100000 in
set_option maxHeartbeats 4000000 in
theorem F_bag_Sum_ok (a1 : (List (Int × Int))) (b2 : (List (Int × Int))) {r : ((List (Int × Int)) × Int)} (h : F_bag_Sum a1 b2 = some r) : ACalls Tryz.prog 36 [.sl 2 (a1.map row_A2I), .sl 2 (b2.map row_A2I)] [] (Gives (.tup [.sl 2 (r.1.map row_A2I), .i .i64 r.2]) []) := by
  refine ACalls.walk 38 Tryz.func36 rfl Tryz.ntmps36 rfl fun C hC => ?_
  unfold F_bag_Sum at h
  obtain ⟨x7, hx7, h⟩ := bindE h
  refine AK.go tab_ok hC [.n 10] rfl trivial ?_
  rcases x7 with (a8 | (a9 | (a10 | a11)))
  · replace h : F_bag_Sum_a1 a8 = some r := h
    unfold F_bag_Sum_a1 at h
    refine AK.go tab_ok hC [.cm (.fn) [] [] [] [.d, .d] [] (.tup [.lit (.map none), .lit (.map none), .b false]), .n 25, .denil 4 [some 2], .keep [4, 5] []] rfl ⟨trivial, (F_bag_both_ok _ _ hx7)⟩ ?_
    obtain rfl := Option.some.inj h
    refine AK.done ?_
    exact Exists.intro [_, _] (And.intro (And.intro rfl (And.intro rfl trivial)) (gives trivial))
  · replace h : F_bag_Sum_a2 a9 = some r := h
    unfold F_bag_Sum_a2 at h
    refine AK.go tab_ok hC [.cm (.fn) [] [(14, 30005)] [] [.d, .d] [(30005, .map (mapV (V.i .i64) (V.i .i64) a9))] (.tup [.lit (.map none), .map 30005, .b false]), .n 25, .denil 4 [some 2], .keep [4, 5] []] rfl ⟨trivial, (F_bag_both_ok _ _ hx7)⟩ ?_
    obtain rfl := Option.some.inj h
    refine AK.done ?_
    exact Exists.intro [_, _] (And.intro (And.intro rfl (And.intro rfl trivial)) (gives trivial))
  · replace h : F_bag_Sum_a3 a10 = some r := h
    unfold F_bag_Sum_a3 at h
    refine AK.go tab_ok hC [.cm (.fn) [] [(14, 30004)] [] [.d, .d] [(30004, .map (mapV (V.i .i64) (V.i .i64) a10))] (.tup [.map 30004, .lit (.map none), .b false]), .n 25, .denil 4 [some 2], .keep [4, 5] []] rfl ⟨trivial, (F_bag_both_ok _ _ hx7)⟩ ?_
    obtain rfl := Option.some.inj h
    refine AK.done ?_
    exact Exists.intro [_, _] (And.intro (And.intro rfl (And.intro rfl trivial)) (gives trivial))
  · replace h : F_bag_Sum_a7 a11 = some r := h
    unfold F_bag_Sum_a7 at h
    refine AK.go tab_ok hC [.cm (.fn) [] [(14, 30004), (50000, 30005)] [] [.d, .d] [(30004, .map (mapV (V.i .i64) (V.i .i64) a11.1)), (30005, .map (mapV (V.i .i64) (V.i .i64) a11.2))] (.tup [.map 30004, .map 30005, .b true]), .n 23] rfl ⟨trivial, (F_bag_both_ok _ _ hx7)⟩ ?_
    refine AK.openMap (b := 50000) ky_3 rfl fun bm12 cl12 L12 hbn12 hpm12 => ?_
    refine AK.go tab_ok hC [.x (fun σ => (σ.set 21 (.itr bm12 cl12 #[] none)).put 21 (.loc 21 0 0)), .n 3, .keep [6, 21] [14, 21, 50000]] rfl ⟨trivial, (Stp.range (b := 50000) rfl rfl (hC ▸ rfl) rfl rfl mt_111 rfl)⟩ ?_
    obtain ⟨o19, hl19, h⟩ := bindE h
    refine AK.range (body := (fun st p => F_bag_Sum_m4 st p.1 p.2)) (fun st seen σ => ∃ cur : Option MapEntry, σ = ⟨[(6, .map 14), (21, .loc 21 0 0)], [(14, .map (mapV (V.i .i64) (V.i .i64) st)), (21, .itr bm12 cl12 seen cur), (50000, .mapX bm12 cl12 (typV (V.i .i64) (V.i .i64) L12) (mapV (V.i .i64) (V.i .i64) a11.2))]⟩) (fun q e σ => e = .ret ∧ σ = ⟨[(4, .lit (.slice none 0 0)), (5, .i .i64 2)], []⟩) (fun st e σ => e = .exit 0 ∧ σ = ⟨[(6, .map 14)], [(14, .map (mapV (V.i .i64) (V.i .i64) st))]⟩) hbn12 hpm12 hl19 (Exists.intro _ rfl) ?_ ?_
    · rintro m14 seen σ ⟨cur, rfl⟩ hex
      refine AK.go tab_ok hC [.n 2] rfl trivial ?_
      refine AK.nextT (b := 21) (m := 50000) rfl rfl rfl (hC ▸ rfl) rfl rfl rfl rfl ?_ ?_
      · intro hleft
        refine AK.go tab_ok hC [.n 7, .keep [6] [14]] rfl trivial ?_
        exact AK.done (Or.inl (And.intro hleft (And.intro (fun h => (by cases h)) (And.intro rfl rfl))))
      · intro xk16 k16 v17 hq13
        obtain ⟨o, h⟩ := hex _ hq13
        have ho := h
        replace h : F_bag_Sum_m4 m14 k16 v17 = some o := h
        unfold F_bag_Sum_m4 at h
        refine AK.go tab_ok hC [.n 10, .x (fun σ => σ.put 24 (.tup [.i .i64 k16, .i .i64 v17])), .n 10, .o (.any (.i .i64 ((mget m14 k16).getD 0)) none), .n 2, .x (fun σ => σ.set 14 (.map (mapV (V.i .i64) (V.i .i64) (mset ltI m14 k16 (w64 (((mget m14 k16).getD 0) + v17)))))), .n 6, .o (.any (.i .i64 ((mget (mset ltI m14 k16 (w64 (((mget m14 k16).getD 0) + v17))) k16).getD 0)) none), .n 3] rfl ⟨⟨⟨⟨trivial, (Stp.entryT (b := 21) (m := 50000) rfl rfl (hC ▸ rfl) rfl hq13 rfl rfl)⟩, (fun σ h1 h2 _ => Stp.lookup (e := (V.i .i64)) (f := (V.i .i64)) (l := m14) (k := k16) (z := 0) rfl rfl (hC ▸ rfl) (h1 _ _ rfl) (h2 _ _ rfl) (h1 _ _ rfl) mt_111 ky_3 zi_3 rfl)⟩, (Stp.mapUpdate (e := (V.i .i64)) (f := (V.i .i64)) (l := m14) (k := k16) (v := (w64 (((mget m14 k16).getD 0) + v17))) ltI rfl rfl rfl rfl rfl rfl mt_111 ky_3 rfl)⟩, (fun σ h1 h2 _ => Stp.lookup (e := (V.i .i64)) (f := (V.i .i64)) (l := (mset ltI m14 k16 (w64 (((mget m14 k16).getD 0) + v17)))) (k := k16) (z := 0) rfl rfl (hC ▸ rfl) (h1 _ _ rfl) (h2 _ _ rfl) (h1 _ _ rfl) mt_111 ky_3 zi_3 rfl)⟩ ?_
        rcases bifE h with ⟨hc18, h⟩ | ⟨hc18, h⟩
        · refine AK.go tab_ok hC [.br true, .n 8, .keep [4, 5] []] rfl ⟨trivial, hc18⟩ ?_
          obtain rfl := Option.some.inj h
          exact AK.done (Or.inr (Exists.intro _ (And.intro hq13 (Or.inr (Exists.intro _ (And.intro ho (And.intro (fun h => (by cases h)) (And.intro rfl rfl))))))))
        · refine AK.go tab_ok hC [.br false, .n 2, .keep [6, 21] [14, 21, 50000]] rfl ⟨trivial, hc18⟩ ?_
          obtain rfl := Option.some.inj h
          exact AK.done (Or.inr (Exists.intro _ (And.intro hq13 (Or.inl (Exists.intro _ (And.intro ho (And.intro rfl (Exists.intro _ rfl))))))))
    · rcases o19 with (m14 | _)
      · replace h : F_bag_Sum_c5 m14 = some r := h
        unfold F_bag_Sum_c5 at h
        rintro e σ ⟨rfl, rfl⟩
        obtain ⟨x20, hx20, h⟩ := bindE h
        refine AK.go tab_ok hC [.n 5, .cm (.fn) [(200000, 14)] [(37, 30000)] [14] [.d] [(30000, .arr 2 (x20.map row_A2I))] (.own 30000 x20.length), .n 5, .frz 37 (x20.map row_A2I) [4] [], .keep [4, 5] []] rfl ⟨⟨trivial, (F_bag_counts_bag_ok _ hx20)⟩, ⟨trivial, (frzL mapLen)⟩⟩ ?_
        obtain rfl := Option.some.inj h
        refine AK.done ?_
        exact Exists.intro [_, _] (And.intro (And.intro rfl (And.intro rfl trivial)) (gives trivial))
      · replace h : F_bag_Sum_c6 = some r := h
        unfold F_bag_Sum_c6 at h
        rintro e σ ⟨rfl, rfl⟩
        refine AK.go tab_ok hC [.n 2, .denil 4 [some 2], .keep [4, 5] []] rfl trivial ?_
        obtain rfl := Option.some.inj h
        refine AK.done ?_
        exact Exists.intro [_, _] (And.intro (And.intro rfl (And.intro rfl trivial)) (gives trivial))

-- 24 baldric/bind.tokens
noncomputable def F_bind_tokens_l1 (which3 : (List Int)) (l2 : (List TArc)) (env4 : (List Int)) (n1 : TNet) (x11 : Int) (l12 : (List (List (Int × Int)))) : Option ((Int × (List (List (Int × Int)))) ⊕ (Int ⊕ (List (List (Int × Int))))) :=
  bif (decide (x11 < (which3.length : Int))) then
  (idx which3 x11).bind fun e18 =>
  bif ((decide (e18 < 0)) || (decide ((l2.length : Int) ≤ e18))) then
  some (.inr (.inl 11))
  else
  (idx l2 e18).bind fun e22 =>
  (F_expr_Eval e22.Expr env4).bind fun x23 =>
  bif (x23.2 != 0) then
  some (.inr (.inl x23.2))
  else
  (idx l2 e18).bind fun e25 =>
  bif ((decide (e25.Place < 0)) || (decide ((n1.Places.length : Int) ≤ e25.Place))) then
  some (.inr (.inl 3))
  else
  (idx n1.Places e25.Place).bind fun e29 =>
  (F_colour_Member n1.Colours e29.Colour x23.1).bind fun x30 =>
  bif (!x30.2) then
  some (.inr (.inl 8))
  else
  (idx l12 e25.Place).bind fun e32 =>
  (F_bag_Of ([x30.1] : List Int)).bind fun x33 =>
  (F_bag_Sum e32 x33).bind fun x34 =>
  (idx l12 e25.Place).bind fun e35 =>
  bif (x34.2 != 0) then
  some (.inr (.inl x34.2))
  else
  some (.inl ((w64 (x11 + 1)), (l12.set e25.Place.toNat x34.1)))
  else
  some (.inr (.inr l12))

noncomputable def F_bind_tokens_c2 (x15 : Int) : Option ((List (List (Int × Int))) × Int) :=
  some (([] : List (List (Int × Int))), x15)

noncomputable def F_bind_tokens_c3 (l16 : (List (List (Int × Int)))) : Option ((List (List (Int × Int))) × Int) :=
  some (l16, 0)

noncomputable def F_bind_tokens (n1 : TNet) (l2 : (List TArc)) (which3 : (List Int)) (env4 : (List Int)) : Option ((List (List (Int × Int))) × Int) :=
  (chk (decide (0 ≤ (n1.Places.length : Int)) && decide ((n1.Places.length : Int) ≤ (n1.Places.length : Int)) && decide ((n1.Places.length : Int) ≤ 4294967296))).bind fun _ =>
  (loopM (fun st => F_bind_tokens_l1 which3 l2 env4 n1 st.1 st.2) (0, (List.replicate (n1.Places.length : Int).toNat (([] : (List (Int × Int))) : (List (Int × Int)))))).bind (Sum.elim (fun q => F_bind_tokens_c2 q) (fun q => F_bind_tokens_c3 q))

set_option maxRecDepth 100000 in
set_option maxHeartbeats 4000000 in
theorem F_bind_tokens_ok (n1 : TNet) (l2 : (List TArc)) (which3 : (List Int)) (env4 : (List Int)) {r : ((List (List (Int × Int))) × Int)} (h : F_bind_tokens n1 l2 which3 env4 = some r) : ACalls Tryz.prog 24 [.agg (row_TNet n1), .sl 4 (l2.map row_TArc), .sl 1 (which3.map row_I), .sl 1 (env4.map row_I)] [] (Gives (.tup [.sl 1 (r.1.map row_LA2I), .i .i64 r.2]) []) := by
  refine ACalls.walk 97 Tryz.func24 rfl Tryz.ntmps24 rfl fun C hC => ?_
  unfold F_bind_tokens at h
  obtain ⟨_, hk9, h⟩ := bindE h
  replace hk9 := chkE hk9
  refine AK.go tab_ok hC [.n 11, .o (.ln n1.Places.length), .o (.rows (List.replicate (n1.Places.length : Int).toNat [.lit (.slice none 0 0)]))] rfl ⟨⟨trivial, mapLen⟩, ⟨hk9, rfl⟩⟩ ?_
  refine AK.denilA (b := 21) [some 2] rfl (mapDen (f := row_LA2I) (x := ([] : (List (Int × Int)))) rfl) ?_
  refine AK.go tab_ok hC [.say 21 (.own 21 (List.replicate (n1.Places.length : Int).toNat (([] : (List (Int × Int))) : (List (Int × Int)))).length), .n 7, .o (.ln which3.length), .n 4, .keep [1, 3, 4, 10, 22, 23, 24] [4, 21]] rfl ⟨⟨trivial, (by simp)⟩, mapLen⟩ ?_
  obtain ⟨o37, hl37, h⟩ := bindE h
  refine AK.loop (body := (fun st => F_bind_tokens_l1 which3 l2 env4 n1 st.1 st.2)) (fun st σ => σ = ⟨[(1, .sl 4 (l2.map row_TArc)), (3, .sl 1 (env4.map row_I)), (4, .loc 4 0 0), (10, .own 21 st.2.length), (22, .sl 1 (which3.map row_I)), (23, .i .i64 (which3.length : Int)), (24, .i .i64 st.1)], [(4, .var (row_TNet n1)), (21, .arr 1 (st.2.map row_LA2I))]⟩) (Sum.elim (fun q e σ => e = .ret ∧ σ = ⟨[(8, .lit (.slice none 0 0)), (9, .i .i64 q)], []⟩) (fun q e σ => e = .exit 0 ∧ σ = ⟨[(10, .own 21 q.length)], [(21, .arr 1 (q.map row_LA2I))]⟩)) hl37 rfl ?_ ?_
  · rintro ⟨x11, l12⟩ o σ rfl h
    replace h : F_bind_tokens_l1 which3 l2 env4 n1 x11 l12 = some o := h
    unfold F_bind_tokens_l1 at h
    refine AK.go tab_ok hC [.n 6] rfl trivial ?_
    rcases bifE h with ⟨hc17, h⟩ | ⟨hc17, h⟩
    · obtain ⟨e18, he18, h⟩ := bindE h
      refine AK.go tab_ok hC [.br true, .n 6, .o (.row (row_I e18)), .n 6] rfl ⟨⟨trivial, hc17⟩, (idxM he18)⟩ ?_
      refine AK.meetX (fun σ => σ = ⟨[(1, .sl 4 (l2.map row_TArc)), (3, .sl 1 (env4.map row_I)), (4, .loc 4 0 0), (10, .own 21 l12.length), (12, .i .i64 e18), (22, .sl 1 (which3.map row_I)), (23, .i .i64 (which3.length : Int)), (24, .i .i64 x11), (35, .b ((decide (e18 < 0)) || (decide ((l2.length : Int) ≤ e18))))], [(4, .var (row_TNet n1)), (21, .arr 1 (l12.map row_LA2I))]⟩) ?_ ?_
      · refine AK.go tab_ok hC [.n 4] rfl trivial ?_
        rcases boolOr (decide (e18 < 0)) with hc20 | hc20
        · refine AK.go tab_ok hC [.say 30 (.b true), .n 6, .say 35 (.b ((decide (e18 < 0)) || (decide ((l2.length : Int) ≤ e18)))), .keep [1, 3, 4, 10, 12, 22, 23, 24, 35] [4, 21]] rfl ⟨⟨trivial, (congrArg V.b hc20)⟩, (congrArg V.b (orT hc20 rfl))⟩ ?_
          exact AK.met rfl
        · refine AK.go tab_ok hC [.say 30 (.b false), .n 2, .o (.ln l2.length), .n 3, .say 35 (.b ((decide (e18 < 0)) || (decide ((l2.length : Int) ≤ e18)))), .keep [1, 3, 4, 10, 12, 22, 23, 24, 35] [4, 21]] rfl ⟨⟨⟨trivial, (congrArg V.b hc20)⟩, mapLen⟩, (congrArg V.b (orF hc20 rfl))⟩ ?_
          exact AK.met rfl
      · rintro σ rfl
        refine AK.go tab_ok hC [.n 1] rfl trivial ?_
        rcases bifE h with ⟨hc21, h⟩ | ⟨hc21, h⟩
        · refine AK.go tab_ok hC [.br true, .n 10, .keep [8, 9] []] rfl ⟨trivial, hc21⟩ ?_
          obtain rfl := Option.some.inj h
          exact rndR rfl (And.intro rfl rfl)
        · obtain ⟨e22, he22, h⟩ := bindE h
          obtain ⟨x23, hx23, h⟩ := bindE h
          refine AK.go tab_ok hC [.br false, .n 6, .o (.row (row_TArc e22)), .n 1, .v .no [] (.agg (row_TExpr e22.Expr)), .n 1, .o (.c false [.d, .d] (.tup [.i .i64 x23.1, .i .i64 x23.2])), .n 14] rfl ⟨⟨⟨⟨trivial, hc21⟩, (idxM he22)⟩, rfl⟩, (F_expr_Eval_ok _ _ hx23)⟩ ?_
          rcases bifE h with ⟨hc24, h⟩ | ⟨hc24, h⟩
          · refine AK.go tab_ok hC [.br true, .n 11, .keep [8, 9] []] rfl ⟨trivial, hc24⟩ ?_
            obtain rfl := Option.some.inj h
            exact rndR rfl (And.intro rfl rfl)
          · obtain ⟨e25, he25, h⟩ := bindE h
            refine AK.go tab_ok hC [.br false, .n 6, .o (.row (row_TArc e25)), .n 7] rfl ⟨⟨trivial, hc24⟩, (idxM he25)⟩ ?_
            refine AK.meetX (fun σ => σ = ⟨[(1, .sl 4 (l2.map row_TArc)), (3, .sl 1 (env4.map row_I)), (4, .loc 4 0 0), (10, .own 21 l12.length), (13, .i .i64 x23.1), (15, .i .i64 e25.Place), (22, .sl 1 (which3.map row_I)), (23, .i .i64 (which3.length : Int)), (24, .i .i64 x11), (62, .b ((decide (e25.Place < 0)) || (decide ((n1.Places.length : Int) ≤ e25.Place))))], [(4, .var (row_TNet n1)), (21, .arr 1 (l12.map row_LA2I))]⟩) ?_ ?_
            · refine AK.go tab_ok hC [.n 4] rfl trivial ?_
              rcases boolOr (decide (e25.Place < 0)) with hc27 | hc27
              · refine AK.go tab_ok hC [.say 56 (.b true), .n 7, .say 62 (.b ((decide (e25.Place < 0)) || (decide ((n1.Places.length : Int) ≤ e25.Place)))), .keep [1, 3, 4, 10, 13, 15, 22, 23, 24, 62] [4, 21]] rfl ⟨⟨trivial, (congrArg V.b hc27)⟩, (congrArg V.b (orT hc27 rfl))⟩ ?_
                exact AK.met rfl
              · refine AK.go tab_ok hC [.say 56 (.b false), .n 3, .o (.ln n1.Places.length), .n 3, .say 62 (.b ((decide (e25.Place < 0)) || (decide ((n1.Places.length : Int) ≤ e25.Place)))), .keep [1, 3, 4, 10, 13, 15, 22, 23, 24, 62] [4, 21]] rfl ⟨⟨⟨trivial, (congrArg V.b hc27)⟩, mapLen⟩, (congrArg V.b (orF hc27 rfl))⟩ ?_
                exact AK.met rfl
            · rintro σ rfl
              refine AK.go tab_ok hC [.n 1] rfl trivial ?_
              rcases bifE h with ⟨hc28, h⟩ | ⟨hc28, h⟩
              · refine AK.go tab_ok hC [.br true, .n 10, .keep [8, 9] []] rfl ⟨trivial, hc28⟩ ?_
                obtain rfl := Option.some.inj h
                exact rndR rfl (And.intro rfl rfl)
              · obtain ⟨e29, he29, h⟩ := bindE h
                obtain ⟨x30, hx30, h⟩ := bindE h
                refine AK.go tab_ok hC [.br false, .n 3, .keep [1, 3, 4, 10, 13, 15, 22, 23, 24] [4, 21]] rfl ⟨trivial, hc28⟩ ?_
                refine AK.draw2 tab_ok hC mixed [.a .no none false, .a .no none false, .a .no none false, .a .no none false, .a .no none false, .a (.row (row_TPlace e29)) none false, .a .no none false, .a .no none false, .a .no none false, .a (.c false [.d, .d, .d] (.tup [.i .i64 x30.1, .b x30.2])) none false, .a .no none false, .a .no none false, .a .no none false, .a .no none false, .a .no none false] [] [] [1, 3, 4, 10, 15, 16, 17, 22, 23, 24] [4, 21] rfl rfl rfl ⟨⟨trivial, (idxM he29)⟩, (F_colour_Member_ok _ _ _ hx30)⟩ rfl (by kernel_rfl) rfl rfl rfl ?_
                refine AK.go tab_ok hC [.n 8] rfl trivial ?_
                rcases bifE h with ⟨hc31, h⟩ | ⟨hc31, h⟩
                · refine AK.go tab_ok hC [.br true, .n 10, .keep [8, 9] []] rfl ⟨trivial, hc31⟩ ?_
                  obtain rfl := Option.some.inj h
                  exact rndR rfl (And.intro rfl rfl)
                · obtain ⟨e32, he32, h⟩ := bindE h
                  obtain ⟨x33, hx33, h⟩ := bindE h
                  obtain ⟨x34, hx34, h⟩ := bindE h
                  obtain ⟨e35, he35, h⟩ := bindE h
                  refine AK.go tab_ok hC [.br false, .n 3, .keep [1, 3, 4, 10, 15, 16, 22, 23, 24] [4, 21]] rfl ⟨trivial, hc31⟩ ?_
                  refine AK.draw2 tab_ok hC mixed [.a .no none false, .a .no none false, .a .no none false, .a .no none false, .a .no none false, .a (.row (row_LA2I e32)) none false, .a .no none false, .a (.bd []) (some ([], .sl 1 (([x30.1] : List Int).map row_I))) false, .a (.cd false [.d] 2 (x33.map row_A2I) x33.length) none false, .a (.c false [.d, .d] (.tup [.sl 2 (x34.1.map row_A2I), .i .i64 x34.2])) none false, .a .no none true true, .a .no none false, .a .no none true, .a .no none false, .m (.st (row_LA2I e35) ((l12.set e25.Place.toNat x34.1).map row_LA2I)), .a .no none false] [1, 3, 4, 10, 15, 16, 22, 23, 24] [4] [1, 3, 4, 10, 14, 22, 23, 24] [4, 21] rfl rfl rfl ⟨⟨⟨⟨⟨⟨⟨trivial, (idxOw he32 rfl)⟩, (mapGet (idxE he32).2)⟩, rfl⟩, ⟨(F_bag_Of_ok _ hx33), mapLen⟩⟩, (F_bag_Sum_ok _ _ hx34)⟩, (idxOw he35 rfl)⟩, ⟨(mapGet (idxE he35).2), mapSet rfl⟩⟩ rfl (by kernel_rfl) rfl rfl rfl ?_
                  refine AK.go tab_ok hC [.n 7] rfl trivial ?_
                  rcases bifE h with ⟨hc36, h⟩ | ⟨hc36, h⟩
                  · refine AK.go tab_ok hC [.br true, .n 10, .keep [8, 9] []] rfl ⟨trivial, hc36⟩ ?_
                    obtain rfl := Option.some.inj h
                    exact rndR rfl (And.intro rfl rfl)
                  · refine AK.go tab_ok hC [.br false, .n 7, .say 10 (.own 21 (l12.set e25.Place.toNat x34.1).length), .keep [1, 3, 4, 10, 22, 23, 24] [4, 21]] rfl ⟨⟨trivial, hc36⟩, (congrArg (fun n => V.own 21 n) (by simp))⟩ ?_
                    obtain rfl := Option.some.inj h
                    exact rndN rfl rfl
    · refine AK.go tab_ok hC [.br false, .n 2, .keep [10] [21]] rfl ⟨trivial, hc17⟩ ?_
      obtain rfl := Option.some.inj h
      exact rndX rfl (And.intro rfl rfl)
  · rcases o37 with (x15 | l16)
    · replace h : F_bind_tokens_c2 x15 = some r := h
      unfold F_bind_tokens_c2 at h
      rintro e σ ⟨rfl, rfl⟩
      refine AK.go tab_ok hC [.n 2, .denil 8 [some 1], .keep [8, 9] []] rfl trivial ?_
      obtain rfl := Option.some.inj h
      refine AK.done ?_
      exact Exists.intro [_, _] (And.intro (And.intro rfl (And.intro rfl trivial)) (gives trivial))
    · replace h : F_bind_tokens_c3 l16 = some r := h
      unfold F_bind_tokens_c3 at h
      rintro e σ ⟨rfl, rfl⟩
      refine AK.go tab_ok hC [.n 10, .frz 21 (l16.map row_LA2I) [8] [], .keep [8, 9] []] rfl ⟨trivial, ⟨trivial, (frzL mapLen)⟩⟩ ?_
      obtain rfl := Option.some.inj h
      refine AK.done ?_
      exact Exists.intro [_, _] (And.intro (And.intro rfl (And.intro rfl trivial)) (gives trivial))

-- 20 (baldric/bind.binder).gives
noncomputable def F_bind_binder_gives (b1 : Tbind_binder) (outs2 : (List Int)) : Option Int :=
  (F_bind_tokens b1.net b1.task.Outs outs2 b1.env).bind fun x4 =>
  some x4.2

set_option maxRecDepth 100000 in
set_option maxHeartbeats 4000000 in
theorem F_bind_binder_gives_ok (b1 : Tbind_binder) (outs2 : (List Int)) {r : Int} (h : F_bind_binder_gives b1 outs2 = some r) : ACalls Tryz.prog 20 [.agg (row_Tbind_binder b1), .sl 1 (outs2.map row_I)] [] (Gives (.i .i64 r) []) := by
  refine ACalls.walk 20 Tryz.func20 rfl Tryz.ntmps20 rfl fun C hC => ?_
  unfold F_bind_binder_gives at h
  obtain ⟨x4, hx4, h⟩ := bindE h
  refine AK.go tab_ok hC [.n 9, .v .no [] (.agg (row_TNet b1.net)), .n 6, .o (.c false [.d, .d, .d, .d] (.tup [.sl 1 (x4.1.map row_LA2I), .i .i64 x4.2])), .n 14, .keep [4] []] rfl ⟨⟨trivial, rfl⟩, (F_bind_tokens_ok _ _ _ _ hx4)⟩ ?_
  obtain rfl := Option.some.inj h
  refine AK.done ?_
  exact Exists.intro [_] (And.intro (And.intro rfl trivial) (gives trivial))

-- 19 baldric/bind.Modes$1
noncomputable def F_bind_Modes_1 (row1 : (List Int)) (v2 : Tbind_binder) : Option Bool :=
  (F_bind_binder_gives v2 row1).bind fun x4 =>
  some (x4 != 0)

set_option maxRecDepth 100000 in
set_option maxHeartbeats 4000000 in
theorem F_bind_Modes_1_ok (row1 : (List Int)) (v2 : Tbind_binder) {r : Bool} (h : F_bind_Modes_1 row1 v2 = some r) : ACalls Tryz.prog 19 [.sl 1 (row1.map row_I), .loc 200000 0 0] [(200000, .var (row_Tbind_binder v2))] (Gives (.b r) [(200000, .var (row_Tbind_binder v2))]) := by
  refine ACalls.walk 8 Tryz.func19 rfl Tryz.ntmps19 rfl fun C hC => ?_
  unfold F_bind_Modes_1 at h
  obtain ⟨x4, hx4, h⟩ := bindE h
  refine AK.go tab_ok hC [.n 7, .v .no [] (.agg (row_Tbind_binder v2)), .n 1, .o (.c false [.d, .d] (.i .i64 x4)), .n 5, .keep [3] [200000]] rfl ⟨⟨trivial, rfl⟩, (F_bind_binder_gives_ok _ _ hx4)⟩ ?_
  obtain rfl := Option.some.inj h
  refine AK.done ?_
  exact Exists.intro [_] (And.intro (And.intro rfl trivial) (gives ⟨rfl, trivial⟩))

-- 30 slices.IndexFunc[[][]int,[]int]
noncomputable def F_slices_IndexFunc_int_int_l1 (s1 : (List (List Int))) (v2 : Tbind_binder) (x5 : Int) : Option (Int ⊕ (Int ⊕ Unit)) :=
  bif (decide (x5 < (s1.length : Int))) then
  (idx s1 x5).bind fun e9 =>
  (F_bind_Modes_1 e9 v2).bind fun x10 =>
  bif x10 then
  some (.inr (.inl x5))
  else
  some (.inl (w64 (x5 + 1)))
  else
  some (.inr (.inr ()))

noncomputable def F_slices_IndexFunc_int_int_c2 (x7 : Int) : Option Int :=
  some x7

noncomputable def F_slices_IndexFunc_int_int_c3 : Option Int :=
  some (-1)

noncomputable def F_slices_IndexFunc_int_int (s1 : (List (List Int))) (v2 : Tbind_binder) : Option Int :=
  (loopM (fun st => F_slices_IndexFunc_int_int_l1 s1 v2 st) 0).bind (Sum.elim (fun q => F_slices_IndexFunc_int_int_c2 q) (fun q => F_slices_IndexFunc_int_int_c3))

set_option maxRecDepth 100000 in
set_option maxHeartbeats 4000000 in
theorem F_slices_IndexFunc_int_int_ok (s1 : (List (List Int))) (v2 : Tbind_binder) {r : Int} (h : F_slices_IndexFunc_int_int s1 v2 = some r) : ACalls Tryz.prog 30 [.sl 1 (s1.map row_LI), .clo (.func 19) [] [.loc 200000 0 0]] [(200000, .var (row_Tbind_binder v2))] (Gives (.i .i64 r) [(200000, .var (row_Tbind_binder v2))]) := by
  refine ACalls.walk 19 Tryz.func30 rfl Tryz.ntmps30 rfl fun C hC => ?_
  unfold F_slices_IndexFunc_int_int at h
  refine AK.go tab_ok hC [.n 9, .o (.ln s1.length), .n 4, .keep [0, 1, 7, 8] [200000]] rfl ⟨trivial, mapLen⟩ ?_
  obtain ⟨o12, hl12, h⟩ := bindE h
  refine AK.loop (body := (fun st => F_slices_IndexFunc_int_int_l1 s1 v2 st)) (fun st σ => σ = ⟨[(0, .sl 1 (s1.map row_LI)), (1, .clo (.func 19) [] [.loc 200000 0 0]), (7, .i .i64 (s1.length : Int)), (8, .i .i64 st)], [(200000, .var (row_Tbind_binder v2))]⟩) (Sum.elim (fun q e σ => e = .ret ∧ σ = ⟨[(4, .i .i64 q)], [(200000, .var (row_Tbind_binder v2))]⟩) (fun q e σ => e = .exit 0 ∧ σ = ⟨[], [(200000, .var (row_Tbind_binder v2))]⟩)) hl12 rfl ?_ ?_
  · rintro x5 o σ rfl h
    replace h : F_slices_IndexFunc_int_int_l1 s1 v2 x5 = some o := h
    unfold F_slices_IndexFunc_int_int_l1 at h
    refine AK.go tab_ok hC [.n 6] rfl trivial ?_
    rcases bifE h with ⟨hc8, h⟩ | ⟨hc8, h⟩
    · obtain ⟨e9, he9, h⟩ := bindE h
      obtain ⟨x10, hx10, h⟩ := bindE h
      refine AK.go tab_ok hC [.br true, .n 15, .o (.row (row_LI e9)), .n 1, .cm (.clo) [(200000, 200000)] [(200000, 200000)] [] [.d, .d] [(200000, .var (row_Tbind_binder v2))] (.b x10), .n 2] rfl ⟨⟨⟨trivial, hc8⟩, (idxM he9)⟩, (F_bind_Modes_1_ok _ _ hx10)⟩ ?_
      rcases bifE h with ⟨hc11, h⟩ | ⟨hc11, h⟩
      · refine AK.go tab_ok hC [.br true, .n 9, .keep [4] [200000]] rfl ⟨trivial, hc11⟩ ?_
        obtain rfl := Option.some.inj h
        exact rndR rfl (And.intro rfl rfl)
      · refine AK.go tab_ok hC [.br false, .n 7, .keep [0, 1, 7, 8] [200000]] rfl ⟨trivial, hc11⟩ ?_
        obtain rfl := Option.some.inj h
        exact rndN rfl rfl
    · refine AK.go tab_ok hC [.br false, .n 2, .keep [] [200000]] rfl ⟨trivial, hc8⟩ ?_
      obtain rfl := Option.some.inj h
      exact rndX rfl (And.intro rfl rfl)
  · rcases o12 with (x7 | _)
    · replace h : F_slices_IndexFunc_int_int_c2 x7 = some r := h
      unfold F_slices_IndexFunc_int_int_c2 at h
      rintro e σ ⟨rfl, rfl⟩
      refine AK.go tab_ok hC [.n 2, .keep [4] [200000]] rfl trivial ?_
      obtain rfl := Option.some.inj h
      refine AK.done ?_
      exact Exists.intro [_] (And.intro (And.intro rfl trivial) (gives ⟨rfl, trivial⟩))
    · replace h : F_slices_IndexFunc_int_int_c3 = some r := h
      unfold F_slices_IndexFunc_int_int_c3 at h
      rintro e σ ⟨rfl, rfl⟩
      refine AK.go tab_ok hC [.n 8, .keep [4] [200000]] rfl trivial ?_
      obtain rfl := Option.some.inj h
      refine AK.done ?_
      exact Exists.intro [_] (And.intro (And.intro rfl trivial) (gives ⟨rfl, trivial⟩))

-- 30 slices.IndexFunc[[][]int,[]int]
noncomputable def F_slices_IndexFunc_int_int_v2_l1 (l1 : (List (List Int))) (v2 : Tbind_binder) (x5 : Int) : Option (Int ⊕ (Int ⊕ Unit)) :=
  bif (decide (x5 < (l1.length : Int))) then
  (idx l1 x5).bind fun e9 =>
  (F_bind_Modes_1 e9 v2).bind fun x10 =>
  bif x10 then
  some (.inr (.inl x5))
  else
  some (.inl (w64 (x5 + 1)))
  else
  some (.inr (.inr ()))

noncomputable def F_slices_IndexFunc_int_int_v2_c2 (x7 : Int) : Option Int :=
  some x7

noncomputable def F_slices_IndexFunc_int_int_v2_c3 : Option Int :=
  some (-1)

noncomputable def F_slices_IndexFunc_int_int_v2 (l1 : (List (List Int))) (v2 : Tbind_binder) : Option Int :=
  (loopM (fun st => F_slices_IndexFunc_int_int_v2_l1 l1 v2 st) 0).bind (Sum.elim (fun q => F_slices_IndexFunc_int_int_v2_c2 q) (fun q => F_slices_IndexFunc_int_int_v2_c3))

set_option maxRecDepth 100000 in
set_option maxHeartbeats 4000000 in
theorem F_slices_IndexFunc_int_int_v2_ok (l1 : (List (List Int))) (v2 : Tbind_binder) {r : Int} (h : F_slices_IndexFunc_int_int_v2 l1 v2 = some r) : ACalls Tryz.prog 30 [.own 200000 l1.length, .clo (.func 19) [] [.loc 200001 0 0]] [(200000, .arr 1 (l1.map row_LI)), (200001, .var (row_Tbind_binder v2))] (Gives (.i .i64 r) [(200000, .arr 1 (l1.map row_LI)), (200001, .var (row_Tbind_binder v2))]) := by
  refine ACalls.walk 19 Tryz.func30 rfl Tryz.ntmps30 rfl fun C hC => ?_
  unfold F_slices_IndexFunc_int_int_v2 at h
  refine AK.go tab_ok hC [.n 14, .keep [0, 1, 7, 8] [200000, 200001]] rfl trivial ?_
  obtain ⟨o12, hl12, h⟩ := bindE h
  refine AK.loop (body := (fun st => F_slices_IndexFunc_int_int_v2_l1 l1 v2 st)) (fun st σ => σ = ⟨[(0, .own 200000 l1.length), (1, .clo (.func 19) [] [.loc 200001 0 0]), (7, .i .i64 (l1.length : Int)), (8, .i .i64 st)], [(200000, .arr 1 (l1.map row_LI)), (200001, .var (row_Tbind_binder v2))]⟩) (Sum.elim (fun q e σ => e = .ret ∧ σ = ⟨[(4, .i .i64 q)], [(200000, .arr 1 (l1.map row_LI)), (200001, .var (row_Tbind_binder v2))]⟩) (fun q e σ => e = .exit 0 ∧ σ = ⟨[], [(200000, .arr 1 (l1.map row_LI)), (200001, .var (row_Tbind_binder v2))]⟩)) hl12 rfl ?_ ?_
  · rintro x5 o σ rfl h
    replace h : F_slices_IndexFunc_int_int_v2_l1 l1 v2 x5 = some o := h
    unfold F_slices_IndexFunc_int_int_v2_l1 at h
    refine AK.go tab_ok hC [.n 6] rfl trivial ?_
    rcases bifE h with ⟨hc8, h⟩ | ⟨hc8, h⟩
    · obtain ⟨e9, he9, h⟩ := bindE h
      obtain ⟨x10, hx10, h⟩ := bindE h
      refine AK.go tab_ok hC [.br true, .n 16, .o (.row (row_LI e9)), .cm (.clo) [(200000, 200001)] [(200001, 200000)] [] [.d, .d] [(200000, .var (row_Tbind_binder v2))] (.b x10), .n 2] rfl ⟨⟨⟨⟨trivial, hc8⟩, (idxOw he9 rfl)⟩, (mapGet (idxE he9).2)⟩, (F_bind_Modes_1_ok _ _ hx10)⟩ ?_
      rcases bifE h with ⟨hc11, h⟩ | ⟨hc11, h⟩
      · refine AK.go tab_ok hC [.br true, .n 9, .keep [4] [200000, 200001]] rfl ⟨trivial, hc11⟩ ?_
        obtain rfl := Option.some.inj h
        exact rndR rfl (And.intro rfl rfl)
      · refine AK.go tab_ok hC [.br false, .n 7, .keep [0, 1, 7, 8] [200000, 200001]] rfl ⟨trivial, hc11⟩ ?_
        obtain rfl := Option.some.inj h
        exact rndN rfl rfl
    · refine AK.go tab_ok hC [.br false, .n 2, .keep [] [200000, 200001]] rfl ⟨trivial, hc8⟩ ?_
      obtain rfl := Option.some.inj h
      exact rndX rfl (And.intro rfl rfl)
  · rcases o12 with (x7 | _)
    · replace h : F_slices_IndexFunc_int_int_v2_c2 x7 = some r := h
      unfold F_slices_IndexFunc_int_int_v2_c2 at h
      rintro e σ ⟨rfl, rfl⟩
      refine AK.go tab_ok hC [.n 2, .keep [4] [200000, 200001]] rfl trivial ?_
      obtain rfl := Option.some.inj h
      refine AK.done ?_
      exact Exists.intro [_] (And.intro (And.intro rfl trivial) (gives ⟨rfl, rfl, trivial⟩))
    · replace h : F_slices_IndexFunc_int_int_v2_c3 = some r := h
      unfold F_slices_IndexFunc_int_int_v2_c3 at h
      rintro e σ ⟨rfl, rfl⟩
      refine AK.go tab_ok hC [.n 8, .keep [4] [200000, 200001]] rfl trivial ?_
      obtain rfl := Option.some.inj h
      refine AK.done ?_
      exact Exists.intro [_] (And.intro (And.intro rfl trivial) (gives ⟨rfl, rfl, trivial⟩))

-- 17 slices.DeleteFunc[[][]int,[]int]
noncomputable def F_slices_DeleteFunc_int_int_v2_k1 (j10 : Int) (i18 : Int) (l19 : (List (List Int))) : Option ((Int × Int × (List (List Int))) ⊕ (Int × (List (List Int)))) :=
  some (.inl (i18, (w64 (j10 + 1)), l19))

noncomputable def F_slices_DeleteFunc_int_int_v2_l2 (v2 : Tbind_binder) (i9 : Int) (j10 : Int) (l11 : (List (List Int))) : Option ((Int × Int × (List (List Int))) ⊕ (Int × (List (List Int)))) :=
  bif (decide (j10 < (l11.length : Int))) then
  (idx l11 j10).bind fun e20 =>
  (F_bind_Modes_1 e20 v2).bind fun x21 =>
  bif (!x21) then
  (idx l11 i9).bind fun e23 =>
  F_slices_DeleteFunc_int_int_v2_k1 j10 (w64 (i9 + 1)) (l11.set i9.toNat e20)
  else
  F_slices_DeleteFunc_int_int_v2_k1 j10 i9 l11
  else
  some (.inr (i9, l11))

noncomputable def F_slices_DeleteFunc_int_int_v2_c3 (i15 : Int) (l16 : (List (List Int))) : Option (List (List Int)) :=
  (chk (decide (0 ≤ i15) && decide (i15.toNat ≤ l16.length))).bind fun _ =>
  (chk (decide (0 ≤ i15) && decide (i15.toNat ≤ (l16.take i15.toNat ++ List.replicate (l16.length - i15.toNat) (([] : (List Int)) : (List Int))).length))).bind fun _ =>
  some ((l16.take i15.toNat ++ List.replicate (l16.length - i15.toNat) (([] : (List Int)) : (List Int))).take i15.toNat)

noncomputable def F_slices_DeleteFunc_int_int_v2 (l1 : (List (List Int))) (v2 : Tbind_binder) : Option (List (List Int)) :=
  (F_slices_IndexFunc_int_int_v2 l1 v2).bind fun x5 =>
  bif (x5 == (-1)) then
  some l1
  else
  (loopM (fun st => F_slices_DeleteFunc_int_int_v2_l2 v2 st.1 st.2.1 st.2.2) (x5, (w64 (x5 + 1)), l1)).bind (fun q => F_slices_DeleteFunc_int_int_v2_c3 q.1 q.2)

set_option maxRecDepth 100000 in
set_option maxHeartbeats 4000000 in
theorem F_slices_DeleteFunc_int_int_v2_ok (l1 : (List (List Int))) (v2 : Tbind_binder) {r : (List (List Int))} (h : F_slices_DeleteFunc_int_int_v2 l1 v2 = some r) : ACalls Tryz.prog 17 [.own 200000 l1.length, .clo (.func 19) [] [.loc 200001 0 0]] [(200000, .arr 1 (l1.map row_LI)), (200001, .var (row_Tbind_binder v2))] (Gives (.own 200000 r.length) [(200000, .arr 1 (r.map row_LI)), (200001, .var (row_Tbind_binder v2))]) := by
  refine ACalls.walk 42 Tryz.func17 rfl Tryz.ntmps17 rfl fun C hC => ?_
  unfold F_slices_DeleteFunc_int_int_v2 at h
  obtain ⟨x5, hx5, h⟩ := bindE h
  refine AK.go tab_ok hC [.n 9, .cm (.fn) [(200000, 200000), (200001, 200001)] [(200000, 200000), (200001, 200001)] [] [.d, .d] [(200000, .arr 1 (l1.map row_LI)), (200001, .var (row_Tbind_binder v2))] (.i .i64 x5), .n 10] rfl ⟨trivial, (F_slices_IndexFunc_int_int_v2_ok _ _ hx5)⟩ ?_
  rcases bifE h with ⟨hc6, h⟩ | ⟨hc6, h⟩
  · refine AK.go tab_ok hC [.br true, .n 8, .keep [4] [200000, 200001]] rfl ⟨trivial, hc6⟩ ?_
    obtain rfl := Option.some.inj h
    refine AK.done ?_
    exact Exists.intro [_] (And.intro (And.intro rfl trivial) (gives ⟨rfl, rfl, trivial⟩))
  · refine AK.go tab_ok hC [.br false, .n 11, .keep [0, 1, 5, 6] [200000, 200001]] rfl ⟨trivial, hc6⟩ ?_
    obtain ⟨o24, hl24, h⟩ := bindE h
    refine AK.loop (body := (fun st => F_slices_DeleteFunc_int_int_v2_l2 v2 st.1 st.2.1 st.2.2)) (fun st σ => σ = ⟨[(0, .own 200000 st.2.2.length), (1, .clo (.func 19) [] [.loc 200001 0 0]), (5, .i .i64 st.1), (6, .i .i64 st.2.1)], [(200000, .arr 1 (st.2.2.map row_LI)), (200001, .var (row_Tbind_binder v2))]⟩) (fun q e σ => e = .exit 0 ∧ σ = ⟨[(0, .own 200000 q.2.length), (5, .i .i64 q.1)], [(200000, .arr 1 (q.2.map row_LI)), (200001, .var (row_Tbind_binder v2))]⟩) hl24 rfl ?_ ?_
    · rintro ⟨i9, j10, l11⟩ o σ rfl h
      replace h : F_slices_DeleteFunc_int_int_v2_l2 v2 i9 j10 l11 = some o := h
      unfold F_slices_DeleteFunc_int_int_v2_l2 at h
      refine AK.go tab_ok hC [.n 9] rfl trivial ?_
      rcases bifE h with ⟨hc17, h⟩ | ⟨hc17, h⟩
      · refine AK.go tab_ok hC [.br true, .n 2] rfl ⟨trivial, hc17⟩ ?_
        refine AK.meet (fun σ => ∃ i18 : Int, ∃ l19 : (List (List Int)), σ = ⟨[(0, .own 200000 l19.length), (1, .clo (.func 19) [] [.loc 200001 0 0]), (5, .i .i64 i18), (6, .i .i64 j10)], [(200000, .arr 1 (l19.map row_LI)), (200001, .var (row_Tbind_binder v2))]⟩ ∧ F_slices_DeleteFunc_int_int_v2_k1 j10 i18 l19 = some o) ?_ ?_
        · obtain ⟨e20, he20, h⟩ := bindE h
          obtain ⟨x21, hx21, h⟩ := bindE h
          refine AK.go tab_ok hC [.n 6, .o (.row (row_LI e20)), .n 7, .cm (.clo) [(200000, 200001)] [(200001, 200000)] [] [.d, .d] [(200000, .var (row_Tbind_binder v2))] (.b x21), .n 3] rfl ⟨⟨⟨trivial, (idxOw he20 rfl)⟩, (mapGet (idxE he20).2)⟩, (F_bind_Modes_1_ok _ _ hx21)⟩ ?_
          rcases bifE h with ⟨hc22, h⟩ | ⟨hc22, h⟩
          · obtain ⟨e23, he23, h⟩ := bindE h
            refine AK.go tab_ok hC [.br true, .n 6, .st (row_LI e23) ((l11.set i9.toNat e20).map row_LI), .n 8, .say 0 (.own 200000 (l11.set i9.toNat e20).length), .keep [0, 1, 5, 6] [200000, 200001]] rfl ⟨⟨⟨⟨trivial, hc22⟩, (idxOw he23 rfl)⟩, ⟨(mapGet (idxE he23).2), mapSet rfl⟩⟩, (congrArg (fun n => V.own 200000 n) (by simp))⟩ ?_
            exact AK.met (Exists.intro _ (Exists.intro _ (And.intro rfl h)))
          · refine AK.go tab_ok hC [.br false, .n 2, .keep [0, 1, 5, 6] [200000, 200001]] rfl ⟨trivial, hc22⟩ ?_
            exact AK.met (Exists.intro _ (Exists.intro _ (And.intro rfl h)))
        · rintro σ ⟨i18, l19, rfl, h⟩
          unfold F_slices_DeleteFunc_int_int_v2_k1 at h
          refine AK.go tab_ok hC [.n 5, .keep [0, 1, 5, 6] [200000, 200001]] rfl trivial ?_
          obtain rfl := Option.some.inj h
          exact rndN rfl rfl
      · refine AK.go tab_ok hC [.br false, .n 2, .keep [0, 5] [200000, 200001]] rfl ⟨trivial, hc17⟩ ?_
        obtain rfl := Option.some.inj h
        exact rndX rfl (And.intro rfl rfl)
    · obtain ⟨i15, l16⟩ := o24
      replace h : F_slices_DeleteFunc_int_int_v2_c3 i15 l16 = some r := h
      unfold F_slices_DeleteFunc_int_int_v2_c3 at h
      rintro e σ ⟨rfl, rfl⟩
      refine AK.go tab_ok hC [.n 6] rfl trivial ?_
      obtain ⟨_, hk25, h⟩ := bindE h
      replace hk25 := chkE hk25
      refine AK.clearTail (b := 200000) (l := i15.toNat) (n := l16.length) rfl rfl rfl rfl rfl rfl (hC ▸ rfl) rfl rfl mapLen (tab_ok.es rfl) zv_26 rfl rfl rfl (Bnd.val rfl (of_decide_eq_true (and2_0 hk25)) rfl) (of_decide_eq_true (and2_1 hk25)) rfl ?_
      refine AK.denilA (b := 200000) [some 1] rfl (clrDen (f := row_LI) (x := (([] : (List Int)) : (List Int))) (fun _ => rfl) rfl) ?_
      obtain ⟨_, hk26, h⟩ := bindE h
      replace hk26 := chkE hk26
      refine AK.go tab_ok hC [.say 0 (.own 200000 (l16.take i15.toNat ++ List.replicate (l16.length - i15.toNat) (([] : (List Int)) : (List Int))).length), .say 36 (.own 200000 (l16.take i15.toNat ++ List.replicate (l16.length - i15.toNat) (([] : (List Int)) : (List Int))).length), .n 6] rfl ⟨⟨trivial, (clrLen (of_decide_eq_true (and2_1 hk25)))⟩, (clrLen (of_decide_eq_true (and2_1 hk25)))⟩ ?_
      have hl27 : i15.toNat = ((l16.take i15.toNat ++ List.replicate (l16.length - i15.toNat) (([] : (List Int)) : (List Int))).take i15.toNat).length := by rw [List.length_take, Nat.min_eq_left (of_decide_eq_true (and2_1 hk26))]
      refine AK.go tab_ok hC [.x (fun σ => (σ.set 200000 (.arr 1 (((l16.take i15.toNat ++ List.replicate (l16.length - i15.toNat) (([] : (List Int)) : (List Int))).take i15.toNat).map row_LI))).put 41 (.own 200000 i15.toNat)), .say 41 (.own 200000 ((l16.take i15.toNat ++ List.replicate (l16.length - i15.toNat) (([] : (List Int)) : (List Int))).take i15.toNat).length), .n 4, .keep [4] [200000, 200001]] rfl ⟨⟨trivial, (Stp.sliceO rfl rfl (hC ▸ rfl) rfl rfl (tab_ok.es rfl) Bnd.no (Bnd.val rfl (of_decide_eq_true (and2_0 hk26)) rfl) (of_decide_eq_true (and2_1 hk26)) (by simp))⟩, (sayLen (of_decide_eq_true (and2_1 hk26)))⟩ ?_
      obtain rfl := Option.some.inj h
      refine AK.done ?_
      exact Exists.intro [_] (And.intro (And.intro rfl trivial) (gives ⟨rfl, rfl, trivial⟩))

-- 58 (baldric/bag.counts).within
noncomputable def F_bag_counts_within_m1 (m2 : (List (Int × Int))) (k7 : Int) (v8 : Int) : Option (Unit ⊕ Unit) :=
  bif (decide (((mget m2 k7).getD 0) < v8)) then
  some (.inr ())
  else
  some (.inl ())

noncomputable def F_bag_counts_within_c2 : Option Bool :=
  some true

noncomputable def F_bag_counts_within_c3 : Option Bool :=
  some false

noncomputable def F_bag_counts_within (m1 : (List (Int × Int))) (m2 : (List (Int × Int))) : Option Bool :=
  (rangeM (fun st p => F_bag_counts_within_m1 m2 p.1 p.2) () m1).bind (Sum.elim (fun q => F_bag_counts_within_c2) (fun q => F_bag_counts_within_c3))

set_option maxRecDepth 100000 in
set_option maxHeartbeats 4000000 in
theorem F_bag_counts_within_ok (m1 : (List (Int × Int))) (m2 : (List (Int × Int))) {r : Bool} (h : F_bag_counts_within m1 m2 = some r) : ACalls Tryz.prog 58 [.map 200000, .map 200001] [(200000, .map (mapV (V.i .i64) (V.i .i64) m1)), (200001, .map (mapV (V.i .i64) (V.i .i64) m2))] (Gives (.b r) []) := by
  refine ACalls.walk 19 Tryz.func58 rfl Tryz.ntmps58 rfl fun C hC => ?_
  unfold F_bag_counts_within at h
  refine AK.go tab_ok hC [.n 9] rfl trivial ?_
  refine AK.openMap (b := 200000) ky_3 rfl fun bm5 cl5 L5 hbn5 hpm5 => ?_
  refine AK.go tab_ok hC [.x (fun σ => (σ.set 8 (.itr bm5 cl5 #[] none)).put 8 (.loc 8 0 0)), .n 3, .keep [1, 8] [8, 200000, 200001]] rfl ⟨trivial, (Stp.range (b := 200000) rfl rfl (hC ▸ rfl) rfl rfl mt_111 rfl)⟩ ?_
  obtain ⟨o10, hl10, h⟩ := bindE h
  refine AK.range (body := (fun st p => F_bag_counts_within_m1 m2 p.1 p.2)) (fun st seen σ => ∃ cur : Option MapEntry, σ = ⟨[(1, .map 200001), (8, .loc 8 0 0)], [(8, .itr bm5 cl5 seen cur), (200000, .mapX bm5 cl5 (typV (V.i .i64) (V.i .i64) L5) (mapV (V.i .i64) (V.i .i64) m1)), (200001, .map (mapV (V.i .i64) (V.i .i64) m2))]⟩) (fun q e σ => e = .ret ∧ σ = ⟨[(4, .b false)], []⟩) (fun st e σ => e = .exit 0 ∧ σ = ⟨[], []⟩) hbn5 hpm5 hl10 (Exists.intro _ rfl) ?_ ?_
  · rintro _ seen σ ⟨cur, rfl⟩ hex
    refine AK.go tab_ok hC [.n 2] rfl trivial ?_
    refine AK.nextT (b := 8) (m := 200000) rfl rfl rfl (hC ▸ rfl) rfl rfl rfl rfl ?_ ?_
    · intro hleft
      refine AK.go tab_ok hC [.n 7, .keep [] []] rfl trivial ?_
      exact AK.done (Or.inl (And.intro hleft (And.intro (fun h => (by cases h)) (And.intro rfl rfl))))
    · intro xk7 k7 v8 hq6
      obtain ⟨o, h⟩ := hex _ hq6
      have ho := h
      replace h : F_bag_counts_within_m1 m2 k7 v8 = some o := h
      unfold F_bag_counts_within_m1 at h
      refine AK.go tab_ok hC [.n 10, .x (fun σ => σ.put 11 (.tup [.i .i64 k7, .i .i64 v8])), .n 11, .o (.any (.i .i64 ((mget m2 k7).getD 0)) none), .n 3] rfl ⟨⟨trivial, (Stp.entryT (b := 8) (m := 200000) rfl rfl (hC ▸ rfl) rfl hq6 rfl rfl)⟩, (fun σ h1 h2 _ => Stp.lookup (e := (V.i .i64)) (f := (V.i .i64)) (l := m2) (k := k7) (z := 0) rfl rfl (hC ▸ rfl) (h1 _ _ rfl) (h2 _ _ rfl) (h1 _ _ rfl) mt_111 ky_3 zi_3 rfl)⟩ ?_
      rcases bifE h with ⟨hc9, h⟩ | ⟨hc9, h⟩
      · refine AK.go tab_ok hC [.br true, .n 7, .keep [4] []] rfl ⟨trivial, hc9⟩ ?_
        obtain rfl := Option.some.inj h
        exact AK.done (Or.inr (Exists.intro _ (And.intro hq6 (Or.inr (Exists.intro _ (And.intro ho (And.intro (fun h => (by cases h)) (And.intro rfl rfl))))))))
      · refine AK.go tab_ok hC [.br false, .n 2, .keep [1, 8] [8, 200000, 200001]] rfl ⟨trivial, hc9⟩ ?_
        obtain rfl := Option.some.inj h
        exact AK.done (Or.inr (Exists.intro _ (And.intro hq6 (Or.inl (Exists.intro _ (And.intro ho (And.intro rfl (Exists.intro _ rfl))))))))
  · rcases o10 with (_ | _)
    · replace h : F_bag_counts_within_c2 = some r := h
      unfold F_bag_counts_within_c2 at h
      rintro e σ ⟨rfl, rfl⟩
      refine AK.go tab_ok hC [.n 8, .keep [4] []] rfl trivial ?_
      obtain rfl := Option.some.inj h
      refine AK.done ?_
      exact Exists.intro [_] (And.intro (And.intro rfl trivial) (gives trivial))
    · replace h : F_bag_counts_within_c3 = some r := h
      unfold F_bag_counts_within_c3 at h
      rintro e σ ⟨rfl, rfl⟩
      refine AK.go tab_ok hC [.n 2, .keep [4] []] rfl trivial ?_
      obtain rfl := Option.some.inj h
      refine AK.done ?_
      exact Exists.intro [_] (And.intro (And.intro rfl trivial) (gives trivial))

-- 45 baldric/bag.Within
noncomputable def F_bag_Within_a1 (a6 : Unit) : Option Bool :=
  some false

noncomputable def F_bag_Within_a2 (a7 : (List (Int × Int))) : Option Bool :=
  some false

noncomputable def F_bag_Within_a3 (a8 : (List (Int × Int))) : Option Bool :=
  some false

noncomputable def F_bag_Within_a4 (a9 : ((List (Int × Int)) × (List (Int × Int)))) : Option Bool :=
  (F_bag_counts_within a9.1 a9.2).bind fun x10 =>
  some x10

noncomputable def F_bag_Within (a1 : (List (Int × Int))) (b2 : (List (Int × Int))) : Option Bool :=
  (F_bag_both a1 b2).bind (Sum.elim (fun q => F_bag_Within_a1 q) (Sum.elim (fun q => F_bag_Within_a2 q) (Sum.elim (fun q => F_bag_Within_a3 q) (fun q => F_bag_Within_a4 q))))

set_option maxRecDepth 100000 in
set_option maxHeartbeats 4000000 in
theorem F_bag_Within_ok (a1 : (List (Int × Int))) (b2 : (List (Int × Int))) {r : Bool} (h : F_bag_Within a1 b2 = some r) : ACalls Tryz.prog 45 [.sl 2 (a1.map row_A2I), .sl 2 (b2.map row_A2I)] [] (Gives (.b r) []) := by
  refine ACalls.walk 21 Tryz.func45 rfl Tryz.ntmps45 rfl fun C hC => ?_
  unfold F_bag_Within at h
  obtain ⟨x5, hx5, h⟩ := bindE h
  refine AK.go tab_ok hC [.n 9] rfl trivial ?_
  rcases x5 with (a6 | (a7 | (a8 | a9)))
  · replace h : F_bag_Within_a1 a6 = some r := h
    unfold F_bag_Within_a1 at h
    refine AK.go tab_ok hC [.cm (.fn) [] [] [] [.d, .d] [] (.tup [.lit (.map none), .lit (.map none), .b false]), .n 21, .keep [4] []] rfl ⟨trivial, (F_bag_both_ok _ _ hx5)⟩ ?_
    obtain rfl := Option.some.inj h
    refine AK.done ?_
    exact Exists.intro [_] (And.intro (And.intro rfl trivial) (gives trivial))
  · replace h : F_bag_Within_a2 a7 = some r := h
    unfold F_bag_Within_a2 at h
    refine AK.go tab_ok hC [.cm (.fn) [] [(11, 30005)] [] [.d, .d] [(30005, .map (mapV (V.i .i64) (V.i .i64) a7))] (.tup [.lit (.map none), .map 30005, .b false]), .n 21, .keep [4] []] rfl ⟨trivial, (F_bag_both_ok _ _ hx5)⟩ ?_
    obtain rfl := Option.some.inj h
    refine AK.done ?_
    exact Exists.intro [_] (And.intro (And.intro rfl trivial) (gives trivial))
  · replace h : F_bag_Within_a3 a8 = some r := h
    unfold F_bag_Within_a3 at h
    refine AK.go tab_ok hC [.cm (.fn) [] [(11, 30004)] [] [.d, .d] [(30004, .map (mapV (V.i .i64) (V.i .i64) a8))] (.tup [.map 30004, .lit (.map none), .b false]), .n 21, .keep [4] []] rfl ⟨trivial, (F_bag_both_ok _ _ hx5)⟩ ?_
    obtain rfl := Option.some.inj h
    refine AK.done ?_
    exact Exists.intro [_] (And.intro (And.intro rfl trivial) (gives trivial))
  · replace h : F_bag_Within_a4 a9 = some r := h
    unfold F_bag_Within_a4 at h
    obtain ⟨x10, hx10, h⟩ := bindE h
    refine AK.go tab_ok hC [.cm (.fn) [] [(11, 30004), (50000, 30005)] [] [.d, .d] [(30004, .map (mapV (V.i .i64) (V.i .i64) a9.1)), (30005, .map (mapV (V.i .i64) (V.i .i64) a9.2))] (.tup [.map 30004, .map 30005, .b true]), .n 15, .cm (.fn) [(200000, 11), (200001, 50000)] [] [11, 50000] [.d, .d] [] (.b x10), .n 5, .keep [4] []] rfl ⟨⟨trivial, (F_bag_both_ok _ _ hx5)⟩, (F_bag_counts_within_ok _ _ hx10)⟩ ?_
    obtain rfl := Option.some.inj h
    refine AK.done ?_
    exact Exists.intro [_] (And.intro (And.intro rfl trivial) (gives trivial))

-- 44 slices.EqualFunc[baldric/api.Marking,baldric/api.Marking,baldric/api.Bag,baldric/api.Bag]
noncomputable def F_slices_EqualFunc_api_Marking_api_Marking_api_Bag_api_Bag_l1 (s1 : (List (List (Int × Int)))) (s2 : (List (List (Int × Int)))) (x6 : Int) : Option (Int ⊕ (Unit ⊕ Unit)) :=
  bif (decide (x6 < (s1.length : Int))) then
  (idx s1 x6).bind fun e9 =>
  (idx s2 x6).bind fun e10 =>
  (F_bag_Within e9 e10).bind fun x11 =>
  bif (!x11) then
  some (.inr (.inl ()))
  else
  some (.inl (w64 (x6 + 1)))
  else
  some (.inr (.inr ()))

noncomputable def F_slices_EqualFunc_api_Marking_api_Marking_api_Bag_api_Bag_c2 : Option Bool :=
  some false

noncomputable def F_slices_EqualFunc_api_Marking_api_Marking_api_Bag_api_Bag_c3 : Option Bool :=
  some true

noncomputable def F_slices_EqualFunc_api_Marking_api_Marking_api_Bag_api_Bag (s1 : (List (List (Int × Int)))) (s2 : (List (List (Int × Int)))) : Option Bool :=
  bif ((s1.length : Int) != (s2.length : Int)) then
  some false
  else
  (loopM (fun st => F_slices_EqualFunc_api_Marking_api_Marking_api_Bag_api_Bag_l1 s1 s2 st) 0).bind (Sum.elim (fun q => F_slices_EqualFunc_api_Marking_api_Marking_api_Bag_api_Bag_c2) (fun q => F_slices_EqualFunc_api_Marking_api_Marking_api_Bag_api_Bag_c3))

set_option maxRecDepth 100000 in
set_option maxHeartbeats 4000000 in
theorem F_slices_EqualFunc_api_Marking_api_Marking_api_Bag_api_Bag_ok (s1 : (List (List (Int × Int)))) (s2 : (List (List (Int × Int)))) {r : Bool} (h : F_slices_EqualFunc_api_Marking_api_Marking_api_Bag_api_Bag s1 s2 = some r) : ACalls Tryz.prog 44 [.sl 1 (s1.map row_LA2I), .sl 1 (s2.map row_LA2I), .clo (.func 45) [] []] [] (Gives (.b r) []) := by
  refine ACalls.walk 32 Tryz.func44 rfl Tryz.ntmps44 rfl fun C hC => ?_
  unfold F_slices_EqualFunc_api_Marking_api_Marking_api_Bag_api_Bag at h
  refine AK.go tab_ok hC [.n 9, .o (.ln s1.length), .n 1, .o (.ln s2.length), .n 3] rfl ⟨⟨trivial, mapLen⟩, mapLen⟩ ?_
  rcases bifE h with ⟨hc5, h⟩ | ⟨hc5, h⟩
  · refine AK.go tab_ok hC [.br true, .n 7, .keep [6] []] rfl ⟨trivial, hc5⟩ ?_
    obtain rfl := Option.some.inj h
    refine AK.done ?_
    exact Exists.intro [_] (And.intro (And.intro rfl trivial) (gives trivial))
  · refine AK.go tab_ok hC [.br false, .n 6, .o (.ln s1.length), .n 4, .keep [1, 2, 15, 16, 17] []] rfl ⟨⟨trivial, hc5⟩, mapLen⟩ ?_
    obtain ⟨o13, hl13, h⟩ := bindE h
    refine AK.loop (body := (fun st => F_slices_EqualFunc_api_Marking_api_Marking_api_Bag_api_Bag_l1 s1 s2 st)) (fun st σ => σ = ⟨[(1, .sl 1 (s2.map row_LA2I)), (2, .clo (.func 45) [] []), (15, .sl 1 (s1.map row_LA2I)), (16, .i .i64 (s1.length : Int)), (17, .i .i64 st)], []⟩) (Sum.elim (fun q e σ => e = .ret ∧ σ = ⟨[(6, .b false)], []⟩) (fun q e σ => e = .exit 0 ∧ σ = ⟨[], []⟩)) hl13 rfl ?_ ?_
    · rintro x6 o σ rfl h
      replace h : F_slices_EqualFunc_api_Marking_api_Marking_api_Bag_api_Bag_l1 s1 s2 x6 = some o := h
      unfold F_slices_EqualFunc_api_Marking_api_Marking_api_Bag_api_Bag_l1 at h
      refine AK.go tab_ok hC [.n 6] rfl trivial ?_
      rcases bifE h with ⟨hc8, h⟩ | ⟨hc8, h⟩
      · obtain ⟨e9, he9, h⟩ := bindE h
        obtain ⟨e10, he10, h⟩ := bindE h
        obtain ⟨x11, hx11, h⟩ := bindE h
        refine AK.go tab_ok hC [.br true, .n 7, .o (.row (row_LA2I e9)), .n 9, .o (.row (row_LA2I e10)), .n 9, .o (.c false [.d, .d] (.b x11)), .n 3] rfl ⟨⟨⟨⟨trivial, hc8⟩, (idxM he9)⟩, (idxM he10)⟩, (F_bag_Within_ok _ _ hx11)⟩ ?_
        rcases bifE h with ⟨hc12, h⟩ | ⟨hc12, h⟩
        · refine AK.go tab_ok hC [.br true, .n 8, .keep [6] []] rfl ⟨trivial, hc12⟩ ?_
          obtain rfl := Option.some.inj h
          exact rndR rfl (And.intro rfl rfl)
        · refine AK.go tab_ok hC [.br false, .n 7, .keep [1, 2, 15, 16, 17] []] rfl ⟨trivial, hc12⟩ ?_
          obtain rfl := Option.some.inj h
          exact rndN rfl rfl
      · refine AK.go tab_ok hC [.br false, .n 2, .keep [] []] rfl ⟨trivial, hc8⟩ ?_
        obtain rfl := Option.some.inj h
        exact rndX rfl (And.intro rfl rfl)
    · rcases o13 with (_ | _)
      · replace h : F_slices_EqualFunc_api_Marking_api_Marking_api_Bag_api_Bag_c2 = some r := h
        unfold F_slices_EqualFunc_api_Marking_api_Marking_api_Bag_api_Bag_c2 at h
        rintro e σ ⟨rfl, rfl⟩
        refine AK.go tab_ok hC [.n 2, .keep [6] []] rfl trivial ?_
        obtain rfl := Option.some.inj h
        refine AK.done ?_
        exact Exists.intro [_] (And.intro (And.intro rfl trivial) (gives trivial))
      · replace h : F_slices_EqualFunc_api_Marking_api_Marking_api_Bag_api_Bag_c3 = some r := h
        unfold F_slices_EqualFunc_api_Marking_api_Marking_api_Bag_api_Bag_c3 at h
        rintro e σ ⟨rfl, rfl⟩
        refine AK.go tab_ok hC [.n 8, .keep [6] []] rfl trivial ?_
        obtain rfl := Option.some.inj h
        refine AK.done ?_
        exact Exists.intro [_] (And.intro (And.intro rfl trivial) (gives trivial))

-- 31 baldric/bind.within
noncomputable def F_bind_within (need1 : (List (List (Int × Int)))) (m2 : (List (List (Int × Int)))) : Option Bool :=
  (F_slices_EqualFunc_api_Marking_api_Marking_api_Bag_api_Bag need1 m2).bind fun x4 =>
  some x4

set_option maxRecDepth 100000 in
set_option maxHeartbeats 4000000 in
theorem F_bind_within_ok (need1 : (List (List (Int × Int)))) (m2 : (List (List (Int × Int)))) {r : Bool} (h : F_bind_within need1 m2 = some r) : ACalls Tryz.prog 31 [.sl 1 (need1.map row_LA2I), .sl 1 (m2.map row_LA2I)] [] (Gives (.b r) []) := by
  refine ACalls.walk 8 Tryz.func31 rfl Tryz.ntmps31 rfl fun C hC => ?_
  unfold F_bind_within at h
  obtain ⟨x4, hx4, h⟩ := bindE h
  refine AK.go tab_ok hC [.n 9, .cm (.fn) [] [] [] [.d, .d, .d] [] (.b x4), .n 4, .keep [4] []] rfl ⟨trivial, (F_slices_EqualFunc_api_Marking_api_Marking_api_Bag_api_Bag_ok _ _ hx4)⟩ ?_
  obtain rfl := Option.some.inj h
  refine AK.done ?_
  exact Exists.intro [_] (And.intro (And.intro rfl trivial) (gives trivial))

-- 46 slices.Index[[]int,int]
noncomputable def F_slices_Index_int_int_l1 (s1 : (List Int)) (v2 : Int) (x5 : Int) : Option (Int ⊕ (Int ⊕ Unit)) :=
  bif (decide (x5 < (s1.length : Int))) then
  (idx s1 x5).bind fun e9 =>
  bif (v2 == e9) then
  some (.inr (.inl x5))
  else
  some (.inl (w64 (x5 + 1)))
  else
  some (.inr (.inr ()))

noncomputable def F_slices_Index_int_int_c2 (x7 : Int) : Option Int :=
  some x7

noncomputable def F_slices_Index_int_int_c3 : Option Int :=
  some (-1)

noncomputable def F_slices_Index_int_int (s1 : (List Int)) (v2 : Int) : Option Int :=
  (loopM (fun st => F_slices_Index_int_int_l1 s1 v2 st) 0).bind (Sum.elim (fun q => F_slices_Index_int_int_c2 q) (fun q => F_slices_Index_int_int_c3))

set_option maxRecDepth 100000 in
set_option maxHeartbeats 4000000 in
theorem F_slices_Index_int_int_ok (s1 : (List Int)) (v2 : Int) {r : Int} (h : F_slices_Index_int_int s1 v2 = some r) : ACalls Tryz.prog 46 [.sl 1 (s1.map row_I), .i .i64 v2] [] (Gives (.i .i64 r) []) := by
  refine ACalls.walk 19 Tryz.func46 rfl Tryz.ntmps46 rfl fun C hC => ?_
  unfold F_slices_Index_int_int at h
  refine AK.go tab_ok hC [.n 9, .o (.ln s1.length), .n 4, .keep [0, 1, 7, 8] []] rfl ⟨trivial, mapLen⟩ ?_
  obtain ⟨o11, hl11, h⟩ := bindE h
  refine AK.loop (body := (fun st => F_slices_Index_int_int_l1 s1 v2 st)) (fun st σ => σ = ⟨[(0, .sl 1 (s1.map row_I)), (1, .i .i64 v2), (7, .i .i64 (s1.length : Int)), (8, .i .i64 st)], []⟩) (Sum.elim (fun q e σ => e = .ret ∧ σ = ⟨[(4, .i .i64 q)], []⟩) (fun q e σ => e = .exit 0 ∧ σ = ⟨[], []⟩)) hl11 rfl ?_ ?_
  · rintro x5 o σ rfl h
    replace h : F_slices_Index_int_int_l1 s1 v2 x5 = some o := h
    unfold F_slices_Index_int_int_l1 at h
    refine AK.go tab_ok hC [.n 6] rfl trivial ?_
    rcases bifE h with ⟨hc8, h⟩ | ⟨hc8, h⟩
    · obtain ⟨e9, he9, h⟩ := bindE h
      refine AK.go tab_ok hC [.br true, .n 15, .o (.row (row_I e9)), .n 4] rfl ⟨⟨trivial, hc8⟩, (idxM he9)⟩ ?_
      rcases bifE h with ⟨hc10, h⟩ | ⟨hc10, h⟩
      · refine AK.go tab_ok hC [.br true, .n 9, .keep [4] []] rfl ⟨trivial, hc10⟩ ?_
        obtain rfl := Option.some.inj h
        exact rndR rfl (And.intro rfl rfl)
      · refine AK.go tab_ok hC [.br false, .n 7, .keep [0, 1, 7, 8] []] rfl ⟨trivial, hc10⟩ ?_
        obtain rfl := Option.some.inj h
        exact rndN rfl rfl
    · refine AK.go tab_ok hC [.br false, .n 2, .keep [] []] rfl ⟨trivial, hc8⟩ ?_
      obtain rfl := Option.some.inj h
      exact rndX rfl (And.intro rfl rfl)
  · rcases o11 with (x7 | _)
    · replace h : F_slices_Index_int_int_c2 x7 = some r := h
      unfold F_slices_Index_int_int_c2 at h
      rintro e σ ⟨rfl, rfl⟩
      refine AK.go tab_ok hC [.n 2, .keep [4] []] rfl trivial ?_
      obtain rfl := Option.some.inj h
      refine AK.done ?_
      exact Exists.intro [_] (And.intro (And.intro rfl trivial) (gives trivial))
    · replace h : F_slices_Index_int_int_c3 = some r := h
      unfold F_slices_Index_int_int_c3 at h
      rintro e σ ⟨rfl, rfl⟩
      refine AK.go tab_ok hC [.n 8, .keep [4] []] rfl trivial ?_
      obtain rfl := Option.some.inj h
      refine AK.done ?_
      exact Exists.intro [_] (And.intro (And.intro rfl trivial) (gives trivial))

-- 32 slices.Contains[[]int,int]
noncomputable def F_slices_Contains_int_int (s1 : (List Int)) (v2 : Int) : Option Bool :=
  (F_slices_Index_int_int s1 v2).bind fun x4 =>
  some (decide (0 ≤ x4))

set_option maxRecDepth 100000 in
set_option maxHeartbeats 4000000 in
theorem F_slices_Contains_int_int_ok (s1 : (List Int)) (v2 : Int) {r : Bool} (h : F_slices_Contains_int_int s1 v2 = some r) : ACalls Tryz.prog 32 [.sl 1 (s1.map row_I), .i .i64 v2] [] (Gives (.b r) []) := by
  refine ACalls.walk 9 Tryz.func32 rfl Tryz.ntmps32 rfl fun C hC => ?_
  unfold F_slices_Contains_int_int at h
  obtain ⟨x4, hx4, h⟩ := bindE h
  refine AK.go tab_ok hC [.n 9, .o (.c false [.d, .d] (.i .i64 x4)), .n 5, .keep [4] []] rfl ⟨trivial, (F_slices_Index_int_int_ok _ _ hx4)⟩ ?_
  obtain rfl := Option.some.inj h
  refine AK.done ?_
  exact Exists.intro [_] (And.intro (And.intro rfl trivial) (gives trivial))

-- 21 (baldric/bind.binder).takes
noncomputable def F_bind_binder_takes_k1 (x10 : Int) : Option (Int ⊕ (Unit ⊕ Unit)) :=
  some (.inl (w64 (x10 + 1)))

noncomputable def F_bind_binder_takes_g2 (x19 : ((List (List (Int × Int))) × Int)) (b1 : Tbind_binder) : Option Bool :=
  bif (x19.2 == 0) then
  (F_bind_within x19.1 b1.m).bind fun x23 =>
  some x23
  else
  some false

noncomputable def F_bind_binder_takes_k3 (x10 : Int) (x20 : Bool) : Option (Int ⊕ (Unit ⊕ Unit)) :=
  bif x20 then
  some (.inr (.inl ()))
  else
  F_bind_binder_takes_k1 x10

noncomputable def F_bind_binder_takes_l4 (b1 : Tbind_binder) (ins2 : (List Int)) (x10 : Int) : Option (Int ⊕ (Unit ⊕ Unit)) :=
  bif (decide (x10 < (b1.task.Ins.length : Int))) then
  (F_slices_Contains_int_int ins2 x10).bind fun x13 =>
  bif x13 then
  F_bind_binder_takes_k1 x10
  else
  (F_slices_Clone_int_int ins2).bind fun x15 =>
  (chk (decide (x15.length + ([x10] : List Int).length ≤ 4294967296))).bind fun _ =>
  (F_slices_Sort_int_int_v2 (x15 ++ ([x10] : List Int))).bind fun x17 =>
  (chk (decide (x17.length = (x15 ++ ([x10] : List Int)).length))).bind fun _ =>
  (F_bind_tokens b1.net b1.task.Ins x17 b1.env).bind fun x19 =>
  (F_bind_binder_takes_g2 x19 b1).bind (fun x20 => F_bind_binder_takes_k3 x10 x20)
  else
  some (.inr (.inr ()))

noncomputable def F_bind_binder_takes_c5 : Option Int :=
  some 11

noncomputable def F_bind_binder_takes_c6 : Option Int :=
  some 0

noncomputable def F_bind_binder_takes (b1 : Tbind_binder) (ins2 : (List Int)) : Option Int :=
  (F_bind_tokens b1.net b1.task.Ins ins2 b1.env).bind fun x5 =>
  bif (x5.2 != 0) then
  some x5.2
  else
  (F_bind_within x5.1 b1.m).bind fun x7 =>
  bif (!x7) then
  some 10
  else
  bif (b1.task.Join != 3) then
  some 0
  else
  (loopM (fun st => F_bind_binder_takes_l4 b1 ins2 st) 0).bind (Sum.elim (fun q => F_bind_binder_takes_c5) (fun q => F_bind_binder_takes_c6))

set_option maxRecDepth 100000 in
set_option maxHeartbeats 4000000 in
theorem F_bind_binder_takes_ok (b1 : Tbind_binder) (ins2 : (List Int)) {r : Int} (h : F_bind_binder_takes b1 ins2 = some r) : ACalls Tryz.prog 21 [.agg (row_Tbind_binder b1), .sl 1 (ins2.map row_I)] [] (Gives (.i .i64 r) []) := by
  refine ACalls.walk 76 Tryz.func21 rfl Tryz.ntmps21 rfl fun C hC => ?_
  unfold F_bind_binder_takes at h
  obtain ⟨x5, hx5, h⟩ := bindE h
  refine AK.go tab_ok hC [.n 9, .v .no [] (.agg (row_TNet b1.net)), .n 6, .o (.c false [.d, .d, .d, .d] (.tup [.sl 1 (x5.1.map row_LA2I), .i .i64 x5.2])), .n 16] rfl ⟨⟨trivial, rfl⟩, (F_bind_tokens_ok _ _ _ _ hx5)⟩ ?_
  rcases bifE h with ⟨hc6, h⟩ | ⟨hc6, h⟩
  · refine AK.go tab_ok hC [.br true, .n 9, .keep [4] []] rfl ⟨trivial, hc6⟩ ?_
    obtain rfl := Option.some.inj h
    refine AK.done ?_
    exact Exists.intro [_] (And.intro (And.intro rfl trivial) (gives trivial))
  · obtain ⟨x7, hx7, h⟩ := bindE h
    refine AK.go tab_ok hC [.br false, .n 5, .o (.c false [.d, .d] (.b x7)), .n 4] rfl ⟨⟨trivial, hc6⟩, (F_bind_within_ok _ _ hx7)⟩ ?_
    rcases bifE h with ⟨hc8, h⟩ | ⟨hc8, h⟩
    · refine AK.go tab_ok hC [.br true, .n 8, .keep [4] []] rfl ⟨trivial, hc8⟩ ?_
      obtain rfl := Option.some.inj h
      refine AK.done ?_
      exact Exists.intro [_] (And.intro (And.intro rfl trivial) (gives trivial))
    · refine AK.go tab_ok hC [.br false, .n 9] rfl ⟨trivial, hc8⟩ ?_
      rcases bifE h with ⟨hc9, h⟩ | ⟨hc9, h⟩
      · refine AK.go tab_ok hC [.br true, .n 8, .keep [4] []] rfl ⟨trivial, hc9⟩ ?_
        obtain rfl := Option.some.inj h
        refine AK.done ?_
        exact Exists.intro [_] (And.intro (And.intro rfl trivial) (gives trivial))
      · refine AK.go tab_ok hC [.br false, .n 9, .o (.ln b1.task.Ins.length), .n 4, .keep [1, 2, 41, 42] [2]] rfl ⟨⟨trivial, hc9⟩, mapLen⟩ ?_
        obtain ⟨o25, hl25, h⟩ := bindE h
        refine AK.loop (body := (fun st => F_bind_binder_takes_l4 b1 ins2 st)) (fun st σ => σ = ⟨[(1, .sl 1 (ins2.map row_I)), (2, .loc 2 0 0), (41, .i .i64 (b1.task.Ins.length : Int)), (42, .i .i64 st)], [(2, .var (row_Tbind_binder b1))]⟩) (Sum.elim (fun q e σ => e = .ret ∧ σ = ⟨[(4, .i .i64 11)], []⟩) (fun q e σ => e = .exit 1 ∧ σ = ⟨[], []⟩)) hl25 rfl ?_ ?_
        · rintro x10 o σ rfl h
          replace h : F_bind_binder_takes_l4 b1 ins2 x10 = some o := h
          unfold F_bind_binder_takes_l4 at h
          refine AK.go tab_ok hC [.n 6] rfl trivial ?_
          rcases bifE h with ⟨hc12, h⟩ | ⟨hc12, h⟩
          · refine AK.go tab_ok hC [.br true, .n 2] rfl ⟨trivial, hc12⟩ ?_
            refine AK.meet (fun σ => σ = ⟨[(1, .sl 1 (ins2.map row_I)), (2, .loc 2 0 0), (41, .i .i64 (b1.task.Ins.length : Int)), (42, .i .i64 x10)], [(2, .var (row_Tbind_binder b1))]⟩ ∧ F_bind_binder_takes_k1 x10 = some o) ?_ ?_
            · obtain ⟨x13, hx13, h⟩ := bindE h
              refine AK.go tab_ok hC [.n 12, .o (.c false [.d, .d] (.b x13)), .n 2] rfl ⟨trivial, (F_slices_Contains_int_int_ok _ _ hx13)⟩ ?_
              rcases bifE h with ⟨hc14, h⟩ | ⟨hc14, h⟩
              · refine AK.go tab_ok hC [.br true, .n 3, .keep [1, 2, 41, 42] [2]] rfl ⟨trivial, hc14⟩ ?_
                exact AK.met (And.intro rfl h)
              · obtain ⟨x15, hx15, h⟩ := bindE h
                obtain ⟨_, hk16, h⟩ := bindE h
                replace hk16 := chkE hk16
                obtain ⟨x17, hx17, h⟩ := bindE h
                obtain ⟨_, hk18, h⟩ := bindE h
                replace hk18 := chkE hk18
                obtain ⟨x19, hx19, h⟩ := bindE h
                refine AK.go tab_ok hC [.br false, .n 5, .o (.co false [.d] 1 (x15.map row_I) x15.length), .n 1, .v (.bd []) [] (.sl 1 (([x10] : List Int).map row_I)), .app ((x15 ++ ([x10] : List Int)).map row_I) (x15 ++ ([x10] : List Int)).length, .n 6, .cm (.fn) [(200000, 49)] [(49, 200000)] [] [.d] [(200000, .arr 1 (x17.map row_I))] (.tup []), .say 8 (.own 49 x17.length), .say 52 (.own 49 x17.length), .say 53 (.own 49 x17.length), .n 5, .v .no [] (.agg (row_TNet b1.net)), .n 6, .frz 49 (x17.map row_I) [8, 52, 53, 61] [], .o (.c false [.d, .d, .d, .d] (.tup [.sl 1 (x19.1.map row_LA2I), .i .i64 x19.2])), .n 8] rfl ⟨⟨⟨⟨⟨⟨⟨⟨⟨⟨⟨trivial, hc14⟩, ⟨(F_slices_Clone_int_int_ok _ hx15), mapLen, .inl rfl⟩⟩, rfl⟩, ⟨mapLen, appLim hk16 mapLen, mapApps, appLn mapLen⟩⟩, (F_slices_Sort_int_int_v2_ok _ hx17)⟩, (by simp [of_decide_eq_true hk18])⟩, (by simp [of_decide_eq_true hk18])⟩, (by simp [of_decide_eq_true hk18])⟩, rfl⟩, ⟨⟨⟨⟨trivial, (frzL mapLen)⟩, (frzL mapLen)⟩, (frzL mapLen)⟩, (frzL mapLen)⟩⟩, (F_bind_tokens_ok _ _ _ _ hx19)⟩ ?_
                obtain ⟨x20, hv21, h⟩ := bindE h
                replace h : F_bind_binder_takes_k3 x10 x20 = some o := h
                refine AK.meetX (fun σ => σ = ⟨[(1, .sl 1 (ins2.map row_I)), (2, .loc 2 0 0), (41, .i .i64 (b1.task.Ins.length : Int)), (42, .i .i64 x10), (74, .b x20)], [(2, .var (row_Tbind_binder b1))]⟩) ?_ ?_
                · replace h := hv21
                  unfold F_bind_binder_takes_g2 at h
                  refine AK.go tab_ok hC [.n 4] rfl trivial ?_
                  rcases bifE h with ⟨hc22, h⟩ | ⟨hc22, h⟩
                  · obtain ⟨x23, hx23, h⟩ := bindE h
                    refine AK.go tab_ok hC [.say 69 (.b true), .n 3, .o (.c false [.d, .d] (.b x23)), .n 2, .keep [1, 2, 41, 42, 74] [2]] rfl ⟨⟨trivial, (congrArg V.b hc22)⟩, (F_bind_within_ok _ _ hx23)⟩ ?_
                    obtain rfl := Option.some.inj h
                    exact AK.met rfl
                  · refine AK.go tab_ok hC [.say 69 (.b false), .n 6, .keep [1, 2, 41, 42, 74] [2]] rfl ⟨trivial, (congrArg V.b hc22)⟩ ?_
                    obtain rfl := Option.some.inj h
                    exact AK.met rfl
                · rintro σ rfl
                  replace h : F_bind_binder_takes_k3 x10 x20 = some o := h
                  unfold F_bind_binder_takes_k3 at h
                  refine AK.go tab_ok hC [.n 1] rfl trivial ?_
                  rcases bifE h with ⟨hc24, h⟩ | ⟨hc24, h⟩
                  · refine AK.go tab_ok hC [.br true, .n 8, .keep [4] []] rfl ⟨trivial, hc24⟩ ?_
                    obtain rfl := Option.some.inj h
                    exact rndR rfl (And.intro rfl rfl)
                  · refine AK.go tab_ok hC [.br false, .n 2, .keep [1, 2, 41, 42] [2]] rfl ⟨trivial, hc24⟩ ?_
                    exact AK.met (And.intro rfl h)
            · rintro σ ⟨rfl, h⟩
              unfold F_bind_binder_takes_k1 at h
              refine AK.go tab_ok hC [.n 4, .keep [1, 2, 41, 42] [2]] rfl trivial ?_
              obtain rfl := Option.some.inj h
              exact rndN rfl rfl
          · refine AK.go tab_ok hC [.br false, .n 2, .keep [] []] rfl ⟨trivial, hc12⟩ ?_
            obtain rfl := Option.some.inj h
            exact rndX rfl (And.intro rfl rfl)
        · rcases o25 with (_ | _)
          · replace h : F_bind_binder_takes_c5 = some r := h
            unfold F_bind_binder_takes_c5 at h
            rintro e σ ⟨rfl, rfl⟩
            refine AK.go tab_ok hC [.n 2, .keep [4] []] rfl trivial ?_
            obtain rfl := Option.some.inj h
            refine AK.done ?_
            exact Exists.intro [_] (And.intro (And.intro rfl trivial) (gives trivial))
          · replace h : F_bind_binder_takes_c6 = some r := h
            unfold F_bind_binder_takes_c6 at h
            rintro e σ ⟨rfl, rfl⟩
            refine AK.go tab_ok hC [.n 8, .keep [4] []] rfl trivial ?_
            obtain rfl := Option.some.inj h
            refine AK.done ?_
            exact Exists.intro [_] (And.intro (And.intro rfl trivial) (gives trivial))

-- 9 baldric/bind.Modes
noncomputable def F_bind_Modes_v2_round_g1 (x13 : (Int × Tbind_binder)) : Option Bool :=
  bif (x13.1 != 0) then
  some true
  else
  (F_bind_binder_guarded x13.2).bind fun x17 =>
  some (x17 != 0)

noncomputable def F_bind_Modes_v2_round_k2 (x22 : Int) (l29 : (List TMode)) : Option ((Int × (List TMode)) ⊕ ((List TMode) ⊕ (List TMode))) :=
  some (.inl ((w64 (x22 + 1)), l29))

noncomputable def F_bind_Modes_v2_round_l3 (x20 : (List (List Int))) (p9 : (List Int)) (e30 : (List Int)) (v3 : Int) (v4 : Int) (x34 : Int) (l35 : (List TMode)) : Option ((Int × (List TMode)) ⊕ ((List TMode) ⊕ (List TMode))) :=
  bif (decide (x34 < (x20.length : Int))) then
  (idx x20 x34).bind fun e41 =>
  (F_slices_Clone_int_int p9).bind fun x42 =>
  (F_slices_Clone_int_int e30).bind fun x43 =>
  (F_slices_Clone_int_int e41).bind fun x44 =>
  (chk (decide (l35.length + ([(TMode.mk v3 x42 x43 x44)] : List TMode).length ≤ 4294967296))).bind fun _ =>
  bif (((l35 ++ [(TMode.mk v3 x42 x43 x44)]).length : Int) == v4) then
  some (.inr (.inl (l35 ++ [(TMode.mk v3 x42 x43 x44)])))
  else
  some (.inl ((w64 (x34 + 1)), (l35 ++ [(TMode.mk v3 x42 x43 x44)])))
  else
  some (.inr (.inr l35))

noncomputable def F_bind_Modes_v2_round_c4 (l38 : (List TMode)) : Option ((Int × (List TMode)) ⊕ ((List TMode) ⊕ (List TMode))) :=
  some (.inr (.inl l38))

noncomputable def F_bind_Modes_v2_round_c5 (x22 : Int) (l39 : (List TMode)) : Option ((Int × (List TMode)) ⊕ ((List TMode) ⊕ (List TMode))) :=
  F_bind_Modes_v2_round_k2 x22 l39

noncomputable def F_bind_Modes_v2_round_l6 (v6 : (List (List Int))) (x13 : (Int × Tbind_binder)) (x20 : (List (List Int))) (p9 : (List Int)) (v3 : Int) (v4 : Int) (x22 : Int) (l23 : (List TMode)) : Option ((Int × (List TMode)) ⊕ ((List TMode) ⊕ (List TMode))) :=
  bif (decide (x22 < (v6.length : Int))) then
  (idx v6 x22).bind fun e30 =>
  (F_bind_binder_takes x13.2 e30).bind fun x31 =>
  bif (x31 != 0) then
  F_bind_Modes_v2_round_k2 x22 l23
  else
  (loopM (fun st => F_bind_Modes_v2_round_l3 x20 p9 e30 v3 v4 st.1 st.2) (0, l23)).bind (Sum.elim (fun q => F_bind_Modes_v2_round_c4 q) (fun q => F_bind_Modes_v2_round_c5 x22 q))
  else
  some (.inr (.inr l23))

noncomputable def F_bind_Modes_v2_round_c7 (l26 : (List TMode)) : Option ((List TMode) ⊕ (List TMode)) :=
  some (.inl l26)

noncomputable def F_bind_Modes_v2_round_c8 (l27 : (List TMode)) : Option ((List TMode) ⊕ (List TMode)) :=
  some (.inr l27)

noncomputable def F_bind_Modes_v2_round_k9 (l8 : (List TMode)) (v7 : (List (List Int))) (x13 : (Int × Tbind_binder)) (v6 : (List (List Int))) (p9 : (List Int)) (v3 : Int) (v4 : Int) (x14 : Bool) : Option ((List TMode) ⊕ (List TMode)) :=
  bif x14 then
  some (.inr l8)
  else
  (F_slices_Clone_int_int_v2 v7).bind fun x19 =>
  (F_slices_DeleteFunc_int_int_v2 x19 x13.2).bind fun x20 =>
  (loopM (fun st => F_bind_Modes_v2_round_l6 v6 x13 x20 p9 v3 v4 st.1 st.2) (0, l8)).bind (Sum.elim (fun q => F_bind_Modes_v2_round_c7 q) (fun q => F_bind_Modes_v2_round_c8 q))

noncomputable def F_bind_Modes_v2_round (v1 : TNet) (v2 : (List (List (Int × Int)))) (v3 : Int) (v4 : Int) (l5 : (List TMode)) (v6 : (List (List Int))) (v7 : (List (List Int))) (l8 : (List TMode)) (p9 : (List Int)) : Option ((List TMode) ⊕ (List TMode)) :=
  (F_bind_bound v1 v2 v3 p9).bind fun x13 =>
  (F_bind_Modes_v2_round_g1 x13).bind (fun x14 => F_bind_Modes_v2_round_k9 l8 v7 x13 v6 p9 v3 v4 x14)

set_option maxRecDepth 100000 in
set_option maxHeartbeats 4000000 in
theorem F_bind_Modes_v2_round_ok (lpl lpf : Nat) (v1 : TNet) (v2 : (List (List (Int × Int)))) (v3 : Int) (v4 : Int) (l5 : (List TMode)) (v6 : (List (List Int))) (v7 : (List (List Int))) (l8 : (List TMode)) (p9 : (List Int)) {r : ((List TMode) ⊕ (List TMode))} (h : F_bind_Modes_v2_round v1 v2 v3 v4 l5 v6 v7 l8 p9 = some r) : ARound Tryz.prog lpl (LK_9_0 lpf) [.junk, .junk, .junk, .junk, .loc 200001 0 0, .loc 200002 0 0, .loc 200003 0 0, .loc 200004 0 0, .loc 200005 0 0, .junk, .loc 200006 0 0, .loc 200007 0 0, .loc 200008 0 0, .junk, .junk, .junk, .junk, .junk, .junk, .junk, .junk, .junk, .junk, .junk, .junk, .junk, .junk, .junk, .junk, .junk, .junk, .junk, .junk, .junk, .junk, .junk, .junk, .junk, .junk, .junk, .junk, .junk, .junk, .junk, .junk, .junk, .junk, .junk, .junk, .junk, .junk, .junk, .junk, .junk, .sl 1 (p9.map row_I), .junk, .junk, .junk, .junk, .junk, .junk, .junk, .junk, .junk, .junk, .junk, .junk, .junk, .junk, .junk, .junk, .junk, .junk, .junk, .junk, .junk, .junk, .junk, .junk, .junk, .junk, .junk, .junk, .junk, .junk, .junk, .junk, .junk, .junk, .junk, .junk, .junk, .junk, .junk, .junk, .junk, .junk, .junk, .junk, .junk, .junk, .junk, .junk, .junk, .junk, .junk, .junk, .junk, .junk] [(200000, .lp lpl (LK_9_0 lpf) [.junk, .junk, .junk, .junk, .loc 200001 0 0, .loc 200002 0 0, .loc 200003 0 0, .loc 200004 0 0, .loc 200005 0 0, .junk, .loc 200006 0 0, .loc 200007 0 0, .loc 200008 0 0, .junk, .junk, .junk, .junk, .junk, .junk, .junk, .junk, .junk, .junk, .junk, .junk, .junk, .junk, .junk, .junk, .junk, .junk, .junk, .junk, .junk, .junk, .junk, .junk, .junk, .junk, .junk, .junk, .junk, .junk, .junk, .junk, .junk, .junk, .junk, .junk, .junk, .junk, .junk, .junk, .junk, .junk, .junk, .junk, .junk, .junk, .junk, .junk, .junk, .junk, .junk, .junk, .junk, .junk, .junk, .junk, .junk, .junk, .junk, .junk, .junk, .junk, .junk, .junk, .junk, .junk, .junk, .junk, .junk, .junk, .junk, .junk, .junk, .junk, .junk, .junk, .junk, .junk, .junk, .junk, .junk, .junk, .junk, .junk, .junk, .junk, .junk, .junk, .junk, .junk, .junk, .junk, .junk, .junk, .junk, .junk] 0), (200001, .var (row_TNet v1)), (200002, .var (row_LLA2I v2)), (200003, .var (row_I v3)), (200004, .var (row_I v4)), (200005, .var [.own 100000 l5.length]), (100000, .arr 4 (l5.map row_TMode)), (200006, .var (row_LLI v6)), (200007, .var (row_LLI v7)), (200008, .var [.own 100001 l8.length]), (100001, .arr 4 (l8.map row_TMode))] ((Sum.elim (fun q => (Gives (.b false) [(100000, .arr 4 (l5.map row_TMode)), (100001, .arr 4 (q.map row_TMode)), (200000, .lp lpl (LK_9_0 lpf) [.junk, .junk, .junk, .junk, .loc 200001 0 0, .loc 200002 0 0, .loc 200003 0 0, .loc 200004 0 0, .loc 200005 0 0, .junk, .loc 200006 0 0, .loc 200007 0 0, .loc 200008 0 0, .junk, .junk, .junk, .junk, .junk, .junk, .junk, .junk, .junk, .junk, .junk, .junk, .junk, .junk, .junk, .junk, .junk, .junk, .junk, .junk, .junk, .junk, .junk, .junk, .junk, .junk, .junk, .junk, .junk, .junk, .junk, .junk, .junk, .junk, .junk, .junk, .junk, .junk, .junk, .junk, .junk, .junk, .junk, .junk, .junk, .junk, .junk, .junk, .junk, .junk, .junk, .junk, .junk, .junk, .junk, .junk, .junk, .junk, .junk, .junk, .junk, .junk, .junk, .junk, .junk, .junk, .junk, .junk, .junk, .junk, .junk, .junk, .junk, .junk, .junk, .junk, .junk, .junk, .junk, .junk, .junk, .junk, .junk, .junk, .junk, .junk, .junk, .junk, .junk, .junk, .junk, .junk, .junk, .junk, .junk, .junk] 2), (200001, .var (row_TNet v1)), (200002, .var (row_LLA2I v2)), (200003, .var (row_I v3)), (200004, .var (row_I v4)), (200005, .var [.own 100001 q.length]), (200006, .var (row_LLI v6)), (200007, .var (row_LLI v7)), (200008, .var [.own 100001 q.length])])) (fun q => (Gives (.b true) [(100000, .arr 4 (l5.map row_TMode)), (100001, .arr 4 (q.map row_TMode)), (200000, .lp lpl (LK_9_0 lpf) [.junk, .junk, .junk, .junk, .loc 200001 0 0, .loc 200002 0 0, .loc 200003 0 0, .loc 200004 0 0, .loc 200005 0 0, .junk, .loc 200006 0 0, .loc 200007 0 0, .loc 200008 0 0, .junk, .junk, .junk, .junk, .junk, .junk, .junk, .junk, .junk, .junk, .junk, .junk, .junk, .junk, .junk, .junk, .junk, .junk, .junk, .junk, .junk, .junk, .junk, .junk, .junk, .junk, .junk, .junk, .junk, .junk, .junk, .junk, .junk, .junk, .junk, .junk, .junk, .junk, .junk, .junk, .junk, .junk, .junk, .junk, .junk, .junk, .junk, .junk, .junk, .junk, .junk, .junk, .junk, .junk, .junk, .junk, .junk, .junk, .junk, .junk, .junk, .junk, .junk, .junk, .junk, .junk, .junk, .junk, .junk, .junk, .junk, .junk, .junk, .junk, .junk, .junk, .junk, .junk, .junk, .junk, .junk, .junk, .junk, .junk, .junk, .junk, .junk, .junk, .junk, .junk, .junk, .junk, .junk, .junk, .junk, .junk] 0), (200001, .var (row_TNet v1)), (200002, .var (row_LLA2I v2)), (200003, .var (row_I v3)), (200004, .var (row_I v4)), (200005, .var [.own 100000 l5.length]), (200006, .var (row_LLI v6)), (200007, .var (row_LLI v7)), (200008, .var [.own 100001 q.length])]))) r) := by
  refine ARound.walk (b := 200000) 109 rfl rfl fun C hC => ?_
  unfold F_bind_Modes_v2_round at h
  refine AK.go tab_ok hC [.n 3] rfl trivial ?_
  refine AK.done (And.intro rfl (Exists.intro _ (And.intro rfl ?_)))
  obtain ⟨x13, hx13, h⟩ := bindE h
  refine AK.go tab_ok hC [.n 3, .v .no [] (.agg (row_TNet v1)), .n 3, .o (.c false [.d, .d, .d, .d] (.tup [.agg (row_Tbind_binder x13.2), .i .i64 x13.1])), .n 5, .sayO 14 (.var (row_Tbind_binder x13.2)), .n 5] rfl ⟨⟨⟨trivial, rfl⟩, (F_bind_bound_ok _ _ _ _ hx13)⟩, rfl⟩ ?_
  obtain ⟨x14, hv15, h⟩ := bindE h
  replace h : F_bind_Modes_v2_round_k9 l8 v7 x13 v6 p9 v3 v4 x14 = some r := h
  refine AK.meetX (fun σ => σ = ⟨[(6, .loc 200003 0 0), (7, .loc 200004 0 0), (8, .loc 200005 0 0), (10, .loc 200006 0 0), (11, .loc 200007 0 0), (12, .loc 200008 0 0), (13, .sl 1 (p9.map row_I)), (14, .loc 14 0 0), (69, .b x14)], [(14, .var (row_Tbind_binder x13.2)), (100000, .arr 4 (l5.map row_TMode)), (100001, .arr 4 (l8.map row_TMode)), (200000, .lp lpl (LK_9_0 lpf) [.junk, .junk, .junk, .junk, .loc 200001 0 0, .loc 200002 0 0, .loc 200003 0 0, .loc 200004 0 0, .loc 200005 0 0, .junk, .loc 200006 0 0, .loc 200007 0 0, .loc 200008 0 0, .junk, .junk, .junk, .junk, .junk, .junk, .junk, .junk, .junk, .junk, .junk, .junk, .junk, .junk, .junk, .junk, .junk, .junk, .junk, .junk, .junk, .junk, .junk, .junk, .junk, .junk, .junk, .junk, .junk, .junk, .junk, .junk, .junk, .junk, .junk, .junk, .junk, .junk, .junk, .junk, .junk, .junk, .junk, .junk, .junk, .junk, .junk, .junk, .junk, .junk, .junk, .junk, .junk, .junk, .junk, .junk, .junk, .junk, .junk, .junk, .junk, .junk, .junk, .junk, .junk, .junk, .junk, .junk, .junk, .junk, .junk, .junk, .junk, .junk, .junk, .junk, .junk, .junk, .junk, .junk, .junk, .junk, .junk, .junk, .junk, .junk, .junk, .junk, .junk, .junk, .junk, .junk, .junk, .junk, .junk, .junk] 1), (200001, .var (row_TNet v1)), (200002, .var (row_LLA2I v2)), (200003, .var (row_I v3)), (200004, .var (row_I v4)), (200005, .var [.own 100000 l5.length]), (200006, .var (row_LLI v6)), (200007, .var (row_LLI v7)), (200008, .var [.own 100001 l8.length])]⟩) ?_ ?_
  · replace h := hv15
    unfold F_bind_Modes_v2_round_g1 at h
    refine AK.go tab_ok hC [.n 4] rfl trivial ?_
    rcases bifE h with ⟨hc16, h⟩ | ⟨hc16, h⟩
    · refine AK.go tab_ok hC [.say 65 (.b true), .n 5, .keep [6, 7, 8, 10, 11, 12, 13, 14, 69] [14, 100000, 100001, 200000, 200001, 200002, 200003, 200004, 200005, 200006, 200007, 200008]] rfl ⟨trivial, (congrArg V.b hc16)⟩ ?_
      obtain rfl := Option.some.inj h
      exact AK.met rfl
    · obtain ⟨x17, hx17, h⟩ := bindE h
      refine AK.go tab_ok hC [.say 65 (.b false), .v .no [] (.agg (row_Tbind_binder x13.2)), .o (.c false [.d] (.i .i64 x17)), .n 3, .keep [6, 7, 8, 10, 11, 12, 13, 14, 69] [14, 100000, 100001, 200000, 200001, 200002, 200003, 200004, 200005, 200006, 200007, 200008]] rfl ⟨⟨⟨trivial, (congrArg V.b hc16)⟩, rfl⟩, (F_bind_binder_guarded_ok _ hx17)⟩ ?_
      obtain rfl := Option.some.inj h
      exact AK.met rfl
  · rintro σ rfl
    replace h : F_bind_Modes_v2_round_k9 l8 v7 x13 v6 p9 v3 v4 x14 = some r := h
    unfold F_bind_Modes_v2_round_k9 at h
    refine AK.go tab_ok hC [.n 1] rfl trivial ?_
    rcases bifE h with ⟨hc18, h⟩ | ⟨hc18, h⟩
    · refine AK.go tab_ok hC [.br true, .n 3, .keep [] [100000, 100001, 200000, 200001, 200002, 200003, 200004, 200005, 200006, 200007, 200008]] rfl ⟨trivial, hc18⟩ ?_
      obtain rfl := Option.some.inj h
      refine AK.done ?_
      exact Exists.intro _ (And.intro rfl (gives ⟨rfl, rfl, rfl, rfl, rfl, rfl, rfl, rfl, rfl, rfl, rfl, trivial⟩))
    · obtain ⟨x19, hx19, h⟩ := bindE h
      obtain ⟨x20, hx20, h⟩ := bindE h
      refine AK.go tab_ok hC [.br false, .n 5, .o (.co false [.d] 1 (x19.map row_LI) x19.length), .n 1, .cm (.fn) [(200000, 71), (200001, 14)] [(71, 200000), (14, 200001)] [] [.d, .d] [(200000, .arr 1 (x20.map row_LI)), (200001, .var (row_Tbind_binder x13.2))] (.own 200000 x20.length), .n 6, .o (.ln v6.length), .n 4, .keep [6, 7, 8, 12, 13, 14, 16, 74, 75, 76] [14, 71, 100000, 100001, 200000, 200001, 200002, 200003, 200004, 200005, 200006, 200007, 200008]] rfl ⟨⟨⟨⟨trivial, hc18⟩, ⟨(F_slices_Clone_int_int_v2_ok _ hx19), mapLen, .inl rfl⟩⟩, (F_slices_DeleteFunc_int_int_v2_ok _ _ hx20)⟩, mapLen⟩ ?_
      obtain ⟨o48, hl48, h⟩ := bindE h
      refine AK.loop (body := (fun st => F_bind_Modes_v2_round_l6 v6 x13 x20 p9 v3 v4 st.1 st.2)) (fun st σ => σ = ⟨[(6, .loc 200003 0 0), (7, .loc 200004 0 0), (8, .loc 200005 0 0), (12, .loc 200008 0 0), (13, .sl 1 (p9.map row_I)), (14, .loc 14 0 0), (16, .own 71 x20.length), (74, .sl 1 (v6.map row_LI)), (75, .i .i64 (v6.length : Int)), (76, .i .i64 st.1)], [(14, .var (row_Tbind_binder x13.2)), (71, .arr 1 (x20.map row_LI)), (100000, .arr 4 (l5.map row_TMode)), (100001, .arr 4 (st.2.map row_TMode)), (200000, .lp lpl (LK_9_0 lpf) [.junk, .junk, .junk, .junk, .loc 200001 0 0, .loc 200002 0 0, .loc 200003 0 0, .loc 200004 0 0, .loc 200005 0 0, .junk, .loc 200006 0 0, .loc 200007 0 0, .loc 200008 0 0, .junk, .junk, .junk, .junk, .junk, .junk, .junk, .junk, .junk, .junk, .junk, .junk, .junk, .junk, .junk, .junk, .junk, .junk, .junk, .junk, .junk, .junk, .junk, .junk, .junk, .junk, .junk, .junk, .junk, .junk, .junk, .junk, .junk, .junk, .junk, .junk, .junk, .junk, .junk, .junk, .junk, .junk, .junk, .junk, .junk, .junk, .junk, .junk, .junk, .junk, .junk, .junk, .junk, .junk, .junk, .junk, .junk, .junk, .junk, .junk, .junk, .junk, .junk, .junk, .junk, .junk, .junk, .junk, .junk, .junk, .junk, .junk, .junk, .junk, .junk, .junk, .junk, .junk, .junk, .junk, .junk, .junk, .junk, .junk, .junk, .junk, .junk, .junk, .junk, .junk, .junk, .junk, .junk, .junk, .junk, .junk] 1), (200001, .var (row_TNet v1)), (200002, .var (row_LLA2I v2)), (200003, .var (row_I v3)), (200004, .var (row_I v4)), (200005, .var [.own 100000 l5.length]), (200006, .var (row_LLI v6)), (200007, .var (row_LLI v7)), (200008, .var [.own 100001 st.2.length])]⟩) (Sum.elim (fun q e σ => e = .ret ∧ σ = ⟨[], [(100000, .arr 4 (l5.map row_TMode)), (100001, .arr 4 (q.map row_TMode)), (200000, .lp lpl (LK_9_0 lpf) [.junk, .junk, .junk, .junk, .loc 200001 0 0, .loc 200002 0 0, .loc 200003 0 0, .loc 200004 0 0, .loc 200005 0 0, .junk, .loc 200006 0 0, .loc 200007 0 0, .loc 200008 0 0, .junk, .junk, .junk, .junk, .junk, .junk, .junk, .junk, .junk, .junk, .junk, .junk, .junk, .junk, .junk, .junk, .junk, .junk, .junk, .junk, .junk, .junk, .junk, .junk, .junk, .junk, .junk, .junk, .junk, .junk, .junk, .junk, .junk, .junk, .junk, .junk, .junk, .junk, .junk, .junk, .junk, .junk, .junk, .junk, .junk, .junk, .junk, .junk, .junk, .junk, .junk, .junk, .junk, .junk, .junk, .junk, .junk, .junk, .junk, .junk, .junk, .junk, .junk, .junk, .junk, .junk, .junk, .junk, .junk, .junk, .junk, .junk, .junk, .junk, .junk, .junk, .junk, .junk, .junk, .junk, .junk, .junk, .junk, .junk, .junk, .junk, .junk, .junk, .junk, .junk, .junk, .junk, .junk, .junk, .junk, .junk] 1), (200001, .var (row_TNet v1)), (200002, .var (row_LLA2I v2)), (200003, .var (row_I v3)), (200004, .var (row_I v4)), (200005, .var [.own 100001 q.length]), (200006, .var (row_LLI v6)), (200007, .var (row_LLI v7)), (200008, .var [.own 100001 q.length])]⟩) (fun q e σ => e = .exit 2 ∧ σ = ⟨[], [(100000, .arr 4 (l5.map row_TMode)), (100001, .arr 4 (q.map row_TMode)), (200000, .lp lpl (LK_9_0 lpf) [.junk, .junk, .junk, .junk, .loc 200001 0 0, .loc 200002 0 0, .loc 200003 0 0, .loc 200004 0 0, .loc 200005 0 0, .junk, .loc 200006 0 0, .loc 200007 0 0, .loc 200008 0 0, .junk, .junk, .junk, .junk, .junk, .junk, .junk, .junk, .junk, .junk, .junk, .junk, .junk, .junk, .junk, .junk, .junk, .junk, .junk, .junk, .junk, .junk, .junk, .junk, .junk, .junk, .junk, .junk, .junk, .junk, .junk, .junk, .junk, .junk, .junk, .junk, .junk, .junk, .junk, .junk, .junk, .junk, .junk, .junk, .junk, .junk, .junk, .junk, .junk, .junk, .junk, .junk, .junk, .junk, .junk, .junk, .junk, .junk, .junk, .junk, .junk, .junk, .junk, .junk, .junk, .junk, .junk, .junk, .junk, .junk, .junk, .junk, .junk, .junk, .junk, .junk, .junk, .junk, .junk, .junk, .junk, .junk, .junk, .junk, .junk, .junk, .junk, .junk, .junk, .junk, .junk, .junk, .junk, .junk, .junk, .junk] 1), (200001, .var (row_TNet v1)), (200002, .var (row_LLA2I v2)), (200003, .var (row_I v3)), (200004, .var (row_I v4)), (200005, .var [.own 100000 l5.length]), (200006, .var (row_LLI v6)), (200007, .var (row_LLI v7)), (200008, .var [.own 100001 q.length])]⟩)) hl48 rfl ?_ ?_
      · rintro ⟨x22, l23⟩ o σ rfl h
        replace h : F_bind_Modes_v2_round_l6 v6 x13 x20 p9 v3 v4 x22 l23 = some o := h
        unfold F_bind_Modes_v2_round_l6 at h
        refine AK.go tab_ok hC [.n 6] rfl trivial ?_
        rcases bifE h with ⟨hc28, h⟩ | ⟨hc28, h⟩
        · refine AK.go tab_ok hC [.br true, .n 2] rfl ⟨trivial, hc28⟩ ?_
          refine AK.meet (fun σ => ∃ l29 : (List TMode), σ = ⟨[(6, .loc 200003 0 0), (7, .loc 200004 0 0), (8, .loc 200005 0 0), (12, .loc 200008 0 0), (13, .sl 1 (p9.map row_I)), (14, .loc 14 0 0), (16, .own 71 x20.length), (74, .sl 1 (v6.map row_LI)), (75, .i .i64 (v6.length : Int)), (76, .i .i64 x22)], [(14, .var (row_Tbind_binder x13.2)), (71, .arr 1 (x20.map row_LI)), (100000, .arr 4 (l5.map row_TMode)), (100001, .arr 4 (l29.map row_TMode)), (200000, .lp lpl (LK_9_0 lpf) [.junk, .junk, .junk, .junk, .loc 200001 0 0, .loc 200002 0 0, .loc 200003 0 0, .loc 200004 0 0, .loc 200005 0 0, .junk, .loc 200006 0 0, .loc 200007 0 0, .loc 200008 0 0, .junk, .junk, .junk, .junk, .junk, .junk, .junk, .junk, .junk, .junk, .junk, .junk, .junk, .junk, .junk, .junk, .junk, .junk, .junk, .junk, .junk, .junk, .junk, .junk, .junk, .junk, .junk, .junk, .junk, .junk, .junk, .junk, .junk, .junk, .junk, .junk, .junk, .junk, .junk, .junk, .junk, .junk, .junk, .junk, .junk, .junk, .junk, .junk, .junk, .junk, .junk, .junk, .junk, .junk, .junk, .junk, .junk, .junk, .junk, .junk, .junk, .junk, .junk, .junk, .junk, .junk, .junk, .junk, .junk, .junk, .junk, .junk, .junk, .junk, .junk, .junk, .junk, .junk, .junk, .junk, .junk, .junk, .junk, .junk, .junk, .junk, .junk, .junk, .junk, .junk, .junk, .junk, .junk, .junk, .junk, .junk] 1), (200001, .var (row_TNet v1)), (200002, .var (row_LLA2I v2)), (200003, .var (row_I v3)), (200004, .var (row_I v4)), (200005, .var [.own 100000 l5.length]), (200006, .var (row_LLI v6)), (200007, .var (row_LLI v7)), (200008, .var [.own 100001 l29.length])]⟩ ∧ F_bind_Modes_v2_round_k2 x22 l29 = some o) ?_ ?_
          · obtain ⟨e30, he30, h⟩ := bindE h
            obtain ⟨x31, hx31, h⟩ := bindE h
            refine AK.go tab_ok hC [.n 3, .o (.row (row_LI e30)), .n 7, .v .no [] (.agg (row_Tbind_binder x13.2)), .n 1, .o (.c false [.d, .d] (.i .i64 x31)), .n 3] rfl ⟨⟨⟨trivial, (idxM he30)⟩, rfl⟩, (F_bind_binder_takes_ok _ _ hx31)⟩ ?_
            rcases bifE h with ⟨hc32, h⟩ | ⟨hc32, h⟩
            · refine AK.go tab_ok hC [.br true, .n 3, .keep [6, 7, 8, 12, 13, 14, 16, 74, 75, 76] [14, 71, 100000, 100001, 200000, 200001, 200002, 200003, 200004, 200005, 200006, 200007, 200008]] rfl ⟨trivial, hc32⟩ ?_
              exact AK.met (Exists.intro _ (And.intro rfl h))
            · refine AK.go tab_ok hC [.br false, .n 10, .keep [6, 7, 8, 12, 13, 14, 16, 18, 74, 75, 76, 84, 85, 86] [14, 71, 100000, 100001, 200000, 200001, 200002, 200003, 200004, 200005, 200006, 200007, 200008]] rfl ⟨trivial, hc32⟩ ?_
              obtain ⟨o47, hl47, h⟩ := bindE h
              refine AK.loop (body := (fun st => F_bind_Modes_v2_round_l3 x20 p9 e30 v3 v4 st.1 st.2)) (fun st σ => σ = ⟨[(6, .loc 200003 0 0), (7, .loc 200004 0 0), (8, .loc 200005 0 0), (12, .loc 200008 0 0), (13, .sl 1 (p9.map row_I)), (14, .loc 14 0 0), (16, .own 71 x20.length), (18, .sl 1 (e30.map row_I)), (74, .sl 1 (v6.map row_LI)), (75, .i .i64 (v6.length : Int)), (76, .i .i64 x22), (84, .own 71 x20.length), (85, .i .i64 (x20.length : Int)), (86, .i .i64 st.1)], [(14, .var (row_Tbind_binder x13.2)), (71, .arr 1 (x20.map row_LI)), (100000, .arr 4 (l5.map row_TMode)), (100001, .arr 4 (st.2.map row_TMode)), (200000, .lp lpl (LK_9_0 lpf) [.junk, .junk, .junk, .junk, .loc 200001 0 0, .loc 200002 0 0, .loc 200003 0 0, .loc 200004 0 0, .loc 200005 0 0, .junk, .loc 200006 0 0, .loc 200007 0 0, .loc 200008 0 0, .junk, .junk, .junk, .junk, .junk, .junk, .junk, .junk, .junk, .junk, .junk, .junk, .junk, .junk, .junk, .junk, .junk, .junk, .junk, .junk, .junk, .junk, .junk, .junk, .junk, .junk, .junk, .junk, .junk, .junk, .junk, .junk, .junk, .junk, .junk, .junk, .junk, .junk, .junk, .junk, .junk, .junk, .junk, .junk, .junk, .junk, .junk, .junk, .junk, .junk, .junk, .junk, .junk, .junk, .junk, .junk, .junk, .junk, .junk, .junk, .junk, .junk, .junk, .junk, .junk, .junk, .junk, .junk, .junk, .junk, .junk, .junk, .junk, .junk, .junk, .junk, .junk, .junk, .junk, .junk, .junk, .junk, .junk, .junk, .junk, .junk, .junk, .junk, .junk, .junk, .junk, .junk, .junk, .junk, .junk, .junk] 1), (200001, .var (row_TNet v1)), (200002, .var (row_LLA2I v2)), (200003, .var (row_I v3)), (200004, .var (row_I v4)), (200005, .var [.own 100000 l5.length]), (200006, .var (row_LLI v6)), (200007, .var (row_LLI v7)), (200008, .var [.own 100001 st.2.length])]⟩) (Sum.elim (fun q e σ => e = .ret ∧ σ = ⟨[], [(100000, .arr 4 (l5.map row_TMode)), (100001, .arr 4 (q.map row_TMode)), (200000, .lp lpl (LK_9_0 lpf) [.junk, .junk, .junk, .junk, .loc 200001 0 0, .loc 200002 0 0, .loc 200003 0 0, .loc 200004 0 0, .loc 200005 0 0, .junk, .loc 200006 0 0, .loc 200007 0 0, .loc 200008 0 0, .junk, .junk, .junk, .junk, .junk, .junk, .junk, .junk, .junk, .junk, .junk, .junk, .junk, .junk, .junk, .junk, .junk, .junk, .junk, .junk, .junk, .junk, .junk, .junk, .junk, .junk, .junk, .junk, .junk, .junk, .junk, .junk, .junk, .junk, .junk, .junk, .junk, .junk, .junk, .junk, .junk, .junk, .junk, .junk, .junk, .junk, .junk, .junk, .junk, .junk, .junk, .junk, .junk, .junk, .junk, .junk, .junk, .junk, .junk, .junk, .junk, .junk, .junk, .junk, .junk, .junk, .junk, .junk, .junk, .junk, .junk, .junk, .junk, .junk, .junk, .junk, .junk, .junk, .junk, .junk, .junk, .junk, .junk, .junk, .junk, .junk, .junk, .junk, .junk, .junk, .junk, .junk, .junk, .junk, .junk, .junk] 1), (200001, .var (row_TNet v1)), (200002, .var (row_LLA2I v2)), (200003, .var (row_I v3)), (200004, .var (row_I v4)), (200005, .var [.own 100001 q.length]), (200006, .var (row_LLI v6)), (200007, .var (row_LLI v7)), (200008, .var [.own 100001 q.length])]⟩) (fun q e σ => e = .exit 4 ∧ σ = ⟨[(6, .loc 200003 0 0), (7, .loc 200004 0 0), (8, .loc 200005 0 0), (12, .loc 200008 0 0), (13, .sl 1 (p9.map row_I)), (14, .loc 14 0 0), (16, .own 71 x20.length), (74, .sl 1 (v6.map row_LI)), (75, .i .i64 (v6.length : Int)), (76, .i .i64 x22)], [(14, .var (row_Tbind_binder x13.2)), (71, .arr 1 (x20.map row_LI)), (100000, .arr 4 (l5.map row_TMode)), (100001, .arr 4 (q.map row_TMode)), (200000, .lp lpl (LK_9_0 lpf) [.junk, .junk, .junk, .junk, .loc 200001 0 0, .loc 200002 0 0, .loc 200003 0 0, .loc 200004 0 0, .loc 200005 0 0, .junk, .loc 200006 0 0, .loc 200007 0 0, .loc 200008 0 0, .junk, .junk, .junk, .junk, .junk, .junk, .junk, .junk, .junk, .junk, .junk, .junk, .junk, .junk, .junk, .junk, .junk, .junk, .junk, .junk, .junk, .junk, .junk, .junk, .junk, .junk, .junk, .junk, .junk, .junk, .junk, .junk, .junk, .junk, .junk, .junk, .junk, .junk, .junk, .junk, .junk, .junk, .junk, .junk, .junk, .junk, .junk, .junk, .junk, .junk, .junk, .junk, .junk, .junk, .junk, .junk, .junk, .junk, .junk, .junk, .junk, .junk, .junk, .junk, .junk, .junk, .junk, .junk, .junk, .junk, .junk, .junk, .junk, .junk, .junk, .junk, .junk, .junk, .junk, .junk, .junk, .junk, .junk, .junk, .junk, .junk, .junk, .junk, .junk, .junk, .junk, .junk, .junk, .junk, .junk, .junk] 1), (200001, .var (row_TNet v1)), (200002, .var (row_LLA2I v2)), (200003, .var (row_I v3)), (200004, .var (row_I v4)), (200005, .var [.own 100000 l5.length]), (200006, .var (row_LLI v6)), (200007, .var (row_LLI v7)), (200008, .var [.own 100001 q.length])]⟩)) hl47 rfl ?_ ?_
              · rintro ⟨x34, l35⟩ o σ rfl h
                replace h : F_bind_Modes_v2_round_l3 x20 p9 e30 v3 v4 x34 l35 = some o := h
                unfold F_bind_Modes_v2_round_l3 at h
                refine AK.go tab_ok hC [.n 6] rfl trivial ?_
                rcases bifE h with ⟨hc40, h⟩ | ⟨hc40, h⟩
                · obtain ⟨e41, he41, h⟩ := bindE h
                  obtain ⟨x42, hx42, h⟩ := bindE h
                  obtain ⟨x43, hx43, h⟩ := bindE h
                  obtain ⟨x44, hx44, h⟩ := bindE h
                  obtain ⟨_, hk45, h⟩ := bindE h
                  replace hk45 := chkE hk45
                  refine AK.go tab_ok hC [.br true, .n 7, .o (.row (row_LI e41)), .n 4, .keep [6, 7, 8, 12, 13, 14, 16, 18, 20, 74, 75, 76, 84, 85, 86] [14, 71, 100000, 100001, 200000, 200001, 200002, 200003, 200004, 200005, 200006, 200007, 200008]] rfl ⟨⟨⟨trivial, hc40⟩, (idxOw he41 rfl)⟩, (mapGet (idxE he41).2)⟩ ?_
                  refine AK.draw2 tab_ok hC mixed [.a .no none false, .a .no none false, .a .no none false, .a (.cd false [.d] 1 (x42.map row_I) x42.length) none false, .a .no none false, .a (.cd false [.d] 1 (x43.map row_I) x43.length) none false, .a .no none false, .a (.cd false [.d] 1 (x44.map row_I) x44.length) none false, .a .no (some ([], .agg (row_TMode (TMode.mk v3 x42 x43 x44)))) false, .a (.bd []) (some ([], .sl 4 (([(TMode.mk v3 x42 x43 x44)] : List TMode).map row_TMode))) false, .m (.app ((l35 ++ [(TMode.mk v3 x42 x43 x44)]).map row_TMode) (l35 ++ [(TMode.mk v3 x42 x43 x44)]).length), .m .s] [] [] [6, 7, 8, 12, 13, 14, 16, 18, 74, 75, 76, 84, 85, 86] [14, 71, 100000, 100001, 200000, 200001, 200002, 200003, 200004, 200005, 200006, 200007, 200008] rfl rfl rfl ⟨⟨⟨⟨⟨⟨trivial, ⟨(F_slices_Clone_int_int_ok _ hx42), mapLen⟩⟩, ⟨(F_slices_Clone_int_int_ok _ hx43), mapLen⟩⟩, ⟨(F_slices_Clone_int_int_ok _ hx44), mapLen⟩⟩, rfl⟩, rfl⟩, ⟨mapLen, appLim hk45 mapLen, mapApps, appLn mapLen⟩⟩ rfl (by kernel_rfl) rfl rfl rfl ?_
                  refine AK.go tab_ok hC [.sayO 200008 (.var [.own 100001 (l35 ++ [(TMode.mk v3 x42 x43 x44)]).length]), .n 9] rfl ⟨trivial, rfl⟩ ?_
                  rcases bifE h with ⟨hc46, h⟩ | ⟨hc46, h⟩
                  · refine AK.go tab_ok hC [.br true, .n 4, .sayO 200005 (.var [.own 100001 (l35 ++ [(TMode.mk v3 x42 x43 x44)]).length]), .n 5, .keep [] [100000, 100001, 200000, 200001, 200002, 200003, 200004, 200005, 200006, 200007, 200008]] rfl ⟨⟨trivial, hc46⟩, rfl⟩ ?_
                    obtain rfl := Option.some.inj h
                    exact rndR rfl (And.intro rfl rfl)
                  · refine AK.go tab_ok hC [.br false, .n 7, .keep [6, 7, 8, 12, 13, 14, 16, 18, 74, 75, 76, 84, 85, 86] [14, 71, 100000, 100001, 200000, 200001, 200002, 200003, 200004, 200005, 200006, 200007, 200008]] rfl ⟨trivial, hc46⟩ ?_
                    obtain rfl := Option.some.inj h
                    exact rndN rfl rfl
                · refine AK.go tab_ok hC [.br false, .n 2, .keep [6, 7, 8, 12, 13, 14, 16, 74, 75, 76] [14, 71, 100000, 100001, 200000, 200001, 200002, 200003, 200004, 200005, 200006, 200007, 200008]] rfl ⟨trivial, hc40⟩ ?_
                  obtain rfl := Option.some.inj h
                  exact rndX rfl (And.intro rfl rfl)
              · rcases o47 with (l38 | l39)
                · replace h : F_bind_Modes_v2_round_c4 l38 = some o := h
                  unfold F_bind_Modes_v2_round_c4 at h
                  rintro e σ ⟨rfl, rfl⟩
                  refine AK.go tab_ok hC [.n 3, .keep [] [100000, 100001, 200000, 200001, 200002, 200003, 200004, 200005, 200006, 200007, 200008]] rfl trivial ?_
                  obtain rfl := Option.some.inj h
                  exact rndR rfl (And.intro rfl rfl)
                · replace h : F_bind_Modes_v2_round_c5 x22 l39 = some o := h
                  unfold F_bind_Modes_v2_round_c5 at h
                  rintro e σ ⟨rfl, rfl⟩
                  refine AK.go tab_ok hC [.n 2, .keep [6, 7, 8, 12, 13, 14, 16, 74, 75, 76] [14, 71, 100000, 100001, 200000, 200001, 200002, 200003, 200004, 200005, 200006, 200007, 200008]] rfl trivial ?_
                  exact AK.met (Exists.intro _ (And.intro rfl h))
          · rintro σ ⟨l29, rfl, h⟩
            unfold F_bind_Modes_v2_round_k2 at h
            refine AK.go tab_ok hC [.n 4, .keep [6, 7, 8, 12, 13, 14, 16, 74, 75, 76] [14, 71, 100000, 100001, 200000, 200001, 200002, 200003, 200004, 200005, 200006, 200007, 200008]] rfl trivial ?_
            obtain rfl := Option.some.inj h
            exact rndN rfl rfl
        · refine AK.go tab_ok hC [.br false, .n 2, .keep [] [100000, 100001, 200000, 200001, 200002, 200003, 200004, 200005, 200006, 200007, 200008]] rfl ⟨trivial, hc28⟩ ?_
          obtain rfl := Option.some.inj h
          exact rndX rfl (And.intro rfl rfl)
      · rcases o48 with (l26 | l27)
        · replace h : F_bind_Modes_v2_round_c7 l26 = some r := h
          unfold F_bind_Modes_v2_round_c7 at h
          rintro e σ ⟨rfl, rfl⟩
          refine AK.go tab_ok hC [.n 2, .keep [] [100000, 100001, 200000, 200001, 200002, 200003, 200004, 200005, 200006, 200007, 200008]] rfl trivial ?_
          obtain rfl := Option.some.inj h
          refine AK.done ?_
          exact Exists.intro _ (And.intro rfl (gives ⟨rfl, rfl, rfl, rfl, rfl, rfl, rfl, rfl, rfl, rfl, rfl, trivial⟩))
        · replace h : F_bind_Modes_v2_round_c8 l27 = some r := h
          unfold F_bind_Modes_v2_round_c8 at h
          rintro e σ ⟨rfl, rfl⟩
          refine AK.go tab_ok hC [.n 2, .keep [] [100000, 100001, 200000, 200001, 200002, 200003, 200004, 200005, 200006, 200007, 200008]] rfl trivial ?_
          obtain rfl := Option.some.inj h
          refine AK.done ?_
          exact Exists.intro _ (And.intro rfl (gives ⟨rfl, rfl, rfl, rfl, rfl, rfl, rfl, rfl, rfl, rfl, rfl, trivial⟩))

-- 28 baldric/colour.Size
noncomputable def F_colour_Size (l1 : (List TColour)) (k2 : Int) : Option Int :=
  (F_colour_of l1 k2).bind fun x5 =>
  bif (!x5.1) then
  some 0
  else
  (idx x5.2.sizes k2).bind fun e7 =>
  some e7

set_option maxRecDepth 100000 in
set_option maxHeartbeats 4000000 in
theorem F_colour_Size_ok (l1 : (List TColour)) (k2 : Int) {r : Int} (h : F_colour_Size l1 k2 = some r) : ACalls Tryz.prog 28 [.sl 7 (l1.map row_TColour), .i .i64 k2] [] (Gives (.i .i64 r) []) := by
  refine ACalls.walk 20 Tryz.func28 rfl Tryz.ntmps28 rfl fun C hC => ?_
  unfold F_colour_Size at h
  obtain ⟨x5, hx5, h⟩ := bindE h
  refine AK.go tab_ok hC [.n 9, .o (.c false [.d, .d] (.tup [.agg (row_Tcolour_set x5.2), .b x5.1])), .n 5, .sayO 5 (.var (row_Tcolour_set x5.2)), .n 10] rfl ⟨⟨trivial, (F_colour_of_ok _ _ hx5)⟩, rfl⟩ ?_
  rcases bifE h with ⟨hc6, h⟩ | ⟨hc6, h⟩
  · refine AK.go tab_ok hC [.br true, .n 7, .keep [4] []] rfl ⟨trivial, hc6⟩ ?_
    obtain rfl := Option.some.inj h
    refine AK.done ?_
    exact Exists.intro [_] (And.intro (And.intro rfl trivial) (gives trivial))
  · obtain ⟨e7, he7, h⟩ := bindE h
    refine AK.go tab_ok hC [.br false, .n 7, .o (.row (row_I e7)), .n 5, .keep [4] []] rfl ⟨⟨trivial, hc6⟩, (idxM he7)⟩ ?_
    obtain rfl := Option.some.inj h
    refine AK.done ?_
    exact Exists.intro [_] (And.intro (And.intro rfl trivial) (gives trivial))

-- 27 baldric/bind.bindings$1
noncomputable def F_bind_bindings_1_a1 (a22 : (List TMode)) : Option (((List Int) × (List TMode)) ⊕ ((List TMode) ⊕ (List TMode))) :=
  some (.inr (.inr a22))

noncomputable def F_bind_bindings_1_g2 (at_25 : Int) (l26 : (List Int)) (v9 : TTask) (v10 : TNet) : Option Bool :=
  bif (decide (0 ≤ at_25)) then
  (idx l26 at_25).bind fun e34 =>
  (idx v9.Vars at_25).bind fun e35 =>
  (F_colour_Size v10.Colours e35.Colour).bind fun x36 =>
  some (decide (x36 ≤ (w64 (e34 + 1))))
  else
  some false

noncomputable def F_bind_bindings_1_k3 (l26 : (List Int)) (at_25 : Int) (x31 : Bool) : Option ((Int × (List Int)) ⊕ (Int × (List Int))) :=
  bif x31 then
  (idx l26 at_25).bind fun e38 =>
  some (.inl ((w64 (at_25 - 1)), (l26.set at_25.toNat 0)))
  else
  some (.inr (at_25, l26))

noncomputable def F_bind_bindings_1_l4 (v9 : TTask) (v10 : TNet) (at_25 : Int) (l26 : (List Int)) : Option ((Int × (List Int)) ⊕ (Int × (List Int))) :=
  (F_bind_bindings_1_g2 at_25 l26 v9 v10).bind (fun x31 => F_bind_bindings_1_k3 l26 at_25 x31)

noncomputable def F_bind_bindings_1_c5 (a23 : (List TMode)) (at_29 : Int) (l30 : (List Int)) : Option (((List Int) × (List TMode)) ⊕ ((List TMode) ⊕ (List TMode))) :=
  bif (decide (at_29 < 0)) then
  some (.inr (.inl a23))
  else
  (idx l30 at_29).bind fun e41 =>
  (idx l30 at_29).bind fun e42 =>
  some (.inl ((l30.set at_29.toNat (w64 (e41 + 1))), a23))

noncomputable def F_bind_bindings_1_a6 (v9 : TTask) (v10 : TNet) (l14 : (List Int)) (a23 : (List TMode)) : Option (((List Int) × (List TMode)) ⊕ ((List TMode) ⊕ (List TMode))) :=
  (loopM (fun st => F_bind_bindings_1_l4 v9 v10 st.1 st.2) ((w64 ((l14.length : Int) - 1)), l14)).bind (fun q => F_bind_bindings_1_c5 a23 q.1 q.2)

noncomputable def F_bind_bindings_1_l7 (v1 : TNet) (v2 : (List (List (Int × Int)))) (v3 : Int) (v4 : Int) (l5 : (List TMode)) (v6 : (List (List Int))) (v7 : (List (List Int))) (v9 : TTask) (v10 : TNet) (l14 : (List Int)) (l15 : (List TMode)) : Option (((List Int) × (List TMode)) ⊕ ((List TMode) ⊕ (List TMode))) :=
  (F_slices_Clone_int_int l14).bind fun x20 =>
  (F_bind_Modes_v2_round v1 v2 v3 v4 l5 v6 v7 l15 x20).bind (Sum.elim (fun q => F_bind_bindings_1_a1 q) (fun q => F_bind_bindings_1_a6 v9 v10 l14 q))

noncomputable def F_bind_bindings_1_c8 (l18 : (List TMode)) : Option ((List TMode) ⊕ (List TMode)) :=
  some (.inl l18)

noncomputable def F_bind_bindings_1_c9 (l19 : (List TMode)) : Option ((List TMode) ⊕ (List TMode)) :=
  some (.inr l19)

noncomputable def F_bind_bindings_1 (v1 : TNet) (v2 : (List (List (Int × Int)))) (v3 : Int) (v4 : Int) (l5 : (List TMode)) (v6 : (List (List Int))) (v7 : (List (List Int))) (l8 : (List TMode)) (v9 : TTask) (v10 : TNet) : Option ((List TMode) ⊕ (List TMode)) :=
  (chk (decide (0 ≤ (v9.Vars.length : Int)) && decide ((v9.Vars.length : Int) ≤ (v9.Vars.length : Int)) && decide ((v9.Vars.length : Int) ≤ 4294967296))).bind fun _ =>
  (loopM (fun st => F_bind_bindings_1_l7 v1 v2 v3 v4 l5 v6 v7 v9 v10 st.1 st.2) ((List.replicate (v9.Vars.length : Int).toNat (0 : Int)), l8)).bind (Sum.elim (fun q => F_bind_bindings_1_c8 q) (fun q => F_bind_bindings_1_c9 q))

set_option maxRecDepth 100000 in
set_option maxHeartbeats 4000000 in
theorem F_bind_bindings_1_ok (lpl lpf : Nat) (v1 : TNet) (v2 : (List (List (Int × Int)))) (v3 : Int) (v4 : Int) (l5 : (List TMode)) (v6 : (List (List Int))) (v7 : (List (List Int))) (l8 : (List TMode)) (v9 : TTask) (v10 : TNet) {r : ((List TMode) ⊕ (List TMode))} (h : F_bind_bindings_1 v1 v2 v3 v4 l5 v6 v7 l8 v9 v10 = some r) : ACalls Tryz.prog 27 [.clo (.yield lpl) [] [], .loc 200009 0 0, .loc 200010 0 0] [(200000, .lp lpl (LK_9_0 lpf) [.junk, .junk, .junk, .junk, .loc 200001 0 0, .loc 200002 0 0, .loc 200003 0 0, .loc 200004 0 0, .loc 200005 0 0, .junk, .loc 200006 0 0, .loc 200007 0 0, .loc 200008 0 0, .junk, .junk, .junk, .junk, .junk, .junk, .junk, .junk, .junk, .junk, .junk, .junk, .junk, .junk, .junk, .junk, .junk, .junk, .junk, .junk, .junk, .junk, .junk, .junk, .junk, .junk, .junk, .junk, .junk, .junk, .junk, .junk, .junk, .junk, .junk, .junk, .junk, .junk, .junk, .junk, .junk, .junk, .junk, .junk, .junk, .junk, .junk, .junk, .junk, .junk, .junk, .junk, .junk, .junk, .junk, .junk, .junk, .junk, .junk, .junk, .junk, .junk, .junk, .junk, .junk, .junk, .junk, .junk, .junk, .junk, .junk, .junk, .junk, .junk, .junk, .junk, .junk, .junk, .junk, .junk, .junk, .junk, .junk, .junk, .junk, .junk, .junk, .junk, .junk, .junk, .junk, .junk, .junk, .junk, .junk, .junk] 0), (200001, .var (row_TNet v1)), (200002, .var (row_LLA2I v2)), (200003, .var (row_I v3)), (200004, .var (row_I v4)), (200005, .var [.own 100000 l5.length]), (100000, .arr 4 (l5.map row_TMode)), (200006, .var (row_LLI v6)), (200007, .var (row_LLI v7)), (200008, .var [.own 100001 l8.length]), (100001, .arr 4 (l8.map row_TMode)), (200009, .var (row_TTask v9)), (200010, .var (row_TNet v10))] ((Sum.elim (fun q => (Gives (.tup []) [(100000, .arr 4 (l5.map row_TMode)), (100001, .arr 4 (q.map row_TMode)), (200000, .lp lpl (LK_9_0 lpf) [.junk, .junk, .junk, .junk, .loc 200001 0 0, .loc 200002 0 0, .loc 200003 0 0, .loc 200004 0 0, .loc 200005 0 0, .junk, .loc 200006 0 0, .loc 200007 0 0, .loc 200008 0 0, .junk, .junk, .junk, .junk, .junk, .junk, .junk, .junk, .junk, .junk, .junk, .junk, .junk, .junk, .junk, .junk, .junk, .junk, .junk, .junk, .junk, .junk, .junk, .junk, .junk, .junk, .junk, .junk, .junk, .junk, .junk, .junk, .junk, .junk, .junk, .junk, .junk, .junk, .junk, .junk, .junk, .junk, .junk, .junk, .junk, .junk, .junk, .junk, .junk, .junk, .junk, .junk, .junk, .junk, .junk, .junk, .junk, .junk, .junk, .junk, .junk, .junk, .junk, .junk, .junk, .junk, .junk, .junk, .junk, .junk, .junk, .junk, .junk, .junk, .junk, .junk, .junk, .junk, .junk, .junk, .junk, .junk, .junk, .junk, .junk, .junk, .junk, .junk, .junk, .junk, .junk, .junk, .junk, .junk, .junk, .junk] 0), (200001, .var (row_TNet v1)), (200002, .var (row_LLA2I v2)), (200003, .var (row_I v3)), (200004, .var (row_I v4)), (200005, .var [.own 100000 l5.length]), (200006, .var (row_LLI v6)), (200007, .var (row_LLI v7)), (200008, .var [.own 100001 q.length]), (200009, .var (row_TTask v9)), (200010, .var (row_TNet v10))])) (fun q => (Gives (.tup []) [(100000, .arr 4 (l5.map row_TMode)), (100001, .arr 4 (q.map row_TMode)), (200000, .lp lpl (LK_9_0 lpf) [.junk, .junk, .junk, .junk, .loc 200001 0 0, .loc 200002 0 0, .loc 200003 0 0, .loc 200004 0 0, .loc 200005 0 0, .junk, .loc 200006 0 0, .loc 200007 0 0, .loc 200008 0 0, .junk, .junk, .junk, .junk, .junk, .junk, .junk, .junk, .junk, .junk, .junk, .junk, .junk, .junk, .junk, .junk, .junk, .junk, .junk, .junk, .junk, .junk, .junk, .junk, .junk, .junk, .junk, .junk, .junk, .junk, .junk, .junk, .junk, .junk, .junk, .junk, .junk, .junk, .junk, .junk, .junk, .junk, .junk, .junk, .junk, .junk, .junk, .junk, .junk, .junk, .junk, .junk, .junk, .junk, .junk, .junk, .junk, .junk, .junk, .junk, .junk, .junk, .junk, .junk, .junk, .junk, .junk, .junk, .junk, .junk, .junk, .junk, .junk, .junk, .junk, .junk, .junk, .junk, .junk, .junk, .junk, .junk, .junk, .junk, .junk, .junk, .junk, .junk, .junk, .junk, .junk, .junk, .junk, .junk, .junk, .junk] 2), (200001, .var (row_TNet v1)), (200002, .var (row_LLA2I v2)), (200003, .var (row_I v3)), (200004, .var (row_I v4)), (200005, .var [.own 100001 q.length]), (200006, .var (row_LLI v6)), (200007, .var (row_LLI v7)), (200008, .var [.own 100001 q.length]), (200009, .var (row_TTask v9)), (200010, .var (row_TNet v10))]))) r) := by
  refine ACalls.walk 50 Tryz.func27 rfl Tryz.ntmps27 rfl fun C hC => ?_
  unfold F_bind_bindings_1 at h
  obtain ⟨_, hk13, h⟩ := bindE h
  replace hk13 := chkE hk13
  refine AK.go tab_ok hC [.n 4, .o (.ln v9.Vars.length), .o (.rows ((List.replicate (v9.Vars.length : Int).toNat (0 : Int)).map row_I)), .say 9 (.own 9 (List.replicate (v9.Vars.length : Int).toNat (0 : Int)).length), .n 4, .keep [0, 1, 2, 4] [9, 100000, 100001, 200000, 200001, 200002, 200003, 200004, 200005, 200006, 200007, 200008, 200009, 200010]] rfl ⟨⟨⟨trivial, mapLen⟩, ⟨hk13, mapRep rfl⟩⟩, (by simp)⟩ ?_
  obtain ⟨o43, hl43, h⟩ := bindE h
  refine AK.loop (body := (fun st => F_bind_bindings_1_l7 v1 v2 v3 v4 l5 v6 v7 v9 v10 st.1 st.2)) (fun st σ => σ = ⟨[(0, .clo (.yield lpl) [] []), (1, .loc 200009 0 0), (2, .loc 200010 0 0), (4, .own 9 st.1.length)], [(9, .arr 1 (st.1.map row_I)), (100000, .arr 4 (l5.map row_TMode)), (100001, .arr 4 (st.2.map row_TMode)), (200000, .lp lpl (LK_9_0 lpf) [.junk, .junk, .junk, .junk, .loc 200001 0 0, .loc 200002 0 0, .loc 200003 0 0, .loc 200004 0 0, .loc 200005 0 0, .junk, .loc 200006 0 0, .loc 200007 0 0, .loc 200008 0 0, .junk, .junk, .junk, .junk, .junk, .junk, .junk, .junk, .junk, .junk, .junk, .junk, .junk, .junk, .junk, .junk, .junk, .junk, .junk, .junk, .junk, .junk, .junk, .junk, .junk, .junk, .junk, .junk, .junk, .junk, .junk, .junk, .junk, .junk, .junk, .junk, .junk, .junk, .junk, .junk, .junk, .junk, .junk, .junk, .junk, .junk, .junk, .junk, .junk, .junk, .junk, .junk, .junk, .junk, .junk, .junk, .junk, .junk, .junk, .junk, .junk, .junk, .junk, .junk, .junk, .junk, .junk, .junk, .junk, .junk, .junk, .junk, .junk, .junk, .junk, .junk, .junk, .junk, .junk, .junk, .junk, .junk, .junk, .junk, .junk, .junk, .junk, .junk, .junk, .junk, .junk, .junk, .junk, .junk, .junk, .junk] 0), (200001, .var (row_TNet v1)), (200002, .var (row_LLA2I v2)), (200003, .var (row_I v3)), (200004, .var (row_I v4)), (200005, .var [.own 100000 l5.length]), (200006, .var (row_LLI v6)), (200007, .var (row_LLI v7)), (200008, .var [.own 100001 st.2.length]), (200009, .var (row_TTask v9)), (200010, .var (row_TNet v10))]⟩) (Sum.elim (fun q e σ => e = .ret ∧ σ = ⟨[], [(100000, .arr 4 (l5.map row_TMode)), (100001, .arr 4 (q.map row_TMode)), (200000, .lp lpl (LK_9_0 lpf) [.junk, .junk, .junk, .junk, .loc 200001 0 0, .loc 200002 0 0, .loc 200003 0 0, .loc 200004 0 0, .loc 200005 0 0, .junk, .loc 200006 0 0, .loc 200007 0 0, .loc 200008 0 0, .junk, .junk, .junk, .junk, .junk, .junk, .junk, .junk, .junk, .junk, .junk, .junk, .junk, .junk, .junk, .junk, .junk, .junk, .junk, .junk, .junk, .junk, .junk, .junk, .junk, .junk, .junk, .junk, .junk, .junk, .junk, .junk, .junk, .junk, .junk, .junk, .junk, .junk, .junk, .junk, .junk, .junk, .junk, .junk, .junk, .junk, .junk, .junk, .junk, .junk, .junk, .junk, .junk, .junk, .junk, .junk, .junk, .junk, .junk, .junk, .junk, .junk, .junk, .junk, .junk, .junk, .junk, .junk, .junk, .junk, .junk, .junk, .junk, .junk, .junk, .junk, .junk, .junk, .junk, .junk, .junk, .junk, .junk, .junk, .junk, .junk, .junk, .junk, .junk, .junk, .junk, .junk, .junk, .junk, .junk, .junk] 0), (200001, .var (row_TNet v1)), (200002, .var (row_LLA2I v2)), (200003, .var (row_I v3)), (200004, .var (row_I v4)), (200005, .var [.own 100000 l5.length]), (200006, .var (row_LLI v6)), (200007, .var (row_LLI v7)), (200008, .var [.own 100001 q.length]), (200009, .var (row_TTask v9)), (200010, .var (row_TNet v10))]⟩) (fun q e σ => e = .ret ∧ σ = ⟨[], [(100000, .arr 4 (l5.map row_TMode)), (100001, .arr 4 (q.map row_TMode)), (200000, .lp lpl (LK_9_0 lpf) [.junk, .junk, .junk, .junk, .loc 200001 0 0, .loc 200002 0 0, .loc 200003 0 0, .loc 200004 0 0, .loc 200005 0 0, .junk, .loc 200006 0 0, .loc 200007 0 0, .loc 200008 0 0, .junk, .junk, .junk, .junk, .junk, .junk, .junk, .junk, .junk, .junk, .junk, .junk, .junk, .junk, .junk, .junk, .junk, .junk, .junk, .junk, .junk, .junk, .junk, .junk, .junk, .junk, .junk, .junk, .junk, .junk, .junk, .junk, .junk, .junk, .junk, .junk, .junk, .junk, .junk, .junk, .junk, .junk, .junk, .junk, .junk, .junk, .junk, .junk, .junk, .junk, .junk, .junk, .junk, .junk, .junk, .junk, .junk, .junk, .junk, .junk, .junk, .junk, .junk, .junk, .junk, .junk, .junk, .junk, .junk, .junk, .junk, .junk, .junk, .junk, .junk, .junk, .junk, .junk, .junk, .junk, .junk, .junk, .junk, .junk, .junk, .junk, .junk, .junk, .junk, .junk, .junk, .junk, .junk, .junk, .junk, .junk] 2), (200001, .var (row_TNet v1)), (200002, .var (row_LLA2I v2)), (200003, .var (row_I v3)), (200004, .var (row_I v4)), (200005, .var [.own 100001 q.length]), (200006, .var (row_LLI v6)), (200007, .var (row_LLI v7)), (200008, .var [.own 100001 q.length]), (200009, .var (row_TTask v9)), (200010, .var (row_TNet v10))]⟩)) hl43 rfl ?_ ?_
  · rintro ⟨l14, l15⟩ o σ rfl h
    replace h : F_bind_bindings_1_l7 v1 v2 v3 v4 l5 v6 v7 v9 v10 l14 l15 = some o := h
    unfold F_bind_bindings_1_l7 at h
    obtain ⟨x20, hx20, h⟩ := bindE h
    obtain ⟨x21, hx21, h⟩ := bindE h
    refine AK.go tab_ok hC [.n 6, .o (.co true [.o (l14.map row_I)] 1 (x20.map row_I) x20.length), .frz 12 (x20.map row_I) [12] []] rfl ⟨⟨trivial, ⟨(viewMap rfl), ⟨(F_slices_Clone_int_int_ok _ hx20), mapLen, .inr (scaRows_I _)⟩⟩⟩, ⟨trivial, (frzL mapLen)⟩⟩ ?_
    rcases x21 with (a22 | a23)
    · replace h : F_bind_bindings_1_a1 a22 = some o := h
      unfold F_bind_bindings_1_a1 at h
      refine AK.go tab_ok hC [.x (fun σ => (σ.after [100000, 100001] [(100000, .arr 4 (l5.map row_TMode)), (100001, .arr 4 (a22.map row_TMode)), (200000, .lp lpl (LK_9_0 lpf) [.junk, .junk, .junk, .junk, .loc 200001 0 0, .loc 200002 0 0, .loc 200003 0 0, .loc 200004 0 0, .loc 200005 0 0, .junk, .loc 200006 0 0, .loc 200007 0 0, .loc 200008 0 0, .junk, .junk, .junk, .junk, .junk, .junk, .junk, .junk, .junk, .junk, .junk, .junk, .junk, .junk, .junk, .junk, .junk, .junk, .junk, .junk, .junk, .junk, .junk, .junk, .junk, .junk, .junk, .junk, .junk, .junk, .junk, .junk, .junk, .junk, .junk, .junk, .junk, .junk, .junk, .junk, .junk, .junk, .junk, .junk, .junk, .junk, .junk, .junk, .junk, .junk, .junk, .junk, .junk, .junk, .junk, .junk, .junk, .junk, .junk, .junk, .junk, .junk, .junk, .junk, .junk, .junk, .junk, .junk, .junk, .junk, .junk, .junk, .junk, .junk, .junk, .junk, .junk, .junk, .junk, .junk, .junk, .junk, .junk, .junk, .junk, .junk, .junk, .junk, .junk, .junk, .junk, .junk, .junk, .junk, .junk, .junk] 2), (200001, .var (row_TNet v1)), (200002, .var (row_LLA2I v2)), (200003, .var (row_I v3)), (200004, .var (row_I v4)), (200005, .var [.own 100001 a22.length]), (200006, .var (row_LLI v6)), (200007, .var (row_LLI v7)), (200008, .var [.own 100001 a22.length])]).put 13 (.b false)), .n 7, .keep [] [100000, 100001, 200000, 200001, 200002, 200003, 200004, 200005, 200006, 200007, 200008, 200009, 200010]] rfl ⟨trivial, (Stp.yieldV (b := 200000) (M := [(200000, 200000), (200001, 200001), (200002, 200002), (200003, 200003), (200004, 200004), (200005, 200005), (100000, 100000), (200006, 200006), (200007, 200007), (200008, 200008), (100001, 100001)]) (N := [(100000, 100000), (100001, 100001), (200000, 200000), (200001, 200001), (200002, 200002), (200003, 200003), (200004, 200004), (200005, 200005), (200006, 200006), (200007, 200007), (200008, 200008)]) (dead := [100000, 100001]) (ms := [.d, .d, .d, .d, .d, .d, .d, .d, .d, .d, .d, .d, .d, .d, .d, .d, .d, .d, .d, .d, .d, .d, .d, .d, .d, .d, .d, .d, .d, .d, .d, .d, .d, .d, .d, .d, .d, .d, .d, .d, .d, .d, .d, .d, .d, .d, .d, .d, .d, .d, .d, .d, .d, .d, .d, .d, .d, .d, .d, .d, .d, .d, .d, .d, .d, .d, .d, .d, .d, .d, .d, .d, .d, .d, .d, .d, .d, .d, .d, .d, .d, .d, .d, .d, .d, .d, .d, .d, .d, .d, .d, .d, .d, .d, .d, .d, .d, .d, .d, .d, .d, .d, .d, .d, .d, .d, .d, .d, .d]) (outs := [(100000, .arr 4 (l5.map row_TMode)), (100001, .arr 4 (a22.map row_TMode)), (200000, .lp lpl (LK_9_0 lpf) [.junk, .junk, .junk, .junk, .loc 200001 0 0, .loc 200002 0 0, .loc 200003 0 0, .loc 200004 0 0, .loc 200005 0 0, .junk, .loc 200006 0 0, .loc 200007 0 0, .loc 200008 0 0, .junk, .junk, .junk, .junk, .junk, .junk, .junk, .junk, .junk, .junk, .junk, .junk, .junk, .junk, .junk, .junk, .junk, .junk, .junk, .junk, .junk, .junk, .junk, .junk, .junk, .junk, .junk, .junk, .junk, .junk, .junk, .junk, .junk, .junk, .junk, .junk, .junk, .junk, .junk, .junk, .junk, .junk, .junk, .junk, .junk, .junk, .junk, .junk, .junk, .junk, .junk, .junk, .junk, .junk, .junk, .junk, .junk, .junk, .junk, .junk, .junk, .junk, .junk, .junk, .junk, .junk, .junk, .junk, .junk, .junk, .junk, .junk, .junk, .junk, .junk, .junk, .junk, .junk, .junk, .junk, .junk, .junk, .junk, .junk, .junk, .junk, .junk, .junk, .junk, .junk, .junk, .junk, .junk, .junk, .junk, .junk] 2), (200001, .var (row_TNet v1)), (200002, .var (row_LLA2I v2)), (200003, .var (row_I v3)), (200004, .var (row_I v4)), (200005, .var [.own 100001 a22.length]), (200006, .var (row_LLI v6)), (200007, .var (row_LLI v7)), (200008, .var [.own 100001 a22.length])]) (r := .b false) rfl rfl rfl rfl rfl rfl rfl (hC ▸ rfl) rfl rfl (F_bind_Modes_v2_round_ok _ _ _ _ _ _ _ _ _ _ _ hx21))⟩ ?_
      obtain rfl := Option.some.inj h
      exact rndR rfl (And.intro rfl rfl)
    · replace h : F_bind_bindings_1_a6 v9 v10 l14 a23 = some o := h
      unfold F_bind_bindings_1_a6 at h
      refine AK.go tab_ok hC [.x (fun σ => (σ.after [100000, 100001] [(100000, .arr 4 (l5.map row_TMode)), (100001, .arr 4 (a23.map row_TMode)), (200000, .lp lpl (LK_9_0 lpf) [.junk, .junk, .junk, .junk, .loc 200001 0 0, .loc 200002 0 0, .loc 200003 0 0, .loc 200004 0 0, .loc 200005 0 0, .junk, .loc 200006 0 0, .loc 200007 0 0, .loc 200008 0 0, .junk, .junk, .junk, .junk, .junk, .junk, .junk, .junk, .junk, .junk, .junk, .junk, .junk, .junk, .junk, .junk, .junk, .junk, .junk, .junk, .junk, .junk, .junk, .junk, .junk, .junk, .junk, .junk, .junk, .junk, .junk, .junk, .junk, .junk, .junk, .junk, .junk, .junk, .junk, .junk, .junk, .junk, .junk, .junk, .junk, .junk, .junk, .junk, .junk, .junk, .junk, .junk, .junk, .junk, .junk, .junk, .junk, .junk, .junk, .junk, .junk, .junk, .junk, .junk, .junk, .junk, .junk, .junk, .junk, .junk, .junk, .junk, .junk, .junk, .junk, .junk, .junk, .junk, .junk, .junk, .junk, .junk, .junk, .junk, .junk, .junk, .junk, .junk, .junk, .junk, .junk, .junk, .junk, .junk, .junk, .junk] 0), (200001, .var (row_TNet v1)), (200002, .var (row_LLA2I v2)), (200003, .var (row_I v3)), (200004, .var (row_I v4)), (200005, .var [.own 100000 l5.length]), (200006, .var (row_LLI v6)), (200007, .var (row_LLI v7)), (200008, .var [.own 100001 a23.length])]).put 13 (.b true)), .n 16, .keep [0, 1, 2, 4, 5] [9, 100000, 100001, 200000, 200001, 200002, 200003, 200004, 200005, 200006, 200007, 200008, 200009, 200010]] rfl ⟨trivial, (Stp.yieldV (b := 200000) (M := [(200000, 200000), (200001, 200001), (200002, 200002), (200003, 200003), (200004, 200004), (200005, 200005), (100000, 100000), (200006, 200006), (200007, 200007), (200008, 200008), (100001, 100001)]) (N := [(100000, 100000), (100001, 100001), (200000, 200000), (200001, 200001), (200002, 200002), (200003, 200003), (200004, 200004), (200005, 200005), (200006, 200006), (200007, 200007), (200008, 200008)]) (dead := [100000, 100001]) (ms := [.d, .d, .d, .d, .d, .d, .d, .d, .d, .d, .d, .d, .d, .d, .d, .d, .d, .d, .d, .d, .d, .d, .d, .d, .d, .d, .d, .d, .d, .d, .d, .d, .d, .d, .d, .d, .d, .d, .d, .d, .d, .d, .d, .d, .d, .d, .d, .d, .d, .d, .d, .d, .d, .d, .d, .d, .d, .d, .d, .d, .d, .d, .d, .d, .d, .d, .d, .d, .d, .d, .d, .d, .d, .d, .d, .d, .d, .d, .d, .d, .d, .d, .d, .d, .d, .d, .d, .d, .d, .d, .d, .d, .d, .d, .d, .d, .d, .d, .d, .d, .d, .d, .d, .d, .d, .d, .d, .d, .d]) (outs := [(100000, .arr 4 (l5.map row_TMode)), (100001, .arr 4 (a23.map row_TMode)), (200000, .lp lpl (LK_9_0 lpf) [.junk, .junk, .junk, .junk, .loc 200001 0 0, .loc 200002 0 0, .loc 200003 0 0, .loc 200004 0 0, .loc 200005 0 0, .junk, .loc 200006 0 0, .loc 200007 0 0, .loc 200008 0 0, .junk, .junk, .junk, .junk, .junk, .junk, .junk, .junk, .junk, .junk, .junk, .junk, .junk, .junk, .junk, .junk, .junk, .junk, .junk, .junk, .junk, .junk, .junk, .junk, .junk, .junk, .junk, .junk, .junk, .junk, .junk, .junk, .junk, .junk, .junk, .junk, .junk, .junk, .junk, .junk, .junk, .junk, .junk, .junk, .junk, .junk, .junk, .junk, .junk, .junk, .junk, .junk, .junk, .junk, .junk, .junk, .junk, .junk, .junk, .junk, .junk, .junk, .junk, .junk, .junk, .junk, .junk, .junk, .junk, .junk, .junk, .junk, .junk, .junk, .junk, .junk, .junk, .junk, .junk, .junk, .junk, .junk, .junk, .junk, .junk, .junk, .junk, .junk, .junk, .junk, .junk, .junk, .junk, .junk, .junk, .junk] 0), (200001, .var (row_TNet v1)), (200002, .var (row_LLA2I v2)), (200003, .var (row_I v3)), (200004, .var (row_I v4)), (200005, .var [.own 100000 l5.length]), (200006, .var (row_LLI v6)), (200007, .var (row_LLI v7)), (200008, .var [.own 100001 a23.length])]) (r := .b true) rfl rfl rfl rfl rfl rfl rfl (hC ▸ rfl) rfl rfl (F_bind_Modes_v2_round_ok _ _ _ _ _ _ _ _ _ _ _ hx21))⟩ ?_
      obtain ⟨o39, hl39, h⟩ := bindE h
      refine AK.loop (body := (fun st => F_bind_bindings_1_l4 v9 v10 st.1 st.2)) (fun st σ => σ = ⟨[(0, .clo (.yield lpl) [] []), (1, .loc 200009 0 0), (2, .loc 200010 0 0), (4, .own 9 st.2.length), (5, .i .i64 st.1)], [(9, .arr 1 (st.2.map row_I)), (100000, .arr 4 (l5.map row_TMode)), (100001, .arr 4 (a23.map row_TMode)), (200000, .lp lpl (LK_9_0 lpf) [.junk, .junk, .junk, .junk, .loc 200001 0 0, .loc 200002 0 0, .loc 200003 0 0, .loc 200004 0 0, .loc 200005 0 0, .junk, .loc 200006 0 0, .loc 200007 0 0, .loc 200008 0 0, .junk, .junk, .junk, .junk, .junk, .junk, .junk, .junk, .junk, .junk, .junk, .junk, .junk, .junk, .junk, .junk, .junk, .junk, .junk, .junk, .junk, .junk, .junk, .junk, .junk, .junk, .junk, .junk, .junk, .junk, .junk, .junk, .junk, .junk, .junk, .junk, .junk, .junk, .junk, .junk, .junk, .junk, .junk, .junk, .junk, .junk, .junk, .junk, .junk, .junk, .junk, .junk, .junk, .junk, .junk, .junk, .junk, .junk, .junk, .junk, .junk, .junk, .junk, .junk, .junk, .junk, .junk, .junk, .junk, .junk, .junk, .junk, .junk, .junk, .junk, .junk, .junk, .junk, .junk, .junk, .junk, .junk, .junk, .junk, .junk, .junk, .junk, .junk, .junk, .junk, .junk, .junk, .junk, .junk, .junk, .junk] 0), (200001, .var (row_TNet v1)), (200002, .var (row_LLA2I v2)), (200003, .var (row_I v3)), (200004, .var (row_I v4)), (200005, .var [.own 100000 l5.length]), (200006, .var (row_LLI v6)), (200007, .var (row_LLI v7)), (200008, .var [.own 100001 a23.length]), (200009, .var (row_TTask v9)), (200010, .var (row_TNet v10))]⟩) (fun q e σ => e = .exit 2 ∧ σ = ⟨[(0, .clo (.yield lpl) [] []), (1, .loc 200009 0 0), (2, .loc 200010 0 0), (4, .own 9 q.2.length), (5, .i .i64 q.1)], [(9, .arr 1 (q.2.map row_I)), (100000, .arr 4 (l5.map row_TMode)), (100001, .arr 4 (a23.map row_TMode)), (200000, .lp lpl (LK_9_0 lpf) [.junk, .junk, .junk, .junk, .loc 200001 0 0, .loc 200002 0 0, .loc 200003 0 0, .loc 200004 0 0, .loc 200005 0 0, .junk, .loc 200006 0 0, .loc 200007 0 0, .loc 200008 0 0, .junk, .junk, .junk, .junk, .junk, .junk, .junk, .junk, .junk, .junk, .junk, .junk, .junk, .junk, .junk, .junk, .junk, .junk, .junk, .junk, .junk, .junk, .junk, .junk, .junk, .junk, .junk, .junk, .junk, .junk, .junk, .junk, .junk, .junk, .junk, .junk, .junk, .junk, .junk, .junk, .junk, .junk, .junk, .junk, .junk, .junk, .junk, .junk, .junk, .junk, .junk, .junk, .junk, .junk, .junk, .junk, .junk, .junk, .junk, .junk, .junk, .junk, .junk, .junk, .junk, .junk, .junk, .junk, .junk, .junk, .junk, .junk, .junk, .junk, .junk, .junk, .junk, .junk, .junk, .junk, .junk, .junk, .junk, .junk, .junk, .junk, .junk, .junk, .junk, .junk, .junk, .junk, .junk, .junk, .junk, .junk] 0), (200001, .var (row_TNet v1)), (200002, .var (row_LLA2I v2)), (200003, .var (row_I v3)), (200004, .var (row_I v4)), (200005, .var [.own 100000 l5.length]), (200006, .var (row_LLI v6)), (200007, .var (row_LLI v7)), (200008, .var [.own 100001 a23.length]), (200009, .var (row_TTask v9)), (200010, .var (row_TNet v10))]⟩) hl39 rfl ?_ ?_
      · rintro ⟨at_25, l26⟩ o σ rfl h
        replace h : F_bind_bindings_1_l4 v9 v10 at_25 l26 = some o := h
        unfold F_bind_bindings_1_l4 at h
        refine AK.go tab_ok hC [.n 2] rfl trivial ?_
        obtain ⟨x31, hv32, h⟩ := bindE h
        replace h : F_bind_bindings_1_k3 l26 at_25 x31 = some o := h
        refine AK.meetX (fun σ => σ = ⟨[(0, .clo (.yield lpl) [] []), (1, .loc 200009 0 0), (2, .loc 200010 0 0), (4, .own 9 l26.length), (5, .i .i64 at_25), (36, .b x31)], [(9, .arr 1 (l26.map row_I)), (100000, .arr 4 (l5.map row_TMode)), (100001, .arr 4 (a23.map row_TMode)), (200000, .lp lpl (LK_9_0 lpf) [.junk, .junk, .junk, .junk, .loc 200001 0 0, .loc 200002 0 0, .loc 200003 0 0, .loc 200004 0 0, .loc 200005 0 0, .junk, .loc 200006 0 0, .loc 200007 0 0, .loc 200008 0 0, .junk, .junk, .junk, .junk, .junk, .junk, .junk, .junk, .junk, .junk, .junk, .junk, .junk, .junk, .junk, .junk, .junk, .junk, .junk, .junk, .junk, .junk, .junk, .junk, .junk, .junk, .junk, .junk, .junk, .junk, .junk, .junk, .junk, .junk, .junk, .junk, .junk, .junk, .junk, .junk, .junk, .junk, .junk, .junk, .junk, .junk, .junk, .junk, .junk, .junk, .junk, .junk, .junk, .junk, .junk, .junk, .junk, .junk, .junk, .junk, .junk, .junk, .junk, .junk, .junk, .junk, .junk, .junk, .junk, .junk, .junk, .junk, .junk, .junk, .junk, .junk, .junk, .junk, .junk, .junk, .junk, .junk, .junk, .junk, .junk, .junk, .junk, .junk, .junk, .junk, .junk, .junk, .junk, .junk, .junk, .junk] 0), (200001, .var (row_TNet v1)), (200002, .var (row_LLA2I v2)), (200003, .var (row_I v3)), (200004, .var (row_I v4)), (200005, .var [.own 100000 l5.length]), (200006, .var (row_LLI v6)), (200007, .var (row_LLI v7)), (200008, .var [.own 100001 a23.length]), (200009, .var (row_TTask v9)), (200010, .var (row_TNet v10))]⟩) ?_ ?_
        · replace h := hv32
          unfold F_bind_bindings_1_g2 at h
          refine AK.go tab_ok hC [.keep [0, 1, 2, 4, 5] [9, 100000, 100001, 200000, 200001, 200002, 200003, 200004, 200005, 200006, 200007, 200008, 200009, 200010]] rfl trivial ?_
          rcases bifE h with ⟨hc33, h⟩ | ⟨hc33, h⟩
          · obtain ⟨e34, he34, h⟩ := bindE h
            obtain ⟨e35, he35, h⟩ := bindE h
            obtain ⟨x36, hx36, h⟩ := bindE h
            refine AK.draw2 tab_ok hC mixed [.a .no none false, .a .no none false, .a .no (some ([], .b true)) false, .a .no none false, .a .no none false, .a .no none false, .a (.row (row_I e34)) none false, .a .no none false, .a .no none false, .a .no none false, .a .no none false, .a .no none false, .a .no none false, .a (.row (row_TVar e35)) none false, .a .no none false, .a .no none false, .a (.c false [.d, .d] (.i .i64 x36)) none false, .a .no none false, .a .no none false] [] [] [0, 1, 2, 4, 5, 36] [9, 100000, 100001, 200000, 200001, 200002, 200003, 200004, 200005, 200006, 200007, 200008, 200009, 200010] rfl rfl rfl ⟨⟨⟨⟨⟨trivial, (congrArg V.b hc33)⟩, (idxOw he34 rfl)⟩, (mapGet (idxE he34).2)⟩, (idxM he35)⟩, (F_colour_Size_ok _ _ hx36)⟩ rfl (by kernel_rfl) rfl rfl rfl ?_
            refine AK.go tab_ok hC [.keep [0, 1, 2, 4, 5, 36] [9, 100000, 100001, 200000, 200001, 200002, 200003, 200004, 200005, 200006, 200007, 200008, 200009, 200010]] rfl trivial ?_
            obtain rfl := Option.some.inj h
            exact AK.met rfl
          · refine AK.draw2 tab_ok hC mixed [.a .no none false, .a .no none false, .a .no (some ([], .b false)) false, .a .no none false, .a .no none false, .a .no none false, .a .no none false, .a .no none false, .a .no none false, .a .no none false, .a .no none false, .a .no none false, .a .no none false, .a .no none false, .a .no none false, .a .no none false, .a .no none false, .a .no none false, .a .no none false] [] [] [0, 1, 2, 4, 5, 36] [9, 100000, 100001, 200000, 200001, 200002, 200003, 200004, 200005, 200006, 200007, 200008, 200009, 200010] rfl rfl rfl ⟨trivial, (congrArg V.b hc33)⟩ rfl (by kernel_rfl) rfl rfl rfl ?_
            refine AK.go tab_ok hC [.keep [0, 1, 2, 4, 5, 36] [9, 100000, 100001, 200000, 200001, 200002, 200003, 200004, 200005, 200006, 200007, 200008, 200009, 200010]] rfl trivial ?_
            obtain rfl := Option.some.inj h
            exact AK.met rfl
        · rintro σ rfl
          replace h : F_bind_bindings_1_k3 l26 at_25 x31 = some o := h
          unfold F_bind_bindings_1_k3 at h
          refine AK.go tab_ok hC [.n 1] rfl trivial ?_
          rcases bifE h with ⟨hc37, h⟩ | ⟨hc37, h⟩
          · obtain ⟨e38, he38, h⟩ := bindE h
            refine AK.go tab_ok hC [.br true, .n 8, .st (row_I e38) ((l26.set at_25.toNat 0).map row_I), .n 8, .say 4 (.own 9 (l26.set at_25.toNat 0).length), .keep [0, 1, 2, 4, 5] [9, 100000, 100001, 200000, 200001, 200002, 200003, 200004, 200005, 200006, 200007, 200008, 200009, 200010]] rfl ⟨⟨⟨⟨trivial, hc37⟩, (idxOw he38 rfl)⟩, ⟨(mapGet (idxE he38).2), mapSet rfl⟩⟩, (congrArg (fun n => V.own 9 n) (by simp))⟩ ?_
            obtain rfl := Option.some.inj h
            exact rndN rfl rfl
          · refine AK.go tab_ok hC [.br false, .n 2, .keep [0, 1, 2, 4, 5] [9, 100000, 100001, 200000, 200001, 200002, 200003, 200004, 200005, 200006, 200007, 200008, 200009, 200010]] rfl ⟨trivial, hc37⟩ ?_
            obtain rfl := Option.some.inj h
            exact rndX rfl (And.intro rfl rfl)
      · obtain ⟨at_29, l30⟩ := o39
        replace h : F_bind_bindings_1_c5 a23 at_29 l30 = some o := h
        unfold F_bind_bindings_1_c5 at h
        rintro e σ ⟨rfl, rfl⟩
        refine AK.go tab_ok hC [.n 9] rfl trivial ?_
        rcases bifE h with ⟨hc40, h⟩ | ⟨hc40, h⟩
        · refine AK.go tab_ok hC [.br true, .n 3, .keep [] [100000, 100001, 200000, 200001, 200002, 200003, 200004, 200005, 200006, 200007, 200008, 200009, 200010]] rfl ⟨trivial, hc40⟩ ?_
          obtain rfl := Option.some.inj h
          exact rndR rfl (And.intro rfl rfl)
        · obtain ⟨e41, he41, h⟩ := bindE h
          obtain ⟨e42, he42, h⟩ := bindE h
          refine AK.go tab_ok hC [.br false, .n 6, .o (.row (row_I e41)), .n 2, .st (row_I e42) ((l30.set at_29.toNat (w64 (e41 + 1))).map row_I), .n 2, .say 4 (.own 9 (l30.set at_29.toNat (w64 (e41 + 1))).length), .keep [0, 1, 2, 4] [9, 100000, 100001, 200000, 200001, 200002, 200003, 200004, 200005, 200006, 200007, 200008, 200009, 200010]] rfl ⟨⟨⟨⟨⟨⟨trivial, hc40⟩, (idxOw he41 rfl)⟩, (mapGet (idxE he41).2)⟩, (idxOw he42 rfl)⟩, ⟨(mapGet (idxE he42).2), mapSet rfl⟩⟩, (congrArg (fun n => V.own 9 n) (by simp))⟩ ?_
          obtain rfl := Option.some.inj h
          exact rndN rfl rfl
  · rcases o43 with (l18 | l19)
    · replace h : F_bind_bindings_1_c8 l18 = some r := h
      unfold F_bind_bindings_1_c8 at h
      rintro e σ ⟨rfl, rfl⟩
      refine AK.go tab_ok hC [.n 1, .keep [] [100000, 100001, 200000, 200001, 200002, 200003, 200004, 200005, 200006, 200007, 200008, 200009, 200010]] rfl trivial ?_
      obtain rfl := Option.some.inj h
      refine AK.done ?_
      exact Exists.intro [] (And.intro trivial (gives ⟨rfl, rfl, rfl, rfl, rfl, rfl, rfl, rfl, rfl, rfl, rfl, rfl, rfl, trivial⟩))
    · replace h : F_bind_bindings_1_c9 l19 = some r := h
      unfold F_bind_bindings_1_c9 at h
      rintro e σ ⟨rfl, rfl⟩
      refine AK.go tab_ok hC [.n 1, .keep [] [100000, 100001, 200000, 200001, 200002, 200003, 200004, 200005, 200006, 200007, 200008, 200009, 200010]] rfl trivial ?_
      obtain rfl := Option.some.inj h
      refine AK.done ?_
      exact Exists.intro [] (And.intro trivial (gives ⟨rfl, rfl, rfl, rfl, rfl, rfl, rfl, rfl, rfl, rfl, rfl, rfl, rfl, trivial⟩))

-- 9 baldric/bind.Modes
noncomputable def F_bind_Modes_a1 (a16 : (List TMode)) : Option (List TMode) :=
  some a16

noncomputable def F_bind_Modes_a2 (a17 : (List TMode)) : Option (List TMode) :=
  some a17

noncomputable def F_bind_Modes (n1 : TNet) (m2 : (List (List (Int × Int)))) (task3 : Int) (most4 : Int) : Option (List TMode) :=
  bif ((decide (task3 < 0)) || ((decide ((n1.Tasks.length : Int) ≤ task3)) || (decide (most4 < 1)))) then
  some ([] : List TMode)
  else
  (idx n1.Tasks task3).bind fun e11 =>
  (F_bind_Choices e11.Join (e11.Ins.length : Int)).bind fun x12 =>
  (F_bind_Choices e11.Split (e11.Outs.length : Int)).bind fun x13 =>
  (F_bind_bindings n1 e11).bind fun x14 =>
  (F_bind_bindings_1 n1 m2 task3 most4 ([] : List TMode) x12 x13 ([] : List TMode) x14.2 x14.1).bind (Sum.elim (fun q => F_bind_Modes_a1 q) (fun q => F_bind_Modes_a2 q))

set_option maxRecDepth 100000 in
set_option maxHeartbeats 4000000 in
theorem F_bind_Modes_ok (n1 : TNet) (m2 : (List (List (Int × Int)))) (task3 : Int) (most4 : Int) {r : (List TMode)} (h : F_bind_Modes n1 m2 task3 most4 = some r) : ACalls Tryz.prog 9 [.agg (row_TNet n1), .sl 1 (m2.map row_LA2I), .i .i64 task3, .i .i64 most4] [] (Gives (.sl 4 (r.map row_TMode)) []) := by
  refine ACalls.walkR 109 Tryz.func9 rfl Tryz.ntmps9 rfl fun C hC hR => ?_
  unfold F_bind_Modes at h
  refine AK.go tab_ok hC [.n 11] rfl trivial ?_
  refine AK.meetX (fun σ => σ = ⟨[(4, .loc 4 0 0), (5, .loc 5 0 0), (6, .loc 6 0 0), (7, .loc 7 0 0), (8, .loc 8 0 0), (33, .b ((decide (task3 < 0)) || ((decide ((n1.Tasks.length : Int) ≤ task3)) || (decide (most4 < 1)))))], [(4, .var (row_TNet n1)), (5, .var (row_LLA2I m2)), (6, .var (row_I task3)), (7, .var (row_I most4)), (8, .var [.lit (.slice none 0 0)])]⟩) ?_ ?_
  · refine AK.go tab_ok hC [.n 4] rfl trivial ?_
    rcases boolOr (decide (task3 < 0)) with hc8 | hc8
    · refine AK.go tab_ok hC [.say 23 (.b true), .n 11, .say 33 (.b ((decide (task3 < 0)) || ((decide ((n1.Tasks.length : Int) ≤ task3)) || (decide (most4 < 1))))), .keep [4, 5, 6, 7, 8, 33] [4, 5, 6, 7, 8]] rfl ⟨⟨trivial, (congrArg V.b hc8)⟩, (congrArg V.b (orT hc8 rfl))⟩ ?_
      exact AK.met rfl
    · refine AK.go tab_ok hC [.say 23 (.b false), .n 3, .o (.ln n1.Tasks.length), .n 3] rfl ⟨⟨trivial, (congrArg V.b hc8)⟩, mapLen⟩ ?_
      rcases boolOr (decide ((n1.Tasks.length : Int) ≤ task3)) with hc9 | hc9
      · refine AK.go tab_ok hC [.say 30 (.b true), .n 4, .say 33 (.b ((decide (task3 < 0)) || ((decide ((n1.Tasks.length : Int) ≤ task3)) || (decide (most4 < 1))))), .keep [4, 5, 6, 7, 8, 33] [4, 5, 6, 7, 8]] rfl ⟨⟨trivial, (congrArg V.b hc9)⟩, (congrArg V.b (orF hc8 (orT hc9 rfl)))⟩ ?_
        exact AK.met rfl
      · refine AK.go tab_ok hC [.say 30 (.b false), .n 4, .say 33 (.b ((decide (task3 < 0)) || ((decide ((n1.Tasks.length : Int) ≤ task3)) || (decide (most4 < 1))))), .keep [4, 5, 6, 7, 8, 33] [4, 5, 6, 7, 8]] rfl ⟨⟨trivial, (congrArg V.b hc9)⟩, (congrArg V.b (orF hc8 (orF hc9 rfl)))⟩ ?_
        exact AK.met rfl
  · rintro σ rfl
    refine AK.go tab_ok hC [.n 1] rfl trivial ?_
    rcases bifE h with ⟨hc10, h⟩ | ⟨hc10, h⟩
    · refine AK.go tab_ok hC [.br true, .n 3, .sayO 8 (.var [.lit (.slice none 0 0)]), .n 4, .denilO 8 [some 4], .sayO 8 (.var (row_LTMode ([] : List TMode))), .keep [8] [8]] rfl ⟨⟨⟨trivial, hc10⟩, rfl⟩, rfl⟩ ?_
      obtain rfl := Option.some.inj h
      refine AK.done ?_
      exact Exists.intro [_] (And.intro (And.intro (Exists.intro _ (Exists.intro _ (And.intro rfl (And.intro rfl (Or.inr (And.intro (tab_ok.ag rfl) rfl)))))) trivial) (gives trivial))
    · obtain ⟨e11, he11, h⟩ := bindE h
      obtain ⟨x12, hx12, h⟩ := bindE h
      obtain ⟨x13, hx13, h⟩ := bindE h
      refine AK.go tab_ok hC [.br false, .n 7, .o (.row (row_TTask e11)), .v .no [] (.agg (row_TTask e11)), .n 2, .sayO 9 (.var (row_TTask e11)), .n 3, .keep [4, 5, 6, 7, 8, 9] [4, 5, 6, 7, 8, 9]] rfl ⟨⟨⟨⟨trivial, hc10⟩, (idxM he11)⟩, rfl⟩, rfl⟩ ?_
      refine AK.draw2 tab_ok hC mixed [.a .no none false, .a .no none false, .a .no none false, .a .no none false, .a (.ln e11.Ins.length) none false, .a (.cd false [.d, .d] 1 (x12.map row_LI) x12.length) none false, .a .no none false, .a .no none false, .a .no none false, .a .no none false, .a (.ln e11.Outs.length) none false, .a (.cd false [.d, .d] 1 (x13.map row_LI) x13.length) none false, .a .no none false, .a .no none false, .m .s, .m .s] [] [] [4, 5, 6, 7, 8, 9, 10, 11] [4, 5, 6, 7, 8, 9, 10, 11] rfl rfl rfl ⟨⟨⟨⟨trivial, mapLen⟩, ⟨(F_bind_Choices_ok _ _ hx12), mapLen⟩⟩, mapLen⟩, ⟨(F_bind_Choices_ok _ _ hx13), mapLen⟩⟩ rfl (by kernel_rfl) rfl rfl rfl ?_
      obtain ⟨x14, hx14, h⟩ := bindE h
      refine AK.go tab_ok hC [.sayO 10 (.var (row_LLI x12)), .sayO 11 (.var (row_LLI x13)), .n 9, .v .no [] (.agg (row_TNet n1)), .v .no [] (.agg (row_TTask e11)), .cm (.fn) [] [(53, 2), (50000, 3)] [] [.d, .d] [(2, .var (row_TNet x14.1)), (3, .var (row_TTask x14.2))] (.clo (.func 27) [] [.loc 3 0 0, .loc 2 0 0]), .n 3, .keep [4, 5, 6, 7, 8, 10, 11, 12, 53] [4, 5, 6, 7, 8, 10, 11, 12, 53, 50000]] rfl ⟨⟨⟨⟨⟨trivial, rfl⟩, rfl⟩, rfl⟩, rfl⟩, (F_bind_bindings_ok _ _ hx14)⟩ ?_
      obtain ⟨x15, hx15, h⟩ := bindE h
      refine AK.go tab_ok hC [.adoptO 8 0 45160 4, .sayO 45160 (.arr 4 (([] : List TMode).map row_TMode)), .sayO 8 (.var [.own 45160 ([] : List TMode).length]), .adoptO 12 0 45240 4, .sayO 45240 (.arr 4 (([] : List TMode).map row_TMode)), .sayO 12 (.var [.own 45240 ([] : List TMode).length])] rfl ⟨⟨⟨⟨trivial, rfl⟩, rfl⟩, rfl⟩, rfl⟩ ?_
      rcases x15 with (a16 | a17)
      · replace h : F_bind_Modes_a1 a16 = some r := h
        unfold F_bind_Modes_a1 at h
        refine AK.rangeF 60000 [4, 5, 6, 7, 8, 10, 11, 12] [(200000, 60000), (200001, 4), (200002, 5), (200003, 6), (200004, 7), (200005, 8), (100000, 45160), (200006, 10), (200007, 11), (200008, 12), (100001, 45240), (200009, 50000), (200010, 53)] [(45160, 100000), (45240, 100001), (60000, 200000), (4, 200001), (5, 200002), (6, 200003), (7, 200004), (8, 200005), (10, 200006), (11, 200007), (12, 200008), (50000, 200009), (53, 200010)] [45160, 45240] [.d, .d, .d] LK_9_0 hC hR (fun _ => rfl) rfl rfl rfl rfl fun lpl lpf => ?_
        refine Exists.intro [(100000, .arr 4 (([] : List TMode).map row_TMode)), (100001, .arr 4 (a16.map row_TMode)), (200000, .lp lpl (LK_9_0 lpf) [.junk, .junk, .junk, .junk, .loc 200001 0 0, .loc 200002 0 0, .loc 200003 0 0, .loc 200004 0 0, .loc 200005 0 0, .junk, .loc 200006 0 0, .loc 200007 0 0, .loc 200008 0 0, .junk, .junk, .junk, .junk, .junk, .junk, .junk, .junk, .junk, .junk, .junk, .junk, .junk, .junk, .junk, .junk, .junk, .junk, .junk, .junk, .junk, .junk, .junk, .junk, .junk, .junk, .junk, .junk, .junk, .junk, .junk, .junk, .junk, .junk, .junk, .junk, .junk, .junk, .junk, .junk, .junk, .junk, .junk, .junk, .junk, .junk, .junk, .junk, .junk, .junk, .junk, .junk, .junk, .junk, .junk, .junk, .junk, .junk, .junk, .junk, .junk, .junk, .junk, .junk, .junk, .junk, .junk, .junk, .junk, .junk, .junk, .junk, .junk, .junk, .junk, .junk, .junk, .junk, .junk, .junk, .junk, .junk, .junk, .junk, .junk, .junk, .junk, .junk, .junk, .junk, .junk, .junk, .junk, .junk, .junk, .junk] 0), (200001, .var (row_TNet n1)), (200002, .var (row_LLA2I m2)), (200003, .var (row_I task3)), (200004, .var (row_I most4)), (200005, .var [.own 100000 ([] : List TMode).length]), (200006, .var (row_LLI x12)), (200007, .var (row_LLI x13)), (200008, .var [.own 100001 a16.length]), (200009, .var (row_TTask x14.2)), (200010, .var (row_TNet x14.1))] (Exists.intro (.tup []) (Exists.intro _ (Exists.intro _ (Exists.intro [.junk, .junk, .junk, .junk, .loc 4 0 0, .loc 5 0 0, .loc 6 0 0, .loc 7 0 0, .loc 8 0 0, .junk, .loc 10 0 0, .loc 11 0 0, .loc 12 0 0, .junk, .junk, .junk, .junk, .junk, .junk, .junk, .junk, .junk, .junk, .junk, .junk, .junk, .junk, .junk, .junk, .junk, .junk, .junk, .junk, .junk, .junk, .junk, .junk, .junk, .junk, .junk, .junk, .junk, .junk, .junk, .junk, .junk, .junk, .junk, .junk, .junk, .junk, .junk, .junk, .junk, .junk, .junk, .junk, .junk, .junk, .junk, .junk, .junk, .junk, .junk, .junk, .junk, .junk, .junk, .junk, .junk, .junk, .junk, .junk, .junk, .junk, .junk, .junk, .junk, .junk, .junk, .junk, .junk, .junk, .junk, .junk, .junk, .junk, .junk, .junk, .junk, .junk, .junk, .junk, .junk, .junk, .junk, .junk, .junk, .junk, .junk, .junk, .junk, .junk, .junk, .junk, .junk, .junk, .junk, .junk] (Exists.intro 0 (And.intro rfl ?_))))))
        refine And.intro (F_bind_bindings_1_ok _ _ _ _ _ _ _ _ _ _ _ _ hx15) (And.intro rfl (And.intro (bne_iff_ne.1 (show (0 != 1) = true from rfl)) ?_))
        refine atJ0 rfl ?_
        refine AK.go tab_ok hC [.n 6, .sayO 8 (.var [.own 45240 a16.length]), .n 3, .frz 45240 (a16.map row_TMode) [] [8], .keep [8] [8]] rfl ⟨⟨trivial, rfl⟩, ⟨trivial, ⟨(frzL mapLen), trivial⟩⟩⟩ ?_
        obtain rfl := Option.some.inj h
        refine AK.done ?_
        exact Exists.intro [_] (And.intro (And.intro (Exists.intro _ (Exists.intro _ (And.intro rfl (And.intro rfl (Or.inr (And.intro (tab_ok.ag rfl) rfl)))))) trivial) (gives trivial))
      · replace h : F_bind_Modes_a2 a17 = some r := h
        unfold F_bind_Modes_a2 at h
        refine AK.rangeF 60000 [4, 5, 6, 7, 8, 10, 11, 12] [(200000, 60000), (200001, 4), (200002, 5), (200003, 6), (200004, 7), (200005, 8), (100000, 45160), (200006, 10), (200007, 11), (200008, 12), (100001, 45240), (200009, 50000), (200010, 53)] [(45160, 100000), (45240, 100001), (60000, 200000), (4, 200001), (5, 200002), (6, 200003), (7, 200004), (8, 200005), (10, 200006), (11, 200007), (12, 200008), (50000, 200009), (53, 200010)] [45160, 45240] [.d, .d, .d] LK_9_0 hC hR (fun _ => rfl) rfl rfl rfl rfl fun lpl lpf => ?_
        refine Exists.intro [(100000, .arr 4 (([] : List TMode).map row_TMode)), (100001, .arr 4 (a17.map row_TMode)), (200000, .lp lpl (LK_9_0 lpf) [.junk, .junk, .junk, .junk, .loc 200001 0 0, .loc 200002 0 0, .loc 200003 0 0, .loc 200004 0 0, .loc 200005 0 0, .junk, .loc 200006 0 0, .loc 200007 0 0, .loc 200008 0 0, .junk, .junk, .junk, .junk, .junk, .junk, .junk, .junk, .junk, .junk, .junk, .junk, .junk, .junk, .junk, .junk, .junk, .junk, .junk, .junk, .junk, .junk, .junk, .junk, .junk, .junk, .junk, .junk, .junk, .junk, .junk, .junk, .junk, .junk, .junk, .junk, .junk, .junk, .junk, .junk, .junk, .junk, .junk, .junk, .junk, .junk, .junk, .junk, .junk, .junk, .junk, .junk, .junk, .junk, .junk, .junk, .junk, .junk, .junk, .junk, .junk, .junk, .junk, .junk, .junk, .junk, .junk, .junk, .junk, .junk, .junk, .junk, .junk, .junk, .junk, .junk, .junk, .junk, .junk, .junk, .junk, .junk, .junk, .junk, .junk, .junk, .junk, .junk, .junk, .junk, .junk, .junk, .junk, .junk, .junk, .junk] 2), (200001, .var (row_TNet n1)), (200002, .var (row_LLA2I m2)), (200003, .var (row_I task3)), (200004, .var (row_I most4)), (200005, .var [.own 100001 a17.length]), (200006, .var (row_LLI x12)), (200007, .var (row_LLI x13)), (200008, .var [.own 100001 a17.length]), (200009, .var (row_TTask x14.2)), (200010, .var (row_TNet x14.1))] (Exists.intro (.tup []) (Exists.intro _ (Exists.intro _ (Exists.intro [.junk, .junk, .junk, .junk, .loc 4 0 0, .loc 5 0 0, .loc 6 0 0, .loc 7 0 0, .loc 8 0 0, .junk, .loc 10 0 0, .loc 11 0 0, .loc 12 0 0, .junk, .junk, .junk, .junk, .junk, .junk, .junk, .junk, .junk, .junk, .junk, .junk, .junk, .junk, .junk, .junk, .junk, .junk, .junk, .junk, .junk, .junk, .junk, .junk, .junk, .junk, .junk, .junk, .junk, .junk, .junk, .junk, .junk, .junk, .junk, .junk, .junk, .junk, .junk, .junk, .junk, .junk, .junk, .junk, .junk, .junk, .junk, .junk, .junk, .junk, .junk, .junk, .junk, .junk, .junk, .junk, .junk, .junk, .junk, .junk, .junk, .junk, .junk, .junk, .junk, .junk, .junk, .junk, .junk, .junk, .junk, .junk, .junk, .junk, .junk, .junk, .junk, .junk, .junk, .junk, .junk, .junk, .junk, .junk, .junk, .junk, .junk, .junk, .junk, .junk, .junk, .junk, .junk, .junk, .junk, .junk] (Exists.intro 2 (And.intro rfl ?_))))))
        refine And.intro (F_bind_bindings_1_ok _ _ _ _ _ _ _ _ _ _ _ _ hx15) (And.intro rfl (And.intro (bne_iff_ne.1 (show (2 != 1) = true from rfl)) ?_))
        refine atJ2 rfl ?_
        refine AK.go tab_ok hC [.n 3, .frz 45240 (a17.map row_TMode) [] [8], .keep [8] [8]] rfl ⟨trivial, ⟨trivial, ⟨(frzL mapLen), trivial⟩⟩⟩ ?_
        obtain rfl := Option.some.inj h
        refine AK.done ?_
        exact Exists.intro [_] (And.intro (And.intro (Exists.intro _ (Exists.intro _ (And.intro rfl (And.intro rfl (Or.inr (And.intro (tab_ok.ag rfl) rfl)))))) trivial) (gives trivial))

-- 10 baldric/bind.Needs
noncomputable def F_bind_Needs (n1 : TNet) (o2 : TMode) : Option ((List (List (Int × Int))) × Int) :=
  (F_bind_Env n1 o2.Task o2.Vars).bind fun x7 =>
  bif (x7.2 != 0) then
  some (([] : List (List (Int × Int))), x7.2)
  else
  (idx n1.Tasks o2.Task).bind fun e9 =>
  (F_bind_tokens n1 e9.Ins o2.Ins x7.1).bind fun x10 =>
  some (x10.1, x10.2)

set_option maxRecDepth 100000 in
set_option maxHeartbeats 4000000 in
theorem F_bind_Needs_ok (n1 : TNet) (o2 : TMode) {r : ((List (List (Int × Int))) × Int)} (h : F_bind_Needs n1 o2 = some r) : ACalls Tryz.prog 10 [.agg (row_TNet n1), .agg (row_TMode o2)] [] (Gives (.tup [.sl 1 (r.1.map row_LA2I), .i .i64 r.2]) []) := by
  refine ACalls.walk 34 Tryz.func10 rfl Tryz.ntmps10 rfl fun C hC => ?_
  unfold F_bind_Needs at h
  obtain ⟨x7, hx7, h⟩ := bindE h
  refine AK.go tab_ok hC [.n 10, .v .no [] (.agg (row_TNet n1)), .n 4, .o (.c false [.d, .d, .d] (.tup [.sl 1 (x7.1.map row_I), .i .i64 x7.2])), .n 14] rfl ⟨⟨trivial, rfl⟩, (F_bind_Env_ok _ _ _ hx7)⟩ ?_
  rcases bifE h with ⟨hc8, h⟩ | ⟨hc8, h⟩
  · refine AK.go tab_ok hC [.br true, .n 9, .denil 4 [some 1], .keep [4, 5] []] rfl ⟨trivial, hc8⟩ ?_
    obtain rfl := Option.some.inj h
    refine AK.done ?_
    exact Exists.intro [_, _] (And.intro (And.intro rfl (And.intro rfl trivial)) (gives trivial))
  · obtain ⟨e9, he9, h⟩ := bindE h
    obtain ⟨x10, hx10, h⟩ := bindE h
    refine AK.go tab_ok hC [.br false, .n 3, .keep [2, 3, 4, 5, 6] [2, 3]] rfl ⟨trivial, hc8⟩ ?_
    refine AK.draw2 tab_ok hC mixed [.a .no (some ([], .agg (row_TNet n1))) false, .a .no none false, .a .no none false, .a .no none false, .a .no none false, .a (.row (row_TTask e9)) none false, .a .no none false, .a .no none false, .a .no none false, .a .no none false, .a .no none false, .a (.c false [.d, .d, .d, .d] (.tup [.sl 1 (x10.1.map row_LA2I), .i .i64 x10.2])) none false, .a .no none false, .a .no none false, .m .s, .m .s] [] [] [4, 5] [] rfl rfl rfl ⟨⟨⟨trivial, rfl⟩, (idxM he9)⟩, (F_bind_tokens_ok _ _ _ _ hx10)⟩ rfl (by kernel_rfl) rfl rfl rfl ?_
    refine AK.go tab_ok hC [.n 2, .keep [4, 5] []] rfl trivial ?_
    obtain rfl := Option.some.inj h
    refine AK.done ?_
    exact Exists.intro [_, _] (And.intro (And.intro rfl (And.intro rfl trivial)) (gives trivial))

-- 25 baldric/baldricref03.Rows
noncomputable def F_ref03_Rows_l1 (a1 : (List (Int × Int))) (b2 : (List (Int × Int))) (i6 : Int) : Option (Int ⊕ (Unit ⊕ Unit)) :=
  bif (decide (i6 < (a1.length : Int))) then
  (idx a1 i6).bind fun e9 =>
  (idx b2 i6).bind fun e10 =>
  bif (!((e9.1 == e10.1) && (e9.2 == e10.2))) then
  some (.inr (.inl ()))
  else
  some (.inl (w64 (i6 + 1)))
  else
  some (.inr (.inr ()))

noncomputable def F_ref03_Rows_c2 : Option Bool :=
  some false

noncomputable def F_ref03_Rows_c3 : Option Bool :=
  some true

noncomputable def F_ref03_Rows (a1 : (List (Int × Int))) (b2 : (List (Int × Int))) : Option Bool :=
  bif ((a1.length : Int) != (b2.length : Int)) then
  some false
  else
  (loopM (fun st => F_ref03_Rows_l1 a1 b2 st) 0).bind (Sum.elim (fun q => F_ref03_Rows_c2) (fun q => F_ref03_Rows_c3))

set_option maxRecDepth 100000 in
set_option maxHeartbeats 4000000 in
theorem F_ref03_Rows_ok (a1 : (List (Int × Int))) (b2 : (List (Int × Int))) {r : Bool} (h : F_ref03_Rows a1 b2 = some r) : ACalls Tryz.prog 25 [.sl 2 (a1.map row_A2I), .sl 2 (b2.map row_A2I)] [] (Gives (.b r) []) := by
  refine ACalls.walk 26 Tryz.func25 rfl Tryz.ntmps25 rfl fun C hC => ?_
  unfold F_ref03_Rows at h
  refine AK.go tab_ok hC [.n 9, .o (.ln a1.length), .n 1, .o (.ln b2.length), .n 3] rfl ⟨⟨trivial, mapLen⟩, mapLen⟩ ?_
  rcases bifE h with ⟨hc5, h⟩ | ⟨hc5, h⟩
  · refine AK.go tab_ok hC [.br true, .n 7, .keep [4] []] rfl ⟨trivial, hc5⟩ ?_
    obtain rfl := Option.some.inj h
    refine AK.done ?_
    exact Exists.intro [_] (And.intro (And.intro rfl trivial) (gives trivial))
  · refine AK.go tab_ok hC [.br false, .n 9, .keep [0, 1, 5] []] rfl ⟨trivial, hc5⟩ ?_
    obtain ⟨o12, hl12, h⟩ := bindE h
    refine AK.loop (body := (fun st => F_ref03_Rows_l1 a1 b2 st)) (fun st σ => σ = ⟨[(0, .sl 2 (a1.map row_A2I)), (1, .sl 2 (b2.map row_A2I)), (5, .i .i64 st)], []⟩) (Sum.elim (fun q e σ => e = .ret ∧ σ = ⟨[(4, .b false)], []⟩) (fun q e σ => e = .exit 0 ∧ σ = ⟨[], []⟩)) hl12 rfl ?_ ?_
    · rintro i6 o σ rfl h
      replace h : F_ref03_Rows_l1 a1 b2 i6 = some o := h
      unfold F_ref03_Rows_l1 at h
      refine AK.go tab_ok hC [.n 5, .o (.ln a1.length), .n 3] rfl ⟨trivial, mapLen⟩ ?_
      rcases bifE h with ⟨hc8, h⟩ | ⟨hc8, h⟩
      · obtain ⟨e9, he9, h⟩ := bindE h
        obtain ⟨e10, he10, h⟩ := bindE h
        refine AK.go tab_ok hC [.br true, .n 5, .keep [0, 1, 5] []] rfl ⟨trivial, hc8⟩ ?_
        refine AK.draw2 tab_ok hC mixed [.a .no none false, .a .no none false, .a (.row (row_A2I e9)) none false, .a .no (some ([], .agg (row_A2I e9))) false, .a .no none false, .a .no none false, .a (.row (row_A2I e10)) none false, .a .no (some ([], .agg (row_A2I e10))) false, .a (.any (.b (!((e9.1 == e10.1) && (e9.2 == e10.2)))) none) none false] [] [] [0, 1, 5, 25] [] rfl rfl rfl ⟨⟨⟨⟨⟨trivial, (idxM he9)⟩, rfl⟩, (idxM he10)⟩, rfl⟩, (fun σ h1 h2 _ => Stp.neAgg rfl rfl (hC ▸ rfl) (h1 _ _ rfl) (h1 _ _ rfl) rfl rfl (eq_34 _ _ _ _))⟩ rfl (by kernel_rfl) rfl rfl rfl ?_
        refine AK.go tab_ok hC [.n 1] rfl trivial ?_
        rcases bifE h with ⟨hc11, h⟩ | ⟨hc11, h⟩
        · refine AK.go tab_ok hC [.br true, .n 8, .keep [4] []] rfl ⟨trivial, hc11⟩ ?_
          obtain rfl := Option.some.inj h
          exact rndR rfl (And.intro rfl rfl)
        · refine AK.go tab_ok hC [.br false, .n 8, .keep [0, 1, 5] []] rfl ⟨trivial, hc11⟩ ?_
          obtain rfl := Option.some.inj h
          exact rndN rfl rfl
      · refine AK.go tab_ok hC [.br false, .n 2, .keep [] []] rfl ⟨trivial, hc8⟩ ?_
        obtain rfl := Option.some.inj h
        exact rndX rfl (And.intro rfl rfl)
    · rcases o12 with (_ | _)
      · replace h : F_ref03_Rows_c2 = some r := h
        unfold F_ref03_Rows_c2 at h
        rintro e σ ⟨rfl, rfl⟩
        refine AK.go tab_ok hC [.n 2, .keep [4] []] rfl trivial ?_
        obtain rfl := Option.some.inj h
        refine AK.done ?_
        exact Exists.intro [_] (And.intro (And.intro rfl trivial) (gives trivial))
      · replace h : F_ref03_Rows_c3 = some r := h
        unfold F_ref03_Rows_c3 at h
        rintro e σ ⟨rfl, rfl⟩
        refine AK.go tab_ok hC [.n 8, .keep [4] []] rfl trivial ?_
        obtain rfl := Option.some.inj h
        refine AK.done ?_
        exact Exists.intro [_] (And.intro (And.intro rfl trivial) (gives trivial))

-- 11 baldric/baldricref10.Markings
noncomputable def F_ref10_Markings_l1 (a1 : (List (List (Int × Int)))) (b2 : (List (List (Int × Int)))) (i6 : Int) : Option (Int ⊕ (Unit ⊕ Unit)) :=
  bif (decide (i6 < (a1.length : Int))) then
  (idx a1 i6).bind fun e9 =>
  (idx b2 i6).bind fun e10 =>
  (F_ref03_Rows e9 e10).bind fun x11 =>
  bif (!x11) then
  some (.inr (.inl ()))
  else
  some (.inl (w64 (i6 + 1)))
  else
  some (.inr (.inr ()))

noncomputable def F_ref10_Markings_c2 : Option Bool :=
  some false

noncomputable def F_ref10_Markings_c3 : Option Bool :=
  some true

noncomputable def F_ref10_Markings (a1 : (List (List (Int × Int)))) (b2 : (List (List (Int × Int)))) : Option Bool :=
  bif ((a1.length : Int) != (b2.length : Int)) then
  some false
  else
  (loopM (fun st => F_ref10_Markings_l1 a1 b2 st) 0).bind (Sum.elim (fun q => F_ref10_Markings_c2) (fun q => F_ref10_Markings_c3))

set_option maxRecDepth 100000 in
set_option maxHeartbeats 4000000 in
theorem F_ref10_Markings_ok (a1 : (List (List (Int × Int)))) (b2 : (List (List (Int × Int)))) {r : Bool} (h : F_ref10_Markings a1 b2 = some r) : ACalls Tryz.prog 11 [.sl 1 (a1.map row_LA2I), .sl 1 (b2.map row_LA2I)] [] (Gives (.b r) []) := by
  refine ACalls.walk 27 Tryz.func11 rfl Tryz.ntmps11 rfl fun C hC => ?_
  unfold F_ref10_Markings at h
  refine AK.go tab_ok hC [.n 9, .o (.ln a1.length), .n 1, .o (.ln b2.length), .n 3] rfl ⟨⟨trivial, mapLen⟩, mapLen⟩ ?_
  rcases bifE h with ⟨hc5, h⟩ | ⟨hc5, h⟩
  · refine AK.go tab_ok hC [.br true, .n 7, .keep [4] []] rfl ⟨trivial, hc5⟩ ?_
    obtain rfl := Option.some.inj h
    refine AK.done ?_
    exact Exists.intro [_] (And.intro (And.intro rfl trivial) (gives trivial))
  · refine AK.go tab_ok hC [.br false, .n 9, .keep [0, 1, 5] []] rfl ⟨trivial, hc5⟩ ?_
    obtain ⟨o13, hl13, h⟩ := bindE h
    refine AK.loop (body := (fun st => F_ref10_Markings_l1 a1 b2 st)) (fun st σ => σ = ⟨[(0, .sl 1 (a1.map row_LA2I)), (1, .sl 1 (b2.map row_LA2I)), (5, .i .i64 st)], []⟩) (Sum.elim (fun q e σ => e = .ret ∧ σ = ⟨[(4, .b false)], []⟩) (fun q e σ => e = .exit 0 ∧ σ = ⟨[], []⟩)) hl13 rfl ?_ ?_
    · rintro i6 o σ rfl h
      replace h : F_ref10_Markings_l1 a1 b2 i6 = some o := h
      unfold F_ref10_Markings_l1 at h
      refine AK.go tab_ok hC [.n 5, .o (.ln a1.length), .n 3] rfl ⟨trivial, mapLen⟩ ?_
      rcases bifE h with ⟨hc8, h⟩ | ⟨hc8, h⟩
      · obtain ⟨e9, he9, h⟩ := bindE h
        obtain ⟨e10, he10, h⟩ := bindE h
        obtain ⟨x11, hx11, h⟩ := bindE h
        refine AK.go tab_ok hC [.br true, .n 5, .keep [0, 1, 5] []] rfl ⟨trivial, hc8⟩ ?_
        refine AK.draw2 tab_ok hC mixed [.a .no none false, .a .no none false, .a (.row (row_LA2I e9)) none false, .a .no none false, .a .no none false, .a .no none false, .a (.row (row_LA2I e10)) none false, .a .no none false, .a (.c false [.d, .d] (.b x11)) none false, .a .no none false] [] [] [0, 1, 5, 26] [] rfl rfl rfl ⟨⟨⟨trivial, (idxM he9)⟩, (idxM he10)⟩, (F_ref03_Rows_ok _ _ hx11)⟩ rfl (by kernel_rfl) rfl rfl rfl ?_
        refine AK.go tab_ok hC [.n 1] rfl trivial ?_
        rcases bifE h with ⟨hc12, h⟩ | ⟨hc12, h⟩
        · refine AK.go tab_ok hC [.br true, .n 8, .keep [4] []] rfl ⟨trivial, hc12⟩ ?_
          obtain rfl := Option.some.inj h
          exact rndR rfl (And.intro rfl rfl)
        · refine AK.go tab_ok hC [.br false, .n 8, .keep [0, 1, 5] []] rfl ⟨trivial, hc12⟩ ?_
          obtain rfl := Option.some.inj h
          exact rndN rfl rfl
      · refine AK.go tab_ok hC [.br false, .n 2, .keep [] []] rfl ⟨trivial, hc8⟩ ?_
        obtain rfl := Option.some.inj h
        exact rndX rfl (And.intro rfl rfl)
    · rcases o13 with (_ | _)
      · replace h : F_ref10_Markings_c2 = some r := h
        unfold F_ref10_Markings_c2 at h
        rintro e σ ⟨rfl, rfl⟩
        refine AK.go tab_ok hC [.n 2, .keep [4] []] rfl trivial ?_
        obtain rfl := Option.some.inj h
        refine AK.done ?_
        exact Exists.intro [_] (And.intro (And.intro rfl trivial) (gives trivial))
      · replace h : F_ref10_Markings_c3 = some r := h
        unfold F_ref10_Markings_c3 at h
        rintro e σ ⟨rfl, rfl⟩
        refine AK.go tab_ok hC [.n 8, .keep [4] []] rfl trivial ?_
        obtain rfl := Option.some.inj h
        refine AK.done ?_
        exact Exists.intro [_] (And.intro (And.intro rfl trivial) (gives trivial))

-- 40 slices.Equal[[]int,int]
noncomputable def F_slices_Equal_int_int_l1 (s1 : (List Int)) (s2 : (List Int)) (x6 : Int) : Option (Int ⊕ (Unit ⊕ Unit)) :=
  bif (decide (x6 < (s1.length : Int))) then
  (idx s1 x6).bind fun e9 =>
  (idx s2 x6).bind fun e10 =>
  bif (e9 != e10) then
  some (.inr (.inl ()))
  else
  some (.inl (w64 (x6 + 1)))
  else
  some (.inr (.inr ()))

noncomputable def F_slices_Equal_int_int_c2 : Option Bool :=
  some false

noncomputable def F_slices_Equal_int_int_c3 : Option Bool :=
  some true

noncomputable def F_slices_Equal_int_int (s1 : (List Int)) (s2 : (List Int)) : Option Bool :=
  bif ((s1.length : Int) != (s2.length : Int)) then
  some false
  else
  (loopM (fun st => F_slices_Equal_int_int_l1 s1 s2 st) 0).bind (Sum.elim (fun q => F_slices_Equal_int_int_c2) (fun q => F_slices_Equal_int_int_c3))

set_option maxRecDepth 100000 in
set_option maxHeartbeats 4000000 in
theorem F_slices_Equal_int_int_ok (s1 : (List Int)) (s2 : (List Int)) {r : Bool} (h : F_slices_Equal_int_int s1 s2 = some r) : ACalls Tryz.prog 40 [.sl 1 (s1.map row_I), .sl 1 (s2.map row_I)] [] (Gives (.b r) []) := by
  refine ACalls.walk 26 Tryz.func40 rfl Tryz.ntmps40 rfl fun C hC => ?_
  unfold F_slices_Equal_int_int at h
  refine AK.go tab_ok hC [.n 9, .o (.ln s1.length), .n 1, .o (.ln s2.length), .n 3] rfl ⟨⟨trivial, mapLen⟩, mapLen⟩ ?_
  rcases bifE h with ⟨hc5, h⟩ | ⟨hc5, h⟩
  · refine AK.go tab_ok hC [.br true, .n 7, .keep [4] []] rfl ⟨trivial, hc5⟩ ?_
    obtain rfl := Option.some.inj h
    refine AK.done ?_
    exact Exists.intro [_] (And.intro (And.intro rfl trivial) (gives trivial))
  · refine AK.go tab_ok hC [.br false, .n 6, .o (.ln s1.length), .n 4, .keep [0, 1, 12, 13] []] rfl ⟨⟨trivial, hc5⟩, mapLen⟩ ?_
    obtain ⟨o12, hl12, h⟩ := bindE h
    refine AK.loop (body := (fun st => F_slices_Equal_int_int_l1 s1 s2 st)) (fun st σ => σ = ⟨[(0, .sl 1 (s1.map row_I)), (1, .sl 1 (s2.map row_I)), (12, .i .i64 (s1.length : Int)), (13, .i .i64 st)], []⟩) (Sum.elim (fun q e σ => e = .ret ∧ σ = ⟨[(4, .b false)], []⟩) (fun q e σ => e = .exit 0 ∧ σ = ⟨[], []⟩)) hl12 rfl ?_ ?_
    · rintro x6 o σ rfl h
      replace h : F_slices_Equal_int_int_l1 s1 s2 x6 = some o := h
      unfold F_slices_Equal_int_int_l1 at h
      refine AK.go tab_ok hC [.n 6] rfl trivial ?_
      rcases bifE h with ⟨hc8, h⟩ | ⟨hc8, h⟩
      · obtain ⟨e9, he9, h⟩ := bindE h
        obtain ⟨e10, he10, h⟩ := bindE h
        refine AK.go tab_ok hC [.br true, .n 11, .keep [0, 1, 5, 12, 13] []] rfl ⟨trivial, hc8⟩ ?_
        refine AK.draw2 tab_ok hC mixed [.a .no none false, .a .no none false, .a (.row (row_I e9)) none false, .a .no none false, .a .no none false, .a .no none false, .a (.row (row_I e10)) none false, .a .no none false, .a .no none false] [] [] [0, 1, 12, 13, 24] [] rfl rfl rfl ⟨⟨trivial, (idxM he9)⟩, (idxM he10)⟩ rfl (by kernel_rfl) rfl rfl rfl ?_
        refine AK.go tab_ok hC [.n 1] rfl trivial ?_
        rcases bifE h with ⟨hc11, h⟩ | ⟨hc11, h⟩
        · refine AK.go tab_ok hC [.br true, .n 8, .keep [4] []] rfl ⟨trivial, hc11⟩ ?_
          obtain rfl := Option.some.inj h
          exact rndR rfl (And.intro rfl rfl)
        · refine AK.go tab_ok hC [.br false, .n 7, .keep [0, 1, 12, 13] []] rfl ⟨trivial, hc11⟩ ?_
          obtain rfl := Option.some.inj h
          exact rndN rfl rfl
      · refine AK.go tab_ok hC [.br false, .n 2, .keep [] []] rfl ⟨trivial, hc8⟩ ?_
        obtain rfl := Option.some.inj h
        exact rndX rfl (And.intro rfl rfl)
    · rcases o12 with (_ | _)
      · replace h : F_slices_Equal_int_int_c2 = some r := h
        unfold F_slices_Equal_int_int_c2 at h
        rintro e σ ⟨rfl, rfl⟩
        refine AK.go tab_ok hC [.n 2, .keep [4] []] rfl trivial ?_
        obtain rfl := Option.some.inj h
        refine AK.done ?_
        exact Exists.intro [_] (And.intro (And.intro rfl trivial) (gives trivial))
      · replace h : F_slices_Equal_int_int_c3 = some r := h
        unfold F_slices_Equal_int_int_c3 at h
        rintro e σ ⟨rfl, rfl⟩
        refine AK.go tab_ok hC [.n 8, .keep [4] []] rfl trivial ?_
        obtain rfl := Option.some.inj h
        refine AK.done ?_
        exact Exists.intro [_] (And.intro (And.intro rfl trivial) (gives trivial))

-- 39 baldric/bind.chosen$1
noncomputable def F_bind_chosen_1 (p1 : (List Int)) (v2 : (List Int)) : Option Bool :=
  (F_slices_Equal_int_int p1 v2).bind fun x4 =>
  some x4

set_option maxRecDepth 100000 in
set_option maxHeartbeats 4000000 in
theorem F_bind_chosen_1_ok (p1 : (List Int)) (v2 : (List Int)) {r : Bool} (h : F_bind_chosen_1 p1 v2 = some r) : ACalls Tryz.prog 39 [.sl 1 (p1.map row_I), .loc 200000 0 0] [(200000, .var (row_LI v2))] (Gives (.b r) [(200000, .var (row_LI v2))]) := by
  refine ACalls.walk 7 Tryz.func39 rfl Tryz.ntmps39 rfl fun C hC => ?_
  unfold F_bind_chosen_1 at h
  obtain ⟨x4, hx4, h⟩ := bindE h
  refine AK.go tab_ok hC [.n 9, .o (.c false [.d, .d] (.b x4)), .n 4, .keep [3] [200000]] rfl ⟨trivial, (F_slices_Equal_int_int_ok _ _ hx4)⟩ ?_
  obtain rfl := Option.some.inj h
  refine AK.done ?_
  exact Exists.intro [_] (And.intro (And.intro rfl trivial) (gives ⟨rfl, trivial⟩))

-- 30 slices.IndexFunc[[][]int,[]int]
noncomputable def F_slices_IndexFunc_int_int_v3_l1 (s1 : (List (List Int))) (v2 : (List Int)) (x5 : Int) : Option (Int ⊕ (Int ⊕ Unit)) :=
  bif (decide (x5 < (s1.length : Int))) then
  (idx s1 x5).bind fun e9 =>
  (F_bind_chosen_1 e9 v2).bind fun x10 =>
  bif x10 then
  some (.inr (.inl x5))
  else
  some (.inl (w64 (x5 + 1)))
  else
  some (.inr (.inr ()))

noncomputable def F_slices_IndexFunc_int_int_v3_c2 (x7 : Int) : Option Int :=
  some x7

noncomputable def F_slices_IndexFunc_int_int_v3_c3 : Option Int :=
  some (-1)

noncomputable def F_slices_IndexFunc_int_int_v3 (s1 : (List (List Int))) (v2 : (List Int)) : Option Int :=
  (loopM (fun st => F_slices_IndexFunc_int_int_v3_l1 s1 v2 st) 0).bind (Sum.elim (fun q => F_slices_IndexFunc_int_int_v3_c2 q) (fun q => F_slices_IndexFunc_int_int_v3_c3))

set_option maxRecDepth 100000 in
set_option maxHeartbeats 4000000 in
theorem F_slices_IndexFunc_int_int_v3_ok (s1 : (List (List Int))) (v2 : (List Int)) {r : Int} (h : F_slices_IndexFunc_int_int_v3 s1 v2 = some r) : ACalls Tryz.prog 30 [.sl 1 (s1.map row_LI), .clo (.func 39) [] [.loc 200000 0 0]] [(200000, .var (row_LI v2))] (Gives (.i .i64 r) [(200000, .var (row_LI v2))]) := by
  refine ACalls.walk 19 Tryz.func30 rfl Tryz.ntmps30 rfl fun C hC => ?_
  unfold F_slices_IndexFunc_int_int_v3 at h
  refine AK.go tab_ok hC [.n 9, .o (.ln s1.length), .n 4, .keep [0, 1, 7, 8] [200000]] rfl ⟨trivial, mapLen⟩ ?_
  obtain ⟨o12, hl12, h⟩ := bindE h
  refine AK.loop (body := (fun st => F_slices_IndexFunc_int_int_v3_l1 s1 v2 st)) (fun st σ => σ = ⟨[(0, .sl 1 (s1.map row_LI)), (1, .clo (.func 39) [] [.loc 200000 0 0]), (7, .i .i64 (s1.length : Int)), (8, .i .i64 st)], [(200000, .var (row_LI v2))]⟩) (Sum.elim (fun q e σ => e = .ret ∧ σ = ⟨[(4, .i .i64 q)], [(200000, .var (row_LI v2))]⟩) (fun q e σ => e = .exit 0 ∧ σ = ⟨[], [(200000, .var (row_LI v2))]⟩)) hl12 rfl ?_ ?_
  · rintro x5 o σ rfl h
    replace h : F_slices_IndexFunc_int_int_v3_l1 s1 v2 x5 = some o := h
    unfold F_slices_IndexFunc_int_int_v3_l1 at h
    refine AK.go tab_ok hC [.n 6] rfl trivial ?_
    rcases bifE h with ⟨hc8, h⟩ | ⟨hc8, h⟩
    · obtain ⟨e9, he9, h⟩ := bindE h
      obtain ⟨x10, hx10, h⟩ := bindE h
      refine AK.go tab_ok hC [.br true, .n 15, .o (.row (row_LI e9)), .n 1, .cm (.clo) [(200000, 200000)] [(200000, 200000)] [] [.d, .d] [(200000, .var (row_LI v2))] (.b x10), .n 2] rfl ⟨⟨⟨trivial, hc8⟩, (idxM he9)⟩, (F_bind_chosen_1_ok _ _ hx10)⟩ ?_
      rcases bifE h with ⟨hc11, h⟩ | ⟨hc11, h⟩
      · refine AK.go tab_ok hC [.br true, .n 9, .keep [4] [200000]] rfl ⟨trivial, hc11⟩ ?_
        obtain rfl := Option.some.inj h
        exact rndR rfl (And.intro rfl rfl)
      · refine AK.go tab_ok hC [.br false, .n 7, .keep [0, 1, 7, 8] [200000]] rfl ⟨trivial, hc11⟩ ?_
        obtain rfl := Option.some.inj h
        exact rndN rfl rfl
    · refine AK.go tab_ok hC [.br false, .n 2, .keep [] [200000]] rfl ⟨trivial, hc8⟩ ?_
      obtain rfl := Option.some.inj h
      exact rndX rfl (And.intro rfl rfl)
  · rcases o12 with (x7 | _)
    · replace h : F_slices_IndexFunc_int_int_v3_c2 x7 = some r := h
      unfold F_slices_IndexFunc_int_int_v3_c2 at h
      rintro e σ ⟨rfl, rfl⟩
      refine AK.go tab_ok hC [.n 2, .keep [4] [200000]] rfl trivial ?_
      obtain rfl := Option.some.inj h
      refine AK.done ?_
      exact Exists.intro [_] (And.intro (And.intro rfl trivial) (gives ⟨rfl, trivial⟩))
    · replace h : F_slices_IndexFunc_int_int_v3_c3 = some r := h
      unfold F_slices_IndexFunc_int_int_v3_c3 at h
      rintro e σ ⟨rfl, rfl⟩
      refine AK.go tab_ok hC [.n 8, .keep [4] [200000]] rfl trivial ?_
      obtain rfl := Option.some.inj h
      refine AK.done ?_
      exact Exists.intro [_] (And.intro (And.intro rfl trivial) (gives ⟨rfl, trivial⟩))

-- 38 slices.ContainsFunc[[][]int,[]int]
noncomputable def F_slices_ContainsFunc_int_int (s1 : (List (List Int))) (v2 : (List Int)) : Option Bool :=
  (F_slices_IndexFunc_int_int_v3 s1 v2).bind fun x4 =>
  some (decide (0 ≤ x4))

set_option maxRecDepth 100000 in
set_option maxHeartbeats 4000000 in
theorem F_slices_ContainsFunc_int_int_ok (s1 : (List (List Int))) (v2 : (List Int)) {r : Bool} (h : F_slices_ContainsFunc_int_int s1 v2 = some r) : ACalls Tryz.prog 38 [.sl 1 (s1.map row_LI), .clo (.func 39) [] [.loc 200000 0 0]] [(200000, .var (row_LI v2))] (Gives (.b r) [(200000, .var (row_LI v2))]) := by
  refine ACalls.walk 9 Tryz.func38 rfl Tryz.ntmps38 rfl fun C hC => ?_
  unfold F_slices_ContainsFunc_int_int at h
  obtain ⟨x4, hx4, h⟩ := bindE h
  refine AK.go tab_ok hC [.n 9, .cm (.fn) [(200000, 200000)] [(200000, 200000)] [] [.d, .d] [(200000, .var (row_LI v2))] (.i .i64 x4), .n 5, .keep [4] [200000]] rfl ⟨trivial, (F_slices_IndexFunc_int_int_v3_ok _ _ hx4)⟩ ?_
  obtain rfl := Option.some.inj h
  refine AK.done ?_
  exact Exists.intro [_] (And.intro (And.intro rfl trivial) (gives ⟨rfl, trivial⟩))

-- 26 baldric/bind.chosen
noncomputable def F_bind_chosen (kind1 : Int) (arcs2 : Int) (row3 : (List Int)) : Option Bool :=
  (F_bind_Choices kind1 arcs2).bind fun x5 =>
  (F_slices_ContainsFunc_int_int x5 row3).bind fun x6 =>
  some x6

set_option maxRecDepth 100000 in
set_option maxHeartbeats 4000000 in
theorem F_bind_chosen_ok (kind1 : Int) (arcs2 : Int) (row3 : (List Int)) {r : Bool} (h : F_bind_chosen kind1 arcs2 row3 = some r) : ACalls Tryz.prog 26 [.i .i64 kind1, .i .i64 arcs2, .sl 1 (row3.map row_I)] [] (Gives (.b r) []) := by
  refine ACalls.walk 12 Tryz.func26 rfl Tryz.ntmps26 rfl fun C hC => ?_
  unfold F_bind_chosen at h
  obtain ⟨x5, hx5, h⟩ := bindE h
  obtain ⟨x6, hx6, h⟩ := bindE h
  refine AK.go tab_ok hC [.n 10, .o (.co false [.d, .d] 1 (x5.map row_LI) x5.length), .n 1, .frz 9 (x5.map row_LI) [9] [], .cm (.fn) [(200000, 5)] [(5, 200000)] [] [.d, .d] [(200000, .var (row_LI row3))] (.b x6), .n 4, .keep [6] []] rfl ⟨⟨⟨trivial, ⟨(F_bind_Choices_ok _ _ hx5), mapLen, .inl rfl⟩⟩, ⟨trivial, (frzL mapLen)⟩⟩, (F_slices_ContainsFunc_int_int_ok _ _ hx6)⟩ ?_
  obtain rfl := Option.some.inj h
  refine AK.done ?_
  exact Exists.intro [_] (And.intro (And.intro rfl trivial) (gives trivial))

-- 12 baldric/bind.Check
noncomputable def F_bind_Check_g1 (x6 : (Int × Tbind_binder)) (o3 : TMode) : Option Bool :=
  (F_bind_chosen x6.2.task.Join (x6.2.task.Ins.length : Int) o3.Ins).bind fun x11 =>
  bif (!x11) then
  some true
  else
  (F_bind_chosen x6.2.task.Split (x6.2.task.Outs.length : Int) o3.Outs).bind fun x13 =>
  some (!x13)

noncomputable def F_bind_Check_k2 (x6 : (Int × Tbind_binder)) (o3 : TMode) (x9 : Bool) : Option Int :=
  bif x9 then
  some 11
  else
  (F_bind_binder_takes x6.2 o3.Ins).bind fun x15 =>
  bif (x15 != 0) then
  some x15
  else
  (F_bind_binder_gives x6.2 o3.Outs).bind fun x17 =>
  some x17

noncomputable def F_bind_Check_k3 (x6 : (Int × Tbind_binder)) (o3 : TMode) (err7 : Int) : Option Int :=
  bif (err7 != 0) then
  some err7
  else
  (F_bind_Check_g1 x6 o3).bind (fun x9 => F_bind_Check_k2 x6 o3 x9)

noncomputable def F_bind_Check (n1 : TNet) (m2 : (List (List (Int × Int)))) (o3 : TMode) : Option Int :=
  (F_bind_bound n1 m2 o3.Task o3.Vars).bind fun x6 =>
  bif (x6.1 == 0) then
  (F_bind_binder_guarded x6.2).bind fun x19 =>
  F_bind_Check_k3 x6 o3 x19
  else
  F_bind_Check_k3 x6 o3 x6.1

set_option maxRecDepth 100000 in
set_option maxHeartbeats 4000000 in
theorem F_bind_Check_ok (n1 : TNet) (m2 : (List (List (Int × Int)))) (o3 : TMode) {r : Int} (h : F_bind_Check n1 m2 o3 = some r) : ACalls Tryz.prog 12 [.agg (row_TNet n1), .sl 1 (m2.map row_LA2I), .agg (row_TMode o3)] [] (Gives (.i .i64 r) []) := by
  refine ACalls.walk 62 Tryz.func12 rfl Tryz.ntmps12 rfl fun C hC => ?_
  unfold F_bind_Check at h
  obtain ⟨x6, hx6, h⟩ := bindE h
  refine AK.go tab_ok hC [.n 9, .v .no [] (.agg (row_TNet n1)), .n 5, .o (.c false [.d, .d, .d, .d] (.tup [.agg (row_Tbind_binder x6.2), .i .i64 x6.1])), .n 5, .sayO 7 (.var (row_Tbind_binder x6.2)), .n 3] rfl ⟨⟨⟨trivial, rfl⟩, (F_bind_bound_ok _ _ _ _ hx6)⟩, rfl⟩ ?_
  refine AK.meet (fun σ => ∃ err7 : Int, σ = ⟨[(5, .loc 5 0 0), (7, .loc 7 0 0), (8, .i .i64 err7)], [(5, .var (row_TMode o3)), (7, .var (row_Tbind_binder x6.2))]⟩ ∧ F_bind_Check_k3 x6 o3 err7 = some r) ?_ ?_
  · refine AK.go tab_ok hC [.n 6] rfl trivial ?_
    rcases bifE h with ⟨hc18, h⟩ | ⟨hc18, h⟩
    · obtain ⟨x19, hx19, h⟩ := bindE h
      refine AK.go tab_ok hC [.br true, .n 1, .v .no [] (.agg (row_Tbind_binder x6.2)), .o (.c false [.d] (.i .i64 x19)), .n 2, .keep [5, 7, 8] [5, 7]] rfl ⟨⟨⟨trivial, hc18⟩, rfl⟩, (F_bind_binder_guarded_ok _ hx19)⟩ ?_
      exact AK.met (Exists.intro _ (And.intro rfl h))
    · refine AK.go tab_ok hC [.br false, .n 1, .keep [5, 7, 8] [5, 7]] rfl ⟨trivial, hc18⟩ ?_
      exact AK.met (Exists.intro _ (And.intro rfl h))
  · rintro σ ⟨err7, rfl, h⟩
    unfold F_bind_Check_k3 at h
    refine AK.go tab_ok hC [.n 7] rfl trivial ?_
    rcases bifE h with ⟨hc8, h⟩ | ⟨hc8, h⟩
    · refine AK.go tab_ok hC [.br true, .n 8, .keep [6] []] rfl ⟨trivial, hc8⟩ ?_
      obtain rfl := Option.some.inj h
      refine AK.done ?_
      exact Exists.intro [_] (And.intro (And.intro rfl trivial) (gives trivial))
    · refine AK.go tab_ok hC [.br false, .n 4] rfl ⟨trivial, hc8⟩ ?_
      obtain ⟨x9, hv10, h⟩ := bindE h
      replace h : F_bind_Check_k2 x6 o3 x9 = some r := h
      refine AK.meetX (fun σ => σ = ⟨[(5, .loc 5 0 0), (7, .loc 7 0 0), (50, .b x9)], [(5, .var (row_TMode o3)), (7, .var (row_Tbind_binder x6.2))]⟩) ?_ ?_
      · replace h := hv10
        unfold F_bind_Check_g1 at h
        obtain ⟨x11, hx11, h⟩ := bindE h
        refine AK.go tab_ok hC [.n 7, .o (.ln x6.2.task.Ins.length), .n 2, .o (.c false [.d, .d, .d] (.b x11)), .n 2] rfl ⟨⟨trivial, mapLen⟩, (F_bind_chosen_ok _ _ _ hx11)⟩ ?_
        rcases bifE h with ⟨hc12, h⟩ | ⟨hc12, h⟩
        · refine AK.go tab_ok hC [.say 38 (.b true), .n 13, .keep [5, 7, 50] [5, 7]] rfl ⟨trivial, (congrArg V.b hc12)⟩ ?_
          obtain rfl := Option.some.inj h
          exact AK.met rfl
        · obtain ⟨x13, hx13, h⟩ := bindE h
          refine AK.go tab_ok hC [.say 38 (.b false), .n 6, .o (.ln x6.2.task.Outs.length), .n 2, .o (.c false [.d, .d, .d] (.b x13)), .n 3, .keep [5, 7, 50] [5, 7]] rfl ⟨⟨⟨trivial, (congrArg V.b hc12)⟩, mapLen⟩, (F_bind_chosen_ok _ _ _ hx13)⟩ ?_
          obtain rfl := Option.some.inj h
          exact AK.met rfl
      · rintro σ rfl
        replace h : F_bind_Check_k2 x6 o3 x9 = some r := h
        unfold F_bind_Check_k2 at h
        refine AK.go tab_ok hC [.n 1] rfl trivial ?_
        rcases bifE h with ⟨hc14, h⟩ | ⟨hc14, h⟩
        · refine AK.go tab_ok hC [.br true, .n 7, .keep [6] []] rfl ⟨trivial, hc14⟩ ?_
          obtain rfl := Option.some.inj h
          refine AK.done ?_
          exact Exists.intro [_] (And.intro (And.intro rfl trivial) (gives trivial))
        · obtain ⟨x15, hx15, h⟩ := bindE h
          refine AK.go tab_ok hC [.br false, .n 5, .v .no [] (.agg (row_Tbind_binder x6.2)), .n 2, .o (.c false [.d, .d] (.i .i64 x15)), .n 9] rfl ⟨⟨⟨trivial, hc14⟩, rfl⟩, (F_bind_binder_takes_ok _ _ hx15)⟩ ?_
          rcases bifE h with ⟨hc16, h⟩ | ⟨hc16, h⟩
          · refine AK.go tab_ok hC [.br true, .n 8, .keep [6] []] rfl ⟨trivial, hc16⟩ ?_
            obtain rfl := Option.some.inj h
            refine AK.done ?_
            exact Exists.intro [_] (And.intro (And.intro rfl trivial) (gives trivial))
          · obtain ⟨x17, hx17, h⟩ := bindE h
            refine AK.go tab_ok hC [.br false, .n 4, .v .no [] (.agg (row_Tbind_binder x6.2)), .n 2, .o (.c false [.d, .d] (.i .i64 x17)), .n 4, .keep [6] []] rfl ⟨⟨⟨trivial, hc16⟩, rfl⟩, (F_bind_binder_gives_ok _ _ hx17)⟩ ?_
            obtain rfl := Option.some.inj h
            refine AK.done ?_
            exact Exists.intro [_] (And.intro (And.intro rfl trivial) (gives trivial))

-- 13 baldric/bind.All
noncomputable def F_bind_All_l1 (n1 : TNet) (m2 : (List (List (Int × Int)))) (most3 : Int) (x6 : Int) (l7 : (List TMode)) : Option ((Int × (List TMode)) ⊕ (List TMode)) :=
  bif (decide (x6 < (n1.Tasks.length : Int))) then
  (F_bind_Modes n1 m2 x6 (w64 (most3 - (l7.length : Int)))).bind fun x12 =>
  (chk (decide (l7.length + x12.length ≤ 4294967296))).bind fun _ =>
  some (.inl ((w64 (x6 + 1)), (l7 ++ x12)))
  else
  some (.inr l7)

noncomputable def F_bind_All_c2 (l10 : (List TMode)) : Option (List TMode) :=
  some l10

noncomputable def F_bind_All (n1 : TNet) (m2 : (List (List (Int × Int)))) (most3 : Int) : Option (List TMode) :=
  (loopM (fun st => F_bind_All_l1 n1 m2 most3 st.1 st.2) (0, ([] : List TMode))).bind (fun q => F_bind_All_c2 q)

set_option maxRecDepth 100000 in
set_option maxHeartbeats 4000000 in
theorem F_bind_All_ok (n1 : TNet) (m2 : (List (List (Int × Int)))) (most3 : Int) {r : (List TMode)} (h : F_bind_All n1 m2 most3 = some r) : ACalls Tryz.prog 13 [.agg (row_TNet n1), .sl 1 (m2.map row_LA2I), .i .i64 most3] [] (Gives (.own 30000 r.length) [(30000, .arr 4 (r.map row_TMode))]) := by
  refine ACalls.walk 27 Tryz.func13 rfl Tryz.ntmps13 rfl fun C hC => ?_
  unfold F_bind_All at h
  refine AK.go tab_ok hC [.n 16, .o (.ln n1.Tasks.length), .n 4, .adopt 7 15 4, .sayO 15 (.arr 4 (([] : List TMode).map row_TMode)), .say 7 (.own 15 ([] : List TMode).length), .keep [1, 2, 3, 7, 11, 12] [3, 15]] rfl ⟨⟨⟨trivial, mapLen⟩, rfl⟩, (congrArg (fun n => V.own 15 n) (by simp))⟩ ?_
  obtain ⟨l10, hl14, h⟩ := bindE h
  refine AK.loop (body := (fun st => F_bind_All_l1 n1 m2 most3 st.1 st.2)) (fun st σ => σ = ⟨[(1, .sl 1 (m2.map row_LA2I)), (2, .i .i64 most3), (3, .loc 3 0 0), (7, .own 15 st.2.length), (11, .i .i64 (n1.Tasks.length : Int)), (12, .i .i64 st.1)], [(3, .var (row_TNet n1)), (15, .arr 4 (st.2.map row_TMode))]⟩) (fun q e σ => e = .exit 0 ∧ σ = ⟨[(7, .own 15 q.length)], [(15, .arr 4 (q.map row_TMode))]⟩) hl14 rfl ?_ ?_
  · rintro ⟨x6, l7⟩ o σ rfl h
    replace h : F_bind_All_l1 n1 m2 most3 x6 l7 = some o := h
    unfold F_bind_All_l1 at h
    refine AK.go tab_ok hC [.n 6] rfl trivial ?_
    rcases bifE h with ⟨hc11, h⟩ | ⟨hc11, h⟩
    · obtain ⟨x12, hx12, h⟩ := bindE h
      obtain ⟨_, hk13, h⟩ := bindE h
      replace hk13 := chkE hk13
      refine AK.go tab_ok hC [.br true, .n 12, .v .no [] (.agg (row_TNet n1)), .n 6, .o (.c false [.d, .d, .d, .d] (.sl 4 (x12.map row_TMode))), .app ((l7 ++ x12).map row_TMode) (l7 ++ x12).length, .n 8, .keep [1, 2, 3, 7, 11, 12] [3, 15]] rfl ⟨⟨⟨⟨trivial, hc11⟩, rfl⟩, (F_bind_Modes_ok _ _ _ _ hx12)⟩, ⟨mapLen, appLim hk13 mapLen, mapApps, appLn mapLen⟩⟩ ?_
      obtain rfl := Option.some.inj h
      exact rndN rfl rfl
    · refine AK.go tab_ok hC [.br false, .n 2, .keep [7] [15]] rfl ⟨trivial, hc11⟩ ?_
      obtain rfl := Option.some.inj h
      exact rndX rfl (And.intro rfl rfl)
  · replace h : F_bind_All_c2 l10 = some r := h
    unfold F_bind_All_c2 at h
    rintro e σ ⟨rfl, rfl⟩
    refine AK.go tab_ok hC [.n 9, .keep [6] [15], .ren 15 30000, .keep [6] [30000]] rfl trivial ?_
    obtain rfl := Option.some.inj h
    refine AK.done ?_
    exact Exists.intro [_] (And.intro (And.intro rfl trivial) (gives ⟨rfl, trivial⟩))

-- 4 baldric/baldriclaw10.small
noncomputable def F_law10_small_g1 (x4 : (List TMode)) : Option Bool :=
  bif ((x4.length : Int) != 2) then
  some true
  else
  (idx x4 0).bind fun e8 =>
  bif ((e8.Vars.length : Int) != 1) then
  some true
  else
  (idx x4 1).bind fun e10 =>
  some ((e10.Vars.length : Int) != 1)

noncomputable def F_law10_small_g2 (x4 : (List TMode)) (x13 : ((List (List (Int × Int))) × Int)) (x3 : TNet) : Option Bool :=
  (idx x4 0).bind fun e16 =>
  (idx e16.Vars 0).bind fun e17 =>
  bif (e17 == 0) then
  (idx x4 1).bind fun e19 =>
  (idx e19.Vars 0).bind fun e20 =>
  bif (e20 == 2) then
  bif (x13.2 == 0) then
  (F_ref10_Markings x13.1 ([([(2, 1)] : List (Int × Int)), ([] : (List (Int × Int)))] : List (List (Int × Int)))).bind fun x23 =>
  bif x23 then
  (F_bind_Check x3 ([([(0, 1), (2, 3), (3, 1)] : List (Int × Int)), ([] : (List (Int × Int)))] : List (List (Int × Int))) (TMode.mk 0 ([3] : List Int) ([0] : List Int) ([0] : List Int))).bind fun x25 =>
  bif (x25 == 8) then
  (F_bind_Check x3 ([([(0, 1), (2, 3), (3, 1)] : List (Int × Int)), ([] : (List (Int × Int)))] : List (List (Int × Int))) (TMode.mk 0 ([1] : List Int) ([0] : List Int) ([0] : List Int))).bind fun x27 =>
  bif (x27 == 10) then
  (F_bind_Choices 3 3).bind fun x29 =>
  bif ((x29.length : Int) == 7) then
  (F_bind_All x3 ([([(0, 1), (2, 3), (3, 1)] : List (Int × Int)), ([] : (List (Int × Int)))] : List (List (Int × Int))) 1).bind fun x31 =>
  some ((x31.length : Int) == 1)
  else
  some false
  else
  some false
  else
  some false
  else
  some false
  else
  some false
  else
  some false
  else
  some false

noncomputable def F_law10_small_k3 (x14 : Bool) : Option Bool :=
  some x14

noncomputable def F_law10_small_k4 (x4 : (List TMode)) (x3 : TNet) (x5 : Bool) : Option Bool :=
  bif x5 then
  some false
  else
  (idx x4 1).bind fun e12 =>
  (F_bind_Needs x3 e12).bind fun x13 =>
  (F_law10_small_g2 x4 x13 x3).bind (fun x14 => F_law10_small_k3 x14)

noncomputable def F_law10_small  : Option Bool :=
  (F_law10_net).bind fun x3 =>
  (F_bind_Modes x3 ([([(0, 1), (2, 3), (3, 1)] : List (Int × Int)), ([] : (List (Int × Int)))] : List (List (Int × Int))) 0 100).bind fun x4 =>
  (F_law10_small_g1 x4).bind (fun x5 => F_law10_small_k4 x4 x3 x5)

set_option maxRecDepth 100000 in
set_option maxHeartbeats 4000000 in
theorem F_law10_small_ok  {r : Bool} (h : F_law10_small  = some r) : ACalls Tryz.prog 4 [] [] (Gives (.b r) []) := by
  refine ACalls.walk 105 Tryz.func4 rfl Tryz.ntmps4 rfl fun C hC => ?_
  unfold F_law10_small at h
  obtain ⟨x3, hx3, h⟩ := bindE h
  obtain ⟨x4, hx4, h⟩ := bindE h
  refine AK.go tab_ok hC [.n 7, .o (.c false [] (.agg (row_TNet x3))), .n 2, .sayO 1 (.var (row_TNet x3)), .n 4, .v .no [] (.agg (row_A2I (0, 1))), .v .no [] (.agg (row_A2I (2, 3))), .v .no [] (.agg (row_A2I (3, 1))), .v (.bd []) [] (.sl 2 (([(0, 1), (2, 3), (3, 1)] : List (Int × Int)).map row_A2I)), .v (.bd [none, some 2]) [] (.sl 1 (([([(0, 1), (2, 3), (3, 1)] : List (Int × Int)), ([] : (List (Int × Int)))] : List (List (Int × Int))).map row_LA2I)), .n 5, .v .no [] (.agg (row_TNet x3)), .n 1, .o (.c false [.d, .d, .d, .d] (.sl 4 (x4.map row_TMode))), .n 5] rfl ⟨⟨⟨⟨⟨⟨⟨⟨⟨trivial, (F_law10_net_ok  hx3)⟩, rfl⟩, rfl⟩, rfl⟩, rfl⟩, rfl⟩, rfl⟩, rfl⟩, (F_bind_Modes_ok _ _ _ _ hx4)⟩ ?_
  obtain ⟨x5, hv6, h⟩ := bindE h
  replace h : F_law10_small_k4 x4 x3 x5 = some r := h
  refine AK.meetX (fun σ => σ = ⟨[(1, .loc 1 0 0), (2, .sl 1 (([([(0, 1), (2, 3), (3, 1)] : List (Int × Int)), ([] : (List (Int × Int)))] : List (List (Int × Int))).map row_LA2I)), (3, .sl 4 (x4.map row_TMode)), (35, .b x5)], [(1, .var (row_TNet x3))]⟩) ?_ ?_
  · replace h := hv6
    unfold F_law10_small_g1 at h
    refine AK.go tab_ok hC [.n 2, .o (.ln x4.length), .n 2] rfl ⟨trivial, mapLen⟩ ?_
    rcases bifE h with ⟨hc7, h⟩ | ⟨hc7, h⟩
    · refine AK.go tab_ok hC [.say 20 (.b true), .n 16, .keep [1, 2, 3, 35] [1]] rfl ⟨trivial, (congrArg V.b hc7)⟩ ?_
      obtain rfl := Option.some.inj h
      exact AK.met rfl
    · obtain ⟨e8, he8, h⟩ := bindE h
      refine AK.go tab_ok hC [.say 20 (.b false), .n 1, .o (.row (row_TMode e8)), .n 2, .o (.ln e8.Vars.length), .n 3] rfl ⟨⟨⟨trivial, (congrArg V.b hc7)⟩, (idxM he8)⟩, mapLen⟩ ?_
      rcases bifE h with ⟨hc9, h⟩ | ⟨hc9, h⟩
      · refine AK.go tab_ok hC [.say 28 (.b true), .n 8, .keep [1, 2, 3, 35] [1]] rfl ⟨trivial, (congrArg V.b hc9)⟩ ?_
        obtain rfl := Option.some.inj h
        exact AK.met rfl
      · obtain ⟨e10, he10, h⟩ := bindE h
        refine AK.go tab_ok hC [.say 28 (.b false), .n 1, .o (.row (row_TMode e10)), .n 2, .o (.ln e10.Vars.length), .n 3, .keep [1, 2, 3, 35] [1]] rfl ⟨⟨⟨trivial, (congrArg V.b hc9)⟩, (idxM he10)⟩, mapLen⟩ ?_
        obtain rfl := Option.some.inj h
        exact AK.met rfl
  · rintro σ rfl
    replace h : F_law10_small_k4 x4 x3 x5 = some r := h
    unfold F_law10_small_k4 at h
    refine AK.go tab_ok hC [.n 1] rfl trivial ?_
    rcases bifE h with ⟨hc11, h⟩ | ⟨hc11, h⟩
    · refine AK.go tab_ok hC [.br true, .n 7, .keep [0] []] rfl ⟨trivial, hc11⟩ ?_
      obtain rfl := Option.some.inj h
      refine AK.done ?_
      exact Exists.intro [_] (And.intro (And.intro rfl trivial) (gives trivial))
    · obtain ⟨e12, he12, h⟩ := bindE h
      obtain ⟨x13, hx13, h⟩ := bindE h
      refine AK.go tab_ok hC [.br false, .n 3, .keep [1, 2, 3] [1]] rfl ⟨trivial, hc11⟩ ?_
      refine AK.draw2 tab_ok hC mixed [.a .no (some ([], .agg (row_TNet x3))) false, .a .no none false, .a (.row (row_TMode e12)) none false, .a .no (some ([], .agg (row_TMode e12))) false, .a (.c false [.d, .d] (.tup [.sl 1 (x13.1.map row_LA2I), .i .i64 x13.2])) none false, .a .no none false, .a .no none false, .a .no none false, .a .no none false, .a .no none false] [] [] [1, 2, 3, 4, 5] [1] rfl rfl rfl ⟨⟨⟨⟨trivial, rfl⟩, (idxM he12)⟩, rfl⟩, (F_bind_Needs_ok _ _ hx13)⟩ rfl (by kernel_rfl) rfl rfl rfl ?_
      refine AK.go tab_ok hC [.n 3, .v (.bd []) [] (.sl 1 (([3] : List Int).map row_I)), .v (.bd []) [] (.sl 1 (([0] : List Int).map row_I)), .v (.bd []) [] (.sl 1 (([0] : List Int).map row_I)), .v .no [] (.agg (row_TMode (TMode.mk 0 ([3] : List Int) ([0] : List Int) ([0] : List Int)))), .n 2, .sayO 6 (.var (row_TMode (TMode.mk 0 ([3] : List Int) ([0] : List Int) ([0] : List Int)))), .n 4, .v (.bd []) [] (.sl 1 (([1] : List Int).map row_I)), .v (.bd []) [] (.sl 1 (([0] : List Int).map row_I)), .v (.bd []) [] (.sl 1 (([0] : List Int).map row_I)), .v .no [] (.agg (row_TMode (TMode.mk 0 ([1] : List Int) ([0] : List Int) ([0] : List Int)))), .n 2, .sayO 7 (.var (row_TMode (TMode.mk 0 ([1] : List Int) ([0] : List Int) ([0] : List Int)))), .n 3] rfl ⟨⟨⟨⟨⟨⟨⟨⟨⟨⟨trivial, rfl⟩, rfl⟩, rfl⟩, rfl⟩, rfl⟩, rfl⟩, rfl⟩, rfl⟩, rfl⟩, rfl⟩ ?_
      obtain ⟨x14, hv15, h⟩ := bindE h
      replace h : F_law10_small_k3 x14 = some r := h
      refine AK.meetX (fun σ => σ = ⟨[(0, .b x14)], []⟩) ?_ ?_
      · replace h := hv15
        unfold F_law10_small_g2 at h
        obtain ⟨e16, he16, h⟩ := bindE h
        obtain ⟨e17, he17, h⟩ := bindE h
        refine AK.go tab_ok hC [.n 2, .o (.row (row_TMode e16)), .n 2, .o (.row (row_I e17)), .n 3] rfl ⟨⟨trivial, (idxM he16)⟩, (idxM he17)⟩ ?_
        rcases bifE h with ⟨hc18, h⟩ | ⟨hc18, h⟩
        · obtain ⟨e19, he19, h⟩ := bindE h
          obtain ⟨e20, he20, h⟩ := bindE h
          refine AK.go tab_ok hC [.say 59 (.b true), .n 1, .o (.row (row_TMode e19)), .n 2, .o (.row (row_I e20)), .n 4] rfl ⟨⟨⟨trivial, (congrArg V.b hc18)⟩, (idxM he19)⟩, (idxM he20)⟩ ?_
          rcases bifE h with ⟨hc21, h⟩ | ⟨hc21, h⟩
          · refine AK.go tab_ok hC [.say 68 (.b true), .n 4] rfl ⟨trivial, (congrArg V.b hc21)⟩ ?_
            rcases bifE h with ⟨hc22, h⟩ | ⟨hc22, h⟩
            · obtain ⟨x23, hx23, h⟩ := bindE h
              refine AK.go tab_ok hC [.say 72 (.b true), .n 1, .v .no [] (.agg (row_A2I (2, 1))), .v (.bd []) [] (.sl 2 (([(2, 1)] : List (Int × Int)).map row_A2I)), .v (.bd [none, some 2]) [] (.sl 1 (([([(2, 1)] : List (Int × Int)), ([] : (List (Int × Int)))] : List (List (Int × Int))).map row_LA2I)), .o (.c false [.d, .d] (.b x23)), .n 2] rfl ⟨⟨⟨⟨⟨trivial, (congrArg V.b hc22)⟩, rfl⟩, rfl⟩, rfl⟩, (F_ref10_Markings_ok _ _ hx23)⟩ ?_
              rcases bifE h with ⟨hc24, h⟩ | ⟨hc24, h⟩
              · obtain ⟨x25, hx25, h⟩ := bindE h
                refine AK.go tab_ok hC [.say 79 (.b true), .v .no [] (.agg (row_TNet x3)), .n 1, .v .no [] (.agg (row_TMode (TMode.mk 0 ([3] : List Int) ([0] : List Int) ([0] : List Int)))), .o (.c false [.d, .d, .d] (.i .i64 x25)), .n 3] rfl ⟨⟨⟨⟨trivial, (congrArg V.b hc24)⟩, rfl⟩, rfl⟩, (F_bind_Check_ok _ _ _ hx25)⟩ ?_
                rcases bifE h with ⟨hc26, h⟩ | ⟨hc26, h⟩
                · obtain ⟨x27, hx27, h⟩ := bindE h
                  refine AK.go tab_ok hC [.say 86 (.b true), .v .no [] (.agg (row_TNet x3)), .n 1, .v .no [] (.agg (row_TMode (TMode.mk 0 ([1] : List Int) ([0] : List Int) ([0] : List Int)))), .o (.c false [.d, .d, .d] (.i .i64 x27)), .n 3] rfl ⟨⟨⟨⟨trivial, (congrArg V.b hc26)⟩, rfl⟩, rfl⟩, (F_bind_Check_ok _ _ _ hx27)⟩ ?_
                  rcases bifE h with ⟨hc28, h⟩ | ⟨hc28, h⟩
                  · obtain ⟨x29, hx29, h⟩ := bindE h
                    refine AK.go tab_ok hC [.say 93 (.b true), .o (.co false [.d, .d] 1 (x29.map row_LI) x29.length), .n 4] rfl ⟨⟨trivial, (congrArg V.b hc28)⟩, ⟨(F_bind_Choices_ok _ _ hx29), mapLen, .inl rfl⟩⟩ ?_
                    rcases bifE h with ⟨hc30, h⟩ | ⟨hc30, h⟩
                    · obtain ⟨x31, hx31, h⟩ := bindE h
                      refine AK.go tab_ok hC [.say 98 (.b true), .v .no [] (.agg (row_TNet x3)), .n 1, .o (.co false [.d, .d, .d] 4 (x31.map row_TMode) x31.length), .n 5, .keep [0] []] rfl ⟨⟨⟨trivial, (congrArg V.b hc30)⟩, rfl⟩, ⟨(F_bind_All_ok _ _ _ hx31), mapLen, .inl rfl⟩⟩ ?_
                      obtain rfl := Option.some.inj h
                      exact AK.met rfl
                    · refine AK.go tab_ok hC [.say 98 (.b false), .n 8, .keep [0] []] rfl ⟨trivial, (congrArg V.b hc30)⟩ ?_
                      obtain rfl := Option.some.inj h
                      exact AK.met rfl
                  · refine AK.go tab_ok hC [.say 93 (.b false), .n 13, .keep [0] []] rfl ⟨trivial, (congrArg V.b hc28)⟩ ?_
                    obtain rfl := Option.some.inj h
                    exact AK.met rfl
                · refine AK.go tab_ok hC [.say 86 (.b false), .n 20, .keep [0] []] rfl ⟨trivial, (congrArg V.b hc26)⟩ ?_
                  obtain rfl := Option.some.inj h
                  exact AK.met rfl
              · refine AK.go tab_ok hC [.say 79 (.b false), .n 27, .keep [0] []] rfl ⟨trivial, (congrArg V.b hc24)⟩ ?_
                obtain rfl := Option.some.inj h
                exact AK.met rfl
            · refine AK.go tab_ok hC [.say 72 (.b false), .n 34, .keep [0] []] rfl ⟨trivial, (congrArg V.b hc22)⟩ ?_
              obtain rfl := Option.some.inj h
              exact AK.met rfl
          · refine AK.go tab_ok hC [.say 68 (.b false), .n 38, .keep [0] []] rfl ⟨trivial, (congrArg V.b hc21)⟩ ?_
            obtain rfl := Option.some.inj h
            exact AK.met rfl
        · refine AK.go tab_ok hC [.say 59 (.b false), .n 47, .keep [0] []] rfl ⟨trivial, (congrArg V.b hc18)⟩ ?_
          obtain rfl := Option.some.inj h
          exact AK.met rfl
      · rintro σ rfl
        replace h : F_law10_small_k3 x14 = some r := h
        unfold F_law10_small_k3 at h
        refine AK.go tab_ok hC [.n 2, .keep [0] []] rfl trivial ?_
        obtain rfl := Option.some.inj h
        refine AK.done ?_
        exact Exists.intro [_] (And.intro (And.intro rfl trivial) (gives trivial))

-- 6 baldric/baldricref10.Choices
noncomputable def F_ref10_Choices_l1 (arcs2 : Int) (i11 : Int) (l12 : (List Int)) : Option ((Int × (List Int)) ⊕ (List Int)) :=
  bif (decide (i11 < arcs2)) then
  (chk (decide (l12.length + ([i11] : List Int).length ≤ 4294967296))).bind fun _ =>
  some (.inl ((w64 (i11 + 1)), (l12 ++ ([i11] : List Int))))
  else
  some (.inr l12)

noncomputable def F_ref10_Choices_k2 (l19 : (List (List Int))) : Option (List (List Int)) :=
  some l19

noncomputable def F_ref10_Choices_l3 (arcs2 : Int) (i23 : Int) (l24 : (List (List Int))) : Option ((Int × (List (List Int))) ⊕ (List (List Int))) :=
  bif (decide (i23 < arcs2)) then
  (chk (decide (l24.length + ([([i23] : List Int)] : List (List Int)).length ≤ 4294967296))).bind fun _ =>
  some (.inl ((w64 (i23 + 1)), (l24 ++ ([([i23] : List Int)] : List (List Int)))))
  else
  some (.inr l24)

noncomputable def F_ref10_Choices_c4 (l27 : (List (List Int))) : Option (List (List Int)) :=
  F_ref10_Choices_k2 l27

noncomputable def F_ref10_Choices_l5 (arcs2 : Int) (two32 : Int) (i33 : Int) : Option ((Int × Int) ⊕ Int) :=
  bif (decide (i33 < arcs2)) then
  some (.inl ((w64 (2 * two32)), (w64 (i33 + 1))))
  else
  some (.inr two32)

noncomputable def F_ref10_Choices_k6 (x48 : Int) (i49 : Int) (l56 : (List Int)) : Option ((Int × Int × (List Int)) ⊕ (List Int)) :=
  some (.inl ((w64 (Int.tdiv x48 2)), (w64 (i49 + 1)), l56))

noncomputable def F_ref10_Choices_l7 (arcs2 : Int) (x48 : Int) (i49 : Int) (l50 : (List Int)) : Option ((Int × Int × (List Int)) ⊕ (List Int)) :=
  bif (decide (i49 < arcs2)) then
  bif ((Int.tmod x48 2) == 1) then
  (chk (decide (l50.length + ([i49] : List Int).length ≤ 4294967296))).bind fun _ =>
  F_ref10_Choices_k6 x48 i49 (l50 ++ ([i49] : List Int))
  else
  F_ref10_Choices_k6 x48 i49 l50
  else
  some (.inr l50)

noncomputable def F_ref10_Choices_c8 (l41 : (List (List Int))) (k40 : Int) (l54 : (List Int)) : Option ((Int × (List (List Int))) ⊕ (List (List Int))) :=
  (chk (decide (l41.length + ([l54] : List (List Int)).length ≤ 4294967296))).bind fun _ =>
  some (.inl ((w64 (k40 + 1)), (l41 ++ ([l54] : List (List Int)))))

noncomputable def F_ref10_Choices_l9 (two36 : Int) (arcs2 : Int) (k40 : Int) (l41 : (List (List Int))) : Option ((Int × (List (List Int))) ⊕ (List (List Int))) :=
  bif (decide (k40 < two36)) then
  (loopM (fun st => F_ref10_Choices_l7 arcs2 st.1 st.2.1 st.2.2) (k40, 0, ([] : List Int))).bind (fun q => F_ref10_Choices_c8 l41 k40 q)
  else
  some (.inr l41)

noncomputable def F_ref10_Choices_c10 (l44 : (List (List Int))) : Option (List (List Int)) :=
  F_ref10_Choices_k2 l44

noncomputable def F_ref10_Choices_c11 (arcs2 : Int) (two36 : Int) : Option (List (List Int)) :=
  (loopM (fun st => F_ref10_Choices_l9 two36 arcs2 st.1 st.2) (1, ([] : List (List Int)))).bind (fun q => F_ref10_Choices_c10 q)

noncomputable def F_ref10_Choices_c12 (kind1 : Int) (arcs2 : Int) (l15 : (List Int)) : Option (List (List Int)) :=
  bif (kind1 == 1) then
  some ([l15] : List (List Int))
  else
  bif (kind1 == 2) then
  (loopM (fun st => F_ref10_Choices_l3 arcs2 st.1 st.2) (0, ([] : List (List Int)))).bind (fun q => F_ref10_Choices_c4 q)
  else
  bif (kind1 == 3) then
  (loopM (fun st => F_ref10_Choices_l5 arcs2 st.1 st.2) (1, 0)).bind (fun q => F_ref10_Choices_c11 arcs2 q)
  else
  F_ref10_Choices_k2 ([] : List (List Int))

noncomputable def F_ref10_Choices (kind1 : Int) (arcs2 : Int) : Option (List (List Int)) :=
  bif ((decide (arcs2 < 0)) || ((decide (16 < arcs2)) || ((kind1 == 3) && (decide (4 < arcs2))))) then
  some ([] : List (List Int))
  else
  (loopM (fun st => F_ref10_Choices_l1 arcs2 st.1 st.2) (0, ([] : List Int))).bind (fun q => F_ref10_Choices_c12 kind1 arcs2 q)

set_option maxRecDepth 100000 in
set_option maxHeartbeats 4000000 in
theorem F_ref10_Choices_ok (kind1 : Int) (arcs2 : Int) {r : (List (List Int))} (h : F_ref10_Choices kind1 arcs2 = some r) : ACalls Tryz.prog 6 [.i .i64 kind1, .i .i64 arcs2] [] (Gives (.own 30000 r.length) [(30000, .arr 1 (r.map row_LI))]) := by
  refine ACalls.walk 89 Tryz.func6 rfl Tryz.ntmps6 rfl fun C hC => ?_
  unfold F_ref10_Choices at h
  refine AK.go tab_ok hC [.n 7] rfl trivial ?_
  refine AK.meetX (fun σ => σ = ⟨[(0, .i .i64 kind1), (1, .i .i64 arcs2), (28, .b ((decide (arcs2 < 0)) || ((decide (16 < arcs2)) || ((kind1 == 3) && (decide (4 < arcs2))))))], []⟩) ?_ ?_
  · refine AK.go tab_ok hC [.n 4] rfl trivial ?_
    rcases boolOr (decide (arcs2 < 0)) with hc6 | hc6
    · refine AK.go tab_ok hC [.say 17 (.b true), .n 12, .say 28 (.b ((decide (arcs2 < 0)) || ((decide (16 < arcs2)) || ((kind1 == 3) && (decide (4 < arcs2)))))), .keep [0, 1, 28] []] rfl ⟨⟨trivial, (congrArg V.b hc6)⟩, (congrArg V.b (orT hc6 rfl))⟩ ?_
      exact AK.met rfl
    · refine AK.go tab_ok hC [.say 17 (.b false), .n 4] rfl ⟨trivial, (congrArg V.b hc6)⟩ ?_
      rcases boolOr (decide (16 < arcs2)) with hc7 | hc7
      · refine AK.go tab_ok hC [.say 21 (.b true), .n 8, .say 28 (.b ((decide (arcs2 < 0)) || ((decide (16 < arcs2)) || ((kind1 == 3) && (decide (4 < arcs2)))))), .keep [0, 1, 28] []] rfl ⟨⟨trivial, (congrArg V.b hc7)⟩, (congrArg V.b (orF hc6 (orT hc7 rfl)))⟩ ?_
        exact AK.met rfl
      · refine AK.go tab_ok hC [.say 21 (.b false), .n 3] rfl ⟨trivial, (congrArg V.b hc7)⟩ ?_
        rcases boolOr (kind1 == 3) with hc8 | hc8
        · refine AK.go tab_ok hC [.say 24 (.b true), .n 5, .say 28 (.b ((decide (arcs2 < 0)) || ((decide (16 < arcs2)) || ((kind1 == 3) && (decide (4 < arcs2)))))), .keep [0, 1, 28] []] rfl ⟨⟨trivial, (congrArg V.b hc8)⟩, (congrArg V.b (orF hc6 (orF hc7 (andT hc8 rfl))))⟩ ?_
          exact AK.met rfl
        · refine AK.go tab_ok hC [.say 24 (.b false), .n 5, .say 28 (.b ((decide (arcs2 < 0)) || ((decide (16 < arcs2)) || ((kind1 == 3) && (decide (4 < arcs2)))))), .keep [0, 1, 28] []] rfl ⟨⟨trivial, (congrArg V.b hc8)⟩, (congrArg V.b (orF hc6 (orF hc7 (andF hc8 rfl))))⟩ ?_
          exact AK.met rfl
  · rintro σ rfl
    refine AK.go tab_ok hC [.n 1] rfl trivial ?_
    rcases bifE h with ⟨hc9, h⟩ | ⟨hc9, h⟩
    · refine AK.go tab_ok hC [.br true, .n 7, .adopt 4 30000 1, .sayO 30000 (.arr 1 (([] : List (List Int)).map row_LI)), .say 4 (.own 30000 ([] : List (List Int)).length), .keep [4] [30000]] rfl ⟨⟨⟨trivial, hc9⟩, rfl⟩, rfl⟩ ?_
      obtain rfl := Option.some.inj h
      refine AK.done ?_
      exact Exists.intro [_] (And.intro (And.intro rfl trivial) (gives ⟨rfl, trivial⟩))
    · refine AK.go tab_ok hC [.br false, .n 19, .adopt 6 34 1, .sayO 34 (.arr 1 (([] : List Int).map row_I)), .say 6 (.own 34 ([] : List Int).length), .keep [0, 1, 5, 6, 7] [34]] rfl ⟨⟨⟨trivial, hc9⟩, rfl⟩, (congrArg (fun n => V.own 34 n) (by simp))⟩ ?_
      obtain ⟨l15, hl18, h⟩ := bindE h
      refine AK.loop (body := (fun st => F_ref10_Choices_l1 arcs2 st.1 st.2)) (fun st σ => σ = ⟨[(0, .i .i64 kind1), (1, .i .i64 arcs2), (5, .lit (.slice none 0 0)), (6, .own 34 st.2.length), (7, .i .i64 st.1)], [(34, .arr 1 (st.2.map row_I))]⟩) (fun q e σ => e = .exit 0 ∧ σ = ⟨[(0, .i .i64 kind1), (1, .i .i64 arcs2), (5, .lit (.slice none 0 0)), (6, .own 34 q.length)], [(34, .arr 1 (q.map row_I))]⟩) hl18 rfl ?_ ?_
      · rintro ⟨i11, l12⟩ o σ rfl h
        replace h : F_ref10_Choices_l1 arcs2 i11 l12 = some o := h
        unfold F_ref10_Choices_l1 at h
        refine AK.go tab_ok hC [.n 8] rfl trivial ?_
        rcases bifE h with ⟨hc16, h⟩ | ⟨hc16, h⟩
        · obtain ⟨_, hk17, h⟩ := bindE h
          replace hk17 := chkE hk17
          refine AK.go tab_ok hC [.br true, .n 7, .v (.bd []) [] (.sl 1 (([i11] : List Int).map row_I)), .app ((l12 ++ ([i11] : List Int)).map row_I) (l12 ++ ([i11] : List Int)).length, .n 9, .keep [0, 1, 5, 6, 7] [34]] rfl ⟨⟨⟨trivial, hc16⟩, rfl⟩, ⟨mapLen, appLim hk17 mapLen, mapApps, appLn mapLen⟩⟩ ?_
          obtain rfl := Option.some.inj h
          exact rndN rfl rfl
        · refine AK.go tab_ok hC [.br false, .n 2, .keep [0, 1, 5, 6] [34]] rfl ⟨trivial, hc16⟩ ?_
          obtain rfl := Option.some.inj h
          exact rndX rfl (And.intro rfl rfl)
      · replace h : F_ref10_Choices_c12 kind1 arcs2 l15 = some r := h
        unfold F_ref10_Choices_c12 at h
        rintro e σ ⟨rfl, rfl⟩
        refine AK.go tab_ok hC [.n 2] rfl trivial ?_
        refine AK.meet (fun σ => ∃ l19 : (List (List Int)), σ = ⟨[(5, .own 40005 l19.length)], [(40005, .arr 1 (l19.map row_LI))]⟩ ∧ F_ref10_Choices_k2 l19 = some r) ?_ ?_
        · refine AK.go tab_ok hC [.n 12] rfl trivial ?_
          rcases bifE h with ⟨hc20, h⟩ | ⟨hc20, h⟩
          · refine AK.go tab_ok hC [.br true, .n 3, .frz 34 (l15.map row_I) [6, 41] [], .n 1, .sayO 42 (.arr 1 (([l15] : List (List Int)).map row_LI)), .say 42 (.own 42 ([l15] : List (List Int)).length), .n 6, .keep [4] [42], .ren 42 30000, .keep [4] [30000]] rfl ⟨⟨⟨⟨trivial, hc20⟩, ⟨⟨trivial, (frzL mapLen)⟩, (frzL mapLen)⟩⟩, rfl⟩, rfl⟩ ?_
            obtain rfl := Option.some.inj h
            refine AK.done ?_
            exact Exists.intro [_] (And.intro (And.intro rfl trivial) (gives ⟨rfl, trivial⟩))
          · refine AK.go tab_ok hC [.br false, .n 6] rfl ⟨trivial, hc20⟩ ?_
            rcases bifE h with ⟨hc21, h⟩ | ⟨hc21, h⟩
            · refine AK.go tab_ok hC [.br true, .n 6, .adopt 5 50 1, .sayO 50 (.arr 1 (([] : List (List Int)).map row_LI)), .say 5 (.own 50 ([] : List (List Int)).length), .keep [1, 5, 8] [50]] rfl ⟨⟨⟨trivial, hc21⟩, rfl⟩, (congrArg (fun n => V.own 50 n) (by simp))⟩ ?_
              obtain ⟨l27, hl30, h⟩ := bindE h
              refine AK.loop (body := (fun st => F_ref10_Choices_l3 arcs2 st.1 st.2)) (fun st σ => σ = ⟨[(1, .i .i64 arcs2), (5, .own 50 st.2.length), (8, .i .i64 st.1)], [(50, .arr 1 (st.2.map row_LI))]⟩) (fun q e σ => e = .exit 3 ∧ σ = ⟨[(5, .own 50 q.length)], [(50, .arr 1 (q.map row_LI))]⟩) hl30 rfl ?_ ?_
              · rintro ⟨i23, l24⟩ o σ rfl h
                replace h : F_ref10_Choices_l3 arcs2 i23 l24 = some o := h
                unfold F_ref10_Choices_l3 at h
                refine AK.go tab_ok hC [.n 8] rfl trivial ?_
                rcases bifE h with ⟨hc28, h⟩ | ⟨hc28, h⟩
                · obtain ⟨_, hk29, h⟩ := bindE h
                  replace hk29 := chkE hk29
                  refine AK.go tab_ok hC [.br true, .n 7, .v (.bd []) [] (.sl 1 (([i23] : List Int).map row_I)), .v (.bd []) [] (.sl 1 (([([i23] : List Int)] : List (List Int)).map row_LI)), .app ((l24 ++ ([([i23] : List Int)] : List (List Int))).map row_LI) (l24 ++ ([([i23] : List Int)] : List (List Int))).length, .n 9, .keep [1, 5, 8] [50]] rfl ⟨⟨⟨⟨trivial, hc28⟩, rfl⟩, rfl⟩, ⟨mapLen, appLim hk29 mapLen, mapApps, appLn mapLen⟩⟩ ?_
                  obtain rfl := Option.some.inj h
                  exact rndN rfl rfl
                · refine AK.go tab_ok hC [.br false, .n 2, .keep [5] [50]] rfl ⟨trivial, hc28⟩ ?_
                  obtain rfl := Option.some.inj h
                  exact rndX rfl (And.intro rfl rfl)
              · replace h : F_ref10_Choices_c4 l27 = some r := h
                unfold F_ref10_Choices_c4 at h
                rintro e σ ⟨rfl, rfl⟩
                refine AK.go tab_ok hC [.n 2, .ren 50 40005, .keep [5] [40005]] rfl trivial ?_
                exact AK.met (Exists.intro _ (And.intro rfl h))
            · refine AK.go tab_ok hC [.br false, .n 6] rfl ⟨trivial, hc21⟩ ?_
              rcases bifE h with ⟨hc31, h⟩ | ⟨hc31, h⟩
              · refine AK.go tab_ok hC [.br true, .n 12, .keep [1, 5, 9, 10] []] rfl ⟨trivial, hc31⟩ ?_
                obtain ⟨two36, hl38, h⟩ := bindE h
                refine AK.loop (body := (fun st => F_ref10_Choices_l5 arcs2 st.1 st.2)) (fun st σ => σ = ⟨[(1, .i .i64 arcs2), (5, .lit (.slice none 0 0)), (9, .i .i64 st.1), (10, .i .i64 st.2)], []⟩) (fun q e σ => e = .exit 5 ∧ σ = ⟨[(1, .i .i64 arcs2), (5, .lit (.slice none 0 0)), (9, .i .i64 q)], []⟩) hl38 rfl ?_ ?_
                · rintro ⟨two32, i33⟩ o σ rfl h
                  replace h : F_ref10_Choices_l5 arcs2 two32 i33 = some o := h
                  unfold F_ref10_Choices_l5 at h
                  refine AK.go tab_ok hC [.n 8] rfl trivial ?_
                  rcases bifE h with ⟨hc37, h⟩ | ⟨hc37, h⟩
                  · refine AK.go tab_ok hC [.br true, .n 16, .keep [1, 5, 9, 10] []] rfl ⟨trivial, hc37⟩ ?_
                    obtain rfl := Option.some.inj h
                    exact rndN rfl rfl
                  · refine AK.go tab_ok hC [.br false, .n 2, .keep [1, 5, 9] []] rfl ⟨trivial, hc37⟩ ?_
                    obtain rfl := Option.some.inj h
                    exact rndX rfl (And.intro rfl rfl)
                · replace h : F_ref10_Choices_c11 arcs2 two36 = some r := h
                  unfold F_ref10_Choices_c11 at h
                  rintro e σ ⟨rfl, rfl⟩
                  refine AK.go tab_ok hC [.n 8, .adopt 5 84 1, .sayO 84 (.arr 1 (([] : List (List Int)).map row_LI)), .say 5 (.own 84 ([] : List (List Int)).length), .keep [1, 5, 9, 11] [84]] rfl ⟨⟨trivial, rfl⟩, (congrArg (fun n => V.own 84 n) (by simp))⟩ ?_
                  obtain ⟨l44, hl61, h⟩ := bindE h
                  refine AK.loop (body := (fun st => F_ref10_Choices_l9 two36 arcs2 st.1 st.2)) (fun st σ => σ = ⟨[(1, .i .i64 arcs2), (5, .own 84 st.2.length), (9, .i .i64 two36), (11, .i .i64 st.1)], [(84, .arr 1 (st.2.map row_LI))]⟩) (fun q e σ => e = .exit 7 ∧ σ = ⟨[(5, .own 84 q.length)], [(84, .arr 1 (q.map row_LI))]⟩) hl61 rfl ?_ ?_
                  · rintro ⟨k40, l41⟩ o σ rfl h
                    replace h : F_ref10_Choices_l9 two36 arcs2 k40 l41 = some o := h
                    unfold F_ref10_Choices_l9 at h
                    refine AK.go tab_ok hC [.n 8] rfl trivial ?_
                    rcases bifE h with ⟨hc45, h⟩ | ⟨hc45, h⟩
                    · refine AK.go tab_ok hC [.br true, .n 22, .adopt 12 78 1, .sayO 78 (.arr 1 (([] : List Int).map row_I)), .say 12 (.own 78 ([] : List Int).length), .keep [1, 5, 9, 11, 12, 13, 14] [78, 84]] rfl ⟨⟨⟨trivial, hc45⟩, rfl⟩, (congrArg (fun n => V.own 78 n) (by simp))⟩ ?_
                      obtain ⟨l54, hl59, h⟩ := bindE h
                      refine AK.loop (body := (fun st => F_ref10_Choices_l7 arcs2 st.1 st.2.1 st.2.2)) (fun st σ => σ = ⟨[(1, .i .i64 arcs2), (5, .own 84 l41.length), (9, .i .i64 two36), (11, .i .i64 k40), (12, .own 78 st.2.2.length), (13, .i .i64 st.1), (14, .i .i64 st.2.1)], [(78, .arr 1 (st.2.2.map row_I)), (84, .arr 1 (l41.map row_LI))]⟩) (fun q e σ => e = .exit 9 ∧ σ = ⟨[(1, .i .i64 arcs2), (5, .own 84 l41.length), (9, .i .i64 two36), (11, .i .i64 k40), (12, .own 78 q.length)], [(78, .arr 1 (q.map row_I)), (84, .arr 1 (l41.map row_LI))]⟩) hl59 rfl ?_ ?_
                      · rintro ⟨x48, i49, l50⟩ o σ rfl h
                        replace h : F_ref10_Choices_l7 arcs2 x48 i49 l50 = some o := h
                        unfold F_ref10_Choices_l7 at h
                        refine AK.go tab_ok hC [.n 8] rfl trivial ?_
                        rcases bifE h with ⟨hc55, h⟩ | ⟨hc55, h⟩
                        · refine AK.go tab_ok hC [.br true, .n 4] rfl ⟨trivial, hc55⟩ ?_
                          refine AK.meet (fun σ => ∃ l56 : (List Int), σ = ⟨[(1, .i .i64 arcs2), (5, .own 84 l41.length), (9, .i .i64 two36), (11, .i .i64 k40), (12, .own 78 l56.length), (13, .i .i64 x48), (14, .i .i64 i49)], [(78, .arr 1 (l56.map row_I)), (84, .arr 1 (l41.map row_LI))]⟩ ∧ F_ref10_Choices_k6 x48 i49 l56 = some o) ?_ ?_
                          · refine AK.go tab_ok hC [.n 7] rfl ⟨trivial, (by decide)⟩ ?_
                            rcases bifE h with ⟨hc57, h⟩ | ⟨hc57, h⟩
                            · obtain ⟨_, hk58, h⟩ := bindE h
                              replace hk58 := chkE hk58
                              refine AK.go tab_ok hC [.br true, .n 3, .v (.bd []) [] (.sl 1 (([i49] : List Int).map row_I)), .app ((l50 ++ ([i49] : List Int)).map row_I) (l50 ++ ([i49] : List Int)).length, .n 2, .keep [1, 5, 9, 11, 12, 13, 14] [78, 84]] rfl ⟨⟨⟨trivial, hc57⟩, rfl⟩, ⟨mapLen, appLim hk58 mapLen, mapApps, appLn mapLen⟩⟩ ?_
                              exact AK.met (Exists.intro _ (And.intro rfl h))
                            · refine AK.go tab_ok hC [.br false, .n 1, .keep [1, 5, 9, 11, 12, 13, 14] [78, 84]] rfl ⟨trivial, hc57⟩ ?_
                              exact AK.met (Exists.intro _ (And.intro rfl h))
                          · rintro σ ⟨l56, rfl, h⟩
                            unfold F_ref10_Choices_k6 at h
                            refine AK.go tab_ok hC [.n 12, .keep [1, 5, 9, 11, 12, 13, 14] [78, 84]] rfl ⟨trivial, (by decide)⟩ ?_
                            obtain rfl := Option.some.inj h
                            exact rndN rfl rfl
                        · refine AK.go tab_ok hC [.br false, .n 2, .keep [1, 5, 9, 11, 12] [78, 84]] rfl ⟨trivial, hc55⟩ ?_
                          obtain rfl := Option.some.inj h
                          exact rndX rfl (And.intro rfl rfl)
                      · replace h : F_ref10_Choices_c8 l41 k40 l54 = some o := h
                        unfold F_ref10_Choices_c8 at h
                        rintro e σ ⟨rfl, rfl⟩
                        obtain ⟨_, hk60, h⟩ := bindE h
                        replace hk60 := chkE hk60
                        refine AK.go tab_ok hC [.n 5, .frz 78 (l54.map row_I) [12, 85] [], .v (.bd []) [] (.sl 1 (([l54] : List (List Int)).map row_LI)), .app ((l41 ++ ([l54] : List (List Int))).map row_LI) (l41 ++ ([l54] : List (List Int))).length, .n 9, .keep [1, 5, 9, 11] [84]] rfl ⟨⟨⟨trivial, ⟨⟨trivial, (frzL mapLen)⟩, (frzL mapLen)⟩⟩, rfl⟩, ⟨mapLen, appLim hk60 mapLen, mapApps, appLn mapLen⟩⟩ ?_
                        obtain rfl := Option.some.inj h
                        exact rndN rfl rfl
                    · refine AK.go tab_ok hC [.br false, .n 2, .keep [5] [84]] rfl ⟨trivial, hc45⟩ ?_
                      obtain rfl := Option.some.inj h
                      exact rndX rfl (And.intro rfl rfl)
                  · replace h : F_ref10_Choices_c10 l44 = some r := h
                    unfold F_ref10_Choices_c10 at h
                    rintro e σ ⟨rfl, rfl⟩
                    refine AK.go tab_ok hC [.n 2, .ren 84 40005, .keep [5] [40005]] rfl trivial ?_
                    exact AK.met (Exists.intro _ (And.intro rfl h))
              · refine AK.go tab_ok hC [.br false, .n 2, .adopt 5 40005 1, .sayO 40005 (.arr 1 (([] : List (List Int)).map row_LI)), .say 5 (.own 40005 ([] : List (List Int)).length), .keep [5] [40005]] rfl ⟨⟨⟨trivial, hc31⟩, rfl⟩, (congrArg (fun n => V.own 40005 n) (by simp))⟩ ?_
                exact AK.met (Exists.intro _ (And.intro rfl h))
        · rintro σ ⟨l19, rfl, h⟩
          unfold F_ref10_Choices_k2 at h
          refine AK.go tab_ok hC [.n 7, .keep [4] [40005], .ren 40005 30000, .keep [4] [30000]] rfl trivial ?_
          obtain rfl := Option.some.inj h
          refine AK.done ?_
          exact Exists.intro [_] (And.intro (And.intro rfl trivial) (gives ⟨rfl, trivial⟩))

-- 7 baldric/baldricref03.Ints
noncomputable def F_ref03_Ints_l1 (a1 : (List Int)) (b2 : (List Int)) (i6 : Int) : Option (Int ⊕ (Unit ⊕ Unit)) :=
  bif (decide (i6 < (a1.length : Int))) then
  (idx a1 i6).bind fun e9 =>
  (idx b2 i6).bind fun e10 =>
  bif (e9 != e10) then
  some (.inr (.inl ()))
  else
  some (.inl (w64 (i6 + 1)))
  else
  some (.inr (.inr ()))

noncomputable def F_ref03_Ints_c2 : Option Bool :=
  some false

noncomputable def F_ref03_Ints_c3 : Option Bool :=
  some true

noncomputable def F_ref03_Ints (a1 : (List Int)) (b2 : (List Int)) : Option Bool :=
  bif ((a1.length : Int) != (b2.length : Int)) then
  some false
  else
  (loopM (fun st => F_ref03_Ints_l1 a1 b2 st) 0).bind (Sum.elim (fun q => F_ref03_Ints_c2) (fun q => F_ref03_Ints_c3))

set_option maxRecDepth 100000 in
set_option maxHeartbeats 4000000 in
theorem F_ref03_Ints_ok (a1 : (List Int)) (b2 : (List Int)) {r : Bool} (h : F_ref03_Ints a1 b2 = some r) : ACalls Tryz.prog 7 [.sl 1 (a1.map row_I), .sl 1 (b2.map row_I)] [] (Gives (.b r) []) := by
  refine ACalls.walk 26 Tryz.func7 rfl Tryz.ntmps7 rfl fun C hC => ?_
  unfold F_ref03_Ints at h
  refine AK.go tab_ok hC [.n 9, .o (.ln a1.length), .n 1, .o (.ln b2.length), .n 3] rfl ⟨⟨trivial, mapLen⟩, mapLen⟩ ?_
  rcases bifE h with ⟨hc5, h⟩ | ⟨hc5, h⟩
  · refine AK.go tab_ok hC [.br true, .n 7, .keep [4] []] rfl ⟨trivial, hc5⟩ ?_
    obtain rfl := Option.some.inj h
    refine AK.done ?_
    exact Exists.intro [_] (And.intro (And.intro rfl trivial) (gives trivial))
  · refine AK.go tab_ok hC [.br false, .n 9, .keep [0, 1, 5] []] rfl ⟨trivial, hc5⟩ ?_
    obtain ⟨o12, hl12, h⟩ := bindE h
    refine AK.loop (body := (fun st => F_ref03_Ints_l1 a1 b2 st)) (fun st σ => σ = ⟨[(0, .sl 1 (a1.map row_I)), (1, .sl 1 (b2.map row_I)), (5, .i .i64 st)], []⟩) (Sum.elim (fun q e σ => e = .ret ∧ σ = ⟨[(4, .b false)], []⟩) (fun q e σ => e = .exit 0 ∧ σ = ⟨[], []⟩)) hl12 rfl ?_ ?_
    · rintro i6 o σ rfl h
      replace h : F_ref03_Ints_l1 a1 b2 i6 = some o := h
      unfold F_ref03_Ints_l1 at h
      refine AK.go tab_ok hC [.n 5, .o (.ln a1.length), .n 3] rfl ⟨trivial, mapLen⟩ ?_
      rcases bifE h with ⟨hc8, h⟩ | ⟨hc8, h⟩
      · obtain ⟨e9, he9, h⟩ := bindE h
        obtain ⟨e10, he10, h⟩ := bindE h
        refine AK.go tab_ok hC [.br true, .n 5, .keep [0, 1, 5] []] rfl ⟨trivial, hc8⟩ ?_
        refine AK.draw2 tab_ok hC mixed [.a .no none false, .a .no none false, .a (.row (row_I e9)) none false, .a .no none false, .a .no none false, .a .no none false, .a (.row (row_I e10)) none false, .a .no none false, .a .no none false] [] [] [0, 1, 5, 25] [] rfl rfl rfl ⟨⟨trivial, (idxM he9)⟩, (idxM he10)⟩ rfl (by kernel_rfl) rfl rfl rfl ?_
        refine AK.go tab_ok hC [.n 1] rfl trivial ?_
        rcases bifE h with ⟨hc11, h⟩ | ⟨hc11, h⟩
        · refine AK.go tab_ok hC [.br true, .n 8, .keep [4] []] rfl ⟨trivial, hc11⟩ ?_
          obtain rfl := Option.some.inj h
          exact rndR rfl (And.intro rfl rfl)
        · refine AK.go tab_ok hC [.br false, .n 8, .keep [0, 1, 5] []] rfl ⟨trivial, hc11⟩ ?_
          obtain rfl := Option.some.inj h
          exact rndN rfl rfl
      · refine AK.go tab_ok hC [.br false, .n 2, .keep [] []] rfl ⟨trivial, hc8⟩ ?_
        obtain rfl := Option.some.inj h
        exact rndX rfl (And.intro rfl rfl)
    · rcases o12 with (_ | _)
      · replace h : F_ref03_Ints_c2 = some r := h
        unfold F_ref03_Ints_c2 at h
        rintro e σ ⟨rfl, rfl⟩
        refine AK.go tab_ok hC [.n 2, .keep [4] []] rfl trivial ?_
        obtain rfl := Option.some.inj h
        refine AK.done ?_
        exact Exists.intro [_] (And.intro (And.intro rfl trivial) (gives trivial))
      · replace h : F_ref03_Ints_c3 = some r := h
        unfold F_ref03_Ints_c3 at h
        rintro e σ ⟨rfl, rfl⟩
        refine AK.go tab_ok hC [.n 8, .keep [4] []] rfl trivial ?_
        obtain rfl := Option.some.inj h
        refine AK.done ?_
        exact Exists.intro [_] (And.intro (And.intro rfl trivial) (gives trivial))

-- 3 baldric/baldriclaw10.BindChoices
noncomputable def F_law10_BindChoices_l1 (x6 : (List (List Int))) (x7 : (List (List Int))) (i9 : Int) : Option (Int ⊕ (Unit ⊕ Unit)) :=
  bif (decide (i9 < (x6.length : Int))) then
  (idx x6 i9).bind fun e12 =>
  (idx x7 i9).bind fun e13 =>
  (F_ref03_Ints e12 e13).bind fun x14 =>
  bif (!x14) then
  some (.inr (.inl ()))
  else
  some (.inl (w64 (i9 + 1)))
  else
  some (.inr (.inr ()))

noncomputable def F_law10_BindChoices_c2 : Option Bool :=
  some false

noncomputable def F_law10_BindChoices_c3 (x5 : Bool) : Option Bool :=
  some x5

noncomputable def F_law10_BindChoices (kind1 : Int) (arcs2 : Int) : Option Bool :=
  (F_law10_small).bind fun x5 =>
  (F_bind_Choices kind1 arcs2).bind fun x6 =>
  (F_ref10_Choices kind1 arcs2).bind fun x7 =>
  bif ((x6.length : Int) != (x7.length : Int)) then
  some false
  else
  (loopM (fun st => F_law10_BindChoices_l1 x6 x7 st) 0).bind (Sum.elim (fun q => F_law10_BindChoices_c2) (fun q => F_law10_BindChoices_c3 x5))

set_option maxRecDepth 100000 in
set_option maxHeartbeats 4000000 in
theorem F_law10_BindChoices_ok (kind1 : Int) (arcs2 : Int) {r : Bool} (h : F_law10_BindChoices kind1 arcs2 = some r) : ACalls Tryz.prog 3 [.i .i64 kind1, .i .i64 arcs2] [] (Gives (.b r) []) := by
  refine ACalls.walk 38 Tryz.func3 rfl Tryz.ntmps3 rfl fun C hC => ?_
  unfold F_law10_BindChoices at h
  obtain ⟨x5, hx5, h⟩ := bindE h
  obtain ⟨x6, hx6, h⟩ := bindE h
  obtain ⟨x7, hx7, h⟩ := bindE h
  refine AK.go tab_ok hC [.n 7, .o (.c false [] (.b x5)), .n 7, .o (.co false [.d, .d] 1 (x6.map row_LI) x6.length), .n 7, .o (.co false [.d, .d] 1 (x7.map row_LI) x7.length), .n 13] rfl ⟨⟨⟨trivial, (F_law10_small_ok  hx5)⟩, ⟨(F_bind_Choices_ok _ _ hx6), mapLen, .inl rfl⟩⟩, ⟨(F_ref10_Choices_ok _ _ hx7), mapLen, .inl rfl⟩⟩ ?_
  rcases bifE h with ⟨hc8, h⟩ | ⟨hc8, h⟩
  · refine AK.go tab_ok hC [.br true, .n 7, .keep [4] []] rfl ⟨trivial, hc8⟩ ?_
    obtain rfl := Option.some.inj h
    refine AK.done ?_
    exact Exists.intro [_] (And.intro (And.intro rfl trivial) (gives trivial))
  · refine AK.go tab_ok hC [.br false, .n 9, .keep [5, 6, 7, 8] [12, 15]] rfl ⟨trivial, hc8⟩ ?_
    obtain ⟨o16, hl16, h⟩ := bindE h
    refine AK.loop (body := (fun st => F_law10_BindChoices_l1 x6 x7 st)) (fun st σ => σ = ⟨[(5, .b x5), (6, .own 12 x6.length), (7, .own 15 x7.length), (8, .i .i64 st)], [(12, .arr 1 (x6.map row_LI)), (15, .arr 1 (x7.map row_LI))]⟩) (Sum.elim (fun q e σ => e = .ret ∧ σ = ⟨[(4, .b false)], []⟩) (fun q e σ => e = .exit 0 ∧ σ = ⟨[(5, .b x5)], []⟩)) hl16 rfl ?_ ?_
    · rintro i9 o σ rfl h
      replace h : F_law10_BindChoices_l1 x6 x7 i9 = some o := h
      unfold F_law10_BindChoices_l1 at h
      refine AK.go tab_ok hC [.n 9] rfl trivial ?_
      rcases bifE h with ⟨hc11, h⟩ | ⟨hc11, h⟩
      · obtain ⟨e12, he12, h⟩ := bindE h
        obtain ⟨e13, he13, h⟩ := bindE h
        obtain ⟨x14, hx14, h⟩ := bindE h
        refine AK.go tab_ok hC [.br true, .n 5, .keep [5, 6, 7, 8] [12, 15]] rfl ⟨trivial, hc11⟩ ?_
        refine AK.draw2 tab_ok hC mixed [.a .no none false, .a .no none false, .a .no none false, .a (.row (row_LI e12)) none false, .a .no none false, .a .no none false, .a .no none false, .a (.row (row_LI e13)) none false, .a (.c false [.d, .d] (.b x14)) none false, .a .no none false] [] [] [5, 6, 7, 8, 36] [12, 15] rfl rfl rfl ⟨⟨⟨⟨⟨trivial, (idxOw he12 rfl)⟩, (mapGet (idxE he12).2)⟩, (idxOw he13 rfl)⟩, (mapGet (idxE he13).2)⟩, (F_ref03_Ints_ok _ _ hx14)⟩ rfl (by kernel_rfl) rfl rfl rfl ?_
        refine AK.go tab_ok hC [.n 1] rfl trivial ?_
        rcases bifE h with ⟨hc15, h⟩ | ⟨hc15, h⟩
        · refine AK.go tab_ok hC [.br true, .n 8, .keep [4] []] rfl ⟨trivial, hc15⟩ ?_
          obtain rfl := Option.some.inj h
          exact rndR rfl (And.intro rfl rfl)
        · refine AK.go tab_ok hC [.br false, .n 8, .keep [5, 6, 7, 8] [12, 15]] rfl ⟨trivial, hc15⟩ ?_
          obtain rfl := Option.some.inj h
          exact rndN rfl rfl
      · refine AK.go tab_ok hC [.br false, .n 2, .keep [5] []] rfl ⟨trivial, hc11⟩ ?_
        obtain rfl := Option.some.inj h
        exact rndX rfl (And.intro rfl rfl)
    · rcases o16 with (_ | _)
      · replace h : F_law10_BindChoices_c2 = some r := h
        unfold F_law10_BindChoices_c2 at h
        rintro e σ ⟨rfl, rfl⟩
        refine AK.go tab_ok hC [.n 2, .keep [4] []] rfl trivial ?_
        obtain rfl := Option.some.inj h
        refine AK.done ?_
        exact Exists.intro [_] (And.intro (And.intro rfl trivial) (gives trivial))
      · replace h : F_law10_BindChoices_c3 x5 = some r := h
        unfold F_law10_BindChoices_c3 at h
        rintro e σ ⟨rfl, rfl⟩
        refine AK.go tab_ok hC [.n 9, .keep [4] []] rfl trivial ?_
        obtain rfl := Option.some.inj h
        refine AK.done ?_
        exact Exists.intro [_] (And.intro (And.intro rfl trivial) (gives trivial))


end Go.Proofs
