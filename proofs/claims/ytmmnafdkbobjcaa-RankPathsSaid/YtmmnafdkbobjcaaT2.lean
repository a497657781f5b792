/- What functions of the program do, as functions over plain data, and the walks that show it: printed by a program. -/
import Derived.Test.YtmmnafdkbobjcaaT1
set_option linter.unusedVariables false
set_option linter.unusedSimpArgs false
set_option linter.unusedSectionVars false
set_option linter.deprecated false
noncomputable section
namespace Go.Proofs
open Go Go.RowKit Go.Vm
-- 18 baldric/baldricref16.Longest
def F_ref16_Longest_l1 (x5 : (List Int)) (most6 : Int) (i7 : Int) : Option ((Int × Int) ⊕ Int) :=
  bif (decide (i7 < (x5.length : Int))) then
  (idx x5 i7).bind fun e12 =>
  some (.inl ((max2 most6 e12), (w64 (i7 + 1))))
  else
  some (.inr most6)

def F_ref16_Longest_c2 (most10 : Int) : Option Int :=
  some most10

def F_ref16_Longest (n1 : TNet) (s2 : TSpace) : Option Int :=
  (F_ref16_Goals n1 s2).bind fun x4 =>
  (F_ref16_Far s2 x4).bind fun x5 =>
  (loopM (fun st => F_ref16_Longest_l1 x5 st.1 st.2) ((-1), 0)).bind (fun q => F_ref16_Longest_c2 q)

set_option maxRecDepth 100000 in
set_option maxHeartbeats 4000000 in
theorem F_ref16_Longest_ok (n1 : TNet) (s2 : TSpace) {r : Int} (h : F_ref16_Longest n1 s2 = some r) : ACalls Try.prog 18 [.agg (row_TNet n1), .agg (row_TSpace s2)] [] (Gives (.i .i64 r) []) := by
  refine ACalls.walk 26 Try.func18 rfl Try.ntmps18 rfl fun C hC => ?_
  unfold F_ref16_Longest at h
  obtain ⟨x4, hx4, h⟩ := bindE h
  obtain ⟨x5, hx5, h⟩ := bindE h
  refine AK.go tab_ok hC [.n 8, .keep [2, 3] [2, 3]] rfl trivial ?_
  refine AK.draw2 tab_ok hC mixed [.a .no (some ([], .agg (row_TSpace s2))) false, .a .no (some ([], .agg (row_TNet n1))) false, .a .no (some ([], .agg (row_TSpace s2))) false, .a (.cd false [.d, .d] 1 (x4.map row_I) x4.length) none false, .a (.co false [.d, .d] 1 (x5.map row_I) x5.length) none false, .a .no none false] [] [] [5] [12] rfl rfl rfl ⟨⟨⟨⟨⟨trivial, rfl⟩, rfl⟩, rfl⟩, ⟨(F_ref16_Goals_ok _ _ hx4), mapLen⟩⟩, ⟨(F_ref16_Far_ok _ _ hx5), mapLen, .inl rfl⟩⟩ rfl (by kernel_rfl) rfl rfl rfl ?_
  refine AK.go tab_ok hC [.n 13, .keep [5, 6, 7] [12]] rfl trivial ?_
  obtain ⟨most10, hl13, h⟩ := bindE h
  refine AK.loop (body := (fun st => F_ref16_Longest_l1 x5 st.1 st.2)) (fun st σ => σ = ⟨[(5, .own 12 x5.length), (6, .i .i64 st.1), (7, .i .i64 st.2)], [(12, .arr 1 (x5.map row_I))]⟩) (fun q e σ => e = .exit 0 ∧ σ = ⟨[(6, .i .i64 q)], []⟩) hl13 rfl ?_ ?_
  · rintro ⟨most6, i7⟩ o σ rfl h
    replace h : F_ref16_Longest_l1 x5 most6 i7 = some o := h
    unfold F_ref16_Longest_l1 at h
    refine AK.go tab_ok hC [.n 9] rfl trivial ?_
    rcases bifE h with ⟨hc11, h⟩ | ⟨hc11, h⟩
    · obtain ⟨e12, he12, h⟩ := bindE h
      refine AK.go tab_ok hC [.br true, .n 9, .o (.row (row_I e12)), .n 10, .keep [5, 6, 7] [12]] rfl ⟨⟨⟨trivial, hc11⟩, (idxOw he12 rfl)⟩, (mapGet (idxE he12).2)⟩ ?_
      obtain rfl := Option.some.inj h
      exact rndN rfl rfl
    · refine AK.go tab_ok hC [.br false, .n 2, .keep [6] []] rfl ⟨trivial, hc11⟩ ?_
      obtain rfl := Option.some.inj h
      exact rndX rfl (And.intro rfl rfl)
  · replace h : F_ref16_Longest_c2 most10 = some r := h
    unfold F_ref16_Longest_c2 at h
    rintro e σ ⟨rfl, rfl⟩
    refine AK.go tab_ok hC [.n 9, .keep [4] []] rfl trivial ?_
    obtain rfl := Option.some.inj h
    refine AK.done ?_
    exact Exists.intro [_] (And.intro (And.intro rfl trivial) (gives trivial))

-- 20 baldric/baldricref16.Step
def F_ref16_Step_g1 (k3 : Int) (x7 : (List Int)) : Option Bool :=
  bif (decide (k3 < 0)) then
  some true
  else
  bif (decide ((x7.length : Int) ≤ k3)) then
  some true
  else
  (idx x7 k3).bind fun e12 =>
  some (decide (e12 ≤ 0))

def F_ref16_Step_g2 (x19 : Bool) (e18 : TEdge) (k3 : Int) (x7 : (List Int)) : Option Bool :=
  bif x19 then
  bif (e18.From == k3) then
  (idx x7 e18.To).bind fun e24 =>
  (idx x7 k3).bind fun e25 =>
  some (e24 == (w64 (e25 - 1)))
  else
  some false
  else
  some false

def F_ref16_Step_k3 (i14 : Int) (x20 : Bool) : Option (Int ⊕ (Int ⊕ Unit)) :=
  bif x20 then
  some (.inr (.inl i14))
  else
  some (.inl (w64 (i14 + 1)))

def F_ref16_Step_l4 (s2 : TSpace) (k3 : Int) (x7 : (List Int)) (i14 : Int) : Option (Int ⊕ (Int ⊕ Unit)) :=
  bif (decide (i14 < (s2.Edges.length : Int))) then
  (idx s2.Edges i14).bind fun e18 =>
  (F_ref16_there s2 e18).bind fun x19 =>
  (F_ref16_Step_g2 x19 e18 k3 x7).bind (fun x20 => F_ref16_Step_k3 i14 x20)
  else
  some (.inr (.inr ()))

def F_ref16_Step_c5 (x16 : Int) : Option Int :=
  some x16

def F_ref16_Step_c6 : Option Int :=
  some (-1)

def F_ref16_Step_k7 (s2 : TSpace) (k3 : Int) (x7 : (List Int)) (x8 : Bool) : Option Int :=
  bif x8 then
  some (-1)
  else
  (loopM (fun st => F_ref16_Step_l4 s2 k3 x7 st) 0).bind (Sum.elim (fun q => F_ref16_Step_c5 q) (fun q => F_ref16_Step_c6))

def F_ref16_Step (n1 : TNet) (s2 : TSpace) (k3 : Int) : Option Int :=
  (F_ref16_Goals n1 s2).bind fun x6 =>
  (F_ref16_Far s2 x6).bind fun x7 =>
  (F_ref16_Step_g1 k3 x7).bind (fun x8 => F_ref16_Step_k7 s2 k3 x7 x8)

set_option maxRecDepth 100000 in
set_option maxHeartbeats 4000000 in
theorem F_ref16_Step_ok (n1 : TNet) (s2 : TSpace) (k3 : Int) {r : Int} (h : F_ref16_Step n1 s2 k3 = some r) : ACalls Try.prog 20 [.agg (row_TNet n1), .agg (row_TSpace s2), .i .i64 k3] [] (Gives (.i .i64 r) []) := by
  refine ACalls.walk 67 Try.func20 rfl Try.ntmps20 rfl fun C hC => ?_
  unfold F_ref16_Step at h
  obtain ⟨x6, hx6, h⟩ := bindE h
  obtain ⟨x7, hx7, h⟩ := bindE h
  refine AK.go tab_ok hC [.n 8, .keep [2, 3, 4] [3, 4]] rfl trivial ?_
  refine AK.draw2 tab_ok hC mixed [.a .no (some ([], .agg (row_TSpace s2))) false, .a .no (some ([], .agg (row_TNet n1))) false, .a .no (some ([], .agg (row_TSpace s2))) false, .a (.cd false [.d, .d] 1 (x6.map row_I) x6.length) none false, .a (.co false [.d, .d] 1 (x7.map row_I) x7.length) none false, .a .no none false] [] [] [2, 4, 7] [4, 15] rfl rfl rfl ⟨⟨⟨⟨⟨trivial, rfl⟩, rfl⟩, rfl⟩, ⟨(F_ref16_Goals_ok _ _ hx6), mapLen⟩⟩, ⟨(F_ref16_Far_ok _ _ hx7), mapLen, .inl rfl⟩⟩ rfl (by kernel_rfl) rfl rfl rfl ?_
  refine AK.go tab_ok hC [.n 3] rfl trivial ?_
  obtain ⟨x8, hv9, h⟩ := bindE h
  replace h : F_ref16_Step_k7 s2 k3 x7 x8 = some r := h
  refine AK.meetX (fun σ => σ = ⟨[(2, .i .i64 k3), (4, .loc 4 0 0), (7, .own 15 x7.length), (30, .b x8)], [(4, .var (row_TSpace s2)), (15, .arr 1 (x7.map row_I))]⟩) ?_ ?_
  · replace h := hv9
    unfold F_ref16_Step_g1 at h
    refine AK.go tab_ok hC [.n 4] rfl trivial ?_
    rcases bifE h with ⟨hc10, h⟩ | ⟨hc10, h⟩
    · refine AK.go tab_ok hC [.say 18 (.b true), .n 13, .keep [2, 4, 7, 30] [4, 15]] rfl ⟨trivial, (congrArg V.b hc10)⟩ ?_
      obtain rfl := Option.some.inj h
      exact AK.met rfl
    · refine AK.go tab_ok hC [.say 18 (.b false), .n 6] rfl ⟨trivial, (congrArg V.b hc10)⟩ ?_
      rcases bifE h with ⟨hc11, h⟩ | ⟨hc11, h⟩
      · refine AK.go tab_ok hC [.say 24 (.b true), .n 7, .keep [2, 4, 7, 30] [4, 15]] rfl ⟨trivial, (congrArg V.b hc11)⟩ ?_
        obtain rfl := Option.some.inj h
        exact AK.met rfl
      · obtain ⟨e12, he12, h⟩ := bindE h
        refine AK.go tab_ok hC [.say 24 (.b false), .n 3, .o (.row (row_I e12)), .n 3, .keep [2, 4, 7, 30] [4, 15]] rfl ⟨⟨⟨trivial, (congrArg V.b hc11)⟩, (idxOw he12 rfl)⟩, (mapGet (idxE he12).2)⟩ ?_
        obtain rfl := Option.some.inj h
        exact AK.met rfl
  · rintro σ rfl
    replace h : F_ref16_Step_k7 s2 k3 x7 x8 = some r := h
    unfold F_ref16_Step_k7 at h
    refine AK.go tab_ok hC [.n 1] rfl trivial ?_
    rcases bifE h with ⟨hc13, h⟩ | ⟨hc13, h⟩
    · refine AK.go tab_ok hC [.br true, .n 7, .keep [6] []] rfl ⟨trivial, hc13⟩ ?_
      obtain rfl := Option.some.inj h
      refine AK.done ?_
      exact Exists.intro [_] (And.intro (And.intro rfl trivial) (gives trivial))
    · refine AK.go tab_ok hC [.br false, .n 9, .keep [2, 4, 7, 8] [4, 15]] rfl ⟨trivial, hc13⟩ ?_
      obtain ⟨o27, hl27, h⟩ := bindE h
      refine AK.loop (body := (fun st => F_ref16_Step_l4 s2 k3 x7 st)) (fun st σ => σ = ⟨[(2, .i .i64 k3), (4, .loc 4 0 0), (7, .own 15 x7.length), (8, .i .i64 st)], [(4, .var (row_TSpace s2)), (15, .arr 1 (x7.map row_I))]⟩) (Sum.elim (fun q e σ => e = .ret ∧ σ = ⟨[(6, .i .i64 q)], []⟩) (fun q e σ => e = .exit 0 ∧ σ = ⟨[], []⟩)) hl27 rfl ?_ ?_
      · rintro i14 o σ rfl h
        replace h : F_ref16_Step_l4 s2 k3 x7 i14 = some o := h
        unfold F_ref16_Step_l4 at h
        refine AK.go tab_ok hC [.n 6, .o (.ln s2.Edges.length), .n 3] rfl ⟨trivial, mapLen⟩ ?_
        rcases bifE h with ⟨hc17, h⟩ | ⟨hc17, h⟩
        · obtain ⟨e18, he18, h⟩ := bindE h
          obtain ⟨x19, hx19, h⟩ := bindE h
          refine AK.go tab_ok hC [.br true, .n 9, .o (.row (row_TEdge e18)), .v .no [] (.agg (row_TEdge e18)), .n 2, .sayO 9 (.var (row_TEdge e18)), .n 4, .v .no [] (.agg (row_TSpace s2)), .v .no [] (.agg (row_TEdge e18)), .o (.c false [.d, .d] (.b x19)), .n 4] rfl ⟨⟨⟨⟨⟨⟨⟨trivial, hc17⟩, (idxM he18)⟩, rfl⟩, rfl⟩, rfl⟩, rfl⟩, (F_ref16_there_ok _ _ hx19)⟩ ?_
          obtain ⟨x20, hv21, h⟩ := bindE h
          replace h : F_ref16_Step_k3 i14 x20 = some o := h
          refine AK.meetX (fun σ => σ = ⟨[(2, .i .i64 k3), (4, .loc 4 0 0), (7, .own 15 x7.length), (8, .i .i64 i14), (65, .b x20)], [(4, .var (row_TSpace s2)), (15, .arr 1 (x7.map row_I))]⟩) ?_ ?_
          · replace h := hv21
            unfold F_ref16_Step_g2 at h
            refine AK.go tab_ok hC [.keep [2, 4, 7, 8, 9, 10] [4, 9, 15]] rfl trivial ?_
            rcases bifE h with ⟨hc22, h⟩ | ⟨hc22, h⟩
            · rcases bifE h with ⟨hc23, h⟩ | ⟨hc23, h⟩
              · obtain ⟨e24, he24, h⟩ := bindE h
                obtain ⟨e25, he25, h⟩ := bindE h
                refine AK.draw2 tab_ok hC mixed [.a .no none false, .a .no (some ([], .b true)) false, .a .no none false, .a .no none false, .a .no none false, .a .no none false, .a .no none false, .a .no (some ([], .b true)) false, .a .no none false, .a .no none false, .a .no none false, .a .no none false, .a (.row (row_I e24)) none false, .a .no none false, .a .no none false, .a .no none false, .a (.row (row_I e25)) none false, .a .no none false, .a .no none false, .a .no none false] [] [] [2, 4, 7, 8, 65] [4, 15] rfl rfl rfl ⟨⟨⟨⟨⟨⟨trivial, (congrArg V.b hc22)⟩, (congrArg V.b hc23)⟩, (idxOw he24 rfl)⟩, (mapGet (idxE he24).2)⟩, (idxOw he25 rfl)⟩, (mapGet (idxE he25).2)⟩ rfl (by kernel_rfl) rfl rfl rfl ?_
                refine AK.go tab_ok hC [.keep [2, 4, 7, 8, 65] [4, 15]] rfl trivial ?_
                obtain rfl := Option.some.inj h
                exact AK.met rfl
              · refine AK.draw2 tab_ok hC mixed [.a .no none false, .a .no (some ([], .b true)) false, .a .no none false, .a .no none false, .a .no none false, .a .no none false, .a .no none false, .a .no (some ([], .b false)) false, .a .no none false, .a .no none false, .a .no none false, .a .no none false, .a .no none false, .a .no none false, .a .no none false, .a .no none false, .a .no none false, .a .no none false, .a .no none false, .a .no none false] [] [] [2, 4, 7, 8, 65] [4, 15] rfl rfl rfl ⟨⟨trivial, (congrArg V.b hc22)⟩, (congrArg V.b hc23)⟩ rfl (by kernel_rfl) rfl rfl rfl ?_
                refine AK.go tab_ok hC [.keep [2, 4, 7, 8, 65] [4, 15]] rfl trivial ?_
                obtain rfl := Option.some.inj h
                exact AK.met rfl
            · refine AK.draw2 tab_ok hC mixed [.a .no none false, .a .no (some ([], .b false)) false, .a .no none false, .a .no none false, .a .no none false, .a .no none false, .a .no none false, .a .no none false, .a .no none false, .a .no none false, .a .no none false, .a .no none false, .a .no none false, .a .no none false, .a .no none false, .a .no none false, .a .no none false, .a .no none false, .a .no none false, .a .no none false] [] [] [2, 4, 7, 8, 65] [4, 15] rfl rfl rfl ⟨trivial, (congrArg V.b hc22)⟩ rfl (by kernel_rfl) rfl rfl rfl ?_
              refine AK.go tab_ok hC [.keep [2, 4, 7, 8, 65] [4, 15]] rfl trivial ?_
              obtain rfl := Option.some.inj h
              exact AK.met rfl
          · rintro σ rfl
            replace h : F_ref16_Step_k3 i14 x20 = some o := h
            unfold F_ref16_Step_k3 at h
            refine AK.go tab_ok hC [.n 1] rfl trivial ?_
            rcases bifE h with ⟨hc26, h⟩ | ⟨hc26, h⟩
            · refine AK.go tab_ok hC [.br true, .n 9, .keep [6] []] rfl ⟨trivial, hc26⟩ ?_
              obtain rfl := Option.some.inj h
              exact rndR rfl (And.intro rfl rfl)
            · refine AK.go tab_ok hC [.br false, .n 8, .keep [2, 4, 7, 8] [4, 15]] rfl ⟨trivial, hc26⟩ ?_
              obtain rfl := Option.some.inj h
              exact rndN rfl rfl
        · refine AK.go tab_ok hC [.br false, .n 2, .keep [] []] rfl ⟨trivial, hc17⟩ ?_
          obtain rfl := Option.some.inj h
          exact rndX rfl (And.intro rfl rfl)
      · rcases o27 with (x16 | _)
        · replace h : F_ref16_Step_c5 x16 = some r := h
          unfold F_ref16_Step_c5 at h
          rintro e σ ⟨rfl, rfl⟩
          refine AK.go tab_ok hC [.n 2, .keep [6] []] rfl trivial ?_
          obtain rfl := Option.some.inj h
          refine AK.done ?_
          exact Exists.intro [_] (And.intro (And.intro rfl trivial) (gives trivial))
        · replace h : F_ref16_Step_c6 = some r := h
          unfold F_ref16_Step_c6 at h
          rintro e σ ⟨rfl, rfl⟩
          refine AK.go tab_ok hC [.n 8, .keep [6] []] rfl trivial ?_
          obtain rfl := Option.some.inj h
          refine AK.done ?_
          exact Exists.intro [_] (And.intro (And.intro rfl trivial) (gives trivial))

-- 22 baldric/baldricref16.Way
def F_ref16_Way_l1 (s2 : TSpace) (n1 : TNet) (k8 : Int) (i9 : Int) (l10 : (List Int)) : Option ((Int × Int × (List Int)) ⊕ ((List Int) ⊕ (List Int))) :=
  bif (decide (i9 < (s2.States.length : Int))) then
  (F_ref16_Step n1 s2 k8).bind fun x17 =>
  bif (decide (x17 < 0)) then
  some (.inr (.inl l10))
  else
  (chk (decide (l10.length + ([x17] : List Int).length ≤ 4294967296))).bind fun _ =>
  (idx s2.Edges x17).bind fun e20 =>
  some (.inl (e20.To, (w64 (i9 + 1)), (l10 ++ ([x17] : List Int))))
  else
  some (.inr (.inr l10))

def F_ref16_Way_c2 (l14 : (List Int)) : Option (List Int) :=
  some l14

def F_ref16_Way_c3 (l15 : (List Int)) : Option (List Int) :=
  some l15

def F_ref16_Way (n1 : TNet) (s2 : TSpace) (k3 : Int) : Option (List Int) :=
  (loopM (fun st => F_ref16_Way_l1 s2 n1 st.1 st.2.1 st.2.2) (k3, 0, ([] : List Int))).bind (Sum.elim (fun q => F_ref16_Way_c2 q) (fun q => F_ref16_Way_c3 q))

set_option maxRecDepth 100000 in
set_option maxHeartbeats 4000000 in
theorem F_ref16_Way_ok (n1 : TNet) (s2 : TSpace) (k3 : Int) {r : (List Int)} (h : F_ref16_Way n1 s2 k3 = some r) : ACalls Try.prog 22 [.agg (row_TNet n1), .agg (row_TSpace s2), .i .i64 k3] [] (Gives (.own 30000 r.length) [(30000, .arr 1 (r.map row_I))]) := by
  refine ACalls.walk 35 Try.func22 rfl Try.ntmps22 rfl fun C hC => ?_
  unfold F_ref16_Way at h
  refine AK.go tab_ok hC [.n 19, .adopt 7 24 1, .sayO 24 (.arr 1 (([] : List Int).map row_I)), .say 7 (.own 24 ([] : List Int).length), .keep [2, 3, 4, 7, 8] [3, 4, 24]] rfl ⟨⟨trivial, rfl⟩, (congrArg (fun n => V.own 24 n) (by simp))⟩ ?_
  obtain ⟨o21, hl21, h⟩ := bindE h
  refine AK.loop (body := (fun st => F_ref16_Way_l1 s2 n1 st.1 st.2.1 st.2.2)) (fun st σ => σ = ⟨[(2, .i .i64 st.1), (3, .loc 3 0 0), (4, .loc 4 0 0), (7, .own 24 st.2.2.length), (8, .i .i64 st.2.1)], [(3, .var (row_TNet n1)), (4, .var (row_TSpace s2)), (24, .arr 1 (st.2.2.map row_I))]⟩) (Sum.elim (fun q e σ => e = .ret ∧ σ = ⟨[(6, .own 24 q.length)], [(24, .arr 1 (q.map row_I))]⟩) (fun q e σ => e = .exit 0 ∧ σ = ⟨[(7, .own 24 q.length)], [(24, .arr 1 (q.map row_I))]⟩)) hl21 rfl ?_ ?_
  · rintro ⟨k8, i9, l10⟩ o σ rfl h
    replace h : F_ref16_Way_l1 s2 n1 k8 i9 l10 = some o := h
    unfold F_ref16_Way_l1 at h
    refine AK.go tab_ok hC [.n 6, .o (.ln s2.States.length), .n 3] rfl ⟨trivial, mapLen⟩ ?_
    rcases bifE h with ⟨hc16, h⟩ | ⟨hc16, h⟩
    · obtain ⟨x17, hx17, h⟩ := bindE h
      refine AK.go tab_ok hC [.br true, .n 6, .v .no [] (.agg (row_TNet n1)), .v .no [] (.agg (row_TSpace s2)), .n 1, .o (.c false [.d, .d, .d] (.i .i64 x17)), .n 10] rfl ⟨⟨⟨⟨trivial, hc16⟩, rfl⟩, rfl⟩, (F_ref16_Step_ok _ _ _ hx17)⟩ ?_
      rcases bifE h with ⟨hc18, h⟩ | ⟨hc18, h⟩
      · refine AK.go tab_ok hC [.br true, .n 10, .keep [6] [24]] rfl ⟨trivial, hc18⟩ ?_
        obtain rfl := Option.some.inj h
        exact rndR rfl (And.intro rfl rfl)
      · obtain ⟨_, hk19, h⟩ := bindE h
        replace hk19 := chkE hk19
        obtain ⟨e20, he20, h⟩ := bindE h
        refine AK.go tab_ok hC [.br false, .n 6, .v (.bd []) [] (.sl 1 (([x17] : List Int).map row_I)), .app ((l10 ++ ([x17] : List Int)).map row_I) (l10 ++ ([x17] : List Int)).length, .n 7, .o (.row (row_TEdge e20)), .n 11, .keep [2, 3, 4, 7, 8] [3, 4, 24]] rfl ⟨⟨⟨⟨trivial, hc18⟩, rfl⟩, ⟨mapLen, appLim hk19 mapLen, mapApps, appLn mapLen⟩⟩, (idxM he20)⟩ ?_
        obtain rfl := Option.some.inj h
        exact rndN rfl rfl
    · refine AK.go tab_ok hC [.br false, .n 2, .keep [7] [24]] rfl ⟨trivial, hc16⟩ ?_
      obtain rfl := Option.some.inj h
      exact rndX rfl (And.intro rfl rfl)
  · rcases o21 with (l14 | l15)
    · replace h : F_ref16_Way_c2 l14 = some r := h
      unfold F_ref16_Way_c2 at h
      rintro e σ ⟨rfl, rfl⟩
      refine AK.go tab_ok hC [.n 2, .keep [6] [24], .ren 24 30000, .keep [6] [30000]] rfl trivial ?_
      obtain rfl := Option.some.inj h
      refine AK.done ?_
      exact Exists.intro [_] (And.intro (And.intro rfl trivial) (gives ⟨rfl, trivial⟩))
    · replace h : F_ref16_Way_c3 l15 = some r := h
      unfold F_ref16_Way_c3 at h
      rintro e σ ⟨rfl, rfl⟩
      refine AK.go tab_ok hC [.n 9, .keep [6] [24], .ren 24 30000, .keep [6] [30000]] rfl trivial ?_
      obtain rfl := Option.some.inj h
      refine AK.done ?_
      exact Exists.intro [_] (And.intro (And.intro rfl trivial) (gives ⟨rfl, trivial⟩))

-- 3 baldric/baldriclaw16.RankTells
def F_law16_RankTells_g1 (x7 : Bool) (n1 : TNet) (s2 : TSpace) (goals3 : (List Int)) (k4 : Int) : Option Bool :=
  bif x7 then
  (F_rank_Goals n1 s2).bind fun x16 =>
  (F_ref16_Goals n1 s2).bind fun x17 =>
  (F_ref03_Ints x16 x17).bind fun x18 =>
  bif x18 then
  (F_rank_Far s2 (([] : List Int) ++ goals3)).bind fun x20 =>
  (F_ref16_Far s2 goals3).bind fun x21 =>
  (F_ref03_Ints x20 x21).bind fun x22 =>
  bif x22 then
  (F_rank_Lost n1 s2).bind fun x24 =>
  (F_ref16_Lost n1 s2).bind fun x25 =>
  (F_ref03_Ints x24 x25).bind fun x26 =>
  bif x26 then
  (F_rank_Longest n1 s2).bind fun x28 =>
  (F_ref16_Longest n1 s2).bind fun x29 =>
  bif (x28 == x29) then
  (F_rank_Step n1 s2 k4).bind fun x31 =>
  (F_ref16_Step n1 s2 k4).bind fun x32 =>
  bif (x31 == x32) then
  (F_rank_Way n1 s2 k4).bind fun x34 =>
  (F_ref16_Way n1 s2 k4).bind fun x35 =>
  (F_ref03_Ints x34 x35).bind fun x36 =>
  bif x36 then
  (F_ref03_Ints (([] : List Int) ++ goals3) goals3).bind fun x38 =>
  some x38
  else
  some false
  else
  some false
  else
  some false
  else
  some false
  else
  some false
  else
  some false
  else
  some false

def F_law16_RankTells_k2 (x13 : Bool) : Option Bool :=
  some x13

def F_law16_RankTells (n1 : TNet) (s2 : TSpace) (goals3 : (List Int)) (k4 : Int) : Option Bool :=
  (F_law16_small).bind fun x7 =>
  (F_law16_Few s2).bind fun x8 =>
  bif ((!x8) || (decide (50 < (goals3.length : Int)))) then
  some x7
  else
  (chk (decide (([] : List Int).length + goals3.length ≤ 4294967296))).bind fun _ =>
  (F_law16_RankTells_g1 x7 n1 s2 goals3 k4).bind (fun x13 => F_law16_RankTells_k2 x13)

set_option maxRecDepth 100000 in
set_option maxHeartbeats 4000000 in
theorem F_law16_RankTells_ok (n1 : TNet) (s2 : TSpace) (goals3 : (List Int)) (k4 : Int) {r : Bool} (h : F_law16_RankTells n1 s2 goals3 k4 = some r) : ACalls Try.prog 3 [.agg (row_TNet n1), .agg (row_TSpace s2), .sl 1 (goals3.map row_I), .i .i64 k4] [] (Gives (.b r) []) := by
  refine ACalls.walk 90 Try.func3 rfl Try.ntmps3 rfl fun C hC => ?_
  unfold F_law16_RankTells at h
  obtain ⟨x7, hx7, h⟩ := bindE h
  obtain ⟨x8, hx8, h⟩ := bindE h
  refine AK.go tab_ok hC [.n 9, .o (.c false [] (.b x7)), .n 5, .v .no [] (.agg (row_TSpace s2)), .o (.c false [.d] (.b x8)), .n 5] rfl ⟨⟨⟨trivial, (F_law16_small_ok  hx7)⟩, rfl⟩, (F_law16_Few_ok _ hx8)⟩ ?_
  refine AK.meetX (fun σ => σ = ⟨[(2, .sl 1 (goals3.map row_I)), (3, .i .i64 k4), (4, .loc 4 0 0), (5, .loc 5 0 0), (9, .b x7), (21, .b ((!x8) || (decide (50 < (goals3.length : Int)))))], [(4, .var (row_TNet n1)), (5, .var (row_TSpace s2))]⟩) ?_ ?_
  · refine AK.go tab_ok hC [.n 4] rfl trivial ?_
    rcases boolOr (!x8) with hc10 | hc10
    · refine AK.go tab_ok hC [.say 17 (.b true), .n 5, .say 21 (.b ((!x8) || (decide (50 < (goals3.length : Int))))), .keep [2, 3, 4, 5, 9, 21] [4, 5]] rfl ⟨⟨trivial, (congrArg V.b hc10)⟩, (congrArg V.b (orT hc10 rfl))⟩ ?_
      exact AK.met rfl
    · refine AK.go tab_ok hC [.say 17 (.b false), .n 1, .o (.ln goals3.length), .n 3, .say 21 (.b ((!x8) || (decide (50 < (goals3.length : Int))))), .keep [2, 3, 4, 5, 9, 21] [4, 5]] rfl ⟨⟨⟨trivial, (congrArg V.b hc10)⟩, mapLen⟩, (congrArg V.b (orF hc10 rfl))⟩ ?_
      exact AK.met rfl
  · rintro σ rfl
    refine AK.go tab_ok hC [.n 1] rfl trivial ?_
    rcases bifE h with ⟨hc11, h⟩ | ⟨hc11, h⟩
    · refine AK.go tab_ok hC [.br true, .n 8, .keep [8] []] rfl ⟨trivial, hc11⟩ ?_
      obtain rfl := Option.some.inj h
      refine AK.done ?_
      exact Exists.intro [_] (And.intro (And.intro rfl trivial) (gives trivial))
    · obtain ⟨_, hk12, h⟩ := bindE h
      replace hk12 := chkE hk12
      refine AK.go tab_ok hC [.br false, .n 5, .sayO 23 (.arr 1 (([] : List Int).map row_I)), .say 23 (.own 23 ([] : List Int).length), .n 1, .app ((([] : List Int) ++ goals3).map row_I) (([] : List Int) ++ goals3).length, .n 4, .frz 23 ((([] : List Int) ++ goals3).map row_I) [11, 25] []] rfl ⟨⟨⟨⟨⟨trivial, hc11⟩, rfl⟩, rfl⟩, ⟨mapLen, appLim hk12 mapLen, mapApps, appLn mapLen⟩⟩, ⟨⟨trivial, (frzL mapLen)⟩, (frzL mapLen)⟩⟩ ?_
      obtain ⟨x13, hv14, h⟩ := bindE h
      replace h : F_law16_RankTells_k2 x13 = some r := h
      refine AK.meetX (fun σ => σ = ⟨[(8, .b x13)], []⟩) ?_ ?_
      · replace h := hv14
        unfold F_law16_RankTells_g1 at h
        refine AK.go tab_ok hC [.keep [2, 3, 4, 5, 9, 11] [4, 5]] rfl trivial ?_
        rcases bifE h with ⟨hc15, h⟩ | ⟨hc15, h⟩
        · obtain ⟨x16, hx16, h⟩ := bindE h
          obtain ⟨x17, hx17, h⟩ := bindE h
          obtain ⟨x18, hx18, h⟩ := bindE h
          rcases bifE h with ⟨hc19, h⟩ | ⟨hc19, h⟩
          · obtain ⟨x20, hx20, h⟩ := bindE h
            obtain ⟨x21, hx21, h⟩ := bindE h
            obtain ⟨x22, hx22, h⟩ := bindE h
            rcases bifE h with ⟨hc23, h⟩ | ⟨hc23, h⟩
            · obtain ⟨x24, hx24, h⟩ := bindE h
              obtain ⟨x25, hx25, h⟩ := bindE h
              obtain ⟨x26, hx26, h⟩ := bindE h
              rcases bifE h with ⟨hc27, h⟩ | ⟨hc27, h⟩
              · obtain ⟨x28, hx28, h⟩ := bindE h
                obtain ⟨x29, hx29, h⟩ := bindE h
                rcases bifE h with ⟨hc30, h⟩ | ⟨hc30, h⟩
                · obtain ⟨x31, hx31, h⟩ := bindE h
                  obtain ⟨x32, hx32, h⟩ := bindE h
                  rcases bifE h with ⟨hc33, h⟩ | ⟨hc33, h⟩
                  · obtain ⟨x34, hx34, h⟩ := bindE h
                    obtain ⟨x35, hx35, h⟩ := bindE h
                    obtain ⟨x36, hx36, h⟩ := bindE h
                    rcases bifE h with ⟨hc37, h⟩ | ⟨hc37, h⟩
                    · obtain ⟨x38, hx38, h⟩ := bindE h
                      refine AK.draw2 tab_ok hC mixed [.a .no none false, .a .no (some ([], .b true)) false, .a .no (some ([], .agg (row_TNet n1))) false, .a .no (some ([], .agg (row_TSpace s2))) false, .a (.cd false [.d, .d] 1 (x16.map row_I) x16.length) none false, .a .no (some ([], .agg (row_TNet n1))) false, .a .no (some ([], .agg (row_TSpace s2))) false, .a (.cd false [.d, .d] 1 (x17.map row_I) x17.length) none false, .a (.c false [.d, .d] (.b x18)) none false, .a .no none false, .a .no (some ([], .b true)) false, .a .no (some ([], .agg (row_TSpace s2))) false, .a .no none false, .a (.cd false [.d, .d] 1 (x20.map row_I) x20.length) none false, .a .no (some ([], .agg (row_TSpace s2))) false, .a .no none false, .a (.cd false [.d, .d] 1 (x21.map row_I) x21.length) none false, .a (.c false [.d, .d] (.b x22)) none false, .a .no none false, .a .no (some ([], .b true)) false, .a .no (some ([], .agg (row_TNet n1))) false, .a .no (some ([], .agg (row_TSpace s2))) false, .a (.cd false [.d, .d] 1 (x24.map row_I) x24.length) none false, .a .no (some ([], .agg (row_TNet n1))) false, .a .no (some ([], .agg (row_TSpace s2))) false, .a (.cd false [.d, .d] 1 (x25.map row_I) x25.length) none false, .a (.c false [.d, .d] (.b x26)) none false, .a .no none false, .a .no (some ([], .b true)) false, .a .no (some ([], .agg (row_TNet n1))) false, .a .no (some ([], .agg (row_TSpace s2))) false, .a (.c false [.d, .d] (.i .i64 x28)) none false, .a .no (some ([], .agg (row_TNet n1))) false, .a .no (some ([], .agg (row_TSpace s2))) false, .a (.c false [.d, .d] (.i .i64 x29)) none false, .a .no none false, .a .no none false, .a .no (some ([], .b true)) false, .a .no (some ([], .agg (row_TNet n1))) false, .a .no (some ([], .agg (row_TSpace s2))) false, .a .no none false, .a (.c false [.d, .d, .d] (.i .i64 x31)) none false, .a .no (some ([], .agg (row_TNet n1))) false, .a .no (some ([], .agg (row_TSpace s2))) false, .a .no none false, .a (.c false [.d, .d, .d] (.i .i64 x32)) none false, .a .no none false, .a .no none false, .a .no (some ([], .b true)) false, .a .no (some ([], .agg (row_TNet n1))) false, .a .no (some ([], .agg (row_TSpace s2))) false, .a .no none false, .a (.cd false [.d, .d, .d] 1 (x34.map row_I) x34.length) none false, .a .no (some ([], .agg (row_TNet n1))) false, .a .no (some ([], .agg (row_TSpace s2))) false, .a .no none false, .a (.cd false [.d, .d, .d] 1 (x35.map row_I) x35.length) none false, .a (.c false [.d, .d] (.b x36)) none false, .a .no none false, .a .no (some ([], .b true)) false, .a .no none false, .a .no none false, .a (.c false [.d, .d] (.b x38)) none false, .a .no none false, .a .no none false] [] [] [8] [] rfl rfl rfl ⟨⟨⟨⟨⟨⟨⟨⟨⟨⟨⟨⟨⟨⟨⟨⟨⟨⟨⟨⟨⟨⟨⟨⟨⟨⟨⟨⟨⟨⟨⟨⟨⟨⟨⟨⟨⟨⟨⟨⟨⟨⟨⟨⟨⟨⟨trivial, (congrArg V.b hc15)⟩, rfl⟩, rfl⟩, ⟨(F_rank_Goals_ok _ _ hx16), mapLen⟩⟩, rfl⟩, rfl⟩, ⟨(F_ref16_Goals_ok _ _ hx17), mapLen⟩⟩, (F_ref03_Ints_ok _ _ hx18)⟩, (congrArg V.b hc19)⟩, rfl⟩, ⟨(F_rank_Far_ok _ _ hx20), mapLen⟩⟩, rfl⟩, ⟨(F_ref16_Far_ok _ _ hx21), mapLen⟩⟩, (F_ref03_Ints_ok _ _ hx22)⟩, (congrArg V.b hc23)⟩, rfl⟩, rfl⟩, ⟨(F_rank_Lost_ok _ _ hx24), mapLen⟩⟩, rfl⟩, rfl⟩, ⟨(F_ref16_Lost_ok _ _ hx25), mapLen⟩⟩, (F_ref03_Ints_ok _ _ hx26)⟩, (congrArg V.b hc27)⟩, rfl⟩, rfl⟩, (F_rank_Longest_ok _ _ hx28)⟩, rfl⟩, rfl⟩, (F_ref16_Longest_ok _ _ hx29)⟩, (congrArg V.b hc30)⟩, rfl⟩, rfl⟩, (F_rank_Step_ok _ _ _ hx31)⟩, rfl⟩, rfl⟩, (F_ref16_Step_ok _ _ _ hx32)⟩, (congrArg V.b hc33)⟩, rfl⟩, rfl⟩, ⟨(F_rank_Way_ok _ _ _ hx34), mapLen⟩⟩, rfl⟩, rfl⟩, ⟨(F_ref16_Way_ok _ _ _ hx35), mapLen⟩⟩, (F_ref03_Ints_ok _ _ hx36)⟩, (congrArg V.b hc37)⟩, (F_ref03_Ints_ok _ _ hx38)⟩ rfl (by kernel_rfl) rfl rfl rfl ?_
                      refine AK.go tab_ok hC [.keep [8] []] rfl trivial ?_
                      obtain rfl := Option.some.inj h
                      exact AK.met rfl
                    · refine AK.draw2 tab_ok hC mixed [.a .no none false, .a .no (some ([], .b true)) false, .a .no (some ([], .agg (row_TNet n1))) false, .a .no (some ([], .agg (row_TSpace s2))) false, .a (.cd false [.d, .d] 1 (x16.map row_I) x16.length) none false, .a .no (some ([], .agg (row_TNet n1))) false, .a .no (some ([], .agg (row_TSpace s2))) false, .a (.cd false [.d, .d] 1 (x17.map row_I) x17.length) none false, .a (.c false [.d, .d] (.b x18)) none false, .a .no none false, .a .no (some ([], .b true)) false, .a .no (some ([], .agg (row_TSpace s2))) false, .a .no none false, .a (.cd false [.d, .d] 1 (x20.map row_I) x20.length) none false, .a .no (some ([], .agg (row_TSpace s2))) false, .a .no none false, .a (.cd false [.d, .d] 1 (x21.map row_I) x21.length) none false, .a (.c false [.d, .d] (.b x22)) none false, .a .no none false, .a .no (some ([], .b true)) false, .a .no (some ([], .agg (row_TNet n1))) false, .a .no (some ([], .agg (row_TSpace s2))) false, .a (.cd false [.d, .d] 1 (x24.map row_I) x24.length) none false, .a .no (some ([], .agg (row_TNet n1))) false, .a .no (some ([], .agg (row_TSpace s2))) false, .a (.cd false [.d, .d] 1 (x25.map row_I) x25.length) none false, .a (.c false [.d, .d] (.b x26)) none false, .a .no none false, .a .no (some ([], .b true)) false, .a .no (some ([], .agg (row_TNet n1))) false, .a .no (some ([], .agg (row_TSpace s2))) false, .a (.c false [.d, .d] (.i .i64 x28)) none false, .a .no (some ([], .agg (row_TNet n1))) false, .a .no (some ([], .agg (row_TSpace s2))) false, .a (.c false [.d, .d] (.i .i64 x29)) none false, .a .no none false, .a .no none false, .a .no (some ([], .b true)) false, .a .no (some ([], .agg (row_TNet n1))) false, .a .no (some ([], .agg (row_TSpace s2))) false, .a .no none false, .a (.c false [.d, .d, .d] (.i .i64 x31)) none false, .a .no (some ([], .agg (row_TNet n1))) false, .a .no (some ([], .agg (row_TSpace s2))) false, .a .no none false, .a (.c false [.d, .d, .d] (.i .i64 x32)) none false, .a .no none false, .a .no none false, .a .no (some ([], .b true)) false, .a .no (some ([], .agg (row_TNet n1))) false, .a .no (some ([], .agg (row_TSpace s2))) false, .a .no none false, .a (.cd false [.d, .d, .d] 1 (x34.map row_I) x34.length) none false, .a .no (some ([], .agg (row_TNet n1))) false, .a .no (some ([], .agg (row_TSpace s2))) false, .a .no none false, .a (.cd false [.d, .d, .d] 1 (x35.map row_I) x35.length) none false, .a (.c false [.d, .d] (.b x36)) none false, .a .no none false, .a .no (some ([], .b false)) false, .a .no none false, .a .no none false, .a .no none false, .a .no none false, .a .no none false] [] [] [8] [] rfl rfl rfl ⟨⟨⟨⟨⟨⟨⟨⟨⟨⟨⟨⟨⟨⟨⟨⟨⟨⟨⟨⟨⟨⟨⟨⟨⟨⟨⟨⟨⟨⟨⟨⟨⟨⟨⟨⟨⟨⟨⟨⟨⟨⟨⟨⟨⟨trivial, (congrArg V.b hc15)⟩, rfl⟩, rfl⟩, ⟨(F_rank_Goals_ok _ _ hx16), mapLen⟩⟩, rfl⟩, rfl⟩, ⟨(F_ref16_Goals_ok _ _ hx17), mapLen⟩⟩, (F_ref03_Ints_ok _ _ hx18)⟩, (congrArg V.b hc19)⟩, rfl⟩, ⟨(F_rank_Far_ok _ _ hx20), mapLen⟩⟩, rfl⟩, ⟨(F_ref16_Far_ok _ _ hx21), mapLen⟩⟩, (F_ref03_Ints_ok _ _ hx22)⟩, (congrArg V.b hc23)⟩, rfl⟩, rfl⟩, ⟨(F_rank_Lost_ok _ _ hx24), mapLen⟩⟩, rfl⟩, rfl⟩, ⟨(F_ref16_Lost_ok _ _ hx25), mapLen⟩⟩, (F_ref03_Ints_ok _ _ hx26)⟩, (congrArg V.b hc27)⟩, rfl⟩, rfl⟩, (F_rank_Longest_ok _ _ hx28)⟩, rfl⟩, rfl⟩, (F_ref16_Longest_ok _ _ hx29)⟩, (congrArg V.b hc30)⟩, rfl⟩, rfl⟩, (F_rank_Step_ok _ _ _ hx31)⟩, rfl⟩, rfl⟩, (F_ref16_Step_ok _ _ _ hx32)⟩, (congrArg V.b hc33)⟩, rfl⟩, rfl⟩, ⟨(F_rank_Way_ok _ _ _ hx34), mapLen⟩⟩, rfl⟩, rfl⟩, ⟨(F_ref16_Way_ok _ _ _ hx35), mapLen⟩⟩, (F_ref03_Ints_ok _ _ hx36)⟩, (congrArg V.b hc37)⟩ rfl (by kernel_rfl) rfl rfl rfl ?_
                      refine AK.go tab_ok hC [.keep [8] []] rfl trivial ?_
                      obtain rfl := Option.some.inj h
                      exact AK.met rfl
                  · refine AK.draw2 tab_ok hC mixed [.a .no none false, .a .no (some ([], .b true)) false, .a .no (some ([], .agg (row_TNet n1))) false, .a .no (some ([], .agg (row_TSpace s2))) false, .a (.cd false [.d, .d] 1 (x16.map row_I) x16.length) none false, .a .no (some ([], .agg (row_TNet n1))) false, .a .no (some ([], .agg (row_TSpace s2))) false, .a (.cd false [.d, .d] 1 (x17.map row_I) x17.length) none false, .a (.c false [.d, .d] (.b x18)) none false, .a .no none false, .a .no (some ([], .b true)) false, .a .no (some ([], .agg (row_TSpace s2))) false, .a .no none false, .a (.cd false [.d, .d] 1 (x20.map row_I) x20.length) none false, .a .no (some ([], .agg (row_TSpace s2))) false, .a .no none false, .a (.cd false [.d, .d] 1 (x21.map row_I) x21.length) none false, .a (.c false [.d, .d] (.b x22)) none false, .a .no none false, .a .no (some ([], .b true)) false, .a .no (some ([], .agg (row_TNet n1))) false, .a .no (some ([], .agg (row_TSpace s2))) false, .a (.cd false [.d, .d] 1 (x24.map row_I) x24.length) none false, .a .no (some ([], .agg (row_TNet n1))) false, .a .no (some ([], .agg (row_TSpace s2))) false, .a (.cd false [.d, .d] 1 (x25.map row_I) x25.length) none false, .a (.c false [.d, .d] (.b x26)) none false, .a .no none false, .a .no (some ([], .b true)) false, .a .no (some ([], .agg (row_TNet n1))) false, .a .no (some ([], .agg (row_TSpace s2))) false, .a (.c false [.d, .d] (.i .i64 x28)) none false, .a .no (some ([], .agg (row_TNet n1))) false, .a .no (some ([], .agg (row_TSpace s2))) false, .a (.c false [.d, .d] (.i .i64 x29)) none false, .a .no none false, .a .no none false, .a .no (some ([], .b true)) false, .a .no (some ([], .agg (row_TNet n1))) false, .a .no (some ([], .agg (row_TSpace s2))) false, .a .no none false, .a (.c false [.d, .d, .d] (.i .i64 x31)) none false, .a .no (some ([], .agg (row_TNet n1))) false, .a .no (some ([], .agg (row_TSpace s2))) false, .a .no none false, .a (.c false [.d, .d, .d] (.i .i64 x32)) none false, .a .no none false, .a .no none false, .a .no (some ([], .b false)) false, .a .no none false, .a .no none false, .a .no none false, .a .no none false, .a .no none false, .a .no none false, .a .no none false, .a .no none false, .a .no none false, .a .no none false, .a .no none false, .a .no none false, .a .no none false, .a .no none false, .a .no none false, .a .no none false] [] [] [8] [] rfl rfl rfl ⟨⟨⟨⟨⟨⟨⟨⟨⟨⟨⟨⟨⟨⟨⟨⟨⟨⟨⟨⟨⟨⟨⟨⟨⟨⟨⟨⟨⟨⟨⟨⟨⟨⟨⟨⟨⟨trivial, (congrArg V.b hc15)⟩, rfl⟩, rfl⟩, ⟨(F_rank_Goals_ok _ _ hx16), mapLen⟩⟩, rfl⟩, rfl⟩, ⟨(F_ref16_Goals_ok _ _ hx17), mapLen⟩⟩, (F_ref03_Ints_ok _ _ hx18)⟩, (congrArg V.b hc19)⟩, rfl⟩, ⟨(F_rank_Far_ok _ _ hx20), mapLen⟩⟩, rfl⟩, ⟨(F_ref16_Far_ok _ _ hx21), mapLen⟩⟩, (F_ref03_Ints_ok _ _ hx22)⟩, (congrArg V.b hc23)⟩, rfl⟩, rfl⟩, ⟨(F_rank_Lost_ok _ _ hx24), mapLen⟩⟩, rfl⟩, rfl⟩, ⟨(F_ref16_Lost_ok _ _ hx25), mapLen⟩⟩, (F_ref03_Ints_ok _ _ hx26)⟩, (congrArg V.b hc27)⟩, rfl⟩, rfl⟩, (F_rank_Longest_ok _ _ hx28)⟩, rfl⟩, rfl⟩, (F_ref16_Longest_ok _ _ hx29)⟩, (congrArg V.b hc30)⟩, rfl⟩, rfl⟩, (F_rank_Step_ok _ _ _ hx31)⟩, rfl⟩, rfl⟩, (F_ref16_Step_ok _ _ _ hx32)⟩, (congrArg V.b hc33)⟩ rfl (by kernel_rfl) rfl rfl rfl ?_
                    refine AK.go tab_ok hC [.keep [8] []] rfl trivial ?_
                    obtain rfl := Option.some.inj h
                    exact AK.met rfl
                · refine AK.draw2 tab_ok hC mixed [.a .no none false, .a .no (some ([], .b true)) false, .a .no (some ([], .agg (row_TNet n1))) false, .a .no (some ([], .agg (row_TSpace s2))) false, .a (.cd false [.d, .d] 1 (x16.map row_I) x16.length) none false, .a .no (some ([], .agg (row_TNet n1))) false, .a .no (some ([], .agg (row_TSpace s2))) false, .a (.cd false [.d, .d] 1 (x17.map row_I) x17.length) none false, .a (.c false [.d, .d] (.b x18)) none false, .a .no none false, .a .no (some ([], .b true)) false, .a .no (some ([], .agg (row_TSpace s2))) false, .a .no none false, .a (.cd false [.d, .d] 1 (x20.map row_I) x20.length) none false, .a .no (some ([], .agg (row_TSpace s2))) false, .a .no none false, .a (.cd false [.d, .d] 1 (x21.map row_I) x21.length) none false, .a (.c false [.d, .d] (.b x22)) none false, .a .no none false, .a .no (some ([], .b true)) false, .a .no (some ([], .agg (row_TNet n1))) false, .a .no (some ([], .agg (row_TSpace s2))) false, .a (.cd false [.d, .d] 1 (x24.map row_I) x24.length) none false, .a .no (some ([], .agg (row_TNet n1))) false, .a .no (some ([], .agg (row_TSpace s2))) false, .a (.cd false [.d, .d] 1 (x25.map row_I) x25.length) none false, .a (.c false [.d, .d] (.b x26)) none false, .a .no none false, .a .no (some ([], .b true)) false, .a .no (some ([], .agg (row_TNet n1))) false, .a .no (some ([], .agg (row_TSpace s2))) false, .a (.c false [.d, .d] (.i .i64 x28)) none false, .a .no (some ([], .agg (row_TNet n1))) false, .a .no (some ([], .agg (row_TSpace s2))) false, .a (.c false [.d, .d] (.i .i64 x29)) none false, .a .no none false, .a .no none false, .a .no (some ([], .b false)) false, .a .no none false, .a .no none false, .a .no none false, .a .no none false, .a .no none false, .a .no none false, .a .no none false, .a .no none false, .a .no none false, .a .no none false, .a .no none false, .a .no none false, .a .no none false, .a .no none false, .a .no none false, .a .no none false, .a .no none false, .a .no none false, .a .no none false, .a .no none false, .a .no none false, .a .no none false, .a .no none false, .a .no none false, .a .no none false, .a .no none false, .a .no none false] [] [] [8] [] rfl rfl rfl ⟨⟨⟨⟨⟨⟨⟨⟨⟨⟨⟨⟨⟨⟨⟨⟨⟨⟨⟨⟨⟨⟨⟨⟨⟨⟨⟨⟨⟨⟨trivial, (congrArg V.b hc15)⟩, rfl⟩, rfl⟩, ⟨(F_rank_Goals_ok _ _ hx16), mapLen⟩⟩, rfl⟩, rfl⟩, ⟨(F_ref16_Goals_ok _ _ hx17), mapLen⟩⟩, (F_ref03_Ints_ok _ _ hx18)⟩, (congrArg V.b hc19)⟩, rfl⟩, ⟨(F_rank_Far_ok _ _ hx20), mapLen⟩⟩, rfl⟩, ⟨(F_ref16_Far_ok _ _ hx21), mapLen⟩⟩, (F_ref03_Ints_ok _ _ hx22)⟩, (congrArg V.b hc23)⟩, rfl⟩, rfl⟩, ⟨(F_rank_Lost_ok _ _ hx24), mapLen⟩⟩, rfl⟩, rfl⟩, ⟨(F_ref16_Lost_ok _ _ hx25), mapLen⟩⟩, (F_ref03_Ints_ok _ _ hx26)⟩, (congrArg V.b hc27)⟩, rfl⟩, rfl⟩, (F_rank_Longest_ok _ _ hx28)⟩, rfl⟩, rfl⟩, (F_ref16_Longest_ok _ _ hx29)⟩, (congrArg V.b hc30)⟩ rfl (by kernel_rfl) rfl rfl rfl ?_
                  refine AK.go tab_ok hC [.keep [8] []] rfl trivial ?_
                  obtain rfl := Option.some.inj h
                  exact AK.met rfl
              · refine AK.draw2 tab_ok hC mixed [.a .no none false, .a .no (some ([], .b true)) false, .a .no (some ([], .agg (row_TNet n1))) false, .a .no (some ([], .agg (row_TSpace s2))) false, .a (.cd false [.d, .d] 1 (x16.map row_I) x16.length) none false, .a .no (some ([], .agg (row_TNet n1))) false, .a .no (some ([], .agg (row_TSpace s2))) false, .a (.cd false [.d, .d] 1 (x17.map row_I) x17.length) none false, .a (.c false [.d, .d] (.b x18)) none false, .a .no none false, .a .no (some ([], .b true)) false, .a .no (some ([], .agg (row_TSpace s2))) false, .a .no none false, .a (.cd false [.d, .d] 1 (x20.map row_I) x20.length) none false, .a .no (some ([], .agg (row_TSpace s2))) false, .a .no none false, .a (.cd false [.d, .d] 1 (x21.map row_I) x21.length) none false, .a (.c false [.d, .d] (.b x22)) none false, .a .no none false, .a .no (some ([], .b true)) false, .a .no (some ([], .agg (row_TNet n1))) false, .a .no (some ([], .agg (row_TSpace s2))) false, .a (.cd false [.d, .d] 1 (x24.map row_I) x24.length) none false, .a .no (some ([], .agg (row_TNet n1))) false, .a .no (some ([], .agg (row_TSpace s2))) false, .a (.cd false [.d, .d] 1 (x25.map row_I) x25.length) none false, .a (.c false [.d, .d] (.b x26)) none false, .a .no none false, .a .no (some ([], .b false)) false, .a .no none false, .a .no none false, .a .no none false, .a .no none false, .a .no none false, .a .no none false, .a .no none false, .a .no none false, .a .no none false, .a .no none false, .a .no none false, .a .no none false, .a .no none false, .a .no none false, .a .no none false, .a .no none false, .a .no none false, .a .no none false, .a .no none false, .a .no none false, .a .no none false, .a .no none false, .a .no none false, .a .no none false, .a .no none false, .a .no none false, .a .no none false, .a .no none false, .a .no none false, .a .no none false, .a .no none false, .a .no none false, .a .no none false, .a .no none false, .a .no none false, .a .no none false] [] [] [8] [] rfl rfl rfl ⟨⟨⟨⟨⟨⟨⟨⟨⟨⟨⟨⟨⟨⟨⟨⟨⟨⟨⟨⟨⟨⟨⟨trivial, (congrArg V.b hc15)⟩, rfl⟩, rfl⟩, ⟨(F_rank_Goals_ok _ _ hx16), mapLen⟩⟩, rfl⟩, rfl⟩, ⟨(F_ref16_Goals_ok _ _ hx17), mapLen⟩⟩, (F_ref03_Ints_ok _ _ hx18)⟩, (congrArg V.b hc19)⟩, rfl⟩, ⟨(F_rank_Far_ok _ _ hx20), mapLen⟩⟩, rfl⟩, ⟨(F_ref16_Far_ok _ _ hx21), mapLen⟩⟩, (F_ref03_Ints_ok _ _ hx22)⟩, (congrArg V.b hc23)⟩, rfl⟩, rfl⟩, ⟨(F_rank_Lost_ok _ _ hx24), mapLen⟩⟩, rfl⟩, rfl⟩, ⟨(F_ref16_Lost_ok _ _ hx25), mapLen⟩⟩, (F_ref03_Ints_ok _ _ hx26)⟩, (congrArg V.b hc27)⟩ rfl (by kernel_rfl) rfl rfl rfl ?_
                refine AK.go tab_ok hC [.keep [8] []] rfl trivial ?_
                obtain rfl := Option.some.inj h
                exact AK.met rfl
            · refine AK.draw2 tab_ok hC mixed [.a .no none false, .a .no (some ([], .b true)) false, .a .no (some ([], .agg (row_TNet n1))) false, .a .no (some ([], .agg (row_TSpace s2))) false, .a (.cd false [.d, .d] 1 (x16.map row_I) x16.length) none false, .a .no (some ([], .agg (row_TNet n1))) false, .a .no (some ([], .agg (row_TSpace s2))) false, .a (.cd false [.d, .d] 1 (x17.map row_I) x17.length) none false, .a (.c false [.d, .d] (.b x18)) none false, .a .no none false, .a .no (some ([], .b true)) false, .a .no (some ([], .agg (row_TSpace s2))) false, .a .no none false, .a (.cd false [.d, .d] 1 (x20.map row_I) x20.length) none false, .a .no (some ([], .agg (row_TSpace s2))) false, .a .no none false, .a (.cd false [.d, .d] 1 (x21.map row_I) x21.length) none false, .a (.c false [.d, .d] (.b x22)) none false, .a .no none false, .a .no (some ([], .b false)) false, .a .no none false, .a .no none false, .a .no none false, .a .no none false, .a .no none false, .a .no none false, .a .no none false, .a .no none false, .a .no none false, .a .no none false, .a .no none false, .a .no none false, .a .no none false, .a .no none false, .a .no none false, .a .no none false, .a .no none false, .a .no none false, .a .no none false, .a .no none false, .a .no none false, .a .no none false, .a .no none false, .a .no none false, .a .no none false, .a .no none false, .a .no none false, .a .no none false, .a .no none false, .a .no none false, .a .no none false, .a .no none false, .a .no none false, .a .no none false, .a .no none false, .a .no none false, .a .no none false, .a .no none false, .a .no none false, .a .no none false, .a .no none false, .a .no none false, .a .no none false, .a .no none false, .a .no none false] [] [] [8] [] rfl rfl rfl ⟨⟨⟨⟨⟨⟨⟨⟨⟨⟨⟨⟨⟨⟨⟨trivial, (congrArg V.b hc15)⟩, rfl⟩, rfl⟩, ⟨(F_rank_Goals_ok _ _ hx16), mapLen⟩⟩, rfl⟩, rfl⟩, ⟨(F_ref16_Goals_ok _ _ hx17), mapLen⟩⟩, (F_ref03_Ints_ok _ _ hx18)⟩, (congrArg V.b hc19)⟩, rfl⟩, ⟨(F_rank_Far_ok _ _ hx20), mapLen⟩⟩, rfl⟩, ⟨(F_ref16_Far_ok _ _ hx21), mapLen⟩⟩, (F_ref03_Ints_ok _ _ hx22)⟩, (congrArg V.b hc23)⟩ rfl (by kernel_rfl) rfl rfl rfl ?_
              refine AK.go tab_ok hC [.keep [8] []] rfl trivial ?_
              obtain rfl := Option.some.inj h
              exact AK.met rfl
          · refine AK.draw2 tab_ok hC mixed [.a .no none false, .a .no (some ([], .b true)) false, .a .no (some ([], .agg (row_TNet n1))) false, .a .no (some ([], .agg (row_TSpace s2))) false, .a (.cd false [.d, .d] 1 (x16.map row_I) x16.length) none false, .a .no (some ([], .agg (row_TNet n1))) false, .a .no (some ([], .agg (row_TSpace s2))) false, .a (.cd false [.d, .d] 1 (x17.map row_I) x17.length) none false, .a (.c false [.d, .d] (.b x18)) none false, .a .no none false, .a .no (some ([], .b false)) false, .a .no none false, .a .no none false, .a .no none false, .a .no none false, .a .no none false, .a .no none false, .a .no none false, .a .no none false, .a .no none false, .a .no none false, .a .no none false, .a .no none false, .a .no none false, .a .no none false, .a .no none false, .a .no none false, .a .no none false, .a .no none false, .a .no none false, .a .no none false, .a .no none false, .a .no none false, .a .no none false, .a .no none false, .a .no none false, .a .no none false, .a .no none false, .a .no none false, .a .no none false, .a .no none false, .a .no none false, .a .no none false, .a .no none false, .a .no none false, .a .no none false, .a .no none false, .a .no none false, .a .no none false, .a .no none false, .a .no none false, .a .no none false, .a .no none false, .a .no none false, .a .no none false, .a .no none false, .a .no none false, .a .no none false, .a .no none false, .a .no none false, .a .no none false, .a .no none false, .a .no none false, .a .no none false, .a .no none false] [] [] [8] [] rfl rfl rfl ⟨⟨⟨⟨⟨⟨⟨⟨⟨trivial, (congrArg V.b hc15)⟩, rfl⟩, rfl⟩, ⟨(F_rank_Goals_ok _ _ hx16), mapLen⟩⟩, rfl⟩, rfl⟩, ⟨(F_ref16_Goals_ok _ _ hx17), mapLen⟩⟩, (F_ref03_Ints_ok _ _ hx18)⟩, (congrArg V.b hc19)⟩ rfl (by kernel_rfl) rfl rfl rfl ?_
            refine AK.go tab_ok hC [.keep [8] []] rfl trivial ?_
            obtain rfl := Option.some.inj h
            exact AK.met rfl
        · refine AK.draw2 tab_ok hC mixed [.a .no none false, .a .no (some ([], .b false)) false, .a .no none false, .a .no none false, .a .no none false, .a .no none false, .a .no none false, .a .no none false, .a .no none false, .a .no none false, .a .no none false, .a .no none false, .a .no none false, .a .no none false, .a .no none false, .a .no none false, .a .no none false, .a .no none false, .a .no none false, .a .no none false, .a .no none false, .a .no none false, .a .no none false, .a .no none false, .a .no none false, .a .no none false, .a .no none false, .a .no none false, .a .no none false, .a .no none false, .a .no none false, .a .no none false, .a .no none false, .a .no none false, .a .no none false, .a .no none false, .a .no none false, .a .no none false, .a .no none false, .a .no none false, .a .no none false, .a .no none false, .a .no none false, .a .no none false, .a .no none false, .a .no none false, .a .no none false, .a .no none false, .a .no none false, .a .no none false, .a .no none false, .a .no none false, .a .no none false, .a .no none false, .a .no none false, .a .no none false, .a .no none false, .a .no none false, .a .no none false, .a .no none false, .a .no none false, .a .no none false, .a .no none false, .a .no none false, .a .no none false] [] [] [8] [] rfl rfl rfl ⟨trivial, (congrArg V.b hc15)⟩ rfl (by kernel_rfl) rfl rfl rfl ?_
          refine AK.go tab_ok hC [.keep [8] []] rfl trivial ?_
          obtain rfl := Option.some.inj h
          exact AK.met rfl
      · rintro σ rfl
        replace h : F_law16_RankTells_k2 x13 = some r := h
        unfold F_law16_RankTells_k2 at h
        refine AK.go tab_ok hC [.n 2, .keep [8] []] rfl trivial ?_
        obtain rfl := Option.some.inj h
        refine AK.done ?_
        exact Exists.intro [_] (And.intro (And.intro rfl trivial) (gives trivial))

-- 4 baldric/baldriclaw16.RankWays
def F_law16_RankWays_g1 (x13 : (List Int)) (s2 : TSpace) (k3 : Int) (x14 : (List Int)) : Option Bool :=
  bif ((x13.length : Int) != (s2.States.length : Int)) then
  some true
  else
  (idx x13 k3).bind fun e18 =>
  some ((x14.length : Int) != (max2 e18 0))

def F_law16_RankWays_g2 (x14 : (List Int)) (i21 : Int) (s2 : TSpace) (at_20 : Int) : Option Bool :=
  (idx x14 i21).bind fun e28 =>
  bif (decide (e28 < 0)) then
  some true
  else
  (idx x14 i21).bind fun e30 =>
  bif (decide ((s2.Edges.length : Int) ≤ e30)) then
  some true
  else
  (idx x14 i21).bind fun e32 =>
  (idx s2.Edges e32).bind fun e33 =>
  some (e33.From != at_20)

def F_law16_RankWays_g3 (e36 : TEdge) (x13 : (List Int)) (k3 : Int) (i21 : Int) : Option Bool :=
  bif (decide (e36.To < 0)) then
  some true
  else
  bif (decide ((x13.length : Int) ≤ e36.To)) then
  some true
  else
  (idx x13 e36.To).bind fun e41 =>
  (idx x13 k3).bind fun e42 =>
  some (e41 != (w64 ((w64 (e42 - i21)) - 1)))

def F_law16_RankWays_k4 (e36 : TEdge) (i21 : Int) (x37 : Bool) : Option ((Int × Int) ⊕ (Unit ⊕ Int)) :=
  bif x37 then
  some (.inr (.inl ()))
  else
  some (.inl (e36.To, (w64 (i21 + 1))))

def F_law16_RankWays_k5 (x14 : (List Int)) (i21 : Int) (s2 : TSpace) (x13 : (List Int)) (k3 : Int) (x26 : Bool) : Option ((Int × Int) ⊕ (Unit ⊕ Int)) :=
  bif x26 then
  some (.inr (.inl ()))
  else
  (idx x14 i21).bind fun e35 =>
  (idx s2.Edges e35).bind fun e36 =>
  (F_law16_RankWays_g3 e36 x13 k3 i21).bind (fun x37 => F_law16_RankWays_k4 e36 i21 x37)

def F_law16_RankWays_l6 (x14 : (List Int)) (s2 : TSpace) (x13 : (List Int)) (k3 : Int) (at_20 : Int) (i21 : Int) : Option ((Int × Int) ⊕ (Unit ⊕ Int)) :=
  bif (decide (i21 < (x14.length : Int))) then
  (F_law16_RankWays_g2 x14 i21 s2 at_20).bind (fun x26 => F_law16_RankWays_k5 x14 i21 s2 x13 k3 x26)
  else
  some (.inr (.inr at_20))

def F_law16_RankWays_c7 : Option Bool :=
  some false

def F_law16_RankWays_g8 (gone46 : Bool) (x45 : (List Int)) (i47 : Int) (k3 : Int) : Option Bool :=
  bif gone46 then
  some true
  else
  (idx x45 i47).bind fun e55 =>
  some (e55 == k3)

def F_law16_RankWays_k9 (i47 : Int) (gone52 : Bool) : Option ((Bool × Int) ⊕ Bool) :=
  some (.inl (gone52, (w64 (i47 + 1))))

def F_law16_RankWays_l10 (x45 : (List Int)) (k3 : Int) (gone46 : Bool) (i47 : Int) : Option ((Bool × Int) ⊕ Bool) :=
  bif (decide (i47 < (x45.length : Int))) then
  (F_law16_RankWays_g8 gone46 x45 i47 k3).bind (fun gone52 => F_law16_RankWays_k9 i47 gone52)
  else
  some (.inr gone46)

def F_law16_RankWays_g11 (x6 : Bool) (x13 : (List Int)) (k3 : Int) (gone50 : Bool) (n1 : TNet) (s2 : TSpace) (at_24 : Int) : Option Bool :=
  bif x6 then
  (idx x13 k3).bind fun e60 =>
  bif (gone50 == (decide (e60 < 0))) then
  bif gone50 then
  (F_rank_Step n1 s2 k3).bind fun x63 =>
  (idx x13 k3).bind fun e64 =>
  some ((decide (0 ≤ x63)) == (decide (0 < e64)))
  else
  (idx s2.States at_24).bind fun e65 =>
  (F_mark_Final n1 e65).bind fun x66 =>
  bif x66 then
  (F_rank_Step n1 s2 k3).bind fun x68 =>
  (idx x13 k3).bind fun e69 =>
  some ((decide (0 ≤ x68)) == (decide (0 < e69)))
  else
  some false
  else
  some false
  else
  some false

def F_law16_RankWays_k12 (x57 : Bool) : Option Bool :=
  some x57

def F_law16_RankWays_c13 (x6 : Bool) (x13 : (List Int)) (k3 : Int) (n1 : TNet) (s2 : TSpace) (at_24 : Int) (gone50 : Bool) : Option Bool :=
  (F_law16_RankWays_g11 x6 x13 k3 gone50 n1 s2 at_24).bind (fun x57 => F_law16_RankWays_k12 x57)

def F_law16_RankWays_c14 (n1 : TNet) (s2 : TSpace) (k3 : Int) (x6 : Bool) (x13 : (List Int)) (at_24 : Int) : Option Bool :=
  (F_rank_Lost n1 s2).bind fun x45 =>
  (loopM (fun st => F_law16_RankWays_l10 x45 k3 st.1 st.2) (false, 0)).bind (fun q => F_law16_RankWays_c13 x6 x13 k3 n1 s2 at_24 q)

def F_law16_RankWays_k15 (x14 : (List Int)) (s2 : TSpace) (x13 : (List Int)) (k3 : Int) (n1 : TNet) (x6 : Bool) (x15 : Bool) : Option Bool :=
  bif x15 then
  some false
  else
  (loopM (fun st => F_law16_RankWays_l6 x14 s2 x13 k3 st.1 st.2) (k3, 0)).bind (Sum.elim (fun q => F_law16_RankWays_c7) (fun q => F_law16_RankWays_c14 n1 s2 k3 x6 x13 q))

def F_law16_RankWays (n1 : TNet) (s2 : TSpace) (k3 : Int) : Option Bool :=
  (F_law16_small).bind fun x6 =>
  (F_law16_Few s2).bind fun x7 =>
  bif ((!x7) || ((decide (k3 < 0)) || (decide ((s2.States.length : Int) ≤ k3)))) then
  some x6
  else
  (F_rank_Goals n1 s2).bind fun x12 =>
  (F_rank_Far s2 x12).bind fun x13 =>
  (F_rank_Way n1 s2 k3).bind fun x14 =>
  (F_law16_RankWays_g1 x13 s2 k3 x14).bind (fun x15 => F_law16_RankWays_k15 x14 s2 x13 k3 n1 x6 x15)

set_option maxRecDepth 100000 in
set_option maxHeartbeats 4000000 in
theorem F_law16_RankWays_ok (n1 : TNet) (s2 : TSpace) (k3 : Int) {r : Bool} (h : F_law16_RankWays n1 s2 k3 = some r) : ACalls Try.prog 4 [.agg (row_TNet n1), .agg (row_TSpace s2), .i .i64 k3] [] (Gives (.b r) []) := by
  refine ACalls.walk 179 Try.func4 rfl Try.ntmps4 rfl fun C hC => ?_
  unfold F_law16_RankWays at h
  obtain ⟨x6, hx6, h⟩ := bindE h
  obtain ⟨x7, hx7, h⟩ := bindE h
  refine AK.go tab_ok hC [.n 9, .o (.c false [] (.b x6)), .n 5, .v .no [] (.agg (row_TSpace s2)), .o (.c false [.d] (.b x7)), .n 5] rfl ⟨⟨⟨trivial, (F_law16_small_ok  hx6)⟩, rfl⟩, (F_law16_Few_ok _ hx7)⟩ ?_
  refine AK.meetX (fun σ => σ = ⟨[(2, .i .i64 k3), (3, .loc 3 0 0), (4, .loc 4 0 0), (7, .b x6), (32, .b ((!x7) || ((decide (k3 < 0)) || (decide ((s2.States.length : Int) ≤ k3)))))], [(3, .var (row_TNet n1)), (4, .var (row_TSpace s2))]⟩) ?_ ?_
  · refine AK.go tab_ok hC [.n 4] rfl trivial ?_
    rcases boolOr (!x7) with hc9 | hc9
    · refine AK.go tab_ok hC [.say 22 (.b true), .n 11, .say 32 (.b ((!x7) || ((decide (k3 < 0)) || (decide ((s2.States.length : Int) ≤ k3))))), .keep [2, 3, 4, 7, 32] [3, 4]] rfl ⟨⟨trivial, (congrArg V.b hc9)⟩, (congrArg V.b (orT hc9 rfl))⟩ ?_
      exact AK.met rfl
    · refine AK.go tab_ok hC [.say 22 (.b false), .n 4] rfl ⟨trivial, (congrArg V.b hc9)⟩ ?_
      rcases boolOr (decide (k3 < 0)) with hc10 | hc10
      · refine AK.go tab_ok hC [.say 26 (.b true), .n 7, .say 32 (.b ((!x7) || ((decide (k3 < 0)) || (decide ((s2.States.length : Int) ≤ k3))))), .keep [2, 3, 4, 7, 32] [3, 4]] rfl ⟨⟨trivial, (congrArg V.b hc10)⟩, (congrArg V.b (orF hc9 (orT hc10 rfl)))⟩ ?_
        exact AK.met rfl
      · refine AK.go tab_ok hC [.say 26 (.b false), .n 3, .o (.ln s2.States.length), .n 3, .say 32 (.b ((!x7) || ((decide (k3 < 0)) || (decide ((s2.States.length : Int) ≤ k3))))), .keep [2, 3, 4, 7, 32] [3, 4]] rfl ⟨⟨⟨trivial, (congrArg V.b hc10)⟩, mapLen⟩, (congrArg V.b (orF hc9 (orF hc10 rfl)))⟩ ?_
        exact AK.met rfl
  · rintro σ rfl
    refine AK.go tab_ok hC [.n 1] rfl trivial ?_
    rcases bifE h with ⟨hc11, h⟩ | ⟨hc11, h⟩
    · refine AK.go tab_ok hC [.br true, .n 8, .keep [6] []] rfl ⟨trivial, hc11⟩ ?_
      obtain rfl := Option.some.inj h
      refine AK.done ?_
      exact Exists.intro [_] (And.intro (And.intro rfl trivial) (gives trivial))
    · obtain ⟨x12, hx12, h⟩ := bindE h
      obtain ⟨x13, hx13, h⟩ := bindE h
      obtain ⟨x14, hx14, h⟩ := bindE h
      refine AK.go tab_ok hC [.br false, .n 4, .v .no [] (.agg (row_TNet n1)), .v .no [] (.agg (row_TSpace s2)), .o (.co false [.d, .d] 1 (x12.map row_I) x12.length), .n 5, .v .no [] (.agg (row_TSpace s2)), .n 1, .o (.co true [.d, .o (x12.map row_I)] 1 (x13.map row_I) x13.length), .n 5, .v .no [] (.agg (row_TNet n1)), .v .no [] (.agg (row_TSpace s2)), .n 1, .o (.co false [.d, .d, .d] 1 (x14.map row_I) x14.length), .n 5] rfl ⟨⟨⟨⟨⟨⟨⟨⟨⟨trivial, hc11⟩, rfl⟩, rfl⟩, ⟨(F_rank_Goals_ok _ _ hx12), mapLen, .inl rfl⟩⟩, rfl⟩, ⟨(viewMap rfl), ⟨(F_rank_Far_ok _ _ hx13), mapLen, .inr (scaRows_I _)⟩⟩⟩, rfl⟩, rfl⟩, ⟨(F_rank_Way_ok _ _ _ hx14), mapLen, .inl rfl⟩⟩ ?_
      obtain ⟨x15, hv16, h⟩ := bindE h
      replace h : F_law16_RankWays_k15 x14 s2 x13 k3 n1 x6 x15 = some r := h
      refine AK.meetX (fun σ => σ = ⟨[(2, .i .i64 k3), (3, .loc 3 0 0), (4, .loc 4 0 0), (7, .b x6), (10, .own 39 x13.length), (11, .own 43 x14.length), (59, .b x15)], [(3, .var (row_TNet n1)), (4, .var (row_TSpace s2)), (39, .arr 1 (x13.map row_I)), (43, .arr 1 (x14.map row_I))]⟩) ?_ ?_
      · replace h := hv16
        unfold F_law16_RankWays_g1 at h
        refine AK.go tab_ok hC [.n 5, .o (.ln s2.States.length), .n 2] rfl ⟨trivial, mapLen⟩ ?_
        rcases bifE h with ⟨hc17, h⟩ | ⟨hc17, h⟩
        · refine AK.go tab_ok hC [.say 50 (.b true), .n 10, .keep [2, 3, 4, 7, 10, 11, 59] [3, 4, 39, 43]] rfl ⟨trivial, (congrArg V.b hc17)⟩ ?_
          obtain rfl := Option.some.inj h
          exact AK.met rfl
        · obtain ⟨e18, he18, h⟩ := bindE h
          refine AK.go tab_ok hC [.say 50 (.b false), .n 5, .o (.row (row_I e18)), .n 4, .keep [2, 3, 4, 7, 10, 11, 59] [3, 4, 39, 43]] rfl ⟨⟨⟨trivial, (congrArg V.b hc17)⟩, (idxOw he18 rfl)⟩, (mapGet (idxE he18).2)⟩ ?_
          obtain rfl := Option.some.inj h
          exact AK.met rfl
      · rintro σ rfl
        replace h : F_law16_RankWays_k15 x14 s2 x13 k3 n1 x6 x15 = some r := h
        unfold F_law16_RankWays_k15 at h
        refine AK.go tab_ok hC [.n 1] rfl trivial ?_
        rcases bifE h with ⟨hc19, h⟩ | ⟨hc19, h⟩
        · refine AK.go tab_ok hC [.br true, .n 7, .keep [6] []] rfl ⟨trivial, hc19⟩ ?_
          obtain rfl := Option.some.inj h
          refine AK.done ?_
          exact Exists.intro [_] (And.intro (And.intro rfl trivial) (gives trivial))
        · refine AK.go tab_ok hC [.br false, .n 15, .keep [2, 3, 4, 7, 10, 11, 12, 13] [3, 4, 39, 43]] rfl ⟨trivial, hc19⟩ ?_
          obtain ⟨o44, hl44, h⟩ := bindE h
          refine AK.loop (body := (fun st => F_law16_RankWays_l6 x14 s2 x13 k3 st.1 st.2)) (fun st σ => σ = ⟨[(2, .i .i64 k3), (3, .loc 3 0 0), (4, .loc 4 0 0), (7, .b x6), (10, .own 39 x13.length), (11, .own 43 x14.length), (12, .i .i64 st.1), (13, .i .i64 st.2)], [(3, .var (row_TNet n1)), (4, .var (row_TSpace s2)), (39, .arr 1 (x13.map row_I)), (43, .arr 1 (x14.map row_I))]⟩) (Sum.elim (fun q e σ => e = .ret ∧ σ = ⟨[(6, .b false)], []⟩) (fun q e σ => e = .exit 0 ∧ σ = ⟨[(2, .i .i64 k3), (3, .loc 3 0 0), (4, .loc 4 0 0), (7, .b x6), (10, .own 39 x13.length), (12, .i .i64 q)], [(3, .var (row_TNet n1)), (4, .var (row_TSpace s2)), (39, .arr 1 (x13.map row_I))]⟩)) hl44 rfl ?_ ?_
          · rintro ⟨at_20, i21⟩ o σ rfl h
            replace h : F_law16_RankWays_l6 x14 s2 x13 k3 at_20 i21 = some o := h
            unfold F_law16_RankWays_l6 at h
            refine AK.go tab_ok hC [.n 9] rfl trivial ?_
            rcases bifE h with ⟨hc25, h⟩ | ⟨hc25, h⟩
            · refine AK.go tab_ok hC [.br true, .n 6] rfl ⟨trivial, hc25⟩ ?_
              obtain ⟨x26, hv27, h⟩ := bindE h
              replace h : F_law16_RankWays_k5 x14 i21 s2 x13 k3 x26 = some o := h
              refine AK.meetX (fun σ => σ = ⟨[(2, .i .i64 k3), (3, .loc 3 0 0), (4, .loc 4 0 0), (7, .b x6), (10, .own 39 x13.length), (11, .own 43 x14.length), (13, .i .i64 i21), (94, .b x26)], [(3, .var (row_TNet n1)), (4, .var (row_TSpace s2)), (39, .arr 1 (x13.map row_I)), (43, .arr 1 (x14.map row_I))]⟩) ?_ ?_
              · replace h := hv27
                unfold F_law16_RankWays_g2 at h
                obtain ⟨e28, he28, h⟩ := bindE h
                refine AK.go tab_ok hC [.keep [2, 3, 4, 7, 10, 11, 12, 13] [3, 4, 39, 43]] rfl trivial ?_
                rcases bifE h with ⟨hc29, h⟩ | ⟨hc29, h⟩
                · refine AK.draw2 tab_ok hC mixed [.a .no none false, .a .no none false, .a .no none false, .a (.row (row_I e28)) none false, .a .no none false, .a .no (some ([], .b true)) false, .a .no none false, .a .no none false, .a .no none false, .a .no none false, .a .no none false, .a .no none false, .a .no none false, .a .no none false, .a .no none false, .a .no none false, .a .no none false, .a .no none false, .a .no none false, .a .no none false, .a .no none false, .a .no none false, .a .no none false, .a .no none false, .a .no none false, .a .no none false, .a .no none false, .a .no none false] [] [] [2, 3, 4, 7, 10, 11, 13, 94] [3, 4, 39, 43] rfl rfl rfl ⟨⟨⟨trivial, (idxOw he28 rfl)⟩, (mapGet (idxE he28).2)⟩, (congrArg V.b hc29)⟩ rfl (by kernel_rfl) rfl rfl rfl ?_
                  refine AK.go tab_ok hC [.keep [2, 3, 4, 7, 10, 11, 13, 94] [3, 4, 39, 43]] rfl trivial ?_
                  obtain rfl := Option.some.inj h
                  exact AK.met rfl
                · obtain ⟨e30, he30, h⟩ := bindE h
                  rcases bifE h with ⟨hc31, h⟩ | ⟨hc31, h⟩
                  · refine AK.draw2 tab_ok hC mixed [.a .no none false, .a .no none false, .a .no none false, .a (.row (row_I e28)) none false, .a .no none false, .a .no (some ([], .b false)) false, .a .no none false, .a .no none false, .a .no none false, .a (.row (row_I e30)) none false, .a .no none false, .a .no none false, .a (.ln s2.Edges.length) none false, .a .no none false, .a .no none false, .a .no (some ([], .b true)) false, .a .no none false, .a .no none false, .a .no none false, .a .no none false, .a .no none false, .a .no none false, .a .no none false, .a .no none false, .a .no none false, .a .no none false, .a .no none false, .a .no none false] [] [] [2, 3, 4, 7, 10, 11, 13, 94] [3, 4, 39, 43] rfl rfl rfl ⟨⟨⟨⟨⟨⟨⟨trivial, (idxOw he28 rfl)⟩, (mapGet (idxE he28).2)⟩, (congrArg V.b hc29)⟩, (idxOw he30 rfl)⟩, (mapGet (idxE he30).2)⟩, mapLen⟩, (congrArg V.b hc31)⟩ rfl (by kernel_rfl) rfl rfl rfl ?_
                    refine AK.go tab_ok hC [.keep [2, 3, 4, 7, 10, 11, 13, 94] [3, 4, 39, 43]] rfl trivial ?_
                    obtain rfl := Option.some.inj h
                    exact AK.met rfl
                  · obtain ⟨e32, he32, h⟩ := bindE h
                    obtain ⟨e33, he33, h⟩ := bindE h
                    refine AK.draw2 tab_ok hC mixed [.a .no none false, .a .no none false, .a .no none false, .a (.row (row_I e28)) none false, .a .no none false, .a .no (some ([], .b false)) false, .a .no none false, .a .no none false, .a .no none false, .a (.row (row_I e30)) none false, .a .no none false, .a .no none false, .a (.ln s2.Edges.length) none false, .a .no none false, .a .no none false, .a .no (some ([], .b false)) false, .a .no none false, .a .no none false, .a .no none false, .a .no none false, .a .no none false, .a (.row (row_I e32)) none false, .a (.row (row_TEdge e33)) none false, .a .no none false, .a .no none false, .a .no none false, .a .no none false, .a .no none false] [] [] [2, 3, 4, 7, 10, 11, 13, 94] [3, 4, 39, 43] rfl rfl rfl ⟨⟨⟨⟨⟨⟨⟨⟨⟨⟨trivial, (idxOw he28 rfl)⟩, (mapGet (idxE he28).2)⟩, (congrArg V.b hc29)⟩, (idxOw he30 rfl)⟩, (mapGet (idxE he30).2)⟩, mapLen⟩, (congrArg V.b hc31)⟩, (idxOw he32 rfl)⟩, (mapGet (idxE he32).2)⟩, (idxM he33)⟩ rfl (by kernel_rfl) rfl rfl rfl ?_
                    refine AK.go tab_ok hC [.keep [2, 3, 4, 7, 10, 11, 13, 94] [3, 4, 39, 43]] rfl trivial ?_
                    obtain rfl := Option.some.inj h
                    exact AK.met rfl
              · rintro σ rfl
                replace h : F_law16_RankWays_k5 x14 i21 s2 x13 k3 x26 = some o := h
                unfold F_law16_RankWays_k5 at h
                refine AK.go tab_ok hC [.n 1] rfl trivial ?_
                rcases bifE h with ⟨hc34, h⟩ | ⟨hc34, h⟩
                · refine AK.go tab_ok hC [.br true, .n 9, .keep [6] []] rfl ⟨trivial, hc34⟩ ?_
                  obtain rfl := Option.some.inj h
                  exact rndR rfl (And.intro rfl rfl)
                · obtain ⟨e35, he35, h⟩ := bindE h
                  obtain ⟨e36, he36, h⟩ := bindE h
                  refine AK.go tab_ok hC [.br false, .n 3, .keep [2, 3, 4, 7, 10, 11, 13] [3, 4, 39, 43]] rfl ⟨trivial, hc34⟩ ?_
                  refine AK.draw2 tab_ok hC mixed [.a .no none false, .a .no none false, .a .no none false, .a .no none false, .a .no none false, .a (.row (row_I e35)) none false, .a (.row (row_TEdge e36)) none false, .a .no none false, .a .no none false, .a .no none false] [] [] [2, 3, 4, 7, 10, 11, 12, 13] [3, 4, 39, 43] rfl rfl rfl ⟨⟨⟨trivial, (idxOw he35 rfl)⟩, (mapGet (idxE he35).2)⟩, (idxM he36)⟩ rfl (by kernel_rfl) rfl rfl rfl ?_
                  refine AK.go tab_ok hC [.n 2] rfl trivial ?_
                  obtain ⟨x37, hv38, h⟩ := bindE h
                  replace h : F_law16_RankWays_k4 e36 i21 x37 = some o := h
                  refine AK.meetX (fun σ => σ = ⟨[(2, .i .i64 k3), (3, .loc 3 0 0), (4, .loc 4 0 0), (7, .b x6), (10, .own 39 x13.length), (11, .own 43 x14.length), (12, .i .i64 e36.To), (13, .i .i64 i21), (125, .b x37)], [(3, .var (row_TNet n1)), (4, .var (row_TSpace s2)), (39, .arr 1 (x13.map row_I)), (43, .arr 1 (x14.map row_I))]⟩) ?_ ?_
                  · replace h := hv38
                    unfold F_law16_RankWays_g3 at h
                    refine AK.go tab_ok hC [.keep [2, 3, 4, 7, 10, 11, 12, 13] [3, 4, 39, 43]] rfl trivial ?_
                    rcases bifE h with ⟨hc39, h⟩ | ⟨hc39, h⟩
                    · refine AK.draw2 tab_ok hC mixed [.a .no none false, .a .no none false, .a .no (some ([], .b true)) false, .a .no none false, .a .no none false, .a .no none false, .a .no none false, .a .no none false, .a .no none false, .a .no none false, .a .no none false, .a .no none false, .a .no none false, .a .no none false, .a .no none false, .a .no none false, .a .no none false, .a .no none false, .a .no none false, .a .no none false, .a .no none false, .a .no none false] [] [] [2, 3, 4, 7, 10, 11, 12, 13, 125] [3, 4, 39, 43] rfl rfl rfl ⟨trivial, (congrArg V.b hc39)⟩ rfl (by kernel_rfl) rfl rfl rfl ?_
                      refine AK.go tab_ok hC [.keep [2, 3, 4, 7, 10, 11, 12, 13, 125] [3, 4, 39, 43]] rfl trivial ?_
                      obtain rfl := Option.some.inj h
                      exact AK.met rfl
                    · rcases bifE h with ⟨hc40, h⟩ | ⟨hc40, h⟩
                      · refine AK.draw2 tab_ok hC mixed [.a .no none false, .a .no none false, .a .no (some ([], .b false)) false, .a .no none false, .a .no none false, .a .no none false, .a .no none false, .a .no none false, .a .no (some ([], .b true)) false, .a .no none false, .a .no none false, .a .no none false, .a .no none false, .a .no none false, .a .no none false, .a .no none false, .a .no none false, .a .no none false, .a .no none false, .a .no none false, .a .no none false, .a .no none false] [] [] [2, 3, 4, 7, 10, 11, 12, 13, 125] [3, 4, 39, 43] rfl rfl rfl ⟨⟨trivial, (congrArg V.b hc39)⟩, (congrArg V.b hc40)⟩ rfl (by kernel_rfl) rfl rfl rfl ?_
                        refine AK.go tab_ok hC [.keep [2, 3, 4, 7, 10, 11, 12, 13, 125] [3, 4, 39, 43]] rfl trivial ?_
                        obtain rfl := Option.some.inj h
                        exact AK.met rfl
                      · obtain ⟨e41, he41, h⟩ := bindE h
                        obtain ⟨e42, he42, h⟩ := bindE h
                        refine AK.draw2 tab_ok hC mixed [.a .no none false, .a .no none false, .a .no (some ([], .b false)) false, .a .no none false, .a .no none false, .a .no none false, .a .no none false, .a .no none false, .a .no (some ([], .b false)) false, .a .no none false, .a .no none false, .a .no none false, .a (.row (row_I e41)) none false, .a .no none false, .a .no none false, .a .no none false, .a (.row (row_I e42)) none false, .a .no none false, .a .no none false, .a .no none false, .a .no none false, .a .no none false] [] [] [2, 3, 4, 7, 10, 11, 12, 13, 125] [3, 4, 39, 43] rfl rfl rfl ⟨⟨⟨⟨⟨⟨trivial, (congrArg V.b hc39)⟩, (congrArg V.b hc40)⟩, (idxOw he41 rfl)⟩, (mapGet (idxE he41).2)⟩, (idxOw he42 rfl)⟩, (mapGet (idxE he42).2)⟩ rfl (by kernel_rfl) rfl rfl rfl ?_
                        refine AK.go tab_ok hC [.keep [2, 3, 4, 7, 10, 11, 12, 13, 125] [3, 4, 39, 43]] rfl trivial ?_
                        obtain rfl := Option.some.inj h
                        exact AK.met rfl
                  · rintro σ rfl
                    replace h : F_law16_RankWays_k4 e36 i21 x37 = some o := h
                    unfold F_law16_RankWays_k4 at h
                    refine AK.go tab_ok hC [.n 1] rfl trivial ?_
                    rcases bifE h with ⟨hc43, h⟩ | ⟨hc43, h⟩
                    · refine AK.go tab_ok hC [.br true, .n 8, .keep [6] []] rfl ⟨trivial, hc43⟩ ?_
                      obtain rfl := Option.some.inj h
                      exact rndR rfl (And.intro rfl rfl)
                    · refine AK.go tab_ok hC [.br false, .n 8, .keep [2, 3, 4, 7, 10, 11, 12, 13] [3, 4, 39, 43]] rfl ⟨trivial, hc43⟩ ?_
                      obtain rfl := Option.some.inj h
                      exact rndN rfl rfl
            · refine AK.go tab_ok hC [.br false, .n 2, .keep [2, 3, 4, 7, 10, 12] [3, 4, 39]] rfl ⟨trivial, hc25⟩ ?_
              obtain rfl := Option.some.inj h
              exact rndX rfl (And.intro rfl rfl)
          · rcases o44 with (_ | at_24)
            · replace h : F_law16_RankWays_c7 = some r := h
              unfold F_law16_RankWays_c7 at h
              rintro e σ ⟨rfl, rfl⟩
              refine AK.go tab_ok hC [.n 2, .keep [6] []] rfl trivial ?_
              obtain rfl := Option.some.inj h
              refine AK.done ?_
              exact Exists.intro [_] (And.intro (And.intro rfl trivial) (gives trivial))
            · replace h : F_law16_RankWays_c14 n1 s2 k3 x6 x13 at_24 = some r := h
              unfold F_law16_RankWays_c14 at h
              rintro e σ ⟨rfl, rfl⟩
              obtain ⟨x45, hx45, h⟩ := bindE h
              refine AK.go tab_ok hC [.n 4, .v .no [] (.agg (row_TNet n1)), .v .no [] (.agg (row_TSpace s2)), .o (.co false [.d, .d] 1 (x45.map row_I) x45.length), .n 15, .keep [2, 3, 4, 7, 10, 12, 14, 15, 16] [3, 4, 39, 128]] rfl ⟨⟨⟨trivial, rfl⟩, rfl⟩, ⟨(F_rank_Lost_ok _ _ hx45), mapLen, .inl rfl⟩⟩ ?_
              obtain ⟨gone50, hl56, h⟩ := bindE h
              refine AK.loop (body := (fun st => F_law16_RankWays_l10 x45 k3 st.1 st.2)) (fun st σ => σ = ⟨[(2, .i .i64 k3), (3, .loc 3 0 0), (4, .loc 4 0 0), (7, .b x6), (10, .own 39 x13.length), (12, .i .i64 at_24), (14, .own 128 x45.length), (15, .b st.1), (16, .i .i64 st.2)], [(3, .var (row_TNet n1)), (4, .var (row_TSpace s2)), (39, .arr 1 (x13.map row_I)), (128, .arr 1 (x45.map row_I))]⟩) (fun q e σ => e = .exit 2 ∧ σ = ⟨[(2, .i .i64 k3), (3, .loc 3 0 0), (4, .loc 4 0 0), (7, .b x6), (10, .own 39 x13.length), (12, .i .i64 at_24), (15, .b q)], [(3, .var (row_TNet n1)), (4, .var (row_TSpace s2)), (39, .arr 1 (x13.map row_I))]⟩) hl56 rfl ?_ ?_
              · rintro ⟨gone46, i47⟩ o σ rfl h
                replace h : F_law16_RankWays_l10 x45 k3 gone46 i47 = some o := h
                unfold F_law16_RankWays_l10 at h
                refine AK.go tab_ok hC [.n 9] rfl trivial ?_
                rcases bifE h with ⟨hc51, h⟩ | ⟨hc51, h⟩
                · refine AK.go tab_ok hC [.br true, .n 4] rfl ⟨trivial, hc51⟩ ?_
                  obtain ⟨gone52, hv53, h⟩ := bindE h
                  replace h : F_law16_RankWays_k9 i47 gone52 = some o := h
                  refine AK.meetX (fun σ => σ = ⟨[(2, .i .i64 k3), (3, .loc 3 0 0), (4, .loc 4 0 0), (7, .b x6), (10, .own 39 x13.length), (12, .i .i64 at_24), (14, .own 128 x45.length), (15, .b gone52), (16, .i .i64 i47)], [(3, .var (row_TNet n1)), (4, .var (row_TSpace s2)), (39, .arr 1 (x13.map row_I)), (128, .arr 1 (x45.map row_I))]⟩) ?_ ?_
                  · replace h := hv53
                    unfold F_law16_RankWays_g8 at h
                    refine AK.go tab_ok hC [.n 3] rfl trivial ?_
                    rcases bifE h with ⟨hc54, h⟩ | ⟨hc54, h⟩
                    · refine AK.go tab_ok hC [.say 136 (.b true), .n 9, .keep [2, 3, 4, 7, 10, 12, 14, 15, 16] [3, 4, 39, 128]] rfl ⟨trivial, (congrArg V.b hc54)⟩ ?_
                      obtain rfl := Option.some.inj h
                      exact AK.met rfl
                    · obtain ⟨e55, he55, h⟩ := bindE h
                      refine AK.go tab_ok hC [.say 136 (.b false), .n 3, .o (.row (row_I e55)), .n 5, .keep [2, 3, 4, 7, 10, 12, 14, 15, 16] [3, 4, 39, 128]] rfl ⟨⟨⟨trivial, (congrArg V.b hc54)⟩, (idxOw he55 rfl)⟩, (mapGet (idxE he55).2)⟩ ?_
                      obtain rfl := Option.some.inj h
                      exact AK.met rfl
                  · rintro σ rfl
                    replace h : F_law16_RankWays_k9 i47 gone52 = some o := h
                    unfold F_law16_RankWays_k9 at h
                    refine AK.go tab_ok hC [.n 7, .keep [2, 3, 4, 7, 10, 12, 14, 15, 16] [3, 4, 39, 128]] rfl trivial ?_
                    obtain rfl := Option.some.inj h
                    exact rndN rfl rfl
                · refine AK.go tab_ok hC [.br false, .n 2, .keep [2, 3, 4, 7, 10, 12, 15] [3, 4, 39]] rfl ⟨trivial, hc51⟩ ?_
                  obtain rfl := Option.some.inj h
                  exact rndX rfl (And.intro rfl rfl)
              · replace h : F_law16_RankWays_c13 x6 x13 k3 n1 s2 at_24 gone50 = some r := h
                unfold F_law16_RankWays_c13 at h
                rintro e σ ⟨rfl, rfl⟩
                refine AK.go tab_ok hC [.n 3] rfl trivial ?_
                obtain ⟨x57, hv58, h⟩ := bindE h
                replace h : F_law16_RankWays_k12 x57 = some r := h
                refine AK.meetX (fun σ => σ = ⟨[(6, .b x57)], []⟩) ?_ ?_
                · replace h := hv58
                  unfold F_law16_RankWays_g11 at h
                  refine AK.go tab_ok hC [.keep [2, 3, 4, 7, 10, 12, 15] [3, 4, 39]] rfl trivial ?_
                  rcases bifE h with ⟨hc59, h⟩ | ⟨hc59, h⟩
                  · obtain ⟨e60, he60, h⟩ := bindE h
                    rcases bifE h with ⟨hc61, h⟩ | ⟨hc61, h⟩
                    · rcases bifE h with ⟨hc62, h⟩ | ⟨hc62, h⟩
                      · obtain ⟨x63, hx63, h⟩ := bindE h
                        obtain ⟨e64, he64, h⟩ := bindE h
                        refine AK.draw2 tab_ok hC mixed [.a .no none false, .a .no (some ([], .b true)) false, .a .no none false, .a .no none false, .a .no none false, .a .no none false, .a (.row (row_I e60)) none false, .a .no none false, .a .no none false, .a .no none false, .a .no (some ([], .b true)) false, .a .no none false, .a .no (some ([], .b true)) false, .a .no none false, .a .no none false, .a .no none false, .a .no none false, .a .no none false, .a .no none false, .a .no none false, .a .no none false, .a .no none false, .a .no none false, .a .no (some ([], .agg (row_TNet n1))) false, .a .no (some ([], .agg (row_TSpace s2))) false, .a .no none false, .a (.c false [.d, .d, .d] (.i .i64 x63)) none false, .a .no none false, .a .no none false, .a .no none false, .a .no none false, .a (.row (row_I e64)) none false, .a .no none false, .a .no none false, .a .no none false, .a .no none false] [] [] [6] [] rfl rfl rfl ⟨⟨⟨⟨⟨⟨⟨⟨⟨⟨trivial, (congrArg V.b hc59)⟩, (idxOw he60 rfl)⟩, (mapGet (idxE he60).2)⟩, (congrArg V.b hc61)⟩, (congrArg V.b hc62)⟩, rfl⟩, rfl⟩, (F_rank_Step_ok _ _ _ hx63)⟩, (idxOw he64 rfl)⟩, (mapGet (idxE he64).2)⟩ rfl (by kernel_rfl) rfl rfl rfl ?_
                        refine AK.go tab_ok hC [.keep [6] []] rfl trivial ?_
                        obtain rfl := Option.some.inj h
                        exact AK.met rfl
                      · obtain ⟨e65, he65, h⟩ := bindE h
                        obtain ⟨x66, hx66, h⟩ := bindE h
                        rcases bifE h with ⟨hc67, h⟩ | ⟨hc67, h⟩
                        · obtain ⟨x68, hx68, h⟩ := bindE h
                          obtain ⟨e69, he69, h⟩ := bindE h
                          refine AK.draw2 tab_ok hC mixed [.a .no none false, .a .no (some ([], .b true)) false, .a .no none false, .a .no none false, .a .no none false, .a .no none false, .a (.row (row_I e60)) none false, .a .no none false, .a .no none false, .a .no none false, .a .no (some ([], .b true)) false, .a .no none false, .a .no (some ([], .b false)) false, .a .no (some ([], .agg (row_TNet n1))) false, .a .no none false, .a .no none false, .a .no none false, .a (.row (row_LLA2I e65)) none false, .a .no none false, .a (.c false [.d, .d] (.b x66)) none false, .a .no none false, .a .no none false, .a .no (some ([], .b true)) false, .a .no (some ([], .agg (row_TNet n1))) false, .a .no (some ([], .agg (row_TSpace s2))) false, .a .no none false, .a (.c false [.d, .d, .d] (.i .i64 x68)) none false, .a .no none false, .a .no none false, .a .no none false, .a .no none false, .a (.row (row_I e69)) none false, .a .no none false, .a .no none false, .a .no none false, .a .no none false] [] [] [6] [] rfl rfl rfl ⟨⟨⟨⟨⟨⟨⟨⟨⟨⟨⟨⟨⟨⟨trivial, (congrArg V.b hc59)⟩, (idxOw he60 rfl)⟩, (mapGet (idxE he60).2)⟩, (congrArg V.b hc61)⟩, (congrArg V.b hc62)⟩, rfl⟩, (idxM he65)⟩, (F_mark_Final_ok _ _ hx66)⟩, (congrArg V.b hc67)⟩, rfl⟩, rfl⟩, (F_rank_Step_ok _ _ _ hx68)⟩, (idxOw he69 rfl)⟩, (mapGet (idxE he69).2)⟩ rfl (by kernel_rfl) rfl rfl rfl ?_
                          refine AK.go tab_ok hC [.keep [6] []] rfl trivial ?_
                          obtain rfl := Option.some.inj h
                          exact AK.met rfl
                        · refine AK.draw2 tab_ok hC mixed [.a .no none false, .a .no (some ([], .b true)) false, .a .no none false, .a .no none false, .a .no none false, .a .no none false, .a (.row (row_I e60)) none false, .a .no none false, .a .no none false, .a .no none false, .a .no (some ([], .b true)) false, .a .no none false, .a .no (some ([], .b false)) false, .a .no (some ([], .agg (row_TNet n1))) false, .a .no none false, .a .no none false, .a .no none false, .a (.row (row_LLA2I e65)) none false, .a .no none false, .a (.c false [.d, .d] (.b x66)) none false, .a .no none false, .a .no none false, .a .no (some ([], .b false)) false, .a .no none false, .a .no none false, .a .no none false, .a .no none false, .a .no none false, .a .no none false, .a .no none false, .a .no none false, .a .no none false, .a .no none false, .a .no none false, .a .no none false, .a .no none false] [] [] [6] [] rfl rfl rfl ⟨⟨⟨⟨⟨⟨⟨⟨⟨trivial, (congrArg V.b hc59)⟩, (idxOw he60 rfl)⟩, (mapGet (idxE he60).2)⟩, (congrArg V.b hc61)⟩, (congrArg V.b hc62)⟩, rfl⟩, (idxM he65)⟩, (F_mark_Final_ok _ _ hx66)⟩, (congrArg V.b hc67)⟩ rfl (by kernel_rfl) rfl rfl rfl ?_
                          refine AK.go tab_ok hC [.keep [6] []] rfl trivial ?_
                          obtain rfl := Option.some.inj h
                          exact AK.met rfl
                    · refine AK.draw2 tab_ok hC mixed [.a .no none false, .a .no (some ([], .b true)) false, .a .no none false, .a .no none false, .a .no none false, .a .no none false, .a (.row (row_I e60)) none false, .a .no none false, .a .no none false, .a .no none false, .a .no (some ([], .b false)) false, .a .no none false, .a .no none false, .a .no none false, .a .no none false, .a .no none false, .a .no none false, .a .no none false, .a .no none false, .a .no none false, .a .no none false, .a .no none false, .a .no none false, .a .no none false, .a .no none false, .a .no none false, .a .no none false, .a .no none false, .a .no none false, .a .no none false, .a .no none false, .a .no none false, .a .no none false, .a .no none false, .a .no none false, .a .no none false] [] [] [6] [] rfl rfl rfl ⟨⟨⟨⟨trivial, (congrArg V.b hc59)⟩, (idxOw he60 rfl)⟩, (mapGet (idxE he60).2)⟩, (congrArg V.b hc61)⟩ rfl (by kernel_rfl) rfl rfl rfl ?_
                      refine AK.go tab_ok hC [.keep [6] []] rfl trivial ?_
                      obtain rfl := Option.some.inj h
                      exact AK.met rfl
                  · refine AK.draw2 tab_ok hC mixed [.a .no none false, .a .no (some ([], .b false)) false, .a .no none false, .a .no none false, .a .no none false, .a .no none false, .a .no none false, .a .no none false, .a .no none false, .a .no none false, .a .no none false, .a .no none false, .a .no none false, .a .no none false, .a .no none false, .a .no none false, .a .no none false, .a .no none false, .a .no none false, .a .no none false, .a .no none false, .a .no none false, .a .no none false, .a .no none false, .a .no none false, .a .no none false, .a .no none false, .a .no none false, .a .no none false, .a .no none false, .a .no none false, .a .no none false, .a .no none false, .a .no none false, .a .no none false, .a .no none false] [] [] [6] [] rfl rfl rfl ⟨trivial, (congrArg V.b hc59)⟩ rfl (by kernel_rfl) rfl rfl rfl ?_
                    refine AK.go tab_ok hC [.keep [6] []] rfl trivial ?_
                    obtain rfl := Option.some.inj h
                    exact AK.met rfl
                · rintro σ rfl
                  replace h : F_law16_RankWays_k12 x57 = some r := h
                  unfold F_law16_RankWays_k12 at h
                  refine AK.go tab_ok hC [.n 2, .keep [6] []] rfl trivial ?_
                  obtain rfl := Option.some.inj h
                  refine AK.done ?_
                  exact Exists.intro [_] (And.intro (And.intro rfl trivial) (gives trivial))

-- 5 baldric/baldriclaw16.RankLeast
def F_law16_RankLeast_g1 (goals2 : (List Int)) (i12 : Int) (x10 : (List Int)) : Option Bool :=
  (idx goals2 i12).bind fun e17 =>
  bif (decide (0 ≤ e17)) then
  (idx goals2 i12).bind fun e19 =>
  bif (decide (e19 < (x10.length : Int))) then
  (idx goals2 i12).bind fun e21 =>
  (idx x10 e21).bind fun e22 =>
  some (e22 != 0)
  else
  some false
  else
  some false

def F_law16_RankLeast_k2 (i12 : Int) (x15 : Bool) : Option (Int ⊕ (Unit ⊕ Unit)) :=
  bif x15 then
  some (.inr (.inl ()))
  else
  some (.inl (w64 (i12 + 1)))

def F_law16_RankLeast_l3 (goals2 : (List Int)) (x10 : (List Int)) (i12 : Int) : Option (Int ⊕ (Unit ⊕ Unit)) :=
  bif (decide (i12 < (goals2.length : Int))) then
  (F_law16_RankLeast_g1 goals2 i12 x10).bind (fun x15 => F_law16_RankLeast_k2 i12 x15)
  else
  some (.inr (.inr ()))

def F_law16_RankLeast_c4 : Option Bool :=
  some false

def F_law16_RankLeast_k5 (i25 : Int) : Option (Int ⊕ (Unit ⊕ Unit)) :=
  some (.inl (w64 (i25 + 1)))

def F_law16_RankLeast_g6 (x10 : (List Int)) (e28 : TEdge) : Option Bool :=
  (idx x10 e28.To).bind fun e36 =>
  bif (decide (0 ≤ e36)) then
  (idx x10 e28.From).bind fun e38 =>
  bif (decide (e38 < 0)) then
  some true
  else
  (idx x10 e28.From).bind fun e40 =>
  (idx x10 e28.To).bind fun e41 =>
  some (decide ((w64 (e41 + 1)) < e40))
  else
  some false

def F_law16_RankLeast_k7 (i25 : Int) (x34 : Bool) : Option (Int ⊕ (Unit ⊕ Unit)) :=
  bif x34 then
  some (.inr (.inl ()))
  else
  F_law16_RankLeast_k5 i25

def F_law16_RankLeast_l8 (s1 : TSpace) (x10 : (List Int)) (i25 : Int) : Option (Int ⊕ (Unit ⊕ Unit)) :=
  bif (decide (i25 < (s1.Edges.length : Int))) then
  (idx s1.Edges i25).bind fun e28 =>
  bif ((decide (e28.From < 0)) || ((decide ((x10.length : Int) ≤ e28.From)) || ((decide (e28.To < 0)) || (decide ((x10.length : Int) ≤ e28.To))))) then
  F_law16_RankLeast_k5 i25
  else
  (F_law16_RankLeast_g6 x10 e28).bind (fun x34 => F_law16_RankLeast_k7 i25 x34)
  else
  some (.inr (.inr ()))

def F_law16_RankLeast_c9 : Option Bool :=
  some false

def F_law16_RankLeast_g10 (x10 : (List Int)) (k44 : Int) : Option Bool :=
  (idx x10 k44).bind fun e49 =>
  bif (decide (e49 < (-1))) then
  some true
  else
  (idx x10 k44).bind fun e51 =>
  some (decide ((x10.length : Int) ≤ e51))

def F_law16_RankLeast_k11 (k44 : Int) (x47 : Bool) : Option (Int ⊕ (Unit ⊕ Unit)) :=
  bif x47 then
  some (.inr (.inl ()))
  else
  some (.inl (w64 (k44 + 1)))

def F_law16_RankLeast_l12 (x10 : (List Int)) (k44 : Int) : Option (Int ⊕ (Unit ⊕ Unit)) :=
  bif (decide (k44 < (x10.length : Int))) then
  (F_law16_RankLeast_g10 x10 k44).bind (fun x47 => F_law16_RankLeast_k11 k44 x47)
  else
  some (.inr (.inr ()))

def F_law16_RankLeast_c13 : Option Bool :=
  some false

def F_law16_RankLeast_c14 (x5 : Bool) : Option Bool :=
  some x5

def F_law16_RankLeast_c15 (x10 : (List Int)) (x5 : Bool) : Option Bool :=
  (loopM (fun st => F_law16_RankLeast_l12 x10 st) 0).bind (Sum.elim (fun q => F_law16_RankLeast_c13) (fun q => F_law16_RankLeast_c14 x5))

def F_law16_RankLeast_c16 (s1 : TSpace) (x10 : (List Int)) (x5 : Bool) : Option Bool :=
  (loopM (fun st => F_law16_RankLeast_l8 s1 x10 st) 0).bind (Sum.elim (fun q => F_law16_RankLeast_c9) (fun q => F_law16_RankLeast_c15 x10 x5))

def F_law16_RankLeast (s1 : TSpace) (goals2 : (List Int)) : Option Bool :=
  (F_law16_small).bind fun x5 =>
  (F_law16_Few s1).bind fun x6 =>
  bif ((!x6) || (decide (50 < (goals2.length : Int)))) then
  some x5
  else
  (F_rank_Far s1 goals2).bind fun x10 =>
  bif ((x10.length : Int) != (s1.States.length : Int)) then
  some false
  else
  (loopM (fun st => F_law16_RankLeast_l3 goals2 x10 st) 0).bind (Sum.elim (fun q => F_law16_RankLeast_c4) (fun q => F_law16_RankLeast_c16 s1 x10 x5))

set_option maxRecDepth 100000 in
set_option maxHeartbeats 4000000 in
theorem F_law16_RankLeast_ok (s1 : TSpace) (goals2 : (List Int)) {r : Bool} (h : F_law16_RankLeast s1 goals2 = some r) : ACalls Try.prog 5 [.agg (row_TSpace s1), .sl 1 (goals2.map row_I)] [] (Gives (.b r) []) := by
  refine ACalls.walk 145 Try.func5 rfl Try.ntmps5 rfl fun C hC => ?_
  unfold F_law16_RankLeast at h
  obtain ⟨x5, hx5, h⟩ := bindE h
  obtain ⟨x6, hx6, h⟩ := bindE h
  refine AK.go tab_ok hC [.n 8, .o (.c false [] (.b x5)), .n 5, .v .no [] (.agg (row_TSpace s1)), .o (.c false [.d] (.b x6)), .n 5] rfl ⟨⟨⟨trivial, (F_law16_small_ok  hx5)⟩, rfl⟩, (F_law16_Few_ok _ hx6)⟩ ?_
  refine AK.meetX (fun σ => σ = ⟨[(1, .sl 1 (goals2.map row_I)), (2, .loc 2 0 0), (5, .b x5), (21, .b ((!x6) || (decide (50 < (goals2.length : Int)))))], [(2, .var (row_TSpace s1))]⟩) ?_ ?_
  · refine AK.go tab_ok hC [.n 4] rfl trivial ?_
    rcases boolOr (!x6) with hc8 | hc8
    · refine AK.go tab_ok hC [.say 17 (.b true), .n 5, .say 21 (.b ((!x6) || (decide (50 < (goals2.length : Int))))), .keep [1, 2, 5, 21] [2]] rfl ⟨⟨trivial, (congrArg V.b hc8)⟩, (congrArg V.b (orT hc8 rfl))⟩ ?_
      exact AK.met rfl
    · refine AK.go tab_ok hC [.say 17 (.b false), .n 1, .o (.ln goals2.length), .n 3, .say 21 (.b ((!x6) || (decide (50 < (goals2.length : Int))))), .keep [1, 2, 5, 21] [2]] rfl ⟨⟨⟨trivial, (congrArg V.b hc8)⟩, mapLen⟩, (congrArg V.b (orF hc8 rfl))⟩ ?_
      exact AK.met rfl
  · rintro σ rfl
    refine AK.go tab_ok hC [.n 1] rfl trivial ?_
    rcases bifE h with ⟨hc9, h⟩ | ⟨hc9, h⟩
    · refine AK.go tab_ok hC [.br true, .n 8, .keep [4] []] rfl ⟨trivial, hc9⟩ ?_
      obtain rfl := Option.some.inj h
      refine AK.done ?_
      exact Exists.intro [_] (And.intro (And.intro rfl trivial) (gives trivial))
    · obtain ⟨x10, hx10, h⟩ := bindE h
      refine AK.go tab_ok hC [.br false, .n 4, .v .no [] (.agg (row_TSpace s1)), .n 1, .o (.co false [.d, .d] 1 (x10.map row_I) x10.length), .n 10, .o (.ln s1.States.length), .n 3] rfl ⟨⟨⟨⟨trivial, hc9⟩, rfl⟩, ⟨(F_rank_Far_ok _ _ hx10), mapLen, .inl rfl⟩⟩, mapLen⟩ ?_
      rcases bifE h with ⟨hc11, h⟩ | ⟨hc11, h⟩
      · refine AK.go tab_ok hC [.br true, .n 7, .keep [4] []] rfl ⟨trivial, hc11⟩ ?_
        obtain rfl := Option.some.inj h
        refine AK.done ?_
        exact Exists.intro [_] (And.intro (And.intro rfl trivial) (gives trivial))
      · refine AK.go tab_ok hC [.br false, .n 9, .keep [1, 2, 5, 7, 8] [2, 25]] rfl ⟨trivial, hc11⟩ ?_
        obtain ⟨o24, hl24, h⟩ := bindE h
        refine AK.loop (body := (fun st => F_law16_RankLeast_l3 goals2 x10 st)) (fun st σ => σ = ⟨[(1, .sl 1 (goals2.map row_I)), (2, .loc 2 0 0), (5, .b x5), (7, .own 25 x10.length), (8, .i .i64 st)], [(2, .var (row_TSpace s1)), (25, .arr 1 (x10.map row_I))]⟩) (Sum.elim (fun q e σ => e = .ret ∧ σ = ⟨[(4, .b false)], []⟩) (fun q e σ => e = .exit 0 ∧ σ = ⟨[(2, .loc 2 0 0), (5, .b x5), (7, .own 25 x10.length)], [(2, .var (row_TSpace s1)), (25, .arr 1 (x10.map row_I))]⟩)) hl24 rfl ?_ ?_
        · rintro i12 o σ rfl h
          replace h : F_law16_RankLeast_l3 goals2 x10 i12 = some o := h
          unfold F_law16_RankLeast_l3 at h
          refine AK.go tab_ok hC [.n 5, .o (.ln goals2.length), .n 3] rfl ⟨trivial, mapLen⟩ ?_
          rcases bifE h with ⟨hc14, h⟩ | ⟨hc14, h⟩
          · refine AK.go tab_ok hC [.br true, .n 5] rfl ⟨trivial, hc14⟩ ?_
            obtain ⟨x15, hv16, h⟩ := bindE h
            replace h : F_law16_RankLeast_k2 i12 x15 = some o := h
            refine AK.meetX (fun σ => σ = ⟨[(1, .sl 1 (goals2.map row_I)), (2, .loc 2 0 0), (5, .b x5), (7, .own 25 x10.length), (8, .i .i64 i12), (61, .b x15)], [(2, .var (row_TSpace s1)), (25, .arr 1 (x10.map row_I))]⟩) ?_ ?_
            · replace h := hv16
              unfold F_law16_RankLeast_g1 at h
              obtain ⟨e17, he17, h⟩ := bindE h
              refine AK.go tab_ok hC [.n 3, .o (.row (row_I e17)), .n 3] rfl ⟨trivial, (idxM he17)⟩ ?_
              rcases bifE h with ⟨hc18, h⟩ | ⟨hc18, h⟩
              · obtain ⟨e19, he19, h⟩ := bindE h
                refine AK.go tab_ok hC [.say 43 (.b true), .n 2, .o (.row (row_I e19)), .n 6] rfl ⟨⟨trivial, (congrArg V.b hc18)⟩, (idxM he19)⟩ ?_
                rcases bifE h with ⟨hc20, h⟩ | ⟨hc20, h⟩
                · obtain ⟨e21, he21, h⟩ := bindE h
                  obtain ⟨e22, he22, h⟩ := bindE h
                  refine AK.go tab_ok hC [.say 52 (.b true), .n 3, .o (.row (row_I e21)), .n 2, .o (.row (row_I e22)), .n 3, .keep [1, 2, 5, 7, 8, 61] [2, 25]] rfl ⟨⟨⟨⟨trivial, (congrArg V.b hc20)⟩, (idxM he21)⟩, (idxOw he22 rfl)⟩, (mapGet (idxE he22).2)⟩ ?_
                  obtain rfl := Option.some.inj h
                  exact AK.met rfl
                · refine AK.go tab_ok hC [.say 52 (.b false), .n 10, .keep [1, 2, 5, 7, 8, 61] [2, 25]] rfl ⟨trivial, (congrArg V.b hc20)⟩ ?_
                  obtain rfl := Option.some.inj h
                  exact AK.met rfl
              · refine AK.go tab_ok hC [.say 43 (.b false), .n 19, .keep [1, 2, 5, 7, 8, 61] [2, 25]] rfl ⟨trivial, (congrArg V.b hc18)⟩ ?_
                obtain rfl := Option.some.inj h
                exact AK.met rfl
            · rintro σ rfl
              replace h : F_law16_RankLeast_k2 i12 x15 = some o := h
              unfold F_law16_RankLeast_k2 at h
              refine AK.go tab_ok hC [.n 1] rfl trivial ?_
              rcases bifE h with ⟨hc23, h⟩ | ⟨hc23, h⟩
              · refine AK.go tab_ok hC [.br true, .n 8, .keep [4] []] rfl ⟨trivial, hc23⟩ ?_
                obtain rfl := Option.some.inj h
                exact rndR rfl (And.intro rfl rfl)
              · refine AK.go tab_ok hC [.br false, .n 8, .keep [1, 2, 5, 7, 8] [2, 25]] rfl ⟨trivial, hc23⟩ ?_
                obtain rfl := Option.some.inj h
                exact rndN rfl rfl
          · refine AK.go tab_ok hC [.br false, .n 2, .keep [2, 5, 7] [2, 25]] rfl ⟨trivial, hc14⟩ ?_
            obtain rfl := Option.some.inj h
            exact rndX rfl (And.intro rfl rfl)
        · rcases o24 with (_ | _)
          · replace h : F_law16_RankLeast_c4 = some r := h
            unfold F_law16_RankLeast_c4 at h
            rintro e σ ⟨rfl, rfl⟩
            refine AK.go tab_ok hC [.n 2, .keep [4] []] rfl trivial ?_
            obtain rfl := Option.some.inj h
            refine AK.done ?_
            exact Exists.intro [_] (And.intro (And.intro rfl trivial) (gives trivial))
          · replace h : F_law16_RankLeast_c16 s1 x10 x5 = some r := h
            unfold F_law16_RankLeast_c16 at h
            rintro e σ ⟨rfl, rfl⟩
            refine AK.go tab_ok hC [.n 9, .keep [2, 5, 7, 9] [2, 25]] rfl trivial ?_
            obtain ⟨o43, hl43, h⟩ := bindE h
            refine AK.loop (body := (fun st => F_law16_RankLeast_l8 s1 x10 st)) (fun st σ => σ = ⟨[(2, .loc 2 0 0), (5, .b x5), (7, .own 25 x10.length), (9, .i .i64 st)], [(2, .var (row_TSpace s1)), (25, .arr 1 (x10.map row_I))]⟩) (Sum.elim (fun q e σ => e = .ret ∧ σ = ⟨[(4, .b false)], []⟩) (fun q e σ => e = .exit 2 ∧ σ = ⟨[(5, .b x5), (7, .own 25 x10.length)], [(25, .arr 1 (x10.map row_I))]⟩)) hl43 rfl ?_ ?_
            · rintro i25 o σ rfl h
              replace h : F_law16_RankLeast_l8 s1 x10 i25 = some o := h
              unfold F_law16_RankLeast_l8 at h
              refine AK.go tab_ok hC [.n 6, .o (.ln s1.Edges.length), .n 3] rfl ⟨trivial, mapLen⟩ ?_
              rcases bifE h with ⟨hc27, h⟩ | ⟨hc27, h⟩
              · refine AK.go tab_ok hC [.br true, .n 2] rfl ⟨trivial, hc27⟩ ?_
                refine AK.meet (fun σ => σ = ⟨[(2, .loc 2 0 0), (5, .b x5), (7, .own 25 x10.length), (9, .i .i64 i25)], [(2, .var (row_TSpace s1)), (25, .arr 1 (x10.map row_I))]⟩ ∧ F_law16_RankLeast_k5 i25 = some o) ?_ ?_
                · obtain ⟨e28, he28, h⟩ := bindE h
                  refine AK.go tab_ok hC [.n 6, .o (.row (row_TEdge e28)), .v .no [] (.agg (row_TEdge e28)), .n 2, .sayO 10 (.var (row_TEdge e28)), .n 4] rfl ⟨⟨⟨trivial, (idxM he28)⟩, rfl⟩, rfl⟩ ?_
                  refine AK.meetX (fun σ => σ = ⟨[(2, .loc 2 0 0), (5, .b x5), (7, .own 25 x10.length), (9, .i .i64 i25), (10, .loc 10 0 0), (95, .b ((decide (e28.From < 0)) || ((decide ((x10.length : Int) ≤ e28.From)) || ((decide (e28.To < 0)) || (decide ((x10.length : Int) ≤ e28.To))))))], [(2, .var (row_TSpace s1)), (10, .var (row_TEdge e28)), (25, .arr 1 (x10.map row_I))]⟩) ?_ ?_
                  · refine AK.go tab_ok hC [.n 5] rfl trivial ?_
                    rcases boolOr (decide (e28.From < 0)) with hc30 | hc30
                    · refine AK.go tab_ok hC [.say 77 (.b true), .n 19, .say 95 (.b ((decide (e28.From < 0)) || ((decide ((x10.length : Int) ≤ e28.From)) || ((decide (e28.To < 0)) || (decide ((x10.length : Int) ≤ e28.To)))))), .keep [2, 5, 7, 9, 10, 95] [2, 10, 25]] rfl ⟨⟨trivial, (congrArg V.b hc30)⟩, (congrArg V.b (orT hc30 rfl))⟩ ?_
                      exact AK.met rfl
                    · refine AK.go tab_ok hC [.say 77 (.b false), .n 7] rfl ⟨trivial, (congrArg V.b hc30)⟩ ?_
                      rcases boolOr (decide ((x10.length : Int) ≤ e28.From)) with hc31 | hc31
                      · refine AK.go tab_ok hC [.say 84 (.b true), .n 12, .say 95 (.b ((decide (e28.From < 0)) || ((decide ((x10.length : Int) ≤ e28.From)) || ((decide (e28.To < 0)) || (decide ((x10.length : Int) ≤ e28.To)))))), .keep [2, 5, 7, 9, 10, 95] [2, 10, 25]] rfl ⟨⟨trivial, (congrArg V.b hc31)⟩, (congrArg V.b (orF hc30 (orT hc31 rfl)))⟩ ?_
                        exact AK.met rfl
                      · refine AK.go tab_ok hC [.say 84 (.b false), .n 5] rfl ⟨trivial, (congrArg V.b hc31)⟩ ?_
                        rcases boolOr (decide (e28.To < 0)) with hc32 | hc32
                        · refine AK.go tab_ok hC [.say 89 (.b true), .n 7, .say 95 (.b ((decide (e28.From < 0)) || ((decide ((x10.length : Int) ≤ e28.From)) || ((decide (e28.To < 0)) || (decide ((x10.length : Int) ≤ e28.To)))))), .keep [2, 5, 7, 9, 10, 95] [2, 10, 25]] rfl ⟨⟨trivial, (congrArg V.b hc32)⟩, (congrArg V.b (orF hc30 (orF hc31 (orT hc32 rfl))))⟩ ?_
                          exact AK.met rfl
                        · refine AK.go tab_ok hC [.say 89 (.b false), .n 7, .say 95 (.b ((decide (e28.From < 0)) || ((decide ((x10.length : Int) ≤ e28.From)) || ((decide (e28.To < 0)) || (decide ((x10.length : Int) ≤ e28.To)))))), .keep [2, 5, 7, 9, 10, 95] [2, 10, 25]] rfl ⟨⟨trivial, (congrArg V.b hc32)⟩, (congrArg V.b (orF hc30 (orF hc31 (orF hc32 rfl))))⟩ ?_
                          exact AK.met rfl
                  · rintro σ rfl
                    refine AK.go tab_ok hC [.n 1] rfl trivial ?_
                    rcases bifE h with ⟨hc33, h⟩ | ⟨hc33, h⟩
                    · refine AK.go tab_ok hC [.br true, .n 3, .keep [2, 5, 7, 9] [2, 25]] rfl ⟨trivial, hc33⟩ ?_
                      exact AK.met (And.intro rfl h)
                    · refine AK.go tab_ok hC [.br false, .n 3] rfl ⟨trivial, hc33⟩ ?_
                      obtain ⟨x34, hv35, h⟩ := bindE h
                      replace h : F_law16_RankLeast_k7 i25 x34 = some o := h
                      refine AK.meetX (fun σ => σ = ⟨[(2, .loc 2 0 0), (5, .b x5), (7, .own 25 x10.length), (9, .i .i64 i25), (123, .b x34)], [(2, .var (row_TSpace s1)), (25, .arr 1 (x10.map row_I))]⟩) ?_ ?_
                      · replace h := hv35
                        unfold F_law16_RankLeast_g6 at h
                        obtain ⟨e36, he36, h⟩ := bindE h
                        refine AK.go tab_ok hC [.keep [2, 5, 7, 9, 10] [2, 10, 25]] rfl trivial ?_
                        rcases bifE h with ⟨hc37, h⟩ | ⟨hc37, h⟩
                        · obtain ⟨e38, he38, h⟩ := bindE h
                          rcases bifE h with ⟨hc39, h⟩ | ⟨hc39, h⟩
                          · refine AK.draw2 tab_ok hC mixed [.a .no none false, .a .no none false, .a .no none false, .a .no none false, .a (.row (row_I e36)) none false, .a .no none false, .a .no (some ([], .b true)) false, .a .no none false, .a .no none false, .a .no none false, .a .no none false, .a (.row (row_I e38)) none false, .a .no none false, .a .no (some ([], .b true)) false, .a .no none false, .a .no none false, .a .no none false, .a .no none false, .a .no none false, .a .no none false, .a .no none false, .a .no none false, .a .no none false, .a .no none false, .a .no none false, .a .no none false, .a .no none false, .a .no none false] [] [] [2, 5, 7, 9, 123] [2, 25] rfl rfl rfl ⟨⟨⟨⟨⟨⟨trivial, (idxOw he36 rfl)⟩, (mapGet (idxE he36).2)⟩, (congrArg V.b hc37)⟩, (idxOw he38 rfl)⟩, (mapGet (idxE he38).2)⟩, (congrArg V.b hc39)⟩ rfl (by kernel_rfl) rfl rfl rfl ?_
                            refine AK.go tab_ok hC [.keep [2, 5, 7, 9, 123] [2, 25]] rfl trivial ?_
                            obtain rfl := Option.some.inj h
                            exact AK.met rfl
                          · obtain ⟨e40, he40, h⟩ := bindE h
                            obtain ⟨e41, he41, h⟩ := bindE h
                            refine AK.draw2 tab_ok hC mixed [.a .no none false, .a .no none false, .a .no none false, .a .no none false, .a (.row (row_I e36)) none false, .a .no none false, .a .no (some ([], .b true)) false, .a .no none false, .a .no none false, .a .no none false, .a .no none false, .a (.row (row_I e38)) none false, .a .no none false, .a .no (some ([], .b false)) false, .a .no none false, .a .no none false, .a .no none false, .a .no none false, .a (.row (row_I e40)) none false, .a .no none false, .a .no none false, .a .no none false, .a .no none false, .a (.row (row_I e41)) none false, .a .no none false, .a .no none false, .a .no none false, .a .no none false] [] [] [2, 5, 7, 9, 123] [2, 25] rfl rfl rfl ⟨⟨⟨⟨⟨⟨⟨⟨⟨⟨trivial, (idxOw he36 rfl)⟩, (mapGet (idxE he36).2)⟩, (congrArg V.b hc37)⟩, (idxOw he38 rfl)⟩, (mapGet (idxE he38).2)⟩, (congrArg V.b hc39)⟩, (idxOw he40 rfl)⟩, (mapGet (idxE he40).2)⟩, (idxOw he41 rfl)⟩, (mapGet (idxE he41).2)⟩ rfl (by kernel_rfl) rfl rfl rfl ?_
                            refine AK.go tab_ok hC [.keep [2, 5, 7, 9, 123] [2, 25]] rfl trivial ?_
                            obtain rfl := Option.some.inj h
                            exact AK.met rfl
                        · refine AK.draw2 tab_ok hC mixed [.a .no none false, .a .no none false, .a .no none false, .a .no none false, .a (.row (row_I e36)) none false, .a .no none false, .a .no (some ([], .b false)) false, .a .no none false, .a .no none false, .a .no none false, .a .no none false, .a .no none false, .a .no none false, .a .no none false, .a .no none false, .a .no none false, .a .no none false, .a .no none false, .a .no none false, .a .no none false, .a .no none false, .a .no none false, .a .no none false, .a .no none false, .a .no none false, .a .no none false, .a .no none false, .a .no none false] [] [] [2, 5, 7, 9, 123] [2, 25] rfl rfl rfl ⟨⟨⟨trivial, (idxOw he36 rfl)⟩, (mapGet (idxE he36).2)⟩, (congrArg V.b hc37)⟩ rfl (by kernel_rfl) rfl rfl rfl ?_
                          refine AK.go tab_ok hC [.keep [2, 5, 7, 9, 123] [2, 25]] rfl trivial ?_
                          obtain rfl := Option.some.inj h
                          exact AK.met rfl
                      · rintro σ rfl
                        replace h : F_law16_RankLeast_k7 i25 x34 = some o := h
                        unfold F_law16_RankLeast_k7 at h
                        refine AK.go tab_ok hC [.n 1] rfl trivial ?_
                        rcases bifE h with ⟨hc42, h⟩ | ⟨hc42, h⟩
                        · refine AK.go tab_ok hC [.br true, .n 8, .keep [4] []] rfl ⟨trivial, hc42⟩ ?_
                          obtain rfl := Option.some.inj h
                          exact rndR rfl (And.intro rfl rfl)
                        · refine AK.go tab_ok hC [.br false, .n 2, .keep [2, 5, 7, 9] [2, 25]] rfl ⟨trivial, hc42⟩ ?_
                          exact AK.met (And.intro rfl h)
                · rintro σ ⟨rfl, h⟩
                  unfold F_law16_RankLeast_k5 at h
                  refine AK.go tab_ok hC [.n 5, .keep [2, 5, 7, 9] [2, 25]] rfl trivial ?_
                  obtain rfl := Option.some.inj h
                  exact rndN rfl rfl
              · refine AK.go tab_ok hC [.br false, .n 2, .keep [5, 7] [25]] rfl ⟨trivial, hc27⟩ ?_
                obtain rfl := Option.some.inj h
                exact rndX rfl (And.intro rfl rfl)
            · rcases o43 with (_ | _)
              · replace h : F_law16_RankLeast_c9 = some r := h
                unfold F_law16_RankLeast_c9 at h
                rintro e σ ⟨rfl, rfl⟩
                refine AK.go tab_ok hC [.n 2, .keep [4] []] rfl trivial ?_
                obtain rfl := Option.some.inj h
                refine AK.done ?_
                exact Exists.intro [_] (And.intro (And.intro rfl trivial) (gives trivial))
              · replace h : F_law16_RankLeast_c15 x10 x5 = some r := h
                unfold F_law16_RankLeast_c15 at h
                rintro e σ ⟨rfl, rfl⟩
                refine AK.go tab_ok hC [.n 9, .keep [5, 7, 11] [25]] rfl trivial ?_
                obtain ⟨o53, hl53, h⟩ := bindE h
                refine AK.loop (body := (fun st => F_law16_RankLeast_l12 x10 st)) (fun st σ => σ = ⟨[(5, .b x5), (7, .own 25 x10.length), (11, .i .i64 st)], [(25, .arr 1 (x10.map row_I))]⟩) (Sum.elim (fun q e σ => e = .ret ∧ σ = ⟨[(4, .b false)], []⟩) (fun q e σ => e = .exit 4 ∧ σ = ⟨[(5, .b x5)], []⟩)) hl53 rfl ?_ ?_
                · rintro k44 o σ rfl h
                  replace h : F_law16_RankLeast_l12 x10 k44 = some o := h
                  unfold F_law16_RankLeast_l12 at h
                  refine AK.go tab_ok hC [.n 9] rfl trivial ?_
                  rcases bifE h with ⟨hc46, h⟩ | ⟨hc46, h⟩
                  · refine AK.go tab_ok hC [.br true, .n 5] rfl ⟨trivial, hc46⟩ ?_
                    obtain ⟨x47, hv48, h⟩ := bindE h
                    replace h : F_law16_RankLeast_k11 k44 x47 = some o := h
                    refine AK.meetX (fun σ => σ = ⟨[(5, .b x5), (7, .own 25 x10.length), (11, .i .i64 k44), (143, .b x47)], [(25, .arr 1 (x10.map row_I))]⟩) ?_ ?_
                    · replace h := hv48
                      unfold F_law16_RankLeast_g10 at h
                      obtain ⟨e49, he49, h⟩ := bindE h
                      refine AK.go tab_ok hC [.n 4, .o (.row (row_I e49)), .n 2] rfl ⟨⟨trivial, (idxOw he49 rfl)⟩, (mapGet (idxE he49).2)⟩ ?_
                      rcases bifE h with ⟨hc50, h⟩ | ⟨hc50, h⟩
                      · refine AK.go tab_ok hC [.say 135 (.b true), .n 9, .keep [5, 7, 11, 143] [25]] rfl ⟨trivial, (congrArg V.b hc50)⟩ ?_
                        obtain rfl := Option.some.inj h
                        exact AK.met rfl
                      · obtain ⟨e51, he51, h⟩ := bindE h
                        refine AK.go tab_ok hC [.say 135 (.b false), .n 3, .o (.row (row_I e51)), .n 5, .keep [5, 7, 11, 143] [25]] rfl ⟨⟨⟨trivial, (congrArg V.b hc50)⟩, (idxOw he51 rfl)⟩, (mapGet (idxE he51).2)⟩ ?_
                        obtain rfl := Option.some.inj h
                        exact AK.met rfl
                    · rintro σ rfl
                      replace h : F_law16_RankLeast_k11 k44 x47 = some o := h
                      unfold F_law16_RankLeast_k11 at h
                      refine AK.go tab_ok hC [.n 1] rfl trivial ?_
                      rcases bifE h with ⟨hc52, h⟩ | ⟨hc52, h⟩
                      · refine AK.go tab_ok hC [.br true, .n 8, .keep [4] []] rfl ⟨trivial, hc52⟩ ?_
                        obtain rfl := Option.some.inj h
                        exact rndR rfl (And.intro rfl rfl)
                      · refine AK.go tab_ok hC [.br false, .n 8, .keep [5, 7, 11] [25]] rfl ⟨trivial, hc52⟩ ?_
                        obtain rfl := Option.some.inj h
                        exact rndN rfl rfl
                  · refine AK.go tab_ok hC [.br false, .n 2, .keep [5] []] rfl ⟨trivial, hc46⟩ ?_
                    obtain rfl := Option.some.inj h
                    exact rndX rfl (And.intro rfl rfl)
                · rcases o53 with (_ | _)
                  · replace h : F_law16_RankLeast_c13 = some r := h
                    unfold F_law16_RankLeast_c13 at h
                    rintro e σ ⟨rfl, rfl⟩
                    refine AK.go tab_ok hC [.n 2, .keep [4] []] rfl trivial ?_
                    obtain rfl := Option.some.inj h
                    refine AK.done ?_
                    exact Exists.intro [_] (And.intro (And.intro rfl trivial) (gives trivial))
                  · replace h : F_law16_RankLeast_c14 x5 = some r := h
                    unfold F_law16_RankLeast_c14 at h
                    rintro e σ ⟨rfl, rfl⟩
                    refine AK.go tab_ok hC [.n 9, .keep [4] []] rfl trivial ?_
                    obtain rfl := Option.some.inj h
                    refine AK.done ?_
                    exact Exists.intro [_] (And.intro (And.intro rfl trivial) (gives trivial))

-- 6 baldric/baldriclaw16.RankMore
def F_law16_RankMore_k1 (x15 : (List Int)) (k20 : Int) (least24 : Int) : Option (Int ⊕ (Unit ⊕ Unit)) :=
  (idx x15 k20).bind fun e25 =>
  bif (e25 != least24) then
  some (.inr (.inl ()))
  else
  some (.inl (w64 (k20 + 1)))

def F_law16_RankMore_g2 (e23 : Int) (x16 : (List Int)) (k20 : Int) : Option Bool :=
  bif (decide (e23 < 0)) then
  some true
  else
  (idx x16 k20).bind fun e30 =>
  bif (decide (0 ≤ e30)) then
  (idx x16 k20).bind fun e32 =>
  some (decide (e32 < e23))
  else
  some false

def F_law16_RankMore_k3 (x16 : (List Int)) (k20 : Int) (x15 : (List Int)) (e23 : Int) (x27 : Bool) : Option (Int ⊕ (Unit ⊕ Unit)) :=
  bif x27 then
  (idx x16 k20).bind fun e34 =>
  F_law16_RankMore_k1 x15 k20 e34
  else
  F_law16_RankMore_k1 x15 k20 e23

def F_law16_RankMore_l4 (x12 : (List Int)) (x16 : (List Int)) (x15 : (List Int)) (k20 : Int) : Option (Int ⊕ (Unit ⊕ Unit)) :=
  bif (decide (k20 < (x12.length : Int))) then
  (idx x12 k20).bind fun e23 =>
  (F_law16_RankMore_g2 e23 x16 k20).bind (fun x27 => F_law16_RankMore_k3 x16 k20 x15 e23 x27)
  else
  some (.inr (.inr ()))

def F_law16_RankMore_c5 : Option Bool :=
  some false

def F_law16_RankMore_c6 (x6 : Bool) : Option Bool :=
  some x6

def F_law16_RankMore (s1 : TSpace) (goals2 : (List Int)) (more3 : (List Int)) : Option Bool :=
  (F_law16_small).bind fun x6 =>
  (F_law16_Few s1).bind fun x7 =>
  bif ((!x7) || ((decide (50 < (goals2.length : Int))) || (decide (50 < (more3.length : Int))))) then
  some x6
  else
  (F_rank_Far s1 goals2).bind fun x12 =>
  (chk (decide (([] : List Int).length + goals2.length ≤ 4294967296))).bind fun _ =>
  (chk (decide ((([] : List Int) ++ goals2).length + more3.length ≤ 4294967296))).bind fun _ =>
  (F_rank_Far s1 ((([] : List Int) ++ goals2) ++ more3)).bind fun x15 =>
  (F_rank_Far s1 more3).bind fun x16 =>
  bif (((x12.length : Int) != (x15.length : Int)) || ((x12.length : Int) != (x16.length : Int))) then
  some false
  else
  (loopM (fun st => F_law16_RankMore_l4 x12 x16 x15 st) 0).bind (Sum.elim (fun q => F_law16_RankMore_c5) (fun q => F_law16_RankMore_c6 x6))

set_option maxRecDepth 100000 in
set_option maxHeartbeats 4000000 in
theorem F_law16_RankMore_ok (s1 : TSpace) (goals2 : (List Int)) (more3 : (List Int)) {r : Bool} (h : F_law16_RankMore s1 goals2 more3 = some r) : ACalls Try.prog 6 [.agg (row_TSpace s1), .sl 1 (goals2.map row_I), .sl 1 (more3.map row_I)] [] (Gives (.b r) []) := by
  refine ACalls.walk 93 Try.func6 rfl Try.ntmps6 rfl fun C hC => ?_
  unfold F_law16_RankMore at h
  obtain ⟨x6, hx6, h⟩ := bindE h
  obtain ⟨x7, hx7, h⟩ := bindE h
  refine AK.go tab_ok hC [.n 8, .o (.c false [] (.b x6)), .n 5, .v .no [] (.agg (row_TSpace s1)), .o (.c false [.d] (.b x7)), .n 5] rfl ⟨⟨⟨trivial, (F_law16_small_ok  hx6)⟩, rfl⟩, (F_law16_Few_ok _ hx7)⟩ ?_
  refine AK.meetX (fun σ => σ = ⟨[(1, .sl 1 (goals2.map row_I)), (2, .sl 1 (more3.map row_I)), (3, .loc 3 0 0), (7, .b x6), (28, .b ((!x7) || ((decide (50 < (goals2.length : Int))) || (decide (50 < (more3.length : Int))))))], [(3, .var (row_TSpace s1))]⟩) ?_ ?_
  · refine AK.go tab_ok hC [.n 4] rfl trivial ?_
    rcases boolOr (!x7) with hc9 | hc9
    · refine AK.go tab_ok hC [.say 19 (.b true), .n 10, .say 28 (.b ((!x7) || ((decide (50 < (goals2.length : Int))) || (decide (50 < (more3.length : Int)))))), .keep [1, 2, 3, 7, 28] [3]] rfl ⟨⟨trivial, (congrArg V.b hc9)⟩, (congrArg V.b (orT hc9 rfl))⟩ ?_
      exact AK.met rfl
    · refine AK.go tab_ok hC [.say 19 (.b false), .n 1, .o (.ln goals2.length), .n 3] rfl ⟨⟨trivial, (congrArg V.b hc9)⟩, mapLen⟩ ?_
      rcases boolOr (decide (50 < (goals2.length : Int))) with hc10 | hc10
      · refine AK.go tab_ok hC [.say 24 (.b true), .n 5, .say 28 (.b ((!x7) || ((decide (50 < (goals2.length : Int))) || (decide (50 < (more3.length : Int)))))), .keep [1, 2, 3, 7, 28] [3]] rfl ⟨⟨trivial, (congrArg V.b hc10)⟩, (congrArg V.b (orF hc9 (orT hc10 rfl)))⟩ ?_
        exact AK.met rfl
      · refine AK.go tab_ok hC [.say 24 (.b false), .n 1, .o (.ln more3.length), .n 3, .say 28 (.b ((!x7) || ((decide (50 < (goals2.length : Int))) || (decide (50 < (more3.length : Int)))))), .keep [1, 2, 3, 7, 28] [3]] rfl ⟨⟨⟨trivial, (congrArg V.b hc10)⟩, mapLen⟩, (congrArg V.b (orF hc9 (orF hc10 rfl)))⟩ ?_
        exact AK.met rfl
  · rintro σ rfl
    refine AK.go tab_ok hC [.n 1] rfl trivial ?_
    rcases bifE h with ⟨hc11, h⟩ | ⟨hc11, h⟩
    · refine AK.go tab_ok hC [.br true, .n 8, .keep [6] []] rfl ⟨trivial, hc11⟩ ?_
      obtain rfl := Option.some.inj h
      refine AK.done ?_
      exact Exists.intro [_] (And.intro (And.intro rfl trivial) (gives trivial))
    · obtain ⟨x12, hx12, h⟩ := bindE h
      obtain ⟨_, hk13, h⟩ := bindE h
      replace hk13 := chkE hk13
      obtain ⟨_, hk14, h⟩ := bindE h
      replace hk14 := chkE hk14
      obtain ⟨x15, hx15, h⟩ := bindE h
      refine AK.go tab_ok hC [.br false, .n 4, .v .no [] (.agg (row_TSpace s1)), .n 1, .o (.co false [.d, .d] 1 (x12.map row_I) x12.length), .n 4, .keep [1, 2, 3, 7, 9] [3, 32]] rfl ⟨⟨⟨trivial, hc11⟩, rfl⟩, ⟨(F_rank_Far_ok _ _ hx12), mapLen, .inl rfl⟩⟩ ?_
      refine AK.draw2 tab_ok hC mixed [.a .no (some ([], .agg (row_TSpace s1))) true, .a .no none false, .a .no none false, .m (.app ((([] : List Int) ++ goals2).map row_I) (([] : List Int) ++ goals2).length), .a .no none true, .m (.app (((([] : List Int) ++ goals2) ++ more3).map row_I) ((([] : List Int) ++ goals2) ++ more3).length), .a (.co true [.d, .o (((([] : List Int) ++ goals2) ++ more3).map row_I)] 1 (x15.map row_I) x15.length) none false, .a .no none false] [1, 2, 3, 7, 9] [3, 32] [2, 3, 7, 9, 10] [3, 32, 39] rfl rfl rfl ⟨⟨⟨⟨trivial, rfl⟩, ⟨(mapLen (f := row_I) (l := ([] : List Int))), appLim hk13 mapLen, (mapApps (f := row_I) (l := ([] : List Int)) (m := goals2)), appLn (l := ([] : List Int)) mapLen⟩⟩, ⟨mapLen, appLim hk14 mapLen, mapApps, appLn mapLen⟩⟩, ⟨(viewMap rfl), ⟨(F_rank_Far_ok _ _ hx15), mapLen, .inr (scaRows_I _)⟩⟩⟩ rfl (by kernel_rfl) rfl rfl rfl ?_
      obtain ⟨x16, hx16, h⟩ := bindE h
      refine AK.go tab_ok hC [.n 3, .v .no [] (.agg (row_TSpace s1)), .n 1, .o (.co false [.d, .d] 1 (x16.map row_I) x16.length), .n 5] rfl ⟨⟨trivial, rfl⟩, ⟨(F_rank_Far_ok _ _ hx16), mapLen, .inl rfl⟩⟩ ?_
      refine AK.meetX (fun σ => σ = ⟨[(7, .b x6), (9, .own 32 x12.length), (10, .own 39 x15.length), (11, .own 42 x16.length), (54, .b (((x12.length : Int) != (x15.length : Int)) || ((x12.length : Int) != (x16.length : Int))))], [(32, .arr 1 (x12.map row_I)), (39, .arr 1 (x15.map row_I)), (42, .arr 1 (x16.map row_I))]⟩) ?_ ?_
      · refine AK.go tab_ok hC [.n 7] rfl trivial ?_
        rcases boolOr ((x12.length : Int) != (x15.length : Int)) with hc18 | hc18
        · refine AK.go tab_ok hC [.say 48 (.b true), .n 7, .say 54 (.b (((x12.length : Int) != (x15.length : Int)) || ((x12.length : Int) != (x16.length : Int)))), .keep [7, 9, 10, 11, 54] [32, 39, 42]] rfl ⟨⟨trivial, (congrArg V.b hc18)⟩, (congrArg V.b (orT hc18 rfl))⟩ ?_
          exact AK.met rfl
        · refine AK.go tab_ok hC [.say 48 (.b false), .n 7, .say 54 (.b (((x12.length : Int) != (x15.length : Int)) || ((x12.length : Int) != (x16.length : Int)))), .keep [7, 9, 10, 11, 54] [32, 39, 42]] rfl ⟨⟨trivial, (congrArg V.b hc18)⟩, (congrArg V.b (orF hc18 rfl))⟩ ?_
          exact AK.met rfl
      · rintro σ rfl
        refine AK.go tab_ok hC [.n 1] rfl trivial ?_
        rcases bifE h with ⟨hc19, h⟩ | ⟨hc19, h⟩
        · refine AK.go tab_ok hC [.br true, .n 7, .keep [6] []] rfl ⟨trivial, hc19⟩ ?_
          obtain rfl := Option.some.inj h
          refine AK.done ?_
          exact Exists.intro [_] (And.intro (And.intro rfl trivial) (gives trivial))
        · refine AK.go tab_ok hC [.br false, .n 9, .keep [7, 9, 10, 11, 12] [32, 39, 42]] rfl ⟨trivial, hc19⟩ ?_
          obtain ⟨o35, hl35, h⟩ := bindE h
          refine AK.loop (body := (fun st => F_law16_RankMore_l4 x12 x16 x15 st)) (fun st σ => σ = ⟨[(7, .b x6), (9, .own 32 x12.length), (10, .own 39 x15.length), (11, .own 42 x16.length), (12, .i .i64 st)], [(32, .arr 1 (x12.map row_I)), (39, .arr 1 (x15.map row_I)), (42, .arr 1 (x16.map row_I))]⟩) (Sum.elim (fun q e σ => e = .ret ∧ σ = ⟨[(6, .b false)], []⟩) (fun q e σ => e = .exit 0 ∧ σ = ⟨[(7, .b x6)], []⟩)) hl35 rfl ?_ ?_
          · rintro k20 o σ rfl h
            replace h : F_law16_RankMore_l4 x12 x16 x15 k20 = some o := h
            unfold F_law16_RankMore_l4 at h
            refine AK.go tab_ok hC [.n 9] rfl trivial ?_
            rcases bifE h with ⟨hc22, h⟩ | ⟨hc22, h⟩
            · obtain ⟨e23, he23, h⟩ := bindE h
              refine AK.go tab_ok hC [.br true, .n 9, .o (.row (row_I e23)), .n 3] rfl ⟨⟨⟨trivial, hc22⟩, (idxOw he23 rfl)⟩, (mapGet (idxE he23).2)⟩ ?_
              refine AK.meet (fun σ => ∃ least24 : Int, σ = ⟨[(7, .b x6), (9, .own 32 x12.length), (10, .own 39 x15.length), (11, .own 42 x16.length), (12, .i .i64 k20), (13, .i .i64 least24)], [(32, .arr 1 (x12.map row_I)), (39, .arr 1 (x15.map row_I)), (42, .arr 1 (x16.map row_I))]⟩ ∧ F_law16_RankMore_k1 x15 k20 least24 = some o) ?_ ?_
              · refine AK.go tab_ok hC [.n 1] rfl trivial ?_
                obtain ⟨x27, hv28, h⟩ := bindE h
                replace h : F_law16_RankMore_k3 x16 k20 x15 e23 x27 = some o := h
                refine AK.meetX (fun σ => σ = ⟨[(7, .b x6), (9, .own 32 x12.length), (10, .own 39 x15.length), (11, .own 42 x16.length), (12, .i .i64 k20), (13, .i .i64 e23), (81, .b x27)], [(32, .arr 1 (x12.map row_I)), (39, .arr 1 (x15.map row_I)), (42, .arr 1 (x16.map row_I))]⟩) ?_ ?_
                · replace h := hv28
                  unfold F_law16_RankMore_g2 at h
                  refine AK.go tab_ok hC [.n 4] rfl trivial ?_
                  rcases bifE h with ⟨hc29, h⟩ | ⟨hc29, h⟩
                  · refine AK.go tab_ok hC [.say 67 (.b true), .n 15, .keep [7, 9, 10, 11, 12, 13, 81] [32, 39, 42]] rfl ⟨trivial, (congrArg V.b hc29)⟩ ?_
                    obtain rfl := Option.some.inj h
                    exact AK.met rfl
                  · obtain ⟨e30, he30, h⟩ := bindE h
                    refine AK.go tab_ok hC [.say 67 (.b false), .n 3, .o (.row (row_I e30)), .n 2] rfl ⟨⟨⟨trivial, (congrArg V.b hc29)⟩, (idxOw he30 rfl)⟩, (mapGet (idxE he30).2)⟩ ?_
                    rcases bifE h with ⟨hc31, h⟩ | ⟨hc31, h⟩
                    · obtain ⟨e32, he32, h⟩ := bindE h
                      refine AK.go tab_ok hC [.say 73 (.b true), .n 3, .o (.row (row_I e32)), .n 5, .keep [7, 9, 10, 11, 12, 13, 81] [32, 39, 42]] rfl ⟨⟨⟨trivial, (congrArg V.b hc31)⟩, (idxOw he32 rfl)⟩, (mapGet (idxE he32).2)⟩ ?_
                      obtain rfl := Option.some.inj h
                      exact AK.met rfl
                    · refine AK.go tab_ok hC [.say 73 (.b false), .n 9, .keep [7, 9, 10, 11, 12, 13, 81] [32, 39, 42]] rfl ⟨trivial, (congrArg V.b hc31)⟩ ?_
                      obtain rfl := Option.some.inj h
                      exact AK.met rfl
                · rintro σ rfl
                  replace h : F_law16_RankMore_k3 x16 k20 x15 e23 x27 = some o := h
                  unfold F_law16_RankMore_k3 at h
                  refine AK.go tab_ok hC [.n 1] rfl trivial ?_
                  rcases bifE h with ⟨hc33, h⟩ | ⟨hc33, h⟩
                  · obtain ⟨e34, he34, h⟩ := bindE h
                    refine AK.go tab_ok hC [.br true, .n 4, .o (.row (row_I e34)), .n 2, .keep [7, 9, 10, 11, 12, 13] [32, 39, 42]] rfl ⟨⟨⟨trivial, hc33⟩, (idxOw he34 rfl)⟩, (mapGet (idxE he34).2)⟩ ?_
                    exact AK.met (Exists.intro _ (And.intro rfl h))
                  · refine AK.go tab_ok hC [.br false, .n 1, .keep [7, 9, 10, 11, 12, 13] [32, 39, 42]] rfl ⟨trivial, hc33⟩ ?_
                    exact AK.met (Exists.intro _ (And.intro rfl h))
              · rintro σ ⟨least24, rfl, h⟩
                unfold F_law16_RankMore_k1 at h
                obtain ⟨e25, he25, h⟩ := bindE h
                refine AK.go tab_ok hC [.n 5, .o (.row (row_I e25)), .n 4] rfl ⟨⟨trivial, (idxOw he25 rfl)⟩, (mapGet (idxE he25).2)⟩ ?_
                rcases bifE h with ⟨hc26, h⟩ | ⟨hc26, h⟩
                · refine AK.go tab_ok hC [.br true, .n 8, .keep [6] []] rfl ⟨trivial, hc26⟩ ?_
                  obtain rfl := Option.some.inj h
                  exact rndR rfl (And.intro rfl rfl)
                · refine AK.go tab_ok hC [.br false, .n 8, .keep [7, 9, 10, 11, 12] [32, 39, 42]] rfl ⟨trivial, hc26⟩ ?_
                  obtain rfl := Option.some.inj h
                  exact rndN rfl rfl
            · refine AK.go tab_ok hC [.br false, .n 2, .keep [7] []] rfl ⟨trivial, hc22⟩ ?_
              obtain rfl := Option.some.inj h
              exact rndX rfl (And.intro rfl rfl)
          · rcases o35 with (_ | _)
            · replace h : F_law16_RankMore_c5 = some r := h
              unfold F_law16_RankMore_c5 at h
              rintro e σ ⟨rfl, rfl⟩
              refine AK.go tab_ok hC [.n 2, .keep [6] []] rfl trivial ?_
              obtain rfl := Option.some.inj h
              refine AK.done ?_
              exact Exists.intro [_] (And.intro (And.intro rfl trivial) (gives trivial))
            · replace h : F_law16_RankMore_c6 x6 = some r := h
              unfold F_law16_RankMore_c6 at h
              rintro e σ ⟨rfl, rfl⟩
              refine AK.go tab_ok hC [.n 9, .keep [6] []] rfl trivial ?_
              obtain rfl := Option.some.inj h
              refine AK.done ?_
              exact Exists.intro [_] (And.intro (And.intro rfl trivial) (gives trivial))

-- 49 baldric/space.far$1
def F_space_far_1 (k1 : Int) (v2 : TSpace) : Option Bool :=
  some ((decide (0 ≤ k1)) && (decide (k1 < (v2.States.length : Int))))

set_option maxRecDepth 100000 in
set_option maxHeartbeats 4000000 in
theorem F_space_far_1_ok (k1 : Int) (v2 : TSpace) {r : Bool} (h : F_space_far_1 k1 v2 = some r) : ACalls Try.prog 49 [.i .i64 k1, .loc 200000 0 0] [(200000, .var (row_TSpace v2))] (Gives (.b r) [(200000, .var (row_TSpace v2))]) := by
  refine ACalls.walk 13 Try.func49 rfl Try.ntmps49 rfl fun C hC => ?_
  unfold F_space_far_1 at h
  refine AK.go tab_ok hC [.n 6] rfl trivial ?_
  refine AK.meetX (fun σ => σ = ⟨[(3, .b ((decide (0 ≤ k1)) && (decide (k1 < (v2.States.length : Int)))))], [(200000, .var (row_TSpace v2))]⟩) ?_ ?_
  · refine AK.go tab_ok hC [.n 4] rfl trivial ?_
    rcases boolOr (decide (0 ≤ k1)) with hc5 | hc5
    · refine AK.go tab_ok hC [.say 6 (.b true), .n 3, .o (.ln v2.States.length), .n 4, .say 3 (.b ((decide (0 ≤ k1)) && (decide (k1 < (v2.States.length : Int))))), .keep [3] [200000]] rfl ⟨⟨⟨trivial, (congrArg V.b hc5)⟩, mapLen⟩, (congrArg V.b (andT hc5 rfl))⟩ ?_
      exact AK.met rfl
    · refine AK.go tab_ok hC [.say 6 (.b false), .n 8, .say 3 (.b ((decide (0 ≤ k1)) && (decide (k1 < (v2.States.length : Int))))), .keep [3] [200000]] rfl ⟨⟨trivial, (congrArg V.b hc5)⟩, (congrArg V.b (andF hc5 rfl))⟩ ?_
      exact AK.met rfl
  · rintro σ rfl
    refine AK.go tab_ok hC [.n 2, .keep [3] [200000]] rfl trivial ?_
    obtain rfl := Option.some.inj h
    refine AK.done ?_
    exact Exists.intro [_] (And.intro (And.intro rfl trivial) (gives ⟨rfl, trivial⟩))

-- 39 baldric/space.far
def F_space_far_k1 (x8 : Int) (m14 : (List (Int × (List Int)))) : Option ((Int × (List (Int × (List Int)))) ⊕ (List (Int × (List Int)))) :=
  some (.inl ((w64 (x8 + 1)), m14))

def F_space_far_g2 (e15 : TEdge) (s1 : TSpace) : Option Bool :=
  (F_space_far_1 e15.From s1).bind fun x18 =>
  bif x18 then
  (F_space_far_1 e15.To s1).bind fun x20 =>
  some x20
  else
  some false

def F_space_far_k3 (m9 : (List (Int × (List Int)))) (e15 : TEdge) (x8 : Int) (x16 : Bool) : Option ((Int × (List (Int × (List Int)))) ⊕ (List (Int × (List Int)))) :=
  bif x16 then
  (chk (decide (((mget m9 e15.To).getD []).length + ([e15.From] : List Int).length ≤ 4294967296))).bind fun _ =>
  F_space_far_k1 x8 (mset ltI m9 e15.To (((mget m9 e15.To).getD []) ++ [e15.From]))
  else
  F_space_far_k1 x8 m9

def F_space_far_l4 (s1 : TSpace) (x8 : Int) (m9 : (List (Int × (List Int)))) : Option ((Int × (List (Int × (List Int)))) ⊕ (List (Int × (List Int)))) :=
  bif (decide (x8 < (s1.Edges.length : Int))) then
  (idx s1.Edges x8).bind fun e15 =>
  (F_space_far_g2 e15 s1).bind (fun x16 => F_space_far_k3 m9 e15 x8 x16)
  else
  some (.inr m9)

def F_space_far_k5 (x32 : Int) (m41 : (List (Int × Int))) (l42 : (List Int)) : Option ((Int × (List (Int × Int)) × (List Int)) ⊕ ((List (Int × Int)) × (List Int))) :=
  some (.inl ((w64 (x32 + 1)), m41, l42))

def F_space_far_l6 (m12 : (List (Int × (List Int)))) (e30 : Int) (x32 : Int) (m33 : (List (Int × Int))) (l34 : (List Int)) : Option ((Int × (List (Int × Int)) × (List Int)) ⊕ ((List (Int × Int)) × (List Int))) :=
  bif (decide (x32 < (((mget m12 e30).getD ([] : (List Int))).length : Int))) then
  (idx ((mget m12 e30).getD ([] : (List Int))) x32).bind fun e43 =>
  bif (!(mget m33 e43).isSome) then
  (idx l34 0).bind fun e45 =>
  (chk (decide (l34.length + ([e43] : List Int).length ≤ 4294967296))).bind fun _ =>
  F_space_far_k5 x32 (mset ltI m33 e43 (w64 (((mget m33 e45).getD 0) + 1))) (l34 ++ ([e43] : List Int))
  else
  F_space_far_k5 x32 m33 l34
  else
  some (.inr (m33, l34))

def F_space_far_c7 (m38 : (List (Int × Int))) (l39 : (List Int)) : Option (((List (Int × Int)) × (List Int)) ⊕ (List (Int × Int))) :=
  (chk (decide (0 ≤ 1) && decide (1 ≤ l39.length))).bind fun _ =>
  some (.inl (m38, (l39.drop 1)))

def F_space_far_l8 (m12 : (List (Int × (List Int)))) (m24 : (List (Int × Int))) (l25 : (List Int)) : Option (((List (Int × Int)) × (List Int)) ⊕ (List (Int × Int))) :=
  bif (decide (0 < (l25.length : Int))) then
  (idx l25 0).bind fun e30 =>
  (loopM (fun st => F_space_far_l6 m12 e30 st.1 st.2.1 st.2.2) (0, m24, l25)).bind (fun q => F_space_far_c7 q.1 q.2)
  else
  some (.inr m24)

def F_space_far_c9 (m28 : (List (Int × Int))) : Option (List (Int × Int)) :=
  some m28

def F_space_far_c10 (k2 : Int) (m12 : (List (Int × (List Int)))) : Option (List (Int × Int)) :=
  (loopM (fun st => F_space_far_l8 m12 st.1 st.2) ((mset ltI ([] : (List (Int × Int))) k2 0), ([k2] : List Int))).bind (fun q => F_space_far_c9 q)

def F_space_far (s1 : TSpace) (k2 : Int) : Option (List (Int × Int)) :=
  (F_space_far_1 k2 s1).bind fun x5 =>
  bif (!x5) then
  some ([] : (List (Int × Int)))
  else
  (loopM (fun st => F_space_far_l4 s1 st.1 st.2) (0, ([] : (List (Int × (List Int)))))).bind (fun q => F_space_far_c10 k2 q)

set_option maxRecDepth 100000 in
set_option maxHeartbeats 4000000 in
theorem F_space_far_ok (s1 : TSpace) (k2 : Int) {r : (List (Int × Int))} (h : F_space_far s1 k2 = some r) : ACalls Try.prog 39 [.agg (row_TSpace s1), .i .i64 k2] [] (Gives (.map 30004) [(30004, .map (mapV (V.i .i64) (V.i .i64) r))]) := by
  refine ACalls.walk 93 Try.func39 rfl Try.ntmps39 rfl fun C hC => ?_
  unfold F_space_far at h
  obtain ⟨x5, hx5, h⟩ := bindE h
  refine AK.go tab_ok hC [.n 15, .sayO 16 (.map (mapV (V.i .i64) (V.i .i64) ([] : (List (Int × Int))))), .n 8, .cm (.clo) [(200000, 2)] [(2, 200000)] [] [.d, .d] [(200000, .var (row_TSpace s1))] (.b x5), .n 3] rfl ⟨⟨trivial, rfl⟩, (F_space_far_1_ok _ _ hx5)⟩ ?_
  rcases bifE h with ⟨hc6, h⟩ | ⟨hc6, h⟩
  · refine AK.go tab_ok hC [.br true, .n 8, .keep [4] [16], .ren 16 30004, .keep [4] [30004]] rfl ⟨trivial, hc6⟩ ?_
    obtain rfl := Option.some.inj h
    refine AK.done ?_
    exact Exists.intro [_] (And.intro (And.intro rfl trivial) (gives ⟨rfl, trivial⟩))
  · refine AK.go tab_ok hC [.br false, .n 4, .x (fun σ => (σ.set 22 (.grp 1 [] none)).put 22 (.map 22)), .sayO 22 (.grp 1 (grpT (V.i .i64) row_I ([] : (List (Int × (List Int))))) none), .n 8, .o (.ln s1.Edges.length), .n 4, .keep [1, 5, 6, 7, 24, 25, 26] [2, 16, 22]] rfl ⟨⟨⟨⟨trivial, hc6⟩, (Stp.makeGrp 1 rfl rfl (hC ▸ rfl) rfl)⟩, rfl⟩, mapLen⟩ ?_
    obtain ⟨m12, hl23, h⟩ := bindE h
    refine AK.loop (body := (fun st => F_space_far_l4 s1 st.1 st.2)) (fun st σ => σ = ⟨[(1, .i .i64 k2), (5, .clo (.func 49) [] [.loc 2 0 0]), (6, .map 16), (7, .map 22), (24, .sl 6 (s1.Edges.map row_TEdge)), (25, .i .i64 (s1.Edges.length : Int)), (26, .i .i64 st.1)], [(2, .var (row_TSpace s1)), (16, .map (mapV (V.i .i64) (V.i .i64) ([] : (List (Int × Int))))), (22, .grp 1 (grpT (V.i .i64) row_I st.2) none)]⟩) (fun q e σ => e = .exit 0 ∧ σ = ⟨[(1, .i .i64 k2), (6, .map 16), (7, .map 22)], [(16, .map (mapV (V.i .i64) (V.i .i64) ([] : (List (Int × Int))))), (22, .grp 1 (grpT (V.i .i64) row_I q) none)]⟩) hl23 rfl ?_ ?_
    · rintro ⟨x8, m9⟩ o σ rfl h
      replace h : F_space_far_l4 s1 x8 m9 = some o := h
      unfold F_space_far_l4 at h
      refine AK.go tab_ok hC [.n 6] rfl trivial ?_
      rcases bifE h with ⟨hc13, h⟩ | ⟨hc13, h⟩
      · refine AK.go tab_ok hC [.br true, .n 2] rfl ⟨trivial, hc13⟩ ?_
        refine AK.meet (fun σ => ∃ m14 : (List (Int × (List Int))), σ = ⟨[(1, .i .i64 k2), (5, .clo (.func 49) [] [.loc 2 0 0]), (6, .map 16), (7, .map 22), (24, .sl 6 (s1.Edges.map row_TEdge)), (25, .i .i64 (s1.Edges.length : Int)), (26, .i .i64 x8)], [(2, .var (row_TSpace s1)), (16, .map (mapV (V.i .i64) (V.i .i64) ([] : (List (Int × Int))))), (22, .grp 1 (grpT (V.i .i64) row_I m14) none)]⟩ ∧ F_space_far_k1 x8 m14 = some o) ?_ ?_
        · obtain ⟨e15, he15, h⟩ := bindE h
          refine AK.go tab_ok hC [.n 3, .o (.row (row_TEdge e15)), .v .no [] (.agg (row_TEdge e15)), .n 2, .sayO 9 (.var (row_TEdge e15)), .n 3] rfl ⟨⟨⟨trivial, (idxM he15)⟩, rfl⟩, rfl⟩ ?_
          obtain ⟨x16, hv17, h⟩ := bindE h
          replace h : F_space_far_k3 m9 e15 x8 x16 = some o := h
          refine AK.meetX (fun σ => σ = ⟨[(1, .i .i64 k2), (5, .clo (.func 49) [] [.loc 2 0 0]), (6, .map 16), (7, .map 22), (9, .loc 9 0 0), (24, .sl 6 (s1.Edges.map row_TEdge)), (25, .i .i64 (s1.Edges.length : Int)), (26, .i .i64 x8), (39, .b x16)], [(2, .var (row_TSpace s1)), (9, .var (row_TEdge e15)), (16, .map (mapV (V.i .i64) (V.i .i64) ([] : (List (Int × Int))))), (22, .grp 1 (grpT (V.i .i64) row_I m9) none)]⟩) ?_ ?_
          · replace h := hv17
            unfold F_space_far_g2 at h
            obtain ⟨x18, hx18, h⟩ := bindE h
            refine AK.go tab_ok hC [.n 4, .cm (.clo) [(200000, 2)] [(2, 200000)] [] [.d, .d] [(200000, .var (row_TSpace s1))] (.b x18), .n 1] rfl ⟨trivial, (F_space_far_1_ok _ _ hx18)⟩ ?_
            rcases bifE h with ⟨hc19, h⟩ | ⟨hc19, h⟩
            · obtain ⟨x20, hx20, h⟩ := bindE h
              refine AK.go tab_ok hC [.say 34 (.b true), .n 3, .cm (.clo) [(200000, 2)] [(2, 200000)] [] [.d, .d] [(200000, .var (row_TSpace s1))] (.b x20), .n 2, .keep [1, 5, 6, 7, 9, 24, 25, 26, 39] [2, 9, 16, 22]] rfl ⟨⟨trivial, (congrArg V.b hc19)⟩, (F_space_far_1_ok _ _ hx20)⟩ ?_
              obtain rfl := Option.some.inj h
              exact AK.met rfl
            · refine AK.go tab_ok hC [.say 34 (.b false), .n 6, .keep [1, 5, 6, 7, 9, 24, 25, 26, 39] [2, 9, 16, 22]] rfl ⟨trivial, (congrArg V.b hc19)⟩ ?_
              obtain rfl := Option.some.inj h
              exact AK.met rfl
          · rintro σ rfl
            replace h : F_space_far_k3 m9 e15 x8 x16 = some o := h
            unfold F_space_far_k3 at h
            refine AK.go tab_ok hC [.n 1] rfl trivial ?_
            rcases bifE h with ⟨hc21, h⟩ | ⟨hc21, h⟩
            · obtain ⟨_, hk22, h⟩ := bindE h
              replace hk22 := chkE hk22
              refine AK.go tab_ok hC [.br true, .keep [1, 5, 6, 7, 9, 24, 25, 26] [2, 9, 16, 22]] rfl ⟨trivial, hc21⟩ ?_
              refine AK.draw2 tab_ok hC mixed [.a .no none true, .a .no none true, .a .no none true, .a .no none false, .a .no none false, .a .no none false, .m (.any ⟨[46], [(46, .arr 1 (((mget m9 e15.To).getD []).map row_I)), (22, .grp 1 (grpT (V.i .i64) row_I m9) (some ((V.i .i64) e15.To)))], some (46, .own 46 ((mget m9 e15.To).getD []).length)⟩), .a .no none true, .a .no none true, .a (.bd []) (some ([], .sl 1 (([e15.From] : List Int).map row_I))) true, .m (.app ((((mget m9 e15.To).getD []) ++ [e15.From]).map row_I) (((mget m9 e15.To).getD []) ++ [e15.From]).length), .m (.any ⟨[46], [(22, .grp 1 (grpT (V.i .i64) row_I (mset ltI m9 e15.To (((mget m9 e15.To).getD []) ++ [e15.From]))) none)], none⟩)] [1, 5, 6, 7, 9, 24, 25, 26] [2, 9, 16] [1, 5, 6, 7, 24, 25, 26] [2, 16, 22] rfl rfl rfl ⟨⟨⟨⟨trivial, (fun σ h1 h2 => Stp.lookupOutT (e := (V.i .i64)) (f := row_I) (l := m9) (k := e15.To) rfl rfl (hC ▸ rfl) (h1 _ _ rfl) (h2 _ _ rfl) (h1 _ _ rfl) mt_59 ky_3 nz_31 rfl rfl rfl rfl rfl)⟩, rfl⟩, ⟨mapLen, appLim hk22 mapLen, mapApps, appLn mapLen⟩⟩, (fun σ h1 h2 => Stp.updateBackT (e := (V.i .i64)) (f := row_I) (l := m9) (k := e15.To) (((mget m9 e15.To).getD []) ++ [e15.From]) ltI rfl rfl (h1 _ _ rfl) (h2 _ _ rfl) (h1 _ _ rfl) (h1 _ _ rfl) (h2 _ _ rfl) mt_59 ky_3 rfl rfl rfl rfl rfl (by simp))⟩ rfl (by kernel_rfl) rfl rfl rfl ?_
              refine AK.go tab_ok hC [.n 1, .keep [1, 5, 6, 7, 24, 25, 26] [2, 16, 22]] rfl trivial ?_
              exact AK.met (Exists.intro _ (And.intro rfl h))
            · refine AK.go tab_ok hC [.br false, .n 2, .keep [1, 5, 6, 7, 24, 25, 26] [2, 16, 22]] rfl ⟨trivial, hc21⟩ ?_
              exact AK.met (Exists.intro _ (And.intro rfl h))
        · rintro σ ⟨m14, rfl, h⟩
          unfold F_space_far_k1 at h
          refine AK.go tab_ok hC [.n 4, .keep [1, 5, 6, 7, 24, 25, 26] [2, 16, 22]] rfl trivial ?_
          obtain rfl := Option.some.inj h
          exact rndN rfl rfl
      · refine AK.go tab_ok hC [.br false, .n 2, .keep [1, 6, 7] [16, 22]] rfl ⟨trivial, hc13⟩ ?_
        obtain rfl := Option.some.inj h
        exact rndX rfl (And.intro rfl rfl)
    · replace h : F_space_far_c10 k2 m12 = some r := h
      unfold F_space_far_c10 at h
      rintro e σ ⟨rfl, rfl⟩
      refine AK.go tab_ok hC [.n 6, .x (fun σ => σ.set 16 (.map (mapV (V.i .i64) (V.i .i64) (mset ltI ([] : (List (Int × Int))) k2 0)))), .n 7, .sayO 55 (.arr 1 (([k2] : List Int).map row_I)), .say 55 (.own 55 ([k2] : List Int).length), .n 4] rfl ⟨⟨⟨trivial, (Stp.mapUpdate (e := (V.i .i64)) (f := (V.i .i64)) (l := ([] : (List (Int × Int)))) (k := k2) (v := 0) ltI rfl rfl rfl rfl rfl rfl mt_72 ky_3 rfl)⟩, rfl⟩, rfl⟩ ?_
      refine AK.grpMap (b := 22) (e := (V.i .i64)) (f := row_I) (l := m12) ky_3 rfl rfl ?_
      refine AK.go tab_ok hC [.sayO 22 (.map (mapV (V.i .i64) (fun x => V.sl 1 (x.map row_I)) m12)), .keep [6, 7, 10] [16, 22, 55]] rfl ⟨trivial, rfl⟩ ?_
      obtain ⟨m28, hl49, h⟩ := bindE h
      refine AK.loop (body := (fun st => F_space_far_l8 m12 st.1 st.2)) (fun st σ => σ = ⟨[(6, .map 16), (7, .map 22), (10, .own 55 st.2.length)], [(16, .map (mapV (V.i .i64) (V.i .i64) st.1)), (22, .map (mapV (V.i .i64) (fun x => V.sl 1 (x.map row_I)) m12)), (55, .arr 1 (st.2.map row_I))]⟩) (fun q e σ => e = .exit 2 ∧ σ = ⟨[(6, .map 16)], [(16, .map (mapV (V.i .i64) (V.i .i64) q))]⟩) hl49 rfl ?_ ?_
      · rintro ⟨m24, l25⟩ o σ rfl h
        replace h : F_space_far_l8 m12 m24 l25 = some o := h
        unfold F_space_far_l8 at h
        refine AK.go tab_ok hC [.n 8] rfl trivial ?_
        rcases bifE h with ⟨hc29, h⟩ | ⟨hc29, h⟩
        · obtain ⟨e30, he30, h⟩ := bindE h
          refine AK.go tab_ok hC [.br true, .n 9, .o (.row (row_I e30)), .o (.any (.sl 1 (((mget m12 e30).getD ([] : (List Int))).map row_I)) none), .o (.ln ((mget m12 e30).getD ([] : (List Int))).length), .n 4, .keep [6, 7, 10, 65, 66, 67] [16, 22, 55]] rfl ⟨⟨⟨⟨⟨trivial, hc29⟩, (idxOw he30 rfl)⟩, (mapGet (idxE he30).2)⟩, (fun σ h1 h2 _ => Stp.lookup (e := (V.i .i64)) (f := (fun x => V.sl 1 (x.map row_I))) (l := m12) (k := e30) (z := ([] : (List Int))) rfl rfl (hC ▸ rfl) (h1 _ _ rfl) (h2 _ _ rfl) (h1 _ _ rfl) mt_59 ky_3 zi_31 rfl)⟩, mapLen⟩ ?_
          obtain ⟨o47, hl47, h⟩ := bindE h
          refine AK.loop (body := (fun st => F_space_far_l6 m12 e30 st.1 st.2.1 st.2.2)) (fun st σ => σ = ⟨[(6, .map 16), (7, .map 22), (10, .own 55 st.2.2.length), (65, .sl 1 (((mget m12 e30).getD ([] : (List Int))).map row_I)), (66, .i .i64 (((mget m12 e30).getD ([] : (List Int))).length : Int)), (67, .i .i64 st.1)], [(16, .map (mapV (V.i .i64) (V.i .i64) st.2.1)), (22, .map (mapV (V.i .i64) (fun x => V.sl 1 (x.map row_I)) m12)), (55, .arr 1 (st.2.2.map row_I))]⟩) (fun q e σ => e = .exit 4 ∧ σ = ⟨[(6, .map 16), (7, .map 22), (10, .own 55 q.2.length)], [(16, .map (mapV (V.i .i64) (V.i .i64) q.1)), (22, .map (mapV (V.i .i64) (fun x => V.sl 1 (x.map row_I)) m12)), (55, .arr 1 (q.2.map row_I))]⟩) hl47 rfl ?_ ?_
          · rintro ⟨x32, m33, l34⟩ o σ rfl h
            replace h : F_space_far_l6 m12 e30 x32 m33 l34 = some o := h
            unfold F_space_far_l6 at h
            refine AK.go tab_ok hC [.n 6] rfl trivial ?_
            rcases bifE h with ⟨hc40, h⟩ | ⟨hc40, h⟩
            · refine AK.go tab_ok hC [.br true, .n 2] rfl ⟨trivial, hc40⟩ ?_
              refine AK.meet (fun σ => ∃ m41 : (List (Int × Int)), ∃ l42 : (List Int), σ = ⟨[(6, .map 16), (7, .map 22), (10, .own 55 l42.length), (65, .sl 1 (((mget m12 e30).getD ([] : (List Int))).map row_I)), (66, .i .i64 (((mget m12 e30).getD ([] : (List Int))).length : Int)), (67, .i .i64 x32)], [(16, .map (mapV (V.i .i64) (V.i .i64) m41)), (22, .map (mapV (V.i .i64) (fun x => V.sl 1 (x.map row_I)) m12)), (55, .arr 1 (l42.map row_I))]⟩ ∧ F_space_far_k5 x32 m41 l42 = some o) ?_ ?_
              · obtain ⟨e43, he43, h⟩ := bindE h
                refine AK.go tab_ok hC [.n 3, .o (.row (row_I e43)), .n 8, .o (.any (.tup [.i .i64 ((mget m33 e43).getD 0), .b (mget m33 e43).isSome]) none), .n 13] rfl ⟨⟨trivial, (idxM he43)⟩, (fun σ h1 h2 _ => Stp.lookupOk (e := (V.i .i64)) (f := (V.i .i64)) (l := m33) (k := e43) (z := 0) rfl rfl (hC ▸ rfl) (h1 _ _ rfl) (h2 _ _ rfl) (h1 _ _ rfl) mt_72 ky_3 zi_3 rfl rfl)⟩ ?_
                rcases bifE h with ⟨hc44, h⟩ | ⟨hc44, h⟩
                · obtain ⟨e45, he45, h⟩ := bindE h
                  obtain ⟨_, hk46, h⟩ := bindE h
                  replace hk46 := chkE hk46
                  refine AK.go tab_ok hC [.br true, .n 7, .o (.row (row_I e45)), .o (.any (.i .i64 ((mget m33 e45).getD 0)) none), .n 1, .x (fun σ => σ.set 16 (.map (mapV (V.i .i64) (V.i .i64) (mset ltI m33 e43 (w64 (((mget m33 e45).getD 0) + 1)))))), .n 5, .v (.bd []) [] (.sl 1 (([e43] : List Int).map row_I)), .app ((l34 ++ ([e43] : List Int)).map row_I) (l34 ++ ([e43] : List Int)).length, .n 3, .keep [6, 7, 10, 65, 66, 67] [16, 22, 55]] rfl ⟨⟨⟨⟨⟨⟨⟨trivial, hc44⟩, (idxOw he45 rfl)⟩, (mapGet (idxE he45).2)⟩, (fun σ h1 h2 _ => Stp.lookup (e := (V.i .i64)) (f := (V.i .i64)) (l := m33) (k := e45) (z := 0) rfl rfl (hC ▸ rfl) (h1 _ _ rfl) (h2 _ _ rfl) (h1 _ _ rfl) mt_72 ky_3 zi_3 rfl)⟩, (Stp.mapUpdate (e := (V.i .i64)) (f := (V.i .i64)) (l := m33) (k := e43) (v := (w64 (((mget m33 e45).getD 0) + 1))) ltI rfl rfl rfl rfl rfl rfl mt_72 ky_3 rfl)⟩, rfl⟩, ⟨mapLen, appLim hk46 mapLen, mapApps, appLn mapLen⟩⟩ ?_
                  exact AK.met (Exists.intro _ (Exists.intro _ (And.intro rfl h)))
                · refine AK.go tab_ok hC [.br false, .n 2, .keep [6, 7, 10, 65, 66, 67] [16, 22, 55]] rfl ⟨trivial, hc44⟩ ?_
                  exact AK.met (Exists.intro _ (Exists.intro _ (And.intro rfl h)))
              · rintro σ ⟨m41, l42, rfl, h⟩
                unfold F_space_far_k5 at h
                refine AK.go tab_ok hC [.n 4, .keep [6, 7, 10, 65, 66, 67] [16, 22, 55]] rfl trivial ?_
                obtain rfl := Option.some.inj h
                exact rndN rfl rfl
            · refine AK.go tab_ok hC [.br false, .n 2, .keep [6, 7, 10] [16, 22, 55]] rfl ⟨trivial, hc40⟩ ?_
              obtain rfl := Option.some.inj h
              exact rndX rfl (And.intro rfl rfl)
          · obtain ⟨m38, l39⟩ := o47
            replace h : F_space_far_c7 m38 l39 = some o := h
            unfold F_space_far_c7 at h
            rintro e σ ⟨rfl, rfl⟩
            obtain ⟨_, hk48, h⟩ := bindE h
            replace hk48 := chkE hk48
            refine AK.go tab_ok hC [.n 5, .x (fun σ => σ.app 55 1 60 (l39.drop 1).length ((l39.drop 1).map row_I)), .n 2, .keep [6, 7, 10] [16, 22, 55]] rfl ⟨trivial, (Stp.sliceT rfl rfl (hC ▸ rfl) rfl rfl rfl (tab_ok.es rfl) (Bnd.val rfl (of_decide_eq_true (and2_0 hk48)) rfl) (Bnd.none_ rfl) (le_of_dec (and2_1 hk48)) (Nat.le_refl _) dropA dropL)⟩ ?_
            obtain rfl := Option.some.inj h
            exact rndN rfl rfl
        · refine AK.go tab_ok hC [.br false, .n 2, .keep [6] [16]] rfl ⟨trivial, hc29⟩ ?_
          obtain rfl := Option.some.inj h
          exact rndX rfl (And.intro rfl rfl)
      · replace h : F_space_far_c9 m28 = some r := h
        unfold F_space_far_c9 at h
        rintro e σ ⟨rfl, rfl⟩
        refine AK.go tab_ok hC [.n 9, .keep [4] [16], .ren 16 30004, .keep [4] [30004]] rfl trivial ?_
        obtain rfl := Option.some.inj h
        refine AK.done ?_
        exact Exists.intro [_] (And.intro (And.intro rfl trivial) (gives ⟨rfl, trivial⟩))

-- 41 baldric/space.Out
def F_space_Out_k1 (x5 : Int) (l11 : (List Int)) : Option ((Int × (List Int)) ⊕ (List Int)) :=
  some (.inl ((w64 (x5 + 1)), l11))

def F_space_Out_l2 (s1 : TSpace) (k2 : Int) (x5 : Int) (l6 : (List Int)) : Option ((Int × (List Int)) ⊕ (List Int)) :=
  bif (decide (x5 < (s1.Edges.length : Int))) then
  (idx s1.Edges x5).bind fun e12 =>
  bif (e12.From == k2) then
  (chk (decide (l6.length + ([x5] : List Int).length ≤ 4294967296))).bind fun _ =>
  F_space_Out_k1 x5 (l6 ++ ([x5] : List Int))
  else
  F_space_Out_k1 x5 l6
  else
  some (.inr l6)

def F_space_Out_c3 (l9 : (List Int)) : Option (List Int) :=
  some l9

def F_space_Out (s1 : TSpace) (k2 : Int) : Option (List Int) :=
  (loopM (fun st => F_space_Out_l2 s1 k2 st.1 st.2) (0, ([] : List Int))).bind (fun q => F_space_Out_c3 q)

set_option maxRecDepth 100000 in
set_option maxHeartbeats 4000000 in
theorem F_space_Out_ok (s1 : TSpace) (k2 : Int) {r : (List Int)} (h : F_space_Out s1 k2 = some r) : ACalls Try.prog 41 [.agg (row_TSpace s1), .i .i64 k2] [] (Gives (.own 30000 r.length) [(30000, .arr 1 (r.map row_I))]) := by
  refine ACalls.walk 26 Try.func41 rfl Try.ntmps41 rfl fun C hC => ?_
  unfold F_space_Out at h
  refine AK.go tab_ok hC [.n 16, .o (.ln s1.Edges.length), .n 4, .adopt 5 20 1, .sayO 20 (.arr 1 (([] : List Int).map row_I)), .say 5 (.own 20 ([] : List Int).length), .keep [1, 5, 9, 10, 11] [20]] rfl ⟨⟨⟨trivial, mapLen⟩, rfl⟩, (congrArg (fun n => V.own 20 n) (by simp))⟩ ?_
  obtain ⟨l9, hl15, h⟩ := bindE h
  refine AK.loop (body := (fun st => F_space_Out_l2 s1 k2 st.1 st.2)) (fun st σ => σ = ⟨[(1, .i .i64 k2), (5, .own 20 st.2.length), (9, .sl 6 (s1.Edges.map row_TEdge)), (10, .i .i64 (s1.Edges.length : Int)), (11, .i .i64 st.1)], [(20, .arr 1 (st.2.map row_I))]⟩) (fun q e σ => e = .exit 0 ∧ σ = ⟨[(5, .own 20 q.length)], [(20, .arr 1 (q.map row_I))]⟩) hl15 rfl ?_ ?_
  · rintro ⟨x5, l6⟩ o σ rfl h
    replace h : F_space_Out_l2 s1 k2 x5 l6 = some o := h
    unfold F_space_Out_l2 at h
    refine AK.go tab_ok hC [.n 6] rfl trivial ?_
    rcases bifE h with ⟨hc10, h⟩ | ⟨hc10, h⟩
    · refine AK.go tab_ok hC [.br true, .n 2] rfl ⟨trivial, hc10⟩ ?_
      refine AK.meet (fun σ => ∃ l11 : (List Int), σ = ⟨[(1, .i .i64 k2), (5, .own 20 l11.length), (9, .sl 6 (s1.Edges.map row_TEdge)), (10, .i .i64 (s1.Edges.length : Int)), (11, .i .i64 x5)], [(20, .arr 1 (l11.map row_I))]⟩ ∧ F_space_Out_k1 x5 l11 = some o) ?_ ?_
      · obtain ⟨e12, he12, h⟩ := bindE h
        refine AK.go tab_ok hC [.n 4, .o (.row (row_TEdge e12)), .v .no [] (.agg (row_TEdge e12)), .n 3, .sayO 7 (.var (row_TEdge e12)), .n 10] rfl ⟨⟨⟨trivial, (idxM he12)⟩, rfl⟩, rfl⟩ ?_
        rcases bifE h with ⟨hc13, h⟩ | ⟨hc13, h⟩
        · obtain ⟨_, hk14, h⟩ := bindE h
          replace hk14 := chkE hk14
          refine AK.go tab_ok hC [.br true, .n 3, .v (.bd []) [] (.sl 1 (([x5] : List Int).map row_I)), .app ((l6 ++ ([x5] : List Int)).map row_I) (l6 ++ ([x5] : List Int)).length, .n 3, .keep [1, 5, 9, 10, 11] [20]] rfl ⟨⟨⟨trivial, hc13⟩, rfl⟩, ⟨mapLen, appLim hk14 mapLen, mapApps, appLn mapLen⟩⟩ ?_
          exact AK.met (Exists.intro _ (And.intro rfl h))
        · refine AK.go tab_ok hC [.br false, .n 2, .keep [1, 5, 9, 10, 11] [20]] rfl ⟨trivial, hc13⟩ ?_
          exact AK.met (Exists.intro _ (And.intro rfl h))
      · rintro σ ⟨l11, rfl, h⟩
        unfold F_space_Out_k1 at h
        refine AK.go tab_ok hC [.n 4, .keep [1, 5, 9, 10, 11] [20]] rfl trivial ?_
        obtain rfl := Option.some.inj h
        exact rndN rfl rfl
    · refine AK.go tab_ok hC [.br false, .n 2, .keep [5] [20]] rfl ⟨trivial, hc10⟩ ?_
      obtain rfl := Option.some.inj h
      exact rndX rfl (And.intro rfl rfl)
  · replace h : F_space_Out_c3 l9 = some r := h
    unfold F_space_Out_c3 at h
    rintro e σ ⟨rfl, rfl⟩
    refine AK.go tab_ok hC [.n 9, .keep [4] [20], .ren 20 30000, .keep [4] [30000]] rfl trivial ?_
    obtain rfl := Option.some.inj h
    refine AK.done ?_
    exact Exists.intro [_] (And.intro (And.intro rfl trivial) (gives ⟨rfl, trivial⟩))

-- 40 baldric/space.Path$1
def F_space_Path_1 (i1 : Int) (m2 : (List (Int × Int))) (v3 : TSpace) (v4 : Int) : Option Bool :=
  (idx v3.Edges i1).bind fun e6 =>
  some ((mget m2 e6.To).isSome && (((mget m2 e6.To).getD 0) == (w64 (((mget m2 v4).getD 0) - 1))))

set_option maxRecDepth 100000 in
set_option maxHeartbeats 4000000 in
theorem F_space_Path_1_ok (i1 : Int) (m2 : (List (Int × Int))) (v3 : TSpace) (v4 : Int) {r : Bool} (h : F_space_Path_1 i1 m2 v3 v4 = some r) : ACalls Try.prog 40 [.i .i64 i1, .loc 200000 0 0, .loc 200002 0 0, .loc 200003 0 0] [(200000, .var [.map 200001]), (200001, .map (mapV (V.i .i64) (V.i .i64) m2)), (200002, .var (row_TSpace v3)), (200003, .var (row_I v4))] (Gives (.b r) [(200000, .var [.map 200001]), (200001, .map (mapV (V.i .i64) (V.i .i64) m2)), (200002, .var (row_TSpace v3)), (200003, .var (row_I v4))]) := by
  refine ACalls.walk 28 Try.func40 rfl Try.ntmps40 rfl fun C hC => ?_
  unfold F_space_Path_1 at h
  obtain ⟨e6, he6, h⟩ := bindE h
  refine AK.go tab_ok hC [.n 6, .keep [0, 1, 2, 3] [200000, 200001, 200002, 200003]] rfl trivial ?_
  refine AK.draw2 tab_ok hC mixed [.a .no none false, .a .no none false, .a .no none false, .a .no none false, .a (.row (row_TEdge e6)) none false, .a .no none false, .a .no none false, .a (.any (.tup [.i .i64 ((mget m2 e6.To).getD 0), .b (mget m2 e6.To).isSome]) none) none false, .a .no none false, .a .no none false, .a .no none false, .a .no none false, .a .no none false] [] [] [1, 3, 6, 7] [200000, 200001, 200002, 200003] rfl rfl rfl ⟨⟨trivial, (idxM he6)⟩, (fun σ h1 h2 _ => Stp.lookupOk (e := (V.i .i64)) (f := (V.i .i64)) (l := m2) (k := e6.To) (z := 0) rfl rfl (hC ▸ rfl) (h1 _ _ rfl) (h2 _ _ rfl) (h1 _ _ rfl) mt_72 ky_3 zi_3 rfl rfl)⟩ rfl (by kernel_rfl) rfl rfl rfl ?_
  refine AK.go tab_ok hC [.n 2] rfl trivial ?_
  refine AK.meetX (fun σ => σ = ⟨[(5, .b ((mget m2 e6.To).isSome && (((mget m2 e6.To).getD 0) == (w64 (((mget m2 v4).getD 0) - 1)))))], [(200000, .var [.map 200001]), (200001, .map (mapV (V.i .i64) (V.i .i64) m2)), (200002, .var (row_TSpace v3)), (200003, .var (row_I v4))]⟩) ?_ ?_
  · refine AK.go tab_ok hC [.n 3] rfl trivial ?_
    rcases boolOr (mget m2 e6.To).isSome with hc8 | hc8
    · refine AK.go tab_ok hC [.say 20 (.b true), .n 3, .o (.any (.i .i64 ((mget m2 v4).getD 0)) none), .n 5, .say 5 (.b ((mget m2 e6.To).isSome && (((mget m2 e6.To).getD 0) == (w64 (((mget m2 v4).getD 0) - 1))))), .keep [5] [200000, 200001, 200002, 200003]] rfl ⟨⟨⟨trivial, (congrArg V.b hc8)⟩, (fun σ h1 h2 _ => Stp.lookup (e := (V.i .i64)) (f := (V.i .i64)) (l := m2) (k := v4) (z := 0) rfl rfl (hC ▸ rfl) (h1 _ _ rfl) (h2 _ _ rfl) (h1 _ _ rfl) mt_72 ky_3 zi_3 rfl)⟩, (congrArg V.b (andT hc8 rfl))⟩ ?_
      exact AK.met rfl
    · refine AK.go tab_ok hC [.say 20 (.b false), .n 9, .say 5 (.b ((mget m2 e6.To).isSome && (((mget m2 e6.To).getD 0) == (w64 (((mget m2 v4).getD 0) - 1))))), .keep [5] [200000, 200001, 200002, 200003]] rfl ⟨⟨trivial, (congrArg V.b hc8)⟩, (congrArg V.b (andF hc8 rfl))⟩ ?_
      exact AK.met rfl
  · rintro σ rfl
    refine AK.go tab_ok hC [.n 2, .keep [5] [200000, 200001, 200002, 200003]] rfl trivial ?_
    obtain rfl := Option.some.inj h
    refine AK.done ?_
    exact Exists.intro [_] (And.intro (And.intro rfl trivial) (gives ⟨rfl, rfl, rfl, rfl, trivial⟩))

-- 42 slices.IndexFunc[[]int,int]
def F_slices_IndexFunc_int_int_l1 (s1 : (List Int)) (m2 : (List (Int × Int))) (v3 : TSpace) (v4 : Int) (x7 : Int) : Option (Int ⊕ (Int ⊕ Unit)) :=
  bif (decide (x7 < (s1.length : Int))) then
  (idx s1 x7).bind fun e11 =>
  (F_space_Path_1 e11 m2 v3 v4).bind fun x12 =>
  bif x12 then
  some (.inr (.inl x7))
  else
  some (.inl (w64 (x7 + 1)))
  else
  some (.inr (.inr ()))

def F_slices_IndexFunc_int_int_c2 (x9 : Int) : Option Int :=
  some x9

def F_slices_IndexFunc_int_int_c3 : Option Int :=
  some (-1)

def F_slices_IndexFunc_int_int (s1 : (List Int)) (m2 : (List (Int × Int))) (v3 : TSpace) (v4 : Int) : Option Int :=
  (loopM (fun st => F_slices_IndexFunc_int_int_l1 s1 m2 v3 v4 st) 0).bind (Sum.elim (fun q => F_slices_IndexFunc_int_int_c2 q) (fun q => F_slices_IndexFunc_int_int_c3))

set_option maxRecDepth 100000 in
set_option maxHeartbeats 4000000 in
theorem F_slices_IndexFunc_int_int_ok (s1 : (List Int)) (m2 : (List (Int × Int))) (v3 : TSpace) (v4 : Int) {r : Int} (h : F_slices_IndexFunc_int_int s1 m2 v3 v4 = some r) : ACalls Try.prog 42 [.sl 1 (s1.map row_I), .clo (.func 40) [] [.loc 200000 0 0, .loc 200002 0 0, .loc 200003 0 0]] [(200000, .var [.map 200001]), (200001, .map (mapV (V.i .i64) (V.i .i64) m2)), (200002, .var (row_TSpace v3)), (200003, .var (row_I v4))] (Gives (.i .i64 r) [(200000, .var [.map 200001]), (200001, .map (mapV (V.i .i64) (V.i .i64) m2)), (200002, .var (row_TSpace v3)), (200003, .var (row_I v4))]) := by
  refine ACalls.walk 19 Try.func42 rfl Try.ntmps42 rfl fun C hC => ?_
  unfold F_slices_IndexFunc_int_int at h
  refine AK.go tab_ok hC [.n 9, .o (.ln s1.length), .n 4, .keep [0, 1, 7, 8] [200000, 200001, 200002, 200003]] rfl ⟨trivial, mapLen⟩ ?_
  obtain ⟨o14, hl14, h⟩ := bindE h
  refine AK.loop (body := (fun st => F_slices_IndexFunc_int_int_l1 s1 m2 v3 v4 st)) (fun st σ => σ = ⟨[(0, .sl 1 (s1.map row_I)), (1, .clo (.func 40) [] [.loc 200000 0 0, .loc 200002 0 0, .loc 200003 0 0]), (7, .i .i64 (s1.length : Int)), (8, .i .i64 st)], [(200000, .var [.map 200001]), (200001, .map (mapV (V.i .i64) (V.i .i64) m2)), (200002, .var (row_TSpace v3)), (200003, .var (row_I v4))]⟩) (Sum.elim (fun q e σ => e = .ret ∧ σ = ⟨[(4, .i .i64 q)], [(200000, .var [.map 200001]), (200001, .map (mapV (V.i .i64) (V.i .i64) m2)), (200002, .var (row_TSpace v3)), (200003, .var (row_I v4))]⟩) (fun q e σ => e = .exit 0 ∧ σ = ⟨[], [(200000, .var [.map 200001]), (200001, .map (mapV (V.i .i64) (V.i .i64) m2)), (200002, .var (row_TSpace v3)), (200003, .var (row_I v4))]⟩)) hl14 rfl ?_ ?_
  · rintro x7 o σ rfl h
    replace h : F_slices_IndexFunc_int_int_l1 s1 m2 v3 v4 x7 = some o := h
    unfold F_slices_IndexFunc_int_int_l1 at h
    refine AK.go tab_ok hC [.n 6] rfl trivial ?_
    rcases bifE h with ⟨hc10, h⟩ | ⟨hc10, h⟩
    · obtain ⟨e11, he11, h⟩ := bindE h
      obtain ⟨x12, hx12, h⟩ := bindE h
      refine AK.go tab_ok hC [.br true, .n 15, .o (.row (row_I e11)), .n 1, .cm (.clo) [(200000, 200000), (200001, 200001), (200002, 200002), (200003, 200003)] [(200000, 200000), (200001, 200001), (200002, 200002), (200003, 200003)] [] [.d, .d, .d, .d] [(200000, .var [.map 200001]), (200001, .map (mapV (V.i .i64) (V.i .i64) m2)), (200002, .var (row_TSpace v3)), (200003, .var (row_I v4))] (.b x12), .n 2] rfl ⟨⟨⟨trivial, hc10⟩, (idxM he11)⟩, (F_space_Path_1_ok _ _ _ _ hx12)⟩ ?_
      rcases bifE h with ⟨hc13, h⟩ | ⟨hc13, h⟩
      · refine AK.go tab_ok hC [.br true, .n 9, .keep [4] [200000, 200001, 200002, 200003]] rfl ⟨trivial, hc13⟩ ?_
        obtain rfl := Option.some.inj h
        exact rndR rfl (And.intro rfl rfl)
      · refine AK.go tab_ok hC [.br false, .n 7, .keep [0, 1, 7, 8] [200000, 200001, 200002, 200003]] rfl ⟨trivial, hc13⟩ ?_
        obtain rfl := Option.some.inj h
        exact rndN rfl rfl
    · refine AK.go tab_ok hC [.br false, .n 2, .keep [] [200000, 200001, 200002, 200003]] rfl ⟨trivial, hc10⟩ ?_
      obtain rfl := Option.some.inj h
      exact rndX rfl (And.intro rfl rfl)
  · rcases o14 with (x9 | _)
    · replace h : F_slices_IndexFunc_int_int_c2 x9 = some r := h
      unfold F_slices_IndexFunc_int_int_c2 at h
      rintro e σ ⟨rfl, rfl⟩
      refine AK.go tab_ok hC [.n 2, .keep [4] [200000, 200001, 200002, 200003]] rfl trivial ?_
      obtain rfl := Option.some.inj h
      refine AK.done ?_
      exact Exists.intro [_] (And.intro (And.intro rfl trivial) (gives ⟨rfl, rfl, rfl, rfl, trivial⟩))
    · replace h : F_slices_IndexFunc_int_int_c3 = some r := h
      unfold F_slices_IndexFunc_int_int_c3 at h
      rintro e σ ⟨rfl, rfl⟩
      refine AK.go tab_ok hC [.n 8, .keep [4] [200000, 200001, 200002, 200003]] rfl trivial ?_
      obtain rfl := Option.some.inj h
      refine AK.done ?_
      exact Exists.intro [_] (And.intro (And.intro rfl trivial) (gives ⟨rfl, rfl, rfl, rfl, trivial⟩))

-- 24 baldric/space.Path
def F_space_Path_l1 (x5 : (List (Int × Int))) (s1 : TSpace) (out7 : (List TMode)) (at_8 : Int) : Option (((List TMode) × Int) ⊕ (List TMode)) :=
  bif (decide (0 < ((mget x5 at_8).getD 0))) then
  (F_space_Out s1 at_8).bind fun x13 =>
  (F_slices_IndexFunc_int_int x13 x5 s1 at_8).bind fun x14 =>
  (idx x13 x14).bind fun e15 =>
  (idx s1.Edges e15).bind fun e16 =>
  (chk (decide (out7.length + ([e16.Mode] : List TMode).length ≤ 4294967296))).bind fun _ =>
  some (.inl ((out7 ++ [e16.Mode]), e16.To))
  else
  some (.inr out7)

def F_space_Path_c2 (out11 : (List TMode)) : Option (List TMode) :=
  some out11

def F_space_Path (s1 : TSpace) (k2 : Int) : Option (List TMode) :=
  (F_space_far s1 k2).bind fun x5 =>
  bif (!(mget x5 0).isSome) then
  some ([] : List TMode)
  else
  (loopM (fun st => F_space_Path_l1 x5 s1 st.1 st.2) (([] : List TMode), 0)).bind (fun q => F_space_Path_c2 q)

set_option maxRecDepth 100000 in
set_option maxHeartbeats 4000000 in
theorem F_space_Path_ok (s1 : TSpace) (k2 : Int) {r : (List TMode)} (h : F_space_Path s1 k2 = some r) : ACalls Try.prog 24 [.agg (row_TSpace s1), .i .i64 k2] [] (Gives (.own 30000 r.length) [(30000, .arr 4 (r.map row_TMode))]) := by
  refine ACalls.walk 50 Try.func24 rfl Try.ntmps24 rfl fun C hC => ?_
  unfold F_space_Path at h
  obtain ⟨x5, hx5, h⟩ := bindE h
  refine AK.go tab_ok hC [.n 8, .v .no [] (.agg (row_TSpace s1)), .n 1, .cm (.fn) [] [(15, 30004)] [] [.d, .d] [(30004, .map (mapV (V.i .i64) (V.i .i64) x5))] (.map 30004), .n 2, .sayO 5 (.var [.map 15]), .n 6, .o (.any (.tup [.i .i64 ((mget x5 0).getD 0), .b (mget x5 0).isSome]) none), .n 13] rfl ⟨⟨⟨⟨trivial, rfl⟩, (F_space_far_ok _ _ hx5)⟩, rfl⟩, (fun σ h1 h2 _ => Stp.lookupOk (e := (V.i .i64)) (f := (V.i .i64)) (l := x5) (k := 0) (z := 0) rfl rfl (hC ▸ rfl) (h1 _ _ rfl) (h2 _ _ rfl) (h1 _ _ rfl) mt_72 ky_3 zi_3 rfl rfl)⟩ ?_
  rcases bifE h with ⟨hc6, h⟩ | ⟨hc6, h⟩
  · refine AK.go tab_ok hC [.br true, .n 7, .adopt 4 30000 4, .sayO 30000 (.arr 4 (([] : List TMode).map row_TMode)), .say 4 (.own 30000 ([] : List TMode).length), .keep [4] [30000]] rfl ⟨⟨⟨trivial, hc6⟩, rfl⟩, rfl⟩ ?_
    obtain rfl := Option.some.inj h
    refine AK.done ?_
    exact Exists.intro [_] (And.intro (And.intro rfl trivial) (gives ⟨rfl, trivial⟩))
  · refine AK.go tab_ok hC [.br false, .n 12, .sayO 9 (.var (row_I 0)), .n 3, .adopt 8 8 4, .sayO 8 (.arr 4 (([] : List TMode).map row_TMode)), .say 8 (.own 8 ([] : List TMode).length), .keep [2, 5, 8, 9] [2, 5, 8, 9, 15]] rfl ⟨⟨⟨⟨trivial, hc6⟩, rfl⟩, rfl⟩, (congrArg (fun n => V.own 8 n) (by simp))⟩ ?_
    obtain ⟨out11, hl18, h⟩ := bindE h
    refine AK.loop (body := (fun st => F_space_Path_l1 x5 s1 st.1 st.2)) (fun st σ => σ = ⟨[(2, .loc 2 0 0), (5, .loc 5 0 0), (8, .own 8 st.1.length), (9, .loc 9 0 0)], [(2, .var (row_TSpace s1)), (5, .var [.map 15]), (8, .arr 4 (st.1.map row_TMode)), (9, .var (row_I st.2)), (15, .map (mapV (V.i .i64) (V.i .i64) x5))]⟩) (fun q e σ => e = .exit 0 ∧ σ = ⟨[(8, .own 8 q.length)], [(8, .arr 4 (q.map row_TMode))]⟩) hl18 rfl ?_ ?_
    · rintro ⟨out7, at_8⟩ o σ rfl h
      replace h : F_space_Path_l1 x5 s1 out7 at_8 = some o := h
      unfold F_space_Path_l1 at h
      refine AK.go tab_ok hC [.n 5, .o (.any (.i .i64 ((mget x5 at_8).getD 0)) none), .n 3] rfl ⟨trivial, (fun σ h1 h2 _ => Stp.lookup (e := (V.i .i64)) (f := (V.i .i64)) (l := x5) (k := at_8) (z := 0) rfl rfl (hC ▸ rfl) (h1 _ _ rfl) (h2 _ _ rfl) (h1 _ _ rfl) mt_72 ky_3 zi_3 rfl)⟩ ?_
      rcases bifE h with ⟨hc12, h⟩ | ⟨hc12, h⟩
      · obtain ⟨x13, hx13, h⟩ := bindE h
        obtain ⟨x14, hx14, h⟩ := bindE h
        obtain ⟨e15, he15, h⟩ := bindE h
        obtain ⟨e16, he16, h⟩ := bindE h
        refine AK.go tab_ok hC [.br true, .n 12, .v .no [] (.agg (row_TSpace s1)), .n 1, .o (.co false [.d, .d] 1 (x13.map row_I) x13.length), .n 4, .frz 30 (x13.map row_I) [11, 30] [], .keep [2, 5, 8, 9, 10, 11] [2, 5, 8, 9, 15]] rfl ⟨⟨⟨⟨trivial, hc12⟩, rfl⟩, ⟨(F_space_Out_ok _ _ hx13), mapLen, .inl rfl⟩⟩, ⟨⟨trivial, (frzL mapLen)⟩, (frzL mapLen)⟩⟩ ?_
        refine AK.draw2 tab_ok hC mixed [.a .no none false, .a .no none false, .a .no none false, .a .no none false, .a .no none false, .a (.any (.i .i64 x14) none) none false, .a (.row (row_I e15)) none false, .a .no none false, .a (.row (row_TEdge e16)) none false, .a .no (some ([], .agg (row_TEdge e16))) false, .a .no none false, .m .s] [] [] [2, 5, 8, 9, 12] [2, 5, 8, 9, 12, 15] rfl rfl rfl ⟨⟨⟨⟨trivial, (fun σ h1 h2 _ => Stp.callSame (md := .cm (.fn) [(200000, 5), (200001, 15), (200002, 2), (200003, 9)] [(5, 200000), (15, 200001), (2, 200002), (9, 200003)] [] [.d, .d] [(200000, .var [.map 200001]), (200001, .map (mapV (V.i .i64) (V.i .i64) x5)), (200002, .var (row_TSpace s1)), (200003, .var (row_I at_8))] (.i .i64 x14) [5, 15, 2, 9]) tab_ok hC h1 h2 rfl ⟨⟨trivial, (F_slices_IndexFunc_int_int_ok _ _ _ _ hx14)⟩, ⟨rfl, rfl, rfl, rfl, trivial⟩⟩)⟩, (idxM he15)⟩, (idxM he16)⟩, rfl⟩ rfl (by kernel_rfl) rfl rfl rfl ?_
        obtain ⟨_, hk17, h⟩ := bindE h
        replace hk17 := chkE hk17
        refine AK.go tab_ok hC [.sayO 12 (.var (row_TEdge e16)), .n 1, .keep [2, 5, 8, 9, 12] [2, 5, 8, 9, 12, 15]] rfl ⟨trivial, rfl⟩ ?_
        refine AK.draw2 tab_ok hC mixed [.a .no none false, .a .no none false, .a .no (some ([], .agg (row_TMode e16.Mode))) false, .a (.bd []) (some ([], .sl 4 (([e16.Mode] : List TMode).map row_TMode))) false, .m (.app ((out7 ++ [e16.Mode]).map row_TMode) (out7 ++ [e16.Mode]).length), .a .no none true, .a .no none true, .m .s, .m .s] [2, 5, 9, 12] [2, 5, 12, 15] [2, 5, 8, 9] [2, 5, 8, 9, 15] rfl rfl rfl ⟨⟨⟨trivial, rfl⟩, rfl⟩, ⟨mapLen, appLim hk17 mapLen, mapApps, appLn mapLen⟩⟩ rfl (by kernel_rfl) rfl rfl rfl ?_
        refine AK.go tab_ok hC [.sayO 9 (.var (row_I e16.To)), .n 8, .kill 9, .n 2, .sayO 9 (.var (row_I e16.To)), .n 1, .keep [2, 5, 8, 9] [2, 5, 8, 9, 15]] rfl ⟨⟨trivial, rfl⟩, rfl⟩ ?_
        obtain rfl := Option.some.inj h
        exact rndN rfl rfl
      · refine AK.go tab_ok hC [.br false, .n 2, .keep [8] [8]] rfl ⟨trivial, hc12⟩ ?_
        obtain rfl := Option.some.inj h
        exact rndX rfl (And.intro rfl rfl)
    · replace h : F_space_Path_c2 out11 = some r := h
      unfold F_space_Path_c2 at h
      rintro e σ ⟨rfl, rfl⟩
      refine AK.go tab_ok hC [.n 9, .keep [4] [8], .ren 8 30000, .keep [4] [30000]] rfl trivial ?_
      obtain rfl := Option.some.inj h
      refine AK.done ?_
      exact Exists.intro [_] (And.intro (And.intro rfl trivial) (gives ⟨rfl, trivial⟩))

-- 7 baldric/baldriclaw16.RankPaths
def F_law16_RankPaths_g1 (x5 : Bool) (x11 : (List Int)) (s1 : TSpace) (k2 : Int) (x12 : (List TMode)) : Option Bool :=
  bif x5 then
  bif ((x11.length : Int) == (s1.States.length : Int)) then
  (idx x11 k2).bind fun e17 =>
  bif (e17 == 0) then
  (idx x11 0).bind fun e19 =>
  some ((x12.length : Int) == (max2 e19 0))
  else
  some false
  else
  some false
  else
  some false

def F_law16_RankPaths_k2 (x13 : Bool) : Option Bool :=
  some x13

def F_law16_RankPaths (s1 : TSpace) (k2 : Int) : Option Bool :=
  (F_law16_small).bind fun x5 =>
  (F_law16_Few s1).bind fun x6 =>
  bif ((!x6) || ((decide (k2 < 0)) || (decide ((s1.States.length : Int) ≤ k2)))) then
  some x5
  else
  (F_rank_Far s1 ([k2] : List Int)).bind fun x11 =>
  (F_space_Path s1 k2).bind fun x12 =>
  (F_law16_RankPaths_g1 x5 x11 s1 k2 x12).bind (fun x13 => F_law16_RankPaths_k2 x13)

set_option maxRecDepth 100000 in
set_option maxHeartbeats 4000000 in
theorem F_law16_RankPaths_ok (s1 : TSpace) (k2 : Int) {r : Bool} (h : F_law16_RankPaths s1 k2 = some r) : ACalls Try.prog 7 [.agg (row_TSpace s1), .i .i64 k2] [] (Gives (.b r) []) := by
  refine ACalls.walk 58 Try.func7 rfl Try.ntmps7 rfl fun C hC => ?_
  unfold F_law16_RankPaths at h
  obtain ⟨x5, hx5, h⟩ := bindE h
  obtain ⟨x6, hx6, h⟩ := bindE h
  refine AK.go tab_ok hC [.n 8, .o (.c false [] (.b x5)), .n 5, .v .no [] (.agg (row_TSpace s1)), .o (.c false [.d] (.b x6)), .n 5] rfl ⟨⟨⟨trivial, (F_law16_small_ok  hx5)⟩, rfl⟩, (F_law16_Few_ok _ hx6)⟩ ?_
  refine AK.meetX (fun σ => σ = ⟨[(1, .i .i64 k2), (2, .loc 2 0 0), (5, .b x5), (24, .b ((!x6) || ((decide (k2 < 0)) || (decide ((s1.States.length : Int) ≤ k2)))))], [(2, .var (row_TSpace s1))]⟩) ?_ ?_
  · refine AK.go tab_ok hC [.n 4] rfl trivial ?_
    rcases boolOr (!x6) with hc8 | hc8
    · refine AK.go tab_ok hC [.say 14 (.b true), .n 11, .say 24 (.b ((!x6) || ((decide (k2 < 0)) || (decide ((s1.States.length : Int) ≤ k2))))), .keep [1, 2, 5, 24] [2]] rfl ⟨⟨trivial, (congrArg V.b hc8)⟩, (congrArg V.b (orT hc8 rfl))⟩ ?_
      exact AK.met rfl
    · refine AK.go tab_ok hC [.say 14 (.b false), .n 4] rfl ⟨trivial, (congrArg V.b hc8)⟩ ?_
      rcases boolOr (decide (k2 < 0)) with hc9 | hc9
      · refine AK.go tab_ok hC [.say 18 (.b true), .n 7, .say 24 (.b ((!x6) || ((decide (k2 < 0)) || (decide ((s1.States.length : Int) ≤ k2))))), .keep [1, 2, 5, 24] [2]] rfl ⟨⟨trivial, (congrArg V.b hc9)⟩, (congrArg V.b (orF hc8 (orT hc9 rfl)))⟩ ?_
        exact AK.met rfl
      · refine AK.go tab_ok hC [.say 18 (.b false), .n 3, .o (.ln s1.States.length), .n 3, .say 24 (.b ((!x6) || ((decide (k2 < 0)) || (decide ((s1.States.length : Int) ≤ k2))))), .keep [1, 2, 5, 24] [2]] rfl ⟨⟨⟨trivial, (congrArg V.b hc9)⟩, mapLen⟩, (congrArg V.b (orF hc8 (orF hc9 rfl)))⟩ ?_
        exact AK.met rfl
  · rintro σ rfl
    refine AK.go tab_ok hC [.n 1] rfl trivial ?_
    rcases bifE h with ⟨hc10, h⟩ | ⟨hc10, h⟩
    · refine AK.go tab_ok hC [.br true, .n 8, .keep [4] []] rfl ⟨trivial, hc10⟩ ?_
      obtain rfl := Option.some.inj h
      refine AK.done ?_
      exact Exists.intro [_] (And.intro (And.intro rfl trivial) (gives trivial))
    · obtain ⟨x11, hx11, h⟩ := bindE h
      obtain ⟨x12, hx12, h⟩ := bindE h
      refine AK.go tab_ok hC [.br false, .n 4, .v .no [] (.agg (row_TSpace s1)), .n 1, .v (.bd []) [] (.sl 1 (([k2] : List Int).map row_I)), .o (.co false [.d, .d] 1 (x11.map row_I) x11.length), .n 5, .v .no [] (.agg (row_TSpace s1)), .n 1, .o (.co false [.d, .d] 4 (x12.map row_TMode) x12.length), .n 4] rfl ⟨⟨⟨⟨⟨⟨trivial, hc10⟩, rfl⟩, rfl⟩, ⟨(F_rank_Far_ok _ _ hx11), mapLen, .inl rfl⟩⟩, rfl⟩, ⟨(F_space_Path_ok _ _ hx12), mapLen, .inl rfl⟩⟩ ?_
      obtain ⟨x13, hv14, h⟩ := bindE h
      replace h : F_law16_RankPaths_k2 x13 = some r := h
      refine AK.meetX (fun σ => σ = ⟨[(4, .b x13)], []⟩) ?_ ?_
      · replace h := hv14
        unfold F_law16_RankPaths_g1 at h
        refine AK.go tab_ok hC [.n 3] rfl trivial ?_
        rcases bifE h with ⟨hc15, h⟩ | ⟨hc15, h⟩
        · refine AK.go tab_ok hC [.say 34 (.b true), .n 4, .o (.ln s1.States.length), .n 3] rfl ⟨⟨trivial, (congrArg V.b hc15)⟩, mapLen⟩ ?_
          rcases bifE h with ⟨hc16, h⟩ | ⟨hc16, h⟩
          · obtain ⟨e17, he17, h⟩ := bindE h
            refine AK.go tab_ok hC [.say 42 (.b true), .n 3, .o (.row (row_I e17)), .n 3] rfl ⟨⟨⟨trivial, (congrArg V.b hc16)⟩, (idxOw he17 rfl)⟩, (mapGet (idxE he17).2)⟩ ?_
            rcases bifE h with ⟨hc18, h⟩ | ⟨hc18, h⟩
            · obtain ⟨e19, he19, h⟩ := bindE h
              refine AK.go tab_ok hC [.say 49 (.b true), .n 4, .o (.row (row_I e19)), .n 5, .keep [4] []] rfl ⟨⟨⟨trivial, (congrArg V.b hc18)⟩, (idxOw he19 rfl)⟩, (mapGet (idxE he19).2)⟩ ?_
              obtain rfl := Option.some.inj h
              exact AK.met rfl
            · refine AK.go tab_ok hC [.say 49 (.b false), .n 10, .keep [4] []] rfl ⟨trivial, (congrArg V.b hc18)⟩ ?_
              obtain rfl := Option.some.inj h
              exact AK.met rfl
          · refine AK.go tab_ok hC [.say 42 (.b false), .n 17, .keep [4] []] rfl ⟨trivial, (congrArg V.b hc16)⟩ ?_
            obtain rfl := Option.some.inj h
            exact AK.met rfl
        · refine AK.go tab_ok hC [.say 34 (.b false), .n 25, .keep [4] []] rfl ⟨trivial, (congrArg V.b hc15)⟩ ?_
          obtain rfl := Option.some.inj h
          exact AK.met rfl
      · rintro σ rfl
        replace h : F_law16_RankPaths_k2 x13 = some r := h
        unfold F_law16_RankPaths_k2 at h
        refine AK.go tab_ok hC [.n 2, .keep [4] []] rfl trivial ?_
        obtain rfl := Option.some.inj h
        refine AK.done ?_
        exact Exists.intro [_] (And.intro (And.intro rfl trivial) (gives trivial))


end Go.Proofs
