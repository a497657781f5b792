/- What functions of the program do, as functions over plain data, and the walks that show it: printed by a program. -/
import Derived.Test.YtpijolohkdchcaaGreatDoorT1
set_option linter.unusedVariables false
set_option linter.unusedSimpArgs false
set_option linter.unusedSectionVars false
set_option linter.deprecated false
set_option maxRecDepth 100000
set_option maxHeartbeats 4000000
noncomputable section
namespace Go.Proofs
open Go Go.RowKit Go.Vm
def Qc6 (a1 : (List (List (Int × Int)))) (b2 : (List (List (Int × Int)))) (x9 : Int) (l10 : (List (List (Int × Int)))) : Option ((Int × (List (List (Int × Int)))) ⊕ (Int ⊕ (List (List (Int × Int))))) :=
 bif (decide (x9 < ((List.replicate (min2 (a1.length : Int) (b2.length : Int)).toNat (([] : (List (Int × Int))) : (List (Int × Int)))).length : Int))) then
 (idx a1 x9).bind fun e16 =>
 (idx b2 x9).bind fun e17 =>
 (Qfl e16 e17).bind fun x18 =>
 (idx l10 x9).bind fun e19 =>
 bif (x18.2 != 0) then
 some (.inr (.inl x18.2))
 else
 some (.inl ((w64 (x9 + 1)), (l10.set x9.toNat x18.1)))
 else
 some (.inr (.inr l10))
def Qi6 (x13 : Int) : Option ((List (List (Int × Int))) × Int) :=
 some (([] : List (List (Int × Int))), x13)
def Qi7 (l14 : (List (List (Int × Int)))) : Option ((List (List (Int × Int))) × Int) :=
 some (l14, 0)
def QgY (a1 : (List (List (Int × Int)))) (b2 : (List (List (Int × Int)))) : Option ((List (List (Int × Int))) × Int) :=
 (chk (decide (0 ≤ (min2 (a1.length : Int) (b2.length : Int))) && decide ((min2 (a1.length : Int) (b2.length : Int)) ≤ (min2 (a1.length : Int) (b2.length : Int))) && decide ((min2 (a1.length : Int) (b2.length : Int)) ≤ 4294967296))).bind fun _ =>
 (QE (fun st => Qc6 a1 b2 st.1 st.2) (0, (List.replicate (min2 (a1.length : Int) (b2.length : Int)).toNat (([] : (List (Int × Int))) : (List (Int × Int)))))).bind (Sum.elim (fun q => Qi6 q) (fun q => Qi7 q))
theorem Qpq (a1 : (List (List (Int × Int)))) (b2 : (List (List (Int × Int)))) {r : ((List (List (Int × Int))) × Int)} (h : QgY a1 b2 = some r) : Qc Tryz.prog 35 [.sl 1 (a1.map Qh), .sl 1 (b2.map Qh), .clo (.func 36) [] []] [] (Gives (.tup [.sl 1 (r.1.map Qh), .i .i64 r.2]) []) := by
 refine Qc.walk 43 Tryz.func35 rfl Tryz.ntmps35 rfl fun C hC => ?_
 unfold QgY at h
 obtain ⟨_, hk7, h⟩ := Qb h
 replace hk7 := chkE hk7
 refine Qa hC [.n 9, .o (.ln a1.length), .n 1, .o (.ln b2.length), .n 1, .o (.rows (List.replicate (min2 (a1.length : Int) (b2.length : Int)).toNat [.lit (.slice none 0 0)]))] rfl ⟨⟨⟨tt_, Qg⟩, Qg⟩, ⟨hk7, rfl⟩⟩ ?_
 refine AK.denilA (b := 16) [some 2] rfl (QrV (f := Qh) (x := ([] : (List (Int × Int)))) rfl) ?_
 refine Qa hC [.say 16 (.own 16 (List.replicate (min2 (a1.length : Int) (b2.length : Int)).toNat (([] : (List (Int × Int))) : (List (Int × Int)))).length), .n 12, .keep [0, 1, 2, 8, 18, 19] [16]] rfl ⟨tt_, (by simp)⟩ ?_
 obtain ⟨o21, hl21, h⟩ := Qb h
 refine AK.loop (body := (fun st => Qc6 a1 b2 st.1 st.2)) (fun st σ => σ = ⟨[(0, .sl 1 (a1.map Qh)), (1, .sl 1 (b2.map Qh)), (2, .clo (.func 36) [] []), (8, .own 16 st.2.length), (18, .i .i64 ((List.replicate (min2 (a1.length : Int) (b2.length : Int)).toNat (([] : (List (Int × Int))) : (List (Int × Int)))).length : Int)), (19, .i .i64 st.1)], [(16, .arr 1 (st.2.map Qh))]⟩) (Sum.elim (fun q e σ => e = .ret ∧ σ = ⟨[(6, .lit (.slice none 0 0)), (7, .i .i64 q)], []⟩) (fun q e σ => e = .exit 0 ∧ σ = ⟨[(8, .own 16 q.length)], [(16, .arr 1 (q.map Qh))]⟩)) hl21 rfl ?_ ?_
 ·rintro ⟨x9, l10⟩ o σ rfl h
  replace h : Qc6 a1 b2 x9 l10 = some o := h
  unfold Qc6 at h
  refine Qa hC [.n 6] rfl tt_ ?_
  rcases bifE h with ⟨hc15, h⟩ | ⟨hc15, h⟩
  ·obtain ⟨e16, he16, h⟩ := Qb h
   obtain ⟨e17, he17, h⟩ := Qb h
   obtain ⟨x18, hx18, h⟩ := Qb h
   obtain ⟨e19, he19, h⟩ := Qb h
   refine Qa hC [.br true, .n 16, .keep [0, 1, 2, 8, 9, 10, 18, 19] [16]] rfl ⟨tt_, hc15⟩ ?_
   refine AK.draw2 Qo hC mixed [.a .no none false, .a .no none false, .a .no none false, .a .no none false, .a .no none false, .a (.row (Qh e16)) none false, .a .no none false, .a .no none false, .a .no none false, .a (.row (Qh e17)) none false, .a .no none false, .a (.c false [.d, .d] (.tup [.sl 2 (x18.1.map Qt), .i .i64 x18.2])) none false, .a .no none true true, .a .no none false, .a .no none true, .a .no none false, .m (.st (Qh e19) ((l10.set x9.toNat x18.1).map Qh)), .m .s] [0, 1, 2, 8, 9, 10, 18, 19] [] [0, 1, 2, 8, 10, 18, 19] [16] rfl rfl rfl ⟨⟨⟨⟨⟨tt_, (idxM he16)⟩, (idxM he17)⟩, (Qrk _ _ hx18)⟩, (QeX he19 rfl)⟩, ⟨(Qcz (idxE he19).2), Qjn rfl⟩⟩ rfl (by kernel_rfl) rfl rfl rfl ?_
   refine Qa hC [.n 7] rfl tt_ ?_
   rcases bifE h with ⟨hc20, h⟩ | ⟨hc20, h⟩
   ·refine Qa hC [.br true, .n 10, .keep [6, 7] []] rfl ⟨tt_, hc20⟩ ?_
    cases h
    exact rndR rfl (an_ rfl rfl)
   ·refine Qa hC [.br false, .n 7, .say 8 (.own 16 (l10.set x9.toNat x18.1).length), .keep [0, 1, 2, 8, 18, 19] [16]] rfl ⟨⟨tt_, hc20⟩, (congrArg (fun n => V.own 16 n) (by simp))⟩ ?_
    cases h
    exact rndN rfl rfl
  ·refine Qa hC [.br false, .n 2, .keep [8] [16]] rfl ⟨tt_, hc15⟩ ?_
   cases h
   exact rndX rfl (an_ rfl rfl)
 ·rcases o21 with (x13 | l14)
  ·replace h : Qi6 x13 = some r := h
   unfold Qi6 at h
   rintro e σ ⟨rfl, rfl⟩
   refine Qa hC [.n 2, .denil 6 [some 1], .keep [6, 7] []] rfl tt_ ?_
   cases h
   exact AK.done (ex_ [_, _] (an_ (an_ rfl (an_ rfl tt_)) (gives tt_)))
  ·replace h : Qi7 l14 = some r := h
   unfold Qi7 at h
   rintro e σ ⟨rfl, rfl⟩
   refine Qa hC [.n 10, .frz 16 (l14.map Qh) [6] [], .keep [6, 7] []] rfl ⟨tt_, ⟨tt_, (frzL Qg)⟩⟩ ?_
   cases h
   exact AK.done (ex_ [_, _] (an_ (an_ rfl (an_ rfl tt_)) (gives tt_)))
def QfO (n1 : TNet) (m2 : (List (List (Int × Int)))) (o3 : Qk) : Option ((List (List (Int × Int))) × Int) :=
 (QhV n1 m2 o3).bind fun x8 =>
 bif (x8 != 0) then
 some (([] : List (List (Int × Int))), x8)
 else
 (Qgf n1 o3).bind fun x10 =>
 bif (x10.2 != 0) then
 some (([] : List (List (Int × Int))), x10.2)
 else
 (QgY m2 x10.1).bind fun x12 =>
 some (x12.1, x12.2)
theorem Qj8 (n1 : TNet) (m2 : (List (List (Int × Int)))) (o3 : Qk) {r : ((List (List (Int × Int))) × Int)} (h : QfO n1 m2 o3 = some r) : Qc Tryz.prog 10 [.agg (Qd n1), .sl 1 (m2.map Qh), .agg (Qj o3)] [] (Gives (.tup [.sl 1 (r.1.map Qh), .i .i64 r.2]) []) := by
 refine Qc.walk 32 Tryz.func10 rfl Tryz.ntmps10 rfl fun C hC => ?_
 unfold QfO at h
 obtain ⟨x8, hx8, h⟩ := Qb h
 refine Qa hC [.n 11, .v .no [] (.agg (Qd n1)), .n 1, .v .no [] (.agg (Qj o3)), .o (.c false [.d, .d, .d] (.i .i64 x8)), .n 9] rfl ⟨⟨⟨tt_, rfl⟩, rfl⟩, (Qqa _ _ _ hx8)⟩ ?_
 rcases bifE h with ⟨hc9, h⟩ | ⟨hc9, h⟩
 ·refine Qa hC [.br true, .n 9, .denil 6 [some 1], .keep [6, 7] []] rfl ⟨tt_, hc9⟩ ?_
  cases h
  exact AK.done (ex_ [_, _] (an_ (an_ rfl (an_ rfl tt_)) (gives tt_)))
 ·obtain ⟨x10, hx10, h⟩ := Qb h
  refine Qa hC [.br false, .n 4, .v .no [] (.agg (Qd n1)), .v .no [] (.agg (Qj o3)), .o (.c false [.d, .d] (.tup [.sl 1 (x10.1.map Qh), .i .i64 x10.2])), .n 14] rfl ⟨⟨⟨⟨tt_, hc9⟩, rfl⟩, rfl⟩, (Ql5 _ _ hx10)⟩ ?_
  rcases bifE h with ⟨hc11, h⟩ | ⟨hc11, h⟩
  ·refine Qa hC [.br true, .n 9, .denil 6 [some 1], .keep [6, 7] []] rfl ⟨tt_, hc11⟩ ?_
   cases h
   exact AK.done (ex_ [_, _] (an_ (an_ rfl (an_ rfl tt_)) (gives tt_)))
  ·obtain ⟨x12, hx12, h⟩ := Qb h
   refine Qa hC [.br false, .n 6, .cm (.fn) [] [] [] [.d, .d, .d] [] (.tup [.sl 1 (x12.1.map Qh), .i .i64 x12.2]), .n 7, .keep [6, 7] []] rfl ⟨⟨tt_, hc11⟩, (Qpq _ _ hx12)⟩ ?_
   cases h
   exact AK.done (ex_ [_, _] (an_ (an_ rfl (an_ rfl tt_)) (gives tt_)))
def QhW (n1 : TNet) (o2 : Qk) : Option ((List (List (Int × Int))) × Int) :=
 (QgI n1 o2.Task o2.Vars).bind fun x7 =>
 bif (x7.2 != 0) then
 some (([] : List (List (Int × Int))), x7.2)
 else
 (idx n1.Tasks o2.Task).bind fun e9 =>
 (Qcc n1 e9.Outs o2.Outs x7.1).bind fun x10 =>
 some (x10.1, x10.2)
theorem Qqb (n1 : TNet) (o2 : Qk) {r : ((List (List (Int × Int))) × Int)} (h : QhW n1 o2 = some r) : Qc Tryz.prog 40 [.agg (Qd n1), .agg (Qj o2)] [] (Gives (.tup [.sl 1 (r.1.map Qh), .i .i64 r.2]) []) := by
 refine Qc.walk 34 Tryz.func40 rfl Tryz.ntmps40 rfl fun C hC => ?_
 unfold QhW at h
 obtain ⟨x7, hx7, h⟩ := Qb h
 refine Qa hC [.n 10, .v .no [] (.agg (Qd n1)), .n 4, .o (.c false [.d, .d, .d] (.tup [.sl 1 (x7.1.map Qe), .i .i64 x7.2])), .n 14] rfl ⟨⟨tt_, rfl⟩, (QkF _ _ _ hx7)⟩ ?_
 rcases bifE h with ⟨hc8, h⟩ | ⟨hc8, h⟩
 ·refine Qa hC [.br true, .n 9, .denil 4 [some 1], .keep [4, 5] []] rfl ⟨tt_, hc8⟩ ?_
  cases h
  exact AK.done (ex_ [_, _] (an_ (an_ rfl (an_ rfl tt_)) (gives tt_)))
 ·obtain ⟨e9, he9, h⟩ := Qb h
  obtain ⟨x10, hx10, h⟩ := Qb h
  refine Qa hC [.br false, .n 3, .keep [2, 3, 4, 5, 6] [2, 3]] rfl ⟨tt_, hc8⟩ ?_
  refine AK.draw2 Qo hC mixed [.a .no (some ([], .agg (Qd n1))) false, .a .no none false, .a .no none false, .a .no none false, .a .no none false, .a (.row (Qi e9)) none false, .a .no none false, .a .no none false, .a .no none false, .a .no none false, .a .no none false, .a (.c false [.d, .d, .d, .d] (.tup [.sl 1 (x10.1.map Qh), .i .i64 x10.2])) none false, .a .no none false, .a .no none false, .m .s, .m .s] [] [] [4, 5] [] rfl rfl rfl ⟨⟨⟨tt_, rfl⟩, (idxM he9)⟩, (QeA _ _ _ _ hx10)⟩ rfl (by kernel_rfl) rfl rfl rfl ?_
  refine Qa hC [.n 2, .keep [4, 5] []] rfl tt_ ?_
  cases h
  exact AK.done (ex_ [_, _] (an_ (an_ rfl (an_ rfl tt_)) (gives tt_)))
def QaV (s1 : (List (List (Int × Int)))) : Option (List (List (Int × Int))) :=
 (chk (decide (([] : List (List (Int × Int))).length + s1.length ≤ 4294967296))).bind fun _ =>
 some (([] : List (List (Int × Int))) ++ s1)
theorem QhE (s1 : (List (List (Int × Int)))) {r : (List (List (Int × Int)))} (h : QaV s1 = some r) : Qc Tryz.prog 85 [.sl 1 (s1.map Qh)] [] (Gives (.own 30000 r.length) [(30000, .arr 1 (r.map Qh))]) := by
 refine Qc.walk 8 Tryz.func85 rfl Tryz.ntmps85 rfl fun C hC => ?_
 unfold QaV at h
 refine Qa hC [.n 9] rfl tt_ ?_
 refine AK.eqNil rfl rfl rfl (bleN hC.n rfl) rfl rfl Qu3 ?_ ?_
 ·intro hz4
  replace h : some ([] : List (List (Int × Int))) = some r := by simpa [chk, List.map_eq_nil_iff.1 hz4] using h
  refine Qa hC [.n 10, .adopt 2 30000 1, .sayO 30000 (.arr 1 (([] : List (List (Int × Int))).map Qh)), .say 2 (.own 30000 ([] : List (List (Int × Int))).length), .keep [2] [30000]] rfl ⟨⟨tt_, rfl⟩, rfl⟩ ?_
  cases h
  exact AK.done (ex_ [_] (an_ (an_ rfl tt_) (gives ⟨rfl, tt_⟩)))
 ·obtain ⟨_, hk5, h⟩ := Qb h
  replace hk5 := chkE hk5
  refine Qa hC [.n 8, .sayO 5 (.arr 1 (([] : List (List (Int × Int))).map Qh)), .say 5 (.own 5 ([] : List (List (Int × Int))).length), .n 1, .app ((([] : List (List (Int × Int))) ++ s1).map Qh) (([] : List (List (Int × Int))) ++ s1).length, .n 4, .keep [2] [5], .ren 5 30000, .keep [2] [30000]] rfl ⟨⟨⟨tt_, rfl⟩, rfl⟩, ⟨Qg, Qes hk5 Qg, Qc0, QgG Qg⟩⟩ ?_
  cases h
  exact AK.done (ex_ [_] (an_ (an_ rfl tt_) (gives ⟨rfl, tt_⟩)))
def QbI (s1 : (List (Int × Int))) : Option (List (Int × Int)) :=
 (chk (decide (([] : List (Int × Int)).length + s1.length ≤ 4294967296))).bind fun _ =>
 some (([] : List (Int × Int)) ++ s1)
theorem Qjj (s1 : (List (Int × Int))) {r : (List (Int × Int))} (h : QbI s1 = some r) : Qc Tryz.prog 86 [.sl 2 (s1.map Qt)] [] (Gives (.own 30000 r.length) [(30000, .arr 2 (r.map Qt))]) := by
 refine Qc.walk 8 Tryz.func86 rfl Tryz.ntmps86 rfl fun C hC => ?_
 unfold QbI at h
 refine Qa hC [.n 9] rfl tt_ ?_
 refine AK.eqNil rfl rfl rfl (bleN hC.n rfl) rfl rfl Qu5 ?_ ?_
 ·intro hz4
  replace h : some ([] : List (Int × Int)) = some r := by simpa [chk, List.map_eq_nil_iff.1 hz4] using h
  refine Qa hC [.n 10, .adopt 2 30000 2, .sayO 30000 (.arr 2 (([] : List (Int × Int)).map Qt)), .say 2 (.own 30000 ([] : List (Int × Int)).length), .keep [2] [30000]] rfl ⟨⟨tt_, rfl⟩, rfl⟩ ?_
  cases h
  exact AK.done (ex_ [_] (an_ (an_ rfl tt_) (gives ⟨rfl, tt_⟩)))
 ·obtain ⟨_, hk5, h⟩ := Qb h
  replace hk5 := chkE hk5
  refine Qa hC [.n 8, .sayO 5 (.arr 2 (([] : List (Int × Int)).map Qt)), .say 5 (.own 5 ([] : List (Int × Int)).length), .n 1, .app ((([] : List (Int × Int)) ++ s1).map Qt) (([] : List (Int × Int)) ++ s1).length, .n 4, .keep [2] [5], .ren 5 30000, .keep [2] [30000]] rfl ⟨⟨⟨tt_, rfl⟩, rfl⟩, ⟨Qg, Qes hk5 Qg, Qc0, QgG Qg⟩⟩ ?_
  cases h
  exact AK.done (ex_ [_] (an_ (an_ rfl tt_) (gives ⟨rfl, tt_⟩)))
def Qc7 (x3 : (List (List (Int × Int)))) (x5 : Int) (l6 : (List (List (Int × Int)))) : Option ((Int × (List (List (Int × Int)))) ⊕ (List (List (Int × Int)))) :=
 bif (decide (x5 < (x3.length : Int))) then
 (idx l6 x5).bind fun e11 =>
 (QbI e11).bind fun x12 =>
 (idx l6 x5).bind fun e13 =>
 some (.inl ((w64 (x5 + 1)), (l6.set x5.toNat x12)))
 else
 some (.inr l6)
def Qj9 (l9 : (List (List (Int × Int)))) : Option (List (List (Int × Int))) :=
 some l9
def Qhe (m1 : (List (List (Int × Int)))) : Option (List (List (Int × Int))) :=
 (QaV m1).bind fun x3 =>
 (QE (fun st => Qc7 x3 st.1 st.2) (0, x3)).bind (fun q => Qj9 q)
theorem Qmy (m1 : (List (List (Int × Int)))) {r : (List (List (Int × Int)))} (h : Qhe m1 = some r) : Qc Tryz.prog 41 [.sl 1 (m1.map Qh)] [] (Gives (.own 30000 r.length) [(30000, .arr 1 (r.map Qh))]) := by
 refine Qc.walk 22 Tryz.func41 rfl Tryz.ntmps41 rfl fun C hC => ?_
 unfold Qhe at h
 obtain ⟨x3, hx3, h⟩ := Qb h
 refine Qa hC [.n 8, .o (.co false [.d] 1 (x3.map Qh) x3.length), .n 12, .keep [3, 8, 9, 10] [7]] rfl ⟨tt_, ⟨(QhE _ hx3), Qg, .inl rfl⟩⟩ ?_
 obtain ⟨l9, hl14, h⟩ := Qb h
 refine AK.loop (body := (fun st => Qc7 x3 st.1 st.2)) (fun st σ => σ = ⟨[(3, .own 7 st.2.length), (8, .own 7 st.2.length), (9, .i .i64 (x3.length : Int)), (10, .i .i64 st.1)], [(7, .arr 1 (st.2.map Qh))]⟩) (fun q e σ => e = .exit 0 ∧ σ = ⟨[(3, .own 7 q.length)], [(7, .arr 1 (q.map Qh))]⟩) hl14 rfl ?_ ?_
 ·rintro ⟨x5, l6⟩ o σ rfl h
  replace h : Qc7 x3 x5 l6 = some o := h
  unfold Qc7 at h
  refine Qa hC [.n 6] rfl tt_ ?_
  rcases bifE h with ⟨hc10, h⟩ | ⟨hc10, h⟩
  ·obtain ⟨e11, he11, h⟩ := Qb h
   obtain ⟨x12, hx12, h⟩ := Qb h
   obtain ⟨e13, he13, h⟩ := Qb h
   refine Qa hC [.br true, .n 8, .o (.row (Qh e11)), .n 8, .o (.co false [.d] 2 (x12.map Qt) x12.length), .n 1, .frz 18 (x12.map Qt) [18] [], .st (Qh e13) ((l6.set x5.toNat x12).map Qh), .n 7, .say 3 (.own 7 (l6.set x5.toNat x12).length), .say 8 (.own 7 (l6.set x5.toNat x12).length), .keep [3, 8, 9, 10] [7]] rfl ⟨⟨⟨⟨⟨⟨⟨⟨⟨tt_, hc10⟩, (QeX he11 rfl)⟩, (Qcz (idxE he11).2)⟩, ⟨(Qjj _ hx12), Qg, .inl rfl⟩⟩, (QeX he13 rfl)⟩, ⟨tt_, (frzL Qg)⟩⟩, ⟨(Qcz (idxE he13).2), Qjn rfl⟩⟩, (congrArg (fun n => V.own 7 n) (by simp))⟩, (congrArg (fun n => V.own 7 n) (by simp))⟩ ?_
   cases h
   exact rndN rfl rfl
  ·refine Qa hC [.br false, .n 2, .keep [3] [7]] rfl ⟨tt_, hc10⟩ ?_
   cases h
   exact rndX rfl (an_ rfl rfl)
 ·replace h : Qj9 l9 = some r := h
  unfold Qj9 at h
  rintro e σ ⟨rfl, rfl⟩
  refine Qa hC [.n 9, .keep [2] [7], .ren 7 30000, .keep [2] [30000]] rfl tt_ ?_
  cases h
  exact AK.done (ex_ [_] (an_ (an_ rfl tt_) (gives ⟨rfl, tt_⟩)))
def QbY (a1 : (List (List (Int × Int)))) (b2 : (List (List (Int × Int)))) (x9 : Int) (l10 : (List (List (Int × Int)))) : Option ((Int × (List (List (Int × Int)))) ⊕ (Int ⊕ (List (List (Int × Int))))) :=
 bif (decide (x9 < ((List.replicate (min2 (a1.length : Int) (b2.length : Int)).toNat (([] : (List (Int × Int))) : (List (Int × Int)))).length : Int))) then
 (idx a1 x9).bind fun e16 =>
 (idx b2 x9).bind fun e17 =>
 (Qeb e16 e17).bind fun x18 =>
 (idx l10 x9).bind fun e19 =>
 bif (x18.2 != 0) then
 some (.inr (.inl x18.2))
 else
 some (.inl ((w64 (x9 + 1)), (l10.set x9.toNat x18.1)))
 else
 some (.inr (.inr l10))
def Qhl (x13 : Int) : Option ((List (List (Int × Int))) × Int) :=
 some (([] : List (List (Int × Int))), x13)
def Qhm (l14 : (List (List (Int × Int)))) : Option ((List (List (Int × Int))) × Int) :=
 some (l14, 0)
def Qc8 (a1 : (List (List (Int × Int)))) (b2 : (List (List (Int × Int)))) : Option ((List (List (Int × Int))) × Int) :=
 (chk (decide (0 ≤ (min2 (a1.length : Int) (b2.length : Int))) && decide ((min2 (a1.length : Int) (b2.length : Int)) ≤ (min2 (a1.length : Int) (b2.length : Int))) && decide ((min2 (a1.length : Int) (b2.length : Int)) ≤ 4294967296))).bind fun _ =>
 (QE (fun st => QbY a1 b2 st.1 st.2) (0, (List.replicate (min2 (a1.length : Int) (b2.length : Int)).toNat (([] : (List (Int × Int))) : (List (Int × Int)))))).bind (Sum.elim (fun q => Qhl q) (fun q => Qhm q))
theorem Qj5 (a1 : (List (List (Int × Int)))) (b2 : (List (List (Int × Int)))) {r : ((List (List (Int × Int))) × Int)} (h : Qc8 a1 b2 = some r) : Qc Tryz.prog 35 [.sl 1 (a1.map Qh), .sl 1 (b2.map Qh), .clo (.func 24) [] []] [] (Gives (.tup [.sl 1 (r.1.map Qh), .i .i64 r.2]) []) := by
 refine Qc.walk 43 Tryz.func35 rfl Tryz.ntmps35 rfl fun C hC => ?_
 unfold Qc8 at h
 obtain ⟨_, hk7, h⟩ := Qb h
 replace hk7 := chkE hk7
 refine Qa hC [.n 9, .o (.ln a1.length), .n 1, .o (.ln b2.length), .n 1, .o (.rows (List.replicate (min2 (a1.length : Int) (b2.length : Int)).toNat [.lit (.slice none 0 0)]))] rfl ⟨⟨⟨tt_, Qg⟩, Qg⟩, ⟨hk7, rfl⟩⟩ ?_
 refine AK.denilA (b := 16) [some 2] rfl (QrV (f := Qh) (x := ([] : (List (Int × Int)))) rfl) ?_
 refine Qa hC [.say 16 (.own 16 (List.replicate (min2 (a1.length : Int) (b2.length : Int)).toNat (([] : (List (Int × Int))) : (List (Int × Int)))).length), .n 12, .keep [0, 1, 2, 8, 18, 19] [16]] rfl ⟨tt_, (by simp)⟩ ?_
 obtain ⟨o21, hl21, h⟩ := Qb h
 refine AK.loop (body := (fun st => QbY a1 b2 st.1 st.2)) (fun st σ => σ = ⟨[(0, .sl 1 (a1.map Qh)), (1, .sl 1 (b2.map Qh)), (2, .clo (.func 24) [] []), (8, .own 16 st.2.length), (18, .i .i64 ((List.replicate (min2 (a1.length : Int) (b2.length : Int)).toNat (([] : (List (Int × Int))) : (List (Int × Int)))).length : Int)), (19, .i .i64 st.1)], [(16, .arr 1 (st.2.map Qh))]⟩) (Sum.elim (fun q e σ => e = .ret ∧ σ = ⟨[(6, .lit (.slice none 0 0)), (7, .i .i64 q)], []⟩) (fun q e σ => e = .exit 0 ∧ σ = ⟨[(8, .own 16 q.length)], [(16, .arr 1 (q.map Qh))]⟩)) hl21 rfl ?_ ?_
 ·rintro ⟨x9, l10⟩ o σ rfl h
  replace h : QbY a1 b2 x9 l10 = some o := h
  unfold QbY at h
  refine Qa hC [.n 6] rfl tt_ ?_
  rcases bifE h with ⟨hc15, h⟩ | ⟨hc15, h⟩
  ·obtain ⟨e16, he16, h⟩ := Qb h
   obtain ⟨e17, he17, h⟩ := Qb h
   obtain ⟨x18, hx18, h⟩ := Qb h
   obtain ⟨e19, he19, h⟩ := Qb h
   refine Qa hC [.br true, .n 16, .keep [0, 1, 2, 8, 9, 10, 18, 19] [16]] rfl ⟨tt_, hc15⟩ ?_
   refine AK.draw2 Qo hC mixed [.a .no none false, .a .no none false, .a .no none false, .a .no none false, .a .no none false, .a (.row (Qh e16)) none false, .a .no none false, .a .no none false, .a .no none false, .a (.row (Qh e17)) none false, .a .no none false, .a (.c false [.d, .d] (.tup [.sl 2 (x18.1.map Qt), .i .i64 x18.2])) none false, .a .no none true true, .a .no none false, .a .no none true, .a .no none false, .m (.st (Qh e19) ((l10.set x9.toNat x18.1).map Qh)), .m .s] [0, 1, 2, 8, 9, 10, 18, 19] [] [0, 1, 2, 8, 10, 18, 19] [16] rfl rfl rfl ⟨⟨⟨⟨⟨tt_, (idxM he16)⟩, (idxM he17)⟩, (Qn6 _ _ hx18)⟩, (QeX he19 rfl)⟩, ⟨(Qcz (idxE he19).2), Qjn rfl⟩⟩ rfl (by kernel_rfl) rfl rfl rfl ?_
   refine Qa hC [.n 7] rfl tt_ ?_
   rcases bifE h with ⟨hc20, h⟩ | ⟨hc20, h⟩
   ·refine Qa hC [.br true, .n 10, .keep [6, 7] []] rfl ⟨tt_, hc20⟩ ?_
    cases h
    exact rndR rfl (an_ rfl rfl)
   ·refine Qa hC [.br false, .n 7, .say 8 (.own 16 (l10.set x9.toNat x18.1).length), .keep [0, 1, 2, 8, 18, 19] [16]] rfl ⟨⟨tt_, hc20⟩, (congrArg (fun n => V.own 16 n) (by simp))⟩ ?_
    cases h
    exact rndN rfl rfl
  ·refine Qa hC [.br false, .n 2, .keep [8] [16]] rfl ⟨tt_, hc15⟩ ?_
   cases h
   exact rndX rfl (an_ rfl rfl)
 ·rcases o21 with (x13 | l14)
  ·replace h : Qhl x13 = some r := h
   unfold Qhl at h
   rintro e σ ⟨rfl, rfl⟩
   refine Qa hC [.n 2, .denil 6 [some 1], .keep [6, 7] []] rfl tt_ ?_
   cases h
   exact AK.done (ex_ [_, _] (an_ (an_ rfl (an_ rfl tt_)) (gives tt_)))
  ·replace h : Qhm l14 = some r := h
   unfold Qhm at h
   rintro e σ ⟨rfl, rfl⟩
   refine Qa hC [.n 10, .frz 16 (l14.map Qh) [6] [], .keep [6, 7] []] rfl ⟨tt_, ⟨tt_, (frzL Qg)⟩⟩ ?_
   cases h
   exact AK.done (ex_ [_, _] (an_ (an_ rfl (an_ rfl tt_)) (gives tt_)))
def Qeg (x13 : Int) (l19 : (List (List (Int × Int)))) : Option ((Int × (List (List (Int × Int)))) ⊕ (List (List (Int × Int)))) :=
 some (.inl ((w64 (x13 + 1)), l19))
def Qeh (e11 : Qr) (x13 : Int) (l14 : (List (List (Int × Int)))) : Option ((Int × (List (List (Int × Int)))) ⊕ (List (List (Int × Int)))) :=
 bif (decide (x13 < (e11.Cancel.length : Int))) then
 (idx e11.Cancel x13).bind fun e20 =>
 bif ((decide (0 ≤ e20)) && (decide (e20 < (l14.length : Int)))) then
 (idx l14 e20).bind fun e24 =>
 Qeg x13 (l14.set e20.toNat ([] : List (Int × Int)))
 else
 Qeg x13 l14
 else
 some (.inr l14)
def Qgg (x8 : ((List (List (Int × Int))) × Int)) (l17 : (List (List (Int × Int)))) : Option ((List (List (Int × Int))) × Int) :=
 (Qc8 l17 x8.1).bind fun x26 =>
 some (x26.1, x26.2)
def Qhf (n1 : TNet) (m2 : (List (List (Int × Int)))) (o3 : Qk) : Option ((List (List (Int × Int))) × Int) :=
 (QhW n1 o3).bind fun x8 =>
 bif (x8.2 != 0) then
 some (([] : List (List (Int × Int))), x8.2)
 else
 (Qhe m2).bind fun x10 =>
 (idx n1.Tasks o3.Task).bind fun e11 =>
 (QE (fun st => Qeh e11 st.1 st.2) (0, x10)).bind (fun q => Qgg x8 q)
theorem Qmz (n1 : TNet) (m2 : (List (List (Int × Int)))) (o3 : Qk) {r : ((List (List (Int × Int))) × Int)} (h : Qhf n1 m2 o3 = some r) : Qc Tryz.prog 12 [.agg (Qd n1), .sl 1 (m2.map Qh), .agg (Qj o3)] [] (Gives (.tup [.sl 1 (r.1.map Qh), .i .i64 r.2]) []) := by
 refine Qc.walk 53 Tryz.func12 rfl Tryz.ntmps12 rfl fun C hC => ?_
 unfold Qhf at h
 obtain ⟨x8, hx8, h⟩ := Qb h
 refine Qa hC [.n 10, .v .no [] (.agg (Qd n1)), .v .no [] (.agg (Qj o3)), .o (.c false [.d, .d] (.tup [.sl 1 (x8.1.map Qh), .i .i64 x8.2])), .n 14] rfl ⟨⟨⟨tt_, rfl⟩, rfl⟩, (Qqb _ _ hx8)⟩ ?_
 rcases bifE h with ⟨hc9, h⟩ | ⟨hc9, h⟩
 ·refine Qa hC [.br true, .n 9, .denil 6 [some 1], .keep [6, 7] []] rfl ⟨tt_, hc9⟩ ?_
  cases h
  exact AK.done (ex_ [_, _] (an_ (an_ rfl (an_ rfl tt_)) (gives tt_)))
 ·obtain ⟨x10, hx10, h⟩ := Qb h
  obtain ⟨e11, he11, h⟩ := Qb h
  refine Qa hC [.br false, .n 5, .o (.co false [.d] 1 (x10.map Qh) x10.length), .n 10, .o (.row (Qi e11)), .n 2, .o (.ln e11.Cancel.length), .n 4, .keep [8, 10, 30, 31, 32] [23]] rfl ⟨⟨⟨⟨tt_, hc9⟩, ⟨(Qmy _ hx10), Qg, .inl rfl⟩⟩, (idxM he11)⟩, Qg⟩ ?_
  obtain ⟨l17, hl25, h⟩ := Qb h
  refine AK.loop (body := (fun st => Qeh e11 st.1 st.2)) (fun st σ => σ = ⟨[(8, .sl 1 (x8.1.map Qh)), (10, .own 23 st.2.length), (30, .sl 1 (e11.Cancel.map Qe)), (31, .i .i64 (e11.Cancel.length : Int)), (32, .i .i64 st.1)], [(23, .arr 1 (st.2.map Qh))]⟩) (fun q e σ => e = .exit 0 ∧ σ = ⟨[(8, .sl 1 (x8.1.map Qh)), (10, .own 23 q.length)], [(23, .arr 1 (q.map Qh))]⟩) hl25 rfl ?_ ?_
  ·rintro ⟨x13, l14⟩ o σ rfl h
   replace h : Qeh e11 x13 l14 = some o := h
   unfold Qeh at h
   refine Qa hC [.n 6] rfl tt_ ?_
   rcases bifE h with ⟨hc18, h⟩ | ⟨hc18, h⟩
   ·refine Qa hC [.br true, .n 2] rfl ⟨tt_, hc18⟩ ?_
    refine AK.meet (fun σ => ∃ l19 : (List (List (Int × Int))), σ = ⟨[(8, .sl 1 (x8.1.map Qh)), (10, .own 23 l19.length), (30, .sl 1 (e11.Cancel.map Qe)), (31, .i .i64 (e11.Cancel.length : Int)), (32, .i .i64 x13)], [(23, .arr 1 (l19.map Qh))]⟩ ∧ Qeg x13 l19 = some o) ?_ ?_
    ·obtain ⟨e20, he20, h⟩ := Qb h
     refine Qa hC [.n 3, .o (.row (Qe e20)), .n 5] rfl ⟨tt_, (idxM he20)⟩ ?_
     refine AK.meetX (fun σ => σ = ⟨[(8, .sl 1 (x8.1.map Qh)), (10, .own 23 l14.length), (12, .i .i64 e20), (30, .sl 1 (e11.Cancel.map Qe)), (31, .i .i64 (e11.Cancel.length : Int)), (32, .i .i64 x13), (43, .b ((decide (0 ≤ e20)) && (decide (e20 < (l14.length : Int)))))], [(23, .arr 1 (l14.map Qh))]⟩) ?_ ?_
     ·refine Qa hC [.n 4] rfl tt_ ?_
      rcases QJ (decide (0 ≤ e20)) with hc22 | hc22
      ·refine Qa hC [.say 38 (.b true), .n 6, .say 43 (.b ((decide (0 ≤ e20)) && (decide (e20 < (l14.length : Int))))), .keep [8, 10, 12, 30, 31, 32, 43] [23]] rfl ⟨⟨tt_, (congrArg V.b hc22)⟩, (congrArg V.b (andT hc22 rfl))⟩ ?_
       exact AK.met rfl
      ·refine Qa hC [.say 38 (.b false), .n 6, .say 43 (.b ((decide (0 ≤ e20)) && (decide (e20 < (l14.length : Int))))), .keep [8, 10, 12, 30, 31, 32, 43] [23]] rfl ⟨⟨tt_, (congrArg V.b hc22)⟩, (congrArg V.b (andF hc22 rfl))⟩ ?_
       exact AK.met rfl
     ·rintro σ rfl
      refine Qa hC [.n 1] rfl tt_ ?_
      rcases bifE h with ⟨hc23, h⟩ | ⟨hc23, h⟩
      ·obtain ⟨e24, he24, h⟩ := Qb h
       refine Qa hC [.br true, .n 4, .x (fun σ => σ.set 23 (.arr 1 ((l14.set e20.toNat ([] : List (Int × Int))).map Qh))), .n 2, .say 10 (.own 23 (l14.set e20.toNat ([] : List (Int × Int))).length), .keep [8, 10, 30, 31, 32] [23]] rfl ⟨⟨⟨⟨tt_, hc23⟩, (QeX he24 rfl)⟩, (Stp.storeNil (zz := 2) (r := Qh e24) rfl rfl rfl rfl (Qcz (idxE he24).2) rfl (Qo.sz rfl) rfl (Qjn rfl))⟩, (congrArg (fun n => V.own 23 n) (by simp))⟩ ?_
       exact AK.met (ex_ _ (an_ rfl h))
      ·refine Qa hC [.br false, .n 2, .keep [8, 10, 30, 31, 32] [23]] rfl ⟨tt_, hc23⟩ ?_
       exact AK.met (ex_ _ (an_ rfl h))
    ·rintro σ ⟨l19, rfl, h⟩
     unfold Qeg at h
     refine Qa hC [.n 4, .keep [8, 10, 30, 31, 32] [23]] rfl tt_ ?_
     cases h
     exact rndN rfl rfl
   ·refine Qa hC [.br false, .n 2, .keep [8, 10] [23]] rfl ⟨tt_, hc18⟩ ?_
    cases h
    exact rndX rfl (an_ rfl rfl)
  ·replace h : Qgg x8 l17 = some r := h
   unfold Qgg at h
   rintro e σ ⟨rfl, rfl⟩
   obtain ⟨x26, hx26, h⟩ := Qb h
   refine Qa hC [.n 6, .frz 23 (l17.map Qh) [10, 48] [], .cm (.fn) [] [] [] [.d, .d, .d] [] (.tup [.sl 1 (x26.1.map Qh), .i .i64 x26.2]), .n 7, .keep [6, 7] []] rfl ⟨⟨tt_, ⟨⟨tt_, (frzL Qg)⟩, (frzL Qg)⟩⟩, (Qj5 _ _ hx26)⟩ ?_
   cases h
   exact AK.done (ex_ [_, _] (an_ (an_ rfl (an_ rfl tt_)) (gives tt_)))
def Qcl (n1 : TNet) (m2 : (List (List (Int × Int)))) (o3 : Qk) : Option ((List (List (Int × Int))) × Int) :=
 (QfO n1 m2 o3).bind fun x8 =>
 bif (x8.2 != 0) then
 some (([] : List (List (Int × Int))), x8.2)
 else
 (Qhf n1 x8.1 o3).bind fun x10 =>
 some (x10.1, x10.2)
theorem QhX (n1 : TNet) (m2 : (List (List (Int × Int)))) (o3 : Qk) {r : ((List (List (Int × Int))) × Int)} (h : Qcl n1 m2 o3 = some r) : Qc Tryz.prog 16 [.agg (Qd n1), .sl 1 (m2.map Qh), .agg (Qj o3)] [] (Gives (.tup [.sl 1 (r.1.map Qh), .i .i64 r.2]) []) := by
 refine Qc.walk 26 Tryz.func16 rfl Tryz.ntmps16 rfl fun C hC => ?_
 unfold Qcl at h
 obtain ⟨x8, hx8, h⟩ := Qb h
 refine Qa hC [.n 10, .v .no [] (.agg (Qd n1)), .n 1, .v .no [] (.agg (Qj o3)), .o (.c false [.d, .d, .d] (.tup [.sl 1 (x8.1.map Qh), .i .i64 x8.2])), .n 14] rfl ⟨⟨⟨tt_, rfl⟩, rfl⟩, (Qj8 _ _ _ hx8)⟩ ?_
 rcases bifE h with ⟨hc9, h⟩ | ⟨hc9, h⟩
 ·refine Qa hC [.br true, .n 9, .denil 6 [some 1], .keep [6, 7] []] rfl ⟨tt_, hc9⟩ ?_
  cases h
  exact AK.done (ex_ [_, _] (an_ (an_ rfl (an_ rfl tt_)) (gives tt_)))
 ·obtain ⟨x10, hx10, h⟩ := Qb h
  refine Qa hC [.br false, .n 4, .v .no [] (.agg (Qd n1)), .n 1, .v .no [] (.agg (Qj o3)), .o (.c false [.d, .d, .d] (.tup [.sl 1 (x10.1.map Qh), .i .i64 x10.2])), .n 7, .keep [6, 7] []] rfl ⟨⟨⟨⟨tt_, hc9⟩, rfl⟩, rfl⟩, (Qmz _ _ _ hx10)⟩ ?_
  cases h
  exact AK.done (ex_ [_, _] (an_ (an_ rfl (an_ rfl tt_)) (gives tt_)))
def Qmh (n1 : TNet) (m2 : (List (List (Int × Int)))) (o3 : Qk) : Option ((List (List (Int × Int))) × Int) :=
 (Qgf n1 o3).bind fun x8 =>
 bif (x8.2 != 0) then
 some (([] : List (List (Int × Int))), x8.2)
 else
 (Qc8 m2 x8.1).bind fun x10 =>
 some (x10.1, x10.2)
theorem QqN (n1 : TNet) (m2 : (List (List (Int × Int)))) (o3 : Qk) {r : ((List (List (Int × Int))) × Int)} (h : Qmh n1 m2 o3 = some r) : Qc Tryz.prog 14 [.agg (Qd n1), .sl 1 (m2.map Qh), .agg (Qj o3)] [] (Gives (.tup [.sl 1 (r.1.map Qh), .i .i64 r.2]) []) := by
 refine Qc.walk 24 Tryz.func14 rfl Tryz.ntmps14 rfl fun C hC => ?_
 unfold Qmh at h
 obtain ⟨x8, hx8, h⟩ := Qb h
 refine Qa hC [.n 10, .v .no [] (.agg (Qd n1)), .v .no [] (.agg (Qj o3)), .o (.c false [.d, .d] (.tup [.sl 1 (x8.1.map Qh), .i .i64 x8.2])), .n 14] rfl ⟨⟨⟨tt_, rfl⟩, rfl⟩, (Ql5 _ _ hx8)⟩ ?_
 rcases bifE h with ⟨hc9, h⟩ | ⟨hc9, h⟩
 ·refine Qa hC [.br true, .n 9, .denil 6 [some 1], .keep [6, 7] []] rfl ⟨tt_, hc9⟩ ?_
  cases h
  exact AK.done (ex_ [_, _] (an_ (an_ rfl (an_ rfl tt_)) (gives tt_)))
 ·obtain ⟨x10, hx10, h⟩ := Qb h
  refine Qa hC [.br false, .n 6, .cm (.fn) [] [] [] [.d, .d, .d] [] (.tup [.sl 1 (x10.1.map Qh), .i .i64 x10.2]), .n 7, .keep [6, 7] []] rfl ⟨⟨tt_, hc9⟩, (Qj5 _ _ hx10)⟩ ?_
  cases h
  exact AK.done (ex_ [_, _] (an_ (an_ rfl (an_ rfl tt_)) (gives tt_)))
def Qcd (l3 : (List Qk)) (n1 : TNet) (m10 : (List (List (Int × Int)))) (x11 : Int) : Option (((List (List (Int × Int))) × Int) ⊕ (((List (List (Int × Int))) × Int) ⊕ (List (List (Int × Int))))) :=
 bif (decide (x11 < (l3.length : Int))) then
 (idx l3 x11).bind fun e18 =>
 (Qcl n1 m10 e18).bind fun x19 =>
 bif (x19.2 != 0) then
 some (.inr (.inl (m10, x11)))
 else
 some (.inl (x19.1, (w64 (x11 + 1))))
 else
 some (.inr (.inr m10))
def QkN (x14 : (List (List (Int × Int)))) (x15 : Int) : Option ((List (List (Int × Int))) × Int) :=
 some (x14, x15)
def QkO (l3 : (List Qk)) (m16 : (List (List (Int × Int)))) : Option ((List (List (Int × Int))) × Int) :=
 some (m16, (l3.length : Int))
def Qfm (n1 : TNet) (m2 : (List (List (Int × Int)))) (l3 : (List Qk)) : Option ((List (List (Int × Int))) × Int) :=
 (Qhe m2).bind fun x8 =>
 (QE (fun st => Qcd l3 n1 st.1 st.2) (x8, 0)).bind (Sum.elim (fun q => QkN q.1 q.2) (fun q => QkO l3 q))
theorem QiS (n1 : TNet) (m2 : (List (List (Int × Int)))) (l3 : (List Qk)) {r : ((List (List (Int × Int))) × Int)} (h : Qfm n1 m2 l3 = some r) : Qc Tryz.prog 19 [.agg (Qd n1), .sl 1 (m2.map Qh), .sl 4 (l3.map Qj)] [] (Gives (.tup [.sl 1 (r.1.map Qh), .i .i64 r.2]) []) := by
 refine Qc.walk 37 Tryz.func19 rfl Tryz.ntmps19 rfl fun C hC => ?_
 unfold Qfm at h
 obtain ⟨x8, hx8, h⟩ := Qb h
 refine Qa hC [.n 10, .o (.co false [.d] 1 (x8.map Qh) x8.length), .n 7, .o (.ln l3.length), .n 4, .frz 13 (x8.map Qh) [1] [], .keep [1, 2, 3, 14, 15, 16] [3]] rfl ⟨⟨⟨tt_, ⟨(Qmy _ hx8), Qg, .inl rfl⟩⟩, Qg⟩, ⟨tt_, (frzL Qg)⟩⟩ ?_
 obtain ⟨o21, hl21, h⟩ := Qb h
 refine AK.loop (body := (fun st => Qcd l3 n1 st.1 st.2)) (fun st σ => σ = ⟨[(1, .sl 1 (st.1.map Qh)), (2, .sl 4 (l3.map Qj)), (3, .loc 3 0 0), (14, .sl 4 (l3.map Qj)), (15, .i .i64 (l3.length : Int)), (16, .i .i64 st.2)], [(3, .var (Qd n1))]⟩) (Sum.elim (fun q e σ => e = .ret ∧ σ = ⟨[(6, .sl 1 (q.1.map Qh)), (7, .i .i64 q.2)], []⟩) (fun q e σ => e = .exit 0 ∧ σ = ⟨[(1, .sl 1 (q.map Qh)), (2, .sl 4 (l3.map Qj))], []⟩)) hl21 rfl ?_ ?_
 ·rintro ⟨m10, x11⟩ o σ rfl h
  replace h : Qcd l3 n1 m10 x11 = some o := h
  unfold Qcd at h
  refine Qa hC [.n 6] rfl tt_ ?_
  rcases bifE h with ⟨hc17, h⟩ | ⟨hc17, h⟩
  ·obtain ⟨e18, he18, h⟩ := Qb h
   obtain ⟨x19, hx19, h⟩ := Qb h
   refine Qa hC [.br true, .n 7, .o (.row (Qj e18)), .v .no [] (.agg (Qj e18)), .n 3, .sayO 9 (.var (Qj e18)), .n 4, .v .no [] (.agg (Qd n1)), .n 1, .v .no [] (.agg (Qj e18)), .o (.c false [.d, .d, .d] (.tup [.sl 1 (x19.1.map Qh), .i .i64 x19.2])), .n 14] rfl ⟨⟨⟨⟨⟨⟨⟨tt_, hc17⟩, (idxM he18)⟩, rfl⟩, rfl⟩, rfl⟩, rfl⟩, (QhX _ _ _ hx19)⟩ ?_
   rcases bifE h with ⟨hc20, h⟩ | ⟨hc20, h⟩
   ·refine Qa hC [.br true, .n 12, .keep [6, 7] []] rfl ⟨tt_, hc20⟩ ?_
    cases h
    exact rndR rfl (an_ rfl rfl)
   ·refine Qa hC [.br false, .n 12, .keep [1, 2, 3, 14, 15, 16] [3]] rfl ⟨tt_, hc20⟩ ?_
    cases h
    exact rndN rfl rfl
  ·refine Qa hC [.br false, .n 2, .keep [1, 2] []] rfl ⟨tt_, hc17⟩ ?_
   cases h
   exact rndX rfl (an_ rfl rfl)
 ·rcases o21 with (⟨x14, x15⟩ | m16)
  ·replace h : QkN x14 x15 = some r := h
   unfold QkN at h
   rintro e σ ⟨rfl, rfl⟩
   refine Qa hC [.n 2, .keep [6, 7] []] rfl tt_ ?_
   cases h
   exact AK.done (ex_ [_, _] (an_ (an_ rfl (an_ rfl tt_)) (gives tt_)))
  ·replace h : QkO l3 m16 = some r := h
   unfold QkO at h
   rintro e σ ⟨rfl, rfl⟩
   refine Qa hC [.n 6, .o (.ln l3.length), .n 5, .keep [6, 7] []] rfl ⟨tt_, Qg⟩ ?_
   cases h
   exact AK.done (ex_ [_, _] (an_ (an_ rfl (an_ rfl tt_)) (gives tt_)))
def QjH (n1 : TNet) (t2 : Qr) : Option (TNet × Qr) :=
 some (n1, t2)
theorem Qn7 (n1 : TNet) (t2 : Qr) {r : (TNet × Qr)} (h : QjH n1 t2 = some r) : Qc Tryz.prog 153 [.agg (Qd n1), .agg (Qi t2)] [] (Gives (.clo (.func 199) [] [.loc 3 0 0, .loc 2 0 0]) [(2, .var (Qd r.1)), (3, .var (Qi r.2))]) := by
 refine Qc.walk 6 Tryz.func153 rfl Tryz.ntmps153 rfl fun C hC => ?_
 unfold QjH at h
 refine Qa hC [.n 14, .keep [4] [2, 3]] rfl tt_ ?_
 cases h
 exact AK.done (ex_ [_] (an_ (an_ rfl tt_) (gives ⟨rfl, rfl, tt_⟩)))
def Qcu (s1 : (List (List Int))) : Option (List (List Int)) :=
 (chk (decide (([] : List (List Int)).length + s1.length ≤ 4294967296))).bind fun _ =>
 some (([] : List (List Int)) ++ s1)
theorem Qka (s1 : (List (List Int))) {r : (List (List Int))} (h : Qcu s1 = some r) : Qc Tryz.prog 155 [.sl 1 (s1.map Qv)] [] (Gives (.own 30000 r.length) [(30000, .arr 1 (r.map Qv))]) := by
 refine Qc.walk 8 Tryz.func155 rfl Tryz.ntmps155 rfl fun C hC => ?_
 unfold Qcu at h
 refine Qa hC [.n 9] rfl tt_ ?_
 refine AK.eqNil rfl rfl rfl (bleN hC.n rfl) rfl rfl QuN ?_ ?_
 ·intro hz4
  replace h : some ([] : List (List Int)) = some r := by simpa [chk, List.map_eq_nil_iff.1 hz4] using h
  refine Qa hC [.n 10, .adopt 2 30000 1, .sayO 30000 (.arr 1 (([] : List (List Int)).map Qv)), .say 2 (.own 30000 ([] : List (List Int)).length), .keep [2] [30000]] rfl ⟨⟨tt_, rfl⟩, rfl⟩ ?_
  cases h
  exact AK.done (ex_ [_] (an_ (an_ rfl tt_) (gives ⟨rfl, tt_⟩)))
 ·obtain ⟨_, hk5, h⟩ := Qb h
  replace hk5 := chkE hk5
  refine Qa hC [.n 8, .sayO 5 (.arr 1 (([] : List (List Int)).map Qv)), .say 5 (.own 5 ([] : List (List Int)).length), .n 1, .app ((([] : List (List Int)) ++ s1).map Qv) (([] : List (List Int)) ++ s1).length, .n 4, .keep [2] [5], .ren 5 30000, .keep [2] [30000]] rfl ⟨⟨⟨tt_, rfl⟩, rfl⟩, ⟨Qg, Qes hk5 Qg, Qc0, QgG Qg⟩⟩ ?_
  cases h
  exact AK.done (ex_ [_] (an_ (an_ rfl tt_) (gives ⟨rfl, tt_⟩)))
def Qei (row1 : (List Int)) (v2 : QA) : Option Bool :=
 (QbX v2 row1).bind fun x4 =>
 some (x4 != 0)
theorem QkW (row1 : (List Int)) (v2 : QA) {r : Bool} (h : Qei row1 v2 = some r) : Qc Tryz.prog 156 [.sl 1 (row1.map Qe), .loc 200000 0 0] [(200000, .var (Qp v2))] (Gives (.b r) [(200000, .var (Qp v2))]) := by
 refine Qc.walk 8 Tryz.func156 rfl Tryz.ntmps156 rfl fun C hC => ?_
 unfold Qei at h
 obtain ⟨x4, hx4, h⟩ := Qb h
 refine Qa hC [.n 7, .v .no [] (.agg (Qp v2)), .n 1, .o (.c false [.d, .d] (.i .i64 x4)), .n 5, .keep [3] [200000]] rfl ⟨⟨tt_, rfl⟩, (QiG _ _ hx4)⟩ ?_
 cases h
 exact AK.done (ex_ [_] (an_ (an_ rfl tt_) (gives ⟨rfl, tt_⟩)))
def Qae (l1 : (List (List Int))) (v2 : QA) (x5 : Int) : Option (Int ⊕ (Int ⊕ Unit)) :=
 bif (decide (x5 < (l1.length : Int))) then
 (idx l1 x5).bind fun e9 =>
 (Qei e9 v2).bind fun x10 =>
 bif x10 then
 some (.inr (.inl x5))
 else
 some (.inl (w64 (x5 + 1)))
 else
 some (.inr (.inr ()))
def Qcf (x7 : Int) : Option Int :=
 some x7
def Qcg : Option Int :=
 some (-1)
def QaT (l1 : (List (List Int))) (v2 : QA) : Option Int :=
 (QE (fun st => Qae l1 v2 st) 0).bind (Sum.elim (fun q => Qcf q) (fun q => Qcg))
theorem Qi8 (l1 : (List (List Int))) (v2 : QA) {r : Int} (h : QaT l1 v2 = some r) : Qc Tryz.prog 190 [.own 200000 l1.length, .clo (.func 156) [] [.loc 200001 0 0]] [(200000, .arr 1 (l1.map Qv)), (200001, .var (Qp v2))] (Gives (.i .i64 r) [(200000, .arr 1 (l1.map Qv)), (200001, .var (Qp v2))]) := by
 refine Qc.walk 19 Tryz.func190 rfl Tryz.ntmps190 rfl fun C hC => ?_
 unfold QaT at h
 refine Qa hC [.n 14, .keep [0, 1, 7, 8] [200000, 200001]] rfl tt_ ?_
 obtain ⟨o12, hl12, h⟩ := Qb h
 refine AK.loop (body := (fun st => Qae l1 v2 st)) (fun st σ => σ = ⟨[(0, .own 200000 l1.length), (1, .clo (.func 156) [] [.loc 200001 0 0]), (7, .i .i64 (l1.length : Int)), (8, .i .i64 st)], [(200000, .arr 1 (l1.map Qv)), (200001, .var (Qp v2))]⟩) (Sum.elim (fun q e σ => e = .ret ∧ σ = ⟨[(4, .i .i64 q)], [(200000, .arr 1 (l1.map Qv)), (200001, .var (Qp v2))]⟩) (fun q e σ => e = .exit 0 ∧ σ = ⟨[], [(200000, .arr 1 (l1.map Qv)), (200001, .var (Qp v2))]⟩)) hl12 rfl ?_ ?_
 ·rintro x5 o σ rfl h
  replace h : Qae l1 v2 x5 = some o := h
  unfold Qae at h
  refine Qa hC [.n 6] rfl tt_ ?_
  rcases bifE h with ⟨hc8, h⟩ | ⟨hc8, h⟩
  ·obtain ⟨e9, he9, h⟩ := Qb h
   obtain ⟨x10, hx10, h⟩ := Qb h
   refine Qa hC [.br true, .n 16, .o (.row (Qv e9)), .cm (.clo) [(200000, 200001)] [(200001, 200000)] [] [.d, .d] [(200000, .var (Qp v2))] (.b x10), .n 2] rfl ⟨⟨⟨⟨tt_, hc8⟩, (QeX he9 rfl)⟩, (Qcz (idxE he9).2)⟩, (QkW _ _ hx10)⟩ ?_
   rcases bifE h with ⟨hc11, h⟩ | ⟨hc11, h⟩
   ·refine Qa hC [.br true, .n 9, .keep [4] [200000, 200001]] rfl ⟨tt_, hc11⟩ ?_
    cases h
    exact rndR rfl (an_ rfl rfl)
   ·refine Qa hC [.br false, .n 7, .keep [0, 1, 7, 8] [200000, 200001]] rfl ⟨tt_, hc11⟩ ?_
    cases h
    exact rndN rfl rfl
  ·refine Qa hC [.br false, .n 2, .keep [] [200000, 200001]] rfl ⟨tt_, hc8⟩ ?_
   cases h
   exact rndX rfl (an_ rfl rfl)
 ·rcases o12 with (x7 | _)
  ·replace h : Qcf x7 = some r := h
   unfold Qcf at h
   rintro e σ ⟨rfl, rfl⟩
   refine Qa hC [.n 2, .keep [4] [200000, 200001]] rfl tt_ ?_
   cases h
   exact AK.done (ex_ [_] (an_ (an_ rfl tt_) (gives ⟨rfl, rfl, tt_⟩)))
  ·replace h : Qcg = some r := h
   unfold Qcg at h
   rintro e σ ⟨rfl, rfl⟩
   refine Qa hC [.n 8, .keep [4] [200000, 200001]] rfl tt_ ?_
   cases h
   exact AK.done (ex_ [_] (an_ (an_ rfl tt_) (gives ⟨rfl, rfl, tt_⟩)))
def Qa8 (j10 : Int) (i18 : Int) (l19 : (List (List Int))) : Option ((Int × Int × (List (List Int))) ⊕ (Int × (List (List Int)))) :=
 some (.inl (i18, (w64 (j10 + 1)), l19))
def Qab (v2 : QA) (i9 : Int) (j10 : Int) (l11 : (List (List Int))) : Option ((Int × Int × (List (List Int))) ⊕ (Int × (List (List Int)))) :=
 bif (decide (j10 < (l11.length : Int))) then
 (idx l11 j10).bind fun e20 =>
 (Qei e20 v2).bind fun x21 =>
 bif (!x21) then
 (idx l11 i9).bind fun e23 =>
 Qa8 j10 (w64 (i9 + 1)) (l11.set i9.toNat e20)
 else
 Qa8 j10 i9 l11
 else
 some (.inr (i9, l11))
def QaB (i15 : Int) (l16 : (List (List Int))) : Option (List (List Int)) :=
 (chk (decide (0 ≤ i15) && decide (i15.toNat ≤ l16.length))).bind fun _ =>
 (chk (decide (0 ≤ i15) && decide (i15.toNat ≤ (l16.take i15.toNat ++ List.replicate (l16.length - i15.toNat) (([] : (List Int)) : (List Int))).length))).bind fun _ =>
 some ((l16.take i15.toNat ++ List.replicate (l16.length - i15.toNat) (([] : (List Int)) : (List Int))).take i15.toNat)
def QaO (l1 : (List (List Int))) (v2 : QA) : Option (List (List Int)) :=
 (QaT l1 v2).bind fun x5 =>
 bif (x5 == (-1)) then
 some l1
 else
 (QE (fun st => Qab v2 st.1 st.2.1 st.2.2) (x5, (w64 (x5 + 1)), l1)).bind (fun q => QaB q.1 q.2)
theorem QiH (l1 : (List (List Int))) (v2 : QA) {r : (List (List Int))} (h : QaO l1 v2 = some r) : Qc Tryz.prog 154 [.own 200000 l1.length, .clo (.func 156) [] [.loc 200001 0 0]] [(200000, .arr 1 (l1.map Qv)), (200001, .var (Qp v2))] (Gives (.own 200000 r.length) [(200000, .arr 1 (r.map Qv)), (200001, .var (Qp v2))]) := by
 refine Qc.walk 42 Tryz.func154 rfl Tryz.ntmps154 rfl fun C hC => ?_
 unfold QaO at h
 obtain ⟨x5, hx5, h⟩ := Qb h
 refine Qa hC [.n 9, .cm (.fn) [(200000, 200000), (200001, 200001)] [(200000, 200000), (200001, 200001)] [] [.d, .d] [(200000, .arr 1 (l1.map Qv)), (200001, .var (Qp v2))] (.i .i64 x5), .n 10] rfl ⟨tt_, (Qi8 _ _ hx5)⟩ ?_
 rcases bifE h with ⟨hc6, h⟩ | ⟨hc6, h⟩
 ·refine Qa hC [.br true, .n 8, .keep [4] [200000, 200001]] rfl ⟨tt_, hc6⟩ ?_
  cases h
  exact AK.done (ex_ [_] (an_ (an_ rfl tt_) (gives ⟨rfl, rfl, tt_⟩)))
 ·refine Qa hC [.br false, .n 11, .keep [0, 1, 5, 6] [200000, 200001]] rfl ⟨tt_, hc6⟩ ?_
  obtain ⟨o24, hl24, h⟩ := Qb h
  refine AK.loop (body := (fun st => Qab v2 st.1 st.2.1 st.2.2)) (fun st σ => σ = ⟨[(0, .own 200000 st.2.2.length), (1, .clo (.func 156) [] [.loc 200001 0 0]), (5, .i .i64 st.1), (6, .i .i64 st.2.1)], [(200000, .arr 1 (st.2.2.map Qv)), (200001, .var (Qp v2))]⟩) (fun q e σ => e = .exit 0 ∧ σ = ⟨[(0, .own 200000 q.2.length), (5, .i .i64 q.1)], [(200000, .arr 1 (q.2.map Qv)), (200001, .var (Qp v2))]⟩) hl24 rfl ?_ ?_
  ·rintro ⟨i9, j10, l11⟩ o σ rfl h
   replace h : Qab v2 i9 j10 l11 = some o := h
   unfold Qab at h
   refine Qa hC [.n 9] rfl tt_ ?_
   rcases bifE h with ⟨hc17, h⟩ | ⟨hc17, h⟩
   ·refine Qa hC [.br true, .n 2] rfl ⟨tt_, hc17⟩ ?_
    refine AK.meet (fun σ => ∃ i18 : Int, ∃ l19 : (List (List Int)), σ = ⟨[(0, .own 200000 l19.length), (1, .clo (.func 156) [] [.loc 200001 0 0]), (5, .i .i64 i18), (6, .i .i64 j10)], [(200000, .arr 1 (l19.map Qv)), (200001, .var (Qp v2))]⟩ ∧ Qa8 j10 i18 l19 = some o) ?_ ?_
    ·obtain ⟨e20, he20, h⟩ := Qb h
     obtain ⟨x21, hx21, h⟩ := Qb h
     refine Qa hC [.n 6, .o (.row (Qv e20)), .n 7, .cm (.clo) [(200000, 200001)] [(200001, 200000)] [] [.d, .d] [(200000, .var (Qp v2))] (.b x21), .n 3] rfl ⟨⟨⟨tt_, (QeX he20 rfl)⟩, (Qcz (idxE he20).2)⟩, (QkW _ _ hx21)⟩ ?_
     rcases bifE h with ⟨hc22, h⟩ | ⟨hc22, h⟩
     ·obtain ⟨e23, he23, h⟩ := Qb h
      refine Qa hC [.br true, .n 6, .st (Qv e23) ((l11.set i9.toNat e20).map Qv), .n 8, .say 0 (.own 200000 (l11.set i9.toNat e20).length), .keep [0, 1, 5, 6] [200000, 200001]] rfl ⟨⟨⟨⟨tt_, hc22⟩, (QeX he23 rfl)⟩, ⟨(Qcz (idxE he23).2), Qjn rfl⟩⟩, (congrArg (fun n => V.own 200000 n) (by simp))⟩ ?_
      exact AK.met (ex_ _ (ex_ _ (an_ rfl h)))
     ·refine Qa hC [.br false, .n 2, .keep [0, 1, 5, 6] [200000, 200001]] rfl ⟨tt_, hc22⟩ ?_
      exact AK.met (ex_ _ (ex_ _ (an_ rfl h)))
    ·rintro σ ⟨i18, l19, rfl, h⟩
     unfold Qa8 at h
     refine Qa hC [.n 5, .keep [0, 1, 5, 6] [200000, 200001]] rfl tt_ ?_
     cases h
     exact rndN rfl rfl
   ·refine Qa hC [.br false, .n 2, .keep [0, 5] [200000, 200001]] rfl ⟨tt_, hc17⟩ ?_
    cases h
    exact rndX rfl (an_ rfl rfl)
  ·obtain ⟨i15, l16⟩ := o24
   replace h : QaB i15 l16 = some r := h
   unfold QaB at h
   rintro e σ ⟨rfl, rfl⟩
   refine Qa hC [.n 6] rfl tt_ ?_
   obtain ⟨_, hk25, h⟩ := Qb h
   replace hk25 := chkE hk25
   refine AK.clearTail (b := 200000) (l := i15.toNat) (n := l16.length) rfl rfl rfl rfl rfl rfl (bleN hC.n rfl) rfl rfl Qg (Qo.es rfl) Qui rfl rfl rfl (Bnd.val rfl (of_decide_eq_true (QnX hk25)) rfl) (of_decide_eq_true (Qkt hk25)) rfl ?_
   refine AK.denilA (b := 200000) [some 1] rfl (QuJ (f := Qv) (x := (([] : (List Int)) : (List Int))) (fun _ => rfl) rfl) ?_
   obtain ⟨_, hk26, h⟩ := Qb h
   replace hk26 := chkE hk26
   refine Qa hC [.say 0 (.own 200000 (l16.take i15.toNat ++ List.replicate (l16.length - i15.toNat) (([] : (List Int)) : (List Int))).length), .say 36 (.own 200000 (l16.take i15.toNat ++ List.replicate (l16.length - i15.toNat) (([] : (List Int)) : (List Int))).length), .n 6] rfl ⟨⟨tt_, (Qtr (of_decide_eq_true (Qkt hk25)))⟩, (Qtr (of_decide_eq_true (Qkt hk25)))⟩ ?_
   have hl27 : i15.toNat = ((l16.take i15.toNat ++ List.replicate (l16.length - i15.toNat) (([] : (List Int)) : (List Int))).take i15.toNat).length := by rw [List.length_take, Nat.min_eq_left (of_decide_eq_true (Qkt hk26))]
   refine Qa hC [.x (fun σ => (σ.set 200000 (.arr 1 (((l16.take i15.toNat ++ List.replicate (l16.length - i15.toNat) (([] : (List Int)) : (List Int))).take i15.toNat).map Qv))).put 41 (.own 200000 i15.toNat)), .say 41 (.own 200000 ((l16.take i15.toNat ++ List.replicate (l16.length - i15.toNat) (([] : (List Int)) : (List Int))).take i15.toNat).length), .n 4, .keep [4] [200000, 200001]] rfl ⟨⟨tt_, (Stp.sliceO rfl rfl (bleN hC.n rfl) rfl rfl (Qo.es rfl) Bnd.no (Bnd.val rfl (of_decide_eq_true (QnX hk26)) rfl) (of_decide_eq_true (Qkt hk26)) (by simp))⟩, (QuF (of_decide_eq_true (Qkt hk26)))⟩ ?_
   cases h
   exact AK.done (ex_ [_] (an_ (an_ rfl tt_) (gives ⟨rfl, rfl, tt_⟩)))
def QeB (x13 : (Int × QA)) : Option Bool :=
 bif (x13.1 != 0) then
 some true
 else
 (Qby x13.2).bind fun x17 =>
 some (x17 != 0)
def Qa1 (x22 : Int) (l29 : (List Qk)) : Option ((Int × (List Qk)) ⊕ ((List Qk) ⊕ (List Qk))) :=
 some (.inl ((w64 (x22 + 1)), l29))
def Qa2 (x20 : (List (List Int))) (p9 : (List Int)) (e30 : (List Int)) (v3 : Int) (v4 : Int) (x34 : Int) (l35 : (List Qk)) : Option ((Int × (List Qk)) ⊕ ((List Qk) ⊕ (List Qk))) :=
 bif (decide (x34 < (x20.length : Int))) then
 (idx x20 x34).bind fun e41 =>
 (Qak p9).bind fun x42 =>
 (Qak e30).bind fun x43 =>
 (Qak e41).bind fun x44 =>
 (chk (decide (l35.length + ([(Qk.mk v3 x42 x43 x44)] : List Qk).length ≤ 4294967296))).bind fun _ =>
 bif (((l35 ++ [(Qk.mk v3 x42 x43 x44)]).length : Int) == v4) then
 some (.inr (.inl (l35 ++ [(Qk.mk v3 x42 x43 x44)])))
 else
 some (.inl ((w64 (x34 + 1)), (l35 ++ [(Qk.mk v3 x42 x43 x44)])))
 else
 some (.inr (.inr l35))
def QeC (l38 : (List Qk)) : Option ((Int × (List Qk)) ⊕ ((List Qk) ⊕ (List Qk))) :=
 some (.inr (.inl l38))
def QeD (x22 : Int) (l39 : (List Qk)) : Option ((Int × (List Qk)) ⊕ ((List Qk) ⊕ (List Qk))) :=
 Qa1 x22 l39
def Qa3 (v6 : (List (List Int))) (x13 : (Int × QA)) (x20 : (List (List Int))) (p9 : (List Int)) (v3 : Int) (v4 : Int) (x22 : Int) (l23 : (List Qk)) : Option ((Int × (List Qk)) ⊕ ((List Qk) ⊕ (List Qk))) :=
 bif (decide (x22 < (v6.length : Int))) then
 (idx v6 x22).bind fun e30 =>
 (QbW x13.2 e30).bind fun x31 =>
 bif (x31 != 0) then
 Qa1 x22 l23
 else
 (QE (fun st => Qa2 x20 p9 e30 v3 v4 st.1 st.2) (0, l23)).bind (Sum.elim (fun q => QeC q) (fun q => QeD x22 q))
 else
 some (.inr (.inr l23))
def QeE (l26 : (List Qk)) : Option ((List Qk) ⊕ (List Qk)) :=
 some (.inl l26)
def QeF (l27 : (List Qk)) : Option ((List Qk) ⊕ (List Qk)) :=
 some (.inr l27)
def QbC (l8 : (List Qk)) (v7 : (List (List Int))) (x13 : (Int × QA)) (v6 : (List (List Int))) (p9 : (List Int)) (v3 : Int) (v4 : Int) (x14 : Bool) : Option ((List Qk) ⊕ (List Qk)) :=
 bif x14 then
 some (.inr l8)
 else
 (Qcu v7).bind fun x19 =>
 (QaO x19 x13.2).bind fun x20 =>
 (QE (fun st => Qa3 v6 x13 x20 p9 v3 v4 st.1 st.2) (0, l8)).bind (Sum.elim (fun q => QeE q) (fun q => QeF q))
def Qcm (v1 : TNet) (v2 : (List (List (Int × Int)))) (v3 : Int) (v4 : Int) (l5 : (List Qk)) (v6 : (List (List Int))) (v7 : (List (List Int))) (l8 : (List Qk)) (p9 : (List Int)) : Option ((List Qk) ⊕ (List Qk)) :=
 (Qf8 v1 v2 v3 p9).bind fun x13 =>
 (QeB x13).bind (fun x14 => QbC l8 v7 x13 v6 p9 v3 v4 x14)
theorem QhY (lpl lpf : Nat) (v1 : TNet) (v2 : (List (List (Int × Int)))) (v3 : Int) (v4 : Int) (l5 : (List Qk)) (v6 : (List (List Int))) (v7 : (List (List Int))) (l8 : (List Qk)) (p9 : (List Int)) {r : ((List Qk) ⊕ (List Qk))} (h : Qcm v1 v2 v3 v4 l5 v6 v7 l8 p9 = some r) : Qku Tryz.prog lpl (Qaq lpf) [.J, .J, .J, .J, .loc 200001 0 0, .loc 200002 0 0, .loc 200003 0 0, .loc 200004 0 0, .loc 200005 0 0, .J, .loc 200006 0 0, .loc 200007 0 0, .loc 200008 0 0, .J, .J, .J, .J, .J, .J, .J, .J, .J, .J, .J, .J, .J, .J, .J, .J, .J, .J, .J, .J, .J, .J, .J, .J, .J, .J, .J, .J, .J, .J, .J, .J, .J, .J, .J, .J, .J, .J, .J, .J, .J, .sl 1 (p9.map Qe), .J, .J, .J, .J, .J, .J, .J, .J, .J, .J, .J, .J, .J, .J, .J, .J, .J, .J, .J, .J, .J, .J, .J, .J, .J, .J, .J, .J, .J, .J, .J, .J, .J, .J, .J, .J, .J, .J, .J, .J, .J, .J, .J, .J, .J, .J, .J, .J, .J, .J, .J, .J, .J, .J] [(200000, .lp lpl (Qaq lpf) [.J, .J, .J, .J, .loc 200001 0 0, .loc 200002 0 0, .loc 200003 0 0, .loc 200004 0 0, .loc 200005 0 0, .J, .loc 200006 0 0, .loc 200007 0 0, .loc 200008 0 0, .J, .J, .J, .J, .J, .J, .J, .J, .J, .J, .J, .J, .J, .J, .J, .J, .J, .J, .J, .J, .J, .J, .J, .J, .J, .J, .J, .J, .J, .J, .J, .J, .J, .J, .J, .J, .J, .J, .J, .J, .J, .J, .J, .J, .J, .J, .J, .J, .J, .J, .J, .J, .J, .J, .J, .J, .J, .J, .J, .J, .J, .J, .J, .J, .J, .J, .J, .J, .J, .J, .J, .J, .J, .J, .J, .J, .J, .J, .J, .J, .J, .J, .J, .J, .J, .J, .J, .J, .J, .J, .J, .J, .J, .J, .J, .J] 0), (200001, .var (Qd v1)), (200002, .var (QS v2)), (200003, .var (Qe v3)), (200004, .var (Qe v4)), (200005, .var [.own 100000 l5.length]), (100000, .arr 4 (l5.map Qj)), (200006, .var (QF v6)), (200007, .var (QF v7)), (200008, .var [.own 100001 l8.length]), (100001, .arr 4 (l8.map Qj))] ((Sum.elim (fun q => (Gives (.b false) [(100000, .arr 4 (l5.map Qj)), (100001, .arr 4 (q.map Qj)), (200000, .lp lpl (Qaq lpf) [.J, .J, .J, .J, .loc 200001 0 0, .loc 200002 0 0, .loc 200003 0 0, .loc 200004 0 0, .loc 200005 0 0, .J, .loc 200006 0 0, .loc 200007 0 0, .loc 200008 0 0, .J, .J, .J, .J, .J, .J, .J, .J, .J, .J, .J, .J, .J, .J, .J, .J, .J, .J, .J, .J, .J, .J, .J, .J, .J, .J, .J, .J, .J, .J, .J, .J, .J, .J, .J, .J, .J, .J, .J, .J, .J, .J, .J, .J, .J, .J, .J, .J, .J, .J, .J, .J, .J, .J, .J, .J, .J, .J, .J, .J, .J, .J, .J, .J, .J, .J, .J, .J, .J, .J, .J, .J, .J, .J, .J, .J, .J, .J, .J, .J, .J, .J, .J, .J, .J, .J, .J, .J, .J, .J, .J, .J, .J, .J, .J, .J] 2), (200001, .var (Qd v1)), (200002, .var (QS v2)), (200003, .var (Qe v3)), (200004, .var (Qe v4)), (200005, .var [.own 100001 q.length]), (200006, .var (QF v6)), (200007, .var (QF v7)), (200008, .var [.own 100001 q.length])])) (fun q => (Gives (.b true) [(100000, .arr 4 (l5.map Qj)), (100001, .arr 4 (q.map Qj)), (200000, .lp lpl (Qaq lpf) [.J, .J, .J, .J, .loc 200001 0 0, .loc 200002 0 0, .loc 200003 0 0, .loc 200004 0 0, .loc 200005 0 0, .J, .loc 200006 0 0, .loc 200007 0 0, .loc 200008 0 0, .J, .J, .J, .J, .J, .J, .J, .J, .J, .J, .J, .J, .J, .J, .J, .J, .J, .J, .J, .J, .J, .J, .J, .J, .J, .J, .J, .J, .J, .J, .J, .J, .J, .J, .J, .J, .J, .J, .J, .J, .J, .J, .J, .J, .J, .J, .J, .J, .J, .J, .J, .J, .J, .J, .J, .J, .J, .J, .J, .J, .J, .J, .J, .J, .J, .J, .J, .J, .J, .J, .J, .J, .J, .J, .J, .J, .J, .J, .J, .J, .J, .J, .J, .J, .J, .J, .J, .J, .J, .J, .J, .J, .J, .J, .J, .J] 0), (200001, .var (Qd v1)), (200002, .var (QS v2)), (200003, .var (Qe v3)), (200004, .var (Qe v4)), (200005, .var [.own 100000 l5.length]), (200006, .var (QF v6)), (200007, .var (QF v7)), (200008, .var [.own 100001 q.length])]))) r) := by
 refine Qku.walk (b := 200000) 109 rfl rfl fun C hC => ?_
 unfold Qcm at h
 refine Qa hC [.n 3] rfl tt_ ?_
 refine AK.done (an_ rfl (ex_ _ (an_ rfl ?_)))
 obtain ⟨x13, hx13, h⟩ := Qb h
 refine Qa hC [.n 3, .v .no [] (.agg (Qd v1)), .n 3, .o (.c false [.d, .d, .d, .d] (.tup [.agg (Qp x13.2), .i .i64 x13.1])), .n 5, .sayO 14 (.var (Qp x13.2)), .n 5] rfl ⟨⟨⟨tt_, rfl⟩, (Ql4 _ _ _ _ hx13)⟩, rfl⟩ ?_
 obtain ⟨x14, hv15, h⟩ := Qb h
 replace h : QbC l8 v7 x13 v6 p9 v3 v4 x14 = some r := h
 refine AK.meetX (fun σ => σ = ⟨[(6, .loc 200003 0 0), (7, .loc 200004 0 0), (8, .loc 200005 0 0), (10, .loc 200006 0 0), (11, .loc 200007 0 0), (12, .loc 200008 0 0), (13, .sl 1 (p9.map Qe)), (14, .loc 14 0 0), (69, .b x14)], [(14, .var (Qp x13.2)), (100000, .arr 4 (l5.map Qj)), (100001, .arr 4 (l8.map Qj)), (200000, .lp lpl (Qaq lpf) [.J, .J, .J, .J, .loc 200001 0 0, .loc 200002 0 0, .loc 200003 0 0, .loc 200004 0 0, .loc 200005 0 0, .J, .loc 200006 0 0, .loc 200007 0 0, .loc 200008 0 0, .J, .J, .J, .J, .J, .J, .J, .J, .J, .J, .J, .J, .J, .J, .J, .J, .J, .J, .J, .J, .J, .J, .J, .J, .J, .J, .J, .J, .J, .J, .J, .J, .J, .J, .J, .J, .J, .J, .J, .J, .J, .J, .J, .J, .J, .J, .J, .J, .J, .J, .J, .J, .J, .J, .J, .J, .J, .J, .J, .J, .J, .J, .J, .J, .J, .J, .J, .J, .J, .J, .J, .J, .J, .J, .J, .J, .J, .J, .J, .J, .J, .J, .J, .J, .J, .J, .J, .J, .J, .J, .J, .J, .J, .J, .J, .J] 1), (200001, .var (Qd v1)), (200002, .var (QS v2)), (200003, .var (Qe v3)), (200004, .var (Qe v4)), (200005, .var [.own 100000 l5.length]), (200006, .var (QF v6)), (200007, .var (QF v7)), (200008, .var [.own 100001 l8.length])]⟩) ?_ ?_
 ·replace h := hv15
  unfold QeB at h
  refine Qa hC [.n 4] rfl tt_ ?_
  rcases bifE h with ⟨hc16, h⟩ | ⟨hc16, h⟩
  ·refine Qa hC [.say 65 (.b true), .n 5, .keep [6, 7, 8, 10, 11, 12, 13, 14, 69] [14, 100000, 100001, 200000, 200001, 200002, 200003, 200004, 200005, 200006, 200007, 200008]] rfl ⟨tt_, (congrArg V.b hc16)⟩ ?_
   cases h
   exact AK.met rfl
  ·obtain ⟨x17, hx17, h⟩ := Qb h
   refine Qa hC [.say 65 (.b false), .v .no [] (.agg (Qp x13.2)), .o (.c false [.d] (.i .i64 x17)), .n 3, .keep [6, 7, 8, 10, 11, 12, 13, 14, 69] [14, 100000, 100001, 200000, 200001, 200002, 200003, 200004, 200005, 200006, 200007, 200008]] rfl ⟨⟨⟨tt_, (congrArg V.b hc16)⟩, rfl⟩, (QhR _ hx17)⟩ ?_
   cases h
   exact AK.met rfl
 ·rintro σ rfl
  replace h : QbC l8 v7 x13 v6 p9 v3 v4 x14 = some r := h
  unfold QbC at h
  refine Qa hC [.n 1] rfl tt_ ?_
  rcases bifE h with ⟨hc18, h⟩ | ⟨hc18, h⟩
  ·refine Qa hC [.br true, .n 3, .keep [] [100000, 100001, 200000, 200001, 200002, 200003, 200004, 200005, 200006, 200007, 200008]] rfl ⟨tt_, hc18⟩ ?_
   cases h
   refine AK.done ?_
   exact ex_ _ (an_ rfl (gives ⟨rfl, rfl, rfl, rfl, rfl, rfl, rfl, rfl, rfl, rfl, rfl, tt_⟩))
  ·obtain ⟨x19, hx19, h⟩ := Qb h
   obtain ⟨x20, hx20, h⟩ := Qb h
   refine Qa hC [.br false, .n 5, .o (.co false [.d] 1 (x19.map Qv) x19.length), .n 1, .cm (.fn) [(200000, 71), (200001, 14)] [(71, 200000), (14, 200001)] [] [.d, .d] [(200000, .arr 1 (x20.map Qv)), (200001, .var (Qp x13.2))] (.own 200000 x20.length), .n 6, .o (.ln v6.length), .n 4, .keep [6, 7, 8, 12, 13, 14, 16, 74, 75, 76] [14, 71, 100000, 100001, 200000, 200001, 200002, 200003, 200004, 200005, 200006, 200007, 200008]] rfl ⟨⟨⟨⟨tt_, hc18⟩, ⟨(Qka _ hx19), Qg, .inl rfl⟩⟩, (QiH _ _ hx20)⟩, Qg⟩ ?_
   obtain ⟨o48, hl48, h⟩ := Qb h
   refine AK.loop (body := (fun st => Qa3 v6 x13 x20 p9 v3 v4 st.1 st.2)) (fun st σ => σ = ⟨[(6, .loc 200003 0 0), (7, .loc 200004 0 0), (8, .loc 200005 0 0), (12, .loc 200008 0 0), (13, .sl 1 (p9.map Qe)), (14, .loc 14 0 0), (16, .own 71 x20.length), (74, .sl 1 (v6.map Qv)), (75, .i .i64 (v6.length : Int)), (76, .i .i64 st.1)], [(14, .var (Qp x13.2)), (71, .arr 1 (x20.map Qv)), (100000, .arr 4 (l5.map Qj)), (100001, .arr 4 (st.2.map Qj)), (200000, .lp lpl (Qaq lpf) [.J, .J, .J, .J, .loc 200001 0 0, .loc 200002 0 0, .loc 200003 0 0, .loc 200004 0 0, .loc 200005 0 0, .J, .loc 200006 0 0, .loc 200007 0 0, .loc 200008 0 0, .J, .J, .J, .J, .J, .J, .J, .J, .J, .J, .J, .J, .J, .J, .J, .J, .J, .J, .J, .J, .J, .J, .J, .J, .J, .J, .J, .J, .J, .J, .J, .J, .J, .J, .J, .J, .J, .J, .J, .J, .J, .J, .J, .J, .J, .J, .J, .J, .J, .J, .J, .J, .J, .J, .J, .J, .J, .J, .J, .J, .J, .J, .J, .J, .J, .J, .J, .J, .J, .J, .J, .J, .J, .J, .J, .J, .J, .J, .J, .J, .J, .J, .J, .J, .J, .J, .J, .J, .J, .J, .J, .J, .J, .J, .J, .J] 1), (200001, .var (Qd v1)), (200002, .var (QS v2)), (200003, .var (Qe v3)), (200004, .var (Qe v4)), (200005, .var [.own 100000 l5.length]), (200006, .var (QF v6)), (200007, .var (QF v7)), (200008, .var [.own 100001 st.2.length])]⟩) (Sum.elim (fun q e σ => e = .ret ∧ σ = ⟨[], [(100000, .arr 4 (l5.map Qj)), (100001, .arr 4 (q.map Qj)), (200000, .lp lpl (Qaq lpf) [.J, .J, .J, .J, .loc 200001 0 0, .loc 200002 0 0, .loc 200003 0 0, .loc 200004 0 0, .loc 200005 0 0, .J, .loc 200006 0 0, .loc 200007 0 0, .loc 200008 0 0, .J, .J, .J, .J, .J, .J, .J, .J, .J, .J, .J, .J, .J, .J, .J, .J, .J, .J, .J, .J, .J, .J, .J, .J, .J, .J, .J, .J, .J, .J, .J, .J, .J, .J, .J, .J, .J, .J, .J, .J, .J, .J, .J, .J, .J, .J, .J, .J, .J, .J, .J, .J, .J, .J, .J, .J, .J, .J, .J, .J, .J, .J, .J, .J, .J, .J, .J, .J, .J, .J, .J, .J, .J, .J, .J, .J, .J, .J, .J, .J, .J, .J, .J, .J, .J, .J, .J, .J, .J, .J, .J, .J, .J, .J, .J, .J] 1), (200001, .var (Qd v1)), (200002, .var (QS v2)), (200003, .var (Qe v3)), (200004, .var (Qe v4)), (200005, .var [.own 100001 q.length]), (200006, .var (QF v6)), (200007, .var (QF v7)), (200008, .var [.own 100001 q.length])]⟩) (fun q e σ => e = .exit 2 ∧ σ = ⟨[], [(100000, .arr 4 (l5.map Qj)), (100001, .arr 4 (q.map Qj)), (200000, .lp lpl (Qaq lpf) [.J, .J, .J, .J, .loc 200001 0 0, .loc 200002 0 0, .loc 200003 0 0, .loc 200004 0 0, .loc 200005 0 0, .J, .loc 200006 0 0, .loc 200007 0 0, .loc 200008 0 0, .J, .J, .J, .J, .J, .J, .J, .J, .J, .J, .J, .J, .J, .J, .J, .J, .J, .J, .J, .J, .J, .J, .J, .J, .J, .J, .J, .J, .J, .J, .J, .J, .J, .J, .J, .J, .J, .J, .J, .J, .J, .J, .J, .J, .J, .J, .J, .J, .J, .J, .J, .J, .J, .J, .J, .J, .J, .J, .J, .J, .J, .J, .J, .J, .J, .J, .J, .J, .J, .J, .J, .J, .J, .J, .J, .J, .J, .J, .J, .J, .J, .J, .J, .J, .J, .J, .J, .J, .J, .J, .J, .J, .J, .J, .J, .J] 1), (200001, .var (Qd v1)), (200002, .var (QS v2)), (200003, .var (Qe v3)), (200004, .var (Qe v4)), (200005, .var [.own 100000 l5.length]), (200006, .var (QF v6)), (200007, .var (QF v7)), (200008, .var [.own 100001 q.length])]⟩)) hl48 rfl ?_ ?_
   ·rintro ⟨x22, l23⟩ o σ rfl h
    replace h : Qa3 v6 x13 x20 p9 v3 v4 x22 l23 = some o := h
    unfold Qa3 at h
    refine Qa hC [.n 6] rfl tt_ ?_
    rcases bifE h with ⟨hc28, h⟩ | ⟨hc28, h⟩
    ·refine Qa hC [.br true, .n 2] rfl ⟨tt_, hc28⟩ ?_
     refine AK.meet (fun σ => ∃ l29 : (List Qk), σ = ⟨[(6, .loc 200003 0 0), (7, .loc 200004 0 0), (8, .loc 200005 0 0), (12, .loc 200008 0 0), (13, .sl 1 (p9.map Qe)), (14, .loc 14 0 0), (16, .own 71 x20.length), (74, .sl 1 (v6.map Qv)), (75, .i .i64 (v6.length : Int)), (76, .i .i64 x22)], [(14, .var (Qp x13.2)), (71, .arr 1 (x20.map Qv)), (100000, .arr 4 (l5.map Qj)), (100001, .arr 4 (l29.map Qj)), (200000, .lp lpl (Qaq lpf) [.J, .J, .J, .J, .loc 200001 0 0, .loc 200002 0 0, .loc 200003 0 0, .loc 200004 0 0, .loc 200005 0 0, .J, .loc 200006 0 0, .loc 200007 0 0, .loc 200008 0 0, .J, .J, .J, .J, .J, .J, .J, .J, .J, .J, .J, .J, .J, .J, .J, .J, .J, .J, .J, .J, .J, .J, .J, .J, .J, .J, .J, .J, .J, .J, .J, .J, .J, .J, .J, .J, .J, .J, .J, .J, .J, .J, .J, .J, .J, .J, .J, .J, .J, .J, .J, .J, .J, .J, .J, .J, .J, .J, .J, .J, .J, .J, .J, .J, .J, .J, .J, .J, .J, .J, .J, .J, .J, .J, .J, .J, .J, .J, .J, .J, .J, .J, .J, .J, .J, .J, .J, .J, .J, .J, .J, .J, .J, .J, .J, .J] 1), (200001, .var (Qd v1)), (200002, .var (QS v2)), (200003, .var (Qe v3)), (200004, .var (Qe v4)), (200005, .var [.own 100000 l5.length]), (200006, .var (QF v6)), (200007, .var (QF v7)), (200008, .var [.own 100001 l29.length])]⟩ ∧ Qa1 x22 l29 = some o) ?_ ?_
     ·obtain ⟨e30, he30, h⟩ := Qb h
      obtain ⟨x31, hx31, h⟩ := Qb h
      refine Qa hC [.n 3, .o (.row (Qv e30)), .n 7, .v .no [] (.agg (Qp x13.2)), .n 1, .o (.c false [.d, .d] (.i .i64 x31)), .n 3] rfl ⟨⟨⟨tt_, (idxM he30)⟩, rfl⟩, (QiF _ _ hx31)⟩ ?_
      rcases bifE h with ⟨hc32, h⟩ | ⟨hc32, h⟩
      ·refine Qa hC [.br true, .n 3, .keep [6, 7, 8, 12, 13, 14, 16, 74, 75, 76] [14, 71, 100000, 100001, 200000, 200001, 200002, 200003, 200004, 200005, 200006, 200007, 200008]] rfl ⟨tt_, hc32⟩ ?_
       exact AK.met (ex_ _ (an_ rfl h))
      ·refine Qa hC [.br false, .n 10, .keep [6, 7, 8, 12, 13, 14, 16, 18, 74, 75, 76, 84, 85, 86] [14, 71, 100000, 100001, 200000, 200001, 200002, 200003, 200004, 200005, 200006, 200007, 200008]] rfl ⟨tt_, hc32⟩ ?_
       obtain ⟨o47, hl47, h⟩ := Qb h
       refine AK.loop (body := (fun st => Qa2 x20 p9 e30 v3 v4 st.1 st.2)) (fun st σ => σ = ⟨[(6, .loc 200003 0 0), (7, .loc 200004 0 0), (8, .loc 200005 0 0), (12, .loc 200008 0 0), (13, .sl 1 (p9.map Qe)), (14, .loc 14 0 0), (16, .own 71 x20.length), (18, .sl 1 (e30.map Qe)), (74, .sl 1 (v6.map Qv)), (75, .i .i64 (v6.length : Int)), (76, .i .i64 x22), (84, .own 71 x20.length), (85, .i .i64 (x20.length : Int)), (86, .i .i64 st.1)], [(14, .var (Qp x13.2)), (71, .arr 1 (x20.map Qv)), (100000, .arr 4 (l5.map Qj)), (100001, .arr 4 (st.2.map Qj)), (200000, .lp lpl (Qaq lpf) [.J, .J, .J, .J, .loc 200001 0 0, .loc 200002 0 0, .loc 200003 0 0, .loc 200004 0 0, .loc 200005 0 0, .J, .loc 200006 0 0, .loc 200007 0 0, .loc 200008 0 0, .J, .J, .J, .J, .J, .J, .J, .J, .J, .J, .J, .J, .J, .J, .J, .J, .J, .J, .J, .J, .J, .J, .J, .J, .J, .J, .J, .J, .J, .J, .J, .J, .J, .J, .J, .J, .J, .J, .J, .J, .J, .J, .J, .J, .J, .J, .J, .J, .J, .J, .J, .J, .J, .J, .J, .J, .J, .J, .J, .J, .J, .J, .J, .J, .J, .J, .J, .J, .J, .J, .J, .J, .J, .J, .J, .J, .J, .J, .J, .J, .J, .J, .J, .J, .J, .J, .J, .J, .J, .J, .J, .J, .J, .J, .J, .J] 1), (200001, .var (Qd v1)), (200002, .var (QS v2)), (200003, .var (Qe v3)), (200004, .var (Qe v4)), (200005, .var [.own 100000 l5.length]), (200006, .var (QF v6)), (200007, .var (QF v7)), (200008, .var [.own 100001 st.2.length])]⟩) (Sum.elim (fun q e σ => e = .ret ∧ σ = ⟨[], [(100000, .arr 4 (l5.map Qj)), (100001, .arr 4 (q.map Qj)), (200000, .lp lpl (Qaq lpf) [.J, .J, .J, .J, .loc 200001 0 0, .loc 200002 0 0, .loc 200003 0 0, .loc 200004 0 0, .loc 200005 0 0, .J, .loc 200006 0 0, .loc 200007 0 0, .loc 200008 0 0, .J, .J, .J, .J, .J, .J, .J, .J, .J, .J, .J, .J, .J, .J, .J, .J, .J, .J, .J, .J, .J, .J, .J, .J, .J, .J, .J, .J, .J, .J, .J, .J, .J, .J, .J, .J, .J, .J, .J, .J, .J, .J, .J, .J, .J, .J, .J, .J, .J, .J, .J, .J, .J, .J, .J, .J, .J, .J, .J, .J, .J, .J, .J, .J, .J, .J, .J, .J, .J, .J, .J, .J, .J, .J, .J, .J, .J, .J, .J, .J, .J, .J, .J, .J, .J, .J, .J, .J, .J, .J, .J, .J, .J, .J, .J, .J] 1), (200001, .var (Qd v1)), (200002, .var (QS v2)), (200003, .var (Qe v3)), (200004, .var (Qe v4)), (200005, .var [.own 100001 q.length]), (200006, .var (QF v6)), (200007, .var (QF v7)), (200008, .var [.own 100001 q.length])]⟩) (fun q e σ => e = .exit 4 ∧ σ = ⟨[(6, .loc 200003 0 0), (7, .loc 200004 0 0), (8, .loc 200005 0 0), (12, .loc 200008 0 0), (13, .sl 1 (p9.map Qe)), (14, .loc 14 0 0), (16, .own 71 x20.length), (74, .sl 1 (v6.map Qv)), (75, .i .i64 (v6.length : Int)), (76, .i .i64 x22)], [(14, .var (Qp x13.2)), (71, .arr 1 (x20.map Qv)), (100000, .arr 4 (l5.map Qj)), (100001, .arr 4 (q.map Qj)), (200000, .lp lpl (Qaq lpf) [.J, .J, .J, .J, .loc 200001 0 0, .loc 200002 0 0, .loc 200003 0 0, .loc 200004 0 0, .loc 200005 0 0, .J, .loc 200006 0 0, .loc 200007 0 0, .loc 200008 0 0, .J, .J, .J, .J, .J, .J, .J, .J, .J, .J, .J, .J, .J, .J, .J, .J, .J, .J, .J, .J, .J, .J, .J, .J, .J, .J, .J, .J, .J, .J, .J, .J, .J, .J, .J, .J, .J, .J, .J, .J, .J, .J, .J, .J, .J, .J, .J, .J, .J, .J, .J, .J, .J, .J, .J, .J, .J, .J, .J, .J, .J, .J, .J, .J, .J, .J, .J, .J, .J, .J, .J, .J, .J, .J, .J, .J, .J, .J, .J, .J, .J, .J, .J, .J, .J, .J, .J, .J, .J, .J, .J, .J, .J, .J, .J, .J] 1), (200001, .var (Qd v1)), (200002, .var (QS v2)), (200003, .var (Qe v3)), (200004, .var (Qe v4)), (200005, .var [.own 100000 l5.length]), (200006, .var (QF v6)), (200007, .var (QF v7)), (200008, .var [.own 100001 q.length])]⟩)) hl47 rfl ?_ ?_
       ·rintro ⟨x34, l35⟩ o σ rfl h
        replace h : Qa2 x20 p9 e30 v3 v4 x34 l35 = some o := h
        unfold Qa2 at h
        refine Qa hC [.n 6] rfl tt_ ?_
        rcases bifE h with ⟨hc40, h⟩ | ⟨hc40, h⟩
        ·obtain ⟨e41, he41, h⟩ := Qb h
         obtain ⟨x42, hx42, h⟩ := Qb h
         obtain ⟨x43, hx43, h⟩ := Qb h
         obtain ⟨x44, hx44, h⟩ := Qb h
         obtain ⟨_, hk45, h⟩ := Qb h
         replace hk45 := chkE hk45
         refine Qa hC [.br true, .n 7, .o (.row (Qv e41)), .n 4, .keep [6, 7, 8, 12, 13, 14, 16, 18, 20, 74, 75, 76, 84, 85, 86] [14, 71, 100000, 100001, 200000, 200001, 200002, 200003, 200004, 200005, 200006, 200007, 200008]] rfl ⟨⟨⟨tt_, hc40⟩, (QeX he41 rfl)⟩, (Qcz (idxE he41).2)⟩ ?_
         refine AK.draw2 Qo hC mixed [.a .no none false, .a .no none false, .a .no none false, .a (.cd false [.d] 1 (x42.map Qe) x42.length) none false, .a .no none false, .a (.cd false [.d] 1 (x43.map Qe) x43.length) none false, .a .no none false, .a (.cd false [.d] 1 (x44.map Qe) x44.length) none false, .a .no (some ([], .agg (Qj (Qk.mk v3 x42 x43 x44)))) false, .a (.bd []) (some ([], .sl 4 (([(Qk.mk v3 x42 x43 x44)] : List Qk).map Qj))) false, .m (.app ((l35 ++ [(Qk.mk v3 x42 x43 x44)]).map Qj) (l35 ++ [(Qk.mk v3 x42 x43 x44)]).length), .m .s] [] [] [6, 7, 8, 12, 13, 14, 16, 18, 74, 75, 76, 84, 85, 86] [14, 71, 100000, 100001, 200000, 200001, 200002, 200003, 200004, 200005, 200006, 200007, 200008] rfl rfl rfl ⟨⟨⟨⟨⟨⟨tt_, ⟨(Qbt _ hx42), Qg⟩⟩, ⟨(Qbt _ hx43), Qg⟩⟩, ⟨(Qbt _ hx44), Qg⟩⟩, rfl⟩, rfl⟩, ⟨Qg, Qes hk45 Qg, Qc0, QgG Qg⟩⟩ rfl (by kernel_rfl) rfl rfl rfl ?_
         refine Qa hC [.sayO 200008 (.var [.own 100001 (l35 ++ [(Qk.mk v3 x42 x43 x44)]).length]), .n 9] rfl ⟨tt_, rfl⟩ ?_
         rcases bifE h with ⟨hc46, h⟩ | ⟨hc46, h⟩
         ·refine Qa hC [.br true, .n 4, .sayO 200005 (.var [.own 100001 (l35 ++ [(Qk.mk v3 x42 x43 x44)]).length]), .n 5, .keep [] [100000, 100001, 200000, 200001, 200002, 200003, 200004, 200005, 200006, 200007, 200008]] rfl ⟨⟨tt_, hc46⟩, rfl⟩ ?_
          cases h
          exact rndR rfl (an_ rfl rfl)
         ·refine Qa hC [.br false, .n 7, .keep [6, 7, 8, 12, 13, 14, 16, 18, 74, 75, 76, 84, 85, 86] [14, 71, 100000, 100001, 200000, 200001, 200002, 200003, 200004, 200005, 200006, 200007, 200008]] rfl ⟨tt_, hc46⟩ ?_
          cases h
          exact rndN rfl rfl
        ·refine Qa hC [.br false, .n 2, .keep [6, 7, 8, 12, 13, 14, 16, 74, 75, 76] [14, 71, 100000, 100001, 200000, 200001, 200002, 200003, 200004, 200005, 200006, 200007, 200008]] rfl ⟨tt_, hc40⟩ ?_
         cases h
         exact rndX rfl (an_ rfl rfl)
       ·rcases o47 with (l38 | l39)
        ·replace h : QeC l38 = some o := h
         unfold QeC at h
         rintro e σ ⟨rfl, rfl⟩
         refine Qa hC [.n 3, .keep [] [100000, 100001, 200000, 200001, 200002, 200003, 200004, 200005, 200006, 200007, 200008]] rfl tt_ ?_
         cases h
         exact rndR rfl (an_ rfl rfl)
        ·replace h : QeD x22 l39 = some o := h
         unfold QeD at h
         rintro e σ ⟨rfl, rfl⟩
         refine Qa hC [.n 2, .keep [6, 7, 8, 12, 13, 14, 16, 74, 75, 76] [14, 71, 100000, 100001, 200000, 200001, 200002, 200003, 200004, 200005, 200006, 200007, 200008]] rfl tt_ ?_
         exact AK.met (ex_ _ (an_ rfl h))
     ·rintro σ ⟨l29, rfl, h⟩
      unfold Qa1 at h
      refine Qa hC [.n 4, .keep [6, 7, 8, 12, 13, 14, 16, 74, 75, 76] [14, 71, 100000, 100001, 200000, 200001, 200002, 200003, 200004, 200005, 200006, 200007, 200008]] rfl tt_ ?_
      cases h
      exact rndN rfl rfl
    ·refine Qa hC [.br false, .n 2, .keep [] [100000, 100001, 200000, 200001, 200002, 200003, 200004, 200005, 200006, 200007, 200008]] rfl ⟨tt_, hc28⟩ ?_
     cases h
     exact rndX rfl (an_ rfl rfl)
   ·rcases o48 with (l26 | l27)
    ·replace h : QeE l26 = some r := h
     unfold QeE at h
     rintro e σ ⟨rfl, rfl⟩
     refine Qa hC [.n 2, .keep [] [100000, 100001, 200000, 200001, 200002, 200003, 200004, 200005, 200006, 200007, 200008]] rfl tt_ ?_
     cases h
     refine AK.done ?_
     exact ex_ _ (an_ rfl (gives ⟨rfl, rfl, rfl, rfl, rfl, rfl, rfl, rfl, rfl, rfl, rfl, tt_⟩))
    ·replace h : QeF l27 = some r := h
     unfold QeF at h
     rintro e σ ⟨rfl, rfl⟩
     refine Qa hC [.n 2, .keep [] [100000, 100001, 200000, 200001, 200002, 200003, 200004, 200005, 200006, 200007, 200008]] rfl tt_ ?_
     cases h
     refine AK.done ?_
     exact ex_ _ (an_ rfl (gives ⟨rfl, rfl, rfl, rfl, rfl, rfl, rfl, rfl, rfl, rfl, rfl, tt_⟩))
def QcO (l1 : (List Qy)) (k2 : Int) : Option Int :=
 (QfH l1 k2).bind fun x5 =>
 bif (!x5.1) then
 some 0
 else
 (idx x5.2.sizes k2).bind fun e7 =>
 some e7
theorem QgK (l1 : (List Qy)) (k2 : Int) {r : Int} (h : QcO l1 k2 = some r) : Qc Tryz.prog 53 [.sl 7 (l1.map Qu), .i .i64 k2] [] (Gives (.i .i64 r) []) := by
 refine Qc.walk 20 Tryz.func53 rfl Tryz.ntmps53 rfl fun C hC => ?_
 unfold QcO at h
 obtain ⟨x5, hx5, h⟩ := Qb h
 refine Qa hC [.n 9, .o (.c false [.d, .d] (.tup [.agg (QI x5.2), .b x5.1])), .n 5, .sayO 5 (.var (QI x5.2)), .n 10] rfl ⟨⟨tt_, (Qj7 _ _ hx5)⟩, rfl⟩ ?_
 rcases bifE h with ⟨hc6, h⟩ | ⟨hc6, h⟩
 ·refine Qa hC [.br true, .n 7, .keep [4] []] rfl ⟨tt_, hc6⟩ ?_
  cases h
  exact AK.done (ex_ [_] (an_ (an_ rfl tt_) (gives tt_)))
 ·obtain ⟨e7, he7, h⟩ := Qb h
  refine Qa hC [.br false, .n 7, .o (.row (Qe e7)), .n 5, .keep [4] []] rfl ⟨⟨tt_, hc6⟩, (idxM he7)⟩ ?_
  cases h
  exact AK.done (ex_ [_] (an_ (an_ rfl tt_) (gives tt_)))
def QgL (a22 : (List Qk)) : Option (((List Int) × (List Qk)) ⊕ ((List Qk) ⊕ (List Qk))) :=
 some (.inr (.inr a22))
def QgM (at_25 : Int) (l26 : (List Int)) (v9 : Qr) (v10 : TNet) : Option Bool :=
 bif (decide (0 ≤ at_25)) then
 (idx l26 at_25).bind fun e34 =>
 (idx v9.Vars at_25).bind fun e35 =>
 (QcO v10.Colours e35.Colour).bind fun x36 =>
 some (decide (x36 ≤ (w64 (e34 + 1))))
 else
 some false
def QcB (l26 : (List Int)) (at_25 : Int) (x31 : Bool) : Option ((Int × (List Int)) ⊕ (Int × (List Int))) :=
 bif x31 then
 (idx l26 at_25).bind fun e38 =>
 some (.inl ((w64 (at_25 - 1)), (l26.set at_25.toNat 0)))
 else
 some (.inr (at_25, l26))
def Qbe (v9 : Qr) (v10 : TNet) (at_25 : Int) (l26 : (List Int)) : Option ((Int × (List Int)) ⊕ (Int × (List Int))) :=
 (QgM at_25 l26 v9 v10).bind (fun x31 => QcB l26 at_25 x31)
def QcC (a23 : (List Qk)) (at_29 : Int) (l30 : (List Int)) : Option (((List Int) × (List Qk)) ⊕ ((List Qk) ⊕ (List Qk))) :=
 bif (decide (at_29 < 0)) then
 some (.inr (.inl a23))
 else
 (idx l30 at_29).bind fun e41 =>
 (idx l30 at_29).bind fun e42 =>
 some (.inl ((l30.set at_29.toNat (w64 (e41 + 1))), a23))
def QcD (v9 : Qr) (v10 : TNet) (l14 : (List Int)) (a23 : (List Qk)) : Option (((List Int) × (List Qk)) ⊕ ((List Qk) ⊕ (List Qk))) :=
 (QE (fun st => Qbe v9 v10 st.1 st.2) ((w64 ((l14.length : Int) - 1)), l14)).bind (fun q => QcC a23 q.1 q.2)
def QbJ (v1 : TNet) (v2 : (List (List (Int × Int)))) (v3 : Int) (v4 : Int) (l5 : (List Qk)) (v6 : (List (List Int))) (v7 : (List (List Int))) (v9 : Qr) (v10 : TNet) (l14 : (List Int)) (l15 : (List Qk)) : Option (((List Int) × (List Qk)) ⊕ ((List Qk) ⊕ (List Qk))) :=
 (Qak l14).bind fun x20 =>
 (Qcm v1 v2 v3 v4 l5 v6 v7 l15 x20).bind (Sum.elim (fun q => QgL q) (fun q => QcD v9 v10 l14 q))
def QgN (l18 : (List Qk)) : Option ((List Qk) ⊕ (List Qk)) :=
 some (.inl l18)
def QgO (l19 : (List Qk)) : Option ((List Qk) ⊕ (List Qk)) :=
 some (.inr l19)
def QdW (v1 : TNet) (v2 : (List (List (Int × Int)))) (v3 : Int) (v4 : Int) (l5 : (List Qk)) (v6 : (List (List Int))) (v7 : (List (List Int))) (l8 : (List Qk)) (v9 : Qr) (v10 : TNet) : Option ((List Qk) ⊕ (List Qk)) :=
 (chk (decide (0 ≤ (v9.Vars.length : Int)) && decide ((v9.Vars.length : Int) ≤ (v9.Vars.length : Int)) && decide ((v9.Vars.length : Int) ≤ 4294967296))).bind fun _ =>
 (QE (fun st => QbJ v1 v2 v3 v4 l5 v6 v7 v9 v10 st.1 st.2) ((List.replicate (v9.Vars.length : Int).toNat (0 : Int)), l8)).bind (Sum.elim (fun q => QgN q) (fun q => QgO q))
theorem QjI (lpl lpf : Nat) (v1 : TNet) (v2 : (List (List (Int × Int)))) (v3 : Int) (v4 : Int) (l5 : (List Qk)) (v6 : (List (List Int))) (v7 : (List (List Int))) (l8 : (List Qk)) (v9 : Qr) (v10 : TNet) {r : ((List Qk) ⊕ (List Qk))} (h : QdW v1 v2 v3 v4 l5 v6 v7 l8 v9 v10 = some r) : Qc Tryz.prog 199 [.clo (.yield lpl) [] [], .loc 200009 0 0, .loc 200010 0 0] [(200000, .lp lpl (Qaq lpf) [.J, .J, .J, .J, .loc 200001 0 0, .loc 200002 0 0, .loc 200003 0 0, .loc 200004 0 0, .loc 200005 0 0, .J, .loc 200006 0 0, .loc 200007 0 0, .loc 200008 0 0, .J, .J, .J, .J, .J, .J, .J, .J, .J, .J, .J, .J, .J, .J, .J, .J, .J, .J, .J, .J, .J, .J, .J, .J, .J, .J, .J, .J, .J, .J, .J, .J, .J, .J, .J, .J, .J, .J, .J, .J, .J, .J, .J, .J, .J, .J, .J, .J, .J, .J, .J, .J, .J, .J, .J, .J, .J, .J, .J, .J, .J, .J, .J, .J, .J, .J, .J, .J, .J, .J, .J, .J, .J, .J, .J, .J, .J, .J, .J, .J, .J, .J, .J, .J, .J, .J, .J, .J, .J, .J, .J, .J, .J, .J, .J, .J] 0), (200001, .var (Qd v1)), (200002, .var (QS v2)), (200003, .var (Qe v3)), (200004, .var (Qe v4)), (200005, .var [.own 100000 l5.length]), (100000, .arr 4 (l5.map Qj)), (200006, .var (QF v6)), (200007, .var (QF v7)), (200008, .var [.own 100001 l8.length]), (100001, .arr 4 (l8.map Qj)), (200009, .var (Qi v9)), (200010, .var (Qd v10))] ((Sum.elim (fun q => (Gives (.tup []) [(100000, .arr 4 (l5.map Qj)), (100001, .arr 4 (q.map Qj)), (200000, .lp lpl (Qaq lpf) [.J, .J, .J, .J, .loc 200001 0 0, .loc 200002 0 0, .loc 200003 0 0, .loc 200004 0 0, .loc 200005 0 0, .J, .loc 200006 0 0, .loc 200007 0 0, .loc 200008 0 0, .J, .J, .J, .J, .J, .J, .J, .J, .J, .J, .J, .J, .J, .J, .J, .J, .J, .J, .J, .J, .J, .J, .J, .J, .J, .J, .J, .J, .J, .J, .J, .J, .J, .J, .J, .J, .J, .J, .J, .J, .J, .J, .J, .J, .J, .J, .J, .J, .J, .J, .J, .J, .J, .J, .J, .J, .J, .J, .J, .J, .J, .J, .J, .J, .J, .J, .J, .J, .J, .J, .J, .J, .J, .J, .J, .J, .J, .J, .J, .J, .J, .J, .J, .J, .J, .J, .J, .J, .J, .J, .J, .J, .J, .J, .J, .J] 0), (200001, .var (Qd v1)), (200002, .var (QS v2)), (200003, .var (Qe v3)), (200004, .var (Qe v4)), (200005, .var [.own 100000 l5.length]), (200006, .var (QF v6)), (200007, .var (QF v7)), (200008, .var [.own 100001 q.length]), (200009, .var (Qi v9)), (200010, .var (Qd v10))])) (fun q => (Gives (.tup []) [(100000, .arr 4 (l5.map Qj)), (100001, .arr 4 (q.map Qj)), (200000, .lp lpl (Qaq lpf) [.J, .J, .J, .J, .loc 200001 0 0, .loc 200002 0 0, .loc 200003 0 0, .loc 200004 0 0, .loc 200005 0 0, .J, .loc 200006 0 0, .loc 200007 0 0, .loc 200008 0 0, .J, .J, .J, .J, .J, .J, .J, .J, .J, .J, .J, .J, .J, .J, .J, .J, .J, .J, .J, .J, .J, .J, .J, .J, .J, .J, .J, .J, .J, .J, .J, .J, .J, .J, .J, .J, .J, .J, .J, .J, .J, .J, .J, .J, .J, .J, .J, .J, .J, .J, .J, .J, .J, .J, .J, .J, .J, .J, .J, .J, .J, .J, .J, .J, .J, .J, .J, .J, .J, .J, .J, .J, .J, .J, .J, .J, .J, .J, .J, .J, .J, .J, .J, .J, .J, .J, .J, .J, .J, .J, .J, .J, .J, .J, .J, .J] 2), (200001, .var (Qd v1)), (200002, .var (QS v2)), (200003, .var (Qe v3)), (200004, .var (Qe v4)), (200005, .var [.own 100001 q.length]), (200006, .var (QF v6)), (200007, .var (QF v7)), (200008, .var [.own 100001 q.length]), (200009, .var (Qi v9)), (200010, .var (Qd v10))]))) r) := by
 refine Qc.walk 50 Tryz.func199 rfl Tryz.ntmps199 rfl fun C hC => ?_
 unfold QdW at h
 obtain ⟨_, hk13, h⟩ := Qb h
 replace hk13 := chkE hk13
 refine Qa hC [.n 4, .o (.ln v9.Vars.length), .o (.rows ((List.replicate (v9.Vars.length : Int).toNat (0 : Int)).map Qe)), .say 9 (.own 9 (List.replicate (v9.Vars.length : Int).toNat (0 : Int)).length), .n 4, .keep [0, 1, 2, 4] [9, 100000, 100001, 200000, 200001, 200002, 200003, 200004, 200005, 200006, 200007, 200008, 200009, 200010]] rfl ⟨⟨⟨tt_, Qg⟩, ⟨hk13, Qtb rfl⟩⟩, (by simp)⟩ ?_
 obtain ⟨o43, hl43, h⟩ := Qb h
 refine AK.loop (body := (fun st => QbJ v1 v2 v3 v4 l5 v6 v7 v9 v10 st.1 st.2)) (fun st σ => σ = ⟨[(0, .clo (.yield lpl) [] []), (1, .loc 200009 0 0), (2, .loc 200010 0 0), (4, .own 9 st.1.length)], [(9, .arr 1 (st.1.map Qe)), (100000, .arr 4 (l5.map Qj)), (100001, .arr 4 (st.2.map Qj)), (200000, .lp lpl (Qaq lpf) [.J, .J, .J, .J, .loc 200001 0 0, .loc 200002 0 0, .loc 200003 0 0, .loc 200004 0 0, .loc 200005 0 0, .J, .loc 200006 0 0, .loc 200007 0 0, .loc 200008 0 0, .J, .J, .J, .J, .J, .J, .J, .J, .J, .J, .J, .J, .J, .J, .J, .J, .J, .J, .J, .J, .J, .J, .J, .J, .J, .J, .J, .J, .J, .J, .J, .J, .J, .J, .J, .J, .J, .J, .J, .J, .J, .J, .J, .J, .J, .J, .J, .J, .J, .J, .J, .J, .J, .J, .J, .J, .J, .J, .J, .J, .J, .J, .J, .J, .J, .J, .J, .J, .J, .J, .J, .J, .J, .J, .J, .J, .J, .J, .J, .J, .J, .J, .J, .J, .J, .J, .J, .J, .J, .J, .J, .J, .J, .J, .J, .J] 0), (200001, .var (Qd v1)), (200002, .var (QS v2)), (200003, .var (Qe v3)), (200004, .var (Qe v4)), (200005, .var [.own 100000 l5.length]), (200006, .var (QF v6)), (200007, .var (QF v7)), (200008, .var [.own 100001 st.2.length]), (200009, .var (Qi v9)), (200010, .var (Qd v10))]⟩) (Sum.elim (fun q e σ => e = .ret ∧ σ = ⟨[], [(100000, .arr 4 (l5.map Qj)), (100001, .arr 4 (q.map Qj)), (200000, .lp lpl (Qaq lpf) [.J, .J, .J, .J, .loc 200001 0 0, .loc 200002 0 0, .loc 200003 0 0, .loc 200004 0 0, .loc 200005 0 0, .J, .loc 200006 0 0, .loc 200007 0 0, .loc 200008 0 0, .J, .J, .J, .J, .J, .J, .J, .J, .J, .J, .J, .J, .J, .J, .J, .J, .J, .J, .J, .J, .J, .J, .J, .J, .J, .J, .J, .J, .J, .J, .J, .J, .J, .J, .J, .J, .J, .J, .J, .J, .J, .J, .J, .J, .J, .J, .J, .J, .J, .J, .J, .J, .J, .J, .J, .J, .J, .J, .J, .J, .J, .J, .J, .J, .J, .J, .J, .J, .J, .J, .J, .J, .J, .J, .J, .J, .J, .J, .J, .J, .J, .J, .J, .J, .J, .J, .J, .J, .J, .J, .J, .J, .J, .J, .J, .J] 0), (200001, .var (Qd v1)), (200002, .var (QS v2)), (200003, .var (Qe v3)), (200004, .var (Qe v4)), (200005, .var [.own 100000 l5.length]), (200006, .var (QF v6)), (200007, .var (QF v7)), (200008, .var [.own 100001 q.length]), (200009, .var (Qi v9)), (200010, .var (Qd v10))]⟩) (fun q e σ => e = .ret ∧ σ = ⟨[], [(100000, .arr 4 (l5.map Qj)), (100001, .arr 4 (q.map Qj)), (200000, .lp lpl (Qaq lpf) [.J, .J, .J, .J, .loc 200001 0 0, .loc 200002 0 0, .loc 200003 0 0, .loc 200004 0 0, .loc 200005 0 0, .J, .loc 200006 0 0, .loc 200007 0 0, .loc 200008 0 0, .J, .J, .J, .J, .J, .J, .J, .J, .J, .J, .J, .J, .J, .J, .J, .J, .J, .J, .J, .J, .J, .J, .J, .J, .J, .J, .J, .J, .J, .J, .J, .J, .J, .J, .J, .J, .J, .J, .J, .J, .J, .J, .J, .J, .J, .J, .J, .J, .J, .J, .J, .J, .J, .J, .J, .J, .J, .J, .J, .J, .J, .J, .J, .J, .J, .J, .J, .J, .J, .J, .J, .J, .J, .J, .J, .J, .J, .J, .J, .J, .J, .J, .J, .J, .J, .J, .J, .J, .J, .J, .J, .J, .J, .J, .J, .J] 2), (200001, .var (Qd v1)), (200002, .var (QS v2)), (200003, .var (Qe v3)), (200004, .var (Qe v4)), (200005, .var [.own 100001 q.length]), (200006, .var (QF v6)), (200007, .var (QF v7)), (200008, .var [.own 100001 q.length]), (200009, .var (Qi v9)), (200010, .var (Qd v10))]⟩)) hl43 rfl ?_ ?_
 ·rintro ⟨l14, l15⟩ o σ rfl h
  replace h : QbJ v1 v2 v3 v4 l5 v6 v7 v9 v10 l14 l15 = some o := h
  unfold QbJ at h
  obtain ⟨x20, hx20, h⟩ := Qb h
  obtain ⟨x21, hx21, h⟩ := Qb h
  refine Qa hC [.n 6, .o (.co true [.o (l14.map Qe)] 1 (x20.map Qe) x20.length), .frz 12 (x20.map Qe) [12] []] rfl ⟨⟨tt_, ⟨(QqE rfl), ⟨(Qbt _ hx20), Qg, .inr (Qtt _)⟩⟩⟩, ⟨tt_, (frzL Qg)⟩⟩ ?_
  rcases x21 with (a22 | a23)
  ·replace h : QgL a22 = some o := h
   unfold QgL at h
   refine Qa hC [.x (fun σ => (σ.after [100000, 100001] [(100000, .arr 4 (l5.map Qj)), (100001, .arr 4 (a22.map Qj)), (200000, .lp lpl (Qaq lpf) [.J, .J, .J, .J, .loc 200001 0 0, .loc 200002 0 0, .loc 200003 0 0, .loc 200004 0 0, .loc 200005 0 0, .J, .loc 200006 0 0, .loc 200007 0 0, .loc 200008 0 0, .J, .J, .J, .J, .J, .J, .J, .J, .J, .J, .J, .J, .J, .J, .J, .J, .J, .J, .J, .J, .J, .J, .J, .J, .J, .J, .J, .J, .J, .J, .J, .J, .J, .J, .J, .J, .J, .J, .J, .J, .J, .J, .J, .J, .J, .J, .J, .J, .J, .J, .J, .J, .J, .J, .J, .J, .J, .J, .J, .J, .J, .J, .J, .J, .J, .J, .J, .J, .J, .J, .J, .J, .J, .J, .J, .J, .J, .J, .J, .J, .J, .J, .J, .J, .J, .J, .J, .J, .J, .J, .J, .J, .J, .J, .J, .J] 2), (200001, .var (Qd v1)), (200002, .var (QS v2)), (200003, .var (Qe v3)), (200004, .var (Qe v4)), (200005, .var [.own 100001 a22.length]), (200006, .var (QF v6)), (200007, .var (QF v7)), (200008, .var [.own 100001 a22.length])]).put 13 (.b false)), .n 7, .keep [] [100000, 100001, 200000, 200001, 200002, 200003, 200004, 200005, 200006, 200007, 200008, 200009, 200010]] rfl ⟨tt_, (Stp.yieldV (b := 200000) (M := [(200000, 200000), (200001, 200001), (200002, 200002), (200003, 200003), (200004, 200004), (200005, 200005), (100000, 100000), (200006, 200006), (200007, 200007), (200008, 200008), (100001, 100001)]) (N := [(100000, 100000), (100001, 100001), (200000, 200000), (200001, 200001), (200002, 200002), (200003, 200003), (200004, 200004), (200005, 200005), (200006, 200006), (200007, 200007), (200008, 200008)]) (dead := [100000, 100001]) (ms := [.d, .d, .d, .d, .d, .d, .d, .d, .d, .d, .d, .d, .d, .d, .d, .d, .d, .d, .d, .d, .d, .d, .d, .d, .d, .d, .d, .d, .d, .d, .d, .d, .d, .d, .d, .d, .d, .d, .d, .d, .d, .d, .d, .d, .d, .d, .d, .d, .d, .d, .d, .d, .d, .d, .d, .d, .d, .d, .d, .d, .d, .d, .d, .d, .d, .d, .d, .d, .d, .d, .d, .d, .d, .d, .d, .d, .d, .d, .d, .d, .d, .d, .d, .d, .d, .d, .d, .d, .d, .d, .d, .d, .d, .d, .d, .d, .d, .d, .d, .d, .d, .d, .d, .d, .d, .d, .d, .d, .d]) (outs := [(100000, .arr 4 (l5.map Qj)), (100001, .arr 4 (a22.map Qj)), (200000, .lp lpl (Qaq lpf) [.J, .J, .J, .J, .loc 200001 0 0, .loc 200002 0 0, .loc 200003 0 0, .loc 200004 0 0, .loc 200005 0 0, .J, .loc 200006 0 0, .loc 200007 0 0, .loc 200008 0 0, .J, .J, .J, .J, .J, .J, .J, .J, .J, .J, .J, .J, .J, .J, .J, .J, .J, .J, .J, .J, .J, .J, .J, .J, .J, .J, .J, .J, .J, .J, .J, .J, .J, .J, .J, .J, .J, .J, .J, .J, .J, .J, .J, .J, .J, .J, .J, .J, .J, .J, .J, .J, .J, .J, .J, .J, .J, .J, .J, .J, .J, .J, .J, .J, .J, .J, .J, .J, .J, .J, .J, .J, .J, .J, .J, .J, .J, .J, .J, .J, .J, .J, .J, .J, .J, .J, .J, .J, .J, .J, .J, .J, .J, .J, .J, .J] 2), (200001, .var (Qd v1)), (200002, .var (QS v2)), (200003, .var (Qe v3)), (200004, .var (Qe v4)), (200005, .var [.own 100001 a22.length]), (200006, .var (QF v6)), (200007, .var (QF v7)), (200008, .var [.own 100001 a22.length])]) (r := .b false) rfl rfl rfl rfl rfl rfl rfl (bleN hC.n rfl) hC.g rfl rfl (QhY _ _ _ _ _ _ _ _ _ _ _ hx21))⟩ ?_
   cases h
   exact rndR rfl (an_ rfl rfl)
  ·replace h : QcD v9 v10 l14 a23 = some o := h
   unfold QcD at h
   refine Qa hC [.x (fun σ => (σ.after [100000, 100001] [(100000, .arr 4 (l5.map Qj)), (100001, .arr 4 (a23.map Qj)), (200000, .lp lpl (Qaq lpf) [.J, .J, .J, .J, .loc 200001 0 0, .loc 200002 0 0, .loc 200003 0 0, .loc 200004 0 0, .loc 200005 0 0, .J, .loc 200006 0 0, .loc 200007 0 0, .loc 200008 0 0, .J, .J, .J, .J, .J, .J, .J, .J, .J, .J, .J, .J, .J, .J, .J, .J, .J, .J, .J, .J, .J, .J, .J, .J, .J, .J, .J, .J, .J, .J, .J, .J, .J, .J, .J, .J, .J, .J, .J, .J, .J, .J, .J, .J, .J, .J, .J, .J, .J, .J, .J, .J, .J, .J, .J, .J, .J, .J, .J, .J, .J, .J, .J, .J, .J, .J, .J, .J, .J, .J, .J, .J, .J, .J, .J, .J, .J, .J, .J, .J, .J, .J, .J, .J, .J, .J, .J, .J, .J, .J, .J, .J, .J, .J, .J, .J] 0), (200001, .var (Qd v1)), (200002, .var (QS v2)), (200003, .var (Qe v3)), (200004, .var (Qe v4)), (200005, .var [.own 100000 l5.length]), (200006, .var (QF v6)), (200007, .var (QF v7)), (200008, .var [.own 100001 a23.length])]).put 13 (.b true)), .n 16, .keep [0, 1, 2, 4, 5] [9, 100000, 100001, 200000, 200001, 200002, 200003, 200004, 200005, 200006, 200007, 200008, 200009, 200010]] rfl ⟨tt_, (Stp.yieldV (b := 200000) (M := [(200000, 200000), (200001, 200001), (200002, 200002), (200003, 200003), (200004, 200004), (200005, 200005), (100000, 100000), (200006, 200006), (200007, 200007), (200008, 200008), (100001, 100001)]) (N := [(100000, 100000), (100001, 100001), (200000, 200000), (200001, 200001), (200002, 200002), (200003, 200003), (200004, 200004), (200005, 200005), (200006, 200006), (200007, 200007), (200008, 200008)]) (dead := [100000, 100001]) (ms := [.d, .d, .d, .d, .d, .d, .d, .d, .d, .d, .d, .d, .d, .d, .d, .d, .d, .d, .d, .d, .d, .d, .d, .d, .d, .d, .d, .d, .d, .d, .d, .d, .d, .d, .d, .d, .d, .d, .d, .d, .d, .d, .d, .d, .d, .d, .d, .d, .d, .d, .d, .d, .d, .d, .d, .d, .d, .d, .d, .d, .d, .d, .d, .d, .d, .d, .d, .d, .d, .d, .d, .d, .d, .d, .d, .d, .d, .d, .d, .d, .d, .d, .d, .d, .d, .d, .d, .d, .d, .d, .d, .d, .d, .d, .d, .d, .d, .d, .d, .d, .d, .d, .d, .d, .d, .d, .d, .d, .d]) (outs := [(100000, .arr 4 (l5.map Qj)), (100001, .arr 4 (a23.map Qj)), (200000, .lp lpl (Qaq lpf) [.J, .J, .J, .J, .loc 200001 0 0, .loc 200002 0 0, .loc 200003 0 0, .loc 200004 0 0, .loc 200005 0 0, .J, .loc 200006 0 0, .loc 200007 0 0, .loc 200008 0 0, .J, .J, .J, .J, .J, .J, .J, .J, .J, .J, .J, .J, .J, .J, .J, .J, .J, .J, .J, .J, .J, .J, .J, .J, .J, .J, .J, .J, .J, .J, .J, .J, .J, .J, .J, .J, .J, .J, .J, .J, .J, .J, .J, .J, .J, .J, .J, .J, .J, .J, .J, .J, .J, .J, .J, .J, .J, .J, .J, .J, .J, .J, .J, .J, .J, .J, .J, .J, .J, .J, .J, .J, .J, .J, .J, .J, .J, .J, .J, .J, .J, .J, .J, .J, .J, .J, .J, .J, .J, .J, .J, .J, .J, .J, .J, .J] 0), (200001, .var (Qd v1)), (200002, .var (QS v2)), (200003, .var (Qe v3)), (200004, .var (Qe v4)), (200005, .var [.own 100000 l5.length]), (200006, .var (QF v6)), (200007, .var (QF v7)), (200008, .var [.own 100001 a23.length])]) (r := .b true) rfl rfl rfl rfl rfl rfl rfl (bleN hC.n rfl) hC.g rfl rfl (QhY _ _ _ _ _ _ _ _ _ _ _ hx21))⟩ ?_
   obtain ⟨o39, hl39, h⟩ := Qb h
   refine AK.loop (body := (fun st => Qbe v9 v10 st.1 st.2)) (fun st σ => σ = ⟨[(0, .clo (.yield lpl) [] []), (1, .loc 200009 0 0), (2, .loc 200010 0 0), (4, .own 9 st.2.length), (5, .i .i64 st.1)], [(9, .arr 1 (st.2.map Qe)), (100000, .arr 4 (l5.map Qj)), (100001, .arr 4 (a23.map Qj)), (200000, .lp lpl (Qaq lpf) [.J, .J, .J, .J, .loc 200001 0 0, .loc 200002 0 0, .loc 200003 0 0, .loc 200004 0 0, .loc 200005 0 0, .J, .loc 200006 0 0, .loc 200007 0 0, .loc 200008 0 0, .J, .J, .J, .J, .J, .J, .J, .J, .J, .J, .J, .J, .J, .J, .J, .J, .J, .J, .J, .J, .J, .J, .J, .J, .J, .J, .J, .J, .J, .J, .J, .J, .J, .J, .J, .J, .J, .J, .J, .J, .J, .J, .J, .J, .J, .J, .J, .J, .J, .J, .J, .J, .J, .J, .J, .J, .J, .J, .J, .J, .J, .J, .J, .J, .J, .J, .J, .J, .J, .J, .J, .J, .J, .J, .J, .J, .J, .J, .J, .J, .J, .J, .J, .J, .J, .J, .J, .J, .J, .J, .J, .J, .J, .J, .J, .J] 0), (200001, .var (Qd v1)), (200002, .var (QS v2)), (200003, .var (Qe v3)), (200004, .var (Qe v4)), (200005, .var [.own 100000 l5.length]), (200006, .var (QF v6)), (200007, .var (QF v7)), (200008, .var [.own 100001 a23.length]), (200009, .var (Qi v9)), (200010, .var (Qd v10))]⟩) (fun q e σ => e = .exit 2 ∧ σ = ⟨[(0, .clo (.yield lpl) [] []), (1, .loc 200009 0 0), (2, .loc 200010 0 0), (4, .own 9 q.2.length), (5, .i .i64 q.1)], [(9, .arr 1 (q.2.map Qe)), (100000, .arr 4 (l5.map Qj)), (100001, .arr 4 (a23.map Qj)), (200000, .lp lpl (Qaq lpf) [.J, .J, .J, .J, .loc 200001 0 0, .loc 200002 0 0, .loc 200003 0 0, .loc 200004 0 0, .loc 200005 0 0, .J, .loc 200006 0 0, .loc 200007 0 0, .loc 200008 0 0, .J, .J, .J, .J, .J, .J, .J, .J, .J, .J, .J, .J, .J, .J, .J, .J, .J, .J, .J, .J, .J, .J, .J, .J, .J, .J, .J, .J, .J, .J, .J, .J, .J, .J, .J, .J, .J, .J, .J, .J, .J, .J, .J, .J, .J, .J, .J, .J, .J, .J, .J, .J, .J, .J, .J, .J, .J, .J, .J, .J, .J, .J, .J, .J, .J, .J, .J, .J, .J, .J, .J, .J, .J, .J, .J, .J, .J, .J, .J, .J, .J, .J, .J, .J, .J, .J, .J, .J, .J, .J, .J, .J, .J, .J, .J, .J] 0), (200001, .var (Qd v1)), (200002, .var (QS v2)), (200003, .var (Qe v3)), (200004, .var (Qe v4)), (200005, .var [.own 100000 l5.length]), (200006, .var (QF v6)), (200007, .var (QF v7)), (200008, .var [.own 100001 a23.length]), (200009, .var (Qi v9)), (200010, .var (Qd v10))]⟩) hl39 rfl ?_ ?_
   ·rintro ⟨at_25, l26⟩ o σ rfl h
    replace h : Qbe v9 v10 at_25 l26 = some o := h
    unfold Qbe at h
    refine Qa hC [.n 2] rfl tt_ ?_
    obtain ⟨x31, hv32, h⟩ := Qb h
    replace h : QcB l26 at_25 x31 = some o := h
    refine AK.meetX (fun σ => σ = ⟨[(0, .clo (.yield lpl) [] []), (1, .loc 200009 0 0), (2, .loc 200010 0 0), (4, .own 9 l26.length), (5, .i .i64 at_25), (36, .b x31)], [(9, .arr 1 (l26.map Qe)), (100000, .arr 4 (l5.map Qj)), (100001, .arr 4 (a23.map Qj)), (200000, .lp lpl (Qaq lpf) [.J, .J, .J, .J, .loc 200001 0 0, .loc 200002 0 0, .loc 200003 0 0, .loc 200004 0 0, .loc 200005 0 0, .J, .loc 200006 0 0, .loc 200007 0 0, .loc 200008 0 0, .J, .J, .J, .J, .J, .J, .J, .J, .J, .J, .J, .J, .J, .J, .J, .J, .J, .J, .J, .J, .J, .J, .J, .J, .J, .J, .J, .J, .J, .J, .J, .J, .J, .J, .J, .J, .J, .J, .J, .J, .J, .J, .J, .J, .J, .J, .J, .J, .J, .J, .J, .J, .J, .J, .J, .J, .J, .J, .J, .J, .J, .J, .J, .J, .J, .J, .J, .J, .J, .J, .J, .J, .J, .J, .J, .J, .J, .J, .J, .J, .J, .J, .J, .J, .J, .J, .J, .J, .J, .J, .J, .J, .J, .J, .J, .J] 0), (200001, .var (Qd v1)), (200002, .var (QS v2)), (200003, .var (Qe v3)), (200004, .var (Qe v4)), (200005, .var [.own 100000 l5.length]), (200006, .var (QF v6)), (200007, .var (QF v7)), (200008, .var [.own 100001 a23.length]), (200009, .var (Qi v9)), (200010, .var (Qd v10))]⟩) ?_ ?_
    ·replace h := hv32
     unfold QgM at h
     refine Qa hC [.keep [0, 1, 2, 4, 5] [9, 100000, 100001, 200000, 200001, 200002, 200003, 200004, 200005, 200006, 200007, 200008, 200009, 200010]] rfl tt_ ?_
     rcases bifE h with ⟨hc33, h⟩ | ⟨hc33, h⟩
     ·obtain ⟨e34, he34, h⟩ := Qb h
      obtain ⟨e35, he35, h⟩ := Qb h
      obtain ⟨x36, hx36, h⟩ := Qb h
      refine AK.draw2 Qo hC mixed [.a .no none false, .a .no none false, .a .no (some ([], .b true)) false, .a .no none false, .a .no none false, .a .no none false, .a (.row (Qe e34)) none false, .a .no none false, .a .no none false, .a .no none false, .a .no none false, .a .no none false, .a .no none false, .a (.row (QB e35)) none false, .a .no none false, .a .no none false, .a (.c false [.d, .d] (.i .i64 x36)) none false, .a .no none false, .a .no none false] [] [] [0, 1, 2, 4, 5, 36] [9, 100000, 100001, 200000, 200001, 200002, 200003, 200004, 200005, 200006, 200007, 200008, 200009, 200010] rfl rfl rfl ⟨⟨⟨⟨⟨tt_, (congrArg V.b hc33)⟩, (QeX he34 rfl)⟩, (Qcz (idxE he34).2)⟩, (idxM he35)⟩, (QgK _ _ hx36)⟩ rfl (by kernel_rfl) rfl rfl rfl ?_
      refine Qa hC [.keep [0, 1, 2, 4, 5, 36] [9, 100000, 100001, 200000, 200001, 200002, 200003, 200004, 200005, 200006, 200007, 200008, 200009, 200010]] rfl tt_ ?_
      cases h
      exact AK.met rfl
     ·refine AK.draw2 Qo hC mixed [.a .no none false, .a .no none false, .a .no (some ([], .b false)) false, .a .no none false, .a .no none false, .a .no none false, .a .no none false, .a .no none false, .a .no none false, .a .no none false, .a .no none false, .a .no none false, .a .no none false, .a .no none false, .a .no none false, .a .no none false, .a .no none false, .a .no none false, .a .no none false] [] [] [0, 1, 2, 4, 5, 36] [9, 100000, 100001, 200000, 200001, 200002, 200003, 200004, 200005, 200006, 200007, 200008, 200009, 200010] rfl rfl rfl ⟨tt_, (congrArg V.b hc33)⟩ rfl (by kernel_rfl) rfl rfl rfl ?_
      refine Qa hC [.keep [0, 1, 2, 4, 5, 36] [9, 100000, 100001, 200000, 200001, 200002, 200003, 200004, 200005, 200006, 200007, 200008, 200009, 200010]] rfl tt_ ?_
      cases h
      exact AK.met rfl
    ·rintro σ rfl
     replace h : QcB l26 at_25 x31 = some o := h
     unfold QcB at h
     refine Qa hC [.n 1] rfl tt_ ?_
     rcases bifE h with ⟨hc37, h⟩ | ⟨hc37, h⟩
     ·obtain ⟨e38, he38, h⟩ := Qb h
      refine Qa hC [.br true, .n 8, .st (Qe e38) ((l26.set at_25.toNat 0).map Qe), .n 8, .say 4 (.own 9 (l26.set at_25.toNat 0).length), .keep [0, 1, 2, 4, 5] [9, 100000, 100001, 200000, 200001, 200002, 200003, 200004, 200005, 200006, 200007, 200008, 200009, 200010]] rfl ⟨⟨⟨⟨tt_, hc37⟩, (QeX he38 rfl)⟩, ⟨(Qcz (idxE he38).2), Qjn rfl⟩⟩, (congrArg (fun n => V.own 9 n) (by simp))⟩ ?_
      cases h
      exact rndN rfl rfl
     ·refine Qa hC [.br false, .n 2, .keep [0, 1, 2, 4, 5] [9, 100000, 100001, 200000, 200001, 200002, 200003, 200004, 200005, 200006, 200007, 200008, 200009, 200010]] rfl ⟨tt_, hc37⟩ ?_
      cases h
      exact rndX rfl (an_ rfl rfl)
   ·obtain ⟨at_29, l30⟩ := o39
    replace h : QcC a23 at_29 l30 = some o := h
    unfold QcC at h
    rintro e σ ⟨rfl, rfl⟩
    refine Qa hC [.n 9] rfl tt_ ?_
    rcases bifE h with ⟨hc40, h⟩ | ⟨hc40, h⟩
    ·refine Qa hC [.br true, .n 3, .keep [] [100000, 100001, 200000, 200001, 200002, 200003, 200004, 200005, 200006, 200007, 200008, 200009, 200010]] rfl ⟨tt_, hc40⟩ ?_
     cases h
     exact rndR rfl (an_ rfl rfl)
    ·obtain ⟨e41, he41, h⟩ := Qb h
     obtain ⟨e42, he42, h⟩ := Qb h
     refine Qa hC [.br false, .n 6, .o (.row (Qe e41)), .n 2, .st (Qe e42) ((l30.set at_29.toNat (w64 (e41 + 1))).map Qe), .n 2, .say 4 (.own 9 (l30.set at_29.toNat (w64 (e41 + 1))).length), .keep [0, 1, 2, 4] [9, 100000, 100001, 200000, 200001, 200002, 200003, 200004, 200005, 200006, 200007, 200008, 200009, 200010]] rfl ⟨⟨⟨⟨⟨⟨tt_, hc40⟩, (QeX he41 rfl)⟩, (Qcz (idxE he41).2)⟩, (QeX he42 rfl)⟩, ⟨(Qcz (idxE he42).2), Qjn rfl⟩⟩, (congrArg (fun n => V.own 9 n) (by simp))⟩ ?_
     cases h
     exact rndN rfl rfl
 ·rcases o43 with (l18 | l19)
  ·replace h : QgN l18 = some r := h
   unfold QgN at h
   rintro e σ ⟨rfl, rfl⟩
   refine Qa hC [.n 1, .keep [] [100000, 100001, 200000, 200001, 200002, 200003, 200004, 200005, 200006, 200007, 200008, 200009, 200010]] rfl tt_ ?_
   cases h
   refine AK.done ?_
   exact ex_ [] (an_ tt_ (gives ⟨rfl, rfl, rfl, rfl, rfl, rfl, rfl, rfl, rfl, rfl, rfl, rfl, rfl, tt_⟩))
  ·replace h : QgO l19 = some r := h
   unfold QgO at h
   rintro e σ ⟨rfl, rfl⟩
   refine Qa hC [.n 1, .keep [] [100000, 100001, 200000, 200001, 200002, 200003, 200004, 200005, 200006, 200007, 200008, 200009, 200010]] rfl tt_ ?_
   cases h
   refine AK.done ?_
   exact ex_ [] (an_ tt_ (gives ⟨rfl, rfl, rfl, rfl, rfl, rfl, rfl, rfl, rfl, rfl, rfl, rfl, rfl, tt_⟩))
def QjJ (a16 : (List Qk)) : Option (List Qk) :=
 some a16
def QjK (a17 : (List Qk)) : Option (List Qk) :=
 some a17
def QhZ (n1 : TNet) (m2 : (List (List (Int × Int)))) (task3 : Int) (most4 : Int) : Option (List Qk) :=
 bif ((decide (task3 < 0)) || ((decide ((n1.Tasks.length : Int) ≤ task3)) || (decide (most4 < 1)))) then
 some ([] : List Qk)
 else
 (idx n1.Tasks task3).bind fun e11 =>
 (Qcj e11.Join (e11.Ins.length : Int)).bind fun x12 =>
 (Qcj e11.Split (e11.Outs.length : Int)).bind fun x13 =>
 (QjH n1 e11).bind fun x14 =>
 (QdW n1 m2 task3 most4 ([] : List Qk) x12 x13 ([] : List Qk) x14.2 x14.1).bind (Sum.elim (fun q => QjJ q) (fun q => QjK q))
theorem Qqc (n1 : TNet) (m2 : (List (List (Int × Int)))) (task3 : Int) (most4 : Int) {r : (List Qk)} (h : QhZ n1 m2 task3 most4 = some r) : Qc Tryz.prog 88 [.agg (Qd n1), .sl 1 (m2.map Qh), .i .i64 task3, .i .i64 most4] [] (Gives (.sl 4 (r.map Qj)) []) := by
 refine Qc.walkR 109 Tryz.func88 rfl Tryz.ntmps88 rfl fun C hC hR => ?_
 unfold QhZ at h
 refine Qa hC [.n 11] rfl tt_ ?_
 refine AK.meetX (fun σ => σ = ⟨[(4, .loc 4 0 0), (5, .loc 5 0 0), (6, .loc 6 0 0), (7, .loc 7 0 0), (8, .loc 8 0 0), (33, .b ((decide (task3 < 0)) || ((decide ((n1.Tasks.length : Int) ≤ task3)) || (decide (most4 < 1)))))], [(4, .var (Qd n1)), (5, .var (QS m2)), (6, .var (Qe task3)), (7, .var (Qe most4)), (8, .var [.lit (.slice none 0 0)])]⟩) ?_ ?_
 ·refine Qa hC [.n 4] rfl tt_ ?_
  rcases QJ (decide (task3 < 0)) with hc8 | hc8
  ·refine Qa hC [.say 23 (.b true), .n 11, .say 33 (.b ((decide (task3 < 0)) || ((decide ((n1.Tasks.length : Int) ≤ task3)) || (decide (most4 < 1))))), .keep [4, 5, 6, 7, 8, 33] [4, 5, 6, 7, 8]] rfl ⟨⟨tt_, (congrArg V.b hc8)⟩, (congrArg V.b (orT hc8 rfl))⟩ ?_
   exact AK.met rfl
  ·refine Qa hC [.say 23 (.b false), .n 3, .o (.ln n1.Tasks.length), .n 3] rfl ⟨⟨tt_, (congrArg V.b hc8)⟩, Qg⟩ ?_
   rcases QJ (decide ((n1.Tasks.length : Int) ≤ task3)) with hc9 | hc9
   ·refine Qa hC [.say 30 (.b true), .n 4, .say 33 (.b ((decide (task3 < 0)) || ((decide ((n1.Tasks.length : Int) ≤ task3)) || (decide (most4 < 1))))), .keep [4, 5, 6, 7, 8, 33] [4, 5, 6, 7, 8]] rfl ⟨⟨tt_, (congrArg V.b hc9)⟩, (congrArg V.b (orF hc8 (orT hc9 rfl)))⟩ ?_
    exact AK.met rfl
   ·refine Qa hC [.say 30 (.b false), .n 4, .say 33 (.b ((decide (task3 < 0)) || ((decide ((n1.Tasks.length : Int) ≤ task3)) || (decide (most4 < 1))))), .keep [4, 5, 6, 7, 8, 33] [4, 5, 6, 7, 8]] rfl ⟨⟨tt_, (congrArg V.b hc9)⟩, (congrArg V.b (orF hc8 (orF hc9 rfl)))⟩ ?_
    exact AK.met rfl
 ·rintro σ rfl
  refine Qa hC [.n 1] rfl tt_ ?_
  rcases bifE h with ⟨hc10, h⟩ | ⟨hc10, h⟩
  ·refine Qa hC [.br true, .n 3, .sayO 8 (.var [.lit (.slice none 0 0)]), .n 4, .denilO 8 [some 4], .sayO 8 (.var (QsZ ([] : List Qk))), .keep [8] [8]] rfl ⟨⟨⟨tt_, hc10⟩, rfl⟩, rfl⟩ ?_
   cases h
   exact AK.done (ex_ [_] (an_ (an_ (ex_ _ (ex_ _ (an_ rfl (an_ rfl (Or.inr (an_ (Qo.ag rfl) rfl)))))) tt_) (gives tt_)))
  ·obtain ⟨e11, he11, h⟩ := Qb h
   obtain ⟨x12, hx12, h⟩ := Qb h
   obtain ⟨x13, hx13, h⟩ := Qb h
   refine Qa hC [.br false, .n 7, .o (.row (Qi e11)), .v .no [] (.agg (Qi e11)), .n 2, .sayO 9 (.var (Qi e11)), .n 3, .keep [4, 5, 6, 7, 8, 9] [4, 5, 6, 7, 8, 9]] rfl ⟨⟨⟨⟨tt_, hc10⟩, (idxM he11)⟩, rfl⟩, rfl⟩ ?_
   refine AK.draw2 Qo hC mixed [.a .no none false, .a .no none false, .a .no none false, .a .no none false, .a (.ln e11.Ins.length) none false, .a (.cd false [.d, .d] 1 (x12.map Qv) x12.length) none false, .a .no none false, .a .no none false, .a .no none false, .a .no none false, .a (.ln e11.Outs.length) none false, .a (.cd false [.d, .d] 1 (x13.map Qv) x13.length) none false, .a .no none false, .a .no none false, .m .s, .m .s] [] [] [4, 5, 6, 7, 8, 9, 10, 11] [4, 5, 6, 7, 8, 9, 10, 11] rfl rfl rfl ⟨⟨⟨⟨tt_, Qg⟩, ⟨(Qir _ _ hx12), Qg⟩⟩, Qg⟩, ⟨(Qir _ _ hx13), Qg⟩⟩ rfl (by kernel_rfl) rfl rfl rfl ?_
   obtain ⟨x14, hx14, h⟩ := Qb h
   refine Qa hC [.sayO 10 (.var (QF x12)), .sayO 11 (.var (QF x13)), .n 9, .v .no [] (.agg (Qd n1)), .v .no [] (.agg (Qi e11)), .cm (.fn) [] [(53, 2), (50000, 3)] [] [.d, .d] [(2, .var (Qd x14.1)), (3, .var (Qi x14.2))] (.clo (.func 199) [] [.loc 3 0 0, .loc 2 0 0]), .n 3, .keep [4, 5, 6, 7, 8, 10, 11, 12, 53] [4, 5, 6, 7, 8, 10, 11, 12, 53, 50000]] rfl ⟨⟨⟨⟨⟨tt_, rfl⟩, rfl⟩, rfl⟩, rfl⟩, (Qn7 _ _ hx14)⟩ ?_
   obtain ⟨x15, hx15, h⟩ := Qb h
   refine Qa hC [.adoptO 8 0 45160 4, .sayO 45160 (.arr 4 (([] : List Qk).map Qj)), .sayO 8 (.var [.own 45160 ([] : List Qk).length]), .adoptO 12 0 45240 4, .sayO 45240 (.arr 4 (([] : List Qk).map Qj)), .sayO 12 (.var [.own 45240 ([] : List Qk).length])] rfl ⟨⟨⟨⟨tt_, rfl⟩, rfl⟩, rfl⟩, rfl⟩ ?_
   rcases x15 with (a16 | a17)
   ·replace h : QjJ a16 = some r := h
    unfold QjJ at h
    refine AK.rangeF 60000 [4, 5, 6, 7, 8, 10, 11, 12] [(200000, 60000), (200001, 4), (200002, 5), (200003, 6), (200004, 7), (200005, 8), (100000, 45160), (200006, 10), (200007, 11), (200008, 12), (100001, 45240), (200009, 50000), (200010, 53)] [(45160, 100000), (45240, 100001), (60000, 200000), (4, 200001), (5, 200002), (6, 200003), (7, 200004), (8, 200005), (10, 200006), (11, 200007), (12, 200008), (50000, 200009), (53, 200010)] [45160, 45240] [.d, .d, .d] Qaq hC hR (fun _ => rfl) rfl rfl rfl rfl fun lpl lpf => ?_
    refine ex_ [(100000, .arr 4 (([] : List Qk).map Qj)), (100001, .arr 4 (a16.map Qj)), (200000, .lp lpl (Qaq lpf) [.J, .J, .J, .J, .loc 200001 0 0, .loc 200002 0 0, .loc 200003 0 0, .loc 200004 0 0, .loc 200005 0 0, .J, .loc 200006 0 0, .loc 200007 0 0, .loc 200008 0 0, .J, .J, .J, .J, .J, .J, .J, .J, .J, .J, .J, .J, .J, .J, .J, .J, .J, .J, .J, .J, .J, .J, .J, .J, .J, .J, .J, .J, .J, .J, .J, .J, .J, .J, .J, .J, .J, .J, .J, .J, .J, .J, .J, .J, .J, .J, .J, .J, .J, .J, .J, .J, .J, .J, .J, .J, .J, .J, .J, .J, .J, .J, .J, .J, .J, .J, .J, .J, .J, .J, .J, .J, .J, .J, .J, .J, .J, .J, .J, .J, .J, .J, .J, .J, .J, .J, .J, .J, .J, .J, .J, .J, .J, .J, .J, .J] 0), (200001, .var (Qd n1)), (200002, .var (QS m2)), (200003, .var (Qe task3)), (200004, .var (Qe most4)), (200005, .var [.own 100000 ([] : List Qk).length]), (200006, .var (QF x12)), (200007, .var (QF x13)), (200008, .var [.own 100001 a16.length]), (200009, .var (Qi x14.2)), (200010, .var (Qd x14.1))] (ex_ (.tup []) (ex_ _ (ex_ _ (ex_ [.J, .J, .J, .J, .loc 4 0 0, .loc 5 0 0, .loc 6 0 0, .loc 7 0 0, .loc 8 0 0, .J, .loc 10 0 0, .loc 11 0 0, .loc 12 0 0, .J, .J, .J, .J, .J, .J, .J, .J, .J, .J, .J, .J, .J, .J, .J, .J, .J, .J, .J, .J, .J, .J, .J, .J, .J, .J, .J, .J, .J, .J, .J, .J, .J, .J, .J, .J, .J, .J, .J, .J, .J, .J, .J, .J, .J, .J, .J, .J, .J, .J, .J, .J, .J, .J, .J, .J, .J, .J, .J, .J, .J, .J, .J, .J, .J, .J, .J, .J, .J, .J, .J, .J, .J, .J, .J, .J, .J, .J, .J, .J, .J, .J, .J, .J, .J, .J, .J, .J, .J, .J, .J, .J, .J, .J, .J, .J] (ex_ 0 (an_ rfl ?_))))))
    refine an_ (QjI _ _ _ _ _ _ _ _ _ _ _ _ hx15) (an_ rfl (an_ (bne_iff_ne.1 (show (0 != 1) = true from rfl)) ?_))
    refine atJ0 rfl ?_
    refine Qa hC [.n 6, .sayO 8 (.var [.own 45240 a16.length]), .n 3, .frz 45240 (a16.map Qj) [] [8], .keep [8] [8]] rfl ⟨⟨tt_, rfl⟩, ⟨tt_, ⟨(frzL Qg), tt_⟩⟩⟩ ?_
    cases h
    exact AK.done (ex_ [_] (an_ (an_ (ex_ _ (ex_ _ (an_ rfl (an_ rfl (Or.inr (an_ (Qo.ag rfl) rfl)))))) tt_) (gives tt_)))
   ·replace h : QjK a17 = some r := h
    unfold QjK at h
    refine AK.rangeF 60000 [4, 5, 6, 7, 8, 10, 11, 12] [(200000, 60000), (200001, 4), (200002, 5), (200003, 6), (200004, 7), (200005, 8), (100000, 45160), (200006, 10), (200007, 11), (200008, 12), (100001, 45240), (200009, 50000), (200010, 53)] [(45160, 100000), (45240, 100001), (60000, 200000), (4, 200001), (5, 200002), (6, 200003), (7, 200004), (8, 200005), (10, 200006), (11, 200007), (12, 200008), (50000, 200009), (53, 200010)] [45160, 45240] [.d, .d, .d] Qaq hC hR (fun _ => rfl) rfl rfl rfl rfl fun lpl lpf => ?_
    refine ex_ [(100000, .arr 4 (([] : List Qk).map Qj)), (100001, .arr 4 (a17.map Qj)), (200000, .lp lpl (Qaq lpf) [.J, .J, .J, .J, .loc 200001 0 0, .loc 200002 0 0, .loc 200003 0 0, .loc 200004 0 0, .loc 200005 0 0, .J, .loc 200006 0 0, .loc 200007 0 0, .loc 200008 0 0, .J, .J, .J, .J, .J, .J, .J, .J, .J, .J, .J, .J, .J, .J, .J, .J, .J, .J, .J, .J, .J, .J, .J, .J, .J, .J, .J, .J, .J, .J, .J, .J, .J, .J, .J, .J, .J, .J, .J, .J, .J, .J, .J, .J, .J, .J, .J, .J, .J, .J, .J, .J, .J, .J, .J, .J, .J, .J, .J, .J, .J, .J, .J, .J, .J, .J, .J, .J, .J, .J, .J, .J, .J, .J, .J, .J, .J, .J, .J, .J, .J, .J, .J, .J, .J, .J, .J, .J, .J, .J, .J, .J, .J, .J, .J, .J] 2), (200001, .var (Qd n1)), (200002, .var (QS m2)), (200003, .var (Qe task3)), (200004, .var (Qe most4)), (200005, .var [.own 100001 a17.length]), (200006, .var (QF x12)), (200007, .var (QF x13)), (200008, .var [.own 100001 a17.length]), (200009, .var (Qi x14.2)), (200010, .var (Qd x14.1))] (ex_ (.tup []) (ex_ _ (ex_ _ (ex_ [.J, .J, .J, .J, .loc 4 0 0, .loc 5 0 0, .loc 6 0 0, .loc 7 0 0, .loc 8 0 0, .J, .loc 10 0 0, .loc 11 0 0, .loc 12 0 0, .J, .J, .J, .J, .J, .J, .J, .J, .J, .J, .J, .J, .J, .J, .J, .J, .J, .J, .J, .J, .J, .J, .J, .J, .J, .J, .J, .J, .J, .J, .J, .J, .J, .J, .J, .J, .J, .J, .J, .J, .J, .J, .J, .J, .J, .J, .J, .J, .J, .J, .J, .J, .J, .J, .J, .J, .J, .J, .J, .J, .J, .J, .J, .J, .J, .J, .J, .J, .J, .J, .J, .J, .J, .J, .J, .J, .J, .J, .J, .J, .J, .J, .J, .J, .J, .J, .J, .J, .J, .J, .J, .J, .J, .J, .J, .J] (ex_ 2 (an_ rfl ?_))))))
    refine an_ (QjI _ _ _ _ _ _ _ _ _ _ _ _ hx15) (an_ rfl (an_ (bne_iff_ne.1 (show (2 != 1) = true from rfl)) ?_))
    refine atJ2 rfl ?_
    refine Qa hC [.n 3, .frz 45240 (a17.map Qj) [] [8], .keep [8] [8]] rfl ⟨tt_, ⟨tt_, ⟨(frzL Qg), tt_⟩⟩⟩ ?_
    cases h
    exact AK.done (ex_ [_] (an_ (an_ (ex_ _ (ex_ _ (an_ rfl (an_ rfl (Or.inr (an_ (Qo.ag rfl) rfl)))))) tt_) (gives tt_)))
def Qfc (n1 : TNet) (m2 : (List (List (Int × Int)))) (most3 : Int) (x6 : Int) (l7 : (List Qk)) : Option ((Int × (List Qk)) ⊕ (List Qk)) :=
 bif (decide (x6 < (n1.Tasks.length : Int))) then
 (QhZ n1 m2 x6 (w64 (most3 - (l7.length : Int)))).bind fun x12 =>
 (chk (decide (l7.length + x12.length ≤ 4294967296))).bind fun _ =>
 some (.inl ((w64 (x6 + 1)), (l7 ++ x12)))
 else
 some (.inr l7)
def QkP (l10 : (List Qk)) : Option (List Qk) :=
 some l10
def QjL (n1 : TNet) (m2 : (List (List (Int × Int)))) (most3 : Int) : Option (List Qk) :=
 (QE (fun st => Qfc n1 m2 most3 st.1 st.2) (0, ([] : List Qk))).bind (fun q => QkP q)
theorem Qrl (n1 : TNet) (m2 : (List (List (Int × Int)))) (most3 : Int) {r : (List Qk)} (h : QjL n1 m2 most3 = some r) : Qc Tryz.prog 45 [.agg (Qd n1), .sl 1 (m2.map Qh), .i .i64 most3] [] (Gives (.own 30000 r.length) [(30000, .arr 4 (r.map Qj))]) := by
 refine Qc.walk 27 Tryz.func45 rfl Tryz.ntmps45 rfl fun C hC => ?_
 unfold QjL at h
 refine Qa hC [.n 16, .o (.ln n1.Tasks.length), .n 4, .adopt 7 15 4, .sayO 15 (.arr 4 (([] : List Qk).map Qj)), .say 7 (.own 15 ([] : List Qk).length), .keep [1, 2, 3, 7, 11, 12] [3, 15]] rfl ⟨⟨⟨tt_, Qg⟩, rfl⟩, (congrArg (fun n => V.own 15 n) (by simp))⟩ ?_
 obtain ⟨l10, hl14, h⟩ := Qb h
 refine AK.loop (body := (fun st => Qfc n1 m2 most3 st.1 st.2)) (fun st σ => σ = ⟨[(1, .sl 1 (m2.map Qh)), (2, .i .i64 most3), (3, .loc 3 0 0), (7, .own 15 st.2.length), (11, .i .i64 (n1.Tasks.length : Int)), (12, .i .i64 st.1)], [(3, .var (Qd n1)), (15, .arr 4 (st.2.map Qj))]⟩) (fun q e σ => e = .exit 0 ∧ σ = ⟨[(7, .own 15 q.length)], [(15, .arr 4 (q.map Qj))]⟩) hl14 rfl ?_ ?_
 ·rintro ⟨x6, l7⟩ o σ rfl h
  replace h : Qfc n1 m2 most3 x6 l7 = some o := h
  unfold Qfc at h
  refine Qa hC [.n 6] rfl tt_ ?_
  rcases bifE h with ⟨hc11, h⟩ | ⟨hc11, h⟩
  ·obtain ⟨x12, hx12, h⟩ := Qb h
   obtain ⟨_, hk13, h⟩ := Qb h
   replace hk13 := chkE hk13
   refine Qa hC [.br true, .n 12, .v .no [] (.agg (Qd n1)), .n 6, .o (.c false [.d, .d, .d, .d] (.sl 4 (x12.map Qj))), .app ((l7 ++ x12).map Qj) (l7 ++ x12).length, .n 8, .keep [1, 2, 3, 7, 11, 12] [3, 15]] rfl ⟨⟨⟨⟨tt_, hc11⟩, rfl⟩, (Qqc _ _ _ _ hx12)⟩, ⟨Qg, Qes hk13 Qg, Qc0, QgG Qg⟩⟩ ?_
   cases h
   exact rndN rfl rfl
  ·refine Qa hC [.br false, .n 2, .keep [7] [15]] rfl ⟨tt_, hc11⟩ ?_
   cases h
   exact rndX rfl (an_ rfl rfl)
 ·replace h : QkP l10 = some r := h
  unfold QkP at h
  rintro e σ ⟨rfl, rfl⟩
  refine Qa hC [.n 9, .keep [6] [15], .ren 15 30000, .keep [6] [30000]] rfl tt_ ?_
  cases h
  exact AK.done (ex_ [_] (an_ (an_ rfl tt_) (gives ⟨rfl, tt_⟩)))
def QdA (picks3 : (List Int)) (n1 : TNet) (m8 : (List (List (Int × Int)))) (x9 : Int) (l10 : (List Qk)) : Option (((List (List (Int × Int))) × Int × (List Qk)) ⊕ ((List Qk) ⊕ (List Qk))) :=
 bif (decide (x9 < (picks3.length : Int))) then
 (idx picks3 x9).bind fun e17 =>
 (QjL n1 m8 4096).bind fun x18 =>
 bif ((x18.length : Int) == 0) then
 some (.inr (.inl l10))
 else
 (chk ((x18.length : Int) != 0)).bind fun _ =>
 (chk ((x18.length : Int) != 0)).bind fun _ =>
 (idx x18 (Int.tmod (w64 ((Int.tmod e17 (x18.length : Int)) + (x18.length : Int))) (x18.length : Int))).bind fun e22 =>
 (Qcl n1 m8 e22).bind fun x23 =>
 bif (x23.2 != 0) then
 some (.inr (.inl l10))
 else
 (chk (decide (l10.length + ([e22] : List Qk).length ≤ 4294967296))).bind fun _ =>
 some (.inl (x23.1, (w64 (x9 + 1)), (l10 ++ ([e22] : List Qk))))
 else
 some (.inr (.inr l10))
def QjM (l14 : (List Qk)) : Option (List Qk) :=
 some l14
def QjN (l15 : (List Qk)) : Option (List Qk) :=
 some l15
def Qgh (n1 : TNet) (m2 : (List (List (Int × Int)))) (picks3 : (List Int)) : Option (List Qk) :=
 (QE (fun st => QdA picks3 n1 st.1 st.2.1 st.2.2) (m2, 0, ([] : List Qk))).bind (Sum.elim (fun q => QjM q) (fun q => QjN q))
theorem Ql6 (n1 : TNet) (m2 : (List (List (Int × Int)))) (picks3 : (List Int)) {r : (List Qk)} (h : Qgh n1 m2 picks3 = some r) : Qc Tryz.prog 22 [.agg (Qd n1), .sl 1 (m2.map Qh), .sl 1 (picks3.map Qe)] [] (Gives (.own 30000 r.length) [(30000, .arr 4 (r.map Qj))]) := by
 refine Qc.walk 57 Tryz.func22 rfl Tryz.ntmps22 rfl fun C hC => ?_
 unfold Qgh at h
 refine Qa hC [.n 15, .o (.ln picks3.length), .n 4, .adopt 7 50 4, .sayO 50 (.arr 4 (([] : List Qk).map Qj)), .say 7 (.own 50 ([] : List Qk).length), .keep [1, 3, 7, 14, 15, 16] [3, 50]] rfl ⟨⟨⟨tt_, Qg⟩, rfl⟩, (congrArg (fun n => V.own 50 n) (by simp))⟩ ?_
 obtain ⟨o26, hl26, h⟩ := Qb h
 refine AK.loop (body := (fun st => QdA picks3 n1 st.1 st.2.1 st.2.2)) (fun st σ => σ = ⟨[(1, .sl 1 (st.1.map Qh)), (3, .loc 3 0 0), (7, .own 50 st.2.2.length), (14, .sl 1 (picks3.map Qe)), (15, .i .i64 (picks3.length : Int)), (16, .i .i64 st.2.1)], [(3, .var (Qd n1)), (50, .arr 4 (st.2.2.map Qj))]⟩) (Sum.elim (fun q e σ => e = .ret ∧ σ = ⟨[(6, .own 50 q.length)], [(50, .arr 4 (q.map Qj))]⟩) (fun q e σ => e = .exit 0 ∧ σ = ⟨[(7, .own 50 q.length)], [(50, .arr 4 (q.map Qj))]⟩)) hl26 rfl ?_ ?_
 ·rintro ⟨m8, x9, l10⟩ o σ rfl h
  replace h : QdA picks3 n1 m8 x9 l10 = some o := h
  unfold QdA at h
  refine Qa hC [.n 6] rfl tt_ ?_
  rcases bifE h with ⟨hc16, h⟩ | ⟨hc16, h⟩
  ·obtain ⟨e17, he17, h⟩ := Qb h
   obtain ⟨x18, hx18, h⟩ := Qb h
   refine Qa hC [.br true, .n 6, .o (.row (Qe e17)), .n 6, .v .no [] (.agg (Qd n1)), .n 1, .o (.co false [.d, .d, .d] 4 (x18.map Qj) x18.length), .n 11] rfl ⟨⟨⟨⟨tt_, hc16⟩, (idxM he17)⟩, rfl⟩, ⟨(Qrl _ _ _ hx18), Qg, .inl rfl⟩⟩ ?_
   rcases bifE h with ⟨hc19, h⟩ | ⟨hc19, h⟩
   ·refine Qa hC [.br true, .n 10, .keep [6] [50]] rfl ⟨tt_, hc19⟩ ?_
    cases h
    exact rndR rfl (an_ rfl rfl)
   ·obtain ⟨_, hk20, h⟩ := Qb h
    replace hk20 := chkE hk20
    obtain ⟨_, hk21, h⟩ := Qb h
    replace hk21 := chkE hk21
    obtain ⟨e22, he22, h⟩ := Qb h
    obtain ⟨x23, hx23, h⟩ := Qb h
    refine Qa hC [.br false, .n 16, .v (.row (Qj e22)) [] (.agg (Qj e22)), .n 2, .sayO 11 (.var (Qj e22)), .n 4, .v .no [] (.agg (Qd n1)), .n 1, .v .no [] (.agg (Qj e22)), .o (.c false [.d, .d, .d] (.tup [.sl 1 (x23.1.map Qh), .i .i64 x23.2])), .n 14] rfl ⟨⟨⟨⟨⟨⟨⟨⟨⟨⟨tt_, hc19⟩, (neZ hk20)⟩, (neZ hk21)⟩, (QeX he22 rfl)⟩, (Qcz (idxE he22).2)⟩, rfl⟩, rfl⟩, rfl⟩, rfl⟩, (QhX _ _ _ hx23)⟩ ?_
    rcases bifE h with ⟨hc24, h⟩ | ⟨hc24, h⟩
    ·refine Qa hC [.br true, .n 10, .keep [6] [50]] rfl ⟨tt_, hc24⟩ ?_
     cases h
     exact rndR rfl (an_ rfl rfl)
    ·obtain ⟨_, hk25, h⟩ := Qb h
     replace hk25 := chkE hk25
     refine Qa hC [.br false, .n 4, .v .no [] (.agg (Qj e22)), .v (.bd []) [] (.sl 4 (([e22] : List Qk).map Qj)), .app ((l10 ++ ([e22] : List Qk)).map Qj) (l10 ++ ([e22] : List Qk)).length, .n 10, .keep [1, 3, 7, 14, 15, 16] [3, 50]] rfl ⟨⟨⟨⟨tt_, hc24⟩, rfl⟩, rfl⟩, ⟨Qg, Qes hk25 Qg, Qc0, QgG Qg⟩⟩ ?_
     cases h
     exact rndN rfl rfl
  ·refine Qa hC [.br false, .n 2, .keep [7] [50]] rfl ⟨tt_, hc16⟩ ?_
   cases h
   exact rndX rfl (an_ rfl rfl)
 ·rcases o26 with (l14 | l15)
  ·replace h : QjM l14 = some r := h
   unfold QjM at h
   rintro e σ ⟨rfl, rfl⟩
   refine Qa hC [.n 2, .keep [6] [50], .ren 50 30000, .keep [6] [30000]] rfl tt_ ?_
   cases h
   exact AK.done (ex_ [_] (an_ (an_ rfl tt_) (gives ⟨rfl, tt_⟩)))
  ·replace h : QjN l15 = some r := h
   unfold QjN at h
   rintro e σ ⟨rfl, rfl⟩
   refine Qa hC [.n 9, .keep [6] [50], .ren 50 30000, .keep [6] [30000]] rfl tt_ ?_
   cases h
   exact AK.done (ex_ [_] (an_ (an_ rfl tt_) (gives ⟨rfl, tt_⟩)))
def QhA (a1 : (List (Int × Int))) (b2 : (List (Int × Int))) (i6 : Int) : Option (Int ⊕ (Unit ⊕ Unit)) :=
 bif (decide (i6 < (a1.length : Int))) then
 (idx a1 i6).bind fun e9 =>
 (idx b2 i6).bind fun e10 =>
 bif (!((e9.1 == e10.1) && (e9.2 == e10.2))) then
 some (.inr (.inl ()))
 else
 some (.inl (w64 (i6 + 1)))
 else
 some (.inr (.inr ()))
def QjO : Option Bool :=
 some false
def QjP : Option Bool :=
 some true
def Qlw (a1 : (List (Int × Int))) (b2 : (List (Int × Int))) : Option Bool :=
 bif ((a1.length : Int) != (b2.length : Int)) then
 some false
 else
 (QE (fun st => QhA a1 b2 st) 0).bind (Sum.elim (fun q => QjO) (fun q => QjP))
theorem Qqd (a1 : (List (Int × Int))) (b2 : (List (Int × Int))) {r : Bool} (h : Qlw a1 b2 = some r) : Qc Tryz.prog 43 [.sl 2 (a1.map Qt), .sl 2 (b2.map Qt)] [] (Gives (.b r) []) := by
 refine Qc.walk 26 Tryz.func43 rfl Tryz.ntmps43 rfl fun C hC => ?_
 unfold Qlw at h
 refine Qa hC [.n 9, .o (.ln a1.length), .n 1, .o (.ln b2.length), .n 3] rfl ⟨⟨tt_, Qg⟩, Qg⟩ ?_
 rcases bifE h with ⟨hc5, h⟩ | ⟨hc5, h⟩
 ·refine Qa hC [.br true, .n 7, .keep [4] []] rfl ⟨tt_, hc5⟩ ?_
  cases h
  exact AK.done (ex_ [_] (an_ (an_ rfl tt_) (gives tt_)))
 ·refine Qa hC [.br false, .n 9, .keep [0, 1, 5] []] rfl ⟨tt_, hc5⟩ ?_
  obtain ⟨o12, hl12, h⟩ := Qb h
  refine AK.loop (body := (fun st => QhA a1 b2 st)) (fun st σ => σ = ⟨[(0, .sl 2 (a1.map Qt)), (1, .sl 2 (b2.map Qt)), (5, .i .i64 st)], []⟩) (Sum.elim (fun q e σ => e = .ret ∧ σ = ⟨[(4, .b false)], []⟩) (fun q e σ => e = .exit 0 ∧ σ = ⟨[], []⟩)) hl12 rfl ?_ ?_
  ·rintro i6 o σ rfl h
   replace h : QhA a1 b2 i6 = some o := h
   unfold QhA at h
   refine Qa hC [.n 5, .o (.ln a1.length), .n 3] rfl ⟨tt_, Qg⟩ ?_
   rcases bifE h with ⟨hc8, h⟩ | ⟨hc8, h⟩
   ·obtain ⟨e9, he9, h⟩ := Qb h
    obtain ⟨e10, he10, h⟩ := Qb h
    refine Qa hC [.br true, .n 5, .keep [0, 1, 5] []] rfl ⟨tt_, hc8⟩ ?_
    refine AK.draw2 Qo hC mixed [.a .no none false, .a .no none false, .a (.row (Qt e9)) none false, .a .no (some ([], .agg (Qt e9))) false, .a .no none false, .a .no none false, .a (.row (Qt e10)) none false, .a .no (some ([], .agg (Qt e10))) false, .a (.any (.b (!((e9.1 == e10.1) && (e9.2 == e10.2)))) none) none false] [] [] [0, 1, 5, 25] [] rfl rfl rfl ⟨⟨⟨⟨⟨tt_, (idxM he9)⟩, rfl⟩, (idxM he10)⟩, rfl⟩, (fun σ h1 h2 _ => Stp.neAgg rfl rfl (bleN hC.n rfl) (h1 _ _ rfl) (h1 _ _ rfl) rfl rfl (Quh _ _ _ _))⟩ rfl (by kernel_rfl) rfl rfl rfl ?_
    refine Qa hC [.n 1] rfl tt_ ?_
    rcases bifE h with ⟨hc11, h⟩ | ⟨hc11, h⟩
    ·refine Qa hC [.br true, .n 8, .keep [4] []] rfl ⟨tt_, hc11⟩ ?_
     cases h
     exact rndR rfl (an_ rfl rfl)
    ·refine Qa hC [.br false, .n 8, .keep [0, 1, 5] []] rfl ⟨tt_, hc11⟩ ?_
     cases h
     exact rndN rfl rfl
   ·refine Qa hC [.br false, .n 2, .keep [] []] rfl ⟨tt_, hc8⟩ ?_
    cases h
    exact rndX rfl (an_ rfl rfl)
  ·rcases o12 with (_ | _)
   ·replace h : QjO = some r := h
    unfold QjO at h
    rintro e σ ⟨rfl, rfl⟩
    refine Qa hC [.n 2, .keep [4] []] rfl tt_ ?_
    cases h
    exact AK.done (ex_ [_] (an_ (an_ rfl tt_) (gives tt_)))
   ·replace h : QjP = some r := h
    unfold QjP at h
    rintro e σ ⟨rfl, rfl⟩
    refine Qa hC [.n 8, .keep [4] []] rfl tt_ ?_
    cases h
    exact AK.done (ex_ [_] (an_ (an_ rfl tt_) (gives tt_)))
def Qe1 (a1 : (List (List (Int × Int)))) (b2 : (List (List (Int × Int)))) (i6 : Int) : Option (Int ⊕ (Unit ⊕ Unit)) :=
 bif (decide (i6 < (a1.length : Int))) then
 (idx a1 i6).bind fun e9 =>
 (idx b2 i6).bind fun e10 =>
 (Qlw e9 e10).bind fun x11 =>
 bif (!x11) then
 some (.inr (.inl ()))
 else
 some (.inl (w64 (i6 + 1)))
 else
 some (.inr (.inr ()))
def Qhn : Option Bool :=
 some false
def Qho : Option Bool :=
 some true
def Qi9 (a1 : (List (List (Int × Int)))) (b2 : (List (List (Int × Int)))) : Option Bool :=
 bif ((a1.length : Int) != (b2.length : Int)) then
 some false
 else
 (QE (fun st => Qe1 a1 b2 st) 0).bind (Sum.elim (fun q => Qhn) (fun q => Qho))
theorem Qnu (a1 : (List (List (Int × Int)))) (b2 : (List (List (Int × Int)))) {r : Bool} (h : Qi9 a1 b2 = some r) : Qc Tryz.prog 18 [.sl 1 (a1.map Qh), .sl 1 (b2.map Qh)] [] (Gives (.b r) []) := by
 refine Qc.walk 27 Tryz.func18 rfl Tryz.ntmps18 rfl fun C hC => ?_
 unfold Qi9 at h
 refine Qa hC [.n 9, .o (.ln a1.length), .n 1, .o (.ln b2.length), .n 3] rfl ⟨⟨tt_, Qg⟩, Qg⟩ ?_
 rcases bifE h with ⟨hc5, h⟩ | ⟨hc5, h⟩
 ·refine Qa hC [.br true, .n 7, .keep [4] []] rfl ⟨tt_, hc5⟩ ?_
  cases h
  exact AK.done (ex_ [_] (an_ (an_ rfl tt_) (gives tt_)))
 ·refine Qa hC [.br false, .n 9, .keep [0, 1, 5] []] rfl ⟨tt_, hc5⟩ ?_
  obtain ⟨o13, hl13, h⟩ := Qb h
  refine AK.loop (body := (fun st => Qe1 a1 b2 st)) (fun st σ => σ = ⟨[(0, .sl 1 (a1.map Qh)), (1, .sl 1 (b2.map Qh)), (5, .i .i64 st)], []⟩) (Sum.elim (fun q e σ => e = .ret ∧ σ = ⟨[(4, .b false)], []⟩) (fun q e σ => e = .exit 0 ∧ σ = ⟨[], []⟩)) hl13 rfl ?_ ?_
  ·rintro i6 o σ rfl h
   replace h : Qe1 a1 b2 i6 = some o := h
   unfold Qe1 at h
   refine Qa hC [.n 5, .o (.ln a1.length), .n 3] rfl ⟨tt_, Qg⟩ ?_
   rcases bifE h with ⟨hc8, h⟩ | ⟨hc8, h⟩
   ·obtain ⟨e9, he9, h⟩ := Qb h
    obtain ⟨e10, he10, h⟩ := Qb h
    obtain ⟨x11, hx11, h⟩ := Qb h
    refine Qa hC [.br true, .n 5, .keep [0, 1, 5] []] rfl ⟨tt_, hc8⟩ ?_
    refine AK.draw2 Qo hC mixed [.a .no none false, .a .no none false, .a (.row (Qh e9)) none false, .a .no none false, .a .no none false, .a .no none false, .a (.row (Qh e10)) none false, .a .no none false, .a (.c false [.d, .d] (.b x11)) none false, .a .no none false] [] [] [0, 1, 5, 26] [] rfl rfl rfl ⟨⟨⟨tt_, (idxM he9)⟩, (idxM he10)⟩, (Qqd _ _ hx11)⟩ rfl (by kernel_rfl) rfl rfl rfl ?_
    refine Qa hC [.n 1] rfl tt_ ?_
    rcases bifE h with ⟨hc12, h⟩ | ⟨hc12, h⟩
    ·refine Qa hC [.br true, .n 8, .keep [4] []] rfl ⟨tt_, hc12⟩ ?_
     cases h
     exact rndR rfl (an_ rfl rfl)
    ·refine Qa hC [.br false, .n 8, .keep [0, 1, 5] []] rfl ⟨tt_, hc12⟩ ?_
     cases h
     exact rndN rfl rfl
   ·refine Qa hC [.br false, .n 2, .keep [] []] rfl ⟨tt_, hc8⟩ ?_
    cases h
    exact rndX rfl (an_ rfl rfl)
  ·rcases o13 with (_ | _)
   ·replace h : Qhn = some r := h
    unfold Qhn at h
    rintro e σ ⟨rfl, rfl⟩
    refine Qa hC [.n 2, .keep [4] []] rfl tt_ ?_
    cases h
    exact AK.done (ex_ [_] (an_ (an_ rfl tt_) (gives tt_)))
   ·replace h : Qho = some r := h
    unfold Qho at h
    rintro e σ ⟨rfl, rfl⟩
    refine Qa hC [.n 8, .keep [4] []] rfl tt_ ?_
    cases h
    exact AK.done (ex_ [_] (an_ (an_ rfl tt_) (gives tt_)))
def QX (s1 : (List (Int × Int))) (s2 : (List (Int × Int))) (x6 : Int) : Option (Int ⊕ (Unit ⊕ Unit)) :=
 bif (decide (x6 < (s1.length : Int))) then
 (idx s1 x6).bind fun e9 =>
 (idx s2 x6).bind fun e10 =>
 bif (!((e9.1 == e10.1) && (e9.2 == e10.2))) then
 some (.inr (.inl ()))
 else
 some (.inl (w64 (x6 + 1)))
 else
 some (.inr (.inr ()))
def Qcv : Option Bool :=
 some false
def Qcw : Option Bool :=
 some true
def Qa4 (s1 : (List (Int × Int))) (s2 : (List (Int × Int))) : Option Bool :=
 bif ((s1.length : Int) != (s2.length : Int)) then
 some false
 else
 (QE (fun st => QX s1 s2 st) 0).bind (Sum.elim (fun q => Qcv) (fun q => Qcw))
theorem Qjk (s1 : (List (Int × Int))) (s2 : (List (Int × Int))) {r : Bool} (h : Qa4 s1 s2 = some r) : Qc Tryz.prog 93 [.sl 2 (s1.map Qt), .sl 2 (s2.map Qt)] [] (Gives (.b r) []) := by
 refine Qc.walk 26 Tryz.func93 rfl Tryz.ntmps93 rfl fun C hC => ?_
 unfold Qa4 at h
 refine Qa hC [.n 9, .o (.ln s1.length), .n 1, .o (.ln s2.length), .n 3] rfl ⟨⟨tt_, Qg⟩, Qg⟩ ?_
 rcases bifE h with ⟨hc5, h⟩ | ⟨hc5, h⟩
 ·refine Qa hC [.br true, .n 7, .keep [4] []] rfl ⟨tt_, hc5⟩ ?_
  cases h
  exact AK.done (ex_ [_] (an_ (an_ rfl tt_) (gives tt_)))
 ·refine Qa hC [.br false, .n 6, .o (.ln s1.length), .n 4, .keep [0, 1, 12, 13] []] rfl ⟨⟨tt_, hc5⟩, Qg⟩ ?_
  obtain ⟨o12, hl12, h⟩ := Qb h
  refine AK.loop (body := (fun st => QX s1 s2 st)) (fun st σ => σ = ⟨[(0, .sl 2 (s1.map Qt)), (1, .sl 2 (s2.map Qt)), (12, .i .i64 (s1.length : Int)), (13, .i .i64 st)], []⟩) (Sum.elim (fun q e σ => e = .ret ∧ σ = ⟨[(4, .b false)], []⟩) (fun q e σ => e = .exit 0 ∧ σ = ⟨[], []⟩)) hl12 rfl ?_ ?_
  ·rintro x6 o σ rfl h
   replace h : QX s1 s2 x6 = some o := h
   unfold QX at h
   refine Qa hC [.n 6] rfl tt_ ?_
   rcases bifE h with ⟨hc8, h⟩ | ⟨hc8, h⟩
   ·obtain ⟨e9, he9, h⟩ := Qb h
    obtain ⟨e10, he10, h⟩ := Qb h
    refine Qa hC [.br true, .n 11, .keep [0, 1, 5, 12, 13] []] rfl ⟨tt_, hc8⟩ ?_
    refine AK.draw2 Qo hC mixed [.a .no none false, .a .no none false, .a (.row (Qt e9)) none false, .a .no (some ([], .agg (Qt e9))) false, .a .no none false, .a .no none false, .a (.row (Qt e10)) none false, .a .no (some ([], .agg (Qt e10))) false, .a (.any (.b (!((e9.1 == e10.1) && (e9.2 == e10.2)))) none) none false] [] [] [0, 1, 12, 13, 24] [] rfl rfl rfl ⟨⟨⟨⟨⟨tt_, (idxM he9)⟩, rfl⟩, (idxM he10)⟩, rfl⟩, (fun σ h1 h2 _ => Stp.neAgg rfl rfl (bleN hC.n rfl) (h1 _ _ rfl) (h1 _ _ rfl) rfl rfl (Quh _ _ _ _))⟩ rfl (by kernel_rfl) rfl rfl rfl ?_
    refine Qa hC [.n 1] rfl tt_ ?_
    rcases bifE h with ⟨hc11, h⟩ | ⟨hc11, h⟩
    ·refine Qa hC [.br true, .n 8, .keep [4] []] rfl ⟨tt_, hc11⟩ ?_
     cases h
     exact rndR rfl (an_ rfl rfl)
    ·refine Qa hC [.br false, .n 7, .keep [0, 1, 12, 13] []] rfl ⟨tt_, hc11⟩ ?_
     cases h
     exact rndN rfl rfl
   ·refine Qa hC [.br false, .n 2, .keep [] []] rfl ⟨tt_, hc8⟩ ?_
    cases h
    exact rndX rfl (an_ rfl rfl)
  ·rcases o12 with (_ | _)
   ·replace h : Qcv = some r := h
    unfold Qcv at h
    rintro e σ ⟨rfl, rfl⟩
    refine Qa hC [.n 2, .keep [4] []] rfl tt_ ?_
    cases h
    exact AK.done (ex_ [_] (an_ (an_ rfl tt_) (gives tt_)))
   ·replace h : Qcw = some r := h
    unfold Qcw at h
    rintro e σ ⟨rfl, rfl⟩
    refine Qa hC [.n 8, .keep [4] []] rfl tt_ ?_
    cases h
    exact AK.done (ex_ [_] (an_ (an_ rfl tt_) (gives tt_)))
def QkQ (a1 : (List (Int × Int))) (b2 : (List (Int × Int))) : Option Bool :=
 (Qb2 a1).bind fun x6 =>
 bif x6 then
 (Qb2 b2).bind fun x8 =>
 bif x8 then
 (Qa4 a1 b2).bind fun x10 =>
 some x10
 else
 some false
 else
 some false
def QiT (x4 : Bool) : Option Bool :=
 some x4
def QjQ (a1 : (List (Int × Int))) (b2 : (List (Int × Int))) : Option Bool :=
 (QkQ a1 b2).bind (fun x4 => QiT x4)
theorem Qrm (a1 : (List (Int × Int))) (b2 : (List (Int × Int))) {r : Bool} (h : QjQ a1 b2 = some r) : Qc Tryz.prog 50 [.sl 2 (a1.map Qt), .sl 2 (b2.map Qt)] [] (Gives (.b r) []) := by
 refine Qc.walk 16 Tryz.func50 rfl Tryz.ntmps50 rfl fun C hC => ?_
 unfold QjQ at h
 refine Qa hC [.n 6] rfl tt_ ?_
 obtain ⟨x4, hv5, h⟩ := Qb h
 replace h : QiT x4 = some r := h
 refine AK.meetX (fun σ => σ = ⟨[(4, .b x4)], []⟩) ?_ ?_
 ·replace h := hv5
  unfold QkQ at h
  obtain ⟨x6, hx6, h⟩ := Qb h
  refine Qa hC [.n 2, .o (.c false [.d] (.b x6)), .n 1] rfl ⟨tt_, (Qgd _ hx6)⟩ ?_
  rcases bifE h with ⟨hc7, h⟩ | ⟨hc7, h⟩
  ·obtain ⟨x8, hx8, h⟩ := Qb h
   refine Qa hC [.say 7 (.b true), .n 1, .o (.c false [.d] (.b x8)), .n 2] rfl ⟨⟨tt_, (congrArg V.b hc7)⟩, (Qgd _ hx8)⟩ ?_
   rcases bifE h with ⟨hc9, h⟩ | ⟨hc9, h⟩
   ·obtain ⟨x10, hx10, h⟩ := Qb h
    refine Qa hC [.say 11 (.b true), .n 2, .o (.c false [.d, .d] (.b x10)), .n 3, .keep [4] []] rfl ⟨⟨tt_, (congrArg V.b hc9)⟩, (Qjk _ _ hx10)⟩ ?_
    cases h
    exact AK.met rfl
   ·refine Qa hC [.say 11 (.b false), .n 6, .keep [4] []] rfl ⟨tt_, (congrArg V.b hc9)⟩ ?_
    cases h
    exact AK.met rfl
  ·refine Qa hC [.say 7 (.b false), .n 10, .keep [4] []] rfl ⟨tt_, (congrArg V.b hc7)⟩ ?_
   cases h
   exact AK.met rfl
 ·rintro σ rfl
  replace h : QiT x4 = some r := h
  unfold QiT at h
  refine Qa hC [.n 2, .keep [4] []] rfl tt_ ?_
  cases h
  exact AK.done (ex_ [_] (an_ (an_ rfl tt_) (gives tt_)))
def Qw (s1 : (List (List (Int × Int)))) (s2 : (List (List (Int × Int)))) (x6 : Int) : Option (Int ⊕ (Unit ⊕ Unit)) :=
 bif (decide (x6 < (s1.length : Int))) then
 (idx s1 x6).bind fun e9 =>
 (idx s2 x6).bind fun e10 =>
 (QjQ e9 e10).bind fun x11 =>
 bif (!x11) then
 some (.inr (.inl ()))
 else
 some (.inl (w64 (x6 + 1)))
 else
 some (.inr (.inr ()))
def QU : Option Bool :=
 some false
def QV : Option Bool :=
 some true
def QL (s1 : (List (List (Int × Int)))) (s2 : (List (List (Int × Int)))) : Option Bool :=
 bif ((s1.length : Int) != (s2.length : Int)) then
 some false
 else
 (QE (fun st => Qw s1 s2 st) 0).bind (Sum.elim (fun q => QU) (fun q => QV))
theorem Qch (s1 : (List (List (Int × Int)))) (s2 : (List (List (Int × Int)))) {r : Bool} (h : QL s1 s2 = some r) : Qc Tryz.prog 49 [.sl 1 (s1.map Qh), .sl 1 (s2.map Qh), .clo (.func 50) [] []] [] (Gives (.b r) []) := by
 refine Qc.walk 32 Tryz.func49 rfl Tryz.ntmps49 rfl fun C hC => ?_
 unfold QL at h
 refine Qa hC [.n 9, .o (.ln s1.length), .n 1, .o (.ln s2.length), .n 3] rfl ⟨⟨tt_, Qg⟩, Qg⟩ ?_
 rcases bifE h with ⟨hc5, h⟩ | ⟨hc5, h⟩
 ·refine Qa hC [.br true, .n 7, .keep [6] []] rfl ⟨tt_, hc5⟩ ?_
  cases h
  exact AK.done (ex_ [_] (an_ (an_ rfl tt_) (gives tt_)))
 ·refine Qa hC [.br false, .n 6, .o (.ln s1.length), .n 4, .keep [1, 2, 15, 16, 17] []] rfl ⟨⟨tt_, hc5⟩, Qg⟩ ?_
  obtain ⟨o13, hl13, h⟩ := Qb h
  refine AK.loop (body := (fun st => Qw s1 s2 st)) (fun st σ => σ = ⟨[(1, .sl 1 (s2.map Qh)), (2, .clo (.func 50) [] []), (15, .sl 1 (s1.map Qh)), (16, .i .i64 (s1.length : Int)), (17, .i .i64 st)], []⟩) (Sum.elim (fun q e σ => e = .ret ∧ σ = ⟨[(6, .b false)], []⟩) (fun q e σ => e = .exit 0 ∧ σ = ⟨[], []⟩)) hl13 rfl ?_ ?_
  ·rintro x6 o σ rfl h
   replace h : Qw s1 s2 x6 = some o := h
   unfold Qw at h
   refine Qa hC [.n 6] rfl tt_ ?_
   rcases bifE h with ⟨hc8, h⟩ | ⟨hc8, h⟩
   ·obtain ⟨e9, he9, h⟩ := Qb h
    obtain ⟨e10, he10, h⟩ := Qb h
    obtain ⟨x11, hx11, h⟩ := Qb h
    refine Qa hC [.br true, .n 7, .o (.row (Qh e9)), .n 9, .o (.row (Qh e10)), .n 9, .o (.c false [.d, .d] (.b x11)), .n 3] rfl ⟨⟨⟨⟨tt_, hc8⟩, (idxM he9)⟩, (idxM he10)⟩, (Qrm _ _ hx11)⟩ ?_
    rcases bifE h with ⟨hc12, h⟩ | ⟨hc12, h⟩
    ·refine Qa hC [.br true, .n 8, .keep [6] []] rfl ⟨tt_, hc12⟩ ?_
     cases h
     exact rndR rfl (an_ rfl rfl)
    ·refine Qa hC [.br false, .n 7, .keep [1, 2, 15, 16, 17] []] rfl ⟨tt_, hc12⟩ ?_
     cases h
     exact rndN rfl rfl
   ·refine Qa hC [.br false, .n 2, .keep [] []] rfl ⟨tt_, hc8⟩ ?_
    cases h
    exact rndX rfl (an_ rfl rfl)
  ·rcases o13 with (_ | _)
   ·replace h : QU = some r := h
    unfold QU at h
    rintro e σ ⟨rfl, rfl⟩
    refine Qa hC [.n 2, .keep [6] []] rfl tt_ ?_
    cases h
    exact AK.done (ex_ [_] (an_ (an_ rfl tt_) (gives tt_)))
   ·replace h : QV = some r := h
    unfold QV at h
    rintro e σ ⟨rfl, rfl⟩
    refine Qa hC [.n 8, .keep [6] []] rfl tt_ ?_
    cases h
    exact AK.done (ex_ [_] (an_ (an_ rfl tt_) (gives tt_)))
def QfP (a1 : (List (List (Int × Int)))) (b2 : (List (List (Int × Int)))) : Option Bool :=
 (QL a1 b2).bind fun x4 =>
 some x4
theorem Qkb (a1 : (List (List (Int × Int)))) (b2 : (List (List (Int × Int)))) {r : Bool} (h : QfP a1 b2 = some r) : Qc Tryz.prog 25 [.sl 1 (a1.map Qh), .sl 1 (b2.map Qh)] [] (Gives (.b r) []) := by
 refine Qc.walk 8 Tryz.func25 rfl Tryz.ntmps25 rfl fun C hC => ?_
 unfold QfP at h
 obtain ⟨x4, hx4, h⟩ := Qb h
 refine Qa hC [.n 9, .cm (.fn) [] [] [] [.d, .d, .d] [] (.b x4), .n 4, .keep [4] []] rfl ⟨tt_, (Qch _ _ hx4)⟩ ?_
 cases h
 exact AK.done (ex_ [_] (an_ (an_ rfl tt_) (gives tt_)))
def Qlx (x3 : ((List (List (Int × Int))) × Int)) (x4 : ((List (List (Int × Int))) × Int)) (x5 : ((List (List (Int × Int))) × Int)) (x6 : ((List (List (Int × Int))) × Int)) (x7 : ((List (List (Int × Int))) × Int)) (x8 : (List Qk)) : Option Bool :=
 bif (x3.2 == 0) then
 (Qi9 x3.1 ([([(2, 1)] : List (Int × Int)), ([(3, 1)] : List (Int × Int)), ([] : (List (Int × Int)))] : List (List (Int × Int)))).bind fun x12 =>
 bif x12 then
 bif (x4.2 == 0) then
 bif (x5.2 == 0) then
 (QfP x5.1 ([([(2, 2)] : List (Int × Int)), ([] : (List (Int × Int))), ([(0, 5)] : List (Int × Int))] : List (List (Int × Int)))).bind fun x16 =>
 bif x16 then
 bif (x6.2 == 10) then
 bif (x7.2 == 2) then
 some ((x8.length : Int) == 2)
 else
 some false
 else
 some false
 else
 some false
 else
 some false
 else
 some false
 else
 some false
 else
 some false
def QgP (x9 : Bool) : Option Bool :=
 some x9
def QiU  : Option Bool :=
 (Qmc).bind fun x2 =>
 (Qcl x2 ([([(2, 2)] : List (Int × Int)), ([] : (List (Int × Int))), ([(0, 5)] : List (Int × Int))] : List (List (Int × Int))) (Qk.mk 0 ([2] : List Int) ([0] : List Int) ([0] : List Int))).bind fun x3 =>
 (QfO x2 ([([(2, 2)] : List (Int × Int)), ([] : (List (Int × Int))), ([(0, 5)] : List (Int × Int))] : List (List (Int × Int))) (Qk.mk 0 ([2] : List Int) ([0] : List Int) ([0] : List Int))).bind fun x4 =>
 (Qmh x2 x4.1 (Qk.mk 0 ([2] : List Int) ([0] : List Int) ([0] : List Int))).bind fun x5 =>
 (Qcl x2 x3.1 (Qk.mk 0 ([1] : List Int) ([0] : List Int) ([0] : List Int))).bind fun x6 =>
 (Qfm x2 ([([(2, 2)] : List (Int × Int)), ([] : (List (Int × Int))), ([(0, 5)] : List (Int × Int))] : List (List (Int × Int))) ([(Qk.mk 0 ([2] : List Int) ([0] : List Int) ([0] : List Int)), (Qk.mk 0 ([2] : List Int) ([0] : List Int) ([0] : List Int)), (Qk.mk 0 ([2] : List Int) ([0] : List Int) ([0] : List Int))] : List Qk)).bind fun x7 =>
 (Qgh x2 ([([(2, 2)] : List (Int × Int)), ([] : (List (Int × Int))), ([(0, 5)] : List (Int × Int))] : List (List (Int × Int))) ([7, (-1), 0] : List Int)).bind fun x8 =>
 (Qlx x3 x4 x5 x6 x7 x8).bind (fun x9 => QgP x9)
theorem Qpr  {r : Bool} (h : QiU  = some r) : Qc Tryz.prog 8 [] [] (Gives (.b r) []) := by
 refine Qc.walk 107 Tryz.func8 rfl Tryz.ntmps8 rfl fun C hC => ?_
 unfold QiU at h
 obtain ⟨x2, hx2, h⟩ := Qb h
 obtain ⟨x3, hx3, h⟩ := Qb h
 obtain ⟨x4, hx4, h⟩ := Qb h
 obtain ⟨x5, hx5, h⟩ := Qb h
 obtain ⟨x6, hx6, h⟩ := Qb h
 obtain ⟨x7, hx7, h⟩ := Qb h
 obtain ⟨x8, hx8, h⟩ := Qb h
 refine Qa hC [.n 7, .o (.c false [] (.agg (Qd x2))), .n 2, .sayO 1 (.var (Qd x2)), .n 4, .v .no [] (.agg (Qt (2, 2))), .v (.bd []) [] (.sl 2 (([(2, 2)] : List (Int × Int)).map Qt)), .v .no [] (.agg (Qt (0, 5))), .v (.bd []) [] (.sl 2 (([(0, 5)] : List (Int × Int)).map Qt)), .v (.bd [none, some 2, none]) [] (.sl 1 (([([(2, 2)] : List (Int × Int)), ([] : (List (Int × Int))), ([(0, 5)] : List (Int × Int))] : List (List (Int × Int))).map Qh)), .n 5, .v (.bd []) [] (.sl 1 (([2] : List Int).map Qe)), .v (.bd []) [] (.sl 1 (([0] : List Int).map Qe)), .v (.bd []) [] (.sl 1 (([0] : List Int).map Qe)), .v .no [] (.agg (Qj (Qk.mk 0 ([2] : List Int) ([0] : List Int) ([0] : List Int)))), .n 2, .sayO 3 (.var (Qj (Qk.mk 0 ([2] : List Int) ([0] : List Int) ([0] : List Int)))), .n 4, .v .no [] (.agg (Qd x2)), .n 1, .v .no [] (.agg (Qj (Qk.mk 0 ([2] : List Int) ([0] : List Int) ([0] : List Int)))), .o (.c false [.d, .d, .d] (.tup [.sl 1 (x3.1.map Qh), .i .i64 x3.2])), .n 9, .v .no [] (.agg (Qd x2)), .n 1, .v .no [] (.agg (Qj (Qk.mk 0 ([2] : List Int) ([0] : List Int) ([0] : List Int)))), .o (.c false [.d, .d, .d] (.tup [.sl 1 (x4.1.map Qh), .i .i64 x4.2])), .n 9, .v .no [] (.agg (Qd x2)), .n 1, .v .no [] (.agg (Qj (Qk.mk 0 ([2] : List Int) ([0] : List Int) ([0] : List Int)))), .o (.c false [.d, .d, .d] (.tup [.sl 1 (x5.1.map Qh), .i .i64 x5.2])), .n 9, .v .no [] (.agg (Qd x2)), .n 1, .v (.bd []) [] (.sl 1 (([1] : List Int).map Qe)), .v (.bd []) [] (.sl 1 (([0] : List Int).map Qe)), .v (.bd []) [] (.sl 1 (([0] : List Int).map Qe)), .v .no [] (.agg (Qj (Qk.mk 0 ([1] : List Int) ([0] : List Int) ([0] : List Int)))), .o (.c false [.d, .d, .d] (.tup [.sl 1 (x6.1.map Qh), .i .i64 x6.2])), .n 9, .v .no [] (.agg (Qd x2)), .n 1, .v .no [] (.agg (Qj (Qk.mk 0 ([2] : List Int) ([0] : List Int) ([0] : List Int)))), .v .no [] (.agg (Qj (Qk.mk 0 ([2] : List Int) ([0] : List Int) ([0] : List Int)))), .v .no [] (.agg (Qj (Qk.mk 0 ([2] : List Int) ([0] : List Int) ([0] : List Int)))), .v (.bd []) [] (.sl 4 (([(Qk.mk 0 ([2] : List Int) ([0] : List Int) ([0] : List Int)), (Qk.mk 0 ([2] : List Int) ([0] : List Int) ([0] : List Int)), (Qk.mk 0 ([2] : List Int) ([0] : List Int) ([0] : List Int))] : List Qk).map Qj)), .o (.c false [.d, .d, .d] (.tup [.sl 1 (x7.1.map Qh), .i .i64 x7.2])), .n 9, .v .no [] (.agg (Qd x2)), .n 1, .v (.bd []) [] (.sl 1 (([7, (-1), 0] : List Int).map Qe)), .o (.co false [.d, .d, .d] 4 (x8.map Qj) x8.length), .n 4] rfl ⟨⟨⟨⟨⟨⟨⟨⟨⟨⟨⟨⟨⟨⟨⟨⟨⟨⟨⟨⟨⟨⟨⟨⟨⟨⟨⟨⟨⟨⟨⟨⟨⟨⟨⟨⟨tt_, (QqK  hx2)⟩, rfl⟩, rfl⟩, rfl⟩, rfl⟩, rfl⟩, rfl⟩, rfl⟩, rfl⟩, rfl⟩, rfl⟩, rfl⟩, rfl⟩, rfl⟩, (QhX _ _ _ hx3)⟩, rfl⟩, rfl⟩, (Qj8 _ _ _ hx4)⟩, rfl⟩, rfl⟩, (QqN _ _ _ hx5)⟩, rfl⟩, rfl⟩, rfl⟩, rfl⟩, rfl⟩, (QhX _ _ _ hx6)⟩, rfl⟩, rfl⟩, rfl⟩, rfl⟩, rfl⟩, (QiS _ _ _ hx7)⟩, rfl⟩, rfl⟩, ⟨(Ql6 _ _ _ hx8), Qg, .inl rfl⟩⟩ ?_
 obtain ⟨x9, hv10, h⟩ := Qb h
 replace h : QgP x9 = some r := h
 refine AK.meetX (fun σ => σ = ⟨[(0, .b x9)], []⟩) ?_ ?_
 ·replace h := hv10
  unfold Qlx at h
  refine Qa hC [.n 4] rfl tt_ ?_
  rcases bifE h with ⟨hc11, h⟩ | ⟨hc11, h⟩
  ·obtain ⟨x12, hx12, h⟩ := Qb h
   refine Qa hC [.say 72 (.b true), .n 1, .v .no [] (.agg (Qt (2, 1))), .v (.bd []) [] (.sl 2 (([(2, 1)] : List (Int × Int)).map Qt)), .v .no [] (.agg (Qt (3, 1))), .v (.bd []) [] (.sl 2 (([(3, 1)] : List (Int × Int)).map Qt)), .v (.bd [none, none, some 2]) [] (.sl 1 (([([(2, 1)] : List (Int × Int)), ([(3, 1)] : List (Int × Int)), ([] : (List (Int × Int)))] : List (List (Int × Int))).map Qh)), .o (.c false [.d, .d] (.b x12)), .n 2] rfl ⟨⟨⟨⟨⟨⟨⟨tt_, (congrArg V.b hc11)⟩, rfl⟩, rfl⟩, rfl⟩, rfl⟩, rfl⟩, (Qnu _ _ hx12)⟩ ?_
   rcases bifE h with ⟨hc13, h⟩ | ⟨hc13, h⟩
   ·refine Qa hC [.say 81 (.b true), .n 4] rfl ⟨tt_, (congrArg V.b hc13)⟩ ?_
    rcases bifE h with ⟨hc14, h⟩ | ⟨hc14, h⟩
    ·refine Qa hC [.say 85 (.b true), .n 4] rfl ⟨tt_, (congrArg V.b hc14)⟩ ?_
     rcases bifE h with ⟨hc15, h⟩ | ⟨hc15, h⟩
     ·obtain ⟨x16, hx16, h⟩ := Qb h
      refine Qa hC [.say 89 (.b true), .n 2, .o (.c false [.d, .d] (.b x16)), .n 2] rfl ⟨⟨tt_, (congrArg V.b hc15)⟩, (Qkb _ _ hx16)⟩ ?_
      rcases bifE h with ⟨hc17, h⟩ | ⟨hc17, h⟩
      ·refine Qa hC [.say 94 (.b true), .n 4] rfl ⟨tt_, (congrArg V.b hc17)⟩ ?_
       rcases bifE h with ⟨hc18, h⟩ | ⟨hc18, h⟩
       ·refine Qa hC [.say 98 (.b true), .n 4] rfl ⟨tt_, (congrArg V.b hc18)⟩ ?_
        rcases bifE h with ⟨hc19, h⟩ | ⟨hc19, h⟩
        ·refine Qa hC [.say 102 (.b true), .n 6, .keep [0] []] rfl ⟨tt_, (congrArg V.b hc19)⟩ ?_
         cases h
         exact AK.met rfl
        ·refine Qa hC [.say 102 (.b false), .n 6, .keep [0] []] rfl ⟨tt_, (congrArg V.b hc19)⟩ ?_
         cases h
         exact AK.met rfl
       ·refine Qa hC [.say 98 (.b false), .n 10, .keep [0] []] rfl ⟨tt_, (congrArg V.b hc18)⟩ ?_
        cases h
        exact AK.met rfl
      ·refine Qa hC [.say 94 (.b false), .n 14, .keep [0] []] rfl ⟨tt_, (congrArg V.b hc17)⟩ ?_
       cases h
       exact AK.met rfl
     ·refine Qa hC [.say 89 (.b false), .n 19, .keep [0] []] rfl ⟨tt_, (congrArg V.b hc15)⟩ ?_
      cases h
      exact AK.met rfl
    ·refine Qa hC [.say 85 (.b false), .n 23, .keep [0] []] rfl ⟨tt_, (congrArg V.b hc14)⟩ ?_
     cases h
     exact AK.met rfl
   ·refine Qa hC [.say 81 (.b false), .n 27, .keep [0] []] rfl ⟨tt_, (congrArg V.b hc13)⟩ ?_
    cases h
    exact AK.met rfl
  ·refine Qa hC [.say 72 (.b false), .n 36, .keep [0] []] rfl ⟨tt_, (congrArg V.b hc11)⟩ ?_
   cases h
   exact AK.met rfl
 ·rintro σ rfl
  replace h : QgP x9 = some r := h
  unfold QgP at h
  refine Qa hC [.n 2, .keep [0] []] rfl tt_ ?_
  cases h
  exact AK.done (ex_ [_] (an_ (an_ rfl tt_) (gives tt_)))
def Qej (e1 : Qf) (rec_law04_few : Qf → Int → Option Int) (deep2 : Int) (n8 : Int) (i9 : Int) : Option ((Int × Int) ⊕ (Unit ⊕ Int)) :=
 bif (decide (i9 < (e1.Kids.length : Int))) then
 (idx e1.Kids i9).bind fun e14 =>
 (rec_law04_few e14 (w64 (deep2 - 1))).bind fun x15 =>
 bif (x15 == 0) then
 some (.inr (.inl ()))
 else
 bif (decide ((w64 ((w64 (n8 - 500)) + x15)) ≤ 1)) then
 some (.inr (.inl ()))
 else
 some (.inl ((w64 ((w64 (n8 - 500)) + x15)), (w64 (i9 + 1))))
 else
 some (.inr (.inr n8))
def Qkc : Option Int :=
 some 0
def Qkd (n12 : Int) : Option Int :=
 some (w64 (n12 - 1))
def QiV (rec_law04_few : Qf → Int → Option Int) (e1 : Qf) (deep2 : Int) : Option Int :=
 bif ((decide (deep2 ≤ 0)) || (decide (9 < (e1.Kids.length : Int)))) then
 some 0
 else
 (QE (fun st => Qej e1 rec_law04_few deep2 st.1 st.2) (500, 0)).bind (Sum.elim (fun q => Qkc) (fun q => Qkd q))
def QdN : Nat → Qf → Int → Option Int
 | 0, _, _ => none
 | n + 1, e1, deep2 => QiV (QdN n) e1 deep2
def Qmi (e1 : Qf) (deep2 : Int) : Option Int := QdN (SizeOf.sizeOf e1) e1 deep2
theorem Qps (rec_law04_few : Qf → Int → Option Int) (hrec_law04_few : ∀ (e1 : Qf) (deep2 : Int) {r : Int}, rec_law04_few e1 deep2 = some r → Qc Tryz.prog 99 [.agg (Ql e1), .i .i64 deep2] [] (Gives (.i .i64 r) [])) (e1 : Qf) (deep2 : Int) {r : Int} (h : QiV rec_law04_few e1 deep2 = some r) : Qc Tryz.prog 99 [.agg (Ql e1), .i .i64 deep2] [] (Gives (.i .i64 r) []) := by
 refine Qc.walk 41 Tryz.func99 rfl Tryz.ntmps99 rfl fun C hC => ?_
 unfold QiV at h
 refine Qa hC [.n 8] rfl tt_ ?_
 refine AK.meetX (fun σ => σ = ⟨[(1, .i .i64 deep2), (2, .loc 2 0 0), (15, .b ((decide (deep2 ≤ 0)) || (decide (9 < (e1.Kids.length : Int)))))], [(2, .var (Ql e1))]⟩) ?_ ?_
 ·refine Qa hC [.n 4] rfl tt_ ?_
  rcases QJ (decide (deep2 ≤ 0)) with hc6 | hc6
  ·refine Qa hC [.say 10 (.b true), .n 6, .say 15 (.b ((decide (deep2 ≤ 0)) || (decide (9 < (e1.Kids.length : Int))))), .keep [1, 2, 15] [2]] rfl ⟨⟨tt_, (congrArg V.b hc6)⟩, (congrArg V.b (orT hc6 rfl))⟩ ?_
   exact AK.met rfl
  ·refine Qa hC [.say 10 (.b false), .n 2, .o (.ln e1.Kids.length), .n 3, .say 15 (.b ((decide (deep2 ≤ 0)) || (decide (9 < (e1.Kids.length : Int))))), .keep [1, 2, 15] [2]] rfl ⟨⟨⟨tt_, (congrArg V.b hc6)⟩, Qh9 _⟩, (congrArg V.b (orF hc6 rfl))⟩ ?_
   exact AK.met rfl
 ·rintro σ rfl
  refine Qa hC [.n 1] rfl tt_ ?_
  rcases bifE h with ⟨hc7, h⟩ | ⟨hc7, h⟩
  ·refine Qa hC [.br true, .n 7, .keep [4] []] rfl ⟨tt_, hc7⟩ ?_
   cases h
   exact AK.done (ex_ [_] (an_ (an_ rfl tt_) (gives tt_)))
  ·refine Qa hC [.br false, .n 14, .keep [1, 2, 5, 6] [2]] rfl ⟨tt_, hc7⟩ ?_
   obtain ⟨o18, hl18, h⟩ := Qb h
   refine AK.loop (body := (fun st => Qej e1 rec_law04_few deep2 st.1 st.2)) (fun st σ => σ = ⟨[(1, .i .i64 deep2), (2, .loc 2 0 0), (5, .i .i64 st.1), (6, .i .i64 st.2)], [(2, .var (Ql e1))]⟩) (Sum.elim (fun q e σ => e = .ret ∧ σ = ⟨[(4, .i .i64 0)], []⟩) (fun q e σ => e = .exit 0 ∧ σ = ⟨[(5, .i .i64 q)], []⟩)) hl18 rfl ?_ ?_
   ·rintro ⟨n8, i9⟩ o σ rfl h
    replace h : Qej e1 rec_law04_few deep2 n8 i9 = some o := h
    unfold Qej at h
    refine Qa hC [.n 6, .o (.ln e1.Kids.length), .n 3] rfl ⟨tt_, Qh9 _⟩ ?_
    rcases bifE h with ⟨hc13, h⟩ | ⟨hc13, h⟩
    ·obtain ⟨e14, he14, h⟩ := Qb h
     obtain ⟨x15, hx15, h⟩ := Qb h
     refine Qa hC [.br true, .n 9, .o (.row (Ql e14)), .v .no [] (.agg (Ql e14)), .n 2, .o (.c false [.d, .d] (.i .i64 x15)), .n 10] rfl ⟨⟨⟨⟨tt_, hc13⟩, (Qdc he14)⟩, rfl⟩, (hrec_law04_few _ _ hx15)⟩ ?_
     rcases bifE h with ⟨hc16, h⟩ | ⟨hc16, h⟩
     ·refine Qa hC [.br true, .n 9, .keep [4] []] rfl ⟨tt_, hc16⟩ ?_
      cases h
      exact rndR rfl (an_ rfl rfl)
     ·refine Qa hC [.br false, .n 17] rfl ⟨tt_, hc16⟩ ?_
      rcases bifE h with ⟨hc17, h⟩ | ⟨hc17, h⟩
      ·refine Qa hC [.br true, .n 8, .keep [4] []] rfl ⟨tt_, hc17⟩ ?_
       cases h
       exact rndR rfl (an_ rfl rfl)
      ·refine Qa hC [.br false, .n 8, .keep [1, 2, 5, 6] [2]] rfl ⟨tt_, hc17⟩ ?_
       cases h
       exact rndN rfl rfl
    ·refine Qa hC [.br false, .n 2, .keep [5] []] rfl ⟨tt_, hc13⟩ ?_
     cases h
     exact rndX rfl (an_ rfl rfl)
   ·rcases o18 with (_ | n12)
    ·replace h : Qkc = some r := h
     unfold Qkc at h
     rintro e σ ⟨rfl, rfl⟩
     refine Qa hC [.n 2, .keep [4] []] rfl tt_ ?_
     cases h
     exact AK.done (ex_ [_] (an_ (an_ rfl tt_) (gives tt_)))
    ·replace h : Qkd n12 = some r := h
     unfold Qkd at h
     rintro e σ ⟨rfl, rfl⟩
     refine Qa hC [.n 10, .keep [4] []] rfl tt_ ?_
     cases h
     exact AK.done (ex_ [_] (an_ (an_ rfl tt_) (gives tt_)))
theorem Qly : ∀ (fuel : Nat) (e1 : Qf) (deep2 : Int) {r : Int}, QdN fuel e1 deep2 = some r → Qc Tryz.prog 99 [.agg (Ql e1), .i .i64 deep2] [] (Gives (.i .i64 r) [])
 | 0, _, _, _, h => by cases h
 | n + 1, e1, deep2, _, h => Qps (QdN n) (fun _ _ _ h => Qly n _ _ h) e1 deep2 h
theorem QqO (e1 : Qf) (deep2 : Int) {r : Int} (h : Qmi e1 deep2 = some r) : Qc Tryz.prog 99 [.agg (Ql e1), .i .i64 deep2] [] (Gives (.i .i64 r) []) := Qly _ e1 deep2 h
def QfQ (e1 : Qf) : Option Bool :=
 (Qmi e1 60).bind fun x3 =>
 some (decide (0 < x3))
theorem Qke (e1 : Qf) {r : Bool} (h : QfQ e1 = some r) : Qc Tryz.prog 56 [.agg (Ql e1)] [] (Gives (.b r) []) := by
 refine Qc.walk 6 Tryz.func56 rfl Tryz.ntmps56 rfl fun C hC => ?_
 unfold QfQ at h
 obtain ⟨x3, hx3, h⟩ := Qb h
 refine Qa hC [.n 8, .v .no [] (.agg (Ql e1)), .o (.c false [.d, .d] (.i .i64 x3)), .n 5, .keep [2] []] rfl ⟨⟨tt_, rfl⟩, (QqO _ _ hx3)⟩ ?_
 cases h
 exact AK.done (ex_ [_] (an_ (an_ rfl tt_) (gives tt_)))
def Qkf (n1 : TNet) (i9 : Int) (parts8 : Int) (e14 : Qy) : Option Bool :=
 (idx n1.Colours i9).bind fun e17 =>
 bif (decide (100 < (e17.Name.size : Int))) then
 some true
 else
 some (decide (400 < (w64 (parts8 + (e14.Names.length : Int)))))
def Qek (n1 : TNet) (i9 : Int) (k20 : Int) : Option (Int ⊕ (Unit ⊕ Unit)) :=
 (idx n1.Colours i9).bind fun e22 =>
 bif (decide (k20 < (e22.Names.length : Int))) then
 (idx n1.Colours i9).bind fun e24 =>
 (idx e24.Names k20).bind fun e25 =>
 bif (decide (100 < (e25.size : Int))) then
 some (.inr (.inl ()))
 else
 some (.inl (w64 (k20 + 1)))
 else
 some (.inr (.inr ()))
def Qkg : Option ((Int × Int) ⊕ (Unit ⊕ Int)) :=
 some (.inr (.inl ()))
def Qkh (parts8 : Int) (e14 : Qy) (i9 : Int) : Option ((Int × Int) ⊕ (Unit ⊕ Int)) :=
 some (.inl ((w64 (parts8 + (e14.Names.length : Int))), (w64 (i9 + 1))))
def Qgi (n1 : TNet) (i9 : Int) (parts8 : Int) (e14 : Qy) (x15 : Bool) : Option ((Int × Int) ⊕ (Unit ⊕ Int)) :=
 bif x15 then
 some (.inr (.inl ()))
 else
 (QE (fun st => Qek n1 i9 st) 0).bind (Sum.elim (fun q => Qkg) (fun q => Qkh parts8 e14 i9))
def Qel (n1 : TNet) (parts8 : Int) (i9 : Int) : Option ((Int × Int) ⊕ (Unit ⊕ Int)) :=
 bif (decide (i9 < (n1.Colours.length : Int))) then
 (idx n1.Colours i9).bind fun e14 =>
 (Qkf n1 i9 parts8 e14).bind (fun x15 => Qgi n1 i9 parts8 e14 x15)
 else
 some (.inr (.inr parts8))
def Qki : Option Bool :=
 some false
def Qem (n1 : TNet) (parts29 : Int) (i30 : Int) : Option ((Int × Int) ⊕ (Unit ⊕ Int)) :=
 bif (decide (i30 < (n1.Places.length : Int))) then
 (idx n1.Places i30).bind fun e35 =>
 (idx n1.Places i30).bind fun e36 =>
 bif (decide (100 < (e36.Name.size : Int))) then
 some (.inr (.inl ()))
 else
 some (.inl ((w64 (parts29 + (e35.First.length : Int))), (w64 (i30 + 1))))
 else
 some (.inr (.inr parts29))
def Qkj : Option Bool :=
 some false
def QdB (e44 : Qr) (k48 : Int) : Option (Int ⊕ (Unit ⊕ Unit)) :=
 bif (decide (k48 < (e44.Vars.length : Int))) then
 (idx e44.Vars k48).bind fun e51 =>
 bif (decide (100 < (e51.Name.size : Int))) then
 some (.inr (.inl ()))
 else
 some (.inl (w64 (k48 + 1)))
 else
 some (.inr (.inr ()))
def QjR : Option ((Int × Int) ⊕ (Unit ⊕ Unit)) :=
 some (.inr (.inl ()))
def QdC (e44 : Qr) (ok55 : Bool) (k56 : Int) : Option ((Bool × Int) ⊕ Bool) :=
 bif (decide (k56 < (e44.Ins.length : Int))) then
 (idx e44.Ins k56).bind fun e61 =>
 (QfQ e61.Expr).bind fun x62 =>
 some (.inl ((ok55 && x62), (w64 (k56 + 1))))
 else
 some (.inr ok55)
def QdD (e44 : Qr) (ok66 : Bool) (k67 : Int) : Option ((Bool × Int) ⊕ Bool) :=
 bif (decide (k67 < (e44.Outs.length : Int))) then
 (idx e44.Outs k67).bind fun e72 =>
 (QfQ e72.Expr).bind fun x73 =>
 some (.inl ((ok66 && x73), (w64 (k67 + 1))))
 else
 some (.inr ok66)
def Qfn (arcs39 : Int) (e44 : Qr) (i40 : Int) (ok70 : Bool) : Option ((Int × Int) ⊕ (Unit ⊕ Unit)) :=
 bif (!ok70) then
 some (.inr (.inl ()))
 else
 some (.inl ((w64 ((w64 ((w64 ((w64 (arcs39 + (e44.Vars.length : Int))) + (e44.Ins.length : Int))) + (e44.Outs.length : Int))) + (e44.Cancel.length : Int))), (w64 (i40 + 1))))
def Qfo (e44 : Qr) (arcs39 : Int) (i40 : Int) (ok59 : Bool) : Option ((Int × Int) ⊕ (Unit ⊕ Unit)) :=
 (QE (fun st => QdD e44 st.1 st.2) (ok59, 0)).bind (fun q => Qfn arcs39 e44 i40 q)
def Qfp (e44 : Qr) (arcs39 : Int) (i40 : Int) : Option ((Int × Int) ⊕ (Unit ⊕ Unit)) :=
 (QfQ e44.Guard).bind fun x54 =>
 (QE (fun st => QdC e44 st.1 st.2) (x54, 0)).bind (fun q => Qfo e44 arcs39 i40 q)
def QdE (n1 : TNet) (arcs39 : Int) (i40 : Int) : Option ((Int × Int) ⊕ (Unit ⊕ Unit)) :=
 bif (decide (i40 < (n1.Tasks.length : Int))) then
 (idx n1.Tasks i40).bind fun e44 =>
 bif ((decide (200 < (w64 ((w64 ((w64 ((w64 (arcs39 + (e44.Vars.length : Int))) + (e44.Ins.length : Int))) + (e44.Outs.length : Int))) + (e44.Cancel.length : Int))))) || (decide (100 < (e44.Name.size : Int)))) then
 some (.inr (.inl ()))
 else
 (QE (fun st => QdB e44 st) 0).bind (Sum.elim (fun q => QjR) (fun q => Qfp e44 arcs39 i40))
 else
 some (.inr (.inr ()))
def QjS : Option Bool :=
 some false
def QjT (parts33 : Int) : Option Bool :=
 some (decide (parts33 ≤ 400))
def Qfq (n1 : TNet) (parts33 : Int) : Option Bool :=
 (QE (fun st => QdE n1 st.1 st.2) (0, 0)).bind (Sum.elim (fun q => QjS) (fun q => QjT parts33))
def Qfr (n1 : TNet) (parts12 : Int) : Option Bool :=
 (QE (fun st => Qem n1 st.1 st.2) (parts12, 0)).bind (Sum.elim (fun q => Qkj) (fun q => Qfq n1 q))
def QiI (n1 : TNet) : Option Bool :=
 bif ((decide (40 < (n1.Colours.length : Int))) || ((decide (70 < (n1.Places.length : Int))) || (decide (70 < (n1.Tasks.length : Int))))) then
 some false
 else
 (QE (fun st => Qel n1 st.1 st.2) (0, 0)).bind (Sum.elim (fun q => Qki) (fun q => Qfr n1 q))
theorem QqP (n1 : TNet) {r : Bool} (h : QiI n1 = some r) : Qc Tryz.prog 30 [.agg (Qd n1)] [] (Gives (.b r) []) := by
 refine Qc.walk 201 Tryz.func30 rfl Tryz.ntmps30 rfl fun C hC => ?_
 unfold QiI at h
 refine Qa hC [.n 8] rfl tt_ ?_
 refine AK.meetX (fun σ => σ = ⟨[(1, .loc 1 0 0), (31, .b ((decide (40 < (n1.Colours.length : Int))) || ((decide (70 < (n1.Places.length : Int))) || (decide (70 < (n1.Tasks.length : Int))))))], [(1, .var (Qd n1))]⟩) ?_ ?_
 ·refine Qa hC [.n 3, .o (.ln n1.Colours.length), .n 2] rfl ⟨tt_, Qg⟩ ?_
  rcases QJ (decide (40 < (n1.Colours.length : Int))) with hc5 | hc5
  ·refine Qa hC [.say 20 (.b true), .n 12, .say 31 (.b ((decide (40 < (n1.Colours.length : Int))) || ((decide (70 < (n1.Places.length : Int))) || (decide (70 < (n1.Tasks.length : Int)))))), .keep [1, 31] [1]] rfl ⟨⟨tt_, (congrArg V.b hc5)⟩, (congrArg V.b (orT hc5 rfl))⟩ ?_
   exact AK.met rfl
  ·refine Qa hC [.say 20 (.b false), .n 2, .o (.ln n1.Places.length), .n 3] rfl ⟨⟨tt_, (congrArg V.b hc5)⟩, Qg⟩ ?_
   rcases QJ (decide (70 < (n1.Places.length : Int))) with hc6 | hc6
   ·refine Qa hC [.say 26 (.b true), .n 6, .say 31 (.b ((decide (40 < (n1.Colours.length : Int))) || ((decide (70 < (n1.Places.length : Int))) || (decide (70 < (n1.Tasks.length : Int)))))), .keep [1, 31] [1]] rfl ⟨⟨tt_, (congrArg V.b hc6)⟩, (congrArg V.b (orF hc5 (orT hc6 rfl)))⟩ ?_
    exact AK.met rfl
   ·refine Qa hC [.say 26 (.b false), .n 2, .o (.ln n1.Tasks.length), .n 3, .say 31 (.b ((decide (40 < (n1.Colours.length : Int))) || ((decide (70 < (n1.Places.length : Int))) || (decide (70 < (n1.Tasks.length : Int)))))), .keep [1, 31] [1]] rfl ⟨⟨⟨tt_, (congrArg V.b hc6)⟩, Qg⟩, (congrArg V.b (orF hc5 (orF hc6 rfl)))⟩ ?_
    exact AK.met rfl
 ·rintro σ rfl
  refine Qa hC [.n 1] rfl tt_ ?_
  rcases bifE h with ⟨hc7, h⟩ | ⟨hc7, h⟩
  ·refine Qa hC [.br true, .n 7, .keep [2] []] rfl ⟨tt_, hc7⟩ ?_
   cases h
   exact AK.done (ex_ [_] (an_ (an_ rfl tt_) (gives tt_)))
  ·refine Qa hC [.br false, .n 14, .keep [1, 3, 4] [1]] rfl ⟨tt_, hc7⟩ ?_
   obtain ⟨o28, hl28, h⟩ := Qb h
   refine AK.loop (body := (fun st => Qel n1 st.1 st.2)) (fun st σ => σ = ⟨[(1, .loc 1 0 0), (3, .i .i64 st.1), (4, .i .i64 st.2)], [(1, .var (Qd n1))]⟩) (Sum.elim (fun q e σ => e = .ret ∧ σ = ⟨[(2, .b false)], []⟩) (fun q e σ => e = .exit 0 ∧ σ = ⟨[(1, .loc 1 0 0), (3, .i .i64 q)], [(1, .var (Qd n1))]⟩)) hl28 rfl ?_ ?_
   ·rintro ⟨parts8, i9⟩ o σ rfl h
    replace h : Qel n1 parts8 i9 = some o := h
    unfold Qel at h
    refine Qa hC [.n 6, .o (.ln n1.Colours.length), .n 3] rfl ⟨tt_, Qg⟩ ?_
    rcases bifE h with ⟨hc13, h⟩ | ⟨hc13, h⟩
    ·obtain ⟨e14, he14, h⟩ := Qb h
     refine Qa hC [.br true, .n 10, .o (.row (Qu e14)), .n 2, .o (.ln e14.Names.length), .n 6] rfl ⟨⟨⟨tt_, hc13⟩, (idxM he14)⟩, Qg⟩ ?_
     obtain ⟨x15, hv16, h⟩ := Qb h
     replace h : Qgi n1 i9 parts8 e14 x15 = some o := h
     refine AK.meetX (fun σ => σ = ⟨[(1, .loc 1 0 0), (3, .i .i64 (w64 (parts8 + (e14.Names.length : Int)))), (4, .i .i64 i9), (59, .b x15)], [(1, .var (Qd n1))]⟩) ?_ ?_
     ·replace h := hv16
      unfold Qkf at h
      obtain ⟨e17, he17, h⟩ := Qb h
      refine Qa hC [.n 4, .o (.row (Qu e17)), .n 5] rfl ⟨tt_, (idxM he17)⟩ ?_
      rcases bifE h with ⟨hc18, h⟩ | ⟨hc18, h⟩
      ·refine Qa hC [.say 56 (.b true), .n 4, .keep [1, 3, 4, 59] [1]] rfl ⟨tt_, (congrArg V.b hc18)⟩ ?_
       cases h
       exact AK.met rfl
      ·refine Qa hC [.say 56 (.b false), .n 4, .keep [1, 3, 4, 59] [1]] rfl ⟨tt_, (congrArg V.b hc18)⟩ ?_
       cases h
       exact AK.met rfl
     ·rintro σ rfl
      replace h : Qgi n1 i9 parts8 e14 x15 = some o := h
      unfold Qgi at h
      refine Qa hC [.n 1] rfl tt_ ?_
      rcases bifE h with ⟨hc19, h⟩ | ⟨hc19, h⟩
      ·refine Qa hC [.br true, .n 9, .keep [2] []] rfl ⟨tt_, hc19⟩ ?_
       cases h
       exact rndR rfl (an_ rfl rfl)
      ·refine Qa hC [.br false, .n 8, .keep [1, 3, 4, 5] [1]] rfl ⟨tt_, hc19⟩ ?_
       obtain ⟨o27, hl27, h⟩ := Qb h
       refine AK.loop (body := (fun st => Qek n1 i9 st)) (fun st σ => σ = ⟨[(1, .loc 1 0 0), (3, .i .i64 (w64 (parts8 + (e14.Names.length : Int)))), (4, .i .i64 i9), (5, .i .i64 st)], [(1, .var (Qd n1))]⟩) (Sum.elim (fun q e σ => e = .ret ∧ σ = ⟨[(2, .b false)], []⟩) (fun q e σ => e = .exit 2 ∧ σ = ⟨[(1, .loc 1 0 0), (3, .i .i64 (w64 (parts8 + (e14.Names.length : Int)))), (4, .i .i64 i9)], [(1, .var (Qd n1))]⟩)) hl27 rfl ?_ ?_
       ·rintro k20 o σ rfl h
        replace h : Qek n1 i9 k20 = some o := h
        unfold Qek at h
        obtain ⟨e22, he22, h⟩ := Qb h
        refine Qa hC [.n 7, .o (.row (Qu e22)), .n 2, .o (.ln e22.Names.length), .n 3] rfl ⟨⟨tt_, (idxM he22)⟩, Qg⟩ ?_
        rcases bifE h with ⟨hc23, h⟩ | ⟨hc23, h⟩
        ·obtain ⟨e24, he24, h⟩ := Qb h
         obtain ⟨e25, he25, h⟩ := Qb h
         refine Qa hC [.br true, .n 9, .o (.row (Qu e24)), .n 3, .o (.row (Qdb e25)), .n 5] rfl ⟨⟨⟨tt_, hc23⟩, (idxM he24)⟩, (idxM he25)⟩ ?_
         rcases bifE h with ⟨hc26, h⟩ | ⟨hc26, h⟩
         ·refine Qa hC [.br true, .n 8, .keep [2] []] rfl ⟨tt_, hc26⟩ ?_
          cases h
          exact rndR rfl (an_ rfl rfl)
         ·refine Qa hC [.br false, .n 8, .keep [1, 3, 4, 5] [1]] rfl ⟨tt_, hc26⟩ ?_
          cases h
          exact rndN rfl rfl
        ·refine Qa hC [.br false, .n 2, .keep [1, 3, 4] [1]] rfl ⟨tt_, hc23⟩ ?_
         cases h
         exact rndX rfl (an_ rfl rfl)
       ·rcases o27 with (_ | _)
        ·replace h : Qkg = some o := h
         unfold Qkg at h
         rintro e σ ⟨rfl, rfl⟩
         refine Qa hC [.n 3, .keep [2] []] rfl tt_ ?_
         cases h
         exact rndR rfl (an_ rfl rfl)
        ·replace h : Qkh parts8 e14 i9 = some o := h
         unfold Qkh at h
         rintro e σ ⟨rfl, rfl⟩
         refine Qa hC [.n 8, .keep [1, 3, 4] [1]] rfl tt_ ?_
         cases h
         exact rndN rfl rfl
    ·refine Qa hC [.br false, .n 2, .keep [1, 3] [1]] rfl ⟨tt_, hc13⟩ ?_
     cases h
     exact rndX rfl (an_ rfl rfl)
   ·rcases o28 with (_ | parts12)
    ·replace h : Qki = some r := h
     unfold Qki at h
     rintro e σ ⟨rfl, rfl⟩
     refine Qa hC [.n 2, .keep [2] []] rfl tt_ ?_
     cases h
     exact AK.done (ex_ [_] (an_ (an_ rfl tt_) (gives tt_)))
    ·replace h : Qfr n1 parts12 = some r := h
     unfold Qfr at h
     rintro e σ ⟨rfl, rfl⟩
     refine Qa hC [.n 9, .keep [1, 3, 6] [1]] rfl tt_ ?_
     obtain ⟨o38, hl38, h⟩ := Qb h
     refine AK.loop (body := (fun st => Qem n1 st.1 st.2)) (fun st σ => σ = ⟨[(1, .loc 1 0 0), (3, .i .i64 st.1), (6, .i .i64 st.2)], [(1, .var (Qd n1))]⟩) (Sum.elim (fun q e σ => e = .ret ∧ σ = ⟨[(2, .b false)], []⟩) (fun q e σ => e = .exit 4 ∧ σ = ⟨[(1, .loc 1 0 0), (3, .i .i64 q)], [(1, .var (Qd n1))]⟩)) hl38 rfl ?_ ?_
     ·rintro ⟨parts29, i30⟩ o σ rfl h
      replace h : Qem n1 parts29 i30 = some o := h
      unfold Qem at h
      refine Qa hC [.n 6, .o (.ln n1.Places.length), .n 3] rfl ⟨tt_, Qg⟩ ?_
      rcases bifE h with ⟨hc34, h⟩ | ⟨hc34, h⟩
      ·obtain ⟨e35, he35, h⟩ := Qb h
       obtain ⟨e36, he36, h⟩ := Qb h
       refine Qa hC [.br true, .n 10, .o (.row (Qs e35)), .n 2, .o (.ln e35.First.length), .n 9, .o (.row (Qs e36)), .n 6] rfl ⟨⟨⟨⟨tt_, hc34⟩, (idxM he35)⟩, Qg⟩, (idxM he36)⟩ ?_
       rcases bifE h with ⟨hc37, h⟩ | ⟨hc37, h⟩
       ·refine Qa hC [.br true, .n 8, .keep [2] []] rfl ⟨tt_, hc37⟩ ?_
        cases h
        exact rndR rfl (an_ rfl rfl)
       ·refine Qa hC [.br false, .n 8, .keep [1, 3, 6] [1]] rfl ⟨tt_, hc37⟩ ?_
        cases h
        exact rndN rfl rfl
      ·refine Qa hC [.br false, .n 2, .keep [1, 3] [1]] rfl ⟨tt_, hc34⟩ ?_
       cases h
       exact rndX rfl (an_ rfl rfl)
     ·rcases o38 with (_ | parts33)
      ·replace h : Qkj = some r := h
       unfold Qkj at h
       rintro e σ ⟨rfl, rfl⟩
       refine Qa hC [.n 2, .keep [2] []] rfl tt_ ?_
       cases h
       exact AK.done (ex_ [_] (an_ (an_ rfl tt_) (gives tt_)))
      ·replace h : Qfq n1 parts33 = some r := h
       unfold Qfq at h
       rintro e σ ⟨rfl, rfl⟩
       refine Qa hC [.n 14, .keep [1, 3, 7, 8] [1]] rfl tt_ ?_
       obtain ⟨o78, hl78, h⟩ := Qb h
       refine AK.loop (body := (fun st => QdE n1 st.1 st.2)) (fun st σ => σ = ⟨[(1, .loc 1 0 0), (3, .i .i64 parts33), (7, .i .i64 st.1), (8, .i .i64 st.2)], [(1, .var (Qd n1))]⟩) (Sum.elim (fun q e σ => e = .ret ∧ σ = ⟨[(2, .b false)], []⟩) (fun q e σ => e = .exit 6 ∧ σ = ⟨[(3, .i .i64 parts33)], []⟩)) hl78 rfl ?_ ?_
       ·rintro ⟨arcs39, i40⟩ o σ rfl h
        replace h : QdE n1 arcs39 i40 = some o := h
        unfold QdE at h
        refine Qa hC [.n 6, .o (.ln n1.Tasks.length), .n 3] rfl ⟨tt_, Qg⟩ ?_
        rcases bifE h with ⟨hc43, h⟩ | ⟨hc43, h⟩
        ·obtain ⟨e44, he44, h⟩ := Qb h
         refine Qa hC [.br true, .n 9, .o (.row (Qi e44)), .v .no [] (.agg (Qi e44)), .n 2, .sayO 9 (.var (Qi e44)), .n 7, .o (.ln e44.Vars.length), .n 3, .o (.ln e44.Ins.length), .n 3, .o (.ln e44.Outs.length), .n 3, .o (.ln e44.Cancel.length), .n 6] rfl ⟨⟨⟨⟨⟨⟨⟨⟨tt_, hc43⟩, (idxM he44)⟩, rfl⟩, rfl⟩, Qg⟩, Qg⟩, Qg⟩, Qg⟩ ?_
         refine AK.meetX (fun σ => σ = ⟨[(1, .loc 1 0 0), (3, .i .i64 parts33), (7, .i .i64 (w64 ((w64 ((w64 ((w64 (arcs39 + (e44.Vars.length : Int))) + (e44.Ins.length : Int))) + (e44.Outs.length : Int))) + (e44.Cancel.length : Int)))), (8, .i .i64 i40), (9, .loc 9 0 0), (142, .b ((decide (200 < (w64 ((w64 ((w64 ((w64 (arcs39 + (e44.Vars.length : Int))) + (e44.Ins.length : Int))) + (e44.Outs.length : Int))) + (e44.Cancel.length : Int))))) || (decide (100 < (e44.Name.size : Int)))))], [(1, .var (Qd n1)), (9, .var (Qi e44))]⟩) ?_ ?_
         ·refine Qa hC [.n 4] rfl tt_ ?_
          rcases QJ (decide (200 < (w64 ((w64 ((w64 ((w64 (arcs39 + (e44.Vars.length : Int))) + (e44.Ins.length : Int))) + (e44.Outs.length : Int))) + (e44.Cancel.length : Int))))) with hc46 | hc46
          ·refine Qa hC [.say 137 (.b true), .n 6, .say 142 (.b ((decide (200 < (w64 ((w64 ((w64 ((w64 (arcs39 + (e44.Vars.length : Int))) + (e44.Ins.length : Int))) + (e44.Outs.length : Int))) + (e44.Cancel.length : Int))))) || (decide (100 < (e44.Name.size : Int))))), .keep [1, 3, 7, 8, 9, 142] [1, 9]] rfl ⟨⟨tt_, (congrArg V.b hc46)⟩, (congrArg V.b (orT hc46 rfl))⟩ ?_
           exact AK.met rfl
          ·refine Qa hC [.say 137 (.b false), .n 6, .say 142 (.b ((decide (200 < (w64 ((w64 ((w64 ((w64 (arcs39 + (e44.Vars.length : Int))) + (e44.Ins.length : Int))) + (e44.Outs.length : Int))) + (e44.Cancel.length : Int))))) || (decide (100 < (e44.Name.size : Int))))), .keep [1, 3, 7, 8, 9, 142] [1, 9]] rfl ⟨⟨tt_, (congrArg V.b hc46)⟩, (congrArg V.b (orF hc46 rfl))⟩ ?_
           exact AK.met rfl
         ·rintro σ rfl
          refine Qa hC [.n 1] rfl tt_ ?_
          rcases bifE h with ⟨hc47, h⟩ | ⟨hc47, h⟩
          ·refine Qa hC [.br true, .n 9, .keep [2] []] rfl ⟨tt_, hc47⟩ ?_
           cases h
           exact rndR rfl (an_ rfl rfl)
          ·refine Qa hC [.br false, .n 9, .keep [1, 3, 7, 8, 9, 10] [1, 9]] rfl ⟨tt_, hc47⟩ ?_
           obtain ⟨o53, hl53, h⟩ := Qb h
           refine AK.loop (body := (fun st => QdB e44 st)) (fun st σ => σ = ⟨[(1, .loc 1 0 0), (3, .i .i64 parts33), (7, .i .i64 (w64 ((w64 ((w64 ((w64 (arcs39 + (e44.Vars.length : Int))) + (e44.Ins.length : Int))) + (e44.Outs.length : Int))) + (e44.Cancel.length : Int)))), (8, .i .i64 i40), (9, .loc 9 0 0), (10, .i .i64 st)], [(1, .var (Qd n1)), (9, .var (Qi e44))]⟩) (Sum.elim (fun q e σ => e = .ret ∧ σ = ⟨[(2, .b false)], []⟩) (fun q e σ => e = .exit 8 ∧ σ = ⟨[(1, .loc 1 0 0), (3, .i .i64 parts33), (7, .i .i64 (w64 ((w64 ((w64 ((w64 (arcs39 + (e44.Vars.length : Int))) + (e44.Ins.length : Int))) + (e44.Outs.length : Int))) + (e44.Cancel.length : Int)))), (8, .i .i64 i40), (9, .loc 9 0 0)], [(1, .var (Qd n1)), (9, .var (Qi e44))]⟩)) hl53 rfl ?_ ?_
           ·rintro k48 o σ rfl h
            replace h : QdB e44 k48 = some o := h
            unfold QdB at h
            refine Qa hC [.n 6, .o (.ln e44.Vars.length), .n 3] rfl ⟨tt_, Qg⟩ ?_
            rcases bifE h with ⟨hc50, h⟩ | ⟨hc50, h⟩
            ·obtain ⟨e51, he51, h⟩ := Qb h
             refine Qa hC [.br true, .n 9, .o (.row (QB e51)), .n 6] rfl ⟨⟨tt_, hc50⟩, (idxM he51)⟩ ?_
             rcases bifE h with ⟨hc52, h⟩ | ⟨hc52, h⟩
             ·refine Qa hC [.br true, .n 8, .keep [2] []] rfl ⟨tt_, hc52⟩ ?_
              cases h
              exact rndR rfl (an_ rfl rfl)
             ·refine Qa hC [.br false, .n 8, .keep [1, 3, 7, 8, 9, 10] [1, 9]] rfl ⟨tt_, hc52⟩ ?_
              cases h
              exact rndN rfl rfl
            ·refine Qa hC [.br false, .n 2, .keep [1, 3, 7, 8, 9] [1, 9]] rfl ⟨tt_, hc50⟩ ?_
             cases h
             exact rndX rfl (an_ rfl rfl)
           ·rcases o53 with (_ | _)
            ·replace h : QjR = some o := h
             unfold QjR at h
             rintro e σ ⟨rfl, rfl⟩
             refine Qa hC [.n 4, .keep [2] []] rfl tt_ ?_
             cases h
             exact rndR rfl (an_ rfl rfl)
            ·replace h : Qfp e44 arcs39 i40 = some o := h
             unfold Qfp at h
             rintro e σ ⟨rfl, rfl⟩
             obtain ⟨x54, hx54, h⟩ := Qb h
             refine Qa hC [.n 5, .v .no [] (.agg (Ql e44.Guard)), .o (.c false [.d] (.b x54)), .n 10, .keep [1, 3, 7, 8, 9, 11, 12] [1, 9]] rfl ⟨⟨tt_, rfl⟩, (Qke _ hx54)⟩ ?_
             obtain ⟨ok59, hl65, h⟩ := Qb h
             refine AK.loop (body := (fun st => QdC e44 st.1 st.2)) (fun st σ => σ = ⟨[(1, .loc 1 0 0), (3, .i .i64 parts33), (7, .i .i64 (w64 ((w64 ((w64 ((w64 (arcs39 + (e44.Vars.length : Int))) + (e44.Ins.length : Int))) + (e44.Outs.length : Int))) + (e44.Cancel.length : Int)))), (8, .i .i64 i40), (9, .loc 9 0 0), (11, .b st.1), (12, .i .i64 st.2)], [(1, .var (Qd n1)), (9, .var (Qi e44))]⟩) (fun q e σ => e = .exit 10 ∧ σ = ⟨[(1, .loc 1 0 0), (3, .i .i64 parts33), (7, .i .i64 (w64 ((w64 ((w64 ((w64 (arcs39 + (e44.Vars.length : Int))) + (e44.Ins.length : Int))) + (e44.Outs.length : Int))) + (e44.Cancel.length : Int)))), (8, .i .i64 i40), (9, .loc 9 0 0), (11, .b q)], [(1, .var (Qd n1)), (9, .var (Qi e44))]⟩) hl65 rfl ?_ ?_
             ·rintro ⟨ok55, k56⟩ o σ rfl h
              replace h : QdC e44 ok55 k56 = some o := h
              unfold QdC at h
              refine Qa hC [.n 6, .o (.ln e44.Ins.length), .n 3] rfl ⟨tt_, Qg⟩ ?_
              rcases bifE h with ⟨hc60, h⟩ | ⟨hc60, h⟩
              ·obtain ⟨e61, he61, h⟩ := Qb h
               obtain ⟨x62, hx62, h⟩ := Qb h
               refine Qa hC [.br true, .n 9, .o (.row (QN e61)), .n 1, .v .no [] (.agg (Ql e61.Expr)), .o (.c false [.d] (.b x62)), .n 3] rfl ⟨⟨⟨⟨tt_, hc60⟩, (idxM he61)⟩, rfl⟩, (Qke _ hx62)⟩ ?_
               refine AK.meetX (fun σ => σ = ⟨[(1, .loc 1 0 0), (3, .i .i64 parts33), (7, .i .i64 (w64 ((w64 ((w64 ((w64 (arcs39 + (e44.Vars.length : Int))) + (e44.Ins.length : Int))) + (e44.Outs.length : Int))) + (e44.Cancel.length : Int)))), (8, .i .i64 i40), (9, .loc 9 0 0), (11, .b (ok55 && x62)), (12, .i .i64 k56)], [(1, .var (Qd n1)), (9, .var (Qi e44))]⟩) ?_ ?_
               ·refine Qa hC [.n 3] rfl tt_ ?_
                rcases QJ ok55 with hc64 | hc64
                ·refine Qa hC [.say 176 (.b true), .n 4, .say 11 (.b (ok55 && x62)), .keep [1, 3, 7, 8, 9, 11, 12] [1, 9]] rfl ⟨⟨tt_, (congrArg V.b hc64)⟩, (congrArg V.b (andT hc64 rfl))⟩ ?_
                 exact AK.met rfl
                ·refine Qa hC [.say 176 (.b false), .n 4, .say 11 (.b (ok55 && x62)), .keep [1, 3, 7, 8, 9, 11, 12] [1, 9]] rfl ⟨⟨tt_, (congrArg V.b hc64)⟩, (congrArg V.b (andF hc64 rfl))⟩ ?_
                 exact AK.met rfl
               ·rintro σ rfl
                refine Qa hC [.n 7, .keep [1, 3, 7, 8, 9, 11, 12] [1, 9]] rfl tt_ ?_
                cases h
                exact rndN rfl rfl
              ·refine Qa hC [.br false, .n 2, .keep [1, 3, 7, 8, 9, 11] [1, 9]] rfl ⟨tt_, hc60⟩ ?_
               cases h
               exact rndX rfl (an_ rfl rfl)
             ·replace h : Qfo e44 arcs39 i40 ok59 = some o := h
              unfold Qfo at h
              rintro e σ ⟨rfl, rfl⟩
              refine Qa hC [.n 9, .keep [1, 3, 7, 8, 9, 11, 14] [1, 9]] rfl tt_ ?_
              obtain ⟨ok70, hl76, h⟩ := Qb h
              refine AK.loop (body := (fun st => QdD e44 st.1 st.2)) (fun st σ => σ = ⟨[(1, .loc 1 0 0), (3, .i .i64 parts33), (7, .i .i64 (w64 ((w64 ((w64 ((w64 (arcs39 + (e44.Vars.length : Int))) + (e44.Ins.length : Int))) + (e44.Outs.length : Int))) + (e44.Cancel.length : Int)))), (8, .i .i64 i40), (9, .loc 9 0 0), (11, .b st.1), (14, .i .i64 st.2)], [(1, .var (Qd n1)), (9, .var (Qi e44))]⟩) (fun q e σ => e = .exit 12 ∧ σ = ⟨[(1, .loc 1 0 0), (3, .i .i64 parts33), (7, .i .i64 (w64 ((w64 ((w64 ((w64 (arcs39 + (e44.Vars.length : Int))) + (e44.Ins.length : Int))) + (e44.Outs.length : Int))) + (e44.Cancel.length : Int)))), (8, .i .i64 i40), (11, .b q)], [(1, .var (Qd n1))]⟩) hl76 rfl ?_ ?_
              ·rintro ⟨ok66, k67⟩ o σ rfl h
               replace h : QdD e44 ok66 k67 = some o := h
               unfold QdD at h
               refine Qa hC [.n 6, .o (.ln e44.Outs.length), .n 3] rfl ⟨tt_, Qg⟩ ?_
               rcases bifE h with ⟨hc71, h⟩ | ⟨hc71, h⟩
               ·obtain ⟨e72, he72, h⟩ := Qb h
                obtain ⟨x73, hx73, h⟩ := Qb h
                refine Qa hC [.br true, .n 9, .o (.row (QN e72)), .n 1, .v .no [] (.agg (Ql e72.Expr)), .o (.c false [.d] (.b x73)), .n 3] rfl ⟨⟨⟨⟨tt_, hc71⟩, (idxM he72)⟩, rfl⟩, (Qke _ hx73)⟩ ?_
                refine AK.meetX (fun σ => σ = ⟨[(1, .loc 1 0 0), (3, .i .i64 parts33), (7, .i .i64 (w64 ((w64 ((w64 ((w64 (arcs39 + (e44.Vars.length : Int))) + (e44.Ins.length : Int))) + (e44.Outs.length : Int))) + (e44.Cancel.length : Int)))), (8, .i .i64 i40), (9, .loc 9 0 0), (11, .b (ok66 && x73)), (14, .i .i64 k67)], [(1, .var (Qd n1)), (9, .var (Qi e44))]⟩) ?_ ?_
                ·refine Qa hC [.n 3] rfl tt_ ?_
                 rcases QJ ok66 with hc75 | hc75
                 ·refine Qa hC [.say 194 (.b true), .n 4, .say 11 (.b (ok66 && x73)), .keep [1, 3, 7, 8, 9, 11, 14] [1, 9]] rfl ⟨⟨tt_, (congrArg V.b hc75)⟩, (congrArg V.b (andT hc75 rfl))⟩ ?_
                  exact AK.met rfl
                 ·refine Qa hC [.say 194 (.b false), .n 4, .say 11 (.b (ok66 && x73)), .keep [1, 3, 7, 8, 9, 11, 14] [1, 9]] rfl ⟨⟨tt_, (congrArg V.b hc75)⟩, (congrArg V.b (andF hc75 rfl))⟩ ?_
                  exact AK.met rfl
                ·rintro σ rfl
                 refine Qa hC [.n 7, .keep [1, 3, 7, 8, 9, 11, 14] [1, 9]] rfl tt_ ?_
                 cases h
                 exact rndN rfl rfl
               ·refine Qa hC [.br false, .n 2, .keep [1, 3, 7, 8, 11] [1]] rfl ⟨tt_, hc71⟩ ?_
                cases h
                exact rndX rfl (an_ rfl rfl)
              ·replace h : Qfn arcs39 e44 i40 ok70 = some o := h
               unfold Qfn at h
               rintro e σ ⟨rfl, rfl⟩
               refine Qa hC [.n 8] rfl tt_ ?_
               rcases bifE h with ⟨hc77, h⟩ | ⟨hc77, h⟩
               ·refine Qa hC [.br true, .n 8, .keep [2] []] rfl ⟨tt_, hc77⟩ ?_
                cases h
                exact rndR rfl (an_ rfl rfl)
               ·refine Qa hC [.br false, .n 8, .keep [1, 3, 7, 8] [1]] rfl ⟨tt_, hc77⟩ ?_
                cases h
                exact rndN rfl rfl
        ·refine Qa hC [.br false, .n 2, .keep [3] []] rfl ⟨tt_, hc43⟩ ?_
         cases h
         exact rndX rfl (an_ rfl rfl)
       ·rcases o78 with (_ | _)
        ·replace h : QjS = some r := h
         unfold QjS at h
         rintro e σ ⟨rfl, rfl⟩
         refine Qa hC [.n 2, .keep [2] []] rfl tt_ ?_
         cases h
         exact AK.done (ex_ [_] (an_ (an_ rfl tt_) (gives tt_)))
        ·replace h : QjT parts33 = some r := h
         unfold QjT at h
         rintro e σ ⟨rfl, rfl⟩
         refine Qa hC [.n 10, .keep [2] []] rfl tt_ ?_
         cases h
         exact AK.done (ex_ [_] (an_ (an_ rfl tt_) (gives tt_)))
def Qen (m1 : (List (List (Int × Int)))) (n3 : Int) (i4 : Int) : Option ((Int × Int) ⊕ Int) :=
 bif ((decide (i4 < (m1.length : Int))) && (decide (i4 < 100))) then
 (idx m1 i4).bind fun e11 =>
 some (.inl ((w64 (n3 + (e11.length : Int))), (w64 (i4 + 1))))
 else
 some (.inr n3)
def Qkk (m1 : (List (List (Int × Int)))) (n7 : Int) : Option Bool :=
 some ((decide ((m1.length : Int) ≤ 70)) && (decide (n7 ≤ 300)))
def QiJ (m1 : (List (List (Int × Int)))) : Option Bool :=
 (QE (fun st => Qen m1 st.1 st.2) (0, 0)).bind (fun q => Qkk m1 q)
theorem QqQ (m1 : (List (List (Int × Int)))) {r : Bool} (h : QiJ m1 = some r) : Qc Tryz.prog 31 [.sl 1 (m1.map Qh)] [] (Gives (.b r) []) := by
 refine Qc.walk 29 Tryz.func31 rfl Tryz.ntmps31 rfl fun C hC => ?_
 unfold QiJ at h
 refine Qa hC [.n 17, .keep [0, 3, 4] []] rfl tt_ ?_
 obtain ⟨n7, hl12, h⟩ := Qb h
 refine AK.loop (body := (fun st => Qen m1 st.1 st.2)) (fun st σ => σ = ⟨[(0, .sl 1 (m1.map Qh)), (3, .i .i64 st.1), (4, .i .i64 st.2)], []⟩) (fun q e σ => e = .exit 0 ∧ σ = ⟨[(0, .sl 1 (m1.map Qh)), (3, .i .i64 q)], []⟩) hl12 rfl ?_ ?_
 ·rintro ⟨n3, i4⟩ o σ rfl h
  replace h : Qen m1 n3 i4 = some o := h
  unfold Qen at h
  refine Qa hC [.n 2] rfl tt_ ?_
  refine AK.meetX (fun σ => σ = ⟨[(0, .sl 1 (m1.map Qh)), (3, .i .i64 n3), (4, .i .i64 i4), (12, .b ((decide (i4 < (m1.length : Int))) && (decide (i4 < 100))))], []⟩) ?_ ?_
  ·refine Qa hC [.n 3, .o (.ln m1.length), .n 2] rfl ⟨tt_, Qg⟩ ?_
   rcases QJ (decide (i4 < (m1.length : Int))) with hc9 | hc9
   ·refine Qa hC [.say 9 (.b true), .n 4, .say 12 (.b ((decide (i4 < (m1.length : Int))) && (decide (i4 < 100)))), .keep [0, 3, 4, 12] []] rfl ⟨⟨tt_, (congrArg V.b hc9)⟩, (congrArg V.b (andT hc9 rfl))⟩ ?_
    exact AK.met rfl
   ·refine Qa hC [.say 9 (.b false), .n 4, .say 12 (.b ((decide (i4 < (m1.length : Int))) && (decide (i4 < 100)))), .keep [0, 3, 4, 12] []] rfl ⟨⟨tt_, (congrArg V.b hc9)⟩, (congrArg V.b (andF hc9 rfl))⟩ ?_
    exact AK.met rfl
  ·rintro σ rfl
   refine Qa hC [.n 1] rfl tt_ ?_
   rcases bifE h with ⟨hc10, h⟩ | ⟨hc10, h⟩
   ·obtain ⟨e11, he11, h⟩ := Qb h
    refine Qa hC [.br true, .n 8, .o (.row (Qh e11)), .n 1, .o (.ln e11.length), .n 10, .keep [0, 3, 4] []] rfl ⟨⟨⟨tt_, hc10⟩, (idxM he11)⟩, Qg⟩ ?_
    cases h
    exact rndN rfl rfl
   ·refine Qa hC [.br false, .n 2, .keep [0, 3] []] rfl ⟨tt_, hc10⟩ ?_
    cases h
    exact rndX rfl (an_ rfl rfl)
 ·replace h : Qkk m1 n7 = some r := h
  unfold Qkk at h
  rintro e σ ⟨rfl, rfl⟩
  refine Qa hC [.n 3] rfl tt_ ?_
  refine AK.meetX (fun σ => σ = ⟨[(2, .b ((decide ((m1.length : Int) ≤ 70)) && (decide (n7 ≤ 300))))], []⟩) ?_ ?_
  ·refine Qa hC [.n 2, .o (.ln m1.length), .n 2] rfl ⟨tt_, Qg⟩ ?_
   rcases QJ (decide ((m1.length : Int) ≤ 70)) with hc14 | hc14
   ·refine Qa hC [.say 25 (.b true), .n 5, .say 2 (.b ((decide ((m1.length : Int) ≤ 70)) && (decide (n7 ≤ 300)))), .keep [2] []] rfl ⟨⟨tt_, (congrArg V.b hc14)⟩, (congrArg V.b (andT hc14 rfl))⟩ ?_
    exact AK.met rfl
   ·refine Qa hC [.say 25 (.b false), .n 5, .say 2 (.b ((decide ((m1.length : Int) ≤ 70)) && (decide (n7 ≤ 300)))), .keep [2] []] rfl ⟨⟨tt_, (congrArg V.b hc14)⟩, (congrArg V.b (andF hc14 rfl))⟩ ?_
    exact AK.met rfl
  ·rintro σ rfl
   refine Qa hC [.n 2, .keep [2] []] rfl tt_ ?_
   cases h
   exact AK.done (ex_ [_] (an_ (an_ rfl tt_) (gives tt_)))
def QgZ (v1 : TNet) : Option Bool :=
 some ((decide ((v1.Places.length : Int) ≤ 64)) && (decide ((v1.Tasks.length : Int) ≤ 64)))
theorem Qpt (v1 : TNet) {r : Bool} (h : QgZ v1 = some r) : Qc Tryz.prog 58 [.loc 200000 0 0] [(200000, .var (Qd v1))] (Gives (.b r) [(200000, .var (Qd v1))]) := by
 refine Qc.walk 12 Tryz.func58 rfl Tryz.ntmps58 rfl fun C hC => ?_
 unfold QgZ at h
 refine Qa hC [.n 6] rfl tt_ ?_
 refine AK.meetX (fun σ => σ = ⟨[(1, .b ((decide ((v1.Places.length : Int) ≤ 64)) && (decide ((v1.Tasks.length : Int) ≤ 64))))], [(200000, .var (Qd v1))]⟩) ?_ ?_
 ·refine Qa hC [.n 3, .o (.ln v1.Places.length), .n 2] rfl ⟨tt_, Qg⟩ ?_
  rcases QJ (decide ((v1.Places.length : Int) ≤ 64)) with hc4 | hc4
  ·refine Qa hC [.say 6 (.b true), .n 2, .o (.ln v1.Tasks.length), .n 4, .say 1 (.b ((decide ((v1.Places.length : Int) ≤ 64)) && (decide ((v1.Tasks.length : Int) ≤ 64)))), .keep [1] [200000]] rfl ⟨⟨⟨tt_, (congrArg V.b hc4)⟩, Qg⟩, (congrArg V.b (andT hc4 rfl))⟩ ?_
   exact AK.met rfl
  ·refine Qa hC [.say 6 (.b false), .n 7, .say 1 (.b ((decide ((v1.Places.length : Int) ≤ 64)) && (decide ((v1.Tasks.length : Int) ≤ 64)))), .keep [1] [200000]] rfl ⟨⟨tt_, (congrArg V.b hc4)⟩, (congrArg V.b (andF hc4 rfl))⟩ ?_
   exact AK.met rfl
 ·rintro σ rfl
  refine Qa hC [.n 2, .keep [1] [200000]] rfl tt_ ?_
  cases h
  exact AK.done (ex_ [_] (an_ (an_ rfl tt_) (gives ⟨rfl, tt_⟩)))
def Qac (l1 : (List Qz)) (k2 : Int) : Option Bool :=
 some ((decide (0 ≤ k2)) && (decide (k2 < (l1.length : Int))))
theorem Qbh (l1 : (List Qz)) (k2 : Int) {r : Bool} (h : Qac l1 k2 = some r) : Qc Tryz.prog 60 [.sl 3 (l1.map Qs), .i .i64 k2] [] (Gives (.b r) []) := by
 refine Qc.walk 13 Tryz.func60 rfl Tryz.ntmps60 rfl fun C hC => ?_
 unfold Qac at h
 refine Qa hC [.n 6] rfl tt_ ?_
 refine AK.meetX (fun σ => σ = ⟨[(4, .b ((decide (0 ≤ k2)) && (decide (k2 < (l1.length : Int)))))], []⟩) ?_ ?_
 ·refine Qa hC [.n 4] rfl tt_ ?_
  rcases QJ (decide (0 ≤ k2)) with hc5 | hc5
  ·refine Qa hC [.say 7 (.b true), .n 2, .o (.ln l1.length), .n 4, .say 4 (.b ((decide (0 ≤ k2)) && (decide (k2 < (l1.length : Int))))), .keep [4] []] rfl ⟨⟨⟨tt_, (congrArg V.b hc5)⟩, Qg⟩, (congrArg V.b (andT hc5 rfl))⟩ ?_
   exact AK.met rfl
  ·refine Qa hC [.say 7 (.b false), .n 7, .say 4 (.b ((decide (0 ≤ k2)) && (decide (k2 < (l1.length : Int))))), .keep [4] []] rfl ⟨⟨tt_, (congrArg V.b hc5)⟩, (congrArg V.b (andF hc5 rfl))⟩ ?_
   exact AK.met rfl
 ·rintro σ rfl
  refine Qa hC [.n 2, .keep [4] []] rfl tt_ ?_
  cases h
  exact AK.done (ex_ [_] (an_ (an_ rfl tt_) (gives tt_)))
def Qja (v1 : TNet) : Option Bool :=
 (Qac v1.Places v1.From).bind fun x5 =>
 bif x5 then
 (Qac v1.Places v1.To).bind fun x7 =>
 some x7
 else
 some false
def QeG (x3 : Bool) : Option Bool :=
 some x3
def Qg0 (v1 : TNet) : Option Bool :=
 (Qja v1).bind (fun x3 => QeG x3)
theorem Qpu (v1 : TNet) {r : Bool} (h : Qg0 v1 = some r) : Qc Tryz.prog 59 [.loc 200000 0 0] [(200000, .var (Qd v1))] (Gives (.b r) [(200000, .var (Qd v1))]) := by
 refine Qc.walk 14 Tryz.func59 rfl Tryz.ntmps59 rfl fun C hC => ?_
 unfold Qg0 at h
 refine Qa hC [.n 6] rfl tt_ ?_
 obtain ⟨x3, hv4, h⟩ := Qb h
 replace h : QeG x3 = some r := h
 refine AK.meetX (fun σ => σ = ⟨[(1, .b x3)], [(200000, .var (Qd v1))]⟩) ?_ ?_
 ·replace h := hv4
  unfold Qja at h
  obtain ⟨x5, hx5, h⟩ := Qb h
  refine Qa hC [.n 5, .o (.c false [.d, .d] (.b x5)), .n 1] rfl ⟨tt_, (Qbh _ _ hx5)⟩ ?_
  rcases bifE h with ⟨hc6, h⟩ | ⟨hc6, h⟩
  ·obtain ⟨x7, hx7, h⟩ := Qb h
   refine Qa hC [.say 7 (.b true), .n 4, .o (.c false [.d, .d] (.b x7)), .n 3, .keep [1] [200000]] rfl ⟨⟨tt_, (congrArg V.b hc6)⟩, (Qbh _ _ hx7)⟩ ?_
   cases h
   exact AK.met rfl
  ·refine Qa hC [.say 7 (.b false), .n 8, .keep [1] [200000]] rfl ⟨tt_, (congrArg V.b hc6)⟩ ?_
   cases h
   exact AK.met rfl
 ·rintro σ rfl
  replace h : QeG x3 = some r := h
  unfold QeG at h
  refine Qa hC [.n 2, .keep [1] [200000]] rfl tt_ ?_
  cases h
  exact AK.done (ex_ [_] (an_ (an_ rfl tt_) (gives ⟨rfl, tt_⟩)))
def Qg1 (v1 : TNet) : Option Bool :=
 some (v1.From != v1.To)
theorem Qpv (v1 : TNet) {r : Bool} (h : Qg1 v1 = some r) : Qc Tryz.prog 61 [.loc 200000 0 0] [(200000, .var (Qd v1))] (Gives (.b r) [(200000, .var (Qd v1))]) := by
 refine Qc.walk 7 Tryz.func61 rfl Tryz.ntmps61 rfl fun C hC => ?_
 unfold Qg1 at h
 refine Qa hC [.n 16, .keep [1] [200000]] rfl tt_ ?_
 cases h
 exact AK.done (ex_ [_] (an_ (an_ rfl tt_) (gives ⟨rfl, tt_⟩)))
def Qg2 (v1 : TNet) (v2 : Int) (v3 : Int) (v4 : Int) : Option Int :=
 (QgZ v1).bind fun x7 =>
 bif (!x7) then
 some v2
 else
 (Qg0 v1).bind fun x9 =>
 bif (!x9) then
 some v3
 else
 (Qg1 v1).bind fun x11 =>
 bif (!x11) then
 some v4
 else
 some 0
theorem Qpw (v1 : TNet) (v2 : Int) (v3 : Int) (v4 : Int) {r : Int} (h : Qg2 v1 v2 v3 v4 = some r) : Qc Tryz.prog 57 [.own 200000 3] [(200000, .var [.clo (.func 58) [] [.loc 200001 0 0], .i .i64 v2, .clo (.func 59) [] [.loc 200001 0 0], .i .i64 v3, .clo (.func 61) [] [.loc 200001 0 0], .i .i64 v4]), (200001, .var (Qd v1))] (Gives (.i .i64 r) [(200000, .var [.clo (.func 58) [] [.loc 200001 0 0], .i .i64 v2, .clo (.func 59) [] [.loc 200001 0 0], .i .i64 v3, .clo (.func 61) [] [.loc 200001 0 0], .i .i64 v4]), (200001, .var (Qd v1))]) := by
 refine Qc.walk 18 Tryz.func57 rfl Tryz.ntmps57 rfl fun C hC => ?_
 unfold Qg2 at h
 refine Qa hC [.n 14] rfl tt_ ?_
 refine AK.loopN 4 (AK.rnd ?_)
 obtain ⟨x7, hx7, h⟩ := Qb h
 refine Qa hC [.n 2, .v .no [] (.b true), .n 10, .o (.any (.loc 200000 0 0) none), .n 3, .sayO 4 (.var [.clo (.func 58) [] [.loc 200001 0 0], .i .i64 v2]), .n 6, .cm (.clo) [(200000, 200001)] [(200001, 200000)] [] [.d] [(200000, .var (Qd v1))] (.b x7), .n 3] rfl ⟨⟨⟨⟨tt_, rfl⟩, (fun σ h1 h2 _ => Stp.idxV rfl rfl (bleN hC.n rfl) (h1 _ _ rfl) (h1 _ _ rfl) (Qo.es rfl) (h2 _ _ rfl) (by decide))⟩, rfl⟩, (Qpt _ hx7)⟩ ?_
 rcases bifE h with ⟨hc8, h⟩ | ⟨hc8, h⟩
 ·refine Qa hC [.br true, .n 13, .keep [2] [200000, 200001]] rfl ⟨tt_, hc8⟩ ?_
  cases h
  exact AK.done (ex_ [_] (an_ (an_ rfl tt_) (gives ⟨rfl, rfl, tt_⟩)))
 ·refine Qa hC [.br false, .n 4, .v .no [] (.i .i64 1), .n 2] rfl ⟨⟨tt_, hc8⟩, rfl⟩ ?_
  refine AK.met (AK.rnd ?_)
  obtain ⟨x9, hx9, h⟩ := Qb h
  refine Qa hC [.n 2, .v .no [] (.b true), .n 10, .o (.any (.loc 200000 0 2) none), .n 1, .kill 4, .n 2, .sayO 4 (.var [.clo (.func 59) [] [.loc 200001 0 0], .i .i64 v3]), .n 6, .cm (.clo) [(200000, 200001)] [(200001, 200000)] [] [.d] [(200000, .var (Qd v1))] (.b x9), .n 3] rfl ⟨⟨⟨⟨tt_, rfl⟩, (fun σ h1 h2 _ => Stp.idxV rfl rfl (bleN hC.n rfl) (h1 _ _ rfl) (h1 _ _ rfl) (Qo.es rfl) (h2 _ _ rfl) (by decide))⟩, rfl⟩, (Qpu _ hx9)⟩ ?_
  rcases bifE h with ⟨hc10, h⟩ | ⟨hc10, h⟩
  ·refine Qa hC [.br true, .n 13, .keep [2] [200000, 200001]] rfl ⟨tt_, hc10⟩ ?_
   cases h
   exact AK.done (ex_ [_] (an_ (an_ rfl tt_) (gives ⟨rfl, rfl, tt_⟩)))
  ·refine Qa hC [.br false, .n 4, .v .no [] (.i .i64 2), .n 2] rfl ⟨⟨tt_, hc10⟩, rfl⟩ ?_
   refine AK.met (AK.rnd ?_)
   obtain ⟨x11, hx11, h⟩ := Qb h
   refine Qa hC [.n 2, .v .no [] (.b true), .n 10, .o (.any (.loc 200000 0 4) none), .n 1, .kill 4, .n 2, .sayO 4 (.var [.clo (.func 61) [] [.loc 200001 0 0], .i .i64 v4]), .n 6, .cm (.clo) [(200000, 200001)] [(200001, 200000)] [] [.d] [(200000, .var (Qd v1))] (.b x11), .n 3] rfl ⟨⟨⟨⟨tt_, rfl⟩, (fun σ h1 h2 _ => Stp.idxV rfl rfl (bleN hC.n rfl) (h1 _ _ rfl) (h1 _ _ rfl) (Qo.es rfl) (h2 _ _ rfl) (by decide))⟩, rfl⟩, (Qpv _ hx11)⟩ ?_
   rcases bifE h with ⟨hc12, h⟩ | ⟨hc12, h⟩
   ·refine Qa hC [.br true, .n 13, .keep [2] [200000, 200001]] rfl ⟨tt_, hc12⟩ ?_
    cases h
    exact AK.done (ex_ [_] (an_ (an_ rfl tt_) (gives ⟨rfl, rfl, tt_⟩)))
   ·refine Qa hC [.br false, .n 4, .v .no [] (.i .i64 3), .n 2] rfl ⟨⟨tt_, hc12⟩, rfl⟩ ?_
    refine AK.met (AK.rnd ?_)
    refine Qa hC [.n 2, .v .no [] (.b false), .n 15, .keep [2] [200000, 200001]] rfl ⟨tt_, rfl⟩ ?_
    cases h
    exact AK.done (ex_ [_] (an_ (an_ rfl tt_) (gives ⟨rfl, rfl, tt_⟩)))
def Qgj (l1 : (List Qy)) : Option Bool :=
 (Qec l1).bind fun x3 =>
 some x3.2
theorem QoR (l1 : (List Qy)) {r : Bool} (h : Qgj l1 = some r) : Qc Tryz.prog 107 [.sl 7 (l1.map Qu)] [] (Gives (.b r) []) := by
 refine Qc.walk 11 Tryz.func107 rfl Tryz.ntmps107 rfl fun C hC => ?_
 unfold Qgj at h
 obtain ⟨x3, hx3, h⟩ := Qb h
 refine Qa hC [.n 8, .o (.c false [.d] (.tup [.sl 1 (x3.1.map Qe), .b x3.2])), .n 14, .keep [2] []] rfl ⟨tt_, (QkT _ hx3)⟩ ?_
 cases h
 exact AK.done (ex_ [_] (an_ (an_ rfl tt_) (gives tt_)))
def QcR (v1 : TNet) (v2 : Int) : Option Bool :=
 (chk (decide (0 ≤ (w64 (v2 + 1))) && decide (0 ≤ (w64 (v2 + 1)).toNat) && decide ((w64 (v2 + 1)).toNat ≤ v1.Colours.length))).bind fun _ =>
 (Qgj ((v1.Colours.drop 0).take ((w64 (v2 + 1)).toNat - 0))).bind fun x5 =>
 some x5
theorem Qmj (v1 : TNet) (v2 : Int) {r : Bool} (h : QcR v1 v2 = some r) : Qc Tryz.prog 106 [.loc 200000 0 0, .loc 200001 0 0] [(200000, .var (Qd v1)), (200001, .var (Qe v2))] (Gives (.b r) [(200000, .var (Qd v1)), (200001, .var (Qe v2))]) := by
 refine Qc.walk 9 Tryz.func106 rfl Tryz.ntmps106 rfl fun C hC => ?_
 unfold QcR at h
 obtain ⟨_, hk4, h⟩ := Qb h
 replace hk4 := chkE hk4
 obtain ⟨x5, hx5, h⟩ := Qb h
 refine Qa hC [.n 11, .o (.any (.sl 7 (((v1.Colours.drop 0).take ((w64 (v2 + 1)).toNat - 0)).map Qu)) none), .o (.c false [.d] (.b x5)), .n 4, .keep [2] [200000, 200001]] rfl ⟨⟨tt_, (fun σ h1 h2 _ => Stp.sliceD rfl rfl (bleN hC.n rfl) (h1 _ _ rfl) (Qo.es rfl) Bnd.no (Bnd.val (h1 _ _ rfl) (of_decide_eq_true (Qlh hk4)) rfl) (of_decide_eq_true (Qli hk4)) (Nat.le_trans (of_decide_eq_true (Qmt hk4)) (Nat.le_of_eq Qg.symm)) Qm5)⟩, (QoR _ hx5)⟩ ?_
 cases h
 exact AK.done (ex_ [_] (an_ (an_ rfl tt_) (gives ⟨rfl, rfl, tt_⟩)))
def Qjb (x : ByteArray) : Option (List ByteArray) := (chk (QrW x)).bind fun _ => some (Qe8 x)
theorem Qnv (x : ByteArray) {r : List ByteArray} (h : Qjb x = some r) : Qc Tryz.prog 238 [.s x] [] (Gives (.own 30000 r.length) [(30000, .arr 1 (r.map Qdb))]) := by
 unfold Qjb at h
 obtain ⟨_, h1, h⟩ := Qb h
 cases h
 exact Qrg Qtv (by kernel_rfl) (by kernel_rfl) x (chkE h1)
def Qfd  : Option (List ByteArray) :=
 (Qjb (⟨#[99, 111, 108, 111, 117, 114, 32, 112, 108, 97, 99, 101, 32, 116, 97, 115, 107, 32, 118, 97, 114, 32, 119, 104, 101, 110, 32, 106, 111, 105, 110, 32, 115, 112, 108, 105, 116, 32, 105, 110, 32, 111, 117, 116, 32, 99, 97, 110, 99, 101, 108, 32, 97, 102, 116, 101, 114, 32, 109, 97, 110, 121, 32, 102, 114, 111, 109, 32, 116, 111, 32, 105, 110, 116, 32, 101, 110, 117, 109, 32, 112, 97, 105, 114, 32, 97, 110, 100, 32, 120, 111, 114, 32, 111, 114, 32, 105, 102]⟩ : ByteArray)).bind fun x2 =>
 some x2
theorem Qpx  {r : (List ByteArray)} (h : Qfd  = some r) : Qc Tryz.prog 206 [] [] (Gives (.own 30000 r.length) [(30000, .arr 1 (r.map Qdb))]) := by
 refine Qc.walk 2 Tryz.func206 rfl Tryz.ntmps206 rfl fun C hC => ?_
 unfold Qfd at h
 obtain ⟨x2, hx2, h⟩ := Qb h
 refine Qa hC [.n 7, .o (.co false [.d] 1 (x2.map Qdb) x2.length), .n 4, .keep [0] [1], .ren 1 30000, .keep [0] [30000]] rfl ⟨tt_, ⟨(Qnv _ hx2), Qg, .inl rfl⟩⟩ ?_
 cases h
 exact AK.done (ex_ [_] (an_ (an_ rfl tt_) (gives ⟨rfl, tt_⟩)))
def Qal (s1 : (List ByteArray)) (v2 : ByteArray) (x5 : Int) : Option (Int ⊕ (Int ⊕ Unit)) :=
 bif (decide (x5 < (s1.length : Int))) then
 (idx s1 x5).bind fun e9 =>
 bif (QgE v2 e9) then
 some (.inr (.inl x5))
 else
 some (.inl (w64 (x5 + 1)))
 else
 some (.inr (.inr ()))
def QaI (x7 : Int) : Option Int :=
 some x7
def QaJ : Option Int :=
 some (-1)
def Qa5 (s1 : (List ByteArray)) (v2 : ByteArray) : Option Int :=
 (QE (fun st => Qal s1 v2 st) 0).bind (Sum.elim (fun q => QaI q) (fun q => QaJ))
theorem Qjl (s1 : (List ByteArray)) (v2 : ByteArray) {r : Int} (h : Qa5 s1 v2 = some r) : Qc Tryz.prog 237 [.sl 1 (s1.map Qdb), .s v2] [] (Gives (.i .i64 r) []) := by
 refine Qc.walk 19 Tryz.func237 rfl Tryz.ntmps237 rfl fun C hC => ?_
 unfold Qa5 at h
 refine Qa hC [.n 9, .o (.ln s1.length), .n 4, .keep [0, 1, 7, 8] []] rfl ⟨tt_, Qg⟩ ?_
 obtain ⟨o11, hl11, h⟩ := Qb h
 refine AK.loop (body := (fun st => Qal s1 v2 st)) (fun st σ => σ = ⟨[(0, .sl 1 (s1.map Qdb)), (1, .s v2), (7, .i .i64 (s1.length : Int)), (8, .i .i64 st)], []⟩) (Sum.elim (fun q e σ => e = .ret ∧ σ = ⟨[(4, .i .i64 q)], []⟩) (fun q e σ => e = .exit 0 ∧ σ = ⟨[], []⟩)) hl11 rfl ?_ ?_
 ·rintro x5 o σ rfl h
  replace h : Qal s1 v2 x5 = some o := h
  unfold Qal at h
  refine Qa hC [.n 6] rfl tt_ ?_
  rcases bifE h with ⟨hc8, h⟩ | ⟨hc8, h⟩
  ·obtain ⟨e9, he9, h⟩ := Qb h
   refine Qa hC [.br true, .n 15, .o (.row (Qdb e9)), .n 4] rfl ⟨⟨tt_, hc8⟩, (idxM he9)⟩ ?_
   rcases bifE h with ⟨hc10, h⟩ | ⟨hc10, h⟩
   ·refine Qa hC [.br true, .n 9, .keep [4] []] rfl ⟨tt_, hc10⟩ ?_
    cases h
    exact rndR rfl (an_ rfl rfl)
   ·refine Qa hC [.br false, .n 7, .keep [0, 1, 7, 8] []] rfl ⟨tt_, hc10⟩ ?_
    cases h
    exact rndN rfl rfl
  ·refine Qa hC [.br false, .n 2, .keep [] []] rfl ⟨tt_, hc8⟩ ?_
   cases h
   exact rndX rfl (an_ rfl rfl)
 ·rcases o11 with (x7 | _)
  ·replace h : QaI x7 = some r := h
   unfold QaI at h
   rintro e σ ⟨rfl, rfl⟩
   refine Qa hC [.n 2, .keep [4] []] rfl tt_ ?_
   cases h
   exact AK.done (ex_ [_] (an_ (an_ rfl tt_) (gives tt_)))
  ·replace h : QaJ = some r := h
   unfold QaJ at h
   rintro e σ ⟨rfl, rfl⟩
   refine Qa hC [.n 8, .keep [4] []] rfl tt_ ?_
   cases h
   exact AK.done (ex_ [_] (an_ (an_ rfl tt_) (gives tt_)))
def QaK (s1 : (List ByteArray)) (v2 : ByteArray) : Option Bool :=
 (Qa5 s1 v2).bind fun x4 =>
 some (decide (0 ≤ x4))
theorem Qis (s1 : (List ByteArray)) (v2 : ByteArray) {r : Bool} (h : QaK s1 v2 = some r) : Qc Tryz.prog 205 [.sl 1 (s1.map Qdb), .s v2] [] (Gives (.b r) []) := by
 refine Qc.walk 9 Tryz.func205 rfl Tryz.ntmps205 rfl fun C hC => ?_
 unfold QaK at h
 obtain ⟨x4, hx4, h⟩ := Qb h
 refine Qa hC [.n 9, .o (.c false [.d, .d] (.i .i64 x4)), .n 5, .keep [4] []] rfl ⟨tt_, (Qjl _ _ hx4)⟩ ?_
 cases h
 exact AK.done (ex_ [_] (an_ (an_ rfl tt_) (gives tt_)))
def Qh0 (s1 : ByteArray) : Option Bool :=
 (Qfd).bind fun x3 =>
 (QaK x3 s1).bind fun x4 =>
 some x4
theorem Qqe (s1 : ByteArray) {r : Bool} (h : Qh0 s1 = some r) : Qc Tryz.prog 165 [.s s1] [] (Gives (.b r) []) := by
 refine Qc.walk 6 Tryz.func165 rfl Tryz.ntmps165 rfl fun C hC => ?_
 unfold Qh0 at h
 obtain ⟨x3, hx3, h⟩ := Qb h
 obtain ⟨x4, hx4, h⟩ := Qb h
 refine Qa hC [.n 7, .o (.co false [] 1 (x3.map Qdb) x3.length), .n 1, .o (.c true [.o (x3.map Qdb), .d] (.b x4)), .n 4, .keep [2] []] rfl ⟨⟨tt_, ⟨(Qpx  hx3), Qg, .inl rfl⟩⟩, ⟨(QqE rfl), (Qis _ _ hx4)⟩⟩ ?_
 cases h
 exact AK.done (ex_ [_] (an_ (an_ rfl tt_) (gives tt_)))
def QjU (s1 : ByteArray) : Option Bool :=
 (QdK s1).bind fun x5 =>
 bif x5 then
 (Qh0 s1).bind fun x7 =>
 some (!x7)
 else
 some false
def Qfs (x3 : Bool) : Option Bool :=
 some x3
def QcE (s1 : ByteArray) : Option Bool :=
 (QjU s1).bind (fun x3 => Qfs x3)
theorem Qft (s1 : ByteArray) {r : Bool} (h : QcE s1 = some r) : Qc Tryz.prog 103 [.s s1] [] (Gives (.b r) []) := by
 refine Qc.walk 10 Tryz.func103 rfl Tryz.ntmps103 rfl fun C hC => ?_
 unfold QcE at h
 refine Qa hC [.n 6] rfl tt_ ?_
 obtain ⟨x3, hv4, h⟩ := Qb h
 replace h : Qfs x3 = some r := h
 refine AK.meetX (fun σ => σ = ⟨[(2, .b x3)], []⟩) ?_ ?_
 ·replace h := hv4
  unfold QjU at h
  obtain ⟨x5, hx5, h⟩ := Qb h
  refine Qa hC [.n 2, .o (.c false [.d] (.b x5)), .n 1] rfl ⟨tt_, (Qi1 _ hx5)⟩ ?_
  rcases bifE h with ⟨hc6, h⟩ | ⟨hc6, h⟩
  ·obtain ⟨x7, hx7, h⟩ := Qb h
   refine Qa hC [.say 5 (.b true), .n 1, .o (.c false [.d] (.b x7)), .n 4, .keep [2] []] rfl ⟨⟨tt_, (congrArg V.b hc6)⟩, (Qqe _ hx7)⟩ ?_
   cases h
   exact AK.met rfl
  ·refine Qa hC [.say 5 (.b false), .n 6, .keep [2] []] rfl ⟨tt_, (congrArg V.b hc6)⟩ ?_
   cases h
   exact AK.met rfl
 ·rintro σ rfl
  replace h : Qfs x3 = some r := h
  unfold Qfs at h
  refine Qa hC [.n 2, .keep [2] []] rfl tt_ ?_
  cases h
  exact AK.done (ex_ [_] (an_ (an_ rfl tt_) (gives tt_)))
def Qcn (s1 : ByteArray) : Option Bool :=
 (QcE s1).bind fun x3 =>
 some (!x3)
theorem Qlz (s1 : ByteArray) {r : Bool} (h : Qcn s1 = some r) : Qc Tryz.prog 105 [.s s1] [] (Gives (.b r) []) := by
 refine Qc.walk 6 Tryz.func105 rfl Tryz.ntmps105 rfl fun C hC => ?_
 unfold Qcn at h
 obtain ⟨x3, hx3, h⟩ := Qb h
 refine Qa hC [.n 8, .o (.c false [.d] (.b x3)), .n 5, .keep [2] []] rfl ⟨tt_, (Qft _ hx3)⟩ ?_
 cases h
 exact AK.done (ex_ [_] (an_ (an_ rfl tt_) (gives tt_)))
def Q1 (s1 : (List ByteArray)) (x4 : Int) : Option (Int ⊕ (Int ⊕ Unit)) :=
 bif (decide (x4 < (s1.length : Int))) then
 (idx s1 x4).bind fun e8 =>
 (Qcn e8).bind fun x9 =>
 bif x9 then
 some (.inr (.inl x4))
 else
 some (.inl (w64 (x4 + 1)))
 else
 some (.inr (.inr ()))
def Qar (x6 : Int) : Option Int :=
 some x6
def Qas : Option Int :=
 some (-1)
def QaD (s1 : (List ByteArray)) : Option Int :=
 (QE (fun st => Q1 s1 st) 0).bind (Sum.elim (fun q => Qar q) (fun q => Qas))
theorem Qig (s1 : (List ByteArray)) {r : Int} (h : QaD s1 = some r) : Qc Tryz.prog 166 [.sl 1 (s1.map Qdb), .clo (.func 105) [] []] [] (Gives (.i .i64 r) []) := by
 refine Qc.walk 19 Tryz.func166 rfl Tryz.ntmps166 rfl fun C hC => ?_
 unfold QaD at h
 refine Qa hC [.n 9, .o (.ln s1.length), .n 4, .keep [0, 1, 7, 8] []] rfl ⟨tt_, Qg⟩ ?_
 obtain ⟨o11, hl11, h⟩ := Qb h
 refine AK.loop (body := (fun st => Q1 s1 st)) (fun st σ => σ = ⟨[(0, .sl 1 (s1.map Qdb)), (1, .clo (.func 105) [] []), (7, .i .i64 (s1.length : Int)), (8, .i .i64 st)], []⟩) (Sum.elim (fun q e σ => e = .ret ∧ σ = ⟨[(4, .i .i64 q)], []⟩) (fun q e σ => e = .exit 0 ∧ σ = ⟨[], []⟩)) hl11 rfl ?_ ?_
 ·rintro x4 o σ rfl h
  replace h : Q1 s1 x4 = some o := h
  unfold Q1 at h
  refine Qa hC [.n 6] rfl tt_ ?_
  rcases bifE h with ⟨hc7, h⟩ | ⟨hc7, h⟩
  ·obtain ⟨e8, he8, h⟩ := Qb h
   obtain ⟨x9, hx9, h⟩ := Qb h
   refine Qa hC [.br true, .n 15, .o (.row (Qdb e8)), .n 1, .o (.c false [.d] (.b x9)), .n 2] rfl ⟨⟨⟨tt_, hc7⟩, (idxM he8)⟩, (Qlz _ hx9)⟩ ?_
   rcases bifE h with ⟨hc10, h⟩ | ⟨hc10, h⟩
   ·refine Qa hC [.br true, .n 9, .keep [4] []] rfl ⟨tt_, hc10⟩ ?_
    cases h
    exact rndR rfl (an_ rfl rfl)
   ·refine Qa hC [.br false, .n 7, .keep [0, 1, 7, 8] []] rfl ⟨tt_, hc10⟩ ?_
    cases h
    exact rndN rfl rfl
  ·refine Qa hC [.br false, .n 2, .keep [] []] rfl ⟨tt_, hc7⟩ ?_
   cases h
   exact rndX rfl (an_ rfl rfl)
 ·rcases o11 with (x6 | _)
  ·replace h : Qar x6 = some r := h
   unfold Qar at h
   rintro e σ ⟨rfl, rfl⟩
   refine Qa hC [.n 2, .keep [4] []] rfl tt_ ?_
   cases h
   exact AK.done (ex_ [_] (an_ (an_ rfl tt_) (gives tt_)))
  ·replace h : Qas = some r := h
   unfold Qas at h
   rintro e σ ⟨rfl, rfl⟩
   refine Qa hC [.n 8, .keep [4] []] rfl tt_ ?_
   cases h
   exact AK.done (ex_ [_] (an_ (an_ rfl tt_) (gives tt_)))
def Qat (s1 : (List ByteArray)) : Option Bool :=
 (QaD s1).bind fun x3 =>
 some (decide (0 ≤ x3))
theorem Qhp (s1 : (List ByteArray)) {r : Bool} (h : Qat s1 = some r) : Qc Tryz.prog 104 [.sl 1 (s1.map Qdb), .clo (.func 105) [] []] [] (Gives (.b r) []) := by
 refine Qc.walk 9 Tryz.func104 rfl Tryz.ntmps104 rfl fun C hC => ?_
 unfold Qat at h
 obtain ⟨x3, hx3, h⟩ := Qb h
 refine Qa hC [.n 9, .cm (.fn) [] [] [] [.d, .d] [] (.i .i64 x3), .n 5, .keep [4] []] rfl ⟨tt_, (Qig _ hx3)⟩ ?_
 cases h
 exact AK.done (ex_ [_] (an_ (an_ rfl tt_) (gives tt_)))
def QfR (v1 : Qy) : Option Bool :=
 (QcE v1.Name).bind fun x5 =>
 bif x5 then
 bif (v1.Kind != 2) then
 some true
 else
 (Qat v1.Names).bind fun x8 =>
 some (!x8)
 else
 some false
def Qb6 (x3 : Bool) : Option Bool :=
 some x3
def QcS (v1 : Qy) : Option Bool :=
 (QfR v1).bind (fun x3 => Qb6 x3)
theorem Qmk (v1 : Qy) {r : Bool} (h : QcS v1 = some r) : Qc Tryz.prog 102 [.loc 200000 0 0] [(200000, .var (Qu v1))] (Gives (.b r) [(200000, .var (Qu v1))]) := by
 refine Qc.walk 16 Tryz.func102 rfl Tryz.ntmps102 rfl fun C hC => ?_
 unfold QcS at h
 refine Qa hC [.n 6] rfl tt_ ?_
 obtain ⟨x3, hv4, h⟩ := Qb h
 replace h : Qb6 x3 = some r := h
 refine AK.meetX (fun σ => σ = ⟨[(1, .b x3)], [(200000, .var (Qu v1))]⟩) ?_ ?_
 ·replace h := hv4
  unfold QfR at h
  obtain ⟨x5, hx5, h⟩ := Qb h
  refine Qa hC [.n 3, .o (.c false [.d] (.b x5)), .n 1] rfl ⟨tt_, (Qft _ hx5)⟩ ?_
  rcases bifE h with ⟨hc6, h⟩ | ⟨hc6, h⟩
  ·refine Qa hC [.say 5 (.b true), .n 4] rfl ⟨tt_, (congrArg V.b hc6)⟩ ?_
   rcases bifE h with ⟨hc7, h⟩ | ⟨hc7, h⟩
   ·refine Qa hC [.say 9 (.b true), .n 8, .keep [1] [200000]] rfl ⟨tt_, (congrArg V.b hc7)⟩ ?_
    cases h
    exact AK.met rfl
   ·obtain ⟨x8, hx8, h⟩ := Qb h
    refine Qa hC [.say 9 (.b false), .n 2, .cm (.fn) [] [] [] [.d, .d] [] (.b x8), .n 5, .keep [1] [200000]] rfl ⟨⟨tt_, (congrArg V.b hc7)⟩, (Qhp _ hx8)⟩ ?_
    cases h
    exact AK.met rfl
  ·refine Qa hC [.say 5 (.b false), .n 12, .keep [1] [200000]] rfl ⟨tt_, (congrArg V.b hc6)⟩ ?_
   cases h
   exact AK.met rfl
 ·rintro σ rfl
  replace h : Qb6 x3 = some r := h
  unfold Qb6 at h
  refine Qa hC [.n 2, .keep [1] [200000]] rfl tt_ ?_
  cases h
  exact AK.done (ex_ [_] (an_ (an_ rfl tt_) (gives ⟨rfl, tt_⟩)))
def QeH (v1 : TNet) (v2 : Int) (v3 : Int) (v4 : Qy) (v5 : Int) : Option Int :=
 (QcR v1 v2).bind fun x8 =>
 bif (!x8) then
 some v3
 else
 (QcS v4).bind fun x10 =>
 bif (!x10) then
 some v5
 else
 some 0
theorem Qnw (v1 : TNet) (v2 : Int) (v3 : Int) (v4 : Qy) (v5 : Int) {r : Int} (h : QeH v1 v2 v3 v4 v5 = some r) : Qc Tryz.prog 57 [.own 200000 2] [(200000, .var [.clo (.func 106) [] [.loc 200001 0 0, .loc 200002 0 0], .i .i64 v3, .clo (.func 102) [] [.loc 200003 0 0], .i .i64 v5]), (200001, .var (Qd v1)), (200002, .var (Qe v2)), (200003, .var (Qu v4))] (Gives (.i .i64 r) [(200000, .var [.clo (.func 106) [] [.loc 200001 0 0, .loc 200002 0 0], .i .i64 v3, .clo (.func 102) [] [.loc 200003 0 0], .i .i64 v5]), (200001, .var (Qd v1)), (200002, .var (Qe v2)), (200003, .var (Qu v4))]) := by
 refine Qc.walk 18 Tryz.func57 rfl Tryz.ntmps57 rfl fun C hC => ?_
 unfold QeH at h
 refine Qa hC [.n 14] rfl tt_ ?_
 refine AK.loopN 3 (AK.rnd ?_)
 obtain ⟨x8, hx8, h⟩ := Qb h
 refine Qa hC [.n 2, .v .no [] (.b true), .n 10, .o (.any (.loc 200000 0 0) none), .n 3, .sayO 4 (.var [.clo (.func 106) [] [.loc 200001 0 0, .loc 200002 0 0], .i .i64 v3]), .n 6, .cm (.clo) [(200000, 200001), (200001, 200002)] [(200001, 200000), (200002, 200001)] [] [.d, .d] [(200000, .var (Qd v1)), (200001, .var (Qe v2))] (.b x8), .n 3] rfl ⟨⟨⟨⟨tt_, rfl⟩, (fun σ h1 h2 _ => Stp.idxV rfl rfl (bleN hC.n rfl) (h1 _ _ rfl) (h1 _ _ rfl) (Qo.es rfl) (h2 _ _ rfl) (by decide))⟩, rfl⟩, (Qmj _ _ hx8)⟩ ?_
 rcases bifE h with ⟨hc9, h⟩ | ⟨hc9, h⟩
 ·refine Qa hC [.br true, .n 13, .keep [2] [200000, 200001, 200002, 200003]] rfl ⟨tt_, hc9⟩ ?_
  cases h
  exact AK.done (ex_ [_] (an_ (an_ rfl tt_) (gives ⟨rfl, rfl, rfl, rfl, tt_⟩)))
 ·refine Qa hC [.br false, .n 4, .v .no [] (.i .i64 1), .n 2] rfl ⟨⟨tt_, hc9⟩, rfl⟩ ?_
  refine AK.met (AK.rnd ?_)
  obtain ⟨x10, hx10, h⟩ := Qb h
  refine Qa hC [.n 2, .v .no [] (.b true), .n 10, .o (.any (.loc 200000 0 2) none), .n 1, .kill 4, .n 2, .sayO 4 (.var [.clo (.func 102) [] [.loc 200003 0 0], .i .i64 v5]), .n 6, .cm (.clo) [(200000, 200003)] [(200003, 200000)] [] [.d] [(200000, .var (Qu v4))] (.b x10), .n 3] rfl ⟨⟨⟨⟨tt_, rfl⟩, (fun σ h1 h2 _ => Stp.idxV rfl rfl (bleN hC.n rfl) (h1 _ _ rfl) (h1 _ _ rfl) (Qo.es rfl) (h2 _ _ rfl) (by decide))⟩, rfl⟩, (Qmk _ hx10)⟩ ?_
  rcases bifE h with ⟨hc11, h⟩ | ⟨hc11, h⟩
  ·refine Qa hC [.br true, .n 13, .keep [2] [200000, 200001, 200002, 200003]] rfl ⟨tt_, hc11⟩ ?_
   cases h
   exact AK.done (ex_ [_] (an_ (an_ rfl tt_) (gives ⟨rfl, rfl, rfl, rfl, tt_⟩)))
  ·refine Qa hC [.br false, .n 4, .v .no [] (.i .i64 2), .n 2] rfl ⟨⟨tt_, hc11⟩, rfl⟩ ?_
   refine AK.met (AK.rnd ?_)
   refine Qa hC [.n 2, .v .no [] (.b false), .n 15, .keep [2] [200000, 200001, 200002, 200003]] rfl ⟨tt_, rfl⟩ ?_
   cases h
   exact AK.done (ex_ [_] (an_ (an_ rfl tt_) (gives ⟨rfl, rfl, rfl, rfl, tt_⟩)))
def QdX (k1 : Int) (c2 : Qy) (v3 : TNet) : Option Int :=
 (QeH v3 k1 8 c2 8).bind fun x5 =>
 some x5
theorem Qnd (k1 : Int) (c2 : Qy) (v3 : TNet) {r : Int} (h : QdX k1 c2 v3 = some r) : Qc Tryz.prog 101 [.i .i64 k1, .agg (Qu c2), .loc 200000 0 0] [(200000, .var (Qd v3))] (Gives (.i .i64 r) [(200000, .var (Qd v3))]) := by
 refine Qc.walk 16 Tryz.func101 rfl Tryz.ntmps101 rfl fun C hC => ?_
 unfold QdX at h
 obtain ⟨x5, hx5, h⟩ := Qb h
 refine Qa hC [.n 22, .v .no [] (.agg [.clo (.func 106) [] [.loc 200000 0 0, .loc 3 0 0], .i .i64 8]), .n 1, .v .no [] (.agg [.clo (.func 102) [] [.loc 4 0 0], .i .i64 8]), .o (.any (.own 14 2) (some (.var [.clo (.func 106) [] [.loc 200000 0 0, .loc 3 0 0], .i .i64 8, .clo (.func 102) [] [.loc 4 0 0], .i .i64 8]))), .cm (.fn) [(200000, 14), (200001, 200000), (200002, 3), (200003, 4)] [(14, 200000), (200000, 200001), (3, 200002), (4, 200003)] [] [.d] [(200000, .var [.clo (.func 106) [] [.loc 200001 0 0, .loc 200002 0 0], .i .i64 8, .clo (.func 102) [] [.loc 200003 0 0], .i .i64 8]), (200001, .var (Qd v3)), (200002, .var (Qe k1)), (200003, .var (Qu c2))] (.i .i64 x5), .n 4, .keep [5] [200000]] rfl ⟨⟨⟨⟨tt_, rfl⟩, rfl⟩, (fun σ h1 h2 hf => Stp.buildAny rfl rfl (bleN hC.n rfl) (Qo.es rfl) Qkv rfl (by decide) (by decide) (Qer h1 rfl) rfl rfl (hf rfl))⟩, (Qnw _ _ _ _ _ hx5)⟩ ?_
 cases h
 exact AK.done (ex_ [_] (an_ (an_ rfl tt_) (gives ⟨rfl, tt_⟩)))
def QaL (l1 : (List Qy)) (v2 : TNet) (x7 : Int) : Option (Int ⊕ ((Int × Int) ⊕ Unit)) :=
 bif (decide (x7 < (l1.length : Int))) then
 (idx l1 x7).bind fun e12 =>
 (QdX x7 e12 v2).bind fun x13 =>
 bif (x13 != 0) then
 some (.inr (.inl (x7, x13)))
 else
 some (.inl (w64 (x7 + 1)))
 else
 some (.inr (.inr ()))
def Qbi (x9 : Int) (x10 : Int) : Option (Int × Int) :=
 some (x9, x10)
def Qbj : Option (Int × Int) :=
 some (0, 0)
def QbL (l1 : (List Qy)) (v2 : TNet) : Option (Int × Int) :=
 (QE (fun st => QaL l1 v2 st) 0).bind (Sum.elim (fun q => Qbi q.1 q.2) (fun q => Qbj))
theorem QkR (l1 : (List Qy)) (v2 : TNet) {r : (Int × Int)} (h : QbL l1 v2 = some r) : Qc Tryz.prog 100 [.sl 7 (l1.map Qu), .clo (.func 101) [] [.loc 200000 0 0]] [(200000, .var (Qd v2))] (Gives (.tup [.i .i64 r.1, .i .i64 r.2]) [(200000, .var (Qd v2))]) := by
 refine Qc.walk 25 Tryz.func100 rfl Tryz.ntmps100 rfl fun C hC => ?_
 unfold QbL at h
 refine Qa hC [.n 10, .o (.ln l1.length), .n 4, .keep [1, 9, 10, 11] [200000]] rfl ⟨tt_, Qg⟩ ?_
 obtain ⟨o15, hl15, h⟩ := Qb h
 refine AK.loop (body := (fun st => QaL l1 v2 st)) (fun st σ => σ = ⟨[(1, .clo (.func 101) [] [.loc 200000 0 0]), (9, .sl 7 (l1.map Qu)), (10, .i .i64 (l1.length : Int)), (11, .i .i64 st)], [(200000, .var (Qd v2))]⟩) (Sum.elim (fun q e σ => e = .ret ∧ σ = ⟨[(4, .i .i64 q.1), (5, .i .i64 q.2)], [(200000, .var (Qd v2))]⟩) (fun q e σ => e = .exit 0 ∧ σ = ⟨[], [(200000, .var (Qd v2))]⟩)) hl15 rfl ?_ ?_
 ·rintro x7 o σ rfl h
  replace h : QaL l1 v2 x7 = some o := h
  unfold QaL at h
  refine Qa hC [.n 6] rfl tt_ ?_
  rcases bifE h with ⟨hc11, h⟩ | ⟨hc11, h⟩
  ·obtain ⟨e12, he12, h⟩ := Qb h
   obtain ⟨x13, hx13, h⟩ := Qb h
   refine Qa hC [.br true, .n 7, .o (.row (Qu e12)), .v .no [] (.agg (Qu e12)), .n 3, .sayO 7 (.var (Qu e12)), .n 6, .v .no [] (.agg (Qu e12)), .cm (.clo) [(200000, 200000)] [(200000, 200000)] [] [.d, .d, .d] [(200000, .var (Qd v2))] (.i .i64 x13), .n 9] rfl ⟨⟨⟨⟨⟨⟨tt_, hc11⟩, (idxM he12)⟩, rfl⟩, rfl⟩, rfl⟩, (Qnd _ _ _ hx13)⟩ ?_
   rcases bifE h with ⟨hc14, h⟩ | ⟨hc14, h⟩
   ·refine Qa hC [.br true, .n 11, .keep [4, 5] [200000]] rfl ⟨tt_, hc14⟩ ?_
    cases h
    exact rndR rfl (an_ rfl rfl)
   ·refine Qa hC [.br false, .n 7, .keep [1, 9, 10, 11] [200000]] rfl ⟨tt_, hc14⟩ ?_
    cases h
    exact rndN rfl rfl
  ·refine Qa hC [.br false, .n 2, .keep [] [200000]] rfl ⟨tt_, hc11⟩ ?_
   cases h
   exact rndX rfl (an_ rfl rfl)
 ·rcases o15 with (⟨x9, x10⟩ | _)
  ·replace h : Qbi x9 x10 = some r := h
   unfold Qbi at h
   rintro e σ ⟨rfl, rfl⟩
   refine Qa hC [.n 2, .keep [4, 5] [200000]] rfl tt_ ?_
   cases h
   exact AK.done (ex_ [_, _] (an_ (an_ rfl (an_ rfl tt_)) (gives ⟨rfl, tt_⟩)))
  ·replace h : Qbj = some r := h
   unfold Qbj at h
   rintro e σ ⟨rfl, rfl⟩
   refine Qa hC [.n 9, .keep [4, 5] [200000]] rfl tt_ ?_
   cases h
   exact AK.done (ex_ [_, _] (an_ (an_ rfl (an_ rfl tt_)) (gives ⟨rfl, tt_⟩)))
def QdF (n1 : TNet) : Option (Int × Int) :=
 (QbL n1.Colours n1).bind fun x4 =>
 some (x4.1, x4.2)
theorem Qky (n1 : TNet) {r : (Int × Int)} (h : QdF n1 = some r) : Qc Tryz.prog 62 [.agg (Qd n1)] [] (Gives (.tup [.i .i64 r.1, .i .i64 r.2]) []) := by
 refine Qc.walk 10 Tryz.func62 rfl Tryz.ntmps62 rfl fun C hC => ?_
 unfold QdF at h
 obtain ⟨x4, hx4, h⟩ := Qb h
 refine Qa hC [.n 12, .cm (.fn) [(200000, 1)] [(1, 200000)] [] [.d, .d] [(200000, .var (Qd n1))] (.tup [.i .i64 x4.1, .i .i64 x4.2]), .n 7, .keep [2, 3] []] rfl ⟨tt_, (QkR _ _ hx4)⟩ ?_
 cases h
 exact AK.done (ex_ [_, _] (an_ (an_ rfl (an_ rfl tt_)) (gives tt_)))
def Qfu (v1 : Qz) : Option Bool :=
 (QcE v1.Name).bind fun x3 =>
 some x3
theorem Qn8 (v1 : Qz) {r : Bool} (h : Qfu v1 = some r) : Qc Tryz.prog 109 [.loc 200000 0 0] [(200000, .var (Qs v1))] (Gives (.b r) [(200000, .var (Qs v1))]) := by
 refine Qc.walk 5 Tryz.func109 rfl Tryz.ntmps109 rfl fun C hC => ?_
 unfold Qfu at h
 obtain ⟨x3, hx3, h⟩ := Qb h
 refine Qa hC [.n 9, .o (.c false [.d] (.b x3)), .n 4, .keep [1] [200000]] rfl ⟨tt_, (Qft _ hx3)⟩ ?_
 cases h
 exact AK.done (ex_ [_] (an_ (an_ rfl tt_) (gives ⟨rfl, tt_⟩)))
def Qfv (p1 : Qz) (v2 : Qz) : Option Bool :=
 some (QgE p1.Name v2.Name)
theorem Qn9 (p1 : Qz) (v2 : Qz) {r : Bool} (h : Qfv p1 v2 = some r) : Qc Tryz.prog 108 [.agg (Qs p1), .loc 200000 0 0] [(200000, .var (Qs v2))] (Gives (.b r) [(200000, .var (Qs v2))]) := by
 refine Qc.walk 9 Tryz.func108 rfl Tryz.ntmps108 rfl fun C hC => ?_
 unfold Qfv at h
 refine Qa hC [.n 17, .keep [3] [200000]] rfl tt_ ?_
 cases h
 exact AK.done (ex_ [_] (an_ (an_ rfl tt_) (gives ⟨rfl, tt_⟩)))
def QP (s1 : (List Qz)) (v2 : Qz) (x5 : Int) : Option (Int ⊕ (Int ⊕ Unit)) :=
 bif (decide (x5 < (s1.length : Int))) then
 (idx s1 x5).bind fun e9 =>
 (Qfv e9 v2).bind fun x10 =>
 bif x10 then
 some (.inr (.inl x5))
 else
 some (.inl (w64 (x5 + 1)))
 else
 some (.inr (.inr ()))
def QY (x7 : Int) : Option Int :=
 some x7
def QZ : Option Int :=
 some (-1)
def Qad (s1 : (List Qz)) (v2 : Qz) : Option Int :=
 (QE (fun st => QP s1 v2 st) 0).bind (Sum.elim (fun q => QY q) (fun q => QZ))
theorem Qgx (s1 : (List Qz)) (v2 : Qz) {r : Int} (h : Qad s1 v2 = some r) : Qc Tryz.prog 167 [.sl 3 (s1.map Qs), .clo (.func 108) [] [.loc 200000 0 0]] [(200000, .var (Qs v2))] (Gives (.i .i64 r) [(200000, .var (Qs v2))]) := by
 refine Qc.walk 19 Tryz.func167 rfl Tryz.ntmps167 rfl fun C hC => ?_
 unfold Qad at h
 refine Qa hC [.n 9, .o (.ln s1.length), .n 4, .keep [0, 1, 7, 8] [200000]] rfl ⟨tt_, Qg⟩ ?_
 obtain ⟨o12, hl12, h⟩ := Qb h
 refine AK.loop (body := (fun st => QP s1 v2 st)) (fun st σ => σ = ⟨[(0, .sl 3 (s1.map Qs)), (1, .clo (.func 108) [] [.loc 200000 0 0]), (7, .i .i64 (s1.length : Int)), (8, .i .i64 st)], [(200000, .var (Qs v2))]⟩) (Sum.elim (fun q e σ => e = .ret ∧ σ = ⟨[(4, .i .i64 q)], [(200000, .var (Qs v2))]⟩) (fun q e σ => e = .exit 0 ∧ σ = ⟨[], [(200000, .var (Qs v2))]⟩)) hl12 rfl ?_ ?_
 ·rintro x5 o σ rfl h
  replace h : QP s1 v2 x5 = some o := h
  unfold QP at h
  refine Qa hC [.n 6] rfl tt_ ?_
  rcases bifE h with ⟨hc8, h⟩ | ⟨hc8, h⟩
  ·obtain ⟨e9, he9, h⟩ := Qb h
   obtain ⟨x10, hx10, h⟩ := Qb h
   refine Qa hC [.br true, .n 15, .o (.row (Qs e9)), .v .no [] (.agg (Qs e9)), .cm (.clo) [(200000, 200000)] [(200000, 200000)] [] [.d, .d] [(200000, .var (Qs v2))] (.b x10), .n 2] rfl ⟨⟨⟨⟨tt_, hc8⟩, (idxM he9)⟩, rfl⟩, (Qn9 _ _ hx10)⟩ ?_
   rcases bifE h with ⟨hc11, h⟩ | ⟨hc11, h⟩
   ·refine Qa hC [.br true, .n 9, .keep [4] [200000]] rfl ⟨tt_, hc11⟩ ?_
    cases h
    exact rndR rfl (an_ rfl rfl)
   ·refine Qa hC [.br false, .n 7, .keep [0, 1, 7, 8] [200000]] rfl ⟨tt_, hc11⟩ ?_
    cases h
    exact rndN rfl rfl
  ·refine Qa hC [.br false, .n 2, .keep [] [200000]] rfl ⟨tt_, hc8⟩ ?_
   cases h
   exact rndX rfl (an_ rfl rfl)
 ·rcases o12 with (x7 | _)
  ·replace h : QY x7 = some r := h
   unfold QY at h
   rintro e σ ⟨rfl, rfl⟩
   refine Qa hC [.n 2, .keep [4] [200000]] rfl tt_ ?_
   cases h
   exact AK.done (ex_ [_] (an_ (an_ rfl tt_) (gives ⟨rfl, tt_⟩)))
  ·replace h : QZ = some r := h
   unfold QZ at h
   rintro e σ ⟨rfl, rfl⟩
   refine Qa hC [.n 8, .keep [4] [200000]] rfl tt_ ?_
   cases h
   exact AK.done (ex_ [_] (an_ (an_ rfl tt_) (gives ⟨rfl, tt_⟩)))
def Q0 (s1 : (List Qz)) (v2 : Qz) : Option Bool :=
 (Qad s1 v2).bind fun x4 =>
 some (decide (0 ≤ x4))
theorem QfS (s1 : (List Qz)) (v2 : Qz) {r : Bool} (h : Q0 s1 v2 = some r) : Qc Tryz.prog 111 [.sl 3 (s1.map Qs), .clo (.func 108) [] [.loc 200000 0 0]] [(200000, .var (Qs v2))] (Gives (.b r) [(200000, .var (Qs v2))]) := by
 refine Qc.walk 9 Tryz.func111 rfl Tryz.ntmps111 rfl fun C hC => ?_
 unfold Q0 at h
 obtain ⟨x4, hx4, h⟩ := Qb h
 refine Qa hC [.n 9, .cm (.fn) [(200000, 200000)] [(200000, 200000)] [] [.d, .d] [(200000, .var (Qs v2))] (.i .i64 x4), .n 5, .keep [4] [200000]] rfl ⟨tt_, (Qgx _ _ hx4)⟩ ?_
 cases h
 exact AK.done (ex_ [_] (an_ (an_ rfl tt_) (gives ⟨rfl, tt_⟩)))
def Qfw (v1 : TNet) (v2 : Int) (v3 : Qz) : Option Bool :=
 (chk (decide (0 ≤ v2) && decide (0 ≤ v2.toNat) && decide (v2.toNat ≤ v1.Places.length))).bind fun _ =>
 (Q0 ((v1.Places.drop 0).take (v2.toNat - 0)) v3).bind fun x6 =>
 some (!x6)
theorem Qoa (v1 : TNet) (v2 : Int) (v3 : Qz) {r : Bool} (h : Qfw v1 v2 v3 = some r) : Qc Tryz.prog 110 [.loc 200000 0 0, .loc 200001 0 0, .loc 200002 0 0] [(200000, .var (Qd v1)), (200001, .var (Qe v2)), (200002, .var [.clo (.func 108) [] [.loc 200003 0 0]]), (200003, .var (Qs v3))] (Gives (.b r) [(200000, .var (Qd v1)), (200001, .var (Qe v2)), (200002, .var [.clo (.func 108) [] [.loc 200003 0 0]]), (200003, .var (Qs v3))]) := by
 refine Qc.walk 11 Tryz.func110 rfl Tryz.ntmps110 rfl fun C hC => ?_
 unfold Qfw at h
 obtain ⟨_, hk5, h⟩ := Qb h
 replace hk5 := chkE hk5
 obtain ⟨x6, hx6, h⟩ := Qb h
 refine Qa hC [.n 6, .keep [0, 1, 2, 3] [200000, 200001, 200002, 200003]] rfl tt_ ?_
 refine AK.draw2 Qo hC mixed [.a .no none false, .a .no none false, .a .no none false, .a (.any (.sl 3 (((v1.Places.drop 0).take (v2.toNat - 0)).map Qs)) none) none false, .a .no none false, .a (.any (.b x6) none) none false, .a .no none false, .m .s] [] [] [3] [200000, 200001, 200002, 200003] rfl rfl rfl ⟨⟨tt_, (fun σ h1 h2 _ => Stp.sliceD rfl rfl (bleN hC.n rfl) (h1 _ _ rfl) (Qo.es rfl) Bnd.no (Bnd.val (h1 _ _ rfl) (of_decide_eq_true (Qlh hk5)) rfl) (of_decide_eq_true (Qli hk5)) (Nat.le_trans (of_decide_eq_true (Qmt hk5)) (Nat.le_of_eq Qg.symm)) Qm5)⟩, (fun σ h1 h2 _ => Stp.callSame (md := .cm (.fn) [(200000, 200003)] [(200003, 200000)] [] [.d, .d] [(200000, .var (Qs v3))] (.b x6) [200003]) Qo hC h1 h2 rfl ⟨⟨tt_, (QfS _ _ hx6)⟩, ⟨rfl, tt_⟩⟩)⟩ rfl (by kernel_rfl) rfl rfl rfl ?_
 refine Qa hC [.n 2, .keep [3] [200000, 200001, 200002, 200003]] rfl tt_ ?_
 cases h
 exact AK.done (ex_ [_] (an_ (an_ rfl tt_) (gives ⟨rfl, rfl, rfl, rfl, tt_⟩)))
def Qa6 (l1 : (List Qy)) (k2 : Int) : Option Bool :=
 some ((decide (0 ≤ k2)) && (decide (k2 < (l1.length : Int))))
theorem QgC (l1 : (List Qy)) (k2 : Int) {r : Bool} (h : Qa6 l1 k2 = some r) : Qc Tryz.prog 113 [.sl 7 (l1.map Qu), .i .i64 k2] [] (Gives (.b r) []) := by
 refine Qc.walk 13 Tryz.func113 rfl Tryz.ntmps113 rfl fun C hC => ?_
 unfold Qa6 at h
 refine Qa hC [.n 6] rfl tt_ ?_
 refine AK.meetX (fun σ => σ = ⟨[(4, .b ((decide (0 ≤ k2)) && (decide (k2 < (l1.length : Int)))))], []⟩) ?_ ?_
 ·refine Qa hC [.n 4] rfl tt_ ?_
  rcases QJ (decide (0 ≤ k2)) with hc5 | hc5
  ·refine Qa hC [.say 7 (.b true), .n 2, .o (.ln l1.length), .n 4, .say 4 (.b ((decide (0 ≤ k2)) && (decide (k2 < (l1.length : Int))))), .keep [4] []] rfl ⟨⟨⟨tt_, (congrArg V.b hc5)⟩, Qg⟩, (congrArg V.b (andT hc5 rfl))⟩ ?_
   exact AK.met rfl
  ·refine Qa hC [.say 7 (.b false), .n 7, .say 4 (.b ((decide (0 ≤ k2)) && (decide (k2 < (l1.length : Int))))), .keep [4] []] rfl ⟨⟨tt_, (congrArg V.b hc5)⟩, (congrArg V.b (andF hc5 rfl))⟩ ?_
   exact AK.met rfl
 ·rintro σ rfl
  refine Qa hC [.n 2, .keep [4] []] rfl tt_ ?_
  cases h
  exact AK.done (ex_ [_] (an_ (an_ rfl tt_) (gives tt_)))
def Qfx (v1 : TNet) (v2 : Qz) : Option Bool :=
 (Qa6 v1.Colours v2.Colour).bind fun x4 =>
 some x4
theorem Qob (v1 : TNet) (v2 : Qz) {r : Bool} (h : Qfx v1 v2 = some r) : Qc Tryz.prog 112 [.loc 200000 0 0, .loc 200001 0 0] [(200000, .var (Qd v1)), (200001, .var (Qs v2))] (Gives (.b r) [(200000, .var (Qd v1)), (200001, .var (Qs v2))]) := by
 refine Qc.walk 8 Tryz.func112 rfl Tryz.ntmps112 rfl fun C hC => ?_
 unfold Qfx at h
 obtain ⟨x4, hx4, h⟩ := Qb h
 refine Qa hC [.n 11, .o (.c false [.d, .d] (.b x4)), .n 4, .keep [2] [200000, 200001]] rfl ⟨tt_, (QgC _ _ hx4)⟩ ?_
 cases h
 exact AK.done (ex_ [_] (an_ (an_ rfl tt_) (gives ⟨rfl, rfl, tt_⟩)))
def Qfy (v1 : Qz) : Option Bool :=
 (Qb2 v1.First).bind fun x3 =>
 some x3
theorem Qoc (v1 : Qz) {r : Bool} (h : Qfy v1 = some r) : Qc Tryz.prog 114 [.loc 200000 0 0] [(200000, .var (Qs v1))] (Gives (.b r) [(200000, .var (Qs v1))]) := by
 refine Qc.walk 5 Tryz.func114 rfl Tryz.ntmps114 rfl fun C hC => ?_
 unfold Qfy at h
 obtain ⟨x3, hx3, h⟩ := Qb h
 refine Qa hC [.n 9, .o (.c false [.d] (.b x3)), .n 4, .keep [1] [200000]] rfl ⟨tt_, (Qgd _ hx3)⟩ ?_
 cases h
 exact AK.done (ex_ [_] (an_ (an_ rfl tt_) (gives ⟨rfl, tt_⟩)))
def QdY (row1 : (Int × Int)) (v2 : Int) : Option Bool :=
 some (decide (v2 ≤ row1.1))
theorem Qne (row1 : (Int × Int)) (v2 : Int) {r : Bool} (h : QdY row1 v2 = some r) : Qc Tryz.prog 117 [.agg (Qt row1), .loc 200000 0 0] [(200000, .var (Qe v2))] (Gives (.b r) [(200000, .var (Qe v2))]) := by
 refine Qc.walk 8 Tryz.func117 rfl Tryz.ntmps117 rfl fun C hC => ?_
 unfold QdY at h
 refine Qa hC [.n 16, .keep [3] [200000]] rfl tt_ ?_
 cases h
 exact AK.done (ex_ [_] (an_ (an_ rfl tt_) (gives ⟨rfl, tt_⟩)))
def Q2 (s1 : (List (Int × Int))) (v2 : Int) (x5 : Int) : Option (Int ⊕ (Int ⊕ Unit)) :=
 bif (decide (x5 < (s1.length : Int))) then
 (idx s1 x5).bind fun e9 =>
 (QdY e9 v2).bind fun x10 =>
 bif x10 then
 some (.inr (.inl x5))
 else
 some (.inl (w64 (x5 + 1)))
 else
 some (.inr (.inr ()))
def Qau (x7 : Int) : Option Int :=
 some x7
def Qav : Option Int :=
 some (-1)
def QaE (s1 : (List (Int × Int))) (v2 : Int) : Option Int :=
 (QE (fun st => Q2 s1 v2 st) 0).bind (Sum.elim (fun q => Qau q) (fun q => Qav))
theorem Qih (s1 : (List (Int × Int))) (v2 : Int) {r : Int} (h : QaE s1 v2 = some r) : Qc Tryz.prog 168 [.sl 2 (s1.map Qt), .clo (.func 117) [] [.loc 200000 0 0]] [(200000, .var (Qe v2))] (Gives (.i .i64 r) [(200000, .var (Qe v2))]) := by
 refine Qc.walk 19 Tryz.func168 rfl Tryz.ntmps168 rfl fun C hC => ?_
 unfold QaE at h
 refine Qa hC [.n 9, .o (.ln s1.length), .n 4, .keep [0, 1, 7, 8] [200000]] rfl ⟨tt_, Qg⟩ ?_
 obtain ⟨o12, hl12, h⟩ := Qb h
 refine AK.loop (body := (fun st => Q2 s1 v2 st)) (fun st σ => σ = ⟨[(0, .sl 2 (s1.map Qt)), (1, .clo (.func 117) [] [.loc 200000 0 0]), (7, .i .i64 (s1.length : Int)), (8, .i .i64 st)], [(200000, .var (Qe v2))]⟩) (Sum.elim (fun q e σ => e = .ret ∧ σ = ⟨[(4, .i .i64 q)], [(200000, .var (Qe v2))]⟩) (fun q e σ => e = .exit 0 ∧ σ = ⟨[], [(200000, .var (Qe v2))]⟩)) hl12 rfl ?_ ?_
 ·rintro x5 o σ rfl h
  replace h : Q2 s1 v2 x5 = some o := h
  unfold Q2 at h
  refine Qa hC [.n 6] rfl tt_ ?_
  rcases bifE h with ⟨hc8, h⟩ | ⟨hc8, h⟩
  ·obtain ⟨e9, he9, h⟩ := Qb h
   obtain ⟨x10, hx10, h⟩ := Qb h
   refine Qa hC [.br true, .n 15, .o (.row (Qt e9)), .v .no [] (.agg (Qt e9)), .cm (.clo) [(200000, 200000)] [(200000, 200000)] [] [.d, .d] [(200000, .var (Qe v2))] (.b x10), .n 2] rfl ⟨⟨⟨⟨tt_, hc8⟩, (idxM he9)⟩, rfl⟩, (Qne _ _ hx10)⟩ ?_
   rcases bifE h with ⟨hc11, h⟩ | ⟨hc11, h⟩
   ·refine Qa hC [.br true, .n 9, .keep [4] [200000]] rfl ⟨tt_, hc11⟩ ?_
    cases h
    exact rndR rfl (an_ rfl rfl)
   ·refine Qa hC [.br false, .n 7, .keep [0, 1, 7, 8] [200000]] rfl ⟨tt_, hc11⟩ ?_
    cases h
    exact rndN rfl rfl
  ·refine Qa hC [.br false, .n 2, .keep [] [200000]] rfl ⟨tt_, hc8⟩ ?_
   cases h
   exact rndX rfl (an_ rfl rfl)
 ·rcases o12 with (x7 | _)
  ·replace h : Qau x7 = some r := h
   unfold Qau at h
   rintro e σ ⟨rfl, rfl⟩
   refine Qa hC [.n 2, .keep [4] [200000]] rfl tt_ ?_
   cases h
   exact AK.done (ex_ [_] (an_ (an_ rfl tt_) (gives ⟨rfl, tt_⟩)))
  ·replace h : Qav = some r := h
   unfold Qav at h
   rintro e σ ⟨rfl, rfl⟩
   refine Qa hC [.n 8, .keep [4] [200000]] rfl tt_ ?_
   cases h
   exact AK.done (ex_ [_] (an_ (an_ rfl tt_) (gives ⟨rfl, tt_⟩)))
def Qaw (s1 : (List (Int × Int))) (v2 : Int) : Option Bool :=
 (QaE s1 v2).bind fun x4 =>
 some (decide (0 ≤ x4))
theorem Qhq (s1 : (List (Int × Int))) (v2 : Int) {r : Bool} (h : Qaw s1 v2 = some r) : Qc Tryz.prog 116 [.sl 2 (s1.map Qt), .clo (.func 117) [] [.loc 200000 0 0]] [(200000, .var (Qe v2))] (Gives (.b r) [(200000, .var (Qe v2))]) := by
 refine Qc.walk 9 Tryz.func116 rfl Tryz.ntmps116 rfl fun C hC => ?_
 unfold Qaw at h
 obtain ⟨x4, hx4, h⟩ := Qb h
 refine Qa hC [.n 9, .cm (.fn) [(200000, 200000)] [(200000, 200000)] [] [.d, .d] [(200000, .var (Qe v2))] (.i .i64 x4), .n 5, .keep [4] [200000]] rfl ⟨tt_, (Qih _ _ hx4)⟩ ?_
 cases h
 exact AK.done (ex_ [_] (an_ (an_ rfl tt_) (gives ⟨rfl, tt_⟩)))
def Qfz (v1 : TNet) (v2 : Qz) : Option Bool :=
 (QcO v1.Colours v2.Colour).bind fun x4 =>
 (Qaw v2.First x4).bind fun x5 =>
 some (!x5)
theorem Qod (v1 : TNet) (v2 : Qz) {r : Bool} (h : Qfz v1 v2 = some r) : Qc Tryz.prog 115 [.loc 200000 0 0, .loc 200001 0 0] [(200000, .var (Qd v1)), (200001, .var (Qs v2))] (Gives (.b r) [(200000, .var (Qd v1)), (200001, .var (Qs v2))]) := by
 refine Qc.walk 14 Tryz.func115 rfl Tryz.ntmps115 rfl fun C hC => ?_
 unfold Qfz at h
 obtain ⟨x4, hx4, h⟩ := Qb h
 obtain ⟨x5, hx5, h⟩ := Qb h
 refine Qa hC [.n 11, .o (.c false [.d, .d] (.i .i64 x4)), .n 2, .sayO 3 (.var (Qe x4)), .n 7, .cm (.fn) [(200000, 3)] [(3, 200000)] [] [.d, .d] [(200000, .var (Qe x4))] (.b x5), .n 5, .keep [2] [200000, 200001]] rfl ⟨⟨⟨tt_, (QgK _ _ hx4)⟩, rfl⟩, (Qhq _ _ hx5)⟩ ?_
 cases h
 exact AK.done (ex_ [_] (an_ (an_ rfl tt_) (gives ⟨rfl, rfl, tt_⟩)))
def QeI (v1 : Qz) (v2 : Int) (v3 : TNet) (v4 : Int) (v5 : Int) (v6 : Int) (v7 : Int) (v8 : Int) : Option Int :=
 (Qfu v1).bind fun x11 =>
 bif (!x11) then
 some v2
 else
 (Qfw v3 v4 v1).bind fun x13 =>
 bif (!x13) then
 some v5
 else
 (Qfx v3 v1).bind fun x15 =>
 bif (!x15) then
 some v6
 else
 (Qfy v1).bind fun x17 =>
 bif (!x17) then
 some v7
 else
 (Qfz v3 v1).bind fun x19 =>
 bif (!x19) then
 some v8
 else
 some 0
theorem Qnx (v1 : Qz) (v2 : Int) (v3 : TNet) (v4 : Int) (v5 : Int) (v6 : Int) (v7 : Int) (v8 : Int) {r : Int} (h : QeI v1 v2 v3 v4 v5 v6 v7 v8 = some r) : Qc Tryz.prog 57 [.own 200000 5] [(200000, .var [.clo (.func 109) [] [.loc 200001 0 0], .i .i64 v2, .clo (.func 110) [] [.loc 200002 0 0, .loc 200003 0 0, .loc 200004 0 0], .i .i64 v5, .clo (.func 112) [] [.loc 200002 0 0, .loc 200001 0 0], .i .i64 v6, .clo (.func 114) [] [.loc 200001 0 0], .i .i64 v7, .clo (.func 115) [] [.loc 200002 0 0, .loc 200001 0 0], .i .i64 v8]), (200001, .var (Qs v1)), (200002, .var (Qd v3)), (200003, .var (Qe v4)), (200004, .var [.clo (.func 108) [] [.loc 200001 0 0]])] (Gives (.i .i64 r) [(200000, .var [.clo (.func 109) [] [.loc 200001 0 0], .i .i64 v2, .clo (.func 110) [] [.loc 200002 0 0, .loc 200003 0 0, .loc 200004 0 0], .i .i64 v5, .clo (.func 112) [] [.loc 200002 0 0, .loc 200001 0 0], .i .i64 v6, .clo (.func 114) [] [.loc 200001 0 0], .i .i64 v7, .clo (.func 115) [] [.loc 200002 0 0, .loc 200001 0 0], .i .i64 v8]), (200001, .var (Qs v1)), (200002, .var (Qd v3)), (200003, .var (Qe v4)), (200004, .var [.clo (.func 108) [] [.loc 200001 0 0]])]) := by
 refine Qc.walk 18 Tryz.func57 rfl Tryz.ntmps57 rfl fun C hC => ?_
 unfold QeI at h
 refine Qa hC [.n 14] rfl tt_ ?_
 refine AK.loopN 6 (AK.rnd ?_)
 obtain ⟨x11, hx11, h⟩ := Qb h
 refine Qa hC [.n 2, .v .no [] (.b true), .n 10, .o (.any (.loc 200000 0 0) none), .n 3, .sayO 4 (.var [.clo (.func 109) [] [.loc 200001 0 0], .i .i64 v2]), .n 6, .cm (.clo) [(200000, 200001)] [(200001, 200000)] [] [.d] [(200000, .var (Qs v1))] (.b x11), .n 3] rfl ⟨⟨⟨⟨tt_, rfl⟩, (fun σ h1 h2 _ => Stp.idxV rfl rfl (bleN hC.n rfl) (h1 _ _ rfl) (h1 _ _ rfl) (Qo.es rfl) (h2 _ _ rfl) (by decide))⟩, rfl⟩, (Qn8 _ hx11)⟩ ?_
 rcases bifE h with ⟨hc12, h⟩ | ⟨hc12, h⟩
 ·refine Qa hC [.br true, .n 13, .keep [2] [200000, 200001, 200002, 200003, 200004]] rfl ⟨tt_, hc12⟩ ?_
  cases h
  exact AK.done (ex_ [_] (an_ (an_ rfl tt_) (gives ⟨rfl, rfl, rfl, rfl, rfl, tt_⟩)))
 ·refine Qa hC [.br false, .n 4, .v .no [] (.i .i64 1), .n 2] rfl ⟨⟨tt_, hc12⟩, rfl⟩ ?_
  refine AK.met (AK.rnd ?_)
  obtain ⟨x13, hx13, h⟩ := Qb h
  refine Qa hC [.n 2, .v .no [] (.b true), .n 10, .o (.any (.loc 200000 0 2) none), .n 1, .kill 4, .n 2, .sayO 4 (.var [.clo (.func 110) [] [.loc 200002 0 0, .loc 200003 0 0, .loc 200004 0 0], .i .i64 v5]), .n 6, .cm (.clo) [(200000, 200002), (200001, 200003), (200002, 200004), (200003, 200001)] [(200002, 200000), (200003, 200001), (200004, 200002), (200001, 200003)] [] [.d, .d, .d] [(200000, .var (Qd v3)), (200001, .var (Qe v4)), (200002, .var [.clo (.func 108) [] [.loc 200003 0 0]]), (200003, .var (Qs v1))] (.b x13), .n 3] rfl ⟨⟨⟨⟨tt_, rfl⟩, (fun σ h1 h2 _ => Stp.idxV rfl rfl (bleN hC.n rfl) (h1 _ _ rfl) (h1 _ _ rfl) (Qo.es rfl) (h2 _ _ rfl) (by decide))⟩, rfl⟩, (Qoa _ _ _ hx13)⟩ ?_
  rcases bifE h with ⟨hc14, h⟩ | ⟨hc14, h⟩
  ·refine Qa hC [.br true, .n 13, .keep [2] [200000, 200001, 200002, 200003, 200004]] rfl ⟨tt_, hc14⟩ ?_
   cases h
   exact AK.done (ex_ [_] (an_ (an_ rfl tt_) (gives ⟨rfl, rfl, rfl, rfl, rfl, tt_⟩)))
  ·refine Qa hC [.br false, .n 4, .v .no [] (.i .i64 2), .n 2] rfl ⟨⟨tt_, hc14⟩, rfl⟩ ?_
   refine AK.met (AK.rnd ?_)
   obtain ⟨x15, hx15, h⟩ := Qb h
   refine Qa hC [.n 2, .v .no [] (.b true), .n 10, .o (.any (.loc 200000 0 4) none), .n 1, .kill 4, .n 2, .sayO 4 (.var [.clo (.func 112) [] [.loc 200002 0 0, .loc 200001 0 0], .i .i64 v6]), .n 6, .cm (.clo) [(200000, 200002), (200001, 200001)] [(200002, 200000), (200001, 200001)] [] [.d, .d] [(200000, .var (Qd v3)), (200001, .var (Qs v1))] (.b x15), .n 3] rfl ⟨⟨⟨⟨tt_, rfl⟩, (fun σ h1 h2 _ => Stp.idxV rfl rfl (bleN hC.n rfl) (h1 _ _ rfl) (h1 _ _ rfl) (Qo.es rfl) (h2 _ _ rfl) (by decide))⟩, rfl⟩, (Qob _ _ hx15)⟩ ?_
   rcases bifE h with ⟨hc16, h⟩ | ⟨hc16, h⟩
   ·refine Qa hC [.br true, .n 13, .keep [2] [200000, 200001, 200002, 200003, 200004]] rfl ⟨tt_, hc16⟩ ?_
    cases h
    exact AK.done (ex_ [_] (an_ (an_ rfl tt_) (gives ⟨rfl, rfl, rfl, rfl, rfl, tt_⟩)))
   ·refine Qa hC [.br false, .n 4, .v .no [] (.i .i64 3), .n 2] rfl ⟨⟨tt_, hc16⟩, rfl⟩ ?_
    refine AK.met (AK.rnd ?_)
    obtain ⟨x17, hx17, h⟩ := Qb h
    refine Qa hC [.n 2, .v .no [] (.b true), .n 10, .o (.any (.loc 200000 0 6) none), .n 1, .kill 4, .n 2, .sayO 4 (.var [.clo (.func 114) [] [.loc 200001 0 0], .i .i64 v7]), .n 6, .cm (.clo) [(200000, 200001)] [(200001, 200000)] [] [.d] [(200000, .var (Qs v1))] (.b x17), .n 3] rfl ⟨⟨⟨⟨tt_, rfl⟩, (fun σ h1 h2 _ => Stp.idxV rfl rfl (bleN hC.n rfl) (h1 _ _ rfl) (h1 _ _ rfl) (Qo.es rfl) (h2 _ _ rfl) (by decide))⟩, rfl⟩, (Qoc _ hx17)⟩ ?_
    rcases bifE h with ⟨hc18, h⟩ | ⟨hc18, h⟩
    ·refine Qa hC [.br true, .n 13, .keep [2] [200000, 200001, 200002, 200003, 200004]] rfl ⟨tt_, hc18⟩ ?_
     cases h
     exact AK.done (ex_ [_] (an_ (an_ rfl tt_) (gives ⟨rfl, rfl, rfl, rfl, rfl, tt_⟩)))
    ·refine Qa hC [.br false, .n 4, .v .no [] (.i .i64 4), .n 2] rfl ⟨⟨tt_, hc18⟩, rfl⟩ ?_
     refine AK.met (AK.rnd ?_)
     obtain ⟨x19, hx19, h⟩ := Qb h
     refine Qa hC [.n 2, .v .no [] (.b true), .n 10, .o (.any (.loc 200000 0 8) none), .n 1, .kill 4, .n 2, .sayO 4 (.var [.clo (.func 115) [] [.loc 200002 0 0, .loc 200001 0 0], .i .i64 v8]), .n 6, .cm (.clo) [(200000, 200002), (200001, 200001)] [(200002, 200000), (200001, 200001)] [] [.d, .d] [(200000, .var (Qd v3)), (200001, .var (Qs v1))] (.b x19), .n 3] rfl ⟨⟨⟨⟨tt_, rfl⟩, (fun σ h1 h2 _ => Stp.idxV rfl rfl (bleN hC.n rfl) (h1 _ _ rfl) (h1 _ _ rfl) (Qo.es rfl) (h2 _ _ rfl) (by decide))⟩, rfl⟩, (Qod _ _ hx19)⟩ ?_
     rcases bifE h with ⟨hc20, h⟩ | ⟨hc20, h⟩
     ·refine Qa hC [.br true, .n 13, .keep [2] [200000, 200001, 200002, 200003, 200004]] rfl ⟨tt_, hc20⟩ ?_
      cases h
      exact AK.done (ex_ [_] (an_ (an_ rfl tt_) (gives ⟨rfl, rfl, rfl, rfl, rfl, tt_⟩)))
     ·refine Qa hC [.br false, .n 4, .v .no [] (.i .i64 5), .n 2] rfl ⟨⟨tt_, hc20⟩, rfl⟩ ?_
      refine AK.met (AK.rnd ?_)
      refine Qa hC [.n 2, .v .no [] (.b false), .n 15, .keep [2] [200000, 200001, 200002, 200003, 200004]] rfl ⟨tt_, rfl⟩ ?_
      cases h
      exact AK.done (ex_ [_] (an_ (an_ rfl tt_) (gives ⟨rfl, rfl, rfl, rfl, rfl, tt_⟩)))
def Qg3 (n1 : TNet) (k2 : Int) : Option Int :=
 (Qac n1.Places k2).bind fun x5 =>
 bif (!x5) then
 some 3
 else
 (idx n1.Places k2).bind fun e7 =>
 (QeI e7 1 n1 k2 5 3 1 8).bind fun x8 =>
 some x8
theorem Qpy (n1 : TNet) (k2 : Int) {r : Int} (h : Qg3 n1 k2 = some r) : Qc Tryz.prog 65 [.agg (Qd n1), .i .i64 k2] [] (Gives (.i .i64 r) []) := by
 refine Qc.walk 30 Tryz.func65 rfl Tryz.ntmps65 rfl fun C hC => ?_
 unfold Qg3 at h
 obtain ⟨x5, hx5, h⟩ := Qb h
 refine Qa hC [.n 13, .o (.c false [.d, .d] (.b x5)), .n 3] rfl ⟨tt_, (Qbh _ _ hx5)⟩ ?_
 rcases bifE h with ⟨hc6, h⟩ | ⟨hc6, h⟩
 ·refine Qa hC [.br true, .n 7, .keep [4] []] rfl ⟨tt_, hc6⟩ ?_
  cases h
  exact AK.done (ex_ [_] (an_ (an_ rfl tt_) (gives tt_)))
 ·obtain ⟨e7, he7, h⟩ := Qb h
  obtain ⟨x8, hx8, h⟩ := Qb h
  refine Qa hC [.br false, .n 7, .o (.row (Qs e7)), .v .no [] (.agg (Qs e7)), .n 2, .sayO 5 (.var (Qs e7)), .n 7, .sayO 6 (.var [.clo (.func 108) [] [.loc 5 0 0]]), .n 5, .v .no [] (.agg [.clo (.func 109) [] [.loc 5 0 0], .i .i64 1]), .n 1, .v .no [] (.agg [.clo (.func 110) [] [.loc 2 0 0, .loc 3 0 0, .loc 6 0 0], .i .i64 5]), .n 1, .v .no [] (.agg [.clo (.func 112) [] [.loc 2 0 0, .loc 5 0 0], .i .i64 3]), .n 1, .v .no [] (.agg [.clo (.func 114) [] [.loc 5 0 0], .i .i64 1]), .n 1, .v .no [] (.agg [.clo (.func 115) [] [.loc 2 0 0, .loc 5 0 0], .i .i64 8]), .o (.any (.own 28 5) (some (.var [.clo (.func 109) [] [.loc 5 0 0], .i .i64 1, .clo (.func 110) [] [.loc 2 0 0, .loc 3 0 0, .loc 6 0 0], .i .i64 5, .clo (.func 112) [] [.loc 2 0 0, .loc 5 0 0], .i .i64 3, .clo (.func 114) [] [.loc 5 0 0], .i .i64 1, .clo (.func 115) [] [.loc 2 0 0, .loc 5 0 0], .i .i64 8]))), .cm (.fn) [(200000, 28), (200001, 5), (200002, 2), (200003, 3), (200004, 6)] [(28, 200000), (5, 200001), (2, 200002), (3, 200003), (6, 200004)] [] [.d] [(200000, .var [.clo (.func 109) [] [.loc 200001 0 0], .i .i64 1, .clo (.func 110) [] [.loc 200002 0 0, .loc 200003 0 0, .loc 200004 0 0], .i .i64 5, .clo (.func 112) [] [.loc 200002 0 0, .loc 200001 0 0], .i .i64 3, .clo (.func 114) [] [.loc 200001 0 0], .i .i64 1, .clo (.func 115) [] [.loc 200002 0 0, .loc 200001 0 0], .i .i64 8]), (200001, .var (Qs e7)), (200002, .var (Qd n1)), (200003, .var (Qe k2)), (200004, .var [.clo (.func 108) [] [.loc 200001 0 0]])] (.i .i64 x8), .n 4, .keep [4] []] rfl ⟨⟨⟨⟨⟨⟨⟨⟨⟨⟨⟨⟨tt_, hc6⟩, (idxM he7)⟩, rfl⟩, rfl⟩, rfl⟩, rfl⟩, rfl⟩, rfl⟩, rfl⟩, rfl⟩, (fun σ h1 h2 hf => Stp.buildAny rfl rfl (bleN hC.n rfl) (Qo.es rfl) Qkv rfl (by decide) (by decide) (Qer h1 rfl) rfl rfl (hf rfl))⟩, (Qnx _ _ _ _ _ _ _ _ hx8)⟩ ?_
  cases h
  exact AK.done (ex_ [_] (an_ (an_ rfl tt_) (gives tt_)))
def Qg4 (k1 : Int) (p2 : Qz) (v3 : TNet) : Option Int :=
 (Qg3 v3 k1).bind fun x5 =>
 some x5
theorem Qpz (k1 : Int) (p2 : Qz) (v3 : TNet) {r : Int} (h : Qg4 k1 p2 v3 = some r) : Qc Tryz.prog 64 [.i .i64 k1, .agg (Qs p2), .loc 200000 0 0] [(200000, .var (Qd v3))] (Gives (.i .i64 r) [(200000, .var (Qd v3))]) := by
 refine Qc.walk 9 Tryz.func64 rfl Tryz.ntmps64 rfl fun C hC => ?_
 unfold Qg4 at h
 obtain ⟨x5, hx5, h⟩ := Qb h
 refine Qa hC [.n 8, .v .no [] (.agg (Qd v3)), .n 1, .o (.c false [.d, .d] (.i .i64 x5)), .n 4, .keep [5] [200000]] rfl ⟨⟨tt_, rfl⟩, (Qpy _ _ hx5)⟩ ?_
 cases h
 exact AK.done (ex_ [_] (an_ (an_ rfl tt_) (gives ⟨rfl, tt_⟩)))
def QaS (l1 : (List Qz)) (v2 : TNet) (x7 : Int) : Option (Int ⊕ ((Int × Int) ⊕ Unit)) :=
 bif (decide (x7 < (l1.length : Int))) then
 (idx l1 x7).bind fun e12 =>
 (Qg4 x7 e12 v2).bind fun x13 =>
 bif (x13 != 0) then
 some (.inr (.inl (x7, x13)))
 else
 some (.inl (w64 (x7 + 1)))
 else
 some (.inr (.inr ()))
def Qbu (x9 : Int) (x10 : Int) : Option (Int × Int) :=
 some (x9, x10)
def Qbv : Option (Int × Int) :=
 some (0, 0)
def Qb7 (l1 : (List Qz)) (v2 : TNet) : Option (Int × Int) :=
 (QE (fun st => QaS l1 v2 st) 0).bind (Sum.elim (fun q => Qbu q.1 q.2) (fun q => Qbv))
theorem Qk6 (l1 : (List Qz)) (v2 : TNet) {r : (Int × Int)} (h : Qb7 l1 v2 = some r) : Qc Tryz.prog 63 [.sl 3 (l1.map Qs), .clo (.func 64) [] [.loc 200000 0 0]] [(200000, .var (Qd v2))] (Gives (.tup [.i .i64 r.1, .i .i64 r.2]) [(200000, .var (Qd v2))]) := by
 refine Qc.walk 25 Tryz.func63 rfl Tryz.ntmps63 rfl fun C hC => ?_
 unfold Qb7 at h
 refine Qa hC [.n 10, .o (.ln l1.length), .n 4, .keep [1, 9, 10, 11] [200000]] rfl ⟨tt_, Qg⟩ ?_
 obtain ⟨o15, hl15, h⟩ := Qb h
 refine AK.loop (body := (fun st => QaS l1 v2 st)) (fun st σ => σ = ⟨[(1, .clo (.func 64) [] [.loc 200000 0 0]), (9, .sl 3 (l1.map Qs)), (10, .i .i64 (l1.length : Int)), (11, .i .i64 st)], [(200000, .var (Qd v2))]⟩) (Sum.elim (fun q e σ => e = .ret ∧ σ = ⟨[(4, .i .i64 q.1), (5, .i .i64 q.2)], [(200000, .var (Qd v2))]⟩) (fun q e σ => e = .exit 0 ∧ σ = ⟨[], [(200000, .var (Qd v2))]⟩)) hl15 rfl ?_ ?_
 ·rintro x7 o σ rfl h
  replace h : QaS l1 v2 x7 = some o := h
  unfold QaS at h
  refine Qa hC [.n 6] rfl tt_ ?_
  rcases bifE h with ⟨hc11, h⟩ | ⟨hc11, h⟩
  ·obtain ⟨e12, he12, h⟩ := Qb h
   obtain ⟨x13, hx13, h⟩ := Qb h
   refine Qa hC [.br true, .n 7, .o (.row (Qs e12)), .v .no [] (.agg (Qs e12)), .n 3, .sayO 7 (.var (Qs e12)), .n 6, .v .no [] (.agg (Qs e12)), .cm (.clo) [(200000, 200000)] [(200000, 200000)] [] [.d, .d, .d] [(200000, .var (Qd v2))] (.i .i64 x13), .n 9] rfl ⟨⟨⟨⟨⟨⟨tt_, hc11⟩, (idxM he12)⟩, rfl⟩, rfl⟩, rfl⟩, (Qpz _ _ _ hx13)⟩ ?_
   rcases bifE h with ⟨hc14, h⟩ | ⟨hc14, h⟩
   ·refine Qa hC [.br true, .n 11, .keep [4, 5] [200000]] rfl ⟨tt_, hc14⟩ ?_
    cases h
    exact rndR rfl (an_ rfl rfl)
   ·refine Qa hC [.br false, .n 7, .keep [1, 9, 10, 11] [200000]] rfl ⟨tt_, hc14⟩ ?_
    cases h
    exact rndN rfl rfl
  ·refine Qa hC [.br false, .n 2, .keep [] [200000]] rfl ⟨tt_, hc11⟩ ?_
   cases h
   exact rndX rfl (an_ rfl rfl)
 ·rcases o15 with (⟨x9, x10⟩ | _)
  ·replace h : Qbu x9 x10 = some r := h
   unfold Qbu at h
   rintro e σ ⟨rfl, rfl⟩
   refine Qa hC [.n 2, .keep [4, 5] [200000]] rfl tt_ ?_
   cases h
   exact AK.done (ex_ [_, _] (an_ (an_ rfl (an_ rfl tt_)) (gives ⟨rfl, tt_⟩)))
  ·replace h : Qbv = some r := h
   unfold Qbv at h
   rintro e σ ⟨rfl, rfl⟩
   refine Qa hC [.n 9, .keep [4, 5] [200000]] rfl tt_ ?_
   cases h
   exact AK.done (ex_ [_, _] (an_ (an_ rfl (an_ rfl tt_)) (gives ⟨rfl, tt_⟩)))
def Qbm (l1 : (List Qr)) (k2 : Int) : Option Bool :=
 some ((decide (0 ≤ k2)) && (decide (k2 < (l1.length : Int))))
theorem QhB (l1 : (List Qr)) (k2 : Int) {r : Bool} (h : Qbm l1 k2 = some r) : Qc Tryz.prog 69 [.sl 14 (l1.map Qi), .i .i64 k2] [] (Gives (.b r) []) := by
 refine Qc.walk 13 Tryz.func69 rfl Tryz.ntmps69 rfl fun C hC => ?_
 unfold Qbm at h
 refine Qa hC [.n 6] rfl tt_ ?_
 refine AK.meetX (fun σ => σ = ⟨[(4, .b ((decide (0 ≤ k2)) && (decide (k2 < (l1.length : Int)))))], []⟩) ?_ ?_
 ·refine Qa hC [.n 4] rfl tt_ ?_
  rcases QJ (decide (0 ≤ k2)) with hc5 | hc5
  ·refine Qa hC [.say 7 (.b true), .n 2, .o (.ln l1.length), .n 4, .say 4 (.b ((decide (0 ≤ k2)) && (decide (k2 < (l1.length : Int))))), .keep [4] []] rfl ⟨⟨⟨tt_, (congrArg V.b hc5)⟩, Qg⟩, (congrArg V.b (andT hc5 rfl))⟩ ?_
   exact AK.met rfl
  ·refine Qa hC [.say 7 (.b false), .n 7, .say 4 (.b ((decide (0 ≤ k2)) && (decide (k2 < (l1.length : Int))))), .keep [4] []] rfl ⟨⟨tt_, (congrArg V.b hc5)⟩, (congrArg V.b (andF hc5 rfl))⟩ ?_
   exact AK.met rfl
 ·rintro σ rfl
  refine Qa hC [.n 2, .keep [4] []] rfl tt_ ?_
  cases h
  exact AK.done (ex_ [_] (an_ (an_ rfl tt_) (gives tt_)))
def Qg5 (v1 : Int) (v2 : TNet) (v3 : Qr) : Option Unit :=
 some ()
theorem QpA (v1 : Int) (v2 : TNet) (v3 : Qr) {r : Unit} (h : Qg5 v1 v2 v3 = some r) : Qc Tryz.prog 123 [.loc 200000 0 0, .clo (.func 124) [] [.loc 200001 0 0, .loc 200002 0 0]] [(200000, .var (Qe v1)), (200001, .var (Qd v2)), (200002, .var (Qi v3))] (Gives (.clo (.func 170) [] [.loc 3 0 0, .loc 2 0 0]) [(2, .var [.loc 200000 0 0]), (3, .var [.clo (.func 124) [] [.loc 200001 0 0, .loc 200002 0 0]]), (200000, .var (Qe v1)), (200001, .var (Qd v2)), (200002, .var (Qi v3))]) := by
 refine Qc.walk 6 Tryz.func123 rfl Tryz.ntmps123 rfl fun C hC => ?_
 unfold Qg5 at h
 refine Qa hC [.n 14, .keep [4] [2, 3, 200000, 200001, 200002]] rfl tt_ ?_
 cases h
 exact AK.done (ex_ [_] (an_ (an_ rfl tt_) (gives ⟨rfl, rfl, rfl, rfl, rfl, tt_⟩)))
def QeJ (v1 : Int) (v2 : TNet) (v3 : Qr) (v4 : Int) : Option Unit :=
 some ()
theorem Qny (v1 : Int) (v2 : TNet) (v3 : Qr) (v4 : Int) {r : Unit} (h : QeJ v1 v2 v3 v4 = some r) : Qc Tryz.prog 123 [.loc 200000 0 0, .clo (.func 129) [] [.loc 200001 0 0, .loc 200002 0 0, .loc 200003 0 0]] [(200000, .var (Qe v1)), (200001, .var (Qd v2)), (200002, .var (Qi v3)), (200003, .var (Qe v4))] (Gives (.clo (.func 170) [] [.loc 3 0 0, .loc 2 0 0]) [(2, .var [.loc 200000 0 0]), (3, .var [.clo (.func 129) [] [.loc 200001 0 0, .loc 200002 0 0, .loc 200003 0 0]]), (200000, .var (Qe v1)), (200001, .var (Qd v2)), (200002, .var (Qi v3)), (200003, .var (Qe v4))]) := by
 refine Qc.walk 6 Tryz.func123 rfl Tryz.ntmps123 rfl fun C hC => ?_
 unfold QeJ at h
 refine Qa hC [.n 14, .keep [4] [2, 3, 200000, 200001, 200002, 200003]] rfl tt_ ?_
 cases h
 exact AK.done (ex_ [_] (an_ (an_ rfl tt_) (gives ⟨rfl, rfl, rfl, rfl, rfl, rfl, tt_⟩)))
def QeK (v1 : Int) (v2 : TNet) (v3 : Qr) (v4 : Int) : Option Unit :=
 some ()
theorem Qnz (v1 : Int) (v2 : TNet) (v3 : Qr) (v4 : Int) {r : Unit} (h : QeK v1 v2 v3 v4 = some r) : Qc Tryz.prog 123 [.loc 200000 0 0, .clo (.func 131) [] [.loc 200001 0 0, .loc 200002 0 0, .loc 200003 0 0]] [(200000, .var (Qe v1)), (200001, .var (Qd v2)), (200002, .var (Qi v3)), (200003, .var (Qe v4))] (Gives (.clo (.func 170) [] [.loc 3 0 0, .loc 2 0 0]) [(2, .var [.loc 200000 0 0]), (3, .var [.clo (.func 131) [] [.loc 200001 0 0, .loc 200002 0 0, .loc 200003 0 0]]), (200000, .var (Qe v1)), (200001, .var (Qd v2)), (200002, .var (Qi v3)), (200003, .var (Qe v4))]) := by
 refine Qc.walk 6 Tryz.func123 rfl Tryz.ntmps123 rfl fun C hC => ?_
 unfold QeK at h
 refine Qa hC [.n 14, .keep [4] [2, 3, 200000, 200001, 200002, 200003]] rfl tt_ ?_
 cases h
 exact AK.done (ex_ [_] (an_ (an_ rfl tt_) (gives ⟨rfl, rfl, rfl, rfl, rfl, rfl, tt_⟩)))
def QeL (v1 : Int) (v2 : TNet) (v3 : Qr) : Option Unit :=
 some ()
theorem QnA (v1 : Int) (v2 : TNet) (v3 : Qr) {r : Unit} (h : QeL v1 v2 v3 = some r) : Qc Tryz.prog 123 [.loc 200000 0 0, .clo (.func 132) [] [.loc 200001 0 0, .loc 200002 0 0]] [(200000, .var (Qe v1)), (200001, .var (Qd v2)), (200002, .var (Qi v3))] (Gives (.clo (.func 170) [] [.loc 3 0 0, .loc 2 0 0]) [(2, .var [.loc 200000 0 0]), (3, .var [.clo (.func 132) [] [.loc 200001 0 0, .loc 200002 0 0]]), (200000, .var (Qe v1)), (200001, .var (Qd v2)), (200002, .var (Qi v3))]) := by
 refine Qc.walk 6 Tryz.func123 rfl Tryz.ntmps123 rfl fun C hC => ?_
 unfold QeL at h
 refine Qa hC [.n 14, .keep [4] [2, 3, 200000, 200001, 200002]] rfl tt_ ?_
 cases h
 exact AK.done (ex_ [_] (an_ (an_ rfl tt_) (gives ⟨rfl, rfl, rfl, rfl, rfl, tt_⟩)))
def Qgk (v1 : Qr) : Option Bool :=
 (QcE v1.Name).bind fun x3 =>
 some x3
theorem QoS (v1 : Qr) {r : Bool} (h : Qgk v1 = some r) : Qc Tryz.prog 119 [.loc 200000 0 0] [(200000, .var (Qi v1))] (Gives (.b r) [(200000, .var (Qi v1))]) := by
 refine Qc.walk 5 Tryz.func119 rfl Tryz.ntmps119 rfl fun C hC => ?_
 unfold Qgk at h
 obtain ⟨x3, hx3, h⟩ := Qb h
 refine Qa hC [.n 9, .o (.c false [.d] (.b x3)), .n 4, .keep [1] [200000]] rfl ⟨tt_, (Qft _ hx3)⟩ ?_
 cases h
 exact AK.done (ex_ [_] (an_ (an_ rfl tt_) (gives ⟨rfl, tt_⟩)))
def Qgl (p1 : Qr) (v2 : Qr) : Option Bool :=
 some (QgE p1.Name v2.Name)
theorem QoT (p1 : Qr) (v2 : Qr) {r : Bool} (h : Qgl p1 v2 = some r) : Qc Tryz.prog 118 [.agg (Qi p1), .loc 200000 0 0] [(200000, .var (Qi v2))] (Gives (.b r) [(200000, .var (Qi v2))]) := by
 refine Qc.walk 9 Tryz.func118 rfl Tryz.ntmps118 rfl fun C hC => ?_
 unfold Qgl at h
 refine Qa hC [.n 17, .keep [3] [200000]] rfl tt_ ?_
 cases h
 exact AK.done (ex_ [_] (an_ (an_ rfl tt_) (gives ⟨rfl, tt_⟩)))
def QR (s1 : (List Qr)) (v2 : Qr) (x5 : Int) : Option (Int ⊕ (Int ⊕ Unit)) :=
 bif (decide (x5 < (s1.length : Int))) then
 (idx s1 x5).bind fun e9 =>
 (Qgl e9 v2).bind fun x10 =>
 bif x10 then
 some (.inr (.inl x5))
 else
 some (.inl (w64 (x5 + 1)))
 else
 some (.inr (.inr ()))
def Q7 (x7 : Int) : Option Int :=
 some x7
def Q8 : Option Int :=
 some (-1)
def Qan (s1 : (List Qr)) (v2 : Qr) : Option Int :=
 (QE (fun st => QR s1 v2 st) 0).bind (Sum.elim (fun q => Q7 q) (fun q => Q8))
theorem Qg6 (s1 : (List Qr)) (v2 : Qr) {r : Int} (h : Qan s1 v2 = some r) : Qc Tryz.prog 169 [.sl 14 (s1.map Qi), .clo (.func 118) [] [.loc 200000 0 0]] [(200000, .var (Qi v2))] (Gives (.i .i64 r) [(200000, .var (Qi v2))]) := by
 refine Qc.walk 19 Tryz.func169 rfl Tryz.ntmps169 rfl fun C hC => ?_
 unfold Qan at h
 refine Qa hC [.n 9, .o (.ln s1.length), .n 4, .keep [0, 1, 7, 8] [200000]] rfl ⟨tt_, Qg⟩ ?_
 obtain ⟨o12, hl12, h⟩ := Qb h
 refine AK.loop (body := (fun st => QR s1 v2 st)) (fun st σ => σ = ⟨[(0, .sl 14 (s1.map Qi)), (1, .clo (.func 118) [] [.loc 200000 0 0]), (7, .i .i64 (s1.length : Int)), (8, .i .i64 st)], [(200000, .var (Qi v2))]⟩) (Sum.elim (fun q e σ => e = .ret ∧ σ = ⟨[(4, .i .i64 q)], [(200000, .var (Qi v2))]⟩) (fun q e σ => e = .exit 0 ∧ σ = ⟨[], [(200000, .var (Qi v2))]⟩)) hl12 rfl ?_ ?_
 ·rintro x5 o σ rfl h
  replace h : QR s1 v2 x5 = some o := h
  unfold QR at h
  refine Qa hC [.n 6] rfl tt_ ?_
  rcases bifE h with ⟨hc8, h⟩ | ⟨hc8, h⟩
  ·obtain ⟨e9, he9, h⟩ := Qb h
   obtain ⟨x10, hx10, h⟩ := Qb h
   refine Qa hC [.br true, .n 15, .o (.row (Qi e9)), .v .no [] (.agg (Qi e9)), .cm (.clo) [(200000, 200000)] [(200000, 200000)] [] [.d, .d] [(200000, .var (Qi v2))] (.b x10), .n 2] rfl ⟨⟨⟨⟨tt_, hc8⟩, (idxM he9)⟩, rfl⟩, (QoT _ _ hx10)⟩ ?_
   rcases bifE h with ⟨hc11, h⟩ | ⟨hc11, h⟩
   ·refine Qa hC [.br true, .n 9, .keep [4] [200000]] rfl ⟨tt_, hc11⟩ ?_
    cases h
    exact rndR rfl (an_ rfl rfl)
   ·refine Qa hC [.br false, .n 7, .keep [0, 1, 7, 8] [200000]] rfl ⟨tt_, hc11⟩ ?_
    cases h
    exact rndN rfl rfl
  ·refine Qa hC [.br false, .n 2, .keep [] [200000]] rfl ⟨tt_, hc8⟩ ?_
   cases h
   exact rndX rfl (an_ rfl rfl)
 ·rcases o12 with (x7 | _)
  ·replace h : Q7 x7 = some r := h
   unfold Q7 at h
   rintro e σ ⟨rfl, rfl⟩
   refine Qa hC [.n 2, .keep [4] [200000]] rfl tt_ ?_
   cases h
   exact AK.done (ex_ [_] (an_ (an_ rfl tt_) (gives ⟨rfl, tt_⟩)))
  ·replace h : Q8 = some r := h
   unfold Q8 at h
   rintro e σ ⟨rfl, rfl⟩
   refine Qa hC [.n 8, .keep [4] [200000]] rfl tt_ ?_
   cases h
   exact AK.done (ex_ [_] (an_ (an_ rfl tt_) (gives ⟨rfl, tt_⟩)))
def Q9 (s1 : (List Qr)) (v2 : Qr) : Option Bool :=
 (Qan s1 v2).bind fun x4 =>
 some (decide (0 ≤ x4))
theorem Qgm (s1 : (List Qr)) (v2 : Qr) {r : Bool} (h : Q9 s1 v2 = some r) : Qc Tryz.prog 121 [.sl 14 (s1.map Qi), .clo (.func 118) [] [.loc 200000 0 0]] [(200000, .var (Qi v2))] (Gives (.b r) [(200000, .var (Qi v2))]) := by
 refine Qc.walk 9 Tryz.func121 rfl Tryz.ntmps121 rfl fun C hC => ?_
 unfold Q9 at h
 obtain ⟨x4, hx4, h⟩ := Qb h
 refine Qa hC [.n 9, .cm (.fn) [(200000, 200000)] [(200000, 200000)] [] [.d, .d] [(200000, .var (Qi v2))] (.i .i64 x4), .n 5, .keep [4] [200000]] rfl ⟨tt_, (Qg6 _ _ hx4)⟩ ?_
 cases h
 exact AK.done (ex_ [_] (an_ (an_ rfl tt_) (gives ⟨rfl, tt_⟩)))
def Qgn (v1 : TNet) (v2 : Int) (v3 : Qr) : Option Bool :=
 (chk (decide (0 ≤ v2) && decide (0 ≤ v2.toNat) && decide (v2.toNat ≤ v1.Tasks.length))).bind fun _ =>
 (Q9 ((v1.Tasks.drop 0).take (v2.toNat - 0)) v3).bind fun x6 =>
 some (!x6)
theorem QoU (v1 : TNet) (v2 : Int) (v3 : Qr) {r : Bool} (h : Qgn v1 v2 v3 = some r) : Qc Tryz.prog 120 [.loc 200000 0 0, .loc 200001 0 0, .loc 200002 0 0] [(200000, .var (Qd v1)), (200001, .var (Qe v2)), (200002, .var [.clo (.func 118) [] [.loc 200003 0 0]]), (200003, .var (Qi v3))] (Gives (.b r) [(200000, .var (Qd v1)), (200001, .var (Qe v2)), (200002, .var [.clo (.func 118) [] [.loc 200003 0 0]]), (200003, .var (Qi v3))]) := by
 refine Qc.walk 11 Tryz.func120 rfl Tryz.ntmps120 rfl fun C hC => ?_
 unfold Qgn at h
 obtain ⟨_, hk5, h⟩ := Qb h
 replace hk5 := chkE hk5
 obtain ⟨x6, hx6, h⟩ := Qb h
 refine Qa hC [.n 6, .keep [0, 1, 2, 3] [200000, 200001, 200002, 200003]] rfl tt_ ?_
 refine AK.draw2 Qo hC mixed [.a .no none false, .a .no none false, .a .no none false, .a (.any (.sl 14 (((v1.Tasks.drop 0).take (v2.toNat - 0)).map Qi)) none) none false, .a .no none false, .a (.any (.b x6) none) none false, .a .no none false, .m .s] [] [] [3] [200000, 200001, 200002, 200003] rfl rfl rfl ⟨⟨tt_, (fun σ h1 h2 _ => Stp.sliceD rfl rfl (bleN hC.n rfl) (h1 _ _ rfl) (Qo.es rfl) Bnd.no (Bnd.val (h1 _ _ rfl) (of_decide_eq_true (Qlh hk5)) rfl) (of_decide_eq_true (Qli hk5)) (Nat.le_trans (of_decide_eq_true (Qmt hk5)) (Nat.le_of_eq Qg.symm)) Qm5)⟩, (fun σ h1 h2 _ => Stp.callSame (md := .cm (.fn) [(200000, 200003)] [(200003, 200000)] [] [.d, .d] [(200000, .var (Qi v3))] (.b x6) [200003]) Qo hC h1 h2 rfl ⟨⟨tt_, (Qgm _ _ hx6)⟩, ⟨rfl, tt_⟩⟩)⟩ rfl (by kernel_rfl) rfl rfl rfl ?_
 refine Qa hC [.n 2, .keep [3] [200000, 200001, 200002, 200003]] rfl tt_ ?_
 cases h
 exact AK.done (ex_ [_] (an_ (an_ rfl tt_) (gives ⟨rfl, rfl, rfl, rfl, tt_⟩)))
def Qeo (v1 : Int) (v2 : Qr) : Option Bool :=
 some ((decide (v1 ≤ 16)) && (decide ((max2 (max2 (v2.Ins.length : Int) (v2.Outs.length : Int)) (v2.Cancel.length : Int)) ≤ 16)))
theorem QoV (v1 : Int) (v2 : Qr) {r : Bool} (h : Qeo v1 v2 = some r) : Qc Tryz.prog 122 [.loc 200000 0 0, .loc 200001 0 0] [(200000, .var (Qe v1)), (200001, .var (Qi v2))] (Gives (.b r) [(200000, .var (Qe v1)), (200001, .var (Qi v2))]) := by
 refine Qc.walk 18 Tryz.func122 rfl Tryz.ntmps122 rfl fun C hC => ?_
 unfold Qeo at h
 refine Qa hC [.n 6] rfl tt_ ?_
 refine AK.meetX (fun σ => σ = ⟨[(2, .b ((decide (v1 ≤ 16)) && (decide ((max2 (max2 (v2.Ins.length : Int) (v2.Outs.length : Int)) (v2.Cancel.length : Int)) ≤ 16))))], [(200000, .var (Qe v1)), (200001, .var (Qi v2))]⟩) ?_ ?_
 ·refine Qa hC [.n 4] rfl tt_ ?_
  rcases QJ (decide (v1 ≤ 16)) with hc5 | hc5
  ·refine Qa hC [.say 5 (.b true), .n 2, .o (.ln v2.Ins.length), .n 2, .o (.ln v2.Outs.length), .n 2, .o (.ln v2.Cancel.length), .o (.any (.i .i64 (max2 (max2 (v2.Ins.length : Int) (v2.Outs.length : Int)) (v2.Cancel.length : Int))) none), .n 4, .say 2 (.b ((decide (v1 ≤ 16)) && (decide ((max2 (max2 (v2.Ins.length : Int) (v2.Outs.length : Int)) (v2.Cancel.length : Int)) ≤ 16)))), .keep [2] [200000, 200001]] rfl ⟨⟨⟨⟨⟨⟨tt_, (congrArg V.b hc5)⟩, Qg⟩, Qg⟩, Qg⟩, (fun σ h1 h2 _ => Stp.max3 rfl rfl (bleN hC.n rfl) (h1 _ _ rfl) (h1 _ _ rfl) (h1 _ _ rfl))⟩, (congrArg V.b (andT hc5 rfl))⟩ ?_
   exact AK.met rfl
  ·refine Qa hC [.say 5 (.b false), .n 14, .say 2 (.b ((decide (v1 ≤ 16)) && (decide ((max2 (max2 (v2.Ins.length : Int) (v2.Outs.length : Int)) (v2.Cancel.length : Int)) ≤ 16)))), .keep [2] [200000, 200001]] rfl ⟨⟨tt_, (congrArg V.b hc5)⟩, (congrArg V.b (andF hc5 rfl))⟩ ?_
   exact AK.met rfl
 ·rintro σ rfl
  refine Qa hC [.n 2, .keep [2] [200000, 200001]] rfl tt_ ?_
  cases h
  exact AK.done (ex_ [_] (an_ (an_ rfl tt_) (gives ⟨rfl, rfl, tt_⟩)))
def Qco (v1 : TVar) : Option Bool :=
 (QcE v1.Name).bind fun x3 =>
 some x3
theorem QlA (v1 : TVar) {r : Bool} (h : Qco v1 = some r) : Qc Tryz.prog 174 [.loc 200000 0 0] [(200000, .var (QB v1))] (Gives (.b r) [(200000, .var (QB v1))]) := by
 refine Qc.walk 5 Tryz.func174 rfl Tryz.ntmps174 rfl fun C hC => ?_
 unfold Qco at h
 obtain ⟨x3, hx3, h⟩ := Qb h
 refine Qa hC [.n 9, .o (.c false [.d] (.b x3)), .n 4, .keep [1] [200000]] rfl ⟨tt_, (Qft _ hx3)⟩ ?_
 cases h
 exact AK.done (ex_ [_] (an_ (an_ rfl tt_) (gives ⟨rfl, tt_⟩)))
def Qcp (p1 : TVar) (v2 : TVar) : Option Bool :=
 some (QgE p1.Name v2.Name)
theorem QlB (p1 : TVar) (v2 : TVar) {r : Bool} (h : Qcp p1 v2 = some r) : Qc Tryz.prog 173 [.agg (QB p1), .loc 200000 0 0] [(200000, .var (QB v2))] (Gives (.b r) [(200000, .var (QB v2))]) := by
 refine Qc.walk 9 Tryz.func173 rfl Tryz.ntmps173 rfl fun C hC => ?_
 unfold Qcp at h
 refine Qa hC [.n 17, .keep [3] [200000]] rfl tt_ ?_
 cases h
 exact AK.done (ex_ [_] (an_ (an_ rfl tt_) (gives ⟨rfl, tt_⟩)))
def QT (s1 : (List TVar)) (v2 : TVar) (x5 : Int) : Option (Int ⊕ (Int ⊕ Unit)) :=
 bif (decide (x5 < (s1.length : Int))) then
 (idx s1 x5).bind fun e9 =>
 (Qcp e9 v2).bind fun x10 =>
 bif x10 then
 some (.inr (.inl x5))
 else
 some (.inl (w64 (x5 + 1)))
 else
 some (.inr (.inr ()))
def Qaf (x7 : Int) : Option Int :=
 some x7
def Qag : Option Int :=
 some (-1)
def Qay (s1 : (List TVar)) (v2 : TVar) : Option Int :=
 (QE (fun st => QT s1 v2 st) 0).bind (Sum.elim (fun q => Qaf q) (fun q => Qag))
theorem QhF (s1 : (List TVar)) (v2 : TVar) {r : Int} (h : Qay s1 v2 = some r) : Qc Tryz.prog 207 [.sl 2 (s1.map QB), .clo (.func 173) [] [.loc 200000 0 0]] [(200000, .var (QB v2))] (Gives (.i .i64 r) [(200000, .var (QB v2))]) := by
 refine Qc.walk 19 Tryz.func207 rfl Tryz.ntmps207 rfl fun C hC => ?_
 unfold Qay at h
 refine Qa hC [.n 9, .o (.ln s1.length), .n 4, .keep [0, 1, 7, 8] [200000]] rfl ⟨tt_, Qg⟩ ?_
 obtain ⟨o12, hl12, h⟩ := Qb h
 refine AK.loop (body := (fun st => QT s1 v2 st)) (fun st σ => σ = ⟨[(0, .sl 2 (s1.map QB)), (1, .clo (.func 173) [] [.loc 200000 0 0]), (7, .i .i64 (s1.length : Int)), (8, .i .i64 st)], [(200000, .var (QB v2))]⟩) (Sum.elim (fun q e σ => e = .ret ∧ σ = ⟨[(4, .i .i64 q)], [(200000, .var (QB v2))]⟩) (fun q e σ => e = .exit 0 ∧ σ = ⟨[], [(200000, .var (QB v2))]⟩)) hl12 rfl ?_ ?_
 ·rintro x5 o σ rfl h
  replace h : QT s1 v2 x5 = some o := h
  unfold QT at h
  refine Qa hC [.n 6] rfl tt_ ?_
  rcases bifE h with ⟨hc8, h⟩ | ⟨hc8, h⟩
  ·obtain ⟨e9, he9, h⟩ := Qb h
   obtain ⟨x10, hx10, h⟩ := Qb h
   refine Qa hC [.br true, .n 15, .o (.row (QB e9)), .v .no [] (.agg (QB e9)), .cm (.clo) [(200000, 200000)] [(200000, 200000)] [] [.d, .d] [(200000, .var (QB v2))] (.b x10), .n 2] rfl ⟨⟨⟨⟨tt_, hc8⟩, (idxM he9)⟩, rfl⟩, (QlB _ _ hx10)⟩ ?_
   rcases bifE h with ⟨hc11, h⟩ | ⟨hc11, h⟩
   ·refine Qa hC [.br true, .n 9, .keep [4] [200000]] rfl ⟨tt_, hc11⟩ ?_
    cases h
    exact rndR rfl (an_ rfl rfl)
   ·refine Qa hC [.br false, .n 7, .keep [0, 1, 7, 8] [200000]] rfl ⟨tt_, hc11⟩ ?_
    cases h
    exact rndN rfl rfl
  ·refine Qa hC [.br false, .n 2, .keep [] [200000]] rfl ⟨tt_, hc8⟩ ?_
   cases h
   exact rndX rfl (an_ rfl rfl)
 ·rcases o12 with (x7 | _)
  ·replace h : Qaf x7 = some r := h
   unfold Qaf at h
   rintro e σ ⟨rfl, rfl⟩
   refine Qa hC [.n 2, .keep [4] [200000]] rfl tt_ ?_
   cases h
   exact AK.done (ex_ [_] (an_ (an_ rfl tt_) (gives ⟨rfl, tt_⟩)))
  ·replace h : Qag = some r := h
   unfold Qag at h
   rintro e σ ⟨rfl, rfl⟩
   refine Qa hC [.n 8, .keep [4] [200000]] rfl tt_ ?_
   cases h
   exact AK.done (ex_ [_] (an_ (an_ rfl tt_) (gives ⟨rfl, tt_⟩)))
def Qah (s1 : (List TVar)) (v2 : TVar) : Option Bool :=
 (Qay s1 v2).bind fun x4 =>
 some (decide (0 ≤ x4))
theorem QgQ (s1 : (List TVar)) (v2 : TVar) {r : Bool} (h : Qah s1 v2 = some r) : Qc Tryz.prog 176 [.sl 2 (s1.map QB), .clo (.func 173) [] [.loc 200000 0 0]] [(200000, .var (QB v2))] (Gives (.b r) [(200000, .var (QB v2))]) := by
 refine Qc.walk 9 Tryz.func176 rfl Tryz.ntmps176 rfl fun C hC => ?_
 unfold Qah at h
 obtain ⟨x4, hx4, h⟩ := Qb h
 refine Qa hC [.n 9, .cm (.fn) [(200000, 200000)] [(200000, 200000)] [] [.d, .d] [(200000, .var (QB v2))] (.i .i64 x4), .n 5, .keep [4] [200000]] rfl ⟨tt_, (QhF _ _ hx4)⟩ ?_
 cases h
 exact AK.done (ex_ [_] (an_ (an_ rfl tt_) (gives ⟨rfl, tt_⟩)))
def Qcq (v1 : (List TVar)) (v2 : Int) (v3 : TVar) : Option Bool :=
 (chk (decide (0 ≤ v2) && decide (0 ≤ v2.toNat) && decide (v2.toNat ≤ v1.length))).bind fun _ =>
 (Qah ((v1.drop 0).take (v2.toNat - 0)) v3).bind fun x6 =>
 some (!x6)
theorem QlC (v1 : (List TVar)) (v2 : Int) (v3 : TVar) {r : Bool} (h : Qcq v1 v2 v3 = some r) : Qc Tryz.prog 175 [.loc 200000 0 0, .loc 200001 0 0, .loc 200002 0 0] [(200000, .var (Qbn v1)), (200001, .var (Qe v2)), (200002, .var [.clo (.func 173) [] [.loc 200003 0 0]]), (200003, .var (QB v3))] (Gives (.b r) [(200000, .var (Qbn v1)), (200001, .var (Qe v2)), (200002, .var [.clo (.func 173) [] [.loc 200003 0 0]]), (200003, .var (QB v3))]) := by
 refine Qc.walk 10 Tryz.func175 rfl Tryz.ntmps175 rfl fun C hC => ?_
 unfold Qcq at h
 obtain ⟨_, hk5, h⟩ := Qb h
 replace hk5 := chkE hk5
 obtain ⟨x6, hx6, h⟩ := Qb h
 refine Qa hC [.n 6, .keep [0, 1, 2, 3] [200000, 200001, 200002, 200003]] rfl tt_ ?_
 refine AK.draw2 Qo hC mixed [.a .no none false, .a .no none false, .a (.any (.sl 2 (((v1.drop 0).take (v2.toNat - 0)).map QB)) none) none false, .a .no none false, .a (.any (.b x6) none) none false, .a .no none false, .m .s] [] [] [3] [200000, 200001, 200002, 200003] rfl rfl rfl ⟨⟨tt_, (fun σ h1 h2 _ => Stp.sliceD rfl rfl (bleN hC.n rfl) (h1 _ _ rfl) (Qo.es rfl) Bnd.no (Bnd.val (h1 _ _ rfl) (of_decide_eq_true (Qlh hk5)) rfl) (of_decide_eq_true (Qli hk5)) (Nat.le_trans (of_decide_eq_true (Qmt hk5)) (Nat.le_of_eq Qg.symm)) Qm5)⟩, (fun σ h1 h2 _ => Stp.callSame (md := .cm (.fn) [(200000, 200003)] [(200003, 200000)] [] [.d, .d] [(200000, .var (QB v3))] (.b x6) [200003]) Qo hC h1 h2 rfl ⟨⟨tt_, (QgQ _ _ hx6)⟩, ⟨rfl, tt_⟩⟩)⟩ rfl (by kernel_rfl) rfl rfl rfl ?_
 refine Qa hC [.n 2, .keep [3] [200000, 200001, 200002, 200003]] rfl tt_ ?_
 cases h
 exact AK.done (ex_ [_] (an_ (an_ rfl tt_) (gives ⟨rfl, rfl, rfl, rfl, tt_⟩)))
def Qcr (v1 : TNet) (v2 : TVar) : Option Bool :=
 (Qa6 v1.Colours v2.Colour).bind fun x4 =>
 some x4
theorem QlD (v1 : TNet) (v2 : TVar) {r : Bool} (h : Qcr v1 v2 = some r) : Qc Tryz.prog 177 [.loc 200000 0 0, .loc 200001 0 0] [(200000, .var (Qd v1)), (200001, .var (QB v2))] (Gives (.b r) [(200000, .var (Qd v1)), (200001, .var (QB v2))]) := by
 refine Qc.walk 8 Tryz.func177 rfl Tryz.ntmps177 rfl fun C hC => ?_
 unfold Qcr at h
 obtain ⟨x4, hx4, h⟩ := Qb h
 refine Qa hC [.n 11, .o (.c false [.d, .d] (.b x4)), .n 4, .keep [2] [200000, 200001]] rfl ⟨tt_, (QgC _ _ hx4)⟩ ?_
 cases h
 exact AK.done (ex_ [_] (an_ (an_ rfl tt_) (gives ⟨rfl, rfl, tt_⟩)))

end Go.Proofs
