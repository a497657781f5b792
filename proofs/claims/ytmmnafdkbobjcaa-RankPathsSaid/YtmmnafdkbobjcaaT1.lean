/- What functions of the program do, as functions over plain data, and the walks that show it: printed by a program. -/
import Derived.Test.YtmmnafdkbobjcaaXVmV
import Derived.Test.YtmmnafdkbobjcaaProg
set_option linter.unusedVariables false
set_option linter.unusedSimpArgs false
set_option linter.unusedSectionVars false
set_option linter.deprecated false
noncomputable section
namespace Go.Proofs
open Go Go.RowKit Go.Vm
-- types
structure TColour where
  Name : ByteArray
  Kind : Int
  Lo : Int
  Hi : Int
  Names : (List ByteArray)
  First : Int
  Then : Int

structure TPlace where
  Name : ByteArray
  Colour : Int
  First : (List (Int × Int))

structure TVar where
  Name : ByteArray
  Colour : Int

structure TExpr where
  Kind : Int
  Num : Int
  Kids : (List TExpr)

structure TArc where
  Place : Int
  Expr : TExpr

structure TTask where
  Name : ByteArray
  Vars : (List TVar)
  Guard : TExpr
  Join : Int
  Split : Int
  Ins : (List TArc)
  Outs : (List TArc)
  Cancel : (List Int)
  After : Int
  Many : (Int × Int × Int)

structure TNet where
  Colours : (List TColour)
  Places : (List TPlace)
  Tasks : (List TTask)
  From : Int
  To : Int

structure TMode where
  Task : Int
  Vars : (List Int)
  Ins : (List Int)
  Outs : (List Int)

structure TEdge where
  From : Int
  To : Int
  Mode : TMode

structure TSpace where
  States : (List (List (List (Int × Int))))
  Edges : (List TEdge)
  Full : Bool

structure Trank_stop where
  state : Int
  far : Int

def row_I (x : Int) : List V := [.i .i64 x]
theorem scaRows_I (l : List Int) : ∀ r ∈ l.map row_I, ∀ v ∈ r, v.sca = true := scaRows (fun _ => rfl) l

def row_A2I (x : (Int × Int)) : List V := [.i .i64 x.1, .i .i64 x.2]

def row_LA2I (x : (List (Int × Int))) : List V := [.sl 2 (x.map row_A2I)]

def row_LLA2I (x : (List (List (Int × Int)))) : List V := [.sl 1 (x.map row_LA2I)]

def row_LI (x : (List Int)) : List V := [.sl 1 (x.map row_I)]

def row_TMode (x : TMode) : List V := [.i .i64 x.Task, .sl 1 (x.Vars.map row_I), .sl 1 (x.Ins.map row_I), .sl 1 (x.Outs.map row_I)]

def row_TEdge (x : TEdge) : List V := [.i .i64 x.From, .i .i64 x.To, .i .i64 x.Mode.Task, .sl 1 (x.Mode.Vars.map row_I), .sl 1 (x.Mode.Ins.map row_I), .sl 1 (x.Mode.Outs.map row_I)]

def row_LLLA2I (x : (List (List (List (Int × Int))))) : List V := [.sl 1 (x.map row_LLA2I)]

def row_LTEdge (x : (List TEdge)) : List V := [.sl 6 (x.map row_TEdge)]

def row_B (x : Bool) : List V := [.b x]
theorem scaRows_B (l : List Bool) : ∀ r ∈ l.map row_B, ∀ v ∈ r, v.sca = true := scaRows (fun _ => rfl) l

def row_TSpace (x : TSpace) : List V := [.sl 1 (x.States.map row_LLA2I), .sl 6 (x.Edges.map row_TEdge), .b x.Full]

def row_S (x : ByteArray) : List V := [.s x]
theorem scaRows_S (l : List ByteArray) : ∀ r ∈ l.map row_S, ∀ v ∈ r, v.sca = true := scaRows (fun _ => rfl) l

def row_TPlace (x : TPlace) : List V := [.s x.Name, .i .i64 x.Colour, .sl 2 (x.First.map row_A2I)]

def row_LS (x : (List ByteArray)) : List V := [.sl 1 (x.map row_S)]

def row_TColour (x : TColour) : List V := [.s x.Name, .i .i64 x.Kind, .i .i64 x.Lo, .i .i64 x.Hi, .sl 1 (x.Names.map row_S), .i .i64 x.First, .i .i64 x.Then]

def row_LTColour (x : (List TColour)) : List V := [.sl 7 (x.map row_TColour)]

def row_LTPlace (x : (List TPlace)) : List V := [.sl 3 (x.map row_TPlace)]

def row_TVar (x : TVar) : List V := [.s x.Name, .i .i64 x.Colour]

def row_LTVar (x : (List TVar)) : List V := [.sl 2 (x.map row_TVar)]

mutual
def row_TExpr : TExpr → List V
  | ⟨x0, x1, x2⟩ => [.i .i64 x0, .i .i64 x1, .sl 3 (rowL_TExpr x2)]
def rowL_TExpr : List TExpr → List (List V)
  | [] => []
  | e :: es => row_TExpr e :: rowL_TExpr es
end

theorem rowL_TExpr_map : ∀ l : List TExpr, rowL_TExpr l = l.map row_TExpr
  | [] => rfl
  | e :: es => by rw [rowL_TExpr, rowL_TExpr_map es]; rfl

def row_TArc (x : TArc) : List V := [.i .i64 x.Place, .i .i64 x.Expr.Kind, .i .i64 x.Expr.Num, .sl 3 (rowL_TExpr x.Expr.Kids)]

def row_LTArc (x : (List TArc)) : List V := [.sl 4 (x.map row_TArc)]

def row_A3I (x : (Int × Int × Int)) : List V := [.i .i64 x.1, .i .i64 x.2.1, .i .i64 x.2.2]

def row_TTask (x : TTask) : List V := [.s x.Name, .sl 2 (x.Vars.map row_TVar), .i .i64 x.Guard.Kind, .i .i64 x.Guard.Num, .sl 3 (rowL_TExpr x.Guard.Kids), .i .i64 x.Join, .i .i64 x.Split, .sl 4 (x.Ins.map row_TArc), .sl 4 (x.Outs.map row_TArc), .sl 1 (x.Cancel.map row_I), .i .i64 x.After, .i .i64 x.Many.1, .i .i64 x.Many.2.1, .i .i64 x.Many.2.2]

def row_LTTask (x : (List TTask)) : List V := [.sl 14 (x.map row_TTask)]

def row_TNet (x : TNet) : List V := [.sl 7 (x.Colours.map row_TColour), .sl 3 (x.Places.map row_TPlace), .sl 14 (x.Tasks.map row_TTask), .i .i64 x.From, .i .i64 x.To]

def row_LTExpr (x : (List TExpr)) : List V := [.sl 3 (rowL_TExpr x)]

def row_Trank_stop (x : Trank_stop) : List V := [.i .i64 x.state, .i .i64 x.far]

-- facts
theorem ky_3 : KeyOf Try.prog 3 (V.i .i64) (Value.int .i64) := KeyOf.int (by kernel_rfl)
theorem me_64_Pop : (methF Try.prog 64 "Pop" = some (70, true) ∧ ptrB Try.prog 64 = true) ∨ (methF Try.prog 64 "Pop" = some (70, false) ∧ noPtrB Try.prog 64 = true) := .inl ⟨by kernel_rfl, by kernel_rfl⟩
theorem me_64_Push : (methF Try.prog 64 "Push" = some (71, true) ∧ ptrB Try.prog 64 = true) ∨ (methF Try.prog 64 "Push" = some (71, false) ∧ noPtrB Try.prog 64 = true) := .inl ⟨by kernel_rfl, by kernel_rfl⟩
theorem mixed : Try.prog.follows .mixedOrders = true := by kernel_rfl
theorem mt_59 : mapT Try.prog 59 = some (3, 31) := by kernel_rfl
theorem mt_72 : mapT Try.prog 72 = some (3, 3) := by kernel_rfl
theorem mt_89 : mapT Try.prog 89 = some (3, 3) := by kernel_rfl
theorem mv_64_Len : methF Try.prog 64 "Len" = some (31, false) ∧ elemB Try.prog 64 62 = true ∧ aggB Try.prog 62 = some false := ⟨by kernel_rfl, by kernel_rfl, by kernel_rfl⟩
theorem mv_64_Less : methF Try.prog 64 "Less" = some (68, false) ∧ elemB Try.prog 64 62 = true ∧ aggB Try.prog 62 = some false := ⟨by kernel_rfl, by kernel_rfl, by kernel_rfl⟩
theorem mv_64_Swap : methF Try.prog 64 "Swap" = some (69, false) ∧ elemB Try.prog 64 62 = true ∧ aggB Try.prog 62 = some false := ⟨by kernel_rfl, by kernel_rfl, by kernel_rfl⟩
theorem nz_31 : nilZ Try.prog 31 = true := by kernel_rfl
theorem zi_3 : ZeroIs Try.prog 3 ((V.i .i64) 0) := ZeroIs.one (v := .int .i64 0) (by kernel_rfl)
theorem zi_31 : ZeroIs Try.prog 31 ((fun x => V.sl 1 (x.map row_I)) ([] : (List Int))) := ZeroIs.sl (by kernel_rfl)
theorem zv_3 : zeroV Try.prog 3 = some [.i .i64 0] := by kernel_rfl
theorem zv_26 : zeroV Try.prog 26 = some [.lit (.slice none 0 0), .lit (.slice none 0 0), .lit (.slice none 0 0), .i .i64 0, .i .i64 0] := by kernel_rfl
theorem zv_30 : zeroV Try.prog 30 = some [.lit (.slice none 0 0), .lit (.slice none 0 0), .b false] := by kernel_rfl
theorem zv_42 : zeroV Try.prog 42 = some [.i .i64 0, .lit (.slice none 0 0), .lit (.slice none 0 0), .lit (.slice none 0 0)] := by kernel_rfl
theorem zv_44 : zeroV Try.prog 44 = some [.i .i64 0, .i .i64 0, .i .i64 0, .lit (.slice none 0 0), .lit (.slice none 0 0), .lit (.slice none 0 0)] := by kernel_rfl
theorem zv_47 : zeroV Try.prog 47 = some [.lit (.slice none 0 0)] := by kernel_rfl
theorem zv_54 : zeroV Try.prog 54 = some [.i .i64 0, .i .i64 0] := by kernel_rfl
theorem zv_56 : zeroV Try.prog 56 = some [.lit (.slice none 0 0)] := by kernel_rfl
theorem zv_62 : zeroV Try.prog 62 = some [.lit (.slice none 0 0)] := by kernel_rfl
theorem zv_66 : zeroV Try.prog 66 = some [.i .i64 0, .i .i64 0] := by kernel_rfl
theorem zv_72 : zeroV Try.prog 72 = some [.lit (.map none)] := by kernel_rfl
theorem zv_79 : zeroV Try.prog 79 = some [.s (⟨#[]⟩ : ByteArray), .i .i64 0, .lit (.slice none 0 0)] := by kernel_rfl
def tab : Tab := { ag := [(3, false), (23, false), (26, true), (27, false), (28, false), (30, true), (31, false), (42, true), (44, true), (47, false), (54, true), (56, false), (62, false), (66, true), (72, false)], sz := [(3, 1), (26, 5), (30, 3), (42, 4), (44, 6), (54, 2), (62, 1), (66, 2), (72, 1)], fo := [(26, [0, 1, 2, 3, 4]), (30, [0, 1, 2]), (44, [0, 1, 2]), (66, [0, 1])], sp := [(26, [(0, 1), (1, 1), (2, 1), (3, 1), (4, 1)]), (30, [(0, 1), (1, 1), (2, 1)]), (44, [(0, 1), (1, 1), (2, 4)]), (66, [(0, 1), (1, 1)]), (79, [(0, 1), (1, 1), (2, 1)])], es := [(23, (79, 3, 48)), (27, (47, 1, 24)), (28, (44, 6, 96)), (31, (3, 1, 8)), (47, (56, 1, 24)), (51, (42, 4, 80)), (56, (54, 2, 16)), (62, (66, 2, 16))], ar := [(54, (2, 1))], zv := [(3, [.i .i64 0]), (26, [.lit (.slice none 0 0), .lit (.slice none 0 0), .lit (.slice none 0 0), .i .i64 0, .i .i64 0]), (30, [.lit (.slice none 0 0), .lit (.slice none 0 0), .b false]), (42, [.i .i64 0, .lit (.slice none 0 0), .lit (.slice none 0 0), .lit (.slice none 0 0)]), (44, [.i .i64 0, .i .i64 0, .i .i64 0, .lit (.slice none 0 0), .lit (.slice none 0 0), .lit (.slice none 0 0)]), (47, [.lit (.slice none 0 0)]), (54, [.i .i64 0, .i .i64 0]), (56, [.lit (.slice none 0 0)]), (62, [.lit (.slice none 0 0)]), (66, [.i .i64 0, .i .i64 0]), (72, [.lit (.map none)]), (79, [.s (⟨#[]⟩ : ByteArray), .i .i64 0, .lit (.slice none 0 0)])], sb := [], bo := [4], cc := [9, 64, 66], en := [8, 9, 10, 11, 12, 13, 14, 15, 16, 17, 18, 19, 20, 21, 22, 23, 24, 25, 26, 27, 28, 29, 30, 31, 32, 33, 34, 35, 36, 37, 38, 39, 40, 41, 42, 43, 44, 45, 46, 47, 48, 49, 50, 51, 68, 69, 70, 71] }
theorem tab_ok : TabOk Try.prog tab := Tab.ok (by kernel_rfl) (List.forall_mem_cons.2 ⟨zv_3, List.forall_mem_cons.2 ⟨zv_26, List.forall_mem_cons.2 ⟨zv_30, List.forall_mem_cons.2 ⟨zv_42, List.forall_mem_cons.2 ⟨zv_44, List.forall_mem_cons.2 ⟨zv_47, List.forall_mem_cons.2 ⟨zv_54, List.forall_mem_cons.2 ⟨zv_56, List.forall_mem_cons.2 ⟨zv_62, List.forall_mem_cons.2 ⟨zv_66, List.forall_mem_cons.2 ⟨zv_72, List.forall_mem_cons.2 ⟨zv_79, fun _ h => (by cases h)⟩⟩⟩⟩⟩⟩⟩⟩⟩⟩⟩⟩)
-- 25 baldric/baldriclaw16.net
def F_law16_net  : Option TNet :=
  some (TNet.mk ([] : (List TColour)) ([(TPlace.mk (⟨#[97]⟩ : ByteArray) 0 ([] : (List (Int × Int)))), (TPlace.mk (⟨#[98]⟩ : ByteArray) 0 ([] : (List (Int × Int)))), (TPlace.mk (⟨#[99]⟩ : ByteArray) 0 ([] : (List (Int × Int))))] : List TPlace) ([] : (List TTask)) 0 2)

set_option maxRecDepth 100000 in
set_option maxHeartbeats 4000000 in
theorem F_law16_net_ok  {r : TNet} (h : F_law16_net = some r) : ACalls Try.prog 25 [] [] (Gives (.agg (row_TNet r)) []) := by
  refine ACalls.walk 6 Try.func25 rfl Try.ntmps25 rfl fun C hC => ?_
  unfold F_law16_net at h
  refine AK.go tab_ok hC [.n 7, .v .no [none, none, some 2] (.agg (row_TPlace (TPlace.mk (⟨#[97]⟩ : ByteArray) 0 ([] : (List (Int × Int)))))), .v .no [none, none, some 2] (.agg (row_TPlace (TPlace.mk (⟨#[98]⟩ : ByteArray) 0 ([] : (List (Int × Int)))))), .v .no [none, none, some 2] (.agg (row_TPlace (TPlace.mk (⟨#[99]⟩ : ByteArray) 0 ([] : (List (Int × Int)))))), .v (.bd []) [] (.sl 3 (([(TPlace.mk (⟨#[97]⟩ : ByteArray) 0 ([] : (List (Int × Int)))), (TPlace.mk (⟨#[98]⟩ : ByteArray) 0 ([] : (List (Int × Int)))), (TPlace.mk (⟨#[99]⟩ : ByteArray) 0 ([] : (List (Int × Int))))] : List TPlace).map row_TPlace)), .v .no [some 7, none, some 14, none, none] (.agg (row_TNet (TNet.mk ([] : (List TColour)) ([(TPlace.mk (⟨#[97]⟩ : ByteArray) 0 ([] : (List (Int × Int)))), (TPlace.mk (⟨#[98]⟩ : ByteArray) 0 ([] : (List (Int × Int)))), (TPlace.mk (⟨#[99]⟩ : ByteArray) 0 ([] : (List (Int × Int))))] : List TPlace) ([] : (List TTask)) 0 2))), .n 1, .sayO 0 (.var (row_TNet (TNet.mk ([] : (List TColour)) ([(TPlace.mk (⟨#[97]⟩ : ByteArray) 0 ([] : (List (Int × Int)))), (TPlace.mk (⟨#[98]⟩ : ByteArray) 0 ([] : (List (Int × Int)))), (TPlace.mk (⟨#[99]⟩ : ByteArray) 0 ([] : (List (Int × Int))))] : List TPlace) ([] : (List TTask)) 0 2))), .n 3, .keep [0] [0]] rfl ⟨⟨⟨⟨⟨⟨trivial, rfl⟩, rfl⟩, rfl⟩, rfl⟩, rfl⟩, rfl⟩ ?_
  obtain rfl := Option.some.inj h
  refine AK.done ?_
  exact Exists.intro [_] (And.intro (And.intro (Exists.intro _ (Exists.intro _ (And.intro rfl (And.intro rfl (Or.inl (And.intro (tab_ok.ag rfl) (And.intro (tab_ok.sz rfl) rfl))))))) trivial) (gives trivial))

-- 51 baldric/bag.Right
def F_bag_Right_l1 (b1 : (List (Int × Int))) (last4 : Int) (x5 : Int) : Option ((Int × Int) ⊕ (Unit ⊕ Unit)) :=
  bif (decide (x5 < (b1.length : Int))) then
  (idx b1 x5).bind fun e9 =>
  bif ((decide (e9.1 ≤ last4)) || ((decide (e9.2 < 1)) || (decide (1048576 < e9.2)))) then
  some (.inr (.inl ()))
  else
  some (.inl (e9.1, (w64 (x5 + 1))))
  else
  some (.inr (.inr ()))

def F_bag_Right_c2 : Option Bool :=
  some false

def F_bag_Right_c3 : Option Bool :=
  some true

def F_bag_Right (b1 : (List (Int × Int))) : Option Bool :=
  (loopM (fun st => F_bag_Right_l1 b1 st.1 st.2) ((-1), 0)).bind (Sum.elim (fun q => F_bag_Right_c2) (fun q => F_bag_Right_c3))

set_option maxRecDepth 100000 in
set_option maxHeartbeats 4000000 in
theorem F_bag_Right_ok (b1 : (List (Int × Int))) {r : Bool} (h : F_bag_Right b1 = some r) : ACalls Try.prog 51 [.sl 2 (b1.map row_A2I)] [] (Gives (.b r) []) := by
  refine ACalls.walk 29 Try.func51 rfl Try.ntmps51 rfl fun C hC => ?_
  unfold F_bag_Right at h
  refine AK.go tab_ok hC [.n 14, .o (.ln b1.length), .n 4, .keep [3, 6, 7, 8] []] rfl ⟨trivial, mapLen⟩ ?_
  obtain ⟨o14, hl14, h⟩ := bindE h
  refine AK.loop (body := (fun st => F_bag_Right_l1 b1 st.1 st.2)) (fun st σ => σ = ⟨[(3, .i .i64 st.1), (6, .sl 2 (b1.map row_A2I)), (7, .i .i64 (b1.length : Int)), (8, .i .i64 st.2)], []⟩) (Sum.elim (fun q e σ => e = .ret ∧ σ = ⟨[(2, .b false)], []⟩) (fun q e σ => e = .exit 0 ∧ σ = ⟨[], []⟩)) hl14 rfl ?_ ?_
  · rintro ⟨last4, x5⟩ o σ rfl h
    replace h : F_bag_Right_l1 b1 last4 x5 = some o := h
    unfold F_bag_Right_l1 at h
    refine AK.go tab_ok hC [.n 6] rfl trivial ?_
    rcases bifE h with ⟨hc8, h⟩ | ⟨hc8, h⟩
    · obtain ⟨e9, he9, h⟩ := bindE h
      refine AK.go tab_ok hC [.br true, .n 6, .o (.row (row_A2I e9)), .v .no [] (.agg (row_A2I e9)), .n 2, .sayO 5 (.var (row_A2I e9)), .n 4] rfl ⟨⟨⟨⟨trivial, hc8⟩, (idxM he9)⟩, rfl⟩, rfl⟩ ?_
      refine AK.meetX (fun σ => σ = ⟨[(5, .loc 5 0 0), (6, .sl 2 (b1.map row_A2I)), (7, .i .i64 (b1.length : Int)), (8, .i .i64 x5), (25, .b ((decide (e9.1 ≤ last4)) || ((decide (e9.2 < 1)) || (decide (1048576 < e9.2)))))], [(5, .var (row_A2I e9))]⟩) ?_ ?_
      · refine AK.go tab_ok hC [.n 6] rfl trivial ?_
        rcases boolOr (decide (e9.1 ≤ last4)) with hc11 | hc11
        · refine AK.go tab_ok hC [.say 16 (.b true), .n 10, .say 25 (.b ((decide (e9.1 ≤ last4)) || ((decide (e9.2 < 1)) || (decide (1048576 < e9.2))))), .keep [5, 6, 7, 8, 25] [5]] rfl ⟨⟨trivial, (congrArg V.b hc11)⟩, (congrArg V.b (orT hc11 rfl))⟩ ?_
          exact AK.met rfl
        · refine AK.go tab_ok hC [.say 16 (.b false), .n 5] rfl ⟨trivial, (congrArg V.b hc11)⟩ ?_
          rcases boolOr (decide (e9.2 < 1)) with hc12 | hc12
          · refine AK.go tab_ok hC [.say 21 (.b true), .n 5, .say 25 (.b ((decide (e9.1 ≤ last4)) || ((decide (e9.2 < 1)) || (decide (1048576 < e9.2))))), .keep [5, 6, 7, 8, 25] [5]] rfl ⟨⟨trivial, (congrArg V.b hc12)⟩, (congrArg V.b (orF hc11 (orT hc12 rfl)))⟩ ?_
            exact AK.met rfl
          · refine AK.go tab_ok hC [.say 21 (.b false), .n 5, .say 25 (.b ((decide (e9.1 ≤ last4)) || ((decide (e9.2 < 1)) || (decide (1048576 < e9.2))))), .keep [5, 6, 7, 8, 25] [5]] rfl ⟨⟨trivial, (congrArg V.b hc12)⟩, (congrArg V.b (orF hc11 (orF hc12 rfl)))⟩ ?_
            exact AK.met rfl
      · rintro σ rfl
        refine AK.go tab_ok hC [.n 1] rfl trivial ?_
        rcases bifE h with ⟨hc13, h⟩ | ⟨hc13, h⟩
        · refine AK.go tab_ok hC [.br true, .n 9, .keep [2] []] rfl ⟨trivial, hc13⟩ ?_
          obtain rfl := Option.some.inj h
          exact rndR rfl (And.intro rfl rfl)
        · refine AK.go tab_ok hC [.br false, .n 13, .keep [3, 6, 7, 8] []] rfl ⟨trivial, hc13⟩ ?_
          obtain rfl := Option.some.inj h
          exact rndN rfl rfl
    · refine AK.go tab_ok hC [.br false, .n 2, .keep [] []] rfl ⟨trivial, hc8⟩ ?_
      obtain rfl := Option.some.inj h
      exact rndX rfl (And.intro rfl rfl)
  · rcases o14 with (_ | _)
    · replace h : F_bag_Right_c2 = some r := h
      unfold F_bag_Right_c2 at h
      rintro e σ ⟨rfl, rfl⟩
      refine AK.go tab_ok hC [.n 2, .keep [2] []] rfl trivial ?_
      obtain rfl := Option.some.inj h
      refine AK.done ?_
      exact Exists.intro [_] (And.intro (And.intro rfl trivial) (gives trivial))
    · replace h : F_bag_Right_c3 = some r := h
      unfold F_bag_Right_c3 at h
      rintro e σ ⟨rfl, rfl⟩
      refine AK.go tab_ok hC [.n 8, .keep [2] []] rfl trivial ?_
      obtain rfl := Option.some.inj h
      refine AK.done ?_
      exact Exists.intro [_] (And.intro (And.intro rfl trivial) (gives trivial))

-- 48 baldric/bag.of
def F_bag_of_l1 (b1 : (List (Int × Int))) (x6 : Int) (m7 : (List (Int × Int))) : Option ((Int × (List (Int × Int))) ⊕ (List (Int × Int))) :=
  bif (decide (x6 < (b1.length : Int))) then
  (idx b1 x6).bind fun e12 =>
  some (.inl ((w64 (x6 + 1)), (mset ltI m7 e12.1 e12.2)))
  else
  some (.inr m7)

def F_bag_of_c2 (m10 : (List (Int × Int))) : Option (Unit ⊕ (List (Int × Int))) :=
  some (.inr m10)

def F_bag_of (b1 : (List (Int × Int))) : Option (Unit ⊕ (List (Int × Int))) :=
  (F_bag_Right b1).bind fun x3 =>
  bif (!x3) then
  some (.inl ())
  else
  (loopM (fun st => F_bag_of_l1 b1 st.1 st.2) (0, ([] : (List (Int × Int))))).bind (fun q => F_bag_of_c2 q)

set_option maxRecDepth 100000 in
set_option maxHeartbeats 4000000 in
theorem F_bag_of_ok (b1 : (List (Int × Int))) {r : (Unit ⊕ (List (Int × Int)))} (h : F_bag_of b1 = some r) : ACalls Try.prog 48 [.sl 2 (b1.map row_A2I)] [] ((Sum.elim (fun q => (Gives (.tup [.lit (.map none), .b false]) [])) (fun q => (Gives (.tup [.map 30002, .b true]) [(30002, .map (mapV (V.i .i64) (V.i .i64) q))]))) r) := by
  refine ACalls.walk 24 Try.func48 rfl Try.ntmps48 rfl fun C hC => ?_
  unfold F_bag_of at h
  obtain ⟨x3, hx3, h⟩ := bindE h
  refine AK.go tab_ok hC [.n 10, .o (.c false [.d] (.b x3)), .n 3] rfl ⟨trivial, (F_bag_Right_ok _ hx3)⟩ ?_
  rcases bifE h with ⟨hc4, h⟩ | ⟨hc4, h⟩
  · refine AK.go tab_ok hC [.br true, .n 8, .keep [2, 3] []] rfl ⟨trivial, hc4⟩ ?_
    obtain rfl := Option.some.inj h
    refine AK.done ?_
    exact Exists.intro [_, _] (And.intro (And.intro rfl (And.intro rfl trivial)) (gives trivial))
  · refine AK.go tab_ok hC [.br false, .n 5, .sayO 10 (.map (mapV (V.i .i64) (V.i .i64) ([] : (List (Int × Int))))), .n 7, .o (.ln b1.length), .n 4, .keep [4, 11, 12, 13] [10]] rfl ⟨⟨⟨trivial, hc4⟩, rfl⟩, mapLen⟩ ?_
    obtain ⟨m10, hl13, h⟩ := bindE h
    refine AK.loop (body := (fun st => F_bag_of_l1 b1 st.1 st.2)) (fun st σ => σ = ⟨[(4, .map 10), (11, .sl 2 (b1.map row_A2I)), (12, .i .i64 (b1.length : Int)), (13, .i .i64 st.1)], [(10, .map (mapV (V.i .i64) (V.i .i64) st.2))]⟩) (fun q e σ => e = .exit 0 ∧ σ = ⟨[(4, .map 10)], [(10, .map (mapV (V.i .i64) (V.i .i64) q))]⟩) hl13 rfl ?_ ?_
    · rintro ⟨x6, m7⟩ o σ rfl h
      replace h : F_bag_of_l1 b1 x6 m7 = some o := h
      unfold F_bag_of_l1 at h
      refine AK.go tab_ok hC [.n 6] rfl trivial ?_
      rcases bifE h with ⟨hc11, h⟩ | ⟨hc11, h⟩
      · obtain ⟨e12, he12, h⟩ := bindE h
        refine AK.go tab_ok hC [.br true, .n 6, .o (.row (row_A2I e12)), .v .no [] (.agg (row_A2I e12)), .n 2, .sayO 6 (.var (row_A2I e12)), .n 8, .x (fun σ => σ.set 10 (.map (mapV (V.i .i64) (V.i .i64) (mset ltI m7 e12.1 e12.2)))), .n 7, .keep [4, 11, 12, 13] [10]] rfl ⟨⟨⟨⟨⟨trivial, hc11⟩, (idxM he12)⟩, rfl⟩, rfl⟩, (Stp.mapUpdate (e := (V.i .i64)) (f := (V.i .i64)) (l := m7) (k := e12.1) (v := e12.2) ltI rfl rfl rfl rfl rfl rfl mt_89 ky_3 rfl)⟩ ?_
        obtain rfl := Option.some.inj h
        exact rndN rfl rfl
      · refine AK.go tab_ok hC [.br false, .n 2, .keep [4] [10]] rfl ⟨trivial, hc11⟩ ?_
        obtain rfl := Option.some.inj h
        exact rndX rfl (And.intro rfl rfl)
    · replace h : F_bag_of_c2 m10 = some r := h
      unfold F_bag_of_c2 at h
      rintro e σ ⟨rfl, rfl⟩
      refine AK.go tab_ok hC [.n 10, .keep [2, 3] [10], .ren 10 30002, .keep [2, 3] [30002]] rfl trivial ?_
      obtain rfl := Option.some.inj h
      refine AK.done ?_
      exact Exists.intro [_, _] (And.intro (And.intro rfl (And.intro rfl trivial)) (gives ⟨rfl, trivial⟩))

-- 38 baldric/bag.Total
def F_bag_Total_a1 (a5 : Unit) : Option Int :=
  some 0

def F_bag_Total_m2 (n9 : Int) (k11 : Int) (v12 : Int) : Option (Int ⊕ Empty) :=
  some (.inl (w64 (n9 + v12)))

def F_bag_Total_c3 (n9 : Int) : Option Int :=
  some n9

def F_bag_Total_a4 (a6 : (List (Int × Int))) : Option Int :=
  (rangeM (fun st p => F_bag_Total_m2 st p.1 p.2) 0 a6).bind (Sum.elim (fun q => F_bag_Total_c3 q) (fun q => Empty.elim q))

def F_bag_Total (b1 : (List (Int × Int))) : Option Int :=
  (F_bag_of b1).bind (Sum.elim (fun q => F_bag_Total_a1 q) (fun q => F_bag_Total_a4 q))

set_option maxRecDepth 100000 in
set_option maxHeartbeats 4000000 in
theorem F_bag_Total_ok (b1 : (List (Int × Int))) {r : Int} (h : F_bag_Total b1 = some r) : ACalls Try.prog 38 [.sl 2 (b1.map row_A2I)] [] (Gives (.i .i64 r) []) := by
  refine ACalls.walk 23 Try.func38 rfl Try.ntmps38 rfl fun C hC => ?_
  unfold F_bag_Total at h
  obtain ⟨x4, hx4, h⟩ := bindE h
  refine AK.go tab_ok hC [.n 8] rfl trivial ?_
  rcases x4 with (a5 | a6)
  · replace h : F_bag_Total_a1 a5 = some r := h
    unfold F_bag_Total_a1 at h
    refine AK.go tab_ok hC [.cm (.fn) [] [] [] [.d] [] (.tup [.lit (.map none), .b false]), .n 16, .x (fun σ => (σ.set 14 .itr0).put 14 (.loc 14 0 0)), .n 3] rfl ⟨⟨trivial, (F_bag_of_ok _ hx4)⟩, (Stp.range0 rfl rfl (hC ▸ rfl) rfl mt_89 rfl)⟩ ?_
    refine AK.loopOnce ?_
    refine AK.go tab_ok hC [.n 2, .x (fun σ => σ.put 15 (.tup [.b false])), .n 17, .keep [2] []] rfl ⟨trivial, (Stp.next0 rfl rfl (hC ▸ rfl) rfl rfl)⟩ ?_
    obtain rfl := Option.some.inj h
    refine AK.done ?_
    exact Exists.intro [_] (And.intro (And.intro rfl trivial) (gives trivial))
  · replace h : F_bag_Total_a4 a6 = some r := h
    unfold F_bag_Total_a4 at h
    refine AK.go tab_ok hC [.cm (.fn) [] [(10, 30002)] [] [.d] [(30002, .map (mapV (V.i .i64) (V.i .i64) a6))] (.tup [.map 30002, .b true]), .n 16] rfl ⟨trivial, (F_bag_of_ok _ hx4)⟩ ?_
    refine AK.openMap (b := 10) ky_3 rfl fun bm7 cl7 L7 hbn7 hpm7 => ?_
    refine AK.go tab_ok hC [.x (fun σ => (σ.set 14 (.itr bm7 cl7 #[] none)).put 14 (.loc 14 0 0)), .n 3, .keep [5, 14] [10, 14]] rfl ⟨trivial, (Stp.range (b := 10) rfl rfl (hC ▸ rfl) rfl rfl mt_89 rfl)⟩ ?_
    obtain ⟨o13, hl13, h⟩ := bindE h
    refine AK.range (body := (fun st p => F_bag_Total_m2 st p.1 p.2)) (fun st seen σ => ∃ cur : Option MapEntry, σ = ⟨[(5, .i .i64 st), (14, .loc 14 0 0)], [(10, .mapX bm7 cl7 (typV (V.i .i64) (V.i .i64) L7) (mapV (V.i .i64) (V.i .i64) a6)), (14, .itr bm7 cl7 seen cur)]⟩) (fun (q : Empty) _ _ => False) (fun st e σ => e = .exit 0 ∧ σ = ⟨[(5, .i .i64 st)], []⟩) hbn7 hpm7 hl13 (Exists.intro _ rfl) ?_ ?_
    · rintro n9 seen σ ⟨cur, rfl⟩ hex
      refine AK.go tab_ok hC [.n 2] rfl trivial ?_
      refine AK.nextT (b := 14) (m := 10) rfl rfl rfl (hC ▸ rfl) rfl rfl rfl rfl ?_ ?_
      · intro hleft
        refine AK.go tab_ok hC [.n 7, .keep [5] []] rfl trivial ?_
        exact AK.done (Or.inl (And.intro hleft (And.intro (fun h => (by cases h)) (And.intro rfl rfl))))
      · intro xk11 k11 v12 hq8
        obtain ⟨o, h⟩ := hex _ hq8
        have ho := h
        replace h : F_bag_Total_m2 n9 k11 v12 = some o := h
        unfold F_bag_Total_m2 at h
        refine AK.go tab_ok hC [.n 10, .x (fun σ => σ.put 17 (.tup [.i .i64 k11, .i .i64 v12])), .n 11, .keep [5, 14] [10, 14]] rfl ⟨trivial, (Stp.entryT (b := 14) (m := 10) rfl rfl (hC ▸ rfl) rfl hq8 rfl rfl)⟩ ?_
        obtain rfl := Option.some.inj h
        exact AK.done (Or.inr (Exists.intro _ (And.intro hq8 (Or.inl (Exists.intro _ (And.intro ho (And.intro rfl (Exists.intro _ rfl))))))))
    · rcases o13 with (n9 | q)
      · replace h : F_bag_Total_c3 n9 = some r := h
        unfold F_bag_Total_c3 at h
        rintro e σ ⟨rfl, rfl⟩
        refine AK.go tab_ok hC [.n 9, .keep [2] []] rfl trivial ?_
        obtain rfl := Option.some.inj h
        refine AK.done ?_
        exact Exists.intro [_] (And.intro (And.intro rfl trivial) (gives trivial))
      · exact q.elim

-- 37 baldric/mark.Ended
def F_mark_Ended_g1 (n1 : TNet) (m2 : (List (List (Int × Int)))) : Option Bool :=
  bif (decide (0 ≤ n1.To)) then
  bif (decide (n1.To < (m2.length : Int))) then
  (idx m2 n1.To).bind fun e8 =>
  (F_bag_Total e8).bind fun x9 =>
  some (decide (0 < x9))
  else
  some false
  else
  some false

def F_mark_Ended_k2 (x4 : Bool) : Option Bool :=
  some x4

def F_mark_Ended (n1 : TNet) (m2 : (List (List (Int × Int)))) : Option Bool :=
  (F_mark_Ended_g1 n1 m2).bind (fun x4 => F_mark_Ended_k2 x4)

set_option maxRecDepth 100000 in
set_option maxHeartbeats 4000000 in
theorem F_mark_Ended_ok (n1 : TNet) (m2 : (List (List (Int × Int)))) {r : Bool} (h : F_mark_Ended n1 m2 = some r) : ACalls Try.prog 37 [.agg (row_TNet n1), .sl 1 (m2.map row_LA2I)] [] (Gives (.b r) []) := by
  refine ACalls.walk 24 Try.func37 rfl Try.ntmps37 rfl fun C hC => ?_
  unfold F_mark_Ended at h
  refine AK.go tab_ok hC [.n 7] rfl trivial ?_
  obtain ⟨x4, hv5, h⟩ := bindE h
  replace h : F_mark_Ended_k2 x4 = some r := h
  refine AK.meetX (fun σ => σ = ⟨[(4, .b x4)], []⟩) ?_ ?_
  · replace h := hv5
    unfold F_mark_Ended_g1 at h
    refine AK.go tab_ok hC [.n 5] rfl trivial ?_
    rcases bifE h with ⟨hc6, h⟩ | ⟨hc6, h⟩
    · refine AK.go tab_ok hC [.say 8 (.b true), .n 3, .o (.ln m2.length), .n 3] rfl ⟨⟨trivial, (congrArg V.b hc6)⟩, mapLen⟩ ?_
      rcases bifE h with ⟨hc7, h⟩ | ⟨hc7, h⟩
      · obtain ⟨e8, he8, h⟩ := bindE h
        obtain ⟨x9, hx9, h⟩ := bindE h
        refine AK.go tab_ok hC [.say 15 (.b true), .n 3, .o (.row (row_LA2I e8)), .n 1, .o (.c false [.d] (.i .i64 x9)), .n 4, .keep [4] []] rfl ⟨⟨⟨trivial, (congrArg V.b hc7)⟩, (idxM he8)⟩, (F_bag_Total_ok _ hx9)⟩ ?_
        obtain rfl := Option.some.inj h
        exact AK.met rfl
      · refine AK.go tab_ok hC [.say 15 (.b false), .n 10, .keep [4] []] rfl ⟨trivial, (congrArg V.b hc7)⟩ ?_
        obtain rfl := Option.some.inj h
        exact AK.met rfl
    · refine AK.go tab_ok hC [.say 8 (.b false), .n 17, .keep [4] []] rfl ⟨trivial, (congrArg V.b hc6)⟩ ?_
      obtain rfl := Option.some.inj h
      exact AK.met rfl
  · rintro σ rfl
    replace h : F_mark_Ended_k2 x4 = some r := h
    unfold F_mark_Ended_k2 at h
    refine AK.go tab_ok hC [.n 2, .keep [4] []] rfl trivial ?_
    obtain rfl := Option.some.inj h
    refine AK.done ?_
    exact Exists.intro [_] (And.intro (And.intro rfl trivial) (gives trivial))

-- 23 baldric/mark.Final
def F_mark_Final_g1 (m2 : (List (List (Int × Int)))) (n1 : TNet) : Option Bool :=
  bif ((m2.length : Int) != (n1.Places.length : Int)) then
  some true
  else
  (F_mark_Ended n1 m2).bind fun x8 =>
  some (!x8)

def F_mark_Final_k2 (e13 : (List (Int × Int))) (x10 : Int) (most14 : Int) : Option (Int ⊕ (Unit ⊕ Unit)) :=
  (F_bag_Total e13).bind fun x15 =>
  bif (x15 != most14) then
  some (.inr (.inl ()))
  else
  some (.inl (w64 (x10 + 1)))

def F_mark_Final_l3 (m2 : (List (List (Int × Int)))) (n1 : TNet) (x10 : Int) : Option (Int ⊕ (Unit ⊕ Unit)) :=
  bif (decide (x10 < (m2.length : Int))) then
  (idx m2 x10).bind fun e13 =>
  bif (x10 == n1.To) then
  F_mark_Final_k2 e13 x10 1
  else
  F_mark_Final_k2 e13 x10 0
  else
  some (.inr (.inr ()))

def F_mark_Final_c4 : Option Bool :=
  some false

def F_mark_Final_c5 : Option Bool :=
  some true

def F_mark_Final_k6 (m2 : (List (List (Int × Int)))) (n1 : TNet) (x5 : Bool) : Option Bool :=
  bif x5 then
  some false
  else
  (loopM (fun st => F_mark_Final_l3 m2 n1 st) 0).bind (Sum.elim (fun q => F_mark_Final_c4) (fun q => F_mark_Final_c5))

def F_mark_Final (n1 : TNet) (m2 : (List (List (Int × Int)))) : Option Bool :=
  (F_mark_Final_g1 m2 n1).bind (fun x5 => F_mark_Final_k6 m2 n1 x5)

set_option maxRecDepth 100000 in
set_option maxHeartbeats 4000000 in
theorem F_mark_Final_ok (n1 : TNet) (m2 : (List (List (Int × Int)))) {r : Bool} (h : F_mark_Final n1 m2 = some r) : ACalls Try.prog 23 [.agg (row_TNet n1), .sl 1 (m2.map row_LA2I)] [] (Gives (.b r) []) := by
  refine ACalls.walk 36 Try.func23 rfl Try.ntmps23 rfl fun C hC => ?_
  unfold F_mark_Final at h
  refine AK.go tab_ok hC [.n 8] rfl trivial ?_
  obtain ⟨x5, hv6, h⟩ := bindE h
  replace h : F_mark_Final_k6 m2 n1 x5 = some r := h
  refine AK.meetX (fun σ => σ = ⟨[(1, .sl 1 (m2.map row_LA2I)), (2, .loc 2 0 0), (19, .b x5)], [(2, .var (row_TNet n1))]⟩) ?_ ?_
  · replace h := hv6
    unfold F_mark_Final_g1 at h
    refine AK.go tab_ok hC [.n 2, .o (.ln m2.length), .n 2, .o (.ln n1.Places.length), .n 2] rfl ⟨⟨trivial, mapLen⟩, mapLen⟩ ?_
    rcases bifE h with ⟨hc7, h⟩ | ⟨hc7, h⟩
    · refine AK.go tab_ok hC [.say 14 (.b true), .n 6, .keep [1, 2, 19] [2]] rfl ⟨trivial, (congrArg V.b hc7)⟩ ?_
      obtain rfl := Option.some.inj h
      exact AK.met rfl
    · obtain ⟨x8, hx8, h⟩ := bindE h
      refine AK.go tab_ok hC [.say 14 (.b false), .v .no [] (.agg (row_TNet n1)), .n 1, .o (.c false [.d, .d] (.b x8)), .n 3, .keep [1, 2, 19] [2]] rfl ⟨⟨⟨trivial, (congrArg V.b hc7)⟩, rfl⟩, (F_mark_Ended_ok _ _ hx8)⟩ ?_
      obtain rfl := Option.some.inj h
      exact AK.met rfl
  · rintro σ rfl
    replace h : F_mark_Final_k6 m2 n1 x5 = some r := h
    unfold F_mark_Final_k6 at h
    refine AK.go tab_ok hC [.n 1] rfl trivial ?_
    rcases bifE h with ⟨hc9, h⟩ | ⟨hc9, h⟩
    · refine AK.go tab_ok hC [.br true, .n 7, .keep [4] []] rfl ⟨trivial, hc9⟩ ?_
      obtain rfl := Option.some.inj h
      refine AK.done ?_
      exact Exists.intro [_] (And.intro (And.intro rfl trivial) (gives trivial))
    · refine AK.go tab_ok hC [.br false, .n 6, .o (.ln m2.length), .n 4, .keep [2, 20, 21, 22] [2]] rfl ⟨⟨trivial, hc9⟩, mapLen⟩ ?_
      obtain ⟨o18, hl18, h⟩ := bindE h
      refine AK.loop (body := (fun st => F_mark_Final_l3 m2 n1 st)) (fun st σ => σ = ⟨[(2, .loc 2 0 0), (20, .sl 1 (m2.map row_LA2I)), (21, .i .i64 (m2.length : Int)), (22, .i .i64 st)], [(2, .var (row_TNet n1))]⟩) (Sum.elim (fun q e σ => e = .ret ∧ σ = ⟨[(4, .b false)], []⟩) (fun q e σ => e = .exit 0 ∧ σ = ⟨[], []⟩)) hl18 rfl ?_ ?_
      · rintro x10 o σ rfl h
        replace h : F_mark_Final_l3 m2 n1 x10 = some o := h
        unfold F_mark_Final_l3 at h
        refine AK.go tab_ok hC [.n 6] rfl trivial ?_
        rcases bifE h with ⟨hc12, h⟩ | ⟨hc12, h⟩
        · obtain ⟨e13, he13, h⟩ := bindE h
          refine AK.go tab_ok hC [.br true, .n 7, .o (.row (row_LA2I e13)), .n 10] rfl ⟨⟨trivial, hc12⟩, (idxM he13)⟩ ?_
          refine AK.meet (fun σ => ∃ most14 : Int, σ = ⟨[(2, .loc 2 0 0), (6, .sl 2 (e13.map row_A2I)), (7, .i .i64 most14), (20, .sl 1 (m2.map row_LA2I)), (21, .i .i64 (m2.length : Int)), (22, .i .i64 x10)], [(2, .var (row_TNet n1))]⟩ ∧ F_mark_Final_k2 e13 x10 most14 = some o) ?_ ?_
          · refine AK.go tab_ok hC [.n 8] rfl trivial ?_
            rcases bifE h with ⟨hc17, h⟩ | ⟨hc17, h⟩
            · refine AK.go tab_ok hC [.br true, .n 3, .keep [2, 6, 7, 20, 21, 22] [2]] rfl ⟨trivial, hc17⟩ ?_
              exact AK.met (Exists.intro _ (And.intro rfl h))
            · refine AK.go tab_ok hC [.br false, .n 1, .keep [2, 6, 7, 20, 21, 22] [2]] rfl ⟨trivial, hc17⟩ ?_
              exact AK.met (Exists.intro _ (And.intro rfl h))
          · rintro σ ⟨most14, rfl, h⟩
            unfold F_mark_Final_k2 at h
            obtain ⟨x15, hx15, h⟩ := bindE h
            refine AK.go tab_ok hC [.n 3, .o (.c false [.d] (.i .i64 x15)), .n 4] rfl ⟨trivial, (F_bag_Total_ok _ hx15)⟩ ?_
            rcases bifE h with ⟨hc16, h⟩ | ⟨hc16, h⟩
            · refine AK.go tab_ok hC [.br true, .n 8, .keep [4] []] rfl ⟨trivial, hc16⟩ ?_
              obtain rfl := Option.some.inj h
              exact rndR rfl (And.intro rfl rfl)
            · refine AK.go tab_ok hC [.br false, .n 7, .keep [2, 20, 21, 22] [2]] rfl ⟨trivial, hc16⟩ ?_
              obtain rfl := Option.some.inj h
              exact rndN rfl rfl
        · refine AK.go tab_ok hC [.br false, .n 2, .keep [] []] rfl ⟨trivial, hc12⟩ ?_
          obtain rfl := Option.some.inj h
          exact rndX rfl (And.intro rfl rfl)
      · rcases o18 with (_ | _)
        · replace h : F_mark_Final_c4 = some r := h
          unfold F_mark_Final_c4 at h
          rintro e σ ⟨rfl, rfl⟩
          refine AK.go tab_ok hC [.n 2, .keep [4] []] rfl trivial ?_
          obtain rfl := Option.some.inj h
          refine AK.done ?_
          exact Exists.intro [_] (And.intro (And.intro rfl trivial) (gives trivial))
        · replace h : F_mark_Final_c5 = some r := h
          unfold F_mark_Final_c5 at h
          rintro e σ ⟨rfl, rfl⟩
          refine AK.go tab_ok hC [.n 8, .keep [4] []] rfl trivial ?_
          obtain rfl := Option.some.inj h
          refine AK.done ?_
          exact Exists.intro [_] (And.intro (And.intro rfl trivial) (gives trivial))

-- 11 baldric/rank.Goals
def F_rank_Goals_k1 (x5 : Int) (l11 : (List Int)) : Option ((Int × (List Int)) ⊕ (List Int)) :=
  some (.inl ((w64 (x5 + 1)), l11))

def F_rank_Goals_l2 (s2 : TSpace) (n1 : TNet) (x5 : Int) (l6 : (List Int)) : Option ((Int × (List Int)) ⊕ (List Int)) :=
  bif (decide (x5 < (s2.States.length : Int))) then
  (idx s2.States x5).bind fun e12 =>
  (F_mark_Final n1 e12).bind fun x13 =>
  bif x13 then
  (chk (decide (l6.length + ([x5] : List Int).length ≤ 4294967296))).bind fun _ =>
  F_rank_Goals_k1 x5 (l6 ++ ([x5] : List Int))
  else
  F_rank_Goals_k1 x5 l6
  else
  some (.inr l6)

def F_rank_Goals_c3 (l9 : (List Int)) : Option (List Int) :=
  some l9

def F_rank_Goals (n1 : TNet) (s2 : TSpace) : Option (List Int) :=
  (loopM (fun st => F_rank_Goals_l2 s2 n1 st.1 st.2) (0, ([] : List Int))).bind (fun q => F_rank_Goals_c3 q)

set_option maxRecDepth 100000 in
set_option maxHeartbeats 4000000 in
theorem F_rank_Goals_ok (n1 : TNet) (s2 : TSpace) {r : (List Int)} (h : F_rank_Goals n1 s2 = some r) : ACalls Try.prog 11 [.agg (row_TNet n1), .agg (row_TSpace s2)] [] (Gives (.own 30000 r.length) [(30000, .arr 1 (r.map row_I))]) := by
  refine ACalls.walk 25 Try.func11 rfl Try.ntmps11 rfl fun C hC => ?_
  unfold F_rank_Goals at h
  refine AK.go tab_ok hC [.n 17, .o (.ln s2.States.length), .n 4, .adopt 5 19 1, .sayO 19 (.arr 1 (([] : List Int).map row_I)), .say 5 (.own 19 ([] : List Int).length), .keep [2, 5, 9, 10, 11] [2, 19]] rfl ⟨⟨⟨trivial, mapLen⟩, rfl⟩, (congrArg (fun n => V.own 19 n) (by simp))⟩ ?_
  obtain ⟨l9, hl16, h⟩ := bindE h
  refine AK.loop (body := (fun st => F_rank_Goals_l2 s2 n1 st.1 st.2)) (fun st σ => σ = ⟨[(2, .loc 2 0 0), (5, .own 19 st.2.length), (9, .sl 1 (s2.States.map row_LLA2I)), (10, .i .i64 (s2.States.length : Int)), (11, .i .i64 st.1)], [(2, .var (row_TNet n1)), (19, .arr 1 (st.2.map row_I))]⟩) (fun q e σ => e = .exit 0 ∧ σ = ⟨[(5, .own 19 q.length)], [(19, .arr 1 (q.map row_I))]⟩) hl16 rfl ?_ ?_
  · rintro ⟨x5, l6⟩ o σ rfl h
    replace h : F_rank_Goals_l2 s2 n1 x5 l6 = some o := h
    unfold F_rank_Goals_l2 at h
    refine AK.go tab_ok hC [.n 6] rfl trivial ?_
    rcases bifE h with ⟨hc10, h⟩ | ⟨hc10, h⟩
    · refine AK.go tab_ok hC [.br true, .n 2] rfl ⟨trivial, hc10⟩ ?_
      refine AK.meet (fun σ => ∃ l11 : (List Int), σ = ⟨[(2, .loc 2 0 0), (5, .own 19 l11.length), (9, .sl 1 (s2.States.map row_LLA2I)), (10, .i .i64 (s2.States.length : Int)), (11, .i .i64 x5)], [(2, .var (row_TNet n1)), (19, .arr 1 (l11.map row_I))]⟩ ∧ F_rank_Goals_k1 x5 l11 = some o) ?_ ?_
      · obtain ⟨e12, he12, h⟩ := bindE h
        obtain ⟨x13, hx13, h⟩ := bindE h
        refine AK.go tab_ok hC [.n 4, .o (.row (row_LLA2I e12)), .n 7, .v .no [] (.agg (row_TNet n1)), .n 1, .o (.c false [.d, .d] (.b x13)), .n 2] rfl ⟨⟨⟨trivial, (idxM he12)⟩, rfl⟩, (F_mark_Final_ok _ _ hx13)⟩ ?_
        rcases bifE h with ⟨hc14, h⟩ | ⟨hc14, h⟩
        · obtain ⟨_, hk15, h⟩ := bindE h
          replace hk15 := chkE hk15
          refine AK.go tab_ok hC [.br true, .n 3, .v (.bd []) [] (.sl 1 (([x5] : List Int).map row_I)), .app ((l6 ++ ([x5] : List Int)).map row_I) (l6 ++ ([x5] : List Int)).length, .n 3, .keep [2, 5, 9, 10, 11] [2, 19]] rfl ⟨⟨⟨trivial, hc14⟩, rfl⟩, ⟨mapLen, appLim hk15 mapLen, mapApps, appLn mapLen⟩⟩ ?_
          exact AK.met (Exists.intro _ (And.intro rfl h))
        · refine AK.go tab_ok hC [.br false, .n 2, .keep [2, 5, 9, 10, 11] [2, 19]] rfl ⟨trivial, hc14⟩ ?_
          exact AK.met (Exists.intro _ (And.intro rfl h))
      · rintro σ ⟨l11, rfl, h⟩
        unfold F_rank_Goals_k1 at h
        refine AK.go tab_ok hC [.n 4, .keep [2, 5, 9, 10, 11] [2, 19]] rfl trivial ?_
        obtain rfl := Option.some.inj h
        exact rndN rfl rfl
    · refine AK.go tab_ok hC [.br false, .n 2, .keep [5] [19]] rfl ⟨trivial, hc10⟩ ?_
      obtain rfl := Option.some.inj h
      exact rndX rfl (And.intro rfl rfl)
  · replace h : F_rank_Goals_c3 l9 = some r := h
    unfold F_rank_Goals_c3 at h
    rintro e σ ⟨rfl, rfl⟩
    refine AK.go tab_ok hC [.n 9, .keep [4] [19], .ren 19 30000, .keep [4] [30000]] rfl trivial ?_
    obtain rfl := Option.some.inj h
    refine AK.done ?_
    exact Exists.intro [_] (And.intro (And.intro rfl trivial) (gives ⟨rfl, trivial⟩))

-- 10 baldric/baldricref03.Ints
def F_ref03_Ints_l1 (a1 : (List Int)) (b2 : (List Int)) (i6 : Int) : Option (Int ⊕ (Unit ⊕ Unit)) :=
  bif (decide (i6 < (a1.length : Int))) then
  (idx a1 i6).bind fun e9 =>
  (idx b2 i6).bind fun e10 =>
  bif (e9 != e10) then
  some (.inr (.inl ()))
  else
  some (.inl (w64 (i6 + 1)))
  else
  some (.inr (.inr ()))

def F_ref03_Ints_c2 : Option Bool :=
  some false

def F_ref03_Ints_c3 : Option Bool :=
  some true

def F_ref03_Ints (a1 : (List Int)) (b2 : (List Int)) : Option Bool :=
  bif ((a1.length : Int) != (b2.length : Int)) then
  some false
  else
  (loopM (fun st => F_ref03_Ints_l1 a1 b2 st) 0).bind (Sum.elim (fun q => F_ref03_Ints_c2) (fun q => F_ref03_Ints_c3))

set_option maxRecDepth 100000 in
set_option maxHeartbeats 4000000 in
theorem F_ref03_Ints_ok (a1 : (List Int)) (b2 : (List Int)) {r : Bool} (h : F_ref03_Ints a1 b2 = some r) : ACalls Try.prog 10 [.sl 1 (a1.map row_I), .sl 1 (b2.map row_I)] [] (Gives (.b r) []) := by
  refine ACalls.walk 26 Try.func10 rfl Try.ntmps10 rfl fun C hC => ?_
  unfold F_ref03_Ints at h
  refine AK.go tab_ok hC [.n 9, .o (.ln a1.length), .n 1, .o (.ln b2.length), .n 3] rfl ⟨⟨trivial, mapLen⟩, mapLen⟩ ?_
  rcases bifE h with ⟨hc5, h⟩ | ⟨hc5, h⟩
  · refine AK.go tab_ok hC [.br true, .n 7, .keep [4] []] rfl ⟨trivial, hc5⟩ ?_
    obtain rfl := Option.some.inj h
    refine AK.done ?_
    exact Exists.intro [_] (And.intro (And.intro rfl trivial) (gives trivial))
  · refine AK.go tab_ok hC [.br false, .n 9, .keep [0, 1, 5] []] rfl ⟨trivial, hc5⟩ ?_
    obtain ⟨o12, hl12, h⟩ := bindE h
    refine AK.loop (body := (fun st => F_ref03_Ints_l1 a1 b2 st)) (fun st σ => σ = ⟨[(0, .sl 1 (a1.map row_I)), (1, .sl 1 (b2.map row_I)), (5, .i .i64 st)], []⟩) (Sum.elim (fun q e σ => e = .ret ∧ σ = ⟨[(4, .b false)], []⟩) (fun q e σ => e = .exit 0 ∧ σ = ⟨[], []⟩)) hl12 rfl ?_ ?_
    · rintro i6 o σ rfl h
      replace h : F_ref03_Ints_l1 a1 b2 i6 = some o := h
      unfold F_ref03_Ints_l1 at h
      refine AK.go tab_ok hC [.n 5, .o (.ln a1.length), .n 3] rfl ⟨trivial, mapLen⟩ ?_
      rcases bifE h with ⟨hc8, h⟩ | ⟨hc8, h⟩
      · obtain ⟨e9, he9, h⟩ := bindE h
        obtain ⟨e10, he10, h⟩ := bindE h
        refine AK.go tab_ok hC [.br true, .n 5, .keep [0, 1, 5] []] rfl ⟨trivial, hc8⟩ ?_
        refine AK.draw2 tab_ok hC mixed [.a .no none false, .a .no none false, .a (.row (row_I e9)) none false, .a .no none false, .a .no none false, .a .no none false, .a (.row (row_I e10)) none false, .a .no none false, .a .no none false] [] [] [0, 1, 5, 25] [] rfl rfl rfl ⟨⟨trivial, (idxM he9)⟩, (idxM he10)⟩ rfl (by kernel_rfl) rfl rfl rfl ?_
        refine AK.go tab_ok hC [.n 1] rfl trivial ?_
        rcases bifE h with ⟨hc11, h⟩ | ⟨hc11, h⟩
        · refine AK.go tab_ok hC [.br true, .n 8, .keep [4] []] rfl ⟨trivial, hc11⟩ ?_
          obtain rfl := Option.some.inj h
          exact rndR rfl (And.intro rfl rfl)
        · refine AK.go tab_ok hC [.br false, .n 8, .keep [0, 1, 5] []] rfl ⟨trivial, hc11⟩ ?_
          obtain rfl := Option.some.inj h
          exact rndN rfl rfl
      · refine AK.go tab_ok hC [.br false, .n 2, .keep [] []] rfl ⟨trivial, hc8⟩ ?_
        obtain rfl := Option.some.inj h
        exact rndX rfl (And.intro rfl rfl)
    · rcases o12 with (_ | _)
      · replace h : F_ref03_Ints_c2 = some r := h
        unfold F_ref03_Ints_c2 at h
        rintro e σ ⟨rfl, rfl⟩
        refine AK.go tab_ok hC [.n 2, .keep [4] []] rfl trivial ?_
        obtain rfl := Option.some.inj h
        refine AK.done ?_
        exact Exists.intro [_] (And.intro (And.intro rfl trivial) (gives trivial))
      · replace h : F_ref03_Ints_c3 = some r := h
        unfold F_ref03_Ints_c3 at h
        rintro e σ ⟨rfl, rfl⟩
        refine AK.go tab_ok hC [.n 8, .keep [4] []] rfl trivial ?_
        obtain rfl := Option.some.inj h
        refine AK.done ?_
        exact Exists.intro [_] (And.intro (And.intro rfl trivial) (gives trivial))

-- 29 baldric/rank.in
def F_rank_in (s1 : TSpace) (k2 : Int) : Option Bool :=
  some ((decide (0 ≤ k2)) && (decide (k2 < (s1.States.length : Int))))

set_option maxRecDepth 100000 in
set_option maxHeartbeats 4000000 in
theorem F_rank_in_ok (s1 : TSpace) (k2 : Int) {r : Bool} (h : F_rank_in s1 k2 = some r) : ACalls Try.prog 29 [.agg (row_TSpace s1), .i .i64 k2] [] (Gives (.b r) []) := by
  refine ACalls.walk 14 Try.func29 rfl Try.ntmps29 rfl fun C hC => ?_
  unfold F_rank_in at h
  refine AK.go tab_ok hC [.n 7] rfl trivial ?_
  refine AK.meetX (fun σ => σ = ⟨[(4, .b ((decide (0 ≤ k2)) && (decide (k2 < (s1.States.length : Int)))))], []⟩) ?_ ?_
  · refine AK.go tab_ok hC [.n 4] rfl trivial ?_
    rcases boolOr (decide (0 ≤ k2)) with hc5 | hc5
    · refine AK.go tab_ok hC [.say 7 (.b true), .n 3, .o (.ln s1.States.length), .n 4, .say 4 (.b ((decide (0 ≤ k2)) && (decide (k2 < (s1.States.length : Int))))), .keep [4] []] rfl ⟨⟨⟨trivial, (congrArg V.b hc5)⟩, mapLen⟩, (congrArg V.b (andT hc5 rfl))⟩ ?_
      exact AK.met rfl
    · refine AK.go tab_ok hC [.say 7 (.b false), .n 8, .say 4 (.b ((decide (0 ≤ k2)) && (decide (k2 < (s1.States.length : Int))))), .keep [4] []] rfl ⟨⟨trivial, (congrArg V.b hc5)⟩, (congrArg V.b (andF hc5 rfl))⟩ ?_
      exact AK.met rfl
  · rintro σ rfl
    refine AK.go tab_ok hC [.n 2, .keep [4] []] rfl trivial ?_
    obtain rfl := Option.some.inj h
    refine AK.done ?_
    exact Exists.intro [_] (And.intro (And.intro rfl trivial) (gives trivial))

-- 28 baldric/rank.counts
def F_rank_counts_g1 (s1 : TSpace) (e2 : TEdge) : Option Bool :=
  (F_rank_in s1 e2.From).bind fun x6 =>
  bif x6 then
  (F_rank_in s1 e2.To).bind fun x8 =>
  some x8
  else
  some false

def F_rank_counts_k2 (x4 : Bool) : Option Bool :=
  some x4

def F_rank_counts (s1 : TSpace) (e2 : TEdge) : Option Bool :=
  (F_rank_counts_g1 s1 e2).bind (fun x4 => F_rank_counts_k2 x4)

set_option maxRecDepth 100000 in
set_option maxHeartbeats 4000000 in
theorem F_rank_counts_ok (s1 : TSpace) (e2 : TEdge) {r : Bool} (h : F_rank_counts s1 e2 = some r) : ACalls Try.prog 28 [.agg (row_TSpace s1), .agg (row_TEdge e2)] [] (Gives (.b r) []) := by
  refine ACalls.walk 15 Try.func28 rfl Try.ntmps28 rfl fun C hC => ?_
  unfold F_rank_counts at h
  refine AK.go tab_ok hC [.n 8] rfl trivial ?_
  obtain ⟨x4, hv5, h⟩ := bindE h
  replace h : F_rank_counts_k2 x4 = some r := h
  refine AK.meetX (fun σ => σ = ⟨[(4, .b x4)], []⟩) ?_ ?_
  · replace h := hv5
    unfold F_rank_counts_g1 at h
    obtain ⟨x6, hx6, h⟩ := bindE h
    refine AK.go tab_ok hC [.n 1, .v .no [] (.agg (row_TSpace s1)), .n 2, .o (.c false [.d, .d] (.b x6)), .n 1] rfl ⟨⟨trivial, rfl⟩, (F_rank_in_ok _ _ hx6)⟩ ?_
    rcases bifE h with ⟨hc7, h⟩ | ⟨hc7, h⟩
    · obtain ⟨x8, hx8, h⟩ := bindE h
      refine AK.go tab_ok hC [.say 9 (.b true), .v .no [] (.agg (row_TSpace s1)), .n 2, .o (.c false [.d, .d] (.b x8)), .n 3, .keep [4] []] rfl ⟨⟨⟨trivial, (congrArg V.b hc7)⟩, rfl⟩, (F_rank_in_ok _ _ hx8)⟩ ?_
      obtain rfl := Option.some.inj h
      exact AK.met rfl
    · refine AK.go tab_ok hC [.say 9 (.b false), .n 7, .keep [4] []] rfl ⟨trivial, (congrArg V.b hc7)⟩ ?_
      obtain rfl := Option.some.inj h
      exact AK.met rfl
  · rintro σ rfl
    replace h : F_rank_counts_k2 x4 = some r := h
    unfold F_rank_counts_k2 at h
    refine AK.go tab_ok hC [.n 2, .keep [4] []] rfl trivial ?_
    obtain rfl := Option.some.inj h
    refine AK.done ?_
    exact Exists.intro [_] (And.intro (And.intro rfl trivial) (gives trivial))

-- 71 (*baldric/rank.stops).Push
def F_rank_stops_Push (l1 : (List Trank_stop)) (p2 : Trank_stop) : Option (List Trank_stop) :=
  (chk (decide (l1.length + ([p2] : List Trank_stop).length ≤ 4294967296))).bind fun _ =>
  some (l1 ++ [p2])

set_option maxRecDepth 100000 in
set_option maxHeartbeats 4000000 in
theorem F_rank_stops_Push_ok (l1 : (List Trank_stop)) (p2 : Trank_stop) {r : (List Trank_stop)} (h : F_rank_stops_Push l1 p2 = some r) : ACalls Try.prog 71 [.loc 200000 0 0, .ifc 66 (.agg (row_Trank_stop p2))] [(200000, .var [.own 100000 l1.length]), (100000, .arr 2 (l1.map row_Trank_stop))] (Gives (.tup []) [(100000, .arr 2 (r.map row_Trank_stop)), (200000, .var [.own 100000 r.length])]) := by
  refine ACalls.walk 13 Try.func71 rfl Try.ntmps71 rfl fun C hC => ?_
  unfold F_rank_stops_Push at h
  obtain ⟨_, hk4, h⟩ := bindE h
  replace hk4 := chkE hk4
  refine AK.go tab_ok hC [.keep [0, 1] [100000, 200000]] rfl trivial ?_
  refine AK.draw2 tab_ok hC mixed [.a .no none true, .a .no none false, .a .no none false, .a .no none false, .a .no none false, .a .no none false, .a (.bd []) (some ([], .sl 2 (([p2] : List Trank_stop).map row_Trank_stop))) false, .m (.app ((l1 ++ [p2]).map row_Trank_stop) (l1 ++ [p2]).length), .a .no none false, .m .s] [0, 1] [] [] [100000, 200000] rfl rfl rfl ⟨⟨trivial, rfl⟩, ⟨mapLen, appLim hk4 mapLen, mapApps, appLn mapLen⟩⟩ rfl (by kernel_rfl) rfl rfl rfl ?_
  refine AK.go tab_ok hC [.sayO 200000 (.var [.own 100000 (l1 ++ [p2]).length]), .keep [] [100000, 200000]] rfl ⟨trivial, rfl⟩ ?_
  obtain rfl := Option.some.inj h
  refine AK.done ?_
  exact Exists.intro [] (And.intro trivial (gives ⟨rfl, rfl, trivial⟩))

-- 31 (baldric/rank.stops).Len
def F_rank_stops_Len (l1 : (List Trank_stop)) : Option Int :=
  some (l1.length : Int)

set_option maxRecDepth 100000 in
set_option maxHeartbeats 4000000 in
theorem F_rank_stops_Len_ok (l1 : (List Trank_stop)) {r : Int} (h : F_rank_stops_Len l1 = some r) : ACalls Try.prog 31 [.own 200000 l1.length] [(200000, .arr 2 (l1.map row_Trank_stop))] (Gives (.i .i64 r) [(200000, .arr 2 (l1.map row_Trank_stop))]) := by
  refine ACalls.walk 5 Try.func31 rfl Try.ntmps31 rfl fun C hC => ?_
  unfold F_rank_stops_Len at h
  refine AK.go tab_ok hC [.n 13, .keep [2] [200000]] rfl trivial ?_
  obtain rfl := Option.some.inj h
  refine AK.done ?_
  exact Exists.intro [_] (And.intro (And.intro rfl trivial) (gives ⟨rfl, trivial⟩))

-- 68 (baldric/rank.stops).Less
def F_rank_stops_Less (l1 : (List Trank_stop)) (i2 : Int) (k3 : Int) : Option Bool :=
  (idx l1 i2).bind fun e5 =>
  (idx l1 k3).bind fun e6 =>
  some (decide (e5.far < e6.far))

set_option maxRecDepth 100000 in
set_option maxHeartbeats 4000000 in
theorem F_rank_stops_Less_ok (l1 : (List Trank_stop)) (i2 : Int) (k3 : Int) {r : Bool} (h : F_rank_stops_Less l1 i2 k3 = some r) : ACalls Try.prog 68 [.own 200000 l1.length, .i .i64 i2, .i .i64 k3] [(200000, .arr 2 (l1.map row_Trank_stop))] (Gives (.b r) [(200000, .arr 2 (l1.map row_Trank_stop))]) := by
  refine ACalls.walk 18 Try.func68 rfl Try.ntmps68 rfl fun C hC => ?_
  unfold F_rank_stops_Less at h
  obtain ⟨e5, he5, h⟩ := bindE h
  obtain ⟨e6, he6, h⟩ := bindE h
  refine AK.go tab_ok hC [.n 6, .keep [0, 1, 2, 6] [200000]] rfl trivial ?_
  refine AK.draw2 tab_ok hC mixed [.a .no none false, .a .no none false, .a .no none false, .a .no none false, .a (.row (row_Trank_stop e5)) none false, .a .no none false, .a .no none false, .a .no none false, .a .no none false, .a (.row (row_Trank_stop e6)) none false, .a .no none false, .m .s] [] [] [6] [200000] rfl rfl rfl ⟨⟨⟨⟨trivial, (idxOw he5 rfl)⟩, (mapGet (idxE he5).2)⟩, (idxOw he6 rfl)⟩, (mapGet (idxE he6).2)⟩ rfl (by kernel_rfl) rfl rfl rfl ?_
  refine AK.go tab_ok hC [.n 2, .keep [6] [200000]] rfl trivial ?_
  obtain rfl := Option.some.inj h
  refine AK.done ?_
  exact Exists.intro [_] (And.intro (And.intro rfl trivial) (gives ⟨rfl, trivial⟩))

-- 69 (baldric/rank.stops).Swap
def F_rank_stops_Swap (l1 : (List Trank_stop)) (i2 : Int) (k3 : Int) : Option (List Trank_stop) :=
  (idx l1 k3).bind fun e5 =>
  (idx l1 i2).bind fun e6 =>
  (idx l1 i2).bind fun e7 =>
  (idx (l1.set i2.toNat e5) k3).bind fun e8 =>
  some ((l1.set i2.toNat e5).set k3.toNat e6)

set_option maxRecDepth 100000 in
set_option maxHeartbeats 4000000 in
theorem F_rank_stops_Swap_ok (l1 : (List Trank_stop)) (i2 : Int) (k3 : Int) {r : (List Trank_stop)} (h : F_rank_stops_Swap l1 i2 k3 = some r) : ACalls Try.prog 69 [.own 200000 l1.length, .i .i64 i2, .i .i64 k3] [(200000, .arr 2 (l1.map row_Trank_stop))] (Gives (.tup []) [(200000, .arr 2 (r.map row_Trank_stop))]) := by
  refine ACalls.walk 20 Try.func69 rfl Try.ntmps69 rfl fun C hC => ?_
  unfold F_rank_stops_Swap at h
  obtain ⟨e5, he5, h⟩ := bindE h
  obtain ⟨e6, he6, h⟩ := bindE h
  obtain ⟨e7, he7, h⟩ := bindE h
  obtain ⟨e8, he8, h⟩ := bindE h
  refine AK.go tab_ok hC [.keep [0, 1, 2] [200000]] rfl trivial ?_
  refine AK.draw2 tab_ok hC mixed [.a .no none false, .a .no none false, .a .no none true, .a .no none true, .a .no none false, .a .no none false, .a .no none false, .a (.row (row_Trank_stop e5)) (some ([], .agg (row_Trank_stop e5))) false, .a .no none false, .a .no none false, .a .no none false, .a (.row (row_Trank_stop e6)) (some ([], .agg (row_Trank_stop e6))) false, .a .no none false, .m (.st (row_Trank_stop e7) ((l1.set i2.toNat e5).map row_Trank_stop)), .a .no none false, .m (.st (row_Trank_stop e8) (((l1.set i2.toNat e5).set k3.toNat e6).map row_Trank_stop))] [0, 1, 2] [] [] [200000] rfl rfl rfl ⟨⟨⟨⟨⟨⟨⟨⟨⟨⟨trivial, (idxOw he5 rfl)⟩, (mapGet (idxE he5).2)⟩, rfl⟩, (idxOw he6 rfl)⟩, (mapGet (idxE he6).2)⟩, rfl⟩, (idxOw he7 rfl)⟩, ⟨(mapGet (idxE he7).2), mapSet rfl⟩⟩, (idxOw he8 (by simp))⟩, ⟨(mapGet (idxE he8).2), mapSet rfl⟩⟩ rfl (by kernel_rfl) rfl rfl rfl ?_
  refine AK.go tab_ok hC [.keep [] [200000]] rfl trivial ?_
  obtain rfl := Option.some.inj h
  refine AK.done ?_
  exact Exists.intro [] (And.intro trivial (gives ⟨rfl, trivial⟩))

-- 44 container/heap.up
def F_container_heap_up_g1 (j5 : Int) (l6 : (List Trank_stop)) : Option Bool :=
  bif ((w64 (Int.tdiv (w64 (j5 - 1)) 2)) == j5) then
  some true
  else
  (F_rank_stops_Less l6 j5 (w64 (Int.tdiv (w64 (j5 - 1)) 2))).bind fun x13 =>
  some (!x13)

def F_container_heap_up_k2 (l6 : (List Trank_stop)) (j5 : Int) (x10 : Bool) : Option ((Int × (List Trank_stop)) ⊕ (List Trank_stop)) :=
  bif x10 then
  some (.inr l6)
  else
  (F_rank_stops_Swap l6 (w64 (Int.tdiv (w64 (j5 - 1)) 2)) j5).bind fun x15 =>
  (chk (decide (x15.length = l6.length))).bind fun _ =>
  some (.inl ((w64 (Int.tdiv (w64 (j5 - 1)) 2)), x15))

def F_container_heap_up_l3 (j5 : Int) (l6 : (List Trank_stop)) : Option ((Int × (List Trank_stop)) ⊕ (List Trank_stop)) :=
  (F_container_heap_up_g1 j5 l6).bind (fun x10 => F_container_heap_up_k2 l6 j5 x10)

def F_container_heap_up_c4 (l9 : (List Trank_stop)) : Option (List Trank_stop) :=
  some l9

def F_container_heap_up (l1 : (List Trank_stop)) (j2 : Int) : Option (List Trank_stop) :=
  (loopM (fun st => F_container_heap_up_l3 st.1 st.2) (j2, l1)).bind (fun q => F_container_heap_up_c4 q)

set_option maxRecDepth 100000 in
set_option maxHeartbeats 4000000 in
theorem F_container_heap_up_ok (l1 : (List Trank_stop)) (j2 : Int) {r : (List Trank_stop)} (h : F_container_heap_up l1 j2 = some r) : ACalls Try.prog 44 [.ifc 64 (.loc 200000 0 0), .i .i64 j2] [(200000, .var [.own 100000 l1.length]), (100000, .arr 2 (l1.map row_Trank_stop))] (Gives (.tup []) [(100000, .arr 2 (r.map row_Trank_stop)), (200000, .var [.own 100000 r.length])]) := by
  refine ACalls.walk 23 Try.func44 rfl Try.ntmps44 rfl fun C hC => ?_
  unfold F_container_heap_up at h
  refine AK.go tab_ok hC [.n 1, .keep [0, 1] [100000, 200000]] rfl trivial ?_
  obtain ⟨l9, hl17, h⟩ := bindE h
  refine AK.loop (body := (fun st => F_container_heap_up_l3 st.1 st.2)) (fun st σ => σ = ⟨[(0, .ifc 64 (.loc 200000 0 0)), (1, .i .i64 st.1)], [(100000, .arr 2 (st.2.map row_Trank_stop)), (200000, .var [.own 100000 st.2.length])]⟩) (fun q e σ => e = .exit 0 ∧ σ = ⟨[], [(100000, .arr 2 (q.map row_Trank_stop)), (200000, .var [.own 100000 q.length])]⟩) hl17 rfl ?_ ?_
  · rintro ⟨j5, l6⟩ o σ rfl h
    replace h : F_container_heap_up_l3 j5 l6 = some o := h
    unfold F_container_heap_up_l3 at h
    refine AK.go tab_ok hC [.n 11] rfl ⟨trivial, (by decide)⟩ ?_
    obtain ⟨x10, hv11, h⟩ := bindE h
    replace h : F_container_heap_up_k2 l6 j5 x10 = some o := h
    refine AK.meetX (fun σ => σ = ⟨[(0, .ifc 64 (.loc 200000 0 0)), (1, .i .i64 j5), (4, .i .i64 (w64 (Int.tdiv (w64 (j5 - 1)) 2))), (17, .b x10)], [(100000, .arr 2 (l6.map row_Trank_stop)), (200000, .var [.own 100000 l6.length])]⟩) ?_ ?_
    · replace h := hv11
      unfold F_container_heap_up_g1 at h
      refine AK.go tab_ok hC [.n 5] rfl trivial ?_
      rcases bifE h with ⟨hc12, h⟩ | ⟨hc12, h⟩
      · refine AK.go tab_ok hC [.say 11 (.b true), .n 7, .keep [0, 1, 4, 17] [100000, 200000]] rfl ⟨trivial, (congrArg V.b hc12)⟩ ?_
        obtain rfl := Option.some.inj h
        exact AK.met rfl
      · obtain ⟨x13, hx13, h⟩ := bindE h
        refine AK.go tab_ok hC [.say 11 (.b false), .n 3, .cm (.mv 68 62) [(200000, 100000)] [(100000, 200000)] [] [.d, .d, .d] [(200000, .arr 2 (l6.map row_Trank_stop))] (.b x13), .n 3, .keep [0, 1, 4, 17] [100000, 200000]] rfl ⟨⟨⟨trivial, (congrArg V.b hc12)⟩, mv_64_Less⟩, (F_rank_stops_Less_ok _ _ _ hx13)⟩ ?_
        obtain rfl := Option.some.inj h
        exact AK.met rfl
    · rintro σ rfl
      replace h : F_container_heap_up_k2 l6 j5 x10 = some o := h
      unfold F_container_heap_up_k2 at h
      refine AK.go tab_ok hC [.n 1] rfl trivial ?_
      rcases bifE h with ⟨hc14, h⟩ | ⟨hc14, h⟩
      · refine AK.go tab_ok hC [.br true, .n 3, .keep [] [100000, 200000]] rfl ⟨trivial, hc14⟩ ?_
        obtain rfl := Option.some.inj h
        exact rndX rfl (And.intro rfl rfl)
      · obtain ⟨x15, hx15, h⟩ := bindE h
        obtain ⟨_, hk16, h⟩ := bindE h
        replace hk16 := chkE hk16
        refine AK.go tab_ok hC [.br false, .n 7, .cm (.mv 69 62) [(200000, 100000)] [(100000, 200000)] [] [.d, .d, .d] [(200000, .arr 2 (x15.map row_Trank_stop))] (.tup []), .sayO 200000 (.var [.own 100000 x15.length]), .n 7, .keep [0, 1] [100000, 200000]] rfl ⟨⟨⟨⟨trivial, hc14⟩, mv_64_Swap⟩, (F_rank_stops_Swap_ok _ _ _ hx15)⟩, (by simp [of_decide_eq_true hk16])⟩ ?_
        obtain rfl := Option.some.inj h
        exact rndN rfl rfl
  · replace h : F_container_heap_up_c4 l9 = some r := h
    unfold F_container_heap_up_c4 at h
    rintro e σ ⟨rfl, rfl⟩
    refine AK.go tab_ok hC [.n 1, .keep [] [100000, 200000]] rfl trivial ?_
    obtain rfl := Option.some.inj h
    refine AK.done ?_
    exact Exists.intro [] (And.intro trivial (gives ⟨rfl, rfl, trivial⟩))

-- 30 container/heap.Push
def F_container_heap_Push (l1 : (List Trank_stop)) (p2 : Trank_stop) : Option (List Trank_stop) :=
  (F_rank_stops_Push l1 p2).bind fun x4 =>
  (F_rank_stops_Len x4).bind fun x5 =>
  (F_container_heap_up x4 (w64 (x5 - 1))).bind fun x6 =>
  some x6

set_option maxRecDepth 100000 in
set_option maxHeartbeats 4000000 in
theorem F_container_heap_Push_ok (l1 : (List Trank_stop)) (p2 : Trank_stop) {r : (List Trank_stop)} (h : F_container_heap_Push l1 p2 = some r) : ACalls Try.prog 30 [.ifc 64 (.loc 200000 0 0), .ifc 66 (.agg (row_Trank_stop p2))] [(200000, .var [.own 100000 l1.length]), (100000, .arr 2 (l1.map row_Trank_stop))] (Gives (.tup []) [(100000, .arr 2 (r.map row_Trank_stop)), (200000, .var [.own 100000 r.length])]) := by
  refine ACalls.walk 12 Try.func30 rfl Try.ntmps30 rfl fun C hC => ?_
  unfold F_container_heap_Push at h
  obtain ⟨x4, hx4, h⟩ := bindE h
  obtain ⟨x5, hx5, h⟩ := bindE h
  obtain ⟨x6, hx6, h⟩ := bindE h
  refine AK.go tab_ok hC [.n 4, .cm (.me 71) [(200000, 200000), (100000, 100000)] [(100000, 100000), (200000, 200000)] [100000] [.d, .d] [(100000, .arr 2 (x4.map row_Trank_stop)), (200000, .var [.own 100000 x4.length])] (.tup []), .n 5, .cm (.mv 31 62) [(200000, 100000)] [(100000, 200000)] [] [.d] [(200000, .arr 2 (x4.map row_Trank_stop))] (.i .i64 x5), .n 1, .cm (.fn) [(200000, 200000), (100000, 100000)] [(100000, 100000), (200000, 200000)] [100000] [.d, .d] [(100000, .arr 2 (x6.map row_Trank_stop)), (200000, .var [.own 100000 x6.length])] (.tup []), .n 1, .keep [] [100000, 200000]] rfl ⟨⟨⟨⟨⟨trivial, me_64_Push⟩, (F_rank_stops_Push_ok _ _ hx4)⟩, mv_64_Len⟩, (F_rank_stops_Len_ok _ hx5)⟩, (F_container_heap_up_ok _ _ hx6)⟩ ?_
  obtain rfl := Option.some.inj h
  refine AK.done ?_
  exact Exists.intro [] (And.intro trivial (gives ⟨rfl, rfl, trivial⟩))

-- 31 (baldric/rank.stops).Len
def F_rank_stops_Len_v2 (l1 : (List Trank_stop)) : Option Int :=
  some (l1.length : Int)

set_option maxRecDepth 100000 in
set_option maxHeartbeats 4000000 in
theorem F_rank_stops_Len_v2_ok (l1 : (List Trank_stop)) {r : Int} (h : F_rank_stops_Len_v2 l1 = some r) : ACalls Try.prog 31 [.sl 2 (l1.map row_Trank_stop)] [] (Gives (.i .i64 r) []) := by
  refine ACalls.walk 5 Try.func31 rfl Try.ntmps31 rfl fun C hC => ?_
  unfold F_rank_stops_Len_v2 at h
  refine AK.go tab_ok hC [.n 8, .o (.ln l1.length), .n 4, .keep [2] []] rfl ⟨trivial, mapLen⟩ ?_
  obtain rfl := Option.some.inj h
  refine AK.done ?_
  exact Exists.intro [_] (And.intro (And.intro rfl trivial) (gives trivial))

-- 45 container/heap.down
def F_container_heap_down_k1 (l8 : (List Trank_stop)) (i7 : Int) (j16 : Int) : Option ((Int × (List Trank_stop)) ⊕ (Int × (List Trank_stop))) :=
  (F_rank_stops_Less l8 j16 i7).bind fun x17 =>
  bif (!x17) then
  some (.inr (i7, l8))
  else
  (F_rank_stops_Swap l8 i7 j16).bind fun x19 =>
  (chk (decide (x19.length = l8.length))).bind fun _ =>
  some (.inl (j16, x19))

def F_container_heap_down_g2 (i7 : Int) (n3 : Int) (l8 : (List Trank_stop)) : Option Bool :=
  bif (decide ((w64 ((w64 ((w64 (2 * i7)) + 1)) + 1)) < n3)) then
  (F_rank_stops_Less l8 (w64 ((w64 ((w64 (2 * i7)) + 1)) + 1)) (w64 ((w64 (2 * i7)) + 1))).bind fun x24 =>
  some x24
  else
  some false

def F_container_heap_down_k3 (l8 : (List Trank_stop)) (i7 : Int) (x21 : Bool) : Option ((Int × (List Trank_stop)) ⊕ (Int × (List Trank_stop))) :=
  bif x21 then
  F_container_heap_down_k1 l8 i7 (w64 ((w64 ((w64 (2 * i7)) + 1)) + 1))
  else
  F_container_heap_down_k1 l8 i7 (w64 ((w64 (2 * i7)) + 1))

def F_container_heap_down_l4 (n3 : Int) (i7 : Int) (l8 : (List Trank_stop)) : Option ((Int × (List Trank_stop)) ⊕ (Int × (List Trank_stop))) :=
  bif ((decide (n3 ≤ (w64 ((w64 (2 * i7)) + 1)))) || (decide ((w64 ((w64 (2 * i7)) + 1)) < 0))) then
  some (.inr (i7, l8))
  else
  (F_container_heap_down_g2 i7 n3 l8).bind (fun x21 => F_container_heap_down_k3 l8 i7 x21)

def F_container_heap_down_c5 (i2 : Int) (i11 : Int) (l12 : (List Trank_stop)) : Option (Bool × (List Trank_stop)) :=
  some ((decide (i2 < i11)), l12)

def F_container_heap_down (l1 : (List Trank_stop)) (i2 : Int) (n3 : Int) : Option (Bool × (List Trank_stop)) :=
  (loopM (fun st => F_container_heap_down_l4 n3 st.1 st.2) (i2, l1)).bind (fun q => F_container_heap_down_c5 i2 q.1 q.2)

set_option maxRecDepth 100000 in
set_option maxHeartbeats 4000000 in
theorem F_container_heap_down_ok (l1 : (List Trank_stop)) (i2 : Int) (n3 : Int) {r : (Bool × (List Trank_stop))} (h : F_container_heap_down l1 i2 n3 = some r) : ACalls Try.prog 45 [.ifc 64 (.loc 200000 0 0), .i .i64 i2, .i .i64 n3] [(200000, .var [.own 100000 l1.length]), (100000, .arr 2 (l1.map row_Trank_stop))] (Gives (.b r.1) [(100000, .arr 2 (r.2.map row_Trank_stop)), (200000, .var [.own 100000 r.2.length])]) := by
  refine ACalls.walk 48 Try.func45 rfl Try.ntmps45 rfl fun C hC => ?_
  unfold F_container_heap_down at h
  refine AK.go tab_ok hC [.n 13, .keep [0, 1, 2, 7] [100000, 200000]] rfl trivial ?_
  obtain ⟨o26, hl26, h⟩ := bindE h
  refine AK.loop (body := (fun st => F_container_heap_down_l4 n3 st.1 st.2)) (fun st σ => σ = ⟨[(0, .ifc 64 (.loc 200000 0 0)), (1, .i .i64 i2), (2, .i .i64 n3), (7, .i .i64 st.1)], [(100000, .arr 2 (st.2.map row_Trank_stop)), (200000, .var [.own 100000 st.2.length])]⟩) (fun q e σ => e = .exit 0 ∧ σ = ⟨[(1, .i .i64 i2), (7, .i .i64 q.1)], [(100000, .arr 2 (q.2.map row_Trank_stop)), (200000, .var [.own 100000 q.2.length])]⟩) hl26 rfl ?_ ?_
  · rintro ⟨i7, l8⟩ o σ rfl h
    replace h : F_container_heap_down_l4 n3 i7 l8 = some o := h
    unfold F_container_heap_down_l4 at h
    refine AK.go tab_ok hC [.n 11] rfl trivial ?_
    refine AK.meetX (fun σ => σ = ⟨[(0, .ifc 64 (.loc 200000 0 0)), (1, .i .i64 i2), (2, .i .i64 n3), (7, .i .i64 i7), (8, .i .i64 (w64 ((w64 (2 * i7)) + 1))), (21, .b ((decide (n3 ≤ (w64 ((w64 (2 * i7)) + 1)))) || (decide ((w64 ((w64 (2 * i7)) + 1)) < 0))))], [(100000, .arr 2 (l8.map row_Trank_stop)), (200000, .var [.own 100000 l8.length])]⟩) ?_ ?_
    · refine AK.go tab_ok hC [.n 5] rfl trivial ?_
      rcases boolOr (decide (n3 ≤ (w64 ((w64 (2 * i7)) + 1)))) with hc14 | hc14
      · refine AK.go tab_ok hC [.say 18 (.b true), .n 4, .say 21 (.b ((decide (n3 ≤ (w64 ((w64 (2 * i7)) + 1)))) || (decide ((w64 ((w64 (2 * i7)) + 1)) < 0)))), .keep [0, 1, 2, 7, 8, 21] [100000, 200000]] rfl ⟨⟨trivial, (congrArg V.b hc14)⟩, (congrArg V.b (orT hc14 rfl))⟩ ?_
        exact AK.met rfl
      · refine AK.go tab_ok hC [.say 18 (.b false), .n 4, .say 21 (.b ((decide (n3 ≤ (w64 ((w64 (2 * i7)) + 1)))) || (decide ((w64 ((w64 (2 * i7)) + 1)) < 0)))), .keep [0, 1, 2, 7, 8, 21] [100000, 200000]] rfl ⟨⟨trivial, (congrArg V.b hc14)⟩, (congrArg V.b (orF hc14 rfl))⟩ ?_
        exact AK.met rfl
    · rintro σ rfl
      refine AK.go tab_ok hC [.n 1] rfl trivial ?_
      rcases bifE h with ⟨hc15, h⟩ | ⟨hc15, h⟩
      · refine AK.go tab_ok hC [.br true, .n 3, .keep [1, 7] [100000, 200000]] rfl ⟨trivial, hc15⟩ ?_
        obtain rfl := Option.some.inj h
        exact rndX rfl (And.intro rfl rfl)
      · refine AK.go tab_ok hC [.br false, .n 8] rfl ⟨trivial, hc15⟩ ?_
        refine AK.meet (fun σ => ∃ j16 : Int, σ = ⟨[(0, .ifc 64 (.loc 200000 0 0)), (1, .i .i64 i2), (2, .i .i64 n3), (7, .i .i64 i7), (9, .i .i64 j16)], [(100000, .arr 2 (l8.map row_Trank_stop)), (200000, .var [.own 100000 l8.length])]⟩ ∧ F_container_heap_down_k1 l8 i7 j16 = some o) ?_ ?_
        · refine AK.go tab_ok hC [.n 8] rfl trivial ?_
          obtain ⟨x21, hv22, h⟩ := bindE h
          replace h : F_container_heap_down_k3 l8 i7 x21 = some o := h
          refine AK.meetX (fun σ => σ = ⟨[(0, .ifc 64 (.loc 200000 0 0)), (1, .i .i64 i2), (2, .i .i64 n3), (7, .i .i64 i7), (9, .i .i64 (w64 ((w64 (2 * i7)) + 1))), (10, .i .i64 (w64 ((w64 ((w64 (2 * i7)) + 1)) + 1))), (33, .b x21)], [(100000, .arr 2 (l8.map row_Trank_stop)), (200000, .var [.own 100000 l8.length])]⟩) ?_ ?_
          · replace h := hv22
            unfold F_container_heap_down_g2 at h
            refine AK.go tab_ok hC [.n 5] rfl trivial ?_
            rcases bifE h with ⟨hc23, h⟩ | ⟨hc23, h⟩
            · obtain ⟨x24, hx24, h⟩ := bindE h
              refine AK.go tab_ok hC [.say 28 (.b true), .n 3, .cm (.mv 68 62) [(200000, 100000)] [(100000, 200000)] [] [.d, .d, .d] [(200000, .arr 2 (l8.map row_Trank_stop))] (.b x24), .n 2, .keep [0, 1, 2, 7, 9, 10, 33] [100000, 200000]] rfl ⟨⟨⟨trivial, (congrArg V.b hc23)⟩, mv_64_Less⟩, (F_rank_stops_Less_ok _ _ _ hx24)⟩ ?_
              obtain rfl := Option.some.inj h
              exact AK.met rfl
            · refine AK.go tab_ok hC [.say 28 (.b false), .n 6, .keep [0, 1, 2, 7, 9, 10, 33] [100000, 200000]] rfl ⟨trivial, (congrArg V.b hc23)⟩ ?_
              obtain rfl := Option.some.inj h
              exact AK.met rfl
          · rintro σ rfl
            replace h : F_container_heap_down_k3 l8 i7 x21 = some o := h
            unfold F_container_heap_down_k3 at h
            refine AK.go tab_ok hC [.n 1] rfl trivial ?_
            rcases bifE h with ⟨hc25, h⟩ | ⟨hc25, h⟩
            · refine AK.go tab_ok hC [.br true, .n 4, .keep [0, 1, 2, 7, 9] [100000, 200000]] rfl ⟨trivial, hc25⟩ ?_
              exact AK.met (Exists.intro _ (And.intro rfl h))
            · refine AK.go tab_ok hC [.br false, .n 1, .keep [0, 1, 2, 7, 9] [100000, 200000]] rfl ⟨trivial, hc25⟩ ?_
              exact AK.met (Exists.intro _ (And.intro rfl h))
        · rintro σ ⟨j16, rfl, h⟩
          unfold F_container_heap_down_k1 at h
          obtain ⟨x17, hx17, h⟩ := bindE h
          refine AK.go tab_ok hC [.n 6, .cm (.mv 68 62) [(200000, 100000)] [(100000, 200000)] [] [.d, .d, .d] [(200000, .arr 2 (l8.map row_Trank_stop))] (.b x17), .n 3] rfl ⟨⟨trivial, mv_64_Less⟩, (F_rank_stops_Less_ok _ _ _ hx17)⟩ ?_
          rcases bifE h with ⟨hc18, h⟩ | ⟨hc18, h⟩
          · refine AK.go tab_ok hC [.br true, .n 3, .keep [1, 7] [100000, 200000]] rfl ⟨trivial, hc18⟩ ?_
            obtain rfl := Option.some.inj h
            exact rndX rfl (And.intro rfl rfl)
          · obtain ⟨x19, hx19, h⟩ := bindE h
            obtain ⟨_, hk20, h⟩ := bindE h
            replace hk20 := chkE hk20
            refine AK.go tab_ok hC [.br false, .n 7, .cm (.mv 69 62) [(200000, 100000)] [(100000, 200000)] [] [.d, .d, .d] [(200000, .arr 2 (x19.map row_Trank_stop))] (.tup []), .sayO 200000 (.var [.own 100000 x19.length]), .n 7, .keep [0, 1, 2, 7] [100000, 200000]] rfl ⟨⟨⟨⟨trivial, hc18⟩, mv_64_Swap⟩, (F_rank_stops_Swap_ok _ _ _ hx19)⟩, (by simp [of_decide_eq_true hk20])⟩ ?_
            obtain rfl := Option.some.inj h
            exact rndN rfl rfl
  · obtain ⟨i11, l12⟩ := o26
    replace h : F_container_heap_down_c5 i2 i11 l12 = some r := h
    unfold F_container_heap_down_c5 at h
    rintro e σ ⟨rfl, rfl⟩
    refine AK.go tab_ok hC [.n 11, .keep [6] [100000, 200000]] rfl trivial ?_
    obtain rfl := Option.some.inj h
    refine AK.done ?_
    exact Exists.intro [_] (And.intro (And.intro rfl trivial) (gives ⟨rfl, rfl, trivial⟩))

-- 70 (*baldric/rank.stops).Pop
def F_rank_stops_Pop (l1 : (List Trank_stop)) : Option (Trank_stop × (List Trank_stop)) :=
  (idx l1 (w64 ((l1.length : Int) - 1))).bind fun e4 =>
  (chk (decide (0 ≤ (w64 ((l1.length : Int) - 1))) && decide ((w64 ((l1.length : Int) - 1)).toNat ≤ l1.length))).bind fun _ =>
  some (e4, (l1.take (w64 ((l1.length : Int) - 1)).toNat))

set_option maxRecDepth 100000 in
set_option maxHeartbeats 4000000 in
theorem F_rank_stops_Pop_ok (l1 : (List Trank_stop)) {r : (Trank_stop × (List Trank_stop))} (h : F_rank_stops_Pop l1 = some r) : ACalls Try.prog 70 [.loc 200000 0 0] [(200000, .var [.own 100000 l1.length]), (100000, .arr 2 (l1.map row_Trank_stop))] (Gives (.ifc 66 (.agg (row_Trank_stop r.1))) [(100000, .arr 2 (r.2.map row_Trank_stop)), (200000, .var [.own 100000 r.2.length])]) := by
  refine ACalls.walk 27 Try.func70 rfl Try.ntmps70 rfl fun C hC => ?_
  unfold F_rank_stops_Pop at h
  obtain ⟨e4, he4, h⟩ := bindE h
  refine AK.go tab_ok hC [.n 6, .keep [0] [100000, 200000]] rfl trivial ?_
  refine AK.draw2 tab_ok hC mixed [.a .no none false, .a .no none false, .a .no none false, .a .no none false, .a .no none false, .a .no none false, .a .no none false, .a .no none false, .a .no none false, .a (.row (row_Trank_stop e4)) (some ([], .agg (row_Trank_stop e4))) false, .a .no none false, .m .s] [] [] [0, 3] [3, 100000, 200000] rfl rfl rfl ⟨⟨⟨trivial, (idxOw he4 rfl)⟩, (mapGet (idxE he4).2)⟩, rfl⟩ rfl (by kernel_rfl) rfl rfl rfl ?_
  obtain ⟨_, hk5, h⟩ := bindE h
  replace hk5 := chkE hk5
  refine AK.go tab_ok hC [.sayO 3 (.var (row_Trank_stop e4)), .n 2, .keep [0, 3] [3, 100000, 200000]] rfl ⟨trivial, rfl⟩ ?_
  have hl6 : (w64 ((l1.length : Int) - 1)).toNat = (l1.take (w64 ((l1.length : Int) - 1)).toNat).length := by rw [List.length_take, Nat.min_eq_left (of_decide_eq_true (and2_1 hk5))]
  refine AK.draw2 tab_ok hC mixed [.a .no none true, .a .no none false, .a .no none false, .a .no none false, .a .no none false, .a .no none false, .a .no none false, .a .no none false, .a .no none false, .m (.any ⟨[], [(100000, .arr 2 ((l1.take (w64 ((l1.length : Int) - 1)).toNat).map row_Trank_stop))], some (23, .own 100000 (w64 ((l1.length : Int) - 1)).toNat)⟩), .a .no none false, .m .s] [0, 3] [3] [3] [3, 100000, 200000] rfl rfl rfl ⟨trivial, (fun σ h1 h2 => Stp.sliceO rfl rfl (hC ▸ rfl) (h1 _ _ rfl) (h2 _ _ rfl) (tab_ok.es rfl) Bnd.no (Bnd.val (h1 _ _ rfl) (of_decide_eq_true (and2_0 hk5)) rfl) (of_decide_eq_true (and2_1 hk5)) (by simp))⟩ rfl (by kernel_rfl) rfl rfl rfl ?_
  refine AK.go tab_ok hC [.sayO 200000 (.var [.own 100000 (w64 ((l1.length : Int) - 1)).toNat]), .n 3, .v .no [] (.agg (row_Trank_stop e4)), .n 5, .sayO 200000 (.var [.own 100000 (l1.take (w64 ((l1.length : Int) - 1)).toNat).length]), .keep [2] [100000, 200000]] rfl ⟨⟨⟨trivial, rfl⟩, rfl⟩, (congrArg (fun n => Ob.var [.own 100000 n]) (by rw [← hl6]))⟩ ?_
  obtain rfl := Option.some.inj h
  refine AK.done ?_
  exact Exists.intro [_] (And.intro (And.intro rfl trivial) (gives ⟨rfl, rfl, trivial⟩))

-- 32 container/heap.Pop
def F_container_heap_Pop (l1 : (List Trank_stop)) : Option (Trank_stop × (List Trank_stop)) :=
  (F_rank_stops_Len l1).bind fun x4 =>
  (F_rank_stops_Swap l1 0 (w64 (x4 - 1))).bind fun x5 =>
  (chk (decide (x5.length = l1.length))).bind fun _ =>
  (F_container_heap_down x5 0 (w64 (x4 - 1))).bind fun x7 =>
  (F_rank_stops_Pop x7.2).bind fun x8 =>
  some (x8.1, x8.2)

set_option maxRecDepth 100000 in
set_option maxHeartbeats 4000000 in
theorem F_container_heap_Pop_ok (l1 : (List Trank_stop)) {r : (Trank_stop × (List Trank_stop))} (h : F_container_heap_Pop l1 = some r) : ACalls Try.prog 32 [.ifc 64 (.loc 200000 0 0)] [(200000, .var [.own 100000 l1.length]), (100000, .arr 2 (l1.map row_Trank_stop))] (Gives (.ifc 66 (.agg (row_Trank_stop r.1))) [(100000, .arr 2 (r.2.map row_Trank_stop)), (200000, .var [.own 100000 r.2.length])]) := by
  refine ACalls.walk 15 Try.func32 rfl Try.ntmps32 rfl fun C hC => ?_
  unfold F_container_heap_Pop at h
  obtain ⟨x4, hx4, h⟩ := bindE h
  obtain ⟨x5, hx5, h⟩ := bindE h
  obtain ⟨_, hk6, h⟩ := bindE h
  replace hk6 := chkE hk6
  obtain ⟨x7, hx7, h⟩ := bindE h
  obtain ⟨x8, hx8, h⟩ := bindE h
  refine AK.go tab_ok hC [.n 8, .cm (.mv 31 62) [(200000, 100000)] [(100000, 200000)] [] [.d] [(200000, .arr 2 (l1.map row_Trank_stop))] (.i .i64 x4), .n 8, .cm (.mv 69 62) [(200000, 100000)] [(100000, 200000)] [] [.d, .d, .d] [(200000, .arr 2 (x5.map row_Trank_stop))] (.tup []), .sayO 200000 (.var [.own 100000 x5.length]), .n 6, .cm (.fn) [(200000, 200000), (100000, 100000)] [(100000, 100000), (200000, 200000)] [100000] [.d, .d, .d] [(100000, .arr 2 (x7.2.map row_Trank_stop)), (200000, .var [.own 100000 x7.2.length])] (.b x7.1), .n 5, .cm (.me 70) [(200000, 200000), (100000, 100000)] [(100000, 100000), (200000, 200000)] [100000] [.d] [(100000, .arr 2 (x8.2.map row_Trank_stop)), (200000, .var [.own 100000 x8.2.length])] (.ifc 66 (.agg (row_Trank_stop x8.1))), .n 4, .keep [2] [100000, 200000]] rfl ⟨⟨⟨⟨⟨⟨⟨⟨trivial, mv_64_Len⟩, (F_rank_stops_Len_ok _ hx4)⟩, mv_64_Swap⟩, (F_rank_stops_Swap_ok _ _ _ hx5)⟩, (by simp [of_decide_eq_true hk6])⟩, (F_container_heap_down_ok _ _ _ hx7)⟩, me_64_Pop⟩, (F_rank_stops_Pop_ok _ hx8)⟩ ?_
  obtain rfl := Option.some.inj h
  refine AK.done ?_
  exact Exists.intro [_] (And.intro (And.intro rfl trivial) (gives ⟨rfl, rfl, trivial⟩))

-- 13 baldric/rank.Far
def F_rank_Far_k1 (x5 : Int) (m11 : (List (Int × (List Int)))) : Option ((Int × (List (Int × (List Int)))) ⊕ (List (Int × (List Int)))) :=
  some (.inl ((w64 (x5 + 1)), m11))

def F_rank_Far_l2 (s1 : TSpace) (x5 : Int) (m6 : (List (Int × (List Int)))) : Option ((Int × (List (Int × (List Int)))) ⊕ (List (Int × (List Int)))) :=
  bif (decide (x5 < (s1.Edges.length : Int))) then
  (idx s1.Edges x5).bind fun e12 =>
  (F_rank_counts s1 e12).bind fun x13 =>
  bif x13 then
  (chk (decide (((mget m6 e12.To).getD []).length + ([e12.From] : List Int).length ≤ 4294967296))).bind fun _ =>
  F_rank_Far_k1 x5 (mset ltI m6 e12.To (((mget m6 e12.To).getD []) ++ [e12.From]))
  else
  F_rank_Far_k1 x5 m6
  else
  some (.inr m6)

def F_rank_Far_l3 (s1 : TSpace) (x19 : Int) (l20 : (List Int)) : Option ((Int × (List Int)) ⊕ (List Int)) :=
  bif (decide (x19 < ((List.replicate (s1.States.length : Int).toNat (0 : Int)).length : Int))) then
  (idx l20 x19).bind fun e25 =>
  some (.inl ((w64 (x19 + 1)), (l20.set x19.toNat (-1))))
  else
  some (.inr l20)

def F_rank_Far_k4 (x28 : Int) (l34 : (List Trank_stop)) : Option ((Int × (List Trank_stop)) ⊕ (List Trank_stop)) :=
  some (.inl ((w64 (x28 + 1)), l34))

def F_rank_Far_l5 (goals2 : (List Int)) (s1 : TSpace) (x28 : Int) (l29 : (List Trank_stop)) : Option ((Int × (List Trank_stop)) ⊕ (List Trank_stop)) :=
  bif (decide (x28 < (goals2.length : Int))) then
  (idx goals2 x28).bind fun e35 =>
  (F_rank_in s1 e35).bind fun x36 =>
  bif x36 then
  (F_container_heap_Push l29 (Trank_stop.mk e35 0)).bind fun x38 =>
  F_rank_Far_k4 x28 x38
  else
  F_rank_Far_k4 x28 l29
  else
  some (.inr l29)

def F_rank_Far_l6 (m9 : (List (Int × (List Int)))) (x47 : (Trank_stop × (List Trank_stop))) (x52 : Int) (l53 : (List Trank_stop)) : Option ((Int × (List Trank_stop)) ⊕ (List Trank_stop)) :=
  bif (decide (x52 < (((mget m9 x47.1.state).getD ([] : (List Int))).length : Int))) then
  (idx ((mget m9 x47.1.state).getD ([] : (List Int))) x52).bind fun e58 =>
  (F_container_heap_Push l53 (Trank_stop.mk e58 (w64 (x47.1.far + 1)))).bind fun x59 =>
  some (.inl ((w64 (x52 + 1)), x59))
  else
  some (.inr l53)

def F_rank_Far_c7 (l40 : (List Int)) (x47 : (Trank_stop × (List Trank_stop))) (l56 : (List Trank_stop)) : Option (((List Int) × (List Trank_stop)) ⊕ (List Int)) :=
  some (.inl ((l40.set x47.1.state.toNat x47.1.far), l56))

def F_rank_Far_l8 (m9 : (List (Int × (List Int)))) (l40 : (List Int)) (l41 : (List Trank_stop)) : Option (((List Int) × (List Trank_stop)) ⊕ (List Int)) :=
  (F_rank_stops_Len_v2 l41).bind fun x45 =>
  bif (decide (0 < x45)) then
  (F_container_heap_Pop l41).bind fun x47 =>
  (idx l40 x47.1.state).bind fun e48 =>
  bif (decide (0 ≤ e48)) then
  some (.inl (l40, x47.2))
  else
  (idx l40 x47.1.state).bind fun e50 =>
  (loopM (fun st => F_rank_Far_l6 m9 x47 st.1 st.2) (0, x47.2)).bind (fun q => F_rank_Far_c7 l40 x47 q)
  else
  some (.inr l40)

def F_rank_Far_c9 (l44 : (List Int)) : Option (List Int) :=
  some l44

def F_rank_Far_c10 (m9 : (List (Int × (List Int)))) (l23 : (List Int)) (l32 : (List Trank_stop)) : Option (List Int) :=
  (loopM (fun st => F_rank_Far_l8 m9 st.1 st.2) (l23, l32)).bind (fun q => F_rank_Far_c9 q)

def F_rank_Far_c11 (goals2 : (List Int)) (s1 : TSpace) (m9 : (List (Int × (List Int)))) (l23 : (List Int)) : Option (List Int) :=
  (loopM (fun st => F_rank_Far_l5 goals2 s1 st.1 st.2) (0, ([] : List Trank_stop))).bind (fun q => F_rank_Far_c10 m9 l23 q)

def F_rank_Far_c12 (s1 : TSpace) (goals2 : (List Int)) (m9 : (List (Int × (List Int)))) : Option (List Int) :=
  (chk (decide (0 ≤ (s1.States.length : Int)) && decide ((s1.States.length : Int) ≤ (s1.States.length : Int)) && decide ((s1.States.length : Int) ≤ 4294967296))).bind fun _ =>
  (loopM (fun st => F_rank_Far_l3 s1 st.1 st.2) (0, (List.replicate (s1.States.length : Int).toNat (0 : Int)))).bind (fun q => F_rank_Far_c11 goals2 s1 m9 q)

def F_rank_Far (s1 : TSpace) (goals2 : (List Int)) : Option (List Int) :=
  (loopM (fun st => F_rank_Far_l2 s1 st.1 st.2) (0, ([] : (List (Int × (List Int)))))).bind (fun q => F_rank_Far_c12 s1 goals2 q)

set_option maxRecDepth 100000 in
set_option maxHeartbeats 4000000 in
theorem F_rank_Far_ok (s1 : TSpace) (goals2 : (List Int)) {r : (List Int)} (h : F_rank_Far s1 goals2 = some r) : ACalls Try.prog 13 [.agg (row_TSpace s1), .sl 1 (goals2.map row_I)] [] (Gives (.own 30000 r.length) [(30000, .arr 1 (r.map row_I))]) := by
  refine ACalls.walk 104 Try.func13 rfl Try.ntmps13 rfl fun C hC => ?_
  unfold F_rank_Far at h
  refine AK.go tab_ok hC [.n 8, .x (fun σ => (σ.set 16 (.grp 1 [] none)).put 16 (.map 16)), .sayO 16 (.grp 1 (grpT (V.i .i64) row_I ([] : (List (Int × (List Int))))) none), .n 8, .o (.ln s1.Edges.length), .n 4, .keep [1, 2, 5, 18, 19, 20] [2, 16]] rfl ⟨⟨⟨trivial, (Stp.makeGrp 1 rfl rfl (hC ▸ rfl) rfl)⟩, rfl⟩, mapLen⟩ ?_
  obtain ⟨m9, hl16, h⟩ := bindE h
  refine AK.loop (body := (fun st => F_rank_Far_l2 s1 st.1 st.2)) (fun st σ => σ = ⟨[(1, .sl 1 (goals2.map row_I)), (2, .loc 2 0 0), (5, .map 16), (18, .sl 6 (s1.Edges.map row_TEdge)), (19, .i .i64 (s1.Edges.length : Int)), (20, .i .i64 st.1)], [(2, .var (row_TSpace s1)), (16, .grp 1 (grpT (V.i .i64) row_I st.2) none)]⟩) (fun q e σ => e = .exit 0 ∧ σ = ⟨[(1, .sl 1 (goals2.map row_I)), (2, .loc 2 0 0), (5, .map 16)], [(2, .var (row_TSpace s1)), (16, .grp 1 (grpT (V.i .i64) row_I q) none)]⟩) hl16 rfl ?_ ?_
  · rintro ⟨x5, m6⟩ o σ rfl h
    replace h : F_rank_Far_l2 s1 x5 m6 = some o := h
    unfold F_rank_Far_l2 at h
    refine AK.go tab_ok hC [.n 6] rfl trivial ?_
    rcases bifE h with ⟨hc10, h⟩ | ⟨hc10, h⟩
    · refine AK.go tab_ok hC [.br true, .n 2] rfl ⟨trivial, hc10⟩ ?_
      refine AK.meet (fun σ => ∃ m11 : (List (Int × (List Int))), σ = ⟨[(1, .sl 1 (goals2.map row_I)), (2, .loc 2 0 0), (5, .map 16), (18, .sl 6 (s1.Edges.map row_TEdge)), (19, .i .i64 (s1.Edges.length : Int)), (20, .i .i64 x5)], [(2, .var (row_TSpace s1)), (16, .grp 1 (grpT (V.i .i64) row_I m11) none)]⟩ ∧ F_rank_Far_k1 x5 m11 = some o) ?_ ?_
      · obtain ⟨e12, he12, h⟩ := bindE h
        obtain ⟨x13, hx13, h⟩ := bindE h
        refine AK.go tab_ok hC [.n 3, .o (.row (row_TEdge e12)), .v .no [] (.agg (row_TEdge e12)), .n 2, .sayO 7 (.var (row_TEdge e12)), .n 4, .v .no [] (.agg (row_TSpace s1)), .v .no [] (.agg (row_TEdge e12)), .o (.c false [.d, .d] (.b x13)), .n 2] rfl ⟨⟨⟨⟨⟨⟨trivial, (idxM he12)⟩, rfl⟩, rfl⟩, rfl⟩, rfl⟩, (F_rank_counts_ok _ _ hx13)⟩ ?_
        rcases bifE h with ⟨hc14, h⟩ | ⟨hc14, h⟩
        · obtain ⟨_, hk15, h⟩ := bindE h
          replace hk15 := chkE hk15
          refine AK.go tab_ok hC [.br true, .keep [1, 2, 5, 7, 18, 19, 20] [2, 7, 16]] rfl ⟨trivial, hc14⟩ ?_
          refine AK.draw2 tab_ok hC mixed [.a .no none true, .a .no none true, .a .no none true, .a .no none false, .a .no none false, .a .no none false, .m (.any ⟨[33], [(33, .arr 1 (((mget m6 e12.To).getD []).map row_I)), (16, .grp 1 (grpT (V.i .i64) row_I m6) (some ((V.i .i64) e12.To)))], some (33, .own 33 ((mget m6 e12.To).getD []).length)⟩), .a .no none true, .a .no none true, .a (.bd []) (some ([], .sl 1 (([e12.From] : List Int).map row_I))) true, .m (.app ((((mget m6 e12.To).getD []) ++ [e12.From]).map row_I) (((mget m6 e12.To).getD []) ++ [e12.From]).length), .m (.any ⟨[33], [(16, .grp 1 (grpT (V.i .i64) row_I (mset ltI m6 e12.To (((mget m6 e12.To).getD []) ++ [e12.From]))) none)], none⟩)] [1, 2, 5, 7, 18, 19, 20] [2, 7] [1, 2, 5, 18, 19, 20] [2, 16] rfl rfl rfl ⟨⟨⟨⟨trivial, (fun σ h1 h2 => Stp.lookupOutT (e := (V.i .i64)) (f := row_I) (l := m6) (k := e12.To) rfl rfl (hC ▸ rfl) (h1 _ _ rfl) (h2 _ _ rfl) (h1 _ _ rfl) mt_59 ky_3 nz_31 rfl rfl rfl rfl rfl)⟩, rfl⟩, ⟨mapLen, appLim hk15 mapLen, mapApps, appLn mapLen⟩⟩, (fun σ h1 h2 => Stp.updateBackT (e := (V.i .i64)) (f := row_I) (l := m6) (k := e12.To) (((mget m6 e12.To).getD []) ++ [e12.From]) ltI rfl rfl (h1 _ _ rfl) (h2 _ _ rfl) (h1 _ _ rfl) (h1 _ _ rfl) (h2 _ _ rfl) mt_59 ky_3 rfl rfl rfl rfl rfl (by simp))⟩ rfl (by kernel_rfl) rfl rfl rfl ?_
          refine AK.go tab_ok hC [.n 1, .keep [1, 2, 5, 18, 19, 20] [2, 16]] rfl trivial ?_
          exact AK.met (Exists.intro _ (And.intro rfl h))
        · refine AK.go tab_ok hC [.br false, .n 2, .keep [1, 2, 5, 18, 19, 20] [2, 16]] rfl ⟨trivial, hc14⟩ ?_
          exact AK.met (Exists.intro _ (And.intro rfl h))
      · rintro σ ⟨m11, rfl, h⟩
        unfold F_rank_Far_k1 at h
        refine AK.go tab_ok hC [.n 4, .keep [1, 2, 5, 18, 19, 20] [2, 16]] rfl trivial ?_
        obtain rfl := Option.some.inj h
        exact rndN rfl rfl
    · refine AK.go tab_ok hC [.br false, .n 2, .keep [1, 2, 5] [2, 16]] rfl ⟨trivial, hc10⟩ ?_
      obtain rfl := Option.some.inj h
      exact rndX rfl (And.intro rfl rfl)
  · replace h : F_rank_Far_c12 s1 goals2 m9 = some r := h
    unfold F_rank_Far_c12 at h
    rintro e σ ⟨rfl, rfl⟩
    obtain ⟨_, hk17, h⟩ := bindE h
    replace hk17 := chkE hk17
    refine AK.go tab_ok hC [.n 6, .o (.ln s1.States.length), .o (.rows ((List.replicate (s1.States.length : Int).toNat (0 : Int)).map row_I)), .say 42 (.own 42 (List.replicate (s1.States.length : Int).toNat (0 : Int)).length), .n 12] rfl ⟨⟨⟨trivial, mapLen⟩, ⟨hk17, mapRep rfl⟩⟩, (by simp)⟩ ?_
    refine AK.grpMap (b := 16) (e := (V.i .i64)) (f := row_I) (l := m9) ky_3 rfl rfl ?_
    refine AK.go tab_ok hC [.sayO 16 (.map (mapV (V.i .i64) (fun x => V.sl 1 (x.map row_I)) m9)), .keep [1, 2, 5, 8, 44, 45] [2, 16, 42]] rfl ⟨trivial, rfl⟩ ?_
    obtain ⟨l23, hl26, h⟩ := bindE h
    refine AK.loop (body := (fun st => F_rank_Far_l3 s1 st.1 st.2)) (fun st σ => σ = ⟨[(1, .sl 1 (goals2.map row_I)), (2, .loc 2 0 0), (5, .map 16), (8, .own 42 st.2.length), (44, .i .i64 ((List.replicate (s1.States.length : Int).toNat (0 : Int)).length : Int)), (45, .i .i64 st.1)], [(2, .var (row_TSpace s1)), (16, .map (mapV (V.i .i64) (fun x => V.sl 1 (x.map row_I)) m9)), (42, .arr 1 (st.2.map row_I))]⟩) (fun q e σ => e = .exit 2 ∧ σ = ⟨[(1, .sl 1 (goals2.map row_I)), (2, .loc 2 0 0), (5, .map 16), (8, .own 42 q.length)], [(2, .var (row_TSpace s1)), (16, .map (mapV (V.i .i64) (fun x => V.sl 1 (x.map row_I)) m9)), (42, .arr 1 (q.map row_I))]⟩) hl26 rfl ?_ ?_
    · rintro ⟨x19, l20⟩ o σ rfl h
      replace h : F_rank_Far_l3 s1 x19 l20 = some o := h
      unfold F_rank_Far_l3 at h
      refine AK.go tab_ok hC [.n 6] rfl trivial ?_
      rcases bifE h with ⟨hc24, h⟩ | ⟨hc24, h⟩
      · obtain ⟨e25, he25, h⟩ := bindE h
        refine AK.go tab_ok hC [.br true, .n 14, .st (row_I e25) ((l20.set x19.toNat (-1)).map row_I), .n 7, .say 8 (.own 42 (l20.set x19.toNat (-1)).length), .keep [1, 2, 5, 8, 44, 45] [2, 16, 42]] rfl ⟨⟨⟨⟨trivial, hc24⟩, (idxOw he25 rfl)⟩, ⟨(mapGet (idxE he25).2), mapSet rfl⟩⟩, (congrArg (fun n => V.own 42 n) (by simp))⟩ ?_
        obtain rfl := Option.some.inj h
        exact rndN rfl rfl
      · refine AK.go tab_ok hC [.br false, .n 2, .keep [1, 2, 5, 8] [2, 16, 42]] rfl ⟨trivial, hc24⟩ ?_
        obtain rfl := Option.some.inj h
        exact rndX rfl (And.intro rfl rfl)
    · replace h : F_rank_Far_c11 goals2 s1 m9 l23 = some r := h
      unfold F_rank_Far_c11 at h
      rintro e σ ⟨rfl, rfl⟩
      refine AK.go tab_ok hC [.n 11, .o (.ln goals2.length), .n 4, .adoptO 10 0 45200 2, .sayO 45200 (.arr 2 (([] : List Trank_stop).map row_Trank_stop)), .sayO 10 (.var [.own 45200 ([] : List Trank_stop).length]), .keep [2, 5, 8, 10, 52, 53, 54] [2, 10, 16, 42, 45200]] rfl ⟨⟨⟨trivial, mapLen⟩, rfl⟩, (congrArg (fun n => Ob.var [.own 45200 n]) (by simp))⟩ ?_
      obtain ⟨l32, hl39, h⟩ := bindE h
      refine AK.loop (body := (fun st => F_rank_Far_l5 goals2 s1 st.1 st.2)) (fun st σ => σ = ⟨[(2, .loc 2 0 0), (5, .map 16), (8, .own 42 l23.length), (10, .loc 10 0 0), (52, .sl 1 (goals2.map row_I)), (53, .i .i64 (goals2.length : Int)), (54, .i .i64 st.1)], [(2, .var (row_TSpace s1)), (10, .var [.own 45200 st.2.length]), (16, .map (mapV (V.i .i64) (fun x => V.sl 1 (x.map row_I)) m9)), (42, .arr 1 (l23.map row_I)), (45200, .arr 2 (st.2.map row_Trank_stop))]⟩) (fun q e σ => e = .exit 4 ∧ σ = ⟨[(5, .map 16), (8, .own 42 l23.length), (10, .loc 10 0 0)], [(10, .var [.own 45200 q.length]), (16, .map (mapV (V.i .i64) (fun x => V.sl 1 (x.map row_I)) m9)), (42, .arr 1 (l23.map row_I)), (45200, .arr 2 (q.map row_Trank_stop))]⟩) hl39 rfl ?_ ?_
      · rintro ⟨x28, l29⟩ o σ rfl h
        replace h : F_rank_Far_l5 goals2 s1 x28 l29 = some o := h
        unfold F_rank_Far_l5 at h
        refine AK.go tab_ok hC [.n 6] rfl trivial ?_
        rcases bifE h with ⟨hc33, h⟩ | ⟨hc33, h⟩
        · refine AK.go tab_ok hC [.br true, .n 2] rfl ⟨trivial, hc33⟩ ?_
          refine AK.meet (fun σ => ∃ l34 : (List Trank_stop), σ = ⟨[(2, .loc 2 0 0), (5, .map 16), (8, .own 42 l23.length), (10, .loc 10 0 0), (52, .sl 1 (goals2.map row_I)), (53, .i .i64 (goals2.length : Int)), (54, .i .i64 x28)], [(2, .var (row_TSpace s1)), (10, .var [.own 45200 l34.length]), (16, .map (mapV (V.i .i64) (fun x => V.sl 1 (x.map row_I)) m9)), (42, .arr 1 (l23.map row_I)), (45200, .arr 2 (l34.map row_Trank_stop))]⟩ ∧ F_rank_Far_k4 x28 l34 = some o) ?_ ?_
          · obtain ⟨e35, he35, h⟩ := bindE h
            obtain ⟨x36, hx36, h⟩ := bindE h
            refine AK.go tab_ok hC [.n 3, .o (.row (row_I e35)), .n 6, .v .no [] (.agg (row_TSpace s1)), .n 1, .o (.c false [.d, .d] (.b x36)), .n 2] rfl ⟨⟨⟨trivial, (idxM he35)⟩, rfl⟩, (F_rank_in_ok _ _ hx36)⟩ ?_
            rcases bifE h with ⟨hc37, h⟩ | ⟨hc37, h⟩
            · obtain ⟨x38, hx38, h⟩ := bindE h
              refine AK.go tab_ok hC [.br true, .n 3, .v .no [] (.agg (row_Trank_stop (Trank_stop.mk e35 0))), .n 1, .cm (.fn) [(200000, 10), (100000, 45200)] [(45200, 100000), (10, 200000)] [45200] [.d, .d] [(100000, .arr 2 (x38.map row_Trank_stop)), (200000, .var [.own 100000 x38.length])] (.tup []), .n 2, .keep [2, 5, 8, 10, 52, 53, 54] [2, 10, 16, 42, 45200]] rfl ⟨⟨⟨trivial, hc37⟩, rfl⟩, (F_container_heap_Push_ok _ _ hx38)⟩ ?_
              exact AK.met (Exists.intro _ (And.intro rfl h))
            · refine AK.go tab_ok hC [.br false, .n 2, .keep [2, 5, 8, 10, 52, 53, 54] [2, 10, 16, 42, 45200]] rfl ⟨trivial, hc37⟩ ?_
              exact AK.met (Exists.intro _ (And.intro rfl h))
          · rintro σ ⟨l34, rfl, h⟩
            unfold F_rank_Far_k4 at h
            refine AK.go tab_ok hC [.n 4, .keep [2, 5, 8, 10, 52, 53, 54] [2, 10, 16, 42, 45200]] rfl trivial ?_
            obtain rfl := Option.some.inj h
            exact rndN rfl rfl
        · refine AK.go tab_ok hC [.br false, .n 2, .keep [5, 8, 10] [10, 16, 42, 45200]] rfl ⟨trivial, hc33⟩ ?_
          obtain rfl := Option.some.inj h
          exact rndX rfl (And.intro rfl rfl)
      · replace h : F_rank_Far_c10 m9 l23 l32 = some r := h
        unfold F_rank_Far_c10 at h
        rintro e σ ⟨rfl, rfl⟩
        refine AK.go tab_ok hC [.n 4, .keep [5, 8, 10] [10, 16, 42, 45200]] rfl trivial ?_
        obtain ⟨l44, hl61, h⟩ := bindE h
        refine AK.loop (body := (fun st => F_rank_Far_l8 m9 st.1 st.2)) (fun st σ => σ = ⟨[(5, .map 16), (8, .own 42 st.1.length), (10, .loc 10 0 0)], [(10, .var [.own 45200 st.2.length]), (16, .map (mapV (V.i .i64) (fun x => V.sl 1 (x.map row_I)) m9)), (42, .arr 1 (st.1.map row_I)), (45200, .arr 2 (st.2.map row_Trank_stop))]⟩) (fun q e σ => e = .exit 6 ∧ σ = ⟨[(8, .own 42 q.length)], [(42, .arr 1 (q.map row_I))]⟩) hl61 rfl ?_ ?_
        · rintro ⟨l40, l41⟩ o σ rfl h
          replace h : F_rank_Far_l8 m9 l40 l41 = some o := h
          unfold F_rank_Far_l8 at h
          obtain ⟨x45, hx45, h⟩ := bindE h
          refine AK.go tab_ok hC [.n 4, .o (.c true [.o (l41.map row_Trank_stop)] (.i .i64 x45)), .n 3] rfl ⟨trivial, ⟨(viewMap rfl), (F_rank_stops_Len_v2_ok _ hx45)⟩⟩ ?_
          rcases bifE h with ⟨hc46, h⟩ | ⟨hc46, h⟩
          · obtain ⟨x47, hx47, h⟩ := bindE h
            obtain ⟨e48, he48, h⟩ := bindE h
            refine AK.go tab_ok hC [.br true, .n 6, .cm (.fn) [(200000, 10), (100000, 45200)] [(45200, 100000), (10, 200000)] [45200] [.d] [(100000, .arr 2 (x47.2.map row_Trank_stop)), (200000, .var [.own 100000 x47.2.length])] (.ifc 66 (.agg (row_Trank_stop x47.1))), .n 3, .sayO 13 (.var (row_Trank_stop x47.1)), .n 9, .o (.row (row_I e48)), .n 3] rfl ⟨⟨⟨⟨⟨trivial, hc46⟩, (F_container_heap_Pop_ok _ hx47)⟩, rfl⟩, (idxOw he48 rfl)⟩, (mapGet (idxE he48).2)⟩ ?_
            rcases bifE h with ⟨hc49, h⟩ | ⟨hc49, h⟩
            · refine AK.go tab_ok hC [.br true, .n 3, .keep [5, 8, 10] [10, 16, 42, 45200]] rfl ⟨trivial, hc49⟩ ?_
              obtain rfl := Option.some.inj h
              exact rndN rfl rfl
            · obtain ⟨e50, he50, h⟩ := bindE h
              refine AK.go tab_ok hC [.br false, .n 10, .st (row_I e50) ((l40.set x47.1.state.toNat x47.1.far).map row_I), .n 7, .o (.any (.sl 1 (((mget m9 x47.1.state).getD ([] : (List Int))).map row_I)) none), .o (.ln ((mget m9 x47.1.state).getD ([] : (List Int))).length), .n 4, .say 8 (.own 42 (l40.set x47.1.state.toNat x47.1.far).length), .keep [5, 8, 10, 13, 88, 89, 90] [10, 13, 16, 42, 45200]] rfl ⟨⟨⟨⟨⟨⟨trivial, hc49⟩, (idxOw he50 rfl)⟩, ⟨(mapGet (idxE he50).2), mapSet rfl⟩⟩, (fun σ h1 h2 _ => Stp.lookup (e := (V.i .i64)) (f := (fun x => V.sl 1 (x.map row_I))) (l := m9) (k := x47.1.state) (z := ([] : (List Int))) rfl rfl (hC ▸ rfl) (h1 _ _ rfl) (h2 _ _ rfl) (h1 _ _ rfl) mt_59 ky_3 zi_31 rfl)⟩, mapLen⟩, (congrArg (fun n => V.own 42 n) (by simp))⟩ ?_
              obtain ⟨l56, hl60, h⟩ := bindE h
              refine AK.loop (body := (fun st => F_rank_Far_l6 m9 x47 st.1 st.2)) (fun st σ => σ = ⟨[(5, .map 16), (8, .own 42 (l40.set x47.1.state.toNat x47.1.far).length), (10, .loc 10 0 0), (13, .loc 13 0 0), (88, .sl 1 (((mget m9 x47.1.state).getD ([] : (List Int))).map row_I)), (89, .i .i64 (((mget m9 x47.1.state).getD ([] : (List Int))).length : Int)), (90, .i .i64 st.1)], [(10, .var [.own 45200 st.2.length]), (13, .var (row_Trank_stop x47.1)), (16, .map (mapV (V.i .i64) (fun x => V.sl 1 (x.map row_I)) m9)), (42, .arr 1 ((l40.set x47.1.state.toNat x47.1.far).map row_I)), (45200, .arr 2 (st.2.map row_Trank_stop))]⟩) (fun q e σ => e = .exit 8 ∧ σ = ⟨[(5, .map 16), (8, .own 42 (l40.set x47.1.state.toNat x47.1.far).length), (10, .loc 10 0 0)], [(10, .var [.own 45200 q.length]), (16, .map (mapV (V.i .i64) (fun x => V.sl 1 (x.map row_I)) m9)), (42, .arr 1 ((l40.set x47.1.state.toNat x47.1.far).map row_I)), (45200, .arr 2 (q.map row_Trank_stop))]⟩) hl60 rfl ?_ ?_
              · rintro ⟨x52, l53⟩ o σ rfl h
                replace h : F_rank_Far_l6 m9 x47 x52 l53 = some o := h
                unfold F_rank_Far_l6 at h
                refine AK.go tab_ok hC [.n 6] rfl trivial ?_
                rcases bifE h with ⟨hc57, h⟩ | ⟨hc57, h⟩
                · obtain ⟨e58, he58, h⟩ := bindE h
                  obtain ⟨x59, hx59, h⟩ := bindE h
                  refine AK.go tab_ok hC [.br true, .n 6, .o (.row (row_I e58)), .n 10, .v .no [] (.agg (row_Trank_stop (Trank_stop.mk e58 (w64 (x47.1.far + 1))))), .n 1, .cm (.fn) [(200000, 10), (100000, 45200)] [(45200, 100000), (10, 200000)] [45200] [.d, .d] [(100000, .arr 2 (x59.map row_Trank_stop)), (200000, .var [.own 100000 x59.length])] (.tup []), .n 7, .keep [5, 8, 10, 13, 88, 89, 90] [10, 13, 16, 42, 45200]] rfl ⟨⟨⟨⟨trivial, hc57⟩, (idxM he58)⟩, rfl⟩, (F_container_heap_Push_ok _ _ hx59)⟩ ?_
                  obtain rfl := Option.some.inj h
                  exact rndN rfl rfl
                · refine AK.go tab_ok hC [.br false, .n 2, .keep [5, 8, 10] [10, 16, 42, 45200]] rfl ⟨trivial, hc57⟩ ?_
                  obtain rfl := Option.some.inj h
                  exact rndX rfl (And.intro rfl rfl)
              · replace h : F_rank_Far_c7 l40 x47 l56 = some o := h
                unfold F_rank_Far_c7 at h
                rintro e σ ⟨rfl, rfl⟩
                refine AK.go tab_ok hC [.n 2, .keep [5, 8, 10] [10, 16, 42, 45200]] rfl trivial ?_
                obtain rfl := Option.some.inj h
                exact rndN rfl rfl
          · refine AK.go tab_ok hC [.br false, .n 2, .keep [8] [42]] rfl ⟨trivial, hc46⟩ ?_
            obtain rfl := Option.some.inj h
            exact rndX rfl (And.intro rfl rfl)
        · replace h : F_rank_Far_c9 l44 = some r := h
          unfold F_rank_Far_c9 at h
          rintro e σ ⟨rfl, rfl⟩
          refine AK.go tab_ok hC [.n 9, .keep [4] [42], .ren 42 30000, .keep [4] [30000]] rfl trivial ?_
          obtain rfl := Option.some.inj h
          refine AK.done ?_
          exact Exists.intro [_] (And.intro (And.intro rfl trivial) (gives ⟨rfl, trivial⟩))

-- 34 baldric/rank.ends
def F_rank_ends (n1 : TNet) (s2 : TSpace) : Option (List Int) :=
  (F_rank_Goals n1 s2).bind fun x4 =>
  (F_rank_Far s2 x4).bind fun x5 =>
  some x5

set_option maxRecDepth 100000 in
set_option maxHeartbeats 4000000 in
theorem F_rank_ends_ok (n1 : TNet) (s2 : TSpace) {r : (List Int)} (h : F_rank_ends n1 s2 = some r) : ACalls Try.prog 34 [.agg (row_TNet n1), .agg (row_TSpace s2)] [] (Gives (.own 30000 r.length) [(30000, .arr 1 (r.map row_I))]) := by
  refine ACalls.walk 10 Try.func34 rfl Try.ntmps34 rfl fun C hC => ?_
  unfold F_rank_ends at h
  obtain ⟨x4, hx4, h⟩ := bindE h
  obtain ⟨x5, hx5, h⟩ := bindE h
  refine AK.go tab_ok hC [.n 8, .keep [2, 3, 4] [2, 3]] rfl trivial ?_
  refine AK.draw2 tab_ok hC mixed [.a .no (some ([], .agg (row_TSpace s2))) false, .a .no (some ([], .agg (row_TNet n1))) false, .a .no (some ([], .agg (row_TSpace s2))) false, .a (.cd false [.d, .d] 1 (x4.map row_I) x4.length) none false, .a (.co false [.d, .d] 1 (x5.map row_I) x5.length) none false, .m .s] [] [] [4] [9] rfl rfl rfl ⟨⟨⟨⟨⟨trivial, rfl⟩, rfl⟩, rfl⟩, ⟨(F_rank_Goals_ok _ _ hx4), mapLen⟩⟩, ⟨(F_rank_Far_ok _ _ hx5), mapLen, .inl rfl⟩⟩ rfl (by kernel_rfl) rfl rfl rfl ?_
  refine AK.go tab_ok hC [.n 2, .keep [4] [9], .ren 9 30000, .keep [4] [30000]] rfl trivial ?_
  obtain rfl := Option.some.inj h
  refine AK.done ?_
  exact Exists.intro [_] (And.intro (And.intro rfl trivial) (gives ⟨rfl, trivial⟩))

-- 15 baldric/rank.Lost
def F_rank_Lost_k1 (x6 : Int) (l12 : (List Int)) : Option ((Int × (List Int)) ⊕ (List Int)) :=
  some (.inl ((w64 (x6 + 1)), l12))

def F_rank_Lost_l2 (x4 : (List Int)) (x6 : Int) (l7 : (List Int)) : Option ((Int × (List Int)) ⊕ (List Int)) :=
  bif (decide (x6 < (x4.length : Int))) then
  (idx x4 x6).bind fun e13 =>
  bif (decide (e13 < 0)) then
  (chk (decide (l7.length + ([x6] : List Int).length ≤ 4294967296))).bind fun _ =>
  F_rank_Lost_k1 x6 (l7 ++ ([x6] : List Int))
  else
  F_rank_Lost_k1 x6 l7
  else
  some (.inr l7)

def F_rank_Lost_c3 (l10 : (List Int)) : Option (List Int) :=
  some l10

def F_rank_Lost (n1 : TNet) (s2 : TSpace) : Option (List Int) :=
  (F_rank_ends n1 s2).bind fun x4 =>
  (loopM (fun st => F_rank_Lost_l2 x4 st.1 st.2) (0, ([] : List Int))).bind (fun q => F_rank_Lost_c3 q)

set_option maxRecDepth 100000 in
set_option maxHeartbeats 4000000 in
theorem F_rank_Lost_ok (n1 : TNet) (s2 : TSpace) {r : (List Int)} (h : F_rank_Lost n1 s2 = some r) : ACalls Try.prog 15 [.agg (row_TNet n1), .agg (row_TSpace s2)] [] (Gives (.own 30000 r.length) [(30000, .arr 1 (r.map row_I))]) := by
  refine ACalls.walk 25 Try.func15 rfl Try.ntmps15 rfl fun C hC => ?_
  unfold F_rank_Lost at h
  obtain ⟨x4, hx4, h⟩ := bindE h
  refine AK.go tab_ok hC [.n 15, .v .no [] (.agg (row_TNet n1)), .v .no [] (.agg (row_TSpace s2)), .o (.co false [.d, .d] 1 (x4.map row_I) x4.length), .n 5, .adopt 5 19 1, .sayO 19 (.arr 1 (([] : List Int).map row_I)), .say 5 (.own 19 ([] : List Int).length), .keep [5, 10, 11, 12] [10, 19]] rfl ⟨⟨⟨⟨⟨trivial, rfl⟩, rfl⟩, ⟨(F_rank_ends_ok _ _ hx4), mapLen, .inl rfl⟩⟩, rfl⟩, (congrArg (fun n => V.own 19 n) (by simp))⟩ ?_
  obtain ⟨l10, hl16, h⟩ := bindE h
  refine AK.loop (body := (fun st => F_rank_Lost_l2 x4 st.1 st.2)) (fun st σ => σ = ⟨[(5, .own 19 st.2.length), (10, .own 10 x4.length), (11, .i .i64 (x4.length : Int)), (12, .i .i64 st.1)], [(10, .arr 1 (x4.map row_I)), (19, .arr 1 (st.2.map row_I))]⟩) (fun q e σ => e = .exit 0 ∧ σ = ⟨[(5, .own 19 q.length)], [(19, .arr 1 (q.map row_I))]⟩) hl16 rfl ?_ ?_
  · rintro ⟨x6, l7⟩ o σ rfl h
    replace h : F_rank_Lost_l2 x4 x6 l7 = some o := h
    unfold F_rank_Lost_l2 at h
    refine AK.go tab_ok hC [.n 6] rfl trivial ?_
    rcases bifE h with ⟨hc11, h⟩ | ⟨hc11, h⟩
    · refine AK.go tab_ok hC [.br true, .n 2] rfl ⟨trivial, hc11⟩ ?_
      refine AK.meet (fun σ => ∃ l12 : (List Int), σ = ⟨[(5, .own 19 l12.length), (10, .own 10 x4.length), (11, .i .i64 (x4.length : Int)), (12, .i .i64 x6)], [(10, .arr 1 (x4.map row_I)), (19, .arr 1 (l12.map row_I))]⟩ ∧ F_rank_Lost_k1 x6 l12 = some o) ?_ ?_
      · obtain ⟨e13, he13, h⟩ := bindE h
        refine AK.go tab_ok hC [.n 5, .o (.row (row_I e13)), .n 10] rfl ⟨⟨trivial, (idxOw he13 rfl)⟩, (mapGet (idxE he13).2)⟩ ?_
        rcases bifE h with ⟨hc14, h⟩ | ⟨hc14, h⟩
        · obtain ⟨_, hk15, h⟩ := bindE h
          replace hk15 := chkE hk15
          refine AK.go tab_ok hC [.br true, .n 3, .v (.bd []) [] (.sl 1 (([x6] : List Int).map row_I)), .app ((l7 ++ ([x6] : List Int)).map row_I) (l7 ++ ([x6] : List Int)).length, .n 3, .keep [5, 10, 11, 12] [10, 19]] rfl ⟨⟨⟨trivial, hc14⟩, rfl⟩, ⟨mapLen, appLim hk15 mapLen, mapApps, appLn mapLen⟩⟩ ?_
          exact AK.met (Exists.intro _ (And.intro rfl h))
        · refine AK.go tab_ok hC [.br false, .n 2, .keep [5, 10, 11, 12] [10, 19]] rfl ⟨trivial, hc14⟩ ?_
          exact AK.met (Exists.intro _ (And.intro rfl h))
      · rintro σ ⟨l12, rfl, h⟩
        unfold F_rank_Lost_k1 at h
        refine AK.go tab_ok hC [.n 4, .keep [5, 10, 11, 12] [10, 19]] rfl trivial ?_
        obtain rfl := Option.some.inj h
        exact rndN rfl rfl
    · refine AK.go tab_ok hC [.br false, .n 2, .keep [5] [19]] rfl ⟨trivial, hc11⟩ ?_
      obtain rfl := Option.some.inj h
      exact rndX rfl (And.intro rfl rfl)
  · replace h : F_rank_Lost_c3 l10 = some r := h
    unfold F_rank_Lost_c3 at h
    rintro e σ ⟨rfl, rfl⟩
    refine AK.go tab_ok hC [.n 9, .keep [4] [19], .ren 19 30000, .keep [4] [30000]] rfl trivial ?_
    obtain rfl := Option.some.inj h
    refine AK.done ?_
    exact Exists.intro [_] (And.intro (And.intro rfl trivial) (gives ⟨rfl, trivial⟩))

-- 47 baldric/rank.nearer$1
def F_rank_nearer_1_g1 (v2 : TSpace) (e1 : TEdge) (v3 : Int) (v4 : (List Int)) : Option Bool :=
  (F_rank_counts v2 e1).bind fun x8 =>
  bif x8 then
  bif (e1.From == v3) then
  (idx v4 e1.To).bind fun e11 =>
  (idx v4 v3).bind fun e12 =>
  some (e11 == (w64 (e12 - 1)))
  else
  some false
  else
  some false

def F_rank_nearer_1_k2 (x6 : Bool) : Option Bool :=
  some x6

def F_rank_nearer_1 (e1 : TEdge) (v2 : TSpace) (v3 : Int) (v4 : (List Int)) : Option Bool :=
  (F_rank_nearer_1_g1 v2 e1 v3 v4).bind (fun x6 => F_rank_nearer_1_k2 x6)

set_option maxRecDepth 100000 in
set_option maxHeartbeats 4000000 in
theorem F_rank_nearer_1_ok (e1 : TEdge) (v2 : TSpace) (v3 : Int) (v4 : (List Int)) {r : Bool} (h : F_rank_nearer_1 e1 v2 v3 v4 = some r) : ACalls Try.prog 47 [.agg (row_TEdge e1), .loc 200000 0 0, .loc 200001 0 0, .loc 200002 0 0] [(200000, .var (row_TSpace v2)), (200001, .var (row_I v3)), (200002, .var (row_LI v4))] (Gives (.b r) [(200000, .var (row_TSpace v2)), (200001, .var (row_I v3)), (200002, .var (row_LI v4))]) := by
  refine ACalls.walk 28 Try.func47 rfl Try.ntmps47 rfl fun C hC => ?_
  unfold F_rank_nearer_1 at h
  refine AK.go tab_ok hC [.n 7] rfl trivial ?_
  obtain ⟨x6, hv7, h⟩ := bindE h
  replace h : F_rank_nearer_1_k2 x6 = some r := h
  refine AK.meetX (fun σ => σ = ⟨[(5, .b x6)], [(200000, .var (row_TSpace v2)), (200001, .var (row_I v3)), (200002, .var (row_LI v4))]⟩) ?_ ?_
  · replace h := hv7
    unfold F_rank_nearer_1_g1 at h
    obtain ⟨x8, hx8, h⟩ := bindE h
    refine AK.go tab_ok hC [.keep [1, 2, 3, 4, 5] [4, 200000, 200001, 200002]] rfl trivial ?_
    rcases bifE h with ⟨hc9, h⟩ | ⟨hc9, h⟩
    · rcases bifE h with ⟨hc10, h⟩ | ⟨hc10, h⟩
      · obtain ⟨e11, he11, h⟩ := bindE h
        obtain ⟨e12, he12, h⟩ := bindE h
        refine AK.draw2 tab_ok hC mixed [.a .no (some ([], .agg (row_TSpace v2))) false, .a .no (some ([], .agg (row_TEdge e1))) false, .a (.c false [.d, .d] (.b x8)) none false, .a .no (some ([], .b true)) false, .a .no none false, .a .no none false, .a .no none false, .a .no none false, .a .no none false, .a .no (some ([], .b true)) false, .a .no none false, .a .no none false, .a .no none false, .a (.row (row_I e11)) none false, .a .no none false, .a .no none false, .a .no none false, .a (.row (row_I e12)) none false, .a .no none false, .a .no none false, .a .no none false, .a .no none false, .m .s] [] [] [5] [200000, 200001, 200002] rfl rfl rfl ⟨⟨⟨⟨⟨⟨⟨trivial, rfl⟩, rfl⟩, (F_rank_counts_ok _ _ hx8)⟩, (congrArg V.b hc9)⟩, (congrArg V.b hc10)⟩, (idxM he11)⟩, (idxM he12)⟩ rfl (by kernel_rfl) rfl rfl rfl ?_
        refine AK.go tab_ok hC [.keep [5] [200000, 200001, 200002]] rfl trivial ?_
        obtain rfl := Option.some.inj h
        exact AK.met rfl
      · refine AK.draw2 tab_ok hC mixed [.a .no (some ([], .agg (row_TSpace v2))) false, .a .no (some ([], .agg (row_TEdge e1))) false, .a (.c false [.d, .d] (.b x8)) none false, .a .no (some ([], .b true)) false, .a .no none false, .a .no none false, .a .no none false, .a .no none false, .a .no none false, .a .no (some ([], .b false)) false, .a .no none false, .a .no none false, .a .no none false, .a .no none false, .a .no none false, .a .no none false, .a .no none false, .a .no none false, .a .no none false, .a .no none false, .a .no none false, .a .no none false, .m .s] [] [] [5] [200000, 200001, 200002] rfl rfl rfl ⟨⟨⟨⟨⟨trivial, rfl⟩, rfl⟩, (F_rank_counts_ok _ _ hx8)⟩, (congrArg V.b hc9)⟩, (congrArg V.b hc10)⟩ rfl (by kernel_rfl) rfl rfl rfl ?_
        refine AK.go tab_ok hC [.keep [5] [200000, 200001, 200002]] rfl trivial ?_
        obtain rfl := Option.some.inj h
        exact AK.met rfl
    · refine AK.draw2 tab_ok hC mixed [.a .no (some ([], .agg (row_TSpace v2))) false, .a .no (some ([], .agg (row_TEdge e1))) false, .a (.c false [.d, .d] (.b x8)) none false, .a .no (some ([], .b false)) false, .a .no none false, .a .no none false, .a .no none false, .a .no none false, .a .no none false, .a .no none false, .a .no none false, .a .no none false, .a .no none false, .a .no none false, .a .no none false, .a .no none false, .a .no none false, .a .no none false, .a .no none false, .a .no none false, .a .no none false, .a .no none false, .m .s] [] [] [5] [200000, 200001, 200002] rfl rfl rfl ⟨⟨⟨⟨trivial, rfl⟩, rfl⟩, (F_rank_counts_ok _ _ hx8)⟩, (congrArg V.b hc9)⟩ rfl (by kernel_rfl) rfl rfl rfl ?_
      refine AK.go tab_ok hC [.keep [5] [200000, 200001, 200002]] rfl trivial ?_
      obtain rfl := Option.some.inj h
      exact AK.met rfl
  · rintro σ rfl
    replace h : F_rank_nearer_1_k2 x6 = some r := h
    unfold F_rank_nearer_1_k2 at h
    refine AK.go tab_ok hC [.n 2, .keep [5] [200000, 200001, 200002]] rfl trivial ?_
    obtain rfl := Option.some.inj h
    refine AK.done ?_
    exact Exists.intro [_] (And.intro (And.intro rfl trivial) (gives ⟨rfl, rfl, rfl, trivial⟩))

-- 46 slices.IndexFunc[[]baldric/api.Edge,baldric/api.Edge]
def F_slices_IndexFunc_api_Edge_api_Edge_l1 (s1 : (List TEdge)) (v2 : TSpace) (v3 : Int) (v4 : (List Int)) (x7 : Int) : Option (Int ⊕ (Int ⊕ Unit)) :=
  bif (decide (x7 < (s1.length : Int))) then
  (idx s1 x7).bind fun e11 =>
  (F_rank_nearer_1 e11 v2 v3 v4).bind fun x12 =>
  bif x12 then
  some (.inr (.inl x7))
  else
  some (.inl (w64 (x7 + 1)))
  else
  some (.inr (.inr ()))

def F_slices_IndexFunc_api_Edge_api_Edge_c2 (x9 : Int) : Option Int :=
  some x9

def F_slices_IndexFunc_api_Edge_api_Edge_c3 : Option Int :=
  some (-1)

def F_slices_IndexFunc_api_Edge_api_Edge (s1 : (List TEdge)) (v2 : TSpace) (v3 : Int) (v4 : (List Int)) : Option Int :=
  (loopM (fun st => F_slices_IndexFunc_api_Edge_api_Edge_l1 s1 v2 v3 v4 st) 0).bind (Sum.elim (fun q => F_slices_IndexFunc_api_Edge_api_Edge_c2 q) (fun q => F_slices_IndexFunc_api_Edge_api_Edge_c3))

set_option maxRecDepth 100000 in
set_option maxHeartbeats 4000000 in
theorem F_slices_IndexFunc_api_Edge_api_Edge_ok (s1 : (List TEdge)) (v2 : TSpace) (v3 : Int) (v4 : (List Int)) {r : Int} (h : F_slices_IndexFunc_api_Edge_api_Edge s1 v2 v3 v4 = some r) : ACalls Try.prog 46 [.sl 6 (s1.map row_TEdge), .clo (.func 47) [] [.loc 200000 0 0, .loc 200001 0 0, .loc 200002 0 0]] [(200000, .var (row_TSpace v2)), (200001, .var (row_I v3)), (200002, .var (row_LI v4))] (Gives (.i .i64 r) [(200000, .var (row_TSpace v2)), (200001, .var (row_I v3)), (200002, .var (row_LI v4))]) := by
  refine ACalls.walk 19 Try.func46 rfl Try.ntmps46 rfl fun C hC => ?_
  unfold F_slices_IndexFunc_api_Edge_api_Edge at h
  refine AK.go tab_ok hC [.n 9, .o (.ln s1.length), .n 4, .keep [0, 1, 7, 8] [200000, 200001, 200002]] rfl ⟨trivial, mapLen⟩ ?_
  obtain ⟨o14, hl14, h⟩ := bindE h
  refine AK.loop (body := (fun st => F_slices_IndexFunc_api_Edge_api_Edge_l1 s1 v2 v3 v4 st)) (fun st σ => σ = ⟨[(0, .sl 6 (s1.map row_TEdge)), (1, .clo (.func 47) [] [.loc 200000 0 0, .loc 200001 0 0, .loc 200002 0 0]), (7, .i .i64 (s1.length : Int)), (8, .i .i64 st)], [(200000, .var (row_TSpace v2)), (200001, .var (row_I v3)), (200002, .var (row_LI v4))]⟩) (Sum.elim (fun q e σ => e = .ret ∧ σ = ⟨[(4, .i .i64 q)], [(200000, .var (row_TSpace v2)), (200001, .var (row_I v3)), (200002, .var (row_LI v4))]⟩) (fun q e σ => e = .exit 0 ∧ σ = ⟨[], [(200000, .var (row_TSpace v2)), (200001, .var (row_I v3)), (200002, .var (row_LI v4))]⟩)) hl14 rfl ?_ ?_
  · rintro x7 o σ rfl h
    replace h : F_slices_IndexFunc_api_Edge_api_Edge_l1 s1 v2 v3 v4 x7 = some o := h
    unfold F_slices_IndexFunc_api_Edge_api_Edge_l1 at h
    refine AK.go tab_ok hC [.n 6] rfl trivial ?_
    rcases bifE h with ⟨hc10, h⟩ | ⟨hc10, h⟩
    · obtain ⟨e11, he11, h⟩ := bindE h
      obtain ⟨x12, hx12, h⟩ := bindE h
      refine AK.go tab_ok hC [.br true, .n 15, .o (.row (row_TEdge e11)), .v .no [] (.agg (row_TEdge e11)), .cm (.clo) [(200000, 200000), (200001, 200001), (200002, 200002)] [(200000, 200000), (200001, 200001), (200002, 200002)] [] [.d, .d, .d, .d] [(200000, .var (row_TSpace v2)), (200001, .var (row_I v3)), (200002, .var (row_LI v4))] (.b x12), .n 2] rfl ⟨⟨⟨⟨trivial, hc10⟩, (idxM he11)⟩, rfl⟩, (F_rank_nearer_1_ok _ _ _ _ hx12)⟩ ?_
      rcases bifE h with ⟨hc13, h⟩ | ⟨hc13, h⟩
      · refine AK.go tab_ok hC [.br true, .n 9, .keep [4] [200000, 200001, 200002]] rfl ⟨trivial, hc13⟩ ?_
        obtain rfl := Option.some.inj h
        exact rndR rfl (And.intro rfl rfl)
      · refine AK.go tab_ok hC [.br false, .n 7, .keep [0, 1, 7, 8] [200000, 200001, 200002]] rfl ⟨trivial, hc13⟩ ?_
        obtain rfl := Option.some.inj h
        exact rndN rfl rfl
    · refine AK.go tab_ok hC [.br false, .n 2, .keep [] [200000, 200001, 200002]] rfl ⟨trivial, hc10⟩ ?_
      obtain rfl := Option.some.inj h
      exact rndX rfl (And.intro rfl rfl)
  · rcases o14 with (x9 | _)
    · replace h : F_slices_IndexFunc_api_Edge_api_Edge_c2 x9 = some r := h
      unfold F_slices_IndexFunc_api_Edge_api_Edge_c2 at h
      rintro e σ ⟨rfl, rfl⟩
      refine AK.go tab_ok hC [.n 2, .keep [4] [200000, 200001, 200002]] rfl trivial ?_
      obtain rfl := Option.some.inj h
      refine AK.done ?_
      exact Exists.intro [_] (And.intro (And.intro rfl trivial) (gives ⟨rfl, rfl, rfl, trivial⟩))
    · replace h : F_slices_IndexFunc_api_Edge_api_Edge_c3 = some r := h
      unfold F_slices_IndexFunc_api_Edge_api_Edge_c3 at h
      rintro e σ ⟨rfl, rfl⟩
      refine AK.go tab_ok hC [.n 8, .keep [4] [200000, 200001, 200002]] rfl trivial ?_
      obtain rfl := Option.some.inj h
      refine AK.done ?_
      exact Exists.intro [_] (And.intro (And.intro rfl trivial) (gives ⟨rfl, rfl, rfl, trivial⟩))

-- 36 baldric/rank.nearer
def F_rank_nearer_g1 (s1 : TSpace) (k3 : Int) (far2 : (List Int)) : Option Bool :=
  (F_rank_in s1 k3).bind fun x8 =>
  bif (!x8) then
  some true
  else
  (idx far2 k3).bind fun e10 =>
  some (decide (e10 ≤ 0))

def F_rank_nearer_k2 (s1 : TSpace) (k3 : Int) (far2 : (List Int)) (x6 : Bool) : Option Int :=
  bif x6 then
  some (-1)
  else
  (F_slices_IndexFunc_api_Edge_api_Edge s1.Edges s1 k3 far2).bind fun x12 =>
  some x12

def F_rank_nearer (s1 : TSpace) (far2 : (List Int)) (k3 : Int) : Option Int :=
  (F_rank_nearer_g1 s1 k3 far2).bind (fun x6 => F_rank_nearer_k2 s1 k3 far2 x6)

set_option maxRecDepth 100000 in
set_option maxHeartbeats 4000000 in
theorem F_rank_nearer_ok (s1 : TSpace) (far2 : (List Int)) (k3 : Int) {r : Int} (h : F_rank_nearer s1 far2 k3 = some r) : ACalls Try.prog 36 [.agg (row_TSpace s1), .sl 1 (far2.map row_I), .i .i64 k3] [] (Gives (.i .i64 r) []) := by
  refine ACalls.walk 22 Try.func36 rfl Try.ntmps36 rfl fun C hC => ?_
  unfold F_rank_nearer at h
  refine AK.go tab_ok hC [.n 10] rfl trivial ?_
  obtain ⟨x6, hv7, h⟩ := bindE h
  replace h : F_rank_nearer_k2 s1 k3 far2 x6 = some r := h
  refine AK.meetX (fun σ => σ = ⟨[(3, .loc 3 0 0), (4, .loc 4 0 0), (5, .loc 5 0 0), (17, .b x6)], [(3, .var (row_TSpace s1)), (4, .var (row_LI far2)), (5, .var (row_I k3))]⟩) ?_ ?_
  · replace h := hv7
    unfold F_rank_nearer_g1 at h
    obtain ⟨x8, hx8, h⟩ := bindE h
    refine AK.go tab_ok hC [.n 1, .v .no [] (.agg (row_TSpace s1)), .n 1, .o (.c false [.d, .d] (.b x8)), .n 2] rfl ⟨⟨trivial, rfl⟩, (F_rank_in_ok _ _ hx8)⟩ ?_
    rcases bifE h with ⟨hc9, h⟩ | ⟨hc9, h⟩
    · refine AK.go tab_ok hC [.say 11 (.b true), .n 7, .keep [3, 4, 5, 17] [3, 4, 5]] rfl ⟨trivial, (congrArg V.b hc9)⟩ ?_
      obtain rfl := Option.some.inj h
      exact AK.met rfl
    · obtain ⟨e10, he10, h⟩ := bindE h
      refine AK.go tab_ok hC [.say 11 (.b false), .n 2, .o (.row (row_I e10)), .n 4, .keep [3, 4, 5, 17] [3, 4, 5]] rfl ⟨⟨trivial, (congrArg V.b hc9)⟩, (idxM he10)⟩ ?_
      obtain rfl := Option.some.inj h
      exact AK.met rfl
  · rintro σ rfl
    replace h : F_rank_nearer_k2 s1 k3 far2 x6 = some r := h
    unfold F_rank_nearer_k2 at h
    refine AK.go tab_ok hC [.n 1] rfl trivial ?_
    rcases bifE h with ⟨hc11, h⟩ | ⟨hc11, h⟩
    · refine AK.go tab_ok hC [.br true, .n 7, .keep [6] []] rfl ⟨trivial, hc11⟩ ?_
      obtain rfl := Option.some.inj h
      refine AK.done ?_
      exact Exists.intro [_] (And.intro (And.intro rfl trivial) (gives trivial))
    · obtain ⟨x12, hx12, h⟩ := bindE h
      refine AK.go tab_ok hC [.br false, .n 7, .cm (.fn) [(200000, 3), (200001, 5), (200002, 4)] [(3, 200000), (5, 200001), (4, 200002)] [] [.d, .d] [(200000, .var (row_TSpace s1)), (200001, .var (row_I k3)), (200002, .var (row_LI far2))] (.i .i64 x12), .n 4, .keep [6] []] rfl ⟨⟨trivial, hc11⟩, (F_slices_IndexFunc_api_Edge_api_Edge_ok _ _ _ _ hx12)⟩ ?_
      obtain rfl := Option.some.inj h
      refine AK.done ?_
      exact Exists.intro [_] (And.intro (And.intro rfl trivial) (gives trivial))

-- 19 baldric/rank.Step
def F_rank_Step (n1 : TNet) (s2 : TSpace) (k3 : Int) : Option Int :=
  (F_rank_ends n1 s2).bind fun x5 =>
  (F_rank_nearer s2 x5 k3).bind fun x6 =>
  some x6

set_option maxRecDepth 100000 in
set_option maxHeartbeats 4000000 in
theorem F_rank_Step_ok (n1 : TNet) (s2 : TSpace) (k3 : Int) {r : Int} (h : F_rank_Step n1 s2 k3 = some r) : ACalls Try.prog 19 [.agg (row_TNet n1), .agg (row_TSpace s2), .i .i64 k3] [] (Gives (.i .i64 r) []) := by
  refine ACalls.walk 13 Try.func19 rfl Try.ntmps19 rfl fun C hC => ?_
  unfold F_rank_Step at h
  obtain ⟨x5, hx5, h⟩ := bindE h
  obtain ⟨x6, hx6, h⟩ := bindE h
  refine AK.go tab_ok hC [.n 8, .keep [2, 3, 4, 6] [3, 4]] rfl trivial ?_
  refine AK.draw2 tab_ok hC mixed [.a .no (some ([], .agg (row_TSpace s2))) false, .a .no (some ([], .agg (row_TNet n1))) false, .a .no (some ([], .agg (row_TSpace s2))) false, .a (.cd false [.d, .d] 1 (x5.map row_I) x5.length) none false, .a .no none false, .a (.c false [.d, .d, .d] (.i .i64 x6)) none false, .m .s] [] [] [6] [] rfl rfl rfl ⟨⟨⟨⟨⟨trivial, rfl⟩, rfl⟩, rfl⟩, ⟨(F_rank_ends_ok _ _ hx5), mapLen⟩⟩, (F_rank_nearer_ok _ _ _ hx6)⟩ rfl (by kernel_rfl) rfl rfl rfl ?_
  refine AK.go tab_ok hC [.n 2, .keep [6] []] rfl trivial ?_
  obtain rfl := Option.some.inj h
  refine AK.done ?_
  exact Exists.intro [_] (And.intro (And.intro rfl trivial) (gives trivial))

-- 21 baldric/rank.Way
def F_rank_Way_l1 (s2 : TSpace) (x5 : (List Int)) (e8 : Int) (out9 : (List Int)) : Option ((Int × (List Int)) ⊕ (List Int)) :=
  bif (decide (0 ≤ e8)) then
  (chk (decide (out9.length + ([e8] : List Int).length ≤ 4294967296))).bind fun _ =>
  (idx s2.Edges e8).bind fun e15 =>
  (F_rank_nearer s2 x5 e15.To).bind fun x16 =>
  some (.inl (x16, (out9 ++ [e8])))
  else
  some (.inr out9)

def F_rank_Way_c2 (out12 : (List Int)) : Option (List Int) :=
  some out12

def F_rank_Way (n1 : TNet) (s2 : TSpace) (k3 : Int) : Option (List Int) :=
  (F_rank_ends n1 s2).bind fun x5 =>
  (F_rank_nearer s2 x5 k3).bind fun x6 =>
  (loopM (fun st => F_rank_Way_l1 s2 x5 st.1 st.2) (x6, ([] : List Int))).bind (fun q => F_rank_Way_c2 q)

set_option maxRecDepth 100000 in
set_option maxHeartbeats 4000000 in
theorem F_rank_Way_ok (n1 : TNet) (s2 : TSpace) (k3 : Int) {r : (List Int)} (h : F_rank_Way n1 s2 k3 = some r) : ACalls Try.prog 21 [.agg (row_TNet n1), .agg (row_TSpace s2), .i .i64 k3] [] (Gives (.own 30000 r.length) [(30000, .arr 1 (r.map row_I))]) := by
  refine ACalls.walk 34 Try.func21 rfl Try.ntmps21 rfl fun C hC => ?_
  unfold F_rank_Way at h
  obtain ⟨x5, hx5, h⟩ := bindE h
  obtain ⟨x6, hx6, h⟩ := bindE h
  refine AK.go tab_ok hC [.n 9, .v .no [] (.agg (row_TNet n1)), .v .no [] (.agg (row_TSpace s2)), .o (.co false [.d, .d] 1 (x5.map row_I) x5.length), .n 11, .v .no [] (.agg (row_TSpace s2)), .n 2, .o (.c true [.d, .o (x5.map row_I), .d] (.i .i64 x6)), .n 4, .adopt 8 8 1, .sayO 8 (.arr 1 (([] : List Int).map row_I)), .say 8 (.own 8 ([] : List Int).length), .keep [4, 7, 8, 9] [4, 8, 12]] rfl ⟨⟨⟨⟨⟨⟨⟨trivial, rfl⟩, rfl⟩, ⟨(F_rank_ends_ok _ _ hx5), mapLen, .inl rfl⟩⟩, rfl⟩, ⟨(viewMap rfl), (F_rank_nearer_ok _ _ _ hx6)⟩⟩, rfl⟩, (congrArg (fun n => V.own 8 n) (by simp))⟩ ?_
  obtain ⟨out12, hl17, h⟩ := bindE h
  refine AK.loop (body := (fun st => F_rank_Way_l1 s2 x5 st.1 st.2)) (fun st σ => σ = ⟨[(4, .loc 4 0 0), (7, .own 12 x5.length), (8, .own 8 st.2.length), (9, .i .i64 st.1)], [(4, .var (row_TSpace s2)), (8, .arr 1 (st.2.map row_I)), (12, .arr 1 (x5.map row_I))]⟩) (fun q e σ => e = .exit 0 ∧ σ = ⟨[(8, .own 8 q.length)], [(8, .arr 1 (q.map row_I))]⟩) hl17 rfl ?_ ?_
  · rintro ⟨e8, out9⟩ o σ rfl h
    replace h : F_rank_Way_l1 s2 x5 e8 out9 = some o := h
    unfold F_rank_Way_l1 at h
    refine AK.go tab_ok hC [.n 7] rfl trivial ?_
    rcases bifE h with ⟨hc13, h⟩ | ⟨hc13, h⟩
    · obtain ⟨_, hk14, h⟩ := bindE h
      replace hk14 := chkE hk14
      obtain ⟨e15, he15, h⟩ := bindE h
      refine AK.go tab_ok hC [.br true, .n 4, .keep [4, 7, 8, 9] [4, 8, 12]] rfl ⟨trivial, hc13⟩ ?_
      refine AK.draw2 tab_ok hC mixed [.a .no none false, .a .no none false, .a (.bd []) (some ([], .sl 1 (([e8] : List Int).map row_I))) false, .m (.app ((out9 ++ [e8]).map row_I) (out9 ++ [e8]).length), .a .no none true, .a .no none true, .a .no none true, .a (.row (row_TEdge e15)) none true, .a .no none true, .a .no none true, .m .s, .a .no none false] [4, 7, 9] [4, 12] [2, 4, 7, 8] [4, 8, 12] rfl rfl rfl ⟨⟨⟨trivial, rfl⟩, ⟨mapLen, appLim hk14 mapLen, mapApps, appLn mapLen⟩⟩, (idxM he15)⟩ rfl (by kernel_rfl) rfl rfl rfl ?_
      obtain ⟨x16, hx16, h⟩ := bindE h
      refine AK.go tab_ok hC [.n 3, .v .no [] (.agg (row_TSpace s2)), .n 2, .o (.c true [.d, .o (x5.map row_I), .d] (.i .i64 x16)), .n 2, .keep [4, 7, 8, 9] [4, 8, 12]] rfl ⟨⟨trivial, rfl⟩, ⟨(viewMap rfl), (F_rank_nearer_ok _ _ _ hx16)⟩⟩ ?_
      obtain rfl := Option.some.inj h
      exact rndN rfl rfl
    · refine AK.go tab_ok hC [.br false, .n 2, .keep [8] [8]] rfl ⟨trivial, hc13⟩ ?_
      obtain rfl := Option.some.inj h
      exact rndX rfl (And.intro rfl rfl)
  · replace h : F_rank_Way_c2 out12 = some r := h
    unfold F_rank_Way_c2 at h
    rintro e σ ⟨rfl, rfl⟩
    refine AK.go tab_ok hC [.n 9, .keep [6] [8], .ren 8 30000, .keep [6] [30000]] rfl trivial ?_
    obtain rfl := Option.some.inj h
    refine AK.done ?_
    exact Exists.intro [_] (And.intro (And.intro rfl trivial) (gives ⟨rfl, trivial⟩))

-- 35 slices.Max[[]int,int]
def F_slices_Max_int_int_l1 (p1 : (List Int)) (m5 : Int) (i6 : Int) : Option ((Int × Int) ⊕ Int) :=
  bif (decide (i6 < (p1.length : Int))) then
  (idx p1 i6).bind fun e11 =>
  some (.inl ((max2 m5 e11), (w64 (i6 + 1))))
  else
  some (.inr m5)

def F_slices_Max_int_int_c2 (m9 : Int) : Option Int :=
  some m9

def F_slices_Max_int_int (p1 : (List Int)) : Option Int :=
  bif (decide ((p1.length : Int) < 1)) then
  none
  else
  (idx p1 0).bind fun e4 =>
  (loopM (fun st => F_slices_Max_int_int_l1 p1 st.1 st.2) (e4, 1)).bind (fun q => F_slices_Max_int_int_c2 q)

set_option maxRecDepth 100000 in
set_option maxHeartbeats 4000000 in
theorem F_slices_Max_int_int_ok (p1 : (List Int)) {r : Int} (h : F_slices_Max_int_int p1 = some r) : ACalls Try.prog 35 [.sl 1 (p1.map row_I)] [] (Gives (.i .i64 r) []) := by
  refine ACalls.walk 25 Try.func35 rfl Try.ntmps35 rfl fun C hC => ?_
  unfold F_slices_Max_int_int at h
  refine AK.go tab_ok hC [.n 9, .o (.ln p1.length), .n 3] rfl ⟨trivial, mapLen⟩ ?_
  rcases bifE h with ⟨hc3, h⟩ | ⟨hc3, h⟩
  · refine AK.go tab_ok hC [.br true, .n 2] rfl ⟨trivial, hc3⟩ ?_
    cases h
  · obtain ⟨e4, he4, h⟩ := bindE h
    refine AK.go tab_ok hC [.br false, .n 5, .o (.row (row_I e4)), .n 11, .keep [0, 3, 4] []] rfl ⟨⟨trivial, hc3⟩, (idxM he4)⟩ ?_
    obtain ⟨m9, hl12, h⟩ := bindE h
    refine AK.loop (body := (fun st => F_slices_Max_int_int_l1 p1 st.1 st.2)) (fun st σ => σ = ⟨[(0, .sl 1 (p1.map row_I)), (3, .i .i64 st.1), (4, .i .i64 st.2)], []⟩) (fun q e σ => e = .exit 0 ∧ σ = ⟨[(3, .i .i64 q)], []⟩) hl12 rfl ?_ ?_
    · rintro ⟨m5, i6⟩ o σ rfl h
      replace h : F_slices_Max_int_int_l1 p1 m5 i6 = some o := h
      unfold F_slices_Max_int_int_l1 at h
      refine AK.go tab_ok hC [.n 5, .o (.ln p1.length), .n 3] rfl ⟨trivial, mapLen⟩ ?_
      rcases bifE h with ⟨hc10, h⟩ | ⟨hc10, h⟩
      · obtain ⟨e11, he11, h⟩ := bindE h
        refine AK.go tab_ok hC [.br true, .n 8, .o (.row (row_I e11)), .n 11, .keep [0, 3, 4] []] rfl ⟨⟨trivial, hc10⟩, (idxM he11)⟩ ?_
        obtain rfl := Option.some.inj h
        exact rndN rfl rfl
      · refine AK.go tab_ok hC [.br false, .n 2, .keep [3] []] rfl ⟨trivial, hc10⟩ ?_
        obtain rfl := Option.some.inj h
        exact rndX rfl (And.intro rfl rfl)
    · replace h : F_slices_Max_int_int_c2 m9 = some r := h
      unfold F_slices_Max_int_int_c2 at h
      rintro e σ ⟨rfl, rfl⟩
      refine AK.go tab_ok hC [.n 9, .keep [2] []] rfl trivial ?_
      obtain rfl := Option.some.inj h
      refine AK.done ?_
      exact Exists.intro [_] (And.intro (And.intro rfl trivial) (gives trivial))

-- 17 baldric/rank.Longest
def F_rank_Longest (n1 : TNet) (s2 : TSpace) : Option Int :=
  (F_rank_ends n1 s2).bind fun x4 =>
  (chk (decide (x4.length + ([(-1)] : List Int).length ≤ 4294967296))).bind fun _ =>
  (F_slices_Max_int_int (x4 ++ ([(-1)] : List Int))).bind fun x6 =>
  some x6

set_option maxRecDepth 100000 in
set_option maxHeartbeats 4000000 in
theorem F_rank_Longest_ok (n1 : TNet) (s2 : TSpace) {r : Int} (h : F_rank_Longest n1 s2 = some r) : ACalls Try.prog 17 [.agg (row_TNet n1), .agg (row_TSpace s2)] [] (Gives (.i .i64 r) []) := by
  refine ACalls.walk 11 Try.func17 rfl Try.ntmps17 rfl fun C hC => ?_
  unfold F_rank_Longest at h
  obtain ⟨x4, hx4, h⟩ := bindE h
  obtain ⟨_, hk5, h⟩ := bindE h
  replace hk5 := chkE hk5
  obtain ⟨x6, hx6, h⟩ := bindE h
  refine AK.go tab_ok hC [.n 9, .v .no [] (.agg (row_TNet n1)), .v .no [] (.agg (row_TSpace s2)), .o (.co false [.d, .d] 1 (x4.map row_I) x4.length), .v (.bd []) [] (.sl 1 (([(-1)] : List Int).map row_I)), .app ((x4 ++ ([(-1)] : List Int)).map row_I) (x4 ++ ([(-1)] : List Int)).length, .o (.c true [.o ((x4 ++ ([(-1)] : List Int)).map row_I)] (.i .i64 x6)), .n 4, .keep [4] []] rfl ⟨⟨⟨⟨⟨⟨trivial, rfl⟩, rfl⟩, ⟨(F_rank_ends_ok _ _ hx4), mapLen, .inl rfl⟩⟩, rfl⟩, ⟨mapLen, appLim hk5 mapLen, mapApps, appLn mapLen⟩⟩, ⟨(viewMap rfl), (F_slices_Max_int_int_ok _ hx6)⟩⟩ ?_
  obtain rfl := Option.some.inj h
  refine AK.done ?_
  exact Exists.intro [_] (And.intro (And.intro rfl trivial) (gives trivial))

-- 8 baldric/baldriclaw16.small
def F_law16_small_g1 : Option Bool :=
  (F_law16_net).bind fun x4 =>
  (F_rank_Goals x4 (TSpace.mk ([([([(0, 1)] : List (Int × Int)), ([] : (List (Int × Int))), ([] : (List (Int × Int)))] : List (List (Int × Int))), ([([] : (List (Int × Int))), ([(0, 1)] : List (Int × Int)), ([] : (List (Int × Int)))] : List (List (Int × Int))), ([([] : (List (Int × Int))), ([] : (List (Int × Int))), ([(0, 1)] : List (Int × Int))] : List (List (Int × Int))), ([([] : (List (Int × Int))), ([] : (List (Int × Int))), ([] : (List (Int × Int)))] : List (List (Int × Int)))] : List (List (List (Int × Int)))) ([(TEdge.mk 0 1 (TMode.mk 0 ([] : (List Int)) ([] : (List Int)) ([] : (List Int)))), (TEdge.mk 1 0 (TMode.mk 0 ([] : (List Int)) ([] : (List Int)) ([] : (List Int)))), (TEdge.mk 1 2 (TMode.mk 0 ([] : (List Int)) ([] : (List Int)) ([] : (List Int)))), (TEdge.mk 9 2 (TMode.mk 0 ([] : (List Int)) ([] : (List Int)) ([] : (List Int))))] : List TEdge) false)).bind fun x5 =>
  (F_ref03_Ints x5 ([2] : List Int)).bind fun x6 =>
  bif x6 then
  (F_rank_Far (TSpace.mk ([([([(0, 1)] : List (Int × Int)), ([] : (List (Int × Int))), ([] : (List (Int × Int)))] : List (List (Int × Int))), ([([] : (List (Int × Int))), ([(0, 1)] : List (Int × Int)), ([] : (List (Int × Int)))] : List (List (Int × Int))), ([([] : (List (Int × Int))), ([] : (List (Int × Int))), ([(0, 1)] : List (Int × Int))] : List (List (Int × Int))), ([([] : (List (Int × Int))), ([] : (List (Int × Int))), ([] : (List (Int × Int)))] : List (List (Int × Int)))] : List (List (List (Int × Int)))) ([(TEdge.mk 0 1 (TMode.mk 0 ([] : (List Int)) ([] : (List Int)) ([] : (List Int)))), (TEdge.mk 1 0 (TMode.mk 0 ([] : (List Int)) ([] : (List Int)) ([] : (List Int)))), (TEdge.mk 1 2 (TMode.mk 0 ([] : (List Int)) ([] : (List Int)) ([] : (List Int)))), (TEdge.mk 9 2 (TMode.mk 0 ([] : (List Int)) ([] : (List Int)) ([] : (List Int))))] : List TEdge) false) ([2, 7] : List Int)).bind fun x8 =>
  (F_ref03_Ints x8 ([2, 1, 0, (-1)] : List Int)).bind fun x9 =>
  bif x9 then
  (F_law16_net).bind fun x11 =>
  (F_rank_Lost x11 (TSpace.mk ([([([(0, 1)] : List (Int × Int)), ([] : (List (Int × Int))), ([] : (List (Int × Int)))] : List (List (Int × Int))), ([([] : (List (Int × Int))), ([(0, 1)] : List (Int × Int)), ([] : (List (Int × Int)))] : List (List (Int × Int))), ([([] : (List (Int × Int))), ([] : (List (Int × Int))), ([(0, 1)] : List (Int × Int))] : List (List (Int × Int))), ([([] : (List (Int × Int))), ([] : (List (Int × Int))), ([] : (List (Int × Int)))] : List (List (Int × Int)))] : List (List (List (Int × Int)))) ([(TEdge.mk 0 1 (TMode.mk 0 ([] : (List Int)) ([] : (List Int)) ([] : (List Int)))), (TEdge.mk 1 0 (TMode.mk 0 ([] : (List Int)) ([] : (List Int)) ([] : (List Int)))), (TEdge.mk 1 2 (TMode.mk 0 ([] : (List Int)) ([] : (List Int)) ([] : (List Int)))), (TEdge.mk 9 2 (TMode.mk 0 ([] : (List Int)) ([] : (List Int)) ([] : (List Int))))] : List TEdge) false)).bind fun x12 =>
  (F_ref03_Ints x12 ([3] : List Int)).bind fun x13 =>
  bif x13 then
  (F_law16_net).bind fun x15 =>
  (F_rank_Step x15 (TSpace.mk ([([([(0, 1)] : List (Int × Int)), ([] : (List (Int × Int))), ([] : (List (Int × Int)))] : List (List (Int × Int))), ([([] : (List (Int × Int))), ([(0, 1)] : List (Int × Int)), ([] : (List (Int × Int)))] : List (List (Int × Int))), ([([] : (List (Int × Int))), ([] : (List (Int × Int))), ([(0, 1)] : List (Int × Int))] : List (List (Int × Int))), ([([] : (List (Int × Int))), ([] : (List (Int × Int))), ([] : (List (Int × Int)))] : List (List (Int × Int)))] : List (List (List (Int × Int)))) ([(TEdge.mk 0 1 (TMode.mk 0 ([] : (List Int)) ([] : (List Int)) ([] : (List Int)))), (TEdge.mk 1 0 (TMode.mk 0 ([] : (List Int)) ([] : (List Int)) ([] : (List Int)))), (TEdge.mk 1 2 (TMode.mk 0 ([] : (List Int)) ([] : (List Int)) ([] : (List Int)))), (TEdge.mk 9 2 (TMode.mk 0 ([] : (List Int)) ([] : (List Int)) ([] : (List Int))))] : List TEdge) false) 1).bind fun x16 =>
  bif (x16 == 2) then
  (F_law16_net).bind fun x18 =>
  (F_rank_Step x18 (TSpace.mk ([([([(0, 1)] : List (Int × Int)), ([] : (List (Int × Int))), ([] : (List (Int × Int)))] : List (List (Int × Int))), ([([] : (List (Int × Int))), ([(0, 1)] : List (Int × Int)), ([] : (List (Int × Int)))] : List (List (Int × Int))), ([([] : (List (Int × Int))), ([] : (List (Int × Int))), ([(0, 1)] : List (Int × Int))] : List (List (Int × Int))), ([([] : (List (Int × Int))), ([] : (List (Int × Int))), ([] : (List (Int × Int)))] : List (List (Int × Int)))] : List (List (List (Int × Int)))) ([(TEdge.mk 0 1 (TMode.mk 0 ([] : (List Int)) ([] : (List Int)) ([] : (List Int)))), (TEdge.mk 1 0 (TMode.mk 0 ([] : (List Int)) ([] : (List Int)) ([] : (List Int)))), (TEdge.mk 1 2 (TMode.mk 0 ([] : (List Int)) ([] : (List Int)) ([] : (List Int)))), (TEdge.mk 9 2 (TMode.mk 0 ([] : (List Int)) ([] : (List Int)) ([] : (List Int))))] : List TEdge) false) 2).bind fun x19 =>
  bif (x19 == (-1)) then
  (F_law16_net).bind fun x21 =>
  (F_rank_Way x21 (TSpace.mk ([([([(0, 1)] : List (Int × Int)), ([] : (List (Int × Int))), ([] : (List (Int × Int)))] : List (List (Int × Int))), ([([] : (List (Int × Int))), ([(0, 1)] : List (Int × Int)), ([] : (List (Int × Int)))] : List (List (Int × Int))), ([([] : (List (Int × Int))), ([] : (List (Int × Int))), ([(0, 1)] : List (Int × Int))] : List (List (Int × Int))), ([([] : (List (Int × Int))), ([] : (List (Int × Int))), ([] : (List (Int × Int)))] : List (List (Int × Int)))] : List (List (List (Int × Int)))) ([(TEdge.mk 0 1 (TMode.mk 0 ([] : (List Int)) ([] : (List Int)) ([] : (List Int)))), (TEdge.mk 1 0 (TMode.mk 0 ([] : (List Int)) ([] : (List Int)) ([] : (List Int)))), (TEdge.mk 1 2 (TMode.mk 0 ([] : (List Int)) ([] : (List Int)) ([] : (List Int)))), (TEdge.mk 9 2 (TMode.mk 0 ([] : (List Int)) ([] : (List Int)) ([] : (List Int))))] : List TEdge) false) 0).bind fun x22 =>
  (F_ref03_Ints x22 ([0, 2] : List Int)).bind fun x23 =>
  bif x23 then
  (F_law16_net).bind fun x25 =>
  (F_rank_Longest x25 (TSpace.mk ([([([(0, 1)] : List (Int × Int)), ([] : (List (Int × Int))), ([] : (List (Int × Int)))] : List (List (Int × Int))), ([([] : (List (Int × Int))), ([(0, 1)] : List (Int × Int)), ([] : (List (Int × Int)))] : List (List (Int × Int))), ([([] : (List (Int × Int))), ([] : (List (Int × Int))), ([(0, 1)] : List (Int × Int))] : List (List (Int × Int))), ([([] : (List (Int × Int))), ([] : (List (Int × Int))), ([] : (List (Int × Int)))] : List (List (Int × Int)))] : List (List (List (Int × Int)))) ([(TEdge.mk 0 1 (TMode.mk 0 ([] : (List Int)) ([] : (List Int)) ([] : (List Int)))), (TEdge.mk 1 0 (TMode.mk 0 ([] : (List Int)) ([] : (List Int)) ([] : (List Int)))), (TEdge.mk 1 2 (TMode.mk 0 ([] : (List Int)) ([] : (List Int)) ([] : (List Int)))), (TEdge.mk 9 2 (TMode.mk 0 ([] : (List Int)) ([] : (List Int)) ([] : (List Int))))] : List TEdge) false)).bind fun x26 =>
  bif (x26 == 2) then
  (F_law16_net).bind fun x28 =>
  (F_rank_Longest x28 (TSpace.mk ([] : (List (List (List (Int × Int))))) ([] : (List TEdge)) false)).bind fun x29 =>
  some (x29 == (-1))
  else
  some false
  else
  some false
  else
  some false
  else
  some false
  else
  some false
  else
  some false
  else
  some false

def F_law16_small_k2 (x2 : Bool) : Option Bool :=
  some x2

def F_law16_small  : Option Bool :=
  (F_law16_small_g1).bind (fun x2 => F_law16_small_k2 x2)

set_option maxRecDepth 100000 in
set_option maxHeartbeats 4000000 in
theorem F_law16_small_ok  {r : Bool} (h : F_law16_small = some r) : ACalls Try.prog 8 [] [] (Gives (.b r) []) := by
  refine ACalls.walk 69 Try.func8 rfl Try.ntmps8 rfl fun C hC => ?_
  unfold F_law16_small at h
  refine AK.go tab_ok hC [.n 7, .v .no [] (.agg (row_A2I (0, 1))), .n 1, .sayO 4 (.arr 2 (([(0, 1)] : List (Int × Int)).map row_A2I)), .say 4 (.own 4 ([(0, 1)] : List (Int × Int)).length), .n 6, .frz 4 (([(0, 1)] : List (Int × Int)).map row_A2I) [1, 4, 5] [], .v (.bd [none, some 2, some 2]) [] (.sl 1 (([([(0, 1)] : List (Int × Int)), ([] : (List (Int × Int))), ([] : (List (Int × Int)))] : List (List (Int × Int))).map row_LA2I)), .n 1, .v (.bd [some 2, none, some 2]) [] (.sl 1 (([([] : (List (Int × Int))), ([(0, 1)] : List (Int × Int)), ([] : (List (Int × Int)))] : List (List (Int × Int))).map row_LA2I)), .n 1, .v (.bd [some 2, some 2, none]) [] (.sl 1 (([([] : (List (Int × Int))), ([] : (List (Int × Int))), ([(0, 1)] : List (Int × Int))] : List (List (Int × Int))).map row_LA2I)), .v (.bd [some 2, some 2, some 2]) [] (.sl 1 (([([] : (List (Int × Int))), ([] : (List (Int × Int))), ([] : (List (Int × Int)))] : List (List (Int × Int))).map row_LA2I)), .v (.bd []) [] (.sl 1 (([([([(0, 1)] : List (Int × Int)), ([] : (List (Int × Int))), ([] : (List (Int × Int)))] : List (List (Int × Int))), ([([] : (List (Int × Int))), ([(0, 1)] : List (Int × Int)), ([] : (List (Int × Int)))] : List (List (Int × Int))), ([([] : (List (Int × Int))), ([] : (List (Int × Int))), ([(0, 1)] : List (Int × Int))] : List (List (Int × Int))), ([([] : (List (Int × Int))), ([] : (List (Int × Int))), ([] : (List (Int × Int)))] : List (List (Int × Int)))] : List (List (List (Int × Int)))).map row_LLA2I)), .v .no [none, none, none, some 1, some 1, some 1] (.agg (row_TEdge (TEdge.mk 0 1 (TMode.mk 0 ([] : (List Int)) ([] : (List Int)) ([] : (List Int)))))), .v .no [none, none, none, some 1, some 1, some 1] (.agg (row_TEdge (TEdge.mk 1 0 (TMode.mk 0 ([] : (List Int)) ([] : (List Int)) ([] : (List Int)))))), .v .no [none, none, none, some 1, some 1, some 1] (.agg (row_TEdge (TEdge.mk 1 2 (TMode.mk 0 ([] : (List Int)) ([] : (List Int)) ([] : (List Int)))))), .v .no [none, none, none, some 1, some 1, some 1] (.agg (row_TEdge (TEdge.mk 9 2 (TMode.mk 0 ([] : (List Int)) ([] : (List Int)) ([] : (List Int)))))), .v (.bd []) [] (.sl 6 (([(TEdge.mk 0 1 (TMode.mk 0 ([] : (List Int)) ([] : (List Int)) ([] : (List Int)))), (TEdge.mk 1 0 (TMode.mk 0 ([] : (List Int)) ([] : (List Int)) ([] : (List Int)))), (TEdge.mk 1 2 (TMode.mk 0 ([] : (List Int)) ([] : (List Int)) ([] : (List Int)))), (TEdge.mk 9 2 (TMode.mk 0 ([] : (List Int)) ([] : (List Int)) ([] : (List Int))))] : List TEdge).map row_TEdge)), .v .no [] (.agg (row_TSpace (TSpace.mk ([([([(0, 1)] : List (Int × Int)), ([] : (List (Int × Int))), ([] : (List (Int × Int)))] : List (List (Int × Int))), ([([] : (List (Int × Int))), ([(0, 1)] : List (Int × Int)), ([] : (List (Int × Int)))] : List (List (Int × Int))), ([([] : (List (Int × Int))), ([] : (List (Int × Int))), ([(0, 1)] : List (Int × Int))] : List (List (Int × Int))), ([([] : (List (Int × Int))), ([] : (List (Int × Int))), ([] : (List (Int × Int)))] : List (List (Int × Int)))] : List (List (List (Int × Int)))) ([(TEdge.mk 0 1 (TMode.mk 0 ([] : (List Int)) ([] : (List Int)) ([] : (List Int)))), (TEdge.mk 1 0 (TMode.mk 0 ([] : (List Int)) ([] : (List Int)) ([] : (List Int)))), (TEdge.mk 1 2 (TMode.mk 0 ([] : (List Int)) ([] : (List Int)) ([] : (List Int)))), (TEdge.mk 9 2 (TMode.mk 0 ([] : (List Int)) ([] : (List Int)) ([] : (List Int))))] : List TEdge) false))), .n 2, .sayO 2 (.var (row_TSpace (TSpace.mk ([([([(0, 1)] : List (Int × Int)), ([] : (List (Int × Int))), ([] : (List (Int × Int)))] : List (List (Int × Int))), ([([] : (List (Int × Int))), ([(0, 1)] : List (Int × Int)), ([] : (List (Int × Int)))] : List (List (Int × Int))), ([([] : (List (Int × Int))), ([] : (List (Int × Int))), ([(0, 1)] : List (Int × Int))] : List (List (Int × Int))), ([([] : (List (Int × Int))), ([] : (List (Int × Int))), ([] : (List (Int × Int)))] : List (List (Int × Int)))] : List (List (List (Int × Int)))) ([(TEdge.mk 0 1 (TMode.mk 0 ([] : (List Int)) ([] : (List Int)) ([] : (List Int)))), (TEdge.mk 1 0 (TMode.mk 0 ([] : (List Int)) ([] : (List Int)) ([] : (List Int)))), (TEdge.mk 1 2 (TMode.mk 0 ([] : (List Int)) ([] : (List Int)) ([] : (List Int)))), (TEdge.mk 9 2 (TMode.mk 0 ([] : (List Int)) ([] : (List Int)) ([] : (List Int))))] : List TEdge) false))), .n 3] rfl ⟨⟨⟨⟨⟨⟨⟨⟨⟨⟨⟨⟨⟨⟨⟨⟨trivial, rfl⟩, rfl⟩, rfl⟩, ⟨⟨⟨trivial, (frzL mapLen)⟩, (frzL mapLen)⟩, (frzL mapLen)⟩⟩, rfl⟩, rfl⟩, rfl⟩, rfl⟩, rfl⟩, rfl⟩, rfl⟩, rfl⟩, rfl⟩, rfl⟩, rfl⟩, rfl⟩ ?_
  obtain ⟨x2, hv3, h⟩ := bindE h
  replace h : F_law16_small_k2 x2 = some r := h
  refine AK.meetX (fun σ => σ = ⟨[(0, .b x2)], []⟩) ?_ ?_
  · replace h := hv3
    unfold F_law16_small_g1 at h
    obtain ⟨x4, hx4, h⟩ := bindE h
    obtain ⟨x5, hx5, h⟩ := bindE h
    obtain ⟨x6, hx6, h⟩ := bindE h
    refine AK.go tab_ok hC [.keep [0, 2] [2]] rfl trivial ?_
    rcases bifE h with ⟨hc7, h⟩ | ⟨hc7, h⟩
    · obtain ⟨x8, hx8, h⟩ := bindE h
      obtain ⟨x9, hx9, h⟩ := bindE h
      rcases bifE h with ⟨hc10, h⟩ | ⟨hc10, h⟩
      · obtain ⟨x11, hx11, h⟩ := bindE h
        obtain ⟨x12, hx12, h⟩ := bindE h
        obtain ⟨x13, hx13, h⟩ := bindE h
        rcases bifE h with ⟨hc14, h⟩ | ⟨hc14, h⟩
        · obtain ⟨x15, hx15, h⟩ := bindE h
          obtain ⟨x16, hx16, h⟩ := bindE h
          rcases bifE h with ⟨hc17, h⟩ | ⟨hc17, h⟩
          · obtain ⟨x18, hx18, h⟩ := bindE h
            obtain ⟨x19, hx19, h⟩ := bindE h
            rcases bifE h with ⟨hc20, h⟩ | ⟨hc20, h⟩
            · obtain ⟨x21, hx21, h⟩ := bindE h
              obtain ⟨x22, hx22, h⟩ := bindE h
              obtain ⟨x23, hx23, h⟩ := bindE h
              rcases bifE h with ⟨hc24, h⟩ | ⟨hc24, h⟩
              · obtain ⟨x25, hx25, h⟩ := bindE h
                obtain ⟨x26, hx26, h⟩ := bindE h
                rcases bifE h with ⟨hc27, h⟩ | ⟨hc27, h⟩
                · obtain ⟨x28, hx28, h⟩ := bindE h
                  obtain ⟨x29, hx29, h⟩ := bindE h
                  refine AK.draw2 tab_ok hC mixed [.a (.c false [] (.agg (row_TNet x4))) none false, .a .no (some ([], .agg (row_TSpace (TSpace.mk ([([([(0, 1)] : List (Int × Int)), ([] : (List (Int × Int))), ([] : (List (Int × Int)))] : List (List (Int × Int))), ([([] : (List (Int × Int))), ([(0, 1)] : List (Int × Int)), ([] : (List (Int × Int)))] : List (List (Int × Int))), ([([] : (List (Int × Int))), ([] : (List (Int × Int))), ([(0, 1)] : List (Int × Int))] : List (List (Int × Int))), ([([] : (List (Int × Int))), ([] : (List (Int × Int))), ([] : (List (Int × Int)))] : List (List (Int × Int)))] : List (List (List (Int × Int)))) ([(TEdge.mk 0 1 (TMode.mk 0 ([] : (List Int)) ([] : (List Int)) ([] : (List Int)))), (TEdge.mk 1 0 (TMode.mk 0 ([] : (List Int)) ([] : (List Int)) ([] : (List Int)))), (TEdge.mk 1 2 (TMode.mk 0 ([] : (List Int)) ([] : (List Int)) ([] : (List Int)))), (TEdge.mk 9 2 (TMode.mk 0 ([] : (List Int)) ([] : (List Int)) ([] : (List Int))))] : List TEdge) false)))) false, .a (.cd false [.d, .d] 1 (x5.map row_I) x5.length) none false, .a (.bd []) (some ([], .sl 1 (([2] : List Int).map row_I))) false, .a (.c false [.d, .d] (.b x6)) none false, .a .no (some ([], .b true)) false, .a .no (some ([], .agg (row_TSpace (TSpace.mk ([([([(0, 1)] : List (Int × Int)), ([] : (List (Int × Int))), ([] : (List (Int × Int)))] : List (List (Int × Int))), ([([] : (List (Int × Int))), ([(0, 1)] : List (Int × Int)), ([] : (List (Int × Int)))] : List (List (Int × Int))), ([([] : (List (Int × Int))), ([] : (List (Int × Int))), ([(0, 1)] : List (Int × Int))] : List (List (Int × Int))), ([([] : (List (Int × Int))), ([] : (List (Int × Int))), ([] : (List (Int × Int)))] : List (List (Int × Int)))] : List (List (List (Int × Int)))) ([(TEdge.mk 0 1 (TMode.mk 0 ([] : (List Int)) ([] : (List Int)) ([] : (List Int)))), (TEdge.mk 1 0 (TMode.mk 0 ([] : (List Int)) ([] : (List Int)) ([] : (List Int)))), (TEdge.mk 1 2 (TMode.mk 0 ([] : (List Int)) ([] : (List Int)) ([] : (List Int)))), (TEdge.mk 9 2 (TMode.mk 0 ([] : (List Int)) ([] : (List Int)) ([] : (List Int))))] : List TEdge) false)))) false, .a (.bd []) (some ([], .sl 1 (([2, 7] : List Int).map row_I))) false, .a (.cd false [.d, .d] 1 (x8.map row_I) x8.length) none false, .a (.bd []) (some ([], .sl 1 (([2, 1, 0, (-1)] : List Int).map row_I))) false, .a (.c false [.d, .d] (.b x9)) none false, .a .no none false, .a .no (some ([], .b true)) false, .a (.c false [] (.agg (row_TNet x11))) none false, .a .no (some ([], .agg (row_TSpace (TSpace.mk ([([([(0, 1)] : List (Int × Int)), ([] : (List (Int × Int))), ([] : (List (Int × Int)))] : List (List (Int × Int))), ([([] : (List (Int × Int))), ([(0, 1)] : List (Int × Int)), ([] : (List (Int × Int)))] : List (List (Int × Int))), ([([] : (List (Int × Int))), ([] : (List (Int × Int))), ([(0, 1)] : List (Int × Int))] : List (List (Int × Int))), ([([] : (List (Int × Int))), ([] : (List (Int × Int))), ([] : (List (Int × Int)))] : List (List (Int × Int)))] : List (List (List (Int × Int)))) ([(TEdge.mk 0 1 (TMode.mk 0 ([] : (List Int)) ([] : (List Int)) ([] : (List Int)))), (TEdge.mk 1 0 (TMode.mk 0 ([] : (List Int)) ([] : (List Int)) ([] : (List Int)))), (TEdge.mk 1 2 (TMode.mk 0 ([] : (List Int)) ([] : (List Int)) ([] : (List Int)))), (TEdge.mk 9 2 (TMode.mk 0 ([] : (List Int)) ([] : (List Int)) ([] : (List Int))))] : List TEdge) false)))) false, .a (.cd false [.d, .d] 1 (x12.map row_I) x12.length) none false, .a (.bd []) (some ([], .sl 1 (([3] : List Int).map row_I))) false, .a (.c false [.d, .d] (.b x13)) none false, .a .no none false, .a .no (some ([], .b true)) false, .a (.c false [] (.agg (row_TNet x15))) none false, .a .no (some ([], .agg (row_TSpace (TSpace.mk ([([([(0, 1)] : List (Int × Int)), ([] : (List (Int × Int))), ([] : (List (Int × Int)))] : List (List (Int × Int))), ([([] : (List (Int × Int))), ([(0, 1)] : List (Int × Int)), ([] : (List (Int × Int)))] : List (List (Int × Int))), ([([] : (List (Int × Int))), ([] : (List (Int × Int))), ([(0, 1)] : List (Int × Int))] : List (List (Int × Int))), ([([] : (List (Int × Int))), ([] : (List (Int × Int))), ([] : (List (Int × Int)))] : List (List (Int × Int)))] : List (List (List (Int × Int)))) ([(TEdge.mk 0 1 (TMode.mk 0 ([] : (List Int)) ([] : (List Int)) ([] : (List Int)))), (TEdge.mk 1 0 (TMode.mk 0 ([] : (List Int)) ([] : (List Int)) ([] : (List Int)))), (TEdge.mk 1 2 (TMode.mk 0 ([] : (List Int)) ([] : (List Int)) ([] : (List Int)))), (TEdge.mk 9 2 (TMode.mk 0 ([] : (List Int)) ([] : (List Int)) ([] : (List Int))))] : List TEdge) false)))) false, .a (.c false [.d, .d, .d] (.i .i64 x16)) none false, .a .no none false, .a .no none false, .a .no (some ([], .b true)) false, .a (.c false [] (.agg (row_TNet x18))) none false, .a .no (some ([], .agg (row_TSpace (TSpace.mk ([([([(0, 1)] : List (Int × Int)), ([] : (List (Int × Int))), ([] : (List (Int × Int)))] : List (List (Int × Int))), ([([] : (List (Int × Int))), ([(0, 1)] : List (Int × Int)), ([] : (List (Int × Int)))] : List (List (Int × Int))), ([([] : (List (Int × Int))), ([] : (List (Int × Int))), ([(0, 1)] : List (Int × Int))] : List (List (Int × Int))), ([([] : (List (Int × Int))), ([] : (List (Int × Int))), ([] : (List (Int × Int)))] : List (List (Int × Int)))] : List (List (List (Int × Int)))) ([(TEdge.mk 0 1 (TMode.mk 0 ([] : (List Int)) ([] : (List Int)) ([] : (List Int)))), (TEdge.mk 1 0 (TMode.mk 0 ([] : (List Int)) ([] : (List Int)) ([] : (List Int)))), (TEdge.mk 1 2 (TMode.mk 0 ([] : (List Int)) ([] : (List Int)) ([] : (List Int)))), (TEdge.mk 9 2 (TMode.mk 0 ([] : (List Int)) ([] : (List Int)) ([] : (List Int))))] : List TEdge) false)))) false, .a (.c false [.d, .d, .d] (.i .i64 x19)) none false, .a .no none false, .a .no none false, .a .no (some ([], .b true)) false, .a (.c false [] (.agg (row_TNet x21))) none false, .a .no (some ([], .agg (row_TSpace (TSpace.mk ([([([(0, 1)] : List (Int × Int)), ([] : (List (Int × Int))), ([] : (List (Int × Int)))] : List (List (Int × Int))), ([([] : (List (Int × Int))), ([(0, 1)] : List (Int × Int)), ([] : (List (Int × Int)))] : List (List (Int × Int))), ([([] : (List (Int × Int))), ([] : (List (Int × Int))), ([(0, 1)] : List (Int × Int))] : List (List (Int × Int))), ([([] : (List (Int × Int))), ([] : (List (Int × Int))), ([] : (List (Int × Int)))] : List (List (Int × Int)))] : List (List (List (Int × Int)))) ([(TEdge.mk 0 1 (TMode.mk 0 ([] : (List Int)) ([] : (List Int)) ([] : (List Int)))), (TEdge.mk 1 0 (TMode.mk 0 ([] : (List Int)) ([] : (List Int)) ([] : (List Int)))), (TEdge.mk 1 2 (TMode.mk 0 ([] : (List Int)) ([] : (List Int)) ([] : (List Int)))), (TEdge.mk 9 2 (TMode.mk 0 ([] : (List Int)) ([] : (List Int)) ([] : (List Int))))] : List TEdge) false)))) false, .a (.cd false [.d, .d, .d] 1 (x22.map row_I) x22.length) none false, .a (.bd []) (some ([], .sl 1 (([0, 2] : List Int).map row_I))) false, .a (.c false [.d, .d] (.b x23)) none false, .a .no none false, .a .no (some ([], .b true)) false, .a (.c false [] (.agg (row_TNet x25))) none false, .a .no (some ([], .agg (row_TSpace (TSpace.mk ([([([(0, 1)] : List (Int × Int)), ([] : (List (Int × Int))), ([] : (List (Int × Int)))] : List (List (Int × Int))), ([([] : (List (Int × Int))), ([(0, 1)] : List (Int × Int)), ([] : (List (Int × Int)))] : List (List (Int × Int))), ([([] : (List (Int × Int))), ([] : (List (Int × Int))), ([(0, 1)] : List (Int × Int))] : List (List (Int × Int))), ([([] : (List (Int × Int))), ([] : (List (Int × Int))), ([] : (List (Int × Int)))] : List (List (Int × Int)))] : List (List (List (Int × Int)))) ([(TEdge.mk 0 1 (TMode.mk 0 ([] : (List Int)) ([] : (List Int)) ([] : (List Int)))), (TEdge.mk 1 0 (TMode.mk 0 ([] : (List Int)) ([] : (List Int)) ([] : (List Int)))), (TEdge.mk 1 2 (TMode.mk 0 ([] : (List Int)) ([] : (List Int)) ([] : (List Int)))), (TEdge.mk 9 2 (TMode.mk 0 ([] : (List Int)) ([] : (List Int)) ([] : (List Int))))] : List TEdge) false)))) false, .a (.c false [.d, .d] (.i .i64 x26)) none false, .a .no none false, .a .no none false, .a .no (some ([], .b true)) false, .a (.c false [] (.agg (row_TNet x28))) none false, .a .no (some ([some 1, some 6, none], .agg (row_TSpace (TSpace.mk ([] : (List (List (List (Int × Int))))) ([] : (List TEdge)) false)))) false, .a (.c false [.d, .d] (.i .i64 x29)) none false, .a .no none false, .a .no none false, .m .s] [] [] [0] [] rfl rfl rfl ⟨⟨⟨⟨⟨⟨⟨⟨⟨⟨⟨⟨⟨⟨⟨⟨⟨⟨⟨⟨⟨⟨⟨⟨⟨⟨⟨⟨⟨⟨⟨⟨⟨⟨⟨⟨⟨⟨⟨trivial, (F_law16_net_ok  hx4)⟩, rfl⟩, ⟨(F_rank_Goals_ok _ _ hx5), mapLen⟩⟩, rfl⟩, (F_ref03_Ints_ok _ _ hx6)⟩, (congrArg V.b hc7)⟩, rfl⟩, rfl⟩, ⟨(F_rank_Far_ok _ _ hx8), mapLen⟩⟩, rfl⟩, (F_ref03_Ints_ok _ _ hx9)⟩, (congrArg V.b hc10)⟩, (F_law16_net_ok  hx11)⟩, rfl⟩, ⟨(F_rank_Lost_ok _ _ hx12), mapLen⟩⟩, rfl⟩, (F_ref03_Ints_ok _ _ hx13)⟩, (congrArg V.b hc14)⟩, (F_law16_net_ok  hx15)⟩, rfl⟩, (F_rank_Step_ok _ _ _ hx16)⟩, (congrArg V.b hc17)⟩, (F_law16_net_ok  hx18)⟩, rfl⟩, (F_rank_Step_ok _ _ _ hx19)⟩, (congrArg V.b hc20)⟩, (F_law16_net_ok  hx21)⟩, rfl⟩, ⟨(F_rank_Way_ok _ _ _ hx22), mapLen⟩⟩, rfl⟩, (F_ref03_Ints_ok _ _ hx23)⟩, (congrArg V.b hc24)⟩, (F_law16_net_ok  hx25)⟩, rfl⟩, (F_rank_Longest_ok _ _ hx26)⟩, (congrArg V.b hc27)⟩, (F_law16_net_ok  hx28)⟩, rfl⟩, (F_rank_Longest_ok _ _ hx29)⟩ rfl (by kernel_rfl) rfl rfl rfl ?_
                  refine AK.go tab_ok hC [.keep [0] []] rfl trivial ?_
                  obtain rfl := Option.some.inj h
                  exact AK.met rfl
                · refine AK.draw2 tab_ok hC mixed [.a (.c false [] (.agg (row_TNet x4))) none false, .a .no (some ([], .agg (row_TSpace (TSpace.mk ([([([(0, 1)] : List (Int × Int)), ([] : (List (Int × Int))), ([] : (List (Int × Int)))] : List (List (Int × Int))), ([([] : (List (Int × Int))), ([(0, 1)] : List (Int × Int)), ([] : (List (Int × Int)))] : List (List (Int × Int))), ([([] : (List (Int × Int))), ([] : (List (Int × Int))), ([(0, 1)] : List (Int × Int))] : List (List (Int × Int))), ([([] : (List (Int × Int))), ([] : (List (Int × Int))), ([] : (List (Int × Int)))] : List (List (Int × Int)))] : List (List (List (Int × Int)))) ([(TEdge.mk 0 1 (TMode.mk 0 ([] : (List Int)) ([] : (List Int)) ([] : (List Int)))), (TEdge.mk 1 0 (TMode.mk 0 ([] : (List Int)) ([] : (List Int)) ([] : (List Int)))), (TEdge.mk 1 2 (TMode.mk 0 ([] : (List Int)) ([] : (List Int)) ([] : (List Int)))), (TEdge.mk 9 2 (TMode.mk 0 ([] : (List Int)) ([] : (List Int)) ([] : (List Int))))] : List TEdge) false)))) false, .a (.cd false [.d, .d] 1 (x5.map row_I) x5.length) none false, .a (.bd []) (some ([], .sl 1 (([2] : List Int).map row_I))) false, .a (.c false [.d, .d] (.b x6)) none false, .a .no (some ([], .b true)) false, .a .no (some ([], .agg (row_TSpace (TSpace.mk ([([([(0, 1)] : List (Int × Int)), ([] : (List (Int × Int))), ([] : (List (Int × Int)))] : List (List (Int × Int))), ([([] : (List (Int × Int))), ([(0, 1)] : List (Int × Int)), ([] : (List (Int × Int)))] : List (List (Int × Int))), ([([] : (List (Int × Int))), ([] : (List (Int × Int))), ([(0, 1)] : List (Int × Int))] : List (List (Int × Int))), ([([] : (List (Int × Int))), ([] : (List (Int × Int))), ([] : (List (Int × Int)))] : List (List (Int × Int)))] : List (List (List (Int × Int)))) ([(TEdge.mk 0 1 (TMode.mk 0 ([] : (List Int)) ([] : (List Int)) ([] : (List Int)))), (TEdge.mk 1 0 (TMode.mk 0 ([] : (List Int)) ([] : (List Int)) ([] : (List Int)))), (TEdge.mk 1 2 (TMode.mk 0 ([] : (List Int)) ([] : (List Int)) ([] : (List Int)))), (TEdge.mk 9 2 (TMode.mk 0 ([] : (List Int)) ([] : (List Int)) ([] : (List Int))))] : List TEdge) false)))) false, .a (.bd []) (some ([], .sl 1 (([2, 7] : List Int).map row_I))) false, .a (.cd false [.d, .d] 1 (x8.map row_I) x8.length) none false, .a (.bd []) (some ([], .sl 1 (([2, 1, 0, (-1)] : List Int).map row_I))) false, .a (.c false [.d, .d] (.b x9)) none false, .a .no none false, .a .no (some ([], .b true)) false, .a (.c false [] (.agg (row_TNet x11))) none false, .a .no (some ([], .agg (row_TSpace (TSpace.mk ([([([(0, 1)] : List (Int × Int)), ([] : (List (Int × Int))), ([] : (List (Int × Int)))] : List (List (Int × Int))), ([([] : (List (Int × Int))), ([(0, 1)] : List (Int × Int)), ([] : (List (Int × Int)))] : List (List (Int × Int))), ([([] : (List (Int × Int))), ([] : (List (Int × Int))), ([(0, 1)] : List (Int × Int))] : List (List (Int × Int))), ([([] : (List (Int × Int))), ([] : (List (Int × Int))), ([] : (List (Int × Int)))] : List (List (Int × Int)))] : List (List (List (Int × Int)))) ([(TEdge.mk 0 1 (TMode.mk 0 ([] : (List Int)) ([] : (List Int)) ([] : (List Int)))), (TEdge.mk 1 0 (TMode.mk 0 ([] : (List Int)) ([] : (List Int)) ([] : (List Int)))), (TEdge.mk 1 2 (TMode.mk 0 ([] : (List Int)) ([] : (List Int)) ([] : (List Int)))), (TEdge.mk 9 2 (TMode.mk 0 ([] : (List Int)) ([] : (List Int)) ([] : (List Int))))] : List TEdge) false)))) false, .a (.cd false [.d, .d] 1 (x12.map row_I) x12.length) none false, .a (.bd []) (some ([], .sl 1 (([3] : List Int).map row_I))) false, .a (.c false [.d, .d] (.b x13)) none false, .a .no none false, .a .no (some ([], .b true)) false, .a (.c false [] (.agg (row_TNet x15))) none false, .a .no (some ([], .agg (row_TSpace (TSpace.mk ([([([(0, 1)] : List (Int × Int)), ([] : (List (Int × Int))), ([] : (List (Int × Int)))] : List (List (Int × Int))), ([([] : (List (Int × Int))), ([(0, 1)] : List (Int × Int)), ([] : (List (Int × Int)))] : List (List (Int × Int))), ([([] : (List (Int × Int))), ([] : (List (Int × Int))), ([(0, 1)] : List (Int × Int))] : List (List (Int × Int))), ([([] : (List (Int × Int))), ([] : (List (Int × Int))), ([] : (List (Int × Int)))] : List (List (Int × Int)))] : List (List (List (Int × Int)))) ([(TEdge.mk 0 1 (TMode.mk 0 ([] : (List Int)) ([] : (List Int)) ([] : (List Int)))), (TEdge.mk 1 0 (TMode.mk 0 ([] : (List Int)) ([] : (List Int)) ([] : (List Int)))), (TEdge.mk 1 2 (TMode.mk 0 ([] : (List Int)) ([] : (List Int)) ([] : (List Int)))), (TEdge.mk 9 2 (TMode.mk 0 ([] : (List Int)) ([] : (List Int)) ([] : (List Int))))] : List TEdge) false)))) false, .a (.c false [.d, .d, .d] (.i .i64 x16)) none false, .a .no none false, .a .no none false, .a .no (some ([], .b true)) false, .a (.c false [] (.agg (row_TNet x18))) none false, .a .no (some ([], .agg (row_TSpace (TSpace.mk ([([([(0, 1)] : List (Int × Int)), ([] : (List (Int × Int))), ([] : (List (Int × Int)))] : List (List (Int × Int))), ([([] : (List (Int × Int))), ([(0, 1)] : List (Int × Int)), ([] : (List (Int × Int)))] : List (List (Int × Int))), ([([] : (List (Int × Int))), ([] : (List (Int × Int))), ([(0, 1)] : List (Int × Int))] : List (List (Int × Int))), ([([] : (List (Int × Int))), ([] : (List (Int × Int))), ([] : (List (Int × Int)))] : List (List (Int × Int)))] : List (List (List (Int × Int)))) ([(TEdge.mk 0 1 (TMode.mk 0 ([] : (List Int)) ([] : (List Int)) ([] : (List Int)))), (TEdge.mk 1 0 (TMode.mk 0 ([] : (List Int)) ([] : (List Int)) ([] : (List Int)))), (TEdge.mk 1 2 (TMode.mk 0 ([] : (List Int)) ([] : (List Int)) ([] : (List Int)))), (TEdge.mk 9 2 (TMode.mk 0 ([] : (List Int)) ([] : (List Int)) ([] : (List Int))))] : List TEdge) false)))) false, .a (.c false [.d, .d, .d] (.i .i64 x19)) none false, .a .no none false, .a .no none false, .a .no (some ([], .b true)) false, .a (.c false [] (.agg (row_TNet x21))) none false, .a .no (some ([], .agg (row_TSpace (TSpace.mk ([([([(0, 1)] : List (Int × Int)), ([] : (List (Int × Int))), ([] : (List (Int × Int)))] : List (List (Int × Int))), ([([] : (List (Int × Int))), ([(0, 1)] : List (Int × Int)), ([] : (List (Int × Int)))] : List (List (Int × Int))), ([([] : (List (Int × Int))), ([] : (List (Int × Int))), ([(0, 1)] : List (Int × Int))] : List (List (Int × Int))), ([([] : (List (Int × Int))), ([] : (List (Int × Int))), ([] : (List (Int × Int)))] : List (List (Int × Int)))] : List (List (List (Int × Int)))) ([(TEdge.mk 0 1 (TMode.mk 0 ([] : (List Int)) ([] : (List Int)) ([] : (List Int)))), (TEdge.mk 1 0 (TMode.mk 0 ([] : (List Int)) ([] : (List Int)) ([] : (List Int)))), (TEdge.mk 1 2 (TMode.mk 0 ([] : (List Int)) ([] : (List Int)) ([] : (List Int)))), (TEdge.mk 9 2 (TMode.mk 0 ([] : (List Int)) ([] : (List Int)) ([] : (List Int))))] : List TEdge) false)))) false, .a (.cd false [.d, .d, .d] 1 (x22.map row_I) x22.length) none false, .a (.bd []) (some ([], .sl 1 (([0, 2] : List Int).map row_I))) false, .a (.c false [.d, .d] (.b x23)) none false, .a .no none false, .a .no (some ([], .b true)) false, .a (.c false [] (.agg (row_TNet x25))) none false, .a .no (some ([], .agg (row_TSpace (TSpace.mk ([([([(0, 1)] : List (Int × Int)), ([] : (List (Int × Int))), ([] : (List (Int × Int)))] : List (List (Int × Int))), ([([] : (List (Int × Int))), ([(0, 1)] : List (Int × Int)), ([] : (List (Int × Int)))] : List (List (Int × Int))), ([([] : (List (Int × Int))), ([] : (List (Int × Int))), ([(0, 1)] : List (Int × Int))] : List (List (Int × Int))), ([([] : (List (Int × Int))), ([] : (List (Int × Int))), ([] : (List (Int × Int)))] : List (List (Int × Int)))] : List (List (List (Int × Int)))) ([(TEdge.mk 0 1 (TMode.mk 0 ([] : (List Int)) ([] : (List Int)) ([] : (List Int)))), (TEdge.mk 1 0 (TMode.mk 0 ([] : (List Int)) ([] : (List Int)) ([] : (List Int)))), (TEdge.mk 1 2 (TMode.mk 0 ([] : (List Int)) ([] : (List Int)) ([] : (List Int)))), (TEdge.mk 9 2 (TMode.mk 0 ([] : (List Int)) ([] : (List Int)) ([] : (List Int))))] : List TEdge) false)))) false, .a (.c false [.d, .d] (.i .i64 x26)) none false, .a .no none false, .a .no none false, .a .no (some ([], .b false)) false, .a .no none false, .a .no none false, .a .no none false, .a .no none false, .a .no none false, .m .s] [] [] [0] [] rfl rfl rfl ⟨⟨⟨⟨⟨⟨⟨⟨⟨⟨⟨⟨⟨⟨⟨⟨⟨⟨⟨⟨⟨⟨⟨⟨⟨⟨⟨⟨⟨⟨⟨⟨⟨⟨⟨⟨trivial, (F_law16_net_ok  hx4)⟩, rfl⟩, ⟨(F_rank_Goals_ok _ _ hx5), mapLen⟩⟩, rfl⟩, (F_ref03_Ints_ok _ _ hx6)⟩, (congrArg V.b hc7)⟩, rfl⟩, rfl⟩, ⟨(F_rank_Far_ok _ _ hx8), mapLen⟩⟩, rfl⟩, (F_ref03_Ints_ok _ _ hx9)⟩, (congrArg V.b hc10)⟩, (F_law16_net_ok  hx11)⟩, rfl⟩, ⟨(F_rank_Lost_ok _ _ hx12), mapLen⟩⟩, rfl⟩, (F_ref03_Ints_ok _ _ hx13)⟩, (congrArg V.b hc14)⟩, (F_law16_net_ok  hx15)⟩, rfl⟩, (F_rank_Step_ok _ _ _ hx16)⟩, (congrArg V.b hc17)⟩, (F_law16_net_ok  hx18)⟩, rfl⟩, (F_rank_Step_ok _ _ _ hx19)⟩, (congrArg V.b hc20)⟩, (F_law16_net_ok  hx21)⟩, rfl⟩, ⟨(F_rank_Way_ok _ _ _ hx22), mapLen⟩⟩, rfl⟩, (F_ref03_Ints_ok _ _ hx23)⟩, (congrArg V.b hc24)⟩, (F_law16_net_ok  hx25)⟩, rfl⟩, (F_rank_Longest_ok _ _ hx26)⟩, (congrArg V.b hc27)⟩ rfl (by kernel_rfl) rfl rfl rfl ?_
                  refine AK.go tab_ok hC [.keep [0] []] rfl trivial ?_
                  obtain rfl := Option.some.inj h
                  exact AK.met rfl
              · refine AK.draw2 tab_ok hC mixed [.a (.c false [] (.agg (row_TNet x4))) none false, .a .no (some ([], .agg (row_TSpace (TSpace.mk ([([([(0, 1)] : List (Int × Int)), ([] : (List (Int × Int))), ([] : (List (Int × Int)))] : List (List (Int × Int))), ([([] : (List (Int × Int))), ([(0, 1)] : List (Int × Int)), ([] : (List (Int × Int)))] : List (List (Int × Int))), ([([] : (List (Int × Int))), ([] : (List (Int × Int))), ([(0, 1)] : List (Int × Int))] : List (List (Int × Int))), ([([] : (List (Int × Int))), ([] : (List (Int × Int))), ([] : (List (Int × Int)))] : List (List (Int × Int)))] : List (List (List (Int × Int)))) ([(TEdge.mk 0 1 (TMode.mk 0 ([] : (List Int)) ([] : (List Int)) ([] : (List Int)))), (TEdge.mk 1 0 (TMode.mk 0 ([] : (List Int)) ([] : (List Int)) ([] : (List Int)))), (TEdge.mk 1 2 (TMode.mk 0 ([] : (List Int)) ([] : (List Int)) ([] : (List Int)))), (TEdge.mk 9 2 (TMode.mk 0 ([] : (List Int)) ([] : (List Int)) ([] : (List Int))))] : List TEdge) false)))) false, .a (.cd false [.d, .d] 1 (x5.map row_I) x5.length) none false, .a (.bd []) (some ([], .sl 1 (([2] : List Int).map row_I))) false, .a (.c false [.d, .d] (.b x6)) none false, .a .no (some ([], .b true)) false, .a .no (some ([], .agg (row_TSpace (TSpace.mk ([([([(0, 1)] : List (Int × Int)), ([] : (List (Int × Int))), ([] : (List (Int × Int)))] : List (List (Int × Int))), ([([] : (List (Int × Int))), ([(0, 1)] : List (Int × Int)), ([] : (List (Int × Int)))] : List (List (Int × Int))), ([([] : (List (Int × Int))), ([] : (List (Int × Int))), ([(0, 1)] : List (Int × Int))] : List (List (Int × Int))), ([([] : (List (Int × Int))), ([] : (List (Int × Int))), ([] : (List (Int × Int)))] : List (List (Int × Int)))] : List (List (List (Int × Int)))) ([(TEdge.mk 0 1 (TMode.mk 0 ([] : (List Int)) ([] : (List Int)) ([] : (List Int)))), (TEdge.mk 1 0 (TMode.mk 0 ([] : (List Int)) ([] : (List Int)) ([] : (List Int)))), (TEdge.mk 1 2 (TMode.mk 0 ([] : (List Int)) ([] : (List Int)) ([] : (List Int)))), (TEdge.mk 9 2 (TMode.mk 0 ([] : (List Int)) ([] : (List Int)) ([] : (List Int))))] : List TEdge) false)))) false, .a (.bd []) (some ([], .sl 1 (([2, 7] : List Int).map row_I))) false, .a (.cd false [.d, .d] 1 (x8.map row_I) x8.length) none false, .a (.bd []) (some ([], .sl 1 (([2, 1, 0, (-1)] : List Int).map row_I))) false, .a (.c false [.d, .d] (.b x9)) none false, .a .no none false, .a .no (some ([], .b true)) false, .a (.c false [] (.agg (row_TNet x11))) none false, .a .no (some ([], .agg (row_TSpace (TSpace.mk ([([([(0, 1)] : List (Int × Int)), ([] : (List (Int × Int))), ([] : (List (Int × Int)))] : List (List (Int × Int))), ([([] : (List (Int × Int))), ([(0, 1)] : List (Int × Int)), ([] : (List (Int × Int)))] : List (List (Int × Int))), ([([] : (List (Int × Int))), ([] : (List (Int × Int))), ([(0, 1)] : List (Int × Int))] : List (List (Int × Int))), ([([] : (List (Int × Int))), ([] : (List (Int × Int))), ([] : (List (Int × Int)))] : List (List (Int × Int)))] : List (List (List (Int × Int)))) ([(TEdge.mk 0 1 (TMode.mk 0 ([] : (List Int)) ([] : (List Int)) ([] : (List Int)))), (TEdge.mk 1 0 (TMode.mk 0 ([] : (List Int)) ([] : (List Int)) ([] : (List Int)))), (TEdge.mk 1 2 (TMode.mk 0 ([] : (List Int)) ([] : (List Int)) ([] : (List Int)))), (TEdge.mk 9 2 (TMode.mk 0 ([] : (List Int)) ([] : (List Int)) ([] : (List Int))))] : List TEdge) false)))) false, .a (.cd false [.d, .d] 1 (x12.map row_I) x12.length) none false, .a (.bd []) (some ([], .sl 1 (([3] : List Int).map row_I))) false, .a (.c false [.d, .d] (.b x13)) none false, .a .no none false, .a .no (some ([], .b true)) false, .a (.c false [] (.agg (row_TNet x15))) none false, .a .no (some ([], .agg (row_TSpace (TSpace.mk ([([([(0, 1)] : List (Int × Int)), ([] : (List (Int × Int))), ([] : (List (Int × Int)))] : List (List (Int × Int))), ([([] : (List (Int × Int))), ([(0, 1)] : List (Int × Int)), ([] : (List (Int × Int)))] : List (List (Int × Int))), ([([] : (List (Int × Int))), ([] : (List (Int × Int))), ([(0, 1)] : List (Int × Int))] : List (List (Int × Int))), ([([] : (List (Int × Int))), ([] : (List (Int × Int))), ([] : (List (Int × Int)))] : List (List (Int × Int)))] : List (List (List (Int × Int)))) ([(TEdge.mk 0 1 (TMode.mk 0 ([] : (List Int)) ([] : (List Int)) ([] : (List Int)))), (TEdge.mk 1 0 (TMode.mk 0 ([] : (List Int)) ([] : (List Int)) ([] : (List Int)))), (TEdge.mk 1 2 (TMode.mk 0 ([] : (List Int)) ([] : (List Int)) ([] : (List Int)))), (TEdge.mk 9 2 (TMode.mk 0 ([] : (List Int)) ([] : (List Int)) ([] : (List Int))))] : List TEdge) false)))) false, .a (.c false [.d, .d, .d] (.i .i64 x16)) none false, .a .no none false, .a .no none false, .a .no (some ([], .b true)) false, .a (.c false [] (.agg (row_TNet x18))) none false, .a .no (some ([], .agg (row_TSpace (TSpace.mk ([([([(0, 1)] : List (Int × Int)), ([] : (List (Int × Int))), ([] : (List (Int × Int)))] : List (List (Int × Int))), ([([] : (List (Int × Int))), ([(0, 1)] : List (Int × Int)), ([] : (List (Int × Int)))] : List (List (Int × Int))), ([([] : (List (Int × Int))), ([] : (List (Int × Int))), ([(0, 1)] : List (Int × Int))] : List (List (Int × Int))), ([([] : (List (Int × Int))), ([] : (List (Int × Int))), ([] : (List (Int × Int)))] : List (List (Int × Int)))] : List (List (List (Int × Int)))) ([(TEdge.mk 0 1 (TMode.mk 0 ([] : (List Int)) ([] : (List Int)) ([] : (List Int)))), (TEdge.mk 1 0 (TMode.mk 0 ([] : (List Int)) ([] : (List Int)) ([] : (List Int)))), (TEdge.mk 1 2 (TMode.mk 0 ([] : (List Int)) ([] : (List Int)) ([] : (List Int)))), (TEdge.mk 9 2 (TMode.mk 0 ([] : (List Int)) ([] : (List Int)) ([] : (List Int))))] : List TEdge) false)))) false, .a (.c false [.d, .d, .d] (.i .i64 x19)) none false, .a .no none false, .a .no none false, .a .no (some ([], .b true)) false, .a (.c false [] (.agg (row_TNet x21))) none false, .a .no (some ([], .agg (row_TSpace (TSpace.mk ([([([(0, 1)] : List (Int × Int)), ([] : (List (Int × Int))), ([] : (List (Int × Int)))] : List (List (Int × Int))), ([([] : (List (Int × Int))), ([(0, 1)] : List (Int × Int)), ([] : (List (Int × Int)))] : List (List (Int × Int))), ([([] : (List (Int × Int))), ([] : (List (Int × Int))), ([(0, 1)] : List (Int × Int))] : List (List (Int × Int))), ([([] : (List (Int × Int))), ([] : (List (Int × Int))), ([] : (List (Int × Int)))] : List (List (Int × Int)))] : List (List (List (Int × Int)))) ([(TEdge.mk 0 1 (TMode.mk 0 ([] : (List Int)) ([] : (List Int)) ([] : (List Int)))), (TEdge.mk 1 0 (TMode.mk 0 ([] : (List Int)) ([] : (List Int)) ([] : (List Int)))), (TEdge.mk 1 2 (TMode.mk 0 ([] : (List Int)) ([] : (List Int)) ([] : (List Int)))), (TEdge.mk 9 2 (TMode.mk 0 ([] : (List Int)) ([] : (List Int)) ([] : (List Int))))] : List TEdge) false)))) false, .a (.cd false [.d, .d, .d] 1 (x22.map row_I) x22.length) none false, .a (.bd []) (some ([], .sl 1 (([0, 2] : List Int).map row_I))) false, .a (.c false [.d, .d] (.b x23)) none false, .a .no none false, .a .no (some ([], .b false)) false, .a .no none false, .a .no none false, .a .no none false, .a .no none false, .a .no none false, .a .no none false, .a .no none false, .a .no none false, .a .no none false, .a .no none false, .a .no none false, .m .s] [] [] [0] [] rfl rfl rfl ⟨⟨⟨⟨⟨⟨⟨⟨⟨⟨⟨⟨⟨⟨⟨⟨⟨⟨⟨⟨⟨⟨⟨⟨⟨⟨⟨⟨⟨⟨⟨⟨trivial, (F_law16_net_ok  hx4)⟩, rfl⟩, ⟨(F_rank_Goals_ok _ _ hx5), mapLen⟩⟩, rfl⟩, (F_ref03_Ints_ok _ _ hx6)⟩, (congrArg V.b hc7)⟩, rfl⟩, rfl⟩, ⟨(F_rank_Far_ok _ _ hx8), mapLen⟩⟩, rfl⟩, (F_ref03_Ints_ok _ _ hx9)⟩, (congrArg V.b hc10)⟩, (F_law16_net_ok  hx11)⟩, rfl⟩, ⟨(F_rank_Lost_ok _ _ hx12), mapLen⟩⟩, rfl⟩, (F_ref03_Ints_ok _ _ hx13)⟩, (congrArg V.b hc14)⟩, (F_law16_net_ok  hx15)⟩, rfl⟩, (F_rank_Step_ok _ _ _ hx16)⟩, (congrArg V.b hc17)⟩, (F_law16_net_ok  hx18)⟩, rfl⟩, (F_rank_Step_ok _ _ _ hx19)⟩, (congrArg V.b hc20)⟩, (F_law16_net_ok  hx21)⟩, rfl⟩, ⟨(F_rank_Way_ok _ _ _ hx22), mapLen⟩⟩, rfl⟩, (F_ref03_Ints_ok _ _ hx23)⟩, (congrArg V.b hc24)⟩ rfl (by kernel_rfl) rfl rfl rfl ?_
                refine AK.go tab_ok hC [.keep [0] []] rfl trivial ?_
                obtain rfl := Option.some.inj h
                exact AK.met rfl
            · refine AK.draw2 tab_ok hC mixed [.a (.c false [] (.agg (row_TNet x4))) none false, .a .no (some ([], .agg (row_TSpace (TSpace.mk ([([([(0, 1)] : List (Int × Int)), ([] : (List (Int × Int))), ([] : (List (Int × Int)))] : List (List (Int × Int))), ([([] : (List (Int × Int))), ([(0, 1)] : List (Int × Int)), ([] : (List (Int × Int)))] : List (List (Int × Int))), ([([] : (List (Int × Int))), ([] : (List (Int × Int))), ([(0, 1)] : List (Int × Int))] : List (List (Int × Int))), ([([] : (List (Int × Int))), ([] : (List (Int × Int))), ([] : (List (Int × Int)))] : List (List (Int × Int)))] : List (List (List (Int × Int)))) ([(TEdge.mk 0 1 (TMode.mk 0 ([] : (List Int)) ([] : (List Int)) ([] : (List Int)))), (TEdge.mk 1 0 (TMode.mk 0 ([] : (List Int)) ([] : (List Int)) ([] : (List Int)))), (TEdge.mk 1 2 (TMode.mk 0 ([] : (List Int)) ([] : (List Int)) ([] : (List Int)))), (TEdge.mk 9 2 (TMode.mk 0 ([] : (List Int)) ([] : (List Int)) ([] : (List Int))))] : List TEdge) false)))) false, .a (.cd false [.d, .d] 1 (x5.map row_I) x5.length) none false, .a (.bd []) (some ([], .sl 1 (([2] : List Int).map row_I))) false, .a (.c false [.d, .d] (.b x6)) none false, .a .no (some ([], .b true)) false, .a .no (some ([], .agg (row_TSpace (TSpace.mk ([([([(0, 1)] : List (Int × Int)), ([] : (List (Int × Int))), ([] : (List (Int × Int)))] : List (List (Int × Int))), ([([] : (List (Int × Int))), ([(0, 1)] : List (Int × Int)), ([] : (List (Int × Int)))] : List (List (Int × Int))), ([([] : (List (Int × Int))), ([] : (List (Int × Int))), ([(0, 1)] : List (Int × Int))] : List (List (Int × Int))), ([([] : (List (Int × Int))), ([] : (List (Int × Int))), ([] : (List (Int × Int)))] : List (List (Int × Int)))] : List (List (List (Int × Int)))) ([(TEdge.mk 0 1 (TMode.mk 0 ([] : (List Int)) ([] : (List Int)) ([] : (List Int)))), (TEdge.mk 1 0 (TMode.mk 0 ([] : (List Int)) ([] : (List Int)) ([] : (List Int)))), (TEdge.mk 1 2 (TMode.mk 0 ([] : (List Int)) ([] : (List Int)) ([] : (List Int)))), (TEdge.mk 9 2 (TMode.mk 0 ([] : (List Int)) ([] : (List Int)) ([] : (List Int))))] : List TEdge) false)))) false, .a (.bd []) (some ([], .sl 1 (([2, 7] : List Int).map row_I))) false, .a (.cd false [.d, .d] 1 (x8.map row_I) x8.length) none false, .a (.bd []) (some ([], .sl 1 (([2, 1, 0, (-1)] : List Int).map row_I))) false, .a (.c false [.d, .d] (.b x9)) none false, .a .no none false, .a .no (some ([], .b true)) false, .a (.c false [] (.agg (row_TNet x11))) none false, .a .no (some ([], .agg (row_TSpace (TSpace.mk ([([([(0, 1)] : List (Int × Int)), ([] : (List (Int × Int))), ([] : (List (Int × Int)))] : List (List (Int × Int))), ([([] : (List (Int × Int))), ([(0, 1)] : List (Int × Int)), ([] : (List (Int × Int)))] : List (List (Int × Int))), ([([] : (List (Int × Int))), ([] : (List (Int × Int))), ([(0, 1)] : List (Int × Int))] : List (List (Int × Int))), ([([] : (List (Int × Int))), ([] : (List (Int × Int))), ([] : (List (Int × Int)))] : List (List (Int × Int)))] : List (List (List (Int × Int)))) ([(TEdge.mk 0 1 (TMode.mk 0 ([] : (List Int)) ([] : (List Int)) ([] : (List Int)))), (TEdge.mk 1 0 (TMode.mk 0 ([] : (List Int)) ([] : (List Int)) ([] : (List Int)))), (TEdge.mk 1 2 (TMode.mk 0 ([] : (List Int)) ([] : (List Int)) ([] : (List Int)))), (TEdge.mk 9 2 (TMode.mk 0 ([] : (List Int)) ([] : (List Int)) ([] : (List Int))))] : List TEdge) false)))) false, .a (.cd false [.d, .d] 1 (x12.map row_I) x12.length) none false, .a (.bd []) (some ([], .sl 1 (([3] : List Int).map row_I))) false, .a (.c false [.d, .d] (.b x13)) none false, .a .no none false, .a .no (some ([], .b true)) false, .a (.c false [] (.agg (row_TNet x15))) none false, .a .no (some ([], .agg (row_TSpace (TSpace.mk ([([([(0, 1)] : List (Int × Int)), ([] : (List (Int × Int))), ([] : (List (Int × Int)))] : List (List (Int × Int))), ([([] : (List (Int × Int))), ([(0, 1)] : List (Int × Int)), ([] : (List (Int × Int)))] : List (List (Int × Int))), ([([] : (List (Int × Int))), ([] : (List (Int × Int))), ([(0, 1)] : List (Int × Int))] : List (List (Int × Int))), ([([] : (List (Int × Int))), ([] : (List (Int × Int))), ([] : (List (Int × Int)))] : List (List (Int × Int)))] : List (List (List (Int × Int)))) ([(TEdge.mk 0 1 (TMode.mk 0 ([] : (List Int)) ([] : (List Int)) ([] : (List Int)))), (TEdge.mk 1 0 (TMode.mk 0 ([] : (List Int)) ([] : (List Int)) ([] : (List Int)))), (TEdge.mk 1 2 (TMode.mk 0 ([] : (List Int)) ([] : (List Int)) ([] : (List Int)))), (TEdge.mk 9 2 (TMode.mk 0 ([] : (List Int)) ([] : (List Int)) ([] : (List Int))))] : List TEdge) false)))) false, .a (.c false [.d, .d, .d] (.i .i64 x16)) none false, .a .no none false, .a .no none false, .a .no (some ([], .b true)) false, .a (.c false [] (.agg (row_TNet x18))) none false, .a .no (some ([], .agg (row_TSpace (TSpace.mk ([([([(0, 1)] : List (Int × Int)), ([] : (List (Int × Int))), ([] : (List (Int × Int)))] : List (List (Int × Int))), ([([] : (List (Int × Int))), ([(0, 1)] : List (Int × Int)), ([] : (List (Int × Int)))] : List (List (Int × Int))), ([([] : (List (Int × Int))), ([] : (List (Int × Int))), ([(0, 1)] : List (Int × Int))] : List (List (Int × Int))), ([([] : (List (Int × Int))), ([] : (List (Int × Int))), ([] : (List (Int × Int)))] : List (List (Int × Int)))] : List (List (List (Int × Int)))) ([(TEdge.mk 0 1 (TMode.mk 0 ([] : (List Int)) ([] : (List Int)) ([] : (List Int)))), (TEdge.mk 1 0 (TMode.mk 0 ([] : (List Int)) ([] : (List Int)) ([] : (List Int)))), (TEdge.mk 1 2 (TMode.mk 0 ([] : (List Int)) ([] : (List Int)) ([] : (List Int)))), (TEdge.mk 9 2 (TMode.mk 0 ([] : (List Int)) ([] : (List Int)) ([] : (List Int))))] : List TEdge) false)))) false, .a (.c false [.d, .d, .d] (.i .i64 x19)) none false, .a .no none false, .a .no none false, .a .no (some ([], .b false)) false, .a .no none false, .a .no none false, .a .no none false, .a .no none false, .a .no none false, .a .no none false, .a .no none false, .a .no none false, .a .no none false, .a .no none false, .a .no none false, .a .no none false, .a .no none false, .a .no none false, .a .no none false, .a .no none false, .a .no none false, .a .no none false, .m .s] [] [] [0] [] rfl rfl rfl ⟨⟨⟨⟨⟨⟨⟨⟨⟨⟨⟨⟨⟨⟨⟨⟨⟨⟨⟨⟨⟨⟨⟨⟨⟨⟨trivial, (F_law16_net_ok  hx4)⟩, rfl⟩, ⟨(F_rank_Goals_ok _ _ hx5), mapLen⟩⟩, rfl⟩, (F_ref03_Ints_ok _ _ hx6)⟩, (congrArg V.b hc7)⟩, rfl⟩, rfl⟩, ⟨(F_rank_Far_ok _ _ hx8), mapLen⟩⟩, rfl⟩, (F_ref03_Ints_ok _ _ hx9)⟩, (congrArg V.b hc10)⟩, (F_law16_net_ok  hx11)⟩, rfl⟩, ⟨(F_rank_Lost_ok _ _ hx12), mapLen⟩⟩, rfl⟩, (F_ref03_Ints_ok _ _ hx13)⟩, (congrArg V.b hc14)⟩, (F_law16_net_ok  hx15)⟩, rfl⟩, (F_rank_Step_ok _ _ _ hx16)⟩, (congrArg V.b hc17)⟩, (F_law16_net_ok  hx18)⟩, rfl⟩, (F_rank_Step_ok _ _ _ hx19)⟩, (congrArg V.b hc20)⟩ rfl (by kernel_rfl) rfl rfl rfl ?_
              refine AK.go tab_ok hC [.keep [0] []] rfl trivial ?_
              obtain rfl := Option.some.inj h
              exact AK.met rfl
          · refine AK.draw2 tab_ok hC mixed [.a (.c false [] (.agg (row_TNet x4))) none false, .a .no (some ([], .agg (row_TSpace (TSpace.mk ([([([(0, 1)] : List (Int × Int)), ([] : (List (Int × Int))), ([] : (List (Int × Int)))] : List (List (Int × Int))), ([([] : (List (Int × Int))), ([(0, 1)] : List (Int × Int)), ([] : (List (Int × Int)))] : List (List (Int × Int))), ([([] : (List (Int × Int))), ([] : (List (Int × Int))), ([(0, 1)] : List (Int × Int))] : List (List (Int × Int))), ([([] : (List (Int × Int))), ([] : (List (Int × Int))), ([] : (List (Int × Int)))] : List (List (Int × Int)))] : List (List (List (Int × Int)))) ([(TEdge.mk 0 1 (TMode.mk 0 ([] : (List Int)) ([] : (List Int)) ([] : (List Int)))), (TEdge.mk 1 0 (TMode.mk 0 ([] : (List Int)) ([] : (List Int)) ([] : (List Int)))), (TEdge.mk 1 2 (TMode.mk 0 ([] : (List Int)) ([] : (List Int)) ([] : (List Int)))), (TEdge.mk 9 2 (TMode.mk 0 ([] : (List Int)) ([] : (List Int)) ([] : (List Int))))] : List TEdge) false)))) false, .a (.cd false [.d, .d] 1 (x5.map row_I) x5.length) none false, .a (.bd []) (some ([], .sl 1 (([2] : List Int).map row_I))) false, .a (.c false [.d, .d] (.b x6)) none false, .a .no (some ([], .b true)) false, .a .no (some ([], .agg (row_TSpace (TSpace.mk ([([([(0, 1)] : List (Int × Int)), ([] : (List (Int × Int))), ([] : (List (Int × Int)))] : List (List (Int × Int))), ([([] : (List (Int × Int))), ([(0, 1)] : List (Int × Int)), ([] : (List (Int × Int)))] : List (List (Int × Int))), ([([] : (List (Int × Int))), ([] : (List (Int × Int))), ([(0, 1)] : List (Int × Int))] : List (List (Int × Int))), ([([] : (List (Int × Int))), ([] : (List (Int × Int))), ([] : (List (Int × Int)))] : List (List (Int × Int)))] : List (List (List (Int × Int)))) ([(TEdge.mk 0 1 (TMode.mk 0 ([] : (List Int)) ([] : (List Int)) ([] : (List Int)))), (TEdge.mk 1 0 (TMode.mk 0 ([] : (List Int)) ([] : (List Int)) ([] : (List Int)))), (TEdge.mk 1 2 (TMode.mk 0 ([] : (List Int)) ([] : (List Int)) ([] : (List Int)))), (TEdge.mk 9 2 (TMode.mk 0 ([] : (List Int)) ([] : (List Int)) ([] : (List Int))))] : List TEdge) false)))) false, .a (.bd []) (some ([], .sl 1 (([2, 7] : List Int).map row_I))) false, .a (.cd false [.d, .d] 1 (x8.map row_I) x8.length) none false, .a (.bd []) (some ([], .sl 1 (([2, 1, 0, (-1)] : List Int).map row_I))) false, .a (.c false [.d, .d] (.b x9)) none false, .a .no none false, .a .no (some ([], .b true)) false, .a (.c false [] (.agg (row_TNet x11))) none false, .a .no (some ([], .agg (row_TSpace (TSpace.mk ([([([(0, 1)] : List (Int × Int)), ([] : (List (Int × Int))), ([] : (List (Int × Int)))] : List (List (Int × Int))), ([([] : (List (Int × Int))), ([(0, 1)] : List (Int × Int)), ([] : (List (Int × Int)))] : List (List (Int × Int))), ([([] : (List (Int × Int))), ([] : (List (Int × Int))), ([(0, 1)] : List (Int × Int))] : List (List (Int × Int))), ([([] : (List (Int × Int))), ([] : (List (Int × Int))), ([] : (List (Int × Int)))] : List (List (Int × Int)))] : List (List (List (Int × Int)))) ([(TEdge.mk 0 1 (TMode.mk 0 ([] : (List Int)) ([] : (List Int)) ([] : (List Int)))), (TEdge.mk 1 0 (TMode.mk 0 ([] : (List Int)) ([] : (List Int)) ([] : (List Int)))), (TEdge.mk 1 2 (TMode.mk 0 ([] : (List Int)) ([] : (List Int)) ([] : (List Int)))), (TEdge.mk 9 2 (TMode.mk 0 ([] : (List Int)) ([] : (List Int)) ([] : (List Int))))] : List TEdge) false)))) false, .a (.cd false [.d, .d] 1 (x12.map row_I) x12.length) none false, .a (.bd []) (some ([], .sl 1 (([3] : List Int).map row_I))) false, .a (.c false [.d, .d] (.b x13)) none false, .a .no none false, .a .no (some ([], .b true)) false, .a (.c false [] (.agg (row_TNet x15))) none false, .a .no (some ([], .agg (row_TSpace (TSpace.mk ([([([(0, 1)] : List (Int × Int)), ([] : (List (Int × Int))), ([] : (List (Int × Int)))] : List (List (Int × Int))), ([([] : (List (Int × Int))), ([(0, 1)] : List (Int × Int)), ([] : (List (Int × Int)))] : List (List (Int × Int))), ([([] : (List (Int × Int))), ([] : (List (Int × Int))), ([(0, 1)] : List (Int × Int))] : List (List (Int × Int))), ([([] : (List (Int × Int))), ([] : (List (Int × Int))), ([] : (List (Int × Int)))] : List (List (Int × Int)))] : List (List (List (Int × Int)))) ([(TEdge.mk 0 1 (TMode.mk 0 ([] : (List Int)) ([] : (List Int)) ([] : (List Int)))), (TEdge.mk 1 0 (TMode.mk 0 ([] : (List Int)) ([] : (List Int)) ([] : (List Int)))), (TEdge.mk 1 2 (TMode.mk 0 ([] : (List Int)) ([] : (List Int)) ([] : (List Int)))), (TEdge.mk 9 2 (TMode.mk 0 ([] : (List Int)) ([] : (List Int)) ([] : (List Int))))] : List TEdge) false)))) false, .a (.c false [.d, .d, .d] (.i .i64 x16)) none false, .a .no none false, .a .no none false, .a .no (some ([], .b false)) false, .a .no none false, .a .no none false, .a .no none false, .a .no none false, .a .no none false, .a .no none false, .a .no none false, .a .no none false, .a .no none false, .a .no none false, .a .no none false, .a .no none false, .a .no none false, .a .no none false, .a .no none false, .a .no none false, .a .no none false, .a .no none false, .a .no none false, .a .no none false, .a .no none false, .a .no none false, .a .no none false, .a .no none false, .m .s] [] [] [0] [] rfl rfl rfl ⟨⟨⟨⟨⟨⟨⟨⟨⟨⟨⟨⟨⟨⟨⟨⟨⟨⟨⟨⟨⟨⟨trivial, (F_law16_net_ok  hx4)⟩, rfl⟩, ⟨(F_rank_Goals_ok _ _ hx5), mapLen⟩⟩, rfl⟩, (F_ref03_Ints_ok _ _ hx6)⟩, (congrArg V.b hc7)⟩, rfl⟩, rfl⟩, ⟨(F_rank_Far_ok _ _ hx8), mapLen⟩⟩, rfl⟩, (F_ref03_Ints_ok _ _ hx9)⟩, (congrArg V.b hc10)⟩, (F_law16_net_ok  hx11)⟩, rfl⟩, ⟨(F_rank_Lost_ok _ _ hx12), mapLen⟩⟩, rfl⟩, (F_ref03_Ints_ok _ _ hx13)⟩, (congrArg V.b hc14)⟩, (F_law16_net_ok  hx15)⟩, rfl⟩, (F_rank_Step_ok _ _ _ hx16)⟩, (congrArg V.b hc17)⟩ rfl (by kernel_rfl) rfl rfl rfl ?_
            refine AK.go tab_ok hC [.keep [0] []] rfl trivial ?_
            obtain rfl := Option.some.inj h
            exact AK.met rfl
        · refine AK.draw2 tab_ok hC mixed [.a (.c false [] (.agg (row_TNet x4))) none false, .a .no (some ([], .agg (row_TSpace (TSpace.mk ([([([(0, 1)] : List (Int × Int)), ([] : (List (Int × Int))), ([] : (List (Int × Int)))] : List (List (Int × Int))), ([([] : (List (Int × Int))), ([(0, 1)] : List (Int × Int)), ([] : (List (Int × Int)))] : List (List (Int × Int))), ([([] : (List (Int × Int))), ([] : (List (Int × Int))), ([(0, 1)] : List (Int × Int))] : List (List (Int × Int))), ([([] : (List (Int × Int))), ([] : (List (Int × Int))), ([] : (List (Int × Int)))] : List (List (Int × Int)))] : List (List (List (Int × Int)))) ([(TEdge.mk 0 1 (TMode.mk 0 ([] : (List Int)) ([] : (List Int)) ([] : (List Int)))), (TEdge.mk 1 0 (TMode.mk 0 ([] : (List Int)) ([] : (List Int)) ([] : (List Int)))), (TEdge.mk 1 2 (TMode.mk 0 ([] : (List Int)) ([] : (List Int)) ([] : (List Int)))), (TEdge.mk 9 2 (TMode.mk 0 ([] : (List Int)) ([] : (List Int)) ([] : (List Int))))] : List TEdge) false)))) false, .a (.cd false [.d, .d] 1 (x5.map row_I) x5.length) none false, .a (.bd []) (some ([], .sl 1 (([2] : List Int).map row_I))) false, .a (.c false [.d, .d] (.b x6)) none false, .a .no (some ([], .b true)) false, .a .no (some ([], .agg (row_TSpace (TSpace.mk ([([([(0, 1)] : List (Int × Int)), ([] : (List (Int × Int))), ([] : (List (Int × Int)))] : List (List (Int × Int))), ([([] : (List (Int × Int))), ([(0, 1)] : List (Int × Int)), ([] : (List (Int × Int)))] : List (List (Int × Int))), ([([] : (List (Int × Int))), ([] : (List (Int × Int))), ([(0, 1)] : List (Int × Int))] : List (List (Int × Int))), ([([] : (List (Int × Int))), ([] : (List (Int × Int))), ([] : (List (Int × Int)))] : List (List (Int × Int)))] : List (List (List (Int × Int)))) ([(TEdge.mk 0 1 (TMode.mk 0 ([] : (List Int)) ([] : (List Int)) ([] : (List Int)))), (TEdge.mk 1 0 (TMode.mk 0 ([] : (List Int)) ([] : (List Int)) ([] : (List Int)))), (TEdge.mk 1 2 (TMode.mk 0 ([] : (List Int)) ([] : (List Int)) ([] : (List Int)))), (TEdge.mk 9 2 (TMode.mk 0 ([] : (List Int)) ([] : (List Int)) ([] : (List Int))))] : List TEdge) false)))) false, .a (.bd []) (some ([], .sl 1 (([2, 7] : List Int).map row_I))) false, .a (.cd false [.d, .d] 1 (x8.map row_I) x8.length) none false, .a (.bd []) (some ([], .sl 1 (([2, 1, 0, (-1)] : List Int).map row_I))) false, .a (.c false [.d, .d] (.b x9)) none false, .a .no none false, .a .no (some ([], .b true)) false, .a (.c false [] (.agg (row_TNet x11))) none false, .a .no (some ([], .agg (row_TSpace (TSpace.mk ([([([(0, 1)] : List (Int × Int)), ([] : (List (Int × Int))), ([] : (List (Int × Int)))] : List (List (Int × Int))), ([([] : (List (Int × Int))), ([(0, 1)] : List (Int × Int)), ([] : (List (Int × Int)))] : List (List (Int × Int))), ([([] : (List (Int × Int))), ([] : (List (Int × Int))), ([(0, 1)] : List (Int × Int))] : List (List (Int × Int))), ([([] : (List (Int × Int))), ([] : (List (Int × Int))), ([] : (List (Int × Int)))] : List (List (Int × Int)))] : List (List (List (Int × Int)))) ([(TEdge.mk 0 1 (TMode.mk 0 ([] : (List Int)) ([] : (List Int)) ([] : (List Int)))), (TEdge.mk 1 0 (TMode.mk 0 ([] : (List Int)) ([] : (List Int)) ([] : (List Int)))), (TEdge.mk 1 2 (TMode.mk 0 ([] : (List Int)) ([] : (List Int)) ([] : (List Int)))), (TEdge.mk 9 2 (TMode.mk 0 ([] : (List Int)) ([] : (List Int)) ([] : (List Int))))] : List TEdge) false)))) false, .a (.cd false [.d, .d] 1 (x12.map row_I) x12.length) none false, .a (.bd []) (some ([], .sl 1 (([3] : List Int).map row_I))) false, .a (.c false [.d, .d] (.b x13)) none false, .a .no none false, .a .no (some ([], .b false)) false, .a .no none false, .a .no none false, .a .no none false, .a .no none false, .a .no none false, .a .no none false, .a .no none false, .a .no none false, .a .no none false, .a .no none false, .a .no none false, .a .no none false, .a .no none false, .a .no none false, .a .no none false, .a .no none false, .a .no none false, .a .no none false, .a .no none false, .a .no none false, .a .no none false, .a .no none false, .a .no none false, .a .no none false, .a .no none false, .a .no none false, .a .no none false, .a .no none false, .a .no none false, .a .no none false, .m .s] [] [] [0] [] rfl rfl rfl ⟨⟨⟨⟨⟨⟨⟨⟨⟨⟨⟨⟨⟨⟨⟨⟨⟨⟨trivial, (F_law16_net_ok  hx4)⟩, rfl⟩, ⟨(F_rank_Goals_ok _ _ hx5), mapLen⟩⟩, rfl⟩, (F_ref03_Ints_ok _ _ hx6)⟩, (congrArg V.b hc7)⟩, rfl⟩, rfl⟩, ⟨(F_rank_Far_ok _ _ hx8), mapLen⟩⟩, rfl⟩, (F_ref03_Ints_ok _ _ hx9)⟩, (congrArg V.b hc10)⟩, (F_law16_net_ok  hx11)⟩, rfl⟩, ⟨(F_rank_Lost_ok _ _ hx12), mapLen⟩⟩, rfl⟩, (F_ref03_Ints_ok _ _ hx13)⟩, (congrArg V.b hc14)⟩ rfl (by kernel_rfl) rfl rfl rfl ?_
          refine AK.go tab_ok hC [.keep [0] []] rfl trivial ?_
          obtain rfl := Option.some.inj h
          exact AK.met rfl
      · refine AK.draw2 tab_ok hC mixed [.a (.c false [] (.agg (row_TNet x4))) none false, .a .no (some ([], .agg (row_TSpace (TSpace.mk ([([([(0, 1)] : List (Int × Int)), ([] : (List (Int × Int))), ([] : (List (Int × Int)))] : List (List (Int × Int))), ([([] : (List (Int × Int))), ([(0, 1)] : List (Int × Int)), ([] : (List (Int × Int)))] : List (List (Int × Int))), ([([] : (List (Int × Int))), ([] : (List (Int × Int))), ([(0, 1)] : List (Int × Int))] : List (List (Int × Int))), ([([] : (List (Int × Int))), ([] : (List (Int × Int))), ([] : (List (Int × Int)))] : List (List (Int × Int)))] : List (List (List (Int × Int)))) ([(TEdge.mk 0 1 (TMode.mk 0 ([] : (List Int)) ([] : (List Int)) ([] : (List Int)))), (TEdge.mk 1 0 (TMode.mk 0 ([] : (List Int)) ([] : (List Int)) ([] : (List Int)))), (TEdge.mk 1 2 (TMode.mk 0 ([] : (List Int)) ([] : (List Int)) ([] : (List Int)))), (TEdge.mk 9 2 (TMode.mk 0 ([] : (List Int)) ([] : (List Int)) ([] : (List Int))))] : List TEdge) false)))) false, .a (.cd false [.d, .d] 1 (x5.map row_I) x5.length) none false, .a (.bd []) (some ([], .sl 1 (([2] : List Int).map row_I))) false, .a (.c false [.d, .d] (.b x6)) none false, .a .no (some ([], .b true)) false, .a .no (some ([], .agg (row_TSpace (TSpace.mk ([([([(0, 1)] : List (Int × Int)), ([] : (List (Int × Int))), ([] : (List (Int × Int)))] : List (List (Int × Int))), ([([] : (List (Int × Int))), ([(0, 1)] : List (Int × Int)), ([] : (List (Int × Int)))] : List (List (Int × Int))), ([([] : (List (Int × Int))), ([] : (List (Int × Int))), ([(0, 1)] : List (Int × Int))] : List (List (Int × Int))), ([([] : (List (Int × Int))), ([] : (List (Int × Int))), ([] : (List (Int × Int)))] : List (List (Int × Int)))] : List (List (List (Int × Int)))) ([(TEdge.mk 0 1 (TMode.mk 0 ([] : (List Int)) ([] : (List Int)) ([] : (List Int)))), (TEdge.mk 1 0 (TMode.mk 0 ([] : (List Int)) ([] : (List Int)) ([] : (List Int)))), (TEdge.mk 1 2 (TMode.mk 0 ([] : (List Int)) ([] : (List Int)) ([] : (List Int)))), (TEdge.mk 9 2 (TMode.mk 0 ([] : (List Int)) ([] : (List Int)) ([] : (List Int))))] : List TEdge) false)))) false, .a (.bd []) (some ([], .sl 1 (([2, 7] : List Int).map row_I))) false, .a (.cd false [.d, .d] 1 (x8.map row_I) x8.length) none false, .a (.bd []) (some ([], .sl 1 (([2, 1, 0, (-1)] : List Int).map row_I))) false, .a (.c false [.d, .d] (.b x9)) none false, .a .no none false, .a .no (some ([], .b false)) false, .a .no none false, .a .no none false, .a .no none false, .a .no none false, .a .no none false, .a .no none false, .a .no none false, .a .no none false, .a .no none false, .a .no none false, .a .no none false, .a .no none false, .a .no none false, .a .no none false, .a .no none false, .a .no none false, .a .no none false, .a .no none false, .a .no none false, .a .no none false, .a .no none false, .a .no none false, .a .no none false, .a .no none false, .a .no none false, .a .no none false, .a .no none false, .a .no none false, .a .no none false, .a .no none false, .a .no none false, .a .no none false, .a .no none false, .a .no none false, .a .no none false, .a .no none false, .a .no none false, .m .s] [] [] [0] [] rfl rfl rfl ⟨⟨⟨⟨⟨⟨⟨⟨⟨⟨⟨⟨trivial, (F_law16_net_ok  hx4)⟩, rfl⟩, ⟨(F_rank_Goals_ok _ _ hx5), mapLen⟩⟩, rfl⟩, (F_ref03_Ints_ok _ _ hx6)⟩, (congrArg V.b hc7)⟩, rfl⟩, rfl⟩, ⟨(F_rank_Far_ok _ _ hx8), mapLen⟩⟩, rfl⟩, (F_ref03_Ints_ok _ _ hx9)⟩, (congrArg V.b hc10)⟩ rfl (by kernel_rfl) rfl rfl rfl ?_
        refine AK.go tab_ok hC [.keep [0] []] rfl trivial ?_
        obtain rfl := Option.some.inj h
        exact AK.met rfl
    · refine AK.draw2 tab_ok hC mixed [.a (.c false [] (.agg (row_TNet x4))) none false, .a .no (some ([], .agg (row_TSpace (TSpace.mk ([([([(0, 1)] : List (Int × Int)), ([] : (List (Int × Int))), ([] : (List (Int × Int)))] : List (List (Int × Int))), ([([] : (List (Int × Int))), ([(0, 1)] : List (Int × Int)), ([] : (List (Int × Int)))] : List (List (Int × Int))), ([([] : (List (Int × Int))), ([] : (List (Int × Int))), ([(0, 1)] : List (Int × Int))] : List (List (Int × Int))), ([([] : (List (Int × Int))), ([] : (List (Int × Int))), ([] : (List (Int × Int)))] : List (List (Int × Int)))] : List (List (List (Int × Int)))) ([(TEdge.mk 0 1 (TMode.mk 0 ([] : (List Int)) ([] : (List Int)) ([] : (List Int)))), (TEdge.mk 1 0 (TMode.mk 0 ([] : (List Int)) ([] : (List Int)) ([] : (List Int)))), (TEdge.mk 1 2 (TMode.mk 0 ([] : (List Int)) ([] : (List Int)) ([] : (List Int)))), (TEdge.mk 9 2 (TMode.mk 0 ([] : (List Int)) ([] : (List Int)) ([] : (List Int))))] : List TEdge) false)))) false, .a (.cd false [.d, .d] 1 (x5.map row_I) x5.length) none false, .a (.bd []) (some ([], .sl 1 (([2] : List Int).map row_I))) false, .a (.c false [.d, .d] (.b x6)) none false, .a .no (some ([], .b false)) false, .a .no none false, .a .no none false, .a .no none false, .a .no none false, .a .no none false, .a .no none false, .a .no none false, .a .no none false, .a .no none false, .a .no none false, .a .no none false, .a .no none false, .a .no none false, .a .no none false, .a .no none false, .a .no none false, .a .no none false, .a .no none false, .a .no none false, .a .no none false, .a .no none false, .a .no none false, .a .no none false, .a .no none false, .a .no none false, .a .no none false, .a .no none false, .a .no none false, .a .no none false, .a .no none false, .a .no none false, .a .no none false, .a .no none false, .a .no none false, .a .no none false, .a .no none false, .a .no none false, .a .no none false, .a .no none false, .a .no none false, .a .no none false, .a .no none false, .a .no none false, .a .no none false, .m .s] [] [] [0] [] rfl rfl rfl ⟨⟨⟨⟨⟨⟨trivial, (F_law16_net_ok  hx4)⟩, rfl⟩, ⟨(F_rank_Goals_ok _ _ hx5), mapLen⟩⟩, rfl⟩, (F_ref03_Ints_ok _ _ hx6)⟩, (congrArg V.b hc7)⟩ rfl (by kernel_rfl) rfl rfl rfl ?_
      refine AK.go tab_ok hC [.keep [0] []] rfl trivial ?_
      obtain rfl := Option.some.inj h
      exact AK.met rfl
  · rintro σ rfl
    replace h : F_law16_small_k2 x2 = some r := h
    unfold F_law16_small_k2 at h
    refine AK.go tab_ok hC [.n 2, .keep [0] []] rfl trivial ?_
    obtain rfl := Option.some.inj h
    refine AK.done ?_
    exact Exists.intro [_] (And.intro (And.intro rfl trivial) (gives trivial))

-- 26 baldric/baldriclaw09.Few
def F_law09_Few_l1 (m1 : (List (List (Int × Int)))) (n3 : Int) (i4 : Int) : Option ((Int × Int) ⊕ Int) :=
  bif ((decide (i4 < (m1.length : Int))) && (decide (i4 < 100))) then
  (idx m1 i4).bind fun e11 =>
  some (.inl ((w64 (n3 + (e11.length : Int))), (w64 (i4 + 1))))
  else
  some (.inr n3)

def F_law09_Few_c2 (m1 : (List (List (Int × Int)))) (n7 : Int) : Option Bool :=
  some ((decide ((m1.length : Int) ≤ 70)) && (decide (n7 ≤ 300)))

def F_law09_Few (m1 : (List (List (Int × Int)))) : Option Bool :=
  (loopM (fun st => F_law09_Few_l1 m1 st.1 st.2) (0, 0)).bind (fun q => F_law09_Few_c2 m1 q)

set_option maxRecDepth 100000 in
set_option maxHeartbeats 4000000 in
theorem F_law09_Few_ok (m1 : (List (List (Int × Int)))) {r : Bool} (h : F_law09_Few m1 = some r) : ACalls Try.prog 26 [.sl 1 (m1.map row_LA2I)] [] (Gives (.b r) []) := by
  refine ACalls.walk 29 Try.func26 rfl Try.ntmps26 rfl fun C hC => ?_
  unfold F_law09_Few at h
  refine AK.go tab_ok hC [.n 17, .keep [0, 3, 4] []] rfl trivial ?_
  obtain ⟨n7, hl12, h⟩ := bindE h
  refine AK.loop (body := (fun st => F_law09_Few_l1 m1 st.1 st.2)) (fun st σ => σ = ⟨[(0, .sl 1 (m1.map row_LA2I)), (3, .i .i64 st.1), (4, .i .i64 st.2)], []⟩) (fun q e σ => e = .exit 0 ∧ σ = ⟨[(0, .sl 1 (m1.map row_LA2I)), (3, .i .i64 q)], []⟩) hl12 rfl ?_ ?_
  · rintro ⟨n3, i4⟩ o σ rfl h
    replace h : F_law09_Few_l1 m1 n3 i4 = some o := h
    unfold F_law09_Few_l1 at h
    refine AK.go tab_ok hC [.n 2] rfl trivial ?_
    refine AK.meetX (fun σ => σ = ⟨[(0, .sl 1 (m1.map row_LA2I)), (3, .i .i64 n3), (4, .i .i64 i4), (12, .b ((decide (i4 < (m1.length : Int))) && (decide (i4 < 100))))], []⟩) ?_ ?_
    · refine AK.go tab_ok hC [.n 3, .o (.ln m1.length), .n 2] rfl ⟨trivial, mapLen⟩ ?_
      rcases boolOr (decide (i4 < (m1.length : Int))) with hc9 | hc9
      · refine AK.go tab_ok hC [.say 9 (.b true), .n 4, .say 12 (.b ((decide (i4 < (m1.length : Int))) && (decide (i4 < 100)))), .keep [0, 3, 4, 12] []] rfl ⟨⟨trivial, (congrArg V.b hc9)⟩, (congrArg V.b (andT hc9 rfl))⟩ ?_
        exact AK.met rfl
      · refine AK.go tab_ok hC [.say 9 (.b false), .n 4, .say 12 (.b ((decide (i4 < (m1.length : Int))) && (decide (i4 < 100)))), .keep [0, 3, 4, 12] []] rfl ⟨⟨trivial, (congrArg V.b hc9)⟩, (congrArg V.b (andF hc9 rfl))⟩ ?_
        exact AK.met rfl
    · rintro σ rfl
      refine AK.go tab_ok hC [.n 1] rfl trivial ?_
      rcases bifE h with ⟨hc10, h⟩ | ⟨hc10, h⟩
      · obtain ⟨e11, he11, h⟩ := bindE h
        refine AK.go tab_ok hC [.br true, .n 8, .o (.row (row_LA2I e11)), .n 1, .o (.ln e11.length), .n 10, .keep [0, 3, 4] []] rfl ⟨⟨⟨trivial, hc10⟩, (idxM he11)⟩, mapLen⟩ ?_
        obtain rfl := Option.some.inj h
        exact rndN rfl rfl
      · refine AK.go tab_ok hC [.br false, .n 2, .keep [0, 3] []] rfl ⟨trivial, hc10⟩ ?_
        obtain rfl := Option.some.inj h
        exact rndX rfl (And.intro rfl rfl)
  · replace h : F_law09_Few_c2 m1 n7 = some r := h
    unfold F_law09_Few_c2 at h
    rintro e σ ⟨rfl, rfl⟩
    refine AK.go tab_ok hC [.n 3] rfl trivial ?_
    refine AK.meetX (fun σ => σ = ⟨[(2, .b ((decide ((m1.length : Int) ≤ 70)) && (decide (n7 ≤ 300))))], []⟩) ?_ ?_
    · refine AK.go tab_ok hC [.n 2, .o (.ln m1.length), .n 2] rfl ⟨trivial, mapLen⟩ ?_
      rcases boolOr (decide ((m1.length : Int) ≤ 70)) with hc14 | hc14
      · refine AK.go tab_ok hC [.say 25 (.b true), .n 5, .say 2 (.b ((decide ((m1.length : Int) ≤ 70)) && (decide (n7 ≤ 300)))), .keep [2] []] rfl ⟨⟨trivial, (congrArg V.b hc14)⟩, (congrArg V.b (andT hc14 rfl))⟩ ?_
        exact AK.met rfl
      · refine AK.go tab_ok hC [.say 25 (.b false), .n 5, .say 2 (.b ((decide ((m1.length : Int) ≤ 70)) && (decide (n7 ≤ 300)))), .keep [2] []] rfl ⟨⟨trivial, (congrArg V.b hc14)⟩, (congrArg V.b (andF hc14 rfl))⟩ ?_
        exact AK.met rfl
    · rintro σ rfl
      refine AK.go tab_ok hC [.n 2, .keep [2] []] rfl trivial ?_
      obtain rfl := Option.some.inj h
      refine AK.done ?_
      exact Exists.intro [_] (And.intro (And.intro rfl trivial) (gives trivial))

-- 9 baldric/baldriclaw16.Few
def F_law16_Few_l1 (s1 : TSpace) (i7 : Int) : Option (Int ⊕ (Unit ⊕ Unit)) :=
  bif (decide (i7 < (s1.States.length : Int))) then
  (idx s1.States i7).bind fun e10 =>
  (F_law09_Few e10).bind fun x11 =>
  bif (!x11) then
  some (.inr (.inl ()))
  else
  some (.inl (w64 (i7 + 1)))
  else
  some (.inr (.inr ()))

def F_law16_Few_c2 : Option Bool :=
  some false

def F_law16_Few_c3 : Option Bool :=
  some true

def F_law16_Few (s1 : TSpace) : Option Bool :=
  bif ((decide (40 < (s1.States.length : Int))) || (decide (200 < (s1.Edges.length : Int)))) then
  some false
  else
  (loopM (fun st => F_law16_Few_l1 s1 st) 0).bind (Sum.elim (fun q => F_law16_Few_c2) (fun q => F_law16_Few_c3))

set_option maxRecDepth 100000 in
set_option maxHeartbeats 4000000 in
theorem F_law16_Few_ok (s1 : TSpace) {r : Bool} (h : F_law16_Few s1 = some r) : ACalls Try.prog 9 [.agg (row_TSpace s1)] [] (Gives (.b r) []) := by
  refine ACalls.walk 30 Try.func9 rfl Try.ntmps9 rfl fun C hC => ?_
  unfold F_law16_Few at h
  refine AK.go tab_ok hC [.n 8] rfl trivial ?_
  refine AK.meetX (fun σ => σ = ⟨[(1, .loc 1 0 0), (14, .b ((decide (40 < (s1.States.length : Int))) || (decide (200 < (s1.Edges.length : Int)))))], [(1, .var (row_TSpace s1))]⟩) ?_ ?_
  · refine AK.go tab_ok hC [.n 3, .o (.ln s1.States.length), .n 2] rfl ⟨trivial, mapLen⟩ ?_
    rcases boolOr (decide (40 < (s1.States.length : Int))) with hc5 | hc5
    · refine AK.go tab_ok hC [.say 9 (.b true), .n 6, .say 14 (.b ((decide (40 < (s1.States.length : Int))) || (decide (200 < (s1.Edges.length : Int))))), .keep [1, 14] [1]] rfl ⟨⟨trivial, (congrArg V.b hc5)⟩, (congrArg V.b (orT hc5 rfl))⟩ ?_
      exact AK.met rfl
    · refine AK.go tab_ok hC [.say 9 (.b false), .n 2, .o (.ln s1.Edges.length), .n 3, .say 14 (.b ((decide (40 < (s1.States.length : Int))) || (decide (200 < (s1.Edges.length : Int))))), .keep [1, 14] [1]] rfl ⟨⟨⟨trivial, (congrArg V.b hc5)⟩, mapLen⟩, (congrArg V.b (orF hc5 rfl))⟩ ?_
      exact AK.met rfl
  · rintro σ rfl
    refine AK.go tab_ok hC [.n 1] rfl trivial ?_
    rcases bifE h with ⟨hc6, h⟩ | ⟨hc6, h⟩
    · refine AK.go tab_ok hC [.br true, .n 7, .keep [2] []] rfl ⟨trivial, hc6⟩ ?_
      obtain rfl := Option.some.inj h
      refine AK.done ?_
      exact Exists.intro [_] (And.intro (And.intro rfl trivial) (gives trivial))
    · refine AK.go tab_ok hC [.br false, .n 9, .keep [1, 3] [1]] rfl ⟨trivial, hc6⟩ ?_
      obtain ⟨o13, hl13, h⟩ := bindE h
      refine AK.loop (body := (fun st => F_law16_Few_l1 s1 st)) (fun st σ => σ = ⟨[(1, .loc 1 0 0), (3, .i .i64 st)], [(1, .var (row_TSpace s1))]⟩) (Sum.elim (fun q e σ => e = .ret ∧ σ = ⟨[(2, .b false)], []⟩) (fun q e σ => e = .exit 0 ∧ σ = ⟨[], []⟩)) hl13 rfl ?_ ?_
      · rintro i7 o σ rfl h
        replace h : F_law16_Few_l1 s1 i7 = some o := h
        unfold F_law16_Few_l1 at h
        refine AK.go tab_ok hC [.n 6, .o (.ln s1.States.length), .n 3] rfl ⟨trivial, mapLen⟩ ?_
        rcases bifE h with ⟨hc9, h⟩ | ⟨hc9, h⟩
        · obtain ⟨e10, he10, h⟩ := bindE h
          obtain ⟨x11, hx11, h⟩ := bindE h
          refine AK.go tab_ok hC [.br true, .n 9, .o (.row (row_LLA2I e10)), .n 1, .o (.c false [.d] (.b x11)), .n 9] rfl ⟨⟨⟨trivial, hc9⟩, (idxM he10)⟩, (F_law09_Few_ok _ hx11)⟩ ?_
          rcases bifE h with ⟨hc12, h⟩ | ⟨hc12, h⟩
          · refine AK.go tab_ok hC [.br true, .n 8, .keep [2] []] rfl ⟨trivial, hc12⟩ ?_
            obtain rfl := Option.some.inj h
            exact rndR rfl (And.intro rfl rfl)
          · refine AK.go tab_ok hC [.br false, .n 8, .keep [1, 3] [1]] rfl ⟨trivial, hc12⟩ ?_
            obtain rfl := Option.some.inj h
            exact rndN rfl rfl
        · refine AK.go tab_ok hC [.br false, .n 2, .keep [] []] rfl ⟨trivial, hc9⟩ ?_
          obtain rfl := Option.some.inj h
          exact rndX rfl (And.intro rfl rfl)
      · rcases o13 with (_ | _)
        · replace h : F_law16_Few_c2 = some r := h
          unfold F_law16_Few_c2 at h
          rintro e σ ⟨rfl, rfl⟩
          refine AK.go tab_ok hC [.n 2, .keep [2] []] rfl trivial ?_
          obtain rfl := Option.some.inj h
          refine AK.done ?_
          exact Exists.intro [_] (And.intro (And.intro rfl trivial) (gives trivial))
        · replace h : F_law16_Few_c3 = some r := h
          unfold F_law16_Few_c3 at h
          rintro e σ ⟨rfl, rfl⟩
          refine AK.go tab_ok hC [.n 8, .keep [2] []] rfl trivial ?_
          obtain rfl := Option.some.inj h
          refine AK.done ?_
          exact Exists.intro [_] (And.intro (And.intro rfl trivial) (gives trivial))

-- 50 baldric/baldricref03.Right
def F_ref03_Right_g1 (b1 : (List (Int × Int))) (i4 : Int) : Option Bool :=
  (idx b1 i4).bind fun e9 =>
  bif (decide (e9.1 < 0)) then
  some true
  else
  (idx b1 i4).bind fun e11 =>
  bif (decide (e11.2 < 1)) then
  some true
  else
  (idx b1 i4).bind fun e13 =>
  bif (decide (1048576 < e13.2)) then
  some true
  else
  bif (decide (0 < i4)) then
  (idx b1 i4).bind fun e16 =>
  (idx b1 (w64 (i4 - 1))).bind fun e17 =>
  some (decide (e16.1 ≤ e17.1))
  else
  some false

def F_ref03_Right_k2 (i4 : Int) (x7 : Bool) : Option (Int ⊕ (Unit ⊕ Unit)) :=
  bif x7 then
  some (.inr (.inl ()))
  else
  some (.inl (w64 (i4 + 1)))

def F_ref03_Right_l3 (b1 : (List (Int × Int))) (i4 : Int) : Option (Int ⊕ (Unit ⊕ Unit)) :=
  bif (decide (i4 < (b1.length : Int))) then
  (F_ref03_Right_g1 b1 i4).bind (fun x7 => F_ref03_Right_k2 i4 x7)
  else
  some (.inr (.inr ()))

def F_ref03_Right_c4 : Option Bool :=
  some false

def F_ref03_Right_c5 : Option Bool :=
  some true

def F_ref03_Right (b1 : (List (Int × Int))) : Option Bool :=
  (loopM (fun st => F_ref03_Right_l3 b1 st) 0).bind (Sum.elim (fun q => F_ref03_Right_c4) (fun q => F_ref03_Right_c5))

set_option maxRecDepth 100000 in
set_option maxHeartbeats 4000000 in
theorem F_ref03_Right_ok (b1 : (List (Int × Int))) {r : Bool} (h : F_ref03_Right b1 = some r) : ACalls Try.prog 50 [.sl 2 (b1.map row_A2I)] [] (Gives (.b r) []) := by
  refine ACalls.walk 50 Try.func50 rfl Try.ntmps50 rfl fun C hC => ?_
  unfold F_ref03_Right at h
  refine AK.go tab_ok hC [.n 12, .keep [0, 3] []] rfl trivial ?_
  obtain ⟨o19, hl19, h⟩ := bindE h
  refine AK.loop (body := (fun st => F_ref03_Right_l3 b1 st)) (fun st σ => σ = ⟨[(0, .sl 2 (b1.map row_A2I)), (3, .i .i64 st)], []⟩) (Sum.elim (fun q e σ => e = .ret ∧ σ = ⟨[(2, .b false)], []⟩) (fun q e σ => e = .exit 0 ∧ σ = ⟨[], []⟩)) hl19 rfl ?_ ?_
  · rintro i4 o σ rfl h
    replace h : F_ref03_Right_l3 b1 i4 = some o := h
    unfold F_ref03_Right_l3 at h
    refine AK.go tab_ok hC [.n 5, .o (.ln b1.length), .n 3] rfl ⟨trivial, mapLen⟩ ?_
    rcases bifE h with ⟨hc6, h⟩ | ⟨hc6, h⟩
    · refine AK.go tab_ok hC [.br true, .n 5] rfl ⟨trivial, hc6⟩ ?_
      obtain ⟨x7, hv8, h⟩ := bindE h
      replace h : F_ref03_Right_k2 i4 x7 = some o := h
      refine AK.meetX (fun σ => σ = ⟨[(0, .sl 2 (b1.map row_A2I)), (3, .i .i64 i4), (49, .b x7)], []⟩) ?_ ?_
      · replace h := hv8
        unfold F_ref03_Right_g1 at h
        obtain ⟨e9, he9, h⟩ := bindE h
        refine AK.go tab_ok hC [.keep [0, 3] []] rfl trivial ?_
        rcases bifE h with ⟨hc10, h⟩ | ⟨hc10, h⟩
        · refine AK.draw2 tab_ok hC mixed [.a .no none false, .a .no none false, .a (.row (row_A2I e9)) none false, .a .no none false, .a .no none false, .a .no none false, .a .no (some ([], .b true)) false, .a .no none false, .a .no none false, .a .no none false, .a .no none false, .a .no none false, .a .no none false, .a .no none false, .a .no none false, .a .no none false, .a .no none false, .a .no none false, .a .no none false, .a .no none false, .a .no none false, .a .no none false, .a .no none false, .a .no none false, .a .no none false, .a .no none false, .a .no none false, .a .no none false, .a .no none false, .a .no none false, .a .no none false, .a .no none false, .a .no none false, .a .no none false, .a .no none false, .a .no none false, .a .no none false, .a .no none false, .a .no none false, .a .no none false] [] [] [0, 3, 49] [] rfl rfl rfl ⟨⟨trivial, (idxM he9)⟩, (congrArg V.b hc10)⟩ rfl (by kernel_rfl) rfl rfl rfl ?_
          refine AK.go tab_ok hC [.keep [0, 3, 49] []] rfl trivial ?_
          obtain rfl := Option.some.inj h
          exact AK.met rfl
        · obtain ⟨e11, he11, h⟩ := bindE h
          rcases bifE h with ⟨hc12, h⟩ | ⟨hc12, h⟩
          · refine AK.draw2 tab_ok hC mixed [.a .no none false, .a .no none false, .a (.row (row_A2I e9)) none false, .a .no none false, .a .no none false, .a .no none false, .a .no (some ([], .b false)) false, .a .no none false, .a .no none false, .a (.row (row_A2I e11)) none false, .a .no none false, .a .no none false, .a .no none false, .a .no none false, .a .no (some ([], .b true)) false, .a .no none false, .a .no none false, .a .no none false, .a .no none false, .a .no none false, .a .no none false, .a .no none false, .a .no none false, .a .no none false, .a .no none false, .a .no none false, .a .no none false, .a .no none false, .a .no none false, .a .no none false, .a .no none false, .a .no none false, .a .no none false, .a .no none false, .a .no none false, .a .no none false, .a .no none false, .a .no none false, .a .no none false, .a .no none false] [] [] [0, 3, 49] [] rfl rfl rfl ⟨⟨⟨⟨trivial, (idxM he9)⟩, (congrArg V.b hc10)⟩, (idxM he11)⟩, (congrArg V.b hc12)⟩ rfl (by kernel_rfl) rfl rfl rfl ?_
            refine AK.go tab_ok hC [.keep [0, 3, 49] []] rfl trivial ?_
            obtain rfl := Option.some.inj h
            exact AK.met rfl
          · obtain ⟨e13, he13, h⟩ := bindE h
            rcases bifE h with ⟨hc14, h⟩ | ⟨hc14, h⟩
            · refine AK.draw2 tab_ok hC mixed [.a .no none false, .a .no none false, .a (.row (row_A2I e9)) none false, .a .no none false, .a .no none false, .a .no none false, .a .no (some ([], .b false)) false, .a .no none false, .a .no none false, .a (.row (row_A2I e11)) none false, .a .no none false, .a .no none false, .a .no none false, .a .no none false, .a .no (some ([], .b false)) false, .a .no none false, .a .no none false, .a (.row (row_A2I e13)) none false, .a .no none false, .a .no none false, .a .no none false, .a .no none false, .a .no (some ([], .b true)) false, .a .no none false, .a .no none false, .a .no none false, .a .no none false, .a .no none false, .a .no none false, .a .no none false, .a .no none false, .a .no none false, .a .no none false, .a .no none false, .a .no none false, .a .no none false, .a .no none false, .a .no none false, .a .no none false, .a .no none false] [] [] [0, 3, 49] [] rfl rfl rfl ⟨⟨⟨⟨⟨⟨trivial, (idxM he9)⟩, (congrArg V.b hc10)⟩, (idxM he11)⟩, (congrArg V.b hc12)⟩, (idxM he13)⟩, (congrArg V.b hc14)⟩ rfl (by kernel_rfl) rfl rfl rfl ?_
              refine AK.go tab_ok hC [.keep [0, 3, 49] []] rfl trivial ?_
              obtain rfl := Option.some.inj h
              exact AK.met rfl
            · rcases bifE h with ⟨hc15, h⟩ | ⟨hc15, h⟩
              · obtain ⟨e16, he16, h⟩ := bindE h
                obtain ⟨e17, he17, h⟩ := bindE h
                refine AK.draw2 tab_ok hC mixed [.a .no none false, .a .no none false, .a (.row (row_A2I e9)) none false, .a .no none false, .a .no none false, .a .no none false, .a .no (some ([], .b false)) false, .a .no none false, .a .no none false, .a (.row (row_A2I e11)) none false, .a .no none false, .a .no none false, .a .no none false, .a .no none false, .a .no (some ([], .b false)) false, .a .no none false, .a .no none false, .a (.row (row_A2I e13)) none false, .a .no none false, .a .no none false, .a .no none false, .a .no none false, .a .no (some ([], .b false)) false, .a .no none false, .a .no none false, .a .no (some ([], .b true)) false, .a .no none false, .a .no none false, .a (.row (row_A2I e16)) none false, .a .no none false, .a .no none false, .a .no none false, .a .no none false, .a .no none false, .a (.row (row_A2I e17)) none false, .a .no none false, .a .no none false, .a .no none false, .a .no none false, .a .no none false] [] [] [0, 3, 49] [] rfl rfl rfl ⟨⟨⟨⟨⟨⟨⟨⟨⟨trivial, (idxM he9)⟩, (congrArg V.b hc10)⟩, (idxM he11)⟩, (congrArg V.b hc12)⟩, (idxM he13)⟩, (congrArg V.b hc14)⟩, (congrArg V.b hc15)⟩, (idxM he16)⟩, (idxM he17)⟩ rfl (by kernel_rfl) rfl rfl rfl ?_
                refine AK.go tab_ok hC [.keep [0, 3, 49] []] rfl trivial ?_
                obtain rfl := Option.some.inj h
                exact AK.met rfl
              · refine AK.draw2 tab_ok hC mixed [.a .no none false, .a .no none false, .a (.row (row_A2I e9)) none false, .a .no none false, .a .no none false, .a .no none false, .a .no (some ([], .b false)) false, .a .no none false, .a .no none false, .a (.row (row_A2I e11)) none false, .a .no none false, .a .no none false, .a .no none false, .a .no none false, .a .no (some ([], .b false)) false, .a .no none false, .a .no none false, .a (.row (row_A2I e13)) none false, .a .no none false, .a .no none false, .a .no none false, .a .no none false, .a .no (some ([], .b false)) false, .a .no none false, .a .no none false, .a .no (some ([], .b false)) false, .a .no none false, .a .no none false, .a .no none false, .a .no none false, .a .no none false, .a .no none false, .a .no none false, .a .no none false, .a .no none false, .a .no none false, .a .no none false, .a .no none false, .a .no none false, .a .no none false] [] [] [0, 3, 49] [] rfl rfl rfl ⟨⟨⟨⟨⟨⟨⟨trivial, (idxM he9)⟩, (congrArg V.b hc10)⟩, (idxM he11)⟩, (congrArg V.b hc12)⟩, (idxM he13)⟩, (congrArg V.b hc14)⟩, (congrArg V.b hc15)⟩ rfl (by kernel_rfl) rfl rfl rfl ?_
                refine AK.go tab_ok hC [.keep [0, 3, 49] []] rfl trivial ?_
                obtain rfl := Option.some.inj h
                exact AK.met rfl
      · rintro σ rfl
        replace h : F_ref03_Right_k2 i4 x7 = some o := h
        unfold F_ref03_Right_k2 at h
        refine AK.go tab_ok hC [.n 1] rfl trivial ?_
        rcases bifE h with ⟨hc18, h⟩ | ⟨hc18, h⟩
        · refine AK.go tab_ok hC [.br true, .n 8, .keep [2] []] rfl ⟨trivial, hc18⟩ ?_
          obtain rfl := Option.some.inj h
          exact rndR rfl (And.intro rfl rfl)
        · refine AK.go tab_ok hC [.br false, .n 8, .keep [0, 3] []] rfl ⟨trivial, hc18⟩ ?_
          obtain rfl := Option.some.inj h
          exact rndN rfl rfl
    · refine AK.go tab_ok hC [.br false, .n 2, .keep [] []] rfl ⟨trivial, hc6⟩ ?_
      obtain rfl := Option.some.inj h
      exact rndX rfl (And.intro rfl rfl)
  · rcases o19 with (_ | _)
    · replace h : F_ref03_Right_c4 = some r := h
      unfold F_ref03_Right_c4 at h
      rintro e σ ⟨rfl, rfl⟩
      refine AK.go tab_ok hC [.n 2, .keep [2] []] rfl trivial ?_
      obtain rfl := Option.some.inj h
      refine AK.done ?_
      exact Exists.intro [_] (And.intro (And.intro rfl trivial) (gives trivial))
    · replace h : F_ref03_Right_c5 = some r := h
      unfold F_ref03_Right_c5 at h
      rintro e σ ⟨rfl, rfl⟩
      refine AK.go tab_ok hC [.n 8, .keep [2] []] rfl trivial ?_
      obtain rfl := Option.some.inj h
      refine AK.done ?_
      exact Exists.intro [_] (And.intro (And.intro rfl trivial) (gives trivial))

-- 43 baldric/baldricref03.Total
def F_ref03_Total_l1 (b1 : (List (Int × Int))) (x3 : Bool) (n4 : Int) (i5 : Int) : Option ((Int × Int) ⊕ Int) :=
  bif ((decide (i5 < (b1.length : Int))) && x3) then
  (idx b1 i5).bind fun e12 =>
  some (.inl ((w64 (n4 + e12.2)), (w64 (i5 + 1))))
  else
  some (.inr n4)

def F_ref03_Total_c2 (n8 : Int) : Option Int :=
  some n8

def F_ref03_Total (b1 : (List (Int × Int))) : Option Int :=
  (F_ref03_Right b1).bind fun x3 =>
  (loopM (fun st => F_ref03_Total_l1 b1 x3 st.1 st.2) (0, 0)).bind (fun q => F_ref03_Total_c2 q)

set_option maxRecDepth 100000 in
set_option maxHeartbeats 4000000 in
theorem F_ref03_Total_ok (b1 : (List (Int × Int))) {r : Int} (h : F_ref03_Total b1 = some r) : ACalls Try.prog 43 [.sl 2 (b1.map row_A2I)] [] (Gives (.i .i64 r) []) := by
  refine ACalls.walk 25 Try.func43 rfl Try.ntmps43 rfl fun C hC => ?_
  unfold F_ref03_Total at h
  obtain ⟨x3, hx3, h⟩ := bindE h
  refine AK.go tab_ok hC [.n 8, .o (.c false [.d] (.b x3)), .n 15, .keep [0, 3, 4, 5] []] rfl ⟨trivial, (F_ref03_Right_ok _ hx3)⟩ ?_
  obtain ⟨n8, hl13, h⟩ := bindE h
  refine AK.loop (body := (fun st => F_ref03_Total_l1 b1 x3 st.1 st.2)) (fun st σ => σ = ⟨[(0, .sl 2 (b1.map row_A2I)), (3, .b x3), (4, .i .i64 st.1), (5, .i .i64 st.2)], []⟩) (fun q e σ => e = .exit 0 ∧ σ = ⟨[(4, .i .i64 q)], []⟩) hl13 rfl ?_ ?_
  · rintro ⟨n4, i5⟩ o σ rfl h
    replace h : F_ref03_Total_l1 b1 x3 n4 i5 = some o := h
    unfold F_ref03_Total_l1 at h
    refine AK.go tab_ok hC [.n 2] rfl trivial ?_
    refine AK.meetX (fun σ => σ = ⟨[(0, .sl 2 (b1.map row_A2I)), (3, .b x3), (4, .i .i64 n4), (5, .i .i64 i5), (14, .b ((decide (i5 < (b1.length : Int))) && x3))], []⟩) ?_ ?_
    · refine AK.go tab_ok hC [.n 3, .o (.ln b1.length), .n 2] rfl ⟨trivial, mapLen⟩ ?_
      rcases boolOr (decide (i5 < (b1.length : Int))) with hc10 | hc10
      · refine AK.go tab_ok hC [.say 12 (.b true), .n 3, .say 14 (.b ((decide (i5 < (b1.length : Int))) && x3)), .keep [0, 3, 4, 5, 14] []] rfl ⟨⟨trivial, (congrArg V.b hc10)⟩, (congrArg V.b (andT hc10 rfl))⟩ ?_
        exact AK.met rfl
      · refine AK.go tab_ok hC [.say 12 (.b false), .n 3, .say 14 (.b ((decide (i5 < (b1.length : Int))) && x3)), .keep [0, 3, 4, 5, 14] []] rfl ⟨⟨trivial, (congrArg V.b hc10)⟩, (congrArg V.b (andF hc10 rfl))⟩ ?_
        exact AK.met rfl
    · rintro σ rfl
      refine AK.go tab_ok hC [.n 1] rfl trivial ?_
      rcases bifE h with ⟨hc11, h⟩ | ⟨hc11, h⟩
      · obtain ⟨e12, he12, h⟩ := bindE h
        refine AK.go tab_ok hC [.br true, .n 8, .o (.row (row_A2I e12)), .n 12, .keep [0, 3, 4, 5] []] rfl ⟨⟨trivial, hc11⟩, (idxM he12)⟩ ?_
        obtain rfl := Option.some.inj h
        exact rndN rfl rfl
      · refine AK.go tab_ok hC [.br false, .n 2, .keep [4] []] rfl ⟨trivial, hc11⟩ ?_
        obtain rfl := Option.some.inj h
        exact rndX rfl (And.intro rfl rfl)
  · replace h : F_ref03_Total_c2 n8 = some r := h
    unfold F_ref03_Total_c2 at h
    rintro e σ ⟨rfl, rfl⟩
    refine AK.go tab_ok hC [.n 9, .keep [2] []] rfl trivial ?_
    obtain rfl := Option.some.inj h
    refine AK.done ?_
    exact Exists.intro [_] (And.intro (And.intro rfl trivial) (gives trivial))

-- 27 baldric/baldricref09.Final
def F_ref09_Final_l1 (m2 : (List (List (Int × Int)))) (n1 : TNet) (i9 : Int) : Option (Int ⊕ (Unit ⊕ Unit)) :=
  bif (decide (i9 < (m2.length : Int))) then
  (idx m2 i9).bind fun e12 =>
  (F_ref03_Total e12).bind fun x13 =>
  bif (bif (i9 == n1.To) then ((x13 != 1) || ((i9 != n1.To) && (x13 != 0))) else ((i9 != n1.To) && (x13 != 0))) then
  some (.inr (.inl ()))
  else
  some (.inl (w64 (i9 + 1)))
  else
  some (.inr (.inr ()))

def F_ref09_Final_c2 : Option Bool :=
  some false

def F_ref09_Final_c3 : Option Bool :=
  some true

def F_ref09_Final (n1 : TNet) (m2 : (List (List (Int × Int)))) : Option Bool :=
  bif (((m2.length : Int) != (n1.Places.length : Int)) || ((decide (n1.To < 0)) || (decide ((m2.length : Int) ≤ n1.To)))) then
  some false
  else
  (loopM (fun st => F_ref09_Final_l1 m2 n1 st) 0).bind (Sum.elim (fun q => F_ref09_Final_c2) (fun q => F_ref09_Final_c3))

set_option maxRecDepth 100000 in
set_option maxHeartbeats 4000000 in
theorem F_ref09_Final_ok (n1 : TNet) (m2 : (List (List (Int × Int)))) {r : Bool} (h : F_ref09_Final n1 m2 = some r) : ACalls Try.prog 27 [.agg (row_TNet n1), .sl 1 (m2.map row_LA2I)] [] (Gives (.b r) []) := by
  refine ACalls.walk 54 Try.func27 rfl Try.ntmps27 rfl fun C hC => ?_
  unfold F_ref09_Final at h
  refine AK.go tab_ok hC [.n 8] rfl trivial ?_
  refine AK.meetX (fun σ => σ = ⟨[(1, .sl 1 (m2.map row_LA2I)), (2, .loc 2 0 0), (24, .b (((m2.length : Int) != (n1.Places.length : Int)) || ((decide (n1.To < 0)) || (decide ((m2.length : Int) ≤ n1.To)))))], [(2, .var (row_TNet n1))]⟩) ?_ ?_
  · refine AK.go tab_ok hC [.n 2, .o (.ln m2.length), .n 2, .o (.ln n1.Places.length), .n 2] rfl ⟨⟨trivial, mapLen⟩, mapLen⟩ ?_
    rcases boolOr ((m2.length : Int) != (n1.Places.length : Int)) with hc6 | hc6
    · refine AK.go tab_ok hC [.say 13 (.b true), .n 12, .say 24 (.b (((m2.length : Int) != (n1.Places.length : Int)) || ((decide (n1.To < 0)) || (decide ((m2.length : Int) ≤ n1.To))))), .keep [1, 2, 24] [2]] rfl ⟨⟨trivial, (congrArg V.b hc6)⟩, (congrArg V.b (orT hc6 rfl))⟩ ?_
      exact AK.met rfl
    · refine AK.go tab_ok hC [.say 13 (.b false), .n 5] rfl ⟨trivial, (congrArg V.b hc6)⟩ ?_
      rcases boolOr (decide (n1.To < 0)) with hc7 | hc7
      · refine AK.go tab_ok hC [.say 18 (.b true), .n 7, .say 24 (.b (((m2.length : Int) != (n1.Places.length : Int)) || ((decide (n1.To < 0)) || (decide ((m2.length : Int) ≤ n1.To))))), .keep [1, 2, 24] [2]] rfl ⟨⟨trivial, (congrArg V.b hc7)⟩, (congrArg V.b (orF hc6 (orT hc7 rfl)))⟩ ?_
        exact AK.met rfl
      · refine AK.go tab_ok hC [.say 18 (.b false), .n 3, .o (.ln m2.length), .n 3, .say 24 (.b (((m2.length : Int) != (n1.Places.length : Int)) || ((decide (n1.To < 0)) || (decide ((m2.length : Int) ≤ n1.To))))), .keep [1, 2, 24] [2]] rfl ⟨⟨⟨trivial, (congrArg V.b hc7)⟩, mapLen⟩, (congrArg V.b (orF hc6 (orF hc7 rfl)))⟩ ?_
        exact AK.met rfl
  · rintro σ rfl
    refine AK.go tab_ok hC [.n 1] rfl trivial ?_
    rcases bifE h with ⟨hc8, h⟩ | ⟨hc8, h⟩
    · refine AK.go tab_ok hC [.br true, .n 7, .keep [4] []] rfl ⟨trivial, hc8⟩ ?_
      obtain rfl := Option.some.inj h
      refine AK.done ?_
      exact Exists.intro [_] (And.intro (And.intro rfl trivial) (gives trivial))
    · refine AK.go tab_ok hC [.br false, .n 9, .keep [1, 2, 5] [2]] rfl ⟨trivial, hc8⟩ ?_
      obtain ⟨o20, hl20, h⟩ := bindE h
      refine AK.loop (body := (fun st => F_ref09_Final_l1 m2 n1 st)) (fun st σ => σ = ⟨[(1, .sl 1 (m2.map row_LA2I)), (2, .loc 2 0 0), (5, .i .i64 st)], [(2, .var (row_TNet n1))]⟩) (Sum.elim (fun q e σ => e = .ret ∧ σ = ⟨[(4, .b false)], []⟩) (fun q e σ => e = .exit 0 ∧ σ = ⟨[], []⟩)) hl20 rfl ?_ ?_
      · rintro i9 o σ rfl h
        replace h : F_ref09_Final_l1 m2 n1 i9 = some o := h
        unfold F_ref09_Final_l1 at h
        refine AK.go tab_ok hC [.n 5, .o (.ln m2.length), .n 3] rfl ⟨trivial, mapLen⟩ ?_
        rcases bifE h with ⟨hc11, h⟩ | ⟨hc11, h⟩
        · obtain ⟨e12, he12, h⟩ := bindE h
          obtain ⟨x13, hx13, h⟩ := bindE h
          refine AK.go tab_ok hC [.br true, .n 8, .o (.row (row_LA2I e12)), .n 1, .o (.c false [.d] (.i .i64 x13)), .n 4] rfl ⟨⟨⟨trivial, hc11⟩, (idxM he12)⟩, (F_ref03_Total_ok _ hx13)⟩ ?_
          refine AK.meetX (fun σ => σ = ⟨[(1, .sl 1 (m2.map row_LA2I)), (2, .loc 2 0 0), (5, .i .i64 i9), (53, .b (bif (i9 == n1.To) then ((x13 != 1) || ((i9 != n1.To) && (x13 != 0))) else ((i9 != n1.To) && (x13 != 0))))], [(2, .var (row_TNet n1))]⟩) ?_ ?_
          · refine AK.go tab_ok hC [.n 6] rfl trivial ?_
            rcases boolOr (i9 == n1.To) with hc15 | hc15
            · refine AK.go tab_ok hC [.say 40 (.b true), .n 4] rfl ⟨trivial, (congrArg V.b hc15)⟩ ?_
              rcases boolOr (x13 != 1) with hc16 | hc16
              · refine AK.go tab_ok hC [.say 44 (.b true), .n 10, .say 53 (.b (bif (i9 == n1.To) then ((x13 != 1) || ((i9 != n1.To) && (x13 != 0))) else ((i9 != n1.To) && (x13 != 0)))), .keep [1, 2, 5, 53] [2]] rfl ⟨⟨trivial, (congrArg V.b hc16)⟩, (congrArg V.b (bifT hc15 (orT hc16 rfl)))⟩ ?_
                exact AK.met rfl
              · refine AK.go tab_ok hC [.say 44 (.b false), .n 5] rfl ⟨trivial, (congrArg V.b hc16)⟩ ?_
                rcases boolOr (i9 != n1.To) with hc17 | hc17
                · refine AK.go tab_ok hC [.say 49 (.b true), .n 5, .say 53 (.b (bif (i9 == n1.To) then ((x13 != 1) || ((i9 != n1.To) && (x13 != 0))) else ((i9 != n1.To) && (x13 != 0)))), .keep [1, 2, 5, 53] [2]] rfl ⟨⟨trivial, (congrArg V.b hc17)⟩, (congrArg V.b (bifT hc15 (orF hc16 (andT hc17 rfl))))⟩ ?_
                  exact AK.met rfl
                · refine AK.go tab_ok hC [.say 49 (.b false), .n 5, .say 53 (.b (bif (i9 == n1.To) then ((x13 != 1) || ((i9 != n1.To) && (x13 != 0))) else ((i9 != n1.To) && (x13 != 0)))), .keep [1, 2, 5, 53] [2]] rfl ⟨⟨trivial, (congrArg V.b hc17)⟩, (congrArg V.b (bifT hc15 (orF hc16 (andF hc17 rfl))))⟩ ?_
                  exact AK.met rfl
            · refine AK.go tab_ok hC [.say 40 (.b false), .n 9] rfl ⟨trivial, (congrArg V.b hc15)⟩ ?_
              rcases boolOr (i9 != n1.To) with hc18 | hc18
              · refine AK.go tab_ok hC [.say 49 (.b true), .n 5, .say 53 (.b (bif (i9 == n1.To) then ((x13 != 1) || ((i9 != n1.To) && (x13 != 0))) else ((i9 != n1.To) && (x13 != 0)))), .keep [1, 2, 5, 53] [2]] rfl ⟨⟨trivial, (congrArg V.b hc18)⟩, (congrArg V.b (bifF hc15 (andT hc18 rfl)))⟩ ?_
                exact AK.met rfl
              · refine AK.go tab_ok hC [.say 49 (.b false), .n 5, .say 53 (.b (bif (i9 == n1.To) then ((x13 != 1) || ((i9 != n1.To) && (x13 != 0))) else ((i9 != n1.To) && (x13 != 0)))), .keep [1, 2, 5, 53] [2]] rfl ⟨⟨trivial, (congrArg V.b hc18)⟩, (congrArg V.b (bifF hc15 (andF hc18 rfl)))⟩ ?_
                exact AK.met rfl
          · rintro σ rfl
            refine AK.go tab_ok hC [.n 1] rfl trivial ?_
            rcases bifE h with ⟨hc19, h⟩ | ⟨hc19, h⟩
            · refine AK.go tab_ok hC [.br true, .n 8, .keep [4] []] rfl ⟨trivial, hc19⟩ ?_
              obtain rfl := Option.some.inj h
              exact rndR rfl (And.intro rfl rfl)
            · refine AK.go tab_ok hC [.br false, .n 8, .keep [1, 2, 5] [2]] rfl ⟨trivial, hc19⟩ ?_
              obtain rfl := Option.some.inj h
              exact rndN rfl rfl
        · refine AK.go tab_ok hC [.br false, .n 2, .keep [] []] rfl ⟨trivial, hc11⟩ ?_
          obtain rfl := Option.some.inj h
          exact rndX rfl (And.intro rfl rfl)
      · rcases o20 with (_ | _)
        · replace h : F_ref09_Final_c2 = some r := h
          unfold F_ref09_Final_c2 at h
          rintro e σ ⟨rfl, rfl⟩
          refine AK.go tab_ok hC [.n 2, .keep [4] []] rfl trivial ?_
          obtain rfl := Option.some.inj h
          refine AK.done ?_
          exact Exists.intro [_] (And.intro (And.intro rfl trivial) (gives trivial))
        · replace h : F_ref09_Final_c3 = some r := h
          unfold F_ref09_Final_c3 at h
          rintro e σ ⟨rfl, rfl⟩
          refine AK.go tab_ok hC [.n 8, .keep [4] []] rfl trivial ?_
          obtain rfl := Option.some.inj h
          refine AK.done ?_
          exact Exists.intro [_] (And.intro (And.intro rfl trivial) (gives trivial))

-- 12 baldric/baldricref16.Goals
def F_ref16_Goals_k1 (i5 : Int) (l11 : (List Int)) : Option ((Int × (List Int)) ⊕ (List Int)) :=
  some (.inl ((w64 (i5 + 1)), l11))

def F_ref16_Goals_l2 (s2 : TSpace) (n1 : TNet) (i5 : Int) (l6 : (List Int)) : Option ((Int × (List Int)) ⊕ (List Int)) :=
  bif (decide (i5 < (s2.States.length : Int))) then
  (idx s2.States i5).bind fun e12 =>
  (F_ref09_Final n1 e12).bind fun x13 =>
  bif x13 then
  (chk (decide (l6.length + ([i5] : List Int).length ≤ 4294967296))).bind fun _ =>
  F_ref16_Goals_k1 i5 (l6 ++ ([i5] : List Int))
  else
  F_ref16_Goals_k1 i5 l6
  else
  some (.inr l6)

def F_ref16_Goals_c3 (l9 : (List Int)) : Option (List Int) :=
  some l9

def F_ref16_Goals (n1 : TNet) (s2 : TSpace) : Option (List Int) :=
  (loopM (fun st => F_ref16_Goals_l2 s2 n1 st.1 st.2) (0, ([] : List Int))).bind (fun q => F_ref16_Goals_c3 q)

set_option maxRecDepth 100000 in
set_option maxHeartbeats 4000000 in
theorem F_ref16_Goals_ok (n1 : TNet) (s2 : TSpace) {r : (List Int)} (h : F_ref16_Goals n1 s2 = some r) : ACalls Try.prog 12 [.agg (row_TNet n1), .agg (row_TSpace s2)] [] (Gives (.own 30000 r.length) [(30000, .arr 1 (r.map row_I))]) := by
  refine ACalls.walk 28 Try.func12 rfl Try.ntmps12 rfl fun C hC => ?_
  unfold F_ref16_Goals at h
  refine AK.go tab_ok hC [.n 19, .adopt 5 23 1, .sayO 23 (.arr 1 (([] : List Int).map row_I)), .say 5 (.own 23 ([] : List Int).length), .keep [2, 3, 5, 6] [2, 3, 23]] rfl ⟨⟨trivial, rfl⟩, (congrArg (fun n => V.own 23 n) (by simp))⟩ ?_
  obtain ⟨l9, hl16, h⟩ := bindE h
  refine AK.loop (body := (fun st => F_ref16_Goals_l2 s2 n1 st.1 st.2)) (fun st σ => σ = ⟨[(2, .loc 2 0 0), (3, .loc 3 0 0), (5, .own 23 st.2.length), (6, .i .i64 st.1)], [(2, .var (row_TNet n1)), (3, .var (row_TSpace s2)), (23, .arr 1 (st.2.map row_I))]⟩) (fun q e σ => e = .exit 0 ∧ σ = ⟨[(5, .own 23 q.length)], [(23, .arr 1 (q.map row_I))]⟩) hl16 rfl ?_ ?_
  · rintro ⟨i5, l6⟩ o σ rfl h
    replace h : F_ref16_Goals_l2 s2 n1 i5 l6 = some o := h
    unfold F_ref16_Goals_l2 at h
    refine AK.go tab_ok hC [.n 6, .o (.ln s2.States.length), .n 3] rfl ⟨trivial, mapLen⟩ ?_
    rcases bifE h with ⟨hc10, h⟩ | ⟨hc10, h⟩
    · refine AK.go tab_ok hC [.br true, .n 2] rfl ⟨trivial, hc10⟩ ?_
      refine AK.meet (fun σ => ∃ l11 : (List Int), σ = ⟨[(2, .loc 2 0 0), (3, .loc 3 0 0), (5, .own 23 l11.length), (6, .i .i64 i5)], [(2, .var (row_TNet n1)), (3, .var (row_TSpace s2)), (23, .arr 1 (l11.map row_I))]⟩ ∧ F_ref16_Goals_k1 i5 l11 = some o) ?_ ?_
      · obtain ⟨e12, he12, h⟩ := bindE h
        obtain ⟨x13, hx13, h⟩ := bindE h
        refine AK.go tab_ok hC [.n 2, .keep [2, 3, 5, 6] [2, 3, 23]] rfl trivial ?_
        refine AK.draw2 tab_ok hC mixed [.a .no (some ([], .agg (row_TNet n1))) false, .a .no none false, .a .no none false, .a .no none false, .a (.row (row_LLA2I e12)) none false, .a .no none false, .a (.c false [.d, .d] (.b x13)) none false, .a .no none false] [] [] [2, 3, 5, 6, 7] [2, 3, 23] rfl rfl rfl ⟨⟨⟨trivial, rfl⟩, (idxM he12)⟩, (F_ref09_Final_ok _ _ hx13)⟩ rfl (by kernel_rfl) rfl rfl rfl ?_
        refine AK.go tab_ok hC [.n 6] rfl trivial ?_
        rcases bifE h with ⟨hc14, h⟩ | ⟨hc14, h⟩
        · obtain ⟨_, hk15, h⟩ := bindE h
          replace hk15 := chkE hk15
          refine AK.go tab_ok hC [.br true, .n 3, .v (.bd []) [] (.sl 1 (([i5] : List Int).map row_I)), .app ((l6 ++ ([i5] : List Int)).map row_I) (l6 ++ ([i5] : List Int)).length, .n 3, .keep [2, 3, 5, 6] [2, 3, 23]] rfl ⟨⟨⟨trivial, hc14⟩, rfl⟩, ⟨mapLen, appLim hk15 mapLen, mapApps, appLn mapLen⟩⟩ ?_
          exact AK.met (Exists.intro _ (And.intro rfl h))
        · refine AK.go tab_ok hC [.br false, .n 2, .keep [2, 3, 5, 6] [2, 3, 23]] rfl ⟨trivial, hc14⟩ ?_
          exact AK.met (Exists.intro _ (And.intro rfl h))
      · rintro σ ⟨l11, rfl, h⟩
        unfold F_ref16_Goals_k1 at h
        refine AK.go tab_ok hC [.n 5, .keep [2, 3, 5, 6] [2, 3, 23]] rfl trivial ?_
        obtain rfl := Option.some.inj h
        exact rndN rfl rfl
    · refine AK.go tab_ok hC [.br false, .n 2, .keep [5] [23]] rfl ⟨trivial, hc10⟩ ?_
      obtain rfl := Option.some.inj h
      exact rndX rfl (And.intro rfl rfl)
  · replace h : F_ref16_Goals_c3 l9 = some r := h
    unfold F_ref16_Goals_c3 at h
    rintro e σ ⟨rfl, rfl⟩
    refine AK.go tab_ok hC [.n 9, .keep [4] [23], .ren 23 30000, .keep [4] [30000]] rfl trivial ?_
    obtain rfl := Option.some.inj h
    refine AK.done ?_
    exact Exists.intro [_] (And.intro (And.intro rfl trivial) (gives ⟨rfl, trivial⟩))

-- 33 baldric/baldricref16.there
def F_ref16_there (s1 : TSpace) (e2 : TEdge) : Option Bool :=
  some ((decide (0 ≤ e2.From)) && ((decide (e2.From < (s1.States.length : Int))) && ((decide (0 ≤ e2.To)) && (decide (e2.To < (s1.States.length : Int))))))

set_option maxRecDepth 100000 in
set_option maxHeartbeats 4000000 in
theorem F_ref16_there_ok (s1 : TSpace) (e2 : TEdge) {r : Bool} (h : F_ref16_there s1 e2 = some r) : ACalls Try.prog 33 [.agg (row_TSpace s1), .agg (row_TEdge e2)] [] (Gives (.b r) []) := by
  refine ACalls.walk 29 Try.func33 rfl Try.ntmps33 rfl fun C hC => ?_
  unfold F_ref16_there at h
  refine AK.go tab_ok hC [.n 8] rfl trivial ?_
  refine AK.meetX (fun σ => σ = ⟨[(4, .b ((decide (0 ≤ e2.From)) && ((decide (e2.From < (s1.States.length : Int))) && ((decide (0 ≤ e2.To)) && (decide (e2.To < (s1.States.length : Int)))))))], []⟩) ?_ ?_
  · refine AK.go tab_ok hC [.n 5] rfl trivial ?_
    rcases boolOr (decide (0 ≤ e2.From)) with hc5 | hc5
    · refine AK.go tab_ok hC [.say 8 (.b true), .n 4, .o (.ln s1.States.length), .n 3] rfl ⟨⟨trivial, (congrArg V.b hc5)⟩, mapLen⟩ ?_
      rcases boolOr (decide (e2.From < (s1.States.length : Int))) with hc6 | hc6
      · refine AK.go tab_ok hC [.say 16 (.b true), .n 5] rfl ⟨trivial, (congrArg V.b hc6)⟩ ?_
        rcases boolOr (decide (0 ≤ e2.To)) with hc7 | hc7
        · refine AK.go tab_ok hC [.say 21 (.b true), .n 4, .o (.ln s1.States.length), .n 4, .say 4 (.b ((decide (0 ≤ e2.From)) && ((decide (e2.From < (s1.States.length : Int))) && ((decide (0 ≤ e2.To)) && (decide (e2.To < (s1.States.length : Int))))))), .keep [4] []] rfl ⟨⟨⟨trivial, (congrArg V.b hc7)⟩, mapLen⟩, (congrArg V.b (andT hc5 (andT hc6 (andT hc7 rfl))))⟩ ?_
          exact AK.met rfl
        · refine AK.go tab_ok hC [.say 21 (.b false), .n 9, .say 4 (.b ((decide (0 ≤ e2.From)) && ((decide (e2.From < (s1.States.length : Int))) && ((decide (0 ≤ e2.To)) && (decide (e2.To < (s1.States.length : Int))))))), .keep [4] []] rfl ⟨⟨trivial, (congrArg V.b hc7)⟩, (congrArg V.b (andT hc5 (andT hc6 (andF hc7 rfl))))⟩ ?_
          exact AK.met rfl
      · refine AK.go tab_ok hC [.say 16 (.b false), .n 14, .say 4 (.b ((decide (0 ≤ e2.From)) && ((decide (e2.From < (s1.States.length : Int))) && ((decide (0 ≤ e2.To)) && (decide (e2.To < (s1.States.length : Int))))))), .keep [4] []] rfl ⟨⟨trivial, (congrArg V.b hc6)⟩, (congrArg V.b (andT hc5 (andF hc6 rfl)))⟩ ?_
        exact AK.met rfl
    · refine AK.go tab_ok hC [.say 8 (.b false), .n 22, .say 4 (.b ((decide (0 ≤ e2.From)) && ((decide (e2.From < (s1.States.length : Int))) && ((decide (0 ≤ e2.To)) && (decide (e2.To < (s1.States.length : Int))))))), .keep [4] []] rfl ⟨⟨trivial, (congrArg V.b hc5)⟩, (congrArg V.b (andF hc5 rfl))⟩ ?_
      exact AK.met rfl
  · rintro σ rfl
    refine AK.go tab_ok hC [.n 2, .keep [4] []] rfl trivial ?_
    obtain rfl := Option.some.inj h
    refine AK.done ?_
    exact Exists.intro [_] (And.intro (And.intro rfl trivial) (gives trivial))

-- 14 baldric/baldricref16.Far
def F_ref16_Far_l1 (i6 : Int) (l7 : (List Int)) : Option ((Int × (List Int)) ⊕ (List Int)) :=
  bif (decide (i6 < (l7.length : Int))) then
  (idx l7 i6).bind fun e12 =>
  some (.inl ((w64 (i6 + 1)), (l7.set i6.toNat (-1))))
  else
  some (.inr l7)

def F_ref16_Far_k2 (i15 : Int) (l21 : (List Int)) : Option ((Int × (List Int)) ⊕ (List Int)) :=
  some (.inl ((w64 (i15 + 1)), l21))

def F_ref16_Far_g3 (goals2 : (List Int)) (i15 : Int) (l16 : (List Int)) : Option Bool :=
  (idx goals2 i15).bind fun e24 =>
  bif (decide (0 ≤ e24)) then
  (idx goals2 i15).bind fun e26 =>
  some (decide (e26 < (l16.length : Int)))
  else
  some false

def F_ref16_Far_k4 (goals2 : (List Int)) (i15 : Int) (l16 : (List Int)) (x22 : Bool) : Option ((Int × (List Int)) ⊕ (List Int)) :=
  bif x22 then
  (idx goals2 i15).bind fun e28 =>
  (idx l16 e28).bind fun e29 =>
  F_ref16_Far_k2 i15 (l16.set e28.toNat 0)
  else
  F_ref16_Far_k2 i15 l16

def F_ref16_Far_l5 (goals2 : (List Int)) (i15 : Int) (l16 : (List Int)) : Option ((Int × (List Int)) ⊕ (List Int)) :=
  bif (decide (i15 < (goals2.length : Int))) then
  (F_ref16_Far_g3 goals2 i15 l16).bind (fun x22 => F_ref16_Far_k4 goals2 i15 l16 x22)
  else
  some (.inr l16)

def F_ref16_Far_k6 (i39 : Int) (l45 : (List Int)) : Option ((Int × (List Int)) ⊕ (List Int)) :=
  some (.inl ((w64 (i39 + 1)), l45))

def F_ref16_Far_g7 (x47 : Bool) (l40 : (List Int)) (e46 : TEdge) (round32 : Int) : Option Bool :=
  bif x47 then
  (idx l40 e46.To).bind fun e51 =>
  bif (e51 == round32) then
  (idx l40 e46.From).bind fun e53 =>
  some (decide (e53 < 0))
  else
  some false
  else
  some false

def F_ref16_Far_k8 (l40 : (List Int)) (e46 : TEdge) (i39 : Int) (round32 : Int) (x48 : Bool) : Option ((Int × (List Int)) ⊕ (List Int)) :=
  bif x48 then
  (idx l40 e46.From).bind fun e55 =>
  F_ref16_Far_k6 i39 (l40.set e46.From.toNat (w64 (round32 + 1)))
  else
  F_ref16_Far_k6 i39 l40

def F_ref16_Far_l9 (s1 : TSpace) (round32 : Int) (i39 : Int) (l40 : (List Int)) : Option ((Int × (List Int)) ⊕ (List Int)) :=
  bif (decide (i39 < (s1.Edges.length : Int))) then
  (idx s1.Edges i39).bind fun e46 =>
  (F_ref16_there s1 e46).bind fun x47 =>
  (F_ref16_Far_g7 x47 l40 e46 round32).bind (fun x48 => F_ref16_Far_k8 l40 e46 i39 round32 x48)
  else
  some (.inr l40)

def F_ref16_Far_c10 (round32 : Int) (l43 : (List Int)) : Option ((Int × (List Int)) ⊕ (List Int)) :=
  some (.inl ((w64 (round32 + 1)), l43))

def F_ref16_Far_l11 (s1 : TSpace) (round32 : Int) (l33 : (List Int)) : Option ((Int × (List Int)) ⊕ (List Int)) :=
  bif (decide (round32 < (l33.length : Int))) then
  (loopM (fun st => F_ref16_Far_l9 s1 round32 st.1 st.2) (0, l33)).bind (fun q => F_ref16_Far_c10 round32 q)
  else
  some (.inr l33)

def F_ref16_Far_c12 (l36 : (List Int)) : Option (List Int) :=
  some l36

def F_ref16_Far_c13 (s1 : TSpace) (l19 : (List Int)) : Option (List Int) :=
  (loopM (fun st => F_ref16_Far_l11 s1 st.1 st.2) (0, l19)).bind (fun q => F_ref16_Far_c12 q)

def F_ref16_Far_c14 (goals2 : (List Int)) (s1 : TSpace) (l10 : (List Int)) : Option (List Int) :=
  (loopM (fun st => F_ref16_Far_l5 goals2 st.1 st.2) (0, l10)).bind (fun q => F_ref16_Far_c13 s1 q)

def F_ref16_Far (s1 : TSpace) (goals2 : (List Int)) : Option (List Int) :=
  (chk (decide (0 ≤ (s1.States.length : Int)) && decide ((s1.States.length : Int) ≤ (s1.States.length : Int)) && decide ((s1.States.length : Int) ≤ 4294967296))).bind fun _ =>
  (loopM (fun st => F_ref16_Far_l1 st.1 st.2) (0, (List.replicate (s1.States.length : Int).toNat (0 : Int)))).bind (fun q => F_ref16_Far_c14 goals2 s1 q)

set_option maxRecDepth 100000 in
set_option maxHeartbeats 4000000 in
theorem F_ref16_Far_ok (s1 : TSpace) (goals2 : (List Int)) {r : (List Int)} (h : F_ref16_Far s1 goals2 = some r) : ACalls Try.prog 14 [.agg (row_TSpace s1), .sl 1 (goals2.map row_I)] [] (Gives (.own 30000 r.length) [(30000, .arr 1 (r.map row_I))]) := by
  refine ACalls.walk 97 Try.func14 rfl Try.ntmps14 rfl fun C hC => ?_
  unfold F_ref16_Far at h
  obtain ⟨_, hk4, h⟩ := bindE h
  replace hk4 := chkE hk4
  refine AK.go tab_ok hC [.n 10, .o (.ln s1.States.length), .o (.rows ((List.replicate (s1.States.length : Int).toNat (0 : Int)).map row_I)), .say 15 (.own 15 (List.replicate (s1.States.length : Int).toNat (0 : Int)).length), .n 10, .keep [1, 2, 5, 6] [2, 15]] rfl ⟨⟨⟨trivial, mapLen⟩, ⟨hk4, mapRep rfl⟩⟩, (by simp)⟩ ?_
  obtain ⟨l10, hl13, h⟩ := bindE h
  refine AK.loop (body := (fun st => F_ref16_Far_l1 st.1 st.2)) (fun st σ => σ = ⟨[(1, .sl 1 (goals2.map row_I)), (2, .loc 2 0 0), (5, .own 15 st.2.length), (6, .i .i64 st.1)], [(2, .var (row_TSpace s1)), (15, .arr 1 (st.2.map row_I))]⟩) (fun q e σ => e = .exit 0 ∧ σ = ⟨[(1, .sl 1 (goals2.map row_I)), (2, .loc 2 0 0), (5, .own 15 q.length)], [(2, .var (row_TSpace s1)), (15, .arr 1 (q.map row_I))]⟩) hl13 rfl ?_ ?_
  · rintro ⟨i6, l7⟩ o σ rfl h
    replace h : F_ref16_Far_l1 i6 l7 = some o := h
    unfold F_ref16_Far_l1 at h
    refine AK.go tab_ok hC [.n 9] rfl trivial ?_
    rcases bifE h with ⟨hc11, h⟩ | ⟨hc11, h⟩
    · obtain ⟨e12, he12, h⟩ := bindE h
      refine AK.go tab_ok hC [.br true, .n 8, .st (row_I e12) ((l7.set i6.toNat (-1)).map row_I), .n 8, .say 5 (.own 15 (l7.set i6.toNat (-1)).length), .keep [1, 2, 5, 6] [2, 15]] rfl ⟨⟨⟨⟨trivial, hc11⟩, (idxOw he12 rfl)⟩, ⟨(mapGet (idxE he12).2), mapSet rfl⟩⟩, (congrArg (fun n => V.own 15 n) (by simp))⟩ ?_
      obtain rfl := Option.some.inj h
      exact rndN rfl rfl
    · refine AK.go tab_ok hC [.br false, .n 2, .keep [1, 2, 5] [2, 15]] rfl ⟨trivial, hc11⟩ ?_
      obtain rfl := Option.some.inj h
      exact rndX rfl (And.intro rfl rfl)
  · replace h : F_ref16_Far_c14 goals2 s1 l10 = some r := h
    unfold F_ref16_Far_c14 at h
    rintro e σ ⟨rfl, rfl⟩
    refine AK.go tab_ok hC [.n 9, .keep [1, 2, 5, 7] [2, 15]] rfl trivial ?_
    obtain ⟨l19, hl30, h⟩ := bindE h
    refine AK.loop (body := (fun st => F_ref16_Far_l5 goals2 st.1 st.2)) (fun st σ => σ = ⟨[(1, .sl 1 (goals2.map row_I)), (2, .loc 2 0 0), (5, .own 15 st.2.length), (7, .i .i64 st.1)], [(2, .var (row_TSpace s1)), (15, .arr 1 (st.2.map row_I))]⟩) (fun q e σ => e = .exit 2 ∧ σ = ⟨[(2, .loc 2 0 0), (5, .own 15 q.length)], [(2, .var (row_TSpace s1)), (15, .arr 1 (q.map row_I))]⟩) hl30 rfl ?_ ?_
    · rintro ⟨i15, l16⟩ o σ rfl h
      replace h : F_ref16_Far_l5 goals2 i15 l16 = some o := h
      unfold F_ref16_Far_l5 at h
      refine AK.go tab_ok hC [.n 5, .o (.ln goals2.length), .n 3] rfl ⟨trivial, mapLen⟩ ?_
      rcases bifE h with ⟨hc20, h⟩ | ⟨hc20, h⟩
      · refine AK.go tab_ok hC [.br true, .n 2] rfl ⟨trivial, hc20⟩ ?_
        refine AK.meet (fun σ => ∃ l21 : (List Int), σ = ⟨[(1, .sl 1 (goals2.map row_I)), (2, .loc 2 0 0), (5, .own 15 l21.length), (7, .i .i64 i15)], [(2, .var (row_TSpace s1)), (15, .arr 1 (l21.map row_I))]⟩ ∧ F_ref16_Far_k2 i15 l21 = some o) ?_ ?_
        · refine AK.go tab_ok hC [.n 2] rfl trivial ?_
          obtain ⟨x22, hv23, h⟩ := bindE h
          replace h : F_ref16_Far_k4 goals2 i15 l16 x22 = some o := h
          refine AK.meetX (fun σ => σ = ⟨[(1, .sl 1 (goals2.map row_I)), (2, .loc 2 0 0), (5, .own 15 l16.length), (7, .i .i64 i15), (44, .b x22)], [(2, .var (row_TSpace s1)), (15, .arr 1 (l16.map row_I))]⟩) ?_ ?_
          · replace h := hv23
            unfold F_ref16_Far_g3 at h
            obtain ⟨e24, he24, h⟩ := bindE h
            refine AK.go tab_ok hC [.n 3, .o (.row (row_I e24)), .n 3] rfl ⟨trivial, (idxM he24)⟩ ?_
            rcases bifE h with ⟨hc25, h⟩ | ⟨hc25, h⟩
            · obtain ⟨e26, he26, h⟩ := bindE h
              refine AK.go tab_ok hC [.say 36 (.b true), .n 2, .o (.row (row_I e26)), .n 6, .keep [1, 2, 5, 7, 44] [2, 15]] rfl ⟨⟨trivial, (congrArg V.b hc25)⟩, (idxM he26)⟩ ?_
              obtain rfl := Option.some.inj h
              exact AK.met rfl
            · refine AK.go tab_ok hC [.say 36 (.b false), .n 9, .keep [1, 2, 5, 7, 44] [2, 15]] rfl ⟨trivial, (congrArg V.b hc25)⟩ ?_
              obtain rfl := Option.some.inj h
              exact AK.met rfl
          · rintro σ rfl
            replace h : F_ref16_Far_k4 goals2 i15 l16 x22 = some o := h
            unfold F_ref16_Far_k4 at h
            refine AK.go tab_ok hC [.n 1] rfl trivial ?_
            rcases bifE h with ⟨hc27, h⟩ | ⟨hc27, h⟩
            · obtain ⟨e28, he28, h⟩ := bindE h
              obtain ⟨e29, he29, h⟩ := bindE h
              refine AK.go tab_ok hC [.br true, .n 4, .o (.row (row_I e28)), .n 2, .st (row_I e29) ((l16.set e28.toNat 0).map row_I), .n 2, .say 5 (.own 15 (l16.set e28.toNat 0).length), .keep [1, 2, 5, 7] [2, 15]] rfl ⟨⟨⟨⟨⟨trivial, hc27⟩, (idxM he28)⟩, (idxOw he29 rfl)⟩, ⟨(mapGet (idxE he29).2), mapSet rfl⟩⟩, (congrArg (fun n => V.own 15 n) (by simp))⟩ ?_
              exact AK.met (Exists.intro _ (And.intro rfl h))
            · refine AK.go tab_ok hC [.br false, .n 2, .keep [1, 2, 5, 7] [2, 15]] rfl ⟨trivial, hc27⟩ ?_
              exact AK.met (Exists.intro _ (And.intro rfl h))
        · rintro σ ⟨l21, rfl, h⟩
          unfold F_ref16_Far_k2 at h
          refine AK.go tab_ok hC [.n 5, .keep [1, 2, 5, 7] [2, 15]] rfl trivial ?_
          obtain rfl := Option.some.inj h
          exact rndN rfl rfl
      · refine AK.go tab_ok hC [.br false, .n 2, .keep [2, 5] [2, 15]] rfl ⟨trivial, hc20⟩ ?_
        obtain rfl := Option.some.inj h
        exact rndX rfl (And.intro rfl rfl)
    · replace h : F_ref16_Far_c13 s1 l19 = some r := h
      unfold F_ref16_Far_c13 at h
      rintro e σ ⟨rfl, rfl⟩
      refine AK.go tab_ok hC [.n 9, .keep [2, 5, 8] [2, 15]] rfl trivial ?_
      obtain ⟨l36, hl57, h⟩ := bindE h
      refine AK.loop (body := (fun st => F_ref16_Far_l11 s1 st.1 st.2)) (fun st σ => σ = ⟨[(2, .loc 2 0 0), (5, .own 15 st.2.length), (8, .i .i64 st.1)], [(2, .var (row_TSpace s1)), (15, .arr 1 (st.2.map row_I))]⟩) (fun q e σ => e = .exit 4 ∧ σ = ⟨[(5, .own 15 q.length)], [(15, .arr 1 (q.map row_I))]⟩) hl57 rfl ?_ ?_
      · rintro ⟨round32, l33⟩ o σ rfl h
        replace h : F_ref16_Far_l11 s1 round32 l33 = some o := h
        unfold F_ref16_Far_l11 at h
        refine AK.go tab_ok hC [.n 9] rfl trivial ?_
        rcases bifE h with ⟨hc37, h⟩ | ⟨hc37, h⟩
        · refine AK.go tab_ok hC [.br true, .n 10, .keep [2, 5, 8, 9] [2, 15]] rfl ⟨trivial, hc37⟩ ?_
          obtain ⟨l43, hl56, h⟩ := bindE h
          refine AK.loop (body := (fun st => F_ref16_Far_l9 s1 round32 st.1 st.2)) (fun st σ => σ = ⟨[(2, .loc 2 0 0), (5, .own 15 st.2.length), (8, .i .i64 round32), (9, .i .i64 st.1)], [(2, .var (row_TSpace s1)), (15, .arr 1 (st.2.map row_I))]⟩) (fun q e σ => e = .exit 6 ∧ σ = ⟨[(2, .loc 2 0 0), (5, .own 15 q.length), (8, .i .i64 round32)], [(2, .var (row_TSpace s1)), (15, .arr 1 (q.map row_I))]⟩) hl56 rfl ?_ ?_
          · rintro ⟨i39, l40⟩ o σ rfl h
            replace h : F_ref16_Far_l9 s1 round32 i39 l40 = some o := h
            unfold F_ref16_Far_l9 at h
            refine AK.go tab_ok hC [.n 6, .o (.ln s1.Edges.length), .n 3] rfl ⟨trivial, mapLen⟩ ?_
            rcases bifE h with ⟨hc44, h⟩ | ⟨hc44, h⟩
            · refine AK.go tab_ok hC [.br true, .n 2] rfl ⟨trivial, hc44⟩ ?_
              refine AK.meet (fun σ => ∃ l45 : (List Int), σ = ⟨[(2, .loc 2 0 0), (5, .own 15 l45.length), (8, .i .i64 round32), (9, .i .i64 i39)], [(2, .var (row_TSpace s1)), (15, .arr 1 (l45.map row_I))]⟩ ∧ F_ref16_Far_k6 i39 l45 = some o) ?_ ?_
              · obtain ⟨e46, he46, h⟩ := bindE h
                obtain ⟨x47, hx47, h⟩ := bindE h
                refine AK.go tab_ok hC [.n 6, .o (.row (row_TEdge e46)), .v .no [] (.agg (row_TEdge e46)), .n 2, .sayO 10 (.var (row_TEdge e46)), .n 4, .v .no [] (.agg (row_TSpace s1)), .v .no [] (.agg (row_TEdge e46)), .o (.c false [.d, .d] (.b x47)), .n 4] rfl ⟨⟨⟨⟨⟨⟨trivial, (idxM he46)⟩, rfl⟩, rfl⟩, rfl⟩, rfl⟩, (F_ref16_there_ok _ _ hx47)⟩ ?_
                obtain ⟨x48, hv49, h⟩ := bindE h
                replace h : F_ref16_Far_k8 l40 e46 i39 round32 x48 = some o := h
                refine AK.meetX (fun σ => σ = ⟨[(2, .loc 2 0 0), (5, .own 15 l40.length), (8, .i .i64 round32), (9, .i .i64 i39), (10, .loc 10 0 0), (89, .b x48)], [(2, .var (row_TSpace s1)), (10, .var (row_TEdge e46)), (15, .arr 1 (l40.map row_I))]⟩) ?_ ?_
                · replace h := hv49
                  unfold F_ref16_Far_g7 at h
                  refine AK.go tab_ok hC [.n 3] rfl trivial ?_
                  rcases bifE h with ⟨hc50, h⟩ | ⟨hc50, h⟩
                  · obtain ⟨e51, he51, h⟩ := bindE h
                    refine AK.go tab_ok hC [.say 73 (.b true), .n 4, .o (.row (row_I e51)), .n 4] rfl ⟨⟨⟨trivial, (congrArg V.b hc50)⟩, (idxOw he51 rfl)⟩, (mapGet (idxE he51).2)⟩ ?_
                    rcases bifE h with ⟨hc52, h⟩ | ⟨hc52, h⟩
                    · obtain ⟨e53, he53, h⟩ := bindE h
                      refine AK.go tab_ok hC [.say 82 (.b true), .n 4, .o (.row (row_I e53)), .n 3, .keep [2, 5, 8, 9, 10, 89] [2, 10, 15]] rfl ⟨⟨⟨trivial, (congrArg V.b hc52)⟩, (idxOw he53 rfl)⟩, (mapGet (idxE he53).2)⟩ ?_
                      obtain rfl := Option.some.inj h
                      exact AK.met rfl
                    · refine AK.go tab_ok hC [.say 82 (.b false), .n 8, .keep [2, 5, 8, 9, 10, 89] [2, 10, 15]] rfl ⟨trivial, (congrArg V.b hc52)⟩ ?_
                      obtain rfl := Option.some.inj h
                      exact AK.met rfl
                  · refine AK.go tab_ok hC [.say 73 (.b false), .n 17, .keep [2, 5, 8, 9, 10, 89] [2, 10, 15]] rfl ⟨trivial, (congrArg V.b hc50)⟩ ?_
                    obtain rfl := Option.some.inj h
                    exact AK.met rfl
                · rintro σ rfl
                  replace h : F_ref16_Far_k8 l40 e46 i39 round32 x48 = some o := h
                  unfold F_ref16_Far_k8 at h
                  refine AK.go tab_ok hC [.n 1] rfl trivial ?_
                  rcases bifE h with ⟨hc54, h⟩ | ⟨hc54, h⟩
                  · obtain ⟨e55, he55, h⟩ := bindE h
                    refine AK.go tab_ok hC [.br true, .n 7, .st (row_I e55) ((l40.set e46.From.toNat (w64 (round32 + 1))).map row_I), .n 2, .say 5 (.own 15 (l40.set e46.From.toNat (w64 (round32 + 1))).length), .keep [2, 5, 8, 9] [2, 15]] rfl ⟨⟨⟨⟨trivial, hc54⟩, (idxOw he55 rfl)⟩, ⟨(mapGet (idxE he55).2), mapSet rfl⟩⟩, (congrArg (fun n => V.own 15 n) (by simp))⟩ ?_
                    exact AK.met (Exists.intro _ (And.intro rfl h))
                  · refine AK.go tab_ok hC [.br false, .n 2, .keep [2, 5, 8, 9] [2, 15]] rfl ⟨trivial, hc54⟩ ?_
                    exact AK.met (Exists.intro _ (And.intro rfl h))
              · rintro σ ⟨l45, rfl, h⟩
                unfold F_ref16_Far_k6 at h
                refine AK.go tab_ok hC [.n 5, .keep [2, 5, 8, 9] [2, 15]] rfl trivial ?_
                obtain rfl := Option.some.inj h
                exact rndN rfl rfl
            · refine AK.go tab_ok hC [.br false, .n 2, .keep [2, 5, 8] [2, 15]] rfl ⟨trivial, hc44⟩ ?_
              obtain rfl := Option.some.inj h
              exact rndX rfl (And.intro rfl rfl)
          · replace h : F_ref16_Far_c10 round32 l43 = some o := h
            unfold F_ref16_Far_c10 at h
            rintro e σ ⟨rfl, rfl⟩
            refine AK.go tab_ok hC [.n 8, .keep [2, 5, 8] [2, 15]] rfl trivial ?_
            obtain rfl := Option.some.inj h
            exact rndN rfl rfl
        · refine AK.go tab_ok hC [.br false, .n 2, .keep [5] [15]] rfl ⟨trivial, hc37⟩ ?_
          obtain rfl := Option.some.inj h
          exact rndX rfl (And.intro rfl rfl)
      · replace h : F_ref16_Far_c12 l36 = some r := h
        unfold F_ref16_Far_c12 at h
        rintro e σ ⟨rfl, rfl⟩
        refine AK.go tab_ok hC [.n 9, .keep [4] [15], .ren 15 30000, .keep [4] [30000]] rfl trivial ?_
        obtain rfl := Option.some.inj h
        refine AK.done ?_
        exact Exists.intro [_] (And.intro (And.intro rfl trivial) (gives ⟨rfl, trivial⟩))

-- 16 baldric/baldricref16.Lost
def F_ref16_Lost_k1 (i7 : Int) (l13 : (List Int)) : Option ((Int × (List Int)) ⊕ (List Int)) :=
  some (.inl ((w64 (i7 + 1)), l13))

def F_ref16_Lost_l2 (x5 : (List Int)) (i7 : Int) (l8 : (List Int)) : Option ((Int × (List Int)) ⊕ (List Int)) :=
  bif (decide (i7 < (x5.length : Int))) then
  (idx x5 i7).bind fun e14 =>
  bif (decide (e14 < 0)) then
  (chk (decide (l8.length + ([i7] : List Int).length ≤ 4294967296))).bind fun _ =>
  F_ref16_Lost_k1 i7 (l8 ++ ([i7] : List Int))
  else
  F_ref16_Lost_k1 i7 l8
  else
  some (.inr l8)

def F_ref16_Lost_c3 (l11 : (List Int)) : Option (List Int) :=
  some l11

def F_ref16_Lost (n1 : TNet) (s2 : TSpace) : Option (List Int) :=
  (F_ref16_Goals n1 s2).bind fun x4 =>
  (F_ref16_Far s2 x4).bind fun x5 =>
  (loopM (fun st => F_ref16_Lost_l2 x5 st.1 st.2) (0, ([] : List Int))).bind (fun q => F_ref16_Lost_c3 q)

set_option maxRecDepth 100000 in
set_option maxHeartbeats 4000000 in
theorem F_ref16_Lost_ok (n1 : TNet) (s2 : TSpace) {r : (List Int)} (h : F_ref16_Lost n1 s2 = some r) : ACalls Try.prog 16 [.agg (row_TNet n1), .agg (row_TSpace s2)] [] (Gives (.own 30000 r.length) [(30000, .arr 1 (r.map row_I))]) := by
  refine ACalls.walk 29 Try.func16 rfl Try.ntmps16 rfl fun C hC => ?_
  unfold F_ref16_Lost at h
  obtain ⟨x4, hx4, h⟩ := bindE h
  obtain ⟨x5, hx5, h⟩ := bindE h
  refine AK.go tab_ok hC [.n 8, .keep [2, 3] [2, 3]] rfl trivial ?_
  refine AK.draw2 tab_ok hC mixed [.a .no (some ([], .agg (row_TSpace s2))) false, .a .no (some ([], .agg (row_TNet n1))) false, .a .no (some ([], .agg (row_TSpace s2))) false, .a (.cd false [.d, .d] 1 (x4.map row_I) x4.length) none false, .a (.co false [.d, .d] 1 (x5.map row_I) x5.length) none false, .a .no none false] [] [] [5] [12] rfl rfl rfl ⟨⟨⟨⟨⟨trivial, rfl⟩, rfl⟩, rfl⟩, ⟨(F_ref16_Goals_ok _ _ hx4), mapLen⟩⟩, ⟨(F_ref16_Far_ok _ _ hx5), mapLen, .inl rfl⟩⟩ rfl (by kernel_rfl) rfl rfl rfl ?_
  refine AK.go tab_ok hC [.n 13, .adopt 6 24 1, .sayO 24 (.arr 1 (([] : List Int).map row_I)), .say 6 (.own 24 ([] : List Int).length), .keep [5, 6, 7] [12, 24]] rfl ⟨⟨trivial, rfl⟩, (congrArg (fun n => V.own 24 n) (by simp))⟩ ?_
  obtain ⟨l11, hl17, h⟩ := bindE h
  refine AK.loop (body := (fun st => F_ref16_Lost_l2 x5 st.1 st.2)) (fun st σ => σ = ⟨[(5, .own 12 x5.length), (6, .own 24 st.2.length), (7, .i .i64 st.1)], [(12, .arr 1 (x5.map row_I)), (24, .arr 1 (st.2.map row_I))]⟩) (fun q e σ => e = .exit 0 ∧ σ = ⟨[(6, .own 24 q.length)], [(24, .arr 1 (q.map row_I))]⟩) hl17 rfl ?_ ?_
  · rintro ⟨i7, l8⟩ o σ rfl h
    replace h : F_ref16_Lost_l2 x5 i7 l8 = some o := h
    unfold F_ref16_Lost_l2 at h
    refine AK.go tab_ok hC [.n 9] rfl trivial ?_
    rcases bifE h with ⟨hc12, h⟩ | ⟨hc12, h⟩
    · refine AK.go tab_ok hC [.br true, .n 2] rfl ⟨trivial, hc12⟩ ?_
      refine AK.meet (fun σ => ∃ l13 : (List Int), σ = ⟨[(5, .own 12 x5.length), (6, .own 24 l13.length), (7, .i .i64 i7)], [(12, .arr 1 (x5.map row_I)), (24, .arr 1 (l13.map row_I))]⟩ ∧ F_ref16_Lost_k1 i7 l13 = some o) ?_ ?_
      · obtain ⟨e14, he14, h⟩ := bindE h
        refine AK.go tab_ok hC [.n 6, .o (.row (row_I e14)), .n 3] rfl ⟨⟨trivial, (idxOw he14 rfl)⟩, (mapGet (idxE he14).2)⟩ ?_
        rcases bifE h with ⟨hc15, h⟩ | ⟨hc15, h⟩
        · obtain ⟨_, hk16, h⟩ := bindE h
          replace hk16 := chkE hk16
          refine AK.go tab_ok hC [.br true, .n 3, .v (.bd []) [] (.sl 1 (([i7] : List Int).map row_I)), .app ((l8 ++ ([i7] : List Int)).map row_I) (l8 ++ ([i7] : List Int)).length, .n 3, .keep [5, 6, 7] [12, 24]] rfl ⟨⟨⟨trivial, hc15⟩, rfl⟩, ⟨mapLen, appLim hk16 mapLen, mapApps, appLn mapLen⟩⟩ ?_
          exact AK.met (Exists.intro _ (And.intro rfl h))
        · refine AK.go tab_ok hC [.br false, .n 2, .keep [5, 6, 7] [12, 24]] rfl ⟨trivial, hc15⟩ ?_
          exact AK.met (Exists.intro _ (And.intro rfl h))
      · rintro σ ⟨l13, rfl, h⟩
        unfold F_ref16_Lost_k1 at h
        refine AK.go tab_ok hC [.n 5, .keep [5, 6, 7] [12, 24]] rfl trivial ?_
        obtain rfl := Option.some.inj h
        exact rndN rfl rfl
    · refine AK.go tab_ok hC [.br false, .n 2, .keep [6] [24]] rfl ⟨trivial, hc12⟩ ?_
      obtain rfl := Option.some.inj h
      exact rndX rfl (And.intro rfl rfl)
  · replace h : F_ref16_Lost_c3 l11 = some r := h
    unfold F_ref16_Lost_c3 at h
    rintro e σ ⟨rfl, rfl⟩
    refine AK.go tab_ok hC [.n 9, .keep [4] [24], .ren 24 30000, .keep [4] [30000]] rfl trivial ?_
    obtain rfl := Option.some.inj h
    refine AK.done ?_
    exact Exists.intro [_] (And.intro (And.intro rfl trivial) (gives ⟨rfl, trivial⟩))


end Go.Proofs
