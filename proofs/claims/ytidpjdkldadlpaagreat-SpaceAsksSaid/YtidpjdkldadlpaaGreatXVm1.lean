/-
  VM, PART 1: numbers of other kinds, shifts, bits; structs and arrays held against each other; slices held against nil.
-/
import Derived.Test.YtidpjdkldadlpaaGreatXVmV
import Derived.Laws.StructEq
import Derived.Laws.Cover3
set_option linter.unusedVariables false
set_option linter.unusedSimpArgs false
set_option linter.unusedSectionVars false
set_option linter.deprecated false
namespace Go.Vm
open Go Go.RowKit

section
variable {P : Program} {C : Ctx} {σ : St} {o : Oper}

def intT (P : Program) (T : TypeId) (k : IntKind) : Bool := match P.underlying T with
  | some (.int q) => ikB q k
  | _ => false
theorem intT_inv {T : TypeId} {k : IntKind} (h : intT P T k = true) : P.underlying T = some (.int k) := by
  unfold intT at h
  split at h
  · rename_i q hq; rw [hq, ikB_eq h]
  · cases h

/-- A number of another kind. -/
theorem Stp.convI {S T d : Nat} {x : Operand} {k k' : IntKind} {n : Int} (ho : o.op = .convert S T x) (hd : o.dst = some d) (hn : Nat.ble (d + 1) C.n = true) (hx : σ.opd x = some (.i k' n)) (hs : intT P S k' = true) (hT : intT P T k = true) : Stp P C o σ (σ.put d (.i k (k.wrap n))) := by
  refine Stp.same hd hn fun φ a w hr => ⟨.int k (k.wrap n), ?_, .dat (.i _ _)⟩
  simp [execOp, ho, (hr.opd hx).i_inv, convert, run_underlying (intT_inv hs), run_underlying (intT_inv hT), Conv.intToInt]

def shrI (k : IntKind) (m n : Int) : Int := m.fdiv (2 ^ (min n.toNat k.bits))
theorem Stp.shr {x y : Operand} {T U d : Nat} {k k' : IntKind} {m n : Int} (ho : o.op = .binOp .shr T x y U) (hd : o.dst = some d) (hn : Nat.ble (d + 1) C.n = true) (hx : σ.opd x = some (.i k m)) (hy : σ.opd y = some (.i k' n)) (h0 : 0 ≤ n) : Stp P C o σ (σ.put d (.i k (shrI k m n))) := by
  refine Stp.same hd hn fun φ a w hr => ⟨.int k _, ?_, .dat (.i _ _)⟩
  have : ¬ n < 0 := by omega
  simp [execOp, ho, (hr.opd hx).i_inv, (hr.opd hy).i_inv, eqGuard, binOp, Op.shift, this, shrI]
/-- Values that are what their V says. -/
def valsOf : List V → Option (List Value)
  | [] => some []
  | .i k n :: r => (valsOf r).map (.int k n :: ·)
  | .b x :: r => (valsOf r).map (.bool x :: ·)
  | .s x :: r => (valsOf r).map (.string x :: ·)
  | _ => none
theorem valsOf_eq {φ : Nat → Option Blk} {I : Nat → Prop} {w : World} : ∀ {cs : List V} {vs xs : List Value}, valsOf cs = some vs → xs.length = cs.length → (∀ (j : Nat) x v, xs[j]? = some x → cs[j]? = some v → Rep φ I w x v) → xs = vs := by
  intro cs
  induction cs with
  | nil => intro vs xs h hl _; cases h; exact List.eq_nil_of_length_eq_zero hl
  | cons c cs ih =>
    intro vs xs h hl hr
    cases xs with
    | nil => cases hl
    | cons x xs =>
      have h0 := hr 0 x c rfl rfl
      have hi : ∀ {us : List Value}, valsOf cs = some us → xs = us := fun e => ih e (by simpa using hl) fun j x v a b => hr (j + 1) x v a b
      cases c with
      | i k n => simp only [valsOf, Option.map_eq_some_iff] at h; obtain ⟨us, e, rfl⟩ := h; rw [h0.i_inv, hi e]
      | b k => simp only [valsOf, Option.map_eq_some_iff] at h; obtain ⟨us, e, rfl⟩ := h; rw [h0.b_inv, hi e]
      | s k => simp only [valsOf, Option.map_eq_some_iff] at h; obtain ⟨us, e, rfl⟩ := h; rw [h0.s_inv, hi e]
      | _ => cases h
theorem Rep.aggVals {φ : Nat → Option Blk} {I : Nat → Prop} {w : World} {x : Value} {cs : List V} {vs : List Value} (h : Rep φ I w x (.agg cs)) (hv : valsOf cs = some vs) : x = .agg vs.toArray := by
  obtain ⟨xs, rfl, hs, hr⟩ := h.agg_inv
  have := valsOf_eq (xs := xs.toList) hv (by simpa using hs) fun j x v a b => hr j x v (by simpa using a) b
  rw [← this]

def EqT (P : Program) (T : TypeId) (vs us : List Value) (r : Bool) : Prop := P.eqGuardType P.depth T = false ∧ ∀ w, (Op.equalIn 10000 T (.agg vs.toArray) (.agg us.toArray)).run P w = .ok r w
theorem Stp.neAgg {x y : Operand} {T U d : Nat} {cs ds : List V} {vs us : List Value} {r : Bool} (ho : o.op = .binOp .neq T x y U) (hd : o.dst = some d) (hn : Nat.ble (d + 1) C.n = true) (hx : σ.opd x = some (.agg cs)) (hy : σ.opd y = some (.agg ds)) (hv : valsOf cs = some vs) (hu : valsOf ds = some us) (he : EqT P T vs us r) :
    Stp P C o σ (σ.put d (.b (!r))) := by
  refine Stp.same hd hn fun φ a w hr => ⟨.bool (!r), ?_, .dat (.b _)⟩
  have h1 := (hr.opd hx).aggVals hv
  have h2 := (hr.opd hy).aggVals hu
  have h3 := he.2 w
  simp only [execOp, ho, h1, h2, eqGuard, Sem.run_bind, run_program, Result.andThen_ok, he.1]
  simp [binOp, Op.equal, Op.maxDepth, h3, he.1]
end

section
variable {P : Program} {C : Ctx} {σ : St} {Q : Exit → St → Prop} {ks : List Fr} {ops : Array Oper} {rest : List Oper} {o : Oper}
/-- Data held against nil: what is nil has no rows; of what has none, either may be told. -/
theorem AK.eqNil {x y : Operand} {T U d e z : Nat} {rows : List (List V)} (hg : o.guard = none) (ho : o.op = .binOp .eql T x y U) (hd : o.dst = some d) (hn : Nat.ble (d + 1) C.n = true) (hx : σ.opd x = some (.sl z rows)) (hy : σ.opd y = some (.lit (.slice none 0 0))) (hT : P.underlying T = some (.slice e))
    (h1 : rows = [] → AK P C Q (.o ops rest) ks (σ.put d (.b true))) (h2 : AK P C Q (.o ops rest) ks (σ.put d (.b false))) : AK P C Q (.o ops (o :: rest)) ks σ := by
  intro a w hR
  obtain ⟨φ, hr⟩ := hR
  have hyv : a.eval y = .slice none 0 0 := (hr.opd hy).lit_inv
  have run : ∀ p l c, a.eval x = .slice p l c → (execOp a.eval o).run P w = .ok (.value (.bool p.isNone)) w := fun p l c e => by
    simp [execOp, ho, e, hyv, eqGuard, binOp, run_equal_slice_nil w T _ p l c hT]
  have go : ∀ {v : Bool} {σ' : St}, (execOp a.eval o).run P w = .ok (.value (.bool v)) w → σ' = σ.put d (.b v) → AK P C Q (.o ops rest) ks σ' → wpListIn C.F 0 P ops (up C (unw P C Q ks)) (o :: rest) a w := fun {v σ'} e e2 k => by
    have : Stp P C { o with op := .move (.const (.bool v)) } σ (σ.put d (.b v)) := Stp.move rfl hd hn rfl
    simp only [wpListIn, Region.wanted, hg, if_true]
    refine ⟨fun _ _ => trivial, ?_⟩
    rw [execAt e, Oper.uponIn_value]
    subst e2
    refine k _ _ ⟨φ, ?_⟩
    rw [hd]
    exact hr.put (lt_of_ble hn) (.dat (.b _))
  rcases (hr.opd hx).sl_inv with ⟨p, c, he, h0⟩ | ⟨b, off, cap, he, _⟩
  · cases p with
    | none => exact go (run none 0 c he) rfl (h1 h0)
    | some p => exact go (run (some p) 0 c he) rfl h2
  · exact go (run _ _ _ he) rfl h2
end

/-! ### a row of values of one cell each, whatever they lead to: a variable of as many cells -/
section
variable {P : Program} {C : Ctx} {σ : St} {o : Oper}
end

/-! ### a loop of so many rounds -/
section
variable {P : Program} {C : Ctx} {Q : Exit → St → Prop}
def Rnd (P : Program) (C : Ctx) (Q : Exit → St → Prop) (ks : List Fr) (c : Code) : Nat → St → Prop
  | 0, _ => False
  | n + 1, σ => AK P C Q (.c c) (.cut (Rnd P C Q ks c n) :: ks) σ
theorem AK.rnd {ks : List Fr} {c : Code} {n : Nat} {σ : St} (h : AK P C Q (.c c) (.cut (Rnd P C Q ks c n) :: ks) σ) : Rnd P C Q ks c (n + 1) σ := h
theorem AK.loopN {ks : List Fr} {c : Code} (n : Nat) {σ : St} (h : Rnd P C Q ks c n σ) : AK P C Q (.c (.loop c)) ks σ := by
  have key : ∀ (n : Nat) (σ : St) (a : Act) (w : World), Rnd P C Q ks c n σ → R C σ a w → Code.roundsIn C.F 0 P c (up C (unw P C Q ks)) n a w := by
    intro n
    induction n with
    | zero => intro σ a w h; exact h.elim
    | succ n ih =>
      intro σ a w h hR
      rw [roundsIn_succ]
      refine wpIn_mono (h a w hR) ?_
      rintro e a' w' ⟨σ', h1, h2⟩
      cases e with
      | normal => exact ih σ' a' w' h1 h2
      | _ => exact ⟨σ', h1, h2⟩
  exact fun a w hR => wpIn_loop_rounds n (key n σ a w h hR)
end
end Go.Vm
