/-
  VM, PART S: slices of slices and strings; interface values, function values.
-/
import Derived.Test.YtidpjdkldadlpaaGreatXVmQ
set_option linter.unusedVariables false
set_option linter.unusedSimpArgs false
set_option linter.unusedSectionVars false
set_option linter.deprecated false
namespace Go.Vm
open Go Go.RowKit

/-- A bound of a slice: said, or not. -/
inductive Bnd (σ : St) (dflt : Nat) : Option Operand → Nat → Prop where
  | no : Bnd σ dflt none dflt
  | val {x : Operand} {k : IntKind} {n : Int} {l : Nat} : σ.opd x = some (.i k n) → 0 ≤ n → n.toNat = l → Bnd σ dflt (some x) l

section
variable {P : Program} {C : Ctx} {σ : St} {o : Oper} {φ : Nat → Option Blk} {a : Act} {w : World}

theorem run_sliceBound' {k : IntKind} {i : Int} {y : Nat} {code : BoundsCode} (h0 : 0 ≤ i) (h1 : i.toNat ≤ y) : (Instr.sliceBound (.int k i) y code).run P w = .ok i.toNat w := by
  have : 0 ≤ i ∧ i ≤ (y : Int) := ⟨h0, by omega⟩
  simp [Instr.sliceBound, asIntOf, this]

theorem run_bounds (hr : RR C φ σ a w) {lo hi : Option Operand} {l h len cap : Nat} {b : Bool} (hl : Bnd σ 0 lo l) (hh : Bnd σ len hi h) (h1 : l ≤ h) (h2 : h ≤ cap) :
    (Instr.sliceBounds b len cap (lo.map a.eval) (hi.map a.eval) none).run P w = .ok (l, h, cap) w := by
  cases hl with
  | no =>
    cases hh with
    | no => simp [Instr.sliceBounds]
    | val e1 e2 e3 => subst e3; simp [Instr.sliceBounds, (hr.opd e1).i_inv, run_sliceBound' e2 h2]
  | val e1 e2 e3 =>
    subst e3
    cases hh with
    | no => simp [Instr.sliceBounds, (hr.opd e1).i_inv, run_sliceBound' e2 h1]
    | val f1 f2 f3 => subst f3; simp [Instr.sliceBounds, (hr.opd e1).i_inv, run_sliceBound' e2 h1, (hr.opd f1).i_inv, run_sliceBound' f2 h2]

/-- A piece of data. -/
theorem Stp.sliceD {T d l h e z by_ : Nat} {x : Operand} {lo hi : Option Operand} {rows us : List (List V)} (ho : o.op = .slice T x lo hi none) (hd : o.dst = some d) (hn : Nat.ble (d + 1) C.n = true) (hx : σ.opd x = some (.sl z rows))
    (hT : elemSz P T = some (e, z, by_)) (hl : Bnd σ 0 lo l) (hh : Bnd σ rows.length hi h) (h1 : l ≤ h) (h2 : h ≤ rows.length) (hu : (rows.drop l).take (h - l) = us) : Stp P C o σ (σ.put d (.sl z us)) := by
  refine Stp.same hd hn fun φ a w hr => ?_
  subst hu
  obtain ⟨hu, i, hi', hiz, _⟩ := elemSz_inv hT
  rcases (hr.opd hx).sl_inv with ⟨a0, cap, he, rfl⟩ | ⟨b, off, cap, he, hI, hcap, hok, c, hc, hdat⟩
  · have h0 : h = 0 := by simpa using h2
    subst h0
    have l0 : l = 0 := by omega
    subst l0
    refine ⟨.slice (if cap = 0 then a0 else a0.map (·.add (0 * i.size))) 0 cap, ?_, .dat (.sl0 _ _ _)⟩
    have hh' : Bnd σ 0 hi 0 := hh
    simp [execOp, ho, he, Instr.sliceAt, Instr.slice, run_underlying hu, run_bounds hr hl hh' h1 (by simp : 0 ≤ cap), sizeOf, typeInfo, hi']
  · refine ⟨.slice (if cap = l then some ⟨b, off, none⟩ else some ((⟨b, off, none⟩ : Addr).add (l * i.size))) (h - l) (cap - l), ?_, .dat ?_⟩
    · simp only [execOp, ho, he, Instr.sliceAt, Instr.slice, run_underlying hu, Option.map_none, run_bounds hr hl hh h1 (by omega : h ≤ cap), sizeOf, typeInfo, hi', Sem.run_bind, Sem.run_pure, run_program, Result.andThen_ok, Option.map_some, Option.map_none]
    · by_cases hlh : h - l = 0
      · rw [hlh]; simp only [List.take_zero]; exact .sl0 _ _ _
      · have hcl : cap ≠ l := by omega
        rw [if_neg hcl, hiz, Addr.add_lit]
        refine .sl b (off + l * z) (h - l) (cap - l) z _ (fun j => c (l * z + j)) hI (by simp; omega) (by omega) (fun r hr' => hok r (List.mem_of_mem_drop (List.mem_of_mem_take hr'))) (fun j hj => ?_) (fun k r hk j v hj => ?_)
        · have hle : l * z + (h - l) * z ≤ rows.length * z := by rw [← Nat.add_mul]; exact Nat.mul_le_mul_right _ (by omega)
          have := hc (l * z + j) (by omega)
          rw [Nat.add_assoc]; exact this
        · rw [List.getElem?_take] at hk
          split at hk
          · rw [List.getElem?_drop] at hk
            have := hdat (l + k) r hk j v hj
            rw [Nat.add_mul] at this
            rw [← Nat.add_assoc]; exact this
          · cases hk

theorem RR.shrink (h : RR C φ σ a w) {b z : Nat} {rs : List (List V)} (hb : look σ.hp b = some (.arr z rs)) (n : Nat) : RR C φ (σ.set b (.arr z (rs.take n))) a w := by
  refine ⟨h.os, h.tape, h.output, h.size, h.kept, h.inj, fun o B hB => ?_, h.lt, h.new, h.stay.set hb, h.tmps, h.defers, h.frame, fun o ob hob => ?_⟩
  · by_cases e : o = b
    · subst e; exact ⟨_, σ.look_set_same _ _⟩
    · obtain ⟨ob, h1⟩ := h.dom o B hB; exact ⟨ob, by rw [σ.look_set_other _ (Ne.symm e)]; exact h1⟩
  · by_cases e : o = b
    · subst e; rw [σ.look_set_same] at hob; cases hob
      rcases h.heap o _ hb with ⟨B, hB, h1, h2, h3, cs, E, h4, h5, h6⟩ | ⟨h1, z', h2⟩
      · refine .inl ⟨B, hB, h1, by simp; omega, fun r hr => h3 r (List.mem_of_mem_take hr), cs, E, h4, h5, fun i r hi => ?_⟩
        rw [List.getElem?_take] at hi
        split at hi
        · exact h6 i r hi
        · cases hi
      · cases h2; exact .inr ⟨h1, z, by simp⟩
    · rw [σ.look_set_other _ (Ne.symm e)] at hob; exact h.heap o ob hob

/-- The first rows of an own array. -/
theorem Stp.sliceO {T d b n h e z by_ : Nat} {x : Operand} {lo hi : Option Operand} {rs us : List (List V)} (ho : o.op = .slice T x lo hi none) (hd : o.dst = some d) (hn : Nat.ble (d + 1) C.n = true) (hx : σ.opd x = some (.own b n))
    (hb : look σ.hp b = some (.arr z rs)) (hT : elemSz P T = some (e, z, by_)) (hl : Bnd σ 0 lo 0) (hh : Bnd σ n hi h) (h2 : h ≤ n) (hu : rs.take h = us) : Stp P C o σ ((σ.set b (.arr z us)).put d (.own b h)) := by
  refine Stp.val fun φ a w hr => ?_
  subst hu
  obtain ⟨hu, i, hi', hiz, _⟩ := elemSz_inv hT
  have hs := hr.shrink hb h
  rcases (hr.opd hx).own_inv with ⟨he, rfl⟩ | ⟨B, hB, hcap, he⟩
  · have h0 : h = 0 := by omega
    subst h0
    refine ⟨.slice none 0 0, w, φ, ?_, by rw [hd]; exact hs.put (lt_of_ble hn) (.own0 b)⟩
    simp [execOp, ho, he, Instr.sliceAt, Instr.slice, run_underlying hu, run_bounds hr hl hh (by omega) (by omega : 0 ≤ 0), sizeOf, typeInfo, hi']
  · refine ⟨.slice (some ⟨B.b, B.off, none⟩) h B.cap, w, φ, ?_, by rw [hd]; exact hs.put (lt_of_ble hn) (.own b h B hB (by omega))⟩
    simp only [execOp, ho, he, Instr.sliceAt, Instr.slice, run_underlying hu, run_bounds hr hl hh (by omega) (by omega : h ≤ B.cap), sizeOf, typeInfo, hi', Sem.run_bind, Sem.run_pure, run_program, Result.andThen_ok, Option.map_some, Option.map_none, Nat.zero_mul, Addr.add_lit, Nat.add_zero, ite_self, Nat.sub_zero]

/-- An array is taken from a later row on; what led to it is not known any more. -/
theorem RR.rebase (h : RR C φ σ a w) {b : Nat} {B B' : Blk} (hB : φ b = some B) (hb2 : b < 200000) (hb : B'.b = B.b) (hm : B'.more = B.more) (ob : Ob) (hob : RepOb (ext φ b B') (Imm C φ w) w B' ob) :
    RR C (ext φ b B') ((σ.kill b).set b ob) a w := by
  have hh : ∀ k, B'.has k ↔ B.has k := fun k => by unfold Blk.has; rw [hb, hm]
  have old : ∀ o B1, ext φ b B' o = some B1 → ∃ B2, φ o = some B2 ∧ ∀ k, B1.has k ↔ B2.has k := fun o B1 h1 => by
    by_cases e : o = b
    · subst e; rw [ext_same] at h1; cases h1; exact ⟨B, hB, hh⟩
    · rw [ext_other _ e] at h1; exact ⟨B1, h1, fun _ => Iff.rfl⟩
  have hImm : ∀ k, Imm C (ext φ b B') w k ↔ Imm C φ w k := fun k => by
    unfold Imm
    refine and_congr_right fun _ => and_congr_right fun _ => ⟨fun h1 o B1 h2 => ?_, fun h1 o B1 h2 => ?_⟩
    · by_cases e : o = b
      · subst e; rw [hB] at h2; cases h2; rw [← hh]; exact h1 o B' (ext_same _ _ _)
      · exact h1 o B1 (by rw [ext_other _ e]; exact h2)
    · obtain ⟨B2, h3, h4⟩ := old o B1 h2
      rw [h4]; exact h1 o B2 h3
  have hI : ∀ k, Imm C φ w k → Imm C (ext φ b B') w k ∧ w.heap[k]? = w.heap[k]? := fun k hk => ⟨(hImm k).2 hk, rfl⟩
  have hφ : ∀ o B1, o ≠ b → φ o = some B1 → ext φ b B' o = some B1 := fun o B1 e h1 => by rw [ext_other _ e]; exact h1
  refine ⟨h.os, h.tape, h.output, h.size, h.kept, fun o o' B1 B2 k h1 h2 h3 h4 => ?_, fun o B1 h1 => ?_, fun o B1 k h1 h2 => ?_, fun o B1 k h1 h2 h3 => ?_, ⟨fun o B1 hge h1 => ?_, fun o ob' B1 hge ho h1 => ?_⟩, h.tmps, h.defers.mono hI, fun t v hv => ?_, fun o ob' hob' => ?_⟩
  · obtain ⟨C1, c1, c2⟩ := old o B1 h1
    obtain ⟨C2, c3, c4⟩ := old o' B2 h2
    exact h.inj o o' C1 C2 k c1 c3 ((c2 k).1 h3) ((c4 k).1 h4)
  · by_cases e : o = b
    · subst e; exact ⟨ob, St.look_set_same _ _ _⟩
    · rw [ext_other _ e] at h1
      obtain ⟨ob', h'⟩ := h.dom o B1 h1
      exact ⟨_, by rw [St.look_set_other _ _ (Ne.symm e)]; exact look_killHp_some _ _ _ e h'⟩
  · obtain ⟨C1, c1, c2⟩ := old o B1 h1
    exact h.lt o C1 k c1 ((c2 k).1 h2)
  · obtain ⟨C1, c1, c2⟩ := old o B1 h1
    exact h.new o C1 k c1 ((c2 k).1 h2) h3
  · rw [ext_other _ (by omega)] at h1; exact h.stay.1 o B1 hge h1
  · have e : o ≠ b := by omega
    rw [St.look_set_other _ _ (Ne.symm e)] at ho
    obtain ⟨_, ob2, h2, _⟩ := look_killHp _ _ _ ho
    rw [ext_other _ e]; exact h.stay.2 o ob2 B1 hge h2 h1
  · obtain ⟨v', hv', rfl⟩ := look_killFr _ _ _ hv
    obtain ⟨x, hx, hr⟩ := h.frame t v' hv'
    exact ⟨x, hx, hr.kill hφ hI⟩
  · by_cases e : o = b
    · subst e; rw [St.look_set_same] at hob'; cases hob'
      exact .inl ⟨B', ext_same _ _ _, hob.mono (fun _ _ h => h) hI fun _ _ => rfl⟩
    · rw [St.look_set_other _ _ (Ne.symm e)] at hob'
      obtain ⟨hne, ob2, hob2, rfl⟩ := look_killHp _ _ _ hob'
      rcases h.heap o ob2 hob2 with ⟨B1, hB1, hr⟩ | ⟨h1, z, rfl⟩
      · exact .inl ⟨B1, hφ o B1 e hB1, hr.kill hφ hI fun _ _ => rfl⟩
      · exact .inr ⟨by rw [ext_other _ e]; exact h1, z, rfl⟩

/-- The rows of an own array from some row on. -/
theorem Stp.sliceT {T d b n l h m e z by_ : Nat} {x : Operand} {lo hi : Option Operand} {rs us : List (List V)} (ho : o.op = .slice T x lo hi none) (hd : o.dst = some d) (hn : Nat.ble (d + 1) C.n = true) (hx : σ.opd x = some (.own b n))
    (hb : look σ.hp b = some (.arr z rs)) (hb1 : Nat.ble 200000 b = false) (hT : elemSz P T = some (e, z, by_)) (hl : Bnd σ 0 lo l) (hh : Bnd σ n hi h) (h1 : l ≤ h) (h2 : h ≤ n) (hu : (rs.drop l).take (h - l) = us) (hm : h - l = m) : Stp P C o σ (σ.app b z d m us) := by
  refine Stp.val fun φ a w hr => ?_
  subst hu hm
  have hb2 : b < 200000 := by
    rcases Nat.lt_or_ge b 200000 with h | h
    · exact h
    · rw [Nat.ble_eq_true_of_le h] at hb1; cases hb1
  obtain ⟨hu, i, hi', hiz, _⟩ := elemSz_inv hT
  rcases (hr.opd hx).own_inv with ⟨he, rfl⟩ | ⟨B, hB, hcap, he⟩
  · have h0 : h = 0 := by omega
    have l0 : l = 0 := by omega
    subst h0 l0
    refine ⟨.slice none 0 0, w, φ, ?_, ?_⟩
    · simp [execOp, ho, he, Instr.sliceAt, Instr.slice, run_underlying hu, run_bounds hr hl hh (by omega) (by omega : 0 ≤ 0), sizeOf, typeInfo, hi']
    · rw [hd]
      have := hr.reset b (.arr z []) ⟨_, hb⟩ (by
        rcases hr.heap b _ hb with ⟨B, hB, hrep⟩ | hn
        · left
          obtain ⟨e1, e2, e3, cs, E, e4, e5, e6⟩ := hrep
          exact ⟨B, hB, e1, Nat.zero_le _, by simp, cs, E, e4, e5, by simp⟩
        · exact .inr ⟨hn.1, z, rfl⟩)
      simpa [St.app] using this.put (lt_of_ble hn) (.own0 b)
  · have hrep := hr.block hB hb
    obtain ⟨e1, e2, e3, cs, E, e4, e5, e6⟩ := hrep
    by_cases hcl : B.cap = l
    · -- nothing is left
      have hrl : rs.drop l = [] := List.drop_eq_nil_of_le (by omega)
      have hhl : h = l := by omega
      subst hhl
      have hcap0 : B.cap - h = 0 := by omega
      refine ⟨.slice (some ⟨B.b, B.off, none⟩) 0 0, w, ext φ b { B with cap := 0 }, ?_, ?_⟩
      · simp only [execOp, ho, he, Instr.sliceAt, Instr.slice, run_underlying hu, run_bounds hr hl hh h1 (by omega : h ≤ B.cap), sizeOf, typeInfo, hi', Sem.run_bind, Sem.run_pure, run_program, Result.andThen_ok, Option.map_some, Option.map_none]
        simp [hcl]
      · rw [hd, hrl, Nat.sub_self]
        simp only [List.take_nil]
        exact (hr.rebase (B' := { B with cap := 0 }) hB hb2 rfl rfl (.arr z []) ⟨e1, Nat.zero_le _, by simp, cs, E, e4, by simp; omega, by simp⟩).put (lt_of_ble hn) (.own b 0 { B with cap := 0 } (ext_same _ _ _) (Nat.le_refl _))
    · subst e1
      let B' : Blk := { B with off := B.off + l * B.z, cap := B.cap - l }
      refine ⟨.slice (some ⟨B.b, B.off + l * B.z, none⟩) (h - l) (B.cap - l), w, ext φ b B', ?_, ?_⟩
      · simp only [execOp, ho, he, Instr.sliceAt, Instr.slice, run_underlying hu, run_bounds hr hl hh h1 (by omega : h ≤ B.cap), sizeOf, typeInfo, hi', Sem.run_bind, Sem.run_pure, run_program, Result.andThen_ok, Option.map_some, Option.map_none, if_neg hcl, hiz, Addr.add_lit]
      · rw [hd]
        have hmul : l * B.z + (B.cap - l) * B.z = B.cap * B.z := by rw [← Nat.add_mul]; congr 1; omega
        refine (hr.rebase (B' := B') hB hb2 rfl rfl (.arr B.z ((rs.drop l).take (h - l))) ⟨rfl, by simp [B']; omega, fun r hr' => e3 r (List.mem_of_mem_drop (List.mem_of_mem_take hr')), cs, E, e4, by simp only [B']; omega, fun k r hk j v hj => ?_⟩).put (lt_of_ble hn) (.own b (h - l) B' (ext_same _ _ _) (by simp only [B']; omega))
        rw [List.getElem?_take] at hk
        split at hk
        · rw [List.getElem?_drop] at hk
          obtain ⟨y, hy, hD⟩ := e6 (l + k) r hk j v hj
          refine ⟨y, ?_, hD⟩
          rw [← hy]; simp only [B']; congr 1; rw [Nat.add_mul]; omega
        · cases hk

/-- A type that is no interface. -/
def concB (P : Program) (T : TypeId) : Bool := match P.underlying T with
  | some (.interface _) => false
  | some _ => true
  | none => false
theorem concB_inv {T : TypeId} (h : concB P T = true) : ∃ D, P.underlying T = some D ∧ ∀ m, D ≠ .interface m := by
  unfold concB at h
  split at h
  · cases h
  · rename_i D hne he; exact ⟨D, he, fun m e => hne m (by rw [e])⟩
  · cases h

theorem Stp.makeInterface {T d : Nat} {x : Operand} {v : V} (ho : o.op = .makeInterface T x) (hd : o.dst = some d) (hn : Nat.ble (d + 1) C.n = true) (hx : σ.opd x = some v) (hT : concB P T = true) : Stp P C o σ (σ.put d (.ifc T v)) := by
  refine Stp.same hd hn fun φ a w hr => ⟨.iface T (a.eval x), ?_, .ifc T _ _ (hr.opd hx)⟩
  obtain ⟨D, hD, hne⟩ := concB_inv hT
  have : (Instr.makeInterface T (a.eval x)).run P w = .ok (.iface T (a.eval x)) w := by
    simp only [Instr.makeInterface, Sem.run_bind, run_underlying hD, Result.andThen_ok]
    cases D <;> first | rfl | exact absurd rfl (hne _)
  simp only [execOp, ho, Sem.run_bind, this, Result.andThen_ok, Sem.run_pure]

theorem Stp.typeAssert {T S d : Nat} {x : Operand} {v : V} (ho : o.op = .typeAssert x S T false) (hd : o.dst = some d) (hn : Nat.ble (d + 1) C.n = true) (hx : σ.opd x = some (.ifc T v)) (hT : concB P T = true) : Stp P C o σ (σ.put d v) := by
  refine Stp.same hd hn fun φ a w hr => ?_
  obtain ⟨y, he, hy⟩ := (hr.opd hx).ifc_inv
  refine ⟨y, ?_, hy⟩
  obtain ⟨D, hD, hne⟩ := concB_inv hT
  have : (Instr.typeAssert (.iface T y) S T false).run P w = .ok y w := by
    simp only [Instr.typeAssert, Sem.run_bind, run_underlying hD, Result.andThen_ok]
    cases D <;> first | simp | exact absurd rfl (hne _)
  simp only [execOp, ho, he, Sem.run_bind, this, Result.andThen_ok, Sem.run_pure]

theorem Stp.nilCheckL {d b i k : Nat} {x : Operand} (ho : o.op = .nilCheck x) (hd : o.dst = some d) (hn : Nat.ble (d + 1) C.n = true) (hx : σ.opd x = some (.loc b i k)) : Stp P C o σ (σ.put d (.loc b i k)) := by
  refine Stp.same hd hn fun φ a w hr => ⟨a.eval x, ?_, hr.opd hx⟩
  obtain ⟨B, hB, he⟩ := (hr.opd hx).loc_inv
  simp [execOp, ho, he]

theorem Stp.makeFunc {d : Nat} {fn : Fn} {first caps : Array Operand} {vs us : List V} (ho : o.op = .makeFunc fn first caps) (hd : o.dst = some d) (hn : Nat.ble (d + 1) C.n = true) (h1 : σ.opsV first.toList = some vs) (h2 : σ.opsV caps.toList = some us) :
    Stp P C o σ (σ.put d (.clo fn vs us)) := by
  refine Stp.same hd hn fun φ a w hr => ?_
  obtain ⟨a1, a2⟩ := hr.opsV _ _ h1
  obtain ⟨b1, b2⟩ := hr.opsV _ _ h2
  refine ⟨.func fn (first.map a.eval) (caps.map a.eval), by simp [execOp, ho, Instr.makeFunc], .clo fn _ _ _ _ (by simpa using a1) (by simpa using b1) (fun j x v hx hv => ?_) fun j x v hx hv => ?_⟩
  · rw [Array.getElem?_map, Option.map_eq_some_iff] at hx
    obtain ⟨y, hy, rfl⟩ := hx
    exact a2 j y v (by simpa using hy) hv
  · rw [Array.getElem?_map, Option.map_eq_some_iff] at hx
    obtain ⟨y, hy, rfl⟩ := hx
    exact b2 j y v (by simpa using hy) hv
end
end Go.Vm
