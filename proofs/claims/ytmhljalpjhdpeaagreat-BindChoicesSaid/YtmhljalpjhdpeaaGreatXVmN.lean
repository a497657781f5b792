/-
  VM, PART N: a region that draws its order: operations that only add to what is known, in whatever order; behind them those that must come last.
-/
import Derived.Test.YtmhljalpjhdpeaaGreatXVmM
import Derived.Orders
set_option linter.unusedVariables false
set_option linter.unusedSimpArgs false
set_option linter.unusedSectionVars false
set_option linter.deprecated false
namespace Go.Vm
open Go Go.RowKit

/-- What an operation adds: a slot's value, and perhaps an object of the slot's number. -/
structure DF where
  d : Nat
  v : V
  ob : Option Ob

def St.addF (σ : St) (x : DF) : St := match x.ob with
  | none => σ.put x.d x.v
  | some ob => (σ.set x.d ob).put x.d x.v

def hasF (σ : St) (x : DF) : Prop := look σ.fr x.d = some x.v ∧ ∀ ob, x.ob = some ob → look σ.hp x.d = some ob

/-- An operation of a region, run or passed over. -/
def OStep (P : Program) (C : Ctx) (ops : Array Oper) (o : Oper) (σ σ' : St) : Prop :=
  ∀ a w, R C σ a w → ∀ (K : Act → World → Prop) (Q : Exit → Act → World → Prop), (∀ a' w', R C σ' a' w' → K a' w') →
    if Region.wanted o (yielded ops a.tmps) then o.wpIn C.F 0 P a w K Q else K (a.put o.dst undef) w

section
variable {P : Program} {C : Ctx} {ops : Array Oper} {σ σ' : St} {Q : Exit → St → Prop} {o : Oper}
theorem OStep.run (hg : o.guard = none) (h : Stp P C o σ σ') : OStep P C ops o σ σ' := by
  intro a w hR K Q hK
  simp only [Region.wanted, hg, if_true]
  exact h a w hR K Q hK
theorem OStep.runG {j d : Nat} {c t : Bool} (hg : o.guard = some (j, t)) (hj : ((ops[j]?).bind (·.dst)) = some d) (hv : look σ.fr d = some (.b c)) (hc : c = t) (h : Stp P C o σ σ') : OStep P C ops o σ σ' := by
  intro a w hR K Q hK
  subst hc
  simp only [Region.wanted, hg, hR.yielded hj hv, beq_self_eq_true, if_true]
  exact h a w hR K Q hK
theorem OStep.pass {j d t : Nat} {c u : Bool} (hg : o.guard = some (j, u)) (hj : ((ops[j]?).bind (·.dst)) = some d) (hv : look σ.fr d = some (.b c)) (hc : c = !u) (ho : o.dst = some t) (ht : Nat.ble (t + 1) C.n = true) :
    OStep P C ops o σ (σ.put t (.lit undef)) := by
  intro a w hR K Q hK
  simp only [Region.wanted, hg, hR.yielded hj hv]
  rw [if_neg (by subst hc; cases u <;> decide)]
  obtain ⟨φ, hr⟩ := hR
  rw [ho]
  exact hK _ _ ⟨φ, hr.put (Nat.le_of_ble_eq_true ht) (.dat (.lit _))⟩
theorem OStep.passU {j d t : Nat} {u : Bool} (hg : o.guard = some (j, u)) (hj : ((ops[j]?).bind (·.dst)) = some d) (hv : look σ.fr d = some (.lit undef)) (ho : o.dst = some t) (ht : Nat.ble (t + 1) C.n = true) :
    OStep P C ops o σ (σ.put t (.lit undef)) := by
  intro a w hR K Q hK
  simp only [Region.wanted, hg, hR.unyielded hj hv]
  rw [if_neg (by simp)]
  obtain ⟨φ, hr⟩ := hR
  rw [ho]
  exact hK _ _ ⟨φ, hr.put (Nat.le_of_ble_eq_true ht) (.dat (.lit _))⟩

def depB (o : Oper) (j : Nat) : Bool := o.after.toList.any fun e => Region.binds .any e && Nat.beq e.on j
/-- Edges lead to earlier operations. -/
def ordB (ops : Array Oper) : Bool := (List.range ops.size).all fun i => ((ops[i]?).map fun o => o.after.toList.all fun e => !Region.binds .any e || Nat.ble (e.on + 1) i).getD true
/-- From m on each operation comes behind all ahead of it. -/
def lastB (ops : Array Oper) (m : Nat) : Bool := (List.range ops.size).all fun k => Nat.ble (k + 1) m || (List.range k).all fun i => (List.range ops.size).any fun i' => Nat.ble (i + 1) i' && Nat.ble i' k && ((ops[i']?).map (depB · i)).getD false
def nodupN : List Nat → Bool
  | [] => true
  | k :: r => !memB r k && nodupN r

/-- What is known while the operations 0 .. m-1 run in some order. -/
structure Mid (C : Ctx) (base : St) (fs : List DF) (listed : Array Bool) (σ : St) : Prop where
  fr : ∀ t v, look base.fr t = some v → look σ.fr t = some v
  hp : ∀ o ob, look base.hp o = some ob → look σ.hp o = some ob
  did : ∀ (i : Nat) x, fs[i]? = some x → listed[i]? = some true → hasF σ x
  not : ∀ (i : Nat) x, fs[i]? = some x → listed[i]? ≠ some true → look σ.hp x.d = none

theorem ready_iff {listed : Array Bool} {i : Nat} (hs : listed.size = ops.size) : i ∈ Region.ready .any ops listed ↔ ∃ o, ops[i]? = some o ∧ listed[i]? = some false ∧ ∀ e ∈ o.after, Region.binds .any e = true → listed[e.on]? = some true := by
  unfold Region.ready
  rw [List.mem_filter, List.mem_range]
  constructor
  · rintro ⟨hi, h⟩
    rw [Bool.and_eq_true] at h
    obtain ⟨h1, h2⟩ := h
    have hi' : i < listed.size := by omega
    refine ⟨ops[i], Array.getElem?_eq_getElem hi, ?_, ?_⟩
    · rw [Array.getElem?_eq_getElem hi']
      simp [Array.getD, hi'] at h1
      rw [h1]
    · intro e he hb
      simp only [Array.getElem?_eq_getElem hi, Option.map_some, Option.getD_some, Array.all_eq_true_iff_forall_mem] at h2
      have := h2 e he
      simp only [hb, Bool.not_true, Bool.false_or] at this
      by_cases hlt : e.on < listed.size
      · rw [Array.getElem?_eq_getElem hlt]
        simp [Array.getD, hlt] at this
        rw [this]
      · simp [Array.getD, hlt] at this
  · rintro ⟨o, ho, hl, hd⟩
    have hi : i < ops.size := (Array.getElem?_eq_some_iff.1 ho).1
    refine ⟨hi, ?_⟩
    rw [Bool.and_eq_true]
    have hi' : i < listed.size := by omega
    rw [Array.getElem?_eq_getElem hi'] at hl
    refine ⟨by simp [Array.getD, hi', Option.some.inj hl], ?_⟩
    simp only [ho, Option.map_some, Option.getD_some, Array.all_eq_true_iff_forall_mem]
    intro e he
    cases hb : Region.binds .any e with
    | false => rfl
    | true =>
      have := hd e he hb
      obtain ⟨hlt, hv⟩ := Array.getElem?_eq_some_iff.1 this
      simp [Array.getD, hlt, hv]

/-- Listed operations have what they come behind listed too. -/
def Down (ops : Array Oper) (listed : Array Bool) : Prop := ∀ (i : Nat) o, ops[i]? = some o → listed[i]? = some true → ∀ e ∈ o.after, Region.binds .any e = true → listed[e.on]? = some true

theorem Down.set {listed : Array Bool} (hs : listed.size = ops.size) (h : Down ops listed) {i : Nat} (hi : i ∈ Region.ready .any ops listed) : Down ops (listed.setIfInBounds i true) := by
  obtain ⟨o, ho, hl, hd⟩ := (ready_iff hs).1 hi
  have keep : ∀ (k : Nat), listed[k]? = some true → (listed.setIfInBounds i true)[k]? = some true := by
    intro k hk
    rw [Array.getElem?_setIfInBounds]
    split
    · rename_i e; subst e; rw [if_pos (Array.getElem?_eq_some_iff.1 hk).1]
    · exact hk
  intro k o' ho' hk e he hb
  by_cases e1 : i = k
  · subst e1
    rw [ho] at ho'; cases ho'
    exact keep _ (hd e he hb)
  · rw [Array.getElem?_setIfInBounds_ne e1] at hk
    exact keep _ (h k o' ho' hk e he hb)

theorem last_all {m : Nat} (hlast : lastB ops m = true) {listed : Array Bool} (hs : listed.size = ops.size) (hd : Down ops listed) {k : Nat} (hk : k ∈ Region.ready .any ops listed) (hm : m ≤ k) : ∀ i, i < k → listed[i]? = some true := by
  obtain ⟨o, ho, hl, hdk⟩ := (ready_iff hs).1 hk
  have hkn : k < ops.size := (Array.getElem?_eq_some_iff.1 ho).1
  rw [lastB, List.all_eq_true] at hlast
  have h1 := hlast k (List.mem_range.2 hkn)
  rw [Bool.or_eq_true] at h1
  have h2 : (List.range k).all (fun i => (List.range ops.size).any fun i' => Nat.ble (i + 1) i' && Nat.ble i' k && ((ops[i']?).map (depB · i)).getD false) = true := by
    rcases h1 with h | h
    · have := Nat.le_of_ble_eq_true h; omega
    · exact h
  rw [List.all_eq_true] at h2
  -- downward from k
  have key : ∀ n i, k - i = n → i < k → listed[i]? = some true := by
    intro n
    induction n using Nat.strongRecOn with
    | _ n ih =>
      intro i hn hi
      have h3 := h2 i (List.mem_range.2 hi)
      rw [List.any_eq_true] at h3
      obtain ⟨i', hi'm, h4⟩ := h3
      simp only [Bool.and_eq_true] at h4
      obtain ⟨⟨h5, h6⟩, h7⟩ := h4
      have h5 := Nat.le_of_ble_eq_true h5
      have h6 := Nat.le_of_ble_eq_true h6
      have hi'n : i' < ops.size := List.mem_range.1 hi'm
      rw [Array.getElem?_eq_getElem hi'n] at h7
      simp only [Option.map_some, Option.getD_some, depB, List.any_eq_true, Bool.and_eq_true] at h7
      obtain ⟨e, he, hb, hon⟩ := h7
      have he := Array.mem_toList_iff.1 he
      have hon := Nat.eq_of_beq_eq_true hon
      by_cases e1 : i' = k
      · subst e1
        rw [Array.getElem?_eq_getElem hi'n] at ho; cases ho
        rw [← hon]; exact hdk e he hb
      · have hl' := ih (k - i') (by omega) i' rfl (by omega)
        rw [← hon]; exact hd i' _ (Array.getElem?_eq_getElem hi'n) hl' e he hb
  exact fun i hi => key _ i rfl hi

theorem ready_least (hord : ordB ops = true) {listed : Array Bool} (hs : listed.size = ops.size) {k : Nat} (hk : k < ops.size) (hl : listed[k]? ≠ some true) (hall : ∀ i, i < k → listed[i]? = some true) : k ∈ Region.ready .any ops listed := by
  rw [ready_iff hs]
  have hk' : k < listed.size := by omega
  refine ⟨ops[k], Array.getElem?_eq_getElem hk, ?_, fun e he hb => ?_⟩
  · rw [Array.getElem?_eq_getElem hk'] at hl ⊢
    cases h : listed[k] with
    | true => rw [h] at hl; exact absurd rfl hl
    | false => rfl
  · rw [ordB, List.all_eq_true] at hord
    have := hord k (List.mem_range.2 hk)
    simp only [Array.getElem?_eq_getElem hk, Option.map_some, Option.getD_some, List.all_eq_true] at this
    have := this e (Array.mem_toList_iff.2 he)
    simp only [hb, Bool.not_true, Bool.false_or] at this
    exact hall _ (Nat.le_of_ble_eq_true this)

theorem exists_least {listed : Array Bool} (n : Nat) (h : ∃ i, i < n ∧ listed[i]? ≠ some true) : ∃ k, k < n ∧ listed[k]? ≠ some true ∧ ∀ i, i < k → listed[i]? = some true := by
  induction n with
  | zero => obtain ⟨i, hi, _⟩ := h; omega
  | succ n ih =>
    by_cases h' : ∃ i, i < n ∧ listed[i]? ≠ some true
    · obtain ⟨k, h1, h2, h3⟩ := ih h'; exact ⟨k, by omega, h2, h3⟩
    · obtain ⟨i, hi, hn⟩ := h
      have : i = n := by
        rcases Nat.lt_or_ge i n with h | h
        · exact absurd ⟨i, h, hn⟩ h'
        · omega
      subst this
      refine ⟨i, by omega, hn, fun j hj => ?_⟩
      by_cases hj2 : listed[j]? = some true
      · exact hj2
      · exact absurd ⟨j, hj, hj2⟩ h'

/-- The operations from k on, one behind the other. -/
theorem wpAny_last {C : Ctx} {m : Nat} {Q' : Exit → Act → World → Prop} (hord : ordB ops = true) (hlast : lastB ops m = true) : ∀ (fuel k : Nat) (listed : Array Bool) (a : Act) (w : World), fuel = ops.size - k → m ≤ k → k ≤ ops.size → listed.size = ops.size →
    (∀ i, i < k → listed[i]? = some true) → (∀ i, k ≤ i → listed[i]? ≠ some true) → Down ops listed → wpListIn C.F 0 P ops Q' (ops.toList.drop k) a w → wpAnyIn C.F 0 P .any ops Q' fuel listed a w := by
  intro fuel
  induction fuel with
  | zero =>
    intro k listed a w hf hm hk hs h1 h2 hd hw
    have : k = ops.size := by omega
    subst this
    refine ⟨?_, ?_⟩
    · apply List.eq_nil_iff_forall_not_mem.2
      intro i hi
      obtain ⟨o, ho, hl, _⟩ := (ready_iff hs).1 hi
      have hin := (Array.getElem?_eq_some_iff.1 ho).1
      rw [h1 i hin] at hl; cases hl
    · rw [List.drop_of_length_le (by simp)] at hw; exact hw
  | succ fuel ih =>
    intro k listed a w hf hm hk hs h1 h2 hd hw
    have hkn : k < ops.size := by omega
    refine ⟨fun hr => ?_, fun i hi => ?_⟩
    · have := ready_least hord hs hkn (h2 k (Nat.le_refl _)) h1
      rw [hr] at this; cases this
    · obtain ⟨o, ho, hl, _⟩ := (ready_iff hs).1 hi
      have hik : i = k := by
        rcases Nat.lt_trichotomy i k with h | h | h
        · rw [h1 i h] at hl; cases hl
        · exact h
        · exact absurd (last_all hlast hs hd hi (by omega) k h) (h2 k (Nat.le_refl _))
      subst hik
      have hdrop : ops.toList.drop i = o :: ops.toList.drop (i + 1) := by
        rw [List.drop_eq_getElem_cons (by simpa using hkn)]
        congr 1
        rw [Array.getElem?_eq_getElem hkn] at ho
        simpa using Option.some.inj ho
      rw [hdrop] at hw
      unfold wpOpIn
      simp only [ho]
      have next : ∀ a w, wpListIn C.F 0 P ops Q' (ops.toList.drop (i + 1)) a w → wpAnyIn C.F 0 P .any ops Q' fuel (listed.setIfInBounds i true) a w := by
        intro a w hw
        refine ih (i + 1) _ a w (by omega) (by omega) (by omega) (by simpa using hs) (fun j hj => ?_) (fun j hj => ?_) (hd.set hs hi) hw
        · rw [Array.getElem?_setIfInBounds]
          by_cases e : i = j
          · rw [if_pos e, if_pos (by omega)]
          · rw [if_neg e]; exact h1 j (by omega)
        · rw [Array.getElem?_setIfInBounds_ne (by omega)]; exact h2 j (by omega)
      simp only [wpListIn] at hw
      split
      · rename_i hwant
        rw [if_pos hwant] at hw
        exact Oper.wpIn_mono next hw
      · rename_i hwant
        rw [if_neg hwant] at hw
        exact ⟨fun _ _ => trivial, next _ _ hw.2⟩

theorem memB_iff {l : List Nat} {k : Nat} : memB l k = true ↔ k ∈ l := by
  induction l with
  | nil => simp [memB]
  | cons x l ih =>
    simp only [memB, Bool.or_eq_true, ih, List.mem_cons]
    constructor
    · rintro (h | h)
      · exact .inl (Nat.eq_of_beq_eq_true h).symm
      · exact .inr h
    · rintro (h | h)
      · subst h; exact .inl (by simp)
      · exact .inr h
theorem nodupN_iff {l : List Nat} : nodupN l = true ↔ l.Nodup := by
  induction l with
  | nil => simp [nodupN]
  | cons x l ih =>
    simp only [nodupN, Bool.and_eq_true, ih, List.nodup_cons]
    constructor
    · rintro ⟨h1, h2⟩
      refine ⟨fun hm => ?_, h2⟩
      rw [memB_iff.2 hm] at h1; cases h1
    · rintro ⟨h1, h2⟩
      refine ⟨?_, h2⟩
      cases hb : memB l x with
      | false => rfl
      | true => exact absurd (memB_iff.1 hb) h1

/-- A REGION THAT DRAWS ITS ORDER: the operations 0 .. m-1 add to what is known and no more; those from m on come last, one behind the other. -/
theorem AWp.regionD {id m : Nat} (base : St) (fs : List DF) (hmix : P.follows .mixedOrders = true) (hord : ordB ops = true) (hlast : lastB ops m = true) (hmf : fs.length = m) (hmn : Nat.ble m ops.size = true)
    (hnd : nodupN (fs.map (·.d) ++ keys base.fr) = true) (hnh : (fs.all fun x => !memB (keys base.hp) x.d) = true)
    (steps : ∀ (i : Nat) x, fs[i]? = some x → ∃ o, ops[i]? = some o ∧ ∀ σ, (∀ t v, look base.fr t = some v → look σ.fr t = some v) → (∀ p ob, look base.hp p = some ob → look σ.hp p = some ob) →
      (∀ (j : Nat) y, fs[j]? = some y → depB o j = true → hasF σ y) → (look σ.hp x.d = none) → OStep P C ops o σ (σ.addF x))
    (hend : ∀ σ, (∀ t v, look base.fr t = some v → look σ.fr t = some v) → (∀ p ob, look base.hp p = some ob → look σ.hp p = some ob) → (∀ (j : Nat) y, fs[j]? = some y → hasF σ y) → AL P C ops (ops.toList.drop m) σ Q) :
    AWp P C (.region id ops true) base Q := by
  intro a w hR
  have hmn := Nat.le_of_ble_eq_true hmn
  rw [nodupN_iff, List.nodup_append] at hnd
  obtain ⟨hnd1, hnd2, hnd3⟩ := hnd
  rw [List.all_eq_true] at hnh
  refine wpIn_region_any hmix ?_
  have hR' : R C base a { w with drawn := w.drawn + 1 } := by
    obtain ⟨φ, hr⟩ := hR
    exact ⟨φ, hr.step rfl rfl rfl (Nat.le_refl _) (fun _ _ => rfl)⟩
  generalize ({ w with drawn := w.drawn + 1 } : World) = w at hR'
  clear hR
  have key : ∀ (fuel : Nat) (listed : Array Bool) (a : Act) (w : World) (σ : St), (∃ k, fuel = ops.size - k ∧ k = ((List.range m).filter fun i => listed[i]? == some true).length) → listed.size = ops.size → Down ops listed →
      (∀ i, m ≤ i → listed[i]? ≠ some true) → Mid C base fs listed σ → R C σ a w → wpAnyIn C.F 0 P .any ops (up C Q) fuel listed a w := by
    intro fuel
    induction fuel with
    | zero =>
      rintro listed a w σ ⟨k, hf, hk⟩ hs hd hz hmid hR
      -- all are listed
      have hkm : k ≤ m := by rw [hk]; exact Nat.le_trans (List.length_filter_le _ _) (by simp)
      have hall : ∀ i, i < m → listed[i]? = some true := by
        intro i hi
        have : ((List.range m).filter fun i => listed[i]? == some true).length = (List.range m).length := by rw [← hk]; simp; omega
        have := List.length_filter_eq_length_iff.1 this i (List.mem_range.2 hi)
        simpa using this
      refine wpAny_last hord hlast 0 m listed a w (by omega) (Nat.le_refl _) hmn hs hall hz hd ?_
      exact hend σ hmid.fr hmid.hp (fun j y hj => hmid.did j y hj (hall j (by rw [← hmf]; exact (List.getElem?_eq_some_iff.1 hj).1))) a w hR
    | succ fuel ih =>
      rintro listed a w σ ⟨k, hf, hk⟩ hs hd hz hmid hR
      by_cases hall : ∀ i, i < m → listed[i]? = some true
      · have hkm : k = m := by
          rw [hk]
          have : (List.range m).filter (fun i => listed[i]? == some true) = List.range m := by
            rw [List.filter_eq_self]
            intro i hi
            simp [hall i (List.mem_range.1 hi)]
          rw [this]; simp
        refine wpAny_last hord hlast (fuel + 1) m listed a w (by omega) (Nat.le_refl _) hmn hs hall hz hd ?_
        exact hend σ hmid.fr hmid.hp (fun j y hj => hmid.did j y hj (hall j (by rw [← hmf]; exact (List.getElem?_eq_some_iff.1 hj).1))) a w hR
      · have hex : ∃ i, i < m ∧ listed[i]? ≠ some true := by
          apply Classical.byContradiction
          intro h
          exact hall fun i hi => Classical.byContradiction fun hn => h ⟨i, hi, hn⟩
        refine ⟨fun hr => ?_, fun i hi => ?_⟩
        · obtain ⟨k', h1, h2, h3⟩ := exists_least m hex
          have := ready_least hord hs (by omega) h2 h3
          rw [hr] at this; cases this
        · obtain ⟨o, ho, hl, hdeps⟩ := (ready_iff hs).1 hi
          have him : i < m := by
            rcases Nat.lt_or_ge i m with h | h
            · exact h
            · exact absurd (fun j hj => last_all hlast hs hd hi h j (by omega)) hall
          have hif : i < fs.length := by omega
          obtain ⟨o', ho', hstep⟩ := steps i fs[i] (List.getElem?_eq_getElem hif)
          rw [ho] at ho'; cases ho'
          have hlne : listed[i]? ≠ some true := by rw [hl]; simp
          have hfresh := hmid.not i _ (List.getElem?_eq_getElem hif) hlne
          have hos := hstep σ hmid.fr hmid.hp (fun j y hj hdep => by
            simp only [depB, List.any_eq_true, Bool.and_eq_true] at hdep
            obtain ⟨e, he, hb, hon⟩ := hdep
            have he := Array.mem_toList_iff.1 he
            have := hdeps e he hb
            rw [Nat.eq_of_beq_eq_true hon] at this
            exact hmid.did j y hj this) hfresh
          have hin : i < listed.size := by rw [hs]; omega
          have next : ∀ a' w', R C (σ.addF fs[i]) a' w' → wpAnyIn C.F 0 P .any ops (up C Q) fuel (listed.setIfInBounds i true) a' w' := by
            intro a' w' hR'
            -- what the new fact leaves as it was
            have neD : ∀ (j : Nat) y, fs[j]? = some y → j ≠ i → y.d ≠ fs[i].d := by
              intro j y hj hne e
              have hjf := (List.getElem?_eq_some_iff.1 hj).1
              have h1 : (fs.map (·.d))[j]? = some y.d := by simp [hj]
              have h2 : (fs.map (·.d))[i]? = some fs[i].d := by simp [hif]
              rw [e] at h1
              exact hne ((List.getElem?_inj (by simpa using hjf) hnd1).1 (h1.trans h2.symm))
            have memD : fs[i].d ∈ fs.map (·.d) := List.mem_map_of_mem (List.getElem_mem _)
            have frK : ∀ t v, t ≠ fs[i].d → look σ.fr t = some v → look (σ.addF fs[i]).fr t = some v := by
              intro t v hne h
              unfold St.addF
              split
              · show look ((fs[i].d, fs[i].v) :: σ.fr) t = some v
                rw [look_cons_other _ _ (Ne.symm hne)]; exact h
              · show look ((fs[i].d, fs[i].v) :: σ.fr) t = some v
                rw [look_cons_other _ _ (Ne.symm hne)]; exact h
            have hpK : ∀ p, p ≠ fs[i].d → look (σ.addF fs[i]).hp p = look σ.hp p := by
              intro p hne
              unfold St.addF
              split
              · rfl
              · exact σ.look_set_other _ (Ne.symm hne)
            refine ih (listed.setIfInBounds i true) a' w' (σ.addF fs[i]) ⟨k + 1, by omega, ?_⟩ (by simpa using hs) (hd.set hs hi) (fun j hj => ?_) ⟨fun t v h => ?_, fun p ob h => ?_, fun j y hj hlj => ?_, fun j y hj hlj => ?_⟩ hR'
            · -- one more is listed
              have count : ∀ (l : List Nat), l.Nodup → i ∈ l → (l.filter fun j => (listed.setIfInBounds i true)[j]? == some true).length = (l.filter fun j => listed[j]? == some true).length + 1 := by
                intro l
                induction l with
                | nil => intro _ h; cases h
                | cons x l ihl =>
                  intro hnd hm
                  rw [List.nodup_cons] at hnd
                  by_cases e : x = i
                  · subst e
                    have hsame : l.filter (fun j => (listed.setIfInBounds x true)[j]? == some true) = l.filter (fun j => listed[j]? == some true) := by
                      apply List.filter_congr
                      intro j hj
                      have : x ≠ j := fun e => hnd.1 (e ▸ hj)
                      rw [Array.getElem?_setIfInBounds_ne this]
                    rw [List.filter_cons_of_pos (by simp [Array.getElem?_setIfInBounds, hin]), List.filter_cons_of_neg (by rw [hl]; simp), hsame]
                    simp
                  · have hm' : i ∈ l := by
                      rcases List.mem_cons.1 hm with h | h
                      · exact absurd h.symm e
                      · exact h
                    have ihl' := ihl hnd.2 hm'
                    have hx : (listed.setIfInBounds i true)[x]? = listed[x]? := Array.getElem?_setIfInBounds_ne (Ne.symm e)
                    simp only [List.filter_cons, hx]
                    split
                    · simp only [List.length_cons, ihl']
                    · exact ihl'
              rw [count _ List.nodup_range (List.mem_range.2 him), ← hk]
            · rw [Array.getElem?_setIfInBounds_ne (by omega)]; exact hz j hj
            · refine frK t v (fun e => ?_) (hmid.fr t v h)
              exact hnd3 _ memD t (memB_iff.1 (mem_keys h)) e.symm
            · rw [hpK p (fun e => ?_)]
              · exact hmid.hp p ob h
              · have := hnh fs[i] (List.getElem_mem _)
                rw [← e, mem_keys h] at this; cases this
            · by_cases e : i = j
              · subst e
                rw [List.getElem?_eq_getElem hif] at hj; cases hj
                refine ⟨?_, fun ob hob => ?_⟩
                · unfold St.addF
                  split <;> exact look_cons_same _ _ _
                · unfold St.addF
                  rw [hob]; exact look_cons_same _ _ _
              · rw [Array.getElem?_setIfInBounds_ne e] at hlj
                obtain ⟨h1, h2⟩ := hmid.did j y hj hlj
                have hne := neD j y hj (Ne.symm e)
                exact ⟨frK _ _ hne h1, fun ob hob => by rw [hpK _ hne]; exact h2 ob hob⟩
            · have e : i ≠ j := fun e => by
                subst e; exact hlj (by rw [Array.getElem?_setIfInBounds]; simp [hin])
              rw [Array.getElem?_setIfInBounds_ne e] at hlj
              rw [hpK _ (neD j y hj (Ne.symm e))]; exact hmid.not j y hj hlj
          unfold wpOpIn
          simp only [ho]
          have := hos a w hR (wpAnyIn C.F 0 P .any ops (up C Q) fuel (listed.setIfInBounds i true)) (up C Q) next
          split
          · rename_i hw; rw [if_pos hw] at this; exact this
          · rename_i hw; rw [if_neg hw] at this; exact ⟨fun _ _ => trivial, this⟩
  refine key ops.size (Array.replicate ops.size false) a w base ⟨0, by omega, ?_⟩ (by simp) ?_ (fun i _ => ?_) ⟨fun _ _ h => h, fun _ _ h => h, fun i x _ h => ?_, fun i x hx _ => ?_⟩ hR'
  · symm
    rw [List.length_eq_zero_iff, List.filter_eq_nil_iff]
    intro i hi
    simp [Array.getElem?_replicate]
  · intro i o _ h
    simp [Array.getElem?_replicate] at h
  · simp [Array.getElem?_replicate]
  · simp [Array.getElem?_replicate] at h
  · have := hnh x (List.mem_of_getElem? hx)
    cases h : look base.hp x.d with
    | none => rfl
    | some ob => rw [mem_keys h] at this; cases this

theorem tmpL {t : Nat} {v : V} (h : look σ.fr t = some v) : σ.opd (.tmp t) = some v := h
theorem opsC {x : Operand} {r : List Operand} {v : V} {vs : List V} (h : σ.opd x = some v) (hr : σ.opsV r = some vs) : σ.opsV (x :: r) = some (v :: vs) := by simp [St.opsV, h, hr]
theorem opdsC {k : Nat} {x : Operand} {r : List (Nat × Operand)} {v : V} {vs : List (Nat × V)} (h : σ.opd x = some v) (hr : σ.opds r = some vs) : σ.opds ((k, x) :: r) = some ((k, v) :: vs) := by simp [St.opds, h, hr]
/-- The steps of a region, one by one. -/
def stepsOf (P : Program) (C : Ctx) (ops : Array Oper) (base : St) (fs : List DF) : Nat → List DF → Prop
  | _, [] => True
  | i, x :: r => (∃ o, ops[i]? = some o ∧ ∀ σ, (∀ t v, look base.fr t = some v → look σ.fr t = some v) → (∀ p ob, look base.hp p = some ob → look σ.hp p = some ob) →
      (∀ (j : Nat) y, fs[j]? = some y → depB o j = true → hasF σ y) → (look σ.hp x.d = none) → OStep P C ops o σ (σ.addF x)) ∧ stepsOf P C ops base fs (i + 1) r
theorem steps_all {base : St} {fs : List DF} : ∀ (l : List DF) (i : Nat), stepsOf P C ops base fs i l → ∀ (k : Nat) x, l[k]? = some x → ∃ o, ops[i + k]? = some o ∧ ∀ σ, (∀ t v, look base.fr t = some v → look σ.fr t = some v) →
    (∀ p ob, look base.hp p = some ob → look σ.hp p = some ob) → (∀ (j : Nat) y, fs[j]? = some y → depB o j = true → hasF σ y) → (look σ.hp x.d = none) → OStep P C ops o σ (σ.addF x) := by
  intro l
  induction l with
  | nil => intro i _ k x h; simp at h
  | cons y l ih =>
    intro i ⟨h1, h2⟩ k x hk
    cases k with
    | zero => simp at hk; subst hk; exact h1
    | succ k =>
      have := ih (i + 1) h2 k x hk
      rwa [show i + 1 + k = i + (k + 1) by omega] at this
theorem stepsC {base : St} {fs : List DF} {x : DF} {r : List DF} {i : Nat} {o : Oper} (ho : ops[i]? = some o) (h : ∀ σ, (∀ t v, look base.fr t = some v → look σ.fr t = some v) → (∀ p ob, look base.hp p = some ob → look σ.hp p = some ob) →
    (∀ (j : Nat) y, fs[j]? = some y → depB o j = true → hasF σ y) → (look σ.hp x.d = none) → OStep P C ops o σ (σ.addF x)) (hr : stepsOf P C ops base fs (i + 1) r) : stepsOf P C ops base fs i (x :: r) := ⟨⟨o, ho, h⟩, hr⟩
theorem AWp.regionDr {id m : Nat} {base : St} (fs : List DF) (hmix : P.follows .mixedOrders = true) (hord : ordB ops = true) (hlast : lastB ops m = true) (hmf : fs.length = m) (hmn : Nat.ble m ops.size = true)
    (hnd : nodupN (fs.map (·.d) ++ keys base.fr) = true) (hnh : (fs.all fun x => !memB (keys base.hp) x.d) = true) (steps : stepsOf P C ops base fs 0 fs)
    (hend : ∀ σ, (∀ t v, look base.fr t = some v → look σ.fr t = some v) → (∀ p ob, look base.hp p = some ob → look σ.hp p = some ob) → (∀ (j : Nat) y, fs[j]? = some y → hasF σ y) → AL P C ops (ops.toList.drop m) σ Q) :
    AWp P C (.region id ops true) base Q :=
  AWp.regionD base fs hmix hord hlast hmf hmn hnd hnh (fun i x hx => by have := steps_all fs 0 steps i x hx; rwa [Nat.zero_add] at this) hend
end
end Go.Vm
