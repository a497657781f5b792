/-
  VM, PART W: drawn regions, reckoned; a function's body, entered.
-/
import Derived.Test.YtmhljalpjhdpeaaGreatXVmZ
set_option linter.unusedVariables false
set_option linter.unusedSimpArgs false
set_option linter.unusedSectionVars false
set_option linter.deprecated false
namespace Go.Vm
open Go Go.RowKit

/-! ### small words of the walks -/
theorem idxM {α : Type} {l : List α} {f : α → List V} {j : Int} {x : α} (h : idx l j = some x) : 0 ≤ j ∧ (l.map f)[j.toNat]? = some (f x) := ⟨(idxE h).1, mapGet (idxE h).2⟩
theorem idxOw {α : Type} {l : List α} {j : Int} {x : α} {n : Nat} (h : idx l j = some x) (hn : l.length = n) : 0 ≤ j ∧ j < (n : Int) := by subst hn; exact ⟨(idxE h).1, idxLt h⟩
theorem and2_0 {a b : Bool} (h : (a && b) = true) : a = true := (Bool.and_eq_true _ _ ▸ h).1
theorem and2_1 {a b : Bool} (h : (a && b) = true) : b = true := (Bool.and_eq_true _ _ ▸ h).2
theorem and3_0 {a b c : Bool} (h : (a && b && c) = true) : a = true := and2_0 (and2_0 h)
theorem and3_1 {a b c : Bool} (h : (a && b && c) = true) : b = true := and2_1 (and2_0 h)
theorem and3_2 {a b c : Bool} (h : (a && b && c) = true) : c = true := and2_1 h
theorem and4_0 {a b c d : Bool} (h : (a && b && c && d) = true) : a = true := and2_0 (and2_0 (and2_0 h))
theorem and4_1 {a b c d : Bool} (h : (a && b && c && d) = true) : b = true := and2_1 (and2_0 (and2_0 h))
theorem and4_2 {a b c d : Bool} (h : (a && b && c && d) = true) : c = true := and2_1 (and2_0 h)
theorem and4_3 {a b c d : Bool} (h : (a && b && c && d) = true) : d = true := and2_1 h
theorem Bnd.none_ {σ : St} {n m : Nat} (h : n = m) : Bnd σ n .none m := h ▸ Bnd.no
theorem sayLen {α : Type} {l : List α} {h d : Nat} (hl : h ≤ l.length) : V.own d h = V.own d (l.take h).length := by rw [List.length_take, Nat.min_eq_left hl]
theorem appLim {α β : Type} {us : List α} {y : List β} {n : Nat} (h : decide (n + y.length ≤ 4294967296) = true) (e : us.length = y.length) : decide (n + us.length ≤ 4294967296) = true := by rw [e]; exact h
theorem appLn {α β : Type} {us : List α} {l y : List β} (e : us.length = y.length) : l.length + us.length = (l ++ y).length := by rw [e]; simp
theorem frzL {rs : List (List V)} {n : Nat} (h : rs.length = n) : n ≤ rs.length ∧ rs.take n = rs := by subst h; exact ⟨Nat.le_refl _, List.take_length⟩
def ltI (a b : Int) : Bool := decide (a < b)
def ltS (a b : ByteArray) : Bool := decide (a.data.toList.map UInt8.toNat < b.data.toList.map UInt8.toNat)

/-- What operation o may know of: the newest first; i: how many there are. -/
def findF (o : Oper) (t : Nat) : List DF → Nat → Option DF
  | x :: r, i + 1 => bif Nat.beq x.d t && depB o i then some x else findF o t r i
  | _, _ => none
def envF (base : St) (fs : List DF) (i : Nat) (o : Oper) : Operand → Option V
  | .tmp t => match look base.fr t with
    | some v => some v
    | none => match findF o t fs i with
      | some x => some x.v
      | none => none
  | x => base.opd x
def envH (base : St) (fs : List DF) (i : Nat) (o : Oper) (b : Nat) : Option Ob := match look base.hp b with
  | some ob => some ob
  | none => match findF o b fs i with
    | some x => x.ob
    | none => none

def drawRun (P : Program) (C : Ctx) (T : Tab) (n : Nat) (ops : Array Oper) (base : St) : List (Hint × Option (List (Option Nat) × V)) → List Oper → List DF → Nat → Prop → Option (List DF × Prop)
  | [], _, fs, _, φ => some (fs, φ)
  | (h, sv) :: hs, o :: l, fs, i, φ => match wantB ops o (fun t => envF base fs i o (.tmp t)) with
    | some true => match o.dst with
      | some d => bif Nat.ble (d + 1) n then match ev1 P C T h o d (envF base fs i o) (envH base fs i o) with
        | some ⟨v, ob, q⟩ => match sv with
          | none => drawRun P C T n ops base hs l (⟨d, v, ob⟩ :: fs) (i + 1) (addφ φ q)
          | some (ms, u) => drawRun P C T n ops base hs l (⟨d, u, ob⟩ :: fs) (i + 1) (addφ φ q ∧ v.denil ms = u)
        | none => none
        else none
      | none => none
    | some false => match o.dst with
      | some d => bif Nat.ble (d + 1) n then drawRun P C T n ops base hs l (⟨d, .lit undef, none⟩ :: fs) (i + 1) φ else none
      | none => none
    | none => none
  | _ :: _, [], _, _, _ => none

def objsOf : List DF → List (Nat × Ob)
  | [] => []
  | x :: r => match x.ob with
    | some ob => (x.d, ob) :: objsOf r
    | none => objsOf r
def St.addFs (σ : St) (fs : List DF) : St := ⟨fs.map (fun x => (x.d, x.v)) ++ σ.fr, objsOf fs ++ σ.hp⟩

section
variable {P : Program} {C : Ctx} {T : Tab} {Q : Exit → St → Prop} {n : Nat} {ops : Array Oper} {base : St}

theorem findF_inv {o : Oper} {t : Nat} : ∀ {fs : List DF} {i : Nat} {x : DF}, i = fs.length → findF o t fs i = some x → ∃ j, fs.reverse[j]? = some x ∧ depB o j = true ∧ x.d = t := by
  intro fs
  induction fs with
  | nil => intro i x hi h; subst hi; cases h
  | cons y fs ih =>
    intro i x hi h
    subst hi
    rw [List.length_cons, findF] at h
    cases hb : (Nat.beq y.d t && depB o fs.length) with
    | true =>
      rw [hb] at h; cases h
      rw [Bool.and_eq_true] at hb
      exact ⟨fs.length, by simp, hb.2, Nat.eq_of_beq_eq_true hb.1⟩
    | false =>
      rw [hb] at h
      obtain ⟨j, h1, h2, h3⟩ := ih rfl h
      refine ⟨j, ?_, h2, h3⟩
      have hj := (List.getElem?_eq_some_iff.1 h1).1
      rw [List.reverse_cons, List.getElem?_append_left hj]; exact h1

theorem OStep.denil {o : Oper} {σ : St} {d : Nat} {v : V} {ob : Option Ob} {ms : List (Option Nat)} (h : OStep P C ops o σ (σ.addF ⟨d, v, ob⟩)) : OStep P C ops o σ (σ.addF ⟨d, v.denil ms, ob⟩) := by
  intro a w hR K Q hK
  refine h a w hR K Q fun a' w' ⟨φ, hr⟩ => hK a' w' ⟨φ, ?_⟩
  cases ob with
  | none => exact RR.putDenil (σ := σ) hr
  | some ob => exact RR.putDenil (σ := σ.set d ob) hr

theorem drawRun_sound (ok : TabOk P T) (hn : C.n = n) : ∀ (hs : List (Hint × Option (List (Option Nat) × V))) {l : List Oper} {fs : List DF} {i : Nat} {φ φ' : Prop} {fs' : List DF}, drawRun P C T n ops base hs l fs i φ = some (fs', φ') → i = fs.length → l = ops.toList.drop i → φ' →
    φ ∧ fs'.length = i + hs.length ∧ ∃ r, fs'.reverse = fs.reverse ++ r ∧ stepsOf P C ops base fs'.reverse i r := by
  intro hs
  induction hs with
  | nil => intro l fs i φ φ' fs' h hi hl hφ; cases h; exact ⟨hφ, by simp [hi], [], by simp, trivial⟩
  | cons hh hs ih =>
    intro l fs i φ φ' fs' h hi hl hφ
    obtain ⟨h0, sv⟩ := hh
    cases l with
    | nil => cases h
    | cons o l =>
      have ho : ops[i]? = some o := by
        have := congrArg (fun x => x[0]?) hl
        simpa using this.symm
      have hl' : l = ops.toList.drop (i + 1) := by
        have := congrArg List.tail hl
        simpa using this
      -- what the operation may know, holds
      have env : ∀ {r : List DF} {σ : St}, fs'.reverse = fs.reverse ++ r → (∀ t v, look base.fr t = some v → look σ.fr t = some v) → (∀ p ob, look base.hp p = some ob → look σ.hp p = some ob) →
          (∀ (j : Nat) y, fs'.reverse[j]? = some y → depB o j = true → hasF σ y) → (∀ x u, envF base fs i o x = some u → σ.opd x = some u) ∧ ∀ b u, envH base fs i o b = some u → look σ.hp b = some u := by
        intro r σ hr hb hh hd
        have dep : ∀ {t : Nat} {x : DF}, findF o t fs i = some x → hasF σ x ∧ x.d = t := fun hf => by
          obtain ⟨j, h1, h2, h3⟩ := findF_inv hi hf
          exact ⟨hd j _ (by rw [hr, List.getElem?_append_left (List.getElem?_eq_some_iff.1 h1).1]; exact h1) h2, h3⟩
        refine ⟨fun x u hx => ?_, fun b u hx => ?_⟩
        · cases x with
          | tmp t =>
            simp only [envF] at hx
            split at hx
            · rename_i v hv; cases hx; exact hb _ _ hv
            · split at hx
              · rename_i y hy; cases hx; obtain ⟨h1, h2⟩ := dep hy; subst h2; exact h1.1
              · cases hx
          | const v => exact hx
          | global g => exact hx
          | func f => exact hx
        · simp only [envH] at hx
          split at hx
          · rename_i v hv; cases hx; exact hh _ _ hv
          · split at hx
            · rename_i y hy; obtain ⟨h1, h2⟩ := dep hy; subst h2; exact h1.2 _ hx
            · cases hx
      have fin : ∀ {x : DF} {φ0 : Prop}, drawRun P C T n ops base hs l (x :: fs) (i + 1) φ0 = some (fs', φ') → (φ0 → φ ∧ ∀ σ, (∀ x u, envF base fs i o x = some u → σ.opd x = some u) → (∀ b u, envH base fs i o b = some u → look σ.hp b = some u) → look σ.hp x.d = none → OStep P C ops o σ (σ.addF x)) →
          φ ∧ fs'.length = i + (hs.length + 1) ∧ ∃ r, fs'.reverse = fs.reverse ++ r ∧ stepsOf P C ops base fs'.reverse i r := by
        intro x φ0 h hstep
        obtain ⟨h1, h2, r, h3, h4⟩ := ih h (by simp [hi]) hl' hφ
        obtain ⟨h5, h6⟩ := hstep h1
        have h7 : fs'.reverse = fs.reverse ++ (x :: r) := by rw [h3]; simp
        refine ⟨h5, by omega, x :: r, h7, ⟨⟨o, ho, fun σ hb hh hd hf => ?_⟩, h4⟩⟩
        obtain ⟨e1, e2⟩ := env h7 hb hh hd
        exact h6 σ e1 e2 hf
      rw [drawRun] at h
      have want : ∀ {b : Bool} {σ : St}, wantB ops o (fun t => envF base fs i o (.tmp t)) = some b → (∀ x u, envF base fs i o x = some u → σ.opd x = some u) → wantB ops o (look σ.fr) = some b := by
        intro b σ hw hx
        unfold wantB at hw ⊢
        cases hg : o.guard with
        | none => simp only [hg] at hw ⊢; exact hw
        | some p =>
          obtain ⟨j, t⟩ := p
          simp only [hg] at hw ⊢
          cases hj : ops[j]? with
          | none => simp only [hj] at hw; cases hw
          | some oj =>
            simp only [hj] at hw ⊢
            cases hd : oj.dst with
            | none => simp only [hd] at hw; cases hw
            | some d =>
              simp only [hd] at hw ⊢
              cases hf : envF base fs i o (.tmp d) with
              | none => simp only [hf] at hw; cases hw
              | some v =>
                have : look σ.fr d = some v := hx (.tmp d) _ hf
                simp only [hf] at hw
                simp only [this]
                exact hw
      split at h
      · rename_i hw
        split at h
        · rename_i d hd
          replace h := bifS h; obtain ⟨e1, h⟩ := h
          rw [← hn] at e1
          have stp : ∀ {v : V} {ob : Option Ob} {q : Option Prop} {σ : St}, ev1 P C T h0 o d (envF base fs i o) (envH base fs i o) = some ⟨v, ob, q⟩ → Rs.holds ⟨v, ob, q⟩ → (∀ x u, envF base fs i o x = some u → σ.opd x = some u) → (∀ b u, envH base fs i o b = some u → look σ.hp b = some u) →
              look σ.hp d = none → OStep P C ops o σ (σ.addF ⟨d, v, ob⟩) := fun {v ob q σ} he hq hx hh hf => by
            have hs : Stp P C o σ (σ.addF ⟨d, v, ob⟩) := ev1_sound ok hd e1 hx hh he hq (fun _ => hf)
            rcases wantB_inv (want hw hx) with ⟨hg, _⟩ | ⟨j, t, d', hg, hj, ⟨u, hu, hb⟩ | ⟨_, hb⟩⟩
            · exact OStep.run hg hs
            · exact OStep.runG hg hj hu (by simpa using hb.symm) hs
            · cases hb
          split at h
          · rename_i v ob q he
            split at h
            · exact fin h fun h0 => let ⟨a, b⟩ := addφ_inv h0; ⟨a, fun σ hx hh hf => stp he b hx hh hf⟩
            · exact fin h fun h0 => by
                obtain ⟨h1, h2⟩ := h0
                subst h2
                obtain ⟨a, b⟩ := addφ_inv h1
                exact ⟨a, fun σ hx hh hf => (stp he b hx hh hf).denil⟩
          · cases h
        · cases h
      · rename_i hw
        split at h
        · rename_i d hd
          replace h := bifS h; obtain ⟨e1, h⟩ := h
          rw [← hn] at e1
          refine fin h fun h0 => ⟨h0, fun σ hx hh hf => ?_⟩
          rcases wantB_inv (want hw hx) with ⟨_, hb⟩ | ⟨j, t, d', hg, hj, ⟨u, hu, hb⟩ | ⟨hu, _⟩⟩
          · cases hb
          · have : u = !t := by cases u <;> cases t <;> first | rfl | cases hb
            exact OStep.pass hg hj hu this hd e1
          · exact OStep.passU hg hj hu hd e1
        · cases h
      · cases h

theorem look_fs {σ : St} : ∀ {fs : List DF}, (∀ (j : Nat) y, fs[j]? = some y → hasF σ y) → SubFr σ.fr (fs.map (fun x => (x.d, x.v))) ∧ SubHp σ.hp (objsOf fs) := by
  intro fs
  induction fs with
  | nil => intro _; exact ⟨trivial, trivial⟩
  | cons x fs ih =>
    intro h
    obtain ⟨a, b⟩ := ih fun j y hj => h (j + 1) y hj
    have hx := h 0 x rfl
    refine ⟨⟨hx.1, a⟩, ?_⟩
    rw [objsOf]
    split
    · rename_i ob ho; exact ⟨hx.2 _ ho, b⟩
    · exact b
theorem SubFr.app {fr : List (Nat × V)} : ∀ {l m : List (Nat × V)}, SubFr fr l → SubFr fr m → SubFr fr (l ++ m) := by
  intro l
  induction l with
  | nil => intro m _ h; exact h
  | cons p l ih => intro m h h'; exact ⟨h.1, ih h.2 h'⟩
theorem SubHp.app {hp : List (Nat × Ob)} : ∀ {l m : List (Nat × Ob)}, SubHp hp l → SubHp hp m → SubHp hp (l ++ m) := by
  intro l
  induction l with
  | nil => intro m _ h; exact h
  | cons p l ih => intro m h h'; exact ⟨h.1, ih h.2 h'⟩
theorem subFrOf {fr : List (Nat × V)} : ∀ {l : List (Nat × V)}, nodupN (keys l) = true → (∀ t v, look l t = some v → look fr t = some v) → SubFr fr l := by
  intro l
  induction l with
  | nil => intro _ _; trivial
  | cons p l ih =>
    obtain ⟨k, u⟩ := p
    intro hn h
    rw [keys, nodupN, Bool.and_eq_true, Bool.not_eq_true'] at hn
    refine ⟨h k u (look_cons_same _ _ _), ih hn.2 fun t v hl => h t v ?_⟩
    have : k ≠ t := fun e => by subst e; rw [mem_keys hl] at hn; cases hn.1
    rw [look_cons_other _ _ this]; exact hl
theorem subHpOf {fr : List (Nat × Ob)} : ∀ {l : List (Nat × Ob)}, nodupN (keys l) = true → (∀ t v, look l t = some v → look fr t = some v) → SubHp fr l := by
  intro l
  induction l with
  | nil => intro _ _; trivial
  | cons p l ih =>
    obtain ⟨k, u⟩ := p
    intro hn h
    rw [keys, nodupN, Bool.and_eq_true, Bool.not_eq_true'] at hn
    refine ⟨h k u (look_cons_same _ _ _), ih hn.2 fun t v hl => h t v ?_⟩
    have : k ≠ t := fun e => by subst e; rw [mem_keys hl] at hn; cases hn.1
    rw [look_cons_other _ _ this]; exact hl

/-- What is asked of a drawn region, by the kernel alone. -/
def drawB (ops : Array Oper) (m : Nat) : Bool := ordB ops && lastB ops m && Nat.ble m ops.size
def freshB (base : St) (fs : List DF) : Bool := nodupN (fs.reverse.map (·.d) ++ keys base.fr) && (fs.reverse.all fun x => !memB (keys base.hp) x.d) && nodupN (keys base.fr) && nodupN (keys base.hp) && St.closed (base.addFs fs)

/-- A DRAWN REGION. -/
theorem AK.draw {id : Nat} {ks : List Fr} (ok : TabOk P T) (hn : C.n = n) (hmix : P.follows .mixedOrders = true) (m : Nat) (hs : List (Hint × Option (List (Option Nat) × V))) {fs : List DF} {φ : Prop} (e : drawRun P C T n ops base hs ops.toList [] 0 True = some (fs, φ)) (hφ : φ)
    (hm : hs.length = m) (hd : drawB ops m = true) (hf : freshB base fs = true) (k : AK P C Q (.o ops (ops.toList.drop m)) ks (base.addFs fs)) : AK P C Q (.c (.region id ops true)) ks base := by
  simp only [drawB, freshB, Bool.and_eq_true] at hd hf
  obtain ⟨⟨h1, h2⟩, h3⟩ := hd
  obtain ⟨⟨⟨⟨h4, h5⟩, h6⟩, h7⟩, h8⟩ := hf
  obtain ⟨_, h9, r, h10, h11⟩ := drawRun_sound ok hn hs e rfl rfl hφ
  simp only [List.reverse_nil, List.nil_append] at h10
  subst h10
  refine AWp.regionDr (m := m) fs.reverse hmix h1 h2 (by simp; omega) h3 h4 h5 h11 fun σ hb hh hd => ?_
  refine AL.weaken (fun a w hR => ?_) k
  have hall : ∀ (j : Nat) y, fs[j]? = some y → hasF σ y := fun j y hj => by
    have hlt := (List.getElem?_eq_some_iff.1 hj).1
    refine hd (fs.length - 1 - j) y ?_
    rw [List.getElem?_reverse (by omega), show fs.length - 1 - (fs.length - 1 - j) = j by omega]; exact hj
  obtain ⟨a1, a2⟩ := look_fs hall
  exact hR.to (a1.app (subFrOf h6 hb)) (a2.app (subHpOf h7 hh)) h8

/-- A function's body, entered. -/
theorem ACalls.walk {f : FuncId} {fn : Func} {c : Code} {args : List V} {hs : List (Nat × Ob)} {post : V → List (Nat × Ob) → Prop} (n : Nat) (hf : P.funcs[f]? = some fn) (hb : fn.body = some c) (hn : fn.ntmps = n)
    (hle : (Nat.ble args.length n && Nat.ble n 200000) = true) (h : ∀ C : Ctx, C.n = n → AK P C (retQ P fn.results.toList post) (.c c) [] ⟨frOf 0 args, hs⟩) : ACalls P f args hs post := by
  rw [Bool.and_eq_true] at hle
  exact ACalls.enter hf hb hn hle.1 hle.2 fun C h1 _ => h C h1
/-- One in which there is a loop over a function. -/
theorem ACalls.walkR {f : FuncId} {fn : Func} {c : Code} {args : List V} {hs : List (Nat × Ob)} {post : V → List (Nat × Ob) → Prop} (n : Nat) (hf : P.funcs[f]? = some fn) (hb : fn.body = some c) (hn : fn.ntmps = n)
    (hle : (Nat.ble args.length n && Nat.ble n 200000) = true) (h : ∀ C : Ctx, C.n = n → C.rnd = none → AK P C (retQ P fn.results.toList post) (.c c) [] ⟨frOf 0 args, hs⟩) : ACalls P f args hs post := by
  rw [Bool.and_eq_true] at hle
  exact ACalls.enter hf hb hn hle.1 hle.2 h
theorem gives {r : V} {outs hs : List (Nat × Ob)} (h : SubHp hs outs) : Gives r outs r hs := ⟨rfl, fun _ _ e => h.look _ _ e⟩
theorem retN {C : Ctx} {rv : List ResultVar} {post : V → List (Nat × Ob) → Prop} {σ : St} (vs : List V) (h : Res P σ rv vs) (hp : post (retV vs) σ.hp) : AK P C (retQ P rv post) (.x .normal) [] σ := AK.done ⟨vs, h, hp⟩
theorem retR {C : Ctx} {rv : List ResultVar} {post : V → List (Nat × Ob) → Prop} {σ : St} (vs : List V) (h : Res P σ rv vs) (hp : post (retV vs) σ.hp) : AK P C (retQ P rv post) (.x .ret) [] σ := AK.done ⟨vs, h, hp⟩
end
theorem viewMap {α : Type} {f : α → List V} {l : List α} {n : Nat} (h : n = l.length) : n ≤ (l.map f).length ∧ (l.map f).take n = l.map f := by
  subst h; exact ⟨by simp, List.take_of_length_le (by simp)⟩
end Go.Vm
