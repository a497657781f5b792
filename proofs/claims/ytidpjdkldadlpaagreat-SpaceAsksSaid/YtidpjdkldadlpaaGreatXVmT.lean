/-
  VM, PART T: maps whose values are slices of their own (groups).
-/
import Derived.Test.YtidpjdkldadlpaaGreatXVmS
set_option linter.unusedVariables false
set_option linter.unusedSimpArgs false
set_option linter.unusedSectionVars false
set_option linter.deprecated false
namespace Go.Vm
open Go Go.RowKit

/-- A group's rows. -/
def grpV {κ : Type} (e : κ → V) (l : List (κ × List (List V))) : List (V × List (List V)) := l.map fun p => (e p.1, p.2)

/-- One row's block is taken out of the list of all. -/
theorem take_perm : ∀ (bs : List (Option Blk)) (j : Nat) (F : Blk), bs[j]? = some (some F) → (bs.filterMap (Option.map Blk.b)).Perm (F.b :: (bs.set j none).filterMap (Option.map Blk.b)) := by
  intro bs
  induction bs with
  | nil => intro j F h; simp at h
  | cons b bs ih =>
    intro j F h
    match j with
    | 0 => simp at h; subst h; simp
    | j + 1 =>
      have := ih j F (by simpa using h)
      cases b with
      | none => simpa using this
      | some G => simpa using (this.cons G.b).trans (List.Perm.swap _ _ _)
/-- And put back. -/
theorem give_perm (bs : List (Option Blk)) (j : Nat) (F : Blk) (h : bs[j]? = some none) : ((bs.set j (some F)).filterMap (Option.map Blk.b)).Perm (F.b :: bs.filterMap (Option.map Blk.b)) := by
  have hlt := (List.getElem?_eq_some_iff.1 h).1
  have := take_perm (bs.set j (some F)) j F (by simp [hlt])
  have e : (bs.set j (some F)).set j none = bs := by
    rw [List.set_set]
    apply List.ext_getElem?
    intro i
    by_cases e : j = i
    · subst e; rw [h]; simp [hlt]
    · rw [List.getElem?_set_ne e]
  rwa [e] at this

section
variable {P : Program} {K : TypeId} {κ : Type} [DecidableEq κ] {e : κ → V} {val : κ → Value} {I : Nat → Prop} {w : World} {B : Blk} {l : List (κ × List (List V))} {z : Nat} {out : Option V}

theorem grpV_nodup (he : ∀ a b, e a = e b → a = b) : ((grpV e l).map Prod.fst).Nodup ↔ (l.map Prod.fst).Nodup := by
  have : (grpV e l).map Prod.fst = (l.map Prod.fst).map e := by simp [grpV]
  rw [this]
  constructor
  · intro h; exact (List.pairwise_map.1 h).imp fun hab e' => hab (by rw [e'])
  · intro h; exact List.pairwise_map.2 (h.imp fun hab e' => hab (he _ _ e'))

/-- A row of a group, in its keys' own terms. -/
def GrpRow (I : Nat → Prop) (w : World) (z : Nat) (e : κ → V) (val : κ → Value) (out : Option V) (l : List (κ × List (List V))) (x : MapEntry) (E : Option Blk) : Prop :=
  ∃ q ∈ l, x.key = val q.1 ∧ ((∃ F, E = some F ∧ F.more = [] ∧ out ≠ some (e q.1) ∧ RepArr I w F z q.2 ∧ x.val = .slice (some ⟨F.b, F.off, none⟩) q.2.length F.cap) ∨ (E = none ∧ out = some (e q.1)))

/-- What is found of a key. -/
theorem RepGrp.find (hk : KeyOf P K e val) {D : TypeDesc} (hD : P.underlying K = some D) (h : RepGrp I w B z (grpV e l) out) (k : κ) : ∃ (es : Array MapEntry) (clock : Nat) (bs : List (Option Blk)), w.heap[B.b]? = some (.map es clock) ∧ MapKept.Stamped es clock ∧ (l.map Prod.fst).Nodup ∧
    es.size = l.length ∧ bs.length = l.length ∧ B.more = bs.filterMap (Option.map Blk.b) ∧ (B.b :: B.more).Nodup ∧ MapKept.IsKey D (val k) ∧
    (∀ (i : Nat) x E, es[i]? = some x → bs[i]? = some E → GrpRow I w z e val out l x E) ∧ (∀ q ∈ l, ∃ (i : Nat) (x : MapEntry), es[i]? = some x ∧ x.key = val q.1) ∧
    ((mget l k = none ∧ Instr.findNow D (val k) es.toList 0 = some none ∧ ∀ x ∈ es.toList, x.key ≠ val k) ∨
      ∃ j x E rs, mget l k = some rs ∧ Instr.findNow D (val k) es.toList 0 = some (some (j, x.val)) ∧ es[j]? = some x ∧ bs[j]? = some E ∧ x.key = val k ∧ ∀ i y, es[i]? = some y → y.key = val k → i = j) := by
  obtain ⟨es, clock, h1, h2, h3, h4, bs, h5, h6, h7, h8, h9⟩ := h
  obtain ⟨D', hD', hK⟩ := hk.d
  rw [hD] at hD'; cases hD'
  have hn := (grpV_nodup hk.einj).1 h3
  have hl : (grpV e l).length = l.length := by simp [grpV]
  have hrow : ∀ (i : Nat) x E, es[i]? = some x → bs[i]? = some E → GrpRow I w z e val out l x E := fun i x E hi hE => by
    obtain ⟨p, hp, a1, a2⟩ := h8 i x E hi hE
    obtain ⟨q, hq, rfl⟩ := List.mem_map.1 hp
    exact ⟨q, hq, hk.inv _ _ _ _ a1, a2⟩
  have hbs : ∀ i x, es[i]? = some x → ∃ E, bs[i]? = some E := fun i x hi => by
    have hlt : i < bs.length := by rw [h5, ← h4]; exact (Array.getElem?_eq_some_iff.1 hi).1
    exact ⟨_, List.getElem?_eq_getElem hlt⟩
  have hks : ∀ x ∈ es.toList, MapKept.IsKey D x.key := fun x hx => by
    obtain ⟨i, hi⟩ := List.mem_iff_getElem?.1 hx
    rw [Array.getElem?_toList] at hi
    obtain ⟨E, hE⟩ := hbs i x hi
    obtain ⟨q, _, e1, _⟩ := hrow i x E hi hE
    rw [e1]; exact hK _
  refine ⟨es, clock, bs, h1, h2, hn, by rw [h4, hl], by rw [h5, hl], h6, h7, hK k, hrow, fun q hq => ?_, ?_⟩
  · obtain ⟨i, x, hi, a1⟩ := h9 _ (List.mem_map.2 ⟨q, hq, rfl⟩)
    exact ⟨i, x, hi, hk.inv _ _ _ _ a1⟩
  rcases MapKept.findNow_spec (hK k) es.toList 0 hks with ⟨g1, g2⟩ | ⟨j, x, g1, g2, g3⟩
  · refine .inl ⟨?_, g1, g2⟩
    cases hg : mget l k with
    | none => rfl
    | some rs =>
      obtain ⟨i, x, hi, a1⟩ := h9 (e k, rs) (List.mem_map.2 ⟨(k, rs), mget_mem hg, rfl⟩)
      exact absurd (hk.inv _ _ _ _ a1) (g2 x (List.mem_iff_getElem?.2 ⟨i, by rw [Array.getElem?_toList]; exact hi⟩))
  · have g2' : es[j]? = some x := by simpa using g2
    obtain ⟨E, hE⟩ := hbs j x g2'
    obtain ⟨⟨a, rs⟩, hm, e1, _⟩ := hrow j x E g2' hE
    have : a = k := hk.inj _ _ (by rw [← e1, g3])
    subst this
    refine .inr ⟨j, x, E, rs, mget_of_mem hn hm, by simpa using g1, g2', hE, g3, fun i y hy hyk => ?_⟩
    have i1 : (es.toList.map (·.key))[i]? = some (val a) := by simp [List.getElem?_map, hy, hyk]
    have i2 : (es.toList.map (·.key))[j]? = some (val a) := by simp [List.getElem?_map, g2', g3]
    exact (List.getElem?_inj (by simpa using (Array.getElem?_eq_some_iff.1 hy).1) h2.2.2).1 (i1.trans i2.symm)

theorem RepGrp.of (hk : KeyOf P K e val) {es : Array MapEntry} {clock : Nat} {bs : List (Option Blk)} (h1 : w.heap[B.b]? = some (.map es clock)) (h2 : MapKept.Stamped es clock) (h3 : (l.map Prod.fst).Nodup) (h4 : es.size = l.length)
    (h5 : bs.length = l.length) (h6 : B.more = bs.filterMap (Option.map Blk.b)) (h7 : (B.b :: B.more).Nodup) (h8 : ∀ (i : Nat) x E, es[i]? = some x → bs[i]? = some E → GrpRow I w z e val out l x E)
    (h9 : ∀ q ∈ l, ∃ (i : Nat) (x : MapEntry), es[i]? = some x ∧ x.key = val q.1) : RepGrp I w B z (grpV e l) out := by
  have hl : (grpV e l).length = l.length := by simp [grpV]
  refine ⟨es, clock, h1, h2, (grpV_nodup hk.einj).2 h3, by rw [h4, hl], bs, by rw [h5, hl], h6, h7, fun i x E hi hE => ?_, fun p hp => ?_⟩
  · obtain ⟨q, hq, a1, a2⟩ := h8 i x E hi hE
    exact ⟨_, List.mem_map.2 ⟨q, hq, rfl⟩, by rw [a1]; exact hk.dat _ _ _, a2⟩
  · obtain ⟨q, hq, rfl⟩ := List.mem_map.1 hp
    obtain ⟨i, x, hi, a1⟩ := h9 q hq
    exact ⟨i, x, hi, by rw [a1]; exact hk.dat _ _ _⟩
end

/-- Values lead where they led, as long as the blocks' heads stay. -/
theorem Rep.heads {φ φ' : Nat → Option Blk} {I I' : Nat → Prop} {w w' : World} (hφ : ∀ o B, φ o = some B → ∃ B', φ' o = some B' ∧ B'.b = B.b ∧ B'.cap = B.cap ∧ B'.z = B.z ∧ B'.off = B.off) (hI : ∀ k, I k → I' k ∧ w'.heap[k]? = w.heap[k]?)
    {x : Value} {v : V} (h : Rep φ I w x v) : Rep φ' I' w' x v := by
  induction h with
  | dat d => exact .dat (d.mono hI)
  | own0 p => exact .own0 p
  | own p n B1 h1 hn =>
    obtain ⟨B', h2, e1, e2, _, e4⟩ := hφ p B1 h1
    have := Rep.own (φ := φ') (I := I') (w := w') p n B' h2 (by rw [e2]; exact hn)
    rwa [e1, e2, e4] at this
  | loc p i d B1 h1 =>
    obtain ⟨B', h2, e1, _, e3, e4⟩ := hφ p B1 h1
    have := Rep.loc (φ := φ') (I := I') (w := w') p i d B' h2
    rwa [e1, e3, e4] at this
  | map p B1 h1 =>
    obtain ⟨B', h2, e1, _, _⟩ := hφ p B1 h1
    have := Rep.map (φ := φ') (I := I') (w := w') p B' h2
    rwa [e1] at this
  | agg xs cs hs _ ih => exact .agg xs cs hs ih
  | tup xs cs hs _ ih => exact .tup xs cs hs ih
  | ifc t x v _ ih => exact .ifc t x v ih
  | clo fn xs ys vs us h1 h2 _ _ ih1 ih2 => exact .clo fn xs ys vs us h1 h2 ih1 ih2
theorem RepOb.heads {φ φ' : Nat → Option Blk} {I I' : Nat → Prop} {w w' : World} (hφ : ∀ o B, φ o = some B → ∃ B', φ' o = some B' ∧ B'.b = B.b ∧ B'.cap = B.cap ∧ B'.z = B.z ∧ B'.off = B.off) (hI : ∀ k, I k → I' k ∧ w'.heap[k]? = w.heap[k]?)
    {B : Blk} (hB : ∀ k, B.has k → w'.heap[k]? = w.heap[k]?) {ob : Ob} (d : RepOb φ I w B ob) : RepOb φ' I' w' B ob := by
  cases ob with
  | var vs =>
    obtain ⟨cs, E, h1, h2, h0, h3⟩ := d
    exact ⟨cs, E, (hB _ B.self).trans h1, h2, h0, fun j x v hx hv => (h3 j x v hx hv).heads hφ hI⟩
  | lp l K vs q =>
    obtain ⟨tmps, D, rfl, h1, h2, h3, h4⟩ := d
    exact ⟨tmps, D, rfl, h1, (hB _ B.self).trans h2, h3, fun j x v hx hv => (h4 j x v hx hv).heads hφ hI⟩
  | arr z rs => exact RepArr.mono hI (hB _ B.self) d
  | map l => exact RepMap.mono hI (hB _ B.self) d
  | grp z l lk => exact RepGrp.mono hI hB d
  | mapX bm clock L l => exact RepMapX.mono hI (hB _ B.self) d
  | itr bm since seen cur => exact RepItr.mono (hB _ B.self) d
  | itr0 => obtain ⟨s, c, h1⟩ := d; exact ⟨s, c, (hB _ B.self).trans h1.1, h1.2⟩

section
variable {P : Program} {C : Ctx} {σ : St} {o : Oper} {φ : Nat → Option Blk} {a : Act} {w : World} {ops : Array Oper} {c : Code} {Q : Exit → St → Prop}

theorem lt_small {b : Nat} (hp : Nat.ble 100000 b = false) : b < 100000 := by
  rcases Nat.lt_or_ge b 100000 with h | h
  · exact h
  · rw [Nat.ble_eq_true_of_le h] at hp; cases hp

/-- A new map, to be one of groups. -/
theorem Stp.makeGrp {T d : Nat} (z : Nat) (ho : o.op = .makeMap T none) (hd : o.dst = some d) (hn : Nat.ble (d + 1) C.n = true) (hf : look σ.hp d = none) : Stp P C o σ ((σ.set d (.grp z [] none)).put d (.map d)) := by
  refine Stp.val fun φ a w hr => ?_
  refine ⟨.map (some w.heap.size), w.alloc (.map #[] 0), ext φ d ⟨w.heap.size, 0, 0, [], 0⟩, ?_, ?_⟩
  · simp [execOp, ho, Instr.makeMap]
  · rw [hd]
    refine (hr.alloc (cap := 0) (z := 0) hf (C.slot hn) (ob := .grp z [] none) (obj := .map #[] 0) ⟨#[], 0, heap_alloc_new w _, MapKept.stamped_empty 0, by simp, rfl, [], rfl, rfl, by simp, by simp, by simp⟩).put (lt_of_ble hn) ?_
    exact .map d ⟨w.heap.size, 0, 0, [], 0⟩ (ext_same _ _ _)

/-- An object's content said anew, by what it is in memory. -/
theorem RR.say' (h : RR C φ σ a w) {b : Nat} {ob ob' : Ob} (hb : look σ.hp b = some ob) (hs : ∀ B, φ b = some B → RepOb φ (Imm C φ w) w B ob → RepOb φ (Imm C φ w) w B ob') (hne : ∀ z, ob ≠ .arr z []) : RR C φ (σ.set b ob') a w := by
  refine ⟨h.os, h.tape, h.output, h.size, h.kept, h.inj, fun o B hB => ?_, h.lt, h.new, h.stay.set hb, h.tmps, h.defers, h.frame, fun o ob2 hob => ?_⟩
  · by_cases e : o = b
    · subst e; exact ⟨_, σ.look_set_same _ _⟩
    · obtain ⟨ob, h1⟩ := h.dom o B hB; exact ⟨ob, by rw [σ.look_set_other _ (Ne.symm e)]; exact h1⟩
  · by_cases e : o = b
    · subst e; rw [σ.look_set_same] at hob; cases hob
      rcases h.heap o _ hb with ⟨B, hB, hr⟩ | ⟨_, z, h2⟩
      · exact .inl ⟨B, hB, hs B hB hr⟩
      · exact absurd h2 (hne z)
    · rw [σ.look_set_other _ (Ne.symm e)] at hob; exact h.heap o ob2 hob

/-- The blocks of two objects are dealt out anew among them. -/
theorem RR.repart (h : RR C φ σ a w) {φ' : Nat → Option Blk} {σ' : St} {w' : World} {b d : Nat} (hb : b < 100000) (hd : d < 100000) (ho : w'.os = w.os) (ht : w'.tape = w.tape) (hu : w'.output = w.output) (hs : w'.heap.size = w.heap.size)
    (hk : ∀ k, (∀ B, φ b = some B → k ≠ B.b) → w'.heap[k]? = w.heap[k]?) (hot : ∀ o, o ≠ b → o ≠ d → φ' o = φ o)
    (hun : ∀ B' k, φ' b = some B' ∨ φ' d = some B' → B'.has k → ∃ B, (φ b = some B ∨ φ d = some B) ∧ B.has k)
    (hdis : ∀ Bb Bd k, φ' b = some Bb → φ' d = some Bd → Bb.has k → Bd.has k → b = d)
    (hdom : ∀ o B, φ' o = some B → ∃ ob, look σ'.hp o = some ob)
    (hpk : ∀ o ob, 200000 ≤ o → look σ'.hp o = some ob → ∃ ob', look σ.hp o = some ob')
    (hfr : (∀ k, Imm C φ w k → Imm C φ' w' k ∧ w'.heap[k]? = w.heap[k]?) → ∀ t v, look σ'.fr t = some v → ∃ x, a.tmps[t]? = some x ∧ Rep φ' (Imm C φ' w') w' x v)
    (hhp : (∀ k, Imm C φ w k → Imm C φ' w' k ∧ w'.heap[k]? = w.heap[k]?) → (∀ o B k, o ≠ b → φ o = some B → B.has k → w'.heap[k]? = w.heap[k]?) → ∀ o ob, look σ'.hp o = some ob → (∃ B, φ' o = some B ∧ RepOb φ' (Imm C φ' w') w' B ob) ∨ (φ' o = none ∧ ∃ z, ob = .arr z [])) :
    RR C φ' σ' a w' := by
  have own : ∀ o B' k, φ' o = some B' → B'.has k → ∃ o1 B, φ o1 = some B ∧ B.has k ∧ ((o1 = o ∧ o ≠ b ∧ o ≠ d) ∨ ((o = b ∨ o = d) ∧ (o1 = b ∨ o1 = d))) := fun o B' k h1 h2 => by
    by_cases e1 : o = b
    · subst e1
      obtain ⟨B, h3 | h3, h4⟩ := hun B' k (.inl h1) h2
      · exact ⟨_, B, h3, h4, .inr ⟨.inl rfl, .inl rfl⟩⟩
      · exact ⟨_, B, h3, h4, .inr ⟨.inl rfl, .inr rfl⟩⟩
    · by_cases e2 : o = d
      · subst e2
        obtain ⟨B, h3 | h3, h4⟩ := hun B' k (.inr h1) h2
        · exact ⟨_, B, h3, h4, .inr ⟨.inr rfl, .inl rfl⟩⟩
        · exact ⟨_, B, h3, h4, .inr ⟨.inr rfl, .inr rfl⟩⟩
      · rw [hot o e1 e2] at h1; exact ⟨o, B', h1, h2, .inl ⟨rfl, e1, e2⟩⟩
  have hI : ∀ k, Imm C φ w k → Imm C φ' w' k ∧ w'.heap[k]? = w.heap[k]? := fun k hk' => by
    refine ⟨⟨by rw [hs]; exact hk'.1, hk'.2.1, fun o B' h1 h2 => ?_⟩, hk k fun B hB e => hk'.2.2 b B hB (.inl e)⟩
    obtain ⟨o1, B, h3, h4, _⟩ := own o B' k h1 h2
    exact hk'.2.2 o1 B h3 h4
  have hoth : ∀ o B k, o ≠ b → φ o = some B → B.has k → w'.heap[k]? = w.heap[k]? := fun o B k hne h1 h2 => hk k fun B2 hB2 e => hne (h.inj o b B B2 k h1 hB2 h2 (.inl e))
  refine ⟨ho.trans h.os, ht.trans h.tape, hu.trans h.output, by rw [hs]; exact h.size, fun k h1 h2 => ?_, fun o o' B B' k h1 h2 h3 h4 => ?_, hdom, fun o B k h1 h2 => ?_, fun o B k h1 h2 h3 => ?_, ⟨fun o B h1 h2 => ?_, fun o ob B h1 h2 h3 => by rw [hot o (by omega) (by omega)]; obtain ⟨ob', h4⟩ := hpk o ob h1 h2; exact h.stay.2 o ob' B h1 h4 h3⟩, h.tmps, h.defers.mono hI, hfr hI, hhp hI hoth⟩
  · refine (hk k fun B hB e => h2 ((h.lt b B k hB (.inl e)).2 h1)).trans (h.kept k h1 h2)
  · obtain ⟨o1, B1, g1, g2, g3⟩ := own o B k h1 h3
    obtain ⟨o2, B2, g4, g5, g6⟩ := own o' B' k h2 h4
    have e := h.inj o1 o2 B1 B2 k g1 g4 g2 g5
    rcases g3 with ⟨e1, n1, n2⟩ | ⟨e1, e2⟩ <;> rcases g6 with ⟨e3, n3, n4⟩ | ⟨e3, e4⟩
    · rw [← e1, ← e3, e]
    · rcases e4 with e4 | e4 <;> simp_all
    · rcases e2 with e2 | e2 <;> simp_all
    · rcases e1 with rfl | rfl <;> rcases e3 with rfl | rfl
      · rfl
      · exact hdis _ _ k h1 h2 h3 h4
      · exact (hdis _ _ k h2 h1 h4 h3).symm
      · rfl
  · obtain ⟨o1, B1, g1, g2, _⟩ := own o B k h1 h2
    have := h.lt o1 B1 k g1 g2
    exact ⟨by rw [hs]; exact this.1, this.2⟩
  · obtain ⟨o1, B1, g1, g2, g3⟩ := own o B k h1 h2
    refine h.new o1 B1 k g1 g2 ?_
    rcases g3 with ⟨e1, _⟩ | ⟨_, e1 | e1⟩ <;> omega
  · rw [hot o (by omega) (by omega)] at h2; exact h.stay.1 o B h1 h2

/-- A type whose zero value is a nil slice. -/
def nilZ (P : Program) (T : TypeId) : Bool := match P.info? T with
  | some i => match i.zero with
    | some (.slice none 0 0) => true
    | _ => false
  | none => false
theorem nilZ_inv {T : TypeId} (h : nilZ P T = true) : ∃ i, P.info? T = some i ∧ i.zero = some (.slice none 0 0) := by
  unfold nilZ at h
  split at h
  · rename_i i hi
    split at h
    · rename_i hz; exact ⟨i, hi, hz⟩
    · cases h
  · cases h
theorem ZeroIs.sl {T : TypeId} {z : Nat} (h : nilZ P T = true) : ZeroIs P T (.sl z []) := let ⟨i, h1, h2⟩ := nilZ_inv h; ⟨i, _, h1, h2, fun _ _ => .sl0 _ _ _⟩
/-- A type whose zero value is one cell. -/
theorem ZeroIs.one {T : TypeId} {v : Value} (hi : ((P.info? T).bind (·.zero)) = some v) : ZeroIs P T (ofConst v) := by
  obtain ⟨i, h1, h2⟩ := Option.bind_eq_some_iff.1 hi
  exact ⟨i, v, h1, h2, fun _ _ => Dat.const v⟩


/-- The slice that the map holds for a key is taken out of it. -/
theorem Stp.lookupOut {T d b K E z n : Nat} {x y : Operand} {κ : Type} [DecidableEq κ] {e : κ → V} {val : κ → Value} {l : List (κ × List (List V))} {k : κ} {rows : List (List V)} (ho : o.op = .lookup T x y false) (hd : o.dst = some d)
    (hn : Nat.ble (d + 1) C.n = true) (hx : σ.opd x = some (.map b)) (hb : look σ.hp b = some (.grp z (grpV e l) none)) (hy : σ.opd y = some (e k)) (hT : mapT P T = some (K, E)) (hk : KeyOf P K e val)
    (hz : nilZ P E = true) (hpb : Nat.ble 100000 b = false) (hpd : Nat.ble 100000 d = false) (hbd : Nat.beq b d = false) (hrs : (mget l k).getD [] = rows) (hln : rows.length = n) :
    Stp P C o σ ((((σ.kill d).set b (.grp z (grpV e l) (some (e k)))).set d (.arr z rows)).put d (.own d n)) := by
  refine Stp.val fun φ a w hr => ?_
  obtain ⟨B, hB, he⟩ := (hr.opd hx).map_inv
  have hyv : a.eval y = val k := hk.inv _ _ _ _ ((hr.opd hy).toDat (hk.edat k))
  obtain ⟨D, hD, _⟩ := hk.d
  replace hbd : b ≠ d := ne_of_beq (by rw [hbd]; rfl)
  replace hr := hr.kill d
  replace hb : look (σ.kill d).hp b = some (.grp z (grpV e l) none) := look_killHp_some _ _ _ hbd hb
  replace hB : del φ d b = some B := by rw [del_other hbd]; exact hB
  have hfd : del φ d d = none := del_same _ _
  generalize del φ d = φ at *
  generalize σ.kill d = σ at *
  have hlb := lt_small hpb
  have hld := lt_small hpd
  obtain ⟨es, clock, bs, h1, h2, h3, h4, h5, h6, h7, h8, hrow, hall, hcase⟩ := RepGrp.find hk hD (hr.block hB hb) k
  obtain ⟨i, hi, hzx⟩ := nilZ_inv hz
  have others : ∀ {φ' : Nat → Option Blk}, (∀ o B, φ o = some B → ∃ B', φ' o = some B' ∧ B'.b = B.b ∧ B'.cap = B.cap ∧ B'.z = B.z ∧ B'.off = B.off) → (∀ o, o ≠ b → o ≠ d → φ' o = φ o) → (∀ k, Imm C φ w k → Imm C φ' w k ∧ w.heap[k]? = w.heap[k]?) →
      ∀ o ob, o ≠ b → o ≠ d → look σ.hp o = some ob → (∃ B, φ' o = some B ∧ RepOb φ' (Imm C φ' w) w B ob) ∨ (φ' o = none ∧ ∃ z, ob = .arr z []) := fun hh hot hI o ob n1 n2 hob => by
    rcases hr.heap o ob hob with ⟨B1, g1, g2⟩ | ⟨g1, g2⟩
    · exact .inl ⟨B1, by rw [hot o n1 n2]; exact g1, g2.heads hh hI fun _ _ => rfl⟩
    · exact .inr ⟨by rw [hot o n1 n2]; exact g1, g2⟩
  rcases hcase with ⟨g1, g2, g3⟩ | ⟨j, xx, E0, rs, g1, g2, g3, g4, g5, g6⟩
  · rw [g1] at hrs; simp only [Option.getD_none] at hrs; subst hrs
    subst hln
    refine ⟨.slice none 0 0, w, φ, ?_, ?_⟩
    · simp [execOp, ho, he, hyv, Instr.lookup, run_underlying (mapT_inv hT), MapKept.run_getObj_map h1, MapKept.run_checkKey hD h8, MapKept.run_findKey hD g2, zeroValue, typeInfo, hi, hzx]
    · rw [hd]
      have hh : ∀ o B, φ o = some B → ∃ B', φ o = some B' ∧ B'.b = B.b ∧ B'.cap = B.cap ∧ B'.z = B.z ∧ B'.off = B.off := fun o B h => ⟨B, h, rfl, rfl, rfl, rfl⟩
      refine RR.put ?_ (lt_of_ble hn) (.own0 d)
      refine hr.repart hlb hld rfl rfl rfl rfl (fun _ _ => rfl) (fun _ _ _ => rfl) (fun B' k h1 h2 => ⟨B', h1, h2⟩) (fun Bb Bd k u1 u2 => by rw [hfd] at u2; cases u2) (fun o B hB' => ?_) (fun o ob hge ho => ⟨ob, by rwa [St.look_set_other _ _ (by omega), St.look_set_other _ _ (by omega)] at ho⟩) (fun hI t v hv => ?_) (fun hI hoth o ob hob => ?_)
      · by_cases e1 : o = d
        · subst e1; exact ⟨_, St.look_set_same _ _ _⟩
        · by_cases e2 : o = b
          · subst e2; exact ⟨_, by rw [St.look_set_other _ _ (Ne.symm e1)]; exact St.look_set_same _ _ _⟩
          · obtain ⟨ob, h'⟩ := hr.dom o B hB'; exact ⟨ob, by rw [St.look_set_other _ _ (Ne.symm e1), St.look_set_other _ _ (Ne.symm e2)]; exact h'⟩
      · obtain ⟨x, hx, hrp⟩ := hr.frame t v hv
        exact ⟨x, hx, hrp.heads hh hI⟩
      · by_cases e1 : o = d
        · subst e1; rw [St.look_set_same] at hob; cases hob; exact .inr ⟨hfd, z, rfl⟩
        · rw [St.look_set_other _ _ (Ne.symm e1)] at hob
          by_cases e2 : o = b
          · subst e2; rw [St.look_set_same] at hob; cases hob
            refine .inl ⟨B, hB, RepGrp.of hk h1 h2 h3 h4 h5 h6 h7 (fun i x E hi hE => ?_) hall⟩
            obtain ⟨q, hq, a1, ⟨F, a2, a3, a4, a5, a6⟩ | ⟨_, a3⟩⟩ := hrow i x E hi hE
            · refine ⟨q, hq, a1, .inl ⟨F, a2, a3, fun e' => ?_, a5, a6⟩⟩
              have := hk.einj _ _ (Option.some.inj e')
              exact g3 x (List.mem_iff_getElem?.2 ⟨i, by rw [Array.getElem?_toList]; exact hi⟩) (by rw [a1, this])
            · cases a3
          · rw [St.look_set_other _ _ (Ne.symm e2)] at hob
            exact others hh (fun _ _ _ => rfl) hI o ob e2 e1 hob
  · rw [g1] at hrs; simp only [Option.getD_some] at hrs; subst hrs
    obtain ⟨⟨a, rs'⟩, hq, a1, ⟨F, rfl, a3, a4, a5, a6⟩ | ⟨_, a3⟩⟩ := hrow j xx E0 g3 g4
    case inr => cases a3
    have : a = k := hk.inj _ _ (by rw [← a1, g5])
    subst this
    have m1 := mget_of_mem h3 hq
    rw [g1] at m1; cases m1
    subst hln
    have hperm := take_perm bs j F g4
    have hjlt : j < bs.length := (List.getElem?_eq_some_iff.1 g4).1
    have hnd : (B.b :: F.b :: (bs.set j none).filterMap (Option.map Blk.b)).Nodup := by rw [h6] at h7; exact (hperm.cons B.b).nodup_iff.1 h7
    have hnd' : B.b ≠ F.b ∧ B.b ∉ (bs.set j none).filterMap (Option.map Blk.b) ∧ F.b ∉ (bs.set j none).filterMap (Option.map Blk.b) ∧ ((bs.set j none).filterMap (Option.map Blk.b)).Nodup := by
      simp only [List.nodup_cons, List.mem_cons, not_or] at hnd
      exact ⟨hnd.1.1, hnd.1.2, hnd.2.1, hnd.2.2⟩
    let B' : Blk := ⟨B.b, B.cap, B.z, (bs.set j none).filterMap (Option.map Blk.b), B.off⟩
    let φ' := ext (ext φ b B') d F
    have pb : φ' b = some B' := by show ext (ext φ b B') d F b = _; rw [ext_other _ hbd, ext_same]
    have pd : φ' d = some F := ext_same _ _ _
    have hot : ∀ o, o ≠ b → o ≠ d → φ' o = φ o := fun o n1 n2 => by show ext (ext φ b B') d F o = _; rw [ext_other _ n2, ext_other _ n1]
    have hh : ∀ o B, φ o = some B → ∃ B', φ' o = some B' ∧ B'.b = B.b ∧ B'.cap = B.cap ∧ B'.z = B.z ∧ B'.off = B.off := fun o B1 h => by
      by_cases e1 : o = b
      · subst e1; rw [hB] at h; cases h; exact ⟨B', pb, rfl, rfl, rfl, rfl⟩
      · have e2 : o ≠ d := fun e' => by subst e'; rw [hfd] at h; cases h
        exact ⟨B1, by rw [hot o e1 e2]; exact h, rfl, rfl, rfl, rfl⟩
    have hFin : B.has F.b := .inr (by rw [h6]; exact mem_more g4)
    refine ⟨xx.val, w, φ', ?_, ?_⟩
    · simp [execOp, ho, he, hyv, Instr.lookup, run_underlying (mapT_inv hT), MapKept.run_getObj_map h1, MapKept.run_checkKey hD h8, MapKept.run_findKey hD g2]
    · rw [hd, a6]
      refine RR.put ?_ (lt_of_ble hn) (.own d _ F pd a5.2.1)
      refine hr.repart hlb hld rfl rfl rfl rfl (fun _ _ => rfl) hot (fun B1 k u1 u2 => ?_) (fun Bb Bd k u1 u2 u3 u4 => ?_) (fun o B1 hB' => ?_) (fun o ob hge ho => ⟨ob, by rwa [St.look_set_other _ _ (by omega), St.look_set_other _ _ (by omega)] at ho⟩) (fun hI t v hv => ?_) (fun hI hoth o ob hob => ?_)
      · refine ⟨B, .inl hB, ?_⟩
        rcases u1 with u1 | u1
        · rw [pb] at u1; cases u1
          rcases u2 with u2 | u2
          · exact .inl u2
          · exact .inr (by rw [h6]; exact hperm.mem_iff.2 (List.mem_cons_of_mem _ u2))
        · rw [pd] at u1; cases u1
          rcases u2 with u2 | u2
          · rw [u2]; exact hFin
          · rw [a3] at u2; cases u2
      · rw [pb] at u1; cases u1; rw [pd] at u2; cases u2
        exfalso
        have e1 : k = F.b := by
          rcases u4 with u4 | u4
          · exact u4
          · rw [a3] at u4; cases u4
        subst e1
        rcases u3 with u3 | u3
        · exact hnd'.1 u3.symm
        · exact hnd'.2.2.1 u3
      · by_cases e1 : o = d
        · subst e1; exact ⟨_, St.look_set_same _ _ _⟩
        · by_cases e2 : o = b
          · subst e2; exact ⟨_, by rw [St.look_set_other _ _ (Ne.symm e1)]; exact St.look_set_same _ _ _⟩
          · rw [hot o e2 e1] at hB'
            obtain ⟨ob, h'⟩ := hr.dom o B1 hB'; exact ⟨ob, by rw [St.look_set_other _ _ (Ne.symm e1), St.look_set_other _ _ (Ne.symm e2)]; exact h'⟩
      · obtain ⟨x, hx, hrp⟩ := hr.frame t v hv
        exact ⟨x, hx, hrp.heads hh hI⟩
      · by_cases e1 : o = d
        · subst e1; rw [St.look_set_same] at hob; cases hob; exact .inl ⟨F, pd, RepArr.mono hI rfl a5⟩
        · rw [St.look_set_other _ _ (Ne.symm e1)] at hob
          by_cases e2 : o = b
          · subst e2; rw [St.look_set_same] at hob; cases hob
            refine .inl ⟨B', pb, RepGrp.of (bs := bs.set j none) hk h1 h2 h3 h4 (by rw [List.length_set]; exact h5) rfl (List.nodup_cons.2 ⟨hnd'.2.1, hnd'.2.2.2⟩) (fun i x E hi hE => ?_) hall⟩
            by_cases e3 : j = i
            · subst e3
              rw [List.getElem?_set_self hjlt] at hE; cases hE
              rw [g3] at hi; cases hi
              exact ⟨(a, rs), hq, a1, .inr ⟨rfl, rfl⟩⟩
            · rw [List.getElem?_set_ne e3] at hE
              obtain ⟨q, hq', c1, ⟨G, c2, c3, c4, c5, c6⟩ | ⟨_, c3⟩⟩ := hrow i x E hi hE
              · refine ⟨q, hq', c1, .inl ⟨G, c2, c3, fun e' => ?_, RepArr.mono hI rfl c5, c6⟩⟩
                have := hk.einj _ _ (Option.some.inj e')
                exact e3 (g6 i x hi (by rw [c1, this])).symm
              · cases c3
          · rw [St.look_set_other _ _ (Ne.symm e2)] at hob
            exact others hh hot hI o ob e2 e1 hob

/-- And put back, changed. -/
theorem Stp.updateBack {T d b K E z n : Nat} {x y u : Operand} {κ : Type} [DecidableEq κ] {e : κ → V} {val : κ → Value} {l : List (κ × List (List V))} {k : κ} {rows : List (List V)} (lt : κ → κ → Bool) (ho : o.op = .mapUpdate T x y u) (hd : o.dst = none)
    (hx : σ.opd x = some (.map b)) (hb : look σ.hp b = some (.grp z (grpV e l) (some (e k)))) (hy : σ.opd y = some (e k)) (hu : σ.opd u = some (.own d n)) (hdd : look σ.hp d = some (.arr z rows)) (hT : mapT P T = some (K, E)) (hk : KeyOf P K e val)
    (hpb : Nat.ble 100000 b = false) (hpd : Nat.ble 100000 d = false) (hbd : Nat.beq b d = false) (hln : n = rows.length) (hne : rows ≠ []) :
    Stp P C o σ ((σ.kill d).set b (.grp z (grpV e (mset lt l k rows)) none)) := by
  have hord : (σ.kill d).set b (.grp z (grpV e (mset lt l k rows)) none) = (σ.set b (.grp z (grpV e (mset lt l k rows)) none)).kill d := by simp [St.kill, St.set, killHp, hbd, Ob.kill]
  rw [hord]
  refine Stp.skp fun φ a w hr => ?_
  obtain ⟨B, hB, he⟩ := (hr.opd hx).map_inv
  have hyv : a.eval y = val k := hk.inv _ _ _ _ ((hr.opd hy).toDat (hk.edat k))
  obtain ⟨D, hD, _⟩ := hk.d
  replace hbd : b ≠ d := ne_of_beq (by rw [hbd]; rfl)
  have hlb := lt_small hpb
  have hld := lt_small hpd
  obtain ⟨es, clock, bs, h1, h2, h3, h4, h5, h6, h7, h8, hrow, hall, hcase⟩ := RepGrp.find hk hD (hr.block hB hb) k
  have hlt : B.b < w.heap.size := (hr.lt b B _ hB B.self).1
  subst hln
  rcases (hr.opd hu).own_inv with ⟨_, h0⟩ | ⟨E1, hE1, hcap, huv⟩
  · exact absurd (List.length_eq_zero_iff.1 h0) hne
  have harr := hr.block hE1 hdd
  let F : Blk := ⟨E1.b, E1.cap, E1.z, [], E1.off⟩
  have hFB : ∀ k, B.has k → k ≠ F.b := fun k hk' e' => hbd (hr.inj b d B E1 k hB hE1 hk' (.inl e'))
  -- what is written, whatever the entries are
  have write : ∀ (es2 : Array MapEntry) (clock2 : Nat) (bs2 : List (Option Blk)) (l2 : List (κ × List (List V))), MapKept.Stamped es2 clock2 → (l2.map Prod.fst).Nodup → es2.size = l2.length → bs2.length = l2.length →
      (bs2.filterMap (Option.map Blk.b)).Perm (F.b :: B.more) → (∀ (i : Nat) x E, es2[i]? = some x → bs2[i]? = some E → GrpRow (Imm C φ w) w z e val none l2 x E) → (∀ q ∈ l2, ∃ (i : Nat) (x : MapEntry), es2[i]? = some x ∧ x.key = val q.1) →
      ∃ φ', RR C φ' ((σ.set b (.grp z (grpV e l2) none)).kill d) a { w with heap := w.heap.setIfInBounds B.b (.map es2 clock2) } := by
    intro es2 clock2 bs2 l2 s1 s2 s3 s4 s5 s6 s7
    let B' : Blk := ⟨B.b, B.cap, B.z, bs2.filterMap (Option.map Blk.b), B.off⟩
    let φ1 := del φ d
    let φ' := ext φ1 b B'
    have pb : φ' b = some B' := ext_same _ _ _
    have pd : φ' d = none := by show ext (del φ d) b B' d = _; rw [ext_other _ (Ne.symm hbd), del_same]
    have hot : ∀ o, o ≠ b → o ≠ d → φ' o = φ o := fun o n1 n2 => by show ext (del φ d) b B' o = _; rw [ext_other _ n1, del_other n2]
    have hφ1 : ∀ o B, o ≠ d → φ o = some B → φ1 o = some B := fun o B n h => by show del φ d o = _; rw [del_other n]; exact h
    have hh : ∀ o B, φ1 o = some B → ∃ B', φ' o = some B' ∧ B'.b = B.b ∧ B'.cap = B.cap ∧ B'.z = B.z ∧ B'.off = B.off := fun o B1 h => by
      obtain ⟨n1, h⟩ := del_some h
      by_cases e1 : o = b
      · subst e1; rw [hB] at h; cases h; exact ⟨B', pb, rfl, rfl, rfl, rfl⟩
      · exact ⟨B1, by rw [hot o e1 n1]; exact h, rfl, rfl, rfl, rfl⟩
    have hmem : ∀ k, k ∈ bs2.filterMap (Option.map Blk.b) ↔ k = F.b ∨ k ∈ B.more := fun k => by rw [s5.mem_iff, List.mem_cons]
    refine ⟨φ', hr.repart hlb hld rfl rfl rfl (by simp) (fun k hk' => setIfInBounds_other _ (hk' B hB)) hot (fun B1 k u1 u2 => ?_) (fun Bb Bd k u1 u2 => by rw [pd] at u2; cases u2) (fun o B1 hB1 => ?_) (fun o ob hge ho => by obtain ⟨_, ob', h', _⟩ := look_killHp _ _ _ ho; exact ⟨ob', by rwa [St.look_set_other _ _ (by omega)] at h'⟩) (fun hI t v hv => ?_) (fun hI hoth o ob hob => ?_)⟩
    · rcases u1 with u1 | u1
      · rw [pb] at u1; cases u1
        rcases u2 with u2 | u2
        · exact ⟨B, .inl hB, .inl u2⟩
        · rcases (hmem k).1 u2 with u2 | u2
          · exact ⟨E1, .inr hE1, .inl u2⟩
          · exact ⟨B, .inl hB, .inr u2⟩
      · rw [pd] at u1; cases u1
    · have n1 : o ≠ d := fun e' => by subst e'; rw [pd] at hB1; cases hB1
      by_cases e1 : o = b
      · subst e1; exact ⟨_, look_killHp_some _ _ _ n1 (St.look_set_same _ _ _)⟩
      · rw [hot o e1 n1] at hB1
        obtain ⟨ob, h'⟩ := hr.dom o B1 hB1
        exact ⟨_, look_killHp_some _ _ _ n1 (by rw [St.look_set_other _ _ (Ne.symm e1)]; exact h')⟩
    · obtain ⟨v', hv', rfl⟩ := look_killFr _ _ _ hv
      obtain ⟨x, hx, hrp⟩ := hr.frame t v' hv'
      exact ⟨x, hx, ((hrp.kill (φ' := φ1) (I' := Imm C φ w) (w' := w) hφ1 fun k hk => ⟨hk, rfl⟩).heads hh hI)⟩
    · obtain ⟨n1, ob', hob', rfl⟩ := look_killHp _ _ _ hob
      by_cases e1 : o = b
      · subst e1; rw [St.look_set_same] at hob'; cases hob'
        refine .inl ⟨B', pb, RepGrp.of hk (by simp [B', hlt]) s1 s2 s3 s4 rfl ?_ (fun i x E hi hE => ?_) s7⟩
        · have h9 : (B.b :: F.b :: B.more).Nodup := by
            rw [List.nodup_cons] at h7
            refine List.nodup_cons.2 ⟨fun h => ?_, List.nodup_cons.2 ⟨fun h => hFB _ (.inr h) rfl, h7.2⟩⟩
            rcases List.mem_cons.1 h with h | h
            · exact hFB _ B.self h
            · exact h7.1 h
          exact (s5.cons B.b).nodup_iff.2 h9
        · obtain ⟨q, hq, a1, ⟨G, a2, a3, a4, a5, a6⟩ | ⟨_, a3⟩⟩ := s6 i x E hi hE
          · refine ⟨q, hq, a1, .inl ⟨G, a2, a3, a4, RepArr.mono hI (setIfInBounds_other _ ?_) a5, a6⟩⟩
            subst a2
            intro e'
            rcases (hmem G.b).1 (mem_more hE) with h | h
            · exact hFB _ B.self (by rw [← e', h])
            · rw [List.nodup_cons] at h7; exact h7.1 (by rw [← e']; exact h)
          · cases a3
      · rw [St.look_set_other _ _ (Ne.symm e1)] at hob'
        rcases hr.heap o ob' hob' with ⟨B1, u1, u2⟩ | ⟨u1, zz, rfl⟩
        · refine .inl ⟨B1, by rw [hot o e1 n1]; exact u1, ?_⟩
          have u3 := u2.kill (φ' := φ1) (I' := Imm C φ w) (w' := w) hφ1 (fun k hk => ⟨hk, rfl⟩) fun _ _ => rfl
          exact u3.heads hh hI fun k hk' => hoth o B1 k e1 u1 hk'
        · exact .inr ⟨by rw [hot o e1 n1]; exact u1, zz, rfl⟩
  rcases hcase with ⟨g1, g2, g3⟩ | ⟨j, xx, E0, rs, g1, g2, g3, g4, g5, g6⟩
  · have hms : mset lt l k rows = mins lt l k rows := by unfold mset; rw [g1]
    have hmem : ∀ p, p ∈ mins lt l k rows ↔ p = (k, rows) ∨ p ∈ l := fun p => by rw [(mins_perm lt l k rows).mem_iff, List.mem_cons]
    have hlen : (mins lt l k rows).length = l.length + 1 := by rw [(mins_perm lt l k rows).length_eq]; rfl
    obtain ⟨φ', hr'⟩ := write (es.push { key := val k, val := a.eval u, born := clock }) (clock + 1) (bs ++ [some F]) (mset lt l k rows) (MapKept.stamped_push h2 g3) (mset_nodup lt h3) (by rw [hms, hlen]; simp [h4]) (by rw [hms, hlen]; simp [h5])
      (by rw [List.filterMap_append, h6]; exact List.perm_append_comm) (fun i x E hi hE => by
        rw [hms]
        by_cases hil : i < es.size
        · rw [Array.getElem?_push_lt hil] at hi
          rw [List.getElem?_append_left (by omega)] at hE
          obtain ⟨q, hq, a1, ⟨G, a2, a3, a4, a5, a6⟩ | ⟨_, a3⟩⟩ := hrow i x E (by rw [Array.getElem?_eq_getElem hil]; exact hi) hE
          · exact ⟨q, (hmem q).2 (.inr hq), a1, .inl ⟨G, a2, a3, (by simp), a5, a6⟩⟩
          · have := hk.einj _ _ (Option.some.inj a3)
            exact absurd (by rw [a1, this]) (g3 x (List.mem_iff_getElem?.2 ⟨i, by rw [Array.getElem?_toList, Array.getElem?_eq_getElem hil]; exact hi⟩))
        · have : i = es.size := by
            have := (Array.getElem?_eq_some_iff.1 hi).1
            simp at this; omega
          subst this
          rw [Array.getElem?_push_size] at hi; cases hi
          have hsz : es.size = bs.length := by rw [h4, h5]
          rw [hsz, List.getElem?_append_right (Nat.le_refl _)] at hE
          simp at hE; subst hE
          exact ⟨(k, rows), (hmem _).2 (.inl rfl), rfl, .inl ⟨F, rfl, rfl, (by simp), harr, huv⟩⟩)
      (fun q hq => by
        rw [hms] at hq
        rcases (hmem q).1 hq with rfl | hq
        · exact ⟨es.size, _, Array.getElem?_push_size, rfl⟩
        · obtain ⟨i, x, hi, a1⟩ := hall q hq
          have hil := (Array.getElem?_eq_some_iff.1 hi).1
          exact ⟨i, x, by rw [Array.getElem?_push, if_neg (by omega)]; exact hi, a1⟩)
    refine ⟨_, φ', ?_, by rw [hd]; exact hr'⟩
    simp [execOp, ho, he, hyv, Instr.mapUpdate, run_underlying (mapT_inv hT), MapKept.run_getObj_map h1, MapKept.run_checkKey hD h8, MapKept.run_findKey hD g2, MapKept.run_setObj_map _ h1]
  · have hms : mset lt l k rows = mrep l k rows := by unfold mset; rw [g1]
    have hmem := mem_mrep h3 ⟨rs, mget_mem g1⟩ (v := rows)
    have hlen : (mrep l k rows).length = l.length := by have := congrArg List.length (mrep_fst l k rows); simpa using this
    have hjlt : j < es.size := (Array.getElem?_eq_some_iff.1 g3).1
    have hjb : j < bs.length := (List.getElem?_eq_some_iff.1 g4).1
    have hE0 : E0 = none := by
      obtain ⟨q, hq, a1, ⟨G, a2, a3, a4, _⟩ | ⟨a3, _⟩⟩ := hrow j xx E0 g3 g4
      · exact absurd (congrArg (fun u => some (e u)) (hk.inj _ _ (by rw [← a1, g5] : val q.1 = val k)).symm) a4
      · exact a3
    subst hE0
    have hmod : ∀ i : Nat, (es.modify j fun x => { x with key := val k, val := a.eval u })[i]? = if i = j then some { xx with key := val k, val := a.eval u } else es[i]? := fun i => by
      rw [Array.getElem?_modify]
      by_cases hij : j = i
      · subst hij; simp [g3]
      · rw [if_neg hij, if_neg (Ne.symm hij)]
    obtain ⟨φ', hr'⟩ := write (es.modify j fun x => { x with key := val k, val := a.eval u }) clock (bs.set j (some F)) (mset lt l k rows) (MapKept.stamped_modify h2 _ _ (fun _ _ => rfl) fun x _ hx => by rw [g3] at hx; cases hx; exact g5.symm)
      (mset_nodup lt h3) (by rw [hms, Array.size_modify, h4, hlen]) (by rw [hms, List.length_set, h5, hlen]) (by rw [h6]; exact give_perm bs j F g4) (fun i x E hi hE => by
        rw [hms]
        rw [hmod] at hi
        split at hi
        · rename_i hij
          subst hij
          cases hi
          rw [List.getElem?_set_self hjb] at hE; cases hE
          exact ⟨(k, rows), (hmem _).2 (.inl rfl), rfl, .inl ⟨F, rfl, rfl, (by simp), harr, huv⟩⟩
        · rename_i hij
          rw [List.getElem?_set_ne (Ne.symm hij)] at hE
          obtain ⟨q, hq, a1, ⟨G, a2, a3, a4, a5, a6⟩ | ⟨_, a3⟩⟩ := hrow i x E hi hE
          · exact ⟨q, (hmem q).2 (.inr ⟨hq, fun e' => hij (g6 i x hi (by rw [a1, e']))⟩), a1, .inl ⟨G, a2, a3, (by simp), a5, a6⟩⟩
          · have := hk.einj _ _ (Option.some.inj a3)
            exact absurd (g6 i x hi (by rw [a1, this])) hij)
      (fun q hq => by
        rw [hms] at hq
        rcases (hmem q).1 hq with rfl | ⟨hq, hne'⟩
        · exact ⟨j, _, by rw [hmod, if_pos rfl], rfl⟩
        · obtain ⟨i, x, hi, a1⟩ := hall q hq
          have hij : i ≠ j := fun e' => by
            subst e'
            rw [g3] at hi; cases hi
            exact hne' (hk.inj _ _ (by rw [← a1, g5]))
          exact ⟨i, x, by rw [hmod, if_neg hij]; exact hi, a1⟩)
    refine ⟨_, φ', ?_, by rw [hd]; exact hr'⟩
    simp [execOp, ho, he, hyv, Instr.mapUpdate, run_underlying (mapT_inv hT), MapKept.run_getObj_map h1, MapKept.run_checkKey hD h8, MapKept.run_findKey hD g2, MapKept.run_setObj_map _ h1, g3, g5, MapKept.run_keyThatStays h8]

/-- A group, looked at as data from now on. -/
theorem R.grpMap {b z K : Nat} {κ : Type} [DecidableEq κ] {e : κ → V} {val : κ → Value} {l : List (κ × List (List V))} (hk : KeyOf P K e val) (hp : Nat.ble 100000 b = false) (h : R C σ a w) (hb : look σ.hp b = some (.grp z (grpV e l) none)) :
    R C (σ.set b (.map (mapV e (V.sl z) l))) a w := by
  obtain ⟨φ, h⟩ := h
  have hlt : b < 100000 := by
    rcases Nat.lt_or_ge b 100000 with h | h
    · exact h
    · rw [Nat.ble_eq_true_of_le h] at hp; cases hp
  rcases h.heap b _ hb with ⟨B, hB, hrep⟩ | ⟨_, z', h2⟩
  · let B' : Blk := ⟨B.b, B.cap, B.z, [], B.off⟩
    have hB' : ∀ k, B'.has k → k = B.b := fun k hk => hk.elim id (fun h => by cases h)
    have hI : ∀ k, Imm C φ w k → Imm C (ext φ b B') w k ∧ w.heap[k]? = w.heap[k]? := fun k hk => ⟨⟨hk.1, hk.2.1, fun o B1 h1 hh => by
      by_cases e : o = b
      · subst e; rw [ext_same] at h1; cases h1
        exact hk.2.2 o B hB (.inl (hB' k hh))
      · rw [ext_other _ e] at h1; exact hk.2.2 o B1 h1 hh⟩, rfl⟩
    -- a group's arrays are data from now on
    have hmore : ∀ k, k ∈ B.more → k ≠ B.b → Imm C (ext φ b B') w k := fun k hk hne => by
      refine ⟨(h.lt b B k hB (.inr hk)).1, fun hlt' => ?_, fun o B1 h1 hh => ?_⟩
      · have := h.new b B k hB (.inr hk) hlt; omega
      · by_cases e : o = b
        · subst e; rw [ext_same] at h1; cases h1; exact hne (hB' k hh)
        · rw [ext_other _ e] at h1; exact e (h.inj o b B1 B k h1 hB hh (.inr hk))
    have hrepV : ∀ {x : Value} {v : V}, Rep φ (Imm C φ w) w x v → Rep (ext φ b B') (Imm C (ext φ b B') w) w x v := by
      intro x v hr
      induction hr with
      | dat d => exact .dat (d.mono hI)
      | own0 p => exact .own0 p
      | own p n B1 h1 hn =>
        by_cases e : p = b
        · subst e; rw [hB] at h1; cases h1
          exact Rep.own (φ := ext φ p B') p n B' (ext_same _ _ _) hn
        · exact .own p n B1 (by rw [ext_other _ e]; exact h1) hn
      | loc p i d B1 h1 =>
        by_cases e : p = b
        · subst e; rw [hB] at h1; cases h1
          exact Rep.loc (φ := ext φ p B') p i d B' (ext_same _ _ _)
        · exact .loc p i d B1 (by rw [ext_other _ e]; exact h1)
      | map p B1 h1 =>
        by_cases e : p = b
        · subst e; rw [hB] at h1; cases h1
          exact Rep.map (φ := ext φ p B') p B' (ext_same _ _ _)
        · exact .map p B1 (by rw [ext_other _ e]; exact h1)
      | agg xs cs hs _ ih => exact .agg xs cs hs ih
      | tup xs cs hs _ ih => exact .tup xs cs hs ih
      | ifc t x v _ ih => exact .ifc t x v ih
      | clo fn xs ys vs us h1 h2 _ _ ih1 ih2 => exact .clo fn xs ys vs us h1 h2 ih1 ih2
    refine ⟨ext φ b B', h.os, h.tape, h.output, h.size, h.kept, fun o1 o2 B1 B2 k e1 e2 b1 b2 => ?_, fun o B1 h1 => ?_, fun o B1 k h1 hk => ?_, fun o B1 k h1 hk hl => ?_, ⟨fun o B1 hge h1 => ?_, fun o ob B1 hge ho hB1 => by rw [ext_other _ (by omega)]; rw [σ.look_set_other _ (by omega)] at ho; exact h.stay.2 o ob B1 hge ho hB1⟩, h.tmps, h.defers.mono hI, fun t v hv => ?_, fun o ob hob => ?_⟩
    · have up : ∀ o B1, ext φ b B' o = some B1 → B1.has k → ∃ B2, φ o = some B2 ∧ B2.has k := fun o B1 h1 hk => by
        by_cases e : o = b
        · subst e; rw [ext_same] at h1; cases h1; exact ⟨B, hB, .inl (hB' k hk)⟩
        · rw [ext_other _ e] at h1; exact ⟨B1, h1, hk⟩
      obtain ⟨_, u1, u2⟩ := up o1 B1 e1 b1
      obtain ⟨_, u3, u4⟩ := up o2 B2 e2 b2
      exact h.inj o1 o2 _ _ k u1 u3 u2 u4
    · by_cases e : o = b
      · subst e; exact ⟨_, σ.look_set_same _ _⟩
      · rw [ext_other _ e] at h1; obtain ⟨ob, h2⟩ := h.dom o B1 h1; exact ⟨ob, by rw [σ.look_set_other _ (Ne.symm e)]; exact h2⟩
    · by_cases e : o = b
      · subst e; rw [ext_same] at h1; cases h1; exact h.lt o B k hB (.inl (hB' k hk))
      · rw [ext_other _ e] at h1; exact h.lt o B1 k h1 hk
    · by_cases e : o = b
      · subst e; rw [ext_same] at h1; cases h1; exact h.new o B k hB (.inl (hB' k hk)) hl
      · rw [ext_other _ e] at h1; exact h.new o B1 k h1 hk hl
    · rw [ext_other _ (by omega)] at h1; exact h.stay.1 o B1 hge h1
    · obtain ⟨x, hx, hr⟩ := h.frame t v hv
      exact ⟨x, hx, hrepV hr⟩
    · by_cases eo : o = b
      · subst eo; rw [σ.look_set_same] at hob; cases hob
        obtain ⟨es, clock, h1, h2, h3, h4, bs, h5, h6, h7, h8, h9⟩ := hrep
        have hrow : ∀ (i : Nat) (x : MapEntry), es[i]? = some x → ∃ q ∈ l, Dat (Imm C (ext φ o B') w) w x.key (e q.1) ∧ Dat (Imm C (ext φ o B') w) w x.val (.sl z q.2) := fun i x hi => by
          have hlt : i < bs.length := by rw [h5, ← h4]; exact (Array.getElem?_eq_some_iff.1 hi).1
          have hbi : bs[i]? = some bs[i] := List.getElem?_eq_getElem hlt
          obtain ⟨p, hp, a1, ⟨F, a0, _, _, a2, a3⟩ | ⟨_, a2⟩⟩ := h8 i x _ hi hbi
          case inr => cases a2
          rw [a0] at hbi
          obtain ⟨q, hq, rfl⟩ := List.mem_map.1 hp
          refine ⟨q, hq, a1.mono hI, ?_⟩
          rw [a3]
          obtain ⟨b1, b2, b3, cs, E, b4, b5, b6⟩ := a2
          have hin : F.b ∈ B.more := by rw [h6]; exact mem_more hbi
          have hne : F.b ≠ B.b := fun e' => by rw [List.nodup_cons] at h7; exact h7.1 (by rw [← e']; exact hin)
          by_cases h0 : q.2 = []
          · show Dat _ w (.slice _ q.2.length _) _
            rw [h0]; exact .sl0 _ _ _
          · refine .sl F.b F.off q.2.length F.cap z q.2 (fun j => cs.getD (F.off + j) undef) (hmore _ hin hne) rfl b2 b3 (fun j hj => ?_) (fun k r hk j v hj => ?_)
            · have hle2 : q.2.length * z ≤ F.cap * z := Nat.mul_le_mul_right _ b2
              have : F.off + j < cs.size := by omega
              simp [World.cell?, b4, Array.getD, this]
            · obtain ⟨y, hy, hd⟩ := b6 k r hk j v hj
              have : cs.getD (F.off + (k * z + j)) undef = y := by simp [Array.getD_eq_getD_getElem?, hy]
              rw [this]; exact hd.mono hI
        refine .inl ⟨B', ext_same _ _ _, es, clock, h1, h2, (mapV_nodup hk.einj).2 ((grpV_nodup hk.einj).1 h3), by simpa [mapV, grpV] using h4, fun x hx => ?_, fun p hp => ?_⟩
        · obtain ⟨i, hi⟩ := List.mem_iff_getElem?.1 hx
          rw [Array.getElem?_toList] at hi
          obtain ⟨q, hq, c1, c2⟩ := hrow i x hi
          exact ⟨_, List.mem_map.2 ⟨q, hq, rfl⟩, c1, c2⟩
        · obtain ⟨q, hq, rfl⟩ := List.mem_map.1 hp
          obtain ⟨i, x, hi, d1⟩ := h9 (e q.1, q.2) (List.mem_map.2 ⟨q, hq, rfl⟩)
          obtain ⟨q', hq', c1, c2⟩ := hrow i x hi
          have h11 : q'.1 = q.1 := hk.inj _ _ (by rw [← hk.inv _ _ _ _ c1, ← hk.inv _ _ _ _ d1])
          have hn := (grpV_nodup hk.einj).1 h3
          have m1 := mget_of_mem hn (show (q.1, q'.2) ∈ l by rw [← h11]; exact hq')
          have m2 := mget_of_mem hn (show (q.1, q.2) ∈ l from hq)
          have h12 : q'.2 = q.2 := by rw [m1] at m2; exact Option.some.inj m2
          exact ⟨x, List.mem_iff_getElem?.2 ⟨i, by rw [Array.getElem?_toList]; exact hi⟩, by rw [← h11]; exact c1, by rw [← h12]; exact c2⟩
      · rw [σ.look_set_other _ (Ne.symm eo)] at hob
        rcases h.heap o ob hob with ⟨B1, h1, hr⟩ | ⟨h1, h2⟩
        · refine .inl ⟨B1, by rw [ext_other _ eo]; exact h1, ?_⟩
          cases ob with
          | var vs =>
            obtain ⟨cs, E, a1, a2, a0, a3⟩ := hr
            exact ⟨cs, E, a1, a2, a0, fun j x v hx hv => hrepV (a3 j x v hx hv)⟩
          | lp l K vs q =>
            obtain ⟨tmps, D, e0, a1, a2, a3, a4⟩ := hr
            exact ⟨tmps, D, e0, a1, a2, a3, fun j x v hx hv => hrepV (a4 j x v hx hv)⟩
          | arr z rs => exact RepArr.mono hI rfl hr
          | map l => exact RepMap.mono hI rfl hr
          | grp z l lk => exact RepGrp.mono hI (fun _ _ => rfl) hr
          | mapX bm clock L l => exact RepMapX.mono hI rfl hr
          | itr bm since seen cur => exact hr
          | itr0 => exact hr
        · exact .inr ⟨by rw [ext_other _ eo]; exact h1, h2⟩
  · cases h2
end

/-! ### groups of typed rows -/
/-- A group of typed rows. -/
def grpR {κ α : Type} (f : α → List V) (l : List (κ × List α)) : List (κ × List (List V)) := l.map fun p => (p.1, p.2.map f)
def grpT {κ α : Type} (e : κ → V) (f : α → List V) (l : List (κ × List α)) : List (V × List (List V)) := grpV e (grpR f l)
theorem mget_grpR {κ α : Type} [DecidableEq κ] (f : α → List V) (l : List (κ × List α)) (k : κ) : mget (grpR f l) k = (mget l k).map (List.map f) := by
  induction l with
  | nil => rfl
  | cons p l ih => simp only [grpR, List.map_cons, mget] at ih ⊢; split <;> simp_all
theorem mrep_grpR {κ α : Type} [DecidableEq κ] (f : α → List V) (l : List (κ × List α)) (k : κ) (rows : List α) : mrep (grpR f l) k (rows.map f) = grpR f (mrep l k rows) := by
  induction l with
  | nil => rfl
  | cons p l ih => simp only [grpR, List.map_cons, mrep] at ih ⊢; split <;> simp_all
theorem mins_grpR {κ α : Type} (lt : κ → κ → Bool) (f : α → List V) (l : List (κ × List α)) (k : κ) (rows : List α) : mins lt (grpR f l) k (rows.map f) = grpR f (mins lt l k rows) := by
  induction l with
  | nil => rfl
  | cons p l ih => simp only [grpR, List.map_cons, mins] at ih ⊢; split <;> simp_all
theorem mset_grpR {κ α : Type} [DecidableEq κ] (lt : κ → κ → Bool) (f : α → List V) (l : List (κ × List α)) (k : κ) (rows : List α) : mset lt (grpR f l) k (rows.map f) = grpR f (mset lt l k rows) := by
  unfold mset
  rw [mget_grpR]
  cases mget l k with
  | none => exact mins_grpR lt f l k rows
  | some v => exact mrep_grpR f l k rows

section
variable {P : Program} {C : Ctx} {σ : St} {o : Oper} {a : Act} {w : World}
theorem Stp.lookupOutT {T d b K E z n : Nat} {x y : Operand} {κ α : Type} [DecidableEq κ] {e : κ → V} {f : α → List V} {val : κ → Value} {l : List (κ × List α)} {k : κ} {rows : List (List V)} (ho : o.op = .lookup T x y false) (hd : o.dst = some d)
    (hn : Nat.ble (d + 1) C.n = true) (hx : σ.opd x = some (.map b)) (hb : look σ.hp b = some (.grp z (grpT e f l) none)) (hy : σ.opd y = some (e k)) (hT : mapT P T = some (K, E)) (hk : KeyOf P K e val)
    (hz : nilZ P E = true) (hpb : Nat.ble 100000 b = false) (hpd : Nat.ble 100000 d = false) (hbd : Nat.beq b d = false) (hrs : ((mget l k).getD []).map f = rows) (hln : ((mget l k).getD []).length = n) :
    Stp P C o σ ((((σ.kill d).set b (.grp z (grpT e f l) (some (e k)))).set d (.arr z rows)).put d (.own d n)) :=
  Stp.lookupOut ho hd hn hx hb hy hT hk hz hpb hpd hbd (by rw [mget_grpR, ← hrs]; cases mget l k <;> rfl) (by rw [← hrs, List.length_map]; exact hln)
theorem Stp.updateBackT {T d b K E z n : Nat} {x y u : Operand} {κ α : Type} [DecidableEq κ] {e : κ → V} {f : α → List V} {val : κ → Value} {l : List (κ × List α)} {k : κ} (rows : List α) {rs : List (List V)} (lt : κ → κ → Bool) (ho : o.op = .mapUpdate T x y u) (hd : o.dst = none)
    (hx : σ.opd x = some (.map b)) (hb : look σ.hp b = some (.grp z (grpT e f l) (some (e k)))) (hy : σ.opd y = some (e k)) (hu : σ.opd u = some (.own d n)) (hdd : look σ.hp d = some (.arr z rs)) (hT : mapT P T = some (K, E)) (hk : KeyOf P K e val)
    (hpb : Nat.ble 100000 b = false) (hpd : Nat.ble 100000 d = false) (hbd : Nat.beq b d = false) (hrs : rs = rows.map f) (hln : n = rows.length) (hne : rows ≠ []) :
    Stp P C o σ ((σ.kill d).set b (.grp z (grpT e f (mset lt l k rows)) none)) := by
  subst hrs
  show Stp P C o σ ((σ.kill d).set b (.grp z (grpV e (grpR f (mset lt l k rows))) none))
  rw [← mset_grpR]
  exact Stp.updateBack lt ho hd hx hb hy hu hdd hT hk hpb hpd hbd (by rw [List.length_map]; exact hln) (fun h => hne (List.map_eq_nil_iff.1 h))
theorem R.grpMapT {b z K : Nat} {κ α : Type} [DecidableEq κ] {e : κ → V} {f : α → List V} {val : κ → Value} {l : List (κ × List α)} (hk : KeyOf P K e val) (hp : Nat.ble 100000 b = false) (h : R C σ a w) (hb : look σ.hp b = some (.grp z (grpT e f l) none)) :
    R C (σ.set b (.map (mapV e (fun x => V.sl z (x.map f)) l))) a w := by
  have := R.grpMap hk hp h hb
  rwa [show mapV e (V.sl z) (grpR f l) = mapV e (fun x => V.sl z (x.map f)) l by simp [mapV, grpR]] at this
end
end Go.Vm
