/-
  VM, PART 3: slices.Sort of numbers, by the library's own contract; bytes as strings; nil stored into an array.
-/
import Derived.Test.YtidpjdkldadlpaaGreatXVm2
import Derived.Shelf.Sort.Plain
import Derived.Shelf.Slices.In.SortNone
import Derived.Laws.BytesString
import Derived.Shelf.Slices.CompactI
set_option linter.unusedVariables false
set_option linter.unusedSimpArgs false
set_option linter.unusedSectionVars false
set_option linter.deprecated false
namespace Go.Vm
open Go Go.RowKit Go.Proofs Go.Sort Go.Shelf

/-- Numbers, sorted. -/
def sortI (l : List Int) : List Int := l.mergeSort fun x y => decide (x ≤ y)
def rowI (x : Int) : List V := [V.i .i64 x]

theorem sortI_len (l : List Int) : (sortI l).length = l.length := List.length_mergeSort ..

theorem sortI_calls {P : Program} {ρ : Ren} (Ly : Lays.n189 P ρ) (zs : List Int) (hz : zs.length < 4611686018427387904) :
    ACalls P (ρ.f 189) [.own 200000 zs.length] [(200000, .arr 1 (zs.map rowI))] (Gives (.tup []) [(200000, .arr 1 ((sortI zs).map rowI))]) := by
  intro S φ w vals hi
  have hs := hi.size
  obtain ⟨v0, hv0⟩ : ∃ v0, vals = #[v0] := by
    obtain ⟨l⟩ := vals
    match l, hs with
    | [x], _ => exact ⟨x, rfl⟩
  subst hv0
  have ha := hi.args 0 v0 _ rfl rfl
  rcases ha.own_inv with ⟨hx, hn⟩ | ⟨B, hB, hn, hx⟩
  · have h0 : zs = [] := List.eq_nil_of_length_eq_zero hn
    subst h0; subst hx
    refine (Any.slices_Sort_int_none Ly none 0 w).mono ?_
    rintro e w' ⟨rfl, rfl⟩
    refine ⟨.tuple #[], .tup [], [(200000, .arr 1 [])], φ, rfl, ⟨rfl, fun c ob h => by simpa [sortI] using h⟩, rfl, rfl, rfl, Nat.le_refl _, fun _ _ _ => rfl, hi.inj, fun o B h => ?_, fun o B k h hk => ?_, fun o B k h hk hlt => ?_, ⟨fun o B _ h => h, fun o ob B _ _ h => h⟩, .dat (.tup _ _ rfl fun j x v h => by simp at h), fun o ob h => ?_⟩
    · obtain ⟨_, _, ob, hob⟩ := hi.dom o B h; exact ⟨ob, hob⟩
    · obtain ⟨_, h2, _⟩ := hi.dom o B h
      exact ⟨(h2 k hk).1, fun _ => ⟨o, B, h, hk⟩⟩
    · obtain ⟨h1, _, _⟩ := hi.dom o B h; omega
    · have hS : ∀ k, S k → Aft S φ w' w' k ∧ w'.heap[k]? = w'.heap[k]? := fun k hk => ⟨⟨hi.lt k hk, fun _ => hk, fun o B h hb => ((hi.dom o B h).2.1 k hb).2 hk⟩, rfl⟩
      rcases hi.heap o ob h with ⟨B, hB, hr⟩ | hn
      · exact .inl ⟨B, hB, hr.mono (fun _ _ h => h) hS fun _ _ => rfl⟩
      · exact .inr hn
  · subst hx
    have hob : RepOb φ S w B (.arr 1 (zs.map rowI)) := by
      rcases hi.heap 200000 _ (look_cons_same _ _ _) with ⟨B', hB', hr⟩ | ⟨hn', _⟩
      · rw [hB] at hB'; cases hB'; exact hr
      · rw [hB] at hn'; cases hn'
    obtain ⟨hz1, hle, hok, cs, E, hb, hsz, hcell⟩ := hob
    have hlt : B.b < w.heap.size := ((hi.dom _ _ hB).2.1 _ B.self).1
    have hrow : ∀ (l : List Int) (i : Nat) (x : Int), l[i]? = some x → (l.map rowI)[i]? = some (rowI x) := fun l i x h => by rw [List.getElem?_map, h]; rfl
    have hc : ∀ (i : Nat) x, zs[i]? = some x → cs[B.off + i]? = some (.int .i64 x) := fun i x h => by
      obtain ⟨y, hy, hd⟩ := hcell i _ (hrow _ i x h) 0 (.i .i64 x) rfl
      rw [show i * 1 + 0 = i by omega] at hy
      rw [hy]; cases hd; rfl
    have hH : Holds (Value.int .i64) w B.b B.off zs.toArray := fun j hj => by
      have hj' : j < zs.length := by simpa using hj
      have h1 := hc j zs[j] (List.getElem?_eq_getElem hj')
      have h2 : zs.toArray[j]! = zs[j] := by simp [hj']
      refine ⟨?_, ?_⟩
      · rw [h2]; simp [World.cell?, hb, h1]
      · simp [World.frozen?, hb]
    refine (Any.slices_Sort_int Ly B.b B.off B.cap zs w hH hlt hz).mono ?_
    rintro e w' ⟨rfl, n, os, rfl⟩
    have hh : ∀ k, k < w.heap.size → (grow (putRow (Value.int .i64) (Sort.ahead w n) B.b B.off (sortI zs).toArray) os).heap[k]? = (w.heap.modify B.b (onCells (putCells (Value.int .i64) B.off (sortI zs).toArray)))[k]? := fun k hk => by
      rw [heap_grow_old _ _ (by rw [size_putRow]; exact hk)]; rfl
    have ho : ∀ k, k < w.heap.size → k ≠ B.b → (grow (putRow (Value.int .i64) (Sort.ahead w n) B.b B.off (sortI zs).toArray) os).heap[k]? = w.heap[k]? := fun k hk hne => by
      rw [hh k hk, Array.getElem?_modify, if_neg (Ne.symm hne)]
    have hsize : w.heap.size ≤ (grow (putRow (Value.int .i64) (Sort.ahead w n) B.b B.off (sortI zs).toArray) os).heap.size := by
      rw [size_grow, size_putRow]; exact Nat.le_add_right _ _
    have hme : (grow (putRow (Value.int .i64) (Sort.ahead w n) B.b B.off (sortI zs).toArray) os).heap[B.b]? = some (.cells (putCells (Value.int .i64) B.off (sortI zs).toArray cs) E (0, 0)) := by
      rw [hh _ hlt, Array.getElem?_modify, if_pos rfl, hb]; rfl
    have hall : ∀ o' B', φ o' = some B' → o' = 200000 := fun o' B' h' => by
      obtain ⟨_, _, ob, hob⟩ := hi.dom o' B' h'
      by_cases e : 200000 = o'
      · exact e.symm
      · rw [look_cons_other _ _ e] at hob; cases hob
    refine ⟨.tuple #[], .tup [], [(200000, .arr 1 ((sortI zs).map rowI))], φ, rfl, ⟨rfl, fun c ob h => h⟩, rfl, rfl, rfl, hsize, fun k hk hno => ?_, hi.inj, fun o B h => ?_, fun o B k h hk => ?_, fun o B k h hk hl => ?_, ⟨fun o B _ h => h, fun o ob B _ _ h => h⟩, .dat (.tup _ _ rfl fun j x v h => by simp at h), fun o ob h => ?_⟩
    · exact ho k hk fun e => hno 200000 B hB (e ▸ B.self)
    · rw [hall o B h]; exact ⟨_, look_cons_same _ _ _⟩
    · obtain ⟨_, h2, _⟩ := hi.dom o B h
      exact ⟨Nat.lt_of_lt_of_le (h2 k hk).1 hsize, fun _ => ⟨o, B, h, hk⟩⟩
    · obtain ⟨h1, _, _⟩ := hi.dom o B h; omega
    · by_cases e : 200000 = o
      · subst e
        rw [look_cons_same] at h; cases h
        refine .inl ⟨B, hB, hz1, ?_, ?_, _, E, hme, ?_, ?_⟩
        · rw [List.length_map, sortI_len]; rw [List.length_map] at hle; exact hle
        · intro r hr; obtain ⟨x, _, rfl⟩ := List.mem_map.1 hr
          exact ⟨rfl, fun v hv => by simp [rowI] at hv; subst hv; rfl⟩
        · simpa [putCells] using hsz
        · intro i r hi' j v hj
          rw [List.getElem?_map] at hi'
          obtain ⟨x, hx, rfl⟩ := Option.map_eq_some_iff.1 hi'
          have hil : i < (sortI zs).length := (List.getElem?_eq_some_iff.1 hx).1
          have hil' : i < zs.length := by rw [sortI_len] at hil; exact hil
          match j, hj with
          | 0, hj =>
            cases hj
            refine ⟨.int .i64 x, ?_, .i _ _⟩
            rw [show i * 1 + 0 = i by omega]
            have h1 := hc i zs[i] (List.getElem?_eq_getElem hil')
            have h2 : (sortI zs).toArray[i]! = x := by
              have := List.getElem?_eq_some_iff.1 hx
              obtain ⟨h3, h4⟩ := this
              simp [h3, h4]
            simp only [putCells, Array.getElem?_mapIdx, h1, Option.map_some]
            rw [if_pos ⟨by omega, by simp; omega⟩, show B.off + i - B.off = i by omega, h2]
          | j + 1, hj => simp [rowI] at hj
      · rw [look_cons_other _ _ e] at h; cases h
/-- Numbers, of runs of like ones the first alone. -/
def compI (l : List Int) : List Int := Lib.compact l
theorem compI_calls {P : Program} {ρ : Ren} (Ly : Lays2.n20 P ρ) (zs : List Int) (hz : zs.length < 4611686018427387904) :
    ACalls P (ρ.f 20) [.own 200000 zs.length] [(200000, .arr 1 (zs.map rowI))] (Gives (.own 200000 (compI zs).length) [(200000, .arr 1 ((compI zs).map rowI))]) := by
  intro S φ w vals hi
  have hs := hi.size
  obtain ⟨v0, hv0⟩ : ∃ v0, vals = #[v0] := by
    obtain ⟨l⟩ := vals
    match l, hs with
    | [x], _ => exact ⟨x, rfl⟩
  subst hv0
  have ha := hi.args 0 v0 _ rfl rfl
  have hall : ∀ o' B', φ o' = some B' → o' = 200000 := fun o' B' h' => by
    obtain ⟨_, _, ob, hob⟩ := hi.dom o' B' h'
    by_cases e : 200000 = o'
    · exact e.symm
    · rw [look_cons_other _ _ e] at hob; cases hob
  rcases ha.own_inv with ⟨hx, hn⟩ | ⟨B, hB, hn, hx⟩
  · have h0 : zs = [] := List.eq_nil_of_length_eq_zero hn
    subst h0; subst hx
    have hc0 : compI [] = [] := by simp [compI, Lib.compact, Lib.compactUpTo]
    rw [hc0]
    refine (Any.slices_Compact_int_empty Ly none 0 w).mono ?_
    rintro e w' ⟨rfl, rfl⟩
    refine ⟨.slice none 0 0, .own 200000 0, [(200000, .arr 1 [])], φ, rfl, ⟨rfl, fun c ob h => h⟩, rfl, rfl, rfl, Nat.le_refl _, fun _ _ _ => rfl, hi.inj, fun o B h => ?_, fun o B k h hk => ?_, fun o B k h hk hlt => ?_, ⟨fun o B _ h => h, fun o ob B _ _ h => h⟩, .own0 _, fun o ob h => ?_⟩
    · obtain ⟨_, _, ob, hob⟩ := hi.dom o B h; exact ⟨ob, hob⟩
    · obtain ⟨_, h2, _⟩ := hi.dom o B h
      exact ⟨(h2 k hk).1, fun _ => ⟨o, B, h, hk⟩⟩
    · obtain ⟨h1, _, _⟩ := hi.dom o B h; omega
    · have hS : ∀ k, S k → Aft S φ w' w' k ∧ w'.heap[k]? = w'.heap[k]? := fun k hk => ⟨⟨hi.lt k hk, fun _ => hk, fun o B h hb => ((hi.dom o B h).2.1 k hb).2 hk⟩, rfl⟩
      rcases hi.heap o ob h with ⟨B, hB, hr⟩ | hn
      · exact .inl ⟨B, hB, hr.mono (fun _ _ h => h) hS fun _ _ => rfl⟩
      · exact .inr hn
  · subst hx
    have hob : RepOb φ S w B (.arr 1 (zs.map rowI)) := by
      rcases hi.heap 200000 _ (look_cons_same _ _ _) with ⟨B', hB', hr⟩ | ⟨hn', _⟩
      · rw [hB] at hB'; cases hB'; exact hr
      · rw [hB] at hn'; cases hn'
    obtain ⟨hz1, hle, hok, cs, E, hb, hsz, hcell⟩ := hob
    have hlt : B.b < w.heap.size := ((hi.dom _ _ hB).2.1 _ B.self).1
    have hrow : ∀ (l : List Int) (i : Nat) (x : Int), l[i]? = some x → (l.map rowI)[i]? = some (rowI x) := fun l i x h => by rw [List.getElem?_map, h]; rfl
    have hc : ∀ (i : Nat) x, zs[i]? = some x → cs[B.off + i]? = some (.int .i64 x) := fun i x h => by
      obtain ⟨y, hy, hd⟩ := hcell i _ (hrow _ i x h) 0 (.i .i64 x) rfl
      rw [show i * 1 + 0 = i by omega] at hy
      rw [hy]; cases hd; rfl
    have hH : Holds (Value.int .i64) w B.b B.off zs.toArray := fun j hj => by
      have hj' : j < zs.length := by simpa using hj
      have h1 := hc j zs[j] (List.getElem?_eq_getElem hj')
      have h2 : zs.toArray[j]! = zs[j] := by simp [hj']
      refine ⟨?_, ?_⟩
      · rw [h2]; simp [World.cell?, hb, h1]
      · simp [World.frozen?, hb]
    have hcl : (compI zs).length ≤ zs.length := by
      unfold compI Lib.compact Lib.compactUpTo
      rw [List.length_map]
      exact Nat.le_trans (List.length_filter_le _ _) (by simp)
    refine (Any.slices_Compact_int Ly B.b B.off B.cap zs w hH (by omega) hn).mono ?_
    rintro e w' ⟨rfl, n, rfl⟩
    change ∃ x v hs' φ', Ending.returned (.slice (some ⟨B.b, B.off, none⟩) (compI zs).length B.cap) = .returned x ∧ _ ∧ Outs S φ w φ' (putRow (Value.int .i64) (Sort.ahead w n) B.b B.off (compI zs ++ List.replicate (zs.length - (compI zs).length) 0).toArray) x v hs'
    generalize hD : (compI zs ++ List.replicate (zs.length - (compI zs).length) 0).toArray = D
    have hDs : D.size = zs.length := by subst hD; simp; omega
    have hh : ∀ k : Nat, (putRow (Value.int .i64) (Sort.ahead w n) B.b B.off D).heap[k]? = (w.heap.modify B.b (onCells (putCells (Value.int .i64) B.off D)))[k]? := fun k => rfl
    have ho : ∀ k : Nat, k ≠ B.b → (putRow (Value.int .i64) (Sort.ahead w n) B.b B.off D).heap[k]? = w.heap[k]? := fun k hne => by
      rw [hh k, Array.getElem?_modify, if_neg (Ne.symm hne)]
    have hsize : w.heap.size ≤ (putRow (Value.int .i64) (Sort.ahead w n) B.b B.off D).heap.size := by
      rw [size_putRow]; exact Nat.le_refl _
    have hme : (putRow (Value.int .i64) (Sort.ahead w n) B.b B.off D).heap[B.b]? = some (.cells (putCells (Value.int .i64) B.off D cs) E (0, 0)) := by
      rw [hh _, Array.getElem?_modify, if_pos rfl, hb]; rfl
    refine ⟨_, .own 200000 (compI zs).length, [(200000, .arr 1 ((compI zs).map rowI))], φ, rfl, ⟨rfl, fun c ob h => h⟩, rfl, rfl, rfl, hsize, fun k hk hno => ?_, hi.inj, fun o B h => ?_, fun o B k h hk => ?_, fun o B k h hk hl => ?_, ⟨fun o B _ h => h, fun o ob B _ _ h => h⟩, .own _ _ B hB (by omega), fun o ob h => ?_⟩
    · exact ho k fun e => hno 200000 B hB (e ▸ B.self)
    · rw [hall o B h]; exact ⟨_, look_cons_same _ _ _⟩
    · obtain ⟨_, h2, _⟩ := hi.dom o B h
      exact ⟨Nat.lt_of_lt_of_le (h2 k hk).1 hsize, fun _ => ⟨o, B, h, hk⟩⟩
    · obtain ⟨h1, _, _⟩ := hi.dom o B h; omega
    · by_cases e : 200000 = o
      · subst e
        rw [look_cons_same] at h; cases h
        refine .inl ⟨B, hB, hz1, ?_, ?_, _, E, hme, ?_, ?_⟩
        · rw [List.length_map]; omega
        · intro r hr; obtain ⟨x, _, rfl⟩ := List.mem_map.1 hr
          exact ⟨rfl, fun v hv => by simp [rowI] at hv; subst hv; rfl⟩
        · simpa [putCells] using hsz
        · intro i r hi' j v hj
          rw [List.getElem?_map] at hi'
          obtain ⟨x, hx, rfl⟩ := Option.map_eq_some_iff.1 hi'
          have hil : i < (compI zs).length := (List.getElem?_eq_some_iff.1 hx).1
          have hil' : i < zs.length := by omega
          match j, hj with
          | 0, hj =>
            cases hj
            refine ⟨.int .i64 x, ?_, .i _ _⟩
            rw [show i * 1 + 0 = i by omega]
            have h1 := hc i zs[i] (List.getElem?_eq_getElem hil')
            have h2 : D[i]! = x := by
              subst hD
              rw [getElem!_pos _ i (by simp; omega)]
              obtain ⟨h3, h4⟩ := List.getElem?_eq_some_iff.1 hx
              simp [List.getElem_append, h3, h4]
            simp only [putCells, Array.getElem?_mapIdx, h1, Option.map_some]
            rw [if_pos ⟨by omega, by omega⟩, show B.off + i - B.off = i by omega, h2]
          | j + 1, hj => simp [rowI] at hj
      · rw [look_cons_other _ _ e] at h; cases h

section
variable {P : Program} {C : Ctx} {σ : St} {o : Oper}
/-- Bytes, as a string. -/
def strOf (l : List Int) : ByteArray := l.foldl (fun r n => r.push (UInt8.ofNat n.toNat)) ByteArray.empty
theorem Stp.b2s {S T e d : Nat} {x : Operand} {l : List Int} {rows : List (List V)} (ho : o.op = .convert S T x) (hd : o.dst = some d) (hn : Nat.ble (d + 1) C.n = true) (hx : σ.opd x = some (.sl 1 rows)) (hr : rows = l.map fun x => [V.i .u8 x])
    (hS : P.underlying S = some (.slice e)) (he : intT P e .u8 = true) (hT : strB P T = true) : Stp P C o σ (σ.put d (.s (strOf l))) := by
  subst hr
  refine Stp.same hd hn fun φ a w hr => ⟨.string (strOf l), ?_, .dat (.s _)⟩
  rcases (hr.opd hx).sl_inv with ⟨a', cap, hv, h0⟩ | ⟨b, off, cap, hv, _, _, _, c, hc, hdat⟩
  · have : l = [] := by simpa using h0
    subst this
    simp only [execOp, ho, hv, Sem.run_bind, run_convert_bytes_string w S T e a' 0 cap hS (intT_inv he) (strB_inv hT)]
    cases a' with
    | none => simp [Conv.bytesToString, Sem.run_pure, strOf, ByteArray.empty, ByteArray.emptyWithCapacity]
    | some p =>
      rw [run_bytesToString w p 0 cap [] (by rw [run_loadCells w p 0 (fun _ => undef) (fun j hj => absurd hj (Nat.not_lt_zero _))]; rfl)]
      simp [Sem.run_pure, strOf]
  · rw [List.length_map] at hv hc
    simp only [execOp, ho, hv, Sem.run_bind, run_convert_bytes_string w S T e _ _ cap hS (intT_inv he) (strB_inv hT)]
    rw [run_bytesToString w ⟨b, off, none⟩ l.length cap l ?_]
    · simp [Sem.run_pure, strOf]
    · rw [run_loadCells w ⟨b, off, none⟩ l.length c (fun j hj => by rw [Addr.add_lit]; exact hc j (by omega))]
      congr 1
      have : (List.range l.length).map c = l.map (Value.int .u8) := by
        apply List.ext_getElem?
        intro i
        rw [List.getElem?_map, List.getElem?_map]
        by_cases h : i < l.length
        · rw [List.getElem?_range h, List.getElem?_eq_getElem h]
          have hd := hdat i [V.i .u8 l[i]] (by rw [List.getElem?_map, List.getElem?_eq_getElem h]; rfl) 0 (.i .u8 l[i]) rfl
          rw [show i * 1 + 0 = i by omega] at hd
          have := (Rep.dat (φ := φ) hd).i_inv
          simp [this]
        · rw [List.getElem?_eq_none (by simpa using h), List.getElem?_eq_none (by simpa using h)]; rfl
      rw [this]
end
end Go.Vm
