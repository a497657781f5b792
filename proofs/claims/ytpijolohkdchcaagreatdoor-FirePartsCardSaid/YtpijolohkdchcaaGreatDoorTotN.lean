/- A part of the proof; what it holds is told at each theorem. -/
import Derived.Test.YtpijolohkdchcaaGreatDoorT3
import Derived.Test.YtpijolohkdchcaaGreatDoorXPlT
import Derived.KernelRfl
set_option linter.unusedVariables false
set_option linter.unusedSimpArgs false
set_option linter.unusedSectionVars false
set_option linter.deprecated false
noncomputable section
namespace Go.Proofs
open Go Go.RowKit Go.Vm
inductive Qcs : Qf → Prop where
 | mk (e : Qf) : e.Kids.length ≤ maxLen → (∀ k ∈ e.Kids, Qcs k) → Qcs e
theorem Qdt {e : Qf} (h : Qcs e) : lenL Qcs e.Kids := by
 cases h with
 | mk _ h1 h2 => exact ⟨h1, h2⟩
theorem Qoi {e k : Qf} (h : k ∈ e.Kids) : SizeOf.sizeOf k < SizeOf.sizeOf e := by
 obtain ⟨a, b, l⟩ := e
 have := List.sizeOf_lt_of_mem h
 simp only [Qf.mk.sizeOf_spec] at *
 omega
theorem Qf.pos (e : Qf) : 0 < SizeOf.sizeOf e := by
 obtain ⟨a, b, l⟩ := e
 simp only [Qf.mk.sizeOf_spec]; omega
inductive POk (v : Int) : Qf → Prop where
 | mk (e : Qf) : (e.Kind = 1 ∨ e.Kind = 2 ∨ e.Kind = 3 ∨ e.Kind = 4 ∨ e.Kind = 5 ∨ e.Kind = 6) → (e.Kind = 2 → 0 ≤ e.Num ∧ e.Num < v) → (e.Kind = 3 ∨ e.Kind = 4 → e.Kids.length = 1) → (e.Kind = 5 → e.Kids.length = 2) → (e.Kind = 6 → e.Kids.length = 3) → (∀ k ∈ e.Kids, POk v k) → POk v e
def QbT (x : Qy) : Prop := Qe2 x.Name ∧ True ∧ True ∧ True ∧ (lenL Qe2) x.Names ∧ True ∧ True
def QbR (x : Qz) : Prop := Qe2 x.Name ∧ True ∧ (lenL (fun _ => True)) x.First
def QcY (x : TVar) : Prop := Qe2 x.Name ∧ True
def Qh3 (x : TArc) : Prop := True ∧ Qcs x.Expr
def Qam (x : Qr) : Prop := Qe2 x.Name ∧ (lenL QcY) x.Vars ∧ Qcs x.Guard ∧ True ∧ True ∧ (lenL Qh3) x.Ins ∧ (lenL Qh3) x.Outs ∧ (lenL (fun _ => True)) x.Cancel ∧ True ∧ True
def QH (x : TNet) : Prop := (lenL QbT) x.Colours ∧ (lenL QbR) x.Places ∧ (lenL Qam) x.Tasks ∧ True ∧ True
def Qrn (x : Qaa) : Prop := (lenL QbT) x.all ∧ (lenL (fun _ => True)) x.sizes ∧ True
theorem Qqm (v1 : TNet) (h_v1 : QH v1) : TotP (QgZ v1) fun r => True := by
 unfold QgZ
 exact TotP.okT
theorem Qbw (l1 : (List Qz)) (k2 : Int) (h_l1 : (lenL QbR) l1) : TotP (Qac l1 k2) fun r => r = true → 0 ≤ k2 ∧ k2 < l1.length := by
 unfold Qac
 exact TotP.ok (by first | (intro hr; first | (cases hr; done) | omega | ((try simp only [Bool.and_eq_true, Bool.or_eq_true, Bool.or_eq_false_iff, Bool.not_eq_true', Bool.not_eq_false', decide_eq_true_eq, decide_eq_false_iff_not, beq_iff_eq, bne_iff_ne, ne_eq, Bool.not_eq_true, Bool.not_eq_false, List.length_append, List.length_singleton, List.length_nil, List.length_drop, List.length_take, List.length_cons, Qjh, Qji, Qii] at *); omega)) | ((try simp only [Bool.and_eq_true, Bool.or_eq_true, Bool.or_eq_false_iff, Bool.not_eq_true', Bool.not_eq_false', decide_eq_true_eq, decide_eq_false_iff_not, beq_iff_eq, bne_iff_ne, ne_eq, Bool.not_eq_true, Bool.not_eq_false, List.length_append, List.length_singleton, List.length_nil, List.length_drop, List.length_take, List.length_cons, Qjh, Qji, Qii] at *); omega) | simp_all)
theorem Qqn (v1 : TNet) (h_v1 : QH v1) : TotP (Qg0 v1) fun r => True := by
 unfold Qg0
 refine TotP.bind (P := fun _ => True) ?_ (fun x_1 hv2 => ?_)
 ·unfold Qja
  refine TotP.bind (Qbw v1.Places v1.From (h_v1.2.1)) (fun x_3 hv4 => ?_)
  refine TotP.bif (fun hc5 => ?_) (fun hc5 => ?_)
  ·refine TotP.bind (Qbw v1.Places v1.To (h_v1.2.1)) (fun x_6 hv7 => ?_)
   exact TotP.okT
  ·exact TotP.okT
 unfold QeG
 exact TotP.okT
theorem Qqo (v1 : TNet) (h_v1 : QH v1) : TotP (Qg1 v1) fun r => True := by
 unfold Qg1
 exact TotP.okT
theorem Qqp (v1 : TNet) (v2 : Int) (v3 : Int) (v4 : Int) (h_v1 : QH v1) : TotP (Qg2 v1 v2 v3 v4) fun r => True := by
 unfold Qg2
 refine TotP.bind (Qqm v1 (h_v1)) (fun x_1 hv2 => ?_)
 refine TotP.bif (fun hc3 => ?_) (fun hc3 => ?_)
 ·exact TotP.okT
 ·refine TotP.bind (Qqn v1 (h_v1)) (fun x_4 hv5 => ?_)
  refine TotP.bif (fun hc6 => ?_) (fun hc6 => ?_)
  ·exact TotP.okT
  ·refine TotP.bind (Qqo v1 (h_v1)) (fun x_7 hv8 => ?_)
   refine TotP.bif (fun hc9 => ?_) (fun hc9 => ?_)
   ·exact TotP.okT
   ·exact TotP.okT
theorem Qqq (lo1 : Int) (hi2 : Int)  : TotP (QgV lo1 hi2) fun r => True := by
 unfold QgV
 refine TotP.bif (fun hc1 => ?_) (fun hc1 => ?_)
 ·exact TotP.okT
 ·exact TotP.okT
theorem QkX (c1 : Int)  : TotP (Qdw c1) fun r => True := by
 unfold Qdw
 exact TotP.okT
theorem Qj0 (s1 : ByteArray) (h_s1 : Qe2 s1) : TotP (QdK s1) fun r => True := by
 unfold QdK
 refine TotP.bind (P := fun _ => True) ?_ (fun x_1 hv2 => ?_)
 ·unfold QiZ
  refine TotP.bif (fun hc3 => ?_) (fun hc3 => ?_)
  ·exact TotP.okT
  ·have hshc3 := QtA hc3
   refine TotP.bif (fun hc4 => ?_) (fun hc4 => ?_)
   ·exact TotP.okT
   ·refine TotP.bind (TotP.sidx (by omega) (by omega)) (fun c_5 hv6 => ?_)
    refine TotP.bind (QkX c_5 ) (fun x_7 hv8 => ?_)
    exact TotP.okT
 unfold Qex
 refine TotP.bif (fun hc9 => ?_) (fun hc9 => ?_)
 ·exact TotP.okT
 ·refine TotP.bind (TotP.up (s1.size) (fun st => st) (fun _ => True) (Q := fun q => True) rfl trivial (fun i11 st hi12 hn13 hj14 => ?_)) (fun q15 hq16 => ?_)
  ·obtain ⟨x_10, hst⟩ : ∃ y, y = st := ⟨_, rfl⟩
   subst hst
   replace hi12 : x_10 = (i11 : Int) := hi12
   show TotP (Qc1 s1 x_10) _
   unfold Qc1
   refine TotP.bif (fun hc17 => ?_) (fun hc17 => ?_)
   ·refine TotP.bind (TotP.sidx (by omega) (by simp_all)) (fun c_18 hv19 => ?_)
    refine TotP.bind (P := fun _ => True) ?_ (fun x_20 hv21 => ?_)
    ·unfold Qi0
     refine TotP.bind (QkX c_18 ) (fun x_22 hv23 => ?_)
     refine TotP.bif (fun hc24 => ?_) (fun hc24 => ?_)
     ·refine TotP.bif (fun hc25 => ?_) (fun hc25 => ?_)
      ·exact TotP.okT
      ·refine TotP.bif (fun hc26 => ?_) (fun hc26 => ?_)
       ·exact TotP.okT
       ·exact TotP.okT
     ·exact TotP.okT
    unfold Qeu
    refine TotP.bif (fun hc27 => ?_) (fun hc27 => ?_)
    ·exact TotP.ok (Qn trivial)
    ·exact TotP.ok (QC ⟨(by simp_all), by subst hi12; exact Qx (by simp_all) h_s1, trivial⟩)
   ·exact TotP.ok (Qn trivial)
  rcases q15 with q15 | q15
  ·show TotP (Qev) _
   unfold Qev
   exact TotP.okT
  ·show TotP (Qew) _
   unfold Qew
   exact TotP.okT
theorem QpD (l1 : (List ByteArray)) (h_l1 : (lenL Qe2) l1) : TotP (Qf7 l1) fun r => True := by
 unfold Qf7
 refine TotP.bind (TotP.up (l1.length) (fun st => st.1) (fun _ => True) (Q := fun q => True) rfl trivial (fun i3 st hi4 hn5 hj6 => ?_)) (fun q7 hq8 => ?_)
 ·obtain ⟨x_1, m_2⟩ := st
  replace hi4 : x_1 = (i3 : Int) := hi4
  show TotP (QcI l1 x_1 m_2) _
  unfold QcI
  refine TotP.bif (fun hc9 => ?_) (fun hc9 => ?_)
  ·refine TotP.bind (TotP.idx (by omega) (by simp_all)) (fun e_10 hv11 => ?_)
   refine TotP.bind (P := fun _ => True) ?_ (fun x_12 hv13 => ?_)
   ·unfold Qij
    refine TotP.bind (Qj0 e_10 (((h_l1).2 e_10 hv11))) (fun x_14 hv15 => ?_)
    refine TotP.bif (fun hc16 => ?_) (fun hc16 => ?_)
    ·exact TotP.okT
    ·exact TotP.okT
   unfold QdP
   refine TotP.bif (fun hc17 => ?_) (fun hc17 => ?_)
   ·exact TotP.ok (Qn trivial)
   ·exact TotP.ok (QC ⟨(by simp_all), by subst hi4; exact Qx (by simp_all) (h_l1).1, trivial⟩)
  ·exact TotP.ok (Qn trivial)
 rcases q7 with q7 | q7
 ·show TotP (QdQ) _
  unfold QdQ
  exact TotP.okT
 ·show TotP (QdR) _
  unfold QdR
  exact TotP.okT
theorem Qqr (c1 : Qy) (ahead2 : (List Int)) (h_c1 : QbT c1) (h_ahead2 : (lenL (fun _ => True)) ahead2) : TotP (QgW c1 ahead2) fun r => True := by
 unfold QgW
 refine TotP.bif (fun hc1 => ?_) (fun hc1 => ?_)
 ·refine TotP.bind (Qqq c1.Lo c1.Hi ) (fun x_2 hv3 => ?_)
  exact TotP.okT
 ·refine TotP.bif (fun hc4 => ?_) (fun hc4 => ?_)
  ·refine TotP.bind (QpD c1.Names (h_c1.2.2.2.2.1)) (fun x_5 hv6 => ?_)
   refine TotP.bif (fun hc7 => ?_) (fun hc7 => ?_)
   ·exact TotP.okT
   ·unfold QbA
    exact TotP.okT
  ·refine TotP.bif (fun hc8 => ?_) (fun hc8 => ?_)
   ·refine TotP.bif (fun hc9 => ?_) (fun hc9 => ?_)
    ·refine TotP.bind (TotP.idx (by (try simp only [Bool.and_eq_true, Bool.or_eq_true, Bool.or_eq_false_iff, Bool.not_eq_true', Bool.not_eq_false', decide_eq_true_eq, decide_eq_false_iff_not, beq_iff_eq, bne_iff_ne, ne_eq, Bool.not_eq_true, Bool.not_eq_false, List.length_append, List.length_singleton, List.length_nil, List.length_drop, List.length_take, List.length_cons, Qjh, Qji, Qii] at *); omega) (by (try simp only [Bool.and_eq_true, Bool.or_eq_true, Bool.or_eq_false_iff, Bool.not_eq_true', Bool.not_eq_false', decide_eq_true_eq, decide_eq_false_iff_not, beq_iff_eq, bne_iff_ne, ne_eq, Bool.not_eq_true, Bool.not_eq_false, List.length_append, List.length_singleton, List.length_nil, List.length_drop, List.length_take, List.length_cons, Qjh, Qji, Qii] at *); omega)) (fun e_10 hv11 => ?_)
     refine TotP.bind (TotP.idx (by (try simp only [Bool.and_eq_true, Bool.or_eq_true, Bool.or_eq_false_iff, Bool.not_eq_true', Bool.not_eq_false', decide_eq_true_eq, decide_eq_false_iff_not, beq_iff_eq, bne_iff_ne, ne_eq, Bool.not_eq_true, Bool.not_eq_false, List.length_append, List.length_singleton, List.length_nil, List.length_drop, List.length_take, List.length_cons, Qjh, Qji, Qii] at *); omega) (by (try simp only [Bool.and_eq_true, Bool.or_eq_true, Bool.or_eq_false_iff, Bool.not_eq_true', Bool.not_eq_false', decide_eq_true_eq, decide_eq_false_iff_not, beq_iff_eq, bne_iff_ne, ne_eq, Bool.not_eq_true, Bool.not_eq_false, List.length_append, List.length_singleton, List.length_nil, List.length_drop, List.length_take, List.length_cons, Qjh, Qji, Qii] at *); omega)) (fun e_12 hv13 => ?_)
     exact TotP.okT
    ·unfold QbA
     exact TotP.okT
   ·unfold QbA
    exact TotP.okT
theorem QlG (l1 : (List Qy)) (h_l1 : (lenL QbT) l1) : TotP (Qec l1) fun r => ((lenL (fun _ => True)) r.1 ∧ True) ∧ (r.2 = true → r.1.length = l1.length ∧ ∀ x ∈ r.1, 1 ≤ x ∧ x ≤ 1024) := by
 unfold Qec
 refine TotP.bif (fun hc => TotP.ok ⟨⟨lenL.nil, trivial⟩, fun h => by cases h⟩) (fun hc => ?_)
 have hl : l1.length ≤ 32 := by simp only [decide_eq_false_iff_not] at hc; omega
 refine TotP.bind (TotP.up l1.length (fun st => st.1) (fun st => (st.2.2.length : Int) = st.1 ∧ ∀ x ∈ st.2.2, 1 ≤ x ∧ x ≤ 1024) (Q := fun q => ∀ l, q = .inr l → l.length = l1.length ∧ ∀ x ∈ l, 1 ≤ x ∧ x ≤ 1024) rfl ⟨rfl, fun x h => (by cases h)⟩ (fun i st hi hn hj => ?_)) (fun q hq => ?_)
 ·obtain ⟨x, m, l⟩ := st
  replace hi : x = (i : Int) := hi
  replace hj : (l.length : Int) = x ∧ ∀ x ∈ l, 1 ≤ x ∧ x ≤ 1024 := hj
  obtain ⟨hj, hj2⟩ := hj
  show TotP (QcJ l1 x m l) _
  unfold QcJ
  refine TotP.bif (fun hc2 => ?_) (fun hc2 => ?_)
  ·simp only [decide_eq_true_eq] at hc2
   refine TotP.bind (TotP.idx (by omega) (by omega)) fun e he => ?_
   refine TotP.bind (Qqr e l (h_l1.2 e he) ⟨by unfold maxLen; omega, fun _ _ => trivial⟩) fun y _ => ?_
   refine TotP.bind (P := fun z => z = false → 1 ≤ y ∧ y ≤ 1024) ?_ fun z hz => ?_
   ·unfold Qik
    refine TotP.bind (Qj0 e.Name (h_l1.2 e he).1) fun z _ => ?_
    refine TotP.bif (fun _ => TotP.ok (fun h => by cases h)) fun _ => TotP.bif (fun _ => TotP.ok (fun h => by cases h)) fun _ => TotP.bif (fun _ => TotP.ok (fun h => by cases h)) fun h1 => TotP.ok fun h2 => ?_
    simp only [decide_eq_false_iff_not] at h1 h2
    omega
   unfold QdS
   refine TotP.bif (fun _ => TotP.ok (Qn fun l h => by cases h)) fun hz0 => ?_
   refine TotP.bind (TotP.chk (by simp; omega)) fun _ _ => ?_
   exact TotP.ok (QC ⟨by omega, by subst hi; exact Qx (by omega) (by unfold maxLen; omega : l1.length ≤ maxLen), by simp only [List.length_append, List.length_singleton]; subst hi; rw [Qx (show i < l1.length by omega) (by unfold maxLen; omega)]; omega, fun u hu => by
    rcases List.mem_append.1 hu with hu | hu
    ·exact hj2 u hu
    ·simp at hu; subst hu; exact hz hz0⟩)
  ·simp only [decide_eq_false_iff_not] at hc2
   exact TotP.ok (Qn fun l' h => by cases h; exact ⟨by omega, hj2⟩)
 ·rcases q with q | q
  ·exact TotP.ok ⟨⟨lenL.nil, trivial⟩, fun h => by cases h⟩
  ·have := hq q rfl
   exact TotP.ok ⟨⟨⟨by show q.length ≤ maxLen; unfold maxLen; omega, fun _ _ => trivial⟩, trivial⟩, fun _ => this⟩
theorem QpE (l1 : (List Qy)) (h_l1 : (lenL QbT) l1) : TotP (Qgj l1) fun r => True := by
 unfold Qgj
 refine TotP.bind (QlG l1 (h_l1)) (fun x_1 hv2 => ?_)
 exact TotP.okT
theorem QmD (v1 : TNet) (v2 : Int) (h_v1 : QH v1) (hp0 : 0 ≤ v2) (hp1 : v2 < v1.Colours.length) : TotP (QcR v1 v2) fun r => True := by
 have hl := h_v1.1.1
 unfold maxLen at hl
 unfold QcR
 rw [Qdr (show -9223372036854775808 ≤ v2 + 1 ∧ v2 + 1 ≤ 9223372036854775807 by omega)]
 refine TotP.bind (TotP.chk (by simp only [Bool.and_eq_true, decide_eq_true_eq]; omega)) fun _ _ => ?_
 exact TotP.bind (QpE _ ((h_v1.1.drop _).take _)) fun x _ => TotP.okT
def Qqs : List ByteArray := (Qfd).getD []
set_option maxRecDepth 100000 in
theorem Qt5 : Qfd = some Qqs := by kernel_rfl
set_option maxRecDepth 100000 in
theorem Qsn : (decide (Qqs.length ≤ 1000) && Qqs.all fun s => decide (s.size ≤ 1000)) = true := by kernel_rfl
theorem Qqt : TotP (Qfd) fun r => lenL Qe2 r := by
 have h := Qsn
 rw [Bool.and_eq_true, decide_eq_true_iff, List.all_eq_true] at h
 refine ⟨Qqs, Qt5, by unfold maxLen; omega, fun x hx => ?_⟩
 have := h.2 x hx
 rw [decide_eq_true_iff] at this
 unfold Qe2 maxLen; omega
theorem Qj1 (s1 : (List ByteArray)) (v2 : ByteArray) (h_s1 : (lenL Qe2) s1) (h_v2 : Qe2 v2) : TotP (Qa5 s1 v2) fun r => True := by
 unfold Qa5
 refine TotP.bind (TotP.up (s1.length) (fun st => st) (fun _ => True) (Q := fun q => True) rfl trivial (fun i2 st hi3 hn4 hj5 => ?_)) (fun q6 hq7 => ?_)
 ·obtain ⟨x_1, hst⟩ : ∃ y, y = st := ⟨_, rfl⟩
  subst hst
  replace hi3 : x_1 = (i2 : Int) := hi3
  show TotP (Qal s1 v2 x_1) _
  unfold Qal
  refine TotP.bif (fun hc8 => ?_) (fun hc8 => ?_)
  ·refine TotP.bind (TotP.idx (by omega) (by simp_all)) (fun e_9 hv10 => ?_)
   refine TotP.bif (fun hc11 => ?_) (fun hc11 => ?_)
   ·exact TotP.ok (Qn trivial)
   ·exact TotP.ok (QC ⟨(by simp_all), by subst hi3; exact Qx (by simp_all) (h_s1).1, trivial⟩)
  ·exact TotP.ok (Qn trivial)
 rcases q6 with q6 | q6
 ·show TotP (QaI q6) _
  unfold QaI
  exact TotP.okT
 ·show TotP (QaJ) _
  unfold QaJ
  exact TotP.okT
theorem QiK (s1 : (List ByteArray)) (v2 : ByteArray) (h_s1 : (lenL Qe2) s1) (h_v2 : Qe2 v2) : TotP (QaK s1 v2) fun r => True := by
 unfold QaK
 refine TotP.bind (Qj1 s1 v2 (h_s1) (h_v2)) (fun x_1 hv2 => ?_)
 exact TotP.okT
theorem QqT (s1 : ByteArray) (h_s1 : Qe2 s1) : TotP (Qh0 s1) fun r => True := by
 unfold Qh0
 refine TotP.bind (Qqt  ) (fun x_1 hv2 => ?_)
 refine TotP.bind (QiK x_1 s1 (hv2) (h_s1)) (fun x_3 hv4 => ?_)
 exact TotP.okT
theorem Qgw (s1 : ByteArray) (h_s1 : Qe2 s1) : TotP (QcE s1) fun r => True := by
 unfold QcE
 refine TotP.bind (P := fun _ => True) ?_ (fun x_1 hv2 => ?_)
 ·unfold QjU
  refine TotP.bind (Qj0 s1 (h_s1)) (fun x_3 hv4 => ?_)
  refine TotP.bif (fun hc5 => ?_) (fun hc5 => ?_)
  ·refine TotP.bind (QqT s1 (h_s1)) (fun x_6 hv7 => ?_)
   exact TotP.okT
  ·exact TotP.okT
 unfold Qfs
 exact TotP.okT
theorem QlS (s1 : ByteArray) (h_s1 : Qe2 s1) : TotP (Qcn s1) fun r => True := by
 unfold Qcn
 refine TotP.bind (Qgw s1 (h_s1)) (fun x_1 hv2 => ?_)
 exact TotP.okT
theorem Qiu (s1 : (List ByteArray)) (h_s1 : (lenL Qe2) s1) : TotP (QaD s1) fun r => True := by
 unfold QaD
 refine TotP.bind (TotP.up (s1.length) (fun st => st) (fun _ => True) (Q := fun q => True) rfl trivial (fun i2 st hi3 hn4 hj5 => ?_)) (fun q6 hq7 => ?_)
 ·obtain ⟨x_1, hst⟩ : ∃ y, y = st := ⟨_, rfl⟩
  subst hst
  replace hi3 : x_1 = (i2 : Int) := hi3
  show TotP (Q1 s1 x_1) _
  unfold Q1
  refine TotP.bif (fun hc8 => ?_) (fun hc8 => ?_)
  ·refine TotP.bind (TotP.idx (by omega) (by simp_all)) (fun e_9 hv10 => ?_)
   refine TotP.bind (QlS e_9 (((h_s1).2 e_9 hv10))) (fun x_11 hv12 => ?_)
   refine TotP.bif (fun hc13 => ?_) (fun hc13 => ?_)
   ·exact TotP.ok (Qn trivial)
   ·exact TotP.ok (QC ⟨(by simp_all), by subst hi3; exact Qx (by simp_all) (h_s1).1, trivial⟩)
  ·exact TotP.ok (Qn trivial)
 rcases q6 with q6 | q6
 ·show TotP (Qar q6) _
  unfold Qar
  exact TotP.okT
 ·show TotP (Qas) _
  unfold Qas
  exact TotP.okT
theorem QhG (s1 : (List ByteArray)) (h_s1 : (lenL Qe2) s1) : TotP (Qat s1) fun r => True := by
 unfold Qat
 refine TotP.bind (Qiu s1 (h_s1)) (fun x_1 hv2 => ?_)
 exact TotP.okT
theorem QmE (v1 : Qy) (h_v1 : QbT v1) : TotP (QcS v1) fun r => True := by
 unfold QcS
 refine TotP.bind (P := fun _ => True) ?_ (fun x_1 hv2 => ?_)
 ·unfold QfR
  refine TotP.bind (Qgw v1.Name (h_v1.1)) (fun x_3 hv4 => ?_)
  refine TotP.bif (fun hc5 => ?_) (fun hc5 => ?_)
  ·refine TotP.bif (fun hc6 => ?_) (fun hc6 => ?_)
   ·exact TotP.okT
   ·refine TotP.bind (QhG v1.Names (h_v1.2.2.2.2.1)) (fun x_7 hv8 => ?_)
    exact TotP.okT
  ·exact TotP.okT
 unfold Qb6
 exact TotP.okT
theorem Qoj (v1 : TNet) (v2 : Int) (v3 : Int) (v4 : Qy) (v5 : Int) (h_v1 : QH v1) (h_v4 : QbT v4) (hp0 : 0 ≤ v2) (hp1 : v2 < v1.Colours.length) : TotP (QeH v1 v2 v3 v4 v5) fun r => True := by
 unfold QeH
 refine TotP.bind (QmD v1 v2 (h_v1) (by omega) (by omega)) (fun x_1 hv2 => ?_)
 refine TotP.bif (fun hc3 => ?_) (fun hc3 => ?_)
 ·exact TotP.okT
 ·refine TotP.bind (QmE v4 (h_v4)) (fun x_4 hv5 => ?_)
  refine TotP.bif (fun hc6 => ?_) (fun hc6 => ?_)
  ·exact TotP.okT
  ·exact TotP.okT
theorem QnI (k1 : Int) (c2 : Qy) (v3 : TNet) (h_c2 : QbT c2) (h_v3 : QH v3) (hp0 : 0 ≤ k1) (hp1 : k1 < v3.Colours.length) : TotP (QdX k1 c2 v3) fun r => True := by
 unfold QdX
 refine TotP.bind (Qoj v3 k1 8 c2 8 (h_v3) (h_c2) (by omega) (by omega)) (fun x_1 hv2 => ?_)
 exact TotP.okT
theorem Qk7 (l1 : (List Qy)) (v2 : TNet) (h_l1 : (lenL QbT) l1) (h_v2 : QH v2) (hp0 : l1.length ≤ v2.Colours.length) : TotP (QbL l1 v2) fun r => True := by
 unfold QbL
 refine TotP.bind (TotP.up (l1.length) (fun st => st) (fun _ => True) (Q := fun q => True) rfl trivial (fun i2 st hi3 hn4 hj5 => ?_)) (fun q6 hq7 => ?_)
 ·obtain ⟨x_1, hst⟩ : ∃ y, y = st := ⟨_, rfl⟩
  subst hst
  replace hi3 : x_1 = (i2 : Int) := hi3
  show TotP (QaL l1 v2 x_1) _
  unfold QaL
  refine TotP.bif (fun hc8 => ?_) (fun hc8 => ?_)
  ·refine TotP.bind (TotP.idx (by omega) (by simp_all)) (fun e_9 hv10 => ?_)
   refine TotP.bind (QnI x_1 e_9 v2 (((h_l1).2 e_9 hv10)) (h_v2) (by omega) (by simp_all; omega)) (fun x_11 hv12 => ?_)
   refine TotP.bif (fun hc13 => ?_) (fun hc13 => ?_)
   ·exact TotP.ok (Qn trivial)
   ·exact TotP.ok (QC ⟨(by simp_all), by subst hi3; exact Qx (by simp_all) (h_l1).1, trivial⟩)
  ·exact TotP.ok (Qn trivial)
 rcases q6 with q6 | q6
 ·show TotP (Qbi q6.1 q6.2) _
  unfold Qbi
  exact TotP.okT
 ·show TotP (Qbj) _
  unfold Qbj
  exact TotP.okT
theorem QkY (n1 : TNet) (h_n1 : QH n1) : TotP (QdF n1) fun r => True := by
 unfold QdF
 refine TotP.bind (Qk7 n1.Colours n1 (h_n1.1) (h_n1) (by omega)) (fun x_1 hv2 => ?_)
 exact TotP.okT
theorem Qo2 (v1 : Qz) (h_v1 : QbR v1) : TotP (Qfu v1) fun r => True := by
 unfold Qfu
 refine TotP.bind (Qgw v1.Name (h_v1.1)) (fun x_1 hv2 => ?_)
 exact TotP.okT
theorem Qo3 (p1 : Qz) (v2 : Qz) (h_p1 : QbR p1) (h_v2 : QbR v2) : TotP (Qfv p1 v2) fun r => True := by
 unfold Qfv
 exact TotP.okT
theorem QgS (s1 : (List Qz)) (v2 : Qz) (h_s1 : (lenL QbR) s1) (h_v2 : QbR v2) : TotP (Qad s1 v2) fun r => True := by
 unfold Qad
 refine TotP.bind (TotP.up (s1.length) (fun st => st) (fun _ => True) (Q := fun q => True) rfl trivial (fun i2 st hi3 hn4 hj5 => ?_)) (fun q6 hq7 => ?_)
 ·obtain ⟨x_1, hst⟩ : ∃ y, y = st := ⟨_, rfl⟩
  subst hst
  replace hi3 : x_1 = (i2 : Int) := hi3
  show TotP (QP s1 v2 x_1) _
  unfold QP
  refine TotP.bif (fun hc8 => ?_) (fun hc8 => ?_)
  ·refine TotP.bind (TotP.idx (by omega) (by simp_all)) (fun e_9 hv10 => ?_)
   refine TotP.bind (Qo3 e_9 v2 (((h_s1).2 e_9 hv10)) (h_v2)) (fun x_11 hv12 => ?_)
   refine TotP.bif (fun hc13 => ?_) (fun hc13 => ?_)
   ·exact TotP.ok (Qn trivial)
   ·exact TotP.ok (QC ⟨(by simp_all), by subst hi3; exact Qx (by simp_all) (h_s1).1, trivial⟩)
  ·exact TotP.ok (Qn trivial)
 rcases q6 with q6 | q6
 ·show TotP (QY q6) _
  unfold QY
  exact TotP.okT
 ·show TotP (QZ) _
  unfold QZ
  exact TotP.okT
theorem QfU (s1 : (List Qz)) (v2 : Qz) (h_s1 : (lenL QbR) s1) (h_v2 : QbR v2) : TotP (Q0 s1 v2) fun r => True := by
 unfold Q0
 refine TotP.bind (QgS s1 v2 (h_s1) (h_v2)) (fun x_1 hv2 => ?_)
 exact TotP.okT
theorem Qo4 (v1 : TNet) (v2 : Int) (v3 : Qz) (h_v1 : QH v1) (h_v3 : QbR v3) (hp0 : 0 ≤ v2) (hp1 : v2 < v1.Places.length) : TotP (Qfw v1 v2 v3) fun r => True := by
 unfold Qfw
 refine TotP.bind (TotP.chk (by simp_all; omega)) (fun _ _ => ?_)
 refine TotP.bind (QfU ((v1.Places.drop 0).take (v2.toNat - 0)) v3 (((h_v1.2.1).drop _).take _) (h_v3)) (fun x_1 hv2 => ?_)
 exact TotP.okT
theorem Qg8 (l1 : (List Qy)) (k2 : Int) (h_l1 : (lenL QbT) l1) : TotP (Qa6 l1 k2) fun r => True := by
 unfold Qa6
 exact TotP.okT
theorem Qo5 (v1 : TNet) (v2 : Qz) (h_v1 : QH v1) (h_v2 : QbR v2) : TotP (Qfx v1 v2) fun r => True := by
 unfold Qfx
 refine TotP.bind (Qg8 v1.Colours v2.Colour (h_v1.1)) (fun x_1 hv2 => ?_)
 exact TotP.okT
theorem Qro (b1 : (List (Int × Int))) (h_b1 : (lenL (fun _ => True)) b1) : TotP (Qb2 b1) fun r => True := by
 unfold Qb2
 refine TotP.bind (TotP.up (b1.length) (fun st => st.2) (fun _ => True) (Q := fun q => True) rfl trivial (fun i3 st hi4 hn5 hj6 => ?_)) (fun q7 hq8 => ?_)
 ·obtain ⟨last_1, x_2⟩ := st
  replace hi4 : x_2 = (i3 : Int) := hi4
  show TotP (Qa0 b1 last_1 x_2) _
  unfold Qa0
  refine TotP.bif (fun hc9 => ?_) (fun hc9 => ?_)
  ·refine TotP.bind (TotP.idx (by omega) (by simp_all)) (fun e_10 hv11 => ?_)
   refine TotP.bif (fun hc12 => ?_) (fun hc12 => ?_)
   ·exact TotP.ok (Qn trivial)
   ·exact TotP.ok (QC ⟨(by simp_all), by subst hi4; exact Qx (by simp_all) (h_b1).1, trivial⟩)
  ·exact TotP.ok (Qn trivial)
 rcases q7 with q7 | q7
 ·show TotP (Qgb) _
  unfold Qgb
  exact TotP.okT
 ·show TotP (Qgc) _
  unfold Qgc
  exact TotP.okT
theorem Qo6 (v1 : Qz) (h_v1 : QbR v1) : TotP (Qfy v1) fun r => True := by
 unfold Qfy
 refine TotP.bind (Qro v1.First (h_v1.2.2)) (fun x_1 hv2 => ?_)
 exact TotP.okT
theorem QkS (l1 : (List Qy)) (k2 : Int) (h_l1 : (lenL QbT) l1) : TotP (QfH l1 k2) fun r => (True ∧ Qrn r.2) ∧ (r.1 = true → (0 ≤ k2 ∧ k2 < r.2.sizes.length) ∧ r.2.k = k2 ∧ r.2.all.length = r.2.sizes.length ∧ ∀ x ∈ r.2.sizes, 1 ≤ x ∧ x ≤ 1024) := by
 unfold QfH
 refine TotP.bind (QlG l1 h_l1) fun x hx => ?_
 refine TotP.bif (fun _ => TotP.ok ⟨⟨trivial, lenL.nil, lenL.nil, trivial⟩, fun h => by cases h⟩) fun hc => ?_
 simp only [Bool.or_eq_false_iff, Bool.not_eq_false', decide_eq_false_iff_not] at hc
 have := hx.2 hc.1
 exact TotP.ok ⟨⟨trivial, h_l1, hx.1.1, trivial⟩, fun _ => ⟨⟨by omega, by show k2 < (x.1.length : Int); omega⟩, rfl, this.1.symm, this.2⟩⟩
theorem QhC (l1 : (List Qy)) (k2 : Int) (h_l1 : (lenL QbT) l1) : TotP (QcO l1 k2) fun r => 0 ≤ r ∧ r ≤ 1024 := by
 unfold QcO
 refine TotP.bind (QkS l1 k2 h_l1) (fun x hx => ?_)
 refine TotP.bif (fun hc => TotP.ok (by omega)) (fun hc => ?_)
 have h := hx.2 (by simpa using hc)
 exact TotP.bind (TotP.idx (by omega) (by omega)) fun e he => TotP.ok (by have := h.2.2.2 e he; omega)
theorem QnJ (row1 : (Int × Int)) (v2 : Int)  : TotP (QdY row1 v2) fun r => True := by
 unfold QdY
 exact TotP.okT
theorem Qiv (s1 : (List (Int × Int))) (v2 : Int) (h_s1 : (lenL (fun _ => True)) s1) : TotP (QaE s1 v2) fun r => True := by
 unfold QaE
 refine TotP.bind (TotP.up (s1.length) (fun st => st) (fun _ => True) (Q := fun q => True) rfl trivial (fun i2 st hi3 hn4 hj5 => ?_)) (fun q6 hq7 => ?_)
 ·obtain ⟨x_1, hst⟩ : ∃ y, y = st := ⟨_, rfl⟩
  subst hst
  replace hi3 : x_1 = (i2 : Int) := hi3
  show TotP (Q2 s1 v2 x_1) _
  unfold Q2
  refine TotP.bif (fun hc8 => ?_) (fun hc8 => ?_)
  ·refine TotP.bind (TotP.idx (by omega) (by simp_all)) (fun e_9 hv10 => ?_)
   refine TotP.bind (QnJ e_9 v2 ) (fun x_11 hv12 => ?_)
   refine TotP.bif (fun hc13 => ?_) (fun hc13 => ?_)
   ·exact TotP.ok (Qn trivial)
   ·exact TotP.ok (QC ⟨(by simp_all), by subst hi3; exact Qx (by simp_all) (h_s1).1, trivial⟩)
  ·exact TotP.ok (Qn trivial)
 rcases q6 with q6 | q6
 ·show TotP (Qau q6) _
  unfold Qau
  exact TotP.okT
 ·show TotP (Qav) _
  unfold Qav
  exact TotP.okT
theorem QhH (s1 : (List (Int × Int))) (v2 : Int) (h_s1 : (lenL (fun _ => True)) s1) : TotP (Qaw s1 v2) fun r => True := by
 unfold Qaw
 refine TotP.bind (Qiv s1 v2 (h_s1)) (fun x_1 hv2 => ?_)
 exact TotP.okT
theorem Qo7 (v1 : TNet) (v2 : Qz) (h_v1 : QH v1) (h_v2 : QbR v2) : TotP (Qfz v1 v2) fun r => True := by
 unfold Qfz
 refine TotP.bind (QhC v1.Colours v2.Colour (h_v1.1)) (fun x_1 hv2 => ?_)
 refine TotP.bind (QhH v2.First x_1 (h_v2.2.2)) (fun x_3 hv4 => ?_)
 exact TotP.okT
theorem Qok (v1 : Qz) (v2 : Int) (v3 : TNet) (v4 : Int) (v5 : Int) (v6 : Int) (v7 : Int) (v8 : Int) (h_v1 : QbR v1) (h_v3 : QH v3) (hp0 : 0 ≤ v4) (hp1 : v4 < v3.Places.length) : TotP (QeI v1 v2 v3 v4 v5 v6 v7 v8) fun r => True := by
 unfold QeI
 refine TotP.bind (Qo2 v1 (h_v1)) (fun x_1 hv2 => ?_)
 refine TotP.bif (fun hc3 => ?_) (fun hc3 => ?_)
 ·exact TotP.okT
 ·refine TotP.bind (Qo4 v3 v4 v1 (h_v3) (h_v1) (by omega) (by omega)) (fun x_4 hv5 => ?_)
  refine TotP.bif (fun hc6 => ?_) (fun hc6 => ?_)
  ·exact TotP.okT
  ·refine TotP.bind (Qo5 v3 v1 (h_v3) (h_v1)) (fun x_7 hv8 => ?_)
   refine TotP.bif (fun hc9 => ?_) (fun hc9 => ?_)
   ·exact TotP.okT
   ·refine TotP.bind (Qo6 v1 (h_v1)) (fun x_10 hv11 => ?_)
    refine TotP.bif (fun hc12 => ?_) (fun hc12 => ?_)
    ·exact TotP.okT
    ·refine TotP.bind (Qo7 v3 v1 (h_v3) (h_v1)) (fun x_13 hv14 => ?_)
     refine TotP.bif (fun hc15 => ?_) (fun hc15 => ?_)
     ·exact TotP.okT
     ·exact TotP.okT
theorem Qqu (n1 : TNet) (k2 : Int) (h_n1 : QH n1) : TotP (Qg3 n1 k2) fun r => True := by
 unfold Qg3
 refine TotP.bind (Qbw n1.Places k2 (h_n1.2.1)) (fun x_1 hv2 => ?_)
 refine TotP.bif (fun hc3 => ?_) (fun hc3 => ?_)
 ·exact TotP.okT
 ·refine TotP.bind (TotP.idx (by simp_all) (by simp_all)) (fun e_4 hv5 => ?_)
  refine TotP.bind (Qok e_4 1 n1 k2 5 3 1 8 (((h_n1.2.1).2 e_4 hv5)) (h_n1) (by simp_all) (by simp_all)) (fun x_6 hv7 => ?_)
  exact TotP.okT
theorem Qqv (k1 : Int) (p2 : Qz) (v3 : TNet) (h_p2 : QbR p2) (h_v3 : QH v3) : TotP (Qg4 k1 p2 v3) fun r => True := by
 unfold Qg4
 refine TotP.bind (Qqu v3 k1 (h_v3)) (fun x_1 hv2 => ?_)
 exact TotP.okT
theorem QlH (l1 : (List Qz)) (v2 : TNet) (h_l1 : (lenL QbR) l1) (h_v2 : QH v2) : TotP (Qb7 l1 v2) fun r => True := by
 unfold Qb7
 refine TotP.bind (TotP.up (l1.length) (fun st => st) (fun _ => True) (Q := fun q => True) rfl trivial (fun i2 st hi3 hn4 hj5 => ?_)) (fun q6 hq7 => ?_)
 ·obtain ⟨x_1, hst⟩ : ∃ y, y = st := ⟨_, rfl⟩
  subst hst
  replace hi3 : x_1 = (i2 : Int) := hi3
  show TotP (QaS l1 v2 x_1) _
  unfold QaS
  refine TotP.bif (fun hc8 => ?_) (fun hc8 => ?_)
  ·refine TotP.bind (TotP.idx (by omega) (by simp_all)) (fun e_9 hv10 => ?_)
   refine TotP.bind (Qqv x_1 e_9 v2 (((h_l1).2 e_9 hv10)) (h_v2)) (fun x_11 hv12 => ?_)
   refine TotP.bif (fun hc13 => ?_) (fun hc13 => ?_)
   ·exact TotP.ok (Qn trivial)
   ·exact TotP.ok (QC ⟨(by simp_all), by subst hi3; exact Qx (by simp_all) (h_l1).1, trivial⟩)
  ·exact TotP.ok (Qn trivial)
 rcases q6 with q6 | q6
 ·show TotP (Qbu q6.1 q6.2) _
  unfold Qbu
  exact TotP.okT
 ·show TotP (Qbv) _
  unfold Qbv
  exact TotP.okT
theorem Qh4 (l1 : (List Qr)) (k2 : Int) (h_l1 : (lenL Qam) l1) : TotP (Qbm l1 k2) fun r => r = true → 0 ≤ k2 ∧ k2 < l1.length := by
 unfold Qbm
 exact TotP.ok (by first | (intro hr; first | (cases hr; done) | omega | ((try simp only [Bool.and_eq_true, Bool.or_eq_true, Bool.or_eq_false_iff, Bool.not_eq_true', Bool.not_eq_false', decide_eq_true_eq, decide_eq_false_iff_not, beq_iff_eq, bne_iff_ne, ne_eq, Bool.not_eq_true, Bool.not_eq_false, List.length_append, List.length_singleton, List.length_nil, List.length_drop, List.length_take, List.length_cons, Qjh, Qji, Qii] at *); omega)) | ((try simp only [Bool.and_eq_true, Bool.or_eq_true, Bool.or_eq_false_iff, Bool.not_eq_true', Bool.not_eq_false', decide_eq_true_eq, decide_eq_false_iff_not, beq_iff_eq, bne_iff_ne, ne_eq, Bool.not_eq_true, Bool.not_eq_false, List.length_append, List.length_singleton, List.length_nil, List.length_drop, List.length_take, List.length_cons, Qjh, Qji, Qii] at *); omega) | simp_all)
theorem Qqw (v1 : Int) (v2 : TNet) (v3 : Qr) (h_v2 : QH v2) (h_v3 : Qam v3) : TotP (Qg5 v1 v2 v3) fun r => True := by
 unfold Qg5
 exact TotP.okT
theorem Qol (v1 : Int) (v2 : TNet) (v3 : Qr) (v4 : Int) (h_v2 : QH v2) (h_v3 : Qam v3) : TotP (QeJ v1 v2 v3 v4) fun r => True := by
 unfold QeJ
 exact TotP.okT
theorem Qom (v1 : Int) (v2 : TNet) (v3 : Qr) (v4 : Int) (h_v2 : QH v2) (h_v3 : Qam v3) : TotP (QeK v1 v2 v3 v4) fun r => True := by
 unfold QeK
 exact TotP.okT
theorem Qon (v1 : Int) (v2 : TNet) (v3 : Qr) (h_v2 : QH v2) (h_v3 : Qam v3) : TotP (QeL v1 v2 v3) fun r => True := by
 unfold QeL
 exact TotP.okT
theorem QpF (v1 : Qr) (h_v1 : Qam v1) : TotP (Qgk v1) fun r => True := by
 unfold Qgk
 refine TotP.bind (Qgw v1.Name (h_v1.1)) (fun x_1 hv2 => ?_)
 exact TotP.okT
theorem QpG (p1 : Qr) (v2 : Qr) (h_p1 : Qam p1) (h_v2 : Qam v2) : TotP (Qgl p1 v2) fun r => True := by
 unfold Qgl
 exact TotP.okT
theorem Qhr (s1 : (List Qr)) (v2 : Qr) (h_s1 : (lenL Qam) s1) (h_v2 : Qam v2) : TotP (Qan s1 v2) fun r => True := by
 unfold Qan
 refine TotP.bind (TotP.up (s1.length) (fun st => st) (fun _ => True) (Q := fun q => True) rfl trivial (fun i2 st hi3 hn4 hj5 => ?_)) (fun q6 hq7 => ?_)
 ·obtain ⟨x_1, hst⟩ : ∃ y, y = st := ⟨_, rfl⟩
  subst hst
  replace hi3 : x_1 = (i2 : Int) := hi3
  show TotP (QR s1 v2 x_1) _
  unfold QR
  refine TotP.bif (fun hc8 => ?_) (fun hc8 => ?_)
  ·refine TotP.bind (TotP.idx (by omega) (by simp_all)) (fun e_9 hv10 => ?_)
   refine TotP.bind (QpG e_9 v2 (((h_s1).2 e_9 hv10)) (h_v2)) (fun x_11 hv12 => ?_)
   refine TotP.bif (fun hc13 => ?_) (fun hc13 => ?_)
   ·exact TotP.ok (Qn trivial)
   ·exact TotP.ok (QC ⟨(by simp_all), by subst hi3; exact Qx (by simp_all) (h_s1).1, trivial⟩)
  ·exact TotP.ok (Qn trivial)
 rcases q6 with q6 | q6
 ·show TotP (Q7 q6) _
  unfold Q7
  exact TotP.okT
 ·show TotP (Q8) _
  unfold Q8
  exact TotP.okT
theorem Qgy (s1 : (List Qr)) (v2 : Qr) (h_s1 : (lenL Qam) s1) (h_v2 : Qam v2) : TotP (Q9 s1 v2) fun r => True := by
 unfold Q9
 refine TotP.bind (Qhr s1 v2 (h_s1) (h_v2)) (fun x_1 hv2 => ?_)
 exact TotP.okT
theorem QpH (v1 : TNet) (v2 : Int) (v3 : Qr) (h_v1 : QH v1) (h_v3 : Qam v3) (hp0 : 0 ≤ v2) (hp1 : v2 < v1.Tasks.length) : TotP (Qgn v1 v2 v3) fun r => True := by
 unfold Qgn
 refine TotP.bind (TotP.chk (by simp_all; omega)) (fun _ _ => ?_)
 refine TotP.bind (Qgy ((v1.Tasks.drop 0).take (v2.toNat - 0)) v3 (((h_v1.2.2.1).drop _).take _) (h_v3)) (fun x_1 hv2 => ?_)
 exact TotP.okT
theorem QpI (v1 : Int) (v2 : Qr) (h_v2 : Qam v2) : TotP (Qeo v1 v2) fun r => True := by
 unfold Qeo
 exact TotP.okT
theorem QlT (v1 : TVar) (h_v1 : QcY v1) : TotP (Qco v1) fun r => True := by
 unfold Qco
 refine TotP.bind (Qgw v1.Name (h_v1.1)) (fun x_1 hv2 => ?_)
 exact TotP.okT
theorem QlU (p1 : TVar) (v2 : TVar) (h_p1 : QcY p1) (h_v2 : QcY v2) : TotP (Qcp p1 v2) fun r => True := by
 unfold Qcp
 exact TotP.okT
theorem Qh5 (s1 : (List TVar)) (v2 : TVar) (h_s1 : (lenL QcY) s1) (h_v2 : QcY v2) : TotP (Qay s1 v2) fun r => True := by
 unfold Qay
 refine TotP.bind (TotP.up (s1.length) (fun st => st) (fun _ => True) (Q := fun q => True) rfl trivial (fun i2 st hi3 hn4 hj5 => ?_)) (fun q6 hq7 => ?_)
 ·obtain ⟨x_1, hst⟩ : ∃ y, y = st := ⟨_, rfl⟩
  subst hst
  replace hi3 : x_1 = (i2 : Int) := hi3
  show TotP (QT s1 v2 x_1) _
  unfold QT
  refine TotP.bif (fun hc8 => ?_) (fun hc8 => ?_)
  ·refine TotP.bind (TotP.idx (by omega) (by simp_all)) (fun e_9 hv10 => ?_)
   refine TotP.bind (QlU e_9 v2 (((h_s1).2 e_9 hv10)) (h_v2)) (fun x_11 hv12 => ?_)
   refine TotP.bif (fun hc13 => ?_) (fun hc13 => ?_)
   ·exact TotP.ok (Qn trivial)
   ·exact TotP.ok (QC ⟨(by simp_all), by subst hi3; exact Qx (by simp_all) (h_s1).1, trivial⟩)
  ·exact TotP.ok (Qn trivial)
 rcases q6 with q6 | q6
 ·show TotP (Qaf q6) _
  unfold Qaf
  exact TotP.okT
 ·show TotP (Qag) _
  unfold Qag
  exact TotP.okT
theorem Qg9 (s1 : (List TVar)) (v2 : TVar) (h_s1 : (lenL QcY) s1) (h_v2 : QcY v2) : TotP (Qah s1 v2) fun r => True := by
 unfold Qah
 refine TotP.bind (Qh5 s1 v2 (h_s1) (h_v2)) (fun x_1 hv2 => ?_)
 exact TotP.okT
theorem QlV (v1 : (List TVar)) (v2 : Int) (v3 : TVar) (h_v1 : (lenL QcY) v1) (h_v3 : QcY v3) (hp0 : 0 ≤ v2) (hp1 : v2 < v1.length) : TotP (Qcq v1 v2 v3) fun r => True := by
 unfold Qcq
 refine TotP.bind (TotP.chk (by simp_all; omega)) (fun _ _ => ?_)
 refine TotP.bind (Qg9 ((v1.drop 0).take (v2.toNat - 0)) v3 (((h_v1).drop _).take _) (h_v3)) (fun x_1 hv2 => ?_)
 exact TotP.okT
theorem QlW (v1 : TNet) (v2 : TVar) (h_v1 : QH v1) (h_v2 : QcY v2) : TotP (Qcr v1 v2) fun r => True := by
 unfold Qcr
 refine TotP.bind (Qg8 v1.Colours v2.Colour (h_v1.1)) (fun x_1 hv2 => ?_)
 exact TotP.okT
theorem Qoo (v1 : TVar) (v2 : Int) (v3 : (List TVar)) (v4 : Int) (v5 : Int) (v6 : TNet) (v7 : Int) (h_v1 : QcY v1) (h_v3 : (lenL QcY) v3) (h_v6 : QH v6) (hp0 : 0 ≤ v4) (hp1 : v4 < v3.length) : TotP (QeM v1 v2 v3 v4 v5 v6 v7) fun r => True := by
 unfold QeM
 refine TotP.bind (QlT v1 (h_v1)) (fun x_1 hv2 => ?_)
 refine TotP.bif (fun hc3 => ?_) (fun hc3 => ?_)
 ·exact TotP.okT
 ·refine TotP.bind (QlV v3 v4 v1 (h_v3) (h_v1) (by omega) (by omega)) (fun x_4 hv5 => ?_)
  refine TotP.bif (fun hc6 => ?_) (fun hc6 => ?_)
  ·exact TotP.okT
  ·refine TotP.bind (QlW v6 v1 (h_v6) (h_v1)) (fun x_7 hv8 => ?_)
   refine TotP.bif (fun hc9 => ?_) (fun hc9 => ?_)
   ·exact TotP.okT
   ·exact TotP.okT
theorem QmF (k1 : Int) (v2 : TVar) (v3 : (List TVar)) (v4 : TNet) (h_v2 : QcY v2) (h_v3 : (lenL QcY) v3) (h_v4 : QH v4) (hp0 : 0 ≤ k1) (hp1 : k1 < v3.length) : TotP (QcT k1 v2 v3 v4) fun r => True := by
 unfold QcT
 refine TotP.bind (Qoo v2 1 v3 k1 5 v4 3 (h_v2) (h_v3) (h_v4) (by omega) (by omega)) (fun x_1 hv2 => ?_)
 exact TotP.okT
theorem Qmo (l1 : (List TVar)) (v2 : (List TVar)) (v3 : TNet) (h_l1 : (lenL QcY) l1) (h_v2 : (lenL QcY) v2) (h_v3 : QH v3) (hp0 : l1.length ≤ v2.length) : TotP (QcF l1 v2 v3) fun r => True := by
 unfold QcF
 refine TotP.bind (TotP.up (l1.length) (fun st => st) (fun _ => True) (Q := fun q => True) rfl trivial (fun i2 st hi3 hn4 hj5 => ?_)) (fun q6 hq7 => ?_)
 ·obtain ⟨x_1, hst⟩ : ∃ y, y = st := ⟨_, rfl⟩
  subst hst
  replace hi3 : x_1 = (i2 : Int) := hi3
  show TotP (Qba l1 v2 v3 x_1) _
  unfold Qba
  refine TotP.bif (fun hc8 => ?_) (fun hc8 => ?_)
  ·refine TotP.bind (TotP.idx (by omega) (by simp_all)) (fun e_9 hv10 => ?_)
   refine TotP.bind (QmF x_1 e_9 v2 v3 (((h_l1).2 e_9 hv10)) (h_v2) (h_v3) (by omega) (by simp_all; omega)) (fun x_11 hv12 => ?_)
   refine TotP.bif (fun hc13 => ?_) (fun hc13 => ?_)
   ·exact TotP.ok (Qn trivial)
   ·exact TotP.ok (QC ⟨(by simp_all), by subst hi3; exact Qx (by simp_all) (h_l1).1, trivial⟩)
  ·exact TotP.ok (Qn trivial)
 rcases q6 with q6 | q6
 ·show TotP (QbM q6.1 q6.2) _
  unfold QbM
  exact TotP.okT
 ·show TotP (QbN) _
  unfold QbN
  exact TotP.okT
theorem QnK (n1 : TNet) (l2 : (List TVar)) (h_n1 : QH n1) (h_l2 : (lenL QcY) l2) : TotP (QdZ n1 l2) fun r => True := by
 unfold QdZ
 refine TotP.bind (Qmo l2 l2 n1 (h_l2) (h_l2) (h_n1) (by omega)) (fun x_1 hv2 => ?_)
 exact TotP.okT
theorem QpJ (v1 : TNet) (v2 : Qr) (h_v1 : QH v1) (h_v2 : Qam v2) : TotP (Qgo v1 v2) fun r => True := by
 unfold Qgo
 refine TotP.bind (QnK v1 v2.Vars (h_v1) (h_v2.2.1)) (fun x_1 hv2 => ?_)
 exact TotP.okT
theorem Qo8 (v1 : TNet) (v2 : Qr) (v3 : Int) (h_v1 : QH v1) (h_v2 : Qam v2) : TotP (QfA v1 v2 v3) fun r => True := by
 unfold QfA
 refine TotP.bind (QpJ v1 v2 (h_v1) (h_v2)) (fun x_1 hv2 => ?_)
 exact TotP.okT
theorem Ql8 (n1 : TNet) (k2 : Int) (h_n1 : QH n1) : TotP (Qfe n1 k2) fun r => True := by
 unfold Qfe
 refine TotP.bind (Qh4 n1.Tasks k2 (h_n1.2.2.1)) (fun x_1 hv2 => ?_)
 refine TotP.bif (fun hc3 => ?_) (fun hc3 => ?_)
 ·exact TotP.okT
 ·refine TotP.bind (TotP.idx (by simp_all) (by simp_all)) (fun e_4 hv5 => ?_)
  refine TotP.bind (TotP.up (e_4.Vars.length) (fun st => st.2) (fun _ => True) (Q := fun q => True) rfl trivial (fun i8 st hi9 hn10 hj11 => ?_)) (fun q12 hq13 => ?_)
  ·obtain ⟨out_6, x_7⟩ := st
   replace hi9 : x_7 = (i8 : Int) := hi9
   show TotP (Qc9 e_4 n1 out_6 x_7) _
   unfold Qc9
   refine TotP.bif (fun hc14 => ?_) (fun hc14 => ?_)
   ·refine TotP.bind (TotP.idx (by omega) (by simp_all)) (fun e_15 hv16 => ?_)
    refine TotP.bind (QhC n1.Colours e_15.Colour (h_n1.1)) (fun x_17 hv18 => ?_)
    refine TotP.bif (fun hc19 => ?_) (fun hc19 => ?_)
    ·exact TotP.ok (Qn trivial)
    ·exact TotP.ok (QC ⟨(by simp_all), by subst hi9; exact Qx (by simp_all) (((h_n1.2.2.1).2 e_4 hv5).2.1).1, trivial⟩)
   ·exact TotP.ok (Qn trivial)
  rcases q12 with q12 | q12
  ·show TotP (QeN) _
   unfold QeN
   exact TotP.okT
  ·show TotP (QeO q12) _
   unfold QeO
   exact TotP.okT
theorem QpK (v1 : TNet) (v2 : Int) (h_v1 : QH v1) : TotP (Qgp v1 v2) fun r => True := by
 unfold Qgp
 refine TotP.bind (Ql8 v1 v2 (h_v1)) (fun x_1 hv2 => ?_)
 exact TotP.okT
theorem Qrp (kind1 : Int) : TotP (QiA kind1) fun r => 0 ≤ r → (kind1 = 1 ∨ kind1 = 2 ∨ kind1 = 3 ∨ kind1 = 4 ∨ kind1 = 5 ∨ kind1 = 6) ∧ (kind1 = 3 ∨ kind1 = 4 → r = 1) ∧ (kind1 = 5 → r = 2) ∧ (kind1 = 6 → r = 3) := by
 unfold QiA
 refine TotP.bif (fun hc => ?_) (fun hc => ?_)
 ·unfold Qef; rw [hc]
  simp only [beq_iff_eq] at hc
  exact TotP.ok (by omega)
 ·simp only [beq_eq_false_iff_ne] at hc
  unfold Qef
  refine TotP.bif (fun hc => TotP.ok (by simp only [beq_iff_eq] at hc; omega)) (fun hc2 => ?_)
  simp only [beq_eq_false_iff_ne] at hc2
  refine TotP.bif (fun hc3 => ?_) (fun hc3 => ?_)
  ·unfold Qee; rw [hc3]
   simp only [beq_iff_eq] at hc3
   exact TotP.ok (by omega)
  ·simp only [beq_eq_false_iff_ne] at hc3
   unfold Qee
   refine TotP.bif (fun hc => TotP.ok (by simp only [beq_iff_eq] at hc; omega)) (fun hc4 => ?_)
   simp only [beq_eq_false_iff_ne] at hc4
   refine TotP.bif (fun hc => TotP.ok (by simp only [beq_iff_eq] at hc; omega)) (fun hc5 => ?_)
   simp only [beq_eq_false_iff_ne] at hc5
   exact TotP.bif (fun hc => TotP.ok (by simp only [beq_iff_eq] at hc; omega)) (fun hc6 => TotP.ok (by omega))
theorem QqU (op1 : Int)  : TotP (QhN op1) fun r => True := by
 unfold QhN
 exact TotP.okT
theorem Qkm (rec_ : Qf → Int → Option Bool) (s1 : List Qf) (v2 : Int) (h1 : s1.length ≤ maxLen) (h : ∀ k ∈ s1, TotP (rec_ k v2) fun r => r = true → POk v2 k) : TotP (Q6 rec_ s1 v2) fun r => r = false → ∀ k ∈ s1, POk v2 k := by
 unfold Q6 QaN
 refine TotP.bind (P := fun x => x < 0 → ∀ k ∈ s1, POk v2 k) ?_ fun x hx => TotP.ok fun h => hx (by simp only [decide_eq_false_iff_not] at h; omega)
 refine TotP.bind (TotP.up s1.length (fun st => st) (fun st => ∀ (j : Nat) k, (j : Int) < st → s1[j]? = some k → POk v2 k) (Q := fun q => (∀ x, q = .inl x → 0 ≤ x) ∧ (q = .inr () → ∀ k ∈ s1, POk v2 k)) rfl (fun j k hj => by omega) (fun i st hi hn hj => ?_)) (fun q hq => ?_)
 ·show TotP (QQ s1 rec_ v2 st) _
  unfold QQ Qic
  refine TotP.bif (fun hc => ?_) (fun hc => TotP.ok (Qn ⟨fun x h => (by cases h), fun _ k hk => by
   obtain ⟨j, hj1, hj2⟩ := List.mem_iff_getElem.1 hk
   simp only [decide_eq_false_iff_not] at hc
   exact hj j k (by omega) (by rw [List.getElem?_eq_getElem hj1, hj2])⟩))
  simp only [decide_eq_true_eq] at hc
  rw [QoI (by omega)]
  have hlt : st.toNat < s1.length := by omega
  rw [List.getElem?_eq_getElem hlt]
  refine TotP.bind (P := fun k => k = s1[st.toNat]) (TotP.ok rfl) fun k hk => ?_
  subst hk
  refine TotP.bind (P := fun r => r = false → POk v2 s1[st.toNat]) (TotP.bind (h _ (List.getElem_mem hlt)) fun x hx => TotP.ok fun h => hx (by simpa using h)) fun x hx => ?_
  refine TotP.bif (fun _ => TotP.ok (Qn ⟨fun x h => (by cases h; omega), fun h => (by cases h)⟩)) fun hxf => TotP.ok (QC ⟨by omega, by rw [hi]; exact Qx (by omega) h1, ?_⟩)
  rw [hi, Qx (show i < s1.length by omega) h1]
  intro j k hj' hk
  by_cases c : j = i
  ·subst c
   have e : st.toNat = j := by omega
   have := hx hxf
   rw [List.getElem?_eq_getElem (by omega)] at hk
   cases hk
   simpa only [e] using this
  ·exact hj j k (by omega) hk
 ·rcases q with q | q
  ·exact TotP.ok fun h => absurd (hq.1 q rfl) (by omega)
  ·exact TotP.ok fun _ => hq.2 rfl
theorem QlI : ∀ (n : Nat) (e : Qf) (v : Int), Qcs e → SizeOf.sizeOf e ≤ n → TotP (Qc4 n e v) fun r => r = true → POk v e
 | 0, e, _, _, h => absurd e.pos (by omega)
 | n + 1, e, v, he, h => by
  unfold Qc4 Qid
  refine TotP.bind (Qrp e.Kind) fun x hx => ?_
  refine TotP.bif (fun _ => TotP.ok fun h => by cases h) fun h1 => TotP.bif (fun _ => TotP.ok fun h => by cases h) fun h2 => ?_
  refine TotP.bind (P := fun _ => True) ?_ fun y _ => ?_
  ·unfold Qjt
   exact TotP.bif (fun _ => TotP.bind (QqU e.Num) fun x _ => TotP.okT) fun _ => TotP.okT
  ·unfold Qfi
   refine TotP.bif (fun _ => TotP.ok fun h => by cases h) fun _ => ?_
   refine TotP.bind (Qkm (Qc4 n) e.Kids v (Qdt he).1 fun k hk => QlI n k v ((Qdt he).2 k hk) (by have := Qoi hk; omega)) fun x hx2 => TotP.ok fun hx3 => ?_
   simp only [bne_eq_false_iff_eq] at h1
   have h3 := hx (by omega)
   simp only [Bool.and_eq_false_iff, Bool.or_eq_false_iff, decide_eq_false_iff_not, beq_eq_false_iff_ne] at h2
   exact .mk e h3.1 (fun hk => by omega) (fun hk => by have := h3.2.1 hk; omega) (fun hk => by have := h3.2.2.1 hk; omega) (fun hk => by have := h3.2.2.2 hk; omega) (hx2 (by simpa using hx3))
theorem QqV (e1 : Qf) (vars2 : Int) (h_e1 : Qcs e1) : TotP (Qlm e1 vars2) fun r => r = true → POk vars2 e1 := QlI _ e1 vars2 h_e1 (Nat.le_refl _)
theorem QlJ : ∀ (n : Nat) (e : Qf), Qcs e → SizeOf.sizeOf e ≤ n → TotP (Qc3 n e) fun _ => True
 | 0, e, _, h => absurd e.pos (by omega)
 | n + 1, e, he, h => by
  unfold Qc3 Qia
  refine TotP.bind (TotP.up e.Kids.length (fun st => st.2) (fun _ => True) (Q := fun _ => True) rfl trivial (fun i st hi hn _ => ?_)) (fun q _ => ?_)
  ·obtain ⟨a, x⟩ := st
   replace hi : x = (i : Int) := hi
   show TotP (Qdx e (Qc3 n) a x) _
   unfold Qdx
   refine TotP.bif (fun hc => ?_) (fun hc => ?_)
   ·simp only [decide_eq_true_eq] at hc
    refine TotP.bind (TotP.idx (by omega) (by omega)) fun k hk => ?_
    have := Qoi hk
    refine TotP.bind (QlJ n k ((Qdt he).2 k hk) (by omega)) fun d _ => ?_
    exact TotP.ok (QC ⟨by omega, by subst hi; exact Qx (by omega) (Qdt he).1, trivial⟩)
   ·exact TotP.ok (Qn trivial)
  ·unfold Qhw
   exact TotP.okT
theorem QqW (e1 : Qf) (h_e1 : Qcs e1) : TotP (Qlk e1) fun _ => True := QlJ _ e1 h_e1 (Nat.le_refl _)
theorem Ql9 : ∀ (n : Nat) (e : Qf), Qcs e → SizeOf.sizeOf e ≤ n → TotP (QdL n e) fun _ => True
 | 0, e, _, h => absurd e.pos (by omega)
 | n + 1, e, he, h => by
  unfold QdL QiN
  refine TotP.bind (TotP.up e.Kids.length (fun st => st.2) (fun _ => True) (Q := fun _ => True) rfl trivial (fun i st hi hn _ => ?_)) (fun q _ => ?_)
  ·obtain ⟨a, x⟩ := st
   replace hi : x = (i : Int) := hi
   show TotP (Qed e (QdL n) a x) _
   unfold Qed
   refine TotP.bif (fun hc => ?_) (fun hc => ?_)
   ·simp only [decide_eq_true_eq] at hc
    refine TotP.bind (TotP.idx (by omega) (by omega)) fun k hk => ?_
    have := Qoi hk
    refine TotP.bind (Ql9 n k ((Qdt he).2 k hk) (by omega)) fun d _ => ?_
    exact TotP.ok (QC ⟨by omega, by subst hi; exact Qx (by omega) (Qdt he).1, trivial⟩)
   ·exact TotP.ok (Qn trivial)
  ·unfold Qib
   exact TotP.okT
theorem Qrq (e1 : Qf) (h_e1 : Qcs e1) : TotP (Qmd e1) fun _ => True := Ql9 _ e1 h_e1 (Nat.le_refl _)
theorem Qkn (e1 : Qf) (vars2 : Int) (h_e1 : Qcs e1) : TotP (Qey e1 vars2) fun r => r = true → POk vars2 e1 := by
 unfold Qey
 refine TotP.bind (P := fun r => r = true → POk vars2 e1) ?_ (fun x hx => TotP.ok hx)
 unfold Qju
 refine TotP.bind (QqW e1 h_e1) (fun x _ => ?_)
 refine TotP.bif (fun _ => ?_) (fun _ => TotP.ok fun h => by cases h)
 refine TotP.bind (Qrq e1 h_e1) (fun x _ => ?_)
 refine TotP.bif (fun _ => ?_) (fun _ => TotP.ok fun h => by cases h)
 exact TotP.bind (QqV e1 vars2 h_e1) (fun x hx => TotP.ok hx)
theorem QpL (v1 : Qr) (v2 : Int) (h_v1 : Qam v1) : TotP (Qgq v1 v2) fun r => True := by
 unfold Qgq
 refine TotP.bind (P := fun _ => True) ?_ (fun x_1 hv2 => ?_)
 ·unfold Qit
  refine TotP.bind (Qkn v1.Guard v2 (h_v1.2.2.1)) (fun x_3 hv4 => ?_)
  refine TotP.bif (fun hc5 => ?_) (fun hc5 => ?_)
  ·refine TotP.bif (fun hc6 => ?_) (fun hc6 => ?_)
   ·exact TotP.okT
   ·exact TotP.okT
  ·exact TotP.okT
 unfold Qd0
 exact TotP.okT
theorem Qop (v1 : TNet) (v2 : TArc) (h_v1 : QH v1) (h_v2 : Qh3 v2) : TotP (QeP v1 v2) fun r => True := by
 unfold QeP
 refine TotP.bind (Qbw v1.Places v2.Place (h_v1.2.1)) (fun x_1 hv2 => ?_)
 exact TotP.okT
theorem Qoq (v1 : TArc) (v2 : Int) (h_v1 : Qh3 v1) : TotP (QeQ v1 v2) fun r => True := by
 unfold QeQ
 refine TotP.bind (Qkn v1.Expr v2 (h_v1.2)) (fun x_1 hv2 => ?_)
 exact TotP.okT
theorem Qor (v1 : TNet) (v2 : TArc) (v3 : Int) (v4 : Int) (v5 : Int) (h_v1 : QH v1) (h_v2 : Qh3 v2) : TotP (QeR v1 v2 v3 v4 v5) fun r => True := by
 unfold QeR
 refine TotP.bind (Qop v1 v2 (h_v1) (h_v2)) (fun x_1 hv2 => ?_)
 refine TotP.bif (fun hc3 => ?_) (fun hc3 => ?_)
 ·exact TotP.okT
 ·refine TotP.bind (Qoq v2 v4 (h_v2)) (fun x_4 hv5 => ?_)
  refine TotP.bif (fun hc6 => ?_) (fun hc6 => ?_)
  ·exact TotP.okT
  ·exact TotP.okT
theorem QpM (p1 : Int) (a2 : TArc) (v3 : TNet) (v4 : Int) (h_a2 : Qh3 a2) (h_v3 : QH v3) : TotP (Qgr p1 a2 v3 v4) fun r => True := by
 unfold Qgr
 refine TotP.bind (Qor v3 a2 3 v4 1 (h_v3) (h_a2)) (fun x_1 hv2 => ?_)
 exact TotP.okT
theorem Qmp (l1 : (List TArc)) (v2 : TNet) (v3 : Int) (h_l1 : (lenL Qh3) l1) (h_v2 : QH v2) : TotP (QcG l1 v2 v3) fun r => True := by
 unfold QcG
 refine TotP.bind (TotP.up (l1.length) (fun st => st) (fun _ => True) (Q := fun q => True) rfl trivial (fun i2 st hi3 hn4 hj5 => ?_)) (fun q6 hq7 => ?_)
 ·obtain ⟨x_1, hst⟩ : ∃ y, y = st := ⟨_, rfl⟩
  subst hst
  replace hi3 : x_1 = (i2 : Int) := hi3
  show TotP (Qbb l1 v2 v3 x_1) _
  unfold Qbb
  refine TotP.bif (fun hc8 => ?_) (fun hc8 => ?_)
  ·refine TotP.bind (TotP.idx (by omega) (by simp_all)) (fun e_9 hv10 => ?_)
   refine TotP.bind (QpM x_1 e_9 v2 v3 (((h_l1).2 e_9 hv10)) (h_v2)) (fun x_11 hv12 => ?_)
   refine TotP.bif (fun hc13 => ?_) (fun hc13 => ?_)
   ·exact TotP.ok (Qn trivial)
   ·exact TotP.ok (QC ⟨(by simp_all), by subst hi3; exact Qx (by simp_all) (h_l1).1, trivial⟩)
  ·exact TotP.ok (Qn trivial)
 rcases q6 with q6 | q6
 ·show TotP (QbO q6.1 q6.2) _
  unfold QbO
  exact TotP.okT
 ·show TotP (QbP) _
  unfold QbP
  exact TotP.okT
theorem QmG (n1 : TNet) (l2 : (List TArc)) (vars3 : Int) (h_n1 : QH n1) (h_l2 : (lenL Qh3) l2) : TotP (Qgs n1 l2 vars3) fun r => True := by
 unfold Qgs
 refine TotP.bind (Qmp l2 n1 vars3 (h_l2) (h_n1)) (fun x_1 hv2 => ?_)
 exact TotP.okT
theorem QpN (v1 : TNet) (v2 : Qr) (v3 : Int) (h_v1 : QH v1) (h_v2 : Qam v2) : TotP (Qgt v1 v2 v3) fun r => True := by
 unfold Qgt
 refine TotP.bind (QmG v1 v2.Ins v3 (h_v1) (h_v2.2.2.2.2.2.1)) (fun x_1 hv2 => ?_)
 exact TotP.okT
theorem Qnk (v1 : TNet) (v2 : Qr) (v3 : Int) (v4 : Int) (h_v1 : QH v1) (h_v2 : Qam v2) : TotP (Qdo v1 v2 v3 v4) fun r => True := by
 unfold Qdo
 refine TotP.bind (QpN v1 v2 v3 (h_v1) (h_v2)) (fun x_1 hv2 => ?_)
 exact TotP.okT
theorem QpO (v1 : TNet) (v2 : Qr) (v3 : Int) (h_v1 : QH v1) (h_v2 : Qam v2) : TotP (Qgu v1 v2 v3) fun r => True := by
 unfold Qgu
 refine TotP.bind (QmG v1 v2.Outs v3 (h_v1) (h_v2.2.2.2.2.2.2.1)) (fun x_1 hv2 => ?_)
 exact TotP.okT
theorem Qnl (v1 : TNet) (v2 : Qr) (v3 : Int) (v4 : Int) (h_v1 : QH v1) (h_v2 : Qam v2) : TotP (Qdp v1 v2 v3 v4) fun r => True := by
 unfold Qdp
 refine TotP.bind (QpO v1 v2 v3 (h_v1) (h_v2)) (fun x_1 hv2 => ?_)
 exact TotP.okT
theorem QmH (v1 : TNet) (v2 : Int) (h_v1 : QH v1) : TotP (QcU v1 v2) fun r => True := by
 unfold QcU
 refine TotP.bind (Qbw v1.Places v2 (h_v1.2.1)) (fun x_1 hv2 => ?_)
 exact TotP.okT
theorem QlK (s1 : (List Int)) (v2 : Int) (h_s1 : (lenL (fun _ => True)) s1) : TotP (Qb3 s1 v2) fun r => True := by
 unfold Qb3
 refine TotP.bind (TotP.up (s1.length) (fun st => st) (fun _ => True) (Q := fun q => True) rfl trivial (fun i2 st hi3 hn4 hj5 => ?_)) (fun q6 hq7 => ?_)
 ·obtain ⟨x_1, hst⟩ : ∃ y, y = st := ⟨_, rfl⟩
  subst hst
  replace hi3 : x_1 = (i2 : Int) := hi3
  show TotP (QaR s1 v2 x_1) _
  unfold QaR
  refine TotP.bif (fun hc8 => ?_) (fun hc8 => ?_)
  ·refine TotP.bind (TotP.idx (by omega) (by simp_all)) (fun e_9 hv10 => ?_)
   refine TotP.bif (fun hc11 => ?_) (fun hc11 => ?_)
   ·exact TotP.ok (Qn trivial)
   ·exact TotP.ok (QC ⟨(by simp_all), by subst hi3; exact Qx (by simp_all) (h_s1).1, trivial⟩)
  ·exact TotP.ok (Qn trivial)
 rcases q6 with q6 | q6
 ·show TotP (Qbr q6) _
  unfold Qbr
  exact TotP.okT
 ·show TotP (Qbs) _
  unfold Qbs
  exact TotP.okT
theorem QgD (s1 : (List Int)) (v2 : Int) (h_s1 : (lenL (fun _ => True)) s1) : TotP (QaA s1 v2) fun r => True := by
 unfold QaA
 refine TotP.bind (QlK s1 v2 (h_s1)) (fun x_1 hv2 => ?_)
 exact TotP.okT
theorem QmI (v1 : (List Int)) (v2 : Int) (v3 : Int) (h_v1 : (lenL (fun _ => True)) v1) (hp0 : 0 ≤ v2) (hp1 : v2 < v1.length) : TotP (QcV v1 v2 v3) fun r => True := by
 unfold QcV
 refine TotP.bind (TotP.chk (by simp_all; omega)) (fun _ _ => ?_)
 refine TotP.bind (QgD ((v1.drop 0).take (v2.toNat - 0)) v3 (((h_v1).drop _).take _)) (fun x_1 hv2 => ?_)
 exact TotP.okT
theorem Qos (v1 : TNet) (v2 : Int) (v3 : Int) (v4 : (List Int)) (v5 : Int) (v6 : Int) (h_v1 : QH v1) (h_v4 : (lenL (fun _ => True)) v4) (hp0 : 0 ≤ v5) (hp1 : v5 < v4.length) : TotP (QeS v1 v2 v3 v4 v5 v6) fun r => True := by
 unfold QeS
 refine TotP.bind (QmH v1 v2 (h_v1)) (fun x_1 hv2 => ?_)
 refine TotP.bif (fun hc3 => ?_) (fun hc3 => ?_)
 ·exact TotP.okT
 ·refine TotP.bind (QmI v4 v5 v2 (h_v4) (by omega) (by omega)) (fun x_4 hv5 => ?_)
  refine TotP.bif (fun hc6 => ?_) (fun hc6 => ?_)
  ·exact TotP.okT
  ·exact TotP.okT
theorem QnL (k1 : Int) (place2 : Int) (v3 : TNet) (v4 : (List Int)) (h_v3 : QH v3) (h_v4 : (lenL (fun _ => True)) v4) (hp0 : 0 ≤ k1) (hp1 : k1 < v4.length) : TotP (Qd1 k1 place2 v3 v4) fun r => True := by
 unfold Qd1
 refine TotP.bind (Qos v3 place2 3 v4 k1 5 (h_v3) (h_v4) (by omega) (by omega)) (fun x_1 hv2 => ?_)
 exact TotP.okT
theorem Qot (l1 : (List Int)) (v2 : TNet) (v3 : (List Int)) (h_l1 : (lenL (fun _ => True)) l1) (h_v2 : QH v2) (h_v3 : (lenL (fun _ => True)) v3) (hp0 : l1.length ≤ v3.length) : TotP (QeT l1 v2 v3) fun r => True := by
 unfold QeT
 refine TotP.bind (TotP.up (l1.length) (fun st => st) (fun _ => True) (Q := fun q => True) rfl trivial (fun i2 st hi3 hn4 hj5 => ?_)) (fun q6 hq7 => ?_)
 ·obtain ⟨x_1, hst⟩ : ∃ y, y = st := ⟨_, rfl⟩
  subst hst
  replace hi3 : x_1 = (i2 : Int) := hi3
  show TotP (QbZ l1 v2 v3 x_1) _
  unfold QbZ
  refine TotP.bif (fun hc8 => ?_) (fun hc8 => ?_)
  ·refine TotP.bind (TotP.idx (by omega) (by simp_all)) (fun e_9 hv10 => ?_)
   refine TotP.bind (QnL x_1 e_9 v2 v3 (h_v2) (h_v3) (by omega) (by simp_all; omega)) (fun x_11 hv12 => ?_)
   refine TotP.bif (fun hc13 => ?_) (fun hc13 => ?_)
   ·exact TotP.ok (Qn trivial)
   ·exact TotP.ok (QC ⟨(by simp_all), by subst hi3; exact Qx (by simp_all) (h_l1).1, trivial⟩)
  ·exact TotP.ok (Qn trivial)
 rcases q6 with q6 | q6
 ·show TotP (QcW q6.1 q6.2) _
  unfold QcW
  exact TotP.okT
 ·show TotP (QcX) _
  unfold QcX
  exact TotP.okT
theorem Qo9 (n1 : TNet) (l2 : (List Int)) (h_n1 : QH n1) (h_l2 : (lenL (fun _ => True)) l2) : TotP (QfB n1 l2) fun r => True := by
 unfold QfB
 refine TotP.bind (Qot l2 n1 l2 (h_l2) (h_n1) (h_l2) (by omega)) (fun x_1 hv2 => ?_)
 exact TotP.okT
theorem Qpa (v1 : TNet) (v2 : Qr) (h_v1 : QH v1) (h_v2 : Qam v2) : TotP (QfC v1 v2) fun r => True := by
 unfold QfC
 refine TotP.bind (Qo9 v1 v2.Cancel (h_v1) (h_v2.2.2.2.2.2.2.2.1)) (fun x_1 hv2 => ?_)
 exact TotP.okT
theorem Qnm (v1 : TNet) (v2 : Qr) (v3 : Int) (h_v1 : QH v1) (h_v2 : Qam v2) : TotP (Qdq v1 v2 v3) fun r => True := by
 unfold Qdq
 refine TotP.bind (Qpa v1 v2 (h_v1) (h_v2)) (fun x_1 hv2 => ?_)
 exact TotP.okT
theorem QkZ (k1 : Int) (l2 : (List TArc)) (h_l2 : (lenL Qh3) l2) : TotP (QdG k1 l2) fun r => True := by
 unfold QdG
 exact TotP.okT
theorem Qqx (t1 : Qr) (h_t1 : Qam t1) : TotP (Qg7 t1) fun r => True := by
 unfold Qg7
 refine TotP.bind (P := fun _ => True) ?_ (fun x_1 hv2 => ?_)
 ·unfold Qjc
  refine TotP.bind (QkZ t1.Join t1.Ins (h_t1.2.2.2.2.2.1)) (fun x_3 hv4 => ?_)
  refine TotP.bif (fun hc5 => ?_) (fun hc5 => ?_)
  ·refine TotP.bind (QkZ t1.Split t1.Outs (h_t1.2.2.2.2.2.2.1)) (fun x_6 hv7 => ?_)
   refine TotP.bif (fun hc8 => ?_) (fun hc8 => ?_)
   ·refine TotP.bif (fun hc9 => ?_) (fun hc9 => ?_)
    ·refine TotP.bif (fun hc10 => ?_) (fun hc10 => ?_)
     ·exact TotP.okT
     ·exact TotP.okT
    ·exact TotP.okT
   ·exact TotP.okT
  ·exact TotP.okT
 unfold QeU
 exact TotP.okT
theorem Qpb (v1 : Qr) (h_v1 : Qam v1) : TotP (QfD v1) fun r => True := by
 unfold QfD
 refine TotP.bind (Qqx v1 (h_v1)) (fun x_1 hv2 => ?_)
 exact TotP.okT
theorem Qou (v1 : Qr) (v2 : Int) (v3 : TNet) (v4 : Int) (v5 : Int) (v6 : Int) (v7 : Int) (v8 : Int) (v9 : Int) (v10 : Int) (v11 : Int) (v12 : Int) (v13 : Int) (v14 : Int) (v15 : Int) (h_v1 : Qam v1) (h_v3 : QH v3) (hp0 : 0 ≤ v4) (hp1 : v4 < v3.Tasks.length) : TotP (Qda v1 v2 v3 v4 v5 v6 v7 v8 v9 v10 v11 v12 v13 v14 v15) fun r => True := by
 unfold Qda
 refine TotP.bind (QpF v1 (h_v1)) (fun x_1 hv2 => ?_)
 refine TotP.bif (fun hc3 => ?_) (fun hc3 => ?_)
 ·exact TotP.okT
 ·refine TotP.bind (QpH v3 v4 v1 (h_v3) (h_v1) (by omega) (by omega)) (fun x_4 hv5 => ?_)
  refine TotP.bif (fun hc6 => ?_) (fun hc6 => ?_)
  ·exact TotP.okT
  ·refine TotP.bind (QpI v6 v1 (h_v1)) (fun x_7 hv8 => ?_)
   refine TotP.bif (fun hc9 => ?_) (fun hc9 => ?_)
   ·exact TotP.okT
   ·refine TotP.bind (Qo8 v3 v1 v8 (h_v3) (h_v1)) (fun x_10 hv11 => ?_)
    refine TotP.bif (fun hc12 => ?_) (fun hc12 => ?_)
    ·exact TotP.okT
    ·refine TotP.bind (QpK v3 v4 (h_v3)) (fun x_13 hv14 => ?_)
     refine TotP.bif (fun hc15 => ?_) (fun hc15 => ?_)
     ·exact TotP.okT
     ·refine TotP.bind (QpL v1 v6 (h_v1)) (fun x_16 hv17 => ?_)
      refine TotP.bif (fun hc18 => ?_) (fun hc18 => ?_)
      ·exact TotP.okT
      ·refine TotP.bind (Qnk v3 v1 v6 x_10.2 (h_v3) (h_v1)) (fun x_19 hv20 => ?_)
       refine TotP.bif (fun hc21 => ?_) (fun hc21 => ?_)
       ·exact TotP.okT
       ·refine TotP.bind (Qnl v3 v1 v6 x_19.2 (h_v3) (h_v1)) (fun x_22 hv23 => ?_)
        refine TotP.bif (fun hc24 => ?_) (fun hc24 => ?_)
        ·exact TotP.okT
        ·refine TotP.bind (Qnm v3 v1 x_22.2 (h_v3) (h_v1)) (fun x_25 hv26 => ?_)
         refine TotP.bif (fun hc27 => ?_) (fun hc27 => ?_)
         ·exact TotP.okT
         ·refine TotP.bind (Qpb v1 (h_v1)) (fun x_28 hv29 => ?_)
          refine TotP.bif (fun hc30 => ?_) (fun hc30 => ?_)
          ·exact TotP.okT
          ·exact TotP.okT
theorem QmJ (n1 : TNet) (k2 : Int) (h_n1 : QH n1) : TotP (QbD n1 k2) fun r => True := by
 unfold QbD
 refine TotP.bind (Qh4 n1.Tasks k2 (h_n1.2.2.1)) (fun x_1 hv2 => ?_)
 refine TotP.bif (fun hc3 => ?_) (fun hc3 => ?_)
 ·exact TotP.okT
 ·refine TotP.bind (QkY n1 (h_n1)) (fun x_4 hv5 => ?_)
  refine TotP.bif (fun hc6 => ?_) (fun hc6 => ?_)
  ·exact TotP.okT
  ·refine TotP.bind (TotP.idx (by simp_all) (by simp_all)) (fun e_7 hv8 => ?_)
   refine TotP.bind (TotP.idx (by simp_all) (by simp_all)) (fun e_9 hv10 => ?_)
   refine TotP.bind (Qqw 0 n1 e_7 (h_n1) (((h_n1.2.2.1).2 e_7 hv8))) (fun x_11 hv12 => ?_)
   refine TotP.bind (Qol 0 n1 e_7 (e_9.Vars.length : Int) (h_n1) (((h_n1.2.2.1).2 e_7 hv8))) (fun x_13 hv14 => ?_)
   refine TotP.bind (Qom 0 n1 e_7 (e_9.Vars.length : Int) (h_n1) (((h_n1.2.2.1).2 e_7 hv8))) (fun x_15 hv16 => ?_)
   refine TotP.bind (Qon 0 n1 e_7 (h_n1) (((h_n1.2.2.1).2 e_7 hv8))) (fun x_17 hv18 => ?_)
   refine TotP.bind (Qou e_7 1 n1 k2 5 (e_9.Vars.length : Int) 2 0 (-1) 2 1 (-1) (-1) (-1) 11 (((h_n1.2.2.1).2 e_7 hv8)) (h_n1) (by simp_all) (by simp_all)) (fun x_19 hv20 => ?_)
   refine TotP.bif (fun hc21 => ?_) (fun hc21 => ?_)
   ·exact TotP.okT
   ·exact TotP.okT
theorem Qqy (k1 : Int) (p2 : Qr) (v3 : TNet) (h_p2 : Qam p2) (h_v3 : QH v3) : TotP (Qff k1 p2 v3) fun r => True := by
 unfold Qff
 refine TotP.bind (QmJ v3 k1 (h_v3)) (fun x_1 hv2 => ?_)
 exact TotP.okT
theorem QlX (l1 : (List Qr)) (v2 : TNet) (h_l1 : (lenL Qam) l1) (h_v2 : QH v2) : TotP (Qa7 l1 v2) fun r => True := by
 unfold Qa7
 refine TotP.bind (TotP.up (l1.length) (fun st => st) (fun _ => True) (Q := fun q => True) rfl trivial (fun i2 st hi3 hn4 hj5 => ?_)) (fun q6 hq7 => ?_)
 ·obtain ⟨x_1, hst⟩ : ∃ y, y = st := ⟨_, rfl⟩
  subst hst
  replace hi3 : x_1 = (i2 : Int) := hi3
  show TotP (Qao l1 v2 x_1) _
  unfold Qao
  refine TotP.bif (fun hc8 => ?_) (fun hc8 => ?_)
  ·refine TotP.bind (TotP.idx (by omega) (by simp_all)) (fun e_9 hv10 => ?_)
   refine TotP.bind (Qqy x_1 e_9 v2 (((h_l1).2 e_9 hv10)) (h_v2)) (fun x_11 hv12 => ?_)
   refine TotP.bif (fun hc13 => ?_) (fun hc13 => ?_)
   ·exact TotP.ok (Qn trivial)
   ·exact TotP.ok (QC ⟨(by simp_all), by subst hi3; exact Qx (by simp_all) (h_l1).1, trivial⟩)
  ·exact TotP.ok (Qn trivial)
 rcases q6 with q6 | q6
 ·show TotP (QbE q6.1 q6.2) _
  unfold QbE
  exact TotP.okT
 ·show TotP (QbF) _
  unfold QbF
  exact TotP.okT
theorem Qrr (n1 : TNet) (h_n1 : QH n1) : TotP (QfT n1) fun r => True := by
 unfold QfT
 refine TotP.bind (Qqp n1 2 3 1 (h_n1)) (fun x_1 hv2 => ?_)
 refine TotP.bif (fun hc3 => ?_) (fun hc3 => ?_)
 ·exact TotP.okT
 ·refine TotP.bind (QkY n1 (h_n1)) (fun x_4 hv5 => ?_)
  refine TotP.bif (fun hc6 => ?_) (fun hc6 => ?_)
  ·exact TotP.okT
  ·refine TotP.bind (QlH n1.Places n1 (h_n1.2.1) (h_n1)) (fun x_7 hv8 => ?_)
   refine TotP.bif (fun hc9 => ?_) (fun hc9 => ?_)
   ·exact TotP.okT
   ·refine TotP.bind (QlX n1.Tasks n1 (h_n1.2.2.1) (h_n1)) (fun x_10 hv11 => ?_)
    refine TotP.bif (fun hc12 => ?_) (fun hc12 => ?_)
    ·exact TotP.okT
    ·exact TotP.okT
theorem Qr2 (a1 : Int) (b2 : Int)  : TotP (Qjw a1 b2) fun r => True := by
 unfold Qjw
 refine TotP.bif (fun hc1 => ?_) (fun hc1 => ?_)
 ·exact TotP.okT
 ·exact TotP.okT
theorem QnM (a1 : Int) (b2 : Int)  : TotP (QdT a1 b2) fun r => True := by
 unfold QdT
 refine TotP.bif (fun hc1 => ?_) (fun hc1 => ?_)
 ·exact TotP.okT
 ·exact TotP.okT
theorem Qnt (a1 : Int)  : TotP (Qhb a1) fun r => True := by
 unfold Qhb
 refine TotP.bif (fun hc1 => ?_) (fun hc1 => ?_)
 ·exact TotP.okT
 ·exact TotP.okT
theorem QnN (p1 : Int) (y2 : Int)  : TotP (QdU p1 y2) fun r => True := by
 unfold QdU
 exact TotP.okT
theorem QpP (a1 : Int) (b2 : Int)  : TotP (Qga a1 b2) fun r => True := by
 unfold Qga
 refine TotP.bind (Qnt a1 ) (fun x_1 hv2 => ?_)
 refine TotP.bind (Qnt b2 ) (fun x_3 hv4 => ?_)
 refine TotP.bind (QnN x_1 x_3 ) (fun x_5 hv6 => ?_)
 refine TotP.bif (fun hc7 => ?_) (fun hc7 => ?_)
 ·unfold QcK
  refine TotP.bif (fun hc8 => ?_) (fun hc8 => ?_)
  ·exact TotP.okT
  ·exact TotP.okT
 ·unfold QcK
  refine TotP.bif (fun hc9 => ?_) (fun hc9 => ?_)
  ·exact TotP.okT
  ·exact TotP.okT
theorem Qk0 (a1 : Int) (b2 : Int)  : TotP (Qdy a1 b2) fun r => True := by
 unfold Qdy
 refine TotP.bif (fun hc1 => ?_) (fun hc1 => ?_)
 ·exact TotP.okT
 ·refine TotP.bif (fun hc2 => ?_) (fun hc2 => ?_)
  ·exact TotP.okT
  ·refine TotP.bind (TotP.chk (by simp_all)) (fun _ _ => ?_)
   refine TotP.bind (TotP.chk (by simp_all)) (fun _ _ => ?_)
   exact TotP.okT
theorem Qdu (is1 : Bool)  : TotP (Qca is1) fun r => True := by
 unfold Qca
 refine TotP.bif (fun hc1 => ?_) (fun hc1 => ?_)
 ·exact TotP.okT
 ·exact TotP.okT
theorem QiL (op1 : Int) (a2 : Int) (b3 : Int)  : TotP (QgB op1 a2 b3) fun r => True := by
 unfold QgB
 refine TotP.bif (fun hc1 => ?_) (fun hc1 => ?_)
 ·refine TotP.bind (Qr2 a2 b3 ) (fun x_2 hv3 => ?_)
  exact TotP.okT
 ·refine TotP.bif (fun hc4 => ?_) (fun hc4 => ?_)
  ·refine TotP.bind (QnM a2 b3 ) (fun x_5 hv6 => ?_)
   exact TotP.okT
  ·refine TotP.bif (fun hc7 => ?_) (fun hc7 => ?_)
   ·refine TotP.bind (QpP a2 b3 ) (fun x_8 hv9 => ?_)
    exact TotP.okT
   ·refine TotP.bif (fun hc10 => ?_) (fun hc10 => ?_)
    ·refine TotP.bind (Qk0 a2 b3 ) (fun x_11 hv12 => ?_)
     exact TotP.okT
    ·refine TotP.bif (fun hc13 => ?_) (fun hc13 => ?_)
     ·refine TotP.bind (Qk0 a2 b3 ) (fun x_14 hv15 => ?_)
      exact TotP.okT
     ·refine TotP.bif (fun hc16 => ?_) (fun hc16 => ?_)
      ·refine TotP.bind (Qdu (a2 == b3) ) (fun x_17 hv18 => ?_)
       exact TotP.okT
      ·refine TotP.bif (fun hc19 => ?_) (fun hc19 => ?_)
       ·refine TotP.bind (Qdu (a2 != b3) ) (fun x_20 hv21 => ?_)
        exact TotP.okT
       ·refine TotP.bif (fun hc22 => ?_) (fun hc22 => ?_)
        ·refine TotP.bind (Qdu (decide (a2 < b3)) ) (fun x_23 hv24 => ?_)
         exact TotP.okT
        ·refine TotP.bif (fun hc25 => ?_) (fun hc25 => ?_)
         ·refine TotP.bind (Qdu (decide (a2 ≤ b3)) ) (fun x_26 hv27 => ?_)
          exact TotP.okT
         ·refine TotP.bif (fun hc28 => ?_) (fun hc28 => ?_)
          ·refine TotP.bind (P := fun _ => True) ?_ (fun v_29 hv30 => ?_)
           ·unfold Qln
            refine TotP.bif (fun hc31 => ?_) (fun hc31 => ?_)
            ·refine TotP.bind (Qdu (b3 != 0) ) (fun x_32 hv33 => ?_)
             exact TotP.okT
            ·refine TotP.bind (Qdu false ) (fun x_34 hv35 => ?_)
             exact TotP.okT
           unfold QhO
           exact TotP.okT
          ·refine TotP.bif (fun hc36 => ?_) (fun hc36 => ?_)
           ·refine TotP.bind (P := fun _ => True) ?_ (fun v_37 hv38 => ?_)
            ·unfold Qlo
             refine TotP.bif (fun hc39 => ?_) (fun hc39 => ?_)
             ·refine TotP.bind (Qdu true ) (fun x_40 hv41 => ?_)
              exact TotP.okT
             ·refine TotP.bind (Qdu (b3 != 0) ) (fun x_42 hv43 => ?_)
              exact TotP.okT
            unfold QhP
            exact TotP.okT
           ·exact TotP.okT
theorem Qov (a1 : Int)  : TotP (Qjy a1) fun r => True := by
 unfold Qjy
 refine TotP.bind (QiL 2 0 a1 ) (fun x_1 hv2 => ?_)
 exact TotP.okT
end Go.Proofs
