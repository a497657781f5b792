/- A part of the proof; what it holds is told at each theorem. -/
import Derived.Test.YtpijolohkdchcaaGreatDoorFiF
import Derived.Test.YtpijolohkdchcaaGreatDoorFiS
set_option linter.unusedVariables false
set_option linter.unusedSimpArgs false
set_option linter.unusedSectionVars false
set_option linter.deprecated false
noncomputable section
namespace Go.Proofs
open Go Go.RowKit Go.Vm
theorem Qs8 (n : TNet) (m : List (List (Int × Int))) (picks : List Int) (k : Int) (hn : QH n) (hm0 : lenL (lenL fun _ => True) m) : QcM n m picks k = some true := by
 unfold QcM
 rw [Qs7, Option.bind_some]
 obtain ⟨f, hf, hf2⟩ := QuW n m hn hm0
 rw [hf, Option.bind_some]
 cases hc : ((!f) || decide (8 < (picks.length : Int))) with
 | true => rfl
 | false =>
  simp only [cond_false]
  simp only [Bool.or_eq_false_iff, Bool.not_eq_false', decide_eq_false_iff_not] at hc
  obtain ⟨h, hm⟩ := hf2 hc.1
  obtain ⟨l, hl, hl1, hl2, x, hx⟩ := QuC n m picks h hm (by omega)
  rw [hl, Option.bind_some]
  cases hc2 : ((decide (k < 0)) || (decide ((l.length : Int) < k))) with
  | true => rfl
  | false =>
   simp only [cond_false]
   simp only [Bool.or_eq_false_iff, decide_eq_false_iff_not] at hc2
   have hk : k.toNat ≤ l.length := by omega
   rw [Qqi (by simp only [Bool.and_eq_true, decide_eq_true_eq]; omega), Option.bind_some, List.drop_zero, Nat.sub_zero]
   have hsplit : Qde n m (l.take k.toNat ++ l.drop k.toNat) = some x := by rw [List.take_append_drop]; exact hx
   rw [Qrc] at hsplit
   obtain ⟨a, ha1, ha2⟩ := Qb hsplit
   have ha := QpQ h _ 1024 m a hm (fun o ho => hl2 o (List.mem_of_mem_take ho)) (by simp; omega) ha1
   have hX := QpQ h l 1024 m x hm hl2 (by omega) hx
   have lt : (l.take k.toNat).length = k.toNat := by simp; omega
   have ld : (l.drop k.toNat).length = l.length - k.toNat := by simp
   rw [Qsb h hm (by omega) (by omega) ha1, Option.bind_some, Qqi (by simp only [Bool.and_eq_true, decide_eq_true_eq]; omega), Option.bind_some]
   rw [show (l.drop k.toNat).take (l.length - k.toNat) = l.drop k.toNat from List.take_of_length_le (by omega)]
   rw [Qsb h ha (by rw [lt]; omega) (by omega) ha2, Option.bind_some, Qsb h hm (by omega) (by omega) hx, Option.bind_some]
   have g1 : Qd7 (a, ((l.take k.toNat).length : Int)) k (x, ((l.drop k.toNat).length : Int)) l (x, (l.length : Int)) = some false := by
    unfold Qd7
    rw [lt, ld, Qdr (by omega)]
    rw [show ((a, (k.toNat : Int)).2 != k) = false by simp; omega, show ((x, ((l.length - k.toNat : Nat) : Int)).2 != (l.length : Int) - k) = false by simp; omega, show ((x, (l.length : Int)).2 != (l.length : Int)) = false by simp]
    simp only [cond_false]
    rw [QmL h hX (by omega)]; rfl
   rw [g1, Option.bind_some]
   unfold QcH
   simp only [cond_false]
   cases l with
   | nil => rfl
   | cons o r =>
    rw [show (((o :: r).length : Int) == 0) = false by simp; omega, cond_false, show idx (o :: r) 0 = some o from rfl]
    simp only [Option.bind_some]
    obtain ⟨y, hy1, hy2⟩ := Qno hx
    have hD := hy1
    unfold Qcl at hD
    obtain ⟨t, ht, hD⟩ := Qb hD
    obtain ⟨t1, t2⟩ := t
    rcases bifE hD with ⟨c, hD⟩ | ⟨c, hD⟩
    ·simp only [Option.some.injEq, Prod.mk.injEq] at hD
     simp only [hD.2] at c
     cases c
    ·simp only [bne_eq_false_iff_eq] at c
     subst c
     obtain ⟨z, hz, hD⟩ := Qb hD
     obtain ⟨z1, z2⟩ := z
     simp only [Option.some.injEq, Prod.mk.injEq] at hD
     obtain ⟨rfl, rfl⟩ := hD
     have hyM := Qsv (t_Do n m o 1024 h hm (by omega) (hl2 o List.mem_cons_self)) hy1 rfl
     rw [ht, Option.bind_some]
     simp only [show ((0 : Int) != 0) = false from rfl, cond_false]
     rw [hz, Option.bind_some, hy1, Option.bind_some]
     unfold QgR
     simp only [show ((0 : Int) == 0) = true from rfl, cond_true]
     rw [QmL h hyM (by omega)]; rfl
end Go.Proofs
