/- Floats of whole numbers: where they stand, their text. No code is stepped through. -/
import Derived.Test.YtacafhmagonngaaGreatDoorFe2
import Derived.Test.YtacafhmagonngaaGreatDoorFa4
set_option linter.unusedVariables false
set_option linter.unusedSimpArgs false
namespace Go.Proofs.YtacafhmagonngaaGreatDoor
open Go.RowKit

structure IsInt (w : Nat) (a : Int) : Prop where
  neg : negW w = decide (a < 0)
  mg : mag (rungW w) = a.natAbs * U
  le : rungW w ≤ R53
  lt : w < 18446744073709551616
theorem fromW_int {a : Int} (h : a.natAbs ≤ 9007199254740992) : IsInt (fromW a) a := by
  obtain ⟨r, h1, h2, h3⟩ := fromW_spec a h
  have hr : r < B63 := Nat.lt_of_le_of_lt h3 (by decide)
  obtain ⟨n1, n2⟩ := word_neg (decide (a < 0)) r hr
  rw [h1]
  exact ⟨n1, by rw [n2]; exact h2, by rw [n2]; exact h3, word_range _ r hr⟩
theorem IsInt.nan {w : Nat} {a : Int} (h : IsInt w a) : nanW w = false := by
  have hRI : (R53 : Nat) < Inf := by decide
  have := h.le
  unfold nanW
  exact decide_eq_false (by omega)
theorem IsInt.sm {w : Nat} {a : Int} (h : IsInt w a) : sm w = a * (U : Int) := by
  unfold YtacafhmagonngaaGreatDoor.sm
  rw [h.neg, h.mg]
  by_cases e : a < 0
  · rw [decide_eq_true e]
    simp only [if_true]
    rw [Int.natCast_mul, ← Int.neg_mul]
    congr 1
    omega
  · rw [decide_eq_false e]
    simp only [Bool.false_eq_true, if_false]
    rw [Int.natCast_mul]
    congr 1
    omega
theorem IsInt.cmp {v w : Nat} {a b : Int} (h : IsInt v a) (k : IsInt w b) : (sv v < sv w ↔ a < b) ∧ (sv v = sv w ↔ a = b) := by
  have hU : (0 : Int) < (U : Int) := by have := U_pos; omega
  rw [← sm_lt, ← sm_eq, h.sm, k.sm]
  exact ⟨⟨fun x => Int.lt_of_mul_lt_mul_right x (Int.le_of_lt hU), fun x => Int.mul_lt_mul_of_pos_right x hU⟩, ⟨fun x => Int.eq_of_mul_eq_mul_right (by omega) x, fun x => by rw [x]⟩⟩
theorem IsInt.cmpF {v w : Nat} {a b : Int} (h : IsInt v a) (k : IsInt w b) : YtacafhmagonngaaGreatDoor.cmpF v w = cmp3 a b := by
  obtain ⟨h1, h2⟩ := h.cmp k
  obtain ⟨h3, h4⟩ := k.cmp h
  unfold YtacafhmagonngaaGreatDoor.cmpF cmp3
  rw [h.nan, k.nan]
  simp only [Bool.or_self, Bool.false_eq_true, if_false, h1, h3]
theorem IsInt.whole {w : Nat} {a : Int} (h : IsInt w a) : wholeW w = true ∧ wholeV w = a := by
  have hi : intW w = a.natAbs := by unfold intW; rw [h.mg, Nat.mul_div_cancel _ U_pos]
  have hw : wholeW w = true := by
    unfold wholeW
    rw [decide_eq_true h.le, h.mg, Nat.mul_mod_left]
    rfl
  refine ⟨hw, ?_⟩
  unfold wholeV
  rw [if_pos hw, hi, h.neg]
  by_cases e : a < 0
  · rw [decide_eq_true e]; simp only [if_true]; omega
  · rw [decide_eq_false e]; simp only [Bool.false_eq_true, if_false]; omega
theorem IsInt.print {w : Nat} {a : Int} (h : IsInt w a) : printL w = Lib.itoa a ++ [46] := by
  have hRI : (R53 : Nat) < Inf := by decide
  have hl := h.le
  have hinf : ∀ s, infW s w = false := fun s => by
    unfold infW
    rw [show (rungW w == Inf) = false from by rw [beq_eq_false_iff_ne]; omega, Bool.and_false]
  obtain ⟨hw, hv⟩ := h.whole
  unfold printL
  rw [h.nan, hinf, hinf, hw, hv, h.neg]
  simp only [Bool.false_eq_true, if_false, if_true]
  rw [if_neg]
  intro e
  rw [Bool.and_eq_true, decide_eq_true_iff, beq_iff_eq] at e
  omega
end Go.Proofs.YtacafhmagonngaaGreatDoor
