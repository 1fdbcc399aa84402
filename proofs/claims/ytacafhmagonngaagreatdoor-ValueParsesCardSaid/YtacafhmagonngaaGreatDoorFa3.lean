/- Floats by their bits: whole numbers by their parts. No program in sight. -/
import Derived.Test.YtacafhmagonngaaGreatDoorFa2
set_option linter.unusedVariables false
set_option linter.unusedSimpArgs false
namespace Go.Proofs.YtacafhmagonngaaGreatDoor
open Ieee

theorem mag_parts {r e m : Nat} (h1 : r = e * B52 + m) (h2 : m < B52) (h3 : 1 ≤ e) : mag r = (B52 + m) * 2 ^ (e - 1) := by
  have hd : r / B52 = e := by unfold B52 at *; omega
  have hm : r % B52 = m := by unfold B52 at *; omega
  rw [mag_ge (by unfold B52 at *; omega), hd, hm]
theorem mag_pos {r : Nat} (h : 0 < r) : 0 < mag r := by
  have := mag_mono h
  have h0 : mag 0 = 0 := mag_low (by decide)
  omega
theorem whole_zero {w : Nat} (h : rungW w = 0) : wholeW w = true ∧ wholeV w = 0 := by
  have h0 : mag 0 = 0 := mag_low (by decide)
  have hw : wholeW w = true := by
    unfold wholeW
    rw [h, h0, Nat.zero_mod]
    rfl
  refine ⟨hw, ?_⟩
  unfold wholeV
  rw [if_pos hw]
  have : intW w = 0 := by unfold intW; rw [h, h0, Nat.zero_div]
  rw [this]
  split <;> rfl
theorem whole_not {w : Nat} (h : wholeW w = false) : wholeV w = 0 := by unfold wholeV; rw [if_neg (by simp [h])]
theorem whole_small {w e m : Nat} (h1 : rungW w = e * B52 + m) (h2 : m < B52) (h3 : e < 1023) (h4 : 0 < rungW w) : wholeW w = false := by
  have hlt : rungW w < 1023 * B52 := by rw [h1]; unfold B52 at *; omega
  have hm := mag_mono hlt
  have hu : mag (1023 * B52) = U := by
    rw [mag_parts (r := 1023 * B52) (e := 1023) (m := 0) (Nat.add_zero _).symm (by decide) (by decide), U_split 1022 (by decide), Nat.add_zero, show 1023 - 1 = 1022 from rfl, show 1074 - 1022 = 52 from rfl, show B52 = 2 ^ 52 from by decide]
  have hp := mag_pos h4
  unfold wholeW
  rw [Bool.and_eq_false_iff]
  right
  rw [Nat.mod_eq_of_lt (by omega)]
  exact decide_eq_false (by omega)
theorem whole_big {w : Nat} (h : R53 < rungW w) : wholeW w = false := by
  unfold wholeW
  rw [decide_eq_false (by omega), Bool.false_and]
theorem whole_mid {w e m d : Nat} (h1 : rungW w = e * B52 + m) (h2 : m < B52) (h3 : e + d = 1075) (h4 : d ≤ 52) : wholeW w = decide ((B52 + m) % 2 ^ d = 0) ∧ intW w = (B52 + m) / 2 ^ d := by
  have hle : rungW w ≤ R53 := by rw [h1]; unfold R53 B52 at *; omega
  obtain ⟨Z, hp, hU, hm⟩ : ∃ Z, 0 < Z ∧ U = Z * 2 ^ d ∧ mag (rungW w) = (B52 + m) * Z := by
    have hm := mag_parts h1 h2 (by omega)
    have he : e - 1 = 1074 - d := by omega
    rw [he] at hm
    exact ⟨2 ^ (1074 - d), Nat.pow_pos (by decide), U_split d (by omega), hm⟩
  constructor
  · unfold wholeW
    rw [decide_eq_true hle, Bool.true_and, hm, hU, Nat.mul_comm (B52 + m), Nat.mul_mod_mul_left]
    rw [Bool.eq_iff_iff, decide_eq_true_iff, decide_eq_true_iff]
    constructor
    · intro h
      rcases Nat.mul_eq_zero.1 h with h | h
      · omega
      · exact h
    · intro h; rw [h, Nat.mul_zero]
  · unfold intW
    rw [hm, hU, Nat.mul_comm (B52 + m), Nat.mul_div_mul_left _ _ hp]
theorem whole_top {w : Nat} (h : rungW w = R53) : wholeW w = true ∧ intW w = 9007199254740992 := by
  constructor
  · unfold wholeW
    rw [h, mag53, Nat.mul_mod_left]
    decide
  · unfold intW
    rw [h, mag53, Nat.mul_div_cancel _ U_pos]
end Go.Proofs.YtacafhmagonngaaGreatDoor
