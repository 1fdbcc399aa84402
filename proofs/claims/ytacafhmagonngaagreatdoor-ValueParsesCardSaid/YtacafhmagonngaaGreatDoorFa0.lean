/- Floats by their bits: words that are no NaN stand as their signed rungs do. No program in sight. -/
import Ieee.Arith
set_option linter.unusedVariables false
set_option linter.unusedSimpArgs false
namespace Go.Proofs.YtacafhmagonngaaGreatDoor
open Ieee

abbrev B52 : Nat := 4503599627370496
abbrev B63 : Nat := 9223372036854775808
abbrev Inf : Nat := 9218868437227405312
/-- the magnitude of a rung, in units of the least place -/
def mag (r : Nat) : Nat := if r < B52 then r else (B52 + r % B52) <<< (r / B52 - 1)
theorem mag_low {r : Nat} (h : r < B52) : mag r = r := by simp [mag, h]
theorem mag_ge {r : Nat} (h : B52 ≤ r) : mag r = (B52 + r % B52) * 2 ^ (r / B52 - 1) := by
  unfold mag
  rw [if_neg (by omega), Nat.shiftLeft_eq]
theorem mag_bounds {r : Nat} (h : B52 ≤ r) : B52 * 2 ^ (r / B52 - 1) ≤ mag r ∧ mag r < B52 * 2 ^ (r / B52) := by
  rw [mag_ge h]
  have h1 : 1 ≤ r / B52 := (Nat.one_le_div_iff (by decide)).2 h
  have h2 : r % B52 < B52 := Nat.mod_lt _ (by decide)
  have h3 : 0 < 2 ^ (r / B52 - 1) := Nat.pow_pos (by decide)
  refine ⟨Nat.mul_le_mul_right _ (by omega), ?_⟩
  have h4 : 2 ^ (r / B52) = 2 * 2 ^ (r / B52 - 1) := by
    rw [← Nat.pow_succ', show (r / B52 - 1).succ = r / B52 from by omega]
  rw [h4, ← Nat.mul_assoc]
  exact Nat.mul_lt_mul_of_pos_right (by omega) h3
theorem mag_mono {r s : Nat} (h : r < s) : mag r < mag s := by
  by_cases hs : s < B52
  · rw [mag_low hs, mag_low (by omega)]; exact h
  · have hs' : B52 ≤ s := by omega
    have b2 := mag_bounds hs'
    have h1 : 1 ≤ s / B52 := (Nat.one_le_div_iff (by decide)).2 hs'
    have h3 : 1 ≤ 2 ^ (s / B52 - 1) := Nat.pow_pos (by decide)
    by_cases hr : r < B52
    · rw [mag_low hr]
      have : B52 * 1 ≤ B52 * 2 ^ (s / B52 - 1) := Nat.mul_le_mul_left _ h3
      omega
    · have hr' : B52 ≤ r := by omega
      have b1 := mag_bounds hr'
      have hd : r / B52 ≤ s / B52 := Nat.div_le_div_right (by omega)
      by_cases e : r / B52 = s / B52
      · rw [mag_ge hr', mag_ge hs', e]
        refine Nat.mul_lt_mul_of_pos_right ?_ h3
        have e1 := Nat.div_add_mod r B52
        have e2 := Nat.div_add_mod s B52
        rw [e] at e1
        omega
      · have hl : r / B52 ≤ s / B52 - 1 := by omega
        have hp : 2 ^ (r / B52) ≤ 2 ^ (s / B52 - 1) := Nat.pow_le_pow_right (by decide) hl
        have := Nat.mul_le_mul_left B52 hp
        omega
theorem mag_inj {r s : Nat} (h : mag r = mag s) : r = s := by
  rcases Nat.lt_trichotomy r s with h1 | h1 | h1
  · have := mag_mono h1; omega
  · exact h1
  · have := mag_mono h1; omega
end Go.Proofs.YtacafhmagonngaaGreatDoor
