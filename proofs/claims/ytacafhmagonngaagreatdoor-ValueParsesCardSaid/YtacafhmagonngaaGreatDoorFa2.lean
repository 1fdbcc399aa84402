/- Floats by their bits: whole numbers. No program in sight. -/
import Derived.Test.YtacafhmagonngaaGreatDoorFa1
set_option linter.unusedVariables false
set_option linter.unusedSimpArgs false
namespace Go.Proofs.YtacafhmagonngaaGreatDoor
open Ieee

abbrev R53 : Nat := 4845873199050653696
/-- one, in units of the least place -/
def pw (n : Nat) : Nat := 2 ^ n
def U : Nat := pw 1074
theorem pw_pos (n : Nat) : 0 < pw n := Nat.pow_pos (by decide)
theorem U_pos : 0 < U := pw_pos 1074
theorem pw_add (n k : Nat) : 2 ^ (n + k) = 2 ^ n * pw k := Nat.pow_add 2 n k
theorem pw_add' (n k : Nat) : pw (n + k) = 2 ^ n * 2 ^ k := Nat.pow_add 2 n k
theorem pow_split (a : Nat) (h : 1074 ≤ a) : 2 ^ a = 2 ^ (a - 1074) * U := by
  have := pw_add (a - 1074) 1074
  rwa [Nat.sub_add_cancel h] at this
theorem U_split (b : Nat) (h : b ≤ 1074) : U = 2 ^ (1074 - b) * 2 ^ b := by
  have := pw_add' (1074 - b) b
  rwa [Nat.sub_add_cancel h] at this
theorem cut_zero (s : Bool) (n drop : Nat) : Toward.zero.cut s n drop = n / 2 ^ drop := by
  unfold Toward.cut
  simp only [Bool.toNat_false, Nat.add_zero]
  rw [Nat.shiftLeft_eq, Nat.one_mul]
  by_cases h : drop ≤ n.log2 + 2
  · rw [Nat.min_eq_left h]
  · rw [Nat.min_eq_right (by omega)]
    have h1 : n < 2 ^ (n.log2 + 1) := Nat.lt_log2_self
    have h2 : 2 ^ (n.log2 + 1) ≤ 2 ^ (n.log2 + 2) := Nat.pow_le_pow_right (by decide) (by omega)
    have h3 : 2 ^ (n.log2 + 1) ≤ 2 ^ drop := Nat.pow_le_pow_right (by decide) (by omega)
    rw [Nat.div_eq_of_lt (by omega), Nat.div_eq_of_lt (by omega)]
theorem cut_even_exact (s : Bool) (n : Nat) : Toward.even.cut s n 0 = n := by
  unfold Toward.cut
  simp only [Nat.zero_min, Nat.shiftLeft_zero, Nat.div_one, Nat.mod_one, Nat.mul_zero]
  rfl
theorem near_zero (s : Bool) (p : Int) : double.nearest s 0 p = double.word s 0 := by unfold Format.nearest; rw [if_pos rfl]
theorem mag53 : mag R53 = 9007199254740992 * U := by
  rw [mag_ge (by decide), show R53 % B52 = 0 from by decide, show R53 / B52 - 1 = 1075 from by decide, Nat.add_zero, pow_split 1075 (by decide), show 1075 - 1074 = 1 from by decide, show (9007199254740992 : Nat) = B52 * 2 from by decide, Nat.mul_assoc, Nat.pow_one]
theorem near_exact (s : Bool) (T : Nat) (h1 : 1 ≤ T) (h2 : T ≤ 9007199254740992) : ∃ r, double.nearest s T 0 = double.word s r ∧ mag r = T * U ∧ r ≤ R53 := by
  have hb : double.binade = B52 := by decide
  have hi : double.infRung = Inf := by decide
  have hl : double.leastPlace = -1074 := by decide
  have hf : double.fractionBits = 52 := by decide
  have hL : T.log2 ≤ 53 := by
    have : T.log2 < 54 := (Nat.log2_lt (by omega)).2 (by omega)
    omega
  unfold Format.nearest
  rw [if_neg (by omega)]
  simp only [hb, hi, hl, hf]
  have hlast : max ((0 : Int) + (T.log2 : Int) - ((52 : Nat) : Int)) (-1074) = (T.log2 : Int) - 52 := by omega
  rw [hlast]
  by_cases hc : T.log2 ≤ 52
  · rw [show ((0 : Int) - ((T.log2 : Int) - 52)).toNat = 52 - T.log2 from by omega, show (((T.log2 : Int) - 52) - 0).toNat = 0 from by omega, cut_even_exact, Nat.shiftLeft_eq,
      show (((T.log2 : Int) - 52) - -1074).toNat = T.log2 + 1022 from by omega]
    have k1 : 2 ^ T.log2 ≤ T := Nat.log2_self_le (by omega)
    have k2 : T < 2 ^ (T.log2 + 1) := Nat.lt_log2_self
    have p1 : 2 ^ T.log2 * 2 ^ (52 - T.log2) = B52 := by rw [← Nat.pow_add, show T.log2 + (52 - T.log2) = 52 from by omega]
    have p2 : 2 ^ (T.log2 + 1) * 2 ^ (52 - T.log2) = 2 * B52 := by rw [← Nat.pow_add, show T.log2 + 1 + (52 - T.log2) = 53 from by omega]; decide
    have q1 : B52 ≤ T * 2 ^ (52 - T.log2) := by rw [← p1]; exact Nat.mul_le_mul_right _ k1
    have q2 : T * 2 ^ (52 - T.log2) < 2 * B52 := by rw [← p2]; exact Nat.mul_lt_mul_of_pos_right k2 (Nat.pow_pos (by decide))
    generalize hK : T * 2 ^ (52 - T.log2) = K at q1 q2 ⊢
    have hr : (T.log2 + 1022) * B52 + K ≤ R53 := by
      unfold R53 B52 at *
      omega
    refine ⟨(T.log2 + 1022) * B52 + K, ?_, ?_, hr⟩
    · rw [Nat.min_eq_left (Nat.le_trans hr (by decide))]
    · have hd : ((T.log2 + 1022) * B52 + K) / B52 = T.log2 + 1023 := by unfold B52 at *; omega
      have hm : ((T.log2 + 1022) * B52 + K) % B52 = K - B52 := by unfold B52 at *; omega
      rw [mag_ge (by unfold B52 at *; omega), hd, hm, show B52 + (K - B52) = K from by omega, ← hK, Nat.mul_assoc, U_split (52 - T.log2) (by omega), Nat.mul_comm (2 ^ (1074 - _)), show T.log2 + 1023 - 1 = 1074 - (52 - T.log2) from by omega]
  · have hL2 : T.log2 = 53 := by omega
    have hT : T = 9007199254740992 := by
      have := Nat.log2_self_le (n := T) (by omega)
      rw [hL2] at this
      omega
    subst hT
    refine ⟨R53, ?_, ?_, Nat.le_refl _⟩
    · have hcut : Toward.even.cut s 9007199254740992 1 = B52 := by
        unfold Toward.cut
        rw [hL2]
        simp only [show min 1 (53 + 2) = 1 from by decide, show (1 : Nat) <<< 1 = 2 from by decide]
        cases s <;> decide
      rw [hL2, show ((0 : Int) - (((53 : Nat) : Int) - 52)).toNat = 0 from by decide, show ((((53 : Nat) : Int) - 52) - 0).toNat = 1 from by decide, Nat.shiftLeft_zero, hcut, show ((((53 : Nat) : Int) - 52) - -1074).toNat = 1075 from by decide,
        show min (1075 * B52 + B52) Inf = R53 from by decide]
    · exact mag53

theorem word_neg (s : Bool) (r : Nat) (h : r < B63) : negW (double.word s r) = s ∧ rungW (double.word s r) = r := by
  have hs : double.signWeight = B63 := by decide
  unfold Format.word negW rungW
  rw [hs]
  cases s
  · simp only [Bool.false_eq_true, if_false]
    refine ⟨?_, Nat.mod_eq_of_lt h⟩
    rw [Nat.div_eq_of_lt h]; rfl
  · simp only [if_true]
    refine ⟨?_, ?_⟩
    · rw [show (B63 + r) / B63 = 1 from by unfold B63 at *; omega]; rfl
    · unfold B63 at *; omega

theorem mag_le {r s : Nat} (h : r ≤ s) : mag r ≤ mag s := by
  rcases Nat.lt_or_eq_of_le h with h | h
  · exact Nat.le_of_lt (mag_mono h)
  · rw [h]; exact Nat.le_refl _

/-- cut towards nought -/
def intW (w : Nat) : Nat := mag (rungW w) / U
theorem intW_le {w : Nat} (h : rungW w ≤ R53) : intW w ≤ 9007199254740992 := by
  unfold intW
  have h1 := mag_le h
  rw [mag53] at h1
  exact Nat.div_le_of_le_mul (by rw [Nat.mul_comm]; exact h1)
theorem int_num {m u : Nat} {s : Bool} : ((Datum.number s m ((u : Int) - 1074)).integral .zero) = .number s (m * 2 ^ u / U) 0 := by
  unfold Datum.integral
  simp only
  congr 1
  rw [cut_zero, Nat.shiftLeft_eq]
  by_cases h : 1074 ≤ u
  · rw [show ((u : Int) - 1074).toNat = u - 1074 from by omega, show (-((u : Int) - 1074)).toNat = 0 from by omega, Nat.pow_zero, Nat.div_one]
    rw [pow_split u h, ← Nat.mul_assoc, Nat.mul_div_cancel _ U_pos]
  · rw [show ((u : Int) - 1074).toNat = 0 from by omega, show (-((u : Int) - 1074)).toNat = 1074 - u from by omega, Nat.pow_zero, Nat.mul_one]
    rw [U_split u (by omega), Nat.mul_div_mul_right _ _ (Nat.pow_pos (by decide))]
theorem int_of {w : Nat} (h : rungW w < Inf) : (double.read w).integral .zero = .number (negW w) (intW w) 0 := by
  obtain ⟨m, u, hr, hm⟩ := read_num h
  rw [hr, int_num, intW, hm]
theorem toInt_of {w : Nat} (h : rungW w < Inf) : (double.read w).toInt .zero = some (if negW w then -(intW w : Int) else intW w) := by
  unfold Datum.toInt
  rw [int_of h]
  simp only [signed, Nat.shiftLeft_zero]

/-- is it whole -/
def wholeW (w : Nat) : Bool := decide (rungW w ≤ R53) && decide (mag (rungW w) % U = 0)
def wholeV (w : Nat) : Int := if wholeW w then (if negW w then -(intW w : Int) else intW w) else 0
def truncW (w : Nat) : Nat := double.write ((double.read w).integral .zero)
theorem trunc_order {w : Nat} (h : rungW w ≤ R53) : (double.order (truncW w) w != some .eq) = !(decide (mag (rungW w) % U = 0)) := by
  have hfin : rungW w < Inf := Nat.lt_of_le_of_lt h (by decide)
  have hT := intW_le h
  have key : ∃ r, truncW w = double.word (negW w) r ∧ mag r = intW w * U ∧ r ≤ R53 := by
    unfold truncW
    rw [int_of hfin]
    unfold Format.write
    simp only
    by_cases h0 : intW w = 0
    · refine ⟨0, by rw [h0]; exact near_zero _ _, by rw [h0, mag_low (by decide), Nat.zero_mul], by decide⟩
    · exact near_exact _ _ (by omega) hT
  obtain ⟨r, h1, h2, h3⟩ := key
  obtain ⟨n1, n2⟩ := word_neg (negW w) r (Nat.lt_of_le_of_lt h3 (by decide))
  rw [h1, order_word (by rw [n2]; exact Nat.le_trans h3 (by decide)) (Nat.le_of_lt hfin)]
  have hsv : sv (double.word (negW w) r) = sv w ↔ mag (rungW w) % U = 0 := by
    unfold sv
    rw [n1, n2]
    have a : r = rungW w ↔ mag (rungW w) % U = 0 := by
      have hd := Nat.div_add_mod (mag (rungW w)) (U)
      have hd' : U * intW w + mag (rungW w) % U = mag (rungW w) := hd
      rw [Nat.mul_comm, ← h2] at hd'
      constructor
      · intro e; rw [e] at hd'; omega
      · intro e; exact mag_inj (by omega)
    rw [← a]
    cases negW w <;> simp only [Bool.false_eq_true, if_false, if_true] <;> omega
  by_cases hz : mag (rungW w) % U = 0
  · rw [cmp_eq (hsv.2 hz), decide_eq_true hz]; rfl
  · have hne : sv (double.word (negW w) r) ≠ sv w := fun e => hz (hsv.1 e)
    rw [decide_eq_false hz]
    rcases Int.lt_or_gt_of_ne hne with hl | hl
    · rw [cmp_lt hl]; rfl
    · rw [cmp_gt hl]; rfl
end Go.Proofs.YtacafhmagonngaaGreatDoor
