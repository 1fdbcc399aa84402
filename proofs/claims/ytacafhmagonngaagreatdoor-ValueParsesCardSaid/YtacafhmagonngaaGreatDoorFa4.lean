/- Floats by their bits: the order by rank; signs turned. No code is stepped through. -/
import Derived.Test.YtacafhmagonngaaGreatDoorFb3
set_option linter.unusedVariables false
set_option linter.unusedSimpArgs false
namespace Go.Proofs.YtacafhmagonngaaGreatDoor
open Go.RowKit

theorem bits_flip {a : Int} (h0 : 0 ≤ a) (h1 : a < 18446744073709551616) : bits BinOp.xor .u64 a 9223372036854775808 = (flipW a.toNat : Int) := by
  obtain ⟨n, rfl⟩ := Int.eq_ofNat_of_zero_le h0
  exact bits_xor_u64_nat n 9223372036854775808 (by omega) (by decide)
theorem flip_lt {n : Nat} (h : n < 18446744073709551616) : flipW n < 18446744073709551616 := by
  have := Nat.xor_lt_two_pow (x := n) (y := 9223372036854775808) (n := 64) (by omega) (by decide)
  exact this
theorem bits_clear {a : Int} (h0 : 0 ≤ a) (h1 : a < 18446744073709551616) : bits BinOp.andNot .u64 a 9223372036854775808 = a % 9223372036854775808 := by
  obtain ⟨n, rfl⟩ := Int.eq_ofNat_of_zero_le h0
  have e1 : (BitVec.ofInt 64 (n : Int)).toNat = n := by
    rw [BitVec.ofInt_natCast, BitVec.toNat_ofNat]; exact Nat.mod_eq_of_lt (by omega)
  have e2 : (~~~ (BitVec.ofInt 64 9223372036854775808)).toNat = 2 ^ 63 - 1 := by decide
  show IntKind.u64.wrap ((BitVec.ofInt 64 (n : Int) &&& ~~~ (BitVec.ofInt 64 9223372036854775808)).toNat : Int) = _
  rw [BitVec.toNat_and, e1, e2, Nat.and_two_pow_sub_one_eq_mod, IntKind.wrap_u64]
  omega
theorem sv_flip (n : Nat) : sv (flipW n) = -(sv n) := by
  unfold sv
  rw [flip_neg, flip_rung]
  cases negW n <;> simp
theorem nan_flip (n : Nat) : nanW (flipW n) = nanW n := by unfold nanW; rw [flip_rung]
theorem cmpF_flip (a b : Nat) : cmpF (flipW a) (flipW b) = -(cmpF a b) := by
  unfold cmpF
  rw [nan_flip, nan_flip, sv_flip, sv_flip]
  cases (nanW a || nanW b)
  · simp only [Bool.false_eq_true, if_false]
    split <;> split <;> (try split) <;> omega
  · rfl
theorem rank_num {u : Int} (h0 : 0 ≤ u) (h1 : u < 18446744073709551616) (hn : nanW u.toNat = false) : rankV u = 9223372036854775808 + sv u.toNat - (if negW u.toNat then 1 else 0) := by
  have hc : canonF u = u := by unfold canonF; rw [if_neg (by simp [hn])]
  unfold rankV
  rw [hc]
  have hr : (rungW u.toNat : Int) = u % 9223372036854775808 := by unfold rungW B63; omega
  unfold sv
  rw [negW_lt (by omega), hr]
  by_cases e : 9223372036854775808 ≤ u
  · rw [if_pos e, decide_eq_true (by unfold B63; omega)]
    simp only [if_true]
    omega
  · rw [if_neg e, decide_eq_false (by unfold B63; omega)]
    simp only [Bool.false_eq_true, if_false]
    omega
theorem rank_nan {u : Int} (hn : nanW u.toNat = true) : rankV u = 18444492273895866368 := by
  have hc : canonF u = 9221120237041090560 := by unfold canonF; rw [if_pos hn]
  unfold rankV
  rw [hc]
  decide
theorem rank_flip {n : Nat} (h : n < 18446744073709551616) (hn : nanW n = false) : rankV (flipW n : Int) = 18446744073709551615 - rankV (n : Int) := by
  have h2 := flip_lt h
  rw [rank_num (by omega) (by omega) (by rw [Int.toNat_natCast, nan_flip]; exact hn), rank_num (by omega) (by omega) (by rw [Int.toNat_natCast]; exact hn)]
  rw [Int.toNat_natCast, Int.toNat_natCast, sv_flip, flip_neg]
  cases negW n <;> simp <;> omega
theorem ordF_flip {a b : Nat} (ha : a < 18446744073709551616) (hb : b < 18446744073709551616) (na : nanW a = false) (nb : nanW b = false) : ordF (flipW a : Int) (flipW b : Int) = -(ordF (a : Int) (b : Int)) := by
  unfold ordF cmp3
  rw [rank_flip ha na, rank_flip hb nb]
  split <;> split <;> (try split) <;> (try split) <;> omega
/-- where numbers differ the order is theirs -/
theorem ordF_of_cmp {a b : Int} (a0 : 0 ≤ a) (a1 : a < 18446744073709551616) (b0 : 0 ≤ b) (b1 : b < 18446744073709551616) (na : nanW a.toNat = false) (nb : nanW b.toNat = false) (h : cmpF a.toNat b.toNat ≠ 0) : ordF a b = cmpF a.toNat b.toNat := by
  have hc : cmpF a.toNat b.toNat = if sv a.toNat < sv b.toNat then -1 else if sv b.toNat < sv a.toNat then 1 else 0 := by unfold cmpF; rw [na, nb]; rfl
  rw [hc] at h ⊢
  unfold ordF cmp3
  rw [rank_num a0 a1 na, rank_num b0 b1 nb]
  have ka : negW a.toNat = true → sv a.toNat ≤ 0 := fun e => by unfold sv; rw [if_pos e]; omega
  have ka' : negW a.toNat = false → 0 ≤ sv a.toNat := fun e => by unfold sv; rw [if_neg (by simp [e])]; omega
  have kb : negW b.toNat = true → sv b.toNat ≤ 0 := fun e => by unfold sv; rw [if_pos e]; omega
  have kb' : negW b.toNat = false → 0 ≤ sv b.toNat := fun e => by unfold sv; rw [if_neg (by simp [e])]; omega
  generalize sv a.toNat = x at *
  generalize sv b.toNat = y at *
  by_cases h1 : x < y
  · rw [if_pos h1]
    rw [if_pos]
    cases ea : negW a.toNat <;> cases eb : negW b.toNat <;> simp only [Bool.false_eq_true, if_false, if_true]
    · omega
    · have := ka' ea; have := kb eb; omega
    · omega
    · omega
  · rw [if_neg h1] at h ⊢
    by_cases h2 : y < x
    · rw [if_pos h2]
      have : 9223372036854775808 + y - (if negW b.toNat then 1 else 0) < 9223372036854775808 + x - (if negW a.toNat then 1 else 0) := by
        cases ea : negW a.toNat <;> cases eb : negW b.toNat <;> simp only [Bool.false_eq_true, if_false, if_true]
        · omega
        · omega
        · have := kb' eb; have := ka ea; omega
        · omega
      rw [if_neg (by omega), if_pos this]
    · rw [if_neg h2] at h
      exact absurd rfl h
theorem small_pos {m : Nat} (h : m < 9218868437227405312) : nanW m = false ∧ negW m = false ∧ sv m = m := by
  have hr : rungW m = m := Nat.mod_eq_of_lt (by unfold B63; omega)
  have hn : negW m = false := by unfold negW; rw [Nat.div_eq_of_lt (by unfold B63; omega)]; rfl
  refine ⟨?_, hn, ?_⟩
  · unfold nanW; rw [hr]; exact decide_eq_false (by unfold Inf; omega)
  · unfold sv; rw [if_neg (by simp [hn]), hr]
theorem next_cmp {m : Nat} (h : m < 9218868437227405311) : cmpF m (m + 1) = -1 ∧ ordF (m : Int) ((m + 1 : Nat) : Int) = -1 := by
  obtain ⟨a1, a2, a3⟩ := small_pos (m := m) (by omega)
  obtain ⟨b1, b2, b3⟩ := small_pos (m := m + 1) (by omega)
  have hc : cmpF m (m + 1) = -1 := by
    unfold cmpF
    rw [a1, b1, a3, b3]
    simp only [Bool.or_self, Bool.false_eq_true, if_false]
    rw [if_pos (by omega)]
  refine ⟨hc, ?_⟩
  have := ordF_of_cmp (a := (m : Int)) (b := ((m + 1 : Nat) : Int)) (by omega) (by omega) (by omega) (by omega) (by rw [Int.toNat_natCast]; exact a1) (by rw [Int.toNat_natCast]; exact b1) (by rw [Int.toNat_natCast, Int.toNat_natCast, hc]; decide)
  rw [this, Int.toNat_natCast, Int.toNat_natCast, hc]
end Go.Proofs.YtacafhmagonngaaGreatDoor
