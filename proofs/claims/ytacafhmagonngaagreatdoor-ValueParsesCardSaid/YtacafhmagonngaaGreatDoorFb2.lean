/- The walks of float.FromInt, math.Signbit, math.IsInf. -/
import Derived.Test.YtacafhmagonngaaGreatDoorFb1
set_option linter.unusedVariables false
set_option linter.unusedSimpArgs false
namespace Go.Proofs.YtacafhmagonngaaGreatDoor
open Go.RowKit

def fromW (n : Int) : Nat := floatOfInt .f64 n
def inR (n : Int) : Bool := decide (-9007199254740992 ≤ n) && decide (n ≤ 9007199254740992)
def fromV (n : Int) : Int := if inR n then (fromW n : Int) else 0
theorem fromint_any (w : World) (n : Int) : Calls Tryz.prog 107 #[.int .i64 n] w fun e w' => e = .returned (.tuple #[.int .u64 (fromV n), .bool (inR n)]) ∧ w = w' := by
  have hb := bits_of (fromW n)
  unfold fromW at hb
  by_cases h1 : n < -9007199254740992
  · have h2 : inR n = false := by unfold inR; rw [decide_eq_false (by omega), Bool.false_and]
    have h3 : fromV n = 0 := by unfold fromV; rw [if_neg (by simp [h2])]
    rw [h2, h3]
    clear h2 h3 hb
    go_enter Tryz.func107, Tryz.ntmps107
    go_wp2_with fail
    go_ret2
    exact ⟨rfl, rfl⟩
  · by_cases h4 : 9007199254740992 < n
    · have h2 : inR n = false := by unfold inR; rw [decide_eq_false (p := n ≤ _) (by omega), Bool.and_false]
      have h3 : fromV n = 0 := by unfold fromV; rw [if_neg (by simp [h2])]
      rw [h2, h3]
      clear h2 h3 hb
      go_enter Tryz.func107, Tryz.ntmps107
      go_wp2_with fail
      go_ret2
      exact ⟨rfl, rfl⟩
    · have h2 : inR n = true := by unfold inR; rw [decide_eq_true (by omega), decide_eq_true (by omega)]; rfl
      have h3 : fromV n = fromW n := by unfold fromV; rw [if_pos h2]
      rw [h2, h3]
      clear h2 h3
      go_enter Tryz.func107, Tryz.ntmps107
      go_wp2_with fail
      go_ret2
      exact ⟨rfl, rfl⟩

theorem negW_lt {b : Nat} (h : b < 18446744073709551616) : negW b = decide (B63 ≤ b) := by
  unfold negW
  by_cases e : B63 ≤ b
  · rw [decide_eq_true e, show b / B63 = 1 from by unfold B63 at *; omega]; rfl
  · rw [decide_eq_false e, show b / B63 = 0 from Nat.div_eq_of_lt (by omega)]; rfl
theorem signbit_any (w : World) (b : Nat) (h : b < 18446744073709551616) : Calls Tryz.prog 69 #[.float .f64 b] w fun e w' => e = .returned (.bool (negW b)) ∧ w = w' := by
  have hb := bits_of b
  rw [negW_lt h]
  by_cases e : B63 ≤ b
  · rw [decide_eq_true e]
    have hw : wrap64 (b : Int) < 0 := by unfold wrap64 B63 at *; omega
    clear e
    go_enter Tryz.func69, Tryz.ntmps69
    go_wp2_with fail
    go_ret
    exact ⟨by simp [hw], rfl⟩
  · rw [decide_eq_false e]
    have hw : ¬ wrap64 (b : Int) < 0 := by unfold wrap64 B63 at *; omega
    clear e
    go_enter Tryz.func69, Tryz.ntmps69
    go_wp2_with fail
    go_ret
    exact ⟨by simp [hw], rfl⟩

def flipW (b : Nat) : Nat := b ^^^ 9223372036854775808
theorem flip_neg (b : Nat) : negW (flipW b) = !(negW b) := by
  unfold negW flipW
  have h := Nat.xor_div_two_pow (a := b) (b := 2 ^ 63) (n := 63)
  rw [show (9223372036854775808 : Nat) = 2 ^ 63 from by decide, show B63 = 2 ^ 63 from by decide, h, show (2 : Nat) ^ 63 / 2 ^ 63 = 1 from by decide]
  have h2 := Nat.xor_mod_two_pow (a := b / 2 ^ 63) (b := 1) (n := 1)
  rw [Nat.pow_one] at h2
  rw [h2]
  rcases Nat.mod_two_eq_zero_or_one (b / 2 ^ 63) with e | e <;> rw [e] <;> rfl
theorem flip_rung (b : Nat) : rungW (flipW b) = rungW b := by
  unfold rungW flipW
  have h := Nat.xor_mod_two_pow (a := b) (b := 2 ^ 63) (n := 63)
  rw [show (9223372036854775808 : Nat) = 2 ^ 63 from by decide, show B63 = 2 ^ 63 from by decide, h, show (2 : Nat) ^ 63 % 2 ^ 63 = 0 from by decide, Nat.xor_zero]

def infW (s : Bool) (b : Nat) : Bool := (negW b == s) && (rungW b == Inf)
theorem gt_max (a : Nat) : (FloatKind.f64.format.order a 9218868437227405311 == some .gt) = infW false a := by
  show (Ieee.double.order a 9218868437227405311 == some .gt) = _
  unfold infW
  have hc : sv 9218868437227405311 = (9218868437227405311 : Int) := by decide
  cases hn : nanW a with
  | true =>
    have hn' : Inf < rungW a := by simpa [nanW] using hn
    rw [order_nan_left hn', show (rungW a == Inf) = false from by simp; omega, Bool.and_false]; rfl
  | false =>
    have hle := not_nan hn
    rw [order_word hle (by decide), hc]
    have hI : (Inf : Int) = 9218868437227405312 := by decide
    cases hs : negW a with
    | true =>
      have : sv a ≤ 0 := by unfold sv; rw [if_pos hs]; omega
      rw [cmp_lt (by omega)]; rfl
    | false =>
      have hv : sv a = rungW a := by unfold sv; rw [if_neg (by simp [hs])]
      by_cases e : rungW a = Inf
      · rw [cmp_gt (by rw [hv, e]; omega), e]; rfl
      · rw [show (rungW a == Inf) = false from by simpa using e]
        have : sv a ≤ 9218868437227405311 := by rw [hv]; omega
        rcases Int.lt_or_eq_of_le this with h | h
        · rw [cmp_lt h]; rfl
        · rw [cmp_eq h]; rfl
theorem isinf_pos (w : World) (b : Nat) : Calls Tryz.prog 68 #[.float .f64 b, .int .i64 1] w fun e w' => e = .returned (.bool (infW false b)) ∧ w = w' := by
  have hg := gt_max b
  go_enter Tryz.func68, Tryz.ntmps68
  go_wp2_with fail
  go_ret
  exact ⟨rfl, rfl⟩
theorem infW_flip (b : Nat) : infW false (flipW b) = infW true b := by
  unfold infW
  rw [flip_neg, flip_rung]
  cases negW b <;> rfl
theorem isinf_neg (w : World) (b : Nat) : Calls Tryz.prog 68 #[.float .f64 b, .int .i64 (-1)] w fun e w' => e = .returned (.bool (infW true b)) ∧ w = w' := by
  have hg := gt_max (flipW b)
  rw [infW_flip] at hg
  have hn : ∀ w : World, (Op.unary .neg (.float .f64 b)).run Tryz.prog w = .ok (.float .f64 (flipW b)) w := fun w => rfl
  go_enter Tryz.func68, Tryz.ntmps68
  go_wp2_with fail
  go_ret
  exact ⟨rfl, rfl⟩
end Go.Proofs.YtacafhmagonngaaGreatDoor
