/- The walks of float.Order. -/
import Derived.Test.YtacafhmagonngaaGreatDoorFb2
import Derived.Laws.Bits64b
import Derived.Laws.Bits64
set_option linter.unusedVariables false
set_option linter.unusedSimpArgs false
namespace Go.Proofs.YtacafhmagonngaaGreatDoor
open Go.RowKit

theorem nat_not (c : Nat) (h : c < 18446744073709551616) : 18446744073709551615 ^^^ c = 18446744073709551615 - c := by
  have h1 : (BitVec.allOnes 64 ^^^ BitVec.ofNat 64 c).toNat = 18446744073709551615 ^^^ c := by
    rw [BitVec.toNat_xor, BitVec.toNat_allOnes, BitVec.toNat_ofNat, Nat.mod_eq_of_lt (by simpa using h)]
  have h2 : (BitVec.allOnes 64 ^^^ BitVec.ofNat 64 c).toNat = 18446744073709551615 - c := by
    rw [BitVec.allOnes_xor, BitVec.toNat_not, BitVec.toNat_ofNat, Nat.mod_eq_of_lt (by simpa using h)]
  rw [← h1, h2]
theorem nat_top (c : Nat) (h : c < 9223372036854775808) : c ||| 9223372036854775808 = c + 9223372036854775808 := by
  have := Nat.two_pow_add_eq_or_of_lt (i := 63) (b := c) (by simpa using h) 1
  rw [Nat.mul_one] at this
  rw [Nat.or_comm, Nat.add_comm]
  exact this.symm
theorem bits_not {c : Int} (h0 : 0 ≤ c) (h1 : c < 18446744073709551616) : bits BinOp.xor .u64 IntKind.u64.max c = 18446744073709551615 - c := by
  obtain ⟨n, rfl⟩ := Int.eq_ofNat_of_zero_le h0
  have h := bits_xor_u64_nat 18446744073709551615 n (by decide) (by omega)
  rw [nat_not n (by omega)] at h
  have e : IntKind.u64.max = ((18446744073709551615 : Nat) : Int) := by decide
  rw [e, h]
  omega
theorem bits_top {c : Int} (h0 : 0 ≤ c) (h1 : c < 9223372036854775808) : bits BinOp.or .u64 c 9223372036854775808 = c + 9223372036854775808 := by
  obtain ⟨n, rfl⟩ := Int.eq_ofNat_of_zero_le h0
  have h := bits_or_u64_nat n 9223372036854775808 (by omega) (by decide)
  rw [nat_top n (by omega)] at h
  rw [show (9223372036854775808 : Int) = ((9223372036854775808 : Nat) : Int) from by decide, h]
  omega
def rankV (u : Int) : Int := if 9223372036854775808 ≤ canonF u then 18446744073709551615 - canonF u else canonF u + 9223372036854775808
theorem canon_range {u : Int} (h0 : 0 ≤ u) (h1 : u < 18446744073709551616) : 0 ≤ canonF u ∧ canonF u < 18446744073709551616 := by unfold canonF; split <;> omega
theorem rank_any (w : World) (u : Int) (h0 : 0 ≤ u) (h1 : u < 18446744073709551616) : Calls Tryz.prog 77 #[.int .u64 u] w fun e w' => e = .returned (.int .u64 (rankV u)) ∧ w = w' := by
  obtain ⟨c0, c1⟩ := canon_range h0 h1
  have hr : rankV u = if 9223372036854775808 ≤ canonF u then 18446744073709551615 - canonF u else canonF u + 9223372036854775808 := rfl
  by_cases e : 9223372036854775808 ≤ canonF u
  · rw [if_pos e] at hr
    have Hr := Lib.hid hr; clear hr
    go_enter Tryz.func77, Tryz.ntmps77
    go_wp2_with fail
    refine (canon_any w u).mono ?_
    rintro e w' ⟨rfl, rfl⟩
    generalize canonF u = c at *
    go_wp2_with fail
    go_ret
    exact ⟨by rw [Hr.out, ← bits_not c0 c1]; rfl, rfl⟩
  · rw [if_neg e] at hr
    have Hr := Lib.hid hr; clear hr
    go_enter Tryz.func77, Tryz.ntmps77
    go_wp2_with fail
    refine (canon_any w u).mono ?_
    rintro e w' ⟨rfl, rfl⟩
    generalize canonF u = c at *
    go_wp2_with fail
    go_ret
    exact ⟨by rw [Hr.out, ← bits_top c0 e]; rfl, rfl⟩
theorem cmpnan_any (w : World) (a : Int) : Calls Tryz.prog 101 #[.int .u64 a] w fun e w' => e = .returned (.bool false) ∧ w = w' := by
  go_enter Tryz.func101, Tryz.ntmps101
  go_wp2_with fail
  go_ret
  exact ⟨by simp, rfl⟩
def cmp3 (a b : Int) : Int := if a < b then -1 else if b < a then 1 else 0
theorem cmpu_any (w : World) (a b : Int) : Calls Tryz.prog 76 #[.int .u64 a, .int .u64 b] w fun e w' => e = .returned (.int .i64 (cmp3 a b)) ∧ w = w' := by
  have hc : cmp3 a b = if a < b then -1 else if b < a then 1 else 0 := rfl
  by_cases h1 : a < b
  · rw [if_pos h1] at hc
    rw [hc]
    clear hc
    go_enter Tryz.func76, Tryz.ntmps76
    go_wp2_with fail
    refine (cmpnan_any _ _).mono ?_
    rintro e w' ⟨rfl, rfl⟩
    go_wp2_with fail
    refine (cmpnan_any _ _).mono ?_
    rintro e w' ⟨rfl, rfl⟩
    go_wp2_with fail
    go_ret
    exact ⟨rfl, rfl⟩
  · rw [if_neg h1] at hc
    by_cases h2 : b < a
    · rw [if_pos h2] at hc
      rw [hc]
      clear hc
      go_enter Tryz.func76, Tryz.ntmps76
      go_wp2_with fail
      refine (cmpnan_any _ _).mono ?_
      rintro e w' ⟨rfl, rfl⟩
      go_wp2_with fail
      refine (cmpnan_any _ _).mono ?_
      rintro e w' ⟨rfl, rfl⟩
      go_wp2_with fail
      go_ret
      exact ⟨rfl, rfl⟩
    · rw [if_neg h2] at hc
      rw [hc]
      clear hc
      go_enter Tryz.func76, Tryz.ntmps76
      go_wp2_with fail
      refine (cmpnan_any _ _).mono ?_
      rintro e w' ⟨rfl, rfl⟩
      go_wp2_with fail
      refine (cmpnan_any _ _).mono ?_
      rintro e w' ⟨rfl, rfl⟩
      go_wp2_with fail
      go_ret
      exact ⟨rfl, rfl⟩
def ordF (a b : Int) : Int := cmp3 (rankV a) (rankV b)
theorem order_any (w : World) (a b : Int) (a0 : 0 ≤ a) (a1 : a < 18446744073709551616) (b0 : 0 ≤ b) (b1 : b < 18446744073709551616) :
    Calls Tryz.prog 41 #[.int .u64 a, .int .u64 b] w fun e w' => e = .returned (.int .i64 (ordF a b)) ∧ w = w' := by
  go_enter Tryz.func41, Tryz.ntmps41
  go_wp2_with fail
  refine (rank_any w a a0 a1).mono ?_
  rintro e w' ⟨rfl, rfl⟩
  go_wp2_with fail
  refine (rank_any w b b0 b1).mono ?_
  rintro e w' ⟨rfl, rfl⟩
  go_wp2_with fail
  refine (cmpu_any w _ _).mono ?_
  rintro e w' ⟨rfl, rfl⟩
  go_wp2_with fail
  go_ret
  exact ⟨rfl, rfl⟩
end Go.Proofs.YtacafhmagonngaaGreatDoor
