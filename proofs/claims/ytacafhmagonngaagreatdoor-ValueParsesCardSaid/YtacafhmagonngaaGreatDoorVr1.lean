/- The document's answer for values: the walk of texts. -/
import Derived.Test.YtacafhmagonngaaGreatDoorVr0
set_option linter.unusedVariables false
set_option linter.unusedSimpArgs false
namespace Go.Proofs.YtacafhmagonngaaGreatDoor
open Go.RowKit

theorem cmpBytes_ne (c d : UInt8) (x y : List UInt8) (h : c ≠ d) : Lib.compareBytes (c :: x) (d :: y) = cmp3 (c.toNat : Int) (d.toNat : Int) := by
  have hn : c.toNat ≠ d.toNat := fun e => h (UInt8.toNat_inj.1 e)
  unfold Lib.compareBytes cmp3
  by_cases h1 : c < d
  · have : c.toNat < d.toNat := UInt8.lt_iff_toNat_lt.1 h1
    rw [if_pos h1, if_pos (by omega)]
  · have h2 : ¬ c.toNat < d.toNat := fun e => h1 (UInt8.lt_iff_toNat_lt.2 e)
    have h3 : d < c := UInt8.lt_iff_toNat_lt.2 (by omega)
    rw [if_neg h1, if_pos h3, if_neg (by omega), if_pos (by omega)]
theorem cmpBytes_eq (c : UInt8) (x y : List UInt8) : Lib.compareBytes (c :: x) (c :: y) = Lib.compareBytes x y := by
  have : ¬ c < c := fun h => by have := UInt8.lt_iff_toNat_lt.1 h; omega
  rw [Lib.compareBytes, if_neg this, if_neg this]
theorem cmpBytes_end (x y : List UInt8) (h : x = [] ∨ y = []) : Lib.compareBytes x y = cmp3 (x.length : Int) (y.length : Int) := by
  cases x with
  | nil =>
    cases y with
    | nil => rfl
    | cons d y =>
      unfold Lib.compareBytes cmp3
      rw [if_pos (by simp only [List.length_nil, List.length_cons]; omega)]
  | cons c x =>
    cases y with
    | nil =>
      unfold Lib.compareBytes cmp3
      rw [if_neg (by simp only [List.length_nil, List.length_cons]; omega), if_pos (by simp only [List.length_nil, List.length_cons]; omega)]
    | cons d y => rcases h with h | h <;> cases h
theorem cmp3_shift (a b i : Int) : cmp3 (a - i) (b - i) = cmp3 a b := by
  unfold cmp3
  by_cases h : a < b
  · rw [if_pos h, if_pos (by omega)]
  · rw [if_neg h, if_neg (by omega)]
    by_cases h2 : b < a
    · rw [if_pos h2, if_pos (by omega)]
    · rw [if_neg h2, if_neg (by omega)]
end Go.Proofs.YtacafhmagonngaaGreatDoor
