/- The document's answer for floats: the walk of Order. -/
import Derived.Test.YtacafhmagonngaaGreatDoorFf0
import Derived.Test.YtacafhmagonngaaGreatDoorFa4
set_option linter.unusedVariables false
set_option linter.unusedSimpArgs false
namespace Go.Proofs.YtacafhmagonngaaGreatDoor
open Go.RowKit

theorem canon_nan (u : Int) : nanW (canonF u).toNat = nanW u.toNat := by
  unfold canonF
  cases h : nanW u.toNat with
  | true => rfl
  | false => rw [if_neg (by simp)]; exact h
theorem canon_canon (u : Int) : canonF (canonF u) = canonF u := by
  cases h : nanW u.toNat with
  | true =>
    have : canonF u = 9221120237041090560 := by unfold canonF; rw [if_pos h]
    rw [this]; decide
  | false =>
    have : canonF u = u := by unfold canonF; rw [if_neg (by simp [h])]
    rw [this, this]
theorem rank_canon (u : Int) : rankV (canonF u) = rankV u := by unfold rankV; rw [canon_canon]
theorem rank_inj {a b : Int} (a0 : 0 ≤ a) (a1 : a < 18446744073709551616) (b0 : 0 ≤ b) (b1 : b < 18446744073709551616) : rankV a = rankV b ↔ canonF a = canonF b := by
  obtain ⟨p0, p1⟩ := canon_range a0 a1
  obtain ⟨q0, q1⟩ := canon_range b0 b1
  unfold rankV
  split <;> split <;> omega
theorem ordF_canon (a b : Int) : ordF (canonF a) (canonF b) = ordF a b := by unfold ordF; rw [rank_canon, rank_canon]
theorem rank_low {u : Int} (h0 : 0 ≤ u) (h1 : u < 18446744073709551616) (hn : nanW u.toNat = false) : rankV u < 18444492273895866368 := by
  rw [rank_num h0 h1 hn]
  have hle := not_nan hn
  have hv : sv u.toNat ≤ 9218868437227405312 := by unfold sv Inf at *; split <;> omega
  split <;> omega
/-- how two unlike floats in canonical form stand -/
def ordR (A B : Int) : Int := if nanW A.toNat then 1 else if nanW B.toNat then -1 else if cmpF A.toNat B.toNat ≠ 0 then cmpF A.toNat B.toNat else if B < A then -1 else 1
theorem ordR_eq {A B : Int} (A0 : 0 ≤ A) (A1 : A < 18446744073709551616) (B0 : 0 ≤ B) (B1 : B < 18446744073709551616) (ca : canonF A = A) (cb : canonF B = B) (hne : A ≠ B) : ordF A B = ordR A B := by
  unfold ordR
  have hrk : rankV A ≠ rankV B := fun e => hne (by have := (rank_inj A0 A1 B0 B1).1 e; rwa [ca, cb] at this)
  cases na : nanW A.toNat with
  | true =>
    rw [if_pos rfl]
    have hra := rank_nan na
    cases nb : nanW B.toNat with
    | true => exact absurd (hra.trans (rank_nan nb).symm) hrk
    | false =>
      have := rank_low B0 B1 nb
      unfold ordF cmp3
      rw [if_neg (by omega), if_pos (by omega)]
  | false =>
    rw [if_neg (by simp)]
    cases nb : nanW B.toNat with
    | true =>
      rw [if_pos rfl]
      have hrb := rank_nan nb
      have := rank_low A0 A1 na
      unfold ordF cmp3
      rw [if_pos (by omega)]
    | false =>
      rw [if_neg (by simp)]
      by_cases hc : cmpF A.toNat B.toNat = 0
      · rw [if_neg (by simp [hc])]
        have hsv : sv A.toNat = sv B.toNat := by
          unfold cmpF at hc
          rw [na, nb] at hc
          simp only [Bool.or_self, Bool.false_eq_true, if_false] at hc
          split at hc
          · omega
          · split at hc <;> omega
        have ra := rank_num A0 A1 na
        have rb := rank_num B0 B1 nb
        rw [hsv] at ra
        rw [negW_lt (by omega)] at ra rb
        unfold B63 at ra rb
        unfold ordF cmp3
        by_cases ea : 9223372036854775808 ≤ A.toNat <;> by_cases eb : 9223372036854775808 ≤ B.toNat
        · simp only [decide_eq_true ea, decide_eq_true eb, if_true] at ra rb; omega
        · simp only [decide_eq_true ea, decide_eq_false eb, if_true, Bool.false_eq_true, if_false] at ra rb
          rw [if_pos (by omega), if_pos (by omega)]
        · simp only [decide_eq_false ea, decide_eq_true eb, if_true, Bool.false_eq_true, if_false] at ra rb
          rw [if_neg (by omega), if_pos (by omega), if_neg (by omega)]
        · simp only [decide_eq_false ea, decide_eq_false eb, Bool.false_eq_true, if_false] at ra rb; omega
      · rw [if_pos hc]
        exact ordF_of_cmp A0 A1 B0 B1 na nb hc
end Go.Proofs.YtacafhmagonngaaGreatDoor
