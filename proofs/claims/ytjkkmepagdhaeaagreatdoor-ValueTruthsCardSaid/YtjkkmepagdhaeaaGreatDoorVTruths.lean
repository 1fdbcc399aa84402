/- The document's truths: the walks of Not, And; the walk of ValueTruths. -/
import Derived.Test.YtjkkmepagdhaeaaGreatDoorVe0
set_option linter.unusedVariables false
set_option linter.unusedSimpArgs false
namespace Go.Proofs.YtjkkmepagdhaeaaGreatDoor
open Go.RowKit

theorem truth_idem (a : Int) : truthV (truthV a) = truthV a := by
  rcases truthV_range a with h | h | h <;> rw [h] <;> rfl
theorem andV_truth (a b : Int) : andV a b = andV (truthV a) (truthV b) := by
  unfold andV
  rw [truth_idem, truth_idem]
theorem notV_truth (a : Int) : notV a = notV (truthV a) := by
  unfold notV
  rw [truth_idem]
theorem truth_and (a b : Int) : truthV (andV a b) = andV a b := by
  rw [andV_truth]
  rcases truthV_range a with h | h | h <;> rcases truthV_range b with k | k | k <;> rw [h, k] <;> decide
theorem truth_not (a : Int) : truthV (notV a) = notV a := by
  rw [notV_truth]
  rcases truthV_range a with h | h | h <;> rw [h] <;> decide
theorem truth_or (a b : Int) : truthV (orV a b) = orV a b := truth_not _
theorem and_assoc3 (a b c : Int) : andV a (andV b c) = andV (andV a b) c := by
  rw [andV_truth a, truth_and, andV_truth b c, andV_truth (andV a b), truth_and, andV_truth a b]
  rcases truthV_range a with h | h | h <;> rcases truthV_range b with k | k | k <;> rcases truthV_range c with l | l | l <;> rw [h, k, l] <;> decide
theorem orV_truth (a b : Int) : orV a b = orV (truthV a) (truthV b) := by
  unfold orV
  rw [notV_truth a, notV_truth b]
theorem and_or3 (a b c : Int) : andV a (orV b c) = orV (andV a b) (andV a c) := by
  rw [andV_truth a (orV b c), truth_or, orV_truth b c, andV_truth a b, andV_truth a c]
  rcases truthV_range a with h | h | h <;> rcases truthV_range b with k | k | k <;> rcases truthV_range c with l | l | l <;> rw [h, k, l] <;> decide
theorem notR_any (w : World) (a : Int) : Calls Tryz.prog 25 #[.int .i64 a] w fun e w' => e = .returned (.int .i64 (notV a)) ∧ w = w' := by
  by_cases h0 : a = 0
  · subst h0
    rw [show notV 0 = 1 from by decide]
    go_enter Tryz.func25, Tryz.ntmps25
    go_wp2_with fail
    go_ret
    exact ⟨rfl, rfl⟩
  · by_cases h1 : a = 1
    · subst h1
      rw [show notV 1 = 0 from by decide]
      go_enter Tryz.func25, Tryz.ntmps25
      go_wp2_with fail
      go_ret
      exact ⟨rfl, rfl⟩
    · have ht : truthV a = 2 := by unfold truthV; rw [if_neg (by omega)]
      rw [show notV a = 2 from by unfold notV; rw [if_pos ht]]
      have e0 : (a == 0) = false := by rw [beq_eq_false_iff_ne]; exact h0
      have e1 : (a == 1) = false := by rw [beq_eq_false_iff_ne]; exact h1
      go_enter Tryz.func25, Tryz.ntmps25
      go_wp2_with fail
      go_ret
      exact ⟨rfl, rfl⟩
theorem and_zero_l (b : Int) : andV 0 b = 0 := by unfold andV; rw [if_pos (.inl (by decide))]
theorem and_zero_r (a : Int) : andV a 0 = 0 := by unfold andV; rw [if_pos (.inr (by decide))]
theorem truth_other {a : Int} (h0 : ¬ a = 0) (h1 : ¬ a = 1) : truthV a = 2 := by unfold truthV; rw [if_neg (by omega)]
theorem andR_any (w : World) (a b : Int) : Calls Tryz.prog 27 #[.int .i64 a, .int .i64 b] w fun e w' => e = .returned (.int .i64 (andV a b)) ∧ w = w' := by
  by_cases a0 : a = 0
  · subst a0
    rw [and_zero_l]
    go_enter Tryz.func27, Tryz.ntmps27
    go_wp2_with fail
    go_ret
    exact ⟨rfl, rfl⟩
  have ea : (a == 0) = false := by rw [beq_eq_false_iff_ne]; exact a0
  by_cases b0 : b = 0
  · subst b0
    rw [and_zero_r]
    go_enter Tryz.func27, Tryz.ntmps27
    go_wp2_with fail
    go_ret
    exact ⟨rfl, rfl⟩
  have eb : (b == 0) = false := by rw [beq_eq_false_iff_ne]; exact b0
  by_cases a1 : a = 1
  · subst a1
    by_cases b1 : b = 1
    · subst b1
      rw [show andV 1 1 = 1 from by decide]
      go_enter Tryz.func27, Tryz.ntmps27
      go_wp2_with fail
      go_ret
      exact ⟨rfl, rfl⟩
    · have hv : andV 1 b = 2 := by rw [andV_truth, truth_other b0 b1]; decide
      have e1 : (b == 1) = false := by rw [beq_eq_false_iff_ne]; exact b1
      rw [hv]
      go_enter Tryz.func27, Tryz.ntmps27
      go_wp2_with fail
      go_ret
      exact ⟨rfl, rfl⟩
  · have hv : andV a b = 2 := by
      rw [andV_truth, truth_other a0 a1]
      have hb : truthV b ≠ 0 := by
        intro h
        unfold truthV at h
        split at h
        · exact b0 h
        · cases h
      rcases truthV_range b with h | h | h
      · exact absurd h hb
      · rw [h]; decide
      · rw [h]; decide
    have e1 : (a == 1) = false := by rw [beq_eq_false_iff_ne]; exact a1
    rw [hv]
    go_enter Tryz.func27, Tryz.ntmps27
    go_wp2_with fail
    go_ret
    exact ⟨rfl, rfl⟩
set_option maxHeartbeats 8000000 in
set_option maxRecDepth 100000 in
theorem truths_walk (w : World) (hl : Laid w) (a b c : Int) :
    Calls Tryz.prog 7 #[.int .i64 a, .int .i64 b, .int .i64 c] w fun e w' => e = .returned (.bool true) ∧ Below w.heap.size w w' := by
  have Hl := Lib.hid hl; clear hl
  have H0 : Hid (∀ W : World, Calls Tryz.prog 24 #[.int .i64 a] W fun e w' => e = .returned (.int .i64 (notV a)) ∧ W = w') := Lib.hid fun W => not_any W a
  have H1 : Hid (∀ W : World, Calls Tryz.prog 25 #[.int .i64 a] W fun e w' => e = .returned (.int .i64 (notV a)) ∧ W = w') := Lib.hid fun W => notR_any W a
  have H2 : Hid (∀ W : World, Calls Tryz.prog 26 #[.int .i64 a, .int .i64 b] W fun e w' => e = .returned (.int .i64 (andV a b)) ∧ W = w') := Lib.hid fun W => and_any W a b
  have H3 : Hid (∀ W : World, Calls Tryz.prog 27 #[.int .i64 a, .int .i64 b] W fun e w' => e = .returned (.int .i64 (andV a b)) ∧ W = w') := Lib.hid fun W => andR_any W a b
  have H4 : Hid (∀ W : World, Calls Tryz.prog 28 #[.int .i64 a, .int .i64 b] W fun e w' => e = .returned (.int .i64 (orV a b)) ∧ W = w') := Lib.hid fun W => or_any2 W a b
  have H6 : Hid (∀ W : World, Calls Tryz.prog 25 #[.int .i64 b] W fun e w' => e = .returned (.int .i64 (notV b)) ∧ W = w') := Lib.hid fun W => notR_any W b
  have H7 : Hid (∀ W : World, Calls Tryz.prog 27 #[.int .i64 (notV a), .int .i64 (notV b)] W fun e w' => e = .returned (.int .i64 (andV (notV a) (notV b))) ∧ W = w') := Lib.hid fun W => andR_any W (notV a) (notV b)
  have H8 : Hid (∀ W : World, Calls Tryz.prog 25 #[.int .i64 (andV (notV a) (notV b))] W fun e w' => e = .returned (.int .i64 (orV a b)) ∧ W = w') := Lib.hid fun W => notR_any W (andV (notV a) (notV b))
  have H9 : Hid (∀ W : World, Calls Tryz.prog 26 #[.int .i64 b, .int .i64 c] W fun e w' => e = .returned (.int .i64 (andV b c)) ∧ W = w') := Lib.hid fun W => and_any W b c
  have H10 : Hid (∀ W : World, Calls Tryz.prog 26 #[.int .i64 a, .int .i64 (andV b c)] W fun e w' => e = .returned (.int .i64 (andV a (andV b c))) ∧ W = w') := Lib.hid fun W => and_any W a (andV b c)
  have H12 : Hid (∀ W : World, Calls Tryz.prog 26 #[.int .i64 (andV a b), .int .i64 c] W fun e w' => e = .returned (.int .i64 (andV a (andV b c))) ∧ W = w') := Lib.hid fun W => by rw [and_assoc3 a b c]; exact and_any W (andV a b) c
  have H13 : Hid (∀ W : World, Calls Tryz.prog 28 #[.int .i64 b, .int .i64 c] W fun e w' => e = .returned (.int .i64 (orV b c)) ∧ W = w') := Lib.hid fun W => or_any2 W b c
  have H14 : Hid (∀ W : World, Calls Tryz.prog 26 #[.int .i64 a, .int .i64 (orV b c)] W fun e w' => e = .returned (.int .i64 (andV a (orV b c))) ∧ W = w') := Lib.hid fun W => and_any W a (orV b c)
  have H16 : Hid (∀ W : World, Calls Tryz.prog 26 #[.int .i64 a, .int .i64 c] W fun e w' => e = .returned (.int .i64 (andV a c)) ∧ W = w') := Lib.hid fun W => and_any W a c
  have H17 : Hid (∀ W : World, Calls Tryz.prog 28 #[.int .i64 (andV a b), .int .i64 (andV a c)] W fun e w' => e = .returned (.int .i64 (andV a (orV b c))) ∧ W = w') := Lib.hid fun W => by rw [and_or3 a b c]; exact or_any2 W (andV a b) (andV a c)
  generalize andV a (andV b c) = r1 at *
  generalize andV a (orV b c) = r2 at *
  generalize andV (notV a) (notV b) = nn at *
  generalize notV a = na at *
  generalize notV b = nb at *
  generalize andV a b = ab at *
  generalize orV a b = ob at *
  generalize andV b c = bc at *
  generalize orV b c = obc at *
  generalize andV a c = ac at *
  go_enter Tryz.func7, Tryz.ntmps7
  go_wp2_with fail
  refine (firstV_any w Hl.out).mono ?_
  rintro e w1 ⟨rfl, hb⟩
  have Hb := Lib.hid hb; clear hb
  go_wp2_with fail
  refine (H0.out w1).mono ?_
  rintro e w2 ⟨rfl, rfl⟩
  go_wp2_with fail
  refine (H1.out w1).mono ?_
  rintro e w2 ⟨rfl, rfl⟩
  go_wp2_with fail
  refine (H2.out w1).mono ?_
  rintro e w2 ⟨rfl, rfl⟩
  go_wp2_with fail
  refine (H3.out w1).mono ?_
  rintro e w2 ⟨rfl, rfl⟩
  go_wp2_with fail
  refine (H4.out w1).mono ?_
  rintro e w2 ⟨rfl, rfl⟩
  go_wp2_with fail
  refine (H1.out w1).mono ?_
  rintro e w2 ⟨rfl, rfl⟩
  go_wp2_with fail
  refine (H6.out w1).mono ?_
  rintro e w2 ⟨rfl, rfl⟩
  go_wp2_with fail
  refine (H7.out w1).mono ?_
  rintro e w2 ⟨rfl, rfl⟩
  go_wp2_with fail
  refine (H8.out w1).mono ?_
  rintro e w2 ⟨rfl, rfl⟩
  go_wp2_with fail
  refine (H9.out w1).mono ?_
  rintro e w2 ⟨rfl, rfl⟩
  go_wp2_with fail
  refine (H10.out w1).mono ?_
  rintro e w2 ⟨rfl, rfl⟩
  go_wp2_with fail
  refine (H2.out w1).mono ?_
  rintro e w2 ⟨rfl, rfl⟩
  go_wp2_with fail
  refine (H12.out w1).mono ?_
  rintro e w2 ⟨rfl, rfl⟩
  go_wp2_with fail
  refine (H13.out w1).mono ?_
  rintro e w2 ⟨rfl, rfl⟩
  go_wp2_with fail
  refine (H14.out w1).mono ?_
  rintro e w2 ⟨rfl, rfl⟩
  go_wp2_with fail
  refine (H2.out w1).mono ?_
  rintro e w2 ⟨rfl, rfl⟩
  go_wp2_with fail
  refine (H16.out w1).mono ?_
  rintro e w2 ⟨rfl, rfl⟩
  go_wp2_with fail
  refine (H17.out w1).mono ?_
  rintro e w2 ⟨rfl, rfl⟩
  go_wp2_with fail
  go_ret
  exact ⟨by simp, Hb.out⟩
end Go.Proofs.YtjkkmepagdhaeaaGreatDoor
