/- The walk of FloatOrders. -/
import Derived.Test.YtjkkmepagdhaeaaDoorFf2
import Derived.Test.YtjkkmepagdhaeaaDoorFe2
set_option linter.unusedVariables false
set_option linter.unusedSimpArgs false
namespace Go.Proofs.YtjkkmepagdhaeaaDoor
open Go.RowKit

theorem cmp3_swap (x y : Int) : cmp3 y x = -(cmp3 x y) := by unfold cmp3; split <;> split <;> (try split) <;> (try split) <;> omega
theorem cmp3_range (x y : Int) : cmp3 x y = -1 ∨ cmp3 x y = 0 ∨ cmp3 x y = 1 := by unfold cmp3; split <;> (try split) <;> omega
theorem cmp3_zero (x y : Int) : cmp3 x y = 0 ↔ x = y := by unfold cmp3; split <;> (try split) <;> omega
theorem cmp3_le (x y : Int) : cmp3 x y ≤ 0 ↔ x ≤ y := by unfold cmp3; split <;> (try split) <;> omega

set_option maxHeartbeats 8000000 in
set_option maxRecDepth 100000 in
theorem orders_walk (w : World) (hl : Laid w) (a b c : Int) (a0 : 0 ≤ a) (a1 : a < 18446744073709551616) (b0 : 0 ≤ b) (b1 : b < 18446744073709551616) (c0 : 0 ≤ c) (c1 : c < 18446744073709551616) :
    Calls Tryd.prog 8 #[.int .u64 a, .int .u64 b, .int .u64 c] w fun e w' => e = .returned (.bool true) ∧ Below w.heap.size w w' := by
  have Hl := Lib.hid hl; clear hl
  have Hab : Hid (∀ W : World, Calls Tryd.prog 24 #[.int .u64 a, .int .u64 b] W fun e w' => e = .returned (.int .i64 (ordF a b)) ∧ W = w') := fun W => order_any W a b a0 a1 b0 b1
  have Hba : Hid (∀ W : World, Calls Tryd.prog 24 #[.int .u64 b, .int .u64 a] W fun e w' => e = .returned (.int .i64 (-(ordF a b))) ∧ W = w') := fun W => by
    have := order_any W b a b0 b1 a0 a1
    rwa [show ordF b a = -(ordF a b) from cmp3_swap _ _] at this
  have Hbc : Hid (∀ W : World, Calls Tryd.prog 24 #[.int .u64 b, .int .u64 c] W fun e w' => e = .returned (.int .i64 (ordF b c)) ∧ W = w') := fun W => order_any W b c b0 b1 c0 c1
  have Hac : Hid (∀ W : World, Calls Tryd.prog 24 #[.int .u64 a, .int .u64 c] W fun e w' => e = .returned (.int .i64 (ordF a c)) ∧ W = w') := fun W => order_any W a c a0 a1 c0 c1
  have Hr : Hid (∀ W : World, Calls Tryd.prog 25 #[.int .u64 a, .int .u64 b] W fun e w' => e = .returned (.int .i64 (ordF a b)) ∧ W = w') := fun W => orderR_any W a b a0 a1 b0 b1
  have hz : (ordF a b = 0) ↔ canonF a = canonF b := (cmp3_zero _ _).trans (rank_inj a0 a1 b0 b1)
  have htr : ordF a b ≤ 0 → ordF b c ≤ 0 → ordF a c ≤ 0 := fun h1 h2 => (cmp3_le _ _).2 (Int.le_trans ((cmp3_le _ _).1 h1) ((cmp3_le _ _).1 h2))
  have ro : ordF a b = -1 ∨ ordF a b = 0 ∨ ordF a b = 1 := cmp3_range _ _
  have rp : ordF b c = -1 ∨ ordF b c = 0 ∨ ordF b c = 1 := cmp3_range _ _
  have Ca : Hid (∀ W : World, Calls Tryd.prog 14 #[.int .u64 a] W fun e w' => e = .returned (.int .u64 (canonF a)) ∧ W = w') := fun W => canon_any W a
  have Cb : Hid (∀ W : World, Calls Tryd.prog 14 #[.int .u64 b] W fun e w' => e = .returned (.int .u64 (canonF b)) ∧ W = w') := fun W => canon_any W b
  clear a0 a1 b0 b1 c0 c1
  generalize ordF a b = o at *
  generalize ordF b c = p at *
  generalize ordF a c = q at *
  generalize canonF a = A at *
  generalize canonF b = B at *
  have Hz := Lib.hid hz; have Htr := Lib.hid htr; have Hp := Lib.hid rp
  clear hz htr rp
  rcases ro with rfl | rfl | rfl
  all_goals
    go_enter Tryd.func8, Tryd.ntmps8
    go_wp2_with fail
    refine (first_any w Hl.out).mono ?_
    rintro e w1 ⟨rfl, hb⟩
    go_wp2_with fail
    refine (Hab.out w1).mono ?_
    rintro e w2 ⟨rfl, rfl⟩
    go_wp2_with fail
    refine (Hr.out w1).mono ?_
    rintro e w2 ⟨rfl, rfl⟩
    go_wp2_with fail
    refine (Hab.out w1).mono ?_
    rintro e w2 ⟨rfl, rfl⟩
    go_wp2_with fail
    refine (Hba.out w1).mono ?_
    rintro e w2 ⟨rfl, rfl⟩
    go_wp2_with fail
    refine (Hab.out w1).mono ?_
    rintro e w2 ⟨rfl, rfl⟩
    go_wp2_with fail
    refine (Ca.out w1).mono ?_
    rintro e w2 ⟨rfl, rfl⟩
    go_wp2_with fail
    refine (Cb.out w1).mono ?_
    rintro e w2 ⟨rfl, rfl⟩
  · have hne : ¬ A = B := fun h => absurd (Hz.out.2 h) (by decide)
    go_wp2_with fail
    refine (Hab.out w1).mono ?_
    rintro e w2 ⟨rfl, rfl⟩
    go_wp2_with fail
    refine (Hbc.out w1).mono ?_
    rintro e w2 ⟨rfl, rfl⟩
    rcases Hp.out with rfl | rfl | rfl
    · have hq := Htr.out (by decide) (by decide)
      go_wp2_with fail
      refine (Hac.out w1).mono ?_
      rintro e w2 ⟨rfl, rfl⟩
      go_wp2_with fail
      go_ret
      exact ⟨by simp [*], hb⟩
    · have hq := Htr.out (by decide) (by decide)
      go_wp2_with fail
      refine (Hac.out w1).mono ?_
      rintro e w2 ⟨rfl, rfl⟩
      go_wp2_with fail
      go_ret
      exact ⟨by simp [*], hb⟩
    · go_wp2_with fail
      go_ret
      exact ⟨by simp [*], hb⟩
  · obtain rfl := Hz.out.1 (by trivial)
    go_wp2_with fail
    refine (Hab.out w1).mono ?_
    rintro e w2 ⟨rfl, rfl⟩
    go_wp2_with fail
    refine (Hbc.out w1).mono ?_
    rintro e w2 ⟨rfl, rfl⟩
    rcases Hp.out with rfl | rfl | rfl
    · have hq := Htr.out (by decide) (by decide)
      go_wp2_with fail
      refine (Hac.out w1).mono ?_
      rintro e w2 ⟨rfl, rfl⟩
      go_wp2_with fail
      go_ret
      exact ⟨by simp [*], hb⟩
    · have hq := Htr.out (by decide) (by decide)
      go_wp2_with fail
      refine (Hac.out w1).mono ?_
      rintro e w2 ⟨rfl, rfl⟩
      go_wp2_with fail
      go_ret
      exact ⟨by simp [*], hb⟩
    · go_wp2_with fail
      go_ret
      exact ⟨by simp [*], hb⟩
  · have hne : ¬ A = B := fun h => absurd (Hz.out.2 h) (by decide)
    go_wp2_with fail
    refine (Hab.out w1).mono ?_
    rintro e w2 ⟨rfl, rfl⟩
    go_wp2_with fail
    go_ret
    exact ⟨by simp [*], hb⟩
end Go.Proofs.YtjkkmepagdhaeaaDoor
