/- Truths: the walks of value.truth, Not, And, Or. -/
import Derived.Test.YtacafhmagonngaaGreatDoorVc2
set_option linter.unusedVariables false
set_option linter.unusedSimpArgs false
namespace Go.Proofs.YtacafhmagonngaaGreatDoor
open Go.RowKit

def truthV (a : Int) : Int := if a = 0 ∨ a = 1 then a else 2
theorem truthV_range (a : Int) : truthV a = 0 ∨ truthV a = 1 ∨ truthV a = 2 := by
  unfold truthV
  split
  · omega
  · exact .inr (.inr rfl)
def notV (a : Int) : Int := if truthV a = 2 then 2 else 1 - truthV a
def andV (a b : Int) : Int := if truthV a = 0 ∨ truthV b = 0 then 0 else max (truthV a) (truthV b)
def orV (a b : Int) : Int := notV (andV (notV a) (notV b))
theorem truth_any (w : World) (a : Int) : Calls Tryz.prog 54 #[.int .i64 a] w fun e w' => e = .returned (.int .i64 (truthV a)) ∧ w = w' := by
  unfold truthV
  by_cases h0 : a = 0
  · subst h0
    go_enter Tryz.func54, Tryz.ntmps54
    go_wp2_with fail
    go_ret
    exact ⟨by simp, rfl⟩
  · by_cases h1 : a = 1
    · subst h1
      go_enter Tryz.func54, Tryz.ntmps54
      go_wp2_with fail
      go_ret
      exact ⟨by simp, rfl⟩
    · rw [if_neg (by omega)]
      have e0 : (a != 0) = true := by rw [bne_iff_ne]; exact h0
      have e1 : (a != 1) = true := by rw [bne_iff_ne]; exact h1
      go_enter Tryz.func54, Tryz.ntmps54
      go_wp2_with fail
      go_ret
      exact ⟨rfl, rfl⟩
theorem not_any (w : World) (a : Int) : Calls Tryz.prog 23 #[.int .i64 a] w fun e w' => e = .returned (.int .i64 (notV a)) ∧ w = w' := by
  have Ht := Lib.hid (truth_any w a)
  have hr := truthV_range a
  unfold notV
  generalize truthV a = t at *
  rcases hr with rfl | rfl | rfl
  all_goals
    go_enter Tryz.func23, Tryz.ntmps23
    go_wp2_with fail
    refine Ht.out.mono ?_
    rintro e w' ⟨rfl, rfl⟩
    go_wp2_with fail
    go_ret
    exact ⟨rfl, rfl⟩
theorem and_any (w : World) (a b : Int) : Calls Tryz.prog 24 #[.int .i64 a, .int .i64 b] w fun e w' => e = .returned (.int .i64 (andV a b)) ∧ w = w' := by
  have Ha := Lib.hid (truth_any w a)
  have Hb := Lib.hid (truth_any w b)
  have hr := truthV_range a
  have hs := truthV_range b
  unfold andV
  generalize truthV a = t at *
  generalize truthV b = u at *
  rcases hr with rfl | rfl | rfl <;> rcases hs with rfl | rfl | rfl
  all_goals
    go_enter Tryz.func24, Tryz.ntmps24
    go_wp2_with fail
    refine Ha.out.mono ?_
    rintro e w' ⟨rfl, rfl⟩
    go_wp2_with fail
    refine Hb.out.mono ?_
    rintro e w' ⟨rfl, rfl⟩
    go_wp2_with fail
    go_ret
    exact ⟨by first | rfl | decide, rfl⟩
theorem or_any2 (w : World) (a b : Int) : Calls Tryz.prog 25 #[.int .i64 a, .int .i64 b] w fun e w' => e = .returned (.int .i64 (orV a b)) ∧ w = w' := by
  have Ha := Lib.hid (not_any w a)
  have Hb := Lib.hid (not_any w b)
  have Hc := Lib.hid (and_any w (notV a) (notV b))
  have Hd := Lib.hid (not_any w (andV (notV a) (notV b)))
  unfold orV
  generalize notV (andV (notV a) (notV b)) = z at *
  generalize andV (notV a) (notV b) = y at *
  generalize notV a = t at *
  generalize notV b = u at *
  go_enter Tryz.func25, Tryz.ntmps25
  go_wp2_with fail
  refine Ha.out.mono ?_
  rintro e w' ⟨rfl, rfl⟩
  go_wp2_with fail
  refine Hb.out.mono ?_
  rintro e w' ⟨rfl, rfl⟩
  go_wp2_with fail
  refine Hc.out.mono ?_
  rintro e w' ⟨rfl, rfl⟩
  go_wp2_with fail
  refine Hd.out.mono ?_
  rintro e w' ⟨rfl, rfl⟩
  go_wp2_with fail
  go_ret
  exact ⟨rfl, rfl⟩
end Go.Proofs.YtacafhmagonngaaGreatDoor
