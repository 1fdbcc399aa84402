/- The document's answer for floats: the walks of parts, IsNan, Canon, Compare, Order. -/
import Derived.Test.YtacafhmagonngaaGreatDoorFb3
set_option linter.unusedVariables false
set_option linter.unusedSimpArgs false
namespace Go.Proofs.YtacafhmagonngaaGreatDoor
open Go.RowKit

theorem parts_any (w : World) (u : Int) (h0 : 0 ≤ u) (h1 : u < 18446744073709551616) :
    Calls Tryz.prog 87 #[.int .u64 u] w fun e w' => e = .returned (.tuple #[.int .u64 (u / 9223372036854775808), .int .i64 (u / 4503599627370496 % 2048), .int .u64 (u % 4503599627370496)]) ∧ w = w' := by
  go_enter Tryz.func87, Tryz.ntmps87
  go_wp2_with fail
  exact bodyPost_ret (v := .tuple #[.int .u64 (u / 9223372036854775808), .int .i64 (u / 4503599627370496 % 2048), .int .u64 (u % 4503599627370496)]) (by simp [results, Tryz.results87, go_sem]) rfl ⟨rfl, rfl⟩
theorem isnanR_any (w : World) (u : Int) (h0 : 0 ≤ u) (h1 : u < 18446744073709551616) :
    Calls Tryz.prog 62 #[.int .u64 u] w fun e w' => e = .returned (.bool (nanW u.toNat)) ∧ w = w' := by
  have hn : nanW u.toNat = decide (u / 4503599627370496 % 2048 = 2047 ∧ 0 < u % 4503599627370496) := by
    unfold nanW rungW Inf B63
    congr 1
    rw [eq_iff_iff]
    omega
  have Hp := Lib.hid (parts_any w u h0 h1)
  generalize he : u / 4503599627370496 % 2048 = x at hn Hp
  generalize hm : u % 4503599627370496 = m at hn Hp
  generalize u / 9223372036854775808 = s at Hp
  clear he hm
  by_cases h2 : x = 2047
  · by_cases h3 : 0 < m
    · rw [decide_eq_true ⟨h2, h3⟩] at hn
      rw [hn]
      subst h2
      clear hn
      go_enter Tryz.func62, Tryz.ntmps62
      go_wp2_with fail
      refine Hp.out.mono ?_
      rintro e w' ⟨rfl, rfl⟩
      go_wp2_with fail
      go_ret
      exact ⟨rfl, rfl⟩
    · rw [decide_eq_false (fun h => h3 h.2)] at hn
      rw [hn]
      subst h2
      have h4 : decide (0 < m) = false := by simpa using h3
      clear hn
      go_enter Tryz.func62, Tryz.ntmps62
      go_wp2_with fail
      refine Hp.out.mono ?_
      rintro e w' ⟨rfl, rfl⟩
      go_wp2_with fail
      go_ret
      exact ⟨by simp [h3], rfl⟩
  · rw [decide_eq_false (fun h => h2 h.1)] at hn
    rw [hn]
    have h4 : (x == 2047) = false := by simpa using h2
    clear hn
    go_enter Tryz.func62, Tryz.ntmps62
    go_wp2_with fail
    refine Hp.out.mono ?_
    rintro e w' ⟨rfl, rfl⟩
    go_wp2_with fail
    go_ret
    exact ⟨rfl, rfl⟩
theorem canonR_any (w : World) (u : Int) (h0 : 0 ≤ u) (h1 : u < 18446744073709551616) : Calls Tryz.prog 29 #[.int .u64 u] w fun e w' => e = .returned (.int .u64 (canonF u)) ∧ w = w' := by
  go_enter Tryz.func29, Tryz.ntmps29
  go_wp2_with fail
  refine (isnanR_any w u h0 h1).mono ?_
  rintro e w' ⟨rfl, rfl⟩
  cases hn : nanW u.toNat with
  | true =>
    have Hc := Lib.hid (show canonF u = 9221120237041090560 by unfold canonF; rw [if_pos hn])
    clear hn
    go_wp2_with fail
    go_ret
    exact ⟨by rw [Hc.out]; rfl, rfl⟩
  | false =>
    have Hc := Lib.hid (show canonF u = u by unfold canonF; rw [if_neg (by simp [hn])])
    clear hn
    go_wp2_with fail
    go_ret
    exact ⟨by rw [Hc.out]; rfl, rfl⟩
theorem sv_parts {u s x : Int} (h0 : 0 ≤ u) (h1 : u < 18446744073709551616) (hs : u / 9223372036854775808 = s) (hx : u % 9223372036854775808 = x) : (s = 0 ∨ s = 1) ∧ 0 ≤ x ∧ x < 9223372036854775808 ∧ u = s * 9223372036854775808 + x ∧ sv u.toNat = if s = 1 then -x else x := by
  refine ⟨by omega, by omega, by omega, by omega, ?_⟩
  have hr : (rungW u.toNat : Int) = x := by unfold rungW B63; omega
  have hn : negW u.toNat = decide (s = 1) := by
    rw [negW_lt (by omega)]
    congr 1
    rw [eq_iff_iff]
    unfold B63
    omega
  unfold sv
  rw [hr, hn]
  by_cases e : s = 1
  · rw [if_pos e, decide_eq_true e]; rfl
  · rw [if_neg e, decide_eq_false e]; rfl
theorem cmpF_ok {a b : Nat} (h : (nanW a || nanW b) = false) : cmpF a b = if sv a < sv b then -1 else if sv b < sv a then 1 else 0 := by unfold cmpF; rw [h]; rfl

end Go.Proofs.YtacafhmagonngaaGreatDoor
