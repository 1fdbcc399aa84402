/- The document's answer for floats: the walks of parts, IsNan, Canon, Compare, Order. -/
import Derived.Test.YtjkkmepagdhaeaaGreatDoorFb3
set_option linter.unusedVariables false
set_option linter.unusedSimpArgs false
namespace Go.Proofs.YtjkkmepagdhaeaaGreatDoor
open Go.RowKit

theorem parts_any (w : World) (u : Int) (h0 : 0 ≤ u) (h1 : u < 18446744073709551616) :
    Calls Tryz.prog 102 #[.int .u64 u] w fun e w' => e = .returned (.tuple #[.int .u64 (u / 9223372036854775808), .int .i64 (u / 4503599627370496 % 2048), .int .u64 (u % 4503599627370496)]) ∧ w = w' := by
  go_enter Tryz.func102, Tryz.ntmps102
  go_wp2_with fail
  exact bodyPost_ret (v := .tuple #[.int .u64 (u / 9223372036854775808), .int .i64 (u / 4503599627370496 % 2048), .int .u64 (u % 4503599627370496)]) (by simp [results, Tryz.results102, go_sem]) rfl ⟨rfl, rfl⟩
theorem mag_any (w : World) (u : Int) (h0 : 0 ≤ u) :
    Calls Tryz.prog 79 #[.int .u64 u] w fun e w' => e = .returned (.int .u64 (u % 9223372036854775808)) ∧ w = w' := by
  go_enter Tryz.func79, Tryz.ntmps79
  go_wp2_with fail
  go_ret
  exact ⟨rfl, rfl⟩
theorem isnanR_any (w : World) (u : Int) (h0 : 0 ≤ u) (h1 : u < 18446744073709551616) :
    Calls Tryz.prog 78 #[.int .u64 u] w fun e w' => e = .returned (.bool (nanW u.toNat)) ∧ w = w' := by
  have hn : nanW u.toNat = decide (u / 4503599627370496 % 2048 = 2047 ∧ 0 < u % 4503599627370496) := by
    unfold nanW rungW Inf B63
    congr 1
    rw [eq_iff_iff]
    omega
  have Hp := Lib.hid (parts_any w u h0 h1)
  generalize he : u / 4503599627370496 % 2048 = x at hn Hp
  generalize hm : u % 4503599627370496 = m at hn Hp
  generalize u / 9223372036854775808 = s at Hp
  clear he hm
  by_cases h2 : x = 2047
  · by_cases h3 : 0 < m
    · rw [decide_eq_true ⟨h2, h3⟩] at hn
      rw [hn]
      subst h2
      clear hn
      go_enter Tryz.func78, Tryz.ntmps78
      go_wp2_with fail
      refine Hp.out.mono ?_
      rintro e w' ⟨rfl, rfl⟩
      go_wp2_with fail
      go_ret
      exact ⟨rfl, rfl⟩
    · rw [decide_eq_false (fun h => h3 h.2)] at hn
      rw [hn]
      subst h2
      have h4 : decide (0 < m) = false := by simpa using h3
      clear hn
      go_enter Tryz.func78, Tryz.ntmps78
      go_wp2_with fail
      refine Hp.out.mono ?_
      rintro e w' ⟨rfl, rfl⟩
      go_wp2_with fail
      go_ret
      exact ⟨by simp [h3], rfl⟩
  · rw [decide_eq_false (fun h => h2 h.1)] at hn
    rw [hn]
    have h4 : (x == 2047) = false := by simpa using h2
    clear hn
    go_enter Tryz.func78, Tryz.ntmps78
    go_wp2_with fail
    refine Hp.out.mono ?_
    rintro e w' ⟨rfl, rfl⟩
    go_wp2_with fail
    go_ret
    exact ⟨rfl, rfl⟩
theorem canonR_any (w : World) (u : Int) (h0 : 0 ≤ u) (h1 : u < 18446744073709551616) : Calls Tryz.prog 53 #[.int .u64 u] w fun e w' => e = .returned (.int .u64 (canonF u)) ∧ w = w' := by
  go_enter Tryz.func53, Tryz.ntmps53
  go_wp2_with fail
  refine (isnanR_any w u h0 h1).mono ?_
  rintro e w' ⟨rfl, rfl⟩
  cases hn : nanW u.toNat with
  | true =>
    have Hc := Lib.hid (show canonF u = 9221120237041090560 by unfold canonF; rw [if_pos hn])
    clear hn
    go_wp2_with fail
    go_ret
    exact ⟨by rw [Hc.out]; rfl, rfl⟩
  | false =>
    have Hc := Lib.hid (show canonF u = u by unfold canonF; rw [if_neg (by simp [hn])])
    clear hn
    go_wp2_with fail
    go_ret
    exact ⟨by rw [Hc.out]; rfl, rfl⟩
theorem sv_parts {u s x : Int} (h0 : 0 ≤ u) (h1 : u < 18446744073709551616) (hs : u / 9223372036854775808 = s) (hx : u % 9223372036854775808 = x) : (s = 0 ∨ s = 1) ∧ 0 ≤ x ∧ x < 9223372036854775808 ∧ u = s * 9223372036854775808 + x ∧ sv u.toNat = if s = 1 then -x else x := by
  refine ⟨by omega, by omega, by omega, by omega, ?_⟩
  have hr : (rungW u.toNat : Int) = x := by unfold rungW B63; omega
  have hn : negW u.toNat = decide (s = 1) := by
    rw [negW_lt (by omega)]
    congr 1
    rw [eq_iff_iff]
    unfold B63
    omega
  unfold sv
  rw [hr, hn]
  by_cases e : s = 1
  · rw [if_pos e, decide_eq_true e]; rfl
  · rw [if_neg e, decide_eq_false e]; rfl
theorem cmpF_ok {a b : Nat} (h : (nanW a || nanW b) = false) : cmpF a b = if sv a < sv b then -1 else if sv b < sv a then 1 else 0 := by unfold cmpF; rw [h]; rfl

set_option maxHeartbeats 4000000 in
theorem compareR_any (w : World) (a b : Int) (a0 : 0 ≤ a) (a1 : a < 18446744073709551616) (b0 : 0 ≤ b) (b1 : b < 18446744073709551616) :
    Calls Tryz.prog 46 #[.int .u64 a, .int .u64 b] w fun e w' => e = .returned (.tuple #[.int .i64 (cmpF a.toNat b.toNat), .bool (!(nanW a.toNat || nanW b.toNat))]) ∧ w = w' := by
  have Na := Lib.hid (isnanR_any w a a0 a1)
  have Nb := Lib.hid (isnanR_any w b b0 b1)
  cases hna : nanW a.toNat with
  | true =>
    have hc : cmpF a.toNat b.toNat = 0 := by unfold cmpF; rw [hna]; rfl
    rw [hc, Bool.true_or]
    rw [hna] at Na
    clear hc hna
    go_enter Tryz.func46, Tryz.ntmps46
    go_wp2_with fail
    refine Na.out.mono ?_
    rintro e w' ⟨rfl, rfl⟩
    go_wp2_with fail
    go_ret2
    exact ⟨rfl, rfl⟩
  | false =>
    rw [hna] at Na
    cases hnb : nanW b.toNat with
    | true =>
      have hc : cmpF a.toNat b.toNat = 0 := by unfold cmpF; rw [hna, hnb]; rfl
      rw [hc, Bool.false_or]
      rw [hnb] at Nb
      clear hc hna hnb
      go_enter Tryz.func46, Tryz.ntmps46
      go_wp2_with fail
      refine Na.out.mono ?_
      rintro e w' ⟨rfl, rfl⟩
      go_wp2_with fail
      refine Nb.out.mono ?_
      rintro e w' ⟨rfl, rfl⟩
      go_wp2_with fail
      go_ret2
      exact ⟨rfl, rfl⟩
    | false =>
      rw [hnb] at Nb
      have hc := cmpF_ok (a := a.toNat) (b := b.toNat) (by rw [hna, hnb]; rfl)
      have Ma := Lib.hid (mag_any w a a0)
      have Mb := Lib.hid (mag_any w b b0)
      generalize hx : a % 9223372036854775808 = x at Ma
      generalize hy : b % 9223372036854775808 = y at Mb
      obtain ⟨s, hs⟩ : ∃ s, a / 9223372036854775808 = s := ⟨_, rfl⟩
      obtain ⟨t, ht⟩ : ∃ t, b / 9223372036854775808 = t := ⟨_, rfl⟩
      obtain ⟨ks, kx0, kx1, ka, kv⟩ := sv_parts a0 a1 hs hx
      obtain ⟨kt, ky0, ky1, kb, kw⟩ := sv_parts b0 b1 ht hy
      rw [kv, kw] at hc
      have Hc := Lib.hid hc
      clear hc kv kw hx hy hna hnb a0 a1 b0 b1
      rcases ks with rfl | rfl <;> rcases kt with rfl | rfl
      · skip
        rcases Int.lt_trichotomy x y with h | h | h
        · by_cases hx : x = 0
          · have hr : cmpF a.toNat b.toNat = -1 := by rw [Hc.out]; simp only [show ¬ ((0 : Int) = 1) from by decide, if_false, if_true]; split <;> (try split) <;> omega
            have fl : 0 < y := by omega
            have fx : (x == 0) = true := by rw [beq_iff_eq]; omega
            have fy : (y == 0) = false := by rw [beq_eq_false_iff_ne]; omega
            have fe : (a == b) = false := by rw [beq_eq_false_iff_ne]; omega
            have Hr := Lib.hid hr
            clear Hc hr ka kb
            subst hx
            go_enter Tryz.func46, Tryz.ntmps46
            go_wp2_with fail
            refine Na.out.mono ?_
            rintro e w' ⟨rfl, rfl⟩
            go_wp2_with fail
            refine Nb.out.mono ?_
            rintro e w' ⟨rfl, rfl⟩
            go_wp2_with fail
            refine Ma.out.mono ?_
            rintro e w' ⟨rfl, rfl⟩
            go_wp2_with fail
            refine Mb.out.mono ?_
            rintro e w' ⟨rfl, rfl⟩
            go_wp2_with fail
            go_ret2
            exact ⟨by rw [Hr.out]; rfl, rfl⟩
          · have hr : cmpF a.toNat b.toNat = -1 := by rw [Hc.out]; simp only [show ¬ ((0 : Int) = 1) from by decide, if_false, if_true]; split <;> (try split) <;> omega
            have fx : (x == 0) = false := by rw [beq_eq_false_iff_ne]; omega
            have fe : (a == b) = false := by rw [beq_eq_false_iff_ne]; omega
            have Hr := Lib.hid hr
            clear Hc hr ka kb
            go_enter Tryz.func46, Tryz.ntmps46
            go_wp2_with fail
            refine Na.out.mono ?_
            rintro e w' ⟨rfl, rfl⟩
            go_wp2_with fail
            refine Nb.out.mono ?_
            rintro e w' ⟨rfl, rfl⟩
            go_wp2_with fail
            refine Ma.out.mono ?_
            rintro e w' ⟨rfl, rfl⟩
            go_wp2_with fail
            refine Mb.out.mono ?_
            rintro e w' ⟨rfl, rfl⟩
            go_wp2_with fail
            go_ret2
            exact ⟨by rw [Hr.out]; rfl, rfl⟩
        · by_cases hx : x = 0
          · have hr : cmpF a.toNat b.toNat = 0 := by rw [Hc.out]; simp only [show ¬ ((0 : Int) = 1) from by decide, if_false, if_true]; split <;> (try split) <;> omega
            have fx : (x == 0) = true := by rw [beq_iff_eq]; omega
            have fy : (y == 0) = true := by rw [beq_iff_eq]; omega
            have Hr := Lib.hid hr
            clear Hc hr ka kb
            go_enter Tryz.func46, Tryz.ntmps46
            go_wp2_with fail
            refine Na.out.mono ?_
            rintro e w' ⟨rfl, rfl⟩
            go_wp2_with fail
            refine Nb.out.mono ?_
            rintro e w' ⟨rfl, rfl⟩
            go_wp2_with fail
            refine Ma.out.mono ?_
            rintro e w' ⟨rfl, rfl⟩
            go_wp2_with fail
            refine Mb.out.mono ?_
            rintro e w' ⟨rfl, rfl⟩
            go_wp2_with fail
            go_ret2
            exact ⟨by rw [Hr.out]; rfl, rfl⟩
          · have hr : cmpF a.toNat b.toNat = 0 := by rw [Hc.out]; simp only [show ¬ ((0 : Int) = 1) from by decide, if_false, if_true]; split <;> (try split) <;> omega
            have fx : (x == 0) = false := by rw [beq_eq_false_iff_ne]; omega
            have fe : (a == b) = true := by rw [beq_iff_eq]; omega
            have Hr := Lib.hid hr
            clear Hc hr ka kb
            go_enter Tryz.func46, Tryz.ntmps46
            go_wp2_with fail
            refine Na.out.mono ?_
            rintro e w' ⟨rfl, rfl⟩
            go_wp2_with fail
            refine Nb.out.mono ?_
            rintro e w' ⟨rfl, rfl⟩
            go_wp2_with fail
            refine Ma.out.mono ?_
            rintro e w' ⟨rfl, rfl⟩
            go_wp2_with fail
            refine Mb.out.mono ?_
            rintro e w' ⟨rfl, rfl⟩
            go_wp2_with fail
            go_ret2
            exact ⟨by rw [Hr.out]; rfl, rfl⟩
        · have hr : cmpF a.toNat b.toNat = 1 := by rw [Hc.out]; simp only [show ¬ ((0 : Int) = 1) from by decide, if_false, if_true]; split <;> (try split) <;> omega
          have fx : (x == 0) = false := by rw [beq_eq_false_iff_ne]; omega
          have fe : (a == b) = false := by rw [beq_eq_false_iff_ne]; omega
          have fl : ¬ x < y := by omega
          have fd : decide (x < y) = false := decide_eq_false fl
          have Hr := Lib.hid hr
          clear Hc hr ka kb
          go_enter Tryz.func46, Tryz.ntmps46
          go_wp2_with fail
          refine Na.out.mono ?_
          rintro e w' ⟨rfl, rfl⟩
          go_wp2_with fail
          refine Nb.out.mono ?_
          rintro e w' ⟨rfl, rfl⟩
          go_wp2_with fail
          refine Ma.out.mono ?_
          rintro e w' ⟨rfl, rfl⟩
          go_wp2_with fail
          refine Mb.out.mono ?_
          rintro e w' ⟨rfl, rfl⟩
          go_wp2_with fail
          go_ret2
          exact ⟨by rw [Hr.out]; rfl, rfl⟩
      · skip
        by_cases hx : x = 0
        · by_cases hy : y = 0
          · have hr : cmpF a.toNat b.toNat = 0 := by rw [Hc.out]; simp only [show ¬ ((0 : Int) = 1) from by decide, if_false, if_true]; split <;> (try split) <;> omega
            have fx : (x == 0) = true := by rw [beq_iff_eq]; omega
            have fy : (y == 0) = true := by rw [beq_iff_eq]; omega
            have Hr := Lib.hid hr
            clear Hc hr ka kb
            go_enter Tryz.func46, Tryz.ntmps46
            go_wp2_with fail
            refine Na.out.mono ?_
            rintro e w' ⟨rfl, rfl⟩
            go_wp2_with fail
            refine Nb.out.mono ?_
            rintro e w' ⟨rfl, rfl⟩
            go_wp2_with fail
            refine Ma.out.mono ?_
            rintro e w' ⟨rfl, rfl⟩
            go_wp2_with fail
            refine Mb.out.mono ?_
            rintro e w' ⟨rfl, rfl⟩
            go_wp2_with fail
            go_ret2
            exact ⟨by rw [Hr.out]; rfl, rfl⟩
          · have hr : cmpF a.toNat b.toNat = 1 := by rw [Hc.out]; simp only [show ¬ ((0 : Int) = 1) from by decide, if_false, if_true]; split <;> (try split) <;> omega
            have fx : (x == 0) = true := by rw [beq_iff_eq]; omega
            have fy : (y == 0) = false := by rw [beq_eq_false_iff_ne]; omega
            have fe : (a == b) = false := by rw [beq_eq_false_iff_ne]; omega
            have Hr := Lib.hid hr
            clear Hc hr ka kb
            go_enter Tryz.func46, Tryz.ntmps46
            go_wp2_with fail
            refine Na.out.mono ?_
            rintro e w' ⟨rfl, rfl⟩
            go_wp2_with fail
            refine Nb.out.mono ?_
            rintro e w' ⟨rfl, rfl⟩
            go_wp2_with fail
            refine Ma.out.mono ?_
            rintro e w' ⟨rfl, rfl⟩
            go_wp2_with fail
            refine Mb.out.mono ?_
            rintro e w' ⟨rfl, rfl⟩
            go_wp2_with fail
            go_ret2
            exact ⟨by rw [Hr.out]; rfl, rfl⟩
        · have hr : cmpF a.toNat b.toNat = 1 := by rw [Hc.out]; simp only [show ¬ ((0 : Int) = 1) from by decide, if_false, if_true]; split <;> (try split) <;> omega
          have fx : (x == 0) = false := by rw [beq_eq_false_iff_ne]; omega
          have fe : (a == b) = false := by rw [beq_eq_false_iff_ne]; omega
          have Hr := Lib.hid hr
          clear Hc hr ka kb
          go_enter Tryz.func46, Tryz.ntmps46
          go_wp2_with fail
          refine Na.out.mono ?_
          rintro e w' ⟨rfl, rfl⟩
          go_wp2_with fail
          refine Nb.out.mono ?_
          rintro e w' ⟨rfl, rfl⟩
          go_wp2_with fail
          refine Ma.out.mono ?_
          rintro e w' ⟨rfl, rfl⟩
          go_wp2_with fail
          refine Mb.out.mono ?_
          rintro e w' ⟨rfl, rfl⟩
          go_wp2_with fail
          go_ret2
          exact ⟨by rw [Hr.out]; rfl, rfl⟩
      · skip
        by_cases hx : x = 0
        · by_cases hy : y = 0
          · have hr : cmpF a.toNat b.toNat = 0 := by rw [Hc.out]; simp only [show ¬ ((0 : Int) = 1) from by decide, if_false, if_true]; split <;> (try split) <;> omega
            have fx : (x == 0) = true := by rw [beq_iff_eq]; omega
            have fy : (y == 0) = true := by rw [beq_iff_eq]; omega
            have Hr := Lib.hid hr
            clear Hc hr ka kb
            go_enter Tryz.func46, Tryz.ntmps46
            go_wp2_with fail
            refine Na.out.mono ?_
            rintro e w' ⟨rfl, rfl⟩
            go_wp2_with fail
            refine Nb.out.mono ?_
            rintro e w' ⟨rfl, rfl⟩
            go_wp2_with fail
            refine Ma.out.mono ?_
            rintro e w' ⟨rfl, rfl⟩
            go_wp2_with fail
            refine Mb.out.mono ?_
            rintro e w' ⟨rfl, rfl⟩
            go_wp2_with fail
            go_ret2
            exact ⟨by rw [Hr.out]; rfl, rfl⟩
          · have hr : cmpF a.toNat b.toNat = -1 := by rw [Hc.out]; simp only [show ¬ ((0 : Int) = 1) from by decide, if_false, if_true]; split <;> (try split) <;> omega
            have fx : (x == 0) = true := by rw [beq_iff_eq]; omega
            have fy : (y == 0) = false := by rw [beq_eq_false_iff_ne]; omega
            have fe : (a == b) = false := by rw [beq_eq_false_iff_ne]; omega
            have Hr := Lib.hid hr
            clear Hc hr ka kb
            go_enter Tryz.func46, Tryz.ntmps46
            go_wp2_with fail
            refine Na.out.mono ?_
            rintro e w' ⟨rfl, rfl⟩
            go_wp2_with fail
            refine Nb.out.mono ?_
            rintro e w' ⟨rfl, rfl⟩
            go_wp2_with fail
            refine Ma.out.mono ?_
            rintro e w' ⟨rfl, rfl⟩
            go_wp2_with fail
            refine Mb.out.mono ?_
            rintro e w' ⟨rfl, rfl⟩
            go_wp2_with fail
            go_ret2
            exact ⟨by rw [Hr.out]; rfl, rfl⟩
        · have hr : cmpF a.toNat b.toNat = -1 := by rw [Hc.out]; simp only [show ¬ ((0 : Int) = 1) from by decide, if_false, if_true]; split <;> (try split) <;> omega
          have fx : (x == 0) = false := by rw [beq_eq_false_iff_ne]; omega
          have fe : (a == b) = false := by rw [beq_eq_false_iff_ne]; omega
          have Hr := Lib.hid hr
          clear Hc hr ka kb
          go_enter Tryz.func46, Tryz.ntmps46
          go_wp2_with fail
          refine Na.out.mono ?_
          rintro e w' ⟨rfl, rfl⟩
          go_wp2_with fail
          refine Nb.out.mono ?_
          rintro e w' ⟨rfl, rfl⟩
          go_wp2_with fail
          refine Ma.out.mono ?_
          rintro e w' ⟨rfl, rfl⟩
          go_wp2_with fail
          refine Mb.out.mono ?_
          rintro e w' ⟨rfl, rfl⟩
          go_wp2_with fail
          go_ret2
          exact ⟨by rw [Hr.out]; rfl, rfl⟩
      · skip
        rcases Int.lt_trichotomy x y with h | h | h
        · by_cases hx : x = 0
          · have hr : cmpF a.toNat b.toNat = 1 := by rw [Hc.out]; simp only [show ¬ ((0 : Int) = 1) from by decide, if_false, if_true]; split <;> (try split) <;> omega
            have fl : 0 < y := by omega
            have fx : (x == 0) = true := by rw [beq_iff_eq]; omega
            have fy : (y == 0) = false := by rw [beq_eq_false_iff_ne]; omega
            have fe : (a == b) = false := by rw [beq_eq_false_iff_ne]; omega
            have Hr := Lib.hid hr
            clear Hc hr ka kb
            subst hx
            go_enter Tryz.func46, Tryz.ntmps46
            go_wp2_with fail
            refine Na.out.mono ?_
            rintro e w' ⟨rfl, rfl⟩
            go_wp2_with fail
            refine Nb.out.mono ?_
            rintro e w' ⟨rfl, rfl⟩
            go_wp2_with fail
            refine Ma.out.mono ?_
            rintro e w' ⟨rfl, rfl⟩
            go_wp2_with fail
            refine Mb.out.mono ?_
            rintro e w' ⟨rfl, rfl⟩
            go_wp2_with fail
            go_ret2
            exact ⟨by rw [Hr.out]; rfl, rfl⟩
          · have hr : cmpF a.toNat b.toNat = 1 := by rw [Hc.out]; simp only [show ¬ ((0 : Int) = 1) from by decide, if_false, if_true]; split <;> (try split) <;> omega
            have fx : (x == 0) = false := by rw [beq_eq_false_iff_ne]; omega
            have fe : (a == b) = false := by rw [beq_eq_false_iff_ne]; omega
            have Hr := Lib.hid hr
            clear Hc hr ka kb
            go_enter Tryz.func46, Tryz.ntmps46
            go_wp2_with fail
            refine Na.out.mono ?_
            rintro e w' ⟨rfl, rfl⟩
            go_wp2_with fail
            refine Nb.out.mono ?_
            rintro e w' ⟨rfl, rfl⟩
            go_wp2_with fail
            refine Ma.out.mono ?_
            rintro e w' ⟨rfl, rfl⟩
            go_wp2_with fail
            refine Mb.out.mono ?_
            rintro e w' ⟨rfl, rfl⟩
            go_wp2_with fail
            go_ret2
            exact ⟨by rw [Hr.out]; rfl, rfl⟩
        · by_cases hx : x = 0
          · have hr : cmpF a.toNat b.toNat = 0 := by rw [Hc.out]; simp only [show ¬ ((0 : Int) = 1) from by decide, if_false, if_true]; split <;> (try split) <;> omega
            have fx : (x == 0) = true := by rw [beq_iff_eq]; omega
            have fy : (y == 0) = true := by rw [beq_iff_eq]; omega
            have Hr := Lib.hid hr
            clear Hc hr ka kb
            go_enter Tryz.func46, Tryz.ntmps46
            go_wp2_with fail
            refine Na.out.mono ?_
            rintro e w' ⟨rfl, rfl⟩
            go_wp2_with fail
            refine Nb.out.mono ?_
            rintro e w' ⟨rfl, rfl⟩
            go_wp2_with fail
            refine Ma.out.mono ?_
            rintro e w' ⟨rfl, rfl⟩
            go_wp2_with fail
            refine Mb.out.mono ?_
            rintro e w' ⟨rfl, rfl⟩
            go_wp2_with fail
            go_ret2
            exact ⟨by rw [Hr.out]; rfl, rfl⟩
          · have hr : cmpF a.toNat b.toNat = 0 := by rw [Hc.out]; simp only [show ¬ ((0 : Int) = 1) from by decide, if_false, if_true]; split <;> (try split) <;> omega
            have fx : (x == 0) = false := by rw [beq_eq_false_iff_ne]; omega
            have fe : (a == b) = true := by rw [beq_iff_eq]; omega
            have Hr := Lib.hid hr
            clear Hc hr ka kb
            go_enter Tryz.func46, Tryz.ntmps46
            go_wp2_with fail
            refine Na.out.mono ?_
            rintro e w' ⟨rfl, rfl⟩
            go_wp2_with fail
            refine Nb.out.mono ?_
            rintro e w' ⟨rfl, rfl⟩
            go_wp2_with fail
            refine Ma.out.mono ?_
            rintro e w' ⟨rfl, rfl⟩
            go_wp2_with fail
            refine Mb.out.mono ?_
            rintro e w' ⟨rfl, rfl⟩
            go_wp2_with fail
            go_ret2
            exact ⟨by rw [Hr.out]; rfl, rfl⟩
        · have hr : cmpF a.toNat b.toNat = -1 := by rw [Hc.out]; simp only [show ¬ ((0 : Int) = 1) from by decide, if_false, if_true]; split <;> (try split) <;> omega
          have fx : (x == 0) = false := by rw [beq_eq_false_iff_ne]; omega
          have fe : (a == b) = false := by rw [beq_eq_false_iff_ne]; omega
          have fl : ¬ x < y := by omega
          have fd : decide (x < y) = false := decide_eq_false fl
          have Hr := Lib.hid hr
          clear Hc hr ka kb
          go_enter Tryz.func46, Tryz.ntmps46
          go_wp2_with fail
          refine Na.out.mono ?_
          rintro e w' ⟨rfl, rfl⟩
          go_wp2_with fail
          refine Nb.out.mono ?_
          rintro e w' ⟨rfl, rfl⟩
          go_wp2_with fail
          refine Ma.out.mono ?_
          rintro e w' ⟨rfl, rfl⟩
          go_wp2_with fail
          refine Mb.out.mono ?_
          rintro e w' ⟨rfl, rfl⟩
          go_wp2_with fail
          go_ret2
          exact ⟨by rw [Hr.out]; rfl, rfl⟩
end Go.Proofs.YtjkkmepagdhaeaaGreatDoor
