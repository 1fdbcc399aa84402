/- The walk of FloatTurns. -/
import Derived.Test.YtjkkmepagdhaeaaDoorFe2
import Derived.Test.YtjkkmepagdhaeaaDoorFa4
set_option linter.unusedVariables false
set_option linter.unusedSimpArgs false
namespace Go.Proofs.YtjkkmepagdhaeaaDoor
open Go.RowKit

set_option maxHeartbeats 8000000 in
set_option maxRecDepth 100000 in
theorem turns_walk (w : World) (hl : Laid w) (a b : Int) (a0 : 0 ≤ a) (a1 : a < 18446744073709551616) (b0 : 0 ≤ b) (b1 : b < 18446744073709551616) :
    Calls Tryd.prog 9 #[.int .u64 a, .int .u64 b] w fun e w' => e = .returned (.bool true) ∧ Below w.heap.size w w' := by
  have Hl := Lib.hid hl; clear hl
  obtain ⟨x, rfl⟩ := Int.eq_ofNat_of_zero_le a0
  obtain ⟨y, rfl⟩ := Int.eq_ofNat_of_zero_le b0
  have fa := bits_flip a0 a1
  have fb := bits_flip b0 b1
  have fc := bits_clear a0 a1
  have lx : flipW x < 18446744073709551616 := flip_lt (by omega)
  have ly : flipW y < 18446744073709551616 := flip_lt (by omega)
  have Hc := Lib.hid (compare_any w x y)
  have hcf : ∀ W, Calls Tryd.prog 12 #[.int .u64 (flipW x : Int), .int .u64 (flipW y : Int)] W fun e w' => e = .returned (.tuple #[.int .i64 (-(cmpF x y)), .bool (!(nanW x || nanW y))]) ∧ W = w' := fun W => by
    have := compare_any W (flipW x : Int) (flipW y : Int)
    rw [Int.toNat_natCast, Int.toNat_natCast, cmpF_flip, nan_flip, nan_flip] at this
    exact this
  have Hcf := Lib.hid hcf; clear hcf
  rw [Int.toNat_natCast] at fa fb
  have hfx0 : (0 : Int) ≤ (flipW x : Int) := by omega
  have hfx1 : (flipW x : Int) < 18446744073709551616 := by omega
  have hfy0 : (0 : Int) ≤ (flipW y : Int) := by omega
  have hfy1 : (flipW y : Int) < 18446744073709551616 := by omega
  have hof : nanW x = false → nanW y = false → ordF (flipW x : Int) (flipW y : Int) = -(ordF (x : Int) (y : Int)) := fun na nb => ordF_flip (by omega) (by omega) na nb
  have hoc : nanW x = false → nanW y = false → cmpF x y ≠ 0 → ordF (x : Int) (y : Int) = cmpF x y := fun na nb hne => ordF_of_cmp a0 a1 b0 b1 na nb hne
  have Hof := Lib.hid hof; have Hoc := Lib.hid hoc; clear hof hoc
  have hcr : cmpF x y = -1 ∨ cmpF x y = 0 ∨ cmpF x y = 1 := by
    unfold cmpF; split
    · omega
    · split
      · omega
      · split <;> omega
  have hor : ordF (x : Int) (y : Int) = -1 ∨ ordF (x : Int) (y : Int) = 0 ∨ ordF (x : Int) (y : Int) = 1 := by
    unfold ordF cmp3; split
    · omega
    · split <;> omega
  have Hcr := Lib.hid hcr; have Hor := Lib.hid hor; clear hcr hor
  have hc0 : Calls Tryd.prog 12 #[.int .u64 (x : Int), .int .u64 (y : Int)] w fun e w' => True := by
    exact Hc.out.mono fun _ _ _ => trivial
  clear hc0
  go_enter Tryd.func9, Tryd.ntmps9
  go_wp2_with fail
  refine (first_any w Hl.out).mono ?_
  rintro e w1 ⟨rfl, hb⟩
  go_wp2_with fail
  refine (compare_any w1 x y).mono ?_
  rintro e w2 ⟨rfl, rfl⟩
  rw [Int.toNat_natCast, Int.toNat_natCast]
  have Hcf1 := Lib.hid (Hcf.out w1)
  clear Hcf Hc
  by_cases hn : (nanW x || nanW y) = true
  · have hc : cmpF x y = 0 := by unfold cmpF; rw [if_pos hn]
    rw [hc, hn] at Hcf1 ⊢
    clear hn hc Hcr Hoc Hof Hor
    go_wp2_with fail
    refine Hcf1.out.mono ?_
    rintro e w2 ⟨rfl, rfl⟩
    go_wp2_with fail
    go_ret
    exact ⟨rfl, hb⟩
  · have hn' : (nanW x || nanW y) = false := by simpa using hn
    obtain ⟨na, nb⟩ := Bool.or_eq_false_iff.1 hn'
    rw [hn'] at Hcf1 ⊢
    have Ho := Lib.hid (order_any w1 x y a0 a1 b0 b1)
    have Hof1 := Lib.hid (order_any w1 (flipW x : Int) (flipW y : Int) hfx0 hfx1 hfy0 hfy1)
    have hoff := Hof.out na nb
    have hocc := Hoc.out na nb
    rw [hoff] at Hof1
    have hor := Hor.out
    have hcr := Hcr.out
    clear Hof Hoc Hor Hcr hoff hn hn' na nb
    have hnext : x % 9223372036854775808 < 9218868437227405311 → cmpF (x % 9223372036854775808) (x % 9223372036854775808 + 1) = -1 ∧ ordF ((x % 9223372036854775808 : Nat) : Int) ((x % 9223372036854775808 + 1 : Nat) : Int) = -1 := fun h => next_cmp h
    have fc' : bits BinOp.andNot IntKind.u64 (x : Int) 9223372036854775808 = ((x % 9223372036854775808 : Nat) : Int) := by rw [fc]; omega
    have hml : x % 9223372036854775808 < 9223372036854775808 := Nat.mod_lt _ (by decide)
    generalize x % 9223372036854775808 = m at hnext fc' hml
    have hk : (m : Int) < 9218868437227405311 → (Calls Tryd.prog 12 #[.int .u64 (m : Int), .int .u64 ((m : Int) + 1)] w1 fun e w' => e = .returned (.tuple #[.int .i64 (-1), .bool true]) ∧ w1 = w') ∧ (Calls Tryd.prog 24 #[.int .u64 (m : Int), .int .u64 ((m : Int) + 1)] w1 fun e w' => e = .returned (.int .i64 (-1)) ∧ w1 = w') := fun h => by
      have h := (by omega : m < 9218868437227405311)
      obtain ⟨h1, h2⟩ := hnext h
      obtain ⟨p1, _, _⟩ := small_pos (m := m) (by omega)
      obtain ⟨p2, _, _⟩ := small_pos (m := m + 1) (by omega)
      have c1 := compare_any w1 (m : Int) ((m + 1 : Nat) : Int)
      have c2 := order_any w1 (m : Int) ((m + 1 : Nat) : Int) (by omega) (by omega) (by omega) (by omega)
      rw [Int.toNat_natCast, Int.toNat_natCast, h1, p1, p2] at c1
      rw [h2] at c2
      exact ⟨c1, c2⟩
    have hm0 : (0 : Int) ≤ m := by omega
    have hm1 : (m : Int) < 9223372036854775808 := by omega
    clear hnext fc hml
    generalize (m : Int) = M at hk fc' hm0 hm1
    have Hk := Lib.hid hk
    clear hk
    generalize cmpF x y = c at *
    generalize ordF (x : Int) (y : Int) = o at *
    have hco : (c = 0 ∨ o = c) := by
      by_cases e : c = 0
      · exact .inl e
      · exact .inr (hocc e)
    clear hocc
    have step : ∀ W' : World, Below w.heap.size w W' → True := fun _ _ => trivial
    clear step
    clear lx ly hfx0 hfx1 hfy0 hfy1 a0 a1 b0 b1
    generalize (flipW x : Int) = X at *
    generalize (flipW y : Int) = Y at *
    generalize (x : Int) = x' at *
    generalize (y : Int) = y' at *
    rcases hcr with rfl | rfl | rfl <;> rcases hor with rfl | rfl | rfl <;> (try (exfalso; omega))
    all_goals (
      clear hco
      go_wp2_with fail
      refine Hcf1.out.mono ?_
      rintro e w2 ⟨rfl, rfl⟩
      go_wp2_with fail
      refine Ho.out.mono ?_
      rintro e w2 ⟨rfl, rfl⟩
      go_wp2_with fail
      refine Hof1.out.mono ?_
      rintro e w2 ⟨rfl, rfl⟩
      by_cases hm : M < 9218868437227405311
      · obtain ⟨k1, k2⟩ := Hk.out hm
        have K1 := Lib.hid k1; have K2 := Lib.hid k2
        clear k1 k2
        go_wp2_with fail
        try (refine Ho.out.mono ?_; rintro e w2 ⟨rfl, rfl⟩; go_wp2_with fail)
        refine K1.out.mono ?_
        rintro e w2 ⟨rfl, rfl⟩
        go_wp2_with fail
        refine K2.out.mono ?_
        rintro e w2 ⟨rfl, rfl⟩
        go_wp2_with fail
        go_ret
        exact ⟨rfl, hb⟩
      · have hm2 : (9218868437227405311 : Int) ≤ M := by omega
        clear hm
        go_wp2_with fail
        try (refine Ho.out.mono ?_; rintro e w2 ⟨rfl, rfl⟩; go_wp2_with fail)
        go_ret
        exact ⟨rfl, hb⟩)
end Go.Proofs.YtjkkmepagdhaeaaDoor
