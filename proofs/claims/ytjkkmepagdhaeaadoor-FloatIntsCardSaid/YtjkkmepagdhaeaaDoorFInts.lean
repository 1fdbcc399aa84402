/- The walk of FloatInts. -/
import Derived.Test.YtjkkmepagdhaeaaDoorFf3
import Derived.Test.YtjkkmepagdhaeaaDoorFa6
set_option linter.unusedVariables false
set_option linter.unusedSimpArgs false
namespace Go.Proofs.YtjkkmepagdhaeaaDoor
open Go.RowKit

set_option maxHeartbeats 8000000 in
set_option maxRecDepth 100000 in
theorem ints_walk (w : World) (hl : Laid w) (u n : Int) (u0 : 0 ≤ u) (u1 : u < 18446744073709551616) (n0 : -9223372036854775808 ≤ n) (n1 : n ≤ 9223372036854775807) :
    Calls Tryd.prog 4 #[.int .u64 u, .int .i64 n] w fun e w' => e = .returned (.bool true) ∧ Below w.heap.size w w' := by
  have Hl := Lib.hid hl; clear hl
  have Ht : Hid (∀ W : World, Calls Tryd.prog 16 #[.int .u64 u] W fun e w' => e = .returned (.tuple #[.int .i64 (wholeV u.toNat), .bool (wholeW u.toNat)]) ∧ W = w') := fun W => toint_any W u
  have Hr : Hid (∀ W : World, Calls Tryd.prog 17 #[.int .u64 u] W fun e w' => e = .returned (.tuple #[.int .i64 (wholeV u.toNat), .bool (wholeW u.toNat)]) ∧ W = w') := fun W => wholeR_any W u u0 u1
  have Hf : Hid (∀ W : World, Calls Tryd.prog 18 #[.int .i64 n] W fun e w' => e = .returned (.tuple #[.int .u64 (fromV n), .bool (inR n)]) ∧ W = w') := fun W => fromint_any W n
  have Hg : Hid (∀ W : World, Calls Tryd.prog 19 #[.int .i64 n] W fun e w' => e = .returned (.tuple #[.int .u64 (fromV n), .bool (inR n)]) ∧ W = w') := fun W => fromintR_any W n n0 n1
  have hb : ∀ W : World, Calls Tryd.prog 16 #[.int .u64 (fromV n)] W fun e w' => e = .returned (.tuple #[.int .i64 (wholeV (fromV n).toNat), .bool (wholeW (fromV n).toNat)]) ∧ W = w' := fun W => toint_any W (fromV n)
  have hback : inR n = true → wholeV (fromV n).toNat = n ∧ wholeW (fromV n).toNat = true := by
    intro h
    have hi := (fromW_int (inR_abs h)).whole
    have hf : fromV n = (fromW n : Int) := by unfold fromV; rw [if_pos h]
    rw [hf, Int.toNat_natCast]
    exact ⟨hi.2, hi.1⟩
  clear u0 u1 n0 n1
  generalize wholeV u.toNat = x at *
  generalize wholeW u.toNat = ok at *
  generalize wholeV (fromV n).toNat = y at *
  generalize wholeW (fromV n).toNat = is at *
  generalize fromV n = f at *
  have Hb := Lib.hid hb; clear hb
  cases hi : inR n with
  | true =>
    obtain ⟨rfl, rfl⟩ := hback hi
    rw [hi] at Hf Hg
    clear hback hi
    go_enter Tryd.func4, Tryd.ntmps4
    go_wp2_with fail
    refine (first_any w Hl.out).mono ?_
    rintro e w1 ⟨rfl, hb⟩
    go_wp2_with fail
    refine (Ht.out w1).mono ?_
    rintro e w2 ⟨rfl, rfl⟩
    go_wp2_with fail
    refine (Hr.out w1).mono ?_
    rintro e w2 ⟨rfl, rfl⟩
    go_wp2_with fail
    refine (Hf.out w1).mono ?_
    rintro e w2 ⟨rfl, rfl⟩
    go_wp2_with fail
    refine (Hg.out w1).mono ?_
    rintro e w2 ⟨rfl, rfl⟩
    go_wp2_with fail
    refine (Hb.out w1).mono ?_
    rintro e w2 ⟨rfl, rfl⟩
    go_wp2_with fail
    go_ret
    exact ⟨by simp, hb⟩
  | false =>
    rw [hi] at Hf Hg
    clear hback hi
    go_enter Tryd.func4, Tryd.ntmps4
    go_wp2_with fail
    refine (first_any w Hl.out).mono ?_
    rintro e w1 ⟨rfl, hb⟩
    go_wp2_with fail
    refine (Ht.out w1).mono ?_
    rintro e w2 ⟨rfl, rfl⟩
    go_wp2_with fail
    refine (Hr.out w1).mono ?_
    rintro e w2 ⟨rfl, rfl⟩
    go_wp2_with fail
    refine (Hf.out w1).mono ?_
    rintro e w2 ⟨rfl, rfl⟩
    go_wp2_with fail
    refine (Hg.out w1).mono ?_
    rintro e w2 ⟨rfl, rfl⟩
    go_wp2_with fail
    refine (Hb.out w1).mono ?_
    rintro e w2 ⟨rfl, rfl⟩
    go_wp2_with fail
    go_ret
    exact ⟨by simp, hb⟩
end Go.Proofs.YtjkkmepagdhaeaaDoor
