/- The walk of FloatCompares. -/
import Derived.Test.YtjkkmepagdhaeaaDoorFf0
set_option linter.unusedVariables false
set_option linter.unusedSimpArgs false
namespace Go.Proofs.YtjkkmepagdhaeaaDoor
open Go.RowKit

theorem compares_walk (w : World) (hl : Laid w) (a b : Int) (a0 : 0 ≤ a) (a1 : a < 18446744073709551616) (b0 : 0 ≤ b) (b1 : b < 18446744073709551616) :
    Calls Tryd.prog 3 #[.int .u64 a, .int .u64 b] w fun e w' => e = .returned (.bool true) ∧ Below w.heap.size w w' := by
  have Hl := Lib.hid hl; clear hl
  go_enter Tryd.func3, Tryd.ntmps3
  go_wp2_with fail
  refine (first_any w Hl.out).mono ?_
  rintro e w1 ⟨rfl, hb⟩
  go_wp2_with fail
  refine (compare_any w1 a b).mono ?_
  rintro e w2 ⟨rfl, rfl⟩
  have Hr := Lib.hid (compareR_any w1 a b a0 a1 b0 b1)
  generalize cmpF a.toNat b.toNat = c at Hr ⊢
  generalize (!(nanW a.toNat || nanW b.toNat)) = ok at Hr ⊢
  go_wp2_with fail
  refine Hr.out.mono ?_
  rintro e w2 ⟨rfl, rfl⟩
  go_wp2_with fail
  refine (canon_any w1 a).mono ?_
  rintro e w2 ⟨rfl, rfl⟩
  go_wp2_with fail
  refine (canonR_any w1 a a0 a1).mono ?_
  rintro e w2 ⟨rfl, rfl⟩
  go_wp2_with fail
  refine (canon_any w1 b).mono ?_
  rintro e w2 ⟨rfl, rfl⟩
  go_wp2_with fail
  refine (canonR_any w1 b b0 b1).mono ?_
  rintro e w2 ⟨rfl, rfl⟩
  go_wp2_with fail
  go_ret
  exact ⟨by simp, hb⟩
end Go.Proofs.YtjkkmepagdhaeaaDoor
