/- The walk of layer 2's first. -/
import Derived.Test.YtjkkmepagdhaeaaDoorFe2
set_option linter.unusedVariables false
set_option linter.unusedSimpArgs false
namespace Go.Proofs.YtjkkmepagdhaeaaDoor
open Go.RowKit

theorem first_any (w : World) (hl : Laid w) : Calls Tryd.prog 11 #[] w fun e w' => e = .returned (.bool true) ∧ Below w.heap.size w w' := by
  have Hl := Lib.hid hl; clear hl
  go_enter Tryd.func11, Tryd.ntmps11
  go_wp2_with fail
  refine (compare_any w 9221120237041090560 9221120237041090560).mono ?_
  rintro e w1 ⟨rfl, rfl⟩
  rw [show (!(nanW (9221120237041090560 : Int).toNat || nanW (9221120237041090560 : Int).toNat)) = false from by decide]
  go_wp2_with fail
  refine (toint_any w 4613937818241073152).mono ?_
  rintro e w1 ⟨rfl, rfl⟩
  have hw3 : wholeW (4613937818241073152 : Int).toNat = true ∧ wholeV (4613937818241073152 : Int).toNat = 3 := by
    decide +kernel
  rw [hw3.1, hw3.2]
  go_wp2_with fail
  refine (parse_any w Hl.out ⟨#[45, 48, 46]⟩ (by decide)).mono ?_
  rintro e w1 ⟨rfl, hb⟩
  have hp : parseV (ByteArray.mk #[45, 48, 46]).data.toList = 9223372036854775808 ∧ parseOk (ByteArray.mk #[45, 48, 46]).data.toList = true := by
    decide +kernel
  rw [hp.1, hp.2]
  go_wp2_with fail
  refine (print_any w1 (Hl.out.below hb) 4613937818241073152 (by omega) (by omega)).mono ?_
  rintro e w2 ⟨rfl, hb2⟩
  have hp3 : printL (4613937818241073152 : Int).toNat = [51, 46] := by
    decide +kernel
  rw [hp3]
  go_wp2_with fail
  refine (print_any w2 ((Hl.out.below hb).below hb2) 4602678819172646912 (by omega) (by omega)).mono ?_
  rintro e w3 ⟨rfl, hb3⟩
  have hp4 : printL (4602678819172646912 : Int).toNat = [48, 120, 51, 102, 101, 48, 48, 48, 48, 48, 48, 48, 48, 48, 48, 48, 48, 48] := by
    decide +kernel
  rw [hp4]
  go_wp2_with fail
  refine (canon_any w3 18442240474082181121).mono ?_
  rintro e w4 ⟨rfl, rfl⟩
  rw [show canonF 18442240474082181121 = 9221120237041090560 from by decide]
  have hbb := (hb.trans (hb2.mono hb.size)).trans (hb3.mono (Nat.le_trans hb.size hb2.size))
  go_wp2_with fail
  go_ret
  exact ⟨rfl, hbb⟩
end Go.Proofs.YtjkkmepagdhaeaaDoor
