/- The walk of FloatPrints. -/
import Derived.Test.YtjkkmepagdhaeaaDoorFe3
import Derived.Test.YtjkkmepagdhaeaaDoorFp1
set_option linter.unusedVariables false
set_option linter.unusedSimpArgs false
namespace Go.Proofs.YtjkkmepagdhaeaaDoor
open Go.RowKit

theorem print_len (u : Nat) : (printL u).length ≤ 18 := by
  unfold printL
  split
  · decide
  · split
    · decide
    · split
      · decide
      · split
        · split
          · decide
          · have := itoa_len17 (wholeV u) (wholeV_le u)
            rw [List.length_append, List.length_singleton]
            omega
        · rw [List.length_append, hexN_length]; decide
set_option maxHeartbeats 8000000 in
set_option maxRecDepth 100000 in
theorem prints_walk (w : World) (hl : Laid w) (u : Int) (u0 : 0 ≤ u) (u1 : u < 18446744073709551616) :
    Calls Tryd.prog 5 #[.int .u64 u] w fun e w' => e = .returned (.bool true) ∧ Below w.heap.size w w' := by
  have Hl := Lib.hid hl; clear hl
  have Pa : Hid (∀ W : World, Laid W → Calls Tryd.prog 20 #[.int .u64 u] W fun e w' => e = .returned (.string ⟨(printL u.toNat).toArray⟩) ∧ Below W.heap.size W w') := Lib.hid fun W h => print_any W h u u0 u1
  have Pb : Hid (∀ W : World, Calls Tryd.prog 22 #[.int .u64 u] W fun e w' => e = .returned (.string ⟨(printL u.toNat).toArray⟩) ∧ Below W.heap.size W w') := Lib.hid fun W => printR_any W u u0 u1
  have Pp : Hid (∀ W : World, Laid W → Calls Tryd.prog 21 #[.string ⟨(printL u.toNat).toArray⟩] W fun e w' => e = .returned (.tuple #[.int .u64 (canonF u), .bool true]) ∧ Below W.heap.size W w') := Lib.hid fun W h => by
    have hp := parse_any W h ⟨(printL u.toNat).toArray⟩ (by have := print_len u.toNat; simp [ByteArray.size]; omega)
    obtain ⟨q1, q2⟩ := parse_print u u0 u1
    rwa [q1, q2] at hp
  have Cr : Hid (∀ W : World, Calls Tryd.prog 15 #[.int .u64 u] W fun e w' => e = .returned (.int .u64 (canonF u)) ∧ W = w') := Lib.hid fun W => canonR_any W u u0 u1
  clear u0 u1
  generalize (⟨(printL u.toNat).toArray⟩ : ByteArray) = X at *
  generalize canonF u = A at *
  go_enter Tryd.func5, Tryd.ntmps5
  go_wp2_with fail
  refine (first_any w Hl.out).mono ?_
  rintro e w1 ⟨rfl, hb⟩
  go_wp2_with fail
  refine (Pa.out w1 (Hl.out.below hb)).mono ?_
  rintro e w2 ⟨rfl, hb2⟩
  have hb3 := hb.trans (hb2.mono hb.size)
  clear hb hb2
  go_wp2_with fail
  refine (Pp.out w2 (Hl.out.below hb3)).mono ?_
  rintro e w4 ⟨rfl, hb4⟩
  have hb5 := hb3.trans (hb4.mono hb3.size)
  clear hb4 hb3
  go_wp2_with fail
  refine (Pb.out w4).mono ?_
  rintro e w5 ⟨rfl, hb6⟩
  have hb7 := hb5.trans (hb6.mono hb5.size)
  clear hb5 hb6
  go_wp2_with fail
  refine (Cr.out w5).mono ?_
  rintro e w6 ⟨rfl, rfl⟩
  go_wp2_with fail
  go_ret
  exact ⟨by simp, hb7⟩
end Go.Proofs.YtjkkmepagdhaeaaDoor
