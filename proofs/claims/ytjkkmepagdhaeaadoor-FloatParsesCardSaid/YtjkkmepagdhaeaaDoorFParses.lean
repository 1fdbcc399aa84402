/- The walk of FloatParses. -/
import Derived.Test.YtjkkmepagdhaeaaDoorFe3
import Derived.Test.YtjkkmepagdhaeaaDoorFp3
set_option linter.unusedVariables false
set_option linter.unusedSimpArgs false
namespace Go.Proofs.YtjkkmepagdhaeaaDoor
open Go.RowKit

set_option maxHeartbeats 8000000 in
set_option maxRecDepth 100000 in
theorem parses_walk (w : World) (hl : Laid w) (s : ByteArray) :
    Calls Tryd.prog 6 #[.string s] w fun e w' => e = .returned (.bool true) ∧ Below w.heap.size w w' := by
  have Hl := Lib.hid hl; clear hl
  by_cases hs : 300 < s.size
  · have hsi : 300 < (s.size : Int) := by omega
    clear hs
    go_enter Tryd.func6, Tryd.ntmps6
    go_wp2_with fail
    refine (first_any w Hl.out).mono ?_
    rintro e w1 ⟨rfl, hb⟩
    go_wp2_with fail
    go_ret
    exact ⟨rfl, hb⟩
  · have hsi : ¬ 300 < (s.size : Int) := by omega
    have Hp : Hid (∀ W : World, Laid W → Calls Tryd.prog 21 #[.string s] W fun e w' => e = .returned (.tuple #[.int .u64 (parseV s.data.toList), .bool (parseOk s.data.toList)]) ∧ Below W.heap.size W w') := Lib.hid fun W h => parse_any W h s (by omega)
    have Hr : Hid (∀ W : World, Calls Tryd.prog 23 #[.string s] W fun e w' => PrEnds W w' e s.data.toList) := Lib.hid fun W => parseR_any W s (by omega)
    clear hs
    have h0 : parseOk s.data.toList = false → parseV s.data.toList = 0 := fun h => by unfold parseV; rw [if_neg (by simp [h])]
    have H0 := Lib.hid h0; clear h0
    cases hok : parseOk s.data.toList with
    | true =>
      rw [hok] at Hp
      go_enter Tryd.func6, Tryd.ntmps6
      go_wp2_with fail
      refine (first_any w Hl.out).mono ?_
      rintro e w1 ⟨rfl, hb⟩
      go_wp2_with fail
      refine (Hp.out w1 (Hl.out.below hb)).mono ?_
      rintro e w2 ⟨rfl, hb2⟩
      have hb3 := hb.trans (hb2.mono hb.size)
      go_wp2_with fail
      refine (Hr.out w2).mono ?_
      rintro e w3 ⟨v, rfl, hv, hb4⟩
      have hb5 := hb3.trans (hb4.mono hb3.size)
      obtain rfl := hv hok
      rw [hok]
      generalize parseV s.data.toList = v
      go_wp2_with fail
      go_ret
      exact ⟨by simp, hb5⟩
    | false =>
      have hv0 := H0.out hok
      rw [hok, hv0] at Hp
      go_enter Tryd.func6, Tryd.ntmps6
      go_wp2_with fail
      refine (first_any w Hl.out).mono ?_
      rintro e w1 ⟨rfl, hb⟩
      go_wp2_with fail
      refine (Hp.out w1 (Hl.out.below hb)).mono ?_
      rintro e w2 ⟨rfl, hb2⟩
      have hb3 := hb.trans (hb2.mono hb.size)
      go_wp2_with fail
      refine (Hr.out w2).mono ?_
      rintro e w3 ⟨v, rfl, hv, hb4⟩
      have hb5 := hb3.trans (hb4.mono hb3.size)
      clear hv
      rw [hok]
      go_wp2_with fail
      go_ret
      exact ⟨by simp, hb5⟩
end Go.Proofs.YtjkkmepagdhaeaaDoor
