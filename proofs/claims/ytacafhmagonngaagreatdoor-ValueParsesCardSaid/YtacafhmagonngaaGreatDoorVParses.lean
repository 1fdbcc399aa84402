/- The walk of ValueParses. -/
import Derived.Test.YtacafhmagonngaaGreatDoorVw2
import Derived.Test.YtacafhmagonngaaGreatDoorVe0
set_option linter.unusedVariables false
set_option linter.unusedSimpArgs false
namespace Go.Proofs.YtacafhmagonngaaGreatDoor
open Go.RowKit

set_option maxHeartbeats 16000000 in
set_option maxRecDepth 100000 in
theorem parsesV_walk (w : World) (hl : Laid w) (s : ByteArray) :
    Calls Tryz.prog 3 #[.string s] w fun e w' => e = .returned (.bool true) ∧ Below w.heap.size w w' := by
  have Hl := Lib.hid hl; clear hl
  by_cases hs : 1000 < (s.size : Int)
  · go_enter Tryz.func3, Tryz.ntmps3
    go_wp2_with fail
    refine (firstV_any w Hl.out).mono ?_
    rintro e w1 ⟨rfl, hb⟩
    go_wp2_with fail
    go_ret
    exact ⟨rfl, hb⟩
  · have hs2 : s.size ≤ 100000 := by omega
    have Hp : Hid (∀ W : World, Laid W → Calls Tryz.prog 9 #[.string s] W fun e w' => e = .returned (.tuple #[(parseVal s.data.toList).v, .bool (okV s.data.toList)]) ∧ Below W.heap.size W w') := Lib.hid fun W h => parseV_any W h s hs2
    have Hq : Hid (∀ W : World, Calls Tryz.prog 10 #[.string s] W fun e w' => e = .returned (.tuple #[(parseVal s.data.toList).v, .bool (okV s.data.toList)]) ∧ Below W.heap.size W w') := Lib.hid fun W => parseVR_any W s hs2
    generalize parseVal s.data.toList = v at *
    generalize okV s.data.toList = K at *
    obtain ⟨ak, an, sa, af⟩ := v
    simp only [Val.v] at *
    clear hs2
    go_enter Tryz.func3, Tryz.ntmps3
    go_wp2_with fail
    refine (firstV_any w Hl.out).mono ?_
    rintro e w1 ⟨rfl, hb⟩
    have H1 := Lib.hid hb; clear hb
    go_wp2_with fail
    refine (Hp.out w1 (Hl.out.below H1.out)).mono ?_
    rintro e w2 ⟨rfl, hb⟩
    have hbb := H1.out.trans (hb.mono H1.out.size)
    have H2 := Lib.hid (hbb.alloc hbb.size (.cells #[.int .i64 ak, .int .i64 an, .string sa, .int .u64 af] 26))
    have X2 := Lib.hid (At.new w2 ak an sa af 26)
    clear hb hbb
    go_wp2_with fail
    generalize World.alloc w2 _ = W3 at H2 X2 ⊢
    generalize w2.heap.size = C at *
    refine (Hq.out W3).mono ?_
    rintro e w4 ⟨rfl, hb⟩
    have hx := X2.out.below hb X2.out.lt
    have hbb := H2.out.trans (hb.mono H2.out.size)
    have X4 := Lib.hid (hx.alloc (.cells #[.int .i64 ak, .int .i64 an, .string sa, .int .u64 af] 26))
    have H4 := Lib.hid (hbb.alloc hbb.size (.cells #[.int .i64 ak, .int .i64 an, .string sa, .int .u64 af] 26))
    have Y4 := Lib.hid (At.new w4 ak an sa af 26)
    clear hb hx hbb
    go_upto_region 7 with fail
    generalize World.alloc w4 _ = W5 at X4 H4 Y4 ⊢
    generalize w4.heap.size = D at *
    obtain ⟨x0, x1, x2, x3, -, -⟩ := X4.out
    obtain ⟨y0, y1, y2, y3, -, -⟩ := Y4.out
    go_wp2_with fail
    go_ret
    exact ⟨by simp, H4.out⟩
end Go.Proofs.YtacafhmagonngaaGreatDoor
