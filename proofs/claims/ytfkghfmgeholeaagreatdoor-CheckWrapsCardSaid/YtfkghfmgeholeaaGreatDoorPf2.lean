/- The walk of parse.Right. -/
import Derived.Test.YtfkghfmgeholeaaGreatDoorPf1
set_option linter.unusedVariables false
set_option linter.unusedSimpArgs false
namespace Go.Proofs.YtfkghfmgeholeaaGreatDoor
open Go.RowKit

set_option maxHeartbeats 8000000 in
set_option maxRecDepth 100000 in
theorem parseRight_any (w : World) (t : Tree) (hz : t.sized) (S : Nat → Prop) (a : Option Addr) (n c : Nat) (hk : KSl w S t.kids a n) : Calls Tryz.prog 33 #[t.val a n c] w fun e w' => e = .returned (.bool (rightT 0 t)) ∧ Below w.heap.size w w' := by
  have hb := Below.new w (.cells (t.cells a n c) 30)
  have HK := Lib.hid (KVar.new w t a n c 30)
  have Hc : Hid (Calls Tryz.prog 48 #[t.val a n c, .int .i64 0] (w.alloc (.cells (t.cells a n c) 30)) fun e w' => e = .returned (.bool (rightT 0 t)) ∧ Below (w.alloc (.cells (t.cells a n c) 30)).heap.size (w.alloc (.cells (t.cells a n c) 30)) w') := Lib.hid (rightc_any 0 t hz _ S a n c (hk.later hb))
  have Hb := Lib.hid hb
  clear hz hk hb
  generalize rightT 0 t = B at Hc ⊢
  simp only [Tree.val]
  go_enter Tryz.func33, Tryz.ntmps33
  go_upto_region 1 with fail
  generalize World.alloc w _ = W at HK Hc Hb ⊢
  obtain ⟨c0, c1, c2, c3, c4, c5, c6, c7, c8, -, -⟩ := HK.out
  go_wp2_with fail
  refine Hc.out.mono ?_
  rintro e w1 ⟨rfl, hb1⟩
  have HB1 := Lib.hid (Hb.out.trans (hb1.mono Hb.out.size))
  clear hb1 Hc c0 c1 c2 c3 c4 c5 c6 c7 c8
  go_wp2_with fail
  go_ret
  exact ⟨rfl, HB1.out⟩
/-- what parse.Print answers -/
def printF (t : Tree) : List UInt8 := if rightT 0 t then printT t else []
end Go.Proofs.YtfkghfmgeholeaaGreatDoor
