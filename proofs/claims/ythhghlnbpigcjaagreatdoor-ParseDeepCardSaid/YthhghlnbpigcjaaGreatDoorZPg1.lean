/- The walks of parse.Right, parse.Print. -/
import Derived.Test.YthhghlnbpigcjaaGreatDoorZPg0
set_option linter.unusedVariables false
set_option linter.unusedSimpArgs false
namespace Go.Proofs.YthhghlnbpigcjaaGreatDoor
open Go.RowKit

set_option maxHeartbeats 8000000 in
set_option maxRecDepth 100000 in
theorem parseRight_any (w : World) (t : Tree) (hz : t.sized) (S : Nat → Prop) (a : Option Addr) (n c : Nat) (hk : KSl w S t.kids a n) : Calls Tryz.prog 18 #[t.val a n c] w fun e w' => e = .returned (.bool (rightT 0 t)) ∧ Below w.heap.size w w' := by
  have hb := Below.new w (.cells (t.cells a n c) 31)
  have HK := Lib.hid (KVar.new w t a n c 31)
  have Hc : Hid (Calls Tryz.prog 32 #[t.val a n c, .int .i64 0] (w.alloc (.cells (t.cells a n c) 31)) fun e w' => e = .returned (.bool (rightT 0 t)) ∧ Below (w.alloc (.cells (t.cells a n c) 31)).heap.size (w.alloc (.cells (t.cells a n c) 31)) w') := Lib.hid (rightc_any 0 t hz _ S a n c (hk.later hb))
  have Hb := Lib.hid hb
  clear hz hk hb
  generalize rightT 0 t = B at Hc ⊢
  simp only [Tree.val]
  go_enter Tryz.func18, Tryz.ntmps18
  go_upto_region 1 with fail
  generalize World.alloc w _ = W at HK Hc Hb ⊢
  obtain ⟨c0, c1, c2, c3, c4, c5, c6, c7, c8, -, -⟩ := HK.out
  go_wp2_with fail
  refine Hc.out.mono ?_
  rintro e w1 ⟨rfl, hb1⟩
  have HB1 := Lib.hid (Hb.out.trans (hb1.mono Hb.out.size))
  clear hb1 Hc c0 c1 c2 c3 c4 c5 c6 c7 c8
  go_wp2_with fail
  go_ret
  exact ⟨rfl, HB1.out⟩
/-- what parse.Print answers -/
def printF (t : Tree) : List UInt8 := if rightT 0 t then printT t else []
theorem builder_new (w : World) : BAt w.heap.size w.heap.size [] (w.alloc (.cells #[.pointer none, .slice none 0 0] 66)) := by
  refine .inl ⟨Nat.le_refl _, .slice none 0 0, ?_, ⟨rfl, .inl ⟨rfl, rfl⟩⟩, ?_⟩
  · show (w.heap.push _)[w.heap.size]? = _
    simp
  · simp [Value.ownBlock]
set_option maxHeartbeats 8000000 in
set_option maxRecDepth 100000 in
theorem parsePrint_any (w : World) (hl : Laid w) (t : Tree) (hz : t.sized) (hw : WfT t) (S : Nat → Prop) (a : Option Addr) (n c : Nat) (hk : KSl w S t.kids a n) (hsz : rightT 0 t = true → (printT t).length ≤ 1000000) : Calls Tryz.prog 16 #[t.val a n c] w fun e w' => e = .returned (.string ⟨(printF t).toArray⟩) ∧ Below w.heap.size w w' := by
  have hb := Below.new w (.cells (t.cells a n c) 31)
  have HK := Lib.hid (KVar.new w t a n c 31)
  have HS := Lib.hid (hk.later hb)
  have Hr : Hid (∀ W, KSl W S t.kids a n → Calls Tryz.prog 18 #[t.val a n c] W fun e w' => e = .returned (.bool (rightT 0 t)) ∧ Below W.heap.size W w') := Lib.hid fun W hk => parseRight_any W t hz S a n c hk
  have Hw : Hid (rightT 0 t = true → ∀ w0, Laid w0 → WriteC w0 t) := Lib.hid fun hr => write_all t.depth t 0 (Nat.le_refl _) hr hw
  have Hsz := Lib.hid hsz
  have Hb := Lib.hid hb; have HL := Lib.hid hl
  clear hz hk hb hw hl hsz
  generalize hPF : printF t = PF
  have HPF := Lib.hid hPF
  clear hPF
  simp only [Tree.val] at Hr ⊢
  go_enter Tryz.func16, Tryz.ntmps16
  go_upto_region 1 with fail
  generalize World.alloc w _ = W at HK HS Hb ⊢
  obtain ⟨c0, c1, c2, c3, c4, c5, c6, c7, c8, -, -⟩ := HK.out
  have hc := Lib.hid (Hr.out W HS.out)
  go_wp2_with fail
  refine hc.out.mono ?_
  rintro e w1 ⟨rfl, hb1⟩
  have HB1 := Lib.hid (Hb.out.trans (hb1.mono Hb.out.size))
  have HS1 := Lib.hid (HS.out.later hb1)
  have HK1 := Lib.hid (HK.out.below hb1 HK.out.lt)
  clear hb1 hc c0 c1 c2 c3 c4 c5 c6 c7 c8
  cases hR : rightT 0 t with
  | false =>
    obtain rfl : PF = [] := by rw [← HPF.out]; unfold printF; rw [hR]; rfl
    clear hR
    go_wp2_with fail
    go_ret
    exact ⟨rfl, HB1.out⟩
  | true =>
    obtain rfl : PF = printT t := by rw [← HPF.out]; unfold printF; rw [hR]; rfl
    have HW := Lib.hid (Hw.out hR w1 (HL.out.below HB1.out) (w1.alloc (.cells #[.pointer none, .slice none 0 0] 66)) w1.heap.size [] S a n c (Below.new _ _) (builder_new w1) HS1.out (by have := Hsz.out hR; simpa using this))
    have HKn := Lib.hid (HK1.out.below (Below.new w1 (.cells #[.pointer none, .slice none 0 0] 66)) HK1.out.lt)
    have Hbn := Lib.hid (Below.new w1 (.cells #[.pointer none, .slice none 0 0] 66))
    have hsw : Hid (w1.heap.size ≤ (w1.alloc (.cells #[.pointer none, .slice none 0 0] 66)).heap.size) := Lib.hid (by simp)
    clear hR
    go_upto_region 4 with fail
    generalize World.alloc w1 _ = W2 at HW HKn Hbn hsw ⊢
    obtain ⟨c0, c1, c2, c3, c4, c5, c6, c7, c8, -, -⟩ := HKn.out
    go_wp2_with fail
    refine HW.out.mono ?_
    rintro e w3 ⟨rfl, hb3, hbel3, -⟩
    have HB3 := Lib.hid (Hbn.out.trans hbel3)
    have hs := Lib.hid (Tryz.Builder_String_any_k w1.heap.size w1.heap.size ([] ++ printT t) w3 hb3 HB3.out.size)
    clear hb3 hbel3 c0 c1 c2 c3 c4 c5 c6 c7 c8
    go_wp2_with fail
    refine hs.out.mono ?_
    rintro e w4 ⟨rfl, -, hb4, -⟩
    have HB4 := Lib.hid (HB3.out.trans hb4)
    clear hb4 hs
    go_wp2_with fail
    go_ret
    exact ⟨rfl, HB1.out.trans (HB4.out.mono HB1.out.size)⟩
end Go.Proofs.YthhghlnbpigcjaaGreatDoor
