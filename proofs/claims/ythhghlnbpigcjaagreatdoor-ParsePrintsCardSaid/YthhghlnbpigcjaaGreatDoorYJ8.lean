/- Joined texts: Pg1; Pi0. -/
import Derived.Test.YthhghlnbpigcjaaGreatDoorYPg0
import Derived.Test.YthhghlnbpigcjaaGreatDoorYPe1
set_option linter.unusedVariables false
set_option linter.unusedSimpArgs false
namespace Go.Proofs.YthhghlnbpigcjaaGreatDoor
open Go.RowKit

set_option maxHeartbeats 8000000 in
set_option maxRecDepth 100000 in
theorem parseRight_any (w : World) (t : Tree) (hz : t.sized) (S : Nat → Prop) (a : Option Addr) (n c : Nat) (hk : KSl w S t.kids a n) : Calls Tryz.prog 18 #[t.val a n c] w fun e w' => e = .returned (.bool (rightT 0 t)) ∧ Below w.heap.size w w' := by
  have hb := Below.new w (.cells (t.cells a n c) 31)
  have HK := Lib.hid (KVar.new w t a n c 31)
  have Hc : Hid (Calls Tryz.prog 32 #[t.val a n c, .int .i64 0] (w.alloc (.cells (t.cells a n c) 31)) fun e w' => e = .returned (.bool (rightT 0 t)) ∧ Below (w.alloc (.cells (t.cells a n c) 31)).heap.size (w.alloc (.cells (t.cells a n c) 31)) w') := Lib.hid (rightc_any 0 t hz _ S a n c (hk.later hb))
  have Hb := Lib.hid hb
  clear hz hk hb
  generalize rightT 0 t = B at Hc ⊢
  simp only [Tree.val]
  go_enter Tryz.func18, Tryz.ntmps18
  go_upto_region 1 with fail
  generalize World.alloc w _ = W at HK Hc Hb ⊢
  obtain ⟨c0, c1, c2, c3, c4, c5, c6, c7, c8, -, -⟩ := HK.out
  go_wp2_with fail
  refine Hc.out.mono ?_
  rintro e w1 ⟨rfl, hb1⟩
  have HB1 := Lib.hid (Hb.out.trans (hb1.mono Hb.out.size))
  clear hb1 Hc c0 c1 c2 c3 c4 c5 c6 c7 c8
  go_wp2_with fail
  go_ret
  exact ⟨rfl, HB1.out⟩
/-- what parse.Print answers -/
def printF (t : Tree) : List UInt8 := if rightT 0 t then printT t else []
theorem builder_new (w : World) : BAt w.heap.size w.heap.size [] (w.alloc (.cells #[.pointer none, .slice none 0 0] 66)) := by
  refine .inl ⟨Nat.le_refl _, .slice none 0 0, ?_, ⟨rfl, .inl ⟨rfl, rfl⟩⟩, ?_⟩
  · show (w.heap.push _)[w.heap.size]? = _
    simp
  · simp [Value.ownBlock]
set_option maxHeartbeats 8000000 in
set_option maxRecDepth 100000 in
theorem parsePrint_any (w : World) (hl : Laid w) (t : Tree) (hz : t.sized) (hw : WfT t) (S : Nat → Prop) (a : Option Addr) (n c : Nat) (hk : KSl w S t.kids a n) (hsz : rightT 0 t = true → (printT t).length ≤ 1000000) : Calls Tryz.prog 16 #[t.val a n c] w fun e w' => e = .returned (.string ⟨(printF t).toArray⟩) ∧ Below w.heap.size w w' := by
  have hb := Below.new w (.cells (t.cells a n c) 31)
  have HK := Lib.hid (KVar.new w t a n c 31)
  have HS := Lib.hid (hk.later hb)
  have Hr : Hid (∀ W, KSl W S t.kids a n → Calls Tryz.prog 18 #[t.val a n c] W fun e w' => e = .returned (.bool (rightT 0 t)) ∧ Below W.heap.size W w') := Lib.hid fun W hk => parseRight_any W t hz S a n c hk
  have Hw : Hid (rightT 0 t = true → ∀ w0, Laid w0 → WriteC w0 t) := Lib.hid fun hr => write_all t.depth t 0 (Nat.le_refl _) hr hw
  have Hsz := Lib.hid hsz
  have Hb := Lib.hid hb; have HL := Lib.hid hl
  clear hz hk hb hw hl hsz
  generalize hPF : printF t = PF
  have HPF := Lib.hid hPF
  clear hPF
  simp only [Tree.val] at Hr ⊢
  go_enter Tryz.func16, Tryz.ntmps16
  go_upto_region 1 with fail
  generalize World.alloc w _ = W at HK HS Hb ⊢
  obtain ⟨c0, c1, c2, c3, c4, c5, c6, c7, c8, -, -⟩ := HK.out
  have hc := Lib.hid (Hr.out W HS.out)
  go_wp2_with fail
  refine hc.out.mono ?_
  rintro e w1 ⟨rfl, hb1⟩
  have HB1 := Lib.hid (Hb.out.trans (hb1.mono Hb.out.size))
  have HS1 := Lib.hid (HS.out.later hb1)
  have HK1 := Lib.hid (HK.out.below hb1 HK.out.lt)
  clear hb1 hc c0 c1 c2 c3 c4 c5 c6 c7 c8
  cases hR : rightT 0 t with
  | false =>
    obtain rfl : PF = [] := by rw [← HPF.out]; unfold printF; rw [hR]; rfl
    clear hR
    go_wp2_with fail
    go_ret
    exact ⟨rfl, HB1.out⟩
  | true =>
    obtain rfl : PF = printT t := by rw [← HPF.out]; unfold printF; rw [hR]; rfl
    have HW := Lib.hid (Hw.out hR w1 (HL.out.below HB1.out) (w1.alloc (.cells #[.pointer none, .slice none 0 0] 66)) w1.heap.size [] S a n c (Below.new _ _) (builder_new w1) HS1.out (by have := Hsz.out hR; simpa using this))
    have HKn := Lib.hid (HK1.out.below (Below.new w1 (.cells #[.pointer none, .slice none 0 0] 66)) HK1.out.lt)
    have Hbn := Lib.hid (Below.new w1 (.cells #[.pointer none, .slice none 0 0] 66))
    have hsw : Hid (w1.heap.size ≤ (w1.alloc (.cells #[.pointer none, .slice none 0 0] 66)).heap.size) := Lib.hid (by simp)
    clear hR
    go_upto_region 4 with fail
    generalize World.alloc w1 _ = W2 at HW HKn Hbn hsw ⊢
    obtain ⟨c0, c1, c2, c3, c4, c5, c6, c7, c8, -, -⟩ := HKn.out
    go_wp2_with fail
    refine HW.out.mono ?_
    rintro e w3 ⟨rfl, hb3, hbel3, -⟩
    have HB3 := Lib.hid (Hbn.out.trans hbel3)
    have hs := Lib.hid (Tryz.Builder_String_any_k w1.heap.size w1.heap.size ([] ++ printT t) w3 hb3 HB3.out.size)
    clear hb3 hbel3 c0 c1 c2 c3 c4 c5 c6 c7 c8
    go_wp2_with fail
    refine hs.out.mono ?_
    rintro e w4 ⟨rfl, -, hb4, -⟩
    have HB4 := Lib.hid (HB3.out.trans hb4)
    clear hb4 hs
    go_wp2_with fail
    go_ret
    exact ⟨rfl, HB1.out.trans (HB4.out.mono HB1.out.size)⟩
end Go.Proofs.YthhghlnbpigcjaaGreatDoor
set_option linter.unusedVariables false
set_option linter.unusedSimpArgs false
namespace Go.Proofs.YthhghlnbpigcjaaGreatDoor
open Go.RowKit

def testT1 : Tree := .mk 6 7 [] 0 zeroVal [.mk 2 3 [] 0 zeroVal [.mk 0 0 [97] 0 zeroVal [], .mk 1 5 [] 0 ⟨1, 1, ⟨#[]⟩, 0⟩ []], .mk 4 10 [] 0 zeroVal [.mk 0 14 [98] 0 zeroVal []]]
theorem parse_text1 : parseF [36, 97, 32, 61, 32, 49, 32, 111, 114, 32, 110, 111, 116, 32, 36, 98] = (testT1, 0, 0) := by kernel_rfl
theorem parse_text2 : parseF [36, 97, 32, 61, 32, 111, 114] = (zeroT, 5, 160) := by kernel_rfl
theorem print_text1 : printF testT1 = [40, 40, 36, 97, 32, 61, 32, 49, 41, 32, 111, 114, 32, 40, 110, 111, 116, 32, 36, 98, 41, 41] := by kernel_rfl
theorem depth_text1 : testT1.depth = 3 := by kernel_rfl
theorem nodes_text1 : testT1.nodes = 6 := by kernel_rfl
theorem sized_text1 : testT1.sized := by simp [testT1, Tree.sized, Tree.sizeds]
theorem wf_text1 : WfT testT1 := by
  have h0 : zeroVal.Wf := ⟨by decide, by decide, by decide, by decide, by decide, by decide⟩
  have h1 : (⟨1, 1, ⟨#[]⟩, 0⟩ : Val).Wf := ⟨by decide, by decide, by decide, by decide, by decide, by decide⟩
  simp only [testT1, WfT, WfTs, h0, h1, and_self]
theorem small_text1 : (printT testT1).length ≤ 1000000 := by
  have : printT testT1 = [40, 40, 36, 97, 32, 61, 32, 49, 41, 32, 111, 114, 32, 40, 110, 111, 116, 32, 36, 98, 41, 41] := by kernel_rfl
  rw [this]; decide
set_option maxHeartbeats 8000000 in
set_option maxRecDepth 100000 in
theorem first17_any (w : World) (hl : Laid w) (hs : Spc w) : Calls Tryz.prog 9 #[] w fun e w' => e = .returned (.bool true) ∧ Below w.heap.size w w' := by
  have Hl := Lib.hid hl; have Hs := Lib.hid hs
  have H1 : Hid (∀ W : World, Laid W → Spc W → Calls Tryz.prog 10 #[.string ⟨#[36, 97, 32, 61, 32, 49, 32, 111, 114, 32, 110, 111, 116, 32, 36, 98]⟩] W fun e w' => ∃ a n c, e = .returned (.tuple #[.agg #[.int .i64 6, .int .i64 7, .string ⟨#[]⟩, .int .i64 0, .int .i64 0, .string ⟨#[]⟩, .int .u64 0, .int .i64 0, .slice a n c], .int .i64 0, .int .i64 0]) ∧ KSl w' W.heap.size testT1.kids a n ∧ Below W.heap.size W w') := Lib.hid fun W h1 h2 => (pparse_any W h1 h2 ⟨#[36, 97, 32, 61, 32, 49, 32, 111, 114, 32, 110, 111, 116, 32, 36, 98]⟩).mono fun e w' h => by
    obtain ⟨hb, h⟩ := h
    rw [show parseF (⟨#[36, 97, 32, 61, 32, 49, 32, 111, 114, 32, 110, 111, 116, 32, 36, 98]⟩ : ByteArray).data.toList = (testT1, 0, 0) from parse_text1] at h
    obtain ⟨a, n, c, he, hk⟩ := h
    exact ⟨a, n, c, he, hk, hb⟩
  have H2 : Hid (∀ W : World, Laid W → Spc W → Calls Tryz.prog 10 #[.string ⟨#[36, 97, 32, 61, 32, 111, 114]⟩] W fun e w' => ∃ a n c, e = .returned (.tuple #[.agg #[.int .i64 0, .int .i64 0, .string ⟨#[]⟩, .int .i64 0, .int .i64 0, .string ⟨#[]⟩, .int .u64 0, .int .i64 0, .slice a n c], .int .i64 5, .int .i64 160]) ∧ Below W.heap.size W w') := Lib.hid fun W h1 h2 => (pparse_any W h1 h2 ⟨#[36, 97, 32, 61, 32, 111, 114]⟩).mono fun e w' h => by
    obtain ⟨hb, h⟩ := h
    rw [show parseF (⟨#[36, 97, 32, 61, 32, 111, 114]⟩ : ByteArray).data.toList = (zeroT, 5, 160) from parse_text2] at h
    obtain ⟨a, n, c, he, hk⟩ := h
    exact ⟨a, n, c, he, hb⟩
  have H3 : Hid (∀ (W : World) (S : Nat → Prop) (a : Option Addr) (n c : Nat), Laid W → KSl W S testT1.kids a n → Calls Tryz.prog 16 #[.agg #[.int .i64 6, .int .i64 7, .string ⟨#[]⟩, .int .i64 0, .int .i64 0, .string ⟨#[]⟩, .int .u64 0, .int .i64 0, .slice a n c]] W fun e w' => e = .returned (.string ⟨#[40, 40, 36, 97, 32, 61, 32, 49, 41, 32, 111, 114, 32, 40, 110, 111, 116, 32, 36, 98, 41, 41]⟩) ∧ Below W.heap.size W w') := Lib.hid fun W S a n c h1 h2 => (parsePrint_any W h1 testT1 sized_text1 wf_text1 S a n c h2 (fun _ => small_text1)).mono fun e w' h => by
    rw [print_text1] at h
    exact h
  have H4 : Hid (∀ (W : World) (S : Nat → Prop) (a : Option Addr) (n c : Nat), KSl W S testT1.kids a n → Calls Tryz.prog 13 #[.agg #[.int .i64 6, .int .i64 7, .string ⟨#[]⟩, .int .i64 0, .int .i64 0, .string ⟨#[]⟩, .int .u64 0, .int .i64 0, .slice a n c]] W fun e w' => e = .returned (.int .i64 3) ∧ Below W.heap.size W w') := Lib.hid fun W S a n c h2 => (depth_any 1000000 (Nat.le_refl _) testT1 (by rw [nodes_text1]; decide) W S a n c h2).mono fun e w' h => by
    rw [depth_text1] at h
    exact h
  clear hl hs
  go_enter Tryz.func9, Tryz.ntmps9
  go_wp2_with fail
  refine (H1.out _ Hl.out Hs.out).mono ?_
  rintro e w1 ⟨a, n, c, rfl, hk1, hb1⟩
  have Hb1 := Lib.hid hb1; have Hk1 := Lib.hid hk1
  clear hk1 hb1
  go_upto_region 2 with fail
  generalize hW : World.alloc w1 _ = W2
  have hb2 : Below w1.heap.size w1 W2 := by rw [← hW]; exact Below.new _ _
  have hv2 : KVar W2 w1.heap.size testT1 a n c := by rw [← hW]; exact KVar.new w1 testT1 a n c _
  have Hb2 := Lib.hid (Hb1.out.trans (hb2.mono Hb1.out.size))
  have Hk2 := Lib.hid (Hk1.out.later hb2)
  have Hv2 := Lib.hid hv2
  clear hW hb2 hv2
  have H2c := Lib.hid (H2.out W2 (Hl.out.below Hb2.out) (Hs.out.below Hb2.out))
  go_wp2_with fail
  refine H2c.out.mono ?_
  rintro e w3 ⟨a3, n3, c3, rfl, hb3⟩
  have Hb3 := Lib.hid (Hb2.out.trans (hb3.mono Hb2.out.size))
  have Hk3 := Lib.hid (Hk2.out.later hb3)
  have Hv3 := Lib.hid (Hv2.out.below hb3 Hv2.out.lt)
  clear hb3 H2c
  go_upto_region 3 with fail
  generalize hW : World.alloc w3 _ = W4
  have hb4 : Below w3.heap.size w3 W4 := by rw [← hW]; exact Below.new _ _
  have Hb4 := Lib.hid (Hb3.out.trans (hb4.mono Hb3.out.size))
  have Hk4 := Lib.hid (Hk3.out.later hb4)
  have Hv4 := Lib.hid (Hv3.out.below hb4 Hv3.out.lt)
  clear hW hb4
  have k0 : W4.cell? ⟨w1.heap.size, 0, none⟩ = some (.int .i64 6) := Hv4.out.c0
  have k1 : W4.cell? ⟨w1.heap.size, 1, none⟩ = some (.int .i64 7) := Hv4.out.c1
  have k2 : W4.cell? ⟨w1.heap.size, 2, none⟩ = some (.string ⟨#[]⟩) := Hv4.out.c2
  have k3 : W4.cell? ⟨w1.heap.size, 3, none⟩ = some (.int .i64 0) := Hv4.out.c3
  have k4 : W4.cell? ⟨w1.heap.size, 4, none⟩ = some (.int .i64 0) := Hv4.out.c4
  have k5 : W4.cell? ⟨w1.heap.size, 5, none⟩ = some (.string ⟨#[]⟩) := Hv4.out.c5
  have k6 : W4.cell? ⟨w1.heap.size, 6, none⟩ = some (.int .u64 0) := Hv4.out.c6
  have k7 : W4.cell? ⟨w1.heap.size, 7, none⟩ = some (.int .i64 0) := Hv4.out.c7
  have k8 : W4.cell? ⟨w1.heap.size, 8, none⟩ = some (.slice a n c) := Hv4.out.c8
  have H3c := Lib.hid (H3.out W4 _ a n c (Hl.out.below Hb4.out) Hk4.out)
  go_wp2_with fail
  refine H3c.out.mono ?_
  rintro e w5 ⟨rfl, hb5⟩
  have Hb5 := Lib.hid (Hb4.out.trans (hb5.mono Hb4.out.size))
  have Hk5 := Lib.hid (Hk4.out.later hb5)
  have Hv5 := Lib.hid (Hv4.out.below hb5 Hv4.out.lt)
  clear hb5 H3c k0 k1 k2 k3 k4 k5 k6 k7 k8
  have k0 : w5.cell? ⟨w1.heap.size, 0, none⟩ = some (.int .i64 6) := Hv5.out.c0
  have k1 : w5.cell? ⟨w1.heap.size, 1, none⟩ = some (.int .i64 7) := Hv5.out.c1
  have k2 : w5.cell? ⟨w1.heap.size, 2, none⟩ = some (.string ⟨#[]⟩) := Hv5.out.c2
  have k3 : w5.cell? ⟨w1.heap.size, 3, none⟩ = some (.int .i64 0) := Hv5.out.c3
  have k4 : w5.cell? ⟨w1.heap.size, 4, none⟩ = some (.int .i64 0) := Hv5.out.c4
  have k5 : w5.cell? ⟨w1.heap.size, 5, none⟩ = some (.string ⟨#[]⟩) := Hv5.out.c5
  have k6 : w5.cell? ⟨w1.heap.size, 6, none⟩ = some (.int .u64 0) := Hv5.out.c6
  have k7 : w5.cell? ⟨w1.heap.size, 7, none⟩ = some (.int .i64 0) := Hv5.out.c7
  have k8 : w5.cell? ⟨w1.heap.size, 8, none⟩ = some (.slice a n c) := Hv5.out.c8
  have H4c := Lib.hid (H4.out w5 _ a n c Hk5.out)
  go_wp2_with fail
  refine H4c.out.mono ?_
  rintro e w6 ⟨rfl, hb6⟩
  have Hb6 := Lib.hid (Hb5.out.trans (hb6.mono Hb5.out.size))
  clear hb6 H4c k0 k1 k2 k3 k4 k5 k6 k7 k8
  go_wp2_with fail
  go_ret
  exact ⟨rfl, Hb6.out⟩
end Go.Proofs.YthhghlnbpigcjaaGreatDoor
