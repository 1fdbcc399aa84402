/- Joined texts: Qa4; Qa5; Qa6. -/
import Derived.Test.YthhghlnbpigcjaaGreatDoorYQa3
set_option linter.unusedVariables false
set_option linter.unusedSimpArgs false
namespace Go.Proofs.YthhghlnbpigcjaaGreatDoor
open Go.RowKit

end Go.Proofs.YthhghlnbpigcjaaGreatDoor
set_option linter.unusedVariables false
set_option linter.unusedSimpArgs false
namespace Go.Proofs.YthhghlnbpigcjaaGreatDoor
open Go.RowKit

end Go.Proofs.YthhghlnbpigcjaaGreatDoor
set_option linter.unusedVariables false
set_option linter.unusedSimpArgs false
namespace Go.Proofs.YthhghlnbpigcjaaGreatDoor
open Go.RowKit

set_option maxHeartbeats 8000000 in
set_option maxRecDepth 100000 in
theorem tatom_fault (w : World) (T : Nat) (l0 : List Tk) (i e d p : Nat) (hl0 : l0.length ≤ 1000000) (h : TpAt w T l0 i e d (-1)) (hp : pOper e (l0.drop i) = .bad p) :
    Calls Tryz.prog 62 #[.pointer (some ⟨T, 0, none⟩)] w fun en w' => TpAns w w' T e d l0 (.bad p) en := by
  have H := Lib.hid h
  have hT := h.lt
  have Ho : Hid (∀ W, TpAt W T l0 i e d (-1) → Calls Tryz.prog 82 #[.pointer (some ⟨T, 0, none⟩)] W fun en w' => TpAns W w' T e d l0 (.bad p) en) := Lib.hid fun W h => hp ▸ toperand_any W T l0 i e d h hl0
  have Hbb : Hid (0 ≤ (p : Int)) := Lib.hid (Int.natCast_nonneg p)
  clear h hp
  go_enter Tryz.func62, Tryz.ntmps62
  go_upto_region 1 with fail
  have Hb := Lib.hid (Below.new w (.cells zcells 31))
  have Hz := Lib.hid (ZVar.new w 31)
  generalize World.alloc w _ = W at Hb Hz ⊢
  have H1 := Lib.hid (H.out.below Hb.out)
  have hc := Lib.hid (Ho.out W H1.out)
  go_wp2_with fail
  refine hc.out.mono ?_
  clear hc
  rintro en w2 ⟨hb2, t, a, n, c, rfl, hk, i2, d2, h2⟩
  have H2 := Lib.hid h2
  have Hk2 := Lib.hid hk
  have Hz2 := Lib.hid (Hz.out.but hb2 hT)
  have HB2 : Hid (But T w w2) := Lib.hid ((But.of Hb.out).trans hb2)
  have HW2 : Hid (W.heap.size ≤ w2.heap.size) := Lib.hid hb2.size
  have HWl : Hid (w.heap.size < W.heap.size) := Lib.hid Hz.out.lt
  clear hb2 hk h2
  simp only [Tree.val]
  go_upto_region 2 with fail
  generalize hW : World.alloc w2 _ = W3
  have hbn : Below w2.heap.size w2 W3 := by rw [← hW]; exact Below.new _ _
  have hvn : KVar W3 w2.heap.size t a n c := by rw [← hW]; exact KVar.new w2 t a n c _
  have H3 := Lib.hid (H2.out.below hbn)
  have Hz3 := Lib.hid (Hz2.out.below hbn Hz2.out.lt)
  have HA3 := Lib.hid hvn
  have Hk3 := Lib.hid (Hk2.out.later hbn)
  have HB3 : Hid (But T w W3) := Lib.hid (HB2.out.trans (But.of hbn))
  clear hW hbn hvn
  have hc := Lib.hid (tat_any W3 T l0 i2 e d2 p H3.out)
  go_wp2_with fail
  refine hc.out.mono ?_
  clear hc
  rintro en w4 ⟨rfl, hb4⟩
  have H4 := Lib.hid (H3.out.below hb4)
  have Hz4 := Lib.hid (Hz3.out.below hb4 Hz3.out.lt)
  have HA4 := Lib.hid (HA3.out.below hb4 HA3.out.lt)
  have Hk4 := Lib.hid (Hk3.out.later hb4)
  have HB4 : Hid (But T w w4) := Lib.hid (HB3.out.trans (But.of hb4))
  clear hb4
  have hc : Hid (Calls Tryz.prog 40 #[.pointer (some ⟨T, 0, none⟩), .int .i64 2, .string ⟨#[]⟩] w4 fun en w' => en = .returned (.bool false) ∧ Below w4.heap.size w4 w') := Lib.hid (tsees_bad w4 T l0 i2 e d2 p Hbb.out H4.out 2 [])
  go_wp2_with fail
  refine hc.out.mono ?_
  clear hc
  rintro en w5 ⟨rfl, hb5⟩
  have H5 := Lib.hid (H4.out.below hb5)
  have Hz5 := Lib.hid (Hz4.out.below hb5 Hz4.out.lt)
  have HA5 := Lib.hid (HA4.out.below hb5 HA4.out.lt)
  have Hk5 := Lib.hid (Hk4.out.later hb5)
  have HB5 : Hid (But T w w5) := Lib.hid (HB4.out.trans (But.of hb5))
  clear hb5
  have hc : Hid (Calls Tryz.prog 40 #[.pointer (some ⟨T, 0, none⟩), .int .i64 3, .string ⟨#[105, 115]⟩] w5 fun en w' => en = .returned (.bool false) ∧ Below w5.heap.size w5 w') := Lib.hid (tsees_bad w5 T l0 i2 e d2 p Hbb.out H5.out 3 [105, 115])
  go_wp2_with fail
  refine hc.out.mono ?_
  clear hc
  rintro en w6 ⟨rfl, hb6⟩
  have H6 := Lib.hid (H5.out.below hb6)
  have Hk6 := Lib.hid (Hk5.out.later hb6)
  have HB6 : Hid (But T w w6) := Lib.hid (HB5.out.trans (But.of hb6))
  obtain ⟨k0, k1, k2, k3, k4, k5, k6, k7, k8, -, -⟩ := HA5.out.below hb6 HA5.out.lt
  obtain ⟨d0, d1, d2', d3, d4, d5, d6, d7, d8, dz, -⟩ := Hz5.out.below hb6 Hz5.out.lt
  clear hb6
  go_wp2_with fail
  exact bodyPost_ret (v := t.val a n c) (by simp [results, Tryz.results62, go_sem, d0, d1, d2', d3, d4, d5, d6, d7, d8, Tree.val]) rfl ⟨HB6.out.put9 (Nat.le_refl _) _ _ _ _ _ _ _ _ _, t, a, n, c, rfl, (Hk6.out.put9 HWl.out _ _ _ _ _ _ _ _ _).mono (Nat.le_of_lt HWl.out), i2, d2, H6.out.put9 hT _ _ _ _ _ _ _ _ _⟩
set_option maxHeartbeats 8000000 in
set_option maxRecDepth 100000 in
theorem tatom_plain (w : World) (T : Nat) (l0 : List Tk) (i e d : Nat) (hl0 : l0.length ≤ 1000000) (h : TpAt w T l0 i e d (-1)) (u : Tree) (q : List Tk) (hp : pOper e (l0.drop i) = .ok u q) (hq2 : seesB 2 [] q = false) (hq3 : seesB 3 kIs q = false) :
    Calls Tryz.prog 62 #[.pointer (some ⟨T, 0, none⟩)] w fun en w' => TpAns w w' T e d l0 (.ok u q) en := by
  have H := Lib.hid h
  have hT := h.lt
  have Ho : Hid (∀ W, TpAt W T l0 i e d (-1) → Calls Tryz.prog 82 #[.pointer (some ⟨T, 0, none⟩)] W fun en w' => TpAns W w' T e d l0 (.ok u q) en) := Lib.hid fun W h => hp ▸ toperand_any W T l0 i e d h hl0
  have Hq2 := Lib.hid hq2; have Hq3 := Lib.hid hq3
  clear h hp hq2 hq3
  go_enter Tryz.func62, Tryz.ntmps62
  go_upto_region 1 with fail
  have Hb := Lib.hid (Below.new w (.cells zcells 31))
  have Hz := Lib.hid (ZVar.new w 31)
  generalize World.alloc w _ = W at Hb Hz ⊢
  have H1 := Lib.hid (H.out.below Hb.out)
  have hc := Lib.hid (Ho.out W H1.out)
  go_wp2_with fail
  refine hc.out.mono ?_
  clear hc
  rintro en w2 ⟨hb2, t, a, n, c, rfl, hk, rfl, i2, hdr, h2⟩
  have Hdr := Lib.hid hdr
  have H2 := Lib.hid h2
  have Hk2 := Lib.hid hk
  have Hz2 := Lib.hid (Hz.out.but hb2 hT)
  have HB2 : Hid (But T w w2) := Lib.hid ((But.of Hb.out).trans hb2)
  have HW2 : Hid (W.heap.size ≤ w2.heap.size) := Lib.hid hb2.size
  have HWl : Hid (w.heap.size < W.heap.size) := Lib.hid Hz.out.lt
  clear hb2 hk h2 hdr
  simp only [Tree.val]
  go_upto_region 2 with fail
  generalize hW : World.alloc w2 _ = W3
  have hbn : Below w2.heap.size w2 W3 := by rw [← hW]; exact Below.new _ _
  have hvn : KVar W3 w2.heap.size t a n c := by rw [← hW]; exact KVar.new w2 t a n c _
  have H3 := Lib.hid (H2.out.below hbn)
  have Hz3 := Lib.hid (Hz2.out.below hbn Hz2.out.lt)
  have HA3 := Lib.hid hvn
  have Hk3 := Lib.hid (Hk2.out.later hbn)
  have HB3 : Hid (But T w W3) := Lib.hid (HB2.out.trans (But.of hbn))
  clear hW hbn hvn
  have hc := Lib.hid (tat_any W3 T l0 i2 e d (-1) H3.out)
  go_wp2_with fail
  refine hc.out.mono ?_
  clear hc
  rintro en w4 ⟨rfl, hb4⟩
  have H4 := Lib.hid (H3.out.below hb4)
  have Hz4 := Lib.hid (Hz3.out.below hb4 Hz3.out.lt)
  have HA4 := Lib.hid (HA3.out.below hb4 HA3.out.lt)
  have Hk4 := Lib.hid (Hk3.out.later hb4)
  have HB4 : Hid (But T w w4) := Lib.hid (HB3.out.trans (But.of hb4))
  clear hb4
  have hc : Hid (Calls Tryz.prog 40 #[.pointer (some ⟨T, 0, none⟩), .int .i64 2, .string ⟨#[]⟩] w4 fun en w' => en = .returned (.bool false) ∧ Below w4.heap.size w4 w') := Lib.hid (by have := tsees_any w4 T l0 i2 e d (-1) (by decide) H4.out 2 []; rw [Hdr.out, Hq2.out] at this; exact this)
  go_wp2_with fail
  refine hc.out.mono ?_
  clear hc
  rintro en w5 ⟨rfl, hb5⟩
  have H5 := Lib.hid (H4.out.below hb5)
  have Hz5 := Lib.hid (Hz4.out.below hb5 Hz4.out.lt)
  have HA5 := Lib.hid (HA4.out.below hb5 HA4.out.lt)
  have Hk5 := Lib.hid (Hk4.out.later hb5)
  have HB5 : Hid (But T w w5) := Lib.hid (HB4.out.trans (But.of hb5))
  clear hb5
  have hc : Hid (Calls Tryz.prog 40 #[.pointer (some ⟨T, 0, none⟩), .int .i64 3, .string ⟨#[105, 115]⟩] w5 fun en w' => en = .returned (.bool false) ∧ Below w5.heap.size w5 w') := Lib.hid (by have := tsees_any w5 T l0 i2 e d (-1) (by decide) H5.out 3 kIs; rw [Hdr.out, Hq3.out] at this; exact this)
  go_wp2_with fail
  refine hc.out.mono ?_
  clear hc
  rintro en w6 ⟨rfl, hb6⟩
  have H6 := Lib.hid (H5.out.below hb6)
  have Hk6 := Lib.hid (Hk5.out.later hb6)
  have HB6 : Hid (But T w w6) := Lib.hid (HB5.out.trans (But.of hb6))
  obtain ⟨k0, k1, k2, k3, k4, k5, k6, k7, k8, -, -⟩ := HA5.out.below hb6 HA5.out.lt
  obtain ⟨d0, d1, d2', d3, d4, d5, d6, d7, d8, dz, -⟩ := Hz5.out.below hb6 Hz5.out.lt
  clear hb6
  go_wp2_with fail
  exact bodyPost_ret (v := t.val a n c) (by simp [results, Tryz.results62, go_sem, d0, d1, d2', d3, d4, d5, d6, d7, d8, Tree.val]) rfl ⟨HB6.out.put9 (Nat.le_refl _) _ _ _ _ _ _ _ _ _, t, a, n, c, rfl, (Hk6.out.put9 HWl.out _ _ _ _ _ _ _ _ _).mono (Nat.le_of_lt HWl.out), rfl, i2, Hdr.out, H6.out.put9 hT _ _ _ _ _ _ _ _ _⟩
end Go.Proofs.YthhghlnbpigcjaaGreatDoor
