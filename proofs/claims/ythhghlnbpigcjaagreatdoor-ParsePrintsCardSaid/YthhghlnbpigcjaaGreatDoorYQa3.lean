/- The walk of a tape's operand where one stands next. -/
import Derived.Test.YthhghlnbpigcjaaGreatDoorYJ2
import Derived.Deep.RegionHeld3
set_option linter.unusedVariables false
set_option linter.unusedSimpArgs false
namespace Go.Proofs.YthhghlnbpigcjaaGreatDoor
open Go.RowKit

set_option maxHeartbeats 8000000 in
set_option maxRecDepth 100000 in
theorem toperand_col (w : World) (T : Nat) (l0 : List Tk) (i e d : Nat) (h : TpAt w T l0 i e d (-1)) (t : Tk) (ht : l0[i]? = some t) (hk : t.k = 0) (hl0 : l0.length ≤ 1000000) :
    Calls Tryz.prog 82 #[.pointer (some ⟨T, 0, none⟩)] w fun en w' => TpAns w w' T e d l0 (pOper e (l0.drop i)) en := by
  have H := Lib.hid h
  have hT := h.lt
  obtain ⟨tk, tp, tx, tq, ⟨vk, vn, vs, vf⟩⟩ := t
  simp only at hk
  subst hk
  have hd := drop_tk ht
  have hlt : i < l0.length := by
    rcases Nat.lt_or_ge i l0.length with h1 | h1
    · exact h1
    · rw [List.getElem?_eq_none h1] at ht; cases ht
  have Hs : Hid (∀ W, TpAt W T l0 i e d (-1) → Calls Tryz.prog 40 #[.pointer (some ⟨T, 0, none⟩), .int .i64 0, .string ⟨#[]⟩] W fun en w' => en = .returned (.bool true) ∧ Below W.heap.size W w') := Lib.hid fun W h => by
    have := tsees_any W T l0 i e d (-1) (by decide) h 0 []
    rw [hd] at this; exact this
  have Hr : Hid (pOper e (l0.drop i) = .ok (.mk 0 (tp : Int) tx 0 zeroVal []) (l0.drop (i + 1))) := Lib.hid (by rw [hd]; rfl)
  have HT := Lib.hid ht
  have hi0 : (0 : Int) ≤ (i : Int) := by omega
  have hit : ((i : Int)).toNat = i := by omega
  have hlti : (i : Int) < (l0.length : Int) := by omega
  have hi9 : (i : Int) ≤ 1000000 := by omega
  generalize pOper e (l0.drop i) = R at Hr ⊢
  clear h hd ht hl0
  go_enter Tryz.func82, Tryz.ntmps82
  go_upto_region 1 with fail
  have Hb := Lib.hid (Below.new w (.cells zcells 31))
  have Hz := Lib.hid (ZVar.new w 31)
  generalize World.alloc w _ = W at Hb Hz ⊢
  have H1 := Lib.hid (H.out.below Hb.out)
  have hc := Hs.out W H1.out
  go_wp2_with fail
  refine hc.mono ?_
  rintro en w2 ⟨rfl, hb2⟩
  have H2 := Lib.hid (H1.out.below hb2)
  have Hz2 := Lib.hid (Hz.out.below hb2 Hz.out.lt)
  have HB2 : Hid (But T w w2) := Lib.hid ((But.of Hb.out).trans (But.of hb2))
  clear hc hb2
  obtain ⟨g, off, c, c0, hh⟩ := H2.out.head HT.out
  have HKS : Hid (∀ X, Below w2.heap.size w2 X → (fun X => Below w2.heap.size w2 X ∧ X.cell? ⟨T, 0, none⟩ = some (.slice (some ⟨g, off, none⟩) l0.length c) ∧ X.cell? ⟨T, 1, none⟩ = some (.int .i64 (i : Int)) ∧ X.cell? ⟨g, off + i * 8, none⟩ = some (.int .i64 0) ∧ X.cell? ⟨g, off + i * 8 + 1, none⟩ = some (.int .i64 (tp : Int)) ∧ X.cell? ⟨g, off + i * 8 + 2, none⟩ = some (.string ⟨tx.toArray⟩) ∧ X.cell? ⟨g, off + i * 8 + 3, none⟩ = some (.int .i64 tq) ∧ X.cell? ⟨g, off + i * 8 + 4, none⟩ = some (.int .i64 vk) ∧ X.cell? ⟨g, off + i * 8 + 5, none⟩ = some (.int .i64 vn) ∧ X.cell? ⟨g, off + i * 8 + 6, none⟩ = some (.string vs) ∧ X.cell? ⟨g, off + i * 8 + 7, none⟩ = some (.int .u64 vf)) X) := Lib.hid fun X hb => by
    have f : ∀ p u, w2.cell? p = some u → X.cell? p = some u := fun p u hc => (hb.cell (World.block_lt_of_cell? _ _ hc)).trans hc
    exact ⟨hb, f _ _ c0, f _ _ H2.out.c1, f _ _ hh.c0, f _ _ hh.c1, f _ _ hh.c2, f _ _ hh.c3, f _ _ hh.c4, f _ _ hh.c5, f _ _ hh.c6, f _ _ hh.c7⟩
  clear c0 hh
  go_upto_region 3 with fail
  go_region_held3 (fun X => Below w2.heap.size w2 X ∧ X.cell? ⟨T, 0, none⟩ = some (.slice (some ⟨g, off, none⟩) l0.length c) ∧ X.cell? ⟨T, 1, none⟩ = some (.int .i64 (i : Int)) ∧ X.cell? ⟨g, off + i * 8, none⟩ = some (.int .i64 0) ∧ X.cell? ⟨g, off + i * 8 + 1, none⟩ = some (.int .i64 (tp : Int)) ∧ X.cell? ⟨g, off + i * 8 + 2, none⟩ = some (.string ⟨tx.toArray⟩) ∧ X.cell? ⟨g, off + i * 8 + 3, none⟩ = some (.int .i64 tq) ∧ X.cell? ⟨g, off + i * 8 + 4, none⟩ = some (.int .i64 vk) ∧ X.cell? ⟨g, off + i * 8 + 5, none⟩ = some (.int .i64 vn) ∧ X.cell? ⟨g, off + i * 8 + 6, none⟩ = some (.string vs) ∧ X.cell? ⟨g, off + i * 8 + 7, none⟩ = some (.int .u64 vf))
    (first | exact HKS.out _ (by with_reducible assumption) | with_reducible exact HKS.out _ (Below.refl _ _).drew | with_reducible exact HKS.out _ (Below.new w2 _).drew)
    (fail)
  have hb3 : Below w2.heap.size w2 (w2.alloc (.cells (Tk.cells ⟨0, tp, tx, tq, ⟨vk, vn, vs, vf⟩⟩) 75)).drew := (Below.new w2 _).drew
  have ht3 : TAt (w2.alloc (.cells (Tk.cells ⟨0, tp, tx, tq, ⟨vk, vn, vs, vf⟩⟩) 75)).drew w2.heap.size ⟨0, tp, tx, tq, ⟨vk, vn, vs, vf⟩⟩ := TAt.but (R := T) (TAt.new w2 ⟨0, tp, tx, tq, ⟨vk, vn, vs, vf⟩⟩ 75) (But.of (Below.refl _ _).drew) H2.out.lt
  have H3 := Lib.hid (H2.out.below hb3)
  have Hz3 := Lib.hid (Hz2.out.below hb3 Hz2.out.lt)
  have HB3 : Hid (But T w _) := Lib.hid (HB2.out.trans (But.of hb3))
  have Ht3 := Lib.hid ht3
  have hTV : T < w2.heap.size := H2.out.lt
  clear HKS hb3 ht3
  generalize World.drew _ = W3 at H3 Hz3 HB3 Ht3 ⊢
  generalize w2.heap.size = V at Ht3 hTV ⊢
  have c1 := H3.out.c1
  have z1 := H3.out.z 1
  go_upto_region 5 with fail
  have H4 := Lib.hid (H3.out.setI (i + 1) ((i : Int) + 1) (by omega))
  have hbx := (But.refl T W3).set 1 (.int .i64 ((i : Int) + 1))
  have Hz4 := Lib.hid (Hz3.out.but hbx hT)
  have HB4 := Lib.hid (HB3.out.trans hbx)
  have Ht4 := Lib.hid (Ht3.out.but hbx hTV)
  clear c1 z1 hbx
  generalize World.setCell W3 _ _ = W4 at H4 Hz4 HB4 Ht4 ⊢
  have k0 : W4.cell? ⟨V, 0, none⟩ = some (.int .i64 0) := Ht4.out.c0
  have k1 : W4.cell? ⟨V, 1, none⟩ = some (.int .i64 (tp : Int)) := Ht4.out.c1
  have k2 : W4.cell? ⟨V, 2, none⟩ = some (.string ⟨tx.toArray⟩) := Ht4.out.c2
  obtain ⟨d0, d1, d2, d3, d4, d5, d6, d7, d8, dz, -⟩ := Hz4.out
  go_wp2_with fail
  exact bodyPost_ret (v := (Tree.mk 0 (tp : Int) tx 0 zeroVal []).val none 0 0) (by simp [results, Tryz.results82, go_sem, d0, d1, d2, d3, d4, d5, d6, d7, d8, Tree.val, Tree.k, Tree.pos, Tree.col, Tree.v, Tree.op, zeroVal]) rfl (by rw [Hr.out]; exact ⟨HB4.out.put9 (Nat.le_refl _) _ _ _ _ _ _ _ _ _, _, none, 0, 0, rfl, .empty, rfl, i + 1, rfl, H4.out.put9 hT _ _ _ _ _ _ _ _ _⟩)
set_option maxHeartbeats 8000000 in
set_option maxRecDepth 100000 in
theorem toperand_lit (w : World) (T : Nat) (l0 : List Tk) (i e d : Nat) (h : TpAt w T l0 i e d (-1)) (t : Tk) (ht : l0[i]? = some t) (hk : t.k = 1) (hl0 : l0.length ≤ 1000000) :
    Calls Tryz.prog 82 #[.pointer (some ⟨T, 0, none⟩)] w fun en w' => TpAns w w' T e d l0 (pOper e (l0.drop i)) en := by
  have H := Lib.hid h
  have hT := h.lt
  obtain ⟨tk, tp, tx, tq, ⟨vk, vn, vs, vf⟩⟩ := t
  simp only at hk
  subst hk
  have hd := drop_tk ht
  have hlt : i < l0.length := by
    rcases Nat.lt_or_ge i l0.length with h1 | h1
    · exact h1
    · rw [List.getElem?_eq_none h1] at ht; cases ht
  have Hs : Hid (∀ W, TpAt W T l0 i e d (-1) → Calls Tryz.prog 40 #[.pointer (some ⟨T, 0, none⟩), .int .i64 0, .string ⟨#[]⟩] W fun en w' => en = .returned (.bool false) ∧ Below W.heap.size W w') := Lib.hid fun W h => by
    have := tsees_any W T l0 i e d (-1) (by decide) h 0 []
    rw [hd] at this; exact this
  have Hs1 : Hid (∀ W, TpAt W T l0 i e d (-1) → Calls Tryz.prog 40 #[.pointer (some ⟨T, 0, none⟩), .int .i64 1, .string ⟨#[]⟩] W fun en w' => en = .returned (.bool true) ∧ Below W.heap.size W w') := Lib.hid fun W h => by
    have := tsees_any W T l0 i e d (-1) (by decide) h 1 []
    rw [hd] at this; exact this
  have Hr : Hid (pOper e (l0.drop i) = .ok (.mk 1 (tp : Int) [] 0 ⟨vk, vn, vs, vf⟩ []) (l0.drop (i + 1))) := Lib.hid (by rw [hd]; rfl)
  have HT := Lib.hid ht
  have hi0 : (0 : Int) ≤ (i : Int) := by omega
  have hit : ((i : Int)).toNat = i := by omega
  have hlti : (i : Int) < (l0.length : Int) := by omega
  have hi9 : (i : Int) ≤ 1000000 := by omega
  generalize pOper e (l0.drop i) = R at Hr ⊢
  clear h hd ht hl0
  go_enter Tryz.func82, Tryz.ntmps82
  go_upto_region 1 with fail
  have Hb := Lib.hid (Below.new w (.cells zcells 31))
  have Hz := Lib.hid (ZVar.new w 31)
  generalize World.alloc w _ = W at Hb Hz ⊢
  have H1 := Lib.hid (H.out.below Hb.out)
  have hc := Hs.out W H1.out
  go_wp2_with fail
  refine hc.mono ?_
  rintro en w0 ⟨rfl, hb0⟩
  have H0 := Lib.hid (H1.out.below hb0)
  have Hz0 := Lib.hid (Hz.out.below hb0 Hz.out.lt)
  have HB0 : Hid (But T w w0) := Lib.hid ((But.of Hb.out).trans (But.of hb0))
  clear hc hb0
  have hc := Hs1.out w0 H0.out
  go_wp2_with fail
  refine hc.mono ?_
  rintro en w2 ⟨rfl, hb2⟩
  have H2 := Lib.hid (H0.out.below hb2)
  have Hz2 := Lib.hid (Hz0.out.below hb2 Hz0.out.lt)
  have HB2 : Hid (But T w w2) := Lib.hid (HB0.out.trans (But.of hb2))
  clear hc hb2
  obtain ⟨g, off, c, c0, hh⟩ := H2.out.head HT.out
  have HKS : Hid (∀ X, Below w2.heap.size w2 X → (fun X => Below w2.heap.size w2 X ∧ X.cell? ⟨T, 0, none⟩ = some (.slice (some ⟨g, off, none⟩) l0.length c) ∧ X.cell? ⟨T, 1, none⟩ = some (.int .i64 (i : Int)) ∧ X.cell? ⟨g, off + i * 8, none⟩ = some (.int .i64 1) ∧ X.cell? ⟨g, off + i * 8 + 1, none⟩ = some (.int .i64 (tp : Int)) ∧ X.cell? ⟨g, off + i * 8 + 2, none⟩ = some (.string ⟨tx.toArray⟩) ∧ X.cell? ⟨g, off + i * 8 + 3, none⟩ = some (.int .i64 tq) ∧ X.cell? ⟨g, off + i * 8 + 4, none⟩ = some (.int .i64 vk) ∧ X.cell? ⟨g, off + i * 8 + 5, none⟩ = some (.int .i64 vn) ∧ X.cell? ⟨g, off + i * 8 + 6, none⟩ = some (.string vs) ∧ X.cell? ⟨g, off + i * 8 + 7, none⟩ = some (.int .u64 vf)) X) := Lib.hid fun X hb => by
    have f : ∀ p u, w2.cell? p = some u → X.cell? p = some u := fun p u hc => (hb.cell (World.block_lt_of_cell? _ _ hc)).trans hc
    exact ⟨hb, f _ _ c0, f _ _ H2.out.c1, f _ _ hh.c0, f _ _ hh.c1, f _ _ hh.c2, f _ _ hh.c3, f _ _ hh.c4, f _ _ hh.c5, f _ _ hh.c6, f _ _ hh.c7⟩
  clear c0 hh
  go_upto_region 3 with fail
  go_region_held3 (fun X => Below w2.heap.size w2 X ∧ X.cell? ⟨T, 0, none⟩ = some (.slice (some ⟨g, off, none⟩) l0.length c) ∧ X.cell? ⟨T, 1, none⟩ = some (.int .i64 (i : Int)) ∧ X.cell? ⟨g, off + i * 8, none⟩ = some (.int .i64 1) ∧ X.cell? ⟨g, off + i * 8 + 1, none⟩ = some (.int .i64 (tp : Int)) ∧ X.cell? ⟨g, off + i * 8 + 2, none⟩ = some (.string ⟨tx.toArray⟩) ∧ X.cell? ⟨g, off + i * 8 + 3, none⟩ = some (.int .i64 tq) ∧ X.cell? ⟨g, off + i * 8 + 4, none⟩ = some (.int .i64 vk) ∧ X.cell? ⟨g, off + i * 8 + 5, none⟩ = some (.int .i64 vn) ∧ X.cell? ⟨g, off + i * 8 + 6, none⟩ = some (.string vs) ∧ X.cell? ⟨g, off + i * 8 + 7, none⟩ = some (.int .u64 vf))
    (first | exact HKS.out _ (by with_reducible assumption) | with_reducible exact HKS.out _ (Below.refl _ _).drew | with_reducible exact HKS.out _ (Below.new w2 _).drew)
    (fail)
  have hb3 : Below w2.heap.size w2 (w2.alloc (.cells (Tk.cells ⟨1, tp, tx, tq, ⟨vk, vn, vs, vf⟩⟩) 75)).drew := (Below.new w2 _).drew
  have ht3 : TAt (w2.alloc (.cells (Tk.cells ⟨1, tp, tx, tq, ⟨vk, vn, vs, vf⟩⟩) 75)).drew w2.heap.size ⟨1, tp, tx, tq, ⟨vk, vn, vs, vf⟩⟩ := TAt.but (R := T) (TAt.new w2 ⟨1, tp, tx, tq, ⟨vk, vn, vs, vf⟩⟩ 75) (But.of (Below.refl _ _).drew) H2.out.lt
  have H3 := Lib.hid (H2.out.below hb3)
  have Hz3 := Lib.hid (Hz2.out.below hb3 Hz2.out.lt)
  have HB3 : Hid (But T w _) := Lib.hid (HB2.out.trans (But.of hb3))
  have Ht3 := Lib.hid ht3
  have hTV : T < w2.heap.size := H2.out.lt
  clear HKS hb3 ht3
  generalize World.drew _ = W3 at H3 Hz3 HB3 Ht3 ⊢
  generalize w2.heap.size = V at Ht3 hTV ⊢
  have c1 := H3.out.c1
  have z1 := H3.out.z 1
  go_upto_region 5 with fail
  have H4 := Lib.hid (H3.out.setI (i + 1) ((i : Int) + 1) (by omega))
  have hbx := (But.refl T W3).set 1 (.int .i64 ((i : Int) + 1))
  have Hz4 := Lib.hid (Hz3.out.but hbx hT)
  have HB4 := Lib.hid (HB3.out.trans hbx)
  have Ht4 := Lib.hid (Ht3.out.but hbx hTV)
  clear c1 z1 hbx
  generalize World.setCell W3 _ _ = W4 at H4 Hz4 HB4 Ht4 ⊢
  have k0 : W4.cell? ⟨V, 0, none⟩ = some (.int .i64 1) := Ht4.out.c0
  have k1 : W4.cell? ⟨V, 1, none⟩ = some (.int .i64 (tp : Int)) := Ht4.out.c1
  have k4 : W4.cell? ⟨V, 4, none⟩ = some (.int .i64 vk) := Ht4.out.c4
  have k5 : W4.cell? ⟨V, 5, none⟩ = some (.int .i64 vn) := Ht4.out.c5
  have k6 : W4.cell? ⟨V, 6, none⟩ = some (.string vs) := Ht4.out.c6
  have k7 : W4.cell? ⟨V, 7, none⟩ = some (.int .u64 vf) := Ht4.out.c7
  obtain ⟨d0, d1, d2, d3, d4, d5, d6, d7, d8, dz, -⟩ := Hz4.out
  go_wp2_with fail
  exact bodyPost_ret (v := (Tree.mk 1 (tp : Int) [] 0 ⟨vk, vn, vs, vf⟩ []).val none 0 0) (by simp [results, Tryz.results82, go_sem, d0, d1, d2, d3, d4, d5, d6, d7, d8, Tree.val, Tree.k, Tree.pos, Tree.col, Tree.v, Tree.op, zeroVal]) rfl (by rw [Hr.out]; exact ⟨HB4.out.put9 (Nat.le_refl _) _ _ _ _ _ _ _ _ _, _, none, 0, 0, rfl, .empty, rfl, i + 1, rfl, H4.out.put9 hT _ _ _ _ _ _ _ _ _⟩)
theorem toperand_any (w : World) (T : Nat) (l0 : List Tk) (i e d : Nat) (h : TpAt w T l0 i e d (-1)) (hl0 : l0.length ≤ 1000000) :
    Calls Tryz.prog 82 #[.pointer (some ⟨T, 0, none⟩)] w fun en w' => TpAns w w' T e d l0 (pOper e (l0.drop i)) en := by
  cases ht : l0[i]? with
  | none =>
    have hn : l0.drop i = [] := List.drop_eq_nil_of_le (List.getElem?_eq_none_iff.1 ht)
    exact toperand_no w T l0 i e d h (by rw [hn]; rfl) (by rw [hn]; rfl) (by rw [hn]; rfl)
  | some t =>
    by_cases h0 : t.k = 0
    · exact toperand_col w T l0 i e d h t ht h0 hl0
    · by_cases h1 : t.k = 1
      · exact toperand_lit w T l0 i e d h t ht h1 hl0
      · have hd := drop_tk ht
        refine toperand_no w T l0 i e d h ?_ ?_ ?_
        · rw [hd]; simp [seesB, h0]
        · rw [hd]; simp [seesB, h1]
        · rw [hd]; simp [pOper, h0, h1, pAt]
end Go.Proofs.YthhghlnbpigcjaaGreatDoor
