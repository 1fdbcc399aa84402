/- The walk of a tape's operand. -/
import Derived.Test.YthhghlnbpigcjaaGreatDoorZQa1
import Derived.Test.YthhghlnbpigcjaaGreatDoorZPc3
import Derived.RegionTactic
import Derived.BigRegion
set_option linter.unusedVariables false
set_option linter.unusedSimpArgs false
namespace Go.Proofs.YthhghlnbpigcjaaGreatDoor
open Go.RowKit

/-- what a reader of a tape leaves: a test; the tape behind it, or with the fault's place -/
def TpAns (w w' : World) (T e d : Nat) (l0 : List Tk) (r : PRes) (en : Ending) : Prop := But T w w' ∧ ∃ (t : Tree) (a : Option Addr) (n c : Nat), en = .returned (t.val a n c) ∧ KSl w' w.heap.size t.kids a n ∧ match r with
  | .ok u q => t = u ∧ ∃ i, l0.drop i = q ∧ TpAt w' T l0 i e d (-1)
  | .bad p => ∃ i d', TpAt w' T l0 i e d' (p : Int)
set_option maxHeartbeats 8000000 in
set_option maxRecDepth 100000 in
theorem toperand_no (w : World) (T : Nat) (l0 : List Tk) (i e d : Nat) (h : TpAt w T l0 i e d (-1)) (h0 : seesB 0 [] (l0.drop i) = false) (h1 : seesB 1 [] (l0.drop i) = false) (hp : pOper e (l0.drop i) = .bad (pAt e (l0.drop i))) :
    Calls Tryz.prog 82 #[.pointer (some ⟨T, 0, none⟩)] w fun en w' => TpAns w w' T e d l0 (pOper e (l0.drop i)) en := by
  have H := Lib.hid h
  have hT := h.lt
  have Hs : Hid (∀ W, TpAt W T l0 i e d (-1) → ∀ k : Int, (k = 0 ∨ k = 1) → Calls Tryz.prog 40 #[.pointer (some ⟨T, 0, none⟩), .int .i64 k, .string ⟨#[]⟩] W fun en w' => en = .returned (.bool false) ∧ Below W.heap.size W w') := Lib.hid fun W h k hk => by
    have := tsees_any W T l0 i e d (-1) (by decide) h k []
    rcases hk with rfl | rfl
    · rw [h0] at this; exact this
    · rw [h1] at this; exact this
  have Hf : Hid (∀ W, TpAt W T l0 i e d (-1) → Calls Tryz.prog 27 #[.pointer (some ⟨T, 0, none⟩)] W fun en w' => en = .returned zval ∧ TpAt w' T l0 i e d (pAt e (l0.drop i) : Int) ∧ But T W w') := Lib.hid fun W h => tfail_any W T l0 i e d (-1) (by decide) h
  rw [hp]
  clear h h0 h1 hp
  generalize pAt e (l0.drop i) = pp at Hf ⊢
  go_enter Tryz.func82, Tryz.ntmps82
  go_upto_region 1 with fail
  have Hb := Lib.hid (Below.new w (.cells zcells 31))
  have Hz := Lib.hid (ZVar.new w 31)
  generalize World.alloc w _ = W at Hb Hz ⊢
  have H1 := Lib.hid (H.out.below Hb.out)
  have hc := Hs.out W H1.out 0 (.inl rfl)
  go_wp2_with fail
  refine hc.mono ?_
  rintro en w2 ⟨rfl, hb2⟩
  have H2 := Lib.hid (H1.out.below hb2)
  have Hz2 := Lib.hid (Hz.out.below hb2 Hz.out.lt)
  have HB2 : Hid (But T w w2) := Lib.hid ((But.of Hb.out).trans (But.of hb2))
  clear hc hb2
  have hc := Hs.out w2 H2.out 1 (.inr rfl)
  go_wp2_with fail
  refine hc.mono ?_
  rintro en w3 ⟨rfl, hb3⟩
  have H3 := Lib.hid (H2.out.below hb3)
  have Hz3 := Lib.hid (Hz2.out.below hb3 Hz2.out.lt)
  have HB3 : Hid (But T w w3) := Lib.hid (HB2.out.trans (But.of hb3))
  clear hc hb3
  have hc := Hf.out w3 H3.out
  go_wp2_with fail
  refine hc.mono ?_
  rintro en w4 ⟨rfl, h4, hb4⟩
  have H4 := Lib.hid h4
  have Hz4 := Lib.hid (Hz3.out.but hb4 hT)
  have HB4 : Hid (But T w w4) := Lib.hid (HB3.out.trans hb4)
  clear hc h4 hb4
  obtain ⟨d0, d1, d2, d3, d4, d5, d6, d7, d8, dz, -⟩ := Hz4.out
  go_wp2_with fail
  exact bodyPost_ret (v := zval) (by simp [results, Tryz.results82, go_sem, d0, d1, d2, d3, d4, d5, d6, d7, d8]) rfl ⟨HB4.out.put9 (Nat.le_refl _) _ _ _ _ _ _ _ _ _, .mk 0 0 [] 0 zeroVal [], none, 0, 0, rfl, .empty, i, d, H4.out.put9 hT _ _ _ _ _ _ _ _ _⟩
end Go.Proofs.YthhghlnbpigcjaaGreatDoor
