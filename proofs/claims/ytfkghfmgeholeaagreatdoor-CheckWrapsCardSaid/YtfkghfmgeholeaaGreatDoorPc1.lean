/- The walk of a parser's operand. -/
import Derived.Test.YtfkghfmgeholeaaGreatDoorPc0
set_option linter.unusedVariables false
set_option linter.unusedSimpArgs false
namespace Go.Proofs.YtfkghfmgeholeaaGreatDoor
open Go.RowKit

theorem pans_bad {lo P e d : Nat} {fv : Nat → Value} {w w' : World} {p : Nat} {en : Ending} (hb : But P w w') (h : en = .panicked [{ v := fv p, recovered := false }]) : PAnsL lo P e d fv w w' (.bad p) en := ⟨hb, h⟩
theorem pans_ok {lo P e d : Nat} {fv : Nat → Value} {w w' : World} {t : Tree} {q : List Tk} {a : Option Addr} {n c : Nat} (hb : But P w w') (hk : KSl w' lo t.kids a n) (hp : PAt w' P q e d) : PAnsL lo P e d fv w w' (.ok t q) (.returned (t.val a n c)) := ⟨hb, a, n, c, rfl, hk, hp⟩
set_option maxHeartbeats 8000000 in
set_option maxRecDepth 100000 in
theorem poperand_any (w : World) (P e d : Nat) (l : List Tk) (h : PAt w P l e d) :
    Calls Tryz.prog 104 #[.pointer (some ⟨P, 0, none⟩)] w fun en w' => PAns P e d faultV w w' (pOper e l) en := by
  have H := Lib.hid h
  clear h
  cases l with
  | nil =>
    go_enter Tryz.func104, Tryz.ntmps104
    go_upto_region 1 with fail
    have Hb := Lib.hid (Below.new w (.cells zcells 30))
    generalize (w.alloc _) = W at Hb ⊢
    have h1 := H.out.below Hb.out
    have Hf := Lib.hid (pfail_any W P e d [] h1)
    obtain ⟨⟨v, c0, hv⟩, -, -, -, -⟩ := h1
    obtain ⟨a, c, rfl⟩ := hv.nilv
    clear hv
    go_wp2_with fail
    refine Hf.out.mono ?_
    rintro en w1 ⟨rfl, rfl⟩
    go_wp2_with fail
    exact ⟨rfl, pans_bad (But.of Hb.out) rfl⟩
  | cons t l =>
    obtain ⟨tk, tp, tx, tq, ⟨vk, vn, vs, vf⟩⟩ := t
    have Hf : Hid (∀ W, PAt W P (⟨tk, tp, tx, tq, ⟨vk, vn, vs, vf⟩⟩ :: l) e d → Calls Tryz.prog 39 #[.pointer (some ⟨P, 0, none⟩)] W fun en w' => en = .panicked [{ v := faultV tp, recovered := false }] ∧ w' = W) := Lib.hid fun W h => pfail_any W P e d _ h
    have Ht : Hid (∀ W, PAt W P (⟨tk, tp, tx, tq, ⟨vk, vn, vs, vf⟩⟩ :: l) e d → Calls Tryz.prog 73 #[.pointer (some ⟨P, 0, none⟩)] W fun en w' => en = .returned (.agg #[.int .i64 tk, .int .i64 (tp : Int), .string ⟨tx.toArray⟩, .int .i64 tq, .int .i64 vk, .int .i64 vn, .string vs, .int .u64 vf]) ∧ PAt w' P l e d ∧ But P W w') := Lib.hid fun W h => ptake_any W P e d _ l h
    go_enter Tryz.func104, Tryz.ntmps104
    go_upto_region 1 with fail
    have Hb := Lib.hid (Below.new w (.cells zcells 30))
    have Hz := Lib.hid (ZVar.new w 30)
    generalize (w.alloc _) = W at Hb Hz ⊢
    have h1 := H.out.below Hb.out
    have H1 := Lib.hid h1
    obtain ⟨g, off, c, N, c0, hN, hc, hg, ⟨k0, -, -, -, -, -, -, -⟩, -, -⟩ := h1.head
    have hN1 : (0 : Int) < (N : Int) := by omega
    have hN2 : 1 ≤ N := by omega
    have hN3 : ((N : Int) == 0) = false := by rw [beq_eq_false_iff_ne]; omega
    have HP : Hid (P < w.heap.size) := Lib.hid H.out.lt
    clear h1 hN hc
    dsimp only at k0
    by_cases h0 : tk = 0
    · subst h0
      go_wp2_with fail
      refine (Ht.out _ H1.out).mono ?_
      rintro en w1 ⟨rfl, hp, hb1⟩
      have hz1 := Hz.out.but hb1 HP.out
      have Hb1 : Hid (But P w w1) := Lib.hid ((But.of Hb.out).trans hb1)
      have Hp := Lib.hid hp
      clear hb1 hp c0 k0
      go_upto_region 4 with fail
      have Hb2 := Lib.hid (Below.new w1 (.cells (Tk.cells ⟨0, tp, tx, tq, ⟨vk, vn, vs, vf⟩⟩) 93))
      have ht2 := TAt.new w1 ⟨0, tp, tx, tq, ⟨vk, vn, vs, vf⟩⟩ 93
      have hz2 := hz1.below Hb2.out hz1.lt
      generalize (w1.alloc _) = W2 at Hb2 ht2 hz2 ⊢
      obtain ⟨k0, k1, k2, k3, k4, k5, k6, k7, -, -⟩ := ht2
      obtain ⟨d0, d1, d2, d3, d4, d5, d6, d7, d8, dz, -⟩ := hz2
      dsimp only at k0 k1 k2
      clear hz1 k3 k4 k5 k6 k7
      go_wp2_with fail
      exact bodyPost_ret (v := (Tree.mk 0 (tp : Int) tx 0 zeroVal []).val none 0 0) (by simp [results, Tryz.results104, go_sem, d0, d1, d2, d3, d4, d5, d6, d7, d8, Tree.val, Tree.k, Tree.pos, Tree.col, Tree.v, Tree.op, zeroVal]) rfl (pans_ok ((Hb1.out.trans (But.of Hb2.out)).put9 (Nat.le_refl _) _ _ _ _ _ _ _ _ _) .empty ((Hp.out.below Hb2.out).put9 HP.out _ _ _ _ _ _ _ _ _))
    · by_cases h1 : tk = 1
      · subst h1
        go_wp2_with fail
        refine (Ht.out _ H1.out).mono ?_
        rintro en w1 ⟨rfl, hp, hb1⟩
        have hz1 := Hz.out.but hb1 HP.out
        have Hb1 : Hid (But P w w1) := Lib.hid ((But.of Hb.out).trans hb1)
        have Hp := Lib.hid hp
        clear hb1 hp c0 k0
        go_upto_region 4 with fail
        have Hb2 := Lib.hid (Below.new w1 (.cells (Tk.cells ⟨1, tp, tx, tq, ⟨vk, vn, vs, vf⟩⟩) 93))
        have ht2 := TAt.new w1 ⟨1, tp, tx, tq, ⟨vk, vn, vs, vf⟩⟩ 93
        have hz2 := hz1.below Hb2.out hz1.lt
        generalize (w1.alloc _) = W2 at Hb2 ht2 hz2 ⊢
        obtain ⟨k0, k1, k2, k3, k4, k5, k6, k7, -, -⟩ := ht2
        obtain ⟨d0, d1, d2, d3, d4, d5, d6, d7, d8, dz, -⟩ := hz2
        dsimp only at k0 k1 k4 k5 k6 k7
        clear hz1 k2 k3
        go_wp2_with fail
        exact bodyPost_ret (v := (Tree.mk 1 (tp : Int) [] 0 ⟨vk, vn, vs, vf⟩ []).val none 0 0) (by simp [results, Tryz.results104, go_sem, d0, d1, d2, d3, d4, d5, d6, d7, d8, Tree.val, Tree.k, Tree.pos, Tree.col, Tree.v, Tree.op, zeroVal]) rfl (pans_ok ((Hb1.out.trans (But.of Hb2.out)).put9 (Nat.le_refl _) _ _ _ _ _ _ _ _ _) .empty ((Hp.out.below Hb2.out).put9 HP.out _ _ _ _ _ _ _ _ _))
      · have hr : pOper e (⟨tk, tp, tx, tq, ⟨vk, vn, vs, vf⟩⟩ :: l) = .bad tp := by simp only [pOper, if_neg h0, if_neg h1]
        have Hr := Lib.hid hr
        have q0 : (tk != 0) = true := bne_iff_ne.2 h0
        have q1 : (tk != 1) = true := bne_iff_ne.2 h1
        clear hr Ht
        go_wp2_with fail
        refine (Hf.out _ H1.out).mono ?_
        rintro en w1 ⟨rfl, rfl⟩
        go_wp2_with fail
        exact ⟨rfl, by rw [Hr.out]; exact pans_bad (But.of Hb.out) rfl⟩
end Go.Proofs.YtfkghfmgeholeaaGreatDoor
