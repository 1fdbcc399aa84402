/- The walks of a tape's sees, fail. -/
import Derived.Test.YthhghlnbpigcjaaGreatDoorZQa0
import Derived.Test.YthhghlnbpigcjaaGreatDoorZPa9
import Derived.Test.YthhghlnbpigcjaaGreatDoorZPc0
set_option linter.unusedVariables false
set_option linter.unusedSimpArgs false
namespace Go.Proofs.YthhghlnbpigcjaaGreatDoor
open Go.RowKit

set_option maxHeartbeats 8000000 in
set_option maxRecDepth 100000 in
theorem tsees_bad (w : World) (T : Nat) (l0 : List Tk) (i e : Nat) (d b : Int) (hb : 0 ≤ b) (h : TpAt w T l0 i e d b) (k : Int) (s : List UInt8) :
    Calls Tryz.prog 40 #[.pointer (some ⟨T, 0, none⟩), .int .i64 k, .string ⟨s.toArray⟩] w fun en w' => en = .returned (.bool false) ∧ Below w.heap.size w w' := by
  have c4 := h.c4
  have hd : decide (b < 0) = false := decide_eq_false (by omega)
  clear h
  go_enter Tryz.func40, Tryz.ntmps40
  go_wp2_with fail
  go_quiet (fail)
  have hb2 := Lib.hid (below_drewN (Below.refl w.heap.size w) nq)
  go_wp2_with fail
  go_ret
  exact ⟨rfl, hb2.out⟩
set_option maxHeartbeats 8000000 in
set_option maxRecDepth 100000 in
theorem tsees_drew (w : World) (T : Nat) (l0 : List Tk) (i e : Nat) (d b : Int) (hb : b < 0) (h : TpAt w T l0 i e d b) (k : Int) (s : List UInt8) :
    Calls Tryz.prog 40 #[.pointer (some ⟨T, 0, none⟩), .int .i64 k, .string ⟨s.toArray⟩] w fun en w' => en = .returned (.bool (seesB k s (l0.drop i))) ∧ ∃ m, w' = w.drewN m := by
  have c4 := h.c4
  have hdb : decide (b < 0) = true := decide_eq_true hb
  have c1 := h.c1
  have hi0 : (0 : Int) ≤ (i : Int) := by omega
  have hit : ((i : Int)).toNat = i := by omega
  cases ht : l0[i]? with
  | none =>
    have hge : l0.length ≤ i := List.getElem?_eq_none_iff.1 ht
    have hp : seesB k s (l0.drop i) = false := by rw [List.drop_eq_nil_of_le hge]; rfl
    obtain ⟨a, c, c0⟩ := h.form
    have hd : decide ((i : Int) < (l0.length : Int)) = false := decide_eq_false (by omega)
    have hdn : ¬ i < l0.length := by omega
    have hdm : decide (i < l0.length) = false := decide_eq_false hdn
    rw [hp]
    generalize l0.length = N at c0 hd hdn hdm
    clear h ht hge hp
    go_enter Tryz.func40, Tryz.ntmps40
    go_wp2_with fail
    go_quiet (fail)
    go_wp2_with fail
    go_ret
    exact ⟨rfl, _, rfl⟩
  | some t =>
    have hlt : i < l0.length := by
      rcases Nat.lt_or_ge i l0.length with h1 | h1
      · exact h1
      · rw [List.getElem?_eq_none h1] at ht; cases ht
    have hp : seesB k s (l0.drop i) = (t.k == k && (k != 3 || t.text == s)) := by rw [drop_tk ht]; rfl
    obtain ⟨g, off, c, c0, hh⟩ := h.head ht
    have k0 := hh.c0
    have k2 := hh.c2
    have hd : decide ((i : Int) < (l0.length : Int)) = true := decide_eq_true (by omega)
    have hdn : i < l0.length := hlt
    have hdm : decide (i < l0.length) = true := decide_eq_true hlt
    have hlti : (i : Int) < (l0.length : Int) := by omega
    rw [hp]
    generalize l0.length = N at c0 hd hlti hdn hdm
    clear h ht hlt hp hh
    cases e1 : (t.k == k) with
    | false =>
      go_enter Tryz.func40, Tryz.ntmps40
      go_wp2_with fail
      go_quiet (fail)
      go_wp2_with fail
      go_ret
      exact ⟨rfl, _, rfl⟩
    | true =>
      cases e3 : (k != 3) with
      | true =>
        go_enter Tryz.func40, Tryz.ntmps40
        go_wp2_with fail
        go_quiet (fail)
        go_wp2_with fail
        go_ret
        exact ⟨rfl, _, rfl⟩
      | false =>
        cases e2 : (t.text == s) with
        | true =>
          have e2' : (t.text = s) = True := by simp [beq_iff_eq.1 e2]
          go_enter Tryz.func40, Tryz.ntmps40
          go_wp2_with fail
          go_quiet (fail)
          go_wp2_with fail
          go_ret
          exact ⟨by simp [beq_iff_eq.1 e2], _, rfl⟩
        | false =>
          have e2' : ¬ t.text = s := beq_eq_false_iff_ne.1 e2
          go_enter Tryz.func40, Tryz.ntmps40
          go_wp2_with fail
          go_quiet (fail)
          go_wp2_with fail
          go_ret
          exact ⟨by simp [e2'], _, rfl⟩
theorem tsees_any (w : World) (T : Nat) (l0 : List Tk) (i e : Nat) (d b : Int) (hb : b < 0) (h : TpAt w T l0 i e d b) (k : Int) (s : List UInt8) :
    Calls Tryz.prog 40 #[.pointer (some ⟨T, 0, none⟩), .int .i64 k, .string ⟨s.toArray⟩] w fun en w' => en = .returned (.bool (seesB k s (l0.drop i))) ∧ Below w.heap.size w w' :=
  (tsees_drew w T l0 i e d b hb h k s).mono fun en w' hh => ⟨hh.1, by obtain ⟨-, m, rfl⟩ := hh; exact below_drewN (Below.refl _ w) m⟩
abbrev zval : Value := .agg #[.int .i64 0, .int .i64 0, .string ⟨#[]⟩, .int .i64 0, .int .i64 0, .string ⟨#[]⟩, .int .u64 0, .int .i64 0, .slice none 0 0]
theorem TpAt.off {w : World} {T b' : Nat} {l0 : List Tk} {i e : Nat} {d b : Int} (h : TpAt w T l0 i e d b) (hb : T < b') (o : Nat) (v : Value) : TpAt (w.setCell ⟨b', o, none⟩ v) T l0 i e d b := by
  obtain ⟨⟨u, h1, h2⟩, c1, c2, c3, c4, z, lt⟩ := h
  have ne : b' ≠ T := by omega
  refine ⟨⟨u, cell_off h1 (addr_block_ne ne _ _), ?_⟩, cell_off c1 (addr_block_ne ne _ _), cell_off c2 (addr_block_ne ne _ _), cell_off c3 (addr_block_ne ne _ _), cell_off c4 (addr_block_ne ne _ _), fun o => (World.frozen?_setCell _ _ _ _).trans (z o), by simpa [World.setCell] using lt⟩
  rcases h2 with h | ⟨g, off, c, e1, e2, ⟨e3, cur, e5⟩, e4⟩
  · exact .inl h
  · have hg : b' ≠ g := by omega
    exact .inr ⟨g, off, c, e1, e2, ⟨e3, cur, (Below.heap_setCell w ⟨b', o, none⟩ v g (Ne.symm hg)).trans e5⟩, fun j u hj => cell_off (e4 j u hj) (addr_block_ne hg _ _)⟩
theorem TpAt.put9 {W : World} {T b' : Nat} {l0 : List Tk} {i e : Nat} {d b : Int} (h : TpAt W T l0 i e d b) (hb : T < b') (v0 v1 v2 v3 v4 v5 v6 v7 v8 : Value) : TpAt (st9 W b' v0 v1 v2 v3 v4 v5 v6 v7 v8) T l0 i e d b :=
  (((((((((h.off hb _ _).off hb _ _).off hb _ _).off hb _ _).off hb _ _).off hb _ _).off hb _ _).off hb _ _).off hb _ _)
set_option maxHeartbeats 8000000 in
set_option maxRecDepth 100000 in
theorem tfail_bad (w : World) (T : Nat) (l0 : List Tk) (i e : Nat) (d b : Int) (hb : 0 ≤ b) (h : TpAt w T l0 i e d b) :
    Calls Tryz.prog 27 #[.pointer (some ⟨T, 0, none⟩)] w fun en w' => en = .returned zval ∧ TpAt w' T l0 i e d b ∧ But T w w' := by
  have H := Lib.hid h
  have hT := h.lt
  clear h
  go_enter Tryz.func27, Tryz.ntmps27
  go_upto_region 1 with fail
  have Hb := Lib.hid (Below.new w (.cells zcells 31))
  have Hz := Lib.hid (ZVar.new w 31)
  generalize World.alloc w _ = W at Hb Hz ⊢
  have h1 := H.out.below Hb.out
  have H1 := Lib.hid h1
  have c4 := h1.c4
  have hbb : ¬ b < 0 := by omega
  obtain ⟨d0, d1, d2, d3, d4, d5, d6, d7, d8, dz, -⟩ := Hz.out
  clear h1
  go_wp2_with fail
  exact bodyPost_ret (v := zval) (by simp [results, Tryz.results27, go_sem, d0, d1, d2, d3, d4, d5, d6, d7, d8]) rfl ⟨rfl, H1.out.put9 hT _ _ _ _ _ _ _ _ _, (But.of Hb.out).put9 (Nat.le_refl _) _ _ _ _ _ _ _ _ _⟩
set_option maxHeartbeats 8000000 in
set_option maxRecDepth 100000 in
theorem tfail_any (w : World) (T : Nat) (l0 : List Tk) (i e : Nat) (d b : Int) (hb : b < 0) (h : TpAt w T l0 i e d b) :
    Calls Tryz.prog 27 #[.pointer (some ⟨T, 0, none⟩)] w fun en w' => en = .returned zval ∧ TpAt w' T l0 i e d (pAt e (l0.drop i) : Int) ∧ But T w w' := by
  have H := Lib.hid h
  have HT := Lib.hid h.lt
  have Hat : Hid (∀ W, TpAt W T l0 i e d b → Calls Tryz.prog 41 #[.pointer (some ⟨T, 0, none⟩)] W fun en w' => en = .returned (.int .i64 (pAt e (l0.drop i) : Int)) ∧ Below W.heap.size W w') := Lib.hid fun W h => tat_any W T l0 i e d b h
  clear h
  generalize pAt e (l0.drop i) = pp at Hat ⊢
  go_enter Tryz.func27, Tryz.ntmps27
  go_upto_region 1 with fail
  have Hb := Lib.hid (Below.new w (.cells zcells 31))
  have Hz := Lib.hid (ZVar.new w 31)
  generalize World.alloc w _ = W at Hb Hz ⊢
  have h1 := H.out.below Hb.out
  have H1 := Lib.hid h1
  have c4 := h1.c4
  have Ha := Lib.hid (Hat.out W h1)
  clear h1
  go_wp2_with fail
  refine Ha.out.mono ?_
  rintro en w2 ⟨rfl, hb2⟩
  have H2 := Lib.hid (H1.out.below hb2)
  have Hz2 := Lib.hid (Hz.out.below hb2 Hz.out.lt)
  have HB2 : Hid (But T w w2) := Lib.hid ((But.of Hb.out).trans (But.of hb2))
  have c4' := H2.out.c4
  have z4' := H2.out.z 4
  clear c4 hb2
  go_upto_region 3 with fail
  have H3 := Lib.hid (H2.out.setB (pp : Int))
  have hbx := (But.refl T w2).set 4 (.int .i64 (pp : Int))
  have Hz3 := Lib.hid (Hz2.out.but hbx HT.out)
  have HB3 := Lib.hid (HB2.out.trans hbx)
  clear c4' z4' hbx
  generalize World.setCell w2 _ _ = W3 at H3 Hz3 HB3 ⊢
  obtain ⟨d0, d1, d2, d3, d4, d5, d6, d7, d8, dz, -⟩ := Hz3.out
  go_wp2_with fail
  exact bodyPost_ret (v := zval) (by simp [results, Tryz.results27, go_sem, d0, d1, d2, d3, d4, d5, d6, d7, d8]) rfl ⟨rfl, H3.out.put9 HT.out _ _ _ _ _ _ _ _ _, HB3.out.put9 (Nat.le_refl _) _ _ _ _ _ _ _ _ _⟩
end Go.Proofs.YthhghlnbpigcjaaGreatDoor
