/- A tape's readers; the walk of its level 2. -/
import Derived.Test.YthhghlnbpigcjaaGreatDoorYQa7
set_option linter.unusedVariables false
set_option linter.unusedSimpArgs false
namespace Go.Proofs.YthhghlnbpigcjaaGreatDoor
open Go.RowKit

def TPiece (N e d T : Nat) (l0 : List Tk) (p : List Tk → PRes) : Prop := ∀ (w : World) (i : Nat), TpAt w T l0 i e d (-1) → (l0.drop i).length < N → Calls Tryz.prog 39 #[.pointer (some ⟨T, 0, none⟩)] w fun en w' => TpAns w w' T e d l0 (p (l0.drop i)) en
def TLevel (n : Int) (N e d T : Nat) (l0 : List Tk) (p : List Tk → PRes) : Prop := ∀ (w : World) (i : Nat), TpAt w T l0 i e d (-1) → (l0.drop i).length < N → Calls Tryz.prog 26 #[.pointer (some ⟨T, 0, none⟩), .int .i64 n] w fun en w' => TpAns w w' T e d l0 (p (l0.drop i)) en
/-- what a reader answers, handed on out of a variable of its own -/
theorem tpans_put {w W X : World} {T e d : Nat} {l0 : List Tk} {r : PRes} {t : Tree} {a : Option Addr} {n c : Nat} {v0 v1 v2 v3 v4 v5 v6 v7 v8 : Value} (hb : But T w X) (hk : KSl X W.heap.size t.kids a n) (hZ : w.heap.size < W.heap.size) (hT : T < w.heap.size) (hc : match r with
  | .ok u q => t = u ∧ ∃ i, l0.drop i = q ∧ TpAt X T l0 i e d (-1)
  | .bad p => ∃ i d', TpAt X T l0 i e d' (p : Int)) : TpAns w (st9 X w.heap.size v0 v1 v2 v3 v4 v5 v6 v7 v8) T e d l0 r (.returned (t.val a n c)) := by
  refine ⟨hb.put9 (Nat.le_refl _) _ _ _ _ _ _ _ _ _, t, a, n, c, rfl, (hk.put9 hZ _ _ _ _ _ _ _ _ _).mono (Nat.le_of_lt hZ), ?_⟩
  cases r with
  | bad p =>
    obtain ⟨i, d', h⟩ := hc
    exact ⟨i, d', h.put9 hT _ _ _ _ _ _ _ _ _⟩
  | ok u q =>
    obtain ⟨h0, i, hd, h⟩ := hc
    exact ⟨h0, i, hd, h.put9 hT _ _ _ _ _ _ _ _ _⟩
set_option maxHeartbeats 8000000 in
set_option maxRecDepth 100000 in
theorem tlevel2_any {N e d T : Nat} {l0 : List Tk} {p : List Tk → PRes} (hp : TPiece N e d T l0 p) : TLevel 2 N e d T l0 p := by
  intro w i h hN
  have H := Lib.hid h
  have hT := h.lt
  have Hp : Hid (∀ W, TpAt W T l0 i e d (-1) → Calls Tryz.prog 39 #[.pointer (some ⟨T, 0, none⟩)] W fun en w' => TpAns W w' T e d l0 (p (l0.drop i)) en) := Lib.hid fun W h => hp W i h hN
  clear h hN hp
  generalize p (l0.drop i) = R at Hp ⊢
  go_enter Tryz.func26, Tryz.ntmps26
  go_upto_region 1 with fail
  have Hb := Lib.hid (Below.new w (.cells zcells 31))
  have Hz := Lib.hid (ZVar.new w 31)
  generalize World.alloc w _ = W at Hb Hz ⊢
  have hc := Lib.hid (Hp.out W (H.out.below Hb.out))
  have HWl : Hid (w.heap.size < W.heap.size) := Lib.hid Hz.out.lt
  go_wp2_with fail
  refine hc.out.mono ?_
  clear hc
  rintro en w4 ⟨hb4, t, a, n, c, rfl, hk, h4⟩
  have H4 := Lib.hid h4; have Hk4 := Lib.hid hk
  have HB4 : Hid (But T w w4) := Lib.hid ((But.of Hb.out).trans hb4)
  obtain ⟨d0, d1, d2', d3, d4, d5, d6, d7, d8, dz, -⟩ := Hz.out.but hb4 hT
  clear hb4 h4 hk
  simp only [Tree.val]
  go_wp2_with fail
  exact bodyPost_ret (v := t.val a n c) (by simp [results, Tryz.results26, go_sem, d0, d1, d2', d3, d4, d5, d6, d7, d8, Tree.val]) rfl (tpans_put HB4.out Hk4.out HWl.out hT H4.out)
end Go.Proofs.YthhghlnbpigcjaaGreatDoor
