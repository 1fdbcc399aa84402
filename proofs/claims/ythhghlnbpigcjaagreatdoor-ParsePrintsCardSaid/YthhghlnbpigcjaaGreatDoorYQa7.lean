/- The walk of a tape's atom: a comparison. -/
import Derived.Test.YthhghlnbpigcjaaGreatDoorYJ5
import Derived.Deep.RegionWith
import Derived.Deep.QuietTactic
import Derived.BigQuiet
set_option linter.unusedVariables false
set_option linter.unusedSimpArgs false
namespace Go.Proofs.YthhghlnbpigcjaaGreatDoor
open Go.RowKit

/-- a comparison, of what its second operand is -/
def cmpR (u : Tree) (m : Tk) : PRes → PRes
  | .bad p => .bad p
  | .ok b r => .ok (.mk 2 (m.pos : Int) [] m.op zeroVal [u, b]) r
/-- the tape behind a comparison whose second operand x was read -/
def CmpT (w : World) (T e d : Nat) (l0 : List Tk) (u : Tree) (m : Tk) (R : PRes) (x : Tree) : Prop := match R with
  | .ok v q => v = .mk 2 (m.pos : Int) [] m.op zeroVal [u, x] ∧ ∃ i, l0.drop i = q ∧ TpAt w T l0 i e d (-1)
  | .bad p => ∃ i d', TpAt w T l0 i e d' (p : Int)
theorem cmpT_of {w : World} {T e d : Nat} {l0 : List Tk} {u x : Tree} {m : Tk} {r : PRes} (h : match r with
  | .ok v q => x = v ∧ ∃ i, l0.drop i = q ∧ TpAt w T l0 i e d (-1)
  | .bad p => ∃ i d', TpAt w T l0 i e d' (p : Int)) : CmpT w T e d l0 u m (cmpR u m r) x := by
  cases r with
  | bad p => exact h
  | ok v q =>
    obtain ⟨rfl, h⟩ := h
    exact ⟨rfl, h⟩
theorem tcmp_done {w W X : World} {T e d : Nat} {l0 : List Tk} {t x : Tree} {a ba : Option Addr} {n c bn bc : Nat} {m : Tk} {RR : PRes} {ty : TypeId} {v0 v1 v2 v3 v4 v5 v6 v7 v8 : Value} (hb : But T w X) (hk : KSl X W.heap.size t.kids a n) (hx : KSl X W.heap.size x.kids ba bn) (hZ : w.heap.size < W.heap.size) (hT : T < w.heap.size) (hWs : W.heap.size ≤ X.heap.size) (hc : CmpT X T e d l0 t m RR x) :
    TpAns w ((st9 X w.heap.size v0 v1 v2 v3 v4 v5 v6 v7 v8).alloc (.cells (t.cells2 a n c x ba bn bc) ty)) T e d l0 RR (.returned ((Tree.mk 2 (m.pos : Int) [] m.op zeroVal [t, x]).val (some ⟨X.heap.size, 0, none⟩) 2 2)) := by
  have h1 := hb.put9 (Nat.le_refl _) v0 v1 v2 v3 v4 v5 v6 v7 v8
  have h2 := hk.put9 hZ v0 v1 v2 v3 v4 v5 v6 v7 v8
  have h3 := hx.put9 hZ v0 v1 v2 v3 v4 v5 v6 v7 v8
  have hsz := st9_size X w.heap.size v0 v1 v2 v3 v4 v5 v6 v7 v8
  have h4 : ∀ i d' b, TpAt X T l0 i e d' b → TpAt ((st9 X w.heap.size v0 v1 v2 v3 v4 v5 v6 v7 v8).alloc (.cells (t.cells2 a n c x ba bn bc) ty)) T l0 i e d' b := fun i d' b h => (h.put9 hT v0 v1 v2 v3 v4 v5 v6 v7 v8).below (Below.new _ _)
  generalize (st9 X w.heap.size _ _ _ _ _ _ _ _ _) = Y at *
  rw [← hsz]
  have hn := Below.new Y (.cells (t.cells2 a n c x ba bn bc) ty)
  refine ⟨h1.trans (But.of hn), _, _, 2, 2, rfl, (row2 Y t a n c x ba bn bc ty h2 h3 (by omega)).mono (Nat.le_of_lt hZ), ?_⟩
  cases RR with
  | bad p =>
    obtain ⟨i, d', h⟩ := hc
    exact ⟨i, d', h4 _ _ _ h⟩
  | ok v q =>
    obtain ⟨rfl, i, hd, h⟩ := hc
    exact ⟨rfl, i, hd, h4 _ _ _ h⟩
set_option maxHeartbeats 8000000 in
set_option maxRecDepth 100000 in
theorem tatom_cmp (w : World) (T : Nat) (l0 : List Tk) (i e d : Nat) (hl0 : l0.length ≤ 1000000) (h : TpAt w T l0 i e d (-1)) (u : Tree) (m : Tk) (L : List Tk) (hp : pOper e (l0.drop i) = .ok u (m :: L)) (hm : m.k = 2) :
    Calls Tryz.prog 62 #[.pointer (some ⟨T, 0, none⟩)] w fun en w' => TpAns w w' T e d l0 (cmpR u m (pOper e L)) en := by
  have H := Lib.hid h
  have hT := h.lt
  have Ho : Hid (∀ W, TpAt W T l0 i e d (-1) → Calls Tryz.prog 82 #[.pointer (some ⟨T, 0, none⟩)] W fun en w' => TpAns W w' T e d l0 (.ok u (m :: L)) en) := Lib.hid fun W h => hp ▸ toperand_any W T l0 i e d h hl0
  have Hq2 : Hid (seesB 2 [] (m :: L) = true) := Lib.hid (by simp [seesB, hm])
  have Hl0 := Lib.hid hl0
  generalize hRR : cmpR u m (pOper e L) = RR
  have HRR := Lib.hid hRR
  clear h hp hRR hl0
  go_enter Tryz.func62, Tryz.ntmps62
  go_upto_region 1 with fail
  have Hb := Lib.hid (Below.new w (.cells zcells 31))
  have Hz := Lib.hid (ZVar.new w 31)
  generalize World.alloc w _ = W at Hb Hz ⊢
  have H1 := Lib.hid (H.out.below Hb.out)
  have hc := Lib.hid (Ho.out W H1.out)
  go_wp2_with fail
  refine hc.out.mono ?_
  clear hc
  rintro en w2 ⟨hb2, t, a, n, c, rfl, hk, rfl, i2, hdr, h2⟩
  have Hdr := Lib.hid hdr
  have H2 := Lib.hid h2
  have Hk2 := Lib.hid hk
  have Hz2 := Lib.hid (Hz.out.but hb2 hT)
  have HB2 : Hid (But T w w2) := Lib.hid ((But.of Hb.out).trans hb2)
  have HW2 : Hid (W.heap.size ≤ w2.heap.size) := Lib.hid hb2.size
  have HWl : Hid (w.heap.size < W.heap.size) := Lib.hid Hz.out.lt
  clear hb2 hk h2 hdr
  simp only [Tree.val]
  go_upto_region 2 with fail
  generalize hW : World.alloc w2 _ = W3
  have hbn : Below w2.heap.size w2 W3 := by rw [← hW]; exact Below.new _ _
  have hvn : KVar W3 w2.heap.size t a n c := by rw [← hW]; exact KVar.new w2 t a n c _
  have H3 := Lib.hid (H2.out.below hbn)
  have Hz3 := Lib.hid (Hz2.out.below hbn Hz2.out.lt)
  have HA3 := Lib.hid hvn
  have Hk3 := Lib.hid (Hk2.out.later hbn)
  have HB3 : Hid (But T w W3) := Lib.hid (HB2.out.trans (But.of hbn))
  clear hW hbn hvn
  have hc := Lib.hid (tat_any W3 T l0 i2 e d (-1) H3.out)
  go_wp2_with fail
  refine hc.out.mono ?_
  clear hc
  rintro en w4 ⟨rfl, hb4⟩
  have H4 := Lib.hid (H3.out.below hb4)
  have Hz4 := Lib.hid (Hz3.out.below hb4 Hz3.out.lt)
  have HA4 := Lib.hid (HA3.out.below hb4 HA3.out.lt)
  have Hk4 := Lib.hid (Hk3.out.later hb4)
  have HB4 : Hid (But T w w4) := Lib.hid (HB3.out.trans (But.of hb4))
  clear hb4
  have hc : Hid (Calls Tryz.prog 40 #[.pointer (some ⟨T, 0, none⟩), .int .i64 2, .string ⟨#[]⟩] w4 fun en w' => en = .returned (.bool true) ∧ Below w4.heap.size w4 w') := Lib.hid (by have := tsees_any w4 T l0 i2 e d (-1) (by decide) H4.out 2 []; rw [Hdr.out, Hq2.out] at this; exact this)
  go_wp2_with fail
  refine hc.out.mono ?_
  clear hc
  rintro en w5 ⟨rfl, hb5⟩
  have H5 := Lib.hid (H4.out.below hb5)
  have Hz5 := Lib.hid (Hz4.out.below hb5 Hz4.out.lt)
  have HA5 := Lib.hid (HA4.out.below hb5 HA4.out.lt)
  have Hk5 := Lib.hid (Hk4.out.later hb5)
  have HB5 : Hid (But T w w5) := Lib.hid (HB4.out.trans (But.of hb5))
  clear hb5
  have hget : l0[i2]? = some m := by have := congrArg (fun x : List Tk => x[0]?) Hdr.out; simpa using this
  have hlt : i2 < l0.length := by
    rcases Nat.lt_or_ge i2 l0.length with h1 | h1
    · exact h1
    · rw [List.getElem?_eq_none h1] at hget; cases hget
  have Hd1 : Hid (l0.drop (i2 + 1) = L) := Lib.hid (by have := drop_tk hget; rw [Hdr.out] at this; injection this with _ h; exact h.symm)
  obtain ⟨g, off, cp, t0, hh⟩ := H5.out.head hget
  have t3 := hh.c3
  have t1 := H5.out.c1
  have hi0 : (0 : Int) ≤ (i2 : Int) := by omega
  have hit : ((i2 : Int)).toNat = i2 := by omega
  have hlti : (i2 : Int) < (l0.length : Int) := by omega
  have hi9 : (i2 : Int) ≤ 1000000 := by have := Hl0.out; omega
  have hpa : pAt e (l0.drop i2) = m.pos := by rw [Hdr.out]; rfl
  rw [hpa]
  clear hget hh hpa
  go_wp2_with fail
  go_quiet (fail)
  have hb6 := below_drewN (Below.refl w5.heap.size w5) nq
  have H6 := Lib.hid (H5.out.below hb6)
  have Hz6 := Lib.hid (Hz5.out.below hb6 Hz5.out.lt)
  have HA6 := Lib.hid (HA5.out.below hb6 HA5.out.lt)
  have Hk6 := Lib.hid (Hk5.out.later hb6)
  have HB6 : Hid (But T w _) := Lib.hid (HB5.out.trans (But.of hb6))
  clear t0 t1 t3 hb6
  generalize World.drewN w5 nq = W6 at H6 Hz6 HA6 Hk6 HB6 ⊢
  have t1 := H6.out.c1
  have z1 := H6.out.z 1
  go_upto_region 6 with fail
  have hbx := (But.refl T W6).set 1 (.int .i64 ((i2 : Int) + 1))
  have hTA : T < w2.heap.size := by have := HW2.out; have := HWl.out; omega
  have H7 := Lib.hid (H6.out.setI (i2 + 1) ((i2 : Int) + 1) (by omega))
  have Hz7 := Lib.hid (Hz6.out.but hbx hT)
  have HA7 := Lib.hid (HA6.out.but hbx hTA)
  have Hk7 := Lib.hid (Hk6.out.but hbx (by have := HWl.out; omega))
  have HB7 := Lib.hid (HB6.out.trans hbx)
  clear t1 z1 hbx
  generalize World.setCell W6 _ _ = W7 at H7 Hz7 HA7 Hk7 HB7 ⊢
  have hlo2 : W.heap.size ≤ w2.heap.size := HW2.out
  have Hc : Hid (Calls Tryz.prog 82 #[.pointer (some ⟨T, 0, none⟩)] W7.drew fun en w' => ∃ (x : Tree) (ba : Option Addr) (bn bc : Nat), en = .returned (x.val ba bn bc) ∧ KVar w' w2.heap.size t a n c ∧ ZVar w' w.heap.size ∧ KSl w' W.heap.size t.kids a n ∧ KSl w' W.heap.size x.kids ba bn ∧ But T w w' ∧ CmpT w' T e d l0 t m RR x) := Lib.hid ((toperand_any W7.drew T l0 (i2 + 1) e d (H7.out.below (Below.refl _ _).drew) Hl0.out).mono (by
    rintro en w' ⟨h1, x, ba, bn, bc, h2, h3, h4⟩
    have hA8 := (HA7.out.below (Below.refl _ _).drew HA7.out.lt).but h1 hTA
    have hz8 := (Hz7.out.below (Below.refl _ _).drew Hz7.out.lt).but h1 hT
    have hk8 := (Hk7.out.later (Below.refl _ _).drew).but h1 (by have := HWl.out; omega)
    refine ⟨x, ba, bn, bc, h2, hA8, hz8, hk8, h3.mono (Nat.le_trans hlo2 (Nat.le_of_lt (show w2.heap.size < W7.drew.heap.size from HA7.out.lt))), (HB7.out.trans (But.of (Below.refl _ _).drew)).trans h1, ?_⟩
    rw [Hd1.out] at h4
    rw [← HRR.out]
    exact cmpT_of h4))
  have hZA : w.heap.size ≠ w2.heap.size := by have := HWl.out; omega
  obtain ⟨k0, k1, k2, k3, k4, k5, k6, k7, k8, -, -⟩ := HA7.out
  go_region_with (go_at_call 82; refine (Hc.out).mono ?_; rintro en w8 ⟨x, ba, bn, bc, rfl, h8, hz8, hk8, hx8, hb8, hc8⟩; have hza1 := hz8.lt; have hza2 : w.heap.size ≠ w8.heap.size := Nat.ne_of_lt hza1; have Hz8 := Lib.hid hz8; have hA1 := h8.lt; have hA2 : w2.heap.size ≠ w8.heap.size := Nat.ne_of_lt hA1; obtain ⟨g0, g1, g2, g3, g4, g5, g6, g7, g8, gz, -⟩ := hz8; obtain ⟨q0, q1, q2, q3, q4, q5, q6, q7, q8, -, -⟩ := h8)
  all_goals go_wp2_with fail
  all_goals
    have hv := at6_var (mp := m.pos) (op := m.op) (a := t) (b := x) Hz8.out (.cells (t.cells2 a n c x ba bn bc) 31)
    refine bodyPost_ret (v := (Tree.mk 2 (m.pos : Int) [] m.op zeroVal [t, x]).val (some ⟨w8.heap.size, 0, none⟩) 2 2) ?_ rfl (tcmp_done hb8 hk8 hx8 HWl.out hT (Nat.le_trans hlo2 (Nat.le_of_lt hA1)) hc8)
    clear g0 g1 g2 g3 g4 g5 g6 g7 g8 gz q0 q1 q2 q3 q4 q5 q6 q7 q8 k0 k1 k2 k3 k4 k5 k6 k7 k8
    generalize (st9 w8 w.heap.size _ _ _ _ _ _ _ _ _).alloc _ = F at hv ⊢
    obtain ⟨e0, e1, e2, e3, e4, e5, e6, e7, e8, -, -⟩ := hv
    simp [results, Tryz.results62, go_sem, e0, e1, e2, e3, e4, e5, e6, e7, e8, Tree.val]
end Go.Proofs.YthhghlnbpigcjaaGreatDoor
