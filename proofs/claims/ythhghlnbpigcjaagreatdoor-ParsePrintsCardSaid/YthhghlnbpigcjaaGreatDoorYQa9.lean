/- The walk of a tape's atom: is it null, is it not. -/
import Derived.Test.YthhghlnbpigcjaaGreatDoorYQa8
set_option linter.unusedVariables false
set_option linter.unusedSimpArgs false
namespace Go.Proofs.YthhghlnbpigcjaaGreatDoor
open Go.RowKit

/-- a null's answer -/
theorem tnull_ok {w W w2 X W4 : World} {T e d J mp : Nat} {l0 q : List Tk} {u : Tree} {a : Option Addr} {n c : Nat} (hb2 : But T w w2) (hk2 : KSl w2 W.heap.size u.kids a n) (hx : But T w2 X) (hr : NullRow X W4 u a n c (.node 3 mp [u])) (ht : TpAt X T l0 J e d (-1)) (hZ : w.heap.size < W.heap.size) (hT : T < w.heap.size) (hW : W.heap.size ≤ w2.heap.size) (hq : l0.drop J = q) (v0 v1 v2 v3 v4 v5 v6 v7 v8 : Value) :
    TpAns w (st9 W4 w.heap.size v0 v1 v2 v3 v4 v5 v6 v7 v8) T e d l0 (.ok (.node 3 mp [u]) q) (.returned ((Tree.node 3 mp [u]).val (some ⟨X.heap.size, 0, none⟩) 1 1)) := by
  obtain ⟨h1, h2, h3, h4⟩ := hr
  have hs := hx.size
  exact tpans_put ((hb2.trans hx).trans (But.of h3)) (h1.row1 (hk2.but (hx.trans (But.of h3)) (by omega)) (by omega)) hZ hT ⟨rfl, J, hq, ht.below h3⟩
def NotRowT (X W4 W5 : World) (T : Nat) (u : Tree) (a : Option Addr) (n c mp : Nat) : Prop := KVar W5 X.heap.size u a n c ∧ KVar W5 W4.heap.size (.node 3 mp [u]) (some ⟨X.heap.size, 0, none⟩) 1 1 ∧ KVar W5 (X.heap.size + 1) (Tree.node 4 mp [.node 3 mp [u]]) (some ⟨W4.heap.size, 0, none⟩) 1 1 ∧ But T X W5 ∧ W4.heap.size = X.heap.size + 2
theorem not_rowT {X W4 : World} {T : Nat} {u : Tree} {a : Option Addr} {n c mp : Nat} {ty : TypeId} (hr : NullRow X W4 u a n c (.node 3 mp [u])) (hT : T < X.heap.size) :
    NotRowT X W4 ((st9 W4 (X.heap.size + 1) (.int .i64 (Tree.node 4 mp [.node 3 mp [u]]).k) (.int .i64 (Tree.node 4 mp [.node 3 mp [u]]).pos) (.string ⟨(Tree.node 4 mp [.node 3 mp [u]]).col.toArray⟩) (.int .i64 (Tree.node 4 mp [.node 3 mp [u]]).v.k) (.int .i64 (Tree.node 4 mp [.node 3 mp [u]]).v.n) (.string (Tree.node 4 mp [.node 3 mp [u]]).v.s) (.int .u64 (Tree.node 4 mp [.node 3 mp [u]]).v.f) (.int .i64 (Tree.node 4 mp [.node 3 mp [u]]).op) (.slice (some ⟨W4.heap.size, 0, none⟩) 1 1)).alloc (.cells ((Tree.node 3 mp [u]).cells (some ⟨X.heap.size, 0, none⟩) 1 1) ty)) T u a n c mp ∧ (∀ Z, Z < X.heap.size → ZVar W4 Z → ZVar ((st9 W4 (X.heap.size + 1) (.int .i64 (Tree.node 4 mp [.node 3 mp [u]]).k) (.int .i64 (Tree.node 4 mp [.node 3 mp [u]]).pos) (.string ⟨(Tree.node 4 mp [.node 3 mp [u]]).col.toArray⟩) (.int .i64 (Tree.node 4 mp [.node 3 mp [u]]).v.k) (.int .i64 (Tree.node 4 mp [.node 3 mp [u]]).v.n) (.string (Tree.node 4 mp [.node 3 mp [u]]).v.s) (.int .u64 (Tree.node 4 mp [.node 3 mp [u]]).v.f) (.int .i64 (Tree.node 4 mp [.node 3 mp [u]]).op) (.slice (some ⟨W4.heap.size, 0, none⟩) 1 1)).alloc (.cells ((Tree.node 3 mp [u]).cells (some ⟨X.heap.size, 0, none⟩) 1 1) ty)) Z) ∧ (∀ l0 i e d b, TpAt W4 T l0 i e d b → TpAt ((st9 W4 (X.heap.size + 1) (.int .i64 (Tree.node 4 mp [.node 3 mp [u]]).k) (.int .i64 (Tree.node 4 mp [.node 3 mp [u]]).pos) (.string ⟨(Tree.node 4 mp [.node 3 mp [u]]).col.toArray⟩) (.int .i64 (Tree.node 4 mp [.node 3 mp [u]]).v.k) (.int .i64 (Tree.node 4 mp [.node 3 mp [u]]).v.n) (.string (Tree.node 4 mp [.node 3 mp [u]]).v.s) (.int .u64 (Tree.node 4 mp [.node 3 mp [u]]).v.f) (.int .i64 (Tree.node 4 mp [.node 3 mp [u]]).op) (.slice (some ⟨W4.heap.size, 0, none⟩) 1 1)).alloc (.cells ((Tree.node 3 mp [u]).cells (some ⟨X.heap.size, 0, none⟩) 1 1) ty)) T l0 i e d b) := by
  obtain ⟨g1, g2, g3, g4⟩ := hr
  have h1 := g1.put9 (b' := X.heap.size + 1) (by omega) (.int .i64 (Tree.node 4 mp [.node 3 mp [u]]).k) (.int .i64 (Tree.node 4 mp [.node 3 mp [u]]).pos) (.string ⟨(Tree.node 4 mp [.node 3 mp [u]]).col.toArray⟩) (.int .i64 (Tree.node 4 mp [.node 3 mp [u]]).v.k) (.int .i64 (Tree.node 4 mp [.node 3 mp [u]]).v.n) (.string (Tree.node 4 mp [.node 3 mp [u]]).v.s) (.int .u64 (Tree.node 4 mp [.node 3 mp [u]]).v.f) (.int .i64 (Tree.node 4 mp [.node 3 mp [u]]).op) (.slice (some ⟨W4.heap.size, 0, none⟩) 1 1)
  have h2 := g2.put (Tree.node 4 mp [.node 3 mp [u]]) (some ⟨W4.heap.size, 0, none⟩) 1 1
  have h5 := (But.of (R := T) g3).put9 (b := X.heap.size + 1) (by omega) (.int .i64 (Tree.node 4 mp [.node 3 mp [u]]).k) (.int .i64 (Tree.node 4 mp [.node 3 mp [u]]).pos) (.string ⟨(Tree.node 4 mp [.node 3 mp [u]]).col.toArray⟩) (.int .i64 (Tree.node 4 mp [.node 3 mp [u]]).v.k) (.int .i64 (Tree.node 4 mp [.node 3 mp [u]]).v.n) (.string (Tree.node 4 mp [.node 3 mp [u]]).v.s) (.int .u64 (Tree.node 4 mp [.node 3 mp [u]]).v.f) (.int .i64 (Tree.node 4 mp [.node 3 mp [u]]).op) (.slice (some ⟨W4.heap.size, 0, none⟩) 1 1)
  have hz : ∀ Z, Z < X.heap.size → ZVar W4 Z → ZVar (st9 W4 (X.heap.size + 1) (.int .i64 (Tree.node 4 mp [.node 3 mp [u]]).k) (.int .i64 (Tree.node 4 mp [.node 3 mp [u]]).pos) (.string ⟨(Tree.node 4 mp [.node 3 mp [u]]).col.toArray⟩) (.int .i64 (Tree.node 4 mp [.node 3 mp [u]]).v.k) (.int .i64 (Tree.node 4 mp [.node 3 mp [u]]).v.n) (.string (Tree.node 4 mp [.node 3 mp [u]]).v.s) (.int .u64 (Tree.node 4 mp [.node 3 mp [u]]).v.f) (.int .i64 (Tree.node 4 mp [.node 3 mp [u]]).op) (.slice (some ⟨W4.heap.size, 0, none⟩) 1 1)) Z := fun Z hZ h => h.put9 (by omega) _ _ _ _ _ _ _ _ _
  have ht : ∀ l0 i e d b, TpAt W4 T l0 i e d b → TpAt (st9 W4 (X.heap.size + 1) (.int .i64 (Tree.node 4 mp [.node 3 mp [u]]).k) (.int .i64 (Tree.node 4 mp [.node 3 mp [u]]).pos) (.string ⟨(Tree.node 4 mp [.node 3 mp [u]]).col.toArray⟩) (.int .i64 (Tree.node 4 mp [.node 3 mp [u]]).v.k) (.int .i64 (Tree.node 4 mp [.node 3 mp [u]]).v.n) (.string (Tree.node 4 mp [.node 3 mp [u]]).v.s) (.int .u64 (Tree.node 4 mp [.node 3 mp [u]]).v.f) (.int .i64 (Tree.node 4 mp [.node 3 mp [u]]).op) (.slice (some ⟨W4.heap.size, 0, none⟩) 1 1)) T l0 i e d b := fun l0 i e d b h => h.put9 (by omega) _ _ _ _ _ _ _ _ _
  have hsz := st9_size W4 (X.heap.size + 1) (.int .i64 (Tree.node 4 mp [.node 3 mp [u]]).k) (.int .i64 (Tree.node 4 mp [.node 3 mp [u]]).pos) (.string ⟨(Tree.node 4 mp [.node 3 mp [u]]).col.toArray⟩) (.int .i64 (Tree.node 4 mp [.node 3 mp [u]]).v.k) (.int .i64 (Tree.node 4 mp [.node 3 mp [u]]).v.n) (.string (Tree.node 4 mp [.node 3 mp [u]]).v.s) (.int .u64 (Tree.node 4 mp [.node 3 mp [u]]).v.f) (.int .i64 (Tree.node 4 mp [.node 3 mp [u]]).op) (.slice (some ⟨W4.heap.size, 0, none⟩) 1 1)
  generalize (st9 W4 _ _ _ _ _ _ _ _ _ _) = W6 at h1 h2 h5 hsz hz ht ⊢
  have hb6 := Below.new W6 (.cells ((Tree.node 3 mp [u]).cells (some ⟨X.heap.size, 0, none⟩) 1 1) ty)
  have h6 := KVar.new W6 (.node 3 mp [u]) (some ⟨X.heap.size, 0, none⟩) 1 1 ty
  rw [hsz] at h6
  exact ⟨⟨h1.below hb6 h1.lt, h6, h2.below hb6 h2.lt, h5.trans (But.of hb6), g4⟩, fun Z hZ h => (hz Z hZ h).below hb6 (hz Z hZ h).lt, fun l0 i e d b h => (ht l0 i e d b h).below hb6⟩
theorem tnull_not {w W w2 X W4 W5 : World} {T e d J mp : Nat} {l0 q : List Tk} {u : Tree} {a : Option Addr} {n c : Nat} (hb2 : But T w w2) (hk2 : KSl w2 W.heap.size u.kids a n) (hx : But T w2 X) (hr : NotRowT X W4 W5 T u a n c mp) (ht : TpAt W5 T l0 J e d (-1)) (hZ : w.heap.size < W.heap.size) (hT : T < w.heap.size) (hW : W.heap.size ≤ w2.heap.size) (hq : l0.drop J = q) (v0 v1 v2 v3 v4 v5 v6 v7 v8 : Value) :
    TpAns w (st9 W5 w.heap.size v0 v1 v2 v3 v4 v5 v6 v7 v8) T e d l0 (.ok (Tree.node 4 mp [.node 3 mp [u]]) q) (.returned ((Tree.node 4 mp [.node 3 mp [u]]).val (some ⟨W4.heap.size, 0, none⟩) 1 1)) := by
  obtain ⟨h1, h2, h3, h4, h5⟩ := hr
  have hs := hx.size
  exact tpans_put ((hb2.trans hx).trans h4) (h2.row1 (h1.row1 (hk2.but (hx.trans h4) (by omega)) (by omega)) (by omega)) hZ hT ⟨rfl, J, hq, ht⟩
set_option maxHeartbeats 16000000 in
set_option maxRecDepth 100000 in
theorem tatom_is (w : World) (T : Nat) (l0 : List Tk) (i e d : Nat) (hl0 : l0.length ≤ 1000000) (hmu : Mute l0) (h : TpAt w T l0 i e d (-1)) (u : Tree) (m : Tk) (L : List Tk) (hp : pOper e (l0.drop i) = .ok u (m :: L)) (hB : isTok 3 kIs (m :: L) = true) :
    Calls Tryz.prog 62 #[.pointer (some ⟨T, 0, none⟩)] w fun en w' => TpAns w w' T e d l0 (pNull e u m.pos L) en := by
  have H := Lib.hid h
  have hT := h.lt
  have Hmu := Lib.hid hmu
  have Ho : Hid (∀ W, TpAt W T l0 i e d (-1) → Calls Tryz.prog 82 #[.pointer (some ⟨T, 0, none⟩)] W fun en w' => TpAns W w' T e d l0 (.ok u (m :: L)) en) := Lib.hid fun W h => hp ▸ toperand_any W T l0 i e d h hl0
  have hm3 : m.k = 3 := (tok_is hB).1
  have Hq2 : Hid (seesB 2 [] (m :: L) = false) := Lib.hid (by simp [seesB, hm3])
  have Hq3 : Hid (seesB 3 kIs (m :: L) = true) := Lib.hid ((sees_word _ _).trans hB)
  have Hl0 := Lib.hid hl0
  generalize hRR : pNull e u m.pos L = RR
  have HRR := Lib.hid hRR
  clear h hp hRR hl0 hmu hB hm3
  go_enter Tryz.func62, Tryz.ntmps62
  go_upto_region 1 with fail
  have Hb := Lib.hid (Below.new w (.cells zcells 31))
  have Hz := Lib.hid (ZVar.new w 31)
  generalize World.alloc w _ = W at Hb Hz ⊢
  have H1 := Lib.hid (H.out.below Hb.out)
  have hc := Lib.hid (Ho.out W H1.out)
  go_wp2_with fail
  refine hc.out.mono ?_
  clear hc
  rintro en w2 ⟨hb2, t, a, n, c, rfl, hk, rfl, i2, hdr, h2⟩
  have Hdr := Lib.hid hdr
  have H2 := Lib.hid h2
  have Hk2 := Lib.hid hk
  have Hz2 := Lib.hid (Hz.out.but hb2 hT)
  have HB2 : Hid (But T w w2) := Lib.hid ((But.of Hb.out).trans hb2)
  have HW2 : Hid (W.heap.size ≤ w2.heap.size) := Lib.hid hb2.size
  have HWl : Hid (w.heap.size < W.heap.size) := Lib.hid Hz.out.lt
  have hTA : T < w2.heap.size := by have := HW2.out; have := HWl.out; omega
  have HTA := Lib.hid hTA
  have hZ2 : w.heap.size < w2.heap.size := Hz2.out.lt
  have HZ2l := Lib.hid hZ2
  clear hb2 hk h2 hdr hTA hZ2
  simp only [Tree.val]
  go_upto_region 2 with fail
  generalize hW : World.alloc w2 _ = W3
  have hbn : Below w2.heap.size w2 W3 := by rw [← hW]; exact Below.new _ _
  have hvn : KVar W3 w2.heap.size t a n c := by rw [← hW]; exact KVar.new w2 t a n c _
  have H3 := Lib.hid (H2.out.below hbn)
  have Hz3 := Lib.hid (Hz2.out.below hbn Hz2.out.lt)
  have HA3 := Lib.hid hvn
  have HQ3 : Hid (But T w2 W3) := Lib.hid (But.of hbn)
  clear hW hbn hvn
  have hc := Lib.hid (tat_any W3 T l0 i2 e d (-1) H3.out)
  go_wp2_with fail
  refine hc.out.mono ?_
  clear hc
  rintro en w4 ⟨rfl, hb4⟩
  have H4 := Lib.hid (H3.out.below hb4)
  have Hz4 := Lib.hid (Hz3.out.below hb4 Hz3.out.lt)
  have HA4 := Lib.hid (HA3.out.below hb4 HA3.out.lt)
  have HQ4 : Hid (But T w2 w4) := Lib.hid (HQ3.out.trans (But.of hb4))
  clear hb4
  have hpa : pAt e (l0.drop i2) = m.pos := by rw [Hdr.out]; rfl
  rw [hpa]
  clear hpa
  generalize m.pos = mp at HRR ⊢
  have hc : Hid (Calls Tryz.prog 40 #[.pointer (some ⟨T, 0, none⟩), .int .i64 2, .string ⟨#[]⟩] w4 fun en w' => en = .returned (.bool false) ∧ Below w4.heap.size w4 w') := Lib.hid (by have := tsees_any w4 T l0 i2 e d (-1) (by decide) H4.out 2 []; rw [Hdr.out, Hq2.out] at this; exact this)
  go_wp2_with fail
  refine hc.out.mono ?_
  clear hc
  rintro en w5 ⟨rfl, hb5⟩
  have H5 := Lib.hid (H4.out.below hb5)
  have Hz5 := Lib.hid (Hz4.out.below hb5 Hz4.out.lt)
  have HA5 := Lib.hid (HA4.out.below hb5 HA4.out.lt)
  have HQ5 : Hid (But T w2 w5) := Lib.hid (HQ4.out.trans (But.of hb5))
  clear hb5
  have hc : Hid (Calls Tryz.prog 40 #[.pointer (some ⟨T, 0, none⟩), .int .i64 3, .string ⟨#[105, 115]⟩] w5 fun en w' => en = .returned (.bool true) ∧ Below w5.heap.size w5 w') := Lib.hid (by have := tsees_any w5 T l0 i2 e d (-1) (by decide) H5.out 3 kIs; rw [Hdr.out, Hq3.out] at this; exact this)
  go_wp2_with fail
  refine hc.out.mono ?_
  clear hc
  rintro en w6 ⟨rfl, hb6⟩
  have H6 := Lib.hid (H5.out.below hb6)
  have Hz6 := Lib.hid (Hz5.out.below hb6 Hz5.out.lt)
  have HA6 := Lib.hid (HA5.out.below hb6 HA5.out.lt)
  have HQ6 : Hid (But T w2 w6) := Lib.hid (HQ5.out.trans (But.of hb6))
  clear hb6
  have Hget : Hid (l0[i2]? = some m ∧ i2 < l0.length ∧ l0.drop (i2 + 1) = L) := Lib.hid (by
    have hget : l0[i2]? = some m := by have := congrArg (fun x : List Tk => x[0]?) Hdr.out; simpa using this
    refine ⟨hget, ?_, by have := drop_tk hget; rw [Hdr.out] at this; injection this with _ h; exact h.symm⟩
    rcases Nat.lt_or_ge i2 l0.length with h1 | h1
    · exact h1
    · rw [List.getElem?_eq_none h1] at hget; cases hget)
  have hi9 : (i2 : Int) ≤ 1000000 := by have := Hl0.out; have := Hget.out.2.1; omega
  have hi0 : (0 : Int) ≤ (i2 : Int) := by omega
  have t1 := H6.out.c1
  have z1 := H6.out.z 1
  go_upto_region 10 with fail
  have hbx := (But.refl T w6).set 1 (.int .i64 ((i2 : Int) + 1))
  have H7 := Lib.hid (H6.out.setI (i2 + 1) ((i2 : Int) + 1) (by omega))
  have Hz7 := Lib.hid (Hz6.out.but hbx hT)
  have HA7 := Lib.hid (HA6.out.but hbx HTA.out)
  have HQ7 : Hid (But T w2 _) := Lib.hid (HQ6.out.trans hbx)
  have Hd7 := Lib.hid Hget.out.2.2
  clear t1 z1 hbx hi9 hi0
  generalize World.setCell w6 _ _ = W7 at H7 Hz7 HA7 HQ7 ⊢
  have hc : Hid (∀ B, isTok 3 kNot L = B → Calls Tryz.prog 40 #[.pointer (some ⟨T, 0, none⟩), .int .i64 3, .string ⟨#[110, 111, 116]⟩] W7 fun en w' => en = .returned (.bool B) ∧ Below W7.heap.size W7 w') := Lib.hid (fun B hB => by have := tsees_any W7 T l0 (i2 + 1) e d (-1) (by decide) H7.out 3 kNot; rw [Hd7.out, sees_word, hB] at this; exact this)
  generalize hi7 : i2 + 1 = i7 at H7 Hd7 hc
  have Hi7 : Hid (i7 ≤ l0.length) := Lib.hid (by have := Hget.out.2.1; omega)
  clear hi7
  cases hB : isTok 3 kNot L with
  | false =>
    have HB := Lib.hid hB
    have hc' := Lib.hid (hc.out false hB)
    clear hc hB
    go_wp2_with fail
    refine hc'.out.mono ?_
    clear hc'
    rintro en w8 ⟨rfl, hb8⟩
    have H8 := Lib.hid (H7.out.below hb8)
    have Hz8 := Lib.hid (Hz7.out.below hb8 Hz7.out.lt)
    have HA8 := Lib.hid (HA7.out.below hb8 HA7.out.lt)
    have HQ8 : Hid (But T w2 _) := Lib.hid (HQ7.out.trans (But.of hb8))
    have Hd8 := Hd7
    clear hb8
    have Hmd : Hid (Mute L) := Lib.hid (by rw [← Hd8.out]; exact Hmu.out.drop _)
    have Hq : Hid (∀ B, isTok 1 [] L = B → ∀ nn, Calls Tryz.prog 40 #[.pointer (some ⟨T, 0, none⟩), .int .i64 1, .string ⟨#[]⟩] (w8.drewN nn) fun en w' => en = .returned (.bool B) ∧ ∃ mm, w' = (w8.drewN nn).drewN mm) := Lib.hid (fun B hB nn => by have := tsees_drew (w8.drewN nn) T l0 i7 e d (-1) (by decide) (H8.out.below (below_drewN (Below.refl _ _) nn)) 1 []; rw [Hd8.out, sees_kind (by decide) (by decide) Hmd.out, hB] at this; exact this)
    cases h1 : isTok 1 [] L with
    | false =>
      have Hr : Hid (RR = .bad (pAt e L)) := Lib.hid (by rw [← HRR.out]; unfold pNull; rw [HB.out]; simp only [Bool.false_eq_true, if_false]; have h5 : nullT 0 L = false := null_no h1; simp [h5])
      have Hq2b := Lib.hid (Hq.out false h1)
      clear h1 Hq
      go_wp2_with fail
      go_quiet ((go_at_call 40; exact Calls.quiet_of (Hq2b.out _)))
      have hb10 := below_drewN (Below.refl w8.heap.size w8) nq
      have H10 := Lib.hid (H8.out.below hb10)
      have Hz10 := Lib.hid (Hz8.out.below hb10 Hz8.out.lt)
      have HA10 := Lib.hid (HA8.out.below hb10 HA8.out.lt)
      have HQ10 : Hid (But T w2 _) := Lib.hid (HQ8.out.trans (But.of hb10))
      clear hb10
      generalize World.drewN w8 nq = W10 at H10 Hz10 HA10 HQ10 ⊢
      have hc : Hid (Calls Tryz.prog 27 #[.pointer (some ⟨T, 0, none⟩)] W10 fun en w' => en = .returned zval ∧ TpAt w' T l0 i7 e d (pAt e L : Int) ∧ But T W10 w') := Lib.hid (by have := tfail_any W10 T l0 i7 e d (-1) (by decide) H10.out; rw [Hd8.out] at this; exact this)
      go_wp2_with fail
      refine hc.out.mono ?_
      clear hc
      rintro en w11 ⟨rfl, h11, hb11⟩
      have H11 := Lib.hid h11
      have HQ11 : Hid (But T w w11) := Lib.hid ((HB2.out.trans HQ10.out).trans hb11)
      obtain ⟨d0, d1, d2', d3, d4, d5, d6, d7, d8, dz, -⟩ := Hz10.out.but hb11 hT
      clear h11 hb11
      go_wp2_with fail
      exact bodyPost_ret (v := zval) (by simp [results, Tryz.results62, go_sem, d0, d1, d2', d3, d4, d5, d6, d7, d8]) rfl (by rw [Hr.out]; exact ⟨HQ11.out.put9 (Nat.le_refl _) _ _ _ _ _ _ _ _ _, .mk 0 0 [] 0 zeroVal [], none, 0, 0, rfl, .empty, i7, d, H11.out.put9 hT _ _ _ _ _ _ _ _ _⟩)
    | true =>
      obtain ⟨tt, q2, rfl⟩ := tok_cons h1
      obtain ⟨tk, tp, tx, tq, ⟨vk, vn, vs, vf⟩⟩ := tt
      have htt := tok_is h1
      dsimp only at htt
      have Hq2b := Lib.hid (Hq.out true h1)
      obtain ⟨rfl, rfl⟩ := htt
      have Hg2 : Hid (l0[i7]? = some ⟨1, tp, [], tq, ⟨vk, vn, vs, vf⟩⟩ ∧ i7 < l0.length ∧ l0.drop (i7 + 1) = q2) := Lib.hid (by
        have hget : l0[i7]? = some ⟨1, tp, [], tq, ⟨vk, vn, vs, vf⟩⟩ := by have := congrArg (fun x : List Tk => x[0]?) Hd8.out; simpa using this
        refine ⟨hget, ?_, by have := drop_tk hget; rw [Hd8.out] at this; injection this with _ h; exact h.symm⟩
        rcases Nat.lt_or_ge i7 l0.length with h1 | h1
        · exact h1
        · rw [List.getElem?_eq_none h1] at hget; cases hget)
      obtain ⟨g, off, cp, t0, hh⟩ := H8.out.head Hg2.out.1
      have t4 : World.cell? w8 ⟨g, off + i7 * 8 + 4, none⟩ = some (.int .i64 vk) := hh.c4
      have t1 := H8.out.c1
      have hi0 : (0 : Int) ≤ (i7 : Int) := by omega
      have hit : ((i7 : Int)).toNat = i7 := by omega
      have hlti : (i7 : Int) < (l0.length : Int) := by have := Hg2.out.2.1; omega
      have hi9 : (i7 : Int) ≤ 1000000 := by have := Hl0.out; have := Hg2.out.2.1; omega
      clear h1 Hq hh
      by_cases h0 : vk = 0
      · subst h0
        have Hr : Hid (RR = .ok (.node 3 mp [t]) q2) := Lib.hid (by rw [← HRR.out]; unfold pNull; rw [HB.out]; simp only [Bool.false_eq_true, if_false]; simp [nullT])
        go_wp2_with fail
        go_quiet ((go_at_call 40; exact Calls.quiet_of (Hq2b.out _)))
        have hb10 := below_drewN (Below.refl w8.heap.size w8) nq
        have H10 := Lib.hid (H8.out.below hb10)
        have Hz10 := Lib.hid (Hz8.out.below hb10 Hz8.out.lt)
        have HA10 := Lib.hid (HA8.out.below hb10 HA8.out.lt)
        have HQ10 : Hid (But T w2 _) := Lib.hid (HQ8.out.trans (But.of hb10))
        clear hb10 t0 t1 t4 Hq2b hit hlti
        generalize World.drewN w8 nq = W10 at H10 Hz10 HA10 HQ10 ⊢
        have t1 := H10.out.c1
        have z1 := H10.out.z 1
        go_upto_region 16 with fail
        have hbx := (But.refl T W10).set 1 (.int .i64 ((i7 : Int) + 1))
        have H11 := Lib.hid (H10.out.setI (i7 + 1) ((i7 : Int) + 1) (by omega))
        have Hz11 := Lib.hid (Hz10.out.but hbx hT)
        have HA11 := Lib.hid (HA10.out.but hbx HTA.out)
        have HQ11 : Hid (But T w2 _) := Lib.hid (HQ10.out.trans hbx)
        have Hd11 := Lib.hid Hg2.out.2.2
        clear t1 z1 hbx hi9 hi0
        generalize World.setCell W10 _ _ = X at H11 Hz11 HA11 HQ11 ⊢
        obtain ⟨a0, a1, a2, a3, a4, a5, a6, a7, a8, -, -⟩ := HA11.out
        go_upto_region 17 with fail
        clear a0 a1 a2 a3 a4 a5 a6 a7 a8
        generalize hW4 : ((X.alloc _).alloc _) = W4
        have hF : NullRow X W4 t a n c (.node 3 mp [t]) := by rw [← hW4]; exact null_row X t a n c (.node 3 mp [t]) _ _
        have HF := Lib.hid hF
        have Hz12 := Lib.hid (Hz11.out.below hF.2.2.1 Hz11.out.lt)
        have H12 := Lib.hid (H11.out.below hF.2.2.1)
        have Hs4 := Lib.hid hF.2.2.2
        have HXl : Hid (w2.heap.size ≤ X.heap.size) := Lib.hid HQ11.out.size
        clear hF hW4
        obtain ⟨k0, k1, k2, k3, k4, k5, k6, k7, k8, -, -⟩ := HF.out.2.1
        obtain ⟨d0, d1, d2', d3, d4, d5, d6, d7, d8, dz, -⟩ := Hz12.out
        dsimp only [Tree.k, Tree.pos, Tree.col, Tree.v, Tree.op, zeroVal] at k0 k1 k2 k3 k4 k5 k6 k7
        go_wp2_with fail
        exact bodyPost_ret (v := (Tree.node 3 mp [t]).val (some ⟨X.heap.size, 0, none⟩) 1 1) (by simp [results, Tryz.results62, go_sem, d0, d1, d2', d3, d4, d5, d6, d7, d8, Tree.val, Tree.k, Tree.pos, Tree.col, Tree.v, Tree.op, zeroVal]) rfl (by rw [Hr.out]; exact tnull_ok HB2.out Hk2.out HQ11.out HF.out H11.out HWl.out hT HW2.out Hd11.out _ _ _ _ _ _ _ _ _)
      · have Hr : Hid (RR = .bad (pAt e (⟨1, tp, [], tq, ⟨vk, vn, vs, vf⟩⟩ :: q2))) := Lib.hid (by rw [← HRR.out]; unfold pNull; rw [HB.out]; simp only [Bool.false_eq_true, if_false]; simp [nullT, h0, pAt])
        have q0 : (vk != 0) = true := bne_iff_ne.2 h0
        go_wp2_with fail
        go_quiet ((go_at_call 40; exact Calls.quiet_of (Hq2b.out _)))
        have hb10 := below_drewN (Below.refl w8.heap.size w8) nq
        have H10 := Lib.hid (H8.out.below hb10)
        have Hz10 := Lib.hid (Hz8.out.below hb10 Hz8.out.lt)
        have HA10 := Lib.hid (HA8.out.below hb10 HA8.out.lt)
        have HQ10 : Hid (But T w2 _) := Lib.hid (HQ8.out.trans (But.of hb10))
        clear hb10 t0 t1 t4 Hq2b hit hlti q0 hi9 hi0
        generalize World.drewN w8 nq = W10 at H10 Hz10 HA10 HQ10 ⊢
        have hc : Hid (Calls Tryz.prog 27 #[.pointer (some ⟨T, 0, none⟩)] W10 fun en w' => en = .returned zval ∧ TpAt w' T l0 i7 e d (pAt e (⟨1, tp, [], tq, ⟨vk, vn, vs, vf⟩⟩ :: q2) : Int) ∧ But T W10 w') := Lib.hid (by have := tfail_any W10 T l0 i7 e d (-1) (by decide) H10.out; rw [Hd8.out] at this; exact this)
        go_wp2_with fail
        refine hc.out.mono ?_
        clear hc
        rintro en w11 ⟨rfl, h11, hb11⟩
        have H11 := Lib.hid h11
        have HQ11 : Hid (But T w w11) := Lib.hid ((HB2.out.trans HQ10.out).trans hb11)
        obtain ⟨d0, d1, d2', d3, d4, d5, d6, d7, d8, dz, -⟩ := Hz10.out.but hb11 hT
        clear h11 hb11
        go_wp2_with fail
        exact bodyPost_ret (v := zval) (by simp [results, Tryz.results62, go_sem, d0, d1, d2', d3, d4, d5, d6, d7, d8]) rfl (by rw [Hr.out]; exact ⟨HQ11.out.put9 (Nat.le_refl _) _ _ _ _ _ _ _ _ _, .mk 0 0 [] 0 zeroVal [], none, 0, 0, rfl, .empty, i7, d, H11.out.put9 hT _ _ _ _ _ _ _ _ _⟩)
  | true =>
    obtain ⟨mn, L2, rfl⟩ := tok_cons hB
    have HB := Lib.hid hB
    have hc' := Lib.hid (hc.out true hB)
    clear hc hB
    go_wp2_with fail
    refine hc'.out.mono ?_
    clear hc'
    rintro en w8 ⟨rfl, hb8⟩
    have H8 := Lib.hid (H7.out.below hb8)
    have Hz8 := Lib.hid (Hz7.out.below hb8 Hz7.out.lt)
    have HA8 := Lib.hid (HA7.out.below hb8 HA7.out.lt)
    have HQ8 : Hid (But T w2 _) := Lib.hid (HQ7.out.trans (But.of hb8))
    clear hb8
    have Hg1 : Hid (i7 < l0.length ∧ l0.drop (i7 + 1) = L2) := Lib.hid (by
      have hget : l0[i7]? = some mn := by have := congrArg (fun x : List Tk => x[0]?) Hd7.out; simpa using this
      refine ⟨?_, by have := drop_tk hget; rw [Hd7.out] at this; injection this with _ h; exact h.symm⟩
      rcases Nat.lt_or_ge i7 l0.length with h1 | h1
      · exact h1
      · rw [List.getElem?_eq_none h1] at hget; cases hget)
    have hi9 : (i7 : Int) ≤ 1000000 := by have := Hl0.out; have := Hg1.out.1; omega
    have hi0 : (0 : Int) ≤ (i7 : Int) := by omega
    have t1 := H8.out.c1
    have z1 := H8.out.z 1
    go_upto_region 13 with fail
    have hbx := (But.refl T w8).set 1 (.int .i64 ((i7 : Int) + 1))
    have H9 := Lib.hid (H8.out.setI (i7 + 1) ((i7 : Int) + 1) (by omega))
    have Hz9 := Lib.hid (Hz8.out.but hbx hT)
    have HA9 := Lib.hid (HA8.out.but hbx HTA.out)
    have HQ9 : Hid (But T w2 _) := Lib.hid (HQ8.out.trans hbx)
    have Hd9 := Lib.hid Hg1.out.2
    clear t1 z1 hbx hi9 hi0
    generalize World.setCell w8 _ _ = W9 at H9 Hz9 HA9 HQ9 ⊢
    generalize hi8 : i7 + 1 = i8 at H9 Hd9
    clear hi8
    have Hmd : Hid (Mute L2) := Lib.hid (by rw [← Hd9.out]; exact Hmu.out.drop _)
    have Hq : Hid (∀ B, isTok 1 [] L2 = B → ∀ nn, Calls Tryz.prog 40 #[.pointer (some ⟨T, 0, none⟩), .int .i64 1, .string ⟨#[]⟩] (W9.drewN nn) fun en w' => en = .returned (.bool B) ∧ ∃ mm, w' = (W9.drewN nn).drewN mm) := Lib.hid (fun B hB nn => by have := tsees_drew (W9.drewN nn) T l0 i8 e d (-1) (by decide) (H9.out.below (below_drewN (Below.refl _ _) nn)) 1 []; rw [Hd9.out, sees_kind (by decide) (by decide) Hmd.out, hB] at this; exact this)
    cases h1 : isTok 1 [] L2 with
    | false =>
      have Hr : Hid (RR = .bad (pAt e L2)) := Lib.hid (by rw [← HRR.out]; unfold pNull; rw [HB.out]; simp only [if_true, List.tail_cons]; have h5 : nullT 0 L2 = false := null_no h1; simp [h5])
      have Hq2b := Lib.hid (Hq.out false h1)
      clear h1 Hq
      go_wp2_with fail
      go_quiet ((go_at_call 40; exact Calls.quiet_of (Hq2b.out _)))
      have hb10 := below_drewN (Below.refl W9.heap.size W9) nq
      have H10 := Lib.hid (H9.out.below hb10)
      have Hz10 := Lib.hid (Hz9.out.below hb10 Hz9.out.lt)
      have HA10 := Lib.hid (HA9.out.below hb10 HA9.out.lt)
      have HQ10 : Hid (But T w2 _) := Lib.hid (HQ9.out.trans (But.of hb10))
      clear hb10
      generalize World.drewN W9 nq = W10 at H10 Hz10 HA10 HQ10 ⊢
      have hc : Hid (Calls Tryz.prog 27 #[.pointer (some ⟨T, 0, none⟩)] W10 fun en w' => en = .returned zval ∧ TpAt w' T l0 i8 e d (pAt e L2 : Int) ∧ But T W10 w') := Lib.hid (by have := tfail_any W10 T l0 i8 e d (-1) (by decide) H10.out; rw [Hd9.out] at this; exact this)
      go_wp2_with fail
      refine hc.out.mono ?_
      clear hc
      rintro en w11 ⟨rfl, h11, hb11⟩
      have H11 := Lib.hid h11
      have HQ11 : Hid (But T w w11) := Lib.hid ((HB2.out.trans HQ10.out).trans hb11)
      obtain ⟨d0, d1, d2', d3, d4, d5, d6, d7, d8, dz, -⟩ := Hz10.out.but hb11 hT
      clear h11 hb11
      go_wp2_with fail
      exact bodyPost_ret (v := zval) (by simp [results, Tryz.results62, go_sem, d0, d1, d2', d3, d4, d5, d6, d7, d8]) rfl (by rw [Hr.out]; exact ⟨HQ11.out.put9 (Nat.le_refl _) _ _ _ _ _ _ _ _ _, .mk 0 0 [] 0 zeroVal [], none, 0, 0, rfl, .empty, i8, d, H11.out.put9 hT _ _ _ _ _ _ _ _ _⟩)
    | true =>
      obtain ⟨tt, q2, rfl⟩ := tok_cons h1
      obtain ⟨tk, tp, tx, tq, ⟨vk, vn, vs, vf⟩⟩ := tt
      have htt := tok_is h1
      dsimp only at htt
      have Hq2b := Lib.hid (Hq.out true h1)
      obtain ⟨rfl, rfl⟩ := htt
      have Hg2 : Hid (l0[i8]? = some ⟨1, tp, [], tq, ⟨vk, vn, vs, vf⟩⟩ ∧ i8 < l0.length ∧ l0.drop (i8 + 1) = q2) := Lib.hid (by
        have hget : l0[i8]? = some ⟨1, tp, [], tq, ⟨vk, vn, vs, vf⟩⟩ := by have := congrArg (fun x : List Tk => x[0]?) Hd9.out; simpa using this
        refine ⟨hget, ?_, by have := drop_tk hget; rw [Hd9.out] at this; injection this with _ h; exact h.symm⟩
        rcases Nat.lt_or_ge i8 l0.length with h1 | h1
        · exact h1
        · rw [List.getElem?_eq_none h1] at hget; cases hget)
      obtain ⟨g, off, cp, t0, hh⟩ := H9.out.head Hg2.out.1
      have t4 : World.cell? W9 ⟨g, off + i8 * 8 + 4, none⟩ = some (.int .i64 vk) := hh.c4
      have t1 := H9.out.c1
      have hi0 : (0 : Int) ≤ (i8 : Int) := by omega
      have hit : ((i8 : Int)).toNat = i8 := by omega
      have hlti : (i8 : Int) < (l0.length : Int) := by have := Hg2.out.2.1; omega
      have hi9 : (i8 : Int) ≤ 1000000 := by have := Hl0.out; have := Hg2.out.2.1; omega
      clear h1 Hq hh
      by_cases h0 : vk = 0
      · subst h0
        have Hr : Hid (RR = .ok (.node 4 mp [.node 3 mp [t]]) q2) := Lib.hid (by rw [← HRR.out]; unfold pNull; rw [HB.out]; simp only [if_true, List.tail_cons]; simp [nullT])
        go_wp2_with fail
        go_quiet ((go_at_call 40; exact Calls.quiet_of (Hq2b.out _)))
        have hb10 := below_drewN (Below.refl W9.heap.size W9) nq
        have H10 := Lib.hid (H9.out.below hb10)
        have Hz10 := Lib.hid (Hz9.out.below hb10 Hz9.out.lt)
        have HA10 := Lib.hid (HA9.out.below hb10 HA9.out.lt)
        have HQ10 : Hid (But T w2 _) := Lib.hid (HQ9.out.trans (But.of hb10))
        clear hb10 t0 t1 t4 Hq2b hit hlti
        generalize World.drewN W9 nq = W10 at H10 Hz10 HA10 HQ10 ⊢
        have t1 := H10.out.c1
        have z1 := H10.out.z 1
        go_upto_region 16 with fail
        have hbx := (But.refl T W10).set 1 (.int .i64 ((i8 : Int) + 1))
        have H11 := Lib.hid (H10.out.setI (i8 + 1) ((i8 : Int) + 1) (by omega))
        have Hz11 := Lib.hid (Hz10.out.but hbx hT)
        have HA11 := Lib.hid (HA10.out.but hbx HTA.out)
        have HQ11 : Hid (But T w2 _) := Lib.hid (HQ10.out.trans hbx)
        have Hd11 := Lib.hid Hg2.out.2.2
        clear t1 z1 hbx hi9 hi0
        generalize World.setCell W10 _ _ = X at H11 Hz11 HA11 HQ11 ⊢
        obtain ⟨a0, a1, a2, a3, a4, a5, a6, a7, a8, -, -⟩ := HA11.out
        go_upto_region 17 with fail
        clear a0 a1 a2 a3 a4 a5 a6 a7 a8
        generalize hW4 : ((X.alloc _).alloc _) = W4
        have hF : NullRow X W4 t a n c (.node 3 mp [t]) := by rw [← hW4]; exact null_row X t a n c (.node 3 mp [t]) _ _
        have HF := Lib.hid hF
        have Hz12 := Lib.hid (Hz11.out.below hF.2.2.1 Hz11.out.lt)
        have H12 := Lib.hid (H11.out.below hF.2.2.1)
        have Hs4 := Lib.hid hF.2.2.2
        have HXl : Hid (w2.heap.size ≤ X.heap.size) := Lib.hid HQ11.out.size
        clear hF hW4
        obtain ⟨k0, k1, k2, k3, k4, k5, k6, k7, k8, kz, -⟩ := HF.out.2.1
        dsimp only [Tree.k, Tree.pos, Tree.col, Tree.v, Tree.op, zeroVal] at k0 k1 k2 k3 k4 k5 k6 k7
        have hne : ¬ X.heap.size + 1 = W4.heap.size := by have := Hs4.out; omega
        have hlw : X.heap.size + 1 < W4.heap.size := by have := Hs4.out; omega
        go_upto_region 19 with fail
        generalize hW5 : (World.alloc _ _) = W5
        have hF5 : NotRowT X W4 W5 T t a n c mp ∧ (∀ Z, Z < X.heap.size → ZVar W4 Z → ZVar W5 Z) ∧ (∀ l0 i e d b, TpAt W4 T l0 i e d b → TpAt W5 T l0 i e d b) := by rw [← hW5]; exact not_rowT HF.out (by have := HXl.out; have := HTA.out; omega)
        have HF5 := Lib.hid hF5.1
        have Hz13 := Lib.hid (hF5.2.1 _ (by have := HXl.out; have := HZ2l.out; omega) Hz12.out)
        have H13 := Lib.hid (hF5.2.2 _ _ _ _ _ H12.out)
        clear hF5 hW5 k0 k1 k2 k3 k4 k5 k6 k7 k8 kz hne hlw
        obtain ⟨j0, j1, j2, j3, j4, j5, j6, j7, j8, -, -⟩ := HF5.out.2.2.1
        obtain ⟨d0, d1, d2', d3, d4, d5, d6, d7, d8, dz, -⟩ := Hz13.out
        dsimp only [Tree.k, Tree.pos, Tree.col, Tree.v, Tree.op, zeroVal] at j0 j1 j2 j3 j4 j5 j6 j7
        go_wp2_with fail
        exact bodyPost_ret (v := (Tree.node 4 mp [Tree.node 3 mp [t]]).val (some ⟨W4.heap.size, 0, none⟩) 1 1) (by simp [results, Tryz.results62, go_sem, d0, d1, d2', d3, d4, d5, d6, d7, d8, Tree.val, Tree.k, Tree.pos, Tree.col, Tree.v, Tree.op, zeroVal]) rfl (by rw [Hr.out]; exact tnull_not HB2.out Hk2.out HQ11.out HF5.out H13.out HWl.out hT HW2.out Hd11.out _ _ _ _ _ _ _ _ _)
      · have Hr : Hid (RR = .bad (pAt e (⟨1, tp, [], tq, ⟨vk, vn, vs, vf⟩⟩ :: q2))) := Lib.hid (by rw [← HRR.out]; unfold pNull; rw [HB.out]; simp only [if_true, List.tail_cons]; simp [nullT, h0, pAt])
        have q0 : (vk != 0) = true := bne_iff_ne.2 h0
        go_wp2_with fail
        go_quiet ((go_at_call 40; exact Calls.quiet_of (Hq2b.out _)))
        have hb10 := below_drewN (Below.refl W9.heap.size W9) nq
        have H10 := Lib.hid (H9.out.below hb10)
        have Hz10 := Lib.hid (Hz9.out.below hb10 Hz9.out.lt)
        have HA10 := Lib.hid (HA9.out.below hb10 HA9.out.lt)
        have HQ10 : Hid (But T w2 _) := Lib.hid (HQ9.out.trans (But.of hb10))
        clear hb10 t0 t1 t4 Hq2b hit hlti q0 hi9 hi0
        generalize World.drewN W9 nq = W10 at H10 Hz10 HA10 HQ10 ⊢
        have hc : Hid (Calls Tryz.prog 27 #[.pointer (some ⟨T, 0, none⟩)] W10 fun en w' => en = .returned zval ∧ TpAt w' T l0 i8 e d (pAt e (⟨1, tp, [], tq, ⟨vk, vn, vs, vf⟩⟩ :: q2) : Int) ∧ But T W10 w') := Lib.hid (by have := tfail_any W10 T l0 i8 e d (-1) (by decide) H10.out; rw [Hd9.out] at this; exact this)
        go_wp2_with fail
        refine hc.out.mono ?_
        clear hc
        rintro en w11 ⟨rfl, h11, hb11⟩
        have H11 := Lib.hid h11
        have HQ11 : Hid (But T w w11) := Lib.hid ((HB2.out.trans HQ10.out).trans hb11)
        obtain ⟨d0, d1, d2', d3, d4, d5, d6, d7, d8, dz, -⟩ := Hz10.out.but hb11 hT
        clear h11 hb11
        go_wp2_with fail
        exact bodyPost_ret (v := zval) (by simp [results, Tryz.results62, go_sem, d0, d1, d2', d3, d4, d5, d6, d7, d8]) rfl (by rw [Hr.out]; exact ⟨HQ11.out.put9 (Nat.le_refl _) _ _ _ _ _ _ _ _ _, .mk 0 0 [] 0 zeroVal [], none, 0, 0, rfl, .empty, i8, d, H11.out.put9 hT _ _ _ _ _ _ _ _ _⟩)
end Go.Proofs.YthhghlnbpigcjaaGreatDoor
