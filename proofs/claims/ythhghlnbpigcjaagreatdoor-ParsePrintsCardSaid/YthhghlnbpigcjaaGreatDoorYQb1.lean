/- The walk of a tape's piece. -/
import Derived.Test.YthhghlnbpigcjaaGreatDoorYQb0
set_option linter.unusedVariables false
set_option linter.unusedSimpArgs false
namespace Go.Proofs.YthhghlnbpigcjaaGreatDoor
open Go.RowKit

def PRes.under (p : Nat) : PRes → PRes
  | .bad b => .bad b
  | .ok t q => .ok (.node 4 p [t]) q
theorem tatom_any (w : World) (T : Nat) (l0 : List Tk) (i e d : Nat) (hl0 : l0.length ≤ 1000000) (hmu : Mute l0) (h : TpAt w T l0 i e d (-1)) :
    Calls Tryz.prog 62 #[.pointer (some ⟨T, 0, none⟩)] w fun en w' => TpAns w w' T e d l0 (pAtom e (l0.drop i)) en := by
  unfold pAtom
  cases hp : pOper e (l0.drop i) with
  | bad p => exact tatom_fault w T l0 i e d p hl0 h hp
  | ok u q =>
    have hmq : Mute q := by
      intro t ht
      have hd := hmu.drop i
      have : t ∈ l0.drop i := by
        cases hl : l0.drop i with
        | nil => rw [hl] at hp; cases hp
        | cons a r =>
          rw [hl] at hp
          simp only [pOper] at hp
          repeat' split at hp
          all_goals first | (cases hp; done) | (cases hp; exact List.mem_cons_of_mem _ ht)
      exact hd t this
    simp only
    cases h3 : isTok 3 kIs q with
    | true =>
      obtain ⟨m, L, rfl⟩ := tok_cons h3
      simp only [if_true, List.tail_cons]
      exact tatom_is w T l0 i e d hl0 hmu h u m L hp h3
    | false =>
      simp only [Bool.false_eq_true, if_false]
      cases h2 : isTok 2 [] q with
      | true =>
        obtain ⟨m, L, rfl⟩ := tok_cons h2
        have := tatom_cmp w T l0 i e d hl0 h u m L hp (tok_is h2).1
        simp only [if_true]
        cases ho : pOper e L with
        | bad p => rw [ho] at this; exact this
        | ok b r => rw [ho] at this; exact this
      | false =>
        simp only [Bool.false_eq_true, if_false]
        exact tatom_plain w T l0 i e d hl0 h u q hp ((sees_kind (by decide) (by decide) hmq).trans h2) ((sees_word _ _).trans h3)
/-- a test's variable, its test put under a not -/
theorem not_put {W : World} {T X Z : Nat} {t : Tree} {a : Option Addr} {n c mp lo : Nat} {ty : TypeId} (hx : ZVar W X) (hz : ZVar W Z) (hXZ : X ≠ Z) (hk : KSl W lo t.kids a n) (hX : X < lo) (hTX : T < X) :
    ∃ Y, ((st9 W X (.int .i64 4) (.int .i64 (mp : Int)) (.string ⟨#[]⟩) (.int .i64 0) (.int .i64 0) (.string ⟨#[]⟩) (.int .u64 0) (.int .i64 0) (.slice (some ⟨W.heap.size, 0, none⟩) 1 1)).alloc (.cells (t.cells a n c) ty)) = Y ∧ KVar Y X (Tree.node 4 mp [t]) (some ⟨W.heap.size, 0, none⟩) 1 1 ∧ KSl Y (fun b => lo ≤ b ∨ b = W.heap.size) [t] (some ⟨W.heap.size, 0, none⟩) 1 ∧ ZVar Y Z ∧ (∀ v : World, v.heap.size ≤ X → But T v W → But T v Y) ∧ (∀ l0 i e (d b : Int), TpAt W T l0 i e d b → TpAt Y T l0 i e d b) := by
  refine ⟨_, rfl, ?_⟩
  have h1 := hx.k.put (Tree.node 4 mp [t]) (some ⟨W.heap.size, 0, none⟩) 1 1
  have h2 := hk.put9 hX (.int .i64 (Tree.node 4 mp [t]).k) (.int .i64 (Tree.node 4 mp [t]).pos) (.string ⟨(Tree.node 4 mp [t]).col.toArray⟩) (.int .i64 (Tree.node 4 mp [t]).v.k) (.int .i64 (Tree.node 4 mp [t]).v.n) (.string (Tree.node 4 mp [t]).v.s) (.int .u64 (Tree.node 4 mp [t]).v.f) (.int .i64 (Tree.node 4 mp [t]).op) (.slice (some ⟨W.heap.size, 0, none⟩) 1 1)
  have h3 := hz.put9 (b' := X) hXZ (.int .i64 (Tree.node 4 mp [t]).k) (.int .i64 (Tree.node 4 mp [t]).pos) (.string ⟨(Tree.node 4 mp [t]).col.toArray⟩) (.int .i64 (Tree.node 4 mp [t]).v.k) (.int .i64 (Tree.node 4 mp [t]).v.n) (.string (Tree.node 4 mp [t]).v.s) (.int .u64 (Tree.node 4 mp [t]).v.f) (.int .i64 (Tree.node 4 mp [t]).op) (.slice (some ⟨W.heap.size, 0, none⟩) 1 1)
  have h4 : ∀ v : World, v.heap.size ≤ X → But T v W → But T v (st9 W X (.int .i64 (Tree.node 4 mp [t]).k) (.int .i64 (Tree.node 4 mp [t]).pos) (.string ⟨(Tree.node 4 mp [t]).col.toArray⟩) (.int .i64 (Tree.node 4 mp [t]).v.k) (.int .i64 (Tree.node 4 mp [t]).v.n) (.string (Tree.node 4 mp [t]).v.s) (.int .u64 (Tree.node 4 mp [t]).v.f) (.int .i64 (Tree.node 4 mp [t]).op) (.slice (some ⟨W.heap.size, 0, none⟩) 1 1)) := fun v hv h => h.put9 hv _ _ _ _ _ _ _ _ _
  have h5 : ∀ l0 i e (d b : Int), TpAt W T l0 i e d b → TpAt (st9 W X (.int .i64 (Tree.node 4 mp [t]).k) (.int .i64 (Tree.node 4 mp [t]).pos) (.string ⟨(Tree.node 4 mp [t]).col.toArray⟩) (.int .i64 (Tree.node 4 mp [t]).v.k) (.int .i64 (Tree.node 4 mp [t]).v.n) (.string (Tree.node 4 mp [t]).v.s) (.int .u64 (Tree.node 4 mp [t]).v.f) (.int .i64 (Tree.node 4 mp [t]).op) (.slice (some ⟨W.heap.size, 0, none⟩) 1 1)) T l0 i e d b := fun l0 i e d b h => h.put9 hTX _ _ _ _ _ _ _ _ _
  have hsz := st9_size W X (.int .i64 (Tree.node 4 mp [t]).k) (.int .i64 (Tree.node 4 mp [t]).pos) (.string ⟨(Tree.node 4 mp [t]).col.toArray⟩) (.int .i64 (Tree.node 4 mp [t]).v.k) (.int .i64 (Tree.node 4 mp [t]).v.n) (.string (Tree.node 4 mp [t]).v.s) (.int .u64 (Tree.node 4 mp [t]).v.f) (.int .i64 (Tree.node 4 mp [t]).op) (.slice (some ⟨W.heap.size, 0, none⟩) 1 1)
  have hWX := hx.lt
  show KVar ((st9 W X (.int .i64 (Tree.node 4 mp [t]).k) (.int .i64 (Tree.node 4 mp [t]).pos) (.string ⟨(Tree.node 4 mp [t]).col.toArray⟩) (.int .i64 (Tree.node 4 mp [t]).v.k) (.int .i64 (Tree.node 4 mp [t]).v.n) (.string (Tree.node 4 mp [t]).v.s) (.int .u64 (Tree.node 4 mp [t]).v.f) (.int .i64 (Tree.node 4 mp [t]).op) (.slice (some ⟨W.heap.size, 0, none⟩) 1 1)).alloc _) X _ _ 1 1 ∧ KSl ((st9 W X (.int .i64 (Tree.node 4 mp [t]).k) (.int .i64 (Tree.node 4 mp [t]).pos) (.string ⟨(Tree.node 4 mp [t]).col.toArray⟩) (.int .i64 (Tree.node 4 mp [t]).v.k) (.int .i64 (Tree.node 4 mp [t]).v.n) (.string (Tree.node 4 mp [t]).v.s) (.int .u64 (Tree.node 4 mp [t]).v.f) (.int .i64 (Tree.node 4 mp [t]).op) (.slice (some ⟨W.heap.size, 0, none⟩) 1 1)).alloc _) _ _ _ _ ∧ ZVar ((st9 W X (.int .i64 (Tree.node 4 mp [t]).k) (.int .i64 (Tree.node 4 mp [t]).pos) (.string ⟨(Tree.node 4 mp [t]).col.toArray⟩) (.int .i64 (Tree.node 4 mp [t]).v.k) (.int .i64 (Tree.node 4 mp [t]).v.n) (.string (Tree.node 4 mp [t]).v.s) (.int .u64 (Tree.node 4 mp [t]).v.f) (.int .i64 (Tree.node 4 mp [t]).op) (.slice (some ⟨W.heap.size, 0, none⟩) 1 1)).alloc _) Z ∧ (∀ v : World, v.heap.size ≤ X → But T v W → But T v ((st9 W X (.int .i64 (Tree.node 4 mp [t]).k) (.int .i64 (Tree.node 4 mp [t]).pos) (.string ⟨(Tree.node 4 mp [t]).col.toArray⟩) (.int .i64 (Tree.node 4 mp [t]).v.k) (.int .i64 (Tree.node 4 mp [t]).v.n) (.string (Tree.node 4 mp [t]).v.s) (.int .u64 (Tree.node 4 mp [t]).v.f) (.int .i64 (Tree.node 4 mp [t]).op) (.slice (some ⟨W.heap.size, 0, none⟩) 1 1)).alloc _)) ∧ (∀ l0 i e (d b : Int), TpAt W T l0 i e d b → TpAt ((st9 W X (.int .i64 (Tree.node 4 mp [t]).k) (.int .i64 (Tree.node 4 mp [t]).pos) (.string ⟨(Tree.node 4 mp [t]).col.toArray⟩) (.int .i64 (Tree.node 4 mp [t]).v.k) (.int .i64 (Tree.node 4 mp [t]).v.n) (.string (Tree.node 4 mp [t]).v.s) (.int .u64 (Tree.node 4 mp [t]).v.f) (.int .i64 (Tree.node 4 mp [t]).op) (.slice (some ⟨W.heap.size, 0, none⟩) 1 1)).alloc _) T l0 i e d b)
  generalize (st9 W X _ _ _ _ _ _ _ _ _) = Y at *
  have hn := Below.new Y (.cells (t.cells a n c) ty)
  have h6 := KVar.new Y t a n c ty
  rw [hsz] at h6
  exact ⟨h1.below hn h1.lt, .on (.inr rfl) h6.lt rfl (.cons ⟨h6.c0, h6.c1, h6.c2, h6.c3, h6.c4, h6.c5, h6.c6, h6.c7, h6.c8⟩ ((h2.later hn).sub fun b hb => .inl hb) (.nil _ _)), h3.below hn h3.lt, fun v hv h => (h4 v hv h).trans (But.of hn), fun l0 i e d b h => (h5 l0 i e d b h).below hn⟩
set_option maxHeartbeats 16000000 in
set_option maxRecDepth 100000 in
theorem tpiece_atom (w : World) (T : Nat) (l0 : List Tk) (i e d : Nat) (hl0 : l0.length ≤ 1000000) (hmu : Mute l0) (h : TpAt w T l0 i e d (-1)) (h1 : isTok 3 kNot (l0.drop i) = false) (h2 : isTok 4 [] (l0.drop i) = false) :
    Calls Tryz.prog 39 #[.pointer (some ⟨T, 0, none⟩)] w fun en w' => TpAns w w' T e d l0 (pAtom e (l0.drop i)) en := by
  have H := Lib.hid h
  have hT := h.lt
  have Hn1 := Lib.hid h1; have Hn2 := Lib.hid h2; have Hmu := Lib.hid hmu
  have Ho : Hid (∀ W, TpAt W T l0 i e d (-1) → Calls Tryz.prog 62 #[.pointer (some ⟨T, 0, none⟩)] W fun en w' => TpAns W w' T e d l0 (pAtom e (l0.drop i)) en) := Lib.hid fun W h => tatom_any W T l0 i e d hl0 hmu h
  clear h h1 h2 hmu hl0
  generalize pAtom e (l0.drop i) = R at Ho ⊢
  generalize hD : (d : Int) = D at H Ho
  go_enter Tryz.func39, Tryz.ntmps39
  go_upto_region 1 with fail
  have Hb := Lib.hid (Below.new w (.cells zcells 31))
  have Hz := Lib.hid (ZVar.new w 31)
  generalize World.alloc w _ = W at Hb Hz ⊢
  have H1 := Lib.hid (H.out.below Hb.out)
  have HWl : Hid (w.heap.size < W.heap.size) := Lib.hid Hz.out.lt
  have hc : Hid (Calls Tryz.prog 40 #[.pointer (some ⟨T, 0, none⟩), .int .i64 3, .string ⟨#[110, 111, 116]⟩] W fun en w' => en = .returned (.bool false) ∧ Below W.heap.size W w') := Lib.hid (by have := tsees_any W T l0 i e D (-1) (by decide) H1.out 3 kNot; rw [sees_word, Hn1.out] at this; exact this)
  go_wp2_with fail
  refine hc.out.mono ?_
  clear hc
  rintro en w2 ⟨rfl, hb2⟩
  have H2 := Lib.hid (H1.out.below hb2)
  have Hz2 := Lib.hid (Hz.out.below hb2 Hz.out.lt)
  have HB2 : Hid (But T w w2) := Lib.hid ((But.of Hb.out).trans (But.of hb2))
  clear hb2
  have hc : Hid (Calls Tryz.prog 40 #[.pointer (some ⟨T, 0, none⟩), .int .i64 4, .string ⟨#[]⟩] w2 fun en w' => en = .returned (.bool false) ∧ Below w2.heap.size w2 w') := Lib.hid (by have := tsees_any w2 T l0 i e D (-1) (by decide) H2.out 4 []; rw [sees_kind (by decide) (by decide) (Hmu.out.drop _), Hn2.out] at this; exact this)
  go_wp2_with fail
  refine hc.out.mono ?_
  clear hc
  rintro en w3 ⟨rfl, hb3⟩
  have H3 := Lib.hid (H2.out.below hb3)
  have Hz3 := Lib.hid (Hz2.out.below hb3 Hz2.out.lt)
  have HB3 : Hid (But T w w3) := Lib.hid (HB2.out.trans (But.of hb3))
  clear hb3
  have hc := Lib.hid (Ho.out w3 H3.out)
  have HWl3 : Hid (w.heap.size < w3.heap.size) := Lib.hid Hz3.out.lt
  go_wp2_with fail
  refine hc.out.mono ?_
  clear hc
  rintro en w4 ⟨hb4, t, a, n, c, rfl, hk, h4⟩
  have H4 := Lib.hid h4; have Hk4 := Lib.hid hk
  have HB4 : Hid (But T w w4) := Lib.hid (HB3.out.trans hb4)
  obtain ⟨d0, d1, d2', d3, d4, d5, d6, d7, d8, dz, -⟩ := Hz3.out.but hb4 hT
  clear hb4 h4 hk
  simp only [Tree.val]
  go_wp2_with fail
  exact bodyPost_ret (v := t.val a n c) (by simp [results, Tryz.results39, go_sem, d0, d1, d2', d3, d4, d5, d6, d7, d8, Tree.val]) rfl (tpans_put HB4.out Hk4.out HWl3.out hT H4.out)
set_option maxHeartbeats 16000000 in
set_option maxRecDepth 100000 in
theorem tpiece_deep3 (w : World) (T : Nat) (l0 : List Tk) (i e : Nat) (hmu : Mute l0) (h : TpAt w T l0 i e 20 (-1)) (h1 : isTok 3 kNot (l0.drop i) = true) :
    Calls Tryz.prog 39 #[.pointer (some ⟨T, 0, none⟩)] w fun en w' => TpAns w w' T e 20 l0 (.bad (pAt e (l0.drop i))) en := by
  have H := Lib.hid h
  have hT := h.lt
  have Hn1 := Lib.hid h1; have Hmu := Lib.hid hmu
  have Hf : Hid (∀ W, TpAt W T l0 i e 20 (-1) → Calls Tryz.prog 27 #[.pointer (some ⟨T, 0, none⟩)] W fun en w' => en = .returned zval ∧ TpAt w' T l0 i e 20 (pAt e (l0.drop i) : Int) ∧ But T W w') := Lib.hid fun W h => tfail_any W T l0 i e 20 (-1) (by decide) h
  clear h h1 hmu
  generalize pAt e (l0.drop i) = pp at Hf ⊢
  obtain ⟨D, hD⟩ : ∃ D : Int, D = 20 := ⟨_, rfl⟩
  rw [← hD] at H Hf
  go_enter Tryz.func39, Tryz.ntmps39
  go_upto_region 1 with fail
  have Hb := Lib.hid (Below.new w (.cells zcells 31))
  have Hz := Lib.hid (ZVar.new w 31)
  generalize World.alloc w _ = W at Hb Hz ⊢
  have H1 := Lib.hid (H.out.below Hb.out)
  have HWl : Hid (w.heap.size < W.heap.size) := Lib.hid Hz.out.lt
  have hc : Hid (Calls Tryz.prog 40 #[.pointer (some ⟨T, 0, none⟩), .int .i64 3, .string ⟨#[110, 111, 116]⟩] W fun en w' => en = .returned (.bool true) ∧ Below W.heap.size W w') := Lib.hid (by have := tsees_any W T l0 i e D (-1) (by decide) H1.out 3 kNot; rw [sees_word, Hn1.out] at this; exact this)
  go_wp2_with fail
  refine hc.out.mono ?_
  clear hc
  rintro en w2 ⟨rfl, hb2⟩
  have H2 := Lib.hid (H1.out.below hb2)
  have Hz2 := Lib.hid (Hz.out.below hb2 Hz.out.lt)
  have HB2 : Hid (But T w w2) := Lib.hid ((But.of Hb.out).trans (But.of hb2))
  clear hb2
  have t3 := H2.out.c3
  have hD' := hD
  have hc := Lib.hid (Hf.out w2 H2.out)
  subst hD
  go_wp2_with fail
  refine hc.out.mono ?_
  clear hc
  rintro en w4 ⟨rfl, h4, hb4⟩
  have H4 := Lib.hid h4
  have HB4 : Hid (But T w w4) := Lib.hid (HB2.out.trans hb4)
  obtain ⟨d0, d1, d2', d3, d4, d5, d6, d7, d8, dz, -⟩ := Hz2.out.but hb4 hT
  clear hb4 h4 t3
  go_wp2_with fail
  exact bodyPost_ret (v := zval) (by simp [results, Tryz.results39, go_sem, d0, d1, d2', d3, d4, d5, d6, d7, d8]) rfl ⟨HB4.out.put9 (Nat.le_refl _) _ _ _ _ _ _ _ _ _, .mk 0 0 [] 0 zeroVal [], none, 0, 0, rfl, .empty, i, _, H4.out.put9 hT _ _ _ _ _ _ _ _ _⟩
set_option maxHeartbeats 16000000 in
set_option maxRecDepth 100000 in
theorem tpiece_deep4 (w : World) (T : Nat) (l0 : List Tk) (i e : Nat) (hmu : Mute l0) (h : TpAt w T l0 i e 20 (-1)) (h1 : isTok 3 kNot (l0.drop i) = false) (h2 : isTok 4 [] (l0.drop i) = true) :
    Calls Tryz.prog 39 #[.pointer (some ⟨T, 0, none⟩)] w fun en w' => TpAns w w' T e 20 l0 (.bad (pAt e (l0.drop i))) en := by
  have H := Lib.hid h
  have hT := h.lt
  have Hn1 := Lib.hid h1; have Hn2 := Lib.hid h2; have Hmu := Lib.hid hmu
  have Hf : Hid (∀ W, TpAt W T l0 i e 20 (-1) → Calls Tryz.prog 27 #[.pointer (some ⟨T, 0, none⟩)] W fun en w' => en = .returned zval ∧ TpAt w' T l0 i e 20 (pAt e (l0.drop i) : Int) ∧ But T W w') := Lib.hid fun W h => tfail_any W T l0 i e 20 (-1) (by decide) h
  clear h h1 h2 hmu
  generalize pAt e (l0.drop i) = pp at Hf ⊢
  obtain ⟨D, hD⟩ : ∃ D : Int, D = 20 := ⟨_, rfl⟩
  rw [← hD] at H Hf
  go_enter Tryz.func39, Tryz.ntmps39
  go_upto_region 1 with fail
  have Hb := Lib.hid (Below.new w (.cells zcells 31))
  have Hz := Lib.hid (ZVar.new w 31)
  generalize World.alloc w _ = W at Hb Hz ⊢
  have H1 := Lib.hid (H.out.below Hb.out)
  have HWl : Hid (w.heap.size < W.heap.size) := Lib.hid Hz.out.lt
  have hc : Hid (Calls Tryz.prog 40 #[.pointer (some ⟨T, 0, none⟩), .int .i64 3, .string ⟨#[110, 111, 116]⟩] W fun en w' => en = .returned (.bool false) ∧ Below W.heap.size W w') := Lib.hid (by have := tsees_any W T l0 i e D (-1) (by decide) H1.out 3 kNot; rw [sees_word, Hn1.out] at this; exact this)
  go_wp2_with fail
  refine hc.out.mono ?_
  clear hc
  rintro en w2 ⟨rfl, hb2⟩
  have H2 := Lib.hid (H1.out.below hb2)
  have Hz2 := Lib.hid (Hz.out.below hb2 Hz.out.lt)
  have HB2 : Hid (But T w w2) := Lib.hid ((But.of Hb.out).trans (But.of hb2))
  clear hb2
  have hc : Hid (Calls Tryz.prog 40 #[.pointer (some ⟨T, 0, none⟩), .int .i64 4, .string ⟨#[]⟩] w2 fun en w' => en = .returned (.bool true) ∧ Below w2.heap.size w2 w') := Lib.hid (by have := tsees_any w2 T l0 i e D (-1) (by decide) H2.out 4 []; rw [sees_kind (by decide) (by decide) (Hmu.out.drop _), Hn2.out] at this; exact this)
  go_wp2_with fail
  refine hc.out.mono ?_
  clear hc
  rintro en w3 ⟨rfl, hb3⟩
  have H3 := Lib.hid (H2.out.below hb3)
  have Hz3 := Lib.hid (Hz2.out.below hb3 Hz2.out.lt)
  have HB3 : Hid (But T w w3) := Lib.hid (HB2.out.trans (But.of hb3))
  clear hb3
  have t3 := H3.out.c3
  have hD' := hD
  have hc := Lib.hid (Hf.out w3 H3.out)
  subst hD
  go_wp2_with fail
  refine hc.out.mono ?_
  clear hc
  rintro en w4 ⟨rfl, h4, hb4⟩
  have H4 := Lib.hid h4
  have HB4 : Hid (But T w w4) := Lib.hid (HB3.out.trans hb4)
  obtain ⟨d0, d1, d2', d3, d4, d5, d6, d7, d8, dz, -⟩ := Hz3.out.but hb4 hT
  clear hb4 h4 t3
  go_wp2_with fail
  exact bodyPost_ret (v := zval) (by simp [results, Tryz.results39, go_sem, d0, d1, d2', d3, d4, d5, d6, d7, d8]) rfl ⟨HB4.out.put9 (Nat.le_refl _) _ _ _ _ _ _ _ _ _, .mk 0 0 [] 0 zeroVal [], none, 0, 0, rfl, .empty, i, _, H4.out.put9 hT _ _ _ _ _ _ _ _ _⟩
set_option maxHeartbeats 16000000 in
set_option maxRecDepth 100000 in
theorem tpiece_not (w : World) (T : Nat) (l0 : List Tk) (i e d : Nat) (hl0 : l0.length ≤ 1000000) (hd : d < 20) (h : TpAt w T l0 i e d (-1)) (m : Tk) (L : List Tk) (hdr : l0.drop i = m :: L) (h1 : isTok 3 kNot (l0.drop i) = true) (r : PRes)
    (hC : ∀ W, TpAt W T l0 (i + 1) e ((d + 1 : Nat) : Int) (-1) → Calls Tryz.prog 39 #[.pointer (some ⟨T, 0, none⟩)] W fun en w' => TpAns W w' T e (d + 1) l0 r en) :
    Calls Tryz.prog 39 #[.pointer (some ⟨T, 0, none⟩)] w fun en w' => TpAns w w' T e d l0 (r.under m.pos) en := by
  have H := Lib.hid h
  have hT := h.lt
  have Hn1 := Lib.hid h1; have Hdr := Lib.hid hdr; have HC := Lib.hid hC; have Hl0 := Lib.hid hl0
  generalize hRR : r.under m.pos = R
  have HRR := Lib.hid hRR
  clear h h1 hdr hC hl0 hRR
  generalize hD : (d : Int) = D at H
  go_enter Tryz.func39, Tryz.ntmps39
  go_upto_region 1 with fail
  have Hb := Lib.hid (Below.new w (.cells zcells 31))
  have Hz := Lib.hid (ZVar.new w 31)
  generalize World.alloc w _ = W at Hb Hz ⊢
  have H1 := Lib.hid (H.out.below Hb.out)
  have HWl : Hid (w.heap.size < W.heap.size) := Lib.hid Hz.out.lt
  have hc : Hid (Calls Tryz.prog 40 #[.pointer (some ⟨T, 0, none⟩), .int .i64 3, .string ⟨#[110, 111, 116]⟩] W fun en w' => en = .returned (.bool true) ∧ Below W.heap.size W w') := Lib.hid (by have := tsees_any W T l0 i e D (-1) (by decide) H1.out 3 kNot; rw [sees_word, Hn1.out] at this; exact this)
  go_wp2_with fail
  refine hc.out.mono ?_
  clear hc
  rintro en w2 ⟨rfl, hb2⟩
  have H2 := Lib.hid (H1.out.below hb2)
  have Hz2 := Lib.hid (Hz.out.below hb2 Hz.out.lt)
  have HB2 : Hid (But T w w2) := Lib.hid ((But.of Hb.out).trans (But.of hb2))
  clear hb2
  have t3 := H2.out.c3
  have hD0 : (D == 20) = false := beq_eq_false_iff_ne.2 (by omega)
  have hD1 : ¬ D = 20 := by omega
  have hc := Lib.hid (tat_any w2 T l0 i e D (-1) H2.out)
  have hget : Hid (l0[i]? = some m ∧ i < l0.length ∧ l0.drop (i + 1) = L) := Lib.hid (by
    have hget : l0[i]? = some m := by have := congrArg (fun x : List Tk => x[0]?) Hdr.out; simpa using this
    refine ⟨hget, ?_, by have := drop_tk hget; rw [Hdr.out] at this; injection this with _ h; exact h.symm⟩
    rcases Nat.lt_or_ge i l0.length with h1 | h1
    · exact h1
    · rw [List.getElem?_eq_none h1] at hget; cases hget)
  have hpa : pAt e (l0.drop i) = m.pos := by rw [Hdr.out]; rfl
  rw [hpa] at hc
  clear hpa
  generalize hmp : m.pos = mp at hc ⊢
  have Hmp := Lib.hid hmp
  clear hmp
  have hi9 : (i : Int) ≤ 1000000 := by have := Hl0.out; have := hget.out.2.1; omega
  have hi0 : (0 : Int) ≤ (i : Int) := by omega
  go_wp2_with fail
  refine hc.out.mono ?_
  clear hc t3 hD0 hD1
  rintro en w4 ⟨rfl, hb4⟩
  have H4 := Lib.hid (H2.out.below hb4)
  have Hz4 := Lib.hid (Hz2.out.below hb4 Hz2.out.lt)
  have HB4 : Hid (But T w w4) := Lib.hid (HB2.out.trans (But.of hb4))
  clear hb4
  have t1 := H4.out.c1
  have z1 := H4.out.z 1
  go_upto_region 8 with fail
  generalize hv : World.setCell w4 _ _ = W5
  have hbx : But T w4 W5 := by rw [← hv]; exact (But.refl T w4).set 1 _
  have H5 : Hid (TpAt W5 T l0 (i + 1) e D (-1)) := Lib.hid (by rw [← hv]; exact H4.out.setI (i + 1) ((i : Int) + 1) (by omega))
  have Hz5 := Lib.hid (Hz4.out.but hbx hT)
  have HB5 : Hid (But T w W5) := Lib.hid (HB4.out.trans hbx)
  clear hv hbx t1 z1 hi9 hi0
  have t3 := H5.out.c3
  have z3 := H5.out.z 3
  go_upto_region 9 with fail
  generalize hv : World.setCell W5 _ _ = W6
  have hbx : But T W5 W6 := by rw [← hv]; exact (But.refl T W5).set 3 _
  have H6 : Hid (TpAt W6 T l0 (i + 1) e ((d + 1 : Nat) : Int) (-1)) := Lib.hid (by rw [← hv, show (((d + 1 : Nat)) : Int) = D + 1 by omega]; exact H5.out.setD (D + 1))
  have Hz6 := Lib.hid (Hz5.out.but hbx hT)
  have HB6 : Hid (But T w W6) := Lib.hid (HB5.out.trans hbx)
  clear hv hbx t3 z3
  go_upto_region 10 with fail
  have hbn := Below.new W6 (.cells zcells 31)
  have H7 := Lib.hid (H6.out.below hbn)
  have Hz7 := Lib.hid (Hz6.out.below hbn Hz6.out.lt)
  have HB7 : Hid (But T w _) := Lib.hid (HB6.out.trans (But.of hbn))
  have HX7 := Lib.hid (ZVar.new W6 31)
  have HXl : Hid (W6.heap.size < (World.alloc W6 (.cells zcells 31)).heap.size) := Lib.hid HX7.out.lt
  have HZX : Hid (w.heap.size < W6.heap.size) := Lib.hid Hz6.out.lt
  clear hbn
  generalize World.alloc W6 _ = W7 at H7 Hz7 HB7 HX7 HXl ⊢
  have hTX : T < W6.heap.size := by have := HZX.out; omega
  generalize W6.heap.size = X at HX7 HXl HZX hTX ⊢
  have hc := Lib.hid (HC.out W7 H7.out)
  go_wp2_with fail
  refine hc.out.mono ?_
  clear hc
  rintro en w8 ⟨hb8, t, a, n, c, rfl, hk8, h8⟩
  have Hk8 := Lib.hid hk8
  have Hz8 := Lib.hid (Hz7.out.but hb8 hT)
  have HX8 := Lib.hid (HX7.out.but hb8 hTX)
  have HB8 : Hid (But T w w8) := Lib.hid (HB7.out.trans hb8)
  have HW8 : Hid (W7.heap.size ≤ w8.heap.size) := Lib.hid hb8.size
  clear hk8 hb8
  simp only [Tree.val]
  cases r with
  | ok u q =>
    obtain ⟨rfl, j, hj, h8⟩ := h8
    have Hj := Lib.hid hj; have H8 := Lib.hid h8
    have Hr : Hid (R = .ok (.node 4 mp [t]) q) := Lib.hid (by rw [← HRR.out, Hmp.out]; rfl)
    clear h8 hj
    obtain ⟨x0, x1, x2, x3, x4, x5, x6, x7, x8, xz, hXl⟩ := HX8.out
    have hXn : X ≠ w8.heap.size := Nat.ne_of_lt hXl
    go_upto_region 16 with fail
    clear x0 x1 x2 x3 x4 x5 x6 x7 x8 xz hXl hXn
    obtain ⟨Y, hY, kY, sY, zY, bY, tY⟩ := not_put (mp := mp) (c := c) (ty := 31) HX8.out Hz8.out (by have := HZX.out; omega) Hk8.out HXl.out hTX
    rw [hY]
    have KY := Lib.hid kY; have SY := Lib.hid sY; have ZY := Lib.hid zY
    have HBY : Hid (But T w Y) := Lib.hid (bY w (Nat.le_of_lt HZX.out) HB8.out)
    have HY := Lib.hid (tY _ _ _ _ _ H8.out)
    clear hY kY sY zY bY tY
    have t3 := HY.out.c3
    have z3 := HY.out.z 3
    obtain ⟨E, hE⟩ : ∃ E : Int, E = ((d + 1 : Nat) : Int) := ⟨_, rfl⟩
    rw [← hE] at t3
    have hE1 : 1 ≤ E := by omega
    have hE2 : E ≤ 20 := by omega
    go_upto_region 17 with fail
    generalize hv : World.setCell Y _ _ = V
    have hbx : But T Y V := by rw [← hv]; exact (But.refl T Y).set 3 _
    have HV : Hid (TpAt V T l0 j e d (-1)) := Lib.hid (by rw [← hv, hD]; exact HY.out.setD D)
    have KV := Lib.hid (KY.out.but hbx hTX)
    have SV := Lib.hid (SY.out.blk hbx (by have := HXl.out; have := HW8.out; omega))
    have ZV := Lib.hid (ZY.out.but hbx hT)
    have HBV : Hid (But T w V) := Lib.hid (HBY.out.trans hbx)
    clear hv hbx t3 z3 hE1 hE2
    obtain ⟨k0, k1, k2, k3, k4, k5, k6, k7, k8, -, -⟩ := KV.out
    obtain ⟨d0, d1, d2', d3, d4, d5, d6, d7, d8, dz, -⟩ := ZV.out
    dsimp only [Tree.k, Tree.pos, Tree.col, Tree.v, Tree.op, zeroVal] at k0 k1 k2 k3 k4 k5 k6 k7
    go_wp2_with fail
    exact bodyPost_ret (v := (Tree.node 4 mp [t]).val (some ⟨w8.heap.size, 0, none⟩) 1 1) (by simp [results, Tryz.results39, go_sem, d0, d1, d2', d3, d4, d5, d6, d7, d8, Tree.val, Tree.k, Tree.pos, Tree.col, Tree.v, Tree.op, zeroVal]) rfl (by rw [Hr.out]; exact tpans_put HBV.out (SV.out.sub fun b hb => by have := HXl.out; have := HW8.out; have := HZX.out; rcases hb with hb | hb <;> (show W7.heap.size ≤ b; omega)) (by have := HXl.out; have := HZX.out; omega : w.heap.size < W7.heap.size) hT ⟨rfl, j, Hj.out, HV.out⟩)
  | bad pp =>
    obtain ⟨j, D', h8⟩ := h8
    have H8 := Lib.hid h8
    have Hr : Hid (R = .bad pp) := Lib.hid HRR.out.symm
    clear h8
    obtain ⟨x0, x1, x2, x3, x4, x5, x6, x7, x8, xz, hXl⟩ := HX8.out
    have hXn : X ≠ w8.heap.size := Nat.ne_of_lt hXl
    go_upto_region 16 with fail
    clear x0 x1 x2 x3 x4 x5 x6 x7 x8 xz hXl hXn
    obtain ⟨Y, hY, kY, sY, zY, bY, tY⟩ := not_put (mp := mp) (c := c) (ty := 31) HX8.out Hz8.out (by have := HZX.out; omega) Hk8.out HXl.out hTX
    rw [hY]
    have KY := Lib.hid kY; have SY := Lib.hid sY; have ZY := Lib.hid zY
    have HBY : Hid (But T w Y) := Lib.hid (bY w (Nat.le_of_lt HZX.out) HB8.out)
    have HY := Lib.hid (tY _ _ _ _ _ H8.out)
    clear hY kY sY zY bY tY
    have t3 := HY.out.c3
    have z3 := HY.out.z 3
    go_upto_region 17 with fail
    generalize hv : World.setCell Y _ _ = V
    have hbx : But T Y V := by rw [← hv]; exact (But.refl T Y).set 3 _
    have HV : Hid (∃ D2 : Int, TpAt V T l0 j e D2 (pp : Int)) := Lib.hid ⟨_, by rw [← hv]; exact HY.out.setD _⟩
    have KV := Lib.hid (KY.out.but hbx hTX)
    have SV := Lib.hid (SY.out.blk hbx (by have := HXl.out; have := HW8.out; omega))
    have ZV := Lib.hid (ZY.out.but hbx hT)
    have HBV : Hid (But T w V) := Lib.hid (HBY.out.trans hbx)
    clear hv hbx t3 z3
    obtain ⟨k0, k1, k2, k3, k4, k5, k6, k7, k8, -, -⟩ := KV.out
    obtain ⟨d0, d1, d2', d3, d4, d5, d6, d7, d8, dz, -⟩ := ZV.out
    dsimp only [Tree.k, Tree.pos, Tree.col, Tree.v, Tree.op, zeroVal] at k0 k1 k2 k3 k4 k5 k6 k7
    go_wp2_with fail
    exact bodyPost_ret (v := (Tree.node 4 mp [t]).val (some ⟨w8.heap.size, 0, none⟩) 1 1) (by simp [results, Tryz.results39, go_sem, d0, d1, d2', d3, d4, d5, d6, d7, d8, Tree.val, Tree.k, Tree.pos, Tree.col, Tree.v, Tree.op, zeroVal]) rfl (by rw [Hr.out]; exact tpans_put HBV.out (SV.out.sub fun b hb => by have := HXl.out; have := HW8.out; have := HZX.out; rcases hb with hb | hb <;> (show W7.heap.size ≤ b; omega)) (by have := HXl.out; have := HZX.out; omega : w.heap.size < W7.heap.size) hT ⟨j, HV.out⟩)
set_option maxHeartbeats 16000000 in
set_option maxRecDepth 100000 in
theorem tpiece_open (w : World) (T : Nat) (l0 : List Tk) (i e d : Nat) (hl0 : l0.length ≤ 1000000) (hmu : Mute l0) (hd : d < 20) (h : TpAt w T l0 i e d (-1)) (m : Tk) (L : List Tk) (hdr : l0.drop i = m :: L) (h1 : isTok 3 kNot (l0.drop i) = false) (h2 : isTok 4 [] (l0.drop i) = true) (r : PRes)
    (hC : ∀ W, TpAt W T l0 (i + 1) e ((d + 1 : Nat) : Int) (-1) → Calls Tryz.prog 26 #[.pointer (some ⟨T, 0, none⟩), .int .i64 0] W fun en w' => TpAns W w' T e (d + 1) l0 r en) :
    Calls Tryz.prog 39 #[.pointer (some ⟨T, 0, none⟩)] w fun en w' => TpAns w w' T e d l0 (r.close e) en := by
  have H := Lib.hid h
  have hT := h.lt
  have Hn1 := Lib.hid h1; have Hn2 := Lib.hid h2; have Hmu := Lib.hid hmu; have Hdr := Lib.hid hdr; have HC := Lib.hid hC; have Hl0 := Lib.hid hl0
  generalize hRR : r.close e = R
  have HRR := Lib.hid hRR
  clear h h1 h2 hmu hdr hC hl0 hRR
  generalize hD : (d : Int) = D at H
  go_enter Tryz.func39, Tryz.ntmps39
  go_upto_region 1 with fail
  have Hb := Lib.hid (Below.new w (.cells zcells 31))
  have Hz := Lib.hid (ZVar.new w 31)
  generalize World.alloc w _ = W at Hb Hz ⊢
  have H1 := Lib.hid (H.out.below Hb.out)
  have HWl : Hid (w.heap.size < W.heap.size) := Lib.hid Hz.out.lt
  have hc : Hid (Calls Tryz.prog 40 #[.pointer (some ⟨T, 0, none⟩), .int .i64 3, .string ⟨#[110, 111, 116]⟩] W fun en w' => en = .returned (.bool false) ∧ Below W.heap.size W w') := Lib.hid (by have := tsees_any W T l0 i e D (-1) (by decide) H1.out 3 kNot; rw [sees_word, Hn1.out] at this; exact this)
  go_wp2_with fail
  refine hc.out.mono ?_
  clear hc
  rintro en w2 ⟨rfl, hb2⟩
  have H2 := Lib.hid (H1.out.below hb2)
  have Hz2 := Lib.hid (Hz.out.below hb2 Hz.out.lt)
  have HB2 : Hid (But T w w2) := Lib.hid ((But.of Hb.out).trans (But.of hb2))
  clear hb2
  have hc : Hid (Calls Tryz.prog 40 #[.pointer (some ⟨T, 0, none⟩), .int .i64 4, .string ⟨#[]⟩] w2 fun en w' => en = .returned (.bool true) ∧ Below w2.heap.size w2 w') := Lib.hid (by have := tsees_any w2 T l0 i e D (-1) (by decide) H2.out 4 []; rw [sees_kind (by decide) (by decide) (Hmu.out.drop _), Hn2.out] at this; exact this)
  go_wp2_with fail
  refine hc.out.mono ?_
  clear hc
  rintro en w3 ⟨rfl, hb3⟩
  have H3 := Lib.hid (H2.out.below hb3)
  have Hz3 := Lib.hid (Hz2.out.below hb3 Hz2.out.lt)
  have HB3 : Hid (But T w w3) := Lib.hid (HB2.out.trans (But.of hb3))
  clear hb3
  have t3 := H3.out.c3
  have hD0 : (D == 20) = false := beq_eq_false_iff_ne.2 (by omega)
  have hD1 : ¬ D = 20 := by omega
  have hc := Lib.hid (tat_any w3 T l0 i e D (-1) H3.out)
  have hget : Hid (l0[i]? = some m ∧ i < l0.length ∧ l0.drop (i + 1) = L) := Lib.hid (by
    have hget : l0[i]? = some m := by have := congrArg (fun x : List Tk => x[0]?) Hdr.out; simpa using this
    refine ⟨hget, ?_, by have := drop_tk hget; rw [Hdr.out] at this; injection this with _ h; exact h.symm⟩
    rcases Nat.lt_or_ge i l0.length with h1 | h1
    · exact h1
    · rw [List.getElem?_eq_none h1] at hget; cases hget)
  have hpa : pAt e (l0.drop i) = m.pos := by rw [Hdr.out]; rfl
  rw [hpa] at hc
  clear hpa
  generalize hmp : m.pos = mp at hc ⊢
  have Hmp := Lib.hid hmp
  clear hmp
  have hi9 : (i : Int) ≤ 1000000 := by have := Hl0.out; have := hget.out.2.1; omega
  have hi0 : (0 : Int) ≤ (i : Int) := by omega
  go_wp2_with fail
  refine hc.out.mono ?_
  clear hc t3 hD0 hD1
  rintro en w4 ⟨rfl, hb4⟩
  have H4 := Lib.hid (H3.out.below hb4)
  have Hz4 := Lib.hid (Hz3.out.below hb4 Hz3.out.lt)
  have HB4 : Hid (But T w w4) := Lib.hid (HB3.out.trans (But.of hb4))
  clear hb4
  have t1 := H4.out.c1
  have z1 := H4.out.z 1
  go_upto_region 8 with fail
  generalize hv : World.setCell w4 _ _ = W5
  have hbx : But T w4 W5 := by rw [← hv]; exact (But.refl T w4).set 1 _
  have H5 : Hid (TpAt W5 T l0 (i + 1) e D (-1)) := Lib.hid (by rw [← hv]; exact H4.out.setI (i + 1) ((i : Int) + 1) (by omega))
  have Hz5 := Lib.hid (Hz4.out.but hbx hT)
  have HB5 : Hid (But T w W5) := Lib.hid (HB4.out.trans hbx)
  clear hv hbx t1 z1 hi9 hi0
  have t3 := H5.out.c3
  have z3 := H5.out.z 3
  go_upto_region 9 with fail
  generalize hv : World.setCell W5 _ _ = W6
  have hbx : But T W5 W6 := by rw [← hv]; exact (But.refl T W5).set 3 _
  have H6 : Hid (TpAt W6 T l0 (i + 1) e ((d + 1 : Nat) : Int) (-1)) := Lib.hid (by rw [← hv, show (((d + 1 : Nat)) : Int) = D + 1 by omega]; exact H5.out.setD (D + 1))
  have Hz6 := Lib.hid (Hz5.out.but hbx hT)
  have HB6 : Hid (But T w W6) := Lib.hid (HB5.out.trans hbx)
  clear hv hbx t3 z3
  go_upto_region 10 with fail
  have hbn := Below.new W6 (.cells zcells 31)
  have H7 := Lib.hid (H6.out.below hbn)
  have Hz7 := Lib.hid (Hz6.out.below hbn Hz6.out.lt)
  have HB7 : Hid (But T w _) := Lib.hid (HB6.out.trans (But.of hbn))
  have HX7 := Lib.hid (ZVar.new W6 31)
  have HXl : Hid (W6.heap.size < (World.alloc W6 (.cells zcells 31)).heap.size) := Lib.hid HX7.out.lt
  have HZX : Hid (w.heap.size < W6.heap.size) := Lib.hid Hz6.out.lt
  clear hbn
  generalize World.alloc W6 _ = W7 at H7 Hz7 HB7 HX7 HXl ⊢
  have hTX : T < W6.heap.size := by have := HZX.out; omega
  generalize W6.heap.size = X at HX7 HXl HZX hTX ⊢
  have hc := Lib.hid (HC.out W7 H7.out)
  go_wp2_with fail
  refine hc.out.mono ?_
  clear hc
  rintro en w8 ⟨hb8, t, a, n, c, rfl, hk8, h8⟩
  have Hk8 := Lib.hid hk8
  have Hz8 := Lib.hid (Hz7.out.but hb8 hT)
  have HX8 := Lib.hid (HX7.out.but hb8 hTX)
  have HB8 : Hid (But T w w8) := Lib.hid (HB7.out.trans hb8)
  have HW8 : Hid (W7.heap.size ≤ w8.heap.size) := Lib.hid hb8.size
  clear hk8 hb8
  simp only [Tree.val]
  have hXn : ∀ o, w8.frozen? ⟨X, o, none⟩ = false := HX8.out.z
  obtain ⟨x0, x1, x2, x3, x4, x5, x6, x7, x8, xz, -⟩ := HX8.out
  cases r with
  | bad pp =>
    obtain ⟨j, D', h8⟩ := h8
    have H8 := Lib.hid h8
    have Hr : Hid (R = .bad pp) := Lib.hid HRR.out.symm
    clear h8
    go_upto_region 13 with fail
    generalize hv : World.setCell _ ⟨X, 8, none⟩ _ = V9
    have HK9 : Hid (KVar V9 X t a n c) := Lib.hid (by rw [← hv]; exact HX8.out.k.put t a n c)
    have HS9 : Hid (KSl V9 W7.heap.size t.kids a n) := Lib.hid (by rw [← hv]; exact Hk8.out.put9 HXl.out _ _ _ _ _ _ _ _ _)
    have Hz9 : Hid (ZVar V9 w.heap.size) := Lib.hid (by rw [← hv]; exact Hz8.out.put9 (by have := HZX.out; omega) _ _ _ _ _ _ _ _ _)
    have HB9 : Hid (But T w V9) := Lib.hid (by rw [← hv]; exact HB8.out.put9 (Nat.le_of_lt HZX.out) _ _ _ _ _ _ _ _ _)
    have H9 : Hid (TpAt V9 T l0 j e D' (pp : Int)) := Lib.hid (by rw [← hv]; exact H8.out.put9 hTX _ _ _ _ _ _ _ _ _)
    clear hv x0 x1 x2 x3 x4 x5 x6 x7 x8 xz hXn
    have hc : Hid (Calls Tryz.prog 40 #[.pointer (some ⟨T, 0, none⟩), .int .i64 5, .string ⟨#[]⟩] V9 fun en w' => en = .returned (.bool false) ∧ Below V9.heap.size V9 w') := Lib.hid (tsees_bad V9 T l0 j e D' pp (Int.natCast_nonneg pp) H9.out 5 [])
    go_wp2_with fail
    refine hc.out.mono ?_
    clear hc
    rintro en w10 ⟨rfl, hb10⟩
    have H10 := Lib.hid (H9.out.below hb10)
    have Hz10 := Lib.hid (Hz9.out.below hb10 Hz9.out.lt)
    have HK10 := Lib.hid (HK9.out.below hb10 HK9.out.lt)
    have HS10 := Lib.hid (HS9.out.later hb10)
    have HB10 : Hid (But T w w10) := Lib.hid (HB9.out.trans (But.of hb10))
    clear hb10
    have hf := Lib.hid (tfail_bad w10 T l0 j e D' pp (Int.natCast_nonneg pp) H10.out)
    go_wp2_with fail
    refine hf.out.mono ?_
    clear hf
    rintro en w11 ⟨rfl, h11, hb11⟩
    have H11 := Lib.hid h11
    have HB11 : Hid (But T w w11) := Lib.hid (HB10.out.trans hb11)
    obtain ⟨d0, d1, d2', d3, d4, d5, d6, d7, d8, dz, -⟩ := Hz10.out.but hb11 hT
    clear h11 hb11
    go_wp2_with fail
    exact bodyPost_ret (v := zval) (by simp [results, Tryz.results39, go_sem, d0, d1, d2', d3, d4, d5, d6, d7, d8]) rfl (by rw [Hr.out]; exact ⟨HB11.out.put9 (Nat.le_refl _) _ _ _ _ _ _ _ _ _, .mk 0 0 [] 0 zeroVal [], none, 0, 0, rfl, .empty, _, _, H11.out.put9 hT _ _ _ _ _ _ _ _ _⟩)
  | ok u q =>
    obtain ⟨rfl, j, hj, h8⟩ := h8
    have Hj := Lib.hid hj; have H8 := Lib.hid h8
    clear h8 hj
    go_upto_region 13 with fail
    generalize hv : World.setCell _ ⟨X, 8, none⟩ _ = V9
    have HK9 : Hid (KVar V9 X t a n c) := Lib.hid (by rw [← hv]; exact HX8.out.k.put t a n c)
    have HS9 : Hid (KSl V9 W7.heap.size t.kids a n) := Lib.hid (by rw [← hv]; exact Hk8.out.put9 HXl.out _ _ _ _ _ _ _ _ _)
    have Hz9 : Hid (ZVar V9 w.heap.size) := Lib.hid (by rw [← hv]; exact Hz8.out.put9 (by have := HZX.out; omega) _ _ _ _ _ _ _ _ _)
    have HB9 : Hid (But T w V9) := Lib.hid (by rw [← hv]; exact HB8.out.put9 (Nat.le_of_lt HZX.out) _ _ _ _ _ _ _ _ _)
    have H9 : Hid (TpAt V9 T l0 j e ((d + 1 : Nat) : Int) (-1)) := Lib.hid (by rw [← hv]; exact H8.out.put9 hTX _ _ _ _ _ _ _ _ _)
    clear hv x0 x1 x2 x3 x4 x5 x6 x7 x8 xz hXn
    have hc : Hid (∀ B, isTok 5 [] q = B → Calls Tryz.prog 40 #[.pointer (some ⟨T, 0, none⟩), .int .i64 5, .string ⟨#[]⟩] V9 fun en w' => en = .returned (.bool B) ∧ Below V9.heap.size V9 w') := Lib.hid (fun B hB => by have := tsees_any V9 T l0 j e _ (-1) (by decide) H9.out 5 []; rw [Hj.out, sees_kind (by decide) (by decide) (by rw [← Hj.out]; exact Hmu.out.drop _), hB] at this; exact this)
    cases h5 : isTok 5 [] q with
    | false =>
      have hc' := Lib.hid (hc.out false h5)
      have Hr : Hid (R = .bad (pAt e q)) := Lib.hid (by rw [← HRR.out]; simp only [PRes.close, h5, Bool.false_eq_true, if_false])
      clear hc h5
      go_wp2_with fail
      refine hc'.out.mono ?_
      clear hc'
      rintro en w10 ⟨rfl, hb10⟩
      have H10 := Lib.hid (H9.out.below hb10)
      have Hz10 := Lib.hid (Hz9.out.below hb10 Hz9.out.lt)
      have HK10 := Lib.hid (HK9.out.below hb10 HK9.out.lt)
      have HS10 := Lib.hid (HS9.out.later hb10)
      have HB10 : Hid (But T w w10) := Lib.hid (HB9.out.trans (But.of hb10))
      clear hb10
      have hf : Hid (Calls Tryz.prog 27 #[.pointer (some ⟨T, 0, none⟩)] w10 fun en w' => en = .returned zval ∧ TpAt w' T l0 j e ((d + 1 : Nat) : Int) (pAt e q : Int) ∧ But T w10 w') := Lib.hid (by have := tfail_any w10 T l0 j e _ (-1) (by decide) H10.out; rw [Hj.out] at this; exact this)
      go_wp2_with fail
      refine hf.out.mono ?_
      clear hf
      rintro en w11 ⟨rfl, h11, hb11⟩
      have H11 := Lib.hid h11
      have HB11 : Hid (But T w w11) := Lib.hid (HB10.out.trans hb11)
      obtain ⟨d0, d1, d2', d3, d4, d5, d6, d7, d8, dz, -⟩ := Hz10.out.but hb11 hT
      clear h11 hb11
      go_wp2_with fail
      exact bodyPost_ret (v := zval) (by simp [results, Tryz.results39, go_sem, d0, d1, d2', d3, d4, d5, d6, d7, d8]) rfl (by rw [Hr.out]; exact ⟨HB11.out.put9 (Nat.le_refl _) _ _ _ _ _ _ _ _ _, .mk 0 0 [] 0 zeroVal [], none, 0, 0, rfl, .empty, _, _, H11.out.put9 hT _ _ _ _ _ _ _ _ _⟩)
    | true =>
      have hc' := Lib.hid (hc.out true h5)
      obtain ⟨m5, L5, rfl⟩ := tok_cons h5
      have Hr : Hid (R = .ok t L5) := Lib.hid (by rw [← HRR.out]; simp only [PRes.close, h5, if_true, List.tail_cons])
      clear hc h5
      go_wp2_with fail
      refine hc'.out.mono ?_
      clear hc'
      rintro en w10 ⟨rfl, hb10⟩
      have H10 := Lib.hid (H9.out.below hb10)
      have Hz10 := Lib.hid (Hz9.out.below hb10 Hz9.out.lt)
      have HK10 := Lib.hid (HK9.out.below hb10 HK9.out.lt)
      have HS10 := Lib.hid (HS9.out.later hb10)
      have HB10 : Hid (But T w w10) := Lib.hid (HB9.out.trans (But.of hb10))
      clear hb10
      have hget5 : Hid (j < l0.length ∧ l0.drop (j + 1) = L5) := Lib.hid (by
        have hget : l0[j]? = some m5 := by have := congrArg (fun x : List Tk => x[0]?) Hj.out; simpa using this
        refine ⟨?_, by have := drop_tk hget; rw [Hj.out] at this; injection this with _ h; exact h.symm⟩
        rcases Nat.lt_or_ge j l0.length with h1 | h1
        · exact h1
        · rw [List.getElem?_eq_none h1] at hget; cases hget)
      have hi9 : (j : Int) ≤ 1000000 := by have := Hl0.out; have := hget5.out.1; omega
      have hi0 : (0 : Int) ≤ (j : Int) := by omega
      have t1 := H10.out.c1
      have z1 := H10.out.z 1
      go_upto_region 16 with fail
      generalize hv : World.setCell w10 _ _ = W11
      have hbx : But T w10 W11 := by rw [← hv]; exact (But.refl T w10).set 1 _
      have H11 : Hid (TpAt W11 T l0 (j + 1) e ((d + 1 : Nat) : Int) (-1)) := Lib.hid (by rw [← hv]; exact H10.out.setI (j + 1) ((j : Int) + 1) (by omega))
      have Hz11 := Lib.hid (Hz10.out.but hbx hT)
      have HK11 := Lib.hid (HK10.out.but hbx hTX)
      have HS11 := Lib.hid (HS10.out.but hbx (by have := HXl.out; omega))
      have HB11 : Hid (But T w W11) := Lib.hid (HB10.out.trans hbx)
      clear hv hbx t1 z1 hi9 hi0
      have t3 := H11.out.c3
      have z3 := H11.out.z 3
      obtain ⟨E, hE⟩ : ∃ E : Int, E = ((d + 1 : Nat) : Int) := ⟨_, rfl⟩
      rw [← hE] at t3
      have hE1 : 1 ≤ E := by omega
      have hE2 : E ≤ 20 := by omega
      go_upto_region 17 with fail
      generalize hv : World.setCell W11 _ _ = V
      have hbx : But T W11 V := by rw [← hv]; exact (But.refl T W11).set 3 _
      have HV : Hid (TpAt V T l0 (j + 1) e d (-1)) := Lib.hid (by rw [← hv, hD]; exact H11.out.setD D)
      have KV := Lib.hid (HK11.out.but hbx hTX)
      have SV := Lib.hid (HS11.out.but hbx (by have := HXl.out; omega))
      have ZV := Lib.hid (Hz11.out.but hbx hT)
      have HBV : Hid (But T w V) := Lib.hid (HB11.out.trans hbx)
      clear hv hbx t3 z3 hE1 hE2
      obtain ⟨k0, k1, k2, k3, k4, k5, k6, k7, k8, -, -⟩ := KV.out
      obtain ⟨d0, d1, d2', d3, d4, d5, d6, d7, d8, dz, -⟩ := ZV.out
      go_wp2_with fail
      exact bodyPost_ret (v := t.val a n c) (by simp [results, Tryz.results39, go_sem, d0, d1, d2', d3, d4, d5, d6, d7, d8, Tree.val]) rfl (by rw [Hr.out]; exact tpans_put HBV.out SV.out (by have := HXl.out; have := HZX.out; omega : w.heap.size < W7.heap.size) hT ⟨rfl, j + 1, hget5.out.2, HV.out⟩)
theorem tpiece_step {N e d T : Nat} {l0 : List Tk} (hl0 : l0.length ≤ 1000000) (hmu : Mute l0) (hd : d ≤ 20) (ih : d < 20 → TPiece N e (d + 1) T l0 (pPiece e N (d + 1))) : TPiece (N + 1) e d T l0 (pPiece e (N + 1) d) := by
  intro w i h hN
  cases h1 : isTok 3 kNot (l0.drop i) with
  | true =>
    rcases Nat.lt_or_ge d 20 with h20 | h20
    · obtain ⟨m, L, hL⟩ := tok_cons h1
      have hLd : l0.drop (i + 1) = L := by have := congrArg List.tail hL; rwa [List.tail_drop, List.tail_cons] at this
      have := tpiece_not w T l0 i e d hl0 h20 h m L hL h1 (pPiece e N (d + 1) L) (fun W hW => by have := ih h20 W (i + 1) hW (by rw [hLd]; rw [hL, List.length_cons] at hN; omega); rw [hLd] at this; exact this)
      rw [pPiece_succ, h1, if_pos rfl, if_neg (by omega), hL, List.tail_cons]
      cases hq : pPiece e N (d + 1) L with
      | bad p => rw [hq] at this; exact this
      | ok t r => rw [hq] at this; exact this
    · obtain rfl : d = 20 := by omega
      rw [piece_deep (.inl h1) (Nat.le_refl _)]
      exact tpiece_deep3 w T l0 i e hmu h h1
  | false =>
    cases h2 : isTok 4 [] (l0.drop i) with
    | true =>
      rcases Nat.lt_or_ge d 20 with h20 | h20
      · obtain ⟨m, L, hL⟩ := tok_cons h2
        have hLd : l0.drop (i + 1) = L := by have := congrArg List.tail hL; rwa [List.tail_drop, List.tail_cons] at this
        have hlev : TLevel 0 N e (d + 1) T l0 (pTest e N (d + 1)) := tlevel0_any (fun l t r h => row_len (pPiece_len e N (d + 1)) l t r h) hl0 (tlevel1_any (pPiece_len e N (d + 1)) hl0 (tlevel2_any (ih h20)))
        have := tpiece_open w T l0 i e d hl0 hmu h20 h m L hL h1 h2 (pTest e N (d + 1) L) (fun W hW => by have := hlev W (i + 1) hW (by rw [hLd]; rw [hL, List.length_cons] at hN; omega); rw [hLd] at this; exact this)
        rw [pPiece_succ, h1, h2]
        simp only [Bool.false_eq_true, if_false, if_true]
        rw [if_neg (by omega), hL, List.tail_cons]
        cases hq : pTest e N (d + 1) L with
        | bad p => rw [hq] at this; exact this
        | ok t r => rw [hq] at this; exact this
      · obtain rfl : d = 20 := by omega
        rw [piece_deep (.inr h2) (Nat.le_refl _)]
        exact tpiece_deep4 w T l0 i e hmu h h1 h2
    | false =>
      rw [piece_atom h1 h2]
      exact tpiece_atom w T l0 i e d hl0 hmu h h1 h2
theorem tpiece_any (e T : Nat) (l0 : List Tk) (hl0 : l0.length ≤ 1000000) (hmu : Mute l0) (n : Nat) : ∀ d : Nat, d ≤ 20 → TPiece n e d T l0 (pPiece e n d) := by
  induction n with
  | zero => intro d _ w i h hN; exact absurd hN (Nat.not_lt_zero _)
  | succ n ih => intro d hd; exact tpiece_step hl0 hmu hd (fun h => ih (d + 1) (by omega))
/-- a tape's level 0: a test -/
theorem tlevel_any (e T : Nat) (l0 : List Tk) (hl0 : l0.length ≤ 1000000) (hmu : Mute l0) (n : Nat) : TLevel 0 n e 0 T l0 (pTest e n 0) :=
  tlevel0_any (fun l t r h => row_len (pPiece_len e n 0) l t r h) hl0 (tlevel1_any (pPiece_len e n 0) hl0 (tlevel2_any (tpiece_any e T l0 hl0 hmu n 0 (by omega))))
end Go.Proofs.YthhghlnbpigcjaaGreatDoor
