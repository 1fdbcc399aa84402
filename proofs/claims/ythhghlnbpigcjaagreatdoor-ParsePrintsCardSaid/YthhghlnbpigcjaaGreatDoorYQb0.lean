/- The walks of a tape's levels 1 and 0. -/
import Derived.Test.YthhghlnbpigcjaaGreatDoorYQa9
import Derived.Test.YthhghlnbpigcjaaGreatDoorYPc4
set_option linter.unusedVariables false
set_option linter.unusedSimpArgs false
namespace Go.Proofs.YthhghlnbpigcjaaGreatDoor
open Go.RowKit

/-- how far a row's tape is: read on, or at fault -/
def RowSt (X : World) (T e d N : Nat) (l0 : List Tk) (kind : Int) (s : List UInt8) (p : List Tk → PRes) (R : PRes) (t : Tree) (g : Nat) : Prop :=
  (∃ i q, l0.drop i = q ∧ TpAt X T l0 i e d (-1) ∧ R = rowP kind s p e q.length t q ∧ q.length + 1 = g ∧ q.length < N) ∨ (g = 0 ∧ ∃ (i : Nat) (d' : Int) (pp : Nat), TpAt X T l0 i e d' (pp : Int) ∧ R = .bad pp)
/-- a row's tests so far: the test lies in B, its kids elsewhere -/
def RowT (w X : World) (T e d Z B N : Nat) (l0 : List Tk) (kind : Int) (s : List UInt8) (p : List Tk → PRes) (R : PRes) (g : Nat) : Prop :=
  ∃ (t : Tree) (a : Option Addr) (n c : Nat), KVar X B t a n c ∧ KSl X (fun b => w.heap.size ≤ b ∧ b ≠ B ∧ b ≠ Z) t.kids a n ∧ But T w X ∧ ZVar X Z ∧ RowSt X T e d N l0 kind s p R t g
theorem RowSt.map {X Y : World} {T e d N : Nat} {l0 : List Tk} {kind : Int} {s : List UInt8} {p : List Tk → PRes} {R : PRes} {t : Tree} {g : Nat} (h : RowSt X T e d N l0 kind s p R t g) (hm : ∀ i (d b : Int), TpAt X T l0 i e d b → TpAt Y T l0 i e d b) : RowSt Y T e d N l0 kind s p R t g := by
  rcases h with ⟨i, q, h1, h2, h3⟩ | ⟨h1, i, d', pp, h2, h3⟩
  · exact .inl ⟨i, q, h1, hm _ _ _ h2, h3⟩
  · exact .inr ⟨h1, i, d', pp, hm _ _ _ h2, h3⟩
/-- behind the first test of a row -/
theorem rowst_start {X : World} {T e d N : Nat} {l0 l : List Tk} {kind : Int} {s : List UInt8} {p : List Tk → PRes} {t : Tree} (hl : ∀ l t r, p l = .ok t r → r.length < l.length) (hN : l.length < N) (h : match p l with
  | .ok u q => t = u ∧ ∃ i, l0.drop i = q ∧ TpAt X T l0 i e d (-1)
  | .bad pp => ∃ (i : Nat) (d' : Int), TpAt X T l0 i e d' (pp : Int)) : ∃ g, RowSt X T e d N l0 kind s p (row kind s p e l) t g := by
  unfold row
  cases hp : p l with
  | bad b =>
    rw [hp] at h
    obtain ⟨i, d', h⟩ := h
    exact ⟨0, .inr ⟨rfl, i, d', b, h, rfl⟩⟩
  | ok u q =>
    rw [hp] at h
    obtain ⟨rfl, i, h1, h2⟩ := h
    have := hl _ _ _ hp
    exact ⟨q.length + 1, .inl ⟨i, q, h1, h2, rfl, rfl, by omega⟩⟩
/-- behind one more -/
theorem rowst_next {X : World} {T e d N : Nat} {l0 L : List Tk} {kind : Int} {s : List UInt8} {p : List Tk → PRes} {R : PRes} {t u : Tree} {m : Tk} (hl : ∀ l t r, p l = .ok t r → r.length < l.length) (hB : isTok 3 s (m :: L) = true) (hR : R = rowP kind s p e (m :: L).length t (m :: L)) (hN : (m :: L).length < N) (h : match p L with
  | .ok v q => u = v ∧ ∃ i, l0.drop i = q ∧ TpAt X T l0 i e d (-1)
  | .bad pp => ∃ (i : Nat) (d' : Int), TpAt X T l0 i e d' (pp : Int)) : ∃ g, g < L.length + 2 ∧ RowSt X T e d N l0 kind s p R (.node kind m.pos [t, u]) g := by
  cases hp : p L with
  | bad b =>
    rw [hp] at h
    obtain ⟨i, d', h⟩ := h
    exact ⟨0, by omega, .inr ⟨rfl, i, d', b, h, hR.trans (rowP_bad hB hp)⟩⟩
  | ok v q =>
    rw [hp] at h
    obtain ⟨rfl, i, h1, h2⟩ := h
    have := hl _ _ _ hp
    rw [List.length_cons] at hN
    exact ⟨q.length + 1, by omega, .inl ⟨i, q, h1, h2, hR.trans (rowP_on hl hB hp), rfl, by omega⟩⟩
theorem rowT_next {w X : World} {T e d Z B N : Nat} {l0 : List Tk} {kind : Int} {s : List UInt8} {p : List Tk → PRes} {R : PRes} {t u : Tree} {a b : Option Addr} {n c m k mp g : Nat} {ty : TypeId} (hk : KVar X B t a n c) (ht : KSl X (fun b => w.heap.size ≤ b ∧ b ≠ B ∧ b ≠ Z) t.kids a n) (hu : KSl X (fun b => w.heap.size ≤ b ∧ b ≠ B ∧ b ≠ Z) u.kids b m) (hb : But T w X) (hz : ZVar X Z) (hTB : T < B) (hw : w.heap.size ≤ B) (hZB : B ≠ Z) (hst : RowSt X T e d N l0 kind s p R (Tree.node kind mp [t, u]) g) :
    RowT w ((st9 X B (.int .i64 kind) (.int .i64 (mp : Int)) (.string ⟨#[]⟩) (.int .i64 0) (.int .i64 0) (.string ⟨#[]⟩) (.int .u64 0) (.int .i64 0) (.slice (some ⟨X.heap.size, 0, none⟩) 2 2)).alloc (.cells (t.cells2 a n c u b m k) ty)) T e d Z B N l0 kind s p R g := by
  have h1 := hk.put (Tree.node kind mp [t, u]) (some ⟨X.heap.size, 0, none⟩) 2 2
  have h2 := ht.putS (b := B) (fun h => h.2.1 rfl) (.int .i64 (Tree.node kind mp [t, u]).k) (.int .i64 (Tree.node kind mp [t, u]).pos) (.string ⟨(Tree.node kind mp [t, u]).col.toArray⟩) (.int .i64 (Tree.node kind mp [t, u]).v.k) (.int .i64 (Tree.node kind mp [t, u]).v.n) (.string (Tree.node kind mp [t, u]).v.s) (.int .u64 (Tree.node kind mp [t, u]).v.f) (.int .i64 (Tree.node kind mp [t, u]).op) (.slice (some ⟨X.heap.size, 0, none⟩) 2 2)
  have h3 := hu.putS (b := B) (fun h => h.2.1 rfl) (.int .i64 (Tree.node kind mp [t, u]).k) (.int .i64 (Tree.node kind mp [t, u]).pos) (.string ⟨(Tree.node kind mp [t, u]).col.toArray⟩) (.int .i64 (Tree.node kind mp [t, u]).v.k) (.int .i64 (Tree.node kind mp [t, u]).v.n) (.string (Tree.node kind mp [t, u]).v.s) (.int .u64 (Tree.node kind mp [t, u]).v.f) (.int .i64 (Tree.node kind mp [t, u]).op) (.slice (some ⟨X.heap.size, 0, none⟩) 2 2)
  have h4 := hst.map (Y := st9 X B (.int .i64 (Tree.node kind mp [t, u]).k) (.int .i64 (Tree.node kind mp [t, u]).pos) (.string ⟨(Tree.node kind mp [t, u]).col.toArray⟩) (.int .i64 (Tree.node kind mp [t, u]).v.k) (.int .i64 (Tree.node kind mp [t, u]).v.n) (.string (Tree.node kind mp [t, u]).v.s) (.int .u64 (Tree.node kind mp [t, u]).v.f) (.int .i64 (Tree.node kind mp [t, u]).op) (.slice (some ⟨X.heap.size, 0, none⟩) 2 2)) (fun i d b h => h.put9 hTB _ _ _ _ _ _ _ _ _)
  have h5 := hb.put9 (b := B) hw (.int .i64 (Tree.node kind mp [t, u]).k) (.int .i64 (Tree.node kind mp [t, u]).pos) (.string ⟨(Tree.node kind mp [t, u]).col.toArray⟩) (.int .i64 (Tree.node kind mp [t, u]).v.k) (.int .i64 (Tree.node kind mp [t, u]).v.n) (.string (Tree.node kind mp [t, u]).v.s) (.int .u64 (Tree.node kind mp [t, u]).v.f) (.int .i64 (Tree.node kind mp [t, u]).op) (.slice (some ⟨X.heap.size, 0, none⟩) 2 2)
  have h6 := hz.put9 (b' := B) hZB (.int .i64 (Tree.node kind mp [t, u]).k) (.int .i64 (Tree.node kind mp [t, u]).pos) (.string ⟨(Tree.node kind mp [t, u]).col.toArray⟩) (.int .i64 (Tree.node kind mp [t, u]).v.k) (.int .i64 (Tree.node kind mp [t, u]).v.n) (.string (Tree.node kind mp [t, u]).v.s) (.int .u64 (Tree.node kind mp [t, u]).v.f) (.int .i64 (Tree.node kind mp [t, u]).op) (.slice (some ⟨X.heap.size, 0, none⟩) 2 2)
  have hsz := st9_size X B (.int .i64 (Tree.node kind mp [t, u]).k) (.int .i64 (Tree.node kind mp [t, u]).pos) (.string ⟨(Tree.node kind mp [t, u]).col.toArray⟩) (.int .i64 (Tree.node kind mp [t, u]).v.k) (.int .i64 (Tree.node kind mp [t, u]).v.n) (.string (Tree.node kind mp [t, u]).v.s) (.int .u64 (Tree.node kind mp [t, u]).v.f) (.int .i64 (Tree.node kind mp [t, u]).op) (.slice (some ⟨X.heap.size, 0, none⟩) 2 2)
  show RowT w ((st9 X B (.int .i64 (Tree.node kind mp [t, u]).k) (.int .i64 (Tree.node kind mp [t, u]).pos) (.string ⟨(Tree.node kind mp [t, u]).col.toArray⟩) (.int .i64 (Tree.node kind mp [t, u]).v.k) (.int .i64 (Tree.node kind mp [t, u]).v.n) (.string (Tree.node kind mp [t, u]).v.s) (.int .u64 (Tree.node kind mp [t, u]).v.f) (.int .i64 (Tree.node kind mp [t, u]).op) (.slice (some ⟨X.heap.size, 0, none⟩) 2 2)).alloc _) T e d Z B N l0 kind s p R g
  generalize (st9 X B _ _ _ _ _ _ _ _ _) = Y at *
  rw [← hsz] at h1
  have hn := Below.new Y (.cells (t.cells2 a n c u b m k) ty)
  have hTY := h1.lt
  have hZY := h6.lt
  exact ⟨(Tree.node kind mp [t, u]), _, _, _, h1.below hn h1.lt, row2 Y t a n c u b m k ty h2 h3 ⟨h5.size, by omega, by omega⟩, h5.trans (But.of hn), h6.below hn h6.lt, h4.map (fun i d b h => h.below hn)⟩
/-- a row's end -/
theorem rowT_end {w X : World} {T e d B : Nat} {l0 : List Tk} {t : Tree} {a : Option Addr} {n c : Nat} {R : PRes} (hb : But T w X) (hs : KSl X (fun b => w.heap.size ≤ b ∧ b ≠ B ∧ b ≠ w.heap.size) t.kids a n) (hT : T < w.heap.size) (hst : match R with
  | .ok u q => t = u ∧ ∃ i, l0.drop i = q ∧ TpAt X T l0 i e d (-1)
  | .bad pp => ∃ (i : Nat) (d' : Int), TpAt X T l0 i e d' (pp : Int)) (v0 v1 v2 v3 v4 v5 v6 v7 v8 : Value) : TpAns w (st9 X w.heap.size v0 v1 v2 v3 v4 v5 v6 v7 v8) T e d l0 R (.returned (t.val a n c)) := by
  refine ⟨hb.put9 (Nat.le_refl _) _ _ _ _ _ _ _ _ _, t, a, n, c, rfl, (hs.putS (fun h => h.2.2 rfl) _ _ _ _ _ _ _ _ _).sub fun b hb => hb.1, ?_⟩
  cases R with
  | bad pp =>
    obtain ⟨i, d', h⟩ := hst
    exact ⟨i, d', h.put9 hT _ _ _ _ _ _ _ _ _⟩
  | ok u q =>
    obtain ⟨h1, i, h2, h3⟩ := hst
    exact ⟨h1, i, h2, h3.put9 hT _ _ _ _ _ _ _ _ _⟩
set_option maxHeartbeats 16000000 in
set_option maxRecDepth 100000 in
theorem tlevel1_any {N e d T : Nat} {l0 : List Tk} {p : List Tk → PRes} (hl : ∀ l t r, p l = .ok t r → r.length < l.length) (hl0 : l0.length ≤ 1000000) (hp : TLevel 2 N e d T l0 p) : TLevel 1 N e d T l0 (row 5 kAnd p e) := by
  intro w i h hN
  have H := Lib.hid h
  have hT := h.lt
  have HC := Lib.hid hp
  have HL := Lib.hid hl
  have HN := Lib.hid hN
  have Hl0 := Lib.hid hl0
  clear h hN hp hl hl0
  generalize hR : row 5 kAnd p e (l0.drop i) = R
  have HR := Lib.hid hR
  clear hR
  go_enter Tryz.func26, Tryz.ntmps26
  go_upto_region 1 with fail
  have Hb := Lib.hid (Below.new w (.cells zcells 31))
  have Hz := Lib.hid (ZVar.new w 31)
  generalize World.alloc w _ = W at Hb Hz ⊢
  have hc := Lib.hid (HC.out W i (H.out.below Hb.out) HN.out)
  have HWl : Hid (w.heap.size < W.heap.size) := Lib.hid Hz.out.lt
  go_wp2_with fail
  refine hc.out.mono ?_
  clear hc
  rintro en w4 ⟨hb4, t, a, n, c, rfl, hk, h4⟩
  obtain ⟨g0, hg0⟩ := rowst_start (kind := 5) (s := kAnd) HL.out HN.out h4
  rw [HR.out] at hg0
  have hWw := hb4.size
  have hbn := Below.new w4 (.cells (t.cells a n c) 31)
  have Hz4 := Hz.out.but hb4 hT
  have HB : Hid (w.heap.size < w4.heap.size) := Lib.hid (by have := HWl.out; omega)
  have HI : Hid (RowT w (w4.alloc (.cells (t.cells a n c) 31)) T e d w.heap.size w4.heap.size N l0 5 kAnd p R g0) := Lib.hid ⟨t, a, n, c, KVar.new w4 t a n c 31, (hk.inside.sub fun b hb => ⟨Nat.le_trans (Nat.le_of_lt HWl.out) hb.1, Nat.ne_of_lt hb.2, by have := hb.1; have := HWl.out; omega⟩).later hbn, ((But.of Hb.out).trans hb4).trans (But.of hbn), Hz4.below hbn Hz4.lt, hg0.map fun i d b h => h.below hbn⟩
  clear hb4 h4 hk hbn Hz4 hg0 hWw
  simp only [Tree.val]
  go_wp2_with fail
  generalize World.alloc w4 _ = W5 at HI ⊢
  generalize w4.heap.size = B at HI HB ⊢
  go_loopg [] g0 (fun g wx => RowT w wx T e d w.heap.size B N l0 5 kAnd p R g)
  case atStart => exact HI.out
  case round =>
    clear HI
    obtain ⟨t, a, n, c, hk, hs, hb, hz, hst⟩ := hrel
    have Hk := Lib.hid hk; have Hs := Lib.hid hs; have Hbb := Lib.hid hb; have Hzz := Lib.hid hz
    clear hk hs hb hz
    have hTB : T < B := by have := HB.out; omega
    rcases hst with ⟨j, q, hd, hp, hRR, hg, hqN⟩ | ⟨hg, j, d', pp, hp, hRR⟩
    · have Hp := Lib.hid hp; have Hd := Lib.hid hd; have HRR := Lib.hid hRR; have Hg := Lib.hid hg; have HqN := Lib.hid hqN
      have hn : Hid (∀ B, isTok 3 kAnd q = B → Calls Tryz.prog 40 #[.pointer (some ⟨T, 0, none⟩), .int .i64 3, .string ⟨#[97, 110, 100]⟩] wr fun en w' => en = .returned (.bool B) ∧ Below wr.heap.size wr w') := Lib.hid (fun B hB => by have := tsees_any wr T l0 j e d (-1) (by decide) Hp.out 3 kAnd; rw [Hd.out, sees_word, hB] at this; exact this)
      clear hp hd hRR hg hqN
      cases hB : isTok 3 kAnd q with
      | false =>
        have Hr : Hid (R = .ok t q) := Lib.hid (HRR.out.trans (rowP_stop hB))
        have Hn := Lib.hid (hn.out false hB)
        clear hn hB
        go_wp2_with fail
        refine Hn.out.mono ?_
        clear Hn
        rintro en w2 ⟨rfl, hb2⟩
        obtain ⟨k0, k1, k2, k3, k4, k5, k6, k7, k8, -, -⟩ := Hk.out.below hb2 Hk.out.lt
        obtain ⟨d0, d1, d2, d3, d4, d5, d6, d7, d8, dz, -⟩ := Hzz.out.below hb2 Hzz.out.lt
        have Hs2 := Lib.hid (Hs.out.later hb2)
        have Hb2 := Lib.hid (Hbb.out.trans (But.of hb2))
        have Hp2 := Lib.hid (Hp.out.below hb2)
        clear hb2
        go_wp2_with fail
        exact bodyPost_ret (v := t.val a n c) (by simp [results, Tryz.results26, go_sem, d0, d1, d2, d3, d4, d5, d6, d7, d8, Tree.val]) rfl (by rw [Hr.out]; exact rowT_end (R := .ok t q) (e := e) (d := d) (l0 := l0) Hb2.out Hs2.out hT ⟨rfl, j, Hd.out, Hp2.out⟩ _ _ _ _ _ _ _ _ _)
      | true =>
        obtain ⟨m, L, rfl⟩ := tok_cons hB
        have HB3 := Lib.hid hB
        have Hn := Lib.hid (hn.out true hB)
        clear hn hB
        go_wp2_with fail
        refine Hn.out.mono ?_
        clear Hn
        rintro en w2 ⟨rfl, hb2⟩
        have Hp2 := Lib.hid (Hp.out.below hb2)
        have Hx2 : Hid (But T wr w2) := Lib.hid (But.of hb2)
        clear hb2
        have hc := Lib.hid (tat_any w2 T l0 j e d (-1) Hp2.out)
        go_wp2_with fail
        refine hc.out.mono ?_
        clear hc
        rintro en w3 ⟨rfl, hb3⟩
        have Hp3 := Lib.hid (Hp2.out.below hb3)
        have Hx3 : Hid (But T wr w3) := Lib.hid (Hx2.out.trans (But.of hb3))
        clear hb3
        have Hget : Hid (l0[j]? = some m ∧ j < l0.length ∧ l0.drop (j + 1) = L) := Lib.hid (by
          have hget : l0[j]? = some m := by have := congrArg (fun x : List Tk => x[0]?) Hd.out; simpa using this
          refine ⟨hget, ?_, by have := drop_tk hget; rw [Hd.out] at this; injection this with _ h; exact h.symm⟩
          rcases Nat.lt_or_ge j l0.length with h1 | h1
          · exact h1
          · rw [List.getElem?_eq_none h1] at hget; cases hget)
        have hpa : pAt e (l0.drop j) = m.pos := by rw [Hd.out]; rfl
        rw [hpa]
        clear hpa
        have hi9 : (j : Int) ≤ 1000000 := by have := Hl0.out; have := Hget.out.2.1; omega
        have hi0 : (0 : Int) ≤ (j : Int) := by omega
        have t1 := Hp3.out.c1
        have z1 := Hp3.out.z 1
        go_upto_region 11 with fail
        have hbx := (But.refl T w3).set 1 (.int .i64 ((j : Int) + 1))
        have Hp4 := Lib.hid (Hp3.out.setI (j + 1) ((j : Int) + 1) (by omega))
        have Hx4 : Hid (But T wr _) := Lib.hid (Hx3.out.trans hbx)
        clear t1 z1 hbx hi9 hi0
        generalize World.setCell w3 _ _ = W4 at Hp4 Hx4 ⊢
        have HLN : Hid (L.length < N) := Lib.hid (by have := HqN.out; rw [List.length_cons] at this; omega)
        have hc : Hid (Calls Tryz.prog 26 #[.pointer (some ⟨T, 0, none⟩), .int .i64 2] W4 fun en w' => TpAns W4 w' T e d l0 (p L) en) := Lib.hid (by have := HC.out W4 (j + 1) Hp4.out (by rw [Hget.out.2.2]; exact HLN.out); rw [Hget.out.2.2] at this; exact this)
        go_wp2_with fail
        refine hc.out.mono ?_
        clear hc
        rintro en w5 ⟨hb5, u, ua, un, uc, rfl, hku, h5⟩
        obtain ⟨g5, hg5, hst5⟩ := rowst_next HL.out HB3.out HRR.out HqN.out h5
        have Hg5 := Lib.hid hg5
        have hx5 : But T wr w5 := Hx4.out.trans hb5
        have hs5 := Hs.out.blk hx5 (fun h => absurd h.1 (by omega))
        have hW4 : wr.heap.size ≤ W4.heap.size := Hx4.out.size
        have hBl := Hk.out.lt
        have hZl := Hzz.out.lt
        have hwl := Hbb.out.size
        have hu5 : KSl w5 (fun b => w.heap.size ≤ b ∧ b ≠ B ∧ b ≠ w.heap.size) u.kids ua un := hku.sub fun b hb => ⟨by have hb : W4.heap.size ≤ b := hb; omega, by have hb : W4.heap.size ≤ b := hb; omega, by have hb : W4.heap.size ≤ b := hb; omega⟩
        have hbn := Below.new w5 (.cells (u.cells ua un uc) 31)
        have hk5 := Hk.out.but hx5 hTB
        have hz5 := Hzz.out.but hx5 hT
        have Hk6 := Lib.hid (hk5.below hbn hk5.lt)
        have Hz6 := Lib.hid (hz5.below hbn hz5.lt)
        have Hs6 := Lib.hid (hs5.later hbn)
        have Hu6 := Lib.hid (hu5.later hbn)
        have Hb6 := Lib.hid ((Hbb.out.trans hx5).trans (But.of hbn))
        have Hst6 := Lib.hid (hst5.map fun i d b h => h.below hbn)
        have HY6 := Lib.hid (KVar.new w5 u ua un uc 31)
        clear hb5 hku h5 hst5 hx5 hs5 hW4 hBl hZl hwl hu5 hbn hk5 hz5 hg5
        simp only [Tree.val]
        go_upto_region 12 with fail
        generalize World.alloc w5 _ = W6 at Hk6 Hz6 Hs6 Hu6 Hb6 Hst6 HY6 ⊢
        generalize w5.heap.size = Y at HY6 ⊢
        obtain ⟨k0, k1, k2, k3, k4, k5, k6, k7, k8, kz, -⟩ := Hk6.out
        obtain ⟨y0, y1, y2, y3, y4, y5, y6, y7, y8, -, -⟩ := HY6.out
        have hBl : B < W6.heap.size := Hk6.out.lt
        have hBn : B ≠ W6.heap.size := Nat.ne_of_lt hBl
        generalize hmp : m.pos = mp at Hst6 ⊢
        go_wp2_with fail
        go_roundg g5
        case measure => have := Hg5.out; have := Hg.out; rw [List.length_cons] at this; omega
        case rel => exact rowT_next Hk6.out Hs6.out Hu6.out Hb6.out Hz6.out hTB (Nat.le_of_lt HB.out) (by have := HB.out; omega) Hst6.out
    · have Hp := Lib.hid hp
      have Hr : Hid (R = .bad pp) := Lib.hid hRR
      have hc : Hid (Calls Tryz.prog 40 #[.pointer (some ⟨T, 0, none⟩), .int .i64 3, .string ⟨#[97, 110, 100]⟩] wr fun en w' => en = .returned (.bool false) ∧ Below wr.heap.size wr w') := Lib.hid (tsees_bad wr T l0 j e d' pp (Int.natCast_nonneg pp) Hp.out 3 kAnd)
      clear hp hRR hg
      go_wp2_with fail
      refine hc.out.mono ?_
      clear hc
      rintro en w2 ⟨rfl, hb2⟩
      obtain ⟨k0, k1, k2, k3, k4, k5, k6, k7, k8, -, -⟩ := Hk.out.below hb2 Hk.out.lt
      obtain ⟨d0, d1, d2, d3, d4, d5, d6, d7, d8, dz, -⟩ := Hzz.out.below hb2 Hzz.out.lt
      have Hs2 := Lib.hid (Hs.out.later hb2)
      have Hb2 := Lib.hid (Hbb.out.trans (But.of hb2))
      have Hp2 := Lib.hid (Hp.out.below hb2)
      clear hb2
      go_wp2_with fail
      exact bodyPost_ret (v := t.val a n c) (by simp [results, Tryz.results26, go_sem, d0, d1, d2, d3, d4, d5, d6, d7, d8, Tree.val]) rfl (by rw [Hr.out]; exact rowT_end (R := .bad pp) (e := e) (d := d) (l0 := l0) Hb2.out Hs2.out hT ⟨j, d', Hp2.out⟩ _ _ _ _ _ _ _ _ _)
set_option maxHeartbeats 16000000 in
set_option maxRecDepth 100000 in
theorem tlevel0_any {N e d T : Nat} {l0 : List Tk} {p : List Tk → PRes} (hl : ∀ l t r, p l = .ok t r → r.length < l.length) (hl0 : l0.length ≤ 1000000) (hp : TLevel 1 N e d T l0 p) : TLevel 0 N e d T l0 (row 6 kOr p e) := by
  intro w i h hN
  have H := Lib.hid h
  have hT := h.lt
  have HC := Lib.hid hp
  have HL := Lib.hid hl
  have HN := Lib.hid hN
  have Hl0 := Lib.hid hl0
  clear h hN hp hl hl0
  generalize hR : row 6 kOr p e (l0.drop i) = R
  have HR := Lib.hid hR
  clear hR
  go_enter Tryz.func26, Tryz.ntmps26
  go_upto_region 1 with fail
  have Hb := Lib.hid (Below.new w (.cells zcells 31))
  have Hz := Lib.hid (ZVar.new w 31)
  generalize World.alloc w _ = W at Hb Hz ⊢
  have hc := Lib.hid (HC.out W i (H.out.below Hb.out) HN.out)
  have HWl : Hid (w.heap.size < W.heap.size) := Lib.hid Hz.out.lt
  go_wp2_with fail
  refine hc.out.mono ?_
  clear hc
  rintro en w4 ⟨hb4, t, a, n, c, rfl, hk, h4⟩
  obtain ⟨g0, hg0⟩ := rowst_start (kind := 6) (s := kOr) HL.out HN.out h4
  rw [HR.out] at hg0
  have hWw := hb4.size
  have hbn := Below.new w4 (.cells (t.cells a n c) 31)
  have Hz4 := Hz.out.but hb4 hT
  have HB : Hid (w.heap.size < w4.heap.size) := Lib.hid (by have := HWl.out; omega)
  have HI : Hid (RowT w (w4.alloc (.cells (t.cells a n c) 31)) T e d w.heap.size w4.heap.size N l0 6 kOr p R g0) := Lib.hid ⟨t, a, n, c, KVar.new w4 t a n c 31, (hk.inside.sub fun b hb => ⟨Nat.le_trans (Nat.le_of_lt HWl.out) hb.1, Nat.ne_of_lt hb.2, by have := hb.1; have := HWl.out; omega⟩).later hbn, ((But.of Hb.out).trans hb4).trans (But.of hbn), Hz4.below hbn Hz4.lt, hg0.map fun i d b h => h.below hbn⟩
  clear hb4 h4 hk hbn Hz4 hg0 hWw
  simp only [Tree.val]
  go_wp2_with fail
  generalize World.alloc w4 _ = W5 at HI ⊢
  generalize w4.heap.size = B at HI HB ⊢
  go_loopg [] g0 (fun g wx => RowT w wx T e d w.heap.size B N l0 6 kOr p R g)
  case atStart => exact HI.out
  case round =>
    clear HI
    obtain ⟨t, a, n, c, hk, hs, hb, hz, hst⟩ := hrel
    have Hk := Lib.hid hk; have Hs := Lib.hid hs; have Hbb := Lib.hid hb; have Hzz := Lib.hid hz
    clear hk hs hb hz
    have hTB : T < B := by have := HB.out; omega
    rcases hst with ⟨j, q, hd, hp, hRR, hg, hqN⟩ | ⟨hg, j, d', pp, hp, hRR⟩
    · have Hp := Lib.hid hp; have Hd := Lib.hid hd; have HRR := Lib.hid hRR; have Hg := Lib.hid hg; have HqN := Lib.hid hqN
      have hn : Hid (∀ B, isTok 3 kOr q = B → Calls Tryz.prog 40 #[.pointer (some ⟨T, 0, none⟩), .int .i64 3, .string ⟨#[111, 114]⟩] wr fun en w' => en = .returned (.bool B) ∧ Below wr.heap.size wr w') := Lib.hid (fun B hB => by have := tsees_any wr T l0 j e d (-1) (by decide) Hp.out 3 kOr; rw [Hd.out, sees_word, hB] at this; exact this)
      clear hp hd hRR hg hqN
      cases hB : isTok 3 kOr q with
      | false =>
        have Hr : Hid (R = .ok t q) := Lib.hid (HRR.out.trans (rowP_stop hB))
        have Hn := Lib.hid (hn.out false hB)
        clear hn hB
        go_wp2_with fail
        refine Hn.out.mono ?_
        clear Hn
        rintro en w2 ⟨rfl, hb2⟩
        obtain ⟨k0, k1, k2, k3, k4, k5, k6, k7, k8, -, -⟩ := Hk.out.below hb2 Hk.out.lt
        obtain ⟨d0, d1, d2, d3, d4, d5, d6, d7, d8, dz, -⟩ := Hzz.out.below hb2 Hzz.out.lt
        have Hs2 := Lib.hid (Hs.out.later hb2)
        have Hb2 := Lib.hid (Hbb.out.trans (But.of hb2))
        have Hp2 := Lib.hid (Hp.out.below hb2)
        clear hb2
        go_wp2_with fail
        exact bodyPost_ret (v := t.val a n c) (by simp [results, Tryz.results26, go_sem, d0, d1, d2, d3, d4, d5, d6, d7, d8, Tree.val]) rfl (by rw [Hr.out]; exact rowT_end (R := .ok t q) (e := e) (d := d) (l0 := l0) Hb2.out Hs2.out hT ⟨rfl, j, Hd.out, Hp2.out⟩ _ _ _ _ _ _ _ _ _)
      | true =>
        obtain ⟨m, L, rfl⟩ := tok_cons hB
        have HB3 := Lib.hid hB
        have Hn := Lib.hid (hn.out true hB)
        clear hn hB
        go_wp2_with fail
        refine Hn.out.mono ?_
        clear Hn
        rintro en w2 ⟨rfl, hb2⟩
        have Hp2 := Lib.hid (Hp.out.below hb2)
        have Hx2 : Hid (But T wr w2) := Lib.hid (But.of hb2)
        clear hb2
        have hc := Lib.hid (tat_any w2 T l0 j e d (-1) Hp2.out)
        go_wp2_with fail
        refine hc.out.mono ?_
        clear hc
        rintro en w3 ⟨rfl, hb3⟩
        have Hp3 := Lib.hid (Hp2.out.below hb3)
        have Hx3 : Hid (But T wr w3) := Lib.hid (Hx2.out.trans (But.of hb3))
        clear hb3
        have Hget : Hid (l0[j]? = some m ∧ j < l0.length ∧ l0.drop (j + 1) = L) := Lib.hid (by
          have hget : l0[j]? = some m := by have := congrArg (fun x : List Tk => x[0]?) Hd.out; simpa using this
          refine ⟨hget, ?_, by have := drop_tk hget; rw [Hd.out] at this; injection this with _ h; exact h.symm⟩
          rcases Nat.lt_or_ge j l0.length with h1 | h1
          · exact h1
          · rw [List.getElem?_eq_none h1] at hget; cases hget)
        have hpa : pAt e (l0.drop j) = m.pos := by rw [Hd.out]; rfl
        rw [hpa]
        clear hpa
        have hi9 : (j : Int) ≤ 1000000 := by have := Hl0.out; have := Hget.out.2.1; omega
        have hi0 : (0 : Int) ≤ (j : Int) := by omega
        have t1 := Hp3.out.c1
        have z1 := Hp3.out.z 1
        go_upto_region 11 with fail
        have hbx := (But.refl T w3).set 1 (.int .i64 ((j : Int) + 1))
        have Hp4 := Lib.hid (Hp3.out.setI (j + 1) ((j : Int) + 1) (by omega))
        have Hx4 : Hid (But T wr _) := Lib.hid (Hx3.out.trans hbx)
        clear t1 z1 hbx hi9 hi0
        generalize World.setCell w3 _ _ = W4 at Hp4 Hx4 ⊢
        have HLN : Hid (L.length < N) := Lib.hid (by have := HqN.out; rw [List.length_cons] at this; omega)
        have hc : Hid (Calls Tryz.prog 26 #[.pointer (some ⟨T, 0, none⟩), .int .i64 1] W4 fun en w' => TpAns W4 w' T e d l0 (p L) en) := Lib.hid (by have := HC.out W4 (j + 1) Hp4.out (by rw [Hget.out.2.2]; exact HLN.out); rw [Hget.out.2.2] at this; exact this)
        go_wp2_with fail
        refine hc.out.mono ?_
        clear hc
        rintro en w5 ⟨hb5, u, ua, un, uc, rfl, hku, h5⟩
        obtain ⟨g5, hg5, hst5⟩ := rowst_next HL.out HB3.out HRR.out HqN.out h5
        have Hg5 := Lib.hid hg5
        have hx5 : But T wr w5 := Hx4.out.trans hb5
        have hs5 := Hs.out.blk hx5 (fun h => absurd h.1 (by omega))
        have hW4 : wr.heap.size ≤ W4.heap.size := Hx4.out.size
        have hBl := Hk.out.lt
        have hZl := Hzz.out.lt
        have hwl := Hbb.out.size
        have hu5 : KSl w5 (fun b => w.heap.size ≤ b ∧ b ≠ B ∧ b ≠ w.heap.size) u.kids ua un := hku.sub fun b hb => ⟨by have hb : W4.heap.size ≤ b := hb; omega, by have hb : W4.heap.size ≤ b := hb; omega, by have hb : W4.heap.size ≤ b := hb; omega⟩
        have hbn := Below.new w5 (.cells (u.cells ua un uc) 31)
        have hk5 := Hk.out.but hx5 hTB
        have hz5 := Hzz.out.but hx5 hT
        have Hk6 := Lib.hid (hk5.below hbn hk5.lt)
        have Hz6 := Lib.hid (hz5.below hbn hz5.lt)
        have Hs6 := Lib.hid (hs5.later hbn)
        have Hu6 := Lib.hid (hu5.later hbn)
        have Hb6 := Lib.hid ((Hbb.out.trans hx5).trans (But.of hbn))
        have Hst6 := Lib.hid (hst5.map fun i d b h => h.below hbn)
        have HY6 := Lib.hid (KVar.new w5 u ua un uc 31)
        clear hb5 hku h5 hst5 hx5 hs5 hW4 hBl hZl hwl hu5 hbn hk5 hz5 hg5
        simp only [Tree.val]
        go_upto_region 12 with fail
        generalize World.alloc w5 _ = W6 at Hk6 Hz6 Hs6 Hu6 Hb6 Hst6 HY6 ⊢
        generalize w5.heap.size = Y at HY6 ⊢
        obtain ⟨k0, k1, k2, k3, k4, k5, k6, k7, k8, kz, -⟩ := Hk6.out
        obtain ⟨y0, y1, y2, y3, y4, y5, y6, y7, y8, -, -⟩ := HY6.out
        have hBl : B < W6.heap.size := Hk6.out.lt
        have hBn : B ≠ W6.heap.size := Nat.ne_of_lt hBl
        generalize hmp : m.pos = mp at Hst6 ⊢
        go_wp2_with fail
        go_roundg g5
        case measure => have := Hg5.out; have := Hg.out; rw [List.length_cons] at this; omega
        case rel => exact rowT_next Hk6.out Hs6.out Hu6.out Hb6.out Hz6.out hTB (Nat.le_of_lt HB.out) (by have := HB.out; omega) Hst6.out
    · have Hp := Lib.hid hp
      have Hr : Hid (R = .bad pp) := Lib.hid hRR
      have hc : Hid (Calls Tryz.prog 40 #[.pointer (some ⟨T, 0, none⟩), .int .i64 3, .string ⟨#[111, 114]⟩] wr fun en w' => en = .returned (.bool false) ∧ Below wr.heap.size wr w') := Lib.hid (tsees_bad wr T l0 j e d' pp (Int.natCast_nonneg pp) Hp.out 3 kOr)
      clear hp hRR hg
      go_wp2_with fail
      refine hc.out.mono ?_
      clear hc
      rintro en w2 ⟨rfl, hb2⟩
      obtain ⟨k0, k1, k2, k3, k4, k5, k6, k7, k8, -, -⟩ := Hk.out.below hb2 Hk.out.lt
      obtain ⟨d0, d1, d2, d3, d4, d5, d6, d7, d8, dz, -⟩ := Hzz.out.below hb2 Hzz.out.lt
      have Hs2 := Lib.hid (Hs.out.later hb2)
      have Hb2 := Lib.hid (Hbb.out.trans (But.of hb2))
      have Hp2 := Lib.hid (Hp.out.below hb2)
      clear hb2
      go_wp2_with fail
      exact bodyPost_ret (v := t.val a n c) (by simp [results, Tryz.results26, go_sem, d0, d1, d2, d3, d4, d5, d6, d7, d8, Tree.val]) rfl (by rw [Hr.out]; exact rowT_end (R := .bad pp) (e := e) (d := d) (l0 := l0) Hb2.out Hs2.out hT ⟨j, d', Hp2.out⟩ _ _ _ _ _ _ _ _ _)
end Go.Proofs.YthhghlnbpigcjaaGreatDoor
