/- The walk of a parser's row. -/
import Derived.Test.YtfkghfmgeholeaaGreatDoorPc3
set_option linter.unusedVariables false
set_option linter.unusedSimpArgs false
namespace Go.Proofs.YtfkghfmgeholeaaGreatDoor
open Go.RowKit

/-- a row's tests so far: the test lies in T, its kids elsewhere -/
def RowI (w X : World) (P e d Z T N : Nat) (kind : Int) (s : List UInt8) (p : List Tk → PRes) (R : PRes) (g : Nat) : Prop :=
  ∃ (t : Tree) (a : Option Addr) (n c : Nat) (q : List Tk), KVar X T t a n c ∧ KSl X (fun b => w.heap.size ≤ b ∧ b ≠ T ∧ b ≠ Z) t.kids a n ∧ PAt X P q e d ∧ But P w X ∧ ZVar X Z ∧ R = rowP kind s p e q.length t q ∧ q.length = g ∧ q.length < N
theorem rowP_stop {kind : Int} {s : List UInt8} {p : List Tk → PRes} {e m : Nat} {t : Tree} {q : List Tk} (h : isTok 3 s q = false) : rowP kind s p e m t q = .ok t q := by
  cases m with
  | zero => rfl
  | succ m => unfold rowP; rw [h]; rfl
theorem rowP_fuel {kind : Int} {s : List UInt8} {p : List Tk → PRes} {e : Nat} (hl : ∀ l t r, p l = .ok t r → r.length < l.length) : ∀ (m n : Nat) (t : Tree) (q : List Tk), q.length ≤ m → q.length ≤ n → rowP kind s p e m t q = rowP kind s p e n t q := by
  intro m
  induction m with
  | zero =>
    intro n t q h1 h2
    have : q = [] := List.eq_nil_of_length_eq_zero (by omega)
    subst this
    rw [rowP_stop rfl, rowP_stop rfl]
  | succ m ih =>
    intro n t q h1 h2
    cases n with
    | zero =>
      have : q = [] := List.eq_nil_of_length_eq_zero (by omega)
      subst this
      rw [rowP_stop rfl, rowP_stop rfl]
    | succ n =>
      unfold rowP
      split
      · rename_i hq
        have h3 := tail_len hq
        cases hp : p q.tail with
        | bad b => rfl
        | ok u r =>
          have h4 := hl _ _ _ hp
          exact ih n _ r (by omega) (by omega)
      · rfl
theorem rowP_on {kind : Int} {s : List UInt8} {p : List Tk → PRes} (hl : ∀ l t r, p l = .ok t r → r.length < l.length) {e : Nat} {t u : Tree} {m : Tk} {L q : List Tk} (h : isTok 3 s (m :: L) = true) (hp : p L = .ok u q) : rowP kind s p e (m :: L).length t (m :: L) = rowP kind s p e q.length (.node kind m.pos [t, u]) q := by
  have h1 := hl _ _ _ hp
  rw [List.length_cons]
  rw [rowP, h, if_pos rfl]
  simp only [List.tail_cons, hp]
  show rowP kind s p e L.length _ q = _
  exact rowP_fuel hl _ _ _ _ (Nat.le_of_lt h1) (Nat.le_refl _)
theorem rowP_bad {kind : Int} {s : List UInt8} {p : List Tk → PRes} {e b : Nat} {t : Tree} {m : Tk} {L : List Tk} (h : isTok 3 s (m :: L) = true) (hp : p L = .bad b) : rowP kind s p e (m :: L).length t (m :: L) = .bad b := by
  rw [List.length_cons]
  unfold rowP
  rw [h, if_pos rfl]
  simp only [List.tail_cons, hp]
theorem rowi_next {w X : World} {P e d Z T N : Nat} {kind : Int} {s : List UInt8} {p : List Tk → PRes} {R : PRes} {t u : Tree} {a b : Option Addr} {n c m k mp : Nat} {q : List Tk} {ty : TypeId} (hk : KVar X T t a n c) (ht : KSl X (fun b => w.heap.size ≤ b ∧ b ≠ T ∧ b ≠ Z) t.kids a n) (hu : KSl X (fun b => w.heap.size ≤ b ∧ b ≠ T ∧ b ≠ Z) u.kids b m) (hp : PAt X P q e d) (hb : But P w X) (hz : ZVar X Z) (hPT : P < T) (hw : w.heap.size ≤ T) (hZT : T ≠ Z) (hR : R = rowP kind s p e q.length (.node kind mp [t, u]) q) (hN : q.length < N) :
    RowI w ((st9 X T (.int .i64 kind) (.int .i64 (mp : Int)) (.string ⟨#[]⟩) (.int .i64 0) (.int .i64 0) (.string ⟨#[]⟩) (.int .u64 0) (.int .i64 0) (.slice (some ⟨X.heap.size, 0, none⟩) 2 2)).alloc (.cells (t.cells2 a n c u b m k) ty)) P e d Z T N kind s p R q.length := by
  have h1 := hk.put (.node kind mp [t, u]) (some ⟨X.heap.size, 0, none⟩) 2 2
  have h2 := ht.putS (b := T) (fun h => h.2.1 rfl) (.int .i64 (Tree.node kind mp [t, u]).k) (.int .i64 (Tree.node kind mp [t, u]).pos) (.string ⟨(Tree.node kind mp [t, u]).col.toArray⟩) (.int .i64 (Tree.node kind mp [t, u]).v.k) (.int .i64 (Tree.node kind mp [t, u]).v.n) (.string (Tree.node kind mp [t, u]).v.s) (.int .u64 (Tree.node kind mp [t, u]).v.f) (.int .i64 (Tree.node kind mp [t, u]).op) (.slice (some ⟨X.heap.size, 0, none⟩) 2 2)
  have h3 := hu.putS (b := T) (fun h => h.2.1 rfl) (.int .i64 (Tree.node kind mp [t, u]).k) (.int .i64 (Tree.node kind mp [t, u]).pos) (.string ⟨(Tree.node kind mp [t, u]).col.toArray⟩) (.int .i64 (Tree.node kind mp [t, u]).v.k) (.int .i64 (Tree.node kind mp [t, u]).v.n) (.string (Tree.node kind mp [t, u]).v.s) (.int .u64 (Tree.node kind mp [t, u]).v.f) (.int .i64 (Tree.node kind mp [t, u]).op) (.slice (some ⟨X.heap.size, 0, none⟩) 2 2)
  have h4 := hp.put9 (b := T) hPT (.int .i64 (Tree.node kind mp [t, u]).k) (.int .i64 (Tree.node kind mp [t, u]).pos) (.string ⟨(Tree.node kind mp [t, u]).col.toArray⟩) (.int .i64 (Tree.node kind mp [t, u]).v.k) (.int .i64 (Tree.node kind mp [t, u]).v.n) (.string (Tree.node kind mp [t, u]).v.s) (.int .u64 (Tree.node kind mp [t, u]).v.f) (.int .i64 (Tree.node kind mp [t, u]).op) (.slice (some ⟨X.heap.size, 0, none⟩) 2 2)
  have h5 := hb.put9 (b := T) hw (.int .i64 (Tree.node kind mp [t, u]).k) (.int .i64 (Tree.node kind mp [t, u]).pos) (.string ⟨(Tree.node kind mp [t, u]).col.toArray⟩) (.int .i64 (Tree.node kind mp [t, u]).v.k) (.int .i64 (Tree.node kind mp [t, u]).v.n) (.string (Tree.node kind mp [t, u]).v.s) (.int .u64 (Tree.node kind mp [t, u]).v.f) (.int .i64 (Tree.node kind mp [t, u]).op) (.slice (some ⟨X.heap.size, 0, none⟩) 2 2)
  have h6 := hz.put9 (b' := T) hZT (.int .i64 (Tree.node kind mp [t, u]).k) (.int .i64 (Tree.node kind mp [t, u]).pos) (.string ⟨(Tree.node kind mp [t, u]).col.toArray⟩) (.int .i64 (Tree.node kind mp [t, u]).v.k) (.int .i64 (Tree.node kind mp [t, u]).v.n) (.string (Tree.node kind mp [t, u]).v.s) (.int .u64 (Tree.node kind mp [t, u]).v.f) (.int .i64 (Tree.node kind mp [t, u]).op) (.slice (some ⟨X.heap.size, 0, none⟩) 2 2)
  have hsz := st9_size X T (.int .i64 (Tree.node kind mp [t, u]).k) (.int .i64 (Tree.node kind mp [t, u]).pos) (.string ⟨(Tree.node kind mp [t, u]).col.toArray⟩) (.int .i64 (Tree.node kind mp [t, u]).v.k) (.int .i64 (Tree.node kind mp [t, u]).v.n) (.string (Tree.node kind mp [t, u]).v.s) (.int .u64 (Tree.node kind mp [t, u]).v.f) (.int .i64 (Tree.node kind mp [t, u]).op) (.slice (some ⟨X.heap.size, 0, none⟩) 2 2)
  show RowI w ((st9 X T (.int .i64 (Tree.node kind mp [t, u]).k) (.int .i64 (Tree.node kind mp [t, u]).pos) (.string ⟨(Tree.node kind mp [t, u]).col.toArray⟩) (.int .i64 (Tree.node kind mp [t, u]).v.k) (.int .i64 (Tree.node kind mp [t, u]).v.n) (.string (Tree.node kind mp [t, u]).v.s) (.int .u64 (Tree.node kind mp [t, u]).v.f) (.int .i64 (Tree.node kind mp [t, u]).op) (.slice (some ⟨X.heap.size, 0, none⟩) 2 2)).alloc _) P e d Z T N kind s p R q.length
  generalize (st9 X T _ _ _ _ _ _ _ _ _) = Y at *
  rw [← hsz] at h1
  have hn := Below.new Y (.cells (t.cells2 a n c u b m k) ty)
  have hTY := h1.lt
  have hZY := h6.lt
  exact ⟨.node kind mp [t, u], _, _, _, q, h1.below hn h1.lt, row2 Y t a n c u b m k ty h2 h3 ⟨h5.size, by omega, by omega⟩, h4.below hn, h5.trans (But.of hn), h6.below hn h6.lt, hR, rfl, hN⟩
set_option maxHeartbeats 16000000 in
set_option maxRecDepth 100000 in
theorem prow_piece (w : World) (P e d N : Nat) (l : List Tk) (h : PAt w P l e d) (hN : l.length < N) (word : ByteArray) (kind : Int) (p : List Tk → PRes) (hl : ∀ l t r, p l = .ok t r → r.length < l.length)
    (hc : ∀ W l, PAt W P l e d → l.length < N → Calls Tryz.prog 74 #[.pointer (some ⟨P, 0, none⟩)] W fun en w' => PAns P e d faultV W w' (p l) en) :
    Calls Tryz.prog 53 #[.pointer (some ⟨P, 0, none⟩), .string word, .int .i64 kind, .func (.func 74) #[.pointer (some ⟨P, 0, none⟩)] #[]] w fun en w' => PAns P e d faultV w w' (row kind word.data.toList p e l) en := by
  have H := Lib.hid h
  have HP : Hid (P < w.heap.size) := Lib.hid h.lt
  have HL := Lib.hid hl; have HN := Lib.hid hN
  have HC := Lib.hid hc
  clear h hl hN hc
  generalize hR : row kind word.data.toList p e l = R
  have HR := Lib.hid hR
  clear hR
  go_enter Tryz.func53, Tryz.ntmps53
  go_upto_region 1 with fail
  have Hb := Lib.hid (Below.new w (.cells zcells 30))
  have Hz := Lib.hid (ZVar.new w 30)
  generalize (w.alloc _) = W at Hb Hz ⊢
  have Ho := Lib.hid (HC.out W l (H.out.below Hb.out) HN.out)
  have HPW : Hid (P < W.heap.size) := Lib.hid (Nat.lt_of_lt_of_le HP.out Hb.out.size)
  go_wp2_with fail
  refine Ho.out.mono ?_
  clear Ho
  rintro en w1 ⟨hb1, h1⟩
  cases hq : p l with
  | bad b =>
    rw [hq] at h1
    have h2 : en = .panicked [{ v := faultV b, recovered := false }] := h1
    have Hr : Hid (R = .bad b) := Lib.hid (by rw [← HR.out]; unfold row; rw [hq])
    have Hb1 : Hid (But P w w1) := Lib.hid ((But.of Hb.out).trans hb1)
    clear h1 hq hb1
    subst h2
    go_wp2_with fail
    exact ⟨rfl, by rw [Hr.out]; exact pans_bad Hb1.out rfl⟩
  | ok t r =>
    rw [hq] at h1
    obtain ⟨aa, an, ac, rfl, hk, hp⟩ := h1
    have hz1 := Hz.out.but hb1 HP.out
    have Hb1 : Hid (But P w w1) := Lib.hid ((But.of Hb.out).trans hb1)
    have Hr : Hid (R = rowP kind word.data.toList p e r.length t r) := Lib.hid (by rw [← HR.out]; unfold row; rw [hq])
    have HrN : Hid (r.length < N) := Lib.hid (by have := HL.out _ _ _ hq; have := HN.out; omega)
    have hWw : w.heap.size < W.heap.size := Hz.out.lt
    have hW1 := hb1.size
    have hb2 := Below.new w1 (.cells (t.cells aa an ac) 30)
    have HI : Hid (RowI w (w1.alloc (.cells (t.cells aa an ac) 30)) P e d w.heap.size w1.heap.size N kind word.data.toList p R r.length) := Lib.hid ⟨t, aa, an, ac, r, KVar.new w1 t aa an ac 30, (hk.inside.sub fun b hb => ⟨Nat.le_trans (Nat.le_of_lt hWw) hb.1, Nat.ne_of_lt hb.2, by have := hb.1; omega⟩).later hb2, hp.below hb2, Hb1.out.trans (But.of hb2), hz1.below hb2 hz1.lt, Hr.out, rfl, HrN.out⟩
    have HT : Hid (w.heap.size < w1.heap.size) := Lib.hid (by omega)
    have HPT : Hid (P < w1.heap.size) := Lib.hid (by have := HPW.out; omega)
    clear hq hk hp hb1 hz1 hb2 hWw hW1 Hr HR
    simp only [Tree.val]
    go_wp2_with fail
    go_loopg [] r.length (fun g wx => RowI w wx P e d w.heap.size w1.heap.size N kind word.data.toList p R g)
    case atStart => exact HI.out
    case round =>
      clear HI HrN
      obtain ⟨t, aa, an, ac, q, hk, hs, hp, hb, hz, hR, hg, hqN⟩ := hrel
      have Hk := Lib.hid hk; have Hs := Lib.hid hs; have Hp := Lib.hid hp; have Hbb := Lib.hid hb; have Hzz := Lib.hid hz; have HR := Lib.hid hR; have Hg := Lib.hid hg; have HqN := Lib.hid hqN
      have hfd := field_at
      have hn := pnext_any wr P e d q hp 3 word
      clear hk hs hp hb hz hR hg hqN
      have hPT := HPT.out
      have hPz := HP.out
      cases hB : isTok 3 word.data.toList q with
      | false =>
        have Hn := Lib.hid hn
        have Hr : Hid (R = .ok t q) := Lib.hid (HR.out.trans (rowP_stop hB))
        have HB := Lib.hid hB
        obtain ⟨k0, k1, k2, k3, k4, k5, k6, k7, k8, -, -⟩ := Hk.out
        obtain ⟨d0, d1, d2, d3, d4, d5, d6, d7, d8, dz, -⟩ := Hzz.out
        clear hn hB hfd
        go_wp2_with fail
        refine Hn.out.mono ?_
        rintro en w2 ⟨rfl, rfl⟩
        rw [HB.out]
        go_wp2_with fail
        exact bodyPost_ret (v := t.val aa an ac) (by simp [results, Tryz.results53, go_sem, d0, d1, d2, d3, d4, d5, d6, d7, d8, Tree.val]) rfl (by rw [Hr.out]; exact pans_ok (Hbb.out.put9 (Nat.le_refl _) _ _ _ _ _ _ _ _ _) ((Hs.out.putS (fun h => h.2.2 rfl) _ _ _ _ _ _ _ _ _).sub fun b hb => hb.1) (Hp.out.put9 hPz _ _ _ _ _ _ _ _ _))
      | true =>
        have Hn := Lib.hid hn
        obtain ⟨m, L, rfl⟩ := tok_cons hB
        obtain ⟨mk, mp, mx, mq, ⟨mvk, mvn, mvs, mvf⟩⟩ := m
        have HB := Lib.hid hB
        have Ht : Hid (Calls Tryz.prog 73 #[.pointer (some ⟨P, 0, none⟩)] wr fun en w' => en = .returned (.agg #[.int .i64 mk, .int .i64 (mp : Int), .string ⟨mx.toArray⟩, .int .i64 mq, .int .i64 mvk, .int .i64 mvn, .string mvs, .int .u64 mvf]) ∧ PAt w' P L e d ∧ But P wr w') := Lib.hid (ptake_any wr P e d _ L Hp.out)
        clear hn hB
        go_wp2_with fail
        refine Hn.out.mono ?_
        rintro en w2 ⟨rfl, rfl⟩
        rw [HB.out]
        go_wp2_with fail
        refine Ht.out.mono ?_
        rintro en w3 ⟨rfl, hp3, hb3⟩
        have Hk3 := Lib.hid (Hk.out.but hb3 hPT)
        have Hz3 := Lib.hid (Hzz.out.but hb3 hPz)
        have Hs3 := Lib.hid (Hs.out.blk hb3 (fun h => absurd h.1 (by omega)))
        have Hb3 := Lib.hid (Hbb.out.trans hb3)
        have Hp3 := Lib.hid hp3
        have HLN : Hid (L.length < N) := Lib.hid (by have := HqN.out; simp at this; omega)
        have hTz := HT.out
        clear hp3 hb3 Ht Hn Hk Hzz Hs Hbb Hp
        go_upto_region 4 with fail
        clear hfd
        cases hq : p L with
        | bad b =>
          have Hr : Hid (R = .bad b) := Lib.hid (HR.out.trans (rowP_bad HB.out hq))
          have Hc : Hid (Calls Tryz.prog 74 #[.pointer (some ⟨P, 0, none⟩)] w3.drew fun en w' => en = .panicked [{ v := faultV b, recovered := false }] ∧ But P w w') := Lib.hid ((HC.out w3.drew L (Hp3.out.below (Below.refl _ _).drew) HLN.out).mono (by
            rintro en w' ⟨h1, h2⟩
            rw [hq] at h2
            exact ⟨h2, (Hb3.out.trans (But.of (Below.refl _ _).drew)).trans h1⟩))
          clear hq
          have HKS : Hid (∀ X, KVar X w1.heap.size t aa an ac → X.cell? ⟨w1.heap.size, 0, none⟩ = some (.int .i64 t.k) ∧ X.cell? ⟨w1.heap.size, 1, none⟩ = some (.int .i64 t.pos) ∧ X.cell? ⟨w1.heap.size, 2, none⟩ = some (.string ⟨t.col.toArray⟩) ∧ X.cell? ⟨w1.heap.size, 3, none⟩ = some (.int .i64 t.v.k) ∧ X.cell? ⟨w1.heap.size, 4, none⟩ = some (.int .i64 t.v.n) ∧ X.cell? ⟨w1.heap.size, 5, none⟩ = some (.string t.v.s) ∧ X.cell? ⟨w1.heap.size, 6, none⟩ = some (.int .u64 t.v.f) ∧ X.cell? ⟨w1.heap.size, 7, none⟩ = some (.int .i64 t.op) ∧ X.cell? ⟨w1.heap.size, 8, none⟩ = some (.slice aa an ac)) := Lib.hid fun X h => ⟨h.c0, h.c1, h.c2, h.c3, h.c4, h.c5, h.c6, h.c7, h.c8⟩
          refine Code.wp_mono (Q := fun en x w' => en = .panic [{ v := faultV b, recovered := false }] ∧ But P w w' ∧ x.defers = []) ?_ ?_
          · rintro en x w' ⟨rfl, hb, hd⟩
            go_simp
            exact ⟨hd, by rw [Hr.out]; exact pans_bad hb rfl⟩
          · refine wp_region_held_drew (S := fun X => X.cell? ⟨w1.heap.size, 0, none⟩ = some (.int .i64 t.k) ∧ X.cell? ⟨w1.heap.size, 1, none⟩ = some (.int .i64 t.pos) ∧ X.cell? ⟨w1.heap.size, 2, none⟩ = some (.string ⟨t.col.toArray⟩) ∧ X.cell? ⟨w1.heap.size, 3, none⟩ = some (.int .i64 t.v.k) ∧ X.cell? ⟨w1.heap.size, 4, none⟩ = some (.int .i64 t.v.n) ∧ X.cell? ⟨w1.heap.size, 5, none⟩ = some (.string t.v.s) ∧ X.cell? ⟨w1.heap.size, 6, none⟩ = some (.int .u64 t.v.f) ∧ X.cell? ⟨w1.heap.size, 7, none⟩ = some (.int .i64 t.op) ∧ X.cell? ⟨w1.heap.size, 8, none⟩ = some (.slice aa an ac)) (by kernel_rfl) (HKS.out _ (Hk3.out.below (Below.refl _ _).drew Hk3.out.lt)) (fun hHeld => ?_)
            refine wpAnyH_take (i := 0) (oi := _) (v := ?_) rfl (by kernel_rfl) (by kernel_rfl) (by kernel_rfl) (fun _ _ _ h => h) (Or.inl ⟨by rfl, ?_⟩) (by assumption) ?_; rotate_left
            · (intro X hSw; (try dsimp only at hSw); go_simp; all_goals with_reducible rfl)
            (try simp only [Act.put, List.setIfInBounds_toArray, List.set_cons_zero, List.set_cons_succ])
            refine wpAnyH_take (i := 1) (oi := _) (v := ?_) rfl (by kernel_rfl) (by kernel_rfl) (by kernel_rfl) (fun _ _ _ h => h) (Or.inl ⟨by rfl, ?_⟩) (by assumption) ?_; rotate_left
            · (intro X hSw; (try dsimp only at hSw); go_simp; all_goals with_reducible rfl)
            (try simp only [Act.put, List.setIfInBounds_toArray, List.set_cons_zero, List.set_cons_succ])
            refine wpAnyH_take (i := 2) (oi := _) (v := ?_) rfl (by kernel_rfl) (by kernel_rfl) (by kernel_rfl) (fun _ _ _ h => h) (Or.inl ⟨by rfl, ?_⟩) (by assumption) ?_; rotate_left
            · (intro X hSw; (try dsimp only at hSw); go_simp; all_goals with_reducible rfl)
            (try simp only [Act.put, List.setIfInBounds_toArray, List.set_cons_zero, List.set_cons_succ])
            refine wpAnyH_take (i := 3) (oi := _) (v := ?_) rfl (by kernel_rfl) (by kernel_rfl) (by kernel_rfl) (fun _ _ _ h => h) (Or.inl ⟨by rfl, ?_⟩) (by assumption) ?_; rotate_left
            · (intro X hSw; (try dsimp only at hSw); go_simp; all_goals with_reducible rfl)
            (try simp only [Act.put, List.setIfInBounds_toArray, List.set_cons_zero, List.set_cons_succ])
            refine wpAnyH_ready (rs := [4]) (by kernel_rfl) (by simp) ?_
            refine AllReadyH.cons (o := _) rfl (fun K hK => ?_) AllReadyH.nil
            go_simp
            go_wp2_with fail
            refine (Hc.out).mono ?_
            rintro en w7 ⟨rfl, hb7⟩
            first | exact ⟨rfl, hb7⟩ | exact ⟨rfl, hb7, rfl⟩
        | ok u r =>
          have Hr : Hid (R = rowP kind word.data.toList p e r.length (.node kind mp [t, u]) r) := Lib.hid (HR.out.trans (rowP_on HL.out HB.out hq))
          have HrL : Hid (r.length < L.length) := Lib.hid (HL.out _ _ _ hq)
          have Hc : Hid (Calls Tryz.prog 74 #[.pointer (some ⟨P, 0, none⟩)] w3.drew fun en w' => ∃ ba bn bc, en = .returned (u.val ba bn bc) ∧ KVar w' w1.heap.size t aa an ac ∧ ZVar w' w.heap.size ∧ KSl w' (fun b => w.heap.size ≤ b ∧ b ≠ w1.heap.size ∧ b ≠ w.heap.size) t.kids aa an ∧ KSl w' (fun b => w.heap.size ≤ b ∧ b ≠ w1.heap.size ∧ b ≠ w.heap.size) u.kids ba bn ∧ PAt w' P r e d ∧ But P w w') := Lib.hid ((HC.out w3.drew L (Hp3.out.below (Below.refl _ _).drew) HLN.out).mono (by
            rintro en w' ⟨h1, h2⟩
            rw [hq] at h2
            obtain ⟨ba, bn, bc, rfl, h3, h4⟩ := h2
            have hk4 := Hk3.out.below (Below.refl _ _).drew Hk3.out.lt
            have hTs : w1.heap.size < w3.drew.heap.size := hk4.lt
            exact ⟨ba, bn, bc, rfl, hk4.but h1 hPT, (Hz3.out.below (Below.refl _ _).drew Hz3.out.lt).but h1 hPz, (Hs3.out.later (Below.refl _ _).drew).blk h1 (fun h => absurd h.1 (by omega)), h3.sub fun b hb => ⟨by omega, by omega, by omega⟩, h4, (Hb3.out.trans (But.of (Below.refl _ _).drew)).trans h1⟩))
          clear hq
          obtain ⟨k0, k1, k2, k3, k4, k5, k6, k7, k8, -, -⟩ := Hk3.out
          go_region_with (go_at_call 74; refine (Hc.out).mono ?_; rintro en w7 ⟨ba, bn, bc, rfl, hk7, hz7, hs7, hu7, hp7, hb7⟩; have Hk7 := Lib.hid hk7; have hlt8 := hk7.lt; have hlt7 : w1.heap.size ≠ w7.heap.size := Nat.ne_of_lt hk7.lt; obtain ⟨g0, g1, g2, g3, g4, g5, g6, g7, g8, gz, -⟩ := hk7)
          all_goals
            go_wp2_with fail
            go_roundg r.length
            case measure => have h1 := Hg.out; have h2 := HrL.out; simp only [List.length_cons] at h1; omega
            case rel => exact rowi_next Hk7.out hs7 hu7 hp7 hb7 hz7 hPT (Nat.le_of_lt hTz) (Nat.ne_of_gt hTz) Hr.out (by have := HrL.out; have := HLN.out; omega)
set_option maxHeartbeats 16000000 in
set_option maxRecDepth 100000 in
theorem prow_part (w : World) (P e d N : Nat) (l : List Tk) (h : PAt w P l e d) (hN : l.length < N) (word : ByteArray) (kind : Int) (p : List Tk → PRes) (hl : ∀ l t r, p l = .ok t r → r.length < l.length)
    (hc : ∀ W l, PAt W P l e d → l.length < N → Calls Tryz.prog 54 #[.pointer (some ⟨P, 0, none⟩)] W fun en w' => PAns P e d faultV W w' (p l) en) :
    Calls Tryz.prog 53 #[.pointer (some ⟨P, 0, none⟩), .string word, .int .i64 kind, .func (.func 54) #[.pointer (some ⟨P, 0, none⟩)] #[]] w fun en w' => PAns P e d faultV w w' (row kind word.data.toList p e l) en := by
  have H := Lib.hid h
  have HP : Hid (P < w.heap.size) := Lib.hid h.lt
  have HL := Lib.hid hl; have HN := Lib.hid hN
  have HC := Lib.hid hc
  clear h hl hN hc
  generalize hR : row kind word.data.toList p e l = R
  have HR := Lib.hid hR
  clear hR
  go_enter Tryz.func53, Tryz.ntmps53
  go_upto_region 1 with fail
  have Hb := Lib.hid (Below.new w (.cells zcells 30))
  have Hz := Lib.hid (ZVar.new w 30)
  generalize (w.alloc _) = W at Hb Hz ⊢
  have Ho := Lib.hid (HC.out W l (H.out.below Hb.out) HN.out)
  have HPW : Hid (P < W.heap.size) := Lib.hid (Nat.lt_of_lt_of_le HP.out Hb.out.size)
  go_wp2_with fail
  refine Ho.out.mono ?_
  clear Ho
  rintro en w1 ⟨hb1, h1⟩
  cases hq : p l with
  | bad b =>
    rw [hq] at h1
    have h2 : en = .panicked [{ v := faultV b, recovered := false }] := h1
    have Hr : Hid (R = .bad b) := Lib.hid (by rw [← HR.out]; unfold row; rw [hq])
    have Hb1 : Hid (But P w w1) := Lib.hid ((But.of Hb.out).trans hb1)
    clear h1 hq hb1
    subst h2
    go_wp2_with fail
    exact ⟨rfl, by rw [Hr.out]; exact pans_bad Hb1.out rfl⟩
  | ok t r =>
    rw [hq] at h1
    obtain ⟨aa, an, ac, rfl, hk, hp⟩ := h1
    have hz1 := Hz.out.but hb1 HP.out
    have Hb1 : Hid (But P w w1) := Lib.hid ((But.of Hb.out).trans hb1)
    have Hr : Hid (R = rowP kind word.data.toList p e r.length t r) := Lib.hid (by rw [← HR.out]; unfold row; rw [hq])
    have HrN : Hid (r.length < N) := Lib.hid (by have := HL.out _ _ _ hq; have := HN.out; omega)
    have hWw : w.heap.size < W.heap.size := Hz.out.lt
    have hW1 := hb1.size
    have hb2 := Below.new w1 (.cells (t.cells aa an ac) 30)
    have HI : Hid (RowI w (w1.alloc (.cells (t.cells aa an ac) 30)) P e d w.heap.size w1.heap.size N kind word.data.toList p R r.length) := Lib.hid ⟨t, aa, an, ac, r, KVar.new w1 t aa an ac 30, (hk.inside.sub fun b hb => ⟨Nat.le_trans (Nat.le_of_lt hWw) hb.1, Nat.ne_of_lt hb.2, by have := hb.1; omega⟩).later hb2, hp.below hb2, Hb1.out.trans (But.of hb2), hz1.below hb2 hz1.lt, Hr.out, rfl, HrN.out⟩
    have HT : Hid (w.heap.size < w1.heap.size) := Lib.hid (by omega)
    have HPT : Hid (P < w1.heap.size) := Lib.hid (by have := HPW.out; omega)
    clear hq hk hp hb1 hz1 hb2 hWw hW1 Hr HR
    simp only [Tree.val]
    go_wp2_with fail
    go_loopg [] r.length (fun g wx => RowI w wx P e d w.heap.size w1.heap.size N kind word.data.toList p R g)
    case atStart => exact HI.out
    case round =>
      clear HI HrN
      obtain ⟨t, aa, an, ac, q, hk, hs, hp, hb, hz, hR, hg, hqN⟩ := hrel
      have Hk := Lib.hid hk; have Hs := Lib.hid hs; have Hp := Lib.hid hp; have Hbb := Lib.hid hb; have Hzz := Lib.hid hz; have HR := Lib.hid hR; have Hg := Lib.hid hg; have HqN := Lib.hid hqN
      have hfd := field_at
      have hn := pnext_any wr P e d q hp 3 word
      clear hk hs hp hb hz hR hg hqN
      have hPT := HPT.out
      have hPz := HP.out
      cases hB : isTok 3 word.data.toList q with
      | false =>
        have Hn := Lib.hid hn
        have Hr : Hid (R = .ok t q) := Lib.hid (HR.out.trans (rowP_stop hB))
        have HB := Lib.hid hB
        obtain ⟨k0, k1, k2, k3, k4, k5, k6, k7, k8, -, -⟩ := Hk.out
        obtain ⟨d0, d1, d2, d3, d4, d5, d6, d7, d8, dz, -⟩ := Hzz.out
        clear hn hB hfd
        go_wp2_with fail
        refine Hn.out.mono ?_
        rintro en w2 ⟨rfl, rfl⟩
        rw [HB.out]
        go_wp2_with fail
        exact bodyPost_ret (v := t.val aa an ac) (by simp [results, Tryz.results53, go_sem, d0, d1, d2, d3, d4, d5, d6, d7, d8, Tree.val]) rfl (by rw [Hr.out]; exact pans_ok (Hbb.out.put9 (Nat.le_refl _) _ _ _ _ _ _ _ _ _) ((Hs.out.putS (fun h => h.2.2 rfl) _ _ _ _ _ _ _ _ _).sub fun b hb => hb.1) (Hp.out.put9 hPz _ _ _ _ _ _ _ _ _))
      | true =>
        have Hn := Lib.hid hn
        obtain ⟨m, L, rfl⟩ := tok_cons hB
        obtain ⟨mk, mp, mx, mq, ⟨mvk, mvn, mvs, mvf⟩⟩ := m
        have HB := Lib.hid hB
        have Ht : Hid (Calls Tryz.prog 73 #[.pointer (some ⟨P, 0, none⟩)] wr fun en w' => en = .returned (.agg #[.int .i64 mk, .int .i64 (mp : Int), .string ⟨mx.toArray⟩, .int .i64 mq, .int .i64 mvk, .int .i64 mvn, .string mvs, .int .u64 mvf]) ∧ PAt w' P L e d ∧ But P wr w') := Lib.hid (ptake_any wr P e d _ L Hp.out)
        clear hn hB
        go_wp2_with fail
        refine Hn.out.mono ?_
        rintro en w2 ⟨rfl, rfl⟩
        rw [HB.out]
        go_wp2_with fail
        refine Ht.out.mono ?_
        rintro en w3 ⟨rfl, hp3, hb3⟩
        have Hk3 := Lib.hid (Hk.out.but hb3 hPT)
        have Hz3 := Lib.hid (Hzz.out.but hb3 hPz)
        have Hs3 := Lib.hid (Hs.out.blk hb3 (fun h => absurd h.1 (by omega)))
        have Hb3 := Lib.hid (Hbb.out.trans hb3)
        have Hp3 := Lib.hid hp3
        have HLN : Hid (L.length < N) := Lib.hid (by have := HqN.out; simp at this; omega)
        have hTz := HT.out
        clear hp3 hb3 Ht Hn Hk Hzz Hs Hbb Hp
        go_upto_region 4 with fail
        clear hfd
        cases hq : p L with
        | bad b =>
          have Hr : Hid (R = .bad b) := Lib.hid (HR.out.trans (rowP_bad HB.out hq))
          have Hc : Hid (Calls Tryz.prog 54 #[.pointer (some ⟨P, 0, none⟩)] w3.drew fun en w' => en = .panicked [{ v := faultV b, recovered := false }] ∧ But P w w') := Lib.hid ((HC.out w3.drew L (Hp3.out.below (Below.refl _ _).drew) HLN.out).mono (by
            rintro en w' ⟨h1, h2⟩
            rw [hq] at h2
            exact ⟨h2, (Hb3.out.trans (But.of (Below.refl _ _).drew)).trans h1⟩))
          clear hq
          have HKS : Hid (∀ X, KVar X w1.heap.size t aa an ac → X.cell? ⟨w1.heap.size, 0, none⟩ = some (.int .i64 t.k) ∧ X.cell? ⟨w1.heap.size, 1, none⟩ = some (.int .i64 t.pos) ∧ X.cell? ⟨w1.heap.size, 2, none⟩ = some (.string ⟨t.col.toArray⟩) ∧ X.cell? ⟨w1.heap.size, 3, none⟩ = some (.int .i64 t.v.k) ∧ X.cell? ⟨w1.heap.size, 4, none⟩ = some (.int .i64 t.v.n) ∧ X.cell? ⟨w1.heap.size, 5, none⟩ = some (.string t.v.s) ∧ X.cell? ⟨w1.heap.size, 6, none⟩ = some (.int .u64 t.v.f) ∧ X.cell? ⟨w1.heap.size, 7, none⟩ = some (.int .i64 t.op) ∧ X.cell? ⟨w1.heap.size, 8, none⟩ = some (.slice aa an ac)) := Lib.hid fun X h => ⟨h.c0, h.c1, h.c2, h.c3, h.c4, h.c5, h.c6, h.c7, h.c8⟩
          refine Code.wp_mono (Q := fun en x w' => en = .panic [{ v := faultV b, recovered := false }] ∧ But P w w' ∧ x.defers = []) ?_ ?_
          · rintro en x w' ⟨rfl, hb, hd⟩
            go_simp
            exact ⟨hd, by rw [Hr.out]; exact pans_bad hb rfl⟩
          · refine wp_region_held_drew (S := fun X => X.cell? ⟨w1.heap.size, 0, none⟩ = some (.int .i64 t.k) ∧ X.cell? ⟨w1.heap.size, 1, none⟩ = some (.int .i64 t.pos) ∧ X.cell? ⟨w1.heap.size, 2, none⟩ = some (.string ⟨t.col.toArray⟩) ∧ X.cell? ⟨w1.heap.size, 3, none⟩ = some (.int .i64 t.v.k) ∧ X.cell? ⟨w1.heap.size, 4, none⟩ = some (.int .i64 t.v.n) ∧ X.cell? ⟨w1.heap.size, 5, none⟩ = some (.string t.v.s) ∧ X.cell? ⟨w1.heap.size, 6, none⟩ = some (.int .u64 t.v.f) ∧ X.cell? ⟨w1.heap.size, 7, none⟩ = some (.int .i64 t.op) ∧ X.cell? ⟨w1.heap.size, 8, none⟩ = some (.slice aa an ac)) (by kernel_rfl) (HKS.out _ (Hk3.out.below (Below.refl _ _).drew Hk3.out.lt)) (fun hHeld => ?_)
            refine wpAnyH_take (i := 0) (oi := _) (v := ?_) rfl (by kernel_rfl) (by kernel_rfl) (by kernel_rfl) (fun _ _ _ h => h) (Or.inl ⟨by rfl, ?_⟩) (by assumption) ?_; rotate_left
            · (intro X hSw; (try dsimp only at hSw); go_simp; all_goals with_reducible rfl)
            (try simp only [Act.put, List.setIfInBounds_toArray, List.set_cons_zero, List.set_cons_succ])
            refine wpAnyH_take (i := 1) (oi := _) (v := ?_) rfl (by kernel_rfl) (by kernel_rfl) (by kernel_rfl) (fun _ _ _ h => h) (Or.inl ⟨by rfl, ?_⟩) (by assumption) ?_; rotate_left
            · (intro X hSw; (try dsimp only at hSw); go_simp; all_goals with_reducible rfl)
            (try simp only [Act.put, List.setIfInBounds_toArray, List.set_cons_zero, List.set_cons_succ])
            refine wpAnyH_take (i := 2) (oi := _) (v := ?_) rfl (by kernel_rfl) (by kernel_rfl) (by kernel_rfl) (fun _ _ _ h => h) (Or.inl ⟨by rfl, ?_⟩) (by assumption) ?_; rotate_left
            · (intro X hSw; (try dsimp only at hSw); go_simp; all_goals with_reducible rfl)
            (try simp only [Act.put, List.setIfInBounds_toArray, List.set_cons_zero, List.set_cons_succ])
            refine wpAnyH_take (i := 3) (oi := _) (v := ?_) rfl (by kernel_rfl) (by kernel_rfl) (by kernel_rfl) (fun _ _ _ h => h) (Or.inl ⟨by rfl, ?_⟩) (by assumption) ?_; rotate_left
            · (intro X hSw; (try dsimp only at hSw); go_simp; all_goals with_reducible rfl)
            (try simp only [Act.put, List.setIfInBounds_toArray, List.set_cons_zero, List.set_cons_succ])
            refine wpAnyH_ready (rs := [4]) (by kernel_rfl) (by simp) ?_
            refine AllReadyH.cons (o := _) rfl (fun K hK => ?_) AllReadyH.nil
            go_simp
            go_wp2_with fail
            refine (Hc.out).mono ?_
            rintro en w7 ⟨rfl, hb7⟩
            first | exact ⟨rfl, hb7⟩ | exact ⟨rfl, hb7, rfl⟩
        | ok u r =>
          have Hr : Hid (R = rowP kind word.data.toList p e r.length (.node kind mp [t, u]) r) := Lib.hid (HR.out.trans (rowP_on HL.out HB.out hq))
          have HrL : Hid (r.length < L.length) := Lib.hid (HL.out _ _ _ hq)
          have Hc : Hid (Calls Tryz.prog 54 #[.pointer (some ⟨P, 0, none⟩)] w3.drew fun en w' => ∃ ba bn bc, en = .returned (u.val ba bn bc) ∧ KVar w' w1.heap.size t aa an ac ∧ ZVar w' w.heap.size ∧ KSl w' (fun b => w.heap.size ≤ b ∧ b ≠ w1.heap.size ∧ b ≠ w.heap.size) t.kids aa an ∧ KSl w' (fun b => w.heap.size ≤ b ∧ b ≠ w1.heap.size ∧ b ≠ w.heap.size) u.kids ba bn ∧ PAt w' P r e d ∧ But P w w') := Lib.hid ((HC.out w3.drew L (Hp3.out.below (Below.refl _ _).drew) HLN.out).mono (by
            rintro en w' ⟨h1, h2⟩
            rw [hq] at h2
            obtain ⟨ba, bn, bc, rfl, h3, h4⟩ := h2
            have hk4 := Hk3.out.below (Below.refl _ _).drew Hk3.out.lt
            have hTs : w1.heap.size < w3.drew.heap.size := hk4.lt
            exact ⟨ba, bn, bc, rfl, hk4.but h1 hPT, (Hz3.out.below (Below.refl _ _).drew Hz3.out.lt).but h1 hPz, (Hs3.out.later (Below.refl _ _).drew).blk h1 (fun h => absurd h.1 (by omega)), h3.sub fun b hb => ⟨by omega, by omega, by omega⟩, h4, (Hb3.out.trans (But.of (Below.refl _ _).drew)).trans h1⟩))
          clear hq
          obtain ⟨k0, k1, k2, k3, k4, k5, k6, k7, k8, -, -⟩ := Hk3.out
          go_region_with (go_at_call 54; refine (Hc.out).mono ?_; rintro en w7 ⟨ba, bn, bc, rfl, hk7, hz7, hs7, hu7, hp7, hb7⟩; have Hk7 := Lib.hid hk7; have hlt8 := hk7.lt; have hlt7 : w1.heap.size ≠ w7.heap.size := Nat.ne_of_lt hk7.lt; obtain ⟨g0, g1, g2, g3, g4, g5, g6, g7, g8, gz, -⟩ := hk7)
          all_goals
            go_wp2_with fail
            go_roundg r.length
            case measure => have h1 := Hg.out; have h2 := HrL.out; simp only [List.length_cons] at h1; omega
            case rel => exact rowi_next Hk7.out hs7 hu7 hp7 hb7 hz7 hPT (Nat.le_of_lt hTz) (Nat.ne_of_gt hTz) Hr.out (by have := HrL.out; have := HLN.out; omega)
end Go.Proofs.YtfkghfmgeholeaaGreatDoor
