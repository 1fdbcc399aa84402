/- The walk of a parser's atom. -/
import Derived.Test.YtfkghfmgeholeaaGreatDoorPc2
import Derived.Deep.RegionHeld3
import Derived.Deep.RegionWith
set_option linter.unusedVariables false
set_option linter.unusedSimpArgs false
namespace Go.Proofs.YtfkghfmgeholeaaGreatDoor
open Go.RowKit

abbrev Tree.cells2 (t : Tree) (a : Option Addr) (n c : Nat) (u : Tree) (b : Option Addr) (m k : Nat) : Array Value := #[.int .i64 t.k, .int .i64 t.pos, .string ⟨t.col.toArray⟩, .int .i64 t.v.k, .int .i64 t.v.n, .string t.v.s, .int .u64 t.v.f, .int .i64 t.op, .slice a n c, .int .i64 u.k, .int .i64 u.pos, .string ⟨u.col.toArray⟩, .int .i64 u.v.k, .int .i64 u.v.n, .string u.v.s, .int .u64 u.v.f, .int .i64 u.op, .slice b m k]
theorem row2 (W : World) (t : Tree) (a : Option Addr) (n c : Nat) (u : Tree) (b : Option Addr) (m k : Nat) (ty : TypeId) {S : Nat → Prop} (ht : KSl W S t.kids a n) (hu : KSl W S u.kids b m) (hS : S W.heap.size) : KSl (W.alloc (.cells (t.cells2 a n c u b m k) ty)) S [t, u] (some ⟨W.heap.size, 0, none⟩) 2 := by
  have hb := Below.new W (.cells (t.cells2 a n c u b m k) ty)
  refine .on hS (by simp) rfl (.cons (a := a) (n := n) (c := c) ?_ (ht.later hb) (.cons (a := b) (n := m) (c := k) ?_ (hu.later hb) (.nil _ _)))
  · constructor <;> simp
  · constructor <;> simp
theorem KSl.offS {w : World} {S : Nat → Prop} {b : Nat} {l : List Tree} {a : Option Addr} {n : Nat} (h : KSl w S l a n) (hb : ¬ S b) (o : Nat) (v : Value) : KSl (w.setCell ⟨b, o, none⟩ v) S l a n :=
  h.map (fun g i u hl hc => cell_off hc (fun e => by injection e with e _; subst e; exact hb hl)) (by simp [World.setCell])
theorem KSl.putS {W : World} {S : Nat → Prop} {b : Nat} {l : List Tree} {a : Option Addr} {n : Nat} (h : KSl W S l a n) (hb : ¬ S b) (v0 v1 v2 v3 v4 v5 v6 v7 v8 : Value) : KSl (st9 W b v0 v1 v2 v3 v4 v5 v6 v7 v8) S l a n :=
  (((((((((h.offS hb _ _).offS hb _ _).offS hb _ _).offS hb _ _).offS hb _ _).offS hb _ _).offS hb _ _).offS hb _ _).offS hb _ _)
/-- what stands while a comparison's second operand is read -/
structure At6 (w X : World) (P lo A Z T : Nat) (a : Tree) (aa : Option Addr) (an ac : Nat) (m : Tk) : Prop where
  k : KVar X A a aa an ac
  s : KSl X lo a.kids aa an
  t : TAt X T m
  b : But P w X
theorem At6.but {w X X' : World} {P lo A Z T : Nat} {a : Tree} {aa : Option Addr} {an ac : Nat} {m : Tk} (h : At6 w X P lo A Z T a aa an ac m) (hb : But P X X') (hA : P < A) (hT : P < T) (hlo : P < lo) : At6 w X' P lo A Z T a aa an ac m :=
  ⟨h.k.but hb hA, h.s.but hb hlo, h.t.but hb hT, h.b.trans hb⟩
theorem At6.drew {w X : World} {P lo A Z T : Nat} {a : Tree} {aa : Option Addr} {an ac : Nat} {m : Tk} (h : At6 w X P lo A Z T a aa an ac m) (hA : P < A) (hT : P < T) (hlo : P < lo) : At6 w X.drew P lo A Z T a aa an ac m := h.but (But.of (Below.refl _ _).drew) hA hT hlo
theorem At6.alloc {w X : World} {P lo A Z T : Nat} {a : Tree} {aa : Option Addr} {an ac : Nat} {m : Tk} (h : At6 w X P lo A Z T a aa an ac m) (hA : P < A) (hT : P < T) (hlo : P < lo) (o : Obj) : At6 w (X.alloc o) P lo A Z T a aa an ac m := h.but (But.of (Below.new _ _)) hA hT hlo
theorem TAt.off {w : World} {b b' : Nat} {t : Tk} (h : TAt w b t) (hb : b' ≠ b) (o : Nat) (v : Value) : TAt (w.setCell ⟨b', o, none⟩ v) b t where
  c0 := cell_off h.c0 (addr_block_ne hb o 0)
  c1 := cell_off h.c1 (addr_block_ne hb o 1)
  c2 := cell_off h.c2 (addr_block_ne hb o 2)
  c3 := cell_off h.c3 (addr_block_ne hb o 3)
  c4 := cell_off h.c4 (addr_block_ne hb o 4)
  c5 := cell_off h.c5 (addr_block_ne hb o 5)
  c6 := cell_off h.c6 (addr_block_ne hb o 6)
  c7 := cell_off h.c7 (addr_block_ne hb o 7)
  z := fun i => (World.frozen?_setCell _ _ _ _).trans (h.z i)
  lt := by simpa [World.setCell] using h.lt
theorem At6.put9 {w X : World} {P lo A Z T : Nat} {a : Tree} {aa : Option Addr} {an ac : Nat} {m : Tk} (h : At6 w X P lo A Z T a aa an ac m) (hZ : Z < lo) (hA : lo ≤ A) (hT : lo ≤ T) (hw : w.heap.size ≤ Z) (v0 v1 v2 v3 v4 v5 v6 v7 v8 : Value) : At6 w (st9 X Z v0 v1 v2 v3 v4 v5 v6 v7 v8) P lo A Z T a aa an ac m :=
  ⟨h.k.put9 (by omega) _ _ _ _ _ _ _ _ _, h.s.put9 hZ _ _ _ _ _ _ _ _ _, (((((((((h.t.off (by omega) _ _).off (by omega) _ _).off (by omega) _ _).off (by omega) _ _).off (by omega) _ _).off (by omega) _ _).off (by omega) _ _).off (by omega) _ _).off (by omega) _ _), h.b.put9 hw _ _ _ _ _ _ _ _ _⟩
theorem at6_done {w X : World} {P e d lo A Z T mp : Nat} {op : Int} {a b : Tree} {aa ba : Option Addr} {an ac bn bc : Nat} {m : Tk} {q : List Tk} (h : At6 w X P lo A Z T a aa an ac m) (hb : KSl X lo b.kids ba bn) (hp : PAt X P q e d) (hZlo : Z < lo) (hPZ : P < Z) (hZw : w.heap.size ≤ Z) (hlo : lo ≤ T) {ty : TypeId} {v0 v1 v2 v3 v4 v5 v6 v7 v8 : Value} {R : PRes} (hR : R = .ok (.mk 2 (mp : Int) [] op zeroVal [a, b]) q) :
    PAnsL Z P e d faultV w ((st9 X Z v0 v1 v2 v3 v4 v5 v6 v7 v8).alloc (.cells (a.cells2 aa an ac b ba bn bc) ty)) R (.returned ((Tree.mk 2 (mp : Int) [] op zeroVal [a, b]).val (some ⟨X.heap.size, 0, none⟩) 2 2)) := by
  subst hR
  have hb7 := h.b.put9 hZw v0 v1 v2 v3 v4 v5 v6 v7 v8
  have hsz := st9_size X Z v0 v1 v2 v3 v4 v5 v6 v7 v8
  have h1 := h.s.put9 hZlo v0 v1 v2 v3 v4 v5 v6 v7 v8
  have h2 := hb.put9 hZlo v0 v1 v2 v3 v4 v5 v6 v7 v8
  have h3 := hp.put9 hPZ v0 v1 v2 v3 v4 v5 v6 v7 v8
  have hT := h.t.lt
  generalize (st9 X Z _ _ _ _ _ _ _ _ _) = Y at *
  rw [← hsz]
  have hn := Below.new Y (.cells (a.cells2 aa an ac b ba bn bc) ty)
  exact pans_ok (hb7.trans (But.of hn)) ((row2 Y a aa an ac b ba bn bc ty h1 h2 (by omega)).mono (Nat.le_of_lt hZlo)) (h3.below hn)
theorem ZVar.k {w : World} {b : Nat} (h : ZVar w b) : KVar w b (.mk 0 0 [] 0 zeroVal []) none 0 0 := ⟨h.c0, h.c1, h.c2, h.c3, h.c4, h.c5, h.c6, h.c7, h.c8, h.z, h.lt⟩
theorem at6_var {X : World} {Z mp : Nat} {op : Int} {a b : Tree} (hz : ZVar X Z) (o : Obj) : KVar ((st9 X Z (.int .i64 2) (.int .i64 (mp : Int)) (.string ⟨#[]⟩) (.int .i64 0) (.int .i64 0) (.string ⟨#[]⟩) (.int .u64 0) (.int .i64 op) (.slice (some ⟨X.heap.size, 0, none⟩) 2 2)).alloc o) Z (.mk 2 (mp : Int) [] op zeroVal [a, b]) (some ⟨X.heap.size, 0, none⟩) 2 2 := by
  have h := hz.k.put (.mk 2 (mp : Int) [] op zeroVal [a, b]) (some ⟨X.heap.size, 0, none⟩) 2 2
  exact h.below (Below.new _ _) h.lt
set_option maxHeartbeats 16000000 in
set_option maxRecDepth 100000 in
theorem patom_any (w : World) (P e d : Nat) (l : List Tk) (h : PAt w P l e d) :
    Calls Tryz.prog 88 #[.pointer (some ⟨P, 0, none⟩)] w fun en w' => PAns P e d faultV w w' (pAtom e l) en := by
  have H := Lib.hid h
  have HP : Hid (P < w.heap.size) := Lib.hid h.lt
  clear h
  generalize hR : pAtom e l = R
  have HR := Lib.hid hR
  clear hR
  go_enter Tryz.func88, Tryz.ntmps88
  go_upto_region 1 with fail
  have Hb := Lib.hid (Below.new w (.cells zcells 30))
  have Hz := Lib.hid (ZVar.new w 30)
  generalize (w.alloc _) = W at Hb Hz ⊢
  have Ho := Lib.hid (poperand_any W P e d l (H.out.below Hb.out))
  have HPW : Hid (P < W.heap.size) := Lib.hid (Nat.lt_of_lt_of_le HP.out Hb.out.size)
  go_wp2_with fail
  refine Ho.out.mono ?_
  clear Ho
  rintro en w1 ⟨hb1, h1⟩
  cases hq : pOper e l with
  | bad p =>
    rw [hq] at h1
    have h2 : en = .panicked [{ v := faultV p, recovered := false }] := h1
    have Hr : Hid (R = .bad p) := Lib.hid (by rw [← HR.out]; unfold pAtom; rw [hq])
    have Hb1 : Hid (But P w w1) := Lib.hid ((But.of Hb.out).trans hb1)
    clear h1 hq hb1
    subst h2
    go_wp2_with fail
    exact ⟨rfl, by rw [Hr.out]; exact pans_bad Hb1.out rfl⟩
  | ok a r =>
    rw [hq] at h1
    obtain ⟨aa, an, ac, rfl, hk, hp⟩ := h1
    have Hq := Lib.hid hq
    have hz1 := Hz.out.but hb1 HP.out
    have Hb1 : Hid (But P w w1) := Lib.hid ((But.of Hb.out).trans hb1)
    have Hp1 := Lib.hid hp
    have Hk1 := Lib.hid hk
    have HW1 : Hid (W.heap.size ≤ w1.heap.size) := Lib.hid hb1.size
    have HZl : Hid (w.heap.size < W.heap.size) := Lib.hid Hz.out.lt
    clear hq hk hp hb1
    simp only [Tree.val]
    go_upto_region 2 with fail
    have hb2 := Below.new w1 (.cells (a.cells aa an ac) 30)
    have HA := Lib.hid (KVar.new w1 a aa an ac 30)
    have HZ := Lib.hid (hz1.below hb2 hz1.lt)
    have Hp := Lib.hid (Hp1.out.below hb2)
    have Hk := Lib.hid (Hk1.out.later hb2)
    have Hb2 : Hid (But P w _) := Lib.hid (Hb1.out.trans (But.of hb2))
    have Hs2 := Lib.hid hb2.size
    clear hb2 hz1
    generalize (w1.alloc _) = W2 at HA HZ Hp Hk Hb2 Hs2 ⊢
    have Hn3 : Hid (∀ (B : Bool), isTok 3 kIs r = B → ∀ W, PAt W P r e d → Calls Tryz.prog 72 #[.pointer (some ⟨P, 0, none⟩), .int .i64 3, .string ⟨#[105, 115]⟩] W fun en w' => en = .returned (.bool B) ∧ w' = W) := Lib.hid fun B hB W h => hB ▸ pnext_any W P e d r h 3 ⟨#[105, 115]⟩
    have Hn2 : Hid (∀ (B : Bool), isTok 2 [] r = B → ∀ W, PAt W P r e d → Calls Tryz.prog 72 #[.pointer (some ⟨P, 0, none⟩), .int .i64 2, .string ⟨#[]⟩] W fun en w' => en = .returned (.bool B) ∧ w' = W) := Lib.hid fun B hB W h => hB ▸ pnext_any W P e d r h 2 ⟨#[]⟩
    cases hB : isTok 3 kIs r with
    | true =>
      obtain ⟨m, L, rfl⟩ := tok_cons hB
      have h7 := Hn3.out _ hB _ Hp.out
      have Hr : Hid (R = pNull e a m.pos L) := Lib.hid (by rw [← HR.out]; unfold pAtom; rw [Hq.out]; simp only [hB, if_true, List.tail_cons]; rfl)
      have Hnl := Lib.hid (pnull_any W2 P e d W.heap.size m L Hp.out a aa an ac Hk.out HPW.out (Nat.le_trans HW1.out Hs2.out))
      obtain ⟨k0, k1, k2, k3, k4, k5, k6, k7, k8, -, -⟩ := HA.out
      clear hB Hn3 Hn2
      go_wp2_with fail
      refine h7.mono ?_
      rintro en w3 ⟨rfl, rfl⟩
      clear h7
      go_wp2_with fail
      refine Hnl.out.mono ?_
      clear Hnl
      rintro en w4 ⟨hb4, h4⟩
      have hz4 := HZ.out.but hb4 HP.out
      have Hb4 : Hid (But P w w4) := Lib.hid (Hb2.out.trans hb4)
      cases hq : pNull e a m.pos L with
      | bad p =>
        rw [hq] at h4
        have h2 : en = .panicked [{ v := faultV p, recovered := false }] := h4
        replace Hr : Hid (R = .bad p) := Lib.hid (Hr.out.trans hq)
        clear h4 hq hb4
        subst h2
        go_wp2_with fail
        exact ⟨rfl, by rw [Hr.out]; exact pans_bad Hb4.out rfl⟩
      | ok t q =>
        rw [hq] at h4
        obtain ⟨ta, tn, tc, rfl, hk4, hp4⟩ := h4
        replace Hr : Hid (R = .ok t q) := Lib.hid (Hr.out.trans hq)
        have Hk4 := Lib.hid hk4; have Hp4 := Lib.hid hp4
        obtain ⟨d0, d1, d2, d3, d4, d5, d6, d7, d8, dz, -⟩ := hz4
        clear hq hb4 hk4 hp4 k0 k1 k2 k3 k4 k5 k6 k7 k8
        simp only [Tree.val]
        go_wp2_with fail
        exact bodyPost_ret (v := t.val ta tn tc) (by simp [results, Tryz.results88, go_sem, d0, d1, d2, d3, d4, d5, d6, d7, d8, Tree.val]) rfl (by rw [Hr.out]; exact pans_ok (Hb4.out.put9 (Nat.le_refl _) _ _ _ _ _ _ _ _ _) ((Hk4.out.put9 HZl.out _ _ _ _ _ _ _ _ _).mono (Nat.le_of_lt HZl.out)) (Hp4.out.put9 HP.out _ _ _ _ _ _ _ _ _))
    | false =>
      have h7 := Hn3.out _ hB _ Hp.out
      have HB := Lib.hid hB
      clear hB Hn3
      go_wp2_with fail
      refine h7.mono ?_
      rintro en w3 ⟨rfl, rfl⟩
      clear h7
      cases hC : isTok 2 [] r with
      | false =>
        have h7 := Hn2.out _ hC _ Hp.out
        have Hr : Hid (R = .ok a r) := Lib.hid (by rw [← HR.out]; unfold pAtom; rw [Hq.out]; simp [HB.out, hC])
        obtain ⟨k0, k1, k2, k3, k4, k5, k6, k7, k8, -, -⟩ := HA.out
        obtain ⟨d0, d1, d2, d3, d4, d5, d6, d7, d8, dz, -⟩ := HZ.out
        clear hC Hn2
        go_wp2_with fail
        refine h7.mono ?_
        rintro en w3 ⟨rfl, rfl⟩
        clear h7
        go_wp2_with fail
        exact bodyPost_ret (v := a.val aa an ac) (by simp [results, Tryz.results88, go_sem, d0, d1, d2, d3, d4, d5, d6, d7, d8, Tree.val]) rfl (by rw [Hr.out]; exact pans_ok (Hb2.out.put9 (Nat.le_refl _) _ _ _ _ _ _ _ _ _) ((Hk.out.put9 HZl.out _ _ _ _ _ _ _ _ _).mono (Nat.le_of_lt HZl.out)) (Hp.out.put9 HP.out _ _ _ _ _ _ _ _ _))
      | true =>
        obtain ⟨m, L, rfl⟩ := tok_cons hC
        obtain ⟨mk, mp, mx, mq, ⟨mvk, mvn, mvs, mvf⟩⟩ := m
        have h7 := Hn2.out _ hC _ Hp.out
        have Ht : Hid (∀ W, PAt W P (⟨mk, mp, mx, mq, ⟨mvk, mvn, mvs, mvf⟩⟩ :: L) e d → Calls Tryz.prog 73 #[.pointer (some ⟨P, 0, none⟩)] W fun en w' => en = .returned (.agg #[.int .i64 mk, .int .i64 (mp : Int), .string ⟨mx.toArray⟩, .int .i64 mq, .int .i64 mvk, .int .i64 mvn, .string mvs, .int .u64 mvf]) ∧ PAt w' P L e d ∧ But P W w') := Lib.hid fun W h => ptake_any W P e d _ L h
        have HC := Lib.hid hC
        clear hC Hn2
        go_wp2_with fail
        refine h7.mono ?_
        rintro en w3 ⟨rfl, rfl⟩
        clear h7
        go_wp2_with fail
        refine (Ht.out _ Hp.out).mono ?_
        rintro en w4 ⟨rfl, hp4, hb4⟩
        have hA4 := HA.out.but hb4 (Nat.lt_of_lt_of_le HPW.out HW1.out)
        have hz4 := HZ.out.but hb4 HP.out
        have hk4 := Hk.out.but hb4 HPW.out
        have hb4' := Hb2.out.trans hb4
        go_upto_region 6 with fail
        have hb6 := Below.new w4 (.cells (Tk.cells ⟨mk, mp, mx, mq, ⟨mvk, mvn, mvs, mvf⟩⟩) 93)
        have h6 : At6 w _ P W.heap.size w1.heap.size w.heap.size w4.heap.size a aa an ac ⟨mk, mp, mx, mq, ⟨mvk, mvn, mvs, mvf⟩⟩ := ⟨hA4.below hb6 hA4.lt, hk4.later hb6, TAt.new w4 ⟨mk, mp, mx, mq, ⟨mvk, mvn, mvs, mvf⟩⟩ 93, hb4'.trans (But.of hb6)⟩
        have hz6 := hz4.below hb6 hz4.lt
        have hp6 := hp4.below hb6
        have HAl : Hid (w1.heap.size < w4.heap.size) := Lib.hid hA4.lt
        have H6 := Lib.hid h6
        have HZ6 := Lib.hid hz6
        have H6p := Lib.hid hp6
        clear h6 hz6 hp6 hb6 hA4 hz4 hk4 hb4' hp4 hb4 Ht Hp HA HZ Hk Hb2
        generalize (w4.alloc _) = W6 at H6 H6p HZ6 ⊢
        generalize w4.heap.size = T at H6 HAl ⊢
        have hTP : P < T := by have := HPW.out; have := HW1.out; have := HAl.out; omega
        have hAP : P < w1.heap.size := by have := HPW.out; have := HW1.out; omega
        have hPl := HPW.out
        have hPz := HP.out
        have hZl := HZl.out
        have hAl := HW1.out
        have hTl : W.heap.size ≤ T := by have := HAl.out; omega
        have HKS : Hid (∀ X, At6 w X P W.heap.size w1.heap.size w.heap.size T a aa an ac ⟨mk, mp, mx, mq, ⟨mvk, mvn, mvs, mvf⟩⟩ → At6 w X P W.heap.size w1.heap.size w.heap.size T a aa an ac ⟨mk, mp, mx, mq, ⟨mvk, mvn, mvs, mvf⟩⟩ ∧ X.cell? ⟨T, 1, none⟩ = some (.int .i64 (mp : Int)) ∧ X.cell? ⟨T, 3, none⟩ = some (.int .i64 mq) ∧ X.cell? ⟨w1.heap.size, 0, none⟩ = some (.int .i64 a.k) ∧ X.cell? ⟨w1.heap.size, 1, none⟩ = some (.int .i64 a.pos) ∧ X.cell? ⟨w1.heap.size, 2, none⟩ = some (.string ⟨a.col.toArray⟩) ∧ X.cell? ⟨w1.heap.size, 3, none⟩ = some (.int .i64 a.v.k) ∧ X.cell? ⟨w1.heap.size, 4, none⟩ = some (.int .i64 a.v.n) ∧ X.cell? ⟨w1.heap.size, 5, none⟩ = some (.string a.v.s) ∧ X.cell? ⟨w1.heap.size, 6, none⟩ = some (.int .u64 a.v.f) ∧ X.cell? ⟨w1.heap.size, 7, none⟩ = some (.int .i64 a.op) ∧ X.cell? ⟨w1.heap.size, 8, none⟩ = some (.slice aa an ac)) := Lib.hid fun X h => ⟨h, h.t.c1, h.t.c3, h.k.c0, h.k.c1, h.k.c2, h.k.c3, h.k.c4, h.k.c5, h.k.c6, h.k.c7, h.k.c8⟩
        cases hq2 : pOper e L with
        | bad p =>
          have Hr : Hid (R = .bad p) := Lib.hid (by rw [← HR.out]; unfold pAtom; rw [Hq.out]; simp only [HB.out, HC.out, if_true, Bool.false_eq_true, if_false, hq2])
          have Hc : Hid (Calls Tryz.prog 104 #[.pointer (some ⟨P, 0, none⟩)] W6.drew fun en w' => en = .panicked [{ v := faultV p, recovered := false }] ∧ But P w w') := Lib.hid ((poperand_any W6.drew P e d L (H6p.out.below (Below.refl _ _).drew)).mono (by
            rintro en w' ⟨h1, h2⟩
            rw [hq2] at h2
            exact ⟨h2, (H6.out.b.trans (But.of (Below.refl _ _).drew)).trans h1⟩))
          clear hq2
          have hks := HKS.out _ H6.out
          refine Code.wp_mono (Q := fun en x w' => en = .panic [{ v := faultV p, recovered := false }] ∧ But P w w' ∧ x.defers = []) ?_ ?_
          · rintro en x w' ⟨rfl, hb, hd⟩
            go_simp
            exact ⟨hd, by rw [Hr.out]; exact pans_bad hb rfl⟩
          · refine wp_region_held_drew (S := fun X => At6 w X P W.heap.size w1.heap.size w.heap.size T a aa an ac ⟨mk, mp, mx, mq, ⟨mvk, mvn, mvs, mvf⟩⟩ ∧ X.cell? ⟨T, 1, none⟩ = some (.int .i64 (mp : Int)) ∧ X.cell? ⟨T, 3, none⟩ = some (.int .i64 mq) ∧ X.cell? ⟨w1.heap.size, 0, none⟩ = some (.int .i64 a.k) ∧ X.cell? ⟨w1.heap.size, 1, none⟩ = some (.int .i64 a.pos) ∧ X.cell? ⟨w1.heap.size, 2, none⟩ = some (.string ⟨a.col.toArray⟩) ∧ X.cell? ⟨w1.heap.size, 3, none⟩ = some (.int .i64 a.v.k) ∧ X.cell? ⟨w1.heap.size, 4, none⟩ = some (.int .i64 a.v.n) ∧ X.cell? ⟨w1.heap.size, 5, none⟩ = some (.string a.v.s) ∧ X.cell? ⟨w1.heap.size, 6, none⟩ = some (.int .u64 a.v.f) ∧ X.cell? ⟨w1.heap.size, 7, none⟩ = some (.int .i64 a.op) ∧ X.cell? ⟨w1.heap.size, 8, none⟩ = some (.slice aa an ac)) (by kernel_rfl) (HKS.out _ (H6.out.drew hAP hTP hPl)) (fun hHeld => ?_)
            refine wpAnyH_take (i := 0) (oi := _) (v := ?_) rfl (by kernel_rfl) (by kernel_rfl) (by kernel_rfl) (fun _ _ _ h => h) (Or.inl ⟨by rfl, ?_⟩) (by assumption) ?_; rotate_left
            · (intro X hSw; (try dsimp only at hSw); go_simp; all_goals with_reducible rfl)
            (try simp only [Act.put, List.setIfInBounds_toArray, List.set_cons_zero, List.set_cons_succ])
            refine wpAnyH_take (i := 1) (oi := _) (v := ?_) rfl (by kernel_rfl) (by kernel_rfl) (by kernel_rfl) (fun _ _ _ h => h) (Or.inl ⟨by rfl, ?_⟩) (by assumption) ?_; rotate_left
            · (intro X hSw; (try dsimp only at hSw); go_simp; all_goals with_reducible rfl)
            (try simp only [Act.put, List.setIfInBounds_toArray, List.set_cons_zero, List.set_cons_succ])
            refine wpAnyH_take (i := 2) (oi := _) (v := ?_) rfl (by kernel_rfl) (by kernel_rfl) (by kernel_rfl) (fun _ _ _ h => h) (Or.inl ⟨by rfl, ?_⟩) (by assumption) ?_; rotate_left
            · (intro X hSw; (try dsimp only at hSw); go_simp; all_goals with_reducible rfl)
            (try simp only [Act.put, List.setIfInBounds_toArray, List.set_cons_zero, List.set_cons_succ])
            refine wpAnyH_take (i := 3) (oi := _) (v := ?_) rfl (by kernel_rfl) (by kernel_rfl) (by kernel_rfl) (fun _ _ _ h => h) (Or.inl ⟨by rfl, ?_⟩) (by assumption) ?_; rotate_left
            · (intro X hSw; (try dsimp only at hSw); go_simp; all_goals with_reducible rfl)
            (try simp only [Act.put, List.setIfInBounds_toArray, List.set_cons_zero, List.set_cons_succ])
            refine wpAnyH_take (i := 4) (oi := _) (v := ?_) rfl (by kernel_rfl) (by kernel_rfl) (by kernel_rfl) (fun _ _ _ h => h) (Or.inl ⟨by rfl, ?_⟩) (by assumption) ?_; rotate_left
            · (intro X hSw; (try dsimp only at hSw); go_simp; all_goals with_reducible rfl)
            (try simp only [Act.put, List.setIfInBounds_toArray, List.set_cons_zero, List.set_cons_succ])
            refine wpAnyH_take (i := 5) (oi := _) (v := ?_) rfl (by kernel_rfl) (by kernel_rfl) (by kernel_rfl) (fun _ _ _ h => h) (Or.inl ⟨by rfl, ?_⟩) (by assumption) ?_; rotate_left
            · (intro X hSw; (try dsimp only at hSw); go_simp; all_goals with_reducible rfl)
            (try simp only [Act.put, List.setIfInBounds_toArray, List.set_cons_zero, List.set_cons_succ])
            refine wpAnyH_ready (rs := [6]) (by kernel_rfl) (by simp) ?_
            refine AllReadyH.cons (o := _) rfl (fun K hK => ?_) AllReadyH.nil
            go_simp
            refine (Hc.out).mono ?_
            rintro en w7 ⟨rfl, hb7⟩
            first | exact ⟨rfl, hb7⟩ | exact ⟨rfl, hb7, rfl⟩
        | ok b r2 =>
          have Hr : Hid (R = .ok (.mk 2 (mp : Int) [] mq zeroVal [a, b]) r2) := Lib.hid (by rw [← HR.out]; unfold pAtom; rw [Hq.out]; simp only [HB.out, HC.out, if_true, Bool.false_eq_true, if_false, hq2])
          have Hc : Hid (Calls Tryz.prog 104 #[.pointer (some ⟨P, 0, none⟩)] W6.drew fun en w' => ∃ ba bn bc, en = .returned (b.val ba bn bc) ∧ At6 w w' P W.heap.size w1.heap.size w.heap.size T a aa an ac ⟨mk, mp, mx, mq, ⟨mvk, mvn, mvs, mvf⟩⟩ ∧ ZVar w' w.heap.size ∧ PAt w' P r2 e d ∧ KSl w' W.heap.size b.kids ba bn) := Lib.hid ((poperand_any W6.drew P e d L (H6p.out.below (Below.refl _ _).drew)).mono (by
            rintro en w' ⟨h1, h2⟩
            rw [hq2] at h2
            obtain ⟨ba, bn, bc, rfl, h3, h4⟩ := h2
            have h5 := H6.out.drew hAP hTP hPl
            exact ⟨ba, bn, bc, rfl, h5.but h1 hAP hTP hPl, (HZ6.out.below (Below.refl _ _).drew HZ6.out.lt).but h1 hPz, h4, h3.mono (Nat.le_trans HW1.out (Nat.le_of_lt h5.k.lt))⟩))
          clear hq2
          have hks := HKS.out _ H6.out
          go_region_held3 (fun X => At6 w X P W.heap.size w1.heap.size w.heap.size T a aa an ac ⟨mk, mp, mx, mq, ⟨mvk, mvn, mvs, mvf⟩⟩ ∧ X.cell? ⟨T, 1, none⟩ = some (.int .i64 (mp : Int)) ∧ X.cell? ⟨T, 3, none⟩ = some (.int .i64 mq) ∧ X.cell? ⟨w1.heap.size, 0, none⟩ = some (.int .i64 a.k) ∧ X.cell? ⟨w1.heap.size, 1, none⟩ = some (.int .i64 a.pos) ∧ X.cell? ⟨w1.heap.size, 2, none⟩ = some (.string ⟨a.col.toArray⟩) ∧ X.cell? ⟨w1.heap.size, 3, none⟩ = some (.int .i64 a.v.k) ∧ X.cell? ⟨w1.heap.size, 4, none⟩ = some (.int .i64 a.v.n) ∧ X.cell? ⟨w1.heap.size, 5, none⟩ = some (.string a.v.s) ∧ X.cell? ⟨w1.heap.size, 6, none⟩ = some (.int .u64 a.v.f) ∧ X.cell? ⟨w1.heap.size, 7, none⟩ = some (.int .i64 a.op) ∧ X.cell? ⟨w1.heap.size, 8, none⟩ = some (.slice aa an ac))
            (first | exact HKS.out _ (by with_reducible assumption) | with_reducible exact HKS.out _ (H6.out.drew hAP hTP hPl) | with_reducible exact HKS.out _ (h7.alloc hAP hTP hPl _) | with_reducible exact HKS.out _ ((h7.put9 hZl hAl hTl (Nat.le_refl _) _ _ _ _ _ _ _ _ _).alloc hAP hTP hPl _))
            (first
              | (go_at_call 104; refine (Hc.out).mono ?_; rintro en w7 ⟨ba, bn, bc, rfl, h7, hz7, hp7, hk7⟩; have hza1 := hz7.lt; have hza2 : w.heap.size ≠ w7.heap.size := Nat.ne_of_lt hza1; have hz8 := Lib.hid hz7; obtain ⟨g0, g1, g2, g3, g4, g5, g6, g7, g8, gz, -⟩ := hz7))
          all_goals go_wp2_with fail
          have hv := at6_var (mp := mp) (op := mq) (a := a) (b := b) hz8.out (.cells (a.cells2 aa an ac b ba bn bc) 30)
          refine bodyPost_ret (v := (Tree.mk 2 (mp : Int) [] mq zeroVal [a, b]).val (some ⟨w7.heap.size, 0, none⟩) 2 2) ?_ rfl (at6_done h7 hk7 hp7 hZl hPz (Nat.le_refl _) hTl Hr.out)
          clear hks HKS Hc g0 g1 g2 g3 g4 g5 g6 g7 g8 gz
          generalize (st9 w7 w.heap.size _ _ _ _ _ _ _ _ _).alloc _ = F at hv ⊢
          obtain ⟨e0, e1, e2, e3, e4, e5, e6, e7, e8, -, -⟩ := hv
          simp [results, Tryz.results88, go_sem, e0, e1, e2, e3, e4, e5, e6, e7, e8, Tree.val]
end Go.Proofs.YtfkghfmgeholeaaGreatDoor
