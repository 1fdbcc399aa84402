/- The walk of a parser's null. -/
import Derived.Test.YtfkghfmgeholeaaGreatDoorPc1
set_option linter.unusedVariables false
set_option linter.unusedSimpArgs false
namespace Go.Proofs.YtfkghfmgeholeaaGreatDoor
open Go.RowKit

theorem null_no {k : Int} {l : List Tk} (h : isTok 1 [] l = false) : nullT k l = false := by
  cases l with
  | nil => rfl
  | cons t l => simp only [isTok, nullT] at h ⊢; rw [h]; rfl
theorem tok_cons {k : Int} {s : List UInt8} {l : List Tk} (h : isTok k s l = true) : ∃ t l2, l = t :: l2 := by
  cases l with
  | nil => cases h
  | cons t l => exact ⟨t, l, rfl⟩
theorem tok_is {k : Int} {s : List UInt8} {t : Tk} {l : List Tk} (h : isTok k s (t :: l) = true) : t.k = k ∧ t.text = s := by simpa [isTok] using h
theorem field_at (W : World) (v0 v1 v2 v3 v4 v5 v6 v7 : Value) : (Instr.field 93 (.agg #[v0, v1, v2, v3, v4, v5, v6, v7]) 1).run Tryz.prog W = .ok v1 W := by kernel_rfl
theorem two_vars (w : World) (a : Tree) (aa : Option Addr) (an ac : Nat) (ty ty2 : TypeId) : KVar ((w.alloc (.cells (a.cells aa an ac) ty)).alloc (.cells zcells ty2)) w.heap.size a aa an ac ∧ ZVar ((w.alloc (.cells (a.cells aa an ac) ty)).alloc (.cells zcells ty2)) (w.heap.size + 1) ∧ Below w.heap.size w ((w.alloc (.cells (a.cells aa an ac) ty)).alloc (.cells zcells ty2)) := by
  have h0 := KVar.new w a aa an ac ty
  have hb0 := Below.new w (.cells (a.cells aa an ac) ty)
  have hs : (w.alloc (.cells (a.cells aa an ac) ty)).heap.size = w.heap.size + 1 := by simp
  generalize (w.alloc (.cells (a.cells aa an ac) ty)) = W0 at h0 hb0 hs ⊢
  have hb1 := Below.new W0 (.cells zcells ty2)
  have hz := ZVar.new W0 ty2
  rw [hs] at hz
  exact ⟨h0.below hb1 h0.lt, hz, hb0.trans (hb1.mono hb0.size)⟩
def NullRow (w W : World) (a : Tree) (aa : Option Addr) (an ac : Nat) (t : Tree) : Prop := KVar W w.heap.size a aa an ac ∧ KVar W (w.heap.size + 1) t (some ⟨w.heap.size, 0, none⟩) 1 1 ∧ Below w.heap.size w W ∧ W.heap.size = w.heap.size + 2
theorem null_row (w : World) (a : Tree) (aa : Option Addr) (an ac : Nat) (t : Tree) (ty ty2 : TypeId) : NullRow w ((w.alloc (.cells (a.cells aa an ac) ty)).alloc (.cells (t.cells (some ⟨w.heap.size, 0, none⟩) 1 1) ty2)) a aa an ac t := by
  have h0 := KVar.new w a aa an ac ty
  have hb0 := Below.new w (.cells (a.cells aa an ac) ty)
  have hs : (w.alloc (.cells (a.cells aa an ac) ty)).heap.size = w.heap.size + 1 := by simp
  generalize (w.alloc (.cells (a.cells aa an ac) ty)) = W0 at h0 hb0 hs ⊢
  have hb1 := Below.new W0 (.cells (t.cells (some ⟨w.heap.size, 0, none⟩) 1 1) ty2)
  have hz := KVar.new W0 t (some ⟨w.heap.size, 0, none⟩) 1 1 ty2
  rw [hs] at hz
  exact ⟨h0.below hb1 h0.lt, hz, hb0.trans (hb1.mono hb0.size), by simp [hs]⟩
theorem null_done {w W : World} {P e d lo B mp : Nat} {a : Tree} {aa : Option Addr} {an ac : Nat} {l : List Tk} (hk : KSl w lo a.kids aa an) (hK : KVar W B a aa an ac) (hb : But P w W) (hp : PAt W P l e d) (hPlo : P < lo) (hlo : lo ≤ w.heap.size) (hP : P < w.heap.size) (hlt : w.heap.size + 1 < B) (v0 v1 v2 v3 v4 v5 v6 v7 v8 : Value) :
    PAnsL lo P e d faultV w (st9 W (w.heap.size + 1) v0 v1 v2 v3 v4 v5 v6 v7 v8) (.ok (.node 3 mp [a]) l) (.returned ((Tree.node 3 mp [a]).val (some ⟨B, 0, none⟩) 1 1)) := by
  have hb7 := hb.put9 (Nat.le_succ _) v0 v1 v2 v3 v4 v5 v6 v7 v8
  exact pans_ok hb7 ((hK.put9 (by omega) _ _ _ _ _ _ _ _ _).row1 (hk.but hb7 hPlo) (by omega)) (hp.put9 (by omega) _ _ _ _ _ _ _ _ _)
def NotRow (w w3 W4 W5 : World) (P e d : Nat) (a : Tree) (aa : Option Addr) (an ac mp : Nat) (l : List Tk) : Prop := KVar W5 w3.heap.size a aa an ac ∧ KVar W5 W4.heap.size (.node 3 mp [a]) (some ⟨w3.heap.size, 0, none⟩) 1 1 ∧ KVar W5 (w3.heap.size + 1) (.node 4 mp [.node 3 mp [a]]) (some ⟨W4.heap.size, 0, none⟩) 1 1 ∧ ZVar W5 (w.heap.size + 1) ∧ PAt W5 P l e d ∧ But P w W5
theorem not_row {w w3 W4 : World} {P e d : Nat} {a : Tree} {aa : Option Addr} {an ac mp : Nat} {l : List Tk} {ty : TypeId} (hKa : KVar W4 w3.heap.size a aa an ac) (hKt : KVar W4 (w3.heap.size + 1) (.node 3 mp [a]) (some ⟨w3.heap.size, 0, none⟩) 1 1) (hz : ZVar W4 (w.heap.size + 1)) (hp : PAt W4 P l e d) (hb : But P w W4) (hs : W4.heap.size = w3.heap.size + 2) (hlt : w.heap.size + 1 < w3.heap.size) (hP : P < w.heap.size) :
    NotRow w w3 W4 ((st9 W4 (w3.heap.size + 1) (.int .i64 (Tree.node 4 mp [.node 3 mp [a]]).k) (.int .i64 (Tree.node 4 mp [.node 3 mp [a]]).pos) (.string ⟨(Tree.node 4 mp [.node 3 mp [a]]).col.toArray⟩) (.int .i64 (Tree.node 4 mp [.node 3 mp [a]]).v.k) (.int .i64 (Tree.node 4 mp [.node 3 mp [a]]).v.n) (.string (Tree.node 4 mp [.node 3 mp [a]]).v.s) (.int .u64 (Tree.node 4 mp [.node 3 mp [a]]).v.f) (.int .i64 (Tree.node 4 mp [.node 3 mp [a]]).op) (.slice (some ⟨W4.heap.size, 0, none⟩) 1 1)).alloc (.cells ((Tree.node 3 mp [a]).cells (some ⟨w3.heap.size, 0, none⟩) 1 1) ty)) P e d a aa an ac mp l := by
  have h1 := hKa.put9 (b' := w3.heap.size + 1) (by omega) (.int .i64 (Tree.node 4 mp [.node 3 mp [a]]).k) (.int .i64 (Tree.node 4 mp [.node 3 mp [a]]).pos) (.string ⟨(Tree.node 4 mp [.node 3 mp [a]]).col.toArray⟩) (.int .i64 (Tree.node 4 mp [.node 3 mp [a]]).v.k) (.int .i64 (Tree.node 4 mp [.node 3 mp [a]]).v.n) (.string (Tree.node 4 mp [.node 3 mp [a]]).v.s) (.int .u64 (Tree.node 4 mp [.node 3 mp [a]]).v.f) (.int .i64 (Tree.node 4 mp [.node 3 mp [a]]).op) (.slice (some ⟨W4.heap.size, 0, none⟩) 1 1)
  have h2 := hKt.put (.node 4 mp [.node 3 mp [a]]) (some ⟨W4.heap.size, 0, none⟩) 1 1
  have h3 := hz.put9 (b' := w3.heap.size + 1) (by omega) (.int .i64 (Tree.node 4 mp [.node 3 mp [a]]).k) (.int .i64 (Tree.node 4 mp [.node 3 mp [a]]).pos) (.string ⟨(Tree.node 4 mp [.node 3 mp [a]]).col.toArray⟩) (.int .i64 (Tree.node 4 mp [.node 3 mp [a]]).v.k) (.int .i64 (Tree.node 4 mp [.node 3 mp [a]]).v.n) (.string (Tree.node 4 mp [.node 3 mp [a]]).v.s) (.int .u64 (Tree.node 4 mp [.node 3 mp [a]]).v.f) (.int .i64 (Tree.node 4 mp [.node 3 mp [a]]).op) (.slice (some ⟨W4.heap.size, 0, none⟩) 1 1)
  have h4 := hp.put9 (b := w3.heap.size + 1) (by omega) (.int .i64 (Tree.node 4 mp [.node 3 mp [a]]).k) (.int .i64 (Tree.node 4 mp [.node 3 mp [a]]).pos) (.string ⟨(Tree.node 4 mp [.node 3 mp [a]]).col.toArray⟩) (.int .i64 (Tree.node 4 mp [.node 3 mp [a]]).v.k) (.int .i64 (Tree.node 4 mp [.node 3 mp [a]]).v.n) (.string (Tree.node 4 mp [.node 3 mp [a]]).v.s) (.int .u64 (Tree.node 4 mp [.node 3 mp [a]]).v.f) (.int .i64 (Tree.node 4 mp [.node 3 mp [a]]).op) (.slice (some ⟨W4.heap.size, 0, none⟩) 1 1)
  have h5 := hb.put9 (b := w3.heap.size + 1) (by omega) (.int .i64 (Tree.node 4 mp [.node 3 mp [a]]).k) (.int .i64 (Tree.node 4 mp [.node 3 mp [a]]).pos) (.string ⟨(Tree.node 4 mp [.node 3 mp [a]]).col.toArray⟩) (.int .i64 (Tree.node 4 mp [.node 3 mp [a]]).v.k) (.int .i64 (Tree.node 4 mp [.node 3 mp [a]]).v.n) (.string (Tree.node 4 mp [.node 3 mp [a]]).v.s) (.int .u64 (Tree.node 4 mp [.node 3 mp [a]]).v.f) (.int .i64 (Tree.node 4 mp [.node 3 mp [a]]).op) (.slice (some ⟨W4.heap.size, 0, none⟩) 1 1)
  have hsz := st9_size W4 (w3.heap.size + 1) (.int .i64 (Tree.node 4 mp [.node 3 mp [a]]).k) (.int .i64 (Tree.node 4 mp [.node 3 mp [a]]).pos) (.string ⟨(Tree.node 4 mp [.node 3 mp [a]]).col.toArray⟩) (.int .i64 (Tree.node 4 mp [.node 3 mp [a]]).v.k) (.int .i64 (Tree.node 4 mp [.node 3 mp [a]]).v.n) (.string (Tree.node 4 mp [.node 3 mp [a]]).v.s) (.int .u64 (Tree.node 4 mp [.node 3 mp [a]]).v.f) (.int .i64 (Tree.node 4 mp [.node 3 mp [a]]).op) (.slice (some ⟨W4.heap.size, 0, none⟩) 1 1)
  generalize (st9 W4 _ _ _ _ _ _ _ _ _ _) = W6 at h1 h2 h3 h4 h5 hsz ⊢
  have hb6 := Below.new W6 (.cells ((Tree.node 3 mp [a]).cells (some ⟨w3.heap.size, 0, none⟩) 1 1) ty)
  have h6 := KVar.new W6 (.node 3 mp [a]) (some ⟨w3.heap.size, 0, none⟩) 1 1 ty
  rw [hsz] at h6
  exact ⟨h1.below hb6 h1.lt, h6, h2.below hb6 h2.lt, h3.below hb6 h3.lt, h4.below hb6, h5.trans (But.of hb6)⟩
theorem null_done_not {w w3 W4 W5 : World} {P e d lo mp : Nat} {a : Tree} {aa : Option Addr} {an ac : Nat} {l : List Tk} (hk : KSl w lo a.kids aa an) (hF : NotRow w w3 W4 W5 P e d a aa an ac mp l) (hPlo : P < lo) (hlo : lo ≤ w.heap.size) (hP : P < w.heap.size) (hlt : w.heap.size + 1 < w3.heap.size) (hs : W4.heap.size = w3.heap.size + 2) (v0 v1 v2 v3 v4 v5 v6 v7 v8 : Value) :
    PAnsL lo P e d faultV w (st9 W5 (w.heap.size + 1) v0 v1 v2 v3 v4 v5 v6 v7 v8) (.ok (.node 4 mp [.node 3 mp [a]]) l) (.returned ((Tree.node 4 mp [.node 3 mp [a]]).val (some ⟨W4.heap.size, 0, none⟩) 1 1)) := by
  obtain ⟨h1, h2, -, -, hp, hb⟩ := hF
  have hb7 := hb.put9 (Nat.le_succ _) v0 v1 v2 v3 v4 v5 v6 v7 v8
  exact pans_ok hb7 ((h2.put9 (by omega) _ _ _ _ _ _ _ _ _).row1 ((h1.put9 (by omega) _ _ _ _ _ _ _ _ _).row1 (hk.but hb7 hPlo) (by omega)) (by omega)) (hp.put9 (by omega) _ _ _ _ _ _ _ _ _)
set_option maxHeartbeats 16000000 in
set_option maxRecDepth 100000 in
theorem pnull_any (w : World) (P e d lo : Nat) (m : Tk) (L : List Tk) (h : PAt w P (m :: L) e d) (a : Tree) (aa : Option Addr) (an ac : Nat) (hk : KSl w lo a.kids aa an) (hPl : P < lo) (hlo : lo ≤ w.heap.size) :
    Calls Tryz.prog 105 #[.pointer (some ⟨P, 0, none⟩), a.val aa an ac] w fun en w' => PAnsL lo P e d faultV w w' (pNull e a m.pos L) en := by
  have H := Lib.hid h
  have HP : Hid (P < w.heap.size) := Lib.hid h.lt
  have HPlo := Lib.hid hPl
  have Hlo := Lib.hid hlo
  have Hk0 := Lib.hid hk
  clear h hk hPl hlo
  obtain ⟨mk, mp, mx, mq, ⟨mvk, mvn, mvs, mvf⟩⟩ := m
  dsimp only
  generalize hR : pNull e a mp L = R
  have HR := Lib.hid hR
  clear hR
  have Ht : Hid (∀ W, PAt W P (⟨mk, mp, mx, mq, ⟨mvk, mvn, mvs, mvf⟩⟩ :: L) e d → Calls Tryz.prog 73 #[.pointer (some ⟨P, 0, none⟩)] W fun en w' => en = .returned (.agg #[.int .i64 mk, .int .i64 (mp : Int), .string ⟨mx.toArray⟩, .int .i64 mq, .int .i64 mvk, .int .i64 mvn, .string mvs, .int .u64 mvf]) ∧ PAt w' P L e d ∧ But P W w') := Lib.hid fun W h => ptake_any W P e d _ L h
  have Hn3 : Hid (∀ (B : Bool), isTok 3 kNot L = B → ∀ W, PAt W P L e d → Calls Tryz.prog 72 #[.pointer (some ⟨P, 0, none⟩), .int .i64 3, .string ⟨#[110, 111, 116]⟩] W fun en w' => en = .returned (.bool B) ∧ w' = W) := Lib.hid fun B hB W h => hB ▸ pnext_any W P e d L h 3 ⟨#[110, 111, 116]⟩
  simp only [Tree.val]
  go_enter Tryz.func105, Tryz.ntmps105
  go_upto_region 1 with fail
  obtain ⟨hA1, hZ0, hb0⟩ := two_vars w a aa an ac 30 30
  have HA1 := Lib.hid hA1; have HZ0 := Lib.hid hZ0; have Hb := Lib.hid hb0
  clear hA1 hZ0 hb0
  generalize ((w.alloc _).alloc _) = W at HA1 HZ0 Hb ⊢
  have HPA : Hid (P < w.heap.size) := HP
  have HPZ : Hid (P < w.heap.size + 1) := Lib.hid (Nat.lt_succ_of_lt HP.out)
  have hfd := field_at
  go_wp2_with fail
  refine (Ht.out _ (H.out.below Hb.out)).mono ?_
  rintro en w1 ⟨rfl, hp, hb1⟩
  have HA := Lib.hid (HA1.out.but hb1 HPA.out)
  have HZ := Lib.hid (HZ0.out.but hb1 HPZ.out)
  have Hk := Lib.hid ((Hk0.out.later Hb.out).but hb1 HPlo.out)
  have Hb1 : Hid (But P w w1) := Lib.hid ((But.of Hb.out).trans hb1)
  have Hp := Lib.hid hp
  clear hp hb1 Ht HA1 HZ0
  cases hB : isTok 3 kNot L with
  | false =>
    have h7 := Hn3.out _ hB _ Hp.out
    have HB := Lib.hid hB
    clear hB Hn3
    go_wp2_with fail
    refine h7.mono ?_
    rintro en w2 ⟨rfl, rfl⟩
    clear h7
    have Hn1 : Hid (∀ (B : Bool), isTok 1 [] L = B → ∀ W, PAt W P L e d → Calls Tryz.prog 72 #[.pointer (some ⟨P, 0, none⟩), .int .i64 1, .string ⟨#[]⟩] W fun en w' => en = .returned (.bool B) ∧ w' = W) := Lib.hid fun B hB W h => hB ▸ pnext_any W P e d L h 1 ⟨#[]⟩
    have Hf : Hid (∀ W, PAt W P L e d → Calls Tryz.prog 39 #[.pointer (some ⟨P, 0, none⟩)] W fun en w' => en = .panicked [{ v := faultV (pAt e L), recovered := false }] ∧ w' = W) := Lib.hid fun W h => pfail_any W P e d _ h
    cases h1 : isTok 1 [] L with
    | false =>
      have Hr : Hid (R = .bad (pAt e L)) := Lib.hid (by rw [← HR.out]; unfold pNull; rw [HB.out]; simp only [Bool.false_eq_true, if_false]; have h5 : nullT 0 L = false := null_no h1; simp [h5])
      have h6 := Hn1.out _ h1 _ Hp.out
      clear h1
      go_wp2_with fail
      refine h6.mono ?_
      rintro en w2 ⟨rfl, rfl⟩
      clear h6
      go_wp2_with fail
      refine (Hf.out _ Hp.out).mono ?_
      rintro en w2 ⟨rfl, rfl⟩
      go_wp2_with fail
      exact ⟨rfl, by rw [Hr.out]; exact pans_bad Hb1.out rfl⟩
    | true =>
      obtain ⟨t, l2, rfl⟩ := tok_cons h1
      obtain ⟨tk, tp, tx, tq, ⟨vk, vn, vs, vf⟩⟩ := t
      have ht := tok_is h1
      have h6 := Hn1.out _ h1 _ Hp.out
      obtain ⟨g, off, c, N, c0, hN, hc, hg, ⟨-, -, -, -, k4, -, -, -⟩, -, -⟩ := Hp.out.head
      have hN1 : (0 : Int) < (N : Int) := by omega
      have hN2 : 1 ≤ N := by omega
      dsimp only at k4 ht
      obtain ⟨rfl, rfl⟩ := ht
      clear h1 hN hc hg
      by_cases h0 : vk = 0
      · subst h0
        have Hr : Hid (R = .ok (.node 3 mp [a]) l2) := Lib.hid (by rw [← HR.out]; unfold pNull; rw [HB.out]; simp only [Bool.false_eq_true, if_false]; simp [nullT])
        have Ht2 : Hid (∀ W, PAt W P (⟨1, tp, [], tq, ⟨0, vn, vs, vf⟩⟩ :: l2) e d → Calls Tryz.prog 73 #[.pointer (some ⟨P, 0, none⟩)] W fun en w' => en = .returned (.agg #[.int .i64 1, .int .i64 (tp : Int), .string ⟨#[]⟩, .int .i64 tq, .int .i64 0, .int .i64 vn, .string vs, .int .u64 vf]) ∧ PAt w' P l2 e d ∧ But P W w') := Lib.hid fun W h => ptake_any W P e d _ l2 h
        go_wp2_with fail
        refine h6.mono ?_
        rintro en w2 ⟨rfl, rfl⟩
        clear h6
        go_wp2_with fail
        refine (Ht2.out _ Hp.out).mono ?_
        rintro en w3 ⟨rfl, hp3, hb3⟩
        have hA3 := HA.out.but hb3 HPA.out
        have hZ3 := HZ.out.but hb3 HPZ.out
        have Hb3 : Hid (But P w w3) := Lib.hid (Hb1.out.trans hb3)
        have hk3 := Hk.out.but hb3 HPlo.out
        have Hp3 := Lib.hid hp3; have Hk3 := Lib.hid hk3; have HA3 := Lib.hid hA3; have HZ3 := Lib.hid hZ3
        obtain ⟨a0, a1, a2, a3, a4, a5, a6, a7, a8, -, -⟩ := hA3
        clear hp3 hb3 hk3 hZ3 c0 k4 Hn1 Hf Ht2
        go_upto_region 9 with fail
        clear a0 a1 a2 a3 a4 a5 a6 a7 a8
        generalize hW4 : ((w3.alloc _).alloc _) = W4
        have hF : NullRow w3 W4 a aa an ac (.node 3 mp [a]) := by rw [← hW4]; exact null_row w3 a aa an ac (.node 3 mp [a]) _ _
        obtain ⟨hKa, hKt, hb4, hs4⟩ := hF
        have hz4 := HZ3.out.below hb4 HZ3.out.lt
        have hp4 := Hp3.out.below hb4
        have Hb4 : Hid (But P w _) := Lib.hid (Hb3.out.trans (But.of hb4))
        have hlt : w.heap.size + 1 < w3.heap.size := HZ3.out.lt
        have Hlt := Lib.hid hlt; have HKa := Lib.hid hKa; have HKt := Lib.hid hKt; have HZ4 := Lib.hid hz4; have Hp4 := Lib.hid hp4; have Hs4 := Lib.hid hs4
        clear hKa hKt hz4 hp4 hlt hb4 hs4 hW4
        obtain ⟨k0, k1, k2, k3, k4, k5, k6, k7, k8, -, -⟩ := HKt.out
        obtain ⟨d0, d1, d2, d3, d4, d5, d6, d7, d8, dz, -⟩ := HZ4.out
        dsimp only [Tree.k, Tree.pos, Tree.col, Tree.v, Tree.op, zeroVal] at k0 k1 k2 k3 k4 k5 k6 k7
        go_wp2_with fail
        exact bodyPost_ret (v := (Tree.node 3 mp [a]).val (some ⟨w3.heap.size, 0, none⟩) 1 1) (by simp [results, Tryz.results105, go_sem, d0, d1, d2, d3, d4, d5, d6, d7, d8, Tree.val, Tree.k, Tree.pos, Tree.col, Tree.v, Tree.op, zeroVal]) rfl (by rw [Hr.out]; exact null_done Hk0.out HKa.out Hb4.out Hp4.out HPlo.out Hlo.out HP.out Hlt.out _ _ _ _ _ _ _ _ _)
      · have Hr : Hid (R = .bad tp) := Lib.hid (by rw [← HR.out]; unfold pNull; rw [HB.out]; simp only [Bool.false_eq_true, if_false]; simp [nullT, h0, pAt])
        have q0 : (vk != 0) = true := bne_iff_ne.2 h0
        go_wp2_with fail
        refine h6.mono ?_
        rintro en w2 ⟨rfl, rfl⟩
        clear h6
        go_wp2_with fail
        refine (Hf.out _ Hp.out).mono ?_
        rintro en w2 ⟨rfl, rfl⟩
        go_wp2_with fail
        exact ⟨rfl, by rw [Hr.out]; exact pans_bad Hb1.out rfl⟩
  | true =>
    obtain ⟨n, l1, rfl⟩ := tok_cons hB
    have h7 := Hn3.out _ hB _ Hp.out
    have HB := Lib.hid hB
    clear hB Hn3
    have Ht1 : Hid (∀ W, PAt W P (n :: l1) e d → Calls Tryz.prog 73 #[.pointer (some ⟨P, 0, none⟩)] W fun en w' => en = .returned n.val ∧ PAt w' P l1 e d ∧ But P W w') := Lib.hid fun W h => ptake_any W P e d _ l1 h
    go_wp2_with fail
    refine h7.mono ?_
    rintro en w2 ⟨rfl, rfl⟩
    clear h7
    go_wp2_with fail
    refine (Ht1.out _ Hp.out).mono ?_
    rintro en w2 ⟨rfl, hp, hb1⟩
    replace HA := Lib.hid (HA.out.but hb1 HPA.out)
    replace HZ := Lib.hid (HZ.out.but hb1 HPZ.out)
    replace Hk := Lib.hid (Hk.out.but hb1 HPlo.out)
    replace Hb1 : Hid (But P w w2) := Lib.hid (Hb1.out.trans hb1)
    replace Hp := Lib.hid hp
    clear hp hb1 Ht1
    have Hn1 : Hid (∀ (B : Bool), isTok 1 [] l1 = B → ∀ W, PAt W P l1 e d → Calls Tryz.prog 72 #[.pointer (some ⟨P, 0, none⟩), .int .i64 1, .string ⟨#[]⟩] W fun en w' => en = .returned (.bool B) ∧ w' = W) := Lib.hid fun B hB W h => hB ▸ pnext_any W P e d l1 h 1 ⟨#[]⟩
    have Hf : Hid (∀ W, PAt W P l1 e d → Calls Tryz.prog 39 #[.pointer (some ⟨P, 0, none⟩)] W fun en w' => en = .panicked [{ v := faultV (pAt e l1), recovered := false }] ∧ w' = W) := Lib.hid fun W h => pfail_any W P e d _ h
    cases h1 : isTok 1 [] l1 with
    | false =>
      have Hr : Hid (R = .bad (pAt e l1)) := Lib.hid (by rw [← HR.out]; unfold pNull; rw [HB.out]; simp only [if_true, List.tail_cons]; have h5 : nullT 0 l1 = false := null_no h1; simp [h5])
      have h6 := Hn1.out _ h1 _ Hp.out
      clear h1
      go_wp2_with fail
      refine h6.mono ?_
      rintro en w2 ⟨rfl, rfl⟩
      clear h6
      go_wp2_with fail
      refine (Hf.out _ Hp.out).mono ?_
      rintro en w2 ⟨rfl, rfl⟩
      go_wp2_with fail
      exact ⟨rfl, by rw [Hr.out]; exact pans_bad Hb1.out rfl⟩
    | true =>
      obtain ⟨t, l2, rfl⟩ := tok_cons h1
      obtain ⟨tk, tp, tx, tq, ⟨vk, vn, vs, vf⟩⟩ := t
      have ht := tok_is h1
      have h6 := Hn1.out _ h1 _ Hp.out
      obtain ⟨g, off, c, N, c0, hN, hc, hg, ⟨-, -, -, -, k4, -, -, -⟩, -, -⟩ := Hp.out.head
      have hN1 : (0 : Int) < (N : Int) := by omega
      have hN2 : 1 ≤ N := by omega
      dsimp only at k4 ht
      obtain ⟨rfl, rfl⟩ := ht
      clear h1 hN hc hg
      by_cases h0 : vk = 0
      · subst h0
        have Hr : Hid (R = .ok (.node 4 mp [.node 3 mp [a]]) l2) := Lib.hid (by rw [← HR.out]; unfold pNull; rw [HB.out]; simp only [if_true, List.tail_cons]; simp [nullT])
        have Ht2 : Hid (∀ W, PAt W P (⟨1, tp, [], tq, ⟨0, vn, vs, vf⟩⟩ :: l2) e d → Calls Tryz.prog 73 #[.pointer (some ⟨P, 0, none⟩)] W fun en w' => en = .returned (.agg #[.int .i64 1, .int .i64 (tp : Int), .string ⟨#[]⟩, .int .i64 tq, .int .i64 0, .int .i64 vn, .string vs, .int .u64 vf]) ∧ PAt w' P l2 e d ∧ But P W w') := Lib.hid fun W h => ptake_any W P e d _ l2 h
        go_wp2_with fail
        refine h6.mono ?_
        rintro en w2 ⟨rfl, rfl⟩
        clear h6
        go_wp2_with fail
        refine (Ht2.out _ Hp.out).mono ?_
        rintro en w3 ⟨rfl, hp3, hb3⟩
        have hA3 := HA.out.but hb3 HPA.out
        have hZ3 := HZ.out.but hb3 HPZ.out
        have Hb3 : Hid (But P w w3) := Lib.hid (Hb1.out.trans hb3)
        have hk3 := Hk.out.but hb3 HPlo.out
        have Hp3 := Lib.hid hp3; have Hk3 := Lib.hid hk3; have HA3 := Lib.hid hA3; have HZ3 := Lib.hid hZ3
        obtain ⟨a0, a1, a2, a3, a4, a5, a6, a7, a8, -, -⟩ := hA3
        clear hp3 hb3 hk3 hZ3 c0 k4 Hn1 Hf Ht2
        go_upto_region 9 with fail
        clear a0 a1 a2 a3 a4 a5 a6 a7 a8
        generalize hW4 : ((w3.alloc _).alloc _) = W4
        have hF : NullRow w3 W4 a aa an ac (.node 3 mp [a]) := by rw [← hW4]; exact null_row w3 a aa an ac (.node 3 mp [a]) _ _
        obtain ⟨hKa, hKt, hb4, hs4⟩ := hF
        have hz4 := HZ3.out.below hb4 HZ3.out.lt
        have hp4 := Hp3.out.below hb4
        have Hb4 : Hid (But P w _) := Lib.hid (Hb3.out.trans (But.of hb4))
        have hlt : w.heap.size + 1 < w3.heap.size := HZ3.out.lt
        have Hlt := Lib.hid hlt; have HKa := Lib.hid hKa; have HKt := Lib.hid hKt; have HZ4 := Lib.hid hz4; have Hp4 := Lib.hid hp4; have Hs4 := Lib.hid hs4
        clear hKa hKt hz4 hp4 hlt hb4 hs4 hW4
        obtain ⟨k0, k1, k2, k3, k4, k5, k6, k7, k8, kz, -⟩ := HKt.out
        dsimp only [Tree.k, Tree.pos, Tree.col, Tree.v, Tree.op, zeroVal] at k0 k1 k2 k3 k4 k5 k6 k7
        have hne : ¬ w3.heap.size + 1 = W4.heap.size := by have := Hs4.out; omega
        have hlw : w3.heap.size + 1 < W4.heap.size := by have := Hs4.out; omega
        go_upto_region 11 with fail
        generalize hW5 : (World.alloc _ _) = W5
        have hF : NotRow w w3 W4 W5 P e d a aa an ac mp l2 := by rw [← hW5]; exact not_row HKa.out HKt.out HZ4.out Hp4.out Hb4.out Hs4.out Hlt.out HP.out
        clear hW5
        have HF := Lib.hid hF
        obtain ⟨-, -, ⟨j0, j1, j2, j3, j4, j5, j6, j7, j8, -, -⟩, ⟨d0, d1, d2, d3, d4, d5, d6, d7, d8, dz, -⟩, -, -⟩ := hF
        dsimp only [Tree.k, Tree.pos, Tree.col, Tree.v, Tree.op, zeroVal] at j0 j1 j2 j3 j4 j5 j6 j7
        clear k0 k1 k2 k3 k4 k5 k6 k7 k8 kz hne hlw
        go_wp2_with fail
        exact bodyPost_ret (v := (Tree.node 4 mp [Tree.node 3 mp [a]]).val (some ⟨W4.heap.size, 0, none⟩) 1 1) (by simp [results, Tryz.results105, go_sem, d0, d1, d2, d3, d4, d5, d6, d7, d8, Tree.val, Tree.k, Tree.pos, Tree.col, Tree.v, Tree.op, zeroVal]) rfl (by rw [Hr.out]; exact null_done_not Hk0.out HF.out HPlo.out Hlo.out HP.out Hlt.out Hs4.out _ _ _ _ _ _ _ _ _)
      · have Hr : Hid (R = .bad tp) := Lib.hid (by rw [← HR.out]; unfold pNull; rw [HB.out]; simp only [if_true, List.tail_cons]; simp [nullT, h0, pAt])
        have q0 : (vk != 0) = true := bne_iff_ne.2 h0
        go_wp2_with fail
        refine h6.mono ?_
        rintro en w2 ⟨rfl, rfl⟩
        clear h6
        go_wp2_with fail
        refine (Hf.out _ Hp.out).mono ?_
        rintro en w2 ⟨rfl, rfl⟩
        go_wp2_with fail
        exact ⟨rfl, by rw [Hr.out]; exact pans_bad Hb1.out rfl⟩
end Go.Proofs.YtfkghfmgeholeaaGreatDoor
