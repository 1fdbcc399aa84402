/- The walks of the two closures of a parser's piece. -/
import Derived.Test.YtfkghfmgeholeaaGreatDoorPc6
set_option linter.unusedVariables false
set_option linter.unusedSimpArgs false
namespace Go.Proofs.YtfkghfmgeholeaaGreatDoor
open Go.RowKit

theorem neg_done {w W X : World} {P e d : Nat} {t : Tree} {a : Option Addr} {n c : Nat} {q : List Tk} {ty : TypeId} {v0 v1 v2 v3 v4 v5 v6 v7 v8 : Value} (hb : But P w X) (hW : w.heap.size < W.heap.size) (hWX : W.heap.size ≤ X.heap.size) (hk : KSl X W.heap.size t.kids a n) (hp : PAt X P q e d) (hP : P < w.heap.size) :
    PAns P e d faultV w ((st9 X w.heap.size v0 v1 v2 v3 v4 v5 v6 v7 v8).alloc (.cells (t.cells a n c) ty)) (.ok (.mk 4 (-1) [] 0 zeroVal [t]) q) (.returned ((Tree.mk 4 (-1) [] 0 zeroVal [t]).val (some ⟨X.heap.size, 0, none⟩) 1 1)) := by
  have h1 := hb.put9 (Nat.le_refl _) v0 v1 v2 v3 v4 v5 v6 v7 v8
  have h2 := hk.put9 hW v0 v1 v2 v3 v4 v5 v6 v7 v8
  have h3 := hp.put9 hP v0 v1 v2 v3 v4 v5 v6 v7 v8
  have hsz := st9_size X w.heap.size v0 v1 v2 v3 v4 v5 v6 v7 v8
  generalize (st9 X _ _ _ _ _ _ _ _ _ _) = Y at *
  rw [← hsz]
  have hn := Below.new Y (.cells (t.cells a n c) ty)
  exact pans_ok (h1.trans (But.of hn)) ((KVar.new Y t a n c ty).row1 ((h2.later hn).mono (Nat.le_of_lt hW)) (by omega)) (h3.below hn)
theorem neg_var {X : World} {Z : Nat} {t : Tree} (hz : ZVar X Z) (o : Obj) : KVar ((st9 X Z (.int .i64 4) (.int .i64 (-1)) (.string ⟨#[]⟩) (.int .i64 0) (.int .i64 0) (.string ⟨#[]⟩) (.int .u64 0) (.int .i64 0) (.slice (some ⟨X.heap.size, 0, none⟩) 1 1)).alloc o) Z (.mk 4 (-1) [] 0 zeroVal [t]) (some ⟨X.heap.size, 0, none⟩) 1 1 := by
  have h := hz.k.put (.mk 4 (-1) [] 0 zeroVal [t]) (some ⟨X.heap.size, 0, none⟩) 1 1
  exact h.below (Below.new _ _) h.lt
set_option maxHeartbeats 16000000 in
set_option maxRecDepth 100000 in
theorem pnot_any {N e d P : Nat} {p : List Tk → PRes} (hc : Reader 74 N e d P p) (w : World) (C : Nat) (l : List Tk) (hC : w.cell? ⟨C, 0, none⟩ = some (.pointer (some ⟨P, 0, none⟩))) (h : PAt w P l e d) (hN : l.length < N) :
    Calls Tryz.prog 86 #[.pointer (some ⟨C, 0, none⟩)] w fun en w' => PAns P e d faultV w w' (p l).neg en := by
  have H := Lib.hid h
  have HP : Hid (P < w.heap.size) := Lib.hid h.lt
  have HC : Hid (∀ W, PAt W P l e d → Calls Tryz.prog 74 #[.pointer (some ⟨P, 0, none⟩)] W fun en w' => PAns P e d faultV W w' (p l) en) := Lib.hid fun W hW => hc W l hW hN
  have hCl : C < w.heap.size := World.block_lt_of_cell? w _ hC
  have HCc := Lib.hid hC
  clear h hN hc hC
  generalize p l = R at HC ⊢
  generalize hRR : R.neg = RR
  have HR := Lib.hid hRR
  clear hRR
  go_enter Tryz.func86, Tryz.ntmps86
  go_upto_region 1 with fail
  have Hb := Lib.hid (Below.new w (.cells zcells 30))
  have Hz := Lib.hid (ZVar.new w 30)
  have hCW := (Hb.out.cell (p := ⟨C, 0, none⟩) hCl).trans HCc.out
  generalize (w.alloc _) = W at Hb Hz hCW ⊢
  have Ho := Lib.hid (HC.out W (H.out.below Hb.out))
  have hPz := HP.out
  clear hCl
  go_wp2_with fail
  refine Ho.out.mono ?_
  clear Ho
  rintro en w1 ⟨hb1, h1⟩
  have hz1 := Hz.out.but hb1 hPz
  have Hb1 : Hid (But P w w1) := Lib.hid ((But.of Hb.out).trans hb1)
  have HW1 : Hid (W.heap.size ≤ w1.heap.size) := Lib.hid hb1.size
  cases R with
  | bad b =>
    have h2 : en = .panicked [{ v := faultV b, recovered := false }] := h1
    have Hr : Hid (RR = .bad b) := Lib.hid HR.out.symm
    clear h1 hb1 hz1
    subst h2
    go_wp2_with fail
    exact ⟨rfl, by rw [Hr.out]; exact pans_bad Hb1.out rfl⟩
  | ok t r =>
    obtain ⟨aa, an, ac, rfl, hk, hp⟩ := h1
    have Hr : Hid (RR = .ok (.mk 4 (-1) [] 0 zeroVal [t]) r) := Lib.hid HR.out.symm
    have Hk := Lib.hid hk; have Hp := Lib.hid hp
    have Hz1 := Lib.hid hz1
    have hza1 := hz1.lt
    have hza2 : w.heap.size ≠ w1.heap.size := Nat.ne_of_lt hza1
    obtain ⟨d0, d1, d2, d3, d4, d5, d6, d7, d8, dz, -⟩ := hz1
    clear hk hp hb1
    simp only [Tree.val]
    go_wp2_with fail
    have hv := neg_var (t := t) Hz1.out (.cells (t.cells aa an ac) 30)
    refine bodyPost_ret (v := (Tree.mk 4 (-1) [] 0 zeroVal [t]).val (some ⟨w1.heap.size, 0, none⟩) 1 1) ?_ rfl (by rw [Hr.out]; exact neg_done Hb1.out Hz.out.lt HW1.out Hk.out Hp.out hPz)
    clear d0 d1 d2 d3 d4 d5 d6 d7 d8 dz
    generalize (st9 w1 w.heap.size _ _ _ _ _ _ _ _ _).alloc _ = F at hv ⊢
    obtain ⟨e0, e1, e2, e3, e4, e5, e6, e7, e8, -, -⟩ := hv
    simp [results, Tryz.results86, go_sem, e0, e1, e2, e3, e4, e5, e6, e7, e8, Tree.val]
set_option maxHeartbeats 16000000 in
set_option maxRecDepth 100000 in
theorem popen_any {N e d P : Nat} {p : List Tk → PRes} (hc : Reader 38 N e d P p) (w : World) (C : Nat) (l : List Tk) (hC : w.cell? ⟨C, 0, none⟩ = some (.pointer (some ⟨P, 0, none⟩))) (hCP : C ≠ P) (h : PAt w P l e d) (hN : l.length < N) :
    Calls Tryz.prog 87 #[.pointer (some ⟨C, 0, none⟩)] w fun en w' => PAns P e d faultV w w' ((p l).close e) en := by
  have H := Lib.hid h
  have HP : Hid (P < w.heap.size) := Lib.hid h.lt
  have HC : Hid (∀ W, PAt W P l e d → Calls Tryz.prog 38 #[.pointer (some ⟨P, 0, none⟩)] W fun en w' => PAns P e d faultV W w' (p l) en) := Lib.hid fun W hW => hc W l hW hN
  have hCl : C < w.heap.size := World.block_lt_of_cell? w _ hC
  have HCc := Lib.hid hC
  have HCP := Lib.hid hCP
  clear h hN hc hC hCP
  generalize p l = R at HC ⊢
  generalize hRR : R.close e = RR
  have HR := Lib.hid hRR
  clear hRR
  go_enter Tryz.func87, Tryz.ntmps87
  go_upto_region 1 with fail
  have Hb := Lib.hid (Below.new w (.cells zcells 30))
  have Hz := Lib.hid (ZVar.new w 30)
  have hCW := (Hb.out.cell (p := ⟨C, 0, none⟩) hCl).trans HCc.out
  generalize (w.alloc _) = W at Hb Hz hCW ⊢
  have HCW := Lib.hid hCW
  have Ho := Lib.hid (HC.out W (H.out.below Hb.out))
  have hPz := HP.out
  clear hCl
  go_wp2_with fail
  refine Ho.out.mono ?_
  clear Ho
  rintro en w1 ⟨hb1, h1⟩
  have Hz1 := Lib.hid (Hz.out.but hb1 hPz)
  have Hb1 : Hid (But P w w1) := Lib.hid ((But.of Hb.out).trans hb1)
  have HW1 : Hid (W.heap.size ≤ w1.heap.size) := Lib.hid hb1.size
  have HWl : Hid (w.heap.size < W.heap.size) := Lib.hid Hz.out.lt
  have hC1 := hb1.cell HCW.out HCP.out
  cases R with
  | bad b =>
    have h2 : en = .panicked [{ v := faultV b, recovered := false }] := h1
    have Hr : Hid (RR = .bad b) := Lib.hid HR.out.symm
    clear h1 hb1 hC1 hCW
    subst h2
    go_wp2_with fail
    exact ⟨rfl, by rw [Hr.out]; exact pans_bad Hb1.out rfl⟩
  | ok u r =>
    obtain ⟨ua, un, uc, rfl, hk, hp⟩ := h1
    have hbn := Below.new w1 (.cells (u.cells ua un uc) 30)
    have HT := Lib.hid (KVar.new w1 u ua un uc 30)
    have Hzn := Lib.hid (Hz1.out.below hbn Hz1.out.lt)
    have Hk := Lib.hid (hk.later hbn)
    have Hp := Lib.hid (hp.below hbn)
    have Hbn : Hid (But P w _) := Lib.hid (Hb1.out.trans (But.of hbn))
    have hCn := (hbn.cell (World.block_lt_of_cell? w1 _ hC1)).trans hC1
    have HTl : Hid (W.heap.size ≤ w1.heap.size) := HW1
    simp only [Tree.val]
    clear hk hp hb1 hCW hC1
    go_upto_region 2 with fail
    clear hbn
    generalize (w1.alloc _) = W6 at HT Hzn Hk Hp Hbn hCn ⊢
    generalize w1.heap.size = T at HT HTl ⊢
    have hPT : P < T := by have := HTl.out; have := HWl.out; omega
    have HCn := Lib.hid hCn
    have Hn : Hid (∀ (B : Bool), isTok 5 [] r = B → Calls Tryz.prog 72 #[.pointer (some ⟨P, 0, none⟩), .int .i64 5, .string ⟨#[]⟩] W6 fun en w' => en = .returned (.bool B) ∧ w' = W6) := Lib.hid fun B hB => hB ▸ pnext_any W6 P e d r Hp.out 5 ⟨#[]⟩
    cases hB : isTok 5 [] r with
    | false =>
      have Hr : Hid (RR = .bad (pAt e r)) := Lib.hid (by rw [← HR.out]; simp only [PRes.close, hB]; rfl)
      have hn := Hn.out _ hB
      have Hf := Lib.hid (pfail_any W6 P e d r Hp.out)
      clear hB
      go_wp2_with fail
      refine hn.mono ?_
      rintro en w2 ⟨rfl, rfl⟩
      clear hn
      go_wp2_with fail
      refine Hf.out.mono ?_
      rintro en w2 ⟨rfl, rfl⟩
      go_wp2_with fail
      exact ⟨rfl, by rw [Hr.out]; exact pans_bad Hbn.out rfl⟩
    | true =>
      obtain ⟨m, L, rfl⟩ := tok_cons hB
      have Hr : Hid (RR = .ok u L) := Lib.hid (by rw [← HR.out]; simp only [PRes.close, hB]; rfl)
      have hn := Hn.out _ hB
      have Ht := Lib.hid (ptake_any W6 P e d m L Hp.out)
      clear hB
      go_wp2_with fail
      refine hn.mono ?_
      rintro en w2 ⟨rfl, rfl⟩
      clear hn
      go_wp2_with fail
      refine Ht.out.mono ?_
      rintro en w3 ⟨rfl, hp3, hb3⟩
      have Hp3 := Lib.hid hp3
      have Hb3 : Hid (But P w w3) := Lib.hid (Hbn.out.trans hb3)
      have Hk3 := Lib.hid (Hk.out.but hb3 (by have := HWl.out; omega))
      obtain ⟨k0, k1, k2, k3, k4, k5, k6, k7, k8, -, -⟩ := HT.out.but hb3 hPT
      obtain ⟨d0, d1, d2, d3, d4, d5, d6, d7, d8, dz, -⟩ := Hzn.out.but hb3 hPz
      clear hp3 hb3 hCn Ht
      simp only [Tk.val]
      go_wp2_with fail
      exact bodyPost_ret (v := u.val ua un uc) (by simp [results, Tryz.results87, go_sem, d0, d1, d2, d3, d4, d5, d6, d7, d8, Tree.val]) rfl (by rw [Hr.out]; exact pans_put Hb3.out HWl.out Hk3.out Hp3.out hPz _ _ _ _ _ _ _ _ _)
end Go.Proofs.YtfkghfmgeholeaaGreatDoor
