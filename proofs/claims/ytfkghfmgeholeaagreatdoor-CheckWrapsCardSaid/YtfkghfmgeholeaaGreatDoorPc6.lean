/- The walks of a parser's deeper, of the two closures of piece, of piece. -/
import Derived.Test.YtfkghfmgeholeaaGreatDoorPc5
set_option linter.unusedVariables false
set_option linter.unusedSimpArgs false
namespace Go.Proofs.YtfkghfmgeholeaaGreatDoor
open Go.RowKit

theorem PAt.openI {w : World} {P : Nat} {l : List Tk} {e d : Nat} (h : PAt w P l e d) (d' : Nat) (D : Int) (hD : D = (d' : Int)) : PAt (w.setCell ⟨P, 2, none⟩ (.int .i64 D)) P l e d' := by subst hD; exact h.opened d'
theorem KVar.pos1 {W : World} {b : Nat} {t : Tree} {a : Option Addr} {n c : Nat} (h : KVar W b t a n c) (p : Int) : KVar (W.setCell ⟨b, 1, none⟩ (.int .i64 p)) b (.mk t.k p t.col t.op t.v t.kids) a n c :=
  ⟨cell_off h.c0 (addr_ne b (by decide)), cell_at h.c1 rfl, cell_off h.c2 (addr_ne b (by decide)), cell_off h.c3 (addr_ne b (by decide)), cell_off h.c4 (addr_ne b (by decide)), cell_off h.c5 (addr_ne b (by decide)), cell_off h.c6 (addr_ne b (by decide)), cell_off h.c7 (addr_ne b (by decide)), cell_off h.c8 (addr_ne b (by decide)), fun o => (World.frozen?_setCell _ _ _ _).trans (h.z o), by simpa [World.setCell] using h.lt⟩
set_option maxHeartbeats 16000000 in
set_option maxRecDepth 100000 in
theorem pdeep_bad (w : World) (P e d : Nat) (l : List Tk) (h : PAt w P l e d) (hd : 20 ≤ d) (F : Value) :
    Calls Tryz.prog 85 #[.pointer (some ⟨P, 0, none⟩), F] w fun en w' => PAns P e d faultV w w' (.bad (pAt e l)) en := by
  have H := Lib.hid h
  have hdi : (20 : Int) ≤ (d : Int) := by omega
  clear h
  go_enter Tryz.func85, Tryz.ntmps85
  go_upto_region 1 with fail
  have Hb := Lib.hid (Below.new w (.cells zcells 30))
  generalize (w.alloc _) = W at Hb ⊢
  have h1 := H.out.below Hb.out
  have Hf := Lib.hid (pfail_any W P e d l h1)
  have c2 := h1.c2
  clear h1
  go_wp2_with fail
  refine Hf.out.mono ?_
  rintro en w1 ⟨rfl, rfl⟩
  go_wp2_with fail
  exact ⟨rfl, pans_bad (But.of Hb.out) rfl⟩
set_option maxHeartbeats 16000000 in
set_option maxRecDepth 100000 in
theorem pdeep_not (w : World) (P e d C : Nat) (t : Tk) (l : List Tk) (h : PAt w P (t :: l) e d) (hd : d < 20) (R : PRes)
    (hF : ∀ W, But P w W → PAt W P l e (d + 1) → Calls Tryz.prog 86 #[.pointer (some ⟨C, 0, none⟩)] W fun en w' => PAns P e (d + 1) faultV W w' R en) :
    Calls Tryz.prog 85 #[.pointer (some ⟨P, 0, none⟩), .func (.func 86) #[] #[.pointer (some ⟨C, 0, none⟩)]] w fun en w' => PAns P e d faultV w w' (R.mark t.pos) en := by
  have H := Lib.hid h
  have HP : Hid (P < w.heap.size) := Lib.hid h.lt
  have HF := Lib.hid hF
  have hdi : (d : Int) < 20 := by omega
  have hd0 : (0 : Int) ≤ (d : Int) := by omega
  clear h hF
  obtain ⟨tk, tp, tx, tq, ⟨vk, vn, vs, vf⟩⟩ := t
  dsimp only
  obtain ⟨D, hD⟩ : ∃ D : Int, D = (d : Int) := ⟨_, rfl⟩
  have HD := Lib.hid hD
  rw [← hD] at hdi hd0
  clear hd
  generalize hRR : R.mark tp = RR
  have HR := Lib.hid hRR
  clear hRR
  have hfd := field_at
  go_enter Tryz.func85, Tryz.ntmps85
  go_upto_region 1 with fail
  have Hb := Lib.hid (Below.new w (.cells zcells 30))
  have Hz := Lib.hid (ZVar.new w 30)
  generalize (w.alloc _) = W at Hb Hz ⊢
  have h1 := H.out.below Hb.out
  have Ht : Hid (Calls Tryz.prog 73 #[.pointer (some ⟨P, 0, none⟩)] W fun en w' => en = .returned (.agg #[.int .i64 tk, .int .i64 (tp : Int), .string ⟨tx.toArray⟩, .int .i64 tq, .int .i64 vk, .int .i64 vn, .string vs, .int .u64 vf]) ∧ PAt w' P l e d ∧ But P W w') := Lib.hid (ptake_any W P e d _ l h1)
  have c2 := h1.c2
  rw [← hD] at c2
  have hPz := HP.out
  have HWl : Hid (w.heap.size < W.heap.size) := Lib.hid Hz.out.lt
  clear h1 hD
  go_wp2_with fail
  refine Ht.out.mono ?_
  rintro en w1 ⟨rfl, hp1, hb1⟩
  have Hz1 := Lib.hid (Hz.out.but hb1 hPz)
  have Hb1 : Hid (But P w w1) := Lib.hid ((But.of Hb.out).trans hb1)
  have HW1 : Hid (W.heap.size ≤ w1.heap.size) := Lib.hid hb1.size
  have Hp1 := Lib.hid hp1
  have c2' := hp1.c2
  rw [← HD.out] at c2'
  have z2' := hp1.z 2
  clear hp1 hb1 c2 Ht
  go_upto_region 5 with fail
  have hD1 : D + 1 = ((d + 1 : Nat) : Int) := by rw [HD.out]; omega
  have hp5 := Hp1.out.openI (d + 1) (D + 1) hD1
  have hb5 := (But.refl P w1).set 2 (.int .i64 (D + 1))
  have hz5 := Hz1.out.but hb5 hPz
  generalize w1.setCell ⟨P, 2, none⟩ (.int .i64 (D + 1)) = W5 at hp5 hb5 hz5 ⊢
  have Hz5 := Lib.hid hz5
  have Hb5 : Hid (But P w W5) := Lib.hid (Hb1.out.trans hb5)
  have HW5 : Hid (W.heap.size ≤ W5.heap.size) := Lib.hid (Nat.le_trans HW1.out hb5.size)
  have Hc := Lib.hid (HF.out W5 Hb5.out hp5)
  clear hp5 hb5 hz5 c2' z2' hD1
  go_wp2_with fail
  refine Hc.out.mono ?_
  rintro en w6 ⟨hb6, h6⟩
  have Hz6 := Lib.hid (Hz5.out.but hb6 hPz)
  have Hb6 : Hid (But P w w6) := Lib.hid (Hb5.out.trans hb6)
  have HW6 : Hid (W.heap.size ≤ w6.heap.size) := Lib.hid (Nat.le_trans HW5.out hb6.size)
  have HW56 := hb6.size
  cases R with
  | bad b =>
    have h2 : en = .panicked [{ v := faultV b, recovered := false }] := h6
    have Hr : Hid (RR = .bad b) := Lib.hid HR.out.symm
    clear h6 hb6 Hc
    subst h2
    go_wp2_with fail
    exact ⟨rfl, by rw [Hr.out]; exact pans_bad Hb6.out rfl⟩
  | ok u r =>
    obtain ⟨ua, un, uc, rfl, hk, hp⟩ := h6
    have Hr : Hid (RR = .ok (u.marked tp) r) := Lib.hid HR.out.symm
    have hbn := Below.new w6 (.cells (u.cells ua un uc) 30)
    have HT := Lib.hid (KVar.new w6 u ua un uc 30)
    have Hzn := Lib.hid (Hz6.out.below hbn Hz6.out.lt)
    have Hk := Lib.hid ((hk.inside.sub (S' := fun b => W.heap.size ≤ b ∧ b ≠ w6.heap.size) fun b hb => ⟨Nat.le_trans HW5.out hb.1, Nat.ne_of_lt hb.2⟩).later hbn)
    have Hp := Lib.hid (hp.below hbn)
    have Hbn : Hid (But P w _) := Lib.hid (Hb6.out.trans (But.of hbn))
    have HTl : Hid (W.heap.size ≤ w6.heap.size) := HW6
    simp only [Tree.val]
    clear hk hp hb6 Hc
    go_upto_region 6 with fail
    clear hbn
    generalize (w6.alloc _) = W6 at HT Hzn Hk Hp Hbn ⊢
    generalize w6.heap.size = T at HT Hk HTl ⊢
    have hPT : P < T := by have := HTl.out; have := HWl.out; omega
    have hZT : w.heap.size ≠ T := by have := HTl.out; have := HWl.out; omega
    have c2 := Hp.out.c2
    rw [show ((d + 1 : Nat) : Int) = D + 1 from by rw [HD.out]; omega] at c2
    have z2 := Hp.out.z 2
    have hs1 : D + 1 - 1 = D := by omega
    clear HW56
    go_upto_region 7 with fail
    have hbx := (But.refl P W6).set 2 (.int .i64 D)
    have HT7 := Lib.hid (HT.out.but hbx hPT)
    have Hz7 := Lib.hid (Hzn.out.but hbx hPz)
    have Hk7 := Lib.hid (Hk.out.blk hbx (fun h => absurd h.1 (by have := HWl.out; omega)))
    have Hp7 := Lib.hid (Hp.out.openI d D HD.out)
    have Hb7 : Hid (But P w _) := Lib.hid (Hbn.out.trans hbx)
    have hTP : T ≠ P := by omega
    clear hbx c2 z2 hs1 HT Hzn Hk Hp Hbn
    generalize W6.setCell ⟨P, 2, none⟩ (.int .i64 D) = W7 at HT7 Hz7 Hk7 Hp7 Hb7 ⊢
    by_cases hpos : u.pos < 0
    · replace Hr : Hid (RR = .ok (.mk u.k (tp : Int) u.col u.op u.v u.kids) r) := Lib.hid (by rw [Hr.out]; unfold Tree.marked; rw [if_pos hpos])
      have k1 := HT7.out.c1
      have z1 := HT7.out.z 1
      go_upto_region 9 with fail
      have Hk8 := Lib.hid (HT7.out.pos1 (tp : Int))
      have Hz8 := Lib.hid (Hz7.out.off (b' := T) hZT.symm 1 (.int .i64 (tp : Int)))
      have Hs8 := Lib.hid (Hk7.out.offS (b := T) (fun h => h.2 rfl) 1 (.int .i64 (tp : Int)))
      have Hp8 := Lib.hid (Hp7.out.off (b := T) hPT 1 (.int .i64 (tp : Int)))
      have Hb8 := Lib.hid (Hb7.out.off (b := T) (by have := HTl.out; have := HWl.out; omega) 1 (.int .i64 (tp : Int)))
      clear k1 z1
      generalize W7.setCell ⟨T, 1, none⟩ (.int .i64 (tp : Int)) = W8 at Hk8 Hz8 Hs8 Hp8 Hb8 ⊢
      have k0 : W8.cell? ⟨T, 0, none⟩ = some (.int .i64 u.k) := Hk8.out.c0
      have k1 : W8.cell? ⟨T, 1, none⟩ = some (.int .i64 (tp : Int)) := Hk8.out.c1
      have k2 : W8.cell? ⟨T, 2, none⟩ = some (.string ⟨u.col.toArray⟩) := Hk8.out.c2
      have k3 : W8.cell? ⟨T, 3, none⟩ = some (.int .i64 u.v.k) := Hk8.out.c3
      have k4 : W8.cell? ⟨T, 4, none⟩ = some (.int .i64 u.v.n) := Hk8.out.c4
      have k5 : W8.cell? ⟨T, 5, none⟩ = some (.string u.v.s) := Hk8.out.c5
      have k6 : W8.cell? ⟨T, 6, none⟩ = some (.int .u64 u.v.f) := Hk8.out.c6
      have k7 : W8.cell? ⟨T, 7, none⟩ = some (.int .i64 u.op) := Hk8.out.c7
      have k8 : W8.cell? ⟨T, 8, none⟩ = some (.slice ua un uc) := Hk8.out.c8
      obtain ⟨d0, d1, d2, d3, d4, d5, d6, d7, d8, dz, -⟩ := Hz8.out
      go_wp2_with fail
      exact bodyPost_ret (v := .agg #[.int .i64 u.k, .int .i64 (tp : Int), .string ⟨u.col.toArray⟩, .int .i64 u.v.k, .int .i64 u.v.n, .string u.v.s, .int .u64 u.v.f, .int .i64 u.op, .slice ua un uc]) (by simp [results, Tryz.results85, go_sem, d0, d1, d2, d3, d4, d5, d6, d7, d8]) rfl (by rw [Hr.out]; exact pans_ok (Hb8.out.put9 (Nat.le_refl _) _ _ _ _ _ _ _ _ _) ((Hs8.out.putS (fun h => absurd h.1 (by have := HWl.out; omega)) _ _ _ _ _ _ _ _ _).sub fun b hb => by have := hb.1; have := HWl.out; omega) (Hp8.out.put9 hPz _ _ _ _ _ _ _ _ _))
    · replace Hr : Hid (RR = .ok u r) := Lib.hid (by rw [Hr.out]; unfold Tree.marked; rw [if_neg hpos])
      obtain ⟨k0, k1, k2, k3, k4, k5, k6, k7, k8, -, -⟩ := HT7.out
      obtain ⟨d0, d1, d2, d3, d4, d5, d6, d7, d8, dz, -⟩ := Hz7.out
      go_wp2_with fail
      exact bodyPost_ret (v := u.val ua un uc) (by simp [results, Tryz.results85, go_sem, d0, d1, d2, d3, d4, d5, d6, d7, d8, Tree.val]) rfl (by rw [Hr.out]; exact pans_ok (Hb7.out.put9 (Nat.le_refl _) _ _ _ _ _ _ _ _ _) ((Hk7.out.putS (fun h => absurd h.1 (by have := HWl.out; omega)) _ _ _ _ _ _ _ _ _).sub fun b hb => by have := hb.1; have := HWl.out; omega) (Hp7.out.put9 hPz _ _ _ _ _ _ _ _ _))
set_option maxHeartbeats 16000000 in
set_option maxRecDepth 100000 in
theorem pdeep_open (w : World) (P e d C : Nat) (t : Tk) (l : List Tk) (h : PAt w P (t :: l) e d) (hd : d < 20) (R : PRes)
    (hF : ∀ W, But P w W → PAt W P l e (d + 1) → Calls Tryz.prog 87 #[.pointer (some ⟨C, 0, none⟩)] W fun en w' => PAns P e (d + 1) faultV W w' R en) :
    Calls Tryz.prog 85 #[.pointer (some ⟨P, 0, none⟩), .func (.func 87) #[] #[.pointer (some ⟨C, 0, none⟩)]] w fun en w' => PAns P e d faultV w w' (R.mark t.pos) en := by
  have H := Lib.hid h
  have HP : Hid (P < w.heap.size) := Lib.hid h.lt
  have HF := Lib.hid hF
  have hdi : (d : Int) < 20 := by omega
  have hd0 : (0 : Int) ≤ (d : Int) := by omega
  clear h hF
  obtain ⟨tk, tp, tx, tq, ⟨vk, vn, vs, vf⟩⟩ := t
  dsimp only
  obtain ⟨D, hD⟩ : ∃ D : Int, D = (d : Int) := ⟨_, rfl⟩
  have HD := Lib.hid hD
  rw [← hD] at hdi hd0
  clear hd
  generalize hRR : R.mark tp = RR
  have HR := Lib.hid hRR
  clear hRR
  have hfd := field_at
  go_enter Tryz.func85, Tryz.ntmps85
  go_upto_region 1 with fail
  have Hb := Lib.hid (Below.new w (.cells zcells 30))
  have Hz := Lib.hid (ZVar.new w 30)
  generalize (w.alloc _) = W at Hb Hz ⊢
  have h1 := H.out.below Hb.out
  have Ht : Hid (Calls Tryz.prog 73 #[.pointer (some ⟨P, 0, none⟩)] W fun en w' => en = .returned (.agg #[.int .i64 tk, .int .i64 (tp : Int), .string ⟨tx.toArray⟩, .int .i64 tq, .int .i64 vk, .int .i64 vn, .string vs, .int .u64 vf]) ∧ PAt w' P l e d ∧ But P W w') := Lib.hid (ptake_any W P e d _ l h1)
  have c2 := h1.c2
  rw [← hD] at c2
  have hPz := HP.out
  have HWl : Hid (w.heap.size < W.heap.size) := Lib.hid Hz.out.lt
  clear h1 hD
  go_wp2_with fail
  refine Ht.out.mono ?_
  rintro en w1 ⟨rfl, hp1, hb1⟩
  have Hz1 := Lib.hid (Hz.out.but hb1 hPz)
  have Hb1 : Hid (But P w w1) := Lib.hid ((But.of Hb.out).trans hb1)
  have HW1 : Hid (W.heap.size ≤ w1.heap.size) := Lib.hid hb1.size
  have Hp1 := Lib.hid hp1
  have c2' := hp1.c2
  rw [← HD.out] at c2'
  have z2' := hp1.z 2
  clear hp1 hb1 c2 Ht
  go_upto_region 5 with fail
  have hD1 : D + 1 = ((d + 1 : Nat) : Int) := by rw [HD.out]; omega
  have hp5 := Hp1.out.openI (d + 1) (D + 1) hD1
  have hb5 := (But.refl P w1).set 2 (.int .i64 (D + 1))
  have hz5 := Hz1.out.but hb5 hPz
  generalize w1.setCell ⟨P, 2, none⟩ (.int .i64 (D + 1)) = W5 at hp5 hb5 hz5 ⊢
  have Hz5 := Lib.hid hz5
  have Hb5 : Hid (But P w W5) := Lib.hid (Hb1.out.trans hb5)
  have HW5 : Hid (W.heap.size ≤ W5.heap.size) := Lib.hid (Nat.le_trans HW1.out hb5.size)
  have Hc := Lib.hid (HF.out W5 Hb5.out hp5)
  clear hp5 hb5 hz5 c2' z2' hD1
  go_wp2_with fail
  refine Hc.out.mono ?_
  rintro en w6 ⟨hb6, h6⟩
  have Hz6 := Lib.hid (Hz5.out.but hb6 hPz)
  have Hb6 : Hid (But P w w6) := Lib.hid (Hb5.out.trans hb6)
  have HW6 : Hid (W.heap.size ≤ w6.heap.size) := Lib.hid (Nat.le_trans HW5.out hb6.size)
  have HW56 := hb6.size
  cases R with
  | bad b =>
    have h2 : en = .panicked [{ v := faultV b, recovered := false }] := h6
    have Hr : Hid (RR = .bad b) := Lib.hid HR.out.symm
    clear h6 hb6 Hc
    subst h2
    go_wp2_with fail
    exact ⟨rfl, by rw [Hr.out]; exact pans_bad Hb6.out rfl⟩
  | ok u r =>
    obtain ⟨ua, un, uc, rfl, hk, hp⟩ := h6
    have Hr : Hid (RR = .ok (u.marked tp) r) := Lib.hid HR.out.symm
    have hbn := Below.new w6 (.cells (u.cells ua un uc) 30)
    have HT := Lib.hid (KVar.new w6 u ua un uc 30)
    have Hzn := Lib.hid (Hz6.out.below hbn Hz6.out.lt)
    have Hk := Lib.hid ((hk.inside.sub (S' := fun b => W.heap.size ≤ b ∧ b ≠ w6.heap.size) fun b hb => ⟨Nat.le_trans HW5.out hb.1, Nat.ne_of_lt hb.2⟩).later hbn)
    have Hp := Lib.hid (hp.below hbn)
    have Hbn : Hid (But P w _) := Lib.hid (Hb6.out.trans (But.of hbn))
    have HTl : Hid (W.heap.size ≤ w6.heap.size) := HW6
    simp only [Tree.val]
    clear hk hp hb6 Hc
    go_upto_region 6 with fail
    clear hbn
    generalize (w6.alloc _) = W6 at HT Hzn Hk Hp Hbn ⊢
    generalize w6.heap.size = T at HT Hk HTl ⊢
    have hPT : P < T := by have := HTl.out; have := HWl.out; omega
    have hZT : w.heap.size ≠ T := by have := HTl.out; have := HWl.out; omega
    have c2 := Hp.out.c2
    rw [show ((d + 1 : Nat) : Int) = D + 1 from by rw [HD.out]; omega] at c2
    have z2 := Hp.out.z 2
    have hs1 : D + 1 - 1 = D := by omega
    clear HW56
    go_upto_region 7 with fail
    have hbx := (But.refl P W6).set 2 (.int .i64 D)
    have HT7 := Lib.hid (HT.out.but hbx hPT)
    have Hz7 := Lib.hid (Hzn.out.but hbx hPz)
    have Hk7 := Lib.hid (Hk.out.blk hbx (fun h => absurd h.1 (by have := HWl.out; omega)))
    have Hp7 := Lib.hid (Hp.out.openI d D HD.out)
    have Hb7 : Hid (But P w _) := Lib.hid (Hbn.out.trans hbx)
    have hTP : T ≠ P := by omega
    clear hbx c2 z2 hs1 HT Hzn Hk Hp Hbn
    generalize W6.setCell ⟨P, 2, none⟩ (.int .i64 D) = W7 at HT7 Hz7 Hk7 Hp7 Hb7 ⊢
    by_cases hpos : u.pos < 0
    · replace Hr : Hid (RR = .ok (.mk u.k (tp : Int) u.col u.op u.v u.kids) r) := Lib.hid (by rw [Hr.out]; unfold Tree.marked; rw [if_pos hpos])
      have k1 := HT7.out.c1
      have z1 := HT7.out.z 1
      go_upto_region 9 with fail
      have Hk8 := Lib.hid (HT7.out.pos1 (tp : Int))
      have Hz8 := Lib.hid (Hz7.out.off (b' := T) hZT.symm 1 (.int .i64 (tp : Int)))
      have Hs8 := Lib.hid (Hk7.out.offS (b := T) (fun h => h.2 rfl) 1 (.int .i64 (tp : Int)))
      have Hp8 := Lib.hid (Hp7.out.off (b := T) hPT 1 (.int .i64 (tp : Int)))
      have Hb8 := Lib.hid (Hb7.out.off (b := T) (by have := HTl.out; have := HWl.out; omega) 1 (.int .i64 (tp : Int)))
      clear k1 z1
      generalize W7.setCell ⟨T, 1, none⟩ (.int .i64 (tp : Int)) = W8 at Hk8 Hz8 Hs8 Hp8 Hb8 ⊢
      have k0 : W8.cell? ⟨T, 0, none⟩ = some (.int .i64 u.k) := Hk8.out.c0
      have k1 : W8.cell? ⟨T, 1, none⟩ = some (.int .i64 (tp : Int)) := Hk8.out.c1
      have k2 : W8.cell? ⟨T, 2, none⟩ = some (.string ⟨u.col.toArray⟩) := Hk8.out.c2
      have k3 : W8.cell? ⟨T, 3, none⟩ = some (.int .i64 u.v.k) := Hk8.out.c3
      have k4 : W8.cell? ⟨T, 4, none⟩ = some (.int .i64 u.v.n) := Hk8.out.c4
      have k5 : W8.cell? ⟨T, 5, none⟩ = some (.string u.v.s) := Hk8.out.c5
      have k6 : W8.cell? ⟨T, 6, none⟩ = some (.int .u64 u.v.f) := Hk8.out.c6
      have k7 : W8.cell? ⟨T, 7, none⟩ = some (.int .i64 u.op) := Hk8.out.c7
      have k8 : W8.cell? ⟨T, 8, none⟩ = some (.slice ua un uc) := Hk8.out.c8
      obtain ⟨d0, d1, d2, d3, d4, d5, d6, d7, d8, dz, -⟩ := Hz8.out
      go_wp2_with fail
      exact bodyPost_ret (v := .agg #[.int .i64 u.k, .int .i64 (tp : Int), .string ⟨u.col.toArray⟩, .int .i64 u.v.k, .int .i64 u.v.n, .string u.v.s, .int .u64 u.v.f, .int .i64 u.op, .slice ua un uc]) (by simp [results, Tryz.results85, go_sem, d0, d1, d2, d3, d4, d5, d6, d7, d8]) rfl (by rw [Hr.out]; exact pans_ok (Hb8.out.put9 (Nat.le_refl _) _ _ _ _ _ _ _ _ _) ((Hs8.out.putS (fun h => absurd h.1 (by have := HWl.out; omega)) _ _ _ _ _ _ _ _ _).sub fun b hb => by have := hb.1; have := HWl.out; omega) (Hp8.out.put9 hPz _ _ _ _ _ _ _ _ _))
    · replace Hr : Hid (RR = .ok u r) := Lib.hid (by rw [Hr.out]; unfold Tree.marked; rw [if_neg hpos])
      obtain ⟨k0, k1, k2, k3, k4, k5, k6, k7, k8, -, -⟩ := HT7.out
      obtain ⟨d0, d1, d2, d3, d4, d5, d6, d7, d8, dz, -⟩ := Hz7.out
      go_wp2_with fail
      exact bodyPost_ret (v := u.val ua un uc) (by simp [results, Tryz.results85, go_sem, d0, d1, d2, d3, d4, d5, d6, d7, d8, Tree.val]) rfl (by rw [Hr.out]; exact pans_ok (Hb7.out.put9 (Nat.le_refl _) _ _ _ _ _ _ _ _ _) ((Hk7.out.putS (fun h => absurd h.1 (by have := HWl.out; omega)) _ _ _ _ _ _ _ _ _).sub fun b hb => by have := hb.1; have := HWl.out; omega) (Hp7.out.put9 hPz _ _ _ _ _ _ _ _ _))
end Go.Proofs.YtfkghfmgeholeaaGreatDoor
