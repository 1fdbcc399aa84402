/- The walk of LexBlanks. -/
import Derived.Test.YtfniehgggbobaaaDoorGL
import Derived.Deep.CutRange
import Derived.Deep.CutBlock
set_option linter.unusedVariables false
set_option linter.unusedSimpArgs false
namespace Go.Proofs.YtfniehgggbobaaaDoor
open Go.RowKit

set_option maxHeartbeats 16000000 in
set_option maxRecDepth 100000 in
theorem lexBlanks_walk (w : World) (hl : Laid w) (hs : Spc w) (s : ByteArray) (n : Int) (n0 : 0 ≤ n) (n1 : n < 256) :
    Calls Tryd.prog 3 #[.string s, .int .u8 n] w fun e w' => e = .returned (.bool true) ∧ Below w.heap.size w w' := by
  have Hl := Lib.hid hl; have Hs := Lib.hid hs
  have Hf := Lib.hid (first16_any w hl hs)
  have L1 : Hid (∀ W : World, Laid W → Spc W → Calls Tryd.prog 5 #[.string s] W fun e w' => LexAns W w' (lexL s.data.toList) e) := Lib.hid fun W h1 h2 => lex_all W h1 h2 s
  obtain ⟨k, hk⟩ : ∃ k, k = n.toNat % 3 := ⟨_, rfl⟩
  have hk3 : k < 3 := by omega
  have hmod := tmod3 n n0
  rw [← hk] at hmod
  have hst : ∀ x q, lexL s.data.toList = (some x, q) → (∀ t ∈ x, Stand 0 s.data.toList t) ∧ x.Pairwise (fun a b => a.pos < b.pos) ∧ x.length ≤ s.data.toList.length := fun x q h => lexL_stand h
  have hwd : ∀ x q, lexL s.data.toList = (some x, q) → s.size ≤ 600 → (wideX k s.data.toList 0 x).length ≤ 1800 ∧ ∃ y, lexL (wideX k s.data.toList 0 x) = (some y, 0) ∧ bare y = bare x := fun x q h hs6 => by
    have hz := (lexL_length h).2.2
    subst hz
    have e := wideX_lex k h
    have hl := wideF_length k s.data.toList.length s.data.toList
    rw [← Lib.size_eq] at hl
    have hl2 : (k + 1) * s.size ≤ 3 * s.size := Nat.mul_le_mul_right _ (by omega)
    rw [e]
    rw [Lib.size_eq] at hl
    refine ⟨?_, lexL_wide k h ?_⟩
    · rw [← Lib.size_eq] at hl ⊢; omega
    · rw [← Lib.size_eq] at hl ⊢; omega
  have Hst := Lib.hid hst; have Hwd := Lib.hid hwd; have Hk3 := Lib.hid hk3
  clear hl hs hst hwd hk hk3
  have hki : (k : Int) < 3 := by have := Hk3.out; omega
  generalize lexL s.data.toList = r at *
  by_cases hn : 600 < s.size
  · have hni : 600 < (s.size : Int) := by omega
    clear hn
    go_enter Tryd.func3, Tryd.ntmps3
    go_wp2_with fail
    refine Hf.out.mono ?_
    rintro e w1 ⟨rfl, hb1⟩
    have Hb1 := Lib.hid hb1
    clear hb1
    go_wp2_with fail
    refine (L1.out _ (Hl.out.below Hb1.out) (Hs.out.below Hb1.out)).mono ?_
    rintro e w2 ⟨v2, rfl, hx⟩
    have Hb2 := Lib.hid (Hb1.out.trans (hx.below.mono Hb1.out.size))
    generalize lexE r = er at *
    clear hx
    go_wp2_with fail
    go_ret
    exact ⟨rfl, Hb2.out⟩
  · have hni : (s.size : Int) ≤ 600 := by omega
    have Hn := Lib.hid hn
    clear hn
    go_enter Tryd.func3, Tryd.ntmps3
    go_wp2_with fail
    refine Hf.out.mono ?_
    rintro e w1 ⟨rfl, hb1⟩
    have Hb1 := Lib.hid hb1
    clear hb1
    go_wp2_with fail
    refine (L1.out _ (Hl.out.below Hb1.out) (Hs.out.below Hb1.out)).mono ?_
    rintro e w2 ⟨v2, rfl, hx⟩
    have Hb2 := Lib.hid (Hb1.out.trans (hx.below.mono Hb1.out.size))
    obtain ⟨xo, pa⟩ := r
    cases xo with
    | none =>
      rw [show lexE (none, pa) = 160 from rfl]
      clear hx
      go_wp2_with fail
      go_ret
      exact ⟨rfl, Hb2.out⟩
    | some x =>
    rw [show lexE (some x, pa) = 0 from rfl]
    have hx2 : TBuf w1 w2 v2 x := hx
    obtain ⟨h1, h2, h3⟩ := Hst.out x pa rfl
    obtain ⟨hw8, y, hy1, hy2⟩ := Hwd.out x pa rfl (by have := Hn.out; omega)
    obtain ⟨hyl, hye⟩ := bare_eq hy2
    have hlen : s.data.toList.length = s.size := (Lib.size_eq s).symm
    rw [hlen] at h3
    have Hsd := Lib.hid h1; have Hpw := Lib.hid h2; have Hxl := Lib.hid h3; have Hlen := Lib.hid hlen
    have Hw8 := Lib.hid hw8; have Hy1 := Lib.hid hy1; have Hyl := Lib.hid hyl; have Hye := Lib.hid hye
    have HR := Lib.hid hx2.row
    obtain ⟨ax, cx, ex⟩ := hx2.row.form
    have hxi : (x.length : Int) ≤ 600 := by have := Hn.out; omega
    rw [ex] at HR ⊢
    clear hx hx2 h1 h2 h3 hw8 hy1 hy2 hyl hye hlen ex
    go_wp2_with fail
    go_loopg [8, 9, 34] x.length (fun g wv lv i wx => ∃ (j : Nat) (I : Int) (last : Nat) (L : Int) (X : ByteArray), wv = .string X ∧ lv = .int .i64 L ∧ i = .int .i64 I ∧ Hid (I = (j : Int) ∧ j + g = x.length ∧ L = (last : Int) ∧ Made k s.data.toList x j last X.data.toList) ∧ Below w2.heap.size w2 wx)
    case atStart => exact ⟨0, 0, 0, 0, ⟨#[]⟩, rfl, rfl, rfl, Lib.hid ⟨rfl, by omega, rfl, Made.start _ _ _⟩, Below.refl _ _⟩
    case round =>
      obtain ⟨j, I, last, L, X, rfl, rfl, rfl, HI, hb⟩ := hrel
      have Hb := Lib.hid hb; clear hb
      have hI0 : 0 ≤ I := by have := HI.out.1; omega
      by_cases hm : gk = 0
      · have hI1 : ¬ I < (x.length : Int) := by have := HI.out.1; have := HI.out.2.1; omega
        have hj : j = x.length := by have := HI.out.2.1; omega
        subst hj
        have hM := HI.out.2.2.2
        have hfin := hM.fin
        have hlow := hM.low
        rw [Hlen.out] at hlow
        have hL0 : 0 ≤ L := by have := HI.out.2.2.1; omega
        have hLn : L.toNat = last := by have := HI.out.2.2.1; omega
        have hL1 : L ≤ (s.size : Int) := by have := HI.out.2.2.1; omega
        obtain ⟨Y, hY⟩ : ∃ Y, s.extract last s.size = Y := ⟨_, rfl⟩
        have hYl : Y.data.toList = s.data.toList.drop last := by
          rw [← hY, cut_list]
          unfold cutL
          exact List.take_of_length_le (by rw [List.length_drop, Hlen.out]; exact Nat.le_refl _)
        have hYs : (Y.size : Int) ≤ 600 := by
          have : Y.size = (s.data.toList.drop last).length := by rw [← hYl, Lib.size_eq]
          rw [List.length_drop, Hlen.out] at this
          omega
        have hXs : (X.size : Int) ≤ 1800 := by
          have := hM.len
          have h2 := Hw8.out
          rw [← Lib.size_eq] at this
          omega
        obtain ⟨S, hS⟩ : ∃ S, X ++ Y = S := ⟨_, rfl⟩
        have hSl : S.data.toList = wideX k s.data.toList 0 x := by rw [← hS, cat_list, hYl, hfin]
        have L2 : Hid (∀ W : World, Laid W → Spc W → Calls Tryd.prog 5 #[.string S] W fun e w' => ∃ v, e = .returned (.tuple #[v, .int .i64 0, .int .i64 0]) ∧ TBuf W w' v y) := Lib.hid fun W h1 h2 => (lex_all W h1 h2 S).mono fun e w' h => by
          obtain ⟨v, he, hb⟩ := h
          rw [hSl, Hy1.out] at he hb
          exact ⟨v, he, hb⟩
        have Hbr := Lib.hid (Hb2.out.trans (Hb.out.mono Hb2.out.size))
        clear hM hfin hlow hYl hSl hm
        go_wp2_with fail
        refine (L2.out _ (Hl.out.below Hbr.out) (Hs.out.below Hbr.out)).mono ?_
        rintro e w4 ⟨v4, rfl, hz⟩
        have hz2 : TBuf wr w4 v4 y := hz
        obtain ⟨ay, cy, ey⟩ := hz2.row.form
        rw [Hyl.out] at ey
        have HY := Lib.hid hz2.row
        have Hb4 := Lib.hid (Hbr.out.trans (hz2.below.mono Hbr.out.size))
        have Hr4 := Lib.hid (Hb.out.trans (hz2.below.mono Hb.out.size))
        rw [ey] at HY ⊢
        clear hz hz2 ey
        go_wp2_with fail
        go_loopg [90] x.length (fun g i wx => ∃ (q : Nat) (J : Int), i = .int .i64 J ∧ Hid (J = (q : Int) ∧ q + g = x.length) ∧ Below w4.heap.size w4 wx)
        case atStart => exact ⟨0, 0, rfl, Lib.hid ⟨rfl, by omega⟩, Below.refl _ _⟩
        case round =>
          obtain ⟨q, J, rfl, HJ, hb⟩ := hrel
          have Hbq := Lib.hid hb; clear hb
          have hJ0 : 0 ≤ J := by have := HJ.out; omega
          by_cases hm : gk = 0
          · have hJ1 : ¬ J < (x.length : Int) := by have := HJ.out; omega
            clear hm
            go_wp2_with fail
            go_ret
            exact ⟨rfl, Hb4.out.trans (Hbq.out.mono Hb4.out.size)⟩
          · have hJ1 : J < (x.length : Int) := by have := HJ.out; omega
            have hJq : J.toNat = q := by have := HJ.out; omega
            have hql : q < x.length := by have := HJ.out; omega
            obtain ⟨t, ht⟩ : ∃ t, x[q]? = some t := ⟨_, List.getElem?_eq_getElem hql⟩
            obtain ⟨u, hu⟩ : ∃ u, y[q]? = some u := ⟨_, List.getElem?_eq_getElem (by rw [Hyl.out]; exact hql)⟩
            have heq := Hye.out q u t hu ht
            obtain ⟨B, c, e1, -, hr⟩ := HR.out.at ht
            obtain ⟨D, c', e2, -, hd⟩ := HY.out.at hu
            cases e1
            rw [Hyl.out] at e2
            cases e2
            have hr2 := hr.below Hr4.out
            have hr3 := hr2.below Hbq.out
            have hd3 := hd.below Hbq.out
            have Hm := Lib.hid hm; have HR3 := Lib.hid hr3
            obtain ⟨uk, up, ux, uo, ⟨ak, an, bs, af⟩⟩ := u
            obtain ⟨c0, c1, c2, c3, c4, c5, c6, c7⟩ := hd3
            simp only at c0 c1 c2 c3 c4 c5 c6 c7
            have e1c := hr3.c1
            have hat := TAt.new wr ⟨uk, up, ux, uo, ⟨ak, an, bs, af⟩⟩ 34
            have hbw : Below w4.heap.size w4 (wr.alloc (.cells (Tk.cells ⟨uk, up, ux, uo, ⟨ak, an, bs, af⟩⟩) 34)) := Hbq.out.alloc Hbq.out.size _
            have hrt := hr3.below ((Below.refl wr.heap.size wr).alloc (Nat.le_refl _) (.cells (Tk.cells ⟨uk, up, ux, uo, ⟨ak, an, bs, af⟩⟩) 34))
            have hne : ¬ wr.heap.size = B := by have := World.block_lt_of_cell? wr _ hr3.c0; simp only at this; omega
            have hsz : w4.heap.size ≤ wr.heap.size := Hbq.out.size
            have Hat := Lib.hid hat; have Hbw := Lib.hid hbw; have Hrt := Lib.hid hrt; have Hne := Lib.hid hne; have Hsz := Lib.hid hsz
            have Heq := Lib.hid heq
            clear hr hd hr2 hr3 hm ht hu hql heq hat hbw hrt hne hsz e1c
            go_upto_region 27 with fail
            generalize (wr.alloc _) = W1 at Hat Hbw Hrt ⊢
            have z1 := Hat.out.z 1
            have y1 := Hat.out.c1
            have x1 := Hrt.out.c1
            simp only at y1
            have hat2 := Hat.out.put t.pos
            rw [Heq.out] at hat2
            have hbw2 : Below w4.heap.size w4 (W1.setCell ⟨wr.heap.size, 1, none⟩ (.int .i64 (t.pos : Int))) := Hbw.out.setCell Hsz.out _
            have hrt2 : RAt (W1.setCell ⟨wr.heap.size, 1, none⟩ (.int .i64 (t.pos : Int))) B q t := Hrt.out.apart (.int .i64 (t.pos : Int)) 1 Hne.out
            have Hat2 := Lib.hid hat2; have Hbw2 := Lib.hid hbw2; have Hrt2 := Lib.hid hrt2
            clear hat2 hbw2 hrt2 c0 c1 c2 c3 c4 c5 c6 c7
            go_upto_region 28 with fail
            generalize (W1.setCell _ _) = W2 at Hat2 Hbw2 Hrt2 ⊢
            clear z1 y1 x1 Heq
            obtain ⟨tk, tp, tx, op, ⟨vk, vn, vs, vf⟩⟩ := t
            obtain ⟨c0, c1, c2, c3, c4, c5, c6, c7⟩ := Hrt2.out
            obtain ⟨d0, d1, d2, d3, d4, d5, d6, d7, -, -⟩ := Hat2.out
            simp only at c0 c1 c2 c3 c4 c5 c6 c7 d0 d1 d2 d3 d4 d5 d6 d7
            go_quiet (fail)
            go_wp2_with fail
            go_roundg (x.length - (q + 1))
            case measure => have := HJ.out.2; have := Hm.out; omega
            case rel => exact ⟨q + 1, J + 1, rfl, Lib.hid (by have := HJ.out; have := Hm.out; omega), below_drewN Hbw2.out nq⟩
      · have hI1 : I < (x.length : Int) := by have := HI.out.1; have := HI.out.2.1; omega
        have hIj : I.toNat = j := by have := HI.out.1; omega
        have hjl : j < x.length := by have := HI.out.2.1; omega
        obtain ⟨t, htt⟩ : ∃ t, x[j] = t := ⟨_, rfl⟩
        have ht : x[j]? = some t := by rw [List.getElem?_eq_getElem hjl, htt]
        obtain ⟨B, c, e1, -, hr⟩ := HR.out.at ht
        cases e1
        have hr2 := hr.below Hb.out
        have hS := Hsd.out t (List.mem_of_getElem? ht)
        have hps : t.pos < s.size := by have := hS.high; rw [Hlen.out] at this; simpa using this
        have Hps := Lib.hid hps
        have Hm := Lib.hid hm; have Ht := Lib.hid ht
        have hprev : j = 0 ∨ ∃ t', x[j - 1]? = some t' ∧ t'.pos < t.pos ∧ 0 < j := by
          rcases Nat.eq_zero_or_pos j with h | h
          · exact .inl h
          · refine .inr ⟨x[j - 1], List.getElem?_eq_getElem (by omega), ?_, h⟩
            have := (List.pairwise_iff_getElem.1 Hpw.out) (j - 1) j (by omega) hjl (by omega)
            rwa [htt] at this
        have hnext : ∀ t', x[j + 1]? = some t' → t.pos ≤ t'.pos := fun t' h => by
          obtain ⟨hj1, e⟩ := List.getElem?_eq_some_iff.1 h
          have := (List.pairwise_iff_getElem.1 Hpw.out) j (j + 1) hjl hj1 (by omega)
          rw [htt, e] at this
          omega
        have hmade := HI.out.2.2.2.step ht (by rw [Hlen.out]; omega) hnext
        have hlp := HI.out.2.2.2.prev t ht
        have Hpr := Lib.hid hprev; have Hmade := Lib.hid hmade; have Hlp := Lib.hid hlp
        obtain ⟨tk, tp, tx, op, ⟨vk, vn, vs, vf⟩⟩ := t
        obtain ⟨c0, c1, c2, c3, c4, c5, c6, c7⟩ := hr2
        simp only at c0 c1 c2 c3 c4 c5 c6 c7
        have hat := TAt.new wr ⟨tk, tp, tx, op, ⟨vk, vn, vs, vf⟩⟩ 34
        have hbw : Below w2.heap.size w2 (wr.alloc (.cells (Tk.cells ⟨tk, tp, tx, op, ⟨vk, vn, vs, vf⟩⟩) 34)) := Hb.out.alloc Hb.out.size _
        have Hat := Lib.hid hat; have Hbw := Lib.hid hbw
        clear hr hm ht htt hjl hprev hat hbw hS hps hnext hmade hlp
        go_upto_region 11 with fail
        generalize (wr.alloc _) = W1 at Hat Hbw ⊢
        go_cut [34, 51] from 34 to 68 (fun iv tv wx => iv = .int .i64 I ∧ tv = .bool false ∧ TAt wx wr.heap.size ⟨tk, tp, tx, op, ⟨vk, vn, vs, vf⟩⟩ ∧ Below w2.heap.size w2 wx)
        case first =>
          have e1 := Hat.out.c1
          simp only at e1
          clear c0 c1 c2 c3 c4 c5 c6 c7
          rcases Hpr.out with h0 | ⟨t', h1, h2, h3⟩
          · obtain rfl : I = 0 := by have := HI.out.1; omega
            clear h0
            go_quiet (fail)
            go_wp2_with fail
            go_meet
            exact ⟨rfl, rfl, Hat.out.below (below_drewN (Below.refl _ _) nq) Hat.out.lt, below_drewN Hbw.out nq⟩
          · obtain ⟨B2, c2, e2, -, hr2⟩ := HR.out.at h1
            cases e2
            have f1 := (hr2.below Hbw.out).c1
            obtain ⟨P, hP⟩ : ∃ P, t'.pos = P := ⟨_, rfl⟩
            rw [hP] at f1 h2
            have g1 : decide (0 < I) = true := decide_eq_true (by have := HI.out.1; omega)
            have g2 : (I - 1).toNat = j - 1 := by have := HI.out.1; omega
            have g3 : 0 ≤ I - 1 := by have := HI.out.1; omega
            have g4 : I - 1 < (x.length : Int) := by omega
            have g5 : decide (tp ≤ P) = false := decide_eq_false (by simp only at h2; omega)
            clear hr2 h1 h2 h3 hP
            go_quiet (fail)
            go_wp2_with fail
            go_meet
            exact ⟨rfl, rfl, Hat.out.below (below_drewN (Below.refl _ _) nq) Hat.out.lt, below_drewN Hbw.out nq⟩
        case rest =>
          obtain ⟨rfl, rfl, hat2, hbw2⟩ := hcut
          have Hat2 := Lib.hid hat2; have Hbw2 := Lib.hid hbw2
          clear hat2 hbw2 Hat Hbw c0 c1 c2 c3 c4 c5 c6 c7
          have c1 := Hat2.out.c1
          simp only at c1
          have hL0 : 0 ≤ L := by have := HI.out.2.2.1; omega
          have hLn : L.toNat = last := by have := HI.out.2.2.1; omega
          have hLp : L ≤ (tp : Int) := by have := HI.out.2.2.1; have := Hlp.out; simp only at this; omega
          have hps : tp < s.size := Hps.out
          have hpi : (tp : Int) ≤ (s.size : Int) := by omega
          obtain ⟨Y, hY⟩ : ∃ Y, s.extract last tp = Y := ⟨_, rfl⟩
          have hYl : Y.data.toList = cutL s.data.toList last tp := by rw [← hY, cut_list]
          have hYs : (Y.size : Int) ≤ 600 := by
            have h1 : Y.size = (cutL s.data.toList last tp).length := by rw [← hYl, Lib.size_eq]
            have h2 : (cutL s.data.toList last tp).length ≤ tp - last := by unfold cutL; rw [List.length_take]; omega
            omega
          have hXs : (X.size : Int) ≤ 1800 := by
            have := HI.out.2.2.2.len
            have h2 := Hw8.out
            rw [← Lib.size_eq] at this
            omega
          obtain ⟨Z0, hZ0⟩ : ∃ Z0, X ++ Y = Z0 := ⟨_, rfl⟩
          have hZl : Z0.data.toList = X.data.toList ++ cutL s.data.toList last tp := by rw [← hZ0, cat_list, hYl]
          have hZs : Z0.size = X.size + Y.size := by rw [← hZ0, ByteArray.size_append]
          have hZi : (Z0.size : Int) ≤ 2400 := by omega
          have HZl := Lib.hid hZl
          have HZi := Lib.hid hZi
          clear hYl hZl hZs hps
          go_wp2_with fail
          go_loopg [8, 61] k (fun g zv cv wx => ∃ (q : Nat) (C : Int) (Z : ByteArray), zv = .string Z ∧ cv = .int .u8 C ∧ Hid (C = (q : Int) ∧ q + g = k ∧ Z.data.toList = Z0.data.toList ++ List.replicate q 32 ∧ Z.size = Z0.size + q) ∧ wc = wx)
          case atStart => exact ⟨0, 0, Z0, rfl, rfl, Lib.hid ⟨rfl, by omega, by simp, rfl⟩, rfl⟩
          case round =>
            obtain ⟨q, C, Z, rfl, rfl, HC, rfl⟩ := hrel
            have hC0 : 0 ≤ C := by have := HC.out.1; omega
            by_cases hm2 : gk = 0
            · have hC1 : ¬ C < (k : Int) := by have := HC.out.1; have := HC.out.2.1; omega
              have hqk : q = k := by have := HC.out.2.1; omega
              subst hqk
              have hmd : Made q s.data.toList x (j + 1) tp Z.data.toList := by
                rw [HC.out.2.2.1, HZl.out]
                exact Hmade.out
              have Hmd := Lib.hid hmd
              clear hmd hm2
              go_wp2_with fail
              go_roundg (x.length - (j + 1))
              case measure => have := HI.out.2.1; have := Hm.out; omega
              case rel => exact ⟨j + 1, I + 1, tp, (tp : Int), Z, rfl, rfl, rfl, Lib.hid ⟨by have := HI.out.1; omega, by have := HI.out.2.1; have := Hm.out; omega, rfl, Hmd.out⟩, Hbw2.out⟩
            · have hC1 : C < (k : Int) := by have := HC.out.1; have := HC.out.2.1; omega
              have hCw : IntKind.u8.wrap (C + 1) = C + 1 := by rw [show IntKind.u8.wrap (C + 1) = (C + 1) % 256 from rfl]; omega
              have hZs2 : (Z.size : Int) ≤ 2500 := by have := HC.out.2.2.2; have := HZi.out; have := HC.out.2.1; have := Hk3.out; omega
              have HC2 : Hid ((Z ++ (⟨#[32]⟩ : ByteArray)).data.toList = Z0.data.toList ++ List.replicate (q + 1) 32 ∧ (Z ++ (⟨#[32]⟩ : ByteArray)).size = Z0.size + (q + 1)) := Lib.hid (by
                rw [cat_list, HC.out.2.2.1, List.replicate_succ', List.append_assoc, ByteArray.size_append, HC.out.2.2.2]
                exact ⟨rfl, by show Z0.size + q + 1 = _; omega⟩)
              have Hm2 := Lib.hid hm2
              clear hm2
              go_wp2_with fail
              go_roundg (k - (q + 1))
              case measure => have := HC.out.2.1; have := Hm2.out; omega
              case rel => exact ⟨q + 1, C + 1, _, rfl, rfl, Lib.hid ⟨by have := HC.out.1; omega, by have := HC.out.2.1; have := Hm2.out; omega, HC2.out.1, HC2.out.2⟩, rfl⟩
end Go.Proofs.YtfniehgggbobaaaDoor
