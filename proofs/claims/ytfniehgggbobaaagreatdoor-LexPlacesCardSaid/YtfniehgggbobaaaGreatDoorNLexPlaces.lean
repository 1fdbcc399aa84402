/- The walk of LexPlaces. -/
import Derived.Test.YtfniehgggbobaaaGreatDoorGL
import Derived.Test.YtfniehgggbobaaaGreatDoorGE
import Derived.Deep.CutRange
import Derived.Deep.CutBlock
set_option linter.unusedVariables false
set_option linter.unusedSimpArgs false
namespace Go.Proofs.YtfniehgggbobaaaGreatDoor
open Go.RowKit

set_option maxHeartbeats 16000000 in
set_option maxRecDepth 100000 in
theorem lexPlaces_walk (w : World) (hl : Laid w) (hs : Spc w) (s : ByteArray) :
    Calls Tryz.prog 7 #[.string s] w fun e w' => e = .returned (.bool true) ∧ Below w.heap.size w w' := by
  have Hl := Lib.hid hl; have Hs := Lib.hid hs
  have Hf := Lib.hid (first16_any w hl hs)
  have L1 : Hid (∀ W : World, Laid W → Spc W → Calls Tryz.prog 14 #[.string s] W fun e w' => LexAns W w' (lexL s.data.toList) e) := Lib.hid fun W h1 h2 => lex_all W h1 h2 s
  have hst : ∀ x q, lexL s.data.toList = (some x, q) → (∀ t ∈ x, Stand 0 s.data.toList t) ∧ x.Pairwise (fun a b => a.pos < b.pos) ∧ x.length ≤ s.data.toList.length ∧ ∀ t ∈ x, t.v.Wf := fun x q h => ⟨(lexL_stand h).1, (lexL_stand h).2.1, (lexL_stand h).2.2, lexL_wf h⟩
  have Hst := Lib.hid hst
  clear hl hs hst
  generalize lexL s.data.toList = r at *
  by_cases hn : 1500 < s.size
  · have hni : 1500 < (s.size : Int) := by omega
    clear hn
    go_enter Tryz.func7, Tryz.ntmps7
    go_wp2_with fail
    refine Hf.out.mono ?_
    rintro e w1 ⟨rfl, hb1⟩
    have Hb1 := Lib.hid hb1
    clear hb1
    go_wp2_with fail
    refine (L1.out _ (Hl.out.below Hb1.out) (Hs.out.below Hb1.out)).mono ?_
    rintro e w2 ⟨v2, rfl, hx⟩
    have Hb2 := Lib.hid (Hb1.out.trans (hx.below.mono Hb1.out.size))
    generalize lexE r = er at *
    clear hx
    go_wp2_with fail
    go_ret
    exact ⟨rfl, Hb2.out⟩
  · have hni : (s.size : Int) ≤ 1500 := by omega
    have Hn := Lib.hid hn
    clear hn
    go_enter Tryz.func7, Tryz.ntmps7
    go_wp2_with fail
    refine Hf.out.mono ?_
    rintro e w1 ⟨rfl, hb1⟩
    have Hb1 := Lib.hid hb1
    clear hb1
    go_wp2_with fail
    refine (L1.out _ (Hl.out.below Hb1.out) (Hs.out.below Hb1.out)).mono ?_
    rintro e w2 ⟨v2, rfl, hx⟩
    have Hb2 := Lib.hid (Hb1.out.trans (hx.below.mono Hb1.out.size))
    obtain ⟨xo, pa⟩ := r
    cases xo with
    | none =>
      rw [show lexE (none, pa) = 160 from rfl]
      clear hx
      go_wp2_with fail
      go_ret
      exact ⟨rfl, Hb2.out⟩
    | some x =>
    rw [show lexE (some x, pa) = 0 from rfl]
    have hx2 : TBuf w1 w2 v2 x := hx
    obtain ⟨h1, h2, h3, h4⟩ := Hst.out x pa rfl
    have hlen : s.data.toList.length = s.size := (Lib.size_eq s).symm
    rw [hlen] at h3
    have Hsd := Lib.hid h1; have Hpw := Lib.hid h2; have Hxl := Lib.hid h3; have Hwf := Lib.hid h4; have Hlen := Lib.hid hlen
    have HR := Lib.hid hx2.row
    obtain ⟨ax, cx, ex⟩ := hx2.row.form
    have hxi : (x.length : Int) ≤ 1500 := by omega
    have hxs : (x.length : Int) ≤ (s.size : Int) := by omega
    rw [ex] at HR ⊢
    clear hx hx2 h1 h2 h3 h4 hlen ex
    go_wp2_with fail
    go_loopg [26] x.length (fun g i wx => ∃ (j : Nat) (I : Int), i = .int .i64 I ∧ Hid (I = (j : Int) ∧ j + g = x.length) ∧ Below w2.heap.size w2 wx)
    case atStart => exact ⟨0, 0, rfl, Lib.hid ⟨rfl, by omega⟩, Below.refl _ _⟩
    case round =>
      obtain ⟨j, I, rfl, HI, hb⟩ := hrel
      have Hb := Lib.hid hb; clear hb
      have hI0 : 0 ≤ I := by have := HI.out; omega
      by_cases hm : gk = 0
      · have hI1 : ¬ I < (x.length : Int) := by have := HI.out; omega
        clear hm
        go_wp2_with fail
        go_ret
        exact ⟨rfl, Hb2.out.trans (Hb.out.mono Hb2.out.size)⟩
      · have hI1 : I < (x.length : Int) := by have := HI.out; omega
        have hIj : I.toNat = j := by have := HI.out; omega
        have hjl : j < x.length := by have := HI.out; omega
        obtain ⟨t, htt⟩ : ∃ t, x[j] = t := ⟨_, rfl⟩
        have ht : x[j]? = some t := by rw [List.getElem?_eq_getElem hjl, htt]
        obtain ⟨B, c, e1, -, hr⟩ := HR.out.at ht
        cases e1
        have hr2 := hr.below Hb.out
        have HS := Lib.hid (Hsd.out t (List.mem_of_getElem? ht))
        have Hw := Lib.hid (Hwf.out t (List.mem_of_getElem? ht))
        have Hm := Lib.hid hm; have Ht := Lib.hid ht
        -- the token before
        have hprev : j = 0 ∨ ∃ t', x[j - 1]? = some t' ∧ t'.pos < t.pos ∧ 0 < j := by
          rcases Nat.eq_zero_or_pos j with h | h
          · exact .inl h
          · refine .inr ⟨x[j - 1], List.getElem?_eq_getElem (by omega), ?_, h⟩
            have := (List.pairwise_iff_getElem.1 Hpw.out) (j - 1) j (by omega) hjl (by omega)
            rwa [htt] at this
        have Hpr := Lib.hid hprev
        obtain ⟨tk, tp, tx, op, ⟨vk, vn, vs, vf⟩⟩ := t
        obtain ⟨c0, c1, c2, c3, c4, c5, c6, c7⟩ := hr2
        simp only at c0 c1 c2 c3 c4 c5 c6 c7
        have hat := TAt.new wr ⟨tk, tp, tx, op, ⟨vk, vn, vs, vf⟩⟩ 44
        have hbw : Below w2.heap.size w2 (wr.alloc (.cells (Tk.cells ⟨tk, tp, tx, op, ⟨vk, vn, vs, vf⟩⟩) 44)) := Hb.out.alloc Hb.out.size _
        have Hat := Lib.hid hat; have Hbw := Lib.hid hbw
        clear hr hm ht htt hjl hprev hat hbw
        go_upto_region 9 with fail
        generalize (wr.alloc _) = W1 at Hat Hbw ⊢
        have hps : tp < s.size := by have := HS.out.high; rw [Hlen.out] at this; simpa using this
        have Hps := Lib.hid hps
        go_cut [26, 62] from 26 to 104 (fun iv tv wx => iv = .int .i64 I ∧ tv = .bool false ∧ TAt wx wr.heap.size ⟨tk, tp, tx, op, ⟨vk, vn, vs, vf⟩⟩ ∧ Below w2.heap.size w2 wx)
        case first =>
          obtain ⟨c, hc, hlc⟩ : ∃ c, s[tp]'hps = c ∧ s.data.toList[tp]? = some c := ⟨_, rfl, byte_at s tp hps⟩
          have h32 : ¬ c = 32 := fun e => HS.out.some (by show s.data.toList[tp - 0]? = some 32; rw [Nat.sub_zero, hlc, e])
          have d0 : decide ((tp : Int) < 0) = false := decide_eq_false (by omega)
          have d1 : decide (s.size ≤ tp) = false := decide_eq_false (by omega)
          have d2 : ((c.toNat : Int) == 32) = false := beq_eq_false_iff_ne.2 fun e => h32 (UInt8.toNat_inj.1 (by have h9 : UInt8.toNat 32 = 32 := rfl; omega))
          have e1 := Hat.out.c1
          simp only at e1
          clear hlc h32 c0 c1 c2 c3 c4 c5 c6 c7
          rcases Hpr.out with h0 | ⟨t', h1, h2, h3⟩
          · obtain rfl : I = 0 := by have := HI.out; omega
            clear h0
            go_quiet (fail)
            go_wp2_with fail
            go_meet
            exact ⟨rfl, rfl, Hat.out.below (below_drewN (Below.refl _ _) nq) Hat.out.lt, below_drewN Hbw.out nq⟩
          · obtain ⟨B2, c2, e2, -, hr2⟩ := HR.out.at h1
            cases e2
            have f1 := (hr2.below Hbw.out).c1
            obtain ⟨P, hP⟩ : ∃ P, t'.pos = P := ⟨_, rfl⟩
            rw [hP] at f1 h2
            have g1 : decide (0 < I) = true := decide_eq_true (by have := HI.out; omega)
            have g2 : (I - 1).toNat = j - 1 := by have := HI.out; omega
            have g3 : 0 ≤ I - 1 := by have := HI.out; omega
            have g4 : I - 1 < (x.length : Int) := by omega
            have g5 : decide (tp ≤ P) = false := decide_eq_false (by simp only at h2; omega)
            clear hr2 h1 h2 h3 hP
            go_quiet (fail)
            go_wp2_with fail
            go_meet
            exact ⟨rfl, rfl, Hat.out.below (below_drewN (Below.refl _ _) nq) Hat.out.lt, below_drewN Hbw.out nq⟩
        case rest =>
          obtain ⟨rfl, rfl, hat2, hbw2⟩ := hcut
          have Hat2 := Lib.hid hat2; have Hbw2 := Lib.hid hbw2
          clear hat2 hbw2 Hat Hbw c0 c1 c2 c3 c4 c5 c6 c7
          obtain ⟨c0, c1, c2, c3, c4, c5, c6, c7, -, -⟩ := Hat2.out
          simp only at c0 c1 c2 c3 c4 c5 c6 c7
          have Hps2 := Hps
          go_upto_block 2 with fail
          go_cut [8, 26] from 26 to 104 (fun xv iv wx => ∃ X : ByteArray, xv = .string X ∧ iv = .int .i64 I ∧ Hid (X.data.toList = textT ⟨tk, tp, tx, op, ⟨vk, vn, vs, vf⟩⟩) ∧ TAt wx wr.heap.size ⟨tk, tp, tx, op, ⟨vk, vn, vs, vf⟩⟩ ∧ Below w2.heap.size w2 wx)
          case first =>
            by_cases h0 : tk = 0
            · obtain rfl : tk = 0 := h0
              obtain ⟨TX, hTX⟩ : ∃ TX : ByteArray, TX = ⟨tx.toArray⟩ := ⟨_, rfl⟩
              have hTs : (TX.size : Int) ≤ 2000 := by
                have h1 : (textT ⟨0, tp, tx, op, ⟨vk, vn, vs, vf⟩⟩).length ≤ s.data.toList.length := Nat.le_trans HS.out.text.length_le (by rw [List.length_drop]; omega)
                have h2 : (textT ⟨0, tp, tx, op, ⟨vk, vn, vs, vf⟩⟩).length = tx.length + 1 := rfl
                have h3 : TX.size = tx.length := by rw [hTX]; rfl
                rw [Hlen.out] at h1
                omega
              rw [← hTX] at c2
              have HTX := Lib.hid hTX
              clear Hpr hTX
              go_wp2_with fail
              go_meet
              exact ⟨(⟨#[36]⟩ : ByteArray) ++ TX, rfl, rfl, Lib.hid (by rw [HTX.out, ByteArray.data_append, Array.toList_append]; rfl), Hat2.out, Hbw2.out⟩
            by_cases h3 : tk = 3
            · obtain rfl : tk = 3 := h3
              clear Hpr
              go_wp2_with fail
              go_meet
              exact ⟨⟨tx.toArray⟩, rfl, rfl, Lib.hid (rfl), Hat2.out, Hbw2.out⟩
            by_cases h1 : tk = 1
            · obtain rfl : tk = 1 := h1
              have Hp := Lib.hid (fun W => printVR_any W ⟨vk, vn, vs, vf⟩ Hw.out)
              simp only [Val.v] at Hp
              clear Hpr
              go_wp2_with fail
              refine (Hp.out _).mono ?_
              rintro e W ⟨rfl, hbp⟩
              have Hbp := Lib.hid hbp
              clear hbp
              go_wp2_with fail
              go_meet
              exact ⟨⟨(printVL (rightOf ⟨vk, vn, vs, vf⟩)).toArray⟩, rfl, rfl, Lib.hid rfl, Hat2.out.below Hbp.out Hat2.out.lt, Hbw2.out.trans (Hbp.out.mono Hbw2.out.size)⟩
            by_cases h4 : tk = 4
            · obtain rfl : tk = 4 := h4
              clear Hpr
              go_wp2_with fail
              go_meet
              exact ⟨⟨#[40]⟩, rfl, rfl, Lib.hid (rfl), Hat2.out, Hbw2.out⟩
            by_cases h5 : tk = 5
            · obtain rfl : tk = 5 := h5
              clear Hpr
              go_wp2_with fail
              go_meet
              exact ⟨⟨#[41]⟩, rfl, rfl, Lib.hid (rfl), Hat2.out, Hbw2.out⟩
            have b0 : (tk == 0) = false := beq_eq_false_iff_ne.2 h0
            have b3 : (tk == 3) = false := beq_eq_false_iff_ne.2 h3
            have b1 : (tk == 1) = false := beq_eq_false_iff_ne.2 h1
            have b4 : (tk == 4) = false := beq_eq_false_iff_ne.2 h4
            have b5 : (tk == 5) = false := beq_eq_false_iff_ne.2 h5
            have HT : Hid (([] : List UInt8) = textT ⟨tk, tp, tx, op, ⟨vk, vn, vs, vf⟩⟩) := Lib.hid (by unfold textT; rw [if_neg h0, if_neg h3, if_neg h1, if_neg h4, if_neg h5])
            clear h0 h3 h1 h4 h5 Hpr
            go_wp2_with fail
            go_meet
            exact ⟨⟨#[]⟩, rfl, rfl, HT, Hat2.out, Hbw2.out⟩
          case rest =>
            obtain ⟨X, rfl, rfl, HX, hat3, hbw3⟩ := hcut
            have Hat3 := Lib.hid hat3; have Hbw3 := Lib.hid hbw3
            clear hat3 hbw3 Hat2 Hbw2 c0 c1 c2 c3 c4 c5 c6 c7
            have c1 := Hat3.out.c1
            simp only at c1
            have hpre := HS.out.text
            rw [← HX.out, Nat.sub_zero] at hpre
            simp only at hpre
            have hXn : X.size + tp ≤ s.size := by
              have := hpre.length_le
              rw [List.length_drop, Hlen.out, ← Lib.size_eq] at this
              have := Hps.out
              omega
            have hcut2 : s.extract tp (tp + X.size) = X := by
              rw [Lib.extract_eq]
              have h1 := List.prefix_iff_eq_take.1 hpre
              rw [show tp + X.size - tp = X.size from by omega, Lib.size_eq, ← h1]
            have hX0 : (tp : Int) + (X.size : Int) ≤ (s.size : Int) := by omega
            have hX1 : ((tp : Int) + (X.size : Int)).toNat = tp + X.size := by omega
            have hX2 : decide ((s.size : Int) - (tp : Int) < (X.size : Int)) = false := decide_eq_false (by omega)
            have hX3 : ¬ (s.size : Int) - (tp : Int) < (X.size : Int) := by omega
            clear hpre hXn
            go_wp2_with fail
            go_roundg (gk - 1)
            case measure => have := Hm.out; omega
            case rel => exact ⟨j + 1, I + 1, rfl, Lib.hid (by have := HI.out; have := Hm.out; omega), Hbw3.out⟩
end Go.Proofs.YtfniehgggbobaaaGreatDoor
