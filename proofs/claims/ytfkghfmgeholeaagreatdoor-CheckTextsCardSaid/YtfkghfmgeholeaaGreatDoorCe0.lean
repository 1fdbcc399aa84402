/- The walks of ref18.Fields, ref18.Kind. -/
import Derived.Test.YtfkghfmgeholeaaGreatDoorCb1
import Derived.Test.YtfkghfmgeholeaaGreatDoorCa2
import Derived.Test.YtfkghfmgeholeaaGreatDoorGL
set_option linter.unusedVariables false
set_option linter.unusedSimpArgs false
namespace Go.Proofs.YtfkghfmgeholeaaGreatDoor
open Go.RowKit

set_option maxHeartbeats 16000000 in
set_option maxRecDepth 100000 in
theorem ckFieldsR_any (w : World) (a : Option Addr) (n c : Nat) (l : List Fd) (hl : FSl w a n l) (hn : n ≤ 100000) (hnc : n ≤ c) (hz : ∀ f ∈ l, f.name.length ≤ 100000) :
    Calls Tryz.prog 17 #[.slice a n c] w fun e w' => e = .returned (.bool (fieldsB l)) ∧ Below w.heap.size w w' := by
  have Hl := Lib.hid hl
  have hni : (n : Int) ≤ 100000 := by omega
  have Hn := Lib.hid hn; have Hz := Lib.hid hz; have Hnc := Lib.hid hnc
  clear hl hn hz hnc
  generalize hR : fieldsB l = R
  have HR := Lib.hid hR
  clear hR
  go_enter Tryz.func17, Tryz.ntmps17
  go_wp2_with fail
  go_loopg [3, 4, 9] n (fun g _ _ s9 wx => ∃ (j : Nat) (I : Int), s9 = .int .i64 I ∧ Hid (I = (j : Int) ∧ j + g = n ∧ okTo l j = true) ∧ Below w.heap.size w wx)
  case atStart => exact ⟨0, 0, rfl, Lib.hid ⟨rfl, by omega, rfl⟩, Below.refl _ _⟩
  case round =>
    obtain ⟨j, I, rfl, HI, hb⟩ := hrel
    have Hb := Lib.hid hb; clear hb
    have hI0 : 0 ≤ I := by have := HI.out; omega
    by_cases hm : gk = 0
    · have hI1 : ¬ I < (n : Int) := by have := HI.out; omega
      have hq : R = (decide (1 ≤ (n : Int)) && decide ((n : Int) ≤ 8)) := by
        have h1 := HI.out; have h2 := Hl.out.1
        rw [← HR.out]
        unfold fieldsB
        obtain rfl : j = n := by omega
        rw [← h2, h1.2.2, Bool.true_and]
        congr 1
        · exact decide_eq_decide.2 (by omega)
        · exact decide_eq_decide.2 (by omega)
      clear hm
      by_cases g1 : 0 < (n : Int)
      · by_cases g2 : (n : Int) ≤ 8
        · obtain rfl : R = true := by rw [hq, decide_eq_true (show 1 ≤ (n : Int) by omega), decide_eq_true g2]; rfl
          clear hq
          go_wp2_with fail
          go_ret
          exact ⟨rfl, Hb.out⟩
        · obtain rfl : R = false := by rw [hq, decide_eq_true (show 1 ≤ (n : Int) by omega), decide_eq_false g2]; rfl
          clear hq
          go_wp2_with fail
          go_ret
          exact ⟨rfl, Hb.out⟩
      · obtain rfl : R = false := by rw [hq, decide_eq_false (show ¬ 1 ≤ (n : Int) by omega)]; rfl
        clear hq
        go_wp2_with fail
        go_ret
        exact ⟨rfl, Hb.out⟩
    · have hI1 : I < (n : Int) := by have := HI.out; omega
      have hIj : I.toNat = j := by have := HI.out; omega
      obtain ⟨f, hf⟩ : ∃ f, l[j]? = some f := ⟨l[j]'(by have := HI.out; have := Hl.out.1; omega), List.getElem?_eq_getElem _⟩
      obtain ⟨b, o, e1, hfa⟩ := Hl.out.2 j f hf
      subst e1
      obtain ⟨k0, k1⟩ := hfa.map fun i v hc => (Hb.out.cell (World.block_lt_of_cell? w _ hc)).trans hc
      have hof := okField_at hf
      have HN : Hid (∀ W, Calls Tryz.prog 41 #[.string ⟨f.name.toArray⟩] W fun e w' => e = .returned (.bool (nameB f.name)) ∧ W = w') := Lib.hid fun W => (nameR_any W ⟨f.name.toArray⟩ (by show f.name.toArray.size ≤ _; simpa using Hz.out f (List.mem_of_getElem? hf))).mono fun e w' h => ⟨h.1, h.2.symm⟩
      have hIc : I ≤ (c : Int) := by have := HI.out; have := Hnc.out; omega
      have bad : okField l j = false → R = false := fun h => by
        rw [← HR.out]
        unfold fieldsB
        rw [okTo_bad h l.length (List.getElem?_eq_some_iff.1 hf).1]
        rfl
      have HBad := Lib.hid bad
      have Hof := Lib.hid hof
      have Hm := Lib.hid hm
      have Hjl : Hid (j ≤ l.length ∧ n = l.length) := Lib.hid (by have := HI.out; have := Hl.out.1; omega)
      have Hbig := Lib.hid (Hb.out.trans ((Below.new wr (.cells #[.string ⟨f.name.toArray⟩, .int .i64 f.kind] 45)).mono Hb.out.size))
      have HV := Lib.hid (FVar.new wr f 45)
      clear hf hfa hm bad hof
      go_upto_region 4 with fail
      clear k0 k1
      generalize (wr.alloc _) = W at Hbig HV ⊢
      have Hbd : Hid (∀ X, Below W.heap.size W X → Below w.heap.size w X) := Lib.hid fun X h => Hbig.out.trans (h.mono Hbig.out.size)
      obtain ⟨gko, Hg0⟩ : ∃ x, Hid (x = gk) := ⟨gk, Lib.hid rfl⟩
      go_wp2_with fail
      go_loopg [6, 18] j (fun g _ s18 wx => ∃ (m : Nat) (M : Int), s18 = .int .i64 M ∧ Hid (M = (m : Int) ∧ m + g = j ∧ ∀ i f', i < m → (l.take j)[i]? = some f' → f'.name ≠ f.name) ∧ Below W.heap.size W wx)
      case atStart => exact ⟨0, 0, rfl, Lib.hid ⟨rfl, by omega, fun i f hi => absurd hi (Nat.not_lt_zero _)⟩, Below.refl _ _⟩
      case round =>
        obtain ⟨m, M, rfl, HM, hbx⟩ := hrel
        have Hbx := Lib.hid hbx; clear hbx
        have hM0 : 0 ≤ M := by have := HM.out; omega
        have HVx := Lib.hid (HV.out.below Hbx.out HV.out.lt)
        obtain ⟨q0, q1, -⟩ := HVx.out
        by_cases hm2 : gk = 0
        · have hM1 : ¬ M < I := by have := HM.out; have := HI.out; omega
          have HQ : Hid (idxL (l.take j) f.name = -1) := Lib.hid (idxL_end HM.out.2.2 (by rw [List.length_take]; have := HM.out; have := Hjl.out; omega))
          rw [HQ.out] at Hof
          have hc := Lib.hid (HN.out wr)
          generalize nameB f.name = B at hc Hof
          clear hm2
          have HW := Lib.hid (Hbd.out _ Hbx.out)
          cases B with
          | false =>
            obtain rfl : R = false := HBad.out (by rw [Hof.out]; rfl)
            go_wp2_with fail
            refine hc.out.mono ?_
            rintro e w2 ⟨rfl, rfl⟩
            go_wp2_with fail
            go_ret
            exact ⟨rfl, HW.out⟩
          | true =>
            by_cases h1 : f.kind < 1
            · obtain rfl : R = false := HBad.out (by rw [Hof.out, decide_eq_false (show ¬ 1 ≤ f.kind by omega)]; rfl)
              go_wp2_with fail
              refine hc.out.mono ?_
              rintro e w2 ⟨rfl, rfl⟩
              go_wp2_with fail
              go_ret
              exact ⟨rfl, HW.out⟩
            · by_cases h2 : 4 < f.kind
              · obtain rfl : R = false := HBad.out (by rw [Hof.out, decide_eq_false (show ¬ f.kind ≤ 4 by omega)]; simp)
                go_wp2_with fail
                refine hc.out.mono ?_
                rintro e w2 ⟨rfl, rfl⟩
                go_wp2_with fail
                go_ret
                exact ⟨rfl, HW.out⟩
              · have Hok : Hid (okTo l (j + 1) = true) := Lib.hid (by rw [okTo_succ, HI.out.2.2, Hof.out, decide_eq_true (show 1 ≤ f.kind by omega), decide_eq_true (show f.kind ≤ 4 by omega)]; rfl)
                go_wp2_with fail
                refine hc.out.mono ?_
                rintro e w2 ⟨rfl, rfl⟩
                go_wp2_with fail
                go_roundg (gko - 1)
                case measure => have := Hm.out; have := Hg0.out; omega
                case rel => exact ⟨j + 1, I + 1, rfl, Lib.hid ⟨by have := HI.out; omega, by have := HI.out; have := Hm.out; have := Hg0.out; omega, Hok.out⟩, HW.out⟩
        · have hM1 : M < I := by have := HM.out; have := HI.out; omega
          have hMm : M.toNat = m := by have := HM.out; omega
          obtain ⟨g, hg⟩ : ∃ g, l[m]? = some g := ⟨l[m]'(by have := HM.out; have := Hjl.out; omega), List.getElem?_eq_getElem _⟩
          have hgt : (l.take j)[m]? = some g := by rw [List.getElem?_take_of_lt (by have := HM.out; omega)]; exact hg
          obtain ⟨b2, o2, e2, hga⟩ := Hl.out.2 m g hg
          injection e2 with e2
          injection e2 with e2 e3
          subst e2 e3
          have hga2 := hga.map fun i v hc => ((Hbd.out _ Hbx.out).cell (World.block_lt_of_cell? w _ hc)).trans hc
          obtain ⟨g0, g1⟩ := hga2
          have Hgt := Lib.hid hgt
          have Hm2 := Lib.hid hm2
          have HW := Lib.hid (Hbx.out.trans ((Below.new wr (.cells #[.string ⟨g.name.toArray⟩, .int .i64 g.kind] 45)).mono Hbx.out.size))
          have HVg := Lib.hid (FVar.new wr g 45)
          have HVy := Lib.hid (HVx.out.below (Below.new wr (.cells #[.string ⟨g.name.toArray⟩, .int .i64 g.kind] 45)) HVx.out.lt)
          clear hg hgt hga hm2 q0 q1
          go_upto_region 7 with fail
          clear g0 g1
          generalize (wr.alloc _) = W7 at HW HVg HVy ⊢
          obtain ⟨q0, q1, -⟩ := HVy.out
          obtain ⟨g0, g1, -⟩ := HVg.out
          by_cases hd : f.name = g.name
          · have HQ := idxL_hit HM.out.2.2 Hgt.out hd.symm
            obtain rfl : R = false := HBad.out (by rw [Hof.out, HQ, decide_eq_false (show ¬ (m : Int) < 0 by omega)]; simp)
            have hbe : (f.name == g.name) = true := by rw [hd]; simp
            have HW2 := Lib.hid (Hbd.out _ HW.out)
            clear HQ hd
            go_wp2_with fail
            go_ret
            exact ⟨rfl, HW2.out⟩
          · have hbe : (f.name == g.name) = false := beq_eq_false_iff_ne.2 hd
            have Hd := Lib.hid hd
            clear hd
            go_wp2_with fail
            go_roundg (gk - 1)
            case measure => have := Hm2.out; omega
            case rel => exact ⟨m + 1, M + 1, rfl, Lib.hid ⟨by have := HM.out; omega, by have := HM.out; have := Hm2.out; omega, fun i g' hi hg' => by
              by_cases e : i = m
              · subst e
                have := Hgt.out
                rw [hg'] at this
                injection this with this
                subst this
                exact fun q => Hd.out q.symm
              · exact HM.out.2.2 i g' (by omega) hg'⟩, HW.out⟩
set_option maxHeartbeats 8000000 in
set_option maxRecDepth 100000 in
theorem kindR_any (w : World) (t : Tree) (ta : Option Addr) (tn tc : Nat) (a : Option Addr) (n c : Nat) (l : List Fd) (hl : FSl w a n l) (hn : n ≤ 100000) :
    Calls Tryz.prog 51 #[t.val ta tn tc, .slice a n c] w fun e w' => e = .returned (.int .i64 (kdR l t)) ∧ Below w.heap.size w w' := by
  have hb0 := Below.new w (.cells (t.cells ta tn tc) 30)
  have HB0 : Hid (Below w.heap.size w _) := Lib.hid hb0
  have HV0 := Lib.hid (KVar.new w t ta tn tc 30)
  have Hl := Lib.hid hl
  have hni : (n : Int) ≤ 100000 := by omega
  clear hl hn hb0
  simp only [Tree.val]
  by_cases h1 : t.k = 1
  · have hk : kdR l t = t.v.k := by unfold kdR; rw [if_pos h1]
    rw [hk]
    have z0 : (t.k == 1) = true := by rw [h1]; rfl
    clear h1 hk
    go_enter Tryz.func51, Tryz.ntmps51
    go_upto_region 1 with fail
    generalize (w.alloc _) = W at HB0 HV0 ⊢
    obtain ⟨k0, k1, k2, k3, k4, k5, k6, k7, k8, -, -⟩ := HV0.out
    go_wp2_with fail
    go_ret
    exact ⟨rfl, HB0.out⟩
  · have z0 : (t.k == 1) = false := beq_eq_false_iff_ne.2 h1
    have hk : kdR l t = (kindL l t.col).getD (-1) := by unfold kdR; rw [if_neg h1]
    rw [hk]
    generalize hR : (kindL l t.col).getD (-1) = R
    have HR := Lib.hid hR
    clear h1 hk hR
    go_enter Tryz.func51, Tryz.ntmps51
    go_upto_region 1 with fail
    generalize (w.alloc _) = W at HB0 HV0 ⊢
    obtain ⟨k0, k1, k2, k3, k4, k5, k6, k7, k8, -, -⟩ := HV0.out
    go_wp2_with fail
    clear k0 k1 k2 k3 k4 k5 k6 k7 k8
    go_loopg [6, 15] n (fun g _ s15 wx => ∃ (j : Nat) (I : Int), s15 = .int .i64 I ∧ Hid (I = (j : Int) ∧ j + g = n ∧ ∀ i f, i < j → l[i]? = some f → f.name ≠ t.col) ∧ Below W.heap.size W wx)
    case atStart => exact ⟨0, 0, rfl, Lib.hid ⟨rfl, by omega, fun i f hi => absurd hi (Nat.not_lt_zero _)⟩, Below.refl _ _⟩
    case round =>
      obtain ⟨j, I, rfl, HI, hb⟩ := hrel
      have Hb := Lib.hid hb; clear hb
      have Hbw := Lib.hid (HB0.out.trans (Hb.out.mono HB0.out.size))
      have hI0 : 0 ≤ I := by have := HI.out; omega
      by_cases hm : gk = 0
      · have hI1 : ¬ I < (n : Int) := by have := HI.out; omega
        obtain rfl : R = -1 := by
          have h1 := HI.out; have h2 := Hl.out.1
          rw [← HR.out, (idxL_none l t.col).1 (by rw [idxL_end h1.2.2 (by omega)]; decide)]
          rfl
        clear hm
        go_wp2_with fail
        go_ret
        exact ⟨rfl, Hbw.out⟩
      · have hI1 : I < (n : Int) := by have := HI.out; omega
        have hIj : I.toNat = j := by have := HI.out; omega
        obtain ⟨f, hf⟩ : ∃ f, l[j]? = some f := ⟨l[j]'(by have := HI.out; have := Hl.out.1; omega), List.getElem?_eq_getElem _⟩
        obtain ⟨b, o, e1, hfa⟩ := Hl.out.2 j f hf
        subst e1
        obtain ⟨q0, q1⟩ := hfa.map fun i v hc => (Hbw.out.cell (World.block_lt_of_cell? w _ hc)).trans hc
        have HVx := Lib.hid (HV0.out.below Hb.out HV0.out.lt)
        have hbn := Below.new wr (.cells #[.string ⟨f.name.toArray⟩, .int .i64 f.kind] 45)
        have HVn := Lib.hid (HVx.out.below hbn HVx.out.lt)
        have HF := Lib.hid (FVar.new wr f 45)
        have Hbn := Lib.hid (Hb.out.trans (hbn.mono Hb.out.size))
        have Hf := Lib.hid hf
        have Hm := Lib.hid hm
        clear hf hfa hm hbn
        go_upto_region 6 with fail
        clear q0 q1
        generalize (wr.alloc _) = W6 at HVn HF Hbn ⊢
        obtain ⟨k0, k1, k2, k3, k4, k5, k6, k7, k8, -, -⟩ := HVn.out
        obtain ⟨q0, q1, -⟩ := HF.out
        have Hbw6 := Lib.hid (HB0.out.trans (Hbn.out.mono HB0.out.size))
        by_cases hd : f.name = t.col
        · obtain rfl : R = f.kind := by
            obtain ⟨f', g1, g2, g3⟩ := idxL_some l t.col j (idxL_hit HI.out.2.2 Hf.out hd)
            rw [Hf.out] at g1
            injection g1 with g1
            subst g1
            rw [← HR.out, g3]
            rfl
          have hbe : (f.name == t.col) = true := by rw [hd]; simp
          clear hd
          go_wp2_with fail
          go_ret
          exact ⟨rfl, Hbw6.out⟩
        · have hbe : (f.name == t.col) = false := beq_eq_false_iff_ne.2 hd
          have Hd := Lib.hid hd
          clear hd
          go_wp2_with fail
          go_roundg (gk - 1)
          case measure => have := Hm.out; omega
          case rel => exact ⟨j + 1, I + 1, rfl, Lib.hid ⟨by have := HI.out; omega, by have := HI.out; have := Hm.out; omega, fun i g hi hg => by
            by_cases e : i = j
            · subst e
              have := Hf.out
              rw [hg] at this
              injection this with this
              subst this
              exact Hd.out
            · exact HI.out.2.2 i g (by omega) hg⟩, Hbn.out⟩
end Go.Proofs.YtfkghfmgeholeaaGreatDoor
