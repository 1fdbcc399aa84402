/- The walk of ParseSizes. -/
import Derived.Test.YthhghlnbpigcjaaGreatDoorPi0
import Derived.Test.YthhghlnbpigcjaaGreatDoorPj0
import Derived.Test.YthhghlnbpigcjaaGreatDoorPh0
set_option linter.unusedVariables false
set_option linter.unusedSimpArgs false
namespace Go.Proofs.YthhghlnbpigcjaaGreatDoor
open Go.RowKit

set_option maxHeartbeats 8000000 in
set_option maxRecDepth 100000 in
theorem parseSizes_walk (w : World) (hl : Laid w) (hs : Spc w) (s : ByteArray) :
    Calls Tryz.prog 8 #[.string s] w fun e w' => e = .returned (.bool true) ∧ Below w.heap.size w w' := by
  have Hl := Lib.hid hl; have Hs := Lib.hid hs
  have Hf := Lib.hid (first17_any w hl hs)
  have L1 : Hid (∀ W : World, Laid W → Spc W → Calls Tryz.prog 10 #[.string s] W fun e w' => ParseAns W w' (parseF s.data.toList) e) := Lib.hid fun W h1 h2 => pparse_any W h1 h2 s
  have hsz : s.data.toList.length = s.size := (Lib.size_eq s).symm
  obtain ⟨t, p, er, hp, hor⟩ := parseF_err s.data.toList
  rw [hp] at L1
  have Hp := Lib.hid hp; have Hsz := Lib.hid hsz
  clear hl hs hp hsz
  by_cases hn : 1500 < s.size
  · have hni : 1500 < (s.size : Int) := by omega
    clear hn hor
    go_enter Tryz.func8, Tryz.ntmps8
    go_wp2_with fail
    refine Hf.out.mono ?_
    rintro e w1 ⟨rfl, hb1⟩
    have Hb1 := Lib.hid hb1
    clear hb1
    go_wp2_with fail
    refine (L1.out _ (Hl.out.below Hb1.out) (Hs.out.below Hb1.out)).mono ?_
    rintro e w2 ⟨hb2, a, n, c, rfl, hk⟩
    have Hb2 := Lib.hid ((Hb1.out.trans (hb2.mono Hb1.out.size)).trans ((Below.new w2 (.cells (t.cells a n c) 31)).mono (Nat.le_trans Hb1.out.size hb2.size)))
    clear hb2 hk
    simp only [Tree.val]
    go_wp2_with fail
    go_ret
    exact ⟨rfl, Hb2.out⟩
  · have hni : (s.size : Int) ≤ 1500 := by omega
    rcases hor with rfl | ⟨rfl, rfl⟩
    · have hg := parseF_good Hp.out
      rw [Hsz.out] at hg
      have Hg := Lib.hid hg
      have hni2 : (0 : Int) ≤ (s.size : Int) := by omega
      have g1 : (t.nodes : Int) ≤ (s.size : Int) + 1 := by omega
      have g2 : (t.depth : Int) ≤ (t.nodes : Int) := by have := depth_nodes t; omega
      have g3 : (t.depth : Int) ≤ 40 := by omega
      have hpt := Lib.hid (partsT_any 1000000 s.size (Nat.le_refl _) t (by omega))
      have hdt := Lib.hid (depth_any 1000000 (Nat.le_refl _) t (by omega))
      have hin := hg.1
      unfold PartsC at hpt
      rw [hin] at hpt
      clear hn hg hin
      go_enter Tryz.func8, Tryz.ntmps8
      go_wp2_with fail
      refine Hf.out.mono ?_
      rintro e w1 ⟨rfl, hb1⟩
      have Hb1 := Lib.hid hb1
      clear hb1
      go_wp2_with fail
      refine (L1.out _ (Hl.out.below Hb1.out) (Hs.out.below Hb1.out)).mono ?_
      rintro e w2 ⟨hb2, a, n, c, rfl, hk⟩
      have Hb2 := Lib.hid (Hb1.out.trans (hb2.mono Hb1.out.size))
      have Hk2 := Lib.hid hk
      clear hb2 hk
      simp only [Tree.val]
      go_upto_region 4 with fail
      generalize hW : World.alloc w2 _ = W3
      have hb3 : Below w2.heap.size w2 W3 := by rw [← hW]; exact Below.new _ _
      have hv3 : KVar W3 w2.heap.size t a n c := by rw [← hW]; exact KVar.new w2 t a n c _
      have Hb3 := Lib.hid (Hb2.out.trans (hb3.mono Hb2.out.size))
      have Hk3 := Lib.hid (Hk2.out.later hb3)
      have Hv3 := Lib.hid hv3
      clear hW hb3 hv3
      obtain ⟨k0, k1, k2, k3, k4, k5, k6, k7, k8, -, -⟩ := Hv3.out
      have Hc := Lib.hid (hpt.out W3 _ a n c Hk3.out)
      go_wp2_with fail
      refine Hc.out.mono ?_
      rintro e w4 ⟨rfl, hb4⟩
      have Hb4 := Lib.hid (Hb3.out.trans (hb4.mono Hb3.out.size))
      have Hk4 := Lib.hid (Hk3.out.later hb4)
      have Hv4 := Lib.hid (Hv3.out.below hb4 Hv3.out.lt)
      clear hb4 Hc k0 k1 k2 k3 k4 k5 k6 k7 k8
      obtain ⟨k0, k1, k2, k3, k4, k5, k6, k7, k8, -, -⟩ := Hv4.out
      have Hd := Lib.hid (hdt.out w4 _ a n c Hk4.out)
      go_wp2_with fail
      refine Hd.out.mono ?_
      rintro e w5 ⟨rfl, hb5⟩
      have Hb5 := Lib.hid (Hb4.out.trans (hb5.mono Hb4.out.size))
      have Hk5 := Lib.hid (Hk4.out.later hb5)
      have Hv5 := Lib.hid (Hv4.out.below hb5 Hv4.out.lt)
      clear hb5 Hd k0 k1 k2 k3 k4 k5 k6 k7 k8
      obtain ⟨k0, k1, k2, k3, k4, k5, k6, k7, k8, -, -⟩ := Hv5.out
      have Hd := Lib.hid (hdt.out w5 _ a n c Hk5.out)
      go_wp2_with fail
      refine Hd.out.mono ?_
      rintro e w6 ⟨rfl, hb6⟩
      have Hb6 := Lib.hid (Hb5.out.trans (hb6.mono Hb5.out.size))
      clear hb6 Hd k0 k1 k2 k3 k4 k5 k6 k7 k8
      go_wp2_with fail
      go_ret
      exact ⟨rfl, Hb6.out⟩
    · clear hn
      go_enter Tryz.func8, Tryz.ntmps8
      go_wp2_with fail
      refine Hf.out.mono ?_
      rintro e w1 ⟨rfl, hb1⟩
      have Hb1 := Lib.hid hb1
      clear hb1
      go_wp2_with fail
      refine (L1.out _ (Hl.out.below Hb1.out) (Hs.out.below Hb1.out)).mono ?_
      rintro e w2 ⟨hb2, a, n, c, rfl, hk⟩
      have Hb2 := Lib.hid ((Hb1.out.trans (hb2.mono Hb1.out.size)).trans ((Below.new w2 (.cells (zeroT.cells a n c) 31)).mono (Nat.le_trans Hb1.out.size hb2.size)))
      clear hb2 hk
      simp only [Tree.val]
      go_wp2_with fail
      go_ret
      exact ⟨rfl, Hb2.out⟩
end Go.Proofs.YthhghlnbpigcjaaGreatDoor
