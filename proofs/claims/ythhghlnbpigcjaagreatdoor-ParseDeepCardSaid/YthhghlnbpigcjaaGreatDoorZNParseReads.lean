/- The walk of ParseReads. -/
import Derived.Test.YthhghlnbpigcjaaGreatDoorZPi0
import Derived.Test.YthhghlnbpigcjaaGreatDoorZPj0
import Derived.Test.YthhghlnbpigcjaaGreatDoorZPk0
import Derived.Test.YthhghlnbpigcjaaGreatDoorZQb2
set_option linter.unusedVariables false
set_option linter.unusedSimpArgs false
namespace Go.Proofs.YthhghlnbpigcjaaGreatDoor
open Go.RowKit

theorem parseF_nodes {s : List UInt8} {t : Tree} {p : Nat} {er : Int} (h : parseF s = (t, p, er)) (hor : er = 0 ∨ er = 160 ∧ t = zeroT) : t.nodes ≤ 1000000 := by
  rcases hor with rfl | ⟨-, rfl⟩
  · have := parseF_good h; omega
  · decide
set_option maxHeartbeats 16000000 in
set_option maxRecDepth 100000 in
theorem parseReads_walk (w : World) (hl : Laid w) (hs : Spc w) (s : ByteArray) :
    Calls Tryz.prog 3 #[.string s] w fun e w' => e = .returned (.bool true) ∧ Below w.heap.size w w' := by
  have Hl := Lib.hid hl; have Hs := Lib.hid hs
  have Hf := Lib.hid (first17_any w hl hs)
  obtain ⟨t, p, er, hp, hor⟩ := parseF_err s.data.toList
  have hnod := parseF_nodes hp hor
  by_cases hn : 2500 < s.size
  · have hni : 2500 < (s.size : Int) := by omega
    clear hl hs hn hp hor hnod
    go_enter Tryz.func3, Tryz.ntmps3
    go_wp2_with fail
    refine Hf.out.mono ?_
    rintro e w1 ⟨rfl, hb1⟩
    have Hb1 := Lib.hid hb1
    clear hb1
    go_wp2_with fail
    go_ret
    exact ⟨rfl, Hb1.out⟩
  · have hni : (s.size : Int) ≤ 2500 := by omega
    have L1 : Hid (∀ W : World, Laid W → Spc W → Calls Tryz.prog 10 #[.string s] W fun e w' => ParseAns W w' (t, p, er) e) := Lib.hid fun W h1 h2 => hp ▸ pparse_any W h1 h2 s
    have L2 : Hid (∀ W : World, Laid W → Calls Tryz.prog 11 #[.string s] W fun e w' => ParseRAns W w' (t, p, er) e) := Lib.hid fun W h1 => hp ▸ refParse_any W h1 s (by omega)
    have L3 : Hid (∀ (W : World) (a : Option Addr) (n c : Nat) (b : Option Addr) (m k : Nat), KSl W w.heap.size t.kids a n → KSl W w.heap.size t.kids b m → Calls Tryz.prog 12 #[t.val a n c, t.val b m k, .bool true] W fun e w' => e = .returned (.bool true) ∧ Below W.heap.size W w') := Lib.hid fun W a n c b m k h1 h2 => by
      have := sameR_any true 1000000 (Nat.le_refl _) t t hnod W _ _ a n c b m k h1 h2
      rw [same_self] at this
      exact this
    clear hl hs hn hp hnod
    go_enter Tryz.func3, Tryz.ntmps3
    go_wp2_with fail
    refine Hf.out.mono ?_
    rintro e w1 ⟨rfl, hb1⟩
    have Hb1 := Lib.hid hb1
    clear hb1
    go_wp2_with fail
    refine (L1.out _ (Hl.out.below Hb1.out) (Hs.out.below Hb1.out)).mono ?_
    rintro e w2 ⟨hb2, a, n, c, rfl, hk⟩
    have Hb2 := Lib.hid (Hb1.out.trans (hb2.mono Hb1.out.size))
    have HA2 := Lib.hid (hk.mono Hb1.out.size)
    clear hb2 hk
    simp only [Tree.val]
    go_upto_region 6 with fail
    generalize hW : World.alloc w2 _ = W3
    have hbn : Below w2.heap.size w2 W3 := by rw [← hW]; exact Below.new _ _
    have hvn : KVar W3 w2.heap.size t a n c := by rw [← hW]; exact KVar.new w2 t a n c _
    have Hb3 := Lib.hid (Hb2.out.trans (hbn.mono Hb2.out.size))
    have HA3 := Lib.hid (HA2.out.later hbn)
    have HV3 := Lib.hid hvn
    clear hW hbn hvn
    go_wp2_with fail
    refine (L2.out _ (Hl.out.below Hb3.out)).mono ?_
    rintro e w4 ⟨hb4, b, m, k, rfl, hk⟩
    have Hb4 := Lib.hid (Hb3.out.trans (hb4.mono Hb3.out.size))
    have HA4 := Lib.hid (HA3.out.later hb4)
    have HB4 := Lib.hid (hk.mono Hb3.out.size)
    have HV4 := Lib.hid (HV3.out.below hb4 HV3.out.lt)
    clear hb4 hk
    simp only [Tree.val]
    go_upto_region 7 with fail
    generalize hW : World.alloc w4 _ = W5
    have hbn : Below w4.heap.size w4 W5 := by rw [← hW]; exact Below.new _ _
    have hvn : KVar W5 w4.heap.size t b m k := by rw [← hW]; exact KVar.new w4 t b m k _
    have Hb5 := Lib.hid (Hb4.out.trans (hbn.mono Hb4.out.size))
    have HA5 := Lib.hid (HA4.out.later hbn)
    have HB5 := Lib.hid (HB4.out.later hbn)
    have HV5 := Lib.hid (HV4.out.below hbn HV4.out.lt)
    have HU5 := Lib.hid hvn
    clear hW hbn hvn
    have hc := Lib.hid (L3.out W5 a n c b m k HA5.out HB5.out)
    obtain ⟨a0, a1, a2, a3, a4, a5, a6, a7, a8, -, -⟩ := HV5.out
    obtain ⟨b0, b1, b2, b3, b4, b5, b6, b7, b8, -, -⟩ := HU5.out
    rcases hor with rfl | ⟨rfl, rfl⟩
    · go_wp2_with fail
      refine hc.out.mono ?_
      rintro e w6 ⟨rfl, hb6⟩
      have Hb6 := Lib.hid (Hb5.out.trans (hb6.mono Hb5.out.size))
      clear hb6
      go_wp2_with fail
      go_ret
      exact ⟨rfl, Hb6.out⟩
    · go_wp2_with fail
      refine hc.out.mono ?_
      rintro e w6 ⟨rfl, hb6⟩
      have Hb6 := Lib.hid (Hb5.out.trans (hb6.mono Hb5.out.size))
      clear hb6
      go_wp2_with fail
      go_ret
      exact ⟨rfl, Hb6.out⟩
end Go.Proofs.YthhghlnbpigcjaaGreatDoor
