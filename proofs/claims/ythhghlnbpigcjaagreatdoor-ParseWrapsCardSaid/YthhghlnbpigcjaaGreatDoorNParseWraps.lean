/- The walk of ParseWraps. -/
import Derived.Test.YthhghlnbpigcjaaGreatDoorPi0
import Derived.Test.YthhghlnbpigcjaaGreatDoorPj1
import Derived.Test.YthhghlnbpigcjaaGreatDoorPk0
import Derived.Deep.RegionHeld3
import Derived.Deep.RegionWith
set_option linter.unusedVariables false
set_option linter.unusedSimpArgs false
namespace Go.Proofs.YthhghlnbpigcjaaGreatDoor
open Go.RowKit

theorem wraps_told {s : List UInt8} {t : Tree} {p : Nat} (h : parseF s = (t, p, 0)) (hs : s.length ≤ 900) :
    (∃ u, parseF (40 :: (s ++ [41])) = (u, 0, 0) ∧ sameT false u t = true ∧ u.nodes ≤ 1000000) ∨ ∃ p : Nat, (20 : Int) ≤ (p : Int) ∧ parseF (40 :: (s ++ [41])) = (zeroT, p, 160) := by
  rcases wrapF_brackets h hs with ⟨u, h1, h2⟩ | ⟨b, h1, h2⟩
  · exact .inl ⟨u, h1, sim_same h2, by have := (parseF_good h1).2.1; simp at this; omega⟩
  · exact .inr ⟨b, by omega, h2⟩
theorem wraps_told2 {s : List UInt8} {t b : Tree} {p q : Nat} (h : parseF s = (t, p, 0)) (hs : s.length ≤ 900) (hb : parseF (kNot ++ 32 :: 40 :: (s ++ [41])) = (b, q, 0)) : ∃ c, b = .node 4 0 [c] ∧ sameT false c t = true ∧ c.nodes ≤ 1000000 := by
  obtain ⟨c, h1, h2⟩ := wrapF_not h hs hb
  have hg := (parseF_good hb).2.1
  have h3 := nodes_eq b
  rw [h1] at h3 hg
  have h4 : c.nodes ≤ Tree.count [c] := mem_nodes (by simp)
  have h5 : Tree.count (Tree.node 4 0 [c]).kids = Tree.count [c] := rfl
  simp [kNot] at hg
  exact ⟨c, h1, sim_same h2, by omega⟩
set_option maxHeartbeats 16000000 in
set_option maxRecDepth 100000 in
theorem parseWraps_walk (w : World) (hl : Laid w) (hs : Spc w) (s : ByteArray) :
    Calls Tryz.prog 7 #[.string s] w fun e w' => e = .returned (.bool true) ∧ Below w.heap.size w w' := by
  have Hl := Lib.hid hl; have Hs := Lib.hid hs
  have Hf := Lib.hid (first17_any w hl hs)
  have L1 : Hid (∀ W : World, Laid W → Spc W → Calls Tryz.prog 10 #[.string s] W fun e w' => ParseAns W w' (parseF s.data.toList) e) := Lib.hid fun W h1 h2 => pparse_any W h1 h2 s
  have hsz : s.data.toList.length = s.size := (Lib.size_eq s).symm
  obtain ⟨t, p, er, hp, hor⟩ := parseF_err s.data.toList
  rw [hp] at L1
  have Hp := Lib.hid hp; have Hsz := Lib.hid hsz
  clear hl hs hp hsz
  by_cases hn : 900 < s.size
  · have hni : 900 < (s.size : Int) := by omega
    clear hn hor
    go_enter Tryz.func7, Tryz.ntmps7
    go_wp2_with fail
    refine Hf.out.mono ?_
    rintro e w1 ⟨rfl, hb1⟩
    have Hb1 := Lib.hid hb1
    clear hb1
    go_wp2_with fail
    refine (L1.out _ (Hl.out.below Hb1.out) (Hs.out.below Hb1.out)).mono ?_
    rintro e w2 ⟨hb2, a, n, c, rfl, hk⟩
    have Hb2 := Lib.hid ((Hb1.out.trans (hb2.mono Hb1.out.size)).trans ((Below.new w2 (.cells (t.cells a n c) 31)).mono (Nat.le_trans Hb1.out.size hb2.size)))
    clear hb2 hk
    simp only [Tree.val]
    go_wp2_with fail
    go_ret
    exact ⟨rfl, Hb2.out⟩
  · have hni : (s.size : Int) ≤ 900 := by omega
    rcases hor with rfl | ⟨rfl, rfl⟩
    rotate_left
    · clear hn
      go_enter Tryz.func7, Tryz.ntmps7
      go_wp2_with fail
      refine Hf.out.mono ?_
      rintro e w1 ⟨rfl, hb1⟩
      have Hb1 := Lib.hid hb1
      clear hb1
      go_wp2_with fail
      refine (L1.out _ (Hl.out.below Hb1.out) (Hs.out.below Hb1.out)).mono ?_
      rintro e w2 ⟨hb2, a, n, c, rfl, hk⟩
      have Hb2 := Lib.hid ((Hb1.out.trans (hb2.mono Hb1.out.size)).trans ((Below.new w2 (.cells (zeroT.cells a n c) 31)).mono (Nat.le_trans Hb1.out.size hb2.size)))
      clear hb2 hk
      simp only [Tree.val]
      go_wp2_with fail
      go_ret
      exact ⟨rfl, Hb2.out⟩
    · have hslen : s.data.toList.length ≤ 900 := by rw [Hsz.out]; omega
      have Hslen := Lib.hid hslen
      have n1 : (⟨#[40]⟩ ++ s ++ ⟨#[41]⟩ : ByteArray).data.toList = 40 :: (s.data.toList ++ [41]) := by simp [ByteArray.data_append]
      have n2 : (⟨#[110, 111, 116, 32, 40]⟩ ++ s ++ ⟨#[41]⟩ : ByteArray).data.toList = kNot ++ 32 :: 40 :: (s.data.toList ++ [41]) := by simp [ByteArray.data_append]
      have n3 : (s ++ ⟨#[32, 111, 114, 32, 36, 122, 122]⟩ : ByteArray).data.toList = s.data.toList ++ 32 :: (kOr ++ 32 :: 36 :: [122, 122]) := by simp [ByteArray.data_append]
      have hA := wraps_told Hp.out hslen
      have hB : ∀ b q, parseF (⟨#[110, 111, 116, 32, 40]⟩ ++ s ++ ⟨#[41]⟩ : ByteArray).data.toList = (b, q, 0) → ∃ c, b = .node 4 0 [c] ∧ sameT false c t = true ∧ c.nodes ≤ 1000000 := fun b q h => by
        rw [n2] at h
        exact wraps_told2 Hp.out hslen h
      have hC : ∀ b q, parseF (s ++ ⟨#[32, 111, 114, 32, 36, 122, 122]⟩ : ByteArray).data.toList = (b, q, 0) → ∃ (a : Tree) (p1 p2 : Nat), b = .node 6 p1 [a, .mk 0 (p2 : Int) [122, 122] 0 zeroVal []] := fun b q h => by
        rw [n3] at h
        exact wrapF_or Hp.out hslen h
      rw [← n1] at hA
      have hnod : t.nodes ≤ 1000 := by have := (parseF_good Hp.out).2.1; omega
      have Hnod := Lib.hid hnod
      have L2 : Hid (∀ W : World, Laid W → Spc W → Calls Tryz.prog 10 #[.string (⟨#[40]⟩ ++ s ++ ⟨#[41]⟩ : ByteArray)] W fun e w' => ParseAns W w' (parseF (⟨#[40]⟩ ++ s ++ ⟨#[41]⟩ : ByteArray).data.toList) e) := Lib.hid fun W h1 h2 => pparse_any W h1 h2 _
      have L3 : Hid (∀ W : World, Laid W → Spc W → Calls Tryz.prog 10 #[.string (⟨#[110, 111, 116, 32, 40]⟩ ++ s ++ ⟨#[41]⟩ : ByteArray)] W fun e w' => ParseAns W w' (parseF (⟨#[110, 111, 116, 32, 40]⟩ ++ s ++ ⟨#[41]⟩ : ByteArray).data.toList) e) := Lib.hid fun W h1 h2 => pparse_any W h1 h2 _
      have L4 : Hid (∀ W : World, Laid W → Spc W → Calls Tryz.prog 10 #[.string (s ++ ⟨#[32, 111, 114, 32, 36, 122, 122]⟩ : ByteArray)] W fun e w' => ParseAns W w' (parseF (s ++ ⟨#[32, 111, 114, 32, 36, 122, 122]⟩ : ByteArray).data.toList) e) := Lib.hid fun W h1 h2 => pparse_any W h1 h2 _
      obtain ⟨tb, pb, eb, hpb, horb⟩ := parseF_err (⟨#[110, 111, 116, 32, 40]⟩ ++ s ++ ⟨#[41]⟩ : ByteArray).data.toList
      obtain ⟨tc, pc, ec, hpc, horc⟩ := parseF_err (s ++ ⟨#[32, 111, 114, 32, 36, 122, 122]⟩ : ByteArray).data.toList
      obtain ⟨ta, pa, ea, hpa⟩ : ∃ ta pa ea, parseF (⟨#[40]⟩ ++ s ++ ⟨#[41]⟩ : ByteArray).data.toList = (ta, pa, ea) := ⟨_, _, _, rfl⟩
      rw [hpa] at L2 hA; rw [hpb] at L3; rw [hpc] at L4
      have HA := Lib.hid hA
      have HBb : Hid ((eb = 0 ∧ ∃ c, tb = .node 4 0 [c] ∧ sameT false c t = true ∧ c.nodes ≤ 1000000) ∨ eb = 160) := Lib.hid (by
        rcases horb with rfl | ⟨h1, -⟩
        · exact .inl ⟨rfl, hB _ _ hpb⟩
        · exact .inr h1)
      have HCc : Hid ((ec = 0 ∧ ∃ (a : Tree) (p1 p2 : Nat), tc = .node 6 p1 [a, .mk 0 (p2 : Int) [122, 122] 0 zeroVal []]) ∨ ec = 160) := Lib.hid (by
        rcases horc with rfl | ⟨h1, -⟩
        · exact .inl ⟨rfl, hC _ _ hpc⟩
        · exact .inr h1)
      have hc1 : ∀ W : World, (Op.stringOp .add ⟨#[40]⟩ s).run Tryz.prog W = .ok (.string (⟨#[40]⟩ ++ s)) W := fun W => run_string_add_sum W _ _ (by show 1 + s.size ≤ _; omega)
      have hc2 : ∀ W : World, (Op.stringOp .add (⟨#[40]⟩ ++ s) ⟨#[41]⟩).run Tryz.prog W = .ok (.string (⟨#[40]⟩ ++ s ++ ⟨#[41]⟩)) W := fun W => run_string_add_sum W _ _ (by rw [ByteArray.size_append]; show 1 + s.size + 1 ≤ _; omega)
      have hc3 : ∀ W : World, (Op.stringOp .add ⟨#[110, 111, 116, 32, 40]⟩ s).run Tryz.prog W = .ok (.string (⟨#[110, 111, 116, 32, 40]⟩ ++ s)) W := fun W => run_string_add_sum W _ _ (by show 5 + s.size ≤ _; omega)
      have hc4 : ∀ W : World, (Op.stringOp .add (⟨#[110, 111, 116, 32, 40]⟩ ++ s) ⟨#[41]⟩).run Tryz.prog W = .ok (.string (⟨#[110, 111, 116, 32, 40]⟩ ++ s ++ ⟨#[41]⟩)) W := fun W => run_string_add_sum W _ _ (by rw [ByteArray.size_append]; show 5 + s.size + 1 ≤ _; omega)
      have hc5 : ∀ W : World, (Op.stringOp .add s ⟨#[32, 111, 114, 32, 36, 122, 122]⟩).run Tryz.prog W = .ok (.string (s ++ ⟨#[32, 111, 114, 32, 36, 122, 122]⟩)) W := fun W => run_string_add_sum W _ _ (by show s.size + 7 ≤ _; omega)
      clear hn hslen n1 n2 n3 hB hC hnod hpa hpb hpc hA horb horc
      generalize (⟨#[40]⟩ ++ s ++ ⟨#[41]⟩ : ByteArray) = s1 at L2 hc2
      generalize (⟨#[110, 111, 116, 32, 40]⟩ ++ s ++ ⟨#[41]⟩ : ByteArray) = s2 at L3 hc4
      generalize (s ++ ⟨#[32, 111, 114, 32, 36, 122, 122]⟩ : ByteArray) = s3 at L4 hc5
      generalize (⟨#[40]⟩ ++ s : ByteArray) = s4 at hc1 hc2
      generalize (⟨#[110, 111, 116, 32, 40]⟩ ++ s : ByteArray) = s5 at hc3 hc4
      go_enter Tryz.func7, Tryz.ntmps7
      go_wp2_with fail
      refine Hf.out.mono ?_
      rintro e w1 ⟨rfl, hb1⟩
      have Hb1 := Lib.hid hb1
      clear hb1
      go_wp2_with fail
      refine (L1.out _ (Hl.out.below Hb1.out) (Hs.out.below Hb1.out)).mono ?_
      rintro e w2 ⟨hb2, a, n, c, rfl, hk⟩
      have Hb2 := Lib.hid (Hb1.out.trans (hb2.mono Hb1.out.size))
      have HA2 := Lib.hid hk
      clear hb2 hk
      simp only [Tree.val]
      go_upto_region 6 with fail
      generalize hW : World.alloc w2 _ = W3
      have hbn : Below w2.heap.size w2 W3 := by rw [← hW]; exact Below.new _ _
      have hvn : KVar W3 w2.heap.size t a n c := by rw [← hW]; exact KVar.new w2 t a n c _
      have Hb3 := Lib.hid (Hb2.out.trans (hbn.mono Hb2.out.size))
      have HVA := Lib.hid hvn
      replace HA2 := Lib.hid (HA2.out.later hbn)
      clear hW hbn hvn
      have Hc := Lib.hid (L2.out W3 (Hl.out.below Hb3.out) (Hs.out.below Hb3.out))
      go_wp2_with fail
      refine Hc.out.mono ?_
      clear Hc
      rintro e w4 ⟨hb, a2, n2, c2, rfl, hk⟩
      have Hb4 := Lib.hid (Hb3.out.trans (hb.mono Hb3.out.size))
      have HB2 := Lib.hid hk
      replace HVA := Lib.hid (HVA.out.below hb HVA.out.lt)
      replace HA2 := Lib.hid (HA2.out.later hb)
      clear hb hk
      simp only [Tree.val]
      go_upto_region 7 with fail
      generalize hW : World.alloc w4 _ = W5
      have hbn : Below w4.heap.size w4 W5 := by rw [← hW]; exact Below.new _ _
      have hvn : KVar W5 w4.heap.size ta a2 n2 c2 := by rw [← hW]; exact KVar.new w4 ta a2 n2 c2 _
      have Hb5 := Lib.hid (Hb4.out.trans (hbn.mono Hb4.out.size))
      have HVB := Lib.hid hvn
      replace HVA := Lib.hid (HVA.out.below hbn HVA.out.lt)
      replace HA2 := Lib.hid (HA2.out.later hbn)
      replace HB2 := Lib.hid (HB2.out.later hbn)
      clear hW hbn hvn
      have Hc := Lib.hid (L3.out W5 (Hl.out.below Hb5.out) (Hs.out.below Hb5.out))
      go_wp2_with fail
      refine Hc.out.mono ?_
      clear Hc
      rintro e w6 ⟨hb, a3, n3, c3, rfl, hk⟩
      have Hb6 := Lib.hid (Hb5.out.trans (hb.mono Hb5.out.size))
      have HC2 := Lib.hid hk
      replace HVA := Lib.hid (HVA.out.below hb HVA.out.lt)
      replace HA2 := Lib.hid (HA2.out.later hb)
      replace HVB := Lib.hid (HVB.out.below hb HVB.out.lt)
      replace HB2 := Lib.hid (HB2.out.later hb)
      clear hb hk
      simp only [Tree.val]
      go_upto_region 8 with fail
      generalize hW : World.alloc w6 _ = W7
      have hbn : Below w6.heap.size w6 W7 := by rw [← hW]; exact Below.new _ _
      have hvn : KVar W7 w6.heap.size tb a3 n3 c3 := by rw [← hW]; exact KVar.new w6 tb a3 n3 c3 _
      have Hb7 := Lib.hid (Hb6.out.trans (hbn.mono Hb6.out.size))
      have HVC := Lib.hid hvn
      replace HVA := Lib.hid (HVA.out.below hbn HVA.out.lt)
      replace HVB := Lib.hid (HVB.out.below hbn HVB.out.lt)
      replace HA2 := Lib.hid (HA2.out.later hbn)
      replace HB2 := Lib.hid (HB2.out.later hbn)
      replace HC2 := Lib.hid (HC2.out.later hbn)
      clear hW hbn hvn
      have Hc := Lib.hid (L4.out W7 (Hl.out.below Hb7.out) (Hs.out.below Hb7.out))
      go_wp2_with fail
      refine Hc.out.mono ?_
      clear Hc
      rintro e w8 ⟨hb, a4, n4, c4, rfl, hk⟩
      have Hb8 := Lib.hid (Hb7.out.trans (hb.mono Hb7.out.size))
      have HD2 := Lib.hid hk
      replace HVA := Lib.hid (HVA.out.below hb HVA.out.lt)
      replace HA2 := Lib.hid (HA2.out.later hb)
      replace HVB := Lib.hid (HVB.out.below hb HVB.out.lt)
      replace HB2 := Lib.hid (HB2.out.later hb)
      replace HVC := Lib.hid (HVC.out.below hb HVC.out.lt)
      replace HC2 := Lib.hid (HC2.out.later hb)
      clear hb hk
      simp only [Tree.val]
      go_upto_region 9 with fail
      generalize hW : World.alloc w8 _ = W9
      have hbn : Below w8.heap.size w8 W9 := by rw [← hW]; exact Below.new _ _
      have hvn : KVar W9 w8.heap.size tc a4 n4 c4 := by rw [← hW]; exact KVar.new w8 tc a4 n4 c4 _
      have Hb9 := Lib.hid (Hb8.out.trans (hbn.mono Hb8.out.size))
      have HVD := Lib.hid hvn
      replace HVA := Lib.hid (HVA.out.below hbn HVA.out.lt)
      replace HVB := Lib.hid (HVB.out.below hbn HVB.out.lt)
      replace HVC := Lib.hid (HVC.out.below hbn HVC.out.lt)
      replace HA2 := Lib.hid (HA2.out.later hbn)
      replace HB2 := Lib.hid (HB2.out.later hbn)
      replace HC2 := Lib.hid (HC2.out.later hbn)
      replace HD2 := Lib.hid (HD2.out.later hbn)
      clear hW hbn hvn
      clear hc1 hc2 hc3 hc4 hc5
      rcases HA.out with ⟨u, hu, hsame, hun⟩ | ⟨p2, hp2, hu⟩
      rotate_left
      · simp only [Prod.mk.injEq] at hu
        obtain ⟨-, rfl, rfl⟩ := hu
        by_cases h20 : (pa : Int) = 20
        · rw [h20]
          clear hp2 h20
          go_wp2_with fail
          go_ret
          exact ⟨rfl, Hb9.out⟩
        · have e20 : ((pa : Int) == 20) = false := beq_eq_false_iff_ne.2 h20
          have l20 : (20 : Int) < (pa : Int) := by omega
          clear hp2 h20
          go_wp2_with fail
          go_ret
          exact ⟨rfl, Hb9.out⟩
      · simp only [Prod.mk.injEq] at hu
        obtain ⟨rfl, rfl, rfl⟩ := hu
        have hsm := Lib.hid hsame
        clear hsame
        have Hc1 : Hid (∀ X, Below W9.heap.size W9 X → Calls Tryz.prog 12 #[.agg #[.int .i64 ta.k, .int .i64 ta.pos, .string ⟨ta.col.toArray⟩, .int .i64 ta.v.k, .int .i64 ta.v.n, .string ta.v.s, .int .u64 ta.v.f, .int .i64 ta.op, .slice a2 n2 c2], .agg #[.int .i64 t.k, .int .i64 t.pos, .string ⟨t.col.toArray⟩, .int .i64 t.v.k, .int .i64 t.v.n, .string t.v.s, .int .u64 t.v.f, .int .i64 t.op, .slice a n c], .bool false] X fun e w' => e = .returned (.bool true) ∧ Below X.heap.size X w') := Lib.hid fun X hb => (sameR_any false 1000000 (Nat.le_refl _) ta t hun X _ _ a2 n2 c2 a n c (HB2.out.later hb) (HA2.out.later hb)).mono fun e w' h => by rw [hsm.out] at h; exact h
        rcases HBb.out with ⟨rfl, c', rfl, hs2, hcn⟩ | rfl
        · obtain ⟨g3, o3, ka, kn, kc, qa, hkc, hkk⟩ := HC2.out.get (i := 0) (t := c') rfl
          have hn3 := HC2.out.len
          have hn4 : n3 = 1 := hn3
          subst qa hn4
          have hsm2 := Lib.hid hs2
          have Hkc := Lib.hid hkc
          have Hc2 : Hid (∀ X, Below W9.heap.size W9 X → Calls Tryz.prog 12 #[.agg #[.int .i64 c'.k, .int .i64 c'.pos, .string ⟨c'.col.toArray⟩, .int .i64 c'.v.k, .int .i64 c'.v.n, .string c'.v.s, .int .u64 c'.v.f, .int .i64 c'.op, .slice ka kn kc], .agg #[.int .i64 t.k, .int .i64 t.pos, .string ⟨t.col.toArray⟩, .int .i64 t.v.k, .int .i64 t.v.n, .string t.v.s, .int .u64 t.v.f, .int .i64 t.op, .slice a n c], .bool false] X fun e w' => e = .returned (.bool true) ∧ Below X.heap.size X w') := Lib.hid fun X hb => (sameR_any false 1000000 (Nat.le_refl _) c' t hcn X _ _ ka kn kc a n c (hkk.later hb) (HA2.out.later hb)).mono fun e w' h => by rw [hsm2.out] at h; exact h
          have HKS : Hid (∀ X, Below W9.heap.size W9 X → Below W9.heap.size W9 X ∧ X.cell? ⟨w2.heap.size, 0, none⟩ = some (.int .i64 t.k) ∧ X.cell? ⟨w2.heap.size, 1, none⟩ = some (.int .i64 t.pos) ∧ X.cell? ⟨w2.heap.size, 2, none⟩ = some (.string ⟨t.col.toArray⟩) ∧ X.cell? ⟨w2.heap.size, 3, none⟩ = some (.int .i64 t.v.k) ∧ X.cell? ⟨w2.heap.size, 4, none⟩ = some (.int .i64 t.v.n) ∧ X.cell? ⟨w2.heap.size, 5, none⟩ = some (.string t.v.s) ∧ X.cell? ⟨w2.heap.size, 6, none⟩ = some (.int .u64 t.v.f) ∧ X.cell? ⟨w2.heap.size, 7, none⟩ = some (.int .i64 t.op) ∧ X.cell? ⟨w2.heap.size, 8, none⟩ = some (.slice a n c) ∧ X.cell? ⟨w4.heap.size, 0, none⟩ = some (.int .i64 ta.k) ∧ X.cell? ⟨w4.heap.size, 1, none⟩ = some (.int .i64 ta.pos) ∧ X.cell? ⟨w4.heap.size, 2, none⟩ = some (.string ⟨ta.col.toArray⟩) ∧ X.cell? ⟨w4.heap.size, 3, none⟩ = some (.int .i64 ta.v.k) ∧ X.cell? ⟨w4.heap.size, 4, none⟩ = some (.int .i64 ta.v.n) ∧ X.cell? ⟨w4.heap.size, 5, none⟩ = some (.string ta.v.s) ∧ X.cell? ⟨w4.heap.size, 6, none⟩ = some (.int .u64 ta.v.f) ∧ X.cell? ⟨w4.heap.size, 7, none⟩ = some (.int .i64 ta.op) ∧ X.cell? ⟨w4.heap.size, 8, none⟩ = some (.slice a2 n2 c2) ∧ X.cell? ⟨w6.heap.size, 0, none⟩ = some (.int .i64 4) ∧ X.cell? ⟨w6.heap.size, 1, none⟩ = some (.int .i64 0) ∧ X.cell? ⟨w6.heap.size, 8, none⟩ = some (.slice (some ⟨g3, o3, none⟩) 1 c3) ∧ X.cell? ⟨g3, o3, none⟩ = some (.int .i64 c'.k) ∧ X.cell? ⟨g3, o3 + 1, none⟩ = some (.int .i64 c'.pos) ∧ X.cell? ⟨g3, o3 + 2, none⟩ = some (.string ⟨c'.col.toArray⟩) ∧ X.cell? ⟨g3, o3 + 3, none⟩ = some (.int .i64 c'.v.k) ∧ X.cell? ⟨g3, o3 + 4, none⟩ = some (.int .i64 c'.v.n) ∧ X.cell? ⟨g3, o3 + 5, none⟩ = some (.string c'.v.s) ∧ X.cell? ⟨g3, o3 + 6, none⟩ = some (.int .u64 c'.v.f) ∧ X.cell? ⟨g3, o3 + 7, none⟩ = some (.int .i64 c'.op) ∧ X.cell? ⟨g3, o3 + 8, none⟩ = some (.slice ka kn kc)) := Lib.hid fun X hb => by
            have kA := HVA.out.below hb HVA.out.lt
            have kB := HVB.out.below hb HVB.out.lt
            have kC := HVC.out.below hb HVC.out.lt
            have kK := Hkc.out.below hb
            exact ⟨hb, kA.c0, kA.c1, kA.c2, kA.c3, kA.c4, kA.c5, kA.c6, kA.c7, kA.c8, kB.c0, kB.c1, kB.c2, kB.c3, kB.c4, kB.c5, kB.c6, kB.c7, kB.c8, kC.c0, kC.c1, kC.c8, kK.c0, kK.c1, kK.c2, kK.c3, kK.c4, kK.c5, kK.c6, kK.c7, kK.c8⟩
          clear hs2 hkc hkk hn3 hun hcn
          go_upto_region 11 with fail
          have hks := HKS.out _ (Below.refl _ _)
          go_region_held3 (fun X => Below W9.heap.size W9 X ∧ X.cell? ⟨w2.heap.size, 0, none⟩ = some (.int .i64 t.k) ∧ X.cell? ⟨w2.heap.size, 1, none⟩ = some (.int .i64 t.pos) ∧ X.cell? ⟨w2.heap.size, 2, none⟩ = some (.string ⟨t.col.toArray⟩) ∧ X.cell? ⟨w2.heap.size, 3, none⟩ = some (.int .i64 t.v.k) ∧ X.cell? ⟨w2.heap.size, 4, none⟩ = some (.int .i64 t.v.n) ∧ X.cell? ⟨w2.heap.size, 5, none⟩ = some (.string t.v.s) ∧ X.cell? ⟨w2.heap.size, 6, none⟩ = some (.int .u64 t.v.f) ∧ X.cell? ⟨w2.heap.size, 7, none⟩ = some (.int .i64 t.op) ∧ X.cell? ⟨w2.heap.size, 8, none⟩ = some (.slice a n c) ∧ X.cell? ⟨w4.heap.size, 0, none⟩ = some (.int .i64 ta.k) ∧ X.cell? ⟨w4.heap.size, 1, none⟩ = some (.int .i64 ta.pos) ∧ X.cell? ⟨w4.heap.size, 2, none⟩ = some (.string ⟨ta.col.toArray⟩) ∧ X.cell? ⟨w4.heap.size, 3, none⟩ = some (.int .i64 ta.v.k) ∧ X.cell? ⟨w4.heap.size, 4, none⟩ = some (.int .i64 ta.v.n) ∧ X.cell? ⟨w4.heap.size, 5, none⟩ = some (.string ta.v.s) ∧ X.cell? ⟨w4.heap.size, 6, none⟩ = some (.int .u64 ta.v.f) ∧ X.cell? ⟨w4.heap.size, 7, none⟩ = some (.int .i64 ta.op) ∧ X.cell? ⟨w4.heap.size, 8, none⟩ = some (.slice a2 n2 c2) ∧ X.cell? ⟨w6.heap.size, 0, none⟩ = some (.int .i64 4) ∧ X.cell? ⟨w6.heap.size, 1, none⟩ = some (.int .i64 0) ∧ X.cell? ⟨w6.heap.size, 8, none⟩ = some (.slice (some ⟨g3, o3, none⟩) 1 c3) ∧ X.cell? ⟨g3, o3, none⟩ = some (.int .i64 c'.k) ∧ X.cell? ⟨g3, o3 + 1, none⟩ = some (.int .i64 c'.pos) ∧ X.cell? ⟨g3, o3 + 2, none⟩ = some (.string ⟨c'.col.toArray⟩) ∧ X.cell? ⟨g3, o3 + 3, none⟩ = some (.int .i64 c'.v.k) ∧ X.cell? ⟨g3, o3 + 4, none⟩ = some (.int .i64 c'.v.n) ∧ X.cell? ⟨g3, o3 + 5, none⟩ = some (.string c'.v.s) ∧ X.cell? ⟨g3, o3 + 6, none⟩ = some (.int .u64 c'.v.f) ∧ X.cell? ⟨g3, o3 + 7, none⟩ = some (.int .i64 c'.op) ∧ X.cell? ⟨g3, o3 + 8, none⟩ = some (.slice ka kn kc))
            (first | exact HKS.out _ (by with_reducible assumption) | with_reducible exact HKS.out _ (Below.refl _ _).drew)
            (first
              | (go_at_call_of 12 (Value.slice a2 n2 c2); refine (Hc1.out _ (‹Below W9.heap.size W9 _ ∧ _›).1).mono ?_; rintro e wx ⟨rfl, hb0⟩; have hbx := (‹Below W9.heap.size W9 _ ∧ _›).1.trans (hb0.mono (‹Below W9.heap.size W9 _ ∧ _›).1.size); clear hb0)
              | (go_at_call_of 12 (Value.slice ka kn kc); refine (Hc2.out _ (‹Below W9.heap.size W9 _ ∧ _›).1).mono ?_; rintro e wx ⟨rfl, hb0⟩; have hbx := (‹Below W9.heap.size W9 _ ∧ _›).1.trans (hb0.mono (‹Below W9.heap.size W9 _ ∧ _›).1.size); clear hb0))
          all_goals
            have HBX := Lib.hid (‹Below W9.heap.size W9 _ ∧ _›).1
            clear HKS
            have HB10 := Lib.hid (Hb9.out.trans (HBX.out.mono Hb9.out.size))
            rcases HCc.out with ⟨rfl, aa, q1, q2, rfl⟩ | rfl
            rotate_left
            · go_wp2_with fail
              go_ret
              exact ⟨rfl, HB10.out⟩
            · have hv := HVD.out.below HBX.out HVD.out.lt
              have z0 := hv.c0
              have z8 := hv.c8
              obtain ⟨b5, o5, a5, n5, c5, q5, hk5, -⟩ := HD2.out.get (i := 1) (t := .mk 0 (q2 : Int) [122, 122] 0 zeroVal []) rfl
              have hn5 := HD2.out.len
              have hn6 : n4 = 2 := hn5
              subst q5 hn6
              have k2 := (hk5.below HBX.out).c2
              simp only [Tree.k, Tree.col] at z0 k2
              clear hv hk5 hn5
              go_wp2_with fail
              go_ret
              exact ⟨rfl, HB10.out⟩
        · have HKS : Hid (∀ X, Below W9.heap.size W9 X → Below W9.heap.size W9 X ∧ X.cell? ⟨w2.heap.size, 0, none⟩ = some (.int .i64 t.k) ∧ X.cell? ⟨w2.heap.size, 1, none⟩ = some (.int .i64 t.pos) ∧ X.cell? ⟨w2.heap.size, 2, none⟩ = some (.string ⟨t.col.toArray⟩) ∧ X.cell? ⟨w2.heap.size, 3, none⟩ = some (.int .i64 t.v.k) ∧ X.cell? ⟨w2.heap.size, 4, none⟩ = some (.int .i64 t.v.n) ∧ X.cell? ⟨w2.heap.size, 5, none⟩ = some (.string t.v.s) ∧ X.cell? ⟨w2.heap.size, 6, none⟩ = some (.int .u64 t.v.f) ∧ X.cell? ⟨w2.heap.size, 7, none⟩ = some (.int .i64 t.op) ∧ X.cell? ⟨w2.heap.size, 8, none⟩ = some (.slice a n c) ∧ X.cell? ⟨w4.heap.size, 0, none⟩ = some (.int .i64 ta.k) ∧ X.cell? ⟨w4.heap.size, 1, none⟩ = some (.int .i64 ta.pos) ∧ X.cell? ⟨w4.heap.size, 2, none⟩ = some (.string ⟨ta.col.toArray⟩) ∧ X.cell? ⟨w4.heap.size, 3, none⟩ = some (.int .i64 ta.v.k) ∧ X.cell? ⟨w4.heap.size, 4, none⟩ = some (.int .i64 ta.v.n) ∧ X.cell? ⟨w4.heap.size, 5, none⟩ = some (.string ta.v.s) ∧ X.cell? ⟨w4.heap.size, 6, none⟩ = some (.int .u64 ta.v.f) ∧ X.cell? ⟨w4.heap.size, 7, none⟩ = some (.int .i64 ta.op) ∧ X.cell? ⟨w4.heap.size, 8, none⟩ = some (.slice a2 n2 c2)) := Lib.hid fun X hb => by
            have kA := HVA.out.below hb HVA.out.lt
            have kB := HVB.out.below hb HVB.out.lt
            exact ⟨hb, kA.c0, kA.c1, kA.c2, kA.c3, kA.c4, kA.c5, kA.c6, kA.c7, kA.c8, kB.c0, kB.c1, kB.c2, kB.c3, kB.c4, kB.c5, kB.c6, kB.c7, kB.c8⟩
          clear hun
          go_upto_region 11 with fail
          have hks := HKS.out _ (Below.refl _ _)
          clear hks
          refine wp_region_noPanic ?_
          refine wp_region_held_drew (S := fun X => Below W9.heap.size W9 X ∧ X.cell? ⟨w2.heap.size, 0, none⟩ = some (.int .i64 t.k) ∧ X.cell? ⟨w2.heap.size, 1, none⟩ = some (.int .i64 t.pos) ∧ X.cell? ⟨w2.heap.size, 2, none⟩ = some (.string ⟨t.col.toArray⟩) ∧ X.cell? ⟨w2.heap.size, 3, none⟩ = some (.int .i64 t.v.k) ∧ X.cell? ⟨w2.heap.size, 4, none⟩ = some (.int .i64 t.v.n) ∧ X.cell? ⟨w2.heap.size, 5, none⟩ = some (.string t.v.s) ∧ X.cell? ⟨w2.heap.size, 6, none⟩ = some (.int .u64 t.v.f) ∧ X.cell? ⟨w2.heap.size, 7, none⟩ = some (.int .i64 t.op) ∧ X.cell? ⟨w2.heap.size, 8, none⟩ = some (.slice a n c) ∧ X.cell? ⟨w4.heap.size, 0, none⟩ = some (.int .i64 ta.k) ∧ X.cell? ⟨w4.heap.size, 1, none⟩ = some (.int .i64 ta.pos) ∧ X.cell? ⟨w4.heap.size, 2, none⟩ = some (.string ⟨ta.col.toArray⟩) ∧ X.cell? ⟨w4.heap.size, 3, none⟩ = some (.int .i64 ta.v.k) ∧ X.cell? ⟨w4.heap.size, 4, none⟩ = some (.int .i64 ta.v.n) ∧ X.cell? ⟨w4.heap.size, 5, none⟩ = some (.string ta.v.s) ∧ X.cell? ⟨w4.heap.size, 6, none⟩ = some (.int .u64 ta.v.f) ∧ X.cell? ⟨w4.heap.size, 7, none⟩ = some (.int .i64 ta.op) ∧ X.cell? ⟨w4.heap.size, 8, none⟩ = some (.slice a2 n2 c2)) (by kernel_rfl) (HKS.out _ (Below.refl _ _).drew) (fun hHeld => ?_)
          refine wpAnyH_take (i := 0) (oi := ⟨some 61, _, _, _, _, _⟩) (v := ?_) rfl (by kernel_rfl) (by kernel_rfl) (by kernel_rfl) (fun _ _ _ h => h) (Or.inl ⟨by rfl, ?_⟩) (by assumption) ?_; rotate_left
          · (intro X hSw; (try dsimp only at hSw); go_simp; all_goals with_reducible rfl)
          (try simp only [Act.put, List.setIfInBounds_toArray, List.set_cons_zero, List.set_cons_succ])
          refine wpAnyH_take (i := 1) (oi := ⟨some 62, _, _, _, _, _⟩) (v := ?_) rfl (by kernel_rfl) (by kernel_rfl) (by kernel_rfl) (fun _ _ _ h => h) (Or.inl ⟨by rfl, ?_⟩) (by assumption) ?_; rotate_left
          · (intro X hSw; (try dsimp only at hSw); go_simp; all_goals with_reducible rfl)
          (try simp only [Act.put, List.setIfInBounds_toArray, List.set_cons_zero, List.set_cons_succ])
          refine wpAnyH_ready (rs := [2]) (by kernel_rfl) (by simp) ?_
          refine AllReadyH.cons (o := _) rfl (fun K hK => ?_) AllReadyH.nil
          go_simp
          refine (Hc1.out _ hHeld.1).mono ?_
          rintro e wx ⟨rfl, hb0⟩
          have hbx := hHeld.1.trans (hb0.mono hHeld.1.size)
          clear hb0
          go_wp2_with fail
          refine hK.out _ _ ?_ (fun hHeld2 => ?_)
          · exact HKS.out _ hbx
          clear hK K hHeld
          have hHeld := hHeld2
          clear hHeld2
          (try simp only [Act.put, List.setIfInBounds_toArray, List.set_cons_zero, List.set_cons_succ])
          refine wpAnyH_take (i := 3) (oi := ⟨some 64, _, _, _, _, _⟩) (v := ?_) rfl (by kernel_rfl) (by kernel_rfl) (by kernel_rfl) (fun _ _ _ h => h) (Or.inl ⟨by rfl, ?_⟩) (by assumption) ?_; rotate_left
          · (intro X hSw; (try dsimp only at hSw); go_simp; all_goals with_reducible rfl)
          (try simp only [Act.put, List.setIfInBounds_toArray, List.set_cons_zero, List.set_cons_succ])
          refine wpAnyH_take (i := 4) (oi := ⟨some 65, _, _, _, _, _⟩) (v := ?_) rfl (by kernel_rfl) (by kernel_rfl) (by kernel_rfl) (fun _ _ _ h => h) (Or.inl ⟨by rfl, ?_⟩) (by assumption) ?_; rotate_left
          · (intro X hSw; (try dsimp only at hSw); go_simp; all_goals with_reducible rfl)
          (try simp only [Act.put, List.setIfInBounds_toArray, List.set_cons_zero, List.set_cons_succ])
          refine wpAnyH_take (i := 5) (oi := ⟨some 66, _, _, _, _, _⟩) (v := ?_) rfl (by kernel_rfl) (by kernel_rfl) (by kernel_rfl) (fun _ _ _ h => h) (Or.inl ⟨by rfl, ?_⟩) (by assumption) ?_; rotate_left
          · (intro X hSw; (try dsimp only at hSw); go_simp; all_goals with_reducible rfl)
          (try simp only [Act.put, List.setIfInBounds_toArray, List.set_cons_zero, List.set_cons_succ])
          refine wpAnyH_take (i := 6) (oi := ⟨some 67, _, _, _, _, _⟩) (v := ?_) rfl (by kernel_rfl) (by kernel_rfl) (by kernel_rfl) (fun _ _ _ h => h) (Or.inl ⟨by rfl, ?_⟩) (by assumption) ?_; rotate_left
          · (intro X hSw; (try dsimp only at hSw); go_simp; all_goals with_reducible rfl)
          (try simp only [Act.put, List.setIfInBounds_toArray, List.set_cons_zero, List.set_cons_succ])
          refine wpAnyH_take (i := 7) (oi := ⟨some 68, _, _, _, _, _⟩) (v := ?_) rfl (by kernel_rfl) (by kernel_rfl) (by kernel_rfl) (fun _ _ _ h => h) (Or.inl ⟨by rfl, ?_⟩) (by assumption) ?_; rotate_left
          · (intro X hSw; (try dsimp only at hSw); go_simp; all_goals with_reducible rfl)
          (try simp only [Act.put, List.setIfInBounds_toArray, List.set_cons_zero, List.set_cons_succ])
          refine wpAnyH_take (i := 8) (oi := ⟨some 69, _, _, _, _, _⟩) (v := undef) rfl (by kernel_rfl) (by kernel_rfl) (by kernel_rfl) (fun _ _ _ h => h) (Or.inr ⟨by kernel_rfl, rfl⟩) (by assumption) ?_
          (try simp only [Act.put, List.setIfInBounds_toArray, List.set_cons_zero, List.set_cons_succ])
          refine wpAnyH_take (i := 9) (oi := ⟨some 70, _, _, _, _, _⟩) (v := undef) rfl (by kernel_rfl) (by kernel_rfl) (by kernel_rfl) (fun _ _ _ h => h) (Or.inr ⟨by kernel_rfl, rfl⟩) (by assumption) ?_
          (try simp only [Act.put, List.setIfInBounds_toArray, List.set_cons_zero, List.set_cons_succ])
          refine wpAnyH_take (i := 10) (oi := ⟨some 71, _, _, _, _, _⟩) (v := undef) rfl (by kernel_rfl) (by kernel_rfl) (by kernel_rfl) (fun _ _ _ h => h) (Or.inr ⟨by kernel_rfl, rfl⟩) (by assumption) ?_
          (try simp only [Act.put, List.setIfInBounds_toArray, List.set_cons_zero, List.set_cons_succ])
          refine wpAnyH_take (i := 11) (oi := ⟨some 72, _, _, _, _, _⟩) (v := undef) rfl (by kernel_rfl) (by kernel_rfl) (by kernel_rfl) (fun _ _ _ h => h) (Or.inr ⟨by kernel_rfl, rfl⟩) (by assumption) ?_
          (try simp only [Act.put, List.setIfInBounds_toArray, List.set_cons_zero, List.set_cons_succ])
          refine wpAnyH_take (i := 12) (oi := ⟨some 73, _, _, _, _, _⟩) (v := undef) rfl (by kernel_rfl) (by kernel_rfl) (by kernel_rfl) (fun _ _ _ h => h) (Or.inr ⟨by kernel_rfl, rfl⟩) (by assumption) ?_
          (try simp only [Act.put, List.setIfInBounds_toArray, List.set_cons_zero, List.set_cons_succ])
          refine wpAnyH_take (i := 13) (oi := ⟨some 74, _, _, _, _, _⟩) (v := undef) rfl (by kernel_rfl) (by kernel_rfl) (by kernel_rfl) (fun _ _ _ h => h) (Or.inr ⟨by kernel_rfl, rfl⟩) (by assumption) ?_
          (try simp only [Act.put, List.setIfInBounds_toArray, List.set_cons_zero, List.set_cons_succ])
          refine wpAnyH_take (i := 14) (oi := ⟨some 75, _, _, _, _, _⟩) (v := undef) rfl (by kernel_rfl) (by kernel_rfl) (by kernel_rfl) (fun _ _ _ h => h) (Or.inr ⟨by kernel_rfl, rfl⟩) (by assumption) ?_
          (try simp only [Act.put, List.setIfInBounds_toArray, List.set_cons_zero, List.set_cons_succ])
          refine wpAnyH_take (i := 15) (oi := ⟨some 76, _, _, _, _, _⟩) (v := undef) rfl (by kernel_rfl) (by kernel_rfl) (by kernel_rfl) (fun _ _ _ h => h) (Or.inr ⟨by kernel_rfl, rfl⟩) (by assumption) ?_
          (try simp only [Act.put, List.setIfInBounds_toArray, List.set_cons_zero, List.set_cons_succ])
          refine wpAnyH_take (i := 16) (oi := ⟨some 77, _, _, _, _, _⟩) (v := undef) rfl (by kernel_rfl) (by kernel_rfl) (by kernel_rfl) (fun _ _ _ h => h) (Or.inr ⟨by kernel_rfl, rfl⟩) (by assumption) ?_
          (try simp only [Act.put, List.setIfInBounds_toArray, List.set_cons_zero, List.set_cons_succ])
          refine wpAnyH_take (i := 17) (oi := ⟨some 78, _, _, _, _, _⟩) (v := undef) rfl (by kernel_rfl) (by kernel_rfl) (by kernel_rfl) (fun _ _ _ h => h) (Or.inr ⟨by kernel_rfl, rfl⟩) (by assumption) ?_
          (try simp only [Act.put, List.setIfInBounds_toArray, List.set_cons_zero, List.set_cons_succ])
          refine wpAnyH_take (i := 18) (oi := ⟨some 79, _, _, _, _, _⟩) (v := undef) rfl (by kernel_rfl) (by kernel_rfl) (by kernel_rfl) (fun _ _ _ h => h) (Or.inr ⟨by kernel_rfl, rfl⟩) (by assumption) ?_
          (try simp only [Act.put, List.setIfInBounds_toArray, List.set_cons_zero, List.set_cons_succ])
          refine wpAnyH_take (i := 19) (oi := ⟨some 80, _, _, _, _, _⟩) (v := undef) rfl (by kernel_rfl) (by kernel_rfl) (by kernel_rfl) (fun _ _ _ h => h) (Or.inr ⟨by kernel_rfl, rfl⟩) (by assumption) ?_
          (try simp only [Act.put, List.setIfInBounds_toArray, List.set_cons_zero, List.set_cons_succ])
          refine wpAnyH_take (i := 20) (oi := ⟨some 81, _, _, _, _, _⟩) (v := undef) rfl (by kernel_rfl) (by kernel_rfl) (by kernel_rfl) (fun _ _ _ h => h) (Or.inr ⟨by kernel_rfl, rfl⟩) (by assumption) ?_
          (try simp only [Act.put, List.setIfInBounds_toArray, List.set_cons_zero, List.set_cons_succ])
          refine wpAnyH_take (i := 21) (oi := ⟨some 82, _, _, _, _, _⟩) (v := undef) rfl (by kernel_rfl) (by kernel_rfl) (by kernel_rfl) (fun _ _ _ h => h) (Or.inr ⟨by kernel_rfl, rfl⟩) (by assumption) ?_
          (try simp only [Act.put, List.setIfInBounds_toArray, List.set_cons_zero, List.set_cons_succ])
          refine wpAnyH_take (i := 22) (oi := ⟨some 83, _, _, _, _, _⟩) (v := undef) rfl (by kernel_rfl) (by kernel_rfl) (by kernel_rfl) (fun _ _ _ h => h) (Or.inr ⟨by kernel_rfl, rfl⟩) (by assumption) ?_
          (try simp only [Act.put, List.setIfInBounds_toArray, List.set_cons_zero, List.set_cons_succ])
          refine wpAnyH_take (i := 23) (oi := ⟨some 84, _, _, _, _, _⟩) (v := undef) rfl (by kernel_rfl) (by kernel_rfl) (by kernel_rfl) (fun _ _ _ h => h) (Or.inr ⟨by kernel_rfl, rfl⟩) (by assumption) ?_
          (try simp only [Act.put, List.setIfInBounds_toArray, List.set_cons_zero, List.set_cons_succ])
          refine wpAnyH_take (i := 24) (oi := ⟨some 85, _, _, _, _, _⟩) (v := undef) rfl (by kernel_rfl) (by kernel_rfl) (by kernel_rfl) (fun _ _ _ h => h) (Or.inr ⟨by kernel_rfl, rfl⟩) (by assumption) ?_
          (try simp only [Act.put, List.setIfInBounds_toArray, List.set_cons_zero, List.set_cons_succ])
          refine wpAnyH_take (i := 25) (oi := ⟨some 86, _, _, _, _, _⟩) (v := ?_) rfl (by kernel_rfl) (by kernel_rfl) (by kernel_rfl) (fun _ _ _ h => h) (Or.inl ⟨by kernel_rfl, ?_⟩) (by assumption) ?_; rotate_left
          · (intro X hSw; (try dsimp only at hSw); go_simp; all_goals with_reducible rfl)
          (try simp only [Act.put, List.setIfInBounds_toArray, List.set_cons_zero, List.set_cons_succ])
          refine wpAnyH_take (i := 26) (oi := ⟨some 87, _, _, _, _, _⟩) (v := ?_) rfl (by kernel_rfl) (by kernel_rfl) (by kernel_rfl) (fun _ _ _ h => h) (Or.inl ⟨by kernel_rfl, ?_⟩) (by assumption) ?_; rotate_left
          · (intro X hSw; (try dsimp only at hSw); go_simp; all_goals with_reducible rfl)
          (try simp only [Act.put, List.setIfInBounds_toArray, List.set_cons_zero, List.set_cons_succ])
          refine wpAnyH_done (by kernel_rfl) ?_ _
          refine NoPanic.normal ?_
          all_goals
            have HBX := Lib.hid (‹Below W9.heap.size W9 _ ∧ _›).1
            clear HKS
            have HB10 := Lib.hid (Hb9.out.trans (HBX.out.mono Hb9.out.size))
            rcases HCc.out with ⟨rfl, aa, q1, q2, rfl⟩ | rfl
            rotate_left
            · go_wp2_with fail
              go_ret
              exact ⟨rfl, HB10.out⟩
            · have hv := HVD.out.below HBX.out HVD.out.lt
              have z0 := hv.c0
              have z8 := hv.c8
              obtain ⟨b5, o5, a5, n5, c5, q5, hk5, -⟩ := HD2.out.get (i := 1) (t := .mk 0 (q2 : Int) [122, 122] 0 zeroVal []) rfl
              have hn5 := HD2.out.len
              have hn6 : n4 = 2 := hn5
              subst q5 hn6
              have k2 := (hk5.below HBX.out).c2
              simp only [Tree.k, Tree.col] at z0 k2
              clear hv hk5 hn5
              go_wp2_with fail
              go_ret
              exact ⟨rfl, HB10.out⟩
end Go.Proofs.YthhghlnbpigcjaaGreatDoor
