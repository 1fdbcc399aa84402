/- The walk of ParseAgain. -/
import Derived.Test.YthhghlnbpigcjaaGreatDoorPi0
import Derived.Test.YthhghlnbpigcjaaGreatDoorPj2
import Derived.Test.YthhghlnbpigcjaaGreatDoorPk0
set_option linter.unusedVariables false
set_option linter.unusedSimpArgs false
namespace Go.Proofs.YthhghlnbpigcjaaGreatDoor
open Go.RowKit

theorem list_ne {l : List UInt8} (h : l ≠ []) : (!l.isEmpty) = true := by
  cases l with
  | nil => exact absurd rfl h
  | cons a l => rfl
/-- what is known of a text's test -/
structure Fine (t : Tree) : Prop where
  right : rightT 0 t = true
  wf : WfT t
  sized : t.sized
  nodes : t.nodes ≤ 1000000
  len : (printT t).length ≤ 1000000
  ne : printT t ≠ []
  pr : printF t = printT t
theorem fine_of {s : List UInt8} {t : Tree} {p : Nat} (h : parseF s = (t, p, 0)) : Fine t := by
  obtain ⟨-, h2, -, h4, h5, h6⟩ := parseF_good h
  have hf := print_facts t.depth t 0 (Nat.le_refl _) h4 h5
  exact ⟨h4, h5, hf.2.1, by omega, by omega, hf.2.2, by unfold printF; rw [h4, if_pos rfl]⟩
set_option maxHeartbeats 16000000 in
set_option maxRecDepth 100000 in
theorem parseAgain_walk (w : World) (hl : Laid w) (hs : Spc w) (s : ByteArray) :
    Calls Tryz.prog 6 #[.string s] w fun e w' => e = .returned (.bool true) ∧ Below w.heap.size w w' := by
  have Hl := Lib.hid hl; have Hs := Lib.hid hs
  have Hf := Lib.hid (first17_any w hl hs)
  have L1 : Hid (∀ W : World, Laid W → Spc W → Calls Tryz.prog 10 #[.string s] W fun e w' => ParseAns W w' (parseF s.data.toList) e) := Lib.hid fun W h1 h2 => pparse_any W h1 h2 s
  obtain ⟨t, p, er, hp, hor⟩ := parseF_err s.data.toList
  rw [hp] at L1
  have Hp := Lib.hid hp
  clear hl hs hp
  by_cases hn : 1000 < s.size
  · have hni : 1000 < (s.size : Int) := by omega
    clear hn hor
    go_enter Tryz.func6, Tryz.ntmps6
    go_wp2_with fail
    refine Hf.out.mono ?_
    rintro e w1 ⟨rfl, hb1⟩
    have Hb1 := Lib.hid hb1
    clear hb1
    go_wp2_with fail
    go_ret
    exact ⟨rfl, Hb1.out⟩
  · have hni : (s.size : Int) ≤ 1000 := by omega
    clear hn
    rcases hor with rfl | ⟨rfl, rfl⟩
    rotate_left
    · go_enter Tryz.func6, Tryz.ntmps6
      go_wp2_with fail
      refine Hf.out.mono ?_
      rintro e w1 ⟨rfl, hb1⟩
      have Hb1 := Lib.hid hb1
      clear hb1
      go_wp2_with fail
      refine (L1.out _ (Hl.out.below Hb1.out) (Hs.out.below Hb1.out)).mono ?_
      rintro e w2 ⟨hb2, a, n, c, rfl, hk⟩
      have Hb2 := Lib.hid ((Hb1.out.trans (hb2.mono Hb1.out.size)).trans ((Below.new w2 (.cells (zeroT.cells a n c) 31)).mono (Nat.le_trans Hb1.out.size hb2.size)))
      clear hb2 hk
      simp only [Tree.val]
      go_wp2_with fail
      go_ret
      exact ⟨rfl, Hb2.out⟩
    · have ft := fine_of Hp.out
      have Ft := Lib.hid ft
      obtain ⟨tx, px, ex, hpx, horx⟩ := parseF_err (printT t)
      have L2 : Hid (∀ W : World, Laid W → Spc W → Calls Tryz.prog 10 #[.string ⟨(printT t).toArray⟩] W fun e w' => ParseAns W w' (tx, px, ex) e) := Lib.hid fun W h1 h2 => by
        have := pparse_any W h1 h2 ⟨(printT t).toArray⟩
        rwa [show (⟨(printT t).toArray⟩ : ByteArray).data.toList = printT t from by simp, hpx] at this
      have P1 : Hid (∀ (W : World) (S : Nat → Prop) (a : Option Addr) (n c : Nat), Laid W → KSl W S t.kids a n → Calls Tryz.prog 16 #[.agg #[.int .i64 t.k, .int .i64 t.pos, .string ⟨t.col.toArray⟩, .int .i64 t.v.k, .int .i64 t.v.n, .string t.v.s, .int .u64 t.v.f, .int .i64 t.op, .slice a n c]] W fun e w' => e = .returned (.string ⟨(printT t).toArray⟩) ∧ Below W.heap.size W w') := Lib.hid fun W S a n c h1 h2 => by
        have := parsePrint_any W h1 t ft.sized ft.wf S a n c h2 (fun _ => ft.len)
        rwa [ft.pr] at this
      have R1 : Hid (∀ (W : World) (S : Nat → Prop) (a : Option Addr) (n c : Nat), KSl W S t.kids a n → Calls Tryz.prog 18 #[.agg #[.int .i64 t.k, .int .i64 t.pos, .string ⟨t.col.toArray⟩, .int .i64 t.v.k, .int .i64 t.v.n, .string t.v.s, .int .u64 t.v.f, .int .i64 t.op, .slice a n c]] W fun e w' => e = .returned (.bool true) ∧ Below W.heap.size W w') := Lib.hid fun W S a n c h2 => by
        have := parseRight_any W t ft.sized S a n c h2
        rwa [ft.right] at this
      have hne := list_ne ft.ne
      have X1 : Hid ((ex = 0 ∧ (∀ (W : World) (S : Nat → Prop) (a : Option Addr) (n c : Nat), Laid W → KSl W S tx.kids a n → Calls Tryz.prog 16 #[.agg #[.int .i64 tx.k, .int .i64 tx.pos, .string ⟨tx.col.toArray⟩, .int .i64 tx.v.k, .int .i64 tx.v.n, .string tx.v.s, .int .u64 tx.v.f, .int .i64 tx.op, .slice a n c]] W fun e w' => e = .returned (.string ⟨(printT t).toArray⟩) ∧ Below W.heap.size W w') ∧ ∀ (W : World) (S S' : Nat → Prop) (a : Option Addr) (n c : Nat) (b : Option Addr) (m k : Nat), KSl W S tx.kids a n → KSl W S' t.kids b m → Calls Tryz.prog 12 #[.agg #[.int .i64 tx.k, .int .i64 tx.pos, .string ⟨tx.col.toArray⟩, .int .i64 tx.v.k, .int .i64 tx.v.n, .string tx.v.s, .int .u64 tx.v.f, .int .i64 tx.op, .slice a n c], .agg #[.int .i64 t.k, .int .i64 t.pos, .string ⟨t.col.toArray⟩, .int .i64 t.v.k, .int .i64 t.v.n, .string t.v.s, .int .u64 t.v.f, .int .i64 t.op, .slice b m k], .bool false] W fun e w' => e = .returned (.bool true) ∧ Below W.heap.size W w') ∨ ex = 160) := Lib.hid (by
        rcases horx with rfl | ⟨h1, -⟩
        · have fx := fine_of hpx
          obtain ⟨q1, q2⟩ := parse_again ft.right ft.wf hpx
          refine .inl ⟨rfl, ?_, ?_⟩
          · intro W S a n c h1 h2
            have := parsePrint_any W h1 tx fx.sized fx.wf S a n c h2 (fun _ => fx.len)
            rwa [q2] at this
          · intro W S S' a n c b m k h1 h2
            have := sameR_any false 1000000 (Nat.le_refl _) tx t fx.nodes W S S' a n c b m k h1 h2
            rwa [q1] at this
        · exact .inr h1)
      clear ft hpx horx
      generalize printT t = PT at L2 P1 X1 hne
      go_enter Tryz.func6, Tryz.ntmps6
      go_wp2_with fail
      refine Hf.out.mono ?_
      rintro e w1 ⟨rfl, hb1⟩
      have Hb1 := Lib.hid hb1
      clear hb1
      go_wp2_with fail
      refine (L1.out _ (Hl.out.below Hb1.out) (Hs.out.below Hb1.out)).mono ?_
      rintro e w2 ⟨hb2, a, n, c, rfl, hk⟩
      have Hb2 := Lib.hid (Hb1.out.trans (hb2.mono Hb1.out.size))
      have HKA := Lib.hid hk
      clear hb2 hk
      simp only [Tree.val]
      go_upto_region 6 with fail
      generalize hW : World.alloc w2 _ = W3
      have hbn : Below w2.heap.size w2 W3 := by rw [← hW]; exact Below.new _ _
      have hvn : KVar W3 w2.heap.size t a n c := by rw [← hW]; exact KVar.new w2 t a n c _
      have Hb3 := Lib.hid (Hb2.out.trans (hbn.mono Hb2.out.size))
      have HVA := Lib.hid hvn
      replace HKA := Lib.hid (HKA.out.later hbn)
      clear hW hbn hvn
      obtain ⟨x0, x1, x2, x3, x4, x5, x6, x7, x8, -, -⟩ := HVA.out
      have Hc := Lib.hid (P1.out W3 _ a n c (Hl.out.below Hb3.out) HKA.out)
      go_wp2_with fail
      refine Hc.out.mono ?_
      rintro e w4 ⟨rfl, hb4⟩
      have Hb4 := Lib.hid (Hb3.out.trans (hb4.mono Hb3.out.size))
      replace HVA := Lib.hid (HVA.out.below hb4 HVA.out.lt)
      replace HKA := Lib.hid (HKA.out.later hb4)
      clear hb4 Hc
      clear x0 x1 x2 x3 x4 x5 x6 x7 x8
      have Hc := Lib.hid (L2.out w4 (Hl.out.below Hb4.out) (Hs.out.below Hb4.out))
      go_wp2_with fail
      refine Hc.out.mono ?_
      rintro e w5 ⟨hb5, a2, n2, c2, rfl, hk⟩
      have Hb5 := Lib.hid (Hb4.out.trans (hb5.mono Hb4.out.size))
      have HKB := Lib.hid hk
      replace HVA := Lib.hid (HVA.out.below hb5 HVA.out.lt)
      replace HKA := Lib.hid (HKA.out.later hb5)
      clear hb5 hk Hc
      simp only [Tree.val]
      go_upto_region 10 with fail
      generalize hW : World.alloc w5 _ = W6
      have hbn : Below w5.heap.size w5 W6 := by rw [← hW]; exact Below.new _ _
      have hvn : KVar W6 w5.heap.size tx a2 n2 c2 := by rw [← hW]; exact KVar.new w5 tx a2 n2 c2 _
      have Hb6 := Lib.hid (Hb5.out.trans (hbn.mono Hb5.out.size))
      have HVB := Lib.hid hvn
      replace HKB := Lib.hid (HKB.out.later hbn)
      replace HVA := Lib.hid (HVA.out.below hbn HVA.out.lt)
      replace HKA := Lib.hid (HKA.out.later hbn)
      clear hW hbn hvn
      obtain ⟨x0, x1, x2, x3, x4, x5, x6, x7, x8, -, -⟩ := HVA.out
      have Hc := Lib.hid (R1.out W6 _ a n c HKA.out)
      go_wp2_with fail
      refine Hc.out.mono ?_
      rintro e w7 ⟨rfl, hb7⟩
      have Hb7 := Lib.hid (Hb6.out.trans (hb7.mono Hb6.out.size))
      replace HVA := Lib.hid (HVA.out.below hb7 HVA.out.lt)
      replace HKA := Lib.hid (HKA.out.later hb7)
      replace HVB := Lib.hid (HVB.out.below hb7 HVB.out.lt)
      replace HKB := Lib.hid (HKB.out.later hb7)
      clear hb7 Hc
      clear x0 x1 x2 x3 x4 x5 x6 x7 x8
      rcases X1.out with ⟨rfl, p2, s2⟩ | rfl
      rotate_left
      · go_wp2_with fail
        go_ret
        exact ⟨rfl, Hb7.out⟩
      · have S2 := Lib.hid s2; have P2 := Lib.hid p2
        clear s2 p2
        obtain ⟨x0, x1, x2, x3, x4, x5, x6, x7, x8, -, -⟩ := HVA.out
        obtain ⟨y0, y1, y2, y3, y4, y5, y6, y7, y8, -, -⟩ := HVB.out
        have Hc := Lib.hid (S2.out w7 _ _ a2 n2 c2 a n c HKB.out HKA.out)
        go_wp2_with fail
        refine Hc.out.mono ?_
        rintro e w8 ⟨rfl, hb8⟩
        have Hb8 := Lib.hid (Hb7.out.trans (hb8.mono Hb7.out.size))
        replace HVA := Lib.hid (HVA.out.below hb8 HVA.out.lt)
        replace HKA := Lib.hid (HKA.out.later hb8)
        replace HVB := Lib.hid (HVB.out.below hb8 HVB.out.lt)
        replace HKB := Lib.hid (HKB.out.later hb8)
        clear hb8 Hc
        clear x0 x1 x2 x3 x4 x5 x6 x7 x8
        clear y0 y1 y2 y3 y4 y5 y6 y7 y8
        obtain ⟨y0, y1, y2, y3, y4, y5, y6, y7, y8, -, -⟩ := HVB.out
        have Hc := Lib.hid (P2.out w8 _ a2 n2 c2 (Hl.out.below Hb8.out) HKB.out)
        go_wp2_with fail
        refine Hc.out.mono ?_
        rintro e w9 ⟨rfl, hb9⟩
        have Hb9 := Lib.hid (Hb8.out.trans (hb9.mono Hb8.out.size))
        clear hb9 Hc
        clear y0 y1 y2 y3 y4 y5 y6 y7 y8
        go_wp2_with fail
        go_ret
        exact ⟨rfl, Hb9.out⟩
end Go.Proofs.YthhghlnbpigcjaaGreatDoor
