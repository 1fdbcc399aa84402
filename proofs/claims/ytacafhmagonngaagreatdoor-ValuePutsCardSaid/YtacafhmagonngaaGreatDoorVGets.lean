/- The walk of ValueGets. -/
import Derived.Test.YtacafhmagonngaaGreatDoorGG
import Derived.Test.YtacafhmagonngaaGreatDoorGD
set_option linter.unusedVariables false
set_option linter.unusedSimpArgs false
namespace Go.Proofs.YtacafhmagonngaaGreatDoor
open Go.RowKit

theorem Sl.below {w W : World} {v : Value} {l : List UInt8} (h : Sl w v l) (hb : Below w.heap.size w W) : Sl W v l := by
  rcases h with h | ⟨a, c, h1, h2, h3⟩
  · exact .inl h
  · exact .inr ⟨a, c, h1, h2, fun j u hj => (hb.cell (World.block_lt_of_cell? w _ (h3 j u hj))).trans (h3 j u hj)⟩
theorem At.val {W : World} {b : Nat} {k n : Int} {s : ByteArray} {f : Int} (h : At W b k n s f) : W.cell? ⟨b, 0, none⟩ = some (.int .i64 k) ∧ W.cell? ⟨b, 1, none⟩ = some (.int .i64 n) ∧ W.cell? ⟨b, 2, none⟩ = some (.string s) ∧ W.cell? ⟨b, 3, none⟩ = some (.int .u64 f) := ⟨h.c0, h.c1, h.c2, h.c3⟩
set_option maxHeartbeats 16000000 in
set_option maxRecDepth 100000 in
theorem gets_walk (w : World) (hl : Laid w) (v : Value) (l : List UInt8) (hs : Sl w v l) :
    Calls Tryz.prog 6 #[v] w fun e w' => e = .returned (.bool true) ∧ Below w.heap.size w w' := by
  have hform : ∃ (ao : Option Addr) (cp : Nat), v = .slice ao l.length cp := by
    rcases hs with ⟨rfl, rfl⟩ | ⟨a, c, rfl, -, -⟩
    · exact ⟨none, 0, rfl⟩
    · exact ⟨some a, c, rfl⟩
  obtain ⟨ao, cp, rfl⟩ := hform
  have Hs := Lib.hid hs
  have HF := Lib.hid (firstV_any w hl)
  clear hs hl
  obtain ⟨N, hN⟩ : ∃ N, l.length = N := ⟨_, rfl⟩
  rw [hN] at Hs ⊢
  by_cases hbig : 1000 < (N : Int)
  · go_enter Tryz.func6, Tryz.ntmps6
    go_wp2_with fail
    refine HF.out.mono ?_
    rintro e w1 ⟨rfl, hb⟩
    go_wp2_with fail
    go_ret
    exact ⟨rfl, hb⟩
  · have HN : Hid (l.length = N ∧ N ≤ 1000) := Lib.hid ⟨hN, by omega⟩
    clear hN
    go_enter Tryz.func6, Tryz.ntmps6
    go_wp2_with fail
    refine HF.out.mono ?_
    rintro e w1 ⟨rfl, hb⟩
    have Hb1 := Lib.hid hb
    clear hb HF
    go_wp2_with fail
    have ho := open_any w1 (.slice ao N cp) l (Hs.out.below Hb1.out) (by have := HN.out; omega)
    refine ho.mono ?_
    rintro e w2 ⟨R, hR, rfl, hrd, hb⟩
    have Hrd := Lib.hid hrd
    have HRw : Hid (w.heap.size ≤ R) := Lib.hid (Nat.le_trans Hb1.out.size hR)
    have Hb2 := Lib.hid (Hb1.out.trans (hb.mono Hb1.out.size))
    clear ho hrd hb hR Hb1 hbig
    go_wp2_with fail
    go_loopg [4] N (fun mm rv wr => ∃ (cur : List UInt8) (a1 : Option Addr) (c1 : Nat), rv = .slice a1 mm c1 ∧ Hid (cur.length = mm ∧ mm ≤ 1000) ∧ Hid (Sl w (.slice a1 mm c1) cur) ∧ RdAt wr R cur ∧ Below w.heap.size w wr)
    case atStart => exact ⟨l, ao, cp, rfl, HN, Hs, Hrd.out, Hb2.out⟩
    case round =>
      obtain ⟨cur, a1, c1, rfl, HC, HS, hr, hb⟩ := hrel
      have Hr := Lib.hid hr; have Hb := Lib.hid hb
      clear hr hb
      go_wp2_with fail
      have hg := get_any wr R cur Hr.out (by have := HC.out; omega)
      refine hg.mono ?_
      rintro e w3 (⟨x, r, h1, rfl, h2, h3⟩ | ⟨h1, rfl, h3⟩)
      · obtain ⟨xk, xn, xs, xf⟩ := x
        have hb3 := Hb.out.trans (h3.below HRw.out Hb.out.size)
        have hbox := below_box1 w3 (.cells #[.int .i64 xk, .int .i64 xn, .string xs, .int .u64 xf] 26)
        have H1 := Lib.hid h1
        have H4 := Lib.hid (h2.below hbox)
        have Hv4 := Lib.hid (At.new w3 xk xn xs xf 26)
        have Hb4 := Lib.hid (hb3.trans (hbox.mono hb3.size))
        clear hg h1 h2 h3 hb3 hbox
        go_upto_region 8 with fail
        generalize w3.alloc _ = w4 at *
        generalize w3.heap.size = D at *
        go_wp2_with fail
        have hg := getR_any w4 (.slice a1 gk c1) cur (HS.out.below Hb4.out) (by have := HC.out; omega)
        refine hg.mono ?_
        rintro e w5 (⟨x, k, h1, h2, h3, rfl, h5⟩ | ⟨h1, rfl, h5⟩)
        · obtain ⟨rfl, rfl⟩ : x = ⟨xk, xn, xs, xf⟩ ∧ cur.drop k = r := by
            have := H1.out
            rw [h1] at this
            injection this with this
            injection this with e1 e2
            exact ⟨e1, e2⟩
          obtain ⟨K, hK⟩ : ∃ K : Int, K = (k : Int) := ⟨_, rfl⟩
          rw [← hK]
          have hbox := below_box1 w5 (.cells #[.int .i64 xk, .int .i64 xn, .string xs, .int .u64 xf] 26)
          have Hv6 := Lib.hid ((Hv4.out.below h5 Hv4.out.lt).alloc (.cells #[.int .i64 xk, .int .i64 xn, .string xs, .int .u64 xf] 26))
          have Hy6 := Lib.hid (At.new w5 xk xn xs xf 26)
          have Hr6 := Lib.hid ((H4.out.below h5).below hbox)
          have hb5 := Hb4.out.trans (h5.mono Hb4.out.size)
          have Hb6 := Lib.hid (hb5.trans (hbox.mono hb5.size))
          have Hk : Hid (0 < k ∧ k ≤ gk) := Lib.hid ⟨h2, by have := HC.out.1; omega⟩
          have hK0 : 0 < K := by omega
          have hKN : K ≤ (gk : Int) := by have := HC.out.1; omega
          have hKn : K.toNat = k := by omega
          have HS2 := HS.out
          clear hg h1 h2 h3 h5 hbox hb5 hK Hv4 H1 Hb4 H4
          go_upto_region 9 with fail
          generalize w5.alloc _ = w6 at *
          generalize w5.heap.size = E at *
          obtain ⟨p0, p1, p2, p3⟩ := Hv6.out.val
          obtain ⟨q0, q1, q2, q3⟩ := Hy6.out.val
          have Hdone := Lib.hid (done_any w6 R (cur.drop k) Hr6.out)
          have hl0 : (((gk - k : Nat) : Int) == 0) = decide (cur.drop k = []) := by
            have hlen : (cur.drop k).length = gk - k := by rw [List.length_drop, HC.out.1]
            by_cases hz : cur.drop k = []
            · rw [decide_eq_true hz]
              have : gk - k = 0 := by rw [← hlen, hz]; rfl
              rw [this]; rfl
            · rw [decide_eq_false hz, beq_eq_false_iff_ne]
              intro e
              exact hz (List.eq_nil_of_length_eq_zero (by omega))
          have Hcur : Hid ((cur.drop k).length = gk - k ∧ gk - k ≤ 1000) := Lib.hid ⟨by rw [List.length_drop, HC.out.1], by have := HC.out.2; omega⟩
          have Hcut : Hid (∃ a, a1 = some a ∧ (c1 = k → Sl w (.slice (some a) (gk - k) 0) (cur.drop k)) ∧ (¬ c1 = k → Sl w (.slice (some (a.add k)) (gk - k) (c1 - k)) (cur.drop k))) := Lib.hid (by
            rcases HS2 with ⟨e, h0⟩ | ⟨a, c, e, h4, h5⟩
            · have := HC.out.1
              have := Hk.out
              rw [h0] at *
              simp at *
              omega
            · injection e with e1 e2 e3
              subst e1 e3
              exact ⟨a, rfl, Sl.cut HC.out.1 (by have := HC.out.1; omega) Hk.out.2 h5⟩)
          obtain ⟨a, rfl, hcut1, hcut2⟩ := Hcut.out
          have Hc1 := Lib.hid hcut1; have Hc2 := Lib.hid hcut2
          clear Hcut hcut1 hcut2 HS2
          generalize hD : decide (cur.drop k = []) = dn at *
          clear hD
          go_wp2_with fail
          case inl h =>
            subst h
            refine Hdone.out.mono ?_
            rintro e w7 ⟨rfl, rfl⟩
            go_wp2_with fail
            go_roundg (gk - c1)
            case measure => have := Hk.out; omega
            case rel => exact ⟨cur.drop c1, some a, 0, rfl, Hcur.out, Lib.hid (Hc1.out (by trivial)), Hr6.out, Hb6.out⟩
          case inr h =>
            refine Hdone.out.mono ?_
            rintro e w7 ⟨rfl, rfl⟩
            go_wp2_with fail
            go_roundg (gk - k)
            case measure => have := Hk.out; omega
            case rel => exact ⟨cur.drop k, some (a.add k), c1 - k, rfl, Hcur.out, Lib.hid (Hc2.out h), Hr6.out, Hb6.out⟩
        · exact absurd (h1.symm.trans H1.out) (by simp)
      · have hb3 := Hb.out.trans (h3.below HRw.out Hb.out.size)
        have hbox := below_box1 w3 (.cells #[.int .i64 0, .int .i64 0, .string ⟨#[]⟩, .int .u64 0] 26)
        have H1 := Lib.hid h1
        have Hv4 := Lib.hid (At.new w3 0 0 ⟨#[]⟩ 0 26)
        have Hb4 := Lib.hid (hb3.trans (hbox.mono hb3.size))
        clear hg h1 h3 hb3 hbox
        go_upto_region 8 with fail
        generalize w3.alloc _ = w4 at *
        generalize w3.heap.size = D at *
        go_wp2_with fail
        have hg := getR_any w4 (.slice a1 gk c1) cur (HS.out.below Hb4.out) (by have := HC.out; omega)
        refine hg.mono ?_
        rintro e w5 (⟨x, k, h1, h2, h3, rfl, h5⟩ | ⟨h1, rfl, h5⟩)
        · exact absurd (H1.out.symm.trans h1) (by simp)
        · have hbox := below_box1 w5 (.cells #[.int .i64 0, .int .i64 0, .string ⟨#[]⟩, .int .u64 0] 26)
          have Hv6 := Lib.hid ((Hv4.out.below h5 Hv4.out.lt).alloc (.cells #[.int .i64 0, .int .i64 0, .string ⟨#[]⟩, .int .u64 0] 26))
          have Hy6 := Lib.hid (At.new w5 0 0 ⟨#[]⟩ 0 26)
          have hb5 := Hb4.out.trans (h5.mono Hb4.out.size)
          have Hb6 := Lib.hid (hb5.trans (hbox.mono hb5.size))
          clear hg h1 h5 hbox hb5 Hv4 Hb4
          go_upto_region 9 with fail
          generalize w5.alloc _ = w6 at *
          generalize w5.heap.size = E at *
          obtain ⟨p0, p1, p2, p3⟩ := Hv6.out.val
          obtain ⟨q0, q1, q2, q3⟩ := Hy6.out.val
          go_wp2_with fail
          go_ret
          exact ⟨rfl, Hb6.out⟩
end Go.Proofs.YtacafhmagonngaaGreatDoor
