/- The walk of ValuePrints. -/
import Derived.Test.YtjkkmepagdhaeaaGreatDoorVq2
set_option linter.unusedVariables false
set_option linter.unusedSimpArgs false
namespace Go.Proofs.YtjkkmepagdhaeaaGreatDoor
open Go.RowKit

theorem itoa_len21 (n : Int) (h0 : -9223372036854775808 ≤ n) (h1 : n ≤ 9223372036854775807) : (Lib.itoa n).length ≤ 21 := by
  unfold Lib.itoa
  split
  · have := decDigits_len20 n.natAbs (by omega)
    simp only [List.length_cons]; omega
  · have := decDigits_len20 n.toNat (by omega)
    omega
theorem print_len18 (u : Nat) : (printL u).length ≤ 18 := by
  rcases print_forms u with e | e | e | e | ⟨v, hv, e⟩ | e
  · rw [e]; decide
  · rw [e]; decide
  · rw [e]; decide
  · rw [e]; decide
  · rw [e, List.length_append, List.length_singleton]
    have := itoa_len17 v hv
    omega
  · rw [e, List.length_append, hexN_length]; decide
theorem printVL_len {v : Val} (h : RightC v) (w : v.Wf) : (printVL v).length ≤ 200 := by
  unfold printVL
  split
  · have := itoa_len21 v.n w.n0 w.n1; omega
  · split
    · split <;> decide
    · split
      · rename_i h3
        have hs : v.s.size ≤ 64 := by
          rcases h with ⟨k, n, s, f⟩ | ⟨k, s, f⟩ | ⟨k, s, f, n⟩ | ⟨k, n, f, s⟩ | ⟨k, n, s, f⟩ <;> first | exact s | omega
        rw [List.length_cons, hexL_length, ← Lib.size_eq]
        omega
      · split
        · have := print_len18 v.f.toNat; omega
        · decide
set_option maxHeartbeats 16000000 in
set_option maxRecDepth 100000 in
theorem printsV_walk (w : World) (hl : Laid w) (v : Val) (hv : v.Wf) :
    Calls Tryz.prog 5 #[v.v] w fun e w' => e = .returned (.bool true) ∧ Below w.heap.size w w' := by
  have Hl := Lib.hid hl; clear hl
  have hat := Lib.hid (At.new w v.k v.n v.s v.f 25)
  have hbx := Lib.hid (below_box1 w (.cells #[.int .i64 v.k, .int .i64 v.n, .string v.s, .int .u64 v.f] 25))
  have hrw := right_wf v hv
  obtain ⟨p1, p2⟩ := parse_printV (rightC v) (right_self (right_right v)) hrw
  have hlen := printVL_len (rightC v) hrw
  have Hp : Hid (∀ W : World, Laid W → Calls Tryz.prog 20 #[v.v] W fun e w' => e = .returned (.string ⟨(printVL (rightOf v)).toArray⟩) ∧ Below W.heap.size W w') := Lib.hid fun W h => printV_any W h v hv
  have Hq : Hid (∀ W : World, Calls Tryz.prog 22 #[v.v] W fun e w' => e = .returned (.string ⟨(printVL (rightOf v)).toArray⟩) ∧ Below W.heap.size W w') := Lib.hid fun W => printVR_any W v hv
  have Hs : Hid (∀ W : World, Laid W → Calls Tryz.prog 21 #[.string ⟨(printVL (rightOf v)).toArray⟩] W fun e w' => e = .returned (.tuple #[(rightOf v).v, .bool true]) ∧ Below W.heap.size W w') := Lib.hid fun W h => by
    have := parseV_any W h ⟨(printVL (rightOf v)).toArray⟩ (by simp [ByteArray.size]; omega)
    rwa [p1, p2] at this
  have Ht : Hid (∀ W : World, Calls Tryz.prog 19 #[v.v] W fun e w' => e = .returned (.bool (rightB v)) ∧ Below W.heap.size W w') := Lib.hid fun W => rightR_any W v hv.f0 hv.f1
  clear p1 p2 hlen hrw
  have hz : rightB v = false → rightOf v = zeroVal := fun h => by unfold rightOf; rw [if_neg (by simp [h])]
  have hself : rightB v = true → rightOf v = v := right_self
  generalize (⟨(printVL (rightOf v)).toArray⟩ : ByteArray) = X at *
  cases hr : rightB v with
  | true =>
    rw [hself hr] at Hs
    obtain ⟨ak, an, sa, af⟩ := v
    clear hz hself Ht hr hv
    simp only [Val.v] at *
    go_enter Tryz.func5, Tryz.ntmps5
    go_wp2_with fail
    generalize World.alloc w _ = W0 at hat hbx ⊢
    generalize hA : w.heap.size = A at *
    refine (firstV_any W0 (Hl.out.below (by rw [hA]; exact hbx.out))).mono ?_
    rintro e w1 ⟨rfl, hb⟩
    have A1 := Lib.hid (hat.out.below hb hat.out.lt)
    have B1 := Lib.hid (hbx.out.trans (hb.mono (by have := hat.out.lt; omega)))
    clear hb hat hbx
    obtain ⟨a0, a1, a2, a3, -, -⟩ := A1.out
    by_cases hs : 1000 < (sa.size : Int)
    · go_wp2_with fail
      go_ret
      exact ⟨rfl, by rw [hA]; exact B1.out⟩
    · go_wp2_with fail
      refine (Hp.out w1 (Hl.out.below (by rw [hA]; exact B1.out))).mono ?_
      rintro e w2 ⟨rfl, hb⟩
      have A2 := Lib.hid (A1.out.below hb A1.out.lt)
      have B2 := Lib.hid (B1.out.trans (hb.mono (by have := A1.out.lt; omega)))
      clear hb a0 a1 a2 a3
      obtain ⟨a0, a1, a2, a3, -, -⟩ := A2.out
      go_wp2_with fail
      refine (Hs.out w2 (Hl.out.below (by rw [hA]; exact B2.out))).mono ?_
      rintro e w3 ⟨rfl, hb⟩
      have A3 := A2.out.below hb A2.out.lt
      have B3 := B2.out.trans (hb.mono (by have := A2.out.lt; omega))
      have A4 := Lib.hid (A3.alloc (.cells #[.int .i64 ak, .int .i64 an, .string sa, .int .u64 af] 25))
      have B4 := Lib.hid (B3.alloc (by have := A3.lt; omega) (.cells #[.int .i64 ak, .int .i64 an, .string sa, .int .u64 af] 25))
      have X4 := Lib.hid (At.new w3 ak an sa af 25)
      clear hb A3 B3 a0 a1 a2 a3
      go_upto_region 7 with fail
      generalize World.alloc w3 _ = W4 at A4 B4 X4 ⊢
      generalize w3.heap.size = C at *
      obtain ⟨a0, a1, a2, a3, -, -⟩ := A4.out
      go_wp2_with fail
      refine (Hq.out W4).mono ?_
      rintro e w5 ⟨rfl, hb⟩
      have A5 := Lib.hid (A4.out.below hb A4.out.lt)
      have X5 := Lib.hid (X4.out.below hb X4.out.lt)
      have B5 := Lib.hid (B4.out.trans (hb.mono (by have := A4.out.lt; omega)))
      clear hb a0 a1 a2 a3
      obtain ⟨a0, a1, a2, a3, -, -⟩ := A5.out
      obtain ⟨x0, x1, x2, x3, -, -⟩ := X5.out
      go_wp2_with fail
      go_ret
      exact ⟨by simp, by rw [hA]; exact B5.out⟩
  | false =>
    rw [hz hr] at Hs
    rw [hr] at Ht
    obtain ⟨ak, an, sa, af⟩ := v
    clear hz hself hr hv
    simp only [Val.v, zeroVal] at *
    go_enter Tryz.func5, Tryz.ntmps5
    go_wp2_with fail
    generalize World.alloc w _ = W0 at hat hbx ⊢
    generalize hA : w.heap.size = A at *
    refine (firstV_any W0 (Hl.out.below (by rw [hA]; exact hbx.out))).mono ?_
    rintro e w1 ⟨rfl, hb⟩
    have A1 := Lib.hid (hat.out.below hb hat.out.lt)
    have B1 := Lib.hid (hbx.out.trans (hb.mono (by have := hat.out.lt; omega)))
    clear hb hat hbx
    obtain ⟨a0, a1, a2, a3, -, -⟩ := A1.out
    by_cases hs : 1000 < (sa.size : Int)
    · go_wp2_with fail
      go_ret
      exact ⟨rfl, by rw [hA]; exact B1.out⟩
    · go_wp2_with fail
      refine (Hp.out w1 (Hl.out.below (by rw [hA]; exact B1.out))).mono ?_
      rintro e w2 ⟨rfl, hb⟩
      have A2 := Lib.hid (A1.out.below hb A1.out.lt)
      have B2 := Lib.hid (B1.out.trans (hb.mono (by have := A1.out.lt; omega)))
      clear hb a0 a1 a2 a3
      obtain ⟨a0, a1, a2, a3, -, -⟩ := A2.out
      go_wp2_with fail
      refine (Hs.out w2 (Hl.out.below (by rw [hA]; exact B2.out))).mono ?_
      rintro e w3 ⟨rfl, hb⟩
      have A3 := A2.out.below hb A2.out.lt
      have B3 := B2.out.trans (hb.mono (by have := A2.out.lt; omega))
      have A4 := Lib.hid (A3.alloc (.cells #[.int .i64 0, .int .i64 0, .string ⟨#[]⟩, .int .u64 0] 25))
      have B4 := Lib.hid (B3.alloc (by have := A3.lt; omega) (.cells #[.int .i64 0, .int .i64 0, .string ⟨#[]⟩, .int .u64 0] 25))
      have X4 := Lib.hid (At.new w3 0 0 ⟨#[]⟩ 0 25)
      clear hb A3 B3 a0 a1 a2 a3
      go_upto_region 7 with fail
      generalize World.alloc w3 _ = W4 at A4 B4 X4 ⊢
      generalize w3.heap.size = C at *
      obtain ⟨a0, a1, a2, a3, -, -⟩ := A4.out
      go_wp2_with fail
      refine (Hq.out W4).mono ?_
      rintro e w5 ⟨rfl, hb⟩
      have A5 := Lib.hid (A4.out.below hb A4.out.lt)
      have X5 := Lib.hid (X4.out.below hb X4.out.lt)
      have B5 := Lib.hid (B4.out.trans (hb.mono (by have := A4.out.lt; omega)))
      clear hb a0 a1 a2 a3
      obtain ⟨a0, a1, a2, a3, -, -⟩ := A5.out
      obtain ⟨x0, x1, x2, x3, -, -⟩ := X5.out
      go_wp2_with fail
      all_goals subst_vars
      go_ret
      exact ⟨by simp, B5.out⟩
      all_goals
        refine (Ht.out w5).mono ?_
        rintro e w6 ⟨rfl, hb⟩
        have X6 := Lib.hid (X5.out.below hb X5.out.lt)
        have B6 := Lib.hid (B5.out.trans (hb.mono (by have := A5.out.lt; omega)))
        clear hb a0 a1 a2 a3 x0 x1 x2 x3
        obtain ⟨x0, x1, x2, x3, -, -⟩ := X6.out
        go_wp2_with fail
        go_ret
        exact ⟨by simp, B6.out⟩
end Go.Proofs.YtjkkmepagdhaeaaGreatDoor
