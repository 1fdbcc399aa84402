/- The document's answer for the texts of values: the walks of digits, Print. -/
import Derived.Test.YtacafhmagonngaaGreatDoorVq0
import Derived.Test.YtacafhmagonngaaGreatDoorVr2
set_option linter.unusedVariables false
set_option linter.unusedSimpArgs false
namespace Go.Proofs.YtacafhmagonngaaGreatDoor
open Go.RowKit

set_option maxHeartbeats 800000 in
set_option maxRecDepth 10000 in
theorem digitsV_any (k : Nat) : ∀ (w : World) (n : Int), n.natAbs = k → -9223372036854775808 ≤ n → n ≤ 9223372036854775807 →
    Calls Tryz.prog 61 #[.int .i64 n] w fun e w' => e = .returned (.string ⟨(Lib.itoa n).toArray⟩) ∧ Below w.heap.size w w' := by
  induction k using Nat.strongRecOn with
  | _ k ih =>
    intro w n hk h0 h1
    by_cases hn : 0 ≤ n
    · have H1 := Lib.hid (digits_any w n (by omega) h1)
      generalize Lib.itoa n = X at *
      clear ih hk
      go_enter Tryz.func61, Tryz.ntmps61
      go_wp2_with fail
      refine H1.out.mono ?_
      rintro e w1 ⟨rfl, hb⟩
      go_wp2_with fail
      go_ret
      exact ⟨rfl, hb⟩
    · have hi : Lib.itoa n = 45 :: Lib.decDigits n.natAbs := by unfold Lib.itoa; rw [if_pos (by omega)]
      by_cases h10 : -10 < n
      · have H1 : Hid (∀ W : World, Calls Tryz.prog 86 #[.int .i64 (-n)] W fun e w' => e = .returned (.string ⟨(Lib.decDigits n.natAbs).toArray⟩) ∧ Below W.heap.size W w') := Lib.hid fun W => by
          have := digits_nat (-n).toNat W (-n) rfl (by omega) (by omega)
          rwa [show (-n).toNat = n.natAbs from by omega] at this
        have l1 := decDigits_len20 n.natAbs (by omega)
        have hadd := add_lists [45] (Lib.decDigits n.natAbs) (by simp; omega)
        have HI := Lib.hid hi
        clear hi l1 ih hk
        generalize Lib.itoa n = X at *
        generalize Lib.decDigits n.natAbs = Y at *
        go_enter Tryz.func61, Tryz.ntmps61
        go_wp2_with fail
        refine (H1.out w).mono ?_
        rintro e w1 ⟨rfl, hb⟩
        go_wp2_with fail
        go_ret
        exact ⟨by rw [HI.out]; rfl, hb⟩
      · have hq : n.tdiv 10 = -((n.natAbs / 10 : Nat) : Int) := by
          rw [show n = -((n.natAbs : Nat) : Int) from by omega, Int.neg_tdiv, Int.tdiv_eq_ediv_of_nonneg (by omega)]
          omega
        have hr : n.tmod 10 = -((n.natAbs % 10 : Nat) : Int) := by
          rw [show n = -((n.natAbs : Nat) : Int) from by omega, Int.neg_tmod, Int.tmod_eq_emod_of_nonneg (by omega)]
          omega
        obtain ⟨q, hq2⟩ : ∃ q : Int, q = n.tdiv 10 := ⟨_, rfl⟩
        obtain ⟨r, hr2⟩ : ∃ r : Int, r = n.tmod 10 := ⟨_, rfl⟩
        rw [← hq2] at hq
        rw [← hr2] at hr
        have H1 : Hid (∀ W : World, Calls Tryz.prog 61 #[.int .i64 q] W fun e w' => e = .returned (.string ⟨(Lib.itoa q).toArray⟩) ∧ Below W.heap.size W w') := Lib.hid fun W => ih q.natAbs (by omega) W q rfl (by omega) (by omega)
        have H2 : Hid (∀ W : World, Calls Tryz.prog 86 #[.int .i64 (-r)] W fun e w' => e = .returned (.string ⟨(Lib.decDigits (n.natAbs % 10)).toArray⟩) ∧ Below W.heap.size W w') := Lib.hid fun W => by
          have := digits_nat (-r).toNat W (-r) rfl (by omega) (by omega)
          rwa [show (-r).toNat = n.natAbs % 10 from by omega] at this
        have hiq : Lib.itoa q = 45 :: Lib.decDigits (n.natAbs / 10) := by
          unfold Lib.itoa
          rw [if_pos (by omega), show q.natAbs = n.natAbs / 10 from by omega]
        have hall : Lib.itoa n = Lib.itoa q ++ Lib.decDigits (n.natAbs % 10) := by
          rw [hi, hiq, decDigits_split n.natAbs (by omega)]; rfl
        have l1 := decDigits_len20 (n.natAbs / 10) (by omega)
        have l2 := decDigits_len20 (n.natAbs % 10) (by omega)
        have hadd := add_lists (Lib.itoa q) (Lib.decDigits (n.natAbs % 10)) (by rw [hiq]; simp; omega)
        have HA := Lib.hid hall
        have hq0 : -922337203685477581 ≤ q := by omega
        have hq1 : q ≤ 0 := by omega
        have hr0 : -10 < r := by omega
        have hr1 : r ≤ 0 := by omega
        have hq2' := hq2.symm
        have hr2' := hr2.symm
        clear hi hiq l1 l2 ih hk hall hq hr hq2 hr2
        generalize Lib.itoa n = X at *
        generalize Lib.itoa q = Y at *
        generalize Lib.decDigits (n.natAbs % 10) = Z at *
        go_enter Tryz.func61, Tryz.ntmps61
        go_wp2_with fail
        refine (H1.out w).mono ?_
        rintro e w1 ⟨rfl, hb⟩
        go_wp2_with fail
        refine (H2.out w1).mono ?_
        rintro e w2 ⟨rfl, hb2⟩
        have hbb := hb.trans (hb2.mono hb.size)
        go_wp2_with fail
        go_ret
        exact ⟨by rw [HA.out]; rfl, hbb⟩
end Go.Proofs.YtacafhmagonngaaGreatDoor
