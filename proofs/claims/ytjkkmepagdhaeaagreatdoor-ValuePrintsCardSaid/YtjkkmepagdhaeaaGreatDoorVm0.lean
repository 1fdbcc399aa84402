/- Which masks a column may have: the walks of both RightMask. -/
import Derived.Test.YtjkkmepagdhaeaaGreatDoorVr0
set_option linter.unusedVariables false
set_option linter.unusedSimpArgs false
namespace Go.Proofs.YtjkkmepagdhaeaaGreatDoor
open Go.RowKit

/-- may a column of a kind have a mask -/
def rmB (mk mn k : Int) : Bool := decide (1 ≤ k ∧ k ≤ 4) && (if mk = 3 then decide (k = 3) && decide (0 ≤ mn) && decide (mn ≤ 64) else decide (0 ≤ mk ∧ mk < 3) && decide (mn = 0))
theorem three (mn : Int) : mn < 0 ∨ (0 ≤ mn ∧ mn ≤ 64) ∨ (0 ≤ mn ∧ 64 < mn) := by omega
theorem below_box1 (w : World) (o : Obj) : Below w.heap.size w (w.alloc o) := (Below.refl _ _).alloc (Nat.le_refl _) _
set_option maxHeartbeats 8000000 in
set_option maxRecDepth 100000 in
theorem rightMask_any (w : World) (mk mn k : Int) :
    Calls Tryz.prog 32 #[.agg #[.int .i64 mk, .int .i64 mn], .int .i64 k] w fun e w' => e = .returned (.bool (rmB mk mn k)) ∧ Below w.heap.size w w' := by
  by_cases hk : 1 ≤ k ∧ k ≤ 4
  · have hb : rmB mk mn k = (if mk = 3 then decide (k = 3) && decide (0 ≤ mn) && decide (mn ≤ 64) else decide (0 ≤ mk ∧ mk < 3) && decide (mn = 0)) := by unfold rmB; rw [decide_eq_true hk]; simp
    rw [hb]
    clear hb
    by_cases h3 : mk = 3
    · subst h3
      rw [if_pos rfl]
      have hk4 : k = 1 ∨ k = 2 ∨ k = 3 ∨ k = 4 := by omega
      clear hk
      rcases hk4 with rfl | rfl | rfl | rfl
      all_goals
        rcases three mn with q1 | ⟨q1, q2⟩ | ⟨q1, q2⟩
        all_goals
          go_enter Tryz.func32, Tryz.ntmps32
          go_wp2_with fail
          all_goals
            go_ret
            exact ⟨by first | rfl | (simp_all; done) | (simp_all; omega), below_box1 _ _⟩
    · rw [if_neg h3]
      have e3 : (mk == 3) = false := by rw [beq_eq_false_iff_ne]; exact h3
      have hk4 : k = 1 ∨ k = 2 ∨ k = 3 ∨ k = 4 := by omega
      clear hk
      by_cases hm : 0 ≤ mk ∧ mk < 3
      · rw [decide_eq_true hm]
        have hm3 : mk = 0 ∨ mk = 1 ∨ mk = 2 := by omega
        clear hm e3 h3
        by_cases hn : mn = 0
        · subst hn
          rcases hk4 with rfl | rfl | rfl | rfl <;> rcases hm3 with rfl | rfl | rfl
          all_goals
            go_enter Tryz.func32, Tryz.ntmps32
            go_wp2_with fail
            all_goals
              go_ret
              exact ⟨by first | rfl | (simp_all; done) | (simp_all; omega), below_box1 _ _⟩
        · have en : (mn == 0) = false := by rw [beq_eq_false_iff_ne]; exact hn
          rcases hk4 with rfl | rfl | rfl | rfl <;> rcases hm3 with rfl | rfl | rfl
          all_goals
            go_enter Tryz.func32, Tryz.ntmps32
            go_wp2_with fail
            all_goals
              go_ret
              exact ⟨by first | rfl | (simp_all; done) | (simp_all; omega), below_box1 _ _⟩
      · rw [decide_eq_false hm]
        have e0 : (mk == 0) = false := by rw [beq_eq_false_iff_ne]; omega
        have e1 : (mk == 1) = false := by rw [beq_eq_false_iff_ne]; omega
        have e2 : (mk == 2) = false := by rw [beq_eq_false_iff_ne]; omega
        rcases Int.lt_or_le mk 0 with q | q
        · have q2 : ¬ 0 ≤ mk := by omega
          clear hm
          rcases hk4 with rfl | rfl | rfl | rfl
          all_goals
            go_enter Tryz.func32, Tryz.ntmps32
            go_wp2_with fail
            all_goals
              go_ret
              exact ⟨by first | rfl | (simp_all; done) | (simp_all; omega), below_box1 _ _⟩
        · have q2 : ¬ mk < 3 := by omega
          clear hm
          rcases hk4 with rfl | rfl | rfl | rfl
          all_goals
            go_enter Tryz.func32, Tryz.ntmps32
            go_wp2_with fail
            all_goals
              go_ret
              exact ⟨by first | rfl | (simp_all; done) | (simp_all; omega), below_box1 _ _⟩
  · have hb : rmB mk mn k = false := by unfold rmB; rw [decide_eq_false hk, Bool.false_and]
    rw [hb]
    clear hb
    have e1 : (k != 1) = true := by rw [bne_iff_ne]; omega
    have e2 : (k != 2) = true := by rw [bne_iff_ne]; omega
    have e3 : (k != 3) = true := by rw [bne_iff_ne]; omega
    have e4 : (k != 4) = true := by rw [bne_iff_ne]; omega
    rcases Int.lt_or_le k 1 with q | q
    · clear hk
      go_enter Tryz.func32, Tryz.ntmps32
      go_wp2_with fail
      all_goals
        go_ret
        exact ⟨by first | rfl | (simp_all; done) | (simp_all; omega), below_box1 _ _⟩
    · have q2 : 4 < k := by omega
      have q3 : ¬ k < 1 := by omega
      clear hk
      go_enter Tryz.func32, Tryz.ntmps32
      go_wp2_with fail
      all_goals
        go_ret
        exact ⟨by first | rfl | (simp_all; done) | (simp_all; omega), below_box1 _ _⟩
set_option maxHeartbeats 8000000 in
set_option maxRecDepth 100000 in
theorem rightMaskR_any (w : World) (mk mn k : Int) :
    Calls Tryz.prog 33 #[.agg #[.int .i64 mk, .int .i64 mn], .int .i64 k] w fun e w' => e = .returned (.bool (rmB mk mn k)) ∧ Below w.heap.size w w' := by
  by_cases hk : 1 ≤ k ∧ k ≤ 4
  · have hb : rmB mk mn k = (if mk = 3 then decide (k = 3) && decide (0 ≤ mn) && decide (mn ≤ 64) else decide (0 ≤ mk ∧ mk < 3) && decide (mn = 0)) := by unfold rmB; rw [decide_eq_true hk]; simp
    rw [hb]
    clear hb
    by_cases h3 : mk = 3
    · subst h3
      rw [if_pos rfl]
      have hk4 : k = 1 ∨ k = 2 ∨ k = 3 ∨ k = 4 := by omega
      clear hk
      rcases hk4 with rfl | rfl | rfl | rfl
      all_goals
        rcases three mn with q1 | ⟨q1, q2⟩ | ⟨q1, q2⟩
        all_goals
          go_enter Tryz.func33, Tryz.ntmps33
          go_wp2_with fail
          all_goals
            go_ret
            exact ⟨by first | rfl | (simp_all; done) | (simp_all; omega), below_box1 _ _⟩
    · rw [if_neg h3]
      have e3 : (mk == 3) = false := by rw [beq_eq_false_iff_ne]; exact h3
      have hk4 : k = 1 ∨ k = 2 ∨ k = 3 ∨ k = 4 := by omega
      clear hk
      by_cases hm : 0 ≤ mk ∧ mk < 3
      · rw [decide_eq_true hm]
        have hm3 : mk = 0 ∨ mk = 1 ∨ mk = 2 := by omega
        clear hm e3 h3
        by_cases hn : mn = 0
        · subst hn
          rcases hk4 with rfl | rfl | rfl | rfl <;> rcases hm3 with rfl | rfl | rfl
          all_goals
            go_enter Tryz.func33, Tryz.ntmps33
            go_wp2_with fail
            all_goals
              go_ret
              exact ⟨by first | rfl | (simp_all; done) | (simp_all; omega), below_box1 _ _⟩
        · have en : (mn == 0) = false := by rw [beq_eq_false_iff_ne]; exact hn
          rcases hk4 with rfl | rfl | rfl | rfl <;> rcases hm3 with rfl | rfl | rfl
          all_goals
            go_enter Tryz.func33, Tryz.ntmps33
            go_wp2_with fail
            all_goals
              go_ret
              exact ⟨by first | rfl | (simp_all; done) | (simp_all; omega), below_box1 _ _⟩
      · rw [decide_eq_false hm]
        have e0 : (mk == 0) = false := by rw [beq_eq_false_iff_ne]; omega
        have e1 : (mk == 1) = false := by rw [beq_eq_false_iff_ne]; omega
        have e2 : (mk == 2) = false := by rw [beq_eq_false_iff_ne]; omega
        rcases Int.lt_or_le mk 0 with q | q
        · have q2 : ¬ 0 ≤ mk := by omega
          clear hm
          rcases hk4 with rfl | rfl | rfl | rfl
          all_goals
            go_enter Tryz.func33, Tryz.ntmps33
            go_wp2_with fail
            all_goals
              go_ret
              exact ⟨by first | rfl | (simp_all; done) | (simp_all; omega), below_box1 _ _⟩
        · have q2 : ¬ mk < 3 := by omega
          clear hm
          rcases hk4 with rfl | rfl | rfl | rfl
          all_goals
            go_enter Tryz.func33, Tryz.ntmps33
            go_wp2_with fail
            all_goals
              go_ret
              exact ⟨by first | rfl | (simp_all; done) | (simp_all; omega), below_box1 _ _⟩
  · have hb : rmB mk mn k = false := by unfold rmB; rw [decide_eq_false hk, Bool.false_and]
    rw [hb]
    clear hb
    have e1 : (k != 1) = true := by rw [bne_iff_ne]; omega
    have e2 : (k != 2) = true := by rw [bne_iff_ne]; omega
    have e3 : (k != 3) = true := by rw [bne_iff_ne]; omega
    have e4 : (k != 4) = true := by rw [bne_iff_ne]; omega
    rcases Int.lt_or_le k 1 with q | q
    · clear hk
      go_enter Tryz.func33, Tryz.ntmps33
      go_wp2_with fail
      all_goals
        go_ret
        exact ⟨by first | rfl | (simp_all; done) | (simp_all; omega), below_box1 _ _⟩
    · have q2 : 4 < k := by omega
      have q3 : ¬ k < 1 := by omega
      clear hk
      go_enter Tryz.func33, Tryz.ntmps33
      go_wp2_with fail
      all_goals
        go_ret
        exact ⟨by first | rfl | (simp_all; done) | (simp_all; omega), below_box1 _ _⟩
end Go.Proofs.YtjkkmepagdhaeaaGreatDoor
