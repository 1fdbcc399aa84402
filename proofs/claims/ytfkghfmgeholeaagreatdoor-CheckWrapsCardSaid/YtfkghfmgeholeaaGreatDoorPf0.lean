/- The walks of parse.operand, parse.right. -/
import Derived.Test.YtfkghfmgeholeaaGreatDoorPd0
import Derived.Test.YtfkghfmgeholeaaGreatDoorGL
import Derived.Test.YtfkghfmgeholeaaGreatDoorGD
import Derived.Deep.QuietTactic
import Derived.BigQuiet
set_option linter.unusedVariables false
set_option linter.unusedSimpArgs false
namespace Go.Proofs.YtfkghfmgeholeaaGreatDoor
open Go.RowKit

set_option maxHeartbeats 8000000 in
set_option maxRecDepth 100000 in
theorem operandT_any (w : World) (t : Tree) (a : Option Addr) (n c : Nat) : Calls Tryz.prog 66 #[t.val a n c] w fun e w' => e = .returned (.bool (decide (t.k = 0 ∨ t.k = 1))) ∧ Below w.heap.size w w' := by
  simp only [Tree.val]
  generalize t.k = k
  have hb := Lib.hid (Below.new w (.cells #[.int .i64 k, .int .i64 t.pos, .string ⟨t.col.toArray⟩, .int .i64 t.v.k, .int .i64 t.v.n, .string t.v.s, .int .u64 t.v.f, .int .i64 t.op, .slice a n c] 30))
  by_cases h0 : k = 0
  · subst h0
    go_enter Tryz.func66, Tryz.ntmps66
    go_wp2_with fail
    go_ret
    exact ⟨rfl, hb.out⟩
  · by_cases h1 : k = 1
    · subst h1
      go_enter Tryz.func66, Tryz.ntmps66
      go_wp2_with fail
      go_ret
      exact ⟨rfl, hb.out⟩
    · have e0 : (k == 0) = false := beq_eq_false_iff_ne.2 h0
      have e1 : (k == 1) = false := beq_eq_false_iff_ne.2 h1
      have e2 : decide (k = 0 ∨ k = 1) = false := by simp [h0, h1]
      rw [e2]
      go_enter Tryz.func66, Tryz.ntmps66
      go_wp2_with fail
      go_ret
      exact ⟨rfl, hb.out⟩
mutual
/-- names of columns aren't too long to be looked at -/
def Tree.sized : Tree → Prop
  | .mk _ _ c _ _ l => c.length ≤ 100000 ∧ Tree.sizeds l
def Tree.sizeds : List Tree → Prop
  | [] => True
  | t :: l => t.sized ∧ Tree.sizeds l
end
theorem sized_eq (t : Tree) : t.sized = (t.col.length ≤ 100000 ∧ Tree.sizeds t.kids) := by cases t; rw [Tree.sized]; rfl
theorem sized_mem {t : Tree} {l : List Tree} (hl : Tree.sizeds l) (h : t ∈ l) : t.sized := by
  induction l with
  | nil => cases h
  | cons a l ih =>
    rw [Tree.sizeds] at hl
    rcases List.mem_cons.1 h with rfl | h
    · exact hl.1
    · exact ih hl.2 h
theorem rightT_eq (d : Nat) (t : Tree) : rightT d t = (rightK d t.k t.col t.op t.v t.kids.length && rightTs (d + 1) t.k t.kids) := by cases t; rw [rightT_mk]; rfl
def RightC0 (d : Nat) : Prop := ∀ t : Tree, t.sized → ∀ (w : World) (S : Nat → Prop) (a : Option Addr) (n c : Nat), KSl w S t.kids a n → Calls Tryz.prog 48 #[t.val a n c, .int .i64 (d : Int)] w fun e w' => e = .returned (.bool (rightT d t)) ∧ Below w.heap.size w w'
theorem index_k0 (w : World) : (Instr.index 102 (.agg #[.int .i64 0, .int .i64 0, .int .i64 2, .int .i64 1, .int .i64 1, .int .i64 2, .int .i64 2]) (.int .i64 0)).run Tryz.prog w = .ok (.int .i64 0) w := by kernel_rfl
theorem index_k1 (w : World) : (Instr.index 102 (.agg #[.int .i64 0, .int .i64 0, .int .i64 2, .int .i64 1, .int .i64 1, .int .i64 2, .int .i64 2]) (.int .i64 1)).run Tryz.prog w = .ok (.int .i64 0) w := by kernel_rfl
theorem index_k2 (w : World) : (Instr.index 102 (.agg #[.int .i64 0, .int .i64 0, .int .i64 2, .int .i64 1, .int .i64 1, .int .i64 2, .int .i64 2]) (.int .i64 2)).run Tryz.prog w = .ok (.int .i64 2) w := by kernel_rfl
theorem index_k3 (w : World) : (Instr.index 102 (.agg #[.int .i64 0, .int .i64 0, .int .i64 2, .int .i64 1, .int .i64 1, .int .i64 2, .int .i64 2]) (.int .i64 3)).run Tryz.prog w = .ok (.int .i64 1) w := by kernel_rfl
theorem index_k4 (w : World) : (Instr.index 102 (.agg #[.int .i64 0, .int .i64 0, .int .i64 2, .int .i64 1, .int .i64 1, .int .i64 2, .int .i64 2]) (.int .i64 4)).run Tryz.prog w = .ok (.int .i64 1) w := by kernel_rfl
theorem index_k5 (w : World) : (Instr.index 102 (.agg #[.int .i64 0, .int .i64 0, .int .i64 2, .int .i64 1, .int .i64 1, .int .i64 2, .int .i64 2]) (.int .i64 5)).run Tryz.prog w = .ok (.int .i64 2) w := by kernel_rfl
theorem index_k6 (w : World) : (Instr.index 102 (.agg #[.int .i64 0, .int .i64 0, .int .i64 2, .int .i64 1, .int .i64 1, .int .i64 2, .int .i64 2]) (.int .i64 6)).run Tryz.prog w = .ok (.int .i64 2) w := by kernel_rfl
theorem index_kids (k : Int) (h0 : 0 ≤ k) (h6 : k ≤ 6) (w : World) : (Instr.index 102 (.agg #[.int .i64 0, .int .i64 0, .int .i64 2, .int .i64 1, .int .i64 1, .int .i64 2, .int .i64 2]) (.int .i64 k)).run Tryz.prog w = .ok (.int .i64 (kidsN k : Int)) w := by
  have : k = 0 ∨ k = 1 ∨ k = 2 ∨ k = 3 ∨ k = 4 ∨ k = 5 ∨ k = 6 := by omega
  rcases this with rfl | rfl | rfl | rfl | rfl | rfl | rfl
  · exact index_k0 w
  · exact index_k1 w
  · exact index_k2 w
  · exact index_k3 w
  · exact index_k4 w
  · exact index_k5 w
  · exact index_k6 w
set_option maxHeartbeats 8000000 in
set_option maxRecDepth 100000 in
theorem right_low (d : Nat) (t : Tree) (h : t.k < 0) (w : World) (a : Option Addr) (n c : Nat) : Calls Tryz.prog 48 #[t.val a n c, .int .i64 (d : Int)] w fun e w' => e = .returned (.bool (rightT d t)) ∧ Below w.heap.size w w' := by
  have hr : rightT d t = false := by
    have : ¬ (0 ≤ t.k) := by omega
    rw [rightT_eq]; simp [rightK, this]
  rw [hr]
  clear hr
  simp only [Tree.val]
  have hb := Lib.hid (Below.new w (.cells (t.cells a n c) 30))
  have hd : decide (t.k < 0) = true := decide_eq_true h
  go_enter Tryz.func48, Tryz.ntmps48
  go_wp2_with fail
  go_quiet (fail)
  go_wp2_with fail
  go_ret
  exact ⟨rfl, below_drewN hb.out nq⟩
set_option maxHeartbeats 8000000 in
set_option maxRecDepth 100000 in
theorem right_high (d : Nat) (t : Tree) (h : 6 < t.k) (w : World) (a : Option Addr) (n c : Nat) : Calls Tryz.prog 48 #[t.val a n c, .int .i64 (d : Int)] w fun e w' => e = .returned (.bool (rightT d t)) ∧ Below w.heap.size w w' := by
  have hr : rightT d t = false := by
    have : ¬ (t.k ≤ 6) := by omega
    rw [rightT_eq]; simp [rightK, this]
  rw [hr]
  clear hr
  simp only [Tree.val]
  have hb := Lib.hid (Below.new w (.cells (t.cells a n c) 30))
  have hd0 : decide (t.k < 0) = false := decide_eq_false (by omega)
  have hd : decide (6 < t.k) = true := decide_eq_true h
  go_enter Tryz.func48, Tryz.ntmps48
  go_wp2_with fail
  go_quiet (fail)
  go_wp2_with fail
  go_ret
  exact ⟨rfl, below_drewN hb.out nq⟩
set_option maxHeartbeats 8000000 in
set_option maxRecDepth 100000 in
theorem right_deep (d : Nat) (t : Tree) (h0 : 0 ≤ t.k) (h6 : t.k ≤ 6) (h : 40 ≤ d) (w : World) (a : Option Addr) (n c : Nat) : Calls Tryz.prog 48 #[t.val a n c, .int .i64 (d : Int)] w fun e w' => e = .returned (.bool (rightT d t)) ∧ Below w.heap.size w w' := by
  have hr : rightT d t = false := by
    have : ¬ (d < 40) := by omega
    rw [rightT_eq]; simp [rightK, this]
  rw [hr]
  clear hr
  simp only [Tree.val]
  have hb := Lib.hid (Below.new w (.cells (t.cells a n c) 30))
  have hd0 : decide (t.k < 0) = false := decide_eq_false (by omega)
  have hd6 : decide (6 < t.k) = false := decide_eq_false (by omega)
  have hd : decide ((40 : Int) ≤ (d : Int)) = true := decide_eq_true (by omega)
  go_enter Tryz.func48, Tryz.ntmps48
  go_wp2_with fail
  go_quiet (fail)
  go_wp2_with fail
  go_ret
  exact ⟨rfl, below_drewN hb.out nq⟩
set_option maxHeartbeats 8000000 in
set_option maxRecDepth 100000 in
theorem right_many (d : Nat) (t : Tree) (h0 : 0 ≤ t.k) (h6 : t.k ≤ 6) (h : d < 40) (w : World) (a : Option Addr) (n c : Nat) (hn : n = t.kids.length) (hk : ¬ n = kidsN t.k) : Calls Tryz.prog 48 #[t.val a n c, .int .i64 (d : Int)] w fun e w' => e = .returned (.bool (rightT d t)) ∧ Below w.heap.size w w' := by
  have hr : rightT d t = false := by
    have : ¬ (t.kids.length = kidsN t.k) := by rw [← hn]; exact hk
    rw [rightT_eq]; simp [rightK, this]
  rw [hr]
  clear hr
  simp only [Tree.val]
  have hb := Lib.hid (Below.new w (.cells (t.cells a n c) 30))
  have hd0 : decide (t.k < 0) = false := decide_eq_false (by omega)
  have hd6 : decide (6 < t.k) = false := decide_eq_false (by omega)
  have hd : decide ((40 : Int) ≤ (d : Int)) = false := decide_eq_false (by omega)
  have hix := index_kids t.k h0 h6
  have hne : ((n : Int) != (kidsN t.k : Int)) = true := bne_iff_ne.2 (by omega)
  clear hn hk
  go_enter Tryz.func48, Tryz.ntmps48
  go_wp2_with fail
  go_quiet (fail)
  go_wp2_with fail
  go_ret
  exact ⟨rfl, below_drewN hb.out nq⟩
end Go.Proofs.YtfkghfmgeholeaaGreatDoor
