/- Values: the walks of value.Right, value.right. -/
import Derived.Test.YtacafhmagonngaaGreatDoorFp3
set_option linter.unusedVariables false
set_option linter.unusedSimpArgs false
namespace Go.Proofs.YtacafhmagonngaaGreatDoor
open Go.RowKit

structure Val where
  k : Int
  n : Int
  s : ByteArray
  f : Int
abbrev Val.v (x : Val) : Value := .agg #[.int .i64 x.k, .int .i64 x.n, .string x.s, .int .u64 x.f]
structure Val.Wf (x : Val) : Prop where
  k0 : -9223372036854775808 ≤ x.k
  k1 : x.k ≤ 9223372036854775807
  n0 : -9223372036854775808 ≤ x.n
  n1 : x.n ≤ 9223372036854775807
  f0 : 0 ≤ x.f
  f1 : x.f < 18446744073709551616
/-- is it a value -/
def rightB (x : Val) : Bool :=
  if x.k = 1 then decide (x.s.toList = []) && decide (x.f = 0)
  else if x.k = 2 then decide (x.s.toList = []) && decide (x.f = 0) && decide (x.n = 0 ∨ x.n = 1)
  else if x.k = 3 then decide (x.n = 0) && decide (x.f = 0) && decide (x.s.size ≤ 64)
  else if x.k = 4 then decide (x.n = 0) && decide (x.s.toList = []) && decide (canonF x.f = x.f)
  else decide (x.k = 0) && decide (x.n = 0) && decide (x.s.toList = []) && decide (x.f = 0)
theorem bits_one (n : Int) : bits BinOp.and .i64 n 1 = n % 2 := by
  show IntKind.i64.wrap ((BitVec.ofInt 64 n &&& BitVec.ofInt 64 1).toNat : Int) = n % 2
  rw [BitVec.toNat_and, show (BitVec.ofInt 64 1).toNat = 1 from by decide, Nat.and_one_is_mod, BitVec.toNat_ofInt, IntKind.wrap_i64]
  omega
theorem and_one (n : Int) : (n = bits BinOp.and .i64 n 1) ↔ (n = 0 ∨ n = 1) := by
  rw [bits_one]
  omega
set_option maxHeartbeats 8000000 in
set_option maxRecDepth 100000 in
theorem right_any (w : World) (x : Val) :
    Calls Tryz.prog 47 #[x.v] w fun e w' => e = .returned (.bool (rightB x)) ∧ Below w.heap.size w w' := by
  obtain ⟨k, n, s, f⟩ := x
  simp only [Val.v]
  by_cases h1 : k = 1
  · subst h1
    have hb : rightB ⟨1, n, s, f⟩ = (decide (s.toList = []) && decide (f = 0)) := by simp [rightB]
    rw [hb]
    clear hb
    go_enter Tryz.func47, Tryz.ntmps47
    go_wp2_with fail
    all_goals
      go_ret
      exact ⟨by simp [*], (Below.refl _ _).alloc (Nat.le_refl _) _⟩
  by_cases h2 : k = 2
  · subst h2
    have hb : rightB ⟨2, n, s, f⟩ = (decide (s.toList = []) && decide (f = 0) && decide (n = 0 ∨ n = 1)) := by simp [rightB]
    have ha := and_one n
    rw [hb]
    clear hb
    by_cases hn : n = 0 ∨ n = 1
    · rw [decide_eq_true hn]
      clear ha
      have z0 : bits BinOp.and .i64 0 1 = 0 := by decide
      have z1 : bits BinOp.and .i64 1 1 = 1 := by decide
      rcases hn with rfl | rfl
      all_goals
        go_enter Tryz.func47, Tryz.ntmps47
        go_wp2_with fail
        all_goals
          go_ret
          exact ⟨by simp [*], (Below.refl _ _).alloc (Nat.le_refl _) _⟩
    · have hn2 := fun h => hn (ha.1 h)
      rw [decide_eq_false hn]
      clear ha
      have Hn := Lib.hid hn; clear hn
      go_enter Tryz.func47, Tryz.ntmps47
      go_wp2_with fail
      all_goals
        go_ret
        exact ⟨by simp [*], (Below.refl _ _).alloc (Nat.le_refl _) _⟩
  by_cases h3 : k = 3
  · subst h3
    have hb : rightB ⟨3, n, s, f⟩ = (decide (n = 0) && decide (f = 0) && decide (s.size ≤ 64)) := by simp [rightB]
    rw [hb]
    clear hb
    by_cases hs : s.size ≤ 64
    · have hsi : (s.size : Int) ≤ 64 := by omega
      rw [decide_eq_true hs]
      go_enter Tryz.func47, Tryz.ntmps47
      go_wp2_with fail
      all_goals
        go_ret
        exact ⟨by simp [*], (Below.refl _ _).alloc (Nat.le_refl _) _⟩
    · have hsi : ¬ (s.size : Int) ≤ 64 := by omega
      rw [decide_eq_false hs]
      go_enter Tryz.func47, Tryz.ntmps47
      go_wp2_with fail
      all_goals
        go_ret
        exact ⟨by simp [*], (Below.refl _ _).alloc (Nat.le_refl _) _⟩
  by_cases h4 : k = 4
  · subst h4
    have hb : rightB ⟨4, n, s, f⟩ = (decide (n = 0) && decide (s.toList = []) && decide (canonF f = f)) := by simp [rightB]
    rw [hb]
    clear hb
    have Hc : Hid (∀ W : World, Calls Tryz.prog 65 #[.int .u64 f] W fun e w' => e = .returned (.int .u64 (canonF f)) ∧ W = w') := Lib.hid fun W => canon_any W f
    generalize canonF f = c at *
    by_cases hn : n = 0
    · subst hn
      by_cases hs : s.toList = []
      · by_cases hc : f = c
        · subst hc
          go_enter Tryz.func47, Tryz.ntmps47
          go_wp2_with fail
          go_quiet ((go_at_call 65; exact Calls.quiet_of_same ((Hc.out _).mono fun e w1 h => ⟨h.1, h.2.symm⟩)))
          go_wp2_with fail
          go_ret
          exact ⟨by simp [*], below_drewN ((Below.refl _ _).alloc (Nat.le_refl _) _) _⟩
        · have hc2 : ¬ c = f := fun e => hc e.symm
          go_enter Tryz.func47, Tryz.ntmps47
          go_wp2_with fail
          go_quiet ((go_at_call 65; exact Calls.quiet_of_same ((Hc.out _).mono fun e w1 h => ⟨h.1, h.2.symm⟩)))
          go_wp2_with fail
          go_ret
          exact ⟨by simp [*], below_drewN ((Below.refl _ _).alloc (Nat.le_refl _) _) _⟩
      · go_enter Tryz.func47, Tryz.ntmps47
        go_wp2_with fail
        go_quiet ((go_at_call 65; exact Calls.quiet_of_same ((Hc.out _).mono fun e w1 h => ⟨h.1, h.2.symm⟩)))
        go_wp2_with fail
        go_ret
        exact ⟨by simp [*], below_drewN ((Below.refl _ _).alloc (Nat.le_refl _) _) _⟩
    · go_enter Tryz.func47, Tryz.ntmps47
      go_wp2_with fail
      go_quiet ((go_at_call 65; exact Calls.quiet_of_same ((Hc.out _).mono fun e w1 h => ⟨h.1, h.2.symm⟩)))
      go_wp2_with fail
      go_ret
      exact ⟨by simp [*], below_drewN ((Below.refl _ _).alloc (Nat.le_refl _) _) _⟩
  · have hb : rightB ⟨k, n, s, f⟩ = (decide (k = 0) && decide (n = 0) && decide (s.toList = []) && decide (f = 0)) := by simp [rightB, h1, h2, h3, h4]
    rw [hb]
    clear hb
    have e1 : (k == 1) = false := by rw [beq_eq_false_iff_ne]; exact h1
    have e2 : (k == 2) = false := by rw [beq_eq_false_iff_ne]; exact h2
    have e3 : (k == 3) = false := by rw [beq_eq_false_iff_ne]; exact h3
    have e4 : (k == 4) = false := by rw [beq_eq_false_iff_ne]; exact h4
    go_enter Tryz.func47, Tryz.ntmps47
    go_wp2_with fail
    all_goals
      go_ret
      exact ⟨by simp [*], (Below.refl _ _).alloc (Nat.le_refl _) _⟩
end Go.Proofs.YtacafhmagonngaaGreatDoor
