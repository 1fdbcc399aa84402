/- The document's answer for values: the walks of Right, right, numbers. -/
import Derived.Test.YtacafhmagonngaaGreatDoorVe0
set_option linter.unusedVariables false
set_option linter.unusedSimpArgs false
namespace Go.Proofs.YtacafhmagonngaaGreatDoor
open Go.RowKit

theorem below_box (w : World) (o : Obj) (q : Nat) : Below w.heap.size w ((w.alloc o).drewN q) := below_drewN ((Below.refl _ _).alloc (Nat.le_refl _) _) q
set_option maxHeartbeats 8000000 in
set_option maxRecDepth 100000 in
theorem rightR_any (w : World) (x : Val) (f0 : 0 ≤ x.f) (f1 : x.f < 18446744073709551616) :
    Calls Tryz.prog 11 #[x.v] w fun e w' => e = .returned (.bool (rightB x)) ∧ Below w.heap.size w w' := by
  obtain ⟨k, n, s, f⟩ := x
  have g0 : 0 ≤ f := f0
  have g1 : f < 18446744073709551616 := f1
  have Hc : Hid (∀ W : World, Calls Tryz.prog 29 #[.int .u64 f] W fun e w' => e = .returned (.int .u64 (canonF f)) ∧ W = w') := Lib.hid fun W => canonR_any W f g0 g1
  simp only [Val.v]
  clear f0 f1 g0 g1
  by_cases h1 : k = 1
  · subst h1
    have hb : rightB ⟨1, n, s, f⟩ = (decide (s.toList = []) && decide (f = 0)) := by simp [rightB]
    rw [hb]
    clear hb Hc
    go_enter Tryz.func11, Tryz.ntmps11
    go_wp2_with fail
    go_quiet (fail)
    go_wp2_with fail
    all_goals
      go_ret
      exact ⟨by rcases Decidable.em (f = 0) with g | g <;> rcases Decidable.em (n = 0) with g' | g' <;> rcases Decidable.em (n = 1) with g2 | g2 <;> simp_all, below_box _ _ _⟩
  by_cases h2 : k = 2
  · subst h2
    have hb : rightB ⟨2, n, s, f⟩ = (decide (s.toList = []) && decide (f = 0) && decide (n = 0 ∨ n = 1)) := by simp [rightB]
    rw [hb]
    clear hb Hc
    go_enter Tryz.func11, Tryz.ntmps11
    go_wp2_with fail
    go_quiet (fail)
    go_wp2_with fail
    all_goals
      go_ret
      exact ⟨by rcases Decidable.em (f = 0) with g | g <;> rcases Decidable.em (n = 0) with g' | g' <;> rcases Decidable.em (n = 1) with g2 | g2 <;> simp_all, below_box _ _ _⟩
  by_cases h3 : k = 3
  · subst h3
    have hb : rightB ⟨3, n, s, f⟩ = (decide (n = 0) && decide (f = 0) && decide (s.size ≤ 64)) := by simp [rightB]
    rw [hb]
    clear hb Hc
    by_cases hs : s.size ≤ 64
    · have hsi : (s.size : Int) ≤ 64 := by omega
      rw [decide_eq_true hs]
      go_enter Tryz.func11, Tryz.ntmps11
      go_wp2_with fail
      go_quiet (fail)
      go_wp2_with fail
      all_goals
        go_ret
        exact ⟨by rcases Decidable.em (f = 0) with g | g <;> rcases Decidable.em (n = 0) with g' | g' <;> rcases Decidable.em (n = 1) with g2 | g2 <;> simp_all, below_box _ _ _⟩
    · have hsi : ¬ (s.size : Int) ≤ 64 := by omega
      rw [decide_eq_false hs]
      go_enter Tryz.func11, Tryz.ntmps11
      go_wp2_with fail
      go_quiet (fail)
      go_wp2_with fail
      all_goals
        go_ret
        exact ⟨by rcases Decidable.em (f = 0) with g | g <;> rcases Decidable.em (n = 0) with g' | g' <;> rcases Decidable.em (n = 1) with g2 | g2 <;> simp_all, below_box _ _ _⟩
  by_cases h4 : k = 4
  · subst h4
    have hb : rightB ⟨4, n, s, f⟩ = (decide (n = 0) && decide (s.toList = []) && decide (canonF f = f)) := by simp [rightB]
    rw [hb]
    clear hb
    generalize canonF f = c at *
    by_cases hn : n = 0
    · have n1 : (n != 0) = false := by rw [hn]; rfl
      have HN := Lib.hid hn
      rw [decide_eq_true hn]
      clear hn
      by_cases hs : s.toList = []
      · have s1 : (s.toList != []) = false := by rw [hs]; rfl
        rw [decide_eq_true hs]
        have HS := Lib.hid hs
        have hs3 : s.toList.isEmpty = true := by rw [hs]; rfl
        go_enter Tryz.func11, Tryz.ntmps11
        go_wp2_with fail
        go_quiet (fail)
        have hat := (At.new w 4 n s f 26).below (below_drewN (Below.refl _ _) nq) (At.new w 4 n s f 26).lt
        have hbx := below_box w (.cells #[.int .i64 4, .int .i64 n, .string s, .int .u64 f] 26) nq
        have Hbx := Lib.hid hbx
        clear hbx
        go_wp2_with fail
        generalize World.drewN (World.alloc w _) nq = W1 at hat Hbx ⊢
        obtain ⟨c0, c1, c2, c3, -, -⟩ := hat
        go_quiet ((go_at_call 29; exact Calls.quiet_of_same ((Hc.out _).mono fun e w1 h => ⟨h.1, h.2.symm⟩)))
        go_wp2_with fail
        go_ret
        exact ⟨by simp_all <;> rfl, below_drewN Hbx.out _⟩
      · have s1 : (s.toList != []) = true := by rw [bne_iff_ne]; exact hs
        rw [decide_eq_false hs]
        have hs3 : s.toList.isEmpty = false := by simpa using hs
        go_enter Tryz.func11, Tryz.ntmps11
        go_wp2_with fail
        go_quiet (fail)
        have hat := (At.new w 4 n s f 26).below (below_drewN (Below.refl _ _) nq) (At.new w 4 n s f 26).lt
        have hbx := below_box w (.cells #[.int .i64 4, .int .i64 n, .string s, .int .u64 f] 26) nq
        have Hbx := Lib.hid hbx
        clear hbx
        go_wp2_with fail
        generalize World.drewN (World.alloc w _) nq = W1 at hat Hbx ⊢
        obtain ⟨c0, c1, c2, c3, -, -⟩ := hat
        go_quiet ((go_at_call 29; exact Calls.quiet_of_same ((Hc.out _).mono fun e w1 h => ⟨h.1, h.2.symm⟩)))
        go_wp2_with fail
        go_ret
        exact ⟨by simp_all <;> rfl, below_drewN Hbx.out _⟩
    · have n1 : (n != 0) = true := by rw [bne_iff_ne]; exact hn
      rw [decide_eq_false hn]
      go_enter Tryz.func11, Tryz.ntmps11
      go_wp2_with fail
      go_quiet (fail)
      have hat := (At.new w 4 n s f 26).below (below_drewN (Below.refl _ _) nq) (At.new w 4 n s f 26).lt
      have hbx := below_box w (.cells #[.int .i64 4, .int .i64 n, .string s, .int .u64 f] 26) nq
      have Hbx := Lib.hid hbx
      clear hbx
      go_wp2_with fail
      generalize World.drewN (World.alloc w _) nq = W1 at hat Hbx ⊢
      obtain ⟨c0, c1, c2, c3, -, -⟩ := hat
      go_quiet ((go_at_call 29; exact Calls.quiet_of_same ((Hc.out _).mono fun e w1 h => ⟨h.1, h.2.symm⟩)))
      go_wp2_with fail
      go_ret
      exact ⟨by simp_all <;> rfl, below_drewN Hbx.out _⟩
  by_cases h0 : k = 0
  · subst h0
    have hb : rightB ⟨0, n, s, f⟩ = (decide (n = 0) && decide (s.toList = []) && decide (f = 0)) := by simp [rightB]
    rw [hb]
    clear hb Hc
    go_enter Tryz.func11, Tryz.ntmps11
    go_wp2_with fail
    go_quiet (fail)
    go_wp2_with fail
    all_goals
      go_ret
      exact ⟨by rcases Decidable.em (f = 0) with g | g <;> rcases Decidable.em (n = 0) with g' | g' <;> rcases Decidable.em (n = 1) with g2 | g2 <;> simp_all, below_box _ _ _⟩
  · have hb : rightB ⟨k, n, s, f⟩ = false := by simp [rightB, h0, h1, h2, h3, h4]
    rw [hb]
    clear hb Hc
    have e0 : (k == 0) = false := by rw [beq_eq_false_iff_ne]; exact h0
    have e1 : (k == 1) = false := by rw [beq_eq_false_iff_ne]; exact h1
    have e2 : (k == 2) = false := by rw [beq_eq_false_iff_ne]; exact h2
    have e3 : (k == 3) = false := by rw [beq_eq_false_iff_ne]; exact h3
    have e4 : (k == 4) = false := by rw [beq_eq_false_iff_ne]; exact h4
    go_enter Tryz.func11, Tryz.ntmps11
    go_wp2_with fail
    go_quiet (fail)
    go_wp2_with fail
    go_ret
    exact ⟨rfl, below_box _ _ _⟩
end Go.Proofs.YtacafhmagonngaaGreatDoor
