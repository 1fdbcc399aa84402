/- The walks of float.ToInt, FromInt, Order. -/
import Derived.Test.YtacafhmagonngaaGreatDoorFa2
import Derived.Test.YtacafhmagonngaaGreatDoorFb0
set_option linter.unusedVariables false
set_option linter.unusedSimpArgs false
namespace Go.Proofs.YtacafhmagonngaaGreatDoor
open Go.RowKit

theorem arch_trunc (b : Nat) (h : nanW b = false) (w : World) : Sem.run Tryz.prog (callFunc 117 #[.float .f64 b]) w = .ok (.value (.float .f64 (truncW b))) w := by
  rw [run_callFunc_extern Tryz.func117 (by kernel_rfl) (by kernel_rfl) (by kernel_rfl) (e := Extern.MathFloor.toIntegral "math.archTrunc" .zero) (by kernel_rfl)]
  have key : Sem.run Tryz.prog (Extern.MathFloor.toIntegral "math.archTrunc" .zero #[.float .f64 b]) w = .ok (.float .f64 (truncW b)) w := by
    have hle := not_nan h
    have hx : (∃ s m p, FloatKind.f64.decode b = .number s m p) ∨ ∃ s, FloatKind.f64.decode b = .infinity s := by
      rcases Nat.lt_or_eq_of_le hle with h1 | h1
      · obtain ⟨m, u, hr, _⟩ := read_num h1
        exact .inl ⟨_, _, _, hr⟩
      · exact .inr ⟨_, read_inf h1⟩
    have ht : truncW b = FloatKind.f64.encode ((FloatKind.f64.decode b).integral .zero) := rfl
    rw [ht]
    delta Extern.MathFloor.toIntegral
    refine Eq.trans (show _ = Sem.run Tryz.prog (match FloatKind.f64.decode b with | .nan s t => _ | d => pure (.float .f64 (FloatKind.f64.encode (d.integral .zero)))) w from rfl) ?_
    generalize FloatKind.f64.decode b = d at hx
    rcases hx with ⟨s, m, p, rfl⟩ | ⟨s, rfl⟩ <;> rfl
  rw [key]; rfl
theorem trunc_any (w : World) (b : Nat) (h : nanW b = false) : Calls Tryz.prog 90 #[.float .f64 b] w fun e w' => e = .returned (.float .f64 (truncW b)) ∧ w = w' := by
  have ht := arch_trunc b h
  clear h
  go_enter Tryz.func90, Tryz.ntmps90
  go_wp2_with fail
  go_ret
  exact ⟨rfl, rfl⟩

theorem ge_least (a : Nat) : (FloatKind.f64.format.order a 14069245235905429504 == some .gt || FloatKind.f64.format.order a 14069245235905429504 == some .eq) = (!(nanW a) && decide (-(R53 : Int) ≤ sv a)) := by
  show (Ieee.double.order a 14069245235905429504 == some .gt || Ieee.double.order a 14069245235905429504 == some .eq) = _
  have hc : sv 14069245235905429504 = -(R53 : Int) := by decide
  cases hn : nanW a with
  | true => rw [order_nan_left (by simpa [nanW] using hn)]; rfl
  | false =>
    rw [order_word (not_nan hn) (by decide), hc]
    rcases Int.lt_trichotomy (sv a) (-(R53 : Int)) with h | h | h
    · rw [cmp_lt h, decide_eq_false (by omega)]; rfl
    · rw [cmp_eq h, decide_eq_true (by omega)]; rfl
    · rw [cmp_gt h, decide_eq_true (by omega)]; rfl
theorem le_most (a : Nat) : (FloatKind.f64.format.order a 4845873199050653696 == some .lt || FloatKind.f64.format.order a 4845873199050653696 == some .eq) = (!(nanW a) && decide (sv a ≤ (R53 : Int))) := by
  show (Ieee.double.order a 4845873199050653696 == some .lt || Ieee.double.order a 4845873199050653696 == some .eq) = _
  have hc : sv 4845873199050653696 = (R53 : Int) := by decide
  cases hn : nanW a with
  | true => rw [order_nan_left (by simpa [nanW] using hn)]; rfl
  | false =>
    rw [order_word (not_nan hn) (by decide), hc]
    rcases Int.lt_trichotomy (sv a) (R53 : Int) with h | h | h
    · rw [cmp_lt h, decide_eq_true (by omega)]; rfl
    · rw [cmp_eq h, decide_eq_true (by omega)]; rfl
    · rw [cmp_gt h, decide_eq_false (by omega)]; rfl
theorem in_range (a : Nat) : ((!(nanW a) && decide (-(R53 : Int) ≤ sv a)) && (!(nanW a) && decide (sv a ≤ (R53 : Int)))) = decide (rungW a ≤ R53) := by
  have hRI : (R53 : Nat) < Inf := by decide
  by_cases h : rungW a ≤ R53
  · have hn : nanW a = false := by unfold nanW; simp; omega
    rw [hn, decide_eq_true h]
    have : -(R53 : Int) ≤ sv a ∧ sv a ≤ R53 := by unfold sv; split <;> omega
    rw [decide_eq_true this.1, decide_eq_true this.2]; rfl
  · rw [decide_eq_false h]
    by_cases hn : nanW a = true
    · simp [hn]
    · have : ¬ (-(R53 : Int) ≤ sv a ∧ sv a ≤ R53) := by unfold sv; split <;> omega
      by_cases c1 : -(R53 : Int) ≤ sv a
      · rw [decide_eq_false (p := sv a ≤ (R53 : Int)) (by omega)]; simp
      · rw [decide_eq_false c1]; simp
theorem conv_int (a : Nat) (h : rungW a ≤ R53) (w : World) : (convert 96 3 (.float .f64 a)).run Tryz.prog w = .ok (.int .i64 (if negW a then -(intW a : Int) else intW a)) w := by
  refine run_convert_float_int w 96 3 .f64 .i64 a _ (by kernel_rfl) Tryz.underlying3 ?_
  unfold floatToIntVal
  have ht : (FloatKind.f64.decode a).toInt .zero = some (if negW a then -(intW a : Int) else intW a) := toInt_of (Nat.lt_of_le_of_lt h (by decide))
  rw [ht]
  have hb := intW_le h
  simp only
  rw [if_pos]
  show (-9223372036854775808 : Int) ≤ _ ∧ _ ≤ (9223372036854775807 : Int)
  split <;> omega
theorem toint_any (w : World) (u : Int) : Calls Tryz.prog 67 #[.int .u64 u] w fun e w' => e = .returned (.tuple #[.int .i64 (wholeV u.toNat), .bool (wholeW u.toNat)]) ∧ w = w' := by
  have hfb := from_bits u
  have h1 := ge_least u.toNat
  have h2 := le_most u.toNat
  have h3 := in_range u.toNat
  generalize hA : (!(nanW u.toNat) && decide (-(R53 : Int) ≤ sv u.toNat)) = A at h1 h3
  generalize hB : (!(nanW u.toNat) && decide (sv u.toNat ≤ (R53 : Int))) = B at h2 h3
  clear hA hB
  by_cases hr : rungW u.toNat ≤ R53
  · rw [decide_eq_true hr, Bool.and_eq_true] at h3
    obtain ⟨rfl, rfl⟩ := h3
    have hn : nanW u.toNat = false := by
      have hRI : (R53 : Nat) < Inf := by decide
      unfold nanW; simp; omega
    have h4 := trunc_order hr
    have Hn := Lib.hid hn
    have hcv := conv_int u.toNat hr
    cases hw : decide (mag (rungW u.toNat) % U = 0) with
    | true =>
      have hW : wholeW u.toNat = true := by unfold wholeW; rw [hw, decide_eq_true hr]; rfl
      have hV : wholeV u.toNat = if negW u.toNat then -(intW u.toNat : Int) else intW u.toNat := by unfold wholeV; rw [if_pos hW]
      rw [hw] at h4
      have h5 : (FloatKind.f64.format.order (truncW u.toNat) u.toNat != some .eq) = false := h4
      rw [← hV] at hcv
      rw [hW]
      clear hw hW hV h4 hn hr
      go_enter Tryz.func67, Tryz.ntmps67
      go_wp2_with fail
      refine (trunc_any _ _ Hn.out).mono ?_
      rintro e w' ⟨rfl, rfl⟩
      go_wp2_with fail
      go_ret2
      exact ⟨rfl, rfl⟩
    | false =>
      have hW : wholeW u.toNat = false := by unfold wholeW; rw [hw, Bool.and_false]
      have hV : wholeV u.toNat = 0 := by unfold wholeV; rw [if_neg (by simp [hW])]
      rw [hw] at h4
      have h5 : (FloatKind.f64.format.order (truncW u.toNat) u.toNat != some .eq) = true := h4
      rw [hW, hV]
      clear hw hW hV h4 hn hr hcv
      go_enter Tryz.func67, Tryz.ntmps67
      go_wp2_with fail
      refine (trunc_any _ _ Hn.out).mono ?_
      rintro e w' ⟨rfl, rfl⟩
      go_wp2_with fail
      go_ret2
      exact ⟨rfl, rfl⟩
  · have hW : wholeW u.toNat = false := by unfold wholeW; rw [decide_eq_false hr, Bool.false_and]
    have hV : wholeV u.toNat = 0 := by unfold wholeV; rw [if_neg (by simp [hW])]
    rw [decide_eq_false hr] at h3
    rw [hW, hV]
    clear hW hV hr
    cases A with
    | false =>
      clear h3 h2
      go_enter Tryz.func67, Tryz.ntmps67
      go_wp2_with fail
      go_ret2
      exact ⟨rfl, rfl⟩
    | true =>
      rw [Bool.true_and] at h3
      subst h3
      go_enter Tryz.func67, Tryz.ntmps67
      go_wp2_with fail
      go_ret2
      exact ⟨rfl, rfl⟩
end Go.Proofs.YtacafhmagonngaaGreatDoor
