/- The walks of float.Canon, Compare. -/
import Derived.Test.YtacafhmagonngaaGreatDoorFa1
import Derived.Test.YtacafhmagonngaaGreatDoorChecked
import Derived.WalkKit
import Derived.WalkSpells
import Derived.WalkLawsBesides
import Derived.Lib.Hide
import Derived.Deep.LoopGhost
import Derived.ProofKit
import Derived.Below
import Derived.Laws.Cover2
import Derived.Laws.Externs
import Derived.Laws.FloatArith
set_option linter.unusedVariables false
set_option linter.unusedSimpArgs false
namespace Go.Proofs.YtacafhmagonngaaGreatDoor
open Go.RowKit

theorem from_bits (u : Int) (w : World) : Sem.run Tryz.prog (callFunc 66 #[.int .u64 u]) w = .ok (.value (.float .f64 u.toNat)) w := by
  rw [run_callFunc_extern Tryz.func66 (by kernel_rfl) (by kernel_rfl) (by kernel_rfl) (e := Extern.MathFloatBits.float64frombits) (by kernel_rfl)]
  rfl
theorem bits_of (b : Nat) (w : World) : Sem.run Tryz.prog (callFunc 92 #[.float .f64 b]) w = .ok (.value (.int .u64 (b : Int))) w := by
  rw [run_callFunc_extern Tryz.func92 (by kernel_rfl) (by kernel_rfl) (by kernel_rfl) (e := Extern.MathFloatBits.float64bits) (by kernel_rfl)]
  rfl
theorem order_self (b : Nat) : (FloatKind.f64.format.order b b != some .eq) = nanW b := by
  show (Ieee.double.order b b != some .eq) = nanW b
  cases hn : nanW b with
  | true => rw [order_nan_left (by simpa [nanW] using hn)]; rfl
  | false =>
    have h1 : rungW b ≤ Inf := by simpa [nanW] using hn
    rw [order_word h1 h1, cmp_eq rfl]; rfl
theorem isnan_any (w : World) (b : Nat) : Calls Tryz.prog 89 #[.float .f64 b] w fun e w' => e = .returned (.bool (nanW b)) ∧ w = w' := by
  have h0 := order_self b
  go_enter Tryz.func89, Tryz.ntmps89
  go_wp2_with fail
  go_ret
  exact ⟨rfl, rfl⟩
def canonF (u : Int) : Int := if nanW u.toNat then 9221120237041090560 else u
theorem canon_any (w : World) (u : Int) : Calls Tryz.prog 65 #[.int .u64 u] w fun e w' => e = .returned (.int .u64 (canonF u)) ∧ w = w' := by
  have hfb := from_bits u
  go_enter Tryz.func65, Tryz.ntmps65
  go_wp2_with fail
  refine (isnan_any _ _).mono ?_
  rintro e w' ⟨rfl, rfl⟩
  cases hn : nanW u.toNat with
  | true =>
    have Hc := Lib.hid (show canonF u = 9221120237041090560 by unfold canonF; rw [if_pos hn])
    clear hn
    go_wp2_with fail
    go_ret
    exact ⟨by rw [Hc.out]; rfl, rfl⟩
  | false =>
    have Hc := Lib.hid (show canonF u = u by unfold canonF; rw [if_neg (by simp [hn])])
    clear hn
    go_wp2_with fail
    go_ret
    exact ⟨by rw [Hc.out]; rfl, rfl⟩

/-- how two floats compare: what the call answers -/
def cmpF (a b : Nat) : Int := if nanW a || nanW b then 0 else if sv a < sv b then -1 else if sv b < sv a then 1 else 0
def cmpOk (a b : Nat) : Bool := !(nanW a || nanW b) && (decide (sv a < sv b) || decide (sv b < sv a) || decide (sv a = sv b))
theorem cmpOk_eq (a b : Nat) : cmpOk a b = !(nanW a || nanW b) := by
  unfold cmpOk
  have : (decide (sv a < sv b) || decide (sv b < sv a) || decide (sv a = sv b)) = true := by
    simp only [Bool.or_eq_true, decide_eq_true_eq]; omega
  rw [this, Bool.and_true]
theorem not_nan {a : Nat} (h : nanW a = false) : rungW a ≤ Inf := by simpa [nanW] using h
theorem compare_any (w : World) (a b : Int) : Calls Tryz.prog 53 #[.int .u64 a, .int .u64 b] w fun e w' => e = .returned (.tuple #[.int .i64 (cmpF a.toNat b.toNat), .bool (!(nanW a.toNat || nanW b.toNat))]) ∧ w = w' := by
  have hfa := from_bits a
  have hfb := from_bits b
  by_cases hn : (nanW a.toNat || nanW b.toNat) = true
  · have ho : Ieee.double.order a.toNat b.toNat = none := by
      rw [Bool.or_eq_true] at hn
      rcases hn with hn | hn
      · exact order_nan_left (by simpa [nanW] using hn)
      · exact order_nan_right (by simpa [nanW] using hn)
    have h1 : (FloatKind.f64.format.order a.toNat b.toNat == some .lt) = false := by show (Ieee.double.order a.toNat b.toNat == some .lt) = false; rw [ho]; rfl
    have h2 : (FloatKind.f64.format.order a.toNat b.toNat == some .gt) = false := by show (Ieee.double.order a.toNat b.toNat == some .gt) = false; rw [ho]; rfl
    have h3 : (FloatKind.f64.format.order a.toNat b.toNat == some .eq) = false := by show (Ieee.double.order a.toNat b.toNat == some .eq) = false; rw [ho]; rfl
    have hc : cmpF a.toNat b.toNat = 0 := by unfold cmpF; rw [if_pos hn]
    rw [hc, hn]
    clear hc hn ho
    go_enter Tryz.func53, Tryz.ntmps53
    go_wp2_with fail
    go_ret2
    exact ⟨rfl, rfl⟩
  · have hn' : (nanW a.toNat || nanW b.toNat) = false := by simpa using hn
    obtain ⟨n1, n2⟩ := Bool.or_eq_false_iff.1 hn'
    have ho : Ieee.double.order a.toNat b.toNat = _ := order_word (not_nan n1) (not_nan n2)
    have hcf : cmpF a.toNat b.toNat = if sv a.toNat < sv b.toNat then -1 else if sv b.toNat < sv a.toNat then 1 else 0 := by unfold cmpF; rw [if_neg hn]
    rw [hn']
    by_cases c1 : sv a.toNat < sv b.toNat
    · rw [cmp_lt c1] at ho
      have h1 : (FloatKind.f64.format.order a.toNat b.toNat == some .lt) = true := by show (Ieee.double.order a.toNat b.toNat == some .lt) = true; rw [ho]; rfl
      rw [if_pos c1] at hcf
      rw [hcf]
      clear hcf hn hn' n1 n2 ho c1
      go_enter Tryz.func53, Tryz.ntmps53
      go_wp2_with fail
      go_ret2
      exact ⟨rfl, rfl⟩
    · by_cases c2 : sv b.toNat < sv a.toNat
      · rw [cmp_gt c2] at ho
        have h1 : (FloatKind.f64.format.order a.toNat b.toNat == some .lt) = false := by show (Ieee.double.order a.toNat b.toNat == some .lt) = false; rw [ho]; rfl
        have h2 : (FloatKind.f64.format.order a.toNat b.toNat == some .gt) = true := by show (Ieee.double.order a.toNat b.toNat == some .gt) = true; rw [ho]; rfl
        rw [if_neg c1, if_pos c2] at hcf
        rw [hcf]
        clear hcf hn hn' n1 n2 ho c1 c2
        go_enter Tryz.func53, Tryz.ntmps53
        go_wp2_with fail
        go_ret2
        exact ⟨rfl, rfl⟩
      · rw [cmp_eq (by omega)] at ho
        have h1 : (FloatKind.f64.format.order a.toNat b.toNat == some .lt) = false := by show (Ieee.double.order a.toNat b.toNat == some .lt) = false; rw [ho]; rfl
        have h2 : (FloatKind.f64.format.order a.toNat b.toNat == some .gt) = false := by show (Ieee.double.order a.toNat b.toNat == some .gt) = false; rw [ho]; rfl
        have h3 : (FloatKind.f64.format.order a.toNat b.toNat == some .eq) = true := by show (Ieee.double.order a.toNat b.toNat == some .eq) = true; rw [ho]; rfl
        rw [if_neg c1, if_neg c2] at hcf
        rw [hcf]
        clear hcf hn hn' n1 n2 ho c1 c2
        go_enter Tryz.func53, Tryz.ntmps53
        go_wp2_with fail
        go_ret2
        exact ⟨rfl, rfl⟩
end Go.Proofs.YtacafhmagonngaaGreatDoor
