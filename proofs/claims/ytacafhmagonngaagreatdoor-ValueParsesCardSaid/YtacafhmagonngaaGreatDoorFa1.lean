/- Floats by their bits: how two words stand. No program in sight. -/
import Derived.Test.YtacafhmagonngaaGreatDoorFa0
set_option linter.unusedVariables false
set_option linter.unusedSimpArgs false
namespace Go.Proofs.YtacafhmagonngaaGreatDoor
open Ieee

def negW (w : Nat) : Bool := w / B63 % 2 == 1
def rungW (w : Nat) : Nat := w % B63
/-- a word that is a NaN -/
def nanW (w : Nat) : Bool := decide (Inf < rungW w)
/-- the signed rung -/
def sv (w : Nat) : Int := if negW w then -(rungW w : Int) else rungW w
def sm (w : Nat) : Int := if negW w then -(mag (rungW w) : Int) else mag (rungW w)

theorem cmp_congr {a b c d : Int} (h1 : a < b ↔ c < d) (h2 : a = b ↔ c = d) : compare a b = compare c d := by
  show compareOfLessAndEq a b = compareOfLessAndEq c d
  unfold compareOfLessAndEq
  by_cases e1 : a < b
  · rw [if_pos e1, if_pos (h1.1 e1)]
  · rw [if_neg e1, if_neg (fun h => e1 (h1.2 h))]
    by_cases e2 : a = b
    · rw [if_pos e2, if_pos (h2.1 e2)]
    · rw [if_neg e2, if_neg (fun h => e2 (h2.2 h))]
theorem cmp_lt {a b : Int} (h : a < b) : compare a b = .lt := by show compareOfLessAndEq a b = _; unfold compareOfLessAndEq; rw [if_pos h]
theorem cmp_gt {a b : Int} (h : b < a) : compare a b = .gt := by show compareOfLessAndEq a b = _; unfold compareOfLessAndEq; rw [if_neg (by omega), if_neg (by omega)]
theorem cmp_eq {a b : Int} (h : a = b) : compare a b = .eq := by show compareOfLessAndEq a b = _; unfold compareOfLessAndEq; rw [if_neg (by omega), if_pos h]

theorem sm_lt {x y : Nat} : sm x < sm y ↔ sv x < sv y := by
  unfold sm sv
  have hm : ∀ a b : Nat, a < b → mag a < mag b := fun a b h => mag_mono h
  have h0 : mag 0 = 0 := mag_low (by decide)
  have hle : ∀ a b : Nat, a ≤ b → mag a ≤ mag b := fun a b h => by
    rcases Nat.lt_or_eq_of_le h with h | h
    · exact Nat.le_of_lt (hm _ _ h)
    · rw [h]; exact Nat.le_refl _
  have key : ∀ a b : Nat, mag a < mag b ↔ a < b := fun a b => ⟨fun h => by
    by_cases e : a < b
    · exact e
    · have := hle b a (by omega); omega, hm a b⟩
  have k0 : ∀ a : Nat, mag a = 0 ↔ a = 0 := fun a => ⟨fun h => by
    by_cases e : a = 0
    · exact e
    · have := hm 0 a (by omega); omega, fun h => by rw [h, h0]⟩
  have k1 := key (rungW x) (rungW y)
  have k2 := key (rungW y) (rungW x)
  have k3 := k0 (rungW x)
  have k4 := k0 (rungW y)
  cases negW x <;> cases negW y <;> simp only [Bool.false_eq_true, if_false, if_true] <;> omega
theorem sm_eq {x y : Nat} : sm x = sm y ↔ sv x = sv y := by
  have h1 := @sm_lt x y
  have h2 := @sm_lt y x
  omega

/-- what a finite word reads as -/
theorem read_num {w : Nat} (h : rungW w < Inf) : ∃ m u : Nat, double.read w = .number (negW w) m ((u : Int) - 1074) ∧ mag (rungW w) = m * 2 ^ u := by
  have hs : double.signWeight = B63 := by decide
  have hb : double.binade = B52 := by decide
  have hi : double.infRung = Inf := by decide
  have hl : double.leastPlace = -1074 := by decide
  unfold Format.read
  simp only [hs, hb, hi, hl]
  by_cases h1 : rungW w < B52
  · refine ⟨rungW w, 0, ?_, ?_⟩
    · have h1' : w % B63 < B52 := h1
      rw [if_pos h1']
      simp [negW, rungW]
    · rw [mag_low h1]; simp
  · have h1' : ¬ w % B63 < B52 := h1
    have h2' : w % B63 < Inf := h
    refine ⟨B52 + rungW w % B52, rungW w / B52 - 1, ?_, ?_⟩
    · rw [if_neg h1', if_pos h2']
      show Datum.number _ _ _ = Datum.number _ _ _
      congr 1
    · exact mag_ge (by omega)
theorem read_inf {w : Nat} (h : rungW w = Inf) : double.read w = .infinity (negW w) := by
  have hs : double.signWeight = B63 := by decide
  have hb : double.binade = B52 := by decide
  have hi : double.infRung = Inf := by decide
  unfold Format.read
  simp only [hs, hb, hi]
  have h' : w % B63 = Inf := h
  rw [if_neg (by rw [h']; decide), if_neg (by omega), if_pos h']
  rfl
theorem read_nan {w : Nat} (h : Inf < rungW w) : double.read w = .nan (negW w) (rungW w - Inf) := by
  have hs : double.signWeight = B63 := by decide
  have hb : double.binade = B52 := by decide
  have hi : double.infRung = Inf := by decide
  unfold Format.read
  simp only [hs, hb, hi]
  have h' : Inf < w % B63 := h
  rw [if_neg (by unfold Inf B52 at *; omega), if_neg (by omega), if_neg (by omega)]
  rfl

theorem order_nan_left {x y : Nat} (h : Inf < rungW x) : double.order x y = none := by
  unfold Format.order; rw [read_nan h]; rfl
theorem order_nan_right {x y : Nat} (h : Inf < rungW y) : double.order x y = none := by
  unfold Format.order; rw [read_nan h]
  cases double.read x <;> rfl
theorem signed_scale (s : Bool) (m a b : Nat) : signed s m a * (2 ^ b : Nat) = if s then -((m * 2 ^ (a + b) : Nat) : Int) else ((m * 2 ^ (a + b) : Nat) : Int) := by
  unfold signed
  rw [Nat.shiftLeft_eq, Nat.pow_add, ← Nat.mul_assoc]
  cases s
  · simp only [Bool.false_eq_true, if_false]; rw [← Int.natCast_mul]
  · simp only [if_true]; rw [Int.neg_mul, ← Int.natCast_mul]
theorem sv_inf {w : Nat} (h : rungW w = Inf) : sv w = if negW w then -(Inf : Int) else Inf := by unfold sv; rw [h]
theorem sv_fin {w : Nat} (h : rungW w < Inf) : -(Inf : Int) < sv w ∧ sv w < Inf := by unfold sv; split <;> omega
/-- words that are no NaN stand as their signed rungs do -/
theorem order_word {x y : Nat} (hx : rungW x ≤ Inf) (hy : rungW y ≤ Inf) : double.order x y = some (compare (sv x) (sv y)) := by
  unfold Format.order
  rcases Nat.lt_or_eq_of_le hx with h1 | h1 <;> rcases Nat.lt_or_eq_of_le hy with h2 | h2
  · obtain ⟨m, i, rx, ex⟩ := read_num h1
    obtain ⟨n, j, ry, ey⟩ := read_num h2
    rw [rx, ry]
    unfold Datum.order
    simp only
    congr 1
    have hsx : ∃ b : Nat, (min ((i : Int) - 1074) ((j : Int) - 1074)) = (b : Int) - 1074 ∧ b ≤ i ∧ b ≤ j := ⟨min i j, by omega, Nat.min_le_left _ _, Nat.min_le_right _ _⟩
    obtain ⟨b, hb, hbi, hbj⟩ := hsx
    rw [hb, show ((i : Int) - 1074 - ((b : Int) - 1074)).toNat = i - b from by omega, show ((j : Int) - 1074 - ((b : Int) - 1074)).toNat = j - b from by omega]
    have e1 := signed_scale (negW x) m (i - b) b
    have e2 := signed_scale (negW y) n (j - b) b
    rw [show i - b + b = i from by omega, ← ex] at e1
    rw [show j - b + b = j from by omega, ← ey] at e2
    have hp : (0 : Int) < ((2 ^ b : Nat) : Int) := by exact_mod_cast Nat.pow_pos (by decide)
    have e1' : signed (negW x) m (i - b) * ((2 ^ b : Nat) : Int) = sm x := e1
    have e2' : signed (negW y) n (j - b) * ((2 ^ b : Nat) : Int) = sm y := e2
    have a1 : signed (negW x) m (i - b) < signed (negW y) n (j - b) ↔ sm x < sm y := by
      rw [← e1', ← e2']
      exact ⟨fun h => Int.mul_lt_mul_of_pos_right h hp, fun h => Int.lt_of_mul_lt_mul_right h (Int.le_of_lt hp)⟩
    have a2 : signed (negW x) m (i - b) = signed (negW y) n (j - b) ↔ sm x = sm y := by
      rw [← e1', ← e2']
      exact ⟨fun h => by rw [h], fun h => Int.eq_of_mul_eq_mul_right (by omega) h⟩
    exact cmp_congr (a1.trans sm_lt) (a2.trans sm_eq)
  · obtain ⟨m, i, rx, ex⟩ := read_num h1
    rw [rx, read_inf h2]
    unfold Datum.order
    have a := sv_fin h1
    have b := sv_inf h2
    cases hn : negW y
    · rw [hn] at b; simp only [Bool.false_eq_true, if_false] at b ⊢; rw [cmp_lt (by omega)]
    · rw [hn] at b; simp only [if_true] at b ⊢; rw [cmp_gt (by omega)]
  · obtain ⟨m, i, ry, ey⟩ := read_num h2
    rw [ry, read_inf h1]
    unfold Datum.order
    have a := sv_fin h2
    have b := sv_inf h1
    cases hn : negW x
    · rw [hn] at b; simp only [Bool.false_eq_true, if_false] at b ⊢; rw [cmp_gt (by omega)]
    · rw [hn] at b; simp only [if_true] at b ⊢; rw [cmp_lt (by omega)]
  · rw [read_inf h1, read_inf h2]
    unfold Datum.order
    have a0 : (0 : Nat) < Inf := by decide
    have a := sv_inf h1
    have b := sv_inf h2
    cases hn : negW x <;> cases hm : negW y <;> rw [hn] at a <;> rw [hm] at b <;> simp only [Bool.false_eq_true, if_false, if_true] at a b
    · rw [cmp_eq (a := sv x) (b := sv y) (by omega)]; rfl
    · rw [cmp_gt (a := sv x) (b := sv y) (by omega)]; rfl
    · rw [cmp_lt (a := sv x) (b := sv y) (by omega)]; rfl
    · rw [cmp_eq (a := sv x) (b := sv y) (by omega)]; rfl
end Go.Proofs.YtacafhmagonngaaGreatDoor
