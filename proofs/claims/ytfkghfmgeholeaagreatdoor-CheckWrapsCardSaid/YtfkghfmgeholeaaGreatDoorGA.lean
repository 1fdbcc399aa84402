/- Joined texts: Fa0; Fa1; Fa2; Fb0; Fb1; Fb2; Fb3; Fa4. -/
import Ieee.Arith
import Derived.Test.YtfkghfmgeholeaaGreatDoorChecked
import Derived.WalkKit
import Derived.WalkSpells
import Derived.WalkLawsBesides
import Derived.Lib.Hide
import Derived.Deep.LoopGhost
import Derived.ProofKit
import Derived.Below
import Derived.Laws.Cover2
import Derived.Laws.Externs
import Derived.Laws.FloatArith
import Derived.Laws.Bits64b
import Derived.Laws.Bits64
set_option linter.unusedVariables false
set_option linter.unusedSimpArgs false
namespace Go.Proofs.YtfkghfmgeholeaaGreatDoor
open Ieee

abbrev B52 : Nat := 4503599627370496
abbrev B63 : Nat := 9223372036854775808
abbrev Inf : Nat := 9218868437227405312
/-- the magnitude of a rung, in units of the least place -/
def mag (r : Nat) : Nat := if r < B52 then r else (B52 + r % B52) <<< (r / B52 - 1)
theorem mag_low {r : Nat} (h : r < B52) : mag r = r := by simp [mag, h]
theorem mag_ge {r : Nat} (h : B52 ≤ r) : mag r = (B52 + r % B52) * 2 ^ (r / B52 - 1) := by
  unfold mag
  rw [if_neg (by omega), Nat.shiftLeft_eq]
theorem mag_bounds {r : Nat} (h : B52 ≤ r) : B52 * 2 ^ (r / B52 - 1) ≤ mag r ∧ mag r < B52 * 2 ^ (r / B52) := by
  rw [mag_ge h]
  have h1 : 1 ≤ r / B52 := (Nat.one_le_div_iff (by decide)).2 h
  have h2 : r % B52 < B52 := Nat.mod_lt _ (by decide)
  have h3 : 0 < 2 ^ (r / B52 - 1) := Nat.pow_pos (by decide)
  refine ⟨Nat.mul_le_mul_right _ (by omega), ?_⟩
  have h4 : 2 ^ (r / B52) = 2 * 2 ^ (r / B52 - 1) := by
    rw [← Nat.pow_succ', show (r / B52 - 1).succ = r / B52 from by omega]
  rw [h4, ← Nat.mul_assoc]
  exact Nat.mul_lt_mul_of_pos_right (by omega) h3
theorem mag_mono {r s : Nat} (h : r < s) : mag r < mag s := by
  by_cases hs : s < B52
  · rw [mag_low hs, mag_low (by omega)]; exact h
  · have hs' : B52 ≤ s := by omega
    have b2 := mag_bounds hs'
    have h1 : 1 ≤ s / B52 := (Nat.one_le_div_iff (by decide)).2 hs'
    have h3 : 1 ≤ 2 ^ (s / B52 - 1) := Nat.pow_pos (by decide)
    by_cases hr : r < B52
    · rw [mag_low hr]
      have : B52 * 1 ≤ B52 * 2 ^ (s / B52 - 1) := Nat.mul_le_mul_left _ h3
      omega
    · have hr' : B52 ≤ r := by omega
      have b1 := mag_bounds hr'
      have hd : r / B52 ≤ s / B52 := Nat.div_le_div_right (by omega)
      by_cases e : r / B52 = s / B52
      · rw [mag_ge hr', mag_ge hs', e]
        refine Nat.mul_lt_mul_of_pos_right ?_ h3
        have e1 := Nat.div_add_mod r B52
        have e2 := Nat.div_add_mod s B52
        rw [e] at e1
        omega
      · have hl : r / B52 ≤ s / B52 - 1 := by omega
        have hp : 2 ^ (r / B52) ≤ 2 ^ (s / B52 - 1) := Nat.pow_le_pow_right (by decide) hl
        have := Nat.mul_le_mul_left B52 hp
        omega
theorem mag_inj {r s : Nat} (h : mag r = mag s) : r = s := by
  rcases Nat.lt_trichotomy r s with h1 | h1 | h1
  · have := mag_mono h1; omega
  · exact h1
  · have := mag_mono h1; omega
end Go.Proofs.YtfkghfmgeholeaaGreatDoor
namespace Go.Proofs.YtfkghfmgeholeaaGreatDoor
open Ieee

def negW (w : Nat) : Bool := w / B63 % 2 == 1
def rungW (w : Nat) : Nat := w % B63
/-- a word that is a NaN -/
def nanW (w : Nat) : Bool := decide (Inf < rungW w)
/-- the signed rung -/
def sv (w : Nat) : Int := if negW w then -(rungW w : Int) else rungW w
def sm (w : Nat) : Int := if negW w then -(mag (rungW w) : Int) else mag (rungW w)

theorem cmp_congr {a b c d : Int} (h1 : a < b ↔ c < d) (h2 : a = b ↔ c = d) : compare a b = compare c d := by
  show compareOfLessAndEq a b = compareOfLessAndEq c d
  unfold compareOfLessAndEq
  by_cases e1 : a < b
  · rw [if_pos e1, if_pos (h1.1 e1)]
  · rw [if_neg e1, if_neg (fun h => e1 (h1.2 h))]
    by_cases e2 : a = b
    · rw [if_pos e2, if_pos (h2.1 e2)]
    · rw [if_neg e2, if_neg (fun h => e2 (h2.2 h))]
theorem cmp_lt {a b : Int} (h : a < b) : compare a b = .lt := by show compareOfLessAndEq a b = _; unfold compareOfLessAndEq; rw [if_pos h]
theorem cmp_gt {a b : Int} (h : b < a) : compare a b = .gt := by show compareOfLessAndEq a b = _; unfold compareOfLessAndEq; rw [if_neg (by omega), if_neg (by omega)]
theorem cmp_eq {a b : Int} (h : a = b) : compare a b = .eq := by show compareOfLessAndEq a b = _; unfold compareOfLessAndEq; rw [if_neg (by omega), if_pos h]

theorem sm_lt {x y : Nat} : sm x < sm y ↔ sv x < sv y := by
  unfold sm sv
  have hm : ∀ a b : Nat, a < b → mag a < mag b := fun a b h => mag_mono h
  have h0 : mag 0 = 0 := mag_low (by decide)
  have hle : ∀ a b : Nat, a ≤ b → mag a ≤ mag b := fun a b h => by
    rcases Nat.lt_or_eq_of_le h with h | h
    · exact Nat.le_of_lt (hm _ _ h)
    · rw [h]; exact Nat.le_refl _
  have key : ∀ a b : Nat, mag a < mag b ↔ a < b := fun a b => ⟨fun h => by
    by_cases e : a < b
    · exact e
    · have := hle b a (by omega); omega, hm a b⟩
  have k0 : ∀ a : Nat, mag a = 0 ↔ a = 0 := fun a => ⟨fun h => by
    by_cases e : a = 0
    · exact e
    · have := hm 0 a (by omega); omega, fun h => by rw [h, h0]⟩
  have k1 := key (rungW x) (rungW y)
  have k2 := key (rungW y) (rungW x)
  have k3 := k0 (rungW x)
  have k4 := k0 (rungW y)
  cases negW x <;> cases negW y <;> simp only [Bool.false_eq_true, if_false, if_true] <;> omega
theorem sm_eq {x y : Nat} : sm x = sm y ↔ sv x = sv y := by
  have h1 := @sm_lt x y
  have h2 := @sm_lt y x
  omega

/-- what a finite word reads as -/
theorem read_num {w : Nat} (h : rungW w < Inf) : ∃ m u : Nat, double.read w = .number (negW w) m ((u : Int) - 1074) ∧ mag (rungW w) = m * 2 ^ u := by
  have hs : double.signWeight = B63 := by decide
  have hb : double.binade = B52 := by decide
  have hi : double.infRung = Inf := by decide
  have hl : double.leastPlace = -1074 := by decide
  unfold Format.read
  simp only [hs, hb, hi, hl]
  by_cases h1 : rungW w < B52
  · refine ⟨rungW w, 0, ?_, ?_⟩
    · have h1' : w % B63 < B52 := h1
      rw [if_pos h1']
      simp [negW, rungW]
    · rw [mag_low h1]; simp
  · have h1' : ¬ w % B63 < B52 := h1
    have h2' : w % B63 < Inf := h
    refine ⟨B52 + rungW w % B52, rungW w / B52 - 1, ?_, ?_⟩
    · rw [if_neg h1', if_pos h2']
      show Datum.number _ _ _ = Datum.number _ _ _
      congr 1
    · exact mag_ge (by omega)
theorem read_inf {w : Nat} (h : rungW w = Inf) : double.read w = .infinity (negW w) := by
  have hs : double.signWeight = B63 := by decide
  have hb : double.binade = B52 := by decide
  have hi : double.infRung = Inf := by decide
  unfold Format.read
  simp only [hs, hb, hi]
  have h' : w % B63 = Inf := h
  rw [if_neg (by rw [h']; decide), if_neg (by omega), if_pos h']
  rfl
theorem read_nan {w : Nat} (h : Inf < rungW w) : double.read w = .nan (negW w) (rungW w - Inf) := by
  have hs : double.signWeight = B63 := by decide
  have hb : double.binade = B52 := by decide
  have hi : double.infRung = Inf := by decide
  unfold Format.read
  simp only [hs, hb, hi]
  have h' : Inf < w % B63 := h
  rw [if_neg (by unfold Inf B52 at *; omega), if_neg (by omega), if_neg (by omega)]
  rfl

theorem order_nan_left {x y : Nat} (h : Inf < rungW x) : double.order x y = none := by
  unfold Format.order; rw [read_nan h]; rfl
theorem order_nan_right {x y : Nat} (h : Inf < rungW y) : double.order x y = none := by
  unfold Format.order; rw [read_nan h]
  cases double.read x <;> rfl
theorem signed_scale (s : Bool) (m a b : Nat) : signed s m a * (2 ^ b : Nat) = if s then -((m * 2 ^ (a + b) : Nat) : Int) else ((m * 2 ^ (a + b) : Nat) : Int) := by
  unfold signed
  rw [Nat.shiftLeft_eq, Nat.pow_add, ← Nat.mul_assoc]
  cases s
  · simp only [Bool.false_eq_true, if_false]; rw [← Int.natCast_mul]
  · simp only [if_true]; rw [Int.neg_mul, ← Int.natCast_mul]
theorem sv_inf {w : Nat} (h : rungW w = Inf) : sv w = if negW w then -(Inf : Int) else Inf := by unfold sv; rw [h]
theorem sv_fin {w : Nat} (h : rungW w < Inf) : -(Inf : Int) < sv w ∧ sv w < Inf := by unfold sv; split <;> omega
/-- words that are no NaN stand as their signed rungs do -/
theorem order_word {x y : Nat} (hx : rungW x ≤ Inf) (hy : rungW y ≤ Inf) : double.order x y = some (compare (sv x) (sv y)) := by
  unfold Format.order
  rcases Nat.lt_or_eq_of_le hx with h1 | h1 <;> rcases Nat.lt_or_eq_of_le hy with h2 | h2
  · obtain ⟨m, i, rx, ex⟩ := read_num h1
    obtain ⟨n, j, ry, ey⟩ := read_num h2
    rw [rx, ry]
    unfold Datum.order
    simp only
    congr 1
    have hsx : ∃ b : Nat, (min ((i : Int) - 1074) ((j : Int) - 1074)) = (b : Int) - 1074 ∧ b ≤ i ∧ b ≤ j := ⟨min i j, by omega, Nat.min_le_left _ _, Nat.min_le_right _ _⟩
    obtain ⟨b, hb, hbi, hbj⟩ := hsx
    rw [hb, show ((i : Int) - 1074 - ((b : Int) - 1074)).toNat = i - b from by omega, show ((j : Int) - 1074 - ((b : Int) - 1074)).toNat = j - b from by omega]
    have e1 := signed_scale (negW x) m (i - b) b
    have e2 := signed_scale (negW y) n (j - b) b
    rw [show i - b + b = i from by omega, ← ex] at e1
    rw [show j - b + b = j from by omega, ← ey] at e2
    have hp : (0 : Int) < ((2 ^ b : Nat) : Int) := by exact_mod_cast Nat.pow_pos (by decide)
    have e1' : signed (negW x) m (i - b) * ((2 ^ b : Nat) : Int) = sm x := e1
    have e2' : signed (negW y) n (j - b) * ((2 ^ b : Nat) : Int) = sm y := e2
    have a1 : signed (negW x) m (i - b) < signed (negW y) n (j - b) ↔ sm x < sm y := by
      rw [← e1', ← e2']
      exact ⟨fun h => Int.mul_lt_mul_of_pos_right h hp, fun h => Int.lt_of_mul_lt_mul_right h (Int.le_of_lt hp)⟩
    have a2 : signed (negW x) m (i - b) = signed (negW y) n (j - b) ↔ sm x = sm y := by
      rw [← e1', ← e2']
      exact ⟨fun h => by rw [h], fun h => Int.eq_of_mul_eq_mul_right (by omega) h⟩
    exact cmp_congr (a1.trans sm_lt) (a2.trans sm_eq)
  · obtain ⟨m, i, rx, ex⟩ := read_num h1
    rw [rx, read_inf h2]
    unfold Datum.order
    have a := sv_fin h1
    have b := sv_inf h2
    cases hn : negW y
    · rw [hn] at b; simp only [Bool.false_eq_true, if_false] at b ⊢; rw [cmp_lt (by omega)]
    · rw [hn] at b; simp only [if_true] at b ⊢; rw [cmp_gt (by omega)]
  · obtain ⟨m, i, ry, ey⟩ := read_num h2
    rw [ry, read_inf h1]
    unfold Datum.order
    have a := sv_fin h2
    have b := sv_inf h1
    cases hn : negW x
    · rw [hn] at b; simp only [Bool.false_eq_true, if_false] at b ⊢; rw [cmp_gt (by omega)]
    · rw [hn] at b; simp only [if_true] at b ⊢; rw [cmp_lt (by omega)]
  · rw [read_inf h1, read_inf h2]
    unfold Datum.order
    have a0 : (0 : Nat) < Inf := by decide
    have a := sv_inf h1
    have b := sv_inf h2
    cases hn : negW x <;> cases hm : negW y <;> rw [hn] at a <;> rw [hm] at b <;> simp only [Bool.false_eq_true, if_false, if_true] at a b
    · rw [cmp_eq (a := sv x) (b := sv y) (by omega)]; rfl
    · rw [cmp_gt (a := sv x) (b := sv y) (by omega)]; rfl
    · rw [cmp_lt (a := sv x) (b := sv y) (by omega)]; rfl
    · rw [cmp_eq (a := sv x) (b := sv y) (by omega)]; rfl
end Go.Proofs.YtfkghfmgeholeaaGreatDoor
namespace Go.Proofs.YtfkghfmgeholeaaGreatDoor
open Ieee

abbrev R53 : Nat := 4845873199050653696
/-- one, in units of the least place -/
def pw (n : Nat) : Nat := 2 ^ n
def U : Nat := pw 1074
theorem pw_pos (n : Nat) : 0 < pw n := Nat.pow_pos (by decide)
theorem U_pos : 0 < U := pw_pos 1074
theorem pw_add (n k : Nat) : 2 ^ (n + k) = 2 ^ n * pw k := Nat.pow_add 2 n k
theorem pw_add' (n k : Nat) : pw (n + k) = 2 ^ n * 2 ^ k := Nat.pow_add 2 n k
theorem pow_split (a : Nat) (h : 1074 ≤ a) : 2 ^ a = 2 ^ (a - 1074) * U := by
  have := pw_add (a - 1074) 1074
  rwa [Nat.sub_add_cancel h] at this
theorem U_split (b : Nat) (h : b ≤ 1074) : U = 2 ^ (1074 - b) * 2 ^ b := by
  have := pw_add' (1074 - b) b
  rwa [Nat.sub_add_cancel h] at this
theorem cut_zero (s : Bool) (n drop : Nat) : Toward.zero.cut s n drop = n / 2 ^ drop := by
  unfold Toward.cut
  simp only [Bool.toNat_false, Nat.add_zero]
  rw [Nat.shiftLeft_eq, Nat.one_mul]
  by_cases h : drop ≤ n.log2 + 2
  · rw [Nat.min_eq_left h]
  · rw [Nat.min_eq_right (by omega)]
    have h1 : n < 2 ^ (n.log2 + 1) := Nat.lt_log2_self
    have h2 : 2 ^ (n.log2 + 1) ≤ 2 ^ (n.log2 + 2) := Nat.pow_le_pow_right (by decide) (by omega)
    have h3 : 2 ^ (n.log2 + 1) ≤ 2 ^ drop := Nat.pow_le_pow_right (by decide) (by omega)
    rw [Nat.div_eq_of_lt (by omega), Nat.div_eq_of_lt (by omega)]
theorem cut_even_exact (s : Bool) (n : Nat) : Toward.even.cut s n 0 = n := by
  unfold Toward.cut
  simp only [Nat.zero_min, Nat.shiftLeft_zero, Nat.div_one, Nat.mod_one, Nat.mul_zero]
  rfl
theorem near_zero (s : Bool) (p : Int) : double.nearest s 0 p = double.word s 0 := by unfold Format.nearest; rw [if_pos rfl]
theorem mag53 : mag R53 = 9007199254740992 * U := by
  rw [mag_ge (by decide), show R53 % B52 = 0 from by decide, show R53 / B52 - 1 = 1075 from by decide, Nat.add_zero, pow_split 1075 (by decide), show 1075 - 1074 = 1 from by decide, show (9007199254740992 : Nat) = B52 * 2 from by decide, Nat.mul_assoc, Nat.pow_one]
theorem near_exact (s : Bool) (T : Nat) (h1 : 1 ≤ T) (h2 : T ≤ 9007199254740992) : ∃ r, double.nearest s T 0 = double.word s r ∧ mag r = T * U ∧ r ≤ R53 := by
  have hb : double.binade = B52 := by decide
  have hi : double.infRung = Inf := by decide
  have hl : double.leastPlace = -1074 := by decide
  have hf : double.fractionBits = 52 := by decide
  have hL : T.log2 ≤ 53 := by
    have : T.log2 < 54 := (Nat.log2_lt (by omega)).2 (by omega)
    omega
  unfold Format.nearest
  rw [if_neg (by omega)]
  simp only [hb, hi, hl, hf]
  have hlast : max ((0 : Int) + (T.log2 : Int) - ((52 : Nat) : Int)) (-1074) = (T.log2 : Int) - 52 := by omega
  rw [hlast]
  by_cases hc : T.log2 ≤ 52
  · rw [show ((0 : Int) - ((T.log2 : Int) - 52)).toNat = 52 - T.log2 from by omega, show (((T.log2 : Int) - 52) - 0).toNat = 0 from by omega, cut_even_exact, Nat.shiftLeft_eq,
      show (((T.log2 : Int) - 52) - -1074).toNat = T.log2 + 1022 from by omega]
    have k1 : 2 ^ T.log2 ≤ T := Nat.log2_self_le (by omega)
    have k2 : T < 2 ^ (T.log2 + 1) := Nat.lt_log2_self
    have p1 : 2 ^ T.log2 * 2 ^ (52 - T.log2) = B52 := by rw [← Nat.pow_add, show T.log2 + (52 - T.log2) = 52 from by omega]
    have p2 : 2 ^ (T.log2 + 1) * 2 ^ (52 - T.log2) = 2 * B52 := by rw [← Nat.pow_add, show T.log2 + 1 + (52 - T.log2) = 53 from by omega]; decide
    have q1 : B52 ≤ T * 2 ^ (52 - T.log2) := by rw [← p1]; exact Nat.mul_le_mul_right _ k1
    have q2 : T * 2 ^ (52 - T.log2) < 2 * B52 := by rw [← p2]; exact Nat.mul_lt_mul_of_pos_right k2 (Nat.pow_pos (by decide))
    generalize hK : T * 2 ^ (52 - T.log2) = K at q1 q2 ⊢
    have hr : (T.log2 + 1022) * B52 + K ≤ R53 := by
      unfold R53 B52 at *
      omega
    refine ⟨(T.log2 + 1022) * B52 + K, ?_, ?_, hr⟩
    · rw [Nat.min_eq_left (Nat.le_trans hr (by decide))]
    · have hd : ((T.log2 + 1022) * B52 + K) / B52 = T.log2 + 1023 := by unfold B52 at *; omega
      have hm : ((T.log2 + 1022) * B52 + K) % B52 = K - B52 := by unfold B52 at *; omega
      rw [mag_ge (by unfold B52 at *; omega), hd, hm, show B52 + (K - B52) = K from by omega, ← hK, Nat.mul_assoc, U_split (52 - T.log2) (by omega), Nat.mul_comm (2 ^ (1074 - _)), show T.log2 + 1023 - 1 = 1074 - (52 - T.log2) from by omega]
  · have hL2 : T.log2 = 53 := by omega
    have hT : T = 9007199254740992 := by
      have := Nat.log2_self_le (n := T) (by omega)
      rw [hL2] at this
      omega
    subst hT
    refine ⟨R53, ?_, ?_, Nat.le_refl _⟩
    · have hcut : Toward.even.cut s 9007199254740992 1 = B52 := by
        unfold Toward.cut
        rw [hL2]
        simp only [show min 1 (53 + 2) = 1 from by decide, show (1 : Nat) <<< 1 = 2 from by decide]
        cases s <;> decide
      rw [hL2, show ((0 : Int) - (((53 : Nat) : Int) - 52)).toNat = 0 from by decide, show ((((53 : Nat) : Int) - 52) - 0).toNat = 1 from by decide, Nat.shiftLeft_zero, hcut, show ((((53 : Nat) : Int) - 52) - -1074).toNat = 1075 from by decide,
        show min (1075 * B52 + B52) Inf = R53 from by decide]
    · exact mag53

theorem word_neg (s : Bool) (r : Nat) (h : r < B63) : negW (double.word s r) = s ∧ rungW (double.word s r) = r := by
  have hs : double.signWeight = B63 := by decide
  unfold Format.word negW rungW
  rw [hs]
  cases s
  · simp only [Bool.false_eq_true, if_false]
    refine ⟨?_, Nat.mod_eq_of_lt h⟩
    rw [Nat.div_eq_of_lt h]; rfl
  · simp only [if_true]
    refine ⟨?_, ?_⟩
    · rw [show (B63 + r) / B63 = 1 from by unfold B63 at *; omega]; rfl
    · unfold B63 at *; omega

theorem mag_le {r s : Nat} (h : r ≤ s) : mag r ≤ mag s := by
  rcases Nat.lt_or_eq_of_le h with h | h
  · exact Nat.le_of_lt (mag_mono h)
  · rw [h]; exact Nat.le_refl _

/-- cut towards nought -/
def intW (w : Nat) : Nat := mag (rungW w) / U
theorem intW_le {w : Nat} (h : rungW w ≤ R53) : intW w ≤ 9007199254740992 := by
  unfold intW
  have h1 := mag_le h
  rw [mag53] at h1
  exact Nat.div_le_of_le_mul (by rw [Nat.mul_comm]; exact h1)
theorem int_num {m u : Nat} {s : Bool} : ((Datum.number s m ((u : Int) - 1074)).integral .zero) = .number s (m * 2 ^ u / U) 0 := by
  unfold Datum.integral
  simp only
  congr 1
  rw [cut_zero, Nat.shiftLeft_eq]
  by_cases h : 1074 ≤ u
  · rw [show ((u : Int) - 1074).toNat = u - 1074 from by omega, show (-((u : Int) - 1074)).toNat = 0 from by omega, Nat.pow_zero, Nat.div_one]
    rw [pow_split u h, ← Nat.mul_assoc, Nat.mul_div_cancel _ U_pos]
  · rw [show ((u : Int) - 1074).toNat = 0 from by omega, show (-((u : Int) - 1074)).toNat = 1074 - u from by omega, Nat.pow_zero, Nat.mul_one]
    rw [U_split u (by omega), Nat.mul_div_mul_right _ _ (Nat.pow_pos (by decide))]
theorem int_of {w : Nat} (h : rungW w < Inf) : (double.read w).integral .zero = .number (negW w) (intW w) 0 := by
  obtain ⟨m, u, hr, hm⟩ := read_num h
  rw [hr, int_num, intW, hm]
theorem toInt_of {w : Nat} (h : rungW w < Inf) : (double.read w).toInt .zero = some (if negW w then -(intW w : Int) else intW w) := by
  unfold Datum.toInt
  rw [int_of h]
  simp only [signed, Nat.shiftLeft_zero]

/-- is it whole -/
def wholeW (w : Nat) : Bool := decide (rungW w ≤ R53) && decide (mag (rungW w) % U = 0)
def wholeV (w : Nat) : Int := if wholeW w then (if negW w then -(intW w : Int) else intW w) else 0
def truncW (w : Nat) : Nat := double.write ((double.read w).integral .zero)
theorem trunc_order {w : Nat} (h : rungW w ≤ R53) : (double.order (truncW w) w != some .eq) = !(decide (mag (rungW w) % U = 0)) := by
  have hfin : rungW w < Inf := Nat.lt_of_le_of_lt h (by decide)
  have hT := intW_le h
  have key : ∃ r, truncW w = double.word (negW w) r ∧ mag r = intW w * U ∧ r ≤ R53 := by
    unfold truncW
    rw [int_of hfin]
    unfold Format.write
    simp only
    by_cases h0 : intW w = 0
    · refine ⟨0, by rw [h0]; exact near_zero _ _, by rw [h0, mag_low (by decide), Nat.zero_mul], by decide⟩
    · exact near_exact _ _ (by omega) hT
  obtain ⟨r, h1, h2, h3⟩ := key
  obtain ⟨n1, n2⟩ := word_neg (negW w) r (Nat.lt_of_le_of_lt h3 (by decide))
  rw [h1, order_word (by rw [n2]; exact Nat.le_trans h3 (by decide)) (Nat.le_of_lt hfin)]
  have hsv : sv (double.word (negW w) r) = sv w ↔ mag (rungW w) % U = 0 := by
    unfold sv
    rw [n1, n2]
    have a : r = rungW w ↔ mag (rungW w) % U = 0 := by
      have hd := Nat.div_add_mod (mag (rungW w)) (U)
      have hd' : U * intW w + mag (rungW w) % U = mag (rungW w) := hd
      rw [Nat.mul_comm, ← h2] at hd'
      constructor
      · intro e; rw [e] at hd'; omega
      · intro e; exact mag_inj (by omega)
    rw [← a]
    cases negW w <;> simp only [Bool.false_eq_true, if_false, if_true] <;> omega
  by_cases hz : mag (rungW w) % U = 0
  · rw [cmp_eq (hsv.2 hz), decide_eq_true hz]; rfl
  · have hne : sv (double.word (negW w) r) ≠ sv w := fun e => hz (hsv.1 e)
    rw [decide_eq_false hz]
    rcases Int.lt_or_gt_of_ne hne with hl | hl
    · rw [cmp_lt hl]; rfl
    · rw [cmp_gt hl]; rfl
end Go.Proofs.YtfkghfmgeholeaaGreatDoor
namespace Go.Proofs.YtfkghfmgeholeaaGreatDoor
open Go.RowKit

theorem from_bits (u : Int) (w : World) : Sem.run Tryz.prog (callFunc 80 #[.int .u64 u]) w = .ok (.value (.float .f64 u.toNat)) w := by
  rw [run_callFunc_extern Tryz.func80 (by kernel_rfl) (by kernel_rfl) (by kernel_rfl) (e := Extern.MathFloatBits.float64frombits) (by kernel_rfl)]
  rfl
theorem bits_of (b : Nat) (w : World) : Sem.run Tryz.prog (callFunc 134 #[.float .f64 b]) w = .ok (.value (.int .u64 (b : Int))) w := by
  rw [run_callFunc_extern Tryz.func134 (by kernel_rfl) (by kernel_rfl) (by kernel_rfl) (e := Extern.MathFloatBits.float64bits) (by kernel_rfl)]
  rfl
theorem order_self (b : Nat) : (FloatKind.f64.format.order b b != some .eq) = nanW b := by
  show (Ieee.double.order b b != some .eq) = nanW b
  cases hn : nanW b with
  | true => rw [order_nan_left (by simpa [nanW] using hn)]; rfl
  | false =>
    have h1 : rungW b ≤ Inf := by simpa [nanW] using hn
    rw [order_word h1 h1, cmp_eq rfl]; rfl
theorem isnan_any (w : World) (b : Nat) : Calls Tryz.prog 79 #[.float .f64 b] w fun e w' => e = .returned (.bool (nanW b)) ∧ w = w' := by
  have h0 := order_self b
  go_enter Tryz.func79, Tryz.ntmps79
  go_wp2_with fail
  go_ret
  exact ⟨rfl, rfl⟩
def canonF (u : Int) : Int := if nanW u.toNat then 9221120237041090560 else u
theorem canon_any (w : World) (u : Int) : Calls Tryz.prog 65 #[.int .u64 u] w fun e w' => e = .returned (.int .u64 (canonF u)) ∧ w = w' := by
  have hfb := from_bits u
  go_enter Tryz.func65, Tryz.ntmps65
  go_wp2_with fail
  refine (isnan_any _ _).mono ?_
  rintro e w' ⟨rfl, rfl⟩
  cases hn : nanW u.toNat with
  | true =>
    have Hc := Lib.hid (show canonF u = 9221120237041090560 by unfold canonF; rw [if_pos hn])
    clear hn
    go_wp2_with fail
    go_ret
    exact ⟨by rw [Hc.out]; rfl, rfl⟩
  | false =>
    have Hc := Lib.hid (show canonF u = u by unfold canonF; rw [if_neg (by simp [hn])])
    clear hn
    go_wp2_with fail
    go_ret
    exact ⟨by rw [Hc.out]; rfl, rfl⟩

/-- how two floats compare: what the call answers -/
def cmpF (a b : Nat) : Int := if nanW a || nanW b then 0 else if sv a < sv b then -1 else if sv b < sv a then 1 else 0
def cmpOk (a b : Nat) : Bool := !(nanW a || nanW b) && (decide (sv a < sv b) || decide (sv b < sv a) || decide (sv a = sv b))
theorem cmpOk_eq (a b : Nat) : cmpOk a b = !(nanW a || nanW b) := by
  unfold cmpOk
  have : (decide (sv a < sv b) || decide (sv b < sv a) || decide (sv a = sv b)) = true := by
    simp only [Bool.or_eq_true, decide_eq_true_eq]; omega
  rw [this, Bool.and_true]
theorem not_nan {a : Nat} (h : nanW a = false) : rungW a ≤ Inf := by simpa [nanW] using h
theorem compare_any (w : World) (a b : Int) : Calls Tryz.prog 91 #[.int .u64 a, .int .u64 b] w fun e w' => e = .returned (.tuple #[.int .i64 (cmpF a.toNat b.toNat), .bool (!(nanW a.toNat || nanW b.toNat))]) ∧ w = w' := by
  have hfa := from_bits a
  have hfb := from_bits b
  by_cases hn : (nanW a.toNat || nanW b.toNat) = true
  · have ho : Ieee.double.order a.toNat b.toNat = none := by
      rw [Bool.or_eq_true] at hn
      rcases hn with hn | hn
      · exact order_nan_left (by simpa [nanW] using hn)
      · exact order_nan_right (by simpa [nanW] using hn)
    have h1 : (FloatKind.f64.format.order a.toNat b.toNat == some .lt) = false := by show (Ieee.double.order a.toNat b.toNat == some .lt) = false; rw [ho]; rfl
    have h2 : (FloatKind.f64.format.order a.toNat b.toNat == some .gt) = false := by show (Ieee.double.order a.toNat b.toNat == some .gt) = false; rw [ho]; rfl
    have h3 : (FloatKind.f64.format.order a.toNat b.toNat == some .eq) = false := by show (Ieee.double.order a.toNat b.toNat == some .eq) = false; rw [ho]; rfl
    have hc : cmpF a.toNat b.toNat = 0 := by unfold cmpF; rw [if_pos hn]
    rw [hc, hn]
    clear hc hn ho
    go_enter Tryz.func91, Tryz.ntmps91
    go_wp2_with fail
    go_ret2
    exact ⟨rfl, rfl⟩
  · have hn' : (nanW a.toNat || nanW b.toNat) = false := by simpa using hn
    obtain ⟨n1, n2⟩ := Bool.or_eq_false_iff.1 hn'
    have ho : Ieee.double.order a.toNat b.toNat = _ := order_word (not_nan n1) (not_nan n2)
    have hcf : cmpF a.toNat b.toNat = if sv a.toNat < sv b.toNat then -1 else if sv b.toNat < sv a.toNat then 1 else 0 := by unfold cmpF; rw [if_neg hn]
    rw [hn']
    by_cases c1 : sv a.toNat < sv b.toNat
    · rw [cmp_lt c1] at ho
      have h1 : (FloatKind.f64.format.order a.toNat b.toNat == some .lt) = true := by show (Ieee.double.order a.toNat b.toNat == some .lt) = true; rw [ho]; rfl
      rw [if_pos c1] at hcf
      rw [hcf]
      clear hcf hn hn' n1 n2 ho c1
      go_enter Tryz.func91, Tryz.ntmps91
      go_wp2_with fail
      go_ret2
      exact ⟨rfl, rfl⟩
    · by_cases c2 : sv b.toNat < sv a.toNat
      · rw [cmp_gt c2] at ho
        have h1 : (FloatKind.f64.format.order a.toNat b.toNat == some .lt) = false := by show (Ieee.double.order a.toNat b.toNat == some .lt) = false; rw [ho]; rfl
        have h2 : (FloatKind.f64.format.order a.toNat b.toNat == some .gt) = true := by show (Ieee.double.order a.toNat b.toNat == some .gt) = true; rw [ho]; rfl
        rw [if_neg c1, if_pos c2] at hcf
        rw [hcf]
        clear hcf hn hn' n1 n2 ho c1 c2
        go_enter Tryz.func91, Tryz.ntmps91
        go_wp2_with fail
        go_ret2
        exact ⟨rfl, rfl⟩
      · rw [cmp_eq (by omega)] at ho
        have h1 : (FloatKind.f64.format.order a.toNat b.toNat == some .lt) = false := by show (Ieee.double.order a.toNat b.toNat == some .lt) = false; rw [ho]; rfl
        have h2 : (FloatKind.f64.format.order a.toNat b.toNat == some .gt) = false := by show (Ieee.double.order a.toNat b.toNat == some .gt) = false; rw [ho]; rfl
        have h3 : (FloatKind.f64.format.order a.toNat b.toNat == some .eq) = true := by show (Ieee.double.order a.toNat b.toNat == some .eq) = true; rw [ho]; rfl
        rw [if_neg c1, if_neg c2] at hcf
        rw [hcf]
        clear hcf hn hn' n1 n2 ho c1 c2
        go_enter Tryz.func91, Tryz.ntmps91
        go_wp2_with fail
        go_ret2
        exact ⟨rfl, rfl⟩
end Go.Proofs.YtfkghfmgeholeaaGreatDoor
namespace Go.Proofs.YtfkghfmgeholeaaGreatDoor
open Go.RowKit

theorem arch_trunc (b : Nat) (h : nanW b = false) (w : World) : Sem.run Tryz.prog (callFunc 162 #[.float .f64 b]) w = .ok (.value (.float .f64 (truncW b))) w := by
  rw [run_callFunc_extern Tryz.func162 (by kernel_rfl) (by kernel_rfl) (by kernel_rfl) (e := Extern.MathFloor.toIntegral "math.archTrunc" .zero) (by kernel_rfl)]
  have key : Sem.run Tryz.prog (Extern.MathFloor.toIntegral "math.archTrunc" .zero #[.float .f64 b]) w = .ok (.float .f64 (truncW b)) w := by
    have hle := not_nan h
    have hx : (∃ s m p, FloatKind.f64.decode b = .number s m p) ∨ ∃ s, FloatKind.f64.decode b = .infinity s := by
      rcases Nat.lt_or_eq_of_le hle with h1 | h1
      · obtain ⟨m, u, hr, _⟩ := read_num h1
        exact .inl ⟨_, _, _, hr⟩
      · exact .inr ⟨_, read_inf h1⟩
    have ht : truncW b = FloatKind.f64.encode ((FloatKind.f64.decode b).integral .zero) := rfl
    rw [ht]
    delta Extern.MathFloor.toIntegral
    refine Eq.trans (show _ = Sem.run Tryz.prog (match FloatKind.f64.decode b with | .nan s t => _ | d => pure (.float .f64 (FloatKind.f64.encode (d.integral .zero)))) w from rfl) ?_
    generalize FloatKind.f64.decode b = d at hx
    rcases hx with ⟨s, m, p, rfl⟩ | ⟨s, rfl⟩ <;> rfl
  rw [key]; rfl
theorem trunc_any (w : World) (b : Nat) (h : nanW b = false) : Calls Tryz.prog 145 #[.float .f64 b] w fun e w' => e = .returned (.float .f64 (truncW b)) ∧ w = w' := by
  have ht := arch_trunc b h
  clear h
  go_enter Tryz.func145, Tryz.ntmps145
  go_wp2_with fail
  go_ret
  exact ⟨rfl, rfl⟩

theorem ge_least (a : Nat) : (FloatKind.f64.format.order a 14069245235905429504 == some .gt || FloatKind.f64.format.order a 14069245235905429504 == some .eq) = (!(nanW a) && decide (-(R53 : Int) ≤ sv a)) := by
  show (Ieee.double.order a 14069245235905429504 == some .gt || Ieee.double.order a 14069245235905429504 == some .eq) = _
  have hc : sv 14069245235905429504 = -(R53 : Int) := by decide
  cases hn : nanW a with
  | true => rw [order_nan_left (by simpa [nanW] using hn)]; rfl
  | false =>
    rw [order_word (not_nan hn) (by decide), hc]
    rcases Int.lt_trichotomy (sv a) (-(R53 : Int)) with h | h | h
    · rw [cmp_lt h, decide_eq_false (by omega)]; rfl
    · rw [cmp_eq h, decide_eq_true (by omega)]; rfl
    · rw [cmp_gt h, decide_eq_true (by omega)]; rfl
theorem le_most (a : Nat) : (FloatKind.f64.format.order a 4845873199050653696 == some .lt || FloatKind.f64.format.order a 4845873199050653696 == some .eq) = (!(nanW a) && decide (sv a ≤ (R53 : Int))) := by
  show (Ieee.double.order a 4845873199050653696 == some .lt || Ieee.double.order a 4845873199050653696 == some .eq) = _
  have hc : sv 4845873199050653696 = (R53 : Int) := by decide
  cases hn : nanW a with
  | true => rw [order_nan_left (by simpa [nanW] using hn)]; rfl
  | false =>
    rw [order_word (not_nan hn) (by decide), hc]
    rcases Int.lt_trichotomy (sv a) (R53 : Int) with h | h | h
    · rw [cmp_lt h, decide_eq_true (by omega)]; rfl
    · rw [cmp_eq h, decide_eq_true (by omega)]; rfl
    · rw [cmp_gt h, decide_eq_false (by omega)]; rfl
theorem in_range (a : Nat) : ((!(nanW a) && decide (-(R53 : Int) ≤ sv a)) && (!(nanW a) && decide (sv a ≤ (R53 : Int)))) = decide (rungW a ≤ R53) := by
  have hRI : (R53 : Nat) < Inf := by decide
  by_cases h : rungW a ≤ R53
  · have hn : nanW a = false := by unfold nanW; simp; omega
    rw [hn, decide_eq_true h]
    have : -(R53 : Int) ≤ sv a ∧ sv a ≤ R53 := by unfold sv; split <;> omega
    rw [decide_eq_true this.1, decide_eq_true this.2]; rfl
  · rw [decide_eq_false h]
    by_cases hn : nanW a = true
    · simp [hn]
    · have : ¬ (-(R53 : Int) ≤ sv a ∧ sv a ≤ R53) := by unfold sv; split <;> omega
      by_cases c1 : -(R53 : Int) ≤ sv a
      · rw [decide_eq_false (p := sv a ≤ (R53 : Int)) (by omega)]; simp
      · rw [decide_eq_false c1]; simp
theorem conv_int (a : Nat) (h : rungW a ≤ R53) (w : World) : (convert 117 3 (.float .f64 a)).run Tryz.prog w = .ok (.int .i64 (if negW a then -(intW a : Int) else intW a)) w := by
  refine run_convert_float_int w 117 3 .f64 .i64 a _ (by kernel_rfl) Tryz.underlying3 ?_
  unfold floatToIntVal
  have ht : (FloatKind.f64.decode a).toInt .zero = some (if negW a then -(intW a : Int) else intW a) := toInt_of (Nat.lt_of_le_of_lt h (by decide))
  rw [ht]
  have hb := intW_le h
  simp only
  rw [if_pos]
  show (-9223372036854775808 : Int) ≤ _ ∧ _ ≤ (9223372036854775807 : Int)
  split <;> omega
theorem toint_any (w : World) (u : Int) : Calls Tryz.prog 128 #[.int .u64 u] w fun e w' => e = .returned (.tuple #[.int .i64 (wholeV u.toNat), .bool (wholeW u.toNat)]) ∧ w = w' := by
  have hfb := from_bits u
  have h1 := ge_least u.toNat
  have h2 := le_most u.toNat
  have h3 := in_range u.toNat
  generalize hA : (!(nanW u.toNat) && decide (-(R53 : Int) ≤ sv u.toNat)) = A at h1 h3
  generalize hB : (!(nanW u.toNat) && decide (sv u.toNat ≤ (R53 : Int))) = B at h2 h3
  clear hA hB
  by_cases hr : rungW u.toNat ≤ R53
  · rw [decide_eq_true hr, Bool.and_eq_true] at h3
    obtain ⟨rfl, rfl⟩ := h3
    have hn : nanW u.toNat = false := by
      have hRI : (R53 : Nat) < Inf := by decide
      unfold nanW; simp; omega
    have h4 := trunc_order hr
    have Hn := Lib.hid hn
    have hcv := conv_int u.toNat hr
    cases hw : decide (mag (rungW u.toNat) % U = 0) with
    | true =>
      have hW : wholeW u.toNat = true := by unfold wholeW; rw [hw, decide_eq_true hr]; rfl
      have hV : wholeV u.toNat = if negW u.toNat then -(intW u.toNat : Int) else intW u.toNat := by unfold wholeV; rw [if_pos hW]
      rw [hw] at h4
      have h5 : (FloatKind.f64.format.order (truncW u.toNat) u.toNat != some .eq) = false := h4
      rw [← hV] at hcv
      rw [hW]
      clear hw hW hV h4 hn hr
      go_enter Tryz.func128, Tryz.ntmps128
      go_wp2_with fail
      refine (trunc_any _ _ Hn.out).mono ?_
      rintro e w' ⟨rfl, rfl⟩
      go_wp2_with fail
      go_ret2
      exact ⟨rfl, rfl⟩
    | false =>
      have hW : wholeW u.toNat = false := by unfold wholeW; rw [hw, Bool.and_false]
      have hV : wholeV u.toNat = 0 := by unfold wholeV; rw [if_neg (by simp [hW])]
      rw [hw] at h4
      have h5 : (FloatKind.f64.format.order (truncW u.toNat) u.toNat != some .eq) = true := h4
      rw [hW, hV]
      clear hw hW hV h4 hn hr hcv
      go_enter Tryz.func128, Tryz.ntmps128
      go_wp2_with fail
      refine (trunc_any _ _ Hn.out).mono ?_
      rintro e w' ⟨rfl, rfl⟩
      go_wp2_with fail
      go_ret2
      exact ⟨rfl, rfl⟩
  · have hW : wholeW u.toNat = false := by unfold wholeW; rw [decide_eq_false hr, Bool.false_and]
    have hV : wholeV u.toNat = 0 := by unfold wholeV; rw [if_neg (by simp [hW])]
    rw [decide_eq_false hr] at h3
    rw [hW, hV]
    clear hW hV hr
    cases A with
    | false =>
      clear h3 h2
      go_enter Tryz.func128, Tryz.ntmps128
      go_wp2_with fail
      go_ret2
      exact ⟨rfl, rfl⟩
    | true =>
      rw [Bool.true_and] at h3
      subst h3
      go_enter Tryz.func128, Tryz.ntmps128
      go_wp2_with fail
      go_ret2
      exact ⟨rfl, rfl⟩
end Go.Proofs.YtfkghfmgeholeaaGreatDoor
namespace Go.Proofs.YtfkghfmgeholeaaGreatDoor
open Go.RowKit

def fromW (n : Int) : Nat := floatOfInt .f64 n
def inR (n : Int) : Bool := decide (-9007199254740992 ≤ n) && decide (n ≤ 9007199254740992)
def fromV (n : Int) : Int := if inR n then (fromW n : Int) else 0
theorem fromint_any (w : World) (n : Int) : Calls Tryz.prog 138 #[.int .i64 n] w fun e w' => e = .returned (.tuple #[.int .u64 (fromV n), .bool (inR n)]) ∧ w = w' := by
  have hb := bits_of (fromW n)
  unfold fromW at hb
  by_cases h1 : n < -9007199254740992
  · have h2 : inR n = false := by unfold inR; rw [decide_eq_false (by omega), Bool.false_and]
    have h3 : fromV n = 0 := by unfold fromV; rw [if_neg (by simp [h2])]
    rw [h2, h3]
    clear h2 h3 hb
    go_enter Tryz.func138, Tryz.ntmps138
    go_wp2_with fail
    go_ret2
    exact ⟨rfl, rfl⟩
  · by_cases h4 : 9007199254740992 < n
    · have h2 : inR n = false := by unfold inR; rw [decide_eq_false (p := n ≤ _) (by omega), Bool.and_false]
      have h3 : fromV n = 0 := by unfold fromV; rw [if_neg (by simp [h2])]
      rw [h2, h3]
      clear h2 h3 hb
      go_enter Tryz.func138, Tryz.ntmps138
      go_wp2_with fail
      go_ret2
      exact ⟨rfl, rfl⟩
    · have h2 : inR n = true := by unfold inR; rw [decide_eq_true (by omega), decide_eq_true (by omega)]; rfl
      have h3 : fromV n = fromW n := by unfold fromV; rw [if_pos h2]
      rw [h2, h3]
      clear h2 h3
      go_enter Tryz.func138, Tryz.ntmps138
      go_wp2_with fail
      go_ret2
      exact ⟨rfl, rfl⟩

theorem negW_lt {b : Nat} (h : b < 18446744073709551616) : negW b = decide (B63 ≤ b) := by
  unfold negW
  by_cases e : B63 ≤ b
  · rw [decide_eq_true e, show b / B63 = 1 from by unfold B63 at *; omega]; rfl
  · rw [decide_eq_false e, show b / B63 = 0 from Nat.div_eq_of_lt (by omega)]; rfl
theorem signbit_any (w : World) (b : Nat) (h : b < 18446744073709551616) : Calls Tryz.prog 130 #[.float .f64 b] w fun e w' => e = .returned (.bool (negW b)) ∧ w = w' := by
  have hb := bits_of b
  rw [negW_lt h]
  by_cases e : B63 ≤ b
  · rw [decide_eq_true e]
    have hw : wrap64 (b : Int) < 0 := by unfold wrap64 B63 at *; omega
    clear e
    go_enter Tryz.func130, Tryz.ntmps130
    go_wp2_with fail
    go_ret
    exact ⟨by simp [hw], rfl⟩
  · rw [decide_eq_false e]
    have hw : ¬ wrap64 (b : Int) < 0 := by unfold wrap64 B63 at *; omega
    clear e
    go_enter Tryz.func130, Tryz.ntmps130
    go_wp2_with fail
    go_ret
    exact ⟨by simp [hw], rfl⟩

def flipW (b : Nat) : Nat := b ^^^ 9223372036854775808
theorem flip_neg (b : Nat) : negW (flipW b) = !(negW b) := by
  unfold negW flipW
  have h := Nat.xor_div_two_pow (a := b) (b := 2 ^ 63) (n := 63)
  rw [show (9223372036854775808 : Nat) = 2 ^ 63 from by decide, show B63 = 2 ^ 63 from by decide, h, show (2 : Nat) ^ 63 / 2 ^ 63 = 1 from by decide]
  have h2 := Nat.xor_mod_two_pow (a := b / 2 ^ 63) (b := 1) (n := 1)
  rw [Nat.pow_one] at h2
  rw [h2]
  rcases Nat.mod_two_eq_zero_or_one (b / 2 ^ 63) with e | e <;> rw [e] <;> rfl
theorem flip_rung (b : Nat) : rungW (flipW b) = rungW b := by
  unfold rungW flipW
  have h := Nat.xor_mod_two_pow (a := b) (b := 2 ^ 63) (n := 63)
  rw [show (9223372036854775808 : Nat) = 2 ^ 63 from by decide, show B63 = 2 ^ 63 from by decide, h, show (2 : Nat) ^ 63 % 2 ^ 63 = 0 from by decide, Nat.xor_zero]

def infW (s : Bool) (b : Nat) : Bool := (negW b == s) && (rungW b == Inf)
theorem gt_max (a : Nat) : (FloatKind.f64.format.order a 9218868437227405311 == some .gt) = infW false a := by
  show (Ieee.double.order a 9218868437227405311 == some .gt) = _
  unfold infW
  have hc : sv 9218868437227405311 = (9218868437227405311 : Int) := by decide
  cases hn : nanW a with
  | true =>
    have hn' : Inf < rungW a := by simpa [nanW] using hn
    rw [order_nan_left hn', show (rungW a == Inf) = false from by simp; omega, Bool.and_false]; rfl
  | false =>
    have hle := not_nan hn
    rw [order_word hle (by decide), hc]
    have hI : (Inf : Int) = 9218868437227405312 := by decide
    cases hs : negW a with
    | true =>
      have : sv a ≤ 0 := by unfold sv; rw [if_pos hs]; omega
      rw [cmp_lt (by omega)]; rfl
    | false =>
      have hv : sv a = rungW a := by unfold sv; rw [if_neg (by simp [hs])]
      by_cases e : rungW a = Inf
      · rw [cmp_gt (by rw [hv, e]; omega), e]; rfl
      · rw [show (rungW a == Inf) = false from by simpa using e]
        have : sv a ≤ 9218868437227405311 := by rw [hv]; omega
        rcases Int.lt_or_eq_of_le this with h | h
        · rw [cmp_lt h]; rfl
        · rw [cmp_eq h]; rfl
theorem isinf_pos (w : World) (b : Nat) : Calls Tryz.prog 129 #[.float .f64 b, .int .i64 1] w fun e w' => e = .returned (.bool (infW false b)) ∧ w = w' := by
  have hg := gt_max b
  go_enter Tryz.func129, Tryz.ntmps129
  go_wp2_with fail
  go_ret
  exact ⟨rfl, rfl⟩
theorem infW_flip (b : Nat) : infW false (flipW b) = infW true b := by
  unfold infW
  rw [flip_neg, flip_rung]
  cases negW b <;> rfl
theorem isinf_neg (w : World) (b : Nat) : Calls Tryz.prog 129 #[.float .f64 b, .int .i64 (-1)] w fun e w' => e = .returned (.bool (infW true b)) ∧ w = w' := by
  have hg := gt_max (flipW b)
  rw [infW_flip] at hg
  have hn : ∀ w : World, (Op.unary .neg (.float .f64 b)).run Tryz.prog w = .ok (.float .f64 (flipW b)) w := fun w => rfl
  go_enter Tryz.func129, Tryz.ntmps129
  go_wp2_with fail
  go_ret
  exact ⟨rfl, rfl⟩
end Go.Proofs.YtfkghfmgeholeaaGreatDoor
namespace Go.Proofs.YtfkghfmgeholeaaGreatDoor
open Go.RowKit

theorem nat_not (c : Nat) (h : c < 18446744073709551616) : 18446744073709551615 ^^^ c = 18446744073709551615 - c := by
  have h1 : (BitVec.allOnes 64 ^^^ BitVec.ofNat 64 c).toNat = 18446744073709551615 ^^^ c := by
    rw [BitVec.toNat_xor, BitVec.toNat_allOnes, BitVec.toNat_ofNat, Nat.mod_eq_of_lt (by simpa using h)]
  have h2 : (BitVec.allOnes 64 ^^^ BitVec.ofNat 64 c).toNat = 18446744073709551615 - c := by
    rw [BitVec.allOnes_xor, BitVec.toNat_not, BitVec.toNat_ofNat, Nat.mod_eq_of_lt (by simpa using h)]
  rw [← h1, h2]
theorem nat_top (c : Nat) (h : c < 9223372036854775808) : c ||| 9223372036854775808 = c + 9223372036854775808 := by
  have := Nat.two_pow_add_eq_or_of_lt (i := 63) (b := c) (by simpa using h) 1
  rw [Nat.mul_one] at this
  rw [Nat.or_comm, Nat.add_comm]
  exact this.symm
theorem bits_not {c : Int} (h0 : 0 ≤ c) (h1 : c < 18446744073709551616) : bits BinOp.xor .u64 IntKind.u64.max c = 18446744073709551615 - c := by
  obtain ⟨n, rfl⟩ := Int.eq_ofNat_of_zero_le h0
  have h := bits_xor_u64_nat 18446744073709551615 n (by decide) (by omega)
  rw [nat_not n (by omega)] at h
  have e : IntKind.u64.max = ((18446744073709551615 : Nat) : Int) := by decide
  rw [e, h]
  omega
theorem bits_top {c : Int} (h0 : 0 ≤ c) (h1 : c < 9223372036854775808) : bits BinOp.or .u64 c 9223372036854775808 = c + 9223372036854775808 := by
  obtain ⟨n, rfl⟩ := Int.eq_ofNat_of_zero_le h0
  have h := bits_or_u64_nat n 9223372036854775808 (by omega) (by decide)
  rw [nat_top n (by omega)] at h
  rw [show (9223372036854775808 : Int) = ((9223372036854775808 : Nat) : Int) from by decide, h]
  omega
def rankV (u : Int) : Int := if 9223372036854775808 ≤ canonF u then 18446744073709551615 - canonF u else canonF u + 9223372036854775808
theorem canon_range {u : Int} (h0 : 0 ≤ u) (h1 : u < 18446744073709551616) : 0 ≤ canonF u ∧ canonF u < 18446744073709551616 := by unfold canonF; split <;> omega
def cmp3 (a b : Int) : Int := if a < b then -1 else if b < a then 1 else 0
def ordF (a b : Int) : Int := cmp3 (rankV a) (rankV b)
end Go.Proofs.YtfkghfmgeholeaaGreatDoor
namespace Go.Proofs.YtfkghfmgeholeaaGreatDoor
open Go.RowKit

theorem bits_flip {a : Int} (h0 : 0 ≤ a) (h1 : a < 18446744073709551616) : bits BinOp.xor .u64 a 9223372036854775808 = (flipW a.toNat : Int) := by
  obtain ⟨n, rfl⟩ := Int.eq_ofNat_of_zero_le h0
  exact bits_xor_u64_nat n 9223372036854775808 (by omega) (by decide)
theorem flip_lt {n : Nat} (h : n < 18446744073709551616) : flipW n < 18446744073709551616 := by
  have := Nat.xor_lt_two_pow (x := n) (y := 9223372036854775808) (n := 64) (by omega) (by decide)
  exact this
theorem bits_clear {a : Int} (h0 : 0 ≤ a) (h1 : a < 18446744073709551616) : bits BinOp.andNot .u64 a 9223372036854775808 = a % 9223372036854775808 := by
  obtain ⟨n, rfl⟩ := Int.eq_ofNat_of_zero_le h0
  have e1 : (BitVec.ofInt 64 (n : Int)).toNat = n := by
    rw [BitVec.ofInt_natCast, BitVec.toNat_ofNat]; exact Nat.mod_eq_of_lt (by omega)
  have e2 : (~~~ (BitVec.ofInt 64 9223372036854775808)).toNat = 2 ^ 63 - 1 := by decide
  show IntKind.u64.wrap ((BitVec.ofInt 64 (n : Int) &&& ~~~ (BitVec.ofInt 64 9223372036854775808)).toNat : Int) = _
  rw [BitVec.toNat_and, e1, e2, Nat.and_two_pow_sub_one_eq_mod, IntKind.wrap_u64]
  omega
theorem sv_flip (n : Nat) : sv (flipW n) = -(sv n) := by
  unfold sv
  rw [flip_neg, flip_rung]
  cases negW n <;> simp
theorem nan_flip (n : Nat) : nanW (flipW n) = nanW n := by unfold nanW; rw [flip_rung]
theorem cmpF_flip (a b : Nat) : cmpF (flipW a) (flipW b) = -(cmpF a b) := by
  unfold cmpF
  rw [nan_flip, nan_flip, sv_flip, sv_flip]
  cases (nanW a || nanW b)
  · simp only [Bool.false_eq_true, if_false]
    split <;> split <;> (try split) <;> omega
  · rfl
theorem rank_num {u : Int} (h0 : 0 ≤ u) (h1 : u < 18446744073709551616) (hn : nanW u.toNat = false) : rankV u = 9223372036854775808 + sv u.toNat - (if negW u.toNat then 1 else 0) := by
  have hc : canonF u = u := by unfold canonF; rw [if_neg (by simp [hn])]
  unfold rankV
  rw [hc]
  have hr : (rungW u.toNat : Int) = u % 9223372036854775808 := by unfold rungW B63; omega
  unfold sv
  rw [negW_lt (by omega), hr]
  by_cases e : 9223372036854775808 ≤ u
  · rw [if_pos e, decide_eq_true (by unfold B63; omega)]
    simp only [if_true]
    omega
  · rw [if_neg e, decide_eq_false (by unfold B63; omega)]
    simp only [Bool.false_eq_true, if_false]
    omega
theorem rank_nan {u : Int} (hn : nanW u.toNat = true) : rankV u = 18444492273895866368 := by
  have hc : canonF u = 9221120237041090560 := by unfold canonF; rw [if_pos hn]
  unfold rankV
  rw [hc]
  decide
theorem rank_flip {n : Nat} (h : n < 18446744073709551616) (hn : nanW n = false) : rankV (flipW n : Int) = 18446744073709551615 - rankV (n : Int) := by
  have h2 := flip_lt h
  rw [rank_num (by omega) (by omega) (by rw [Int.toNat_natCast, nan_flip]; exact hn), rank_num (by omega) (by omega) (by rw [Int.toNat_natCast]; exact hn)]
  rw [Int.toNat_natCast, Int.toNat_natCast, sv_flip, flip_neg]
  cases negW n <;> simp <;> omega
theorem ordF_flip {a b : Nat} (ha : a < 18446744073709551616) (hb : b < 18446744073709551616) (na : nanW a = false) (nb : nanW b = false) : ordF (flipW a : Int) (flipW b : Int) = -(ordF (a : Int) (b : Int)) := by
  unfold ordF cmp3
  rw [rank_flip ha na, rank_flip hb nb]
  split <;> split <;> (try split) <;> (try split) <;> omega
/-- where numbers differ the order is theirs -/
theorem ordF_of_cmp {a b : Int} (a0 : 0 ≤ a) (a1 : a < 18446744073709551616) (b0 : 0 ≤ b) (b1 : b < 18446744073709551616) (na : nanW a.toNat = false) (nb : nanW b.toNat = false) (h : cmpF a.toNat b.toNat ≠ 0) : ordF a b = cmpF a.toNat b.toNat := by
  have hc : cmpF a.toNat b.toNat = if sv a.toNat < sv b.toNat then -1 else if sv b.toNat < sv a.toNat then 1 else 0 := by unfold cmpF; rw [na, nb]; rfl
  rw [hc] at h ⊢
  unfold ordF cmp3
  rw [rank_num a0 a1 na, rank_num b0 b1 nb]
  have ka : negW a.toNat = true → sv a.toNat ≤ 0 := fun e => by unfold sv; rw [if_pos e]; omega
  have ka' : negW a.toNat = false → 0 ≤ sv a.toNat := fun e => by unfold sv; rw [if_neg (by simp [e])]; omega
  have kb : negW b.toNat = true → sv b.toNat ≤ 0 := fun e => by unfold sv; rw [if_pos e]; omega
  have kb' : negW b.toNat = false → 0 ≤ sv b.toNat := fun e => by unfold sv; rw [if_neg (by simp [e])]; omega
  generalize sv a.toNat = x at *
  generalize sv b.toNat = y at *
  by_cases h1 : x < y
  · rw [if_pos h1]
    rw [if_pos]
    cases ea : negW a.toNat <;> cases eb : negW b.toNat <;> simp only [Bool.false_eq_true, if_false, if_true]
    · omega
    · have := ka' ea; have := kb eb; omega
    · omega
    · omega
  · rw [if_neg h1] at h ⊢
    by_cases h2 : y < x
    · rw [if_pos h2]
      have : 9223372036854775808 + y - (if negW b.toNat then 1 else 0) < 9223372036854775808 + x - (if negW a.toNat then 1 else 0) := by
        cases ea : negW a.toNat <;> cases eb : negW b.toNat <;> simp only [Bool.false_eq_true, if_false, if_true]
        · omega
        · omega
        · have := kb' eb; have := ka ea; omega
        · omega
      rw [if_neg (by omega), if_pos this]
    · rw [if_neg h2] at h
      exact absurd rfl h
theorem small_pos {m : Nat} (h : m < 9218868437227405312) : nanW m = false ∧ negW m = false ∧ sv m = m := by
  have hr : rungW m = m := Nat.mod_eq_of_lt (by unfold B63; omega)
  have hn : negW m = false := by unfold negW; rw [Nat.div_eq_of_lt (by unfold B63; omega)]; rfl
  refine ⟨?_, hn, ?_⟩
  · unfold nanW; rw [hr]; exact decide_eq_false (by unfold Inf; omega)
  · unfold sv; rw [if_neg (by simp [hn]), hr]
theorem next_cmp {m : Nat} (h : m < 9218868437227405311) : cmpF m (m + 1) = -1 ∧ ordF (m : Int) ((m + 1 : Nat) : Int) = -1 := by
  obtain ⟨a1, a2, a3⟩ := small_pos (m := m) (by omega)
  obtain ⟨b1, b2, b3⟩ := small_pos (m := m + 1) (by omega)
  have hc : cmpF m (m + 1) = -1 := by
    unfold cmpF
    rw [a1, b1, a3, b3]
    simp only [Bool.or_self, Bool.false_eq_true, if_false]
    rw [if_pos (by omega)]
  refine ⟨hc, ?_⟩
  have := ordF_of_cmp (a := (m : Int)) (b := ((m + 1 : Nat) : Int)) (by omega) (by omega) (by omega) (by omega) (by rw [Int.toNat_natCast]; exact a1) (by rw [Int.toNat_natCast]; exact b1) (by rw [Int.toNat_natCast, Int.toNat_natCast, hc]; decide)
  rw [this, Int.toNat_natCast, Int.toNat_natCast, hc]
end Go.Proofs.YtfkghfmgeholeaaGreatDoor
