/- Joined texts: Ff2; Ff3; Fp0; Fp1; Fp2; Fp3; Gl. -/
import Derived.Test.YtfkghfmgeholeaaGreatDoorGB
import Derived.Test.YtfkghfmgeholeaaGreatDoorGA
import Derived.Lib.AtoiTie
import Derived.Deep.QuietTactic
import Derived.BigQuiet
import Derived.Test.YtfkghfmgeholeaaGreatDoorRows
import Derived.ProofKit
import Derived.LaidMore
import Derived.Lay
import Derived.Stop.Joined
import Derived.Stop.LaidErr
import Derived.Lib.LaidTab
set_option linter.unusedVariables false
set_option linter.unusedSimpArgs false
namespace Go.Proofs.YtfkghfmgeholeaaGreatDoor
open Go.RowKit

theorem canon_nan (u : Int) : nanW (canonF u).toNat = nanW u.toNat := by
  unfold canonF
  cases h : nanW u.toNat with
  | true => rfl
  | false => rw [if_neg (by simp)]; exact h
theorem canon_canon (u : Int) : canonF (canonF u) = canonF u := by
  cases h : nanW u.toNat with
  | true =>
    have : canonF u = 9221120237041090560 := by unfold canonF; rw [if_pos h]
    rw [this]; decide
  | false =>
    have : canonF u = u := by unfold canonF; rw [if_neg (by simp [h])]
    rw [this, this]
theorem rank_canon (u : Int) : rankV (canonF u) = rankV u := by unfold rankV; rw [canon_canon]
theorem rank_inj {a b : Int} (a0 : 0 ≤ a) (a1 : a < 18446744073709551616) (b0 : 0 ≤ b) (b1 : b < 18446744073709551616) : rankV a = rankV b ↔ canonF a = canonF b := by
  obtain ⟨p0, p1⟩ := canon_range a0 a1
  obtain ⟨q0, q1⟩ := canon_range b0 b1
  unfold rankV
  split <;> split <;> omega
theorem ordF_canon (a b : Int) : ordF (canonF a) (canonF b) = ordF a b := by unfold ordF; rw [rank_canon, rank_canon]
theorem rank_low {u : Int} (h0 : 0 ≤ u) (h1 : u < 18446744073709551616) (hn : nanW u.toNat = false) : rankV u < 18444492273895866368 := by
  rw [rank_num h0 h1 hn]
  have hle := not_nan hn
  have hv : sv u.toNat ≤ 9218868437227405312 := by unfold sv Inf at *; split <;> omega
  split <;> omega
/-- how two unlike floats in canonical form stand -/
def ordR (A B : Int) : Int := if nanW A.toNat then 1 else if nanW B.toNat then -1 else if cmpF A.toNat B.toNat ≠ 0 then cmpF A.toNat B.toNat else if B < A then -1 else 1
theorem ordR_eq {A B : Int} (A0 : 0 ≤ A) (A1 : A < 18446744073709551616) (B0 : 0 ≤ B) (B1 : B < 18446744073709551616) (ca : canonF A = A) (cb : canonF B = B) (hne : A ≠ B) : ordF A B = ordR A B := by
  unfold ordR
  have hrk : rankV A ≠ rankV B := fun e => hne (by have := (rank_inj A0 A1 B0 B1).1 e; rwa [ca, cb] at this)
  cases na : nanW A.toNat with
  | true =>
    rw [if_pos rfl]
    have hra := rank_nan na
    cases nb : nanW B.toNat with
    | true => exact absurd (hra.trans (rank_nan nb).symm) hrk
    | false =>
      have := rank_low B0 B1 nb
      unfold ordF cmp3
      rw [if_neg (by omega), if_pos (by omega)]
  | false =>
    rw [if_neg (by simp)]
    cases nb : nanW B.toNat with
    | true =>
      rw [if_pos rfl]
      have hrb := rank_nan nb
      have := rank_low A0 A1 na
      unfold ordF cmp3
      rw [if_pos (by omega)]
    | false =>
      rw [if_neg (by simp)]
      by_cases hc : cmpF A.toNat B.toNat = 0
      · rw [if_neg (by simp [hc])]
        have hsv : sv A.toNat = sv B.toNat := by
          unfold cmpF at hc
          rw [na, nb] at hc
          simp only [Bool.or_self, Bool.false_eq_true, if_false] at hc
          split at hc
          · omega
          · split at hc <;> omega
        have ra := rank_num A0 A1 na
        have rb := rank_num B0 B1 nb
        rw [hsv] at ra
        rw [negW_lt (by omega)] at ra rb
        unfold B63 at ra rb
        unfold ordF cmp3
        by_cases ea : 9223372036854775808 ≤ A.toNat <;> by_cases eb : 9223372036854775808 ≤ B.toNat
        · simp only [decide_eq_true ea, decide_eq_true eb, if_true] at ra rb; omega
        · simp only [decide_eq_true ea, decide_eq_false eb, if_true, Bool.false_eq_true, if_false] at ra rb
          rw [if_pos (by omega), if_pos (by omega)]
        · simp only [decide_eq_false ea, decide_eq_true eb, if_true, Bool.false_eq_true, if_false] at ra rb
          rw [if_neg (by omega), if_pos (by omega), if_neg (by omega)]
        · simp only [decide_eq_false ea, decide_eq_false eb, Bool.false_eq_true, if_false] at ra rb; omega
      · rw [if_pos hc]
        exact ordF_of_cmp A0 A1 B0 B1 na nb hc
end Go.Proofs.YtfkghfmgeholeaaGreatDoor
namespace Go.Proofs.YtfkghfmgeholeaaGreatDoor
open Go.RowKit

/-- a whole number's word by its parts -/
theorem fromW_parts (n : Int) (a j e m : Nat) (h0 : n.natAbs = a) (h1 : a ≠ 0) (hle : a ≤ 9007199254740992) (h2 : m = a * 2 ^ j) (h3 : e + j = 1075) (h4 : 4503599627370496 ≤ m) (h5 : m < 9007199254740992) (hj : j ≤ 1074) :
    fromW n = (if n < 0 then B63 else 0) + (e * B52 + (m - B52)) := by
  obtain ⟨r, q1, q2, q3⟩ := fromW_spec n (by rw [h0]; exact hle)
  have hr : mag (e * B52 + (m - B52)) = mag r := by
    rw [mag_parts (e := e) (m := m - B52) rfl (by unfold B52; omega) (by omega), show B52 + (m - B52) = m from by unfold B52 at *; omega, q2, h0, h2, U_split j hj, show e - 1 = 1074 - j from by omega, Nat.mul_assoc, Nat.mul_comm (2 ^ j)]
  have hr2 := mag_inj hr
  rw [q1, ← hr2]
  have hs : Ieee.double.signWeight = B63 := by decide
  unfold Ieee.Format.word
  rw [hs]
  by_cases hn : n < 0
  · rw [decide_eq_true hn, if_pos hn, if_pos rfl]
  · rw [decide_eq_false hn, if_neg hn, if_neg (by decide), Nat.zero_add]
theorem fromW_top (n : Int) (h0 : n.natAbs = 9007199254740992) : fromW n = (if n < 0 then B63 else 0) + R53 := by
  obtain ⟨r, q1, q2, q3⟩ := fromW_spec n (by omega)
  have hr : mag R53 = mag r := by rw [q2, h0, mag53]
  have hr2 := mag_inj hr
  rw [q1, ← hr2]
  have hs : Ieee.double.signWeight = B63 := by decide
  unfold Ieee.Format.word
  rw [hs]
  by_cases hn : n < 0
  · rw [decide_eq_true hn, if_pos hn, if_pos rfl]
  · rw [decide_eq_false hn, if_neg hn, if_neg (by decide), Nat.zero_add]
/-- the state of the first loop -/
def FInv (a j m mm : Nat) (E : Int) : Prop := m = a * 2 ^ j ∧ m + mm = 9007199254740992 ∧ j ≤ 53 ∧ E = 1075 - (j : Int) ∧ (j = 0 ∨ m < 9007199254740992)
theorem FInv.next {a j m mm : Nat} {E : Int} (h : FInv a j m mm E) (ha : 1 ≤ a) (hm : m < 4503599627370496) : FInv a (j + 1) (m * 2) (mm - m) (E - 1) := by
  have hj : j ≤ 52 := by
    have h1 := h.1
    have h2 : 2 ^ j ≤ m := by rw [h1]; exact Nat.le_mul_of_pos_left _ ha
    have h3 : 2 ^ j < 2 ^ 52 := by omega
    have := (Nat.pow_lt_pow_iff_right (by decide : 1 < 2)).1 h3
    omega
  obtain ⟨q1, q2, q3, q4, q5⟩ := h
  exact ⟨by rw [q1, Nat.pow_succ, Nat.mul_assoc], by omega, by omega, by omega, by omega⟩
def FTop (mm : Nat) (x k : Value) : Prop := (mm = 1 ∧ x = .int .u64 9007199254740992 ∧ k = .int .u64 1075) ∨ (mm = 0 ∧ x = .int .u64 4503599627370496 ∧ k = .int .u64 1076)
end Go.Proofs.YtfkghfmgeholeaaGreatDoor
namespace Go.Proofs.YtfkghfmgeholeaaGreatDoor
open Go.RowKit

theorem hexd_dig (d : Nat) (h : d < 16) : hexd (dig d) = some d := by
  match d, h with
  | 0, _ => rfl
  | 1, _ => rfl
  | 2, _ => rfl
  | 3, _ => rfl
  | 4, _ => rfl
  | 5, _ => rfl
  | 6, _ => rfl
  | 7, _ => rfl
  | 8, _ => rfl
  | 9, _ => rfl
  | 10, _ => decide
  | 11, _ => decide
  | 12, _ => decide
  | 13, _ => decide
  | 14, _ => decide
  | 15, _ => decide
  | d + 16, h => omega
theorem pu16_hex (k : Nat) : ∀ acc u, acc * 16 ^ k + u % 16 ^ k < 18446744073709551616 → pu16 acc (hexN k u) = (acc * 16 ^ k + u % 16 ^ k, 0) := by
  induction k with
  | zero => intro acc u _; simp [hexN, pu16, Nat.mod_one]
  | succ k ih =>
    intro acc u h
    have hd : u / 16 ^ k % 16 < 16 := Nat.mod_lt _ (by decide)
    have hp : 0 < 16 ^ k := Nat.pow_pos (by decide)
    have hsplit : u % 16 ^ (k + 1) = u / 16 ^ k % 16 * 16 ^ k + u % 16 ^ k := by
      rw [Nat.pow_succ, Nat.mod_mul, Nat.add_comm, Nat.mul_comm]
    have e : (acc * 16 + u / 16 ^ k % 16) * 16 ^ k = acc * 16 ^ (k + 1) + u / 16 ^ k % 16 * 16 ^ k := by
      rw [Nat.add_mul, Nat.pow_succ, Nat.mul_assoc, Nat.mul_comm 16]
    unfold hexN pu16
    rw [hexd_dig _ hd]
    simp only
    rw [if_neg, ih _ _ (by rw [e]; omega), e, hsplit, Nat.add_assoc]
    intro hc
    have h1 : 1152921504606846976 * 16 ≤ acc * 16 ^ (k + 1) := by
      rw [Nat.pow_succ, Nat.mul_comm (16 ^ k), ← Nat.mul_assoc]
      exact Nat.le_trans (Nat.mul_le_mul_right 16 hc) (Nat.le_mul_of_pos_right _ hp)
    omega
theorem pu16_hex0 (u : Nat) (h : u < 18446744073709551616) : pu16 0 (hexN 16 u) = (u, 0) := by
  have hm : u % 16 ^ 16 = u := Nat.mod_eq_of_lt h
  have := pu16_hex 16 0 u (by rw [hm]; omega)
  rw [this, hm]
  simp

/-! ### numerals -/
theorem decFrom_append (a : List UInt8) : ∀ (acc n : Nat) (b : List UInt8), Lib.decFrom acc a = some n → Lib.decFrom acc (a ++ b) = Lib.decFrom n b := by
  induction a with
  | nil => intro acc n b h; injection h with h; subst h; rfl
  | cons c r ih =>
    intro acc n b h
    simp only [List.cons_append, Lib.decFrom] at h ⊢
    split
    · rename_i d hd
      rw [hd] at h
      exact ih _ _ _ h
    · rename_i hd
      rw [hd] at h
      cases h
theorem digit_byte (d : Nat) (h : d < 10) : Lib.digitVal (UInt8.ofNat (48 + d)) = some d := by
  match d, h with
  | 0, _ => rfl
  | 1, _ => rfl
  | 2, _ => rfl
  | 3, _ => rfl
  | 4, _ => rfl
  | 5, _ => rfl
  | 6, _ => rfl
  | 7, _ => rfl
  | 8, _ => rfl
  | 9, _ => rfl
  | d + 10, h => omega
theorem decFrom_dec (u : Nat) : Lib.decFrom 0 (Lib.decDigits u) = some u := by
  induction u using Nat.strongRecOn with
  | _ u ih =>
    rw [Lib.decDigits]
    split
    · rename_i h
      unfold Lib.decFrom
      rw [digit_byte u h]
      simp [Lib.decFrom]
    · rename_i h
      rw [decFrom_append _ 0 _ _ (ih (u / 10) (by omega))]
      unfold Lib.decFrom
      rw [digit_byte _ (Nat.mod_lt _ (by decide))]
      simp only [Lib.decFrom]
      congr 1
      omega
theorem decDigits_ne (u : Nat) : Lib.decDigits u ≠ [] := by
  rw [Lib.decDigits]
  split
  · simp
  · simp
/-- a digit's byte -/
def isDig (c : UInt8) : Prop := 48 ≤ c.toNat ∧ c.toNat ≤ 57
theorem decDigits_dig (u : Nat) : ∀ c ∈ Lib.decDigits u, isDig c := by
  induction u using Nat.strongRecOn with
  | _ u ih =>
    have hb : ∀ d, d < 10 → isDig (UInt8.ofNat (48 + d)) := by
      intro d hd
      unfold isDig
      rw [UInt8.toNat_ofNat']
      omega
    rw [Lib.decDigits]
    split
    · rename_i h
      intro c hc
      rw [List.mem_singleton] at hc
      subst hc
      exact hb u h
    · rename_i h
      intro c hc
      rcases List.mem_append.1 hc with hc | hc
      · exact ih (u / 10) (by omega) c hc
      · rw [List.mem_singleton] at hc
        subst hc
        exact hb _ (Nat.mod_lt _ (by decide))
theorem itoa_bytes (n : Int) : ∀ c ∈ Lib.itoa n, c = 45 ∨ isDig c := by
  unfold Lib.itoa
  split
  · intro c hc
    rcases List.mem_cons.1 hc with h | h
    · exact .inl h
    · exact .inr (decDigits_dig _ c h)
  · intro c hc
    exact .inr (decDigits_dig _ c hc)
theorem decDigits_len17 (u : Nat) (h : u ≤ 9007199254740992) : (Lib.decDigits u).length ≤ 16 := by
  have key : ∀ k u, u < 10 ^ (k + 1) → (Lib.decDigits u).length ≤ k + 1 := by
    intro k
    induction k with
    | zero =>
      intro u h
      rw [Lib.decDigits, dif_pos (by omega)]
      simp
    | succ k ih =>
      intro u h
      rw [Lib.decDigits]
      split
      · simp
      · rw [List.length_append, List.length_singleton]
        have := ih (u / 10) (by rw [Nat.pow_succ] at h; omega)
        omega
  exact key 15 u (by omega)
theorem itoa_len17 (n : Int) (h : n.natAbs ≤ 9007199254740992) : (Lib.itoa n).length ≤ 17 := by
  unfold Lib.itoa
  split
  · have := decDigits_len17 n.natAbs h
    simp only [List.length_cons]; omega
  · have := decDigits_len17 n.toNat (by omega)
    omega
theorem itoa_ne (n : Int) : Lib.itoa n ≠ [] := by
  unfold Lib.itoa
  split
  · simp
  · exact decDigits_ne _
theorem decNat_dec (u : Nat) : Lib.decNat (Lib.decDigits u) = some u := by
  unfold Lib.decNat
  rw [if_neg, decFrom_dec]
  rw [List.isEmpty_iff]
  exact decDigits_ne u
theorem atoi_itoa (n : Int) : Lib.atoi (Lib.itoa n) = some n := by
  unfold Lib.itoa
  split
  · rename_i h
    unfold Lib.atoi
    simp only [beq_self_eq_true, if_true]
    rw [decNat_dec]
    simp only [Option.map_some]
    congr 1
    omega
  · rename_i h
    have hd := decNat_dec n.toNat
    have hb := decDigits_dig n.toNat
    cases hl : Lib.decDigits n.toNat with
    | nil => exact absurd hl (decDigits_ne _)
    | cons c r =>
      rw [hl] at hd hb
      have hc := hb c (List.mem_cons_self ..)
      have h1 : (c == 45) = false := by
        rw [beq_eq_false_iff_ne]; rintro rfl; exact absurd hc (by unfold isDig; decide)
      have h2 : (c == 43) = false := by
        rw [beq_eq_false_iff_ne]; rintro rfl; exact absurd hc (by unfold isDig; decide)
      unfold Lib.atoi
      simp only [h1, h2, Bool.false_eq_true, if_false]
      rw [hd]
      simp only [Option.map_some]
      congr 1
      omega
theorem atoiV_itoa (n : Int) (h : n.natAbs ≤ 9007199254740992) : atoiV (Lib.itoa n) = n := by
  unfold atoiV
  rw [Lib.atoiAll_short _ (by have := itoa_len17 n h; omega), atoi_itoa]
  rfl
theorem trim_dot (l : List UInt8) : Lib.trimSuffix (l ++ [46]) [46] = l := by
  unfold Lib.trimSuffix Lib.hasSuffix
  rw [if_pos (by rw [List.isSuffixOf_iff_suffix]; exact ⟨l, rfl⟩)]
  simp
/-- a word by its sign and its rung -/
theorem word_of {w : Nat} (h : w < 18446744073709551616) : w = (if negW w then B63 else 0) + rungW w := by
  rw [negW_lt h]
  unfold rungW
  by_cases e : B63 ≤ w
  · rw [decide_eq_true e]; simp only [if_true]; unfold B63 at *; omega
  · rw [decide_eq_false e]; simp only [Bool.false_eq_true, if_false]; unfold B63 at *; omega
theorem word_ext {v w : Nat} (hv : v < 18446744073709551616) (hw : w < 18446744073709551616) (h1 : negW v = negW w) (h2 : rungW v = rungW w) : v = w := by
  rw [word_of hv, word_of hw, h1, h2]
/-- a whole number's word is its float's -/
theorem IsInt.eq {w : Nat} {a : Int} (h : IsInt w a) : w = fromW a := by
  have hle : a.natAbs ≤ 9007199254740992 := by
    have h1 := mag_le h.le
    rw [h.mg, mag53] at h1
    exact Nat.le_of_mul_le_mul_right h1 U_pos
  have k := fromW_int hle
  exact word_ext h.lt k.lt (by rw [h.neg, k.neg]) (mag_inj (by rw [h.mg, k.mg]))
theorem isInt_of {w : Nat} (hlt : w < 18446744073709551616) (hw : wholeW w = true) (hz : ¬ (negW w = true ∧ wholeV w = 0)) : IsInt w (wholeV w) := by
  have hw' := hw
  unfold wholeW at hw'
  rw [Bool.and_eq_true] at hw'
  have hr : rungW w ≤ R53 := of_decide_eq_true hw'.1
  have hm : mag (rungW w) % U = 0 := of_decide_eq_true hw'.2
  have hv : wholeV w = if negW w then -(intW w : Int) else intW w := by unfold wholeV; rw [if_pos hw]
  refine ⟨?_, ?_, hr, hlt⟩
  · rw [hv]
    cases hn : negW w with
    | true =>
      simp only [if_true]
      have : intW w ≠ 0 := fun e => hz ⟨hn, by rw [hv, hn, e]; rfl⟩
      rw [decide_eq_true (by omega)]
    | false =>
      simp only [Bool.false_eq_true, if_false]
      rw [decide_eq_false (by omega)]
  · have hi : (wholeV w).natAbs = intW w := by rw [hv]; split <;> omega
    rw [hi]
    have := Nat.div_add_mod (mag (rungW w)) U
    rw [hm, Nat.add_zero] at this
    unfold intW
    rw [Nat.mul_comm, this]
theorem neg_zero {w : Nat} (hlt : w < 18446744073709551616) (hw : wholeW w = true) (hn : negW w = true) (hv : wholeV w = 0) : w = B63 := by
  have hw' := hw
  unfold wholeW at hw'
  rw [Bool.and_eq_true] at hw'
  have hm : mag (rungW w) % U = 0 := of_decide_eq_true hw'.2
  unfold wholeV at hv
  rw [if_pos hw, hn] at hv
  simp only [if_true] at hv
  have h0 : intW w = 0 := by omega
  have h1 := Nat.div_add_mod (mag (rungW w)) U
  unfold intW at h0
  rw [h0, hm] at h1
  have h2 : mag (rungW w) = mag 0 := by rw [mag_low (show (0 : Nat) < B52 by decide)]; omega
  have h3 := mag_inj h2
  have := word_of hlt
  rw [hn, h3] at this
  simpa using this
theorem inf_word {w : Nat} (hlt : w < 18446744073709551616) (s : Bool) (h : infW s w = true) : w = (if s then 18442240474082181120 else 9218868437227405312) := by
  unfold infW at h
  rw [Bool.and_eq_true, beq_iff_eq, beq_iff_eq] at h
  have := word_of hlt
  rw [h.1, h.2] at this
  rw [this]
  cases s <;> rfl
/-- the four kinds of text -/
theorem hex_ne46 (k u : Nat) : ∀ c ∈ hexN k u, c ≠ 46 := by
  induction k with
  | zero => intro c hc; cases hc
  | succ k ih =>
    intro c hc
    unfold hexN at hc
    rcases List.mem_cons.1 hc with h | h
    · have hd : u / 16 ^ k % 16 < 16 := Nat.mod_lt _ (by decide)
      rintro rfl
      have h2 := hexd_dig _ hd
      rw [← h, show hexd 46 = none from by decide] at h2
      cases h2
    · exact ih c h
theorem cand_print (u : Nat) (h : u < 18446744073709551616) : candV (printL u) = canonF (u : Int) := by
  unfold canonF
  rw [Int.toNat_natCast]
  unfold printL
  cases hn : nanW u with
  | true => simp only [if_true]; decide
  | false =>
    simp only [Bool.false_eq_true, if_false]
    cases h1 : infW false u with
    | true =>
      rw [inf_word h false h1]
      simp only [if_true]; decide
    | false =>
      simp only [Bool.false_eq_true, if_false]
      cases h2 : infW true u with
      | true =>
        rw [inf_word h true h2]
        simp only [if_true]; decide
      | false =>
        simp only [Bool.false_eq_true, if_false]
        cases hw : wholeW u with
        | true =>
          simp only [if_true]
          by_cases hz : negW u = true ∧ wholeV u = 0
          · rw [neg_zero h hw hz.1 hz.2, if_pos (by rw [← neg_zero h hw hz.1 hz.2, hz.1, hz.2]; rfl)]
            decide
          · rw [if_neg (by simpa using hz)]
            have hi := isInt_of h hw hz
            have hle : (wholeV u).natAbs ≤ 9007199254740992 := wholeV_le u
            have hin : inR (wholeV u) = true := by unfold inR; rw [decide_eq_true (by omega), decide_eq_true (by omega)]; rfl
            have hb := itoa_bytes (wholeV u)
            have hne := itoa_ne (wholeV u)
            have hat := atoiV_itoa (wholeV u) hle
            unfold candV
            have hp : Lib.hasPrefix (Lib.itoa (wholeV u) ++ [46]) [48, 120] = false := by
              cases hh : Lib.hasPrefix (Lib.itoa (wholeV u) ++ [46]) [48, 120] with
              | false => rfl
              | true =>
                exfalso
                unfold Lib.hasPrefix at hh
                rw [List.isPrefixOf_iff_prefix] at hh
                obtain ⟨t, ht⟩ := hh
                have hm : (120 : UInt8) ∈ Lib.itoa (wholeV u) ++ [46] := by rw [← ht]; simp
                rcases List.mem_append.1 hm with hm | hm
                · rcases hb _ hm with e | e
                  · exact absurd e (by decide)
                  · exact absurd e (by unfold isDig; decide)
                · exact absurd hm (by decide)
            have last : ∀ l : List UInt8, Lib.itoa (wholeV u) ++ [46] = l → l.getLast? = some 46 := by
              rintro l rfl; simp
            rw [if_neg (fun e => absurd (last _ e) (by decide)), if_neg (fun e => absurd (last _ e) (by decide)), if_neg (fun e => absurd (last _ e) (by decide)), if_neg, hp, if_neg (by decide), trim_dot, hat]
            · unfold fromV
              rw [if_pos hin, ← hi.eq]
            · intro e
              have e2 : Lib.itoa (wholeV u) = [45, 48] := List.append_cancel_right (show Lib.itoa (wholeV u) ++ [46] = [45, 48] ++ [46] from e)
              rw [e2] at hat
              have h0 : wholeV u = 0 := by rw [← hat]; decide
              rw [h0, Lib.itoa, if_neg (by decide), show Int.toNat 0 = 0 from rfl, Lib.decDigits, dif_pos (by decide)] at e2
              cases e2
        | false =>
          simp only [Bool.false_eq_true, if_false]
          unfold candV
          have hlen : ([48, 120] ++ hexN 16 u).length = 18 := by rw [List.length_append, hexN_length]; rfl
          have hp : Lib.hasPrefix ([48, 120] ++ hexN 16 u) [48, 120] = true := by
            unfold Lib.hasPrefix; rw [List.isPrefixOf_iff_prefix]; exact ⟨_, rfl⟩
          rw [if_neg (fun e => by rw [e] at hlen; exact absurd hlen (by decide)), if_neg (fun e => by rw [e] at hlen; exact absurd hlen (by decide)), if_neg (fun e => by rw [e] at hlen; exact absurd hlen (by decide)), if_neg (fun e => by rw [e] at hlen; exact absurd hlen (by decide)), if_pos hp]
          unfold Lib.trimPrefix
          rw [if_pos hp]
          rw [show List.drop ([48, 120] : List UInt8).length ([48, 120] ++ hexN 16 u) = hexN 16 u from rfl, pu16_hex0 u h]
theorem print_canon (u : Int) (h0 : 0 ≤ u) : printL (canonF u).toNat = printL u.toNat := by
  unfold canonF
  split
  · rename_i hn
    have e : printL u.toNat = [110, 97, 110] := by unfold printL; rw [if_pos hn]
    rw [e]
    decide
  · rfl
theorem print_eq {a b : Int} (a0 : 0 ≤ a) (a1 : a < 18446744073709551616) (b0 : 0 ≤ b) (b1 : b < 18446744073709551616) : printL a.toNat = printL b.toNat ↔ canonF a = canonF b := by
  have ha := cand_print a.toNat (by omega)
  have hb := cand_print b.toNat (by omega)
  rw [Int.toNat_of_nonneg a0] at ha
  rw [Int.toNat_of_nonneg b0] at hb
  constructor
  · intro h; rw [← ha, ← hb, h]
  · intro h; rw [← print_canon a a0, ← print_canon b b0, h]
theorem parse_print (u : Int) (h0 : 0 ≤ u) (h1 : u < 18446744073709551616) : parseOk (printL u.toNat) = true ∧ parseV (printL u.toNat) = canonF u := by
  have hc := cand_print u.toNat (by omega)
  rw [Int.toNat_of_nonneg h0] at hc
  have hok : parseOk (printL u.toNat) = true := by
    unfold parseOk
    rw [hc, print_canon u h0, canon_canon]
    simp
  refine ⟨hok, ?_⟩
  unfold parseV
  rw [if_pos hok, hc]
end Go.Proofs.YtfkghfmgeholeaaGreatDoor
namespace Go.Proofs.YtfkghfmgeholeaaGreatDoor
open Go.RowKit

theorem decDigits_split (n : Nat) (h : ¬ n < 10) : Lib.decDigits n = Lib.decDigits (n / 10) ++ Lib.decDigits (n % 10) := by
  conv => lhs; rw [Lib.decDigits, dif_neg h]
  rw [Lib.decDigits_one (Nat.mod_lt n (by decide))]
theorem decDigits_len20 (u : Nat) (h : u < 10 ^ 20) : (Lib.decDigits u).length ≤ 20 := by
  have key : ∀ k u, u < 10 ^ (k + 1) → (Lib.decDigits u).length ≤ k + 1 := by
    intro k
    induction k with
    | zero =>
      intro u h
      rw [Lib.decDigits, dif_pos (by omega)]
      simp
    | succ k ih =>
      intro u h
      rw [Lib.decDigits]
      split
      · simp
      · rw [List.length_append, List.length_singleton]
        have := ih (u / 10) (by rw [Nat.pow_succ] at h; omega)
        omega
  exact key 19 u h
theorem one_text (w : World) (c : UInt8) (x : Int) (h : x = (c.toNat : Int)) : (convert 169 9 (.slice (some ⟨w.heap.size, 0, none⟩) 1 1)).run Tryz.prog (w.alloc (Obj.cells #[.int .u8 x] 5)) = .ok (.string ⟨#[c]⟩) (w.alloc (Obj.cells #[.int .u8 x] 5)) := by
  have := run_convert_bytes_back (P := Tryz.prog) (w.alloc (Obj.cells #[.int .u8 x] 5)) 169 9 5 ⟨w.heap.size, 0, none⟩ 1 [c] Tryz.underlying169 Tryz.underlying5 Tryz.underlying9 (fun t ht => by
    obtain rfl : t = 0 := by simpa using ht
    subst h
    simp [Addr.add])
  exact this
theorem hexN_get (n u : Nat) : ∀ j, j < n → (hexN n u)[j]? = some (dig (u / 16 ^ (n - 1 - j) % 16)) := by
  induction n with
  | zero => intro j h; omega
  | succ n ih =>
    intro j h
    cases j with
    | zero => rfl
    | succ j =>
      show (hexN n u)[j]? = _
      rw [ih j (by omega), show n + 1 - 1 - (j + 1) = n - 1 - j from by omega]
theorem hexN_take (u j : Nat) (h : j < 16) : (hexN 16 u).take (j + 1) = (hexN 16 u).take j ++ [dig (u / 16 ^ (15 - j) % 16)] := by
  rw [List.take_add_one, hexN_get 16 u j h]
  rfl
abbrev digits16 : ByteArray := ⟨#[48, 49, 50, 51, 52, 53, 54, 55, 56, 57, 97, 98, 99, 100, 101, 102]⟩
theorem digit16_cut (d : Nat) (h : d < 16) : digits16.extract d (d + 1) = ⟨#[dig d]⟩ := by
  match d, h with
  | 0, _ => rfl
  | 1, _ => rfl
  | 2, _ => rfl
  | 3, _ => rfl
  | 4, _ => rfl
  | 5, _ => rfl
  | 6, _ => rfl
  | 7, _ => rfl
  | 8, _ => rfl
  | 9, _ => rfl
  | 10, _ => rfl
  | 11, _ => rfl
  | 12, _ => rfl
  | 13, _ => rfl
  | 14, _ => rfl
  | 15, _ => rfl
  | d + 16, h => omega
def HInv (u j mm : Nat) (K : Int) (X : List UInt8) : Prop := j + mm = 16 ∧ K = 60 - 4 * (j : Int) ∧ X = [48, 120] ++ (hexN 16 u).take j
theorem nib_at (c K : Int) (j : Nat) (h0 : 0 ≤ c) (hK : K = 60 - 4 * (j : Int)) (hj : j ≤ 15) : (c / 2 ^ K.toNat).tmod 16 = ((c.toNat / 16 ^ (15 - j) % 16 : Nat) : Int) := by
  have h2 : (2 : Int) ^ K.toNat = ((16 ^ (15 - j) : Nat) : Int) := by
    rw [show K.toNat = 4 * (15 - j) from by omega, Int.pow_mul, show ((2 : Int) ^ 4) = ((16 : Nat) : Int) from by decide, ← Int.natCast_pow]
  rw [h2]
  obtain ⟨n, rfl⟩ := Int.eq_ofNat_of_zero_le h0
  rw [Int.toNat_natCast, show ((n : Int) / ((16 ^ (15 - j) : Nat) : Int)) = ((n / 16 ^ (15 - j) : Nat) : Int) from (Int.natCast_ediv _ _).symm]
  generalize n / 16 ^ (15 - j) = q
  rw [Int.tmod_eq_emod_of_nonneg (by omega)]
  omega
end Go.Proofs.YtfkghfmgeholeaaGreatDoor
namespace Go.Proofs.YtfkghfmgeholeaaGreatDoor
open Go.RowKit

theorem mk_toList (l : List UInt8) : (⟨l.toArray⟩ : ByteArray).toList = l := by rw [ByteArray.toList_eq]
theorem print_forms (u : Nat) : printL u = [110, 97, 110] ∨ printL u = [105, 110, 102] ∨ printL u = [45, 105, 110, 102] ∨ printL u = [45, 48, 46] ∨ (∃ v : Int, v.natAbs ≤ 9007199254740992 ∧ printL u = Lib.itoa v ++ [46]) ∨ printL u = [48, 120] ++ hexN 16 u := by
  unfold printL
  split
  · exact .inl rfl
  · split
    · exact .inr (.inl rfl)
    · split
      · exact .inr (.inr (.inl rfl))
      · split
        · split
          · exact .inr (.inr (.inr (.inl rfl)))
          · exact .inr (.inr (.inr (.inr (.inl ⟨_, wholeV_le u, rfl⟩))))
        · exact .inr (.inr (.inr (.inr (.inr rfl))))
theorem parseOk_print {l : List UInt8} (h : parseOk l = true) : printL (candV l).toNat = l := by
  unfold parseOk at h
  rw [Bool.and_eq_true, beq_iff_eq] at h
  exact h.1
theorem parseOk_forms {l : List UInt8} (h : parseOk l = true) : l = [110, 97, 110] ∨ l = [105, 110, 102] ∨ l = [45, 105, 110, 102] ∨ l = [45, 48, 46] ∨ (∃ v : Int, v.natAbs ≤ 9007199254740992 ∧ l = Lib.itoa v ++ [46]) ∨ l = [48, 120] ++ hexN 16 (candV l).toNat := by
  have := print_forms (candV l).toNat
  rwa [parseOk_print h] at this
theorem mem_hexN {k u : Nat} {c : UInt8} (h : c ∈ hexN k u) : ∃ d, d < 16 ∧ c = dig d := by
  induction k with
  | zero => cases h
  | succ k ih =>
    unfold hexN at h
    rcases List.mem_cons.1 h with h | h
    · exact ⟨_, Nat.mod_lt _ (by decide), h⟩
    · exact ih h
theorem itoa_no (v : Int) (c : UInt8) (h1 : c ≠ 45) (h2 : ¬ isDig c) (h3 : c ≠ 46) : c ∉ Lib.itoa v ++ [46] := by
  intro h
  rcases List.mem_append.1 h with h | h
  · rcases itoa_bytes v c h with e | e
    · exact h1 e
    · exact h2 e
  · rw [List.mem_singleton] at h
    exact h3 h
theorem not120 : ¬ isDig (120 : UInt8) := by unfold isDig; decide
theorem hex_no {l t : List UInt8} {c : UInt8} (hl : l = [48, 120] ++ t) (hc : c ∈ t) (hd : ∀ d, d < 16 → dig d ≠ c) : parseOk l = false := by
  cases h : parseOk l with
  | false => rfl
  | true =>
    exfalso
    rcases parseOk_forms h with e | e | e | e | ⟨v, _, e⟩ | e
    · rw [hl] at e; cases e
    · rw [hl] at e; cases e
    · rw [hl] at e; cases e
    · rw [hl] at e; cases e
    · have : (120 : UInt8) ∈ Lib.itoa v ++ [46] := by rw [← e, hl]; simp
      exact itoa_no v 120 (by decide) not120 (by decide) this
    · have ht : t = hexN 16 (candV l).toNat := List.append_cancel_left (hl.symm.trans e)
      rw [ht] at hc
      obtain ⟨d, h1, h2⟩ := mem_hexN hc
      exact hd d h1 h2.symm
theorem hex_yes {l : List UInt8} {u : Nat} (hu : u < 18446744073709551616) (hl : l = [48, 120] ++ hexN 16 u) : candV l = u ∧ parseOk l = ((printL u == l) && (canonF (u : Int) == (u : Int))) := by
  have hc : candV l = u := by
    subst hl
    unfold candV
    have hlen : ([48, 120] ++ hexN 16 u).length = 18 := by rw [List.length_append, hexN_length]; rfl
    have hp : Lib.hasPrefix ([48, 120] ++ hexN 16 u) [48, 120] = true := by
      unfold Lib.hasPrefix; rw [List.isPrefixOf_iff_prefix]; exact ⟨_, rfl⟩
    rw [if_neg (fun e => by rw [e] at hlen; exact absurd hlen (by decide)), if_neg (fun e => by rw [e] at hlen; exact absurd hlen (by decide)), if_neg (fun e => by rw [e] at hlen; exact absurd hlen (by decide)), if_neg (fun e => by rw [e] at hlen; exact absurd hlen (by decide)), if_pos hp]
    unfold Lib.trimPrefix
    rw [if_pos hp]
    rw [show List.drop ([48, 120] : List UInt8).length ([48, 120] ++ hexN 16 u) = hexN 16 u from rfl, pu16_hex0 u hu]
  refine ⟨hc, ?_⟩
  unfold parseOk
  rw [hc, Int.toNat_natCast]
theorem shape_no {l : List UInt8} (h1 : l ≠ [110, 97, 110]) (h2 : l ≠ [105, 110, 102]) (h3 : l ≠ [45, 105, 110, 102]) (h4 : l ≠ [45, 48, 46]) (h5 : ¬ (l.length = 18 ∧ l.take 2 = [48, 120]))
    (h6 : l.length < 2 ∨ 18 < l.length ∨ l.getLast? ≠ some 46) : parseOk l = false := by
  cases h : parseOk l with
  | false => rfl
  | true =>
    exfalso
    rcases parseOk_forms h with e | e | e | e | ⟨v, hv, e⟩ | e
    · exact h1 e
    · exact h2 e
    · exact h3 e
    · exact h4 e
    · have hne := itoa_ne v
      have hlen := itoa_len17 v hv
      have hpos : 0 < (Lib.itoa v).length := List.length_pos_iff.2 hne
      rcases h6 with h6 | h6 | h6
      · rw [e, List.length_append, List.length_singleton] at h6; omega
      · rw [e, List.length_append, List.length_singleton] at h6; omega
      · rw [e] at h6; exact h6 (by simp)
    · exact h5 ⟨by rw [e, List.length_append, hexN_length]; rfl, by rw [e]; rfl⟩
/-- a numeral's sign and what is behind it -/
def signed (d d' : List UInt8) (neg : Bool) : Prop := (neg = true ∧ d = 45 :: d') ∨ (neg = false ∧ d = d' ∧ d' ≠ [] ∧ d'.head? ≠ some 45)
theorem dec_no {l d d' : List UInt8} {neg : Bool} {c : UInt8} (hl : l = d ++ [46]) (hs : signed d d' neg) (hc : c ∈ d') (hd : ¬ isDig c) : parseOk l = false := by
  cases h : parseOk l with
  | false => rfl
  | true =>
    exfalso
    have hlast : l.getLast? = some 46 := by rw [hl]; simp
    rcases parseOk_forms h with e | e | e | e | ⟨v, hv, e⟩ | e
    · rw [e] at hlast; exact absurd hlast (by decide)
    · rw [e] at hlast; exact absurd hlast (by decide)
    · rw [e] at hlast; exact absurd hlast (by decide)
    · have hde : d = [45, 48] := List.append_cancel_right (hl.symm.trans (show l = [45, 48] ++ [46] from e))
      rcases hs with ⟨_, e2⟩ | ⟨_, e2, _, e3⟩
      · rw [hde] at e2
        injection e2 with _ e4
        rw [← e4, List.mem_singleton] at hc
        rw [hc] at hd
        exact hd (by unfold isDig; decide)
      · rw [← e2, hde] at e3; exact e3 rfl
    · have hde : d = Lib.itoa v := List.append_cancel_right (hl.symm.trans e)
      unfold Lib.itoa at hde
      split at hde
      · rcases hs with ⟨_, e2⟩ | ⟨_, e2, _, e3⟩
        · rw [hde] at e2
          injection e2 with _ e4
          rw [← e4] at hc
          exact hd (decDigits_dig _ c hc)
        · rw [← e2, hde] at e3; exact e3 rfl
      · rcases hs with ⟨_, e2⟩ | ⟨_, e2, _, e3⟩
        · have : (45 : UInt8) ∈ Lib.decDigits v.toNat := by rw [← hde, e2]; exact List.mem_cons_self ..
          exact absurd (decDigits_dig _ _ this) (by unfold isDig; decide)
        · rw [← e2, hde] at hc
          exact hd (decDigits_dig _ c hc)
    · rw [e] at hlast
      have hm : (46 : UInt8) ∈ [48, 120] ++ hexN 16 (candV l).toNat := List.mem_of_getLast? hlast
      rcases List.mem_append.1 hm with hm | hm
      · exact absurd hm (by decide)
      · exact hex_ne46 _ _ _ hm rfl
theorem decFrom_digits (r : List UInt8) : ∀ acc n, Lib.decFrom acc r = some n → ∀ c ∈ r, isDig c := by
  induction r with
  | nil => intro acc n _ c hc; cases hc
  | cons b r ih =>
    intro acc n h c hc
    unfold Lib.decFrom at h
    split at h
    · rename_i d hd
      rcases List.mem_cons.1 hc with e | e
      · subst e
        unfold Lib.digitVal at hd
        split at hd
        · assumption
        · cases hd
      · exact ih _ _ h c e
    · cases h
theorem dec_yes {d d' : List UInt8} {neg : Bool} {n : Nat} (hs : signed d d' neg) (hlen : d.length ≤ 17) (hn : Lib.decFrom 0 d' = some n) : atoiV d = if neg then -(n : Int) else n := by
  have hdig := decFrom_digits d' 0 n hn
  rcases hs with ⟨rfl, rfl⟩ | ⟨rfl, rfl, hne, hh⟩
  · rw [if_pos rfl]
    cases d' with
    | nil =>
      injection hn with hn
      subst hn
      decide
    | cons b r =>
      unfold atoiV
      rw [Lib.atoiAll_short _ (by omega)]
      unfold Lib.atoi
      simp only [beq_self_eq_true, if_true]
      unfold Lib.decNat
      rw [if_neg (by simp), hn]
      rfl
  · rw [if_neg (by decide)]
    cases d with
    | nil => exact absurd rfl hne
    | cons b r =>
      have hb := hdig b (List.mem_cons_self ..)
      have h1 : (b == 45) = false := by
        rw [beq_eq_false_iff_ne]; rintro rfl; exact absurd hb (by unfold isDig; decide)
      have h2 : (b == 43) = false := by
        rw [beq_eq_false_iff_ne]; rintro rfl; exact absurd hb (by unfold isDig; decide)
      unfold atoiV
      rw [Lib.atoiAll_short _ (by omega)]
      unfold Lib.atoi
      simp only [h1, h2, Bool.false_eq_true, if_false]
      unfold Lib.decNat
      rw [if_neg (by simp), hn]
      rfl
theorem signed_mem {d d' : List UInt8} {neg : Bool} (hs : signed d d' neg) (hd : ∀ c ∈ d', isDig c) : ∀ c ∈ d, c = 45 ∨ isDig c := by
  rcases hs with ⟨_, rfl⟩ | ⟨_, rfl, _, _⟩
  · intro c hc
    rcases List.mem_cons.1 hc with e | e
    · exact .inl e
    · exact .inr (hd c e)
  · intro c hc; exact .inr (hd c hc)
theorem fromV_canon (n : Int) : canonF (fromV n) = fromV n := by
  unfold fromV
  split
  · rename_i h
    have hi := fromW_int (inR_abs h)
    unfold canonF
    rw [Int.toNat_natCast, hi.nan]
    rfl
  · decide
theorem dec_ok {l d d' : List UInt8} {neg : Bool} {n : Nat} {v : Int} (hl : l = d ++ [46]) (hs : signed d d' neg) (hlen : d.length ≤ 17) (hn : Lib.decFrom 0 d' = some n) (h4 : l ≠ [45, 48, 46]) (hv : v = if neg then -(n : Int) else n) :
    candV l = fromV v ∧ parseOk l = (inR v && (printL (fromV v).toNat == l)) := by
  have hat := dec_yes hs hlen hn
  rw [← hv] at hat
  have hlast : l.getLast? = some 46 := by rw [hl]; simp
  have hmem := signed_mem hs (decFrom_digits d' 0 n hn)
  have hc : candV l = fromV v := by
    unfold candV
    have hp : Lib.hasPrefix l [48, 120] = false := by
      cases hh : Lib.hasPrefix l [48, 120] with
      | false => rfl
      | true =>
        exfalso
        unfold Lib.hasPrefix at hh
        rw [List.isPrefixOf_iff_prefix] at hh
        obtain ⟨t, ht⟩ := hh
        have hm : (120 : UInt8) ∈ d ++ [46] := by rw [← hl, ← ht]; simp
        rcases List.mem_append.1 hm with hm | hm
        · rcases hmem _ hm with e | e
          · exact absurd e (by decide)
          · exact not120 e
        · exact absurd hm (by decide)
    rw [if_neg (fun e => by rw [e] at hlast; exact absurd hlast (by decide)), if_neg (fun e => by rw [e] at hlast; exact absurd hlast (by decide)), if_neg (fun e => by rw [e] at hlast; exact absurd hlast (by decide)), if_neg h4, hp, if_neg (by decide), hl, trim_dot, hat]
  refine ⟨hc, ?_⟩
  unfold parseOk
  rw [hc, fromV_canon, beq_self_eq_true, Bool.and_true]
  cases hr : inR v with
  | true => rfl
  | false =>
    rw [Bool.false_and, beq_eq_false_iff_ne]
    intro e
    have h0 : fromV v = 0 := by unfold fromV; rw [if_neg (by simp [hr])]
    rw [h0] at e
    have e1 : printL (0 : Int).toNat = [48] ++ [46] := by decide +kernel
    rw [e1, hl] at e
    have hd : d = [48] := (List.append_cancel_right e).symm
    rw [hd] at hat
    have : v = 0 := by rw [← hat]; decide
    rw [this] at hr
    exact absurd hr (by decide)
end Go.Proofs.YtfkghfmgeholeaaGreatDoor
namespace Go.Proofs.YtfkghfmgeholeaaGreatDoor
open Go.RowKit

theorem below_drewN {B : Nat} {a w : World} (h : Below B a w) (n : Nat) : Below B a (w.drewN n) := ⟨h.os, h.tape, h.output, h.size, h.block⟩
def PrEnds (w w' : World) (e : Ending) (l : List UInt8) : Prop := ∃ v : Int, e = .returned (.tuple #[.int .u64 v, .bool (parseOk l)]) ∧ (parseOk l = true → v = parseV l) ∧ Below w.heap.size w w'
/-- the state of the loop over decimal digits -/
def DInvP (d' : List UInt8) (i n : Nat) (I NI : Int) : Prop := I = (i : Int) ∧ NI = (n : Int) ∧ Lib.decFrom 0 (d'.take i) = some n ∧ n < 10 ^ i
abbrev DInv (d' : List UInt8) (i n : Nat) (I NI : Int) : Prop := Hid (DInvP d' i n I NI)
theorem DInvP.next {d' : List UInt8} {i n : Nat} {I NI NJ : Int} {c : UInt8} (h : DInvP d' i n I NI) (hc : d'[i]? = some c) (hd : Lib.digitVal c = some (c.toNat - 48)) (hlo : 48 ≤ c.toNat) (hj : NJ = 10 * NI + ((c.toNat : Int) - 48)) (hhi : c.toNat ≤ 57) : DInvP d' (i + 1) (n * 10 + (c.toNat - 48)) (I + 1) NJ := by
  obtain ⟨h1, h2, h3, h4⟩ := h
  refine ⟨by omega, by omega, Lib.decFrom_take d' i 0 n c _ h3 hc hd, ?_⟩
  rw [Nat.pow_succ]
  omega
theorem consts_ok : (parseOk [110, 97, 110] = true ∧ parseV [110, 97, 110] = 9221120237041090560) ∧ (parseOk [105, 110, 102] = true ∧ parseV [105, 110, 102] = 9218868437227405312) ∧ (parseOk [45, 105, 110, 102] = true ∧ parseV [45, 105, 110, 102] = 18442240474082181120) ∧ (parseOk [45, 48, 46] = true ∧ parseV [45, 48, 46] = 9223372036854775808) := by
  refine ⟨⟨?_, ?_⟩, ⟨?_, ?_⟩, ⟨?_, ?_⟩, ⟨?_, ?_⟩⟩ <;> decide +kernel
/-- the state of the outer loop over hexadecimal digits -/
def XInv (t : List UInt8) (j U : Nat) : Prop := t.take j = hexN j U ∧ U < 16 ^ j
theorem hexN_snoc (j : Nat) : ∀ U D, D < 16 → U < 16 ^ j → hexN (j + 1) (U * 16 + D) = hexN j U ++ [dig D] := by
  intro U D hD _
  apply List.ext_getElem?
  intro i
  by_cases h : i < j
  · rw [hexN_get (j + 1) _ i (by omega), List.getElem?_append_left (by rw [hexN_length]; exact h), hexN_get j _ i h]
    congr 2
    rw [show j + 1 - 1 - i = (j - 1 - i) + 1 from by omega, Nat.pow_succ, Nat.mul_comm (16 ^ _), ← Nat.div_div_eq_div_mul, show (U * 16 + D) / 16 = U from by omega]
  · by_cases h2 : i = j
    · subst h2
      rw [hexN_get (i + 1) _ i (by omega), List.getElem?_append_right (by rw [hexN_length]; exact Nat.le_refl _), hexN_length, Nat.sub_self, show i + 1 - 1 - i = 0 from by omega, Nat.pow_zero, Nat.div_one, show (U * 16 + D) % 16 = D from by omega]
      rfl
    · rw [List.getElem?_eq_none (by rw [hexN_length]; omega), List.getElem?_eq_none (by rw [List.length_append, hexN_length]; simp; omega)]
theorem XInv.next {t : List UInt8} {j U D : Nat} (h : XInv t j U) (hc : t[j]? = some (dig D)) (hD : D < 16) : XInv t (j + 1) (U * 16 + D) := by
  refine ⟨?_, ?_⟩
  · rw [List.take_add_one, hc, h.1, hexN_snoc j U D hD h.2]
    rfl
  · have := h.2
    rw [Nat.pow_succ]
    omega
theorem digits16_size : digits16.size = 16 := by decide
theorem digit16_at (d : Nat) (h : d < 16) (h2 : d < digits16.size) : digits16[d] = dig d := by
  match d, h with
  | 0, _ => rfl
  | 1, _ => rfl
  | 2, _ => rfl
  | 3, _ => rfl
  | 4, _ => rfl
  | 5, _ => rfl
  | 6, _ => rfl
  | 7, _ => rfl
  | 8, _ => rfl
  | 9, _ => rfl
  | 10, _ => rfl
  | 11, _ => rfl
  | 12, _ => rfl
  | 13, _ => rfl
  | 14, _ => rfl
  | 15, _ => rfl
  | d + 16, h => omega
end Go.Proofs.YtfkghfmgeholeaaGreatDoor
namespace Go.Proofs.YtfkghfmgeholeaaGreatDoor
open Go.ChangeShapes Go.WideShapes Go.ChangeAt Go.RowKit

def laidL : List (String × DataW Unit) := [("math/bits.deBruijn32tab", Rows.laid_math_bits_deBruijn32tab), ("math/bits.deBruijn64tab", Rows.laid_math_bits_deBruijn64tab), ("internal/strconv.uint64pow10", Rows.laid_internal_strconv_uint64pow10), ("strconv.ErrRange", Rows.laid_strconv_ErrRange), ("strconv.ErrSyntax", Rows.laid_strconv_ErrSyntax)]
def tzZ : List Int := [0, 1, 56, 2, 57, 49, 28, 3, 61, 58, 42, 50, 38, 29, 17, 4, 62, 47, 59, 36, 45, 43, 51, 22, 53, 39, 33, 30, 24, 18, 12, 5, 63, 55, 48, 27, 60, 41, 37, 16, 46, 35, 44, 21, 52, 32, 23, 11, 54, 26, 40, 15, 34, 20, 31, 10, 25, 14, 19, 9, 13, 8, 7, 6]
theorem tz_data : (Rows.laid_math_bits_deBruijn64tab : DataW Unit) = Lib.tabData .u8 tzZ := by kernel_rfl
theorem pow_data : (Rows.laid_internal_strconv_uint64pow10 : DataW Unit) = Lib.tabData .u64 Lib.pow10Tab := by kernel_rfl
theorem star : "*" ++ "errors.errorString" = "*errors.errorString" := by decide
theorem row_err (u : TypeId) (h : Tryz.prog.typeName? 3 u = some "*errors.errorString") : u = 215 :=
  typeName_ptr_named (nm := "errors.errorString") (by rw [star]; kernel_rfl) (by kernel_rfl) (by decide) u (by rw [star]; exact h)
theorem laid_of {W : World} (h : laidMetH Tryz.prog laidL W) : Laid W := by
  rw [MakeChecks.laidMetH_plain _ _ _ (by kernel_rfl)] at h
  have h1 := h.tail
  have h2 := h1.tail
  have h3 := h2.tail
  have h4 := h3.tail
  refine ⟨?_, ?_, ?_, ?_⟩
  · rw [pow_data] at h2
    exact Lib.tabIs_of_head (by kernel_rfl : Tryz.prog.globalNamed "internal/strconv.uint64pow10" = some 6) (by kernel_rfl : _ = some 220) Tryz.underlying220 Tryz.underlying24 (by kernel_rfl) (by kernel_rfl) h2
  · rw [tz_data] at h1
    have ht := Lib.tabIs_of_head (by kernel_rfl : Tryz.prog.globalNamed "math/bits.deBruijn64tab" = some 8) (by kernel_rfl : _ = some 229) Tryz.underlying229 Tryz.underlying5 (by kernel_rfl) (by kernel_rfl) h1
    have := World.var?_cell (by kernel_rfl : Tryz.prog.globalNamed "math/bits.deBruijn64tab" = some 8) ht 15
    rw [this]
    rfl
  · obtain ⟨a, s, hv, _⟩ := laid_sentinel h4 (by kernel_rfl : Tryz.prog.globalNamed "strconv.ErrSyntax" = some 4) (by kernel_rfl : _ = some 152) Tryz.underlying152 row_err Tryz.underlying215 Tryz.underlying217 rfl rfl Tryz.underlying9 (by kernel_rfl) (by kernel_rfl)
    exact ⟨_, _, hv⟩
  · obtain ⟨a, s, hv, _⟩ := laid_sentinel h3 (by kernel_rfl : Tryz.prog.globalNamed "strconv.ErrRange" = some 5) (by kernel_rfl : _ = some 152) Tryz.underlying152 row_err Tryz.underlying215 Tryz.underlying217 rfl rfl Tryz.underlying9 (by kernel_rfl) (by kernel_rfl)
    exact ⟨_, _, hv⟩
end Go.Proofs.YtfkghfmgeholeaaGreatDoor
