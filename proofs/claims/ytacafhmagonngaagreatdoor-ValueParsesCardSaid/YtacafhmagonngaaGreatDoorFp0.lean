/- The texts of floats are read back. No code is stepped through. -/
import Derived.Test.YtacafhmagonngaaGreatDoorFa6
import Derived.Test.YtacafhmagonngaaGreatDoorFf2
import Derived.Lib.AtoiTie
set_option linter.unusedVariables false
set_option linter.unusedSimpArgs false
namespace Go.Proofs.YtacafhmagonngaaGreatDoor
open Go.RowKit

theorem hexd_dig (d : Nat) (h : d < 16) : hexd (dig d) = some d := by
  match d, h with
  | 0, _ => rfl
  | 1, _ => rfl
  | 2, _ => rfl
  | 3, _ => rfl
  | 4, _ => rfl
  | 5, _ => rfl
  | 6, _ => rfl
  | 7, _ => rfl
  | 8, _ => rfl
  | 9, _ => rfl
  | 10, _ => decide
  | 11, _ => decide
  | 12, _ => decide
  | 13, _ => decide
  | 14, _ => decide
  | 15, _ => decide
  | d + 16, h => omega
theorem pu16_hex (k : Nat) : ∀ acc u, acc * 16 ^ k + u % 16 ^ k < 18446744073709551616 → pu16 acc (hexN k u) = (acc * 16 ^ k + u % 16 ^ k, 0) := by
  induction k with
  | zero => intro acc u _; simp [hexN, pu16, Nat.mod_one]
  | succ k ih =>
    intro acc u h
    have hd : u / 16 ^ k % 16 < 16 := Nat.mod_lt _ (by decide)
    have hp : 0 < 16 ^ k := Nat.pow_pos (by decide)
    have hsplit : u % 16 ^ (k + 1) = u / 16 ^ k % 16 * 16 ^ k + u % 16 ^ k := by
      rw [Nat.pow_succ, Nat.mod_mul, Nat.add_comm, Nat.mul_comm]
    have e : (acc * 16 + u / 16 ^ k % 16) * 16 ^ k = acc * 16 ^ (k + 1) + u / 16 ^ k % 16 * 16 ^ k := by
      rw [Nat.add_mul, Nat.pow_succ, Nat.mul_assoc, Nat.mul_comm 16]
    unfold hexN pu16
    rw [hexd_dig _ hd]
    simp only
    rw [if_neg, ih _ _ (by rw [e]; omega), e, hsplit, Nat.add_assoc]
    intro hc
    have h1 : 1152921504606846976 * 16 ≤ acc * 16 ^ (k + 1) := by
      rw [Nat.pow_succ, Nat.mul_comm (16 ^ k), ← Nat.mul_assoc]
      exact Nat.le_trans (Nat.mul_le_mul_right 16 hc) (Nat.le_mul_of_pos_right _ hp)
    omega
theorem pu16_hex0 (u : Nat) (h : u < 18446744073709551616) : pu16 0 (hexN 16 u) = (u, 0) := by
  have hm : u % 16 ^ 16 = u := Nat.mod_eq_of_lt h
  have := pu16_hex 16 0 u (by rw [hm]; omega)
  rw [this, hm]
  simp

/-! ### numerals -/
theorem decFrom_append (a : List UInt8) : ∀ (acc n : Nat) (b : List UInt8), Lib.decFrom acc a = some n → Lib.decFrom acc (a ++ b) = Lib.decFrom n b := by
  induction a with
  | nil => intro acc n b h; injection h with h; subst h; rfl
  | cons c r ih =>
    intro acc n b h
    simp only [List.cons_append, Lib.decFrom] at h ⊢
    split
    · rename_i d hd
      rw [hd] at h
      exact ih _ _ _ h
    · rename_i hd
      rw [hd] at h
      cases h
theorem digit_byte (d : Nat) (h : d < 10) : Lib.digitVal (UInt8.ofNat (48 + d)) = some d := by
  match d, h with
  | 0, _ => rfl
  | 1, _ => rfl
  | 2, _ => rfl
  | 3, _ => rfl
  | 4, _ => rfl
  | 5, _ => rfl
  | 6, _ => rfl
  | 7, _ => rfl
  | 8, _ => rfl
  | 9, _ => rfl
  | d + 10, h => omega
theorem decFrom_dec (u : Nat) : Lib.decFrom 0 (Lib.decDigits u) = some u := by
  induction u using Nat.strongRecOn with
  | _ u ih =>
    rw [Lib.decDigits]
    split
    · rename_i h
      unfold Lib.decFrom
      rw [digit_byte u h]
      simp [Lib.decFrom]
    · rename_i h
      rw [decFrom_append _ 0 _ _ (ih (u / 10) (by omega))]
      unfold Lib.decFrom
      rw [digit_byte _ (Nat.mod_lt _ (by decide))]
      simp only [Lib.decFrom]
      congr 1
      omega
theorem decDigits_ne (u : Nat) : Lib.decDigits u ≠ [] := by
  rw [Lib.decDigits]
  split
  · simp
  · simp
/-- a digit's byte -/
def isDig (c : UInt8) : Prop := 48 ≤ c.toNat ∧ c.toNat ≤ 57
theorem decDigits_dig (u : Nat) : ∀ c ∈ Lib.decDigits u, isDig c := by
  induction u using Nat.strongRecOn with
  | _ u ih =>
    have hb : ∀ d, d < 10 → isDig (UInt8.ofNat (48 + d)) := by
      intro d hd
      unfold isDig
      rw [UInt8.toNat_ofNat']
      omega
    rw [Lib.decDigits]
    split
    · rename_i h
      intro c hc
      rw [List.mem_singleton] at hc
      subst hc
      exact hb u h
    · rename_i h
      intro c hc
      rcases List.mem_append.1 hc with hc | hc
      · exact ih (u / 10) (by omega) c hc
      · rw [List.mem_singleton] at hc
        subst hc
        exact hb _ (Nat.mod_lt _ (by decide))
theorem itoa_bytes (n : Int) : ∀ c ∈ Lib.itoa n, c = 45 ∨ isDig c := by
  unfold Lib.itoa
  split
  · intro c hc
    rcases List.mem_cons.1 hc with h | h
    · exact .inl h
    · exact .inr (decDigits_dig _ c h)
  · intro c hc
    exact .inr (decDigits_dig _ c hc)
theorem decDigits_len17 (u : Nat) (h : u ≤ 9007199254740992) : (Lib.decDigits u).length ≤ 16 := by
  have key : ∀ k u, u < 10 ^ (k + 1) → (Lib.decDigits u).length ≤ k + 1 := by
    intro k
    induction k with
    | zero =>
      intro u h
      rw [Lib.decDigits, dif_pos (by omega)]
      simp
    | succ k ih =>
      intro u h
      rw [Lib.decDigits]
      split
      · simp
      · rw [List.length_append, List.length_singleton]
        have := ih (u / 10) (by rw [Nat.pow_succ] at h; omega)
        omega
  exact key 15 u (by omega)
theorem itoa_len17 (n : Int) (h : n.natAbs ≤ 9007199254740992) : (Lib.itoa n).length ≤ 17 := by
  unfold Lib.itoa
  split
  · have := decDigits_len17 n.natAbs h
    simp only [List.length_cons]; omega
  · have := decDigits_len17 n.toNat (by omega)
    omega
theorem itoa_ne (n : Int) : Lib.itoa n ≠ [] := by
  unfold Lib.itoa
  split
  · simp
  · exact decDigits_ne _
theorem decNat_dec (u : Nat) : Lib.decNat (Lib.decDigits u) = some u := by
  unfold Lib.decNat
  rw [if_neg, decFrom_dec]
  rw [List.isEmpty_iff]
  exact decDigits_ne u
theorem atoi_itoa (n : Int) : Lib.atoi (Lib.itoa n) = some n := by
  unfold Lib.itoa
  split
  · rename_i h
    unfold Lib.atoi
    simp only [beq_self_eq_true, if_true]
    rw [decNat_dec]
    simp only [Option.map_some]
    congr 1
    omega
  · rename_i h
    have hd := decNat_dec n.toNat
    have hb := decDigits_dig n.toNat
    cases hl : Lib.decDigits n.toNat with
    | nil => exact absurd hl (decDigits_ne _)
    | cons c r =>
      rw [hl] at hd hb
      have hc := hb c (List.mem_cons_self ..)
      have h1 : (c == 45) = false := by
        rw [beq_eq_false_iff_ne]; rintro rfl; exact absurd hc (by unfold isDig; decide)
      have h2 : (c == 43) = false := by
        rw [beq_eq_false_iff_ne]; rintro rfl; exact absurd hc (by unfold isDig; decide)
      unfold Lib.atoi
      simp only [h1, h2, Bool.false_eq_true, if_false]
      rw [hd]
      simp only [Option.map_some]
      congr 1
      omega
theorem atoiV_itoa (n : Int) (h : n.natAbs ≤ 9007199254740992) : atoiV (Lib.itoa n) = n := by
  unfold atoiV
  rw [Lib.atoiAll_short _ (by have := itoa_len17 n h; omega), atoi_itoa]
  rfl
theorem trim_dot (l : List UInt8) : Lib.trimSuffix (l ++ [46]) [46] = l := by
  unfold Lib.trimSuffix Lib.hasSuffix
  rw [if_pos (by rw [List.isSuffixOf_iff_suffix]; exact ⟨l, rfl⟩)]
  simp
/-- a word by its sign and its rung -/
theorem word_of {w : Nat} (h : w < 18446744073709551616) : w = (if negW w then B63 else 0) + rungW w := by
  rw [negW_lt h]
  unfold rungW
  by_cases e : B63 ≤ w
  · rw [decide_eq_true e]; simp only [if_true]; unfold B63 at *; omega
  · rw [decide_eq_false e]; simp only [Bool.false_eq_true, if_false]; unfold B63 at *; omega
theorem word_ext {v w : Nat} (hv : v < 18446744073709551616) (hw : w < 18446744073709551616) (h1 : negW v = negW w) (h2 : rungW v = rungW w) : v = w := by
  rw [word_of hv, word_of hw, h1, h2]
/-- a whole number's word is its float's -/
theorem IsInt.eq {w : Nat} {a : Int} (h : IsInt w a) : w = fromW a := by
  have hle : a.natAbs ≤ 9007199254740992 := by
    have h1 := mag_le h.le
    rw [h.mg, mag53] at h1
    exact Nat.le_of_mul_le_mul_right h1 U_pos
  have k := fromW_int hle
  exact word_ext h.lt k.lt (by rw [h.neg, k.neg]) (mag_inj (by rw [h.mg, k.mg]))
theorem isInt_of {w : Nat} (hlt : w < 18446744073709551616) (hw : wholeW w = true) (hz : ¬ (negW w = true ∧ wholeV w = 0)) : IsInt w (wholeV w) := by
  have hw' := hw
  unfold wholeW at hw'
  rw [Bool.and_eq_true] at hw'
  have hr : rungW w ≤ R53 := of_decide_eq_true hw'.1
  have hm : mag (rungW w) % U = 0 := of_decide_eq_true hw'.2
  have hv : wholeV w = if negW w then -(intW w : Int) else intW w := by unfold wholeV; rw [if_pos hw]
  refine ⟨?_, ?_, hr, hlt⟩
  · rw [hv]
    cases hn : negW w with
    | true =>
      simp only [if_true]
      have : intW w ≠ 0 := fun e => hz ⟨hn, by rw [hv, hn, e]; rfl⟩
      rw [decide_eq_true (by omega)]
    | false =>
      simp only [Bool.false_eq_true, if_false]
      rw [decide_eq_false (by omega)]
  · have hi : (wholeV w).natAbs = intW w := by rw [hv]; split <;> omega
    rw [hi]
    have := Nat.div_add_mod (mag (rungW w)) U
    rw [hm, Nat.add_zero] at this
    unfold intW
    rw [Nat.mul_comm, this]
theorem neg_zero {w : Nat} (hlt : w < 18446744073709551616) (hw : wholeW w = true) (hn : negW w = true) (hv : wholeV w = 0) : w = B63 := by
  have hw' := hw
  unfold wholeW at hw'
  rw [Bool.and_eq_true] at hw'
  have hm : mag (rungW w) % U = 0 := of_decide_eq_true hw'.2
  unfold wholeV at hv
  rw [if_pos hw, hn] at hv
  simp only [if_true] at hv
  have h0 : intW w = 0 := by omega
  have h1 := Nat.div_add_mod (mag (rungW w)) U
  unfold intW at h0
  rw [h0, hm] at h1
  have h2 : mag (rungW w) = mag 0 := by rw [mag_low (show (0 : Nat) < B52 by decide)]; omega
  have h3 := mag_inj h2
  have := word_of hlt
  rw [hn, h3] at this
  simpa using this
theorem inf_word {w : Nat} (hlt : w < 18446744073709551616) (s : Bool) (h : infW s w = true) : w = (if s then 18442240474082181120 else 9218868437227405312) := by
  unfold infW at h
  rw [Bool.and_eq_true, beq_iff_eq, beq_iff_eq] at h
  have := word_of hlt
  rw [h.1, h.2] at this
  rw [this]
  cases s <;> rfl
/-- the four kinds of text -/
theorem hex_ne46 (k u : Nat) : ∀ c ∈ hexN k u, c ≠ 46 := by
  induction k with
  | zero => intro c hc; cases hc
  | succ k ih =>
    intro c hc
    unfold hexN at hc
    rcases List.mem_cons.1 hc with h | h
    · have hd : u / 16 ^ k % 16 < 16 := Nat.mod_lt _ (by decide)
      rintro rfl
      have h2 := hexd_dig _ hd
      rw [← h, show hexd 46 = none from by decide] at h2
      cases h2
    · exact ih c h
theorem cand_print (u : Nat) (h : u < 18446744073709551616) : candV (printL u) = canonF (u : Int) := by
  unfold canonF
  rw [Int.toNat_natCast]
  unfold printL
  cases hn : nanW u with
  | true => simp only [if_true]; decide
  | false =>
    simp only [Bool.false_eq_true, if_false]
    cases h1 : infW false u with
    | true =>
      rw [inf_word h false h1]
      simp only [if_true]; decide
    | false =>
      simp only [Bool.false_eq_true, if_false]
      cases h2 : infW true u with
      | true =>
        rw [inf_word h true h2]
        simp only [if_true]; decide
      | false =>
        simp only [Bool.false_eq_true, if_false]
        cases hw : wholeW u with
        | true =>
          simp only [if_true]
          by_cases hz : negW u = true ∧ wholeV u = 0
          · rw [neg_zero h hw hz.1 hz.2, if_pos (by rw [← neg_zero h hw hz.1 hz.2, hz.1, hz.2]; rfl)]
            decide
          · rw [if_neg (by simpa using hz)]
            have hi := isInt_of h hw hz
            have hle : (wholeV u).natAbs ≤ 9007199254740992 := wholeV_le u
            have hin : inR (wholeV u) = true := by unfold inR; rw [decide_eq_true (by omega), decide_eq_true (by omega)]; rfl
            have hb := itoa_bytes (wholeV u)
            have hne := itoa_ne (wholeV u)
            have hat := atoiV_itoa (wholeV u) hle
            unfold candV
            have hp : Lib.hasPrefix (Lib.itoa (wholeV u) ++ [46]) [48, 120] = false := by
              cases hh : Lib.hasPrefix (Lib.itoa (wholeV u) ++ [46]) [48, 120] with
              | false => rfl
              | true =>
                exfalso
                unfold Lib.hasPrefix at hh
                rw [List.isPrefixOf_iff_prefix] at hh
                obtain ⟨t, ht⟩ := hh
                have hm : (120 : UInt8) ∈ Lib.itoa (wholeV u) ++ [46] := by rw [← ht]; simp
                rcases List.mem_append.1 hm with hm | hm
                · rcases hb _ hm with e | e
                  · exact absurd e (by decide)
                  · exact absurd e (by unfold isDig; decide)
                · exact absurd hm (by decide)
            have last : ∀ l : List UInt8, Lib.itoa (wholeV u) ++ [46] = l → l.getLast? = some 46 := by
              rintro l rfl; simp
            rw [if_neg (fun e => absurd (last _ e) (by decide)), if_neg (fun e => absurd (last _ e) (by decide)), if_neg (fun e => absurd (last _ e) (by decide)), if_neg, hp, if_neg (by decide), trim_dot, hat]
            · unfold fromV
              rw [if_pos hin, ← hi.eq]
            · intro e
              have e2 : Lib.itoa (wholeV u) = [45, 48] := List.append_cancel_right (show Lib.itoa (wholeV u) ++ [46] = [45, 48] ++ [46] from e)
              rw [e2] at hat
              have h0 : wholeV u = 0 := by rw [← hat]; decide
              rw [h0, Lib.itoa, if_neg (by decide), show Int.toNat 0 = 0 from rfl, Lib.decDigits, dif_pos (by decide)] at e2
              cases e2
        | false =>
          simp only [Bool.false_eq_true, if_false]
          unfold candV
          have hlen : ([48, 120] ++ hexN 16 u).length = 18 := by rw [List.length_append, hexN_length]; rfl
          have hp : Lib.hasPrefix ([48, 120] ++ hexN 16 u) [48, 120] = true := by
            unfold Lib.hasPrefix; rw [List.isPrefixOf_iff_prefix]; exact ⟨_, rfl⟩
          rw [if_neg (fun e => by rw [e] at hlen; exact absurd hlen (by decide)), if_neg (fun e => by rw [e] at hlen; exact absurd hlen (by decide)), if_neg (fun e => by rw [e] at hlen; exact absurd hlen (by decide)), if_neg (fun e => by rw [e] at hlen; exact absurd hlen (by decide)), if_pos hp]
          unfold Lib.trimPrefix
          rw [if_pos hp]
          rw [show List.drop ([48, 120] : List UInt8).length ([48, 120] ++ hexN 16 u) = hexN 16 u from rfl, pu16_hex0 u h]
theorem print_canon (u : Int) (h0 : 0 ≤ u) : printL (canonF u).toNat = printL u.toNat := by
  unfold canonF
  split
  · rename_i hn
    have e : printL u.toNat = [110, 97, 110] := by unfold printL; rw [if_pos hn]
    rw [e]
    decide
  · rfl
theorem print_eq {a b : Int} (a0 : 0 ≤ a) (a1 : a < 18446744073709551616) (b0 : 0 ≤ b) (b1 : b < 18446744073709551616) : printL a.toNat = printL b.toNat ↔ canonF a = canonF b := by
  have ha := cand_print a.toNat (by omega)
  have hb := cand_print b.toNat (by omega)
  rw [Int.toNat_of_nonneg a0] at ha
  rw [Int.toNat_of_nonneg b0] at hb
  constructor
  · intro h; rw [← ha, ← hb, h]
  · intro h; rw [← print_canon a a0, ← print_canon b b0, h]
theorem parse_print (u : Int) (h0 : 0 ≤ u) (h1 : u < 18446744073709551616) : parseOk (printL u.toNat) = true ∧ parseV (printL u.toNat) = canonF u := by
  have hc := cand_print u.toNat (by omega)
  rw [Int.toNat_of_nonneg h0] at hc
  have hok : parseOk (printL u.toNat) = true := by
    unfold parseOk
    rw [hc, print_canon u h0, canon_canon]
    simp
  refine ⟨hok, ?_⟩
  unfold parseV
  rw [if_pos hok, hc]
end Go.Proofs.YtacafhmagonngaaGreatDoor
