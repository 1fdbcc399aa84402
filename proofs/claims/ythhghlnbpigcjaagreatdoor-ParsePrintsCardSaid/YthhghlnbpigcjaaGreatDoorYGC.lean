/- Joined texts: Ff2; Ff3; Fp0; Fp1; Fp2; Fp3; Gl. -/
import Derived.Test.YthhghlnbpigcjaaGreatDoorYGB
import Derived.Test.YthhghlnbpigcjaaGreatDoorYGA
import Derived.Lib.AtoiTie
import Derived.Deep.QuietTactic
import Derived.BigQuiet
import Derived.Test.YthhghlnbpigcjaaGreatDoorRows
import Derived.ProofKit
import Derived.LaidMore
import Derived.Lay
import Derived.Stop.Joined
import Derived.Stop.LaidErr
import Derived.Lib.LaidTab
set_option linter.unusedVariables false
set_option linter.unusedSimpArgs false
namespace Go.Proofs.YthhghlnbpigcjaaGreatDoor
open Go.RowKit

theorem canon_canon (u : Int) : canonF (canonF u) = canonF u := by
  cases h : nanW u.toNat with
  | true =>
    have : canonF u = 9221120237041090560 := by unfold canonF; rw [if_pos h]
    rw [this]; decide
  | false =>
    have : canonF u = u := by unfold canonF; rw [if_neg (by simp [h])]
    rw [this, this]
end Go.Proofs.YthhghlnbpigcjaaGreatDoor
namespace Go.Proofs.YthhghlnbpigcjaaGreatDoor
open Go.RowKit

/-- a whole number's word by its parts -/
theorem fromW_parts (n : Int) (a j e m : Nat) (h0 : n.natAbs = a) (h1 : a ≠ 0) (hle : a ≤ 9007199254740992) (h2 : m = a * 2 ^ j) (h3 : e + j = 1075) (h4 : 4503599627370496 ≤ m) (h5 : m < 9007199254740992) (hj : j ≤ 1074) :
    fromW n = (if n < 0 then B63 else 0) + (e * B52 + (m - B52)) := by
  obtain ⟨r, q1, q2, q3⟩ := fromW_spec n (by rw [h0]; exact hle)
  have hr : mag (e * B52 + (m - B52)) = mag r := by
    rw [mag_parts (e := e) (m := m - B52) rfl (by unfold B52; omega) (by omega), show B52 + (m - B52) = m from by unfold B52 at *; omega, q2, h0, h2, U_split j hj, show e - 1 = 1074 - j from by omega, Nat.mul_assoc, Nat.mul_comm (2 ^ j)]
  have hr2 := mag_inj hr
  rw [q1, ← hr2]
  have hs : Ieee.double.signWeight = B63 := by decide
  unfold Ieee.Format.word
  rw [hs]
  by_cases hn : n < 0
  · rw [decide_eq_true hn, if_pos hn, if_pos rfl]
  · rw [decide_eq_false hn, if_neg hn, if_neg (by decide), Nat.zero_add]
theorem fromW_top (n : Int) (h0 : n.natAbs = 9007199254740992) : fromW n = (if n < 0 then B63 else 0) + R53 := by
  obtain ⟨r, q1, q2, q3⟩ := fromW_spec n (by omega)
  have hr : mag R53 = mag r := by rw [q2, h0, mag53]
  have hr2 := mag_inj hr
  rw [q1, ← hr2]
  have hs : Ieee.double.signWeight = B63 := by decide
  unfold Ieee.Format.word
  rw [hs]
  by_cases hn : n < 0
  · rw [decide_eq_true hn, if_pos hn, if_pos rfl]
  · rw [decide_eq_false hn, if_neg hn, if_neg (by decide), Nat.zero_add]
/-- the state of the first loop -/
def FInv (a j m mm : Nat) (E : Int) : Prop := m = a * 2 ^ j ∧ m + mm = 9007199254740992 ∧ j ≤ 53 ∧ E = 1075 - (j : Int) ∧ (j = 0 ∨ m < 9007199254740992)
theorem FInv.next {a j m mm : Nat} {E : Int} (h : FInv a j m mm E) (ha : 1 ≤ a) (hm : m < 4503599627370496) : FInv a (j + 1) (m * 2) (mm - m) (E - 1) := by
  have hj : j ≤ 52 := by
    have h1 := h.1
    have h2 : 2 ^ j ≤ m := by rw [h1]; exact Nat.le_mul_of_pos_left _ ha
    have h3 : 2 ^ j < 2 ^ 52 := by omega
    have := (Nat.pow_lt_pow_iff_right (by decide : 1 < 2)).1 h3
    omega
  obtain ⟨q1, q2, q3, q4, q5⟩ := h
  exact ⟨by rw [q1, Nat.pow_succ, Nat.mul_assoc], by omega, by omega, by omega, by omega⟩
def FTop (mm : Nat) (x k : Value) : Prop := (mm = 1 ∧ x = .int .u64 9007199254740992 ∧ k = .int .u64 1075) ∨ (mm = 0 ∧ x = .int .u64 4503599627370496 ∧ k = .int .u64 1076)
set_option maxHeartbeats 8000000 in
set_option maxRecDepth 100000 in
theorem fromintR_any (w : World) (n : Int) (n0 : -9223372036854775808 ≤ n) (n1 : n ≤ 9223372036854775807) :
    Calls Tryz.prog 81 #[.int .i64 n] w fun e w' => e = .returned (.tuple #[.int .u64 (fromV n), .bool (inR n)]) ∧ w = w' := by
  by_cases h1 : n < -9007199254740992
  · have h2 : inR n = false := by unfold inR; rw [decide_eq_false (by omega), Bool.false_and]
    have h3 : fromV n = 0 := by unfold fromV; rw [if_neg (by simp [h2])]
    rw [h2, h3]
    clear h2 h3
    go_enter Tryz.func81, Tryz.ntmps81
    go_wp2_with fail
    go_ret2
    exact ⟨rfl, rfl⟩
  by_cases h4 : 9007199254740992 < n
  · have h2 : inR n = false := by unfold inR; rw [decide_eq_false (p := n ≤ _) (by omega), Bool.and_false]
    have h3 : fromV n = 0 := by unfold fromV; rw [if_neg (by simp [h2])]
    rw [h2, h3]
    clear h2 h3
    go_enter Tryz.func81, Tryz.ntmps81
    go_wp2_with fail
    go_ret2
    exact ⟨rfl, rfl⟩
  have h2 : inR n = true := by unfold inR; rw [decide_eq_true (by omega), decide_eq_true (by omega)]; rfl
  have h3 : fromV n = fromW n := by unfold fromV; rw [if_pos h2]
  rw [h2, h3]
  clear h2 h3
  by_cases h5 : n = 0
  · subst h5
    have h6 : (fromW 0 : Int) = 0 := by decide
    rw [h6]
    clear h6 h1 h4
    go_enter Tryz.func81, Tryz.ntmps81
    go_wp2_with fail
    go_ret2
    exact ⟨rfl, rfl⟩
  obtain ⟨a, ha⟩ : ∃ a, n.natAbs = a := ⟨_, rfl⟩
  have Hlow : Hid (∀ j m mm E, FInv a j m mm E → 4503599627370496 ≤ m → m < 9007199254740992 → fromW n = (if n < 0 then B63 else 0) + (E.toNat * B52 + (m - B52))) := by
    refine Lib.hid fun j m mm E h k1 k2 => ?_
    obtain ⟨q1, q2, q3, q4, q5⟩ := h
    exact fromW_parts n a j E.toNat m ha (by omega) (by omega) q1 (by omega) k1 k2 (by omega)
  have Htop : Hid (a = 9007199254740992 → fromW n = (if n < 0 then B63 else 0) + R53) := Lib.hid fun h => fromW_top n (by omega)
  have Ha : Hid (1 ≤ a ∧ a ≤ 9007199254740992) := Lib.hid (by omega)
  have h5' : (n == 0) = false := by rw [beq_eq_false_iff_ne]; exact h5
  generalize hR : ((fromW n : Nat) : Int) = R
  have HR := Lib.hid hR
  clear hR
  by_cases hneg : n < 0
  · have hs : Hid (∀ x : Nat, (if n < 0 then B63 else 0) + x = B63 + x) := Lib.hid fun x => by rw [if_pos hneg]
    have Han : Hid (-n = (a : Int)) := Lib.hid (by omega)
    have hna : -n = -n := rfl
    generalize hN : -n = N at Han
    have hN0 : 0 ≤ N := by omega
    have hN1 : N ≤ 9007199254740992 := by omega
    have hmul : n * -1 = N := by omega
    clear ha h5 hna
    go_enter Tryz.func81, Tryz.ntmps81
    go_wp2_with fail
    go_loopg [5, 6] (9007199254740992 - a) (fun mm x k wr => ∃ (j m : Nat) (E : Int), FInv a j m mm E ∧ x = .int .u64 (m : Int) ∧ k = .int .u64 E ∧ w = wr)
    case atStart => exact ⟨0, a, 1075, ⟨by omega, by have := Ha.out; omega, by omega, by omega, .inl rfl⟩, by rw [Han.out], rfl, rfl⟩
    case round =>
      obtain ⟨j, m, E, hinv, rfl, rfl, rfl⟩ := hrel
      have hm0 : (0 : Int) ≤ (m : Int) := by omega
      have hm1 : (m : Int) ≤ 9007199254740992 := by have := hinv.2.1; omega
      have hE0 : 1022 ≤ E := by have := hinv.2.2.2.1; have := hinv.2.2.1; omega
      have hE1 : E ≤ 1075 := by have := hinv.2.2.2.1; omega
      have Hi := Lib.hid hinv
      clear hinv
      by_cases hm : m < 4503599627370496
      · have Hn := Lib.hid (Hi.out.next Ha.out.1 hm)
        have hm2 : (m : Int) < 4503599627370496 := by omega
        have Hmp : Hid (1 ≤ m) := Lib.hid (by rw [Hi.out.1]; exact Nat.le_trans Ha.out.1 (Nat.le_mul_of_pos_right _ (Nat.pow_pos (by decide))))
        have Hm2 := Lib.hid hm
        clear hm
        have hcast : (m : Int) * 2 = ((m * 2 : Nat) : Int) := by omega
        have Hc := Lib.hid hcast
        clear hcast
        go_wp2_with fail
        go_roundg (gk - m)
        case measure => have := Hi.out.2.1; have := Hmp.out; have := Hm2.out; omega
        case rel => exact ⟨j + 1, m * 2, E - 1, Hn.out, by rw [← Hc.out], by go_num, rfl⟩
      · by_cases hm2 : m < 9007199254740992
        · have hl := Hlow.out j m gk E Hi.out (by omega) hm2
          rw [hs.out] at hl
          have hR2 : R = 9223372036854775808 + E * 4503599627370496 + (m : Int) - 4503599627370496 := by
            rw [← HR.out, hl]
            unfold B63 B52
            omega
          have Hl := Lib.hid hR2
          clear hR2
          have hm3 : ¬ (m : Int) < 4503599627370496 := by omega
          have hm4 : (m : Int) < 9007199254740992 := by omega
          clear hl hm hm2
          have hm5 : 4503599627370496 ≤ (m : Int) := by omega
          clear hm3 hm0 hm1
          generalize (m : Int) = M at *
          go_wp2_with fail
          go_loopg [5, 6] 0 (fun mm x k wr => x = .int .u64 M ∧ k = .int .u64 E ∧ w = wr)
          case atStart => exact ⟨rfl, rfl, rfl⟩
          case round =>
            obtain ⟨rfl, rfl, rfl⟩ := hrel
            go_wp2_with fail
            go_ret2
            exact ⟨by rw [Hl.out]; rfl, rfl⟩
        · have ha : a = 9007199254740992 := by
            rcases Hi.out.2.2.2.2 with e | e
            · have := Hi.out.1; rw [e] at this; omega
            · omega
          have hl := Htop.out ha
          rw [hs.out] at hl
          have Hl := Lib.hid hl
          have hE : E = 1075 := by
            rcases Hi.out.2.2.2.2 with e | e
            · have := Hi.out.2.2.2.1; rw [e] at this; omega
            · omega
          have hmm : m = 9007199254740992 := by have := Hi.out.2.1; omega
          subst hE
          subst hmm
          clear hl hm hm2 ha
          go_wp2_with fail
          go_loopg [5, 6] 1 (fun mm x k wr => FTop mm x k ∧ w = wr)
          case atStart => exact ⟨.inl ⟨rfl, rfl, rfl⟩, rfl⟩
          case round =>
            obtain ⟨htop, rfl⟩ := hrel
            rcases htop with ⟨rfl, rfl, rfl⟩ | ⟨rfl, rfl, rfl⟩
            · go_wp2_with fail
              go_roundg 0
              case measure => omega
              case rel => exact ⟨.inr ⟨rfl, rfl, rfl⟩, rfl⟩
            · go_wp2_with fail
              go_ret2
              exact ⟨by rw [← HR.out, Hl.out]; rfl, rfl⟩
  · have hs : Hid (∀ x : Nat, (if n < 0 then B63 else 0) + x = 0 + x) := Lib.hid fun x => by rw [if_neg hneg]
    have Han : Hid (n = (a : Int)) := Lib.hid (by omega)
    clear ha h5
    go_enter Tryz.func81, Tryz.ntmps81
    go_wp2_with fail
    go_loopg [5, 6] (9007199254740992 - a) (fun mm x k wr => ∃ (j m : Nat) (E : Int), FInv a j m mm E ∧ x = .int .u64 (m : Int) ∧ k = .int .u64 E ∧ w = wr)
    case atStart => exact ⟨0, a, 1075, ⟨by omega, by have := Ha.out; omega, by omega, by omega, .inl rfl⟩, by rw [Han.out], rfl, rfl⟩
    case round =>
      obtain ⟨j, m, E, hinv, rfl, rfl, rfl⟩ := hrel
      have hm0 : (0 : Int) ≤ (m : Int) := by omega
      have hm1 : (m : Int) ≤ 9007199254740992 := by have := hinv.2.1; omega
      have hE0 : 1022 ≤ E := by have := hinv.2.2.2.1; have := hinv.2.2.1; omega
      have hE1 : E ≤ 1075 := by have := hinv.2.2.2.1; omega
      have Hi := Lib.hid hinv
      clear hinv
      by_cases hm : m < 4503599627370496
      · have Hn := Lib.hid (Hi.out.next Ha.out.1 hm)
        have hm2 : (m : Int) < 4503599627370496 := by omega
        have Hmp : Hid (1 ≤ m) := Lib.hid (by rw [Hi.out.1]; exact Nat.le_trans Ha.out.1 (Nat.le_mul_of_pos_right _ (Nat.pow_pos (by decide))))
        have Hm2 := Lib.hid hm
        clear hm
        have hcast : (m : Int) * 2 = ((m * 2 : Nat) : Int) := by omega
        have Hc := Lib.hid hcast
        clear hcast
        go_wp2_with fail
        go_roundg (gk - m)
        case measure => have := Hi.out.2.1; have := Hmp.out; have := Hm2.out; omega
        case rel => exact ⟨j + 1, m * 2, E - 1, Hn.out, by rw [← Hc.out], by go_num, rfl⟩
      · by_cases hm2 : m < 9007199254740992
        · have hl := Hlow.out j m gk E Hi.out (by omega) hm2
          rw [hs.out] at hl
          have hR2 : R = E * 4503599627370496 + (m : Int) - 4503599627370496 := by
            rw [← HR.out, hl]
            unfold B52
            omega
          have Hl := Lib.hid hR2
          clear hR2
          have hm3 : ¬ (m : Int) < 4503599627370496 := by omega
          have hm4 : (m : Int) < 9007199254740992 := by omega
          clear hl hm hm2
          have hm5 : 4503599627370496 ≤ (m : Int) := by omega
          clear hm3 hm0 hm1
          generalize (m : Int) = M at *
          go_wp2_with fail
          go_loopg [5, 6] 0 (fun mm x k wr => x = .int .u64 M ∧ k = .int .u64 E ∧ w = wr)
          case atStart => exact ⟨rfl, rfl, rfl⟩
          case round =>
            obtain ⟨rfl, rfl, rfl⟩ := hrel
            go_wp2_with fail
            go_ret2
            exact ⟨by rw [Hl.out]; rfl, rfl⟩
        · have ha : a = 9007199254740992 := by
            rcases Hi.out.2.2.2.2 with e | e
            · have := Hi.out.1; rw [e] at this; omega
            · omega
          have hl := Htop.out ha
          rw [hs.out] at hl
          have Hl := Lib.hid hl
          have hE : E = 1075 := by
            rcases Hi.out.2.2.2.2 with e | e
            · have := Hi.out.2.2.2.1; rw [e] at this; omega
            · omega
          have hmm : m = 9007199254740992 := by have := Hi.out.2.1; omega
          subst hE
          subst hmm
          clear hl hm hm2 ha
          go_wp2_with fail
          go_loopg [5, 6] 1 (fun mm x k wr => FTop mm x k ∧ w = wr)
          case atStart => exact ⟨.inl ⟨rfl, rfl, rfl⟩, rfl⟩
          case round =>
            obtain ⟨htop, rfl⟩ := hrel
            rcases htop with ⟨rfl, rfl, rfl⟩ | ⟨rfl, rfl, rfl⟩
            · go_wp2_with fail
              go_roundg 0
              case measure => omega
              case rel => exact ⟨.inr ⟨rfl, rfl, rfl⟩, rfl⟩
            · go_wp2_with fail
              go_ret2
              exact ⟨by rw [← HR.out, Hl.out]; rfl, rfl⟩
end Go.Proofs.YthhghlnbpigcjaaGreatDoor
namespace Go.Proofs.YthhghlnbpigcjaaGreatDoor
open Go.RowKit

theorem hexd_dig (d : Nat) (h : d < 16) : hexd (dig d) = some d := by
  match d, h with
  | 0, _ => rfl
  | 1, _ => rfl
  | 2, _ => rfl
  | 3, _ => rfl
  | 4, _ => rfl
  | 5, _ => rfl
  | 6, _ => rfl
  | 7, _ => rfl
  | 8, _ => rfl
  | 9, _ => rfl
  | 10, _ => decide
  | 11, _ => decide
  | 12, _ => decide
  | 13, _ => decide
  | 14, _ => decide
  | 15, _ => decide
  | d + 16, h => omega
theorem pu16_hex (k : Nat) : ∀ acc u, acc * 16 ^ k + u % 16 ^ k < 18446744073709551616 → pu16 acc (hexN k u) = (acc * 16 ^ k + u % 16 ^ k, 0) := by
  induction k with
  | zero => intro acc u _; simp [hexN, pu16, Nat.mod_one]
  | succ k ih =>
    intro acc u h
    have hd : u / 16 ^ k % 16 < 16 := Nat.mod_lt _ (by decide)
    have hp : 0 < 16 ^ k := Nat.pow_pos (by decide)
    have hsplit : u % 16 ^ (k + 1) = u / 16 ^ k % 16 * 16 ^ k + u % 16 ^ k := by
      rw [Nat.pow_succ, Nat.mod_mul, Nat.add_comm, Nat.mul_comm]
    have e : (acc * 16 + u / 16 ^ k % 16) * 16 ^ k = acc * 16 ^ (k + 1) + u / 16 ^ k % 16 * 16 ^ k := by
      rw [Nat.add_mul, Nat.pow_succ, Nat.mul_assoc, Nat.mul_comm 16]
    unfold hexN pu16
    rw [hexd_dig _ hd]
    simp only
    rw [if_neg, ih _ _ (by rw [e]; omega), e, hsplit, Nat.add_assoc]
    intro hc
    have h1 : 1152921504606846976 * 16 ≤ acc * 16 ^ (k + 1) := by
      rw [Nat.pow_succ, Nat.mul_comm (16 ^ k), ← Nat.mul_assoc]
      exact Nat.le_trans (Nat.mul_le_mul_right 16 hc) (Nat.le_mul_of_pos_right _ hp)
    omega
theorem pu16_hex0 (u : Nat) (h : u < 18446744073709551616) : pu16 0 (hexN 16 u) = (u, 0) := by
  have hm : u % 16 ^ 16 = u := Nat.mod_eq_of_lt h
  have := pu16_hex 16 0 u (by rw [hm]; omega)
  rw [this, hm]
  simp

/-! ### numerals -/
theorem decFrom_append (a : List UInt8) : ∀ (acc n : Nat) (b : List UInt8), Lib.decFrom acc a = some n → Lib.decFrom acc (a ++ b) = Lib.decFrom n b := by
  induction a with
  | nil => intro acc n b h; injection h with h; subst h; rfl
  | cons c r ih =>
    intro acc n b h
    simp only [List.cons_append, Lib.decFrom] at h ⊢
    split
    · rename_i d hd
      rw [hd] at h
      exact ih _ _ _ h
    · rename_i hd
      rw [hd] at h
      cases h
theorem digit_byte (d : Nat) (h : d < 10) : Lib.digitVal (UInt8.ofNat (48 + d)) = some d := by
  match d, h with
  | 0, _ => rfl
  | 1, _ => rfl
  | 2, _ => rfl
  | 3, _ => rfl
  | 4, _ => rfl
  | 5, _ => rfl
  | 6, _ => rfl
  | 7, _ => rfl
  | 8, _ => rfl
  | 9, _ => rfl
  | d + 10, h => omega
theorem decFrom_dec (u : Nat) : Lib.decFrom 0 (Lib.decDigits u) = some u := by
  induction u using Nat.strongRecOn with
  | _ u ih =>
    rw [Lib.decDigits]
    split
    · rename_i h
      unfold Lib.decFrom
      rw [digit_byte u h]
      simp [Lib.decFrom]
    · rename_i h
      rw [decFrom_append _ 0 _ _ (ih (u / 10) (by omega))]
      unfold Lib.decFrom
      rw [digit_byte _ (Nat.mod_lt _ (by decide))]
      simp only [Lib.decFrom]
      congr 1
      omega
theorem decDigits_ne (u : Nat) : Lib.decDigits u ≠ [] := by
  rw [Lib.decDigits]
  split
  · simp
  · simp
/-- a digit's byte -/
def isDig (c : UInt8) : Prop := 48 ≤ c.toNat ∧ c.toNat ≤ 57
theorem decDigits_dig (u : Nat) : ∀ c ∈ Lib.decDigits u, isDig c := by
  induction u using Nat.strongRecOn with
  | _ u ih =>
    have hb : ∀ d, d < 10 → isDig (UInt8.ofNat (48 + d)) := by
      intro d hd
      unfold isDig
      rw [UInt8.toNat_ofNat']
      omega
    rw [Lib.decDigits]
    split
    · rename_i h
      intro c hc
      rw [List.mem_singleton] at hc
      subst hc
      exact hb u h
    · rename_i h
      intro c hc
      rcases List.mem_append.1 hc with hc | hc
      · exact ih (u / 10) (by omega) c hc
      · rw [List.mem_singleton] at hc
        subst hc
        exact hb _ (Nat.mod_lt _ (by decide))
theorem itoa_bytes (n : Int) : ∀ c ∈ Lib.itoa n, c = 45 ∨ isDig c := by
  unfold Lib.itoa
  split
  · intro c hc
    rcases List.mem_cons.1 hc with h | h
    · exact .inl h
    · exact .inr (decDigits_dig _ c h)
  · intro c hc
    exact .inr (decDigits_dig _ c hc)
theorem decDigits_len17 (u : Nat) (h : u ≤ 9007199254740992) : (Lib.decDigits u).length ≤ 16 := by
  have key : ∀ k u, u < 10 ^ (k + 1) → (Lib.decDigits u).length ≤ k + 1 := by
    intro k
    induction k with
    | zero =>
      intro u h
      rw [Lib.decDigits, dif_pos (by omega)]
      simp
    | succ k ih =>
      intro u h
      rw [Lib.decDigits]
      split
      · simp
      · rw [List.length_append, List.length_singleton]
        have := ih (u / 10) (by rw [Nat.pow_succ] at h; omega)
        omega
  exact key 15 u (by omega)
theorem itoa_len17 (n : Int) (h : n.natAbs ≤ 9007199254740992) : (Lib.itoa n).length ≤ 17 := by
  unfold Lib.itoa
  split
  · have := decDigits_len17 n.natAbs h
    simp only [List.length_cons]; omega
  · have := decDigits_len17 n.toNat (by omega)
    omega
theorem itoa_ne (n : Int) : Lib.itoa n ≠ [] := by
  unfold Lib.itoa
  split
  · simp
  · exact decDigits_ne _
theorem decNat_dec (u : Nat) : Lib.decNat (Lib.decDigits u) = some u := by
  unfold Lib.decNat
  rw [if_neg, decFrom_dec]
  rw [List.isEmpty_iff]
  exact decDigits_ne u
theorem atoi_itoa (n : Int) : Lib.atoi (Lib.itoa n) = some n := by
  unfold Lib.itoa
  split
  · rename_i h
    unfold Lib.atoi
    simp only [beq_self_eq_true, if_true]
    rw [decNat_dec]
    simp only [Option.map_some]
    congr 1
    omega
  · rename_i h
    have hd := decNat_dec n.toNat
    have hb := decDigits_dig n.toNat
    cases hl : Lib.decDigits n.toNat with
    | nil => exact absurd hl (decDigits_ne _)
    | cons c r =>
      rw [hl] at hd hb
      have hc := hb c (List.mem_cons_self ..)
      have h1 : (c == 45) = false := by
        rw [beq_eq_false_iff_ne]; rintro rfl; exact absurd hc (by unfold isDig; decide)
      have h2 : (c == 43) = false := by
        rw [beq_eq_false_iff_ne]; rintro rfl; exact absurd hc (by unfold isDig; decide)
      unfold Lib.atoi
      simp only [h1, h2, Bool.false_eq_true, if_false]
      rw [hd]
      simp only [Option.map_some]
      congr 1
      omega
theorem atoiV_itoa (n : Int) (h : n.natAbs ≤ 9007199254740992) : atoiV (Lib.itoa n) = n := by
  unfold atoiV
  rw [Lib.atoiAll_short _ (by have := itoa_len17 n h; omega), atoi_itoa]
  rfl
theorem trim_dot (l : List UInt8) : Lib.trimSuffix (l ++ [46]) [46] = l := by
  unfold Lib.trimSuffix Lib.hasSuffix
  rw [if_pos (by rw [List.isSuffixOf_iff_suffix]; exact ⟨l, rfl⟩)]
  simp
/-- a word by its sign and its rung -/
theorem word_of {w : Nat} (h : w < 18446744073709551616) : w = (if negW w then B63 else 0) + rungW w := by
  rw [negW_lt h]
  unfold rungW
  by_cases e : B63 ≤ w
  · rw [decide_eq_true e]; simp only [if_true]; unfold B63 at *; omega
  · rw [decide_eq_false e]; simp only [Bool.false_eq_true, if_false]; unfold B63 at *; omega
theorem word_ext {v w : Nat} (hv : v < 18446744073709551616) (hw : w < 18446744073709551616) (h1 : negW v = negW w) (h2 : rungW v = rungW w) : v = w := by
  rw [word_of hv, word_of hw, h1, h2]
/-- a whole number's word is its float's -/
theorem IsInt.eq {w : Nat} {a : Int} (h : IsInt w a) : w = fromW a := by
  have hle : a.natAbs ≤ 9007199254740992 := by
    have h1 := mag_le h.le
    rw [h.mg, mag53] at h1
    exact Nat.le_of_mul_le_mul_right h1 U_pos
  have k := fromW_int hle
  exact word_ext h.lt k.lt (by rw [h.neg, k.neg]) (mag_inj (by rw [h.mg, k.mg]))
theorem isInt_of {w : Nat} (hlt : w < 18446744073709551616) (hw : wholeW w = true) (hz : ¬ (negW w = true ∧ wholeV w = 0)) : IsInt w (wholeV w) := by
  have hw' := hw
  unfold wholeW at hw'
  rw [Bool.and_eq_true] at hw'
  have hr : rungW w ≤ R53 := of_decide_eq_true hw'.1
  have hm : mag (rungW w) % U = 0 := of_decide_eq_true hw'.2
  have hv : wholeV w = if negW w then -(intW w : Int) else intW w := by unfold wholeV; rw [if_pos hw]
  refine ⟨?_, ?_, hr, hlt⟩
  · rw [hv]
    cases hn : negW w with
    | true =>
      simp only [if_true]
      have : intW w ≠ 0 := fun e => hz ⟨hn, by rw [hv, hn, e]; rfl⟩
      rw [decide_eq_true (by omega)]
    | false =>
      simp only [Bool.false_eq_true, if_false]
      rw [decide_eq_false (by omega)]
  · have hi : (wholeV w).natAbs = intW w := by rw [hv]; split <;> omega
    rw [hi]
    have := Nat.div_add_mod (mag (rungW w)) U
    rw [hm, Nat.add_zero] at this
    unfold intW
    rw [Nat.mul_comm, this]
theorem neg_zero {w : Nat} (hlt : w < 18446744073709551616) (hw : wholeW w = true) (hn : negW w = true) (hv : wholeV w = 0) : w = B63 := by
  have hw' := hw
  unfold wholeW at hw'
  rw [Bool.and_eq_true] at hw'
  have hm : mag (rungW w) % U = 0 := of_decide_eq_true hw'.2
  unfold wholeV at hv
  rw [if_pos hw, hn] at hv
  simp only [if_true] at hv
  have h0 : intW w = 0 := by omega
  have h1 := Nat.div_add_mod (mag (rungW w)) U
  unfold intW at h0
  rw [h0, hm] at h1
  have h2 : mag (rungW w) = mag 0 := by rw [mag_low (show (0 : Nat) < B52 by decide)]; omega
  have h3 := mag_inj h2
  have := word_of hlt
  rw [hn, h3] at this
  simpa using this
theorem inf_word {w : Nat} (hlt : w < 18446744073709551616) (s : Bool) (h : infW s w = true) : w = (if s then 18442240474082181120 else 9218868437227405312) := by
  unfold infW at h
  rw [Bool.and_eq_true, beq_iff_eq, beq_iff_eq] at h
  have := word_of hlt
  rw [h.1, h.2] at this
  rw [this]
  cases s <;> rfl
/-- the four kinds of text -/
theorem hex_ne46 (k u : Nat) : ∀ c ∈ hexN k u, c ≠ 46 := by
  induction k with
  | zero => intro c hc; cases hc
  | succ k ih =>
    intro c hc
    unfold hexN at hc
    rcases List.mem_cons.1 hc with h | h
    · have hd : u / 16 ^ k % 16 < 16 := Nat.mod_lt _ (by decide)
      rintro rfl
      have h2 := hexd_dig _ hd
      rw [← h, show hexd 46 = none from by decide] at h2
      cases h2
    · exact ih c h
theorem cand_print (u : Nat) (h : u < 18446744073709551616) : candV (printL u) = canonF (u : Int) := by
  unfold canonF
  rw [Int.toNat_natCast]
  unfold printL
  cases hn : nanW u with
  | true => simp only [if_true]; decide
  | false =>
    simp only [Bool.false_eq_true, if_false]
    cases h1 : infW false u with
    | true =>
      rw [inf_word h false h1]
      simp only [if_true]; decide
    | false =>
      simp only [Bool.false_eq_true, if_false]
      cases h2 : infW true u with
      | true =>
        rw [inf_word h true h2]
        simp only [if_true]; decide
      | false =>
        simp only [Bool.false_eq_true, if_false]
        cases hw : wholeW u with
        | true =>
          simp only [if_true]
          by_cases hz : negW u = true ∧ wholeV u = 0
          · rw [neg_zero h hw hz.1 hz.2, if_pos (by rw [← neg_zero h hw hz.1 hz.2, hz.1, hz.2]; rfl)]
            decide
          · rw [if_neg (by simpa using hz)]
            have hi := isInt_of h hw hz
            have hle : (wholeV u).natAbs ≤ 9007199254740992 := wholeV_le u
            have hin : inR (wholeV u) = true := by unfold inR; rw [decide_eq_true (by omega), decide_eq_true (by omega)]; rfl
            have hb := itoa_bytes (wholeV u)
            have hne := itoa_ne (wholeV u)
            have hat := atoiV_itoa (wholeV u) hle
            unfold candV
            have hp : Lib.hasPrefix (Lib.itoa (wholeV u) ++ [46]) [48, 120] = false := by
              cases hh : Lib.hasPrefix (Lib.itoa (wholeV u) ++ [46]) [48, 120] with
              | false => rfl
              | true =>
                exfalso
                unfold Lib.hasPrefix at hh
                rw [List.isPrefixOf_iff_prefix] at hh
                obtain ⟨t, ht⟩ := hh
                have hm : (120 : UInt8) ∈ Lib.itoa (wholeV u) ++ [46] := by rw [← ht]; simp
                rcases List.mem_append.1 hm with hm | hm
                · rcases hb _ hm with e | e
                  · exact absurd e (by decide)
                  · exact absurd e (by unfold isDig; decide)
                · exact absurd hm (by decide)
            have last : ∀ l : List UInt8, Lib.itoa (wholeV u) ++ [46] = l → l.getLast? = some 46 := by
              rintro l rfl; simp
            rw [if_neg (fun e => absurd (last _ e) (by decide)), if_neg (fun e => absurd (last _ e) (by decide)), if_neg (fun e => absurd (last _ e) (by decide)), if_neg, hp, if_neg (by decide), trim_dot, hat]
            · unfold fromV
              rw [if_pos hin, ← hi.eq]
            · intro e
              have e2 : Lib.itoa (wholeV u) = [45, 48] := List.append_cancel_right (show Lib.itoa (wholeV u) ++ [46] = [45, 48] ++ [46] from e)
              rw [e2] at hat
              have h0 : wholeV u = 0 := by rw [← hat]; decide
              rw [h0, Lib.itoa, if_neg (by decide), show Int.toNat 0 = 0 from rfl, Lib.decDigits, dif_pos (by decide)] at e2
              cases e2
        | false =>
          simp only [Bool.false_eq_true, if_false]
          unfold candV
          have hlen : ([48, 120] ++ hexN 16 u).length = 18 := by rw [List.length_append, hexN_length]; rfl
          have hp : Lib.hasPrefix ([48, 120] ++ hexN 16 u) [48, 120] = true := by
            unfold Lib.hasPrefix; rw [List.isPrefixOf_iff_prefix]; exact ⟨_, rfl⟩
          rw [if_neg (fun e => by rw [e] at hlen; exact absurd hlen (by decide)), if_neg (fun e => by rw [e] at hlen; exact absurd hlen (by decide)), if_neg (fun e => by rw [e] at hlen; exact absurd hlen (by decide)), if_neg (fun e => by rw [e] at hlen; exact absurd hlen (by decide)), if_pos hp]
          unfold Lib.trimPrefix
          rw [if_pos hp]
          rw [show List.drop ([48, 120] : List UInt8).length ([48, 120] ++ hexN 16 u) = hexN 16 u from rfl, pu16_hex0 u h]
theorem print_canon (u : Int) (h0 : 0 ≤ u) : printL (canonF u).toNat = printL u.toNat := by
  unfold canonF
  split
  · rename_i hn
    have e : printL u.toNat = [110, 97, 110] := by unfold printL; rw [if_pos hn]
    rw [e]
    decide
  · rfl
theorem parse_print (u : Int) (h0 : 0 ≤ u) (h1 : u < 18446744073709551616) : parseOk (printL u.toNat) = true ∧ parseV (printL u.toNat) = canonF u := by
  have hc := cand_print u.toNat (by omega)
  rw [Int.toNat_of_nonneg h0] at hc
  have hok : parseOk (printL u.toNat) = true := by
    unfold parseOk
    rw [hc, print_canon u h0, canon_canon]
    simp
  refine ⟨hok, ?_⟩
  unfold parseV
  rw [if_pos hok, hc]
end Go.Proofs.YthhghlnbpigcjaaGreatDoor
namespace Go.Proofs.YthhghlnbpigcjaaGreatDoor
open Go.RowKit

theorem decDigits_split (n : Nat) (h : ¬ n < 10) : Lib.decDigits n = Lib.decDigits (n / 10) ++ Lib.decDigits (n % 10) := by
  conv => lhs; rw [Lib.decDigits, dif_neg h]
  rw [Lib.decDigits_one (Nat.mod_lt n (by decide))]
theorem decDigits_len20 (u : Nat) (h : u < 10 ^ 20) : (Lib.decDigits u).length ≤ 20 := by
  have key : ∀ k u, u < 10 ^ (k + 1) → (Lib.decDigits u).length ≤ k + 1 := by
    intro k
    induction k with
    | zero =>
      intro u h
      rw [Lib.decDigits, dif_pos (by omega)]
      simp
    | succ k ih =>
      intro u h
      rw [Lib.decDigits]
      split
      · simp
      · rw [List.length_append, List.length_singleton]
        have := ih (u / 10) (by rw [Nat.pow_succ] at h; omega)
        omega
  exact key 19 u h
theorem one_text (w : World) (c : UInt8) (x : Int) (h : x = (c.toNat : Int)) : (convert 64 9 (.slice (some ⟨w.heap.size, 0, none⟩) 1 1)).run Tryz.prog (w.alloc (Obj.cells #[.int .u8 x] 5)) = .ok (.string ⟨#[c]⟩) (w.alloc (Obj.cells #[.int .u8 x] 5)) := by
  have := run_convert_bytes_back (P := Tryz.prog) (w.alloc (Obj.cells #[.int .u8 x] 5)) 64 9 5 ⟨w.heap.size, 0, none⟩ 1 [c] Tryz.underlying64 Tryz.underlying5 Tryz.underlying9 (fun t ht => by
    obtain rfl : t = 0 := by simpa using ht
    subst h
    simp [Addr.add])
  exact this
set_option maxRecDepth 10000 in
/-- Digits of a number of one digit -/
theorem digit_any (w : World) (n : Int) (h0 : 0 ≤ n) (h1 : n < 10) :
    Calls Tryz.prog 71 #[.int .i64 n] w fun e w' => e = .returned (.string ⟨(Lib.decDigits n.toNat).toArray⟩) ∧ Below w.heap.size w w' := by
  have hd : Lib.decDigits n.toNat = [UInt8.ofNat (48 + n.toNat)] := Lib.decDigits_one (by omega)
  have hb : (UInt8.ofNat (48 + n.toNat)).toNat = 48 + n.toNat := by rw [UInt8.toNat_ofNat']; omega
  rw [hd]
  generalize UInt8.ofNat (48 + n.toNat) = c at hb ⊢
  have hc : 48 + n = (c.toNat : Int) := by omega
  have HC := Lib.hid hc
  have hC0 : (0 : Int) ≤ (c.toNat : Int) := by omega
  have hC1 : (c.toNat : Int) < 256 := by omega
  clear hb hd hc hC0 hC1
  have hcv := one_text w c (48 + n) HC.out
  go_enter Tryz.func71, Tryz.ntmps71
  go_wp2_with fail
  go_ret
  exact ⟨rfl, (Below.refl _ _).alloc (Nat.le_refl _) _⟩
set_option maxRecDepth 10000 in
theorem digits_nat (k : Nat) : ∀ (w : World) (n : Int), n.toNat = k → 0 ≤ n → n ≤ 9223372036854775807 →
    Calls Tryz.prog 71 #[.int .i64 n] w fun e w' => e = .returned (.string ⟨(Lib.decDigits n.toNat).toArray⟩) ∧ Below w.heap.size w w' := by
  induction k using Nat.strongRecOn with
  | _ k ih =>
    intro w n hk h0 h1
    by_cases h : n < 10
    · exact digit_any w n h0 h
    · have H1 : Hid (∀ W : World, Calls Tryz.prog 71 #[.int .i64 (n / 10)] W fun e w' => e = .returned (.string ⟨(Lib.decDigits (n / 10).toNat).toArray⟩) ∧ Below W.heap.size W w') := Lib.hid fun W => ih (n / 10).toNat (by omega) W (n / 10) rfl (by omega) (by omega)
      have H2 : Hid (∀ W : World, Calls Tryz.prog 71 #[.int .i64 (n % 10)] W fun e w' => e = .returned (.string ⟨(Lib.decDigits (n % 10).toNat).toArray⟩) ∧ Below W.heap.size W w') := Lib.hid fun W => digit_any W (n % 10) (by omega) (by omega)
      have hd : Lib.decDigits n.toNat = Lib.decDigits (n / 10).toNat ++ Lib.decDigits (n % 10).toNat := by
        rw [decDigits_split n.toNat (by omega), show (n / 10).toNat = n.toNat / 10 from by omega, show (n % 10).toNat = n.toNat % 10 from by omega]
      have l1 := decDigits_len20 (n / 10).toNat (by omega)
      have l2 := decDigits_len20 (n % 10).toNat (by omega)
      rw [hd]
      generalize Lib.decDigits (n / 10).toNat = x at *
      generalize Lib.decDigits (n % 10).toNat = y at *
      have hadd := add_lists x y (by omega)
      clear hd ih hk l1 l2
      have hn9 : 10 ≤ n := by omega
      have ht : n.tdiv 10 = n / 10 := Int.tdiv_eq_ediv_of_nonneg h0
      have htm : n.tmod 10 = n % 10 := Int.tmod_eq_emod_of_nonneg h0
      go_enter Tryz.func71, Tryz.ntmps71
      go_wp2_with fail
      refine (H1.out w).mono ?_
      rintro e w1 ⟨rfl, hb1⟩
      go_wp2_with fail
      refine (H2.out w1).mono ?_
      rintro e w2 ⟨rfl, hb2⟩
      have hb := hb1.trans (hb2.mono hb1.size)
      go_wp2_with fail
      go_ret
      exact ⟨rfl, hb⟩
set_option maxRecDepth 10000 in
theorem digits_any (w : World) (n : Int) (h0 : -9223372036854775807 ≤ n) (h1 : n ≤ 9223372036854775807) :
    Calls Tryz.prog 71 #[.int .i64 n] w fun e w' => e = .returned (.string ⟨(Lib.itoa n).toArray⟩) ∧ Below w.heap.size w w' := by
  unfold Lib.itoa
  by_cases h : n < 0
  · rw [if_pos h]
    have H1 : Hid (∀ W : World, Calls Tryz.prog 71 #[.int .i64 (-n)] W fun e w' => e = .returned (.string ⟨(Lib.decDigits n.natAbs).toArray⟩) ∧ Below W.heap.size W w') := Lib.hid fun W => by
      have := digits_nat (-n).toNat W (-n) rfl (by omega) (by omega)
      rwa [show (-n).toNat = n.natAbs from by omega] at this
    have l1 := decDigits_len20 n.natAbs (by omega)
    generalize Lib.decDigits n.natAbs = x at *
    have hadd := add_lists [45] x (by simp; omega)
    clear l1
    go_enter Tryz.func71, Tryz.ntmps71
    go_wp2_with fail
    refine (H1.out w).mono ?_
    rintro e w1 ⟨rfl, hb1⟩
    go_wp2_with fail
    go_ret
    exact ⟨rfl, hb1⟩
  · rw [if_neg h]
    exact digits_nat n.toNat w n rfl (by omega) h1

theorem hexN_get (n u : Nat) : ∀ j, j < n → (hexN n u)[j]? = some (dig (u / 16 ^ (n - 1 - j) % 16)) := by
  induction n with
  | zero => intro j h; omega
  | succ n ih =>
    intro j h
    cases j with
    | zero => rfl
    | succ j =>
      show (hexN n u)[j]? = _
      rw [ih j (by omega), show n + 1 - 1 - (j + 1) = n - 1 - j from by omega]
theorem hexN_take (u j : Nat) (h : j < 16) : (hexN 16 u).take (j + 1) = (hexN 16 u).take j ++ [dig (u / 16 ^ (15 - j) % 16)] := by
  rw [List.take_add_one, hexN_get 16 u j h]
  rfl
abbrev digits16 : ByteArray := ⟨#[48, 49, 50, 51, 52, 53, 54, 55, 56, 57, 97, 98, 99, 100, 101, 102]⟩
theorem digit16_cut (d : Nat) (h : d < 16) : digits16.extract d (d + 1) = ⟨#[dig d]⟩ := by
  match d, h with
  | 0, _ => rfl
  | 1, _ => rfl
  | 2, _ => rfl
  | 3, _ => rfl
  | 4, _ => rfl
  | 5, _ => rfl
  | 6, _ => rfl
  | 7, _ => rfl
  | 8, _ => rfl
  | 9, _ => rfl
  | 10, _ => rfl
  | 11, _ => rfl
  | 12, _ => rfl
  | 13, _ => rfl
  | 14, _ => rfl
  | 15, _ => rfl
  | d + 16, h => omega
def HInv (u j mm : Nat) (K : Int) (X : List UInt8) : Prop := j + mm = 16 ∧ K = 60 - 4 * (j : Int) ∧ X = [48, 120] ++ (hexN 16 u).take j
theorem nib_at (c K : Int) (j : Nat) (h0 : 0 ≤ c) (hK : K = 60 - 4 * (j : Int)) (hj : j ≤ 15) : (c / 2 ^ K.toNat).tmod 16 = ((c.toNat / 16 ^ (15 - j) % 16 : Nat) : Int) := by
  have h2 : (2 : Int) ^ K.toNat = ((16 ^ (15 - j) : Nat) : Int) := by
    rw [show K.toNat = 4 * (15 - j) from by omega, Int.pow_mul, show ((2 : Int) ^ 4) = ((16 : Nat) : Int) from by decide, ← Int.natCast_pow]
  rw [h2]
  obtain ⟨n, rfl⟩ := Int.eq_ofNat_of_zero_le h0
  rw [Int.toNat_natCast, show ((n : Int) / ((16 ^ (15 - j) : Nat) : Int)) = ((n / 16 ^ (15 - j) : Nat) : Int) from (Int.natCast_ediv _ _).symm]
  generalize n / 16 ^ (15 - j) = q
  rw [Int.tmod_eq_emod_of_nonneg (by omega)]
  omega
set_option maxHeartbeats 8000000 in
set_option maxRecDepth 100000 in
theorem printR_any (w : World) (u : Int) (h0 : 0 ≤ u) (h1 : u < 18446744073709551616) :
    Calls Tryz.prog 51 #[.int .u64 u] w fun e w' => e = .returned (.string ⟨(printL u.toNat).toArray⟩) ∧ Below w.heap.size w w' := by
  have hc := canonR_any w u h0 h1
  obtain ⟨r0, r1⟩ := canon_range h0 h1
  have hcan := canon_canon u
  rw [← print_canon u h0]
  have Hc := Lib.hid hc; clear hc
  generalize canonF u = c at *
  have Hw : Hid (∀ W : World, Calls Tryz.prog 72 #[.int .u64 c] W fun e w' => e = .returned (.tuple #[.int .i64 (wholeV c.toNat), .bool (wholeW c.toNat)]) ∧ W = w') := Lib.hid fun W => wholeR_any W c r0 r1
  have Hn : Hid (∀ W : World, Calls Tryz.prog 69 #[.int .u64 c] W fun e w' => e = .returned (.bool (nanW c.toNat)) ∧ W = w') := Lib.hid fun W => isnanR_any W c r0 r1
  cases hn : nanW c.toNat with
  | true =>
    have hp : printL c.toNat = [110, 97, 110] := by unfold printL; rw [if_pos hn]
    rw [hp]
    rw [hn] at Hn
    generalize wholeV c.toNat = v at Hw
    generalize wholeW c.toNat = b at Hw
    clear hp hn hcan r0 r1 h0 h1
    go_enter Tryz.func51, Tryz.ntmps51
    go_wp2_with fail
    refine Hc.out.mono ?_
    rintro e w' ⟨rfl, rfl⟩
    go_wp2_with fail
    refine (Hw.out w).mono ?_
    rintro e w' ⟨rfl, rfl⟩
    go_wp2_with fail
    refine (Hn.out w).mono ?_
    rintro e w' ⟨rfl, rfl⟩
    go_wp2_with fail
    go_ret
    exact ⟨rfl, Below.refl _ _⟩
  | false =>
    by_cases k1 : c = 9218868437227405312
    · subst k1
      have hp : printL (9218868437227405312 : Int).toNat = [105, 110, 102] := by decide +kernel
      rw [hp]
      generalize wholeV (9218868437227405312 : Int).toNat = v at Hw
      generalize wholeW (9218868437227405312 : Int).toNat = b at Hw
      rw [hn] at Hn
      clear hp hn hcan r0 r1 h0 h1
      go_enter Tryz.func51, Tryz.ntmps51
      go_wp2_with fail
      refine Hc.out.mono ?_
      rintro e w' ⟨rfl, rfl⟩
      go_wp2_with fail
      refine (Hw.out w).mono ?_
      rintro e w' ⟨rfl, rfl⟩
      go_wp2_with fail
      refine (Hn.out w).mono ?_
      rintro e w' ⟨rfl, rfl⟩
      go_wp2_with fail
      go_ret
      exact ⟨rfl, Below.refl _ _⟩
    by_cases k2 : c = 18442240474082181120
    · subst k2
      have hp : printL (18442240474082181120 : Int).toNat = [45, 105, 110, 102] := by decide +kernel
      rw [hp]
      generalize wholeV (18442240474082181120 : Int).toNat = v at Hw
      generalize wholeW (18442240474082181120 : Int).toNat = b at Hw
      rw [hn] at Hn
      clear hp hn hcan r0 r1 h0 h1
      go_enter Tryz.func51, Tryz.ntmps51
      go_wp2_with fail
      refine Hc.out.mono ?_
      rintro e w' ⟨rfl, rfl⟩
      go_wp2_with fail
      refine (Hw.out w).mono ?_
      rintro e w' ⟨rfl, rfl⟩
      go_wp2_with fail
      refine (Hn.out w).mono ?_
      rintro e w' ⟨rfl, rfl⟩
      go_wp2_with fail
      go_ret
      exact ⟨rfl, Below.refl _ _⟩
    by_cases k3 : c = 9223372036854775808
    · subst k3
      have hp : printL (9223372036854775808 : Int).toNat = [45, 48, 46] := by decide +kernel
      rw [hp]
      generalize wholeV (9223372036854775808 : Int).toNat = v at Hw
      generalize wholeW (9223372036854775808 : Int).toNat = b at Hw
      rw [hn] at Hn
      clear hp hn hcan r0 r1 h0 h1
      go_enter Tryz.func51, Tryz.ntmps51
      go_wp2_with fail
      refine Hc.out.mono ?_
      rintro e w' ⟨rfl, rfl⟩
      go_wp2_with fail
      refine (Hw.out w).mono ?_
      rintro e w' ⟨rfl, rfl⟩
      go_wp2_with fail
      refine (Hn.out w).mono ?_
      rintro e w' ⟨rfl, rfl⟩
      go_wp2_with fail
      go_ret
      exact ⟨rfl, Below.refl _ _⟩
    have hlt : c.toNat < 18446744073709551616 := by omega
    have e1 : infW false c.toNat = false := by
      cases h : infW false c.toNat with
      | false => rfl
      | true => have := inf_word hlt false h; exact absurd (show c = 9218868437227405312 by simp at this; omega) k1
    have e2 : infW true c.toNat = false := by
      cases h : infW true c.toNat with
      | false => rfl
      | true => have := inf_word hlt true h; exact absurd (show c = 18442240474082181120 by simp at this; omega) k2
    have b1 : (c == 9218868437227405312) = false := by rw [beq_eq_false_iff_ne]; exact k1
    have b2 : (c == 18442240474082181120) = false := by rw [beq_eq_false_iff_ne]; exact k2
    have b3 : (c == 9223372036854775808) = false := by rw [beq_eq_false_iff_ne]; exact k3
    cases hw : wholeW c.toNat with
    | true =>
      have hz : ¬ (negW c.toNat = true ∧ wholeV c.toNat = 0) := by
        rintro ⟨z1, z2⟩
        have := neg_zero hlt hw z1 z2
        exact k3 (by unfold B63 at this; omega)
      have hp : printL c.toNat = Lib.itoa (wholeV c.toNat) ++ [46] := by
        unfold printL
        rw [hn, e1, e2, hw]
        simp only [Bool.false_eq_true, if_false, if_true]
        rw [if_neg (by simpa using hz)]
      rw [hp]
      have hle := wholeV_le c.toNat
      rw [hw] at Hw
      rw [hn] at Hn
      generalize wholeV c.toNat = v at *
      have Hd : Hid (∀ W : World, Calls Tryz.prog 71 #[.int .i64 v] W fun e w' => e = .returned (.string ⟨(Lib.itoa v).toArray⟩) ∧ Below W.heap.size W w') := Lib.hid fun W => digits_any W v (by omega) (by omega)
      have hl := itoa_len17 v hle
      generalize Lib.itoa v = x at *
      have hadd := add_lists x [46] (by simp; omega)
      clear hp hz hn hcan r0 r1 h0 h1 hl hle k1 k2 k3 e1 e2 hw hlt
      go_enter Tryz.func51, Tryz.ntmps51
      go_wp2_with fail
      refine Hc.out.mono ?_
      rintro e w' ⟨rfl, rfl⟩
      go_wp2_with fail
      refine (Hw.out w).mono ?_
      rintro e w' ⟨rfl, rfl⟩
      go_wp2_with fail
      refine (Hn.out w).mono ?_
      rintro e w' ⟨rfl, rfl⟩
      go_wp2_with fail
      refine (Hd.out w).mono ?_
      rintro e w1 ⟨rfl, hb⟩
      go_wp2_with fail
      go_ret
      exact ⟨rfl, hb⟩
    | false =>
      have hp : printL c.toNat = [48, 120] ++ hexN 16 c.toNat := by
        unfold printL
        rw [hn, e1, e2, hw]
        simp only [Bool.false_eq_true, if_false]
      rw [hp]
      rw [hw] at Hw
      rw [hn] at Hn
      generalize wholeV c.toNat = v at *
      have Hr0 := Lib.hid r0; have Hr1 := Lib.hid r1
      clear hp hn hcan h0 h1 k1 k2 k3 e1 e2 hw hlt
      go_enter Tryz.func51, Tryz.ntmps51
      go_wp2_with fail
      refine Hc.out.mono ?_
      rintro e w' ⟨rfl, rfl⟩
      go_wp2_with fail
      refine (Hw.out w).mono ?_
      rintro e w' ⟨rfl, rfl⟩
      go_wp2_with fail
      refine (Hn.out w).mono ?_
      rintro e w' ⟨rfl, rfl⟩
      go_wp2_with fail
      go_loopg [5, 6] 16 (fun mm x k wr => ∃ (j : Nat) (K : Int) (X : List UInt8), HInv c.toNat j mm K X ∧ x = .string ⟨X.toArray⟩ ∧ k = .int .i64 K ∧ w = wr)
      case atStart => exact ⟨0, 60, [48, 120], ⟨rfl, by omega, rfl⟩, rfl, rfl, rfl⟩
      case round =>
        obtain ⟨j, K, X, hinv, rfl, rfl, rfl⟩ := hrel
        obtain ⟨hj, hK, hX⟩ := hinv
        have HX := Lib.hid hX; clear hX
        by_cases hm : gk = 0
        · have hj2 : j = 16 := by omega
          have hK2 : K = -4 := by omega
          subst hK2
          subst hj2
          clear hm hj hK
          go_wp2_with fail
          go_ret
          refine ⟨?_, Below.refl _ _⟩
          rw [HX.out, List.take_of_length_le (by rw [hexN_length]; exact Nat.le_refl _)]
          rfl
        · have hK0 : 0 ≤ K := by omega
          have hK1 : K ≤ 60 := by omega
          have hj2 : j < 16 := by omega
          have htk := hexN_take c.toNat j hj2
          obtain ⟨D, hD⟩ : ∃ D, D = c.toNat / 16 ^ (15 - j) % 16 := ⟨_, rfl⟩
          rw [← hD] at htk
          have hd : D < 16 := by rw [hD]; exact Nat.mod_lt _ (by decide)
          have hnib := nib_at c K j r0 hK (by omega)
          rw [← hD] at hnib
          have hcut := digit16_cut D hd
          have hlen : X.length ≤ 18 := by rw [HX.out]; simp [hexN_length]; omega
          have hadd := add_lists X [dig D] (by simp; omega)
          have HX2 : Hid (X ++ [dig D] = [48, 120] ++ (hexN 16 c.toNat).take (j + 1)) := Lib.hid (by rw [HX.out, htk, List.append_assoc])
          have Hj := Lib.hid hj; have HK := Lib.hid hK; have Hm := Lib.hid hm
          have hD0 : (0 : Int) ≤ (D : Int) := by omega
          have hD1 : (D : Int) < 16 := by omega
          have hDn : (D : Int).toNat = D := by omega
          have hDm : ((D : Int) + 1).toNat = D + 1 := by omega
          clear hj hK hm htk hD hd hlen
          go_wp2_with fail
          go_roundg (gk - 1)
          case measure => have := Hm.out; omega
          case rel => exact ⟨j + 1, K - 4, X ++ [dig D], ⟨by have := Hj.out; have := Hm.out; omega, by have := HK.out; omega, HX2.out⟩, by first | rfl | skip, by go_num, rfl⟩
end Go.Proofs.YthhghlnbpigcjaaGreatDoor
namespace Go.Proofs.YthhghlnbpigcjaaGreatDoor
open Go.RowKit

theorem mk_toList (l : List UInt8) : (⟨l.toArray⟩ : ByteArray).toList = l := by rw [ByteArray.toList_eq]
theorem print_forms (u : Nat) : printL u = [110, 97, 110] ∨ printL u = [105, 110, 102] ∨ printL u = [45, 105, 110, 102] ∨ printL u = [45, 48, 46] ∨ (∃ v : Int, v.natAbs ≤ 9007199254740992 ∧ printL u = Lib.itoa v ++ [46]) ∨ printL u = [48, 120] ++ hexN 16 u := by
  unfold printL
  split
  · exact .inl rfl
  · split
    · exact .inr (.inl rfl)
    · split
      · exact .inr (.inr (.inl rfl))
      · split
        · split
          · exact .inr (.inr (.inr (.inl rfl)))
          · exact .inr (.inr (.inr (.inr (.inl ⟨_, wholeV_le u, rfl⟩))))
        · exact .inr (.inr (.inr (.inr (.inr rfl))))
theorem parseOk_print {l : List UInt8} (h : parseOk l = true) : printL (candV l).toNat = l := by
  unfold parseOk at h
  rw [Bool.and_eq_true, beq_iff_eq] at h
  exact h.1
theorem parseOk_forms {l : List UInt8} (h : parseOk l = true) : l = [110, 97, 110] ∨ l = [105, 110, 102] ∨ l = [45, 105, 110, 102] ∨ l = [45, 48, 46] ∨ (∃ v : Int, v.natAbs ≤ 9007199254740992 ∧ l = Lib.itoa v ++ [46]) ∨ l = [48, 120] ++ hexN 16 (candV l).toNat := by
  have := print_forms (candV l).toNat
  rwa [parseOk_print h] at this
theorem mem_hexN {k u : Nat} {c : UInt8} (h : c ∈ hexN k u) : ∃ d, d < 16 ∧ c = dig d := by
  induction k with
  | zero => cases h
  | succ k ih =>
    unfold hexN at h
    rcases List.mem_cons.1 h with h | h
    · exact ⟨_, Nat.mod_lt _ (by decide), h⟩
    · exact ih h
theorem itoa_no (v : Int) (c : UInt8) (h1 : c ≠ 45) (h2 : ¬ isDig c) (h3 : c ≠ 46) : c ∉ Lib.itoa v ++ [46] := by
  intro h
  rcases List.mem_append.1 h with h | h
  · rcases itoa_bytes v c h with e | e
    · exact h1 e
    · exact h2 e
  · rw [List.mem_singleton] at h
    exact h3 h
theorem not120 : ¬ isDig (120 : UInt8) := by unfold isDig; decide
theorem hex_no {l t : List UInt8} {c : UInt8} (hl : l = [48, 120] ++ t) (hc : c ∈ t) (hd : ∀ d, d < 16 → dig d ≠ c) : parseOk l = false := by
  cases h : parseOk l with
  | false => rfl
  | true =>
    exfalso
    rcases parseOk_forms h with e | e | e | e | ⟨v, _, e⟩ | e
    · rw [hl] at e; cases e
    · rw [hl] at e; cases e
    · rw [hl] at e; cases e
    · rw [hl] at e; cases e
    · have : (120 : UInt8) ∈ Lib.itoa v ++ [46] := by rw [← e, hl]; simp
      exact itoa_no v 120 (by decide) not120 (by decide) this
    · have ht : t = hexN 16 (candV l).toNat := List.append_cancel_left (hl.symm.trans e)
      rw [ht] at hc
      obtain ⟨d, h1, h2⟩ := mem_hexN hc
      exact hd d h1 h2.symm
theorem hex_yes {l : List UInt8} {u : Nat} (hu : u < 18446744073709551616) (hl : l = [48, 120] ++ hexN 16 u) : candV l = u ∧ parseOk l = ((printL u == l) && (canonF (u : Int) == (u : Int))) := by
  have hc : candV l = u := by
    subst hl
    unfold candV
    have hlen : ([48, 120] ++ hexN 16 u).length = 18 := by rw [List.length_append, hexN_length]; rfl
    have hp : Lib.hasPrefix ([48, 120] ++ hexN 16 u) [48, 120] = true := by
      unfold Lib.hasPrefix; rw [List.isPrefixOf_iff_prefix]; exact ⟨_, rfl⟩
    rw [if_neg (fun e => by rw [e] at hlen; exact absurd hlen (by decide)), if_neg (fun e => by rw [e] at hlen; exact absurd hlen (by decide)), if_neg (fun e => by rw [e] at hlen; exact absurd hlen (by decide)), if_neg (fun e => by rw [e] at hlen; exact absurd hlen (by decide)), if_pos hp]
    unfold Lib.trimPrefix
    rw [if_pos hp]
    rw [show List.drop ([48, 120] : List UInt8).length ([48, 120] ++ hexN 16 u) = hexN 16 u from rfl, pu16_hex0 u hu]
  refine ⟨hc, ?_⟩
  unfold parseOk
  rw [hc, Int.toNat_natCast]
theorem shape_no {l : List UInt8} (h1 : l ≠ [110, 97, 110]) (h2 : l ≠ [105, 110, 102]) (h3 : l ≠ [45, 105, 110, 102]) (h4 : l ≠ [45, 48, 46]) (h5 : ¬ (l.length = 18 ∧ l.take 2 = [48, 120]))
    (h6 : l.length < 2 ∨ 18 < l.length ∨ l.getLast? ≠ some 46) : parseOk l = false := by
  cases h : parseOk l with
  | false => rfl
  | true =>
    exfalso
    rcases parseOk_forms h with e | e | e | e | ⟨v, hv, e⟩ | e
    · exact h1 e
    · exact h2 e
    · exact h3 e
    · exact h4 e
    · have hne := itoa_ne v
      have hlen := itoa_len17 v hv
      have hpos : 0 < (Lib.itoa v).length := List.length_pos_iff.2 hne
      rcases h6 with h6 | h6 | h6
      · rw [e, List.length_append, List.length_singleton] at h6; omega
      · rw [e, List.length_append, List.length_singleton] at h6; omega
      · rw [e] at h6; exact h6 (by simp)
    · exact h5 ⟨by rw [e, List.length_append, hexN_length]; rfl, by rw [e]; rfl⟩
/-- a numeral's sign and what is behind it -/
def signed (d d' : List UInt8) (neg : Bool) : Prop := (neg = true ∧ d = 45 :: d') ∨ (neg = false ∧ d = d' ∧ d' ≠ [] ∧ d'.head? ≠ some 45)
theorem dec_no {l d d' : List UInt8} {neg : Bool} {c : UInt8} (hl : l = d ++ [46]) (hs : signed d d' neg) (hc : c ∈ d') (hd : ¬ isDig c) : parseOk l = false := by
  cases h : parseOk l with
  | false => rfl
  | true =>
    exfalso
    have hlast : l.getLast? = some 46 := by rw [hl]; simp
    rcases parseOk_forms h with e | e | e | e | ⟨v, hv, e⟩ | e
    · rw [e] at hlast; exact absurd hlast (by decide)
    · rw [e] at hlast; exact absurd hlast (by decide)
    · rw [e] at hlast; exact absurd hlast (by decide)
    · have hde : d = [45, 48] := List.append_cancel_right (hl.symm.trans (show l = [45, 48] ++ [46] from e))
      rcases hs with ⟨_, e2⟩ | ⟨_, e2, _, e3⟩
      · rw [hde] at e2
        injection e2 with _ e4
        rw [← e4, List.mem_singleton] at hc
        rw [hc] at hd
        exact hd (by unfold isDig; decide)
      · rw [← e2, hde] at e3; exact e3 rfl
    · have hde : d = Lib.itoa v := List.append_cancel_right (hl.symm.trans e)
      unfold Lib.itoa at hde
      split at hde
      · rcases hs with ⟨_, e2⟩ | ⟨_, e2, _, e3⟩
        · rw [hde] at e2
          injection e2 with _ e4
          rw [← e4] at hc
          exact hd (decDigits_dig _ c hc)
        · rw [← e2, hde] at e3; exact e3 rfl
      · rcases hs with ⟨_, e2⟩ | ⟨_, e2, _, e3⟩
        · have : (45 : UInt8) ∈ Lib.decDigits v.toNat := by rw [← hde, e2]; exact List.mem_cons_self ..
          exact absurd (decDigits_dig _ _ this) (by unfold isDig; decide)
        · rw [← e2, hde] at hc
          exact hd (decDigits_dig _ c hc)
    · rw [e] at hlast
      have hm : (46 : UInt8) ∈ [48, 120] ++ hexN 16 (candV l).toNat := List.mem_of_getLast? hlast
      rcases List.mem_append.1 hm with hm | hm
      · exact absurd hm (by decide)
      · exact hex_ne46 _ _ _ hm rfl
theorem decFrom_digits (r : List UInt8) : ∀ acc n, Lib.decFrom acc r = some n → ∀ c ∈ r, isDig c := by
  induction r with
  | nil => intro acc n _ c hc; cases hc
  | cons b r ih =>
    intro acc n h c hc
    unfold Lib.decFrom at h
    split at h
    · rename_i d hd
      rcases List.mem_cons.1 hc with e | e
      · subst e
        unfold Lib.digitVal at hd
        split at hd
        · assumption
        · cases hd
      · exact ih _ _ h c e
    · cases h
theorem dec_yes {d d' : List UInt8} {neg : Bool} {n : Nat} (hs : signed d d' neg) (hlen : d.length ≤ 17) (hn : Lib.decFrom 0 d' = some n) : atoiV d = if neg then -(n : Int) else n := by
  have hdig := decFrom_digits d' 0 n hn
  rcases hs with ⟨rfl, rfl⟩ | ⟨rfl, rfl, hne, hh⟩
  · rw [if_pos rfl]
    cases d' with
    | nil =>
      injection hn with hn
      subst hn
      decide
    | cons b r =>
      unfold atoiV
      rw [Lib.atoiAll_short _ (by omega)]
      unfold Lib.atoi
      simp only [beq_self_eq_true, if_true]
      unfold Lib.decNat
      rw [if_neg (by simp), hn]
      rfl
  · rw [if_neg (by decide)]
    cases d with
    | nil => exact absurd rfl hne
    | cons b r =>
      have hb := hdig b (List.mem_cons_self ..)
      have h1 : (b == 45) = false := by
        rw [beq_eq_false_iff_ne]; rintro rfl; exact absurd hb (by unfold isDig; decide)
      have h2 : (b == 43) = false := by
        rw [beq_eq_false_iff_ne]; rintro rfl; exact absurd hb (by unfold isDig; decide)
      unfold atoiV
      rw [Lib.atoiAll_short _ (by omega)]
      unfold Lib.atoi
      simp only [h1, h2, Bool.false_eq_true, if_false]
      unfold Lib.decNat
      rw [if_neg (by simp), hn]
      rfl
theorem signed_mem {d d' : List UInt8} {neg : Bool} (hs : signed d d' neg) (hd : ∀ c ∈ d', isDig c) : ∀ c ∈ d, c = 45 ∨ isDig c := by
  rcases hs with ⟨_, rfl⟩ | ⟨_, rfl, _, _⟩
  · intro c hc
    rcases List.mem_cons.1 hc with e | e
    · exact .inl e
    · exact .inr (hd c e)
  · intro c hc; exact .inr (hd c hc)
theorem fromV_canon (n : Int) : canonF (fromV n) = fromV n := by
  unfold fromV
  split
  · rename_i h
    have hi := fromW_int (inR_abs h)
    unfold canonF
    rw [Int.toNat_natCast, hi.nan]
    rfl
  · decide
theorem dec_ok {l d d' : List UInt8} {neg : Bool} {n : Nat} {v : Int} (hl : l = d ++ [46]) (hs : signed d d' neg) (hlen : d.length ≤ 17) (hn : Lib.decFrom 0 d' = some n) (h4 : l ≠ [45, 48, 46]) (hv : v = if neg then -(n : Int) else n) :
    candV l = fromV v ∧ parseOk l = (inR v && (printL (fromV v).toNat == l)) := by
  have hat := dec_yes hs hlen hn
  rw [← hv] at hat
  have hlast : l.getLast? = some 46 := by rw [hl]; simp
  have hmem := signed_mem hs (decFrom_digits d' 0 n hn)
  have hc : candV l = fromV v := by
    unfold candV
    have hp : Lib.hasPrefix l [48, 120] = false := by
      cases hh : Lib.hasPrefix l [48, 120] with
      | false => rfl
      | true =>
        exfalso
        unfold Lib.hasPrefix at hh
        rw [List.isPrefixOf_iff_prefix] at hh
        obtain ⟨t, ht⟩ := hh
        have hm : (120 : UInt8) ∈ d ++ [46] := by rw [← hl, ← ht]; simp
        rcases List.mem_append.1 hm with hm | hm
        · rcases hmem _ hm with e | e
          · exact absurd e (by decide)
          · exact not120 e
        · exact absurd hm (by decide)
    rw [if_neg (fun e => by rw [e] at hlast; exact absurd hlast (by decide)), if_neg (fun e => by rw [e] at hlast; exact absurd hlast (by decide)), if_neg (fun e => by rw [e] at hlast; exact absurd hlast (by decide)), if_neg h4, hp, if_neg (by decide), hl, trim_dot, hat]
  refine ⟨hc, ?_⟩
  unfold parseOk
  rw [hc, fromV_canon, beq_self_eq_true, Bool.and_true]
  cases hr : inR v with
  | true => rfl
  | false =>
    rw [Bool.false_and, beq_eq_false_iff_ne]
    intro e
    have h0 : fromV v = 0 := by unfold fromV; rw [if_neg (by simp [hr])]
    rw [h0] at e
    have e1 : printL (0 : Int).toNat = [48] ++ [46] := by decide +kernel
    rw [e1, hl] at e
    have hd : d = [48] := (List.append_cancel_right e).symm
    rw [hd] at hat
    have : v = 0 := by rw [← hat]; decide
    rw [this] at hr
    exact absurd hr (by decide)
end Go.Proofs.YthhghlnbpigcjaaGreatDoor
namespace Go.Proofs.YthhghlnbpigcjaaGreatDoor
open Go.RowKit

theorem below_drewN {B : Nat} {a w : World} (h : Below B a w) (n : Nat) : Below B a (w.drewN n) := ⟨h.os, h.tape, h.output, h.size, h.block⟩
def PrEnds (w w' : World) (e : Ending) (l : List UInt8) : Prop := ∃ v : Int, e = .returned (.tuple #[.int .u64 v, .bool (parseOk l)]) ∧ (parseOk l = true → v = parseV l) ∧ Below w.heap.size w w'
/-- the state of the loop over decimal digits -/
def DInvP (d' : List UInt8) (i n : Nat) (I NI : Int) : Prop := I = (i : Int) ∧ NI = (n : Int) ∧ Lib.decFrom 0 (d'.take i) = some n ∧ n < 10 ^ i
abbrev DInv (d' : List UInt8) (i n : Nat) (I NI : Int) : Prop := Hid (DInvP d' i n I NI)
theorem DInvP.next {d' : List UInt8} {i n : Nat} {I NI NJ : Int} {c : UInt8} (h : DInvP d' i n I NI) (hc : d'[i]? = some c) (hd : Lib.digitVal c = some (c.toNat - 48)) (hlo : 48 ≤ c.toNat) (hj : NJ = 10 * NI + ((c.toNat : Int) - 48)) (hhi : c.toNat ≤ 57) : DInvP d' (i + 1) (n * 10 + (c.toNat - 48)) (I + 1) NJ := by
  obtain ⟨h1, h2, h3, h4⟩ := h
  refine ⟨by omega, by omega, Lib.decFrom_take d' i 0 n c _ h3 hc hd, ?_⟩
  rw [Nat.pow_succ]
  omega
theorem consts_ok : (parseOk [110, 97, 110] = true ∧ parseV [110, 97, 110] = 9221120237041090560) ∧ (parseOk [105, 110, 102] = true ∧ parseV [105, 110, 102] = 9218868437227405312) ∧ (parseOk [45, 105, 110, 102] = true ∧ parseV [45, 105, 110, 102] = 18442240474082181120) ∧ (parseOk [45, 48, 46] = true ∧ parseV [45, 48, 46] = 9223372036854775808) := by
  refine ⟨⟨?_, ?_⟩, ⟨?_, ?_⟩, ⟨?_, ?_⟩, ⟨?_, ?_⟩⟩ <;> decide +kernel
/-- the state of the outer loop over hexadecimal digits -/
def XInv (t : List UInt8) (j U : Nat) : Prop := t.take j = hexN j U ∧ U < 16 ^ j
theorem hexN_snoc (j : Nat) : ∀ U D, D < 16 → U < 16 ^ j → hexN (j + 1) (U * 16 + D) = hexN j U ++ [dig D] := by
  intro U D hD _
  apply List.ext_getElem?
  intro i
  by_cases h : i < j
  · rw [hexN_get (j + 1) _ i (by omega), List.getElem?_append_left (by rw [hexN_length]; exact h), hexN_get j _ i h]
    congr 2
    rw [show j + 1 - 1 - i = (j - 1 - i) + 1 from by omega, Nat.pow_succ, Nat.mul_comm (16 ^ _), ← Nat.div_div_eq_div_mul, show (U * 16 + D) / 16 = U from by omega]
  · by_cases h2 : i = j
    · subst h2
      rw [hexN_get (i + 1) _ i (by omega), List.getElem?_append_right (by rw [hexN_length]; exact Nat.le_refl _), hexN_length, Nat.sub_self, show i + 1 - 1 - i = 0 from by omega, Nat.pow_zero, Nat.div_one, show (U * 16 + D) % 16 = D from by omega]
      rfl
    · rw [List.getElem?_eq_none (by rw [hexN_length]; omega), List.getElem?_eq_none (by rw [List.length_append, hexN_length]; simp; omega)]
theorem XInv.next {t : List UInt8} {j U D : Nat} (h : XInv t j U) (hc : t[j]? = some (dig D)) (hD : D < 16) : XInv t (j + 1) (U * 16 + D) := by
  refine ⟨?_, ?_⟩
  · rw [List.take_add_one, hc, h.1, hexN_snoc j U D hD h.2]
    rfl
  · have := h.2
    rw [Nat.pow_succ]
    omega
theorem digits16_size : digits16.size = 16 := by decide
theorem digit16_at (d : Nat) (h : d < 16) (h2 : d < digits16.size) : digits16[d] = dig d := by
  match d, h with
  | 0, _ => rfl
  | 1, _ => rfl
  | 2, _ => rfl
  | 3, _ => rfl
  | 4, _ => rfl
  | 5, _ => rfl
  | 6, _ => rfl
  | 7, _ => rfl
  | 8, _ => rfl
  | 9, _ => rfl
  | 10, _ => rfl
  | 11, _ => rfl
  | 12, _ => rfl
  | 13, _ => rfl
  | 14, _ => rfl
  | 15, _ => rfl
  | d + 16, h => omega
set_option maxHeartbeats 8000000 in
set_option maxRecDepth 100000 in
theorem parseR_any (w : World) (s : ByteArray) (hs : s.size ≤ 281474976710656) :
    Calls Tryz.prog 60 #[.string s] w fun e w' => PrEnds w w' e s.data.toList := by
  obtain ⟨⟨c1, c2⟩, ⟨c3, c4⟩, ⟨c5, c6⟩, ⟨c7, c8⟩⟩ := consts_ok
  by_cases k1 : s.data.toList = [110, 97, 110]
  · rw [bytes_eq k1]
    have H1 := Lib.hid c1; have H2 := Lib.hid c2
    clear c1 c2 c3 c4 c5 c6 c7 c8 k1 hs
    go_enter Tryz.func60, Tryz.ntmps60
    go_wp2_with fail
    go_ret2
    exact ⟨_, by rw [H1.out]; rfl, fun _ => H2.out.symm, Below.refl _ _⟩
  by_cases k2 : s.data.toList = [105, 110, 102]
  · rw [bytes_eq k2]
    have H1 := Lib.hid c3; have H2 := Lib.hid c4
    clear c1 c2 c3 c4 c5 c6 c7 c8 k1 k2 hs
    go_enter Tryz.func60, Tryz.ntmps60
    go_wp2_with fail
    go_ret2
    exact ⟨_, by rw [H1.out]; rfl, fun _ => H2.out.symm, Below.refl _ _⟩
  by_cases k3 : s.data.toList = [45, 105, 110, 102]
  · rw [bytes_eq k3]
    have H1 := Lib.hid c5; have H2 := Lib.hid c6
    clear c1 c2 c3 c4 c5 c6 c7 c8 k1 k2 k3 hs
    go_enter Tryz.func60, Tryz.ntmps60
    go_wp2_with fail
    go_ret2
    exact ⟨_, by rw [H1.out]; rfl, fun _ => H2.out.symm, Below.refl _ _⟩
  by_cases k4 : s.data.toList = [45, 48, 46]
  · rw [bytes_eq k4]
    have H1 := Lib.hid c7; have H2 := Lib.hid c8
    clear c1 c2 c3 c4 c5 c6 c7 c8 k1 k2 k3 k4 hs
    go_enter Tryz.func60, Tryz.ntmps60
    go_wp2_with fail
    go_ret2
    exact ⟨_, by rw [H1.out]; rfl, fun _ => H2.out.symm, Below.refl _ _⟩
  clear c1 c2 c3 c4 c5 c6 c7 c8
  have b1 := bytes_ne k1
  have b2 := bytes_ne k2
  have b3 := bytes_ne k3
  have b4 := bytes_ne k4
  obtain ⟨l, hl⟩ : ∃ l, l = s.data.toList := ⟨_, rfl⟩
  have hlen : l.length = s.size := by rw [hl, Lib.size_eq]
  by_cases k5 : l.length = 18 ∧ l.take 2 = [48, 120]
  · have hsz : s.size = 18 := by omega
    have Hl := Lib.hid hl
    have hex : (s.extract 0 2).toList = [48, 120] := by
      rw [Lib.extract_toList, List.drop_zero, ← hl]; exact k5.2
    have hexb : ((s.extract 0 2).toList == [48, 120]) = true := by rw [hex]; rfl
    have Hk := Lib.hid k5
    clear k1 k2 k3 k4 k5 hex hl hlen hs
    go_enter Tryz.func60, Tryz.ntmps60
    go_wp2_with fail
    obtain ⟨t, ht⟩ : ∃ t, l = [48, 120] ++ t := ⟨l.drop 2, by rw [← Hk.out.2, List.take_append_drop]⟩
    have htl : t.length = 16 := by have := Hk.out.1; rw [ht, List.length_append] at this; simp at this; omega
    have Ht := Lib.hid ht
    have Htl := Lib.hid htl
    clear ht htl
    have Hget : Hid (∀ j, j < 16 → ∀ h : j + 2 < s.size, ∃ c, t[j]? = some c ∧ s[j + 2] = c) := by
      refine Lib.hid fun j hj h => ⟨s[j + 2], ?_, rfl⟩
      have h2 : l[j + 2]? = some s[j + 2] := by
        rw [Hl.out, List.getElem?_eq_getElem (by rw [← Lib.size_eq]; exact h)]
        rfl
      rw [Ht.out] at h2
      simpa using h2
    go_loopg [4, 5] 16 (fun mm u i wr => ∃ (j U : Nat) (I UI : Int), j + mm = 16 ∧ Hid (I = (j : Int) + 2 ∧ UI = (U : Int)) ∧ u = .int .u64 UI ∧ i = .int .i64 I ∧ XInv t j U ∧ Below w.heap.size w wr)
    case atStart => exact ⟨0, 0, 2, 0, rfl, Lib.hid ⟨rfl, rfl⟩, rfl, rfl, ⟨rfl, by decide⟩, Below.refl _ _⟩
    case round =>
      obtain ⟨j, U, I, UI, hj, HI, rfl, rfl, hx, hb⟩ := hrel
      have Hx := Lib.hid hx; clear hx
      by_cases hm : gk = 0
      · have hj2 : j = 16 := by omega
        subst hj2
        have hI : I = 18 := by have := HI.out.1; omega
        subst hI
        have hu0 : 0 ≤ UI := by have := HI.out.2; omega
        have hu1 : UI < 18446744073709551616 := by have := HI.out.2; have := Hx.out.2; omega
        have htt : t = hexN 16 U := by
          have := Hx.out.1
          rwa [List.take_of_length_le (by rw [Htl.out]; exact Nat.le_refl _)] at this
        obtain ⟨hc1, hc2⟩ := hex_yes (l := l) Hx.out.2 (by rw [Ht.out, htt])
        rw [← HI.out.2] at hc1 hc2
        have hU : U = UI.toNat := by have := HI.out.2; omega
        rw [hU] at hc2
        have Hp : Hid (∀ W : World, Calls Tryz.prog 51 #[.int .u64 UI] W fun e w' => e = .returned (.string ⟨(printL UI.toNat).toArray⟩) ∧ Below W.heap.size W w') := Lib.hid fun W => printR_any W UI hu0 hu1
        have Hc : Hid (∀ W : World, Calls Tryz.prog 45 #[.int .u64 UI] W fun e w' => e = .returned (.int .u64 (canonF UI)) ∧ W = w') := Lib.hid fun W => canonR_any W UI hu0 hu1
        have hpv : parseOk l = true → parseV l = UI := by
          intro h
          unfold parseV
          rw [if_pos h, hc1]
        rw [Hl.out] at hc2 hpv
        rw [← ByteArray.toList_eq] at hc2
        have hsl : (printL UI.toNat == s.toList) = ((⟨(printL UI.toNat).toArray⟩ : ByteArray).toList == s.toList) := congrArg (· == s.toList) (mk_toList _).symm
        rw [hsl] at hc2
        generalize (⟨(printL UI.toNat).toArray⟩ : ByteArray) = X at *
        generalize canonF UI = C at *
        clear hm hj hu0 hu1 htt hc1 hU hsl
        have Hok := Lib.hid hc2
        have Hpv := Lib.hid hpv
        clear hc2 hpv
        cases hx1 : (X.toList == s.toList) with
        | false =>
          rw [hx1] at Hok
          go_wp2_with fail
          refine (Hp.out wr).mono ?_
          rintro e w2 ⟨rfl, hb2⟩
          have hb3 := hb.trans (hb2.mono hb.size)
          go_wp2_with fail
          go_ret2
          exact ⟨_, by rw [← ByteArray.toList_eq, Hok.out]; rfl, fun h => (Hpv.out h).symm, hb3⟩
        | true =>
          rw [hx1] at Hok
          go_wp2_with fail
          refine (Hp.out wr).mono ?_
          rintro e w2 ⟨rfl, hb2⟩
          have hb3 := hb.trans (hb2.mono hb.size)
          go_wp2_with fail
          refine (Hc.out w2).mono ?_
          rintro e w3 ⟨rfl, rfl⟩
          go_wp2_with fail
          go_ret2
          exact ⟨_, by rw [← ByteArray.toList_eq, Hok.out]; rfl, fun h => (Hpv.out h).symm, hb3⟩
      · have hj2 : j < 16 := by omega
        have hi : j + 2 < s.size := by omega
        have hI0 : 0 ≤ I := by have := HI.out.1; omega
        have hI1 : I < 18 := by have := HI.out.1; omega
        have hI2 : I < (s.size : Int) := by have := HI.out.1; omega
        have hIn : I.toNat = j + 2 := by have := HI.out.1; omega
        have Hm := Lib.hid hm
        have Hj := Lib.hid hj
        clear hm hj
        obtain ⟨c, hc1, hc2⟩ := Hget.out j hj2 hi
        have Hc1 := Lib.hid hc1; clear hc1
        have hU0 : 0 ≤ UI := by have := HI.out.2; omega
        have hU1 : UI < 1152921504606846976 := by
          have h1 := HI.out.2
          have h2 := Hx.out.2
          have h3 : 16 ^ j ≤ 16 ^ 15 := Nat.pow_le_pow_right (by decide) (by omega)
          omega
        go_wp2_with fail
        go_loopg [6] 16 (fun mm d wr => ∃ (D : Nat) (DI : Int), D + mm = 16 ∧ DI = (D : Int) ∧ d = .int .u64 DI ∧ Hid (∀ x, x < D → dig x ≠ c) ∧ Below w.heap.size w wr)
        case atStart => exact ⟨0, 0, rfl, rfl, rfl, Lib.hid fun x hx => by omega, hb⟩
        case round =>
          obtain ⟨D, DI, hD, hDI, rfl, hno, hb2⟩ := hrel
          by_cases hm : gk = 0
          · have hD2 : DI = 16 := by omega
            subst hD2
            have hdd : decide ((16 : Int) < 16) = false := by decide
            have hD16 : D = 16 := by omega
            clear hDI hm
            have hno2 := hex_no Ht.out (List.mem_of_getElem? Hc1.out) (fun d hd => hno.out d (by omega))
            have Hno := Lib.hid hno2
            clear hno2
            go_wp2_with fail
            go_quiet (fail)
            go_wp2_with fail
            go_ret2
            exact ⟨0, by rw [← Hl.out, Hno.out]; rfl, fun h => absurd (Hl.out ▸ h) (by rw [Hno.out]; decide), below_drewN hb2 nq⟩
          · have hD2 : D < 16 := by omega
            have hDs : D < digits16.size := by rw [digits16_size]; exact hD2
            have hD3 : DI < 16 := by omega
            have hD0 : 0 ≤ DI := by omega
            have hdd : decide (DI < 16) = true := by rw [decide_eq_true hD3]
            have hat := digit16_at D hD2 hDs
            have hDn : DI.toNat = D := by omega
            have HDI := Lib.hid hDI; have HD := Lib.hid hD; have Hm2 := Lib.hid hm
            clear hDI hD hm
            by_cases hcd : dig D = c
            · have hneq : ((((dig D).toNat : Int) != (c.toNat : Int))) = false := by rw [hcd]; simp
              have Hcd := Lib.hid hcd
              clear hcd
              have hd16 : (DI == 16) = false := by rw [beq_eq_false_iff_ne]; omega
              go_wp2_with fail
              go_quiet (fail)
              go_wp2_with fail
              go_roundg (15 - j)
              case measure => have := Hj.out; omega
              case rel => exact ⟨j + 1, U * 16 + D, I + 1, 16 * UI + DI, by have := Hj.out; omega, Lib.hid ⟨by have := HI.out.1; omega, by have := HI.out.2; have := HDI.out; omega⟩, by go_num, by go_num, Hx.out.next (by rw [Hc1.out, Hcd.out]) hD2, below_drewN hb2 nq⟩
            · have hneq : ((((dig D).toNat : Int) != (c.toNat : Int))) = true := by
                rw [bne_iff_ne]
                intro e
                exact hcd (UInt8.toNat_inj.1 (by omega))
              have Hcd := Lib.hid hcd
              clear hcd
              go_wp2_with fail
              go_quiet (fail)
              go_wp2_with fail
              go_roundg (15 - D)
              case measure => have := HD.out; omega
              case rel => exact ⟨D + 1, DI + 1, by have := HD.out; have := Hm2.out; omega, by have := HDI.out; omega, by go_num, Lib.hid fun x hx => by
                rcases Nat.lt_or_eq_of_le (Nat.le_of_lt_succ hx) with h | h
                · exact hno.out x h
                · rw [h]; exact Hcd.out, below_drewN hb2 nq⟩
  · have hsh : (l.length < 2 ∨ 18 < l.length ∨ l.getLast? ≠ some 46) → parseOk s.data.toList = false := by
      intro h
      have := shape_no (l := l) (by rw [hl]; exact k1) (by rw [hl]; exact k2) (by rw [hl]; exact k3) (by rw [hl]; exact k4) k5 h
      rwa [hl] at this
    have Hsh := Lib.hid hsh
    clear hsh
    obtain ⟨N, hN⟩ : ∃ N, s.size = N := ⟨_, rfl⟩
    rw [hN] at hlen
    have hk5 : (((N : Int) == 18) = true ∧ ((s.extract 0 2).toList == [48, 120]) = false ∧ 2 ≤ N) ∨ ((N : Int) == 18) = false := by
      by_cases h18 : N = 18
      · refine .inl ⟨by rw [h18]; rfl, ?_, by omega⟩
        rw [beq_eq_false_iff_ne, Lib.extract_toList, List.drop_zero, ← hl]
        exact fun e => k5 ⟨by omega, e⟩
      · refine .inr ?_
        rw [beq_eq_false_iff_ne]
        omega
    have Hl := Lib.hid hl
    have hk4 : l ≠ [45, 48, 46] := by rw [hl]; exact k4
    have Hk4 := Lib.hid hk4
    have Hlen := Lib.hid hlen
    clear k1 k2 k3 k4 k5 hl hlen hs hk4
    by_cases h2 : N < 2
    · have Hno := Lib.hid (Hsh.out (.inl (by rw [Hlen.out]; exact h2)))
      have h2i : (N : Int) < 2 := by omega
      rcases hk5 with ⟨hk5, hk6, hk7⟩ | hk5
      · omega
      · clear h2
        go_enter Tryz.func60, Tryz.ntmps60
        go_wp2_with fail
        go_ret2
        exact ⟨0, by rw [Hno.out]; rfl, fun h => absurd h (by rw [Hno.out]; decide), Below.refl _ _⟩
    have h2i : ¬ (N : Int) < 2 := by omega
    by_cases h18 : 18 < N
    · have Hno := Lib.hid (Hsh.out (.inr (.inl (by rw [Hlen.out]; exact h18))))
      have h18i : 18 < (N : Int) := by omega
      clear h2 h18
      rcases hk5 with ⟨hk5, hk6, hk7⟩ | hk5
      all_goals
        go_enter Tryz.func60, Tryz.ntmps60
        go_wp2_with fail
        go_ret2
        exact ⟨0, by rw [Hno.out]; rfl, fun h => absurd h (by rw [Hno.out]; decide), Below.refl _ _⟩
    have h18i : ¬ 18 < (N : Int) := by omega
    obtain ⟨M, hM⟩ : ∃ M, N = M + 1 := ⟨N - 1, by omega⟩
    have hix : ((N : Int) - 1).toNat = M := by omega
    have hix2 : M < s.size := by omega
    obtain ⟨b, hb⟩ : ∃ b, s[M] = b := ⟨_, rfl⟩
    have hlast : l.getLast? = some b := by
      rw [List.getLast?_eq_getElem?, Hlen.out, hM, Nat.add_sub_cancel, Hl.out, List.getElem?_eq_getElem (by rw [← Lib.size_eq]; exact hix2), ← hb]
      rfl
    have Hlast := Lib.hid hlast
    clear hlast
    by_cases h46 : b = 46
    · have hb46 : ((b.toNat : Int) != 46) = false := by rw [h46]; decide
      obtain ⟨d, hd⟩ : ∃ d, d = l.take M := ⟨_, rfl⟩
      have hld : l = d ++ [46] := by
        have h1 : l = l.take M ++ l.drop M := (List.take_append_drop M l).symm
        have h3 : l.drop M = [46] := by
          have hMl : M < l.length := by rw [Hlen.out, hM]; omega
          have h4 : l[M]? = some 46 := by
            have := Hlast.out
            rw [List.getLast?_eq_getElem?, Hlen.out, hM, Nat.add_sub_cancel, h46] at this
            exact this
          rw [List.drop_eq_getElem_cons hMl, List.drop_eq_nil_of_le (by rw [Hlen.out, hM]; exact Nat.le_refl _)]
          rw [List.getElem?_eq_getElem hMl] at h4
          rw [Option.some.inj h4]
        rw [hd]
        rw [h3] at h1
        exact h1
      have hdl : d.length = M := by rw [hd, List.length_take, Hlen.out, hM]; omega
      have Hld := Lib.hid hld; have Hdl := Lib.hid hdl
      have hed : (s.extract 0 M).data.toList = d := by
        rw [hd, Hl.out, ← ByteArray.toList_eq, Lib.extract_toList, List.drop_zero, Nat.sub_zero]
      have hes : (s.extract 0 M).size = M := by rw [Lib.size_eq, hed, hdl]
      clear hld hdl hd h2 h18
      have hM1 : 1 ≤ M := by omega
      have hM2 : M ≤ 17 := by omega
      have HM := Lib.hid hM
      clear hM
      obtain ⟨c0, r, hdr⟩ : ∃ c0 r, d = c0 :: r := by
        cases hdc : d with
        | nil => have := Hdl.out; rw [hdc] at this; simp at this; omega
        | cons c0 r => exact ⟨c0, r, rfl⟩
      have hNx : ∃ (S1 T : ByteArray) (P : Nat) (neg : Bool), s.extract 0 M = S1 ∧ S1.size = M ∧ (∀ h : 0 < S1.size, S1[0] = c0) ∧ T.size = P ∧ P ≤ 17 ∧ signed d T.data.toList neg ∧ ((c0.toNat : Int) == 45) = neg ∧ (neg = true → S1.extract 1 M = T) ∧ (neg = false → S1 = T ∧ P = M) := by
        have h0 : ∀ h : 0 < (s.extract 0 M).size, (s.extract 0 M)[0] = c0 := by
          intro h
          have h5 : (s.extract 0 M).data.toList[0]? = some ((s.extract 0 M)[0]) := by
            rw [List.getElem?_eq_getElem (by rw [← Lib.size_eq]; exact h)]
            rfl
          rw [hed, hdr] at h5
          exact (Option.some.inj h5).symm
        by_cases h45 : c0 = 45
        · have hT : ((s.extract 0 M).extract 1 M).data.toList = r := by
            rw [← ByteArray.toList_eq, Lib.extract_toList, hed, hdr]
            have : r.length + 1 = M := by have := Hdl.out; rw [hdr] at this; simpa using this
            simp only [List.drop_succ_cons, List.drop_zero]
            rw [List.take_of_length_le (by omega)]
          refine ⟨_, (s.extract 0 M).extract 1 M, ((s.extract 0 M).extract 1 M).size, true, rfl, hes, h0, rfl, ?_, ?_, ?_, fun _ => rfl, fun h => (by cases h)⟩
          · rw [Lib.size_eq, hT]
            have := Hdl.out; rw [hdr] at this; simp at this; omega
          · rw [hT]; exact .inl ⟨rfl, by rw [hdr, h45]⟩
          · rw [h45]; decide
        · refine ⟨_, s.extract 0 M, M, false, rfl, hes, h0, hes, hM2, ?_, ?_, fun h => (by cases h), fun _ => ⟨rfl, rfl⟩⟩
          · rw [hed]
            refine .inr ⟨rfl, rfl, by rw [hdr]; simp, ?_⟩
            rw [hdr]
            intro e
            exact h45 (Option.some.inj e)
          · rw [beq_eq_false_iff_ne]
            intro e
            exact h45 (UInt8.toNat_inj.1 (by simp; omega))
      obtain ⟨S1, T, P, neg, hS1, hS1s, hS0, hTs, hP, hsg, hc45, hneg, hpos⟩ := hNx
      obtain ⟨d', hd'⟩ : ∃ d', d' = T.data.toList := ⟨_, rfl⟩
      rw [← hd'] at hsg
      have hd'l : d'.length = P := by rw [hd', Lib.size_eq] at *; exact hTs
      have hget : Hid (∀ i, i < P → ∀ h : i < T.size, ∃ c, d'[i]? = some c ∧ T[i] = c) := by
        refine Lib.hid fun i hi h => ⟨T[i], ?_, rfl⟩
        rw [hd', List.getElem?_eq_getElem (by rw [← Lib.size_eq]; exact h)]
        rfl
      have hS1lt : 0 < S1.size := by rw [hS1s]; omega
      have hS00 := hS0 hS1lt
      have Hsg := Lib.hid hsg
      have Hd'l := Lib.hid hd'l
      have HP := Lib.hid hP
      clear hS0 hed hes hsg hd'l hdr hd'
      have hno : ∀ c ∈ d', ¬ isDig c → parseOk s.data.toList = false := by
        intro c h1 h2
        have := dec_no Hld.out Hsg.out h1 h2
        rwa [Hl.out] at this
      have Hno := Lib.hid hno
      clear hno
      have hyes : ∀ (n : Nat) (v : Int), Lib.decFrom 0 d' = some n → v = (if neg then -(n : Int) else n) → candV l = fromV v ∧ parseOk l = (inR v && (printL (fromV v).toNat == l)) := by
        intro n v h1 h2
        exact dec_ok Hld.out Hsg.out (by rw [Hdl.out]; exact hM2) h1 Hk4.out h2
      have Hyes := Lib.hid hyes
      clear hyes
      have Hlen17 := Lib.hid hM2
      cases neg with
      | true =>
        have hS2 := hneg rfl
        clear hneg hpos
        rcases hk5 with ⟨hk5, hk6, hk7⟩ | hk5
        all_goals
          go_enter Tryz.func60, Tryz.ntmps60
          go_wp2_with fail
          go_loopg [9, 10] P (fun mm nv iv wr => ∃ (i n : Nat) (I NI : Int), i + mm = P ∧ DInv d' i n I NI ∧ nv = .int .i64 NI ∧ iv = .int .i64 I ∧ w = wr)
          case atStart => exact ⟨0, 0, 0, 0, by omega, Lib.hid ⟨rfl, rfl, rfl, by decide⟩, rfl, rfl, rfl⟩
          case round =>
            obtain ⟨i, n, I, NI, hi, HI, rfl, rfl, rfl⟩ := hrel
            have hNI0 : 0 ≤ NI := by have := HI.out.2.1; omega
            have hNI1 : NI < 100000000000000000 := by
              have h1 := HI.out.2.1
              have h2 := HI.out.2.2.2
              have h3 : 10 ^ i ≤ 10 ^ 17 := Nat.pow_le_pow_right (by decide) (by have := HP.out; omega)
              omega
            by_cases hm : gk = 0
            · have hiP : i = P := by omega
              have hIP : I = (P : Int) := by have := HI.out.1; omega
              have hn : Lib.decFrom 0 d' = some n := by
                have := HI.out.2.2.1
                rwa [List.take_of_length_le (by rw [Hd'l.out, hiP]; exact Nat.le_refl _)] at this
              obtain ⟨y1, y2⟩ := Hyes.out n (-NI) hn (by have := HI.out.2.1; simp only [if_true]; omega)
              have Hf : Hid (∀ W : World, Calls Tryz.prog 81 #[.int .i64 (-NI)] W fun e w' => e = .returned (.tuple #[.int .u64 (fromV (-NI)), .bool (inR (-NI))]) ∧ W = w') := Lib.hid fun W => fromintR_any W (-NI) (by omega) (by omega)
              have hr := fromV_range (-NI)
              have Hp : Hid (∀ W : World, Calls Tryz.prog 51 #[.int .u64 (fromV (-NI))] W fun e w' => e = .returned (.string ⟨(printL (fromV (-NI)).toNat).toArray⟩) ∧ Below W.heap.size W w') := Lib.hid fun W => printR_any W _ hr.1 hr.2
              have hpv : parseOk l = true → parseV l = fromV (-NI) := by
                intro h
                unfold parseV
                rw [if_pos h, y1]
              rw [Hl.out] at y2 hpv
              rw [← ByteArray.toList_eq, show (printL (fromV (-NI)).toNat == s.toList) = ((⟨(printL (fromV (-NI)).toNat).toArray⟩ : ByteArray).toList == s.toList) from congrArg (· == s.toList) (mk_toList _).symm] at y2
              generalize (⟨(printL (fromV (-NI)).toNat).toArray⟩ : ByteArray) = X at *
              generalize fromV (-NI) = F at *
              clear hr y1 hn hm hi hiP
              subst hIP
              have Hok := Lib.hid y2
              have Hpv := Lib.hid hpv
              clear y2 hpv
              cases hin : inR (-NI) with
              | false =>
                rw [hin] at Hok Hf
                go_wp2_with fail
                refine (Hf.out w).mono ?_
                rintro e w2 ⟨rfl, rfl⟩
                go_wp2_with fail
                go_ret2
                exact ⟨0, by rw [← ByteArray.toList_eq, Hok.out]; rfl, fun h => absurd h (by rw [← ByteArray.toList_eq, Hok.out]; simp), Below.refl _ _⟩
              | true =>
                rw [hin] at Hok Hf
                cases hx1 : (X.toList == s.toList) with
                | false =>
                  have hx2 : (X.toList != s.toList) = true := by unfold bne; rw [hx1]; rfl
                  rw [hx1] at Hok
                  go_wp2_with fail
                  refine (Hf.out w).mono ?_
                  rintro e w2 ⟨rfl, rfl⟩
                  go_wp2_with fail
                  refine (Hp.out w).mono ?_
                  rintro e w2 ⟨rfl, hb2⟩
                  go_wp2_with fail
                  go_ret2
                  exact ⟨0, by rw [← ByteArray.toList_eq, Hok.out]; rfl, fun h => absurd h (by rw [← ByteArray.toList_eq, Hok.out]; simp), hb2⟩
                | true =>
                  have hx2 : (X.toList != s.toList) = false := by unfold bne; rw [hx1]; rfl
                  rw [hx1] at Hok
                  go_wp2_with fail
                  refine (Hf.out w).mono ?_
                  rintro e w2 ⟨rfl, rfl⟩
                  go_wp2_with fail
                  refine (Hp.out w).mono ?_
                  rintro e w2 ⟨rfl, hb2⟩
                  go_wp2_with fail
                  go_ret2
                  exact ⟨_, by rw [← ByteArray.toList_eq, Hok.out]; rfl, fun h => (Hpv.out h).symm, hb2⟩
            · have hiP : i < P := by omega
              have hI0 : 0 ≤ I := by have := HI.out.1; omega
              have hI1 : I < (P : Int) := by have := HI.out.1; omega
              have hIn : I.toNat = i := by have := HI.out.1; omega
              obtain ⟨c, hc1, hc2⟩ := hget.out i hiP (by rw [hTs]; exact hiP)
              have Hc1 := Lib.hid hc1
              have Hi := Lib.hid hi; have Hm := Lib.hid hm
              have hNI2 : NI < 10000000000000000 := by
                have h1 := HI.out.2.1
                have h2 := HI.out.2.2.2
                have h3 : 10 ^ i ≤ 10 ^ 16 := Nat.pow_le_pow_right (by decide) (by have := HP.out; omega)
                omega
              clear hc1 hi hm hNI1
              by_cases hlo : (c.toNat : Int) < 48
              · have hno := Hno.out c (List.mem_of_getElem? Hc1.out) (by unfold isDig; omega)
                have HN := Lib.hid hno; clear hno
                go_wp2_with fail
                go_ret2
                exact ⟨0, by rw [HN.out]; rfl, fun h => absurd h (by rw [HN.out]; decide), Below.refl _ _⟩
              by_cases hhi : 57 < (c.toNat : Int)
              · have hno := Hno.out c (List.mem_of_getElem? Hc1.out) (by unfold isDig; omega)
                have HN := Lib.hid hno; clear hno
                go_wp2_with fail
                go_ret2
                exact ⟨0, by rw [HN.out]; rfl, fun h => absurd h (by rw [HN.out]; decide), Below.refl _ _⟩
              have hdig : Lib.digitVal c = some (c.toNat - 48) := by unfold Lib.digitVal; rw [if_pos ⟨by omega, by omega⟩]
              have HD := Lib.hid (HI.out.next Hc1.out hdig (by omega) (show 10 * NI + ((c.toNat : Int) - 48) = 10 * NI + ((c.toNat : Int) - 48) from rfl) (by omega))
              have hlo2 : 48 ≤ (c.toNat : Int) := by omega
              have hhi2 : (c.toNat : Int) ≤ 57 := by omega
              clear hdig hlo hhi
              go_wp2_with fail
              go_roundg (P - (i + 1))
              case measure => have := Hi.out; have := Hm.out; omega
              case rel => exact ⟨i + 1, _, I + 1, _, by have := Hi.out; have := Hm.out; omega, HD, by go_num, by go_num, rfl⟩
      | false =>
        obtain ⟨rfl, rfl⟩ := hpos rfl
        clear hneg hpos
        rcases hk5 with ⟨hk5, hk6, hk7⟩ | hk5
        all_goals
          go_enter Tryz.func60, Tryz.ntmps60
          go_wp2_with fail
          go_loopg [9, 10] P (fun mm nv iv wr => ∃ (i n : Nat) (I NI : Int), i + mm = P ∧ DInv d' i n I NI ∧ nv = .int .i64 NI ∧ iv = .int .i64 I ∧ w = wr)
          case atStart => exact ⟨0, 0, 0, 0, by omega, Lib.hid ⟨rfl, rfl, rfl, by decide⟩, rfl, rfl, rfl⟩
          case round =>
            obtain ⟨i, n, I, NI, hi, HI, rfl, rfl, rfl⟩ := hrel
            have hNI0 : 0 ≤ NI := by have := HI.out.2.1; omega
            have hNI1 : NI < 100000000000000000 := by
              have h1 := HI.out.2.1
              have h2 := HI.out.2.2.2
              have h3 : 10 ^ i ≤ 10 ^ 17 := Nat.pow_le_pow_right (by decide) (by have := HP.out; omega)
              omega
            by_cases hm : gk = 0
            · have hiP : i = P := by omega
              have hIP : I = (P : Int) := by have := HI.out.1; omega
              have hn : Lib.decFrom 0 d' = some n := by
                have := HI.out.2.2.1
                rwa [List.take_of_length_le (by rw [Hd'l.out, hiP]; exact Nat.le_refl _)] at this
              obtain ⟨y1, y2⟩ := Hyes.out n (NI) hn (by have := HI.out.2.1; simp only [Bool.false_eq_true, if_false]; omega)
              have Hf : Hid (∀ W : World, Calls Tryz.prog 81 #[.int .i64 (NI)] W fun e w' => e = .returned (.tuple #[.int .u64 (fromV (NI)), .bool (inR (NI))]) ∧ W = w') := Lib.hid fun W => fromintR_any W (NI) (by omega) (by omega)
              have hr := fromV_range (NI)
              have Hp : Hid (∀ W : World, Calls Tryz.prog 51 #[.int .u64 (fromV (NI))] W fun e w' => e = .returned (.string ⟨(printL (fromV (NI)).toNat).toArray⟩) ∧ Below W.heap.size W w') := Lib.hid fun W => printR_any W _ hr.1 hr.2
              have hpv : parseOk l = true → parseV l = fromV (NI) := by
                intro h
                unfold parseV
                rw [if_pos h, y1]
              rw [Hl.out] at y2 hpv
              rw [← ByteArray.toList_eq, show (printL (fromV (NI)).toNat == s.toList) = ((⟨(printL (fromV (NI)).toNat).toArray⟩ : ByteArray).toList == s.toList) from congrArg (· == s.toList) (mk_toList _).symm] at y2
              generalize (⟨(printL (fromV (NI)).toNat).toArray⟩ : ByteArray) = X at *
              generalize fromV (NI) = F at *
              clear hr y1 hn hm hi hiP
              subst hIP
              have Hok := Lib.hid y2
              have Hpv := Lib.hid hpv
              clear y2 hpv
              cases hin : inR (NI) with
              | false =>
                rw [hin] at Hok Hf
                go_wp2_with fail
                refine (Hf.out w).mono ?_
                rintro e w2 ⟨rfl, rfl⟩
                go_wp2_with fail
                go_ret2
                exact ⟨0, by rw [← ByteArray.toList_eq, Hok.out]; rfl, fun h => absurd h (by rw [← ByteArray.toList_eq, Hok.out]; simp), Below.refl _ _⟩
              | true =>
                rw [hin] at Hok Hf
                cases hx1 : (X.toList == s.toList) with
                | false =>
                  have hx2 : (X.toList != s.toList) = true := by unfold bne; rw [hx1]; rfl
                  rw [hx1] at Hok
                  go_wp2_with fail
                  refine (Hf.out w).mono ?_
                  rintro e w2 ⟨rfl, rfl⟩
                  go_wp2_with fail
                  refine (Hp.out w).mono ?_
                  rintro e w2 ⟨rfl, hb2⟩
                  go_wp2_with fail
                  go_ret2
                  exact ⟨0, by rw [← ByteArray.toList_eq, Hok.out]; rfl, fun h => absurd h (by rw [← ByteArray.toList_eq, Hok.out]; simp), hb2⟩
                | true =>
                  have hx2 : (X.toList != s.toList) = false := by unfold bne; rw [hx1]; rfl
                  rw [hx1] at Hok
                  go_wp2_with fail
                  refine (Hf.out w).mono ?_
                  rintro e w2 ⟨rfl, rfl⟩
                  go_wp2_with fail
                  refine (Hp.out w).mono ?_
                  rintro e w2 ⟨rfl, hb2⟩
                  go_wp2_with fail
                  go_ret2
                  exact ⟨_, by rw [← ByteArray.toList_eq, Hok.out]; rfl, fun h => (Hpv.out h).symm, hb2⟩
            · have hiP : i < P := by omega
              have hI0 : 0 ≤ I := by have := HI.out.1; omega
              have hI1 : I < (P : Int) := by have := HI.out.1; omega
              have hIn : I.toNat = i := by have := HI.out.1; omega
              obtain ⟨c, hc1, hc2⟩ := hget.out i hiP (by rw [hTs]; exact hiP)
              have Hc1 := Lib.hid hc1
              have Hi := Lib.hid hi; have Hm := Lib.hid hm
              have hNI2 : NI < 10000000000000000 := by
                have h1 := HI.out.2.1
                have h2 := HI.out.2.2.2
                have h3 : 10 ^ i ≤ 10 ^ 16 := Nat.pow_le_pow_right (by decide) (by have := HP.out; omega)
                omega
              clear hc1 hi hm hNI1
              by_cases hlo : (c.toNat : Int) < 48
              · have hno := Hno.out c (List.mem_of_getElem? Hc1.out) (by unfold isDig; omega)
                have HN := Lib.hid hno; clear hno
                go_wp2_with fail
                go_ret2
                exact ⟨0, by rw [HN.out]; rfl, fun h => absurd h (by rw [HN.out]; decide), Below.refl _ _⟩
              by_cases hhi : 57 < (c.toNat : Int)
              · have hno := Hno.out c (List.mem_of_getElem? Hc1.out) (by unfold isDig; omega)
                have HN := Lib.hid hno; clear hno
                go_wp2_with fail
                go_ret2
                exact ⟨0, by rw [HN.out]; rfl, fun h => absurd h (by rw [HN.out]; decide), Below.refl _ _⟩
              have hdig : Lib.digitVal c = some (c.toNat - 48) := by unfold Lib.digitVal; rw [if_pos ⟨by omega, by omega⟩]
              have HD := Lib.hid (HI.out.next Hc1.out hdig (by omega) (show 10 * NI + ((c.toNat : Int) - 48) = 10 * NI + ((c.toNat : Int) - 48) from rfl) (by omega))
              have hlo2 : 48 ≤ (c.toNat : Int) := by omega
              have hhi2 : (c.toNat : Int) ≤ 57 := by omega
              clear hdig hlo hhi
              go_wp2_with fail
              go_roundg (P - (i + 1))
              case measure => have := Hi.out; have := Hm.out; omega
              case rel => exact ⟨i + 1, _, I + 1, _, by have := Hi.out; have := Hm.out; omega, HD, by go_num, by go_num, rfl⟩
    · have Hno := Lib.hid (Hsh.out (.inr (.inr (by rw [Hlast.out]; exact fun e => h46 (Option.some.inj e)))))
      have hb46 : ((b.toNat : Int) != 46) = true := by
        rw [bne_iff_ne]
        intro e
        exact h46 (UInt8.toNat_inj.1 (by simp; omega))
      have HM := Lib.hid hM
      clear h46 h2 h18 hM
      rcases hk5 with ⟨hk5, hk6, hk7⟩ | hk5
      all_goals
        go_enter Tryz.func60, Tryz.ntmps60
        go_wp2_with fail
        go_ret2
        exact ⟨0, by rw [Hno.out]; rfl, fun h => absurd h (by rw [Hno.out]; decide), Below.refl _ _⟩
end Go.Proofs.YthhghlnbpigcjaaGreatDoor
namespace Go.Proofs.YthhghlnbpigcjaaGreatDoor
open Go.ChangeShapes Go.WideShapes Go.ChangeAt Go.RowKit

def tzZ : List Int := [0, 1, 56, 2, 57, 49, 28, 3, 61, 58, 42, 50, 38, 29, 17, 4, 62, 47, 59, 36, 45, 43, 51, 22, 53, 39, 33, 30, 24, 18, 12, 5, 63, 55, 48, 27, 60, 41, 37, 16, 46, 35, 44, 21, 52, 32, 23, 11, 54, 26, 40, 15, 34, 20, 31, 10, 25, 14, 19, 9, 13, 8, 7, 6]
theorem tz_data : (Rows.laid_math_bits_deBruijn64tab : DataW Unit) = Lib.tabData .u8 tzZ := by kernel_rfl
theorem pow_data : (Rows.laid_internal_strconv_uint64pow10 : DataW Unit) = Lib.tabData .u64 Lib.pow10Tab := by kernel_rfl
theorem star : "*" ++ "errors.errorString" = "*errors.errorString" := by decide
theorem row_err (u : TypeId) (h : Tryz.prog.typeName? 3 u = some "*errors.errorString") : u = 194 :=
  typeName_ptr_named (nm := "errors.errorString") (by rw [star]; kernel_rfl) (by kernel_rfl) (by decide) u (by rw [star]; exact h)
end Go.Proofs.YthhghlnbpigcjaaGreatDoor
