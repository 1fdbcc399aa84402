/- The document's answer for floats: the walk of FromInt. -/
import Derived.Test.YtacafhmagonngaaGreatDoorFf1
import Derived.Test.YtacafhmagonngaaGreatDoorFa6
set_option linter.unusedVariables false
set_option linter.unusedSimpArgs false
namespace Go.Proofs.YtacafhmagonngaaGreatDoor
open Go.RowKit

/-- a whole number's word by its parts -/
theorem fromW_parts (n : Int) (a j e m : Nat) (h0 : n.natAbs = a) (h1 : a ≠ 0) (hle : a ≤ 9007199254740992) (h2 : m = a * 2 ^ j) (h3 : e + j = 1075) (h4 : 4503599627370496 ≤ m) (h5 : m < 9007199254740992) (hj : j ≤ 1074) :
    fromW n = (if n < 0 then B63 else 0) + (e * B52 + (m - B52)) := by
  obtain ⟨r, q1, q2, q3⟩ := fromW_spec n (by rw [h0]; exact hle)
  have hr : mag (e * B52 + (m - B52)) = mag r := by
    rw [mag_parts (e := e) (m := m - B52) rfl (by unfold B52; omega) (by omega), show B52 + (m - B52) = m from by unfold B52 at *; omega, q2, h0, h2, U_split j hj, show e - 1 = 1074 - j from by omega, Nat.mul_assoc, Nat.mul_comm (2 ^ j)]
  have hr2 := mag_inj hr
  rw [q1, ← hr2]
  have hs : Ieee.double.signWeight = B63 := by decide
  unfold Ieee.Format.word
  rw [hs]
  by_cases hn : n < 0
  · rw [decide_eq_true hn, if_pos hn, if_pos rfl]
  · rw [decide_eq_false hn, if_neg hn, if_neg (by decide), Nat.zero_add]
theorem fromW_top (n : Int) (h0 : n.natAbs = 9007199254740992) : fromW n = (if n < 0 then B63 else 0) + R53 := by
  obtain ⟨r, q1, q2, q3⟩ := fromW_spec n (by omega)
  have hr : mag R53 = mag r := by rw [q2, h0, mag53]
  have hr2 := mag_inj hr
  rw [q1, ← hr2]
  have hs : Ieee.double.signWeight = B63 := by decide
  unfold Ieee.Format.word
  rw [hs]
  by_cases hn : n < 0
  · rw [decide_eq_true hn, if_pos hn, if_pos rfl]
  · rw [decide_eq_false hn, if_neg hn, if_neg (by decide), Nat.zero_add]
/-- the state of the first loop -/
def FInv (a j m mm : Nat) (E : Int) : Prop := m = a * 2 ^ j ∧ m + mm = 9007199254740992 ∧ j ≤ 53 ∧ E = 1075 - (j : Int) ∧ (j = 0 ∨ m < 9007199254740992)
theorem FInv.next {a j m mm : Nat} {E : Int} (h : FInv a j m mm E) (ha : 1 ≤ a) (hm : m < 4503599627370496) : FInv a (j + 1) (m * 2) (mm - m) (E - 1) := by
  have hj : j ≤ 52 := by
    have h1 := h.1
    have h2 : 2 ^ j ≤ m := by rw [h1]; exact Nat.le_mul_of_pos_left _ ha
    have h3 : 2 ^ j < 2 ^ 52 := by omega
    have := (Nat.pow_lt_pow_iff_right (by decide : 1 < 2)).1 h3
    omega
  obtain ⟨q1, q2, q3, q4, q5⟩ := h
  exact ⟨by rw [q1, Nat.pow_succ, Nat.mul_assoc], by omega, by omega, by omega, by omega⟩
def FTop (mm : Nat) (x k : Value) : Prop := (mm = 1 ∧ x = .int .u64 9007199254740992 ∧ k = .int .u64 1075) ∨ (mm = 0 ∧ x = .int .u64 4503599627370496 ∧ k = .int .u64 1076)
set_option maxHeartbeats 8000000 in
set_option maxRecDepth 100000 in
theorem fromintR_any (w : World) (n : Int) (n0 : -9223372036854775808 ≤ n) (n1 : n ≤ 9223372036854775807) :
    Calls Tryz.prog 60 #[.int .i64 n] w fun e w' => e = .returned (.tuple #[.int .u64 (fromV n), .bool (inR n)]) ∧ w = w' := by
  by_cases h1 : n < -9007199254740992
  · have h2 : inR n = false := by unfold inR; rw [decide_eq_false (by omega), Bool.false_and]
    have h3 : fromV n = 0 := by unfold fromV; rw [if_neg (by simp [h2])]
    rw [h2, h3]
    clear h2 h3
    go_enter Tryz.func60, Tryz.ntmps60
    go_wp2_with fail
    go_ret2
    exact ⟨rfl, rfl⟩
  by_cases h4 : 9007199254740992 < n
  · have h2 : inR n = false := by unfold inR; rw [decide_eq_false (p := n ≤ _) (by omega), Bool.and_false]
    have h3 : fromV n = 0 := by unfold fromV; rw [if_neg (by simp [h2])]
    rw [h2, h3]
    clear h2 h3
    go_enter Tryz.func60, Tryz.ntmps60
    go_wp2_with fail
    go_ret2
    exact ⟨rfl, rfl⟩
  have h2 : inR n = true := by unfold inR; rw [decide_eq_true (by omega), decide_eq_true (by omega)]; rfl
  have h3 : fromV n = fromW n := by unfold fromV; rw [if_pos h2]
  rw [h2, h3]
  clear h2 h3
  by_cases h5 : n = 0
  · subst h5
    have h6 : (fromW 0 : Int) = 0 := by decide
    rw [h6]
    clear h6 h1 h4
    go_enter Tryz.func60, Tryz.ntmps60
    go_wp2_with fail
    go_ret2
    exact ⟨rfl, rfl⟩
  obtain ⟨a, ha⟩ : ∃ a, n.natAbs = a := ⟨_, rfl⟩
  have Hlow : Hid (∀ j m mm E, FInv a j m mm E → 4503599627370496 ≤ m → m < 9007199254740992 → fromW n = (if n < 0 then B63 else 0) + (E.toNat * B52 + (m - B52))) := by
    refine Lib.hid fun j m mm E h k1 k2 => ?_
    obtain ⟨q1, q2, q3, q4, q5⟩ := h
    exact fromW_parts n a j E.toNat m ha (by omega) (by omega) q1 (by omega) k1 k2 (by omega)
  have Htop : Hid (a = 9007199254740992 → fromW n = (if n < 0 then B63 else 0) + R53) := Lib.hid fun h => fromW_top n (by omega)
  have Ha : Hid (1 ≤ a ∧ a ≤ 9007199254740992) := Lib.hid (by omega)
  have h5' : (n == 0) = false := by rw [beq_eq_false_iff_ne]; exact h5
  generalize hR : ((fromW n : Nat) : Int) = R
  have HR := Lib.hid hR
  clear hR
  by_cases hneg : n < 0
  · have hs : Hid (∀ x : Nat, (if n < 0 then B63 else 0) + x = B63 + x) := Lib.hid fun x => by rw [if_pos hneg]
    have Han : Hid (-n = (a : Int)) := Lib.hid (by omega)
    have hna : -n = -n := rfl
    generalize hN : -n = N at Han
    have hN0 : 0 ≤ N := by omega
    have hN1 : N ≤ 9007199254740992 := by omega
    have hmul : n * -1 = N := by omega
    clear ha h5 hna
    go_enter Tryz.func60, Tryz.ntmps60
    go_wp2_with fail
    go_loopg [5, 6] (9007199254740992 - a) (fun mm x k wr => ∃ (j m : Nat) (E : Int), FInv a j m mm E ∧ x = .int .u64 (m : Int) ∧ k = .int .u64 E ∧ w = wr)
    case atStart => exact ⟨0, a, 1075, ⟨by omega, by have := Ha.out; omega, by omega, by omega, .inl rfl⟩, by rw [Han.out], rfl, rfl⟩
    case round =>
      obtain ⟨j, m, E, hinv, rfl, rfl, rfl⟩ := hrel
      have hm0 : (0 : Int) ≤ (m : Int) := by omega
      have hm1 : (m : Int) ≤ 9007199254740992 := by have := hinv.2.1; omega
      have hE0 : 1022 ≤ E := by have := hinv.2.2.2.1; have := hinv.2.2.1; omega
      have hE1 : E ≤ 1075 := by have := hinv.2.2.2.1; omega
      have Hi := Lib.hid hinv
      clear hinv
      by_cases hm : m < 4503599627370496
      · have Hn := Lib.hid (Hi.out.next Ha.out.1 hm)
        have hm2 : (m : Int) < 4503599627370496 := by omega
        have Hmp : Hid (1 ≤ m) := Lib.hid (by rw [Hi.out.1]; exact Nat.le_trans Ha.out.1 (Nat.le_mul_of_pos_right _ (Nat.pow_pos (by decide))))
        have Hm2 := Lib.hid hm
        clear hm
        have hcast : (m : Int) * 2 = ((m * 2 : Nat) : Int) := by omega
        have Hc := Lib.hid hcast
        clear hcast
        go_wp2_with fail
        go_roundg (gk - m)
        case measure => have := Hi.out.2.1; have := Hmp.out; have := Hm2.out; omega
        case rel => exact ⟨j + 1, m * 2, E - 1, Hn.out, by rw [← Hc.out], by go_num, rfl⟩
      · by_cases hm2 : m < 9007199254740992
        · have hl := Hlow.out j m gk E Hi.out (by omega) hm2
          rw [hs.out] at hl
          have hR2 : R = 9223372036854775808 + E * 4503599627370496 + (m : Int) - 4503599627370496 := by
            rw [← HR.out, hl]
            unfold B63 B52
            omega
          have Hl := Lib.hid hR2
          clear hR2
          have hm3 : ¬ (m : Int) < 4503599627370496 := by omega
          have hm4 : (m : Int) < 9007199254740992 := by omega
          clear hl hm hm2
          have hm5 : 4503599627370496 ≤ (m : Int) := by omega
          clear hm3 hm0 hm1
          generalize (m : Int) = M at *
          go_wp2_with fail
          go_loopg [5, 6] 0 (fun mm x k wr => x = .int .u64 M ∧ k = .int .u64 E ∧ w = wr)
          case atStart => exact ⟨rfl, rfl, rfl⟩
          case round =>
            obtain ⟨rfl, rfl, rfl⟩ := hrel
            go_wp2_with fail
            go_ret2
            exact ⟨by rw [Hl.out]; rfl, rfl⟩
        · have ha : a = 9007199254740992 := by
            rcases Hi.out.2.2.2.2 with e | e
            · have := Hi.out.1; rw [e] at this; omega
            · omega
          have hl := Htop.out ha
          rw [hs.out] at hl
          have Hl := Lib.hid hl
          have hE : E = 1075 := by
            rcases Hi.out.2.2.2.2 with e | e
            · have := Hi.out.2.2.2.1; rw [e] at this; omega
            · omega
          have hmm : m = 9007199254740992 := by have := Hi.out.2.1; omega
          subst hE
          subst hmm
          clear hl hm hm2 ha
          go_wp2_with fail
          go_loopg [5, 6] 1 (fun mm x k wr => FTop mm x k ∧ w = wr)
          case atStart => exact ⟨.inl ⟨rfl, rfl, rfl⟩, rfl⟩
          case round =>
            obtain ⟨htop, rfl⟩ := hrel
            rcases htop with ⟨rfl, rfl, rfl⟩ | ⟨rfl, rfl, rfl⟩
            · go_wp2_with fail
              go_roundg 0
              case measure => omega
              case rel => exact ⟨.inr ⟨rfl, rfl, rfl⟩, rfl⟩
            · go_wp2_with fail
              go_ret2
              exact ⟨by rw [← HR.out, Hl.out]; rfl, rfl⟩
  · have hs : Hid (∀ x : Nat, (if n < 0 then B63 else 0) + x = 0 + x) := Lib.hid fun x => by rw [if_neg hneg]
    have Han : Hid (n = (a : Int)) := Lib.hid (by omega)
    clear ha h5
    go_enter Tryz.func60, Tryz.ntmps60
    go_wp2_with fail
    go_loopg [5, 6] (9007199254740992 - a) (fun mm x k wr => ∃ (j m : Nat) (E : Int), FInv a j m mm E ∧ x = .int .u64 (m : Int) ∧ k = .int .u64 E ∧ w = wr)
    case atStart => exact ⟨0, a, 1075, ⟨by omega, by have := Ha.out; omega, by omega, by omega, .inl rfl⟩, by rw [Han.out], rfl, rfl⟩
    case round =>
      obtain ⟨j, m, E, hinv, rfl, rfl, rfl⟩ := hrel
      have hm0 : (0 : Int) ≤ (m : Int) := by omega
      have hm1 : (m : Int) ≤ 9007199254740992 := by have := hinv.2.1; omega
      have hE0 : 1022 ≤ E := by have := hinv.2.2.2.1; have := hinv.2.2.1; omega
      have hE1 : E ≤ 1075 := by have := hinv.2.2.2.1; omega
      have Hi := Lib.hid hinv
      clear hinv
      by_cases hm : m < 4503599627370496
      · have Hn := Lib.hid (Hi.out.next Ha.out.1 hm)
        have hm2 : (m : Int) < 4503599627370496 := by omega
        have Hmp : Hid (1 ≤ m) := Lib.hid (by rw [Hi.out.1]; exact Nat.le_trans Ha.out.1 (Nat.le_mul_of_pos_right _ (Nat.pow_pos (by decide))))
        have Hm2 := Lib.hid hm
        clear hm
        have hcast : (m : Int) * 2 = ((m * 2 : Nat) : Int) := by omega
        have Hc := Lib.hid hcast
        clear hcast
        go_wp2_with fail
        go_roundg (gk - m)
        case measure => have := Hi.out.2.1; have := Hmp.out; have := Hm2.out; omega
        case rel => exact ⟨j + 1, m * 2, E - 1, Hn.out, by rw [← Hc.out], by go_num, rfl⟩
      · by_cases hm2 : m < 9007199254740992
        · have hl := Hlow.out j m gk E Hi.out (by omega) hm2
          rw [hs.out] at hl
          have hR2 : R = E * 4503599627370496 + (m : Int) - 4503599627370496 := by
            rw [← HR.out, hl]
            unfold B52
            omega
          have Hl := Lib.hid hR2
          clear hR2
          have hm3 : ¬ (m : Int) < 4503599627370496 := by omega
          have hm4 : (m : Int) < 9007199254740992 := by omega
          clear hl hm hm2
          have hm5 : 4503599627370496 ≤ (m : Int) := by omega
          clear hm3 hm0 hm1
          generalize (m : Int) = M at *
          go_wp2_with fail
          go_loopg [5, 6] 0 (fun mm x k wr => x = .int .u64 M ∧ k = .int .u64 E ∧ w = wr)
          case atStart => exact ⟨rfl, rfl, rfl⟩
          case round =>
            obtain ⟨rfl, rfl, rfl⟩ := hrel
            go_wp2_with fail
            go_ret2
            exact ⟨by rw [Hl.out]; rfl, rfl⟩
        · have ha : a = 9007199254740992 := by
            rcases Hi.out.2.2.2.2 with e | e
            · have := Hi.out.1; rw [e] at this; omega
            · omega
          have hl := Htop.out ha
          rw [hs.out] at hl
          have Hl := Lib.hid hl
          have hE : E = 1075 := by
            rcases Hi.out.2.2.2.2 with e | e
            · have := Hi.out.2.2.2.1; rw [e] at this; omega
            · omega
          have hmm : m = 9007199254740992 := by have := Hi.out.2.1; omega
          subst hE
          subst hmm
          clear hl hm hm2 ha
          go_wp2_with fail
          go_loopg [5, 6] 1 (fun mm x k wr => FTop mm x k ∧ w = wr)
          case atStart => exact ⟨.inl ⟨rfl, rfl, rfl⟩, rfl⟩
          case round =>
            obtain ⟨htop, rfl⟩ := hrel
            rcases htop with ⟨rfl, rfl, rfl⟩ | ⟨rfl, rfl, rfl⟩
            · go_wp2_with fail
              go_roundg 0
              case measure => omega
              case rel => exact ⟨.inr ⟨rfl, rfl, rfl⟩, rfl⟩
            · go_wp2_with fail
              go_ret2
              exact ⟨by rw [← HR.out, Hl.out]; rfl, rfl⟩
end Go.Proofs.YtacafhmagonngaaGreatDoor
