/- The document's answer for floats: the walks of Digits and Print. -/
import Derived.Test.YtacafhmagonngaaGreatDoorFp0
import Derived.Test.YtacafhmagonngaaGreatDoorFf3
set_option linter.unusedVariables false
set_option linter.unusedSimpArgs false
namespace Go.Proofs.YtacafhmagonngaaGreatDoor
open Go.RowKit

theorem decDigits_split (n : Nat) (h : ¬ n < 10) : Lib.decDigits n = Lib.decDigits (n / 10) ++ Lib.decDigits (n % 10) := by
  conv => lhs; rw [Lib.decDigits, dif_neg h]
  rw [Lib.decDigits_one (Nat.mod_lt n (by decide))]
theorem decDigits_len20 (u : Nat) (h : u < 10 ^ 20) : (Lib.decDigits u).length ≤ 20 := by
  have key : ∀ k u, u < 10 ^ (k + 1) → (Lib.decDigits u).length ≤ k + 1 := by
    intro k
    induction k with
    | zero =>
      intro u h
      rw [Lib.decDigits, dif_pos (by omega)]
      simp
    | succ k ih =>
      intro u h
      rw [Lib.decDigits]
      split
      · simp
      · rw [List.length_append, List.length_singleton]
        have := ih (u / 10) (by rw [Nat.pow_succ] at h; omega)
        omega
  exact key 19 u h
theorem one_text (w : World) (c : UInt8) (x : Int) (h : x = (c.toNat : Int)) : (convert 39 9 (.slice (some ⟨w.heap.size, 0, none⟩) 1 1)).run Tryz.prog (w.alloc (Obj.cells #[.int .u8 x] 5)) = .ok (.string ⟨#[c]⟩) (w.alloc (Obj.cells #[.int .u8 x] 5)) := by
  have := run_convert_bytes_back (P := Tryz.prog) (w.alloc (Obj.cells #[.int .u8 x] 5)) 39 9 5 ⟨w.heap.size, 0, none⟩ 1 [c] Tryz.underlying39 Tryz.underlying5 Tryz.underlying9 (fun t ht => by
    obtain rfl : t = 0 := by simpa using ht
    subst h
    simp [Addr.add])
  exact this
set_option maxRecDepth 10000 in
/-- Digits of a number of one digit -/
theorem digit_any (w : World) (n : Int) (h0 : 0 ≤ n) (h1 : n < 10) :
    Calls Tryz.prog 86 #[.int .i64 n] w fun e w' => e = .returned (.string ⟨(Lib.decDigits n.toNat).toArray⟩) ∧ Below w.heap.size w w' := by
  have hd : Lib.decDigits n.toNat = [UInt8.ofNat (48 + n.toNat)] := Lib.decDigits_one (by omega)
  have hb : (UInt8.ofNat (48 + n.toNat)).toNat = 48 + n.toNat := by rw [UInt8.toNat_ofNat']; omega
  rw [hd]
  generalize UInt8.ofNat (48 + n.toNat) = c at hb ⊢
  have hc : 48 + n = (c.toNat : Int) := by omega
  have HC := Lib.hid hc
  have hC0 : (0 : Int) ≤ (c.toNat : Int) := by omega
  have hC1 : (c.toNat : Int) < 256 := by omega
  clear hb hd hc hC0 hC1
  have hcv := one_text w c (48 + n) HC.out
  go_enter Tryz.func86, Tryz.ntmps86
  go_wp2_with fail
  go_ret
  exact ⟨rfl, (Below.refl _ _).alloc (Nat.le_refl _) _⟩
set_option maxRecDepth 10000 in
theorem digits_nat (k : Nat) : ∀ (w : World) (n : Int), n.toNat = k → 0 ≤ n → n ≤ 9223372036854775807 →
    Calls Tryz.prog 86 #[.int .i64 n] w fun e w' => e = .returned (.string ⟨(Lib.decDigits n.toNat).toArray⟩) ∧ Below w.heap.size w w' := by
  induction k using Nat.strongRecOn with
  | _ k ih =>
    intro w n hk h0 h1
    by_cases h : n < 10
    · exact digit_any w n h0 h
    · have H1 : Hid (∀ W : World, Calls Tryz.prog 86 #[.int .i64 (n / 10)] W fun e w' => e = .returned (.string ⟨(Lib.decDigits (n / 10).toNat).toArray⟩) ∧ Below W.heap.size W w') := Lib.hid fun W => ih (n / 10).toNat (by omega) W (n / 10) rfl (by omega) (by omega)
      have H2 : Hid (∀ W : World, Calls Tryz.prog 86 #[.int .i64 (n % 10)] W fun e w' => e = .returned (.string ⟨(Lib.decDigits (n % 10).toNat).toArray⟩) ∧ Below W.heap.size W w') := Lib.hid fun W => digit_any W (n % 10) (by omega) (by omega)
      have hd : Lib.decDigits n.toNat = Lib.decDigits (n / 10).toNat ++ Lib.decDigits (n % 10).toNat := by
        rw [decDigits_split n.toNat (by omega), show (n / 10).toNat = n.toNat / 10 from by omega, show (n % 10).toNat = n.toNat % 10 from by omega]
      have l1 := decDigits_len20 (n / 10).toNat (by omega)
      have l2 := decDigits_len20 (n % 10).toNat (by omega)
      rw [hd]
      generalize Lib.decDigits (n / 10).toNat = x at *
      generalize Lib.decDigits (n % 10).toNat = y at *
      have hadd := add_lists x y (by omega)
      clear hd ih hk l1 l2
      have hn9 : 10 ≤ n := by omega
      have ht : n.tdiv 10 = n / 10 := Int.tdiv_eq_ediv_of_nonneg h0
      have htm : n.tmod 10 = n % 10 := Int.tmod_eq_emod_of_nonneg h0
      go_enter Tryz.func86, Tryz.ntmps86
      go_wp2_with fail
      refine (H1.out w).mono ?_
      rintro e w1 ⟨rfl, hb1⟩
      go_wp2_with fail
      refine (H2.out w1).mono ?_
      rintro e w2 ⟨rfl, hb2⟩
      have hb := hb1.trans (hb2.mono hb1.size)
      go_wp2_with fail
      go_ret
      exact ⟨rfl, hb⟩
set_option maxRecDepth 10000 in
theorem digits_any (w : World) (n : Int) (h0 : -9223372036854775807 ≤ n) (h1 : n ≤ 9223372036854775807) :
    Calls Tryz.prog 86 #[.int .i64 n] w fun e w' => e = .returned (.string ⟨(Lib.itoa n).toArray⟩) ∧ Below w.heap.size w w' := by
  unfold Lib.itoa
  by_cases h : n < 0
  · rw [if_pos h]
    have H1 : Hid (∀ W : World, Calls Tryz.prog 86 #[.int .i64 (-n)] W fun e w' => e = .returned (.string ⟨(Lib.decDigits n.natAbs).toArray⟩) ∧ Below W.heap.size W w') := Lib.hid fun W => by
      have := digits_nat (-n).toNat W (-n) rfl (by omega) (by omega)
      rwa [show (-n).toNat = n.natAbs from by omega] at this
    have l1 := decDigits_len20 n.natAbs (by omega)
    generalize Lib.decDigits n.natAbs = x at *
    have hadd := add_lists [45] x (by simp; omega)
    clear l1
    go_enter Tryz.func86, Tryz.ntmps86
    go_wp2_with fail
    refine (H1.out w).mono ?_
    rintro e w1 ⟨rfl, hb1⟩
    go_wp2_with fail
    go_ret
    exact ⟨rfl, hb1⟩
  · rw [if_neg h]
    exact digits_nat n.toNat w n rfl (by omega) h1

theorem hexN_get (n u : Nat) : ∀ j, j < n → (hexN n u)[j]? = some (dig (u / 16 ^ (n - 1 - j) % 16)) := by
  induction n with
  | zero => intro j h; omega
  | succ n ih =>
    intro j h
    cases j with
    | zero => rfl
    | succ j =>
      show (hexN n u)[j]? = _
      rw [ih j (by omega), show n + 1 - 1 - (j + 1) = n - 1 - j from by omega]
theorem hexN_take (u j : Nat) (h : j < 16) : (hexN 16 u).take (j + 1) = (hexN 16 u).take j ++ [dig (u / 16 ^ (15 - j) % 16)] := by
  rw [List.take_add_one, hexN_get 16 u j h]
  rfl
abbrev digits16 : ByteArray := ⟨#[48, 49, 50, 51, 52, 53, 54, 55, 56, 57, 97, 98, 99, 100, 101, 102]⟩
theorem digit16_cut (d : Nat) (h : d < 16) : digits16.extract d (d + 1) = ⟨#[dig d]⟩ := by
  match d, h with
  | 0, _ => rfl
  | 1, _ => rfl
  | 2, _ => rfl
  | 3, _ => rfl
  | 4, _ => rfl
  | 5, _ => rfl
  | 6, _ => rfl
  | 7, _ => rfl
  | 8, _ => rfl
  | 9, _ => rfl
  | 10, _ => rfl
  | 11, _ => rfl
  | 12, _ => rfl
  | 13, _ => rfl
  | 14, _ => rfl
  | 15, _ => rfl
  | d + 16, h => omega
def HInv (u j mm : Nat) (K : Int) (X : List UInt8) : Prop := j + mm = 16 ∧ K = 60 - 4 * (j : Int) ∧ X = [48, 120] ++ (hexN 16 u).take j
theorem nib_at (c K : Int) (j : Nat) (h0 : 0 ≤ c) (hK : K = 60 - 4 * (j : Int)) (hj : j ≤ 15) : (c / 2 ^ K.toNat).tmod 16 = ((c.toNat / 16 ^ (15 - j) % 16 : Nat) : Int) := by
  have h2 : (2 : Int) ^ K.toNat = ((16 ^ (15 - j) : Nat) : Int) := by
    rw [show K.toNat = 4 * (15 - j) from by omega, Int.pow_mul, show ((2 : Int) ^ 4) = ((16 : Nat) : Int) from by decide, ← Int.natCast_pow]
  rw [h2]
  obtain ⟨n, rfl⟩ := Int.eq_ofNat_of_zero_le h0
  rw [Int.toNat_natCast, show ((n : Int) / ((16 ^ (15 - j) : Nat) : Int)) = ((n / 16 ^ (15 - j) : Nat) : Int) from (Int.natCast_ediv _ _).symm]
  generalize n / 16 ^ (15 - j) = q
  rw [Int.tmod_eq_emod_of_nonneg (by omega)]
  omega
set_option maxHeartbeats 8000000 in
set_option maxRecDepth 100000 in
theorem printR_any (w : World) (u : Int) (h0 : 0 ≤ u) (h1 : u < 18446744073709551616) :
    Calls Tryz.prog 59 #[.int .u64 u] w fun e w' => e = .returned (.string ⟨(printL u.toNat).toArray⟩) ∧ Below w.heap.size w w' := by
  have hc := canonR_any w u h0 h1
  obtain ⟨r0, r1⟩ := canon_range h0 h1
  have hcan := canon_canon u
  rw [← print_canon u h0]
  have Hc := Lib.hid hc; clear hc
  generalize canonF u = c at *
  have Hw : Hid (∀ W : World, Calls Tryz.prog 85 #[.int .u64 c] W fun e w' => e = .returned (.tuple #[.int .i64 (wholeV c.toNat), .bool (wholeW c.toNat)]) ∧ W = w') := Lib.hid fun W => wholeR_any W c r0 r1
  have Hn : Hid (∀ W : World, Calls Tryz.prog 62 #[.int .u64 c] W fun e w' => e = .returned (.bool (nanW c.toNat)) ∧ W = w') := Lib.hid fun W => isnanR_any W c r0 r1
  cases hn : nanW c.toNat with
  | true =>
    have hp : printL c.toNat = [110, 97, 110] := by unfold printL; rw [if_pos hn]
    rw [hp]
    rw [hn] at Hn
    generalize wholeV c.toNat = v at Hw
    generalize wholeW c.toNat = b at Hw
    clear hp hn hcan r0 r1 h0 h1
    go_enter Tryz.func59, Tryz.ntmps59
    go_wp2_with fail
    refine Hc.out.mono ?_
    rintro e w' ⟨rfl, rfl⟩
    go_wp2_with fail
    refine (Hw.out w).mono ?_
    rintro e w' ⟨rfl, rfl⟩
    go_wp2_with fail
    refine (Hn.out w).mono ?_
    rintro e w' ⟨rfl, rfl⟩
    go_wp2_with fail
    go_ret
    exact ⟨rfl, Below.refl _ _⟩
  | false =>
    by_cases k1 : c = 9218868437227405312
    · subst k1
      have hp : printL (9218868437227405312 : Int).toNat = [105, 110, 102] := by decide +kernel
      rw [hp]
      generalize wholeV (9218868437227405312 : Int).toNat = v at Hw
      generalize wholeW (9218868437227405312 : Int).toNat = b at Hw
      rw [hn] at Hn
      clear hp hn hcan r0 r1 h0 h1
      go_enter Tryz.func59, Tryz.ntmps59
      go_wp2_with fail
      refine Hc.out.mono ?_
      rintro e w' ⟨rfl, rfl⟩
      go_wp2_with fail
      refine (Hw.out w).mono ?_
      rintro e w' ⟨rfl, rfl⟩
      go_wp2_with fail
      refine (Hn.out w).mono ?_
      rintro e w' ⟨rfl, rfl⟩
      go_wp2_with fail
      go_ret
      exact ⟨rfl, Below.refl _ _⟩
    by_cases k2 : c = 18442240474082181120
    · subst k2
      have hp : printL (18442240474082181120 : Int).toNat = [45, 105, 110, 102] := by decide +kernel
      rw [hp]
      generalize wholeV (18442240474082181120 : Int).toNat = v at Hw
      generalize wholeW (18442240474082181120 : Int).toNat = b at Hw
      rw [hn] at Hn
      clear hp hn hcan r0 r1 h0 h1
      go_enter Tryz.func59, Tryz.ntmps59
      go_wp2_with fail
      refine Hc.out.mono ?_
      rintro e w' ⟨rfl, rfl⟩
      go_wp2_with fail
      refine (Hw.out w).mono ?_
      rintro e w' ⟨rfl, rfl⟩
      go_wp2_with fail
      refine (Hn.out w).mono ?_
      rintro e w' ⟨rfl, rfl⟩
      go_wp2_with fail
      go_ret
      exact ⟨rfl, Below.refl _ _⟩
    by_cases k3 : c = 9223372036854775808
    · subst k3
      have hp : printL (9223372036854775808 : Int).toNat = [45, 48, 46] := by decide +kernel
      rw [hp]
      generalize wholeV (9223372036854775808 : Int).toNat = v at Hw
      generalize wholeW (9223372036854775808 : Int).toNat = b at Hw
      rw [hn] at Hn
      clear hp hn hcan r0 r1 h0 h1
      go_enter Tryz.func59, Tryz.ntmps59
      go_wp2_with fail
      refine Hc.out.mono ?_
      rintro e w' ⟨rfl, rfl⟩
      go_wp2_with fail
      refine (Hw.out w).mono ?_
      rintro e w' ⟨rfl, rfl⟩
      go_wp2_with fail
      refine (Hn.out w).mono ?_
      rintro e w' ⟨rfl, rfl⟩
      go_wp2_with fail
      go_ret
      exact ⟨rfl, Below.refl _ _⟩
    have hlt : c.toNat < 18446744073709551616 := by omega
    have e1 : infW false c.toNat = false := by
      cases h : infW false c.toNat with
      | false => rfl
      | true => have := inf_word hlt false h; exact absurd (show c = 9218868437227405312 by simp at this; omega) k1
    have e2 : infW true c.toNat = false := by
      cases h : infW true c.toNat with
      | false => rfl
      | true => have := inf_word hlt true h; exact absurd (show c = 18442240474082181120 by simp at this; omega) k2
    have b1 : (c == 9218868437227405312) = false := by rw [beq_eq_false_iff_ne]; exact k1
    have b2 : (c == 18442240474082181120) = false := by rw [beq_eq_false_iff_ne]; exact k2
    have b3 : (c == 9223372036854775808) = false := by rw [beq_eq_false_iff_ne]; exact k3
    cases hw : wholeW c.toNat with
    | true =>
      have hz : ¬ (negW c.toNat = true ∧ wholeV c.toNat = 0) := by
        rintro ⟨z1, z2⟩
        have := neg_zero hlt hw z1 z2
        exact k3 (by unfold B63 at this; omega)
      have hp : printL c.toNat = Lib.itoa (wholeV c.toNat) ++ [46] := by
        unfold printL
        rw [hn, e1, e2, hw]
        simp only [Bool.false_eq_true, if_false, if_true]
        rw [if_neg (by simpa using hz)]
      rw [hp]
      have hle := wholeV_le c.toNat
      rw [hw] at Hw
      rw [hn] at Hn
      generalize wholeV c.toNat = v at *
      have Hd : Hid (∀ W : World, Calls Tryz.prog 86 #[.int .i64 v] W fun e w' => e = .returned (.string ⟨(Lib.itoa v).toArray⟩) ∧ Below W.heap.size W w') := Lib.hid fun W => digits_any W v (by omega) (by omega)
      have hl := itoa_len17 v hle
      generalize Lib.itoa v = x at *
      have hadd := add_lists x [46] (by simp; omega)
      clear hp hz hn hcan r0 r1 h0 h1 hl hle k1 k2 k3 e1 e2 hw hlt
      go_enter Tryz.func59, Tryz.ntmps59
      go_wp2_with fail
      refine Hc.out.mono ?_
      rintro e w' ⟨rfl, rfl⟩
      go_wp2_with fail
      refine (Hw.out w).mono ?_
      rintro e w' ⟨rfl, rfl⟩
      go_wp2_with fail
      refine (Hn.out w).mono ?_
      rintro e w' ⟨rfl, rfl⟩
      go_wp2_with fail
      refine (Hd.out w).mono ?_
      rintro e w1 ⟨rfl, hb⟩
      go_wp2_with fail
      go_ret
      exact ⟨rfl, hb⟩
    | false =>
      have hp : printL c.toNat = [48, 120] ++ hexN 16 c.toNat := by
        unfold printL
        rw [hn, e1, e2, hw]
        simp only [Bool.false_eq_true, if_false]
      rw [hp]
      rw [hw] at Hw
      rw [hn] at Hn
      generalize wholeV c.toNat = v at *
      have Hr0 := Lib.hid r0; have Hr1 := Lib.hid r1
      clear hp hn hcan h0 h1 k1 k2 k3 e1 e2 hw hlt
      go_enter Tryz.func59, Tryz.ntmps59
      go_wp2_with fail
      refine Hc.out.mono ?_
      rintro e w' ⟨rfl, rfl⟩
      go_wp2_with fail
      refine (Hw.out w).mono ?_
      rintro e w' ⟨rfl, rfl⟩
      go_wp2_with fail
      refine (Hn.out w).mono ?_
      rintro e w' ⟨rfl, rfl⟩
      go_wp2_with fail
      go_loopg [5, 6] 16 (fun mm x k wr => ∃ (j : Nat) (K : Int) (X : List UInt8), HInv c.toNat j mm K X ∧ x = .string ⟨X.toArray⟩ ∧ k = .int .i64 K ∧ w = wr)
      case atStart => exact ⟨0, 60, [48, 120], ⟨rfl, by omega, rfl⟩, rfl, rfl, rfl⟩
      case round =>
        obtain ⟨j, K, X, hinv, rfl, rfl, rfl⟩ := hrel
        obtain ⟨hj, hK, hX⟩ := hinv
        have HX := Lib.hid hX; clear hX
        by_cases hm : gk = 0
        · have hj2 : j = 16 := by omega
          have hK2 : K = -4 := by omega
          subst hK2
          subst hj2
          clear hm hj hK
          go_wp2_with fail
          go_ret
          refine ⟨?_, Below.refl _ _⟩
          rw [HX.out, List.take_of_length_le (by rw [hexN_length]; exact Nat.le_refl _)]
          rfl
        · have hK0 : 0 ≤ K := by omega
          have hK1 : K ≤ 60 := by omega
          have hj2 : j < 16 := by omega
          have htk := hexN_take c.toNat j hj2
          obtain ⟨D, hD⟩ : ∃ D, D = c.toNat / 16 ^ (15 - j) % 16 := ⟨_, rfl⟩
          rw [← hD] at htk
          have hd : D < 16 := by rw [hD]; exact Nat.mod_lt _ (by decide)
          have hnib := nib_at c K j r0 hK (by omega)
          rw [← hD] at hnib
          have hcut := digit16_cut D hd
          have hlen : X.length ≤ 18 := by rw [HX.out]; simp [hexN_length]; omega
          have hadd := add_lists X [dig D] (by simp; omega)
          have HX2 : Hid (X ++ [dig D] = [48, 120] ++ (hexN 16 c.toNat).take (j + 1)) := Lib.hid (by rw [HX.out, htk, List.append_assoc])
          have Hj := Lib.hid hj; have HK := Lib.hid hK; have Hm := Lib.hid hm
          have hD0 : (0 : Int) ≤ (D : Int) := by omega
          have hD1 : (D : Int) < 16 := by omega
          have hDn : (D : Int).toNat = D := by omega
          have hDm : ((D : Int) + 1).toNat = D + 1 := by omega
          clear hj hK hm htk hD hd hlen
          go_wp2_with fail
          go_roundg (gk - 1)
          case measure => have := Hm.out; omega
          case rel => exact ⟨j + 1, K - 4, X ++ [dig D], ⟨by have := Hj.out; have := Hm.out; omega, by have := HK.out; omega, HX2.out⟩, by first | rfl | skip, by go_num, rfl⟩
end Go.Proofs.YtacafhmagonngaaGreatDoor
