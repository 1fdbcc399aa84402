/- Joined texts: Vq0. -/
import Derived.Test.YtfkghfmgeholeaaGreatDoorGD
set_option linter.unusedVariables false
set_option linter.unusedSimpArgs false
namespace Go.Proofs.YtfkghfmgeholeaaGreatDoor
open Go.RowKit

theorem decFrom_le (l : List UInt8) : ∀ acc n, Lib.decFrom acc l = some n → acc ≤ n := by
  induction l with
  | nil => intro acc n h; injection h with h; omega
  | cons c r ih =>
    intro acc n h
    unfold Lib.decFrom at h
    split at h
    · have := ih _ _ h; omega
    · cases h
theorem pu10_of (l : List UInt8) : ∀ acc n, Lib.decFrom acc l = some n → n < 18446744073709551616 → Lib.parseUint10 acc l = .ok n := by
  induction l with
  | nil => intro acc n h _; injection h with h; rw [h]; rfl
  | cons c r ih =>
    intro acc n h hn
    unfold Lib.decFrom at h
    split at h
    · rename_i d hd
      have hle := decFrom_le _ _ _ h
      unfold Lib.digitVal at hd
      split at hd
      · rename_i hc
        injection hd with hd
        unfold Lib.parseUint10
        rw [if_pos hc, if_neg (by omega), if_neg (by omega), hd]
        exact ih _ _ h hn
      · cases hd
    · cases h
theorem parseMag_dec (u : Nat) (h : u < 18446744073709551616) : Lib.parseMag (Lib.decDigits u) = .ok u := by
  unfold Lib.parseMag
  rw [if_neg (decDigits_ne u)]
  exact pu10_of _ _ _ (decFrom_dec u) h
theorem atoiO_itoa (n : Int) (h0 : -9223372036854775808 ≤ n) (h1 : n ≤ 9223372036854775807) : atoiO (Lib.itoa n) = some n := by
  have key : Lib.atoiAll (Lib.itoa n) = .ok n := by
    unfold Lib.itoa
    split
    · rename_i hn
      rw [Lib.atoiAll_minus, parseMag_dec _ (by omega)]
      unfold Lib.signed
      simp only
      rw [if_neg (by omega)]
      congr 1
      omega
    · rename_i hn
      have hm := parseMag_dec n.toNat (by omega)
      have hb := decDigits_dig n.toNat
      cases hl : Lib.decDigits n.toNat with
      | nil => exact absurd hl (decDigits_ne _)
      | cons c r =>
        rw [hl] at hm hb
        have hc := hb c (List.mem_cons_self ..)
        unfold isDig at hc
        rw [Lib.atoiAll_plain c r (by omega) (by omega), hm]
        unfold Lib.signless
        simp only
        rw [if_neg (by omega)]
        congr 1
        omega
  unfold atoiO
  rw [key]
theorem nibV_dig (d : Nat) (h : d < 16) : nibV (dig d) = d := by
  match d, h with
  | 0, _ => decide
  | 1, _ => decide
  | 2, _ => decide
  | 3, _ => decide
  | 4, _ => decide
  | 5, _ => decide
  | 6, _ => decide
  | 7, _ => decide
  | 8, _ => decide
  | 9, _ => decide
  | 10, _ => decide
  | 11, _ => decide
  | 12, _ => decide
  | 13, _ => decide
  | 14, _ => decide
  | 15, _ => decide
  | d + 16, h => omega
theorem unhex_hex (l : List UInt8) : unhexL (hexL l) = l := by
  induction l with
  | nil => rfl
  | cons c l ih =>
    have hc := c.toNat_lt
    show unhexL (dig (c.toNat / 16) :: dig (c.toNat % 16) :: hexL l) = _
    unfold unhexL
    rw [nibV_dig _ (by omega), nibV_dig _ (by omega), if_neg (by omega), ih]
    congr 1
    apply UInt8.toNat_inj.1
    rw [UInt8.toNat_ofNat', Int.toNat_natCast, Int.toNat_natCast]
    omega
theorem itoa_last (n : Int) : ∀ c, (Lib.itoa n).getLast? = some c → c = 45 ∨ isDig c := by
  intro c h
  exact itoa_bytes n c (List.mem_of_getLast? h)
theorem parse_itoa_no (n : Int) : parseOk (Lib.itoa n) = false := by
  cases h : parseOk (Lib.itoa n) with
  | false => rfl
  | true =>
    exfalso
    have hb := itoa_bytes n
    have no : ∀ c : UInt8, c ≠ 45 → ¬ isDig c → c ∉ Lib.itoa n := by
      intro c h1 h2 hm
      rcases hb c hm with e | e
      · exact h1 e
      · exact h2 e
    rcases parseOk_forms h with e | e | e | e | ⟨v, _, e⟩ | e
    · exact no 110 (by decide) (by unfold isDig; decide) (by rw [e]; decide)
    · exact no 105 (by decide) (by unfold isDig; decide) (by rw [e]; decide)
    · exact no 105 (by decide) (by unfold isDig; decide) (by rw [e]; decide)
    · exact no 46 (by decide) (by unfold isDig; decide) (by rw [e]; decide)
    · exact no 46 (by decide) (by unfold isDig; decide) (by rw [e]; simp)
    · exact no 120 (by decide) not120 (by rw [e]; simp)
theorem prefix_no {l : List UInt8} (h : l.head? ≠ some 120) : Lib.hasPrefix l [120] = false := by
  cases hh : Lib.hasPrefix l [120] with
  | false => rfl
  | true =>
    exfalso
    unfold Lib.hasPrefix at hh
    rw [List.isPrefixOf_iff_prefix] at hh
    obtain ⟨t, ht⟩ := hh
    rw [← ht] at h
    exact h rfl
theorem candVal_null : candVal tNull = zeroVal := by
  rw [candVal_eq, if_neg (by decide), if_neg (by decide), prefix_no (by decide), if_neg (by decide)]
  have hp : parseOk tNull = false := shape_no (by decide) (by decide) (by decide) (by decide) (by decide) (.inr (.inr (by decide)))
  rw [hp, if_neg (by decide), show atoiO tNull = none from by decide]
theorem cand_printV {v : Val} (h : RightC v) (w : v.Wf) : candVal (printVL v) = v := by
  obtain ⟨k, n, s, f⟩ := v
  obtain ⟨-, -, n0, n1, f0, f1⟩ := w
  simp only at n0 n1 f0 f1
  rcases h with ⟨hk, hn, hs, hf⟩ | ⟨hk, hs, hf⟩ | ⟨hk, hs, hf, hn⟩ | ⟨hk, hn, hf, hs⟩ | ⟨hk, hn, hs, hf⟩
  · simp only at hk hn hs hf
    subst hk hn hs hf
    exact candVal_null
  · simp only at hk hs hf
    subst hk hs hf
    show candVal (Lib.itoa n) = _
    have hb := itoa_bytes n
    have no : ∀ c : UInt8, c ≠ 45 → ¬ isDig c → c ∉ Lib.itoa n := by
      intro c h1 h2 hm
      rcases hb c hm with e | e
      · exact h1 e
      · exact h2 e
    have h120 : (Lib.itoa n).head? ≠ some 120 := by
      intro e
      exact no 120 (by decide) not120 (List.mem_of_head? e)
    rw [candVal_eq, if_neg (fun e => no 102 (by decide) (by unfold isDig; decide) (by rw [e]; decide)), if_neg (fun e => no 116 (by decide) (by unfold isDig; decide) (by rw [e]; decide)), prefix_no h120, if_neg (by decide), parse_itoa_no, if_neg (by decide), atoiO_itoa n n0 n1]
  · simp only at hk hs hf hn
    subst hk hs hf
    rcases hn with rfl | rfl
    · rfl
    · rfl
  · simp only at hk hn hf
    subst hk hn hf
    show candVal (120 :: hexL s.data.toList) = _
    have hp : Lib.hasPrefix (120 :: hexL s.data.toList) [120] = true := by
      unfold Lib.hasPrefix; rw [List.isPrefixOf_iff_prefix]; exact ⟨_, rfl⟩
    rw [candVal_eq, if_neg (by intro e; cases e), if_neg (by intro e; cases e), if_pos hp]
    have ht : Lib.trimPrefix (120 :: hexL s.data.toList) [120] = hexL s.data.toList := by
      unfold Lib.trimPrefix
      rw [if_pos hp]
      rfl
    rw [ht, unhex_hex]
  · simp only at hk hn hs hf
    subst hk hn hs
    show candVal (printL f.toNat) = _
    obtain ⟨q1, q2⟩ := parse_print f f0 f1
    have hfm := print_forms f.toNat
    have hd : ∀ v : Int, ∀ c r, Lib.itoa v ++ [46] = c :: r → c = 45 ∨ isDig c := by
      intro v c r e
      have hi := itoa_ne v
      cases hv : Lib.itoa v with
      | nil => exact absurd hv hi
      | cons c2 r2 =>
        rw [hv] at e
        injection e with e1 _
        rw [← e1]
        exact itoa_bytes v c2 (by rw [hv]; exact List.mem_cons_self ..)
    have hhead : ∀ c, (printL f.toNat).head? = some c → c ≠ 102 ∧ c ≠ 116 ∧ c ≠ 120 := by
      intro c hc
      rcases hfm with e | e | e | e | ⟨v, _, e⟩ | e
      · rw [e] at hc; injection hc with hc; subst hc; decide
      · rw [e] at hc; injection hc with hc; subst hc; decide
      · rw [e] at hc; injection hc with hc; subst hc; decide
      · rw [e] at hc; injection hc with hc; subst hc; decide
      · rw [e] at hc
        cases hv : Lib.itoa v ++ [46] with
        | nil => rw [hv] at hc; cases hc
        | cons c2 r2 =>
          rw [hv] at hc
          injection hc with hc
          subst hc
          rcases hd v c2 r2 hv with e | e
          · subst e; decide
          · unfold isDig at e
            refine ⟨?_, ?_, ?_⟩ <;> (rintro rfl; exact absurd e (by decide))
      · rw [e] at hc; injection hc with hc; subst hc; decide
    rw [candVal_eq, if_neg (fun e => absurd (hhead 102 (by rw [e]; rfl)).1 (by decide)), if_neg (fun e => absurd (hhead 116 (by rw [e]; rfl)).2.1 (by decide)), prefix_no (fun e => absurd (hhead 120 e).2.2 (by decide)), if_neg (by decide), q1, if_pos rfl, q2, hf]
theorem parse_printV {v : Val} (h : RightC v) (hr : rightOf v = v) (w : v.Wf) : okV (printVL v) = true ∧ parseVal (printVL v) = v := by
  have hc := cand_printV h w
  have hok : okV (printVL v) = true := by
    unfold okV
    rw [hc, hr]
    simp
  exact ⟨hok, by unfold parseVal; rw [if_pos hok, hc]⟩
end Go.Proofs.YtfkghfmgeholeaaGreatDoor
