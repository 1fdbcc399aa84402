/- Which texts are a float, by their shape. No code is stepped through. -/
import Derived.Test.YtacafhmagonngaaGreatDoorFp1
set_option linter.unusedVariables false
set_option linter.unusedSimpArgs false
namespace Go.Proofs.YtacafhmagonngaaGreatDoor
open Go.RowKit

theorem mk_toList (l : List UInt8) : (⟨l.toArray⟩ : ByteArray).toList = l := by rw [ByteArray.toList_eq]
theorem print_forms (u : Nat) : printL u = [110, 97, 110] ∨ printL u = [105, 110, 102] ∨ printL u = [45, 105, 110, 102] ∨ printL u = [45, 48, 46] ∨ (∃ v : Int, v.natAbs ≤ 9007199254740992 ∧ printL u = Lib.itoa v ++ [46]) ∨ printL u = [48, 120] ++ hexN 16 u := by
  unfold printL
  split
  · exact .inl rfl
  · split
    · exact .inr (.inl rfl)
    · split
      · exact .inr (.inr (.inl rfl))
      · split
        · split
          · exact .inr (.inr (.inr (.inl rfl)))
          · exact .inr (.inr (.inr (.inr (.inl ⟨_, wholeV_le u, rfl⟩))))
        · exact .inr (.inr (.inr (.inr (.inr rfl))))
theorem parseOk_print {l : List UInt8} (h : parseOk l = true) : printL (candV l).toNat = l := by
  unfold parseOk at h
  rw [Bool.and_eq_true, beq_iff_eq] at h
  exact h.1
theorem parseOk_forms {l : List UInt8} (h : parseOk l = true) : l = [110, 97, 110] ∨ l = [105, 110, 102] ∨ l = [45, 105, 110, 102] ∨ l = [45, 48, 46] ∨ (∃ v : Int, v.natAbs ≤ 9007199254740992 ∧ l = Lib.itoa v ++ [46]) ∨ l = [48, 120] ++ hexN 16 (candV l).toNat := by
  have := print_forms (candV l).toNat
  rwa [parseOk_print h] at this
theorem mem_hexN {k u : Nat} {c : UInt8} (h : c ∈ hexN k u) : ∃ d, d < 16 ∧ c = dig d := by
  induction k with
  | zero => cases h
  | succ k ih =>
    unfold hexN at h
    rcases List.mem_cons.1 h with h | h
    · exact ⟨_, Nat.mod_lt _ (by decide), h⟩
    · exact ih h
theorem itoa_no (v : Int) (c : UInt8) (h1 : c ≠ 45) (h2 : ¬ isDig c) (h3 : c ≠ 46) : c ∉ Lib.itoa v ++ [46] := by
  intro h
  rcases List.mem_append.1 h with h | h
  · rcases itoa_bytes v c h with e | e
    · exact h1 e
    · exact h2 e
  · rw [List.mem_singleton] at h
    exact h3 h
theorem not120 : ¬ isDig (120 : UInt8) := by unfold isDig; decide
theorem hex_no {l t : List UInt8} {c : UInt8} (hl : l = [48, 120] ++ t) (hc : c ∈ t) (hd : ∀ d, d < 16 → dig d ≠ c) : parseOk l = false := by
  cases h : parseOk l with
  | false => rfl
  | true =>
    exfalso
    rcases parseOk_forms h with e | e | e | e | ⟨v, _, e⟩ | e
    · rw [hl] at e; cases e
    · rw [hl] at e; cases e
    · rw [hl] at e; cases e
    · rw [hl] at e; cases e
    · have : (120 : UInt8) ∈ Lib.itoa v ++ [46] := by rw [← e, hl]; simp
      exact itoa_no v 120 (by decide) not120 (by decide) this
    · have ht : t = hexN 16 (candV l).toNat := List.append_cancel_left (hl.symm.trans e)
      rw [ht] at hc
      obtain ⟨d, h1, h2⟩ := mem_hexN hc
      exact hd d h1 h2.symm
theorem hex_yes {l : List UInt8} {u : Nat} (hu : u < 18446744073709551616) (hl : l = [48, 120] ++ hexN 16 u) : candV l = u ∧ parseOk l = ((printL u == l) && (canonF (u : Int) == (u : Int))) := by
  have hc : candV l = u := by
    subst hl
    unfold candV
    have hlen : ([48, 120] ++ hexN 16 u).length = 18 := by rw [List.length_append, hexN_length]; rfl
    have hp : Lib.hasPrefix ([48, 120] ++ hexN 16 u) [48, 120] = true := by
      unfold Lib.hasPrefix; rw [List.isPrefixOf_iff_prefix]; exact ⟨_, rfl⟩
    rw [if_neg (fun e => by rw [e] at hlen; exact absurd hlen (by decide)), if_neg (fun e => by rw [e] at hlen; exact absurd hlen (by decide)), if_neg (fun e => by rw [e] at hlen; exact absurd hlen (by decide)), if_neg (fun e => by rw [e] at hlen; exact absurd hlen (by decide)), if_pos hp]
    unfold Lib.trimPrefix
    rw [if_pos hp]
    rw [show List.drop ([48, 120] : List UInt8).length ([48, 120] ++ hexN 16 u) = hexN 16 u from rfl, pu16_hex0 u hu]
  refine ⟨hc, ?_⟩
  unfold parseOk
  rw [hc, Int.toNat_natCast]
theorem shape_no {l : List UInt8} (h1 : l ≠ [110, 97, 110]) (h2 : l ≠ [105, 110, 102]) (h3 : l ≠ [45, 105, 110, 102]) (h4 : l ≠ [45, 48, 46]) (h5 : ¬ (l.length = 18 ∧ l.take 2 = [48, 120]))
    (h6 : l.length < 2 ∨ 18 < l.length ∨ l.getLast? ≠ some 46) : parseOk l = false := by
  cases h : parseOk l with
  | false => rfl
  | true =>
    exfalso
    rcases parseOk_forms h with e | e | e | e | ⟨v, hv, e⟩ | e
    · exact h1 e
    · exact h2 e
    · exact h3 e
    · exact h4 e
    · have hne := itoa_ne v
      have hlen := itoa_len17 v hv
      have hpos : 0 < (Lib.itoa v).length := List.length_pos_iff.2 hne
      rcases h6 with h6 | h6 | h6
      · rw [e, List.length_append, List.length_singleton] at h6; omega
      · rw [e, List.length_append, List.length_singleton] at h6; omega
      · rw [e] at h6; exact h6 (by simp)
    · exact h5 ⟨by rw [e, List.length_append, hexN_length]; rfl, by rw [e]; rfl⟩
/-- a numeral's sign and what is behind it -/
def signed (d d' : List UInt8) (neg : Bool) : Prop := (neg = true ∧ d = 45 :: d') ∨ (neg = false ∧ d = d' ∧ d' ≠ [] ∧ d'.head? ≠ some 45)
theorem dec_no {l d d' : List UInt8} {neg : Bool} {c : UInt8} (hl : l = d ++ [46]) (hs : signed d d' neg) (hc : c ∈ d') (hd : ¬ isDig c) : parseOk l = false := by
  cases h : parseOk l with
  | false => rfl
  | true =>
    exfalso
    have hlast : l.getLast? = some 46 := by rw [hl]; simp
    rcases parseOk_forms h with e | e | e | e | ⟨v, hv, e⟩ | e
    · rw [e] at hlast; exact absurd hlast (by decide)
    · rw [e] at hlast; exact absurd hlast (by decide)
    · rw [e] at hlast; exact absurd hlast (by decide)
    · have hde : d = [45, 48] := List.append_cancel_right (hl.symm.trans (show l = [45, 48] ++ [46] from e))
      rcases hs with ⟨_, e2⟩ | ⟨_, e2, _, e3⟩
      · rw [hde] at e2
        injection e2 with _ e4
        rw [← e4, List.mem_singleton] at hc
        rw [hc] at hd
        exact hd (by unfold isDig; decide)
      · rw [← e2, hde] at e3; exact e3 rfl
    · have hde : d = Lib.itoa v := List.append_cancel_right (hl.symm.trans e)
      unfold Lib.itoa at hde
      split at hde
      · rcases hs with ⟨_, e2⟩ | ⟨_, e2, _, e3⟩
        · rw [hde] at e2
          injection e2 with _ e4
          rw [← e4] at hc
          exact hd (decDigits_dig _ c hc)
        · rw [← e2, hde] at e3; exact e3 rfl
      · rcases hs with ⟨_, e2⟩ | ⟨_, e2, _, e3⟩
        · have : (45 : UInt8) ∈ Lib.decDigits v.toNat := by rw [← hde, e2]; exact List.mem_cons_self ..
          exact absurd (decDigits_dig _ _ this) (by unfold isDig; decide)
        · rw [← e2, hde] at hc
          exact hd (decDigits_dig _ c hc)
    · rw [e] at hlast
      have hm : (46 : UInt8) ∈ [48, 120] ++ hexN 16 (candV l).toNat := List.mem_of_getLast? hlast
      rcases List.mem_append.1 hm with hm | hm
      · exact absurd hm (by decide)
      · exact hex_ne46 _ _ _ hm rfl
theorem decFrom_digits (r : List UInt8) : ∀ acc n, Lib.decFrom acc r = some n → ∀ c ∈ r, isDig c := by
  induction r with
  | nil => intro acc n _ c hc; cases hc
  | cons b r ih =>
    intro acc n h c hc
    unfold Lib.decFrom at h
    split at h
    · rename_i d hd
      rcases List.mem_cons.1 hc with e | e
      · subst e
        unfold Lib.digitVal at hd
        split at hd
        · assumption
        · cases hd
      · exact ih _ _ h c e
    · cases h
theorem dec_yes {d d' : List UInt8} {neg : Bool} {n : Nat} (hs : signed d d' neg) (hlen : d.length ≤ 17) (hn : Lib.decFrom 0 d' = some n) : atoiV d = if neg then -(n : Int) else n := by
  have hdig := decFrom_digits d' 0 n hn
  rcases hs with ⟨rfl, rfl⟩ | ⟨rfl, rfl, hne, hh⟩
  · rw [if_pos rfl]
    cases d' with
    | nil =>
      injection hn with hn
      subst hn
      decide
    | cons b r =>
      unfold atoiV
      rw [Lib.atoiAll_short _ (by omega)]
      unfold Lib.atoi
      simp only [beq_self_eq_true, if_true]
      unfold Lib.decNat
      rw [if_neg (by simp), hn]
      rfl
  · rw [if_neg (by decide)]
    cases d with
    | nil => exact absurd rfl hne
    | cons b r =>
      have hb := hdig b (List.mem_cons_self ..)
      have h1 : (b == 45) = false := by
        rw [beq_eq_false_iff_ne]; rintro rfl; exact absurd hb (by unfold isDig; decide)
      have h2 : (b == 43) = false := by
        rw [beq_eq_false_iff_ne]; rintro rfl; exact absurd hb (by unfold isDig; decide)
      unfold atoiV
      rw [Lib.atoiAll_short _ (by omega)]
      unfold Lib.atoi
      simp only [h1, h2, Bool.false_eq_true, if_false]
      unfold Lib.decNat
      rw [if_neg (by simp), hn]
      rfl
theorem signed_mem {d d' : List UInt8} {neg : Bool} (hs : signed d d' neg) (hd : ∀ c ∈ d', isDig c) : ∀ c ∈ d, c = 45 ∨ isDig c := by
  rcases hs with ⟨_, rfl⟩ | ⟨_, rfl, _, _⟩
  · intro c hc
    rcases List.mem_cons.1 hc with e | e
    · exact .inl e
    · exact .inr (hd c e)
  · intro c hc; exact .inr (hd c hc)
theorem fromV_canon (n : Int) : canonF (fromV n) = fromV n := by
  unfold fromV
  split
  · rename_i h
    have hi := fromW_int (inR_abs h)
    unfold canonF
    rw [Int.toNat_natCast, hi.nan]
    rfl
  · decide
theorem dec_ok {l d d' : List UInt8} {neg : Bool} {n : Nat} {v : Int} (hl : l = d ++ [46]) (hs : signed d d' neg) (hlen : d.length ≤ 17) (hn : Lib.decFrom 0 d' = some n) (h4 : l ≠ [45, 48, 46]) (hv : v = if neg then -(n : Int) else n) :
    candV l = fromV v ∧ parseOk l = (inR v && (printL (fromV v).toNat == l)) := by
  have hat := dec_yes hs hlen hn
  rw [← hv] at hat
  have hlast : l.getLast? = some 46 := by rw [hl]; simp
  have hmem := signed_mem hs (decFrom_digits d' 0 n hn)
  have hc : candV l = fromV v := by
    unfold candV
    have hp : Lib.hasPrefix l [48, 120] = false := by
      cases hh : Lib.hasPrefix l [48, 120] with
      | false => rfl
      | true =>
        exfalso
        unfold Lib.hasPrefix at hh
        rw [List.isPrefixOf_iff_prefix] at hh
        obtain ⟨t, ht⟩ := hh
        have hm : (120 : UInt8) ∈ d ++ [46] := by rw [← hl, ← ht]; simp
        rcases List.mem_append.1 hm with hm | hm
        · rcases hmem _ hm with e | e
          · exact absurd e (by decide)
          · exact not120 e
        · exact absurd hm (by decide)
    rw [if_neg (fun e => by rw [e] at hlast; exact absurd hlast (by decide)), if_neg (fun e => by rw [e] at hlast; exact absurd hlast (by decide)), if_neg (fun e => by rw [e] at hlast; exact absurd hlast (by decide)), if_neg h4, hp, if_neg (by decide), hl, trim_dot, hat]
  refine ⟨hc, ?_⟩
  unfold parseOk
  rw [hc, fromV_canon, beq_self_eq_true, Bool.and_true]
  cases hr : inR v with
  | true => rfl
  | false =>
    rw [Bool.false_and, beq_eq_false_iff_ne]
    intro e
    have h0 : fromV v = 0 := by unfold fromV; rw [if_neg (by simp [hr])]
    rw [h0] at e
    have e1 : printL (0 : Int).toNat = [48] ++ [46] := by decide +kernel
    rw [e1, hl] at e
    have hd : d = [48] := (List.append_cancel_right e).symm
    rw [hd] at hat
    have : v = 0 := by rw [← hat]; decide
    rw [this] at hr
    exact absurd hr (by decide)
end Go.Proofs.YtacafhmagonngaaGreatDoor
