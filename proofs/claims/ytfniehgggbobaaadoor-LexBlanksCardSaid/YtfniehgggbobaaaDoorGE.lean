/- Joined texts: Vq0; Vq1; Vm0; Vq2; Vw0. -/
import Derived.Test.YtfniehgggbobaaaDoorGD
set_option linter.unusedVariables false
set_option linter.unusedSimpArgs false
namespace Go.Proofs.YtfniehgggbobaaaDoor
open Go.RowKit

theorem decFrom_le (l : List UInt8) : ∀ acc n, Lib.decFrom acc l = some n → acc ≤ n := by
  induction l with
  | nil => intro acc n h; injection h with h; omega
  | cons c r ih =>
    intro acc n h
    unfold Lib.decFrom at h
    split at h
    · have := ih _ _ h; omega
    · cases h
theorem pu10_of (l : List UInt8) : ∀ acc n, Lib.decFrom acc l = some n → n < 18446744073709551616 → Lib.parseUint10 acc l = .ok n := by
  induction l with
  | nil => intro acc n h _; injection h with h; rw [h]; rfl
  | cons c r ih =>
    intro acc n h hn
    unfold Lib.decFrom at h
    split at h
    · rename_i d hd
      have hle := decFrom_le _ _ _ h
      unfold Lib.digitVal at hd
      split at hd
      · rename_i hc
        injection hd with hd
        unfold Lib.parseUint10
        rw [if_pos hc, if_neg (by omega), if_neg (by omega), hd]
        exact ih _ _ h hn
      · cases hd
    · cases h
theorem parseMag_dec (u : Nat) (h : u < 18446744073709551616) : Lib.parseMag (Lib.decDigits u) = .ok u := by
  unfold Lib.parseMag
  rw [if_neg (decDigits_ne u)]
  exact pu10_of _ _ _ (decFrom_dec u) h
theorem atoiO_itoa (n : Int) (h0 : -9223372036854775808 ≤ n) (h1 : n ≤ 9223372036854775807) : atoiO (Lib.itoa n) = some n := by
  have key : Lib.atoiAll (Lib.itoa n) = .ok n := by
    unfold Lib.itoa
    split
    · rename_i hn
      rw [Lib.atoiAll_minus, parseMag_dec _ (by omega)]
      unfold Lib.signed
      simp only
      rw [if_neg (by omega)]
      congr 1
      omega
    · rename_i hn
      have hm := parseMag_dec n.toNat (by omega)
      have hb := decDigits_dig n.toNat
      cases hl : Lib.decDigits n.toNat with
      | nil => exact absurd hl (decDigits_ne _)
      | cons c r =>
        rw [hl] at hm hb
        have hc := hb c (List.mem_cons_self ..)
        unfold isDig at hc
        rw [Lib.atoiAll_plain c r (by omega) (by omega), hm]
        unfold Lib.signless
        simp only
        rw [if_neg (by omega)]
        congr 1
        omega
  unfold atoiO
  rw [key]
theorem nibV_dig (d : Nat) (h : d < 16) : nibV (dig d) = d := by
  match d, h with
  | 0, _ => decide
  | 1, _ => decide
  | 2, _ => decide
  | 3, _ => decide
  | 4, _ => decide
  | 5, _ => decide
  | 6, _ => decide
  | 7, _ => decide
  | 8, _ => decide
  | 9, _ => decide
  | 10, _ => decide
  | 11, _ => decide
  | 12, _ => decide
  | 13, _ => decide
  | 14, _ => decide
  | 15, _ => decide
  | d + 16, h => omega
theorem unhex_hex (l : List UInt8) : unhexL (hexL l) = l := by
  induction l with
  | nil => rfl
  | cons c l ih =>
    have hc := c.toNat_lt
    show unhexL (dig (c.toNat / 16) :: dig (c.toNat % 16) :: hexL l) = _
    unfold unhexL
    rw [nibV_dig _ (by omega), nibV_dig _ (by omega), if_neg (by omega), ih]
    congr 1
    apply UInt8.toNat_inj.1
    rw [UInt8.toNat_ofNat', Int.toNat_natCast, Int.toNat_natCast]
    omega
theorem itoa_last (n : Int) : ∀ c, (Lib.itoa n).getLast? = some c → c = 45 ∨ isDig c := by
  intro c h
  exact itoa_bytes n c (List.mem_of_getLast? h)
theorem parse_itoa_no (n : Int) : parseOk (Lib.itoa n) = false := by
  cases h : parseOk (Lib.itoa n) with
  | false => rfl
  | true =>
    exfalso
    have hb := itoa_bytes n
    have no : ∀ c : UInt8, c ≠ 45 → ¬ isDig c → c ∉ Lib.itoa n := by
      intro c h1 h2 hm
      rcases hb c hm with e | e
      · exact h1 e
      · exact h2 e
    rcases parseOk_forms h with e | e | e | e | ⟨v, _, e⟩ | e
    · exact no 110 (by decide) (by unfold isDig; decide) (by rw [e]; decide)
    · exact no 105 (by decide) (by unfold isDig; decide) (by rw [e]; decide)
    · exact no 105 (by decide) (by unfold isDig; decide) (by rw [e]; decide)
    · exact no 46 (by decide) (by unfold isDig; decide) (by rw [e]; decide)
    · exact no 46 (by decide) (by unfold isDig; decide) (by rw [e]; simp)
    · exact no 120 (by decide) not120 (by rw [e]; simp)
theorem prefix_no {l : List UInt8} (h : l.head? ≠ some 120) : Lib.hasPrefix l [120] = false := by
  cases hh : Lib.hasPrefix l [120] with
  | false => rfl
  | true =>
    exfalso
    unfold Lib.hasPrefix at hh
    rw [List.isPrefixOf_iff_prefix] at hh
    obtain ⟨t, ht⟩ := hh
    rw [← ht] at h
    exact h rfl
theorem candVal_null : candVal tNull = zeroVal := by
  rw [candVal_eq, if_neg (by decide), if_neg (by decide), prefix_no (by decide), if_neg (by decide)]
  have hp : parseOk tNull = false := shape_no (by decide) (by decide) (by decide) (by decide) (by decide) (.inr (.inr (by decide)))
  rw [hp, if_neg (by decide), show atoiO tNull = none from by decide]
theorem cand_printV {v : Val} (h : RightC v) (w : v.Wf) : candVal (printVL v) = v := by
  obtain ⟨k, n, s, f⟩ := v
  obtain ⟨-, -, n0, n1, f0, f1⟩ := w
  simp only at n0 n1 f0 f1
  rcases h with ⟨hk, hn, hs, hf⟩ | ⟨hk, hs, hf⟩ | ⟨hk, hs, hf, hn⟩ | ⟨hk, hn, hf, hs⟩ | ⟨hk, hn, hs, hf⟩
  · simp only at hk hn hs hf
    subst hk hn hs hf
    exact candVal_null
  · simp only at hk hs hf
    subst hk hs hf
    show candVal (Lib.itoa n) = _
    have hb := itoa_bytes n
    have no : ∀ c : UInt8, c ≠ 45 → ¬ isDig c → c ∉ Lib.itoa n := by
      intro c h1 h2 hm
      rcases hb c hm with e | e
      · exact h1 e
      · exact h2 e
    have h120 : (Lib.itoa n).head? ≠ some 120 := by
      intro e
      exact no 120 (by decide) not120 (List.mem_of_head? e)
    rw [candVal_eq, if_neg (fun e => no 102 (by decide) (by unfold isDig; decide) (by rw [e]; decide)), if_neg (fun e => no 116 (by decide) (by unfold isDig; decide) (by rw [e]; decide)), prefix_no h120, if_neg (by decide), parse_itoa_no, if_neg (by decide), atoiO_itoa n n0 n1]
  · simp only at hk hs hf hn
    subst hk hs hf
    rcases hn with rfl | rfl
    · rfl
    · rfl
  · simp only at hk hn hf
    subst hk hn hf
    show candVal (120 :: hexL s.data.toList) = _
    have hp : Lib.hasPrefix (120 :: hexL s.data.toList) [120] = true := by
      unfold Lib.hasPrefix; rw [List.isPrefixOf_iff_prefix]; exact ⟨_, rfl⟩
    rw [candVal_eq, if_neg (by intro e; cases e), if_neg (by intro e; cases e), if_pos hp]
    have ht : Lib.trimPrefix (120 :: hexL s.data.toList) [120] = hexL s.data.toList := by
      unfold Lib.trimPrefix
      rw [if_pos hp]
      rfl
    rw [ht, unhex_hex]
  · simp only at hk hn hs hf
    subst hk hn hs
    show candVal (printL f.toNat) = _
    obtain ⟨q1, q2⟩ := parse_print f f0 f1
    have hfm := print_forms f.toNat
    have hd : ∀ v : Int, ∀ c r, Lib.itoa v ++ [46] = c :: r → c = 45 ∨ isDig c := by
      intro v c r e
      have hi := itoa_ne v
      cases hv : Lib.itoa v with
      | nil => exact absurd hv hi
      | cons c2 r2 =>
        rw [hv] at e
        injection e with e1 _
        rw [← e1]
        exact itoa_bytes v c2 (by rw [hv]; exact List.mem_cons_self ..)
    have hhead : ∀ c, (printL f.toNat).head? = some c → c ≠ 102 ∧ c ≠ 116 ∧ c ≠ 120 := by
      intro c hc
      rcases hfm with e | e | e | e | ⟨v, _, e⟩ | e
      · rw [e] at hc; injection hc with hc; subst hc; decide
      · rw [e] at hc; injection hc with hc; subst hc; decide
      · rw [e] at hc; injection hc with hc; subst hc; decide
      · rw [e] at hc; injection hc with hc; subst hc; decide
      · rw [e] at hc
        cases hv : Lib.itoa v ++ [46] with
        | nil => rw [hv] at hc; cases hc
        | cons c2 r2 =>
          rw [hv] at hc
          injection hc with hc
          subst hc
          rcases hd v c2 r2 hv with e | e
          · subst e; decide
          · unfold isDig at e
            refine ⟨?_, ?_, ?_⟩ <;> (rintro rfl; exact absurd e (by decide))
      · rw [e] at hc; injection hc with hc; subst hc; decide
    rw [candVal_eq, if_neg (fun e => absurd (hhead 102 (by rw [e]; rfl)).1 (by decide)), if_neg (fun e => absurd (hhead 116 (by rw [e]; rfl)).2.1 (by decide)), prefix_no (fun e => absurd (hhead 120 e).2.2 (by decide)), if_neg (by decide), q1, if_pos rfl, q2, hf]
theorem parse_printV {v : Val} (h : RightC v) (hr : rightOf v = v) (w : v.Wf) : okV (printVL v) = true ∧ parseVal (printVL v) = v := by
  have hc := cand_printV h w
  have hok : okV (printVL v) = true := by
    unfold okV
    rw [hc, hr]
    simp
  exact ⟨hok, by unfold parseVal; rw [if_pos hok, hc]⟩
end Go.Proofs.YtfniehgggbobaaaDoor
namespace Go.Proofs.YtfniehgggbobaaaDoor
open Go.RowKit

end Go.Proofs.YtfniehgggbobaaaDoor
namespace Go.Proofs.YtfniehgggbobaaaDoor
open Go.RowKit

/-- may a column of a kind have a mask -/
def rmB (mk mn k : Int) : Bool := decide (1 ≤ k ∧ k ≤ 4) && (if mk = 3 then decide (k = 3) && decide (0 ≤ mn) && decide (mn ≤ 64) else decide (0 ≤ mk ∧ mk < 3) && decide (mn = 0))
theorem three (mn : Int) : mn < 0 ∨ (0 ≤ mn ∧ mn ≤ 64) ∨ (0 ≤ mn ∧ 64 < mn) := by omega
theorem below_box1 (w : World) (o : Obj) : Below w.heap.size w (w.alloc o) := (Below.refl _ _).alloc (Nat.le_refl _) _
end Go.Proofs.YtfniehgggbobaaaDoor
namespace Go.Proofs.YtfniehgggbobaaaDoor
open Go.RowKit

end Go.Proofs.YtfniehgggbobaaaDoor
namespace Go.Proofs.YtfniehgggbobaaaDoor
open Go.RowKit

def numOk (l : List UInt8) : Bool := match atoiO l with
  | some v => Lib.itoa v == l
  | none => false
def numV (l : List UInt8) : Int := match atoiO l with
  | some v => v
  | none => 0
theorem num_itoa (n : Int) (h0 : -9223372036854775808 ≤ n) (h1 : n ≤ 9223372036854775807) : numOk (Lib.itoa n) = true ∧ numV (Lib.itoa n) = n := by
  unfold numOk numV
  rw [atoiO_itoa n h0 h1]
  exact ⟨by simp, rfl⟩
theorem num_back {l : List UInt8} (h : numOk l = true) : l = Lib.itoa (numV l) ∧ -9223372036854775808 ≤ numV l ∧ numV l ≤ 9223372036854775807 := by
  unfold numOk at h
  unfold numV
  cases hv : atoiO l with
  | none => rw [hv] at h; cases h
  | some v =>
    rw [hv] at h
    have hb := Lib.atoiAll_bounds (atoiO_some hv)
    exact ⟨(beq_iff_eq.1 h).symm, hb.1, hb.2⟩
/-- the digits of a number's text -/
def signed2 (l d : List UInt8) (neg : Bool) : Prop := (neg = true ∧ l = 45 :: d) ∨ (neg = false ∧ l = d ∧ l.head? ≠ some 45)
theorem decDigits_len19 (u : Nat) (h : u < 10 ^ 19) : (Lib.decDigits u).length ≤ 19 := by
  have key : ∀ k u, u < 10 ^ (k + 1) → (Lib.decDigits u).length ≤ k + 1 := by
    intro k
    induction k with
    | zero =>
      intro u h
      rw [Lib.decDigits, dif_pos (by omega)]
      simp
    | succ k ih =>
      intro u h
      rw [Lib.decDigits]
      split
      · simp
      · rw [List.length_append, List.length_singleton]
        have := ih (u / 10) (by rw [Nat.pow_succ] at h; omega)
        omega
  exact key 18 u h
theorem num_digits {l d : List UInt8} {neg : Bool} (hs : signed2 l d neg) (h : numOk l = true) : d = Lib.decDigits (numV l).natAbs ∧ (neg = true ↔ numV l < 0) := by
  obtain ⟨h1, h2, h3⟩ := num_back h
  generalize numV l = n at *
  unfold Lib.itoa at h1
  split at h1
  · rename_i hn
    rcases hs with ⟨e1, e2⟩ | ⟨e1, e2, e3⟩
    · rw [e2] at h1
      injection h1 with _ h1
      exact ⟨h1, by rw [e1]; simp; exact hn⟩
    · rw [h1] at e3
      exact absurd rfl e3
  · rename_i hn
    rcases hs with ⟨e1, e2⟩ | ⟨e1, e2, e3⟩
    · have := decDigits_dig n.toNat 45 (by rw [← h1, e2]; exact List.mem_cons_self ..)
      unfold isDig at this
      exact absurd this (by decide)
    · refine ⟨?_, ?_⟩
      · rw [← e2, h1]; congr 1; omega
      · rw [e1]; constructor
        · intro h; cases h
        · intro h; omega
theorem num_no {l d : List UInt8} {neg : Bool} (hs : signed2 l d neg) (h : d = [] ∨ 19 < d.length ∨ (∃ c ∈ d, ¬ isDig c) ∨ (∃ j n, Lib.decFrom 0 (d.take j) = some n ∧ 9223372036854775808 < n)) : numOk l = false := by
  cases hk : numOk l with
  | false => rfl
  | true =>
    exfalso
    obtain ⟨h1, h2⟩ := num_digits hs hk
    obtain ⟨-, h3, h4⟩ := num_back hk
    generalize numV l = n at *
    rcases h with e | e | ⟨c, e1, e2⟩ | ⟨j, m, e1, e2⟩
    · rw [h1] at e; exact decDigits_ne _ e
    · have := decDigits_len19 n.natAbs (by omega)
      rw [← h1] at this; omega
    · rw [h1] at e1; exact e2 (decDigits_dig _ _ e1)
    · have h5 := decFrom_dec n.natAbs
      rw [← h1, ← List.take_append_drop j d, decFrom_append _ _ _ _ e1] at h5
      have := decFrom_le _ _ _ h5
      omega
theorem num_yes {l d : List UInt8} {neg : Bool} {n : Nat} {v : Int} (hs : signed2 l d neg) (hn : Lib.decFrom 0 d = some n) (hlt : n ≤ 9223372036854775808) (hv : v = if neg then -(n : Int) else if n = 9223372036854775808 then -9223372036854775808 else n) :
    numOk l = ((⟨(Lib.itoa v).toArray⟩ : ByteArray).toList == l) ∧ (numOk l = true → v = numV l) ∧ -9223372036854775808 ≤ v ∧ v ≤ 9223372036854775807 := by
  have hr : -9223372036854775808 ≤ v ∧ v ≤ 9223372036854775807 := by
    rw [hv]
    cases neg
    · simp only [Bool.false_eq_true, if_false]; split <;> omega
    · simp only [if_true]; omega
  have hyes : numOk l = true → v = numV l := by
    intro h
    obtain ⟨h1, h2⟩ := num_digits hs h
    obtain ⟨-, h3, h4⟩ := num_back h
    have h5 := decFrom_dec (numV l).natAbs
    rw [← h1, hn] at h5
    injection h5 with h5
    rw [hv]
    cases neg
    · simp only [Bool.false_eq_true, if_false]
      have : ¬ numV l < 0 := fun h => by have := h2.2 h; cases this
      rw [if_neg (by omega)]; omega
    · simp only [if_true]
      have := h2.1 rfl
      omega
  refine ⟨?_, hyes, hr⟩
  rw [mk_toList]
  cases hk : numOk l with
  | true =>
    rw [hyes hk]
    have := (num_back hk).1
    symm
    rw [beq_iff_eq]
    exact this.symm
  | false =>
    symm
    rw [beq_eq_false_iff_ne]
    intro e
    have := (num_itoa v hr.1 hr.2).1
    rw [e, hk] at this
    cases this
def NumEnds (w w' : World) (e : Ending) (l : List UInt8) : Prop := ∃ v : Int, e = .returned (.tuple #[.int .i64 v, .bool (numOk l)]) ∧ (numOk l = true → v = numV l) ∧ Below w.heap.size w w'
def NInvP (d : List UInt8) (j n : Nat) (I NI : Int) : Prop := I = (j : Int) ∧ NI = -(n : Int) ∧ Lib.decFrom 0 (d.take j) = some n ∧ n < 10 ^ j ∧ n ≤ 9223372036854775808
end Go.Proofs.YtfniehgggbobaaaDoor
