/- The document's answer for the texts of values: the walk of number. -/
import Derived.Test.YtacafhmagonngaaGreatDoorVq2
set_option linter.unusedVariables false
set_option linter.unusedSimpArgs false
namespace Go.Proofs.YtacafhmagonngaaGreatDoor
open Go.RowKit

def numOk (l : List UInt8) : Bool := match atoiO l with
  | some v => Lib.itoa v == l
  | none => false
def numV (l : List UInt8) : Int := match atoiO l with
  | some v => v
  | none => 0
theorem num_itoa (n : Int) (h0 : -9223372036854775808 ≤ n) (h1 : n ≤ 9223372036854775807) : numOk (Lib.itoa n) = true ∧ numV (Lib.itoa n) = n := by
  unfold numOk numV
  rw [atoiO_itoa n h0 h1]
  exact ⟨by simp, rfl⟩
theorem num_back {l : List UInt8} (h : numOk l = true) : l = Lib.itoa (numV l) ∧ -9223372036854775808 ≤ numV l ∧ numV l ≤ 9223372036854775807 := by
  unfold numOk at h
  unfold numV
  cases hv : atoiO l with
  | none => rw [hv] at h; cases h
  | some v =>
    rw [hv] at h
    have hb := Lib.atoiAll_bounds (atoiO_some hv)
    exact ⟨(beq_iff_eq.1 h).symm, hb.1, hb.2⟩
/-- the digits of a number's text -/
def signed2 (l d : List UInt8) (neg : Bool) : Prop := (neg = true ∧ l = 45 :: d) ∨ (neg = false ∧ l = d ∧ l.head? ≠ some 45)
theorem decDigits_len19 (u : Nat) (h : u < 10 ^ 19) : (Lib.decDigits u).length ≤ 19 := by
  have key : ∀ k u, u < 10 ^ (k + 1) → (Lib.decDigits u).length ≤ k + 1 := by
    intro k
    induction k with
    | zero =>
      intro u h
      rw [Lib.decDigits, dif_pos (by omega)]
      simp
    | succ k ih =>
      intro u h
      rw [Lib.decDigits]
      split
      · simp
      · rw [List.length_append, List.length_singleton]
        have := ih (u / 10) (by rw [Nat.pow_succ] at h; omega)
        omega
  exact key 18 u h
theorem num_digits {l d : List UInt8} {neg : Bool} (hs : signed2 l d neg) (h : numOk l = true) : d = Lib.decDigits (numV l).natAbs ∧ (neg = true ↔ numV l < 0) := by
  obtain ⟨h1, h2, h3⟩ := num_back h
  generalize numV l = n at *
  unfold Lib.itoa at h1
  split at h1
  · rename_i hn
    rcases hs with ⟨e1, e2⟩ | ⟨e1, e2, e3⟩
    · rw [e2] at h1
      injection h1 with _ h1
      exact ⟨h1, by rw [e1]; simp; exact hn⟩
    · rw [h1] at e3
      exact absurd rfl e3
  · rename_i hn
    rcases hs with ⟨e1, e2⟩ | ⟨e1, e2, e3⟩
    · have := decDigits_dig n.toNat 45 (by rw [← h1, e2]; exact List.mem_cons_self ..)
      unfold isDig at this
      exact absurd this (by decide)
    · refine ⟨?_, ?_⟩
      · rw [← e2, h1]; congr 1; omega
      · rw [e1]; constructor
        · intro h; cases h
        · intro h; omega
theorem num_no {l d : List UInt8} {neg : Bool} (hs : signed2 l d neg) (h : d = [] ∨ 19 < d.length ∨ (∃ c ∈ d, ¬ isDig c) ∨ (∃ j n, Lib.decFrom 0 (d.take j) = some n ∧ 9223372036854775808 < n)) : numOk l = false := by
  cases hk : numOk l with
  | false => rfl
  | true =>
    exfalso
    obtain ⟨h1, h2⟩ := num_digits hs hk
    obtain ⟨-, h3, h4⟩ := num_back hk
    generalize numV l = n at *
    rcases h with e | e | ⟨c, e1, e2⟩ | ⟨j, m, e1, e2⟩
    · rw [h1] at e; exact decDigits_ne _ e
    · have := decDigits_len19 n.natAbs (by omega)
      rw [← h1] at this; omega
    · rw [h1] at e1; exact e2 (decDigits_dig _ _ e1)
    · have h5 := decFrom_dec n.natAbs
      rw [← h1, ← List.take_append_drop j d, decFrom_append _ _ _ _ e1] at h5
      have := decFrom_le _ _ _ h5
      omega
theorem num_yes {l d : List UInt8} {neg : Bool} {n : Nat} {v : Int} (hs : signed2 l d neg) (hn : Lib.decFrom 0 d = some n) (hlt : n ≤ 9223372036854775808) (hv : v = if neg then -(n : Int) else if n = 9223372036854775808 then -9223372036854775808 else n) :
    numOk l = ((⟨(Lib.itoa v).toArray⟩ : ByteArray).toList == l) ∧ (numOk l = true → v = numV l) ∧ -9223372036854775808 ≤ v ∧ v ≤ 9223372036854775807 := by
  have hr : -9223372036854775808 ≤ v ∧ v ≤ 9223372036854775807 := by
    rw [hv]
    cases neg
    · simp only [Bool.false_eq_true, if_false]; split <;> omega
    · simp only [if_true]; omega
  have hyes : numOk l = true → v = numV l := by
    intro h
    obtain ⟨h1, h2⟩ := num_digits hs h
    obtain ⟨-, h3, h4⟩ := num_back h
    have h5 := decFrom_dec (numV l).natAbs
    rw [← h1, hn] at h5
    injection h5 with h5
    rw [hv]
    cases neg
    · simp only [Bool.false_eq_true, if_false]
      have : ¬ numV l < 0 := fun h => by have := h2.2 h; cases this
      rw [if_neg (by omega)]; omega
    · simp only [if_true]
      have := h2.1 rfl
      omega
  refine ⟨?_, hyes, hr⟩
  rw [mk_toList]
  cases hk : numOk l with
  | true =>
    rw [hyes hk]
    have := (num_back hk).1
    symm
    rw [beq_iff_eq]
    exact this.symm
  | false =>
    symm
    rw [beq_eq_false_iff_ne]
    intro e
    have := (num_itoa v hr.1 hr.2).1
    rw [e, hk] at this
    cases this
def NumEnds (w w' : World) (e : Ending) (l : List UInt8) : Prop := ∃ v : Int, e = .returned (.tuple #[.int .i64 v, .bool (numOk l)]) ∧ (numOk l = true → v = numV l) ∧ Below w.heap.size w w'
def NInvP (d : List UInt8) (j n : Nat) (I NI : Int) : Prop := I = (j : Int) ∧ NI = -(n : Int) ∧ Lib.decFrom 0 (d.take j) = some n ∧ n < 10 ^ j ∧ n ≤ 9223372036854775808
set_option maxHeartbeats 8000000 in
set_option maxRecDepth 100000 in
theorem numberR_any (w : World) (s : ByteArray) (hs : s.size ≤ 100000) :
    Calls Tryz.prog 28 #[.string s] w fun e w' => NumEnds w w' e s.data.toList := by
  obtain ⟨l, hl⟩ : ∃ l, l = s.data.toList := ⟨_, rfl⟩
  have hlen : l.length = s.size := by rw [hl, Lib.size_eq]
  by_cases h0 : s.size = 0
  · have hl0 : l = [] := List.length_eq_zero_iff.1 (by omega)
    have hs0 : s = ⟨#[]⟩ := bytes_eq (by rw [← hl, hl0])
    have hno : numOk s.data.toList = false := by rw [← hl, hl0]; rfl
    have Hno := Lib.hid hno
    subst hs0
    clear hl hlen h0 hl0 hno hs
    go_enter Tryz.func28, Tryz.ntmps28
    go_wp2_with fail
    go_ret2
    exact ⟨0, by rw [Hno.out]; rfl, fun h => absurd h (by rw [Hno.out]; decide), Below.refl _ _⟩
  have h0s : 0 < s.size := by omega
  obtain ⟨c0, r, hlr⟩ : ∃ c0 r, l = c0 :: r := by
    cases hdc : l with
    | nil => rw [hdc] at hlen; simp at hlen; omega
    | cons c0 r => exact ⟨c0, r, rfl⟩
  have hs0 : s[0] = c0 := by
    have h5 := byte_at s 0 h0s
    rw [← hl, hlr] at h5
    exact (Option.some.inj h5).symm
  have hne : (s.toList == []) = false := by
    rw [beq_eq_false_iff_ne, ByteArray.toList_eq, ← hl, hlr]; simp
  have hne2 : (s.toList != []) = true := by unfold bne; rw [hne]; rfl
  obtain ⟨N, hN⟩ : ∃ N, s.size = N := ⟨_, rfl⟩
  have hNx : ∃ (T : ByteArray) (P : Nat) (neg : Bool), T.size = P ∧ P ≤ 100000 ∧ signed2 l T.data.toList neg ∧ ((c0.toNat : Int) == 45) = neg ∧ (neg = true → s.extract 1 N = T) ∧ (neg = false → s = T ∧ P = N) := by
    by_cases h45 : c0 = 45
    · have hT : (s.extract 1 N).data.toList = r := by
        rw [← ByteArray.toList_eq, Lib.extract_toList, ← hl, hlr]
        have : r.length + 1 = N := by rw [hlr] at hlen; simp at hlen; omega
        simp only [List.drop_succ_cons, List.drop_zero]
        rw [List.take_of_length_le (by omega)]
      refine ⟨s.extract 1 N, (s.extract 1 N).size, true, rfl, ?_, ?_, ?_, fun _ => rfl, fun h => (by cases h)⟩
      · rw [Lib.size_eq, hT]
        rw [hlr] at hlen; simp at hlen; omega
      · rw [hT]; exact .inl ⟨rfl, by rw [hlr, h45]⟩
      · rw [h45]; decide
    · refine ⟨s, N, false, hN, by omega, ?_, ?_, fun h => (by cases h), fun _ => ⟨rfl, rfl⟩⟩
      · refine .inr ⟨rfl, hl, ?_⟩
        rw [hlr]
        intro e
        exact h45 (Option.some.inj e)
      · rw [beq_eq_false_iff_ne]
        intro e
        exact h45 (UInt8.toNat_inj.1 (by simp; omega))
  obtain ⟨T, P, neg, hTs, hP, hsg, hc45, hneg, hpos⟩ := hNx
  obtain ⟨d, hd⟩ : ∃ d, d = T.data.toList := ⟨_, rfl⟩
  rw [← hd] at hsg
  have hdl : d.length = P := by rw [hd, ← Lib.size_eq]; exact hTs
  have hget : Hid (∀ i, i < P → ∀ h : i < T.size, ∃ c, d[i]? = some c ∧ T[i] = c) := by
    refine Lib.hid fun i hi h => ⟨T[i], ?_, rfl⟩
    rw [hd]; exact byte_at T i h
  have Hno : Hid ((d = [] ∨ 19 < d.length ∨ (∃ c ∈ d, ¬ isDig c) ∨ (∃ j n, Lib.decFrom 0 (d.take j) = some n ∧ 9223372036854775808 < n)) → numOk s.data.toList = false) := Lib.hid fun h => by
    have := num_no hsg h; rwa [hl] at this
  have Hyes : Hid (∀ (n : Nat) (v : Int), Lib.decFrom 0 d = some n → n ≤ 9223372036854775808 → v = (if neg then -(n : Int) else if n = 9223372036854775808 then -9223372036854775808 else n) → numOk s.data.toList = ((⟨(Lib.itoa v).toArray⟩ : ByteArray).toList == s.toList) ∧ (numOk s.data.toList = true → v = numV s.data.toList) ∧ -9223372036854775808 ≤ v ∧ v ≤ 9223372036854775807) := Lib.hid fun n v h1 h2 h3 => by
    have := num_yes hsg h1 h2 h3
    rw [hl] at this
    rwa [ByteArray.toList_eq s]
  have hP0 : P = 0 → (T.toList == []) = true := fun e => by rw [ByteArray.toList_eq, ← hd, List.length_eq_zero_iff.1 (show d.length = 0 by omega)]; rfl
  have hP1 : P ≠ 0 → (T.toList == []) = false := fun e => by
    rw [beq_eq_false_iff_ne, ByteArray.toList_eq, ← hd]; intro e2; rw [e2] at hdl; exact e hdl.symm
  have Hdl := Lib.hid hdl
  have HP0 := Lib.hid hP0
  have HP1 := Lib.hid hP1
  clear hs hsg hdl hd hlr hlen h0 hP0 hP1
  clear hl
  obtain ⟨L, hL⟩ : ∃ L, L = numOk s.data.toList := ⟨_, rfl⟩
  have hN1 : 1 ≤ N := by omega
  cases neg with
  | true =>
    have hS2 := hneg rfl
    clear hneg hpos
    by_cases hp0 : P = 0
    · have ht1 := HP0.out hp0
      have HN := Lib.hid (Hno.out (.inl (List.length_eq_zero_iff.1 (by rw [Hdl.out]; exact hp0))))
      clear HP0 HP1 hp0
      go_enter Tryz.func28, Tryz.ntmps28
      go_wp2_with fail
      go_ret2
      exact ⟨0, by rw [HN.out]; rfl, fun h => absurd h (by rw [HN.out]; decide), Below.refl _ _⟩
    have ht1 := HP1.out hp0
    by_cases hp19 : 19 < P
    · have HN := Lib.hid (Hno.out (.inr (.inl (by rw [Hdl.out]; exact hp19))))
      have hp19i : 19 < (P : Int) := by omega
      clear HP0 HP1 hp0 hp19
      go_enter Tryz.func28, Tryz.ntmps28
      go_wp2_with fail
      go_ret2
      exact ⟨0, by rw [HN.out]; rfl, fun h => absurd h (by rw [HN.out]; decide), Below.refl _ _⟩
    have hp19i : ¬ 19 < (P : Int) := by omega
    have HP := Lib.hid (show P ≤ 19 by omega)
    clear HP0 HP1 hp0 hp19
    go_enter Tryz.func28, Tryz.ntmps28
    go_wp2_with fail
    go_loopg [6, 7] P (fun mm nv iv wr => ∃ (j n : Nat) (I NI : Int), j + mm = P ∧ Hid (NInvP d j n I NI) ∧ nv = .int .i64 NI ∧ iv = .int .i64 I ∧ w = wr)
    case atStart => exact ⟨0, 0, 0, 0, by omega, Lib.hid ⟨rfl, rfl, rfl, by decide, by decide⟩, rfl, rfl, rfl⟩
    case round =>
      obtain ⟨j, n, I, NI, hj, HI, rfl, rfl, rfl⟩ := hrel
      have hNI0 : NI ≤ 0 := by have := HI.out.2.1; omega
      have hNI1 : -9223372036854775808 ≤ NI := by have := HI.out.2.1; have := HI.out.2.2.2.2; omega
      by_cases hm : gk = 0
      · have hiP : j = P := by omega
        have hIP : I = (P : Int) := by have := HI.out.1; omega
        have hn : Lib.decFrom 0 d = some n := by
          have := HI.out.2.2.1
          rwa [List.take_of_length_le (by rw [Hdl.out, hiP]; exact Nat.le_refl _)] at this
        obtain ⟨y1, y2, y3, y4⟩ := Hyes.out n NI hn HI.out.2.2.2.2 (by have := HI.out.2.1; simp only [if_true]; omega)
        have Hd : Hid (∀ W : World, Calls Tryz.prog 61 #[.int .i64 NI] W fun e w' => e = .returned (.string ⟨(Lib.itoa NI).toArray⟩) ∧ Below W.heap.size W w') := Lib.hid fun W => digitsV_any _ W NI rfl y3 y4
        generalize (⟨(Lib.itoa NI).toArray⟩ : ByteArray) = X at *
        have Hok := Lib.hid y1
        have Hpv := Lib.hid y2
        clear y1 y2 y3 y4 hn hm hj hiP
        subst hIP
        go_wp2_with fail
        refine (Hd.out w).mono ?_
        rintro e w2 ⟨rfl, hb2⟩
        go_wp2_with fail
        go_ret2
        exact ⟨_, by rw [Hok.out]; rfl, Hpv.out, hb2⟩
      · have hiP : j < P := by omega
        have hI0 : 0 ≤ I := by have := HI.out.1; omega
        have hI1 : I < (P : Int) := by have := HI.out.1; omega
        have hIn : I.toNat = j := by have := HI.out.1; omega
        obtain ⟨c, hc1, hc2⟩ := hget.out j hiP (by rw [hTs]; exact hiP)
        have Hc1 := Lib.hid hc1
        have Hj := Lib.hid hj; have Hm := Lib.hid hm; have HiP := Lib.hid hiP
        have hc256 := c.toNat_lt
        clear hc1 hj hm
        by_cases hlo : (c.toNat : Int) < 48
        · have hno := Hno.out (.inr (.inr (.inl ⟨c, List.mem_of_getElem? Hc1.out, by unfold isDig; omega⟩)))
          have HN := Lib.hid hno; clear hno hc256
          go_wp2_with fail
          go_ret2
          exact ⟨0, by rw [HN.out]; rfl, fun h => absurd h (by rw [HN.out]; decide), Below.refl _ _⟩
        by_cases hhi : 57 < (c.toNat : Int)
        · have hno := Hno.out (.inr (.inr (.inl ⟨c, List.mem_of_getElem? Hc1.out, by unfold isDig; omega⟩)))
          have HN := Lib.hid hno; clear hno hc256
          go_wp2_with fail
          go_ret2
          exact ⟨0, by rw [HN.out]; rfl, fun h => absurd h (by rw [HN.out]; decide), Below.refl _ _⟩
        have hdig : Lib.digitVal c = some (c.toNat - 48) := by unfold Lib.digitVal; rw [if_pos ⟨by omega, by omega⟩]
        have hnext := Lib.decFrom_take d j 0 n c _ HI.out.2.2.1 Hc1.out hdig
        have hlo2 : 48 ≤ (c.toNat : Int) := by omega
        have hhi2 : (c.toNat : Int) ≤ 57 := by omega
        clear hdig hlo hhi
        by_cases hov : n * 10 + (c.toNat - 48) ≤ 9223372036854775808
        · have HD : Hid (NInvP d (j + 1) (n * 10 + (c.toNat - 48)) (I + 1) (10 * NI - ((c.toNat : Int) - 48))) := Lib.hid ⟨by have := HI.out.1; omega, by have := HI.out.2.1; omega, hnext, by have := HI.out.2.2.2.1; rw [Nat.pow_succ]; omega, hov⟩
          have b1 : -922337203685477580 ≤ NI := by have := HI.out.2.1; omega
          have b2 : -9223372036854775808 ≤ 10 * NI - ((c.toNat : Int) - 48) := by have := HI.out.2.1; omega
          have b3 : 10 * NI - ((c.toNat : Int) - 48) ≤ 0 := by omega
          clear hov hnext hc256
          go_wp2_with fail
          go_roundg (P - (j + 1))
          case measure => have := Hj.out; have := Hm.out; omega
          case rel => exact ⟨j + 1, _, I + 1, _, by have := Hj.out; have := Hm.out; omega, HD, by go_num, by go_num, rfl⟩
        · have HN := Lib.hid (Hno.out (.inr (.inr (.inr ⟨j + 1, _, hnext, by omega⟩))))
          have hlt : n < 1000000000000000000 := by
            have h1 := HI.out.2.2.2.1
            have h3 : 10 ^ j ≤ 10 ^ 18 := Nat.pow_le_pow_right (by decide) (by have := HP.out; have := HiP.out; omega)
            omega
          obtain ⟨M1, hM1⟩ : ∃ M1, wrap64 (10 * NI) = M1 := ⟨_, rfl⟩
          obtain ⟨M2, hM2⟩ : ∃ M2, wrap64 (M1 - ((c.toNat : Int) - 48)) = M2 := ⟨_, rfl⟩
          have hM3 : 0 < M2 := by
            have := HI.out.2.1
            rw [← hM2, ← hM1]
            unfold wrap64
            omega
          clear hov hnext hc256 hlt
          go_wp2_with fail
          go_ret2
          exact ⟨0, by rw [HN.out]; rfl, fun h => absurd h (by rw [HN.out]; decide), Below.refl _ _⟩
  | false =>
    obtain ⟨rfl, rfl⟩ := hpos rfl
    clear hneg hpos
    have hp0 : ¬ P = 0 := by omega
    have ht1 := HP1.out hp0
    by_cases hp19 : 19 < P
    · have HN := Lib.hid (Hno.out (.inr (.inl (by rw [Hdl.out]; exact hp19))))
      have hp19i : 19 < (P : Int) := by omega
      clear HP0 HP1 hp0 hp19
      go_enter Tryz.func28, Tryz.ntmps28
      go_wp2_with fail
      go_ret2
      exact ⟨0, by rw [HN.out]; rfl, fun h => absurd h (by rw [HN.out]; decide), Below.refl _ _⟩
    have hp19i : ¬ 19 < (P : Int) := by omega
    have HP := Lib.hid (show P ≤ 19 by omega)
    clear HP0 HP1 hp0 hp19
    go_enter Tryz.func28, Tryz.ntmps28
    go_wp2_with fail
    go_loopg [6, 7] P (fun mm nv iv wr => ∃ (j n : Nat) (I NI : Int), j + mm = P ∧ Hid (NInvP d j n I NI) ∧ nv = .int .i64 NI ∧ iv = .int .i64 I ∧ w = wr)
    case atStart => exact ⟨0, 0, 0, 0, by omega, Lib.hid ⟨rfl, rfl, rfl, by decide, by decide⟩, rfl, rfl, rfl⟩
    case round =>
      obtain ⟨j, n, I, NI, hj, HI, rfl, rfl, rfl⟩ := hrel
      have hNI0 : NI ≤ 0 := by have := HI.out.2.1; omega
      have hNI1 : -9223372036854775808 ≤ NI := by have := HI.out.2.1; have := HI.out.2.2.2.2; omega
      by_cases hm : gk = 0
      · have hiP : j = P := by omega
        have hIP : I = (P : Int) := by have := HI.out.1; omega
        have hn : Lib.decFrom 0 d = some n := by
          have := HI.out.2.2.1
          rwa [List.take_of_length_le (by rw [Hdl.out, hiP]; exact Nat.le_refl _)] at this
        by_cases hmin : n = 9223372036854775808
        · have hw1 : wrap64 (-NI) = NI := by have := HI.out.2.1; unfold wrap64; omega
          obtain ⟨y1, y2, y3, y4⟩ := Hyes.out n NI hn HI.out.2.2.2.2 (by have := HI.out.2.1; simp only [Bool.false_eq_true, if_false]; rw [if_pos hmin]; omega)
          have Hd : Hid (∀ W : World, Calls Tryz.prog 61 #[.int .i64 NI] W fun e w' => e = .returned (.string ⟨(Lib.itoa NI).toArray⟩) ∧ Below W.heap.size W w') := Lib.hid fun W => digitsV_any _ W NI rfl y3 y4
          generalize (⟨(Lib.itoa NI).toArray⟩ : ByteArray) = X at *
          have Hok := Lib.hid y1
          have Hpv := Lib.hid y2
          clear y1 y2 y3 y4 hn hm hj hiP
          subst hIP
          go_wp2_with fail
          refine (Hd.out w).mono ?_
          rintro e w2 ⟨rfl, hb2⟩
          go_wp2_with fail
          go_ret2
          exact ⟨_, by rw [Hok.out]; rfl, Hpv.out, hb2⟩
        · have hNI2 : -9223372036854775807 ≤ NI := by have := HI.out.2.1; have := HI.out.2.2.2.2; omega
          clear hNI1
          obtain ⟨y1, y2, y3, y4⟩ := Hyes.out n (-NI) hn HI.out.2.2.2.2 (by have := HI.out.2.1; simp only [Bool.false_eq_true, if_false]; rw [if_neg hmin]; omega)
          have Hd : Hid (∀ W : World, Calls Tryz.prog 61 #[.int .i64 (-NI)] W fun e w' => e = .returned (.string ⟨(Lib.itoa (-NI)).toArray⟩) ∧ Below W.heap.size W w') := Lib.hid fun W => digitsV_any _ W (-NI) rfl y3 y4
          generalize (⟨(Lib.itoa (-NI)).toArray⟩ : ByteArray) = X at *
          have Hok := Lib.hid y1
          have Hpv := Lib.hid y2
          clear y1 y2 y3 y4 hn hm hj hiP
          subst hIP
          go_wp2_with fail
          refine (Hd.out w).mono ?_
          rintro e w2 ⟨rfl, hb2⟩
          go_wp2_with fail
          go_ret2
          exact ⟨_, by rw [Hok.out]; rfl, Hpv.out, hb2⟩
      · have hiP : j < P := by omega
        have hI0 : 0 ≤ I := by have := HI.out.1; omega
        have hI1 : I < (P : Int) := by have := HI.out.1; omega
        have hIn : I.toNat = j := by have := HI.out.1; omega
        obtain ⟨c, hc1, hc2⟩ := hget.out j hiP (by rw [hTs]; exact hiP)
        have Hc1 := Lib.hid hc1
        have Hj := Lib.hid hj; have Hm := Lib.hid hm; have HiP := Lib.hid hiP
        have hc256 := c.toNat_lt
        clear hc1 hj hm
        by_cases hlo : (c.toNat : Int) < 48
        · have hno := Hno.out (.inr (.inr (.inl ⟨c, List.mem_of_getElem? Hc1.out, by unfold isDig; omega⟩)))
          have HN := Lib.hid hno; clear hno hc256
          go_wp2_with fail
          go_ret2
          exact ⟨0, by rw [HN.out]; rfl, fun h => absurd h (by rw [HN.out]; decide), Below.refl _ _⟩
        by_cases hhi : 57 < (c.toNat : Int)
        · have hno := Hno.out (.inr (.inr (.inl ⟨c, List.mem_of_getElem? Hc1.out, by unfold isDig; omega⟩)))
          have HN := Lib.hid hno; clear hno hc256
          go_wp2_with fail
          go_ret2
          exact ⟨0, by rw [HN.out]; rfl, fun h => absurd h (by rw [HN.out]; decide), Below.refl _ _⟩
        have hdig : Lib.digitVal c = some (c.toNat - 48) := by unfold Lib.digitVal; rw [if_pos ⟨by omega, by omega⟩]
        have hnext := Lib.decFrom_take d j 0 n c _ HI.out.2.2.1 Hc1.out hdig
        have hlo2 : 48 ≤ (c.toNat : Int) := by omega
        have hhi2 : (c.toNat : Int) ≤ 57 := by omega
        clear hdig hlo hhi
        by_cases hov : n * 10 + (c.toNat - 48) ≤ 9223372036854775808
        · have HD : Hid (NInvP d (j + 1) (n * 10 + (c.toNat - 48)) (I + 1) (10 * NI - ((c.toNat : Int) - 48))) := Lib.hid ⟨by have := HI.out.1; omega, by have := HI.out.2.1; omega, hnext, by have := HI.out.2.2.2.1; rw [Nat.pow_succ]; omega, hov⟩
          have b1 : -922337203685477580 ≤ NI := by have := HI.out.2.1; omega
          have b2 : -9223372036854775808 ≤ 10 * NI - ((c.toNat : Int) - 48) := by have := HI.out.2.1; omega
          have b3 : 10 * NI - ((c.toNat : Int) - 48) ≤ 0 := by omega
          clear hov hnext hc256
          go_wp2_with fail
          go_roundg (P - (j + 1))
          case measure => have := Hj.out; have := Hm.out; omega
          case rel => exact ⟨j + 1, _, I + 1, _, by have := Hj.out; have := Hm.out; omega, HD, by go_num, by go_num, rfl⟩
        · have HN := Lib.hid (Hno.out (.inr (.inr (.inr ⟨j + 1, _, hnext, by omega⟩))))
          have hlt : n < 1000000000000000000 := by
            have h1 := HI.out.2.2.2.1
            have h3 : 10 ^ j ≤ 10 ^ 18 := Nat.pow_le_pow_right (by decide) (by have := HP.out; have := HiP.out; omega)
            omega
          obtain ⟨M1, hM1⟩ : ∃ M1, wrap64 (10 * NI) = M1 := ⟨_, rfl⟩
          obtain ⟨M2, hM2⟩ : ∃ M2, wrap64 (M1 - ((c.toNat : Int) - 48)) = M2 := ⟨_, rfl⟩
          have hM3 : 0 < M2 := by
            have := HI.out.2.1
            rw [← hM2, ← hM1]
            unfold wrap64
            omega
          clear hov hnext hc256 hlt
          go_wp2_with fail
          go_ret2
          exact ⟨0, by rw [HN.out]; rfl, fun h => absurd h (by rw [HN.out]; decide), Below.refl _ _⟩
end Go.Proofs.YtacafhmagonngaaGreatDoor
