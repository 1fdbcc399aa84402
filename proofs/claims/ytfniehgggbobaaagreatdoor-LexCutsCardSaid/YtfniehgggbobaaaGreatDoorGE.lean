/- Joined texts: Vq0; Vq1; Vm0; Vq2; Vw0. -/
import Derived.Test.YtfniehgggbobaaaGreatDoorGD
set_option linter.unusedVariables false
set_option linter.unusedSimpArgs false
namespace Go.Proofs.YtfniehgggbobaaaGreatDoor
open Go.RowKit

theorem decFrom_le (l : List UInt8) : ∀ acc n, Lib.decFrom acc l = some n → acc ≤ n := by
  induction l with
  | nil => intro acc n h; injection h with h; omega
  | cons c r ih =>
    intro acc n h
    unfold Lib.decFrom at h
    split at h
    · have := ih _ _ h; omega
    · cases h
theorem pu10_of (l : List UInt8) : ∀ acc n, Lib.decFrom acc l = some n → n < 18446744073709551616 → Lib.parseUint10 acc l = .ok n := by
  induction l with
  | nil => intro acc n h _; injection h with h; rw [h]; rfl
  | cons c r ih =>
    intro acc n h hn
    unfold Lib.decFrom at h
    split at h
    · rename_i d hd
      have hle := decFrom_le _ _ _ h
      unfold Lib.digitVal at hd
      split at hd
      · rename_i hc
        injection hd with hd
        unfold Lib.parseUint10
        rw [if_pos hc, if_neg (by omega), if_neg (by omega), hd]
        exact ih _ _ h hn
      · cases hd
    · cases h
theorem parseMag_dec (u : Nat) (h : u < 18446744073709551616) : Lib.parseMag (Lib.decDigits u) = .ok u := by
  unfold Lib.parseMag
  rw [if_neg (decDigits_ne u)]
  exact pu10_of _ _ _ (decFrom_dec u) h
theorem atoiO_itoa (n : Int) (h0 : -9223372036854775808 ≤ n) (h1 : n ≤ 9223372036854775807) : atoiO (Lib.itoa n) = some n := by
  have key : Lib.atoiAll (Lib.itoa n) = .ok n := by
    unfold Lib.itoa
    split
    · rename_i hn
      rw [Lib.atoiAll_minus, parseMag_dec _ (by omega)]
      unfold Lib.signed
      simp only
      rw [if_neg (by omega)]
      congr 1
      omega
    · rename_i hn
      have hm := parseMag_dec n.toNat (by omega)
      have hb := decDigits_dig n.toNat
      cases hl : Lib.decDigits n.toNat with
      | nil => exact absurd hl (decDigits_ne _)
      | cons c r =>
        rw [hl] at hm hb
        have hc := hb c (List.mem_cons_self ..)
        unfold isDig at hc
        rw [Lib.atoiAll_plain c r (by omega) (by omega), hm]
        unfold Lib.signless
        simp only
        rw [if_neg (by omega)]
        congr 1
        omega
  unfold atoiO
  rw [key]
theorem nibV_dig (d : Nat) (h : d < 16) : nibV (dig d) = d := by
  match d, h with
  | 0, _ => decide
  | 1, _ => decide
  | 2, _ => decide
  | 3, _ => decide
  | 4, _ => decide
  | 5, _ => decide
  | 6, _ => decide
  | 7, _ => decide
  | 8, _ => decide
  | 9, _ => decide
  | 10, _ => decide
  | 11, _ => decide
  | 12, _ => decide
  | 13, _ => decide
  | 14, _ => decide
  | 15, _ => decide
  | d + 16, h => omega
theorem unhex_hex (l : List UInt8) : unhexL (hexL l) = l := by
  induction l with
  | nil => rfl
  | cons c l ih =>
    have hc := c.toNat_lt
    show unhexL (dig (c.toNat / 16) :: dig (c.toNat % 16) :: hexL l) = _
    unfold unhexL
    rw [nibV_dig _ (by omega), nibV_dig _ (by omega), if_neg (by omega), ih]
    congr 1
    apply UInt8.toNat_inj.1
    rw [UInt8.toNat_ofNat', Int.toNat_natCast, Int.toNat_natCast]
    omega
theorem itoa_last (n : Int) : ∀ c, (Lib.itoa n).getLast? = some c → c = 45 ∨ isDig c := by
  intro c h
  exact itoa_bytes n c (List.mem_of_getLast? h)
theorem parse_itoa_no (n : Int) : parseOk (Lib.itoa n) = false := by
  cases h : parseOk (Lib.itoa n) with
  | false => rfl
  | true =>
    exfalso
    have hb := itoa_bytes n
    have no : ∀ c : UInt8, c ≠ 45 → ¬ isDig c → c ∉ Lib.itoa n := by
      intro c h1 h2 hm
      rcases hb c hm with e | e
      · exact h1 e
      · exact h2 e
    rcases parseOk_forms h with e | e | e | e | ⟨v, _, e⟩ | e
    · exact no 110 (by decide) (by unfold isDig; decide) (by rw [e]; decide)
    · exact no 105 (by decide) (by unfold isDig; decide) (by rw [e]; decide)
    · exact no 105 (by decide) (by unfold isDig; decide) (by rw [e]; decide)
    · exact no 46 (by decide) (by unfold isDig; decide) (by rw [e]; decide)
    · exact no 46 (by decide) (by unfold isDig; decide) (by rw [e]; simp)
    · exact no 120 (by decide) not120 (by rw [e]; simp)
theorem prefix_no {l : List UInt8} (h : l.head? ≠ some 120) : Lib.hasPrefix l [120] = false := by
  cases hh : Lib.hasPrefix l [120] with
  | false => rfl
  | true =>
    exfalso
    unfold Lib.hasPrefix at hh
    rw [List.isPrefixOf_iff_prefix] at hh
    obtain ⟨t, ht⟩ := hh
    rw [← ht] at h
    exact h rfl
theorem candVal_null : candVal tNull = zeroVal := by
  rw [candVal_eq, if_neg (by decide), if_neg (by decide), prefix_no (by decide), if_neg (by decide)]
  have hp : parseOk tNull = false := shape_no (by decide) (by decide) (by decide) (by decide) (by decide) (.inr (.inr (by decide)))
  rw [hp, if_neg (by decide), show atoiO tNull = none from by decide]
theorem cand_printV {v : Val} (h : RightC v) (w : v.Wf) : candVal (printVL v) = v := by
  obtain ⟨k, n, s, f⟩ := v
  obtain ⟨-, -, n0, n1, f0, f1⟩ := w
  simp only at n0 n1 f0 f1
  rcases h with ⟨hk, hn, hs, hf⟩ | ⟨hk, hs, hf⟩ | ⟨hk, hs, hf, hn⟩ | ⟨hk, hn, hf, hs⟩ | ⟨hk, hn, hs, hf⟩
  · simp only at hk hn hs hf
    subst hk hn hs hf
    exact candVal_null
  · simp only at hk hs hf
    subst hk hs hf
    show candVal (Lib.itoa n) = _
    have hb := itoa_bytes n
    have no : ∀ c : UInt8, c ≠ 45 → ¬ isDig c → c ∉ Lib.itoa n := by
      intro c h1 h2 hm
      rcases hb c hm with e | e
      · exact h1 e
      · exact h2 e
    have h120 : (Lib.itoa n).head? ≠ some 120 := by
      intro e
      exact no 120 (by decide) not120 (List.mem_of_head? e)
    rw [candVal_eq, if_neg (fun e => no 102 (by decide) (by unfold isDig; decide) (by rw [e]; decide)), if_neg (fun e => no 116 (by decide) (by unfold isDig; decide) (by rw [e]; decide)), prefix_no h120, if_neg (by decide), parse_itoa_no, if_neg (by decide), atoiO_itoa n n0 n1]
  · simp only at hk hs hf hn
    subst hk hs hf
    rcases hn with rfl | rfl
    · rfl
    · rfl
  · simp only at hk hn hf
    subst hk hn hf
    show candVal (120 :: hexL s.data.toList) = _
    have hp : Lib.hasPrefix (120 :: hexL s.data.toList) [120] = true := by
      unfold Lib.hasPrefix; rw [List.isPrefixOf_iff_prefix]; exact ⟨_, rfl⟩
    rw [candVal_eq, if_neg (by intro e; cases e), if_neg (by intro e; cases e), if_pos hp]
    have ht : Lib.trimPrefix (120 :: hexL s.data.toList) [120] = hexL s.data.toList := by
      unfold Lib.trimPrefix
      rw [if_pos hp]
      rfl
    rw [ht, unhex_hex]
  · simp only at hk hn hs hf
    subst hk hn hs
    show candVal (printL f.toNat) = _
    obtain ⟨q1, q2⟩ := parse_print f f0 f1
    have hfm := print_forms f.toNat
    have hd : ∀ v : Int, ∀ c r, Lib.itoa v ++ [46] = c :: r → c = 45 ∨ isDig c := by
      intro v c r e
      have hi := itoa_ne v
      cases hv : Lib.itoa v with
      | nil => exact absurd hv hi
      | cons c2 r2 =>
        rw [hv] at e
        injection e with e1 _
        rw [← e1]
        exact itoa_bytes v c2 (by rw [hv]; exact List.mem_cons_self ..)
    have hhead : ∀ c, (printL f.toNat).head? = some c → c ≠ 102 ∧ c ≠ 116 ∧ c ≠ 120 := by
      intro c hc
      rcases hfm with e | e | e | e | ⟨v, _, e⟩ | e
      · rw [e] at hc; injection hc with hc; subst hc; decide
      · rw [e] at hc; injection hc with hc; subst hc; decide
      · rw [e] at hc; injection hc with hc; subst hc; decide
      · rw [e] at hc; injection hc with hc; subst hc; decide
      · rw [e] at hc
        cases hv : Lib.itoa v ++ [46] with
        | nil => rw [hv] at hc; cases hc
        | cons c2 r2 =>
          rw [hv] at hc
          injection hc with hc
          subst hc
          rcases hd v c2 r2 hv with e | e
          · subst e; decide
          · unfold isDig at e
            refine ⟨?_, ?_, ?_⟩ <;> (rintro rfl; exact absurd e (by decide))
      · rw [e] at hc; injection hc with hc; subst hc; decide
    rw [candVal_eq, if_neg (fun e => absurd (hhead 102 (by rw [e]; rfl)).1 (by decide)), if_neg (fun e => absurd (hhead 116 (by rw [e]; rfl)).2.1 (by decide)), prefix_no (fun e => absurd (hhead 120 e).2.2 (by decide)), if_neg (by decide), q1, if_pos rfl, q2, hf]
theorem parse_printV {v : Val} (h : RightC v) (hr : rightOf v = v) (w : v.Wf) : okV (printVL v) = true ∧ parseVal (printVL v) = v := by
  have hc := cand_printV h w
  have hok : okV (printVL v) = true := by
    unfold okV
    rw [hc, hr]
    simp
  exact ⟨hok, by unfold parseVal; rw [if_pos hok, hc]⟩
end Go.Proofs.YtfniehgggbobaaaGreatDoor
namespace Go.Proofs.YtfniehgggbobaaaGreatDoor
open Go.RowKit

set_option maxHeartbeats 800000 in
set_option maxRecDepth 10000 in
theorem digitsV_any (k : Nat) : ∀ (w : World) (n : Int), n.natAbs = k → -9223372036854775808 ≤ n → n ≤ 9223372036854775807 →
    Calls Tryz.prog 43 #[.int .i64 n] w fun e w' => e = .returned (.string ⟨(Lib.itoa n).toArray⟩) ∧ Below w.heap.size w w' := by
  induction k using Nat.strongRecOn with
  | _ k ih =>
    intro w n hk h0 h1
    by_cases hn : 0 ≤ n
    · have H1 := Lib.hid (digits_any w n (by omega) h1)
      generalize Lib.itoa n = X at *
      clear ih hk
      go_enter Tryz.func43, Tryz.ntmps43
      go_wp2_with fail
      refine H1.out.mono ?_
      rintro e w1 ⟨rfl, hb⟩
      go_wp2_with fail
      go_ret
      exact ⟨rfl, hb⟩
    · have hi : Lib.itoa n = 45 :: Lib.decDigits n.natAbs := by unfold Lib.itoa; rw [if_pos (by omega)]
      by_cases h10 : -10 < n
      · have H1 : Hid (∀ W : World, Calls Tryz.prog 72 #[.int .i64 (-n)] W fun e w' => e = .returned (.string ⟨(Lib.decDigits n.natAbs).toArray⟩) ∧ Below W.heap.size W w') := Lib.hid fun W => by
          have := digits_nat (-n).toNat W (-n) rfl (by omega) (by omega)
          rwa [show (-n).toNat = n.natAbs from by omega] at this
        have l1 := decDigits_len20 n.natAbs (by omega)
        have hadd := add_lists [45] (Lib.decDigits n.natAbs) (by simp; omega)
        have HI := Lib.hid hi
        clear hi l1 ih hk
        generalize Lib.itoa n = X at *
        generalize Lib.decDigits n.natAbs = Y at *
        go_enter Tryz.func43, Tryz.ntmps43
        go_wp2_with fail
        refine (H1.out w).mono ?_
        rintro e w1 ⟨rfl, hb⟩
        go_wp2_with fail
        go_ret
        exact ⟨by rw [HI.out]; rfl, hb⟩
      · have hq : n.tdiv 10 = -((n.natAbs / 10 : Nat) : Int) := by
          rw [show n = -((n.natAbs : Nat) : Int) from by omega, Int.neg_tdiv, Int.tdiv_eq_ediv_of_nonneg (by omega)]
          omega
        have hr : n.tmod 10 = -((n.natAbs % 10 : Nat) : Int) := by
          rw [show n = -((n.natAbs : Nat) : Int) from by omega, Int.neg_tmod, Int.tmod_eq_emod_of_nonneg (by omega)]
          omega
        obtain ⟨q, hq2⟩ : ∃ q : Int, q = n.tdiv 10 := ⟨_, rfl⟩
        obtain ⟨r, hr2⟩ : ∃ r : Int, r = n.tmod 10 := ⟨_, rfl⟩
        rw [← hq2] at hq
        rw [← hr2] at hr
        have H1 : Hid (∀ W : World, Calls Tryz.prog 43 #[.int .i64 q] W fun e w' => e = .returned (.string ⟨(Lib.itoa q).toArray⟩) ∧ Below W.heap.size W w') := Lib.hid fun W => ih q.natAbs (by omega) W q rfl (by omega) (by omega)
        have H2 : Hid (∀ W : World, Calls Tryz.prog 72 #[.int .i64 (-r)] W fun e w' => e = .returned (.string ⟨(Lib.decDigits (n.natAbs % 10)).toArray⟩) ∧ Below W.heap.size W w') := Lib.hid fun W => by
          have := digits_nat (-r).toNat W (-r) rfl (by omega) (by omega)
          rwa [show (-r).toNat = n.natAbs % 10 from by omega] at this
        have hiq : Lib.itoa q = 45 :: Lib.decDigits (n.natAbs / 10) := by
          unfold Lib.itoa
          rw [if_pos (by omega), show q.natAbs = n.natAbs / 10 from by omega]
        have hall : Lib.itoa n = Lib.itoa q ++ Lib.decDigits (n.natAbs % 10) := by
          rw [hi, hiq, decDigits_split n.natAbs (by omega)]; rfl
        have l1 := decDigits_len20 (n.natAbs / 10) (by omega)
        have l2 := decDigits_len20 (n.natAbs % 10) (by omega)
        have hadd := add_lists (Lib.itoa q) (Lib.decDigits (n.natAbs % 10)) (by rw [hiq]; simp; omega)
        have HA := Lib.hid hall
        have hq0 : -922337203685477581 ≤ q := by omega
        have hq1 : q ≤ 0 := by omega
        have hr0 : -10 < r := by omega
        have hr1 : r ≤ 0 := by omega
        have hq2' := hq2.symm
        have hr2' := hr2.symm
        clear hi hiq l1 l2 ih hk hall hq hr hq2 hr2
        generalize Lib.itoa n = X at *
        generalize Lib.itoa q = Y at *
        generalize Lib.decDigits (n.natAbs % 10) = Z at *
        go_enter Tryz.func43, Tryz.ntmps43
        go_wp2_with fail
        refine (H1.out w).mono ?_
        rintro e w1 ⟨rfl, hb⟩
        go_wp2_with fail
        refine (H2.out w1).mono ?_
        rintro e w2 ⟨rfl, hb2⟩
        have hbb := hb.trans (hb2.mono hb.size)
        go_wp2_with fail
        go_ret
        exact ⟨by rw [HA.out]; rfl, hbb⟩
end Go.Proofs.YtfniehgggbobaaaGreatDoor
namespace Go.Proofs.YtfniehgggbobaaaGreatDoor
open Go.RowKit

/-- may a column of a kind have a mask -/
def rmB (mk mn k : Int) : Bool := decide (1 ≤ k ∧ k ≤ 4) && (if mk = 3 then decide (k = 3) && decide (0 ≤ mn) && decide (mn ≤ 64) else decide (0 ≤ mk ∧ mk < 3) && decide (mn = 0))
theorem three (mn : Int) : mn < 0 ∨ (0 ≤ mn ∧ mn ≤ 64) ∨ (0 ≤ mn ∧ 64 < mn) := by omega
theorem below_box1 (w : World) (o : Obj) : Below w.heap.size w (w.alloc o) := (Below.refl _ _).alloc (Nat.le_refl _) _
end Go.Proofs.YtfniehgggbobaaaGreatDoor
namespace Go.Proofs.YtfniehgggbobaaaGreatDoor
open Go.RowKit

set_option maxHeartbeats 8000000 in
set_option maxRecDepth 100000 in
theorem printVR_any (w : World) (x : Val) (hx : x.Wf) :
    Calls Tryz.prog 19 #[x.v] w fun e w' => e = .returned (.string ⟨(printVL (rightOf x)).toArray⟩) ∧ Below w.heap.size w w' := by
  have Hr : Hid (∀ W : World, Calls Tryz.prog 42 #[x.v] W fun e w' => e = .returned (rightOf x).v ∧ Below W.heap.size W w') := Lib.hid fun W => rightofR_any W x hx.f0 hx.f1
  have hw2 := right_wf x hx
  have hs3 := right_s x
  have Ht := Lib.hid (At.new w x.k x.n x.s x.f 25)
  have Hb0 := Lib.hid (below_box1 w (.cells #[.int .i64 x.k, .int .i64 x.n, .string x.s, .int .u64 x.f] 25))
  generalize rightOf x = y at *
  obtain ⟨xk, xn, sx, xf⟩ := x
  obtain ⟨k, n, s, f⟩ := y
  obtain ⟨-, -, n0, n1, f0, f1⟩ := hw2
  have hp : printVL ⟨k, n, s, f⟩ = if k = 1 then Lib.itoa n else if k = 2 then (if n = 1 then tTrue else tFalse) else if k = 3 then 120 :: hexL s.data.toList else if k = 4 then printL f.toNat else tNull := rfl
  have hx2 := hp
  have HX := Lib.hid hp
  generalize printVL ⟨k, n, s, f⟩ = Z at *
  clear hp hx hx2
  simp only [Val.v] at *
  go_enter Tryz.func19, Tryz.ntmps19
  go_wp2_with fail
  generalize (w.alloc _) = W0 at Ht Hb0 ⊢
  refine (Hr.out W0).mono ?_
  rintro e w1 ⟨rfl, hb⟩
  have T2 := At.new w1 k n s f 25
  have hb2 := (Hb0.out.trans (hb.mono Hb0.out.size)).alloc (Nat.le_trans Hb0.out.size hb.size) (.cells #[.int .i64 k, .int .i64 n, .string s, .int .u64 f] 25)
  have HT2 := Lib.hid T2; have Hb3 := Lib.hid hb2
  clear T2 hb2 hb
  go_upto_region 2 with fail
  generalize (w1.alloc _) = W2 at HT2 Hb3 ⊢
  generalize w1.heap.size = C at *
  obtain ⟨e0, e1, e2, e3, -, -⟩ := HT2.out
  clear Ht Hb0 Hr
  by_cases h1 : k = 1
  · subst h1
    have hx := HX.out
    rw [if_pos rfl] at hx
    have HZ := Lib.hid hx
    clear hx HX
    have Hc := Lib.hid (digitsV_any n.natAbs W2 n rfl n0 n1)
    clear hs3 n0 n1 f0 f1
    generalize Lib.itoa n = X at *
    go_wp2_with fail
    refine Hc.out.mono ?_
    rintro e w3 ⟨rfl, hb⟩
    have hbb := Hb3.out.trans (hb.mono Hb3.out.size)
    go_wp2_with fail
    go_ret
    exact ⟨by rw [HZ.out]; rfl, hbb⟩
  have k1 : (k == 1) = false := by rw [beq_eq_false_iff_ne]; exact h1
  have hx := HX.out
  rw [if_neg h1] at hx
  by_cases h2 : k = 2
  · subst h2
    rw [if_pos rfl] at hx
    by_cases hn : n = 1
    · subst hn
      rw [if_pos rfl] at hx
      have HZ := Lib.hid hx
      clear hx HX
      clear hs3 n0 n1 f0 f1 k1 h1
      go_wp2_with fail
      go_ret
      exact ⟨by rw [HZ.out]; rfl, Hb3.out⟩
    · rw [if_neg hn] at hx
      have HZ := Lib.hid hx
      clear hx HX
      have hn2 : (n == 1) = false := by rw [beq_eq_false_iff_ne]; exact hn
      clear hs3 n0 n1 f0 f1 k1 h1 hn
      go_wp2_with fail
      go_ret
      exact ⟨by rw [HZ.out]; rfl, Hb3.out⟩
  have k2 : (k == 2) = false := by rw [beq_eq_false_iff_ne]; exact h2
  rw [if_neg h2] at hx
  by_cases h3 : k = 3
  · subst h3
    rw [if_pos rfl] at hx
    have HZ := Lib.hid hx
    clear hx HX
    have hs := hs3 rfl
    obtain ⟨N, hN⟩ : ∃ N, s.size = N := ⟨_, rfl⟩
    obtain ⟨l, hl⟩ : ∃ l, l = s.data.toList := ⟨_, rfl⟩
    have hlN : l.length = N := by rw [hl, ← hN, Lib.size_eq]
    have HZ2 : Hid (Z = 120 :: hexL l) := Lib.hid (by rw [HZ.out, hl])
    have Hl := Lib.hid hl; have HlN := Lib.hid hlN
    have hN64 : N ≤ 64 := by omega
    have HN64 := Lib.hid hN64
    clear hs3 n0 n1 f0 f1 k1 h1 k2 h2 hs HZ hl hlN hN64
    go_wp2_with fail
    go_loopg [4, 5] N (fun mm sv i wr => ∃ (j : Nat) (I : Int) (X : List UInt8), j + mm = N ∧ Hid (I = (j : Int) ∧ X = 120 :: hexL (l.take j)) ∧ sv = .string ⟨X.toArray⟩ ∧ i = .int .i64 I ∧ ∃ q, wr = W2.drewN q)
    case atStart => exact ⟨0, 0, [120], by omega, Lib.hid ⟨rfl, rfl⟩, rfl, rfl, 0, rfl⟩
    case round =>
      obtain ⟨j, I, X, hj, HI, rfl, rfl, q, rfl⟩ := hrel
      have hI0 : 0 ≤ I := by have := HI.out.1; omega
      by_cases hm : gk = 0
      · have hI1 : ¬ I < (N : Int) := by have := HI.out.1; omega
        have hX : X = Z := by
          rw [HZ2.out, HI.out.2, List.take_of_length_le (by rw [HlN.out]; omega)]
        have HX3 := Lib.hid hX
        clear hm hj hX
        go_wp2_with fail
        go_ret
        exact ⟨by rw [← HX3.out]; rfl, below_drewN Hb3.out _⟩
      · have hI1 : I < (N : Int) := by have := HI.out.1; omega
        have hIj : I.toNat = j := by have := HI.out.1; omega
        have hjs : j < s.size := by omega
        have hN64 := HN64.out
        have hI64 : I ≤ 64 := by omega
        obtain ⟨c, hc⟩ : ∃ c, s[j] = c := ⟨_, rfl⟩
        have hlc : l[j]? = some c := by rw [Hl.out, byte_at s j hjs, hc]
        obtain ⟨hi, hhi⟩ : ∃ hi, c.toNat / 16 = hi := ⟨_, rfl⟩
        obtain ⟨lo, hlo⟩ : ∃ lo, c.toNat % 16 = lo := ⟨_, rfl⟩
        have hc256 := c.toNat_lt
        have hhi16 : hi < 16 := by omega
        have hlo16 : lo < 16 := by omega
        have c1 := digit16_cut hi hhi16
        have c2 := digit16_cut lo hlo16
        have d1 : (c.toNat : Int) / 16 = (hi : Int) := by omega
        have d2 : (c.toNat : Int).tdiv 16 = (hi : Int) := by rw [Int.tdiv_eq_ediv_of_nonneg (by omega)]; exact d1
        have d3 : (c.toNat : Int).tmod 16 = (lo : Int) := by rw [Int.tmod_eq_emod_of_nonneg (by omega)]; omega
        have u1 : IntKind.u8.wrap ((hi : Int) + 1) = (hi : Int) + 1 := by rw [IntKind.wrap_u8]; omega
        have u2 : IntKind.u8.wrap ((lo : Int) + 1) = (lo : Int) + 1 := by rw [IntKind.wrap_u8]; omega
        have v1 : ((hi : Int) + 1).toNat = hi + 1 := by omega
        have v2 : ((lo : Int) + 1).toNat = lo + 1 := by omega
        have t1 : ((hi : Int)).toNat = hi := by omega
        have t2 : ((lo : Int)).toNat = lo := by omega
        have i1 : (hi : Int) < 16 := by omega
        have i2 : (lo : Int) < 16 := by omega
        have i3 : (0 : Int) ≤ (hi : Int) := by omega
        have i4 : (0 : Int) ≤ (lo : Int) := by omega
        have g1 : IntKind.u8.wrap (hi : Int) = (hi : Int) := by rw [IntKind.wrap_u8]; omega
        have g2 : IntKind.u8.wrap (lo : Int) = (lo : Int) := by rw [IntKind.wrap_u8]; omega
        have y1 : (0 : Int) ≤ (hi : Int) + 1 := by omega
        have y2 : (hi : Int) + 1 ≤ 16 := by omega
        have y3 : (hi : Int) ≤ (hi : Int) + 1 := by omega
        have y4 : (0 : Int) ≤ (lo : Int) + 1 := by omega
        have y5 : (lo : Int) + 1 ≤ 16 := by omega
        have y6 : (lo : Int) ≤ (lo : Int) + 1 := by omega
        have sl1 : ∀ W : World, (Instr.sliceAt 9 (.string digits16) (some (.int .u8 (hi : Int))) (some (.int .u8 ((hi : Int) + 1))) none).run Tryz.prog W = .ok (.string ⟨#[dig hi]⟩) W := by
          intro W
          rw [run_sliceAt_string W _ _ _ _ _ Tryz.underlying9, run_slice_string W _ _ _ _ _ _ Tryz.underlying9 (by omega) (by omega) (by show (hi : Int) + 1 ≤ ((16 : Nat) : Int); omega), t1, v1, c1]
        have sl2 : ∀ W : World, (Instr.sliceAt 9 (.string digits16) (some (.int .u8 (lo : Int))) (some (.int .u8 ((lo : Int) + 1))) none).run Tryz.prog W = .ok (.string ⟨#[dig lo]⟩) W := by
          intro W
          rw [run_sliceAt_string W _ _ _ _ _ Tryz.underlying9, run_slice_string W _ _ _ _ _ _ Tryz.underlying9 (by omega) (by omega) (by show (lo : Int) + 1 ≤ ((16 : Nat) : Int); omega), t2, v2, c2]
        have hstep : X ++ [dig hi, dig lo] = 120 :: hexL (l.take (j + 1)) := by
          rw [HI.out.2, take_snoc hlc, hexL_append, ← hhi, ← hlo]; rfl
        have hlen : X.length ≤ 200 := by
          rw [HI.out.2, List.length_cons, hexL_length, List.length_take]; omega
        have add1 := add_lists [dig hi] [dig lo] (by simp)
        have add2 := add_lists X [dig hi, dig lo] (by simp; omega)
        have Hstep := Lib.hid hstep
        have Hj := Lib.hid hj; have Hm := Lib.hid hm
        clear hstep hj hm hlc hhi hlo hlen hc256
        go_wp2_with fail
        go_quiet (fail)
        go_wp2_with fail
        go_roundg (N - (j + 1))
        case measure => have := Hj.out; have := Hm.out; omega
        case rel => exact ⟨j + 1, I + 1, X ++ [dig hi, dig lo], by have := Hj.out; have := Hm.out; omega, Lib.hid ⟨by have := HI.out.1; omega, Hstep.out⟩, by first | rfl | simp, by go_num, _, rfl⟩
  have k3 : (k == 3) = false := by rw [beq_eq_false_iff_ne]; exact h3
  rw [if_neg h3] at hx
  by_cases h4 : k = 4
  · subst h4
    rw [if_pos rfl] at hx
    have HZ := Lib.hid hx
    clear hx HX
    have Hc := Lib.hid (printR_any W2 f f0 f1)
    generalize printL f.toNat = X at *
    clear hs3 n0 n1 f0 f1 k1 h1 k2 h2 k3 h3
    go_wp2_with fail
    refine Hc.out.mono ?_
    rintro e w3 ⟨rfl, hb⟩
    have hbb := Hb3.out.trans (hb.mono Hb3.out.size)
    go_wp2_with fail
    go_ret
    exact ⟨by rw [HZ.out]; rfl, hbb⟩
  have k4 : (k == 4) = false := by rw [beq_eq_false_iff_ne]; exact h4
  rw [if_neg h4] at hx
  have HZ := Lib.hid hx
  clear hx HX
  clear hs3 n0 n1 f0 f1
  go_wp2_with fail
  go_ret
  exact ⟨by rw [HZ.out]; rfl, Hb3.out⟩

end Go.Proofs.YtfniehgggbobaaaGreatDoor
namespace Go.Proofs.YtfniehgggbobaaaGreatDoor
open Go.RowKit

def numOk (l : List UInt8) : Bool := match atoiO l with
  | some v => Lib.itoa v == l
  | none => false
def numV (l : List UInt8) : Int := match atoiO l with
  | some v => v
  | none => 0
theorem num_itoa (n : Int) (h0 : -9223372036854775808 ≤ n) (h1 : n ≤ 9223372036854775807) : numOk (Lib.itoa n) = true ∧ numV (Lib.itoa n) = n := by
  unfold numOk numV
  rw [atoiO_itoa n h0 h1]
  exact ⟨by simp, rfl⟩
theorem num_back {l : List UInt8} (h : numOk l = true) : l = Lib.itoa (numV l) ∧ -9223372036854775808 ≤ numV l ∧ numV l ≤ 9223372036854775807 := by
  unfold numOk at h
  unfold numV
  cases hv : atoiO l with
  | none => rw [hv] at h; cases h
  | some v =>
    rw [hv] at h
    have hb := Lib.atoiAll_bounds (atoiO_some hv)
    exact ⟨(beq_iff_eq.1 h).symm, hb.1, hb.2⟩
/-- the digits of a number's text -/
def signed2 (l d : List UInt8) (neg : Bool) : Prop := (neg = true ∧ l = 45 :: d) ∨ (neg = false ∧ l = d ∧ l.head? ≠ some 45)
theorem decDigits_len19 (u : Nat) (h : u < 10 ^ 19) : (Lib.decDigits u).length ≤ 19 := by
  have key : ∀ k u, u < 10 ^ (k + 1) → (Lib.decDigits u).length ≤ k + 1 := by
    intro k
    induction k with
    | zero =>
      intro u h
      rw [Lib.decDigits, dif_pos (by omega)]
      simp
    | succ k ih =>
      intro u h
      rw [Lib.decDigits]
      split
      · simp
      · rw [List.length_append, List.length_singleton]
        have := ih (u / 10) (by rw [Nat.pow_succ] at h; omega)
        omega
  exact key 18 u h
theorem num_digits {l d : List UInt8} {neg : Bool} (hs : signed2 l d neg) (h : numOk l = true) : d = Lib.decDigits (numV l).natAbs ∧ (neg = true ↔ numV l < 0) := by
  obtain ⟨h1, h2, h3⟩ := num_back h
  generalize numV l = n at *
  unfold Lib.itoa at h1
  split at h1
  · rename_i hn
    rcases hs with ⟨e1, e2⟩ | ⟨e1, e2, e3⟩
    · rw [e2] at h1
      injection h1 with _ h1
      exact ⟨h1, by rw [e1]; simp; exact hn⟩
    · rw [h1] at e3
      exact absurd rfl e3
  · rename_i hn
    rcases hs with ⟨e1, e2⟩ | ⟨e1, e2, e3⟩
    · have := decDigits_dig n.toNat 45 (by rw [← h1, e2]; exact List.mem_cons_self ..)
      unfold isDig at this
      exact absurd this (by decide)
    · refine ⟨?_, ?_⟩
      · rw [← e2, h1]; congr 1; omega
      · rw [e1]; constructor
        · intro h; cases h
        · intro h; omega
theorem num_no {l d : List UInt8} {neg : Bool} (hs : signed2 l d neg) (h : d = [] ∨ 19 < d.length ∨ (∃ c ∈ d, ¬ isDig c) ∨ (∃ j n, Lib.decFrom 0 (d.take j) = some n ∧ 9223372036854775808 < n)) : numOk l = false := by
  cases hk : numOk l with
  | false => rfl
  | true =>
    exfalso
    obtain ⟨h1, h2⟩ := num_digits hs hk
    obtain ⟨-, h3, h4⟩ := num_back hk
    generalize numV l = n at *
    rcases h with e | e | ⟨c, e1, e2⟩ | ⟨j, m, e1, e2⟩
    · rw [h1] at e; exact decDigits_ne _ e
    · have := decDigits_len19 n.natAbs (by omega)
      rw [← h1] at this; omega
    · rw [h1] at e1; exact e2 (decDigits_dig _ _ e1)
    · have h5 := decFrom_dec n.natAbs
      rw [← h1, ← List.take_append_drop j d, decFrom_append _ _ _ _ e1] at h5
      have := decFrom_le _ _ _ h5
      omega
theorem num_yes {l d : List UInt8} {neg : Bool} {n : Nat} {v : Int} (hs : signed2 l d neg) (hn : Lib.decFrom 0 d = some n) (hlt : n ≤ 9223372036854775808) (hv : v = if neg then -(n : Int) else if n = 9223372036854775808 then -9223372036854775808 else n) :
    numOk l = ((⟨(Lib.itoa v).toArray⟩ : ByteArray).toList == l) ∧ (numOk l = true → v = numV l) ∧ -9223372036854775808 ≤ v ∧ v ≤ 9223372036854775807 := by
  have hr : -9223372036854775808 ≤ v ∧ v ≤ 9223372036854775807 := by
    rw [hv]
    cases neg
    · simp only [Bool.false_eq_true, if_false]; split <;> omega
    · simp only [if_true]; omega
  have hyes : numOk l = true → v = numV l := by
    intro h
    obtain ⟨h1, h2⟩ := num_digits hs h
    obtain ⟨-, h3, h4⟩ := num_back h
    have h5 := decFrom_dec (numV l).natAbs
    rw [← h1, hn] at h5
    injection h5 with h5
    rw [hv]
    cases neg
    · simp only [Bool.false_eq_true, if_false]
      have : ¬ numV l < 0 := fun h => by have := h2.2 h; cases this
      rw [if_neg (by omega)]; omega
    · simp only [if_true]
      have := h2.1 rfl
      omega
  refine ⟨?_, hyes, hr⟩
  rw [mk_toList]
  cases hk : numOk l with
  | true =>
    rw [hyes hk]
    have := (num_back hk).1
    symm
    rw [beq_iff_eq]
    exact this.symm
  | false =>
    symm
    rw [beq_eq_false_iff_ne]
    intro e
    have := (num_itoa v hr.1 hr.2).1
    rw [e, hk] at this
    cases this
def NumEnds (w w' : World) (e : Ending) (l : List UInt8) : Prop := ∃ v : Int, e = .returned (.tuple #[.int .i64 v, .bool (numOk l)]) ∧ (numOk l = true → v = numV l) ∧ Below w.heap.size w w'
def NInvP (d : List UInt8) (j n : Nat) (I NI : Int) : Prop := I = (j : Int) ∧ NI = -(n : Int) ∧ Lib.decFrom 0 (d.take j) = some n ∧ n < 10 ^ j ∧ n ≤ 9223372036854775808
set_option maxHeartbeats 8000000 in
set_option maxRecDepth 100000 in
theorem numberR_any (w : World) (s : ByteArray) (hs : s.size ≤ 100000) :
    Calls Tryz.prog 71 #[.string s] w fun e w' => NumEnds w w' e s.data.toList := by
  obtain ⟨l, hl⟩ : ∃ l, l = s.data.toList := ⟨_, rfl⟩
  have hlen : l.length = s.size := by rw [hl, Lib.size_eq]
  by_cases h0 : s.size = 0
  · have hl0 : l = [] := List.length_eq_zero_iff.1 (by omega)
    have hs0 : s = ⟨#[]⟩ := bytes_eq (by rw [← hl, hl0])
    have hno : numOk s.data.toList = false := by rw [← hl, hl0]; rfl
    have Hno := Lib.hid hno
    subst hs0
    clear hl hlen h0 hl0 hno hs
    go_enter Tryz.func71, Tryz.ntmps71
    go_wp2_with fail
    go_ret2
    exact ⟨0, by rw [Hno.out]; rfl, fun h => absurd h (by rw [Hno.out]; decide), Below.refl _ _⟩
  have h0s : 0 < s.size := by omega
  obtain ⟨c0, r, hlr⟩ : ∃ c0 r, l = c0 :: r := by
    cases hdc : l with
    | nil => rw [hdc] at hlen; simp at hlen; omega
    | cons c0 r => exact ⟨c0, r, rfl⟩
  have hs0 : s[0] = c0 := by
    have h5 := byte_at s 0 h0s
    rw [← hl, hlr] at h5
    exact (Option.some.inj h5).symm
  have hne : (s.toList == []) = false := by
    rw [beq_eq_false_iff_ne, ByteArray.toList_eq, ← hl, hlr]; simp
  have hne2 : (s.toList != []) = true := by unfold bne; rw [hne]; rfl
  obtain ⟨N, hN⟩ : ∃ N, s.size = N := ⟨_, rfl⟩
  have hNx : ∃ (T : ByteArray) (P : Nat) (neg : Bool), T.size = P ∧ P ≤ 100000 ∧ signed2 l T.data.toList neg ∧ ((c0.toNat : Int) == 45) = neg ∧ (neg = true → s.extract 1 N = T) ∧ (neg = false → s = T ∧ P = N) := by
    by_cases h45 : c0 = 45
    · have hT : (s.extract 1 N).data.toList = r := by
        rw [← ByteArray.toList_eq, Lib.extract_toList, ← hl, hlr]
        have : r.length + 1 = N := by rw [hlr] at hlen; simp at hlen; omega
        simp only [List.drop_succ_cons, List.drop_zero]
        rw [List.take_of_length_le (by omega)]
      refine ⟨s.extract 1 N, (s.extract 1 N).size, true, rfl, ?_, ?_, ?_, fun _ => rfl, fun h => (by cases h)⟩
      · rw [Lib.size_eq, hT]
        rw [hlr] at hlen; simp at hlen; omega
      · rw [hT]; exact .inl ⟨rfl, by rw [hlr, h45]⟩
      · rw [h45]; decide
    · refine ⟨s, N, false, hN, by omega, ?_, ?_, fun h => (by cases h), fun _ => ⟨rfl, rfl⟩⟩
      · refine .inr ⟨rfl, hl, ?_⟩
        rw [hlr]
        intro e
        exact h45 (Option.some.inj e)
      · rw [beq_eq_false_iff_ne]
        intro e
        exact h45 (UInt8.toNat_inj.1 (by simp; omega))
  obtain ⟨T, P, neg, hTs, hP, hsg, hc45, hneg, hpos⟩ := hNx
  obtain ⟨d, hd⟩ : ∃ d, d = T.data.toList := ⟨_, rfl⟩
  rw [← hd] at hsg
  have hdl : d.length = P := by rw [hd, ← Lib.size_eq]; exact hTs
  have hget : Hid (∀ i, i < P → ∀ h : i < T.size, ∃ c, d[i]? = some c ∧ T[i] = c) := by
    refine Lib.hid fun i hi h => ⟨T[i], ?_, rfl⟩
    rw [hd]; exact byte_at T i h
  have Hno : Hid ((d = [] ∨ 19 < d.length ∨ (∃ c ∈ d, ¬ isDig c) ∨ (∃ j n, Lib.decFrom 0 (d.take j) = some n ∧ 9223372036854775808 < n)) → numOk s.data.toList = false) := Lib.hid fun h => by
    have := num_no hsg h; rwa [hl] at this
  have Hyes : Hid (∀ (n : Nat) (v : Int), Lib.decFrom 0 d = some n → n ≤ 9223372036854775808 → v = (if neg then -(n : Int) else if n = 9223372036854775808 then -9223372036854775808 else n) → numOk s.data.toList = ((⟨(Lib.itoa v).toArray⟩ : ByteArray).toList == s.toList) ∧ (numOk s.data.toList = true → v = numV s.data.toList) ∧ -9223372036854775808 ≤ v ∧ v ≤ 9223372036854775807) := Lib.hid fun n v h1 h2 h3 => by
    have := num_yes hsg h1 h2 h3
    rw [hl] at this
    rwa [ByteArray.toList_eq s]
  have hP0 : P = 0 → (T.toList == []) = true := fun e => by rw [ByteArray.toList_eq, ← hd, List.length_eq_zero_iff.1 (show d.length = 0 by omega)]; rfl
  have hP1 : P ≠ 0 → (T.toList == []) = false := fun e => by
    rw [beq_eq_false_iff_ne, ByteArray.toList_eq, ← hd]; intro e2; rw [e2] at hdl; exact e hdl.symm
  have Hdl := Lib.hid hdl
  have HP0 := Lib.hid hP0
  have HP1 := Lib.hid hP1
  clear hs hsg hdl hd hlr hlen h0 hP0 hP1
  clear hl
  obtain ⟨L, hL⟩ : ∃ L, L = numOk s.data.toList := ⟨_, rfl⟩
  have hN1 : 1 ≤ N := by omega
  cases neg with
  | true =>
    have hS2 := hneg rfl
    clear hneg hpos
    by_cases hp0 : P = 0
    · have ht1 := HP0.out hp0
      have HN := Lib.hid (Hno.out (.inl (List.length_eq_zero_iff.1 (by rw [Hdl.out]; exact hp0))))
      clear HP0 HP1 hp0
      go_enter Tryz.func71, Tryz.ntmps71
      go_wp2_with fail
      go_ret2
      exact ⟨0, by rw [HN.out]; rfl, fun h => absurd h (by rw [HN.out]; decide), Below.refl _ _⟩
    have ht1 := HP1.out hp0
    by_cases hp19 : 19 < P
    · have HN := Lib.hid (Hno.out (.inr (.inl (by rw [Hdl.out]; exact hp19))))
      have hp19i : 19 < (P : Int) := by omega
      clear HP0 HP1 hp0 hp19
      go_enter Tryz.func71, Tryz.ntmps71
      go_wp2_with fail
      go_ret2
      exact ⟨0, by rw [HN.out]; rfl, fun h => absurd h (by rw [HN.out]; decide), Below.refl _ _⟩
    have hp19i : ¬ 19 < (P : Int) := by omega
    have HP := Lib.hid (show P ≤ 19 by omega)
    clear HP0 HP1 hp0 hp19
    go_enter Tryz.func71, Tryz.ntmps71
    go_wp2_with fail
    go_loopg [6, 7] P (fun mm nv iv wr => ∃ (j n : Nat) (I NI : Int), j + mm = P ∧ Hid (NInvP d j n I NI) ∧ nv = .int .i64 NI ∧ iv = .int .i64 I ∧ w = wr)
    case atStart => exact ⟨0, 0, 0, 0, by omega, Lib.hid ⟨rfl, rfl, rfl, by decide, by decide⟩, rfl, rfl, rfl⟩
    case round =>
      obtain ⟨j, n, I, NI, hj, HI, rfl, rfl, rfl⟩ := hrel
      have hNI0 : NI ≤ 0 := by have := HI.out.2.1; omega
      have hNI1 : -9223372036854775808 ≤ NI := by have := HI.out.2.1; have := HI.out.2.2.2.2; omega
      by_cases hm : gk = 0
      · have hiP : j = P := by omega
        have hIP : I = (P : Int) := by have := HI.out.1; omega
        have hn : Lib.decFrom 0 d = some n := by
          have := HI.out.2.2.1
          rwa [List.take_of_length_le (by rw [Hdl.out, hiP]; exact Nat.le_refl _)] at this
        obtain ⟨y1, y2, y3, y4⟩ := Hyes.out n NI hn HI.out.2.2.2.2 (by have := HI.out.2.1; simp only [if_true]; omega)
        have Hd : Hid (∀ W : World, Calls Tryz.prog 43 #[.int .i64 NI] W fun e w' => e = .returned (.string ⟨(Lib.itoa NI).toArray⟩) ∧ Below W.heap.size W w') := Lib.hid fun W => digitsV_any _ W NI rfl y3 y4
        generalize (⟨(Lib.itoa NI).toArray⟩ : ByteArray) = X at *
        have Hok := Lib.hid y1
        have Hpv := Lib.hid y2
        clear y1 y2 y3 y4 hn hm hj hiP
        subst hIP
        go_wp2_with fail
        refine (Hd.out w).mono ?_
        rintro e w2 ⟨rfl, hb2⟩
        go_wp2_with fail
        go_ret2
        exact ⟨_, by rw [Hok.out]; rfl, Hpv.out, hb2⟩
      · have hiP : j < P := by omega
        have hI0 : 0 ≤ I := by have := HI.out.1; omega
        have hI1 : I < (P : Int) := by have := HI.out.1; omega
        have hIn : I.toNat = j := by have := HI.out.1; omega
        obtain ⟨c, hc1, hc2⟩ := hget.out j hiP (by rw [hTs]; exact hiP)
        have Hc1 := Lib.hid hc1
        have Hj := Lib.hid hj; have Hm := Lib.hid hm; have HiP := Lib.hid hiP
        have hc256 := c.toNat_lt
        clear hc1 hj hm
        by_cases hlo : (c.toNat : Int) < 48
        · have hno := Hno.out (.inr (.inr (.inl ⟨c, List.mem_of_getElem? Hc1.out, by unfold isDig; omega⟩)))
          have HN := Lib.hid hno; clear hno hc256
          go_wp2_with fail
          go_ret2
          exact ⟨0, by rw [HN.out]; rfl, fun h => absurd h (by rw [HN.out]; decide), Below.refl _ _⟩
        by_cases hhi : 57 < (c.toNat : Int)
        · have hno := Hno.out (.inr (.inr (.inl ⟨c, List.mem_of_getElem? Hc1.out, by unfold isDig; omega⟩)))
          have HN := Lib.hid hno; clear hno hc256
          go_wp2_with fail
          go_ret2
          exact ⟨0, by rw [HN.out]; rfl, fun h => absurd h (by rw [HN.out]; decide), Below.refl _ _⟩
        have hdig : Lib.digitVal c = some (c.toNat - 48) := by unfold Lib.digitVal; rw [if_pos ⟨by omega, by omega⟩]
        have hnext := Lib.decFrom_take d j 0 n c _ HI.out.2.2.1 Hc1.out hdig
        have hlo2 : 48 ≤ (c.toNat : Int) := by omega
        have hhi2 : (c.toNat : Int) ≤ 57 := by omega
        clear hdig hlo hhi
        by_cases hov : n * 10 + (c.toNat - 48) ≤ 9223372036854775808
        · have HD : Hid (NInvP d (j + 1) (n * 10 + (c.toNat - 48)) (I + 1) (10 * NI - ((c.toNat : Int) - 48))) := Lib.hid ⟨by have := HI.out.1; omega, by have := HI.out.2.1; omega, hnext, by have := HI.out.2.2.2.1; rw [Nat.pow_succ]; omega, hov⟩
          have b1 : -922337203685477580 ≤ NI := by have := HI.out.2.1; omega
          have b2 : -9223372036854775808 ≤ 10 * NI - ((c.toNat : Int) - 48) := by have := HI.out.2.1; omega
          have b3 : 10 * NI - ((c.toNat : Int) - 48) ≤ 0 := by omega
          clear hov hnext hc256
          go_wp2_with fail
          go_roundg (P - (j + 1))
          case measure => have := Hj.out; have := Hm.out; omega
          case rel => exact ⟨j + 1, _, I + 1, _, by have := Hj.out; have := Hm.out; omega, HD, by go_num, by go_num, rfl⟩
        · have HN := Lib.hid (Hno.out (.inr (.inr (.inr ⟨j + 1, _, hnext, by omega⟩))))
          have hlt : n < 1000000000000000000 := by
            have h1 := HI.out.2.2.2.1
            have h3 : 10 ^ j ≤ 10 ^ 18 := Nat.pow_le_pow_right (by decide) (by have := HP.out; have := HiP.out; omega)
            omega
          obtain ⟨M1, hM1⟩ : ∃ M1, wrap64 (10 * NI) = M1 := ⟨_, rfl⟩
          obtain ⟨M2, hM2⟩ : ∃ M2, wrap64 (M1 - ((c.toNat : Int) - 48)) = M2 := ⟨_, rfl⟩
          have hM3 : 0 < M2 := by
            have := HI.out.2.1
            rw [← hM2, ← hM1]
            unfold wrap64
            omega
          clear hov hnext hc256 hlt
          go_wp2_with fail
          go_ret2
          exact ⟨0, by rw [HN.out]; rfl, fun h => absurd h (by rw [HN.out]; decide), Below.refl _ _⟩
  | false =>
    obtain ⟨rfl, rfl⟩ := hpos rfl
    clear hneg hpos
    have hp0 : ¬ P = 0 := by omega
    have ht1 := HP1.out hp0
    by_cases hp19 : 19 < P
    · have HN := Lib.hid (Hno.out (.inr (.inl (by rw [Hdl.out]; exact hp19))))
      have hp19i : 19 < (P : Int) := by omega
      clear HP0 HP1 hp0 hp19
      go_enter Tryz.func71, Tryz.ntmps71
      go_wp2_with fail
      go_ret2
      exact ⟨0, by rw [HN.out]; rfl, fun h => absurd h (by rw [HN.out]; decide), Below.refl _ _⟩
    have hp19i : ¬ 19 < (P : Int) := by omega
    have HP := Lib.hid (show P ≤ 19 by omega)
    clear HP0 HP1 hp0 hp19
    go_enter Tryz.func71, Tryz.ntmps71
    go_wp2_with fail
    go_loopg [6, 7] P (fun mm nv iv wr => ∃ (j n : Nat) (I NI : Int), j + mm = P ∧ Hid (NInvP d j n I NI) ∧ nv = .int .i64 NI ∧ iv = .int .i64 I ∧ w = wr)
    case atStart => exact ⟨0, 0, 0, 0, by omega, Lib.hid ⟨rfl, rfl, rfl, by decide, by decide⟩, rfl, rfl, rfl⟩
    case round =>
      obtain ⟨j, n, I, NI, hj, HI, rfl, rfl, rfl⟩ := hrel
      have hNI0 : NI ≤ 0 := by have := HI.out.2.1; omega
      have hNI1 : -9223372036854775808 ≤ NI := by have := HI.out.2.1; have := HI.out.2.2.2.2; omega
      by_cases hm : gk = 0
      · have hiP : j = P := by omega
        have hIP : I = (P : Int) := by have := HI.out.1; omega
        have hn : Lib.decFrom 0 d = some n := by
          have := HI.out.2.2.1
          rwa [List.take_of_length_le (by rw [Hdl.out, hiP]; exact Nat.le_refl _)] at this
        by_cases hmin : n = 9223372036854775808
        · have hw1 : wrap64 (-NI) = NI := by have := HI.out.2.1; unfold wrap64; omega
          obtain ⟨y1, y2, y3, y4⟩ := Hyes.out n NI hn HI.out.2.2.2.2 (by have := HI.out.2.1; simp only [Bool.false_eq_true, if_false]; rw [if_pos hmin]; omega)
          have Hd : Hid (∀ W : World, Calls Tryz.prog 43 #[.int .i64 NI] W fun e w' => e = .returned (.string ⟨(Lib.itoa NI).toArray⟩) ∧ Below W.heap.size W w') := Lib.hid fun W => digitsV_any _ W NI rfl y3 y4
          generalize (⟨(Lib.itoa NI).toArray⟩ : ByteArray) = X at *
          have Hok := Lib.hid y1
          have Hpv := Lib.hid y2
          clear y1 y2 y3 y4 hn hm hj hiP
          subst hIP
          go_wp2_with fail
          refine (Hd.out w).mono ?_
          rintro e w2 ⟨rfl, hb2⟩
          go_wp2_with fail
          go_ret2
          exact ⟨_, by rw [Hok.out]; rfl, Hpv.out, hb2⟩
        · have hNI2 : -9223372036854775807 ≤ NI := by have := HI.out.2.1; have := HI.out.2.2.2.2; omega
          clear hNI1
          obtain ⟨y1, y2, y3, y4⟩ := Hyes.out n (-NI) hn HI.out.2.2.2.2 (by have := HI.out.2.1; simp only [Bool.false_eq_true, if_false]; rw [if_neg hmin]; omega)
          have Hd : Hid (∀ W : World, Calls Tryz.prog 43 #[.int .i64 (-NI)] W fun e w' => e = .returned (.string ⟨(Lib.itoa (-NI)).toArray⟩) ∧ Below W.heap.size W w') := Lib.hid fun W => digitsV_any _ W (-NI) rfl y3 y4
          generalize (⟨(Lib.itoa (-NI)).toArray⟩ : ByteArray) = X at *
          have Hok := Lib.hid y1
          have Hpv := Lib.hid y2
          clear y1 y2 y3 y4 hn hm hj hiP
          subst hIP
          go_wp2_with fail
          refine (Hd.out w).mono ?_
          rintro e w2 ⟨rfl, hb2⟩
          go_wp2_with fail
          go_ret2
          exact ⟨_, by rw [Hok.out]; rfl, Hpv.out, hb2⟩
      · have hiP : j < P := by omega
        have hI0 : 0 ≤ I := by have := HI.out.1; omega
        have hI1 : I < (P : Int) := by have := HI.out.1; omega
        have hIn : I.toNat = j := by have := HI.out.1; omega
        obtain ⟨c, hc1, hc2⟩ := hget.out j hiP (by rw [hTs]; exact hiP)
        have Hc1 := Lib.hid hc1
        have Hj := Lib.hid hj; have Hm := Lib.hid hm; have HiP := Lib.hid hiP
        have hc256 := c.toNat_lt
        clear hc1 hj hm
        by_cases hlo : (c.toNat : Int) < 48
        · have hno := Hno.out (.inr (.inr (.inl ⟨c, List.mem_of_getElem? Hc1.out, by unfold isDig; omega⟩)))
          have HN := Lib.hid hno; clear hno hc256
          go_wp2_with fail
          go_ret2
          exact ⟨0, by rw [HN.out]; rfl, fun h => absurd h (by rw [HN.out]; decide), Below.refl _ _⟩
        by_cases hhi : 57 < (c.toNat : Int)
        · have hno := Hno.out (.inr (.inr (.inl ⟨c, List.mem_of_getElem? Hc1.out, by unfold isDig; omega⟩)))
          have HN := Lib.hid hno; clear hno hc256
          go_wp2_with fail
          go_ret2
          exact ⟨0, by rw [HN.out]; rfl, fun h => absurd h (by rw [HN.out]; decide), Below.refl _ _⟩
        have hdig : Lib.digitVal c = some (c.toNat - 48) := by unfold Lib.digitVal; rw [if_pos ⟨by omega, by omega⟩]
        have hnext := Lib.decFrom_take d j 0 n c _ HI.out.2.2.1 Hc1.out hdig
        have hlo2 : 48 ≤ (c.toNat : Int) := by omega
        have hhi2 : (c.toNat : Int) ≤ 57 := by omega
        clear hdig hlo hhi
        by_cases hov : n * 10 + (c.toNat - 48) ≤ 9223372036854775808
        · have HD : Hid (NInvP d (j + 1) (n * 10 + (c.toNat - 48)) (I + 1) (10 * NI - ((c.toNat : Int) - 48))) := Lib.hid ⟨by have := HI.out.1; omega, by have := HI.out.2.1; omega, hnext, by have := HI.out.2.2.2.1; rw [Nat.pow_succ]; omega, hov⟩
          have b1 : -922337203685477580 ≤ NI := by have := HI.out.2.1; omega
          have b2 : -9223372036854775808 ≤ 10 * NI - ((c.toNat : Int) - 48) := by have := HI.out.2.1; omega
          have b3 : 10 * NI - ((c.toNat : Int) - 48) ≤ 0 := by omega
          clear hov hnext hc256
          go_wp2_with fail
          go_roundg (P - (j + 1))
          case measure => have := Hj.out; have := Hm.out; omega
          case rel => exact ⟨j + 1, _, I + 1, _, by have := Hj.out; have := Hm.out; omega, HD, by go_num, by go_num, rfl⟩
        · have HN := Lib.hid (Hno.out (.inr (.inr (.inr ⟨j + 1, _, hnext, by omega⟩))))
          have hlt : n < 1000000000000000000 := by
            have h1 := HI.out.2.2.2.1
            have h3 : 10 ^ j ≤ 10 ^ 18 := Nat.pow_le_pow_right (by decide) (by have := HP.out; have := HiP.out; omega)
            omega
          obtain ⟨M1, hM1⟩ : ∃ M1, wrap64 (10 * NI) = M1 := ⟨_, rfl⟩
          obtain ⟨M2, hM2⟩ : ∃ M2, wrap64 (M1 - ((c.toNat : Int) - 48)) = M2 := ⟨_, rfl⟩
          have hM3 : 0 < M2 := by
            have := HI.out.2.1
            rw [← hM2, ← hM1]
            unfold wrap64
            omega
          clear hov hnext hc256 hlt
          go_wp2_with fail
          go_ret2
          exact ⟨0, by rw [HN.out]; rfl, fun h => absurd h (by rw [HN.out]; decide), Below.refl _ _⟩
end Go.Proofs.YtfniehgggbobaaaGreatDoor
