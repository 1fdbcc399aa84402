/- Joined texts: Vq1; Vm0; Vq2; Vw0; Vw1; Vw2; Lq0; Lq1; Lq2; Lq3; Lq4; Lq5. -/
import Derived.Test.YthhghlnbpigcjaaGreatDoorYGE
import Derived.Test.YthhghlnbpigcjaaGreatDoorYGD
import Derived.Test.YthhghlnbpigcjaaGreatDoorYGL
import Derived.Deep.CutRange
import Derived.Deep.CutBlock
set_option linter.unusedVariables false
set_option linter.unusedSimpArgs false
namespace Go.Proofs.YthhghlnbpigcjaaGreatDoor
open Go.RowKit

set_option maxHeartbeats 800000 in
set_option maxRecDepth 10000 in
theorem digitsV_any (k : Nat) : ∀ (w : World) (n : Int), n.natAbs = k → -9223372036854775808 ≤ n → n ≤ 9223372036854775807 →
    Calls Tryz.prog 50 #[.int .i64 n] w fun e w' => e = .returned (.string ⟨(Lib.itoa n).toArray⟩) ∧ Below w.heap.size w w' := by
  induction k using Nat.strongRecOn with
  | _ k ih =>
    intro w n hk h0 h1
    by_cases hn : 0 ≤ n
    · have H1 := Lib.hid (digits_any w n (by omega) h1)
      generalize Lib.itoa n = X at *
      clear ih hk
      go_enter Tryz.func50, Tryz.ntmps50
      go_wp2_with fail
      refine H1.out.mono ?_
      rintro e w1 ⟨rfl, hb⟩
      go_wp2_with fail
      go_ret
      exact ⟨rfl, hb⟩
    · have hi : Lib.itoa n = 45 :: Lib.decDigits n.natAbs := by unfold Lib.itoa; rw [if_pos (by omega)]
      by_cases h10 : -10 < n
      · have H1 : Hid (∀ W : World, Calls Tryz.prog 71 #[.int .i64 (-n)] W fun e w' => e = .returned (.string ⟨(Lib.decDigits n.natAbs).toArray⟩) ∧ Below W.heap.size W w') := Lib.hid fun W => by
          have := digits_nat (-n).toNat W (-n) rfl (by omega) (by omega)
          rwa [show (-n).toNat = n.natAbs from by omega] at this
        have l1 := decDigits_len20 n.natAbs (by omega)
        have hadd := add_lists [45] (Lib.decDigits n.natAbs) (by simp; omega)
        have HI := Lib.hid hi
        clear hi l1 ih hk
        generalize Lib.itoa n = X at *
        generalize Lib.decDigits n.natAbs = Y at *
        go_enter Tryz.func50, Tryz.ntmps50
        go_wp2_with fail
        refine (H1.out w).mono ?_
        rintro e w1 ⟨rfl, hb⟩
        go_wp2_with fail
        go_ret
        exact ⟨by rw [HI.out]; rfl, hb⟩
      · have hq : n.tdiv 10 = -((n.natAbs / 10 : Nat) : Int) := by
          rw [show n = -((n.natAbs : Nat) : Int) from by omega, Int.neg_tdiv, Int.tdiv_eq_ediv_of_nonneg (by omega)]
          omega
        have hr : n.tmod 10 = -((n.natAbs % 10 : Nat) : Int) := by
          rw [show n = -((n.natAbs : Nat) : Int) from by omega, Int.neg_tmod, Int.tmod_eq_emod_of_nonneg (by omega)]
          omega
        obtain ⟨q, hq2⟩ : ∃ q : Int, q = n.tdiv 10 := ⟨_, rfl⟩
        obtain ⟨r, hr2⟩ : ∃ r : Int, r = n.tmod 10 := ⟨_, rfl⟩
        rw [← hq2] at hq
        rw [← hr2] at hr
        have H1 : Hid (∀ W : World, Calls Tryz.prog 50 #[.int .i64 q] W fun e w' => e = .returned (.string ⟨(Lib.itoa q).toArray⟩) ∧ Below W.heap.size W w') := Lib.hid fun W => ih q.natAbs (by omega) W q rfl (by omega) (by omega)
        have H2 : Hid (∀ W : World, Calls Tryz.prog 71 #[.int .i64 (-r)] W fun e w' => e = .returned (.string ⟨(Lib.decDigits (n.natAbs % 10)).toArray⟩) ∧ Below W.heap.size W w') := Lib.hid fun W => by
          have := digits_nat (-r).toNat W (-r) rfl (by omega) (by omega)
          rwa [show (-r).toNat = n.natAbs % 10 from by omega] at this
        have hiq : Lib.itoa q = 45 :: Lib.decDigits (n.natAbs / 10) := by
          unfold Lib.itoa
          rw [if_pos (by omega), show q.natAbs = n.natAbs / 10 from by omega]
        have hall : Lib.itoa n = Lib.itoa q ++ Lib.decDigits (n.natAbs % 10) := by
          rw [hi, hiq, decDigits_split n.natAbs (by omega)]; rfl
        have l1 := decDigits_len20 (n.natAbs / 10) (by omega)
        have l2 := decDigits_len20 (n.natAbs % 10) (by omega)
        have hadd := add_lists (Lib.itoa q) (Lib.decDigits (n.natAbs % 10)) (by rw [hiq]; simp; omega)
        have HA := Lib.hid hall
        have hq0 : -922337203685477581 ≤ q := by omega
        have hq1 : q ≤ 0 := by omega
        have hr0 : -10 < r := by omega
        have hr1 : r ≤ 0 := by omega
        have hq2' := hq2.symm
        have hr2' := hr2.symm
        clear hi hiq l1 l2 ih hk hall hq hr hq2 hr2
        generalize Lib.itoa n = X at *
        generalize Lib.itoa q = Y at *
        generalize Lib.decDigits (n.natAbs % 10) = Z at *
        go_enter Tryz.func50, Tryz.ntmps50
        go_wp2_with fail
        refine (H1.out w).mono ?_
        rintro e w1 ⟨rfl, hb⟩
        go_wp2_with fail
        refine (H2.out w1).mono ?_
        rintro e w2 ⟨rfl, hb2⟩
        have hbb := hb.trans (hb2.mono hb.size)
        go_wp2_with fail
        go_ret
        exact ⟨by rw [HA.out]; rfl, hbb⟩
end Go.Proofs.YthhghlnbpigcjaaGreatDoor
namespace Go.Proofs.YthhghlnbpigcjaaGreatDoor
open Go.RowKit

theorem below_box1 (w : World) (o : Obj) : Below w.heap.size w (w.alloc o) := (Below.refl _ _).alloc (Nat.le_refl _) _
end Go.Proofs.YthhghlnbpigcjaaGreatDoor
namespace Go.Proofs.YthhghlnbpigcjaaGreatDoor
open Go.RowKit

set_option maxHeartbeats 8000000 in
set_option maxRecDepth 100000 in
theorem printVR_any (w : World) (x : Val) (hx : x.Wf) :
    Calls Tryz.prog 33 #[x.v] w fun e w' => e = .returned (.string ⟨(printVL (rightOf x)).toArray⟩) ∧ Below w.heap.size w w' := by
  have Hr : Hid (∀ W : World, Calls Tryz.prog 49 #[x.v] W fun e w' => e = .returned (rightOf x).v ∧ Below W.heap.size W w') := Lib.hid fun W => rightofR_any W x hx.f0 hx.f1
  have hw2 := right_wf x hx
  have hs3 := right_s x
  have Ht := Lib.hid (At.new w x.k x.n x.s x.f 27)
  have Hb0 := Lib.hid (below_box1 w (.cells #[.int .i64 x.k, .int .i64 x.n, .string x.s, .int .u64 x.f] 27))
  generalize rightOf x = y at *
  obtain ⟨xk, xn, sx, xf⟩ := x
  obtain ⟨k, n, s, f⟩ := y
  obtain ⟨-, -, n0, n1, f0, f1⟩ := hw2
  have hp : printVL ⟨k, n, s, f⟩ = if k = 1 then Lib.itoa n else if k = 2 then (if n = 1 then tTrue else tFalse) else if k = 3 then 120 :: hexL s.data.toList else if k = 4 then printL f.toNat else tNull := rfl
  have hx2 := hp
  have HX := Lib.hid hp
  generalize printVL ⟨k, n, s, f⟩ = Z at *
  clear hp hx hx2
  simp only [Val.v] at *
  go_enter Tryz.func33, Tryz.ntmps33
  go_wp2_with fail
  generalize (w.alloc _) = W0 at Ht Hb0 ⊢
  refine (Hr.out W0).mono ?_
  rintro e w1 ⟨rfl, hb⟩
  have T2 := At.new w1 k n s f 27
  have hb2 := (Hb0.out.trans (hb.mono Hb0.out.size)).alloc (Nat.le_trans Hb0.out.size hb.size) (.cells #[.int .i64 k, .int .i64 n, .string s, .int .u64 f] 27)
  have HT2 := Lib.hid T2; have Hb3 := Lib.hid hb2
  clear T2 hb2 hb
  go_upto_region 2 with fail
  generalize (w1.alloc _) = W2 at HT2 Hb3 ⊢
  generalize w1.heap.size = C at *
  obtain ⟨e0, e1, e2, e3, -, -⟩ := HT2.out
  clear Ht Hb0 Hr
  by_cases h1 : k = 1
  · subst h1
    have hx := HX.out
    rw [if_pos rfl] at hx
    have HZ := Lib.hid hx
    clear hx HX
    have Hc := Lib.hid (digitsV_any n.natAbs W2 n rfl n0 n1)
    clear hs3 n0 n1 f0 f1
    generalize Lib.itoa n = X at *
    go_wp2_with fail
    refine Hc.out.mono ?_
    rintro e w3 ⟨rfl, hb⟩
    have hbb := Hb3.out.trans (hb.mono Hb3.out.size)
    go_wp2_with fail
    go_ret
    exact ⟨by rw [HZ.out]; rfl, hbb⟩
  have k1 : (k == 1) = false := by rw [beq_eq_false_iff_ne]; exact h1
  have hx := HX.out
  rw [if_neg h1] at hx
  by_cases h2 : k = 2
  · subst h2
    rw [if_pos rfl] at hx
    by_cases hn : n = 1
    · subst hn
      rw [if_pos rfl] at hx
      have HZ := Lib.hid hx
      clear hx HX
      clear hs3 n0 n1 f0 f1 k1 h1
      go_wp2_with fail
      go_ret
      exact ⟨by rw [HZ.out]; rfl, Hb3.out⟩
    · rw [if_neg hn] at hx
      have HZ := Lib.hid hx
      clear hx HX
      have hn2 : (n == 1) = false := by rw [beq_eq_false_iff_ne]; exact hn
      clear hs3 n0 n1 f0 f1 k1 h1 hn
      go_wp2_with fail
      go_ret
      exact ⟨by rw [HZ.out]; rfl, Hb3.out⟩
  have k2 : (k == 2) = false := by rw [beq_eq_false_iff_ne]; exact h2
  rw [if_neg h2] at hx
  by_cases h3 : k = 3
  · subst h3
    rw [if_pos rfl] at hx
    have HZ := Lib.hid hx
    clear hx HX
    have hs := hs3 rfl
    obtain ⟨N, hN⟩ : ∃ N, s.size = N := ⟨_, rfl⟩
    obtain ⟨l, hl⟩ : ∃ l, l = s.data.toList := ⟨_, rfl⟩
    have hlN : l.length = N := by rw [hl, ← hN, Lib.size_eq]
    have HZ2 : Hid (Z = 120 :: hexL l) := Lib.hid (by rw [HZ.out, hl])
    have Hl := Lib.hid hl; have HlN := Lib.hid hlN
    have hN64 : N ≤ 64 := by omega
    have HN64 := Lib.hid hN64
    clear hs3 n0 n1 f0 f1 k1 h1 k2 h2 hs HZ hl hlN hN64
    go_wp2_with fail
    go_loopg [4, 5] N (fun mm sv i wr => ∃ (j : Nat) (I : Int) (X : List UInt8), j + mm = N ∧ Hid (I = (j : Int) ∧ X = 120 :: hexL (l.take j)) ∧ sv = .string ⟨X.toArray⟩ ∧ i = .int .i64 I ∧ ∃ q, wr = W2.drewN q)
    case atStart => exact ⟨0, 0, [120], by omega, Lib.hid ⟨rfl, rfl⟩, rfl, rfl, 0, rfl⟩
    case round =>
      obtain ⟨j, I, X, hj, HI, rfl, rfl, q, rfl⟩ := hrel
      have hI0 : 0 ≤ I := by have := HI.out.1; omega
      by_cases hm : gk = 0
      · have hI1 : ¬ I < (N : Int) := by have := HI.out.1; omega
        have hX : X = Z := by
          rw [HZ2.out, HI.out.2, List.take_of_length_le (by rw [HlN.out]; omega)]
        have HX3 := Lib.hid hX
        clear hm hj hX
        go_wp2_with fail
        go_ret
        exact ⟨by rw [← HX3.out]; rfl, below_drewN Hb3.out _⟩
      · have hI1 : I < (N : Int) := by have := HI.out.1; omega
        have hIj : I.toNat = j := by have := HI.out.1; omega
        have hjs : j < s.size := by omega
        have hN64 := HN64.out
        have hI64 : I ≤ 64 := by omega
        obtain ⟨c, hc⟩ : ∃ c, s[j] = c := ⟨_, rfl⟩
        have hlc : l[j]? = some c := by rw [Hl.out, byte_at s j hjs, hc]
        obtain ⟨hi, hhi⟩ : ∃ hi, c.toNat / 16 = hi := ⟨_, rfl⟩
        obtain ⟨lo, hlo⟩ : ∃ lo, c.toNat % 16 = lo := ⟨_, rfl⟩
        have hc256 := c.toNat_lt
        have hhi16 : hi < 16 := by omega
        have hlo16 : lo < 16 := by omega
        have c1 := digit16_cut hi hhi16
        have c2 := digit16_cut lo hlo16
        have d1 : (c.toNat : Int) / 16 = (hi : Int) := by omega
        have d2 : (c.toNat : Int).tdiv 16 = (hi : Int) := by rw [Int.tdiv_eq_ediv_of_nonneg (by omega)]; exact d1
        have d3 : (c.toNat : Int).tmod 16 = (lo : Int) := by rw [Int.tmod_eq_emod_of_nonneg (by omega)]; omega
        have u1 : IntKind.u8.wrap ((hi : Int) + 1) = (hi : Int) + 1 := by rw [IntKind.wrap_u8]; omega
        have u2 : IntKind.u8.wrap ((lo : Int) + 1) = (lo : Int) + 1 := by rw [IntKind.wrap_u8]; omega
        have v1 : ((hi : Int) + 1).toNat = hi + 1 := by omega
        have v2 : ((lo : Int) + 1).toNat = lo + 1 := by omega
        have t1 : ((hi : Int)).toNat = hi := by omega
        have t2 : ((lo : Int)).toNat = lo := by omega
        have i1 : (hi : Int) < 16 := by omega
        have i2 : (lo : Int) < 16 := by omega
        have i3 : (0 : Int) ≤ (hi : Int) := by omega
        have i4 : (0 : Int) ≤ (lo : Int) := by omega
        have g1 : IntKind.u8.wrap (hi : Int) = (hi : Int) := by rw [IntKind.wrap_u8]; omega
        have g2 : IntKind.u8.wrap (lo : Int) = (lo : Int) := by rw [IntKind.wrap_u8]; omega
        have y1 : (0 : Int) ≤ (hi : Int) + 1 := by omega
        have y2 : (hi : Int) + 1 ≤ 16 := by omega
        have y3 : (hi : Int) ≤ (hi : Int) + 1 := by omega
        have y4 : (0 : Int) ≤ (lo : Int) + 1 := by omega
        have y5 : (lo : Int) + 1 ≤ 16 := by omega
        have y6 : (lo : Int) ≤ (lo : Int) + 1 := by omega
        have sl1 : ∀ W : World, (Instr.sliceAt 9 (.string digits16) (some (.int .u8 (hi : Int))) (some (.int .u8 ((hi : Int) + 1))) none).run Tryz.prog W = .ok (.string ⟨#[dig hi]⟩) W := by
          intro W
          rw [run_sliceAt_string W _ _ _ _ _ Tryz.underlying9, run_slice_string W _ _ _ _ _ _ Tryz.underlying9 (by omega) (by omega) (by show (hi : Int) + 1 ≤ ((16 : Nat) : Int); omega), t1, v1, c1]
        have sl2 : ∀ W : World, (Instr.sliceAt 9 (.string digits16) (some (.int .u8 (lo : Int))) (some (.int .u8 ((lo : Int) + 1))) none).run Tryz.prog W = .ok (.string ⟨#[dig lo]⟩) W := by
          intro W
          rw [run_sliceAt_string W _ _ _ _ _ Tryz.underlying9, run_slice_string W _ _ _ _ _ _ Tryz.underlying9 (by omega) (by omega) (by show (lo : Int) + 1 ≤ ((16 : Nat) : Int); omega), t2, v2, c2]
        have hstep : X ++ [dig hi, dig lo] = 120 :: hexL (l.take (j + 1)) := by
          rw [HI.out.2, take_snoc hlc, hexL_append, ← hhi, ← hlo]; rfl
        have hlen : X.length ≤ 200 := by
          rw [HI.out.2, List.length_cons, hexL_length, List.length_take]; omega
        have add1 := add_lists [dig hi] [dig lo] (by simp)
        have add2 := add_lists X [dig hi, dig lo] (by simp; omega)
        have Hstep := Lib.hid hstep
        have Hj := Lib.hid hj; have Hm := Lib.hid hm
        clear hstep hj hm hlc hhi hlo hlen hc256
        go_wp2_with fail
        go_quiet (fail)
        go_wp2_with fail
        go_roundg (N - (j + 1))
        case measure => have := Hj.out; have := Hm.out; omega
        case rel => exact ⟨j + 1, I + 1, X ++ [dig hi, dig lo], by have := Hj.out; have := Hm.out; omega, Lib.hid ⟨by have := HI.out.1; omega, Hstep.out⟩, by first | rfl | simp, by go_num, _, rfl⟩
  have k3 : (k == 3) = false := by rw [beq_eq_false_iff_ne]; exact h3
  rw [if_neg h3] at hx
  by_cases h4 : k = 4
  · subst h4
    rw [if_pos rfl] at hx
    have HZ := Lib.hid hx
    clear hx HX
    have Hc := Lib.hid (printR_any W2 f f0 f1)
    generalize printL f.toNat = X at *
    clear hs3 n0 n1 f0 f1 k1 h1 k2 h2 k3 h3
    go_wp2_with fail
    refine Hc.out.mono ?_
    rintro e w3 ⟨rfl, hb⟩
    have hbb := Hb3.out.trans (hb.mono Hb3.out.size)
    go_wp2_with fail
    go_ret
    exact ⟨by rw [HZ.out]; rfl, hbb⟩
  have k4 : (k == 4) = false := by rw [beq_eq_false_iff_ne]; exact h4
  rw [if_neg h4] at hx
  have HZ := Lib.hid hx
  clear hx HX
  clear hs3 n0 n1 f0 f1
  go_wp2_with fail
  go_ret
  exact ⟨by rw [HZ.out]; rfl, Hb3.out⟩

end Go.Proofs.YthhghlnbpigcjaaGreatDoor
namespace Go.Proofs.YthhghlnbpigcjaaGreatDoor
open Go.RowKit

def numOk (l : List UInt8) : Bool := match atoiO l with
  | some v => Lib.itoa v == l
  | none => false
def numV (l : List UInt8) : Int := match atoiO l with
  | some v => v
  | none => 0
theorem num_itoa (n : Int) (h0 : -9223372036854775808 ≤ n) (h1 : n ≤ 9223372036854775807) : numOk (Lib.itoa n) = true ∧ numV (Lib.itoa n) = n := by
  unfold numOk numV
  rw [atoiO_itoa n h0 h1]
  exact ⟨by simp, rfl⟩
theorem num_back {l : List UInt8} (h : numOk l = true) : l = Lib.itoa (numV l) ∧ -9223372036854775808 ≤ numV l ∧ numV l ≤ 9223372036854775807 := by
  unfold numOk at h
  unfold numV
  cases hv : atoiO l with
  | none => rw [hv] at h; cases h
  | some v =>
    rw [hv] at h
    have hb := Lib.atoiAll_bounds (atoiO_some hv)
    exact ⟨(beq_iff_eq.1 h).symm, hb.1, hb.2⟩
/-- the digits of a number's text -/
def signed2 (l d : List UInt8) (neg : Bool) : Prop := (neg = true ∧ l = 45 :: d) ∨ (neg = false ∧ l = d ∧ l.head? ≠ some 45)
theorem decDigits_len19 (u : Nat) (h : u < 10 ^ 19) : (Lib.decDigits u).length ≤ 19 := by
  have key : ∀ k u, u < 10 ^ (k + 1) → (Lib.decDigits u).length ≤ k + 1 := by
    intro k
    induction k with
    | zero =>
      intro u h
      rw [Lib.decDigits, dif_pos (by omega)]
      simp
    | succ k ih =>
      intro u h
      rw [Lib.decDigits]
      split
      · simp
      · rw [List.length_append, List.length_singleton]
        have := ih (u / 10) (by rw [Nat.pow_succ] at h; omega)
        omega
  exact key 18 u h
theorem num_digits {l d : List UInt8} {neg : Bool} (hs : signed2 l d neg) (h : numOk l = true) : d = Lib.decDigits (numV l).natAbs ∧ (neg = true ↔ numV l < 0) := by
  obtain ⟨h1, h2, h3⟩ := num_back h
  generalize numV l = n at *
  unfold Lib.itoa at h1
  split at h1
  · rename_i hn
    rcases hs with ⟨e1, e2⟩ | ⟨e1, e2, e3⟩
    · rw [e2] at h1
      injection h1 with _ h1
      exact ⟨h1, by rw [e1]; simp; exact hn⟩
    · rw [h1] at e3
      exact absurd rfl e3
  · rename_i hn
    rcases hs with ⟨e1, e2⟩ | ⟨e1, e2, e3⟩
    · have := decDigits_dig n.toNat 45 (by rw [← h1, e2]; exact List.mem_cons_self ..)
      unfold isDig at this
      exact absurd this (by decide)
    · refine ⟨?_, ?_⟩
      · rw [← e2, h1]; congr 1; omega
      · rw [e1]; constructor
        · intro h; cases h
        · intro h; omega
theorem num_no {l d : List UInt8} {neg : Bool} (hs : signed2 l d neg) (h : d = [] ∨ 19 < d.length ∨ (∃ c ∈ d, ¬ isDig c) ∨ (∃ j n, Lib.decFrom 0 (d.take j) = some n ∧ 9223372036854775808 < n)) : numOk l = false := by
  cases hk : numOk l with
  | false => rfl
  | true =>
    exfalso
    obtain ⟨h1, h2⟩ := num_digits hs hk
    obtain ⟨-, h3, h4⟩ := num_back hk
    generalize numV l = n at *
    rcases h with e | e | ⟨c, e1, e2⟩ | ⟨j, m, e1, e2⟩
    · rw [h1] at e; exact decDigits_ne _ e
    · have := decDigits_len19 n.natAbs (by omega)
      rw [← h1] at this; omega
    · rw [h1] at e1; exact e2 (decDigits_dig _ _ e1)
    · have h5 := decFrom_dec n.natAbs
      rw [← h1, ← List.take_append_drop j d, decFrom_append _ _ _ _ e1] at h5
      have := decFrom_le _ _ _ h5
      omega
theorem num_yes {l d : List UInt8} {neg : Bool} {n : Nat} {v : Int} (hs : signed2 l d neg) (hn : Lib.decFrom 0 d = some n) (hlt : n ≤ 9223372036854775808) (hv : v = if neg then -(n : Int) else if n = 9223372036854775808 then -9223372036854775808 else n) :
    numOk l = ((⟨(Lib.itoa v).toArray⟩ : ByteArray).toList == l) ∧ (numOk l = true → v = numV l) ∧ -9223372036854775808 ≤ v ∧ v ≤ 9223372036854775807 := by
  have hr : -9223372036854775808 ≤ v ∧ v ≤ 9223372036854775807 := by
    rw [hv]
    cases neg
    · simp only [Bool.false_eq_true, if_false]; split <;> omega
    · simp only [if_true]; omega
  have hyes : numOk l = true → v = numV l := by
    intro h
    obtain ⟨h1, h2⟩ := num_digits hs h
    obtain ⟨-, h3, h4⟩ := num_back h
    have h5 := decFrom_dec (numV l).natAbs
    rw [← h1, hn] at h5
    injection h5 with h5
    rw [hv]
    cases neg
    · simp only [Bool.false_eq_true, if_false]
      have : ¬ numV l < 0 := fun h => by have := h2.2 h; cases this
      rw [if_neg (by omega)]; omega
    · simp only [if_true]
      have := h2.1 rfl
      omega
  refine ⟨?_, hyes, hr⟩
  rw [mk_toList]
  cases hk : numOk l with
  | true =>
    rw [hyes hk]
    have := (num_back hk).1
    symm
    rw [beq_iff_eq]
    exact this.symm
  | false =>
    symm
    rw [beq_eq_false_iff_ne]
    intro e
    have := (num_itoa v hr.1 hr.2).1
    rw [e, hk] at this
    cases this
def NumEnds (w w' : World) (e : Ending) (l : List UInt8) : Prop := ∃ v : Int, e = .returned (.tuple #[.int .i64 v, .bool (numOk l)]) ∧ (numOk l = true → v = numV l) ∧ Below w.heap.size w w'
def NInvP (d : List UInt8) (j n : Nat) (I NI : Int) : Prop := I = (j : Int) ∧ NI = -(n : Int) ∧ Lib.decFrom 0 (d.take j) = some n ∧ n < 10 ^ j ∧ n ≤ 9223372036854775808
set_option maxHeartbeats 8000000 in
set_option maxRecDepth 100000 in
theorem numberR_any (w : World) (s : ByteArray) (hs : s.size ≤ 100000) :
    Calls Tryz.prog 61 #[.string s] w fun e w' => NumEnds w w' e s.data.toList := by
  obtain ⟨l, hl⟩ : ∃ l, l = s.data.toList := ⟨_, rfl⟩
  have hlen : l.length = s.size := by rw [hl, Lib.size_eq]
  by_cases h0 : s.size = 0
  · have hl0 : l = [] := List.length_eq_zero_iff.1 (by omega)
    have hs0 : s = ⟨#[]⟩ := bytes_eq (by rw [← hl, hl0])
    have hno : numOk s.data.toList = false := by rw [← hl, hl0]; rfl
    have Hno := Lib.hid hno
    subst hs0
    clear hl hlen h0 hl0 hno hs
    go_enter Tryz.func61, Tryz.ntmps61
    go_wp2_with fail
    go_ret2
    exact ⟨0, by rw [Hno.out]; rfl, fun h => absurd h (by rw [Hno.out]; decide), Below.refl _ _⟩
  have h0s : 0 < s.size := by omega
  obtain ⟨c0, r, hlr⟩ : ∃ c0 r, l = c0 :: r := by
    cases hdc : l with
    | nil => rw [hdc] at hlen; simp at hlen; omega
    | cons c0 r => exact ⟨c0, r, rfl⟩
  have hs0 : s[0] = c0 := by
    have h5 := byte_at s 0 h0s
    rw [← hl, hlr] at h5
    exact (Option.some.inj h5).symm
  have hne : (s.toList == []) = false := by
    rw [beq_eq_false_iff_ne, ByteArray.toList_eq, ← hl, hlr]; simp
  have hne2 : (s.toList != []) = true := by unfold bne; rw [hne]; rfl
  obtain ⟨N, hN⟩ : ∃ N, s.size = N := ⟨_, rfl⟩
  have hNx : ∃ (T : ByteArray) (P : Nat) (neg : Bool), T.size = P ∧ P ≤ 100000 ∧ signed2 l T.data.toList neg ∧ ((c0.toNat : Int) == 45) = neg ∧ (neg = true → s.extract 1 N = T) ∧ (neg = false → s = T ∧ P = N) := by
    by_cases h45 : c0 = 45
    · have hT : (s.extract 1 N).data.toList = r := by
        rw [← ByteArray.toList_eq, Lib.extract_toList, ← hl, hlr]
        have : r.length + 1 = N := by rw [hlr] at hlen; simp at hlen; omega
        simp only [List.drop_succ_cons, List.drop_zero]
        rw [List.take_of_length_le (by omega)]
      refine ⟨s.extract 1 N, (s.extract 1 N).size, true, rfl, ?_, ?_, ?_, fun _ => rfl, fun h => (by cases h)⟩
      · rw [Lib.size_eq, hT]
        rw [hlr] at hlen; simp at hlen; omega
      · rw [hT]; exact .inl ⟨rfl, by rw [hlr, h45]⟩
      · rw [h45]; decide
    · refine ⟨s, N, false, hN, by omega, ?_, ?_, fun h => (by cases h), fun _ => ⟨rfl, rfl⟩⟩
      · refine .inr ⟨rfl, hl, ?_⟩
        rw [hlr]
        intro e
        exact h45 (Option.some.inj e)
      · rw [beq_eq_false_iff_ne]
        intro e
        exact h45 (UInt8.toNat_inj.1 (by simp; omega))
  obtain ⟨T, P, neg, hTs, hP, hsg, hc45, hneg, hpos⟩ := hNx
  obtain ⟨d, hd⟩ : ∃ d, d = T.data.toList := ⟨_, rfl⟩
  rw [← hd] at hsg
  have hdl : d.length = P := by rw [hd, ← Lib.size_eq]; exact hTs
  have hget : Hid (∀ i, i < P → ∀ h : i < T.size, ∃ c, d[i]? = some c ∧ T[i] = c) := by
    refine Lib.hid fun i hi h => ⟨T[i], ?_, rfl⟩
    rw [hd]; exact byte_at T i h
  have Hno : Hid ((d = [] ∨ 19 < d.length ∨ (∃ c ∈ d, ¬ isDig c) ∨ (∃ j n, Lib.decFrom 0 (d.take j) = some n ∧ 9223372036854775808 < n)) → numOk s.data.toList = false) := Lib.hid fun h => by
    have := num_no hsg h; rwa [hl] at this
  have Hyes : Hid (∀ (n : Nat) (v : Int), Lib.decFrom 0 d = some n → n ≤ 9223372036854775808 → v = (if neg then -(n : Int) else if n = 9223372036854775808 then -9223372036854775808 else n) → numOk s.data.toList = ((⟨(Lib.itoa v).toArray⟩ : ByteArray).toList == s.toList) ∧ (numOk s.data.toList = true → v = numV s.data.toList) ∧ -9223372036854775808 ≤ v ∧ v ≤ 9223372036854775807) := Lib.hid fun n v h1 h2 h3 => by
    have := num_yes hsg h1 h2 h3
    rw [hl] at this
    rwa [ByteArray.toList_eq s]
  have hP0 : P = 0 → (T.toList == []) = true := fun e => by rw [ByteArray.toList_eq, ← hd, List.length_eq_zero_iff.1 (show d.length = 0 by omega)]; rfl
  have hP1 : P ≠ 0 → (T.toList == []) = false := fun e => by
    rw [beq_eq_false_iff_ne, ByteArray.toList_eq, ← hd]; intro e2; rw [e2] at hdl; exact e hdl.symm
  have Hdl := Lib.hid hdl
  have HP0 := Lib.hid hP0
  have HP1 := Lib.hid hP1
  clear hs hsg hdl hd hlr hlen h0 hP0 hP1
  clear hl
  obtain ⟨L, hL⟩ : ∃ L, L = numOk s.data.toList := ⟨_, rfl⟩
  have hN1 : 1 ≤ N := by omega
  cases neg with
  | true =>
    have hS2 := hneg rfl
    clear hneg hpos
    by_cases hp0 : P = 0
    · have ht1 := HP0.out hp0
      have HN := Lib.hid (Hno.out (.inl (List.length_eq_zero_iff.1 (by rw [Hdl.out]; exact hp0))))
      clear HP0 HP1 hp0
      go_enter Tryz.func61, Tryz.ntmps61
      go_wp2_with fail
      go_ret2
      exact ⟨0, by rw [HN.out]; rfl, fun h => absurd h (by rw [HN.out]; decide), Below.refl _ _⟩
    have ht1 := HP1.out hp0
    by_cases hp19 : 19 < P
    · have HN := Lib.hid (Hno.out (.inr (.inl (by rw [Hdl.out]; exact hp19))))
      have hp19i : 19 < (P : Int) := by omega
      clear HP0 HP1 hp0 hp19
      go_enter Tryz.func61, Tryz.ntmps61
      go_wp2_with fail
      go_ret2
      exact ⟨0, by rw [HN.out]; rfl, fun h => absurd h (by rw [HN.out]; decide), Below.refl _ _⟩
    have hp19i : ¬ 19 < (P : Int) := by omega
    have HP := Lib.hid (show P ≤ 19 by omega)
    clear HP0 HP1 hp0 hp19
    go_enter Tryz.func61, Tryz.ntmps61
    go_wp2_with fail
    go_loopg [6, 7] P (fun mm nv iv wr => ∃ (j n : Nat) (I NI : Int), j + mm = P ∧ Hid (NInvP d j n I NI) ∧ nv = .int .i64 NI ∧ iv = .int .i64 I ∧ w = wr)
    case atStart => exact ⟨0, 0, 0, 0, by omega, Lib.hid ⟨rfl, rfl, rfl, by decide, by decide⟩, rfl, rfl, rfl⟩
    case round =>
      obtain ⟨j, n, I, NI, hj, HI, rfl, rfl, rfl⟩ := hrel
      have hNI0 : NI ≤ 0 := by have := HI.out.2.1; omega
      have hNI1 : -9223372036854775808 ≤ NI := by have := HI.out.2.1; have := HI.out.2.2.2.2; omega
      by_cases hm : gk = 0
      · have hiP : j = P := by omega
        have hIP : I = (P : Int) := by have := HI.out.1; omega
        have hn : Lib.decFrom 0 d = some n := by
          have := HI.out.2.2.1
          rwa [List.take_of_length_le (by rw [Hdl.out, hiP]; exact Nat.le_refl _)] at this
        obtain ⟨y1, y2, y3, y4⟩ := Hyes.out n NI hn HI.out.2.2.2.2 (by have := HI.out.2.1; simp only [if_true]; omega)
        have Hd : Hid (∀ W : World, Calls Tryz.prog 50 #[.int .i64 NI] W fun e w' => e = .returned (.string ⟨(Lib.itoa NI).toArray⟩) ∧ Below W.heap.size W w') := Lib.hid fun W => digitsV_any _ W NI rfl y3 y4
        generalize (⟨(Lib.itoa NI).toArray⟩ : ByteArray) = X at *
        have Hok := Lib.hid y1
        have Hpv := Lib.hid y2
        clear y1 y2 y3 y4 hn hm hj hiP
        subst hIP
        go_wp2_with fail
        refine (Hd.out w).mono ?_
        rintro e w2 ⟨rfl, hb2⟩
        go_wp2_with fail
        go_ret2
        exact ⟨_, by rw [Hok.out]; rfl, Hpv.out, hb2⟩
      · have hiP : j < P := by omega
        have hI0 : 0 ≤ I := by have := HI.out.1; omega
        have hI1 : I < (P : Int) := by have := HI.out.1; omega
        have hIn : I.toNat = j := by have := HI.out.1; omega
        obtain ⟨c, hc1, hc2⟩ := hget.out j hiP (by rw [hTs]; exact hiP)
        have Hc1 := Lib.hid hc1
        have Hj := Lib.hid hj; have Hm := Lib.hid hm; have HiP := Lib.hid hiP
        have hc256 := c.toNat_lt
        clear hc1 hj hm
        by_cases hlo : (c.toNat : Int) < 48
        · have hno := Hno.out (.inr (.inr (.inl ⟨c, List.mem_of_getElem? Hc1.out, by unfold isDig; omega⟩)))
          have HN := Lib.hid hno; clear hno hc256
          go_wp2_with fail
          go_ret2
          exact ⟨0, by rw [HN.out]; rfl, fun h => absurd h (by rw [HN.out]; decide), Below.refl _ _⟩
        by_cases hhi : 57 < (c.toNat : Int)
        · have hno := Hno.out (.inr (.inr (.inl ⟨c, List.mem_of_getElem? Hc1.out, by unfold isDig; omega⟩)))
          have HN := Lib.hid hno; clear hno hc256
          go_wp2_with fail
          go_ret2
          exact ⟨0, by rw [HN.out]; rfl, fun h => absurd h (by rw [HN.out]; decide), Below.refl _ _⟩
        have hdig : Lib.digitVal c = some (c.toNat - 48) := by unfold Lib.digitVal; rw [if_pos ⟨by omega, by omega⟩]
        have hnext := Lib.decFrom_take d j 0 n c _ HI.out.2.2.1 Hc1.out hdig
        have hlo2 : 48 ≤ (c.toNat : Int) := by omega
        have hhi2 : (c.toNat : Int) ≤ 57 := by omega
        clear hdig hlo hhi
        by_cases hov : n * 10 + (c.toNat - 48) ≤ 9223372036854775808
        · have HD : Hid (NInvP d (j + 1) (n * 10 + (c.toNat - 48)) (I + 1) (10 * NI - ((c.toNat : Int) - 48))) := Lib.hid ⟨by have := HI.out.1; omega, by have := HI.out.2.1; omega, hnext, by have := HI.out.2.2.2.1; rw [Nat.pow_succ]; omega, hov⟩
          have b1 : -922337203685477580 ≤ NI := by have := HI.out.2.1; omega
          have b2 : -9223372036854775808 ≤ 10 * NI - ((c.toNat : Int) - 48) := by have := HI.out.2.1; omega
          have b3 : 10 * NI - ((c.toNat : Int) - 48) ≤ 0 := by omega
          clear hov hnext hc256
          go_wp2_with fail
          go_roundg (P - (j + 1))
          case measure => have := Hj.out; have := Hm.out; omega
          case rel => exact ⟨j + 1, _, I + 1, _, by have := Hj.out; have := Hm.out; omega, HD, by go_num, by go_num, rfl⟩
        · have HN := Lib.hid (Hno.out (.inr (.inr (.inr ⟨j + 1, _, hnext, by omega⟩))))
          have hlt : n < 1000000000000000000 := by
            have h1 := HI.out.2.2.2.1
            have h3 : 10 ^ j ≤ 10 ^ 18 := Nat.pow_le_pow_right (by decide) (by have := HP.out; have := HiP.out; omega)
            omega
          obtain ⟨M1, hM1⟩ : ∃ M1, wrap64 (10 * NI) = M1 := ⟨_, rfl⟩
          obtain ⟨M2, hM2⟩ : ∃ M2, wrap64 (M1 - ((c.toNat : Int) - 48)) = M2 := ⟨_, rfl⟩
          have hM3 : 0 < M2 := by
            have := HI.out.2.1
            rw [← hM2, ← hM1]
            unfold wrap64
            omega
          clear hov hnext hc256 hlt
          go_wp2_with fail
          go_ret2
          exact ⟨0, by rw [HN.out]; rfl, fun h => absurd h (by rw [HN.out]; decide), Below.refl _ _⟩
  | false =>
    obtain ⟨rfl, rfl⟩ := hpos rfl
    clear hneg hpos
    have hp0 : ¬ P = 0 := by omega
    have ht1 := HP1.out hp0
    by_cases hp19 : 19 < P
    · have HN := Lib.hid (Hno.out (.inr (.inl (by rw [Hdl.out]; exact hp19))))
      have hp19i : 19 < (P : Int) := by omega
      clear HP0 HP1 hp0 hp19
      go_enter Tryz.func61, Tryz.ntmps61
      go_wp2_with fail
      go_ret2
      exact ⟨0, by rw [HN.out]; rfl, fun h => absurd h (by rw [HN.out]; decide), Below.refl _ _⟩
    have hp19i : ¬ 19 < (P : Int) := by omega
    have HP := Lib.hid (show P ≤ 19 by omega)
    clear HP0 HP1 hp0 hp19
    go_enter Tryz.func61, Tryz.ntmps61
    go_wp2_with fail
    go_loopg [6, 7] P (fun mm nv iv wr => ∃ (j n : Nat) (I NI : Int), j + mm = P ∧ Hid (NInvP d j n I NI) ∧ nv = .int .i64 NI ∧ iv = .int .i64 I ∧ w = wr)
    case atStart => exact ⟨0, 0, 0, 0, by omega, Lib.hid ⟨rfl, rfl, rfl, by decide, by decide⟩, rfl, rfl, rfl⟩
    case round =>
      obtain ⟨j, n, I, NI, hj, HI, rfl, rfl, rfl⟩ := hrel
      have hNI0 : NI ≤ 0 := by have := HI.out.2.1; omega
      have hNI1 : -9223372036854775808 ≤ NI := by have := HI.out.2.1; have := HI.out.2.2.2.2; omega
      by_cases hm : gk = 0
      · have hiP : j = P := by omega
        have hIP : I = (P : Int) := by have := HI.out.1; omega
        have hn : Lib.decFrom 0 d = some n := by
          have := HI.out.2.2.1
          rwa [List.take_of_length_le (by rw [Hdl.out, hiP]; exact Nat.le_refl _)] at this
        by_cases hmin : n = 9223372036854775808
        · have hw1 : wrap64 (-NI) = NI := by have := HI.out.2.1; unfold wrap64; omega
          obtain ⟨y1, y2, y3, y4⟩ := Hyes.out n NI hn HI.out.2.2.2.2 (by have := HI.out.2.1; simp only [Bool.false_eq_true, if_false]; rw [if_pos hmin]; omega)
          have Hd : Hid (∀ W : World, Calls Tryz.prog 50 #[.int .i64 NI] W fun e w' => e = .returned (.string ⟨(Lib.itoa NI).toArray⟩) ∧ Below W.heap.size W w') := Lib.hid fun W => digitsV_any _ W NI rfl y3 y4
          generalize (⟨(Lib.itoa NI).toArray⟩ : ByteArray) = X at *
          have Hok := Lib.hid y1
          have Hpv := Lib.hid y2
          clear y1 y2 y3 y4 hn hm hj hiP
          subst hIP
          go_wp2_with fail
          refine (Hd.out w).mono ?_
          rintro e w2 ⟨rfl, hb2⟩
          go_wp2_with fail
          go_ret2
          exact ⟨_, by rw [Hok.out]; rfl, Hpv.out, hb2⟩
        · have hNI2 : -9223372036854775807 ≤ NI := by have := HI.out.2.1; have := HI.out.2.2.2.2; omega
          clear hNI1
          obtain ⟨y1, y2, y3, y4⟩ := Hyes.out n (-NI) hn HI.out.2.2.2.2 (by have := HI.out.2.1; simp only [Bool.false_eq_true, if_false]; rw [if_neg hmin]; omega)
          have Hd : Hid (∀ W : World, Calls Tryz.prog 50 #[.int .i64 (-NI)] W fun e w' => e = .returned (.string ⟨(Lib.itoa (-NI)).toArray⟩) ∧ Below W.heap.size W w') := Lib.hid fun W => digitsV_any _ W (-NI) rfl y3 y4
          generalize (⟨(Lib.itoa (-NI)).toArray⟩ : ByteArray) = X at *
          have Hok := Lib.hid y1
          have Hpv := Lib.hid y2
          clear y1 y2 y3 y4 hn hm hj hiP
          subst hIP
          go_wp2_with fail
          refine (Hd.out w).mono ?_
          rintro e w2 ⟨rfl, hb2⟩
          go_wp2_with fail
          go_ret2
          exact ⟨_, by rw [Hok.out]; rfl, Hpv.out, hb2⟩
      · have hiP : j < P := by omega
        have hI0 : 0 ≤ I := by have := HI.out.1; omega
        have hI1 : I < (P : Int) := by have := HI.out.1; omega
        have hIn : I.toNat = j := by have := HI.out.1; omega
        obtain ⟨c, hc1, hc2⟩ := hget.out j hiP (by rw [hTs]; exact hiP)
        have Hc1 := Lib.hid hc1
        have Hj := Lib.hid hj; have Hm := Lib.hid hm; have HiP := Lib.hid hiP
        have hc256 := c.toNat_lt
        clear hc1 hj hm
        by_cases hlo : (c.toNat : Int) < 48
        · have hno := Hno.out (.inr (.inr (.inl ⟨c, List.mem_of_getElem? Hc1.out, by unfold isDig; omega⟩)))
          have HN := Lib.hid hno; clear hno hc256
          go_wp2_with fail
          go_ret2
          exact ⟨0, by rw [HN.out]; rfl, fun h => absurd h (by rw [HN.out]; decide), Below.refl _ _⟩
        by_cases hhi : 57 < (c.toNat : Int)
        · have hno := Hno.out (.inr (.inr (.inl ⟨c, List.mem_of_getElem? Hc1.out, by unfold isDig; omega⟩)))
          have HN := Lib.hid hno; clear hno hc256
          go_wp2_with fail
          go_ret2
          exact ⟨0, by rw [HN.out]; rfl, fun h => absurd h (by rw [HN.out]; decide), Below.refl _ _⟩
        have hdig : Lib.digitVal c = some (c.toNat - 48) := by unfold Lib.digitVal; rw [if_pos ⟨by omega, by omega⟩]
        have hnext := Lib.decFrom_take d j 0 n c _ HI.out.2.2.1 Hc1.out hdig
        have hlo2 : 48 ≤ (c.toNat : Int) := by omega
        have hhi2 : (c.toNat : Int) ≤ 57 := by omega
        clear hdig hlo hhi
        by_cases hov : n * 10 + (c.toNat - 48) ≤ 9223372036854775808
        · have HD : Hid (NInvP d (j + 1) (n * 10 + (c.toNat - 48)) (I + 1) (10 * NI - ((c.toNat : Int) - 48))) := Lib.hid ⟨by have := HI.out.1; omega, by have := HI.out.2.1; omega, hnext, by have := HI.out.2.2.2.1; rw [Nat.pow_succ]; omega, hov⟩
          have b1 : -922337203685477580 ≤ NI := by have := HI.out.2.1; omega
          have b2 : -9223372036854775808 ≤ 10 * NI - ((c.toNat : Int) - 48) := by have := HI.out.2.1; omega
          have b3 : 10 * NI - ((c.toNat : Int) - 48) ≤ 0 := by omega
          clear hov hnext hc256
          go_wp2_with fail
          go_roundg (P - (j + 1))
          case measure => have := Hj.out; have := Hm.out; omega
          case rel => exact ⟨j + 1, _, I + 1, _, by have := Hj.out; have := Hm.out; omega, HD, by go_num, by go_num, rfl⟩
        · have HN := Lib.hid (Hno.out (.inr (.inr (.inr ⟨j + 1, _, hnext, by omega⟩))))
          have hlt : n < 1000000000000000000 := by
            have h1 := HI.out.2.2.2.1
            have h3 : 10 ^ j ≤ 10 ^ 18 := Nat.pow_le_pow_right (by decide) (by have := HP.out; have := HiP.out; omega)
            omega
          obtain ⟨M1, hM1⟩ : ∃ M1, wrap64 (10 * NI) = M1 := ⟨_, rfl⟩
          obtain ⟨M2, hM2⟩ : ∃ M2, wrap64 (M1 - ((c.toNat : Int) - 48)) = M2 := ⟨_, rfl⟩
          have hM3 : 0 < M2 := by
            have := HI.out.2.1
            rw [← hM2, ← hM1]
            unfold wrap64
            omega
          clear hov hnext hc256 hlt
          go_wp2_with fail
          go_ret2
          exact ⟨0, by rw [HN.out]; rfl, fun h => absurd h (by rw [HN.out]; decide), Below.refl _ _⟩
end Go.Proofs.YthhghlnbpigcjaaGreatDoor
namespace Go.Proofs.YthhghlnbpigcjaaGreatDoor
open Go.RowKit

theorem empty_toList : (⟨#[]⟩ : ByteArray).toList = [] := by rw [ByteArray.toList_eq]
theorem right_of {x : Val} (h : RightC x) : rightB x = true := by
  obtain ⟨k, n, s, f⟩ := x
  rcases h with ⟨hk, hn, hs, hf⟩ | ⟨hk, hs, hf⟩ | ⟨hk, hs, hf, hn⟩ | ⟨hk, hn, hf, hs⟩ | ⟨hk, hn, hs, hf⟩
  · simp only at hk hn hs hf
    subst hk hn hs hf
    simp [rightB, empty_toList]
  · simp only at hk hs hf
    subst hk hs hf
    simp [rightB, empty_toList]
  · simp only at hk hs hf hn
    subst hk hs hf
    simp [rightB, empty_toList, hn]
  · simp only at hk hn hf hs
    subst hk hn hf
    simp [rightB, hs]
  · simp only at hk hn hs hf
    subst hk hn hs
    simp [rightB, empty_toList, hf]
theorem parse_forms {l : List UInt8} (h : okV l = true) : l = tNull ∨ l = tTrue ∨ l = tFalse ∨ parseOk l = true ∨ numOk l = true ∨ ∃ b : List UInt8, b.length ≤ 64 ∧ l = 120 :: hexL b := by
  have e : printVL (rightOf (candVal l)) = l := by unfold okV at h; exact beq_iff_eq.1 h
  have hr := rightC (candVal l)
  have hw := right_wf (candVal l) (candVal_wf l)
  generalize rightOf (candVal l) = v at *
  obtain ⟨k, n, s, f⟩ := v
  obtain ⟨-, -, n0, n1, f0, f1⟩ := hw
  simp only at n0 n1 f0 f1
  rcases hr with ⟨hk, hn, hs, hf⟩ | ⟨hk, hs, hf⟩ | ⟨hk, hs, hf, hn⟩ | ⟨hk, hn, hf, hs⟩ | ⟨hk, hn, hs, hf⟩
  · simp only at hk hn hs hf
    subst hk
    exact .inl e.symm
  · simp only at hk hs hf
    subst hk
    refine .inr (.inr (.inr (.inr (.inl ?_))))
    rw [← e]
    exact (num_itoa n n0 n1).1
  · simp only at hk hs hf hn
    subst hk
    rcases hn with rfl | rfl
    · exact .inr (.inr (.inl e.symm))
    · exact .inr (.inl e.symm)
  · simp only at hk hn hf hs
    subst hk
    exact .inr (.inr (.inr (.inr (.inr ⟨s.data.toList, by rw [← Lib.size_eq]; exact hs, e.symm⟩))))
  · simp only at hk hn hs hf
    subst hk
    refine .inr (.inr (.inr (.inl ?_)))
    rw [← e]
    exact (parse_print f f0 f1).1
theorem parse_right {v : Val} (h : RightC v) (w : v.Wf) {l : List UInt8} (hl : printVL v = l) : okV l = true ∧ parseVal l = v := by
  subst hl
  exact parse_printV h (right_self (right_of h)) w
theorem parse_float {l : List UInt8} (h : parseOk l = true) : okV l = true ∧ parseVal l = ⟨4, 0, ⟨#[]⟩, parseV l⟩ := by
  have hv : parseV l = candV l := by unfold parseV; rw [if_pos h]
  have hp := parseOk_print h
  have hr := parseV_range l
  have hc : canonF (parseV l) = parseV l := by
    have h2 := h
    unfold parseOk at h2
    rw [Bool.and_eq_true] at h2
    rw [hv]
    exact beq_iff_eq.1 h2.2
  refine parse_right (.float rfl rfl rfl hc) (wf_small _ _ _ _ (by omega) (by omega) (by omega) (by omega) hr.1 hr.2) ?_
  show printL (parseV l).toNat = l
  rw [hv]; exact hp
theorem parse_num {l : List UInt8} (h : numOk l = true) : okV l = true ∧ parseVal l = ⟨1, numV l, ⟨#[]⟩, 0⟩ := by
  obtain ⟨h1, h2, h3⟩ := num_back h
  exact parse_right (.int rfl rfl rfl) (wf_small _ _ _ _ (by omega) (by omega) h2 h3 (by omega) (by omega)) h1.symm
theorem parse_hex {l b : List UInt8} (h : l = 120 :: hexL b) (hb : b.length ≤ 64) : okV l = true ∧ parseVal l = ⟨3, 0, ⟨b.toArray⟩, 0⟩ := by
  refine parse_right (.bytes rfl rfl rfl (by simpa [ByteArray.size] using hb)) (wf_small _ _ _ _ (by omega) (by omega) (by omega) (by omega) (by omega) (by omega)) ?_
  rw [h]
  rfl
theorem parse_no {l : List UInt8} (h1 : l ≠ tNull) (h2 : l ≠ tFalse) (h3 : l ≠ tTrue) (h4 : parseOk l = false) (h5 : numOk l = false) (h6 : ∀ b : List UInt8, b.length ≤ 64 → l ≠ 120 :: hexL b) : okV l = false ∧ parseVal l = zeroVal := by
  have : okV l = false := by
    cases h : okV l with
    | false => rfl
    | true =>
      exfalso
      rcases parse_forms h with e | e | e | e | e | ⟨b, e1, e2⟩
      · exact h1 e
      · exact h3 e
      · exact h2 e
      · rw [h4] at e; cases e
      · rw [h5] at e; cases e
      · exact h6 b e1 e2
  exact ⟨this, by unfold parseVal; rw [this]; rfl⟩
theorem parse_words : (okV tNull = true ∧ parseVal tNull = ⟨0, 0, ⟨#[]⟩, 0⟩) ∧ (okV tFalse = true ∧ parseVal tFalse = ⟨2, 0, ⟨#[]⟩, 0⟩) ∧ (okV tTrue = true ∧ parseVal tTrue = ⟨2, 1, ⟨#[]⟩, 0⟩) := by
  refine ⟨?_, ?_, ?_⟩
  · exact parse_right (.null rfl rfl rfl rfl) (wf_small _ _ _ _ (by omega) (by omega) (by omega) (by omega) (by omega) (by omega)) rfl
  · exact parse_right (.bool rfl rfl rfl (.inl rfl)) (wf_small _ _ _ _ (by omega) (by omega) (by omega) (by omega) (by omega) (by omega)) rfl
  · exact parse_right (.bool rfl rfl rfl (.inr rfl)) (wf_small _ _ _ _ (by omega) (by omega) (by omega) (by omega) (by omega) (by omega)) rfl
theorem mem_hexL {b : List UInt8} {c : UInt8} (h : c ∈ hexL b) : ∃ d, d < 16 ∧ dig d = c := by
  induction b with
  | nil => cases h
  | cons x b ih =>
    have hx := x.toNat_lt
    rcases List.mem_cons.1 (show c ∈ dig (x.toNat / 16) :: dig (x.toNat % 16) :: hexL b from h) with e | e
    · exact ⟨_, by omega, e.symm⟩
    · rcases List.mem_cons.1 e with e | e
      · exact ⟨_, by omega, e.symm⟩
      · exact ih e
theorem hex_none {l : List UInt8} (h : l.head? ≠ some 120 ∨ l.length % 2 = 0 ∨ 129 < l.length ∨ ∃ j c, l[j + 1]? = some c ∧ ∀ d, d < 16 → dig d ≠ c) : ∀ b : List UInt8, b.length ≤ 64 → l ≠ 120 :: hexL b := by
  intro b hb e
  have hlen : l.length = 2 * b.length + 1 := by rw [e, List.length_cons, hexL_length]
  rcases h with h | h | h | ⟨j, c, h1, h2⟩
  · rw [e] at h; exact h rfl
  · omega
  · omega
  · rw [e, List.getElem?_cons_succ] at h1
    obtain ⟨d, hd, e2⟩ := mem_hexL (List.mem_of_getElem? h1)
    exact h2 d hd e2
end Go.Proofs.YthhghlnbpigcjaaGreatDoor
namespace Go.Proofs.YthhghlnbpigcjaaGreatDoor
open Go.RowKit

theorem hexN_two (U : Nat) (hU : U < 256) : hexN 2 U = hexL [UInt8.ofNat U] := by
  show _ = [dig ((UInt8.ofNat U).toNat / 16), dig ((UInt8.ofNat U).toNat % 16)]
  rw [UInt8.toNat_ofNat', Nat.mod_eq_of_lt (show U < 2 ^ 8 from hU)]
  have h1 := hexN_snoc 1 (U / 16) (U % 16) (by omega) (by omega)
  have h0 := hexN_snoc 0 0 (U / 16) (by omega) (by omega)
  rw [show U / 16 * 16 + U % 16 = U from by omega] at h1
  rw [show 0 * 16 + U / 16 = U / 16 from by omega] at h0
  rw [h1, h0]
  rfl
theorem below_at {B C : Nat} {a w : World} (h : Below B a w) (hC : B ≤ C) (o : Nat) (v : Value) : Below B a (w.setCell ⟨C, o, none⟩ v) := h.setCell hC v
set_option maxHeartbeats 16000000 in
set_option maxRecDepth 100000 in
theorem parseVR_any (w : World) (s : ByteArray) (hs : s.size ≤ 100000) :
    Calls Tryz.prog 38 #[.string s] w fun e w' => e = .returned (.tuple #[(parseVal s.data.toList).v, .bool (okV s.data.toList)]) ∧ Below w.heap.size w w' := by
  obtain ⟨⟨c1, c2⟩, ⟨c3, c4⟩, ⟨c5, c6⟩⟩ := parse_words
  have Hat := Lib.hid (At.new w 0 0 ⟨#[]⟩ 0 27)
  have Hbw := Lib.hid (show Below w.heap.size w (w.alloc (.cells #[.int .i64 0, .int .i64 0, .string ⟨#[]⟩, .int .u64 0] 27)) from (Below.refl _ _).alloc (Nat.le_refl _) _)
  by_cases k1 : s.data.toList = tNull
  · rw [k1]
    obtain rfl := bytes_eq k1
    have H1 := Lib.hid c1
    have H2 := Lib.hid (congrArg Val.v c2)
    simp only [Val.v] at H2 ⊢
    clear c1 c2 c3 c4 c5 c6 hs
    go_enter Tryz.func38, Tryz.ntmps38
    go_upto_region 1 with fail
    generalize (w.alloc _) = W0 at Hat Hbw ⊢
    generalize hA : w.heap.size = A at *
    have at1 := Hat.out.alloc (.cells #[.int .i64 0, .int .i64 0, .string ⟨#[]⟩, .int .u64 0] 27)
    have X1 := Lib.hid (At.new W0 0 0 ⟨#[]⟩ 0 27)
    have Hb := Lib.hid (Hbw.out.alloc (by have := Hat.out.lt; omega) (.cells #[.int .i64 0, .int .i64 0, .string ⟨#[]⟩, .int .u64 0] 27))
    have hAC : A < W0.heap.size := Hat.out.lt
    go_upto_region 3 with fail
    generalize W0.alloc _ = W1 at at1 X1 Hb ⊢
    generalize W0.heap.size = C at *
    have hAC1 : A ≠ C := by omega
    have hAC2 : C ≠ A := by omega
    have hAC3 : A ≤ C := by omega
    have z0 := at1.z 0; have z1 := at1.z 1; have z2 := at1.z 2; have z3 := at1.z 3
    obtain ⟨d0, d1, d2, d3, -, -⟩ := at1
    have xt := X1.out
    have x0 := xt.z 0; have x1 := xt.z 1
    obtain ⟨e0, e1, e2, e3, -, -⟩ := xt
    go_wp2_with fail
    exact bodyPost_ret (v := .tuple #[.agg #[.int .i64 0, .int .i64 0, .string ⟨#[]⟩, .int .u64 0], .bool true]) (by simp [results, Tryz.results38, go_sem, d0, d1, d2, d3, e0, e1, e2, e3, hAC1, hAC2]) rfl ⟨by rw [H1.out, H2.out], by (first | rw [hA] | skip); refine below_at (below_at (below_at (below_at ?_ (Nat.le_refl _) _ _) (Nat.le_refl _) _ _) (Nat.le_refl _) _ _) (Nat.le_refl _) _ _; first | exact Hb.out | exact below_at Hb.out hAC3 _ _ | exact below_at (below_at Hb.out hAC3 _ _) hAC3 _ _⟩
  by_cases k2 : s.data.toList = tFalse
  · rw [k2]
    obtain rfl := bytes_eq k2
    have H1 := Lib.hid c3
    have H2 := Lib.hid (congrArg Val.v c4)
    simp only [Val.v] at H2 ⊢
    clear c1 c2 c3 c4 c5 c6 hs
    go_enter Tryz.func38, Tryz.ntmps38
    go_upto_region 1 with fail
    generalize (w.alloc _) = W0 at Hat Hbw ⊢
    generalize hA : w.heap.size = A at *
    have at1 := Hat.out.alloc (.cells #[.int .i64 0, .int .i64 0, .string ⟨#[]⟩, .int .u64 0] 27)
    have X1 := Lib.hid (At.new W0 0 0 ⟨#[]⟩ 0 27)
    have Hb := Lib.hid (Hbw.out.alloc (by have := Hat.out.lt; omega) (.cells #[.int .i64 0, .int .i64 0, .string ⟨#[]⟩, .int .u64 0] 27))
    have hAC : A < W0.heap.size := Hat.out.lt
    go_upto_region 3 with fail
    generalize W0.alloc _ = W1 at at1 X1 Hb ⊢
    generalize W0.heap.size = C at *
    have hAC1 : A ≠ C := by omega
    have hAC2 : C ≠ A := by omega
    have hAC3 : A ≤ C := by omega
    have z0 := at1.z 0; have z1 := at1.z 1; have z2 := at1.z 2; have z3 := at1.z 3
    obtain ⟨d0, d1, d2, d3, -, -⟩ := at1
    have xt := X1.out
    have x0 := xt.z 0; have x1 := xt.z 1
    obtain ⟨e0, e1, e2, e3, -, -⟩ := xt
    go_wp2_with fail
    exact bodyPost_ret (v := .tuple #[.agg #[.int .i64 2, .int .i64 0, .string ⟨#[]⟩, .int .u64 0], .bool true]) (by simp [results, Tryz.results38, go_sem, d0, d1, d2, d3, e0, e1, e2, e3, hAC1, hAC2]) rfl ⟨by rw [H1.out, H2.out], by (first | rw [hA] | skip); refine below_at (below_at (below_at (below_at ?_ (Nat.le_refl _) _ _) (Nat.le_refl _) _ _) (Nat.le_refl _) _ _) (Nat.le_refl _) _ _; first | exact Hb.out | exact below_at Hb.out hAC3 _ _ | exact below_at (below_at Hb.out hAC3 _ _) hAC3 _ _⟩
  by_cases k3 : s.data.toList = tTrue
  · rw [k3]
    obtain rfl := bytes_eq k3
    have H1 := Lib.hid c5
    have H2 := Lib.hid (congrArg Val.v c6)
    simp only [Val.v] at H2 ⊢
    clear c1 c2 c3 c4 c5 c6 hs
    go_enter Tryz.func38, Tryz.ntmps38
    go_upto_region 1 with fail
    generalize (w.alloc _) = W0 at Hat Hbw ⊢
    generalize hA : w.heap.size = A at *
    have at1 := Hat.out.alloc (.cells #[.int .i64 0, .int .i64 0, .string ⟨#[]⟩, .int .u64 0] 27)
    have X1 := Lib.hid (At.new W0 0 0 ⟨#[]⟩ 0 27)
    have Hb := Lib.hid (Hbw.out.alloc (by have := Hat.out.lt; omega) (.cells #[.int .i64 0, .int .i64 0, .string ⟨#[]⟩, .int .u64 0] 27))
    have hAC : A < W0.heap.size := Hat.out.lt
    go_upto_region 3 with fail
    generalize W0.alloc _ = W1 at at1 X1 Hb ⊢
    generalize W0.heap.size = C at *
    have hAC1 : A ≠ C := by omega
    have hAC2 : C ≠ A := by omega
    have hAC3 : A ≤ C := by omega
    have z0 := at1.z 0; have z1 := at1.z 1; have z2 := at1.z 2; have z3 := at1.z 3
    obtain ⟨d0, d1, d2, d3, -, -⟩ := at1
    have xt := X1.out
    have x0 := xt.z 0; have x1 := xt.z 1
    obtain ⟨e0, e1, e2, e3, -, -⟩ := xt
    go_wp2_with fail
    exact bodyPost_ret (v := .tuple #[.agg #[.int .i64 2, .int .i64 1, .string ⟨#[]⟩, .int .u64 0], .bool true]) (by simp [results, Tryz.results38, go_sem, d0, d1, d2, d3, e0, e1, e2, e3, hAC1, hAC2]) rfl ⟨by rw [H1.out, H2.out], by (first | rw [hA] | skip); refine below_at (below_at (below_at (below_at ?_ (Nat.le_refl _) _ _) (Nat.le_refl _) _ _) (Nat.le_refl _) _ _) (Nat.le_refl _) _ _; first | exact Hb.out | exact below_at Hb.out hAC3 _ _ | exact below_at (below_at Hb.out hAC3 _ _) hAC3 _ _⟩
  clear c1 c2 c3 c4 c5 c6
  have b1 := bytes_ne k1
  have b2 := bytes_ne k2
  have b3 := bytes_ne k3
  have Hf : Hid (∀ W : World, Calls Tryz.prog 60 #[.string s] W fun e w' => PrEnds W w' e s.data.toList) := Lib.hid fun W => parseR_any W s (by omega)
  cases hf : parseOk s.data.toList with
  | true =>
    obtain ⟨q1, q2⟩ := parse_float hf
    have H1 := Lib.hid q1
    have H2 := Lib.hid (congrArg Val.v q2)
    simp only [Val.v] at H2 ⊢
    clear q1 q2 hs k1 k2 k3
    go_enter Tryz.func38, Tryz.ntmps38
    go_upto_region 1 with fail
    generalize (w.alloc _) = W0 at Hat Hbw ⊢
    generalize hA : w.heap.size = A at *
    go_wp2_with fail
    refine (Hf.out W0).mono ?_
    rintro e w2 ⟨v, rfl, hv, hb⟩
    have hv2 := hv hf
    subst hv2
    rw [hf]
    have Hb := Lib.hid (Hbw.out.trans (hb.mono (by have := Hat.out.lt; omega)))
    have at1 := Hat.out.below hb Hat.out.lt
    clear hv hb
    have z0 := at1.z 0; have z1 := at1.z 1; have z2 := at1.z 2; have z3 := at1.z 3
    obtain ⟨d0, d1, d2, d3, -, -⟩ := at1
    go_wp2_with fail
    exact bodyPost_ret (v := .tuple #[.agg #[.int .i64 4, .int .i64 0, .string ⟨#[]⟩, .int .u64 (parseV s.data.toList)], .bool true]) (by simp [results, Tryz.results38, go_sem, d0, d1, d2, d3]) rfl ⟨by first | rw [H1.out, H2.out] | rfl, by (first | rw [hA] | skip); exact ((((Hb.out).setCell (Nat.le_refl _) _).setCell (Nat.le_refl _) _).setCell (Nat.le_refl _) _).setCell (Nat.le_refl _) _⟩

  | false =>
    have Hnum : Hid (∀ W : World, Calls Tryz.prog 61 #[.string s] W fun e w' => NumEnds W w' e s.data.toList) := Lib.hid fun W => numberR_any W s hs
    cases hn : numOk s.data.toList with
    | true =>
      obtain ⟨q1, q2⟩ := parse_num hn
      have H1 := Lib.hid q1
      have H2 := Lib.hid (congrArg Val.v q2)
      simp only [Val.v] at H2 ⊢
      clear q1 q2 hs k1 k2 k3
      go_enter Tryz.func38, Tryz.ntmps38
      go_upto_region 1 with fail
      generalize (w.alloc _) = W0 at Hat Hbw ⊢
      generalize hA : w.heap.size = A at *
      go_wp2_with fail
      refine (Hf.out W0).mono ?_
      rintro e w2 ⟨v, rfl, -, hb⟩
      rw [hf]
      go_wp2_with fail
      refine (Hnum.out w2).mono ?_
      rintro e w3 ⟨v2, rfl, hv, hb2⟩
      have hv2 := hv hn
      subst hv2
      rw [hn]
      have hbx := hb.trans (hb2.mono hb.size)
      have Hb := Lib.hid (Hbw.out.trans (hbx.mono (by have := Hat.out.lt; omega)))
      have at1 := Hat.out.below hbx Hat.out.lt
      clear hv hb hb2 hbx
      have z0 := at1.z 0; have z1 := at1.z 1; have z2 := at1.z 2; have z3 := at1.z 3
      obtain ⟨d0, d1, d2, d3, -, -⟩ := at1
      go_wp2_with fail
      exact bodyPost_ret (v := .tuple #[.agg #[.int .i64 1, .int .i64 (numV s.data.toList), .string ⟨#[]⟩, .int .u64 0], .bool true]) (by simp [results, Tryz.results38, go_sem, d0, d1, d2, d3]) rfl ⟨by first | rw [H1.out, H2.out] | rfl, by (first | rw [hA] | skip); exact ((((Hb.out).setCell (Nat.le_refl _) _).setCell (Nat.le_refl _) _).setCell (Nat.le_refl _) _).setCell (Nat.le_refl _) _⟩

    | false =>
      obtain ⟨l, hl⟩ : ∃ l, l = s.data.toList := ⟨_, rfl⟩
      have hlen : l.length = s.size := by rw [hl, Lib.size_eq]
      have Hyes : Hid (∀ b : List UInt8, l = 120 :: hexL b → b.length ≤ 64 → okV s.data.toList = true ∧ (parseVal s.data.toList).v = .agg #[.int .i64 3, .int .i64 0, .string ⟨b.toArray⟩, .int .u64 0]) := Lib.hid fun b h1 h2 => by
        rw [hl] at h1
        obtain ⟨q1, q2⟩ := parse_hex h1 h2
        exact ⟨q1, by rw [q2]⟩
      have Hno : Hid ((l.head? ≠ some 120 ∨ l.length % 2 = 0 ∨ 129 < l.length ∨ ∃ j c, l[j + 1]? = some c ∧ ∀ d, d < 16 → dig d ≠ c) → okV s.data.toList = false ∧ (parseVal s.data.toList).v = .agg #[.int .i64 0, .int .i64 0, .string ⟨#[]⟩, .int .u64 0]) := Lib.hid fun h => by
        rw [hl] at h
        obtain ⟨q1, q2⟩ := parse_no k1 k2 k3 hf hn (hex_none h)
        exact ⟨q1, by rw [q2]; rfl⟩
      rw [← hl] at Hf Hnum hf hn
      generalize hR : (parseVal s.data.toList).v = R at *
      generalize hK : okV s.data.toList = K at *
      clear k1 k2 k3 hR hK
      obtain ⟨N, hN⟩ : ∃ N, s.size = N := ⟨_, rfl⟩
      rw [hN] at hlen hs
      have Hlen := Lib.hid hlen
      have Hl := Lib.hid hl
      by_cases h0 : N = 0
      · have hl0 : l = [] := List.length_eq_zero_iff.1 (by omega)
        obtain rfl : s = ⟨#[]⟩ := bytes_eq (by rw [← hl, hl0])
        clear hl Hl
        obtain ⟨q1, q2⟩ := Hno.out (.inl (by simp [hl0]))
        have q1 := Lib.hid q1; have q2 := Lib.hid q2
        clear hl0 hlen h0 hs hN
        go_enter Tryz.func38, Tryz.ntmps38
        go_upto_region 1 with fail
        generalize (w.alloc _) = W0 at Hat Hbw ⊢
        generalize hA : w.heap.size = A at *
        go_wp2_with fail
        refine (Hf.out W0).mono ?_
        rintro e w2 ⟨v, rfl, -, hb⟩
        rw [hf]
        go_wp2_with fail
        refine (Hnum.out w2).mono ?_
        rintro e w3 ⟨v2, rfl, -, hb2⟩
        rw [hn]
        have hbx := hb.trans (hb2.mono hb.size)
        have Hbb := Lib.hid (Hbw.out.trans (hbx.mono (by have := Hat.out.lt; omega)))
        have Hat3 := Lib.hid (Hat.out.below hbx Hat.out.lt)
        clear hb hb2 hbx
        have at1 := Hat3.out
        have z0 := at1.z 0; have z1 := at1.z 1; have z2 := at1.z 2; have z3 := at1.z 3
        obtain ⟨d0, d1, d2, d3, -, -⟩ := at1
        go_wp2_with fail
        exact bodyPost_ret (v := .tuple #[.agg #[.int .i64 0, .int .i64 0, .string ⟨#[]⟩, .int .u64 0], .bool false]) (by simp [results, Tryz.results38, go_sem, d0, d1, d2, d3]) rfl ⟨by first | rw [q1.out, q2.out] | rfl, by (first | rw [hA] | skip); exact ((((Hbb.out).setCell (Nat.le_refl _) _).setCell (Nat.le_refl _) _).setCell (Nat.le_refl _) _).setCell (Nat.le_refl _) _⟩
      have h0s : 0 < s.size := by omega
      obtain ⟨c0, r, hlr⟩ : ∃ c0 r, l = c0 :: r := by
        cases hdc : l with
        | nil => rw [hdc] at hlen; simp at hlen; omega
        | cons c0 r => exact ⟨c0, r, rfl⟩
      have hs0 : s[0] = c0 := by
        have h5 := byte_at s 0 h0s
        rw [← hl, hlr] at h5
        exact (Option.some.inj h5).symm
      have hne : (s.toList == []) = false := by
        rw [beq_eq_false_iff_ne, ByteArray.toList_eq, ← hl, hlr]; simp
      have Hlr := Lib.hid hlr
      clear hl hlr h0
      by_cases h120 : c0 ≠ 120
      · have hc120 : ((c0.toNat : Int) != 120) = true := by
          rw [bne_iff_ne]
          intro e
          exact h120 (UInt8.toNat_inj.1 (by simp; omega))
        obtain ⟨q1, q2⟩ := Hno.out (.inl (by rw [Hlr.out]; intro e; exact h120 (Option.some.inj e)))
        have q1 := Lib.hid q1; have q2 := Lib.hid q2
        clear h120 hlen
        go_enter Tryz.func38, Tryz.ntmps38
        go_upto_region 1 with fail
        generalize (w.alloc _) = W0 at Hat Hbw ⊢
        generalize hA : w.heap.size = A at *
        go_wp2_with fail
        refine (Hf.out W0).mono ?_
        rintro e w2 ⟨v, rfl, -, hb⟩
        rw [hf]
        go_wp2_with fail
        refine (Hnum.out w2).mono ?_
        rintro e w3 ⟨v2, rfl, -, hb2⟩
        rw [hn]
        have hbx := hb.trans (hb2.mono hb.size)
        have Hbb := Lib.hid (Hbw.out.trans (hbx.mono (by have := Hat.out.lt; omega)))
        have Hat3 := Lib.hid (Hat.out.below hbx Hat.out.lt)
        clear hb hb2 hbx
        have at1 := Hat3.out
        have z0 := at1.z 0; have z1 := at1.z 1; have z2 := at1.z 2; have z3 := at1.z 3
        obtain ⟨d0, d1, d2, d3, -, -⟩ := at1
        go_wp2_with fail
        exact bodyPost_ret (v := .tuple #[.agg #[.int .i64 0, .int .i64 0, .string ⟨#[]⟩, .int .u64 0], .bool false]) (by simp [results, Tryz.results38, go_sem, d0, d1, d2, d3]) rfl ⟨by first | rw [q1.out, q2.out] | rfl, by (first | rw [hA] | skip); exact ((((Hbb.out).setCell (Nat.le_refl _) _).setCell (Nat.le_refl _) _).setCell (Nat.le_refl _) _).setCell (Nat.le_refl _) _⟩
      have h120 : c0 = 120 := Decidable.not_not.1 h120
      have hc120 : ((c0.toNat : Int) != 120) = false := by rw [h120]; decide
      by_cases hodd : N % 2 = 0
      · have hm1 : (N : Int).tmod 2 = 0 := by rw [Int.tmod_eq_emod_of_nonneg (by omega)]; omega
        obtain ⟨q1, q2⟩ := Hno.out (.inr (.inl (by rw [hlen]; exact hodd)))
        have q1 := Lib.hid q1; have q2 := Lib.hid q2
        clear h120 hlen hodd
        go_enter Tryz.func38, Tryz.ntmps38
        go_upto_region 1 with fail
        generalize (w.alloc _) = W0 at Hat Hbw ⊢
        generalize hA : w.heap.size = A at *
        go_wp2_with fail
        refine (Hf.out W0).mono ?_
        rintro e w2 ⟨v, rfl, -, hb⟩
        rw [hf]
        go_wp2_with fail
        refine (Hnum.out w2).mono ?_
        rintro e w3 ⟨v2, rfl, -, hb2⟩
        rw [hn]
        have hbx := hb.trans (hb2.mono hb.size)
        have Hbb := Lib.hid (Hbw.out.trans (hbx.mono (by have := Hat.out.lt; omega)))
        have Hat3 := Lib.hid (Hat.out.below hbx Hat.out.lt)
        clear hb hb2 hbx
        have at1 := Hat3.out
        have z0 := at1.z 0; have z1 := at1.z 1; have z2 := at1.z 2; have z3 := at1.z 3
        obtain ⟨d0, d1, d2, d3, -, -⟩ := at1
        go_wp2_with fail
        exact bodyPost_ret (v := .tuple #[.agg #[.int .i64 0, .int .i64 0, .string ⟨#[]⟩, .int .u64 0], .bool false]) (by simp [results, Tryz.results38, go_sem, d0, d1, d2, d3]) rfl ⟨by first | rw [q1.out, q2.out] | rfl, by (first | rw [hA] | skip); exact ((((Hbb.out).setCell (Nat.le_refl _) _).setCell (Nat.le_refl _) _).setCell (Nat.le_refl _) _).setCell (Nat.le_refl _) _⟩
      have hm1 : (N : Int).tmod 2 = 1 := by rw [Int.tmod_eq_emod_of_nonneg (by omega)]; omega
      by_cases h129 : 129 < N
      · have h129i : 129 < (N : Int) := by omega
        obtain ⟨q1, q2⟩ := Hno.out (.inr (.inr (.inl (by rw [hlen]; exact h129))))
        have q1 := Lib.hid q1; have q2 := Lib.hid q2
        clear h120 hlen hodd h129
        go_enter Tryz.func38, Tryz.ntmps38
        go_upto_region 1 with fail
        generalize (w.alloc _) = W0 at Hat Hbw ⊢
        generalize hA : w.heap.size = A at *
        go_wp2_with fail
        refine (Hf.out W0).mono ?_
        rintro e w2 ⟨v, rfl, -, hb⟩
        rw [hf]
        go_wp2_with fail
        refine (Hnum.out w2).mono ?_
        rintro e w3 ⟨v2, rfl, -, hb2⟩
        rw [hn]
        have hbx := hb.trans (hb2.mono hb.size)
        have Hbb := Lib.hid (Hbw.out.trans (hbx.mono (by have := Hat.out.lt; omega)))
        have Hat3 := Lib.hid (Hat.out.below hbx Hat.out.lt)
        clear hb hb2 hbx
        have at1 := Hat3.out
        have z0 := at1.z 0; have z1 := at1.z 1; have z2 := at1.z 2; have z3 := at1.z 3
        obtain ⟨d0, d1, d2, d3, -, -⟩ := at1
        go_wp2_with fail
        exact bodyPost_ret (v := .tuple #[.agg #[.int .i64 0, .int .i64 0, .string ⟨#[]⟩, .int .u64 0], .bool false]) (by simp [results, Tryz.results38, go_sem, d0, d1, d2, d3]) rfl ⟨by first | rw [q1.out, q2.out] | rfl, by (first | rw [hA] | skip); exact ((((Hbb.out).setCell (Nat.le_refl _) _).setCell (Nat.le_refl _) _).setCell (Nat.le_refl _) _).setCell (Nat.le_refl _) _⟩
      have h129i : ¬ 129 < (N : Int) := by omega
      obtain ⟨J, hJ⟩ : ∃ J, N = 2 * J + 1 := ⟨N / 2, by omega⟩
      obtain ⟨t, ht⟩ : ∃ t, t = l.drop 1 := ⟨_, rfl⟩
      have hlt : l = 120 :: t := by rw [ht, Hlr.out, h120]; rfl
      have htl : t.length = 2 * J := by rw [hlt] at hlen; simp at hlen; omega
      have hget : Hid (∀ j, j < 2 * J → ∀ h : j + 1 < s.size, ∃ c, t[j]? = some c ∧ l[j + 1]? = some c ∧ s[j + 1] = c) := by
        refine Lib.hid fun j hj h => ⟨s[j + 1], ?_, ?_, rfl⟩
        · have h2 : l[j + 1]? = some s[j + 1] := by rw [Hl.out]; exact byte_at s (j + 1) h
          rw [hlt, List.getElem?_cons_succ] at h2
          exact h2
        · rw [Hl.out]; exact byte_at s (j + 1) h
      have Hlt := Lib.hid hlt
      have Htl := Lib.hid htl
      have HJ := Lib.hid hJ
      have hJ64 : J ≤ 64 := by omega
      clear hlt htl ht hJ h120 hlen hodd h129 hs
      go_enter Tryz.func38, Tryz.ntmps38
      go_upto_region 1 with fail
      generalize (w.alloc _) = W0 at Hat Hbw ⊢
      generalize hA : w.heap.size = A at *
      go_wp2_with fail
      refine (Hf.out W0).mono ?_
      rintro e w2 ⟨v, rfl, -, hb⟩
      rw [hf]
      go_wp2_with fail
      refine (Hnum.out w2).mono ?_
      rintro e w3 ⟨v2, rfl, -, hb2⟩
      rw [hn]
      have hbx := hb.trans (hb2.mono hb.size)
      have Hbb := Lib.hid (Hbw.out.trans (hbx.mono (by have := Hat.out.lt; omega)))
      have Hat3 := Lib.hid (Hat.out.below hbx Hat.out.lt)
      clear hb hb2 hbx
      go_wp2_with fail
      have hst := Buf.start w3
      go_loopg [8, 9] J (fun mm bv iv wr => ∃ (j : Nat) (I : Int) (acc : List UInt8), j + mm = J ∧ Hid (I = 2 * (j : Int) + 1 ∧ t.take (2 * j) = hexL acc ∧ acc.length = j) ∧ iv = .int .i64 I ∧ Buf w3 wr bv acc)
      case atStart => exact ⟨0, 1, [], by omega, Lib.hid ⟨rfl, rfl, rfl⟩, rfl, Buf.start w3⟩
      case round =>
        obtain ⟨j, I, acc, hj, HI, rfl, hB⟩ := hrel
        have HB := Lib.hid hB; clear hB
        have hA3 : Hid (A ≤ w3.heap.size) := Lib.hid (by have := Hat3.out.lt; omega)
        have at2 := Hat3.out.below HB.out.below Hat3.out.lt
        have Hat4 := Lib.hid at2; clear at2
        have hI0 : 0 ≤ I := by have := HI.out.1; omega
        by_cases hm : gk = 0
        · have hjJ : j = J := by omega
          have hI1 : ¬ I < (N : Int) := by have := HI.out.1; have := HJ.out; omega
          have hall : l = 120 :: hexL acc := by
            rw [Hlt.out, ← HI.out.2.1, List.take_of_length_le (by rw [Htl.out]; omega)]
          obtain ⟨q1, q2⟩ := Hyes.out acc hall (by rw [HI.out.2.2]; omega)
          have q1 := Lib.hid q1; have q2 := Lib.hid q2
          have htx := HB.out.text
          clear hm hj hjJ hall
          have at1 := Hat4.out
          have z0 := at1.z 0; have z1 := at1.z 1; have z2 := at1.z 2; have z3 := at1.z 3
          obtain ⟨d0, d1, d2, d3, -, -⟩ := at1
          go_wp2_with fail
          exact bodyPost_ret (v := .tuple #[.agg #[.int .i64 3, .int .i64 0, .string ⟨acc.toArray⟩, .int .u64 0], .bool true]) (by simp [results, Tryz.results38, go_sem, d0, d1, d2, d3]) rfl ⟨by first | rw [q1.out, q2.out] | rfl, by (first | rw [hA] | skip); exact ((((Hbb.out.trans (HB.out.below.mono hA3.out)).setCell (Nat.le_refl _) _).setCell (Nat.le_refl _) _).setCell (Nat.le_refl _) _).setCell (Nat.le_refl _) _⟩
        · have hjJ : j < J := by omega
          have hI1 : I < (N : Int) := by have := HI.out.1; have := HJ.out; omega
          have hI2 : I ≤ 127 := by have := HI.out.1; omega
          have Hj := Lib.hid hj; have Hm := Lib.hid hm; have HjJ := Lib.hid hjJ
          clear hm hj hjJ
          go_wp2_with fail
          go_loopg [10, 11] 2 (fun mm cv kv wx => ∃ (h U : Nat) (KI UI : Int), h + mm = 2 ∧ Hid (KI = I + (h : Int) ∧ UI = (U : Int)) ∧ cv = .int .i64 UI ∧ kv = .int .i64 KI ∧ Hid (XInv (t.drop (2 * j)) h U) ∧ ∃ q, wx = wr.drewN q)
          case atStart => exact ⟨0, 0, I, 0, rfl, Lib.hid ⟨by omega, rfl⟩, rfl, rfl, Lib.hid ⟨rfl, by decide⟩, 0, rfl⟩
          case round =>
            obtain ⟨h, U, KI, UI, hh, HK, rfl, rfl, HX, q, rfl⟩ := hrel
            have hU : U < 256 := by
              have h1 := HX.out.2
              have h3 : 16 ^ h ≤ 16 ^ 2 := Nat.pow_le_pow_right (by decide) (by omega)
              omega
            have hU0 : 0 ≤ UI := by have := HK.out.2; omega
            have hU1 : UI < 256 := by have := HK.out.2; omega
            have hK0 : 0 ≤ KI := by have := HK.out.1; omega
            have hK9 : KI ≤ 129 := by have := HK.out.1; omega
            by_cases hm : gk = 0
            · have hh2 : h = 2 := by omega
              have hK2 : ¬ KI < I + 2 := by have := HK.out.1; omega
              have hstep : t.take (2 * (j + 1)) = hexL (acc ++ [UInt8.ofNat U]) := by
                rw [show 2 * (j + 1) = 2 * j + 2 from by omega, List.take_add, HI.out.2.1, hexL_append]
                have := HX.out.1
                rw [hh2] at this
                rw [this]
                congr 1
                exact hexN_two U hU
              have Hst := Lib.hid hstep
              have hal : acc.length + 1 ≤ 1000000 := by rw [HI.out.2.2]; have := HjJ.out; omega
              have Hal := Lib.hid hal
              have hz : ((UInt8.ofNat U).toNat : Int) = UI := by
                rw [UInt8.toNat_ofNat', Nat.mod_eq_of_lt (show U < 2 ^ 8 from hU)]; exact HK.out.2.symm
              generalize UInt8.ofNat U = z at *
              have Hz := Lib.hid hz
              clear hstep hal hh2 hm hh hz hU HX HK
              go_wp2_with (at_builtin; refine wpList_bytes rfl (.tmp 98) (.tmp 101) rfl w3 wr _ _ [z] wr.heap.size 1 HB.out rfl (by decide) Hal.out ((below_drewN (Below.refl _ _) q).alloc (Nat.le_refl _) _) (alloc_cells (wr.drewN q) [z] _ _ (by simp [encB, Hz.out])) rfl rfl ?_; intro g2 cap2 w1 hb1; have Hb1 := Lib.hid hb1; clear hb1)
              go_roundg (J - (j + 1))
              case measure => have := Hj.out; have := Hm.out; omega
              case rel => exact ⟨j + 1, I + 2, acc ++ [z], by have := Hj.out; have := HjJ.out; omega, Lib.hid ⟨by have := HI.out.1; omega, Hst.out, by rw [List.length_append, HI.out.2.2]; rfl⟩, by go_num, Hb1.out⟩
            · have hh2 : h < 2 := by omega
              have hK2 : KI < I + 2 := by have := HK.out.1; omega
              have hKN : KI < (N : Int) := by have := HK.out.1; have := HI.out.1; have := HJ.out; have := HjJ.out; omega
              have hx : 2 * j + h + 1 < s.size := by have := HJ.out; have := HjJ.out; omega
              have hKn : KI.toNat = 2 * j + h + 1 := by have := HK.out.1; have := HI.out.1; omega
              obtain ⟨c, hc1, hc3, hc2⟩ := hget.out (2 * j + h) (by have := HjJ.out; omega) hx
              have hc1' : (t.drop (2 * j))[h]? = some c := by rw [List.getElem?_drop]; exact hc1
              have Hc1 := Lib.hid hc1'
              have Hc3 := Lib.hid hc3
              have Hh := Lib.hid hh; have Hm2 := Lib.hid hm
              clear hc1 hc1' hc3 hh hm hU
              go_wp2_with fail
              go_loopg [12] 16 (fun mm d wx => ∃ (D : Nat) (DI : Int), D + mm = 16 ∧ DI = (D : Int) ∧ d = .int .i64 DI ∧ Hid (∀ x, x < D → dig x ≠ c) ∧ ∃ q, wx = wr.drewN q)
              case atStart => exact ⟨0, 0, rfl, rfl, rfl, Lib.hid fun x hx => by omega, q, rfl⟩
              case round =>
                obtain ⟨D, DI, hD, hDI, rfl, hno, q2, rfl⟩ := hrel
                by_cases hm : gk = 0
                · have hD2 : DI = 16 := by omega
                  subst hD2
                  have hdd : decide ((16 : Int) < 16) = false := by decide
                  have hD16 : D = 16 := by omega
                  obtain ⟨q1, q2⟩ := Hno.out (.inr (.inr (.inr ⟨_, c, Hc3.out, fun d hd => hno.out d (by omega)⟩)))
                  have q1 := Lib.hid q1; have q2 := Lib.hid q2
                  clear hDI hm
                  go_wp2_with fail
                  go_quiet (fail)
                  have at1 := Hat4.out
                  have z0 := at1.z 0; have z1 := at1.z 1; have z2 := at1.z 2; have z3 := at1.z 3
                  obtain ⟨d0, d1, d2, d3, -, -⟩ := at1
                  go_wp2_with fail
                  exact bodyPost_ret (v := .tuple #[.agg #[.int .i64 0, .int .i64 0, .string ⟨#[]⟩, .int .u64 0], .bool false]) (by simp [results, Tryz.results38, go_sem, d0, d1, d2, d3]) rfl ⟨by first | rw [q1.out, q2.out] | rfl, by (first | rw [hA] | skip); exact ((((below_drewN (Hbb.out.trans (HB.out.below.mono hA3.out)) _).setCell (Nat.le_refl _) _).setCell (Nat.le_refl _) _).setCell (Nat.le_refl _) _).setCell (Nat.le_refl _) _⟩
                · have hD2 : D < 16 := by omega
                  have hDs : D < digits16.size := by rw [digits16_size]; exact hD2
                  have hD3 : DI < 16 := by omega
                  have hD0 : 0 ≤ DI := by omega
                  have hdd : decide (DI < 16) = true := by rw [decide_eq_true hD3]
                  have hat := digit16_at D hD2 hDs
                  have hDn : DI.toNat = D := by omega
                  have HDI := Lib.hid hDI; have HD := Lib.hid hD; have Hm3 := Lib.hid hm
                  clear hDI hD hm
                  by_cases hcd : dig D = c
                  · have hneq : ((((dig D).toNat : Int) != (c.toNat : Int))) = false := by rw [hcd]; simp
                    have Hcd := Lib.hid hcd
                    clear hcd
                    have hd16 : (DI == 16) = false := by rw [beq_eq_false_iff_ne]; omega
                    go_wp2_with fail
                    go_quiet (fail)
                    go_wp2_with fail
                    go_roundg (1 - h)
                    case measure => have := Hh.out; omega
                    case rel => exact ⟨h + 1, U * 16 + D, KI + 1, 16 * UI + DI, by have := Hh.out; omega, Lib.hid ⟨by have := HK.out.1; omega, by have := HK.out.2; have := HDI.out; omega⟩, by go_num, by go_num, Lib.hid (HX.out.next (by rw [Hc1.out, Hcd.out]) hD2), _, rfl⟩
                  · have hneq : ((((dig D).toNat : Int) != (c.toNat : Int))) = true := by
                      rw [bne_iff_ne]
                      intro e
                      exact hcd (UInt8.toNat_inj.1 (by omega))
                    have Hcd := Lib.hid hcd
                    clear hcd
                    go_wp2_with fail
                    go_quiet (fail)
                    go_wp2_with fail
                    go_roundg (15 - D)
                    case measure => have := HD.out; omega
                    case rel => exact ⟨D + 1, DI + 1, by have := HD.out; have := Hm3.out; omega, by have := HDI.out; omega, by go_num, Lib.hid fun x hx => by
                      rcases Nat.lt_or_eq_of_le (Nat.le_of_lt_succ hx) with h | h
                      · exact hno.out x h
                      · rw [h]; exact Hcd.out, _, rfl⟩
end Go.Proofs.YthhghlnbpigcjaaGreatDoor
namespace Go.Proofs.YthhghlnbpigcjaaGreatDoor
open Go.RowKit

/-- what ref.Lex hands back -/
def RefAns (w w' : World) (r : Option (List Tk) × Nat) (e : Ending) : Prop := ∃ v, e = .returned (.tuple #[v, .int .i64 (r.2 : Int), .bool r.1.isSome]) ∧ TBuf w w' v (lexT r)
theorem refAns_none {w W : World} {r : Option (List Tk) × Nat} {p : Nat} {P : Int} (h : r = (none, p)) (hp : P = (p : Int)) (hb : Below w.heap.size w W) : RefAns w W r (.returned (.tuple #[.slice none 0 0, .int .i64 P, .bool false])) := by
  subst h hp
  exact ⟨_, rfl, (TBuf.start w).later hb⟩
theorem refAns_some {w W : World} {r : Option (List Tk) × Nat} {x : List Tk} {v : Value} (h : r = (some x, 0)) (hb : TBuf w W v x) : RefAns w W r (.returned (.tuple #[v, .int .i64 0, .bool true])) := by
  subst h
  exact ⟨_, rfl, hb⟩
theorem TAt.kind {w : World} {b : Nat} {t : Tk} (h : TAt w b t) (k : Int) : TAt (w.setCell ⟨b, 0, none⟩ (.int .i64 k)) b { t with k := k } := by
  have ne : ∀ j : Nat, 0 ≠ j → (⟨b, 0, none⟩ : Addr) ≠ ⟨b, j, none⟩ := fun j e h => by injection h with _ h; exact e h
  obtain ⟨h0, h1, h2, h3, h4, h5, h6, h7, hz, hl⟩ := h
  refine ⟨cell_at h0 rfl, cell_off h1 (ne 1 (by decide)), cell_off h2 (ne 2 (by decide)), cell_off h3 (ne 3 (by decide)), cell_off h4 (ne 4 (by decide)), cell_off h5 (ne 5 (by decide)), cell_off h6 (ne 6 (by decide)), cell_off h7 (ne 7 (by decide)), fun o => ?_, by simpa [World.setCell] using hl⟩
  rw [World.frozen?_setCell]
  exact hz o
theorem TAt.oper {w : World} {b : Nat} {t : Tk} (h : TAt w b t) (k : Int) : TAt (w.setCell ⟨b, 3, none⟩ (.int .i64 k)) b { t with op := k } := by
  have ne : ∀ j : Nat, 3 ≠ j → (⟨b, 3, none⟩ : Addr) ≠ ⟨b, j, none⟩ := fun j e h => by injection h with _ h; exact e h
  obtain ⟨h0, h1, h2, h3, h4, h5, h6, h7, hz, hl⟩ := h
  refine ⟨cell_off h0 (ne 0 (by decide)), cell_off h1 (ne 1 (by decide)), cell_off h2 (ne 2 (by decide)), cell_at h3 rfl, cell_off h4 (ne 4 (by decide)), cell_off h5 (ne 5 (by decide)), cell_off h6 (ne 6 (by decide)), cell_off h7 (ne 7 (by decide)), fun o => ?_, by simpa [World.setCell] using hl⟩
  rw [World.frozen?_setCell]
  exact hz o
theorem TAt.word {w : World} {b : Nat} {t : Tk} (h : TAt w b t) (x : ByteArray) : TAt (w.setCell ⟨b, 2, none⟩ (.string x)) b { t with text := x.data.toList } := by
  have ne : ∀ j : Nat, 2 ≠ j → (⟨b, 2, none⟩ : Addr) ≠ ⟨b, j, none⟩ := fun j e h => by injection h with _ h; exact e h
  obtain ⟨h0, h1, h2, h3, h4, h5, h6, h7, hz, hl⟩ := h
  refine ⟨cell_off h0 (ne 0 (by decide)), cell_off h1 (ne 1 (by decide)), cell_at h2 rfl, cell_off h3 (ne 3 (by decide)), cell_off h4 (ne 4 (by decide)), cell_off h5 (ne 5 (by decide)), cell_off h6 (ne 6 (by decide)), cell_off h7 (ne 7 (by decide)), fun o => ?_, by simpa [World.setCell] using hl⟩
  rw [World.frozen?_setCell]
  exact hz o
theorem byte_not {c k : UInt8} (h : ¬ c = k) : ((c.toNat : Int) == (k.toNat : Int)) = false := beq_eq_false_iff_ne.2 fun e => h (UInt8.toNat_inj.1 (by omega))
theorem At.apart {W : World} {b c : Nat} {k n : Int} {s : ByteArray} {f : Int} (h : At W c k n s f) (u : Value) (i : Nat) (hbc : ¬ b = c) : At (W.setCell ⟨b, i, none⟩ u) c k n s f := by
  obtain ⟨h0, h1, h2, h3, hz, hl⟩ := h
  have ne : ∀ j : Nat, (⟨b, i, none⟩ : Addr) ≠ ⟨c, j, none⟩ := fun j h => by injection h with h _; exact hbc h
  refine ⟨cell_off h0 (ne _), cell_off h1 (ne _), cell_off h2 (ne _), cell_off h3 (ne _), fun o => ?_, by simpa [World.setCell] using hl⟩
  rw [World.frozen?_setCell]
  exact hz o
theorem TAt.lit {w : World} {b : Nat} {t : Tk} (h : TAt w b t) (x : Val) : TAt ((((w.setCell ⟨b, 4, none⟩ (.int .i64 x.k)).setCell ⟨b, 5, none⟩ (.int .i64 x.n)).setCell ⟨b, 6, none⟩ (.string x.s)).setCell ⟨b, 7, none⟩ (.int .u64 x.f)) b { t with v := x } := by
  have ne : ∀ i j : Nat, i ≠ j → (⟨b, i, none⟩ : Addr) ≠ ⟨b, j, none⟩ := fun i j e h => by injection h with _ h; exact e h
  obtain ⟨h0, h1, h2, h3, h4, h5, h6, h7, hz, hl⟩ := h
  have off : ∀ {j : Nat} {u : Value}, w.cell? ⟨b, j, none⟩ = some u → 4 ≠ j → 5 ≠ j → 6 ≠ j → 7 ≠ j → ((((w.setCell ⟨b, 4, none⟩ (.int .i64 x.k)).setCell ⟨b, 5, none⟩ (.int .i64 x.n)).setCell ⟨b, 6, none⟩ (.string x.s)).setCell ⟨b, 7, none⟩ (.int .u64 x.f)).cell? ⟨b, j, none⟩ = some u :=
    fun h e4 e5 e6 e7 => cell_off (cell_off (cell_off (cell_off h (ne _ _ e4)) (ne _ _ e5)) (ne _ _ e6)) (ne _ _ e7)
  refine ⟨off h0 (by decide) (by decide) (by decide) (by decide), off h1 (by decide) (by decide) (by decide) (by decide), off h2 (by decide) (by decide) (by decide) (by decide), off h3 (by decide) (by decide) (by decide) (by decide), ?_, ?_, ?_, ?_, fun o => ?_, ?_⟩
  · exact cell_off (cell_off (cell_off (cell_at h4 rfl) (ne 5 4 (by decide))) (ne 6 4 (by decide))) (ne 7 4 (by decide))
  · exact cell_off (cell_off (cell_at (cell_off h5 (ne 4 5 (by decide))) rfl) (ne 6 5 (by decide))) (ne 7 5 (by decide))
  · exact cell_off (cell_at (cell_off (cell_off h6 (ne 4 6 (by decide))) (ne 5 6 (by decide))) rfl) (ne 7 6 (by decide))
  · exact cell_at (cell_off (cell_off (cell_off h7 (ne 4 7 (by decide))) (ne 5 7 (by decide))) (ne 6 7 (by decide))) rfl
  · rw [World.frozen?_setCell, World.frozen?_setCell, World.frozen?_setCell, World.frozen?_setCell]
    exact hz o
  · simpa [World.setCell] using hl
/-- the loop of ref.Lex: where it stands -/
structure AtR (s : ByteArray) (r : Option (List Tk) × Nat) (g : Nat) (p : Nat) (I : Int) (o : List Tk) : Prop where
  sum : p + g = s.size
  int : I = (p : Int)
  ans : lexAt s.data.toList o p = r
  len : o.length ≤ p
theorem AtR.next {s : ByteArray} {r : Option (List Tk) × Nat} {g p : Nat} {I : Int} {o : List Tk} (h : AtR s r g p I o) {c : UInt8} {tk : Tk} {n : Nat} (hc : s.data.toList[p]? = some c) (h32 : ¬ c = 32) (ht : tokL (s.data.toList.drop p) = some (tk, n)) : AtR s r (s.size - (p + n)) (p + n) (I + (n : Int)) (o ++ [tk.put p]) ∧ 0 < n ∧ s.size - (p + n) < g := by
  have he := lexAt_tok s.data.toList o p hc h32 ht
  rw [h.ans] at he
  have hl : s.data.toList.length = s.size := (Lib.size_eq s).symm
  rw [hl] at he
  refine ⟨⟨by omega, by have := h.int; omega, he.1.symm, by rw [List.length_append]; have := h.len; have := he.2.1; simp only [List.length_cons, List.length_nil]; omega⟩, he.2.1, by have := h.sum; omega⟩
theorem AtR.blank {s : ByteArray} {r : Option (List Tk) × Nat} {g p : Nat} {I : Int} {o : List Tk} (h : AtR s r g p I o) (hc : s.data.toList[p]? = some 32) (hg : 0 < g) : AtR s r (s.size - (p + 1)) (p + 1) (I + 1) o ∧ s.size - (p + 1) < g := by
  refine ⟨⟨by have := h.sum; omega, by have := h.int; omega, by rw [← h.ans, lexAt_blank s.data.toList o p hc], by have := h.len; omega⟩, by have := h.sum; omega⟩
theorem AtR.bad {s : ByteArray} {r : Option (List Tk) × Nat} {g p : Nat} {I : Int} {o : List Tk} (h : AtR s r g p I o) {c : UInt8} (hc : s.data.toList[p]? = some c) (h32 : ¬ c = 32) (ht : tokL (s.data.toList.drop p) = none) : r = (none, p) := by
  rw [← h.ans, lexAt_bad s.data.toList o p hc h32 ht]
theorem AtR.fin {s : ByteArray} {r : Option (List Tk) × Nat} {p : Nat} {I : Int} {o : List Tk} (h : AtR s r 0 p I o) : r = (some o, 0) := by
  rw [← h.ans, lexAt_end _ _ _ (by rw [← Lib.size_eq]; have := h.sum; omega)]
/-- the first block of that number -/
def pickBlock (n : Nat) : Code → Option Code
  | .block m c => if m = n then some (.block m c) else pickBlock n c
  | .loop c => pickBlock n c
  | .seq a b => match pickBlock n a with
    | some c => some c
    | none => pickBlock n b
  | .scope c => pickBlock n c
  | .cond _ a b => match pickBlock n a with
    | some c => some c
    | none => pickBlock n b
  | _ => none
noncomputable def swCode : Code := ((Tryz.f25.body.bind (pickBlock 2)).getD .skip)
/-- what the switch leaves where there is a token -/
def SwR (s : ByteArray) (p : Nat) (I : Int) (b : Nat) (w0 : World) (i : Value) (wx : World) : Prop := ∃ (tk : Tk) (n : Nat) (J : Int), i = .int .i64 J ∧ (tokL (s.data.toList.drop p) = some (tk, n) ∧ J = I + (n : Int)) ∧ TAt wx b (tk.put p) ∧ Below w0.heap.size w0 wx
end Go.Proofs.YthhghlnbpigcjaaGreatDoor
namespace Go.Proofs.YthhghlnbpigcjaaGreatDoor
open Go.RowKit

set_option maxHeartbeats 32000000 in
set_option maxRecDepth 1000000 in
theorem sw40 (s : ByteArray) (p : Nat) (I N : Int) (c : UInt8) (b : Nat) (w0 W2 : World) (x1 x2 x3 x4 x5 x11 x12 x13 x14 x15 x16 x17 x18 x19 x20 x21 x22 x23 x24 x25 x26 x27 x28 x29 x30 x31 x32 x33 x34 x35 x37 x38 x39 x40 x41 x42 x43 x44 x45 x46 x47 x48 x49 x50 x51 x52 x53 x54 x55 x56 x57 x58 x59 x60 x61 x62 x63 x64 x65 x66 x67 x68 x69 x70 x71 x72 x73 x74 x75 x76 x77 x78 x79 x80 x81 x82 x83 x84 x85 x86 x87 x88 x89 x90 x91 x92 x93 x94 x95 x96 x97 x98 x99 x100 x101 x102 x103 x104 x105 x106 x107 x108 x109 x110 x111 x112 x113 x114 x115 x116 x117 x118 x119 x120 x121 x122 x123 x124 x125 x126 x127 x128 x129 x130 x131 x132 x133 x134 x135 x136 x137 x138 x139 x140 x141 x142 x143 x144 x145 x146 x147 x148 x149 x150 x151 x152 x153 x154 x155 x156 x157 x158 x159 x160 x161 x162 x163 x164 x165 x166 x167 x168 x169 x170 x171 x172 x173 x174 x175 x176 x177 x178 x179 x180 x181 x182 x183 x184 x185 x186 x187 x188 x189 : Value) (K : Act → World → Prop) (Q : Exit → Act → World → Prop)
    (hK : ∀ (i y2 y3 y4 y11 y12 y13 y17 y18 y19 y20 y21 y22 y23 y24 y25 y26 y27 y28 y29 y30 y31 y32 y33 y34 y35 y36 y37 y38 y39 y40 y41 y42 y43 y44 y45 y46 y47 y48 y49 y50 y51 y52 y53 y54 y55 y56 y57 y58 y59 y60 y61 y62 y63 y64 y65 y66 y67 y68 y69 y70 y71 y72 y73 y74 y75 y76 y77 y78 y79 y80 y81 y82 y83 y84 y85 y86 y87 y88 y89 y90 y91 y92 y93 y94 y95 y96 y97 y98 y99 y100 y101 y102 y103 y104 y105 y106 y107 y108 y109 y110 y111 y112 y113 y114 y115 y116 y117 y118 y119 y120 y121 y122 y123 y124 y125 y126 y127 y128 y129 y130 y131 y132 y133 y134 y135 y136 y137 y138 y139 y140 y141 y142 y143 y144 y145 y146 y147 y148 y149 y150 y151 y152 y153 y154 y155 y156 y157 y158 y159 y160 y161 y162 y163 y164 y165 y166 y167 y168 y169 y170 y171 y172 y173 y174 y175 y176 y177 y178 y179 y180 y181 y182 y183 y184 y185 y186 y187 y188 : Value) (wx : World), SwR s p I b w0 i wx → K ⟨#[.string s, x1, y2, y3, y4, x5, i, .int .u8 (c.toNat : Int), .int .i64 I, .int .u8 N, .pointer (some ⟨b, 0, none⟩), y11, y12, y13, x14, x15, x16, y17, y18, y19, y20, y21, y22, y23, y24, y25, y26, y27, y28, y29, y30, y31, y32, y33, y34, y35, y36, y37, y38, y39, y40, y41, y42, y43, y44, y45, y46, y47, y48, y49, y50, y51, y52, y53, y54, y55, y56, y57, y58, y59, y60, y61, y62, y63, y64, y65, y66, y67, y68, y69, y70, y71, y72, y73, y74, y75, y76, y77, y78, y79, y80, y81, y82, y83, y84, y85, y86, y87, y88, y89, y90, y91, y92, y93, y94, y95, y96, y97, y98, y99, y100, y101, y102, y103, y104, y105, y106, y107, y108, y109, y110, y111, y112, y113, y114, y115, y116, y117, y118, y119, y120, y121, y122, y123, y124, y125, y126, y127, y128, y129, y130, y131, y132, y133, y134, y135, y136, y137, y138, y139, y140, y141, y142, y143, y144, y145, y146, y147, y148, y149, y150, y151, y152, y153, y154, y155, y156, y157, y158, y159, y160, y161, y162, y163, y164, y165, y166, y167, y168, y169, y170, y171, y172, y173, y174, y175, y176, y177, y178, y179, y180, y181, y182, y183, y184, y185, y186, y187, y188, x189], []⟩ wx)
    (hret : ∀ (z6 z7 z8 z9 z10 z11 z12 z13 z17 z18 z19 z20 z21 z22 z23 z24 z25 z26 z27 z28 z29 z30 z31 z32 z33 z34 z35 z36 z37 z38 z39 z40 z41 z42 z43 z44 z45 z46 z47 z48 z49 z50 z51 z52 z53 z54 z55 z56 z57 z58 z59 z60 z61 z62 z63 z64 z65 z66 z67 z68 z69 z70 z71 z72 z73 z74 z75 z76 z77 z78 z79 z80 z81 z82 z83 z84 z85 z86 z87 z88 z89 z90 z91 z92 z93 z94 z95 z96 z97 z98 z99 z100 z101 z102 z103 z104 z105 z106 z107 z108 z109 z110 z111 z112 z113 z114 z115 z116 z117 z118 z119 z120 z121 z122 z123 z124 z125 z126 z127 z128 z129 z130 z131 z132 z133 z134 z135 z136 z137 z138 z139 z140 z141 z142 z143 z144 z145 z146 z147 z148 z149 z150 z151 z152 z153 z154 z155 z156 z157 z158 z159 z160 z161 z162 z163 z164 z165 z166 z167 z168 z169 z170 z171 z172 z173 z174 z175 z176 z177 z178 z179 z180 z181 z182 z183 z184 z185 z186 z187 z188 : Value) (wx : World), tokL (s.data.toList.drop p) = none → Below w0.heap.size w0 wx → Q .ret ⟨#[.string s, x1, .slice none 0 0, .int .i64 I, .bool false, x5, z6, z7, z8, z9, z10, z11, z12, z13, x14, x15, x16, z17, z18, z19, z20, z21, z22, z23, z24, z25, z26, z27, z28, z29, z30, z31, z32, z33, z34, z35, z36, z37, z38, z39, z40, z41, z42, z43, z44, z45, z46, z47, z48, z49, z50, z51, z52, z53, z54, z55, z56, z57, z58, z59, z60, z61, z62, z63, z64, z65, z66, z67, z68, z69, z70, z71, z72, z73, z74, z75, z76, z77, z78, z79, z80, z81, z82, z83, z84, z85, z86, z87, z88, z89, z90, z91, z92, z93, z94, z95, z96, z97, z98, z99, z100, z101, z102, z103, z104, z105, z106, z107, z108, z109, z110, z111, z112, z113, z114, z115, z116, z117, z118, z119, z120, z121, z122, z123, z124, z125, z126, z127, z128, z129, z130, z131, z132, z133, z134, z135, z136, z137, z138, z139, z140, z141, z142, z143, z144, z145, z146, z147, z148, z149, z150, z151, z152, z153, z154, z155, z156, z157, z158, z159, z160, z161, z162, z163, z164, z165, z166, z167, z168, z169, z170, z171, z172, z173, z174, z175, z176, z177, z178, z179, z180, z181, z182, z183, z184, z185, z186, z187, z188, x189], []⟩ wx)
    (Hl : Hid (∀ W, Below w0.heap.size w0 W → Laid W)) (hni : (s.size : Int) ≤ 100000) (hI : I = (p : Int)) (hps : p < s.size) (HN : Hid (N = 61 ↔ (s.data.toList.drop (p + 1)).head? = some 61)) (h32 : ¬ c = 32)
    (hlc : s.data.toList[p]? = some c) (Hat0 : Hid (TAt W2 b ⟨0, p, [], 0, ⟨0, 0, ⟨#[]⟩, 0⟩⟩)) (Hbw0 : Hid (Below w0.heap.size w0 W2)) (hb0 : w0.heap.size ≤ b) (h40 : c = 40) :
    Code.wp Tryz.prog swCode (Exit.then K Q) ⟨#[.string s, x1, x2, x3, x4, x5, .int .i64 (I + 1), .int .u8 (c.toNat : Int), .int .i64 I, .int .u8 N, .pointer (some ⟨b, 0, none⟩), x11, x12, x13, x14, x15, x16, x17, x18, x19, x20, x21, x22, x23, x24, x25, x26, x27, x28, x29, x30, x31, x32, x33, x34, x35, .int .u8 (c.toNat : Int), x37, x38, x39, x40, x41, x42, x43, x44, x45, x46, x47, x48, x49, x50, x51, x52, x53, x54, x55, x56, x57, x58, x59, x60, x61, x62, x63, x64, x65, x66, x67, x68, x69, x70, x71, x72, x73, x74, x75, x76, x77, x78, x79, x80, x81, x82, x83, x84, x85, x86, x87, x88, x89, x90, x91, x92, x93, x94, x95, x96, x97, x98, x99, x100, x101, x102, x103, x104, x105, x106, x107, x108, x109, x110, x111, x112, x113, x114, x115, x116, x117, x118, x119, x120, x121, x122, x123, x124, x125, x126, x127, x128, x129, x130, x131, x132, x133, x134, x135, x136, x137, x138, x139, x140, x141, x142, x143, x144, x145, x146, x147, x148, x149, x150, x151, x152, x153, x154, x155, x156, x157, x158, x159, x160, x161, x162, x163, x164, x165, x166, x167, x168, x169, x170, x171, x172, x173, x174, x175, x176, x177, x178, x179, x180, x181, x182, x183, x184, x185, x186, x187, x188, x189], []⟩ W2 := by
  have Hlen : Hid (s.data.toList.length = s.size) := Lib.hid (Lib.size_eq s).symm
  have hInt := Lib.hid hI; have Hlc := Lib.hid hlc; have Hb0 := Lib.hid hb0
  have HK := Lib.hid hK; have Hret := Lib.hid hret
  have hI0 : 0 ≤ I := by omega
  have hI1 : I < (s.size : Int) := by omega
  have hni3 : I + 1 ≤ 100000 := by omega
  have hIj : I.toNat = p := by omega
  have htok := tokL_cons c (s.data.toList.drop (p + 1))
  rw [← (drop_at hlc).1] at htok
  have hz0 := Hat0.out.z 0; have hz2 := Hat0.out.z 2; have hz3 := Hat0.out.z 3
  have hc0 := Hat0.out.c0; have hc2 := Hat0.out.c2; have hc3 := Hat0.out.c3
  simp only at hc0 hc2 hc3
  clear hK hret hI hlc hb0
  have e32 : ((c.toNat : Int) == 32) = false := by rw [h40] <;> rfl
  have e40 : ((c.toNat : Int) == 40) = true := by rw [h40] <;> rfl
  have e41 : ((c.toNat : Int) == 41) = false := by rw [h40] <;> rfl
  have e61 : ((c.toNat : Int) == 61) = false := by rw [h40] <;> rfl
  have e33 : ((c.toNat : Int) == 33) = false := by rw [h40] <;> rfl
  have e60 : ((c.toNat : Int) == 60) = false := by rw [h40] <;> rfl
  have e62 : ((c.toNat : Int) == 62) = false := by rw [h40] <;> rfl
  have e36 : ((c.toNat : Int) == 36) = false := by rw [h40] <;> rfl
  have e0 : ((c.toNat : Int) != 33) = true := by rw [h40] <;> rfl
  have Ht := Lib.hid (show tokL (s.data.toList.drop p) = some ((Tk.plain 4 0), 1) from by rw [htok, h40]; rfl)
  clear htok h32 h40
  conv => arg 2; whnf
  go_wp2_with fail
  exact HK.out _ _ _ _ _ _ _ _ _ _ _ _ _ _ _ _ _ _ _ _ _ _ _ _ _ _ _ _ _ _ _ _ _ _ _ _ _ _ _ _ _ _ _ _ _ _ _ _ _ _ _ _ _ _ _ _ _ _ _ _ _ _ _ _ _ _ _ _ _ _ _ _ _ _ _ _ _ _ _ _ _ _ _ _ _ _ _ _ _ _ _ _ _ _ _ _ _ _ _ _ _ _ _ _ _ _ _ _ _ _ _ _ _ _ _ _ _ _ _ _ _ _ _ _ _ _ _ _ _ _ _ _ _ _ _ _ _ _ _ _ _ _ _ _ _ _ _ _ _ _ _ _ _ _ _ _ _ _ _ _ _ _ _ _ _ _ _ _ _ _ _ _ _ _ _ _ _ _ _ _ ⟨(Tk.plain 4 0), 1, _, rfl, ⟨Ht.out, by first | rfl | omega⟩, (Hat0.out.kind 4), (show Below w0.heap.size w0 (W2.setCell ⟨b, 0, none⟩ (.int .i64 4)) from Hbw0.out.setCell Hb0.out _)⟩
set_option maxHeartbeats 32000000 in
set_option maxRecDepth 1000000 in
theorem sw41 (s : ByteArray) (p : Nat) (I N : Int) (c : UInt8) (b : Nat) (w0 W2 : World) (x1 x2 x3 x4 x5 x11 x12 x13 x14 x15 x16 x17 x18 x19 x20 x21 x22 x23 x24 x25 x26 x27 x28 x29 x30 x31 x32 x33 x34 x35 x37 x38 x39 x40 x41 x42 x43 x44 x45 x46 x47 x48 x49 x50 x51 x52 x53 x54 x55 x56 x57 x58 x59 x60 x61 x62 x63 x64 x65 x66 x67 x68 x69 x70 x71 x72 x73 x74 x75 x76 x77 x78 x79 x80 x81 x82 x83 x84 x85 x86 x87 x88 x89 x90 x91 x92 x93 x94 x95 x96 x97 x98 x99 x100 x101 x102 x103 x104 x105 x106 x107 x108 x109 x110 x111 x112 x113 x114 x115 x116 x117 x118 x119 x120 x121 x122 x123 x124 x125 x126 x127 x128 x129 x130 x131 x132 x133 x134 x135 x136 x137 x138 x139 x140 x141 x142 x143 x144 x145 x146 x147 x148 x149 x150 x151 x152 x153 x154 x155 x156 x157 x158 x159 x160 x161 x162 x163 x164 x165 x166 x167 x168 x169 x170 x171 x172 x173 x174 x175 x176 x177 x178 x179 x180 x181 x182 x183 x184 x185 x186 x187 x188 x189 : Value) (K : Act → World → Prop) (Q : Exit → Act → World → Prop)
    (hK : ∀ (i y2 y3 y4 y11 y12 y13 y17 y18 y19 y20 y21 y22 y23 y24 y25 y26 y27 y28 y29 y30 y31 y32 y33 y34 y35 y36 y37 y38 y39 y40 y41 y42 y43 y44 y45 y46 y47 y48 y49 y50 y51 y52 y53 y54 y55 y56 y57 y58 y59 y60 y61 y62 y63 y64 y65 y66 y67 y68 y69 y70 y71 y72 y73 y74 y75 y76 y77 y78 y79 y80 y81 y82 y83 y84 y85 y86 y87 y88 y89 y90 y91 y92 y93 y94 y95 y96 y97 y98 y99 y100 y101 y102 y103 y104 y105 y106 y107 y108 y109 y110 y111 y112 y113 y114 y115 y116 y117 y118 y119 y120 y121 y122 y123 y124 y125 y126 y127 y128 y129 y130 y131 y132 y133 y134 y135 y136 y137 y138 y139 y140 y141 y142 y143 y144 y145 y146 y147 y148 y149 y150 y151 y152 y153 y154 y155 y156 y157 y158 y159 y160 y161 y162 y163 y164 y165 y166 y167 y168 y169 y170 y171 y172 y173 y174 y175 y176 y177 y178 y179 y180 y181 y182 y183 y184 y185 y186 y187 y188 : Value) (wx : World), SwR s p I b w0 i wx → K ⟨#[.string s, x1, y2, y3, y4, x5, i, .int .u8 (c.toNat : Int), .int .i64 I, .int .u8 N, .pointer (some ⟨b, 0, none⟩), y11, y12, y13, x14, x15, x16, y17, y18, y19, y20, y21, y22, y23, y24, y25, y26, y27, y28, y29, y30, y31, y32, y33, y34, y35, y36, y37, y38, y39, y40, y41, y42, y43, y44, y45, y46, y47, y48, y49, y50, y51, y52, y53, y54, y55, y56, y57, y58, y59, y60, y61, y62, y63, y64, y65, y66, y67, y68, y69, y70, y71, y72, y73, y74, y75, y76, y77, y78, y79, y80, y81, y82, y83, y84, y85, y86, y87, y88, y89, y90, y91, y92, y93, y94, y95, y96, y97, y98, y99, y100, y101, y102, y103, y104, y105, y106, y107, y108, y109, y110, y111, y112, y113, y114, y115, y116, y117, y118, y119, y120, y121, y122, y123, y124, y125, y126, y127, y128, y129, y130, y131, y132, y133, y134, y135, y136, y137, y138, y139, y140, y141, y142, y143, y144, y145, y146, y147, y148, y149, y150, y151, y152, y153, y154, y155, y156, y157, y158, y159, y160, y161, y162, y163, y164, y165, y166, y167, y168, y169, y170, y171, y172, y173, y174, y175, y176, y177, y178, y179, y180, y181, y182, y183, y184, y185, y186, y187, y188, x189], []⟩ wx)
    (hret : ∀ (z6 z7 z8 z9 z10 z11 z12 z13 z17 z18 z19 z20 z21 z22 z23 z24 z25 z26 z27 z28 z29 z30 z31 z32 z33 z34 z35 z36 z37 z38 z39 z40 z41 z42 z43 z44 z45 z46 z47 z48 z49 z50 z51 z52 z53 z54 z55 z56 z57 z58 z59 z60 z61 z62 z63 z64 z65 z66 z67 z68 z69 z70 z71 z72 z73 z74 z75 z76 z77 z78 z79 z80 z81 z82 z83 z84 z85 z86 z87 z88 z89 z90 z91 z92 z93 z94 z95 z96 z97 z98 z99 z100 z101 z102 z103 z104 z105 z106 z107 z108 z109 z110 z111 z112 z113 z114 z115 z116 z117 z118 z119 z120 z121 z122 z123 z124 z125 z126 z127 z128 z129 z130 z131 z132 z133 z134 z135 z136 z137 z138 z139 z140 z141 z142 z143 z144 z145 z146 z147 z148 z149 z150 z151 z152 z153 z154 z155 z156 z157 z158 z159 z160 z161 z162 z163 z164 z165 z166 z167 z168 z169 z170 z171 z172 z173 z174 z175 z176 z177 z178 z179 z180 z181 z182 z183 z184 z185 z186 z187 z188 : Value) (wx : World), tokL (s.data.toList.drop p) = none → Below w0.heap.size w0 wx → Q .ret ⟨#[.string s, x1, .slice none 0 0, .int .i64 I, .bool false, x5, z6, z7, z8, z9, z10, z11, z12, z13, x14, x15, x16, z17, z18, z19, z20, z21, z22, z23, z24, z25, z26, z27, z28, z29, z30, z31, z32, z33, z34, z35, z36, z37, z38, z39, z40, z41, z42, z43, z44, z45, z46, z47, z48, z49, z50, z51, z52, z53, z54, z55, z56, z57, z58, z59, z60, z61, z62, z63, z64, z65, z66, z67, z68, z69, z70, z71, z72, z73, z74, z75, z76, z77, z78, z79, z80, z81, z82, z83, z84, z85, z86, z87, z88, z89, z90, z91, z92, z93, z94, z95, z96, z97, z98, z99, z100, z101, z102, z103, z104, z105, z106, z107, z108, z109, z110, z111, z112, z113, z114, z115, z116, z117, z118, z119, z120, z121, z122, z123, z124, z125, z126, z127, z128, z129, z130, z131, z132, z133, z134, z135, z136, z137, z138, z139, z140, z141, z142, z143, z144, z145, z146, z147, z148, z149, z150, z151, z152, z153, z154, z155, z156, z157, z158, z159, z160, z161, z162, z163, z164, z165, z166, z167, z168, z169, z170, z171, z172, z173, z174, z175, z176, z177, z178, z179, z180, z181, z182, z183, z184, z185, z186, z187, z188, x189], []⟩ wx)
    (Hl : Hid (∀ W, Below w0.heap.size w0 W → Laid W)) (hni : (s.size : Int) ≤ 100000) (hI : I = (p : Int)) (hps : p < s.size) (HN : Hid (N = 61 ↔ (s.data.toList.drop (p + 1)).head? = some 61)) (h32 : ¬ c = 32)
    (hlc : s.data.toList[p]? = some c) (Hat0 : Hid (TAt W2 b ⟨0, p, [], 0, ⟨0, 0, ⟨#[]⟩, 0⟩⟩)) (Hbw0 : Hid (Below w0.heap.size w0 W2)) (hb0 : w0.heap.size ≤ b) (h41 : c = 41) :
    Code.wp Tryz.prog swCode (Exit.then K Q) ⟨#[.string s, x1, x2, x3, x4, x5, .int .i64 (I + 1), .int .u8 (c.toNat : Int), .int .i64 I, .int .u8 N, .pointer (some ⟨b, 0, none⟩), x11, x12, x13, x14, x15, x16, x17, x18, x19, x20, x21, x22, x23, x24, x25, x26, x27, x28, x29, x30, x31, x32, x33, x34, x35, .int .u8 (c.toNat : Int), x37, x38, x39, x40, x41, x42, x43, x44, x45, x46, x47, x48, x49, x50, x51, x52, x53, x54, x55, x56, x57, x58, x59, x60, x61, x62, x63, x64, x65, x66, x67, x68, x69, x70, x71, x72, x73, x74, x75, x76, x77, x78, x79, x80, x81, x82, x83, x84, x85, x86, x87, x88, x89, x90, x91, x92, x93, x94, x95, x96, x97, x98, x99, x100, x101, x102, x103, x104, x105, x106, x107, x108, x109, x110, x111, x112, x113, x114, x115, x116, x117, x118, x119, x120, x121, x122, x123, x124, x125, x126, x127, x128, x129, x130, x131, x132, x133, x134, x135, x136, x137, x138, x139, x140, x141, x142, x143, x144, x145, x146, x147, x148, x149, x150, x151, x152, x153, x154, x155, x156, x157, x158, x159, x160, x161, x162, x163, x164, x165, x166, x167, x168, x169, x170, x171, x172, x173, x174, x175, x176, x177, x178, x179, x180, x181, x182, x183, x184, x185, x186, x187, x188, x189], []⟩ W2 := by
  have Hlen : Hid (s.data.toList.length = s.size) := Lib.hid (Lib.size_eq s).symm
  have hInt := Lib.hid hI; have Hlc := Lib.hid hlc; have Hb0 := Lib.hid hb0
  have HK := Lib.hid hK; have Hret := Lib.hid hret
  have hI0 : 0 ≤ I := by omega
  have hI1 : I < (s.size : Int) := by omega
  have hni3 : I + 1 ≤ 100000 := by omega
  have hIj : I.toNat = p := by omega
  have htok := tokL_cons c (s.data.toList.drop (p + 1))
  rw [← (drop_at hlc).1] at htok
  have hz0 := Hat0.out.z 0; have hz2 := Hat0.out.z 2; have hz3 := Hat0.out.z 3
  have hc0 := Hat0.out.c0; have hc2 := Hat0.out.c2; have hc3 := Hat0.out.c3
  simp only at hc0 hc2 hc3
  clear hK hret hI hlc hb0
  have e32 : ((c.toNat : Int) == 32) = false := by rw [h41] <;> rfl
  have e40 : ((c.toNat : Int) == 40) = false := by rw [h41] <;> rfl
  have e41 : ((c.toNat : Int) == 41) = true := by rw [h41] <;> rfl
  have e61 : ((c.toNat : Int) == 61) = false := by rw [h41] <;> rfl
  have e33 : ((c.toNat : Int) == 33) = false := by rw [h41] <;> rfl
  have e60 : ((c.toNat : Int) == 60) = false := by rw [h41] <;> rfl
  have e62 : ((c.toNat : Int) == 62) = false := by rw [h41] <;> rfl
  have e36 : ((c.toNat : Int) == 36) = false := by rw [h41] <;> rfl
  have e0 : ((c.toNat : Int) != 33) = true := by rw [h41] <;> rfl
  have Ht := Lib.hid (show tokL (s.data.toList.drop p) = some ((Tk.plain 5 0), 1) from by rw [htok, h41]; rfl)
  clear htok h32 h41
  conv => arg 2; whnf
  go_wp2_with fail
  exact HK.out _ _ _ _ _ _ _ _ _ _ _ _ _ _ _ _ _ _ _ _ _ _ _ _ _ _ _ _ _ _ _ _ _ _ _ _ _ _ _ _ _ _ _ _ _ _ _ _ _ _ _ _ _ _ _ _ _ _ _ _ _ _ _ _ _ _ _ _ _ _ _ _ _ _ _ _ _ _ _ _ _ _ _ _ _ _ _ _ _ _ _ _ _ _ _ _ _ _ _ _ _ _ _ _ _ _ _ _ _ _ _ _ _ _ _ _ _ _ _ _ _ _ _ _ _ _ _ _ _ _ _ _ _ _ _ _ _ _ _ _ _ _ _ _ _ _ _ _ _ _ _ _ _ _ _ _ _ _ _ _ _ _ _ _ _ _ _ _ _ _ _ _ _ _ _ _ _ _ _ _ ⟨(Tk.plain 5 0), 1, _, rfl, ⟨Ht.out, by first | rfl | omega⟩, (Hat0.out.kind 5), (show Below w0.heap.size w0 (W2.setCell ⟨b, 0, none⟩ (.int .i64 5)) from Hbw0.out.setCell Hb0.out _)⟩
set_option maxHeartbeats 32000000 in
set_option maxRecDepth 1000000 in
theorem sw61 (s : ByteArray) (p : Nat) (I N : Int) (c : UInt8) (b : Nat) (w0 W2 : World) (x1 x2 x3 x4 x5 x11 x12 x13 x14 x15 x16 x17 x18 x19 x20 x21 x22 x23 x24 x25 x26 x27 x28 x29 x30 x31 x32 x33 x34 x35 x37 x38 x39 x40 x41 x42 x43 x44 x45 x46 x47 x48 x49 x50 x51 x52 x53 x54 x55 x56 x57 x58 x59 x60 x61 x62 x63 x64 x65 x66 x67 x68 x69 x70 x71 x72 x73 x74 x75 x76 x77 x78 x79 x80 x81 x82 x83 x84 x85 x86 x87 x88 x89 x90 x91 x92 x93 x94 x95 x96 x97 x98 x99 x100 x101 x102 x103 x104 x105 x106 x107 x108 x109 x110 x111 x112 x113 x114 x115 x116 x117 x118 x119 x120 x121 x122 x123 x124 x125 x126 x127 x128 x129 x130 x131 x132 x133 x134 x135 x136 x137 x138 x139 x140 x141 x142 x143 x144 x145 x146 x147 x148 x149 x150 x151 x152 x153 x154 x155 x156 x157 x158 x159 x160 x161 x162 x163 x164 x165 x166 x167 x168 x169 x170 x171 x172 x173 x174 x175 x176 x177 x178 x179 x180 x181 x182 x183 x184 x185 x186 x187 x188 x189 : Value) (K : Act → World → Prop) (Q : Exit → Act → World → Prop)
    (hK : ∀ (i y2 y3 y4 y11 y12 y13 y17 y18 y19 y20 y21 y22 y23 y24 y25 y26 y27 y28 y29 y30 y31 y32 y33 y34 y35 y36 y37 y38 y39 y40 y41 y42 y43 y44 y45 y46 y47 y48 y49 y50 y51 y52 y53 y54 y55 y56 y57 y58 y59 y60 y61 y62 y63 y64 y65 y66 y67 y68 y69 y70 y71 y72 y73 y74 y75 y76 y77 y78 y79 y80 y81 y82 y83 y84 y85 y86 y87 y88 y89 y90 y91 y92 y93 y94 y95 y96 y97 y98 y99 y100 y101 y102 y103 y104 y105 y106 y107 y108 y109 y110 y111 y112 y113 y114 y115 y116 y117 y118 y119 y120 y121 y122 y123 y124 y125 y126 y127 y128 y129 y130 y131 y132 y133 y134 y135 y136 y137 y138 y139 y140 y141 y142 y143 y144 y145 y146 y147 y148 y149 y150 y151 y152 y153 y154 y155 y156 y157 y158 y159 y160 y161 y162 y163 y164 y165 y166 y167 y168 y169 y170 y171 y172 y173 y174 y175 y176 y177 y178 y179 y180 y181 y182 y183 y184 y185 y186 y187 y188 : Value) (wx : World), SwR s p I b w0 i wx → K ⟨#[.string s, x1, y2, y3, y4, x5, i, .int .u8 (c.toNat : Int), .int .i64 I, .int .u8 N, .pointer (some ⟨b, 0, none⟩), y11, y12, y13, x14, x15, x16, y17, y18, y19, y20, y21, y22, y23, y24, y25, y26, y27, y28, y29, y30, y31, y32, y33, y34, y35, y36, y37, y38, y39, y40, y41, y42, y43, y44, y45, y46, y47, y48, y49, y50, y51, y52, y53, y54, y55, y56, y57, y58, y59, y60, y61, y62, y63, y64, y65, y66, y67, y68, y69, y70, y71, y72, y73, y74, y75, y76, y77, y78, y79, y80, y81, y82, y83, y84, y85, y86, y87, y88, y89, y90, y91, y92, y93, y94, y95, y96, y97, y98, y99, y100, y101, y102, y103, y104, y105, y106, y107, y108, y109, y110, y111, y112, y113, y114, y115, y116, y117, y118, y119, y120, y121, y122, y123, y124, y125, y126, y127, y128, y129, y130, y131, y132, y133, y134, y135, y136, y137, y138, y139, y140, y141, y142, y143, y144, y145, y146, y147, y148, y149, y150, y151, y152, y153, y154, y155, y156, y157, y158, y159, y160, y161, y162, y163, y164, y165, y166, y167, y168, y169, y170, y171, y172, y173, y174, y175, y176, y177, y178, y179, y180, y181, y182, y183, y184, y185, y186, y187, y188, x189], []⟩ wx)
    (hret : ∀ (z6 z7 z8 z9 z10 z11 z12 z13 z17 z18 z19 z20 z21 z22 z23 z24 z25 z26 z27 z28 z29 z30 z31 z32 z33 z34 z35 z36 z37 z38 z39 z40 z41 z42 z43 z44 z45 z46 z47 z48 z49 z50 z51 z52 z53 z54 z55 z56 z57 z58 z59 z60 z61 z62 z63 z64 z65 z66 z67 z68 z69 z70 z71 z72 z73 z74 z75 z76 z77 z78 z79 z80 z81 z82 z83 z84 z85 z86 z87 z88 z89 z90 z91 z92 z93 z94 z95 z96 z97 z98 z99 z100 z101 z102 z103 z104 z105 z106 z107 z108 z109 z110 z111 z112 z113 z114 z115 z116 z117 z118 z119 z120 z121 z122 z123 z124 z125 z126 z127 z128 z129 z130 z131 z132 z133 z134 z135 z136 z137 z138 z139 z140 z141 z142 z143 z144 z145 z146 z147 z148 z149 z150 z151 z152 z153 z154 z155 z156 z157 z158 z159 z160 z161 z162 z163 z164 z165 z166 z167 z168 z169 z170 z171 z172 z173 z174 z175 z176 z177 z178 z179 z180 z181 z182 z183 z184 z185 z186 z187 z188 : Value) (wx : World), tokL (s.data.toList.drop p) = none → Below w0.heap.size w0 wx → Q .ret ⟨#[.string s, x1, .slice none 0 0, .int .i64 I, .bool false, x5, z6, z7, z8, z9, z10, z11, z12, z13, x14, x15, x16, z17, z18, z19, z20, z21, z22, z23, z24, z25, z26, z27, z28, z29, z30, z31, z32, z33, z34, z35, z36, z37, z38, z39, z40, z41, z42, z43, z44, z45, z46, z47, z48, z49, z50, z51, z52, z53, z54, z55, z56, z57, z58, z59, z60, z61, z62, z63, z64, z65, z66, z67, z68, z69, z70, z71, z72, z73, z74, z75, z76, z77, z78, z79, z80, z81, z82, z83, z84, z85, z86, z87, z88, z89, z90, z91, z92, z93, z94, z95, z96, z97, z98, z99, z100, z101, z102, z103, z104, z105, z106, z107, z108, z109, z110, z111, z112, z113, z114, z115, z116, z117, z118, z119, z120, z121, z122, z123, z124, z125, z126, z127, z128, z129, z130, z131, z132, z133, z134, z135, z136, z137, z138, z139, z140, z141, z142, z143, z144, z145, z146, z147, z148, z149, z150, z151, z152, z153, z154, z155, z156, z157, z158, z159, z160, z161, z162, z163, z164, z165, z166, z167, z168, z169, z170, z171, z172, z173, z174, z175, z176, z177, z178, z179, z180, z181, z182, z183, z184, z185, z186, z187, z188, x189], []⟩ wx)
    (Hl : Hid (∀ W, Below w0.heap.size w0 W → Laid W)) (hni : (s.size : Int) ≤ 100000) (hI : I = (p : Int)) (hps : p < s.size) (HN : Hid (N = 61 ↔ (s.data.toList.drop (p + 1)).head? = some 61)) (h32 : ¬ c = 32)
    (hlc : s.data.toList[p]? = some c) (Hat0 : Hid (TAt W2 b ⟨0, p, [], 0, ⟨0, 0, ⟨#[]⟩, 0⟩⟩)) (Hbw0 : Hid (Below w0.heap.size w0 W2)) (hb0 : w0.heap.size ≤ b) (h61 : c = 61) :
    Code.wp Tryz.prog swCode (Exit.then K Q) ⟨#[.string s, x1, x2, x3, x4, x5, .int .i64 (I + 1), .int .u8 (c.toNat : Int), .int .i64 I, .int .u8 N, .pointer (some ⟨b, 0, none⟩), x11, x12, x13, x14, x15, x16, x17, x18, x19, x20, x21, x22, x23, x24, x25, x26, x27, x28, x29, x30, x31, x32, x33, x34, x35, .int .u8 (c.toNat : Int), x37, x38, x39, x40, x41, x42, x43, x44, x45, x46, x47, x48, x49, x50, x51, x52, x53, x54, x55, x56, x57, x58, x59, x60, x61, x62, x63, x64, x65, x66, x67, x68, x69, x70, x71, x72, x73, x74, x75, x76, x77, x78, x79, x80, x81, x82, x83, x84, x85, x86, x87, x88, x89, x90, x91, x92, x93, x94, x95, x96, x97, x98, x99, x100, x101, x102, x103, x104, x105, x106, x107, x108, x109, x110, x111, x112, x113, x114, x115, x116, x117, x118, x119, x120, x121, x122, x123, x124, x125, x126, x127, x128, x129, x130, x131, x132, x133, x134, x135, x136, x137, x138, x139, x140, x141, x142, x143, x144, x145, x146, x147, x148, x149, x150, x151, x152, x153, x154, x155, x156, x157, x158, x159, x160, x161, x162, x163, x164, x165, x166, x167, x168, x169, x170, x171, x172, x173, x174, x175, x176, x177, x178, x179, x180, x181, x182, x183, x184, x185, x186, x187, x188, x189], []⟩ W2 := by
  have Hlen : Hid (s.data.toList.length = s.size) := Lib.hid (Lib.size_eq s).symm
  have hInt := Lib.hid hI; have Hlc := Lib.hid hlc; have Hb0 := Lib.hid hb0
  have HK := Lib.hid hK; have Hret := Lib.hid hret
  have hI0 : 0 ≤ I := by omega
  have hI1 : I < (s.size : Int) := by omega
  have hni3 : I + 1 ≤ 100000 := by omega
  have hIj : I.toNat = p := by omega
  have htok := tokL_cons c (s.data.toList.drop (p + 1))
  rw [← (drop_at hlc).1] at htok
  have hz0 := Hat0.out.z 0; have hz2 := Hat0.out.z 2; have hz3 := Hat0.out.z 3
  have hc0 := Hat0.out.c0; have hc2 := Hat0.out.c2; have hc3 := Hat0.out.c3
  simp only at hc0 hc2 hc3
  clear hK hret hI hlc hb0
  have e32 : ((c.toNat : Int) == 32) = false := by rw [h61] <;> rfl
  have e40 : ((c.toNat : Int) == 40) = false := by rw [h61] <;> rfl
  have e41 : ((c.toNat : Int) == 41) = false := by rw [h61] <;> rfl
  have e61 : ((c.toNat : Int) == 61) = true := by rw [h61] <;> rfl
  have e33 : ((c.toNat : Int) == 33) = false := by rw [h61] <;> rfl
  have e60 : ((c.toNat : Int) == 60) = false := by rw [h61] <;> rfl
  have e62 : ((c.toNat : Int) == 62) = false := by rw [h61] <;> rfl
  have e36 : ((c.toNat : Int) == 36) = false := by rw [h61] <;> rfl
  have e0 : ((c.toNat : Int) != 33) = true := by rw [h61] <;> rfl
  have Ht := Lib.hid (show tokL (s.data.toList.drop p) = some ((Tk.plain 2 0), 1) from by rw [htok, h61]; rfl)
  clear htok h32 h61
  conv => arg 2; whnf
  go_wp2_with fail
  exact HK.out _ _ _ _ _ _ _ _ _ _ _ _ _ _ _ _ _ _ _ _ _ _ _ _ _ _ _ _ _ _ _ _ _ _ _ _ _ _ _ _ _ _ _ _ _ _ _ _ _ _ _ _ _ _ _ _ _ _ _ _ _ _ _ _ _ _ _ _ _ _ _ _ _ _ _ _ _ _ _ _ _ _ _ _ _ _ _ _ _ _ _ _ _ _ _ _ _ _ _ _ _ _ _ _ _ _ _ _ _ _ _ _ _ _ _ _ _ _ _ _ _ _ _ _ _ _ _ _ _ _ _ _ _ _ _ _ _ _ _ _ _ _ _ _ _ _ _ _ _ _ _ _ _ _ _ _ _ _ _ _ _ _ _ _ _ _ _ _ _ _ _ _ _ _ _ _ _ _ _ _ ⟨(Tk.plain 2 0), 1, _, rfl, ⟨Ht.out, by first | rfl | omega⟩, (Hat0.out.kind 2), (show Below w0.heap.size w0 (W2.setCell ⟨b, 0, none⟩ (.int .i64 2)) from Hbw0.out.setCell Hb0.out _)⟩
end Go.Proofs.YthhghlnbpigcjaaGreatDoor
namespace Go.Proofs.YthhghlnbpigcjaaGreatDoor
open Go.RowKit

set_option maxHeartbeats 32000000 in
set_option maxRecDepth 1000000 in
theorem sw33 (s : ByteArray) (p : Nat) (I N : Int) (c : UInt8) (b : Nat) (w0 W2 : World) (x1 x2 x3 x4 x5 x11 x12 x13 x14 x15 x16 x17 x18 x19 x20 x21 x22 x23 x24 x25 x26 x27 x28 x29 x30 x31 x32 x33 x34 x35 x37 x38 x39 x40 x41 x42 x43 x44 x45 x46 x47 x48 x49 x50 x51 x52 x53 x54 x55 x56 x57 x58 x59 x60 x61 x62 x63 x64 x65 x66 x67 x68 x69 x70 x71 x72 x73 x74 x75 x76 x77 x78 x79 x80 x81 x82 x83 x84 x85 x86 x87 x88 x89 x90 x91 x92 x93 x94 x95 x96 x97 x98 x99 x100 x101 x102 x103 x104 x105 x106 x107 x108 x109 x110 x111 x112 x113 x114 x115 x116 x117 x118 x119 x120 x121 x122 x123 x124 x125 x126 x127 x128 x129 x130 x131 x132 x133 x134 x135 x136 x137 x138 x139 x140 x141 x142 x143 x144 x145 x146 x147 x148 x149 x150 x151 x152 x153 x154 x155 x156 x157 x158 x159 x160 x161 x162 x163 x164 x165 x166 x167 x168 x169 x170 x171 x172 x173 x174 x175 x176 x177 x178 x179 x180 x181 x182 x183 x184 x185 x186 x187 x188 x189 : Value) (K : Act → World → Prop) (Q : Exit → Act → World → Prop)
    (hK : ∀ (i y2 y3 y4 y11 y12 y13 y17 y18 y19 y20 y21 y22 y23 y24 y25 y26 y27 y28 y29 y30 y31 y32 y33 y34 y35 y36 y37 y38 y39 y40 y41 y42 y43 y44 y45 y46 y47 y48 y49 y50 y51 y52 y53 y54 y55 y56 y57 y58 y59 y60 y61 y62 y63 y64 y65 y66 y67 y68 y69 y70 y71 y72 y73 y74 y75 y76 y77 y78 y79 y80 y81 y82 y83 y84 y85 y86 y87 y88 y89 y90 y91 y92 y93 y94 y95 y96 y97 y98 y99 y100 y101 y102 y103 y104 y105 y106 y107 y108 y109 y110 y111 y112 y113 y114 y115 y116 y117 y118 y119 y120 y121 y122 y123 y124 y125 y126 y127 y128 y129 y130 y131 y132 y133 y134 y135 y136 y137 y138 y139 y140 y141 y142 y143 y144 y145 y146 y147 y148 y149 y150 y151 y152 y153 y154 y155 y156 y157 y158 y159 y160 y161 y162 y163 y164 y165 y166 y167 y168 y169 y170 y171 y172 y173 y174 y175 y176 y177 y178 y179 y180 y181 y182 y183 y184 y185 y186 y187 y188 : Value) (wx : World), SwR s p I b w0 i wx → K ⟨#[.string s, x1, y2, y3, y4, x5, i, .int .u8 (c.toNat : Int), .int .i64 I, .int .u8 N, .pointer (some ⟨b, 0, none⟩), y11, y12, y13, x14, x15, x16, y17, y18, y19, y20, y21, y22, y23, y24, y25, y26, y27, y28, y29, y30, y31, y32, y33, y34, y35, y36, y37, y38, y39, y40, y41, y42, y43, y44, y45, y46, y47, y48, y49, y50, y51, y52, y53, y54, y55, y56, y57, y58, y59, y60, y61, y62, y63, y64, y65, y66, y67, y68, y69, y70, y71, y72, y73, y74, y75, y76, y77, y78, y79, y80, y81, y82, y83, y84, y85, y86, y87, y88, y89, y90, y91, y92, y93, y94, y95, y96, y97, y98, y99, y100, y101, y102, y103, y104, y105, y106, y107, y108, y109, y110, y111, y112, y113, y114, y115, y116, y117, y118, y119, y120, y121, y122, y123, y124, y125, y126, y127, y128, y129, y130, y131, y132, y133, y134, y135, y136, y137, y138, y139, y140, y141, y142, y143, y144, y145, y146, y147, y148, y149, y150, y151, y152, y153, y154, y155, y156, y157, y158, y159, y160, y161, y162, y163, y164, y165, y166, y167, y168, y169, y170, y171, y172, y173, y174, y175, y176, y177, y178, y179, y180, y181, y182, y183, y184, y185, y186, y187, y188, x189], []⟩ wx)
    (hret : ∀ (z6 z7 z8 z9 z10 z11 z12 z13 z17 z18 z19 z20 z21 z22 z23 z24 z25 z26 z27 z28 z29 z30 z31 z32 z33 z34 z35 z36 z37 z38 z39 z40 z41 z42 z43 z44 z45 z46 z47 z48 z49 z50 z51 z52 z53 z54 z55 z56 z57 z58 z59 z60 z61 z62 z63 z64 z65 z66 z67 z68 z69 z70 z71 z72 z73 z74 z75 z76 z77 z78 z79 z80 z81 z82 z83 z84 z85 z86 z87 z88 z89 z90 z91 z92 z93 z94 z95 z96 z97 z98 z99 z100 z101 z102 z103 z104 z105 z106 z107 z108 z109 z110 z111 z112 z113 z114 z115 z116 z117 z118 z119 z120 z121 z122 z123 z124 z125 z126 z127 z128 z129 z130 z131 z132 z133 z134 z135 z136 z137 z138 z139 z140 z141 z142 z143 z144 z145 z146 z147 z148 z149 z150 z151 z152 z153 z154 z155 z156 z157 z158 z159 z160 z161 z162 z163 z164 z165 z166 z167 z168 z169 z170 z171 z172 z173 z174 z175 z176 z177 z178 z179 z180 z181 z182 z183 z184 z185 z186 z187 z188 : Value) (wx : World), tokL (s.data.toList.drop p) = none → Below w0.heap.size w0 wx → Q .ret ⟨#[.string s, x1, .slice none 0 0, .int .i64 I, .bool false, x5, z6, z7, z8, z9, z10, z11, z12, z13, x14, x15, x16, z17, z18, z19, z20, z21, z22, z23, z24, z25, z26, z27, z28, z29, z30, z31, z32, z33, z34, z35, z36, z37, z38, z39, z40, z41, z42, z43, z44, z45, z46, z47, z48, z49, z50, z51, z52, z53, z54, z55, z56, z57, z58, z59, z60, z61, z62, z63, z64, z65, z66, z67, z68, z69, z70, z71, z72, z73, z74, z75, z76, z77, z78, z79, z80, z81, z82, z83, z84, z85, z86, z87, z88, z89, z90, z91, z92, z93, z94, z95, z96, z97, z98, z99, z100, z101, z102, z103, z104, z105, z106, z107, z108, z109, z110, z111, z112, z113, z114, z115, z116, z117, z118, z119, z120, z121, z122, z123, z124, z125, z126, z127, z128, z129, z130, z131, z132, z133, z134, z135, z136, z137, z138, z139, z140, z141, z142, z143, z144, z145, z146, z147, z148, z149, z150, z151, z152, z153, z154, z155, z156, z157, z158, z159, z160, z161, z162, z163, z164, z165, z166, z167, z168, z169, z170, z171, z172, z173, z174, z175, z176, z177, z178, z179, z180, z181, z182, z183, z184, z185, z186, z187, z188, x189], []⟩ wx)
    (Hl : Hid (∀ W, Below w0.heap.size w0 W → Laid W)) (hni : (s.size : Int) ≤ 100000) (hI : I = (p : Int)) (hps : p < s.size) (HN : Hid (N = 61 ↔ (s.data.toList.drop (p + 1)).head? = some 61)) (h32 : ¬ c = 32)
    (hlc : s.data.toList[p]? = some c) (Hat0 : Hid (TAt W2 b ⟨0, p, [], 0, ⟨0, 0, ⟨#[]⟩, 0⟩⟩)) (Hbw0 : Hid (Below w0.heap.size w0 W2)) (hb0 : w0.heap.size ≤ b) (h33 : c = 33) :
    Code.wp Tryz.prog swCode (Exit.then K Q) ⟨#[.string s, x1, x2, x3, x4, x5, .int .i64 (I + 1), .int .u8 (c.toNat : Int), .int .i64 I, .int .u8 N, .pointer (some ⟨b, 0, none⟩), x11, x12, x13, x14, x15, x16, x17, x18, x19, x20, x21, x22, x23, x24, x25, x26, x27, x28, x29, x30, x31, x32, x33, x34, x35, .int .u8 (c.toNat : Int), x37, x38, x39, x40, x41, x42, x43, x44, x45, x46, x47, x48, x49, x50, x51, x52, x53, x54, x55, x56, x57, x58, x59, x60, x61, x62, x63, x64, x65, x66, x67, x68, x69, x70, x71, x72, x73, x74, x75, x76, x77, x78, x79, x80, x81, x82, x83, x84, x85, x86, x87, x88, x89, x90, x91, x92, x93, x94, x95, x96, x97, x98, x99, x100, x101, x102, x103, x104, x105, x106, x107, x108, x109, x110, x111, x112, x113, x114, x115, x116, x117, x118, x119, x120, x121, x122, x123, x124, x125, x126, x127, x128, x129, x130, x131, x132, x133, x134, x135, x136, x137, x138, x139, x140, x141, x142, x143, x144, x145, x146, x147, x148, x149, x150, x151, x152, x153, x154, x155, x156, x157, x158, x159, x160, x161, x162, x163, x164, x165, x166, x167, x168, x169, x170, x171, x172, x173, x174, x175, x176, x177, x178, x179, x180, x181, x182, x183, x184, x185, x186, x187, x188, x189], []⟩ W2 := by
  have Hlen : Hid (s.data.toList.length = s.size) := Lib.hid (Lib.size_eq s).symm
  have hInt := Lib.hid hI; have Hlc := Lib.hid hlc; have Hb0 := Lib.hid hb0
  have HK := Lib.hid hK; have Hret := Lib.hid hret
  have hI0 : 0 ≤ I := by omega
  have hI1 : I < (s.size : Int) := by omega
  have hni3 : I + 1 ≤ 100000 := by omega
  have hIj : I.toNat = p := by omega
  have htok := tokL_cons c (s.data.toList.drop (p + 1))
  rw [← (drop_at hlc).1] at htok
  have hz0 := Hat0.out.z 0; have hz2 := Hat0.out.z 2; have hz3 := Hat0.out.z 3
  have hc0 := Hat0.out.c0; have hc2 := Hat0.out.c2; have hc3 := Hat0.out.c3
  simp only at hc0 hc2 hc3
  clear hK hret hI hlc hb0
  have e32 : ((c.toNat : Int) == 32) = false := by rw [h33] <;> rfl
  have e40 : ((c.toNat : Int) == 40) = false := by rw [h33] <;> rfl
  have e41 : ((c.toNat : Int) == 41) = false := by rw [h33] <;> rfl
  have e61 : ((c.toNat : Int) == 61) = false := by rw [h33] <;> rfl
  have e33 : ((c.toNat : Int) == 33) = true := by rw [h33] <;> rfl
  have e60 : ((c.toNat : Int) == 60) = false := by rw [h33] <;> rfl
  have e62 : ((c.toNat : Int) == 62) = false := by rw [h33] <;> rfl
  have e36 : ((c.toNat : Int) == 36) = false := by rw [h33] <;> rfl
  have e0 : ((c.toNat : Int) != 33) = false := by rw [h33] <;> rfl
  by_cases h9 : (s.data.toList.drop (p + 1)).head? = some 61
  · obtain rfl : N = 61 := HN.out.2 h9
    have Ht := Lib.hid (show tokL (s.data.toList.drop p) = some (Tk.plain 2 1, 2) from by rw [htok, h33, h9]; rfl)
    clear htok h32 h33 h9
    conv => arg 2; whnf
    go_wp2_with fail
    exact HK.out _ _ _ _ _ _ _ _ _ _ _ _ _ _ _ _ _ _ _ _ _ _ _ _ _ _ _ _ _ _ _ _ _ _ _ _ _ _ _ _ _ _ _ _ _ _ _ _ _ _ _ _ _ _ _ _ _ _ _ _ _ _ _ _ _ _ _ _ _ _ _ _ _ _ _ _ _ _ _ _ _ _ _ _ _ _ _ _ _ _ _ _ _ _ _ _ _ _ _ _ _ _ _ _ _ _ _ _ _ _ _ _ _ _ _ _ _ _ _ _ _ _ _ _ _ _ _ _ _ _ _ _ _ _ _ _ _ _ _ _ _ _ _ _ _ _ _ _ _ _ _ _ _ _ _ _ _ _ _ _ _ _ _ _ _ _ _ _ _ _ _ _ _ _ _ _ _ _ _ _ ⟨(Tk.plain 2 1), 2, _, rfl, ⟨Ht.out, by first | rfl | omega⟩, ((Hat0.out.kind 2).oper 1), (show Below w0.heap.size w0 ((W2.setCell ⟨b, 0, none⟩ (.int .i64 2)).setCell ⟨b, 3, none⟩ (.int .i64 1)) from (show Below w0.heap.size w0 (W2.setCell ⟨b, 0, none⟩ (.int .i64 2)) from Hbw0.out.setCell Hb0.out _).setCell Hb0.out _)⟩
  · have hN : (N == 61) = false := beq_eq_false_iff_ne.2 fun e => h9 (HN.out.1 e)
    have He := Lib.hid (show tokL (s.data.toList.drop p) = none from by rw [htok, h33, if_neg (by decide), if_pos rfl, if_neg h9])
    clear htok h32 h33 h9
    conv => arg 2; whnf
    go_wp2_with fail
    exact Hret.out _ _ _ _ _ _ _ _ _ _ _ _ _ _ _ _ _ _ _ _ _ _ _ _ _ _ _ _ _ _ _ _ _ _ _ _ _ _ _ _ _ _ _ _ _ _ _ _ _ _ _ _ _ _ _ _ _ _ _ _ _ _ _ _ _ _ _ _ _ _ _ _ _ _ _ _ _ _ _ _ _ _ _ _ _ _ _ _ _ _ _ _ _ _ _ _ _ _ _ _ _ _ _ _ _ _ _ _ _ _ _ _ _ _ _ _ _ _ _ _ _ _ _ _ _ _ _ _ _ _ _ _ _ _ _ _ _ _ _ _ _ _ _ _ _ _ _ _ _ _ _ _ _ _ _ _ _ _ _ _ _ _ _ _ _ _ _ _ _ _ _ _ _ _ _ _ _ _ _ _ _ He.out ((Hbw0.out.setCell Hb0.out _).setCell Hb0.out _)
end Go.Proofs.YthhghlnbpigcjaaGreatDoor
namespace Go.Proofs.YthhghlnbpigcjaaGreatDoor
open Go.RowKit

set_option maxHeartbeats 32000000 in
set_option maxRecDepth 1000000 in
theorem sw60 (s : ByteArray) (p : Nat) (I N : Int) (c : UInt8) (b : Nat) (w0 W2 : World) (x1 x2 x3 x4 x5 x11 x12 x13 x14 x15 x16 x17 x18 x19 x20 x21 x22 x23 x24 x25 x26 x27 x28 x29 x30 x31 x32 x33 x34 x35 x37 x38 x39 x40 x41 x42 x43 x44 x45 x46 x47 x48 x49 x50 x51 x52 x53 x54 x55 x56 x57 x58 x59 x60 x61 x62 x63 x64 x65 x66 x67 x68 x69 x70 x71 x72 x73 x74 x75 x76 x77 x78 x79 x80 x81 x82 x83 x84 x85 x86 x87 x88 x89 x90 x91 x92 x93 x94 x95 x96 x97 x98 x99 x100 x101 x102 x103 x104 x105 x106 x107 x108 x109 x110 x111 x112 x113 x114 x115 x116 x117 x118 x119 x120 x121 x122 x123 x124 x125 x126 x127 x128 x129 x130 x131 x132 x133 x134 x135 x136 x137 x138 x139 x140 x141 x142 x143 x144 x145 x146 x147 x148 x149 x150 x151 x152 x153 x154 x155 x156 x157 x158 x159 x160 x161 x162 x163 x164 x165 x166 x167 x168 x169 x170 x171 x172 x173 x174 x175 x176 x177 x178 x179 x180 x181 x182 x183 x184 x185 x186 x187 x188 x189 : Value) (K : Act → World → Prop) (Q : Exit → Act → World → Prop)
    (hK : ∀ (i y2 y3 y4 y11 y12 y13 y17 y18 y19 y20 y21 y22 y23 y24 y25 y26 y27 y28 y29 y30 y31 y32 y33 y34 y35 y36 y37 y38 y39 y40 y41 y42 y43 y44 y45 y46 y47 y48 y49 y50 y51 y52 y53 y54 y55 y56 y57 y58 y59 y60 y61 y62 y63 y64 y65 y66 y67 y68 y69 y70 y71 y72 y73 y74 y75 y76 y77 y78 y79 y80 y81 y82 y83 y84 y85 y86 y87 y88 y89 y90 y91 y92 y93 y94 y95 y96 y97 y98 y99 y100 y101 y102 y103 y104 y105 y106 y107 y108 y109 y110 y111 y112 y113 y114 y115 y116 y117 y118 y119 y120 y121 y122 y123 y124 y125 y126 y127 y128 y129 y130 y131 y132 y133 y134 y135 y136 y137 y138 y139 y140 y141 y142 y143 y144 y145 y146 y147 y148 y149 y150 y151 y152 y153 y154 y155 y156 y157 y158 y159 y160 y161 y162 y163 y164 y165 y166 y167 y168 y169 y170 y171 y172 y173 y174 y175 y176 y177 y178 y179 y180 y181 y182 y183 y184 y185 y186 y187 y188 : Value) (wx : World), SwR s p I b w0 i wx → K ⟨#[.string s, x1, y2, y3, y4, x5, i, .int .u8 (c.toNat : Int), .int .i64 I, .int .u8 N, .pointer (some ⟨b, 0, none⟩), y11, y12, y13, x14, x15, x16, y17, y18, y19, y20, y21, y22, y23, y24, y25, y26, y27, y28, y29, y30, y31, y32, y33, y34, y35, y36, y37, y38, y39, y40, y41, y42, y43, y44, y45, y46, y47, y48, y49, y50, y51, y52, y53, y54, y55, y56, y57, y58, y59, y60, y61, y62, y63, y64, y65, y66, y67, y68, y69, y70, y71, y72, y73, y74, y75, y76, y77, y78, y79, y80, y81, y82, y83, y84, y85, y86, y87, y88, y89, y90, y91, y92, y93, y94, y95, y96, y97, y98, y99, y100, y101, y102, y103, y104, y105, y106, y107, y108, y109, y110, y111, y112, y113, y114, y115, y116, y117, y118, y119, y120, y121, y122, y123, y124, y125, y126, y127, y128, y129, y130, y131, y132, y133, y134, y135, y136, y137, y138, y139, y140, y141, y142, y143, y144, y145, y146, y147, y148, y149, y150, y151, y152, y153, y154, y155, y156, y157, y158, y159, y160, y161, y162, y163, y164, y165, y166, y167, y168, y169, y170, y171, y172, y173, y174, y175, y176, y177, y178, y179, y180, y181, y182, y183, y184, y185, y186, y187, y188, x189], []⟩ wx)
    (hret : ∀ (z6 z7 z8 z9 z10 z11 z12 z13 z17 z18 z19 z20 z21 z22 z23 z24 z25 z26 z27 z28 z29 z30 z31 z32 z33 z34 z35 z36 z37 z38 z39 z40 z41 z42 z43 z44 z45 z46 z47 z48 z49 z50 z51 z52 z53 z54 z55 z56 z57 z58 z59 z60 z61 z62 z63 z64 z65 z66 z67 z68 z69 z70 z71 z72 z73 z74 z75 z76 z77 z78 z79 z80 z81 z82 z83 z84 z85 z86 z87 z88 z89 z90 z91 z92 z93 z94 z95 z96 z97 z98 z99 z100 z101 z102 z103 z104 z105 z106 z107 z108 z109 z110 z111 z112 z113 z114 z115 z116 z117 z118 z119 z120 z121 z122 z123 z124 z125 z126 z127 z128 z129 z130 z131 z132 z133 z134 z135 z136 z137 z138 z139 z140 z141 z142 z143 z144 z145 z146 z147 z148 z149 z150 z151 z152 z153 z154 z155 z156 z157 z158 z159 z160 z161 z162 z163 z164 z165 z166 z167 z168 z169 z170 z171 z172 z173 z174 z175 z176 z177 z178 z179 z180 z181 z182 z183 z184 z185 z186 z187 z188 : Value) (wx : World), tokL (s.data.toList.drop p) = none → Below w0.heap.size w0 wx → Q .ret ⟨#[.string s, x1, .slice none 0 0, .int .i64 I, .bool false, x5, z6, z7, z8, z9, z10, z11, z12, z13, x14, x15, x16, z17, z18, z19, z20, z21, z22, z23, z24, z25, z26, z27, z28, z29, z30, z31, z32, z33, z34, z35, z36, z37, z38, z39, z40, z41, z42, z43, z44, z45, z46, z47, z48, z49, z50, z51, z52, z53, z54, z55, z56, z57, z58, z59, z60, z61, z62, z63, z64, z65, z66, z67, z68, z69, z70, z71, z72, z73, z74, z75, z76, z77, z78, z79, z80, z81, z82, z83, z84, z85, z86, z87, z88, z89, z90, z91, z92, z93, z94, z95, z96, z97, z98, z99, z100, z101, z102, z103, z104, z105, z106, z107, z108, z109, z110, z111, z112, z113, z114, z115, z116, z117, z118, z119, z120, z121, z122, z123, z124, z125, z126, z127, z128, z129, z130, z131, z132, z133, z134, z135, z136, z137, z138, z139, z140, z141, z142, z143, z144, z145, z146, z147, z148, z149, z150, z151, z152, z153, z154, z155, z156, z157, z158, z159, z160, z161, z162, z163, z164, z165, z166, z167, z168, z169, z170, z171, z172, z173, z174, z175, z176, z177, z178, z179, z180, z181, z182, z183, z184, z185, z186, z187, z188, x189], []⟩ wx)
    (Hl : Hid (∀ W, Below w0.heap.size w0 W → Laid W)) (hni : (s.size : Int) ≤ 100000) (hI : I = (p : Int)) (hps : p < s.size) (HN : Hid (N = 61 ↔ (s.data.toList.drop (p + 1)).head? = some 61)) (h32 : ¬ c = 32)
    (hlc : s.data.toList[p]? = some c) (Hat0 : Hid (TAt W2 b ⟨0, p, [], 0, ⟨0, 0, ⟨#[]⟩, 0⟩⟩)) (Hbw0 : Hid (Below w0.heap.size w0 W2)) (hb0 : w0.heap.size ≤ b) (h60 : c = 60) :
    Code.wp Tryz.prog swCode (Exit.then K Q) ⟨#[.string s, x1, x2, x3, x4, x5, .int .i64 (I + 1), .int .u8 (c.toNat : Int), .int .i64 I, .int .u8 N, .pointer (some ⟨b, 0, none⟩), x11, x12, x13, x14, x15, x16, x17, x18, x19, x20, x21, x22, x23, x24, x25, x26, x27, x28, x29, x30, x31, x32, x33, x34, x35, .int .u8 (c.toNat : Int), x37, x38, x39, x40, x41, x42, x43, x44, x45, x46, x47, x48, x49, x50, x51, x52, x53, x54, x55, x56, x57, x58, x59, x60, x61, x62, x63, x64, x65, x66, x67, x68, x69, x70, x71, x72, x73, x74, x75, x76, x77, x78, x79, x80, x81, x82, x83, x84, x85, x86, x87, x88, x89, x90, x91, x92, x93, x94, x95, x96, x97, x98, x99, x100, x101, x102, x103, x104, x105, x106, x107, x108, x109, x110, x111, x112, x113, x114, x115, x116, x117, x118, x119, x120, x121, x122, x123, x124, x125, x126, x127, x128, x129, x130, x131, x132, x133, x134, x135, x136, x137, x138, x139, x140, x141, x142, x143, x144, x145, x146, x147, x148, x149, x150, x151, x152, x153, x154, x155, x156, x157, x158, x159, x160, x161, x162, x163, x164, x165, x166, x167, x168, x169, x170, x171, x172, x173, x174, x175, x176, x177, x178, x179, x180, x181, x182, x183, x184, x185, x186, x187, x188, x189], []⟩ W2 := by
  have Hlen : Hid (s.data.toList.length = s.size) := Lib.hid (Lib.size_eq s).symm
  have hInt := Lib.hid hI; have Hlc := Lib.hid hlc; have Hb0 := Lib.hid hb0
  have HK := Lib.hid hK; have Hret := Lib.hid hret
  have hI0 : 0 ≤ I := by omega
  have hI1 : I < (s.size : Int) := by omega
  have hni3 : I + 1 ≤ 100000 := by omega
  have hIj : I.toNat = p := by omega
  have htok := tokL_cons c (s.data.toList.drop (p + 1))
  rw [← (drop_at hlc).1] at htok
  have hz0 := Hat0.out.z 0; have hz2 := Hat0.out.z 2; have hz3 := Hat0.out.z 3
  have hc0 := Hat0.out.c0; have hc2 := Hat0.out.c2; have hc3 := Hat0.out.c3
  simp only at hc0 hc2 hc3
  clear hK hret hI hlc hb0
  have e32 : ((c.toNat : Int) == 32) = false := by rw [h60] <;> rfl
  have e40 : ((c.toNat : Int) == 40) = false := by rw [h60] <;> rfl
  have e41 : ((c.toNat : Int) == 41) = false := by rw [h60] <;> rfl
  have e61 : ((c.toNat : Int) == 61) = false := by rw [h60] <;> rfl
  have e33 : ((c.toNat : Int) == 33) = false := by rw [h60] <;> rfl
  have e60 : ((c.toNat : Int) == 60) = true := by rw [h60] <;> rfl
  have e62 : ((c.toNat : Int) == 62) = false := by rw [h60] <;> rfl
  have e36 : ((c.toNat : Int) == 36) = false := by rw [h60] <;> rfl
  have e0 : ((c.toNat : Int) != 33) = true := by rw [h60] <;> rfl
  by_cases h9 : (s.data.toList.drop (p + 1)).head? = some 61
  · obtain rfl : N = 61 := HN.out.2 h9
    have Ht := Lib.hid (show tokL (s.data.toList.drop p) = some (Tk.plain 2 3, 2) from by rw [htok, h60, h9]; rfl)
    clear htok h32 h60 h9
    conv => arg 2; whnf
    go_wp2_with fail
    exact HK.out _ _ _ _ _ _ _ _ _ _ _ _ _ _ _ _ _ _ _ _ _ _ _ _ _ _ _ _ _ _ _ _ _ _ _ _ _ _ _ _ _ _ _ _ _ _ _ _ _ _ _ _ _ _ _ _ _ _ _ _ _ _ _ _ _ _ _ _ _ _ _ _ _ _ _ _ _ _ _ _ _ _ _ _ _ _ _ _ _ _ _ _ _ _ _ _ _ _ _ _ _ _ _ _ _ _ _ _ _ _ _ _ _ _ _ _ _ _ _ _ _ _ _ _ _ _ _ _ _ _ _ _ _ _ _ _ _ _ _ _ _ _ _ _ _ _ _ _ _ _ _ _ _ _ _ _ _ _ _ _ _ _ _ _ _ _ _ _ _ _ _ _ _ _ _ _ _ _ _ _ ⟨(Tk.plain 2 3), 2, _, rfl, ⟨Ht.out, by first | rfl | omega⟩, (((Hat0.out.kind 2).oper 2).oper 3), (show Below w0.heap.size w0 (((W2.setCell ⟨b, 0, none⟩ (.int .i64 2)).setCell ⟨b, 3, none⟩ (.int .i64 2)).setCell ⟨b, 3, none⟩ (.int .i64 3)) from (show Below w0.heap.size w0 ((W2.setCell ⟨b, 0, none⟩ (.int .i64 2)).setCell ⟨b, 3, none⟩ (.int .i64 2)) from (show Below w0.heap.size w0 (W2.setCell ⟨b, 0, none⟩ (.int .i64 2)) from Hbw0.out.setCell Hb0.out _).setCell Hb0.out _).setCell Hb0.out _)⟩
  · have hN : (N == 61) = false := beq_eq_false_iff_ne.2 fun e => h9 (HN.out.1 e)
    have Ht := Lib.hid (show tokL (s.data.toList.drop p) = some (Tk.plain 2 2, 1) from by rw [htok, h60, if_neg (by decide), if_neg (by decide), if_pos rfl, if_neg h9])
    clear htok h32 h60 h9
    conv => arg 2; whnf
    go_wp2_with fail
    exact HK.out _ _ _ _ _ _ _ _ _ _ _ _ _ _ _ _ _ _ _ _ _ _ _ _ _ _ _ _ _ _ _ _ _ _ _ _ _ _ _ _ _ _ _ _ _ _ _ _ _ _ _ _ _ _ _ _ _ _ _ _ _ _ _ _ _ _ _ _ _ _ _ _ _ _ _ _ _ _ _ _ _ _ _ _ _ _ _ _ _ _ _ _ _ _ _ _ _ _ _ _ _ _ _ _ _ _ _ _ _ _ _ _ _ _ _ _ _ _ _ _ _ _ _ _ _ _ _ _ _ _ _ _ _ _ _ _ _ _ _ _ _ _ _ _ _ _ _ _ _ _ _ _ _ _ _ _ _ _ _ _ _ _ _ _ _ _ _ _ _ _ _ _ _ _ _ _ _ _ _ _ ⟨(Tk.plain 2 2), 1, _, rfl, ⟨Ht.out, by first | rfl | omega⟩, ((Hat0.out.kind 2).oper 2), (show Below w0.heap.size w0 ((W2.setCell ⟨b, 0, none⟩ (.int .i64 2)).setCell ⟨b, 3, none⟩ (.int .i64 2)) from (show Below w0.heap.size w0 (W2.setCell ⟨b, 0, none⟩ (.int .i64 2)) from Hbw0.out.setCell Hb0.out _).setCell Hb0.out _)⟩
end Go.Proofs.YthhghlnbpigcjaaGreatDoor
namespace Go.Proofs.YthhghlnbpigcjaaGreatDoor
open Go.RowKit

set_option maxHeartbeats 32000000 in
set_option maxRecDepth 1000000 in
theorem sw62 (s : ByteArray) (p : Nat) (I N : Int) (c : UInt8) (b : Nat) (w0 W2 : World) (x1 x2 x3 x4 x5 x11 x12 x13 x14 x15 x16 x17 x18 x19 x20 x21 x22 x23 x24 x25 x26 x27 x28 x29 x30 x31 x32 x33 x34 x35 x37 x38 x39 x40 x41 x42 x43 x44 x45 x46 x47 x48 x49 x50 x51 x52 x53 x54 x55 x56 x57 x58 x59 x60 x61 x62 x63 x64 x65 x66 x67 x68 x69 x70 x71 x72 x73 x74 x75 x76 x77 x78 x79 x80 x81 x82 x83 x84 x85 x86 x87 x88 x89 x90 x91 x92 x93 x94 x95 x96 x97 x98 x99 x100 x101 x102 x103 x104 x105 x106 x107 x108 x109 x110 x111 x112 x113 x114 x115 x116 x117 x118 x119 x120 x121 x122 x123 x124 x125 x126 x127 x128 x129 x130 x131 x132 x133 x134 x135 x136 x137 x138 x139 x140 x141 x142 x143 x144 x145 x146 x147 x148 x149 x150 x151 x152 x153 x154 x155 x156 x157 x158 x159 x160 x161 x162 x163 x164 x165 x166 x167 x168 x169 x170 x171 x172 x173 x174 x175 x176 x177 x178 x179 x180 x181 x182 x183 x184 x185 x186 x187 x188 x189 : Value) (K : Act → World → Prop) (Q : Exit → Act → World → Prop)
    (hK : ∀ (i y2 y3 y4 y11 y12 y13 y17 y18 y19 y20 y21 y22 y23 y24 y25 y26 y27 y28 y29 y30 y31 y32 y33 y34 y35 y36 y37 y38 y39 y40 y41 y42 y43 y44 y45 y46 y47 y48 y49 y50 y51 y52 y53 y54 y55 y56 y57 y58 y59 y60 y61 y62 y63 y64 y65 y66 y67 y68 y69 y70 y71 y72 y73 y74 y75 y76 y77 y78 y79 y80 y81 y82 y83 y84 y85 y86 y87 y88 y89 y90 y91 y92 y93 y94 y95 y96 y97 y98 y99 y100 y101 y102 y103 y104 y105 y106 y107 y108 y109 y110 y111 y112 y113 y114 y115 y116 y117 y118 y119 y120 y121 y122 y123 y124 y125 y126 y127 y128 y129 y130 y131 y132 y133 y134 y135 y136 y137 y138 y139 y140 y141 y142 y143 y144 y145 y146 y147 y148 y149 y150 y151 y152 y153 y154 y155 y156 y157 y158 y159 y160 y161 y162 y163 y164 y165 y166 y167 y168 y169 y170 y171 y172 y173 y174 y175 y176 y177 y178 y179 y180 y181 y182 y183 y184 y185 y186 y187 y188 : Value) (wx : World), SwR s p I b w0 i wx → K ⟨#[.string s, x1, y2, y3, y4, x5, i, .int .u8 (c.toNat : Int), .int .i64 I, .int .u8 N, .pointer (some ⟨b, 0, none⟩), y11, y12, y13, x14, x15, x16, y17, y18, y19, y20, y21, y22, y23, y24, y25, y26, y27, y28, y29, y30, y31, y32, y33, y34, y35, y36, y37, y38, y39, y40, y41, y42, y43, y44, y45, y46, y47, y48, y49, y50, y51, y52, y53, y54, y55, y56, y57, y58, y59, y60, y61, y62, y63, y64, y65, y66, y67, y68, y69, y70, y71, y72, y73, y74, y75, y76, y77, y78, y79, y80, y81, y82, y83, y84, y85, y86, y87, y88, y89, y90, y91, y92, y93, y94, y95, y96, y97, y98, y99, y100, y101, y102, y103, y104, y105, y106, y107, y108, y109, y110, y111, y112, y113, y114, y115, y116, y117, y118, y119, y120, y121, y122, y123, y124, y125, y126, y127, y128, y129, y130, y131, y132, y133, y134, y135, y136, y137, y138, y139, y140, y141, y142, y143, y144, y145, y146, y147, y148, y149, y150, y151, y152, y153, y154, y155, y156, y157, y158, y159, y160, y161, y162, y163, y164, y165, y166, y167, y168, y169, y170, y171, y172, y173, y174, y175, y176, y177, y178, y179, y180, y181, y182, y183, y184, y185, y186, y187, y188, x189], []⟩ wx)
    (hret : ∀ (z6 z7 z8 z9 z10 z11 z12 z13 z17 z18 z19 z20 z21 z22 z23 z24 z25 z26 z27 z28 z29 z30 z31 z32 z33 z34 z35 z36 z37 z38 z39 z40 z41 z42 z43 z44 z45 z46 z47 z48 z49 z50 z51 z52 z53 z54 z55 z56 z57 z58 z59 z60 z61 z62 z63 z64 z65 z66 z67 z68 z69 z70 z71 z72 z73 z74 z75 z76 z77 z78 z79 z80 z81 z82 z83 z84 z85 z86 z87 z88 z89 z90 z91 z92 z93 z94 z95 z96 z97 z98 z99 z100 z101 z102 z103 z104 z105 z106 z107 z108 z109 z110 z111 z112 z113 z114 z115 z116 z117 z118 z119 z120 z121 z122 z123 z124 z125 z126 z127 z128 z129 z130 z131 z132 z133 z134 z135 z136 z137 z138 z139 z140 z141 z142 z143 z144 z145 z146 z147 z148 z149 z150 z151 z152 z153 z154 z155 z156 z157 z158 z159 z160 z161 z162 z163 z164 z165 z166 z167 z168 z169 z170 z171 z172 z173 z174 z175 z176 z177 z178 z179 z180 z181 z182 z183 z184 z185 z186 z187 z188 : Value) (wx : World), tokL (s.data.toList.drop p) = none → Below w0.heap.size w0 wx → Q .ret ⟨#[.string s, x1, .slice none 0 0, .int .i64 I, .bool false, x5, z6, z7, z8, z9, z10, z11, z12, z13, x14, x15, x16, z17, z18, z19, z20, z21, z22, z23, z24, z25, z26, z27, z28, z29, z30, z31, z32, z33, z34, z35, z36, z37, z38, z39, z40, z41, z42, z43, z44, z45, z46, z47, z48, z49, z50, z51, z52, z53, z54, z55, z56, z57, z58, z59, z60, z61, z62, z63, z64, z65, z66, z67, z68, z69, z70, z71, z72, z73, z74, z75, z76, z77, z78, z79, z80, z81, z82, z83, z84, z85, z86, z87, z88, z89, z90, z91, z92, z93, z94, z95, z96, z97, z98, z99, z100, z101, z102, z103, z104, z105, z106, z107, z108, z109, z110, z111, z112, z113, z114, z115, z116, z117, z118, z119, z120, z121, z122, z123, z124, z125, z126, z127, z128, z129, z130, z131, z132, z133, z134, z135, z136, z137, z138, z139, z140, z141, z142, z143, z144, z145, z146, z147, z148, z149, z150, z151, z152, z153, z154, z155, z156, z157, z158, z159, z160, z161, z162, z163, z164, z165, z166, z167, z168, z169, z170, z171, z172, z173, z174, z175, z176, z177, z178, z179, z180, z181, z182, z183, z184, z185, z186, z187, z188, x189], []⟩ wx)
    (Hl : Hid (∀ W, Below w0.heap.size w0 W → Laid W)) (hni : (s.size : Int) ≤ 100000) (hI : I = (p : Int)) (hps : p < s.size) (HN : Hid (N = 61 ↔ (s.data.toList.drop (p + 1)).head? = some 61)) (h32 : ¬ c = 32)
    (hlc : s.data.toList[p]? = some c) (Hat0 : Hid (TAt W2 b ⟨0, p, [], 0, ⟨0, 0, ⟨#[]⟩, 0⟩⟩)) (Hbw0 : Hid (Below w0.heap.size w0 W2)) (hb0 : w0.heap.size ≤ b) (h62 : c = 62) :
    Code.wp Tryz.prog swCode (Exit.then K Q) ⟨#[.string s, x1, x2, x3, x4, x5, .int .i64 (I + 1), .int .u8 (c.toNat : Int), .int .i64 I, .int .u8 N, .pointer (some ⟨b, 0, none⟩), x11, x12, x13, x14, x15, x16, x17, x18, x19, x20, x21, x22, x23, x24, x25, x26, x27, x28, x29, x30, x31, x32, x33, x34, x35, .int .u8 (c.toNat : Int), x37, x38, x39, x40, x41, x42, x43, x44, x45, x46, x47, x48, x49, x50, x51, x52, x53, x54, x55, x56, x57, x58, x59, x60, x61, x62, x63, x64, x65, x66, x67, x68, x69, x70, x71, x72, x73, x74, x75, x76, x77, x78, x79, x80, x81, x82, x83, x84, x85, x86, x87, x88, x89, x90, x91, x92, x93, x94, x95, x96, x97, x98, x99, x100, x101, x102, x103, x104, x105, x106, x107, x108, x109, x110, x111, x112, x113, x114, x115, x116, x117, x118, x119, x120, x121, x122, x123, x124, x125, x126, x127, x128, x129, x130, x131, x132, x133, x134, x135, x136, x137, x138, x139, x140, x141, x142, x143, x144, x145, x146, x147, x148, x149, x150, x151, x152, x153, x154, x155, x156, x157, x158, x159, x160, x161, x162, x163, x164, x165, x166, x167, x168, x169, x170, x171, x172, x173, x174, x175, x176, x177, x178, x179, x180, x181, x182, x183, x184, x185, x186, x187, x188, x189], []⟩ W2 := by
  have Hlen : Hid (s.data.toList.length = s.size) := Lib.hid (Lib.size_eq s).symm
  have hInt := Lib.hid hI; have Hlc := Lib.hid hlc; have Hb0 := Lib.hid hb0
  have HK := Lib.hid hK; have Hret := Lib.hid hret
  have hI0 : 0 ≤ I := by omega
  have hI1 : I < (s.size : Int) := by omega
  have hni3 : I + 1 ≤ 100000 := by omega
  have hIj : I.toNat = p := by omega
  have htok := tokL_cons c (s.data.toList.drop (p + 1))
  rw [← (drop_at hlc).1] at htok
  have hz0 := Hat0.out.z 0; have hz2 := Hat0.out.z 2; have hz3 := Hat0.out.z 3
  have hc0 := Hat0.out.c0; have hc2 := Hat0.out.c2; have hc3 := Hat0.out.c3
  simp only at hc0 hc2 hc3
  clear hK hret hI hlc hb0
  have e32 : ((c.toNat : Int) == 32) = false := by rw [h62] <;> rfl
  have e40 : ((c.toNat : Int) == 40) = false := by rw [h62] <;> rfl
  have e41 : ((c.toNat : Int) == 41) = false := by rw [h62] <;> rfl
  have e61 : ((c.toNat : Int) == 61) = false := by rw [h62] <;> rfl
  have e33 : ((c.toNat : Int) == 33) = false := by rw [h62] <;> rfl
  have e60 : ((c.toNat : Int) == 60) = false := by rw [h62] <;> rfl
  have e62 : ((c.toNat : Int) == 62) = true := by rw [h62] <;> rfl
  have e36 : ((c.toNat : Int) == 36) = false := by rw [h62] <;> rfl
  have e0 : ((c.toNat : Int) != 33) = true := by rw [h62] <;> rfl
  by_cases h9 : (s.data.toList.drop (p + 1)).head? = some 61
  · obtain rfl : N = 61 := HN.out.2 h9
    have Ht := Lib.hid (show tokL (s.data.toList.drop p) = some (Tk.plain 2 5, 2) from by rw [htok, h62, h9]; rfl)
    clear htok h32 h62 h9
    conv => arg 2; whnf
    go_wp2_with fail
    exact HK.out _ _ _ _ _ _ _ _ _ _ _ _ _ _ _ _ _ _ _ _ _ _ _ _ _ _ _ _ _ _ _ _ _ _ _ _ _ _ _ _ _ _ _ _ _ _ _ _ _ _ _ _ _ _ _ _ _ _ _ _ _ _ _ _ _ _ _ _ _ _ _ _ _ _ _ _ _ _ _ _ _ _ _ _ _ _ _ _ _ _ _ _ _ _ _ _ _ _ _ _ _ _ _ _ _ _ _ _ _ _ _ _ _ _ _ _ _ _ _ _ _ _ _ _ _ _ _ _ _ _ _ _ _ _ _ _ _ _ _ _ _ _ _ _ _ _ _ _ _ _ _ _ _ _ _ _ _ _ _ _ _ _ _ _ _ _ _ _ _ _ _ _ _ _ _ _ _ _ _ _ ⟨(Tk.plain 2 5), 2, _, rfl, ⟨Ht.out, by first | rfl | omega⟩, (((Hat0.out.kind 2).oper 4).oper 5), (show Below w0.heap.size w0 (((W2.setCell ⟨b, 0, none⟩ (.int .i64 2)).setCell ⟨b, 3, none⟩ (.int .i64 4)).setCell ⟨b, 3, none⟩ (.int .i64 5)) from (show Below w0.heap.size w0 ((W2.setCell ⟨b, 0, none⟩ (.int .i64 2)).setCell ⟨b, 3, none⟩ (.int .i64 4)) from (show Below w0.heap.size w0 (W2.setCell ⟨b, 0, none⟩ (.int .i64 2)) from Hbw0.out.setCell Hb0.out _).setCell Hb0.out _).setCell Hb0.out _)⟩
  · have hN : (N == 61) = false := beq_eq_false_iff_ne.2 fun e => h9 (HN.out.1 e)
    have Ht := Lib.hid (show tokL (s.data.toList.drop p) = some (Tk.plain 2 4, 1) from by rw [htok, h62, if_neg (by decide), if_neg (by decide), if_neg (by decide), if_pos rfl, if_neg h9])
    clear htok h32 h62 h9
    conv => arg 2; whnf
    go_wp2_with fail
    exact HK.out _ _ _ _ _ _ _ _ _ _ _ _ _ _ _ _ _ _ _ _ _ _ _ _ _ _ _ _ _ _ _ _ _ _ _ _ _ _ _ _ _ _ _ _ _ _ _ _ _ _ _ _ _ _ _ _ _ _ _ _ _ _ _ _ _ _ _ _ _ _ _ _ _ _ _ _ _ _ _ _ _ _ _ _ _ _ _ _ _ _ _ _ _ _ _ _ _ _ _ _ _ _ _ _ _ _ _ _ _ _ _ _ _ _ _ _ _ _ _ _ _ _ _ _ _ _ _ _ _ _ _ _ _ _ _ _ _ _ _ _ _ _ _ _ _ _ _ _ _ _ _ _ _ _ _ _ _ _ _ _ _ _ _ _ _ _ _ _ _ _ _ _ _ _ _ _ _ _ _ _ ⟨(Tk.plain 2 4), 1, _, rfl, ⟨Ht.out, by first | rfl | omega⟩, ((Hat0.out.kind 2).oper 4), (show Below w0.heap.size w0 ((W2.setCell ⟨b, 0, none⟩ (.int .i64 2)).setCell ⟨b, 3, none⟩ (.int .i64 4)) from (show Below w0.heap.size w0 (W2.setCell ⟨b, 0, none⟩ (.int .i64 2)) from Hbw0.out.setCell Hb0.out _).setCell Hb0.out _)⟩
end Go.Proofs.YthhghlnbpigcjaaGreatDoor
namespace Go.Proofs.YthhghlnbpigcjaaGreatDoor
open Go.RowKit

set_option maxHeartbeats 32000000 in
set_option maxRecDepth 1000000 in
theorem sw36 (s : ByteArray) (p : Nat) (I N : Int) (c : UInt8) (b : Nat) (w0 W2 : World) (x1 x2 x3 x4 x5 x11 x12 x13 x14 x15 x16 x17 x18 x19 x20 x21 x22 x23 x24 x25 x26 x27 x28 x29 x30 x31 x32 x33 x34 x35 x37 x38 x39 x40 x41 x42 x43 x44 x45 x46 x47 x48 x49 x50 x51 x52 x53 x54 x55 x56 x57 x58 x59 x60 x61 x62 x63 x64 x65 x66 x67 x68 x69 x70 x71 x72 x73 x74 x75 x76 x77 x78 x79 x80 x81 x82 x83 x84 x85 x86 x87 x88 x89 x90 x91 x92 x93 x94 x95 x96 x97 x98 x99 x100 x101 x102 x103 x104 x105 x106 x107 x108 x109 x110 x111 x112 x113 x114 x115 x116 x117 x118 x119 x120 x121 x122 x123 x124 x125 x126 x127 x128 x129 x130 x131 x132 x133 x134 x135 x136 x137 x138 x139 x140 x141 x142 x143 x144 x145 x146 x147 x148 x149 x150 x151 x152 x153 x154 x155 x156 x157 x158 x159 x160 x161 x162 x163 x164 x165 x166 x167 x168 x169 x170 x171 x172 x173 x174 x175 x176 x177 x178 x179 x180 x181 x182 x183 x184 x185 x186 x187 x188 x189 : Value) (K : Act → World → Prop) (Q : Exit → Act → World → Prop)
    (hK : ∀ (i y2 y3 y4 y11 y12 y13 y17 y18 y19 y20 y21 y22 y23 y24 y25 y26 y27 y28 y29 y30 y31 y32 y33 y34 y35 y36 y37 y38 y39 y40 y41 y42 y43 y44 y45 y46 y47 y48 y49 y50 y51 y52 y53 y54 y55 y56 y57 y58 y59 y60 y61 y62 y63 y64 y65 y66 y67 y68 y69 y70 y71 y72 y73 y74 y75 y76 y77 y78 y79 y80 y81 y82 y83 y84 y85 y86 y87 y88 y89 y90 y91 y92 y93 y94 y95 y96 y97 y98 y99 y100 y101 y102 y103 y104 y105 y106 y107 y108 y109 y110 y111 y112 y113 y114 y115 y116 y117 y118 y119 y120 y121 y122 y123 y124 y125 y126 y127 y128 y129 y130 y131 y132 y133 y134 y135 y136 y137 y138 y139 y140 y141 y142 y143 y144 y145 y146 y147 y148 y149 y150 y151 y152 y153 y154 y155 y156 y157 y158 y159 y160 y161 y162 y163 y164 y165 y166 y167 y168 y169 y170 y171 y172 y173 y174 y175 y176 y177 y178 y179 y180 y181 y182 y183 y184 y185 y186 y187 y188 : Value) (wx : World), SwR s p I b w0 i wx → K ⟨#[.string s, x1, y2, y3, y4, x5, i, .int .u8 (c.toNat : Int), .int .i64 I, .int .u8 N, .pointer (some ⟨b, 0, none⟩), y11, y12, y13, x14, x15, x16, y17, y18, y19, y20, y21, y22, y23, y24, y25, y26, y27, y28, y29, y30, y31, y32, y33, y34, y35, y36, y37, y38, y39, y40, y41, y42, y43, y44, y45, y46, y47, y48, y49, y50, y51, y52, y53, y54, y55, y56, y57, y58, y59, y60, y61, y62, y63, y64, y65, y66, y67, y68, y69, y70, y71, y72, y73, y74, y75, y76, y77, y78, y79, y80, y81, y82, y83, y84, y85, y86, y87, y88, y89, y90, y91, y92, y93, y94, y95, y96, y97, y98, y99, y100, y101, y102, y103, y104, y105, y106, y107, y108, y109, y110, y111, y112, y113, y114, y115, y116, y117, y118, y119, y120, y121, y122, y123, y124, y125, y126, y127, y128, y129, y130, y131, y132, y133, y134, y135, y136, y137, y138, y139, y140, y141, y142, y143, y144, y145, y146, y147, y148, y149, y150, y151, y152, y153, y154, y155, y156, y157, y158, y159, y160, y161, y162, y163, y164, y165, y166, y167, y168, y169, y170, y171, y172, y173, y174, y175, y176, y177, y178, y179, y180, y181, y182, y183, y184, y185, y186, y187, y188, x189], []⟩ wx)
    (hret : ∀ (z6 z7 z8 z9 z10 z11 z12 z13 z17 z18 z19 z20 z21 z22 z23 z24 z25 z26 z27 z28 z29 z30 z31 z32 z33 z34 z35 z36 z37 z38 z39 z40 z41 z42 z43 z44 z45 z46 z47 z48 z49 z50 z51 z52 z53 z54 z55 z56 z57 z58 z59 z60 z61 z62 z63 z64 z65 z66 z67 z68 z69 z70 z71 z72 z73 z74 z75 z76 z77 z78 z79 z80 z81 z82 z83 z84 z85 z86 z87 z88 z89 z90 z91 z92 z93 z94 z95 z96 z97 z98 z99 z100 z101 z102 z103 z104 z105 z106 z107 z108 z109 z110 z111 z112 z113 z114 z115 z116 z117 z118 z119 z120 z121 z122 z123 z124 z125 z126 z127 z128 z129 z130 z131 z132 z133 z134 z135 z136 z137 z138 z139 z140 z141 z142 z143 z144 z145 z146 z147 z148 z149 z150 z151 z152 z153 z154 z155 z156 z157 z158 z159 z160 z161 z162 z163 z164 z165 z166 z167 z168 z169 z170 z171 z172 z173 z174 z175 z176 z177 z178 z179 z180 z181 z182 z183 z184 z185 z186 z187 z188 : Value) (wx : World), tokL (s.data.toList.drop p) = none → Below w0.heap.size w0 wx → Q .ret ⟨#[.string s, x1, .slice none 0 0, .int .i64 I, .bool false, x5, z6, z7, z8, z9, z10, z11, z12, z13, x14, x15, x16, z17, z18, z19, z20, z21, z22, z23, z24, z25, z26, z27, z28, z29, z30, z31, z32, z33, z34, z35, z36, z37, z38, z39, z40, z41, z42, z43, z44, z45, z46, z47, z48, z49, z50, z51, z52, z53, z54, z55, z56, z57, z58, z59, z60, z61, z62, z63, z64, z65, z66, z67, z68, z69, z70, z71, z72, z73, z74, z75, z76, z77, z78, z79, z80, z81, z82, z83, z84, z85, z86, z87, z88, z89, z90, z91, z92, z93, z94, z95, z96, z97, z98, z99, z100, z101, z102, z103, z104, z105, z106, z107, z108, z109, z110, z111, z112, z113, z114, z115, z116, z117, z118, z119, z120, z121, z122, z123, z124, z125, z126, z127, z128, z129, z130, z131, z132, z133, z134, z135, z136, z137, z138, z139, z140, z141, z142, z143, z144, z145, z146, z147, z148, z149, z150, z151, z152, z153, z154, z155, z156, z157, z158, z159, z160, z161, z162, z163, z164, z165, z166, z167, z168, z169, z170, z171, z172, z173, z174, z175, z176, z177, z178, z179, z180, z181, z182, z183, z184, z185, z186, z187, z188, x189], []⟩ wx)
    (Hl : Hid (∀ W, Below w0.heap.size w0 W → Laid W)) (hni : (s.size : Int) ≤ 100000) (hI : I = (p : Int)) (hps : p < s.size) (HN : Hid (N = 61 ↔ (s.data.toList.drop (p + 1)).head? = some 61)) (h32 : ¬ c = 32)
    (hlc : s.data.toList[p]? = some c) (Hat0 : Hid (TAt W2 b ⟨0, p, [], 0, ⟨0, 0, ⟨#[]⟩, 0⟩⟩)) (Hbw0 : Hid (Below w0.heap.size w0 W2)) (hb0 : w0.heap.size ≤ b) (h36 : c = 36) :
    Code.wp Tryz.prog swCode (Exit.then K Q) ⟨#[.string s, x1, x2, x3, x4, x5, .int .i64 (I + 1), .int .u8 (c.toNat : Int), .int .i64 I, .int .u8 N, .pointer (some ⟨b, 0, none⟩), x11, x12, x13, x14, x15, x16, x17, x18, x19, x20, x21, x22, x23, x24, x25, x26, x27, x28, x29, x30, x31, x32, x33, x34, x35, .int .u8 (c.toNat : Int), x37, x38, x39, x40, x41, x42, x43, x44, x45, x46, x47, x48, x49, x50, x51, x52, x53, x54, x55, x56, x57, x58, x59, x60, x61, x62, x63, x64, x65, x66, x67, x68, x69, x70, x71, x72, x73, x74, x75, x76, x77, x78, x79, x80, x81, x82, x83, x84, x85, x86, x87, x88, x89, x90, x91, x92, x93, x94, x95, x96, x97, x98, x99, x100, x101, x102, x103, x104, x105, x106, x107, x108, x109, x110, x111, x112, x113, x114, x115, x116, x117, x118, x119, x120, x121, x122, x123, x124, x125, x126, x127, x128, x129, x130, x131, x132, x133, x134, x135, x136, x137, x138, x139, x140, x141, x142, x143, x144, x145, x146, x147, x148, x149, x150, x151, x152, x153, x154, x155, x156, x157, x158, x159, x160, x161, x162, x163, x164, x165, x166, x167, x168, x169, x170, x171, x172, x173, x174, x175, x176, x177, x178, x179, x180, x181, x182, x183, x184, x185, x186, x187, x188, x189], []⟩ W2 := by
  have Hlen : Hid (s.data.toList.length = s.size) := Lib.hid (Lib.size_eq s).symm
  have hInt := Lib.hid hI; have Hlc := Lib.hid hlc; have Hb0 := Lib.hid hb0
  have HK := Lib.hid hK; have Hret := Lib.hid hret
  have hI0 : 0 ≤ I := by omega
  have hI1 : I < (s.size : Int) := by omega
  have hni3 : I + 1 ≤ 100000 := by omega
  have hIj : I.toNat = p := by omega
  have htok := tokL_cons c (s.data.toList.drop (p + 1))
  rw [← (drop_at hlc).1] at htok
  have hz0 := Hat0.out.z 0; have hz2 := Hat0.out.z 2; have hz3 := Hat0.out.z 3
  have hc0 := Hat0.out.c0; have hc2 := Hat0.out.c2; have hc3 := Hat0.out.c3
  simp only at hc0 hc2 hc3
  clear hK hret hI hlc hb0
  have e32 : ((c.toNat : Int) == 32) = false := by rw [h36] <;> rfl
  have e40 : ((c.toNat : Int) == 40) = false := by rw [h36] <;> rfl
  have e41 : ((c.toNat : Int) == 41) = false := by rw [h36] <;> rfl
  have e61 : ((c.toNat : Int) == 61) = false := by rw [h36] <;> rfl
  have e33 : ((c.toNat : Int) == 33) = false := by rw [h36] <;> rfl
  have e60 : ((c.toNat : Int) == 60) = false := by rw [h36] <;> rfl
  have e62 : ((c.toNat : Int) == 62) = false := by rw [h36] <;> rfl
  have e36 : ((c.toNat : Int) == 36) = true := by rw [h36] <;> rfl
  have e0 : ((c.toNat : Int) != 33) = true := by rw [h36] <;> rfl
  have hpl : p + 1 ≤ s.size := hps
  have Htk : Hid (tokL (s.data.toList.drop p) = if nameB ((s.data.toList.drop (p + 1)).takeWhile smallB) then some (⟨0, 0, (s.data.toList.drop (p + 1)).takeWhile smallB, 0, zeroVal⟩, 1 + ((s.data.toList.drop (p + 1)).takeWhile smallB).length) else none) := Lib.hid (by rw [htok, h36]; rfl)
  clear h32 htok h36
  conv => arg 2; whnf
  go_upto_block 5 with fail
  go_cut [6] from 17 to 188 (fun i wx => ∃ (q : Nat) (J : Int), i = .int .i64 J ∧ Hid (J = (q : Int) ∧ p + 1 ≤ q ∧ q ≤ s.size ∧ (s.data.toList.drop (p + 1)).takeWhile smallB = (s.data.toList.drop (p + 1)).take (q - (p + 1))) ∧ W2 = wx)
  case first => 
    go_wp2_with fail
    go_loopg [6] (s.size - (p + 1)) (fun gj i wx => ∃ (q : Nat) (J : Int), i = .int .i64 J ∧ Hid (J = (q : Int) ∧ q + gj = s.size ∧ p + 1 ≤ q ∧ ∀ i d, i < q - (p + 1) → (s.data.toList.drop (p + 1))[i]? = some d → smallB d = true) ∧ W2 = wx)
    case atStart => exact ⟨p + 1, _, rfl, Lib.hid ⟨by have := hInt.out; omega, by omega, Nat.le_refl _, fun i d hi => by omega⟩, rfl⟩
    case round =>
      obtain ⟨q, J, rfl, HQ, rfl⟩ := hrel
      have hJ0 : 0 ≤ J := by have := HQ.out.1; omega
      by_cases hj : J < (s.size : Int)
      · have hJq : J.toNat = q := by have := HQ.out.1; omega
        have hqs : q < s.size := by have := HQ.out.1; omega
        obtain ⟨d, hd⟩ : ∃ d, s[q] = d := ⟨_, rfl⟩
        have hdl : (s.data.toList.drop (p + 1))[q - (p + 1)]? = some d := by rw [List.getElem?_drop, show p + 1 + (q - (p + 1)) = q from by have := HQ.out.2.2.1; omega, byte_at s q hqs, hd]
        have hsm := smallB_iff d
        obtain ⟨D, hD⟩ : ∃ D : Int, D = (d.toNat : Int) := ⟨_, rfl⟩
        rw [← hD] at hsm
        have hcc : (d.toNat : Int) = D := hD.symm
        clear hD
        simp only [lowD, upD, digD] at hsm
        cases hb : smallB d with
        | true =>
          have HQ2 : Hid (∀ i e, i < q + 1 - (p + 1) → (s.data.toList.drop (p + 1))[i]? = some e → smallB e = true) := Lib.hid fun i e hi he => by
            rcases Nat.lt_or_ge i (q - (p + 1)) with h | h
            · exact HQ.out.2.2.2 i e h he
            · obtain rfl : i = q - (p + 1) := by have := HQ.out.2.2.1; omega
              rw [hdl] at he
              cases he
              exact hb
          have h3 := hsm.1 hb
          have h4 : ((97 ≤ D ∧ D ≤ 122)) ∨ (¬ (97 ≤ D ∧ D ≤ 122) ∧ (48 ≤ D ∧ D ≤ 57)) ∨ (¬ (97 ≤ D ∧ D ≤ 122) ∧ ¬ (48 ≤ D ∧ D ≤ 57) ∧ D = 95) := by omega
          clear h3 hsm hdl hb
          rcases h4 with k0 | ⟨k0, k1⟩ | ⟨k0, k1, k2⟩
          · have Hc0 := Lib.hid fun W => in_case W D 97 122 k0
            clear k0
            go_wp2_with fail
            refine (Hc0.out _).mono ?_
            rintro e W ⟨rfl, rfl⟩
            go_wp2_with fail
            go_roundg (s.size - (q + 1))
            case measure => have := HQ.out.2.1; omega
            case rel => exact ⟨q + 1, J + 1, rfl, Lib.hid ⟨by have := HQ.out.1; omega, by have := HQ.out.2.1; omega, by have := HQ.out.2.2.1; omega, HQ2.out⟩, rfl⟩
          · have Hc0 := Lib.hid fun W => out_case W D 97 122 k0
            have Hc1 := Lib.hid fun W => in_case W D 48 57 k1
            clear k0 k1
            go_wp2_with fail
            refine (Hc0.out _).mono ?_
            rintro e W ⟨rfl, rfl⟩
            go_wp2_with fail
            refine (Hc1.out _).mono ?_
            rintro e W ⟨rfl, rfl⟩
            go_wp2_with fail
            go_roundg (s.size - (q + 1))
            case measure => have := HQ.out.2.1; omega
            case rel => exact ⟨q + 1, J + 1, rfl, Lib.hid ⟨by have := HQ.out.1; omega, by have := HQ.out.2.1; omega, by have := HQ.out.2.2.1; omega, HQ2.out⟩, rfl⟩
          · have Hc0 := Lib.hid fun W => out_case W D 97 122 k0
            have Hc1 := Lib.hid fun W => out_case W D 48 57 k1
            clear k0 k1
            subst k2
            go_wp2_with fail
            refine (Hc0.out _).mono ?_
            rintro e W ⟨rfl, rfl⟩
            go_wp2_with fail
            refine (Hc1.out _).mono ?_
            rintro e W ⟨rfl, rfl⟩
            go_wp2_with fail
            go_roundg (s.size - (q + 1))
            case measure => have := HQ.out.2.1; omega
            case rel => exact ⟨q + 1, J + 1, rfl, Lib.hid ⟨by have := HQ.out.1; omega, by have := HQ.out.2.1; omega, by have := HQ.out.2.2.1; omega, HQ2.out⟩, rfl⟩
        | false =>
          have hF := takeWhile_at smallB (s.data.toList.drop (p + 1)) (q - (p + 1)) HQ.out.2.2.2 (.inr ⟨d, hdl, hb⟩)
          have HF := Lib.hid hF
          rw [hb] at hsm
          simp only [Bool.false_eq_true, false_iff] at hsm
          have Hc0 := Lib.hid fun W => out_case W D 97 122 (by omega)
          have Hc1 := Lib.hid fun W => out_case W D 48 57 (by omega)
          have n0 : (D == 95) = false := beq_eq_false_iff_ne.2 (by omega)
          clear hsm hdl hb hF
          go_wp2_with fail
          refine (Hc0.out _).mono ?_
          rintro e W ⟨rfl, rfl⟩
          go_wp2_with fail
          refine (Hc1.out _).mono ?_
          rintro e W ⟨rfl, rfl⟩
          go_wp2_with fail
          go_meet
          exact ⟨q, J, rfl, Lib.hid ⟨HQ.out.1, HQ.out.2.2.1, by have := HQ.out.2.1; omega, HF.out⟩, rfl⟩
      · have hF := takeWhile_at smallB (s.data.toList.drop (p + 1)) (q - (p + 1)) HQ.out.2.2.2 (.inl (List.getElem?_eq_none (by rw [List.length_drop, Hlen.out]; have := HQ.out; omega)))
        have HF := Lib.hid hF
        clear hF
        go_wp2_with fail
        go_meet
        exact ⟨q, J, rfl, Lib.hid ⟨HQ.out.1, HQ.out.2.2.1, by have := HQ.out.2.1; omega, HF.out⟩, rfl⟩
  case rest =>
    obtain ⟨q, J, rfl, HQ, rfl⟩ := hcut
    obtain ⟨X, hX⟩ : ∃ X : ByteArray, s.extract (p + 1) q = X := ⟨_, rfl⟩
    obtain ⟨tw, htw⟩ : ∃ tw, tw = (s.data.toList.drop (p + 1)).takeWhile smallB := ⟨_, rfl⟩
    have hXl : X.data.toList = tw := by rw [← hX, Lib.extract_eq, htw, HQ.out.2.2.2]
    have hXs : X.size = tw.length := by rw [Lib.size_eq, hXl]
    have hXn : tw.length = q - (p + 1) := by rw [htw, HQ.out.2.2.2, List.length_take, List.length_drop, Hlen.out]; have := HQ.out.2.2.1; omega
    have hXb : X.size ≤ 100000 := by have := hni; have := HQ.out.2.2.1; omega
    have hXi : (X.size : Int) ≤ 100000 := by omega
    have hJ1 : J.toNat = q := by have := HQ.out.1; omega
    have hJ2 : J ≤ (s.size : Int) := by have := HQ.out; omega
    have hJ0 : 0 ≤ J := by have := HQ.out.1; omega
    rw [← htw] at Htk
    have hI1p : (I + 1).toNat = p + 1 := by have := hInt.out; omega
    have hIJ : I + 1 ≤ J := by have := HQ.out; have := hInt.out; omega
    have hat1 := Hat0.out.word X
    have hbw1 : Below w0.heap.size w0 (W2.setCell ⟨b, 2, none⟩ (.string X)) := Hbw0.out.setCell Hb0.out _
    rw [hXl] at hat1
    have Hat1 := Lib.hid hat1; have Hbw1 := Lib.hid hbw1
    have Hm1 : Hid (∀ W : World, Calls Tryz.prog 30 #[.string X] W fun e w' => e = .returned (.bool (nameB tw)) ∧ w' = W) := Lib.hid fun W => by
      have := nameR_any W X hXb
      rwa [hXl] at this
    have HJn : Hid (J = I + ((1 + tw.length : Nat) : Int)) := Lib.hid (by have := HQ.out; have := hInt.out; omega)
    have hXt : (⟨tw.toArray⟩ : ByteArray) = X := by rw [← hXl]
    clear hXl hXs hXn hXb hat1 hbw1
    go_upto_region 53 with fail
    generalize (W2.setCell _ _) = W3 at Hat1 Hbw1 ⊢
    have hc2 := Hat1.out.c2
    simp only [hXt] at hc2
    clear hz0 hz2 hz3 hc0 hc3 htw hX
    cases hn : nameB tw with
    | true =>
      have Ht := Lib.hid (show tokL (s.data.toList.drop p) = some (⟨0, 0, tw, 0, zeroVal⟩, 1 + tw.length) from by rw [Htk.out, hn]; rfl)
      rw [hn] at Hm1
      clear hn
      go_wp2_with fail
      refine (Hm1.out _).mono ?_
      rintro e W ⟨rfl, rfl⟩
      go_wp2_with fail
      exact HK.out _ _ _ _ _ _ _ _ _ _ _ _ _ _ _ _ _ _ _ _ _ _ _ _ _ _ _ _ _ _ _ _ _ _ _ _ _ _ _ _ _ _ _ _ _ _ _ _ _ _ _ _ _ _ _ _ _ _ _ _ _ _ _ _ _ _ _ _ _ _ _ _ _ _ _ _ _ _ _ _ _ _ _ _ _ _ _ _ _ _ _ _ _ _ _ _ _ _ _ _ _ _ _ _ _ _ _ _ _ _ _ _ _ _ _ _ _ _ _ _ _ _ _ _ _ _ _ _ _ _ _ _ _ _ _ _ _ _ _ _ _ _ _ _ _ _ _ _ _ _ _ _ _ _ _ _ _ _ _ _ _ _ _ _ _ _ _ _ _ _ _ _ _ _ _ _ _ _ _ _ ⟨⟨0, 0, tw, 0, zeroVal⟩, 1 + tw.length, J, rfl, ⟨Ht.out, HJn.out⟩, Hat1.out, Hbw1.out⟩
    | false =>
      have He := Lib.hid (show tokL (s.data.toList.drop p) = none from by rw [Htk.out, hn]; rfl)
      rw [hn] at Hm1
      clear hn
      go_wp2_with fail
      refine (Hm1.out _).mono ?_
      rintro e W ⟨rfl, rfl⟩
      go_wp2_with fail
      exact Hret.out _ _ _ _ _ _ _ _ _ _ _ _ _ _ _ _ _ _ _ _ _ _ _ _ _ _ _ _ _ _ _ _ _ _ _ _ _ _ _ _ _ _ _ _ _ _ _ _ _ _ _ _ _ _ _ _ _ _ _ _ _ _ _ _ _ _ _ _ _ _ _ _ _ _ _ _ _ _ _ _ _ _ _ _ _ _ _ _ _ _ _ _ _ _ _ _ _ _ _ _ _ _ _ _ _ _ _ _ _ _ _ _ _ _ _ _ _ _ _ _ _ _ _ _ _ _ _ _ _ _ _ _ _ _ _ _ _ _ _ _ _ _ _ _ _ _ _ _ _ _ _ _ _ _ _ _ _ _ _ _ _ _ _ _ _ _ _ _ _ _ _ _ _ _ _ _ _ _ _ _ _ He.out (Hbw1.out)
end Go.Proofs.YthhghlnbpigcjaaGreatDoor
