/- The document's answer for the texts of values: the walk of Print. -/
import Derived.Test.YtjkkmepagdhaeaaGreatDoorVq1
import Derived.Test.YtjkkmepagdhaeaaGreatDoorVm0
set_option linter.unusedVariables false
set_option linter.unusedSimpArgs false
namespace Go.Proofs.YtjkkmepagdhaeaaGreatDoor
open Go.RowKit

set_option maxHeartbeats 8000000 in
set_option maxRecDepth 100000 in
theorem printVR_any (w : World) (x : Val) (hx : x.Wf) :
    Calls Tryz.prog 22 #[x.v] w fun e w' => e = .returned (.string ⟨(printVL (rightOf x)).toArray⟩) ∧ Below w.heap.size w w' := by
  have Hr : Hid (∀ W : World, Calls Tryz.prog 45 #[x.v] W fun e w' => e = .returned (rightOf x).v ∧ Below W.heap.size W w') := Lib.hid fun W => rightofR_any W x hx.f0 hx.f1
  have hw2 := right_wf x hx
  have hs3 := right_s x
  have Ht := Lib.hid (At.new w x.k x.n x.s x.f 25)
  have Hb0 := Lib.hid (below_box1 w (.cells #[.int .i64 x.k, .int .i64 x.n, .string x.s, .int .u64 x.f] 25))
  generalize rightOf x = y at *
  obtain ⟨xk, xn, sx, xf⟩ := x
  obtain ⟨k, n, s, f⟩ := y
  obtain ⟨-, -, n0, n1, f0, f1⟩ := hw2
  have hp : printVL ⟨k, n, s, f⟩ = if k = 1 then Lib.itoa n else if k = 2 then (if n = 1 then tTrue else tFalse) else if k = 3 then 120 :: hexL s.data.toList else if k = 4 then printL f.toNat else tNull := rfl
  have hx2 := hp
  have HX := Lib.hid hp
  generalize printVL ⟨k, n, s, f⟩ = Z at *
  clear hp hx hx2
  simp only [Val.v] at *
  go_enter Tryz.func22, Tryz.ntmps22
  go_wp2_with fail
  generalize (w.alloc _) = W0 at Ht Hb0 ⊢
  refine (Hr.out W0).mono ?_
  rintro e w1 ⟨rfl, hb⟩
  have T2 := At.new w1 k n s f 25
  have hb2 := (Hb0.out.trans (hb.mono Hb0.out.size)).alloc (Nat.le_trans Hb0.out.size hb.size) (.cells #[.int .i64 k, .int .i64 n, .string s, .int .u64 f] 25)
  have HT2 := Lib.hid T2; have Hb3 := Lib.hid hb2
  clear T2 hb2 hb
  go_upto_region 2 with fail
  generalize (w1.alloc _) = W2 at HT2 Hb3 ⊢
  generalize w1.heap.size = C at *
  obtain ⟨e0, e1, e2, e3, -, -⟩ := HT2.out
  clear Ht Hb0 Hr
  by_cases h1 : k = 1
  · subst h1
    have hx := HX.out
    rw [if_pos rfl] at hx
    have HZ := Lib.hid hx
    clear hx HX
    have Hc := Lib.hid (digitsV_any n.natAbs W2 n rfl n0 n1)
    clear hs3 n0 n1 f0 f1
    generalize Lib.itoa n = X at *
    go_wp2_with fail
    refine Hc.out.mono ?_
    rintro e w3 ⟨rfl, hb⟩
    have hbb := Hb3.out.trans (hb.mono Hb3.out.size)
    go_wp2_with fail
    go_ret
    exact ⟨by rw [HZ.out]; rfl, hbb⟩
  have k1 : (k == 1) = false := by rw [beq_eq_false_iff_ne]; exact h1
  have hx := HX.out
  rw [if_neg h1] at hx
  by_cases h2 : k = 2
  · subst h2
    rw [if_pos rfl] at hx
    by_cases hn : n = 1
    · subst hn
      rw [if_pos rfl] at hx
      have HZ := Lib.hid hx
      clear hx HX
      clear hs3 n0 n1 f0 f1 k1 h1
      go_wp2_with fail
      go_ret
      exact ⟨by rw [HZ.out]; rfl, Hb3.out⟩
    · rw [if_neg hn] at hx
      have HZ := Lib.hid hx
      clear hx HX
      have hn2 : (n == 1) = false := by rw [beq_eq_false_iff_ne]; exact hn
      clear hs3 n0 n1 f0 f1 k1 h1 hn
      go_wp2_with fail
      go_ret
      exact ⟨by rw [HZ.out]; rfl, Hb3.out⟩
  have k2 : (k == 2) = false := by rw [beq_eq_false_iff_ne]; exact h2
  rw [if_neg h2] at hx
  by_cases h3 : k = 3
  · subst h3
    rw [if_pos rfl] at hx
    have HZ := Lib.hid hx
    clear hx HX
    have hs := hs3 rfl
    obtain ⟨N, hN⟩ : ∃ N, s.size = N := ⟨_, rfl⟩
    obtain ⟨l, hl⟩ : ∃ l, l = s.data.toList := ⟨_, rfl⟩
    have hlN : l.length = N := by rw [hl, ← hN, Lib.size_eq]
    have HZ2 : Hid (Z = 120 :: hexL l) := Lib.hid (by rw [HZ.out, hl])
    have Hl := Lib.hid hl; have HlN := Lib.hid hlN
    have hN64 : N ≤ 64 := by omega
    have HN64 := Lib.hid hN64
    clear hs3 n0 n1 f0 f1 k1 h1 k2 h2 hs HZ hl hlN hN64
    go_wp2_with fail
    go_loopg [4, 5] N (fun mm sv i wr => ∃ (j : Nat) (I : Int) (X : List UInt8), j + mm = N ∧ Hid (I = (j : Int) ∧ X = 120 :: hexL (l.take j)) ∧ sv = .string ⟨X.toArray⟩ ∧ i = .int .i64 I ∧ ∃ q, wr = W2.drewN q)
    case atStart => exact ⟨0, 0, [120], by omega, Lib.hid ⟨rfl, rfl⟩, rfl, rfl, 0, rfl⟩
    case round =>
      obtain ⟨j, I, X, hj, HI, rfl, rfl, q, rfl⟩ := hrel
      have hI0 : 0 ≤ I := by have := HI.out.1; omega
      by_cases hm : gk = 0
      · have hI1 : ¬ I < (N : Int) := by have := HI.out.1; omega
        have hX : X = Z := by
          rw [HZ2.out, HI.out.2, List.take_of_length_le (by rw [HlN.out]; omega)]
        have HX3 := Lib.hid hX
        clear hm hj hX
        go_wp2_with fail
        go_ret
        exact ⟨by rw [← HX3.out]; rfl, below_drewN Hb3.out _⟩
      · have hI1 : I < (N : Int) := by have := HI.out.1; omega
        have hIj : I.toNat = j := by have := HI.out.1; omega
        have hjs : j < s.size := by omega
        have hN64 := HN64.out
        have hI64 : I ≤ 64 := by omega
        obtain ⟨c, hc⟩ : ∃ c, s[j] = c := ⟨_, rfl⟩
        have hlc : l[j]? = some c := by rw [Hl.out, byte_at s j hjs, hc]
        obtain ⟨hi, hhi⟩ : ∃ hi, c.toNat / 16 = hi := ⟨_, rfl⟩
        obtain ⟨lo, hlo⟩ : ∃ lo, c.toNat % 16 = lo := ⟨_, rfl⟩
        have hc256 := c.toNat_lt
        have hhi16 : hi < 16 := by omega
        have hlo16 : lo < 16 := by omega
        have c1 := digit16_cut hi hhi16
        have c2 := digit16_cut lo hlo16
        have d1 : (c.toNat : Int) / 16 = (hi : Int) := by omega
        have d2 : (c.toNat : Int).tdiv 16 = (hi : Int) := by rw [Int.tdiv_eq_ediv_of_nonneg (by omega)]; exact d1
        have d3 : (c.toNat : Int).tmod 16 = (lo : Int) := by rw [Int.tmod_eq_emod_of_nonneg (by omega)]; omega
        have u1 : IntKind.u8.wrap ((hi : Int) + 1) = (hi : Int) + 1 := by rw [IntKind.wrap_u8]; omega
        have u2 : IntKind.u8.wrap ((lo : Int) + 1) = (lo : Int) + 1 := by rw [IntKind.wrap_u8]; omega
        have v1 : ((hi : Int) + 1).toNat = hi + 1 := by omega
        have v2 : ((lo : Int) + 1).toNat = lo + 1 := by omega
        have t1 : ((hi : Int)).toNat = hi := by omega
        have t2 : ((lo : Int)).toNat = lo := by omega
        have i1 : (hi : Int) < 16 := by omega
        have i2 : (lo : Int) < 16 := by omega
        have i3 : (0 : Int) ≤ (hi : Int) := by omega
        have i4 : (0 : Int) ≤ (lo : Int) := by omega
        have g1 : IntKind.u8.wrap (hi : Int) = (hi : Int) := by rw [IntKind.wrap_u8]; omega
        have g2 : IntKind.u8.wrap (lo : Int) = (lo : Int) := by rw [IntKind.wrap_u8]; omega
        have y1 : (0 : Int) ≤ (hi : Int) + 1 := by omega
        have y2 : (hi : Int) + 1 ≤ 16 := by omega
        have y3 : (hi : Int) ≤ (hi : Int) + 1 := by omega
        have y4 : (0 : Int) ≤ (lo : Int) + 1 := by omega
        have y5 : (lo : Int) + 1 ≤ 16 := by omega
        have y6 : (lo : Int) ≤ (lo : Int) + 1 := by omega
        have sl1 : ∀ W : World, (Instr.sliceAt 9 (.string digits16) (some (.int .u8 (hi : Int))) (some (.int .u8 ((hi : Int) + 1))) none).run Tryz.prog W = .ok (.string ⟨#[dig hi]⟩) W := by
          intro W
          rw [run_sliceAt_string W _ _ _ _ _ Tryz.underlying9, run_slice_string W _ _ _ _ _ _ Tryz.underlying9 (by omega) (by omega) (by show (hi : Int) + 1 ≤ ((16 : Nat) : Int); omega), t1, v1, c1]
        have sl2 : ∀ W : World, (Instr.sliceAt 9 (.string digits16) (some (.int .u8 (lo : Int))) (some (.int .u8 ((lo : Int) + 1))) none).run Tryz.prog W = .ok (.string ⟨#[dig lo]⟩) W := by
          intro W
          rw [run_sliceAt_string W _ _ _ _ _ Tryz.underlying9, run_slice_string W _ _ _ _ _ _ Tryz.underlying9 (by omega) (by omega) (by show (lo : Int) + 1 ≤ ((16 : Nat) : Int); omega), t2, v2, c2]
        have hstep : X ++ [dig hi, dig lo] = 120 :: hexL (l.take (j + 1)) := by
          rw [HI.out.2, take_snoc hlc, hexL_append, ← hhi, ← hlo]; rfl
        have hlen : X.length ≤ 200 := by
          rw [HI.out.2, List.length_cons, hexL_length, List.length_take]; omega
        have add1 := add_lists [dig hi] [dig lo] (by simp)
        have add2 := add_lists X [dig hi, dig lo] (by simp; omega)
        have Hstep := Lib.hid hstep
        have Hj := Lib.hid hj; have Hm := Lib.hid hm
        clear hstep hj hm hlc hhi hlo hlen hc256
        go_wp2_with fail
        go_quiet (fail)
        go_wp2_with fail
        go_roundg (N - (j + 1))
        case measure => have := Hj.out; have := Hm.out; omega
        case rel => exact ⟨j + 1, I + 1, X ++ [dig hi, dig lo], by have := Hj.out; have := Hm.out; omega, Lib.hid ⟨by have := HI.out.1; omega, Hstep.out⟩, by first | rfl | simp, by go_num, _, rfl⟩
  have k3 : (k == 3) = false := by rw [beq_eq_false_iff_ne]; exact h3
  rw [if_neg h3] at hx
  by_cases h4 : k = 4
  · subst h4
    rw [if_pos rfl] at hx
    have HZ := Lib.hid hx
    clear hx HX
    have Hc := Lib.hid (printR_any W2 f f0 f1)
    generalize printL f.toNat = X at *
    clear hs3 n0 n1 f0 f1 k1 h1 k2 h2 k3 h3
    go_wp2_with fail
    refine Hc.out.mono ?_
    rintro e w3 ⟨rfl, hb⟩
    have hbb := Hb3.out.trans (hb.mono Hb3.out.size)
    go_wp2_with fail
    go_ret
    exact ⟨by rw [HZ.out]; rfl, hbb⟩
  have k4 : (k == 4) = false := by rw [beq_eq_false_iff_ne]; exact h4
  rw [if_neg h4] at hx
  have HZ := Lib.hid hx
  clear hx HX
  clear hs3 n0 n1 f0 f1
  go_wp2_with fail
  go_ret
  exact ⟨by rw [HZ.out]; rfl, Hb3.out⟩

end Go.Proofs.YtjkkmepagdhaeaaGreatDoor
