/- The document's answer for floats: the walk of Whole. -/
import Derived.Test.YtacafhmagonngaaGreatDoorFf0
import Derived.Test.YtacafhmagonngaaGreatDoorFa3
set_option linter.unusedVariables false
set_option linter.unusedSimpArgs false
namespace Go.Proofs.YtacafhmagonngaaGreatDoor
open Go.RowKit

theorem float_parts (u : Int) (h0 : 0 ≤ u) (h1 : u < 18446744073709551616) : ∃ (s e m : Nat), u / 9223372036854775808 = s ∧ u / 4503599627370496 % 2048 = e ∧ u % 4503599627370496 = m ∧ (s = 0 ∨ s = 1) ∧ e < 2048 ∧ m < 4503599627370496 ∧ rungW u.toNat = e * B52 + m ∧ negW u.toNat = decide (s = 1) := by
  refine ⟨(u / 9223372036854775808).toNat, (u / 4503599627370496 % 2048).toNat, (u % 4503599627370496).toNat, by omega, by omega, by omega, by omega, by omega, by omega, ?_, ?_⟩
  · unfold rungW B63 B52; omega
  · rw [negW_lt (by omega)]
    congr 1
    rw [eq_iff_iff]
    unfold B63
    omega
def WInv (T d j n mm : Nat) (K : Int) : Prop := j + mm = d ∧ T % 2 ^ j = 0 ∧ n = T / 2 ^ j ∧ K = (j : Int) - d
/-- the two states of the last loop -/
def Two (mm : Nat) (x k : Value) : Prop := (mm = 1 ∧ x = .int .u64 4503599627370496 ∧ k = .int .i64 1) ∨ (mm = 0 ∧ x = .int .u64 9007199254740992 ∧ k = .int .i64 0)
set_option maxHeartbeats 8000000 in
set_option maxRecDepth 100000 in
theorem wholeR_any (w : World) (u : Int) (h0 : 0 ≤ u) (h1 : u < 18446744073709551616) :
    Calls Tryz.prog 85 #[.int .u64 u] w fun e w' => e = .returned (.tuple #[.int .i64 (wholeV u.toNat), .bool (wholeW u.toNat)]) ∧ w = w' := by
  have hp := parts_any w u h0 h1
  obtain ⟨s, e, m, es, ee, em, hs, he, hm, hr, hn⟩ := float_parts u h0 h1
  rw [es, ee, em] at hp
  clear es ee em
  have Hp := Lib.hid hp; clear hp
  have hmB : m < B52 := hm
  have Hr := Lib.hid hr; have Hn := Lib.hid hn
  generalize hw : u.toNat = W at hr hn Hr Hn
  have HW := Lib.hid hw
  clear hw h0 h1
  by_cases hz : e = 0 ∧ m = 0
  · obtain ⟨rfl, rfl⟩ := hz
    have hz2 := whole_zero (w := W) (by rw [hr]; simp)
    have Hz := Lib.hid hz2
    clear hz2 hr hn hmB
    go_enter Tryz.func85, Tryz.ntmps85
    go_wp2_with fail
    refine Hp.out.mono ?_
    rintro e w' ⟨rfl, rfl⟩
    go_wp2_with fail
    go_ret2
    exact ⟨by rw [Hz.out.1, Hz.out.2]; rfl, rfl⟩
  · have hnz : ∀ b : Bool, b = ((((e : Int) == 0) && ((m : Int) == 0))) → b = false := by
      intro b hb
      rw [hb, Bool.and_eq_false_iff, beq_eq_false_iff_ne, beq_eq_false_iff_ne]
      omega
    by_cases hlo : e < 1023
    · have hx := whole_small hr hmB hlo (by rw [hr]; unfold B52; omega)
      have Hx := Lib.hid hx
      have Hv := Lib.hid (whole_not hx)
      clear hx hr hn hmB hnz
      by_cases he0 : e = 0
      · have hm0 : ((m : Int) == 0) = false := by rw [beq_eq_false_iff_ne]; omega
        subst he0
        clear hz
        go_enter Tryz.func85, Tryz.ntmps85
        go_wp2_with fail
        refine Hp.out.mono ?_
        rintro e w' ⟨rfl, rfl⟩
        go_wp2_with fail
        go_ret2
        exact ⟨by rw [Hx.out, Hv.out]; rfl, rfl⟩
      · have he1 : ((e : Int) == 0) = false := by rw [beq_eq_false_iff_ne]; omega
        have he2 : (e : Int) < 1023 := by omega
        clear hz he0
        go_enter Tryz.func85, Tryz.ntmps85
        go_wp2_with fail
        refine Hp.out.mono ?_
        rintro e w' ⟨rfl, rfl⟩
        go_wp2_with fail
        go_ret2
        exact ⟨by rw [Hx.out, Hv.out]; rfl, rfl⟩
    · have he1 : ((e : Int) == 0) = false := by rw [beq_eq_false_iff_ne]; omega
      have he2 : ¬ (e : Int) < 1023 := by omega
      clear hz hnz
      by_cases hhi : 1076 < e
      · have hx := whole_big (w := W) (by rw [hr]; unfold R53 B52; omega)
        have Hx := Lib.hid hx
        have Hv := Lib.hid (whole_not hx)
        have he3 : (1076 : Int) < e := by omega
        clear hx hr hn hmB
        go_enter Tryz.func85, Tryz.ntmps85
        go_wp2_with fail
        refine Hp.out.mono ?_
        rintro e w' ⟨rfl, rfl⟩
        go_wp2_with fail
        go_ret2
        exact ⟨by rw [Hx.out, Hv.out]; rfl, rfl⟩
      · have he3 : ¬ (1076 : Int) < e := by omega
        by_cases he4 : e = 1076
        · subst he4
          by_cases hm0 : 0 < m
          · have hx := whole_big (w := W) (by rw [hr]; unfold R53 B52; omega)
            have Hx := Lib.hid hx
            have Hv := Lib.hid (whole_not hx)
            have hm1 : (0 : Int) < m := by omega
            clear hx hr hn hmB
            go_enter Tryz.func85, Tryz.ntmps85
            go_wp2_with fail
            refine Hp.out.mono ?_
            rintro e w' ⟨rfl, rfl⟩
            go_wp2_with fail
            go_ret2
            exact ⟨by rw [Hx.out, Hv.out]; rfl, rfl⟩
          · obtain rfl : m = 0 := by omega
            obtain ⟨hx1, hx2⟩ := whole_top (w := W) (by rw [hr]; decide)
            have Hx := Lib.hid hx1
            have hv : wholeV W = if s = 1 then -9007199254740992 else 9007199254740992 := by
              unfold wholeV
              rw [if_pos hx1, hx2, hn]
              rcases hs with rfl | rfl <;> rfl
            have Hv := Lib.hid hv
            clear hx1 hx2 hr hn hmB hv
            rcases hs with rfl | rfl
            all_goals
              go_enter Tryz.func85, Tryz.ntmps85
              go_wp2_with fail
              refine Hp.out.mono ?_
              rintro e w' ⟨rfl, rfl⟩
              go_wp2_with fail
              go_loopg [7, 8] 0 (fun mm x k wr => x = .int .u64 4503599627370496 ∧ k = .int .i64 1 ∧ w = wr)
              case atStart => exact ⟨rfl, rfl, rfl⟩
              case round =>
                obtain ⟨rfl, rfl, rfl⟩ := hrel
                go_wp2_with fail
                go_loopg [7, 8] 1 (fun mm x k wr => Two mm x k ∧ w = wr)
                case atStart => exact ⟨.inl ⟨rfl, rfl, rfl⟩, rfl⟩
                case round =>
                  obtain ⟨htwo, rfl⟩ := hrel
                  rcases htwo with ⟨rfl, rfl, rfl⟩ | ⟨rfl, rfl, rfl⟩
                  · go_wp2_with fail
                    go_roundg 0
                    case measure => omega
                    case rel => exact ⟨.inr ⟨rfl, rfl, rfl⟩, rfl⟩
                  · go_wp2_with fail
                    go_ret2
                    exact ⟨by rw [Hx.out, Hv.out]; rfl, rfl⟩
        · obtain ⟨d, hd⟩ : ∃ d, e + d = 1075 := ⟨1075 - e, by omega⟩
          have hd52 : d ≤ 52 := by omega
          obtain ⟨hx1, hx2⟩ := whole_mid hr hmB hd hd52
          obtain ⟨T, hT⟩ : ∃ T, T = B52 + m := ⟨_, rfl⟩
          rw [← hT] at hx1 hx2
          have hTlt : T < 9007199254740992 := by rw [hT]; unfold B52 at *; omega
          have hmT : (m : Int) + 4503599627370496 = (T : Int) := by rw [hT]; unfold B52; omega
          have he5 : ¬ ((e : Int) == 1076) = true := by rw [beq_iff_eq]; omega
          have hek : (e : Int) - 1075 = -(d : Int) := by omega
          have Hv : Hid (T % 2 ^ d = 0 → wholeW W = true ∧ wholeV W = if s = 1 then -((T / 2 ^ d : Nat) : Int) else ((T / 2 ^ d : Nat) : Int)) := by
            refine Lib.hid fun h => ?_
            have hw : wholeW W = true := by rw [hx1, decide_eq_true h]
            refine ⟨hw, ?_⟩
            unfold wholeV
            rw [if_pos hw, hx2, hn]
            rcases hs with rfl | rfl <;> rfl
          have Hx : Hid (T % 2 ^ d ≠ 0 → wholeW W = false ∧ wholeV W = 0) := by
            refine Lib.hid fun h => ?_
            have hw : wholeW W = false := by rw [hx1, decide_eq_false h]
            exact ⟨hw, whole_not hw⟩
          have HT := Lib.hid hTlt
          clear hx1 hx2 hr hn hmB hT he4 he3 hhi hlo Hr Hn hTlt
          have Hd := Lib.hid hd52
          have hkz : -(d : Int) ≤ 0 := by omega
          have Hstep : Hid (∀ j n : Nat, j < d → T % 2 ^ j = 0 → n = T / 2 ^ j → n % 2 = 1 → T % 2 ^ d ≠ 0) := by
            refine Lib.hid fun j n hj h1 h2 h3 h4 => ?_
            have hdv : 2 ^ (j + 1) ∣ T := Nat.dvd_trans (Nat.pow_dvd_pow 2 hj) (Nat.dvd_of_mod_eq_zero h4)
            obtain ⟨c, hc⟩ := hdv
            have : n = 2 * c := by
              rw [h2, hc, Nat.pow_succ, Nat.mul_assoc, Nat.mul_div_cancel_left _ (Nat.pow_pos (by decide))]
            omega
          have Hnext : Hid (∀ j n : Nat, T % 2 ^ j = 0 → n = T / 2 ^ j → n % 2 = 0 → T % 2 ^ (j + 1) = 0 ∧ n / 2 = T / 2 ^ (j + 1)) := by
            refine Lib.hid fun j n h1 h2 h3 => ?_
            constructor
            · rw [Nat.pow_succ, Nat.mod_mul, h1, ← h2, h3]; rfl
            · rw [Nat.pow_succ, ← Nat.div_div_eq_div_mul, h2]
          generalize hE : (e : Int) = E at *
          generalize hM : (m : Int) = M at *
          clear hE hM hd hd52 he hm
          generalize hS : (s : Int) = S at *
          generalize hD : -(d : Int) = D at *
          have HD := Lib.hid hD
          have HS := Lib.hid hS
          clear hD hS
          have hT2 : (T : Int) < 9007199254740992 := by have := HT.out; omega
          generalize hTi : (T : Int) = TI at *
          have HTi := Lib.hid hTi
          clear hTi
          have hT0 : 0 ≤ TI := by rw [← HTi.out]; omega
          have hM2 : M + 4503599627370496 = TI := hmT
          go_enter Tryz.func85, Tryz.ntmps85
          go_wp2_with fail
          refine Hp.out.mono ?_
          rintro e w' ⟨rfl, rfl⟩
          go_wp2_with fail
          go_loopg [7, 8] d (fun mm x k wr => ∃ (j n : Nat) (K : Int), WInv T d j n mm K ∧ x = .int .u64 (n : Int) ∧ k = .int .i64 K ∧ w = wr)
          case atStart => exact ⟨0, T, D, ⟨by omega, by rw [Nat.pow_zero, Nat.mod_one], by rw [Nat.pow_zero, Nat.div_one], by rw [← HD.out]; omega⟩, by rw [HTi.out], rfl, rfl⟩
          case round =>
            obtain ⟨j, n, K, hinv, rfl, rfl, rfl⟩ := hrel
            have hn : n < 9007199254740992 := by
              rw [hinv.2.2.1]
              exact Nat.lt_of_le_of_lt (Nat.div_le_self _ _) HT.out
            have hnI : (0 : Int) ≤ (n : Int) ∧ (n : Int) < 9007199254740992 := by omega
            have hn0 : (0 : Int) ≤ (n : Int) := hnI.1
            have hn1 : (n : Int) < 9007199254740992 := hnI.2
            clear hnI hn
            have hjd := Lib.hid hinv.1
            have hK := hinv.2.2.2
            have Hi := Lib.hid hinv
            clear hinv
            by_cases hm : gk = 0
            · have hd0 : j = d := by have := hjd.out; omega
              have hK0 : K = 0 := by omega
              have hbs := Hv.out (by rw [← hd0]; exact Hi.out.2.1)
              have hnv : n = T / 2 ^ d := by rw [← hd0]; exact Hi.out.2.2.1
              rw [← hnv] at hbs
              have Hb := Lib.hid hbs
              clear hbs hnv hd0 hK hm
              subst hK0
              go_wp2_with fail
              go_loopg [7, 8] 0 (fun mm x k wr => x = .int .u64 (n : Int) ∧ k = .int .i64 0 ∧ w = wr)
              case atStart => exact ⟨rfl, rfl, rfl⟩
              case round =>
                obtain ⟨rfl, rfl, rfl⟩ := hrel
                generalize hN : (n : Int) = N at *
                rcases hs with rfl | rfl
                · have hS0 : S = 0 := by rw [← HS.out]; rfl
                  subst hS0
                  have hb1 := Hb.out.1
                  have hb2 := Hb.out.2
                  rw [if_neg (by decide)] at hb2
                  have H1 := Lib.hid hb1; have H2 := Lib.hid hb2
                  clear hb1 hb2 hN
                  go_wp2_with fail
                  go_ret2
                  exact ⟨by rw [H1.out, H2.out]; rfl, rfl⟩
                · have hS0 : S = 1 := by rw [← HS.out]; rfl
                  subst hS0
                  have hb1 := Hb.out.1
                  have hb2 := Hb.out.2
                  rw [if_pos rfl] at hb2
                  have H1 := Lib.hid hb1; have H2 := Lib.hid hb2
                  clear hb1 hb2 hN
                  go_wp2_with fail
                  go_ret2
                  exact ⟨by rw [H1.out, H2.out]; rfl, rfl⟩
            · have hjl : j < d := by have := hjd.out; omega
              have hKn : K < 0 := by omega
              have hK2 : -53 < K := by have := Hd.out; omega
              rcases Nat.mod_two_eq_zero_or_one n with hp | hp
              · obtain ⟨q1, q2⟩ := Hnext.out j n Hi.out.2.1 Hi.out.2.2.1 hp
                have hpi : ((n : Int) % 2 == 1) = false := by rw [beq_eq_false_iff_ne]; omega
                have hpi2 : (n : Int) % 2 = 0 := by omega
                have Hq1 := Lib.hid q1; have Hq2 := Lib.hid q2; have Hjl := Lib.hid hjl
                have HK := Lib.hid hK
                have Hm := Lib.hid hm
                clear q1 q2 hp hjl hK hm
                have hdv : ((n / 2 : Nat) : Int) = (n : Int) / 2 := by omega
                have Hdv := Lib.hid hdv
                clear hdv
                go_wp2_with fail
                go_roundg (gk - 1)
                case measure => have := Hm.out; omega
                case rel =>
                  refine ⟨j + 1, n / 2, K + 1, ⟨?_, Hq1.out, Hq2.out, ?_⟩, ?_, ?_, rfl⟩
                  · have := hjd.out; have := Hm.out; omega
                  · have := HK.out; omega
                  · go_num
                  · go_num
              · have hx := Hx.out (Hstep.out j n hjl Hi.out.2.1 Hi.out.2.2.1 hp)
                have HX := Lib.hid hx
                have hpi : ((n : Int) % 2 == 1) = true := by rw [beq_iff_eq]; omega
                have hpi2 : (n : Int) % 2 = 1 := by omega
                clear hx hp hjl hK hm
                go_wp2_with fail
                go_ret2
                exact ⟨by rw [HX.out.1, HX.out.2]; rfl, rfl⟩
end Go.Proofs.YtacafhmagonngaaGreatDoor
