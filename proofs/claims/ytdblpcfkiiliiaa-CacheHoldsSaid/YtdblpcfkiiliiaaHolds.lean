/- The walk of CacheHolds. -/
import Derived.Test.YtdblpcfkiiliiaaFits
import Derived.Test.YtdblpcfkiiliiaaE0
set_option linter.unusedVariables false
set_option linter.unusedSimpArgs false
namespace Go.Proofs.Ytdblpcfkiiliiaa
open Go.RowKit

theorem touch0r {w : World} {c a cap : Nat} {pb fb : Nat → Nat} {p : Pt} (h : CaAt w c a cap pb fb [p]) (P : Int) (page : Int) (hP : P = page) (hok : p.ok 1000000) : Calls Try.prog 10 #[.pointer (some ⟨c, 0, none⟩), .int .i64 0, .int .i64 P] w fun e w' =>
    e = .returned (.tuple #[.bool (touch p page).2.1, .int .i64 (touch p page).2.2]) ∧ CaAt w' c a cap pb fb [(touch p page).1] ∧ Upd (Of (pb 0) (fb 0)) w w' := by
  subst hP; exact touch0 h P hok

theorem fill_rest (q : Nat) (hq : 1 ≤ q) : Rest q (fill q q) 100 := by
  obtain ⟨q, rfl⟩ : ∃ j, q = j + 1 := ⟨q - 1, by omega⟩
  exact ⟨⟨fresh 100, by simp [fill], rfl, rfl, rfl⟩, by simp [fill], hq⟩

theorem field_pinned (a b c d : Value) (w : World) : (Instr.field 32 (.agg #[a, b, c, d]) 3).run Try.prog w = .ok d w := by kernel_rfl
set_option maxHeartbeats 4000000 in
set_option maxRecDepth 100000 in
theorem holds_walk (w : World) (u : Int) (hu0 : 0 ≤ u) (hu1 : u ≤ 255) (A : Option Addr) (n cap : Nat) (xs : List Int) (hn : xs.length = n) (hm : n ≤ 9223372036854775807) (hx : Bytes8 w A xs) :
    Calls Try.prog 7 #[.int .u8 u, .slice A n cap] w fun e w' => e = .returned (.bool true) ∧ Below w.heap.size w w' := by
  have hfl := field_pinned
  have Hx := Lib.hid hx; clear hx
  have Hn := Lib.hid hn; clear hn
  go_enter Try.func7, Try.ntmps7
  go_wp2_with fail
  refine (first_any w).mono ?_
  rintro e w1 ⟨rfl, hb1⟩
  go_wp2_with fail
  obtain ⟨q, hq⟩ := Int.eq_ofNat_of_zero_le (show (0 : Int) ≤ 1 + u % 6 by omega)
  have hq1 : 1 ≤ q := by omega
  have hq6 : q ≤ 6 := by omega
  rw [hq]
  clear hq hu0 hu1
  refine (new_one _ w1.heap.size q hq1 (by omega) (by simp) (by simp)).mono ?_
  rintro e w2 ⟨C, a, ca, pb, fb, rfl, hc, hb2, hp0, hf0⟩
  have hsz : w1.heap.size < w2.heap.size := by have := hb2.size; simp at this; omega
  have hbb : Below w.heap.size w w2 := (hb1.alloc hb1.size _).trans (hb2.mono (by have := hb1.size; simp; omega))
  have hpp : w.heap.size ≤ pb 0 ∧ w.heap.size ≤ fb 0 := by have := hb1.size; simp at hp0 hf0; omega
  have hof : ∀ i, Of (pb 0) (fb 0) i → w.heap.size ≤ i := by rintro i (e | e) <;> omega
  have Hof := Lib.hid hof
  clear hb1 hb2 hp0 hf0 hsz hof hpp
  have Hc := Lib.hid hc; clear hc
  go_wp2_with fail
  go_loopg [29] q (fun k i wr => ∃ (j : Nat), j ≤ q ∧ k = q - j ∧ i = .int .i64 j ∧ CaAt wr C a ca pb fb [fill q j] ∧ Below w.heap.size w wr)
  case atStart => exact ⟨0, by omega, by omega, rfl, Hc.out, hbb⟩
  case round =>
    obtain ⟨j, hj, hk, rfl, hc, hb⟩ := hrel
    have Hk := Lib.hid hk; clear hk Hc hbb
    have Hc := Lib.hid hc; clear hc
    by_cases hjq : j < q
    · by_cases hj0 : j = 0
      · subst hj0
        go_wp2_with fail
        have ht := touch0 Hc.out 100 ((fill_ok q 0 (by omega)).mono (by omega))
        rw [fill_touch0 q hq1] at ht
        refine ht.mono ?_
        rintro e w3 ⟨rfl, hc3, hu⟩
        have hb3 := Upd.below hb hu Hof.out hb.size
        have Hc3 := Lib.hid hc3
        clear hc3 hu hb ht Hc
        go_wp2_with fail
        go_roundg (q - 1)
        case measure => have := Hk.out; omega
        case rel => exact ⟨1, by omega, rfl, rfl, Hc3.out, hb3⟩
      · have hjp : (0 : Int) < (j : Int) := by omega
        go_wp2_with fail
        have ht := touch0 Hc.out (100 + j) ((fill_ok q j (by omega)).mono (by omega))
        rw [fill_touch q j (by omega) hjq] at ht
        refine ht.mono ?_
        rintro e w3 ⟨rfl, hc3, hu⟩
        have hb3 := Upd.below hb hu Hof.out hb.size
        have Hc3 := Lib.hid hc3
        clear hc3 hu hb ht
        go_wp2_with fail
        have hok : Pt.ok 1000000 (⟨fresh 100 :: ((hl (j - 1) ++ [fresh (100 + j)]) ++ List.replicate (q - (j + 1)) Fr.zero), 0, 0, (j : Int) + 1⟩ : Pt) := by
          have := touch_ok ((fill_ok q j (by omega)).mono (show (1000 : Int) ≤ 5000 by omega)) (by omega) (100 + j)
          rw [fill_touch q j (by omega) hjq] at this
          exact this.mono (by omega)
        have ht := hold0 Hc3.out (100 + j) hok
        rw [fill_hold q j (by omega) hjq] at ht
        refine ht.mono ?_
        rintro e w4 ⟨rfl, hc4, hu⟩
        have hb4 := Upd.below hb3 hu Hof.out hb3.size
        have Hc4 := Lib.hid hc4
        clear hc4 hu hb3 ht Hc Hc3 hok
        go_wp2_with fail
        go_roundg (q - (j + 1))
        case measure => have := Hk.out; omega
        case rel => exact ⟨j + 1, by omega, rfl, by go_num, Hc4.out, hb4⟩
    · have hjq' : j = q := by omega
      subst hjq'
      have hok := (fill_ok j j (by omega))
      have hrs := fill_rest j hq1
      generalize fill j j = p0 at hok hrs Hc
      have Hok := Lib.hid hok; clear hok
      have Hrs := Lib.hid hrs; clear hrs
      go_wp2_with fail
      go_loopg [48] n (fun k i wr => ∃ (m : Nat) (p : Pt) (pg : Int), m ≤ n ∧ m ≤ 100 ∧ k = n - m ∧ i = .int .i64 m ∧ CaAt wr C a ca pb fb [p] ∧ Rest j p pg ∧ pg < 101 ∧ p.ok (1000 + m) ∧ Below w.heap.size w wr)
      case atStart => exact ⟨0, p0, 100, by omega, by omega, by omega, rfl, Hc.out, Hrs.out, by omega, Hok.out.mono (by omega), hb⟩
      case round =>
        obtain ⟨m, p, pg, hm0, hm1, hk, rfl, hc, hr, hpg, hok, hb⟩ := hrel
        have Hk2 := Lib.hid hk; clear hk Hc Hok Hrs
        have Hc := Lib.hid hc; have Hr := Lib.hid hr; have Hok := Lib.hid hok; clear hc hr hok
        by_cases hmn : m < n
        · have hlx : m < xs.length := by rw [Hn.out]; exact hmn
          have hrg := Hx.out.rng xs[m] (List.getElem_mem hlx)
          obtain ⟨b, off, hA, hbs, hcell⟩ := Hx.out.cell m hlx
          have hcell2 := (hb.cell (p := ⟨b, off + m, none⟩) hbs).trans hcell
          subst hA
          clear hcell
          by_cases hm100 : m < 100
          · have hge : ¬ (100 : Int) ≤ m := by omega
            obtain ⟨x, hx⟩ := Int.eq_ofNat_of_zero_le hrg.1
            rw [hx] at hcell2 hrg
            obtain ⟨hr0, hr1⟩ := hrg
            go_wp2_with fail
            clear hx
            have hy : (x : Int) % 90 < 101 := by omega
            obtain ⟨t1, t2⟩ := rest_touch Hr.out ((x : Int) % 90) hy
            have tok := touch_ok Hok.out (by omega) ((x : Int) % 90)
            have ht := touch0 Hc.out ((x : Int) % 90) (Hok.out.mono (by omega))
            rw [t1] at ht
            refine ht.mono ?_
            rintro e w3 ⟨rfl, hc3, hu⟩
            have hb3 := Upd.below hb hu Hof.out hb.size
            generalize (touch p ((x : Int) % 90)).1 = p1 at hc3 t2 tok
            generalize (touch p ((x : Int) % 90)).2.1 = bo
            have Hc3 := Lib.hid hc3; have Hr3 := Lib.hid t2; have Hok3 := Lib.hid tok
            have Hy := Lib.hid hy
            clear hc3 hu hb ht t1 t2 tok Hc Hr Hok hy
            go_wp2_with fail
            go_loopg [13] (j - 1) (fun k i wr => ∃ (y : Nat), 1 ≤ y ∧ y ≤ j ∧ k = j - y ∧ i = .int .i64 y ∧ CaAt wr C a ca pb fb [p1] ∧ Below w.heap.size w wr)
            case atStart => exact ⟨1, by omega, by omega, rfl, rfl, Hc3.out, hb3⟩
            case round =>
              obtain ⟨y, hy0, hy1, hk, rfl, hc, hb⟩ := hrel
              have Hk3 := Lib.hid hk; clear hk hb3
              have Hc := Lib.hid hc; clear hc Hc3
              by_cases hyj : y < j
              · go_wp2_with fail
                have hh := has0 Hc.out (100 + (y : Int))
                rw [rest_has Hr3.out y (by omega) hyj Hy.out] at hh
                refine hh.mono ?_
                rintro e w5 ⟨rfl, hb5⟩
                have Hc5 := Lib.hid (Hc.out.below hb5)
                have hb6 := hb.trans (hb5.mono hb.size)
                clear hb5 hh Hc hb
                go_wp2_with fail
                go_roundg (j - (y + 1))
                case measure => have := Hk3.out; omega
                case rel => exact ⟨y + 1, by omega, by omega, rfl, by go_num, Hc5.out, hb6⟩
              · go_wp2_with fail
                go_roundg (n - (m + 1))
                case measure => have := Hk2.out; omega
                case rel => exact ⟨m + 1, p1, _, by omega, by omega, rfl, by go_num, Hc.out, Hr3.out, Hy.out, Hok3.out.mono (by omega), hb⟩
          · have hge : (100 : Int) ≤ m := by omega
            go_wp2_with fail
            have hok0 := Hok.out.mono (show (1000 : Int) + m ≤ 2000 by omega)
            obtain ⟨t1, t2⟩ := rest_touch Hr.out 95 (by omega)
            have tok := touch_ok hok0 (by omega) 95
            have ht := touch0 Hc.out 95 (hok0.mono (by omega))
            rw [t1] at ht
            refine ht.mono ?_
            rintro e w3 ⟨rfl, hc3, hu⟩
            have hb3 := Upd.below hb hu Hof.out hb.size
            generalize (touch p 95).1 = p1 at hc3 t2 tok
            generalize (touch p 95).2.1 = bo
            have Hc3 := Lib.hid hc3; have Hr3 := Lib.hid t2; have Hok3 := Lib.hid tok
            clear hc3 hu hb ht t1 t2 tok Hc Hr Hok hok0
            go_wp2_with fail
            obtain ⟨f0, k1, k2, k3, k4, k5⟩ := rest_hold Hr3.out (by omega)
            have ht := hold0 Hc3.out 95 (Hok3.out.mono (by omega))
            have tok := hold_ok Hok3.out (by omega) 95
            rw [k1] at ht
            rw [k2] at ht tok
            refine ht.mono ?_
            rintro e w4 ⟨rfl, hc4, hu⟩
            have hb4 := Upd.below hb3 hu Hof.out hb3.size
            have hf4 : ({ p1 with frames := f0 :: hl (j - 1) } : Pt).frames = f0 :: hl (j - 1) := rfl
            generalize ({ p1 with frames := f0 :: hl (j - 1) } : Pt) = p2 at hc4 tok hf4
            have Hc4 := Lib.hid hc4; have Hok4 := Lib.hid tok; have Hf4 := Lib.hid hf4
            have K3 := Lib.hid k3; have K4 := Lib.hid k4; have K5 := Lib.hid k5
            clear hc4 hu hb3 ht k1 k2 k3 k4 k5 tok hf4 Hc3 Hok3 Hr3
            go_wp2_with fail
            have ht := touch0 Hc4.out 96 (Hok4.out.mono (by omega))
            have tok := touch_ok Hok4.out (by omega) 96
            have e96 := full_touch hq1 Hf4.out K4.out K5.out 96 (by omega) (by rw [K3.out]; omega)
            rw [e96] at ht tok
            refine ht.mono ?_
            rintro e w5 ⟨rfl, hc5, hu⟩
            have hb5 := Upd.below hb4 hu Hof.out hb4.size
            have hf5 : ({ p2 with misses := p2.misses + 1 } : Pt).frames = f0 :: hl (j - 1) := Hf4.out
            simp only at hc5 tok
            generalize ({ p2 with misses := p2.misses + 1 } : Pt) = p3 at hc5 tok hf5
            have Hc5 := Lib.hid hc5; have Hok5 := Lib.hid tok; have Hf5 := Lib.hid hf5
            clear hc5 hu hb4 ht tok hf5 e96 Hc4 Hok4 Hf4
            go_wp2_with fail
            have hct := counts0 Hc5.out
            rw [full_pins hq1 Hf5.out K5.out] at hct
            refine hct.mono ?_
            rintro e w6 ⟨rfl, hb6⟩
            have Hc6 := Lib.hid (Hc5.out.below hb6)
            have hb7 := hb5.trans (hb6.mono hb5.size)
            clear hb6 hct hb5 Hc5
            go_wp2_with fail
            have hrl := release0 Hc6.out f0.page (Hok5.out.mono (by omega))
            obtain ⟨f9, k1, k2, k9, k10, k11⟩ := full_release Hf5.out K4.out K5.out
            rw [K3.out] at k9
            rw [k1, k2, K3.out] at hrl
            refine hrl.mono ?_
            rintro e w8 ⟨rfl, hc8, hu⟩
            have hb8 := Upd.below hb7 hu Hof.out hb7.size
            have hf8 : ({ p3 with frames := f9 :: hl (j - 1) } : Pt).frames = f9 :: hl (j - 1) := rfl
            have tok : ({ p3 with frames := f9 :: hl (j - 1) } : Pt).ok 1000000 := by
              have := release_ok Hok5.out (by omega) f0.page
              rw [k2] at this
              exact this.mono (by omega)
            generalize ({ p3 with frames := f9 :: hl (j - 1) } : Pt) = p9 at hc8 hf8 tok
            have Hc8 := Lib.hid hc8; have Hf8 := Lib.hid hf8; have Hok8 := Lib.hid tok
            have K9 := Lib.hid k9; have K10 := Lib.hid k10; have K11 := Lib.hid k11
            clear hc8 hf8 k9 k10 k11 k1 k2 hu hb7 hrl tok Hc6
            go_wp2_with fail
            have hdr := drop0 Hc8.out f9.page
            rw [full_drop Hf8.out K10.out K11.out, K9.out] at hdr
            refine hdr.mono ?_
            rintro e w10 ⟨rfl, hc10, hu⟩
            have hb10 := Upd.below hb8 hu Hof.out hb8.size
            clear hc10 hu hb8 hdr
            go_wp2_with fail
            go_ret
            exact ⟨rfl, hb10⟩
        · go_wp2_with fail
          have hok0 := Hok.out.mono (show (1000 : Int) + m ≤ 2000 by omega)
          obtain ⟨t1, t2⟩ := rest_touch Hr.out 95 (by omega)
          have tok := touch_ok hok0 (by omega) 95
          have ht := touch0 Hc.out 95 (hok0.mono (by omega))
          rw [t1] at ht
          refine ht.mono ?_
          rintro e w3 ⟨rfl, hc3, hu⟩
          have hb3 := Upd.below hb hu Hof.out hb.size
          generalize (touch p 95).1 = p1 at hc3 t2 tok
          generalize (touch p 95).2.1 = bo
          have Hc3 := Lib.hid hc3; have Hr3 := Lib.hid t2; have Hok3 := Lib.hid tok
          clear hc3 hu hb ht t1 t2 tok Hc Hr Hok hok0
          go_wp2_with fail
          obtain ⟨f0, k1, k2, k3, k4, k5⟩ := rest_hold Hr3.out (by omega)
          have ht := hold0 Hc3.out 95 (Hok3.out.mono (by omega))
          have tok := hold_ok Hok3.out (by omega) 95
          rw [k1] at ht
          rw [k2] at ht tok
          refine ht.mono ?_
          rintro e w4 ⟨rfl, hc4, hu⟩
          have hb4 := Upd.below hb3 hu Hof.out hb3.size
          have hf4 : ({ p1 with frames := f0 :: hl (j - 1) } : Pt).frames = f0 :: hl (j - 1) := rfl
          generalize ({ p1 with frames := f0 :: hl (j - 1) } : Pt) = p2 at hc4 tok hf4
          have Hc4 := Lib.hid hc4; have Hok4 := Lib.hid tok; have Hf4 := Lib.hid hf4
          have K3 := Lib.hid k3; have K4 := Lib.hid k4; have K5 := Lib.hid k5
          clear hc4 hu hb3 ht k1 k2 k3 k4 k5 tok hf4 Hc3 Hok3 Hr3
          go_wp2_with fail
          have ht := touch0 Hc4.out 96 (Hok4.out.mono (by omega))
          have tok := touch_ok Hok4.out (by omega) 96
          have e96 := full_touch hq1 Hf4.out K4.out K5.out 96 (by omega) (by rw [K3.out]; omega)
          rw [e96] at ht tok
          refine ht.mono ?_
          rintro e w5 ⟨rfl, hc5, hu⟩
          have hb5 := Upd.below hb4 hu Hof.out hb4.size
          have hf5 : ({ p2 with misses := p2.misses + 1 } : Pt).frames = f0 :: hl (j - 1) := Hf4.out
          simp only at hc5 tok
          generalize ({ p2 with misses := p2.misses + 1 } : Pt) = p3 at hc5 tok hf5
          have Hc5 := Lib.hid hc5; have Hok5 := Lib.hid tok; have Hf5 := Lib.hid hf5
          clear hc5 hu hb4 ht tok hf5 e96 Hc4 Hok4 Hf4
          go_wp2_with fail
          have hct := counts0 Hc5.out
          rw [full_pins hq1 Hf5.out K5.out] at hct
          refine hct.mono ?_
          rintro e w6 ⟨rfl, hb6⟩
          have Hc6 := Lib.hid (Hc5.out.below hb6)
          have hb7 := hb5.trans (hb6.mono hb5.size)
          clear hb6 hct hb5 Hc5
          go_wp2_with fail
          have hrl := release0 Hc6.out f0.page (Hok5.out.mono (by omega))
          obtain ⟨f9, k1, k2, k9, k10, k11⟩ := full_release Hf5.out K4.out K5.out
          rw [K3.out] at k9
          rw [k1, k2, K3.out] at hrl
          refine hrl.mono ?_
          rintro e w8 ⟨rfl, hc8, hu⟩
          have hb8 := Upd.below hb7 hu Hof.out hb7.size
          have hf8 : ({ p3 with frames := f9 :: hl (j - 1) } : Pt).frames = f9 :: hl (j - 1) := rfl
          have tok : ({ p3 with frames := f9 :: hl (j - 1) } : Pt).ok 1000000 := by
            have := release_ok Hok5.out (by omega) f0.page
            rw [k2] at this
            exact this.mono (by omega)
          generalize ({ p3 with frames := f9 :: hl (j - 1) } : Pt) = p9 at hc8 hf8 tok
          have Hc8 := Lib.hid hc8; have Hf8 := Lib.hid hf8; have Hok8 := Lib.hid tok
          have K9 := Lib.hid k9; have K10 := Lib.hid k10; have K11 := Lib.hid k11
          clear hc8 hf8 k9 k10 k11 k1 k2 hu hb7 hrl tok Hc6
          go_wp2_with fail
          have hdr := drop0 Hc8.out f9.page
          rw [full_drop Hf8.out K10.out K11.out, K9.out] at hdr
          refine hdr.mono ?_
          rintro e w10 ⟨rfl, hc10, hu⟩
          have hb10 := Upd.below hb8 hu Hof.out hb8.size
          clear hc10 hu hb8 hdr
          go_wp2_with fail
          go_ret
          exact ⟨rfl, hb10⟩
end Go.Proofs.Ytdblpcfkiiliiaa
