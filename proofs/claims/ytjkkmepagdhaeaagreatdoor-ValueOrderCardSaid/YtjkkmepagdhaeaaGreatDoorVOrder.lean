/- The walk of ValueOrder. -/
import Derived.Test.YtjkkmepagdhaeaaGreatDoorVp1
set_option linter.unusedVariables false
set_option linter.unusedSimpArgs false
namespace Go.Proofs.YtjkkmepagdhaeaaGreatDoor
open Go.RowKit

theorem val_ext {ak an bk bn af bf : Int} {sa sb : ByteArray} (h1 : ak = bk) (h2 : an = bn) (h3 : sa.toList = sb.toList) (h4 : af = bf) : Val.mk ak an sa af = Val.mk bk bn sb bf := by
  have : sa = sb := by
    rw [ByteArray.toList_eq, ByteArray.toList_eq] at h3
    exact ByteArray.ext (Array.toList_inj.1 h3)
  rw [h1, h2, this, h4]
/-- three values lie in three blocks of the call's own -/
structure Trio (w W : World) (A : Nat) (a b c : Val) : Prop where
  duo : Duo w W A a b
  thr : At W (A + 1 + 1) c.k c.n c.s c.f
theorem Trio.below {w W W' : World} {A : Nat} {a b c : Val} (h : Trio w W A a b c) (hb : Below W.heap.size W W') : Trio w W' A a b c :=
  ⟨h.duo.below hb, h.thr.below hb h.thr.lt⟩
theorem Trio.new (w : World) (a b c : Val) : Trio w (((w.alloc (.cells #[.int .i64 a.k, .int .i64 a.n, .string a.s, .int .u64 a.f] 25)).alloc (.cells #[.int .i64 b.k, .int .i64 b.n, .string b.s, .int .u64 b.f] 25)).alloc (.cells #[.int .i64 c.k, .int .i64 c.n, .string c.s, .int .u64 c.f] 25)) w.heap.size a b c where
  duo := (Duo.new w a b).below ((Below.refl _ _).alloc (Nat.le_refl _) _)
  thr := by
    have := At.new ((w.alloc (.cells #[.int .i64 a.k, .int .i64 a.n, .string a.s, .int .u64 a.f] 25)).alloc (.cells #[.int .i64 b.k, .int .i64 b.n, .string b.s, .int .u64 b.f] 25)) c.k c.n c.s c.f 25
    rwa [show ((w.alloc (.cells #[.int .i64 a.k, .int .i64 a.n, .string a.s, .int .u64 a.f] 25)).alloc (.cells #[.int .i64 b.k, .int .i64 b.n, .string b.s, .int .u64 b.f] 25)).heap.size = w.heap.size + 1 + 1 from by simp] at this
set_option maxHeartbeats 16000000 in
set_option maxRecDepth 100000 in
theorem orderV_walk (w : World) (hl : Laid w) (a b c : Val) (ha : a.Wf) (hb : b.Wf) (hc : c.Wf) :
    Calls Tryz.prog 4 #[a.v, b.v, c.v] w fun e w' => e = .returned (.bool true) ∧ Below w.heap.size w w' := by
  have Hl := Lib.hid hl; clear hl
  have Hd := Lib.hid (Trio.new w a b c)
  have Ra : Hid (∀ W : World, Calls Tryz.prog 19 #[a.v] W fun e w' => e = .returned (.bool (rightB a)) ∧ Below W.heap.size W w') := Lib.hid fun W => rightR_any W a ha.f0 ha.f1
  have Rb : Hid (∀ W : World, Calls Tryz.prog 19 #[b.v] W fun e w' => e = .returned (.bool (rightB b)) ∧ Below W.heap.size W w') := Lib.hid fun W => rightR_any W b hb.f0 hb.f1
  have Rc : Hid (∀ W : World, Calls Tryz.prog 19 #[c.v] W fun e w' => e = .returned (.bool (rightB c)) ∧ Below W.heap.size W w') := Lib.hid fun W => rightR_any W c hc.f0 hc.f1
  have Oab : Hid (∀ W : World, Calls Tryz.prog 16 #[a.v, b.v] W fun e w' => e = .returned (.int .i64 (ordX (rightOf a) (rightOf b))) ∧ Below W.heap.size W w') := Lib.hid fun W => orderV_any W a b ha.f0 ha.f1 hb.f0 hb.f1
  have Oba : Hid (∀ W : World, Calls Tryz.prog 16 #[b.v, a.v] W fun e w' => e = .returned (.int .i64 (-(ordX (rightOf a) (rightOf b)))) ∧ Below W.heap.size W w') := Lib.hid fun W => by
    have := orderV_any W b a hb.f0 hb.f1 ha.f0 ha.f1
    rwa [ordX_anti] at this
  have Obc : Hid (∀ W : World, Calls Tryz.prog 16 #[b.v, c.v] W fun e w' => e = .returned (.int .i64 (ordX (rightOf b) (rightOf c))) ∧ Below W.heap.size W w') := Lib.hid fun W => orderV_any W b c hb.f0 hb.f1 hc.f0 hc.f1
  have Oac : Hid (∀ W : World, Calls Tryz.prog 16 #[a.v, c.v] W fun e w' => e = .returned (.int .i64 (ordX (rightOf a) (rightOf c))) ∧ Below W.heap.size W w') := Lib.hid fun W => orderV_any W a c ha.f0 ha.f1 hc.f0 hc.f1
  have Cab : Hid (∀ W : World, Calls Tryz.prog 14 #[a.v, b.v] W fun e w' => e = .returned (.tuple #[.int .i64 (cmpXi (rightOf a) (rightOf b)), .bool (cmpXb (rightOf a) (rightOf b))]) ∧ Below W.heap.size W w') := Lib.hid fun W => compareV_any W a b
  have hz : rightB a = true → rightB b = true → (ordX (rightOf a) (rightOf b) = 0 ↔ a = b) := by
    intro h1 h2
    rw [right_self h1, right_self h2]
    exact ordX_zero (right_cases h1) (right_cases h2) ha hb
  have hck : rightB a = true → rightB b = true → cmpXb (rightOf a) (rightOf b) = true → cmpXi (rightOf a) (rightOf b) ≠ 0 → cmpXi (rightOf a) (rightOf b) = ordX (rightOf a) (rightOf b) := by
    intro h1 h2
    rw [right_self h1, right_self h2]
    exact cmp_ord (right_cases h1) (right_cases h2) ha hb
  have htr : ordX (rightOf a) (rightOf b) ≤ 0 → ordX (rightOf b) (rightOf c) ≤ 0 → ordX (rightOf a) (rightOf c) ≤ 0 := fun h1 h2 => ordX_trans h1 h2
  have hrx := ordX_rng (rightOf a) (rightOf b)
  have Hz := Lib.hid hz; have Hck := Lib.hid hck; have Htr := Lib.hid htr; have Hrx := Lib.hid hrx
  clear hz hck htr hrx
  generalize ordX (rightOf a) (rightOf b) = x at *
  generalize ordX (rightOf b) (rightOf c) = y at *
  generalize ordX (rightOf a) (rightOf c) = z at *
  generalize cmpXi (rightOf a) (rightOf b) = ck at *
  generalize cmpXb (rightOf a) (rightOf b) = cb at *
  generalize hra : rightB a = ra at *
  generalize hrb : rightB b = rb at *
  generalize rightB c = rc at *
  obtain ⟨ak, an, sa, af⟩ := a
  obtain ⟨bk, bn, sb, bf⟩ := b
  obtain ⟨uk, un, su, uf⟩ := c
  clear ha hb hc hra hrb
  simp only [Val.v] at Ra Rb Rc Oab Oba Obc Oac Cab
  go_enter Tryz.func4, Tryz.ntmps4
  go_wp2_with fail
  generalize World.alloc (World.alloc (World.alloc w _) _) _ = W0 at Hd ⊢
  generalize hA : w.heap.size = A at *
  refine (firstV_any W0 (Hl.out.below (by rw [hA]; exact Hd.out.duo.bel))).mono ?_
  rintro e w1 ⟨rfl, hb⟩
  have D1 := Lib.hid (Hd.out.below hb)
  have HA := Lib.hid hA
  clear hb Hl Hd hA
  go_upto_region 3 with fail
  go_cut [37] (fun t wx => t = .bool (decide (1000 < max (max (sa.size : Int) (sb.size : Int)) (su.size : Int)) || !ra || !rb || !rc) ∧ Trio w wx A ⟨ak, an, sa, af⟩ ⟨bk, bn, sb, bf⟩ ⟨uk, un, su, uf⟩)
  case first =>
    obtain ⟨a0, a1, a2, a3, -, -⟩ := D1.out.duo.one
    obtain ⟨b0, b1, b2, b3, -, -⟩ := D1.out.duo.two
    obtain ⟨c0, c1, c2, c3, -, -⟩ := D1.out.thr
    simp only at a0 a1 a2 a3 b0 b1 b2 b3 c0 c1 c2 c3
    by_cases hs : 1000 < max (max (sa.size : Int) (sb.size : Int)) (su.size : Int)
    · go_wp2_with fail
      all_goals
        go_meet
        exact ⟨by rw [decide_eq_true hs]; simp, D1.out⟩
    · have hs1 : (sa.size : Int) ≤ 1000 := by omega
      have hs2 : (sb.size : Int) ≤ 1000 := by omega
      have hs3 : (su.size : Int) ≤ 1000 := by omega
      have HS := Lib.hid hs
      clear hs
      go_wp2_with fail
      all_goals
        refine (Ra.out w1).mono ?_
        rintro e w2 ⟨rfl, hb⟩
        have D2 := Lib.hid (D1.out.below hb)
        clear hb a0 a1 a2 a3 b0 b1 b2 b3 c0 c1 c2 c3
        obtain ⟨a0, a1, a2, a3, -, -⟩ := D2.out.duo.one
        obtain ⟨b0, b1, b2, b3, -, -⟩ := D2.out.duo.two
        obtain ⟨c0, c1, c2, c3, -, -⟩ := D2.out.thr
        simp only at a0 a1 a2 a3 b0 b1 b2 b3 c0 c1 c2 c3
        cases ra with
        | false =>
          go_wp2_with fail
          go_meet
          exact ⟨by simp, D2.out⟩
        | true =>
          go_wp2_with fail
          refine (Rb.out w2).mono ?_
          rintro e w3 ⟨rfl, hb⟩
          have D3 := Lib.hid (D2.out.below hb)
          clear hb a0 a1 a2 a3 b0 b1 b2 b3 c0 c1 c2 c3
          obtain ⟨a0, a1, a2, a3, -, -⟩ := D3.out.duo.one
          obtain ⟨b0, b1, b2, b3, -, -⟩ := D3.out.duo.two
          obtain ⟨c0, c1, c2, c3, -, -⟩ := D3.out.thr
          simp only at a0 a1 a2 a3 b0 b1 b2 b3 c0 c1 c2 c3
          cases rb with
          | false =>
            go_wp2_with fail
            go_meet
            exact ⟨by simp, D3.out⟩
          | true =>
            go_wp2_with fail
            refine (Rc.out w3).mono ?_
            rintro e w4 ⟨rfl, hb⟩
            have D4 := Lib.hid (D3.out.below hb)
            clear hb a0 a1 a2 a3 b0 b1 b2 b3 c0 c1 c2 c3
            obtain ⟨a0, a1, a2, a3, -, -⟩ := D4.out.duo.one
            obtain ⟨b0, b1, b2, b3, -, -⟩ := D4.out.duo.two
            obtain ⟨c0, c1, c2, c3, -, -⟩ := D4.out.thr
            simp only at a0 a1 a2 a3 b0 b1 b2 b3 c0 c1 c2 c3
            cases rc with
            | false =>
              go_wp2_with fail
              go_meet
              exact ⟨by simp, D4.out⟩
            | true =>
              go_wp2_with fail
              go_meet
              exact ⟨by congr 1; rw [decide_eq_false (by omega), decide_eq_false (by have := HS.out; omega)]; rfl, D4.out⟩
  case rest =>
    obtain ⟨rfl, d4⟩ := hcut
    have D4 := Lib.hid d4
    clear d4 D1
    obtain ⟨a0, a1, a2, a3, -, -⟩ := D4.out.duo.one
    obtain ⟨b0, b1, b2, b3, -, -⟩ := D4.out.duo.two
    obtain ⟨c0, c1, c2, c3, -, -⟩ := D4.out.thr
    simp only at a0 a1 a2 a3 b0 b1 b2 b3 c0 c1 c2 c3
    cases hG : (decide (1000 < max (max (sa.size : Int) (sb.size : Int)) (su.size : Int)) || !ra || !rb || !rc) with
    | true =>
      go_wp2_with fail
      go_ret
      exact ⟨rfl, by rw [HA.out]; exact D4.out.duo.bel⟩
    | false =>
      simp only [Bool.or_eq_false_iff, Bool.not_eq_false'] at hG
      obtain ⟨⟨⟨-, rfl⟩, rfl⟩, rfl⟩ := hG
      have Hz2 := Lib.hid (Hz.out rfl rfl)
      have Hck2 := Lib.hid (Hck.out rfl rfl)
      clear Hz Hck Ra Rb Rc
      go_wp2_with fail
      refine (Oab.out wc).mono ?_
      rintro e w5 ⟨rfl, hb⟩
      have D5 := Lib.hid (D4.out.below hb)
      clear hb a0 a1 a2 a3 b0 b1 b2 b3 c0 c1 c2 c3
      obtain ⟨a0, a1, a2, a3, -, -⟩ := D5.out.duo.one
      obtain ⟨b0, b1, b2, b3, -, -⟩ := D5.out.duo.two
      obtain ⟨c0, c1, c2, c3, -, -⟩ := D5.out.thr
      simp only at a0 a1 a2 a3 b0 b1 b2 b3 c0 c1 c2 c3
      go_wp2_with fail
      refine (Cab.out w5).mono ?_
      rintro e w6 ⟨rfl, hb⟩
      have D6 := Lib.hid (D5.out.below hb)
      clear hb a0 a1 a2 a3 b0 b1 b2 b3 c0 c1 c2 c3
      obtain ⟨a0, a1, a2, a3, -, -⟩ := D6.out.duo.one
      obtain ⟨b0, b1, b2, b3, -, -⟩ := D6.out.duo.two
      obtain ⟨c0, c1, c2, c3, -, -⟩ := D6.out.thr
      simp only at a0 a1 a2 a3 b0 b1 b2 b3 c0 c1 c2 c3
      clear D4 D5
      go_upto_region 7 with fail
      go_cut [72] (fun t wx => t = .bool false ∧ Trio w wx A ⟨ak, an, sa, af⟩ ⟨bk, bn, sb, bf⟩ ⟨uk, un, su, uf⟩)
      case first =>
        rcases Hrx.out with hx | hx | hx
        · have hne : ¬ (Val.mk ak an sa af = Val.mk bk bn sb bf) := fun h => absurd (Hz2.out.2 h) (by rw [hx]; decide)
          subst hx
          cases cb with
          | false =>
            go_wp2_with fail
            refine (Oba.out w6).mono ?_
            rintro e w7 ⟨rfl, hb⟩
            have D7 := Lib.hid (D6.out.below hb)
            clear hb a0 a1 a2 a3 b0 b1 b2 b3 c0 c1 c2 c3
            obtain ⟨a0, a1, a2, a3, -, -⟩ := D7.out.duo.one
            obtain ⟨b0, b1, b2, b3, -, -⟩ := D7.out.duo.two
            obtain ⟨c0, c1, c2, c3, -, -⟩ := D7.out.thr
            simp only at a0 a1 a2 a3 b0 b1 b2 b3 c0 c1 c2 c3
            go_wp2_with fail
            all_goals
              first | exact absurd (val_ext (by assumption) (by assumption) (by assumption) (by assumption)) hne | (subst_vars; go_meet; exact ⟨rfl, D7.out⟩)
          | true =>
            by_cases hc0 : ck = 0
            · subst hc0
              go_wp2_with fail
              refine (Oba.out w6).mono ?_
              rintro e w7 ⟨rfl, hb⟩
              have D7 := Lib.hid (D6.out.below hb)
              clear hb a0 a1 a2 a3 b0 b1 b2 b3 c0 c1 c2 c3
              obtain ⟨a0, a1, a2, a3, -, -⟩ := D7.out.duo.one
              obtain ⟨b0, b1, b2, b3, -, -⟩ := D7.out.duo.two
              obtain ⟨c0, c1, c2, c3, -, -⟩ := D7.out.thr
              simp only at a0 a1 a2 a3 b0 b1 b2 b3 c0 c1 c2 c3
              go_wp2_with fail
              all_goals
                first | exact absurd (val_ext (by assumption) (by assumption) (by assumption) (by assumption)) hne | (subst_vars; go_meet; exact ⟨rfl, D7.out⟩)
            · obtain rfl := Hck2.out rfl hc0
              go_wp2_with fail
              refine (Oba.out w6).mono ?_
              rintro e w7 ⟨rfl, hb⟩
              have D7 := Lib.hid (D6.out.below hb)
              clear hb a0 a1 a2 a3 b0 b1 b2 b3 c0 c1 c2 c3
              obtain ⟨a0, a1, a2, a3, -, -⟩ := D7.out.duo.one
              obtain ⟨b0, b1, b2, b3, -, -⟩ := D7.out.duo.two
              obtain ⟨c0, c1, c2, c3, -, -⟩ := D7.out.thr
              simp only at a0 a1 a2 a3 b0 b1 b2 b3 c0 c1 c2 c3
              go_wp2_with fail
              all_goals
                first | exact absurd (val_ext (by assumption) (by assumption) (by assumption) (by assumption)) hne | (subst_vars; go_meet; exact ⟨rfl, D7.out⟩)
        · have he := Hz2.out.1 hx
          injection he with e1 e2 e3 e4
          subst hx
          subst e1 e2 e3 e4
          cases cb with
          | false =>
            go_wp2_with fail
            refine (Oba.out w6).mono ?_
            rintro e w7 ⟨rfl, hb⟩
            have D7 := Lib.hid (D6.out.below hb)
            clear hb a0 a1 a2 a3 b0 b1 b2 b3 c0 c1 c2 c3
            obtain ⟨a0, a1, a2, a3, -, -⟩ := D7.out.duo.one
            obtain ⟨b0, b1, b2, b3, -, -⟩ := D7.out.duo.two
            obtain ⟨c0, c1, c2, c3, -, -⟩ := D7.out.thr
            simp only at a0 a1 a2 a3 b0 b1 b2 b3 c0 c1 c2 c3
            go_wp2_with fail
            all_goals
              (go_meet; exact ⟨rfl, D7.out⟩)
          | true =>
            by_cases hc0 : ck = 0
            · subst hc0
              go_wp2_with fail
              refine (Oba.out w6).mono ?_
              rintro e w7 ⟨rfl, hb⟩
              have D7 := Lib.hid (D6.out.below hb)
              clear hb a0 a1 a2 a3 b0 b1 b2 b3 c0 c1 c2 c3
              obtain ⟨a0, a1, a2, a3, -, -⟩ := D7.out.duo.one
              obtain ⟨b0, b1, b2, b3, -, -⟩ := D7.out.duo.two
              obtain ⟨c0, c1, c2, c3, -, -⟩ := D7.out.thr
              simp only at a0 a1 a2 a3 b0 b1 b2 b3 c0 c1 c2 c3
              go_wp2_with fail
              all_goals
                (go_meet; exact ⟨rfl, D7.out⟩)
            · exact absurd (Hck2.out rfl hc0) hc0
        · have hne : ¬ (Val.mk ak an sa af = Val.mk bk bn sb bf) := fun h => absurd (Hz2.out.2 h) (by rw [hx]; decide)
          subst hx
          cases cb with
          | false =>
            go_wp2_with fail
            refine (Oba.out w6).mono ?_
            rintro e w7 ⟨rfl, hb⟩
            have D7 := Lib.hid (D6.out.below hb)
            clear hb a0 a1 a2 a3 b0 b1 b2 b3 c0 c1 c2 c3
            obtain ⟨a0, a1, a2, a3, -, -⟩ := D7.out.duo.one
            obtain ⟨b0, b1, b2, b3, -, -⟩ := D7.out.duo.two
            obtain ⟨c0, c1, c2, c3, -, -⟩ := D7.out.thr
            simp only at a0 a1 a2 a3 b0 b1 b2 b3 c0 c1 c2 c3
            go_wp2_with fail
            all_goals
              first | exact absurd (val_ext (by assumption) (by assumption) (by assumption) (by assumption)) hne | (subst_vars; go_meet; exact ⟨rfl, D7.out⟩)
          | true =>
            by_cases hc0 : ck = 0
            · subst hc0
              go_wp2_with fail
              refine (Oba.out w6).mono ?_
              rintro e w7 ⟨rfl, hb⟩
              have D7 := Lib.hid (D6.out.below hb)
              clear hb a0 a1 a2 a3 b0 b1 b2 b3 c0 c1 c2 c3
              obtain ⟨a0, a1, a2, a3, -, -⟩ := D7.out.duo.one
              obtain ⟨b0, b1, b2, b3, -, -⟩ := D7.out.duo.two
              obtain ⟨c0, c1, c2, c3, -, -⟩ := D7.out.thr
              simp only at a0 a1 a2 a3 b0 b1 b2 b3 c0 c1 c2 c3
              go_wp2_with fail
              all_goals
                first | exact absurd (val_ext (by assumption) (by assumption) (by assumption) (by assumption)) hne | (subst_vars; go_meet; exact ⟨rfl, D7.out⟩)
            · obtain rfl := Hck2.out rfl hc0
              go_wp2_with fail
              refine (Oba.out w6).mono ?_
              rintro e w7 ⟨rfl, hb⟩
              have D7 := Lib.hid (D6.out.below hb)
              clear hb a0 a1 a2 a3 b0 b1 b2 b3 c0 c1 c2 c3
              obtain ⟨a0, a1, a2, a3, -, -⟩ := D7.out.duo.one
              obtain ⟨b0, b1, b2, b3, -, -⟩ := D7.out.duo.two
              obtain ⟨c0, c1, c2, c3, -, -⟩ := D7.out.thr
              simp only at a0 a1 a2 a3 b0 b1 b2 b3 c0 c1 c2 c3
              go_wp2_with fail
              all_goals
                first | exact absurd (val_ext (by assumption) (by assumption) (by assumption) (by assumption)) hne | (subst_vars; go_meet; exact ⟨rfl, D7.out⟩)
      case rest =>
        obtain ⟨rfl, d6⟩ := hcut
        have D7 := Lib.hid d6
        clear d6 D6 a0 a1 a2 a3 b0 b1 b2 b3 c0 c1 c2 c3 Hz2 Hck2 Oab Oba Cab
        obtain ⟨a0, a1, a2, a3, -, -⟩ := D7.out.duo.one
        obtain ⟨b0, b1, b2, b3, -, -⟩ := D7.out.duo.two
        obtain ⟨c0, c1, c2, c3, -, -⟩ := D7.out.thr
        simp only at a0 a1 a2 a3 b0 b1 b2 b3 c0 c1 c2 c3
        by_cases h1 : x ≤ 0
        · go_wp2_with fail
          refine (Obc.out wc).mono ?_
          rintro e w8 ⟨rfl, hb⟩
          have D8 := Lib.hid (D7.out.below hb)
          clear hb a0 a1 a2 a3 b0 b1 b2 b3 c0 c1 c2 c3
          obtain ⟨a0, a1, a2, a3, -, -⟩ := D8.out.duo.one
          obtain ⟨b0, b1, b2, b3, -, -⟩ := D8.out.duo.two
          obtain ⟨c0, c1, c2, c3, -, -⟩ := D8.out.thr
          simp only at a0 a1 a2 a3 b0 b1 b2 b3 c0 c1 c2 c3
          by_cases h2 : y ≤ 0
          · have h3 := Htr.out h1 h2
            go_wp2_with fail
            refine (Oac.out w8).mono ?_
            rintro e w9 ⟨rfl, hb⟩
            have D9 := Lib.hid (D8.out.below hb)
            clear hb a0 a1 a2 a3 b0 b1 b2 b3 c0 c1 c2 c3
            obtain ⟨a0, a1, a2, a3, -, -⟩ := D9.out.duo.one
            obtain ⟨b0, b1, b2, b3, -, -⟩ := D9.out.duo.two
            obtain ⟨c0, c1, c2, c3, -, -⟩ := D9.out.thr
            simp only at a0 a1 a2 a3 b0 b1 b2 b3 c0 c1 c2 c3
            go_wp2_with fail
            go_ret
            exact ⟨by simp [*], by rw [HA.out]; exact D9.out.duo.bel⟩
          · go_wp2_with fail
            go_ret
            exact ⟨by simp [*], by rw [HA.out]; exact D8.out.duo.bel⟩
        · go_wp2_with fail
          go_ret
          exact ⟨by simp [*], by rw [HA.out]; exact D7.out.duo.bel⟩
end Go.Proofs.YtjkkmepagdhaeaaGreatDoor
