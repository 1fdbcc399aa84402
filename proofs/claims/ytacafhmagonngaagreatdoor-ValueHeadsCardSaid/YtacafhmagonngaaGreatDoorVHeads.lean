/- The walk of ValueHeads. -/
import Derived.Test.YtacafhmagonngaaGreatDoorVn0
set_option linter.unusedVariables false
set_option linter.unusedSimpArgs false
namespace Go.Proofs.YtacafhmagonngaaGreatDoor
open Go.RowKit

/-- what the law's own blocks hold -/
structure VH (w W : World) (A : Nat) (v u : Val) (x y : Int) : Prop where
  one : At W A v.k v.n v.s v.f
  two : At W (A + 1) u.k u.n u.s u.f
  e0 : W.cell? ⟨A + 1 + 1, 0, none⟩ = some (.int .u8 x)
  e1 : W.cell? ⟨A + 1 + 1, 1, none⟩ = some (.int .u8 y)
  lt : A + 1 + 1 < W.heap.size
  bel : Below A w W
theorem VH.below {w W W' : World} {A : Nat} {v u : Val} {x y : Int} (h : VH w W A v u x y) (hb : Below W.heap.size W W') : VH w W' A v u x y :=
  ⟨h.one.below hb h.one.lt, h.two.below hb h.two.lt, (hb.cell h.lt).trans h.e0, (hb.cell h.lt).trans h.e1, Nat.lt_of_lt_of_le h.lt hb.size, h.bel.trans (hb.mono (Nat.le_of_lt h.one.lt))⟩
theorem At.dr {W : World} {b : Nat} {k n : Int} {s : ByteArray} {f : Int} (h : At W b k n s f) : At W.drew b k n s f := h.below (Below.refl _ _).drew h.lt
theorem VH.keep {w W W' : World} {A : Nat} {v u : Val} {x y : Int} (h : VH w W A v u x y) (hb : Below (A + 1 + 1 + 1) W W') : VH w W' A v u x y :=
  ⟨h.one.below hb (by omega), h.two.below hb (by omega), (hb.cell (by simp only; omega)).trans h.e0, (hb.cell (by simp only; omega)).trans h.e1, Nat.lt_of_lt_of_le h.lt hb.size, h.bel.trans (hb.mono (by omega))⟩
theorem VH.alloc {w W : World} {A : Nat} {v u : Val} {x y : Int} (h : VH w W A v u x y) (o : Obj) : VH w (W.alloc o) A v u x y := h.below (below_box1 W o)
theorem VH.new (w : World) (v u : Val) (x y : Int) : VH w (((w.alloc (.cells #[.int .i64 v.k, .int .i64 v.n, .string v.s, .int .u64 v.f] 26)).alloc (.cells #[.int .i64 u.k, .int .i64 u.n, .string u.s, .int .u64 u.f] 26)).alloc (.cells #[.int .u8 x, .int .u8 y] 30)) w.heap.size v u x y := by
  have h := Duo.new w v u
  generalize hW : ((w.alloc (.cells #[.int .i64 v.k, .int .i64 v.n, .string v.s, .int .u64 v.f] 26)).alloc (.cells #[.int .i64 u.k, .int .i64 u.n, .string u.s, .int .u64 u.f] 26)) = W at *
  have hs : W.heap.size = w.heap.size + 1 + 1 := by rw [← hW]; simp
  have hb := below_box1 W (.cells #[.int .u8 x, .int .u8 y] 30)
  have hD := h.below hb
  exact ⟨hD.one, hD.two, by rw [← hs]; simp, by rw [← hs]; simp, by rw [← hs]; simp, hD.bel⟩
structure VK (w W : World) (A C D : Nat) (v u : Val) (x y : Int) : Prop where
  vh : VH w W A v u x y
  c0 : W.cell? ⟨C, 0, none⟩ = some (.int .i64 v.k)
  c1 : W.cell? ⟨C, 1, none⟩ = some (.int .i64 0)
  c2 : W.cell? ⟨C, 2, none⟩ = some (.string ⟨#[]⟩)
  c3 : W.cell? ⟨C, 3, none⟩ = some (.int .u64 0)
  d0 : W.cell? ⟨D, 0, none⟩ = some (.int .i64 u.k)
  d1 : W.cell? ⟨D, 1, none⟩ = some (.int .i64 0)
  d2 : W.cell? ⟨D, 2, none⟩ = some (.string ⟨#[]⟩)
  d3 : W.cell? ⟨D, 3, none⟩ = some (.int .u64 0)
theorem cell_later {w W : World} {p : Addr} {v : Value} (h : w.cell? p = some v) (hb : Below w.heap.size w W) : W.cell? p = some v := (hb.cell (World.block_lt_of_cell? w p h)).trans h
theorem VK.below {w W W' : World} {A C D : Nat} {v u : Val} {x y : Int} (h : VK w W A C D v u x y) (hb : Below W.heap.size W W') : VK w W' A C D v u x y :=
  ⟨h.vh.below hb, cell_later h.c0 hb, cell_later h.c1 hb, cell_later h.c2 hb, cell_later h.c3 hb, cell_later h.d0 hb, cell_later h.d1 hb, cell_later h.d2 hb, cell_later h.d3 hb⟩
theorem tmod70 {x : Int} (h0 : 0 ≤ x) (h1 : x ≤ 255) : x.tmod 70 = x % 70 ∧ 0 ≤ x % 70 ∧ x % 70 < 70 := by
  refine ⟨Int.tmod_eq_emod_of_nonneg h0, by omega, by omega⟩
set_option maxHeartbeats 16000000 in
set_option maxRecDepth 100000 in
theorem heads_walk (w : World) (hl : Laid w) (v u : Val) (x y : Int) (hv : v.Wf) (hu : u.Wf) (x0 : 0 ≤ x) (x1 : x ≤ 255) (y0 : 0 ≤ y) (y1 : y ≤ 255) :
    Calls Tryz.prog 4 #[v.v, u.v, .agg #[.int .u8 x, .int .u8 y]] w fun e w' => e = .returned (.bool true) ∧ Below w.heap.size w w' := by
  have Hl := Lib.hid hl; clear hl
  have Hd := Lib.hid (VH.new w v u x y)
  have Rv : Hid (∀ W : World, Calls Tryz.prog 11 #[v.v] W fun e w' => e = .returned (.bool (rightB v)) ∧ Below W.heap.size W w') := Lib.hid fun W => rightR_any W v hv.f0 hv.f1
  have Ru : Hid (∀ W : World, Calls Tryz.prog 11 #[u.v] W fun e w' => e = .returned (.bool (rightB u)) ∧ Below W.heap.size W w') := Lib.hid fun W => rightR_any W u hu.f0 hu.f1
  have hX := tmod70 x0 x1
  have hY := tmod70 y0 y1
  obtain ⟨X, eX⟩ : ∃ X, X = x % 70 := ⟨_, rfl⟩
  obtain ⟨Y, eY⟩ : ∃ Y, Y = y % 70 := ⟨_, rfl⟩
  rw [← eX] at hX
  rw [← eY] at hY
  obtain ⟨tx, X0, X1⟩ := hX
  obtain ⟨ty, Y0, Y1⟩ := hY
  have hr1 : rightB v = true → rightB (maskX v 3 X) = true := fun h => mask_right (right_cases h) 3 X h
  have GA : Hid (rightB v = true → ∀ W : World, Calls Tryz.prog 12 #[v.v, .int .i64 X] W fun e w' => e = .returned (maskX v 3 X).v ∧ Below W.heap.size W w') := Lib.hid fun h W => head_any W v X h
  have GB : Hid (rightB v = true → ∀ W : World, Calls Tryz.prog 12 #[(maskX v 3 X).v, .int .i64 Y] W fun e w' => e = .returned (maskX v 3 (min X Y)).v ∧ Below W.heap.size W w') := Lib.hid fun h W => by
    have := head_any W (maskX v 3 X) Y (hr1 h)
    rwa [head_head v X Y X0 Y0] at this
  have GC : Hid (rightB v = true → ∀ W : World, Calls Tryz.prog 12 #[v.v, .int .i64 (min X Y)] W fun e w' => e = .returned (maskX v 3 (min X Y)).v ∧ Below W.heap.size W w') := Lib.hid fun h W => head_any W v (min X Y) h
  have GH : Hid (rightB v = true → ∀ W : World, Calls Tryz.prog 13 #[v.v, .agg #[.int .i64 1, .int .i64 0]] W fun e w' => e = .returned (.agg #[.int .i64 0, .int .i64 0, .string ⟨#[]⟩, .int .u64 0]) ∧ Below W.heap.size W w') := Lib.hid fun h W => by
    have := mask_any W v 1 0
    rwa [mask_hide] at this
  have GV : Hid (rightB v = true → ∀ W : World, Calls Tryz.prog 13 #[v.v, .agg #[.int .i64 2, .int .i64 0]] W fun e w' => e = .returned (.agg #[.int .i64 v.k, .int .i64 0, .string ⟨#[]⟩, .int .u64 0]) ∧ Below W.heap.size W w') := Lib.hid fun h W => by
    have := mask_any W v 2 0
    rwa [right_self h, mask_nought] at this
  have GU : Hid (rightB u = true → ∀ W : World, Calls Tryz.prog 13 #[u.v, .agg #[.int .i64 2, .int .i64 0]] W fun e w' => e = .returned (.agg #[.int .i64 u.k, .int .i64 0, .string ⟨#[]⟩, .int .u64 0]) ∧ Below W.heap.size W w') := Lib.hid fun h W => by
    have := mask_any W u 2 0
    rwa [right_self h, mask_nought] at this
  have GK : Hid (rightB v = true → ∀ W : World, Calls Tryz.prog 13 #[v.v, .agg #[.int .i64 0, .int .i64 0]] W fun e w' => e = .returned v.v ∧ Below W.heap.size W w') := Lib.hid fun h W => by
    have := mask_any W v 0 0
    rwa [right_self h, mask_keep] at this
  clear hr1
  generalize maskX v 3 X = p at *
  generalize maskX v 3 (min X Y) = q at *
  generalize rightB v = ra at *
  generalize rightB u = rb at *
  obtain ⟨ak, an, sa, af⟩ := v
  obtain ⟨bk, bn, sb, bf⟩ := u
  obtain ⟨pk, pn, sp, pf⟩ := p
  obtain ⟨qk, qn, sq, qf⟩ := q
  simp only [Val.v] at Rv Ru GA GB GC GH GV GU GK
  have XY0 : 0 ≤ min X Y := by omega
  clear hv hu eX eY
  go_enter Tryz.func4, Tryz.ntmps4
  go_wp2_with fail
  generalize World.alloc (World.alloc (World.alloc w _) _) _ = W0 at Hd ⊢
  generalize hA : w.heap.size = A at *
  refine (firstV_any W0 (Hl.out.below (by rw [hA]; exact Hd.out.bel))).mono ?_
  rintro e w1 ⟨rfl, hb⟩
  have D1 := Lib.hid (Hd.out.below hb)
  have HA := Lib.hid hA
  clear hb Hl Hd hA
  go_upto_region 3 with fail
  go_cut [31] (fun t wx => t = .bool (decide (500 < max (sa.size : Int) (sb.size : Int)) || !ra || !rb) ∧ VH w wx A ⟨ak, an, sa, af⟩ ⟨bk, bn, sb, bf⟩ x y)
  case first =>
    obtain ⟨a0, a1, a2, a3, -, -⟩ := D1.out.one
    obtain ⟨b0, b1, b2, b3, -, -⟩ := D1.out.two
    have e0 := D1.out.e0
    have e1 := D1.out.e1
    simp only at a0 a1 a2 a3 b0 b1 b2 b3
    by_cases hs : 500 < max (sa.size : Int) (sb.size : Int)
    · go_wp2_with fail
      all_goals
        go_meet
        exact ⟨by rw [decide_eq_true hs]; simp, D1.out⟩
    · have HS := Lib.hid hs
      have hs1 : (sa.size : Int) ≤ 500 := by omega
      have hs2 : (sb.size : Int) ≤ 500 := by omega
      clear hs
      go_wp2_with fail
      all_goals
        refine (Rv.out w1).mono ?_
        rintro e w2 ⟨rfl, hb⟩
        have D2 := Lib.hid (D1.out.below hb)
        clear hb
        clear a0 a1 a2 a3 b0 b1 b2 b3 e0 e1
        obtain ⟨a0, a1, a2, a3, -, -⟩ := D2.out.one
        obtain ⟨b0, b1, b2, b3, -, -⟩ := D2.out.two
        have e0 := D2.out.e0
        have e1 := D2.out.e1
        simp only at a0 a1 a2 a3 b0 b1 b2 b3
        cases ra with
        | false =>
          go_wp2_with fail
          go_meet
          exact ⟨by simp, D2.out⟩
        | true =>
          go_wp2_with fail
          refine (Ru.out w2).mono ?_
          rintro e w3 ⟨rfl, hb⟩
          have D3 := Lib.hid (D2.out.below hb)
          clear hb
          clear a0 a1 a2 a3 b0 b1 b2 b3 e0 e1
          obtain ⟨a0, a1, a2, a3, -, -⟩ := D3.out.one
          obtain ⟨b0, b1, b2, b3, -, -⟩ := D3.out.two
          have e0 := D3.out.e0
          have e1 := D3.out.e1
          simp only at a0 a1 a2 a3 b0 b1 b2 b3
          cases rb with
          | false =>
            go_wp2_with fail
            go_meet
            exact ⟨by simp, D3.out⟩
          | true =>
            go_wp2_with fail
            go_meet
            exact ⟨by simp, D3.out⟩
  case rest =>
    obtain ⟨rfl, d4⟩ := hcut
    have D4 := Lib.hid d4
    clear d4 D1
    obtain ⟨a0, a1, a2, a3, -, -⟩ := D4.out.one
    obtain ⟨b0, b1, b2, b3, -, -⟩ := D4.out.two
    have e0 := D4.out.e0
    have e1 := D4.out.e1
    simp only at a0 a1 a2 a3 b0 b1 b2 b3
    cases hG : (decide (500 < max (sa.size : Int) (sb.size : Int)) || !ra || !rb) with
    | true =>
      go_wp2_with fail
      go_ret
      exact ⟨rfl, by rw [HA.out]; exact D4.out.bel⟩
    | false =>
      simp only [Bool.or_eq_false_iff, Bool.not_eq_false'] at hG
      obtain ⟨⟨-, rfl⟩, rfl⟩ := hG
      have FA := Lib.hid (GA.out rfl)
      have FB := Lib.hid (GB.out rfl)
      have FC := Lib.hid (GC.out rfl)
      have FH := Lib.hid (GH.out rfl)
      have FV := Lib.hid (GV.out rfl)
      have FU := Lib.hid (GU.out rfl)
      have FK := Lib.hid (GK.out rfl)
      clear GA GB GC GH GV GU GK Rv Ru
      have KS : Hid (∀ W : World, VH w W A ⟨ak, an, sa, af⟩ ⟨bk, bn, sb, bf⟩ x y → VH w W A ⟨ak, an, sa, af⟩ ⟨bk, bn, sb, bf⟩ x y ∧ W.cell? ⟨A, 0, none⟩ = some (.int .i64 ak) ∧ W.cell? ⟨A, 1, none⟩ = some (.int .i64 an) ∧ W.cell? ⟨A, 2, none⟩ = some (.string sa) ∧ W.cell? ⟨A, 3, none⟩ = some (.int .u64 af) ∧ W.cell? ⟨A + 1, 0, none⟩ = some (.int .i64 bk) ∧ W.cell? ⟨A + 1, 1, none⟩ = some (.int .i64 bn) ∧ W.cell? ⟨A + 1, 2, none⟩ = some (.string sb) ∧ W.cell? ⟨A + 1, 3, none⟩ = some (.int .u64 bf)) := Lib.hid fun W h => ⟨h, h.one.c0, h.one.c1, h.one.c2, h.one.c3, h.two.c0, h.two.c1, h.two.c2, h.two.c3⟩
      go_upto_region 5 with fail
      go_quiet (fail)
      have D5 := Lib.hid (D4.out.below (below_drewN (Below.refl _ _) nq))
      clear D4 e0 e1 a0 a1 a2 a3 b0 b1 b2 b3
      generalize World.drewN wc nq = W5 at D5 ⊢
      go_upto_region 7 with fail
      have hks := KS.out W5 D5.out
      go_cut [60] (fun t wx => t = .bool false ∧ VH w wx A ⟨ak, an, sa, af⟩ ⟨bk, bn, sb, bf⟩ x y)
      case first =>
        go_region_held3 (fun W => VH w W A ⟨ak, an, sa, af⟩ ⟨bk, bn, sb, bf⟩ x y ∧ W.cell? ⟨A, 0, none⟩ = some (.int .i64 ak) ∧ W.cell? ⟨A, 1, none⟩ = some (.int .i64 an) ∧ W.cell? ⟨A, 2, none⟩ = some (.string sa) ∧ W.cell? ⟨A, 3, none⟩ = some (.int .u64 af) ∧ W.cell? ⟨A + 1, 0, none⟩ = some (.int .i64 bk) ∧ W.cell? ⟨A + 1, 1, none⟩ = some (.int .i64 bn) ∧ W.cell? ⟨A + 1, 2, none⟩ = some (.string sb) ∧ W.cell? ⟨A + 1, 3, none⟩ = some (.int .u64 bf))
          (first | exact KS.out _ (by assumption) | exact KS.out _ (D5.out.below (Below.refl _ _).drew))
          (first
            | (go_at_call_of 12 (Value.int .i64 X); refine (FA.out _).mono ?_; rintro e w' ⟨rfl, hd0⟩; have hd := (‹VH w _ _ _ _ _ _ ∧ _›.1).below hd0; clear hd0)
            | (go_at_call_of 12 (Value.int .i64 Y); refine (FB.out _).mono ?_; rintro e w' ⟨rfl, hd0⟩; have hd := (‹VH w _ _ _ _ _ _ ∧ _›.1).below hd0; clear hd0)
            | (go_at_call_of 12 (Value.int .i64 (min X Y)); refine (FC.out _).mono ?_; rintro e w' ⟨rfl, hd0⟩; have hd := (‹VH w _ _ _ _ _ _ ∧ _›.1).below hd0; clear hd0)
            | (go_at_call 13; refine (FH.out _).mono ?_; rintro e w' ⟨rfl, hd0⟩; have hd := (‹VH w _ _ _ _ _ _ ∧ _›.1).below hd0; clear hd0))
        all_goals
          go_wp2_with fail
          go_meet
          exact ⟨rfl, ‹VH w _ A _ _ _ _ ∧ _›.1⟩
      case rest =>
        obtain ⟨rfl, d6⟩ := hcut
        have D6 := Lib.hid d6
        clear d6 D5 hks FA FB FC FH
        rename World => W6
        go_upto_region 9 with fail
        have hks := KS.out W6 D6.out
        go_cut [10, 11] (fun p q wx => ∃ C D : Nat, p = .pointer (some ⟨C, 0, none⟩) ∧ q = .pointer (some ⟨D, 0, none⟩) ∧ VH w wx A ⟨ak, an, sa, af⟩ ⟨bk, bn, sb, bf⟩ x y ∧ wx.cell? ⟨C, 0, none⟩ = some (.int .i64 ak) ∧ wx.cell? ⟨C, 1, none⟩ = some (.int .i64 0) ∧ wx.cell? ⟨C, 2, none⟩ = some (.string ⟨#[]⟩) ∧ wx.cell? ⟨C, 3, none⟩ = some (.int .u64 0) ∧ wx.cell? ⟨D, 0, none⟩ = some (.int .i64 bk) ∧ wx.cell? ⟨D, 1, none⟩ = some (.int .i64 0) ∧ wx.cell? ⟨D, 2, none⟩ = some (.string ⟨#[]⟩) ∧ wx.cell? ⟨D, 3, none⟩ = some (.int .u64 0))
        case first =>
          have hdl6 := D6.out.lt
          clear tx X0 X1 ty Y0 Y1 x0 x1 y0 y1 XY0 FK
          go_region_held3 (fun W => VH w W A ⟨ak, an, sa, af⟩ ⟨bk, bn, sb, bf⟩ x y ∧ W.cell? ⟨A, 0, none⟩ = some (.int .i64 ak) ∧ W.cell? ⟨A, 1, none⟩ = some (.int .i64 an) ∧ W.cell? ⟨A, 2, none⟩ = some (.string sa) ∧ W.cell? ⟨A, 3, none⟩ = some (.int .u64 af) ∧ W.cell? ⟨A + 1, 0, none⟩ = some (.int .i64 bk) ∧ W.cell? ⟨A + 1, 1, none⟩ = some (.int .i64 bn) ∧ W.cell? ⟨A + 1, 2, none⟩ = some (.string sb) ∧ W.cell? ⟨A + 1, 3, none⟩ = some (.int .u64 bf))
            (first | exact KS.out _ (VH.keep hdu (by (repeat' (first | with_reducible exact Below.refl _ _ | with_reducible apply Below.drew | with_reducible apply Below.alloc | with_reducible apply Below.setCell | omega | (simp; done) | (simp; omega))))) | exact KS.out _ (VH.keep hdv (by (repeat' (first | with_reducible exact Below.refl _ _ | with_reducible apply Below.drew | with_reducible apply Below.alloc | with_reducible apply Below.setCell | omega | (simp; done) | (simp; omega))))) | exact KS.out _ (VH.keep D6.out (by (repeat' (first | with_reducible exact Below.refl _ _ | with_reducible apply Below.drew | with_reducible apply Below.alloc | with_reducible apply Below.setCell | omega | (simp; done) | (simp; omega))))))
            (first
              | (go_at_call_of 13 (Value.agg #[.int .i64 ak, .int .i64 an, .string sa, .int .u64 af]); refine (FV.out _).mono ?_; rintro e wv ⟨rfl, hd0⟩; have hdv := (‹VH w _ _ _ _ _ _ ∧ _›.1).below hd0; have hlv := hdv.lt; have hsv : W6.heap.size ≤ wv.heap.size := (by have := hd0.size; first | omega | (simp at this; omega)); (try (have zn : At wv W6.heap.size 0 0 ⟨#[]⟩ 0 := At.below (At.dr (At.new W6 0 0 ⟨#[]⟩ 0 26)) hd0 (by first | omega | (simp; done) | (simp; omega)); have hn1 : W6.heap.size < wv.heap.size := zn.lt)); (try (have zn : At wv W6.heap.size 0 0 ⟨#[]⟩ 0 := At.below (At.dr ((At.new W6 0 0 ⟨#[]⟩ 0 26).alloc (.cells #[.int .i64 0, .int .i64 0, .string ⟨#[]⟩, .int .u64 0] 26))) hd0 (by first | omega | (simp; done) | (simp; omega)); have zm : At wv (W6.heap.size + 1) 0 0 ⟨#[]⟩ 0 := (by have hq := At.below (At.dr (At.new (W6.alloc (.cells #[.int .i64 0, .int .i64 0, .string ⟨#[]⟩, .int .u64 0] 26)) 0 0 ⟨#[]⟩ 0 26)) hd0 (by first | omega | (simp; done) | (simp; omega)); rwa [show (W6.alloc (.cells #[.int .i64 0, .int .i64 0, .string ⟨#[]⟩, .int .u64 0] 26)).heap.size = W6.heap.size + 1 from (by simp)] at hq); have hn2 : W6.heap.size + 1 < wv.heap.size := zm.lt)); clear hd0)
              | (go_at_call 13; refine (FU.out _).mono ?_; rintro e wu ⟨rfl, hd0⟩; have hdu := (‹VH w _ _ _ _ _ _ ∧ _›.1).below hd0; have hlu := hdu.lt; have hsu : wv.heap.size ≤ wu.heap.size := (by have := hd0.size; first | omega | (simp at this; omega)); (try (have zo : At wu W6.heap.size 0 0 ⟨#[]⟩ 0 := (by first | exact zn.below hd0 zn.lt | exact (zn.alloc (.cells #[.int .i64 0, .int .i64 0, .string ⟨#[]⟩, .int .u64 0] 26)).below hd0 (zn.alloc (.cells #[.int .i64 0, .int .i64 0, .string ⟨#[]⟩, .int .u64 0] 26)).lt | exact ((zn.alloc (.cells #[.int .i64 0, .int .i64 0, .string ⟨#[]⟩, .int .u64 0] 26)).alloc (.cells #[.int .i64 0, .int .i64 0, .string ⟨#[]⟩, .int .u64 0] 26)).below hd0 ((zn.alloc (.cells #[.int .i64 0, .int .i64 0, .string ⟨#[]⟩, .int .u64 0] 26)).alloc (.cells #[.int .i64 0, .int .i64 0, .string ⟨#[]⟩, .int .u64 0] 26)).lt); have hn5 : W6.heap.size < wu.heap.size := zo.lt; obtain ⟨zo0, zo1, zo2, zo3, zoz, -⟩ := zo; have zof0 := zoz 0; have zof1 := zoz 1; have zof2 := zoz 2; have zof3 := zoz 3; clear zoz)); (try (have zp : At wu (W6.heap.size + 1) 0 0 ⟨#[]⟩ 0 := (by first | exact zm.below hd0 zm.lt | exact (zm.alloc (.cells #[.int .i64 0, .int .i64 0, .string ⟨#[]⟩, .int .u64 0] 26)).below hd0 (zm.alloc (.cells #[.int .i64 0, .int .i64 0, .string ⟨#[]⟩, .int .u64 0] 26)).lt); have hn6 : W6.heap.size + 1 < wu.heap.size := zp.lt; obtain ⟨zp0, zp1, zp2, zp3, zpz, -⟩ := zp; have zpf0 := zpz 0; have zpf1 := zpz 1; have zpf2 := zpz 2; have zpf3 := zpz 3; clear zpz)); (try (have zr : At wu wv.heap.size 0 0 ⟨#[]⟩ 0 := At.below (At.new wv 0 0 ⟨#[]⟩ 0 26) hd0 (by first | omega | (simp; done) | (simp; omega)); have hn3 : wv.heap.size < wu.heap.size := zr.lt; obtain ⟨zr0, zr1, zr2, zr3, zrz, -⟩ := zr; have zrf0 := zrz 0; have zrf1 := zrz 1; have zrf2 := zrz 2; have zrf3 := zrz 3; clear zrz)); (try (have zs : At wu wv.heap.size 0 0 ⟨#[]⟩ 0 := At.below ((At.new wv 0 0 ⟨#[]⟩ 0 26).alloc (.cells #[.int .i64 0, .int .i64 0, .string ⟨#[]⟩, .int .u64 0] 26)) hd0 (by first | omega | (simp; done) | (simp; omega)); have zt : At wu (wv.heap.size + 1) 0 0 ⟨#[]⟩ 0 := (by have hq := At.below (At.new (wv.alloc (.cells #[.int .i64 0, .int .i64 0, .string ⟨#[]⟩, .int .u64 0] 26)) 0 0 ⟨#[]⟩ 0 26) hd0 (by first | omega | (simp; done) | (simp; omega)); rwa [show (wv.alloc (.cells #[.int .i64 0, .int .i64 0, .string ⟨#[]⟩, .int .u64 0] 26)).heap.size = wv.heap.size + 1 from (by simp)] at hq); have hn4 : wv.heap.size + 1 < wu.heap.size := zt.lt; have hn7 : wv.heap.size < wu.heap.size := zs.lt; obtain ⟨zs0, zs1, zs2, zs3, zsz, -⟩ := zs; have zsf0 := zsz 0; have zsf1 := zsz 1; have zsf2 := zsz 2; have zsf3 := zsz 3; clear zsz; obtain ⟨zt0, zt1, zt2, zt3, ztz, -⟩ := zt; have ztf0 := ztz 0; have ztf1 := ztz 1; have ztf2 := ztz 2; have ztf3 := ztz 3; clear ztz)); clear hd0)
              | (fail))
          all_goals
            go_wp2_with fail
            go_meet
            refine ⟨_, _, rfl, rfl, ‹VH w _ A _ _ _ _ ∧ _›.1, ?_⟩
            clear KS FV FU
            first | (simp [*]; done) | (go_simp; done)
        case rest =>
          obtain ⟨C, D, rfl, rfl, hv, p0, p1, p2, p3, q0, q1, q2, q3⟩ := hcut
          rename World => W9
          have D9 : Hid (VK w W9 A C D ⟨ak, an, sa, af⟩ ⟨bk, bn, sb, bf⟩ x y) := Lib.hid ⟨hv, p0, p1, p2, p3, q0, q1, q2, q3⟩
          clear hv p0 p1 p2 p3 q0 q1 q2 q3 hks KS FV FU D6
          have KS2 : Hid (∀ W : World, VK w W A C D ⟨ak, an, sa, af⟩ ⟨bk, bn, sb, bf⟩ x y → VK w W A C D ⟨ak, an, sa, af⟩ ⟨bk, bn, sb, bf⟩ x y ∧ W.cell? ⟨A, 0, none⟩ = some (.int .i64 ak) ∧ W.cell? ⟨A, 1, none⟩ = some (.int .i64 an) ∧ W.cell? ⟨A, 2, none⟩ = some (.string sa) ∧ W.cell? ⟨A, 3, none⟩ = some (.int .u64 af) ∧ W.cell? ⟨A + 1, 0, none⟩ = some (.int .i64 bk) ∧ W.cell? ⟨C, 0, none⟩ = some (.int .i64 ak) ∧ W.cell? ⟨C, 1, none⟩ = some (.int .i64 0) ∧ W.cell? ⟨C, 2, none⟩ = some (.string ⟨#[]⟩) ∧ W.cell? ⟨C, 3, none⟩ = some (.int .u64 0) ∧ W.cell? ⟨D, 0, none⟩ = some (.int .i64 bk) ∧ W.cell? ⟨D, 1, none⟩ = some (.int .i64 0) ∧ W.cell? ⟨D, 2, none⟩ = some (.string ⟨#[]⟩) ∧ W.cell? ⟨D, 3, none⟩ = some (.int .u64 0)) := Lib.hid fun W h => ⟨h, h.vh.one.c0, h.vh.one.c1, h.vh.one.c2, h.vh.one.c3, h.vh.two.c0, h.c0, h.c1, h.c2, h.c3, h.d0, h.d1, h.d2, h.d3⟩
          go_upto_region 10 with fail
          have hks := KS2.out W9 D9.out
          by_cases hkk : ak = bk
          · subst hkk
            go_region_held3 (fun W => VK w W A C D ⟨ak, an, sa, af⟩ ⟨ak, bn, sb, bf⟩ x y ∧ W.cell? ⟨A, 0, none⟩ = some (.int .i64 ak) ∧ W.cell? ⟨A, 1, none⟩ = some (.int .i64 an) ∧ W.cell? ⟨A, 2, none⟩ = some (.string sa) ∧ W.cell? ⟨A, 3, none⟩ = some (.int .u64 af) ∧ W.cell? ⟨A + 1, 0, none⟩ = some (.int .i64 ak) ∧ W.cell? ⟨C, 0, none⟩ = some (.int .i64 ak) ∧ W.cell? ⟨C, 1, none⟩ = some (.int .i64 0) ∧ W.cell? ⟨C, 2, none⟩ = some (.string ⟨#[]⟩) ∧ W.cell? ⟨C, 3, none⟩ = some (.int .u64 0) ∧ W.cell? ⟨D, 0, none⟩ = some (.int .i64 ak) ∧ W.cell? ⟨D, 1, none⟩ = some (.int .i64 0) ∧ W.cell? ⟨D, 2, none⟩ = some (.string ⟨#[]⟩) ∧ W.cell? ⟨D, 3, none⟩ = some (.int .u64 0))
              (first | exact KS2.out _ (by assumption) | exact KS2.out _ (D9.out.below (Below.refl _ _).drew))
              (first
                | (go_at_call 13; refine (FK.out _).mono ?_; rintro e w' ⟨rfl, hd0⟩; have hd := (‹VK w _ _ _ _ _ _ _ _ ∧ _›.1).below hd0; clear hd0))
            all_goals
              go_wp2_with fail
              go_ret
              exact ⟨by simp [*], by rw [HA.out]; exact (‹VK w _ A _ _ _ _ _ _ ∧ _›.1).vh.bel⟩
          · have hkb : (ak == bk) = false := by rw [beq_eq_false_iff_ne]; exact hkk
            go_region_held3 (fun W => VK w W A C D ⟨ak, an, sa, af⟩ ⟨bk, bn, sb, bf⟩ x y ∧ W.cell? ⟨A, 0, none⟩ = some (.int .i64 ak) ∧ W.cell? ⟨A, 1, none⟩ = some (.int .i64 an) ∧ W.cell? ⟨A, 2, none⟩ = some (.string sa) ∧ W.cell? ⟨A, 3, none⟩ = some (.int .u64 af) ∧ W.cell? ⟨A + 1, 0, none⟩ = some (.int .i64 bk) ∧ W.cell? ⟨C, 0, none⟩ = some (.int .i64 ak) ∧ W.cell? ⟨C, 1, none⟩ = some (.int .i64 0) ∧ W.cell? ⟨C, 2, none⟩ = some (.string ⟨#[]⟩) ∧ W.cell? ⟨C, 3, none⟩ = some (.int .u64 0) ∧ W.cell? ⟨D, 0, none⟩ = some (.int .i64 bk) ∧ W.cell? ⟨D, 1, none⟩ = some (.int .i64 0) ∧ W.cell? ⟨D, 2, none⟩ = some (.string ⟨#[]⟩) ∧ W.cell? ⟨D, 3, none⟩ = some (.int .u64 0))
              (first | exact KS2.out _ (by assumption) | exact KS2.out _ (D9.out.below (Below.refl _ _).drew))
              (first
                | (go_at_call 13; refine (FK.out _).mono ?_; rintro e w' ⟨rfl, hd0⟩; have hd := (‹VK w _ _ _ _ _ _ _ _ ∧ _›.1).below hd0; clear hd0))
            all_goals
              go_wp2_with fail
              go_ret
              exact ⟨by simp [*], by rw [HA.out]; exact (‹VK w _ A _ _ _ _ _ _ ∧ _›.1).vh.bel⟩
end Go.Proofs.YtacafhmagonngaaGreatDoor
