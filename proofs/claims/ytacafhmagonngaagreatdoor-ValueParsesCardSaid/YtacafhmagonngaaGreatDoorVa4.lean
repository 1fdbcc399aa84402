/- Values: the walk of value.Order. -/
import Derived.Test.YtacafhmagonngaaGreatDoorVa3
set_option linter.unusedVariables false
set_option linter.unusedSimpArgs false
namespace Go.Proofs.YtacafhmagonngaaGreatDoor
open Go.RowKit

theorem right_f (x : Val) (h0 : 0 ≤ x.f) (h1 : x.f < 18446744073709551616) : 0 ≤ (rightOf x).f ∧ (rightOf x).f < 18446744073709551616 := by
  unfold rightOf
  split
  · exact ⟨h0, h1⟩
  · exact ⟨by decide, by decide⟩
def ordX (x y : Val) : Int := orL [cmp3 x.k y.k, Lib.compareInt x.n y.n, Lib.compareBytes x.s.data.toList y.s.data.toList, ordF x.f y.f]
set_option maxHeartbeats 8000000 in
set_option maxRecDepth 100000 in
theorem orderV_any (w : World) (a b : Val) (a0 : 0 ≤ a.f) (a1 : a.f < 18446744073709551616) (b0 : 0 ≤ b.f) (b1 : b.f < 18446744073709551616) :
    Calls Tryz.prog 16 #[a.v, b.v] w fun e w' => e = .returned (.int .i64 (ordX (rightOf a) (rightOf b))) ∧ Below w.heap.size w w' := by
  have ht := Duo.new w a b
  have HA : Hid (∀ W, Duo w W w.heap.size a b → Calls Tryz.prog 30 #[a.v] W fun e w' => e = .returned (rightOf a).v ∧ Duo w w' w.heap.size a b) := Lib.hid fun W h => (rightof_any W a).mono fun e w' q => ⟨q.1, h.below q.2⟩
  have HB : Hid (∀ W, Duo w W w.heap.size a b → Calls Tryz.prog 30 #[b.v] W fun e w' => e = .returned (rightOf b).v ∧ Duo w w' w.heap.size a b) := Lib.hid fun W h => (rightof_any W b).mono fun e w' q => ⟨q.1, h.below q.2⟩
  have fa := right_f a a0 a1
  have fb := right_f b b0 b1
  clear a0 a1 b0 b1
  generalize rightOf a = x at *
  generalize rightOf b = y at *
  obtain ⟨ak, an, sa, af⟩ := a
  obtain ⟨bk, bn, sb, bf⟩ := b
  obtain ⟨xk, xn, sx, xf⟩ := x
  obtain ⟨yk, yn, sy, yf⟩ := y
  simp only [Val.v] at HA HB ht fa fb ⊢
  have Ht := Lib.hid ht; clear ht
  have hi : ordX ⟨xk, xn, sx, xf⟩ ⟨yk, yn, sy, yf⟩ = orL [cmp3 xk yk, Lib.compareInt xn yn, Lib.compareBytes sx.data.toList sy.data.toList, ordF xf yf] := rfl
  rw [hi]
  clear hi
  have Hc0 : Hid (∀ W : World, Calls Tryz.prog 38 #[.int .i64 xk, .int .i64 yk] W fun e w' => e = .returned (.int .i64 (cmp3 xk yk)) ∧ W = w') := Lib.hid fun W => cmpk_any W xk yk
  have Hc1 : Hid (∀ W : World, Calls Tryz.prog 39 #[.int .i64 xn, .int .i64 yn] W fun e w' => e = .returned (.int .i64 (Lib.compareInt xn yn)) ∧ w' = W) := Lib.hid fun W => Tryz.cmp_Compare_int xn yn W
  have Hc2 : Hid (∀ W : World, Calls Tryz.prog 40 #[.string sx, .string sy] W fun e w' => e = .returned (.int .i64 (Lib.compareBytes sx.data.toList sy.data.toList)) ∧ w' = W) := Lib.hid fun W => Tryz.strings_Compare sx sy W
  have Hc3 : Hid (∀ W : World, Calls Tryz.prog 41 #[.int .u64 xf, .int .u64 yf] W fun e w' => e = .returned (.int .i64 (ordF xf yf)) ∧ W = w') := Lib.hid fun W => order_any W xf yf fa.1 fa.2 fb.1 fb.2
  clear fa fb
  generalize cmp3 xk yk = c0 at *
  generalize Lib.compareInt xn yn = c1 at *
  generalize Lib.compareBytes sx.data.toList sy.data.toList = c2 at *
  generalize ordF xf yf = c3 at *
  go_enter Tryz.func16, Tryz.ntmps16
  go_wp2_with fail
  generalize (w.alloc _).alloc _ = W0 at Ht ⊢
  generalize hA : w.heap.size = A at *
  have Hd := Lib.hid Ht.out.drew
  go_cut [] (fun wx => Duo w wx A ⟨xk, xn, sx, xf⟩ ⟨yk, yn, sy, yf⟩)
  case first =>
    have hd := Ht.out
    obtain ⟨⟨e0, e1, e2, e3, e5, e4⟩, ⟨d0, d1, d2, d3, d5, d4⟩, hbl⟩ := hd
    have y0 := e5 0; have y1 := e5 1; have y2 := e5 2; have y3 := e5 3
    have z0 := d5 0; have z1 := d5 1; have z2 := d5 2; have z3 := d5 3
    clear e5 d5 hbl
    go_region_with (first
    | (go_at_call_of 30 (Value.agg #[.int .i64 ak, .int .i64 an, .string sa, .int .u64 af])
       refine (HA.out _ (by first | exact Ht.out | exact Hd.out | assumption)).mono ?_
       rintro e w1 ⟨rfl, hh⟩
       have h1 := hh
       obtain ⟨⟨e0, e1, e2, e3, e5, e4⟩, ⟨d0, d1, d2, d3, d5, d4⟩, hbl⟩ := h1
       have y0 := e5 0; have y1 := e5 1; have y2 := e5 2; have y3 := e5 3
       have z0 := d5 0; have z1 := d5 1; have z2 := d5 2; have z3 := d5 3
       clear e5 d5 hbl)
    | (go_at_call_of 30 (Value.agg #[.int .i64 bk, .int .i64 bn, .string sb, .int .u64 bf])
       refine (HB.out _ (by first | exact Ht.out | exact Hd.out | assumption)).mono ?_
       rintro e w1 ⟨rfl, hh⟩
       have h1 := hh
       obtain ⟨⟨e0, e1, e2, e3, e5, e4⟩, ⟨d0, d1, d2, d3, d5, d4⟩, hbl⟩ := h1
       have y0 := e5 0; have y1 := e5 1; have y2 := e5 2; have y3 := e5 3
       have z0 := d5 0; have z1 := d5 1; have z2 := d5 2; have z3 := d5 3
       clear e5 d5 hbl))
    all_goals
      go_wp2_with fail
      go_meet
      exact Duo.store (by assumption) ⟨xk, xn, sx, xf⟩ ⟨yk, yn, sy, yf⟩
  case rest =>
    obtain ⟨⟨e0, e1, e2, e3, e5, e4⟩, ⟨d0, d1, d2, d3, d5, d4⟩, hbl⟩ := hcut
    have Hbl := Lib.hid hbl
    rw [← hA] at Hbl
    have HwA := Lib.hid hA
    clear e5 d5 hbl hA HA HB Ht Hd
    simp only at e0 e1 e2 e3 d0 d1 d2 d3
    go_wp2_with fail
    go_region_held3 (fun w' => w'.cell? ⟨A, 0, none⟩ = some (.int .i64 xk) ∧ w'.cell? ⟨A, 1, none⟩ = some (.int .i64 xn) ∧ w'.cell? ⟨A, 2, none⟩ = some (.string sx) ∧ w'.cell? ⟨A, 3, none⟩ = some (.int .u64 xf) ∧ w'.cell? ⟨A + 1, 0, none⟩ = some (.int .i64 yk) ∧ w'.cell? ⟨A + 1, 1, none⟩ = some (.int .i64 yn) ∧ w'.cell? ⟨A + 1, 2, none⟩ = some (.string sy) ∧ w'.cell? ⟨A + 1, 3, none⟩ = some (.int .u64 yf)) (go_keep)
      (first
        | (go_at_call 39; refine (Hc1.out _).mono ?_; rintro e w' ⟨rfl, rfl⟩)
        | (go_at_call 40; refine (Hc2.out _).mono ?_; rintro e w' ⟨rfl, rfl⟩)
        | (go_at_call 38; refine (Hc0.out _).mono ?_; rintro e w' ⟨rfl, rfl⟩)
        | (go_at_call 41; refine (Hc3.out _).mono ?_; rintro e w' ⟨rfl, rfl⟩)
        | (go_at_call 37; refine (or_any _ _ [c0, c1, c2, c3] 4 rfl (by decide) ?_).mono ?_; (intro t v hv; rcases t with _ | _ | _ | _ | t <;> simp_all); rintro e w' ⟨rfl, rfl⟩))
    all_goals
      go_wp2_with fail
      go_ret
      exact ⟨rfl, (Hbl.out.alloc Hbl.out.size _).drew⟩
end Go.Proofs.YtacafhmagonngaaGreatDoor
