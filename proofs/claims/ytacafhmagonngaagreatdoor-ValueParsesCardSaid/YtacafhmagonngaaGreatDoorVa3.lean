/- Values: the walk of value.Compare. -/
import Derived.Test.YtacafhmagonngaaGreatDoorVa2
set_option linter.unusedVariables false
set_option linter.unusedSimpArgs false
namespace Go.Proofs.YtacafhmagonngaaGreatDoor
open Go.RowKit

def cmpXi (x y : Val) : Int := if x.k ≠ y.k ∨ x.k = 0 then 0 else if x.k = 4 then cmpF x.f.toNat y.f.toNat else orL [Lib.compareInt x.n y.n, Lib.compareBytes x.s.data.toList y.s.data.toList]
def cmpXb (x y : Val) : Bool := if x.k ≠ y.k ∨ x.k = 0 then false else if x.k = 4 then !(nanW x.f.toNat || nanW y.f.toNat) else true
set_option maxHeartbeats 8000000 in
set_option maxRecDepth 100000 in
theorem compareV_any (w : World) (a b : Val) :
    Calls Tryz.prog 22 #[a.v, b.v] w fun e w' => e = .returned (.tuple #[.int .i64 (cmpXi (rightOf a) (rightOf b)), .bool (cmpXb (rightOf a) (rightOf b))]) ∧ Below w.heap.size w w' := by
  have ht := Duo.new w a b
  have HA : Hid (∀ W, Duo w W w.heap.size a b → Calls Tryz.prog 30 #[a.v] W fun e w' => e = .returned (rightOf a).v ∧ Duo w w' w.heap.size a b) := Lib.hid fun W h => (rightof_any W a).mono fun e w' q => ⟨q.1, h.below q.2⟩
  have HB : Hid (∀ W, Duo w W w.heap.size a b → Calls Tryz.prog 30 #[b.v] W fun e w' => e = .returned (rightOf b).v ∧ Duo w w' w.heap.size a b) := Lib.hid fun W h => (rightof_any W b).mono fun e w' q => ⟨q.1, h.below q.2⟩
  generalize rightOf a = x at *
  generalize rightOf b = y at *
  obtain ⟨ak, an, sa, af⟩ := a
  obtain ⟨bk, bn, sb, bf⟩ := b
  obtain ⟨xk, xn, sx, xf⟩ := x
  obtain ⟨yk, yn, sy, yf⟩ := y
  simp only [Val.v] at HA HB ht ⊢
  have Ht := Lib.hid ht; clear ht
  have hi : cmpXi ⟨xk, xn, sx, xf⟩ ⟨yk, yn, sy, yf⟩ = if xk ≠ yk ∨ xk = 0 then 0 else if xk = 4 then cmpF xf.toNat yf.toNat else orL [Lib.compareInt xn yn, Lib.compareBytes sx.data.toList sy.data.toList] := rfl
  have hb : cmpXb ⟨xk, xn, sx, xf⟩ ⟨yk, yn, sy, yf⟩ = if xk ≠ yk ∨ xk = 0 then false else if xk = 4 then !(nanW xf.toNat || nanW yf.toNat) else true := rfl
  have Hi := Lib.hid hi; have Hb := Lib.hid hb
  clear hi hb
  generalize cmpXi ⟨xk, xn, sx, xf⟩ ⟨yk, yn, sy, yf⟩ = ri at *
  generalize cmpXb ⟨xk, xn, sx, xf⟩ ⟨yk, yn, sy, yf⟩ = rb at *
  go_enter Tryz.func22, Tryz.ntmps22
  go_wp2_with fail
  generalize (w.alloc _).alloc _ = W0 at Ht ⊢
  generalize hA : w.heap.size = A at *
  have Hd := Lib.hid Ht.out.drew
  go_cut [] (fun wx => Duo w wx A ⟨xk, xn, sx, xf⟩ ⟨yk, yn, sy, yf⟩)
  case first =>
    have hd := Ht.out
    obtain ⟨⟨e0, e1, e2, e3, e5, e4⟩, ⟨d0, d1, d2, d3, d5, d4⟩, hbl⟩ := hd
    have y0 := e5 0; have y1 := e5 1; have y2 := e5 2; have y3 := e5 3
    have z0 := d5 0; have z1 := d5 1; have z2 := d5 2; have z3 := d5 3
    clear e5 d5 hbl
    go_region_with (first
    | (go_at_call_of 30 (Value.agg #[.int .i64 ak, .int .i64 an, .string sa, .int .u64 af])
       refine (HA.out _ (by first | exact Ht.out | exact Hd.out | assumption)).mono ?_
       rintro e w1 ⟨rfl, hh⟩
       have h1 := hh
       obtain ⟨⟨e0, e1, e2, e3, e5, e4⟩, ⟨d0, d1, d2, d3, d5, d4⟩, hbl⟩ := h1
       have y0 := e5 0; have y1 := e5 1; have y2 := e5 2; have y3 := e5 3
       have z0 := d5 0; have z1 := d5 1; have z2 := d5 2; have z3 := d5 3
       clear e5 d5 hbl)
    | (go_at_call_of 30 (Value.agg #[.int .i64 bk, .int .i64 bn, .string sb, .int .u64 bf])
       refine (HB.out _ (by first | exact Ht.out | exact Hd.out | assumption)).mono ?_
       rintro e w1 ⟨rfl, hh⟩
       have h1 := hh
       obtain ⟨⟨e0, e1, e2, e3, e5, e4⟩, ⟨d0, d1, d2, d3, d5, d4⟩, hbl⟩ := h1
       have y0 := e5 0; have y1 := e5 1; have y2 := e5 2; have y3 := e5 3
       have z0 := d5 0; have z1 := d5 1; have z2 := d5 2; have z3 := d5 3
       clear e5 d5 hbl))
    all_goals
      go_wp2_with fail
      go_meet
      exact Duo.store (by assumption) ⟨xk, xn, sx, xf⟩ ⟨yk, yn, sy, yf⟩
  case rest =>
    obtain ⟨⟨e0, e1, e2, e3, e5, e4⟩, ⟨d0, d1, d2, d3, d5, d4⟩, hbl⟩ := hcut
    have Hbl := Lib.hid hbl
    rw [← hA] at Hbl
    have HwA := Lib.hid hA
    clear e5 d5 hbl hA HA HB Ht Hd
    simp only at e0 e1 e2 e3 d0 d1 d2 d3
    by_cases h1 : xk = yk
    · subst h1
      by_cases h0 : xk = 0
      · have hi2 : ri = 0 := by rw [Hi.out, if_pos (.inr h0)]
        have hb2 : rb = false := by rw [Hb.out, if_pos (.inr h0)]
        subst h0
        subst hi2
        subst hb2
        clear Hi Hb
        go_wp2_with fail
        go_ret2
        exact ⟨rfl, Hbl.out⟩
      · have hi2 := Hi.out
        have hb2 := Hb.out
        rw [if_neg (by simp [h0])] at hi2 hb2
        have k0 : (xk == 0) = false := by rw [beq_eq_false_iff_ne]; exact h0
        by_cases h4 : xk = 4
        · rw [if_pos h4] at hi2 hb2
          subst h4
          have Hi2 := Lib.hid hi2
          have Hb2 := Lib.hid hb2
          have Hc : Hid (∀ W : World, Calls Tryz.prog 53 #[.int .u64 xf, .int .u64 yf] W fun e w' => e = .returned (.tuple #[.int .i64 (cmpF xf.toNat yf.toNat), .bool (!(nanW xf.toNat || nanW yf.toNat))]) ∧ W = w') := Lib.hid fun W => compare_any W xf yf
          clear Hi Hb hi2 hb2
          generalize cmpF xf.toNat yf.toNat = c at *
          generalize (!(nanW xf.toNat || nanW yf.toNat)) = ok at *
          go_wp2_with fail
          refine (Hc.out wc).mono ?_
          rintro e w2 ⟨rfl, rfl⟩
          go_wp2_with fail
          go_ret2
          exact ⟨by rw [Hi2.out, Hb2.out]; rfl, Hbl.out⟩
        · rw [if_neg h4] at hi2 hb2
          subst hb2
          have k4 : (xk == 4) = false := by rw [beq_eq_false_iff_ne]; exact h4
          have Hi2 := Lib.hid hi2
          have Hc1 : Hid (∀ W : World, Calls Tryz.prog 39 #[.int .i64 xn, .int .i64 yn] W fun e w' => e = .returned (.int .i64 (Lib.compareInt xn yn)) ∧ w' = W) := Lib.hid fun W => Tryz.cmp_Compare_int xn yn W
          have Hc2 : Hid (∀ W : World, Calls Tryz.prog 40 #[.string sx, .string sy] W fun e w' => e = .returned (.int .i64 (Lib.compareBytes sx.data.toList sy.data.toList)) ∧ w' = W) := Lib.hid fun W => Tryz.strings_Compare sx sy W
          clear Hi Hb hi2
          generalize Lib.compareInt xn yn = c1 at *
          generalize Lib.compareBytes sx.data.toList sy.data.toList = c2 at *
          go_wp2_with fail
          go_region_held3 (fun w' => w'.cell? ⟨A, 1, none⟩ = some (.int .i64 xn) ∧ w'.cell? ⟨A, 2, none⟩ = some (.string sx) ∧ w'.cell? ⟨A + 1, 1, none⟩ = some (.int .i64 yn) ∧ w'.cell? ⟨A + 1, 2, none⟩ = some (.string sy)) (go_keep)
            (first
              | (go_at_call 39; refine (Hc1.out _).mono ?_; rintro e w' ⟨rfl, rfl⟩)
              | (go_at_call 40; refine (Hc2.out _).mono ?_; rintro e w' ⟨rfl, rfl⟩)
              | (go_at_call 37; refine (or_any _ _ [c1, c2] 2 rfl (by decide) ?_).mono ?_; (intro t v hv; rcases t with _ | _ | t <;> simp_all); rintro e w' ⟨rfl, rfl⟩))
          all_goals
            go_wp2_with fail
            go_ret2
            exact ⟨by rw [Hi2.out]; rfl, (Hbl.out.alloc Hbl.out.size _).drew⟩
    · have hi2 : ri = 0 := by rw [Hi.out, if_pos (.inl h1)]
      have hb2 : rb = false := by rw [Hb.out, if_pos (.inl h1)]
      have k1 : (xk != yk) = true := by rw [bne_iff_ne]; exact h1
      subst hi2
      subst hb2
      clear Hi Hb
      go_wp2_with fail
      go_ret2
      exact ⟨rfl, Hbl.out⟩
end Go.Proofs.YtacafhmagonngaaGreatDoor
