/- The document's answer for values: the walks of right, Compare, Order. -/
import Derived.Test.YtjkkmepagdhaeaaGreatDoorVr1
import Derived.Test.YtjkkmepagdhaeaaGreatDoorVp0
set_option linter.unusedVariables false
set_option linter.unusedSimpArgs false
namespace Go.Proofs.YtjkkmepagdhaeaaGreatDoor
open Go.RowKit

set_option maxHeartbeats 8000000 in
set_option maxRecDepth 100000 in
theorem rightofR_any (w : World) (x : Val) (hf0 : 0 ≤ x.f) (hf1 : x.f < 18446744073709551616) :
    Calls Tryz.prog 45 #[x.v] w fun e w' => e = .returned (rightOf x).v ∧ Below w.heap.size w w' := by
  have Hr : Hid (∀ W : World, Calls Tryz.prog 19 #[x.v] W fun e w' => e = .returned (.bool (rightB x)) ∧ Below W.heap.size W w') := Lib.hid fun W => rightR_any W x hf0 hf1
  clear hf0 hf1
  unfold rightOf
  obtain ⟨k, n, s, f⟩ := x
  simp only [Val.v] at Hr ⊢
  have a1 := (At.new w k n s f 25).alloc (Obj.cells #[.int .i64 0, .int .i64 0, .string ⟨#[]⟩, .int .u64 0] 25)
  have a2 := At.new (w.alloc (.cells #[.int .i64 k, .int .i64 n, .string s, .int .u64 f] 25)) 0 0 ⟨#[]⟩ 0 25
  have hsz : ((w.alloc (.cells #[.int .i64 k, .int .i64 n, .string s, .int .u64 f] 25)).heap.size) = w.heap.size + 1 := by simp
  rw [hsz] at a2
  have hbl : Below w.heap.size w ((w.alloc (.cells #[.int .i64 k, .int .i64 n, .string s, .int .u64 f] 25)).alloc (.cells #[.int .i64 0, .int .i64 0, .string ⟨#[]⟩, .int .u64 0] 25)) :=
    ((Below.refl _ _).alloc (Nat.le_refl _) _).alloc (by simp) _
  have A1 := Lib.hid a1; have A2 := Lib.hid a2; have Hbl := Lib.hid hbl
  clear a1 a2 hbl hsz
  cases hb : rightB ⟨k, n, s, f⟩ with
  | true =>
    rw [hb] at Hr
    simp only [if_true]
    clear hb
    go_enter Tryz.func45, Tryz.ntmps45
    go_wp2_with fail
    refine (Hr.out _).mono ?_
    rintro e w1 ⟨rfl, hb⟩
    have b1 := A1.out.below hb A1.out.lt
    have b2 := A2.out.below hb A2.out.lt
    have hbb := Hbl.out.trans (hb.mono Hbl.out.size)
    have Hbb := Lib.hid hbb
    obtain ⟨e0, e1, e2, e3, e5, e4⟩ := b1
    obtain ⟨d0, d1, d2, d3, d5, d4⟩ := b2
    have z0 := d5 0; have z1 := d5 1; have z2 := d5 2; have z3 := d5 3
    clear hb hbb A1 A2 Hbl d5 e5
    go_wp2_with fail
    exact bodyPost_ret (v := .agg #[.int .i64 k, .int .i64 n, .string s, .int .u64 f]) (by simp [results, Tryz.results45, go_sem, d0, d1, d2, d3]) rfl ⟨rfl, (((Hbb.out.setCell (by simp) _).setCell (by simp) _).setCell (by simp) _).setCell (by simp) _⟩
  | false =>
    rw [hb] at Hr
    simp only [Bool.false_eq_true, if_false, zeroVal]
    clear hb
    go_enter Tryz.func45, Tryz.ntmps45
    go_wp2_with fail
    refine (Hr.out _).mono ?_
    rintro e w1 ⟨rfl, hb⟩
    have b1 := A1.out.below hb A1.out.lt
    have b2 := A2.out.below hb A2.out.lt
    have hbb := Hbl.out.trans (hb.mono Hbl.out.size)
    have Hbb := Lib.hid hbb
    obtain ⟨e0, e1, e2, e3, e5, e4⟩ := b1
    obtain ⟨d0, d1, d2, d3, d5, d4⟩ := b2
    have z0 := d5 0; have z1 := d5 1; have z2 := d5 2; have z3 := d5 3
    clear hb hbb A1 A2 Hbl d5 e5
    go_wp2_with fail
    exact bodyPost_ret (v := .agg #[.int .i64 0, .int .i64 0, .string ⟨#[]⟩, .int .u64 0]) (by simp [results, Tryz.results45, go_sem, d0, d1, d2, d3]) rfl ⟨rfl, (((Hbb.out.setCell (by simp) _).setCell (by simp) _).setCell (by simp) _).setCell (by simp) _⟩
/-- two more values of the call's own -/
structure Quad (w W : World) (A B C : Nat) (a b x y : Val) : Prop where
  duo : Duo w W A a b
  px : At W B x.k x.n x.s x.f
  py : At W C y.k y.n y.s y.f
theorem Quad.below {w W W' : World} {A B C : Nat} {a b x y : Val} (h : Quad w W A B C a b x y) (hb : Below W.heap.size W W') : Quad w W' A B C a b x y :=
  ⟨h.duo.below hb, h.px.below hb h.px.lt, h.py.below hb h.py.lt⟩
set_option maxHeartbeats 8000000 in
set_option maxRecDepth 100000 in
theorem compareVR_any (w : World) (a b : Val) (ha : a.Wf) (hb : b.Wf) :
    Calls Tryz.prog 15 #[a.v, b.v] w fun e w' => e = .returned (.tuple #[.int .i64 (cmpRi (rightOf a) (rightOf b)), .bool (cmpXb (rightOf a) (rightOf b))]) ∧ Below w.heap.size w w' := by
  have Hd := Lib.hid (Duo.new w a b)
  have HA : Hid (∀ W : World, Calls Tryz.prog 45 #[a.v] W fun e w' => e = .returned (rightOf a).v ∧ Below W.heap.size W w') := Lib.hid fun W => rightofR_any W a ha.f0 ha.f1
  have HB : Hid (∀ W : World, Calls Tryz.prog 45 #[b.v] W fun e w' => e = .returned (rightOf b).v ∧ Below W.heap.size W w') := Lib.hid fun W => rightofR_any W b hb.f0 hb.f1
  have wa := right_wf a ha
  have wb := right_wf b hb
  have sa3 := right_s a
  have sb3 := right_s b
  generalize rightOf a = x at *
  generalize rightOf b = y at *
  obtain ⟨ak, an, sa, af⟩ := a
  obtain ⟨bk, bn, sb, bf⟩ := b
  obtain ⟨xk, xn, sx, xf⟩ := x
  obtain ⟨yk, yn, sy, yf⟩ := y
  obtain ⟨-, -, -, -, xf0, xf1⟩ := wa
  obtain ⟨-, -, -, -, yf0, yf1⟩ := wb
  have hi : cmpRi ⟨xk, xn, sx, xf⟩ ⟨yk, yn, sy, yf⟩ = if xk = 0 ∨ xk ≠ yk then 0 else if xk = 4 then cmpF xf.toNat yf.toNat else if xk = 3 then Lib.compareBytes sx.data.toList sy.data.toList else cmp3 xn yn := rfl
  have hq : cmpXb ⟨xk, xn, sx, xf⟩ ⟨yk, yn, sy, yf⟩ = if xk ≠ yk ∨ xk = 0 then false else if xk = 4 then !(nanW xf.toNat || nanW yf.toNat) else true := rfl
  have Hi := Lib.hid hi; have Hq := Lib.hid hq
  clear hi hq ha hb
  generalize cmpRi ⟨xk, xn, sx, xf⟩ ⟨yk, yn, sy, yf⟩ = ri at *
  generalize cmpXb ⟨xk, xn, sx, xf⟩ ⟨yk, yn, sy, yf⟩ = rb at *
  simp only [Val.v] at HA HB xf0 xf1 yf0 yf1 sa3 sb3
  have Hcf : Hid (∀ W : World, Calls Tryz.prog 46 #[.int .u64 xf, .int .u64 yf] W fun e w' => e = .returned (.tuple #[.int .i64 (cmpF xf.toNat yf.toNat), .bool (!(nanW xf.toNat || nanW yf.toNat))]) ∧ W = w') := Lib.hid fun W => compareR_any W xf yf xf0 xf1 yf0 yf1
  have Hct : Hid (xk = 3 → yk = 3 → ∀ W : World, Calls Tryz.prog 47 #[.string sx, .string sy] W fun e w' => e = .returned (.int .i64 (Lib.compareBytes sx.data.toList sy.data.toList)) ∧ Below W.heap.size W w') := Lib.hid fun h1 h2 W => textsR_any W sx sy (by have := sa3 h1; omega) (by have := sb3 h2; omega)
  have Hcn : Hid (∀ W : World, Calls Tryz.prog 48 #[.int .i64 xn, .int .i64 yn] W fun e w' => e = .returned (.int .i64 (cmp3 xn yn)) ∧ W = w') := Lib.hid fun W => numbersR_any W xn yn
  clear xf0 xf1 yf0 yf1 sa3 sb3
  generalize cmpF xf.toNat yf.toNat = cf at *
  generalize (!(nanW xf.toNat || nanW yf.toNat)) = ok at *
  generalize Lib.compareBytes sx.data.toList sy.data.toList = ct at *
  generalize cmp3 xn yn = cn at *
  go_enter Tryz.func15, Tryz.ntmps15
  go_wp2_with fail
  generalize World.alloc (World.alloc w _) _ = W0 at Hd ⊢
  generalize hA : w.heap.size = A at *
  refine (HA.out W0).mono ?_
  rintro e w1 ⟨rfl, hb⟩
  have D1 := Lib.hid (Hd.out.below hb)
  have hal := (Below.refl w1.heap.size w1).alloc (Nat.le_refl _) (.cells #[.int .i64 xk, .int .i64 xn, .string sx, .int .u64 xf] 25)
  have D2 := Lib.hid (D1.out.below hal)
  have X2 := Lib.hid (At.new w1 xk xn sx xf 25)
  clear hb hal
  go_upto_region 2 with fail
  generalize World.alloc w1 _ = W2 at D2 X2 ⊢
  generalize w1.heap.size = B at *
  obtain ⟨b0, b1, b2, b3, -, -⟩ := D2.out.two
  simp only at b0 b1 b2 b3
  go_wp2_with fail
  refine (HB.out W2).mono ?_
  rintro e w3 ⟨rfl, hb⟩
  have D3 := Lib.hid (D2.out.below hb)
  have X3 := Lib.hid (X2.out.below hb X2.out.lt)
  have hal := (Below.refl w3.heap.size w3).alloc (Nat.le_refl _) (.cells #[.int .i64 yk, .int .i64 yn, .string sy, .int .u64 yf] 25)
  have D4 := Lib.hid (D3.out.below hal)
  have X4 := Lib.hid (X3.out.below hal X3.out.lt)
  have Y4 := Lib.hid (At.new w3 yk yn sy yf 25)
  clear hb hal b0 b1 b2 b3
  go_upto_region 3 with fail
  generalize World.alloc w3 _ = W4 at D4 X4 Y4 ⊢
  generalize w3.heap.size = C at *
  have Hbl := Lib.hid D4.out.bel
  rw [← hA] at Hbl
  obtain ⟨x0, x1, x2, x3, -, -⟩ := X4.out
  obtain ⟨y0, y1, y2, y3, -, -⟩ := Y4.out
  have hi := Hi.out
  have hq := Hq.out
  clear HA HB Hd D1 D2 D3 X2 X3 hA Hi Hq
  by_cases h0 : xk = 0
  · rw [if_pos (.inl h0)] at hi
    rw [if_pos (.inr h0)] at hq
    have Hi2 := Lib.hid hi; have Hq2 := Lib.hid hq
    subst h0
    clear hi hq
    go_wp2_with fail
    go_ret2
    exact ⟨by rw [Hi2.out, Hq2.out]; rfl, Hbl.out⟩
  have k0 : (xk == 0) = false := by rw [beq_eq_false_iff_ne]; exact h0
  by_cases h1 : xk = yk
  · subst h1
    rw [if_neg (by simp [h0])] at hi hq
    by_cases h4 : xk = 4
    · rw [if_pos h4] at hi hq
      have Hi2 := Lib.hid hi; have Hq2 := Lib.hid hq
      subst h4
      clear hi hq
      go_wp2_with fail
      refine (Hcf.out W4).mono ?_
      rintro e w5 ⟨rfl, rfl⟩
      go_wp2_with fail
      go_ret2
      exact ⟨by rw [Hi2.out, Hq2.out]; rfl, Hbl.out⟩
    have k4 : (xk == 4) = false := by rw [beq_eq_false_iff_ne]; exact h4
    rw [if_neg h4] at hi hq
    by_cases h3 : xk = 3
    · rw [if_pos h3] at hi
      have Hi2 := Lib.hid hi; have Hq2 := Lib.hid hq
      have Hc3 := Lib.hid (Hct.out h3 h3)
      subst h3
      clear hi hq Hct
      go_wp2_with fail
      refine (Hc3.out W4).mono ?_
      rintro e w5 ⟨rfl, hb⟩
      have hbb := Hbl.out.trans (hb.mono Hbl.out.size)
      go_wp2_with fail
      go_ret2
      exact ⟨by rw [Hi2.out, Hq2.out]; rfl, hbb⟩
    have k3 : (xk == 3) = false := by rw [beq_eq_false_iff_ne]; exact h3
    rw [if_neg h3] at hi
    have Hi2 := Lib.hid hi; have Hq2 := Lib.hid hq
    clear hi hq Hct
    go_wp2_with fail
    refine (Hcn.out W4).mono ?_
    rintro e w5 ⟨rfl, rfl⟩
    go_wp2_with fail
    go_ret2
    exact ⟨by rw [Hi2.out, Hq2.out]; rfl, Hbl.out⟩
  · rw [if_pos (.inr h1)] at hi
    rw [if_pos (.inl h1)] at hq
    have Hi2 := Lib.hid hi; have Hq2 := Lib.hid hq
    have k1 : (xk != yk) = true := by rw [bne_iff_ne]; exact h1
    clear hi hq Hct
    go_wp2_with fail
    go_ret2
    exact ⟨by rw [Hi2.out, Hq2.out]; rfl, Hbl.out⟩
set_option maxHeartbeats 8000000 in
set_option maxRecDepth 100000 in
theorem orderVR_any (w : World) (a b : Val) (ha : a.Wf) (hb : b.Wf) :
    Calls Tryz.prog 17 #[a.v, b.v] w fun e w' => e = .returned (.int .i64 (ordRi (rightOf a) (rightOf b))) ∧ Below w.heap.size w w' := by
  have Hd := Lib.hid (Duo.new w a b)
  have HA : Hid (∀ W : World, Calls Tryz.prog 45 #[a.v] W fun e w' => e = .returned (rightOf a).v ∧ Below W.heap.size W w') := Lib.hid fun W => rightofR_any W a ha.f0 ha.f1
  have HB : Hid (∀ W : World, Calls Tryz.prog 45 #[b.v] W fun e w' => e = .returned (rightOf b).v ∧ Below W.heap.size W w') := Lib.hid fun W => rightofR_any W b hb.f0 hb.f1
  have wa := right_wf a ha
  have wb := right_wf b hb
  have HC : Hid (∀ W : World, Calls Tryz.prog 15 #[(rightOf a).v, (rightOf b).v] W fun e w' => e = .returned (.tuple #[.int .i64 (cmpRi (rightOf a) (rightOf b)), .bool (cmpXb (rightOf a) (rightOf b))]) ∧ Below W.heap.size W w') := Lib.hid fun W => by
    have := compareVR_any W (rightOf a) (rightOf b) wa wb
    rwa [right_self (right_right a), right_self (right_right b)] at this
  generalize rightOf a = x at *
  generalize rightOf b = y at *
  obtain ⟨ak, an, sa, af⟩ := a
  obtain ⟨bk, bn, sb, bf⟩ := b
  obtain ⟨xk, xn, sx, xf⟩ := x
  obtain ⟨yk, yn, sy, yf⟩ := y
  obtain ⟨-, -, -, -, xf0, xf1⟩ := wa
  obtain ⟨-, -, -, -, yf0, yf1⟩ := wb
  have hi : ordRi ⟨xk, xn, sx, xf⟩ ⟨yk, yn, sy, yf⟩ = if xk ≠ yk then cmp3 xk yk else if xk = 4 then ordF xf yf else cmpRi ⟨xk, xn, sx, xf⟩ ⟨yk, yn, sy, yf⟩ := rfl
  have Hi := Lib.hid hi
  clear hi ha hb
  generalize ordRi ⟨xk, xn, sx, xf⟩ ⟨yk, yn, sy, yf⟩ = ri at *
  generalize cmpRi ⟨xk, xn, sx, xf⟩ ⟨yk, yn, sy, yf⟩ = rc at *
  generalize cmpXb ⟨xk, xn, sx, xf⟩ ⟨yk, yn, sy, yf⟩ = rb at *
  simp only [Val.v] at HA HB HC xf0 xf1 yf0 yf1
  have Hcf : Hid (∀ W : World, Calls Tryz.prog 51 #[.int .u64 xf, .int .u64 yf] W fun e w' => e = .returned (.int .i64 (ordF xf yf)) ∧ W = w') := Lib.hid fun W => orderR_any W xf yf xf0 xf1 yf0 yf1
  have Hcn : Hid (∀ W : World, Calls Tryz.prog 48 #[.int .i64 xk, .int .i64 yk] W fun e w' => e = .returned (.int .i64 (cmp3 xk yk)) ∧ W = w') := Lib.hid fun W => numbersR_any W xk yk
  clear xf0 xf1 yf0 yf1
  generalize ordF xf yf = cf at *
  generalize cmp3 xk yk = cn at *
  go_enter Tryz.func17, Tryz.ntmps17
  go_wp2_with fail
  generalize World.alloc (World.alloc w _) _ = W0 at Hd ⊢
  generalize hA : w.heap.size = A at *
  refine (HA.out W0).mono ?_
  rintro e w1 ⟨rfl, hb⟩
  have D1 := Lib.hid (Hd.out.below hb)
  have hal := (Below.refl w1.heap.size w1).alloc (Nat.le_refl _) (.cells #[.int .i64 xk, .int .i64 xn, .string sx, .int .u64 xf] 25)
  have D2 := Lib.hid (D1.out.below hal)
  have X2 := Lib.hid (At.new w1 xk xn sx xf 25)
  clear hb hal
  go_upto_region 2 with fail
  generalize World.alloc w1 _ = W2 at D2 X2 ⊢
  generalize w1.heap.size = B at *
  obtain ⟨b0, b1, b2, b3, -, -⟩ := D2.out.two
  simp only at b0 b1 b2 b3
  go_wp2_with fail
  refine (HB.out W2).mono ?_
  rintro e w3 ⟨rfl, hb⟩
  have D3 := Lib.hid (D2.out.below hb)
  have X3 := Lib.hid (X2.out.below hb X2.out.lt)
  have hal := (Below.refl w3.heap.size w3).alloc (Nat.le_refl _) (.cells #[.int .i64 yk, .int .i64 yn, .string sy, .int .u64 yf] 25)
  have D4 := Lib.hid (D3.out.below hal)
  have X4 := Lib.hid (X3.out.below hal X3.out.lt)
  have Y4 := Lib.hid (At.new w3 yk yn sy yf 25)
  clear hb hal b0 b1 b2 b3
  go_upto_region 3 with fail
  generalize World.alloc w3 _ = W4 at D4 X4 Y4 ⊢
  generalize w3.heap.size = C at *
  have Hbl := Lib.hid D4.out.bel
  rw [← hA] at Hbl
  obtain ⟨x0, x1, x2, x3, -, -⟩ := X4.out
  obtain ⟨y0, y1, y2, y3, -, -⟩ := Y4.out
  have hi := Hi.out
  clear HA HB Hd D1 D2 D3 X2 X3 hA Hi
  by_cases h1 : xk = yk
  · subst h1
    rw [if_neg (by simp)] at hi
    by_cases h4 : xk = 4
    · rw [if_pos h4] at hi
      have Hi2 := Lib.hid hi
      subst h4
      clear hi HC
      go_wp2_with fail
      refine (Hcf.out W4).mono ?_
      rintro e w5 ⟨rfl, rfl⟩
      go_wp2_with fail
      go_ret
      exact ⟨by rw [Hi2.out]; rfl, Hbl.out⟩
    have k4 : (xk == 4) = false := by rw [beq_eq_false_iff_ne]; exact h4
    rw [if_neg h4] at hi
    have Hi2 := Lib.hid hi
    clear hi
    go_wp2_with fail
    refine (HC.out W4).mono ?_
    rintro e w5 ⟨rfl, hb⟩
    have hbb := Hbl.out.trans (hb.mono Hbl.out.size)
    go_wp2_with fail
    go_ret
    exact ⟨by rw [Hi2.out]; rfl, hbb⟩
  · rw [if_pos h1] at hi
    have Hi2 := Lib.hid hi
    have k1 : (xk != yk) = true := by rw [bne_iff_ne]; exact h1
    clear hi HC
    go_wp2_with fail
    refine (Hcn.out W4).mono ?_
    rintro e w5 ⟨rfl, rfl⟩
    go_wp2_with fail
    go_ret
    exact ⟨by rw [Hi2.out]; rfl, Hbl.out⟩
end Go.Proofs.YtjkkmepagdhaeaaGreatDoor
