/- The document's answer for values: the walks of right, Compare, Order. -/
import Derived.Test.YtacafhmagonngaaGreatDoorVr1
import Derived.Test.YtacafhmagonngaaGreatDoorVp0
set_option linter.unusedVariables false
set_option linter.unusedSimpArgs false
namespace Go.Proofs.YtacafhmagonngaaGreatDoor
open Go.RowKit

set_option maxHeartbeats 8000000 in
set_option maxRecDepth 100000 in
theorem rightofR_any (w : World) (x : Val) (hf0 : 0 ≤ x.f) (hf1 : x.f < 18446744073709551616) :
    Calls Tryz.prog 50 #[x.v] w fun e w' => e = .returned (rightOf x).v ∧ Below w.heap.size w w' := by
  have Hr : Hid (∀ W : World, Calls Tryz.prog 11 #[x.v] W fun e w' => e = .returned (.bool (rightB x)) ∧ Below W.heap.size W w') := Lib.hid fun W => rightR_any W x hf0 hf1
  clear hf0 hf1
  unfold rightOf
  obtain ⟨k, n, s, f⟩ := x
  simp only [Val.v] at Hr ⊢
  have a1 := (At.new w k n s f 26).alloc (Obj.cells #[.int .i64 0, .int .i64 0, .string ⟨#[]⟩, .int .u64 0] 26)
  have a2 := At.new (w.alloc (.cells #[.int .i64 k, .int .i64 n, .string s, .int .u64 f] 26)) 0 0 ⟨#[]⟩ 0 26
  have hsz : ((w.alloc (.cells #[.int .i64 k, .int .i64 n, .string s, .int .u64 f] 26)).heap.size) = w.heap.size + 1 := by simp
  rw [hsz] at a2
  have hbl : Below w.heap.size w ((w.alloc (.cells #[.int .i64 k, .int .i64 n, .string s, .int .u64 f] 26)).alloc (.cells #[.int .i64 0, .int .i64 0, .string ⟨#[]⟩, .int .u64 0] 26)) :=
    ((Below.refl _ _).alloc (Nat.le_refl _) _).alloc (by simp) _
  have A1 := Lib.hid a1; have A2 := Lib.hid a2; have Hbl := Lib.hid hbl
  clear a1 a2 hbl hsz
  cases hb : rightB ⟨k, n, s, f⟩ with
  | true =>
    rw [hb] at Hr
    simp only [if_true]
    clear hb
    go_enter Tryz.func50, Tryz.ntmps50
    go_wp2_with fail
    refine (Hr.out _).mono ?_
    rintro e w1 ⟨rfl, hb⟩
    have b1 := A1.out.below hb A1.out.lt
    have b2 := A2.out.below hb A2.out.lt
    have hbb := Hbl.out.trans (hb.mono Hbl.out.size)
    have Hbb := Lib.hid hbb
    obtain ⟨e0, e1, e2, e3, e5, e4⟩ := b1
    obtain ⟨d0, d1, d2, d3, d5, d4⟩ := b2
    have z0 := d5 0; have z1 := d5 1; have z2 := d5 2; have z3 := d5 3
    clear hb hbb A1 A2 Hbl d5 e5
    go_wp2_with fail
    exact bodyPost_ret (v := .agg #[.int .i64 k, .int .i64 n, .string s, .int .u64 f]) (by simp [results, Tryz.results50, go_sem, d0, d1, d2, d3]) rfl ⟨rfl, (((Hbb.out.setCell (by simp) _).setCell (by simp) _).setCell (by simp) _).setCell (by simp) _⟩
  | false =>
    rw [hb] at Hr
    simp only [Bool.false_eq_true, if_false, zeroVal]
    clear hb
    go_enter Tryz.func50, Tryz.ntmps50
    go_wp2_with fail
    refine (Hr.out _).mono ?_
    rintro e w1 ⟨rfl, hb⟩
    have b1 := A1.out.below hb A1.out.lt
    have b2 := A2.out.below hb A2.out.lt
    have hbb := Hbl.out.trans (hb.mono Hbl.out.size)
    have Hbb := Lib.hid hbb
    obtain ⟨e0, e1, e2, e3, e5, e4⟩ := b1
    obtain ⟨d0, d1, d2, d3, d5, d4⟩ := b2
    have z0 := d5 0; have z1 := d5 1; have z2 := d5 2; have z3 := d5 3
    clear hb hbb A1 A2 Hbl d5 e5
    go_wp2_with fail
    exact bodyPost_ret (v := .agg #[.int .i64 0, .int .i64 0, .string ⟨#[]⟩, .int .u64 0]) (by simp [results, Tryz.results50, go_sem, d0, d1, d2, d3]) rfl ⟨rfl, (((Hbb.out.setCell (by simp) _).setCell (by simp) _).setCell (by simp) _).setCell (by simp) _⟩
/-- two more values of the call's own -/
structure Quad (w W : World) (A B C : Nat) (a b x y : Val) : Prop where
  duo : Duo w W A a b
  px : At W B x.k x.n x.s x.f
  py : At W C y.k y.n y.s y.f
theorem Quad.below {w W W' : World} {A B C : Nat} {a b x y : Val} (h : Quad w W A B C a b x y) (hb : Below W.heap.size W W') : Quad w W' A B C a b x y :=
  ⟨h.duo.below hb, h.px.below hb h.px.lt, h.py.below hb h.py.lt⟩
end Go.Proofs.YtacafhmagonngaaGreatDoor
