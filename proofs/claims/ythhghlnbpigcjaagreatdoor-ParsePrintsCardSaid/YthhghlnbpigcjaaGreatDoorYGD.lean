/- Joined texts: Va0; Va1; Va2; Va3; Va4; Vp0; Vb0; Vb1; Vc0; Vc1; Vc2; Vd0; Vd1; Ve0; Vr0; Vr1; Vr2; Vp1. -/
import Derived.Test.YthhghlnbpigcjaaGreatDoorYGC
import Derived.Test.YthhghlnbpigcjaaGreatDoorYGA
import Derived.Deep.RegionHeld3
import Derived.Deep.DeepCutAuto
import Derived.Deep.AppendLies
import Derived.Deep.RegionLaw
set_option linter.unusedVariables false
set_option linter.unusedSimpArgs false
namespace Go.Proofs.YthhghlnbpigcjaaGreatDoor
open Go.RowKit

structure Val where
  k : Int
  n : Int
  s : ByteArray
  f : Int
abbrev Val.v (x : Val) : Value := .agg #[.int .i64 x.k, .int .i64 x.n, .string x.s, .int .u64 x.f]
structure Val.Wf (x : Val) : Prop where
  k0 : -9223372036854775808 ≤ x.k
  k1 : x.k ≤ 9223372036854775807
  n0 : -9223372036854775808 ≤ x.n
  n1 : x.n ≤ 9223372036854775807
  f0 : 0 ≤ x.f
  f1 : x.f < 18446744073709551616
/-- is it a value -/
def rightB (x : Val) : Bool :=
  if x.k = 1 then decide (x.s.toList = []) && decide (x.f = 0)
  else if x.k = 2 then decide (x.s.toList = []) && decide (x.f = 0) && decide (x.n = 0 ∨ x.n = 1)
  else if x.k = 3 then decide (x.n = 0) && decide (x.f = 0) && decide (x.s.size ≤ 64)
  else if x.k = 4 then decide (x.n = 0) && decide (x.s.toList = []) && decide (canonF x.f = x.f)
  else decide (x.k = 0) && decide (x.n = 0) && decide (x.s.toList = []) && decide (x.f = 0)
theorem bits_one (n : Int) : bits BinOp.and .i64 n 1 = n % 2 := by
  show IntKind.i64.wrap ((BitVec.ofInt 64 n &&& BitVec.ofInt 64 1).toNat : Int) = n % 2
  rw [BitVec.toNat_and, show (BitVec.ofInt 64 1).toNat = 1 from by decide, Nat.and_one_is_mod, BitVec.toNat_ofInt, IntKind.wrap_i64]
  omega
theorem and_one (n : Int) : (n = bits BinOp.and .i64 n 1) ↔ (n = 0 ∨ n = 1) := by
  rw [bits_one]
  omega
set_option maxHeartbeats 8000000 in
set_option maxRecDepth 100000 in
theorem right_any (w : World) (x : Val) :
    Calls Tryz.prog 47 #[x.v] w fun e w' => e = .returned (.bool (rightB x)) ∧ Below w.heap.size w w' := by
  obtain ⟨k, n, s, f⟩ := x
  simp only [Val.v]
  by_cases h1 : k = 1
  · subst h1
    have hb : rightB ⟨1, n, s, f⟩ = (decide (s.toList = []) && decide (f = 0)) := by simp [rightB]
    rw [hb]
    clear hb
    go_enter Tryz.func47, Tryz.ntmps47
    go_wp2_with fail
    all_goals
      go_ret
      exact ⟨by simp [*], (Below.refl _ _).alloc (Nat.le_refl _) _⟩
  by_cases h2 : k = 2
  · subst h2
    have hb : rightB ⟨2, n, s, f⟩ = (decide (s.toList = []) && decide (f = 0) && decide (n = 0 ∨ n = 1)) := by simp [rightB]
    have ha := and_one n
    rw [hb]
    clear hb
    by_cases hn : n = 0 ∨ n = 1
    · rw [decide_eq_true hn]
      clear ha
      have z0 : bits BinOp.and .i64 0 1 = 0 := by decide
      have z1 : bits BinOp.and .i64 1 1 = 1 := by decide
      rcases hn with rfl | rfl
      all_goals
        go_enter Tryz.func47, Tryz.ntmps47
        go_wp2_with fail
        all_goals
          go_ret
          exact ⟨by simp [*], (Below.refl _ _).alloc (Nat.le_refl _) _⟩
    · have hn2 := fun h => hn (ha.1 h)
      rw [decide_eq_false hn]
      clear ha
      have Hn := Lib.hid hn; clear hn
      go_enter Tryz.func47, Tryz.ntmps47
      go_wp2_with fail
      all_goals
        go_ret
        exact ⟨by simp [*], (Below.refl _ _).alloc (Nat.le_refl _) _⟩
  by_cases h3 : k = 3
  · subst h3
    have hb : rightB ⟨3, n, s, f⟩ = (decide (n = 0) && decide (f = 0) && decide (s.size ≤ 64)) := by simp [rightB]
    rw [hb]
    clear hb
    by_cases hs : s.size ≤ 64
    · have hsi : (s.size : Int) ≤ 64 := by omega
      rw [decide_eq_true hs]
      go_enter Tryz.func47, Tryz.ntmps47
      go_wp2_with fail
      all_goals
        go_ret
        exact ⟨by simp [*], (Below.refl _ _).alloc (Nat.le_refl _) _⟩
    · have hsi : ¬ (s.size : Int) ≤ 64 := by omega
      rw [decide_eq_false hs]
      go_enter Tryz.func47, Tryz.ntmps47
      go_wp2_with fail
      all_goals
        go_ret
        exact ⟨by simp [*], (Below.refl _ _).alloc (Nat.le_refl _) _⟩
  by_cases h4 : k = 4
  · subst h4
    have hb : rightB ⟨4, n, s, f⟩ = (decide (n = 0) && decide (s.toList = []) && decide (canonF f = f)) := by simp [rightB]
    rw [hb]
    clear hb
    have Hc : Hid (∀ W : World, Calls Tryz.prog 70 #[.int .u64 f] W fun e w' => e = .returned (.int .u64 (canonF f)) ∧ W = w') := Lib.hid fun W => canon_any W f
    generalize canonF f = c at *
    by_cases hn : n = 0
    · subst hn
      by_cases hs : s.toList = []
      · by_cases hc : f = c
        · subst hc
          go_enter Tryz.func47, Tryz.ntmps47
          go_wp2_with fail
          go_quiet ((go_at_call 70; exact Calls.quiet_of_same ((Hc.out _).mono fun e w1 h => ⟨h.1, h.2.symm⟩)))
          go_wp2_with fail
          go_ret
          exact ⟨by simp [*], below_drewN ((Below.refl _ _).alloc (Nat.le_refl _) _) _⟩
        · have hc2 : ¬ c = f := fun e => hc e.symm
          go_enter Tryz.func47, Tryz.ntmps47
          go_wp2_with fail
          go_quiet ((go_at_call 70; exact Calls.quiet_of_same ((Hc.out _).mono fun e w1 h => ⟨h.1, h.2.symm⟩)))
          go_wp2_with fail
          go_ret
          exact ⟨by simp [*], below_drewN ((Below.refl _ _).alloc (Nat.le_refl _) _) _⟩
      · go_enter Tryz.func47, Tryz.ntmps47
        go_wp2_with fail
        go_quiet ((go_at_call 70; exact Calls.quiet_of_same ((Hc.out _).mono fun e w1 h => ⟨h.1, h.2.symm⟩)))
        go_wp2_with fail
        go_ret
        exact ⟨by simp [*], below_drewN ((Below.refl _ _).alloc (Nat.le_refl _) _) _⟩
    · go_enter Tryz.func47, Tryz.ntmps47
      go_wp2_with fail
      go_quiet ((go_at_call 70; exact Calls.quiet_of_same ((Hc.out _).mono fun e w1 h => ⟨h.1, h.2.symm⟩)))
      go_wp2_with fail
      go_ret
      exact ⟨by simp [*], below_drewN ((Below.refl _ _).alloc (Nat.le_refl _) _) _⟩
  · have hb : rightB ⟨k, n, s, f⟩ = (decide (k = 0) && decide (n = 0) && decide (s.toList = []) && decide (f = 0)) := by simp [rightB, h1, h2, h3, h4]
    rw [hb]
    clear hb
    have e1 : (k == 1) = false := by rw [beq_eq_false_iff_ne]; exact h1
    have e2 : (k == 2) = false := by rw [beq_eq_false_iff_ne]; exact h2
    have e3 : (k == 3) = false := by rw [beq_eq_false_iff_ne]; exact h3
    have e4 : (k == 4) = false := by rw [beq_eq_false_iff_ne]; exact h4
    go_enter Tryz.func47, Tryz.ntmps47
    go_wp2_with fail
    all_goals
      go_ret
      exact ⟨by simp [*], (Below.refl _ _).alloc (Nat.le_refl _) _⟩
end Go.Proofs.YthhghlnbpigcjaaGreatDoor
namespace Go.Proofs.YthhghlnbpigcjaaGreatDoor
open Go.RowKit

def zeroVal : Val := ⟨0, 0, ⟨#[]⟩, 0⟩
def rightOf (x : Val) : Val := if rightB x then x else zeroVal
/-- a value lies in a block of its own -/
structure At (w : World) (b : Nat) (k n : Int) (s : ByteArray) (f : Int) : Prop where
  c0 : w.cell? ⟨b, 0, none⟩ = some (.int .i64 k)
  c1 : w.cell? ⟨b, 1, none⟩ = some (.int .i64 n)
  c2 : w.cell? ⟨b, 2, none⟩ = some (.string s)
  c3 : w.cell? ⟨b, 3, none⟩ = some (.int .u64 f)
  z : ∀ o, w.frozen? ⟨b, o, none⟩ = false
  lt : b < w.heap.size
theorem At.new (w : World) (k n : Int) (s : ByteArray) (f : Int) (t : TypeId) : At (w.alloc (.cells #[.int .i64 k, .int .i64 n, .string s, .int .u64 f] t)) w.heap.size k n s f where
  c0 := by simp
  c1 := by simp
  c2 := by simp
  c3 := by simp
  z := fun o => by simp
  lt := by simp
theorem At.below {w w' : World} {b B : Nat} {k n : Int} {s : ByteArray} {f : Int} (h : At w b k n s f) (hb : Below B w w') (hB : b < B) : At w' b k n s f where
  c0 := (hb.cell hB).trans h.c0
  c1 := (hb.cell hB).trans h.c1
  c2 := (hb.cell hB).trans h.c2
  c3 := (hb.cell hB).trans h.c3
  z := fun o => (hb.frozen hB).trans (h.z o)
  lt := Nat.lt_of_lt_of_le h.lt hb.size
theorem At.alloc {w : World} {b : Nat} {k n : Int} {s : ByteArray} {f : Int} (h : At w b k n s f) (o : Obj) : At (w.alloc o) b k n s f :=
  h.below ((Below.refl w.heap.size w).alloc (Nat.le_refl _) o) h.lt
set_option maxHeartbeats 8000000 in
set_option maxRecDepth 100000 in
theorem rightof_any (w : World) (x : Val) :
    Calls Tryz.prog 64 #[x.v] w fun e w' => e = .returned (rightOf x).v ∧ Below w.heap.size w w' := by
  have Hr : Hid (∀ W : World, Calls Tryz.prog 47 #[x.v] W fun e w' => e = .returned (.bool (rightB x)) ∧ Below W.heap.size W w') := Lib.hid fun W => right_any W x
  unfold rightOf
  obtain ⟨k, n, s, f⟩ := x
  simp only [Val.v] at Hr ⊢
  have a1 := (At.new w k n s f 27).alloc (Obj.cells #[.int .i64 0, .int .i64 0, .string ⟨#[]⟩, .int .u64 0] 27)
  have a2 := At.new (w.alloc (.cells #[.int .i64 k, .int .i64 n, .string s, .int .u64 f] 27)) 0 0 ⟨#[]⟩ 0 27
  have hsz : ((w.alloc (.cells #[.int .i64 k, .int .i64 n, .string s, .int .u64 f] 27)).heap.size) = w.heap.size + 1 := by simp
  rw [hsz] at a2
  have hbl : Below w.heap.size w ((w.alloc (.cells #[.int .i64 k, .int .i64 n, .string s, .int .u64 f] 27)).alloc (.cells #[.int .i64 0, .int .i64 0, .string ⟨#[]⟩, .int .u64 0] 27)) :=
    ((Below.refl _ _).alloc (Nat.le_refl _) _).alloc (by simp) _
  have A1 := Lib.hid a1; have A2 := Lib.hid a2; have Hbl := Lib.hid hbl
  clear a1 a2 hbl hsz
  cases hb : rightB ⟨k, n, s, f⟩ with
  | true =>
    rw [hb] at Hr
    simp only [if_true]
    clear hb
    go_enter Tryz.func64, Tryz.ntmps64
    go_wp2_with fail
    refine (Hr.out _).mono ?_
    rintro e w1 ⟨rfl, hb⟩
    have b1 := A1.out.below hb A1.out.lt
    have b2 := A2.out.below hb A2.out.lt
    have hbb := Hbl.out.trans (hb.mono Hbl.out.size)
    have Hbb := Lib.hid hbb
    obtain ⟨e0, e1, e2, e3, e5, e4⟩ := b1
    obtain ⟨d0, d1, d2, d3, d5, d4⟩ := b2
    have z0 := d5 0; have z1 := d5 1; have z2 := d5 2; have z3 := d5 3
    clear hb hbb A1 A2 Hbl d5 e5
    go_wp2_with fail
    exact bodyPost_ret (v := .agg #[.int .i64 k, .int .i64 n, .string s, .int .u64 f]) (by simp [results, Tryz.results64, go_sem, d0, d1, d2, d3]) rfl ⟨rfl, (((Hbb.out.setCell (by simp) _).setCell (by simp) _).setCell (by simp) _).setCell (by simp) _⟩
  | false =>
    rw [hb] at Hr
    simp only [Bool.false_eq_true, if_false, zeroVal]
    clear hb
    go_enter Tryz.func64, Tryz.ntmps64
    go_wp2_with fail
    refine (Hr.out _).mono ?_
    rintro e w1 ⟨rfl, hb⟩
    have b1 := A1.out.below hb A1.out.lt
    have b2 := A2.out.below hb A2.out.lt
    have hbb := Hbl.out.trans (hb.mono Hbl.out.size)
    have Hbb := Lib.hid hbb
    obtain ⟨e0, e1, e2, e3, e5, e4⟩ := b1
    obtain ⟨d0, d1, d2, d3, d5, d4⟩ := b2
    have z0 := d5 0; have z1 := d5 1; have z2 := d5 2; have z3 := d5 3
    clear hb hbb A1 A2 Hbl d5 e5
    go_wp2_with fail
    exact bodyPost_ret (v := .agg #[.int .i64 0, .int .i64 0, .string ⟨#[]⟩, .int .u64 0]) (by simp [results, Tryz.results64, go_sem, d0, d1, d2, d3]) rfl ⟨rfl, (((Hbb.out.setCell (by simp) _).setCell (by simp) _).setCell (by simp) _).setCell (by simp) _⟩
/-- two values lie in two blocks of the call's own -/
structure Duo (w W : World) (A : Nat) (a b : Val) : Prop where
  one : At W A a.k a.n a.s a.f
  two : At W (A + 1) b.k b.n b.s b.f
  bel : Below A w W
theorem Duo.below {w W W' : World} {A : Nat} {a b : Val} (h : Duo w W A a b) (hb : Below W.heap.size W W') : Duo w W' A a b :=
  ⟨h.one.below hb h.one.lt, h.two.below hb h.two.lt, h.bel.trans (hb.mono (Nat.le_of_lt h.one.lt))⟩
theorem Duo.drew {w W : World} {A : Nat} {a b : Val} (h : Duo w W A a b) : Duo w W.drew A a b := h.below (Below.refl _ _).drew
theorem Duo.new (w : World) (a b : Val) : Duo w ((w.alloc (.cells #[.int .i64 a.k, .int .i64 a.n, .string a.s, .int .u64 a.f] 27)).alloc (.cells #[.int .i64 b.k, .int .i64 b.n, .string b.s, .int .u64 b.f] 27)) w.heap.size a b where
  one := (At.new w a.k a.n a.s a.f 27).alloc _
  two := by
    have := At.new (w.alloc (.cells #[.int .i64 a.k, .int .i64 a.n, .string a.s, .int .u64 a.f] 27)) b.k b.n b.s b.f 27
    rwa [show (w.alloc (.cells #[.int .i64 a.k, .int .i64 a.n, .string a.s, .int .u64 a.f] 27)).heap.size = w.heap.size + 1 from by simp] at this
  bel := ((Below.refl _ _).alloc (Nat.le_refl _) _).alloc (by simp) _
/-- a value stored over a block -/
def storeV (W : World) (b : Nat) (x : Val) : World := (((W.setCell ⟨b, 0, none⟩ (.int .i64 x.k)).setCell ⟨b, 1, none⟩ (.int .i64 x.n)).setCell ⟨b, 2, none⟩ (.string x.s)).setCell ⟨b, 3, none⟩ (.int .u64 x.f)
theorem cell_at {w : World} {p q : Addr} {v u : Value} (h : w.cell? q = some u) (e : p = q) : (w.setCell p v).cell? q = some v := by
  subst e
  exact World.cell?_setCell_same _ _ _ h
theorem cell_off {w : World} {p q : Addr} {v u : Value} (h : w.cell? q = some u) (e : p ≠ q) : (w.setCell p v).cell? q = some u := by
  rw [World.cell?_setCell_other _ _ _ _ e]
  exact h
theorem At.store {W : World} {b : Nat} {k n : Int} {s : ByteArray} {f : Int} (h : At W b k n s f) (x : Val) : At (storeV W b x) b x.k x.n x.s x.f := by
  obtain ⟨h0, h1, h2, h3, hz, hl⟩ := h
  have ne : ∀ i j : Nat, i ≠ j → (⟨b, i, none⟩ : Addr) ≠ ⟨b, j, none⟩ := fun i j e h => by injection h with _ h; exact e h
  refine ⟨?_, ?_, ?_, ?_, ?_, ?_⟩
  · exact cell_off (cell_off (cell_off (cell_at h0 rfl) (ne 1 0 (by decide))) (ne 2 0 (by decide))) (ne 3 0 (by decide))
  · exact cell_off (cell_off (cell_at (cell_off h1 (ne 0 1 (by decide))) rfl) (ne 2 1 (by decide))) (ne 3 1 (by decide))
  · exact cell_off (cell_at (cell_off (cell_off h2 (ne 0 2 (by decide))) (ne 1 2 (by decide))) rfl) (ne 3 2 (by decide))
  · exact cell_at (cell_off (cell_off (cell_off h3 (ne 0 3 (by decide))) (ne 1 3 (by decide))) (ne 2 3 (by decide))) rfl
  · intro o
    unfold storeV
    rw [World.frozen?_setCell, World.frozen?_setCell, World.frozen?_setCell, World.frozen?_setCell]
    exact hz o
  · simpa [storeV, World.setCell] using hl
theorem At.other {W : World} {b c : Nat} {k n : Int} {s : ByteArray} {f : Int} (h : At W c k n s f) (hbc : b ≠ c) (x : Val) : At (storeV W b x) c k n s f := by
  obtain ⟨h0, h1, h2, h3, hz, hl⟩ := h
  have ne : ∀ i j : Nat, (⟨b, i, none⟩ : Addr) ≠ ⟨c, j, none⟩ := fun i j h => by injection h with h _; exact hbc h
  refine ⟨?_, ?_, ?_, ?_, ?_, ?_⟩
  · exact cell_off (cell_off (cell_off (cell_off h0 (ne _ _)) (ne _ _)) (ne _ _)) (ne _ _)
  · exact cell_off (cell_off (cell_off (cell_off h1 (ne _ _)) (ne _ _)) (ne _ _)) (ne _ _)
  · exact cell_off (cell_off (cell_off (cell_off h2 (ne _ _)) (ne _ _)) (ne _ _)) (ne _ _)
  · exact cell_off (cell_off (cell_off (cell_off h3 (ne _ _)) (ne _ _)) (ne _ _)) (ne _ _)
  · intro o
    unfold storeV
    rw [World.frozen?_setCell, World.frozen?_setCell, World.frozen?_setCell, World.frozen?_setCell]
    exact hz o
  · simpa [storeV, World.setCell] using hl
theorem below_store {B : Nat} {w W : World} {b : Nat} (h : Below B w W) (hb : B ≤ b) (x : Val) : Below B w (storeV W b x) :=
  (((h.setCell hb _).setCell hb _).setCell hb _).setCell hb _
theorem Duo.store {w W : World} {A : Nat} {a b : Val} (h : Duo w W A a b) (x y : Val) : Duo w (storeV (storeV W A x) (A + 1) y) A x y where
  one := (h.one.store x).other (by omega) y
  two := (h.two.other (by omega) x).store y
  bel := below_store (below_store h.bel (Nat.le_refl _) x) (by omega) y
end Go.Proofs.YthhghlnbpigcjaaGreatDoor
namespace Go.Proofs.YthhghlnbpigcjaaGreatDoor
open Go.RowKit

end Go.Proofs.YthhghlnbpigcjaaGreatDoor
namespace Go.Proofs.YthhghlnbpigcjaaGreatDoor
open Go.RowKit

end Go.Proofs.YthhghlnbpigcjaaGreatDoor
namespace Go.Proofs.YthhghlnbpigcjaaGreatDoor
open Go.RowKit

end Go.Proofs.YthhghlnbpigcjaaGreatDoor
namespace Go.Proofs.YthhghlnbpigcjaaGreatDoor
open Go.RowKit

inductive RightC (x : Val) : Prop where
  | null (k : x.k = 0) (n : x.n = 0) (s : x.s = ⟨#[]⟩) (f : x.f = 0)
  | int (k : x.k = 1) (s : x.s = ⟨#[]⟩) (f : x.f = 0)
  | bool (k : x.k = 2) (s : x.s = ⟨#[]⟩) (f : x.f = 0) (n : x.n = 0 ∨ x.n = 1)
  | bytes (k : x.k = 3) (n : x.n = 0) (f : x.f = 0) (s : x.s.size ≤ 64)
  | float (k : x.k = 4) (n : x.n = 0) (s : x.s = ⟨#[]⟩) (f : canonF x.f = x.f)
theorem empty_of {s : ByteArray} (h : s.toList = []) : s = ⟨#[]⟩ := by
  rw [ByteArray.toList_eq] at h
  exact bytes_eq h
theorem right_cases {x : Val} (h : rightB x = true) : RightC x := by
  unfold rightB at h
  by_cases h1 : x.k = 1
  · rw [if_pos h1] at h
    simp only [Bool.and_eq_true, decide_eq_true_eq] at h
    exact .int h1 (empty_of h.1) h.2
  rw [if_neg h1] at h
  by_cases h2 : x.k = 2
  · rw [if_pos h2] at h
    simp only [Bool.and_eq_true, decide_eq_true_eq] at h
    exact .bool h2 (empty_of h.1.1) h.1.2 h.2
  rw [if_neg h2] at h
  by_cases h3 : x.k = 3
  · rw [if_pos h3] at h
    simp only [Bool.and_eq_true, decide_eq_true_eq] at h
    exact .bytes h3 h.1.1 h.1.2 h.2
  rw [if_neg h3] at h
  by_cases h4 : x.k = 4
  · rw [if_pos h4] at h
    simp only [Bool.and_eq_true, decide_eq_true_eq] at h
    exact .float h4 h.1.1 (empty_of h.1.2) h.2
  rw [if_neg h4] at h
  simp only [Bool.and_eq_true, decide_eq_true_eq] at h
  exact .null h.1.1.1 h.1.1.2 (empty_of h.1.2) h.2
theorem right_right (x : Val) : rightB (rightOf x) = true := by
  unfold rightOf
  split
  · assumption
  · decide +kernel
theorem right_self {x : Val} (h : rightB x = true) : rightOf x = x := by unfold rightOf; rw [if_pos h]
theorem rightC (x : Val) : RightC (rightOf x) := right_cases (right_right x)
end Go.Proofs.YthhghlnbpigcjaaGreatDoor
namespace Go.Proofs.YthhghlnbpigcjaaGreatDoor
open Go.RowKit

abbrev encB (l : List UInt8) : List Value := l.map fun b => .int .u8 (b.toNat : Int)
/-- a slice of bytes that the call owns -/
structure Buf (w wr : World) (v : Value) (l : List UInt8) : Prop where
  below : Below w.heap.size w wr
  own : wr.ownsRow w.heap.size 5 1 v l.length (encB l)
theorem Buf.start (w : World) : Buf w w (.slice none 0 0) [] := ⟨Below.refl _ _, rfl, .inl ⟨rfl, rfl⟩⟩
theorem own_later {W w1 : World} {base : Nat} {e : TypeId} {size : Nat} {v : Value} {n : Nat} {xs : List Value} (h : W.ownsRow base e size v n xs) (hb : Below W.heap.size W w1) : w1.ownsRow base e size v n xs :=
  h.kept ⟨hb.os, hb.tape, hb.output, hb.size, fun k hk _ => hb.block k hk⟩ (row := none) (by cases v.ownBlock <;> simp)
theorem Buf.later {w wr W : World} {v : Value} {l : List UInt8} (h : Buf w wr v l) (hb : Below wr.heap.size wr W) : Buf w W v l :=
  ⟨h.below.trans (hb.mono h.below.size), own_later h.own hb⟩
theorem infoU8 : (Tryz.prog.info? 5).map (fun i => (i.zero, i.size, i.bytes)) = some (some (.int .u8 0), 1, 1) := by kernel_rfl
theorem info_parts {t : TypeId} {z : Value} {s b : Nat} (h : (Tryz.prog.info? t).map (fun i => (i.zero, i.size, i.bytes)) = some (some z, s, b)) : ∃ i, Tryz.prog.info? t = some i ∧ i.zero = some z ∧ i.size = s ∧ i.bytes = b := by
  cases hi : Tryz.prog.info? t with
  | none => rw [hi] at h; cases h
  | some i =>
    rw [hi] at h
    simp at h
    exact ⟨i, rfl, h.1, h.2.1, h.2.2⟩
theorem encB_get (bs : List UInt8) (j : Nat) (u : Value) (h : (encB bs)[j]? = some u) : u.oneCell' = true := by
  unfold encB at h
  rw [List.getElem?_map] at h
  cases hb : bs[j]? with
  | none => rw [hb] at h; cases h
  | some b => rw [hb] at h; simp at h; subst h; rfl
theorem buf_appended {w wr W w1 : World} {v : Value} {l bs : List UInt8} {g cap : Nat} (hB : Buf w wr v l) (hb : Below wr.heap.size wr W) (h1 : w1.ownsRow w.heap.size 5 1 (.slice (some ⟨g, 0, none⟩) (l.length + bs.length) cap) (l.length + bs.length) (encB l ++ encB bs)) (h2 : W.grownBy w1 v.ownBlock) : Buf w w1 (.slice (some ⟨g, 0, none⟩) (l.length + bs.length) cap) (l ++ bs) := by
  refine ⟨?_, ?_⟩
  · refine (hB.below.trans (hb.mono hB.below.size)).grown h2 (Nat.le_trans hB.below.size hb.size) ?_
    intro k hk
    exact (hB.own.lt k hk).1
  · rw [List.length_append, show encB (l ++ bs) = encB l ++ encB bs from List.map_append]
    exact h1
theorem step_bytes {ops : Array Oper} {o : Oper} {a : Act} {K : Act → World → Prop} {Q : Exit → Act → World → Prop} {E : Prop} {W : World} (hgd : o.guard = none) (s x : Operand)
    (ho : o.op = .call { callee := .builtin .append, args := #[s, x], argTypes := #[64, 64] })
    (w wr : World) (v : Value) (l bs : List UInt8) (B m : Nat) (hB : Buf w wr v l) (hm : bs.length = m) (hpos : 0 < m) (hlen : l.length + m ≤ 1000000)
    (hb : Below wr.heap.size wr W) (hc : ∀ j u, (encB bs)[j]? = some u → W.cell? ((⟨B, 0, none⟩ : Addr).add j) = some u)
    (hs : a.eval s = v) (hx : a.eval x = .slice (some ⟨B, 0, none⟩) m m)
    (h : ∀ g cap w1, Buf w w1 (.slice (some ⟨g, 0, none⟩) (l.length + m) cap) (l ++ bs) → K (a.put o.dst (.slice (some ⟨g, 0, none⟩) (l.length + m) cap)) w1) :
    if Region.wanted o (yielded ops a.tmps) = true then Oper.wp Tryz.prog o a W K Q else E := by
  subst hm
  obtain ⟨i0, hi0, hz0, hz1, hz2⟩ := info_parts infoU8
  refine step_append_lies (P := Tryz.prog) W hgd s x 64 ho w.heap.size 5 i0 _ 1 1 Tryz.underlying64 hi0 hz0 hz1 hz2 rfl (by decide) v l.length (encB l) hs (own_later hB.own hb)
    ⟨B, 0, none⟩ bs.length bs.length (encB bs) hx (by simp [encB]) hc ?_ hpos (by unfold maxLen; omega) (by omega) (Nat.le_trans hB.below.size hb.size) W.heap.size rfl ?_
  · intro u hu
    obtain ⟨j, hj⟩ := List.getElem?_of_mem hu
    exact encB_get bs j u hj
  · intro g cap w1 h1 h2 h3 h4
    exact h g cap w1 (buf_appended hB hb h1 h2)
theorem wpList_bytes {ops : Array Oper} {rest : List Oper} {o : Oper} {a : Act} {Q : Exit → Act → World → Prop} {W : World} (hgd : o.guard = none) (s x : Operand)
    (ho : o.op = .call { callee := .builtin .append, args := #[s, x], argTypes := #[64, 64] })
    (w wr : World) (v : Value) (l bs : List UInt8) (B m : Nat) (hB : Buf w wr v l) (hm : bs.length = m) (hpos : 0 < m) (hlen : l.length + m ≤ 1000000)
    (hb : Below wr.heap.size wr W) (hc : ∀ j u, (encB bs)[j]? = some u → W.cell? ((⟨B, 0, none⟩ : Addr).add j) = some u)
    (hs : a.eval s = v) (hx : a.eval x = .slice (some ⟨B, 0, none⟩) m m)
    (h : ∀ g cap w1, Buf w w1 (.slice (some ⟨g, 0, none⟩) (l.length + m) cap) (l ++ bs) → wpList Tryz.prog ops Q rest (a.put o.dst (.slice (some ⟨g, 0, none⟩) (l.length + m) cap)) w1) : wpList Tryz.prog ops Q (o :: rest) a W := by
  subst hm
  obtain ⟨i0, hi0, hz0, hz1, hz2⟩ := info_parts infoU8
  refine wpList_append_lies (P := Tryz.prog) W hgd s x 64 ho w.heap.size 5 i0 _ 1 1 Tryz.underlying64 hi0 hz0 hz1 hz2 rfl (by decide) v l.length (encB l) hs (own_later hB.own hb)
    ⟨B, 0, none⟩ bs.length bs.length (encB bs) hx (by simp [encB]) hc ?_ hpos (by unfold maxLen; omega) (by omega) (Nat.le_trans hB.below.size hb.size) W.heap.size rfl ?_
  · intro u hu
    obtain ⟨j, hj⟩ := List.getElem?_of_mem hu
    exact encB_get bs j u hj
  · intro g cap w1 h1 h2 h3 h4
    exact h g cap w1 (buf_appended hB hb h1 h2)
theorem Buf.text {w wr : World} {v : Value} {l : List UInt8} (h : Buf w wr v l) : (convert 64 9 v).run Tryz.prog wr = .ok (.string ⟨l.toArray⟩) wr := by
  have ho := h.own
  rcases h.own.2 with ⟨hv, hn⟩ | ⟨g, cap, cur, hv, _⟩
  · have : l = [] := List.eq_nil_of_length_eq_zero hn
    subst this
    subst hv
    rw [run_convert_bytes_string wr 64 9 5 none 0 0 Tryz.underlying64 Tryz.underlying5 Tryz.underlying9]
    rfl
  · subst hv
    refine run_convert_bytes_back (P := Tryz.prog) wr 64 9 5 ⟨g, 0, none⟩ cap l Tryz.underlying64 Tryz.underlying5 Tryz.underlying9 ?_
    intro j hj
    refine ho.cells rfl j _ ?_
    unfold encB
    rw [List.getElem?_map, List.getElem?_eq_getElem hj]
    rfl
theorem Buf.form {w wr : World} {v : Value} {l : List UInt8} (h : Buf w wr v l) : ∃ g cap, v = .slice g l.length cap := by
  rcases h.own.2 with ⟨hv, hn⟩ | ⟨g, cap, cur, hv, _⟩
  · exact ⟨none, 0, by rw [hv, hn]⟩
  · exact ⟨_, _, hv⟩
theorem alloc_cells (W : World) (bs : List UInt8) (arr : Array Value) (t : TypeId) (h : arr.toList = encB bs) : ∀ j u, (encB bs)[j]? = some u → (W.alloc (.cells arr t)).cell? ((⟨W.heap.size, 0, none⟩ : Addr).add j) = some u := by
  intro j u hj
  have : (⟨W.heap.size, 0, none⟩ : Addr).add j = ⟨W.heap.size, j, none⟩ := by
    unfold Addr.add; split <;> simp_all
  rw [this, World.cell?_alloc_at _ _ _ _ rfl]
  rw [← h] at hj
  simpa using hj
end Go.Proofs.YthhghlnbpigcjaaGreatDoor
namespace Go.Proofs.YthhghlnbpigcjaaGreatDoor
open Go.RowKit

/-- two digits a byte -/
def hexL : List UInt8 → List UInt8
  | [] => []
  | c :: cs => dig (c.toNat / 16) :: dig (c.toNat % 16) :: hexL cs
theorem hexL_append (a b : List UInt8) : hexL (a ++ b) = hexL a ++ hexL b := by
  induction a with
  | nil => rfl
  | cons c cs ih => show _ :: _ :: hexL (cs ++ b) = _; rw [ih]; rfl
theorem hexL_length (a : List UInt8) : (hexL a).length = 2 * a.length := by
  induction a with
  | nil => rfl
  | cons c cs ih => show (hexL cs).length + 1 + 1 = 2 * (cs.length + 1); omega
theorem take_snoc {l : List UInt8} {j : Nat} {c : UInt8} (h : l[j]? = some c) : l.take (j + 1) = l.take j ++ [c] := by
  rw [List.take_add_one, h]; rfl
theorem byte_at (s : ByteArray) (j : Nat) (h : j < s.size) : s.data.toList[j]? = some s[j] := by
  rw [List.getElem?_eq_getElem (by rw [← Lib.size_eq]; exact h)]
  rfl
theorem and15b (c : UInt8) : bits BinOp.and .u8 (c.toNat : Int) 15 = ((c.toNat % 16 : Nat) : Int) := by
  have h := (bits_nat .u8 8 (by decide) wraps_u8 c.toNat 15 c.toNat_lt (by decide)).1
  rw [show (15 : Nat) = 2 ^ 4 - 1 from by decide, Nat.and_two_pow_sub_one_eq_mod] at h
  exact h
set_option maxHeartbeats 8000000 in
set_option maxRecDepth 100000 in
theorem hex_any (w : World) (s : ByteArray) (hs : s.size ≤ 100000) :
    Calls Tryz.prog 67 #[.string s] w fun e w' => e = .returned (.string ⟨(hexL s.data.toList).toArray⟩) ∧ Below w.heap.size w w' := by
  obtain ⟨N, hN⟩ : ∃ N, s.size = N := ⟨_, rfl⟩
  obtain ⟨l, hl⟩ : ∃ l, l = s.data.toList := ⟨_, rfl⟩
  have hlN : l.length = N := by rw [hl, ← hN, Lib.size_eq]
  rw [← hl]
  have Hl := Lib.hid hl; have HlN := Lib.hid hlN
  clear hl hlN
  have hN2 : N ≤ 100000 := by omega
  have HN2 := Lib.hid hN2
  clear hs hN2
  have hNi : (N : Int) ≤ 100000 := by have := HN2.out; omega
  go_enter Tryz.func67, Tryz.ntmps67
  go_wp2_with fail
  go_loopg [3, 7] N (fun mm v i wr => ∃ (j : Nat) (I : Int), j + mm = N ∧ Hid (I = (j : Int)) ∧ i = .int .i64 I ∧ Buf w wr v (hexL (l.take j)))
  case atStart => exact ⟨0, 0, by omega, Lib.hid rfl, rfl, Buf.start w⟩
  case round =>
    obtain ⟨j, I, hj, HI, rfl, hb⟩ := hrel
    have hI0 : 0 ≤ I := by have := HI.out; omega
    have Hb := Lib.hid hb; clear hb
    obtain ⟨g, cap, hv⟩ := Hb.out.form
    by_cases hm : gk = 0
    · have hjN : j = N := by omega
      have hI1 : ¬ I < (N : Int) := by have := HI.out; omega
      have ht := Hb.out.text
      have hall : hexL (l.take j) = hexL l := by rw [List.take_of_length_le (by rw [HlN.out, hjN]; exact Nat.le_refl _)]
      rw [hall] at ht
      clear hm hj hjN hall hv
      go_wp2_with fail
      go_ret
      exact ⟨rfl, Hb.out.below⟩
    · have hjN : j < N := by omega
      have hI1 : I < (N : Int) := by have := HI.out; omega
      have hIj : I.toNat = j := by have := HI.out; omega
      have hjs : j < s.size := by omega
      obtain ⟨c, hc⟩ : ∃ c, s[j] = c := ⟨_, rfl⟩
      have hlc : l[j]? = some c := by rw [Hl.out, byte_at s j hjs, hc]
      obtain ⟨hi, hhi⟩ : ∃ hi, c.toNat / 16 = hi := ⟨_, rfl⟩
      obtain ⟨lo, hlo⟩ : ∃ lo, c.toNat % 16 = lo := ⟨_, rfl⟩
      have hc256 := c.toNat_lt
      have hhi16 : hi < 16 := by omega
      have hlo16 : lo < 16 := by omega
      have hhs : hi < digits16.size := by rw [digits16_size]; exact hhi16
      have hls : lo < digits16.size := by rw [digits16_size]; exact hlo16
      have a1 := digit16_at hi hhi16 hhs
      have a2 := digit16_at lo hlo16 hls
      have hand := and15b c
      rw [hlo] at hand
      have hdiv : (c.toNat : Int) / 16 = (hi : Int) := by omega
      have hi3 : (hi : Int) < 16 := by omega
      have lo3 : (lo : Int) < 16 := by omega
      have hstep : hexL (l.take j) ++ [dig hi, dig lo] = hexL (l.take (j + 1)) := by
        rw [take_snoc hlc, hexL_append, ← hhi, ← hlo]; rfl
      have Hstep := Lib.hid hstep
      have hlen : (hexL (l.take j)).length + 2 ≤ 1000000 := by
        have := HN2.out
        rw [hexL_length, List.length_take]; omega
      have Hlen := Lib.hid hlen
      have Hj := Lib.hid hj; have Hm := Lib.hid hm
      clear hstep hlen hj hm hlc hhi hlo hv
      go_wp2_with fail
      go_region_law (refine step_bytes rfl (.tmp 10) (.tmp 21) rfl w wr _ _ [dig hi, dig lo] wr.heap.size 2 Hb.out rfl (by decide) Hlen.out (((Below.refl _ _).drew).alloc (Nat.le_refl _) _) (alloc_cells wr.drew [dig hi, dig lo] _ _ rfl) rfl rfl ?_; intro g2 cap2 w1 hb1; have Hb1 := Lib.hid hb1; clear hb1)
      all_goals
        go_wp2_with fail
        go_roundg (N - (j + 1))
        case measure => have := Hj.out; have := Hm.out; omega
        case rel => exact ⟨j + 1, I + 1, by have := Hj.out; have := Hm.out; omega, Lib.hid (by have := HI.out; omega), by go_num, by rw [← Hstep.out]; exact Hb1.out⟩

/-- the value of a digit, or -1 -/
def nibV (c : UInt8) : Int := Lib.indexByte [48, 49, 50, 51, 52, 53, 54, 55, 56, 57, 97, 98, 99, 100, 101, 102] c
/-- what pairs of digits say, up to the first that is none -/
def unhexL : List UInt8 → List UInt8
  | a :: b :: r => if nibV a < 0 ∨ nibV b < 0 then [] else UInt8.ofNat ((nibV a).toNat * 16 + (nibV b).toNat) :: unhexL r
  | _ => []
theorem index_lt (l : List UInt8) (c : UInt8) : Lib.indexByte l c < l.length := by
  induction l with
  | nil => simp [Lib.indexByte]
  | cons b l ih =>
    unfold Lib.indexByte
    simp only [List.length_cons]
    split
    · omega
    · split
      · omega
      · omega
theorem nibV_range (c : UInt8) : -1 ≤ nibV c ∧ nibV c < 16 := ⟨Lib.indexByte_ge _ _, by have := index_lt [48, 49, 50, 51, 52, 53, 54, 55, 56, 57, 97, 98, 99, 100, 101, 102] c; simpa [nibV] using this⟩
theorem or16 (a b : Nat) (ha : a < 16) (hb : b < 16) : bits BinOp.or .i64 ((a : Int) * 16) (b : Int) = ((a * 16 + b : Nat) : Int) := by
  have h := (bits_nat .i64 62 (by decide) (fun n h0 h1 => by rw [IntKind.wrap_i64]; omega) (a * 16) b (by omega) (by omega)).2
  have h2 : a * 16 ||| b = a * 16 + b := by
    have := Nat.shiftLeft_add_eq_or_of_lt (i := 4) (b := b) (by omega) a
    rw [Nat.shiftLeft_eq] at this
    exact this.symm
  rw [h2] at h
  rw [← h]
  congr 1
set_option maxHeartbeats 8000000 in
set_option maxRecDepth 100000 in
theorem unhex_any (w : World) (s : ByteArray) (hs : s.size ≤ 100000) :
    Calls Tryz.prog 110 #[.string s] w fun e w' => e = .returned (.string ⟨(unhexL s.data.toList).toArray⟩) ∧ Below w.heap.size w w' := by
  obtain ⟨N, hN⟩ : ∃ N, s.size = N := ⟨_, rfl⟩
  obtain ⟨l, hl⟩ : ∃ l, l = s.data.toList := ⟨_, rfl⟩
  have hlN : l.length = N := by rw [hl, ← hN, Lib.size_eq]
  rw [← hl]
  have Hl := Lib.hid hl; have HlN := Lib.hid hlN
  clear hl hlN
  have hN2 : N ≤ 100000 := by omega
  have HN2 := Lib.hid hN2
  clear hs hN2
  have hNi : (N : Int) ≤ 100000 := by have := HN2.out; omega
  go_enter Tryz.func110, Tryz.ntmps110
  go_wp2_with fail
  go_loopg [3, 4] (N + 1) (fun mm v i wr => ∃ (j : Nat) (I : Int) (acc : List UInt8), j + mm = N + 1 ∧ Hid (I = (j : Int) ∧ acc ++ unhexL (l.drop j) = unhexL l ∧ acc.length ≤ j) ∧ i = .int .i64 I ∧ Buf w wr v acc)
  case atStart => exact ⟨0, 0, [], by omega, Lib.hid ⟨rfl, rfl, Nat.le_refl _⟩, rfl, Buf.start w⟩
  case round =>
    obtain ⟨j, I, acc, hj, HI, rfl, hb⟩ := hrel
    have hI0 : 0 ≤ I := by have := HI.out.1; omega
    have hI9 : I ≤ 100001 := by have := HI.out.1; have := HN2.out; omega
    have Hb := Lib.hid hb; clear hb
    by_cases hm : N ≤ j + 1
    · have hI1 : ¬ I + 1 < (N : Int) := by have := HI.out.1; omega
      have hz : unhexL (l.drop j) = [] := by
        have hlen : (l.drop j).length ≤ 1 := by rw [List.length_drop, HlN.out]; omega
        match l.drop j, hlen with
        | [], _ => rfl
        | [_], _ => rfl
      have hall : acc = unhexL l := by rw [← HI.out.2.1, hz, List.append_nil]
      have ht := Hb.out.text
      rw [hall] at ht
      clear hm hj hz hall
      go_wp2_with fail
      go_ret
      exact ⟨rfl, Hb.out.below⟩
    · have hI1 : I + 1 < (N : Int) := by have := HI.out.1; omega
      have hIa : I < (N : Int) := by omega
      have hIj : I.toNat = j := by have := HI.out.1; omega
      have hIj2 : (I + 1).toNat = j + 1 := by have := HI.out.1; omega
      have hjs : j < s.size := by omega
      have hjs2 : j + 1 < s.size := by omega
      obtain ⟨a, ha⟩ : ∃ a, s[j] = a := ⟨_, rfl⟩
      obtain ⟨b, hb⟩ : ∃ b, s[j + 1] = b := ⟨_, rfl⟩
      have hla : l[j]? = some a := by rw [Hl.out, byte_at s j hjs, ha]
      have hlb : l[j + 1]? = some b := by rw [Hl.out, byte_at s (j + 1) hjs2, hb]
      have hdrop : l.drop j = a :: b :: l.drop (j + 2) := by
        have l1 : j < l.length := by rw [HlN.out]; omega
        have l2 : j + 1 < l.length := by rw [HlN.out]; omega
        rw [List.getElem?_eq_getElem l1] at hla
        rw [List.getElem?_eq_getElem l2] at hlb
        rw [List.drop_eq_getElem_cons l1, List.drop_eq_getElem_cons l2, Option.some.inj hla, Option.some.inj hlb]
      have hun : unhexL (l.drop j) = if nibV a < 0 ∨ nibV b < 0 then [] else UInt8.ofNat ((nibV a).toNat * 16 + (nibV b).toNat) :: unhexL (l.drop (j + 2)) := by rw [hdrop]; rfl
      have Hun := Lib.hid hun
      have ra := nibV_range a
      have rb := nibV_range b
      have Na : Hid (∀ W : World, Calls Tryz.prog 125 #[.string ⟨#[48, 49, 50, 51, 52, 53, 54, 55, 56, 57, 97, 98, 99, 100, 101, 102]⟩, .int .u8 (a.toNat : Int)] W fun e w' => e = .returned (.int .i64 (nibV a)) ∧ w' = W) := Lib.hid fun W => by
        have := Tryz.strings_IndexByte ⟨#[48, 49, 50, 51, 52, 53, 54, 55, 56, 57, 97, 98, 99, 100, 101, 102]⟩ (a.toNat : Int) W
        rwa [show ((a.toNat : Int).toNat.toUInt8) = a from by rw [Int.toNat_natCast]; exact UInt8.ofNat_toNat] at this
      have Nb : Hid (∀ W : World, Calls Tryz.prog 125 #[.string ⟨#[48, 49, 50, 51, 52, 53, 54, 55, 56, 57, 97, 98, 99, 100, 101, 102]⟩, .int .u8 (b.toNat : Int)] W fun e w' => e = .returned (.int .i64 (nibV b)) ∧ w' = W) := Lib.hid fun W => by
        have := Tryz.strings_IndexByte ⟨#[48, 49, 50, 51, 52, 53, 54, 55, 56, 57, 97, 98, 99, 100, 101, 102]⟩ (b.toNat : Int) W
        rwa [show ((b.toNat : Int).toNat.toUInt8) = b from by rw [Int.toNat_natCast]; exact UInt8.ofNat_toNat] at this
      clear hun hdrop hla hlb
      generalize nibV a = x at *
      generalize nibV b = y at *
      have Hj := Lib.hid hj; have Hm := Lib.hid hm
      have hwr : IntKind.i64.wrap (I + 1) = I + 1 := by rw [IntKind.wrap_i64]; omega
      clear hj hm
      by_cases hneg : x < 0 ∨ y < 0
      · have hall : acc = unhexL l := by rw [← HI.out.2.1, Hun.out, if_pos hneg, List.append_nil]
        have ht : ∀ q, (convert 64 9 u3).run Tryz.prog (wr.drewN q) = .ok (.string ⟨(unhexL l).toArray⟩) (wr.drewN q) := by
          intro q
          have := (Hb.out.later (below_drewN (Below.refl _ _) q)).text
          rwa [hall] at this
        clear hall
        by_cases hx : x < 0
        · clear hneg
          go_wp2_with fail
          go_quiet ((first | (go_at_call_of 125 (Value.int .u8 (a.toNat : Int)); exact Calls.quiet_of_same (Na.out _)) | (go_at_call 125; exact Calls.quiet_of_same (Nb.out _)) | (go_at_call 125; exact Calls.quiet_of_same (Na.out _))))
          go_wp2_with fail
          go_ret
          exact ⟨rfl, below_drewN Hb.out.below nq⟩
        · have hx0 : 0 ≤ x := by omega
          have hy : y < 0 := by omega
          clear hneg
          go_wp2_with fail
          go_quiet ((first | (go_at_call_of 125 (Value.int .u8 (a.toNat : Int)); exact Calls.quiet_of_same (Na.out _)) | (go_at_call 125; exact Calls.quiet_of_same (Nb.out _)) | (go_at_call 125; exact Calls.quiet_of_same (Na.out _))))
          go_wp2_with fail
          go_ret
          exact ⟨rfl, below_drewN Hb.out.below nq⟩
      · have hx0 : 0 ≤ x := by omega
        have hy0 : 0 ≤ y := by omega
        have hun2 := Hun.out
        rw [if_neg hneg] at hun2
        have hst := HI.out.2.1
        rw [hun2] at hst
        obtain ⟨p, hp⟩ : ∃ p : Nat, x = p := ⟨x.toNat, by omega⟩
        obtain ⟨q, hq⟩ : ∃ q : Nat, y = q := ⟨y.toNat, by omega⟩
        have hor := or16 p q (by omega) (by omega)
        rw [← hp, ← hq] at hor
        obtain ⟨z, hz⟩ : ∃ z : UInt8, z = UInt8.ofNat (x.toNat * 16 + y.toNat) := ⟨_, rfl⟩
        have hzn : (z.toNat : Int) = ((p * 16 + q : Nat) : Int) := by
          rw [hz, UInt8.toNat_ofNat', hp, hq, Int.toNat_natCast, Int.toNat_natCast]
          omega
        rw [← hz] at hst
        rw [← hzn] at hor
        have hz0 : 0 ≤ (z.toNat : Int) := by omega
        have hz1 : (z.toNat : Int) < 256 := by have := z.toNat_lt; omega
        have hst2 : acc ++ [z] ++ unhexL (l.drop (j + 2)) = unhexL l := by rw [List.append_assoc]; exact hst
        have Hst := Lib.hid hst2
        have hal : acc.length + 1 ≤ 1000000 := by have := HI.out.2.2; have := HN2.out; omega
        have Hal := Lib.hid hal
        clear hst hst2 hal hun2 hp hq hz hzn hneg Hun
        have hx16 := ra.2
        have hy16 := rb.2
        generalize hZ : (z.toNat : Int) = Z at *
        have HZ := Lib.hid hZ
        clear hZ
        go_wp2_with fail
        go_quiet ((first | (go_at_call_of 125 (Value.int .u8 (a.toNat : Int)); exact Calls.quiet_of_same (Na.out _)) | (go_at_call 125; exact Calls.quiet_of_same (Nb.out _)) | (go_at_call 125; exact Calls.quiet_of_same (Na.out _))))
        go_wp2_with (at_builtin; refine wpList_bytes rfl (.tmp 29) (.tmp 35) rfl w wr _ _ [z] wr.heap.size 1 Hb.out rfl (by decide) Hal.out ((below_drewN (Below.refl _ _) nq).alloc (Nat.le_refl _) _) (alloc_cells (wr.drewN nq) [z] _ _ (by simp [encB, HZ.out])) rfl rfl ?_; intro g2 cap2 w1 hb1; have Hb1 := Lib.hid hb1; clear hb1)
        go_roundg (N - (j + 1))
        case measure => have := Hj.out; have := Hm.out; omega
        case rel => exact ⟨j + 2, I + 2, acc ++ [z], by have := Hj.out; have := Hm.out; omega, Lib.hid ⟨by have := HI.out.1; omega, Hst.out, by rw [List.length_append]; have := HI.out.2.2; simp; omega⟩, by go_num, Hb1.out⟩
end Go.Proofs.YthhghlnbpigcjaaGreatDoor
namespace Go.Proofs.YthhghlnbpigcjaaGreatDoor
open Go.RowKit

abbrev tTrue : List UInt8 := [116, 114, 117, 101]
abbrev tFalse : List UInt8 := [102, 97, 108, 115, 101]
abbrev tNull : List UInt8 := [110, 117, 108, 108]
/-- the text of a value that is right -/
def printVL (v : Val) : List UInt8 :=
  if v.k = 1 then Lib.itoa v.n else if v.k = 2 then (if v.n = 1 then tTrue else tFalse) else if v.k = 3 then 120 :: hexL v.s.data.toList else if v.k = 4 then printL v.f.toNat else tNull
theorem itoaFull_any (w : World) (hl : Laid w) (n : Int) (h0 : -9223372036854775808 ≤ n) (h1 : n ≤ 9223372036854775807) : Calls Tryz.prog 65 #[.int .i64 n] w fun e w' => e = .returned (.string ⟨(Lib.itoa n).toArray⟩) ∧ Below w.heap.size w w' := by
  refine (Tryz.strconv_Itoa n h0 h1 w hl.tab).mono ?_
  rintro e w' ⟨rfl, k, os, rfl⟩
  exact ⟨rfl, grow_below w k os⟩
theorem formatBool_any (w : World) (b : Bool) : Calls Tryz.prog 66 #[.bool b] w fun e w' => e = .returned (.string ⟨(if b then tTrue else tFalse).toArray⟩) ∧ w' = w := by
  have h := Tryz.strconv_FormatBool b w
  have hf : Lib.formatBool b = if b then tTrue else tFalse := by cases b <;> rfl
  rwa [hf] at h
theorem right_s (x : Val) (h : (rightOf x).k = 3) : (rightOf x).s.size ≤ 64 := by
  unfold rightOf at *
  by_cases hr : rightB x = true
  · rw [if_pos hr] at h ⊢
    unfold rightB at hr
    rw [if_neg (by omega), if_neg (by omega), if_pos h] at hr
    simp only [Bool.and_eq_true, decide_eq_true_eq] at hr
    exact hr.2
  · rw [if_neg hr] at h
    cases h
theorem right_wf (x : Val) (h : x.Wf) : (rightOf x).Wf := by
  unfold rightOf
  split
  · exact h
  · exact ⟨by decide, by decide, by decide, by decide, by decide, by decide⟩
set_option maxHeartbeats 8000000 in
set_option maxRecDepth 100000 in
theorem printV_any (w : World) (hl : Laid w) (x : Val) (hw : x.Wf) :
    Calls Tryz.prog 43 #[x.v] w fun e w' => e = .returned (.string ⟨(printVL (rightOf x)).toArray⟩) ∧ Below w.heap.size w w' := by
  have Hl := Lib.hid hl; clear hl
  have Hr : Hid (∀ W : World, Calls Tryz.prog 64 #[x.v] W fun e w' => e = .returned (rightOf x).v ∧ Below W.heap.size W w') := Lib.hid fun W => rightof_any W x
  have hw2 := right_wf x hw
  have hs3 := right_s x
  have hat := At.new w x.k x.n x.s x.f 27
  have hbw : Below w.heap.size w (w.alloc (.cells #[.int .i64 x.k, .int .i64 x.n, .string x.s, .int .u64 x.f] 27)) := (Below.refl _ _).alloc (Nat.le_refl _) _
  generalize rightOf x = y at *
  obtain ⟨xk, xn, sx, xf⟩ := x
  obtain ⟨k, n, s, f⟩ := y
  obtain ⟨-, -, n0, n1, f0, f1⟩ := hw2
  have hp : printVL ⟨k, n, s, f⟩ = if k = 1 then Lib.itoa n else if k = 2 then (if n = 1 then tTrue else tFalse) else if k = 3 then 120 :: hexL s.data.toList else if k = 4 then printL f.toNat else tNull := rfl
  have HX := Lib.hid hp
  generalize printVL ⟨k, n, s, f⟩ = Z at *
  clear hp hw
  simp only [Val.v] at *
  have Hat := Lib.hid hat; have Hbw := Lib.hid hbw
  clear hat hbw
  go_enter Tryz.func43, Tryz.ntmps43
  go_wp2_with fail
  generalize (w.alloc _) = W0 at Hat Hbw ⊢
  generalize hA : w.heap.size = A at *
  refine (Hr.out W0).mono ?_
  rintro e w1 ⟨rfl, hb⟩
  have a1 := Hat.out.below hb Hat.out.lt
  have a2 := a1.store ⟨k, n, s, f⟩
  have b2 : Below A w (storeV w1 A ⟨k, n, s, f⟩) := below_store (Hbw.out.trans (hb.mono (Nat.le_of_lt Hat.out.lt))) (Nat.le_refl _) _
  have z0 := a1.z 0; have z1 := a1.z 1; have z2 := a1.z 2; have z3 := a1.z 3
  obtain ⟨e0, e1, e2, e3, -, -⟩ := a1
  unfold storeV at a2 b2
  have Ha2 := Lib.hid a2; have Hb2 := Lib.hid b2
  clear a2 b2 hb
  go_upto_region 2 with fail
  generalize World.setCell (World.setCell (World.setCell (World.setCell _ _ _) _ _) _ _) _ _ = W2 at Ha2 Hb2 ⊢
  clear z0 z1 z2 z3 e0 e1 e2 e3 Hat Hbw Hr
  obtain ⟨e0, e1, e2, e3, -, -⟩ := Ha2.out
  have Hb3 := Hb2
  rw [← hA] at Hb3
  have HL2 := Lib.hid (Hl.out.below Hb3.out)
  clear Hb2 Ha2 hA
  by_cases h1 : k = 1
  · subst h1
    have hx := HX.out
    rw [if_pos rfl] at hx
    have HZ := Lib.hid hx
    clear hx HX
    have Hc := Lib.hid (itoaFull_any W2 HL2.out n n0 n1)
    clear hs3 n0 n1 f0 f1
    generalize Lib.itoa n = X at *
    go_wp2_with fail
    refine Hc.out.mono ?_
    rintro e w3 ⟨rfl, hb⟩
    have hbb := Hb3.out.trans (hb.mono Hb3.out.size)
    go_wp2_with fail
    go_ret
    exact ⟨by rw [HZ.out]; rfl, hbb⟩
  have k1 : (k == 1) = false := by rw [beq_eq_false_iff_ne]; exact h1
  have hx := HX.out
  rw [if_neg h1] at hx
  by_cases h2 : k = 2
  · subst h2
    rw [if_pos rfl] at hx
    by_cases hn : n = 1
    · subst hn
      rw [if_pos rfl] at hx
      have HZ := Lib.hid hx
      clear hx HX
      have Hc := Lib.hid (formatBool_any W2 true)
      clear hs3 n0 n1 f0 f1 k1 h1
      go_wp2_with fail
      refine Hc.out.mono ?_
      rintro e w3 ⟨rfl, rfl⟩
      go_wp2_with fail
      go_ret
      exact ⟨by rw [HZ.out]; rfl, Hb3.out⟩
    · rw [if_neg hn] at hx
      have HZ := Lib.hid hx
      clear hx HX
      have hn2 : (n == 1) = false := by rw [beq_eq_false_iff_ne]; exact hn
      have Hc := Lib.hid (formatBool_any W2 false)
      clear hs3 n0 n1 f0 f1 k1 h1 hn
      go_wp2_with fail
      refine Hc.out.mono ?_
      rintro e w3 ⟨rfl, rfl⟩
      go_wp2_with fail
      go_ret
      exact ⟨by rw [HZ.out]; rfl, Hb3.out⟩
  have k2 : (k == 2) = false := by rw [beq_eq_false_iff_ne]; exact h2
  rw [if_neg h2] at hx
  by_cases h3 : k = 3
  · subst h3
    rw [if_pos rfl] at hx
    have HZ := Lib.hid hx
    clear hx HX
    have hs := hs3 rfl
    have Hc := Lib.hid (hex_any W2 s (by omega))
    have hadd := add_lists [120] (hexL s.data.toList) (by rw [hexL_length, ← Lib.size_eq]; simp; omega)
    generalize hexL s.data.toList = X at *
    clear hs3 n0 n1 f0 f1 k1 h1 k2 h2 hs
    go_wp2_with fail
    refine Hc.out.mono ?_
    rintro e w3 ⟨rfl, hb⟩
    have hbb := Hb3.out.trans (hb.mono Hb3.out.size)
    go_wp2_with fail
    go_ret
    exact ⟨by rw [HZ.out]; rfl, hbb⟩
  have k3 : (k == 3) = false := by rw [beq_eq_false_iff_ne]; exact h3
  rw [if_neg h3] at hx
  by_cases h4 : k = 4
  · subst h4
    rw [if_pos rfl] at hx
    have HZ := Lib.hid hx
    clear hx HX
    have Hc := Lib.hid (print_any W2 HL2.out f f0 f1)
    generalize printL f.toNat = X at *
    clear hs3 n0 n1 f0 f1 k1 h1 k2 h2 k3 h3
    go_wp2_with fail
    refine Hc.out.mono ?_
    rintro e w3 ⟨rfl, hb⟩
    have hbb := Hb3.out.trans (hb.mono Hb3.out.size)
    go_wp2_with fail
    go_ret
    exact ⟨by rw [HZ.out]; rfl, hbb⟩
  have k4 : (k == 4) = false := by rw [beq_eq_false_iff_ne]; exact h4
  rw [if_neg h4] at hx
  have HZ := Lib.hid hx
  clear hx HX
  clear hs3 n0 n1 f0 f1
  go_wp2_with fail
  go_ret
  exact ⟨by rw [HZ.out]; rfl, Hb3.out⟩

/-! ### a text read -/
def ErrEnds (w w' : World) (e : Ending) : Prop := ∃ (n : Int) (tp : TypeId) (p : Value), e = .returned (.tuple #[.int .i64 n, .iface tp p]) ∧ Below w.heap.size w w'
theorem atoi_some (w : World) (s : ByteArray) (hs : s.size ≤ 281474976710656) (v : Int) (h : Lib.atoiAll s.data.toList = .ok v) :
    Calls Tryz.prog 112 #[.string s] w fun e w' => e = .returned (.tuple #[.int .i64 v, .nilIface]) ∧ Below w.heap.size w w' := by
  refine (Tryz.strconv_Atoi_ok s (by omega) v h w).mono ?_
  rintro e w' ⟨rfl, rfl | ⟨t, rfl⟩⟩
  · exact ⟨rfl, Below.refl _ _⟩
  · exact ⟨rfl, Lib.bytesWorld_below w 5 t⟩
theorem atoi_none (w : World) (hl : Laid w) (s : ByteArray) (hs : s.size ≤ 281474976710656) (h : ∀ v, Lib.atoiAll s.data.toList ≠ .ok v) :
    Calls Tryz.prog 112 #[.string s] w fun e w' => ErrEnds w w' e := by
  cases hh : Lib.atoiAll s.data.toList with
  | ok v => exact absurd hh (h v)
  | range =>
    obtain ⟨ev, hev, hev2⟩ := er_cell hl
    refine (Tryz.strconv_Atoi_range s hs hh ev w hev hev2).mono ?_
    rintro e w2 ⟨N, rfl, _, _, hb⟩
    exact ⟨_, _, _, rfl, hb⟩
  | _ =>
    obtain ⟨ev, hev, hev2⟩ := es_cell hl
    refine (Any.strconv_Atoi_syntax Tryz.laysC172 s hs hh ev w hev hev2).mono ?_
    rintro e w2 ⟨N, rfl, _, _, hb⟩
    exact ⟨_, _, _, rfl, hb⟩
def atoiO (l : List UInt8) : Option Int := match Lib.atoiAll l with
  | .ok v => some v
  | _ => none
theorem atoiO_some {l : List UInt8} {v : Int} (h : atoiO l = some v) : Lib.atoiAll l = .ok v := by
  unfold atoiO at h
  split at h
  · rename_i u hu
    injection h with h
    rw [hu, h]
  · cases h
theorem atoiO_none {l : List UInt8} (h : atoiO l = none) : ∀ v, Lib.atoiAll l ≠ .ok v := by
  intro v hv
  unfold atoiO at h
  rw [hv] at h
  cases h
/-- the value that a text may be -/
def candVal (l : List UInt8) : Val :=
  if l = tFalse then ⟨2, 0, ⟨#[]⟩, 0⟩ else if l = tTrue then ⟨2, 1, ⟨#[]⟩, 0⟩ else if Lib.hasPrefix l [120] then ⟨3, 0, ⟨(unhexL (Lib.trimPrefix l [120])).toArray⟩, 0⟩
  else if parseOk l then ⟨4, 0, ⟨#[]⟩, parseV l⟩ else match atoiO l with
    | some v => ⟨1, v, ⟨#[]⟩, 0⟩
    | none => zeroVal
end Go.Proofs.YthhghlnbpigcjaaGreatDoor
namespace Go.Proofs.YthhghlnbpigcjaaGreatDoor
open Go.RowKit

theorem candVal_eq (l : List UInt8) : candVal l = if l = tFalse then ⟨2, 0, ⟨#[]⟩, 0⟩ else if l = tTrue then ⟨2, 1, ⟨#[]⟩, 0⟩ else if Lib.hasPrefix l [120] then ⟨3, 0, ⟨(unhexL (Lib.trimPrefix l [120])).toArray⟩, 0⟩
  else if parseOk l then ⟨4, 0, ⟨#[]⟩, parseV l⟩ else match atoiO l with
    | some v => ⟨1, v, ⟨#[]⟩, 0⟩
    | none => zeroVal := rfl
set_option maxHeartbeats 8000000 in
set_option maxRecDepth 100000 in
theorem candV_any (w : World) (hl : Laid w) (s : ByteArray) (hs : s.size ≤ 100000) :
    Calls Tryz.prog 97 #[.string s] w fun e w' => e = .returned (candVal s.data.toList).v ∧ Below w.heap.size w w' := by
  have hc := candVal_eq s.data.toList
  have hat := At.new w 0 0 ⟨#[]⟩ 0 27
  have hbw : Below w.heap.size w (w.alloc (.cells #[.int .i64 0, .int .i64 0, .string ⟨#[]⟩, .int .u64 0] 27)) := (Below.refl _ _).alloc (Nat.le_refl _) _
  have Hl := Lib.hid hl; have Hat := Lib.hid hat; have Hbw := Lib.hid hbw
  clear hl hat hbw
  by_cases k1 : s.data.toList = tFalse
  · rw [if_pos k1] at hc
    have Hc := Lib.hid (show (candVal s.data.toList).v = _ from congrArg Val.v hc)
    simp only [Val.v] at Hc ⊢
    generalize candVal s.data.toList = C at *
    obtain rfl := bytes_eq k1
    clear hc hs 
    go_enter Tryz.func97, Tryz.ntmps97
    go_upto_region 1 with fail
    generalize (w.alloc _) = W0 at Hat Hbw ⊢
    have at1 := Hat.out
    have z0 := at1.z 0; have z1 := at1.z 1; have z2 := at1.z 2; have z3 := at1.z 3
    obtain ⟨d0, d1, d2, d3, -, -⟩ := at1
    go_wp2_with fail
    exact bodyPost_ret (v := .agg #[.int .i64 2, .int .i64 0, .string ⟨#[]⟩, .int .u64 0]) (by simp [results, Tryz.results97, go_sem, d0, d1, d2, d3]) rfl ⟨by rw [Hc.out], ((((Hbw.out).setCell (Nat.le_refl _) _).setCell (Nat.le_refl _) _).setCell (Nat.le_refl _) _).setCell (Nat.le_refl _) _⟩
  rw [if_neg k1] at hc
  have b1 := bytes_ne k1
  by_cases k2 : s.data.toList = tTrue
  · rw [if_pos k2] at hc
    have Hc := Lib.hid (show (candVal s.data.toList).v = _ from congrArg Val.v hc)
    simp only [Val.v] at Hc ⊢
    generalize candVal s.data.toList = C at *
    obtain rfl := bytes_eq k2
    clear hc hs k1 b1
    go_enter Tryz.func97, Tryz.ntmps97
    go_upto_region 1 with fail
    generalize (w.alloc _) = W0 at Hat Hbw ⊢
    have at1 := Hat.out
    have z0 := at1.z 0; have z1 := at1.z 1; have z2 := at1.z 2; have z3 := at1.z 3
    obtain ⟨d0, d1, d2, d3, -, -⟩ := at1
    go_wp2_with fail
    exact bodyPost_ret (v := .agg #[.int .i64 2, .int .i64 1, .string ⟨#[]⟩, .int .u64 0]) (by simp [results, Tryz.results97, go_sem, d0, d1, d2, d3]) rfl ⟨by rw [Hc.out], ((((Hbw.out).setCell (Nat.le_refl _) _).setCell (Nat.le_refl _) _).setCell (Nat.le_refl _) _).setCell (Nat.le_refl _) _⟩
  rw [if_neg k2] at hc
  have b2 := bytes_ne k2
  have hcp := Tryz.strings_CutPrefix s ⟨#[120]⟩
  have Hcp : Hid (∀ W : World, Calls Tryz.prog 109 #[.string s, .string ⟨#[120]⟩] W fun e w' => e = .returned (.tuple #[.string ⟨(Lib.trimPrefix s.data.toList [120]).toArray⟩, .bool (Lib.hasPrefix s.data.toList [120])]) ∧ w' = W) := Lib.hid fun W => hcp W
  clear hcp
  cases hp : Lib.hasPrefix s.data.toList [120] with
  | true =>
    rw [if_pos hp] at hc
    rw [hp] at Hcp
    have hsz : (Lib.trimPrefix s.data.toList [120]).length ≤ 100000 := by
      have hl := Lib.size_eq s
      unfold Lib.trimPrefix
      rw [if_pos hp, List.length_drop]
      omega
    have Hu : Hid (∀ W : World, Calls Tryz.prog 110 #[.string ⟨(Lib.trimPrefix s.data.toList [120]).toArray⟩] W fun e w' => e = .returned (.string ⟨(unhexL (Lib.trimPrefix s.data.toList [120])).toArray⟩) ∧ Below W.heap.size W w') := Lib.hid fun W => unhex_any W ⟨(Lib.trimPrefix s.data.toList [120]).toArray⟩ (by simpa [ByteArray.size] using hsz)
    have Hc := Lib.hid (show (candVal s.data.toList).v = _ from congrArg Val.v hc)
    simp only [Val.v] at Hc ⊢
    generalize candVal s.data.toList = C at *
    generalize (⟨(unhexL (Lib.trimPrefix s.data.toList [120])).toArray⟩ : ByteArray) = U at *
    generalize (⟨(Lib.trimPrefix s.data.toList [120]).toArray⟩ : ByteArray) = T at *
    clear hc hs k1 k2 hp hsz
    go_enter Tryz.func97, Tryz.ntmps97
    go_upto_region 1 with fail
    generalize (w.alloc _) = W0 at Hat Hbw ⊢
    go_wp2_with fail
    refine (Hcp.out W0).mono ?_
    rintro e w1 ⟨rfl, rfl⟩
    go_wp2_with fail
    refine (Hu.out w1).mono ?_
    rintro e w2 ⟨rfl, hb⟩
    have Hb2 := Lib.hid (Hbw.out.trans (hb.mono Hbw.out.size))
    have at1 := Hat.out.below hb Hat.out.lt
    have z0 := at1.z 0; have z1 := at1.z 1; have z2 := at1.z 2; have z3 := at1.z 3
    obtain ⟨d0, d1, d2, d3, -, -⟩ := at1
    go_wp2_with fail
    exact bodyPost_ret (v := .agg #[.int .i64 3, .int .i64 0, .string U, .int .u64 0]) (by simp [results, Tryz.results97, go_sem, d0, d1, d2, d3]) rfl ⟨by rw [Hc.out], ((((Hb2.out).setCell (Nat.le_refl _) _).setCell (Nat.le_refl _) _).setCell (Nat.le_refl _) _).setCell (Nat.le_refl _) _⟩
  | false =>
    rw [if_neg (by simp [hp])] at hc
    rw [hp] at Hcp
    generalize (⟨(Lib.trimPrefix s.data.toList [120]).toArray⟩ : ByteArray) = T at *
    have Hp : Hid (∀ W : World, Laid W → Calls Tryz.prog 111 #[.string s] W fun e w' => e = .returned (.tuple #[.int .u64 (parseV s.data.toList), .bool (parseOk s.data.toList)]) ∧ Below W.heap.size W w') := Lib.hid fun W h => parse_any W h s (by omega)
    cases hok : parseOk s.data.toList with
    | true =>
      rw [if_pos hok] at hc
      rw [hok] at Hp
      have Hc := Lib.hid (show (candVal s.data.toList).v = _ from congrArg Val.v hc)
      simp only [Val.v] at Hc ⊢
      generalize candVal s.data.toList = C at *
      generalize parseV s.data.toList = F at *
      clear hc hs k1 k2 hp hok
      go_enter Tryz.func97, Tryz.ntmps97
      go_upto_region 1 with fail
      generalize (w.alloc _) = W0 at Hat Hbw ⊢
      go_wp2_with fail
      refine (Hcp.out W0).mono ?_
      rintro e w1 ⟨rfl, rfl⟩
      go_wp2_with fail
      refine (Hp.out w1 (Hl.out.below Hbw.out)).mono ?_
      rintro e w2 ⟨rfl, hb⟩
      have Hb2 := Lib.hid (Hbw.out.trans (hb.mono Hbw.out.size))
      have at1 := Hat.out.below hb Hat.out.lt
      have z0 := at1.z 0; have z1 := at1.z 1; have z2 := at1.z 2; have z3 := at1.z 3
      obtain ⟨d0, d1, d2, d3, -, -⟩ := at1
      go_wp2_with fail
      exact bodyPost_ret (v := .agg #[.int .i64 4, .int .i64 0, .string ⟨#[]⟩, .int .u64 F]) (by simp [results, Tryz.results97, go_sem, d0, d1, d2, d3]) rfl ⟨by rw [Hc.out], ((((Hb2.out).setCell (Nat.le_refl _) _).setCell (Nat.le_refl _) _).setCell (Nat.le_refl _) _).setCell (Nat.le_refl _) _⟩
    | false =>
      rw [if_neg (by simp [hok])] at hc
      rw [hok] at Hp
      generalize parseV s.data.toList = F at *
      cases ha : atoiO s.data.toList with
      | some v =>
        rw [ha] at hc
        have Ha : Hid (∀ W : World, Calls Tryz.prog 112 #[.string s] W fun e w' => e = .returned (.tuple #[.int .i64 v, .nilIface]) ∧ Below W.heap.size W w') := Lib.hid fun W => atoi_some W s (by omega) v (atoiO_some ha)
        have Hc := Lib.hid (show (candVal s.data.toList).v = _ from congrArg Val.v hc)
        simp only [Val.v] at Hc ⊢
        generalize candVal s.data.toList = C at *
        clear hc hs k1 k2 hp hok ha
        go_enter Tryz.func97, Tryz.ntmps97
        go_upto_region 1 with fail
        generalize (w.alloc _) = W0 at Hat Hbw ⊢
        go_wp2_with fail
        refine (Hcp.out W0).mono ?_
        rintro e w1 ⟨rfl, rfl⟩
        go_wp2_with fail
        refine (Hp.out w1 (Hl.out.below Hbw.out)).mono ?_
        rintro e w2 ⟨rfl, hb⟩
        have Hb2 := Lib.hid (Hbw.out.trans (hb.mono Hbw.out.size))
        have Hat2 := Lib.hid (Hat.out.below hb Hat.out.lt)
        clear hb
        go_wp2_with fail
        refine (Ha.out w2).mono ?_
        rintro e w3 ⟨rfl, hb⟩
        have Hb3 := Lib.hid (Hb2.out.trans (hb.mono Hb2.out.size))
        have at1 := Hat2.out.below hb Hat2.out.lt
        have z0 := at1.z 0; have z1 := at1.z 1; have z2 := at1.z 2; have z3 := at1.z 3
        obtain ⟨d0, d1, d2, d3, -, -⟩ := at1
        go_wp2_with fail
        exact bodyPost_ret (v := .agg #[.int .i64 1, .int .i64 v, .string ⟨#[]⟩, .int .u64 0]) (by simp [results, Tryz.results97, go_sem, d0, d1, d2, d3]) rfl ⟨by rw [Hc.out], ((((Hb3.out).setCell (Nat.le_refl _) _).setCell (Nat.le_refl _) _).setCell (Nat.le_refl _) _).setCell (Nat.le_refl _) _⟩
      | none =>
        rw [ha] at hc
        have Ha : Hid (∀ W : World, Laid W → Calls Tryz.prog 112 #[.string s] W fun e w' => ErrEnds W w' e) := Lib.hid fun W h => atoi_none W h s (by omega) (atoiO_none ha)
        have Hc := Lib.hid (show (candVal s.data.toList).v = _ from congrArg Val.v hc)
        simp only [Val.v, zeroVal] at Hc ⊢
        generalize candVal s.data.toList = C at *
        clear hc hs k1 k2 hp hok ha
        go_enter Tryz.func97, Tryz.ntmps97
        go_upto_region 1 with fail
        generalize (w.alloc _) = W0 at Hat Hbw ⊢
        go_wp2_with fail
        refine (Hcp.out W0).mono ?_
        rintro e w1 ⟨rfl, rfl⟩
        go_wp2_with fail
        refine (Hp.out w1 (Hl.out.below Hbw.out)).mono ?_
        rintro e w2 ⟨rfl, hb⟩
        have Hb2 := Lib.hid (Hbw.out.trans (hb.mono Hbw.out.size))
        have Hat2 := Lib.hid (Hat.out.below hb Hat.out.lt)
        clear hb
        go_wp2_with fail
        refine (Ha.out w2 (Hl.out.below Hb2.out)).mono ?_
        rintro e w3 ⟨n9, tp9, p9, rfl, hb⟩
        have Hb3 := Lib.hid (Hb2.out.trans (hb.mono Hb2.out.size))
        have at1 := Hat2.out.below hb Hat2.out.lt
        have z0 := at1.z 0; have z1 := at1.z 1; have z2 := at1.z 2; have z3 := at1.z 3
        obtain ⟨d0, d1, d2, d3, -, -⟩ := at1
        go_wp2_with fail
        exact bodyPost_ret (v := .agg #[.int .i64 0, .int .i64 0, .string ⟨#[]⟩, .int .u64 0]) (by simp [results, Tryz.results97, go_sem, d0, d1, d2, d3]) rfl ⟨by rw [Hc.out], ((((Hb3.out).setCell (Nat.le_refl _) _).setCell (Nat.le_refl _) _).setCell (Nat.le_refl _) _).setCell (Nat.le_refl _) _⟩
end Go.Proofs.YthhghlnbpigcjaaGreatDoor
namespace Go.Proofs.YthhghlnbpigcjaaGreatDoor
open Go.RowKit

theorem parseV_range (l : List UInt8) : 0 ≤ parseV l ∧ parseV l < 18446744073709551616 := by
  unfold parseV
  split
  · exact candV_range l
  · omega
theorem wf_small (k n : Int) (s : ByteArray) (f : Int) (h1 : 0 ≤ k) (h2 : k ≤ 4) (h3 : -9223372036854775808 ≤ n) (h4 : n ≤ 9223372036854775807) (h5 : 0 ≤ f) (h6 : f < 18446744073709551616) : (Val.mk k n s f).Wf :=
  ⟨by show -9223372036854775808 ≤ k; omega, by show k ≤ 9223372036854775807; omega, h3, h4, h5, h6⟩
theorem candVal_wf (l : List UInt8) : (candVal l).Wf := by
  unfold candVal
  split
  · exact wf_small _ _ _ _ (by omega) (by omega) (by omega) (by omega) (by omega) (by omega)
  · split
    · exact wf_small _ _ _ _ (by omega) (by omega) (by omega) (by omega) (by omega) (by omega)
    · split
      · exact wf_small _ _ _ _ (by omega) (by omega) (by omega) (by omega) (by omega) (by omega)
      · split
        · have := parseV_range l
          exact wf_small _ _ _ _ (by omega) (by omega) (by omega) (by omega) this.1 this.2
        · split
          · rename_i v hv
            have := Lib.atoiAll_bounds (atoiO_some hv)
            exact wf_small _ _ _ _ (by omega) (by omega) this.1 this.2 (by omega) (by omega)
          · exact wf_small _ _ _ _ (by omega) (by omega) (by omega) (by omega) (by omega) (by omega)
def okV (l : List UInt8) : Bool := printVL (rightOf (candVal l)) == l
def parseVal (l : List UInt8) : Val := if okV l then candVal l else zeroVal
set_option maxHeartbeats 8000000 in
set_option maxRecDepth 100000 in
theorem parseV_any (w : World) (hl : Laid w) (s : ByteArray) (hs : s.size ≤ 100000) :
    Calls Tryz.prog 76 #[.string s] w fun e w' => e = .returned (.tuple #[(parseVal s.data.toList).v, .bool (okV s.data.toList)]) ∧ Below w.heap.size w w' := by
  have hat := At.new w 0 0 ⟨#[]⟩ 0 27
  have hbw : Below w.heap.size w (w.alloc (.cells #[.int .i64 0, .int .i64 0, .string ⟨#[]⟩, .int .u64 0] 27)) := (Below.refl _ _).alloc (Nat.le_refl _) _
  have Hl := Lib.hid hl; have Hat := Lib.hid hat; have Hbw := Lib.hid hbw
  have Hcand : Hid (∀ W : World, Laid W → Calls Tryz.prog 97 #[.string s] W fun e w' => e = .returned (candVal s.data.toList).v ∧ Below W.heap.size W w') := Lib.hid fun W h => candV_any W h s hs
  have hwf := candVal_wf s.data.toList
  have Hpr : Hid (∀ W : World, Laid W → Calls Tryz.prog 43 #[(candVal s.data.toList).v] W fun e w' => e = .returned (.string ⟨(printVL (rightOf (candVal s.data.toList))).toArray⟩) ∧ Below W.heap.size W w') := Lib.hid fun W h => printV_any W h _ hwf
  have hok : okV s.data.toList = ((⟨(printVL (rightOf (candVal s.data.toList))).toArray⟩ : ByteArray).toList == s.toList) := by
    unfold okV
    rw [mk_toList, ByteArray.toList_eq]
  have hpv : parseVal s.data.toList = if okV s.data.toList then candVal s.data.toList else zeroVal := rfl
  generalize (⟨(printVL (rightOf (candVal s.data.toList))).toArray⟩ : ByteArray) = X at *
  clear hl hat hbw hwf
  generalize candVal s.data.toList = c at *
  obtain ⟨ck, cn, cs, cf⟩ := c
  have hok2 := hok
  have hpv2 := hpv
  have Hok := Lib.hid hok; have Hpv := Lib.hid hpv
  clear hok hpv hok2 hpv2
  generalize okV s.data.toList = ok at *
  generalize parseVal s.data.toList = pv at *
  simp only [Val.v] at Hcand Hpr
  cases hx : (X.toList == s.toList) with
  | true =>
    have hx2 : (X.toList != s.toList) = false := by unfold bne; rw [hx]; rfl
    have Hok2 : Hid (ok = true) := Lib.hid (by rw [Hok.out, hx])
    have Hpv2 : Hid (pv = ⟨ck, cn, cs, cf⟩) := Lib.hid (by rw [Hpv.out, Hok2.out]; rfl)
    clear hs
    go_enter Tryz.func76, Tryz.ntmps76
    go_upto_region 1 with fail
    generalize (w.alloc _) = W0 at Hat Hbw ⊢
    go_wp2_with fail
    refine (Hcand.out W0 (Hl.out.below Hbw.out)).mono ?_
    rintro e w1 ⟨rfl, hb⟩
    have Hb1 := Lib.hid (Hbw.out.trans (hb.mono Hbw.out.size))
    have Hat1 := Lib.hid (Hat.out.below hb Hat.out.lt)
    have hst := At.new w1 ck cn cs cf 27
    have Hst := Lib.hid hst
    have hb2 : Below w.heap.size w (w1.alloc (.cells #[.int .i64 ck, .int .i64 cn, .string cs, .int .u64 cf] 27)) := Hb1.out.alloc Hb1.out.size _
    have hat2 : At (w1.alloc (.cells #[.int .i64 ck, .int .i64 cn, .string cs, .int .u64 cf] 27)) w.heap.size 0 0 ⟨#[]⟩ 0 := Hat1.out.alloc _
    have Hb2 := Lib.hid hb2; have Hat2 := Lib.hid hat2
    clear hb hst hb2 hat2
    go_upto_region 2 with fail
    generalize (w1.alloc _) = W2 at Hst Hb2 Hat2 ⊢
    obtain ⟨c0, c1, c2, c3, -, -⟩ := Hst.out
    go_wp2_with fail
    refine (Hpr.out W2 (Hl.out.below Hb2.out)).mono ?_
    rintro e w3 ⟨rfl, hb⟩
    have Hb3 := Lib.hid (Hb2.out.trans (hb.mono Hb2.out.size))
    have at1 := Hat2.out.below hb Hat2.out.lt
    have ct1 := Hst.out.below hb Hst.out.lt
    have z0 := at1.z 0; have z1 := at1.z 1; have z2 := at1.z 2; have z3 := at1.z 3
    obtain ⟨d0, d1, d2, d3, -, -⟩ := at1
    clear c0 c1 c2 c3
    obtain ⟨c0, c1, c2, c3, -, -⟩ := ct1
    clear hb
    go_wp2_with fail
    exact bodyPost_ret (v := .tuple #[.agg #[.int .i64 ck, .int .i64 cn, .string cs, .int .u64 cf], .bool true]) (by simp [results, Tryz.results76, go_sem, d0, d1, d2, d3]) rfl ⟨by rw [Hpv2.out, Hok2.out], ((((Hb3.out).setCell (Nat.le_refl _) _).setCell (Nat.le_refl _) _).setCell (Nat.le_refl _) _).setCell (Nat.le_refl _) _⟩
  | false =>
    have hx2 : (X.toList != s.toList) = true := by unfold bne; rw [hx]; rfl
    have Hok2 : Hid (ok = false) := Lib.hid (by rw [Hok.out, hx])
    have Hpv2 : Hid (pv = zeroVal) := Lib.hid (by rw [Hpv.out, Hok2.out]; rfl)
    clear hs
    go_enter Tryz.func76, Tryz.ntmps76
    go_upto_region 1 with fail
    generalize (w.alloc _) = W0 at Hat Hbw ⊢
    go_wp2_with fail
    refine (Hcand.out W0 (Hl.out.below Hbw.out)).mono ?_
    rintro e w1 ⟨rfl, hb⟩
    have Hb1 := Lib.hid (Hbw.out.trans (hb.mono Hbw.out.size))
    have Hat1 := Lib.hid (Hat.out.below hb Hat.out.lt)
    have hst := At.new w1 ck cn cs cf 27
    have Hst := Lib.hid hst
    have hb2 : Below w.heap.size w (w1.alloc (.cells #[.int .i64 ck, .int .i64 cn, .string cs, .int .u64 cf] 27)) := Hb1.out.alloc Hb1.out.size _
    have hat2 : At (w1.alloc (.cells #[.int .i64 ck, .int .i64 cn, .string cs, .int .u64 cf] 27)) w.heap.size 0 0 ⟨#[]⟩ 0 := Hat1.out.alloc _
    have Hb2 := Lib.hid hb2; have Hat2 := Lib.hid hat2
    clear hb hst hb2 hat2
    go_upto_region 2 with fail
    generalize (w1.alloc _) = W2 at Hst Hb2 Hat2 ⊢
    obtain ⟨c0, c1, c2, c3, -, -⟩ := Hst.out
    go_wp2_with fail
    refine (Hpr.out W2 (Hl.out.below Hb2.out)).mono ?_
    rintro e w3 ⟨rfl, hb⟩
    have Hb3 := Lib.hid (Hb2.out.trans (hb.mono Hb2.out.size))
    have at1 := Hat2.out.below hb Hat2.out.lt
    have ct1 := Hst.out.below hb Hst.out.lt
    have z0 := at1.z 0; have z1 := at1.z 1; have z2 := at1.z 2; have z3 := at1.z 3
    obtain ⟨d0, d1, d2, d3, -, -⟩ := at1
    clear c0 c1 c2 c3
    obtain ⟨c0, c1, c2, c3, -, -⟩ := ct1
    clear hb
    go_wp2_with fail
    exact bodyPost_ret (v := .tuple #[.agg #[.int .i64 0, .int .i64 0, .string ⟨#[]⟩, .int .u64 0], .bool false]) (by simp [results, Tryz.results76, go_sem, d0, d1, d2, d3]) rfl ⟨by rw [Hpv2.out, Hok2.out]; rfl, ((((Hb3.out).setCell (Nat.le_refl _) _).setCell (Nat.le_refl _) _).setCell (Nat.le_refl _) _).setCell (Nat.le_refl _) _⟩
end Go.Proofs.YthhghlnbpigcjaaGreatDoor
namespace Go.Proofs.YthhghlnbpigcjaaGreatDoor
open Go.RowKit

end Go.Proofs.YthhghlnbpigcjaaGreatDoor
namespace Go.Proofs.YthhghlnbpigcjaaGreatDoor
open Go.RowKit

/-- a mask lies in a block of its own -/
structure MAt (w : World) (b : Nat) (mk mn : Int) : Prop where
  c0 : w.cell? ⟨b, 0, none⟩ = some (.int .i64 mk)
  c1 : w.cell? ⟨b, 1, none⟩ = some (.int .i64 mn)
  lt : b < w.heap.size
theorem MAt.below {w w' : World} {b B : Nat} {mk mn : Int} (h : MAt w b mk mn) (hb : Below B w w') (hB : b < B) : MAt w' b mk mn :=
  ⟨(hb.cell hB).trans h.c0, (hb.cell hB).trans h.c1, Nat.lt_of_lt_of_le h.lt hb.size⟩
theorem MAt.other {W : World} {b c : Nat} {mk mn : Int} (h : MAt W c mk mn) (hbc : b ≠ c) (x : Val) : MAt (storeV W b x) c mk mn := by
  obtain ⟨h0, h1, hl⟩ := h
  have ne : ∀ i j : Nat, (⟨b, i, none⟩ : Addr) ≠ ⟨c, j, none⟩ := fun i j h => by injection h with h _; exact hbc h
  refine ⟨?_, ?_, ?_⟩
  · exact cell_off (cell_off (cell_off (cell_off h0 (ne _ _)) (ne _ _)) (ne _ _)) (ne _ _)
  · exact cell_off (cell_off (cell_off (cell_off h1 (ne _ _)) (ne _ _)) (ne _ _)) (ne _ _)
  · simpa [storeV, World.setCell] using hl
structure Tri (w W : World) (A : Nat) (a : Val) (mk mn : Int) : Prop where
  one : At W A a.k a.n a.s a.f
  two : MAt W (A + 1) mk mn
  thr : At W (A + 1 + 1) 0 0 ⟨#[]⟩ 0
  bel : Below A w W
theorem Tri.below {w W W' : World} {A : Nat} {a : Val} {mk mn : Int} (h : Tri w W A a mk mn) (hb : Below W.heap.size W W') : Tri w W' A a mk mn :=
  ⟨h.one.below hb h.one.lt, h.two.below hb h.two.lt, h.thr.below hb h.thr.lt, h.bel.trans (hb.mono (Nat.le_of_lt h.one.lt))⟩
theorem Tri.store {w W : World} {A : Nat} {a : Val} {mk mn : Int} (h : Tri w W A a mk mn) (x : Val) : Tri w (storeV W A x) A x mk mn :=
  ⟨h.one.store x, h.two.other (by omega) x, h.thr.other (by omega) x, below_store h.bel (Nat.le_refl _) x⟩
end Go.Proofs.YthhghlnbpigcjaaGreatDoor
namespace Go.Proofs.YthhghlnbpigcjaaGreatDoor
open Go.RowKit

end Go.Proofs.YthhghlnbpigcjaaGreatDoor
namespace Go.Proofs.YthhghlnbpigcjaaGreatDoor
open Go.RowKit

theorem below_box (w : World) (o : Obj) (q : Nat) : Below w.heap.size w ((w.alloc o).drewN q) := below_drewN ((Below.refl _ _).alloc (Nat.le_refl _) _) q
set_option maxHeartbeats 8000000 in
set_option maxRecDepth 100000 in
theorem rightR_any (w : World) (x : Val) (f0 : 0 ≤ x.f) (f1 : x.f < 18446744073709551616) :
    Calls Tryz.prog 31 #[x.v] w fun e w' => e = .returned (.bool (rightB x)) ∧ Below w.heap.size w w' := by
  obtain ⟨k, n, s, f⟩ := x
  have g0 : 0 ≤ f := f0
  have g1 : f < 18446744073709551616 := f1
  have Hc : Hid (∀ W : World, Calls Tryz.prog 45 #[.int .u64 f] W fun e w' => e = .returned (.int .u64 (canonF f)) ∧ W = w') := Lib.hid fun W => canonR_any W f g0 g1
  simp only [Val.v]
  clear f0 f1 g0 g1
  by_cases h1 : k = 1
  · subst h1
    have hb : rightB ⟨1, n, s, f⟩ = (decide (s.toList = []) && decide (f = 0)) := by simp [rightB]
    rw [hb]
    clear hb Hc
    go_enter Tryz.func31, Tryz.ntmps31
    go_wp2_with fail
    go_quiet (fail)
    go_wp2_with fail
    all_goals
      go_ret
      exact ⟨by rcases Decidable.em (f = 0) with g | g <;> rcases Decidable.em (n = 0) with g' | g' <;> rcases Decidable.em (n = 1) with g2 | g2 <;> simp_all, below_box _ _ _⟩
  by_cases h2 : k = 2
  · subst h2
    have hb : rightB ⟨2, n, s, f⟩ = (decide (s.toList = []) && decide (f = 0) && decide (n = 0 ∨ n = 1)) := by simp [rightB]
    rw [hb]
    clear hb Hc
    go_enter Tryz.func31, Tryz.ntmps31
    go_wp2_with fail
    go_quiet (fail)
    go_wp2_with fail
    all_goals
      go_ret
      exact ⟨by rcases Decidable.em (f = 0) with g | g <;> rcases Decidable.em (n = 0) with g' | g' <;> rcases Decidable.em (n = 1) with g2 | g2 <;> simp_all, below_box _ _ _⟩
  by_cases h3 : k = 3
  · subst h3
    have hb : rightB ⟨3, n, s, f⟩ = (decide (n = 0) && decide (f = 0) && decide (s.size ≤ 64)) := by simp [rightB]
    rw [hb]
    clear hb Hc
    by_cases hs : s.size ≤ 64
    · have hsi : (s.size : Int) ≤ 64 := by omega
      rw [decide_eq_true hs]
      go_enter Tryz.func31, Tryz.ntmps31
      go_wp2_with fail
      go_quiet (fail)
      go_wp2_with fail
      all_goals
        go_ret
        exact ⟨by rcases Decidable.em (f = 0) with g | g <;> rcases Decidable.em (n = 0) with g' | g' <;> rcases Decidable.em (n = 1) with g2 | g2 <;> simp_all, below_box _ _ _⟩
    · have hsi : ¬ (s.size : Int) ≤ 64 := by omega
      rw [decide_eq_false hs]
      go_enter Tryz.func31, Tryz.ntmps31
      go_wp2_with fail
      go_quiet (fail)
      go_wp2_with fail
      all_goals
        go_ret
        exact ⟨by rcases Decidable.em (f = 0) with g | g <;> rcases Decidable.em (n = 0) with g' | g' <;> rcases Decidable.em (n = 1) with g2 | g2 <;> simp_all, below_box _ _ _⟩
  by_cases h4 : k = 4
  · subst h4
    have hb : rightB ⟨4, n, s, f⟩ = (decide (n = 0) && decide (s.toList = []) && decide (canonF f = f)) := by simp [rightB]
    rw [hb]
    clear hb
    generalize canonF f = c at *
    by_cases hn : n = 0
    · have n1 : (n != 0) = false := by rw [hn]; rfl
      have HN := Lib.hid hn
      rw [decide_eq_true hn]
      clear hn
      by_cases hs : s.toList = []
      · have s1 : (s.toList != []) = false := by rw [hs]; rfl
        rw [decide_eq_true hs]
        have HS := Lib.hid hs
        have hs3 : s.toList.isEmpty = true := by rw [hs]; rfl
        go_enter Tryz.func31, Tryz.ntmps31
        go_wp2_with fail
        go_quiet (fail)
        have hat := (At.new w 4 n s f 27).below (below_drewN (Below.refl _ _) nq) (At.new w 4 n s f 27).lt
        have hbx := below_box w (.cells #[.int .i64 4, .int .i64 n, .string s, .int .u64 f] 27) nq
        have Hbx := Lib.hid hbx
        clear hbx
        go_wp2_with fail
        generalize World.drewN (World.alloc w _) nq = W1 at hat Hbx ⊢
        obtain ⟨c0, c1, c2, c3, -, -⟩ := hat
        go_quiet ((go_at_call 45; exact Calls.quiet_of_same ((Hc.out _).mono fun e w1 h => ⟨h.1, h.2.symm⟩)))
        go_wp2_with fail
        go_ret
        exact ⟨by simp_all <;> rfl, below_drewN Hbx.out _⟩
      · have s1 : (s.toList != []) = true := by rw [bne_iff_ne]; exact hs
        rw [decide_eq_false hs]
        have hs3 : s.toList.isEmpty = false := by simpa using hs
        go_enter Tryz.func31, Tryz.ntmps31
        go_wp2_with fail
        go_quiet (fail)
        have hat := (At.new w 4 n s f 27).below (below_drewN (Below.refl _ _) nq) (At.new w 4 n s f 27).lt
        have hbx := below_box w (.cells #[.int .i64 4, .int .i64 n, .string s, .int .u64 f] 27) nq
        have Hbx := Lib.hid hbx
        clear hbx
        go_wp2_with fail
        generalize World.drewN (World.alloc w _) nq = W1 at hat Hbx ⊢
        obtain ⟨c0, c1, c2, c3, -, -⟩ := hat
        go_quiet ((go_at_call 45; exact Calls.quiet_of_same ((Hc.out _).mono fun e w1 h => ⟨h.1, h.2.symm⟩)))
        go_wp2_with fail
        go_ret
        exact ⟨by simp_all <;> rfl, below_drewN Hbx.out _⟩
    · have n1 : (n != 0) = true := by rw [bne_iff_ne]; exact hn
      rw [decide_eq_false hn]
      go_enter Tryz.func31, Tryz.ntmps31
      go_wp2_with fail
      go_quiet (fail)
      have hat := (At.new w 4 n s f 27).below (below_drewN (Below.refl _ _) nq) (At.new w 4 n s f 27).lt
      have hbx := below_box w (.cells #[.int .i64 4, .int .i64 n, .string s, .int .u64 f] 27) nq
      have Hbx := Lib.hid hbx
      clear hbx
      go_wp2_with fail
      generalize World.drewN (World.alloc w _) nq = W1 at hat Hbx ⊢
      obtain ⟨c0, c1, c2, c3, -, -⟩ := hat
      go_quiet ((go_at_call 45; exact Calls.quiet_of_same ((Hc.out _).mono fun e w1 h => ⟨h.1, h.2.symm⟩)))
      go_wp2_with fail
      go_ret
      exact ⟨by simp_all <;> rfl, below_drewN Hbx.out _⟩
  by_cases h0 : k = 0
  · subst h0
    have hb : rightB ⟨0, n, s, f⟩ = (decide (n = 0) && decide (s.toList = []) && decide (f = 0)) := by simp [rightB]
    rw [hb]
    clear hb Hc
    go_enter Tryz.func31, Tryz.ntmps31
    go_wp2_with fail
    go_quiet (fail)
    go_wp2_with fail
    all_goals
      go_ret
      exact ⟨by rcases Decidable.em (f = 0) with g | g <;> rcases Decidable.em (n = 0) with g' | g' <;> rcases Decidable.em (n = 1) with g2 | g2 <;> simp_all, below_box _ _ _⟩
  · have hb : rightB ⟨k, n, s, f⟩ = false := by simp [rightB, h0, h1, h2, h3, h4]
    rw [hb]
    clear hb Hc
    have e0 : (k == 0) = false := by rw [beq_eq_false_iff_ne]; exact h0
    have e1 : (k == 1) = false := by rw [beq_eq_false_iff_ne]; exact h1
    have e2 : (k == 2) = false := by rw [beq_eq_false_iff_ne]; exact h2
    have e3 : (k == 3) = false := by rw [beq_eq_false_iff_ne]; exact h3
    have e4 : (k == 4) = false := by rw [beq_eq_false_iff_ne]; exact h4
    go_enter Tryz.func31, Tryz.ntmps31
    go_wp2_with fail
    go_quiet (fail)
    go_wp2_with fail
    go_ret
    exact ⟨rfl, below_box _ _ _⟩
end Go.Proofs.YthhghlnbpigcjaaGreatDoor
namespace Go.Proofs.YthhghlnbpigcjaaGreatDoor
open Go.RowKit

end Go.Proofs.YthhghlnbpigcjaaGreatDoor
namespace Go.Proofs.YthhghlnbpigcjaaGreatDoor
open Go.RowKit

set_option maxHeartbeats 8000000 in
set_option maxRecDepth 100000 in
theorem rightofR_any (w : World) (x : Val) (hf0 : 0 ≤ x.f) (hf1 : x.f < 18446744073709551616) :
    Calls Tryz.prog 49 #[x.v] w fun e w' => e = .returned (rightOf x).v ∧ Below w.heap.size w w' := by
  have Hr : Hid (∀ W : World, Calls Tryz.prog 31 #[x.v] W fun e w' => e = .returned (.bool (rightB x)) ∧ Below W.heap.size W w') := Lib.hid fun W => rightR_any W x hf0 hf1
  clear hf0 hf1
  unfold rightOf
  obtain ⟨k, n, s, f⟩ := x
  simp only [Val.v] at Hr ⊢
  have a1 := (At.new w k n s f 27).alloc (Obj.cells #[.int .i64 0, .int .i64 0, .string ⟨#[]⟩, .int .u64 0] 27)
  have a2 := At.new (w.alloc (.cells #[.int .i64 k, .int .i64 n, .string s, .int .u64 f] 27)) 0 0 ⟨#[]⟩ 0 27
  have hsz : ((w.alloc (.cells #[.int .i64 k, .int .i64 n, .string s, .int .u64 f] 27)).heap.size) = w.heap.size + 1 := by simp
  rw [hsz] at a2
  have hbl : Below w.heap.size w ((w.alloc (.cells #[.int .i64 k, .int .i64 n, .string s, .int .u64 f] 27)).alloc (.cells #[.int .i64 0, .int .i64 0, .string ⟨#[]⟩, .int .u64 0] 27)) :=
    ((Below.refl _ _).alloc (Nat.le_refl _) _).alloc (by simp) _
  have A1 := Lib.hid a1; have A2 := Lib.hid a2; have Hbl := Lib.hid hbl
  clear a1 a2 hbl hsz
  cases hb : rightB ⟨k, n, s, f⟩ with
  | true =>
    rw [hb] at Hr
    simp only [if_true]
    clear hb
    go_enter Tryz.func49, Tryz.ntmps49
    go_wp2_with fail
    refine (Hr.out _).mono ?_
    rintro e w1 ⟨rfl, hb⟩
    have b1 := A1.out.below hb A1.out.lt
    have b2 := A2.out.below hb A2.out.lt
    have hbb := Hbl.out.trans (hb.mono Hbl.out.size)
    have Hbb := Lib.hid hbb
    obtain ⟨e0, e1, e2, e3, e5, e4⟩ := b1
    obtain ⟨d0, d1, d2, d3, d5, d4⟩ := b2
    have z0 := d5 0; have z1 := d5 1; have z2 := d5 2; have z3 := d5 3
    clear hb hbb A1 A2 Hbl d5 e5
    go_wp2_with fail
    exact bodyPost_ret (v := .agg #[.int .i64 k, .int .i64 n, .string s, .int .u64 f]) (by simp [results, Tryz.results49, go_sem, d0, d1, d2, d3]) rfl ⟨rfl, (((Hbb.out.setCell (by simp) _).setCell (by simp) _).setCell (by simp) _).setCell (by simp) _⟩
  | false =>
    rw [hb] at Hr
    simp only [Bool.false_eq_true, if_false, zeroVal]
    clear hb
    go_enter Tryz.func49, Tryz.ntmps49
    go_wp2_with fail
    refine (Hr.out _).mono ?_
    rintro e w1 ⟨rfl, hb⟩
    have b1 := A1.out.below hb A1.out.lt
    have b2 := A2.out.below hb A2.out.lt
    have hbb := Hbl.out.trans (hb.mono Hbl.out.size)
    have Hbb := Lib.hid hbb
    obtain ⟨e0, e1, e2, e3, e5, e4⟩ := b1
    obtain ⟨d0, d1, d2, d3, d5, d4⟩ := b2
    have z0 := d5 0; have z1 := d5 1; have z2 := d5 2; have z3 := d5 3
    clear hb hbb A1 A2 Hbl d5 e5
    go_wp2_with fail
    exact bodyPost_ret (v := .agg #[.int .i64 0, .int .i64 0, .string ⟨#[]⟩, .int .u64 0]) (by simp [results, Tryz.results49, go_sem, d0, d1, d2, d3]) rfl ⟨rfl, (((Hbb.out.setCell (by simp) _).setCell (by simp) _).setCell (by simp) _).setCell (by simp) _⟩
/-- two more values of the call's own -/
structure Quad (w W : World) (A B C : Nat) (a b x y : Val) : Prop where
  duo : Duo w W A a b
  px : At W B x.k x.n x.s x.f
  py : At W C y.k y.n y.s y.f
theorem Quad.below {w W W' : World} {A B C : Nat} {a b x y : Val} (h : Quad w W A B C a b x y) (hb : Below W.heap.size W W') : Quad w W' A B C a b x y :=
  ⟨h.duo.below hb, h.px.below hb h.px.lt, h.py.below hb h.py.lt⟩
end Go.Proofs.YthhghlnbpigcjaaGreatDoor
namespace Go.Proofs.YthhghlnbpigcjaaGreatDoor
open Go.RowKit

end Go.Proofs.YthhghlnbpigcjaaGreatDoor
