/- Values: the walks of value.right, Compare. -/
import Derived.Test.YtacafhmagonngaaGreatDoorVa0
import Derived.Deep.RegionHeld3
import Derived.Deep.DeepCutAuto
set_option linter.unusedVariables false
set_option linter.unusedSimpArgs false
namespace Go.Proofs.YtacafhmagonngaaGreatDoor
open Go.RowKit

def zeroVal : Val := ⟨0, 0, ⟨#[]⟩, 0⟩
def rightOf (x : Val) : Val := if rightB x then x else zeroVal
/-- a value lies in a block of its own -/
structure At (w : World) (b : Nat) (k n : Int) (s : ByteArray) (f : Int) : Prop where
  c0 : w.cell? ⟨b, 0, none⟩ = some (.int .i64 k)
  c1 : w.cell? ⟨b, 1, none⟩ = some (.int .i64 n)
  c2 : w.cell? ⟨b, 2, none⟩ = some (.string s)
  c3 : w.cell? ⟨b, 3, none⟩ = some (.int .u64 f)
  z : ∀ o, w.frozen? ⟨b, o, none⟩ = false
  lt : b < w.heap.size
theorem At.new (w : World) (k n : Int) (s : ByteArray) (f : Int) (t : TypeId) : At (w.alloc (.cells #[.int .i64 k, .int .i64 n, .string s, .int .u64 f] t)) w.heap.size k n s f where
  c0 := by simp
  c1 := by simp
  c2 := by simp
  c3 := by simp
  z := fun o => by simp
  lt := by simp
theorem At.below {w w' : World} {b B : Nat} {k n : Int} {s : ByteArray} {f : Int} (h : At w b k n s f) (hb : Below B w w') (hB : b < B) : At w' b k n s f where
  c0 := (hb.cell hB).trans h.c0
  c1 := (hb.cell hB).trans h.c1
  c2 := (hb.cell hB).trans h.c2
  c3 := (hb.cell hB).trans h.c3
  z := fun o => (hb.frozen hB).trans (h.z o)
  lt := Nat.lt_of_lt_of_le h.lt hb.size
theorem At.alloc {w : World} {b : Nat} {k n : Int} {s : ByteArray} {f : Int} (h : At w b k n s f) (o : Obj) : At (w.alloc o) b k n s f :=
  h.below ((Below.refl w.heap.size w).alloc (Nat.le_refl _) o) h.lt
set_option maxHeartbeats 8000000 in
set_option maxRecDepth 100000 in
theorem rightof_any (w : World) (x : Val) :
    Calls Tryz.prog 30 #[x.v] w fun e w' => e = .returned (rightOf x).v ∧ Below w.heap.size w w' := by
  have Hr : Hid (∀ W : World, Calls Tryz.prog 47 #[x.v] W fun e w' => e = .returned (.bool (rightB x)) ∧ Below W.heap.size W w') := Lib.hid fun W => right_any W x
  unfold rightOf
  obtain ⟨k, n, s, f⟩ := x
  simp only [Val.v] at Hr ⊢
  have a1 := (At.new w k n s f 26).alloc (Obj.cells #[.int .i64 0, .int .i64 0, .string ⟨#[]⟩, .int .u64 0] 26)
  have a2 := At.new (w.alloc (.cells #[.int .i64 k, .int .i64 n, .string s, .int .u64 f] 26)) 0 0 ⟨#[]⟩ 0 26
  have hsz : ((w.alloc (.cells #[.int .i64 k, .int .i64 n, .string s, .int .u64 f] 26)).heap.size) = w.heap.size + 1 := by simp
  rw [hsz] at a2
  have hbl : Below w.heap.size w ((w.alloc (.cells #[.int .i64 k, .int .i64 n, .string s, .int .u64 f] 26)).alloc (.cells #[.int .i64 0, .int .i64 0, .string ⟨#[]⟩, .int .u64 0] 26)) :=
    ((Below.refl _ _).alloc (Nat.le_refl _) _).alloc (by simp) _
  have A1 := Lib.hid a1; have A2 := Lib.hid a2; have Hbl := Lib.hid hbl
  clear a1 a2 hbl hsz
  cases hb : rightB ⟨k, n, s, f⟩ with
  | true =>
    rw [hb] at Hr
    simp only [if_true]
    clear hb
    go_enter Tryz.func30, Tryz.ntmps30
    go_wp2_with fail
    refine (Hr.out _).mono ?_
    rintro e w1 ⟨rfl, hb⟩
    have b1 := A1.out.below hb A1.out.lt
    have b2 := A2.out.below hb A2.out.lt
    have hbb := Hbl.out.trans (hb.mono Hbl.out.size)
    have Hbb := Lib.hid hbb
    obtain ⟨e0, e1, e2, e3, e5, e4⟩ := b1
    obtain ⟨d0, d1, d2, d3, d5, d4⟩ := b2
    have z0 := d5 0; have z1 := d5 1; have z2 := d5 2; have z3 := d5 3
    clear hb hbb A1 A2 Hbl d5 e5
    go_wp2_with fail
    exact bodyPost_ret (v := .agg #[.int .i64 k, .int .i64 n, .string s, .int .u64 f]) (by simp [results, Tryz.results30, go_sem, d0, d1, d2, d3]) rfl ⟨rfl, (((Hbb.out.setCell (by simp) _).setCell (by simp) _).setCell (by simp) _).setCell (by simp) _⟩
  | false =>
    rw [hb] at Hr
    simp only [Bool.false_eq_true, if_false, zeroVal]
    clear hb
    go_enter Tryz.func30, Tryz.ntmps30
    go_wp2_with fail
    refine (Hr.out _).mono ?_
    rintro e w1 ⟨rfl, hb⟩
    have b1 := A1.out.below hb A1.out.lt
    have b2 := A2.out.below hb A2.out.lt
    have hbb := Hbl.out.trans (hb.mono Hbl.out.size)
    have Hbb := Lib.hid hbb
    obtain ⟨e0, e1, e2, e3, e5, e4⟩ := b1
    obtain ⟨d0, d1, d2, d3, d5, d4⟩ := b2
    have z0 := d5 0; have z1 := d5 1; have z2 := d5 2; have z3 := d5 3
    clear hb hbb A1 A2 Hbl d5 e5
    go_wp2_with fail
    exact bodyPost_ret (v := .agg #[.int .i64 0, .int .i64 0, .string ⟨#[]⟩, .int .u64 0]) (by simp [results, Tryz.results30, go_sem, d0, d1, d2, d3]) rfl ⟨rfl, (((Hbb.out.setCell (by simp) _).setCell (by simp) _).setCell (by simp) _).setCell (by simp) _⟩
/-- two values lie in two blocks of the call's own -/
structure Duo (w W : World) (A : Nat) (a b : Val) : Prop where
  one : At W A a.k a.n a.s a.f
  two : At W (A + 1) b.k b.n b.s b.f
  bel : Below A w W
theorem Duo.below {w W W' : World} {A : Nat} {a b : Val} (h : Duo w W A a b) (hb : Below W.heap.size W W') : Duo w W' A a b :=
  ⟨h.one.below hb h.one.lt, h.two.below hb h.two.lt, h.bel.trans (hb.mono (Nat.le_of_lt h.one.lt))⟩
theorem Duo.drew {w W : World} {A : Nat} {a b : Val} (h : Duo w W A a b) : Duo w W.drew A a b := h.below (Below.refl _ _).drew
theorem Duo.new (w : World) (a b : Val) : Duo w ((w.alloc (.cells #[.int .i64 a.k, .int .i64 a.n, .string a.s, .int .u64 a.f] 26)).alloc (.cells #[.int .i64 b.k, .int .i64 b.n, .string b.s, .int .u64 b.f] 26)) w.heap.size a b where
  one := (At.new w a.k a.n a.s a.f 26).alloc _
  two := by
    have := At.new (w.alloc (.cells #[.int .i64 a.k, .int .i64 a.n, .string a.s, .int .u64 a.f] 26)) b.k b.n b.s b.f 26
    rwa [show (w.alloc (.cells #[.int .i64 a.k, .int .i64 a.n, .string a.s, .int .u64 a.f] 26)).heap.size = w.heap.size + 1 from by simp] at this
  bel := ((Below.refl _ _).alloc (Nat.le_refl _) _).alloc (by simp) _
/-- a value stored over a block -/
def storeV (W : World) (b : Nat) (x : Val) : World := (((W.setCell ⟨b, 0, none⟩ (.int .i64 x.k)).setCell ⟨b, 1, none⟩ (.int .i64 x.n)).setCell ⟨b, 2, none⟩ (.string x.s)).setCell ⟨b, 3, none⟩ (.int .u64 x.f)
theorem cell_at {w : World} {p q : Addr} {v u : Value} (h : w.cell? q = some u) (e : p = q) : (w.setCell p v).cell? q = some v := by
  subst e
  exact World.cell?_setCell_same _ _ _ h
theorem cell_off {w : World} {p q : Addr} {v u : Value} (h : w.cell? q = some u) (e : p ≠ q) : (w.setCell p v).cell? q = some u := by
  rw [World.cell?_setCell_other _ _ _ _ e]
  exact h
theorem At.store {W : World} {b : Nat} {k n : Int} {s : ByteArray} {f : Int} (h : At W b k n s f) (x : Val) : At (storeV W b x) b x.k x.n x.s x.f := by
  obtain ⟨h0, h1, h2, h3, hz, hl⟩ := h
  have ne : ∀ i j : Nat, i ≠ j → (⟨b, i, none⟩ : Addr) ≠ ⟨b, j, none⟩ := fun i j e h => by injection h with _ h; exact e h
  refine ⟨?_, ?_, ?_, ?_, ?_, ?_⟩
  · exact cell_off (cell_off (cell_off (cell_at h0 rfl) (ne 1 0 (by decide))) (ne 2 0 (by decide))) (ne 3 0 (by decide))
  · exact cell_off (cell_off (cell_at (cell_off h1 (ne 0 1 (by decide))) rfl) (ne 2 1 (by decide))) (ne 3 1 (by decide))
  · exact cell_off (cell_at (cell_off (cell_off h2 (ne 0 2 (by decide))) (ne 1 2 (by decide))) rfl) (ne 3 2 (by decide))
  · exact cell_at (cell_off (cell_off (cell_off h3 (ne 0 3 (by decide))) (ne 1 3 (by decide))) (ne 2 3 (by decide))) rfl
  · intro o
    unfold storeV
    rw [World.frozen?_setCell, World.frozen?_setCell, World.frozen?_setCell, World.frozen?_setCell]
    exact hz o
  · simpa [storeV, World.setCell] using hl
theorem At.other {W : World} {b c : Nat} {k n : Int} {s : ByteArray} {f : Int} (h : At W c k n s f) (hbc : b ≠ c) (x : Val) : At (storeV W b x) c k n s f := by
  obtain ⟨h0, h1, h2, h3, hz, hl⟩ := h
  have ne : ∀ i j : Nat, (⟨b, i, none⟩ : Addr) ≠ ⟨c, j, none⟩ := fun i j h => by injection h with h _; exact hbc h
  refine ⟨?_, ?_, ?_, ?_, ?_, ?_⟩
  · exact cell_off (cell_off (cell_off (cell_off h0 (ne _ _)) (ne _ _)) (ne _ _)) (ne _ _)
  · exact cell_off (cell_off (cell_off (cell_off h1 (ne _ _)) (ne _ _)) (ne _ _)) (ne _ _)
  · exact cell_off (cell_off (cell_off (cell_off h2 (ne _ _)) (ne _ _)) (ne _ _)) (ne _ _)
  · exact cell_off (cell_off (cell_off (cell_off h3 (ne _ _)) (ne _ _)) (ne _ _)) (ne _ _)
  · intro o
    unfold storeV
    rw [World.frozen?_setCell, World.frozen?_setCell, World.frozen?_setCell, World.frozen?_setCell]
    exact hz o
  · simpa [storeV, World.setCell] using hl
theorem below_store {B : Nat} {w W : World} {b : Nat} (h : Below B w W) (hb : B ≤ b) (x : Val) : Below B w (storeV W b x) :=
  (((h.setCell hb _).setCell hb _).setCell hb _).setCell hb _
theorem Duo.store {w W : World} {A : Nat} {a b : Val} (h : Duo w W A a b) (x y : Val) : Duo w (storeV (storeV W A x) (A + 1) y) A x y where
  one := (h.one.store x).other (by omega) y
  two := (h.two.other (by omega) x).store y
  bel := below_store (below_store h.bel (Nat.le_refl _) x) (by omega) y
end Go.Proofs.YtacafhmagonngaaGreatDoor
