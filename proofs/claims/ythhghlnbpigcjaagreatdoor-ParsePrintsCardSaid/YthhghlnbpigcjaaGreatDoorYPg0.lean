/- The walk of parse.write. -/
import Derived.Test.YthhghlnbpigcjaaGreatDoorYPf1
import Derived.Test.YthhghlnbpigcjaaGreatDoorYPw0
import Derived.Test.YthhghlnbpigcjaaGreatDoorYGD
set_option linter.unusedVariables false
set_option linter.unusedSimpArgs false
namespace Go.Proofs.YthhghlnbpigcjaaGreatDoor
open Go.RowKit

theorem BAt.lt {B b : Nat} {l : List UInt8} {w : World} (h : BAt B b l w) : b < w.heap.size := by
  rcases h with h | h <;> exact h.lt
theorem builder_below {B b : Nat} {p : Value} {bs : List Value} {w w' : World} (h : Lib.BuilderAtF 66 5 B b p bs w) (hb : Below w.heap.size w w') : Lib.BuilderAtF 66 5 B b p bs w' := by
  have hlt := h.lt
  obtain ⟨hB, v, hv, hown, hne⟩ := h
  exact ⟨hB, v, (hb.block b hlt).trans hv, hown.kept (row := none) ⟨hb.os, hb.tape, hb.output, hb.size, fun k hk _ => hb.block k hk⟩ (Classical.em _), hne⟩
theorem BAt.below {B b : Nat} {l : List UInt8} {w w' : World} (h : BAt B b l w) (hb : Below w.heap.size w w') : BAt B b l w' := h.elim (fun x => .inl (builder_below x hb)) (fun x => .inr (builder_below x hb))
theorem kept_below {e : TypeId} {b : Option Nat} {w w' : World} (hb : Below w.heap.size w w') : Lib.OthersKept e b w w' := fun k o hk _ _ => (hb.block k (heap_lt hk)).trans hk
/-- what write does with a test -/
def WriteC (w0 : World) (t : Tree) : Prop := ∀ (w : World) (b : Nat) (l : List UInt8) (S : Nat → Prop) (a : Option Addr) (n c : Nat), Below w0.heap.size w0 w → BAt w0.heap.size b l w → KSl w0 S t.kids a n → l.length + (printT t).length ≤ 1000000 →
  Calls Tryz.prog 28 #[.pointer (some ⟨b, 0, none⟩), t.val a n c] w fun e w' => e = .returned (.tuple #[]) ∧ BAt w0.heap.size b (l ++ printT t) w' ∧ Below w0.heap.size w w' ∧ Lib.OthersKept 5 (some b) w w'
/-- a written part: the builder, what is kept -/
structure Wr (w0 w X : World) (b : Nat) (l : List UInt8) : Prop where
  wb : BAt w0.heap.size b l X
  bel : Below w0.heap.size w X
  kept : Lib.OthersKept 5 (some b) w X
theorem Wr.step {w0 w X Y : World} {b : Nat} {l l' : List UInt8} (h : Wr w0 w X b l) (h1 : BAt w0.heap.size b l' Y) (h2 : Below w0.heap.size X Y) (h3 : Lib.OthersKept 5 (some b) X Y) : Wr w0 w Y b l' := ⟨h1, h.bel.trans h2, h.kept.trans h3⟩
/-- the boxed test -/
def Box (X : World) (V : Nat) (t : Tree) (a : Option Addr) (n c : Nat) : Prop := X.heap[V]? = some (.cells (t.cells a n c) 31 (0, 0))
theorem Box.new (w : World) (t : Tree) (a : Option Addr) (n c : Nat) : Box (w.alloc (.cells (t.cells a n c) 31)) w.heap.size t a n c := by
  show (w.heap.push _)[w.heap.size]? = _
  simp
theorem Box.kept {X Y : World} {V b : Nat} {t : Tree} {a : Option Addr} {n c : Nat} (h : Box X V t a n c) (hb : V ≠ b) (hk : Lib.OthersKept 5 (some b) X Y) : Box Y V t a n c :=
  hk V _ h (fun e => hb (Option.some.inj e)) (fun c fz e => by cases e)
theorem Box.k {X : World} {V : Nat} {t : Tree} {a : Option Addr} {n c : Nat} (h : Box X V t a n c) : X.cell? ⟨V, 0, none⟩ = some (.int .i64 t.k) ∧ X.cell? ⟨V, 2, none⟩ = some (.string ⟨t.col.toArray⟩) ∧ X.cell? ⟨V, 7, none⟩ = some (.int .i64 t.op) ∧ X.cell? ⟨V, 8, none⟩ = some (.slice a n c) :=
  ⟨by rw [Lib.cell_of_heap h]; rfl, by rw [Lib.cell_of_heap h]; rfl, by rw [Lib.cell_of_heap h]; rfl, by rw [Lib.cell_of_heap h]; rfl⟩
theorem Box.v {X : World} {V : Nat} {t : Tree} {a : Option Addr} {n c : Nat} (h : Box X V t a n c) : X.cell? ⟨V, 3, none⟩ = some (.int .i64 t.v.k) ∧ X.cell? ⟨V, 4, none⟩ = some (.int .i64 t.v.n) ∧ X.cell? ⟨V, 5, none⟩ = some (.string t.v.s) ∧ X.cell? ⟨V, 6, none⟩ = some (.int .u64 t.v.f) :=
  ⟨by rw [Lib.cell_of_heap h]; rfl, by rw [Lib.cell_of_heap h]; rfl, by rw [Lib.cell_of_heap h]; rfl, by rw [Lib.cell_of_heap h]; rfl⟩
theorem wopen_any (B b : Nat) (l : List UInt8) (w : World) (h : BAt B b l w) (hlen : l.length + 1 ≤ 1000000) (hBw : B ≤ w.heap.size) : Calls Tryz.prog 44 #[.pointer (some ⟨b, 0, none⟩), .int .u8 40] w fun e w' => e = .returned .nilIface ∧ BAt B b (l ++ [40]) w' ∧ Below B w w' ∧ Lib.OthersKept 5 (some b) w w' := bbyte_any B b l 40 w h hlen hBw
theorem wclose_any (B b : Nat) (l : List UInt8) (w : World) (h : BAt B b l w) (hlen : l.length + 1 ≤ 1000000) (hBw : B ≤ w.heap.size) : Calls Tryz.prog 44 #[.pointer (some ⟨b, 0, none⟩), .int .u8 41] w fun e w' => e = .returned .nilIface ∧ BAt B b (l ++ [41]) w' ∧ Below B w w' ∧ Lib.OthersKept 5 (some b) w w' := bbyte_any B b l 41 w h hlen hBw
set_option maxHeartbeats 8000000 in
set_option maxRecDepth 100000 in
theorem write_and (w0 : World) (p : Int) (x y : Tree) (Ix : WriteC w0 x) (Iy : WriteC w0 y) : WriteC w0 (Tree.mk 5 p [] 0 zeroVal [x, y]) := by
  intro w b l S aa an ac hB hb hk hlen
  have HB := Lib.hid hB
  have Hlt := Lib.hid hb.lt
  have HB0 : Hid (w0.heap.size ≤ w.heap.size) := Lib.hid hB.size
  cases hk with
  | on hS hz hn r =>
  rename_i g off
  cases r with
  | cons hA kA r =>
  rename_i pa0 pn0 pc0
  cases r with
  | cons hB2 kB r2 =>
  rename_i pa1 pn1 pc1
  have HA := Lib.hid hA; have HKA := Lib.hid kA; have HB2 := Lib.hid hB2; have HKB := Lib.hid kB
  clear hA kA hB2 kB r2 hS hz
  have hn2 : an = 2 := hn
  subst hn2
  clear hn
  have W0 : Hid (Wr w0 w (w.alloc (.cells ((Tree.mk 5 p [] 0 zeroVal [x, y]).cells (some ⟨g, off, none⟩) 2 ac) 31)) b l) := Lib.hid ⟨hb.alloc _, (Below.new w _).mono hB.size, (Lib.OthersKept.refl _ _ _).alloc _⟩
  have X0 := Lib.hid (Box.new w (Tree.mk 5 p [] 0 zeroVal [x, y]) (some ⟨g, off, none⟩) 2 ac)
  have HV : Hid (w.heap.size ≠ b) := Lib.hid (Nat.ne_of_gt hb.lt)
  have Hlen := Lib.hid hlen
  clear hB hb hlen
  simp only [Tree.val, Tree.k, Tree.pos, Tree.col, Tree.op, Tree.v, zeroVal]
  go_enter Tryz.func28, Tryz.ntmps28
  go_upto_region 1 with fail
  generalize hW : World.alloc w _ = W
  have H0 : Hid (Wr w0 w W b l) := by rw [← hW]; exact W0
  have Y0 : Hid (Box W w.heap.size (Tree.mk 5 p [] 0 zeroVal [x, y]) (some ⟨g, off, none⟩) 2 ac) := by rw [← hW]; exact X0
  clear hW W0 X0
  have hbx0 := Y0.out.k
  obtain ⟨c0, -, c7, c8⟩ := hbx0
  simp only [Tree.k, Tree.op] at c0 c7
  have hc := Lib.hid (wopen_any w0.heap.size b (l) W H0.out.wb (by have := Hlen.out; simp [printT, printTs, printK, opTextL] at this; simp [ByteArray.size]; omega) (HB.out.trans H0.out.bel).size)
  go_wp2_with fail
  refine hc.out.mono ?_
  clear hc
  rintro e w1 ⟨rfl, hb1, hbel1, hk1⟩
  have H1 := Lib.hid (H0.out.step hb1 hbel1 hk1)
  have Y1 := Lib.hid (Y0.out.kept HV.out hk1)
  clear hb1 hbel1 hk1 c0 c7 c8
  have hq0 := HA.out.map (w' := w1) fun i v hc => ((HB.out.trans H1.out.bel).cell (World.block_lt_of_cell? _ _ hc)).trans hc
  obtain ⟨q0, q1, q2, q3, q4, q5, q6, q7, q8⟩ := hq0
  have hbx1 := Y1.out.k
  obtain ⟨c0, -, c7, c8⟩ := hbx1
  simp only [Tree.k, Tree.op] at c0 c7
  have hc := Lib.hid (Ix w1 b (l ++ [40]) S pa0 pn0 pc0 (HB.out.trans H1.out.bel) H1.out.wb HKA.out (by have := Hlen.out; simp [printT, printTs, printK, opTextL] at this; simp [ByteArray.size]; omega))
  go_wp2_with fail
  refine hc.out.mono ?_
  clear hc
  rintro e w2 ⟨rfl, hb2, hbel2, hk2⟩
  have H2 := Lib.hid (H1.out.step hb2 hbel2 hk2)
  have Y2 := Lib.hid (Y1.out.kept HV.out hk2)
  clear hb2 hbel2 hk2 c0 c7 c8 q0 q1 q2 q3 q4 q5 q6 q7 q8
  have hbx2 := Y2.out.k
  obtain ⟨c0, -, c7, c8⟩ := hbx2
  simp only [Tree.k, Tree.op] at c0 c7
  have hc := Lib.hid (bwrite_any w0.heap.size b (l ++ [40] ++ printT x) ⟨#[32, 97, 110, 100, 32]⟩ w2 H2.out.wb (by have := Hlen.out; simp [printT, printTs, printK, opTextL] at this; simp [ByteArray.size]; omega) (HB.out.trans H2.out.bel).size)
  go_wp2_with fail
  refine hc.out.mono ?_
  clear hc
  rintro e w3 ⟨rfl, hb3, hbel3, hk3⟩
  have H3 := Lib.hid (H2.out.step hb3 hbel3 hk3)
  have Y3 := Lib.hid (Y2.out.kept HV.out hk3)
  clear hb3 hbel3 hk3 c0 c7 c8
  have hq1 := HB2.out.map (w' := w3) fun i v hc => ((HB.out.trans H3.out.bel).cell (World.block_lt_of_cell? _ _ hc)).trans hc
  obtain ⟨q0, q1, q2, q3, q4, q5, q6, q7, q8⟩ := hq1
  have hbx3 := Y3.out.k
  obtain ⟨c0, -, c7, c8⟩ := hbx3
  simp only [Tree.k, Tree.op] at c0 c7
  have hc := Lib.hid (Iy w3 b (l ++ [40] ++ printT x ++ (⟨#[32, 97, 110, 100, 32]⟩ : ByteArray).data.toList) S pa1 pn1 pc1 (HB.out.trans H3.out.bel) H3.out.wb HKB.out (by have := Hlen.out; simp [printT, printTs, printK, opTextL] at this; simp [ByteArray.size]; omega))
  go_wp2_with fail
  refine hc.out.mono ?_
  clear hc
  rintro e w4 ⟨rfl, hb4, hbel4, hk4⟩
  have H4 := Lib.hid (H3.out.step hb4 hbel4 hk4)
  have Y4 := Lib.hid (Y3.out.kept HV.out hk4)
  clear hb4 hbel4 hk4 c0 c7 c8 q0 q1 q2 q3 q4 q5 q6 q7 q8
  have hbx4 := Y4.out.k
  obtain ⟨c0, -, c7, c8⟩ := hbx4
  simp only [Tree.k, Tree.op] at c0 c7
  have hc := Lib.hid (wclose_any w0.heap.size b (l ++ [40] ++ printT x ++ (⟨#[32, 97, 110, 100, 32]⟩ : ByteArray).data.toList ++ printT y) w4 H4.out.wb (by have := Hlen.out; simp [printT, printTs, printK, opTextL] at this; simp [ByteArray.size]; omega) (HB.out.trans H4.out.bel).size)
  go_wp2_with fail
  refine hc.out.mono ?_
  clear hc
  rintro e w9 ⟨rfl, hb9, hbel9, hk9⟩
  have H9 := Lib.hid (H4.out.step hb9 hbel9 hk9)
  clear hb9 hbel9 hk9 c0 c7 c8
  go_wp2_with fail
  go_end0
  refine ⟨rfl, ?_, H9.out.bel, H9.out.kept⟩
  have := H9.out.wb
  simpa [printT, printTs, printK, opTextL] using this
set_option maxHeartbeats 8000000 in
set_option maxRecDepth 100000 in
theorem write_or (w0 : World) (p : Int) (x y : Tree) (Ix : WriteC w0 x) (Iy : WriteC w0 y) : WriteC w0 (Tree.mk 6 p [] 0 zeroVal [x, y]) := by
  intro w b l S aa an ac hB hb hk hlen
  have HB := Lib.hid hB
  have Hlt := Lib.hid hb.lt
  have HB0 : Hid (w0.heap.size ≤ w.heap.size) := Lib.hid hB.size
  cases hk with
  | on hS hz hn r =>
  rename_i g off
  cases r with
  | cons hA kA r =>
  rename_i pa0 pn0 pc0
  cases r with
  | cons hB2 kB r2 =>
  rename_i pa1 pn1 pc1
  have HA := Lib.hid hA; have HKA := Lib.hid kA; have HB2 := Lib.hid hB2; have HKB := Lib.hid kB
  clear hA kA hB2 kB r2 hS hz
  have hn2 : an = 2 := hn
  subst hn2
  clear hn
  have W0 : Hid (Wr w0 w (w.alloc (.cells ((Tree.mk 6 p [] 0 zeroVal [x, y]).cells (some ⟨g, off, none⟩) 2 ac) 31)) b l) := Lib.hid ⟨hb.alloc _, (Below.new w _).mono hB.size, (Lib.OthersKept.refl _ _ _).alloc _⟩
  have X0 := Lib.hid (Box.new w (Tree.mk 6 p [] 0 zeroVal [x, y]) (some ⟨g, off, none⟩) 2 ac)
  have HV : Hid (w.heap.size ≠ b) := Lib.hid (Nat.ne_of_gt hb.lt)
  have Hlen := Lib.hid hlen
  clear hB hb hlen
  simp only [Tree.val, Tree.k, Tree.pos, Tree.col, Tree.op, Tree.v, zeroVal]
  go_enter Tryz.func28, Tryz.ntmps28
  go_upto_region 1 with fail
  generalize hW : World.alloc w _ = W
  have H0 : Hid (Wr w0 w W b l) := by rw [← hW]; exact W0
  have Y0 : Hid (Box W w.heap.size (Tree.mk 6 p [] 0 zeroVal [x, y]) (some ⟨g, off, none⟩) 2 ac) := by rw [← hW]; exact X0
  clear hW W0 X0
  have hbx0 := Y0.out.k
  obtain ⟨c0, -, c7, c8⟩ := hbx0
  simp only [Tree.k, Tree.op] at c0 c7
  have hc := Lib.hid (wopen_any w0.heap.size b (l) W H0.out.wb (by have := Hlen.out; simp [printT, printTs, printK, opTextL] at this; simp [ByteArray.size]; omega) (HB.out.trans H0.out.bel).size)
  go_wp2_with fail
  refine hc.out.mono ?_
  clear hc
  rintro e w1 ⟨rfl, hb1, hbel1, hk1⟩
  have H1 := Lib.hid (H0.out.step hb1 hbel1 hk1)
  have Y1 := Lib.hid (Y0.out.kept HV.out hk1)
  clear hb1 hbel1 hk1 c0 c7 c8
  have hq0 := HA.out.map (w' := w1) fun i v hc => ((HB.out.trans H1.out.bel).cell (World.block_lt_of_cell? _ _ hc)).trans hc
  obtain ⟨q0, q1, q2, q3, q4, q5, q6, q7, q8⟩ := hq0
  have hbx1 := Y1.out.k
  obtain ⟨c0, -, c7, c8⟩ := hbx1
  simp only [Tree.k, Tree.op] at c0 c7
  have hc := Lib.hid (Ix w1 b (l ++ [40]) S pa0 pn0 pc0 (HB.out.trans H1.out.bel) H1.out.wb HKA.out (by have := Hlen.out; simp [printT, printTs, printK, opTextL] at this; simp [ByteArray.size]; omega))
  go_wp2_with fail
  refine hc.out.mono ?_
  clear hc
  rintro e w2 ⟨rfl, hb2, hbel2, hk2⟩
  have H2 := Lib.hid (H1.out.step hb2 hbel2 hk2)
  have Y2 := Lib.hid (Y1.out.kept HV.out hk2)
  clear hb2 hbel2 hk2 c0 c7 c8 q0 q1 q2 q3 q4 q5 q6 q7 q8
  have hbx2 := Y2.out.k
  obtain ⟨c0, -, c7, c8⟩ := hbx2
  simp only [Tree.k, Tree.op] at c0 c7
  have hc := Lib.hid (bwrite_any w0.heap.size b (l ++ [40] ++ printT x) ⟨#[32, 111, 114, 32]⟩ w2 H2.out.wb (by have := Hlen.out; simp [printT, printTs, printK, opTextL] at this; simp [ByteArray.size]; omega) (HB.out.trans H2.out.bel).size)
  go_wp2_with fail
  refine hc.out.mono ?_
  clear hc
  rintro e w3 ⟨rfl, hb3, hbel3, hk3⟩
  have H3 := Lib.hid (H2.out.step hb3 hbel3 hk3)
  have Y3 := Lib.hid (Y2.out.kept HV.out hk3)
  clear hb3 hbel3 hk3 c0 c7 c8
  have hq1 := HB2.out.map (w' := w3) fun i v hc => ((HB.out.trans H3.out.bel).cell (World.block_lt_of_cell? _ _ hc)).trans hc
  obtain ⟨q0, q1, q2, q3, q4, q5, q6, q7, q8⟩ := hq1
  have hbx3 := Y3.out.k
  obtain ⟨c0, -, c7, c8⟩ := hbx3
  simp only [Tree.k, Tree.op] at c0 c7
  have hc := Lib.hid (Iy w3 b (l ++ [40] ++ printT x ++ (⟨#[32, 111, 114, 32]⟩ : ByteArray).data.toList) S pa1 pn1 pc1 (HB.out.trans H3.out.bel) H3.out.wb HKB.out (by have := Hlen.out; simp [printT, printTs, printK, opTextL] at this; simp [ByteArray.size]; omega))
  go_wp2_with fail
  refine hc.out.mono ?_
  clear hc
  rintro e w4 ⟨rfl, hb4, hbel4, hk4⟩
  have H4 := Lib.hid (H3.out.step hb4 hbel4 hk4)
  have Y4 := Lib.hid (Y3.out.kept HV.out hk4)
  clear hb4 hbel4 hk4 c0 c7 c8 q0 q1 q2 q3 q4 q5 q6 q7 q8
  have hbx4 := Y4.out.k
  obtain ⟨c0, -, c7, c8⟩ := hbx4
  simp only [Tree.k, Tree.op] at c0 c7
  have hc := Lib.hid (wclose_any w0.heap.size b (l ++ [40] ++ printT x ++ (⟨#[32, 111, 114, 32]⟩ : ByteArray).data.toList ++ printT y) w4 H4.out.wb (by have := Hlen.out; simp [printT, printTs, printK, opTextL] at this; simp [ByteArray.size]; omega) (HB.out.trans H4.out.bel).size)
  go_wp2_with fail
  refine hc.out.mono ?_
  clear hc
  rintro e w9 ⟨rfl, hb9, hbel9, hk9⟩
  have H9 := Lib.hid (H4.out.step hb9 hbel9 hk9)
  clear hb9 hbel9 hk9 c0 c7 c8
  go_wp2_with fail
  go_end0
  refine ⟨rfl, ?_, H9.out.bel, H9.out.kept⟩
  have := H9.out.wb
  simpa [printT, printTs, printK, opTextL] using this
set_option maxHeartbeats 8000000 in
set_option maxRecDepth 100000 in
theorem write_not (w0 : World) (p : Int) (x : Tree) (Ix : WriteC w0 x) : WriteC w0 (Tree.mk 4 p [] 0 zeroVal [x]) := by
  intro w b l S aa an ac hB hb hk hlen
  have HB := Lib.hid hB
  have Hlt := Lib.hid hb.lt
  have HB0 : Hid (w0.heap.size ≤ w.heap.size) := Lib.hid hB.size
  cases hk with
  | on hS hz hn r =>
  rename_i g off
  cases r with
  | cons hA kA r =>
  rename_i pa0 pn0 pc0
  have HA := Lib.hid hA; have HKA := Lib.hid kA
  clear hA kA r hS hz
  have hn2 : an = 1 := hn
  subst hn2
  clear hn
  have W0 : Hid (Wr w0 w (w.alloc (.cells ((Tree.mk 4 p [] 0 zeroVal [x]).cells (some ⟨g, off, none⟩) 1 ac) 31)) b l) := Lib.hid ⟨hb.alloc _, (Below.new w _).mono hB.size, (Lib.OthersKept.refl _ _ _).alloc _⟩
  have X0 := Lib.hid (Box.new w (Tree.mk 4 p [] 0 zeroVal [x]) (some ⟨g, off, none⟩) 1 ac)
  have HV : Hid (w.heap.size ≠ b) := Lib.hid (Nat.ne_of_gt hb.lt)
  have Hlen := Lib.hid hlen
  clear hB hb hlen
  simp only [Tree.val, Tree.k, Tree.pos, Tree.col, Tree.op, Tree.v, zeroVal]
  go_enter Tryz.func28, Tryz.ntmps28
  go_upto_region 1 with fail
  generalize hW : World.alloc w _ = W
  have H0 : Hid (Wr w0 w W b l) := by rw [← hW]; exact W0
  have Y0 : Hid (Box W w.heap.size (Tree.mk 4 p [] 0 zeroVal [x]) (some ⟨g, off, none⟩) 1 ac) := by rw [← hW]; exact X0
  clear hW W0 X0
  have hbx0 := Y0.out.k
  obtain ⟨c0, -, c7, c8⟩ := hbx0
  simp only [Tree.k, Tree.op] at c0 c7
  have hc := Lib.hid (wopen_any w0.heap.size b (l) W H0.out.wb (by have := Hlen.out; simp [printT, printTs, printK, opTextL] at this; simp [ByteArray.size]; omega) (HB.out.trans H0.out.bel).size)
  go_wp2_with fail
  refine hc.out.mono ?_
  clear hc
  rintro e w1 ⟨rfl, hb1, hbel1, hk1⟩
  have H1 := Lib.hid (H0.out.step hb1 hbel1 hk1)
  have Y1 := Lib.hid (Y0.out.kept HV.out hk1)
  clear hb1 hbel1 hk1 c0 c7 c8
  have hbx1 := Y1.out.k
  obtain ⟨c0, -, c7, c8⟩ := hbx1
  simp only [Tree.k, Tree.op] at c0 c7
  have hc := Lib.hid (bwrite_any w0.heap.size b (l ++ [40]) ⟨#[110, 111, 116, 32]⟩ w1 H1.out.wb (by have := Hlen.out; simp [printT, printTs, printK, opTextL] at this; simp [ByteArray.size]; omega) (HB.out.trans H1.out.bel).size)
  go_wp2_with fail
  refine hc.out.mono ?_
  clear hc
  rintro e w2 ⟨rfl, hb2, hbel2, hk2⟩
  have H2 := Lib.hid (H1.out.step hb2 hbel2 hk2)
  have Y2 := Lib.hid (Y1.out.kept HV.out hk2)
  clear hb2 hbel2 hk2 c0 c7 c8
  have hq0 := HA.out.map (w' := w2) fun i v hc => ((HB.out.trans H2.out.bel).cell (World.block_lt_of_cell? _ _ hc)).trans hc
  obtain ⟨q0, q1, q2, q3, q4, q5, q6, q7, q8⟩ := hq0
  have hbx2 := Y2.out.k
  obtain ⟨c0, -, c7, c8⟩ := hbx2
  simp only [Tree.k, Tree.op] at c0 c7
  have hc := Lib.hid (Ix w2 b (l ++ [40] ++ (⟨#[110, 111, 116, 32]⟩ : ByteArray).data.toList) S pa0 pn0 pc0 (HB.out.trans H2.out.bel) H2.out.wb HKA.out (by have := Hlen.out; simp [printT, printTs, printK, opTextL] at this; simp [ByteArray.size]; omega))
  go_wp2_with fail
  refine hc.out.mono ?_
  clear hc
  rintro e w3 ⟨rfl, hb3, hbel3, hk3⟩
  have H3 := Lib.hid (H2.out.step hb3 hbel3 hk3)
  have Y3 := Lib.hid (Y2.out.kept HV.out hk3)
  clear hb3 hbel3 hk3 c0 c7 c8 q0 q1 q2 q3 q4 q5 q6 q7 q8
  have hbx3 := Y3.out.k
  obtain ⟨c0, -, c7, c8⟩ := hbx3
  simp only [Tree.k, Tree.op] at c0 c7
  have hc := Lib.hid (wclose_any w0.heap.size b (l ++ [40] ++ (⟨#[110, 111, 116, 32]⟩ : ByteArray).data.toList ++ printT x) w3 H3.out.wb (by have := Hlen.out; simp [printT, printTs, printK, opTextL] at this; simp [ByteArray.size]; omega) (HB.out.trans H3.out.bel).size)
  go_wp2_with fail
  refine hc.out.mono ?_
  clear hc
  rintro e w9 ⟨rfl, hb9, hbel9, hk9⟩
  have H9 := Lib.hid (H3.out.step hb9 hbel9 hk9)
  clear hb9 hbel9 hk9 c0 c7 c8
  go_wp2_with fail
  go_end0
  refine ⟨rfl, ?_, H9.out.bel, H9.out.kept⟩
  have := H9.out.wb
  simpa [printT, printTs, printK, opTextL] using this
set_option maxHeartbeats 8000000 in
set_option maxRecDepth 100000 in
theorem write_null (w0 : World) (p : Int) (x : Tree) (Ix : WriteC w0 x) : WriteC w0 (Tree.mk 3 p [] 0 zeroVal [x]) := by
  intro w b l S aa an ac hB hb hk hlen
  have HB := Lib.hid hB
  have Hlt := Lib.hid hb.lt
  have HB0 : Hid (w0.heap.size ≤ w.heap.size) := Lib.hid hB.size
  cases hk with
  | on hS hz hn r =>
  rename_i g off
  cases r with
  | cons hA kA r =>
  rename_i pa0 pn0 pc0
  have HA := Lib.hid hA; have HKA := Lib.hid kA
  clear hA kA r hS hz
  have hn2 : an = 1 := hn
  subst hn2
  clear hn
  have W0 : Hid (Wr w0 w (w.alloc (.cells ((Tree.mk 3 p [] 0 zeroVal [x]).cells (some ⟨g, off, none⟩) 1 ac) 31)) b l) := Lib.hid ⟨hb.alloc _, (Below.new w _).mono hB.size, (Lib.OthersKept.refl _ _ _).alloc _⟩
  have X0 := Lib.hid (Box.new w (Tree.mk 3 p [] 0 zeroVal [x]) (some ⟨g, off, none⟩) 1 ac)
  have HV : Hid (w.heap.size ≠ b) := Lib.hid (Nat.ne_of_gt hb.lt)
  have Hlen := Lib.hid hlen
  clear hB hb hlen
  simp only [Tree.val, Tree.k, Tree.pos, Tree.col, Tree.op, Tree.v, zeroVal]
  go_enter Tryz.func28, Tryz.ntmps28
  go_upto_region 1 with fail
  generalize hW : World.alloc w _ = W
  have H0 : Hid (Wr w0 w W b l) := by rw [← hW]; exact W0
  have Y0 : Hid (Box W w.heap.size (Tree.mk 3 p [] 0 zeroVal [x]) (some ⟨g, off, none⟩) 1 ac) := by rw [← hW]; exact X0
  clear hW W0 X0
  have hbx0 := Y0.out.k
  obtain ⟨c0, -, c7, c8⟩ := hbx0
  simp only [Tree.k, Tree.op] at c0 c7
  have hc := Lib.hid (wopen_any w0.heap.size b (l) W H0.out.wb (by have := Hlen.out; simp [printT, printTs, printK, opTextL] at this; simp [ByteArray.size]; omega) (HB.out.trans H0.out.bel).size)
  go_wp2_with fail
  refine hc.out.mono ?_
  clear hc
  rintro e w1 ⟨rfl, hb1, hbel1, hk1⟩
  have H1 := Lib.hid (H0.out.step hb1 hbel1 hk1)
  have Y1 := Lib.hid (Y0.out.kept HV.out hk1)
  clear hb1 hbel1 hk1 c0 c7 c8
  have hq0 := HA.out.map (w' := w1) fun i v hc => ((HB.out.trans H1.out.bel).cell (World.block_lt_of_cell? _ _ hc)).trans hc
  obtain ⟨q0, q1, q2, q3, q4, q5, q6, q7, q8⟩ := hq0
  have hbx1 := Y1.out.k
  obtain ⟨c0, -, c7, c8⟩ := hbx1
  simp only [Tree.k, Tree.op] at c0 c7
  have hc := Lib.hid (Ix w1 b (l ++ [40]) S pa0 pn0 pc0 (HB.out.trans H1.out.bel) H1.out.wb HKA.out (by have := Hlen.out; simp [printT, printTs, printK, opTextL] at this; simp [ByteArray.size]; omega))
  go_wp2_with fail
  refine hc.out.mono ?_
  clear hc
  rintro e w2 ⟨rfl, hb2, hbel2, hk2⟩
  have H2 := Lib.hid (H1.out.step hb2 hbel2 hk2)
  have Y2 := Lib.hid (Y1.out.kept HV.out hk2)
  clear hb2 hbel2 hk2 c0 c7 c8 q0 q1 q2 q3 q4 q5 q6 q7 q8
  have hbx2 := Y2.out.k
  obtain ⟨c0, -, c7, c8⟩ := hbx2
  simp only [Tree.k, Tree.op] at c0 c7
  have hc := Lib.hid (bwrite_any w0.heap.size b (l ++ [40] ++ printT x) ⟨#[32, 105, 115, 32, 110, 117, 108, 108]⟩ w2 H2.out.wb (by have := Hlen.out; simp [printT, printTs, printK, opTextL] at this; simp [ByteArray.size]; omega) (HB.out.trans H2.out.bel).size)
  go_wp2_with fail
  refine hc.out.mono ?_
  clear hc
  rintro e w3 ⟨rfl, hb3, hbel3, hk3⟩
  have H3 := Lib.hid (H2.out.step hb3 hbel3 hk3)
  have Y3 := Lib.hid (Y2.out.kept HV.out hk3)
  clear hb3 hbel3 hk3 c0 c7 c8
  have hbx3 := Y3.out.k
  obtain ⟨c0, -, c7, c8⟩ := hbx3
  simp only [Tree.k, Tree.op] at c0 c7
  have hc := Lib.hid (wclose_any w0.heap.size b (l ++ [40] ++ printT x ++ (⟨#[32, 105, 115, 32, 110, 117, 108, 108]⟩ : ByteArray).data.toList) w3 H3.out.wb (by have := Hlen.out; simp [printT, printTs, printK, opTextL] at this; simp [ByteArray.size]; omega) (HB.out.trans H3.out.bel).size)
  go_wp2_with fail
  refine hc.out.mono ?_
  clear hc
  rintro e w9 ⟨rfl, hb9, hbel9, hk9⟩
  have H9 := Lib.hid (H3.out.step hb9 hbel9 hk9)
  clear hb9 hbel9 hk9 c0 c7 c8
  go_wp2_with fail
  go_end0
  refine ⟨rfl, ?_, H9.out.bel, H9.out.kept⟩
  have := H9.out.wb
  simpa [printT, printTs, printK, opTextL] using this
theorem index_op0 (w : World) : (Instr.index 89 (.agg #[.string ⟨#[61]⟩, .string ⟨#[33, 61]⟩, .string ⟨#[60]⟩, .string ⟨#[60, 61]⟩, .string ⟨#[62]⟩, .string ⟨#[62, 61]⟩]) (.int .i64 0)).run Tryz.prog w = .ok (.string ⟨#[61]⟩) w := by kernel_rfl
set_option maxHeartbeats 8000000 in
set_option maxRecDepth 100000 in
theorem write_cmp0 (w0 : World) (p : Int) (x y : Tree) (Ix : WriteC w0 x) (Iy : WriteC w0 y) : WriteC w0 (Tree.mk 2 p [] 0 zeroVal [x, y]) := by
  intro w b l S aa an ac hB hb hk hlen
  have HB := Lib.hid hB
  have Hlt := Lib.hid hb.lt
  have HB0 : Hid (w0.heap.size ≤ w.heap.size) := Lib.hid hB.size
  cases hk with
  | on hS hz hn r =>
  rename_i g off
  cases r with
  | cons hA kA r =>
  rename_i pa0 pn0 pc0
  cases r with
  | cons hB2 kB r2 =>
  rename_i pa1 pn1 pc1
  have HA := Lib.hid hA; have HKA := Lib.hid kA; have HB2 := Lib.hid hB2; have HKB := Lib.hid kB
  clear hA kA hB2 kB r2 hS hz
  have hn2 : an = 2 := hn
  subst hn2
  clear hn
  have W0 : Hid (Wr w0 w (w.alloc (.cells ((Tree.mk 2 p [] 0 zeroVal [x, y]).cells (some ⟨g, off, none⟩) 2 ac) 31)) b l) := Lib.hid ⟨hb.alloc _, (Below.new w _).mono hB.size, (Lib.OthersKept.refl _ _ _).alloc _⟩
  have X0 := Lib.hid (Box.new w (Tree.mk 2 p [] 0 zeroVal [x, y]) (some ⟨g, off, none⟩) 2 ac)
  have HV : Hid (w.heap.size ≠ b) := Lib.hid (Nat.ne_of_gt hb.lt)
  have Hlen := Lib.hid hlen
  clear hB hb hlen
  simp only [Tree.val, Tree.k, Tree.pos, Tree.col, Tree.op, Tree.v, zeroVal]
  go_enter Tryz.func28, Tryz.ntmps28
  go_upto_region 1 with fail
  generalize hW : World.alloc w _ = W
  have H0 : Hid (Wr w0 w W b l) := by rw [← hW]; exact W0
  have Y0 : Hid (Box W w.heap.size (Tree.mk 2 p [] 0 zeroVal [x, y]) (some ⟨g, off, none⟩) 2 ac) := by rw [← hW]; exact X0
  clear hW W0 X0
  have hbx0 := Y0.out.k
  obtain ⟨c0, -, c7, c8⟩ := hbx0
  simp only [Tree.k, Tree.op] at c0 c7
  have hc := Lib.hid (wopen_any w0.heap.size b (l) W H0.out.wb (by have := Hlen.out; simp [printT, printTs, printK, opTextL] at this; simp [ByteArray.size]; omega) (HB.out.trans H0.out.bel).size)
  go_wp2_with fail
  refine hc.out.mono ?_
  clear hc
  rintro e w1 ⟨rfl, hb1, hbel1, hk1⟩
  have H1 := Lib.hid (H0.out.step hb1 hbel1 hk1)
  have Y1 := Lib.hid (Y0.out.kept HV.out hk1)
  clear hb1 hbel1 hk1 c0 c7 c8
  have hq0 := HA.out.map (w' := w1) fun i v hc => ((HB.out.trans H1.out.bel).cell (World.block_lt_of_cell? _ _ hc)).trans hc
  obtain ⟨q0, q1, q2, q3, q4, q5, q6, q7, q8⟩ := hq0
  have hbx1 := Y1.out.k
  obtain ⟨c0, -, c7, c8⟩ := hbx1
  simp only [Tree.k, Tree.op] at c0 c7
  have hc := Lib.hid (Ix w1 b (l ++ [40]) S pa0 pn0 pc0 (HB.out.trans H1.out.bel) H1.out.wb HKA.out (by have := Hlen.out; simp [printT, printTs, printK, opTextL] at this; simp [ByteArray.size]; omega))
  go_wp2_with fail
  refine hc.out.mono ?_
  clear hc
  rintro e w2 ⟨rfl, hb2, hbel2, hk2⟩
  have H2 := Lib.hid (H1.out.step hb2 hbel2 hk2)
  have Y2 := Lib.hid (Y1.out.kept HV.out hk2)
  clear hb2 hbel2 hk2 c0 c7 c8 q0 q1 q2 q3 q4 q5 q6 q7 q8
  have hix := index_op0
  have hbx2 := Y2.out.k
  obtain ⟨c0, -, c7, c8⟩ := hbx2
  simp only [Tree.k, Tree.op] at c0 c7
  have hc := Lib.hid (bwrite_any w0.heap.size b (l ++ [40] ++ printT x) ⟨#[32, 61, 32]⟩ w2 H2.out.wb (by have := Hlen.out; simp [printT, printTs, printK, opTextL] at this; simp [ByteArray.size]; omega) (HB.out.trans H2.out.bel).size)
  go_wp2_with fail
  refine hc.out.mono ?_
  clear hc
  rintro e w3 ⟨rfl, hb3, hbel3, hk3⟩
  have H3 := Lib.hid (H2.out.step hb3 hbel3 hk3)
  have Y3 := Lib.hid (Y2.out.kept HV.out hk3)
  clear hb3 hbel3 hk3 c0 c7 c8
  have hq1 := HB2.out.map (w' := w3) fun i v hc => ((HB.out.trans H3.out.bel).cell (World.block_lt_of_cell? _ _ hc)).trans hc
  obtain ⟨q0, q1, q2, q3, q4, q5, q6, q7, q8⟩ := hq1
  have hbx3 := Y3.out.k
  obtain ⟨c0, -, c7, c8⟩ := hbx3
  simp only [Tree.k, Tree.op] at c0 c7
  have hc := Lib.hid (Iy w3 b (l ++ [40] ++ printT x ++ (⟨#[32, 61, 32]⟩ : ByteArray).data.toList) S pa1 pn1 pc1 (HB.out.trans H3.out.bel) H3.out.wb HKB.out (by have := Hlen.out; simp [printT, printTs, printK, opTextL] at this; simp [ByteArray.size]; omega))
  go_wp2_with fail
  refine hc.out.mono ?_
  clear hc
  rintro e w4 ⟨rfl, hb4, hbel4, hk4⟩
  have H4 := Lib.hid (H3.out.step hb4 hbel4 hk4)
  have Y4 := Lib.hid (Y3.out.kept HV.out hk4)
  clear hb4 hbel4 hk4 c0 c7 c8 q0 q1 q2 q3 q4 q5 q6 q7 q8
  have hbx4 := Y4.out.k
  obtain ⟨c0, -, c7, c8⟩ := hbx4
  simp only [Tree.k, Tree.op] at c0 c7
  have hc := Lib.hid (wclose_any w0.heap.size b (l ++ [40] ++ printT x ++ (⟨#[32, 61, 32]⟩ : ByteArray).data.toList ++ printT y) w4 H4.out.wb (by have := Hlen.out; simp [printT, printTs, printK, opTextL] at this; simp [ByteArray.size]; omega) (HB.out.trans H4.out.bel).size)
  go_wp2_with fail
  refine hc.out.mono ?_
  clear hc
  rintro e w9 ⟨rfl, hb9, hbel9, hk9⟩
  have H9 := Lib.hid (H4.out.step hb9 hbel9 hk9)
  clear hb9 hbel9 hk9 c0 c7 c8
  go_wp2_with fail
  go_end0
  refine ⟨rfl, ?_, H9.out.bel, H9.out.kept⟩
  have := H9.out.wb
  simpa [printT, printTs, printK, opTextL] using this
theorem index_op1 (w : World) : (Instr.index 89 (.agg #[.string ⟨#[61]⟩, .string ⟨#[33, 61]⟩, .string ⟨#[60]⟩, .string ⟨#[60, 61]⟩, .string ⟨#[62]⟩, .string ⟨#[62, 61]⟩]) (.int .i64 1)).run Tryz.prog w = .ok (.string ⟨#[33, 61]⟩) w := by kernel_rfl
set_option maxHeartbeats 8000000 in
set_option maxRecDepth 100000 in
theorem write_cmp1 (w0 : World) (p : Int) (x y : Tree) (Ix : WriteC w0 x) (Iy : WriteC w0 y) : WriteC w0 (Tree.mk 2 p [] 1 zeroVal [x, y]) := by
  intro w b l S aa an ac hB hb hk hlen
  have HB := Lib.hid hB
  have Hlt := Lib.hid hb.lt
  have HB0 : Hid (w0.heap.size ≤ w.heap.size) := Lib.hid hB.size
  cases hk with
  | on hS hz hn r =>
  rename_i g off
  cases r with
  | cons hA kA r =>
  rename_i pa0 pn0 pc0
  cases r with
  | cons hB2 kB r2 =>
  rename_i pa1 pn1 pc1
  have HA := Lib.hid hA; have HKA := Lib.hid kA; have HB2 := Lib.hid hB2; have HKB := Lib.hid kB
  clear hA kA hB2 kB r2 hS hz
  have hn2 : an = 2 := hn
  subst hn2
  clear hn
  have W0 : Hid (Wr w0 w (w.alloc (.cells ((Tree.mk 2 p [] 1 zeroVal [x, y]).cells (some ⟨g, off, none⟩) 2 ac) 31)) b l) := Lib.hid ⟨hb.alloc _, (Below.new w _).mono hB.size, (Lib.OthersKept.refl _ _ _).alloc _⟩
  have X0 := Lib.hid (Box.new w (Tree.mk 2 p [] 1 zeroVal [x, y]) (some ⟨g, off, none⟩) 2 ac)
  have HV : Hid (w.heap.size ≠ b) := Lib.hid (Nat.ne_of_gt hb.lt)
  have Hlen := Lib.hid hlen
  clear hB hb hlen
  simp only [Tree.val, Tree.k, Tree.pos, Tree.col, Tree.op, Tree.v, zeroVal]
  go_enter Tryz.func28, Tryz.ntmps28
  go_upto_region 1 with fail
  generalize hW : World.alloc w _ = W
  have H0 : Hid (Wr w0 w W b l) := by rw [← hW]; exact W0
  have Y0 : Hid (Box W w.heap.size (Tree.mk 2 p [] 1 zeroVal [x, y]) (some ⟨g, off, none⟩) 2 ac) := by rw [← hW]; exact X0
  clear hW W0 X0
  have hbx0 := Y0.out.k
  obtain ⟨c0, -, c7, c8⟩ := hbx0
  simp only [Tree.k, Tree.op] at c0 c7
  have hc := Lib.hid (wopen_any w0.heap.size b (l) W H0.out.wb (by have := Hlen.out; simp [printT, printTs, printK, opTextL] at this; simp [ByteArray.size]; omega) (HB.out.trans H0.out.bel).size)
  go_wp2_with fail
  refine hc.out.mono ?_
  clear hc
  rintro e w1 ⟨rfl, hb1, hbel1, hk1⟩
  have H1 := Lib.hid (H0.out.step hb1 hbel1 hk1)
  have Y1 := Lib.hid (Y0.out.kept HV.out hk1)
  clear hb1 hbel1 hk1 c0 c7 c8
  have hq0 := HA.out.map (w' := w1) fun i v hc => ((HB.out.trans H1.out.bel).cell (World.block_lt_of_cell? _ _ hc)).trans hc
  obtain ⟨q0, q1, q2, q3, q4, q5, q6, q7, q8⟩ := hq0
  have hbx1 := Y1.out.k
  obtain ⟨c0, -, c7, c8⟩ := hbx1
  simp only [Tree.k, Tree.op] at c0 c7
  have hc := Lib.hid (Ix w1 b (l ++ [40]) S pa0 pn0 pc0 (HB.out.trans H1.out.bel) H1.out.wb HKA.out (by have := Hlen.out; simp [printT, printTs, printK, opTextL] at this; simp [ByteArray.size]; omega))
  go_wp2_with fail
  refine hc.out.mono ?_
  clear hc
  rintro e w2 ⟨rfl, hb2, hbel2, hk2⟩
  have H2 := Lib.hid (H1.out.step hb2 hbel2 hk2)
  have Y2 := Lib.hid (Y1.out.kept HV.out hk2)
  clear hb2 hbel2 hk2 c0 c7 c8 q0 q1 q2 q3 q4 q5 q6 q7 q8
  have hix := index_op1
  have hbx2 := Y2.out.k
  obtain ⟨c0, -, c7, c8⟩ := hbx2
  simp only [Tree.k, Tree.op] at c0 c7
  have hc := Lib.hid (bwrite_any w0.heap.size b (l ++ [40] ++ printT x) ⟨#[32, 33, 61, 32]⟩ w2 H2.out.wb (by have := Hlen.out; simp [printT, printTs, printK, opTextL] at this; simp [ByteArray.size]; omega) (HB.out.trans H2.out.bel).size)
  go_wp2_with fail
  refine hc.out.mono ?_
  clear hc
  rintro e w3 ⟨rfl, hb3, hbel3, hk3⟩
  have H3 := Lib.hid (H2.out.step hb3 hbel3 hk3)
  have Y3 := Lib.hid (Y2.out.kept HV.out hk3)
  clear hb3 hbel3 hk3 c0 c7 c8
  have hq1 := HB2.out.map (w' := w3) fun i v hc => ((HB.out.trans H3.out.bel).cell (World.block_lt_of_cell? _ _ hc)).trans hc
  obtain ⟨q0, q1, q2, q3, q4, q5, q6, q7, q8⟩ := hq1
  have hbx3 := Y3.out.k
  obtain ⟨c0, -, c7, c8⟩ := hbx3
  simp only [Tree.k, Tree.op] at c0 c7
  have hc := Lib.hid (Iy w3 b (l ++ [40] ++ printT x ++ (⟨#[32, 33, 61, 32]⟩ : ByteArray).data.toList) S pa1 pn1 pc1 (HB.out.trans H3.out.bel) H3.out.wb HKB.out (by have := Hlen.out; simp [printT, printTs, printK, opTextL] at this; simp [ByteArray.size]; omega))
  go_wp2_with fail
  refine hc.out.mono ?_
  clear hc
  rintro e w4 ⟨rfl, hb4, hbel4, hk4⟩
  have H4 := Lib.hid (H3.out.step hb4 hbel4 hk4)
  have Y4 := Lib.hid (Y3.out.kept HV.out hk4)
  clear hb4 hbel4 hk4 c0 c7 c8 q0 q1 q2 q3 q4 q5 q6 q7 q8
  have hbx4 := Y4.out.k
  obtain ⟨c0, -, c7, c8⟩ := hbx4
  simp only [Tree.k, Tree.op] at c0 c7
  have hc := Lib.hid (wclose_any w0.heap.size b (l ++ [40] ++ printT x ++ (⟨#[32, 33, 61, 32]⟩ : ByteArray).data.toList ++ printT y) w4 H4.out.wb (by have := Hlen.out; simp [printT, printTs, printK, opTextL] at this; simp [ByteArray.size]; omega) (HB.out.trans H4.out.bel).size)
  go_wp2_with fail
  refine hc.out.mono ?_
  clear hc
  rintro e w9 ⟨rfl, hb9, hbel9, hk9⟩
  have H9 := Lib.hid (H4.out.step hb9 hbel9 hk9)
  clear hb9 hbel9 hk9 c0 c7 c8
  go_wp2_with fail
  go_end0
  refine ⟨rfl, ?_, H9.out.bel, H9.out.kept⟩
  have := H9.out.wb
  simpa [printT, printTs, printK, opTextL] using this
theorem index_op2 (w : World) : (Instr.index 89 (.agg #[.string ⟨#[61]⟩, .string ⟨#[33, 61]⟩, .string ⟨#[60]⟩, .string ⟨#[60, 61]⟩, .string ⟨#[62]⟩, .string ⟨#[62, 61]⟩]) (.int .i64 2)).run Tryz.prog w = .ok (.string ⟨#[60]⟩) w := by kernel_rfl
set_option maxHeartbeats 8000000 in
set_option maxRecDepth 100000 in
theorem write_cmp2 (w0 : World) (p : Int) (x y : Tree) (Ix : WriteC w0 x) (Iy : WriteC w0 y) : WriteC w0 (Tree.mk 2 p [] 2 zeroVal [x, y]) := by
  intro w b l S aa an ac hB hb hk hlen
  have HB := Lib.hid hB
  have Hlt := Lib.hid hb.lt
  have HB0 : Hid (w0.heap.size ≤ w.heap.size) := Lib.hid hB.size
  cases hk with
  | on hS hz hn r =>
  rename_i g off
  cases r with
  | cons hA kA r =>
  rename_i pa0 pn0 pc0
  cases r with
  | cons hB2 kB r2 =>
  rename_i pa1 pn1 pc1
  have HA := Lib.hid hA; have HKA := Lib.hid kA; have HB2 := Lib.hid hB2; have HKB := Lib.hid kB
  clear hA kA hB2 kB r2 hS hz
  have hn2 : an = 2 := hn
  subst hn2
  clear hn
  have W0 : Hid (Wr w0 w (w.alloc (.cells ((Tree.mk 2 p [] 2 zeroVal [x, y]).cells (some ⟨g, off, none⟩) 2 ac) 31)) b l) := Lib.hid ⟨hb.alloc _, (Below.new w _).mono hB.size, (Lib.OthersKept.refl _ _ _).alloc _⟩
  have X0 := Lib.hid (Box.new w (Tree.mk 2 p [] 2 zeroVal [x, y]) (some ⟨g, off, none⟩) 2 ac)
  have HV : Hid (w.heap.size ≠ b) := Lib.hid (Nat.ne_of_gt hb.lt)
  have Hlen := Lib.hid hlen
  clear hB hb hlen
  simp only [Tree.val, Tree.k, Tree.pos, Tree.col, Tree.op, Tree.v, zeroVal]
  go_enter Tryz.func28, Tryz.ntmps28
  go_upto_region 1 with fail
  generalize hW : World.alloc w _ = W
  have H0 : Hid (Wr w0 w W b l) := by rw [← hW]; exact W0
  have Y0 : Hid (Box W w.heap.size (Tree.mk 2 p [] 2 zeroVal [x, y]) (some ⟨g, off, none⟩) 2 ac) := by rw [← hW]; exact X0
  clear hW W0 X0
  have hbx0 := Y0.out.k
  obtain ⟨c0, -, c7, c8⟩ := hbx0
  simp only [Tree.k, Tree.op] at c0 c7
  have hc := Lib.hid (wopen_any w0.heap.size b (l) W H0.out.wb (by have := Hlen.out; simp [printT, printTs, printK, opTextL] at this; simp [ByteArray.size]; omega) (HB.out.trans H0.out.bel).size)
  go_wp2_with fail
  refine hc.out.mono ?_
  clear hc
  rintro e w1 ⟨rfl, hb1, hbel1, hk1⟩
  have H1 := Lib.hid (H0.out.step hb1 hbel1 hk1)
  have Y1 := Lib.hid (Y0.out.kept HV.out hk1)
  clear hb1 hbel1 hk1 c0 c7 c8
  have hq0 := HA.out.map (w' := w1) fun i v hc => ((HB.out.trans H1.out.bel).cell (World.block_lt_of_cell? _ _ hc)).trans hc
  obtain ⟨q0, q1, q2, q3, q4, q5, q6, q7, q8⟩ := hq0
  have hbx1 := Y1.out.k
  obtain ⟨c0, -, c7, c8⟩ := hbx1
  simp only [Tree.k, Tree.op] at c0 c7
  have hc := Lib.hid (Ix w1 b (l ++ [40]) S pa0 pn0 pc0 (HB.out.trans H1.out.bel) H1.out.wb HKA.out (by have := Hlen.out; simp [printT, printTs, printK, opTextL] at this; simp [ByteArray.size]; omega))
  go_wp2_with fail
  refine hc.out.mono ?_
  clear hc
  rintro e w2 ⟨rfl, hb2, hbel2, hk2⟩
  have H2 := Lib.hid (H1.out.step hb2 hbel2 hk2)
  have Y2 := Lib.hid (Y1.out.kept HV.out hk2)
  clear hb2 hbel2 hk2 c0 c7 c8 q0 q1 q2 q3 q4 q5 q6 q7 q8
  have hix := index_op2
  have hbx2 := Y2.out.k
  obtain ⟨c0, -, c7, c8⟩ := hbx2
  simp only [Tree.k, Tree.op] at c0 c7
  have hc := Lib.hid (bwrite_any w0.heap.size b (l ++ [40] ++ printT x) ⟨#[32, 60, 32]⟩ w2 H2.out.wb (by have := Hlen.out; simp [printT, printTs, printK, opTextL] at this; simp [ByteArray.size]; omega) (HB.out.trans H2.out.bel).size)
  go_wp2_with fail
  refine hc.out.mono ?_
  clear hc
  rintro e w3 ⟨rfl, hb3, hbel3, hk3⟩
  have H3 := Lib.hid (H2.out.step hb3 hbel3 hk3)
  have Y3 := Lib.hid (Y2.out.kept HV.out hk3)
  clear hb3 hbel3 hk3 c0 c7 c8
  have hq1 := HB2.out.map (w' := w3) fun i v hc => ((HB.out.trans H3.out.bel).cell (World.block_lt_of_cell? _ _ hc)).trans hc
  obtain ⟨q0, q1, q2, q3, q4, q5, q6, q7, q8⟩ := hq1
  have hbx3 := Y3.out.k
  obtain ⟨c0, -, c7, c8⟩ := hbx3
  simp only [Tree.k, Tree.op] at c0 c7
  have hc := Lib.hid (Iy w3 b (l ++ [40] ++ printT x ++ (⟨#[32, 60, 32]⟩ : ByteArray).data.toList) S pa1 pn1 pc1 (HB.out.trans H3.out.bel) H3.out.wb HKB.out (by have := Hlen.out; simp [printT, printTs, printK, opTextL] at this; simp [ByteArray.size]; omega))
  go_wp2_with fail
  refine hc.out.mono ?_
  clear hc
  rintro e w4 ⟨rfl, hb4, hbel4, hk4⟩
  have H4 := Lib.hid (H3.out.step hb4 hbel4 hk4)
  have Y4 := Lib.hid (Y3.out.kept HV.out hk4)
  clear hb4 hbel4 hk4 c0 c7 c8 q0 q1 q2 q3 q4 q5 q6 q7 q8
  have hbx4 := Y4.out.k
  obtain ⟨c0, -, c7, c8⟩ := hbx4
  simp only [Tree.k, Tree.op] at c0 c7
  have hc := Lib.hid (wclose_any w0.heap.size b (l ++ [40] ++ printT x ++ (⟨#[32, 60, 32]⟩ : ByteArray).data.toList ++ printT y) w4 H4.out.wb (by have := Hlen.out; simp [printT, printTs, printK, opTextL] at this; simp [ByteArray.size]; omega) (HB.out.trans H4.out.bel).size)
  go_wp2_with fail
  refine hc.out.mono ?_
  clear hc
  rintro e w9 ⟨rfl, hb9, hbel9, hk9⟩
  have H9 := Lib.hid (H4.out.step hb9 hbel9 hk9)
  clear hb9 hbel9 hk9 c0 c7 c8
  go_wp2_with fail
  go_end0
  refine ⟨rfl, ?_, H9.out.bel, H9.out.kept⟩
  have := H9.out.wb
  simpa [printT, printTs, printK, opTextL] using this
theorem index_op3 (w : World) : (Instr.index 89 (.agg #[.string ⟨#[61]⟩, .string ⟨#[33, 61]⟩, .string ⟨#[60]⟩, .string ⟨#[60, 61]⟩, .string ⟨#[62]⟩, .string ⟨#[62, 61]⟩]) (.int .i64 3)).run Tryz.prog w = .ok (.string ⟨#[60, 61]⟩) w := by kernel_rfl
set_option maxHeartbeats 8000000 in
set_option maxRecDepth 100000 in
theorem write_cmp3 (w0 : World) (p : Int) (x y : Tree) (Ix : WriteC w0 x) (Iy : WriteC w0 y) : WriteC w0 (Tree.mk 2 p [] 3 zeroVal [x, y]) := by
  intro w b l S aa an ac hB hb hk hlen
  have HB := Lib.hid hB
  have Hlt := Lib.hid hb.lt
  have HB0 : Hid (w0.heap.size ≤ w.heap.size) := Lib.hid hB.size
  cases hk with
  | on hS hz hn r =>
  rename_i g off
  cases r with
  | cons hA kA r =>
  rename_i pa0 pn0 pc0
  cases r with
  | cons hB2 kB r2 =>
  rename_i pa1 pn1 pc1
  have HA := Lib.hid hA; have HKA := Lib.hid kA; have HB2 := Lib.hid hB2; have HKB := Lib.hid kB
  clear hA kA hB2 kB r2 hS hz
  have hn2 : an = 2 := hn
  subst hn2
  clear hn
  have W0 : Hid (Wr w0 w (w.alloc (.cells ((Tree.mk 2 p [] 3 zeroVal [x, y]).cells (some ⟨g, off, none⟩) 2 ac) 31)) b l) := Lib.hid ⟨hb.alloc _, (Below.new w _).mono hB.size, (Lib.OthersKept.refl _ _ _).alloc _⟩
  have X0 := Lib.hid (Box.new w (Tree.mk 2 p [] 3 zeroVal [x, y]) (some ⟨g, off, none⟩) 2 ac)
  have HV : Hid (w.heap.size ≠ b) := Lib.hid (Nat.ne_of_gt hb.lt)
  have Hlen := Lib.hid hlen
  clear hB hb hlen
  simp only [Tree.val, Tree.k, Tree.pos, Tree.col, Tree.op, Tree.v, zeroVal]
  go_enter Tryz.func28, Tryz.ntmps28
  go_upto_region 1 with fail
  generalize hW : World.alloc w _ = W
  have H0 : Hid (Wr w0 w W b l) := by rw [← hW]; exact W0
  have Y0 : Hid (Box W w.heap.size (Tree.mk 2 p [] 3 zeroVal [x, y]) (some ⟨g, off, none⟩) 2 ac) := by rw [← hW]; exact X0
  clear hW W0 X0
  have hbx0 := Y0.out.k
  obtain ⟨c0, -, c7, c8⟩ := hbx0
  simp only [Tree.k, Tree.op] at c0 c7
  have hc := Lib.hid (wopen_any w0.heap.size b (l) W H0.out.wb (by have := Hlen.out; simp [printT, printTs, printK, opTextL] at this; simp [ByteArray.size]; omega) (HB.out.trans H0.out.bel).size)
  go_wp2_with fail
  refine hc.out.mono ?_
  clear hc
  rintro e w1 ⟨rfl, hb1, hbel1, hk1⟩
  have H1 := Lib.hid (H0.out.step hb1 hbel1 hk1)
  have Y1 := Lib.hid (Y0.out.kept HV.out hk1)
  clear hb1 hbel1 hk1 c0 c7 c8
  have hq0 := HA.out.map (w' := w1) fun i v hc => ((HB.out.trans H1.out.bel).cell (World.block_lt_of_cell? _ _ hc)).trans hc
  obtain ⟨q0, q1, q2, q3, q4, q5, q6, q7, q8⟩ := hq0
  have hbx1 := Y1.out.k
  obtain ⟨c0, -, c7, c8⟩ := hbx1
  simp only [Tree.k, Tree.op] at c0 c7
  have hc := Lib.hid (Ix w1 b (l ++ [40]) S pa0 pn0 pc0 (HB.out.trans H1.out.bel) H1.out.wb HKA.out (by have := Hlen.out; simp [printT, printTs, printK, opTextL] at this; simp [ByteArray.size]; omega))
  go_wp2_with fail
  refine hc.out.mono ?_
  clear hc
  rintro e w2 ⟨rfl, hb2, hbel2, hk2⟩
  have H2 := Lib.hid (H1.out.step hb2 hbel2 hk2)
  have Y2 := Lib.hid (Y1.out.kept HV.out hk2)
  clear hb2 hbel2 hk2 c0 c7 c8 q0 q1 q2 q3 q4 q5 q6 q7 q8
  have hix := index_op3
  have hbx2 := Y2.out.k
  obtain ⟨c0, -, c7, c8⟩ := hbx2
  simp only [Tree.k, Tree.op] at c0 c7
  have hc := Lib.hid (bwrite_any w0.heap.size b (l ++ [40] ++ printT x) ⟨#[32, 60, 61, 32]⟩ w2 H2.out.wb (by have := Hlen.out; simp [printT, printTs, printK, opTextL] at this; simp [ByteArray.size]; omega) (HB.out.trans H2.out.bel).size)
  go_wp2_with fail
  refine hc.out.mono ?_
  clear hc
  rintro e w3 ⟨rfl, hb3, hbel3, hk3⟩
  have H3 := Lib.hid (H2.out.step hb3 hbel3 hk3)
  have Y3 := Lib.hid (Y2.out.kept HV.out hk3)
  clear hb3 hbel3 hk3 c0 c7 c8
  have hq1 := HB2.out.map (w' := w3) fun i v hc => ((HB.out.trans H3.out.bel).cell (World.block_lt_of_cell? _ _ hc)).trans hc
  obtain ⟨q0, q1, q2, q3, q4, q5, q6, q7, q8⟩ := hq1
  have hbx3 := Y3.out.k
  obtain ⟨c0, -, c7, c8⟩ := hbx3
  simp only [Tree.k, Tree.op] at c0 c7
  have hc := Lib.hid (Iy w3 b (l ++ [40] ++ printT x ++ (⟨#[32, 60, 61, 32]⟩ : ByteArray).data.toList) S pa1 pn1 pc1 (HB.out.trans H3.out.bel) H3.out.wb HKB.out (by have := Hlen.out; simp [printT, printTs, printK, opTextL] at this; simp [ByteArray.size]; omega))
  go_wp2_with fail
  refine hc.out.mono ?_
  clear hc
  rintro e w4 ⟨rfl, hb4, hbel4, hk4⟩
  have H4 := Lib.hid (H3.out.step hb4 hbel4 hk4)
  have Y4 := Lib.hid (Y3.out.kept HV.out hk4)
  clear hb4 hbel4 hk4 c0 c7 c8 q0 q1 q2 q3 q4 q5 q6 q7 q8
  have hbx4 := Y4.out.k
  obtain ⟨c0, -, c7, c8⟩ := hbx4
  simp only [Tree.k, Tree.op] at c0 c7
  have hc := Lib.hid (wclose_any w0.heap.size b (l ++ [40] ++ printT x ++ (⟨#[32, 60, 61, 32]⟩ : ByteArray).data.toList ++ printT y) w4 H4.out.wb (by have := Hlen.out; simp [printT, printTs, printK, opTextL] at this; simp [ByteArray.size]; omega) (HB.out.trans H4.out.bel).size)
  go_wp2_with fail
  refine hc.out.mono ?_
  clear hc
  rintro e w9 ⟨rfl, hb9, hbel9, hk9⟩
  have H9 := Lib.hid (H4.out.step hb9 hbel9 hk9)
  clear hb9 hbel9 hk9 c0 c7 c8
  go_wp2_with fail
  go_end0
  refine ⟨rfl, ?_, H9.out.bel, H9.out.kept⟩
  have := H9.out.wb
  simpa [printT, printTs, printK, opTextL] using this
theorem index_op4 (w : World) : (Instr.index 89 (.agg #[.string ⟨#[61]⟩, .string ⟨#[33, 61]⟩, .string ⟨#[60]⟩, .string ⟨#[60, 61]⟩, .string ⟨#[62]⟩, .string ⟨#[62, 61]⟩]) (.int .i64 4)).run Tryz.prog w = .ok (.string ⟨#[62]⟩) w := by kernel_rfl
set_option maxHeartbeats 8000000 in
set_option maxRecDepth 100000 in
theorem write_cmp4 (w0 : World) (p : Int) (x y : Tree) (Ix : WriteC w0 x) (Iy : WriteC w0 y) : WriteC w0 (Tree.mk 2 p [] 4 zeroVal [x, y]) := by
  intro w b l S aa an ac hB hb hk hlen
  have HB := Lib.hid hB
  have Hlt := Lib.hid hb.lt
  have HB0 : Hid (w0.heap.size ≤ w.heap.size) := Lib.hid hB.size
  cases hk with
  | on hS hz hn r =>
  rename_i g off
  cases r with
  | cons hA kA r =>
  rename_i pa0 pn0 pc0
  cases r with
  | cons hB2 kB r2 =>
  rename_i pa1 pn1 pc1
  have HA := Lib.hid hA; have HKA := Lib.hid kA; have HB2 := Lib.hid hB2; have HKB := Lib.hid kB
  clear hA kA hB2 kB r2 hS hz
  have hn2 : an = 2 := hn
  subst hn2
  clear hn
  have W0 : Hid (Wr w0 w (w.alloc (.cells ((Tree.mk 2 p [] 4 zeroVal [x, y]).cells (some ⟨g, off, none⟩) 2 ac) 31)) b l) := Lib.hid ⟨hb.alloc _, (Below.new w _).mono hB.size, (Lib.OthersKept.refl _ _ _).alloc _⟩
  have X0 := Lib.hid (Box.new w (Tree.mk 2 p [] 4 zeroVal [x, y]) (some ⟨g, off, none⟩) 2 ac)
  have HV : Hid (w.heap.size ≠ b) := Lib.hid (Nat.ne_of_gt hb.lt)
  have Hlen := Lib.hid hlen
  clear hB hb hlen
  simp only [Tree.val, Tree.k, Tree.pos, Tree.col, Tree.op, Tree.v, zeroVal]
  go_enter Tryz.func28, Tryz.ntmps28
  go_upto_region 1 with fail
  generalize hW : World.alloc w _ = W
  have H0 : Hid (Wr w0 w W b l) := by rw [← hW]; exact W0
  have Y0 : Hid (Box W w.heap.size (Tree.mk 2 p [] 4 zeroVal [x, y]) (some ⟨g, off, none⟩) 2 ac) := by rw [← hW]; exact X0
  clear hW W0 X0
  have hbx0 := Y0.out.k
  obtain ⟨c0, -, c7, c8⟩ := hbx0
  simp only [Tree.k, Tree.op] at c0 c7
  have hc := Lib.hid (wopen_any w0.heap.size b (l) W H0.out.wb (by have := Hlen.out; simp [printT, printTs, printK, opTextL] at this; simp [ByteArray.size]; omega) (HB.out.trans H0.out.bel).size)
  go_wp2_with fail
  refine hc.out.mono ?_
  clear hc
  rintro e w1 ⟨rfl, hb1, hbel1, hk1⟩
  have H1 := Lib.hid (H0.out.step hb1 hbel1 hk1)
  have Y1 := Lib.hid (Y0.out.kept HV.out hk1)
  clear hb1 hbel1 hk1 c0 c7 c8
  have hq0 := HA.out.map (w' := w1) fun i v hc => ((HB.out.trans H1.out.bel).cell (World.block_lt_of_cell? _ _ hc)).trans hc
  obtain ⟨q0, q1, q2, q3, q4, q5, q6, q7, q8⟩ := hq0
  have hbx1 := Y1.out.k
  obtain ⟨c0, -, c7, c8⟩ := hbx1
  simp only [Tree.k, Tree.op] at c0 c7
  have hc := Lib.hid (Ix w1 b (l ++ [40]) S pa0 pn0 pc0 (HB.out.trans H1.out.bel) H1.out.wb HKA.out (by have := Hlen.out; simp [printT, printTs, printK, opTextL] at this; simp [ByteArray.size]; omega))
  go_wp2_with fail
  refine hc.out.mono ?_
  clear hc
  rintro e w2 ⟨rfl, hb2, hbel2, hk2⟩
  have H2 := Lib.hid (H1.out.step hb2 hbel2 hk2)
  have Y2 := Lib.hid (Y1.out.kept HV.out hk2)
  clear hb2 hbel2 hk2 c0 c7 c8 q0 q1 q2 q3 q4 q5 q6 q7 q8
  have hix := index_op4
  have hbx2 := Y2.out.k
  obtain ⟨c0, -, c7, c8⟩ := hbx2
  simp only [Tree.k, Tree.op] at c0 c7
  have hc := Lib.hid (bwrite_any w0.heap.size b (l ++ [40] ++ printT x) ⟨#[32, 62, 32]⟩ w2 H2.out.wb (by have := Hlen.out; simp [printT, printTs, printK, opTextL] at this; simp [ByteArray.size]; omega) (HB.out.trans H2.out.bel).size)
  go_wp2_with fail
  refine hc.out.mono ?_
  clear hc
  rintro e w3 ⟨rfl, hb3, hbel3, hk3⟩
  have H3 := Lib.hid (H2.out.step hb3 hbel3 hk3)
  have Y3 := Lib.hid (Y2.out.kept HV.out hk3)
  clear hb3 hbel3 hk3 c0 c7 c8
  have hq1 := HB2.out.map (w' := w3) fun i v hc => ((HB.out.trans H3.out.bel).cell (World.block_lt_of_cell? _ _ hc)).trans hc
  obtain ⟨q0, q1, q2, q3, q4, q5, q6, q7, q8⟩ := hq1
  have hbx3 := Y3.out.k
  obtain ⟨c0, -, c7, c8⟩ := hbx3
  simp only [Tree.k, Tree.op] at c0 c7
  have hc := Lib.hid (Iy w3 b (l ++ [40] ++ printT x ++ (⟨#[32, 62, 32]⟩ : ByteArray).data.toList) S pa1 pn1 pc1 (HB.out.trans H3.out.bel) H3.out.wb HKB.out (by have := Hlen.out; simp [printT, printTs, printK, opTextL] at this; simp [ByteArray.size]; omega))
  go_wp2_with fail
  refine hc.out.mono ?_
  clear hc
  rintro e w4 ⟨rfl, hb4, hbel4, hk4⟩
  have H4 := Lib.hid (H3.out.step hb4 hbel4 hk4)
  have Y4 := Lib.hid (Y3.out.kept HV.out hk4)
  clear hb4 hbel4 hk4 c0 c7 c8 q0 q1 q2 q3 q4 q5 q6 q7 q8
  have hbx4 := Y4.out.k
  obtain ⟨c0, -, c7, c8⟩ := hbx4
  simp only [Tree.k, Tree.op] at c0 c7
  have hc := Lib.hid (wclose_any w0.heap.size b (l ++ [40] ++ printT x ++ (⟨#[32, 62, 32]⟩ : ByteArray).data.toList ++ printT y) w4 H4.out.wb (by have := Hlen.out; simp [printT, printTs, printK, opTextL] at this; simp [ByteArray.size]; omega) (HB.out.trans H4.out.bel).size)
  go_wp2_with fail
  refine hc.out.mono ?_
  clear hc
  rintro e w9 ⟨rfl, hb9, hbel9, hk9⟩
  have H9 := Lib.hid (H4.out.step hb9 hbel9 hk9)
  clear hb9 hbel9 hk9 c0 c7 c8
  go_wp2_with fail
  go_end0
  refine ⟨rfl, ?_, H9.out.bel, H9.out.kept⟩
  have := H9.out.wb
  simpa [printT, printTs, printK, opTextL] using this
theorem index_op5 (w : World) : (Instr.index 89 (.agg #[.string ⟨#[61]⟩, .string ⟨#[33, 61]⟩, .string ⟨#[60]⟩, .string ⟨#[60, 61]⟩, .string ⟨#[62]⟩, .string ⟨#[62, 61]⟩]) (.int .i64 5)).run Tryz.prog w = .ok (.string ⟨#[62, 61]⟩) w := by kernel_rfl
set_option maxHeartbeats 8000000 in
set_option maxRecDepth 100000 in
theorem write_cmp5 (w0 : World) (p : Int) (x y : Tree) (Ix : WriteC w0 x) (Iy : WriteC w0 y) : WriteC w0 (Tree.mk 2 p [] 5 zeroVal [x, y]) := by
  intro w b l S aa an ac hB hb hk hlen
  have HB := Lib.hid hB
  have Hlt := Lib.hid hb.lt
  have HB0 : Hid (w0.heap.size ≤ w.heap.size) := Lib.hid hB.size
  cases hk with
  | on hS hz hn r =>
  rename_i g off
  cases r with
  | cons hA kA r =>
  rename_i pa0 pn0 pc0
  cases r with
  | cons hB2 kB r2 =>
  rename_i pa1 pn1 pc1
  have HA := Lib.hid hA; have HKA := Lib.hid kA; have HB2 := Lib.hid hB2; have HKB := Lib.hid kB
  clear hA kA hB2 kB r2 hS hz
  have hn2 : an = 2 := hn
  subst hn2
  clear hn
  have W0 : Hid (Wr w0 w (w.alloc (.cells ((Tree.mk 2 p [] 5 zeroVal [x, y]).cells (some ⟨g, off, none⟩) 2 ac) 31)) b l) := Lib.hid ⟨hb.alloc _, (Below.new w _).mono hB.size, (Lib.OthersKept.refl _ _ _).alloc _⟩
  have X0 := Lib.hid (Box.new w (Tree.mk 2 p [] 5 zeroVal [x, y]) (some ⟨g, off, none⟩) 2 ac)
  have HV : Hid (w.heap.size ≠ b) := Lib.hid (Nat.ne_of_gt hb.lt)
  have Hlen := Lib.hid hlen
  clear hB hb hlen
  simp only [Tree.val, Tree.k, Tree.pos, Tree.col, Tree.op, Tree.v, zeroVal]
  go_enter Tryz.func28, Tryz.ntmps28
  go_upto_region 1 with fail
  generalize hW : World.alloc w _ = W
  have H0 : Hid (Wr w0 w W b l) := by rw [← hW]; exact W0
  have Y0 : Hid (Box W w.heap.size (Tree.mk 2 p [] 5 zeroVal [x, y]) (some ⟨g, off, none⟩) 2 ac) := by rw [← hW]; exact X0
  clear hW W0 X0
  have hbx0 := Y0.out.k
  obtain ⟨c0, -, c7, c8⟩ := hbx0
  simp only [Tree.k, Tree.op] at c0 c7
  have hc := Lib.hid (wopen_any w0.heap.size b (l) W H0.out.wb (by have := Hlen.out; simp [printT, printTs, printK, opTextL] at this; simp [ByteArray.size]; omega) (HB.out.trans H0.out.bel).size)
  go_wp2_with fail
  refine hc.out.mono ?_
  clear hc
  rintro e w1 ⟨rfl, hb1, hbel1, hk1⟩
  have H1 := Lib.hid (H0.out.step hb1 hbel1 hk1)
  have Y1 := Lib.hid (Y0.out.kept HV.out hk1)
  clear hb1 hbel1 hk1 c0 c7 c8
  have hq0 := HA.out.map (w' := w1) fun i v hc => ((HB.out.trans H1.out.bel).cell (World.block_lt_of_cell? _ _ hc)).trans hc
  obtain ⟨q0, q1, q2, q3, q4, q5, q6, q7, q8⟩ := hq0
  have hbx1 := Y1.out.k
  obtain ⟨c0, -, c7, c8⟩ := hbx1
  simp only [Tree.k, Tree.op] at c0 c7
  have hc := Lib.hid (Ix w1 b (l ++ [40]) S pa0 pn0 pc0 (HB.out.trans H1.out.bel) H1.out.wb HKA.out (by have := Hlen.out; simp [printT, printTs, printK, opTextL] at this; simp [ByteArray.size]; omega))
  go_wp2_with fail
  refine hc.out.mono ?_
  clear hc
  rintro e w2 ⟨rfl, hb2, hbel2, hk2⟩
  have H2 := Lib.hid (H1.out.step hb2 hbel2 hk2)
  have Y2 := Lib.hid (Y1.out.kept HV.out hk2)
  clear hb2 hbel2 hk2 c0 c7 c8 q0 q1 q2 q3 q4 q5 q6 q7 q8
  have hix := index_op5
  have hbx2 := Y2.out.k
  obtain ⟨c0, -, c7, c8⟩ := hbx2
  simp only [Tree.k, Tree.op] at c0 c7
  have hc := Lib.hid (bwrite_any w0.heap.size b (l ++ [40] ++ printT x) ⟨#[32, 62, 61, 32]⟩ w2 H2.out.wb (by have := Hlen.out; simp [printT, printTs, printK, opTextL] at this; simp [ByteArray.size]; omega) (HB.out.trans H2.out.bel).size)
  go_wp2_with fail
  refine hc.out.mono ?_
  clear hc
  rintro e w3 ⟨rfl, hb3, hbel3, hk3⟩
  have H3 := Lib.hid (H2.out.step hb3 hbel3 hk3)
  have Y3 := Lib.hid (Y2.out.kept HV.out hk3)
  clear hb3 hbel3 hk3 c0 c7 c8
  have hq1 := HB2.out.map (w' := w3) fun i v hc => ((HB.out.trans H3.out.bel).cell (World.block_lt_of_cell? _ _ hc)).trans hc
  obtain ⟨q0, q1, q2, q3, q4, q5, q6, q7, q8⟩ := hq1
  have hbx3 := Y3.out.k
  obtain ⟨c0, -, c7, c8⟩ := hbx3
  simp only [Tree.k, Tree.op] at c0 c7
  have hc := Lib.hid (Iy w3 b (l ++ [40] ++ printT x ++ (⟨#[32, 62, 61, 32]⟩ : ByteArray).data.toList) S pa1 pn1 pc1 (HB.out.trans H3.out.bel) H3.out.wb HKB.out (by have := Hlen.out; simp [printT, printTs, printK, opTextL] at this; simp [ByteArray.size]; omega))
  go_wp2_with fail
  refine hc.out.mono ?_
  clear hc
  rintro e w4 ⟨rfl, hb4, hbel4, hk4⟩
  have H4 := Lib.hid (H3.out.step hb4 hbel4 hk4)
  have Y4 := Lib.hid (Y3.out.kept HV.out hk4)
  clear hb4 hbel4 hk4 c0 c7 c8 q0 q1 q2 q3 q4 q5 q6 q7 q8
  have hbx4 := Y4.out.k
  obtain ⟨c0, -, c7, c8⟩ := hbx4
  simp only [Tree.k, Tree.op] at c0 c7
  have hc := Lib.hid (wclose_any w0.heap.size b (l ++ [40] ++ printT x ++ (⟨#[32, 62, 61, 32]⟩ : ByteArray).data.toList ++ printT y) w4 H4.out.wb (by have := Hlen.out; simp [printT, printTs, printK, opTextL] at this; simp [ByteArray.size]; omega) (HB.out.trans H4.out.bel).size)
  go_wp2_with fail
  refine hc.out.mono ?_
  clear hc
  rintro e w9 ⟨rfl, hb9, hbel9, hk9⟩
  have H9 := Lib.hid (H4.out.step hb9 hbel9 hk9)
  clear hb9 hbel9 hk9 c0 c7 c8
  go_wp2_with fail
  go_end0
  refine ⟨rfl, ?_, H9.out.bel, H9.out.kept⟩
  have := H9.out.wb
  simpa [printT, printTs, printK, opTextL] using this
set_option maxHeartbeats 8000000 in
set_option maxRecDepth 100000 in
theorem write_col (w0 : World) (p : Int) (x : List UInt8) : WriteC w0 (Tree.mk 0 p x 0 zeroVal []) := by
  intro w b l S aa an ac hB hb hk hlen
  have HB := Lib.hid hB
  have Hlt := Lib.hid hb.lt
  have HB0 : Hid (w0.heap.size ≤ w.heap.size) := Lib.hid hB.size
  have W0 : Hid (Wr w0 w (w.alloc (.cells ((Tree.mk 0 p x 0 zeroVal []).cells aa an ac) 31)) b l) := Lib.hid ⟨hb.alloc _, (Below.new w _).mono hB.size, (Lib.OthersKept.refl _ _ _).alloc _⟩
  have X0 := Lib.hid (Box.new w (Tree.mk 0 p x 0 zeroVal []) aa an ac)
  have Hlen := Lib.hid hlen
  clear hB hb hlen
  simp only [Tree.val, Tree.k, Tree.pos, Tree.col, Tree.op, Tree.v, zeroVal]
  go_enter Tryz.func28, Tryz.ntmps28
  go_upto_region 1 with fail
  generalize hW : World.alloc w _ = W
  have H0 : Hid (Wr w0 w W b l) := by rw [← hW]; exact W0
  have Y0 : Hid (Box W w.heap.size (Tree.mk 0 p x 0 zeroVal []) aa an ac) := by rw [← hW]; exact X0
  clear hW W0 X0
  obtain ⟨c0, c2, c7, c8⟩ := Y0.out.k
  simp only [Tree.k, Tree.op, Tree.col] at c0 c2 c7
  have hc := Lib.hid (bwrite_any w0.heap.size b l (⟨#[36]⟩ ++ ⟨x.toArray⟩) W H0.out.wb (by have := Hlen.out; simp [printT, printTs, printK] at this; rw [Lib.size_eq]; simp [ByteArray.data_append]; omega) (HB.out.trans H0.out.bel).size)
  have hcat : ∀ X : World, (Op.stringOp .add ⟨#[36]⟩ ⟨x.toArray⟩).run Tryz.prog X = .ok (.string (⟨#[36]⟩ ++ ⟨x.toArray⟩)) X := fun X => run_string_add_sum X _ _ (by have := Hlen.out; simp [printT, printTs, printK] at this; simp [ByteArray.size]; omega)
  go_wp2_with fail
  refine hc.out.mono ?_
  clear hc
  rintro e w9 ⟨rfl, hb9, hbel9, hk9⟩
  have H9 := Lib.hid (H0.out.step hb9 hbel9 hk9)
  clear hb9 hbel9 hk9 c0 c2 c7 c8
  go_wp2_with fail
  first | go_end0 | refine bodyPost_ret (results_none rfl _ _ _) rfl ?_
  refine ⟨rfl, ?_, H9.out.bel, H9.out.kept⟩
  have := H9.out.wb
  simpa [printT, printTs, printK, ByteArray.data_append] using this
set_option maxHeartbeats 8000000 in
set_option maxRecDepth 100000 in
theorem write_lit (w0 : World) (p : Int) (v : Val) (hl : Laid w0) (hv : rightB v = true) (hw : v.Wf) : WriteC w0 (Tree.mk 1 p [] 0 v []) := by
  intro w b l S aa an ac hB hb hk hlen
  have HB := Lib.hid hB
  have Hlt := Lib.hid hb.lt
  have HB0 : Hid (w0.heap.size ≤ w.heap.size) := Lib.hid hB.size
  have W0 : Hid (Wr w0 w (w.alloc (.cells ((Tree.mk 1 p [] 0 v []).cells aa an ac) 31)) b l) := Lib.hid ⟨hb.alloc _, (Below.new w _).mono hB.size, (Lib.OthersKept.refl _ _ _).alloc _⟩
  have X0 := Lib.hid (Box.new w (Tree.mk 1 p [] 0 v []) aa an ac)
  have Hlen := Lib.hid hlen
  clear hB hb hlen
  simp only [Tree.val, Tree.k, Tree.pos, Tree.col, Tree.op, Tree.v, zeroVal]
  go_enter Tryz.func28, Tryz.ntmps28
  go_upto_region 1 with fail
  generalize hW : World.alloc w _ = W
  have H0 : Hid (Wr w0 w W b l) := by rw [← hW]; exact W0
  have Y0 : Hid (Box W w.heap.size (Tree.mk 1 p [] 0 v []) aa an ac) := by rw [← hW]; exact X0
  clear hW W0 X0
  obtain ⟨c0, c2, c7, c8⟩ := Y0.out.k
  obtain ⟨v0, v1, v2, v3⟩ := Y0.out.v
  simp only [Tree.k, Tree.op, Tree.col, Tree.v] at c0 c2 c7 v0 v1 v2 v3
  have hrv : rightOf v = v := by unfold rightOf; rw [if_pos hv]
  have hp := Lib.hid (printV_any W (hl.below (HB.out.trans H0.out.bel)) v hw)
  rw [hrv] at hp
  have hp2 : Hid (Calls Tryz.prog 43 #[.agg #[.int .i64 v.k, .int .i64 v.n, .string v.s, .int .u64 v.f]] W fun e w' => e = .returned (.string ⟨(printVL v).toArray⟩) ∧ Below W.heap.size W w') := hp
  have Hrv := Lib.hid hrv
  clear hp hrv hl hv hw
  go_wp2_with fail
  refine hp2.out.mono ?_
  rintro e w1 ⟨rfl, hb1⟩
  have H1 := Lib.hid (H0.out.step (H0.out.wb.below hb1) (hb1.mono (HB.out.trans H0.out.bel).size) (kept_below hb1))
  clear hb1 hp2
  have hc := Lib.hid (bwrite_any w0.heap.size b l ⟨(printVL v).toArray⟩ w1 H1.out.wb (by have := Hlen.out; rw [printT, printK, if_neg (by decide), if_pos rfl, Hrv.out] at this; rw [Lib.size_eq]; simpa using this) (HB.out.trans H1.out.bel).size)
  go_wp2_with fail
  refine hc.out.mono ?_
  clear hc
  rintro e w9 ⟨rfl, hb9, hbel9, hk9⟩
  have H9 := Lib.hid (H1.out.step hb9 hbel9 hk9)
  clear hb9 hbel9 hk9 c0 c2 c7 c8
  go_wp2_with fail
  first | go_end0 | refine bodyPost_ret (results_none rfl _ _ _) rfl ?_
  refine ⟨rfl, ?_, H9.out.bel, H9.out.kept⟩
  have := H9.out.wb
  rw [printT, printK, if_neg (by decide), if_pos rfl, Hrv.out]
  simpa using this
theorem write_all (N : Nat) : ∀ (t : Tree) (d : Nat), t.depth ≤ N → rightT d t = true → WfT t → ∀ w0, Laid w0 → WriteC w0 t := by
  induction N with
  | zero => intro t d h; have := depth_eq t; omega
  | succ N ih =>
    intro t d h hr hw w0 hl
    obtain ⟨hf, -⟩ := right_form hr
    cases hf with
    | col p c hc => exact write_col w0 p c
    | lit p v hv => rw [WfT] at hw; exact write_lit w0 p v hl hv hw.1
    | cmp p o a b h0 h5 la lb ra rb =>
      rw [depth_mk, deep_cons, deep_cons] at h
      rw [WfT, WfTs, WfTs] at hw
      have ha := ih a (d + 1) (by omega) ra hw.2.1 w0 hl
      have hb := ih b (d + 1) (by omega) rb hw.2.2.1 w0 hl
      have : o = 0 ∨ o = 1 ∨ o = 2 ∨ o = 3 ∨ o = 4 ∨ o = 5 := by omega
      rcases this with rfl | rfl | rfl | rfl | rfl | rfl
      · exact write_cmp0 w0 p a b ha hb
      · exact write_cmp1 w0 p a b ha hb
      · exact write_cmp2 w0 p a b ha hb
      · exact write_cmp3 w0 p a b ha hb
      · exact write_cmp4 w0 p a b ha hb
      · exact write_cmp5 w0 p a b ha hb
    | null p a la ra =>
      rw [depth_mk, deep_cons] at h
      rw [WfT, WfTs] at hw
      exact write_null w0 p a (ih a (d + 1) (by omega) ra hw.2.1 w0 hl)
    | not p a ra =>
      rw [depth_mk, deep_cons] at h
      rw [WfT, WfTs] at hw
      exact write_not w0 p a (ih a (d + 1) (by omega) ra hw.2.1 w0 hl)
    | and p a b ra rb =>
      rw [depth_mk, deep_cons, deep_cons] at h
      rw [WfT, WfTs, WfTs] at hw
      exact write_and w0 p a b (ih a (d + 1) (by omega) ra hw.2.1 w0 hl) (ih b (d + 1) (by omega) rb hw.2.2.1 w0 hl)
    | or p a b ra rb =>
      rw [depth_mk, deep_cons, deep_cons] at h
      rw [WfT, WfTs, WfTs] at hw
      exact write_or w0 p a b (ih a (d + 1) (by omega) ra hw.2.1 w0 hl) (ih b (d + 1) (by omega) rb hw.2.2.1 w0 hl)
end Go.Proofs.YthhghlnbpigcjaaGreatDoor
