/- Joined texts: Vs0; Vs1; Vs2. -/
import Derived.Test.YthhghlnbpigcjaaGreatDoorYGD
import Derived.Laws.AppendOwnNone
import Derived.Lib.AppendStr
set_option linter.unusedVariables false
set_option linter.unusedSimpArgs false
namespace Go.Proofs.YthhghlnbpigcjaaGreatDoor
open Go.RowKit

theorem ofNat_toNat {n : Nat} (h : n < 256) : (UInt8.ofNat n).toNat = n := by
  rw [UInt8.toNat_ofNat', Nat.mod_eq_of_lt (show n < 2 ^ 8 from h)]
end Go.Proofs.YthhghlnbpigcjaaGreatDoor
namespace Go.Proofs.YthhghlnbpigcjaaGreatDoor
open Go.RowKit

/-- a slice of bytes, wherever it lies -/
def Sl (w : World) (v : Value) (l : List UInt8) : Prop := (v = .slice none 0 0 ∧ l = []) ∨ ∃ a c, v = .slice (some a) l.length c ∧ l.length ≤ c ∧ ∀ j u, (encB l)[j]? = some u → w.cell? (a.add j) = some u
theorem Buf.sl {w wr : World} {v : Value} {l : List UInt8} (h : Buf w wr v l) : Sl wr v l := by
  have ho := h.own
  rcases h.own.2 with ⟨hv, hn⟩ | ⟨g, cap, cur, hv, _, _, hcap, _⟩
  · exact .inl ⟨hv, List.eq_nil_of_length_eq_zero hn⟩
  · subst hv
    exact .inr ⟨_, _, rfl, hcap, fun j u hj => ho.cells rfl j _ hj⟩
theorem Buf.lit (w : World) (z : UInt8) (arr : Array Value) (h : arr = #[.int .u8 (z.toNat : Int)]) : Buf w (w.alloc (.cells arr 5)) (.slice (some ⟨w.heap.size, 0, none⟩) 1 1) [z] := by
  subst h
  exact ⟨(Below.refl _ _).alloc (Nat.le_refl _) _, rfl, .inr ⟨w.heap.size, 1, _, rfl, Nat.le_refl _, heap_alloc_new w _, Nat.le_refl _, by decide, rfl, rfl⟩⟩
end Go.Proofs.YthhghlnbpigcjaaGreatDoor
namespace Go.Proofs.YthhghlnbpigcjaaGreatDoor
open Go.RowKit

/-- as it was but for block R -/
structure But (R : Nat) (w w' : World) : Prop where
  os : w'.os = w.os
  tape : w'.tape = w.tape
  output : w'.output = w.output
  size : w.heap.size ≤ w'.heap.size
  block : ∀ k, k < w.heap.size → k ≠ R → w'.heap[k]? = w.heap[k]?
theorem But.refl (R : Nat) (w : World) : But R w w := ⟨rfl, rfl, rfl, Nat.le_refl _, fun _ _ _ => rfl⟩
theorem But.trans {R : Nat} {a b c : World} (h : But R a b) (k : But R b c) : But R a c :=
  ⟨k.os.trans h.os, k.tape.trans h.tape, k.output.trans h.output, Nat.le_trans h.size k.size, fun i hi hR => (k.block i (Nat.lt_of_lt_of_le hi h.size) hR).trans (h.block i hi hR)⟩
theorem But.of {R : Nat} {a b : World} (h : Below a.heap.size a b) : But R a b := ⟨h.os, h.tape, h.output, h.size, fun k hk _ => h.block k hk⟩
theorem But.set {R : Nat} {a w : World} (h : But R a w) (o : Nat) (v : Value) : But R a (w.setCell ⟨R, o, none⟩ v) :=
  h.trans ⟨rfl, rfl, rfl, by simp [World.setCell], fun k hk hR => Below.heap_setCell _ _ _ _ hR⟩
theorem But.below {R B : Nat} {a w : World} (h : But R a w) (hB : B ≤ R) (hs : B ≤ a.heap.size) : Below B a w := ⟨h.os, h.tape, h.output, h.size, fun k hk => h.block k (by omega) (by omega)⟩
theorem But.cell {R : Nat} {w w' : World} (h : But R w w') {p : Addr} {v : Value} (hp : w.cell? p = some v) (hR : p.block ≠ R) : w'.cell? p = some v :=
  (World.cell?_of_block (w := w) (h.block p.block (World.block_lt_of_cell? w _ hp) hR)).trans hp
theorem But.frozen {R : Nat} {w w' : World} (h : But R w w') {p : Addr} (hp : p.block < w.heap.size) (hR : p.block ≠ R) : w'.frozen? p = w.frozen? p := World.frozen?_of_block (w := w) (h.block p.block hp hR)
theorem At.but {w w' : World} {b R : Nat} {k n : Int} {s : ByteArray} {f : Int} (h : At w b k n s f) (hb : But R w w') (hB : b ≠ R) : At w' b k n s f where
  c0 := hb.cell h.c0 hB
  c1 := hb.cell h.c1 hB
  c2 := hb.cell h.c2 hB
  c3 := hb.cell h.c3 hB
  z := fun o => (hb.frozen h.lt hB).trans (h.z o)
  lt := Nat.lt_of_lt_of_le h.lt hb.size
/-- a slice of bytes that doesn't lie in block R -/
def SlB (w : World) (R : Nat) (v : Value) (l : List UInt8) : Prop := (v = .slice none 0 0 ∧ l = []) ∨ ∃ g off c, v = .slice (some ⟨g, off, none⟩) l.length c ∧ l.length ≤ c ∧ g < R ∧ ∀ j u, (encB l)[j]? = some u → w.cell? ⟨g, off + j, none⟩ = some u
theorem SlB.but {w w' : World} {R : Nat} {v : Value} {l : List UInt8} (h : SlB w R v l) (hb : But R w w') : SlB w' R v l := by
  rcases h with h | ⟨g, off, c, h1, h2, h3, h4⟩
  · exact .inl h
  · exact .inr ⟨g, off, c, h1, h2, h3, fun j u hj => hb.cell (h4 j u hj) (Nat.ne_of_lt h3)⟩
/-- a reader that isn't bad -/
structure RdAt (w : World) (R : Nat) (l : List UInt8) : Prop where
  c0 : ∃ v, w.cell? ⟨R, 0, none⟩ = some v ∧ SlB w R v l
  c1 : w.cell? ⟨R, 1, none⟩ = some (.bool false)
  z : ∀ o, w.frozen? ⟨R, o, none⟩ = false
  lt : R < w.heap.size
/-- a reader that is bad -/
structure RdBad (w : World) (R : Nat) : Prop where
  c0 : ∃ v, w.cell? ⟨R, 0, none⟩ = some v
  c1 : w.cell? ⟨R, 1, none⟩ = some (.bool true)
  z : ∀ o, w.frozen? ⟨R, o, none⟩ = false
  lt : R < w.heap.size
theorem RdAt.below {w w' : World} {R : Nat} {l : List UInt8} (h : RdAt w R l) (hb : Below w.heap.size w w') : RdAt w' R l where
  c0 := by
    obtain ⟨v, h1, h2⟩ := h.c0
    exact ⟨v, (hb.cell h.lt).trans h1, h2.but (But.of hb)⟩
  c1 := (hb.cell h.lt).trans h.c1
  z := fun o => (hb.frozen h.lt).trans (h.z o)
  lt := Nat.lt_of_lt_of_le h.lt hb.size
theorem RdBad.below {w w' : World} {R : Nat} (h : RdBad w R) (hb : Below w.heap.size w w') : RdBad w' R where
  c0 := by
    obtain ⟨v, h1⟩ := h.c0
    exact ⟨v, (hb.cell h.lt).trans h1⟩
  c1 := (hb.cell h.lt).trans h.c1
  z := fun o => (hb.frozen h.lt).trans (h.z o)
  lt := Nat.lt_of_lt_of_le h.lt hb.size
theorem RdAt.off {w : World} {R D : Nat} {l : List UInt8} (h : RdAt w R l) (hD : R < D) (o : Nat) (u : Value) : RdAt (w.setCell ⟨D, o, none⟩ u) R l := by
  obtain ⟨⟨v, h1, h2⟩, c1, z, lt⟩ := h
  have ne : ∀ b i : Nat, b ≤ R → (⟨D, o, none⟩ : Addr) ≠ ⟨b, i, none⟩ := fun b i hb h => by injection h with h _; omega
  refine ⟨⟨v, cell_off h1 (ne R 0 (Nat.le_refl _)), ?_⟩, cell_off c1 (ne R 1 (Nat.le_refl _)), fun i => (World.frozen?_setCell _ _ _ _).trans (z i), by simpa [World.setCell] using lt⟩
  rcases h2 with h | ⟨g, off, c, e1, e2, e3, e4⟩
  · exact .inl h
  · exact .inr ⟨g, off, c, e1, e2, e3, fun j u hj => cell_off (e4 j u hj) (ne g _ (by omega))⟩
theorem addr_ne (b : Nat) {i j : Nat} (e : i ≠ j) : (⟨b, i, none⟩ : Addr) ≠ ⟨b, j, none⟩ := fun h => by injection h with _ h; exact e h
theorem RdAt.moved {w : World} {R : Nat} {l r : List UInt8} {v : Value} (h : RdAt w R l) (hv : SlB w R v r) : RdAt (w.setCell ⟨R, 0, none⟩ v) R r where
  c0 := by
    obtain ⟨u, h1, h2⟩ := h.c0
    exact ⟨v, World.cell?_setCell_same _ _ _ h1, hv.but ((But.refl R w).set 0 v)⟩
  c1 := cell_off h.c1 (addr_ne R (by decide))
  z := fun o => (World.frozen?_setCell _ _ _ _).trans (h.z o)
  lt := by simpa [World.setCell] using h.lt
theorem RdAt.bad {w : World} {R : Nat} {l : List UInt8} (h : RdAt w R l) : RdBad (w.setCell ⟨R, 1, none⟩ (.bool true)) R where
  c0 := by
    obtain ⟨u, h1, h2⟩ := h.c0
    exact ⟨u, cell_off h1 (addr_ne R (by decide))⟩
  c1 := cell_at h.c1 rfl
  z := fun o => (World.frozen?_setCell _ _ _ _).trans (h.z o)
  lt := by simpa [World.setCell] using h.lt
theorem RdBad.bad {w : World} {R : Nat} (h : RdBad w R) : RdBad (w.setCell ⟨R, 1, none⟩ (.bool true)) R where
  c0 := by
    obtain ⟨u, h1⟩ := h.c0
    exact ⟨u, cell_off h1 (addr_ne R (by decide))⟩
  c1 := cell_at h.c1 rfl
  z := fun o => (World.frozen?_setCell _ _ _ _).trans (h.z o)
  lt := by simpa [World.setCell] using h.lt
theorem SlB.tail {w : World} {R g off c : Nat} {b : UInt8} {t : List UInt8} (h1 : (b :: t).length ≤ c) (hR : g < R) (hc : ∀ j u, (encB (b :: t))[j]? = some u → w.cell? ⟨g, off + j, none⟩ = some u) :
    (c = 1 → SlB w R (.slice (some ⟨g, off, none⟩) ((b :: t).length - 1) 0) t) ∧ (c ≠ 1 → SlB w R (.slice (some ⟨g, off + 1, none⟩) ((b :: t).length - 1) (c - 1)) t) := by
  refine ⟨fun h => ?_, fun h => ?_⟩
  · have : t = [] := List.eq_nil_of_length_eq_zero (by simp at h1; omega)
    subst this
    exact .inr ⟨g, off, 0, rfl, Nat.le_refl _, hR, fun j u hj => by simp at hj⟩
  · refine .inr ⟨g, off + 1, c - 1, rfl, by simp at h1; omega, hR, fun j u hj => ?_⟩
    have := hc (j + 1) u hj
    rwa [show off + 1 + j = off + (j + 1) from by omega]
end Go.Proofs.YthhghlnbpigcjaaGreatDoor
