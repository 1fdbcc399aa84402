/- What a cache's parts are, as plain data, and where they lie in memory. -/
import Derived.Test.YtdblpcfkiiliiaaRows
import Derived.WalkKit
import Derived.WalkSpells
import Derived.WalkLawsBesides
import Derived.Lib.Hide
import Derived.Deep.LoopGhost
set_option linter.unusedVariables false
set_option linter.unusedSimpArgs false
namespace Go.Proofs.Ytdblpcfkiiliiaa
open Go.RowKit

/-! ### The world, but for some blocks -/
/-- w' is w, but for the blocks of which S holds and new ones. -/
structure Upd (S : Nat → Prop) (w w' : World) : Prop where
  os : w'.os = w.os
  tape : w'.tape = w.tape
  output : w'.output = w.output
  size : w.heap.size ≤ w'.heap.size
  block : ∀ k, k < w.heap.size → ¬ S k → w'.heap[k]? = w.heap[k]?
theorem Upd.refl (S : Nat → Prop) (w : World) : Upd S w w := ⟨rfl, rfl, rfl, Nat.le_refl _, fun _ _ _ => rfl⟩
theorem Upd.trans {S : Nat → Prop} {a b c : World} (h : Upd S a b) (k : Upd S b c) : Upd S a c :=
  ⟨k.os.trans h.os, k.tape.trans h.tape, k.output.trans h.output, Nat.le_trans h.size k.size, fun i hi hs => (k.block i (Nat.lt_of_lt_of_le hi h.size) hs).trans (h.block i hi hs)⟩
theorem Upd.mono {S T : Nat → Prop} {a b : World} (h : Upd S a b) (hs : ∀ k, S k → T k) : Upd T a b := ⟨h.os, h.tape, h.output, h.size, fun i hi ht => h.block i hi fun s => ht (hs i s)⟩
theorem Upd.of_below {S : Nat → Prop} {w w' : World} (h : Below w.heap.size w w') : Upd S w w' := ⟨h.os, h.tape, h.output, h.size, fun i hi _ => h.block i hi⟩
theorem Upd.setCell {S : Nat → Prop} {a w : World} (h : Upd S a w) {p : Addr} (hp : S p.block) (v : Value) : Upd S a (w.setCell p v) :=
  h.trans ⟨rfl, rfl, rfl, by simp [World.setCell], fun k hk hs => Below.heap_setCell _ _ _ _ (fun e => hs (e ▸ hp))⟩
theorem Upd.alloc {S : Nat → Prop} {a w : World} (h : Upd S a w) (o : Obj) : Upd S a (w.alloc o) :=
  h.trans ⟨rfl, rfl, rfl, by simp, fun k hk _ => Below.heap_alloc _ _ _ hk⟩
theorem Upd.drew {S : Nat → Prop} {a w : World} (h : Upd S a w) : Upd S a w.drew := ⟨h.os, h.tape, h.output, h.size, h.block⟩
theorem Upd.drewN {S : Nat → Prop} {a w : World} (h : Upd S a w) (n : Nat) : Upd S a (w.drewN n) := ⟨h.os, h.tape, h.output, h.size, h.block⟩
/-- What was written lies from B on: below B all is as it was. -/
theorem Upd.below {S : Nat → Prop} {B : Nat} {a b c : World} (h : Below B a b) (k : Upd S b c) (hs : ∀ i, S i → B ≤ i) (hB : B ≤ b.heap.size) : Below B a c :=
  h.trans ⟨k.os, k.tape, k.output, k.size, fun i hi => k.block i (by omega) fun s => by have := hs i s; omega⟩
theorem Upd.below' {S : Nat → Prop} {w w' : World} (h : Upd S w w') (hs : ∀ i, S i → w.heap.size ≤ i) : Below w.heap.size w w' :=
  ⟨h.os, h.tape, h.output, h.size, fun i hi => h.block i hi fun s => by have := hs i s; omega⟩
theorem Upd.cell {S : Nat → Prop} {w w' : World} (h : Upd S w w') {p : Addr} (hp : p.block < w.heap.size) (hs : ¬ S p.block) : w'.cell? p = w.cell? p := World.cell?_of_block (w := w) (h.block p.block hp hs)
theorem Upd.frozen {S : Nat → Prop} {w w' : World} (h : Upd S w w') {p : Addr} (hp : p.block < w.heap.size) (hs : ¬ S p.block) : w'.frozen? p = w.frozen? p := World.frozen?_of_block (w := w) (h.block p.block hp hs)

/-! ### Frames -/
structure Fr where
  page : Int
  full : Bool
  touched : Bool
  held : Int
def Fr.zero : Fr := ⟨0, false, false, 0⟩
def Fr.val (f : Fr) : Value := .agg #[.int .i64 f.page, .bool f.full, .bool f.touched, .int .i64 f.held]
def Fr.cell (f : Fr) : Nat → Value
  | 0 => .int .i64 f.page
  | 1 => .bool f.full
  | 2 => .bool f.touched
  | _ => .int .i64 f.held
/-- frames lie in a block -/
def FrAt (w : World) (fb : Nat) (xs : List Fr) : Prop :=
  ∀ i, ∀ h : i < xs.length, ∀ j, j < 4 → w.cell? ⟨fb, i * 4 + j, none⟩ = some (xs[i].cell j)
theorem FrAt.four {w : World} {fb : Nat} {xs : List Fr} (h : FrAt w fb xs) (i : Nat) (hi : i < xs.length) :
    w.cell? ⟨fb, i * 4, none⟩ = some (.int .i64 xs[i].page) ∧ w.cell? ⟨fb, i * 4 + 1, none⟩ = some (.bool xs[i].full)
    ∧ w.cell? ⟨fb, i * 4 + 2, none⟩ = some (.bool xs[i].touched) ∧ w.cell? ⟨fb, i * 4 + 3, none⟩ = some (.int .i64 xs[i].held) :=
  ⟨h i hi 0 (by omega), h i hi 1 (by omega), h i hi 2 (by omega), h i hi 3 (by omega)⟩

/-- a part -/
structure Pt where
  frames : List Fr
  hand : Nat
  hits : Int
  misses : Int

/-- a part lies in two blocks -/
structure PtAt (w : World) (pb fb : Nat) (p : Pt) : Prop where
  c0 : w.cell? ⟨pb, 0, none⟩ = some (.slice (some ⟨fb, 0, none⟩) p.frames.length p.frames.length)
  c1 : w.cell? ⟨pb, 1, none⟩ = some (.int .i64 p.hand)
  c2 : w.cell? ⟨pb, 2, none⟩ = some (.int .i64 p.hits)
  c3 : w.cell? ⟨pb, 3, none⟩ = some (.int .i64 p.misses)
  c4 : w.cell? ⟨pb, 4, none⟩ = some (.int .i64 0)
  c5 : w.cell? ⟨pb, 5, none⟩ = some (.int .i64 0)
  fr : FrAt w fb p.frames
  z1 : ∀ o, w.frozen? ⟨pb, o, none⟩ = false
  z2 : ∀ o, w.frozen? ⟨fb, o, none⟩ = false
  b1 : pb < w.heap.size
  b2 : fb < w.heap.size
  ne : pb ≠ fb
  n1 : 1 ≤ p.frames.length
  n64 : p.frames.length ≤ 64
  hd : p.hand < p.frames.length

theorem PtAt.kept {w w' : World} {pb fb : Nat} {p : Pt} (h : PtAt w pb fb p) (hs : w.heap.size ≤ w'.heap.size) (h1 : w'.heap[pb]? = w.heap[pb]?) (h2 : w'.heap[fb]? = w.heap[fb]?) : PtAt w' pb fb p where
  c0 := (World.cell?_of_block (w := w) (a := ⟨pb, 0, none⟩) h1).trans h.c0
  c1 := (World.cell?_of_block (w := w) (a := ⟨pb, 1, none⟩) h1).trans h.c1
  c2 := (World.cell?_of_block (w := w) (a := ⟨pb, 2, none⟩) h1).trans h.c2
  c3 := (World.cell?_of_block (w := w) (a := ⟨pb, 3, none⟩) h1).trans h.c3
  c4 := (World.cell?_of_block (w := w) (a := ⟨pb, 4, none⟩) h1).trans h.c4
  c5 := (World.cell?_of_block (w := w) (a := ⟨pb, 5, none⟩) h1).trans h.c5
  fr := fun i hi j hj => (World.cell?_of_block (w := w) (a := ⟨fb, i * 4 + j, none⟩) h2).trans (h.fr i hi j hj)
  z1 := fun o => (World.frozen?_of_block (w := w) (a := ⟨pb, o, none⟩) h1).trans (h.z1 o)
  z2 := fun o => (World.frozen?_of_block (w := w) (a := ⟨fb, o, none⟩) h2).trans (h.z2 o)
  b1 := Nat.lt_of_lt_of_le h.b1 hs
  b2 := Nat.lt_of_lt_of_le h.b2 hs
  ne := h.ne
  n1 := h.n1
  n64 := h.n64
  hd := h.hd
theorem PtAt.upd {S : Nat → Prop} {w w' : World} {pb fb : Nat} {p : Pt} (h : PtAt w pb fb p) (k : Upd S w w') (h1 : ¬ S pb) (h2 : ¬ S fb) : PtAt w' pb fb p :=
  h.kept k.size (k.block pb h.b1 h1) (k.block fb h.b2 h2)
theorem PtAt.below {w w' : World} {pb fb : Nat} {p : Pt} (h : PtAt w pb fb p) (k : Below w.heap.size w w') : PtAt w' pb fb p :=
  h.kept k.size (k.block pb h.b1) (k.block fb h.b2)

theorem cell_set {w : World} {a b : Addr} {v u : Value} (h : w.cell? b = some u) : (w.setCell a v).cell? b = some (if a = b then v else u) := by
  split
  · rename_i e; subst e; exact World.cell?_setCell_same _ _ _ h
  · rename_i e; rw [World.cell?_setCell_other _ _ _ _ e]; exact h

theorem FrAt.set {w : World} {fb : Nat} {xs : List Fr} (h : FrAt w fb xs) (k : Nat) (hk : k < xs.length) (j0 : Nat) (hj0 : j0 < 4) (f : Fr) (hf : ∀ j, j < 4 → j ≠ j0 → f.cell j = xs[k].cell j) :
    FrAt (w.setCell ⟨fb, k * 4 + j0, none⟩ (f.cell j0)) fb (xs.set k f) := by
  intro i hi j hj
  have hi' : i < xs.length := by simpa using hi
  rw [cell_set (h i hi' j hj)]
  by_cases e : i = k
  · subst e
    simp only [List.getElem_set_self]
    by_cases e2 : j = j0
    · subst e2; simp
    · rw [if_neg (by intro e3; injection e3 with e4 e5; omega), hf j hj e2]
  · rw [if_neg (by intro e3; injection e3 with e4 e5; omega), List.getElem_set_ne (by omega)]

theorem PtAt.setFrame {w : World} {pb fb : Nat} {p : Pt} (h : PtAt w pb fb p) (k : Nat) (hk : k < p.frames.length) (j0 : Nat) (hj0 : j0 < 4) (f : Fr) (hf : ∀ j, j < 4 → j ≠ j0 → f.cell j = p.frames[k].cell j) :
    PtAt (w.setCell ⟨fb, k * 4 + j0, none⟩ (f.cell j0)) pb fb { p with frames := p.frames.set k f } := by
  have hne : ∀ o, (⟨fb, k * 4 + j0, none⟩ : Addr) ≠ ⟨pb, o, none⟩ := fun o e => h.ne (by injection e with e1; exact e1.symm)
  have hc : ∀ o v, w.cell? ⟨pb, o, none⟩ = some v → (w.setCell ⟨fb, k * 4 + j0, none⟩ (f.cell j0)).cell? ⟨pb, o, none⟩ = some v := fun o v hv => by rw [World.cell?_setCell_other _ _ _ _ (hne o)]; exact hv
  exact ⟨by simpa using hc _ _ h.c0, hc _ _ h.c1, hc _ _ h.c2, hc _ _ h.c3, hc _ _ h.c4, hc _ _ h.c5, h.fr.set k hk j0 hj0 f hf, fun o => by rw [World.frozen?_setCell]; exact h.z1 o, fun o => by rw [World.frozen?_setCell]; exact h.z2 o,
    by simpa [World.setCell] using h.b1, by simpa [World.setCell] using h.b2, h.ne, by simpa using h.n1, by simpa using h.n64, by simpa using h.hd⟩
theorem PtAt.setHand {w : World} {pb fb : Nat} {p : Pt} (h : PtAt w pb fb p) (n : Nat) (hn : n < p.frames.length) : PtAt (w.setCell ⟨pb, 1, none⟩ (.int .i64 n)) pb fb { p with hand := n } := by
  have hc : ∀ o v, w.cell? ⟨pb, o, none⟩ = some v → (w.setCell ⟨pb, 1, none⟩ (.int .i64 n)).cell? ⟨pb, o, none⟩ = some (if o = 1 then .int .i64 n else v) := fun o v hv => by
    rw [cell_set hv]; by_cases e : o = 1 <;> simp [e]; omega
  exact ⟨hc _ _ h.c0, hc _ _ h.c1, hc _ _ h.c2, hc _ _ h.c3, hc _ _ h.c4, hc _ _ h.c5,
    fun i hi j hj => by rw [World.cell?_setCell_other _ _ _ _ (fun e => h.ne (by injection e))]; exact h.fr i hi j hj,
    fun o => by rw [World.frozen?_setCell]; exact h.z1 o, fun o => by rw [World.frozen?_setCell]; exact h.z2 o,
    by simpa [World.setCell] using h.b1, by simpa [World.setCell] using h.b2, h.ne, h.n1, h.n64, hn⟩
theorem PtAt.setHits {w : World} {pb fb : Nat} {p : Pt} (h : PtAt w pb fb p) (n : Int) : PtAt (w.setCell ⟨pb, 2, none⟩ (.int .i64 n)) pb fb { p with hits := n } := by
  have hc : ∀ o v, w.cell? ⟨pb, o, none⟩ = some v → (w.setCell ⟨pb, 2, none⟩ (.int .i64 n)).cell? ⟨pb, o, none⟩ = some (if o = 2 then .int .i64 n else v) := fun o v hv => by
    rw [cell_set hv]; by_cases e : o = 2 <;> simp [e]; omega
  exact ⟨hc _ _ h.c0, hc _ _ h.c1, hc _ _ h.c2, hc _ _ h.c3, hc _ _ h.c4, hc _ _ h.c5,
    fun i hi j hj => by rw [World.cell?_setCell_other _ _ _ _ (fun e => h.ne (by injection e))]; exact h.fr i hi j hj,
    fun o => by rw [World.frozen?_setCell]; exact h.z1 o, fun o => by rw [World.frozen?_setCell]; exact h.z2 o,
    by simpa [World.setCell] using h.b1, by simpa [World.setCell] using h.b2, h.ne, h.n1, h.n64, h.hd⟩
theorem PtAt.setMisses {w : World} {pb fb : Nat} {p : Pt} (h : PtAt w pb fb p) (n : Int) : PtAt (w.setCell ⟨pb, 3, none⟩ (.int .i64 n)) pb fb { p with misses := n } := by
  have hc : ∀ o v, w.cell? ⟨pb, o, none⟩ = some v → (w.setCell ⟨pb, 3, none⟩ (.int .i64 n)).cell? ⟨pb, o, none⟩ = some (if o = 3 then .int .i64 n else v) := fun o v hv => by
    rw [cell_set hv]; by_cases e : o = 3 <;> simp [e]; omega
  exact ⟨hc _ _ h.c0, hc _ _ h.c1, hc _ _ h.c2, hc _ _ h.c3, hc _ _ h.c4, hc _ _ h.c5,
    fun i hi j hj => by rw [World.cell?_setCell_other _ _ _ _ (fun e => h.ne (by injection e))]; exact h.fr i hi j hj,
    fun o => by rw [World.frozen?_setCell]; exact h.z1 o, fun o => by rw [World.frozen?_setCell]; exact h.z2 o,
    by simpa [World.setCell] using h.b1, by simpa [World.setCell] using h.b2, h.ne, h.n1, h.n64, h.hd⟩
end Go.Proofs.Ytdblpcfkiiliiaa
