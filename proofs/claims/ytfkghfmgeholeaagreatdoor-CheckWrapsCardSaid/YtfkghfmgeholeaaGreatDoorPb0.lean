/- Tests on the heap; a parser. -/
import Derived.Test.YtfkghfmgeholeaaGreatDoorGS
import Derived.Test.YtfkghfmgeholeaaGreatDoorGL
import Derived.Test.YtfkghfmgeholeaaGreatDoorGG
set_option linter.unusedVariables false
set_option linter.unusedSimpArgs false
namespace Go.Proofs.YtfkghfmgeholeaaGreatDoor
open Go.RowKit

/-- a test as a value; its kids: a slice -/
abbrev Tree.val (t : Tree) (a : Option Addr) (n c : Nat) : Value := .agg #[.int .i64 t.k, .int .i64 t.pos, .string ⟨t.col.toArray⟩, .int .i64 t.v.k, .int .i64 t.v.n, .string t.v.s, .int .u64 t.v.f, .int .i64 t.op, .slice a n c]
abbrev Tree.cells (t : Tree) (a : Option Addr) (n c : Nat) : Array Value := #[.int .i64 t.k, .int .i64 t.pos, .string ⟨t.col.toArray⟩, .int .i64 t.v.k, .int .i64 t.v.n, .string t.v.s, .int .u64 t.v.f, .int .i64 t.op, .slice a n c]
/-- a test's nine cells -/
structure KAt (w : World) (b o : Nat) (t : Tree) (a : Option Addr) (n c : Nat) : Prop where
  c0 : w.cell? ⟨b, o, none⟩ = some (.int .i64 t.k)
  c1 : w.cell? ⟨b, o + 1, none⟩ = some (.int .i64 t.pos)
  c2 : w.cell? ⟨b, o + 2, none⟩ = some (.string ⟨t.col.toArray⟩)
  c3 : w.cell? ⟨b, o + 3, none⟩ = some (.int .i64 t.v.k)
  c4 : w.cell? ⟨b, o + 4, none⟩ = some (.int .i64 t.v.n)
  c5 : w.cell? ⟨b, o + 5, none⟩ = some (.string t.v.s)
  c6 : w.cell? ⟨b, o + 6, none⟩ = some (.int .u64 t.v.f)
  c7 : w.cell? ⟨b, o + 7, none⟩ = some (.int .i64 t.op)
  c8 : w.cell? ⟨b, o + 8, none⟩ = some (.slice a n c)
/-- blocks from a place on -/
instance : Coe Nat (Nat → Prop) := ⟨fun lo b => lo ≤ b⟩
mutual
/-- tests in a row: block, place -/
inductive KRow (w : World) (S : Nat → Prop) : List Tree → Nat → Nat → Prop
  | nil (b o : Nat) : KRow w S [] b o
  | cons {t : Tree} {l : List Tree} {b o : Nat} {a : Option Addr} {n c : Nat} : KAt w b o t a n c → KSl w S t.kids a n → KRow w S l b (o + 9) → KRow w S (t :: l) b o
/-- a slice of tests, in blocks of S -/
inductive KSl (w : World) (S : Nat → Prop) : List Tree → Option Addr → Nat → Prop
  | empty {a : Option Addr} : KSl w S [] a 0
  | on {l : List Tree} {b o n : Nat} : S b → b < w.heap.size → n = l.length → KRow w S l b o → KSl w S l (some ⟨b, o, none⟩) n
end
theorem KSl.len {w : World} {lo : Nat → Prop} {l : List Tree} {a : Option Addr} {n : Nat} (h : KSl w lo l a n) : n = l.length := by
  cases h with
  | empty => rfl
  | on _ _ h _ => exact h
theorem KAt.map {w w' : World} {b o : Nat} {t : Tree} {a : Option Addr} {n c : Nat} (h : KAt w b o t a n c) (hw : ∀ i v, w.cell? ⟨b, i, none⟩ = some v → w'.cell? ⟨b, i, none⟩ = some v) : KAt w' b o t a n c :=
  ⟨hw _ _ h.c0, hw _ _ h.c1, hw _ _ h.c2, hw _ _ h.c3, hw _ _ h.c4, hw _ _ h.c5, hw _ _ h.c6, hw _ _ h.c7, hw _ _ h.c8⟩
mutual
theorem KRow.map {w w' : World} {lo : Nat → Prop} (hw : ∀ b i v, lo b → w.cell? ⟨b, i, none⟩ = some v → w'.cell? ⟨b, i, none⟩ = some v) (hs : w.heap.size ≤ w'.heap.size) : ∀ {l : List Tree} {b o : Nat}, KRow w lo l b o → lo b → KRow w' lo l b o
  | _, _, _, .nil _ _, _ => .nil _ _
  | _, _, _, .cons h k r, hb => .cons (h.map fun i v => hw _ i v hb) (KSl.map hw hs k) (KRow.map hw hs r hb)
theorem KSl.map {w w' : World} {lo : Nat → Prop} (hw : ∀ b i v, lo b → w.cell? ⟨b, i, none⟩ = some v → w'.cell? ⟨b, i, none⟩ = some v) (hs : w.heap.size ≤ w'.heap.size) : ∀ {l : List Tree} {a : Option Addr} {n : Nat}, KSl w lo l a n → KSl w' lo l a n
  | _, _, _, .empty => .empty
  | _, _, _, .on hb hz hn r => .on hb (Nat.lt_of_lt_of_le hz hs) hn (KRow.map hw hs r hb)
end
theorem KSl.but {w w' : World} {lo R : Nat} {l : List Tree} {a : Option Addr} {n : Nat} (h : KSl w lo l a n) (hb : But R w w') (hR : R < lo) : KSl w' lo l a n :=
  h.map (fun b i v hl hc => hb.cell hc (by show b ≠ R; omega)) hb.size
theorem KSl.later {w w' : World} {lo : Nat → Prop} {l : List Tree} {a : Option Addr} {n : Nat} (h : KSl w lo l a n) (hb : Below w.heap.size w w') : KSl w' lo l a n :=
  h.map (fun b i v _ hc => (hb.cell (World.block_lt_of_cell? w _ hc)).trans hc) hb.size
mutual
theorem KRow.sub {w : World} {S S' : Nat → Prop} (hS : ∀ b, S b → S' b) : ∀ {l : List Tree} {b o : Nat}, KRow w S l b o → KRow w S' l b o
  | _, _, _, .nil _ _ => .nil _ _
  | _, _, _, .cons h k r => .cons h (KSl.sub hS k) (KRow.sub hS r)
theorem KSl.sub {w : World} {S S' : Nat → Prop} (hS : ∀ b, S b → S' b) : ∀ {l : List Tree} {a : Option Addr} {n : Nat}, KSl w S l a n → KSl w S' l a n
  | _, _, _, .empty => .empty
  | _, _, _, .on hb hz hn r => .on (hS _ hb) hz hn (KRow.sub hS r)
end
theorem KSl.mono {w : World} {lo lo' : Nat} (hlo : lo' ≤ lo) {l : List Tree} {a : Option Addr} {n : Nat} (h : KSl w lo l a n) : KSl w lo' l a n := h.sub fun _ hb => Nat.le_trans hlo hb
mutual
theorem KRow.inside {w : World} {S : Nat → Prop} : ∀ {l : List Tree} {b o : Nat}, KRow w S l b o → KRow w (fun b => S b ∧ b < w.heap.size) l b o
  | _, _, _, .nil _ _ => .nil _ _
  | _, _, _, .cons h k r => .cons h (KSl.inside k) (KRow.inside r)
theorem KSl.inside {w : World} {S : Nat → Prop} : ∀ {l : List Tree} {a : Option Addr} {n : Nat}, KSl w S l a n → KSl w (fun b => S b ∧ b < w.heap.size) l a n
  | _, _, _, .empty => .empty
  | _, _, _, .on hb hz hn r => .on ⟨hb, hz⟩ hz hn (KRow.inside r)
end
theorem KSl.blk {w : World} {S : Nat → Prop} {R : Nat} {w' : World} {l : List Tree} {a : Option Addr} {n : Nat} (h : KSl w S l a n) (hb : But R w w') (hR : ¬ S R) : KSl w' S l a n :=
  h.map (fun b i v hl hc => hb.cell hc (by intro e; subst e; exact hR hl)) hb.size
theorem KRow.get {w : World} {lo : Nat → Prop} {l : List Tree} : ∀ {b o i : Nat} {t : Tree}, KRow w lo l b o → l[i]? = some t → ∃ a n c, KAt w b (o + i * 9) t a n c ∧ KSl w lo t.kids a n := by
  induction l with
  | nil => intro b o i t h ht; simp at ht
  | cons u l ih =>
    intro b o i t h ht
    cases h with
    | cons h k r =>
      cases i with
      | zero =>
        simp at ht
        subst ht
        rw [Nat.zero_mul, Nat.add_zero]
        exact ⟨_, _, _, h, k⟩
      | succ i =>
        obtain ⟨a, n, c, h1, h2⟩ := ih r (by simpa using ht)
        refine ⟨a, n, c, ?_, h2⟩
        rw [show o + (i + 1) * 9 = o + 9 + i * 9 from by omega]
        exact h1
theorem KSl.get {w : World} {lo : Nat → Prop} {l : List Tree} {a : Option Addr} {n i : Nat} {t : Tree} (h : KSl w lo l a n) (ht : l[i]? = some t) : ∃ b o a' n' c', a = some ⟨b, o, none⟩ ∧ KAt w b (o + i * 9) t a' n' c' ∧ KSl w lo t.kids a' n' := by
  cases h with
  | empty => simp at ht
  | on hb hz hn r =>
    obtain ⟨a', n', c', h1, h2⟩ := r.get ht
    exact ⟨_, _, a', n', c', rfl, h1, h2⟩
/-- a slice of tokens that doesn't lie in block R -/
def TSlB (w : World) (R : Nat) (v : Value) (l : List Tk) : Prop := (v = .slice none 0 0 ∧ l = []) ∨ ∃ g off c, v = .slice (some ⟨g, off, none⟩) l.length c ∧ l.length ≤ c ∧ (g < R ∧ ∃ cur, w.heap[g]? = some (.cells cur 93 (0, 0))) ∧ ∀ j u, (encTs l)[j]? = some u → w.cell? ⟨g, off + j, none⟩ = some u
theorem heap_lt {w : World} {g : Nat} {o : Obj} (h : w.heap[g]? = some o) : g < w.heap.size := by
  rcases Nat.lt_or_ge g w.heap.size with h1 | h1
  · exact h1
  · rw [Array.getElem?_eq_none h1] at h; cases h
theorem TSlB.but {w w' : World} {R : Nat} {v : Value} {l : List Tk} (h : TSlB w R v l) (hb : But R w w') : TSlB w' R v l := by
  rcases h with h | ⟨g, off, c, h1, h2, h3, h4⟩
  · exact .inl h
  · obtain ⟨h3, cur, h5⟩ := h3
    exact .inr ⟨g, off, c, h1, h2, ⟨h3, cur, (hb.block g (heap_lt h5) (Nat.ne_of_lt h3)).trans h5⟩, fun j u hj => hb.cell (h4 j u hj) (Nat.ne_of_lt h3)⟩
/-- a parser: its tokens, the end, how many are open -/
structure PAt (w : World) (P : Nat) (l : List Tk) (e d : Nat) : Prop where
  c0 : ∃ v, w.cell? ⟨P, 0, none⟩ = some v ∧ TSlB w P v l
  c1 : w.cell? ⟨P, 1, none⟩ = some (.int .i64 (e : Int))
  c2 : w.cell? ⟨P, 2, none⟩ = some (.int .i64 (d : Int))
  z : ∀ o, w.frozen? ⟨P, o, none⟩ = false
  lt : P < w.heap.size
theorem PAt.below {w w' : World} {P : Nat} {l : List Tk} {e d : Nat} (h : PAt w P l e d) (hb : Below w.heap.size w w') : PAt w' P l e d where
  c0 := by
    obtain ⟨v, h1, h2⟩ := h.c0
    exact ⟨v, (hb.cell h.lt).trans h1, h2.but (But.of hb)⟩
  c1 := (hb.cell h.lt).trans h.c1
  c2 := (hb.cell h.lt).trans h.c2
  z := fun o => (hb.frozen h.lt).trans (h.z o)
  lt := Nat.lt_of_lt_of_le h.lt hb.size
theorem PAt.moved {w : World} {P : Nat} {l r : List Tk} {e d : Nat} {v : Value} (h : PAt w P l e d) (hv : TSlB w P v r) : PAt (w.setCell ⟨P, 0, none⟩ v) P r e d where
  c0 := by
    obtain ⟨u, h1, h2⟩ := h.c0
    exact ⟨v, World.cell?_setCell_same _ _ _ h1, hv.but ((But.refl P w).set 0 v)⟩
  c1 := cell_off h.c1 (addr_ne P (by decide))
  c2 := cell_off h.c2 (addr_ne P (by decide))
  z := fun o => (World.frozen?_setCell _ _ _ _).trans (h.z o)
  lt := by simpa [World.setCell] using h.lt
theorem PAt.opened {w : World} {P : Nat} {l : List Tk} {e d : Nat} (h : PAt w P l e d) (d' : Nat) : PAt (w.setCell ⟨P, 2, none⟩ (.int .i64 (d' : Int))) P l e d' where
  c0 := by
    obtain ⟨u, h1, h2⟩ := h.c0
    exact ⟨u, cell_off h1 (addr_ne P (by decide)), h2.but ((But.refl P w).set 2 _)⟩
  c1 := cell_off h.c1 (addr_ne P (by decide))
  c2 := World.cell?_setCell_same _ _ _ h.c2
  z := fun o => (World.frozen?_setCell _ _ _ _).trans (h.z o)
  lt := by simpa [World.setCell] using h.lt
theorem TSlB.tail {w : World} {R g off c : Nat} {t : Tk} {l : List Tk} (h1 : (t :: l).length ≤ c) (hR : g < R ∧ ∃ cur, w.heap[g]? = some (.cells cur 93 (0, 0))) (hc : ∀ j u, (encTs (t :: l))[j]? = some u → w.cell? ⟨g, off + j, none⟩ = some u) :
    (c = 1 → TSlB w R (.slice (some ⟨g, off, none⟩) ((t :: l).length - 1) 0) l) ∧ (c ≠ 1 → TSlB w R (.slice (some ⟨g, off + 8, none⟩) ((t :: l).length - 1) (c - 1)) l) := by
  refine ⟨fun h => ?_, fun h => ?_⟩
  · have : l = [] := List.eq_nil_of_length_eq_zero (by simp at h1; omega)
    subst this
    exact .inr ⟨g, off, 0, rfl, Nat.le_refl _, hR, fun j u hj => by simp [encTs] at hj⟩
  · refine .inr ⟨g, off + 8, c - 1, rfl, by simp at h1; omega, hR, fun j u hj => ?_⟩
    have := hc (8 + j) u (by
      show (encT1 t ++ encTs l)[8 + j]? = _
      rw [List.getElem?_append_right (by show 8 ≤ _; omega), show 8 + j - (encT1 t).length = j from by show _ - 8 = _; omega]
      exact hj)
    rwa [show off + 8 + j = off + (8 + j) from by omega]
theorem encTs_cons (t : Tk) (l : List Tk) (k : Nat) (hk : k < 8) : (encTs (t :: l))[k]? = (encT1 t)[k]? := by
  have hk2 : k < (encT1 t).length := hk
  show (encT1 t ++ encTs l)[k]? = _
  rw [List.getElem?_append_left hk2]
/-- the eight cells of the first token -/
structure HAt (w : World) (g off : Nat) (t : Tk) : Prop where
  c0 : w.cell? ⟨g, off, none⟩ = some (.int .i64 t.k)
  c1 : w.cell? ⟨g, off + 1, none⟩ = some (.int .i64 (t.pos : Int))
  c2 : w.cell? ⟨g, off + 2, none⟩ = some (.string ⟨t.text.toArray⟩)
  c3 : w.cell? ⟨g, off + 3, none⟩ = some (.int .i64 t.op)
  c4 : w.cell? ⟨g, off + 4, none⟩ = some (.int .i64 t.v.k)
  c5 : w.cell? ⟨g, off + 5, none⟩ = some (.int .i64 t.v.n)
  c6 : w.cell? ⟨g, off + 6, none⟩ = some (.string t.v.s)
  c7 : w.cell? ⟨g, off + 7, none⟩ = some (.int .u64 t.v.f)
theorem HAt.of {w : World} {g off : Nat} {t : Tk} {l : List Tk} (hc : ∀ j u, (encTs (t :: l))[j]? = some u → w.cell? ⟨g, off + j, none⟩ = some u) : HAt w g off t :=
  ⟨hc 0 _ (encTs_cons t l 0 (by decide)), hc 1 _ (encTs_cons t l 1 (by decide)), hc 2 _ (encTs_cons t l 2 (by decide)), hc 3 _ (encTs_cons t l 3 (by decide)), hc 4 _ (encTs_cons t l 4 (by decide)), hc 5 _ (encTs_cons t l 5 (by decide)), hc 6 _ (encTs_cons t l 6 (by decide)), hc 7 _ (encTs_cons t l 7 (by decide))⟩
/-- a variable that holds a test -/
structure KVar (w : World) (b : Nat) (t : Tree) (a : Option Addr) (n c : Nat) : Prop where
  c0 : w.cell? ⟨b, 0, none⟩ = some (.int .i64 t.k)
  c1 : w.cell? ⟨b, 1, none⟩ = some (.int .i64 t.pos)
  c2 : w.cell? ⟨b, 2, none⟩ = some (.string ⟨t.col.toArray⟩)
  c3 : w.cell? ⟨b, 3, none⟩ = some (.int .i64 t.v.k)
  c4 : w.cell? ⟨b, 4, none⟩ = some (.int .i64 t.v.n)
  c5 : w.cell? ⟨b, 5, none⟩ = some (.string t.v.s)
  c6 : w.cell? ⟨b, 6, none⟩ = some (.int .u64 t.v.f)
  c7 : w.cell? ⟨b, 7, none⟩ = some (.int .i64 t.op)
  c8 : w.cell? ⟨b, 8, none⟩ = some (.slice a n c)
  z : ∀ o, w.frozen? ⟨b, o, none⟩ = false
  lt : b < w.heap.size
/-- a variable that holds no test yet -/
structure ZVar (w : World) (b : Nat) : Prop where
  c0 : w.cell? ⟨b, 0, none⟩ = some (.int .i64 0)
  c1 : w.cell? ⟨b, 1, none⟩ = some (.int .i64 0)
  c2 : w.cell? ⟨b, 2, none⟩ = some (.string ⟨#[]⟩)
  c3 : w.cell? ⟨b, 3, none⟩ = some (.int .i64 0)
  c4 : w.cell? ⟨b, 4, none⟩ = some (.int .i64 0)
  c5 : w.cell? ⟨b, 5, none⟩ = some (.string ⟨#[]⟩)
  c6 : w.cell? ⟨b, 6, none⟩ = some (.int .u64 0)
  c7 : w.cell? ⟨b, 7, none⟩ = some (.int .i64 0)
  c8 : w.cell? ⟨b, 8, none⟩ = some (.slice none 0 0)
  z : ∀ o, w.frozen? ⟨b, o, none⟩ = false
  lt : b < w.heap.size
theorem KVar.new (w : World) (t : Tree) (a : Option Addr) (n c : Nat) (ty : TypeId) : KVar (w.alloc (.cells (t.cells a n c) ty)) w.heap.size t a n c where
  c0 := by simp
  c1 := by simp
  c2 := by simp
  c3 := by simp
  c4 := by simp
  c5 := by simp
  c6 := by simp
  c7 := by simp
  c8 := by simp
  z := fun o => by simp
  lt := by simp
abbrev zcells : Array Value := #[.int .i64 0, .int .i64 0, .string ⟨#[]⟩, .int .i64 0, .int .i64 0, .string ⟨#[]⟩, .int .u64 0, .int .i64 0, .slice none 0 0]
theorem ZVar.new (w : World) (ty : TypeId) : ZVar (w.alloc (.cells zcells ty)) w.heap.size where
  c0 := by simp
  c1 := by simp
  c2 := by simp
  c3 := by simp
  c4 := by simp
  c5 := by simp
  c6 := by simp
  c7 := by simp
  c8 := by simp
  z := fun o => by simp
  lt := by simp
theorem KVar.map {w w' : World} {b : Nat} {t : Tree} {a : Option Addr} {n c : Nat} (h : KVar w b t a n c) (hc : ∀ i v, w.cell? ⟨b, i, none⟩ = some v → w'.cell? ⟨b, i, none⟩ = some v) (hz : ∀ o, w'.frozen? ⟨b, o, none⟩ = w.frozen? ⟨b, o, none⟩) (hs : w.heap.size ≤ w'.heap.size) : KVar w' b t a n c :=
  ⟨hc _ _ h.c0, hc _ _ h.c1, hc _ _ h.c2, hc _ _ h.c3, hc _ _ h.c4, hc _ _ h.c5, hc _ _ h.c6, hc _ _ h.c7, hc _ _ h.c8, fun o => (hz o).trans (h.z o), Nat.lt_of_lt_of_le h.lt hs⟩
theorem ZVar.map {w w' : World} {b : Nat} (h : ZVar w b) (hc : ∀ i v, w.cell? ⟨b, i, none⟩ = some v → w'.cell? ⟨b, i, none⟩ = some v) (hz : ∀ o, w'.frozen? ⟨b, o, none⟩ = w.frozen? ⟨b, o, none⟩) (hs : w.heap.size ≤ w'.heap.size) : ZVar w' b :=
  ⟨hc _ _ h.c0, hc _ _ h.c1, hc _ _ h.c2, hc _ _ h.c3, hc _ _ h.c4, hc _ _ h.c5, hc _ _ h.c6, hc _ _ h.c7, hc _ _ h.c8, fun o => (hz o).trans (h.z o), Nat.lt_of_lt_of_le h.lt hs⟩
theorem KVar.but {w w' : World} {b R : Nat} {t : Tree} {a : Option Addr} {n c : Nat} (h : KVar w b t a n c) (hb : But R w w') (hR : R < b) : KVar w' b t a n c :=
  h.map (fun i v hc => hb.cell hc (by show b ≠ R; omega)) (fun o => hb.frozen h.lt (by show b ≠ R; omega)) hb.size
theorem ZVar.but {w w' : World} {b R : Nat} (h : ZVar w b) (hb : But R w w') (hR : R < b) : ZVar w' b :=
  h.map (fun i v hc => hb.cell hc (by show b ≠ R; omega)) (fun o => hb.frozen h.lt (by show b ≠ R; omega)) hb.size
theorem KVar.below {w w' : World} {b B : Nat} {t : Tree} {a : Option Addr} {n c : Nat} (h : KVar w b t a n c) (hb : Below B w w') (hB : b < B) : KVar w' b t a n c :=
  h.map (fun i v hc => (hb.cell hB).trans hc) (fun o => hb.frozen hB) hb.size
theorem ZVar.below {w w' : World} {b B : Nat} (h : ZVar w b) (hb : Below B w w') (hB : b < B) : ZVar w' b :=
  h.map (fun i v hc => (hb.cell hB).trans hc) (fun o => hb.frozen hB) hb.size
theorem TAt.but {w w' : World} {b R : Nat} {t : Tk} (h : TAt w b t) (hb : But R w w') (hR : R < b) : TAt w' b t where
  c0 := hb.cell h.c0 (by show b ≠ R; omega)
  c1 := hb.cell h.c1 (by show b ≠ R; omega)
  c2 := hb.cell h.c2 (by show b ≠ R; omega)
  c3 := hb.cell h.c3 (by show b ≠ R; omega)
  c4 := hb.cell h.c4 (by show b ≠ R; omega)
  c5 := hb.cell h.c5 (by show b ≠ R; omega)
  c6 := hb.cell h.c6 (by show b ≠ R; omega)
  c7 := hb.cell h.c7 (by show b ≠ R; omega)
  z := fun o => (hb.frozen h.lt (by show b ≠ R; omega)).trans (h.z o)
  lt := Nat.lt_of_lt_of_le h.lt hb.size
theorem But.off {R b : Nat} {a w : World} (h : But R a w) (hb : a.heap.size ≤ b) (o : Nat) (v : Value) : But R a (w.setCell ⟨b, o, none⟩ v) :=
  ⟨h.os, h.tape, h.output, by have := h.size; simpa [World.setCell] using this, fun k hk hR => (Below.heap_setCell w ⟨b, o, none⟩ v k (by show k ≠ b; omega)).trans (h.block k hk hR)⟩
theorem PAt.off {w : World} {P b : Nat} {l : List Tk} {e d : Nat} (h : PAt w P l e d) (hb : P < b) (o : Nat) (v : Value) : PAt (w.setCell ⟨b, o, none⟩ v) P l e d := by
  have ne : ∀ g i : Nat, g ≤ P → (⟨b, o, none⟩ : Addr) ≠ ⟨g, i, none⟩ := fun g i hg h => by injection h with h _; omega
  obtain ⟨⟨u, h1, h2⟩, c1, c2, z, lt⟩ := h
  refine ⟨⟨u, cell_off h1 (ne P 0 (Nat.le_refl _)), ?_⟩, cell_off c1 (ne P 1 (Nat.le_refl _)), cell_off c2 (ne P 2 (Nat.le_refl _)), fun i => (World.frozen?_setCell _ _ _ _).trans (z i), by simpa [World.setCell] using lt⟩
  rcases h2 with h | ⟨g, off, c, e1, e2, e3, e4⟩
  · exact .inl h
  · obtain ⟨e3, cur, e5⟩ := e3
    exact .inr ⟨g, off, c, e1, e2, ⟨e3, cur, (Below.heap_setCell w ⟨b, o, none⟩ v g (by show g ≠ b; omega)).trans e5⟩, fun j u hj => cell_off (e4 j u hj) (ne g _ (by omega))⟩
theorem KSl.off {w : World} {lo b : Nat} {l : List Tree} {a : Option Addr} {n : Nat} (h : KSl w lo l a n) (hb : b < lo) (o : Nat) (v : Value) : KSl (w.setCell ⟨b, o, none⟩ v) lo l a n :=
  h.map (fun g i u hl hc => cell_off hc (fun e => by injection e with e _; omega)) (by simp [World.setCell])
abbrev st9 (W : World) (b : Nat) (v0 v1 v2 v3 v4 v5 v6 v7 v8 : Value) : World := (((((((((W.setCell ⟨b, 0, none⟩ v0).setCell ⟨b, 1, none⟩ v1).setCell ⟨b, 2, none⟩ v2).setCell ⟨b, 3, none⟩ v3).setCell ⟨b, 4, none⟩ v4).setCell ⟨b, 5, none⟩ v5).setCell ⟨b, 6, none⟩ v6).setCell ⟨b, 7, none⟩ v7).setCell ⟨b, 8, none⟩ v8)
theorem But.put9 {R b : Nat} {a W : World} (h : But R a W) (hb : a.heap.size ≤ b) (v0 v1 v2 v3 v4 v5 v6 v7 v8 : Value) : But R a (st9 W b v0 v1 v2 v3 v4 v5 v6 v7 v8) :=
  (((((((((h.off hb _ _).off hb _ _).off hb _ _).off hb _ _).off hb _ _).off hb _ _).off hb _ _).off hb _ _).off hb _ _)
theorem PAt.put9 {W : World} {P b : Nat} {l : List Tk} {e d : Nat} (h : PAt W P l e d) (hb : P < b) (v0 v1 v2 v3 v4 v5 v6 v7 v8 : Value) : PAt (st9 W b v0 v1 v2 v3 v4 v5 v6 v7 v8) P l e d :=
  (((((((((h.off hb _ _).off hb _ _).off hb _ _).off hb _ _).off hb _ _).off hb _ _).off hb _ _).off hb _ _).off hb _ _)
theorem KSl.put9 {W : World} {lo b : Nat} {l : List Tree} {a : Option Addr} {n : Nat} (h : KSl W lo l a n) (hb : b < lo) (v0 v1 v2 v3 v4 v5 v6 v7 v8 : Value) : KSl (st9 W b v0 v1 v2 v3 v4 v5 v6 v7 v8) lo l a n :=
  (((((((((h.off hb _ _).off hb _ _).off hb _ _).off hb _ _).off hb _ _).off hb _ _).off hb _ _).off hb _ _).off hb _ _)
theorem addr_block_ne {b b' : Nat} (h : b' ≠ b) (o i : Nat) : (⟨b', o, none⟩ : Addr) ≠ ⟨b, i, none⟩ := fun e => by injection e with e _; exact h e
theorem KVar.off {w : World} {b b' : Nat} {t : Tree} {a : Option Addr} {n c : Nat} (h : KVar w b t a n c) (hb : b' ≠ b) (o : Nat) (v : Value) : KVar (w.setCell ⟨b', o, none⟩ v) b t a n c :=
  h.map (fun i u hc => cell_off hc (addr_block_ne hb o i)) (fun i => World.frozen?_setCell _ _ _ _) (by simp [World.setCell])
theorem ZVar.off {w : World} {b b' : Nat} (h : ZVar w b) (hb : b' ≠ b) (o : Nat) (v : Value) : ZVar (w.setCell ⟨b', o, none⟩ v) b :=
  h.map (fun i u hc => cell_off hc (addr_block_ne hb o i)) (fun i => World.frozen?_setCell _ _ _ _) (by simp [World.setCell])
theorem KVar.put9 {W : World} {b b' : Nat} {t : Tree} {a : Option Addr} {n c : Nat} (h : KVar W b t a n c) (hb : b' ≠ b) (v0 v1 v2 v3 v4 v5 v6 v7 v8 : Value) : KVar (st9 W b' v0 v1 v2 v3 v4 v5 v6 v7 v8) b t a n c :=
  (((((((((h.off hb _ _).off hb _ _).off hb _ _).off hb _ _).off hb _ _).off hb _ _).off hb _ _).off hb _ _).off hb _ _)
theorem ZVar.put9 {W : World} {b b' : Nat} (h : ZVar W b) (hb : b' ≠ b) (v0 v1 v2 v3 v4 v5 v6 v7 v8 : Value) : ZVar (st9 W b' v0 v1 v2 v3 v4 v5 v6 v7 v8) b :=
  (((((((((h.off hb _ _).off hb _ _).off hb _ _).off hb _ _).off hb _ _).off hb _ _).off hb _ _).off hb _ _).off hb _ _)
theorem st9_size (W : World) (b : Nat) (v0 v1 v2 v3 v4 v5 v6 v7 v8 : Value) : (st9 W b v0 v1 v2 v3 v4 v5 v6 v7 v8).heap.size = W.heap.size := by simp [World.setCell]
theorem KVar.put {W : World} {b : Nat} {t : Tree} {a : Option Addr} {n c : Nat} (h : KVar W b t a n c) (t' : Tree) (a' : Option Addr) (n' c' : Nat) : KVar (st9 W b (.int .i64 t'.k) (.int .i64 t'.pos) (.string ⟨t'.col.toArray⟩) (.int .i64 t'.v.k) (.int .i64 t'.v.n) (.string t'.v.s) (.int .u64 t'.v.f) (.int .i64 t'.op) (.slice a' n' c')) b t' a' n' c' := by
  obtain ⟨h0, h1, h2, h3, h4, h5, h6, h7, h8, z, lt⟩ := h
  have ne : ∀ i j : Nat, i ≠ j → (⟨b, i, none⟩ : Addr) ≠ ⟨b, j, none⟩ := fun i j e => addr_ne b e
  refine ⟨(cell_off (cell_off (cell_off (cell_off (cell_off (cell_off (cell_off (cell_off (cell_at h0 rfl) (ne 1 0 (by decide))) (ne 2 0 (by decide))) (ne 3 0 (by decide))) (ne 4 0 (by decide))) (ne 5 0 (by decide))) (ne 6 0 (by decide))) (ne 7 0 (by decide))) (ne 8 0 (by decide))), (cell_off (cell_off (cell_off (cell_off (cell_off (cell_off (cell_off (cell_at (cell_off h1 (ne 0 1 (by decide))) rfl) (ne 2 1 (by decide))) (ne 3 1 (by decide))) (ne 4 1 (by decide))) (ne 5 1 (by decide))) (ne 6 1 (by decide))) (ne 7 1 (by decide))) (ne 8 1 (by decide))), (cell_off (cell_off (cell_off (cell_off (cell_off (cell_off (cell_at (cell_off (cell_off h2 (ne 0 2 (by decide))) (ne 1 2 (by decide))) rfl) (ne 3 2 (by decide))) (ne 4 2 (by decide))) (ne 5 2 (by decide))) (ne 6 2 (by decide))) (ne 7 2 (by decide))) (ne 8 2 (by decide))), (cell_off (cell_off (cell_off (cell_off (cell_off (cell_at (cell_off (cell_off (cell_off h3 (ne 0 3 (by decide))) (ne 1 3 (by decide))) (ne 2 3 (by decide))) rfl) (ne 4 3 (by decide))) (ne 5 3 (by decide))) (ne 6 3 (by decide))) (ne 7 3 (by decide))) (ne 8 3 (by decide))), (cell_off (cell_off (cell_off (cell_off (cell_at (cell_off (cell_off (cell_off (cell_off h4 (ne 0 4 (by decide))) (ne 1 4 (by decide))) (ne 2 4 (by decide))) (ne 3 4 (by decide))) rfl) (ne 5 4 (by decide))) (ne 6 4 (by decide))) (ne 7 4 (by decide))) (ne 8 4 (by decide))), (cell_off (cell_off (cell_off (cell_at (cell_off (cell_off (cell_off (cell_off (cell_off h5 (ne 0 5 (by decide))) (ne 1 5 (by decide))) (ne 2 5 (by decide))) (ne 3 5 (by decide))) (ne 4 5 (by decide))) rfl) (ne 6 5 (by decide))) (ne 7 5 (by decide))) (ne 8 5 (by decide))), (cell_off (cell_off (cell_at (cell_off (cell_off (cell_off (cell_off (cell_off (cell_off h6 (ne 0 6 (by decide))) (ne 1 6 (by decide))) (ne 2 6 (by decide))) (ne 3 6 (by decide))) (ne 4 6 (by decide))) (ne 5 6 (by decide))) rfl) (ne 7 6 (by decide))) (ne 8 6 (by decide))), (cell_off (cell_at (cell_off (cell_off (cell_off (cell_off (cell_off (cell_off (cell_off h7 (ne 0 7 (by decide))) (ne 1 7 (by decide))) (ne 2 7 (by decide))) (ne 3 7 (by decide))) (ne 4 7 (by decide))) (ne 5 7 (by decide))) (ne 6 7 (by decide))) rfl) (ne 8 7 (by decide))), (cell_at (cell_off (cell_off (cell_off (cell_off (cell_off (cell_off (cell_off (cell_off h8 (ne 0 8 (by decide))) (ne 1 8 (by decide))) (ne 2 8 (by decide))) (ne 3 8 (by decide))) (ne 4 8 (by decide))) (ne 5 8 (by decide))) (ne 6 8 (by decide))) (ne 7 8 (by decide))) rfl), fun o => ?_, ?_⟩
  · simp only [st9, World.frozen?_setCell]; exact z o
  · simpa [World.setCell] using lt
theorem KVar.row1 {W : World} {lo b : Nat} {t : Tree} {a : Option Addr} {n c : Nat} (h : KVar W b t a n c) (hk : KSl W lo t.kids a n) (hb : lo ≤ b) : KSl W lo [t] (some ⟨b, 0, none⟩) 1 :=
  .on hb h.lt rfl (.cons ⟨h.c0, h.c1, h.c2, h.c3, h.c4, h.c5, h.c6, h.c7, h.c8⟩ hk (.nil _ _))
end Go.Proofs.YtfkghfmgeholeaaGreatDoor
