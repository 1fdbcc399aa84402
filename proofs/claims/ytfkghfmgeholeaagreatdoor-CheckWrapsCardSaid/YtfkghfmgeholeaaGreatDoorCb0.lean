/- Fields on the heap; fields among a law's arguments. -/
import Derived.Test.YtfkghfmgeholeaaGreatDoorCa1
import Derived.Test.YtfkghfmgeholeaaGreatDoorPt0
set_option linter.unusedVariables false
set_option linter.unusedSimpArgs false
namespace Go.Proofs.YtfkghfmgeholeaaGreatDoor
open Go.ChangeShapes Go.WideShapes Go.ChangeAt Go.RowKit Go.Joins

abbrev Fd.val (f : Fd) : Value := .agg #[.string ⟨f.name.toArray⟩, .int .i64 f.kind]
/-- a field's two cells -/
structure FAt (w : World) (b o : Nat) (f : Fd) : Prop where
  c0 : w.cell? ⟨b, o, none⟩ = some (.string ⟨f.name.toArray⟩)
  c1 : w.cell? ⟨b, o + 1, none⟩ = some (.int .i64 f.kind)
theorem FAt.map {w w' : World} {b o : Nat} {f : Fd} (h : FAt w b o f) (hw : ∀ i v, w.cell? ⟨b, i, none⟩ = some v → w'.cell? ⟨b, i, none⟩ = some v) : FAt w' b o f := ⟨hw _ _ h.c0, hw _ _ h.c1⟩
/-- a slice of fields -/
def FSl (w : World) (a : Option Addr) (n : Nat) (l : List Fd) : Prop := n = l.length ∧ ∀ i f, l[i]? = some f → ∃ b o, a = some ⟨b, o, none⟩ ∧ FAt w b (o + i * 2) f
theorem FSl.later {w w' : World} {a : Option Addr} {n : Nat} {l : List Fd} (h : FSl w a n l) (hb : Below w.heap.size w w') : FSl w' a n l :=
  ⟨h.1, fun i f hf => by
    obtain ⟨b, o, e, ha⟩ := h.2 i f hf
    exact ⟨b, o, e, ha.map fun i v hc => (hb.cell (World.block_lt_of_cell? w _ hc)).trans hc⟩⟩
theorem FSl.take {w : World} {a : Option Addr} {n i : Nat} {l : List Fd} (h : FSl w a n l) (hi : i ≤ n) : FSl w a i (l.take i) :=
  ⟨by rw [List.length_take, ← h.1]; omega, fun j f hf => h.2 j f (by
    have hj : j < i := by
      have := (List.getElem?_eq_some_iff.1 hf).1
      rw [List.length_take] at this
      omega
    rwa [List.getElem?_take_of_lt hj] at hf)⟩
section
variable {H : Type} {enc : TypeId × Value → H} {w : World} {base : Nat} {spare : Nat → Bool} {held : Bool}
set_option maxRecDepth 100000 in
theorem trod_field {fuel : Nat} {cs : List Value} {x : DataW H × List MemPlace} (h : DataW.trod enc Tryz.prog w base spare held fuel 45 cs = some x) : ∃ f : Fd, cs = [.string ⟨f.name.toArray⟩, .int .i64 f.kind] := by
  obtain ⟨xs, m, rfl, -, hl, hn, hi⟩ := DataW.trod_struct Tryz.underlying45 h
  rw [show Tryz.prog.cellsOf 45 = 2 by kernel_rfl] at hl
  have h0 : DataW.trod enc Tryz.prog w base spare held m 9 ((cs.drop 0).take (Tryz.prog.cellsOf 9)) = xs[0]? := hi 0 _ rfl
  have h1 : DataW.trod enc Tryz.prog w base spare held m 23 ((cs.drop 1).take (Tryz.prog.cellsOf 23)) = xs[1]? := hi 1 _ rfl
  match xs, hn with
  | [y0, y1], _ =>
  match cs, hl with
  | [z0, z1], _ =>
    rw [show Tryz.prog.cellsOf 9 = 1 by kernel_rfl] at h0
    rw [show Tryz.prog.cellsOf 23 = 1 by kernel_rfl] at h1
    obtain ⟨s, hs, -, ws⟩ := DataW.trod_string Tryz.underlying9 h0
    obtain ⟨k, hk, -, wk⟩ := DataW.trod_int Tryz.underlying23 h1
    simp only [List.drop_zero, List.take_succ_cons, List.take_zero, List.drop_succ_cons, List.cons.injEq, and_true] at hs hk
    subst hs hk
    exact ⟨⟨s.data.toList, k⟩, by simp⟩
theorem fields_of {b o : Nat} (len : Nat) : (∀ i, i < len → ∃ f, FAt w b (o + i * 2) f) → ∃ l : List Fd, l.length = len ∧ ∀ i f, l[i]? = some f → FAt w b (o + i * 2) f := by
  intro h
  induction len with
  | zero => exact ⟨[], rfl, fun i f hf => by simp at hf⟩
  | succ len ih =>
    obtain ⟨l, h1, h2⟩ := ih (fun i hi => h i (by omega))
    obtain ⟨f, hf⟩ := h len (by omega)
    refine ⟨l ++ [f], by simp [h1], fun i g hg => ?_⟩
    rcases Nat.lt_or_ge i len with hi | hi
    · rw [List.getElem?_append_left (by omega)] at hg
      exact h2 i g hg
    · have hi2 : i < (l ++ [f]).length := (List.getElem?_eq_some_iff.1 hg).1
      rw [List.length_append, List.length_singleton] at hi2
      obtain rfl : i = len := by omega
      rw [List.getElem?_append_right (by omega), h1, Nat.sub_self] at hg
      injection hg with hg
      subst hg
      exact hf
set_option maxRecDepth 100000 in
/-- fields that came in -/
theorem open_fields {r : Reach} {b0 : Nat} {v : Value} {d : DataW H} {p : List MemPlace} (hv : Value.okWide Tryz.prog w r b0 31 v) (h : DataW.Trod enc Tryz.prog w base spare held 31 v d p) :
    ∃ (l : List Fd) (a : Option Addr) (n c : Nat), v = .slice a n c ∧ FSl w a n l ∧ n ≤ c ∧ c ≤ maxLen := by
  obtain ⟨a1, len, cap, rfl⟩ := okWide_slice Tryz.underlying31 hv
  obtain ⟨fuel, hf⟩ := h
  have h6 := DataW.trod_slice Tryz.underlying31 hf
  rcases h6 with ⟨hcs, -⟩ | ⟨a, len', cap', elems, rest, n, hnm, hcs, -, -, hle, hcm, hlen, hel, -⟩
  · simp [Value.cells] at hcs
    obtain ⟨rfl, rfl, rfl⟩ := hcs
    exact ⟨[], none, 0, 0, rfl, ⟨rfl, fun i f hf => by simp at hf⟩, Nat.le_refl _, Nat.zero_le _⟩
  · simp [Value.cells] at hcs
    obtain ⟨rfl, rfl, rfl⟩ := hcs
    rw [show Tryz.prog.cellsOf 45 = 2 by kernel_rfl] at hel
    obtain ⟨b, o, sp⟩ := a
    rcases Nat.eq_zero_or_pos len with rfl | hpos
    · exact ⟨[], _, 0, cap, rfl, ⟨rfl, fun i f hf => by simp at hf⟩, hle, hcm⟩
    · have hsome : ∀ i, i < len → ∃ ds, w.cells? base ((⟨b, o, sp⟩ : Addr).add (i * 2)) 2 = some ds ∧ ∃ y, DataW.trod enc Tryz.prog w base spare held n 45 ds = some y := fun i hi => by
        have := hel i hi
        rw [List.getElem?_eq_getElem (by omega)] at this
        obtain ⟨ds, e1, e2⟩ := Option.bind_eq_some_iff.1 this
        exact ⟨ds, e1, _, e2⟩
      have hsp : sp = none := by
        obtain ⟨ds, e1, -⟩ := hsome 0 hpos
        obtain ⟨-, l1, e2⟩ := World.cells?_some e1
        have e3 := e2 0 (by decide)
        rw [List.getElem?_eq_getElem (by omega)] at e3
        have := cell_spot e3
        simpa [Addr.add] using this
      subst hsp
      obtain ⟨l, g1, g2⟩ := fields_of (w := w) (b := b) (o := o) len (fun i hi => by
        obtain ⟨ds, e1, y, e2⟩ := hsome i hi
        obtain ⟨f, rfl⟩ := trod_field e2
        obtain ⟨-, -, e3⟩ := World.cells?_some e1
        have f0 := e3 0 (by decide)
        have f1 := e3 1 (by decide)
        rw [addr_add, addr_add] at f0 f1
        exact ⟨f, ⟨f0, f1⟩⟩)
      exact ⟨l, _, len, cap, rfl, ⟨g1.symm, fun i f hf => ⟨b, o, rfl, g2 i f hf⟩⟩, hle, hcm⟩
end
end Go.Proofs.YtfkghfmgeholeaaGreatDoor
