/- Scripts that came in: what their cells hold. -/
import Derived.Test.YtdblpcfkiiliiaaD1
import Derived.Test.YtdblpcfkiiliiaaC9
import Derived.Deep.Slices
import Derived.Deep.Fields
import Derived.ChangeSame
set_option linter.unusedVariables false
set_option linter.unusedSimpArgs false
namespace Go.Proofs.Ytdblpcfkiiliiaa
open Go.ChangeShapes Go.WideShapes Go.Deep Go.RowKit

section
variable {H : Type} {enc : TypeId × Value → H} {w : World} {spare : Nat → Bool} {held : Bool}
/-- one act, out of its three cells -/
theorem op_cells {fuel : Nat} {a : Addr} {i : Nat} {cs : List Value} {x : DataW H × List MemPlace} (hc : w.cells? 0 (a.add (i * 3)) 3 = some cs) (h : DataW.trod enc Try.prog w 0 spare held fuel 43 cs = some x) :
    ∃ k t p : Int, w.cell? (a.add (i * 3)) = some (.int .i64 k) ∧ w.cell? (a.add (i * 3 + 1)) = some (.int .i64 t) ∧ w.cell? (a.add (i * 3 + 2)) = some (.int .i64 p) := by
  obtain ⟨xs, n, _, _, hl, hxl, hf⟩ := DataW.trod_struct Try.underlying43 h
  obtain ⟨_, hcl, hat⟩ := World.cells?_some hc
  match cs, hcl with
  | [v0, v1, v2], _ =>
    have g : ∀ (j : Nat) (v : Value) (y : DataW H × List MemPlace), DataW.trod enc Try.prog w 0 spare held n 3 [v] = some y → ∃ k : Int, v = .int .i64 k := fun j v y hy => by
      obtain ⟨k, hk, _⟩ := DataW.trod_int Try.underlying3 hy
      exact ⟨k, by simpa using hk⟩
    have c1 : Try.prog.cellsOf 3 = 1 := by kernel_rfl
    have e0 : DataW.trod enc Try.prog w 0 spare held n 3 [v0] = xs[0]? := by
      have e : DataW.trod enc Try.prog w 0 spare held n 3 (([v0, v1, v2].drop 0).take (Try.prog.cellsOf 3)) = xs[0]? := hf 0 _ rfl
      rw [c1] at e; exact e
    have e1 : DataW.trod enc Try.prog w 0 spare held n 3 [v1] = xs[1]? := by
      have e : DataW.trod enc Try.prog w 0 spare held n 3 (([v0, v1, v2].drop 1).take (Try.prog.cellsOf 3)) = xs[1]? := hf 1 _ rfl
      rw [c1] at e; exact e
    have e2 : DataW.trod enc Try.prog w 0 spare held n 3 [v2] = xs[2]? := by
      have e : DataW.trod enc Try.prog w 0 spare held n 3 (([v0, v1, v2].drop 2).take (Try.prog.cellsOf 3)) = xs[2]? := hf 2 _ rfl
      rw [c1] at e; exact e
    have hxl' : xs.length = 3 := hxl
    obtain ⟨k, rfl⟩ := g 0 v0 _ (e0.trans (List.getElem?_eq_getElem (by omega)))
    obtain ⟨t, rfl⟩ := g 1 v1 _ (e1.trans (List.getElem?_eq_getElem (by omega)))
    obtain ⟨p, rfl⟩ := g 2 v2 _ (e2.trans (List.getElem?_eq_getElem (by omega)))
    refine ⟨k, t, p, ?_, ?_, ?_⟩
    · exact hat 0 (by omega)
    · rw [← add_add, hat 1 (by omega)]; rfl
    · rw [← add_add, hat 2 (by omega)]; rfl

/-- a script, out of its reading -/
theorem ops_of {a0 : Option Addr} {len cap : Nat} {d : DataW H} {p : List MemPlace} (h : DataW.Trod enc Try.prog w 0 spare held 36 (.slice a0 len cap) d p) :
    ∃ os : List OpD, os.length = len ∧ len ≤ 9223372036854775807 ∧ OpsAt w a0 os := by
  obtain ⟨fuel, hf⟩ := h
  have c3 : Try.prog.cellsOf 43 = 3 := by kernel_rfl
  rcases open_slice Try.underlying36 hf with ⟨hcs, _⟩ | ⟨a, len', cap', m, n, D, Pl, hcs, _, hl, hm, hmm, _, hi⟩
  · simp [Value.cells] at hcs
    obtain ⟨rfl, rfl, rfl⟩ := hcs
    exact ⟨[], rfl, by omega, fun i hi => by simp at hi⟩
  · simp [Value.cells] at hcs
    obtain ⟨rfl, rfl, rfl⟩ := hcs
    rw [c3] at hi
    have hlm : len ≤ m := by rw [hmm]; split <;> omega
    have hex : ∀ i, i < len → ∃ o : OpD, w.cell? (a.add (i * 3)) = some (.int .i64 o.kind) ∧ w.cell? (a.add (i * 3 + 1)) = some (.int .i64 o.tenant) ∧ w.cell? (a.add (i * 3 + 2)) = some (.int .i64 o.page) := fun i hi' => by
      obtain ⟨cs, hc, ht⟩ := hi i (by omega)
      obtain ⟨k, t, p, h1, h2, h3⟩ := op_cells hc ht
      exact ⟨⟨k, t, p⟩, h1, h2, h3⟩
    have : Inhabited OpD := ⟨⟨0, 0, 0⟩⟩
    obtain ⟨f, hf⟩ := choose_lt hex
    refine ⟨(List.range len).map f, by simp, by unfold maxLen at hm; omega, fun i hi' => ?_⟩
    have hi2 : i < len := by simpa using hi'
    obtain ⟨h1, h2, h3⟩ := hf i hi2
    have h0 := (hf 0 (by omega)).1
    rw [Nat.zero_mul] at h0
    have hs := spot_none h0
    rw [hs, add_none] at h1 h2 h3
    refine ⟨a.block, a.off, by rw [← hs], World.block_lt_of_cell? w ⟨a.block, a.off + i * 3, none⟩ h1, ?_, ?_, ?_⟩
    · simpa using h1
    · rw [show a.off + i * 3 + 1 = a.off + (i * 3 + 1) from by omega]; simpa using h2
    · rw [show a.off + i * 3 + 2 = a.off + (i * 3 + 2) from by omega]; simpa using h3
end
end Go.Proofs.Ytdblpcfkiiliiaa
