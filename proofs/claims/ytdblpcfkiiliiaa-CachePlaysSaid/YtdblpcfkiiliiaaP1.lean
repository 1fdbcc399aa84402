/- Numbers that came in: what their cells hold. -/
import Derived.Test.YtdblpcfkiiliiaaR3
import Derived.Test.YtdblpcfkiiliiaaC9
set_option linter.unusedVariables false
set_option linter.unusedSimpArgs false
namespace Go.Proofs.Ytdblpcfkiiliiaa
open Go.ChangeShapes Go.WideShapes Go.RowKit

section
variable {H : Type} {enc : TypeId × Value → H} {w : World} {spare : Nat → Bool} {held : Bool}
theorem nums_of {a0 : Option Addr} {len cap : Nat} {d : DataW H} {p : List MemPlace} (h : DataW.Trod enc Try.prog w 0 spare held 35 (.slice a0 len cap) d p) :
    ∃ xs : List Int, xs.length = len ∧ len ≤ 9223372036854775807 ∧ NumsAt w a0 xs := by
  obtain ⟨fuel, hf⟩ := h
  rcases open_ints Try.underlying35 Try.underlying3 (by kernel_rfl) hf with ⟨hcs, _⟩ | ⟨x, l, c, zs, hcs, _, hl, hm, hz, _, hc, hw⟩
  · simp [Value.cells] at hcs
    obtain ⟨rfl, rfl, rfl⟩ := hcs
    exact ⟨[], rfl, by omega, fun i hi => by simp at hi⟩
  · simp [Value.cells] at hcs
    obtain ⟨rfl, rfl, rfl⟩ := hcs
    have hzl : len ≤ zs.length := by rw [hz]; split <;> omega
    refine ⟨zs.take len, by simp; omega, by unfold maxLen at hm; omega, fun i hi => ?_⟩
    have hi2 : i < len := by simp at hi; omega
    have h0 := hc 0 (by omega)
    have hs := spot_none h0
    have hci := hc i (by omega)
    rw [hs, add_none] at hci
    refine ⟨x.block, x.off, by rw [← hs], World.block_lt_of_cell? w ⟨x.block, x.off + i, none⟩ hci, ?_⟩
    rw [hci]
    simp [List.getD_eq_getElem?_getD, show i < zs.length by omega]
end
end Go.Proofs.Ytdblpcfkiiliiaa
