/- The number of a field, found from behind. No code is stepped through. -/
import Derived.Test.YtfkghfmgeholeaaGreatDoorCa1
set_option linter.unusedVariables false
set_option linter.unusedSimpArgs false
namespace Go.Proofs.YtfkghfmgeholeaaGreatDoor
open Go.RowKit

def bkL (l : List Fd) (s : List UInt8) (m : Nat) : Int := if idxL (l.drop m) s < 0 then -1 else idxL (l.drop m) s + m
theorem bk_end (l : List Fd) (s : List UInt8) : bkL l s l.length = -1 := by
  unfold bkL
  rw [List.drop_length, idxL]
  simp
theorem bk_zero (l : List Fd) (s : List UInt8) : bkL l s 0 = idxL l s := by
  unfold bkL
  rw [List.drop_zero]
  have := idxL_lo l s
  split <;> omega
theorem bk_step {l : List Fd} {s : List UInt8} {i : Nat} {f : Fd} (hf : l[i]? = some f) : bkL l s i = if f.name = s then (i : Int) else bkL l s (i + 1) := by
  obtain ⟨hlt, hf⟩ := List.getElem?_eq_some_iff.1 hf
  unfold bkL
  rw [List.drop_eq_getElem_cons hlt, hf, idxL]
  have := idxL_lo (l.drop (i + 1)) s
  split
  · rw [if_neg (by omega)]; omega
  · split
    · rfl
    · rw [if_neg (by omega)]; omega
theorem okField_at {l : List Fd} {i : Nat} {f : Fd} (hf : l[i]? = some f) : okField l i = (nameB f.name && decide (1 ≤ f.kind) && decide (f.kind ≤ 4) && decide (idxL (l.take i) f.name < 0)) := by
  unfold okField
  rw [hf]
end Go.Proofs.YtfkghfmgeholeaaGreatDoor
