/- Slices that came in. -/
import Derived.Test.YtdblpcfkiiliiaaRows
import Derived.WalkKit
import Derived.ProofKit
import Derived.OpenShut
import Derived.ShutString
import Derived.ChangeOld
import Derived.Below
set_option linter.unusedVariables false
set_option linter.unusedSimpArgs false
namespace Go.Proofs.Ytdblpcfkiiliiaa
open Go.RowKit
/-- a place whose cells are read has no spot -/
theorem spot_none {w : World} {x : Addr} {v : Value} (h : w.cell? (x.add 0) = some v) : x = ⟨x.block, x.off, none⟩ := by
  have h' : w.cell? x = some v := h
  unfold World.cell? at h'
  split at h'
  · split at h'
    · cases h'
    · rename_i hs
      cases x with
      | mk b o s =>
        cases s with
        | none => rfl
        | some s => simp at hs
  · cases h'
theorem add_none (b o i : Nat) : (⟨b, o, none⟩ : Addr).add i = ⟨b, o + i, none⟩ := by
  unfold Addr.add; split <;> simp_all
end Go.Proofs.Ytdblpcfkiiliiaa
