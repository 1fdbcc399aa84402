/- Two tests in variables. -/
import Derived.Test.YtfkghfmgeholeaaGreatDoorPd0
set_option linter.unusedVariables false
set_option linter.unusedSimpArgs false
namespace Go.Proofs.YtfkghfmgeholeaaGreatDoor
open Go.RowKit

/-- the two boxed tests -/
def Boxes (w W : World) (x y : Tree) (a : Option Addr) (n c : Nat) (b : Option Addr) (m k : Nat) : Prop := KVar W w.heap.size x a n c ∧ KVar W (w.heap.size + 1) y b m k ∧ Below w.heap.size w W
theorem boxes_new (w : World) (x y : Tree) (a : Option Addr) (n c : Nat) (b : Option Addr) (m k : Nat) (ty ty2 : TypeId) : Boxes w ((w.alloc (.cells (x.cells a n c) ty)).alloc (.cells (y.cells b m k) ty2)) x y a n c b m k := by
  have h0 := KVar.new w x a n c ty
  have hb0 := Below.new w (.cells (x.cells a n c) ty)
  have hs : (w.alloc (.cells (x.cells a n c) ty)).heap.size = w.heap.size + 1 := by simp
  generalize (w.alloc (.cells (x.cells a n c) ty)) = W0 at h0 hb0 hs ⊢
  have hb1 := Below.new W0 (.cells (y.cells b m k) ty2)
  have hz := KVar.new W0 y b m k ty2
  rw [hs] at hz
  exact ⟨h0.below hb1 h0.lt, hz, hb0.trans (hb1.mono hb0.size)⟩
end Go.Proofs.YtfkghfmgeholeaaGreatDoor
