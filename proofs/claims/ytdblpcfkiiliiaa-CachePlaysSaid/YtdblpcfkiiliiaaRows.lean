/-
  No cell of these rows narrows 'for every input' (looked for: loops, veiled, ifaces, maps, wideKeys, modest, calm, conditions, laid).
  DERIVED. THE GIVEN ROWS OF THIS SEAT. 5 by the template 'for every input the law returns true; each argument reads behind the call as it read before'; 0 by the template 'total and deterministic' (their statements: YtdblpcfkiiliiaaTotals.lean).
  GIVEN WITH THE SEED: the statements are not yours to turn. If you find one false, say at which input.
  Laid BY PROGRAM, IN A SANDBOX (cutbox-rows.mjs): the forced cells as the released guide's own fill.sh prints them over the translation 758e20e15f93bdd9… (all of the seat's roots in one cut). By AI agents, Wed Nov 11 2026. No macro, syntax, notation, axiom, sorry.
-/
import Derived.Test.YtdblpcfkiiliiaaChecked
import GoSem.Claim
import GoSem.ClaimJoined
import GoSem.ClaimMapViews
import Derived.JoinedTies
import Derived.KernelRfl
namespace Go.Proofs.Ytdblpcfkiiliiaa
/- THE CELL 'sum', in the pinned program and in every row, IS THE sha256 OF THE DUMP (.gsa) THAT YtdblpcfkiiliiaaProg.lean LOADS. Nothing in Lean hashes anything: it is a label: what it is worth is what the hold of that sum in a sandbox is worth. -/
noncomputable def Try.pinned : Pinned := { name := "ytdblpcfkiiliiaa", sum := "758e20e15f93bdd9a531c8eae83817da1c9ef946de5d1cfa1a11d00de86f0067", checked := Try.checked }
namespace Rows
def none {H : Type} : Left H := { results := [], args := [] }

/-- 'strongroomlaw21.CacheFits': WHATEVER THE INPUT: true; the input reads as it did. -/
def cacheFitsSpec : ChangeSpec := { name := "cacheFits", fn := fun _ => fun
  | [d1, d2] => { results := [.lit (.bool true)], args := [d1, d2] }
  | _ => none }
def cacheFitsRow : OpenClaim := { program := "ytdblpcfkiiliiaa", sum := "758e20e15f93bdd9a531c8eae83817da1c9ef946de5d1cfa1a11d00de86f0067", func := "strongroom/strongroomlaw21.CacheFits", spec := "cacheFits", unfollowed := true, recurses := true, apart := false }
def CacheFitsSaid : Prop := cacheFitsRow.holds Try.pinned (OpenSpec.ofChange cacheFitsSpec)

/-- ITS FALSE NEIGHBOUR: 'it returns false'. Refute it at one input. -/
def cacheFitsWrong : ChangeSpec := { name := "cacheFits", fn := fun _ => fun
  | [d1, d2] => { results := [.lit (.bool false)], args := [d1, d2] }
  | _ => none }
def CacheFitsWrongFalsely : Prop := cacheFitsRow.holds Try.pinned (OpenSpec.ofChange cacheFitsWrong)

/-- 'strongroomlaw21.CachePlays': WHATEVER THE INPUT: true; the input reads as it did. -/
def cachePlaysSpec : ChangeSpec := { name := "cachePlays", fn := fun _ => fun
  | [d1, d2] => { results := [.lit (.bool true)], args := [d1, d2] }
  | _ => none }
def cachePlaysRow : OpenClaim := { program := "ytdblpcfkiiliiaa", sum := "758e20e15f93bdd9a531c8eae83817da1c9ef946de5d1cfa1a11d00de86f0067", func := "strongroom/strongroomlaw21.CachePlays", spec := "cachePlays", unfollowed := true, recurses := true, apart := false }
def CachePlaysSaid : Prop := cachePlaysRow.holds Try.pinned (OpenSpec.ofChange cachePlaysSpec)

/-- ITS FALSE NEIGHBOUR: 'it returns false'. Refute it at one input. -/
def cachePlaysWrong : ChangeSpec := { name := "cachePlays", fn := fun _ => fun
  | [d1, d2] => { results := [.lit (.bool false)], args := [d1, d2] }
  | _ => none }
def CachePlaysWrongFalsely : Prop := cachePlaysRow.holds Try.pinned (OpenSpec.ofChange cachePlaysWrong)

/-- 'strongroomlaw21.CacheAlone': WHATEVER THE INPUT: true; the input reads as it did. -/
def cacheAloneSpec : ChangeSpec := { name := "cacheAlone", fn := fun _ => fun
  | [d1, d2, d3] => { results := [.lit (.bool true)], args := [d1, d2, d3] }
  | _ => none }
def cacheAloneRow : OpenClaim := { program := "ytdblpcfkiiliiaa", sum := "758e20e15f93bdd9a531c8eae83817da1c9ef946de5d1cfa1a11d00de86f0067", func := "strongroom/strongroomlaw21.CacheAlone", spec := "cacheAlone", unfollowed := true, recurses := true, apart := false }
def CacheAloneSaid : Prop := cacheAloneRow.holds Try.pinned (OpenSpec.ofChange cacheAloneSpec)

/-- ITS FALSE NEIGHBOUR: 'it returns false'. Refute it at one input. -/
def cacheAloneWrong : ChangeSpec := { name := "cacheAlone", fn := fun _ => fun
  | [d1, d2, d3] => { results := [.lit (.bool false)], args := [d1, d2, d3] }
  | _ => none }
def CacheAloneWrongFalsely : Prop := cacheAloneRow.holds Try.pinned (OpenSpec.ofChange cacheAloneWrong)

/-- 'strongroomlaw21.CacheBounds': WHATEVER THE INPUT: true; the input reads as it did. -/
def cacheBoundsSpec : ChangeSpec := { name := "cacheBounds", fn := fun _ => fun
  | [d1, d2] => { results := [.lit (.bool true)], args := [d1, d2] }
  | _ => none }
def cacheBoundsRow : OpenClaim := { program := "ytdblpcfkiiliiaa", sum := "758e20e15f93bdd9a531c8eae83817da1c9ef946de5d1cfa1a11d00de86f0067", func := "strongroom/strongroomlaw21.CacheBounds", spec := "cacheBounds", unfollowed := true, recurses := true, apart := false }
def CacheBoundsSaid : Prop := cacheBoundsRow.holds Try.pinned (OpenSpec.ofChange cacheBoundsSpec)

/-- ITS FALSE NEIGHBOUR: 'it returns false'. Refute it at one input. -/
def cacheBoundsWrong : ChangeSpec := { name := "cacheBounds", fn := fun _ => fun
  | [d1, d2] => { results := [.lit (.bool false)], args := [d1, d2] }
  | _ => none }
def CacheBoundsWrongFalsely : Prop := cacheBoundsRow.holds Try.pinned (OpenSpec.ofChange cacheBoundsWrong)

/-- 'strongroomlaw21.CacheHolds': WHATEVER THE INPUT: true; the input reads as it did. -/
def cacheHoldsSpec : ChangeSpec := { name := "cacheHolds", fn := fun _ => fun
  | [d1, d2] => { results := [.lit (.bool true)], args := [d1, d2] }
  | _ => none }
def cacheHoldsRow : OpenClaim := { program := "ytdblpcfkiiliiaa", sum := "758e20e15f93bdd9a531c8eae83817da1c9ef946de5d1cfa1a11d00de86f0067", func := "strongroom/strongroomlaw21.CacheHolds", spec := "cacheHolds", unfollowed := true, recurses := true, apart := false }
def CacheHoldsSaid : Prop := cacheHoldsRow.holds Try.pinned (OpenSpec.ofChange cacheHoldsSpec)

/-- ITS FALSE NEIGHBOUR: 'it returns false'. Refute it at one input. -/
def cacheHoldsWrong : ChangeSpec := { name := "cacheHolds", fn := fun _ => fun
  | [d1, d2] => { results := [.lit (.bool false)], args := [d1, d2] }
  | _ => none }
def CacheHoldsWrongFalsely : Prop := cacheHoldsRow.holds Try.pinned (OpenSpec.ofChange cacheHoldsWrong)

/- THE SECOND FORM. 'bulk': how many values and letters a reading holds, each counted each time it is reached (what is shared counts as often as it is met; a slice's spare places count too). A statement '..UptoSaid' is the law's where the arguments, and the package variables that the reading takes, are together of bulk at most 1048576: NARROWER than '..Said'. Prove '..Said' where nothing that the law and all that it calls make is longer than what came in: it says more and counts as full. Else prove '..UptoSaid'. A law counts once. -/
mutual
def uptoBulk {H : Type} : DataW H → Nat
  | .lit (.string bytes) => bytes.length + 1
  | .lit _ => 1
  | .nil => 1
  | .ptr d => uptoBulk d + 1
  | .slice elems spare => uptoBulkAll elems + uptoBulkAll spare + 1
  | .agg parts => uptoBulkAll parts + 1
  | .iface _ d => uptoBulk d + 1
  | .map entries => uptoBulkEntries entries + 1
  | .held _ => 1
def uptoBulkAll {H : Type} : List (DataW H) → Nat
  | [] => 0
  | d :: r => uptoBulk d + uptoBulkAll r
def uptoBulkEntries {H : Type} : List (Lit × DataW H) → Nat
  | [] => 0
  | x :: r => uptoBulkEntry x + uptoBulkEntries r
def uptoBulkEntry {H : Type} : Lit × DataW H → Nat
  | (.string bytes, d) => bytes.length + uptoBulk d + 1
  | (_, d) => uptoBulk d + 1
 end
def uptoSmall : (H : Type) → List (DataW H) → Bool := fun _ ds => decide (uptoBulkAll ds ≤ 1048576)
def OpenSpec.upto (s : _root_.Go.ChangeSpec) : _root_.Go.OpenSpec := { _root_.Go.OpenSpec.ofChange s with cond := some uptoSmall }

/-- 'strongroomlaw21.CacheFits', WHERE WHAT IT READS IS OF BULK AT MOST 1048576: true; the input reads as it did. -/
def cacheFitsUptoRow : OpenClaim := { program := "ytdblpcfkiiliiaa", sum := "758e20e15f93bdd9a531c8eae83817da1c9ef946de5d1cfa1a11d00de86f0067", func := "strongroom/strongroomlaw21.CacheFits", spec := "cacheFits", unfollowed := true, recurses := true, apart := false, narrowed := true }
def CacheFitsUptoSaid : Prop := cacheFitsUptoRow.holds Try.pinned (OpenSpec.upto cacheFitsSpec)

/-- 'strongroomlaw21.CachePlays', WHERE WHAT IT READS IS OF BULK AT MOST 1048576: true; the input reads as it did. -/
def cachePlaysUptoRow : OpenClaim := { program := "ytdblpcfkiiliiaa", sum := "758e20e15f93bdd9a531c8eae83817da1c9ef946de5d1cfa1a11d00de86f0067", func := "strongroom/strongroomlaw21.CachePlays", spec := "cachePlays", unfollowed := true, recurses := true, apart := false, narrowed := true }
def CachePlaysUptoSaid : Prop := cachePlaysUptoRow.holds Try.pinned (OpenSpec.upto cachePlaysSpec)

/-- 'strongroomlaw21.CacheAlone', WHERE WHAT IT READS IS OF BULK AT MOST 1048576: true; the input reads as it did. -/
def cacheAloneUptoRow : OpenClaim := { program := "ytdblpcfkiiliiaa", sum := "758e20e15f93bdd9a531c8eae83817da1c9ef946de5d1cfa1a11d00de86f0067", func := "strongroom/strongroomlaw21.CacheAlone", spec := "cacheAlone", unfollowed := true, recurses := true, apart := false, narrowed := true }
def CacheAloneUptoSaid : Prop := cacheAloneUptoRow.holds Try.pinned (OpenSpec.upto cacheAloneSpec)

/-- 'strongroomlaw21.CacheBounds', WHERE WHAT IT READS IS OF BULK AT MOST 1048576: true; the input reads as it did. -/
def cacheBoundsUptoRow : OpenClaim := { program := "ytdblpcfkiiliiaa", sum := "758e20e15f93bdd9a531c8eae83817da1c9ef946de5d1cfa1a11d00de86f0067", func := "strongroom/strongroomlaw21.CacheBounds", spec := "cacheBounds", unfollowed := true, recurses := true, apart := false, narrowed := true }
def CacheBoundsUptoSaid : Prop := cacheBoundsUptoRow.holds Try.pinned (OpenSpec.upto cacheBoundsSpec)

/-- 'strongroomlaw21.CacheHolds', WHERE WHAT IT READS IS OF BULK AT MOST 1048576: true; the input reads as it did. -/
def cacheHoldsUptoRow : OpenClaim := { program := "ytdblpcfkiiliiaa", sum := "758e20e15f93bdd9a531c8eae83817da1c9ef946de5d1cfa1a11d00de86f0067", func := "strongroom/strongroomlaw21.CacheHolds", spec := "cacheHolds", unfollowed := true, recurses := true, apart := false, narrowed := true }
def CacheHoldsUptoSaid : Prop := cacheHoldsUptoRow.holds Try.pinned (OpenSpec.upto cacheHoldsSpec)

end Rows
end Go.Proofs.Ytdblpcfkiiliiaa
