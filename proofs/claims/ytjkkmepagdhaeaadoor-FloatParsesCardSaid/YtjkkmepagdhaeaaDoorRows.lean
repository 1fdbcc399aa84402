/-
  NARROWER THAN 'FOR EVERY INPUT', by the rows' own cells (each row's printed sentence says how): FloatCompares: laid · FloatInts: laid · FloatPrints: laid · FloatParses: laid · FloatTexts: laid · FloatOrders: laid · FloatTurns: laid · FloatWhole: laid.
  DERIVED. THE GIVEN ROWS OF THIS SEAT. 8 by the template 'for every input the law returns true; each argument reads behind the call as it read before'; 0 by the template 'total and deterministic' (their statements: YtjkkmepagdhaeaaDoorTotals.lean).
  GIVEN WITH THE SEED: the statements are not yours to turn. If you find one false, say at which input.
  Laid BY PROGRAM, IN A SANDBOX (cutbox-rows.mjs): the forced cells as the released guide's own fill.sh prints them over the translation eac215ed9f4a3e50… (all of the seat's roots in one cut). By AI agents, Wed Nov 11 2026. No macro, syntax, notation, axiom, sorry.
-/
import Derived.Test.YtjkkmepagdhaeaaDoorChecked
import GoSem.Claim
import GoSem.ClaimJoined
import GoSem.ClaimMapViews
import Derived.JoinedTies
import Derived.KernelRfl
namespace Go.Proofs.YtjkkmepagdhaeaaDoor
/- THE CELL 'sum', in the pinned program and in every row, IS THE sha256 OF THE DUMP (.gsa) THAT YtjkkmepagdhaeaaDoorProg.lean LOADS. Nothing in Lean hashes anything: it is a label: what it is worth is what the hold of that sum in a sandbox is worth. -/
noncomputable def Tryd.pinned : Pinned := { name := "ytjkkmepagdhaeaadoor", sum := "eac215ed9f4a3e50ed9225858f07782acc65db71ab061555f65a28d12d6944d8", checked := Tryd.checked }
namespace Rows
def none {H : Type} : Left H := { results := [], args := [] }

/- WHAT THE LISTED PACKAGE-LEVEL VARIABLES READ AS WHEN THE CALL BEGINS. Each datum BY PROGRAM (the guide's laid-datum.mjs) off the statement by which the dump's own 'gosem.cut.vars' lays the variable. In a bare row this is a premise. The card (YtjkkmepagdhaeaaDoorCards.lean) ties it to the program's text. -/
def laid_math_bits_deBruijn32tab {H : Type} : DataW H := .agg [.lit (.int .u8 0), .lit (.int .u8 1), .lit (.int .u8 28), .lit (.int .u8 2), .lit (.int .u8 29), .lit (.int .u8 14), .lit (.int .u8 24), .lit (.int .u8 3), .lit (.int .u8 30), .lit (.int .u8 22), .lit (.int .u8 20), .lit (.int .u8 15), .lit (.int .u8 25), .lit (.int .u8 17), .lit (.int .u8 4), .lit (.int .u8 8), .lit (.int .u8 31), .lit (.int .u8 27), .lit (.int .u8 13), .lit (.int .u8 23), .lit (.int .u8 21), .lit (.int .u8 19), .lit (.int .u8 16), .lit (.int .u8 7), .lit (.int .u8 26), .lit (.int .u8 12), .lit (.int .u8 18), .lit (.int .u8 6), .lit (.int .u8 11), .lit (.int .u8 5), .lit (.int .u8 10), .lit (.int .u8 9)]
def laid_math_bits_deBruijn64tab {H : Type} : DataW H := .agg [.lit (.int .u8 0), .lit (.int .u8 1), .lit (.int .u8 56), .lit (.int .u8 2), .lit (.int .u8 57), .lit (.int .u8 49), .lit (.int .u8 28), .lit (.int .u8 3), .lit (.int .u8 61), .lit (.int .u8 58), .lit (.int .u8 42), .lit (.int .u8 50), .lit (.int .u8 38), .lit (.int .u8 29), .lit (.int .u8 17), .lit (.int .u8 4), .lit (.int .u8 62), .lit (.int .u8 47), .lit (.int .u8 59), .lit (.int .u8 36), .lit (.int .u8 45), .lit (.int .u8 43), .lit (.int .u8 51), .lit (.int .u8 22), .lit (.int .u8 53), .lit (.int .u8 39), .lit (.int .u8 33), .lit (.int .u8 30), .lit (.int .u8 24), .lit (.int .u8 18), .lit (.int .u8 12), .lit (.int .u8 5), .lit (.int .u8 63), .lit (.int .u8 55), .lit (.int .u8 48), .lit (.int .u8 27), .lit (.int .u8 60), .lit (.int .u8 41), .lit (.int .u8 37), .lit (.int .u8 16), .lit (.int .u8 46), .lit (.int .u8 35), .lit (.int .u8 44), .lit (.int .u8 21), .lit (.int .u8 52), .lit (.int .u8 32), .lit (.int .u8 23), .lit (.int .u8 11), .lit (.int .u8 54), .lit (.int .u8 26), .lit (.int .u8 40), .lit (.int .u8 15), .lit (.int .u8 34), .lit (.int .u8 20), .lit (.int .u8 31), .lit (.int .u8 10), .lit (.int .u8 25), .lit (.int .u8 14), .lit (.int .u8 19), .lit (.int .u8 9), .lit (.int .u8 13), .lit (.int .u8 8), .lit (.int .u8 7), .lit (.int .u8 6)]
def laid_internal_strconv_uint64pow10 {H : Type} : DataW H := .agg [.lit (.int .u64 1), .lit (.int .u64 10), .lit (.int .u64 100), .lit (.int .u64 1000), .lit (.int .u64 10000), .lit (.int .u64 100000), .lit (.int .u64 1000000), .lit (.int .u64 10000000), .lit (.int .u64 100000000), .lit (.int .u64 1000000000), .lit (.int .u64 10000000000), .lit (.int .u64 100000000000), .lit (.int .u64 1000000000000), .lit (.int .u64 10000000000000), .lit (.int .u64 100000000000000), .lit (.int .u64 1000000000000000), .lit (.int .u64 10000000000000000), .lit (.int .u64 100000000000000000), .lit (.int .u64 1000000000000000000), .lit (.int .u64 10000000000000000000)]
def laid_strconv_ErrRange {H : Type} : DataW H := .iface "*errors.errorString" (.ptr (.agg [.lit (.string [118, 97, 108, 117, 101, 32, 111, 117, 116, 32, 111, 102, 32, 114, 97, 110, 103, 101])]))
def laid_strconv_ErrSyntax {H : Type} : DataW H := .iface "*errors.errorString" (.ptr (.agg [.lit (.string [105, 110, 118, 97, 108, 105, 100, 32, 115, 121, 110, 116, 97, 120])]))

/-- 'strongroomlaw02.FloatCompares': WHATEVER THE INPUT: true; the input reads as it did. -/
def floatComparesSpec : ChangeSpec := { name := "floatCompares", fn := fun _ => fun
  | [d1, d2] => { results := [.lit (.bool true)], args := [d1, d2] }
  | _ => none }
def floatComparesRow : OpenClaim := { program := "ytjkkmepagdhaeaadoor", sum := "eac215ed9f4a3e50ed9225858f07782acc65db71ab061555f65a28d12d6944d8", func := "strongroom/strongroomlaw02.FloatCompares", spec := "floatCompares", inPlace := ["math.Float64frombits", "math.archTrunc", "math.Float64bits", "internal/abi.NoEscape", "internal/bytealg.MakeNoZero"], named := ["strconv.ErrSyntax", "strconv.ErrRange", "internal/strconv.uint64pow10", "math/bits.deBruijn32tab", "math/bits.deBruijn64tab"], apart := false, laid := [("math/bits.deBruijn32tab", laid_math_bits_deBruijn32tab), ("math/bits.deBruijn64tab", laid_math_bits_deBruijn64tab), ("internal/strconv.uint64pow10", laid_internal_strconv_uint64pow10), ("strconv.ErrRange", laid_strconv_ErrRange), ("strconv.ErrSyntax", laid_strconv_ErrSyntax)] }
def FloatComparesSaid : Prop := floatComparesRow.holds Tryd.pinned (OpenSpec.ofChange floatComparesSpec)

/-- ITS FALSE NEIGHBOUR: 'it returns false'. Refute it at one input. -/
def floatComparesWrong : ChangeSpec := { name := "floatCompares", fn := fun _ => fun
  | [d1, d2] => { results := [.lit (.bool false)], args := [d1, d2] }
  | _ => none }
def FloatComparesWrongFalsely : Prop := floatComparesRow.holds Tryd.pinned (OpenSpec.ofChange floatComparesWrong)

/-- 'strongroomlaw02.FloatInts': WHATEVER THE INPUT: true; the input reads as it did. -/
def floatIntsSpec : ChangeSpec := { name := "floatInts", fn := fun _ => fun
  | [d1, d2] => { results := [.lit (.bool true)], args := [d1, d2] }
  | _ => none }
def floatIntsRow : OpenClaim := { program := "ytjkkmepagdhaeaadoor", sum := "eac215ed9f4a3e50ed9225858f07782acc65db71ab061555f65a28d12d6944d8", func := "strongroom/strongroomlaw02.FloatInts", spec := "floatInts", inPlace := ["math.Float64frombits", "math.archTrunc", "math.Float64bits", "internal/abi.NoEscape", "internal/bytealg.MakeNoZero"], named := ["strconv.ErrSyntax", "strconv.ErrRange", "internal/strconv.uint64pow10", "math/bits.deBruijn32tab", "math/bits.deBruijn64tab"], apart := false, laid := [("math/bits.deBruijn32tab", laid_math_bits_deBruijn32tab), ("math/bits.deBruijn64tab", laid_math_bits_deBruijn64tab), ("internal/strconv.uint64pow10", laid_internal_strconv_uint64pow10), ("strconv.ErrRange", laid_strconv_ErrRange), ("strconv.ErrSyntax", laid_strconv_ErrSyntax)] }
def FloatIntsSaid : Prop := floatIntsRow.holds Tryd.pinned (OpenSpec.ofChange floatIntsSpec)

/-- ITS FALSE NEIGHBOUR: 'it returns false'. Refute it at one input. -/
def floatIntsWrong : ChangeSpec := { name := "floatInts", fn := fun _ => fun
  | [d1, d2] => { results := [.lit (.bool false)], args := [d1, d2] }
  | _ => none }
def FloatIntsWrongFalsely : Prop := floatIntsRow.holds Tryd.pinned (OpenSpec.ofChange floatIntsWrong)

/-- 'strongroomlaw02.FloatPrints': WHATEVER THE INPUT: true; the input reads as it did. -/
def floatPrintsSpec : ChangeSpec := { name := "floatPrints", fn := fun _ => fun
  | [d] => { results := [.lit (.bool true)], args := [d] }
  | _ => none }
def floatPrintsRow : OpenClaim := { program := "ytjkkmepagdhaeaadoor", sum := "eac215ed9f4a3e50ed9225858f07782acc65db71ab061555f65a28d12d6944d8", func := "strongroom/strongroomlaw02.FloatPrints", spec := "floatPrints", inPlace := ["math.Float64frombits", "math.archTrunc", "math.Float64bits", "internal/abi.NoEscape", "internal/bytealg.MakeNoZero"], recurses := true, named := ["strconv.ErrSyntax", "strconv.ErrRange", "internal/strconv.uint64pow10", "math/bits.deBruijn32tab", "math/bits.deBruijn64tab"], apart := false, laid := [("math/bits.deBruijn32tab", laid_math_bits_deBruijn32tab), ("math/bits.deBruijn64tab", laid_math_bits_deBruijn64tab), ("internal/strconv.uint64pow10", laid_internal_strconv_uint64pow10), ("strconv.ErrRange", laid_strconv_ErrRange), ("strconv.ErrSyntax", laid_strconv_ErrSyntax)] }
def FloatPrintsSaid : Prop := floatPrintsRow.holds Tryd.pinned (OpenSpec.ofChange floatPrintsSpec)

/-- ITS FALSE NEIGHBOUR: 'it returns false'. Refute it at one input. -/
def floatPrintsWrong : ChangeSpec := { name := "floatPrints", fn := fun _ => fun
  | [d] => { results := [.lit (.bool false)], args := [d] }
  | _ => none }
def FloatPrintsWrongFalsely : Prop := floatPrintsRow.holds Tryd.pinned (OpenSpec.ofChange floatPrintsWrong)

/-- 'strongroomlaw02.FloatParses': WHATEVER THE INPUT: true; the input reads as it did. -/
def floatParsesSpec : ChangeSpec := { name := "floatParses", fn := fun _ => fun
  | [d] => { results := [.lit (.bool true)], args := [d] }
  | _ => none }
def floatParsesRow : OpenClaim := { program := "ytjkkmepagdhaeaadoor", sum := "eac215ed9f4a3e50ed9225858f07782acc65db71ab061555f65a28d12d6944d8", func := "strongroom/strongroomlaw02.FloatParses", spec := "floatParses", inPlace := ["math.Float64frombits", "math.archTrunc", "math.Float64bits", "internal/abi.NoEscape", "internal/bytealg.MakeNoZero"], recurses := true, named := ["strconv.ErrSyntax", "strconv.ErrRange", "internal/strconv.uint64pow10", "math/bits.deBruijn32tab", "math/bits.deBruijn64tab"], apart := false, laid := [("math/bits.deBruijn32tab", laid_math_bits_deBruijn32tab), ("math/bits.deBruijn64tab", laid_math_bits_deBruijn64tab), ("internal/strconv.uint64pow10", laid_internal_strconv_uint64pow10), ("strconv.ErrRange", laid_strconv_ErrRange), ("strconv.ErrSyntax", laid_strconv_ErrSyntax)] }
def FloatParsesSaid : Prop := floatParsesRow.holds Tryd.pinned (OpenSpec.ofChange floatParsesSpec)

/-- ITS FALSE NEIGHBOUR: 'it returns false'. Refute it at one input. -/
def floatParsesWrong : ChangeSpec := { name := "floatParses", fn := fun _ => fun
  | [d] => { results := [.lit (.bool false)], args := [d] }
  | _ => none }
def FloatParsesWrongFalsely : Prop := floatParsesRow.holds Tryd.pinned (OpenSpec.ofChange floatParsesWrong)

/-- 'strongroomlaw02.FloatTexts': WHATEVER THE INPUT: true; the input reads as it did. -/
def floatTextsSpec : ChangeSpec := { name := "floatTexts", fn := fun _ => fun
  | [d1, d2, d3] => { results := [.lit (.bool true)], args := [d1, d2, d3] }
  | _ => none }
def floatTextsRow : OpenClaim := { program := "ytjkkmepagdhaeaadoor", sum := "eac215ed9f4a3e50ed9225858f07782acc65db71ab061555f65a28d12d6944d8", func := "strongroom/strongroomlaw02.FloatTexts", spec := "floatTexts", inPlace := ["math.Float64frombits", "math.archTrunc", "math.Float64bits", "internal/abi.NoEscape", "internal/bytealg.MakeNoZero"], named := ["strconv.ErrSyntax", "strconv.ErrRange", "internal/strconv.uint64pow10", "math/bits.deBruijn32tab", "math/bits.deBruijn64tab"], apart := false, laid := [("math/bits.deBruijn32tab", laid_math_bits_deBruijn32tab), ("math/bits.deBruijn64tab", laid_math_bits_deBruijn64tab), ("internal/strconv.uint64pow10", laid_internal_strconv_uint64pow10), ("strconv.ErrRange", laid_strconv_ErrRange), ("strconv.ErrSyntax", laid_strconv_ErrSyntax)] }
def FloatTextsSaid : Prop := floatTextsRow.holds Tryd.pinned (OpenSpec.ofChange floatTextsSpec)

/-- ITS FALSE NEIGHBOUR: 'it returns false'. Refute it at one input. -/
def floatTextsWrong : ChangeSpec := { name := "floatTexts", fn := fun _ => fun
  | [d1, d2, d3] => { results := [.lit (.bool false)], args := [d1, d2, d3] }
  | _ => none }
def FloatTextsWrongFalsely : Prop := floatTextsRow.holds Tryd.pinned (OpenSpec.ofChange floatTextsWrong)

/-- 'strongroomlaw02.FloatOrders': WHATEVER THE INPUT: true; the input reads as it did. -/
def floatOrdersSpec : ChangeSpec := { name := "floatOrders", fn := fun _ => fun
  | [d1, d2, d3] => { results := [.lit (.bool true)], args := [d1, d2, d3] }
  | _ => none }
def floatOrdersRow : OpenClaim := { program := "ytjkkmepagdhaeaadoor", sum := "eac215ed9f4a3e50ed9225858f07782acc65db71ab061555f65a28d12d6944d8", func := "strongroom/strongroomlaw02.FloatOrders", spec := "floatOrders", inPlace := ["math.Float64frombits", "math.archTrunc", "math.Float64bits", "internal/abi.NoEscape", "internal/bytealg.MakeNoZero"], named := ["strconv.ErrSyntax", "strconv.ErrRange", "internal/strconv.uint64pow10", "math/bits.deBruijn32tab", "math/bits.deBruijn64tab"], apart := false, laid := [("math/bits.deBruijn32tab", laid_math_bits_deBruijn32tab), ("math/bits.deBruijn64tab", laid_math_bits_deBruijn64tab), ("internal/strconv.uint64pow10", laid_internal_strconv_uint64pow10), ("strconv.ErrRange", laid_strconv_ErrRange), ("strconv.ErrSyntax", laid_strconv_ErrSyntax)] }
def FloatOrdersSaid : Prop := floatOrdersRow.holds Tryd.pinned (OpenSpec.ofChange floatOrdersSpec)

/-- ITS FALSE NEIGHBOUR: 'it returns false'. Refute it at one input. -/
def floatOrdersWrong : ChangeSpec := { name := "floatOrders", fn := fun _ => fun
  | [d1, d2, d3] => { results := [.lit (.bool false)], args := [d1, d2, d3] }
  | _ => none }
def FloatOrdersWrongFalsely : Prop := floatOrdersRow.holds Tryd.pinned (OpenSpec.ofChange floatOrdersWrong)

/-- 'strongroomlaw02.FloatTurns': WHATEVER THE INPUT: true; the input reads as it did. -/
def floatTurnsSpec : ChangeSpec := { name := "floatTurns", fn := fun _ => fun
  | [d1, d2] => { results := [.lit (.bool true)], args := [d1, d2] }
  | _ => none }
def floatTurnsRow : OpenClaim := { program := "ytjkkmepagdhaeaadoor", sum := "eac215ed9f4a3e50ed9225858f07782acc65db71ab061555f65a28d12d6944d8", func := "strongroom/strongroomlaw02.FloatTurns", spec := "floatTurns", inPlace := ["math.Float64frombits", "math.archTrunc", "math.Float64bits", "internal/abi.NoEscape", "internal/bytealg.MakeNoZero"], named := ["strconv.ErrSyntax", "strconv.ErrRange", "internal/strconv.uint64pow10", "math/bits.deBruijn32tab", "math/bits.deBruijn64tab"], apart := false, laid := [("math/bits.deBruijn32tab", laid_math_bits_deBruijn32tab), ("math/bits.deBruijn64tab", laid_math_bits_deBruijn64tab), ("internal/strconv.uint64pow10", laid_internal_strconv_uint64pow10), ("strconv.ErrRange", laid_strconv_ErrRange), ("strconv.ErrSyntax", laid_strconv_ErrSyntax)] }
def FloatTurnsSaid : Prop := floatTurnsRow.holds Tryd.pinned (OpenSpec.ofChange floatTurnsSpec)

/-- ITS FALSE NEIGHBOUR: 'it returns false'. Refute it at one input. -/
def floatTurnsWrong : ChangeSpec := { name := "floatTurns", fn := fun _ => fun
  | [d1, d2] => { results := [.lit (.bool false)], args := [d1, d2] }
  | _ => none }
def FloatTurnsWrongFalsely : Prop := floatTurnsRow.holds Tryd.pinned (OpenSpec.ofChange floatTurnsWrong)

/-- 'strongroomlaw02.FloatWhole': WHATEVER THE INPUT: true; the input reads as it did. -/
def floatWholeSpec : ChangeSpec := { name := "floatWhole", fn := fun _ => fun
  | [d1, d2] => { results := [.lit (.bool true)], args := [d1, d2] }
  | _ => none }
def floatWholeRow : OpenClaim := { program := "ytjkkmepagdhaeaadoor", sum := "eac215ed9f4a3e50ed9225858f07782acc65db71ab061555f65a28d12d6944d8", func := "strongroom/strongroomlaw02.FloatWhole", spec := "floatWhole", inPlace := ["math.Float64frombits", "math.archTrunc", "math.Float64bits", "internal/abi.NoEscape", "internal/bytealg.MakeNoZero"], named := ["strconv.ErrSyntax", "strconv.ErrRange", "internal/strconv.uint64pow10", "math/bits.deBruijn32tab", "math/bits.deBruijn64tab"], apart := false, laid := [("math/bits.deBruijn32tab", laid_math_bits_deBruijn32tab), ("math/bits.deBruijn64tab", laid_math_bits_deBruijn64tab), ("internal/strconv.uint64pow10", laid_internal_strconv_uint64pow10), ("strconv.ErrRange", laid_strconv_ErrRange), ("strconv.ErrSyntax", laid_strconv_ErrSyntax)] }
def FloatWholeSaid : Prop := floatWholeRow.holds Tryd.pinned (OpenSpec.ofChange floatWholeSpec)

/-- ITS FALSE NEIGHBOUR: 'it returns false'. Refute it at one input. -/
def floatWholeWrong : ChangeSpec := { name := "floatWhole", fn := fun _ => fun
  | [d1, d2] => { results := [.lit (.bool false)], args := [d1, d2] }
  | _ => none }
def FloatWholeWrongFalsely : Prop := floatWholeRow.holds Tryd.pinned (OpenSpec.ofChange floatWholeWrong)

/- THE SECOND FORM. 'bulk': how many values and letters a reading holds, each counted each time it is reached (what is shared counts as often as it is met; a slice's spare places count too). A statement '..UptoSaid' is the law's where the arguments, and the package variables that the reading takes, are together of bulk at most 1048576: NARROWER than '..Said'. Prove '..Said' where nothing that the law and all that it calls make is longer than what came in: it says more and counts as full. Else prove '..UptoSaid'. A law counts once. -/
mutual
def uptoBulk {H : Type} : DataW H → Nat
  | .lit (.string bytes) => bytes.length + 1
  | .lit _ => 1
  | .nil => 1
  | .ptr d => uptoBulk d + 1
  | .slice elems spare => uptoBulkAll elems + uptoBulkAll spare + 1
  | .agg parts => uptoBulkAll parts + 1
  | .iface _ d => uptoBulk d + 1
  | .map entries => uptoBulkEntries entries + 1
  | .held _ => 1
def uptoBulkAll {H : Type} : List (DataW H) → Nat
  | [] => 0
  | d :: r => uptoBulk d + uptoBulkAll r
def uptoBulkEntries {H : Type} : List (Lit × DataW H) → Nat
  | [] => 0
  | x :: r => uptoBulkEntry x + uptoBulkEntries r
def uptoBulkEntry {H : Type} : Lit × DataW H → Nat
  | (.string bytes, d) => bytes.length + uptoBulk d + 1
  | (_, d) => uptoBulk d + 1
 end
def uptoSmall : (H : Type) → List (DataW H) → Bool := fun _ ds => decide (uptoBulkAll ds ≤ 1048576)
def OpenSpec.upto (s : _root_.Go.ChangeSpec) : _root_.Go.OpenSpec := { _root_.Go.OpenSpec.ofChange s with cond := some uptoSmall }

/-- 'strongroomlaw02.FloatCompares', WHERE WHAT IT READS IS OF BULK AT MOST 1048576: true; the input reads as it did. -/
def floatComparesUptoRow : OpenClaim := { program := "ytjkkmepagdhaeaadoor", sum := "eac215ed9f4a3e50ed9225858f07782acc65db71ab061555f65a28d12d6944d8", func := "strongroom/strongroomlaw02.FloatCompares", spec := "floatCompares", inPlace := ["math.Float64frombits", "math.archTrunc", "math.Float64bits", "internal/abi.NoEscape", "internal/bytealg.MakeNoZero"], named := ["strconv.ErrSyntax", "strconv.ErrRange", "internal/strconv.uint64pow10", "math/bits.deBruijn32tab", "math/bits.deBruijn64tab"], apart := false, laid := [("math/bits.deBruijn32tab", laid_math_bits_deBruijn32tab), ("math/bits.deBruijn64tab", laid_math_bits_deBruijn64tab), ("internal/strconv.uint64pow10", laid_internal_strconv_uint64pow10), ("strconv.ErrRange", laid_strconv_ErrRange), ("strconv.ErrSyntax", laid_strconv_ErrSyntax)], narrowed := true }
def FloatComparesUptoSaid : Prop := floatComparesUptoRow.holds Tryd.pinned (OpenSpec.upto floatComparesSpec)

/-- 'strongroomlaw02.FloatInts', WHERE WHAT IT READS IS OF BULK AT MOST 1048576: true; the input reads as it did. -/
def floatIntsUptoRow : OpenClaim := { program := "ytjkkmepagdhaeaadoor", sum := "eac215ed9f4a3e50ed9225858f07782acc65db71ab061555f65a28d12d6944d8", func := "strongroom/strongroomlaw02.FloatInts", spec := "floatInts", inPlace := ["math.Float64frombits", "math.archTrunc", "math.Float64bits", "internal/abi.NoEscape", "internal/bytealg.MakeNoZero"], named := ["strconv.ErrSyntax", "strconv.ErrRange", "internal/strconv.uint64pow10", "math/bits.deBruijn32tab", "math/bits.deBruijn64tab"], apart := false, laid := [("math/bits.deBruijn32tab", laid_math_bits_deBruijn32tab), ("math/bits.deBruijn64tab", laid_math_bits_deBruijn64tab), ("internal/strconv.uint64pow10", laid_internal_strconv_uint64pow10), ("strconv.ErrRange", laid_strconv_ErrRange), ("strconv.ErrSyntax", laid_strconv_ErrSyntax)], narrowed := true }
def FloatIntsUptoSaid : Prop := floatIntsUptoRow.holds Tryd.pinned (OpenSpec.upto floatIntsSpec)

/-- 'strongroomlaw02.FloatPrints', WHERE WHAT IT READS IS OF BULK AT MOST 1048576: true; the input reads as it did. -/
def floatPrintsUptoRow : OpenClaim := { program := "ytjkkmepagdhaeaadoor", sum := "eac215ed9f4a3e50ed9225858f07782acc65db71ab061555f65a28d12d6944d8", func := "strongroom/strongroomlaw02.FloatPrints", spec := "floatPrints", inPlace := ["math.Float64frombits", "math.archTrunc", "math.Float64bits", "internal/abi.NoEscape", "internal/bytealg.MakeNoZero"], recurses := true, named := ["strconv.ErrSyntax", "strconv.ErrRange", "internal/strconv.uint64pow10", "math/bits.deBruijn32tab", "math/bits.deBruijn64tab"], apart := false, laid := [("math/bits.deBruijn32tab", laid_math_bits_deBruijn32tab), ("math/bits.deBruijn64tab", laid_math_bits_deBruijn64tab), ("internal/strconv.uint64pow10", laid_internal_strconv_uint64pow10), ("strconv.ErrRange", laid_strconv_ErrRange), ("strconv.ErrSyntax", laid_strconv_ErrSyntax)], narrowed := true }
def FloatPrintsUptoSaid : Prop := floatPrintsUptoRow.holds Tryd.pinned (OpenSpec.upto floatPrintsSpec)

/-- 'strongroomlaw02.FloatParses', WHERE WHAT IT READS IS OF BULK AT MOST 1048576: true; the input reads as it did. -/
def floatParsesUptoRow : OpenClaim := { program := "ytjkkmepagdhaeaadoor", sum := "eac215ed9f4a3e50ed9225858f07782acc65db71ab061555f65a28d12d6944d8", func := "strongroom/strongroomlaw02.FloatParses", spec := "floatParses", inPlace := ["math.Float64frombits", "math.archTrunc", "math.Float64bits", "internal/abi.NoEscape", "internal/bytealg.MakeNoZero"], recurses := true, named := ["strconv.ErrSyntax", "strconv.ErrRange", "internal/strconv.uint64pow10", "math/bits.deBruijn32tab", "math/bits.deBruijn64tab"], apart := false, laid := [("math/bits.deBruijn32tab", laid_math_bits_deBruijn32tab), ("math/bits.deBruijn64tab", laid_math_bits_deBruijn64tab), ("internal/strconv.uint64pow10", laid_internal_strconv_uint64pow10), ("strconv.ErrRange", laid_strconv_ErrRange), ("strconv.ErrSyntax", laid_strconv_ErrSyntax)], narrowed := true }
def FloatParsesUptoSaid : Prop := floatParsesUptoRow.holds Tryd.pinned (OpenSpec.upto floatParsesSpec)

/-- 'strongroomlaw02.FloatTexts', WHERE WHAT IT READS IS OF BULK AT MOST 1048576: true; the input reads as it did. -/
def floatTextsUptoRow : OpenClaim := { program := "ytjkkmepagdhaeaadoor", sum := "eac215ed9f4a3e50ed9225858f07782acc65db71ab061555f65a28d12d6944d8", func := "strongroom/strongroomlaw02.FloatTexts", spec := "floatTexts", inPlace := ["math.Float64frombits", "math.archTrunc", "math.Float64bits", "internal/abi.NoEscape", "internal/bytealg.MakeNoZero"], named := ["strconv.ErrSyntax", "strconv.ErrRange", "internal/strconv.uint64pow10", "math/bits.deBruijn32tab", "math/bits.deBruijn64tab"], apart := false, laid := [("math/bits.deBruijn32tab", laid_math_bits_deBruijn32tab), ("math/bits.deBruijn64tab", laid_math_bits_deBruijn64tab), ("internal/strconv.uint64pow10", laid_internal_strconv_uint64pow10), ("strconv.ErrRange", laid_strconv_ErrRange), ("strconv.ErrSyntax", laid_strconv_ErrSyntax)], narrowed := true }
def FloatTextsUptoSaid : Prop := floatTextsUptoRow.holds Tryd.pinned (OpenSpec.upto floatTextsSpec)

/-- 'strongroomlaw02.FloatOrders', WHERE WHAT IT READS IS OF BULK AT MOST 1048576: true; the input reads as it did. -/
def floatOrdersUptoRow : OpenClaim := { program := "ytjkkmepagdhaeaadoor", sum := "eac215ed9f4a3e50ed9225858f07782acc65db71ab061555f65a28d12d6944d8", func := "strongroom/strongroomlaw02.FloatOrders", spec := "floatOrders", inPlace := ["math.Float64frombits", "math.archTrunc", "math.Float64bits", "internal/abi.NoEscape", "internal/bytealg.MakeNoZero"], named := ["strconv.ErrSyntax", "strconv.ErrRange", "internal/strconv.uint64pow10", "math/bits.deBruijn32tab", "math/bits.deBruijn64tab"], apart := false, laid := [("math/bits.deBruijn32tab", laid_math_bits_deBruijn32tab), ("math/bits.deBruijn64tab", laid_math_bits_deBruijn64tab), ("internal/strconv.uint64pow10", laid_internal_strconv_uint64pow10), ("strconv.ErrRange", laid_strconv_ErrRange), ("strconv.ErrSyntax", laid_strconv_ErrSyntax)], narrowed := true }
def FloatOrdersUptoSaid : Prop := floatOrdersUptoRow.holds Tryd.pinned (OpenSpec.upto floatOrdersSpec)

/-- 'strongroomlaw02.FloatTurns', WHERE WHAT IT READS IS OF BULK AT MOST 1048576: true; the input reads as it did. -/
def floatTurnsUptoRow : OpenClaim := { program := "ytjkkmepagdhaeaadoor", sum := "eac215ed9f4a3e50ed9225858f07782acc65db71ab061555f65a28d12d6944d8", func := "strongroom/strongroomlaw02.FloatTurns", spec := "floatTurns", inPlace := ["math.Float64frombits", "math.archTrunc", "math.Float64bits", "internal/abi.NoEscape", "internal/bytealg.MakeNoZero"], named := ["strconv.ErrSyntax", "strconv.ErrRange", "internal/strconv.uint64pow10", "math/bits.deBruijn32tab", "math/bits.deBruijn64tab"], apart := false, laid := [("math/bits.deBruijn32tab", laid_math_bits_deBruijn32tab), ("math/bits.deBruijn64tab", laid_math_bits_deBruijn64tab), ("internal/strconv.uint64pow10", laid_internal_strconv_uint64pow10), ("strconv.ErrRange", laid_strconv_ErrRange), ("strconv.ErrSyntax", laid_strconv_ErrSyntax)], narrowed := true }
def FloatTurnsUptoSaid : Prop := floatTurnsUptoRow.holds Tryd.pinned (OpenSpec.upto floatTurnsSpec)

/-- 'strongroomlaw02.FloatWhole', WHERE WHAT IT READS IS OF BULK AT MOST 1048576: true; the input reads as it did. -/
def floatWholeUptoRow : OpenClaim := { program := "ytjkkmepagdhaeaadoor", sum := "eac215ed9f4a3e50ed9225858f07782acc65db71ab061555f65a28d12d6944d8", func := "strongroom/strongroomlaw02.FloatWhole", spec := "floatWhole", inPlace := ["math.Float64frombits", "math.archTrunc", "math.Float64bits", "internal/abi.NoEscape", "internal/bytealg.MakeNoZero"], named := ["strconv.ErrSyntax", "strconv.ErrRange", "internal/strconv.uint64pow10", "math/bits.deBruijn32tab", "math/bits.deBruijn64tab"], apart := false, laid := [("math/bits.deBruijn32tab", laid_math_bits_deBruijn32tab), ("math/bits.deBruijn64tab", laid_math_bits_deBruijn64tab), ("internal/strconv.uint64pow10", laid_internal_strconv_uint64pow10), ("strconv.ErrRange", laid_strconv_ErrRange), ("strconv.ErrSyntax", laid_strconv_ErrSyntax)], narrowed := true }
def FloatWholeUptoSaid : Prop := floatWholeUptoRow.holds Tryd.pinned (OpenSpec.upto floatWholeSpec)

end Rows
end Go.Proofs.YtjkkmepagdhaeaaDoor
