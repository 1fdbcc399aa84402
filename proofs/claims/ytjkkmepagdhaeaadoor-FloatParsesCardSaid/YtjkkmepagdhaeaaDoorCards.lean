/-
  DERIVED. GIVEN WITH THE SEED: THE CARDS: each row of YtjkkmepagdhaeaaDoorRows.lean that lists a variable, with what it lists TIED to the program's text (the seventh form; the later family's looks); each row that meets fmt, with fmt's text TOLD by the authors' own Lean function (tested against real Go, not proved from fmt's source: count such statements apart). THE CARD IS WHAT COUNTS. Prove the row's statement (the work); the ties are given (YtjkkmepagdhaeaaDoorTie.lean); close each card by the builder's one call (the guide's Derived/Test/ToyasCard.lean, 'card_holds'). Laid BY PROGRAM, IN A SANDBOX (cutbox-door.mjs). By AI agents, Wed Nov 11 2026. No macro, syntax, notation, axiom, sorry.
-/
import Derived.Test.YtjkkmepagdhaeaaDoorRows
import GoSem.ClaimSeven
namespace Go.Proofs.YtjkkmepagdhaeaaDoor
namespace Rows

/-- THE TIED CARD OF 'strongroomlaw02.FloatCompares'. -/
def floatComparesCard : Claim7 := { stood := { row := floatComparesRow, standIns := [], harness := (true, "4b69425d554a72cb864881f017743c804c0dc2b84b0df696b5a2f2e1c55c1bb0"), looks := true }, kinds := [], alts := [], laidByText := true, laidKinds := [.data, .data, .data, .sentinel, .sentinel], laidTests := true, laidLooks := .later }
def FloatComparesCardSaid : Prop := Claim7.holds Tryd.pinned (.plain (OpenSpec.ofChange floatComparesSpec)) floatComparesCard

/-- THE TIED CARD OF 'strongroomlaw02.FloatInts'. -/
def floatIntsCard : Claim7 := { stood := { row := floatIntsRow, standIns := [], harness := (true, "4b69425d554a72cb864881f017743c804c0dc2b84b0df696b5a2f2e1c55c1bb0"), looks := true }, kinds := [], alts := [], laidByText := true, laidKinds := [.data, .data, .data, .sentinel, .sentinel], laidTests := true, laidLooks := .later }
def FloatIntsCardSaid : Prop := Claim7.holds Tryd.pinned (.plain (OpenSpec.ofChange floatIntsSpec)) floatIntsCard

/-- THE TIED CARD OF 'strongroomlaw02.FloatPrints'. -/
def floatPrintsCard : Claim7 := { stood := { row := floatPrintsRow, standIns := [], harness := (true, "4b69425d554a72cb864881f017743c804c0dc2b84b0df696b5a2f2e1c55c1bb0"), looks := true }, kinds := [], alts := [], laidByText := true, laidKinds := [.data, .data, .data, .sentinel, .sentinel], laidTests := true, laidLooks := .later }
def FloatPrintsCardSaid : Prop := Claim7.holds Tryd.pinned (.plain (OpenSpec.ofChange floatPrintsSpec)) floatPrintsCard

/-- THE TIED CARD OF 'strongroomlaw02.FloatParses'. -/
def floatParsesCard : Claim7 := { stood := { row := floatParsesRow, standIns := [], harness := (true, "4b69425d554a72cb864881f017743c804c0dc2b84b0df696b5a2f2e1c55c1bb0"), looks := true }, kinds := [], alts := [], laidByText := true, laidKinds := [.data, .data, .data, .sentinel, .sentinel], laidTests := true, laidLooks := .later }
def FloatParsesCardSaid : Prop := Claim7.holds Tryd.pinned (.plain (OpenSpec.ofChange floatParsesSpec)) floatParsesCard

/-- THE TIED CARD OF 'strongroomlaw02.FloatTexts'. -/
def floatTextsCard : Claim7 := { stood := { row := floatTextsRow, standIns := [], harness := (true, "4b69425d554a72cb864881f017743c804c0dc2b84b0df696b5a2f2e1c55c1bb0"), looks := true }, kinds := [], alts := [], laidByText := true, laidKinds := [.data, .data, .data, .sentinel, .sentinel], laidTests := true, laidLooks := .later }
def FloatTextsCardSaid : Prop := Claim7.holds Tryd.pinned (.plain (OpenSpec.ofChange floatTextsSpec)) floatTextsCard

/-- THE TIED CARD OF 'strongroomlaw02.FloatOrders'. -/
def floatOrdersCard : Claim7 := { stood := { row := floatOrdersRow, standIns := [], harness := (true, "4b69425d554a72cb864881f017743c804c0dc2b84b0df696b5a2f2e1c55c1bb0"), looks := true }, kinds := [], alts := [], laidByText := true, laidKinds := [.data, .data, .data, .sentinel, .sentinel], laidTests := true, laidLooks := .later }
def FloatOrdersCardSaid : Prop := Claim7.holds Tryd.pinned (.plain (OpenSpec.ofChange floatOrdersSpec)) floatOrdersCard

/-- THE TIED CARD OF 'strongroomlaw02.FloatTurns'. -/
def floatTurnsCard : Claim7 := { stood := { row := floatTurnsRow, standIns := [], harness := (true, "4b69425d554a72cb864881f017743c804c0dc2b84b0df696b5a2f2e1c55c1bb0"), looks := true }, kinds := [], alts := [], laidByText := true, laidKinds := [.data, .data, .data, .sentinel, .sentinel], laidTests := true, laidLooks := .later }
def FloatTurnsCardSaid : Prop := Claim7.holds Tryd.pinned (.plain (OpenSpec.ofChange floatTurnsSpec)) floatTurnsCard

/-- THE TIED CARD OF 'strongroomlaw02.FloatWhole'. -/
def floatWholeCard : Claim7 := { stood := { row := floatWholeRow, standIns := [], harness := (true, "4b69425d554a72cb864881f017743c804c0dc2b84b0df696b5a2f2e1c55c1bb0"), looks := true }, kinds := [], alts := [], laidByText := true, laidKinds := [.data, .data, .data, .sentinel, .sentinel], laidTests := true, laidLooks := .later }
def FloatWholeCardSaid : Prop := Claim7.holds Tryd.pinned (.plain (OpenSpec.ofChange floatWholeSpec)) floatWholeCard

/-- THE SECOND FORM's CARD OF 'strongroomlaw02.FloatCompares'. -/
def floatComparesUptoCard : Claim7 := { stood := { row := floatComparesUptoRow, standIns := [], harness := (true, "4b69425d554a72cb864881f017743c804c0dc2b84b0df696b5a2f2e1c55c1bb0"), looks := true }, kinds := [], alts := [], laidByText := true, laidKinds := [.data, .data, .data, .sentinel, .sentinel], laidTests := true, laidLooks := .later }
def FloatComparesUptoCardSaid : Prop := Claim7.holds Tryd.pinned (.plain (OpenSpec.upto floatComparesSpec)) floatComparesUptoCard

/-- THE SECOND FORM's CARD OF 'strongroomlaw02.FloatInts'. -/
def floatIntsUptoCard : Claim7 := { stood := { row := floatIntsUptoRow, standIns := [], harness := (true, "4b69425d554a72cb864881f017743c804c0dc2b84b0df696b5a2f2e1c55c1bb0"), looks := true }, kinds := [], alts := [], laidByText := true, laidKinds := [.data, .data, .data, .sentinel, .sentinel], laidTests := true, laidLooks := .later }
def FloatIntsUptoCardSaid : Prop := Claim7.holds Tryd.pinned (.plain (OpenSpec.upto floatIntsSpec)) floatIntsUptoCard

/-- THE SECOND FORM's CARD OF 'strongroomlaw02.FloatPrints'. -/
def floatPrintsUptoCard : Claim7 := { stood := { row := floatPrintsUptoRow, standIns := [], harness := (true, "4b69425d554a72cb864881f017743c804c0dc2b84b0df696b5a2f2e1c55c1bb0"), looks := true }, kinds := [], alts := [], laidByText := true, laidKinds := [.data, .data, .data, .sentinel, .sentinel], laidTests := true, laidLooks := .later }
def FloatPrintsUptoCardSaid : Prop := Claim7.holds Tryd.pinned (.plain (OpenSpec.upto floatPrintsSpec)) floatPrintsUptoCard

/-- THE SECOND FORM's CARD OF 'strongroomlaw02.FloatParses'. -/
def floatParsesUptoCard : Claim7 := { stood := { row := floatParsesUptoRow, standIns := [], harness := (true, "4b69425d554a72cb864881f017743c804c0dc2b84b0df696b5a2f2e1c55c1bb0"), looks := true }, kinds := [], alts := [], laidByText := true, laidKinds := [.data, .data, .data, .sentinel, .sentinel], laidTests := true, laidLooks := .later }
def FloatParsesUptoCardSaid : Prop := Claim7.holds Tryd.pinned (.plain (OpenSpec.upto floatParsesSpec)) floatParsesUptoCard

/-- THE SECOND FORM's CARD OF 'strongroomlaw02.FloatTexts'. -/
def floatTextsUptoCard : Claim7 := { stood := { row := floatTextsUptoRow, standIns := [], harness := (true, "4b69425d554a72cb864881f017743c804c0dc2b84b0df696b5a2f2e1c55c1bb0"), looks := true }, kinds := [], alts := [], laidByText := true, laidKinds := [.data, .data, .data, .sentinel, .sentinel], laidTests := true, laidLooks := .later }
def FloatTextsUptoCardSaid : Prop := Claim7.holds Tryd.pinned (.plain (OpenSpec.upto floatTextsSpec)) floatTextsUptoCard

/-- THE SECOND FORM's CARD OF 'strongroomlaw02.FloatOrders'. -/
def floatOrdersUptoCard : Claim7 := { stood := { row := floatOrdersUptoRow, standIns := [], harness := (true, "4b69425d554a72cb864881f017743c804c0dc2b84b0df696b5a2f2e1c55c1bb0"), looks := true }, kinds := [], alts := [], laidByText := true, laidKinds := [.data, .data, .data, .sentinel, .sentinel], laidTests := true, laidLooks := .later }
def FloatOrdersUptoCardSaid : Prop := Claim7.holds Tryd.pinned (.plain (OpenSpec.upto floatOrdersSpec)) floatOrdersUptoCard

/-- THE SECOND FORM's CARD OF 'strongroomlaw02.FloatTurns'. -/
def floatTurnsUptoCard : Claim7 := { stood := { row := floatTurnsUptoRow, standIns := [], harness := (true, "4b69425d554a72cb864881f017743c804c0dc2b84b0df696b5a2f2e1c55c1bb0"), looks := true }, kinds := [], alts := [], laidByText := true, laidKinds := [.data, .data, .data, .sentinel, .sentinel], laidTests := true, laidLooks := .later }
def FloatTurnsUptoCardSaid : Prop := Claim7.holds Tryd.pinned (.plain (OpenSpec.upto floatTurnsSpec)) floatTurnsUptoCard

/-- THE SECOND FORM's CARD OF 'strongroomlaw02.FloatWhole'. -/
def floatWholeUptoCard : Claim7 := { stood := { row := floatWholeUptoRow, standIns := [], harness := (true, "4b69425d554a72cb864881f017743c804c0dc2b84b0df696b5a2f2e1c55c1bb0"), looks := true }, kinds := [], alts := [], laidByText := true, laidKinds := [.data, .data, .data, .sentinel, .sentinel], laidTests := true, laidLooks := .later }
def FloatWholeUptoCardSaid : Prop := Claim7.holds Tryd.pinned (.plain (OpenSpec.upto floatWholeSpec)) floatWholeUptoCard
end Rows
end Go.Proofs.YtjkkmepagdhaeaaDoor
