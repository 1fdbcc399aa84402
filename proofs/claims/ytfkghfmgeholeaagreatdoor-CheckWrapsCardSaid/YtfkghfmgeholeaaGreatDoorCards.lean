/-
  DERIVED. GIVEN WITH THE SEED: THE CARDS: each row of YtfkghfmgeholeaaGreatDoorRows.lean that lists a variable, with what it lists TIED to the program's text (the seventh form; the later family's looks); each row that meets fmt, with fmt's text TOLD by the authors' own Lean function (tested against real Go, not proved from fmt's source: count such statements apart). THE CARD IS WHAT COUNTS. Prove the row's statement (the work); the ties are given (YtfkghfmgeholeaaGreatDoorTie.lean); close each card by the builder's one call (the guide's Derived/Test/ToyasCard.lean, 'card_holds'). Laid BY PROGRAM, IN A SANDBOX (cutbox-door.mjs). By AI agents, Wed Nov 11 2026. No macro, syntax, notation, axiom, sorry.
-/
import Derived.Test.YtfkghfmgeholeaaGreatDoorRows
import GoSem.ClaimSeven
namespace Go.Proofs.YtfkghfmgeholeaaGreatDoor
namespace Rows

/-- THE TIED CARD OF 'strongroomlaw18.CheckTests'. -/
def checkTestsCard : Claim7 := { stood := { row := checkTestsRow, standIns := [], harness := (true, "458aa50acb5943e9d32f2d2a42ad3f1cc87e7805465a9b2a79d473037d359440"), looks := true }, kinds := [], alts := [], laidByText := true, laidKinds := [.data, .data, .data, .sentinel, .sentinel, .listed, .data], laidTests := true, laidLooks := .later }
def CheckTestsCardSaid : Prop := Claim7.holds Tryz.pinned (.plain (OpenSpec.ofChange checkTestsSpec)) checkTestsCard

/-- THE TIED CARD OF 'strongroomlaw18.CheckTexts'. -/
def checkTextsCard : Claim7 := { stood := { row := checkTextsRow, standIns := [], harness := (true, "458aa50acb5943e9d32f2d2a42ad3f1cc87e7805465a9b2a79d473037d359440"), looks := true }, kinds := [], alts := [], laidByText := true, laidKinds := [.data, .data, .data, .sentinel, .sentinel, .listed, .data], laidTests := true, laidLooks := .later }
def CheckTextsCardSaid : Prop := Claim7.holds Tryz.pinned (.plain (OpenSpec.ofChange checkTextsSpec)) checkTextsCard

/-- THE TIED CARD OF 'strongroomlaw18.CheckFields'. -/
def checkFieldsCard : Claim7 := { stood := { row := checkFieldsRow, standIns := [], harness := (true, "458aa50acb5943e9d32f2d2a42ad3f1cc87e7805465a9b2a79d473037d359440"), looks := true }, kinds := [], alts := [], laidByText := true, laidKinds := [.data, .data, .data, .sentinel, .sentinel, .listed, .data], laidTests := true, laidLooks := .later }
def CheckFieldsCardSaid : Prop := Claim7.holds Tryz.pinned (.plain (OpenSpec.ofChange checkFieldsSpec)) checkFieldsCard

/-- THE TIED CARD OF 'strongroomlaw18.CheckWraps'. -/
def checkWrapsCard : Claim7 := { stood := { row := checkWrapsRow, standIns := [], harness := (true, "458aa50acb5943e9d32f2d2a42ad3f1cc87e7805465a9b2a79d473037d359440"), looks := true }, kinds := [], alts := [], laidByText := true, laidKinds := [.data, .data, .data, .sentinel, .sentinel, .listed, .data], laidTests := true, laidLooks := .later }
def CheckWrapsCardSaid : Prop := Claim7.holds Tryz.pinned (.plain (OpenSpec.ofChange checkWrapsSpec)) checkWrapsCard

/-- THE TIED CARD OF 'strongroomlaw19.EvalSays'. -/
def evalSaysCard : Claim7 := { stood := { row := evalSaysRow, standIns := [], harness := (true, "458aa50acb5943e9d32f2d2a42ad3f1cc87e7805465a9b2a79d473037d359440"), looks := true }, kinds := [], alts := [], laidByText := true, laidKinds := [.data, .data, .data, .sentinel, .sentinel, .listed, .data], laidTests := true, laidLooks := .later }
def EvalSaysCardSaid : Prop := Claim7.holds Tryz.pinned (.plain (OpenSpec.ofChange evalSaysSpec)) evalSaysCard

/-- THE TIED CARD OF 'strongroomlaw19.EvalLaws'. -/
def evalLawsCard : Claim7 := { stood := { row := evalLawsRow, standIns := [], harness := (true, "458aa50acb5943e9d32f2d2a42ad3f1cc87e7805465a9b2a79d473037d359440"), looks := true }, kinds := [], alts := [], laidByText := true, laidKinds := [.data, .data, .data, .sentinel, .sentinel, .listed, .data], laidTests := true, laidLooks := .later }
def EvalLawsCardSaid : Prop := Claim7.holds Tryz.pinned (.plain (OpenSpec.ofChange evalLawsSpec)) evalLawsCard

/-- THE TIED CARD OF 'strongroomlaw19.EvalNames'. -/
def evalNamesCard : Claim7 := { stood := { row := evalNamesRow, standIns := [], harness := (true, "458aa50acb5943e9d32f2d2a42ad3f1cc87e7805465a9b2a79d473037d359440"), looks := true }, kinds := [], alts := [], laidByText := true, laidKinds := [.data, .data, .data, .sentinel, .sentinel, .listed, .data], laidTests := true, laidLooks := .later }
def EvalNamesCardSaid : Prop := Claim7.holds Tryz.pinned (.plain (OpenSpec.ofChange evalNamesSpec)) evalNamesCard

/-- THE SECOND FORM's CARD OF 'strongroomlaw18.CheckTests'. -/
def checkTestsUptoCard : Claim7 := { stood := { row := checkTestsUptoRow, standIns := [], harness := (true, "458aa50acb5943e9d32f2d2a42ad3f1cc87e7805465a9b2a79d473037d359440"), looks := true }, kinds := [], alts := [], laidByText := true, laidKinds := [.data, .data, .data, .sentinel, .sentinel, .listed, .data], laidTests := true, laidLooks := .later }
def CheckTestsUptoCardSaid : Prop := Claim7.holds Tryz.pinned (.plain (OpenSpec.upto checkTestsSpec)) checkTestsUptoCard

/-- THE SECOND FORM's CARD OF 'strongroomlaw18.CheckTexts'. -/
def checkTextsUptoCard : Claim7 := { stood := { row := checkTextsUptoRow, standIns := [], harness := (true, "458aa50acb5943e9d32f2d2a42ad3f1cc87e7805465a9b2a79d473037d359440"), looks := true }, kinds := [], alts := [], laidByText := true, laidKinds := [.data, .data, .data, .sentinel, .sentinel, .listed, .data], laidTests := true, laidLooks := .later }
def CheckTextsUptoCardSaid : Prop := Claim7.holds Tryz.pinned (.plain (OpenSpec.upto checkTextsSpec)) checkTextsUptoCard

/-- THE SECOND FORM's CARD OF 'strongroomlaw18.CheckFields'. -/
def checkFieldsUptoCard : Claim7 := { stood := { row := checkFieldsUptoRow, standIns := [], harness := (true, "458aa50acb5943e9d32f2d2a42ad3f1cc87e7805465a9b2a79d473037d359440"), looks := true }, kinds := [], alts := [], laidByText := true, laidKinds := [.data, .data, .data, .sentinel, .sentinel, .listed, .data], laidTests := true, laidLooks := .later }
def CheckFieldsUptoCardSaid : Prop := Claim7.holds Tryz.pinned (.plain (OpenSpec.upto checkFieldsSpec)) checkFieldsUptoCard

/-- THE SECOND FORM's CARD OF 'strongroomlaw18.CheckWraps'. -/
def checkWrapsUptoCard : Claim7 := { stood := { row := checkWrapsUptoRow, standIns := [], harness := (true, "458aa50acb5943e9d32f2d2a42ad3f1cc87e7805465a9b2a79d473037d359440"), looks := true }, kinds := [], alts := [], laidByText := true, laidKinds := [.data, .data, .data, .sentinel, .sentinel, .listed, .data], laidTests := true, laidLooks := .later }
def CheckWrapsUptoCardSaid : Prop := Claim7.holds Tryz.pinned (.plain (OpenSpec.upto checkWrapsSpec)) checkWrapsUptoCard

/-- THE SECOND FORM's CARD OF 'strongroomlaw19.EvalSays'. -/
def evalSaysUptoCard : Claim7 := { stood := { row := evalSaysUptoRow, standIns := [], harness := (true, "458aa50acb5943e9d32f2d2a42ad3f1cc87e7805465a9b2a79d473037d359440"), looks := true }, kinds := [], alts := [], laidByText := true, laidKinds := [.data, .data, .data, .sentinel, .sentinel, .listed, .data], laidTests := true, laidLooks := .later }
def EvalSaysUptoCardSaid : Prop := Claim7.holds Tryz.pinned (.plain (OpenSpec.upto evalSaysSpec)) evalSaysUptoCard

/-- THE SECOND FORM's CARD OF 'strongroomlaw19.EvalLaws'. -/
def evalLawsUptoCard : Claim7 := { stood := { row := evalLawsUptoRow, standIns := [], harness := (true, "458aa50acb5943e9d32f2d2a42ad3f1cc87e7805465a9b2a79d473037d359440"), looks := true }, kinds := [], alts := [], laidByText := true, laidKinds := [.data, .data, .data, .sentinel, .sentinel, .listed, .data], laidTests := true, laidLooks := .later }
def EvalLawsUptoCardSaid : Prop := Claim7.holds Tryz.pinned (.plain (OpenSpec.upto evalLawsSpec)) evalLawsUptoCard

/-- THE SECOND FORM's CARD OF 'strongroomlaw19.EvalNames'. -/
def evalNamesUptoCard : Claim7 := { stood := { row := evalNamesUptoRow, standIns := [], harness := (true, "458aa50acb5943e9d32f2d2a42ad3f1cc87e7805465a9b2a79d473037d359440"), looks := true }, kinds := [], alts := [], laidByText := true, laidKinds := [.data, .data, .data, .sentinel, .sentinel, .listed, .data], laidTests := true, laidLooks := .later }
def EvalNamesUptoCardSaid : Prop := Claim7.holds Tryz.pinned (.plain (OpenSpec.upto evalNamesSpec)) evalNamesUptoCard
end Rows
end Go.Proofs.YtfkghfmgeholeaaGreatDoor
