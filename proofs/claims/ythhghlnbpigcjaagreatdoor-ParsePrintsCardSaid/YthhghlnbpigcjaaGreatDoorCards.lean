/-
  DERIVED. GIVEN WITH THE SEED: THE CARDS: each row of YthhghlnbpigcjaaGreatDoorRows.lean that lists a variable, with what it lists TIED to the program's text (the seventh form; the later family's looks); each row that meets fmt, with fmt's text TOLD by the authors' own Lean function (tested against real Go, not proved from fmt's source: count such statements apart). THE CARD IS WHAT COUNTS. Prove the row's statement (the work); the ties are given (YthhghlnbpigcjaaGreatDoorTie.lean); close each card by the builder's one call (the guide's Derived/Test/ToyasCard.lean, 'card_holds'). Laid BY PROGRAM, IN A SANDBOX (cutbox-door.mjs). By AI agents, Wed Nov 11 2026. No macro, syntax, notation, axiom, sorry.
-/
import Derived.Test.YthhghlnbpigcjaaGreatDoorRows
import GoSem.ClaimSeven
namespace Go.Proofs.YthhghlnbpigcjaaGreatDoor
namespace Rows

/-- THE TIED CARD OF 'strongroomlaw17.ParseReads'. -/
def parseReadsCard : Claim7 := { stood := { row := parseReadsRow, standIns := [], harness := (true, "5e1f4e20cb0c12f03d86b3e4d6ca2829067f01a400d99719bd61365460d667be"), looks := true }, kinds := [], alts := [], laidByText := true, laidKinds := [.data, .data, .data, .sentinel, .sentinel, .listed, .data], laidTests := true, laidLooks := .later }
def ParseReadsCardSaid : Prop := Claim7.holds Tryz.pinned (.plain (OpenSpec.ofChange parseReadsSpec)) parseReadsCard

/-- THE TIED CARD OF 'strongroomlaw17.ParseDeep'. -/
def parseDeepCard : Claim7 := { stood := { row := parseDeepRow, standIns := [], harness := (true, "5e1f4e20cb0c12f03d86b3e4d6ca2829067f01a400d99719bd61365460d667be"), looks := true }, kinds := [], alts := [], laidByText := true, laidKinds := [.data, .data, .data, .sentinel, .sentinel, .listed, .data], laidTests := true, laidLooks := .later }
def ParseDeepCardSaid : Prop := Claim7.holds Tryz.pinned (.plain (OpenSpec.ofChange parseDeepSpec)) parseDeepCard

/-- THE TIED CARD OF 'strongroomlaw17.ParsePrints'. -/
def parsePrintsCard : Claim7 := { stood := { row := parsePrintsRow, standIns := [], harness := (true, "5e1f4e20cb0c12f03d86b3e4d6ca2829067f01a400d99719bd61365460d667be"), looks := true }, kinds := [], alts := [], laidByText := true, laidKinds := [.data, .data, .data, .sentinel, .sentinel, .listed, .data], laidTests := true, laidLooks := .later }
def ParsePrintsCardSaid : Prop := Claim7.holds Tryz.pinned (.plain (OpenSpec.ofChange parsePrintsSpec)) parsePrintsCard

/-- THE TIED CARD OF 'strongroomlaw17.ParseAgain'. -/
def parseAgainCard : Claim7 := { stood := { row := parseAgainRow, standIns := [], harness := (true, "5e1f4e20cb0c12f03d86b3e4d6ca2829067f01a400d99719bd61365460d667be"), looks := true }, kinds := [], alts := [], laidByText := true, laidKinds := [.data, .data, .data, .sentinel, .sentinel, .listed, .data], laidTests := true, laidLooks := .later }
def ParseAgainCardSaid : Prop := Claim7.holds Tryz.pinned (.plain (OpenSpec.ofChange parseAgainSpec)) parseAgainCard

/-- THE TIED CARD OF 'strongroomlaw17.ParseWraps'. -/
def parseWrapsCard : Claim7 := { stood := { row := parseWrapsRow, standIns := [], harness := (true, "5e1f4e20cb0c12f03d86b3e4d6ca2829067f01a400d99719bd61365460d667be"), looks := true }, kinds := [], alts := [], laidByText := true, laidKinds := [.data, .data, .data, .sentinel, .sentinel, .listed, .data], laidTests := true, laidLooks := .later }
def ParseWrapsCardSaid : Prop := Claim7.holds Tryz.pinned (.plain (OpenSpec.ofChange parseWrapsSpec)) parseWrapsCard

/-- THE TIED CARD OF 'strongroomlaw17.ParseSizes'. -/
def parseSizesCard : Claim7 := { stood := { row := parseSizesRow, standIns := [], harness := (true, "5e1f4e20cb0c12f03d86b3e4d6ca2829067f01a400d99719bd61365460d667be"), looks := true }, kinds := [], alts := [], laidByText := true, laidKinds := [.data, .data, .data, .sentinel, .sentinel, .listed, .data], laidTests := true, laidLooks := .later }
def ParseSizesCardSaid : Prop := Claim7.holds Tryz.pinned (.plain (OpenSpec.ofChange parseSizesSpec)) parseSizesCard

/-- THE SECOND FORM's CARD OF 'strongroomlaw17.ParseReads'. -/
def parseReadsUptoCard : Claim7 := { stood := { row := parseReadsUptoRow, standIns := [], harness := (true, "5e1f4e20cb0c12f03d86b3e4d6ca2829067f01a400d99719bd61365460d667be"), looks := true }, kinds := [], alts := [], laidByText := true, laidKinds := [.data, .data, .data, .sentinel, .sentinel, .listed, .data], laidTests := true, laidLooks := .later }
def ParseReadsUptoCardSaid : Prop := Claim7.holds Tryz.pinned (.plain (OpenSpec.upto parseReadsSpec)) parseReadsUptoCard

/-- THE SECOND FORM's CARD OF 'strongroomlaw17.ParseDeep'. -/
def parseDeepUptoCard : Claim7 := { stood := { row := parseDeepUptoRow, standIns := [], harness := (true, "5e1f4e20cb0c12f03d86b3e4d6ca2829067f01a400d99719bd61365460d667be"), looks := true }, kinds := [], alts := [], laidByText := true, laidKinds := [.data, .data, .data, .sentinel, .sentinel, .listed, .data], laidTests := true, laidLooks := .later }
def ParseDeepUptoCardSaid : Prop := Claim7.holds Tryz.pinned (.plain (OpenSpec.upto parseDeepSpec)) parseDeepUptoCard

/-- THE SECOND FORM's CARD OF 'strongroomlaw17.ParsePrints'. -/
def parsePrintsUptoCard : Claim7 := { stood := { row := parsePrintsUptoRow, standIns := [], harness := (true, "5e1f4e20cb0c12f03d86b3e4d6ca2829067f01a400d99719bd61365460d667be"), looks := true }, kinds := [], alts := [], laidByText := true, laidKinds := [.data, .data, .data, .sentinel, .sentinel, .listed, .data], laidTests := true, laidLooks := .later }
def ParsePrintsUptoCardSaid : Prop := Claim7.holds Tryz.pinned (.plain (OpenSpec.upto parsePrintsSpec)) parsePrintsUptoCard

/-- THE SECOND FORM's CARD OF 'strongroomlaw17.ParseAgain'. -/
def parseAgainUptoCard : Claim7 := { stood := { row := parseAgainUptoRow, standIns := [], harness := (true, "5e1f4e20cb0c12f03d86b3e4d6ca2829067f01a400d99719bd61365460d667be"), looks := true }, kinds := [], alts := [], laidByText := true, laidKinds := [.data, .data, .data, .sentinel, .sentinel, .listed, .data], laidTests := true, laidLooks := .later }
def ParseAgainUptoCardSaid : Prop := Claim7.holds Tryz.pinned (.plain (OpenSpec.upto parseAgainSpec)) parseAgainUptoCard

/-- THE SECOND FORM's CARD OF 'strongroomlaw17.ParseWraps'. -/
def parseWrapsUptoCard : Claim7 := { stood := { row := parseWrapsUptoRow, standIns := [], harness := (true, "5e1f4e20cb0c12f03d86b3e4d6ca2829067f01a400d99719bd61365460d667be"), looks := true }, kinds := [], alts := [], laidByText := true, laidKinds := [.data, .data, .data, .sentinel, .sentinel, .listed, .data], laidTests := true, laidLooks := .later }
def ParseWrapsUptoCardSaid : Prop := Claim7.holds Tryz.pinned (.plain (OpenSpec.upto parseWrapsSpec)) parseWrapsUptoCard

/-- THE SECOND FORM's CARD OF 'strongroomlaw17.ParseSizes'. -/
def parseSizesUptoCard : Claim7 := { stood := { row := parseSizesUptoRow, standIns := [], harness := (true, "5e1f4e20cb0c12f03d86b3e4d6ca2829067f01a400d99719bd61365460d667be"), looks := true }, kinds := [], alts := [], laidByText := true, laidKinds := [.data, .data, .data, .sentinel, .sentinel, .listed, .data], laidTests := true, laidLooks := .later }
def ParseSizesUptoCardSaid : Prop := Claim7.holds Tryz.pinned (.plain (OpenSpec.upto parseSizesSpec)) parseSizesUptoCard
end Rows
end Go.Proofs.YthhghlnbpigcjaaGreatDoor
