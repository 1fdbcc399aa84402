/-
  DERIVED. GIVEN WITH THE SEED: THE CARDS: each row of YtacafhmagonngaaGreatDoorRows.lean that lists a variable, with what it lists TIED to the program's text (the seventh form; the later family's looks); each row that meets fmt, with fmt's text TOLD by the authors' own Lean function (tested against real Go, not proved from fmt's source: count such statements apart). THE CARD IS WHAT COUNTS. Prove the row's statement (the work); the ties are given (YtacafhmagonngaaGreatDoorTie.lean); close each card by the builder's one call (the guide's Derived/Test/ToyasCard.lean, 'card_holds'). Laid BY PROGRAM, IN A SANDBOX (cutbox-door.mjs). By AI agents, Wed Nov 11 2026. No macro, syntax, notation, axiom, sorry.
-/
import Derived.Test.YtacafhmagonngaaGreatDoorRows
import GoSem.ClaimSeven
namespace Go.Proofs.YtacafhmagonngaaGreatDoor
namespace Rows

/-- THE TIED CARD OF 'strongroomlaw03.ValueParses'. -/
def valueParsesCard : Claim7 := { stood := { row := valueParsesRow, standIns := [], harness := (true, "cb7a25896f6044c9551ef2bcb08f784b06e29391c69677d5c2c132f01feefa91"), looks := true }, kinds := [], alts := [], laidByText := true, laidKinds := [.data, .data, .data, .sentinel, .sentinel], laidTests := true, laidLooks := .later }
def ValueParsesCardSaid : Prop := Claim7.holds Tryz.pinned (.plain (OpenSpec.ofChange valueParsesSpec)) valueParsesCard

/-- THE TIED CARD OF 'strongroomlaw03.ValueHeads'. -/
def valueHeadsCard : Claim7 := { stood := { row := valueHeadsRow, standIns := [], harness := (true, "cb7a25896f6044c9551ef2bcb08f784b06e29391c69677d5c2c132f01feefa91"), looks := true }, kinds := [], alts := [], laidByText := true, laidKinds := [.data, .data, .data, .sentinel, .sentinel], laidTests := true, laidLooks := .later }
def ValueHeadsCardSaid : Prop := Claim7.holds Tryz.pinned (.plain (OpenSpec.ofChange valueHeadsSpec)) valueHeadsCard

/-- THE TIED CARD OF 'strongroomlaw03.ValueTexts'. -/
def valueTextsCard : Claim7 := { stood := { row := valueTextsRow, standIns := [], harness := (true, "cb7a25896f6044c9551ef2bcb08f784b06e29391c69677d5c2c132f01feefa91"), looks := true }, kinds := [], alts := [], laidByText := true, laidKinds := [.data, .data, .data, .sentinel, .sentinel], laidTests := true, laidLooks := .later }
def ValueTextsCardSaid : Prop := Claim7.holds Tryz.pinned (.plain (OpenSpec.ofChange valueTextsSpec)) valueTextsCard

/-- THE TIED CARD OF 'strongroomlaw03.ValueGets'. -/
def valueGetsCard : Claim7 := { stood := { row := valueGetsRow, standIns := [], harness := (true, "cb7a25896f6044c9551ef2bcb08f784b06e29391c69677d5c2c132f01feefa91"), looks := true }, kinds := [], alts := [], laidByText := true, laidKinds := [.data, .data, .data, .sentinel, .sentinel], laidTests := true, laidLooks := .later }
def ValueGetsCardSaid : Prop := Claim7.holds Tryz.pinned (.plain (OpenSpec.ofChange valueGetsSpec)) valueGetsCard

/-- THE TIED CARD OF 'strongroomlaw03.ValuePuts'. -/
def valuePutsCard : Claim7 := { stood := { row := valuePutsRow, standIns := [], harness := (true, "cb7a25896f6044c9551ef2bcb08f784b06e29391c69677d5c2c132f01feefa91"), looks := true }, kinds := [], alts := [], laidByText := true, laidKinds := [.data, .data, .data, .sentinel, .sentinel], laidTests := true, laidLooks := .later }
def ValuePutsCardSaid : Prop := Claim7.holds Tryz.pinned (.plain (OpenSpec.ofChange valuePutsSpec)) valuePutsCard

/-- THE SECOND FORM's CARD OF 'strongroomlaw03.ValueParses'. -/
def valueParsesUptoCard : Claim7 := { stood := { row := valueParsesUptoRow, standIns := [], harness := (true, "cb7a25896f6044c9551ef2bcb08f784b06e29391c69677d5c2c132f01feefa91"), looks := true }, kinds := [], alts := [], laidByText := true, laidKinds := [.data, .data, .data, .sentinel, .sentinel], laidTests := true, laidLooks := .later }
def ValueParsesUptoCardSaid : Prop := Claim7.holds Tryz.pinned (.plain (OpenSpec.upto valueParsesSpec)) valueParsesUptoCard

/-- THE SECOND FORM's CARD OF 'strongroomlaw03.ValueHeads'. -/
def valueHeadsUptoCard : Claim7 := { stood := { row := valueHeadsUptoRow, standIns := [], harness := (true, "cb7a25896f6044c9551ef2bcb08f784b06e29391c69677d5c2c132f01feefa91"), looks := true }, kinds := [], alts := [], laidByText := true, laidKinds := [.data, .data, .data, .sentinel, .sentinel], laidTests := true, laidLooks := .later }
def ValueHeadsUptoCardSaid : Prop := Claim7.holds Tryz.pinned (.plain (OpenSpec.upto valueHeadsSpec)) valueHeadsUptoCard

/-- THE SECOND FORM's CARD OF 'strongroomlaw03.ValueTexts'. -/
def valueTextsUptoCard : Claim7 := { stood := { row := valueTextsUptoRow, standIns := [], harness := (true, "cb7a25896f6044c9551ef2bcb08f784b06e29391c69677d5c2c132f01feefa91"), looks := true }, kinds := [], alts := [], laidByText := true, laidKinds := [.data, .data, .data, .sentinel, .sentinel], laidTests := true, laidLooks := .later }
def ValueTextsUptoCardSaid : Prop := Claim7.holds Tryz.pinned (.plain (OpenSpec.upto valueTextsSpec)) valueTextsUptoCard

/-- THE SECOND FORM's CARD OF 'strongroomlaw03.ValueGets'. -/
def valueGetsUptoCard : Claim7 := { stood := { row := valueGetsUptoRow, standIns := [], harness := (true, "cb7a25896f6044c9551ef2bcb08f784b06e29391c69677d5c2c132f01feefa91"), looks := true }, kinds := [], alts := [], laidByText := true, laidKinds := [.data, .data, .data, .sentinel, .sentinel], laidTests := true, laidLooks := .later }
def ValueGetsUptoCardSaid : Prop := Claim7.holds Tryz.pinned (.plain (OpenSpec.upto valueGetsSpec)) valueGetsUptoCard

/-- THE SECOND FORM's CARD OF 'strongroomlaw03.ValuePuts'. -/
def valuePutsUptoCard : Claim7 := { stood := { row := valuePutsUptoRow, standIns := [], harness := (true, "cb7a25896f6044c9551ef2bcb08f784b06e29391c69677d5c2c132f01feefa91"), looks := true }, kinds := [], alts := [], laidByText := true, laidKinds := [.data, .data, .data, .sentinel, .sentinel], laidTests := true, laidLooks := .later }
def ValuePutsUptoCardSaid : Prop := Claim7.holds Tryz.pinned (.plain (OpenSpec.upto valuePutsSpec)) valuePutsUptoCard
end Rows
end Go.Proofs.YtacafhmagonngaaGreatDoor
