/-
  DERIVED. GIVEN WITH THE SEED: THE CARDS: each row of YtngoaapgdfohjaaGreatDoorRows.lean that lists a variable, with what it lists TIED to the program's text (the seventh form; the later family's looks); each row that meets fmt, with fmt's text TOLD by the authors' own Lean function (tested against real Go, not proved from fmt's source: count such statements apart). THE CARD IS WHAT COUNTS. Prove the row's statement (the work); the ties are given (YtngoaapgdfohjaaGreatDoorTie.lean); close each card by the builder's one call (the guide's Derived/Test/ToyasCard.lean, 'card_holds'). Laid BY PROGRAM, IN A SANDBOX (cutbox-door.mjs). By AI agents, Wed Nov 11 2026. No macro, syntax, notation, axiom, sorry.
-/
import Derived.Test.YtngoaapgdfohjaaGreatDoorRows
import GoSem.ClaimSeven
namespace Go.Proofs.YtngoaapgdfohjaaGreatDoor
namespace Rows

/-- THE TIED CARD OF 'incognitolaw27.NamesBuild'. -/
def namesBuildCard : Claim7 := { stood := { row := namesBuildRow, standIns := [], harness := (true, "2f445e6227ad9116f1e8045694443882da0f1ab32f2601a0cc71696d36e1eb79"), looks := true }, kinds := [], alts := [], laidByText := true, laidKinds := [.data, .data, .data, .data, .data, .data], laidTests := true, laidLooks := .later }
def NamesBuildCardSaid : Prop := Claim7.holds Tryz.pinned (.plain (OpenSpec.ofChange namesBuildSpec)) namesBuildCard

/-- THE TIED CARD OF 'incognitolaw27.NamesClash'. -/
def namesClashCard : Claim7 := { stood := { row := namesClashRow, standIns := [], harness := (true, "2f445e6227ad9116f1e8045694443882da0f1ab32f2601a0cc71696d36e1eb79"), looks := true }, kinds := [], alts := [], laidByText := true, laidKinds := [.data, .data, .data, .data, .data, .data], laidTests := true, laidLooks := .later }
def NamesClashCardSaid : Prop := Claim7.holds Tryz.pinned (.plain (OpenSpec.ofChange namesClashSpec)) namesClashCard

/-- THE TIED CARD OF 'incognitolaw27.NamesBack'. -/
def namesBackCard : Claim7 := { stood := { row := namesBackRow, standIns := [], harness := (true, "2f445e6227ad9116f1e8045694443882da0f1ab32f2601a0cc71696d36e1eb79"), looks := true }, kinds := [], alts := [], laidByText := true, laidKinds := [.data, .data, .data, .data, .data, .data], laidTests := true, laidLooks := .later }
def NamesBackCardSaid : Prop := Claim7.holds Tryz.pinned (.plain (OpenSpec.ofChange namesBackSpec)) namesBackCard

/-- THE TIED CARD OF 'incognitolaw29.BookPrints'. -/
def bookPrintsCard : Claim7 := { stood := { row := bookPrintsRow, standIns := [], harness := (true, "2f445e6227ad9116f1e8045694443882da0f1ab32f2601a0cc71696d36e1eb79"), looks := true }, kinds := [], alts := [], laidByText := true, laidKinds := [.data, .data, .data, .data, .data, .data, .data, .data, .data, .pinned], laidTests := true, laidLooks := .later }
def BookPrintsCardSaid : Prop := Claim7.holds Tryz.pinned (.plain (OpenSpec.ofChange bookPrintsSpec)) bookPrintsCard

/-- THE TIED CARD OF 'incognitolaw29.BookParses'. -/
def bookParsesCard : Claim7 := { stood := { row := bookParsesRow, standIns := [], harness := (true, "2f445e6227ad9116f1e8045694443882da0f1ab32f2601a0cc71696d36e1eb79"), looks := true }, kinds := [], alts := [], laidByText := true, laidKinds := [.data, .data, .data, .data, .data, .data, .data, .data, .data, .pinned], laidTests := true, laidLooks := .later }
def BookParsesCardSaid : Prop := Claim7.holds Tryz.pinned (.plain (OpenSpec.ofChange bookParsesSpec)) bookParsesCard

/-- THE TIED CARD OF 'incognitolaw29.BookSeals'. -/
def bookSealsCard : Claim7 := { stood := { row := bookSealsRow, standIns := [], harness := (true, "2f445e6227ad9116f1e8045694443882da0f1ab32f2601a0cc71696d36e1eb79"), looks := true }, kinds := [], alts := [], laidByText := true, laidKinds := [.data, .data, .data, .data, .data, .data, .data, .data, .data, .pinned], laidTests := true, laidLooks := .later }
def BookSealsCardSaid : Prop := Claim7.holds Tryz.pinned (.plain (OpenSpec.ofChange bookSealsSpec)) bookSealsCard

/-- THE TIED CARD OF 'incognitolaw29.BookOne'. -/
def bookOneCard : Claim7 := { stood := { row := bookOneRow, standIns := [], harness := (true, "2f445e6227ad9116f1e8045694443882da0f1ab32f2601a0cc71696d36e1eb79"), looks := true }, kinds := [], alts := [], laidByText := true, laidKinds := [.data, .data, .data, .data, .data, .data, .data, .data, .data, .pinned], laidTests := true, laidLooks := .later }
def BookOneCardSaid : Prop := Claim7.holds Tryz.pinned (.plain (OpenSpec.ofChange bookOneSpec)) bookOneCard

/-- THE SECOND FORM's CARD OF 'incognitolaw27.NamesBuild'. -/
def namesBuildUptoCard : Claim7 := { stood := { row := namesBuildUptoRow, standIns := [], harness := (true, "2f445e6227ad9116f1e8045694443882da0f1ab32f2601a0cc71696d36e1eb79"), looks := true }, kinds := [], alts := [], laidByText := true, laidKinds := [.data, .data, .data, .data, .data, .data], laidTests := true, laidLooks := .later }
def NamesBuildUptoCardSaid : Prop := Claim7.holds Tryz.pinned (.plain (OpenSpec.upto namesBuildSpec)) namesBuildUptoCard

/-- THE SECOND FORM's CARD OF 'incognitolaw27.NamesClash'. -/
def namesClashUptoCard : Claim7 := { stood := { row := namesClashUptoRow, standIns := [], harness := (true, "2f445e6227ad9116f1e8045694443882da0f1ab32f2601a0cc71696d36e1eb79"), looks := true }, kinds := [], alts := [], laidByText := true, laidKinds := [.data, .data, .data, .data, .data, .data], laidTests := true, laidLooks := .later }
def NamesClashUptoCardSaid : Prop := Claim7.holds Tryz.pinned (.plain (OpenSpec.upto namesClashSpec)) namesClashUptoCard

/-- THE SECOND FORM's CARD OF 'incognitolaw27.NamesBack'. -/
def namesBackUptoCard : Claim7 := { stood := { row := namesBackUptoRow, standIns := [], harness := (true, "2f445e6227ad9116f1e8045694443882da0f1ab32f2601a0cc71696d36e1eb79"), looks := true }, kinds := [], alts := [], laidByText := true, laidKinds := [.data, .data, .data, .data, .data, .data], laidTests := true, laidLooks := .later }
def NamesBackUptoCardSaid : Prop := Claim7.holds Tryz.pinned (.plain (OpenSpec.upto namesBackSpec)) namesBackUptoCard

/-- THE SECOND FORM's CARD OF 'incognitolaw29.BookPrints'. -/
def bookPrintsUptoCard : Claim7 := { stood := { row := bookPrintsUptoRow, standIns := [], harness := (true, "2f445e6227ad9116f1e8045694443882da0f1ab32f2601a0cc71696d36e1eb79"), looks := true }, kinds := [], alts := [], laidByText := true, laidKinds := [.data, .data, .data, .data, .data, .data, .data, .data, .data, .pinned], laidTests := true, laidLooks := .later }
def BookPrintsUptoCardSaid : Prop := Claim7.holds Tryz.pinned (.plain (OpenSpec.upto bookPrintsSpec)) bookPrintsUptoCard

/-- THE SECOND FORM's CARD OF 'incognitolaw29.BookParses'. -/
def bookParsesUptoCard : Claim7 := { stood := { row := bookParsesUptoRow, standIns := [], harness := (true, "2f445e6227ad9116f1e8045694443882da0f1ab32f2601a0cc71696d36e1eb79"), looks := true }, kinds := [], alts := [], laidByText := true, laidKinds := [.data, .data, .data, .data, .data, .data, .data, .data, .data, .pinned], laidTests := true, laidLooks := .later }
def BookParsesUptoCardSaid : Prop := Claim7.holds Tryz.pinned (.plain (OpenSpec.upto bookParsesSpec)) bookParsesUptoCard

/-- THE SECOND FORM's CARD OF 'incognitolaw29.BookSeals'. -/
def bookSealsUptoCard : Claim7 := { stood := { row := bookSealsUptoRow, standIns := [], harness := (true, "2f445e6227ad9116f1e8045694443882da0f1ab32f2601a0cc71696d36e1eb79"), looks := true }, kinds := [], alts := [], laidByText := true, laidKinds := [.data, .data, .data, .data, .data, .data, .data, .data, .data, .pinned], laidTests := true, laidLooks := .later }
def BookSealsUptoCardSaid : Prop := Claim7.holds Tryz.pinned (.plain (OpenSpec.upto bookSealsSpec)) bookSealsUptoCard

/-- THE SECOND FORM's CARD OF 'incognitolaw29.BookOne'. -/
def bookOneUptoCard : Claim7 := { stood := { row := bookOneUptoRow, standIns := [], harness := (true, "2f445e6227ad9116f1e8045694443882da0f1ab32f2601a0cc71696d36e1eb79"), looks := true }, kinds := [], alts := [], laidByText := true, laidKinds := [.data, .data, .data, .data, .data, .data, .data, .data, .data, .pinned], laidTests := true, laidLooks := .later }
def BookOneUptoCardSaid : Prop := Claim7.holds Tryz.pinned (.plain (OpenSpec.upto bookOneSpec)) bookOneUptoCard
end Rows
end Go.Proofs.YtngoaapgdfohjaaGreatDoor
