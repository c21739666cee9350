/-
  DERIVED. GIVEN WITH THE SEED: THE CARDS: each row of YtiinipcmghhacaaDoorRows.lean that lists a variable, with what it lists TIED to the program's text (the seventh form; the later family's looks); each row that meets fmt, with fmt's text TOLD by the authors' own Lean function (tested against real Go, not proved from fmt's source: count such statements apart). THE CARD IS WHAT COUNTS. Prove the row's statement (the work); the ties are given (YtiinipcmghhacaaDoorTie.lean); close each card by the builder's one call (the guide's Derived/Test/ToyasCard.lean, 'card_holds'). Laid BY PROGRAM, IN A SANDBOX (cutbox-door.mjs). By AI agents, Wed Nov 11 2026. No macro, syntax, notation, axiom, sorry.
-/
import Derived.Test.YtiinipcmghhacaaDoorRows
import GoSem.ClaimSeven
namespace Go.Proofs.YtiinipcmghhacaaDoor
namespace Rows

/-- THE TIED CARD OF 'incognitolaw25.PolicyTurns'. -/
def policyTurnsCard : Claim7 := { stood := { row := policyTurnsRow, standIns := [], harness := (true, "a31718db7ad84fcfa8dcd17e446e75598859848c6417f6a8f0aefa5f9d983264"), looks := true }, kinds := [], alts := [], laidByText := true, laidKinds := [.data, .data, .data, .pinned], laidTests := true, laidLooks := .later }
def PolicyTurnsCardSaid : Prop := Claim7.holds Tryd.pinned (.plain (OpenSpec.ofChange policyTurnsSpec)) policyTurnsCard

/-- THE TIED CARD OF 'incognitolaw25.PolicyKeeps'. -/
def policyKeepsCard : Claim7 := { stood := { row := policyKeepsRow, standIns := [], harness := (true, "a31718db7ad84fcfa8dcd17e446e75598859848c6417f6a8f0aefa5f9d983264"), looks := true }, kinds := [], alts := [], laidByText := true, laidKinds := [.data, .data, .data, .pinned], laidTests := true, laidLooks := .later }
def PolicyKeepsCardSaid : Prop := Claim7.holds Tryd.pinned (.plain (OpenSpec.ofChange policyKeepsSpec)) policyKeepsCard

/-- THE TIED CARD OF 'incognitolaw25.PolicyParses'. -/
def policyParsesCard : Claim7 := { stood := { row := policyParsesRow, standIns := [], harness := (true, "a31718db7ad84fcfa8dcd17e446e75598859848c6417f6a8f0aefa5f9d983264"), looks := true }, kinds := [], alts := [], laidByText := true, laidKinds := [.data, .data, .data, .pinned], laidTests := true, laidLooks := .later }
def PolicyParsesCardSaid : Prop := Claim7.holds Tryd.pinned (.plain (OpenSpec.ofChange policyParsesSpec)) policyParsesCard

/-- THE TIED CARD OF 'incognitolaw25.PolicyPrints'. -/
def policyPrintsCard : Claim7 := { stood := { row := policyPrintsRow, standIns := [], harness := (true, "a31718db7ad84fcfa8dcd17e446e75598859848c6417f6a8f0aefa5f9d983264"), looks := true }, kinds := [], alts := [], laidByText := true, laidKinds := [.data, .data, .data, .data, .data, .data, .pinned], laidTests := true, laidLooks := .later }
def PolicyPrintsCardSaid : Prop := Claim7.holds Tryd.pinned (.plain (OpenSpec.ofChange policyPrintsSpec)) policyPrintsCard

/-- THE TIED CARD OF 'incognitolaw10.EventParses'. -/
def eventParsesCard : Claim7 := { stood := { row := eventParsesRow, standIns := [], harness := (true, "a31718db7ad84fcfa8dcd17e446e75598859848c6417f6a8f0aefa5f9d983264"), looks := true }, kinds := [], alts := [], laidByText := true, laidKinds := [.data, .data, .data, .widerDeep, .widerDeep, .data, .pinned], laidTests := true, laidLooks := .later }
def EventParsesCardSaid : Prop := Claim7.holds Tryd.pinned (.plain (OpenSpec.ofChange eventParsesSpec)) eventParsesCard

/-- THE TIED CARD OF 'incognitolaw10.EventNotes'. -/
def eventNotesCard : Claim7 := { stood := { row := eventNotesRow, standIns := [], harness := (true, "a31718db7ad84fcfa8dcd17e446e75598859848c6417f6a8f0aefa5f9d983264"), looks := true }, kinds := [], alts := [], laidByText := true, laidKinds := [.data, .data, .data, .widerDeep, .widerDeep, .data, .pinned], laidTests := true, laidLooks := .later }
def EventNotesCardSaid : Prop := Claim7.holds Tryd.pinned (.plain (OpenSpec.ofChange eventNotesSpec)) eventNotesCard

/-- THE TIED CARD OF 'incognitolaw10.EventBack'. -/
def eventBackCard : Claim7 := { stood := { row := eventBackRow, standIns := [], harness := (true, "a31718db7ad84fcfa8dcd17e446e75598859848c6417f6a8f0aefa5f9d983264"), looks := true }, kinds := [], alts := [], laidByText := true, laidKinds := [.data, .data, .data, .data, .data, .data, .widerDeep, .widerDeep, .data, .pinned], laidTests := true, laidLooks := .later }
def EventBackCardSaid : Prop := Claim7.holds Tryd.pinned (.plain (OpenSpec.ofChange eventBackSpec)) eventBackCard

/-- THE TIED CARD OF 'incognitolaw10.EventOne'. -/
def eventOneCard : Claim7 := { stood := { row := eventOneRow, standIns := [], harness := (true, "a31718db7ad84fcfa8dcd17e446e75598859848c6417f6a8f0aefa5f9d983264"), looks := true }, kinds := [], alts := [], laidByText := true, laidKinds := [.data, .data, .data, .data, .data, .data, .widerDeep, .widerDeep, .data, .pinned], laidTests := true, laidLooks := .later }
def EventOneCardSaid : Prop := Claim7.holds Tryd.pinned (.plain (OpenSpec.ofChange eventOneSpec)) eventOneCard

/-- THE TIED CARD OF 'incognitolaw11.HistParses'. -/
def histParsesCard : Claim7 := { stood := { row := histParsesRow, standIns := [], harness := (true, "a31718db7ad84fcfa8dcd17e446e75598859848c6417f6a8f0aefa5f9d983264"), looks := true }, kinds := [], alts := [], laidByText := true, laidKinds := [.data, .data, .data, .widerDeep, .widerDeep, .data, .pinned], laidTests := true, laidLooks := .later }
def HistParsesCardSaid : Prop := Claim7.holds Tryd.pinned (.plain (OpenSpec.ofChange histParsesSpec)) histParsesCard

/-- THE TIED CARD OF 'incognitolaw11.HistJoins'. -/
def histJoinsCard : Claim7 := { stood := { row := histJoinsRow, standIns := [], harness := (true, "a31718db7ad84fcfa8dcd17e446e75598859848c6417f6a8f0aefa5f9d983264"), looks := true }, kinds := [], alts := [], laidByText := true, laidKinds := [.data, .data, .data, .widerDeep, .widerDeep, .data, .pinned], laidTests := true, laidLooks := .later }
def HistJoinsCardSaid : Prop := Claim7.holds Tryd.pinned (.plain (OpenSpec.ofChange histJoinsSpec)) histJoinsCard

/-- THE TIED CARD OF 'incognitolaw11.HistOne'. -/
def histOneCard : Claim7 := { stood := { row := histOneRow, standIns := [], harness := (true, "a31718db7ad84fcfa8dcd17e446e75598859848c6417f6a8f0aefa5f9d983264"), looks := true }, kinds := [], alts := [], laidByText := true, laidKinds := [.data, .data, .data, .data, .data, .data, .widerDeep, .widerDeep, .data, .pinned], laidTests := true, laidLooks := .later }
def HistOneCardSaid : Prop := Claim7.holds Tryd.pinned (.plain (OpenSpec.ofChange histOneSpec)) histOneCard

/-- THE SECOND FORM's CARD OF 'incognitolaw25.PolicyTurns'. -/
def policyTurnsUptoCard : Claim7 := { stood := { row := policyTurnsUptoRow, standIns := [], harness := (true, "a31718db7ad84fcfa8dcd17e446e75598859848c6417f6a8f0aefa5f9d983264"), looks := true }, kinds := [], alts := [], laidByText := true, laidKinds := [.data, .data, .data, .pinned], laidTests := true, laidLooks := .later }
def PolicyTurnsUptoCardSaid : Prop := Claim7.holds Tryd.pinned (.plain (OpenSpec.upto policyTurnsSpec)) policyTurnsUptoCard

/-- THE SECOND FORM's CARD OF 'incognitolaw25.PolicyKeeps'. -/
def policyKeepsUptoCard : Claim7 := { stood := { row := policyKeepsUptoRow, standIns := [], harness := (true, "a31718db7ad84fcfa8dcd17e446e75598859848c6417f6a8f0aefa5f9d983264"), looks := true }, kinds := [], alts := [], laidByText := true, laidKinds := [.data, .data, .data, .pinned], laidTests := true, laidLooks := .later }
def PolicyKeepsUptoCardSaid : Prop := Claim7.holds Tryd.pinned (.plain (OpenSpec.upto policyKeepsSpec)) policyKeepsUptoCard

/-- THE SECOND FORM's CARD OF 'incognitolaw25.PolicyParses'. -/
def policyParsesUptoCard : Claim7 := { stood := { row := policyParsesUptoRow, standIns := [], harness := (true, "a31718db7ad84fcfa8dcd17e446e75598859848c6417f6a8f0aefa5f9d983264"), looks := true }, kinds := [], alts := [], laidByText := true, laidKinds := [.data, .data, .data, .pinned], laidTests := true, laidLooks := .later }
def PolicyParsesUptoCardSaid : Prop := Claim7.holds Tryd.pinned (.plain (OpenSpec.upto policyParsesSpec)) policyParsesUptoCard

/-- THE SECOND FORM's CARD OF 'incognitolaw25.PolicyPrints'. -/
def policyPrintsUptoCard : Claim7 := { stood := { row := policyPrintsUptoRow, standIns := [], harness := (true, "a31718db7ad84fcfa8dcd17e446e75598859848c6417f6a8f0aefa5f9d983264"), looks := true }, kinds := [], alts := [], laidByText := true, laidKinds := [.data, .data, .data, .data, .data, .data, .pinned], laidTests := true, laidLooks := .later }
def PolicyPrintsUptoCardSaid : Prop := Claim7.holds Tryd.pinned (.plain (OpenSpec.upto policyPrintsSpec)) policyPrintsUptoCard

/-- THE SECOND FORM's CARD OF 'incognitolaw10.EventParses'. -/
def eventParsesUptoCard : Claim7 := { stood := { row := eventParsesUptoRow, standIns := [], harness := (true, "a31718db7ad84fcfa8dcd17e446e75598859848c6417f6a8f0aefa5f9d983264"), looks := true }, kinds := [], alts := [], laidByText := true, laidKinds := [.data, .data, .data, .widerDeep, .widerDeep, .data, .pinned], laidTests := true, laidLooks := .later }
def EventParsesUptoCardSaid : Prop := Claim7.holds Tryd.pinned (.plain (OpenSpec.upto eventParsesSpec)) eventParsesUptoCard

/-- THE SECOND FORM's CARD OF 'incognitolaw10.EventNotes'. -/
def eventNotesUptoCard : Claim7 := { stood := { row := eventNotesUptoRow, standIns := [], harness := (true, "a31718db7ad84fcfa8dcd17e446e75598859848c6417f6a8f0aefa5f9d983264"), looks := true }, kinds := [], alts := [], laidByText := true, laidKinds := [.data, .data, .data, .widerDeep, .widerDeep, .data, .pinned], laidTests := true, laidLooks := .later }
def EventNotesUptoCardSaid : Prop := Claim7.holds Tryd.pinned (.plain (OpenSpec.upto eventNotesSpec)) eventNotesUptoCard

/-- THE SECOND FORM's CARD OF 'incognitolaw10.EventBack'. -/
def eventBackUptoCard : Claim7 := { stood := { row := eventBackUptoRow, standIns := [], harness := (true, "a31718db7ad84fcfa8dcd17e446e75598859848c6417f6a8f0aefa5f9d983264"), looks := true }, kinds := [], alts := [], laidByText := true, laidKinds := [.data, .data, .data, .data, .data, .data, .widerDeep, .widerDeep, .data, .pinned], laidTests := true, laidLooks := .later }
def EventBackUptoCardSaid : Prop := Claim7.holds Tryd.pinned (.plain (OpenSpec.upto eventBackSpec)) eventBackUptoCard

/-- THE SECOND FORM's CARD OF 'incognitolaw10.EventOne'. -/
def eventOneUptoCard : Claim7 := { stood := { row := eventOneUptoRow, standIns := [], harness := (true, "a31718db7ad84fcfa8dcd17e446e75598859848c6417f6a8f0aefa5f9d983264"), looks := true }, kinds := [], alts := [], laidByText := true, laidKinds := [.data, .data, .data, .data, .data, .data, .widerDeep, .widerDeep, .data, .pinned], laidTests := true, laidLooks := .later }
def EventOneUptoCardSaid : Prop := Claim7.holds Tryd.pinned (.plain (OpenSpec.upto eventOneSpec)) eventOneUptoCard

/-- THE SECOND FORM's CARD OF 'incognitolaw11.HistParses'. -/
def histParsesUptoCard : Claim7 := { stood := { row := histParsesUptoRow, standIns := [], harness := (true, "a31718db7ad84fcfa8dcd17e446e75598859848c6417f6a8f0aefa5f9d983264"), looks := true }, kinds := [], alts := [], laidByText := true, laidKinds := [.data, .data, .data, .widerDeep, .widerDeep, .data, .pinned], laidTests := true, laidLooks := .later }
def HistParsesUptoCardSaid : Prop := Claim7.holds Tryd.pinned (.plain (OpenSpec.upto histParsesSpec)) histParsesUptoCard

/-- THE SECOND FORM's CARD OF 'incognitolaw11.HistJoins'. -/
def histJoinsUptoCard : Claim7 := { stood := { row := histJoinsUptoRow, standIns := [], harness := (true, "a31718db7ad84fcfa8dcd17e446e75598859848c6417f6a8f0aefa5f9d983264"), looks := true }, kinds := [], alts := [], laidByText := true, laidKinds := [.data, .data, .data, .widerDeep, .widerDeep, .data, .pinned], laidTests := true, laidLooks := .later }
def HistJoinsUptoCardSaid : Prop := Claim7.holds Tryd.pinned (.plain (OpenSpec.upto histJoinsSpec)) histJoinsUptoCard

/-- THE SECOND FORM's CARD OF 'incognitolaw11.HistOne'. -/
def histOneUptoCard : Claim7 := { stood := { row := histOneUptoRow, standIns := [], harness := (true, "a31718db7ad84fcfa8dcd17e446e75598859848c6417f6a8f0aefa5f9d983264"), looks := true }, kinds := [], alts := [], laidByText := true, laidKinds := [.data, .data, .data, .data, .data, .data, .widerDeep, .widerDeep, .data, .pinned], laidTests := true, laidLooks := .later }
def HistOneUptoCardSaid : Prop := Claim7.holds Tryd.pinned (.plain (OpenSpec.upto histOneSpec)) histOneUptoCard
end Rows
end Go.Proofs.YtiinipcmghhacaaDoor
