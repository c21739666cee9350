/-
  DERIVED. GIVEN WITH THE SEED: THE CARDS: each row of YtjmffmfcddnjbaaDoorRows.lean that lists a variable, with what it lists TIED to the program's text (the seventh form; the later family's looks); each row that meets fmt, with fmt's text TOLD by the authors' own Lean function (tested against real Go, not proved from fmt's source: count such statements apart). THE CARD IS WHAT COUNTS. Prove the row's statement (the work); the ties are given (YtjmffmfcddnjbaaDoorTie.lean); close each card by the builder's one call (the guide's Derived/Test/ToyasCard.lean, 'card_holds'). Laid BY PROGRAM, IN A SANDBOX (cutbox-door.mjs). By AI agents, Wed Nov 11 2026. No macro, syntax, notation, axiom, sorry.
-/
import Derived.Test.YtjmffmfcddnjbaaDoorRows
import GoSem.ClaimSeven
namespace Go.Proofs.YtjmffmfcddnjbaaDoor
namespace Rows

/-- THE TIED CARD OF 'incognitolaw07.ValueWords'. -/
def valueWordsCard : Claim7 := { stood := { row := valueWordsRow, standIns := [], harness := (true, "39cd94de9b2a3fae57b0cfe8890e29be3f78a6276a03669c756bf4ed9d06dd46"), looks := true }, kinds := [], alts := [], laidByText := true, laidKinds := [.data, .data], laidTests := true, laidLooks := .later }
def ValueWordsCardSaid : Prop := Claim7.holds Tryd.pinned (.plain (OpenSpec.ofChange valueWordsSpec)) valueWordsCard

/-- THE TIED CARD OF 'incognitolaw07.ValueOrder'. -/
def valueOrderCard : Claim7 := { stood := { row := valueOrderRow, standIns := [], harness := (true, "39cd94de9b2a3fae57b0cfe8890e29be3f78a6276a03669c756bf4ed9d06dd46"), looks := true }, kinds := [], alts := [], laidByText := true, laidKinds := [.data, .data], laidTests := true, laidLooks := .later }
def ValueOrderCardSaid : Prop := Claim7.holds Tryd.pinned (.plain (OpenSpec.ofChange valueOrderSpec)) valueOrderCard

/-- THE TIED CARD OF 'incognitolaw07.ValuePrints'. -/
def valuePrintsCard : Claim7 := { stood := { row := valuePrintsRow, standIns := [], harness := (true, "39cd94de9b2a3fae57b0cfe8890e29be3f78a6276a03669c756bf4ed9d06dd46"), looks := true }, kinds := [], alts := [], laidByText := true, laidKinds := [.data, .data, .data, .data, .data], laidTests := true, laidLooks := .later }
def ValuePrintsCardSaid : Prop := Claim7.holds Tryd.pinned (.plain (OpenSpec.ofChange valuePrintsSpec)) valuePrintsCard

/-- THE TIED CARD OF 'incognitolaw07.ValueParses'. -/
def valueParsesCard : Claim7 := { stood := { row := valueParsesRow, standIns := [], harness := (true, "39cd94de9b2a3fae57b0cfe8890e29be3f78a6276a03669c756bf4ed9d06dd46"), looks := true }, kinds := [], alts := [], laidByText := true, laidKinds := [.data, .data, .data, .data, .data], laidTests := true, laidLooks := .later }
def ValueParsesCardSaid : Prop := Claim7.holds Tryd.pinned (.plain (OpenSpec.ofChange valueParsesSpec)) valueParsesCard

/-- THE TIED CARD OF 'incognitolaw07.ValueSorts'. -/
def valueSortsCard : Claim7 := { stood := { row := valueSortsRow, standIns := [], harness := (true, "39cd94de9b2a3fae57b0cfe8890e29be3f78a6276a03669c756bf4ed9d06dd46"), looks := true }, kinds := [], alts := [], laidByText := true, laidKinds := [.data, .data], laidTests := true, laidLooks := .later }
def ValueSortsCardSaid : Prop := Claim7.holds Tryd.pinned (.plain (OpenSpec.ofChange valueSortsSpec)) valueSortsCard

/-- THE TIED CARD OF 'incognitolaw08.LineWords'. -/
def lineWordsCard : Claim7 := { stood := { row := lineWordsRow, standIns := [], harness := (true, "39cd94de9b2a3fae57b0cfe8890e29be3f78a6276a03669c756bf4ed9d06dd46"), looks := true }, kinds := [], alts := [], laidByText := true, laidKinds := [.data, .pinned], laidTests := true, laidLooks := .later }
def LineWordsCardSaid : Prop := Claim7.holds Tryd.pinned (.plain (OpenSpec.ofChange lineWordsSpec)) lineWordsCard

/-- THE TIED CARD OF 'incognitolaw08.LineJoins'. -/
def lineJoinsCard : Claim7 := { stood := { row := lineJoinsRow, standIns := [], harness := (true, "39cd94de9b2a3fae57b0cfe8890e29be3f78a6276a03669c756bf4ed9d06dd46"), looks := true }, kinds := [], alts := [], laidByText := true, laidKinds := [.data, .pinned], laidTests := true, laidLooks := .later }
def LineJoinsCardSaid : Prop := Claim7.holds Tryd.pinned (.plain (OpenSpec.ofChange lineJoinsSpec)) lineJoinsCard

/-- THE SECOND FORM's CARD OF 'incognitolaw07.ValueWords'. -/
def valueWordsUptoCard : Claim7 := { stood := { row := valueWordsUptoRow, standIns := [], harness := (true, "39cd94de9b2a3fae57b0cfe8890e29be3f78a6276a03669c756bf4ed9d06dd46"), looks := true }, kinds := [], alts := [], laidByText := true, laidKinds := [.data, .data], laidTests := true, laidLooks := .later }
def ValueWordsUptoCardSaid : Prop := Claim7.holds Tryd.pinned (.plain (OpenSpec.upto valueWordsSpec)) valueWordsUptoCard

/-- THE SECOND FORM's CARD OF 'incognitolaw07.ValueOrder'. -/
def valueOrderUptoCard : Claim7 := { stood := { row := valueOrderUptoRow, standIns := [], harness := (true, "39cd94de9b2a3fae57b0cfe8890e29be3f78a6276a03669c756bf4ed9d06dd46"), looks := true }, kinds := [], alts := [], laidByText := true, laidKinds := [.data, .data], laidTests := true, laidLooks := .later }
def ValueOrderUptoCardSaid : Prop := Claim7.holds Tryd.pinned (.plain (OpenSpec.upto valueOrderSpec)) valueOrderUptoCard

/-- THE SECOND FORM's CARD OF 'incognitolaw07.ValuePrints'. -/
def valuePrintsUptoCard : Claim7 := { stood := { row := valuePrintsUptoRow, standIns := [], harness := (true, "39cd94de9b2a3fae57b0cfe8890e29be3f78a6276a03669c756bf4ed9d06dd46"), looks := true }, kinds := [], alts := [], laidByText := true, laidKinds := [.data, .data, .data, .data, .data], laidTests := true, laidLooks := .later }
def ValuePrintsUptoCardSaid : Prop := Claim7.holds Tryd.pinned (.plain (OpenSpec.upto valuePrintsSpec)) valuePrintsUptoCard

/-- THE SECOND FORM's CARD OF 'incognitolaw07.ValueParses'. -/
def valueParsesUptoCard : Claim7 := { stood := { row := valueParsesUptoRow, standIns := [], harness := (true, "39cd94de9b2a3fae57b0cfe8890e29be3f78a6276a03669c756bf4ed9d06dd46"), looks := true }, kinds := [], alts := [], laidByText := true, laidKinds := [.data, .data, .data, .data, .data], laidTests := true, laidLooks := .later }
def ValueParsesUptoCardSaid : Prop := Claim7.holds Tryd.pinned (.plain (OpenSpec.upto valueParsesSpec)) valueParsesUptoCard

/-- THE SECOND FORM's CARD OF 'incognitolaw07.ValueSorts'. -/
def valueSortsUptoCard : Claim7 := { stood := { row := valueSortsUptoRow, standIns := [], harness := (true, "39cd94de9b2a3fae57b0cfe8890e29be3f78a6276a03669c756bf4ed9d06dd46"), looks := true }, kinds := [], alts := [], laidByText := true, laidKinds := [.data, .data], laidTests := true, laidLooks := .later }
def ValueSortsUptoCardSaid : Prop := Claim7.holds Tryd.pinned (.plain (OpenSpec.upto valueSortsSpec)) valueSortsUptoCard

/-- THE SECOND FORM's CARD OF 'incognitolaw08.LineWords'. -/
def lineWordsUptoCard : Claim7 := { stood := { row := lineWordsUptoRow, standIns := [], harness := (true, "39cd94de9b2a3fae57b0cfe8890e29be3f78a6276a03669c756bf4ed9d06dd46"), looks := true }, kinds := [], alts := [], laidByText := true, laidKinds := [.data, .pinned], laidTests := true, laidLooks := .later }
def LineWordsUptoCardSaid : Prop := Claim7.holds Tryd.pinned (.plain (OpenSpec.upto lineWordsSpec)) lineWordsUptoCard

/-- THE SECOND FORM's CARD OF 'incognitolaw08.LineJoins'. -/
def lineJoinsUptoCard : Claim7 := { stood := { row := lineJoinsUptoRow, standIns := [], harness := (true, "39cd94de9b2a3fae57b0cfe8890e29be3f78a6276a03669c756bf4ed9d06dd46"), looks := true }, kinds := [], alts := [], laidByText := true, laidKinds := [.data, .pinned], laidTests := true, laidLooks := .later }
def LineJoinsUptoCardSaid : Prop := Claim7.holds Tryd.pinned (.plain (OpenSpec.upto lineJoinsSpec)) lineJoinsUptoCard
end Rows
end Go.Proofs.YtjmffmfcddnjbaaDoor
