/-
  DERIVED. GIVEN WITH THE SEED: THE CARDS: each row of YtiinipcmghhacaaGreatDoorRows.lean that lists a variable, with what it lists TIED to the program's text (the seventh form; the later family's looks); each row that meets fmt, with fmt's text TOLD by the authors' own Lean function (tested against real Go, not proved from fmt's source: count such statements apart). THE CARD IS WHAT COUNTS. Prove the row's statement (the work); the ties are given (YtiinipcmghhacaaGreatDoorTie.lean); close each card by the builder's one call (the guide's Derived/Test/ToyasCard.lean, 'card_holds'). Laid BY PROGRAM, IN A SANDBOX (cutbox-door.mjs). By AI agents, Wed Nov 11 2026. No macro, syntax, notation, axiom, sorry.
-/
import Derived.Test.YtiinipcmghhacaaGreatDoorRows
import GoSem.ClaimSeven
namespace Go.Proofs.YtiinipcmghhacaaGreatDoor
namespace Rows

/-- THE TIED CARD OF 'incognitolaw10.EventRight'. -/
def eventRightCard : Claim7 := { stood := { row := eventRightRow, standIns := [], harness := (true, "3435db824d347e729ca675c2f464d0997ee107d653f37e187aecf7683c6052dc"), looks := true }, kinds := [], alts := [], laidByText := true, laidKinds := [.data, .data, .data, .data, .data, .data, .widerDeep, .widerDeep, .data, .pinned], laidTests := true, laidLooks := .later }
def EventRightCardSaid : Prop := Claim7.holds Tryz.pinned (.plain (OpenSpec.ofChange eventRightSpec)) eventRightCard

/-- THE TIED CARD OF 'incognitolaw11.HistBack'. -/
def histBackCard : Claim7 := { stood := { row := histBackRow, standIns := [], harness := (true, "3435db824d347e729ca675c2f464d0997ee107d653f37e187aecf7683c6052dc"), looks := true }, kinds := [], alts := [], laidByText := true, laidKinds := [.data, .data, .data, .data, .data, .data, .widerDeep, .widerDeep, .data, .pinned], laidTests := true, laidLooks := .later }
def HistBackCardSaid : Prop := Claim7.holds Tryz.pinned (.plain (OpenSpec.ofChange histBackSpec)) histBackCard

/-- THE SECOND FORM's CARD OF 'incognitolaw10.EventRight'. -/
def eventRightUptoCard : Claim7 := { stood := { row := eventRightUptoRow, standIns := [], harness := (true, "3435db824d347e729ca675c2f464d0997ee107d653f37e187aecf7683c6052dc"), looks := true }, kinds := [], alts := [], laidByText := true, laidKinds := [.data, .data, .data, .data, .data, .data, .widerDeep, .widerDeep, .data, .pinned], laidTests := true, laidLooks := .later }
def EventRightUptoCardSaid : Prop := Claim7.holds Tryz.pinned (.plain (OpenSpec.upto eventRightSpec)) eventRightUptoCard

/-- THE SECOND FORM's CARD OF 'incognitolaw11.HistBack'. -/
def histBackUptoCard : Claim7 := { stood := { row := histBackUptoRow, standIns := [], harness := (true, "3435db824d347e729ca675c2f464d0997ee107d653f37e187aecf7683c6052dc"), looks := true }, kinds := [], alts := [], laidByText := true, laidKinds := [.data, .data, .data, .data, .data, .data, .widerDeep, .widerDeep, .data, .pinned], laidTests := true, laidLooks := .later }
def HistBackUptoCardSaid : Prop := Claim7.holds Tryz.pinned (.plain (OpenSpec.upto histBackSpec)) histBackUptoCard
end Rows
end Go.Proofs.YtiinipcmghhacaaGreatDoor
