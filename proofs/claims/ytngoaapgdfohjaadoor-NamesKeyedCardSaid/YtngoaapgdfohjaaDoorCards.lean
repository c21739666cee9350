/-
  DERIVED. GIVEN WITH THE SEED: THE CARDS: each row of YtngoaapgdfohjaaDoorRows.lean that lists a variable, with what it lists TIED to the program's text (the seventh form; the later family's looks); each row that meets fmt, with fmt's text TOLD by the authors' own Lean function (tested against real Go, not proved from fmt's source: count such statements apart). THE CARD IS WHAT COUNTS. Prove the row's statement (the work); the ties are given (YtngoaapgdfohjaaDoorTie.lean); close each card by the builder's one call (the guide's Derived/Test/ToyasCard.lean, 'card_holds'). Laid BY PROGRAM, IN A SANDBOX (cutbox-door.mjs). By AI agents, Wed Nov 11 2026. No macro, syntax, notation, axiom, sorry.
-/
import Derived.Test.YtngoaapgdfohjaaDoorRows
import GoSem.ClaimSeven
namespace Go.Proofs.YtngoaapgdfohjaaDoor
namespace Rows

/-- THE TIED CARD OF 'incognitolaw27.NamesRanks'. -/
def namesRanksCard : Claim7 := { stood := { row := namesRanksRow, standIns := [], harness := (true, "d1615b39714796c9b51636d7e35919877749a77c3e34fa27e867d51fac3bd685"), looks := false }, kinds := [], alts := [], laidByText := true, laidKinds := [.data, .data, .data, .data, .data, .data], laidTests := true, laidLooks := .later }
def NamesRanksCardSaid : Prop := Claim7.holds Tryd.pinned (.plain (OpenSpec.ofChange namesRanksSpec)) namesRanksCard

/-- THE TIED CARD OF 'incognitolaw27.NamesKeyed'. -/
def namesKeyedCard : Claim7 := { stood := { row := namesKeyedRow, standIns := [], harness := (true, "d1615b39714796c9b51636d7e35919877749a77c3e34fa27e867d51fac3bd685"), looks := false }, kinds := [], alts := [], laidByText := true, laidKinds := [.data, .data, .data, .data, .data, .data], laidTests := true, laidLooks := .later }
def NamesKeyedCardSaid : Prop := Claim7.holds Tryd.pinned (.plain (OpenSpec.ofChange namesKeyedSpec)) namesKeyedCard

/-- THE SECOND FORM's CARD OF 'incognitolaw27.NamesRanks'. -/
def namesRanksUptoCard : Claim7 := { stood := { row := namesRanksUptoRow, standIns := [], harness := (true, "d1615b39714796c9b51636d7e35919877749a77c3e34fa27e867d51fac3bd685"), looks := false }, kinds := [], alts := [], laidByText := true, laidKinds := [.data, .data, .data, .data, .data, .data], laidTests := true, laidLooks := .later }
def NamesRanksUptoCardSaid : Prop := Claim7.holds Tryd.pinned (.plain (OpenSpec.upto namesRanksSpec)) namesRanksUptoCard

/-- THE SECOND FORM's CARD OF 'incognitolaw27.NamesKeyed'. -/
def namesKeyedUptoCard : Claim7 := { stood := { row := namesKeyedUptoRow, standIns := [], harness := (true, "d1615b39714796c9b51636d7e35919877749a77c3e34fa27e867d51fac3bd685"), looks := false }, kinds := [], alts := [], laidByText := true, laidKinds := [.data, .data, .data, .data, .data, .data], laidTests := true, laidLooks := .later }
def NamesKeyedUptoCardSaid : Prop := Claim7.holds Tryd.pinned (.plain (OpenSpec.upto namesKeyedSpec)) namesKeyedUptoCard
end Rows
end Go.Proofs.YtngoaapgdfohjaaDoor
