/-
  DERIVED. GIVEN WITH THE SEED: THE CARDS: each row of YtdhldmmabhaknaaDoorRows.lean that lists a variable, with what it lists TIED to the program's text (the seventh form; the later family's looks); each row that meets fmt, with fmt's text TOLD by the authors' own Lean function (tested against real Go, not proved from fmt's source: count such statements apart). THE CARD IS WHAT COUNTS. Prove the row's statement (the work); the ties are given (YtdhldmmabhaknaaDoorTie.lean); close each card by the builder's one call (the guide's Derived/Test/ToyasCard.lean, 'card_holds'). Laid BY PROGRAM, IN A SANDBOX (cutbox-door.mjs). By AI agents, Wed Nov 11 2026. No macro, syntax, notation, axiom, sorry.
-/
import Derived.Test.YtdhldmmabhaknaaDoorRows
import GoSem.ClaimSeven
namespace Go.Proofs.YtdhldmmabhaknaaDoor
namespace Rows

/-- THE TIED CARD OF 'incognitolaw06.NumPrints'. -/
def numPrintsCard : Claim7 := { stood := { row := numPrintsRow, standIns := [], harness := (true, "a552e37f5e850bd7041e177f55e711e6ce9262e52543cf4f80daaf35884813f2"), looks := true }, kinds := [], alts := [], laidByText := true, laidKinds := [.data, .data, .data], laidTests := true, laidLooks := .later }
def NumPrintsCardSaid : Prop := Claim7.holds Tryd.pinned (.plain (OpenSpec.ofChange numPrintsSpec)) numPrintsCard

/-- THE TIED CARD OF 'incognitolaw06.NumParses'. -/
def numParsesCard : Claim7 := { stood := { row := numParsesRow, standIns := [], harness := (true, "a552e37f5e850bd7041e177f55e711e6ce9262e52543cf4f80daaf35884813f2"), looks := true }, kinds := [], alts := [], laidByText := true, laidKinds := [.data, .data, .data], laidTests := true, laidLooks := .later }
def NumParsesCardSaid : Prop := Claim7.holds Tryd.pinned (.plain (OpenSpec.ofChange numParsesSpec)) numParsesCard

/-- THE TIED CARD OF 'incognitolaw06.NumApart'. -/
def numApartCard : Claim7 := { stood := { row := numApartRow, standIns := [], harness := (true, "a552e37f5e850bd7041e177f55e711e6ce9262e52543cf4f80daaf35884813f2"), looks := true }, kinds := [], alts := [], laidByText := true, laidKinds := [.data, .data, .data], laidTests := true, laidLooks := .later }
def NumApartCardSaid : Prop := Claim7.holds Tryd.pinned (.plain (OpenSpec.ofChange numApartSpec)) numApartCard

/-- THE SECOND FORM's CARD OF 'incognitolaw06.NumPrints'. -/
def numPrintsUptoCard : Claim7 := { stood := { row := numPrintsUptoRow, standIns := [], harness := (true, "a552e37f5e850bd7041e177f55e711e6ce9262e52543cf4f80daaf35884813f2"), looks := true }, kinds := [], alts := [], laidByText := true, laidKinds := [.data, .data, .data], laidTests := true, laidLooks := .later }
def NumPrintsUptoCardSaid : Prop := Claim7.holds Tryd.pinned (.plain (OpenSpec.upto numPrintsSpec)) numPrintsUptoCard

/-- THE SECOND FORM's CARD OF 'incognitolaw06.NumParses'. -/
def numParsesUptoCard : Claim7 := { stood := { row := numParsesUptoRow, standIns := [], harness := (true, "a552e37f5e850bd7041e177f55e711e6ce9262e52543cf4f80daaf35884813f2"), looks := true }, kinds := [], alts := [], laidByText := true, laidKinds := [.data, .data, .data], laidTests := true, laidLooks := .later }
def NumParsesUptoCardSaid : Prop := Claim7.holds Tryd.pinned (.plain (OpenSpec.upto numParsesSpec)) numParsesUptoCard

/-- THE SECOND FORM's CARD OF 'incognitolaw06.NumApart'. -/
def numApartUptoCard : Claim7 := { stood := { row := numApartUptoRow, standIns := [], harness := (true, "a552e37f5e850bd7041e177f55e711e6ce9262e52543cf4f80daaf35884813f2"), looks := true }, kinds := [], alts := [], laidByText := true, laidKinds := [.data, .data, .data], laidTests := true, laidLooks := .later }
def NumApartUptoCardSaid : Prop := Claim7.holds Tryd.pinned (.plain (OpenSpec.upto numApartSpec)) numApartUptoCard
end Rows
end Go.Proofs.YtdhldmmabhaknaaDoor
