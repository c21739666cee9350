/-
  DERIVED. GIVEN WITH THE SEED: THE CARDS: each row of YtnfadpkhjfillaaDoorRows.lean that lists a variable, with what it lists TIED to the program's text (the seventh form; the later family's looks); each row that meets fmt, with fmt's text TOLD by the authors' own Lean function (tested against real Go, not proved from fmt's source: count such statements apart). THE CARD IS WHAT COUNTS. Prove the row's statement (the work); the ties are given (YtnfadpkhjfillaaDoorTie.lean); close each card by the builder's one call (the guide's Derived/Test/ToyasCard.lean, 'card_holds'). Laid BY PROGRAM, IN A SANDBOX (cutbox-door.mjs). By AI agents, Wed Nov 11 2026. No macro, syntax, notation, axiom, sorry.
-/
import Derived.Test.YtnfadpkhjfillaaDoorRows
import GoSem.ClaimSeven
namespace Go.Proofs.YtnfadpkhjfillaaDoor
namespace Rows

/-- THE TIED CARD OF 'incognitolaw30.UnveilApplies'. -/
def unveilAppliesCard : Claim7 := { stood := { row := unveilAppliesRow, standIns := [], harness := (true, "37d64b6c370696da1417e31e058e83f19ccfcc70369eda566f299f7f952b4bbe"), looks := false }, kinds := [], alts := [], laidByText := true, laidKinds := [.data, .data], laidTests := true, laidLooks := .later }
def UnveilAppliesCardSaid : Prop := Claim7.holds Tryd.pinned (.plain (OpenSpec.ofChange unveilAppliesSpec)) unveilAppliesCard

/-- THE SECOND FORM's CARD OF 'incognitolaw30.UnveilApplies'. -/
def unveilAppliesUptoCard : Claim7 := { stood := { row := unveilAppliesUptoRow, standIns := [], harness := (true, "37d64b6c370696da1417e31e058e83f19ccfcc70369eda566f299f7f952b4bbe"), looks := false }, kinds := [], alts := [], laidByText := true, laidKinds := [.data, .data], laidTests := true, laidLooks := .later }
def UnveilAppliesUptoCardSaid : Prop := Claim7.holds Tryd.pinned (.plain (OpenSpec.upto unveilAppliesSpec)) unveilAppliesUptoCard
end Rows
end Go.Proofs.YtnfadpkhjfillaaDoor
