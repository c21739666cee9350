/- Numbers printed: plain laws. -/
import Derived.Test.YtngoaapgdfohjaaGreatDoorN1
import Derived.Lib.ItoaLen
import Derived.Lib.ItoaMem
set_option linter.unusedVariables false
set_option linter.unusedSimpArgs false
namespace Go.Proofs.YtngoaapgdfohjaaGreatDoor.X
open Go
/-! ## Numbers printed -/
abbrev dd (n : Nat) : Bs := Lib.decDigits n
end Go.Proofs.YtngoaapgdfohjaaGreatDoor.X
