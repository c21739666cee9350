/- Numbers printed and read again: plain laws. -/
import Derived.Test.YtngoaapgdfohjaaGreatDoorN3
set_option linter.unusedVariables false
set_option linter.unusedSimpArgs false
namespace Go.Proofs.YtngoaapgdfohjaaGreatDoor.X
open Go
/-! ## Numbers printed, and read again -/
end Go.Proofs.YtngoaapgdfohjaaGreatDoor.X
