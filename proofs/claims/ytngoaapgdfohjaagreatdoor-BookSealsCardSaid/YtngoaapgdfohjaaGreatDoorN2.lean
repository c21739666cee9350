/- The order of values: plain laws. -/
import Derived.Test.YtngoaapgdfohjaaGreatDoorX16
import Derived.Lib.Bytealg
set_option linter.unusedVariables false
set_option linter.unusedSimpArgs false
namespace Go.Proofs.YtngoaapgdfohjaaGreatDoor.X
open Go
/-! ## The order of values -/
end Go.Proofs.YtngoaapgdfohjaaGreatDoor.X
