/- Nothing more. -/
import Derived.Test.YtiinipcmghhacaaGreatDoorZF2
set_option linter.unusedVariables false
set_option linter.unusedSimpArgs false
namespace Go.Proofs.YtiinipcmghhacaaGreatDoor.T10
open Go Go.Proofs.YtiinipcmghhacaaGreatDoor.X

end Go.Proofs.YtiinipcmghhacaaGreatDoor.T10
