/- The laws' own calls. -/
import Derived.Test.YtiinipcmghhacaaGreatDoorZD5
set_option linter.unusedVariables false
set_option linter.unusedSimpArgs false
namespace Go.Proofs.YtiinipcmghhacaaGreatDoor.T10
open Go Go.Proofs.YtiinipcmghhacaaGreatDoor.X
theorem T.g17 : goFn Tryz.prog 17 = true := by kernel_rfl
end Go.Proofs.YtiinipcmghhacaaGreatDoor.T10
