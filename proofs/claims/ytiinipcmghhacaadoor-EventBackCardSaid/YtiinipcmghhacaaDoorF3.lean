/- EventOne walked. -/
import Derived.Test.YtiinipcmghhacaaDoorF2
set_option linter.unusedVariables false
set_option linter.unusedSimpArgs false
namespace Go.Proofs.YtiinipcmghhacaaDoor.T10
open Go Go.Proofs.YtiinipcmghhacaaDoor.X
theorem T.g27 : goFn Tryd.prog 27 = true := by kernel_rfl
end Go.Proofs.YtiinipcmghhacaaDoor.T10
