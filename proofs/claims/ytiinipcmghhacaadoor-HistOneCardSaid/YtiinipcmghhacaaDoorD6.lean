/- The laws of chapter 10 walked. -/
import Derived.Test.YtiinipcmghhacaaDoorD5
set_option linter.unusedVariables false
set_option linter.unusedSimpArgs false
namespace Go.Proofs.YtiinipcmghhacaaDoor.T10
open Go Go.Proofs.YtiinipcmghhacaaDoor.X
theorem T.g21 : goFn Tryd.prog 21 = true := by kernel_rfl
theorem T.g22 : goFn Tryd.prog 22 = true := by kernel_rfl
theorem T.g23 : goFn Tryd.prog 23 = true := by kernel_rfl
theorem T.g24 : goFn Tryd.prog 24 = true := by kernel_rfl
end Go.Proofs.YtiinipcmghhacaaDoor.T10
