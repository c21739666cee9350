/- The order of values: plain laws. -/
import Derived.Test.YtnfadpkhjfillaaDoorX16
import Derived.Lib.Bytealg
set_option linter.unusedVariables false
set_option linter.unusedSimpArgs false
namespace Go.Proofs.YtnfadpkhjfillaaDoor.X
open Go
/-! ## The order of values -/
end Go.Proofs.YtnfadpkhjfillaaDoor.X
