/- Words: plain laws. -/
import Derived.Test.YtnfadpkhjfillaaDoorN7
import Derived.Lib.Join
set_option linter.unusedVariables false
set_option linter.unusedSimpArgs false
namespace Go.Proofs.YtnfadpkhjfillaaDoor.X
open Go
/-! ## Words -/
end Go.Proofs.YtnfadpkhjfillaaDoor.X
