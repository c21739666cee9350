/- Numbers printed and read again: plain laws. -/
import Derived.Test.YtnfadpkhjfillaaDoorN3
set_option linter.unusedVariables false
set_option linter.unusedSimpArgs false
namespace Go.Proofs.YtnfadpkhjfillaaDoor.X
open Go
/-! ## Numbers printed, and read again -/
end Go.Proofs.YtnfadpkhjfillaaDoor.X
