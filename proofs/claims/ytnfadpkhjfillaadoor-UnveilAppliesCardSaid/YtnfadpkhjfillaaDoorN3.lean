/- Numbers printed: plain laws. -/
import Derived.Test.YtnfadpkhjfillaaDoorN1
import Derived.Lib.ItoaLen
import Derived.Lib.ItoaMem
set_option linter.unusedVariables false
set_option linter.unusedSimpArgs false
namespace Go.Proofs.YtnfadpkhjfillaaDoor.X
open Go
/-! ## Numbers printed -/
end Go.Proofs.YtnfadpkhjfillaaDoor.X
