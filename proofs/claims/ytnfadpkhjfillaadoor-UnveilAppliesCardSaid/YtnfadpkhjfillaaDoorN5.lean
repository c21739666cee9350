/- A text parted at a byte: plain laws. -/
import Derived.Test.YtnfadpkhjfillaaDoorX16
import Derived.Lib.Split
import Derived.Lib.CountLaws
import Derived.Lib.CutLaws
import Derived.Lib.IndexBytes
set_option linter.unusedVariables false
set_option linter.unusedSimpArgs false
namespace Go.Proofs.YtnfadpkhjfillaaDoor.X
open Go
/-! ## A text parted at a byte -/
end Go.Proofs.YtnfadpkhjfillaaDoor.X
