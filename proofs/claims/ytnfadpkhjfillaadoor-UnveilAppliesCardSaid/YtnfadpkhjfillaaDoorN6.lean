/- Pieces and lines of a text: plain laws. -/
import Derived.Test.YtnfadpkhjfillaaDoorN5
set_option linter.unusedVariables false
set_option linter.unusedSimpArgs false
namespace Go.Proofs.YtnfadpkhjfillaaDoor.X
open Go
/-! ## The pieces of a text, read from its front -/
theorem take_snoc {s : Bs} {i : Nat} (h : i < s.length) : s.take (i + 1) = s.take i ++ [s[i]] := by
  rw [List.take_add_one, List.getElem?_eq_getElem h]; rfl
/-! ## Lines -/
end Go.Proofs.YtnfadpkhjfillaaDoor.X
