/- Words: plain laws. -/
import Derived.Test.YtngoaapgdfohjaaGreatDoorN7
import Derived.Lib.Join
set_option linter.unusedVariables false
set_option linter.unusedSimpArgs false
namespace Go.Proofs.YtngoaapgdfohjaaGreatDoor.X
open Go
/-! ## Words -/
/-- A line's words; 2: one is empty. -/
def wordsS (s : Bs) : List Bs × Int := if [] ∈ splitS 32 s then ([], 2) else (splitS 32 s, 0)
theorem splitS_len (c : UInt8) (s : Bs) : (splitS c s).length ≤ s.length + 1 := by
  rw [pcs_lst, List.length_append, List.length_singleton]
  have := pcs_len' c s
  omega
theorem wordsS_len (s : Bs) : (wordsS s).1.length ≤ s.length + 1 := by
  unfold wordsS
  split
  · exact Nat.zero_le _
  · exact splitS_len 32 s
end Go.Proofs.YtngoaapgdfohjaaGreatDoor.X
