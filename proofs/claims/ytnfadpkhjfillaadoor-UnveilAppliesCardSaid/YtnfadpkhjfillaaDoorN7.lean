/- A text line by line: plain laws. -/
import Derived.Test.YtnfadpkhjfillaaDoorN6
import Derived.Test.YtnfadpkhjfillaaDoorN1
import Derived.Lib.IndexMore
import Derived.Lib.IndexBytes
set_option linter.unusedVariables false
set_option linter.unusedSimpArgs false
namespace Go.Proofs.YtnfadpkhjfillaaDoor.X
open Go
/-! ## A text, line by line -/
theorem index_two (s : Bs) (c : UInt8) : Lib.indexByte s c = -1 ∨ ∃ i : Nat, Lib.indexByte s c = (i : Int) := by
  have := Lib.indexByte_ge s c
  by_cases h : Lib.indexByte s c = -1
  · exact .inl h
  · exact .inr ⟨(Lib.indexByte s c).toNat, by omega⟩
theorem bAt8 {c : UInt8} {s : Bs} {n : Nat} (hn : n < s.length) (h : bt s (n : Int) = (c.toNat : Int)) : s[n] = c := by
  rw [bt_nat hn] at h
  exact UInt8.toNat_inj.1 (by omega)
theorem bNo8 {c : UInt8} {s : Bs} {n : Nat} (hn : n < s.length) (h : ¬ bt s (n : Int) = (c.toNat : Int)) : ¬ s[n] = c := by
  rw [bt_nat hn] at h
  intro e
  exact h (by rw [e])
end Go.Proofs.YtnfadpkhjfillaaDoor.X
