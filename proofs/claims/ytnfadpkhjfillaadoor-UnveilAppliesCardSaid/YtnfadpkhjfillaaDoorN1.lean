/- Numbers in decimal: plain laws. -/
import Derived.Test.YtnfadpkhjfillaaDoorX16
set_option linter.unusedVariables false
set_option linter.unusedSimpArgs false
namespace Go.Proofs.YtnfadpkhjfillaaDoor.X
open Go
/-! ## Numbers in decimal -/
def digB (b : UInt8) : Bool := decide (48 ≤ b.toNat) && decide (b.toNat ≤ 57)
def dv (s : Bs) : Nat := s.foldl (fun n b => n * 10 + (b.toNat - 48)) 0
def digitsB (s : Bs) : Bool := s.all digB && (decide (0 < s.length) && (decide (s.length = 1) || !decide (bt s 0 = 48)))
theorem bt_nat {s : Bs} {i : Nat} (h : i < s.length) : bt s (i : Int) = ((s[i].toNat : Nat) : Int) := by
  simp [bt, List.getD_eq_getElem?_getD, List.getElem?_eq_getElem h]
theorem bt_range (s : Bs) (i : Int) : 0 ≤ bt s i ∧ bt s i ≤ 255 := by
  unfold bt
  have := (s.getD i.toNat 0).toNat_lt
  omega
end Go.Proofs.YtnfadpkhjfillaaDoor.X
