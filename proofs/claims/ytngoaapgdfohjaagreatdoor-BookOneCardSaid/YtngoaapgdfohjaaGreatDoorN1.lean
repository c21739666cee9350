/- Numbers in decimal: plain laws. -/
import Derived.Test.YtngoaapgdfohjaaGreatDoorX16
set_option linter.unusedVariables false
set_option linter.unusedSimpArgs false
namespace Go.Proofs.YtngoaapgdfohjaaGreatDoor.X
open Go
/-! ## Numbers in decimal -/
def digB (b : UInt8) : Bool := decide (48 ≤ b.toNat) && decide (b.toNat ≤ 57)
def dv (s : Bs) : Nat := s.foldl (fun n b => n * 10 + (b.toNat - 48)) 0
def digitsB (s : Bs) : Bool := s.all digB && (decide (0 < s.length) && (decide (s.length = 1) || !decide (bt s 0 = 48)))
theorem bt_nat {s : Bs} {i : Nat} (h : i < s.length) : bt s (i : Int) = ((s[i].toNat : Nat) : Int) := by
  simp [bt, List.getD_eq_getElem?_getD, List.getElem?_eq_getElem h]
theorem dv_snoc (s : Bs) (b : UInt8) : dv (s ++ [b]) = dv s * 10 + (b.toNat - 48) := by simp [dv]
theorem dv_take {s : Bs} {i : Nat} (h : i < s.length) : dv (s.take (i + 1)) = dv (s.take i) * 10 + (s[i].toNat - 48) := by
  rw [List.take_add_one, List.getElem?_eq_getElem h]
  exact dv_snoc _ _
theorem dv_from (s : Bs) (n : Nat) : s.foldl (fun n b => n * 10 + (b.toNat - 48)) n = n * 10 ^ s.length + dv s := by
  unfold dv
  induction s generalizing n with
  | nil => simp
  | cons b s ih =>
    simp only [List.foldl_cons, List.length_cons]
    rw [ih, ih (0 * 10 + _)]
    rw [Nat.pow_succ]
    generalize 10 ^ s.length = k
    generalize b.toNat - 48 = c
    rw [Nat.zero_mul, Nat.zero_add, Nat.add_mul, Nat.mul_comm k 10, ← Nat.mul_assoc]
    omega
theorem dv_append (s t : Bs) : dv (s ++ t) = dv s * 10 ^ t.length + dv t := by
  unfold dv
  rw [List.foldl_append]
  exact dv_from t _
theorem dv_mono (s : Bs) (i : Nat) : dv (s.take i) ≤ dv s := by
  have h := dv_append (s.take i) (s.drop i)
  rw [List.take_append_drop] at h
  rw [h]
  have : 1 ≤ 10 ^ (s.drop i).length := Nat.one_le_pow _ _ (by decide)
  have := Nat.mul_le_mul_left (dv (s.take i)) this
  omega
end Go.Proofs.YtngoaapgdfohjaaGreatDoor.X
