/- Numbers printed: plain laws. -/
import Derived.Test.YtngoaapgdfohjaaGreatDoorN1
import Derived.Lib.ItoaLen
import Derived.Lib.ItoaMem
set_option linter.unusedVariables false
set_option linter.unusedSimpArgs false
namespace Go.Proofs.YtngoaapgdfohjaaGreatDoor.X
open Go
/-! ## Numbers printed -/
abbrev dd (n : Nat) : Bs := Lib.decDigits n
theorem dd_small {n : Nat} (h : n < 10) : dd n = [UInt8.ofNat (48 + n)] := by unfold dd; rw [Lib.decDigits, dif_pos h]
theorem dd_big {n : Nat} (h : ¬ n < 10) : dd n = dd (n / 10) ++ [UInt8.ofNat (48 + n % 10)] := by
  unfold dd
  conv => lhs; rw [Lib.decDigits]
  rw [dif_neg h]
theorem tdiv_abs (m : Int) : (m.tdiv 10).natAbs = m.natAbs / 10 := Int.natAbs_tdiv m 10
theorem tdiv_range {m : Int} (h : -9223372036854775808 ≤ m ∧ m ≤ 9223372036854775807) : -9223372036854775808 ≤ m.tdiv 10 ∧ m.tdiv 10 ≤ 9223372036854775807 := by
  have := tdiv_abs m
  omega
theorem tmod_abs (m : Int) : (m.tmod 10).natAbs = m.natAbs % 10 := Int.natAbs_tmod m 10
theorem dd_len {n : Int} (h : -9223372036854775808 ≤ n ∧ n ≤ 9223372036854775807) : (dd n.natAbs).length ≤ 21 := by
  have h1 := Lib.itoa_length_le n h.1 h.2
  unfold Lib.itoa at h1
  split at h1
  · simp only [List.length_cons] at h1; unfold dd; omega
  · rw [show n.natAbs = n.toNat by omega]; exact h1
/-- One round: a digit ahead of what is there. -/
theorem dd_step {m : Int} {s : Bs} (h : ¬ m.tdiv 10 = 0) : dd m.natAbs ++ s = dd (m.tdiv 10).natAbs ++ (([(48 : Int) + (m.tmod 10).natAbs].map fun (n : Int) => UInt8.ofNat n.toNat) ++ s) := by
  have h1 := tdiv_abs m
  have h2 := tmod_abs m
  rw [h1, h2]
  have h3 : ¬ m.natAbs < 10 := by
    intro h4
    apply h
    have : (m.tdiv 10).natAbs = 0 := by rw [h1]; omega
    omega
  rw [dd_big h3, List.append_assoc]
  congr 2
theorem dd_last {m : Int} {s : Bs} (h : m.tdiv 10 = 0) : dd m.natAbs ++ s = ([(48 : Int) + (m.tmod 10).natAbs].map fun (n : Int) => UInt8.ofNat n.toNat) ++ s := by
  have h1 := tdiv_abs m
  have h2 := tmod_abs m
  rw [h] at h1
  have h3 : m.natAbs < 10 := by simp at h1; omega
  rw [h2, Nat.mod_eq_of_lt h3, dd_small h3]
  congr 1
end Go.Proofs.YtngoaapgdfohjaaGreatDoor.X
