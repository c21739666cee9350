/- Numbers printed and read again: plain laws. -/
import Derived.Test.YtngoaapgdfohjaaGreatDoorN3
set_option linter.unusedVariables false
set_option linter.unusedSimpArgs false
namespace Go.Proofs.YtngoaapgdfohjaaGreatDoor.X
open Go
/-! ## Numbers printed, and read again -/
theorem digit_of {k : Nat} (h : k < 10) : (UInt8.ofNat (48 + k)).toNat = 48 + k := by
  rw [UInt8.toNat_ofNat']
  omega
theorem dd_dv (n : Nat) : dv (dd n) = n := by
  induction n using Nat.strongRecOn with
  | _ n ih =>
    by_cases h : n < 10
    · rw [dd_small h]
      show 0 * 10 + ((UInt8.ofNat (48 + n)).toNat - 48) = n
      rw [digit_of h]; omega
    · rw [dd_big h, dv_snoc, ih (n / 10) (by omega), digit_of (by omega)]
      omega
theorem dd_all (n : Nat) : (dd n).all digB = true := by
  induction n using Nat.strongRecOn with
  | _ n ih =>
    by_cases h : n < 10
    · rw [dd_small h]
      simp only [List.all_cons, List.all_nil, Bool.and_true, digB, digit_of h]
      simp; omega
    · rw [dd_big h, List.all_append, ih (n / 10) (by omega)]
      simp only [List.all_cons, List.all_nil, Bool.and_true, Bool.true_and, digB, digit_of (show n % 10 < 10 by omega)]
      simp; omega
theorem dd_ne (n : Nat) : dd n ≠ [] := by
  by_cases h : n < 10
  · rw [dd_small h]; simp
  · rw [dd_big h]; simp
theorem dd_pos (n : Nat) : 0 < (dd n).length := List.length_pos_iff.2 (dd_ne n)
theorem dd_head (n : Nat) (h0 : 0 < n) : bt (dd n) 0 ≠ 48 := by
  induction n using Nat.strongRecOn with
  | _ n ih =>
    by_cases h : n < 10
    · rw [dd_small h]
      show ((UInt8.ofNat (48 + n)).toNat : Int) ≠ 48
      rw [digit_of h]; omega
    · rw [dd_big h]
      have h1 := ih (n / 10) (by omega) (by omega)
      have h2 := dd_pos (n / 10)
      intro e
      apply h1
      rw [← e]
      simp only [bt, Int.toNat_zero, List.getD_eq_getElem?_getD, List.getElem?_append_left h2]
theorem dd_digits (n : Nat) : digitsB (dd n) = true := by
  unfold digitsB
  rw [dd_all, Bool.true_and]
  simp only [Bool.and_eq_true, Bool.or_eq_true, decide_eq_true_eq, Bool.not_eq_true', decide_eq_false_iff_not]
  refine ⟨dd_pos n, ?_⟩
  by_cases h : n < 10
  · left; rw [dd_small h]; rfl
  · exact .inr (dd_head n (by omega))
/-- Equal numbers have equal texts. -/
theorem dv_inj {a b : Bs} (ha : digitsB a = true) (hb : digitsB b = true) (h : dv a = dv b) : a = b := by
  have ha1 : a.all digB = true := by simp only [digitsB, Bool.and_eq_true] at ha; exact ha.1
  have hb1 : b.all digB = true := by simp only [digitsB, Bool.and_eq_true] at hb; exact hb.1
  have hl : a.length = b.length := by
    have h1 := least_iff ha hb
    have h2 := least_iff hb ha
    rw [h, decide_eq_true (Nat.le_refl _)] at h1
    rw [h, decide_eq_true (Nat.le_refl _)] at h2
    unfold leastB at h1 h2
    simp only [Bool.or_eq_true, Bool.and_eq_true, decide_eq_true_eq] at h1 h2
    omega
  have l1 := less_iff ha1 hb1 hl
  have l2 := less_iff hb1 ha1 hl.symm
  rw [h, decide_eq_false (Nat.lt_irrefl _)] at l1
  rw [h, decide_eq_false (Nat.lt_irrefl _)] at l2
  exact eq_of_less l1 l2 hl
theorem dd_of {s : Bs} (h : digitsB s = true) : dd (dv s) = s := dv_inj (dd_digits _) h (dd_dv _)
theorem itoa_nn {n : Int} (h : 0 ≤ n) : Lib.itoa n = dd n.toNat := by unfold Lib.itoa; rw [if_neg (by omega)]
theorem itoa_ng {n : Int} (h : n < 0) : Lib.itoa n = 45 :: dd n.natAbs := by unfold Lib.itoa; rw [if_pos h]
end Go.Proofs.YtngoaapgdfohjaaGreatDoor.X
