/- Numbers in decimal: plain laws. -/
import Derived.Test.YtngoaapgdfohjaaGreatDoorX16
set_option linter.unusedVariables false
set_option linter.unusedSimpArgs false
namespace Go.Proofs.YtngoaapgdfohjaaGreatDoor.X
open Go
/-! ## Numbers in decimal -/
def digB (b : UInt8) : Bool := decide (48 ≤ b.toNat) && decide (b.toNat ≤ 57)
def dv (s : Bs) : Nat := s.foldl (fun n b => n * 10 + (b.toNat - 48)) 0
def digitsB (s : Bs) : Bool := s.all digB && (decide (0 < s.length) && (decide (s.length = 1) || !decide (bt s 0 = 48)))
theorem bt_nat {s : Bs} {i : Nat} (h : i < s.length) : bt s (i : Int) = ((s[i].toNat : Nat) : Int) := by
  simp [bt, List.getD_eq_getElem?_getD, List.getElem?_eq_getElem h]
theorem dv_snoc (s : Bs) (b : UInt8) : dv (s ++ [b]) = dv s * 10 + (b.toNat - 48) := by simp [dv]
theorem dv_take {s : Bs} {i : Nat} (h : i < s.length) : dv (s.take (i + 1)) = dv (s.take i) * 10 + (s[i].toNat - 48) := by
  rw [List.take_add_one, List.getElem?_eq_getElem h]
  exact dv_snoc _ _
theorem dv_from (s : Bs) (n : Nat) : s.foldl (fun n b => n * 10 + (b.toNat - 48)) n = n * 10 ^ s.length + dv s := by
  unfold dv
  induction s generalizing n with
  | nil => simp
  | cons b s ih =>
    simp only [List.foldl_cons, List.length_cons]
    rw [ih, ih (0 * 10 + _)]
    rw [Nat.pow_succ]
    generalize 10 ^ s.length = k
    generalize b.toNat - 48 = c
    rw [Nat.zero_mul, Nat.zero_add, Nat.add_mul, Nat.mul_comm k 10, ← Nat.mul_assoc]
    omega
theorem dv_cons (b : UInt8) (s : Bs) : dv (b :: s) = (b.toNat - 48) * 10 ^ s.length + dv s := by
  show s.foldl _ (0 * 10 + (b.toNat - 48)) = _
  rw [dv_from]
  simp
theorem dv_append (s t : Bs) : dv (s ++ t) = dv s * 10 ^ t.length + dv t := by
  unfold dv
  rw [List.foldl_append]
  exact dv_from t _
theorem dv_mono (s : Bs) (i : Nat) : dv (s.take i) ≤ dv s := by
  have h := dv_append (s.take i) (s.drop i)
  rw [List.take_append_drop] at h
  rw [h]
  have : 1 ≤ 10 ^ (s.drop i).length := Nat.one_le_pow _ _ (by decide)
  have := Nat.mul_le_mul_left (dv (s.take i)) this
  omega
theorem dv_lt {s : Bs} (h : s.all digB = true) : dv s < 10 ^ s.length := by
  induction s with
  | nil => decide
  | cons b s ih =>
    simp only [List.all_cons, Bool.and_eq_true] at h
    have h1 := ih h.2
    rw [dv_cons, List.length_cons, Nat.pow_succ]
    have h2 : b.toNat - 48 ≤ 9 := by
      have := h.1
      simp only [digB, Bool.and_eq_true, decide_eq_true_eq] at this
      omega
    have := Nat.mul_le_mul_right (10 ^ s.length) h2
    omega
/-- Equal lengths: the order of the texts is that of the numbers. -/
theorem less_iff {a b : Bs} (ha : a.all digB = true) (hb : b.all digB = true) (hl : a.length = b.length) : Op.bytesLess a b = decide (dv a < dv b) := by
  induction a generalizing b with
  | nil =>
    cases b with
    | nil => decide
    | cons y b => simp at hl
  | cons x a ih =>
    cases b with
    | nil => simp at hl
    | cons y b =>
      simp only [List.all_cons, Bool.and_eq_true] at ha hb
      simp only [List.length_cons, Nat.add_right_cancel_iff] at hl
      have h1 := ih ha.2 hb.2 hl
      have l1 := dv_lt ha.2
      have l2 := dv_lt hb.2
      have dx := ha.1
      have dy := hb.1
      simp only [digB, Bool.and_eq_true, decide_eq_true_eq] at dx dy
      rw [dv_cons, dv_cons, hl]
      rw [hl] at l1
      unfold Op.bytesLess
      rw [h1]
      generalize 10 ^ b.length = K at *
      by_cases hxy : x = y
      · subst hxy
        simp [UInt8.lt_irrefl]
      · have hne : x.toNat ≠ y.toNat := fun e => hxy (UInt8.toNat_inj.1 e)
        have e1 : (x == y) = false := by simp [hxy]
        rw [e1, Bool.false_and, Bool.or_false]
        by_cases hlt : x.toNat < y.toNat
        · have : decide (x < y) = true := by simp [UInt8.lt_iff_toNat_lt, hlt]
          rw [this]
          symm
          rw [decide_eq_true_eq]
          have h3 : x.toNat - 48 + 1 ≤ y.toNat - 48 := by omega
          have := Nat.mul_le_mul_right K h3
          rw [Nat.add_mul, Nat.one_mul] at this
          omega
        · have : decide (x < y) = false := by simp [UInt8.lt_iff_toNat_lt]; omega
          rw [this]
          symm
          rw [decide_eq_false_iff_not]
          have h3 : y.toNat - 48 + 1 ≤ x.toNat - 48 := by omega
          have := Nat.mul_le_mul_right K h3
          rw [Nat.add_mul, Nat.one_mul] at this
          omega
theorem eq_of_less : ∀ {a b : Bs}, Op.bytesLess a b = false → Op.bytesLess b a = false → a.length = b.length → a = b
  | [], [], _, _, _ => rfl
  | [], _ :: _, _, _, h => by simp at h
  | _ :: _, [], _, _, h => by simp at h
  | x :: a, y :: b, h1, h2, h => by
    simp only [Op.bytesLess, Bool.or_eq_false_iff, decide_eq_false_iff_not, UInt8.lt_iff_toNat_lt] at h1 h2
    have e : x = y := UInt8.toNat_inj.1 (by omega)
    subst e
    simp only [beq_self_eq_true, Bool.true_and] at h1 h2
    rw [eq_of_less h1.2 h2.2 (by simpa using h)]
theorem dv_ge {s : Bs} (h : digitsB s = true) (h1 : 1 < s.length) : 10 ^ (s.length - 1) ≤ dv s := by
  cases s with
  | nil => simp at h1
  | cons b s =>
    simp only [digitsB, List.all_cons, Bool.and_eq_true, Bool.or_eq_true, decide_eq_true_eq, Bool.not_eq_true', decide_eq_false_iff_not, List.length_cons] at h
    obtain ⟨⟨hb, _⟩, _, h2⟩ := h
    have h3 : bt (b :: s) 0 = (b.toNat : Int) := by simp [bt]
    rw [h3] at h2
    simp only [digB, Bool.and_eq_true, decide_eq_true_eq] at hb
    simp only [List.length_cons] at h1
    have h4 : 1 ≤ b.toNat - 48 := by omega
    rw [dv_cons, List.length_cons, Nat.add_sub_cancel]
    have := Nat.mul_le_mul_right (10 ^ s.length) h4
    omega
def leastB (a b : Bs) : Bool := decide ((a.length : Int) < (b.length : Int)) || (decide ((a.length : Int) = (b.length : Int)) && (Op.bytesLess a b || a == b))
theorem least_iff {a b : Bs} (ha : digitsB a = true) (hb : digitsB b = true) : leastB a b = decide (dv a ≤ dv b) := by
  have ha1 : a.all digB = true := by simp only [digitsB, Bool.and_eq_true] at ha; exact ha.1
  have hb1 : b.all digB = true := by simp only [digitsB, Bool.and_eq_true] at hb; exact hb.1
  have ha2 : 0 < a.length := by simp only [digitsB, Bool.and_eq_true, decide_eq_true_eq] at ha; exact ha.2.1
  unfold leastB
  have pos : ∀ k, 0 < 10 ^ k := fun k => Nat.pow_pos (by decide)
  rcases Nat.lt_trichotomy a.length b.length with h | h | h
  · have h1 := dv_lt ha1
    have h2 := dv_ge hb (by omega)
    have h3 : 10 ^ a.length ≤ 10 ^ (b.length - 1) := Nat.pow_le_pow_right (by decide) (by omega)
    rw [decide_eq_true (show (a.length : Int) < b.length by omega), Bool.true_or, decide_eq_true (by omega)]
  · rw [decide_eq_false (show ¬ (a.length : Int) < b.length by omega), decide_eq_true (show (a.length : Int) = b.length by omega), Bool.false_or, Bool.true_and, less_iff ha1 hb1 h]
    by_cases e : a = b
    · subst e; simp
    · have e1 : (a == b) = false := by simp [e]
      rw [e1, Bool.or_false]
      have hne : dv a ≠ dv b := by
        intro he
        have l1 := less_iff ha1 hb1 h
        have l2 := less_iff hb1 ha1 h.symm
        rw [he, decide_eq_false (Nat.lt_irrefl _)] at l1
        rw [he, decide_eq_false (Nat.lt_irrefl _)] at l2
        exact e (eq_of_less l1 l2 h)
      congr 1
      apply propext
      omega
  · have h1 := dv_lt hb1
    have h2 := dv_ge ha (by
      have : 0 < b.length := by simp only [digitsB, Bool.and_eq_true, decide_eq_true_eq] at hb; exact hb.2.1
      omega)
    have h3 : 10 ^ b.length ≤ 10 ^ (a.length - 1) := Nat.pow_le_pow_right (by decide) (by omega)
    rw [decide_eq_false (show ¬ (a.length : Int) < b.length by omega), decide_eq_false (show ¬ (a.length : Int) = b.length by omega), Bool.false_or, Bool.false_and, decide_eq_false (by omega)]
end Go.Proofs.YtngoaapgdfohjaaGreatDoor.X
