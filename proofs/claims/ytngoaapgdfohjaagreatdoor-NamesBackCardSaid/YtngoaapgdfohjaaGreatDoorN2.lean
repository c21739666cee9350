/- The order of values: plain laws. -/
import Derived.Test.YtngoaapgdfohjaaGreatDoorX16
import Derived.Lib.Bytealg
set_option linter.unusedVariables false
set_option linter.unusedSimpArgs false
namespace Go.Proofs.YtngoaapgdfohjaaGreatDoor.X
open Go
/-! ## The order of values -/
theorem bl_irrefl : ∀ a : Bs, Op.bytesLess a a = false
  | [] => rfl
  | x :: a => by simp [Op.bytesLess, UInt8.lt_irrefl, bl_irrefl a]
theorem bl_tri : ∀ a b : Bs, Op.bytesLess a b = true ∨ a = b ∨ Op.bytesLess b a = true
  | [], [] => .inr (.inl rfl)
  | [], _ :: _ => .inl rfl
  | _ :: _, [] => .inr (.inr rfl)
  | x :: a, y :: b => by
    simp only [Op.bytesLess, Bool.or_eq_true, Bool.and_eq_true, decide_eq_true_eq, beq_iff_eq, List.cons.injEq, UInt8.lt_iff_toNat_lt]
    rcases Nat.lt_trichotomy x.toNat y.toNat with h | h | h
    · exact .inl (.inl h)
    · have e : x = y := UInt8.toNat_inj.1 h
      rcases bl_tri a b with h1 | h1 | h1
      · exact .inl (.inr ⟨e, h1⟩)
      · exact .inr (.inl ⟨e, h1⟩)
      · exact .inr (.inr (.inr ⟨e.symm, h1⟩))
    · exact .inr (.inr (.inl h))
theorem bl_trans : ∀ {a b c : Bs}, Op.bytesLess a b = true → Op.bytesLess b c = true → Op.bytesLess a c = true
  | _, [], _, h, _ => by simp [Op.bytesLess] at h
  | _, _ :: _, [], _, h => by simp [Op.bytesLess] at h
  | [], _ :: _, _ :: _, _, _ => rfl
  | x :: a, y :: b, z :: c, h1, h2 => by
    simp only [Op.bytesLess, Bool.or_eq_true, Bool.and_eq_true, decide_eq_true_eq, beq_iff_eq, UInt8.lt_iff_toNat_lt] at h1 h2 ⊢
    rcases h1 with h1 | ⟨rfl, h1⟩
    · rcases h2 with h2 | ⟨rfl, h2⟩
      · exact .inl (by omega)
      · exact .inl h1
    · rcases h2 with h2 | ⟨rfl, h2⟩
      · exact .inl h2
      · exact .inr ⟨rfl, bl_trans h1 h2⟩
theorem bl_asymm {a b : Bs} (h : Op.bytesLess a b = true) : Op.bytesLess b a = false := by
  cases h2 : Op.bytesLess b a with
  | false => rfl
  | true => have := bl_trans h h2; rw [bl_irrefl] at this; cases this
theorem cb_eq : ∀ a b : Bs, Lib.compareBytes a b = if Op.bytesLess b a = true then 1 else if Op.bytesLess a b = true then -1 else 0
  | [], [] => rfl
  | [], _ :: _ => rfl
  | _ :: _, [] => rfl
  | x :: a, y :: b => by
    simp only [Lib.compareBytes, cb_eq a b, Op.bytesLess, Bool.or_eq_true, Bool.and_eq_true, decide_eq_true_eq, beq_iff_eq, UInt8.lt_iff_toNat_lt]
    rcases Nat.lt_trichotomy x.toNat y.toNat with h | h | h
    · have e : ¬ y = x := fun e => by subst e; omega
      have e' : ¬ x = y := fun e => by subst e; omega
      simp [h, e, e', show ¬ y.toNat < x.toNat by omega]
    · have e : x = y := UInt8.toNat_inj.1 h
      subst e
      simp
    · have e : ¬ y = x := fun e => by subst e; omega
      have e' : ¬ x = y := fun e => by subst e; omega
      simp [h, e, e', show ¬ x.toNat < y.toNat by omega]
def cmpI (a b : Int) : Int := if a < b then -1 else if b < a then 1 else 0
def orL : List Int → Int
  | [] => 0
  | x :: r => if x = 0 then orL r else x
def compareV (a b : Val) : Int := orL [cmpI a.k b.k, cmpI a.n b.n, Lib.compareBytes a.s b.s]
def lessV (a b : Val) : Bool := if ¬ a.k = b.k then decide (a.k < b.k) else if ¬ a.n = b.n then decide (a.n < b.n) else Op.bytesLess a.s b.s
theorem cv_eq (a b : Val) : compareV a b = if lessV b a = true then 1 else if lessV a b = true then -1 else 0 := by
  unfold compareV lessV
  simp only [orL, cb_eq]
  unfold cmpI
  rcases Int.lt_trichotomy a.k b.k with h | h | h
  · simp [h, show ¬ b.k < a.k by omega, show ¬ a.k = b.k by omega, show ¬ b.k = a.k by omega]
  · rcases Int.lt_trichotomy a.n b.n with h' | h' | h'
    · simp [h, h', show ¬ b.n < a.n by omega, show ¬ a.n = b.n by omega, show ¬ b.n = a.n by omega]
    · simp [h, h']
      exact fun h => h.symm
    · simp [h, h', show ¬ a.n < b.n by omega, show ¬ a.n = b.n by omega, show ¬ b.n = a.n by omega]
  · simp [h, show ¬ a.k < b.k by omega, show ¬ a.k = b.k by omega, show ¬ b.k = a.k by omega]
theorem lv_irrefl (a : Val) : lessV a a = false := by simp [lessV, bl_irrefl]
theorem lv_trans {a b c : Val} (h1 : lessV a b = true) (h2 : lessV b c = true) : lessV a c = true := by
  unfold lessV at *
  split at h1
  · simp only [decide_eq_true_eq] at h1
    split at h2
    · simp only [decide_eq_true_eq] at h2
      rw [if_pos (by omega)]; simp; omega
    · rw [if_pos (by omega)]; simp; omega
  · split at h2
    · simp only [decide_eq_true_eq] at h2
      rw [if_pos (by omega)]; simp; omega
    · rw [if_neg (by omega)]
      split at h1
      · simp only [decide_eq_true_eq] at h1
        split at h2
        · simp only [decide_eq_true_eq] at h2
          rw [if_pos (by omega)]; simp; omega
        · rw [if_pos (by omega)]; simp; omega
      · split at h2
        · simp only [decide_eq_true_eq] at h2
          rw [if_pos (by omega)]; simp; omega
        · rw [if_neg (by omega)]
          exact bl_trans h1 h2
theorem lv_asymm {a b : Val} (h : lessV a b = true) : lessV b a = false := by
  cases h2 : lessV b a with
  | false => rfl
  | true => have := lv_trans h h2; rw [lv_irrefl] at this; cases this
theorem lv_tri (a b : Val) : lessV a b = true ∨ a = b ∨ lessV b a = true := by
  unfold lessV
  by_cases h : a.k = b.k
  · by_cases h' : a.n = b.n
    · simp only [h, h', not_true, if_false]
      rcases bl_tri a.s b.s with h1 | h1 | h1
      · exact .inl h1
      · right; left
        obtain ⟨ak, an, as⟩ := a
        obtain ⟨bk, bn, bs⟩ := b
        simp only at h h' h1
        subst h; subst h'; subst h1; rfl
      · exact .inr (.inr h1)
    · simp only [h, not_true, if_false, h', not_false_eq_true, if_true, show ¬ b.n = a.n from fun e => h' e.symm, decide_eq_true_eq]
      omega
  · simp only [h, not_false_eq_true, if_true, show ¬ b.k = a.k from fun e => h e.symm, decide_eq_true_eq]
    omega
theorem cv_neg (a b : Val) : compareV a b = -compareV b a := by
  rw [cv_eq, cv_eq]
  rcases lv_tri a b with h | h | h
  · rw [h, lv_asymm h]; simp
  · subst h; rw [lv_irrefl]; simp
  · rw [h, lv_asymm h]; simp
theorem cv_zero (a b : Val) : decide (compareV a b = 0) = (decide (a.k = b.k) && (decide (a.n = b.n) && (a.s == b.s && true))) := by
  rw [cv_eq]
  rcases lv_tri a b with h | h | h
  · rw [h, lv_asymm h]
    have : ¬ (a.k = b.k ∧ a.n = b.n ∧ a.s = b.s) := by
      rintro ⟨h1, h2, h3⟩
      have : a = b := by
        obtain ⟨ak, an, as⟩ := a
        obtain ⟨bk, bn, bs⟩ := b
        simp only at h1 h2 h3
        subst h1; subst h2; subst h3; rfl
      subst this
      rw [lv_irrefl] at h; cases h
    simp
    intro h1 h2 h3
    exact this ⟨h1, h2, h3⟩
  · subst h; rw [lv_irrefl]; simp
  · rw [h]
    have : ¬ (a.k = b.k ∧ a.n = b.n ∧ a.s = b.s) := by
      rintro ⟨h1, h2, h3⟩
      have : a = b := by
        obtain ⟨ak, an, as⟩ := a
        obtain ⟨bk, bn, bs⟩ := b
        simp only at h1 h2 h3
        subst h1; subst h2; subst h3; rfl
      subst this
      rw [lv_irrefl] at h; cases h
    simp
    intro h1 h2 h3
    exact this ⟨h1, h2, h3⟩
theorem cv_range (a b : Val) : -1 ≤ compareV a b ∧ compareV a b ≤ 1 := by
  rw [cv_eq]
  split
  · omega
  · split <;> omega
theorem cv_trans (a b c : Val) : ((decide (0 < compareV a b) || decide (0 < compareV b c)) || decide (compareV a c ≤ 0)) = true := by
  simp only [Bool.or_eq_true, decide_eq_true_eq]
  rw [cv_eq a b, cv_eq b c, cv_eq a c]
  rcases lv_tri a b with h | h | h
  · rw [h, lv_asymm h]
    rcases lv_tri b c with h' | h' | h'
    · rw [lv_trans h h', lv_asymm (lv_trans h h')]; simp
    · subst h'; rw [h, lv_asymm h]; simp
    · rw [h']; simp
  · subst h
    rcases lv_tri a c with h' | h' | h'
    · rw [h', lv_asymm h']; simp
    · subst h'; rw [lv_irrefl]; simp
    · rw [h']; simp
  · rw [h]; simp
theorem cv_want (a b : Val) : (bif lessV b a then 1 else bif lessV a b then -1 else 0) = compareV a b := by
  rw [cv_eq]
  cases lessV b a <;> cases lessV a b <;> rfl
end Go.Proofs.YtngoaapgdfohjaaGreatDoor.X
