/- Pieces and lines of a text: plain laws. -/
import Derived.Test.YtngoaapgdfohjaaGreatDoorN5
set_option linter.unusedVariables false
set_option linter.unusedSimpArgs false
namespace Go.Proofs.YtngoaapgdfohjaaGreatDoor.X
open Go
/-! ## The pieces of a text, read from its front -/
theorem splitS_snoc (c : UInt8) : ∀ (p : Bs) (b : UInt8), splitS c (p ++ [b]) = if b = c then splitS c p ++ [[]] else (splitS c p).dropLast ++ [(splitS c p).getLast (splitS_ne c p) ++ [b]]
  | [], b => by
    by_cases h : b = c
    · subst h; simp [splitS]
    · simp [splitS, h]
  | a :: p, b => by
    have ih := splitS_snoc c p b
    have hne := splitS_ne c p
    by_cases ha : a = c
    · have e1 : splitS c (a :: p) = [] :: splitS c p := by rw [splitS, if_pos ha]
      have e2 : splitS c (a :: p ++ [b]) = [] :: splitS c (p ++ [b]) := by
        show splitS c (a :: (p ++ [b])) = _
        rw [splitS, if_pos ha]
      rw [e2, ih]
      split
      · simp [e1]
      · simp only [e1, List.dropLast_cons_of_ne_nil hne, List.getLast_cons hne, List.cons_append]
    · obtain ⟨x, y, hx⟩ := List.exists_cons_of_ne_nil hne
      have e1 : splitS c (a :: p) = (a :: x) :: y := by rw [splitS, if_neg ha, hx]
      have e2 : splitS c (a :: p ++ [b]) = match splitS c (p ++ [b]) with
          | [] => [[a]]
          | x :: y => (a :: x) :: y := by
        show splitS c (a :: (p ++ [b])) = _
        rw [splitS, if_neg ha]
        rfl
      by_cases hb : b = c
      · rw [e2, ih]
        simp only [hx, e1, if_pos hb]
        simp
      · rw [e2, ih]
        simp only [hx, e1, if_neg hb]
        cases y with
        | nil => simp
        | cons z y => simp
/-- The pieces that have ended, and where the last one began. -/
def pcs (c : UInt8) (p : Bs) : List Bs := (splitS c p).dropLast
def lst (c : UInt8) (p : Bs) : Bs := (splitS c p).getLast (splitS_ne c p)
theorem pcs_lst (c : UInt8) (p : Bs) : splitS c p = pcs c p ++ [lst c p] := (List.dropLast_concat_getLast (splitS_ne c p)).symm
theorem pcs_nil (c : UInt8) : pcs c [] = [] := rfl
theorem lst_nil (c : UInt8) : lst c [] = [] := rfl
theorem snoc_hit {c b : UInt8} {p : Bs} (h : b = c) : pcs c (p ++ [b]) = pcs c p ++ [lst c p] ∧ lst c (p ++ [b]) = [] := by
  have e := splitS_snoc c p b
  rw [if_pos h] at e
  refine ⟨by unfold pcs; rw [e, List.dropLast_concat]; exact pcs_lst c p, by unfold lst; simp only [e, List.getLast_concat]⟩
theorem snoc_miss {c b : UInt8} {p : Bs} (h : ¬ b = c) : pcs c (p ++ [b]) = pcs c p ∧ lst c (p ++ [b]) = lst c p ++ [b] := by
  have e := splitS_snoc c p b
  rw [if_neg h] at e
  refine ⟨by unfold pcs; rw [e, List.dropLast_concat], by unfold lst; simp only [e, List.getLast_concat]⟩
theorem take_snoc {s : Bs} {i : Nat} (h : i < s.length) : s.take (i + 1) = s.take i ++ [s[i]] := by
  rw [List.take_add_one, List.getElem?_eq_getElem h]; rfl
/-- The last piece is what ends the text. -/
theorem lst_suffix (c : UInt8) : ∀ (n : Nat) (s : Bs), n ≤ s.length → (lst c (s.take n)).length ≤ n ∧ lst c (s.take n) = (s.take n).drop (n - (lst c (s.take n)).length)
  | 0, s, _ => by simp [lst_nil]
  | n + 1, s, h => by
    have ih := lst_suffix c n s (by omega)
    have e := take_snoc (s := s) (i := n) (by omega)
    by_cases hb : s[n] = c
    · have h2 := (snoc_hit (p := s.take n) hb).2
      rw [← e] at h2
      rw [h2]
      have : (s.take (n + 1)).length = n + 1 := by rw [List.length_take]; omega
      simp [List.drop_eq_nil_iff]
    · have h2 := (snoc_miss (p := s.take n) hb).2
      rw [← e] at h2
      rw [h2]
      obtain ⟨h3, h4⟩ := ih
      have hl : (s.take n).length = n := by rw [List.length_take]; omega
      refine ⟨by simp; omega, ?_⟩
      rw [e, List.length_append, List.length_singleton, show n + 1 - ((lst c (s.take n)).length + 1) = n - (lst c (s.take n)).length by omega, List.drop_append_of_le_length (by omega), ← h4]
/-- Where the last piece of what is read began. -/
def atS (c : UInt8) (s : Bs) (n : Nat) : Nat := n - (lst c (s.take n)).length
theorem atS_le (c : UInt8) (s : Bs) (n : Nat) : atS c s n ≤ n := Nat.sub_le _ _
theorem at_zero (c : UInt8) (s : Bs) : atS c s 0 = 0 := Nat.zero_sub _
theorem at_hit {c : UInt8} {s : Bs} {n : Nat} (hn : n < s.length) (h : s[n] = c) : atS c s (n + 1) = n + 1 := by
  have e := (snoc_hit (p := s.take n) h).2
  rw [← take_snoc hn] at e
  unfold atS; rw [e]; rfl
theorem at_miss {c : UInt8} {s : Bs} {n : Nat} (hn : n < s.length) (h : ¬ s[n] = c) : atS c s (n + 1) = atS c s n := by
  have e := (snoc_miss (p := s.take n) h).2
  rw [← take_snoc hn] at e
  unfold atS; rw [e]; simp
theorem pcs_hit {c : UInt8} {s : Bs} {n : Nat} (hn : n < s.length) (h : s[n] = c) : pcs c (s.take (n + 1)) = pcs c (s.take n) ++ [lst c (s.take n)] := by
  rw [take_snoc hn]; exact (snoc_hit h).1
theorem pcs_miss {c : UInt8} {s : Bs} {n : Nat} (hn : n < s.length) (h : ¬ s[n] = c) : pcs c (s.take (n + 1)) = pcs c (s.take n) := by
  rw [take_snoc hn]; exact (snoc_miss h).1
theorem lst_cut {c : UInt8} {s : Bs} {n : Nat} (hn : n ≤ s.length) : lst c (s.take n) = (s.take n).drop (atS c s n) := (lst_suffix c n s hn).2
theorem lst_len {c : UInt8} {s : Bs} {n : Nat} (hn : n ≤ s.length) : (lst c (s.take n)).length = n - atS c s n := by
  have := (lst_suffix c n s hn).1
  unfold atS; omega
/-! ## Lines -/
/-- A text's lines, or the number of the one that has no end. -/
def linesS (t : Bs) : List Bs × Int := if lst 10 t = [] then (pcs 10 t, 0) else ([], ((pcs 10 t).length : Int) + 1)
theorem splitS_join (c : UInt8) : ∀ s : Bs, (pcs c s).flatMap (· ++ [c]) ++ lst c s = s := by
  suffices h : ∀ (n : Nat) (s : Bs), n ≤ s.length → (pcs c (s.take n)).flatMap (· ++ [c]) ++ lst c (s.take n) = s.take n by
    intro s
    have := h s.length s (Nat.le_refl _)
    rwa [List.take_length] at this
  intro n
  induction n with
  | zero => intro s _; rfl
  | succ n ih =>
    intro s hn
    have ih := ih s (by omega)
    rw [take_snoc (by omega)]
    by_cases hb : s[n] = c
    · rw [(snoc_hit hb).1, (snoc_hit hb).2, List.flatMap_append, List.append_nil]
      conv => rhs; rw [← ih]
      simp [hb]
    · rw [(snoc_miss hb).1, (snoc_miss hb).2, ← List.append_assoc, ih]
theorem lines_join {t : Bs} (h : lst 10 t = []) : (pcs 10 t).flatMap (· ++ [10]) = t := by
  have := splitS_join 10 t
  rwa [h, List.append_nil] at this
end Go.Proofs.YtngoaapgdfohjaaGreatDoor.X
