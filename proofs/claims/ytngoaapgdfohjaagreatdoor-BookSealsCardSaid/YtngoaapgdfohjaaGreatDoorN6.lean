/- Pieces and lines of a text: plain laws. -/
import Derived.Test.YtngoaapgdfohjaaGreatDoorN5
set_option linter.unusedVariables false
set_option linter.unusedSimpArgs false
namespace Go.Proofs.YtngoaapgdfohjaaGreatDoor.X
open Go
/-! ## The pieces of a text, read from its front -/
theorem splitS_snoc (c : UInt8) : ∀ (p : Bs) (b : UInt8), splitS c (p ++ [b]) = if b = c then splitS c p ++ [[]] else (splitS c p).dropLast ++ [(splitS c p).getLast (splitS_ne c p) ++ [b]]
  | [], b => by
    by_cases h : b = c
    · subst h; simp [splitS]
    · simp [splitS, h]
  | a :: p, b => by
    have ih := splitS_snoc c p b
    have hne := splitS_ne c p
    by_cases ha : a = c
    · have e1 : splitS c (a :: p) = [] :: splitS c p := by rw [splitS, if_pos ha]
      have e2 : splitS c (a :: p ++ [b]) = [] :: splitS c (p ++ [b]) := by
        show splitS c (a :: (p ++ [b])) = _
        rw [splitS, if_pos ha]
      rw [e2, ih]
      split
      · simp [e1]
      · simp only [e1, List.dropLast_cons_of_ne_nil hne, List.getLast_cons hne, List.cons_append]
    · obtain ⟨x, y, hx⟩ := List.exists_cons_of_ne_nil hne
      have e1 : splitS c (a :: p) = (a :: x) :: y := by rw [splitS, if_neg ha, hx]
      have e2 : splitS c (a :: p ++ [b]) = match splitS c (p ++ [b]) with
          | [] => [[a]]
          | x :: y => (a :: x) :: y := by
        show splitS c (a :: (p ++ [b])) = _
        rw [splitS, if_neg ha]
        rfl
      by_cases hb : b = c
      · rw [e2, ih]
        simp only [hx, e1, if_pos hb]
        simp
      · rw [e2, ih]
        simp only [hx, e1, if_neg hb]
        cases y with
        | nil => simp
        | cons z y => simp
/-- The pieces that have ended, and where the last one began. -/
def pcs (c : UInt8) (p : Bs) : List Bs := (splitS c p).dropLast
def lst (c : UInt8) (p : Bs) : Bs := (splitS c p).getLast (splitS_ne c p)
theorem pcs_lst (c : UInt8) (p : Bs) : splitS c p = pcs c p ++ [lst c p] := (List.dropLast_concat_getLast (splitS_ne c p)).symm
theorem snoc_hit {c b : UInt8} {p : Bs} (h : b = c) : pcs c (p ++ [b]) = pcs c p ++ [lst c p] ∧ lst c (p ++ [b]) = [] := by
  have e := splitS_snoc c p b
  rw [if_pos h] at e
  refine ⟨by unfold pcs; rw [e, List.dropLast_concat]; exact pcs_lst c p, by unfold lst; simp only [e, List.getLast_concat]⟩
theorem snoc_miss {c b : UInt8} {p : Bs} (h : ¬ b = c) : pcs c (p ++ [b]) = pcs c p ∧ lst c (p ++ [b]) = lst c p ++ [b] := by
  have e := splitS_snoc c p b
  rw [if_neg h] at e
  refine ⟨by unfold pcs; rw [e, List.dropLast_concat], by unfold lst; simp only [e, List.getLast_concat]⟩
theorem take_snoc {s : Bs} {i : Nat} (h : i < s.length) : s.take (i + 1) = s.take i ++ [s[i]] := by
  rw [List.take_add_one, List.getElem?_eq_getElem h]; rfl
theorem pcs_hit {c : UInt8} {s : Bs} {n : Nat} (hn : n < s.length) (h : s[n] = c) : pcs c (s.take (n + 1)) = pcs c (s.take n) ++ [lst c (s.take n)] := by
  rw [take_snoc hn]; exact (snoc_hit h).1
theorem pcs_miss {c : UInt8} {s : Bs} {n : Nat} (hn : n < s.length) (h : ¬ s[n] = c) : pcs c (s.take (n + 1)) = pcs c (s.take n) := by
  rw [take_snoc hn]; exact (snoc_miss h).1
/-! ## Lines -/
/-- A text's lines, or the number of the one that has no end. -/
def linesS (t : Bs) : List Bs × Int := if lst 10 t = [] then (pcs 10 t, 0) else ([], ((pcs 10 t).length : Int) + 1)
end Go.Proofs.YtngoaapgdfohjaaGreatDoor.X
