/- A text line by line: plain laws. -/
import Derived.Test.YtngoaapgdfohjaaGreatDoorN6
import Derived.Test.YtngoaapgdfohjaaGreatDoorN1
import Derived.Lib.IndexMore
import Derived.Lib.IndexBytes
set_option linter.unusedVariables false
set_option linter.unusedSimpArgs false
namespace Go.Proofs.YtngoaapgdfohjaaGreatDoor.X
open Go
/-! ## A text, line by line -/
/-- What comes of a text, line by line: each with its end or without. -/
def linesB (s : Bs) : List (Bs × Bool) := (pcs 10 s).map (fun x => (x, true)) ++ (if lst 10 s = [] then [] else [(lst 10 s, false)])
theorem linesB_nil : linesB [] = [] := rfl
theorem cut_none {s : Bs} {c : UInt8} (h : Lib.indexByte s c = -1) : Lib.cut s [c] = (s, [], false) := by
  unfold Lib.cut
  rw [Lib.index_one, h]
  rfl
theorem cut_some {s : Bs} {c : UInt8} {i : Nat} (h : Lib.indexByte s c = (i : Int)) : Lib.cut s [c] = (s.take i, s.drop (i + 1), true) := by
  unfold Lib.cut
  rw [Lib.index_one, h, if_pos (by omega)]
  rfl
theorem index_two (s : Bs) (c : UInt8) : Lib.indexByte s c = -1 ∨ ∃ i : Nat, Lib.indexByte s c = (i : Int) := by
  have := Lib.indexByte_ge s c
  by_cases h : Lib.indexByte s c = -1
  · exact .inl h
  · exact .inr ⟨(Lib.indexByte s c).toNat, by omega⟩
theorem pcs_none {s : Bs} {c : UInt8} (h : Lib.indexByte s c = -1) : pcs c s = [] ∧ lst c s = s := by
  have := splitS_miss c h
  unfold pcs lst
  simp only [this]
  exact ⟨rfl, rfl⟩
theorem pcs_some {s : Bs} {c : UInt8} {i : Nat} (h : Lib.indexByte s c = (i : Int)) : pcs c s = s.take i :: pcs c (s.drop (i + 1)) ∧ lst c s = lst c (s.drop (i + 1)) := by
  have := splitS_hit c h
  unfold pcs lst
  simp only [this]
  exact ⟨List.dropLast_cons_of_ne_nil (splitS_ne _ _), List.getLast_cons (splitS_ne _ _)⟩
theorem linesB_step {s : Bs} (h : ¬ s = []) : linesB s = ((Lib.cut s [10]).1, (Lib.cut s [10]).2.2) :: linesB (Lib.cut s [10]).2.1 := by
  rcases index_two s 10 with h1 | ⟨i, h1⟩
  · rw [cut_none h1]
    unfold linesB
    rw [(pcs_none h1).1, (pcs_none h1).2, if_neg h]
    rfl
  · rw [cut_some h1]
    unfold linesB
    rw [(pcs_some h1).1, (pcs_some h1).2]
    rfl
theorem cut_len {s : Bs} (h : ¬ s = []) : (Lib.cut s [10]).2.1.length < s.length := by
  have hl := List.length_pos_iff.2 h
  unfold Lib.cut
  split
  · simp only [List.length_drop, List.length_singleton]; omega
  · simpa using hl
/-- Only the last line may lack its end. -/
theorem linesB_ended {s : Bs} {pre rest : List (Bs × Bool)} {x : Bs} (h : linesB s = pre ++ (x, false) :: rest) : pre = (pcs 10 s).map (fun x => (x, true)) ∧ lst 10 s = x ∧ ¬ x = [] ∧ rest = [] := by
  unfold linesB at h
  split at h
  · rename_i he
    have : (x, false) ∈ (pcs 10 s).map (fun x => (x, true)) ++ [] := by rw [h]; simp
    simp at this
  · rename_i he
    have h2 := congrArg List.getLast? h
    have h3 : rest = [] := by
      rcases rest.eq_nil_or_concat with h0 | ⟨r, y, rfl⟩
      · exact h0
      · exfalso
        have hd := congrArg List.dropLast h
        rw [List.dropLast_concat, show pre ++ (x, false) :: r.concat y = (pre ++ (x, false) :: r) ++ [y] by simp, List.dropLast_concat] at hd
        have : (x, false) ∈ (pcs 10 s).map (fun x => (x, true)) := by rw [hd]; simp
        simp at this
    subst h3
    have hd := congrArg List.dropLast h
    rw [List.dropLast_concat, List.dropLast_concat] at hd
    rw [List.getLast?_concat, List.getLast?_concat] at h2
    simp only [Option.some.injEq, Prod.mk.injEq, and_true] at h2
    exact ⟨hd.symm, h2, h2 ▸ he, rfl⟩
theorem linesB_all {s : Bs} (h : ∀ x, (x, false) ∉ linesB s) : lst 10 s = [] ∧ (linesB s).map (·.1) = pcs 10 s := by
  by_cases he : lst 10 s = []
  · refine ⟨he, ?_⟩
    unfold linesB
    rw [if_pos he, List.append_nil, List.map_map]
    exact List.map_id _
  · exact absurd (show (lst 10 s, false) ∈ linesB s by unfold linesB; rw [if_neg he]; simp) (h _)
theorem pcs_len (c : UInt8) (s : Bs) : ∀ n : Nat, n ≤ s.length → (pcs c (s.take n)).length ≤ n
  | 0, _ => Nat.le_refl _
  | n + 1, h => by
    have ih := pcs_len c s n (by omega)
    by_cases hb : s[n] = c
    · rw [pcs_hit (by omega) hb, List.length_append, List.length_singleton]; omega
    · rw [pcs_miss (by omega) hb]; omega
theorem pcs_len' (c : UInt8) (s : Bs) : (pcs c s).length ≤ s.length := by
  have := pcs_len c s s.length (Nat.le_refl _)
  rwa [List.take_length] at this
theorem linesS_len (s : Bs) : (linesS s).1.length ≤ s.length := by
  unfold linesS
  split
  · exact pcs_len' 10 s
  · exact Nat.zero_le _
theorem flat_len : ∀ l : List Bs, (l.flatMap (· ++ [10])).length ≤ (l.flatMap (· ++ [10])).length := fun _ => Nat.le_refl _
def cutA (s : Bs) (c : UInt8) : Bs := (Lib.cut s [c]).1
def cutB (s : Bs) (c : UInt8) : Bs := (Lib.cut s [c]).2.1
def cutF (s : Bs) (c : UInt8) : Bool := (Lib.cut s [c]).2.2
end Go.Proofs.YtngoaapgdfohjaaGreatDoor.X
