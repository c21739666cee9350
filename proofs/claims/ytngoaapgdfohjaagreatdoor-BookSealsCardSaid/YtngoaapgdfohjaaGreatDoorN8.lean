/- Words: plain laws. -/
import Derived.Test.YtngoaapgdfohjaaGreatDoorN7
import Derived.Lib.Join
set_option linter.unusedVariables false
set_option linter.unusedSimpArgs false
namespace Go.Proofs.YtngoaapgdfohjaaGreatDoor.X
open Go
/-! ## Words -/
theorem join_two (x y : Bs) (r : List Bs) (sep : Bs) : Lib.join (x :: y :: r) sep = x ++ sep ++ Lib.join (y :: r) sep := by
  rw [Lib.join_cons, Lib.join_cons]
  simp [Lib.joinTail]
theorem splitS_cons (c : UInt8) (b : UInt8) (r : Bs) (h : ¬ b = c) : splitS c (b :: r) = (b :: (splitS c r).head (splitS_ne c r)) :: (splitS c r).tail := by
  obtain ⟨x, y, hx⟩ := List.exists_cons_of_ne_nil (splitS_ne c r)
  rw [splitS, if_neg h]
  simp only [hx]
  rfl
theorem join_split (c : UInt8) : ∀ s : Bs, Lib.join (splitS c s) [c] = s
  | [] => rfl
  | b :: r => by
    have ih := join_split c r
    obtain ⟨x, y, hx⟩ := List.exists_cons_of_ne_nil (splitS_ne c r)
    by_cases h : b = c
    · rw [splitS, if_pos h, hx, join_two, ← hx, ih, h]
      rfl
    · rw [splitS_cons c b r h]
      simp only [hx] at ih ⊢
      rw [Lib.join_cons] at ih ⊢
      simp only [List.head_cons, List.tail_cons, List.cons_append]
      rw [ih]
theorem split_app (c : UInt8) : ∀ (x : Bs) (r : Bs), c ∉ x → splitS c (x ++ c :: r) = x :: splitS c r
  | [], r, _ => by rw [List.nil_append, splitS, if_pos rfl]
  | a :: x, r, h => by
    have ha : ¬ a = c := fun e => h (by rw [e]; simp)
    have ih := split_app c x r (fun e => h (by simp [e]))
    rw [List.cons_append, splitS_cons c a _ ha]
    simp only [ih]
    rfl
theorem split_none (c : UInt8) : ∀ (x : Bs), c ∉ x → splitS c x = [x]
  | [], _ => rfl
  | a :: x, h => by
    have ha : ¬ a = c := fun e => h (by rw [e]; simp)
    have ih := split_none c x (fun e => h (by simp [e]))
    rw [splitS_cons c a _ ha]
    simp only [ih]
    rfl
theorem split_join (c : UInt8) : ∀ (l : List Bs), l ≠ [] → (∀ x ∈ l, c ∉ x) → splitS c (Lib.join l [c]) = l
  | [], h, _ => absurd rfl h
  | [x], _, hx => by rw [Lib.join_one]; exact split_none c x (hx x (by simp))
  | x :: y :: r, _, hx => by
    rw [join_two, List.append_assoc, show [c] ++ Lib.join (y :: r) [c] = c :: Lib.join (y :: r) [c] from rfl, split_app c x _ (hx x (by simp)), split_join c (y :: r) (by simp) (fun z hz => hx z (by simp [hz]))]
/-- A line's words; 2: one is empty. -/
def wordsS (s : Bs) : List Bs × Int := if [] ∈ splitS 32 s then ([], 2) else (splitS 32 s, 0)
theorem splitS_len (c : UInt8) (s : Bs) : (splitS c s).length ≤ s.length + 1 := by
  rw [pcs_lst, List.length_append, List.length_singleton]
  have := pcs_len' c s
  omega
theorem wordsS_len (s : Bs) : (wordsS s).1.length ≤ s.length + 1 := by
  unfold wordsS
  split
  · exact Nat.zero_le _
  · exact splitS_len 32 s
theorem words_back {s : Bs} (h : (wordsS s).2 = 0) : Lib.join (wordsS s).1 [32] = s := by
  unfold wordsS at h ⊢
  split
  · rename_i he; rw [if_pos he] at h; cases h
  · exact join_split 32 s
theorem words_of {l : List Bs} (hl : l ≠ []) (h : ∀ x ∈ l, 32 ∉ x ∧ x ≠ []) : wordsS (Lib.join l [32]) = (l, 0) := by
  unfold wordsS
  rw [split_join 32 l hl (fun x hx => (h x hx).1), if_neg (fun hm => (h _ hm).2 rfl)]
end Go.Proofs.YtngoaapgdfohjaaGreatDoor.X
