/- Words: plain laws. -/
import Derived.Test.YtngoaapgdfohjaaGreatDoorN7
import Derived.Lib.Join
set_option linter.unusedVariables false
set_option linter.unusedSimpArgs false
namespace Go.Proofs.YtngoaapgdfohjaaGreatDoor.X
open Go
/-! ## Words -/
theorem join_two (x y : Bs) (r : List Bs) (sep : Bs) : Lib.join (x :: y :: r) sep = x ++ sep ++ Lib.join (y :: r) sep := by
  rw [Lib.join_cons, Lib.join_cons]
  simp [Lib.joinTail]
theorem join_snoc (l : List Bs) (x : Bs) (sep : Bs) (h : l ≠ []) : Lib.join (l ++ [x]) sep = Lib.join l sep ++ sep ++ x := by
  induction l with
  | nil => exact absurd rfl h
  | cons a r ih =>
    cases r with
    | nil => rw [List.singleton_append, join_two, Lib.join_one, Lib.join_one]
    | cons b r =>
      show Lib.join (a :: b :: (r ++ [x])) sep = _
      rw [join_two, join_two, show b :: (r ++ [x]) = (b :: r) ++ [x] from rfl, ih (by simp)]
      simp
theorem splitS_cons (c : UInt8) (b : UInt8) (r : Bs) (h : ¬ b = c) : splitS c (b :: r) = (b :: (splitS c r).head (splitS_ne c r)) :: (splitS c r).tail := by
  obtain ⟨x, y, hx⟩ := List.exists_cons_of_ne_nil (splitS_ne c r)
  rw [splitS, if_neg h]
  simp only [hx]
  rfl
theorem join_split (c : UInt8) : ∀ s : Bs, Lib.join (splitS c s) [c] = s
  | [] => rfl
  | b :: r => by
    have ih := join_split c r
    obtain ⟨x, y, hx⟩ := List.exists_cons_of_ne_nil (splitS_ne c r)
    by_cases h : b = c
    · rw [splitS, if_pos h, hx, join_two, ← hx, ih, h]
      rfl
    · rw [splitS_cons c b r h]
      simp only [hx] at ih ⊢
      rw [Lib.join_cons] at ih ⊢
      simp only [List.head_cons, List.tail_cons, List.cons_append]
      rw [ih]
theorem split_app (c : UInt8) : ∀ (x : Bs) (r : Bs), c ∉ x → splitS c (x ++ c :: r) = x :: splitS c r
  | [], r, _ => by rw [List.nil_append, splitS, if_pos rfl]
  | a :: x, r, h => by
    have ha : ¬ a = c := fun e => h (by rw [e]; simp)
    have ih := split_app c x r (fun e => h (by simp [e]))
    rw [List.cons_append, splitS_cons c a _ ha]
    simp only [ih]
    rfl
theorem split_none (c : UInt8) : ∀ (x : Bs), c ∉ x → splitS c x = [x]
  | [], _ => rfl
  | a :: x, h => by
    have ha : ¬ a = c := fun e => h (by rw [e]; simp)
    have ih := split_none c x (fun e => h (by simp [e]))
    rw [splitS_cons c a _ ha]
    simp only [ih]
    rfl
theorem split_join (c : UInt8) : ∀ (l : List Bs), l ≠ [] → (∀ x ∈ l, c ∉ x) → splitS c (Lib.join l [c]) = l
  | [], h, _ => absurd rfl h
  | [x], _, hx => by rw [Lib.join_one]; exact split_none c x (hx x (by simp))
  | x :: y :: r, _, hx => by
    rw [join_two, List.append_assoc, show [c] ++ Lib.join (y :: r) [c] = c :: Lib.join (y :: r) [c] from rfl, split_app c x _ (hx x (by simp)), split_join c (y :: r) (by simp) (fun z hz => hx z (by simp [hz]))]
/-- A line's words; 2: one is empty. -/
def wordsS (s : Bs) : List Bs × Int := if [] ∈ splitS 32 s then ([], 2) else (splitS 32 s, 0)
theorem splitS_len (c : UInt8) (s : Bs) : (splitS c s).length ≤ s.length + 1 := by
  rw [pcs_lst, List.length_append, List.length_singleton]
  have := pcs_len' c s
  omega
theorem wordsS_len (s : Bs) : (wordsS s).1.length ≤ s.length + 1 := by
  unfold wordsS
  split
  · exact Nat.zero_le _
  · exact splitS_len 32 s
theorem pcs_end (c : UInt8) (s : Bs) : pcs c (s ++ [c]) = splitS c s ∧ lst c (s ++ [c]) = [] := by
  have := snoc_hit (c := c) (b := c) (p := s) rfl
  rw [this.1, this.2, pcs_lst]
  exact ⟨rfl, rfl⟩
theorem take_end {c : UInt8} {s : Bs} {i : Nat} (h : i ≤ s.length) : (s ++ [c]).take i = s.take i := List.take_append_of_le_length h
theorem at_end {c : UInt8} {s : Bs} {i : Nat} (h : i ≤ s.length) : atS c (s ++ [c]) i = atS c s i := by
  unfold atS; rw [take_end h]
theorem sub_end {c : UInt8} {s : Bs} {i a : Nat} (h : i ≤ s.length) (ha : a = atS c (s ++ [c]) i) : sub s (a : Int) (i : Int) = lst c ((s ++ [c]).take i) := by
  rw [ha, at_end h, take_end h]; exact sub_lst h
theorem pcs_mono (c : UInt8) (s : Bs) : ∀ (k i : Nat), i + k ≤ s.length → pcs c (s.take i) <+: pcs c (s.take (i + k))
  | 0, i, _ => List.prefix_refl _
  | k + 1, i, h => by
    have ih := pcs_mono c s k i (by omega)
    refine ih.trans ?_
    by_cases hb : s[i + k] = c
    · rw [show i + (k + 1) = (i + k) + 1 by omega, pcs_hit (by omega) hb]; exact List.prefix_append _ _
    · rw [show i + (k + 1) = (i + k) + 1 by omega, pcs_miss (by omega) hb]; exact List.prefix_refl _
theorem end_at {c : UInt8} {s : Bs} {i : Nat} (h : i < s.length) : (s ++ [c])[i]'(by simp; omega) = s[i] := by simp [List.getElem_append, h]
theorem end_last {c : UInt8} {s : Bs} : (s ++ [c])[s.length]'(by simp) = c := by simp
/-- A round that has met a blank, or the end. -/
theorem words_hit {s : Bs} {i : Nat} (hi : i ≤ s.length) (h : i < s.length → s[i]? = some 32) : (s ++ [32])[i]'(by simp; omega) = 32 := by
  by_cases hl : i < s.length
  · rw [end_at hl]
    have := h hl
    rw [List.getElem?_eq_getElem hl] at this
    exact Option.some.inj this
  · have : i = s.length := by omega
    subst this
    exact end_last
theorem words_empty {s : Bs} {i : Nat} (hi : i ≤ s.length) (hc : (s ++ [32])[i]'(by simp; omega) = 32) (he : i = atS 32 (s ++ [32]) i) : wordsS s = ([], 2) := by
  have hl : lst 32 ((s ++ [32]).take i) = [] := List.eq_nil_of_length_eq_zero (by rw [lst_len (by simp; omega)]; omega)
  have h1 := pcs_hit (c := 32) (s := s ++ [32]) (n := i) (by simp; omega) hc
  rw [hl] at h1
  have h2 := pcs_mono 32 (s ++ [32]) (s.length - i) (i + 1) (by simp; omega)
  rw [show i + 1 + (s.length - i) = (s ++ [32]).length by simp; omega, List.take_length, (pcs_end 32 s).1, h1] at h2
  unfold wordsS
  rw [if_pos (h2.subset (by simp))]
theorem words_full {s : Bs} (h : [] ∉ pcs 32 ((s ++ [32]).take (s.length + 1))) : wordsS s = (pcs 32 ((s ++ [32]).take (s.length + 1)), 0) := by
  have e : (s ++ [32]).take (s.length + 1) = s ++ [32] := List.take_of_length_le (by simp)
  rw [e, (pcs_end 32 s).1] at h ⊢
  unfold wordsS
  rw [if_neg h]
theorem words_next {s : Bs} {i : Nat} (hi : i ≤ s.length) (hc : (s ++ [32])[i]'(by simp; omega) = 32) (hne : ¬ i = atS 32 (s ++ [32]) i) (h : [] ∉ pcs 32 ((s ++ [32]).take i)) : [] ∉ pcs 32 ((s ++ [32]).take (i + 1)) := by
  rw [pcs_hit (by simp; omega) hc]
  have hl : (lst 32 ((s ++ [32]).take i)).length = i - atS 32 (s ++ [32]) i := lst_len (by simp; omega)
  have hle := atS_le 32 (s ++ [32]) i
  intro hm
  rcases List.mem_append.1 hm with hm | hm
  · exact h hm
  · simp only [List.mem_singleton] at hm
    rw [← hm] at hl
    simp at hl
    omega
theorem words_back {s : Bs} (h : (wordsS s).2 = 0) : Lib.join (wordsS s).1 [32] = s := by
  unfold wordsS at h ⊢
  split
  · rename_i he; rw [if_pos he] at h; cases h
  · exact join_split 32 s
theorem words_two (s : Bs) : (wordsS s).2 = 0 ∨ wordsS s = ([], 2) := by
  unfold wordsS
  split
  · exact .inr rfl
  · exact .inl rfl
theorem words_of {l : List Bs} (hl : l ≠ []) (h : ∀ x ∈ l, 32 ∉ x ∧ x ≠ []) : wordsS (Lib.join l [32]) = (l, 0) := by
  unfold wordsS
  rw [split_join 32 l hl (fun x hx => (h x hx).1), if_neg (fun hm => (h _ hm).2 rfl)]
theorem join_take_len (c : UInt8) : ∀ (l : List Bs) (m : Nat), (∀ x ∈ l, x.length ≤ m) → (Lib.join l [c]).length ≤ l.length * (m + 1)
  | [], _, _ => Nat.zero_le _
  | [x], m, h => by rw [Lib.join_one]; have := h x (by simp); simp; omega
  | x :: y :: r, m, h => by
    have ih := join_take_len c (y :: r) m (fun z hz => h z (by simp [hz]))
    have hx := h x (by simp)
    rw [join_two, List.length_append, List.length_append, List.length_singleton]
    rw [List.length_cons (a := x), Nat.add_mul]
    omega
theorem join_step {l : List Bs} {i : Nat} (h : i < l.length) : Lib.join (l.take (i + 1)) [32] = if i = 0 then l[i] else Lib.join (l.take i) [32] ++ [32] ++ l[i] := by
  rw [List.take_add_one, List.getElem?_eq_getElem h]
  simp only [Option.toList_some]
  split
  · rename_i h0
    subst h0
    rw [List.take_zero, List.nil_append, Lib.join_one]
  · rename_i h0
    exact join_snoc _ _ _ (fun e => by rw [List.take_eq_nil_iff] at e; rcases e with e | e; exact h0 e; subst e; simp at h)
end Go.Proofs.YtngoaapgdfohjaaGreatDoor.X
