/- A text parted at a byte: plain laws. -/
import Derived.Test.YtngoaapgdfohjaaGreatDoorX16
import Derived.Lib.Split
import Derived.Lib.CountLaws
import Derived.Lib.CutLaws
import Derived.Lib.IndexBytes
set_option linter.unusedVariables false
set_option linter.unusedSimpArgs false
namespace Go.Proofs.YtngoaapgdfohjaaGreatDoor.X
open Go
/-! ## A text parted at a byte -/
def splitS (c : UInt8) : Bs → List Bs
  | [] => [[]]
  | b :: r => if b = c then [] :: splitS c r else match splitS c r with
    | [] => [[b]]
    | x :: y => (b :: x) :: y
theorem splitS_ne (c : UInt8) : ∀ s : Bs, splitS c s ≠ []
  | [] => by simp [splitS]
  | b :: r => by
    unfold splitS
    split
    · simp
    · split <;> simp
theorem splitS_miss (c : UInt8) : ∀ {s : Bs}, Lib.indexByte s c = -1 → splitS c s = [s]
  | [], _ => rfl
  | b :: r, h => by
    unfold Lib.indexByte at h
    split at h
    · cases h
    · rename_i hb
      have hne : ¬ b = c := by simpa using hb
      have h1 : Lib.indexByte r c = -1 := by
        split at h
        · rename_i h2; simpa using h2
        · have := Lib.indexByte_ge r c; omega
      unfold splitS
      rw [if_neg hne, splitS_miss c h1]
theorem splitS_hit (c : UInt8) : ∀ {s : Bs} {i : Nat}, Lib.indexByte s c = (i : Int) → splitS c s = s.take i :: splitS c (s.drop (i + 1))
  | [], i, h => by simp [Lib.indexByte] at h
  | b :: r, i, h => by
    unfold Lib.indexByte at h
    split at h
    · rename_i hb
      have he : b = c := by simpa using hb
      have : i = 0 := by omega
      subst this; subst he
      simp [splitS]
    · rename_i hb
      have hne : ¬ b = c := by simpa using hb
      split at h
      · have := Lib.indexByte_ge r c; omega
      · rename_i h2
        have h3 : Lib.indexByte r c ≠ -1 := by simpa using h2
        have := Lib.indexByte_ge r c
        obtain ⟨j, rfl⟩ : ∃ j, i = j + 1 := ⟨i - 1, by omega⟩
        have h1 : Lib.indexByte r c = (j : Int) := by omega
        have e : splitS c (b :: r) = match splitS c r with
          | [] => [[b]]
          | x :: y => (b :: x) :: y := by rw [splitS, if_neg hne]
        rw [e, splitS_hit c h1]
        simp
theorem split_lib (c : UInt8) : ∀ (k : Nat) (s : ByteArray), Lib.countB s ⟨#[c]⟩ = k → (Lib.splitB ⟨#[c]⟩ 0 k s).map (·.data.toList) = splitS c s.data.toList := by
  intro k
  induction k with
  | zero =>
    intro s h
    have hi : Lib.indexB s ⟨#[c]⟩ = -1 := by
      rcases Lib.indexB_cases s ⟨#[c]⟩ with h1 | ⟨i, h1, h2⟩
      · exact h1
      · have := Lib.countB_hit s ⟨#[c]⟩ i (Nat.le_refl 1) h1
        omega
    have h1 : Lib.indexByte s.data.toList c = -1 := by rw [← Lib.index_one]; exact hi
    rw [splitS_miss c h1]
    rfl
  | succ k ih =>
    intro s h
    rcases Lib.indexB_cases s ⟨#[c]⟩ with h1 | ⟨i, h1, h2⟩
    · have := Lib.countB_miss s ⟨#[c]⟩ h1
      omega
    · have h3 := Lib.countB_hit s ⟨#[c]⟩ i (Nat.le_refl 1) h1
      have h4 : Lib.indexByte s.data.toList c = (i : Int) := by rw [← Lib.index_one]; exact h1
      rw [Lib.splitB_hit _ _ _ _ i h1, List.map_cons, ih _ (by omega), splitS_hit c h4]
      congr 1
      · simp
      · congr 1
        simp
        show List.take (s.size - (i + 1)) (List.drop (i + 1) s.data.toList) = List.drop (i + 1) s.data.toList
        rw [List.take_of_length_le]
        rw [List.length_drop]
        exact Nat.le_refl _
end Go.Proofs.YtngoaapgdfohjaaGreatDoor.X
