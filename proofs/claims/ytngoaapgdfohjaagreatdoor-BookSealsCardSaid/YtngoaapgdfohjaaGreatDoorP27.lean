/- Own text. -/
import Derived.Test.YtngoaapgdfohjaaGreatDoorP1
import Derived.Test.YtngoaapgdfohjaaGreatDoorK18
import Derived.Test.YtngoaapgdfohjaaGreatDoorN2
import Derived.Test.YtngoaapgdfohjaaGreatDoorY12
set_option linter.unusedVariables false
set_option linter.unusedSimpArgs false
namespace Go.Proofs.YtngoaapgdfohjaaGreatDoor.TS
end Go.Proofs.YtngoaapgdfohjaaGreatDoor.TS
namespace Go.Proofs.YtngoaapgdfohjaaGreatDoor.T27
open Go Go.Proofs.YtngoaapgdfohjaaGreatDoor.X Go.Proofs Go.Proofs.YtngoaapgdfohjaaGreatDoor.T28 Go.Proofs.YtngoaapgdfohjaaGreatDoor.TS
/-! ## Names: plain laws -/
def letterS (d : Int) : Bs := if (decide (d < 0) || decide (4 < d)) = true then [] else sub [99, 107, 118, 102, 111] d (d + 1)
theorem letter_out {d : Int} (h : ¬ (0 ≤ d ∧ d ≤ 4)) : letterS d = [] := by
  unfold letterS
  rw [if_pos (by simp; omega)]
/-! The values that a domain takes, each once. -/
/-! The search in a sorted list. -/
open TS in
theorem letter_len (d : Int) : (letterS d).length ≤ 1 := by
  unfold letterS
  split
  · decide
  · unfold sub
    rw [List.length_take]
    omega
def V0 : Val := ⟨0, 0, []⟩
def ENT0 : Ent := ⟨0, ⟨0, 0, []⟩, ⟨0, 0, []⟩⟩
/-! Ranks. -/
end Go.Proofs.YtngoaapgdfohjaaGreatDoor.T27
