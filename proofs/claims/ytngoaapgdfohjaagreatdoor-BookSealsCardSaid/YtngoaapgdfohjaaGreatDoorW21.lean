/- Own text. -/
import Derived.Test.YtngoaapgdfohjaaGreatDoorW20
import Derived.Test.YtngoaapgdfohjaaGreatDoorX16
set_option linter.unusedVariables false
set_option linter.unusedSimpArgs false
namespace Go.Proofs.YtngoaapgdfohjaaGreatDoor.T27
open Go Go.Proofs.YtngoaapgdfohjaaGreatDoor.X Go.Proofs Go.Proofs.YtngoaapgdfohjaaGreatDoor.T28 Go.Proofs.YtngoaapgdfohjaaGreatDoor.TK
/-! ## A slice of bytes among the arguments, opened -/
section
variable {H : Type} {enc : TypeId × Value → H} {P : Program} {w : World} {base : Nat} {spare : Nat → Bool} {held : Bool}
theorem open_oct' {t : TypeId} (ht : leaves P 9 t = some [.int .u8]) {n : Nat} {cs : List Value} {x : DataW H × List MemPlace} (h : DataW.trod enc P w base spare held n t cs = some x) : ∃ a : Int, (0 ≤ a ∧ a < 256) ∧ (Knd.int .u8).R (hp w) a cs := by
  obtain ⟨v0, r0, rfl, ⟨d, rfl, h0⟩, rfl⟩ := leafs_of _ _ _ ht _ _ _ h
  have := bounds_u8 h0
  exact ⟨d, by omega, rfl⟩
theorem open_bytes {t te : TypeId} (hte : leaves P 9 te = some [.int .u8]) (hse : P.cellsOf te = 1) (ht : leaves P 9 t = some [.sl te])
    {v : Value} {d : DataW H} {ps : List MemPlace} (h : DataW.Trod enc P w base spare held t v d ps) (hv : v.cells = #[v]) : ∃ A xs c, v = .slice A xs.length c ∧ xs.length ≤ c ∧ c ≤ 9223372036854775807 ∧ Oc xs ∧ Rd (Knd.int .u8) (hp w) A xs := by
  obtain ⟨n, h⟩ := h
  rw [hv] at h
  obtain ⟨u, r, e, h1, rfl⟩ := leafs_of _ _ _ ht _ _ _ h
  simp at e
  subst e
  exact h1.list (K := Knd.int .u8) (fun n cs x hx => open_oct' hte hx) hse
end
end Go.Proofs.YtngoaapgdfohjaaGreatDoor.T27
