/- Own text. -/
import Derived.Test.YtngoaapgdfohjaaDoorH8
set_option linter.unusedVariables false
set_option linter.unusedSimpArgs false
namespace Go.Proofs.YtngoaapgdfohjaaDoor.T27K
open Go Go.Proofs.YtngoaapgdfohjaaDoor.X Go.Proofs Go.Proofs.YtngoaapgdfohjaaDoor.T27
abbrev callCells (r : Rul) (d : Int) (ky : List Int) (A : Option Addr) (c : Nat) : List Value := [.int .i64 r.way, .int .i64 r.size, .int .i64 d, .slice A ky.length c]
section
variable {H : Type} {enc : TypeId × Value → H} {P : Program} {w : World} {base : Nat} {spare : Nat → Bool} {held : Bool}
theorem open_u8 {t : TypeId} (ht : leaves P 9 t = some [.int .u8]) {n : Nat} {cs : List Value} {x : DataW H × List MemPlace} (h : DataW.trod enc P w base spare held n t cs = some x) : ∃ a : Int, True ∧ (Knd.int .u8).R (hp w) a cs := by
  obtain ⟨v0, r0, rfl, ⟨d, rfl, h0⟩, rfl⟩ := leafs_of _ _ _ ht _ _ _ h
  exact ⟨d, trivial, rfl⟩
theorem open_call {t te : TypeId} (he : leaves P 9 te = some [.int .u8]) (hse : P.cellsOf te = 1) (ht : leaves P 9 t = some [.int .i64, .int .i64, .int .i64, .sl te]) {n : Nat} {cs : List Value} {x : DataW H × List MemPlace} (h : DataW.trod enc P w base spare held n t cs = some x) :
    ∃ (r : Rul) (d : Int) (ky : List Int) (A : Option Addr) (c : Nat), cs = callCells r d ky A c ∧ ky.length ≤ c ∧ ky.length ≤ 9223372036854775807 ∧ I64 d ∧ Rd (Knd.int .u8) (hp w) A ky := by
  obtain ⟨v0, r0, rfl, ⟨a0, rfl, h0⟩, v1, r1, rfl, ⟨a1, rfl, h1⟩, v2, r2, rfl, ⟨a2, rfl, h2⟩, v3, r3, rfl, h3, rfl⟩ := leafs_of _ _ _ ht _ _ _ h
  obtain ⟨A1, xs1, c1, rfl, f1, f2, f3, f4⟩ := h3.list (K := Knd.int .u8) (fun n cs x h => open_u8 he h) hse
  exact ⟨⟨a0, a1⟩, a2, xs1, A1, c1, rfl, f1, by omega, i64_of h2, f4⟩
end
end Go.Proofs.YtngoaapgdfohjaaDoor.T27K
