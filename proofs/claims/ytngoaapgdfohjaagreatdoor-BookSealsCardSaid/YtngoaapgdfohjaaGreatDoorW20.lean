/- Own text. -/
import Derived.Test.YtngoaapgdfohjaaGreatDoorV2
set_option linter.unusedVariables false
set_option linter.unusedSimpArgs false
set_option maxRecDepth 100000
set_option maxHeartbeats 4000000
namespace Go.Proofs.YtngoaapgdfohjaaGreatDoor.T27
open Go Go.Proofs.YtngoaapgdfohjaaGreatDoor.X Go.Proofs Go.Proofs.YtngoaapgdfohjaaGreatDoor.T28 Go.Proofs.YtngoaapgdfohjaaGreatDoor.TS Go.Proofs.YtngoaapgdfohjaaGreatDoor.TK
/-! ## The law: what is parsed is right, and has just this text -/
section
variable {P : Program} {N : Nat} {D : List Deferred} {w0 : World} {G0 : Heap} {K0 : List Nat} {ops : Array Oper} {G : Heap} {L : List (Nat × Value)} {M : List Chunk} {d : Nat} {ty : TypeId} {pos : String} {af : Array Edge} {x y : Operand}
theorem p_eqF {a b c e : Int} {t t' : Nat} [q : EqG P t [.int .i64, .int .i64]] (hN : Nat.blt d N = true) (hx : ev L x = some (.agg #[.int .i64 a, .int .i64 b])) (hy : ev L y = some (.agg #[.int .i64 c, .int .i64 e])) (hbe : b = e) : Stp P N D w0 G0 K0 ops G L M ⟨some d, .binOp .eql t x y t', ty, pos, af, none⟩ d (.bool (decide (a = c))) :=
  Stp.pure fun Q rest a' w G2 hl2 E S kk => o_eqG E hN hx hy q.h rfl (by subst hbe; simp [eqVs, eqV]) kk
end
section
attribute [local irreducible] parseB bookB printB BK0
end
end Go.Proofs.YtngoaapgdfohjaaGreatDoor.T27
