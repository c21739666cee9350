/- Own text. -/
import Derived.Test.YtngoaapgdfohjaaGreatDoorW19
set_option linter.unusedVariables false
set_option linter.unusedSimpArgs false
set_option maxRecDepth 100000
namespace Go.Proofs.YtngoaapgdfohjaaGreatDoor.T27
open Go Go.Proofs.YtngoaapgdfohjaaGreatDoor.X Go.Proofs Go.Proofs.YtngoaapgdfohjaaGreatDoor.T28 Go.Proofs.YtngoaapgdfohjaaGreatDoor.TS Go.Proofs.YtngoaapgdfohjaaGreatDoor.TK
/-! ## What is parsed has just this text (plain) -/
theorem decS_cons (x y : UInt8) (r : Bs) : decS (x :: y :: r) = (16 * digI (x.toNat : Int) + digI (y.toNat : Int)) :: decS r := by
  unfold decS
  rw [show (x :: y :: r).length / 2 = r.length / 2 + 1 by simp only [List.length_cons]; omega, List.range_succ_eq_map, List.map_cons, List.map_map]
  congr 1
theorem mac_RS (key : List Int) (ho : Oc key) (s : Bs) : macS key [byts s] = macR key (byts s) := by
  have := mac_eq key [byts s] ho (by simpa using byts_oc s)
  simpa using this
end Go.Proofs.YtngoaapgdfohjaaGreatDoor.T27
