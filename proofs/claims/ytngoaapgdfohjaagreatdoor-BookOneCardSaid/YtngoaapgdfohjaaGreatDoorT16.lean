/- Own text. -/
import Derived.Test.YtngoaapgdfohjaaGreatDoorM5
import Derived.Test.YtngoaapgdfohjaaGreatDoorT7
import Derived.Test.YtngoaapgdfohjaaGreatDoorP29
set_option linter.unusedVariables false
set_option linter.unusedSimpArgs false
set_option maxRecDepth 100000
set_option maxHeartbeats 4000000
namespace Go.Proofs.YtngoaapgdfohjaaGreatDoor.T27
open Go Go.Proofs.YtngoaapgdfohjaaGreatDoor.X Go.Proofs Go.Proofs.YtngoaapgdfohjaaGreatDoor.T28 Go.Proofs.YtngoaapgdfohjaaGreatDoor.TS Go.Proofs.YtngoaapgdfohjaaGreatDoor.TK
/-! ## Books: the small walks -/
theorem c_BName (v : Val) (hv : v.Wf) (G : Heap) (g : Gl G) : FnP Tryz.prog 92 [vV v] G (.bool (nameB v)) := by
  refine fnP_in Tryz.func92 rfl Tryz.ntmps92 rfl fun w0 Q0 hQ => ?_
  refine go ?_; intro B1
  refine go ?_
  refine w_stp (p_call rfl rfl rfl (c_Right v hv _ g.up)) ?_
  refine go ?_
  refine w_and (y := decide (v.k = 1) || decide (v.k = 2)) 14 5 rfl (fun h => ?_) (fun h => ?_) ?_
  · refine go ?_
    refine w_or (y := decide (v.k = 2)) 13 9 rfl (fun h => ?_) (fun h => ?_) ?_
    · refine go ?_; exact w_at
    · refine go ?_; exact w_at
    refine go ?_; exact w_at
  · refine go ?_; exact w_at
  refine go ?_
  exact w_ret hQ rfl
theorem c_Contains (s : Bs) (c : UInt8) (G : Heap) : FnP Tryz.prog 50 [str s, str [c]] G (.bool (decide (0 ≤ Lib.indexByte s c))) := fun w hs => calls_same hs (Tryz.strings_Contains_one ⟨List.toArray s⟩ c _)
end Go.Proofs.YtngoaapgdfohjaaGreatDoor.T27
