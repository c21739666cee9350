/- Own text. -/
import Derived.Test.YtngoaapgdfohjaaGreatDoorM5
import Derived.Test.YtngoaapgdfohjaaGreatDoorT7
import Derived.Test.YtngoaapgdfohjaaGreatDoorP29
set_option linter.unusedVariables false
set_option linter.unusedSimpArgs false
set_option maxRecDepth 100000
set_option maxHeartbeats 4000000
namespace Go.Proofs.YtngoaapgdfohjaaGreatDoor.T27
open Go Go.Proofs.YtngoaapgdfohjaaGreatDoor.X Go.Proofs Go.Proofs.YtngoaapgdfohjaaGreatDoor.T28 Go.Proofs.YtngoaapgdfohjaaGreatDoor.TS Go.Proofs.YtngoaapgdfohjaaGreatDoor.TK
/-! ## Books: the small walks -/
theorem c_BName (v : Val) (hv : v.Wf) (G : Heap) (g : Gl G) : FnP Tryz.prog 92 [vV v] G (.bool (nameB v)) := by
  refine fnP_in Tryz.func92 rfl Tryz.ntmps92 rfl fun w0 Q0 hQ => ?_
  refine go ?_; intro B1
  refine go ?_
  refine w_stp (p_call rfl rfl rfl (c_Right v hv _ g.up)) ?_
  refine go ?_
  refine w_and (y := decide (v.k = 1) || decide (v.k = 2)) 14 5 rfl (fun h => ?_) (fun h => ?_) ?_
  · refine go ?_
    refine w_or (y := decide (v.k = 2)) 13 9 rfl (fun h => ?_) (fun h => ?_) ?_
    · refine go ?_; exact w_at
    · refine go ?_; exact w_at
    refine go ?_; exact w_at
  · refine go ?_; exact w_at
  refine go ?_
  exact w_ret hQ rfl
theorem c_Right25 (p : Pol) (G : Heap) : FnP Tryz.prog 51 [vP p] G (.bool (rightB p)) := by
  refine fnP_in Tryz.func51 rfl Tryz.ntmps51 rfl fun w0 Q0 hQ => ?_
  refine go ?_; intro B1
  refine go ?_
  refine w_loop (fun i : Nat => [(3, .int .i64 (i : Int))]) (fun i => [[(B1, Arr 50 (polCells p))]]) (fun i _ => i ≤ 5 ∧ allR p i = true) (fun i => 5 - i) 0 ⟨by omega, rfl⟩ ?_
  rintro i G1 _ ⟨hi, ha⟩
  have hyes : ∀ b, b = true → b = ruledB (i : Int) (rul p i) → allR p (i + 1) = true := fun b h e => by rw [allR_step, ha, ← e, h]; rfl
  have hno : ∀ b, b = false → b = ruledB (i : Int) (rul p i) → i < 5 → rightB p = false := fun b h e hi => allR_no hi (by rw [← e, h])
  refine go ?_
  refine w_cd rfl (fun h3 => ?_) (fun h3 => ?_)
  · have hc : i = 0 ∨ i = 1 ∨ i = 2 ∨ i = 3 ∨ i = 4 := by omega
    rcases hc with rfl | rfl | rfl | rfl | rfl
    all_goals
      refine go ?_
      refine w_stp (p_call rfl rfl rfl (c_RuledR _ _ _)) ?_
      refine go ?_
      refine w_cond rfl (fun h4 => ?_) (fun h4 => ?_)
      · refine go ?_
        refine w_ret hQ ?_
        rw [Bool.not_eq_true'] at h4
        rw [hno _ h4 rfl (by decide)]; rfl
      · refine go ?_
        rw [Bool.not_eq_false'] at h4
        exact w_again (_ + 1) ⟨by omega, hyes _ h4 rfl⟩ (by decide)
  · have : i = 5 := by omega
    subst this
    refine go ?_
    refine w_or (y := decide (p.time = 3)) 22 18 rfl (fun h => ?_) (fun h => ?_) ?_
    · refine go ?_; exact w_at
    · refine go ?_; exact w_at
    refine go ?_
    refine w_and (y := decide (p.note = 0) || decide (p.note = 4)) 32 23 rfl (fun h => ?_) (fun h => ?_) ?_
    · refine go ?_
      refine w_or (y := decide (p.note = 4)) 31 27 rfl (fun h => ?_) (fun h => ?_) ?_
      · refine go ?_; exact w_at
      · refine go ?_; exact w_at
      refine go ?_; exact w_at
    · refine go ?_; exact w_at
    refine go ?_
    refine w_ret hQ ?_
    rw [allR_yes ha]; rfl
theorem bt_is {s : Bs} {i : Nat} (hi : i < s.length) : bt s (i : Int) = 10 ↔ s[i] = 10 := by
  rw [bt_nat hi]
  constructor
  · intro h
    refine UInt8.toNat_inj.1 ?_
    show _ = 10
    omega
  · intro h; rw [h]; rfl
theorem c_Plain (s : Bs) (hl : s.length ≤ 9223372036854775807) (G : Heap) : FnP Tryz.prog 52 [str s] G (.bool (plainB s)) := by
  refine fnP_in Tryz.func52 rfl Tryz.ntmps52 rfl fun w0 Q0 hQ => ?_
  refine go ?_
  refine w_loop (fun i : Nat => [(3, .int .i64 (i : Int))]) (fun _ => []) (fun i _ => i ≤ s.length ∧ ∀ j (hj : j < s.length), j < i → ¬ s[j] = 10) (fun i => s.length - i) 0 ⟨by omega, fun j _ hj => by omega⟩ ?_
  rintro i G1 _ ⟨hi, ha⟩
  refine go ?_
  refine w_cd rfl (fun h3 => ?_) (fun h3 => ?_)
  · have hi' : i < s.length := by omega
    refine go ?_
    refine w_cd rfl (fun h4 => ?_) (fun h4 => ?_)
    · refine go ?_
      refine w_ret hQ ?_
      unfold plainB
      rw [nl_yes hi' ((bt_is hi').1 h4)]; rfl
    · refine go ?_
      refine w_again (i + 1) ⟨by omega, fun j hj hji => ?_⟩ (by omega)
      by_cases e : j = i
      · subst e; exact fun q => h4 ((bt_is hi').2 q)
      · exact ha j hj (by omega)
  · refine go ?_
    refine w_ret hQ ?_
    unfold plainB
    rw [nl_no fun j hj => ha j hj (by omega)]; rfl
theorem c_Contains (s : Bs) (c : UInt8) (G : Heap) : FnP Tryz.prog 50 [str s, str [c]] G (.bool (decide (0 ≤ Lib.indexByte s c))) := fun w hs => calls_same hs (Tryz.strings_Contains_one ⟨List.toArray s⟩ c _)
end Go.Proofs.YtngoaapgdfohjaaGreatDoor.T27
