/- The row of the law AdmitModels: its arguments opened, its walk used, its old memory kept. -/
import Derived.Test.YtdhldmmabhaknaaX11
import Derived.Test.YtdhldmmabhaknaaA1
import Derived.WalkKit
import Derived.ProofKit
import Derived.OpenShut
import Derived.ShutString
import Derived.ChangeOld
import Derived.Below
import Derived.Carry
import Derived.SizedLaws
import Derived.Test.YtdhldmmabhaknaaRows
namespace Go.Proofs.Ytdhldmmabhaknaa.admitModels
open Go Go.Proofs.Ytdhldmmabhaknaa.X Go.ChangeShapes Go.WideShapes Go.ChangeAt Go.RowKit
open Go.ChangeMaps (open_string shut_string)
set_option linter.unusedVariables false
theorem own : ownKnob Try.prog.godebug = none := by kernel_rfl
theorem laidOut : laidOutB Try.prog = true := by kernel_rfl
theorem lv : leaves Try.prog 9 45 = some [.int .i64, .int .i64, .str] := by kernel_rfl
theorem sv : Try.prog.cellsOf 45 = 3 := by kernel_rfl
theorem le_ : leaves Try.prog 9 48 = some [.int .i64, .int .i64, .int .i64, .str, .int .i64, .int .i64, .int .i64, .int .i64, .str, .int .i64, .sl 45, .sl 45, .bool, .str] := by kernel_rfl
theorem se : Try.prog.cellsOf 48 = 14 := by kernel_rfl
theorem lh : leaves Try.prog 9 27 = some [.sl 48] := by kernel_rfl
set_option maxRecDepth 100000 in
set_option maxHeartbeats 4000000 in
theorem lifted (os : Os) (started : os.Started) (H : Type) (enc : TypeId × Value → H) :
    ReturnsInHanded {} Try.checked os 6 .any (Rows.admitModelsSpec.pre6 enc Try.prog Try.f6 Rows.admitModelsRow.domain false) (Rows.admitModelsSpec.post enc Try.prog Try.f6 false true false false) := by
  refine returnsInHanded_of_change_sized (C := Try.checked) own started (by kernel_rfl) Try.func6
    (ChangeSpec.witness6 (enc := enc) (C := Try.checked) false ⟨#[], #[.slice none 0 0], []⟩ 8 (by kernel_rfl) (by kernel_rfl) (by kernel_rfl) (by kernel_rfl)) ?_
  intro W base args ds gs before hval0 hW hcnd hsz0 _
  have hval : ∀ (j : Nat) t v, Try.f6.params[j]? = some t → args[j]? = some v → Value.okWide Try.prog W .any base t v := hval0
  have hW' := hW
  obtain ⟨p, q, hA0, hV, rfl, hfz, hnd⟩ := hW
  have hA : DataW.TrodAll enc Try.prog W 0 (fun _ => true) true Try.f6.params.toList args.toList ds p := hA0
  rw [Try.params6] at hA hval
  obtain ⟨v0, vs0, d0, ds0, p0, q0, hargs, rfl, rfl, h0, r0⟩ := trodAll_cons hA
  obtain ⟨rfl, rfl, rfl⟩ := trodAll_nil r0
  obtain rfl : args = #[v0] := by cases args; simp_all
  obtain ⟨rfl, rfl⟩ := trodVars_none hV
  have k0 := h0
  have lt0 : ∀ x ∈ p0, x.block < W.heap.size := by obtain ⟨m, hm⟩ := k0; exact DataW.trod_lt m _ _ _ hm
  obtain ⟨A0, len0, c0, rfl⟩ := okWide_slice Try.underlying27 (hval 0 27 v0 rfl rfl)
  obtain ⟨_, x0, _, e0, cl0, cm0, wf0, rd0⟩ := open_hist lv sv le_ se lh h0 rfl
  cases e0
  have ln0 : x0.length ≤ 9223372036854775807 := by omega
  clear hA0 hval0 hsz0
  refine (T1.law_AdmitModels x0 A0 c0 W (hp W) sub_hp rd0 ln0).mono fun e W' he => ?_
  obtain ⟨v, rfl, bel, rfl⟩ : ∃ v, e = .returned v ∧ Below W.heap.size W W' ∧ v = .bool true := by
    cases e with
    | returned v => obtain ⟨G', M', aft, rfl, rfl⟩ := he; exact ⟨_, rfl, aft.below, rfl⟩
    | panicked c => obtain ⟨G', M', aft, h⟩ := he; exact h.elim
    | outgrown => exact he.elim
  exact ⟨_, rfl, _, _, _, [], _, [], hW', trodAll_mk1 (shut_bool Try.underlying4 _), (trodAll_cons_mk (Below.trod laidOut (by kernel_rfl) (of_decide_eq_true (by kernel_rfl)) k0 bel lt0) trodAll_mk0), rfl, bel.frame _, fun h => by cases h⟩
theorem over : Rows.admitModelsRow.holds Try.pinned (OpenSpec.ofChange Rows.admitModelsSpec) :=
  OpenClaim.holds_of_wide 6 Try.f6 rfl rfl rfl rfl rfl rfl rfl ⟨rfl, rfl, rfl, rfl, rfl⟩ rfl rfl rfl rfl rfl (by kernel_rfl) Try.func6 (by kernel_rfl)
    (of_decide_eq_true (by kernel_rfl)) (by unfold Func.isWrapper; first | (rw [if_pos (by decide +kernel)]; kernel_rfl) | (rw [if_neg (by decide +kernel)]; exact ⟨rfl, rfl⟩))
    (fun os started H enc _ => lifted os started H enc)
theorem proved : Rows.AdmitModelsSaid := over
#print axioms proved
end Go.Proofs.Ytdhldmmabhaknaa.admitModels
namespace Go.Proofs.Ytdhldmmabhaknaa
/-- The row, under a short name, for the claim. -/
theorem admitModels_holds : Rows.AdmitModelsSaid := admitModels.proved
end Go.Proofs.Ytdhldmmabhaknaa
