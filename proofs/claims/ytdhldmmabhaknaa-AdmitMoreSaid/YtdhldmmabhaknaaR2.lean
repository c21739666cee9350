/- The row of the law AdmitMore: its arguments opened, its walk used, its old memory kept. -/
import Derived.Test.YtdhldmmabhaknaaX11
import Derived.Test.YtdhldmmabhaknaaA1
import Derived.WalkKit
import Derived.ProofKit
import Derived.OpenShut
import Derived.ShutString
import Derived.ChangeOld
import Derived.Below
import Derived.Carry
import Derived.SizedLaws
import Derived.Test.YtdhldmmabhaknaaRows
namespace Go.Proofs.Ytdhldmmabhaknaa.admitMore
open Go Go.Proofs.Ytdhldmmabhaknaa.X Go.ChangeShapes Go.WideShapes Go.ChangeAt Go.RowKit
open Go.ChangeMaps (open_string shut_string)
set_option linter.unusedVariables false
theorem own : ownKnob Try.prog.godebug = none := by kernel_rfl
theorem laidOut : laidOutB Try.prog = true := by kernel_rfl
theorem lv : leaves Try.prog 9 45 = some [.int .i64, .int .i64, .str] := by kernel_rfl
theorem sv : Try.prog.cellsOf 45 = 3 := by kernel_rfl
theorem le_ : leaves Try.prog 9 48 = some [.int .i64, .int .i64, .int .i64, .str, .int .i64, .int .i64, .int .i64, .int .i64, .str, .int .i64, .sl 45, .sl 45, .bool, .str] := by kernel_rfl
theorem se : Try.prog.cellsOf 48 = 14 := by kernel_rfl
theorem lh : leaves Try.prog 9 27 = some [.sl 48] := by kernel_rfl
theorem lp : leaves Try.prog 9 26 = some [.int .i64, .int .i64, .int .i64, .int .i64, .int .i64, .int .i64, .int .i64, .int .i64, .int .i64, .int .i64, .int .i64, .int .i64, .bool, .bool] := by kernel_rfl
set_option maxRecDepth 100000 in
set_option maxHeartbeats 4000000 in
theorem lifted (os : Os) (started : os.Started) (H : Type) (enc : TypeId × Value → H) :
    ReturnsInHanded {} Try.checked os 4 .any (Rows.admitMoreSpec.pre6 enc Try.prog Try.f4 Rows.admitMoreRow.domain false) (Rows.admitMoreSpec.post enc Try.prog Try.f4 false true false false) := by
  refine returnsInHanded_of_change_sized (C := Try.checked) own started (by kernel_rfl) Try.func4
    (ChangeSpec.witness6 (enc := enc) (C := Try.checked) false ⟨#[], #[.agg #[.int .i64 0, .int .i64 0, .int .i64 0, .int .i64 0, .int .i64 0, .int .i64 0, .int .i64 0, .int .i64 0, .int .i64 0, .int .i64 0, .int .i64 0, .int .i64 0, .bool false, .bool false], .slice none 0 0, .slice none 0 0], []⟩ 8 (by kernel_rfl) (by kernel_rfl) (by kernel_rfl) (by kernel_rfl)) ?_
  intro W base args ds gs before hval0 hW hcnd hsz0 _
  have hval : ∀ (j : Nat) t v, Try.f4.params[j]? = some t → args[j]? = some v → Value.okWide Try.prog W .any base t v := hval0
  have hW' := hW
  obtain ⟨p, q, hA0, hV, rfl, hfz, hnd⟩ := hW
  have hA : DataW.TrodAll enc Try.prog W 0 (fun _ => true) true Try.f4.params.toList args.toList ds p := hA0
  rw [Try.params4] at hA hval
  obtain ⟨v0, vs0, d0, ds0, p0, q0, hargs, rfl, rfl, h0, r0⟩ := trodAll_cons hA
  obtain ⟨v1, vs1, d1, ds1, p1, q1, rfl, rfl, rfl, h1, r1⟩ := trodAll_cons r0
  obtain ⟨v2, vs2, d2, ds2, p2, q2, rfl, rfl, rfl, h2, r2⟩ := trodAll_cons r1
  obtain ⟨rfl, rfl, rfl⟩ := trodAll_nil r2
  obtain rfl : args = #[v0, v1, v2] := by cases args; simp_all
  obtain ⟨rfl, rfl⟩ := trodVars_none hV
  have k0 := h0
  have lt0 : ∀ x ∈ p0, x.block < W.heap.size := by obtain ⟨m, hm⟩ := k0; exact DataW.trod_lt m _ _ _ hm
  obtain ⟨cs0, rfl, _⟩ := okWide_struct Try.underlying26 (hval 0 26 v0 rfl rfl)
  obtain ⟨x0, wf0, e0⟩ := open_pol lp h0 rfl
  cases e0
  have k1 := h1
  have lt1 : ∀ x ∈ p1, x.block < W.heap.size := by obtain ⟨m, hm⟩ := k1; exact DataW.trod_lt m _ _ _ hm
  obtain ⟨A1, len1, c1, rfl⟩ := okWide_slice Try.underlying27 (hval 1 27 v1 rfl rfl)
  obtain ⟨_, x1, _, e1, cl1, cm1, wf1, rd1⟩ := open_hist lv sv le_ se lh h1 rfl
  cases e1
  have ln1 : x1.length ≤ 9223372036854775807 := by omega
  have k2 := h2
  have lt2 : ∀ x ∈ p2, x.block < W.heap.size := by obtain ⟨m, hm⟩ := k2; exact DataW.trod_lt m _ _ _ hm
  obtain ⟨A2, len2, c2, rfl⟩ := okWide_slice Try.underlying27 (hval 2 27 v2 rfl rfl)
  obtain ⟨_, x2, _, e2, cl2, cm2, wf2, rd2⟩ := open_hist lv sv le_ se lh h2 rfl
  cases e2
  have ln2 : x2.length ≤ 9223372036854775807 := by omega
  clear hA0 hval0 hsz0
  refine (T1.law_AdmitMore x0 x1 A1 c1 x2 A2 c2 W (hp W) sub_hp rd1 ln1 rd2 ln2).mono fun e W' he => ?_
  obtain ⟨v, rfl, bel, rfl⟩ : ∃ v, e = .returned v ∧ Below W.heap.size W W' ∧ v = .bool true := by
    cases e with
    | returned v => obtain ⟨G', M', aft, rfl, rfl⟩ := he; exact ⟨_, rfl, aft.below, rfl⟩
    | panicked c => obtain ⟨G', M', aft, h⟩ := he; exact h.elim
    | outgrown => exact he.elim
  exact ⟨_, rfl, _, _, _, [], _, [], hW', trodAll_mk1 (shut_bool Try.underlying4 _), (trodAll_cons_mk (Below.trod laidOut (by kernel_rfl) (of_decide_eq_true (by kernel_rfl)) k0 bel lt0) (trodAll_cons_mk (Below.trod laidOut (by kernel_rfl) (of_decide_eq_true (by kernel_rfl)) k1 bel lt1) (trodAll_cons_mk (Below.trod laidOut (by kernel_rfl) (of_decide_eq_true (by kernel_rfl)) k2 bel lt2) trodAll_mk0))), rfl, bel.frame _, fun h => by cases h⟩
theorem over : Rows.admitMoreRow.holds Try.pinned (OpenSpec.ofChange Rows.admitMoreSpec) :=
  OpenClaim.holds_of_wide 4 Try.f4 rfl rfl rfl rfl rfl rfl rfl ⟨rfl, rfl, rfl, rfl, rfl⟩ rfl rfl rfl rfl rfl (by kernel_rfl) Try.func4 (by kernel_rfl)
    (of_decide_eq_true (by kernel_rfl)) (by unfold Func.isWrapper; first | (rw [if_pos (by decide +kernel)]; kernel_rfl) | (rw [if_neg (by decide +kernel)]; exact ⟨rfl, rfl⟩))
    (fun os started H enc _ => lifted os started H enc)
theorem proved : Rows.AdmitMoreSaid := over
#print axioms proved
end Go.Proofs.Ytdhldmmabhaknaa.admitMore
namespace Go.Proofs.Ytdhldmmabhaknaa
/-- The row, under a short name, for the claim. -/
theorem admitMore_holds : Rows.AdmitMoreSaid := admitMore.proved
end Go.Proofs.Ytdhldmmabhaknaa
