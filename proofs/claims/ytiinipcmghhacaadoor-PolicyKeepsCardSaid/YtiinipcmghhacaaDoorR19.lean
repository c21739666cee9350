/- The row of the law PolicyKeeps: its arguments opened, its walk used, its old memory kept. -/
import Derived.Test.YtiinipcmghhacaaDoorX11
import Derived.Test.YtiinipcmghhacaaDoorA13
import Derived.WalkKit
import Derived.ProofKit
import Derived.OpenShut
import Derived.ShutString
import Derived.ChangeOld
import Derived.Below
import Derived.Carry
import Derived.SizedLaws
import Derived.LaidMore
import Derived.Lay
import Derived.Stop.Joined
import Derived.Handed
import Derived.SevenTiedAt
import Derived.Test.YtiinipcmghhacaaDoorRows
import Derived.Test.YtiinipcmghhacaaDoorCards
import Derived.Test.YtiinipcmghhacaaDoorTie
namespace Go.Proofs.YtiinipcmghhacaaDoor.policyKeeps
open Go Go.Proofs.YtiinipcmghhacaaDoor.X Go.ChangeShapes Go.WideShapes Go.ChangeAt Go.RowKit
open Go.ChangeMaps (open_string shut_string)
set_option linter.unusedVariables false
theorem own : ownKnob Tryd.prog.godebug = none := by kernel_rfl
theorem laidOut : laidOutB Tryd.prog = true := by kernel_rfl
theorem lp : leaves Tryd.prog 9 26 = some [.int .i64, .int .i64, .int .i64, .int .i64, .int .i64, .int .i64, .int .i64, .int .i64, .int .i64, .int .i64, .int .i64, .int .i64, .bool, .bool] := by kernel_rfl
theorem gl1 : Tryd.prog.globalNamed "incognito/policy.domains" = some 0 := by kernel_rfl
theorem tl1 : (Tryd.prog.globals[0]?).map (·.type) = some 86 := by kernel_rfl
theorem ll1 : leaves Tryd.prog 9 86 = some [.str, .str, .str, .str, .str] := by kernel_rfl
theorem gl2 : Tryd.prog.globalNamed "incognito/policy.ways" = some 1 := by kernel_rfl
theorem tl2 : (Tryd.prog.globals[1]?).map (·.type) = some 86 := by kernel_rfl
theorem ll2 : leaves Tryd.prog 9 86 = some [.str, .str, .str, .str, .str] := by kernel_rfl
theorem of_laid {W : World} (h : laidMetH Tryd.prog Rows.policyKeepsRow.laid W) : CellsAt (hp W) 0 0 [X.str [99, 108, 105, 101, 110, 116], X.str [111, 98, 106, 101, 99, 116], X.str [118, 97, 108, 117, 101], X.str [102, 105, 101, 108, 100], X.str [111, 114, 100, 101, 114]] ∧ CellsAt (hp W) 1 0 [X.str [107, 101, 101, 112], X.str [111, 114, 100, 105, 110, 97, 108], X.str [107, 101, 121, 101, 100], X.str [114, 97, 110, 107], X.str [100, 114, 111, 112]] := by
  rw [MakeChecks.laidMetH_plain _ _ _ (by kernel_rfl)] at h
  obtain ⟨ps, ⟨g0, t0, cs0, f0, p0, q0, hg0, ht0, hv0, hd0, ⟨g1, t1, cs1, f1, p1, q1, hg1, ht1, hv1, hd1, ⟨g2, t2, cs2, f2, p2, q2, hg2, ht2, hv2, hd2, ⟨g3, t3, cs3, f3, p3, q3, hg3, ht3, hv3, hd3, _, _⟩, _⟩, _⟩, _⟩, _, _⟩ := h
  obtain rfl := Option.some.inj (gl1.symm.trans hg1)
  obtain rfl := Option.some.inj (tl1.symm.trans ht1)
  have e1 : cs1.toList = [X.str [99, 108, 105, 101, 110, 116], X.str [111, 98, 106, 101, 99, 116], X.str [118, 97, 108, 117, 101], X.str [102, 105, 101, 108, 100], X.str [111, 114, 100, 101, 114]] := lits_of 9 86 _ ll1 _ _ _ hd1 _ (.agg (.cons .str (.cons .str (.cons .str (.cons .str (.cons .str .nil))))))
  have c1 := var_at gl1 hv1
  rw [e1] at c1
  obtain rfl := Option.some.inj (gl2.symm.trans hg2)
  obtain rfl := Option.some.inj (tl2.symm.trans ht2)
  have e2 : cs2.toList = [X.str [107, 101, 101, 112], X.str [111, 114, 100, 105, 110, 97, 108], X.str [107, 101, 121, 101, 100], X.str [114, 97, 110, 107], X.str [100, 114, 111, 112]] := lits_of 9 86 _ ll2 _ _ _ hd2 _ (.agg (.cons .str (.cons .str (.cons .str (.cons .str (.cons .str .nil))))))
  have c2 := var_at gl2 hv2
  rw [e2] at c2
  exact ⟨c1, c2⟩
set_option maxRecDepth 100000 in
set_option maxHeartbeats 4000000 in
theorem lifted (os : Os) (started : os.Started) (H : Type) (enc : TypeId × Value → H) :
    ReturnsInHanded {} Tryd.checked os 4 .any (fun w args => (Rows.policyKeepsSpec.pre enc Tryd.prog Tryd.f4 [] false w args ∧ laidMetH Tryd.prog Rows.policyKeepsRow.laid w) ∧ sizedMet enc Tryd.prog Tryd.f4 (OpenSpec.ofChange Rows.policyKeepsSpec) false w args)
      (Rows.policyKeepsSpec.post enc Tryd.prog Tryd.f4 false true false false) := by
  refine returns_shaped (C := Tryd.checked) (X := fun w _ => laidMetH Tryd.prog Rows.policyKeepsRow.laid w) (fun _ _ _ hh h => h.of_heap hh) own started (by kernel_rfl) Tryd.func4
    (ChangeSpec.witness_shaped (enc := enc) (C := Tryd.checked) (os := os) (X := fun w _ => laidMetH Tryd.prog Rows.policyKeepsRow.laid w) false (World.laidAll Tryd.prog os Rows.policyKeepsRow.laid) #[.agg #[.int .i64 0, .int .i64 0, .int .i64 0, .int .i64 0, .int .i64 0, .int .i64 0, .int .i64 0, .int .i64 0, .int .i64 0, .int .i64 0, .int .i64 0, .int .i64 0, .bool false, .bool false]] 8 (World.laidAll_os _ _ _) (World.shaped_of_ZipB (by kernel_rfl) (by kernel_rfl)) (by kernel_rfl) (by kernel_rfl) (by kernel_rfl) (by rw [MakeChecks.laidMetH_plain _ _ _ (by kernel_rfl)]; exact laidMet_laidAll _ (by kernel_rfl) (by kernel_rfl))) ?_
  intro W base args ds gs before hval0 hW _ hsz0 hL hSh
  obtain ⟨m8, hm8⟩ := cell_of_shapedOpen_int (zero := #[.int .i64 0]) (t := 3) (g := 8) hSh (of_decide_eq_true (by kernel_rfl)) (by kernel_rfl) rfl (by kernel_rfl) (by kernel_rfl) Tryd.underlying3
  have h8 : CellsAt (hp W) 8 0 [.int .i64 m8] := cellsAt_of (fun _ => rfl) hm8
  obtain ⟨hg0, hg1⟩ := of_laid hL
  have hval : ∀ (j : Nat) t v, Tryd.f4.params[j]? = some t → args[j]? = some v → Value.okWide Tryd.prog W .any base t v := hval0
  have hW' := hW
  obtain ⟨p, q, hA0, hV, rfl, hfz, hnd⟩ := hW
  have hA : DataW.TrodAll enc Tryd.prog W 0 (fun _ => true) true Tryd.f4.params.toList args.toList ds p := hA0
  rw [Tryd.params4] at hA hval
  obtain ⟨v0, vs0, d0, ds0, p0, q0, hargs, rfl, rfl, h0, r0⟩ := trodAll_cons hA
  obtain ⟨rfl, rfl, rfl⟩ := trodAll_nil r0
  obtain rfl : args = #[v0] := by cases args; simp_all
  obtain ⟨rfl, rfl⟩ := trodVars_none hV
  have k0 := h0
  have lt0 : ∀ x ∈ p0, x.block < W.heap.size := by obtain ⟨m, hm⟩ := k0; exact DataW.trod_lt m _ _ _ hm
  obtain ⟨cs0, rfl, _⟩ := okWide_struct Tryd.underlying26 (hval 0 26 v0 rfl rfl)
  obtain ⟨x0, wf0, e0⟩ := open_pol lp h0 rfl
  cases e0
  clear hA0 hval0 hsz0
  refine (T10.law_PolicyKeeps x0 W (hp W) sub_hp m8 h8 hg1 hg0).mono fun e W' he => ?_
  obtain ⟨v, rfl, bel, rfl⟩ : ∃ v, e = .returned v ∧ Below W.heap.size W W' ∧ v = .bool true := by
    cases e with
    | returned v => obtain ⟨G', M', aft, rfl, rfl⟩ := he; exact ⟨_, rfl, aft.below, rfl⟩
    | panicked c => obtain ⟨G', M', aft, h⟩ := he; exact h.elim
    | outgrown => exact he.elim
  exact ⟨_, rfl, _, _, _, [], _, [], hW', trodAll_mk1 (shut_bool Tryd.underlying4 _), (trodAll_cons_mk (Below.trod laidOut (by kernel_rfl) (of_decide_eq_true (by kernel_rfl)) k0 bel lt0) trodAll_mk0), rfl, bel.frame _, fun h => by cases h⟩
theorem over : Rows.policyKeepsRow.holds Tryd.pinned (OpenSpec.ofChange Rows.policyKeepsSpec) :=
  OpenClaim.holds_of_wide 4 Tryd.f4 rfl rfl rfl rfl rfl rfl rfl ⟨rfl, rfl, rfl, rfl, rfl⟩ rfl rfl rfl rfl rfl (by kernel_rfl) Tryd.func4 (by kernel_rfl)
    (of_decide_eq_true (by kernel_rfl)) (by unfold Func.isWrapper; first | (rw [if_pos (by decide +kernel)]; kernel_rfl) | (rw [if_neg (by decide +kernel)]; exact ⟨rfl, rfl⟩))
    (fun os started H enc _ => lifted os started H enc)
theorem proved : Rows.PolicyKeepsSaid := over
theorem card : Rows.PolicyKeepsCardSaid :=
  Claim7.holds_tied_plain_at .later [] [.data, .data, .data, .pinned] true (true, "a31718db7ad84fcfa8dcd17e446e75598859848c6417f6a8f0aefa5f9d983264") true
    proved (fun _ h => by cases h) (by kernel_rfl) (fun _ h => by cases h) policyKeeps_row_tie rfl ⟨rfl, rfl⟩ (by kernel_rfl) rfl
    (fun f fn hf hfn => by
      obtain rfl : f = 4 := Option.some.inj ((show Tryd.prog.funcNamed Rows.policyKeepsRow.func = some 4 by kernel_rfl).symm.trans hf) |>.symm
      obtain rfl : fn = Tryd.f4 := (Option.some.inj (Tryd.func4.symm.trans hfn)).symm
      exact ⟨by kernel_rfl, fun j t ht => by
        rw [Tryd.params4] at ht
        have hm : t ∈ [26] := by simpa using Array.mem_of_getElem? ht
        have hall : ([26].all fun u => !Tryd.prog.wantsStandIn u) = true := by kernel_rfl
        exact (show Tryd.prog.wantsStandIn t = false by simpa using List.all_eq_true.1 hall t hm)⟩)
    (by kernel_rfl)
#print axioms card
end Go.Proofs.YtiinipcmghhacaaDoor.policyKeeps
namespace Go.Proofs.YtiinipcmghhacaaDoor
/-- The row, under a short name, for the claim. -/
theorem policyKeeps_holds : Rows.PolicyKeepsCardSaid := policyKeeps.card
end Go.Proofs.YtiinipcmghhacaaDoor
