/- The row of the law ValueSorts: its arguments opened, its walk used, its old memory kept. -/
import Derived.Test.YtjmffmfcddnjbaaDoorX15
import Derived.Test.YtjmffmfcddnjbaaDoorA7
import Derived.WalkKit
import Derived.ProofKit
import Derived.OpenShut
import Derived.ShutString
import Derived.ChangeOld
import Derived.Below
import Derived.Carry
import Derived.SizedLaws
import Derived.LaidMore
import Derived.Stop.Joined
import Derived.Handed
import Derived.SevenTiedAt
import Derived.Test.YtjmffmfcddnjbaaDoorRows
import Derived.Test.YtjmffmfcddnjbaaDoorCards
import Derived.Test.YtjmffmfcddnjbaaDoorTie
namespace Go.Proofs.YtjmffmfcddnjbaaDoor.valueSorts
open Go Go.Proofs.YtjmffmfcddnjbaaDoor.X Go.ChangeShapes Go.WideShapes Go.ChangeAt Go.RowKit
open Go.ChangeMaps (open_string shut_string)
set_option linter.unusedVariables false
theorem own : ownKnob Tryd.prog.godebug = none := by kernel_rfl
theorem laidOut : laidOutB Tryd.prog = true := by kernel_rfl
theorem lv : leaves Tryd.prog 9 25 = some [.int .i64, .int .i64, .str] := by kernel_rfl
theorem sv : Tryd.prog.cellsOf 25 = 3 := by kernel_rfl
theorem lvs : leaves Tryd.prog 9 37 = some [.sl 25] := by kernel_rfl
theorem gl0 : Tryd.prog.globalNamed "incognito/value.yes" = some 0 := by kernel_rfl
theorem tl0 : (Tryd.prog.globals[0]?).map (·.type) = some 25 := by kernel_rfl
theorem ll0 : leaves Tryd.prog 9 25 = some [.int .i64, .int .i64, .str] := by kernel_rfl
theorem gl1 : Tryd.prog.globalNamed "incognito/value.no" = some 1 := by kernel_rfl
theorem tl1 : (Tryd.prog.globals[1]?).map (·.type) = some 25 := by kernel_rfl
theorem ll1 : leaves Tryd.prog 9 25 = some [.int .i64, .int .i64, .str] := by kernel_rfl
theorem door_met (os : Os) (args : Array Value) : laidMetH Tryd.prog Rows.valueSortsRow.laid ((World.doorLaid Tryd.prog 400 os).forCall (fun _ _ => 0) ⟨#[], args, []⟩).memory :=
  laidMetH_of_parts3 (fuel := 8) (laidMet_of_run' 8 (by kernel_rfl) (by kernel_rfl)) (by kernel_rfl) (by kernel_rfl)
theorem of_laid {W : World} (h : laidMetH Tryd.prog Rows.valueSortsRow.laid W) : CellsAt (hp W) 0 0 [.int .i64 3, .int .i64 1, X.str []] ∧ CellsAt (hp W) 1 0 [.int .i64 3, .int .i64 0, X.str []] := by
  rw [MakeChecks.laidMetH_plain _ _ _ (by kernel_rfl)] at h
  obtain ⟨ps, ⟨g0, t0, cs0, f0, p0, q0, hg0, ht0, hv0, hd0, ⟨g1, t1, cs1, f1, p1, q1, hg1, ht1, hv1, hd1, _, _⟩, _⟩, _, _⟩ := h
  obtain rfl := Option.some.inj (gl0.symm.trans hg0)
  obtain rfl := Option.some.inj (tl0.symm.trans ht0)
  have e0 : cs0.toList = [.int .i64 3, .int .i64 1, X.str []] := lits_of 9 25 _ ll0 _ _ _ hd0 _ (.agg (.cons .int (.cons .int (.cons .str .nil))))
  have c0 := var_at gl0 hv0
  rw [e0] at c0
  obtain rfl := Option.some.inj (gl1.symm.trans hg1)
  obtain rfl := Option.some.inj (tl1.symm.trans ht1)
  have e1 : cs1.toList = [.int .i64 3, .int .i64 0, X.str []] := lits_of 9 25 _ ll1 _ _ _ hd1 _ (.agg (.cons .int (.cons .int (.cons .str .nil))))
  have c1 := var_at gl1 hv1
  rw [e1] at c1
  exact ⟨c0, c1⟩
set_option maxRecDepth 100000 in
set_option maxHeartbeats 4000000 in
theorem lifted (os : Os) (started : os.Started) (H : Type) (enc : TypeId × Value → H) :
    ReturnsInHanded {} Tryd.checked os 7 .any (fun w args => (Rows.valueSortsSpec.pre enc Tryd.prog Tryd.f7 [] false w args ∧ laidMetH Tryd.prog Rows.valueSortsRow.laid w) ∧ sizedMet enc Tryd.prog Tryd.f7 (OpenSpec.ofChange Rows.valueSortsSpec) false w args)
      (Rows.valueSortsSpec.post enc Tryd.prog Tryd.f7 false true false false) := by
  refine returnsInHanded_of_change_and (C := Tryd.checked) (X := fun w _ => laidMetH Tryd.prog Rows.valueSortsRow.laid w) (fun _ _ _ hh h => h.of_heap hh) own started (by kernel_rfl) Tryd.func7
    (ChangeSpec.witness_shaped (enc := enc) (C := Tryd.checked) (os := os) (X := fun w _ => laidMetH Tryd.prog Rows.valueSortsRow.laid w) false (World.doorLaid Tryd.prog 400 os) #[.slice none 0 0] 8 rfl (World.shaped_of_RefB (by kernel_rfl) (by kernel_rfl)) (by kernel_rfl) (by kernel_rfl) (by kernel_rfl) (door_met os _)) ?_
  intro W base args ds gs before hval0 hW _ hsz0 hL _
  obtain ⟨hg0, hg1⟩ := of_laid hL
  have hval : ∀ (j : Nat) t v, Tryd.f7.params[j]? = some t → args[j]? = some v → Value.okWide Tryd.prog W .any base t v := hval0
  have hW' := hW
  obtain ⟨p, q, hA0, hV, rfl, hfz, hnd⟩ := hW
  have hA : DataW.TrodAll enc Tryd.prog W 0 (fun _ => true) true Tryd.f7.params.toList args.toList ds p := hA0
  rw [Tryd.params7] at hA hval
  obtain ⟨v0, vs0, d0, ds0, p0, q0, hargs, rfl, rfl, h0, r0⟩ := trodAll_cons hA
  obtain ⟨rfl, rfl, rfl⟩ := trodAll_nil r0
  obtain rfl : args = #[v0] := by cases args; simp_all
  obtain ⟨rfl, rfl⟩ := trodVars_none hV
  have k0 := h0
  have lt0 : ∀ x ∈ p0, x.block < W.heap.size := by obtain ⟨m, hm⟩ := k0; exact DataW.trod_lt m _ _ _ hm
  obtain ⟨A0, len0, c0, rfl⟩ := okWide_slice Tryd.underlying37 (hval 0 37 v0 rfl rfl)
  obtain ⟨_, x0, _, e0, cl0, cm0, wf0, rd0⟩ := open_vals lv sv lvs h0 rfl
  cases e0
  have ln0 : x0.length ≤ 9223372036854775807 := by omega
  clear hA0 hval0 hsz0
  refine (T7.law_ValueSorts x0 A0 c0 W (hp W) sub_hp hg0 hg1 rd0 ln0).mono fun e W' he => ?_
  obtain ⟨v, rfl, bel, rfl⟩ : ∃ v, e = .returned v ∧ Below W.heap.size W W' ∧ v = .bool true := by
    cases e with
    | returned v => obtain ⟨G', M', aft, rfl, rfl⟩ := he; exact ⟨_, rfl, aft.below, rfl⟩
    | panicked c => obtain ⟨G', M', aft, h⟩ := he; exact h.elim
    | outgrown => exact he.elim
  exact ⟨_, rfl, _, _, _, [], _, [], hW', trodAll_mk1 (shut_bool Tryd.underlying4 _), (trodAll_cons_mk (Below.trod laidOut (by kernel_rfl) (of_decide_eq_true (by kernel_rfl)) k0 bel lt0) trodAll_mk0), rfl, bel.frame _, fun h => by cases h⟩
theorem over : Rows.valueSortsRow.holds Tryd.pinned (OpenSpec.ofChange Rows.valueSortsSpec) :=
  OpenClaim.holds_of_wide 7 Tryd.f7 rfl rfl rfl rfl rfl rfl rfl ⟨rfl, rfl, rfl, rfl, rfl⟩ rfl rfl rfl rfl rfl (by kernel_rfl) Tryd.func7 (by kernel_rfl)
    (of_decide_eq_true (by kernel_rfl)) (by unfold Func.isWrapper; first | (rw [if_pos (by decide +kernel)]; kernel_rfl) | (rw [if_neg (by decide +kernel)]; exact ⟨rfl, rfl⟩))
    (fun os started H enc _ => lifted os started H enc)
theorem proved : Rows.ValueSortsSaid := over
theorem card : Rows.ValueSortsCardSaid :=
  Claim7.holds_tied_plain_at .later [] [.data, .data] true (true, "39cd94de9b2a3fae57b0cfe8890e29be3f78a6276a03669c756bf4ed9d06dd46") true
    proved (fun _ h => by cases h) (by kernel_rfl) (fun _ h => by cases h) valueSorts_row_tie rfl ⟨rfl, rfl⟩ (by kernel_rfl) rfl
    (fun f fn hf hfn => by
      obtain rfl : f = 7 := Option.some.inj ((show Tryd.prog.funcNamed Rows.valueSortsRow.func = some 7 by kernel_rfl).symm.trans hf) |>.symm
      obtain rfl : fn = Tryd.f7 := (Option.some.inj (Tryd.func7.symm.trans hfn)).symm
      exact ⟨by kernel_rfl, fun j t ht => by
        rw [Tryd.params7] at ht
        have hm : t ∈ [37] := by simpa using Array.mem_of_getElem? ht
        have hall : ([37].all fun u => !Tryd.prog.wantsStandIn u) = true := by kernel_rfl
        exact (show Tryd.prog.wantsStandIn t = false by simpa using List.all_eq_true.1 hall t hm)⟩)
    (by kernel_rfl)
#print axioms card
end Go.Proofs.YtjmffmfcddnjbaaDoor.valueSorts
namespace Go.Proofs.YtjmffmfcddnjbaaDoor
/-- The row, under a short name, for the claim. -/
theorem valueSorts_holds : Rows.ValueSortsCardSaid := valueSorts.card
end Go.Proofs.YtjmffmfcddnjbaaDoor
