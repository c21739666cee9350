/- The row of the law UnveilApplies: its arguments opened, its walk used, its old memory kept. -/
import Derived.Test.YtnfadpkhjfillaaDoorX16
import Derived.Test.YtnfadpkhjfillaaDoorX35
import Derived.Test.YtnfadpkhjfillaaDoorU16
import Derived.WalkKit
import Derived.ProofKit
import Derived.OpenShut
import Derived.ShutString
import Derived.ChangeOld
import Derived.Below
import Derived.Carry
import Derived.SizedLaws
import Derived.LaidMore
import Derived.Lay
import Derived.Stop.Joined
import Derived.Handed
import Derived.SevenTiedAt
import Derived.Test.YtnfadpkhjfillaaDoorRows
import Derived.Test.YtnfadpkhjfillaaDoorCards
import Derived.Test.YtnfadpkhjfillaaDoorTie
namespace Go.Proofs.YtnfadpkhjfillaaDoor.unveilApplies
open Go Go.Proofs.YtnfadpkhjfillaaDoor.X Go.ChangeShapes Go.WideShapes Go.ChangeAt Go.RowKit
open Go.ChangeMaps (open_string shut_string)
set_option linter.unusedVariables false
theorem own : ownKnob Tryd.prog.godebug = none := by kernel_rfl
theorem laidOut : laidOutB Tryd.prog = true := by kernel_rfl
theorem lbe : leaves Tryd.prog 9 71 = some [.int .i64, .int .i64, .int .i64, .str, .int .i64, .int .i64, .str] := by kernel_rfl
theorem sbe : Tryd.prog.cellsOf 71 = 7 := by kernel_rfl
theorem lbm : leaves Tryd.prog 9 74 = some [.int .i64, .int .i64] := by kernel_rfl
theorem sbm : Tryd.prog.cellsOf 74 = 2 := by kernel_rfl
theorem lbr : leaves Tryd.prog 9 76 = some [.int .i64, .str] := by kernel_rfl
theorem sbr : Tryd.prog.cellsOf 76 = 2 := by kernel_rfl
theorem lbk : leaves Tryd.prog 9 32 = some [.int .i64, .int .i64, .int .i64, .int .i64, .int .i64, .int .i64, .int .i64, .int .i64, .int .i64, .int .i64, .int .i64, .int .i64, .bool, .bool, .sl 71, .sl 74, .sl 76] := by kernel_rfl
theorem byt : Tryd.prog.bytesOf 49 = 32 := by kernel_rfl
theorem lv : leaves Tryd.prog 9 49 = some [.int .i64, .int .i64, .str] := by kernel_rfl
theorem sv : Tryd.prog.cellsOf 49 = 3 := by kernel_rfl
theorem le_ : leaves Tryd.prog 9 52 = some [.int .i64, .int .i64, .int .i64, .str, .int .i64, .int .i64, .int .i64, .int .i64, .str, .int .i64, .sl 49, .sl 49, .bool, .str] := by kernel_rfl
theorem se : Tryd.prog.cellsOf 52 = 14 := by kernel_rfl
theorem lh : leaves Tryd.prog 9 22 = some [.sl 52] := by kernel_rfl
theorem gl0 : Tryd.prog.globalNamed "incognito/value.yes" = some 0 := by kernel_rfl
theorem tl0 : (Tryd.prog.globals[0]?).map (·.type) = some 49 := by kernel_rfl
theorem ll0 : leaves Tryd.prog 9 49 = some [.int .i64, .int .i64, .str] := by kernel_rfl
theorem gl1 : Tryd.prog.globalNamed "incognito/value.no" = some 1 := by kernel_rfl
theorem tl1 : (Tryd.prog.globals[1]?).map (·.type) = some 49 := by kernel_rfl
theorem ll1 : leaves Tryd.prog 9 49 = some [.int .i64, .int .i64, .str] := by kernel_rfl
theorem of_laid {W : World} (h : laidMetH Tryd.prog Rows.unveilAppliesRow.laid W) : CellsAt (hp W) 0 0 [.int .i64 3, .int .i64 1, X.str []] ∧ CellsAt (hp W) 1 0 [.int .i64 3, .int .i64 0, X.str []] := by
  rw [MakeChecks.laidMetH_plain _ _ _ (by kernel_rfl)] at h
  obtain ⟨ps, ⟨g0, t0, cs0, f0, p0, q0, hg0, ht0, hv0, hd0, ⟨g1, t1, cs1, f1, p1, q1, hg1, ht1, hv1, hd1, _, _⟩, _⟩, _, _⟩ := h
  obtain rfl := Option.some.inj (gl0.symm.trans hg0)
  obtain rfl := Option.some.inj (tl0.symm.trans ht0)
  have e0 : cs0.toList = [.int .i64 3, .int .i64 1, X.str []] := lits_of 9 49 _ ll0 _ _ _ hd0 _ (.agg (.cons .int (.cons .int (.cons .str .nil))))
  have c0 := var_at gl0 hv0
  rw [e0] at c0
  obtain rfl := Option.some.inj (gl1.symm.trans hg1)
  obtain rfl := Option.some.inj (tl1.symm.trans ht1)
  have e1 : cs1.toList = [.int .i64 3, .int .i64 0, X.str []] := lits_of 9 49 _ ll1 _ _ _ hd1 _ (.agg (.cons .int (.cons .int (.cons .str .nil))))
  have c1 := var_at gl1 hv1
  rw [e1] at c1
  exact ⟨c0, c1⟩
set_option maxRecDepth 100000 in
set_option maxHeartbeats 4000000 in
theorem lifted (os : Os) (started : os.Started) (H : Type) (enc : TypeId × Value → H) :
    ReturnsInHanded {} Tryd.checked os 3 .any (fun w args => (Rows.unveilAppliesSpec.pre enc Tryd.prog Tryd.f3 [] false w args ∧ laidMetH Tryd.prog Rows.unveilAppliesRow.laid w) ∧ sizedMet enc Tryd.prog Tryd.f3 (OpenSpec.ofChange Rows.unveilAppliesSpec) false w args)
      (Rows.unveilAppliesSpec.post enc Tryd.prog Tryd.f3 false true false false) := by
  refine returnsInHanded_of_change_and (C := Tryd.checked) (X := fun w _ => laidMetH Tryd.prog Rows.unveilAppliesRow.laid w) (fun _ _ _ hh h => h.of_heap hh) own started (by kernel_rfl) Tryd.func3
    (ChangeSpec.witness_shaped (enc := enc) (C := Tryd.checked) (os := os) (X := fun w _ => laidMetH Tryd.prog Rows.unveilAppliesRow.laid w) false (World.laidAll Tryd.prog os Rows.unveilAppliesRow.laid) #[.slice none 0 0, .agg #[.int .i64 0, .int .i64 0, .int .i64 0, .int .i64 0, .int .i64 0, .int .i64 0, .int .i64 0, .int .i64 0, .int .i64 0, .int .i64 0, .int .i64 0, .int .i64 0, .bool false, .bool false, .slice none 0 0, .slice none 0 0, .slice none 0 0]] 8 (World.laidAll_os _ _ _) (World.shaped_of_ZipB (by kernel_rfl) (by kernel_rfl)) (by kernel_rfl) (by kernel_rfl) (by kernel_rfl) (by rw [MakeChecks.laidMetH_plain _ _ _ (by kernel_rfl)]; exact laidMet_laidAll _ (by kernel_rfl) (by kernel_rfl))) ?_
  intro W base args ds gs before hval0 hW _ hsz0 hL _
  obtain ⟨hg0, hg1⟩ := of_laid hL
  have hval : ∀ (j : Nat) t v, Tryd.f3.params[j]? = some t → args[j]? = some v → Value.okWide Tryd.prog W .any base t v := hval0
  have hW' := hW
  obtain ⟨p, q, hA0, hV, rfl, hfz, hnd⟩ := hW
  have hA : DataW.TrodAll enc Tryd.prog W 0 (fun _ => true) true Tryd.f3.params.toList args.toList ds p := hA0
  rw [Tryd.params3] at hA hval
  obtain ⟨v0, vs0, d0, ds0, p0, q0, hargs, rfl, rfl, h0, r0⟩ := trodAll_cons hA
  obtain ⟨v1, vs1, d1, ds1, p1, q1, rfl, rfl, rfl, h1, r1⟩ := trodAll_cons r0
  obtain ⟨rfl, rfl, rfl⟩ := trodAll_nil r1
  obtain rfl : args = #[v0, v1] := by cases args; simp_all
  obtain ⟨rfl, rfl⟩ := trodVars_none hV
  have k0 := h0
  have lt0 : ∀ x ∈ p0, x.block < W.heap.size := by obtain ⟨m, hm⟩ := k0; exact DataW.trod_lt m _ _ _ hm
  have hz0 : ∀ z ∈ d0.weights Tryd.prog 22, z ≤ reachBytes := fun z hz => by have := List.all_eq_true.1 hsz0 z (DataW.weights_mem_each (j := 0) (t := 22) (d := d0) (by rw [Tryd.params3]; rfl) rfl z hz); simpa using this
  obtain ⟨A0, len0, c0, rfl⟩ := okWide_slice Tryd.underlying22 (hval 0 22 v0 rfl rfl)
  obtain ⟨_, x0, _, e0, cl0, cm0, hb0, wf0, rd0⟩ := open_histW lv sv le_ se lh h0 hz0 rfl
  cases e0
  have ln0 : x0.length ≤ 9223372036854775807 := by omega
  have k1 := h1
  have lt1 : ∀ x ∈ p1, x.block < W.heap.size := by obtain ⟨m, hm⟩ := k1; exact DataW.trod_lt m _ _ _ hm
  obtain ⟨cs1, rfl, _⟩ := okWide_struct Tryd.underlying32 (hval 1 32 v1 rfl rfl)
  obtain ⟨n1, hn1⟩ := h1
  obtain ⟨x1, Ae1, ce1, Am1, cm1, Ar1, cr1, e1, bl1, ew1, rw1, re1, rm1, rr1⟩ := T28.open_book lbe sbe lbm sbm lbr sbr lbk hn1
  obtain rfl : cs1 = (T28.bookCells x1 Ae1 ce1 Am1 cm1 Ar1 cr1).toArray := Array.toList_inj.1 e1
  clear hA0 hval0 hsz0
  refine (T28.law_row byt x0 A0 c0 x1 Ae1 ce1 Am1 cm1 Ar1 cr1 W (hp W) sub_hp hg0 hg1 rd0 ln0 wf0 bl1 ew1 rw1 re1 rm1 rr1).mono fun e W' he => ?_
  obtain ⟨v, rfl, bel, rfl⟩ : ∃ v, e = .returned v ∧ Below W.heap.size W W' ∧ v = .bool true := by
    cases e with
    | returned v => obtain ⟨G', M', aft, rfl, rfl⟩ := he; exact ⟨_, rfl, aft.below, rfl⟩
    | panicked c => obtain ⟨G', M', aft, h⟩ := he; exact h.elim
    | outgrown => exact he.elim
  exact ⟨_, rfl, _, _, _, [], _, [], hW', trodAll_mk1 (shut_bool Tryd.underlying4 _), (trodAll_cons_mk (Below.trod laidOut (by kernel_rfl) (of_decide_eq_true (by kernel_rfl)) k0 bel lt0) (trodAll_cons_mk (Below.trod laidOut (by kernel_rfl) (of_decide_eq_true (by kernel_rfl)) k1 bel lt1) trodAll_mk0)), rfl, bel.frame _, fun h => by cases h⟩
theorem over : Rows.unveilAppliesRow.holds Tryd.pinned (OpenSpec.ofChange Rows.unveilAppliesSpec) :=
  OpenClaim.holds_of_wide 3 Tryd.f3 rfl rfl rfl rfl rfl rfl rfl ⟨rfl, rfl, rfl, rfl, rfl⟩ rfl rfl rfl rfl rfl (by kernel_rfl) Tryd.func3 (by kernel_rfl)
    (of_decide_eq_true (by kernel_rfl)) (by unfold Func.isWrapper; first | (rw [if_pos (by decide +kernel)]; kernel_rfl) | (rw [if_neg (by decide +kernel)]; exact ⟨rfl, rfl⟩))
    (fun os started H enc _ => lifted os started H enc)
theorem proved : Rows.UnveilAppliesSaid := over
theorem card : Rows.UnveilAppliesCardSaid :=
  Claim7.holds_tied_plain_at .later [] [.data, .data] true (true, "37d64b6c370696da1417e31e058e83f19ccfcc70369eda566f299f7f952b4bbe") false
    proved (fun _ h => by cases h) (by kernel_rfl) (fun _ h => by cases h) unveilApplies_row_tie rfl ⟨rfl, rfl⟩ (by kernel_rfl) rfl
    (fun f fn hf hfn => by
      obtain rfl : f = 3 := Option.some.inj ((show Tryd.prog.funcNamed Rows.unveilAppliesRow.func = some 3 by kernel_rfl).symm.trans hf) |>.symm
      obtain rfl : fn = Tryd.f3 := (Option.some.inj (Tryd.func3.symm.trans hfn)).symm
      exact ⟨by kernel_rfl, fun j t ht => by
        rw [Tryd.params3] at ht
        have hm : t ∈ [22, 32] := by simpa using Array.mem_of_getElem? ht
        have hall : ([22, 32].all fun u => !Tryd.prog.wantsStandIn u) = true := by kernel_rfl
        exact (show Tryd.prog.wantsStandIn t = false by simpa using List.all_eq_true.1 hall t hm)⟩)
    (by kernel_rfl)
#print axioms card
end Go.Proofs.YtnfadpkhjfillaaDoor.unveilApplies
namespace Go.Proofs.YtnfadpkhjfillaaDoor
/-- The row, under a short name, for the claim. -/
theorem unveilApplies_holds : Rows.UnveilAppliesCardSaid := unveilApplies.card
end Go.Proofs.YtnfadpkhjfillaaDoor
