/- The row of the law ValueOrder: its arguments opened, its walk used, its old memory kept. -/
import Derived.Test.YthhcgkcnebchhaaDoorX15
import Derived.Test.YthhcgkcnebchhaaDoorA3
import Derived.WalkKit
import Derived.ProofKit
import Derived.OpenShut
import Derived.ShutString
import Derived.ChangeOld
import Derived.Below
import Derived.Carry
import Derived.SizedLaws
import Derived.LaidMore
import Derived.Stop.Joined
import Derived.Handed
import Derived.SevenTiedAt
import Derived.Test.YthhcgkcnebchhaaDoorRows
import Derived.Test.YthhcgkcnebchhaaDoorCards
import Derived.Test.YthhcgkcnebchhaaDoorTie
namespace Go.Proofs.YthhcgkcnebchhaaDoor.valueOrder
open Go Go.Proofs.YthhcgkcnebchhaaDoor.X Go.ChangeShapes Go.WideShapes Go.ChangeAt Go.RowKit
open Go.ChangeMaps (open_string shut_string)
set_option linter.unusedVariables false
theorem own : ownKnob Tryd.prog.godebug = none := by kernel_rfl
theorem laidOut : laidOutB Tryd.prog = true := by kernel_rfl
theorem lv : leaves Tryd.prog 9 25 = some [.int .i64, .int .i64, .str] := by kernel_rfl
theorem gl0 : Tryd.prog.globalNamed "incognito/value.yes" = some 0 := by kernel_rfl
theorem tl0 : (Tryd.prog.globals[0]?).map (·.type) = some 25 := by kernel_rfl
theorem ll0 : leaves Tryd.prog 9 25 = some [.int .i64, .int .i64, .str] := by kernel_rfl
theorem gl1 : Tryd.prog.globalNamed "incognito/value.no" = some 1 := by kernel_rfl
theorem tl1 : (Tryd.prog.globals[1]?).map (·.type) = some 25 := by kernel_rfl
theorem ll1 : leaves Tryd.prog 9 25 = some [.int .i64, .int .i64, .str] := by kernel_rfl
theorem door_met (os : Os) (args : Array Value) : laidMetH Tryd.prog Rows.valueOrderRow.laid ((World.doorLaid Tryd.prog 400 os).forCall (fun _ _ => 0) ⟨#[], args, []⟩).memory :=
  laidMetH_of_parts3 (fuel := 8) (laidMet_of_run' 8 (by kernel_rfl) (by kernel_rfl)) (by kernel_rfl) (by kernel_rfl)
theorem of_laid {W : World} (h : laidMetH Tryd.prog Rows.valueOrderRow.laid W) : CellsAt (hp W) 0 0 [.int .i64 3, .int .i64 1, X.str []] ∧ CellsAt (hp W) 1 0 [.int .i64 3, .int .i64 0, X.str []] := by
  rw [MakeChecks.laidMetH_plain _ _ _ (by kernel_rfl)] at h
  obtain ⟨ps, ⟨g0, t0, cs0, f0, p0, q0, hg0, ht0, hv0, hd0, ⟨g1, t1, cs1, f1, p1, q1, hg1, ht1, hv1, hd1, _, _⟩, _⟩, _, _⟩ := h
  obtain rfl := Option.some.inj (gl0.symm.trans hg0)
  obtain rfl := Option.some.inj (tl0.symm.trans ht0)
  have e0 : cs0.toList = [.int .i64 3, .int .i64 1, X.str []] := lits_of 9 25 _ ll0 _ _ _ hd0 _ (.agg (.cons .int (.cons .int (.cons .str .nil))))
  have c0 := var_at gl0 hv0
  rw [e0] at c0
  obtain rfl := Option.some.inj (gl1.symm.trans hg1)
  obtain rfl := Option.some.inj (tl1.symm.trans ht1)
  have e1 : cs1.toList = [.int .i64 3, .int .i64 0, X.str []] := lits_of 9 25 _ ll1 _ _ _ hd1 _ (.agg (.cons .int (.cons .int (.cons .str .nil))))
  have c1 := var_at gl1 hv1
  rw [e1] at c1
  exact ⟨c0, c1⟩
set_option maxRecDepth 100000 in
set_option maxHeartbeats 4000000 in
theorem lifted (os : Os) (started : os.Started) (H : Type) (enc : TypeId × Value → H) :
    ReturnsInHanded {} Tryd.checked os 4 .any (fun w args => (Rows.valueOrderSpec.pre enc Tryd.prog Tryd.f4 [] false w args ∧ laidMetH Tryd.prog Rows.valueOrderRow.laid w) ∧ sizedMet enc Tryd.prog Tryd.f4 (OpenSpec.ofChange Rows.valueOrderSpec) false w args)
      (Rows.valueOrderSpec.post enc Tryd.prog Tryd.f4 false true false false) := by
  refine returnsInHanded_of_change_and (C := Tryd.checked) (X := fun w _ => laidMetH Tryd.prog Rows.valueOrderRow.laid w) (fun _ _ _ hh h => h.of_heap hh) own started (by kernel_rfl) Tryd.func4
    (ChangeSpec.witness_shaped (enc := enc) (C := Tryd.checked) (os := os) (X := fun w _ => laidMetH Tryd.prog Rows.valueOrderRow.laid w) false (World.doorLaid Tryd.prog 400 os) #[.agg #[.int .i64 0, .int .i64 0, .string ByteArray.empty], .agg #[.int .i64 0, .int .i64 0, .string ByteArray.empty], .agg #[.int .i64 0, .int .i64 0, .string ByteArray.empty]] 8 rfl (World.shaped_of_RefB (by kernel_rfl) (by kernel_rfl)) (by kernel_rfl) (by kernel_rfl) (by kernel_rfl) (door_met os _)) ?_
  intro W base args ds gs before hval0 hW _ hsz0 hL _
  obtain ⟨hg0, hg1⟩ := of_laid hL
  have hval : ∀ (j : Nat) t v, Tryd.f4.params[j]? = some t → args[j]? = some v → Value.okWide Tryd.prog W .any base t v := hval0
  have hW' := hW
  obtain ⟨p, q, hA0, hV, rfl, hfz, hnd⟩ := hW
  have hA : DataW.TrodAll enc Tryd.prog W 0 (fun _ => true) true Tryd.f4.params.toList args.toList ds p := hA0
  rw [Tryd.params4] at hA hval
  obtain ⟨v0, vs0, d0, ds0, p0, q0, hargs, rfl, rfl, h0, r0⟩ := trodAll_cons hA
  obtain ⟨v1, vs1, d1, ds1, p1, q1, rfl, rfl, rfl, h1, r1⟩ := trodAll_cons r0
  obtain ⟨v2, vs2, d2, ds2, p2, q2, rfl, rfl, rfl, h2, r2⟩ := trodAll_cons r1
  obtain ⟨rfl, rfl, rfl⟩ := trodAll_nil r2
  obtain rfl : args = #[v0, v1, v2] := by cases args; simp_all
  obtain ⟨rfl, rfl⟩ := trodVars_none hV
  have k0 := h0
  have lt0 : ∀ x ∈ p0, x.block < W.heap.size := by obtain ⟨m, hm⟩ := k0; exact DataW.trod_lt m _ _ _ hm
  obtain ⟨cs0, rfl, _⟩ := okWide_struct Tryd.underlying25 (hval 0 25 v0 rfl rfl)
  obtain ⟨n0, hn0⟩ := h0
  obtain ⟨x0, wf0, e0⟩ := open_val lv hn0
  obtain rfl : cs0 = (valCells x0).toArray := Array.toList_inj.1 e0
  have k1 := h1
  have lt1 : ∀ x ∈ p1, x.block < W.heap.size := by obtain ⟨m, hm⟩ := k1; exact DataW.trod_lt m _ _ _ hm
  obtain ⟨cs1, rfl, _⟩ := okWide_struct Tryd.underlying25 (hval 1 25 v1 rfl rfl)
  obtain ⟨n1, hn1⟩ := h1
  obtain ⟨x1, wf1, e1⟩ := open_val lv hn1
  obtain rfl : cs1 = (valCells x1).toArray := Array.toList_inj.1 e1
  have k2 := h2
  have lt2 : ∀ x ∈ p2, x.block < W.heap.size := by obtain ⟨m, hm⟩ := k2; exact DataW.trod_lt m _ _ _ hm
  obtain ⟨cs2, rfl, _⟩ := okWide_struct Tryd.underlying25 (hval 2 25 v2 rfl rfl)
  obtain ⟨n2, hn2⟩ := h2
  obtain ⟨x2, wf2, e2⟩ := open_val lv hn2
  obtain rfl : cs2 = (valCells x2).toArray := Array.toList_inj.1 e2
  clear hA0 hval0 hsz0
  refine (T3.law_ValueOrder x0 x1 x2 W (hp W) sub_hp hg0 hg1).mono fun e W' he => ?_
  obtain ⟨v, rfl, bel, rfl⟩ : ∃ v, e = .returned v ∧ Below W.heap.size W W' ∧ v = .bool true := by
    cases e with
    | returned v => obtain ⟨G', M', aft, rfl, rfl⟩ := he; exact ⟨_, rfl, aft.below, rfl⟩
    | panicked c => obtain ⟨G', M', aft, h⟩ := he; exact h.elim
    | outgrown => exact he.elim
  exact ⟨_, rfl, _, _, _, [], _, [], hW', trodAll_mk1 (shut_bool Tryd.underlying4 _), (trodAll_cons_mk (Below.trod laidOut (by kernel_rfl) (of_decide_eq_true (by kernel_rfl)) k0 bel lt0) (trodAll_cons_mk (Below.trod laidOut (by kernel_rfl) (of_decide_eq_true (by kernel_rfl)) k1 bel lt1) (trodAll_cons_mk (Below.trod laidOut (by kernel_rfl) (of_decide_eq_true (by kernel_rfl)) k2 bel lt2) trodAll_mk0))), rfl, bel.frame _, fun h => by cases h⟩
theorem over : Rows.valueOrderRow.holds Tryd.pinned (OpenSpec.ofChange Rows.valueOrderSpec) :=
  OpenClaim.holds_of_wide 4 Tryd.f4 rfl rfl rfl rfl rfl rfl rfl ⟨rfl, rfl, rfl, rfl, rfl⟩ rfl rfl rfl rfl rfl (by kernel_rfl) Tryd.func4 (by kernel_rfl)
    (of_decide_eq_true (by kernel_rfl)) (by unfold Func.isWrapper; first | (rw [if_pos (by decide +kernel)]; kernel_rfl) | (rw [if_neg (by decide +kernel)]; exact ⟨rfl, rfl⟩))
    (fun os started H enc _ => lifted os started H enc)
theorem proved : Rows.ValueOrderSaid := over
theorem card : Rows.ValueOrderCardSaid :=
  Claim7.holds_tied_plain_at .later [] [.data, .data] true (true, "d114a0dc6235c694cf6d84193437b4acf0f5fa7a88f39d4d0abdd44ab61e4203") true
    proved (fun _ h => by cases h) (by kernel_rfl) (fun _ h => by cases h) valueOrder_row_tie rfl ⟨rfl, rfl⟩ (by kernel_rfl) rfl
    (fun f fn hf hfn => by
      obtain rfl : f = 4 := Option.some.inj ((show Tryd.prog.funcNamed Rows.valueOrderRow.func = some 4 by kernel_rfl).symm.trans hf) |>.symm
      obtain rfl : fn = Tryd.f4 := (Option.some.inj (Tryd.func4.symm.trans hfn)).symm
      exact ⟨by kernel_rfl, fun j t ht => by
        rw [Tryd.params4] at ht
        have hm : t ∈ [25, 25, 25] := by simpa using Array.mem_of_getElem? ht
        have hall : ([25, 25, 25].all fun u => !Tryd.prog.wantsStandIn u) = true := by kernel_rfl
        exact (show Tryd.prog.wantsStandIn t = false by simpa using List.all_eq_true.1 hall t hm)⟩)
    (by kernel_rfl)
#print axioms card
end Go.Proofs.YthhcgkcnebchhaaDoor.valueOrder
namespace Go.Proofs.YthhcgkcnebchhaaDoor
/-- The row, under a short name, for the claim. -/
theorem valueOrder_holds : Rows.ValueOrderCardSaid := valueOrder.card
end Go.Proofs.YthhcgkcnebchhaaDoor
