/- The row of the law HistJoins: its arguments opened, its walk used, its old memory kept. -/
import Derived.Test.YtiinipcmghhacaaDoorE2
import Derived.WalkKit
import Derived.ProofKit
import Derived.OpenShut
import Derived.ShutString
import Derived.ChangeOld
import Derived.Below
import Derived.Carry
import Derived.SizedLaws
import Derived.LaidMore
import Derived.Lay
import Derived.Stop.Joined
import Derived.Handed
import Derived.SevenTiedAt
import Derived.Test.YtiinipcmghhacaaDoorRows
import Derived.Test.YtiinipcmghhacaaDoorCards
import Derived.Test.YtiinipcmghhacaaDoorTie
namespace Go.Proofs.YtiinipcmghhacaaDoor.histJoins
open Go Go.Proofs.YtiinipcmghhacaaDoor.X Go.ChangeShapes Go.WideShapes Go.ChangeAt Go.RowKit
open Go.ChangeMaps (open_string shut_string)
set_option linter.unusedVariables false
theorem own : ownKnob Tryd.prog.godebug = none := by kernel_rfl
theorem laidOut : laidOutB Tryd.prog = true := by kernel_rfl
theorem gl1 : Tryd.prog.globalNamed "incognito/value.yes" = some 3 := by kernel_rfl
theorem tl1 : (Tryd.prog.globals[3]?).map (·.type) = some 41 := by kernel_rfl
theorem ll1 : leaves Tryd.prog 9 41 = some [.int .i64, .int .i64, .str] := by kernel_rfl
theorem gl2 : Tryd.prog.globalNamed "incognito/value.no" = some 6 := by kernel_rfl
theorem tl2 : (Tryd.prog.globals[6]?).map (·.type) = some 41 := by kernel_rfl
theorem ll2 : leaves Tryd.prog 9 41 = some [.int .i64, .int .i64, .str] := by kernel_rfl
theorem gl3 : Tryd.prog.globalNamed "incognito/sign.models" = some 4 := by kernel_rfl
theorem tl3 : (Tryd.prog.globals[4]?).map (·.type) = some 144 := by kernel_rfl
theorem ll3 : leaves Tryd.prog 9 144 = some [.str, .str, .str, .str, .str, .str, .str, .str, .str, .str, .str] := by kernel_rfl
theorem gl4 : Tryd.prog.globalNamed "incognito/sign.ops" = some 5 := by kernel_rfl
theorem tl4 : (Tryd.prog.globals[5]?).map (·.type) = some 145 := by kernel_rfl
theorem ll4 : leaves Tryd.prog 9 145 = some [.str, .str, .str, .str, .str, .str, .str, .str, .str, .str, .str, .str, .str, .str] := by kernel_rfl
theorem gl5 : Tryd.prog.globalNamed "incognito/event.named" = some 2 := by kernel_rfl
theorem tl5 : (Tryd.prog.globals[2]?).map (·.type) = some 86 := by kernel_rfl
theorem ll5 : leaves Tryd.prog 9 86 = some [.str, .str, .str, .str, .str] := by kernel_rfl
theorem of_laid {W : World} (h : laidMetH Tryd.prog Rows.histJoinsRow.laid W) : CellsAt (hp W) 3 0 [.int .i64 3, .int .i64 1, X.str []] ∧ CellsAt (hp W) 6 0 [.int .i64 3, .int .i64 0, X.str []] ∧ CellsAt (hp W) 4 0 [X.str [], X.str [114, 101, 103], X.str [99, 97, 115], X.str [115, 101, 116], X.str [109, 97, 112], X.str [102, 105, 102, 111], X.str [115, 116, 97, 99, 107], X.str [108, 111, 99, 107], X.str [99, 111, 117, 110, 116], X.str [109, 97, 120], X.str [111, 109, 97, 112]] ∧ CellsAt (hp W) 5 0 [X.str [], X.str [119, 114, 105, 116, 101], X.str [114, 101, 97, 100], X.str [115, 119, 97, 112], X.str [97, 100, 100], X.str [100, 101, 108], X.str [104, 97, 115], X.str [112, 117, 116], X.str [103, 101, 116], X.str [112, 117, 115, 104], X.str [112, 111, 112], X.str [116, 97, 107, 101], X.str [102, 114, 101, 101], X.str [115, 99, 97, 110]] ∧ CellsAt (hp W) 2 0 [X.str [], X.str [105, 110, 118, 111, 107, 101], X.str [111, 107], X.str [102, 97, 105, 108], X.str [105, 110, 102, 111]] := by
  rw [MakeChecks.laidMetH_plain _ _ _ (by kernel_rfl)] at h
  obtain ⟨ps, ⟨g0, t0, cs0, f0, p0, q0, hg0, ht0, hv0, hd0, ⟨g1, t1, cs1, f1, p1, q1, hg1, ht1, hv1, hd1, ⟨g2, t2, cs2, f2, p2, q2, hg2, ht2, hv2, hd2, ⟨g3, t3, cs3, f3, p3, q3, hg3, ht3, hv3, hd3, ⟨g4, t4, cs4, f4, p4, q4, hg4, ht4, hv4, hd4, ⟨g5, t5, cs5, f5, p5, q5, hg5, ht5, hv5, hd5, ⟨g6, t6, cs6, f6, p6, q6, hg6, ht6, hv6, hd6, _, _⟩, _⟩, _⟩, _⟩, _⟩, _⟩, _⟩, _, _⟩ := h
  obtain rfl := Option.some.inj (gl1.symm.trans hg1)
  obtain rfl := Option.some.inj (tl1.symm.trans ht1)
  have e1 : cs1.toList = [.int .i64 3, .int .i64 1, X.str []] := lits_of 9 41 _ ll1 _ _ _ hd1 _ (.agg (.cons .int (.cons .int (.cons .str .nil))))
  have c1 := var_at gl1 hv1
  rw [e1] at c1
  obtain rfl := Option.some.inj (gl2.symm.trans hg2)
  obtain rfl := Option.some.inj (tl2.symm.trans ht2)
  have e2 : cs2.toList = [.int .i64 3, .int .i64 0, X.str []] := lits_of 9 41 _ ll2 _ _ _ hd2 _ (.agg (.cons .int (.cons .int (.cons .str .nil))))
  have c2 := var_at gl2 hv2
  rw [e2] at c2
  obtain rfl := Option.some.inj (gl3.symm.trans hg3)
  obtain rfl := Option.some.inj (tl3.symm.trans ht3)
  have e3 : cs3.toList = [X.str [], X.str [114, 101, 103], X.str [99, 97, 115], X.str [115, 101, 116], X.str [109, 97, 112], X.str [102, 105, 102, 111], X.str [115, 116, 97, 99, 107], X.str [108, 111, 99, 107], X.str [99, 111, 117, 110, 116], X.str [109, 97, 120], X.str [111, 109, 97, 112]] := lits_of 9 144 _ ll3 _ _ _ hd3 _ (.agg (.cons .str (.cons .str (.cons .str (.cons .str (.cons .str (.cons .str (.cons .str (.cons .str (.cons .str (.cons .str (.cons .str .nil))))))))))))
  have c3 := var_at gl3 hv3
  rw [e3] at c3
  obtain rfl := Option.some.inj (gl4.symm.trans hg4)
  obtain rfl := Option.some.inj (tl4.symm.trans ht4)
  have e4 : cs4.toList = [X.str [], X.str [119, 114, 105, 116, 101], X.str [114, 101, 97, 100], X.str [115, 119, 97, 112], X.str [97, 100, 100], X.str [100, 101, 108], X.str [104, 97, 115], X.str [112, 117, 116], X.str [103, 101, 116], X.str [112, 117, 115, 104], X.str [112, 111, 112], X.str [116, 97, 107, 101], X.str [102, 114, 101, 101], X.str [115, 99, 97, 110]] := lits_of 9 145 _ ll4 _ _ _ hd4 _ (.agg (.cons .str (.cons .str (.cons .str (.cons .str (.cons .str (.cons .str (.cons .str (.cons .str (.cons .str (.cons .str (.cons .str (.cons .str (.cons .str (.cons .str .nil)))))))))))))))
  have c4 := var_at gl4 hv4
  rw [e4] at c4
  obtain rfl := Option.some.inj (gl5.symm.trans hg5)
  obtain rfl := Option.some.inj (tl5.symm.trans ht5)
  have e5 : cs5.toList = [X.str [], X.str [105, 110, 118, 111, 107, 101], X.str [111, 107], X.str [102, 97, 105, 108], X.str [105, 110, 102, 111]] := lits_of 9 86 _ ll5 _ _ _ hd5 _ (.agg (.cons .str (.cons .str (.cons .str (.cons .str (.cons .str .nil))))))
  have c5 := var_at gl5 hv5
  rw [e5] at c5
  exact ⟨c1, c2, c3, c4, c5⟩
set_option maxRecDepth 100000 in
set_option maxHeartbeats 4000000 in
theorem lifted (os : Os) (started : os.Started) (H : Type) (enc : TypeId × Value → H) :
    ReturnsInHanded {} Tryd.checked os 12 .any (fun w args => (Rows.histJoinsSpec.pre enc Tryd.prog Tryd.f12 [] false w args ∧ laidMetH Tryd.prog Rows.histJoinsRow.laid w) ∧ sizedMet enc Tryd.prog Tryd.f12 (OpenSpec.ofChange Rows.histJoinsSpec) false w args)
      (Rows.histJoinsSpec.post enc Tryd.prog Tryd.f12 false true false false) := by
  refine returns_shaped (C := Tryd.checked) (X := fun w _ => laidMetH Tryd.prog Rows.histJoinsRow.laid w) (fun _ _ _ hh h => h.of_heap hh) own started (by kernel_rfl) Tryd.func12
    (ChangeSpec.witness_shaped (enc := enc) (C := Tryd.checked) (os := os) (X := fun w _ => laidMetH Tryd.prog Rows.histJoinsRow.laid w) false (World.laidAll Tryd.prog os Rows.histJoinsRow.laid) #[.string ByteArray.empty, .string ByteArray.empty] 8 (World.laidAll_os _ _ _) (World.shaped_of_ZipB (by kernel_rfl) (by kernel_rfl)) (by kernel_rfl) (by kernel_rfl) (by kernel_rfl) (by rw [MakeChecks.laidMetH_plain _ _ _ (by kernel_rfl)]; exact laidMet_laidAll _ (by kernel_rfl) (by kernel_rfl))) ?_
  intro W base args ds gs before hval0 hW _ hsz0 hL hSh
  obtain ⟨m8, hm8⟩ := cell_of_shapedOpen_int (zero := #[.int .i64 0]) (t := 3) (g := 8) hSh (of_decide_eq_true (by kernel_rfl)) (by kernel_rfl) rfl (by kernel_rfl) (by kernel_rfl) Tryd.underlying3
  have h8 : CellsAt (hp W) 8 0 [.int .i64 m8] := cellsAt_of (fun _ => rfl) hm8
  obtain ⟨hg0, hg1, hgm, hgo, hgn⟩ := of_laid hL
  have hval : ∀ (j : Nat) t v, Tryd.f12.params[j]? = some t → args[j]? = some v → Value.okWide Tryd.prog W .any base t v := hval0
  have hW' := hW
  obtain ⟨p, q, hA0, hV, rfl, hfz, hnd⟩ := hW
  have hA : DataW.TrodAll enc Tryd.prog W 0 (fun _ => true) true Tryd.f12.params.toList args.toList ds p := hA0
  rw [Tryd.params12] at hA hval
  obtain ⟨v0, vs0, d0, ds0, p0, q0, hargs, rfl, rfl, h0, r0⟩ := trodAll_cons hA
  obtain ⟨v1, vs1, d1, ds1, p1, q1, rfl, rfl, rfl, h1, r1⟩ := trodAll_cons r0
  obtain ⟨rfl, rfl, rfl⟩ := trodAll_nil r1
  obtain rfl : args = #[v0, v1] := by cases args; simp_all
  obtain ⟨rfl, rfl⟩ := trodVars_none hV
  have k0 := h0
  have lt0 : ∀ x ∈ p0, x.block < W.heap.size := by obtain ⟨m, hm⟩ := k0; exact DataW.trod_lt m _ _ _ hm
  obtain ⟨a0, rfl, rfl, rfl, y0⟩ := open_string Tryd.underlying9 (hval 0 9 v0 rfl rfl) h0
  have k1 := h1
  have lt1 : ∀ x ∈ p1, x.block < W.heap.size := by obtain ⟨m, hm⟩ := k1; exact DataW.trod_lt m _ _ _ hm
  obtain ⟨a1, rfl, rfl, rfl, y1⟩ := open_string Tryd.underlying9 (hval 1 9 v1 rfl rfl) h1
  clear hA0 hval0 hsz0
  refine (T10.law_HistJoins a0.data.toList a1.data.toList W (hp W) sub_hp m8 h8 hg0 hg1 hgm hgo hgn).mono fun e W' he => ?_
  obtain ⟨v, rfl, bel, rfl⟩ : ∃ v, e = .returned v ∧ Below W.heap.size W W' ∧ v = .bool true := by
    cases e with
    | returned v => obtain ⟨G', M', aft, rfl, rfl⟩ := he; exact ⟨_, rfl, aft.below, rfl⟩
    | panicked c => obtain ⟨G', M', aft, h⟩ := he; exact h.elim
    | outgrown => exact he.elim
  exact ⟨_, rfl, _, _, _, [], _, [], hW', trodAll_mk1 (shut_bool Tryd.underlying4 _), (trodAll_cons_mk (Below.trod laidOut (by kernel_rfl) (of_decide_eq_true (by kernel_rfl)) k0 bel lt0) (trodAll_cons_mk (Below.trod laidOut (by kernel_rfl) (of_decide_eq_true (by kernel_rfl)) k1 bel lt1) trodAll_mk0)), rfl, bel.frame _, fun h => by cases h⟩
theorem over : Rows.histJoinsRow.holds Tryd.pinned (OpenSpec.ofChange Rows.histJoinsSpec) :=
  OpenClaim.holds_of_wide 12 Tryd.f12 rfl rfl rfl rfl rfl rfl rfl ⟨rfl, rfl, rfl, rfl, rfl⟩ rfl rfl rfl rfl rfl (by kernel_rfl) Tryd.func12 (by kernel_rfl)
    (of_decide_eq_true (by kernel_rfl)) (by unfold Func.isWrapper; first | (rw [if_pos (by decide +kernel)]; kernel_rfl) | (rw [if_neg (by decide +kernel)]; exact ⟨rfl, rfl⟩))
    (fun os started H enc _ => lifted os started H enc)
theorem proved : Rows.HistJoinsSaid := over
theorem card : Rows.HistJoinsCardSaid :=
  Claim7.holds_tied_plain_at .later [] [.data, .data, .data, .widerDeep, .widerDeep, .data, .pinned] true (true, "a31718db7ad84fcfa8dcd17e446e75598859848c6417f6a8f0aefa5f9d983264") true
    proved (fun _ h => by cases h) (by kernel_rfl) (fun _ h => by cases h) histJoins_row_tie rfl ⟨rfl, rfl⟩ (by kernel_rfl) rfl
    (fun f fn hf hfn => by
      obtain rfl : f = 12 := Option.some.inj ((show Tryd.prog.funcNamed Rows.histJoinsRow.func = some 12 by kernel_rfl).symm.trans hf) |>.symm
      obtain rfl : fn = Tryd.f12 := (Option.some.inj (Tryd.func12.symm.trans hfn)).symm
      exact ⟨by kernel_rfl, fun j t ht => by
        rw [Tryd.params12] at ht
        have hm : t ∈ [9, 9] := by simpa using Array.mem_of_getElem? ht
        have hall : ([9, 9].all fun u => !Tryd.prog.wantsStandIn u) = true := by kernel_rfl
        exact (show Tryd.prog.wantsStandIn t = false by simpa using List.all_eq_true.1 hall t hm)⟩)
    (by kernel_rfl)
#print axioms card
end Go.Proofs.YtiinipcmghhacaaDoor.histJoins
namespace Go.Proofs.YtiinipcmghhacaaDoor
/-- The row, under a short name, for the claim. -/
theorem histJoins_holds : Rows.HistJoinsCardSaid := histJoins.card
end Go.Proofs.YtiinipcmghhacaaDoor
