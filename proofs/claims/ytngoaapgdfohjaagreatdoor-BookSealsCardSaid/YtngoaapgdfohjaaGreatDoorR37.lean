/- The row of the law BookSeals: its arguments opened, its walk used, its old memory kept. -/
import Derived.Test.YtngoaapgdfohjaaGreatDoorX16
import Derived.Test.YtngoaapgdfohjaaGreatDoorW24
import Derived.WalkKit
import Derived.ProofKit
import Derived.OpenShut
import Derived.ShutString
import Derived.ChangeOld
import Derived.Below
import Derived.Carry
import Derived.SizedLaws
import Derived.LaidMore
import Derived.Lay
import Derived.Stop.Joined
import Derived.Handed
import Derived.SevenTiedAt
import Derived.Test.YtngoaapgdfohjaaGreatDoorRows
import Derived.Test.YtngoaapgdfohjaaGreatDoorCards
import Derived.Test.YtngoaapgdfohjaaGreatDoorTie
namespace Go.Proofs.YtngoaapgdfohjaaGreatDoor.bookSeals
open Go Go.Proofs.YtngoaapgdfohjaaGreatDoor.X Go.ChangeShapes Go.WideShapes Go.ChangeAt Go.RowKit
open Go.ChangeMaps (open_string shut_string)
set_option linter.unusedVariables false
theorem own : ownKnob Tryz.prog.godebug = none := by kernel_rfl
theorem laidOut : laidOutB Tryz.prog = true := by kernel_rfl
theorem lu8 : leaves Tryz.prog 9 5 = some [.int .u8] := by kernel_rfl
theorem su8 : Tryz.prog.cellsOf 5 = 1 := by kernel_rfl
theorem lby : leaves Tryz.prog 9 24 = some [.sl 5] := by kernel_rfl
theorem lbe : leaves Tryz.prog 9 70 = some [.int .i64, .int .i64, .int .i64, .str, .int .i64, .int .i64, .str] := by kernel_rfl
theorem sbe : Tryz.prog.cellsOf 70 = 7 := by kernel_rfl
theorem lbm : leaves Tryz.prog 9 85 = some [.int .i64, .int .i64] := by kernel_rfl
theorem sbm : Tryz.prog.cellsOf 85 = 2 := by kernel_rfl
theorem lbr : leaves Tryz.prog 9 82 = some [.int .i64, .str] := by kernel_rfl
theorem sbr : Tryz.prog.cellsOf 82 = 2 := by kernel_rfl
theorem lbk : leaves Tryz.prog 9 54 = some [.int .i64, .int .i64, .int .i64, .int .i64, .int .i64, .int .i64, .int .i64, .int .i64, .int .i64, .int .i64, .int .i64, .int .i64, .bool, .bool, .sl 70, .sl 85, .sl 82] := by kernel_rfl
theorem gl2 : Tryz.prog.globalNamed "internal/strconv.uint64pow10" = some 6 := by kernel_rfl
theorem tl2 : (Tryz.prog.globals[6]?).map (·.type) = some 264 := by kernel_rfl
theorem ll2 : leaves Tryz.prog 9 264 = some (List.replicate 20 (.int .u64)) := by kernel_rfl
theorem gl4 : Tryz.prog.globalNamed "incognito/sha.rounds" = some 5 := by kernel_rfl
theorem tl4 : (Tryz.prog.globals[5]?).map (·.type) = some 238 := by kernel_rfl
theorem ll4 : leaves Tryz.prog 9 238 = some (List.replicate 64 (.int .u32)) := by kernel_rfl
theorem gl5 : Tryz.prog.globalNamed "incognito/policy.domains" = some 1 := by kernel_rfl
theorem tl5 : (Tryz.prog.globals[1]?).map (·.type) = some 181 := by kernel_rfl
theorem ll5 : leaves Tryz.prog 9 181 = some [.str, .str, .str, .str, .str] := by kernel_rfl
theorem gl6 : Tryz.prog.globalNamed "incognito/policy.ways" = some 2 := by kernel_rfl
theorem tl6 : (Tryz.prog.globals[2]?).map (·.type) = some 181 := by kernel_rfl
theorem ll6 : leaves Tryz.prog 9 181 = some [.str, .str, .str, .str, .str] := by kernel_rfl
theorem gl7 : Tryz.prog.globalNamed "incognito/value.yes" = some 0 := by kernel_rfl
theorem tl7 : (Tryz.prog.globals[0]?).map (·.type) = some 42 := by kernel_rfl
theorem ll7 : leaves Tryz.prog 9 42 = some [.int .i64, .int .i64, .str] := by kernel_rfl
theorem gl8 : Tryz.prog.globalNamed "incognito/value.no" = some 4 := by kernel_rfl
theorem tl8 : (Tryz.prog.globals[4]?).map (·.type) = some 42 := by kernel_rfl
theorem ll8 : leaves Tryz.prog 9 42 = some [.int .i64, .int .i64, .str] := by kernel_rfl
theorem of_laid {W : World} (h : laidMetH Tryz.prog Rows.bookSealsRow.laid W) : TabG (hp W) 6 .u64 Lib.pow10Tab ∧ CellsAt (hp W) 5 0 (TK.ks.map (Value.int .u32)) ∧ CellsAt (hp W) 1 0 [X.str [99, 108, 105, 101, 110, 116], X.str [111, 98, 106, 101, 99, 116], X.str [118, 97, 108, 117, 101], X.str [102, 105, 101, 108, 100], X.str [111, 114, 100, 101, 114]] ∧ CellsAt (hp W) 2 0 [X.str [107, 101, 101, 112], X.str [111, 114, 100, 105, 110, 97, 108], X.str [107, 101, 121, 101, 100], X.str [114, 97, 110, 107], X.str [100, 114, 111, 112]] ∧ CellsAt (hp W) 0 0 [.int .i64 3, .int .i64 1, X.str []] ∧ CellsAt (hp W) 4 0 [.int .i64 3, .int .i64 0, X.str []] := by
  rw [MakeChecks.laidMetH_plain _ _ _ (by kernel_rfl)] at h
  obtain ⟨ps, ⟨g0, t0, cs0, f0, p0, q0, hg0, ht0, hv0, hd0, ⟨g1, t1, cs1, f1, p1, q1, hg1, ht1, hv1, hd1, ⟨g2, t2, cs2, f2, p2, q2, hg2, ht2, hv2, hd2, ⟨g3, t3, cs3, f3, p3, q3, hg3, ht3, hv3, hd3, ⟨g4, t4, cs4, f4, p4, q4, hg4, ht4, hv4, hd4, ⟨g5, t5, cs5, f5, p5, q5, hg5, ht5, hv5, hd5, ⟨g6, t6, cs6, f6, p6, q6, hg6, ht6, hv6, hd6, ⟨g7, t7, cs7, f7, p7, q7, hg7, ht7, hv7, hd7, ⟨g8, t8, cs8, f8, p8, q8, hg8, ht8, hv8, hd8, ⟨g9, t9, cs9, f9, p9, q9, hg9, ht9, hv9, hd9, _, _⟩, _⟩, _⟩, _⟩, _⟩, _⟩, _⟩, _⟩, _⟩, _⟩, _, _⟩ := h
  obtain rfl := Option.some.inj (gl2.symm.trans hg2)
  obtain rfl := Option.some.inj (tl2.symm.trans ht2)
  have e2 : cs2.toList = (Lib.pow10Tab).map fun z => Value.int .u64 z := lits_of 9 264 _ ll2 _ _ _ hd2 _ (.agg (.cons .int (.cons .int (.cons .int (.cons .int (.cons .int (.cons .int (.cons .int (.cons .int (.cons .int (.cons .int (.cons .int (.cons .int (.cons .int (.cons .int (.cons .int (.cons .int (.cons .int (.cons .int (.cons .int (.cons .int .nil)))))))))))))))))))))
  have c2 := tab_of gl2 hv2 e2
  obtain rfl := Option.some.inj (gl4.symm.trans hg4)
  obtain rfl := Option.some.inj (tl4.symm.trans ht4)
  have e4 : cs4.toList = (TK.ks.map (Value.int .u32)) := lits_of 9 238 _ ll4 _ _ _ hd4 _ (.agg (.cons .int (.cons .int (.cons .int (.cons .int (.cons .int (.cons .int (.cons .int (.cons .int (.cons .int (.cons .int (.cons .int (.cons .int (.cons .int (.cons .int (.cons .int (.cons .int (.cons .int (.cons .int (.cons .int (.cons .int (.cons .int (.cons .int (.cons .int (.cons .int (.cons .int (.cons .int (.cons .int (.cons .int (.cons .int (.cons .int (.cons .int (.cons .int (.cons .int (.cons .int (.cons .int (.cons .int (.cons .int (.cons .int (.cons .int (.cons .int (.cons .int (.cons .int (.cons .int (.cons .int (.cons .int (.cons .int (.cons .int (.cons .int (.cons .int (.cons .int (.cons .int (.cons .int (.cons .int (.cons .int (.cons .int (.cons .int (.cons .int (.cons .int (.cons .int (.cons .int (.cons .int (.cons .int (.cons .int (.cons .int .nil)))))))))))))))))))))))))))))))))))))))))))))))))))))))))))))))))
  have c4 := var_at gl4 hv4
  rw [e4] at c4
  obtain rfl := Option.some.inj (gl5.symm.trans hg5)
  obtain rfl := Option.some.inj (tl5.symm.trans ht5)
  have e5 : cs5.toList = [X.str [99, 108, 105, 101, 110, 116], X.str [111, 98, 106, 101, 99, 116], X.str [118, 97, 108, 117, 101], X.str [102, 105, 101, 108, 100], X.str [111, 114, 100, 101, 114]] := lits_of 9 181 _ ll5 _ _ _ hd5 _ (.agg (.cons .str (.cons .str (.cons .str (.cons .str (.cons .str .nil))))))
  have c5 := var_at gl5 hv5
  rw [e5] at c5
  obtain rfl := Option.some.inj (gl6.symm.trans hg6)
  obtain rfl := Option.some.inj (tl6.symm.trans ht6)
  have e6 : cs6.toList = [X.str [107, 101, 101, 112], X.str [111, 114, 100, 105, 110, 97, 108], X.str [107, 101, 121, 101, 100], X.str [114, 97, 110, 107], X.str [100, 114, 111, 112]] := lits_of 9 181 _ ll6 _ _ _ hd6 _ (.agg (.cons .str (.cons .str (.cons .str (.cons .str (.cons .str .nil))))))
  have c6 := var_at gl6 hv6
  rw [e6] at c6
  obtain rfl := Option.some.inj (gl7.symm.trans hg7)
  obtain rfl := Option.some.inj (tl7.symm.trans ht7)
  have e7 : cs7.toList = [.int .i64 3, .int .i64 1, X.str []] := lits_of 9 42 _ ll7 _ _ _ hd7 _ (.agg (.cons .int (.cons .int (.cons .str .nil))))
  have c7 := var_at gl7 hv7
  rw [e7] at c7
  obtain rfl := Option.some.inj (gl8.symm.trans hg8)
  obtain rfl := Option.some.inj (tl8.symm.trans ht8)
  have e8 : cs8.toList = [.int .i64 3, .int .i64 0, X.str []] := lits_of 9 42 _ ll8 _ _ _ hd8 _ (.agg (.cons .int (.cons .int (.cons .str .nil))))
  have c8 := var_at gl8 hv8
  rw [e8] at c8
  exact ⟨c2, c4, c5, c6, c7, c8⟩
set_option maxRecDepth 100000 in
set_option maxHeartbeats 4000000 in
theorem lifted (os : Os) (started : os.Started) (H : Type) (enc : TypeId × Value → H) :
    ReturnsInHanded {} Tryz.checked os 8 .any (fun w args => (Rows.bookSealsSpec.pre enc Tryz.prog Tryz.f8 [] false w args ∧ laidMetH Tryz.prog Rows.bookSealsRow.laid w) ∧ sizedMet enc Tryz.prog Tryz.f8 (OpenSpec.ofChange Rows.bookSealsSpec) false w args)
      (Rows.bookSealsSpec.post enc Tryz.prog Tryz.f8 false true false false) := by
  refine returns_shaped (C := Tryz.checked) (X := fun w _ => laidMetH Tryz.prog Rows.bookSealsRow.laid w) (fun _ _ _ hh h => h.of_heap hh) own started (by kernel_rfl) Tryz.func8
    (ChangeSpec.witness_shaped (enc := enc) (C := Tryz.checked) (os := os) (X := fun w _ => laidMetH Tryz.prog Rows.bookSealsRow.laid w) false (World.laidAll Tryz.prog os Rows.bookSealsRow.laid) #[.agg #[.int .i64 0, .int .i64 0, .int .i64 0, .int .i64 0, .int .i64 0, .int .i64 0, .int .i64 0, .int .i64 0, .int .i64 0, .int .i64 0, .int .i64 0, .int .i64 0, .bool false, .bool false, .slice none 0 0, .slice none 0 0, .slice none 0 0], .slice none 0 0, .slice none 0 0] 8 (World.laidAll_os _ _ _) (World.shaped_of_ZipB (by kernel_rfl) (by kernel_rfl)) (by kernel_rfl) (by kernel_rfl) (by kernel_rfl) (by rw [MakeChecks.laidMetH_plain _ _ _ (by kernel_rfl)]; exact laidMet_laidAll _ (by kernel_rfl) (by kernel_rfl))) ?_
  intro W base args ds gs before hval0 hW _ hsz0 hL hSh
  obtain ⟨m8, hm8⟩ := cell_of_shapedOpen_int (zero := #[.int .i64 0]) (t := 3) (g := 3) hSh (of_decide_eq_true (by kernel_rfl)) (by kernel_rfl) rfl (by kernel_rfl) (by kernel_rfl) Tryz.underlying3
  have h8 : CellsAt (hp W) 3 0 [.int .i64 m8] := cellsAt_of (fun _ => rfl) hm8
  obtain ⟨hT, hKs, hgd, hgw, hg0, hg1⟩ := of_laid hL
  have hval : ∀ (j : Nat) t v, Tryz.f8.params[j]? = some t → args[j]? = some v → Value.okWide Tryz.prog W .any base t v := hval0
  have hW' := hW
  obtain ⟨p, q, hA0, hV, rfl, hfz, hnd⟩ := hW
  have hA : DataW.TrodAll enc Tryz.prog W 0 (fun _ => true) true Tryz.f8.params.toList args.toList ds p := hA0
  rw [Tryz.params8] at hA hval
  obtain ⟨v0, vs0, d0, ds0, p0, q0, hargs, rfl, rfl, h0, r0⟩ := trodAll_cons hA
  obtain ⟨v1, vs1, d1, ds1, p1, q1, rfl, rfl, rfl, h1, r1⟩ := trodAll_cons r0
  obtain ⟨v2, vs2, d2, ds2, p2, q2, rfl, rfl, rfl, h2, r2⟩ := trodAll_cons r1
  obtain ⟨rfl, rfl, rfl⟩ := trodAll_nil r2
  obtain rfl : args = #[v0, v1, v2] := by cases args; simp_all
  obtain ⟨rfl, rfl⟩ := trodVars_none hV
  have k0 := h0
  have lt0 : ∀ x ∈ p0, x.block < W.heap.size := by obtain ⟨m, hm⟩ := k0; exact DataW.trod_lt m _ _ _ hm
  obtain ⟨cs0, rfl, _⟩ := okWide_struct Tryz.underlying54 (hval 0 54 v0 rfl rfl)
  obtain ⟨n0, hn0⟩ := h0
  obtain ⟨x0, a0_, e0, rg0⟩ := T27.open_bookG lbe sbe lbm sbm lbr sbr lbk hn0
  obtain rfl : cs0 = (T27.bookC x0 a0_).toArray := Array.toList_inj.1 e0
  have k1 := h1
  have lt1 : ∀ x ∈ p1, x.block < W.heap.size := by obtain ⟨m, hm⟩ := k1; exact DataW.trod_lt m _ _ _ hm
  obtain ⟨A1, len1, c1, rfl⟩ := okWide_slice Tryz.underlying24 (hval 1 24 v1 rfl rfl)
  obtain ⟨_, x1, _, e1, cl1, cm1, oc1, rd1⟩ := T27.open_bytes lu8 su8 lby h1 rfl
  cases e1
  have ln1 : x1.length ≤ 9223372036854775807 := by omega
  have k2 := h2
  have lt2 : ∀ x ∈ p2, x.block < W.heap.size := by obtain ⟨m, hm⟩ := k2; exact DataW.trod_lt m _ _ _ hm
  obtain ⟨A2, len2, c2, rfl⟩ := okWide_slice Tryz.underlying24 (hval 2 24 v2 rfl rfl)
  obtain ⟨_, x2, _, e2, cl2, cm2, oc2, rd2⟩ := T27.open_bytes lu8 su8 lby h2 rfl
  cases e2
  have ln2 : x2.length ≤ 9223372036854775807 := by omega
  clear hA0 hval0 hsz0
  refine (T27.law_BookSeals x0 a0_ x1 oc1 A1 c1 cl1 ln1 x2 oc2 A2 c2 cl2 ln2 (hp W) ⟨hg0, hg1, hT, hKs, hgd, hgw, m8, h8⟩ rg0 rd1 rd2 W sub_hp).mono fun e W' he => ?_
  obtain ⟨v, rfl, bel, rfl⟩ : ∃ v, e = .returned v ∧ Below W.heap.size W W' ∧ v = .bool true := by
    cases e with
    | returned v => obtain ⟨G', M', aft, rfl, rfl⟩ := he; exact ⟨_, rfl, aft.below, rfl⟩
    | panicked c => obtain ⟨G', M', aft, h⟩ := he; exact h.elim
    | outgrown => exact he.elim
  exact ⟨_, rfl, _, _, _, [], _, [], hW', trodAll_mk1 (shut_bool Tryz.underlying4 _), (trodAll_cons_mk (Below.trod laidOut (by kernel_rfl) (of_decide_eq_true (by kernel_rfl)) k0 bel lt0) (trodAll_cons_mk (Below.trod laidOut (by kernel_rfl) (of_decide_eq_true (by kernel_rfl)) k1 bel lt1) (trodAll_cons_mk (Below.trod laidOut (by kernel_rfl) (of_decide_eq_true (by kernel_rfl)) k2 bel lt2) trodAll_mk0))), rfl, bel.frame _, fun h => by cases h⟩
theorem over : Rows.bookSealsRow.holds Tryz.pinned (OpenSpec.ofChange Rows.bookSealsSpec) :=
  OpenClaim.holds_of_wide 8 Tryz.f8 rfl rfl rfl rfl rfl rfl rfl ⟨rfl, rfl, rfl, rfl, rfl⟩ rfl rfl rfl rfl rfl (by kernel_rfl) Tryz.func8 (by kernel_rfl)
    (of_decide_eq_true (by kernel_rfl)) (by unfold Func.isWrapper; first | (rw [if_pos (by decide +kernel)]; kernel_rfl) | (rw [if_neg (by decide +kernel)]; exact ⟨rfl, rfl⟩))
    (fun os started H enc _ => lifted os started H enc)
theorem proved : Rows.BookSealsSaid := over
theorem card : Rows.BookSealsCardSaid :=
  Claim7.holds_tied_plain_at .later [] [.data, .data, .data, .data, .data, .data, .data, .data, .data, .pinned] true (true, "2f445e6227ad9116f1e8045694443882da0f1ab32f2601a0cc71696d36e1eb79") true
    proved (fun _ h => by cases h) (by kernel_rfl) (fun _ h => by cases h) bookSeals_row_tie rfl ⟨rfl, rfl⟩ (by kernel_rfl) rfl
    (fun f fn hf hfn => by
      obtain rfl : f = 8 := Option.some.inj ((show Tryz.prog.funcNamed Rows.bookSealsRow.func = some 8 by kernel_rfl).symm.trans hf) |>.symm
      obtain rfl : fn = Tryz.f8 := (Option.some.inj (Tryz.func8.symm.trans hfn)).symm
      exact ⟨by kernel_rfl, fun j t ht => by
        rw [Tryz.params8] at ht
        have hm : t ∈ [54, 24, 24] := by simpa using Array.mem_of_getElem? ht
        have hall : ([54, 24, 24].all fun u => !Tryz.prog.wantsStandIn u) = true := by kernel_rfl
        exact (show Tryz.prog.wantsStandIn t = false by simpa using List.all_eq_true.1 hall t hm)⟩)
    (by kernel_rfl)
#print axioms card
end Go.Proofs.YtngoaapgdfohjaaGreatDoor.bookSeals
namespace Go.Proofs.YtngoaapgdfohjaaGreatDoor
/-- The row, under a short name, for the claim. -/
theorem bookSeals_holds : Rows.BookSealsCardSaid := bookSeals.card
end Go.Proofs.YtngoaapgdfohjaaGreatDoor
