/- Own text. -/
import Derived.Test.YtnfadpkhjfillaaDoorU3
set_option linter.unusedVariables false
set_option linter.unusedSimpArgs false
set_option maxRecDepth 100000
set_option maxHeartbeats 4000000
namespace Go.Proofs.YtnfadpkhjfillaaDoor.T28
open Go Go.Proofs.YtnfadpkhjfillaaDoor.X
theorem T.laidOut : laidOutB Tryd.prog = true := by kernel_rfl
theorem T.zI : zeroIs Tryd.prog 3 (.int .i64 0) := fun w => by kernel_rfl
theorem T.k49 : Go.Maps.Keyed Tryd.prog 49 := keyedS T.laidOut (of_decide_eq_true (by kernel_rfl)) (by kernel_rfl) (by kernel_rfl)
theorem T.K49 : isValKey Tryd.prog 49 = true := by kernel_rfl
theorem T.f132_0 : fieldOff Tryd.prog 132 0 = some 0 := by kernel_rfl
instance : FO Tryd.prog 132 0 0 := ⟨T.f132_0⟩
theorem T.f132_1 : fieldOff Tryd.prog 132 1 = some 1 := by kernel_rfl
instance : FO Tryd.prog 132 1 1 := ⟨T.f132_1⟩
theorem T.f132_2 : fieldOff Tryd.prog 132 2 = some 2 := by kernel_rfl
instance : FO Tryd.prog 132 2 2 := ⟨T.f132_2⟩
theorem T.f132_3 : fieldOff Tryd.prog 132 3 = some 3 := by kernel_rfl
instance : FO Tryd.prog 132 3 3 := ⟨T.f132_3⟩
theorem T.f132_4 : fieldOff Tryd.prog 132 4 = some 4 := by kernel_rfl
instance : FO Tryd.prog 132 4 4 := ⟨T.f132_4⟩
theorem T.g49 : goFn Tryd.prog 49 = true := by kernel_rfl
theorem T.g75 : goFn Tryd.prog 75 = true := by kernel_rfl
theorem T.s103 : scal Tryd.prog 103 = true := by kernel_rfl
instance : SC Tryd.prog 103 := ⟨T.s103⟩
theorem T.z3 : zeroOf Tryd.prog 3 = some (.int .i64 0) := by kernel_rfl

def busyF (h : List Evt) (n : Nat) : Val → Option Int := fun c => match lastI h c n with
  | some j => if (h.getD j E0).type = 1 then some ((j : Nat) : Int) else none
  | none => none
def lostF (h : List Evt) (n : Nat) : Val → Option Int := fun c => match lastI h c n with
  | some j => if (h.getD j E0).type = 4 then some ((j : Nat) : Int) else none
  | none => none
def lastT (h : List Evt) (n : Nat) : Int := if n = 0 then 0 else (h.getD (n - 1) E0).time
theorem lastI_hit {h : List Evt} {i : Nat} {c : Val} (hc : (h.getD i E0).client = c) : lastI h c (i + 1) = some i := by
  show (if (h.getD i E0).client = c then some i else lastI h c i) = _
  rw [if_pos hc]
theorem lastI_miss {h : List Evt} {i : Nat} {c : Val} (hc : ¬ (h.getD i E0).client = c) : lastI h c (i + 1) = lastI h c i := by
  show (if (h.getD i E0).client = c then some i else lastI h c i) = _
  rw [if_neg hc]
theorem busyF_none (h : List Evt) : busyF h 0 = fun _ => none := rfl
theorem lostF_none (h : List Evt) : lostF h 0 = fun _ => none := rfl
theorem busyF_some (h : List Evt) (i : Nat) : (busyF h i (h.getD i E0).client).isSome = busyB h i := by
  unfold busyF busyB lastS
  cases e : lastI h (h.getD i E0).client i with
  | none => simp
  | some j =>
    by_cases h1 : (h.getD j E0).type = 1
    · simp only [if_pos h1, Option.isSome_some, Int.toNat_natCast, h1, decide_true, Bool.and_true]
      exact (decide_eq_true (by omega)).symm
    · dsimp only
      rw [if_neg h1]
      simp only [Int.toNat_natCast]
      rw [decide_eq_false h1, Bool.and_false]
      rfl
theorem lostF_some (h : List Evt) (i : Nat) : (lostF h i (h.getD i E0).client).isSome = lostB h i := by
  unfold lostF lostB lastS
  cases e : lastI h (h.getD i E0).client i with
  | none => simp
  | some j =>
    by_cases h1 : (h.getD j E0).type = 4
    · simp only [if_pos h1, Option.isSome_some, Int.toNat_natCast, h1, decide_true, Bool.and_true]
      exact (decide_eq_true (by omega)).symm
    · dsimp only
      rw [if_neg h1]
      simp only [Int.toNat_natCast]
      rw [decide_eq_false h1, Bool.and_false]
      rfl
theorem busyF_get {h : List Evt} {i : Nat} (hb : busyB h i = true) : (busyF h i (h.getD i E0).client).getD 0 = lastS h i ∧ 0 ≤ lastS h i := by
  unfold busyB at hb
  rw [Bool.and_eq_true, decide_eq_true_eq, decide_eq_true_eq] at hb
  refine ⟨?_, hb.1⟩
  unfold busyF
  unfold lastS at hb ⊢
  cases e : lastI h (h.getD i E0).client i with
  | none => rw [e] at hb; simp at hb
  | some j =>
    rw [e] at hb
    simp only [Int.toNat_natCast] at hb
    simp only [if_pos hb.2, Option.getD_some]
theorem busy_lost {h : List Evt} {i : Nat} (hb : busyB h i = true) : lostB h i = false := by
  unfold busyB at hb
  rw [Bool.and_eq_true, decide_eq_true_eq, decide_eq_true_eq] at hb
  unfold lostB
  rw [hb.2]
  simp
theorem back_eq {h : List Evt} {i : Nat} (hr : rightE (h.getD i E0) = true) : decide ((h.getD i E0).time < lastT h i) = backB h i := by
  unfold lastT backB
  by_cases hi : i = 0
  · subst hi
    have := (right_head hr).1
    simp only [if_pos]
    rw [decide_eq_false this]
    rfl
  · rw [if_neg hi, decide_eq_true (by omega : 0 < ((i : Nat) : Int)), Bool.true_and, show (((i : Nat) : Int) - 1).toNat = i - 1 by omega]
theorem lastT_step (h : List Evt) (i : Nat) : lastT h (i + 1) = (h.getD i E0).time := by unfold lastT; rw [if_neg (by omega)]; rfl
theorem busy_call {h : List Evt} {i : Nat} (ht : (h.getD i E0).type = 1) : upd (busyF h i) (h.getD i E0).client (some ((i : Nat) : Int)) = busyF h (i + 1) := by
  funext c
  unfold upd
  by_cases hc : c = (h.getD i E0).client
  · rw [if_pos hc]
    unfold busyF
    rw [lastI_hit hc.symm]
    show _ = (if _ then _ else _)
    rw [if_pos ht]
  · rw [if_neg hc]
    unfold busyF
    rw [lastI_miss (fun e => hc e.symm)]
theorem busy_back {h : List Evt} {i : Nat} (ht : ¬ (h.getD i E0).type = 1) : upd (busyF h i) (h.getD i E0).client none = busyF h (i + 1) := by
  funext c
  unfold upd
  by_cases hc : c = (h.getD i E0).client
  · rw [if_pos hc]
    unfold busyF
    rw [lastI_hit hc.symm]
    show _ = (if _ then _ else _)
    rw [if_neg ht]
  · rw [if_neg hc]
    unfold busyF
    rw [lastI_miss (fun e => hc e.symm)]
theorem lost_new {h : List Evt} {i : Nat} (ht : (h.getD i E0).type = 4) : upd (lostF h i) (h.getD i E0).client (some ((i : Nat) : Int)) = lostF h (i + 1) := by
  funext c
  unfold upd
  by_cases hc : c = (h.getD i E0).client
  · rw [if_pos hc]
    unfold lostF
    rw [lastI_hit hc.symm]
    show _ = (if _ then _ else _)
    rw [if_pos ht]
  · rw [if_neg hc]
    unfold lostF
    rw [lastI_miss (fun e => hc e.symm)]
theorem lost_stay {h : List Evt} {i : Nat} (ht : ¬ (h.getD i E0).type = 4) (hl : lostB h i = false) : lostF h i = lostF h (i + 1) := by
  funext c
  have h1 := lostF_some h i
  rw [hl] at h1
  by_cases hc : c = (h.getD i E0).client
  · subst hc
    have h2 : lostF h i (h.getD i E0).client = none := by
      cases e : lostF h i (h.getD i E0).client with
      | none => rfl
      | some j => rw [e] at h1; cases h1
    rw [h2]
    unfold lostF
    rw [lastI_hit rfl]
    show _ = (if _ then _ else _)
    rw [if_neg ht]
  · unfold lostF
    rw [lastI_miss (fun e => hc e.symm)]
/-! `(*incognito/pair.clerk).see` -/
theorem c_see (bc b1 b2 be ne : Nat) (f1 f2 : Val → Option Int) (la : Int) (gs : List Int) (Ag : Option Addr) (cg : Nat) (Cg : Chunk) (es : List Value) (h : List Evt) (A : Option Addr) (c : Nat) (i : Nat) {W0 : World} {H0 : Heap} {L0 : List Nat} {M0 : List Chunk} (w0 : World) (G : Heap) (hS0 : St W0 H0 L0 G w0 ([[(bc, Cells 132 [(0, .map (some b1)), (1, .map (some b2)), (2, .int .i64 la), (3, .slice Ag gs.length cg), (4, .slice (some ⟨be, 0, none⟩) ne ne)])], [(b1, MapF Tryd.prog 49 kvV vvI f1)], [(b2, MapF Tryd.prog 49 kvV vvI f2)], Cg, [(be, Arr 3 es)]] ++ M0)) (hg0 : CellsAt G 0 0 [.int .i64 3, .int .i64 1, str []]) (hg1 : CellsAt G 1 0 [.int .i64 3, .int .i64 0, str []]) (hOg : X.Own (Knd.int .i64) 3 G Ag cg gs Cg) (hes : es.length = ne) (hne : ne = h.length) (hf1 : f1 = busyF h i) (hf2 : f2 = lostF h i) (hla : la = lastT h i) (hgs : gs.length ≤ i) (hR : Rd kEvt G A h) (hl : h.length ≤ 1000000000) (hi : i < h.length) (hok : ∀ x ∈ h, x.Wf ∧ (rightE x = true → x.out.length ≤ 1000000)):
  Calls Tryd.prog 67 #[.pointer (some ⟨bc, 0, none⟩), .slice A h.length c, .int .i64 (i : Int)] w0 (X.Ends w0 G (X.keys (List.flatten [[(bc, Cells 132 [(0, .map (some b1)), (1, .map (some b2)), (2, .int .i64 la), (3, .slice Ag gs.length cg), (4, .slice (some ⟨be, 0, none⟩) ne ne)])], [(b1, MapF Tryd.prog 49 kvV vvI f1)], [(b2, MapF Tryd.prog 49 kvV vvI f2)], Cg, [(be, Arr 3 es)]])) (fun v G' C' => v = .int .i64 (wrongS h i) ∧ ∃ (f1' f2' : Val → Option Int) (la' : Int) (gs' : List Int) (Ag' : Option Addr) (cg' : Nat) (Cg' : Chunk) (es' : List Value), C' = List.flatten [[(bc, Cells 132 [(0, .map (some b1)), (1, .map (some b2)), (2, .int .i64 la'), (3, .slice Ag' gs'.length cg'), (4, .slice (some ⟨be, 0, none⟩) ne ne)])], [(b1, MapF Tryd.prog 49 kvV vvI f1')], [(b2, MapF Tryd.prog 49 kvV vvI f2')], Cg', [(be, Arr 3 es')]] ∧ X.Own (Knd.int .i64) 3 G' Ag' cg' gs' Cg' ∧ es'.length = ne ∧ (wrongS h i = 0 → f1' = busyF h (i + 1) ∧ f2' = lostF h (i + 1) ∧ la' = lastT h (i + 1) ∧ gs'.length ≤ i + 1)) (fun _ _ _ => False)) := by
 refine enter Tryd.func67 rfl Tryd.ntmps67 rfl ?_
 intro Q hQ a E
 have hG := hS0.sub
 have S := St.startM (Ms := [[(bc, Cells 132 [(0, .map (some b1)), (1, .map (some b2)), (2, .int .i64 la), (3, .slice Ag gs.length cg), (4, .slice (some ⟨be, 0, none⟩) ne ne)])], [(b1, MapF Tryd.prog 49 kvV vvI f1)], [(b2, MapF Tryd.prog 49 kvV vvI f2)], Cg, [(be, Arr 3 es)]]) hS0
 obtain ⟨K0, hK0⟩ : ∃ K, K = X.keys (List.flatten [[(bc, Cells 132 [(0, .map (some b1)), (1, .map (some b2)), (2, .int .i64 la), (3, .slice Ag gs.length cg), (4, .slice (some ⟨be, 0, none⟩) ne ne)])], [(b1, MapF Tryd.prog 49 kvV vvI f1)], [(b2, MapF Tryd.prog 49 kvV vvI f2)], Cg, [(be, Arr 3 es)]]) := ⟨_, rfl⟩
 rw [← hK0] at S
 refine sr fun K hK => ?_
 refine rn 1 E S ?_; clear E S; intro a w E S
 apply hK; clear hK K
 refine sr fun K hK => ?_
 refine rn 2 E S ?_; clear E S; intro a w E S
 have hi2 : (i : Int).toNat < h.length := by omega
 obtain ⟨eb2, eo2, hA2, el2⟩ := Rd.at hR (List.getElem?_eq_getElem hi2); cases hA2
 rw [show h[(i : Int).toNat] = (h.getD i E0) from getD_get (i := i) hi2 _] at el2
 obtain ⟨A1_2, c1_2, A2_2, c2_2, el2, ha1_2, hr1_2, ha2_2, hr2_2⟩ := kEvt_open el2
 refine o_ixL E rfl rfl rfl T.l22 ⟨by omega, by omega⟩ ?_; clear E; intro a E
 have hwe : (h.getD i E0).Wf := (hok _ (evm hi)).1
 refine o_ldIA E rfl S rfl el2 T.a52 ?_; clear E; intro a E
 refine o_allocZ E rfl S ?_; clear E S; intro B7 w a S E
 refine rn 1 E S ?_; clear E S; intro a w E S
 apply hK; clear hK K
 refine wp_seq_k (fun K5 hK4 => ?_)
 refine wp_block ?_
 refine sr fun K hK => ?_
 refine rn 3 E S ?_; clear E S; intro a w E S
 apply hK; clear hK K
 refine cond E rfl (fun h7r => ?_) (fun h7r => ?_)
 ·have h7 := nm h7r
  refine sr fun K hK => ?_
  refine rn 1 E S ?_; clear E S; intro a w E S
  apply hK; clear hK K
  refine rtE hQ E S ?_
  have he_9 : wrongS h i = 5 := by
   unfold wrongS
   rw [if_pos (by simpa using h7)]
  replace S := S.drop (M' := [_, _, _, _, _]) (sub_drop (sub_keep (sub_keep (sub_keep (sub_keep (sub_keep sub_nil))))))
  replace S := S.front (C := [(be, Arr 3 es)]) (.there (.there (.there (.there .here))))
  replace S := S.front (C := Cg) (.there (.there (.there (.there .here))))
  replace S := S.front (C := [(b2, MapF Tryd.prog 49 kvV vvI f2)]) (.there (.there (.there (.there .here))))
  replace S := S.front (C := [(b1, MapF Tryd.prog 49 kvV vvI f1)]) (.there (.there (.there (.there .here))))
  replace S := S.front (C := [(bc, Cells 132 [(0, .map (some b1)), (1, .map (some b2)), (2, .int .i64 la), (3, .slice Ag gs.length cg), (4, .slice (some ⟨be, 0, none⟩) ne ne)])]) (.there (.there (.there (.there .here))))
  subst hK0
  exact ⟨_, _, S.stop (List.Sublist.refl _), by rw [he_9]; rfl, _, _, _, _, _, _, _, _, rfl, hOg, hes, fun hz => absurd (he_9.symm.trans hz) (by decide)⟩
 ·have h7 := nm h7r
  refine sr fun K hK => ?_
  refine rn 1 E S ?_; clear E S; intro a w E S
  refine o_callP E rfl S rfl rfl T.g75 (c_rightE (h.getD i E0) _ _ _ _ _ _ S.sub hg0 hg1 hr1_2 hr2_2 (by first | assumption | exact hwe)) ?_
  clear E S; rintro _ w a S rfl E
  refine rn 2 E S ?_; clear E S; intro a w E S
  apply hK; clear hK K
  refine cond E rfl (fun h10r => ?_) (fun h10r => ?_)
  ·have h10 := nm h10r
   refine sr fun K hK => ?_
   refine rn 1 E S ?_; clear E S; intro a w E S
   apply hK; clear hK K
   refine rtE hQ E S ?_
   have he_9 : wrongS h i = 2 := by
    unfold wrongS
    rw [if_neg (by simpa using h7)]
    rw [if_pos (by simpa using h10)]
   replace S := S.drop (M' := [_, _, _, _, _]) (sub_drop (sub_keep (sub_keep (sub_keep (sub_keep (sub_keep sub_nil))))))
   replace S := S.front (C := [(be, Arr 3 es)]) (.there (.there (.there (.there .here))))
   replace S := S.front (C := Cg) (.there (.there (.there (.there .here))))
   replace S := S.front (C := [(b2, MapF Tryd.prog 49 kvV vvI f2)]) (.there (.there (.there (.there .here))))
   replace S := S.front (C := [(b1, MapF Tryd.prog 49 kvV vvI f1)]) (.there (.there (.there (.there .here))))
   replace S := S.front (C := [(bc, Cells 132 [(0, .map (some b1)), (1, .map (some b2)), (2, .int .i64 la), (3, .slice Ag gs.length cg), (4, .slice (some ⟨be, 0, none⟩) ne ne)])]) (.there (.there (.there (.there .here))))
   subst hK0
   exact ⟨_, _, S.stop (List.Sublist.refl _), by rw [he_9]; rfl, _, _, _, _, _, _, _, _, rfl, hOg, hes, fun hz => absurd (he_9.symm.trans hz) (by decide)⟩
  ·have h10 := nm h10r
   refine wp_seq_k (fun K13 hK12 => ?_)
   refine drawnP [fun v => v = .pointer (some ⟨B7, 0, none⟩), fun v => v = .int .i64 ((h.getD i E0).time), fun v => v = .pointer (some ⟨bc, 0, none⟩), fun v => v = .pointer (some ⟨bc, 0, none⟩), fun v => v = .pointer (some ⟨bc, 2, none⟩), fun v => v = .int .i64 la, fun v => v = .bool (decide (((h.getD i E0).time) < la)), fun v => v = .bool (decide (((h.getD i E0).time) < la))] T.mix rfl E S rfl ⟨?_, ?_, ?_, ?_, ?_, ?_, ?_, ?_, trivial⟩ ?_
   ·intro a w G1 hl S E hp
    refine o_fld E rfl rfl T.f52_0 ?_; clear E; intro a E
    exact ⟨_, _, S, rfl, E.get _ _ rfl, E.defers, rfl⟩
   ·intro a w G1 hl S E hp
    obtain ⟨_, e0, rfl⟩ := hp 0 26 _ rfl rfl rfl; replace E := E.add e0
    refine o_ld E rfl S rfl T.s2 (.here .here) rfl ?_; clear E; intro a E
    exact ⟨_, _, S, rfl, E.get _ _ rfl, E.defers, rfl⟩
   ·intro a w G1 hl S E hp
    refine o_move E rfl rfl ?_; clear E; intro a E
    exact ⟨_, _, S, rfl, E.get _ _ rfl, E.defers, rfl⟩
   ·intro a w G1 hl S E hp
    obtain ⟨_, e2, rfl⟩ := hp 2 28 _ rfl rfl rfl; replace E := E.add e2
    refine o_nil E rfl rfl ?_; clear E; intro a E
    exact ⟨_, _, S, rfl, E.get _ _ rfl, E.defers, rfl⟩
   ·intro a w G1 hl S E hp
    obtain ⟨_, e3, rfl⟩ := hp 3 29 _ rfl rfl rfl; replace E := E.add e3
    refine o_fld E rfl rfl T.f132_2 ?_; clear E; intro a E
    exact ⟨_, _, S, rfl, E.get _ _ rfl, E.defers, rfl⟩
   ·intro a w G1 hl S E hp
    obtain ⟨_, e4, rfl⟩ := hp 4 30 _ rfl rfl rfl; replace E := E.add e4
    refine o_ld E rfl S rfl T.s2 (.there (.here .here)) rfl ?_; clear E; intro a E
    exact ⟨_, _, S, rfl, E.get _ _ rfl, E.defers, rfl⟩
   ·intro a w G1 hl S E hp
    obtain ⟨_, e1, rfl⟩ := hp 1 27 _ rfl rfl rfl; replace E := E.add e1
    obtain ⟨_, e5, rfl⟩ := hp 5 31 _ rfl rfl rfl; replace E := E.add e5
    refine o_lss E rfl rfl rfl ?_; clear E; intro a E
    exact ⟨_, _, S, rfl, E.get _ _ rfl, E.defers, rfl⟩
   ·intro a w G1 hl S E hp
    obtain ⟨_, e6, rfl⟩ := hp 6 32 _ rfl rfl rfl; replace E := E.add e6
    refine o_assign E rfl rfl ?_; clear E; intro a E
    exact ⟨_, _, S, rfl, E.get _ _ rfl, E.defers, rfl⟩
   clear E S; intro a w S E hp
   obtain ⟨_, e7, rfl⟩ := hp 7 25 _ rfl rfl; replace E := E.add e7
   clear hp
   refine hK12 _ _ ?_; clear hK12
   refine cond E rfl (fun h14r => ?_) (fun h14r => ?_)
   ·have h14 := nm h14r
    refine sr fun K hK => ?_
    refine rn 1 E S ?_; clear E S; intro a w E S
    apply hK; clear hK K
    refine rtE hQ E S ?_
    have hr_9 : rightE (h.getD i E0) = true := by simpa using h10
    have hb_9 := h14r
    rw [hla, back_eq hr_9] at hb_9
    have he_9 : wrongS h i = 4 := by
     unfold wrongS
     rw [if_neg (by simpa using h7)]
     rw [if_neg (by simpa using h10)]
     rw [if_pos hb_9]
    replace S := S.drop (M' := [_, _, _, _, _]) (sub_drop (sub_keep (sub_keep (sub_keep (sub_keep (sub_keep sub_nil))))))
    replace S := S.front (C := [(be, Arr 3 es)]) (.there (.there (.there (.there .here))))
    replace S := S.front (C := Cg) (.there (.there (.there (.there .here))))
    replace S := S.front (C := [(b2, MapF Tryd.prog 49 kvV vvI f2)]) (.there (.there (.there (.there .here))))
    replace S := S.front (C := [(b1, MapF Tryd.prog 49 kvV vvI f1)]) (.there (.there (.there (.there .here))))
    replace S := S.front (C := [(bc, Cells 132 [(0, .map (some b1)), (1, .map (some b2)), (2, .int .i64 la), (3, .slice Ag gs.length cg), (4, .slice (some ⟨be, 0, none⟩) ne ne)])]) (.there (.there (.there (.there .here))))
    subst hK0
    exact ⟨_, _, S.stop (List.Sublist.refl _), by rw [he_9]; rfl, _, _, _, _, _, _, _, _, rfl, hOg, hes, fun hz => absurd (he_9.symm.trans hz) (by decide)⟩
   ·have h14 := nm h14r
    refine wp_skip ?_
    refine hK4 _ _ ?_; clear hK4
    refine sr fun K hK => ?_
    refine rn 6 E S ?_; clear E S; intro a w E S
    apply hK; clear hK K
    refine wp_seq_k (fun K18 hK17 => ?_)
    refine drawnP [fun v => v = .pointer (some ⟨bc, 0, none⟩), fun v => v = .pointer (some ⟨bc, 0, none⟩), fun v => v = .pointer (some ⟨bc, 0, none⟩), fun v => v = .map (some b1), fun v => v = .pointer (some ⟨B7, 1, none⟩), fun v => v = .agg #[.int .i64 ((h.getD i E0).client.k), .int .i64 ((h.getD i E0).client.n), str ((h.getD i E0).client.s)], fun v => v = .tuple #[.int .i64 ((f1 ((h.getD i E0).client)).getD 0), .bool ((f1 ((h.getD i E0).client)).isSome)], fun v => v = .tuple #[.int .i64 ((f1 ((h.getD i E0).client)).getD 0), .bool ((f1 ((h.getD i E0).client)).isSome)], fun v => v = .int .i64 ((f1 ((h.getD i E0).client)).getD 0), fun v => v = .bool ((f1 ((h.getD i E0).client)).isSome), fun v => v = .int .i64 ((f1 ((h.getD i E0).client)).getD 0), fun v => v = .bool ((f1 ((h.getD i E0).client)).isSome)] T.mix rfl E S rfl ⟨?_, ?_, ?_, ?_, ?_, ?_, ?_, ?_, ?_, ?_, ?_, ?_, trivial⟩ ?_
    ·intro a w G1 hl S E hp
     refine o_move E rfl rfl ?_; clear E; intro a E
     exact ⟨_, _, S, rfl, E.get _ _ rfl, E.defers, rfl⟩
    ·intro a w G1 hl S E hp
     obtain ⟨_, e0, rfl⟩ := hp 0 39 _ rfl rfl rfl; replace E := E.add e0
     refine o_nil E rfl rfl ?_; clear E; intro a E
     exact ⟨_, _, S, rfl, E.get _ _ rfl, E.defers, rfl⟩
    ·intro a w G1 hl S E hp
     obtain ⟨_, e1, rfl⟩ := hp 1 40 _ rfl rfl rfl; replace E := E.add e1
     refine o_fld E rfl rfl T.f132_0 ?_; clear E; intro a E
     exact ⟨_, _, S, rfl, E.get _ _ rfl, E.defers, rfl⟩
    ·intro a w G1 hl S E hp
     obtain ⟨_, e2, rfl⟩ := hp 2 41 _ rfl rfl rfl; replace E := E.add e2
     refine o_ld E rfl S rfl T.s103 (.there (.here .here)) rfl ?_; clear E; intro a E
     exact ⟨_, _, S, rfl, E.get _ _ rfl, E.defers, rfl⟩
    ·intro a w G1 hl S E hp
     refine o_fld E rfl rfl T.f52_1 ?_; clear E; intro a E
     exact ⟨_, _, S, rfl, E.get _ _ rfl, E.defers, rfl⟩
    ·intro a w G1 hl S E hp
     obtain ⟨_, e4, rfl⟩ := hp 4 43 _ rfl rfl rfl; replace E := E.add e4
     refine o_ldA E rfl S rfl T.a49 (.here .here) rfl ?_; clear E; intro a E
     exact ⟨_, _, S, rfl, E.get _ _ rfl, E.defers, rfl⟩
    ·intro a w G1 hl S E hp
     obtain ⟨_, e3, rfl⟩ := hp 3 42 _ rfl rfl rfl; replace E := E.add e3
     obtain ⟨_, e5, rfl⟩ := hp 5 44 _ rfl rfl rfl; replace E := E.add e5
     refine o_lookOkI T.k49 Tryd.underlying103 T.zI kvV_inj E rfl S (.there (.there (.here .here))) rfl rfl rfl (key_val T.K49 (by first | assumption | exact hwe.client)) ?_; clear E; intro a E
     exact ⟨_, _, S, rfl, E.get _ _ rfl, E.defers, rfl⟩
    ·intro a w G1 hl S E hp
     obtain ⟨_, e6, rfl⟩ := hp 6 45 _ rfl rfl rfl; replace E := E.add e6
     refine o_move E rfl rfl ?_; clear E; intro a E
     exact ⟨_, _, S, rfl, E.get _ _ rfl, E.defers, rfl⟩
    ·intro a w G1 hl S E hp
     obtain ⟨_, e7, rfl⟩ := hp 7 38 _ rfl rfl rfl; replace E := E.add e7
     refine o_extract E rfl rfl rfl ?_; clear E; intro a E
     exact ⟨_, _, S, rfl, E.get _ _ rfl, E.defers, rfl⟩
    ·intro a w G1 hl S E hp
     obtain ⟨_, e7, rfl⟩ := hp 7 38 _ rfl rfl rfl; replace E := E.add e7
     refine o_extract E rfl rfl rfl ?_; clear E; intro a E
     exact ⟨_, _, S, rfl, E.get _ _ rfl, E.defers, rfl⟩
    ·intro a w G1 hl S E hp
     obtain ⟨_, e8, rfl⟩ := hp 8 46 _ rfl rfl rfl; replace E := E.add e8
     refine o_assign E rfl rfl ?_; clear E; intro a E
     exact ⟨_, _, S, rfl, E.get _ _ rfl, E.defers, rfl⟩
    ·intro a w G1 hl S E hp
     obtain ⟨_, e9, rfl⟩ := hp 9 47 _ rfl rfl rfl; replace E := E.add e9
     refine o_assign E rfl rfl ?_; clear E; intro a E
     exact ⟨_, _, S, rfl, E.get _ _ rfl, E.defers, rfl⟩
    clear E S; intro a w S E hp
    obtain ⟨_, e10, rfl⟩ := hp 10 8 _ rfl rfl; replace E := E.add e10
    obtain ⟨_, e11, rfl⟩ := hp 11 9 _ rfl rfl; replace E := E.add e11
    clear hp
    refine hK17 _ _ ?_; clear hK17
    refine wp_seq_k (fun K20 hK19 => ?_)
    refine sr fun K hK => ?_
    refine rn 3 E S ?_; clear E S; intro a w E S
    apply hK; clear hK K
    refine cond E rfl (fun h22r => ?_) (fun h22r => ?_)
    ·have h22 := nm h22r
     refine wp_seq_k (fun K24 hK23 => ?_)
     refine wp_seq_k (fun K26 hK25 => ?_)
     refine drawnP [fun v => v = .pointer (some ⟨bc, 0, none⟩), fun v => v = .pointer (some ⟨bc, 0, none⟩), fun v => v = .pointer (some ⟨bc, 1, none⟩), fun v => v = .map (some b2), fun v => v = .pointer (some ⟨B7, 1, none⟩), fun v => v = .agg #[.int .i64 ((h.getD i E0).client.k), .int .i64 ((h.getD i E0).client.n), str ((h.getD i E0).client.s)], fun v => v = .tuple #[.int .i64 ((f2 ((h.getD i E0).client)).getD 0), .bool ((f2 ((h.getD i E0).client)).isSome)], fun v => v = .tuple #[.int .i64 ((f2 ((h.getD i E0).client)).getD 0), .bool ((f2 ((h.getD i E0).client)).isSome)], fun v => v = .int .i64 ((f2 ((h.getD i E0).client)).getD 0), fun v => v = .bool ((f2 ((h.getD i E0).client)).isSome), fun v => v = .int .i64 ((f2 ((h.getD i E0).client)).getD 0), fun v => v = .bool ((f2 ((h.getD i E0).client)).isSome)] T.mix rfl E S rfl ⟨?_, ?_, ?_, ?_, ?_, ?_, ?_, ?_, ?_, ?_, ?_, ?_, trivial⟩ ?_
     ·intro a w G1 hl S E hp
      refine o_move E rfl rfl ?_; clear E; intro a E
      exact ⟨_, _, S, rfl, E.get _ _ rfl, E.defers, rfl⟩
     ·intro a w G1 hl S E hp
      obtain ⟨_, e0, rfl⟩ := hp 0 52 _ rfl rfl rfl; replace E := E.add e0
      refine o_nil E rfl rfl ?_; clear E; intro a E
      exact ⟨_, _, S, rfl, E.get _ _ rfl, E.defers, rfl⟩
     ·intro a w G1 hl S E hp
      obtain ⟨_, e1, rfl⟩ := hp 1 53 _ rfl rfl rfl; replace E := E.add e1
      refine o_fld E rfl rfl T.f132_1 ?_; clear E; intro a E
      exact ⟨_, _, S, rfl, E.get _ _ rfl, E.defers, rfl⟩
     ·intro a w G1 hl S E hp
      obtain ⟨_, e2, rfl⟩ := hp 2 54 _ rfl rfl rfl; replace E := E.add e2
      refine o_ld E rfl S rfl T.s103 (.there (.here .here)) rfl ?_; clear E; intro a E
      exact ⟨_, _, S, rfl, E.get _ _ rfl, E.defers, rfl⟩
     ·intro a w G1 hl S E hp
      refine o_fld E rfl rfl T.f52_1 ?_; clear E; intro a E
      exact ⟨_, _, S, rfl, E.get _ _ rfl, E.defers, rfl⟩
     ·intro a w G1 hl S E hp
      obtain ⟨_, e4, rfl⟩ := hp 4 56 _ rfl rfl rfl; replace E := E.add e4
      refine o_ldA E rfl S rfl T.a49 (.here .here) rfl ?_; clear E; intro a E
      exact ⟨_, _, S, rfl, E.get _ _ rfl, E.defers, rfl⟩
     ·intro a w G1 hl S E hp
      obtain ⟨_, e3, rfl⟩ := hp 3 55 _ rfl rfl rfl; replace E := E.add e3
      obtain ⟨_, e5, rfl⟩ := hp 5 57 _ rfl rfl rfl; replace E := E.add e5
      refine o_lookOkI T.k49 Tryd.underlying103 T.zI kvV_inj E rfl S (.there (.there (.there (.here .here)))) rfl rfl rfl (key_val T.K49 (by first | assumption | exact hwe.client)) ?_; clear E; intro a E
      exact ⟨_, _, S, rfl, E.get _ _ rfl, E.defers, rfl⟩
     ·intro a w G1 hl S E hp
      obtain ⟨_, e6, rfl⟩ := hp 6 58 _ rfl rfl rfl; replace E := E.add e6
      refine o_move E rfl rfl ?_; clear E; intro a E
      exact ⟨_, _, S, rfl, E.get _ _ rfl, E.defers, rfl⟩
     ·intro a w G1 hl S E hp
      obtain ⟨_, e7, rfl⟩ := hp 7 51 _ rfl rfl rfl; replace E := E.add e7
      refine o_extract E rfl rfl rfl ?_; clear E; intro a E
      exact ⟨_, _, S, rfl, E.get _ _ rfl, E.defers, rfl⟩
     ·intro a w G1 hl S E hp
      obtain ⟨_, e7, rfl⟩ := hp 7 51 _ rfl rfl rfl; replace E := E.add e7
      refine o_extract E rfl rfl rfl ?_; clear E; intro a E
      exact ⟨_, _, S, rfl, E.get _ _ rfl, E.defers, rfl⟩
     ·intro a w G1 hl S E hp
      obtain ⟨_, e8, rfl⟩ := hp 8 59 _ rfl rfl rfl; replace E := E.add e8
      refine o_assign E rfl rfl ?_; clear E; intro a E
      exact ⟨_, _, S, rfl, E.get _ _ rfl, E.defers, rfl⟩
     ·intro a w G1 hl S E hp
      obtain ⟨_, e9, rfl⟩ := hp 9 60 _ rfl rfl rfl; replace E := E.add e9
      refine o_assign E rfl rfl ?_; clear E; intro a E
      exact ⟨_, _, S, rfl, E.get _ _ rfl, E.defers, rfl⟩
     clear E S; intro a w S E hp
     obtain ⟨_, e11, rfl⟩ := hp 11 11 _ rfl rfl; replace E := E.add e11
     clear hp
     refine hK25 _ _ ?_; clear hK25
     refine sr fun K hK => ?_
     refine rn 2 E S ?_; clear E S; intro a w E S
     refine cutG 2 64 (.bool (((f1 ((h.getD i E0).client)).isSome) || ((f2 ((h.getD i E0).client)).isSome))) E S ?_ ?_
     ·refine bsp E (t := 62) rfl (fun hb27 => ?_) (fun hb27 => ?_)
      ·refine rn 2 E S ?_; clear E S; intro a w E S
       exact ⟨S, E.cutT (by rw [hb27] <;> rfl)⟩
      ·have hk28 := nm hb27
       refine rn 2 E S ?_; clear E S; intro a w E S
       exact ⟨S, E.cutT (by rw [hb27] <;> rfl)⟩
     clear E S; intro a w E S
     apply hK; clear hK K
     refine cond E rfl (fun h30r => ?_) (fun h30r => ?_)
     ·have h30 := nm h30r
      refine sr fun K hK => ?_
      refine rn 1 E S ?_; clear E S; intro a w E S
      apply hK; clear hK K
      refine rtE hQ E S ?_
      have hr_9 : rightE (h.getD i E0) = true := by simpa using h10
      have hb_9 := h14r
      rw [hla, back_eq hr_9] at hb_9
      have hc_9 := h30r
      rw [hf1, hf2, busyF_some, lostF_some] at hc_9
      have he_9 : wrongS h i = 4 := by
       unfold wrongS
       rw [if_neg (by simpa using h7)]
       rw [if_neg (by simpa using h10)]
       rw [if_neg (by rw [hb_9]; decide)]
       rw [if_pos (by simpa using h22)]
       rw [if_pos hc_9]
      replace S := S.drop (M' := [_, _, _, _, _]) (sub_drop (sub_keep (sub_keep (sub_keep (sub_keep (sub_keep sub_nil))))))
      replace S := S.front (C := [(be, Arr 3 es)]) (.there (.there (.there (.there .here))))
      replace S := S.front (C := Cg) (.there (.there (.there (.there .here))))
      replace S := S.front (C := [(b2, MapF Tryd.prog 49 kvV vvI f2)]) (.there (.there (.there (.there .here))))
      replace S := S.front (C := [(b1, MapF Tryd.prog 49 kvV vvI f1)]) (.there (.there (.there (.there .here))))
      replace S := S.front (C := [(bc, Cells 132 [(0, .map (some b1)), (1, .map (some b2)), (2, .int .i64 ((h.getD i E0).time)), (3, .slice Ag gs.length cg), (4, .slice (some ⟨be, 0, none⟩) ne ne)])]) (.there (.there (.there (.there .here))))
      subst hK0
      exact ⟨_, _, S.stop (List.Sublist.refl _), by rw [he_9]; rfl, _, _, _, _, _, _, _, _, rfl, hOg, hes, fun hz => absurd (he_9.symm.trans hz) (by decide)⟩
     ·have h30 := nm h30r
      refine wp_skip ?_
      refine hK23 _ _ ?_; clear hK23
      refine wp_seq_k (fun K33 hK32 => ?_)
      replace E := E.cut (L' := [(0, .pointer (some ⟨bc, 0, none⟩)), (1, .slice (some ⟨eb2, eo2, none⟩) h.length c), (2, .int .i64 (i : Int)), (6, .int .i64 0), (7, .pointer (some ⟨B7, 0, none⟩)), (8, .int .i64 ((f1 ((h.getD i E0).client)).getD 0)), (9, .bool ((f1 ((h.getD i E0).client)).isSome)), (11, .bool ((f2 ((h.getD i E0).client)).isSome)), (14, .slice (some ⟨eb2, eo2, none⟩) h.length c), (15, .int .i64 (i : Int)), (16, .pointer (some ⟨eb2, eo2 + (i : Int).toNat * 14, none⟩)), (17, .agg #[.int .i64 ((h.getD i E0).time), .int .i64 ((h.getD i E0).client.k), .int .i64 ((h.getD i E0).client.n), str ((h.getD i E0).client.s), .int .i64 ((h.getD i E0).type), .int .i64 ((h.getD i E0).model), .int .i64 ((h.getD i E0).key.k), .int .i64 ((h.getD i E0).key.n), str ((h.getD i E0).key.s), .int .i64 ((h.getD i E0).op), .slice A1_2 ((h.getD i E0).args.length) c1_2, .slice A2_2 ((h.getD i E0).out.length) c2_2, .bool ((h.getD i E0).noted), str ((h.getD i E0).note)]), (18, .bool (decide (4096 ≤ (i : Int)))), (19, .int .i64 (i : Int)), (20, .bool (decide (4096 ≤ (i : Int)))), (21, .bool (!(rightE (h.getD i E0)))), (22, .agg #[.int .i64 ((h.getD i E0).time), .int .i64 ((h.getD i E0).client.k), .int .i64 ((h.getD i E0).client.n), str ((h.getD i E0).client.s), .int .i64 ((h.getD i E0).type), .int .i64 ((h.getD i E0).model), .int .i64 ((h.getD i E0).key.k), .int .i64 ((h.getD i E0).key.n), str ((h.getD i E0).key.s), .int .i64 ((h.getD i E0).op), .slice A1_2 ((h.getD i E0).args.length) c1_2, .slice A2_2 ((h.getD i E0).out.length) c2_2, .bool ((h.getD i E0).noted), str ((h.getD i E0).note)]), (23, .bool (rightE (h.getD i E0))), (24, .bool (!(rightE (h.getD i E0)))), (25, .bool (decide (((h.getD i E0).time) < la))), (33, .pointer (some ⟨bc, 0, none⟩)), (34, .pointer (some ⟨B7, 0, none⟩)), (35, .int .i64 ((h.getD i E0).time)), (36, .pointer (some ⟨bc, 0, none⟩)), (37, .pointer (some ⟨bc, 2, none⟩)), (48, .pointer (some ⟨B7, 4, none⟩)), (49, .int .i64 ((h.getD i E0).type)), (50, .bool (decide (((h.getD i E0).type) = 1))), (61, .bool ((f1 ((h.getD i E0).client)).isSome)), (62, .bool ((f1 ((h.getD i E0).client)).isSome)), (64, .bool (((f1 ((h.getD i E0).client)).isSome) || ((f2 ((h.getD i E0).client)).isSome)))]) ⟨rfl, rfl, rfl, rfl, rfl, rfl, rfl, rfl, rfl, rfl, rfl, rfl, rfl, rfl, rfl, rfl, rfl, rfl, rfl, rfl, rfl, rfl, rfl, rfl, rfl, rfl, rfl, rfl, rfl, rfl, rfl, trivial⟩
      refine drawnSeq 7 (fun f G' w => G = G' ∧ St w0 G K0 G' w [[(B7, Cells 52 [(0, .int .i64 ((h.getD i E0).time)), (1, .int .i64 ((h.getD i E0).client.k)), (2, .int .i64 ((h.getD i E0).client.n)), (3, str ((h.getD i E0).client.s)), (4, .int .i64 ((h.getD i E0).type)), (5, .int .i64 ((h.getD i E0).model)), (6, .int .i64 ((h.getD i E0).key.k)), (7, .int .i64 ((h.getD i E0).key.n)), (8, str ((h.getD i E0).key.s)), (9, .int .i64 ((h.getD i E0).op)), (10, .slice A1_2 ((h.getD i E0).args.length) c1_2), (11, .slice A2_2 ((h.getD i E0).out.length) c2_2), (12, .bool ((h.getD i E0).noted)), (13, str ((h.getD i E0).note))])], [(bc, Cells 132 [(0, .map (some b1)), (1, .map (some b2)), (2, .int .i64 ((h.getD i E0).time)), (3, .slice Ag gs.length cg), (4, .slice (some ⟨be, 0, none⟩) ne ne)])], [(b1, MapF Tryd.prog 49 kvV vvI f1)], [(b2, MapF Tryd.prog 49 kvV vvI f2)], Cg, [(be, Arr 3 es)]]) [fun v _ => v = .pointer (some ⟨bc, 0, none⟩), fun v _ => v = .pointer (some ⟨bc, 0, none⟩), fun v _ => v = .pointer (some ⟨bc, 0, none⟩), fun v _ => v = .map (some b1), fun v _ => v = .pointer (some ⟨B7, 1, none⟩), fun v _ => v = .agg #[.int .i64 ((h.getD i E0).client.k), .int .i64 ((h.getD i E0).client.n), str ((h.getD i E0).client.s)], fun v _ => v = .int .i64 (i : Int)] T.mix rfl (by kernel_rfl) E ⟨rfl, S.drew⟩ rfl (AllM.get ⟨fun _ _ _ _ h => h, fun _ _ _ _ h => h, fun _ _ _ _ h => h, fun _ _ _ _ h => h, fun _ _ _ _ h => h, fun _ _ _ _ h => h, fun _ _ _ _ h => h, trivial⟩) ⟨?_, ?_, ?_, ?_, ?_, ?_, ?_, trivial⟩ ?_
      ·intro a w G1 f hcl hfi hon hW E hp hO; obtain ⟨rfl, S⟩ := hW
       refine o_move E rfl rfl ?_; clear E; intro a E
       exact ⟨_, _, Heap.le.refl _, ⟨rfl, S⟩, fun d hd => (by cases hd; exact E.get _ _ rfl), E.defers, rfl⟩
      ·intro a w G1 f hcl hfi hon hW E hp hO; obtain ⟨rfl, S⟩ := hW
       obtain ⟨_, e0, rfl⟩ := hp 0 65 _ (hon 0 rfl) rfl rfl; replace E := E.add e0
       refine o_nil E rfl rfl ?_; clear E; intro a E
       exact ⟨_, _, Heap.le.refl _, ⟨rfl, S⟩, fun d hd => (by cases hd; exact E.get _ _ rfl), E.defers, rfl⟩
      ·intro a w G1 f hcl hfi hon hW E hp hO; obtain ⟨rfl, S⟩ := hW
       obtain ⟨_, e1, rfl⟩ := hp 1 66 _ (hon 1 rfl) rfl rfl; replace E := E.add e1
       refine o_fld E rfl rfl T.f132_0 ?_; clear E; intro a E
       exact ⟨_, _, Heap.le.refl _, ⟨rfl, S⟩, fun d hd => (by cases hd; exact E.get _ _ rfl), E.defers, rfl⟩
      ·intro a w G1 f hcl hfi hon hW E hp hO; obtain ⟨rfl, S⟩ := hW
       obtain ⟨_, e2, rfl⟩ := hp 2 67 _ (hon 2 rfl) rfl rfl; replace E := E.add e2
       refine o_ld E rfl S rfl T.s103 (.there (.here .here)) rfl ?_; clear E; intro a E
       exact ⟨_, _, Heap.le.refl _, ⟨rfl, S⟩, fun d hd => (by cases hd; exact E.get _ _ rfl), E.defers, rfl⟩
      ·intro a w G1 f hcl hfi hon hW E hp hO; obtain ⟨rfl, S⟩ := hW
       refine o_fld E rfl rfl T.f52_1 ?_; clear E; intro a E
       exact ⟨_, _, Heap.le.refl _, ⟨rfl, S⟩, fun d hd => (by cases hd; exact E.get _ _ rfl), E.defers, rfl⟩
      ·intro a w G1 f hcl hfi hon hW E hp hO; obtain ⟨rfl, S⟩ := hW
       obtain ⟨_, e4, rfl⟩ := hp 4 69 _ (hon 4 rfl) rfl rfl; replace E := E.add e4
       refine o_ldA E rfl S rfl T.a49 (.here .here) rfl ?_; clear E; intro a E
       exact ⟨_, _, Heap.le.refl _, ⟨rfl, S⟩, fun d hd => (by cases hd; exact E.get _ _ rfl), E.defers, rfl⟩
      ·intro a w G1 f hcl hfi hon hW E hp hO; obtain ⟨rfl, S⟩ := hW
       refine o_move E rfl rfl ?_; clear E; intro a E
       exact ⟨_, _, Heap.le.refl _, ⟨rfl, S⟩, fun d hd => (by cases hd; exact E.get _ _ rfl), E.defers, rfl⟩
      clear E S; intro a w G34 f hle35 hall HW E hp; obtain ⟨rfl, S⟩ := HW
      clear hle35
      obtain ⟨_, e3, rfl⟩ := hp 3 68 _ rfl rfl; replace E := E.add e3
      obtain ⟨_, e5, rfl⟩ := hp 5 70 _ rfl rfl; replace E := E.add e5
      obtain ⟨_, e6, rfl⟩ := hp 6 71 _ rfl rfl; replace E := E.add e6
      clear hp hall
      refine o_mapUpd (y := ((h.getD i E0).client)) (u := (i : Int)) T.k49 Tryd.underlying103 kvV_inj E rfl S (.there (.there (.here .here))) rfl rfl rfl rfl rfl (key_val T.K49 (by first | assumption | exact hwe.client)) ?_; clear S; intro w S
      refine hK32 _ _ ?_; clear hK32
      refine sr fun K hK => ?_
      refine rn 1 E S ?_; clear E S; intro a w E S
      apply hK; clear hK K
      refine rtE hQ E S ?_
      have hr_9 : rightE (h.getD i E0) = true := by simpa using h10
      have hb_9 := h14r
      rw [hla, back_eq hr_9] at hb_9
      have hc_9 := h30r
      rw [hf1, hf2, busyF_some, lostF_some] at hc_9
      have he_9 : wrongS h i = 0 := by
       unfold wrongS
       rw [if_neg (by simpa using h7)]
       rw [if_neg (by simpa using h10)]
       rw [if_neg (by rw [hb_9]; decide)]
       rw [if_pos (by simpa using h22)]
       rw [if_neg (by rw [hc_9]; decide)]
      replace S := S.drop (M' := [_, _, _, _, _]) (sub_drop (sub_keep (sub_keep (sub_keep (sub_keep (sub_keep sub_nil))))))
      replace S := S.front (C := [(be, Arr 3 es)]) (.there (.there (.there (.there .here))))
      replace S := S.front (C := Cg) (.there (.there (.there (.there .here))))
      replace S := S.front (C := [(b2, MapF Tryd.prog 49 kvV vvI f2)]) (.there (.there (.there (.there .here))))
      replace S := S.front (C := [(b1, MapF Tryd.prog 49 kvV vvI (upd f1 ((h.getD i E0).client) (some (i : Int))))]) (.there (.there (.there (.there .here))))
      replace S := S.front (C := [(bc, Cells 132 [(0, .map (some b1)), (1, .map (some b2)), (2, .int .i64 ((h.getD i E0).time)), (3, .slice Ag gs.length cg), (4, .slice (some ⟨be, 0, none⟩) ne ne)])]) (.there (.there (.there (.there .here))))
      subst hK0
      exact ⟨_, _, S.stop (List.Sublist.refl _), by rw [he_9]; rfl, _, _, _, _, _, _, _, _, rfl, hOg, hes, fun _ => ⟨by rw [hf1]; exact busy_call (by simpa using h22), by rw [hf2]; exact lost_stay (by have := h22; omega) (Bool.or_eq_false_iff.1 hc_9).2, (lastT_step h i).symm, by omega⟩⟩
    ·have h22 := nm h22r
     refine wp_skip ?_
     refine hK19 _ _ ?_; clear hK19
     refine wp_seq_k (fun K38 hK37 => ?_)
     refine sr fun K hK => ?_
     refine rn 2 E S ?_; clear E S; intro a w E S
     apply hK; clear hK K
     refine cond E rfl (fun h40r => ?_) (fun h40r => ?_)
     ·have h40 := nm h40r
      refine sr fun K hK => ?_
      refine rn 1 E S ?_; clear E S; intro a w E S
      apply hK; clear hK K
      refine rtE hQ E S ?_
      have hr_9 : rightE (h.getD i E0) = true := by simpa using h10
      have hb_9 := h14r
      rw [hla, back_eq hr_9] at hb_9
      have hc_9 := h40r
      rw [hf1, busyF_some, Bool.not_eq_true'] at hc_9
      have he_9 : wrongS h i = 4 := by
       unfold wrongS
       rw [if_neg (by simpa using h7)]
       rw [if_neg (by simpa using h10)]
       rw [if_neg (by rw [hb_9]; decide)]
       rw [if_neg (by simpa using h22)]
       rw [if_pos hc_9]
      replace S := S.drop (M' := [_, _, _, _, _]) (sub_drop (sub_keep (sub_keep (sub_keep (sub_keep (sub_keep sub_nil))))))
      replace S := S.front (C := [(be, Arr 3 es)]) (.there (.there (.there (.there .here))))
      replace S := S.front (C := Cg) (.there (.there (.there (.there .here))))
      replace S := S.front (C := [(b2, MapF Tryd.prog 49 kvV vvI f2)]) (.there (.there (.there (.there .here))))
      replace S := S.front (C := [(b1, MapF Tryd.prog 49 kvV vvI f1)]) (.there (.there (.there (.there .here))))
      replace S := S.front (C := [(bc, Cells 132 [(0, .map (some b1)), (1, .map (some b2)), (2, .int .i64 ((h.getD i E0).time)), (3, .slice Ag gs.length cg), (4, .slice (some ⟨be, 0, none⟩) ne ne)])]) (.there (.there (.there (.there .here))))
      subst hK0
      exact ⟨_, _, S.stop (List.Sublist.refl _), by rw [he_9]; rfl, _, _, _, _, _, _, _, _, rfl, hOg, hes, fun hz => absurd (he_9.symm.trans hz) (by decide)⟩
     ·have h40 := nm h40r
      refine wp_skip ?_
      refine hK37 _ _ ?_; clear hK37
      refine wp_seq_k (fun K43 hK42 => ?_)
      have hbu : busyB h i = true := by have hz := h40r; rw [hf1, busyF_some] at hz; simpa using hz
      have hat : (f1 (h.getD i E0).client).getD 0 = lastS h i := by rw [hf1]; exact (busyF_get hbu).1
      have hlr0 := (busyF_get hbu).2
      have hlr := lastS_rng h i
      replace E := E.cut (L' := [(0, .pointer (some ⟨bc, 0, none⟩)), (1, .slice (some ⟨eb2, eo2, none⟩) h.length c), (2, .int .i64 (i : Int)), (6, .int .i64 0), (7, .pointer (some ⟨B7, 0, none⟩)), (8, .int .i64 ((f1 ((h.getD i E0).client)).getD 0)), (9, .bool ((f1 ((h.getD i E0).client)).isSome)), (14, .slice (some ⟨eb2, eo2, none⟩) h.length c), (15, .int .i64 (i : Int)), (16, .pointer (some ⟨eb2, eo2 + (i : Int).toNat * 14, none⟩)), (17, .agg #[.int .i64 ((h.getD i E0).time), .int .i64 ((h.getD i E0).client.k), .int .i64 ((h.getD i E0).client.n), str ((h.getD i E0).client.s), .int .i64 ((h.getD i E0).type), .int .i64 ((h.getD i E0).model), .int .i64 ((h.getD i E0).key.k), .int .i64 ((h.getD i E0).key.n), str ((h.getD i E0).key.s), .int .i64 ((h.getD i E0).op), .slice A1_2 ((h.getD i E0).args.length) c1_2, .slice A2_2 ((h.getD i E0).out.length) c2_2, .bool ((h.getD i E0).noted), str ((h.getD i E0).note)]), (18, .bool (decide (4096 ≤ (i : Int)))), (19, .int .i64 (i : Int)), (20, .bool (decide (4096 ≤ (i : Int)))), (21, .bool (!(rightE (h.getD i E0)))), (22, .agg #[.int .i64 ((h.getD i E0).time), .int .i64 ((h.getD i E0).client.k), .int .i64 ((h.getD i E0).client.n), str ((h.getD i E0).client.s), .int .i64 ((h.getD i E0).type), .int .i64 ((h.getD i E0).model), .int .i64 ((h.getD i E0).key.k), .int .i64 ((h.getD i E0).key.n), str ((h.getD i E0).key.s), .int .i64 ((h.getD i E0).op), .slice A1_2 ((h.getD i E0).args.length) c1_2, .slice A2_2 ((h.getD i E0).out.length) c2_2, .bool ((h.getD i E0).noted), str ((h.getD i E0).note)]), (23, .bool (rightE (h.getD i E0))), (24, .bool (!(rightE (h.getD i E0)))), (25, .bool (decide (((h.getD i E0).time) < la))), (33, .pointer (some ⟨bc, 0, none⟩)), (34, .pointer (some ⟨B7, 0, none⟩)), (35, .int .i64 ((h.getD i E0).time)), (36, .pointer (some ⟨bc, 0, none⟩)), (37, .pointer (some ⟨bc, 2, none⟩)), (48, .pointer (some ⟨B7, 4, none⟩)), (49, .int .i64 ((h.getD i E0).type)), (50, .bool (decide (((h.getD i E0).type) = 1))), (72, .bool ((f1 ((h.getD i E0).client)).isSome)), (73, .bool (!((f1 ((h.getD i E0).client)).isSome)))]) ⟨rfl, rfl, rfl, rfl, rfl, rfl, rfl, rfl, rfl, rfl, rfl, rfl, rfl, rfl, rfl, rfl, rfl, rfl, rfl, rfl, rfl, rfl, rfl, rfl, rfl, rfl, rfl, rfl, rfl, trivial⟩
      refine drawnSeq 6 (fun f G' w => G = G' ∧ St w0 G K0 G' w [[(B7, Cells 52 [(0, .int .i64 ((h.getD i E0).time)), (1, .int .i64 ((h.getD i E0).client.k)), (2, .int .i64 ((h.getD i E0).client.n)), (3, str ((h.getD i E0).client.s)), (4, .int .i64 ((h.getD i E0).type)), (5, .int .i64 ((h.getD i E0).model)), (6, .int .i64 ((h.getD i E0).key.k)), (7, .int .i64 ((h.getD i E0).key.n)), (8, str ((h.getD i E0).key.s)), (9, .int .i64 ((h.getD i E0).op)), (10, .slice A1_2 ((h.getD i E0).args.length) c1_2), (11, .slice A2_2 ((h.getD i E0).out.length) c2_2), (12, .bool ((h.getD i E0).noted)), (13, str ((h.getD i E0).note))])], [(bc, Cells 132 [(0, .map (some b1)), (1, .map (some b2)), (2, .int .i64 ((h.getD i E0).time)), (3, .slice Ag gs.length cg), (4, .slice (some ⟨be, 0, none⟩) ne ne)])], [(b1, MapF Tryd.prog 49 kvV vvI f1)], [(b2, MapF Tryd.prog 49 kvV vvI f2)], Cg, [(be, Arr 3 es)]]) [fun v _ => v = .pointer (some ⟨bc, 0, none⟩), fun v _ => v = .pointer (some ⟨bc, 0, none⟩), fun v _ => v = .pointer (some ⟨bc, 0, none⟩), fun v _ => v = .map (some b1), fun v _ => v = .pointer (some ⟨B7, 1, none⟩), fun v _ => v = .agg #[.int .i64 ((h.getD i E0).client.k), .int .i64 ((h.getD i E0).client.n), str ((h.getD i E0).client.s)]] T.mix rfl (by kernel_rfl) E ⟨rfl, S.drew⟩ rfl (AllM.get ⟨fun _ _ _ _ h => h, fun _ _ _ _ h => h, fun _ _ _ _ h => h, fun _ _ _ _ h => h, fun _ _ _ _ h => h, fun _ _ _ _ h => h, trivial⟩) ⟨?_, ?_, ?_, ?_, ?_, ?_, trivial⟩ ?_
      ·intro a w G1 f hcl hfi hon hW E hp hO; obtain ⟨rfl, S⟩ := hW
       refine o_move E rfl rfl ?_; clear E; intro a E
       exact ⟨_, _, Heap.le.refl _, ⟨rfl, S⟩, fun d hd => (by cases hd; exact E.get _ _ rfl), E.defers, rfl⟩
      ·intro a w G1 f hcl hfi hon hW E hp hO; obtain ⟨rfl, S⟩ := hW
       obtain ⟨_, e0, rfl⟩ := hp 0 74 _ (hon 0 rfl) rfl rfl; replace E := E.add e0
       refine o_nil E rfl rfl ?_; clear E; intro a E
       exact ⟨_, _, Heap.le.refl _, ⟨rfl, S⟩, fun d hd => (by cases hd; exact E.get _ _ rfl), E.defers, rfl⟩
      ·intro a w G1 f hcl hfi hon hW E hp hO; obtain ⟨rfl, S⟩ := hW
       obtain ⟨_, e1, rfl⟩ := hp 1 75 _ (hon 1 rfl) rfl rfl; replace E := E.add e1
       refine o_fld E rfl rfl T.f132_0 ?_; clear E; intro a E
       exact ⟨_, _, Heap.le.refl _, ⟨rfl, S⟩, fun d hd => (by cases hd; exact E.get _ _ rfl), E.defers, rfl⟩
      ·intro a w G1 f hcl hfi hon hW E hp hO; obtain ⟨rfl, S⟩ := hW
       obtain ⟨_, e2, rfl⟩ := hp 2 76 _ (hon 2 rfl) rfl rfl; replace E := E.add e2
       refine o_ld E rfl S rfl T.s103 (.there (.here .here)) rfl ?_; clear E; intro a E
       exact ⟨_, _, Heap.le.refl _, ⟨rfl, S⟩, fun d hd => (by cases hd; exact E.get _ _ rfl), E.defers, rfl⟩
      ·intro a w G1 f hcl hfi hon hW E hp hO; obtain ⟨rfl, S⟩ := hW
       refine o_fld E rfl rfl T.f52_1 ?_; clear E; intro a E
       exact ⟨_, _, Heap.le.refl _, ⟨rfl, S⟩, fun d hd => (by cases hd; exact E.get _ _ rfl), E.defers, rfl⟩
      ·intro a w G1 f hcl hfi hon hW E hp hO; obtain ⟨rfl, S⟩ := hW
       obtain ⟨_, e4, rfl⟩ := hp 4 78 _ (hon 4 rfl) rfl rfl; replace E := E.add e4
       refine o_ldA E rfl S rfl T.a49 (.here .here) rfl ?_; clear E; intro a E
       exact ⟨_, _, Heap.le.refl _, ⟨rfl, S⟩, fun d hd => (by cases hd; exact E.get _ _ rfl), E.defers, rfl⟩
      clear E S; intro a w G44 f hle45 hall HW E hp; obtain ⟨rfl, S⟩ := HW
      clear hle45
      obtain ⟨_, e3, rfl⟩ := hp 3 77 _ rfl rfl; replace E := E.add e3
      obtain ⟨_, e5, rfl⟩ := hp 5 79 _ rfl rfl; replace E := E.add e5
      clear hp hall
      refine o_mapDelN (y := ((h.getD i E0).client)) T.k49 Tryd.underlying103 kvV_inj E S (.there (.there (.here .here))) rfl rfl rfl (key_val T.K49 (by first | assumption | exact hwe.client)) ?_; clear S; intro w S
      refine hK42 _ _ ?_; clear hK42
      refine wp_seq_k (fun K47 hK46 => ?_)
      refine sr fun K hK => ?_
      refine rn 2 E S ?_; clear E S; intro a w E S
      apply hK; clear hK K
      refine wp_block ?_
      refine sr fun K hK => ?_
      refine rn 2 E S ?_; clear E S; intro a w E S
      apply hK; clear hK K
      refine cond E rfl (fun h50r => ?_) (fun h50r => ?_)
      ·have h50 := nm h50r
       refine wp_seq_k (fun K52 hK51 => ?_)
       refine wp_seq_k (fun K54 hK53 => ?_)
       have hlo : (h.getD i E0).out.length ≤ 1000000 := (hok _ (evm hi)).2 (by simpa using h10)
       have hwo := hwe.out
       have hi55 : ((f1 ((h.getD i E0).client)).getD 0).toNat < h.length := by omega
       obtain ⟨eb55, eo55, hA55, el55⟩ := Rd.at hR (List.getElem?_eq_getElem hi55); cases hA55
       rw [show h[((f1 ((h.getD i E0).client)).getD 0).toNat] = (h.getD ((f1 ((h.getD i E0).client)).getD 0).toNat E0) from getD_get (i := ((f1 ((h.getD i E0).client)).getD 0).toNat) hi55 _] at el55
       obtain ⟨A1_55, c1_55, A2_55, c2_55, el55, ha1_55, hr1_55, ha2_55, hr2_55⟩ := kEvt_open el55
       refine drawnW [fun v _ => v = .slice (some ⟨eb2, eo2, none⟩) h.length c, fun v _ => v = .int .i64 ((f1 ((h.getD i E0).client)).getD 0), fun v _ => v = .pointer (some ⟨eb2, eo2 + ((f1 ((h.getD i E0).client)).getD 0).toNat * 14, none⟩), fun v _ => v = .pointer (some ⟨eb2, eo2 + ((f1 ((h.getD i E0).client)).getD 0).toNat * 14 + 5, none⟩), fun v _ => v = .int .i64 ((h.getD ((f1 ((h.getD i E0).client)).getD 0).toNat E0).model), fun v _ => v = .slice (some ⟨eb2, eo2, none⟩) h.length c, fun v _ => v = .int .i64 ((f1 ((h.getD i E0).client)).getD 0), fun v _ => v = .pointer (some ⟨eb2, eo2 + ((f1 ((h.getD i E0).client)).getD 0).toNat * 14, none⟩), fun v _ => v = .pointer (some ⟨eb2, eo2 + ((f1 ((h.getD i E0).client)).getD 0).toNat * 14 + 9, none⟩), fun v _ => v = .int .i64 ((h.getD ((f1 ((h.getD i E0).client)).getD 0).toNat E0).op), fun v _ => v = .pointer (some ⟨B7, 11, none⟩), fun v _ => v = .slice A2_2 ((h.getD i E0).out.length) c2_2, fun v G' => ∃ A c, v = .tuple #[.slice A (outsS ((h.getD ((f1 ((h.getD i E0).client)).getD 0).toNat E0).model) ((h.getD ((f1 ((h.getD i E0).client)).getD 0).toNat E0).op) ((h.getD i E0).out)).1.length c, .bool (outsS ((h.getD ((f1 ((h.getD i E0).client)).getD 0).toNat E0).model) ((h.getD ((f1 ((h.getD i E0).client)).getD 0).toNat E0).op) ((h.getD i E0).out)).2] ∧ (outsS ((h.getD ((f1 ((h.getD i E0).client)).getD 0).toNat E0).model) ((h.getD ((f1 ((h.getD i E0).client)).getD 0).toNat E0).op) ((h.getD i E0).out)).1.length ≤ c ∧ Rd (Knd.int .i64) G' A (outsS ((h.getD ((f1 ((h.getD i E0).client)).getD 0).toNat E0).model) ((h.getD ((f1 ((h.getD i E0).client)).getD 0).toNat E0).op) ((h.getD i E0).out)).1, fun v _ => ∃ vA12 vc12, v = .tuple #[.slice vA12 ((outsS ((h.getD ((f1 ((h.getD i E0).client)).getD 0).toNat E0).model) ((h.getD ((f1 ((h.getD i E0).client)).getD 0).toNat E0).op) ((h.getD i E0).out)).1.length) vc12, .bool ((outsS ((h.getD ((f1 ((h.getD i E0).client)).getD 0).toNat E0).model) ((h.getD ((f1 ((h.getD i E0).client)).getD 0).toNat E0).op) ((h.getD i E0).out)).2)], fun v _ => ∃ vA12 vc12, v = .slice vA12 ((outsS ((h.getD ((f1 ((h.getD i E0).client)).getD 0).toNat E0).model) ((h.getD ((f1 ((h.getD i E0).client)).getD 0).toNat E0).op) ((h.getD i E0).out)).1.length) vc12, fun v _ => v = .bool ((outsS ((h.getD ((f1 ((h.getD i E0).client)).getD 0).toNat E0).model) ((h.getD ((f1 ((h.getD i E0).client)).getD 0).toNat E0).op) ((h.getD i E0).out)).2), fun v _ => ∃ vA12 vc12, v = .slice vA12 ((outsS ((h.getD ((f1 ((h.getD i E0).client)).getD 0).toNat E0).model) ((h.getD ((f1 ((h.getD i E0).client)).getD 0).toNat E0).op) ((h.getD i E0).out)).1.length) vc12, fun v _ => v = .bool ((outsS ((h.getD ((f1 ((h.getD i E0).client)).getD 0).toNat E0).model) ((h.getD ((f1 ((h.getD i E0).client)).getD 0).toNat E0).op) ((h.getD i E0).out)).2)] T.mix rfl E S rfl ⟨fun _ _ _ _ h => h, fun _ _ _ _ h => h, fun _ _ _ _ h => h, fun _ _ _ _ h => h, fun _ _ _ _ h => h, fun _ _ _ _ h => h, fun _ _ _ _ h => h, fun _ _ _ _ h => h, fun _ _ _ _ h => h, fun _ _ _ _ h => h, fun _ _ _ _ h => h, fun _ _ _ _ h => h, fun _ _ _ h hx => (let ⟨A2, c2, h1, h2, h3⟩ := hx; ⟨A2, c2, h1, h2, h3.le h⟩), fun _ _ _ _ h => h, fun _ _ _ _ h => h, fun _ _ _ _ h => h, fun _ _ _ _ h => h, fun _ _ _ _ h => h, trivial⟩ ⟨?_, ?_, ?_, ?_, ?_, ?_, ?_, ?_, ?_, ?_, ?_, ?_, ?_, ?_, ?_, ?_, ?_, ?_, trivial⟩ ?_
       ·intro a w G1 hl S E hp
        refine o_move E rfl rfl ?_; clear E; intro a E
        exact ⟨_, _, _, Heap.le.refl _, S, rfl, E.get _ _ rfl, E.defers, rfl⟩
       ·intro a w G1 hl S E hp
        refine o_move E rfl rfl ?_; clear E; intro a E
        exact ⟨_, _, _, Heap.le.refl _, S, rfl, E.get _ _ rfl, E.defers, rfl⟩
       ·intro a w G1 hl S E hp
        obtain ⟨_, e0, rfl⟩ := hp 0 92 _ rfl rfl rfl; replace E := E.add e0
        obtain ⟨_, e1, rfl⟩ := hp 1 93 _ rfl rfl rfl; replace E := E.add e1
        refine o_ixL E rfl rfl rfl T.l22 ⟨by omega, by omega⟩ ?_; clear E; intro a E
        exact ⟨_, _, _, Heap.le.refl _, S, rfl, E.get _ _ rfl, E.defers, rfl⟩
       ·intro a w G1 hl S E hp
        obtain ⟨_, e2, rfl⟩ := hp 2 94 _ rfl rfl rfl; replace E := E.add e2
        refine o_fld E rfl rfl T.f52_3 ?_; clear E; intro a E
        exact ⟨_, _, _, Heap.le.refl _, S, rfl, E.get _ _ rfl, E.defers, rfl⟩
       ·intro a w G1 hl S E hp
        obtain ⟨_, e3, rfl⟩ := hp 3 95 _ rfl rfl rfl; replace E := E.add e3
        refine o_ldI E rfl S rfl T.s3 (el55.le hl) (j := 5) rfl rfl ?_; clear E; intro a E
        exact ⟨_, _, _, Heap.le.refl _, S, rfl, E.get _ _ rfl, E.defers, rfl⟩
       ·intro a w G1 hl S E hp
        refine o_move E rfl rfl ?_; clear E; intro a E
        exact ⟨_, _, _, Heap.le.refl _, S, rfl, E.get _ _ rfl, E.defers, rfl⟩
       ·intro a w G1 hl S E hp
        refine o_move E rfl rfl ?_; clear E; intro a E
        exact ⟨_, _, _, Heap.le.refl _, S, rfl, E.get _ _ rfl, E.defers, rfl⟩
       ·intro a w G1 hl S E hp
        obtain ⟨_, e5, rfl⟩ := hp 5 97 _ rfl rfl rfl; replace E := E.add e5
        obtain ⟨_, e6, rfl⟩ := hp 6 98 _ rfl rfl rfl; replace E := E.add e6
        refine o_ixL E rfl rfl rfl T.l22 ⟨by omega, by omega⟩ ?_; clear E; intro a E
        exact ⟨_, _, _, Heap.le.refl _, S, rfl, E.get _ _ rfl, E.defers, rfl⟩
       ·intro a w G1 hl S E hp
        obtain ⟨_, e7, rfl⟩ := hp 7 99 _ rfl rfl rfl; replace E := E.add e7
        refine o_fld E rfl rfl T.f52_5 ?_; clear E; intro a E
        exact ⟨_, _, _, Heap.le.refl _, S, rfl, E.get _ _ rfl, E.defers, rfl⟩
       ·intro a w G1 hl S E hp
        obtain ⟨_, e8, rfl⟩ := hp 8 100 _ rfl rfl rfl; replace E := E.add e8
        refine o_ldI E rfl S rfl T.s3 (el55.le hl) (j := 9) rfl rfl ?_; clear E; intro a E
        exact ⟨_, _, _, Heap.le.refl _, S, rfl, E.get _ _ rfl, E.defers, rfl⟩
       ·intro a w G1 hl S E hp
        refine o_fld E rfl rfl T.f52_7 ?_; clear E; intro a E
        exact ⟨_, _, _, Heap.le.refl _, S, rfl, E.get _ _ rfl, E.defers, rfl⟩
       ·intro a w G1 hl S E hp
        obtain ⟨_, e10, rfl⟩ := hp 10 102 _ rfl rfl rfl; replace E := E.add e10
        refine o_ld E rfl S rfl T.s50 (.here .here) rfl ?_; clear E; intro a E
        exact ⟨_, _, _, Heap.le.refl _, S, rfl, E.get _ _ rfl, E.defers, rfl⟩
       ·intro a w G1 hl S E hp
        obtain ⟨_, e4, rfl⟩ := hp 4 96 _ rfl rfl rfl; replace E := E.add e4
        obtain ⟨_, e9, rfl⟩ := hp 9 101 _ rfl rfl rfl; replace E := E.add e9
        obtain ⟨_, e11, rfl⟩ := hp 11 103 _ rfl rfl rfl; replace E := E.add e11
        refine o_call E rfl S rfl rfl T.g49 (c_outs ((h.getD ((f1 ((h.getD i E0).client)).getD 0).toNat E0).model) ((h.getD ((f1 ((h.getD i E0).client)).getD 0).toNat E0).op) ((h.getD i E0).out) _ _ _ _ S.sub (hg0.le hl) (hg1.le hl) (hr2_2.le hl) (by omega) hwo) ?_; clear E S; rintro _ G2 w a S hle2 ⟨A2, c2, rfl, hc2, hR2⟩ E
        exact ⟨_, G2, _, hle2, S, rfl, E.get _ _ rfl, E.defers, ⟨_, _, rfl, hc2, hR2⟩⟩
       ·intro a w G1 hl S E hp
        obtain ⟨_, e12, vA12, vc12, rfl, hcp12, hQ12⟩ := hp 12 104 _ rfl rfl rfl; replace E := E.add e12
        refine o_move E rfl rfl ?_; clear E; intro a E
        exact ⟨_, _, _, Heap.le.refl _, S, rfl, E.get _ _ rfl, E.defers, ⟨_, _, rfl⟩⟩
       ·intro a w G1 hl S E hp
        obtain ⟨_, e13, vA12, vc12, rfl⟩ := hp 13 91 _ rfl rfl rfl; replace E := E.add e13
        refine o_extract E rfl rfl rfl ?_; clear E; intro a E
        exact ⟨_, _, _, Heap.le.refl _, S, rfl, E.get _ _ rfl, E.defers, ⟨_, _, rfl⟩⟩
       ·intro a w G1 hl S E hp
        obtain ⟨_, e13, vA12, vc12, rfl⟩ := hp 13 91 _ rfl rfl rfl; replace E := E.add e13
        refine o_extract E rfl rfl rfl ?_; clear E; intro a E
        exact ⟨_, _, _, Heap.le.refl _, S, rfl, E.get _ _ rfl, E.defers, rfl⟩
       ·intro a w G1 hl S E hp
        obtain ⟨_, e14, vA12, vc12, rfl⟩ := hp 14 105 _ rfl rfl rfl; replace E := E.add e14
        refine o_assign E rfl rfl ?_; clear E; intro a E
        exact ⟨_, _, _, Heap.le.refl _, S, rfl, E.get _ _ rfl, E.defers, ⟨_, _, rfl⟩⟩
       ·intro a w G1 hl S E hp
        obtain ⟨_, e15, rfl⟩ := hp 15 106 _ rfl rfl rfl; replace E := E.add e15
        refine o_assign E rfl rfl ?_; clear E; intro a E
        exact ⟨_, _, _, Heap.le.refl _, S, rfl, E.get _ _ rfl, E.defers, rfl⟩
       clear E S; intro a w G56 hle57 S E hp
       replace hg0 := hg0.le hle57
       replace hg1 := hg1.le hle57
       replace hR := hR.le hle57
       replace hOg := hOg.le hle57
       obtain ⟨_, e17, rfl⟩ := hp 17 13 _ rfl rfl; replace E := E.add e17
       clear hp
       refine hK53 _ _ ?_; clear hK53
       refine sr fun K hK => ?_
       refine rn 2 E S ?_; clear E S; intro a w E S
       apply hK; clear hK K
       refine cond E rfl (fun h59r => ?_) (fun h59r => ?_)
       ·have h59 := nm h59r
        refine sr fun K hK => ?_
        refine rn 1 E S ?_; clear E S; intro a w E S
        apply hK; clear hK K
        refine rtE hQ E S ?_
        have hr_9 : rightE (h.getD i E0) = true := by simpa using h10
        have hb_9 := h14r
        rw [hla, back_eq hr_9] at hb_9
        have hd_9 := h59r
        rw [hat] at hd_9
        have he_9 : wrongS h i = 4 := by
         unfold wrongS
         rw [if_neg (by simpa using h7)]
         rw [if_neg (by simpa using h10)]
         rw [if_neg (by rw [hb_9]; decide)]
         rw [if_neg (by simpa using h22)]
         rw [if_neg (by rw [hbu]; decide)]
         rw [if_pos (by simpa using h50)]
         rw [if_pos (by unfold outOk; simpa using hd_9)]
        replace S := S.drop (M' := [_, _, _, _, _]) (sub_drop (sub_keep (sub_keep (sub_keep (sub_keep (sub_keep sub_nil))))))
        replace S := S.front (C := [(be, Arr 3 es)]) (.there (.there (.there (.there .here))))
        replace S := S.front (C := Cg) (.there (.there (.there (.there .here))))
        replace S := S.front (C := [(b2, MapF Tryd.prog 49 kvV vvI f2)]) (.there (.there (.there (.there .here))))
        replace S := S.front (C := [(b1, MapF Tryd.prog 49 kvV vvI (upd f1 ((h.getD i E0).client) none))]) (.there (.there (.there (.there .here))))
        replace S := S.front (C := [(bc, Cells 132 [(0, .map (some b1)), (1, .map (some b2)), (2, .int .i64 ((h.getD i E0).time)), (3, .slice Ag gs.length cg), (4, .slice (some ⟨be, 0, none⟩) ne ne)])]) (.there (.there (.there (.there .here))))
        subst hK0
        exact ⟨_, _, S.stop (List.Sublist.refl _), by rw [he_9]; rfl, _, _, _, _, _, _, _, _, rfl, hOg, hes, fun hz => absurd (he_9.symm.trans hz) (by decide)⟩
       ·have h59 := nm h59r
        refine wp_skip ?_
        refine hK51 _ _ ?_; clear hK51
        refine wp_region_lit ?_
        refine rn 6 E S ?_; clear E S; intro a w E S
        refine o_ixL E rfl rfl rfl T.l59 (by omega) ?_; clear E; intro a E
        refine o_stR E S rfl rfl rfl T.s3 (.there (.there (.there (.there (.there (.here .here)))))) (by omega) ?_; clear S; intro w S
        refine hK46 _ _ ?_; clear hK46
        refine sr fun K hK => ?_
        refine rn 1 E S ?_; clear E S; intro a w E S
        apply hK; clear hK K
        refine rtE hQ E S ?_
        have hr_9 : rightE (h.getD i E0) = true := by simpa using h10
        have hb_9 := h14r
        rw [hla, back_eq hr_9] at hb_9
        have hd_9 := h59r
        rw [hat] at hd_9
        have he_9 : wrongS h i = 0 := by
         unfold wrongS
         rw [if_neg (by simpa using h7)]
         rw [if_neg (by simpa using h10)]
         rw [if_neg (by rw [hb_9]; decide)]
         rw [if_neg (by simpa using h22)]
         rw [if_neg (by rw [hbu]; decide)]
         rw [if_pos (by simpa using h50)]
         rw [if_neg (by unfold outOk; simpa using hd_9)]
        replace S := S.drop (M' := [_, _, _, _, _]) (sub_drop (sub_keep (sub_keep (sub_keep (sub_keep (sub_keep sub_nil))))))
        replace S := S.front (C := [(be, Arr 3 ((es).set (0 + ((f1 ((h.getD i E0).client)).getD 0).toNat * 1) (.int .i64 (i : Int))))]) (.there (.there (.there (.there .here))))
        replace S := S.front (C := Cg) (.there (.there (.there (.there .here))))
        replace S := S.front (C := [(b2, MapF Tryd.prog 49 kvV vvI f2)]) (.there (.there (.there (.there .here))))
        replace S := S.front (C := [(b1, MapF Tryd.prog 49 kvV vvI (upd f1 ((h.getD i E0).client) none))]) (.there (.there (.there (.there .here))))
        replace S := S.front (C := [(bc, Cells 132 [(0, .map (some b1)), (1, .map (some b2)), (2, .int .i64 ((h.getD i E0).time)), (3, .slice Ag gs.length cg), (4, .slice (some ⟨be, 0, none⟩) ne ne)])]) (.there (.there (.there (.there .here))))
        subst hK0
        exact ⟨_, _, S.stop (List.Sublist.refl _), by rw [he_9]; rfl, _, _, _, _, _, _, _, _, rfl, hOg, (by rw [List.length_set]; exact hes), fun _ => ⟨by rw [hf1]; exact busy_back (by simpa using h22), by rw [hf2]; exact lost_stay (by have := h50; omega) (busy_lost hbu), (lastT_step h i).symm, by omega⟩⟩
      ·have h50 := nm h50r
       refine sr fun K hK => ?_
       refine rn 2 E S ?_; clear E S; intro a w E S
       apply hK; clear hK K
       refine cond E rfl (fun h63r => ?_) (fun h63r => ?_)
       ·have h63 := nm h63r
        refine wp_region_lit ?_
        refine rn 6 E S ?_; clear E S; intro a w E S
        refine o_buildSl (cs := #[.int .i64 ((f1 ((h.getD i E0).client)).getD 0)]) [(0, _)] E rfl S rfl T.l59 (by kernel_rfl) ⟨rfl, trivial⟩ ?_; clear E S; intro B124 w a S E
        refine o_appendL (K := (Knd.int .i64)) (ys := [(f1 ((h.getD i E0).client)).getD 0]) (n := 1) E rfl S (.there (.there (.there (.there (.there .here))))) hOg rfl rfl T.p59 (.here .here) rfl ⟨rfl, rfl⟩ rfl rfl (by (have := hgs; first | omega | (simp; omega))) (by (have := hgs; first | omega | (simp; omega))) ?_
        clear E S; intro oA64 oc64 oC64 w a S oH64 E
        refine rn 3 E S ?_; clear E S; intro a w E S
        refine hK46 _ _ ?_; clear hK46
        refine sr fun K hK => ?_
        refine rn 1 E S ?_; clear E S; intro a w E S
        apply hK; clear hK K
        refine rtE hQ E S ?_
        have hr_9 : rightE (h.getD i E0) = true := by simpa using h10
        have hb_9 := h14r
        rw [hla, back_eq hr_9] at hb_9
        have he_9 : wrongS h i = 0 := by
         unfold wrongS
         rw [if_neg (by simpa using h7)]
         rw [if_neg (by simpa using h10)]
         rw [if_neg (by rw [hb_9]; decide)]
         rw [if_neg (by simpa using h22)]
         rw [if_neg (by rw [hbu]; decide)]
         rw [if_neg (by simpa using h50)]
        replace S := S.drop (M' := [_, _, _, _, _]) (sub_keep (sub_drop (sub_drop (sub_keep (sub_keep (sub_keep (sub_keep sub_nil)))))))
        replace S := S.front (C := [(be, Arr 3 es)]) (.there (.there (.there (.there .here))))
        replace S := S.front (C := oC64) (.there .here)
        replace S := S.front (C := [(b2, MapF Tryd.prog 49 kvV vvI f2)]) (.there (.there (.there (.there .here))))
        replace S := S.front (C := [(b1, MapF Tryd.prog 49 kvV vvI (upd f1 ((h.getD i E0).client) none))]) (.there (.there (.there (.there .here))))
        replace S := S.front (C := [(bc, Cells 132 [(0, .map (some b1)), (1, .map (some b2)), (2, .int .i64 ((h.getD i E0).time)), (3, .slice oA64 ((gs ++ [(f1 ((h.getD i E0).client)).getD 0]).length) oc64), (4, .slice (some ⟨be, 0, none⟩) ne ne)])]) (.there (.there (.there (.there .here))))
        subst hK0
        exact ⟨_, _, S.stop (List.Sublist.refl _), by rw [he_9]; rfl, _, _, _, _, _, _, _, _, rfl, oH64, hes, fun _ => ⟨by rw [hf1]; exact busy_back (by simpa using h22), by rw [hf2]; exact lost_stay (by have := h63; omega) (busy_lost hbu), (lastT_step h i).symm, by simp; omega⟩⟩
       ·have h63 := nm h63r
        replace E := E.cut (L' := [(0, .pointer (some ⟨bc, 0, none⟩)), (1, .slice (some ⟨eb2, eo2, none⟩) h.length c), (2, .int .i64 (i : Int)), (6, .int .i64 0), (7, .pointer (some ⟨B7, 0, none⟩)), (8, .int .i64 ((f1 ((h.getD i E0).client)).getD 0)), (9, .bool ((f1 ((h.getD i E0).client)).isSome)), (14, .slice (some ⟨eb2, eo2, none⟩) h.length c), (15, .int .i64 (i : Int)), (16, .pointer (some ⟨eb2, eo2 + (i : Int).toNat * 14, none⟩)), (17, .agg #[.int .i64 ((h.getD i E0).time), .int .i64 ((h.getD i E0).client.k), .int .i64 ((h.getD i E0).client.n), str ((h.getD i E0).client.s), .int .i64 ((h.getD i E0).type), .int .i64 ((h.getD i E0).model), .int .i64 ((h.getD i E0).key.k), .int .i64 ((h.getD i E0).key.n), str ((h.getD i E0).key.s), .int .i64 ((h.getD i E0).op), .slice A1_2 ((h.getD i E0).args.length) c1_2, .slice A2_2 ((h.getD i E0).out.length) c2_2, .bool ((h.getD i E0).noted), str ((h.getD i E0).note)]), (18, .bool (decide (4096 ≤ (i : Int)))), (19, .int .i64 (i : Int)), (20, .bool (decide (4096 ≤ (i : Int)))), (21, .bool (!(rightE (h.getD i E0)))), (22, .agg #[.int .i64 ((h.getD i E0).time), .int .i64 ((h.getD i E0).client.k), .int .i64 ((h.getD i E0).client.n), str ((h.getD i E0).client.s), .int .i64 ((h.getD i E0).type), .int .i64 ((h.getD i E0).model), .int .i64 ((h.getD i E0).key.k), .int .i64 ((h.getD i E0).key.n), str ((h.getD i E0).key.s), .int .i64 ((h.getD i E0).op), .slice A1_2 ((h.getD i E0).args.length) c1_2, .slice A2_2 ((h.getD i E0).out.length) c2_2, .bool ((h.getD i E0).noted), str ((h.getD i E0).note)]), (23, .bool (rightE (h.getD i E0))), (24, .bool (!(rightE (h.getD i E0)))), (25, .bool (decide (((h.getD i E0).time) < la))), (33, .pointer (some ⟨bc, 0, none⟩)), (34, .pointer (some ⟨B7, 0, none⟩)), (35, .int .i64 ((h.getD i E0).time)), (36, .pointer (some ⟨bc, 0, none⟩)), (37, .pointer (some ⟨bc, 2, none⟩)), (48, .pointer (some ⟨B7, 4, none⟩)), (49, .int .i64 ((h.getD i E0).type)), (50, .bool (decide (((h.getD i E0).type) = 1))), (72, .bool ((f1 ((h.getD i E0).client)).isSome)), (73, .bool (!((f1 ((h.getD i E0).client)).isSome))), (77, .map (some b1)), (79, .agg #[.int .i64 ((h.getD i E0).client.k), .int .i64 ((h.getD i E0).client.n), str ((h.getD i E0).client.s)]), (80, .pointer (some ⟨B7, 4, none⟩)), (81, .int .i64 ((h.getD i E0).type)), (89, .bool (decide (((h.getD i E0).type) = 2))), (90, .bool (decide (((h.getD i E0).type) = 2))), (116, .bool (decide (((h.getD i E0).type) = 3))), (117, .bool (decide (((h.getD i E0).type) = 3)))]) ⟨rfl, rfl, rfl, rfl, rfl, rfl, rfl, rfl, rfl, rfl, rfl, rfl, rfl, rfl, rfl, rfl, rfl, rfl, rfl, rfl, rfl, rfl, rfl, rfl, rfl, rfl, rfl, rfl, rfl, rfl, rfl, rfl, rfl, rfl, rfl, rfl, rfl, trivial⟩
        refine drawnSeq 7 (fun f G' w => G = G' ∧ St w0 G K0 G' w [[(B7, Cells 52 [(0, .int .i64 ((h.getD i E0).time)), (1, .int .i64 ((h.getD i E0).client.k)), (2, .int .i64 ((h.getD i E0).client.n)), (3, str ((h.getD i E0).client.s)), (4, .int .i64 ((h.getD i E0).type)), (5, .int .i64 ((h.getD i E0).model)), (6, .int .i64 ((h.getD i E0).key.k)), (7, .int .i64 ((h.getD i E0).key.n)), (8, str ((h.getD i E0).key.s)), (9, .int .i64 ((h.getD i E0).op)), (10, .slice A1_2 ((h.getD i E0).args.length) c1_2), (11, .slice A2_2 ((h.getD i E0).out.length) c2_2), (12, .bool ((h.getD i E0).noted)), (13, str ((h.getD i E0).note))])], [(bc, Cells 132 [(0, .map (some b1)), (1, .map (some b2)), (2, .int .i64 ((h.getD i E0).time)), (3, .slice Ag gs.length cg), (4, .slice (some ⟨be, 0, none⟩) ne ne)])], [(b1, MapF Tryd.prog 49 kvV vvI (upd f1 ((h.getD i E0).client) none))], [(b2, MapF Tryd.prog 49 kvV vvI f2)], Cg, [(be, Arr 3 es)]]) [fun v _ => v = .pointer (some ⟨bc, 0, none⟩), fun v _ => v = .pointer (some ⟨bc, 0, none⟩), fun v _ => v = .pointer (some ⟨bc, 1, none⟩), fun v _ => v = .map (some b2), fun v _ => v = .pointer (some ⟨B7, 1, none⟩), fun v _ => v = .agg #[.int .i64 ((h.getD i E0).client.k), .int .i64 ((h.getD i E0).client.n), str ((h.getD i E0).client.s)], fun v _ => v = .int .i64 (i : Int)] T.mix rfl (by kernel_rfl) E ⟨rfl, S.drew⟩ rfl (AllM.get ⟨fun _ _ _ _ h => h, fun _ _ _ _ h => h, fun _ _ _ _ h => h, fun _ _ _ _ h => h, fun _ _ _ _ h => h, fun _ _ _ _ h => h, fun _ _ _ _ h => h, trivial⟩) ⟨?_, ?_, ?_, ?_, ?_, ?_, ?_, trivial⟩ ?_
        ·intro a w G1 f hcl hfi hon hW E hp hO; obtain ⟨rfl, S⟩ := hW
         refine o_move E rfl rfl ?_; clear E; intro a E
         exact ⟨_, _, Heap.le.refl _, ⟨rfl, S⟩, fun d hd => (by cases hd; exact E.get _ _ rfl), E.defers, rfl⟩
        ·intro a w G1 f hcl hfi hon hW E hp hO; obtain ⟨rfl, S⟩ := hW
         obtain ⟨_, e0, rfl⟩ := hp 0 82 _ (hon 0 rfl) rfl rfl; replace E := E.add e0
         refine o_nil E rfl rfl ?_; clear E; intro a E
         exact ⟨_, _, Heap.le.refl _, ⟨rfl, S⟩, fun d hd => (by cases hd; exact E.get _ _ rfl), E.defers, rfl⟩
        ·intro a w G1 f hcl hfi hon hW E hp hO; obtain ⟨rfl, S⟩ := hW
         obtain ⟨_, e1, rfl⟩ := hp 1 83 _ (hon 1 rfl) rfl rfl; replace E := E.add e1
         refine o_fld E rfl rfl T.f132_1 ?_; clear E; intro a E
         exact ⟨_, _, Heap.le.refl _, ⟨rfl, S⟩, fun d hd => (by cases hd; exact E.get _ _ rfl), E.defers, rfl⟩
        ·intro a w G1 f hcl hfi hon hW E hp hO; obtain ⟨rfl, S⟩ := hW
         obtain ⟨_, e2, rfl⟩ := hp 2 84 _ (hon 2 rfl) rfl rfl; replace E := E.add e2
         refine o_ld E rfl S rfl T.s103 (.there (.here .here)) rfl ?_; clear E; intro a E
         exact ⟨_, _, Heap.le.refl _, ⟨rfl, S⟩, fun d hd => (by cases hd; exact E.get _ _ rfl), E.defers, rfl⟩
        ·intro a w G1 f hcl hfi hon hW E hp hO; obtain ⟨rfl, S⟩ := hW
         refine o_fld E rfl rfl T.f52_1 ?_; clear E; intro a E
         exact ⟨_, _, Heap.le.refl _, ⟨rfl, S⟩, fun d hd => (by cases hd; exact E.get _ _ rfl), E.defers, rfl⟩
        ·intro a w G1 f hcl hfi hon hW E hp hO; obtain ⟨rfl, S⟩ := hW
         obtain ⟨_, e4, rfl⟩ := hp 4 86 _ (hon 4 rfl) rfl rfl; replace E := E.add e4
         refine o_ldA E rfl S rfl T.a49 (.here .here) rfl ?_; clear E; intro a E
         exact ⟨_, _, Heap.le.refl _, ⟨rfl, S⟩, fun d hd => (by cases hd; exact E.get _ _ rfl), E.defers, rfl⟩
        ·intro a w G1 f hcl hfi hon hW E hp hO; obtain ⟨rfl, S⟩ := hW
         refine o_move E rfl rfl ?_; clear E; intro a E
         exact ⟨_, _, Heap.le.refl _, ⟨rfl, S⟩, fun d hd => (by cases hd; exact E.get _ _ rfl), E.defers, rfl⟩
        clear E S; intro a w G66 f hle67 hall HW E hp; obtain ⟨rfl, S⟩ := HW
        clear hle67
        obtain ⟨_, e3, rfl⟩ := hp 3 85 _ rfl rfl; replace E := E.add e3
        obtain ⟨_, e5, rfl⟩ := hp 5 87 _ rfl rfl; replace E := E.add e5
        obtain ⟨_, e6, rfl⟩ := hp 6 88 _ rfl rfl; replace E := E.add e6
        clear hp hall
        refine o_mapUpd (y := ((h.getD i E0).client)) (u := (i : Int)) T.k49 Tryd.underlying103 kvV_inj E rfl S (.there (.there (.there (.here .here)))) rfl rfl rfl rfl rfl (key_val T.K49 (by first | assumption | exact hwe.client)) ?_; clear S; intro w S
        refine hK46 _ _ ?_; clear hK46
        refine sr fun K hK => ?_
        refine rn 1 E S ?_; clear E S; intro a w E S
        apply hK; clear hK K
        refine rtE hQ E S ?_
        have hr_9 : rightE (h.getD i E0) = true := by simpa using h10
        have hb_9 := h14r
        rw [hla, back_eq hr_9] at hb_9
        have he_9 : wrongS h i = 0 := by
         unfold wrongS
         rw [if_neg (by simpa using h7)]
         rw [if_neg (by simpa using h10)]
         rw [if_neg (by rw [hb_9]; decide)]
         rw [if_neg (by simpa using h22)]
         rw [if_neg (by rw [hbu]; decide)]
         rw [if_neg (by simpa using h50)]
        replace S := S.drop (M' := [_, _, _, _, _]) (sub_drop (sub_keep (sub_keep (sub_keep (sub_keep (sub_keep sub_nil))))))
        replace S := S.front (C := [(be, Arr 3 es)]) (.there (.there (.there (.there .here))))
        replace S := S.front (C := Cg) (.there (.there (.there (.there .here))))
        replace S := S.front (C := [(b2, MapF Tryd.prog 49 kvV vvI (upd f2 ((h.getD i E0).client) (some (i : Int))))]) (.there (.there (.there (.there .here))))
        replace S := S.front (C := [(b1, MapF Tryd.prog 49 kvV vvI (upd f1 ((h.getD i E0).client) none))]) (.there (.there (.there (.there .here))))
        replace S := S.front (C := [(bc, Cells 132 [(0, .map (some b1)), (1, .map (some b2)), (2, .int .i64 ((h.getD i E0).time)), (3, .slice Ag gs.length cg), (4, .slice (some ⟨be, 0, none⟩) ne ne)])]) (.there (.there (.there (.there .here))))
        subst hK0
        exact ⟨_, _, S.stop (List.Sublist.refl _), by rw [he_9]; rfl, _, _, _, _, _, _, _, _, rfl, hOg, hes, fun _ => ⟨by rw [hf1]; exact busy_back (by simpa using h22), by rw [hf2]; exact lost_new (by have := right_type (e := (h.getD i E0)) hr_9; have := h22; have := h50; have := h63; omega), (lastT_step h i).symm, by omega⟩⟩

/-! `incognito/pair.begun` -/
theorem c_begun (n : Nat) (w0 : World) (G : Heap) (hG : Sub G w0) (hn : n ≤ 1000000000):
  Calls Tryd.prog 66 #[.int .i64 (n : Int)] w0 (X.Ends w0 G (X.keys []) (fun v G' C' => ∃ bc b1 b2 be, v = .pointer (some ⟨bc, 0, none⟩) ∧ C' = List.flatten [[(bc, Cells 132 [(0, .map (some b1)), (1, .map (some b2)), (2, .int .i64 0), (3, .slice none 0 0), (4, .slice (some ⟨be, 0, none⟩) n n)])], [(b1, MapF Tryd.prog 49 kvV vvI fun _ => none)], [(b2, MapF Tryd.prog 49 kvV vvI fun _ => none)], [], [(be, Arr 3 (List.replicate n (.int .i64 0)))]]) (fun _ _ _ => False)) := by
 refine enter Tryd.func66 rfl Tryd.ntmps66 rfl ?_
 intro Q hQ a E
 have S := St.start0 hG
 refine sr fun K hK => ?_
 refine rn 1 E S ?_; clear E S; intro a w E S
 apply hK; clear hK K
 refine sr fun K hK => ?_
 refine o_makeMap 49 kvV vvI E rfl S ?_; clear E S; intro B3 w a S E
 refine o_makeMap 49 kvV vvI E rfl S ?_; clear E S; intro B4 w a S E
 refine rn 1 E S ?_; clear E S; intro a w E S
 refine o_make1 (n := n) E rfl S rfl rfl T.p59 T.z3 (by omega) (by omega) ?_; clear E S; intro B6 w a S E; replace S := S.turnP (q := Arr 3 (List.replicate n (.int .i64 0))) (.here .here) (fun _ h => h)
 refine o_build (cs := #[.map (some B3), .map (some B4), .int .i64 0, .slice none 0 0, .slice (some ⟨B6, 0, none⟩) n n]) E rfl rfl (by kernel_rfl) ?_; clear E; intro a E
 refine o_boxL [(0, _), (1, _), (2, _), (3, _), (4, _)] E rfl S rfl ⟨rfl, rfl, rfl, rfl, rfl, trivial⟩ ?_; clear E S; intro B8 w a S E
 refine rn 1 E S ?_; clear E S; intro a w E S
 apply hK; clear hK K
 refine rtE hQ E S ?_
 replace S := S.nilChunk
 replace S := S.front (C := [(B6, Arr 3 (List.replicate n (.int .i64 0)))]) (.there (.there .here))
 replace S := S.front (C := []) (.there .here)
 replace S := S.front (C := [(B4, MapF Tryd.prog 49 kvV vvI (fun _ => none))]) (.there (.there (.there .here)))
 replace S := S.front (C := [(B3, MapF Tryd.prog 49 kvV vvI (fun _ => none))]) (.there (.there (.there (.there .here))))
 replace S := S.front (C := [(B8, Cells 132 [(0, .map (some B3)), (1, .map (some B4)), (2, .int .i64 0), (3, .slice none 0 0), (4, .slice (some ⟨B6, 0, none⟩) n n)])]) (.there (.there (.there (.there .here))))
 exact ⟨_, _, S.stop (List.Sublist.refl _), B8, B3, B4, B6, rfl, rfl⟩
end Go.Proofs.YtnfadpkhjfillaaDoor.T28
