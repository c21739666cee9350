/- Own text. -/
import Derived.Test.YtnfadpkhjfillaaDoorU14
set_option linter.unusedVariables false
set_option linter.unusedSimpArgs false
set_option maxRecDepth 100000
set_option maxHeartbeats 4000000
namespace Go.Proofs.YtnfadpkhjfillaaDoor.T28
open Go Go.Proofs.YtnfadpkhjfillaaDoor.X
theorem T.f39_1 : fieldOff Tryd.prog 39 1 = some 1 := by kernel_rfl
instance : FO Tryd.prog 39 1 1 := ⟨T.f39_1⟩
theorem T.g10 : goFn Tryd.prog 10 = true := by kernel_rfl
theorem T.g11 : goFn Tryd.prog 11 = true := by kernel_rfl
theorem T.g12 : goFn Tryd.prog 12 = true := by kernel_rfl
theorem T.g4 : goFn Tryd.prog 4 = true := by kernel_rfl
theorem T.g5 : goFn Tryd.prog 5 = true := by kernel_rfl
theorem T.g6 : goFn Tryd.prog 6 = true := by kernel_rfl
theorem T.g7 : goFn Tryd.prog 7 = true := by kernel_rfl
theorem T.g8 : goFn Tryd.prog 8 = true := by kernel_rfl
theorem T.g9 : goFn Tryd.prog 9 = true := by kernel_rfl
theorem T.q39 : flatT Tryd.prog 39 = some [.int .i64, .int .i64] := by kernel_rfl

def E1 : Evt := ⟨0, ⟨2, 0, [97]⟩, 1, 7, ⟨2, 0, [97]⟩, 11, [], [], false, []⟩
def P0 : Pol := ⟨⟨0, 0⟩, ⟨0, 0⟩, ⟨0, 0⟩, ⟨0, 0⟩, ⟨0, 0⟩, 0, 0, false, false⟩
def B0 : Book := ⟨P0, [], [], []⟩
theorem E1_wf : E1.Wf := ⟨by decide, ⟨by decide, by decide, by decide⟩, by decide, by decide, ⟨by decide, by decide, by decide⟩, by decide, by decide, (fun v h => by cases h), by decide, (fun v h => by cases h), by decide⟩
theorem E1_ok : ∀ x ∈ [E1], x.Wf ∧ (rightE x = true → x.out.length ≤ 1000000) := by
  intro x hx
  simp only [List.mem_cons, List.not_mem_nil, or_false] at hx
  subst hx
  exact ⟨E1_wf, fun _ => by decide⟩
theorem E1_al : ∀ x ∈ [E1], rightE x = true → x.args.length ≤ 1000000 := by
  intro x hx
  simp only [List.mem_cons, List.not_mem_nil, or_false] at hx
  subst hx
  exact fun _ => by decide
theorem wake0 : unveilS [] B0 = ([], 0, 0) := by decide +kernel
theorem wake1 : unveilS [E1] B0 = ([E1], 0, 0) := by decide +kernel
def greatB (b : Book) : Bool := (decide (60 < (b.es.length : Int)) || decide (60 < (b.ms.length : Int))) || decide (60 < (b.rs.length : Int))
theorem greatB_out {b : Book} (h : greatB b = false) : b.es.length ≤ 60 ∧ b.ms.length ≤ 60 ∧ b.rs.length ≤ 60 := by
  unfold greatB at h
  simp only [Bool.or_eq_false_iff, decide_eq_false_iff_not] at h
  omega
theorem applyU_nn (h : List Evt) (b : Book) : 0 ≤ (applyU h b).2 := by
  unfold applyU
  split
  · show 0 ≤ ((_ : Nat) : Int) + 1; omega
  · exact Int.le_refl _
theorem applyU_pos {h : List Evt} {b : Book} (hp : 0 < (applyU h b).2) : (applyU h b).1 = [] := by
  unfold applyU at hp ⊢
  split
  · rfl
  · rename_i e; rw [e] at hp; exact absurd (show (0 : Int) < 0 from hp) (by decide)
theorem unveil_c {h : List Evt} {b : Book} (hc : ¬ (checkS h).1 = 0) : unveilS h b = ([], checkS h) := by unfold unveilS; rw [if_pos hc]
theorem unveil_b {h : List Evt} {b : Book} (hc : (checkS h).1 = 0) (hb : bookB b = false) : unveilS h b = ([], 10, 0) := by unfold unveilS; rw [if_neg (fun e => e hc), if_pos hb]
theorem unveil_p {h : List Evt} {b : Book} (hc : (checkS h).1 = 0) (hb : bookB b = true) (hp : 0 < (applyU h b).2) : unveilS h b = ([], 12, (applyU h b).2) := by
  unfold unveilS; rw [if_neg (fun e => e hc), if_neg (by rw [hb]; decide), if_pos hp, applyU_pos hp]
theorem unveil_g {h : List Evt} {b : Book} (hc : (checkS h).1 = 0) (hb : bookB b = true) (hp : ¬ 0 < (applyU h b).2) : unveilS h b = ((applyU h b).1, 0, 0) := by
  have := applyU_nn h b
  have h0 : (applyU h b).2 = 0 := by omega
  unfold unveilS; rw [if_neg (fun e => e hc), if_neg (by rw [hb]; decide), if_neg hp, h0]
theorem uev_sm {b : Book} {ds : List Int} {n : Int} {x : Evt} (h : EvSm x) : EvSm (uevE b ds n x) := by
  unfold EvSm uevE coreE at *
  dsimp only
  rw [mapF_len, mapF_len]
  exact h
theorem apply_sm {h : List Evt} {b : Book} (hs : ∀ e ∈ h, EvSm e) : ∀ e ∈ (applyU h b).1, EvSm e := by
  intro e he
  unfold applyU at he
  split at he
  · cases he
  · unfold uevL at he
    obtain ⟨i, hi, rfl⟩ := List.mem_map.1 he
    exact uev_sm (hs _ (evm (List.mem_range.1 hi)))
theorem unveil_sm {h : List Evt} {b : Book} (hs : ∀ e ∈ h, EvSm e) : ∀ e ∈ (unveilS h b).1, EvSm e := by
  intro e he
  unfold unveilS at he
  split at he
  · cases he
  split at he
  · cases he
  exact apply_sm hs e he
theorem apply_len (h : List Evt) (b : Book) : (applyU h b).1.length ≤ h.length := by
  unfold applyU
  split
  · exact Nat.zero_le _
  · rw [uevL_len]; omega
theorem unveil_len (h : List Evt) (b : Book) : (unveilS h b).1.length ≤ h.length := by
  unfold unveilS
  split
  · exact Nat.zero_le _
  split
  · exact Nat.zero_le _
  exact apply_len h b
theorem E1_sm : ∀ e ∈ [E1], EvSm e := by
  intro x hx
  simp only [List.mem_cons, List.not_mem_nil, or_false] at hx
  subst hx
  exact ⟨by decide, by decide⟩
/-! `incognito/incognitolaw30.wakes` -/
theorem c_wakes30  (w0 : World) (G : Heap) (hG : Sub G w0) (hg0 : CellsAt G 0 0 [.int .i64 3, .int .i64 1, str []]) (hg1 : CellsAt G 1 0 [.int .i64 3, .int .i64 0, str []]):
  Calls Tryd.prog 4 #[] w0 (Ret w0 G (fun v _ => v = .bool true)) := by
 refine enter Tryd.func4 rfl Tryd.ntmps4 rfl ?_
 intro Q hQ a E
 have S := St.start0 hG
 refine sr fun K hK => ?_
 refine rn 1 E S ?_; clear E S; intro a w E S
 apply hK; clear hK K
 refine sr fun K hK => ?_
 refine o_build (cs := #[.int .i64 0, .int .i64 0, .int .i64 0, .int .i64 0, .int .i64 0, .int .i64 0, .int .i64 0, .int .i64 0, .int .i64 0, .int .i64 0, .int .i64 0, .int .i64 0, .bool false, .bool false, .slice none 0 0, .slice none 0 0, .slice none 0 0]) E rfl rfl (by kernel_rfl) ?_; clear E; intro a E
 refine o_call E rfl S rfl rfl T.g8 (c_Apply [] _ _ B0 _ _ _ _ _ _ _ _ S.sub hg0 hg1 Rd.nil (by first | omega | decide) .nil .nil .nil (by decide) (by decide) (by decide) (fun x hx => by cases hx) (fun x hx => by cases hx) (fun x hx => by cases hx) (fun x hx => by cases hx)) ?_
 clear E S; rintro _ G2 w a S hle2 ⟨vA2, vc2, rfl, hcp2, hR2⟩ E
 replace hg0 := hg0.le hle2
 replace hg1 := hg1.le hle2
 refine rn 3 E S ?_; clear E S; intro a w E S
 refine o_allocZ E rfl S ?_; clear E S; intro B2 w a S E
 refine rn 2 E S ?_; clear E S; intro a w E S
 apply hK; clear hK K
 refine sr fun K hK => ?_
 refine o_build (cs := #[.int .i64 2, .int .i64 0, str [97]]) E rfl rfl (by kernel_rfl) ?_; clear E; intro a E
 refine o_allocZ E rfl S ?_; clear E S; intro B3 w a S E
 refine rn 1 E S ?_; clear E S; intro a w E S
 apply hK; clear hK K
 refine sr fun K hK => ?_
 refine rn 2 E S ?_; clear E S; intro a w E S
 refine o_build (cs := #[.int .i64 0, .int .i64 2, .int .i64 0, str [97], .int .i64 1, .int .i64 7, .int .i64 2, .int .i64 0, str [97], .int .i64 11, .slice none 0 0, .slice none 0 0, .bool false, str []]) E rfl rfl (by kernel_rfl) ?_; clear E; intro a E
 refine o_allocZ E rfl S ?_; clear E S; intro B4 w a S E
 refine rn 1 E S ?_; clear E S; intro a w E S
 apply hK; clear hK K
 refine sr fun K hK => ?_
 refine rn 1 E S ?_; clear E S; intro a w E S
 refine o_buildSl (cs := #[.int .i64 0, .int .i64 2, .int .i64 0, str [97], .int .i64 1, .int .i64 7, .int .i64 2, .int .i64 0, str [97], .int .i64 11, .slice none 0 0, .slice none 0 0, .bool false, str []]) [(0, _), (1, _), (2, _), (3, _), (4, _), (5, _), (6, _), (7, _), (8, _), (9, _), (10, _), (11, _), (12, _), (13, _)] E rfl S rfl T.l22 (by kernel_rfl) ⟨rfl, rfl, rfl, rfl, rfl, rfl, rfl, rfl, rfl, rfl, rfl, rfl, rfl, rfl, trivial⟩ ?_; clear E S; intro B18 w a S E
 obtain ⟨G6, hle8, hC7, S'⟩ := S.stillHead (n := 14) rfl; clear S; have S := S'; clear S'
 replace hg0 := hg0.le hle8
 replace hg1 := hg1.le hle8
 replace hR2 := hR2.le hle8
 have hW9 := Rd.ofCells (K := kEvt) (xs := [E1]) hC7 ⟨kEvt_mk E1 (Nat.le_refl _) Rd.nil (Nat.le_refl _) Rd.nil, rfl⟩
 refine o_build (cs := #[.int .i64 0, .int .i64 0, .int .i64 0, .int .i64 0, .int .i64 0, .int .i64 0, .int .i64 0, .int .i64 0, .int .i64 0, .int .i64 0, .int .i64 0, .int .i64 0, .bool false, .bool false, .slice none 0 0, .slice none 0 0, .slice none 0 0]) E rfl rfl (by kernel_rfl) ?_; clear E; intro a E
 refine o_call E rfl S rfl rfl T.g8 (c_Apply [E1] _ _ B0 _ _ _ _ _ _ _ _ S.sub hg0 hg1 hW9 (by first | omega | decide) .nil .nil .nil (by decide) (by decide) (by decide) (fun x hx => by cases hx) (fun x hx => by cases hx) E1_ok E1_al) ?_
 clear E S; rintro _ G10 w a S hle10 ⟨vA10, vc10, rfl, hcp10, hR10⟩ E
 replace hg0 := hg0.le hle10
 replace hg1 := hg1.le hle10
 replace hR2 := hR2.le hle10
 replace hC7 := hC7.le hle10
 replace hW9 := hW9.le hle10
 refine rn 3 E S ?_; clear E S; intro a w E S
 refine o_allocZ E rfl S ?_; clear E S; intro B6 w a S E
 refine rn 2 E S ?_; clear E S; intro a w E S
 apply hK; clear hK K
 refine sr fun K hK => ?_
 refine rn 1 E S ?_; clear E S; intro a w E S
 refine o_build (cs := #[.int .i64 0, .int .i64 0]) E rfl rfl (by kernel_rfl) ?_; clear E; intro a E
 refine o_eqA (b := decide (((unveilS [] B0).2.1) = 0) && (decide (((unveilS [] B0).2.2) = 0) && true)) E rfl rfl rfl T.q39 rfl rfl ?_; clear E; intro a E
 refine rn 1 E S ?_; clear E S; intro a w E S
 refine cutG 4 30 (.bool ((decide (((unveilS [] B0).2.1) = 0) && (decide (((unveilS [] B0).2.2) = 0) && true)) && (decide (((unveilS [] B0).1.length : Int) = 0)))) E S ?_ ?_
 ·refine bsp E (t := 26) rfl (fun hb12 => ?_) (fun hb12 => ?_)
  ·have hk13 := nm hb12
   refine rn 4 E S ?_; clear E S; intro a w E S
   exact ⟨S, E.cutT (by rw [hb12] <;> rfl)⟩
  ·refine rn 4 E S ?_; clear E S; intro a w E S
   exact ⟨S, E.cutT (by rw [hb12] <;> rfl)⟩
 clear E S; intro a w E S
 refine rn 1 E S ?_; clear E S; intro a w E S
 refine cutG 4 35 (.bool (((decide (((unveilS [] B0).2.1) = 0) && (decide (((unveilS [] B0).2.2) = 0) && true)) && (decide (((unveilS [] B0).1.length : Int) = 0))) && (decide (((unveilS [E1] B0).2.1) = 0) && (decide (((unveilS [E1] B0).2.2) = 0) && true)))) E S ?_ ?_
 ·refine bsp E (t := 31) rfl (fun hb14 => ?_) (fun hb14 => ?_)
  ·have hk15 := nm hb14
   refine rn 1 E S ?_; clear E S; intro a w E S
   refine op_on E rfl rfl hb14 ?_
   refine o_build (cs := #[.int .i64 0, .int .i64 0]) E rfl rfl (by kernel_rfl) ?_; clear E; intro a E
   refine op_on E rfl rfl hb14 ?_
   refine o_eqA (b := decide (((unveilS [E1] B0).2.1) = 0) && (decide (((unveilS [E1] B0).2.2) = 0) && true)) E rfl rfl rfl T.q39 rfl rfl ?_; clear E; intro a E
   refine rn 1 E S ?_; clear E S; intro a w E S
   exact ⟨S, E.cutT (by rw [hb14] <;> rfl)⟩
  ·refine rn 4 E S ?_; clear E S; intro a w E S
   exact ⟨S, E.cutT (by rw [hb14] <;> rfl)⟩
 clear E S; intro a w E S
 refine rn 1 E S ?_; clear E S; intro a w E S
 refine cutGG 5 41 (.bool ((((decide (((unveilS [] B0).2.1) = 0) && (decide (((unveilS [] B0).2.2) = 0) && true)) && (decide (((unveilS [] B0).1.length : Int) = 0))) && (decide (((unveilS [E1] B0).2.1) = 0) && (decide (((unveilS [E1] B0).2.2) = 0) && true))) && (decide ((unveilS [E1] B0).1 = [E1])))) E S ?_ ?_
 ·refine bsp E (t := 36) rfl (fun hb16 => ?_) (fun hb16 => ?_)
  ·have hk17 := nm hb16
   refine rn 2 E S ?_; clear E S; intro a w E S
   refine op_on E rfl rfl hb16 ?_
   refine o_buildSl (cs := #[.int .i64 0, .int .i64 2, .int .i64 0, str [97], .int .i64 1, .int .i64 7, .int .i64 2, .int .i64 0, str [97], .int .i64 11, .slice none 0 0, .slice none 0 0, .bool false, str []]) [(0, _), (1, _), (2, _), (3, _), (4, _), (5, _), (6, _), (7, _), (8, _), (9, _), (10, _), (11, _), (12, _), (13, _)] E rfl S rfl T.l22 (by kernel_rfl) ⟨rfl, rfl, rfl, rfl, rfl, rfl, rfl, rfl, rfl, rfl, rfl, rfl, rfl, rfl, trivial⟩ ?_; clear E S; intro B39 w a S E
   obtain ⟨G18, hle20, hC19, S'⟩ := S.stillHead (n := 14) rfl; clear S; have S := S'; clear S'
   replace hg0 := hg0.le hle20
   replace hg1 := hg1.le hle20
   replace hR2 := hR2.le hle20
   replace hC7 := hC7.le hle20
   replace hW9 := hW9.le hle20
   replace hR10 := hR10.le hle20
   have hW21 := Rd.ofCells (K := kEvt) (xs := [E1]) hC19 ⟨kEvt_mk E1 (Nat.le_refl _) Rd.nil (Nat.le_refl _) Rd.nil, rfl⟩
   refine op_on E rfl rfl hb16 ?_
   refine o_callP E rfl S rfl rfl T.g9 (c_Same11 ((unveilS [E1] B0).1) _ _ [E1] _ _ _ _ S.sub hR10 (by first | omega | (rw [wake1]; decide) | decide) (by first | exact hsmh | exact hsmu | exact hsma | exact E1_sm | (rw [wake1]; exact E1_sm)) hW21 (by first | omega | (rw [wake1]; decide) | decide) (by first | exact hsmh | exact hsmu | exact hsma | exact E1_sm | (rw [wake1]; exact E1_sm))) ?_
   clear E S; rintro _ w a S rfl E
   refine rn 1 E S ?_; clear E S; intro a w E S
   exact ⟨_, hle20, S, E.cutT (by rw [hb16] <;> rfl)⟩
  ·refine rn 5 E S ?_; clear E S; intro a w E S
   exact ⟨_, (Heap.le.refl _), S, E.cutT (by rw [hb16] <;> rfl)⟩
 clear E S; intro a w G22 hle23 E S
 replace hg0 := hg0.le hle23
 replace hg1 := hg1.le hle23
 replace hR2 := hR2.le hle23
 replace hC7 := hC7.le hle23
 replace hW9 := hW9.le hle23
 replace hR10 := hR10.le hle23
 refine rn 1 E S ?_; clear E S; intro a w E S
 apply hK; clear hK K
 refine rt hQ E S ?_
 show _ = _
 simp only [packed, Value.bool.injEq]
 rw [wake0, wake1]
 decide +kernel

/-! `incognito/incognitolaw30.great` -/
theorem c_great30 (b : Book) (Ae : Option Addr) (ce : Nat) (Am : Option Addr) (cm : Nat) (Ar : Option Addr) (cr : Nat) (w0 : World) (G : Heap) (hG : Sub G w0) :
  Calls Tryd.prog 6 #[.agg #[.int .i64 b.pol.r0.way, .int .i64 b.pol.r0.size, .int .i64 b.pol.r1.way, .int .i64 b.pol.r1.size, .int .i64 b.pol.r2.way, .int .i64 b.pol.r2.size, .int .i64 b.pol.r3.way, .int .i64 b.pol.r3.size, .int .i64 b.pol.r4.way, .int .i64 b.pol.r4.size, .int .i64 b.pol.time, .int .i64 b.pol.note, .bool b.pol.loose, .bool b.pol.force, .slice Ae b.es.length ce, .slice Am b.ms.length cm, .slice Ar b.rs.length cr]] w0 (Ret w0 G (fun v _ => v = .bool (greatB b))) := by
 refine enter Tryd.func6 rfl Tryd.ntmps6 rfl ?_
 intro Q hQ a E
 have S := St.start0 hG
 refine sr fun K hK => ?_
 refine o_boxL [(0, _), (1, _), (2, _), (3, _), (4, _), (5, _), (6, _), (7, _), (8, _), (9, _), (10, _), (11, _), (12, _), (13, _), (14, _), (15, _), (16, _)] E rfl S rfl ⟨rfl, rfl, rfl, rfl, rfl, rfl, rfl, rfl, rfl, rfl, rfl, rfl, rfl, rfl, rfl, rfl, rfl, trivial⟩ ?_; clear E S; intro B1 w a S E
 refine rn 1 E S ?_; clear E S; intro a w E S
 apply hK; clear hK K
 refine sr fun K hK => ?_
 refine rn 5 E S ?_; clear E S; intro a w E S
 refine cutG 5 12 (.bool ((decide (60 < (b.es.length : Int))) || (decide (60 < (b.ms.length : Int))))) E S ?_ ?_
 ·refine bsp E (t := 7) rfl (fun hb2 => ?_) (fun hb2 => ?_)
  ·refine rn 5 E S ?_; clear E S; intro a w E S
   exact ⟨S, E.cutT (by rw [hb2] <;> rfl)⟩
  ·have hk3 := nm hb2
   refine rn 5 E S ?_; clear E S; intro a w E S
   exact ⟨S, E.cutT (by rw [hb2] <;> rfl)⟩
 clear E S; intro a w E S
 refine rn 1 E S ?_; clear E S; intro a w E S
 refine cutG 5 18 (.bool (((decide (60 < (b.es.length : Int))) || (decide (60 < (b.ms.length : Int)))) || (decide (60 < (b.rs.length : Int))))) E S ?_ ?_
 ·refine bsp E (t := 13) rfl (fun hb4 => ?_) (fun hb4 => ?_)
  ·refine rn 5 E S ?_; clear E S; intro a w E S
   exact ⟨S, E.cutT (by rw [hb4] <;> rfl)⟩
  ·have hk5 := nm hb4
   refine rn 5 E S ?_; clear E S; intro a w E S
   exact ⟨S, E.cutT (by rw [hb4] <;> rfl)⟩
 clear E S; intro a w E S
 refine rn 1 E S ?_; clear E S; intro a w E S
 apply hK; clear hK K
 refine rt hQ E S ?_
 show _ = _
 simp only [packed, Value.bool.injEq]
 rfl

/-! `incognito/incognitolaw30.UnveilApplies` -/
theorem law_UnveilApplies (h : List Evt) (A : Option Addr) (c : Nat) (b : Book) (Ae : Option Addr) (ce : Nat) (Am : Option Addr) (cm : Nat) (Ar : Option Addr) (cr : Nat) (w0 : World) (G : Heap) (hG : Sub G w0) (hg0 : CellsAt G 0 0 [.int .i64 3, .int .i64 1, str []]) (hg1 : CellsAt G 1 0 [.int .i64 3, .int .i64 0, str []]) (hR : Rd kEvt G A h) (hl : h.length ≤ 9223372036854775807) (hw : ∀ x ∈ h, x.Wf) (hsm : ∀ x ∈ h, x.args.length ≤ 4398046511104 ∧ x.out.length ≤ 4398046511104) (hRe : Rd kEnt G Ae b.es) (hRm : Rd kMom G Am b.ms) (hRr : Rd kRem G Ar b.rs) (hle : b.es.length ≤ 9223372036854775807) (hlm : b.ms.length ≤ 9223372036854775807) (hlr : b.rs.length ≤ 9223372036854775807) (hew : ∀ x ∈ b.es, I64 x.dom ∧ x.name.Wf ∧ x.real.Wf) (hrw : ∀ x ∈ b.rs, x.note.length ≤ 9223372036854775807):
  Calls Tryd.prog 3 #[.slice A h.length c, .agg #[.int .i64 b.pol.r0.way, .int .i64 b.pol.r0.size, .int .i64 b.pol.r1.way, .int .i64 b.pol.r1.size, .int .i64 b.pol.r2.way, .int .i64 b.pol.r2.size, .int .i64 b.pol.r3.way, .int .i64 b.pol.r3.size, .int .i64 b.pol.r4.way, .int .i64 b.pol.r4.size, .int .i64 b.pol.time, .int .i64 b.pol.note, .bool b.pol.loose, .bool b.pol.force, .slice Ae b.es.length ce, .slice Am b.ms.length cm, .slice Ar b.rs.length cr]] w0 (Ret w0 G (fun v _ => v = .bool true)) := by
 refine enter Tryd.func3 rfl Tryd.ntmps3 rfl ?_
 intro Q hQ a E
 have S := St.start0 hG
 refine sr fun K hK => ?_
 refine o_boxL [(0, _), (1, _), (2, _), (3, _), (4, _), (5, _), (6, _), (7, _), (8, _), (9, _), (10, _), (11, _), (12, _), (13, _), (14, _), (15, _), (16, _)] E rfl S rfl ⟨rfl, rfl, rfl, rfl, rfl, rfl, rfl, rfl, rfl, rfl, rfl, rfl, rfl, rfl, rfl, rfl, rfl, trivial⟩ ?_; clear E S; intro B3 w a S E
 refine rn 1 E S ?_; clear E S; intro a w E S
 apply hK; clear hK K
 refine wp_seq_k (fun K3 hK2 => ?_)
 refine sr fun K hK => ?_
 refine o_callP E rfl S rfl rfl T.g4 (c_wakes30 _ _ S.sub hg0 hg1) ?_
 clear E S; rintro _ w a S rfl E
 refine rn 1 E S ?_; clear E S; intro a w E S
 apply hK; clear hK K
 refine cond E rfl (fun h5r => ?_) (fun h5r => ?_)
 ·have h5 := nm h5r
  refine sr fun K hK => ?_
  refine rn 1 E S ?_; clear E S; intro a w E S
  apply hK; clear hK K
  refine rt hQ E S ?_
  exact absurd h5r (by decide)
 ·have h5 := nm h5r
  refine wp_skip ?_
  refine hK2 _ _ ?_; clear hK2
  refine wp_seq_k (fun K8 hK7 => ?_)
  refine sr fun K hK => ?_
  refine rn 1 E S ?_; clear E S; intro a w E S
  refine o_callP E rfl S rfl rfl T.g5 (c_Great11 h _ _ 30 _ _ S.sub hR (by omega) hw) ?_
  clear E S; rintro _ w a S rfl E
  refine rn 1 E S ?_; clear E S; intro a w E S
  refine cutG 3 19 (.bool ((greatH h 30) || (greatB b))) E S ?_ ?_
  ·refine bsp E (t := 16) rfl (fun hb9 => ?_) (fun hb9 => ?_)
   ·refine rn 3 E S ?_; clear E S; intro a w E S
    exact ⟨S, E.cutT (by rw [hb9] <;> rfl)⟩
   ·have hk10 := nm hb9
    refine rn 1 E S ?_; clear E S; intro a w E S
    refine op_on E rfl rfl hb9 ?_
    refine o_callP E rfl S rfl rfl T.g6 (c_great30 b _ _ _ _ _ _ _ _ S.sub) ?_
    clear E S; rintro _ w a S rfl E
    refine rn 1 E S ?_; clear E S; intro a w E S
    exact ⟨S, E.cutT (by rw [hb9] <;> rfl)⟩
  clear E S; intro a w E S
  apply hK; clear hK K
  refine cond E rfl (fun h12r => ?_) (fun h12r => ?_)
  ·have h12 := nm h12r
   refine sr fun K hK => ?_
   refine rn 1 E S ?_; clear E S; intro a w E S
   apply hK; clear hK K
   refine rt hQ E S ?_
   show _ = _
   rfl
  ·have h12 := nm h12r
   refine wp_skip ?_
   refine hK7 _ _ ?_; clear hK7
   refine sr fun K hK => ?_
   have hgo := h12r
   rw [Bool.or_eq_false_iff] at hgo
   have hgl := greatH_out hgo.1
   have hgb := greatB_out hgo.2
   have hgl1 := hgl.1
   have hok : ∀ x ∈ h, x.Wf ∧ (rightE x = true → x.out.length ≤ 1000000) := fun x hx => ⟨hw x hx, fun hr => by have := great_out hr (hgl.2 x hx); omega⟩
   have hal : ∀ x ∈ h, rightE x = true → x.args.length ≤ 1000000 := fun x hx hr => by have := right_args hr; omega
   have hsmh : ∀ e ∈ h, EvSm e := fun e he => ⟨(hw e he).argsLen, (hw e he).outLen⟩
   have hsmu := unveil_sm (b := b) hsmh
   have hsma := apply_sm (b := b) hsmh
   have hulu := unveil_len h b
   have hula := apply_len h b
   refine rn 1 E S ?_; clear E S; intro a w E S
   refine o_call E rfl S rfl rfl T.g7 (c_Copy11 h _ _ _ _ S.sub hR (by omega) hsm) ?_
   clear E S; rintro _ G14 w a S hle14 ⟨vA14, vc14, rfl, hcp14, hR14⟩ E
   replace hg0 := hg0.le hle14
   replace hg1 := hg1.le hle14
   replace hR := hR.le hle14
   replace hRe := hRe.le hle14
   replace hRm := hRm.le hle14
   replace hRr := hRr.le hle14
   refine rn 1 E S ?_; clear E S; intro a w E S
   apply hK; clear hK K
   refine sr fun K hK => ?_
   refine rn 2 E S ?_; clear E S; intro a w E S
   refine o_call E rfl S rfl rfl T.g8 (c_Apply h _ _ b _ _ _ _ _ _ _ _ S.sub hg0 hg1 hR14 (by first | omega | decide) hRe hRm hRr (by omega) hlm hlr hew hrw hok hal) ?_
   clear E S; rintro _ G16 w a S hle16 ⟨vA16, vc16, rfl, hcp16, hR16⟩ E
   replace hg0 := hg0.le hle16
   replace hg1 := hg1.le hle16
   replace hR := hR.le hle16
   replace hRe := hRe.le hle16
   replace hRm := hRm.le hle16
   replace hRr := hRr.le hle16
   replace hR14 := hR14.le hle16
   refine rn 3 E S ?_; clear E S; intro a w E S
   refine o_allocZ E rfl S ?_; clear E S; intro B7 w a S E
   refine rn 2 E S ?_; clear E S; intro a w E S
   apply hK; clear hK K
   refine wp_seq_k (fun K19 hK18 => ?_)
   refine sr fun K hK => ?_
   refine rn 2 E S ?_; clear E S; intro a w E S
   refine o_callP E rfl S rfl rfl T.g9 (c_Same11 h _ _ h _ _ _ _ S.sub hR14 (by first | omega | (rw [wake1]; decide) | decide) (by first | exact hsmh | exact hsmu | exact hsma | exact E1_sm | (rw [wake1]; exact E1_sm)) hR (by first | omega | (rw [wake1]; decide) | decide) (by first | exact hsmh | exact hsmu | exact hsma | exact E1_sm | (rw [wake1]; exact E1_sm))) ?_
   clear E S; rintro _ w a S rfl E
   refine rn 1 E S ?_; clear E S; intro a w E S
   apply hK; clear hK K
   refine cond E rfl (fun h21r => ?_) (fun h21r => ?_)
   ·have h21 := nm h21r
    refine sr fun K hK => ?_
    refine rn 1 E S ?_; clear E S; intro a w E S
    apply hK; clear hK K
    refine rt hQ E S ?_
    exact absurd h21r (by simp)
   ·have h21 := nm h21r
    refine wp_skip ?_
    refine hK18 _ _ ?_; clear hK18
    refine sr fun K hK => ?_
    refine rn 1 E S ?_; clear E S; intro a w E S
    refine o_callP E rfl S rfl rfl T.g10 (c_Check12 h _ _ _ _ S.sub hR (by omega) hok) ?_
    clear E S; rintro _ w a S rfl E
    refine rn 5 E S ?_; clear E S; intro a w E S
    apply hK; clear hK K
    refine wp_seq_k (fun K25 hK24 => ?_)
    refine sr fun K hK => ?_
    refine rn 2 E S ?_; clear E S; intro a w E S
    apply hK; clear hK K
    refine cond E rfl (fun h27r => ?_) (fun h27r => ?_)
    ·have h27 := nm h27r
     refine sr fun K hK => ?_
     refine rn 5 E S ?_; clear E S; intro a w E S
     refine cutG 5 48 (.bool ((decide (((unveilS h b).2.1) = ((checkS h).1))) && (decide (((unveilS h b).2.2) = ((checkS h).2))))) E S ?_ ?_
     ·refine bsp E (t := 43) rfl (fun hb28 => ?_) (fun hb28 => ?_)
      ·have hk29 := nm hb28
       refine rn 5 E S ?_; clear E S; intro a w E S
       exact ⟨S, E.cutT (by rw [hb28] <;> rfl)⟩
      ·refine rn 5 E S ?_; clear E S; intro a w E S
       exact ⟨S, E.cutT (by rw [hb28] <;> rfl)⟩
     clear E S; intro a w E S
     refine rn 1 E S ?_; clear E S; intro a w E S
     refine cutG 4 53 (.bool (((decide (((unveilS h b).2.1) = ((checkS h).1))) && (decide (((unveilS h b).2.2) = ((checkS h).2)))) && (decide (((unveilS h b).1.length : Int) = 0)))) E S ?_ ?_
     ·refine bsp E (t := 49) rfl (fun hb30 => ?_) (fun hb30 => ?_)
      ·have hk31 := nm hb30
       refine rn 4 E S ?_; clear E S; intro a w E S
       exact ⟨S, E.cutT (by rw [hb30] <;> rfl)⟩
      ·refine rn 4 E S ?_; clear E S; intro a w E S
       exact ⟨S, E.cutT (by rw [hb30] <;> rfl)⟩
     clear E S; intro a w E S
     refine rn 1 E S ?_; clear E S; intro a w E S
     apply hK; clear hK K
     refine rt hQ E S ?_
     show _ = _
     simp only [packed, Value.bool.injEq]
     rw [unveil_c (b := b) (by simpa using h27)]
     simp
    ·have h27 := nm h27r
     refine wp_skip ?_
     refine hK24 _ _ ?_; clear hK24
     refine wp_seq_k (fun K34 hK33 => ?_)
     refine sr fun K hK => ?_
     have hc0 : (checkS h).1 = 0 := by simpa using h27
     have hwf := (check_all hc0).1
     refine rn 1 E S ?_; clear E S; intro a w E S
     refine o_callP E rfl S rfl rfl T.g11 (c_Right29 b _ _ _ _ _ _ _ _ S.sub hg0 hg1 hRe hRm hRr (by omega) hlm hlr hew hrw) ?_
     clear E S; rintro _ w a S rfl E
     refine rn 1 E S ?_; clear E S; intro a w E S
     apply hK; clear hK K
     refine cond E rfl (fun h36r => ?_) (fun h36r => ?_)
     ·have h36 := nm h36r
      refine sr fun K hK => ?_
      refine rn 1 E S ?_; clear E S; intro a w E S
      refine o_build (cs := #[.int .i64 10, .int .i64 0]) E rfl rfl (by kernel_rfl) ?_; clear E; intro a E
      refine o_eqA (b := decide (((unveilS h b).2.1) = 10) && (decide (((unveilS h b).2.2) = 0) && true)) E rfl rfl rfl T.q39 rfl rfl ?_; clear E; intro a E
      refine rn 1 E S ?_; clear E S; intro a w E S
      refine cutG 4 64 (.bool ((decide (((unveilS h b).2.1) = 10) && (decide (((unveilS h b).2.2) = 0) && true)) && (decide (((unveilS h b).1.length : Int) = 0)))) E S ?_ ?_
      ·refine bsp E (t := 60) rfl (fun hb37 => ?_) (fun hb37 => ?_)
       ·have hk38 := nm hb37
        refine rn 4 E S ?_; clear E S; intro a w E S
        exact ⟨S, E.cutT (by rw [hb37] <;> rfl)⟩
       ·refine rn 4 E S ?_; clear E S; intro a w E S
        exact ⟨S, E.cutT (by rw [hb37] <;> rfl)⟩
      clear E S; intro a w E S
      refine rn 1 E S ?_; clear E S; intro a w E S
      apply hK; clear hK K
      refine rt hQ E S ?_
      show _ = _
      simp only [packed, Value.bool.injEq]
      rw [unveil_b hc0 (by simpa using h36)]
      simp
     ·have h36 := nm h36r
      refine wp_skip ?_
      refine hK33 _ _ ?_; clear hK33
      refine sr fun K hK => ?_
      refine rn 2 E S ?_; clear E S; intro a w E S
      refine o_call E rfl S rfl rfl T.g12 (c_Apply30 h _ _ b _ _ _ _ _ _ _ _ S.sub hg0 hg1 hR (by omega) hRe hRm hRr (by omega) hlm hlr hok hal hwf) ?_
      clear E S; rintro _ G40 w a S hle40 ⟨vA40, vc40, rfl, hcp40, hR40⟩ E
      replace hg0 := hg0.le hle40
      replace hg1 := hg1.le hle40
      replace hR := hR.le hle40
      replace hRe := hRe.le hle40
      replace hRm := hRm.le hle40
      replace hRr := hRr.le hle40
      replace hR14 := hR14.le hle40
      replace hR16 := hR16.le hle40
      refine rn 5 E S ?_; clear E S; intro a w E S
      apply hK; clear hK K
      refine wp_seq_k (fun K43 hK42 => ?_)
      refine sr fun K hK => ?_
      refine rn 2 E S ?_; clear E S; intro a w E S
      apply hK; clear hK K
      refine cond E rfl (fun h45r => ?_) (fun h45r => ?_)
      ·have h45 := nm h45r
       refine sr fun K hK => ?_
       refine rn 2 E S ?_; clear E S; intro a w E S
       refine o_build (cs := #[.int .i64 12, .int .i64 ((applyU h b).2)]) E rfl rfl (by kernel_rfl) ?_; clear E; intro a E
       refine o_eqA (b := decide (((unveilS h b).2.1) = 12) && (decide (((unveilS h b).2.2) = ((applyU h b).2)) && true)) E rfl rfl rfl T.q39 rfl rfl ?_; clear E; intro a E
       refine rn 1 E S ?_; clear E S; intro a w E S
       refine cutG 4 81 (.bool ((decide (((unveilS h b).2.1) = 12) && (decide (((unveilS h b).2.2) = ((applyU h b).2)) && true)) && (decide (((unveilS h b).1.length : Int) = 0)))) E S ?_ ?_
       ·refine bsp E (t := 77) rfl (fun hb46 => ?_) (fun hb46 => ?_)
        ·have hk47 := nm hb46
         refine rn 4 E S ?_; clear E S; intro a w E S
         exact ⟨S, E.cutT (by rw [hb46] <;> rfl)⟩
        ·refine rn 4 E S ?_; clear E S; intro a w E S
         exact ⟨S, E.cutT (by rw [hb46] <;> rfl)⟩
       clear E S; intro a w E S
       refine rn 1 E S ?_; clear E S; intro a w E S
       apply hK; clear hK K
       refine rt hQ E S ?_
       show _ = _
       simp only [packed, Value.bool.injEq]
       rw [unveil_p hc0 (by simpa using h36) (by simpa using h45)]
       simp
      ·have h45 := nm h45r
       refine wp_skip ?_
       refine hK42 _ _ ?_; clear hK42
       refine sr fun K hK => ?_
       refine rn 1 E S ?_; clear E S; intro a w E S
       refine o_build (cs := #[.int .i64 0, .int .i64 0]) E rfl rfl (by kernel_rfl) ?_; clear E; intro a E
       refine o_eqA (b := decide (((unveilS h b).2.1) = 0) && (decide (((unveilS h b).2.2) = 0) && true)) E rfl rfl rfl T.q39 rfl rfl ?_; clear E; intro a E
       refine rn 1 E S ?_; clear E S; intro a w E S
       refine cutG 4 89 (.bool ((decide (((unveilS h b).2.1) = 0) && (decide (((unveilS h b).2.2) = 0) && true)) && (decide ((unveilS h b).1 = (applyU h b).1)))) E S ?_ ?_
       ·refine bsp E (t := 85) rfl (fun hb49 => ?_) (fun hb49 => ?_)
        ·have hk50 := nm hb49
         refine rn 2 E S ?_; clear E S; intro a w E S
         refine op_on E rfl rfl hb49 ?_
         refine o_callP E rfl S rfl rfl T.g9 (c_Same11 ((unveilS h b).1) _ _ ((applyU h b).1) _ _ _ _ S.sub hR16 (by first | omega | (rw [wake1]; decide) | decide) (by first | exact hsmh | exact hsmu | exact hsma | exact E1_sm | (rw [wake1]; exact E1_sm)) hR40 (by first | omega | (rw [wake1]; decide) | decide) (by first | exact hsmh | exact hsmu | exact hsma | exact E1_sm | (rw [wake1]; exact E1_sm))) ?_
         clear E S; rintro _ w a S rfl E
         refine rn 1 E S ?_; clear E S; intro a w E S
         exact ⟨S, E.cutT (by rw [hb49] <;> rfl)⟩
        ·refine rn 4 E S ?_; clear E S; intro a w E S
         exact ⟨S, E.cutT (by rw [hb49] <;> rfl)⟩
       clear E S; intro a w E S
       refine rn 1 E S ?_; clear E S; intro a w E S
       apply hK; clear hK K
       refine rt hQ E S ?_
       show _ = _
       simp only [packed, Value.bool.injEq]
       rw [unveil_g hc0 (by simpa using h36) (by simpa using h45)]
       simp
end Go.Proofs.YtnfadpkhjfillaaDoor.T28
