/- Own text. -/
import Derived.Test.YtnfadpkhjfillaaDoorU13
set_option linter.unusedVariables false
set_option linter.unusedSimpArgs false
set_option maxRecDepth 100000
set_option maxHeartbeats 4000000
namespace Go.Proofs.YtnfadpkhjfillaaDoor.T28
open Go Go.Proofs.YtnfadpkhjfillaaDoor.X
theorem T.g15 : goFn Tryd.prog 15 = true := by kernel_rfl
theorem T.g16 : goFn Tryd.prog 16 = true := by kernel_rfl
theorem T.g18 : goFn Tryd.prog 18 = true := by kernel_rfl
theorem T.g19 : goFn Tryd.prog 19 = true := by kernel_rfl
theorem T.g20 : goFn Tryd.prog 20 = true := by kernel_rfl

def unveilS (h : List Evt) (b : Book) : List Evt × Int × Int :=
  if ¬ (checkS h).1 = 0 then ([], checkS h)
  else if bookB b = false then ([], 10, 0)
  else ((applyU h b).1, (if 0 < (applyU h b).2 then 12 else 0), (applyU h b).2)
theorem allV_eq {h : List Evt} (hc : (checkS h).1 = 0) : (allV h).length = h.length := by
  unfold allV
  rw [if_pos hc, vesS_len]
theorem dom_at {h : List Evt} {i : Nat} (hc : (checkS h).1 = 0) (hi : i < h.length) : (domL h (allV h).length).getD i [] = domsE h i := by
  unfold domL allV
  rw [if_pos hc, vesS_len]
  rw [List.getD_eq_getElem?_getD, List.getElem?_map, List.getElem?_range hi]
  show ((vesS h h.length).getD i VE0).ds = _
  unfold vesS
  rw [List.getD_eq_getElem?_getD, List.getElem?_map, List.getElem?_range hi]
  rfl
theorem own_off {x : Evt} (hr : rightE x = true) : (ownE x).length = offK x + x.args.length + x.out.length := by
  rw [own_len]
  unfold offK
  by_cases ht : x.type = 1
  · rw [if_pos ht, if_pos ht, (right_inv hr ht).2.2.2]
    simp; omega
  · rw [if_neg ht, if_neg ht]
    obtain ⟨_, _, _, h4, _, h6⟩ := right_end hr ht
    rw [h4]
    by_cases ht2 : x.type = 2
    · rw [if_pos ht2]; simp; omega
    · rw [if_neg ht2, show x.out = [] from by rcases h6 with h | h; exact absurd h ht2; exact h.2]
      rfl
theorem offK_or (x : Evt) : (x.type = 1 ∧ offK x = 2) ∨ (¬ x.type = 1 ∧ offK x = 1) := by
  unfold offK
  by_cases ht : x.type = 1
  · exact .inl ⟨ht, if_pos ht⟩
  · exact .inr ⟨ht, if_neg ht⟩
theorem unveil_bad {h : List Evt} {b : Book} {i : Nat} (hc : (checkS h).1 = 0) (hb : bookB b = true) (hi : i < h.length) (h1 : ∀ j, j < i → okU b (domsE h j) (h.getD j E0) = true) (h2 : okU b (domsE h i) (h.getD i E0) = false) : unveilS h b = ([], 12, ((i : Nat) : Int) + 1) := by
  unfold unveilS
  rw [if_neg (fun e => e hc), if_neg (by rw [hb]; decide), applyU_bad hi h1 h2]
  show ([], (if 0 < ((i : Nat) : Int) + 1 then (12 : Int) else 0), ((i : Nat) : Int) + 1) = _
  rw [if_pos (by omega)]
theorem unveil_good {h : List Evt} {b : Book} (hc : (checkS h).1 = 0) (hb : bookB b = true) (h1 : ∀ j, j < h.length → okU b (domsE h j) (h.getD j E0) = true) : unveilS h b = (uevL h b h.length, 0, 0) := by
  unfold unveilS
  rw [if_neg (fun e => e hc), if_neg (by rw [hb]; decide), applyU_good h1]
  rfl
/-! `incognito/unveil.Apply` -/
theorem c_Apply (h : List Evt) (A : Option Addr) (c : Nat) (b : Book) (Ae : Option Addr) (ce : Nat) (Am : Option Addr) (cm : Nat) (Ar : Option Addr) (cr : Nat) (w0 : World) (G : Heap) (hG : Sub G w0) (hg0 : CellsAt G 0 0 [.int .i64 3, .int .i64 1, str []]) (hg1 : CellsAt G 1 0 [.int .i64 3, .int .i64 0, str []]) (hR : Rd kEvt G A h) (hl : h.length ≤ 1000000) (hRe : Rd kEnt G Ae b.es) (hRm : Rd kMom G Am b.ms) (hRr : Rd kRem G Ar b.rs) (hle : b.es.length ≤ 1000000000) (hlm : b.ms.length ≤ 9223372036854775807) (hlr : b.rs.length ≤ 9223372036854775807) (hew : ∀ x ∈ b.es, I64 x.dom ∧ x.name.Wf ∧ x.real.Wf) (hrw : ∀ x ∈ b.rs, x.note.length ≤ 9223372036854775807) (hok : ∀ x ∈ h, x.Wf ∧ (rightE x = true → x.out.length ≤ 1000000)) (hal : ∀ x ∈ h, rightE x = true → x.args.length ≤ 1000000):
  Calls Tryd.prog 8 #[.slice A h.length c, .agg #[.int .i64 b.pol.r0.way, .int .i64 b.pol.r0.size, .int .i64 b.pol.r1.way, .int .i64 b.pol.r1.size, .int .i64 b.pol.r2.way, .int .i64 b.pol.r2.size, .int .i64 b.pol.r3.way, .int .i64 b.pol.r3.size, .int .i64 b.pol.r4.way, .int .i64 b.pol.r4.size, .int .i64 b.pol.time, .int .i64 b.pol.note, .bool b.pol.loose, .bool b.pol.force, .slice Ae b.es.length ce, .slice Am b.ms.length cm, .slice Ar b.rs.length cr]] w0 (Ret w0 G (fun v G' => ∃ A c, v = .tuple #[.slice A (unveilS h b).1.length c, .agg #[.int .i64 (unveilS h b).2.1, .int .i64 (unveilS h b).2.2]] ∧ (unveilS h b).1.length ≤ c ∧ Rd kEvt G' A (unveilS h b).1)) := by
 refine enter Tryd.func8 rfl Tryd.ntmps8 rfl ?_
 intro Q hQ a E
 have S := St.start0 hG
 refine sr fun K hK => ?_
 refine o_boxL [(0, _), (1, _), (2, _), (3, _), (4, _), (5, _), (6, _), (7, _), (8, _), (9, _), (10, _), (11, _), (12, _), (13, _), (14, _), (15, _), (16, _)] E rfl S rfl ⟨rfl, rfl, rfl, rfl, rfl, rfl, rfl, rfl, rfl, rfl, rfl, rfl, rfl, rfl, rfl, rfl, rfl, trivial⟩ ?_; clear E S; intro B3 w a S E
 refine rn 1 E S ?_; clear E S; intro a w E S
 refine o_allocZ E rfl S ?_; clear E S; intro B5 w a S E
 apply hK; clear hK K
 refine sr fun K hK => ?_
 refine rn 1 E S ?_; clear E S; intro a w E S
 refine o_call E rfl S rfl rfl T.g15 (c_Domains h _ _ _ _ S.sub hg0 hg1 hR (by omega) hok hal) ?_
 clear E S; rintro _ G2 w a S hle2 ⟨vA2, vc2, rfl, hcp2, hR2⟩ E
 replace hg0 := hg0.le hle2
 replace hg1 := hg1.le hle2
 replace hR := hR.le hle2
 replace hRe := hRe.le hle2
 replace hRm := hRm.le hle2
 replace hRr := hRr.le hle2
 refine rn 3 E S ?_; clear E S; intro a w E S
 refine o_allocZ E rfl S ?_; clear E S; intro B7 w a S E
 refine rn 2 E S ?_; clear E S; intro a w E S
 apply hK; clear hK K
 refine wp_seq_k (fun K5 hK4 => ?_)
 refine wp_block ?_
 refine sr fun K hK => ?_
 refine rn 4 E S ?_; clear E S; intro a w E S
 apply hK; clear hK K
 refine cond E rfl (fun h7r => ?_) (fun h7r => ?_)
 ·have h7 := nm h7r
  refine wp_seq_k (fun K9 hK8 => ?_)
  replace E := E.cut (L' := [(0, .slice A h.length c), (1, .agg #[.int .i64 b.pol.r0.way, .int .i64 b.pol.r0.size, .int .i64 b.pol.r1.way, .int .i64 b.pol.r1.size, .int .i64 b.pol.r2.way, .int .i64 b.pol.r2.size, .int .i64 b.pol.r3.way, .int .i64 b.pol.r3.size, .int .i64 b.pol.r4.way, .int .i64 b.pol.r4.size, .int .i64 b.pol.time, .int .i64 b.pol.note, .bool b.pol.loose, .bool b.pol.force, .slice Ae b.es.length ce, .slice Am b.ms.length cm, .slice Ar b.rs.length cr]), (3, .pointer (some ⟨B3, 0, none⟩)), (5, .pointer (some ⟨B5, 0, none⟩)), (6, .slice vA2 ((domL h (allV h).length).length) vc2), (7, .pointer (some ⟨B7, 0, none⟩)), (13, .tuple #[.slice vA2 ((domL h (allV h).length).length) vc2, .agg #[.int .i64 ((checkS h).1), .int .i64 ((checkS h).2)]]), (14, .slice A h.length c), (15, .tuple #[.slice vA2 ((domL h (allV h).length).length) vc2, .agg #[.int .i64 ((checkS h).1), .int .i64 ((checkS h).2)]]), (16, .slice vA2 ((domL h (allV h).length).length) vc2), (17, .agg #[.int .i64 ((checkS h).1), .int .i64 ((checkS h).2)]), (18, .bool (!decide (((checkS h).1) = 0))), (19, .pointer (some ⟨B7, 0, none⟩)), (20, .int .i64 ((checkS h).1)), (21, .bool (!decide (((checkS h).1) = 0)))]) ⟨rfl, rfl, rfl, rfl, rfl, rfl, rfl, rfl, rfl, rfl, rfl, rfl, rfl, rfl, rfl, trivial⟩
  refine drawnF (fun f G' w => Heap.le G2 G' ∧ St w0 G [] G' w [[(B7, Cells 39 [(0, .int .i64 ((checkS h).1)), (1, .int .i64 ((checkS h).2))])], [(B5, Cells 39 [(0, bif f 2 then .int .i64 ((checkS h).1) else .int .i64 0), (1, bif f 2 then .int .i64 ((checkS h).2) else .int .i64 0)])], [(B3, Cells 32 (PC b [(14, .slice Ae b.es.length ce), (15, .slice Am b.ms.length cm), (16, .slice Ar b.rs.length cr)]))]]) [fun v _ => v = .agg #[.int .i64 ((checkS h).1), .int .i64 ((checkS h).2)], fun v _ => v = .slice none 0 0, fun _ _ => True] [] T.mix rfl E ⟨Heap.le.refl _, S.drew⟩ rfl (by simp) (AllM.get ⟨fun _ _ _ _ h => h, fun _ _ _ _ h => h, fun _ _ _ _ h => h, trivial⟩) ⟨?_, ?_, ?_, trivial⟩ ?_
  ·intro a w G1 f hcl hfi hon hW E hp hO; obtain ⟨hl, S⟩ := hW
   refine o_ldA E rfl S rfl T.a39 (.here .here) rfl ?_; clear E; intro a E
   exact ⟨_, _, Heap.le.refl _, ⟨hl, S⟩, fun d hd => (by cases hd; exact E.get _ _ rfl), E.defers, rfl⟩
  ·intro a w G1 f hcl hfi hon hW E hp hO; obtain ⟨hl, S⟩ := hW
   refine o_assign E rfl rfl ?_; clear E; intro a E
   exact ⟨_, _, Heap.le.refl _, ⟨hl, S⟩, fun d hd => (by cases hd; exact E.get _ _ rfl), E.defers, rfl⟩
  ·intro a w G1 f hcl hfi hon hW E hp hO; obtain ⟨hl, S⟩ := hW
   obtain ⟨_, e0, rfl⟩ := hp 0 22 _ (hon 0 rfl) rfl rfl; replace E := E.add e0
   refine o_stA E S rfl rfl rfl T.a39 (.there (.here .here)) rfl ?_; clear S; intro w S
   replace S := S.conv (L2 := [(0, _), (1, _)]) (.there (.here .here)) ⟨rfl, rfl, trivial⟩
   exact ⟨.bool true, _, Heap.le.refl _, ⟨hl, S⟩, fun d hd => (by cases hd), E.defers, trivial⟩
  clear E S; intro a w G10 f hle11 hall HW E hp; obtain ⟨_, S⟩ := HW
  have hfw2 := hall 2 (by decide)
  simp only [hfw2, cond_true] at S
  replace hg0 := hg0.le hle11
  replace hg1 := hg1.le hle11
  replace hR := hR.le hle11
  replace hRe := hRe.le hle11
  replace hRm := hRm.le hle11
  replace hRr := hRr.le hle11
  replace hR2 := hR2.le hle11
  obtain ⟨_, e1, rfl⟩ := hp 1 4 _ rfl rfl; replace E := E.add e1
  clear hp hall
  refine hK8 _ _ ?_; clear hK8
  refine rt hQ E S ?_
  have he : unveilS h b = ([], checkS h) := by unfold unveilS; rw [if_pos (by simpa using h7)]
  rw [he]
  exact ⟨_, _, rfl, Nat.le_refl _, .nil⟩
 ·have h7 := nm h7r
  refine sr fun K hK => ?_
  refine rn 1 E S ?_; clear E S; intro a w E S
  refine o_callP E rfl S rfl rfl T.g16 (c_bookright b _ _ _ _ _ _ _ _ S.sub hg0 hg1 hRe hRm hRr (by omega) hlm hlr hew hrw) ?_
  clear E S; rintro _ w a S rfl E
  refine rn 2 E S ?_; clear E S; intro a w E S
  apply hK; clear hK K
  refine cond E rfl (fun h13r => ?_) (fun h13r => ?_)
  ·have h13 := nm h13r
   refine sr fun K hK => ?_
   refine o_build (cs := #[.int .i64 10, .int .i64 0]) E rfl rfl (by kernel_rfl) ?_; clear E; intro a E
   refine rn 2 E S ?_; clear E S; intro a w E S
   apply hK; clear hK K
   refine rt hQ E S ?_
   have he : unveilS h b = ([], 10, 0) := by unfold unveilS; rw [if_neg (by simpa using h7), if_pos (by simpa using h13)]
   rw [he]
   exact ⟨_, _, rfl, Nat.le_refl _, .nil⟩
  ·have h13 := nm h13r
   refine wp_skip ?_
   refine hK4 _ _ ?_; clear hK4
   refine sr fun K hK => ?_
   have hc0 : (checkS h).1 = 0 := by simpa using h7
   have hbk0 : bookB b = true := by simpa using h13
   have hwf := (check_all hc0).1
   have hva := allV_eq hc0
   have hdll : (domL h (allV h).length).length = h.length := by rw [domL_len, hva]
   refine rn 1 E S ?_; clear E S; intro a w E S
   apply hK; clear hK K
   refine wp_seq_k (fun K17 hK16 => ?_)
   refine sr fun K hK => ?_
   refine rn 3 E S ?_; clear E S; intro a w E S
   apply hK; clear hK K
   refine wp_block ?_
   replace S := S.nilChunk
   have oH20 : X.Own kEvt 52 G2 none 0 ([] : List Evt) [] := X.Own.nil
   refine loop (fun (i : Nat) a' w' => ∃ (oA8_1 : Option Addr) (oc8_1 : Nat) (oC8_1 : Chunk), ∃ GL21, Heap.le G2 GL21 ∧ St w0 G [] GL21 w' [oC8_1, [(B7, Cells 39 [(0, .int .i64 ((checkS h).1)), (1, .int .i64 ((checkS h).2))])], [(B5, Cells 39 [(0, .int .i64 0), (1, .int .i64 0)])], [(B3, Cells 32 (PC b [(14, .slice Ae b.es.length ce), (15, .slice Am b.ms.length cm), (16, .slice Ar b.rs.length cr)]))]] ∧ Env a' 90 [] [(3, .pointer (some ⟨B3, 0, none⟩)), (4, .slice none 0 0), (5, .pointer (some ⟨B5, 0, none⟩)), (6, .slice vA2 ((domL h (allV h).length).length) vc2), (7, .pointer (some ⟨B7, 0, none⟩)), (8, .slice oA8_1 ((uevL h b i).length) oc8_1), (28, .slice A h.length c), (29, .int .i64 (h.length : Int)), (30, .int .i64 (i : Int))] ∧ X.Own kEvt 52 GL21 oA8_1 oc8_1 (uevL h b i) oC8_1 ∧ (i ≤ h.length ∧ ∀ j, j < i → okU b (domsE h j) (h.getD j E0) = true)) (fun (i : Nat) => h.length - i) 0 ⟨_, _, _, _, Heap.le.refl _, S, E.cut ⟨rfl, rfl, rfl, rfl, rfl, rfl, rfl, rfl, rfl, trivial⟩, X.Own.nil (K := kEvt), ⟨Nat.zero_le _, fun j hj => absurd hj (Nat.not_lt_zero _)⟩⟩ ?_
   clear E S; intro i a w ⟨oA8_1, oc8_1, oC8_1, GL21, hle22, S, E, oH8_1, ⟨hi, hall⟩⟩
   replace hg0 := hg0.le hle22
   replace hg1 := hg1.le hle22
   replace hR := hR.le hle22
   replace hRe := hRe.le hle22
   replace hRm := hRm.le hle22
   replace hRr := hRr.le hle22
   replace hR2 := hR2.le hle22
   refine sr fun K hK => ?_
   refine rn 1 E S ?_; clear E S; intro a w E S
   apply hK; clear hK K
   refine wp_seq_k (fun K25 hK24 => ?_)
   refine cond E rfl (fun h26r => ?_) (fun h26r => ?_)
   ·have h26 := nm h26r
    refine wp_skip ?_
    refine hK24 _ _ ?_; clear hK24
    refine wp_seq_k (fun K28 hK27 => ?_)
    refine wp_block ?_
    refine sr fun K hK => ?_
    have hwi := hwf i (by omega)
    have hrx := wrong_right hwi
    have hxo := hok _ (evm (h := h) (i := i) (by omega))
    have hwe : (h.getD i E0).Wf := hxo.1
    have hlo9 := hxo.2 hrx
    have hla9 := hal _ (evm (h := h) (i := i) (by omega)) hrx
    have hdm := dom_at hc0 (show i < h.length by omega)
    have hds9 : ∀ d ∈ ((domL h (allV h).length).getD i []), 0 ≤ d := by rw [hdm]; exact domsE_nn h i
    have hdl9 : ((domL h (allV h).length).getD i []).length = offK (h.getD i E0) + (h.getD i E0).args.length + (h.getD i E0).out.length := by rw [hdm, domsE_own hwi, own_off hrx]
    have hoff9 := offK_or (h.getD i E0)
    have hpm9 : ((domL h (allV h).length).getD i []).length ≤ 9000000000 := by omega
    refine rn 1 E S ?_; clear E S; intro a w E S
    have hi29 : (i : Int).toNat < h.length := by omega
    obtain ⟨eb29, eo29, hA29, el29⟩ := Rd.at hR (List.getElem?_eq_getElem hi29); cases hA29
    rw [show h[(i : Int).toNat] = (h.getD i E0) from getD_get (i := i) hi29 _] at el29
    obtain ⟨A1_29, c1_29, A2_29, c2_29, el29, ha1_29, hr1_29, ha2_29, hr2_29⟩ := kEvt_open el29
    refine o_ixL E rfl rfl rfl T.l22 ⟨by omega, by omega⟩ ?_; clear E; intro a E
    refine o_ldIA E rfl S rfl el29 T.a52 ?_; clear E; intro a E
    refine o_allocZ E rfl S ?_; clear E S; intro B10 w a S E
    refine rn 2 E S ?_; clear E S; intro a w E S
    apply hK; clear hK K
    refine wp_seq_k (fun K32 hK31 => ?_)
    have hi33 : (i : Int).toNat < (domL h (allV h).length).length := by omega
    obtain ⟨eb33, eo33, hA33, el33⟩ := Rd.at hR2 (List.getElem?_eq_getElem hi33); cases hA33
    rw [show (domL h (allV h).length)[(i : Int).toNat] = ((domL h (allV h).length).getD i []) from getD_get (i := i) hi33 _] at el33
    obtain ⟨A3_33, c3_33, el33, ha3_33, hr3_33⟩ := kLI_open el33
    replace E := E.cut (L' := [(3, .pointer (some ⟨B3, 0, none⟩)), (4, .slice none 0 0), (5, .pointer (some ⟨B5, 0, none⟩)), (6, .slice (some ⟨eb33, eo33, none⟩) ((domL h (allV h).length).length) vc2), (7, .pointer (some ⟨B7, 0, none⟩)), (8, .slice oA8_1 ((uevL h b i).length) oc8_1), (9, .int .i64 (i : Int)), (10, .pointer (some ⟨B10, 0, none⟩)), (28, .slice (some ⟨eb29, eo29, none⟩) h.length c), (29, .int .i64 (h.length : Int)), (30, .int .i64 (i : Int)), (31, .bool (decide ((i : Int) < (h.length : Int)))), (32, .int .i64 (i : Int)), (33, .pointer (some ⟨eb29, eo29 + (i : Int).toNat * 14, none⟩)), (34, .agg #[.int .i64 ((h.getD i E0).time), .int .i64 ((h.getD i E0).client.k), .int .i64 ((h.getD i E0).client.n), str ((h.getD i E0).client.s), .int .i64 ((h.getD i E0).type), .int .i64 ((h.getD i E0).model), .int .i64 ((h.getD i E0).key.k), .int .i64 ((h.getD i E0).key.n), str ((h.getD i E0).key.s), .int .i64 ((h.getD i E0).op), .slice A1_29 ((h.getD i E0).args.length) c1_29, .slice A2_29 ((h.getD i E0).out.length) c2_29, .bool ((h.getD i E0).noted), str ((h.getD i E0).note)])]) ⟨rfl, rfl, rfl, rfl, rfl, rfl, rfl, rfl, rfl, rfl, rfl, rfl, rfl, rfl, rfl, trivial⟩
    refine drawnA (fun f tm G' w => GL21 = G' ∧ ∃ X6_ : List Chunk, St w0 G [] G' w (X6_ ++ [[(B10, Cells 52 [(0, .int .i64 ((h.getD i E0).time)), (1, .int .i64 ((h.getD i E0).client.k)), (2, .int .i64 ((h.getD i E0).client.n)), (3, str ((h.getD i E0).client.s)), (4, .int .i64 ((h.getD i E0).type)), (5, .int .i64 ((h.getD i E0).model)), (6, .int .i64 ((h.getD i E0).key.k)), (7, .int .i64 ((h.getD i E0).key.n)), (8, str ((h.getD i E0).key.s)), (9, .int .i64 ((h.getD i E0).op)), (10, .slice A1_29 ((h.getD i E0).args.length) c1_29), (11, .slice A2_29 ((h.getD i E0).out.length) c2_29), (12, .bool ((h.getD i E0).noted)), (13, str ((h.getD i E0).note))])], oC8_1, [(B7, Cells 39 [(0, .int .i64 ((checkS h).1)), (1, .int .i64 ((checkS h).2))])], [(B5, Cells 39 [(0, .int .i64 0), (1, .int .i64 0)])], [(B3, Cells 32 (PC b [(14, .slice Ae b.es.length ce), (15, .slice Am b.ms.length cm), (16, .slice Ar b.rs.length cr)]))]]) ∧ ((f 6 = false ∧ X6_ = []) ∨ (f 6 = true ∧ ∃ B41 : Nat, tm 41 = some (.pointer (some ⟨B41, 0, none⟩)) ∧ (f 7 = true → tm 11 = some (.pointer (some ⟨B41, 0, none⟩))) ∧ X6_ = [[(B41, Cells 61 (PC b [(14, .slice Ae b.es.length ce), (15, .slice Am b.ms.length cm), (16, .slice Ar b.rs.length cr), (17, .slice A3_33 (((domL h (allV h).length).getD i []).length) c3_33), (18, .int .i64 0), (19, .bool false)]))]]))) [fun v _ => v = .agg #[.int .i64 b.pol.r0.way, .int .i64 b.pol.r0.size, .int .i64 b.pol.r1.way, .int .i64 b.pol.r1.size, .int .i64 b.pol.r2.way, .int .i64 b.pol.r2.size, .int .i64 b.pol.r3.way, .int .i64 b.pol.r3.size, .int .i64 b.pol.r4.way, .int .i64 b.pol.r4.size, .int .i64 b.pol.time, .int .i64 b.pol.note, .bool b.pol.loose, .bool b.pol.force, .slice Ae b.es.length ce, .slice Am b.ms.length cm, .slice Ar b.rs.length cr], fun v _ => v = .slice (some ⟨eb33, eo33, none⟩) ((domL h (allV h).length).length) vc2, fun v _ => v = .int .i64 (i : Int), fun v _ => v = .pointer (some ⟨eb33, eo33 + (i : Int).toNat * 1, none⟩), fun v _ => v = .slice A3_33 (((domL h (allV h).length).getD i []).length) c3_33, fun v _ => v = .agg #[.int .i64 b.pol.r0.way, .int .i64 b.pol.r0.size, .int .i64 b.pol.r1.way, .int .i64 b.pol.r1.size, .int .i64 b.pol.r2.way, .int .i64 b.pol.r2.size, .int .i64 b.pol.r3.way, .int .i64 b.pol.r3.size, .int .i64 b.pol.r4.way, .int .i64 b.pol.r4.size, .int .i64 b.pol.time, .int .i64 b.pol.note, .bool b.pol.loose, .bool b.pol.force, .slice Ae b.es.length ce, .slice Am b.ms.length cm, .slice Ar b.rs.length cr, .slice A3_33 (((domL h (allV h).length).getD i []).length) c3_33, .int .i64 0, .bool false], fun _ _ => True, fun _ _ => True] [] T.mix rfl E ⟨rfl, [], S.drew, .inl ⟨rfl, rfl⟩⟩ rfl (by simp) (AllM.get ⟨fun _ _ _ _ h => h, fun _ _ _ _ h => h, fun _ _ _ _ h => h, fun _ _ _ _ h => h, fun _ _ _ _ h => h, fun _ _ _ _ h => h, fun _ _ _ _ h => h, fun _ _ _ _ h => h, trivial⟩) ⟨?_, ?_, ?_, ?_, ?_, ?_, ?_, ?_, trivial⟩ ?_
    ·intro a w G1 f hcl hfi hon hW E hp hO; obtain ⟨rfl, X6_, S, hX6⟩ := hW
     have hfz7 : f 7 = false := by
      cases hq : f 7 with
      | false => rfl
      | true =>
       have hq := hcl 7 _ rfl hq 6 rfl
       have hq := hcl 6 _ rfl hq 5 rfl
       have hq := hcl 5 _ rfl hq 0 rfl
       rw [hfi] at hq; cases hq
     rcases hX6 with ⟨hfa6, rfl⟩ | ⟨hfa6, B41, hB6, hal7, rfl⟩
     ·simp only [List.nil_append] at S
      refine o_ldA E rfl S rfl T.a32 (.there (.there (.there (.there (.here .here))))) rfl ?_; clear E; intro a E
      exact ⟨_, _, Heap.le.refl _, ⟨rfl, [], S, .inl ⟨(by show (Nat.beq 6 0 || f 6) = false; rw [hfa6]; rfl), rfl⟩⟩, fun d hd => (by cases hd; exact E.get _ _ rfl), E.defers, rfl⟩
     ·replace E := E.add hB6; simp only [List.cons_append, List.nil_append] at S
      refine o_ldA E rfl S rfl T.a32 (.there (.there (.there (.there (.there (.here .here)))))) rfl ?_; clear E; intro a E
      exact ⟨_, _, Heap.le.refl _, ⟨rfl, [_], S, .inr ⟨(by show (Nat.beq 6 0 || f 6) = true; rw [hfa6]; rfl), _, E.get _ _ rfl, fun hq => absurd ((show f 7 = true from hq).symm.trans hfz7) (by decide), rfl⟩⟩, fun d hd => (by cases hd; exact E.get _ _ rfl), E.defers, rfl⟩
    ·intro a w G1 f hcl hfi hon hW E hp hO; obtain ⟨rfl, X6_, S, hX6⟩ := hW
     have hfz7 : f 7 = false := by
      cases hq : f 7 with
      | false => rfl
      | true =>
       have hq := hcl 7 _ rfl hq 6 rfl
       have hq := hcl 6 _ rfl hq 5 rfl
       have hq := hcl 5 _ rfl hq 4 rfl
       have hq := hcl 4 _ rfl hq 3 rfl
       have hq := hcl 3 _ rfl hq 1 rfl
       rw [hfi] at hq; cases hq
     rcases hX6 with ⟨hfa6, rfl⟩ | ⟨hfa6, B41, hB6, hal7, rfl⟩
     ·simp only [List.nil_append] at S
      refine o_move E rfl rfl ?_; clear E; intro a E
      exact ⟨_, _, Heap.le.refl _, ⟨rfl, [], S, .inl ⟨(by show (Nat.beq 6 1 || f 6) = false; rw [hfa6]; rfl), rfl⟩⟩, fun d hd => (by cases hd; exact E.get _ _ rfl), E.defers, rfl⟩
     ·replace E := E.add hB6; simp only [List.cons_append, List.nil_append] at S
      refine o_move E rfl rfl ?_; clear E; intro a E
      exact ⟨_, _, Heap.le.refl _, ⟨rfl, [_], S, .inr ⟨(by show (Nat.beq 6 1 || f 6) = true; rw [hfa6]; rfl), _, E.get _ _ rfl, fun hq => absurd ((show f 7 = true from hq).symm.trans hfz7) (by decide), rfl⟩⟩, fun d hd => (by cases hd; exact E.get _ _ rfl), E.defers, rfl⟩
    ·intro a w G1 f hcl hfi hon hW E hp hO; obtain ⟨rfl, X6_, S, hX6⟩ := hW
     have hfz7 : f 7 = false := by
      cases hq : f 7 with
      | false => rfl
      | true =>
       have hq := hcl 7 _ rfl hq 6 rfl
       have hq := hcl 6 _ rfl hq 5 rfl
       have hq := hcl 5 _ rfl hq 4 rfl
       have hq := hcl 4 _ rfl hq 3 rfl
       have hq := hcl 3 _ rfl hq 2 rfl
       rw [hfi] at hq; cases hq
     rcases hX6 with ⟨hfa6, rfl⟩ | ⟨hfa6, B41, hB6, hal7, rfl⟩
     ·simp only [List.nil_append] at S
      refine o_move E rfl rfl ?_; clear E; intro a E
      exact ⟨_, _, Heap.le.refl _, ⟨rfl, [], S, .inl ⟨(by show (Nat.beq 6 2 || f 6) = false; rw [hfa6]; rfl), rfl⟩⟩, fun d hd => (by cases hd; exact E.get _ _ rfl), E.defers, rfl⟩
     ·replace E := E.add hB6; simp only [List.cons_append, List.nil_append] at S
      refine o_move E rfl rfl ?_; clear E; intro a E
      exact ⟨_, _, Heap.le.refl _, ⟨rfl, [_], S, .inr ⟨(by show (Nat.beq 6 2 || f 6) = true; rw [hfa6]; rfl), _, E.get _ _ rfl, fun hq => absurd ((show f 7 = true from hq).symm.trans hfz7) (by decide), rfl⟩⟩, fun d hd => (by cases hd; exact E.get _ _ rfl), E.defers, rfl⟩
    ·intro a w G1 f hcl hfi hon hW E hp hO; obtain ⟨rfl, X6_, S, hX6⟩ := hW
     obtain ⟨_, e1, rfl⟩ := hp 1 36 _ (hon 1 rfl) rfl rfl; replace E := E.add e1
     obtain ⟨_, e2, rfl⟩ := hp 2 37 _ (hon 2 rfl) rfl rfl; replace E := E.add e2
     have hfz7 : f 7 = false := by
      cases hq : f 7 with
      | false => rfl
      | true =>
       have hq := hcl 7 _ rfl hq 6 rfl
       have hq := hcl 6 _ rfl hq 5 rfl
       have hq := hcl 5 _ rfl hq 4 rfl
       have hq := hcl 4 _ rfl hq 3 rfl
       rw [hfi] at hq; cases hq
     rcases hX6 with ⟨hfa6, rfl⟩ | ⟨hfa6, B41, hB6, hal7, rfl⟩
     ·simp only [List.nil_append] at S
      have hi34 : (i : Int).toNat < (domL h (allV h).length).length := by omega
      obtain ⟨eb34, eo34, hA34, el34⟩ := Rd.at hR2 (List.getElem?_eq_getElem hi34); cases hA34
      rw [show (domL h (allV h).length)[(i : Int).toNat] = ((domL h (allV h).length).getD i []) from getD_get (i := i) hi34 _] at el34
      obtain ⟨A3_34, c3_34, el34, ha3_34, hr3_34⟩ := kLI_open el34
      refine o_ixL E rfl rfl rfl T.l55 ⟨by omega, by omega⟩ ?_; clear E; intro a E
      exact ⟨_, _, Heap.le.refl _, ⟨rfl, [], S, .inl ⟨(by show (Nat.beq 6 3 || f 6) = false; rw [hfa6]; rfl), rfl⟩⟩, fun d hd => (by cases hd; exact E.get _ _ rfl), E.defers, rfl⟩
     ·replace E := E.add hB6; simp only [List.cons_append, List.nil_append] at S
      have hi35 : (i : Int).toNat < (domL h (allV h).length).length := by omega
      obtain ⟨eb35, eo35, hA35, el35⟩ := Rd.at hR2 (List.getElem?_eq_getElem hi35); cases hA35
      rw [show (domL h (allV h).length)[(i : Int).toNat] = ((domL h (allV h).length).getD i []) from getD_get (i := i) hi35 _] at el35
      obtain ⟨A3_35, c3_35, el35, ha3_35, hr3_35⟩ := kLI_open el35
      refine o_ixL E rfl rfl rfl T.l55 ⟨by omega, by omega⟩ ?_; clear E; intro a E
      exact ⟨_, _, Heap.le.refl _, ⟨rfl, [_], S, .inr ⟨(by show (Nat.beq 6 3 || f 6) = true; rw [hfa6]; rfl), _, E.get _ _ rfl, fun hq => absurd ((show f 7 = true from hq).symm.trans hfz7) (by decide), rfl⟩⟩, fun d hd => (by cases hd; exact E.get _ _ rfl), E.defers, rfl⟩
    ·intro a w G1 f hcl hfi hon hW E hp hO; obtain ⟨rfl, X6_, S, hX6⟩ := hW
     obtain ⟨_, e3, rfl⟩ := hp 3 38 _ (hon 3 rfl) rfl rfl; replace E := E.add e3
     have hfz7 : f 7 = false := by
      cases hq : f 7 with
      | false => rfl
      | true =>
       have hq := hcl 7 _ rfl hq 6 rfl
       have hq := hcl 6 _ rfl hq 5 rfl
       have hq := hcl 5 _ rfl hq 4 rfl
       rw [hfi] at hq; cases hq
     rcases hX6 with ⟨hfa6, rfl⟩ | ⟨hfa6, B41, hB6, hal7, rfl⟩
     ·simp only [List.nil_append] at S
      refine o_ldI E rfl S rfl T.s59 el33 (j := 0) rfl rfl ?_; clear E; intro a E
      exact ⟨_, _, Heap.le.refl _, ⟨rfl, [], S, .inl ⟨(by show (Nat.beq 6 4 || f 6) = false; rw [hfa6]; rfl), rfl⟩⟩, fun d hd => (by cases hd; exact E.get _ _ rfl), E.defers, rfl⟩
     ·replace E := E.add hB6; simp only [List.cons_append, List.nil_append] at S
      refine o_ldI E rfl S rfl T.s59 el33 (j := 0) rfl rfl ?_; clear E; intro a E
      exact ⟨_, _, Heap.le.refl _, ⟨rfl, [_], S, .inr ⟨(by show (Nat.beq 6 4 || f 6) = true; rw [hfa6]; rfl), _, E.get _ _ rfl, fun hq => absurd ((show f 7 = true from hq).symm.trans hfz7) (by decide), rfl⟩⟩, fun d hd => (by cases hd; exact E.get _ _ rfl), E.defers, rfl⟩
    ·intro a w G1 f hcl hfi hon hW E hp hO; obtain ⟨rfl, X6_, S, hX6⟩ := hW
     obtain ⟨_, e0, rfl⟩ := hp 0 35 _ (hon 0 rfl) rfl rfl; replace E := E.add e0
     obtain ⟨_, e4, rfl⟩ := hp 4 39 _ (hon 4 rfl) rfl rfl; replace E := E.add e4
     have hfz7 : f 7 = false := by
      cases hq : f 7 with
      | false => rfl
      | true =>
       have hq := hcl 7 _ rfl hq 6 rfl
       have hq := hcl 6 _ rfl hq 5 rfl
       rw [hfi] at hq; cases hq
     rcases hX6 with ⟨hfa6, rfl⟩ | ⟨hfa6, B41, hB6, hal7, rfl⟩
     ·simp only [List.nil_append] at S
      refine o_build (cs := #[.int .i64 b.pol.r0.way, .int .i64 b.pol.r0.size, .int .i64 b.pol.r1.way, .int .i64 b.pol.r1.size, .int .i64 b.pol.r2.way, .int .i64 b.pol.r2.size, .int .i64 b.pol.r3.way, .int .i64 b.pol.r3.size, .int .i64 b.pol.r4.way, .int .i64 b.pol.r4.size, .int .i64 b.pol.time, .int .i64 b.pol.note, .bool b.pol.loose, .bool b.pol.force, .slice Ae b.es.length ce, .slice Am b.ms.length cm, .slice Ar b.rs.length cr, .slice A3_33 (((domL h (allV h).length).getD i []).length) c3_33, .int .i64 0, .bool false]) E rfl rfl (by kernel_rfl) ?_; clear E; intro a E
      exact ⟨_, _, Heap.le.refl _, ⟨rfl, [], S, .inl ⟨(by show (Nat.beq 6 5 || f 6) = false; rw [hfa6]; rfl), rfl⟩⟩, fun d hd => (by cases hd; exact E.get _ _ rfl), E.defers, rfl⟩
     ·replace E := E.add hB6; simp only [List.cons_append, List.nil_append] at S
      refine o_build (cs := #[.int .i64 b.pol.r0.way, .int .i64 b.pol.r0.size, .int .i64 b.pol.r1.way, .int .i64 b.pol.r1.size, .int .i64 b.pol.r2.way, .int .i64 b.pol.r2.size, .int .i64 b.pol.r3.way, .int .i64 b.pol.r3.size, .int .i64 b.pol.r4.way, .int .i64 b.pol.r4.size, .int .i64 b.pol.time, .int .i64 b.pol.note, .bool b.pol.loose, .bool b.pol.force, .slice Ae b.es.length ce, .slice Am b.ms.length cm, .slice Ar b.rs.length cr, .slice A3_33 (((domL h (allV h).length).getD i []).length) c3_33, .int .i64 0, .bool false]) E rfl rfl (by kernel_rfl) ?_; clear E; intro a E
      exact ⟨_, _, Heap.le.refl _, ⟨rfl, [_], S, .inr ⟨(by show (Nat.beq 6 5 || f 6) = true; rw [hfa6]; rfl), _, E.get _ _ rfl, fun hq => absurd ((show f 7 = true from hq).symm.trans hfz7) (by decide), rfl⟩⟩, fun d hd => (by cases hd; exact E.get _ _ rfl), E.defers, rfl⟩
    ·intro a w G1 f hcl hfi hon hW E hp hO; obtain ⟨rfl, X6_, S, hX6⟩ := hW
     obtain ⟨_, e5, rfl⟩ := hp 5 40 _ (hon 5 rfl) rfl rfl; replace E := E.add e5
     have hfz7 : f 7 = false := by
      cases hq : f 7 with
      | false => rfl
      | true =>
       have hq := hcl 7 _ rfl hq 6 rfl
       rw [hfi] at hq; cases hq
     obtain ⟨_, rfl⟩ := hX6.resolve_right (fun h => by rw [hfi] at h; exact absurd h.1 (by decide)); simp only [List.nil_append] at S
     refine o_boxL [(0, _), (1, _), (2, _), (3, _), (4, _), (5, _), (6, _), (7, _), (8, _), (9, _), (10, _), (11, _), (12, _), (13, _), (14, _), (15, _), (16, _), (17, _), (18, _), (19, _)] E rfl S rfl ⟨rfl, rfl, rfl, rfl, rfl, rfl, rfl, rfl, rfl, rfl, rfl, rfl, rfl, rfl, rfl, rfl, rfl, rfl, rfl, rfl, trivial⟩ ?_; clear E S; intro B41 w a S E
     exact ⟨_, _, Heap.le.refl _, ⟨rfl, [_], S, .inr ⟨(by show (Nat.beq 6 6 || f 6) = true; rfl), _, E.get _ _ rfl, fun hq => absurd ((show f 7 = true from hq).symm.trans hfz7) (by decide), (by first | rfl | (simp only [updF]; rfl))⟩⟩, fun d hd => (by cases hd; exact E.get _ _ rfl), E.defers, trivial⟩
    ·intro a w G1 f hcl hfi hon hW E hp hO; obtain ⟨rfl, X6_, S, hX6⟩ := hW
     have hfa6 : f 6 = true := hon 6 rfl
     obtain ⟨_, B41, hB6, hal7, rfl⟩ := hX6.resolve_left (fun h => by rw [hfa6] at h; exact absurd h.1 (by decide)); replace E := E.add hB6; simp only [List.cons_append, List.nil_append] at S
     refine o_assign E rfl rfl ?_; clear E; intro a E
     exact ⟨_, _, Heap.le.refl _, ⟨rfl, [_], S, .inr ⟨(by show (Nat.beq 6 7 || f 6) = true; rw [hfa6]; rfl), _, E.get _ _ rfl, fun _ => E.get _ _ rfl, rfl⟩⟩, fun d hd => (by cases hd; exact E.get _ _ rfl), E.defers, trivial⟩
    clear E S; intro a w _ f hle36 hall HW E hp; obtain ⟨rfl, X6_, S, hX6⟩ := HW; clear hle36
    have hfa6 := hall 6 (by decide); obtain ⟨_, B41, hB6, hal7, rfl⟩ := hX6.resolve_left (fun h => by rw [hfa6] at h; exact absurd h.1 (by decide)); replace E := E.add hB6; clear hX6
    replace E := E.add (hal7 (hall 7 (by decide)))
    simp only [List.cons_append, List.nil_append, cond_true] at S
    clear hp hall
    refine hK31 _ _ ?_; clear hK31
    refine sr fun K hK => ?_
    refine rn 3 E S ?_; clear E S; intro a w E S
    apply hK; clear hK K
    refine sr fun K hK => ?_
    refine rn 3 E S ?_; clear E S; intro a w E S
    refine o_callMs [[(B41, Cells 61 (PC b [(14, .slice Ae b.es.length ce), (15, .slice Am b.ms.length cm), (16, .slice Ar b.rs.length cr), (17, .slice A3_33 (((domL h (allV h).length).getD i []).length) c3_33), (18, .int .i64 0), (19, .bool false)]))]] (R0 := [[(B10, Cells 52 [(0, .int .i64 ((h.getD i E0).time)), (1, .int .i64 ((h.getD i E0).client.k)), (2, .int .i64 ((h.getD i E0).client.n)), (3, str ((h.getD i E0).client.s)), (4, .int .i64 ((h.getD i E0).type)), (5, .int .i64 ((h.getD i E0).model)), (6, .int .i64 ((h.getD i E0).key.k)), (7, .int .i64 ((h.getD i E0).key.n)), (8, str ((h.getD i E0).key.s)), (9, .int .i64 ((h.getD i E0).op)), (10, .slice A1_29 ((h.getD i E0).args.length) c1_29), (11, .slice A2_29 ((h.getD i E0).out.length) c2_29), (12, .bool ((h.getD i E0).noted)), (13, str ((h.getD i E0).note))])], oC8_1, [(B7, Cells 39 [(0, .int .i64 ((checkS h).1)), (1, .int .i64 ((checkS h).2))])], [(B5, Cells 39 [(0, .int .i64 0), (1, .int .i64 0)])], [(B3, Cells 32 (PC b [(14, .slice Ae b.es.length ce), (15, .slice Am b.ms.length cm), (16, .slice Ar b.rs.length cr)]))]]) E rfl S rfl rfl T.g17 (c_rreal (M0 := [[(B10, Cells 52 [(0, .int .i64 ((h.getD i E0).time)), (1, .int .i64 ((h.getD i E0).client.k)), (2, .int .i64 ((h.getD i E0).client.n)), (3, str ((h.getD i E0).client.s)), (4, .int .i64 ((h.getD i E0).type)), (5, .int .i64 ((h.getD i E0).model)), (6, .int .i64 ((h.getD i E0).key.k)), (7, .int .i64 ((h.getD i E0).key.n)), (8, str ((h.getD i E0).key.s)), (9, .int .i64 ((h.getD i E0).op)), (10, .slice A1_29 ((h.getD i E0).args.length) c1_29), (11, .slice A2_29 ((h.getD i E0).out.length) c2_29), (12, .bool ((h.getD i E0).noted)), (13, str ((h.getD i E0).note))])], oC8_1, [(B7, Cells 39 [(0, .int .i64 ((checkS h).1)), (1, .int .i64 ((checkS h).2))])], [(B5, Cells 39 [(0, .int .i64 0), (1, .int .i64 0)])], [(B3, Cells 32 (PC b [(14, .slice Ae b.es.length ce), (15, .slice Am b.ms.length cm), (16, .slice Ar b.rs.length cr)]))]]) b _ _ _ _ _ _ ((domL h (allV h).length).getD i []) _ _ 0 false B41 ((h.getD i E0).client) _ _ S hRe hRm hRr hle hlm hlr hr3_33 (by omega) hpm9 hds9) ?_
    clear E S; rintro _ G38 _ w a S hle38 ⟨rfl, lo38, rfl, hlo38⟩ E
    replace S := S.unflat; simp only [List.cons_append, List.nil_append] at S
    replace hg0 := hg0.le hle38
    replace hg1 := hg1.le hle38
    replace hR := hR.le hle38
    replace hRe := hRe.le hle38
    replace hRm := hRm.le hle38
    replace hRr := hRr.le hle38
    replace hR2 := hR2.le hle38
    replace hr1_29 := hr1_29.le hle38
    replace hr2_29 := hr2_29.le hle38
    replace hr3_33 := hr3_33.le hle38
    replace oH8_1 := oH8_1.le hle38
    refine rn 2 E S ?_; clear E S; intro a w E S
    apply hK; clear hK K
    refine wp_seq_k (fun K41 hK40 => ?_)
    refine sr fun K hK => ?_
    refine rn 3 E S ?_; clear E S; intro a w E S
    apply hK; clear hK K
    refine cond E rfl (fun h43r => ?_) (fun h43r => ?_)
    ·have h43 := nm h43r
     refine wp_region_lit ?_
     refine rn 3 E S ?_; clear E S; intro a w E S
     refine o_callMs [[(B41, Cells 61 (PC b [(14, .slice Ae b.es.length ce), (15, .slice Am b.ms.length cm), (16, .slice Ar b.rs.length cr), (17, .slice A3_33 (((domL h (allV h).length).getD i []).length) c3_33), (18, .int .i64 ((0 + 1 : Nat) : Int)), (19, .bool lo38)]))]] (R0 := [[(B10, Cells 52 [(0, .int .i64 ((h.getD i E0).time)), (1, .int .i64 ((oneS b (((domL h (allV h).length).getD i []).getD 0 0) ((h.getD i E0).client)).1.k)), (2, .int .i64 ((oneS b (((domL h (allV h).length).getD i []).getD 0 0) ((h.getD i E0).client)).1.n)), (3, str ((oneS b (((domL h (allV h).length).getD i []).getD 0 0) ((h.getD i E0).client)).1.s)), (4, .int .i64 ((h.getD i E0).type)), (5, .int .i64 ((h.getD i E0).model)), (6, .int .i64 ((h.getD i E0).key.k)), (7, .int .i64 ((h.getD i E0).key.n)), (8, str ((h.getD i E0).key.s)), (9, .int .i64 ((h.getD i E0).op)), (10, .slice A1_29 ((h.getD i E0).args.length) c1_29), (11, .slice A2_29 ((h.getD i E0).out.length) c2_29), (12, .bool ((h.getD i E0).noted)), (13, str ((h.getD i E0).note))])], oC8_1, [(B7, Cells 39 [(0, .int .i64 ((checkS h).1)), (1, .int .i64 ((checkS h).2))])], [(B5, Cells 39 [(0, .int .i64 0), (1, .int .i64 0)])], [(B3, Cells 32 (PC b [(14, .slice Ae b.es.length ce), (15, .slice Am b.ms.length cm), (16, .slice Ar b.rs.length cr)]))]]) E rfl S rfl rfl T.g17 (c_rreal (M0 := [[(B10, Cells 52 [(0, .int .i64 ((h.getD i E0).time)), (1, .int .i64 ((oneS b (((domL h (allV h).length).getD i []).getD 0 0) ((h.getD i E0).client)).1.k)), (2, .int .i64 ((oneS b (((domL h (allV h).length).getD i []).getD 0 0) ((h.getD i E0).client)).1.n)), (3, str ((oneS b (((domL h (allV h).length).getD i []).getD 0 0) ((h.getD i E0).client)).1.s)), (4, .int .i64 ((h.getD i E0).type)), (5, .int .i64 ((h.getD i E0).model)), (6, .int .i64 ((h.getD i E0).key.k)), (7, .int .i64 ((h.getD i E0).key.n)), (8, str ((h.getD i E0).key.s)), (9, .int .i64 ((h.getD i E0).op)), (10, .slice A1_29 ((h.getD i E0).args.length) c1_29), (11, .slice A2_29 ((h.getD i E0).out.length) c2_29), (12, .bool ((h.getD i E0).noted)), (13, str ((h.getD i E0).note))])], oC8_1, [(B7, Cells 39 [(0, .int .i64 ((checkS h).1)), (1, .int .i64 ((checkS h).2))])], [(B5, Cells 39 [(0, .int .i64 0), (1, .int .i64 0)])], [(B3, Cells 32 (PC b [(14, .slice Ae b.es.length ce), (15, .slice Am b.ms.length cm), (16, .slice Ar b.rs.length cr)]))]]) b _ _ _ _ _ _ ((domL h (allV h).length).getD i []) _ _ (0 + 1) lo38 B41 ((h.getD i E0).key) _ _ S hRe hRm hRr hle hlm hlr hr3_33 (by omega) hpm9 hds9) ?_
     clear E S; rintro _ G44 _ w a S hle44 ⟨rfl, lo44, rfl, hlo44⟩ E
     replace S := S.unflat; simp only [List.cons_append, List.nil_append] at S
     replace hg0 := hg0.le hle44
     replace hg1 := hg1.le hle44
     replace hR := hR.le hle44
     replace hRe := hRe.le hle44
     replace hRm := hRm.le hle44
     replace hRr := hRr.le hle44
     replace hR2 := hR2.le hle44
     replace hr1_29 := hr1_29.le hle44
     replace hr2_29 := hr2_29.le hle44
     replace hr3_33 := hr3_33.le hle44
     replace oH8_1 := oH8_1.le hle44
     refine rn 2 E S ?_; clear E S; intro a w E S
     refine hK40 _ _ ?_; clear hK40
     refine sr fun K hK => ?_
     refine rn 3 E S ?_; clear E S; intro a w E S
     refine o_callMs [[(B41, Cells 61 (PC b [(14, .slice Ae b.es.length ce), (15, .slice Am b.ms.length cm), (16, .slice Ar b.rs.length cr), (17, .slice A3_33 (((domL h (allV h).length).getD i []).length) c3_33), (18, .int .i64 ((0 + 1 + 1 : Nat) : Int)), (19, .bool lo44)]))]] (R0 := [[(B10, Cells 52 [(0, .int .i64 ((h.getD i E0).time)), (1, .int .i64 ((oneS b (((domL h (allV h).length).getD i []).getD 0 0) ((h.getD i E0).client)).1.k)), (2, .int .i64 ((oneS b (((domL h (allV h).length).getD i []).getD 0 0) ((h.getD i E0).client)).1.n)), (3, str ((oneS b (((domL h (allV h).length).getD i []).getD 0 0) ((h.getD i E0).client)).1.s)), (4, .int .i64 ((h.getD i E0).type)), (5, .int .i64 ((h.getD i E0).model)), (6, .int .i64 ((oneS b (((domL h (allV h).length).getD i []).getD (0 + 1) 0) ((h.getD i E0).key)).1.k)), (7, .int .i64 ((oneS b (((domL h (allV h).length).getD i []).getD (0 + 1) 0) ((h.getD i E0).key)).1.n)), (8, str ((oneS b (((domL h (allV h).length).getD i []).getD (0 + 1) 0) ((h.getD i E0).key)).1.s)), (9, .int .i64 ((h.getD i E0).op)), (10, .slice A1_29 ((h.getD i E0).args.length) c1_29), (11, .slice A2_29 ((h.getD i E0).out.length) c2_29), (12, .bool ((h.getD i E0).noted)), (13, str ((h.getD i E0).note))])], oC8_1, [(B7, Cells 39 [(0, .int .i64 ((checkS h).1)), (1, .int .i64 ((checkS h).2))])], [(B5, Cells 39 [(0, .int .i64 0), (1, .int .i64 0)])], [(B3, Cells 32 (PC b [(14, .slice Ae b.es.length ce), (15, .slice Am b.ms.length cm), (16, .slice Ar b.rs.length cr)]))]]) E rfl S rfl rfl T.g18 (c_mapped (M0 := [[(B10, Cells 52 [(0, .int .i64 ((h.getD i E0).time)), (1, .int .i64 ((oneS b (((domL h (allV h).length).getD i []).getD 0 0) ((h.getD i E0).client)).1.k)), (2, .int .i64 ((oneS b (((domL h (allV h).length).getD i []).getD 0 0) ((h.getD i E0).client)).1.n)), (3, str ((oneS b (((domL h (allV h).length).getD i []).getD 0 0) ((h.getD i E0).client)).1.s)), (4, .int .i64 ((h.getD i E0).type)), (5, .int .i64 ((h.getD i E0).model)), (6, .int .i64 ((oneS b (((domL h (allV h).length).getD i []).getD (0 + 1) 0) ((h.getD i E0).key)).1.k)), (7, .int .i64 ((oneS b (((domL h (allV h).length).getD i []).getD (0 + 1) 0) ((h.getD i E0).key)).1.n)), (8, str ((oneS b (((domL h (allV h).length).getD i []).getD (0 + 1) 0) ((h.getD i E0).key)).1.s)), (9, .int .i64 ((h.getD i E0).op)), (10, .slice A1_29 ((h.getD i E0).args.length) c1_29), (11, .slice A2_29 ((h.getD i E0).out.length) c2_29), (12, .bool ((h.getD i E0).noted)), (13, str ((h.getD i E0).note))])], oC8_1, [(B7, Cells 39 [(0, .int .i64 ((checkS h).1)), (1, .int .i64 ((checkS h).2))])], [(B5, Cells 39 [(0, .int .i64 0), (1, .int .i64 0)])], [(B3, Cells 32 (PC b [(14, .slice Ae b.es.length ce), (15, .slice Am b.ms.length cm), (16, .slice Ar b.rs.length cr)]))]]) b _ _ _ _ _ _ ((domL h (allV h).length).getD i []) _ _ (0 + 1 + 1) lo44 B41 ((h.getD i E0).args) _ _ _ _ S hRe hRm hRr hle hlm hlr hr3_33 hr1_29 (by omega) (by omega) hpm9 hds9) ?_
     clear E S; rintro _ G45 _ w a S hle45 ⟨⟨vA45, vc45, rfl, hcp45, hR45⟩, lo45, rfl, hlo45⟩ E
     replace S := S.unflat; simp only [List.cons_append, List.nil_append] at S
     replace hg0 := hg0.le hle45
     replace hg1 := hg1.le hle45
     replace hR := hR.le hle45
     replace hRe := hRe.le hle45
     replace hRm := hRm.le hle45
     replace hRr := hRr.le hle45
     replace hR2 := hR2.le hle45
     replace hr1_29 := hr1_29.le hle45
     replace hr2_29 := hr2_29.le hle45
     replace hr3_33 := hr3_33.le hle45
     replace oH8_1 := oH8_1.le hle45
     refine rn 2 E S ?_; clear E S; intro a w E S
     apply hK; clear hK K
     refine sr fun K hK => ?_
     refine rn 3 E S ?_; clear E S; intro a w E S
     refine o_callMs [[(B41, Cells 61 (PC b [(14, .slice Ae b.es.length ce), (15, .slice Am b.ms.length cm), (16, .slice Ar b.rs.length cr), (17, .slice A3_33 (((domL h (allV h).length).getD i []).length) c3_33), (18, .int .i64 ((0 + 1 + 1 + ((h.getD i E0).args).length : Nat) : Int)), (19, .bool lo45)]))]] (R0 := [[(B10, Cells 52 [(0, .int .i64 ((h.getD i E0).time)), (1, .int .i64 ((oneS b (((domL h (allV h).length).getD i []).getD 0 0) ((h.getD i E0).client)).1.k)), (2, .int .i64 ((oneS b (((domL h (allV h).length).getD i []).getD 0 0) ((h.getD i E0).client)).1.n)), (3, str ((oneS b (((domL h (allV h).length).getD i []).getD 0 0) ((h.getD i E0).client)).1.s)), (4, .int .i64 ((h.getD i E0).type)), (5, .int .i64 ((h.getD i E0).model)), (6, .int .i64 ((oneS b (((domL h (allV h).length).getD i []).getD (0 + 1) 0) ((h.getD i E0).key)).1.k)), (7, .int .i64 ((oneS b (((domL h (allV h).length).getD i []).getD (0 + 1) 0) ((h.getD i E0).key)).1.n)), (8, str ((oneS b (((domL h (allV h).length).getD i []).getD (0 + 1) 0) ((h.getD i E0).key)).1.s)), (9, .int .i64 ((h.getD i E0).op)), (10, .slice vA45 ((mapF b ((domL h (allV h).length).getD i []) (0 + 1 + 1) ((h.getD i E0).args)).length) vc45), (11, .slice A2_29 ((h.getD i E0).out.length) c2_29), (12, .bool ((h.getD i E0).noted)), (13, str ((h.getD i E0).note))])], oC8_1, [(B7, Cells 39 [(0, .int .i64 ((checkS h).1)), (1, .int .i64 ((checkS h).2))])], [(B5, Cells 39 [(0, .int .i64 0), (1, .int .i64 0)])], [(B3, Cells 32 (PC b [(14, .slice Ae b.es.length ce), (15, .slice Am b.ms.length cm), (16, .slice Ar b.rs.length cr)]))]]) E rfl S rfl rfl T.g18 (c_mapped (M0 := [[(B10, Cells 52 [(0, .int .i64 ((h.getD i E0).time)), (1, .int .i64 ((oneS b (((domL h (allV h).length).getD i []).getD 0 0) ((h.getD i E0).client)).1.k)), (2, .int .i64 ((oneS b (((domL h (allV h).length).getD i []).getD 0 0) ((h.getD i E0).client)).1.n)), (3, str ((oneS b (((domL h (allV h).length).getD i []).getD 0 0) ((h.getD i E0).client)).1.s)), (4, .int .i64 ((h.getD i E0).type)), (5, .int .i64 ((h.getD i E0).model)), (6, .int .i64 ((oneS b (((domL h (allV h).length).getD i []).getD (0 + 1) 0) ((h.getD i E0).key)).1.k)), (7, .int .i64 ((oneS b (((domL h (allV h).length).getD i []).getD (0 + 1) 0) ((h.getD i E0).key)).1.n)), (8, str ((oneS b (((domL h (allV h).length).getD i []).getD (0 + 1) 0) ((h.getD i E0).key)).1.s)), (9, .int .i64 ((h.getD i E0).op)), (10, .slice vA45 ((mapF b ((domL h (allV h).length).getD i []) (0 + 1 + 1) ((h.getD i E0).args)).length) vc45), (11, .slice A2_29 ((h.getD i E0).out.length) c2_29), (12, .bool ((h.getD i E0).noted)), (13, str ((h.getD i E0).note))])], oC8_1, [(B7, Cells 39 [(0, .int .i64 ((checkS h).1)), (1, .int .i64 ((checkS h).2))])], [(B5, Cells 39 [(0, .int .i64 0), (1, .int .i64 0)])], [(B3, Cells 32 (PC b [(14, .slice Ae b.es.length ce), (15, .slice Am b.ms.length cm), (16, .slice Ar b.rs.length cr)]))]]) b _ _ _ _ _ _ ((domL h (allV h).length).getD i []) _ _ (0 + 1 + 1 + ((h.getD i E0).args).length) lo45 B41 ((h.getD i E0).out) _ _ _ _ S hRe hRm hRr hle hlm hlr hr3_33 hr2_29 (by omega) (by omega) hpm9 hds9) ?_
     clear E S; rintro _ G47 _ w a S hle47 ⟨⟨vA47, vc47, rfl, hcp47, hR47⟩, lo47, rfl, hlo47⟩ E
     replace S := S.unflat; simp only [List.cons_append, List.nil_append] at S
     replace hg0 := hg0.le hle47
     replace hg1 := hg1.le hle47
     replace hR := hR.le hle47
     replace hRe := hRe.le hle47
     replace hRm := hRm.le hle47
     replace hRr := hRr.le hle47
     replace hR2 := hR2.le hle47
     replace hr1_29 := hr1_29.le hle47
     replace hr2_29 := hr2_29.le hle47
     replace hr3_33 := hr3_33.le hle47
     replace hR45 := hR45.le hle47
     replace oH8_1 := oH8_1.le hle47
     refine rn 2 E S ?_; clear E S; intro a w E S
     apply hK; clear hK K
     refine sr fun K hK => ?_
     refine rn 3 E S ?_; clear E S; intro a w E S
     refine o_callMs [[(B41, Cells 61 (PC b [(14, .slice Ae b.es.length ce), (15, .slice Am b.ms.length cm), (16, .slice Ar b.rs.length cr), (17, .slice A3_33 (((domL h (allV h).length).getD i []).length) c3_33), (18, .int .i64 ((0 + 1 + 1 + ((h.getD i E0).args).length + ((h.getD i E0).out).length : Nat) : Int)), (19, .bool lo47)]))]] (R0 := [[(B10, Cells 52 [(0, .int .i64 ((h.getD i E0).time)), (1, .int .i64 ((oneS b (((domL h (allV h).length).getD i []).getD 0 0) ((h.getD i E0).client)).1.k)), (2, .int .i64 ((oneS b (((domL h (allV h).length).getD i []).getD 0 0) ((h.getD i E0).client)).1.n)), (3, str ((oneS b (((domL h (allV h).length).getD i []).getD 0 0) ((h.getD i E0).client)).1.s)), (4, .int .i64 ((h.getD i E0).type)), (5, .int .i64 ((h.getD i E0).model)), (6, .int .i64 ((oneS b (((domL h (allV h).length).getD i []).getD (0 + 1) 0) ((h.getD i E0).key)).1.k)), (7, .int .i64 ((oneS b (((domL h (allV h).length).getD i []).getD (0 + 1) 0) ((h.getD i E0).key)).1.n)), (8, str ((oneS b (((domL h (allV h).length).getD i []).getD (0 + 1) 0) ((h.getD i E0).key)).1.s)), (9, .int .i64 ((h.getD i E0).op)), (10, .slice vA45 ((mapF b ((domL h (allV h).length).getD i []) (0 + 1 + 1) ((h.getD i E0).args)).length) vc45), (11, .slice vA47 ((mapF b ((domL h (allV h).length).getD i []) (0 + 1 + 1 + ((h.getD i E0).args).length) ((h.getD i E0).out)).length) vc47), (12, .bool ((h.getD i E0).noted)), (13, str ((h.getD i E0).note))])], oC8_1, [(B7, Cells 39 [(0, .int .i64 ((checkS h).1)), (1, .int .i64 ((checkS h).2))])], [(B5, Cells 39 [(0, .int .i64 0), (1, .int .i64 0)])], [(B3, Cells 32 (PC b [(14, .slice Ae b.es.length ce), (15, .slice Am b.ms.length cm), (16, .slice Ar b.rs.length cr)]))]]) E rfl S rfl rfl T.g19 (c_rtime (M0 := [[(B10, Cells 52 [(0, .int .i64 ((h.getD i E0).time)), (1, .int .i64 ((oneS b (((domL h (allV h).length).getD i []).getD 0 0) ((h.getD i E0).client)).1.k)), (2, .int .i64 ((oneS b (((domL h (allV h).length).getD i []).getD 0 0) ((h.getD i E0).client)).1.n)), (3, str ((oneS b (((domL h (allV h).length).getD i []).getD 0 0) ((h.getD i E0).client)).1.s)), (4, .int .i64 ((h.getD i E0).type)), (5, .int .i64 ((h.getD i E0).model)), (6, .int .i64 ((oneS b (((domL h (allV h).length).getD i []).getD (0 + 1) 0) ((h.getD i E0).key)).1.k)), (7, .int .i64 ((oneS b (((domL h (allV h).length).getD i []).getD (0 + 1) 0) ((h.getD i E0).key)).1.n)), (8, str ((oneS b (((domL h (allV h).length).getD i []).getD (0 + 1) 0) ((h.getD i E0).key)).1.s)), (9, .int .i64 ((h.getD i E0).op)), (10, .slice vA45 ((mapF b ((domL h (allV h).length).getD i []) (0 + 1 + 1) ((h.getD i E0).args)).length) vc45), (11, .slice vA47 ((mapF b ((domL h (allV h).length).getD i []) (0 + 1 + 1 + ((h.getD i E0).args).length) ((h.getD i E0).out)).length) vc47), (12, .bool ((h.getD i E0).noted)), (13, str ((h.getD i E0).note))])], oC8_1, [(B7, Cells 39 [(0, .int .i64 ((checkS h).1)), (1, .int .i64 ((checkS h).2))])], [(B5, Cells 39 [(0, .int .i64 0), (1, .int .i64 0)])], [(B3, Cells 32 (PC b [(14, .slice Ae b.es.length ce), (15, .slice Am b.ms.length cm), (16, .slice Ar b.rs.length cr)]))]]) b _ _ _ _ _ _ ((domL h (allV h).length).getD i []) _ _ (0 + 1 + 1 + ((h.getD i E0).args).length + ((h.getD i E0).out).length) lo47 B41 ((h.getD i E0).time) _ _ S hRe hRm hRr hle hlm hlr hr3_33) ?_
     clear E S; rintro _ G49 _ w a S hle49 ⟨rfl, lo49, rfl, hlo49⟩ E
     replace S := S.unflat; simp only [List.cons_append, List.nil_append] at S
     replace hg0 := hg0.le hle49
     replace hg1 := hg1.le hle49
     replace hR := hR.le hle49
     replace hRe := hRe.le hle49
     replace hRm := hRm.le hle49
     replace hRr := hRr.le hle49
     replace hR2 := hR2.le hle49
     replace hr1_29 := hr1_29.le hle49
     replace hr2_29 := hr2_29.le hle49
     replace hr3_33 := hr3_33.le hle49
     replace hR45 := hR45.le hle49
     replace hR47 := hR47.le hle49
     replace oH8_1 := oH8_1.le hle49
     refine rn 2 E S ?_; clear E S; intro a w E S
     apply hK; clear hK K
     refine sr fun K hK => ?_
     refine rn 3 E S ?_; clear E S; intro a w E S
     replace S := S.front (C := [(B10, Cells 52 [(0, .int .i64 ((timeS b ((h.getD i E0).time)).1)), (1, .int .i64 ((oneS b (((domL h (allV h).length).getD i []).getD 0 0) ((h.getD i E0).client)).1.k)), (2, .int .i64 ((oneS b (((domL h (allV h).length).getD i []).getD 0 0) ((h.getD i E0).client)).1.n)), (3, str ((oneS b (((domL h (allV h).length).getD i []).getD 0 0) ((h.getD i E0).client)).1.s)), (4, .int .i64 ((h.getD i E0).type)), (5, .int .i64 ((h.getD i E0).model)), (6, .int .i64 ((oneS b (((domL h (allV h).length).getD i []).getD (0 + 1) 0) ((h.getD i E0).key)).1.k)), (7, .int .i64 ((oneS b (((domL h (allV h).length).getD i []).getD (0 + 1) 0) ((h.getD i E0).key)).1.n)), (8, str ((oneS b (((domL h (allV h).length).getD i []).getD (0 + 1) 0) ((h.getD i E0).key)).1.s)), (9, .int .i64 ((h.getD i E0).op)), (10, .slice vA45 ((mapF b ((domL h (allV h).length).getD i []) (0 + 1 + 1) ((h.getD i E0).args)).length) vc45), (11, .slice vA47 ((mapF b ((domL h (allV h).length).getD i []) (0 + 1 + 1 + ((h.getD i E0).args).length) ((h.getD i E0).out)).length) vc47), (12, .bool ((h.getD i E0).noted)), (13, str ((h.getD i E0).note))])]) (.there .here)
     replace S := S.front (C := [(B41, Cells 61 (PC b [(14, .slice Ae b.es.length ce), (15, .slice Am b.ms.length cm), (16, .slice Ar b.rs.length cr), (17, .slice A3_33 (((domL h (allV h).length).getD i []).length) c3_33), (18, .int .i64 ((0 + 1 + 1 + ((h.getD i E0).args).length + ((h.getD i E0).out).length : Nat) : Int)), (19, .bool lo49)]))]) (.there .here)
     refine o_callMs [[(B41, Cells 61 (PC b [(14, .slice Ae b.es.length ce), (15, .slice Am b.ms.length cm), (16, .slice Ar b.rs.length cr), (17, .slice A3_33 (((domL h (allV h).length).getD i []).length) c3_33), (18, .int .i64 ((0 + 1 + 1 + ((h.getD i E0).args).length + ((h.getD i E0).out).length : Nat) : Int)), (19, .bool lo49)]))], [(B10, Cells 52 [(0, .int .i64 ((timeS b ((h.getD i E0).time)).1)), (1, .int .i64 ((oneS b (((domL h (allV h).length).getD i []).getD 0 0) ((h.getD i E0).client)).1.k)), (2, .int .i64 ((oneS b (((domL h (allV h).length).getD i []).getD 0 0) ((h.getD i E0).client)).1.n)), (3, str ((oneS b (((domL h (allV h).length).getD i []).getD 0 0) ((h.getD i E0).client)).1.s)), (4, .int .i64 ((h.getD i E0).type)), (5, .int .i64 ((h.getD i E0).model)), (6, .int .i64 ((oneS b (((domL h (allV h).length).getD i []).getD (0 + 1) 0) ((h.getD i E0).key)).1.k)), (7, .int .i64 ((oneS b (((domL h (allV h).length).getD i []).getD (0 + 1) 0) ((h.getD i E0).key)).1.n)), (8, str ((oneS b (((domL h (allV h).length).getD i []).getD (0 + 1) 0) ((h.getD i E0).key)).1.s)), (9, .int .i64 ((h.getD i E0).op)), (10, .slice vA45 ((mapF b ((domL h (allV h).length).getD i []) (0 + 1 + 1) ((h.getD i E0).args)).length) vc45), (11, .slice vA47 ((mapF b ((domL h (allV h).length).getD i []) (0 + 1 + 1 + ((h.getD i E0).args).length) ((h.getD i E0).out)).length) vc47), (12, .bool ((h.getD i E0).noted)), (13, str ((h.getD i E0).note))])]] (R0 := [oC8_1, [(B7, Cells 39 [(0, .int .i64 ((checkS h).1)), (1, .int .i64 ((checkS h).2))])], [(B5, Cells 39 [(0, .int .i64 0), (1, .int .i64 0)])], [(B3, Cells 32 (PC b [(14, .slice Ae b.es.length ce), (15, .slice Am b.ms.length cm), (16, .slice Ar b.rs.length cr)]))]]) E rfl S rfl rfl T.g20 (c_rnote (M0 := [oC8_1, [(B7, Cells 39 [(0, .int .i64 ((checkS h).1)), (1, .int .i64 ((checkS h).2))])], [(B5, Cells 39 [(0, .int .i64 0), (1, .int .i64 0)])], [(B3, Cells 32 (PC b [(14, .slice Ae b.es.length ce), (15, .slice Am b.ms.length cm), (16, .slice Ar b.rs.length cr)]))]]) b _ _ _ _ _ _ ((domL h (allV h).length).getD i []) _ _ (0 + 1 + 1 + ((h.getD i E0).args).length + ((h.getD i E0).out).length) lo49 B41 (⟨(timeS b ((h.getD i E0).time)).1, ((oneS b (((domL h (allV h).length).getD i []).getD 0 0) ((h.getD i E0).client)).1), (h.getD i E0).type, (h.getD i E0).model, ((oneS b (((domL h (allV h).length).getD i []).getD (0 + 1) 0) ((h.getD i E0).key)).1), (h.getD i E0).op, (mapF b ((domL h (allV h).length).getD i []) (0 + 1 + 1) ((h.getD i E0).args)), (mapF b ((domL h (allV h).length).getD i []) (0 + 1 + 1 + ((h.getD i E0).args).length) ((h.getD i E0).out)), (h.getD i E0).noted, (h.getD i E0).note⟩ : Evt) _ _ _ _ B10 ((i : Int) + 1) _ _ S hRe hRm hRr hle hlm hlr hr3_33) ?_
     clear E S; rintro _ G51 _ w a S hle51 ⟨rfl, rfl⟩ E
     replace S := S.unflat; simp only [List.cons_append, List.nil_append] at S
     replace hg0 := hg0.le hle51
     replace hg1 := hg1.le hle51
     replace hR := hR.le hle51
     replace hRe := hRe.le hle51
     replace hRm := hRm.le hle51
     replace hRr := hRr.le hle51
     replace hR2 := hR2.le hle51
     replace hr1_29 := hr1_29.le hle51
     replace hr2_29 := hr2_29.le hle51
     replace hr3_33 := hr3_33.le hle51
     replace hR45 := hR45.le hle51
     replace hR47 := hR47.le hle51
     replace oH8_1 := oH8_1.le hle51
     apply hK; clear hK K
     refine wp_seq_k (fun K54 hK53 => ?_)
     refine sr fun K hK => ?_
     refine rn 4 E S ?_; clear E S; intro a w E S
     apply hK; clear hK K
     refine cond E rfl (fun h56r => ?_) (fun h56r => ?_)
     ·have h56 := nm h56r
      refine sr fun K hK => ?_
      refine rn 2 E S ?_; clear E S; intro a w E S
      refine o_build (cs := #[.int .i64 12, .int .i64 ((i : Int) + 1)]) E rfl rfl (by kernel_rfl) ?_; clear E; intro a E
      refine rn 2 E S ?_; clear E S; intro a w E S
      apply hK; clear hK K
      refine rt hQ E S ?_
      have hok9 : okU b (domsE h i) (h.getD i E0) = !lo49 := by
       rw [← hdm]
       unfold okU offK
       rw [if_pos (by simpa using h43), if_pos (by simpa using h43), hlo49, hlo47, hlo45, hlo44, hlo38]
       (simp only [Bool.not_or, Bool.not_not, Bool.not_false, Bool.true_and, Bool.and_true]; try rfl)
      have he : unveilS h b = ([], 12, (i : Int) + 1) := unveil_bad hc0 hbk0 (by omega) hall (by rw [hok9, h56r]; rfl)
      rw [he]
      exact ⟨_, _, rfl, Nat.le_refl _, .nil⟩
     ·have h56 := nm h56r
      refine wp_skip ?_
      refine hK53 _ _ ?_; clear hK53
      refine wp_region_lit ?_
      have hul := uevL_len h b i
      refine rn 2 E S ?_; clear E S; intro a w E S
      refine o_buildSl (cs := #[.int .i64 ((timeS b ((h.getD i E0).time)).1), .int .i64 ((oneS b (((domL h (allV h).length).getD i []).getD 0 0) ((h.getD i E0).client)).1.k), .int .i64 ((oneS b (((domL h (allV h).length).getD i []).getD 0 0) ((h.getD i E0).client)).1.n), str ((oneS b (((domL h (allV h).length).getD i []).getD 0 0) ((h.getD i E0).client)).1.s), .int .i64 ((h.getD i E0).type), .int .i64 ((h.getD i E0).model), .int .i64 ((oneS b (((domL h (allV h).length).getD i []).getD (0 + 1) 0) ((h.getD i E0).key)).1.k), .int .i64 ((oneS b (((domL h (allV h).length).getD i []).getD (0 + 1) 0) ((h.getD i E0).key)).1.n), str ((oneS b (((domL h (allV h).length).getD i []).getD (0 + 1) 0) ((h.getD i E0).key)).1.s), .int .i64 ((h.getD i E0).op), .slice vA45 ((mapF b ((domL h (allV h).length).getD i []) (0 + 1 + 1) ((h.getD i E0).args)).length) vc45, .slice vA47 ((mapF b ((domL h (allV h).length).getD i []) (0 + 1 + 1 + ((h.getD i E0).args).length) ((h.getD i E0).out)).length) vc47, .bool ((rnoteS b ((i : Int) + 1) (⟨(timeS b ((h.getD i E0).time)).1, ((oneS b (((domL h (allV h).length).getD i []).getD 0 0) ((h.getD i E0).client)).1), (h.getD i E0).type, (h.getD i E0).model, ((oneS b (((domL h (allV h).length).getD i []).getD (0 + 1) 0) ((h.getD i E0).key)).1), (h.getD i E0).op, (mapF b ((domL h (allV h).length).getD i []) (0 + 1 + 1) ((h.getD i E0).args)), (mapF b ((domL h (allV h).length).getD i []) (0 + 1 + 1 + ((h.getD i E0).args).length) ((h.getD i E0).out)), (h.getD i E0).noted, (h.getD i E0).note⟩ : Evt)).1), str ((rnoteS b ((i : Int) + 1) (⟨(timeS b ((h.getD i E0).time)).1, ((oneS b (((domL h (allV h).length).getD i []).getD 0 0) ((h.getD i E0).client)).1), (h.getD i E0).type, (h.getD i E0).model, ((oneS b (((domL h (allV h).length).getD i []).getD (0 + 1) 0) ((h.getD i E0).key)).1), (h.getD i E0).op, (mapF b ((domL h (allV h).length).getD i []) (0 + 1 + 1) ((h.getD i E0).args)), (mapF b ((domL h (allV h).length).getD i []) (0 + 1 + 1 + ((h.getD i E0).args).length) ((h.getD i E0).out)), (h.getD i E0).noted, (h.getD i E0).note⟩ : Evt)).2)]) [(0, _), (1, _), (2, _), (3, _), (4, _), (5, _), (6, _), (7, _), (8, _), (9, _), (10, _), (11, _), (12, _), (13, _)] E rfl S rfl T.l22 (by kernel_rfl) ⟨rfl, rfl, rfl, rfl, rfl, rfl, rfl, rfl, rfl, rfl, rfl, rfl, rfl, rfl, trivial⟩ ?_; clear E S; intro B85 w a S E
      refine o_appendL (K := kEvt) (ys := [(⟨(timeS b ((h.getD i E0).time)).1, ((oneS b (((domL h (allV h).length).getD i []).getD 0 0) ((h.getD i E0).client)).1), (h.getD i E0).type, (h.getD i E0).model, ((oneS b (((domL h (allV h).length).getD i []).getD (0 + 1) 0) ((h.getD i E0).key)).1), (h.getD i E0).op, (mapF b ((domL h (allV h).length).getD i []) (0 + 1 + 1) ((h.getD i E0).args)), (mapF b ((domL h (allV h).length).getD i []) (0 + 1 + 1 + ((h.getD i E0).args).length) ((h.getD i E0).out)), (rnoteS b ((i : Int) + 1) (⟨(timeS b ((h.getD i E0).time)).1, ((oneS b (((domL h (allV h).length).getD i []).getD 0 0) ((h.getD i E0).client)).1), (h.getD i E0).type, (h.getD i E0).model, ((oneS b (((domL h (allV h).length).getD i []).getD (0 + 1) 0) ((h.getD i E0).key)).1), (h.getD i E0).op, (mapF b ((domL h (allV h).length).getD i []) (0 + 1 + 1) ((h.getD i E0).args)), (mapF b ((domL h (allV h).length).getD i []) (0 + 1 + 1 + ((h.getD i E0).args).length) ((h.getD i E0).out)), (h.getD i E0).noted, (h.getD i E0).note⟩ : Evt)).1, (rnoteS b ((i : Int) + 1) (⟨(timeS b ((h.getD i E0).time)).1, ((oneS b (((domL h (allV h).length).getD i []).getD 0 0) ((h.getD i E0).client)).1), (h.getD i E0).type, (h.getD i E0).model, ((oneS b (((domL h (allV h).length).getD i []).getD (0 + 1) 0) ((h.getD i E0).key)).1), (h.getD i E0).op, (mapF b ((domL h (allV h).length).getD i []) (0 + 1 + 1) ((h.getD i E0).args)), (mapF b ((domL h (allV h).length).getD i []) (0 + 1 + 1 + ((h.getD i E0).args).length) ((h.getD i E0).out)), (h.getD i E0).noted, (h.getD i E0).note⟩ : Evt)).2⟩ : Evt)]) (n := 14) E rfl S (.there (.there (.there .here))) oH8_1 rfl rfl T.p22 (.here .here) rfl ⟨kEvt_mk (⟨(timeS b ((h.getD i E0).time)).1, ((oneS b (((domL h (allV h).length).getD i []).getD 0 0) ((h.getD i E0).client)).1), (h.getD i E0).type, (h.getD i E0).model, ((oneS b (((domL h (allV h).length).getD i []).getD (0 + 1) 0) ((h.getD i E0).key)).1), (h.getD i E0).op, (mapF b ((domL h (allV h).length).getD i []) (0 + 1 + 1) ((h.getD i E0).args)), (mapF b ((domL h (allV h).length).getD i []) (0 + 1 + 1 + ((h.getD i E0).args).length) ((h.getD i E0).out)), (rnoteS b ((i : Int) + 1) (⟨(timeS b ((h.getD i E0).time)).1, ((oneS b (((domL h (allV h).length).getD i []).getD 0 0) ((h.getD i E0).client)).1), (h.getD i E0).type, (h.getD i E0).model, ((oneS b (((domL h (allV h).length).getD i []).getD (0 + 1) 0) ((h.getD i E0).key)).1), (h.getD i E0).op, (mapF b ((domL h (allV h).length).getD i []) (0 + 1 + 1) ((h.getD i E0).args)), (mapF b ((domL h (allV h).length).getD i []) (0 + 1 + 1 + ((h.getD i E0).args).length) ((h.getD i E0).out)), (h.getD i E0).noted, (h.getD i E0).note⟩ : Evt)).1, (rnoteS b ((i : Int) + 1) (⟨(timeS b ((h.getD i E0).time)).1, ((oneS b (((domL h (allV h).length).getD i []).getD 0 0) ((h.getD i E0).client)).1), (h.getD i E0).type, (h.getD i E0).model, ((oneS b (((domL h (allV h).length).getD i []).getD (0 + 1) 0) ((h.getD i E0).key)).1), (h.getD i E0).op, (mapF b ((domL h (allV h).length).getD i []) (0 + 1 + 1) ((h.getD i E0).args)), (mapF b ((domL h (allV h).length).getD i []) (0 + 1 + 1 + ((h.getD i E0).args).length) ((h.getD i E0).out)), (h.getD i E0).noted, (h.getD i E0).note⟩ : Evt)).2⟩ : Evt) hcp45 hR45 hcp47 hR47, rfl⟩ rfl rfl (by (simp; omega)) (by (simp; omega)) ?_
      clear E S; intro oA58 oc58 oC58 w a S oH58 E
      have hc0 : (checkS h).1 = 0 := by simpa using h7
      have hbk0 : bookB b = true := by simpa using h13
      have hwf := (check_all hc0).1
      have hva := allV_eq hc0
      have hdll : (domL h (allV h).length).length = h.length := by rw [domL_len, hva]
      refine rn 1 E S ?_; clear E S; intro a w E S
      refine hK27 _ _ ?_; clear hK27
      refine wp_region_lit ?_
      refine rn 2 E S ?_; clear E S; intro a w E S
      replace S := S.drop (M' := [_, _, _, _]) (sub_keep (sub_drop (sub_drop (sub_drop (sub_keep (sub_keep (sub_keep sub_nil)))))))
      have hok9 : okU b (domsE h i) (h.getD i E0) = !lo49 := by
       rw [← hdm]
       unfold okU offK
       rw [if_pos (by simpa using h43), if_pos (by simpa using h43), hlo49, hlo47, hlo45, hlo44, hlo38]
       (simp only [Bool.not_or, Bool.not_not, Bool.not_false, Bool.true_and, Bool.and_true]; try rfl)
      have hall2 : ∀ j, j < i + 1 → okU b (domsE h j) (h.getD j E0) = true := by
       intro j hj
       rcases Nat.lt_or_ge j i with h_9 | h_9
       ·exact hall j h_9
       ·obtain rfl : j = i := by omega
        rw [hok9, h56r]; rfl
      have hxs : ((uevL h b i) ++ [(⟨(timeS b ((h.getD i E0).time)).1, ((oneS b (((domL h (allV h).length).getD i []).getD 0 0) ((h.getD i E0).client)).1), (h.getD i E0).type, (h.getD i E0).model, ((oneS b (((domL h (allV h).length).getD i []).getD (0 + 1) 0) ((h.getD i E0).key)).1), (h.getD i E0).op, (mapF b ((domL h (allV h).length).getD i []) (0 + 1 + 1) ((h.getD i E0).args)), (mapF b ((domL h (allV h).length).getD i []) (0 + 1 + 1 + ((h.getD i E0).args).length) ((h.getD i E0).out)), (rnoteS b ((i : Int) + 1) (⟨(timeS b ((h.getD i E0).time)).1, ((oneS b (((domL h (allV h).length).getD i []).getD 0 0) ((h.getD i E0).client)).1), (h.getD i E0).type, (h.getD i E0).model, ((oneS b (((domL h (allV h).length).getD i []).getD (0 + 1) 0) ((h.getD i E0).key)).1), (h.getD i E0).op, (mapF b ((domL h (allV h).length).getD i []) (0 + 1 + 1) ((h.getD i E0).args)), (mapF b ((domL h (allV h).length).getD i []) (0 + 1 + 1 + ((h.getD i E0).args).length) ((h.getD i E0).out)), (h.getD i E0).noted, (h.getD i E0).note⟩ : Evt)).1, (rnoteS b ((i : Int) + 1) (⟨(timeS b ((h.getD i E0).time)).1, ((oneS b (((domL h (allV h).length).getD i []).getD 0 0) ((h.getD i E0).client)).1), (h.getD i E0).type, (h.getD i E0).model, ((oneS b (((domL h (allV h).length).getD i []).getD (0 + 1) 0) ((h.getD i E0).key)).1), (h.getD i E0).op, (mapF b ((domL h (allV h).length).getD i []) (0 + 1 + 1) ((h.getD i E0).args)), (mapF b ((domL h (allV h).length).getD i []) (0 + 1 + 1 + ((h.getD i E0).args).length) ((h.getD i E0).out)), (h.getD i E0).noted, (h.getD i E0).note⟩ : Evt)).2⟩ : Evt)]) = uevL h b (i + 1) := by (rw [← uevL_step, ← hdm]; unfold uevE coreE offK; rw [if_pos (by simpa using h43), if_pos (by simpa using h43)]; rfl)
      rw [hxs] at E oH58; clear hxs
      exact ⟨i + 1, ⟨_, _, _, _, ((((((hle22.trans hle38).trans hle44).trans hle45).trans hle47).trans hle49).trans hle51), S, E.cut ⟨rfl, rfl, rfl, rfl, rfl, rfl, rfl, rfl, rfl, trivial⟩, oH58, ⟨by omega, hall2⟩⟩, by omega⟩
    ·have h43 := nm h43r
     refine wp_skip ?_
     refine hK40 _ _ ?_; clear hK40
     refine sr fun K hK => ?_
     refine rn 3 E S ?_; clear E S; intro a w E S
     refine o_callMs [[(B41, Cells 61 (PC b [(14, .slice Ae b.es.length ce), (15, .slice Am b.ms.length cm), (16, .slice Ar b.rs.length cr), (17, .slice A3_33 (((domL h (allV h).length).getD i []).length) c3_33), (18, .int .i64 ((0 + 1 : Nat) : Int)), (19, .bool lo38)]))]] (R0 := [[(B10, Cells 52 [(0, .int .i64 ((h.getD i E0).time)), (1, .int .i64 ((oneS b (((domL h (allV h).length).getD i []).getD 0 0) ((h.getD i E0).client)).1.k)), (2, .int .i64 ((oneS b (((domL h (allV h).length).getD i []).getD 0 0) ((h.getD i E0).client)).1.n)), (3, str ((oneS b (((domL h (allV h).length).getD i []).getD 0 0) ((h.getD i E0).client)).1.s)), (4, .int .i64 ((h.getD i E0).type)), (5, .int .i64 ((h.getD i E0).model)), (6, .int .i64 ((h.getD i E0).key.k)), (7, .int .i64 ((h.getD i E0).key.n)), (8, str ((h.getD i E0).key.s)), (9, .int .i64 ((h.getD i E0).op)), (10, .slice A1_29 ((h.getD i E0).args.length) c1_29), (11, .slice A2_29 ((h.getD i E0).out.length) c2_29), (12, .bool ((h.getD i E0).noted)), (13, str ((h.getD i E0).note))])], oC8_1, [(B7, Cells 39 [(0, .int .i64 ((checkS h).1)), (1, .int .i64 ((checkS h).2))])], [(B5, Cells 39 [(0, .int .i64 0), (1, .int .i64 0)])], [(B3, Cells 32 (PC b [(14, .slice Ae b.es.length ce), (15, .slice Am b.ms.length cm), (16, .slice Ar b.rs.length cr)]))]]) E rfl S rfl rfl T.g18 (c_mapped (M0 := [[(B10, Cells 52 [(0, .int .i64 ((h.getD i E0).time)), (1, .int .i64 ((oneS b (((domL h (allV h).length).getD i []).getD 0 0) ((h.getD i E0).client)).1.k)), (2, .int .i64 ((oneS b (((domL h (allV h).length).getD i []).getD 0 0) ((h.getD i E0).client)).1.n)), (3, str ((oneS b (((domL h (allV h).length).getD i []).getD 0 0) ((h.getD i E0).client)).1.s)), (4, .int .i64 ((h.getD i E0).type)), (5, .int .i64 ((h.getD i E0).model)), (6, .int .i64 ((h.getD i E0).key.k)), (7, .int .i64 ((h.getD i E0).key.n)), (8, str ((h.getD i E0).key.s)), (9, .int .i64 ((h.getD i E0).op)), (10, .slice A1_29 ((h.getD i E0).args.length) c1_29), (11, .slice A2_29 ((h.getD i E0).out.length) c2_29), (12, .bool ((h.getD i E0).noted)), (13, str ((h.getD i E0).note))])], oC8_1, [(B7, Cells 39 [(0, .int .i64 ((checkS h).1)), (1, .int .i64 ((checkS h).2))])], [(B5, Cells 39 [(0, .int .i64 0), (1, .int .i64 0)])], [(B3, Cells 32 (PC b [(14, .slice Ae b.es.length ce), (15, .slice Am b.ms.length cm), (16, .slice Ar b.rs.length cr)]))]]) b _ _ _ _ _ _ ((domL h (allV h).length).getD i []) _ _ (0 + 1) lo38 B41 ((h.getD i E0).args) _ _ _ _ S hRe hRm hRr hle hlm hlr hr3_33 hr1_29 (by omega) (by omega) hpm9 hds9) ?_
     clear E S; rintro _ G59 _ w a S hle59 ⟨⟨vA59, vc59, rfl, hcp59, hR59⟩, lo59, rfl, hlo59⟩ E
     replace S := S.unflat; simp only [List.cons_append, List.nil_append] at S
     replace hg0 := hg0.le hle59
     replace hg1 := hg1.le hle59
     replace hR := hR.le hle59
     replace hRe := hRe.le hle59
     replace hRm := hRm.le hle59
     replace hRr := hRr.le hle59
     replace hR2 := hR2.le hle59
     replace hr1_29 := hr1_29.le hle59
     replace hr2_29 := hr2_29.le hle59
     replace hr3_33 := hr3_33.le hle59
     replace oH8_1 := oH8_1.le hle59
     refine rn 2 E S ?_; clear E S; intro a w E S
     apply hK; clear hK K
     refine sr fun K hK => ?_
     refine rn 3 E S ?_; clear E S; intro a w E S
     refine o_callMs [[(B41, Cells 61 (PC b [(14, .slice Ae b.es.length ce), (15, .slice Am b.ms.length cm), (16, .slice Ar b.rs.length cr), (17, .slice A3_33 (((domL h (allV h).length).getD i []).length) c3_33), (18, .int .i64 ((0 + 1 + ((h.getD i E0).args).length : Nat) : Int)), (19, .bool lo59)]))]] (R0 := [[(B10, Cells 52 [(0, .int .i64 ((h.getD i E0).time)), (1, .int .i64 ((oneS b (((domL h (allV h).length).getD i []).getD 0 0) ((h.getD i E0).client)).1.k)), (2, .int .i64 ((oneS b (((domL h (allV h).length).getD i []).getD 0 0) ((h.getD i E0).client)).1.n)), (3, str ((oneS b (((domL h (allV h).length).getD i []).getD 0 0) ((h.getD i E0).client)).1.s)), (4, .int .i64 ((h.getD i E0).type)), (5, .int .i64 ((h.getD i E0).model)), (6, .int .i64 ((h.getD i E0).key.k)), (7, .int .i64 ((h.getD i E0).key.n)), (8, str ((h.getD i E0).key.s)), (9, .int .i64 ((h.getD i E0).op)), (10, .slice vA59 ((mapF b ((domL h (allV h).length).getD i []) (0 + 1) ((h.getD i E0).args)).length) vc59), (11, .slice A2_29 ((h.getD i E0).out.length) c2_29), (12, .bool ((h.getD i E0).noted)), (13, str ((h.getD i E0).note))])], oC8_1, [(B7, Cells 39 [(0, .int .i64 ((checkS h).1)), (1, .int .i64 ((checkS h).2))])], [(B5, Cells 39 [(0, .int .i64 0), (1, .int .i64 0)])], [(B3, Cells 32 (PC b [(14, .slice Ae b.es.length ce), (15, .slice Am b.ms.length cm), (16, .slice Ar b.rs.length cr)]))]]) E rfl S rfl rfl T.g18 (c_mapped (M0 := [[(B10, Cells 52 [(0, .int .i64 ((h.getD i E0).time)), (1, .int .i64 ((oneS b (((domL h (allV h).length).getD i []).getD 0 0) ((h.getD i E0).client)).1.k)), (2, .int .i64 ((oneS b (((domL h (allV h).length).getD i []).getD 0 0) ((h.getD i E0).client)).1.n)), (3, str ((oneS b (((domL h (allV h).length).getD i []).getD 0 0) ((h.getD i E0).client)).1.s)), (4, .int .i64 ((h.getD i E0).type)), (5, .int .i64 ((h.getD i E0).model)), (6, .int .i64 ((h.getD i E0).key.k)), (7, .int .i64 ((h.getD i E0).key.n)), (8, str ((h.getD i E0).key.s)), (9, .int .i64 ((h.getD i E0).op)), (10, .slice vA59 ((mapF b ((domL h (allV h).length).getD i []) (0 + 1) ((h.getD i E0).args)).length) vc59), (11, .slice A2_29 ((h.getD i E0).out.length) c2_29), (12, .bool ((h.getD i E0).noted)), (13, str ((h.getD i E0).note))])], oC8_1, [(B7, Cells 39 [(0, .int .i64 ((checkS h).1)), (1, .int .i64 ((checkS h).2))])], [(B5, Cells 39 [(0, .int .i64 0), (1, .int .i64 0)])], [(B3, Cells 32 (PC b [(14, .slice Ae b.es.length ce), (15, .slice Am b.ms.length cm), (16, .slice Ar b.rs.length cr)]))]]) b _ _ _ _ _ _ ((domL h (allV h).length).getD i []) _ _ (0 + 1 + ((h.getD i E0).args).length) lo59 B41 ((h.getD i E0).out) _ _ _ _ S hRe hRm hRr hle hlm hlr hr3_33 hr2_29 (by omega) (by omega) hpm9 hds9) ?_
     clear E S; rintro _ G61 _ w a S hle61 ⟨⟨vA61, vc61, rfl, hcp61, hR61⟩, lo61, rfl, hlo61⟩ E
     replace S := S.unflat; simp only [List.cons_append, List.nil_append] at S
     replace hg0 := hg0.le hle61
     replace hg1 := hg1.le hle61
     replace hR := hR.le hle61
     replace hRe := hRe.le hle61
     replace hRm := hRm.le hle61
     replace hRr := hRr.le hle61
     replace hR2 := hR2.le hle61
     replace hr1_29 := hr1_29.le hle61
     replace hr2_29 := hr2_29.le hle61
     replace hr3_33 := hr3_33.le hle61
     replace hR59 := hR59.le hle61
     replace oH8_1 := oH8_1.le hle61
     refine rn 2 E S ?_; clear E S; intro a w E S
     apply hK; clear hK K
     refine sr fun K hK => ?_
     refine rn 3 E S ?_; clear E S; intro a w E S
     refine o_callMs [[(B41, Cells 61 (PC b [(14, .slice Ae b.es.length ce), (15, .slice Am b.ms.length cm), (16, .slice Ar b.rs.length cr), (17, .slice A3_33 (((domL h (allV h).length).getD i []).length) c3_33), (18, .int .i64 ((0 + 1 + ((h.getD i E0).args).length + ((h.getD i E0).out).length : Nat) : Int)), (19, .bool lo61)]))]] (R0 := [[(B10, Cells 52 [(0, .int .i64 ((h.getD i E0).time)), (1, .int .i64 ((oneS b (((domL h (allV h).length).getD i []).getD 0 0) ((h.getD i E0).client)).1.k)), (2, .int .i64 ((oneS b (((domL h (allV h).length).getD i []).getD 0 0) ((h.getD i E0).client)).1.n)), (3, str ((oneS b (((domL h (allV h).length).getD i []).getD 0 0) ((h.getD i E0).client)).1.s)), (4, .int .i64 ((h.getD i E0).type)), (5, .int .i64 ((h.getD i E0).model)), (6, .int .i64 ((h.getD i E0).key.k)), (7, .int .i64 ((h.getD i E0).key.n)), (8, str ((h.getD i E0).key.s)), (9, .int .i64 ((h.getD i E0).op)), (10, .slice vA59 ((mapF b ((domL h (allV h).length).getD i []) (0 + 1) ((h.getD i E0).args)).length) vc59), (11, .slice vA61 ((mapF b ((domL h (allV h).length).getD i []) (0 + 1 + ((h.getD i E0).args).length) ((h.getD i E0).out)).length) vc61), (12, .bool ((h.getD i E0).noted)), (13, str ((h.getD i E0).note))])], oC8_1, [(B7, Cells 39 [(0, .int .i64 ((checkS h).1)), (1, .int .i64 ((checkS h).2))])], [(B5, Cells 39 [(0, .int .i64 0), (1, .int .i64 0)])], [(B3, Cells 32 (PC b [(14, .slice Ae b.es.length ce), (15, .slice Am b.ms.length cm), (16, .slice Ar b.rs.length cr)]))]]) E rfl S rfl rfl T.g19 (c_rtime (M0 := [[(B10, Cells 52 [(0, .int .i64 ((h.getD i E0).time)), (1, .int .i64 ((oneS b (((domL h (allV h).length).getD i []).getD 0 0) ((h.getD i E0).client)).1.k)), (2, .int .i64 ((oneS b (((domL h (allV h).length).getD i []).getD 0 0) ((h.getD i E0).client)).1.n)), (3, str ((oneS b (((domL h (allV h).length).getD i []).getD 0 0) ((h.getD i E0).client)).1.s)), (4, .int .i64 ((h.getD i E0).type)), (5, .int .i64 ((h.getD i E0).model)), (6, .int .i64 ((h.getD i E0).key.k)), (7, .int .i64 ((h.getD i E0).key.n)), (8, str ((h.getD i E0).key.s)), (9, .int .i64 ((h.getD i E0).op)), (10, .slice vA59 ((mapF b ((domL h (allV h).length).getD i []) (0 + 1) ((h.getD i E0).args)).length) vc59), (11, .slice vA61 ((mapF b ((domL h (allV h).length).getD i []) (0 + 1 + ((h.getD i E0).args).length) ((h.getD i E0).out)).length) vc61), (12, .bool ((h.getD i E0).noted)), (13, str ((h.getD i E0).note))])], oC8_1, [(B7, Cells 39 [(0, .int .i64 ((checkS h).1)), (1, .int .i64 ((checkS h).2))])], [(B5, Cells 39 [(0, .int .i64 0), (1, .int .i64 0)])], [(B3, Cells 32 (PC b [(14, .slice Ae b.es.length ce), (15, .slice Am b.ms.length cm), (16, .slice Ar b.rs.length cr)]))]]) b _ _ _ _ _ _ ((domL h (allV h).length).getD i []) _ _ (0 + 1 + ((h.getD i E0).args).length + ((h.getD i E0).out).length) lo61 B41 ((h.getD i E0).time) _ _ S hRe hRm hRr hle hlm hlr hr3_33) ?_
     clear E S; rintro _ G63 _ w a S hle63 ⟨rfl, lo63, rfl, hlo63⟩ E
     replace S := S.unflat; simp only [List.cons_append, List.nil_append] at S
     replace hg0 := hg0.le hle63
     replace hg1 := hg1.le hle63
     replace hR := hR.le hle63
     replace hRe := hRe.le hle63
     replace hRm := hRm.le hle63
     replace hRr := hRr.le hle63
     replace hR2 := hR2.le hle63
     replace hr1_29 := hr1_29.le hle63
     replace hr2_29 := hr2_29.le hle63
     replace hr3_33 := hr3_33.le hle63
     replace hR59 := hR59.le hle63
     replace hR61 := hR61.le hle63
     replace oH8_1 := oH8_1.le hle63
     refine rn 2 E S ?_; clear E S; intro a w E S
     apply hK; clear hK K
     refine sr fun K hK => ?_
     refine rn 3 E S ?_; clear E S; intro a w E S
     replace S := S.front (C := [(B10, Cells 52 [(0, .int .i64 ((timeS b ((h.getD i E0).time)).1)), (1, .int .i64 ((oneS b (((domL h (allV h).length).getD i []).getD 0 0) ((h.getD i E0).client)).1.k)), (2, .int .i64 ((oneS b (((domL h (allV h).length).getD i []).getD 0 0) ((h.getD i E0).client)).1.n)), (3, str ((oneS b (((domL h (allV h).length).getD i []).getD 0 0) ((h.getD i E0).client)).1.s)), (4, .int .i64 ((h.getD i E0).type)), (5, .int .i64 ((h.getD i E0).model)), (6, .int .i64 ((h.getD i E0).key.k)), (7, .int .i64 ((h.getD i E0).key.n)), (8, str ((h.getD i E0).key.s)), (9, .int .i64 ((h.getD i E0).op)), (10, .slice vA59 ((mapF b ((domL h (allV h).length).getD i []) (0 + 1) ((h.getD i E0).args)).length) vc59), (11, .slice vA61 ((mapF b ((domL h (allV h).length).getD i []) (0 + 1 + ((h.getD i E0).args).length) ((h.getD i E0).out)).length) vc61), (12, .bool ((h.getD i E0).noted)), (13, str ((h.getD i E0).note))])]) (.there .here)
     replace S := S.front (C := [(B41, Cells 61 (PC b [(14, .slice Ae b.es.length ce), (15, .slice Am b.ms.length cm), (16, .slice Ar b.rs.length cr), (17, .slice A3_33 (((domL h (allV h).length).getD i []).length) c3_33), (18, .int .i64 ((0 + 1 + ((h.getD i E0).args).length + ((h.getD i E0).out).length : Nat) : Int)), (19, .bool lo63)]))]) (.there .here)
     refine o_callMs [[(B41, Cells 61 (PC b [(14, .slice Ae b.es.length ce), (15, .slice Am b.ms.length cm), (16, .slice Ar b.rs.length cr), (17, .slice A3_33 (((domL h (allV h).length).getD i []).length) c3_33), (18, .int .i64 ((0 + 1 + ((h.getD i E0).args).length + ((h.getD i E0).out).length : Nat) : Int)), (19, .bool lo63)]))], [(B10, Cells 52 [(0, .int .i64 ((timeS b ((h.getD i E0).time)).1)), (1, .int .i64 ((oneS b (((domL h (allV h).length).getD i []).getD 0 0) ((h.getD i E0).client)).1.k)), (2, .int .i64 ((oneS b (((domL h (allV h).length).getD i []).getD 0 0) ((h.getD i E0).client)).1.n)), (3, str ((oneS b (((domL h (allV h).length).getD i []).getD 0 0) ((h.getD i E0).client)).1.s)), (4, .int .i64 ((h.getD i E0).type)), (5, .int .i64 ((h.getD i E0).model)), (6, .int .i64 ((h.getD i E0).key.k)), (7, .int .i64 ((h.getD i E0).key.n)), (8, str ((h.getD i E0).key.s)), (9, .int .i64 ((h.getD i E0).op)), (10, .slice vA59 ((mapF b ((domL h (allV h).length).getD i []) (0 + 1) ((h.getD i E0).args)).length) vc59), (11, .slice vA61 ((mapF b ((domL h (allV h).length).getD i []) (0 + 1 + ((h.getD i E0).args).length) ((h.getD i E0).out)).length) vc61), (12, .bool ((h.getD i E0).noted)), (13, str ((h.getD i E0).note))])]] (R0 := [oC8_1, [(B7, Cells 39 [(0, .int .i64 ((checkS h).1)), (1, .int .i64 ((checkS h).2))])], [(B5, Cells 39 [(0, .int .i64 0), (1, .int .i64 0)])], [(B3, Cells 32 (PC b [(14, .slice Ae b.es.length ce), (15, .slice Am b.ms.length cm), (16, .slice Ar b.rs.length cr)]))]]) E rfl S rfl rfl T.g20 (c_rnote (M0 := [oC8_1, [(B7, Cells 39 [(0, .int .i64 ((checkS h).1)), (1, .int .i64 ((checkS h).2))])], [(B5, Cells 39 [(0, .int .i64 0), (1, .int .i64 0)])], [(B3, Cells 32 (PC b [(14, .slice Ae b.es.length ce), (15, .slice Am b.ms.length cm), (16, .slice Ar b.rs.length cr)]))]]) b _ _ _ _ _ _ ((domL h (allV h).length).getD i []) _ _ (0 + 1 + ((h.getD i E0).args).length + ((h.getD i E0).out).length) lo63 B41 (⟨(timeS b ((h.getD i E0).time)).1, ((oneS b (((domL h (allV h).length).getD i []).getD 0 0) ((h.getD i E0).client)).1), (h.getD i E0).type, (h.getD i E0).model, ((h.getD i E0).key), (h.getD i E0).op, (mapF b ((domL h (allV h).length).getD i []) (0 + 1) ((h.getD i E0).args)), (mapF b ((domL h (allV h).length).getD i []) (0 + 1 + ((h.getD i E0).args).length) ((h.getD i E0).out)), (h.getD i E0).noted, (h.getD i E0).note⟩ : Evt) _ _ _ _ B10 ((i : Int) + 1) _ _ S hRe hRm hRr hle hlm hlr hr3_33) ?_
     clear E S; rintro _ G65 _ w a S hle65 ⟨rfl, rfl⟩ E
     replace S := S.unflat; simp only [List.cons_append, List.nil_append] at S
     replace hg0 := hg0.le hle65
     replace hg1 := hg1.le hle65
     replace hR := hR.le hle65
     replace hRe := hRe.le hle65
     replace hRm := hRm.le hle65
     replace hRr := hRr.le hle65
     replace hR2 := hR2.le hle65
     replace hr1_29 := hr1_29.le hle65
     replace hr2_29 := hr2_29.le hle65
     replace hr3_33 := hr3_33.le hle65
     replace hR59 := hR59.le hle65
     replace hR61 := hR61.le hle65
     replace oH8_1 := oH8_1.le hle65
     apply hK; clear hK K
     refine wp_seq_k (fun K68 hK67 => ?_)
     refine sr fun K hK => ?_
     refine rn 4 E S ?_; clear E S; intro a w E S
     apply hK; clear hK K
     refine cond E rfl (fun h70r => ?_) (fun h70r => ?_)
     ·have h70 := nm h70r
      refine sr fun K hK => ?_
      refine rn 2 E S ?_; clear E S; intro a w E S
      refine o_build (cs := #[.int .i64 12, .int .i64 ((i : Int) + 1)]) E rfl rfl (by kernel_rfl) ?_; clear E; intro a E
      refine rn 2 E S ?_; clear E S; intro a w E S
      apply hK; clear hK K
      refine rt hQ E S ?_
      have hok9 : okU b (domsE h i) (h.getD i E0) = !lo63 := by
       rw [← hdm]
       unfold okU offK
       rw [if_neg (by simpa using h43), if_neg (by simpa using h43), hlo63, hlo61, hlo59, hlo38]
       (simp only [Bool.not_or, Bool.not_not, Bool.not_false, Bool.true_and, Bool.and_true]; try rfl)
      have he : unveilS h b = ([], 12, (i : Int) + 1) := unveil_bad hc0 hbk0 (by omega) hall (by rw [hok9, h70r]; rfl)
      rw [he]
      exact ⟨_, _, rfl, Nat.le_refl _, .nil⟩
     ·have h70 := nm h70r
      refine wp_skip ?_
      refine hK67 _ _ ?_; clear hK67
      refine wp_region_lit ?_
      have hul := uevL_len h b i
      refine rn 2 E S ?_; clear E S; intro a w E S
      refine o_buildSl (cs := #[.int .i64 ((timeS b ((h.getD i E0).time)).1), .int .i64 ((oneS b (((domL h (allV h).length).getD i []).getD 0 0) ((h.getD i E0).client)).1.k), .int .i64 ((oneS b (((domL h (allV h).length).getD i []).getD 0 0) ((h.getD i E0).client)).1.n), str ((oneS b (((domL h (allV h).length).getD i []).getD 0 0) ((h.getD i E0).client)).1.s), .int .i64 ((h.getD i E0).type), .int .i64 ((h.getD i E0).model), .int .i64 ((h.getD i E0).key.k), .int .i64 ((h.getD i E0).key.n), str ((h.getD i E0).key.s), .int .i64 ((h.getD i E0).op), .slice vA59 ((mapF b ((domL h (allV h).length).getD i []) (0 + 1) ((h.getD i E0).args)).length) vc59, .slice vA61 ((mapF b ((domL h (allV h).length).getD i []) (0 + 1 + ((h.getD i E0).args).length) ((h.getD i E0).out)).length) vc61, .bool ((rnoteS b ((i : Int) + 1) (⟨(timeS b ((h.getD i E0).time)).1, ((oneS b (((domL h (allV h).length).getD i []).getD 0 0) ((h.getD i E0).client)).1), (h.getD i E0).type, (h.getD i E0).model, ((h.getD i E0).key), (h.getD i E0).op, (mapF b ((domL h (allV h).length).getD i []) (0 + 1) ((h.getD i E0).args)), (mapF b ((domL h (allV h).length).getD i []) (0 + 1 + ((h.getD i E0).args).length) ((h.getD i E0).out)), (h.getD i E0).noted, (h.getD i E0).note⟩ : Evt)).1), str ((rnoteS b ((i : Int) + 1) (⟨(timeS b ((h.getD i E0).time)).1, ((oneS b (((domL h (allV h).length).getD i []).getD 0 0) ((h.getD i E0).client)).1), (h.getD i E0).type, (h.getD i E0).model, ((h.getD i E0).key), (h.getD i E0).op, (mapF b ((domL h (allV h).length).getD i []) (0 + 1) ((h.getD i E0).args)), (mapF b ((domL h (allV h).length).getD i []) (0 + 1 + ((h.getD i E0).args).length) ((h.getD i E0).out)), (h.getD i E0).noted, (h.getD i E0).note⟩ : Evt)).2)]) [(0, _), (1, _), (2, _), (3, _), (4, _), (5, _), (6, _), (7, _), (8, _), (9, _), (10, _), (11, _), (12, _), (13, _)] E rfl S rfl T.l22 (by kernel_rfl) ⟨rfl, rfl, rfl, rfl, rfl, rfl, rfl, rfl, rfl, rfl, rfl, rfl, rfl, rfl, trivial⟩ ?_; clear E S; intro B85 w a S E
      refine o_appendL (K := kEvt) (ys := [(⟨(timeS b ((h.getD i E0).time)).1, ((oneS b (((domL h (allV h).length).getD i []).getD 0 0) ((h.getD i E0).client)).1), (h.getD i E0).type, (h.getD i E0).model, ((h.getD i E0).key), (h.getD i E0).op, (mapF b ((domL h (allV h).length).getD i []) (0 + 1) ((h.getD i E0).args)), (mapF b ((domL h (allV h).length).getD i []) (0 + 1 + ((h.getD i E0).args).length) ((h.getD i E0).out)), (rnoteS b ((i : Int) + 1) (⟨(timeS b ((h.getD i E0).time)).1, ((oneS b (((domL h (allV h).length).getD i []).getD 0 0) ((h.getD i E0).client)).1), (h.getD i E0).type, (h.getD i E0).model, ((h.getD i E0).key), (h.getD i E0).op, (mapF b ((domL h (allV h).length).getD i []) (0 + 1) ((h.getD i E0).args)), (mapF b ((domL h (allV h).length).getD i []) (0 + 1 + ((h.getD i E0).args).length) ((h.getD i E0).out)), (h.getD i E0).noted, (h.getD i E0).note⟩ : Evt)).1, (rnoteS b ((i : Int) + 1) (⟨(timeS b ((h.getD i E0).time)).1, ((oneS b (((domL h (allV h).length).getD i []).getD 0 0) ((h.getD i E0).client)).1), (h.getD i E0).type, (h.getD i E0).model, ((h.getD i E0).key), (h.getD i E0).op, (mapF b ((domL h (allV h).length).getD i []) (0 + 1) ((h.getD i E0).args)), (mapF b ((domL h (allV h).length).getD i []) (0 + 1 + ((h.getD i E0).args).length) ((h.getD i E0).out)), (h.getD i E0).noted, (h.getD i E0).note⟩ : Evt)).2⟩ : Evt)]) (n := 14) E rfl S (.there (.there (.there .here))) oH8_1 rfl rfl T.p22 (.here .here) rfl ⟨kEvt_mk (⟨(timeS b ((h.getD i E0).time)).1, ((oneS b (((domL h (allV h).length).getD i []).getD 0 0) ((h.getD i E0).client)).1), (h.getD i E0).type, (h.getD i E0).model, ((h.getD i E0).key), (h.getD i E0).op, (mapF b ((domL h (allV h).length).getD i []) (0 + 1) ((h.getD i E0).args)), (mapF b ((domL h (allV h).length).getD i []) (0 + 1 + ((h.getD i E0).args).length) ((h.getD i E0).out)), (rnoteS b ((i : Int) + 1) (⟨(timeS b ((h.getD i E0).time)).1, ((oneS b (((domL h (allV h).length).getD i []).getD 0 0) ((h.getD i E0).client)).1), (h.getD i E0).type, (h.getD i E0).model, ((h.getD i E0).key), (h.getD i E0).op, (mapF b ((domL h (allV h).length).getD i []) (0 + 1) ((h.getD i E0).args)), (mapF b ((domL h (allV h).length).getD i []) (0 + 1 + ((h.getD i E0).args).length) ((h.getD i E0).out)), (h.getD i E0).noted, (h.getD i E0).note⟩ : Evt)).1, (rnoteS b ((i : Int) + 1) (⟨(timeS b ((h.getD i E0).time)).1, ((oneS b (((domL h (allV h).length).getD i []).getD 0 0) ((h.getD i E0).client)).1), (h.getD i E0).type, (h.getD i E0).model, ((h.getD i E0).key), (h.getD i E0).op, (mapF b ((domL h (allV h).length).getD i []) (0 + 1) ((h.getD i E0).args)), (mapF b ((domL h (allV h).length).getD i []) (0 + 1 + ((h.getD i E0).args).length) ((h.getD i E0).out)), (h.getD i E0).noted, (h.getD i E0).note⟩ : Evt)).2⟩ : Evt) hcp59 hR59 hcp61 hR61, rfl⟩ rfl rfl (by (simp; omega)) (by (simp; omega)) ?_
      clear E S; intro oA72 oc72 oC72 w a S oH72 E
      have hc0 : (checkS h).1 = 0 := by simpa using h7
      have hbk0 : bookB b = true := by simpa using h13
      have hwf := (check_all hc0).1
      have hva := allV_eq hc0
      have hdll : (domL h (allV h).length).length = h.length := by rw [domL_len, hva]
      refine rn 1 E S ?_; clear E S; intro a w E S
      refine hK27 _ _ ?_; clear hK27
      refine wp_region_lit ?_
      refine rn 2 E S ?_; clear E S; intro a w E S
      replace S := S.drop (M' := [_, _, _, _]) (sub_keep (sub_drop (sub_drop (sub_drop (sub_keep (sub_keep (sub_keep sub_nil)))))))
      have hok9 : okU b (domsE h i) (h.getD i E0) = !lo63 := by
       rw [← hdm]
       unfold okU offK
       rw [if_neg (by simpa using h43), if_neg (by simpa using h43), hlo63, hlo61, hlo59, hlo38]
       (simp only [Bool.not_or, Bool.not_not, Bool.not_false, Bool.true_and, Bool.and_true]; try rfl)
      have hall2 : ∀ j, j < i + 1 → okU b (domsE h j) (h.getD j E0) = true := by
       intro j hj
       rcases Nat.lt_or_ge j i with h_9 | h_9
       ·exact hall j h_9
       ·obtain rfl : j = i := by omega
        rw [hok9, h70r]; rfl
      have hxs : ((uevL h b i) ++ [(⟨(timeS b ((h.getD i E0).time)).1, ((oneS b (((domL h (allV h).length).getD i []).getD 0 0) ((h.getD i E0).client)).1), (h.getD i E0).type, (h.getD i E0).model, ((h.getD i E0).key), (h.getD i E0).op, (mapF b ((domL h (allV h).length).getD i []) (0 + 1) ((h.getD i E0).args)), (mapF b ((domL h (allV h).length).getD i []) (0 + 1 + ((h.getD i E0).args).length) ((h.getD i E0).out)), (rnoteS b ((i : Int) + 1) (⟨(timeS b ((h.getD i E0).time)).1, ((oneS b (((domL h (allV h).length).getD i []).getD 0 0) ((h.getD i E0).client)).1), (h.getD i E0).type, (h.getD i E0).model, ((h.getD i E0).key), (h.getD i E0).op, (mapF b ((domL h (allV h).length).getD i []) (0 + 1) ((h.getD i E0).args)), (mapF b ((domL h (allV h).length).getD i []) (0 + 1 + ((h.getD i E0).args).length) ((h.getD i E0).out)), (h.getD i E0).noted, (h.getD i E0).note⟩ : Evt)).1, (rnoteS b ((i : Int) + 1) (⟨(timeS b ((h.getD i E0).time)).1, ((oneS b (((domL h (allV h).length).getD i []).getD 0 0) ((h.getD i E0).client)).1), (h.getD i E0).type, (h.getD i E0).model, ((h.getD i E0).key), (h.getD i E0).op, (mapF b ((domL h (allV h).length).getD i []) (0 + 1) ((h.getD i E0).args)), (mapF b ((domL h (allV h).length).getD i []) (0 + 1 + ((h.getD i E0).args).length) ((h.getD i E0).out)), (h.getD i E0).noted, (h.getD i E0).note⟩ : Evt)).2⟩ : Evt)]) = uevL h b (i + 1) := by (rw [← uevL_step, ← hdm]; unfold uevE coreE offK; rw [if_neg (by simpa using h43), if_neg (by simpa using h43)]; rfl)
      rw [hxs] at E oH72; clear hxs
      exact ⟨i + 1, ⟨_, _, _, _, (((((hle22.trans hle38).trans hle59).trans hle61).trans hle63).trans hle65), S, E.cut ⟨rfl, rfl, rfl, rfl, rfl, rfl, rfl, rfl, rfl, trivial⟩, oH72, ⟨by omega, hall2⟩⟩, by omega⟩
   ·have h26 := nm h26r
    refine wp_exit ?_
    refine hK16 _ _ ?_; clear hK16
    refine wp_seq_k (fun K74 hK73 => ?_)
    have hcphR76 := oH8_1.cap
    obtain ⟨G75, hle77, S', hR76⟩ := X.Own.still S .here oH8_1; clear S; have S := S'; clear S'
    replace hg0 := hg0.le hle77
    replace hg1 := hg1.le hle77
    replace hR := hR.le hle77
    replace hRe := hRe.le hle77
    replace hRm := hRm.le hle77
    replace hRr := hRr.le hle77
    replace hR2 := hR2.le hle77
    replace E := E.cut (L' := [(3, .pointer (some ⟨B3, 0, none⟩)), (5, .pointer (some ⟨B5, 0, none⟩)), (6, .slice vA2 ((domL h (allV h).length).length) vc2), (7, .pointer (some ⟨B7, 0, none⟩)), (8, .slice oA8_1 ((uevL h b i).length) oc8_1), (28, .slice A h.length c), (29, .int .i64 (h.length : Int)), (30, .int .i64 (i : Int)), (31, .bool (decide ((i : Int) < (h.length : Int))))]) ⟨rfl, rfl, rfl, rfl, rfl, rfl, rfl, rfl, rfl, trivial⟩
    refine drawnF (fun f G' w => Heap.le G75 G' ∧ St w0 G [] G' w [[(B7, Cells 39 [(0, .int .i64 ((checkS h).1)), (1, .int .i64 ((checkS h).2))])], [(B5, Cells 39 [(0, bif f 3 then .int .i64 ((checkS h).1) else .int .i64 0), (1, bif f 3 then .int .i64 ((checkS h).2) else .int .i64 0)])], [(B3, Cells 32 (PC b [(14, .slice Ae b.es.length ce), (15, .slice Am b.ms.length cm), (16, .slice Ar b.rs.length cr)]))]]) [fun v _ => v = .slice oA8_1 ((uevL h b i).length) oc8_1, fun v _ => v = .agg #[.int .i64 ((checkS h).1), .int .i64 ((checkS h).2)], fun v _ => v = .slice oA8_1 ((uevL h b i).length) oc8_1, fun _ _ => True] [] T.mix rfl E ⟨Heap.le.refl _, S.drew⟩ rfl (by simp) (AllM.get ⟨fun _ _ _ _ h => h, fun _ _ _ _ h => h, fun _ _ _ _ h => h, fun _ _ _ _ h => h, trivial⟩) ⟨?_, ?_, ?_, ?_, trivial⟩ ?_
    ·intro a w G1 f hcl hfi hon hW E hp hO; obtain ⟨hl, S⟩ := hW
     refine o_move E rfl rfl ?_; clear E; intro a E
     exact ⟨_, _, Heap.le.refl _, ⟨hl, S⟩, fun d hd => (by cases hd; exact E.get _ _ rfl), E.defers, rfl⟩
    ·intro a w G1 f hcl hfi hon hW E hp hO; obtain ⟨hl, S⟩ := hW
     refine o_ldA E rfl S rfl T.a39 (.here .here) rfl ?_; clear E; intro a E
     exact ⟨_, _, Heap.le.refl _, ⟨hl, S⟩, fun d hd => (by cases hd; exact E.get _ _ rfl), E.defers, rfl⟩
    ·intro a w G1 f hcl hfi hon hW E hp hO; obtain ⟨hl, S⟩ := hW
     obtain ⟨_, e0, rfl⟩ := hp 0 88 _ (hon 0 rfl) rfl rfl; replace E := E.add e0
     refine o_assign E rfl rfl ?_; clear E; intro a E
     exact ⟨_, _, Heap.le.refl _, ⟨hl, S⟩, fun d hd => (by cases hd; exact E.get _ _ rfl), E.defers, rfl⟩
    ·intro a w G1 f hcl hfi hon hW E hp hO; obtain ⟨hl, S⟩ := hW
     obtain ⟨_, e1, rfl⟩ := hp 1 89 _ (hon 1 rfl) rfl rfl; replace E := E.add e1
     refine o_stA E S rfl rfl rfl T.a39 (.there (.here .here)) rfl ?_; clear S; intro w S
     replace S := S.conv (L2 := [(0, _), (1, _)]) (.there (.here .here)) ⟨rfl, rfl, trivial⟩
     exact ⟨.bool true, _, Heap.le.refl _, ⟨hl, S⟩, fun d hd => (by cases hd), E.defers, trivial⟩
    clear E S; intro a w G78 f hle79 hall HW E hp; obtain ⟨_, S⟩ := HW
    have hfw3 := hall 3 (by decide)
    simp only [hfw3, cond_true] at S
    replace hg0 := hg0.le hle79
    replace hg1 := hg1.le hle79
    replace hR := hR.le hle79
    replace hRe := hRe.le hle79
    replace hRm := hRm.le hle79
    replace hRr := hRr.le hle79
    replace hR2 := hR2.le hle79
    replace hR76 := hR76.le hle79
    obtain ⟨_, e2, rfl⟩ := hp 2 4 _ rfl rfl; replace E := E.add e2
    clear hp hall
    refine hK73 _ _ ?_; clear hK73
    refine rt hQ E S ?_
    have hi9 : i = h.length := by omega
    subst hi9
    have he : unveilS h b = (uevL h b h.length, 0, 0) := unveil_good hc0 hbk0 hall
    rw [he, (check_all hc0).2]
    exact ⟨_, _, rfl, by assumption, by assumption⟩
end Go.Proofs.YtnfadpkhjfillaaDoor.T28
