/- Own text. -/
import Derived.Test.YtnfadpkhjfillaaDoorU12
set_option linter.unusedVariables false
set_option linter.unusedSimpArgs false
set_option maxRecDepth 100000
set_option maxHeartbeats 4000000
namespace Go.Proofs.YtnfadpkhjfillaaDoor.T28
open Go Go.Proofs.YtnfadpkhjfillaaDoor.X
theorem T.g26 : goFn Tryd.prog 26 = true := by kernel_rfl
theorem T.g27 : goFn Tryd.prog 27 = true := by kernel_rfl
theorem T.g28 : goFn Tryd.prog 28 = true := by kernel_rfl
theorem T.g29 : goFn Tryd.prog 29 = true := by kernel_rfl
theorem T.g30 : goFn Tryd.prog 30 = true := by kernel_rfl

/-! What a well-formed history is. -/
theorem rows_dom : ∀ r ∈ rowsT, ∀ d ∈ doms r.ins, 0 ≤ d := by decide +kernel
theorem ins_dom {m o : Int} : ∀ d ∈ doms (findS m o).1.ins, 0 ≤ d := by
  unfold findS
  split
  · rename_i r hr
    exact rows_dom r (List.mem_of_find?_eq_some hr)
  · intro d hd; cases hd
theorem outs_dom {m o : Int} {l : List Val} : ∀ d ∈ (outsS m o l).1, 0 ≤ d := by
  intro d hd
  unfold outsS at hd
  split at hd
  · cases hd
  split at hd
  · cases hd
  rename_i h2
  split at hd
  · unfold pairS at hd
    split at hd
    · unfold altL at hd
      obtain ⟨i, _, rfl⟩ := List.mem_map.1 hd
      unfold altD
      split <;> decide
    · cases hd
  · split at hd
    · simp only [List.mem_cons, List.not_mem_nil, or_false] at hd
      omega
    · cases hd
theorem domsE_nn (h : List Evt) (i : Nat) : ∀ d ∈ domsE h i, 0 ≤ d := by
  intro d hd
  unfold domsE at hd
  split at hd
  · simp only [List.mem_append, List.mem_cons, List.not_mem_nil, or_false] at hd
    rcases hd with (rfl | rfl) | hd
    · decide
    · decide
    · exact ins_dom d hd
  split at hd
  · simp only [List.mem_append, List.mem_cons, List.not_mem_nil, or_false] at hd
    rcases hd with rfl | hd
    · decide
    · exact outs_dom d hd
  · simp only [List.mem_cons, List.not_mem_nil, or_false] at hd
    subst hd; decide
theorem outs_ok_len {m o : Int} {l : List Val} (h : (outsS m o l).2 = true) : (outsS m o l).1.length = l.length := by
  unfold outsS at h ⊢
  split at h
  · cases h
  rename_i h1
  rw [if_neg h1]
  split at h
  · rename_i h2
    rw [if_pos h2]
    have := of_decide_eq_true h
    show 0 = _
    omega
  rename_i h2
  rw [if_neg h2]
  split at h
  · rename_i h3
    rw [if_pos h3]
    unfold pairS at h ⊢
    split at h
    · rename_i h4
      rw [if_pos h4, altL_len]
    · cases h
  · rename_i h3
    rw [if_neg h3]
    split at h
    · rename_i h4
      rw [if_pos h4]
      unfold oneB at h4
      rw [Bool.and_eq_true, decide_eq_true_eq] at h4
      show 1 = _
      omega
    · cases h
theorem called_last {h : List Evt} {i : Nat} (hw : wrongS h i = 0) (ht : (h.getD i E0).type = 2) : calledE h i = h.getD (lastS h i).toNat E0 := by
  have hb := (wrong_busy hw ht).1
  have hp := called_prog hw ht
  rw [← hp]
  unfold busyB at hb
  rw [Bool.and_eq_true, decide_eq_true_eq, decide_eq_true_eq] at hb
  unfold lastS at hb ⊢
  cases e : lastI h (h.getD i E0).client i with
  | none => rw [e] at hb; simp at hb
  | some j =>
    rw [e] at hb
    simp only [Int.toNat_natCast] at hb
    have hl := last_call e hb.2
    unfold callF
    rw [hl]
    simp
theorem domsE_own {h : List Evt} {i : Nat} (hw : wrongS h i = 0) : (domsE h i).length = (ownE (h.getD i E0)).length := by
  have hr := wrong_right hw
  rw [own_len]
  unfold domsE
  by_cases ht : (h.getD i E0).type = 1
  · rw [if_pos ht, if_pos ht]
    have h3 := fitsL_len (right_inv hr ht).2.2.1
    rw [args_doms] at h3
    simp only [List.length_append, List.length_cons, List.length_nil]
    omega
  · rw [if_neg ht, if_neg ht]
    by_cases ht2 : (h.getD i E0).type = 2
    · rw [if_pos ht2, if_pos ht2]
      have ho := (wrong_busy hw ht2).2
      unfold outOk at ho
      have := outs_ok_len ho
      rw [called_last hw ht2]
      simp only [List.length_append, List.length_cons, List.length_nil]
      omega
    · rw [if_neg ht2, if_neg ht2]
      rfl
theorem own_right {x : Evt} (hr : rightE x = true) : ∀ v ∈ ownE x, rightV v = true := by
  obtain ⟨ha, ho⟩ := right_vals hr
  have hc := takes_right (right_head hr).2.1
  intro v hv
  unfold ownE at hv
  split at hv
  · rename_i ht
    simp only [List.mem_append, List.mem_cons, List.not_mem_nil, or_false] at hv
    rcases hv with (rfl | rfl) | hv
    · exact hc
    · exact takes_right (right_inv hr ht).2.1
    · exact ha v hv
  split at hv
  · simp only [List.mem_append, List.mem_cons, List.not_mem_nil, or_false] at hv
    rcases hv with rfl | hv
    · exact hc
    · exact ho v hv
  · simp only [List.mem_cons, List.not_mem_nil, or_false] at hv
    subst hv; exact hc
theorem own_wf {x : Evt} (hx : x.Wf) : ∀ v ∈ ownE x, v.Wf := by
  intro v hv
  unfold ownE at hv
  split at hv
  · simp only [List.mem_append, List.mem_cons, List.not_mem_nil, or_false] at hv
    rcases hv with (rfl | rfl) | hv
    · exact hx.client
    · exact hx.key
    · exact hx.args v hv
  split at hv
  · simp only [List.mem_append, List.mem_cons, List.not_mem_nil, or_false] at hv
    rcases hv with rfl | hv
    · exact hx.client
    · exact hx.out v hv
  · simp only [List.mem_cons, List.not_mem_nil, or_false] at hv
    subst hv; exact hx.client
theorem own_le {x : Evt} (ha : x.args.length ≤ 1000000) (ho : x.out.length ≤ 1000000) : (ownE x).length ≤ 1000002 := by
  rw [own_len]
  split
  · omega
  split <;> omega
theorem own_pos (x : Evt) : 1 ≤ (ownE x).length := by
  rw [own_len]
  split
  · omega
  split <;> omega
theorem nameR {v : Val} (h : rightV v = true) : nameB v = (decide (v.k = 1) || decide (v.k = 2)) := by unfold nameB; rw [h]; rfl
theorem ref_keep {b : Book} {d : Int} {v : Val} (h : rightV v = true) : ((decide (4 < d) || !nameB v) || decide (wayP b.pol d = 0)) = keepB b d v := by
  rw [nameR h]
  unfold keepB
  cases decide (4 < d) <;> cases decide (wayP b.pol d = 0) <;> cases decide (v.k = 1) <;> cases decide (v.k = 2) <;> rfl
theorem one_keep {b : Book} {d : Int} {v : Val} (h : keepB b d v = true) : oneS b d v = (v, true) := by unfold oneS; rw [if_pos h]
theorem one_real {b : Book} {d : Int} {v : Val} (h : keepB b d v = false) : oneS b d v = realS b.es d v := by unfold oneS; rw [if_neg (by rw [h]; decide)]
theorem set_same : ∀ (l : List Val) (i : Nat), l.set i (l.getD i ⟨0, 0, []⟩) = l
  | [], _ => rfl
  | v :: l, 0 => rfl
  | v :: l, i + 1 => by
    show v :: _ = v :: _
    exact congrArg _ (set_same l i)
theorem stF_keep {b : Book} {ds : List Int} {l : List Val} {p i : Nat} (hi : i < l.length) (h : keepB b (ds.getD (p + i) 0) (l.getD i ⟨0, 0, []⟩) = true) : stF b ds p l i = stF b ds p l (i + 1) := by
  rw [← stF_set b ds l p i hi, one_keep h]
  show _ = (stF b ds p l i).set i (l.getD i ⟨0, 0, []⟩)
  conv => rhs; rw [← stF_get b ds l p i hi]
  rw [set_same]
def offK (x : Evt) : Nat := if x.type = 1 then 2 else 1
def coreE (b : Book) (ds : List Int) (x : Evt) : Evt := ⟨x.time, (oneS b (ds.getD 0 0) x.client).1, x.type, x.model, if x.type = 1 then (oneS b (ds.getD 1 0) x.key).1 else x.key, x.op, mapF b ds (offK x) x.args, mapF b ds (offK x + x.args.length) x.out, x.noted, x.note⟩
def uevE (b : Book) (ds : List Int) (n : Int) (x : Evt) : Evt := ⟨(timeS b x.time).1, (coreE b ds x).client, x.type, x.model, (coreE b ds x).key, x.op, (coreE b ds x).args, (coreE b ds x).out, (rnoteS b n x).1, (rnoteS b n x).2⟩
def okU (b : Book) (ds : List Int) (x : Evt) : Bool := ((((oneS b (ds.getD 0 0) x.client).2 && (if x.type = 1 then (oneS b (ds.getD 1 0) x.key).2 else true)) && okF b ds (offK x) x.args) && okF b ds (offK x + x.args.length) x.out) && (timeS b x.time).2
theorem with_core {b : Book} {ds : List Int} {x : Evt} (hr : rightE x = true) : withE x (mapF b ds 0 (ownE x)) = coreE b ds x := by
  unfold withE coreE ownE offK
  by_cases ht : x.type = 1
  · rw [if_pos ht, if_pos ht, if_pos ht, if_pos ht, (right_inv hr ht).2.2.2]
    rfl
  · rw [if_neg ht, if_neg ht, if_neg ht, if_neg ht]
    obtain ⟨_, _, _, h4, _, h6⟩ := right_end hr ht
    rw [h4]
    by_cases ht2 : x.type = 2
    · rw [if_pos ht2, if_pos ht2]
      rfl
    · rw [if_neg ht2, if_neg ht2, show x.out = [] from by rcases h6 with h | h; exact absurd h ht2; exact h.2]
      rfl
theorem ok_core {b : Book} {ds : List Int} {x : Evt} (hr : rightE x = true) : ((timeS b x.time).2 && okF b ds 0 (ownE x)) = okU b ds x := by
  unfold okU ownE offK
  rw [Bool.and_comm]
  by_cases ht : x.type = 1
  · rw [if_pos ht, if_pos ht, if_pos ht, (right_inv hr ht).2.2.2]
    show ((oneS b (ds.getD 0 0) x.client).2 && ((oneS b (ds.getD 1 0) x.key).2 && okF b ds 2 x.args) && _) = ((((oneS b (ds.getD 0 0) x.client).2 && (oneS b (ds.getD 1 0) x.key).2) && okF b ds 2 x.args) && true && _)
    simp only [Bool.and_true, Bool.and_assoc]
  · rw [if_neg ht, if_neg ht, if_neg ht]
    obtain ⟨_, _, _, h4, _, h6⟩ := right_end hr ht
    rw [h4]
    by_cases ht2 : x.type = 2
    · rw [if_pos ht2]
      show ((oneS b (ds.getD 0 0) x.client).2 && okF b ds 1 x.out && _) = ((((oneS b (ds.getD 0 0) x.client).2 && true) && true) && okF b ds 1 x.out && _)
      simp only [Bool.and_true]
    · rw [if_neg ht2, show x.out = [] from by rcases h6 with h | h; exact absurd h ht2; exact h.2]
      show ((oneS b (ds.getD 0 0) x.client).2 && true && _) = ((((oneS b (ds.getD 0 0) x.client).2 && true) && true) && true && _)
      simp only [Bool.and_true]
/-! What the document makes of a history. -/
def uevL (h : List Evt) (b : Book) (n : Nat) : List Evt := (List.range n).map fun i => uevE b (domsE h i) (((i : Nat) : Int) + 1) (h.getD i E0)
def badU (h : List Evt) (b : Book) : Option Nat := (List.range h.length).find? fun i => !okU b (domsE h i) (h.getD i E0)
def applyU (h : List Evt) (b : Book) : List Evt × Int := match badU h b with
  | some i => ([], ((i : Nat) : Int) + 1)
  | none => (uevL h b h.length, 0)
theorem uevL_step (h : List Evt) (b : Book) (n : Nat) : uevL h b n ++ [uevE b (domsE h n) (((n : Nat) : Int) + 1) (h.getD n E0)] = uevL h b (n + 1) := by unfold uevL; rw [List.range_succ, List.map_append]; rfl
theorem uevL_len (h : List Evt) (b : Book) (n : Nat) : (uevL h b n).length = n := by simp [uevL]
theorem applyU_bad {h : List Evt} {b : Book} {i : Nat} (hi : i < h.length) (h1 : ∀ j, j < i → okU b (domsE h j) (h.getD j E0) = true) (h2 : okU b (domsE h i) (h.getD i E0) = false) : applyU h b = ([], ((i : Nat) : Int) + 1) := by
  have : badU h b = some i := List.find?_range_eq_some.2 ⟨by rw [h2]; rfl, List.mem_range.2 hi, fun j hj => by rw [h1 j hj]; rfl⟩
  unfold applyU
  rw [this]
theorem applyU_good {h : List Evt} {b : Book} (h1 : ∀ j, j < h.length → okU b (domsE h j) (h.getD j E0) = true) : applyU h b = (uevL h b h.length, 0) := by
  have : badU h b = none := List.find?_range_eq_none.2 fun j hj => by rw [h1 j hj]; rfl
  unfold applyU
  rw [this]
/-! `incognito/incognitoref30.Apply` -/
theorem c_Apply30 (h : List Evt) (A : Option Addr) (c : Nat) (b : Book) (Ae : Option Addr) (ce : Nat) (Am : Option Addr) (cm : Nat) (Ar : Option Addr) (cr : Nat) (w0 : World) (G : Heap) (hG : Sub G w0) (hg0 : CellsAt G 0 0 [.int .i64 3, .int .i64 1, str []]) (hg1 : CellsAt G 1 0 [.int .i64 3, .int .i64 0, str []]) (hR : Rd kEvt G A h) (hl : h.length ≤ 1000000) (hRe : Rd kEnt G Ae b.es) (hRm : Rd kMom G Am b.ms) (hRr : Rd kRem G Ar b.rs) (hle : b.es.length ≤ 1000000000) (hlm : b.ms.length ≤ 9223372036854775807) (hlr : b.rs.length ≤ 9223372036854775807) (hok : ∀ x ∈ h, x.Wf ∧ (rightE x = true → x.out.length ≤ 1000000)) (hal : ∀ x ∈ h, rightE x = true → x.args.length ≤ 1000000) (hwf : ∀ j, j < h.length → wrongS h j = 0):
  Calls Tryd.prog 12 #[.slice A h.length c, .agg #[.int .i64 b.pol.r0.way, .int .i64 b.pol.r0.size, .int .i64 b.pol.r1.way, .int .i64 b.pol.r1.size, .int .i64 b.pol.r2.way, .int .i64 b.pol.r2.size, .int .i64 b.pol.r3.way, .int .i64 b.pol.r3.size, .int .i64 b.pol.r4.way, .int .i64 b.pol.r4.size, .int .i64 b.pol.time, .int .i64 b.pol.note, .bool b.pol.loose, .bool b.pol.force, .slice Ae b.es.length ce, .slice Am b.ms.length cm, .slice Ar b.rs.length cr]] w0 (Ret w0 G (fun v G' => ∃ A c, v = .tuple #[.slice A (applyU h b).1.length c, .int .i64 (applyU h b).2] ∧ (applyU h b).1.length ≤ c ∧ Rd kEvt G' A (applyU h b).1)) := by
 refine enter Tryd.func12 rfl Tryd.ntmps12 rfl ?_
 intro Q hQ a E
 have S := St.start0 hG
 refine sr fun K hK => ?_
 refine o_boxL [(0, _), (1, _), (2, _), (3, _), (4, _), (5, _), (6, _), (7, _), (8, _), (9, _), (10, _), (11, _), (12, _), (13, _), (14, _), (15, _), (16, _)] E rfl S rfl ⟨rfl, rfl, rfl, rfl, rfl, rfl, rfl, rfl, rfl, rfl, rfl, rfl, rfl, rfl, rfl, rfl, rfl, trivial⟩ ?_; clear E S; intro B3 w a S E
 refine rn 2 E S ?_; clear E S; intro a w E S
 apply hK; clear hK K
 refine sr fun K hK => ?_
 refine rn 1 E S ?_; clear E S; intro a w E S
 apply hK; clear hK K
 refine wp_seq_k (fun K4 hK3 => ?_)
 refine sr fun K hK => ?_
 refine rn 1 E S ?_; clear E S; intro a w E S
 apply hK; clear hK K
 refine wp_block ?_
 replace S := S.nilChunk
 have oH7 : X.Own kEvt 52 G none 0 ([] : List Evt) [] := X.Own.nil
 refine loop (fun (i : Nat) a' w' => ∃ (oA6_1 : Option Addr) (oc6_1 : Nat) (oC6_1 : Chunk), ∃ GL8, Heap.le G GL8 ∧ St w0 G [] GL8 w' [oC6_1, [(B3, Cells 32 (PC b [(14, .slice Ae b.es.length ce), (15, .slice Am b.ms.length cm), (16, .slice Ar b.rs.length cr)]))]] ∧ Env a' 141 [] [(0, .slice A h.length c), (3, .pointer (some ⟨B3, 0, none⟩)), (4, .slice none 0 0), (5, .int .i64 0), (6, .slice oA6_1 ((uevL h b i).length) oc6_1), (7, .int .i64 (i : Int))] ∧ X.Own kEvt 52 GL8 oA6_1 oc6_1 (uevL h b i) oC6_1 ∧ (i ≤ h.length ∧ ∀ j, j < i → okU b (domsE h j) (h.getD j E0) = true)) (fun (i : Nat) => h.length - i) 0 ⟨_, _, _, _, Heap.le.refl _, S, E.cut ⟨rfl, rfl, rfl, rfl, rfl, rfl, trivial⟩, X.Own.nil (K := kEvt), ⟨Nat.zero_le _, fun j hj => absurd hj (Nat.not_lt_zero _)⟩⟩ ?_
 clear E S; intro i a w ⟨oA6_1, oc6_1, oC6_1, GL8, hle9, S, E, oH6_1, ⟨hi, hall⟩⟩
 replace hg0 := hg0.le hle9
 replace hg1 := hg1.le hle9
 replace hR := hR.le hle9
 replace hRe := hRe.le hle9
 replace hRm := hRm.le hle9
 replace hRr := hRr.le hle9
 refine wp_seq_k (fun K11 hK10 => ?_)
 refine sr fun K hK => ?_
 refine rn 4 E S ?_; clear E S; intro a w E S
 apply hK; clear hK K
 refine cond E rfl (fun h13r => ?_) (fun h13r => ?_)
 ·have h13 := nm h13r
  refine wp_skip ?_
  refine hK10 _ _ ?_; clear hK10
  refine wp_seq_k (fun K15 hK14 => ?_)
  refine wp_block ?_
  refine wp_seq_k (fun K17 hK16 => ?_)
  have hwi := hwf i (by omega)
  have hrx := wrong_right hwi
  have hxo := hok _ (evm (h := h) (i := i) (by omega))
  have hwe : (h.getD i E0).Wf := hxo.1
  have hwo9 := hwe.out
  have hlo9 := hxo.2 hrx
  have hla9 := hal _ (evm (h := h) (i := i) (by omega)) hrx
  have hdo9 := domsE_own hwi
  have holn := own_len (h.getD i E0)
  have holp : 1 ≤ (ownE (h.getD i E0)).length := own_pos _
  have holb := own_le hla9 hlo9
  have holi : (h.getD i E0).type = 1 → 2 ≤ (ownE (h.getD i E0)).length := fun h_9 => by rw [holn, if_pos h_9]; omega
  have hi18 : (i : Int).toNat < h.length := by omega
  obtain ⟨eb18, eo18, hA18, el18⟩ := Rd.at hR (List.getElem?_eq_getElem hi18); cases hA18
  rw [show h[(i : Int).toNat] = (h.getD i E0) from getD_get (i := i) hi18 _] at el18
  obtain ⟨A1_18, c1_18, A2_18, c2_18, el18, ha1_18, hr1_18, ha2_18, hr2_18⟩ := kEvt_open el18
  refine drawnP [fun v => v = .agg #[.int .i64 b.pol.r0.way, .int .i64 b.pol.r0.size, .int .i64 b.pol.r1.way, .int .i64 b.pol.r1.size, .int .i64 b.pol.r2.way, .int .i64 b.pol.r2.size, .int .i64 b.pol.r3.way, .int .i64 b.pol.r3.size, .int .i64 b.pol.r4.way, .int .i64 b.pol.r4.size, .int .i64 b.pol.time, .int .i64 b.pol.note, .bool b.pol.loose, .bool b.pol.force, .slice Ae b.es.length ce, .slice Am b.ms.length cm, .slice Ar b.rs.length cr], fun v => v = .slice (some ⟨eb18, eo18, none⟩) h.length c, fun v => v = .int .i64 (i : Int), fun v => v = .pointer (some ⟨eb18, eo18 + (i : Int).toNat * 14, none⟩), fun v => v = .pointer (some ⟨eb18, eo18 + (i : Int).toNat * 14 + 0, none⟩), fun v => v = .int .i64 ((h.getD i E0).time), fun v => v = .tuple #[.int .i64 ((timeS b ((h.getD i E0).time)).1), .bool ((timeS b ((h.getD i E0).time)).2)], fun v => v = .tuple #[.int .i64 ((timeS b ((h.getD i E0).time)).1), .bool ((timeS b ((h.getD i E0).time)).2)], fun v => v = .int .i64 ((timeS b ((h.getD i E0).time)).1), fun v => v = .bool ((timeS b ((h.getD i E0).time)).2), fun v => v = .int .i64 ((timeS b ((h.getD i E0).time)).1), fun v => v = .bool ((timeS b ((h.getD i E0).time)).2)] T.mix rfl E S rfl ⟨?_, ?_, ?_, ?_, ?_, ?_, ?_, ?_, ?_, ?_, ?_, ?_, trivial⟩ ?_
  ·intro a w G1 hl S E hp
   refine o_ldA E rfl S rfl T.a32 (.there (.here .here)) rfl ?_; clear E; intro a E
   exact ⟨_, _, S, rfl, E.get _ _ rfl, E.defers, rfl⟩
  ·intro a w G1 hl S E hp
   refine o_move E rfl rfl ?_; clear E; intro a E
   exact ⟨_, _, S, rfl, E.get _ _ rfl, E.defers, rfl⟩
  ·intro a w G1 hl S E hp
   refine o_move E rfl rfl ?_; clear E; intro a E
   exact ⟨_, _, S, rfl, E.get _ _ rfl, E.defers, rfl⟩
  ·intro a w G1 hl S E hp
   obtain ⟨_, e1, rfl⟩ := hp 1 25 _ rfl rfl rfl; replace E := E.add e1
   obtain ⟨_, e2, rfl⟩ := hp 2 26 _ rfl rfl rfl; replace E := E.add e2
   refine o_ixL E rfl rfl rfl T.l22 ⟨by omega, by omega⟩ ?_; clear E; intro a E
   exact ⟨_, _, S, rfl, E.get _ _ rfl, E.defers, rfl⟩
  ·intro a w G1 hl S E hp
   obtain ⟨_, e3, rfl⟩ := hp 3 27 _ rfl rfl rfl; replace E := E.add e3
   refine o_fld E rfl rfl T.f52_0 ?_; clear E; intro a E
   exact ⟨_, _, S, rfl, E.get _ _ rfl, E.defers, rfl⟩
  ·intro a w G1 hl S E hp
   obtain ⟨_, e4, rfl⟩ := hp 4 28 _ rfl rfl rfl; replace E := E.add e4
   refine o_ldI E rfl S rfl T.s2 (el18.le hl) (j := 0) rfl rfl ?_; clear E; intro a E
   exact ⟨_, _, S, rfl, E.get _ _ rfl, E.defers, rfl⟩
  ·intro a w G1 hl S E hp
   obtain ⟨_, e0, rfl⟩ := hp 0 24 _ rfl rfl rfl; replace E := E.add e0
   obtain ⟨_, e5, rfl⟩ := hp 5 29 _ rfl rfl rfl; replace E := E.add e5
   refine o_callP E rfl S rfl rfl T.g26 (c_time30 b _ _ _ _ _ _ ((h.getD i E0).time) _ _ S.sub (hRe.le hl) (hRm.le hl) (hRr.le hl) hle hlm hlr) ?_
   clear E S; rintro _ w a S rfl E
   exact ⟨_, _, S, rfl, E.get _ _ rfl, E.defers, rfl⟩
  ·intro a w G1 hl S E hp
   obtain ⟨_, e6, rfl⟩ := hp 6 30 _ rfl rfl rfl; replace E := E.add e6
   refine o_move E rfl rfl ?_; clear E; intro a E
   exact ⟨_, _, S, rfl, E.get _ _ rfl, E.defers, rfl⟩
  ·intro a w G1 hl S E hp
   obtain ⟨_, e7, rfl⟩ := hp 7 23 _ rfl rfl rfl; replace E := E.add e7
   refine o_extract E rfl rfl rfl ?_; clear E; intro a E
   exact ⟨_, _, S, rfl, E.get _ _ rfl, E.defers, rfl⟩
  ·intro a w G1 hl S E hp
   obtain ⟨_, e7, rfl⟩ := hp 7 23 _ rfl rfl rfl; replace E := E.add e7
   refine o_extract E rfl rfl rfl ?_; clear E; intro a E
   exact ⟨_, _, S, rfl, E.get _ _ rfl, E.defers, rfl⟩
  ·intro a w G1 hl S E hp
   obtain ⟨_, e8, rfl⟩ := hp 8 31 _ rfl rfl rfl; replace E := E.add e8
   refine o_assign E rfl rfl ?_; clear E; intro a E
   exact ⟨_, _, S, rfl, E.get _ _ rfl, E.defers, rfl⟩
  ·intro a w G1 hl S E hp
   obtain ⟨_, e9, rfl⟩ := hp 9 32 _ rfl rfl rfl; replace E := E.add e9
   refine o_assign E rfl rfl ?_; clear E; intro a E
   exact ⟨_, _, S, rfl, E.get _ _ rfl, E.defers, rfl⟩
  clear E S; intro a w S E hp
  obtain ⟨_, e10, rfl⟩ := hp 10 8 _ rfl rfl; replace E := E.add e10
  obtain ⟨_, e11, rfl⟩ := hp 11 9 _ rfl rfl; replace E := E.add e11
  clear hp
  refine hK16 _ _ ?_; clear hK16
  refine sr fun K hK => ?_
  refine rn 2 E S ?_; clear E S; intro a w E S
  refine o_ixL E rfl rfl rfl T.l22 ⟨by omega, by omega⟩ ?_; clear E; intro a E
  refine o_ldIA E rfl S rfl el18 T.a52 ?_; clear E; intro a E
  replace S := S.nilChunk
  refine o_callM (A := []) (C := []) E rfl S rfl rfl T.g27 (c_Own (h.getD i E0) _ _ _ _ _ _ S.sub hr1_18 hr2_18 ha1_18 ha2_18 (by omega) (by omega)) ?_ (fun _ _ _ _ _ _ h => h.elim)
  clear E S; rintro _ G19 oC19 w a S hle19 ⟨oA19, oc19, rfl, oH19⟩ E
  replace hg0 := hg0.le hle19
  replace hg1 := hg1.le hle19
  replace hR := hR.le hle19
  replace hRe := hRe.le hle19
  replace hRm := hRm.le hle19
  replace hRr := hRr.le hle19
  replace oH6_1 := oH6_1.le hle19
  refine rn 1 E S ?_; clear E S; intro a w E S
  apply hK; clear hK K
  refine sr fun K hK => ?_
  refine rn 2 E S ?_; clear E S; intro a w E S
  refine o_call E rfl S rfl rfl T.g28 (c_Dom28 h _ _ i _ _ S.sub hR (by omega) (by omega) hwo9 (by omega)) ?_
  clear E S; rintro _ G21 w a S hle21 ⟨vA21, vc21, rfl, hcp21, hR21⟩ E
  replace hg0 := hg0.le hle21
  replace hg1 := hg1.le hle21
  replace hR := hR.le hle21
  replace hRe := hRe.le hle21
  replace hRm := hRm.le hle21
  replace hRr := hRr.le hle21
  replace oH6_1 := oH6_1.le hle21
  replace oH19 := oH19.le hle21
  refine rn 1 E S ?_; clear E S; intro a w E S
  apply hK; clear hK K
  refine wp_seq_k (fun K24 hK23 => ?_)
  refine sr fun K hK => ?_
  refine rn 1 E S ?_; clear E S; intro a w E S
  apply hK; clear hK K
  refine wp_block ?_
  refine loop (fun (q : Nat × Bool) a' w' => ∃ (oA10_2 : Option Addr) (oc10_2 : Nat) (oC10_2 : Chunk), ∃ GL26, Heap.le G21 GL26 ∧ St w0 G [] GL26 w' [oC10_2, oC6_1, [(B3, Cells 32 (PC b [(14, .slice Ae b.es.length ce), (15, .slice Am b.ms.length cm), (16, .slice Ar b.rs.length cr)]))]] ∧ Env a' 141 [] [(0, .slice (some ⟨eb18, eo18, none⟩) h.length c), (3, .pointer (some ⟨B3, 0, none⟩)), (4, .slice none 0 0), (5, .int .i64 0), (6, .slice oA6_1 ((uevL h b i).length) oc6_1), (7, .int .i64 (i : Int)), (8, .int .i64 ((timeS b ((h.getD i E0).time)).1)), (9, .bool q.2), (10, .slice oA10_2 ((stF b (domsE h i) 0 (ownE (h.getD i E0)) q.1).length) oc10_2), (11, .slice vA21 (((domsE h i)).length) vc21), (12, .int .i64 ((q.1 : Nat) : Int))] ∧ X.Own kVal 49 GL26 oA10_2 oc10_2 (stF b (domsE h i) 0 (ownE (h.getD i E0)) q.1) oC10_2 ∧ (q.1 ≤ (ownE (h.getD i E0)).length ∧ q.2 = ((timeS b (h.getD i E0).time).2 && okF b (domsE h i) 0 ((ownE (h.getD i E0)).take q.1)))) (fun (q : Nat × Bool) => (ownE (h.getD i E0)).length - q.1) (0, (timeS b (h.getD i E0).time).2) ⟨_, _, _, _, Heap.le.refl _, S, E.cut ⟨rfl, rfl, rfl, rfl, rfl, rfl, rfl, rfl, rfl, rfl, rfl, trivial⟩, oH19, ⟨Nat.zero_le _, (Bool.and_true _).symm⟩⟩ ?_
  clear E S; intro q a w ⟨oA10_2, oc10_2, oC10_2, GL26, hle27, S, E, oH10_2, ⟨hqi, hoq⟩⟩
  replace hg0 := hg0.le hle27
  replace hg1 := hg1.le hle27
  replace hR := hR.le hle27
  replace hRe := hRe.le hle27
  replace hRm := hRm.le hle27
  replace hRr := hRr.le hle27
  replace hR21 := hR21.le hle27
  replace oH6_1 := oH6_1.le hle27
  refine wp_seq_k (fun K29 hK28 => ?_)
  refine sr fun K hK => ?_
  refine rn 4 E S ?_; clear E S; intro a w E S
  apply hK; clear hK K
  refine cond E rfl (fun h31r => ?_) (fun h31r => ?_)
  ·have h31 := nm h31r
   refine wp_skip ?_
   refine hK28 _ _ ?_; clear hK28
   refine wp_seq_k (fun K33 hK32 => ?_)
   refine wp_block ?_
   refine wp_seq_k (fun K35 hK34 => ?_)
   refine sr fun K hK => ?_
   have hsl9 := stF_len b (domsE h i) 0 (ownE (h.getD i E0)) q.1
   have hvw : (stF b (domsE h i) 0 (ownE (h.getD i E0)) q.1).getD q.1 ⟨0, 0, []⟩ |>.Wf := by rw [stF_get b (domsE h i) (ownE (h.getD i E0)) 0 q.1 (by omega)]; exact own_wf hwe _ (val_mem (l := (ownE (h.getD i E0))) (i := q.1) (by omega))
   have hrv9 : rightV ((ownE (h.getD i E0)).getD q.1 ⟨0, 0, []⟩) = true := own_right hrx _ (val_mem (l := (ownE (h.getD i E0))) (i := q.1) (by omega))
   have hdn9 : 0 ≤ (domsE h i).getD q.1 0 := domsE_nn h i _ (by rw [List.getD_eq_getElem?_getD, List.getElem?_eq_getElem (show q.1 < (domsE h i).length by omega)]; exact List.getElem_mem _)
   refine rn 2 E S ?_; clear E S; intro a w E S
   have hi36 : ((q.1 : Nat) : Int).toNat < (domsE h i).length := by omega
   obtain ⟨eb36, eo36, hA36, el36⟩ := Rd.at hR21 (List.getElem?_eq_getElem hi36); cases hA36
   rw [show (domsE h i)[((q.1 : Nat) : Int).toNat] = ((domsE h i).getD q.1 0) from getD_get (i := q.1) hi36 _] at el36
   have el36 := kof_open el36
   refine o_ixL E rfl rfl rfl T.l59 ⟨by omega, by omega⟩ ?_; clear E; intro a E
   refine o_ldI E rfl S rfl T.s3 el36 (j := 0) rfl rfl ?_; clear E; intro a E
   refine rn 2 E S ?_; clear E S; intro a w E S
   refine cutG 7 59 (.bool ((decide (4 < ((domsE h i).getD q.1 0))) || (!(nameB ((stF b (domsE h i) 0 (ownE (h.getD i E0)) q.1).getD q.1 ⟨0, 0, []⟩))))) E S ?_ ?_
   ·refine bsp E (t := 52) rfl (fun hb37 => ?_) (fun hb37 => ?_)
    ·refine rn 7 E S ?_; clear E S; intro a w E S
     exact ⟨S, E.cutT (by rw [hb37] <;> rfl)⟩
    ·have hk38 := nm hb37
     refine rn 2 E S ?_; clear E S; intro a w E S
     refine op_on E rfl rfl hb37 ?_
     have hi39 : q.1 < (stF b (domsE h i) 0 (ownE (h.getD i E0)) q.1).length := by first | omega | (simp; omega)
     obtain ⟨ob39, hA39⟩ := X.Own.blk oH10_2 hi39; cases hA39
     refine o_ixL E rfl rfl rfl T.l50 ⟨by omega, by omega⟩ ?_; clear E; intro a E
     refine op_on E rfl rfl hb37 ?_
     refine X.o_ldOV (i := q.1) E rfl S rfl T.a49 .here oH10_2 (by omega) (by first | exact hi39 | (simp; omega)) ?_; clear E; intro a E
     refine op_on E rfl rfl hb37 ?_
     refine o_callP E rfl S rfl rfl T.g24 (c_Name7 ((stF b (domsE h i) 0 (ownE (h.getD i E0)) q.1).getD q.1 ⟨0, 0, []⟩) _ _ S.sub (by first | assumption | exact parse_wf (by omega) | (constructor <;> first | assumption | (simp only [I64]; omega) | (simp; omega)))) ?_
     clear E S; rintro _ w a S rfl E
     refine rn 2 E S ?_; clear E S; intro a w E S
     exact ⟨S, E.cutT (by rw [hb37] <;> rfl)⟩
   clear E S; intro a w E S
   refine rn 1 E S ?_; clear E S; intro a w E S
   refine cutG 11 71 (.bool (((decide (4 < ((domsE h i).getD q.1 0))) || (!(nameB ((stF b (domsE h i) 0 (ownE (h.getD i E0)) q.1).getD q.1 ⟨0, 0, []⟩)))) || (decide ((wayP b.pol ((domsE h i).getD q.1 0)) = 0)))) E S ?_ ?_
   ·refine bsp E (t := 60) rfl (fun hb40 => ?_) (fun hb40 => ?_)
    ·refine rn 11 E S ?_; clear E S; intro a w E S
     exact ⟨S, E.cutT (by rw [hb40] <;> rfl)⟩
    ·have hk41 := nm hb40
     refine rn 2 E S ?_; clear E S; intro a w E S
     refine op_on E rfl rfl hb40 ?_
     refine o_ixL E rfl rfl rfl T.l59 ⟨by omega, by omega⟩ ?_; clear E; intro a E
     refine op_on E rfl rfl hb40 ?_
     refine o_ldI E rfl S rfl T.s3 el36 (j := 0) rfl rfl ?_; clear E; intro a E
     refine rn 2 E S ?_; clear E S; intro a w E S
     refine op_on E rfl rfl hb40 ?_
     refine o_ixA E rfl rfl rfl T.r25 (by omega) ?_; clear E; intro a E
     refine rn 1 E S ?_; clear E S; intro a w E S
     refine op_on E rfl rfl hb40 ?_
     refine o_ld E rfl S rfl T.s3 (.there (.there (.here .here))) (v := .int .i64 (wayP b.pol ((domsE h i).getD q.1 0))) (by (try have hbk := hb); (try simp only [Bool.not_eq_true', Bool.not_eq_false', Bool.and_eq_true, Bool.or_eq_false_iff, decide_eq_true_eq, decide_eq_false_iff_not] at hbk); have hd9 := hdn9; rcases (show ((domsE h i).getD q.1 0) = 0 ∨ ((domsE h i).getD q.1 0) = 1 ∨ ((domsE h i).getD q.1 0) = 2 ∨ ((domsE h i).getD q.1 0) = 3 ∨ ((domsE h i).getD q.1 0) = 4 from by omega) with e | e | e | e | e <;> rw [e] <;> rfl) ?_; clear E; intro a E
     refine rn 2 E S ?_; clear E S; intro a w E S
     exact ⟨S, E.cutT (by rw [hb40] <;> rfl)⟩
   clear E S; intro a w E S
   apply hK; clear hK K
   refine cond E rfl (fun h43r => ?_) (fun h43r => ?_)
   ·have h43 := nm h43r
    refine wp_exit ?_
    refine hK32 _ _ ?_; clear hK32
    refine wp_region_lit ?_
    refine rn 3 E S ?_; clear E S; intro a w E S
    have hkp9 : keepB b ((domsE h i).getD (0 + q.1) 0) ((ownE (h.getD i E0)).getD q.1 ⟨0, 0, []⟩) = true := by have := h43r; rw [stF_get b (domsE h i) (ownE (h.getD i E0)) 0 q.1 (by omega), ref_keep hrv9] at this; rw [Nat.zero_add]; exact this
    have hok2 : (q.2) = ((timeS b (h.getD i E0).time).2 && okF b (domsE h i) 0 ((ownE (h.getD i E0)).take (q.1 + 1))) := by
     rw [okF_step b (domsE h i) (ownE (h.getD i E0)) 0 q.1 (by omega), ← Bool.and_assoc, ← hoq, one_keep hkp9, Bool.and_true]
    have hxs : (stF b (domsE h i) 0 (ownE (h.getD i E0)) q.1) = stF b (domsE h i) 0 (ownE (h.getD i E0)) (q.1 + 1) := stF_keep (by omega) hkp9
    rw [hxs] at oH10_2; clear hxs; rw [show (stF b (domsE h i) 0 (ownE (h.getD i E0)) q.1).length = (stF b (domsE h i) 0 (ownE (h.getD i E0)) (q.1 + 1)).length by rw [stF_len, stF_len]] at E
    exact ⟨(q.1 + 1, q.2), ⟨_, _, _, _, hle27, S, E.cut ⟨rfl, rfl, rfl, rfl, rfl, rfl, rfl, rfl, rfl, rfl, rfl, trivial⟩, oH10_2, ⟨by dsimp only; omega, hok2⟩⟩, by show (ownE (h.getD i E0)).length - (q.1 + 1) < _; omega⟩
   ·have h43 := nm h43r
    refine wp_skip ?_
    refine hK34 _ _ ?_; clear hK34
    refine wp_seq_k (fun K45 hK44 => ?_)
    have hi46 : q.1 < (stF b (domsE h i) 0 (ownE (h.getD i E0)) q.1).length := by first | omega | (simp; omega)
    obtain ⟨ob46, hA46⟩ := X.Own.blk oH10_2 hi46; cases hA46
    replace E := E.cut (L' := [(0, .slice (some ⟨eb18, eo18, none⟩) h.length c), (3, .pointer (some ⟨B3, 0, none⟩)), (4, .slice none 0 0), (5, .int .i64 0), (6, .slice oA6_1 ((uevL h b i).length) oc6_1), (7, .int .i64 (i : Int)), (8, .int .i64 ((timeS b ((h.getD i E0).time)).1)), (9, .bool q.2), (10, .slice (some ⟨ob46, 0, none⟩) ((stF b (domsE h i) 0 (ownE (h.getD i E0)) q.1).length) oc10_2), (11, .slice (some ⟨eb36, eo36, none⟩) (((domsE h i)).length) vc21), (12, .int .i64 ((q.1 : Nat) : Int)), (41, .int .i64 ((q.1 : Nat) : Int)), (42, .slice (some ⟨ob46, 0, none⟩) ((stF b (domsE h i) 0 (ownE (h.getD i E0)) q.1).length) oc10_2), (43, .int .i64 ((stF b (domsE h i) 0 (ownE (h.getD i E0)) q.1).length : Int)), (44, .bool (decide (((q.1 : Nat) : Int) < ((stF b (domsE h i) 0 (ownE (h.getD i E0)) q.1).length : Int)))), (47, .slice (some ⟨eb36, eo36, none⟩) (((domsE h i)).length) vc21), (48, .int .i64 ((q.1 : Nat) : Int)), (49, .pointer (some ⟨eb36, eo36 + ((q.1 : Nat) : Int).toNat * 1, none⟩)), (50, .int .i64 ((domsE h i).getD q.1 0)), (51, .bool (decide (4 < ((domsE h i).getD q.1 0)))), (52, .bool (decide (4 < ((domsE h i).getD q.1 0)))), (59, .bool ((decide (4 < ((domsE h i).getD q.1 0))) || (!(nameB ((stF b (domsE h i) 0 (ownE (h.getD i E0)) q.1).getD q.1 ⟨0, 0, []⟩))))), (60, .bool ((decide (4 < ((domsE h i).getD q.1 0))) || (!(nameB ((stF b (domsE h i) 0 (ownE (h.getD i E0)) q.1).getD q.1 ⟨0, 0, []⟩))))), (71, .bool (((decide (4 < ((domsE h i).getD q.1 0))) || (!(nameB ((stF b (domsE h i) 0 (ownE (h.getD i E0)) q.1).getD q.1 ⟨0, 0, []⟩)))) || (decide ((wayP b.pol ((domsE h i).getD q.1 0)) = 0))))]) ⟨rfl, rfl, rfl, rfl, rfl, rfl, rfl, rfl, rfl, rfl, rfl, rfl, rfl, rfl, rfl, rfl, rfl, rfl, rfl, rfl, rfl, rfl, rfl, rfl, trivial⟩
    refine drawnA (fun f tm G' w => GL26 = G' ∧ ∃ X14_ : List Chunk, St w0 G [] G' w (X14_ ++ [oC10_2, oC6_1, [(B3, Cells 32 (PC b [(14, .slice Ae b.es.length ce), (15, .slice Am b.ms.length cm), (16, .slice Ar b.rs.length cr)]))]]) ∧ ((f 14 = false ∧ X14_ = []) ∨ (f 14 = true ∧ ∃ B13 : Nat, tm 13 = some (.pointer (some ⟨B13, 0, none⟩)) ∧ X14_ = [[(B13, Cells 49 [(0, bif f 15 then .int .i64 ((realS b.es ((domsE h i).getD q.1 0) ((stF b (domsE h i) 0 (ownE (h.getD i E0)) q.1).getD q.1 ⟨0, 0, []⟩)).1.k) else .int .i64 0), (1, bif f 15 then .int .i64 ((realS b.es ((domsE h i).getD q.1 0) ((stF b (domsE h i) 0 (ownE (h.getD i E0)) q.1).getD q.1 ⟨0, 0, []⟩)).1.n) else .int .i64 0), (2, bif f 15 then str ((realS b.es ((domsE h i).getD q.1 0) ((stF b (domsE h i) 0 (ownE (h.getD i E0)) q.1).getD q.1 ⟨0, 0, []⟩)).1.s) else str [])])]]))) [fun v _ => v = .pointer (some ⟨B3, 14, none⟩), fun v _ => v = .slice Ae b.es.length ce, fun v _ => v = .slice (some ⟨eb36, eo36, none⟩) (((domsE h i)).length) vc21, fun v _ => v = .int .i64 ((q.1 : Nat) : Int), fun v _ => v = .pointer (some ⟨eb36, eo36 + ((q.1 : Nat) : Int).toNat * 1, none⟩), fun v _ => v = .int .i64 ((domsE h i).getD q.1 0), fun v _ => v = .slice (some ⟨ob46, 0, none⟩) ((stF b (domsE h i) 0 (ownE (h.getD i E0)) q.1).length) oc10_2, fun v _ => v = .int .i64 ((q.1 : Nat) : Int), fun v _ => v = .pointer (some ⟨ob46, 0 + ((q.1 : Nat) : Int).toNat * 3, none⟩), fun v _ => v = .agg #[.int .i64 (((stF b (domsE h i) 0 (ownE (h.getD i E0)) q.1).getD q.1 ⟨0, 0, []⟩).k), .int .i64 (((stF b (domsE h i) 0 (ownE (h.getD i E0)) q.1).getD q.1 ⟨0, 0, []⟩).n), str (((stF b (domsE h i) 0 (ownE (h.getD i E0)) q.1).getD q.1 ⟨0, 0, []⟩).s)], fun v _ => v = .tuple #[.agg #[.int .i64 ((realS b.es ((domsE h i).getD q.1 0) ((stF b (domsE h i) 0 (ownE (h.getD i E0)) q.1).getD q.1 ⟨0, 0, []⟩)).1.k), .int .i64 ((realS b.es ((domsE h i).getD q.1 0) ((stF b (domsE h i) 0 (ownE (h.getD i E0)) q.1).getD q.1 ⟨0, 0, []⟩)).1.n), str ((realS b.es ((domsE h i).getD q.1 0) ((stF b (domsE h i) 0 (ownE (h.getD i E0)) q.1).getD q.1 ⟨0, 0, []⟩)).1.s)], .bool ((realS b.es ((domsE h i).getD q.1 0) ((stF b (domsE h i) 0 (ownE (h.getD i E0)) q.1).getD q.1 ⟨0, 0, []⟩)).2)], fun v _ => v = .tuple #[.agg #[.int .i64 ((realS b.es ((domsE h i).getD q.1 0) ((stF b (domsE h i) 0 (ownE (h.getD i E0)) q.1).getD q.1 ⟨0, 0, []⟩)).1.k), .int .i64 ((realS b.es ((domsE h i).getD q.1 0) ((stF b (domsE h i) 0 (ownE (h.getD i E0)) q.1).getD q.1 ⟨0, 0, []⟩)).1.n), str ((realS b.es ((domsE h i).getD q.1 0) ((stF b (domsE h i) 0 (ownE (h.getD i E0)) q.1).getD q.1 ⟨0, 0, []⟩)).1.s)], .bool ((realS b.es ((domsE h i).getD q.1 0) ((stF b (domsE h i) 0 (ownE (h.getD i E0)) q.1).getD q.1 ⟨0, 0, []⟩)).2)], fun v _ => v = .agg #[.int .i64 ((realS b.es ((domsE h i).getD q.1 0) ((stF b (domsE h i) 0 (ownE (h.getD i E0)) q.1).getD q.1 ⟨0, 0, []⟩)).1.k), .int .i64 ((realS b.es ((domsE h i).getD q.1 0) ((stF b (domsE h i) 0 (ownE (h.getD i E0)) q.1).getD q.1 ⟨0, 0, []⟩)).1.n), str ((realS b.es ((domsE h i).getD q.1 0) ((stF b (domsE h i) 0 (ownE (h.getD i E0)) q.1).getD q.1 ⟨0, 0, []⟩)).1.s)], fun v _ => v = .bool ((realS b.es ((domsE h i).getD q.1 0) ((stF b (domsE h i) 0 (ownE (h.getD i E0)) q.1).getD q.1 ⟨0, 0, []⟩)).2), fun _ _ => True, fun _ _ => True, fun v _ => v = .bool ((realS b.es ((domsE h i).getD q.1 0) ((stF b (domsE h i) 0 (ownE (h.getD i E0)) q.1).getD q.1 ⟨0, 0, []⟩)).2)] [] T.mix rfl E ⟨rfl, [], S.drew, .inl ⟨rfl, rfl⟩⟩ rfl (by simp) (AllM.get ⟨fun _ _ _ _ h => h, fun _ _ _ _ h => h, fun _ _ _ _ h => h, fun _ _ _ _ h => h, fun _ _ _ _ h => h, fun _ _ _ _ h => h, fun _ _ _ _ h => h, fun _ _ _ _ h => h, fun _ _ _ _ h => h, fun _ _ _ _ h => h, fun _ _ _ _ h => h, fun _ _ _ _ h => h, fun _ _ _ _ h => h, fun _ _ _ _ h => h, fun _ _ _ _ h => h, fun _ _ _ _ h => h, fun _ _ _ _ h => h, trivial⟩) ⟨?_, ?_, ?_, ?_, ?_, ?_, ?_, ?_, ?_, ?_, ?_, ?_, ?_, ?_, ?_, ?_, ?_, trivial⟩ ?_
    ·intro a w G1 f hcl hfi hon hW E hp hO; obtain ⟨rfl, X14_, S, hX14⟩ := hW
     rcases hX14 with ⟨hfa14, rfl⟩ | ⟨hfa14, B13, hB14, rfl⟩
     ·simp only [List.nil_append] at S
      refine o_fld E rfl rfl T.f32_1 ?_; clear E; intro a E
      exact ⟨_, _, Heap.le.refl _, ⟨rfl, [], S, .inl ⟨(by show (Nat.beq 14 0 || f 14) = false; rw [hfa14]; rfl), rfl⟩⟩, fun d hd => (by cases hd; exact E.get _ _ rfl), E.defers, rfl⟩
     ·replace E := E.add hB14; simp only [List.cons_append, List.nil_append] at S
      refine o_fld E rfl rfl T.f32_1 ?_; clear E; intro a E
      exact ⟨_, _, Heap.le.refl _, ⟨rfl, [_], S, .inr ⟨(by show (Nat.beq 14 0 || f 14) = true; rw [hfa14]; rfl), _, E.get _ _ rfl, rfl⟩⟩, fun d hd => (by cases hd; exact E.get _ _ rfl), E.defers, rfl⟩
    ·intro a w G1 f hcl hfi hon hW E hp hO; obtain ⟨rfl, X14_, S, hX14⟩ := hW
     obtain ⟨_, e0, rfl⟩ := hp 0 73 _ (hon 0 rfl) rfl rfl; replace E := E.add e0
     rcases hX14 with ⟨hfa14, rfl⟩ | ⟨hfa14, B13, hB14, rfl⟩
     ·simp only [List.nil_append] at S
      refine o_ld E rfl S rfl T.s28 (.there (.there (.here .here))) rfl ?_; clear E; intro a E
      exact ⟨_, _, Heap.le.refl _, ⟨rfl, [], S, .inl ⟨(by show (Nat.beq 14 1 || f 14) = false; rw [hfa14]; rfl), rfl⟩⟩, fun d hd => (by cases hd; exact E.get _ _ rfl), E.defers, rfl⟩
     ·replace E := E.add hB14; simp only [List.cons_append, List.nil_append] at S
      refine o_ld E rfl S rfl T.s28 (.there (.there (.there (.here .here)))) rfl ?_; clear E; intro a E
      exact ⟨_, _, Heap.le.refl _, ⟨rfl, [_], S, .inr ⟨(by show (Nat.beq 14 1 || f 14) = true; rw [hfa14]; rfl), _, E.get _ _ rfl, rfl⟩⟩, fun d hd => (by cases hd; exact E.get _ _ rfl), E.defers, rfl⟩
    ·intro a w G1 f hcl hfi hon hW E hp hO; obtain ⟨rfl, X14_, S, hX14⟩ := hW
     rcases hX14 with ⟨hfa14, rfl⟩ | ⟨hfa14, B13, hB14, rfl⟩
     ·simp only [List.nil_append] at S
      refine o_move E rfl rfl ?_; clear E; intro a E
      exact ⟨_, _, Heap.le.refl _, ⟨rfl, [], S, .inl ⟨(by show (Nat.beq 14 2 || f 14) = false; rw [hfa14]; rfl), rfl⟩⟩, fun d hd => (by cases hd; exact E.get _ _ rfl), E.defers, rfl⟩
     ·replace E := E.add hB14; simp only [List.cons_append, List.nil_append] at S
      refine o_move E rfl rfl ?_; clear E; intro a E
      exact ⟨_, _, Heap.le.refl _, ⟨rfl, [_], S, .inr ⟨(by show (Nat.beq 14 2 || f 14) = true; rw [hfa14]; rfl), _, E.get _ _ rfl, rfl⟩⟩, fun d hd => (by cases hd; exact E.get _ _ rfl), E.defers, rfl⟩
    ·intro a w G1 f hcl hfi hon hW E hp hO; obtain ⟨rfl, X14_, S, hX14⟩ := hW
     rcases hX14 with ⟨hfa14, rfl⟩ | ⟨hfa14, B13, hB14, rfl⟩
     ·simp only [List.nil_append] at S
      refine o_move E rfl rfl ?_; clear E; intro a E
      exact ⟨_, _, Heap.le.refl _, ⟨rfl, [], S, .inl ⟨(by show (Nat.beq 14 3 || f 14) = false; rw [hfa14]; rfl), rfl⟩⟩, fun d hd => (by cases hd; exact E.get _ _ rfl), E.defers, rfl⟩
     ·replace E := E.add hB14; simp only [List.cons_append, List.nil_append] at S
      refine o_move E rfl rfl ?_; clear E; intro a E
      exact ⟨_, _, Heap.le.refl _, ⟨rfl, [_], S, .inr ⟨(by show (Nat.beq 14 3 || f 14) = true; rw [hfa14]; rfl), _, E.get _ _ rfl, rfl⟩⟩, fun d hd => (by cases hd; exact E.get _ _ rfl), E.defers, rfl⟩
    ·intro a w G1 f hcl hfi hon hW E hp hO; obtain ⟨rfl, X14_, S, hX14⟩ := hW
     obtain ⟨_, e2, rfl⟩ := hp 2 75 _ (hon 2 rfl) rfl rfl; replace E := E.add e2
     obtain ⟨_, e3, rfl⟩ := hp 3 76 _ (hon 3 rfl) rfl rfl; replace E := E.add e3
     rcases hX14 with ⟨hfa14, rfl⟩ | ⟨hfa14, B13, hB14, rfl⟩
     ·simp only [List.nil_append] at S
      refine o_ixL E rfl rfl rfl T.l59 ⟨by omega, by omega⟩ ?_; clear E; intro a E
      exact ⟨_, _, Heap.le.refl _, ⟨rfl, [], S, .inl ⟨(by show (Nat.beq 14 4 || f 14) = false; rw [hfa14]; rfl), rfl⟩⟩, fun d hd => (by cases hd; exact E.get _ _ rfl), E.defers, rfl⟩
     ·replace E := E.add hB14; simp only [List.cons_append, List.nil_append] at S
      refine o_ixL E rfl rfl rfl T.l59 ⟨by omega, by omega⟩ ?_; clear E; intro a E
      exact ⟨_, _, Heap.le.refl _, ⟨rfl, [_], S, .inr ⟨(by show (Nat.beq 14 4 || f 14) = true; rw [hfa14]; rfl), _, E.get _ _ rfl, rfl⟩⟩, fun d hd => (by cases hd; exact E.get _ _ rfl), E.defers, rfl⟩
    ·intro a w G1 f hcl hfi hon hW E hp hO; obtain ⟨rfl, X14_, S, hX14⟩ := hW
     obtain ⟨_, e4, rfl⟩ := hp 4 77 _ (hon 4 rfl) rfl rfl; replace E := E.add e4
     rcases hX14 with ⟨hfa14, rfl⟩ | ⟨hfa14, B13, hB14, rfl⟩
     ·simp only [List.nil_append] at S
      refine o_ldI E rfl S rfl T.s3 el36 (j := 0) rfl rfl ?_; clear E; intro a E
      exact ⟨_, _, Heap.le.refl _, ⟨rfl, [], S, .inl ⟨(by show (Nat.beq 14 5 || f 14) = false; rw [hfa14]; rfl), rfl⟩⟩, fun d hd => (by cases hd; exact E.get _ _ rfl), E.defers, rfl⟩
     ·replace E := E.add hB14; simp only [List.cons_append, List.nil_append] at S
      refine o_ldI E rfl S rfl T.s3 el36 (j := 0) rfl rfl ?_; clear E; intro a E
      exact ⟨_, _, Heap.le.refl _, ⟨rfl, [_], S, .inr ⟨(by show (Nat.beq 14 5 || f 14) = true; rw [hfa14]; rfl), _, E.get _ _ rfl, rfl⟩⟩, fun d hd => (by cases hd; exact E.get _ _ rfl), E.defers, rfl⟩
    ·intro a w G1 f hcl hfi hon hW E hp hO; obtain ⟨rfl, X14_, S, hX14⟩ := hW
     rcases hX14 with ⟨hfa14, rfl⟩ | ⟨hfa14, B13, hB14, rfl⟩
     ·simp only [List.nil_append] at S
      refine o_move E rfl rfl ?_; clear E; intro a E
      exact ⟨_, _, Heap.le.refl _, ⟨rfl, [], S, .inl ⟨(by show (Nat.beq 14 6 || f 14) = false; rw [hfa14]; rfl), rfl⟩⟩, fun d hd => (by cases hd; exact E.get _ _ rfl), E.defers, rfl⟩
     ·replace E := E.add hB14; simp only [List.cons_append, List.nil_append] at S
      refine o_move E rfl rfl ?_; clear E; intro a E
      exact ⟨_, _, Heap.le.refl _, ⟨rfl, [_], S, .inr ⟨(by show (Nat.beq 14 6 || f 14) = true; rw [hfa14]; rfl), _, E.get _ _ rfl, rfl⟩⟩, fun d hd => (by cases hd; exact E.get _ _ rfl), E.defers, rfl⟩
    ·intro a w G1 f hcl hfi hon hW E hp hO; obtain ⟨rfl, X14_, S, hX14⟩ := hW
     rcases hX14 with ⟨hfa14, rfl⟩ | ⟨hfa14, B13, hB14, rfl⟩
     ·simp only [List.nil_append] at S
      refine o_move E rfl rfl ?_; clear E; intro a E
      exact ⟨_, _, Heap.le.refl _, ⟨rfl, [], S, .inl ⟨(by show (Nat.beq 14 7 || f 14) = false; rw [hfa14]; rfl), rfl⟩⟩, fun d hd => (by cases hd; exact E.get _ _ rfl), E.defers, rfl⟩
     ·replace E := E.add hB14; simp only [List.cons_append, List.nil_append] at S
      refine o_move E rfl rfl ?_; clear E; intro a E
      exact ⟨_, _, Heap.le.refl _, ⟨rfl, [_], S, .inr ⟨(by show (Nat.beq 14 7 || f 14) = true; rw [hfa14]; rfl), _, E.get _ _ rfl, rfl⟩⟩, fun d hd => (by cases hd; exact E.get _ _ rfl), E.defers, rfl⟩
    ·intro a w G1 f hcl hfi hon hW E hp hO; obtain ⟨rfl, X14_, S, hX14⟩ := hW
     obtain ⟨_, e6, rfl⟩ := hp 6 79 _ (hon 6 rfl) rfl rfl; replace E := E.add e6
     obtain ⟨_, e7, rfl⟩ := hp 7 80 _ (hon 7 rfl) rfl rfl; replace E := E.add e7
     rcases hX14 with ⟨hfa14, rfl⟩ | ⟨hfa14, B13, hB14, rfl⟩
     ·simp only [List.nil_append] at S
      have hi47 : q.1 < (stF b (domsE h i) 0 (ownE (h.getD i E0)) q.1).length := by first | omega | (simp; omega)
      refine o_ixL E rfl rfl rfl T.l50 ⟨by omega, by omega⟩ ?_; clear E; intro a E
      exact ⟨_, _, Heap.le.refl _, ⟨rfl, [], S, .inl ⟨(by show (Nat.beq 14 8 || f 14) = false; rw [hfa14]; rfl), rfl⟩⟩, fun d hd => (by cases hd; exact E.get _ _ rfl), E.defers, rfl⟩
     ·replace E := E.add hB14; simp only [List.cons_append, List.nil_append] at S
      have hi48 : q.1 < (stF b (domsE h i) 0 (ownE (h.getD i E0)) q.1).length := by first | omega | (simp; omega)
      refine o_ixL E rfl rfl rfl T.l50 ⟨by omega, by omega⟩ ?_; clear E; intro a E
      exact ⟨_, _, Heap.le.refl _, ⟨rfl, [_], S, .inr ⟨(by show (Nat.beq 14 8 || f 14) = true; rw [hfa14]; rfl), _, E.get _ _ rfl, rfl⟩⟩, fun d hd => (by cases hd; exact E.get _ _ rfl), E.defers, rfl⟩
    ·intro a w G1 f hcl hfi hon hW E hp hO; obtain ⟨rfl, X14_, S, hX14⟩ := hW
     obtain ⟨_, e8, rfl⟩ := hp 8 81 _ (hon 8 rfl) rfl rfl; replace E := E.add e8
     rcases hX14 with ⟨hfa14, rfl⟩ | ⟨hfa14, B13, hB14, rfl⟩
     ·simp only [List.nil_append] at S
      refine X.o_ldOV (i := q.1) E rfl S rfl T.a49 .here oH10_2 (by omega) (by first | exact hi46 | (simp; omega)) ?_; clear E; intro a E
      exact ⟨_, _, Heap.le.refl _, ⟨rfl, [], S, .inl ⟨(by show (Nat.beq 14 9 || f 14) = false; rw [hfa14]; rfl), rfl⟩⟩, fun d hd => (by cases hd; exact E.get _ _ rfl), E.defers, rfl⟩
     ·replace E := E.add hB14; simp only [List.cons_append, List.nil_append] at S
      refine X.o_ldOV (i := q.1) E rfl S rfl T.a49 (.there .here) oH10_2 (by omega) (by first | exact hi46 | (simp; omega)) ?_; clear E; intro a E
      exact ⟨_, _, Heap.le.refl _, ⟨rfl, [_], S, .inr ⟨(by show (Nat.beq 14 9 || f 14) = true; rw [hfa14]; rfl), _, E.get _ _ rfl, rfl⟩⟩, fun d hd => (by cases hd; exact E.get _ _ rfl), E.defers, rfl⟩
    ·intro a w G1 f hcl hfi hon hW E hp hO; obtain ⟨rfl, X14_, S, hX14⟩ := hW
     obtain ⟨_, e1, rfl⟩ := hp 1 74 _ (hon 1 rfl) rfl rfl; replace E := E.add e1
     obtain ⟨_, e5, rfl⟩ := hp 5 78 _ (hon 5 rfl) rfl rfl; replace E := E.add e5
     obtain ⟨_, e9, rfl⟩ := hp 9 82 _ (hon 9 rfl) rfl rfl; replace E := E.add e9
     rcases hX14 with ⟨hfa14, rfl⟩ | ⟨hfa14, B13, hB14, rfl⟩
     ·simp only [List.nil_append] at S
      refine o_callP E rfl S rfl rfl T.g29 (c_Real27 b.es ((domsE h i).getD q.1 0) ((stF b (domsE h i) 0 (ownE (h.getD i E0)) q.1).getD q.1 ⟨0, 0, []⟩) _ _ _ _ S.sub hRe (by omega)) ?_
      clear E S; rintro _ w a S rfl E
      exact ⟨_, _, Heap.le.refl _, ⟨rfl, [], S, .inl ⟨(by show (Nat.beq 14 10 || f 14) = false; rw [hfa14]; rfl), rfl⟩⟩, fun d hd => (by cases hd; exact E.get _ _ rfl), E.defers, rfl⟩
     ·replace E := E.add hB14; simp only [List.cons_append, List.nil_append] at S
      refine o_callP E rfl S rfl rfl T.g29 (c_Real27 b.es ((domsE h i).getD q.1 0) ((stF b (domsE h i) 0 (ownE (h.getD i E0)) q.1).getD q.1 ⟨0, 0, []⟩) _ _ _ _ S.sub hRe (by omega)) ?_
      clear E S; rintro _ w a S rfl E
      exact ⟨_, _, Heap.le.refl _, ⟨rfl, [_], S, .inr ⟨(by show (Nat.beq 14 10 || f 14) = true; rw [hfa14]; rfl), _, E.get _ _ rfl, rfl⟩⟩, fun d hd => (by cases hd; exact E.get _ _ rfl), E.defers, rfl⟩
    ·intro a w G1 f hcl hfi hon hW E hp hO; obtain ⟨rfl, X14_, S, hX14⟩ := hW
     obtain ⟨_, e10, rfl⟩ := hp 10 83 _ (hon 10 rfl) rfl rfl; replace E := E.add e10
     rcases hX14 with ⟨hfa14, rfl⟩ | ⟨hfa14, B13, hB14, rfl⟩
     ·simp only [List.nil_append] at S
      refine o_move E rfl rfl ?_; clear E; intro a E
      exact ⟨_, _, Heap.le.refl _, ⟨rfl, [], S, .inl ⟨(by show (Nat.beq 14 11 || f 14) = false; rw [hfa14]; rfl), rfl⟩⟩, fun d hd => (by cases hd; exact E.get _ _ rfl), E.defers, rfl⟩
     ·replace E := E.add hB14; simp only [List.cons_append, List.nil_append] at S
      refine o_move E rfl rfl ?_; clear E; intro a E
      exact ⟨_, _, Heap.le.refl _, ⟨rfl, [_], S, .inr ⟨(by show (Nat.beq 14 11 || f 14) = true; rw [hfa14]; rfl), _, E.get _ _ rfl, rfl⟩⟩, fun d hd => (by cases hd; exact E.get _ _ rfl), E.defers, rfl⟩
    ·intro a w G1 f hcl hfi hon hW E hp hO; obtain ⟨rfl, X14_, S, hX14⟩ := hW
     obtain ⟨_, e11, rfl⟩ := hp 11 72 _ (hon 11 rfl) rfl rfl; replace E := E.add e11
     rcases hX14 with ⟨hfa14, rfl⟩ | ⟨hfa14, B13, hB14, rfl⟩
     ·simp only [List.nil_append] at S
      refine o_extract E rfl rfl rfl ?_; clear E; intro a E
      exact ⟨_, _, Heap.le.refl _, ⟨rfl, [], S, .inl ⟨(by show (Nat.beq 14 12 || f 14) = false; rw [hfa14]; rfl), rfl⟩⟩, fun d hd => (by cases hd; exact E.get _ _ rfl), E.defers, rfl⟩
     ·replace E := E.add hB14; simp only [List.cons_append, List.nil_append] at S
      refine o_extract E rfl rfl rfl ?_; clear E; intro a E
      exact ⟨_, _, Heap.le.refl _, ⟨rfl, [_], S, .inr ⟨(by show (Nat.beq 14 12 || f 14) = true; rw [hfa14]; rfl), _, E.get _ _ rfl, rfl⟩⟩, fun d hd => (by cases hd; exact E.get _ _ rfl), E.defers, rfl⟩
    ·intro a w G1 f hcl hfi hon hW E hp hO; obtain ⟨rfl, X14_, S, hX14⟩ := hW
     obtain ⟨_, e11, rfl⟩ := hp 11 72 _ (hon 11 rfl) rfl rfl; replace E := E.add e11
     rcases hX14 with ⟨hfa14, rfl⟩ | ⟨hfa14, B13, hB14, rfl⟩
     ·simp only [List.nil_append] at S
      refine o_extract E rfl rfl rfl ?_; clear E; intro a E
      exact ⟨_, _, Heap.le.refl _, ⟨rfl, [], S, .inl ⟨(by show (Nat.beq 14 13 || f 14) = false; rw [hfa14]; rfl), rfl⟩⟩, fun d hd => (by cases hd; exact E.get _ _ rfl), E.defers, rfl⟩
     ·replace E := E.add hB14; simp only [List.cons_append, List.nil_append] at S
      refine o_extract E rfl rfl rfl ?_; clear E; intro a E
      exact ⟨_, _, Heap.le.refl _, ⟨rfl, [_], S, .inr ⟨(by show (Nat.beq 14 13 || f 14) = true; rw [hfa14]; rfl), _, E.get _ _ rfl, rfl⟩⟩, fun d hd => (by cases hd; exact E.get _ _ rfl), E.defers, rfl⟩
    ·intro a w G1 f hcl hfi hon hW E hp hO; obtain ⟨rfl, X14_, S, hX14⟩ := hW
     obtain ⟨_, rfl⟩ := hX14.resolve_right (fun h => by rw [hfi] at h; exact absurd h.1 (by decide)); simp only [List.nil_append] at S
     refine o_allocZ E rfl S ?_; clear E S; intro B13 w a S E
     have hfs15 : f 15 = false := by
      cases hq : f 15 with
      | false => rfl
      | true => (have := hcl 15 _ rfl hq 14 rfl; rw [hfi] at this; cases this)
     skip
     exact ⟨_, _, Heap.le.refl _, ⟨rfl, [_], S, .inr ⟨(by show (Nat.beq 14 14 || f 14) = true; rfl), _, E.get _ _ rfl, (by first | rfl | (simp only [updF, hfs15]; rfl))⟩⟩, fun d hd => (by cases hd; exact E.get _ _ rfl), E.defers, trivial⟩
    ·intro a w G1 f hcl hfi hon hW E hp hO; obtain ⟨rfl, X14_, S, hX14⟩ := hW
     obtain ⟨_, e12, rfl⟩ := hp 12 84 _ (hon 12 rfl) rfl rfl; replace E := E.add e12
     have hfa14 : f 14 = true := hon 14 rfl
     obtain ⟨_, B13, hB14, rfl⟩ := hX14.resolve_left (fun h => by rw [hfa14] at h; exact absurd h.1 (by decide)); replace E := E.add hB14; simp only [List.cons_append, List.nil_append] at S
     refine o_stA E S rfl rfl rfl T.a49 (.here .here) rfl ?_; clear S; intro w S
     replace S := S.conv (L2 := [(0, _), (1, _), (2, _)]) (.here .here) ⟨rfl, rfl, rfl, trivial⟩
     exact ⟨.bool true, _, Heap.le.refl _, ⟨rfl, [_], S, .inr ⟨(by show (Nat.beq 14 15 || f 14) = true; rw [hfa14]; rfl), _, E.get _ _ rfl, rfl⟩⟩, fun d hd => (by cases hd), E.defers, trivial⟩
    ·intro a w G1 f hcl hfi hon hW E hp hO; obtain ⟨rfl, X14_, S, hX14⟩ := hW
     obtain ⟨_, e13, rfl⟩ := hp 13 85 _ (hon 13 rfl) rfl rfl; replace E := E.add e13
     have hfa14 : f 14 = true := (hcl 15 _ rfl (hon 15 rfl) 14 rfl)
     obtain ⟨_, B13, hB14, rfl⟩ := hX14.resolve_left (fun h => by rw [hfa14] at h; exact absurd h.1 (by decide)); replace E := E.add hB14; simp only [List.cons_append, List.nil_append] at S
     refine o_assign E rfl rfl ?_; clear E; intro a E
     exact ⟨_, _, Heap.le.refl _, ⟨rfl, [_], S, .inr ⟨(by show (Nat.beq 14 16 || f 14) = true; rw [hfa14]; rfl), _, E.get _ _ rfl, rfl⟩⟩, fun d hd => (by cases hd; exact E.get _ _ rfl), E.defers, rfl⟩
    clear E S; intro a w _ f hle49 hall HW E hp; obtain ⟨rfl, X14_, S, hX14⟩ := HW; clear hle49
    have hfa14 := hall 14 (by decide); obtain ⟨_, B13, hB14, rfl⟩ := hX14.resolve_left (fun h => by rw [hfa14] at h; exact absurd h.1 (by decide)); replace E := E.add hB14; clear hX14
    have hfw15 := hall 15 (by decide)
    simp only [List.cons_append, List.nil_append, hfw15, cond_true] at S
    obtain ⟨_, e16, rfl⟩ := hp 16 14 _ rfl rfl; replace E := E.add e16
    clear hp hall
    refine hK44 _ _ ?_; clear hK44
    refine sr fun K hK => ?_
    refine rn 2 E S ?_; clear E S; intro a w E S
    refine cutG 2 89 (.bool (q.2 && ((realS b.es ((domsE h i).getD q.1 0) ((stF b (domsE h i) 0 (ownE (h.getD i E0)) q.1).getD q.1 ⟨0, 0, []⟩)).2))) E S ?_ ?_
    ·refine bsp E (t := 87) rfl (fun hb50 => ?_) (fun hb50 => ?_)
     ·have hk51 := nm hb50
      refine rn 2 E S ?_; clear E S; intro a w E S
      exact ⟨S, E.cutT (by rw [hb50] <;> rfl)⟩
     ·refine rn 2 E S ?_; clear E S; intro a w E S
      exact ⟨S, E.cutT (by rw [hb50] <;> rfl)⟩
    clear E S; intro a w E S
    refine rn 1 E S ?_; clear E S; intro a w E S
    apply hK; clear hK K
    refine wp_region_lit ?_
    refine rn 3 E S ?_; clear E S; intro a w E S
    have hi53 : q.1 < (stF b (domsE h i) 0 (ownE (h.getD i E0)) q.1).length := by first | omega | (simp; omega)
    refine o_ixL E rfl rfl rfl T.l50 ⟨by omega, by omega⟩ ?_; clear E; intro a E
    refine X.o_stOV (i := q.1) (v := ((realS b.es ((domsE h i).getD q.1 0) ((stF b (domsE h i) 0 (ownE (h.getD i E0)) q.1).getD q.1 ⟨0, 0, []⟩)).1)) E S rfl rfl T.a49 (.there .here) oH10_2 (by omega) (by first | exact hi53 | (simp; omega)) ?_; clear S; intro oC54 w S oH54
    refine hK32 _ _ ?_; clear hK32
    refine wp_region_lit ?_
    refine rn 3 E S ?_; clear E S; intro a w E S
    replace S := S.drop (M' := [_, _, _]) (sub_keep (sub_drop (sub_keep (sub_keep sub_nil))))
    have hkp9 : keepB b ((domsE h i).getD (0 + q.1) 0) ((ownE (h.getD i E0)).getD q.1 ⟨0, 0, []⟩) = false := by have := h43r; rw [stF_get b (domsE h i) (ownE (h.getD i E0)) 0 q.1 (by omega), ref_keep hrv9] at this; rw [Nat.zero_add]; exact this
    have hok2 : (q.2 && ((realS b.es ((domsE h i).getD q.1 0) ((stF b (domsE h i) 0 (ownE (h.getD i E0)) q.1).getD q.1 ⟨0, 0, []⟩)).2)) = ((timeS b (h.getD i E0).time).2 && okF b (domsE h i) 0 ((ownE (h.getD i E0)).take (q.1 + 1))) := by
     rw [okF_step b (domsE h i) (ownE (h.getD i E0)) 0 q.1 (by omega), ← Bool.and_assoc, ← hoq, one_real hkp9, Nat.zero_add, stF_get b (domsE h i) (ownE (h.getD i E0)) 0 q.1 (by omega)]
    have hxs : ((stF b (domsE h i) 0 (ownE (h.getD i E0)) q.1).set q.1 ((realS b.es ((domsE h i).getD q.1 0) ((stF b (domsE h i) 0 (ownE (h.getD i E0)) q.1).getD q.1 ⟨0, 0, []⟩)).1)) = stF b (domsE h i) 0 (ownE (h.getD i E0)) (q.1 + 1) := by rw [← stF_set b (domsE h i) (ownE (h.getD i E0)) 0 q.1 (by omega), one_real hkp9, Nat.zero_add, stF_get b (domsE h i) (ownE (h.getD i E0)) 0 q.1 (by omega)]
    rw [hxs] at oH54; clear hxs; rw [show (stF b (domsE h i) 0 (ownE (h.getD i E0)) q.1).length = (stF b (domsE h i) 0 (ownE (h.getD i E0)) (q.1 + 1)).length by rw [stF_len, stF_len]] at E
    exact ⟨(q.1 + 1, q.2 && ((realS b.es ((domsE h i).getD q.1 0) ((stF b (domsE h i) 0 (ownE (h.getD i E0)) q.1).getD q.1 ⟨0, 0, []⟩)).2)), ⟨_, _, _, _, hle27, S, E.cut ⟨rfl, rfl, rfl, rfl, rfl, rfl, rfl, rfl, rfl, rfl, rfl, trivial⟩, oH54, ⟨by dsimp only; omega, hok2⟩⟩, by show (ownE (h.getD i E0)).length - (q.1 + 1) < _; omega⟩
  ·have h31 := nm h31r
   refine wp_exit ?_
   refine hK23 _ _ ?_; clear hK23
   refine wp_seq_k (fun K56 hK55 => ?_)
   refine sr fun K hK => ?_
   have hsl9 := stF_len b (domsE h i) 0 (ownE (h.getD i E0)) q.1
   have hl9 : stF b (domsE h i) 0 (ownE (h.getD i E0)) q.1 = mapF b (domsE h i) 0 (ownE (h.getD i E0)) := by rw [show q.1 = (ownE (h.getD i E0)).length by omega, stF_end]
   have hol9 : q.2 = ((timeS b (h.getD i E0).time).2 && okF b (domsE h i) 0 (ownE (h.getD i E0))) := by rw [hoq, show q.1 = (ownE (h.getD i E0)).length by omega, List.take_length]
   refine rn 2 E S ?_; clear E S; intro a w E S
   apply hK; clear hK K
   refine cond E rfl (fun h58r => ?_) (fun h58r => ?_)
   ·have h58 := nm h58r
    refine sr fun K hK => ?_
    refine rn 4 E S ?_; clear E S; intro a w E S
    apply hK; clear hK K
    refine rt hQ E S ?_
    have he : applyU h b = ([], (i : Int) + 1) := applyU_bad (by omega) hall (by rw [← ok_core hrx, ← hol9]; simpa using h58)
    rw [he]
    exact ⟨_, _, rfl, Nat.le_refl _, .nil⟩
   ·have h58 := nm h58r
    refine wp_skip ?_
    refine hK55 _ _ ?_; clear hK55
    refine sr fun K hK => ?_
    refine rn 2 E S ?_; clear E S; intro a w E S
    have hi60 : (i : Int).toNat < h.length := by omega
    obtain ⟨eb60, eo60, hA60, el60⟩ := Rd.at hR (List.getElem?_eq_getElem hi60); cases hA60
    rw [show h[(i : Int).toNat] = (h.getD i E0) from getD_get (i := i) hi60 _] at el60
    obtain ⟨A1_60, c1_60, A2_60, c2_60, el60, ha1_60, hr1_60, ha2_60, hr2_60⟩ := kEvt_open el60
    refine o_ixL E rfl rfl rfl T.l22 ⟨by omega, by omega⟩ ?_; clear E; intro a E
    refine o_ldIA E rfl S rfl el60 T.a52 ?_; clear E; intro a E
    refine rn 1 E S ?_; clear E S; intro a w E S
    have hcphR62 := oH10_2.cap
    obtain ⟨G61, hle63, S', hR62⟩ := X.Own.still S .here oH10_2; clear S; have S := S'; clear S'
    replace hg0 := hg0.le hle63
    replace hg1 := hg1.le hle63
    replace hR := hR.le hle63
    replace hRe := hRe.le hle63
    replace hRm := hRm.le hle63
    replace hRr := hRr.le hle63
    replace hR21 := hR21.le hle63
    replace hr1_60 := hr1_60.le hle63
    replace hr2_60 := hr2_60.le hle63
    replace oH6_1 := oH6_1.le hle63
    refine o_call E rfl S rfl rfl T.g30 (c_With (h.getD i E0) _ _ _ _ (stF b (domsE h i) 0 (ownE (h.getD i E0)) q.1) _ _ _ _ S.sub hr1_60 hr2_60 ha1_60 ha2_60 hR62 hcphR62 (by omega) (by omega) (fun h_9 => by omega)) ?_
    clear E S; rintro _ G64 w a S hle64 ⟨A1_64, c1_64, A2_64, c2_64, rfl, ha1_64, hr1_64, ha2_64, hr2_64⟩ E
    replace hg0 := hg0.le hle64
    replace hg1 := hg1.le hle64
    replace hR := hR.le hle64
    replace hRe := hRe.le hle64
    replace hRm := hRm.le hle64
    replace hRr := hRr.le hle64
    replace hR21 := hR21.le hle64
    replace hr1_60 := hr1_60.le hle64
    replace hr2_60 := hr2_60.le hle64
    replace hR62 := hR62.le hle64
    replace oH6_1 := oH6_1.le hle64
    refine o_allocZ E rfl S ?_; clear E S; intro B15 w a S E
    refine rn 1 E S ?_; clear E S; intro a w E S
    apply hK; clear hK K
    refine sr fun K hK => ?_
    refine rn 3 E S ?_; clear E S; intro a w E S
    apply hK; clear hK K
    refine wp_seq_k (fun K68 hK67 => ?_)
    refine sr fun K hK => ?_
    refine rn 4 E S ?_; clear E S; intro a w E S
    apply hK; clear hK K
    refine cond E rfl (fun h70r => ?_) (fun h70r => ?_)
    ·have h70 := nm h70r
     refine sr fun K hK => ?_
     refine rn 2 E S ?_; clear E S; intro a w E S
     apply hK; clear hK K
     refine sr fun K hK => ?_
     refine rn 2 E S ?_; clear E S; intro a w E S
     apply hK; clear hK K
     refine sr fun K hK => ?_
     refine rn 1 E S ?_; clear E S; intro a w E S
     apply hK; clear hK K
     refine wp_block ?_
     refine loop (fun (r : Nat × Bool × Bs) a' w' => St w0 G [] G64 w' [[(B15, Cells 52 [(0, .int .i64 ((timeS b ((h.getD i E0).time)).1)), (1, .int .i64 ((withE (h.getD i E0) (stF b (domsE h i) 0 (ownE (h.getD i E0)) q.1)).client.k)), (2, .int .i64 ((withE (h.getD i E0) (stF b (domsE h i) 0 (ownE (h.getD i E0)) q.1)).client.n)), (3, str ((withE (h.getD i E0) (stF b (domsE h i) 0 (ownE (h.getD i E0)) q.1)).client.s)), (4, .int .i64 ((withE (h.getD i E0) (stF b (domsE h i) 0 (ownE (h.getD i E0)) q.1)).type)), (5, .int .i64 ((withE (h.getD i E0) (stF b (domsE h i) 0 (ownE (h.getD i E0)) q.1)).model)), (6, .int .i64 ((withE (h.getD i E0) (stF b (domsE h i) 0 (ownE (h.getD i E0)) q.1)).key.k)), (7, .int .i64 ((withE (h.getD i E0) (stF b (domsE h i) 0 (ownE (h.getD i E0)) q.1)).key.n)), (8, str ((withE (h.getD i E0) (stF b (domsE h i) 0 (ownE (h.getD i E0)) q.1)).key.s)), (9, .int .i64 ((withE (h.getD i E0) (stF b (domsE h i) 0 (ownE (h.getD i E0)) q.1)).op)), (10, .slice A1_64 ((withE (h.getD i E0) (stF b (domsE h i) 0 (ownE (h.getD i E0)) q.1)).args.length) c1_64), (11, .slice A2_64 ((withE (h.getD i E0) (stF b (domsE h i) 0 (ownE (h.getD i E0)) q.1)).out.length) c2_64), (12, .bool r.2.1), (13, str r.2.2)])], oC6_1, [(B3, Cells 32 (PC b [(14, .slice Ae b.es.length ce), (15, .slice Am b.ms.length cm), (16, .slice Ar b.rs.length cr)]))]] ∧ Env a' 141 [] [(0, .slice (some ⟨eb18, eo18, none⟩) h.length c), (3, .pointer (some ⟨B3, 0, none⟩)), (4, .slice none 0 0), (5, .int .i64 0), (6, .slice oA6_1 ((uevL h b i).length) oc6_1), (7, .int .i64 (i : Int)), (8, .int .i64 ((timeS b ((h.getD i E0).time)).1)), (15, .pointer (some ⟨B15, 0, none⟩)), (16, .int .i64 ((r.1 : Nat) : Int))] ∧ (r.1 ≤ b.rs.length ∧ r.2 = noteF b.rs ((i : Int) + 1) r.1)) (fun (r : Nat × Bool × Bs) => b.rs.length - r.1) (0, false, []) ⟨S, E.cut ⟨rfl, rfl, rfl, rfl, rfl, rfl, rfl, rfl, rfl, trivial⟩, ⟨Nat.zero_le _, rfl⟩⟩ ?_
     clear E S; intro r a w ⟨S, E, ⟨hri, hrq⟩⟩
     refine wp_seq_k (fun K76 hK75 => ?_)
     refine sr fun K hK => ?_
     refine rn 5 E S ?_; clear E S; intro a w E S
     apply hK; clear hK K
     refine cond E rfl (fun h78r => ?_) (fun h78r => ?_)
     ·have h78 := nm h78r
      refine wp_skip ?_
      refine hK75 _ _ ?_; clear hK75
      refine wp_seq_k (fun K80 hK79 => ?_)
      refine wp_block ?_
      refine sr fun K hK => ?_
      refine rn 3 E S ?_; clear E S; intro a w E S
      have hi81 : ((r.1 : Nat) : Int).toNat < b.rs.length := by omega
      obtain ⟨eb81, eo81, hA81, el81⟩ := Rd.at hRr (List.getElem?_eq_getElem hi81); cases hA81
      rw [show b.rs[((r.1 : Nat) : Int).toNat] = (b.rs.getD r.1 REM0) from getD_get (i := r.1) hi81 _] at el81
      have el81 := kRem_open el81
      refine o_ixL E rfl rfl rfl T.l30 ⟨by omega, by omega⟩ ?_; clear E; intro a E
      refine rn 1 E S ?_; clear E S; intro a w E S
      refine o_ldI E rfl S rfl T.s3 el81 (j := 0) rfl rfl ?_; clear E; intro a E
      refine rn 3 E S ?_; clear E S; intro a w E S
      apply hK; clear hK K
      refine cond E rfl (fun h83r => ?_) (fun h83r => ?_)
      ·have h83 := nm h83r
       refine sr fun K hK => ?_
       refine rn 2 E S ?_; clear E S; intro a w E S
       apply hK; clear hK K
       refine wp_region_lit ?_
       refine rn 3 E S ?_; clear E S; intro a w E S
       refine o_ixL E rfl rfl rfl T.l30 ⟨by omega, by omega⟩ ?_; clear E; intro a E
       refine rn 1 E S ?_; clear E S; intro a w E S
       refine o_ldI E rfl S rfl T.s9 el81 (j := 1) rfl rfl ?_; clear E; intro a E
       refine rn 2 E S ?_; clear E S; intro a w E S
       refine hK79 _ _ ?_; clear hK79
       refine wp_region_lit ?_
       refine rn 3 E S ?_; clear E S; intro a w E S
       have hrq2 : (true, (b.rs.getD r.1 REM0).note) = noteF b.rs ((i : Int) + 1) (r.1 + 1) := by rw [noteF_hit (by simpa using h83)]
       exact ⟨(r.1 + 1, true, (b.rs.getD r.1 REM0).note), ⟨S, E.cut ⟨rfl, rfl, rfl, rfl, rfl, rfl, rfl, rfl, rfl, trivial⟩, ⟨by dsimp only; omega, hrq2⟩⟩, by show b.rs.length - (r.1 + 1) < _; omega⟩
      ·have h83 := nm h83r
       refine wp_skip ?_
       refine hK79 _ _ ?_; clear hK79
       refine wp_region_lit ?_
       refine rn 3 E S ?_; clear E S; intro a w E S
       have hrq2 : (r.2.1, r.2.2) = noteF b.rs ((i : Int) + 1) (r.1 + 1) := by rw [noteF_miss (by simpa using h83)]; exact hrq
       exact ⟨(r.1 + 1, r.2.1, r.2.2), ⟨S, E.cut ⟨rfl, rfl, rfl, rfl, rfl, rfl, rfl, rfl, rfl, trivial⟩, ⟨by dsimp only; omega, hrq2⟩⟩, by show b.rs.length - (r.1 + 1) < _; omega⟩
     ·have h78 := nm h78r
      refine wp_exit ?_
      refine hK67 _ _ ?_; clear hK67
      refine wp_region_lit ?_
      have hul := uevL_len h b i
      refine rn 2 E S ?_; clear E S; intro a w E S
      refine o_buildSl (cs := #[.int .i64 ((timeS b ((h.getD i E0).time)).1), .int .i64 ((withE (h.getD i E0) (stF b (domsE h i) 0 (ownE (h.getD i E0)) q.1)).client.k), .int .i64 ((withE (h.getD i E0) (stF b (domsE h i) 0 (ownE (h.getD i E0)) q.1)).client.n), str ((withE (h.getD i E0) (stF b (domsE h i) 0 (ownE (h.getD i E0)) q.1)).client.s), .int .i64 ((withE (h.getD i E0) (stF b (domsE h i) 0 (ownE (h.getD i E0)) q.1)).type), .int .i64 ((withE (h.getD i E0) (stF b (domsE h i) 0 (ownE (h.getD i E0)) q.1)).model), .int .i64 ((withE (h.getD i E0) (stF b (domsE h i) 0 (ownE (h.getD i E0)) q.1)).key.k), .int .i64 ((withE (h.getD i E0) (stF b (domsE h i) 0 (ownE (h.getD i E0)) q.1)).key.n), str ((withE (h.getD i E0) (stF b (domsE h i) 0 (ownE (h.getD i E0)) q.1)).key.s), .int .i64 ((withE (h.getD i E0) (stF b (domsE h i) 0 (ownE (h.getD i E0)) q.1)).op), .slice A1_64 ((withE (h.getD i E0) (stF b (domsE h i) 0 (ownE (h.getD i E0)) q.1)).args.length) c1_64, .slice A2_64 ((withE (h.getD i E0) (stF b (domsE h i) 0 (ownE (h.getD i E0)) q.1)).out.length) c2_64, .bool r.2.1, str r.2.2]) [(0, _), (1, _), (2, _), (3, _), (4, _), (5, _), (6, _), (7, _), (8, _), (9, _), (10, _), (11, _), (12, _), (13, _)] E rfl S rfl T.l22 (by kernel_rfl) ⟨rfl, rfl, rfl, rfl, rfl, rfl, rfl, rfl, rfl, rfl, rfl, rfl, rfl, rfl, trivial⟩ ?_; clear E S; intro B138 w a S E
      refine o_appendL (K := kEvt) (ys := [(⟨(timeS b ((h.getD i E0).time)).1, ((withE (h.getD i E0) (stF b (domsE h i) 0 (ownE (h.getD i E0)) q.1)).client), (withE (h.getD i E0) (stF b (domsE h i) 0 (ownE (h.getD i E0)) q.1)).type, (withE (h.getD i E0) (stF b (domsE h i) 0 (ownE (h.getD i E0)) q.1)).model, ((withE (h.getD i E0) (stF b (domsE h i) 0 (ownE (h.getD i E0)) q.1)).key), (withE (h.getD i E0) (stF b (domsE h i) 0 (ownE (h.getD i E0)) q.1)).op, (withE (h.getD i E0) (stF b (domsE h i) 0 (ownE (h.getD i E0)) q.1)).args, (withE (h.getD i E0) (stF b (domsE h i) 0 (ownE (h.getD i E0)) q.1)).out, r.2.1, r.2.2⟩ : Evt)]) (n := 14) E rfl S (.there (.there .here)) oH6_1 rfl rfl T.p22 (.here .here) rfl ⟨kEvt_mk (⟨(timeS b ((h.getD i E0).time)).1, ((withE (h.getD i E0) (stF b (domsE h i) 0 (ownE (h.getD i E0)) q.1)).client), (withE (h.getD i E0) (stF b (domsE h i) 0 (ownE (h.getD i E0)) q.1)).type, (withE (h.getD i E0) (stF b (domsE h i) 0 (ownE (h.getD i E0)) q.1)).model, ((withE (h.getD i E0) (stF b (domsE h i) 0 (ownE (h.getD i E0)) q.1)).key), (withE (h.getD i E0) (stF b (domsE h i) 0 (ownE (h.getD i E0)) q.1)).op, (withE (h.getD i E0) (stF b (domsE h i) 0 (ownE (h.getD i E0)) q.1)).args, (withE (h.getD i E0) (stF b (domsE h i) 0 (ownE (h.getD i E0)) q.1)).out, r.2.1, r.2.2⟩ : Evt) ha1_64 hr1_64 ha2_64 hr2_64, rfl⟩ rfl rfl (by (simp; omega)) (by (simp; omega)) ?_
      clear E S; intro oA85 oc85 oC85 w a S oH85 E
      refine rn 1 E S ?_; clear E S; intro a w E S
      refine hK14 _ _ ?_; clear hK14
      refine wp_region_lit ?_
      refine rn 3 E S ?_; clear E S; intro a w E S
      replace S := S.drop (M' := [_, _]) (sub_keep (sub_drop (sub_drop (sub_keep sub_nil))))
      have hall2 : ∀ j, j < i + 1 → okU b (domsE h j) (h.getD j E0) = true := by
       intro j hj
       rcases Nat.lt_or_ge j i with h_9 | h_9
       ·exact hall j h_9
       ·obtain rfl : j = i := by omega
        rw [← ok_core hrx, ← hol9]; simpa using h58
      have hxs : ((uevL h b i) ++ [(⟨(timeS b ((h.getD i E0).time)).1, ((withE (h.getD i E0) (stF b (domsE h i) 0 (ownE (h.getD i E0)) q.1)).client), (withE (h.getD i E0) (stF b (domsE h i) 0 (ownE (h.getD i E0)) q.1)).type, (withE (h.getD i E0) (stF b (domsE h i) 0 (ownE (h.getD i E0)) q.1)).model, ((withE (h.getD i E0) (stF b (domsE h i) 0 (ownE (h.getD i E0)) q.1)).key), (withE (h.getD i E0) (stF b (domsE h i) 0 (ownE (h.getD i E0)) q.1)).op, (withE (h.getD i E0) (stF b (domsE h i) 0 (ownE (h.getD i E0)) q.1)).args, (withE (h.getD i E0) (stF b (domsE h i) 0 (ownE (h.getD i E0)) q.1)).out, r.2.1, r.2.2⟩ : Evt)]) = uevL h b (i + 1) := by ((have hn9 : rnoteS b ((i : Int) + 1) (h.getD i E0) = r.2 := by (unfold rnoteS; rw [if_pos (by simpa using h70), hrq, show r.1 = b.rs.length by omega])); rw [← uevL_step]; unfold uevE; rw [hn9, hl9, with_core hrx]; rfl)
      rw [hxs] at E oH85; clear hxs
      exact ⟨i + 1, ⟨_, _, _, _, (((((hle9.trans hle19).trans hle21).trans hle27).trans hle63).trans hle64), S, E.cut ⟨rfl, rfl, rfl, rfl, rfl, rfl, trivial⟩, oH85, ⟨by omega, hall2⟩⟩, by omega⟩
    ·have h70 := nm h70r
     refine wp_skip ?_
     refine hK67 _ _ ?_; clear hK67
     refine wp_region_lit ?_
     have hul := uevL_len h b i
     refine rn 2 E S ?_; clear E S; intro a w E S
     refine o_buildSl (cs := #[.int .i64 ((timeS b ((h.getD i E0).time)).1), .int .i64 ((withE (h.getD i E0) (stF b (domsE h i) 0 (ownE (h.getD i E0)) q.1)).client.k), .int .i64 ((withE (h.getD i E0) (stF b (domsE h i) 0 (ownE (h.getD i E0)) q.1)).client.n), str ((withE (h.getD i E0) (stF b (domsE h i) 0 (ownE (h.getD i E0)) q.1)).client.s), .int .i64 ((withE (h.getD i E0) (stF b (domsE h i) 0 (ownE (h.getD i E0)) q.1)).type), .int .i64 ((withE (h.getD i E0) (stF b (domsE h i) 0 (ownE (h.getD i E0)) q.1)).model), .int .i64 ((withE (h.getD i E0) (stF b (domsE h i) 0 (ownE (h.getD i E0)) q.1)).key.k), .int .i64 ((withE (h.getD i E0) (stF b (domsE h i) 0 (ownE (h.getD i E0)) q.1)).key.n), str ((withE (h.getD i E0) (stF b (domsE h i) 0 (ownE (h.getD i E0)) q.1)).key.s), .int .i64 ((withE (h.getD i E0) (stF b (domsE h i) 0 (ownE (h.getD i E0)) q.1)).op), .slice A1_64 ((withE (h.getD i E0) (stF b (domsE h i) 0 (ownE (h.getD i E0)) q.1)).args.length) c1_64, .slice A2_64 ((withE (h.getD i E0) (stF b (domsE h i) 0 (ownE (h.getD i E0)) q.1)).out.length) c2_64, .bool ((withE (h.getD i E0) (stF b (domsE h i) 0 (ownE (h.getD i E0)) q.1)).noted), str ((withE (h.getD i E0) (stF b (domsE h i) 0 (ownE (h.getD i E0)) q.1)).note)]) [(0, _), (1, _), (2, _), (3, _), (4, _), (5, _), (6, _), (7, _), (8, _), (9, _), (10, _), (11, _), (12, _), (13, _)] E rfl S rfl T.l22 (by kernel_rfl) ⟨rfl, rfl, rfl, rfl, rfl, rfl, rfl, rfl, rfl, rfl, rfl, rfl, rfl, rfl, trivial⟩ ?_; clear E S; intro B138 w a S E
     refine o_appendL (K := kEvt) (ys := [(⟨(timeS b ((h.getD i E0).time)).1, ((withE (h.getD i E0) (stF b (domsE h i) 0 (ownE (h.getD i E0)) q.1)).client), (withE (h.getD i E0) (stF b (domsE h i) 0 (ownE (h.getD i E0)) q.1)).type, (withE (h.getD i E0) (stF b (domsE h i) 0 (ownE (h.getD i E0)) q.1)).model, ((withE (h.getD i E0) (stF b (domsE h i) 0 (ownE (h.getD i E0)) q.1)).key), (withE (h.getD i E0) (stF b (domsE h i) 0 (ownE (h.getD i E0)) q.1)).op, (withE (h.getD i E0) (stF b (domsE h i) 0 (ownE (h.getD i E0)) q.1)).args, (withE (h.getD i E0) (stF b (domsE h i) 0 (ownE (h.getD i E0)) q.1)).out, (withE (h.getD i E0) (stF b (domsE h i) 0 (ownE (h.getD i E0)) q.1)).noted, (withE (h.getD i E0) (stF b (domsE h i) 0 (ownE (h.getD i E0)) q.1)).note⟩ : Evt)]) (n := 14) E rfl S (.there (.there .here)) oH6_1 rfl rfl T.p22 (.here .here) rfl ⟨kEvt_mk (⟨(timeS b ((h.getD i E0).time)).1, ((withE (h.getD i E0) (stF b (domsE h i) 0 (ownE (h.getD i E0)) q.1)).client), (withE (h.getD i E0) (stF b (domsE h i) 0 (ownE (h.getD i E0)) q.1)).type, (withE (h.getD i E0) (stF b (domsE h i) 0 (ownE (h.getD i E0)) q.1)).model, ((withE (h.getD i E0) (stF b (domsE h i) 0 (ownE (h.getD i E0)) q.1)).key), (withE (h.getD i E0) (stF b (domsE h i) 0 (ownE (h.getD i E0)) q.1)).op, (withE (h.getD i E0) (stF b (domsE h i) 0 (ownE (h.getD i E0)) q.1)).args, (withE (h.getD i E0) (stF b (domsE h i) 0 (ownE (h.getD i E0)) q.1)).out, (withE (h.getD i E0) (stF b (domsE h i) 0 (ownE (h.getD i E0)) q.1)).noted, (withE (h.getD i E0) (stF b (domsE h i) 0 (ownE (h.getD i E0)) q.1)).note⟩ : Evt) ha1_64 hr1_64 ha2_64 hr2_64, rfl⟩ rfl rfl (by (simp; omega)) (by (simp; omega)) ?_
     clear E S; intro oA86 oc86 oC86 w a S oH86 E
     refine rn 1 E S ?_; clear E S; intro a w E S
     refine hK14 _ _ ?_; clear hK14
     refine wp_region_lit ?_
     refine rn 3 E S ?_; clear E S; intro a w E S
     replace S := S.drop (M' := [_, _]) (sub_keep (sub_drop (sub_drop (sub_keep sub_nil))))
     have hall2 : ∀ j, j < i + 1 → okU b (domsE h j) (h.getD j E0) = true := by
      intro j hj
      rcases Nat.lt_or_ge j i with h_9 | h_9
      ·exact hall j h_9
      ·obtain rfl : j = i := by omega
       rw [← ok_core hrx, ← hol9]; simpa using h58
     have hxs : ((uevL h b i) ++ [(⟨(timeS b ((h.getD i E0).time)).1, ((withE (h.getD i E0) (stF b (domsE h i) 0 (ownE (h.getD i E0)) q.1)).client), (withE (h.getD i E0) (stF b (domsE h i) 0 (ownE (h.getD i E0)) q.1)).type, (withE (h.getD i E0) (stF b (domsE h i) 0 (ownE (h.getD i E0)) q.1)).model, ((withE (h.getD i E0) (stF b (domsE h i) 0 (ownE (h.getD i E0)) q.1)).key), (withE (h.getD i E0) (stF b (domsE h i) 0 (ownE (h.getD i E0)) q.1)).op, (withE (h.getD i E0) (stF b (domsE h i) 0 (ownE (h.getD i E0)) q.1)).args, (withE (h.getD i E0) (stF b (domsE h i) 0 (ownE (h.getD i E0)) q.1)).out, (withE (h.getD i E0) (stF b (domsE h i) 0 (ownE (h.getD i E0)) q.1)).noted, (withE (h.getD i E0) (stF b (domsE h i) 0 (ownE (h.getD i E0)) q.1)).note⟩ : Evt)]) = uevL h b (i + 1) := by ((have hn9 : rnoteS b ((i : Int) + 1) (h.getD i E0) = ((h.getD i E0).noted, (h.getD i E0).note) := by (unfold rnoteS; rw [if_neg (by simpa using h70)])); rw [← uevL_step]; unfold uevE; rw [hn9, hl9, with_core hrx]; rfl)
     rw [hxs] at E oH86; clear hxs
     exact ⟨i + 1, ⟨_, _, _, _, (((((hle9.trans hle19).trans hle21).trans hle27).trans hle63).trans hle64), S, E.cut ⟨rfl, rfl, rfl, rfl, rfl, rfl, trivial⟩, oH86, ⟨by omega, hall2⟩⟩, by omega⟩
 ·have h13 := nm h13r
  refine wp_exit ?_
  refine hK3 _ _ ?_; clear hK3
  refine sr fun K hK => ?_
  refine rn 3 E S ?_; clear E S; intro a w E S
  apply hK; clear hK K
  have hcphR89 := oH6_1.cap
  obtain ⟨G88, hle90, S', hR89⟩ := X.Own.still S .here oH6_1; clear S; have S := S'; clear S'
  replace hg0 := hg0.le hle90
  replace hg1 := hg1.le hle90
  replace hR := hR.le hle90
  replace hRe := hRe.le hle90
  replace hRm := hRm.le hle90
  replace hRr := hRr.le hle90
  refine rt hQ E S ?_
  have hi9 : i = h.length := by omega
  subst hi9
  have he : applyU h b = (uevL h b h.length, 0) := applyU_good hall
  rw [he]
  exact ⟨_, _, rfl, by assumption, by assumption⟩
end Go.Proofs.YtnfadpkhjfillaaDoor.T28
