/- Own text. -/
import Derived.Test.YtdhldmmabhaknaaX12
import Derived.Test.YtdhldmmabhaknaaProg
set_option linter.unusedVariables false
set_option linter.unusedSimpArgs false
namespace Go.Proofs.Ytdhldmmabhaknaa.T1
open Go Go.Proofs.Ytdhldmmabhaknaa.X
theorem T.a23 : aggSz Try.prog 23 = some 2 := by kernel_rfl
theorem T.a24 : aggSz Try.prog 24 = some 10 := by kernel_rfl
theorem T.a26 : aggSz Try.prog 26 = some 14 := by kernel_rfl
theorem T.a48 : aggSz Try.prog 48 = some 14 := by kernel_rfl
theorem T.a58 : aggSz Try.prog 58 = some 11 := by kernel_rfl
theorem T.f23_0 : fieldOff Try.prog 23 0 = some 0 := by kernel_rfl
theorem T.f23_1 : fieldOff Try.prog 23 1 = some 1 := by kernel_rfl
theorem T.f26_0 : fieldOff Try.prog 26 0 = some 0 := by kernel_rfl
theorem T.f26_1 : fieldOff Try.prog 26 1 = some 10 := by kernel_rfl
theorem T.f26_2 : fieldOff Try.prog 26 2 = some 11 := by kernel_rfl
theorem T.f48_2 : fieldOff Try.prog 48 2 = some 4 := by kernel_rfl
theorem T.f48_3 : fieldOff Try.prog 48 3 = some 5 := by kernel_rfl
theorem T.g13 : goFn Try.prog 13 = true := by kernel_rfl
theorem T.g14 : goFn Try.prog 14 = true := by kernel_rfl
theorem T.g15 : goFn Try.prog 15 = true := by kernel_rfl
theorem T.g16 : goFn Try.prog 16 = true := by kernel_rfl
theorem T.g17 : goFn Try.prog 17 = true := by kernel_rfl
theorem T.g18 : goFn Try.prog 18 = true := by kernel_rfl
theorem T.g19 : goFn Try.prog 19 = true := by kernel_rfl
theorem T.g26 : goFn Try.prog 26 = true := by kernel_rfl
theorem T.g27 : goFn Try.prog 27 = true := by kernel_rfl
theorem T.g28 : goFn Try.prog 28 = true := by kernel_rfl
theorem T.g29 : goFn Try.prog 29 = true := by kernel_rfl
theorem T.g7 : goFn Try.prog 7 = true := by kernel_rfl
theorem T.g8 : goFn Try.prog 8 = true := by kernel_rfl
theorem T.g9 : goFn Try.prog 9 = true := by kernel_rfl
theorem T.l27 : slOf Try.prog 27 = some (48, 14) := by kernel_rfl
theorem T.l39 : slOf Try.prog 39 = some (3, 1) := by kernel_rfl
theorem T.mix : Try.prog.follows .mixedOrders = true := by kernel_rfl
theorem T.p27 : apOf Try.prog 27 = some (48, 14, 168) := by kernel_rfl
theorem T.p39 : apOf Try.prog 39 = some (3, 1, 8) := by kernel_rfl
theorem T.r24 : arrOf Try.prog 24 = some (5, 2) := by kernel_rfl
theorem T.r58 : arrOf Try.prog 58 = some (11, 1) := by kernel_rfl
theorem T.s3 : scal Try.prog 3 = true := by kernel_rfl
theorem T.s4 : scal Try.prog 4 = true := by kernel_rfl
theorem T.z23 : zeroOf Try.prog 23 = some (.agg #[.int .i64 0, .int .i64 0]) := by kernel_rfl
theorem T.z26 : zeroOf Try.prog 26 = some (.agg #[.int .i64 0, .int .i64 0, .int .i64 0, .int .i64 0, .int .i64 0, .int .i64 0, .int .i64 0, .int .i64 0, .int .i64 0, .int .i64 0, .int .i64 0, .int .i64 0, .bool false, .bool false]) := by kernel_rfl
theorem T.z48 : zeroOf Try.prog 48 = some (.agg #[.int .i64 0, .int .i64 0, .int .i64 0, str [], .int .i64 0, .int .i64 0, .int .i64 0, .int .i64 0, str [], .int .i64 0, .slice none 0 0, .slice none 0 0, .bool false, str []]) := by kernel_rfl
theorem T.z58 : zeroOf Try.prog 58 = some (.agg #[.bool false, .bool false, .bool false, .bool false, .bool false, .bool false, .bool false, .bool false, .bool false, .bool false, .bool false]) := by kernel_rfl

def ruledB (d : Int) (r : Rul) : Bool := (decide (r.way = 2) && (decide (1 ≤ r.size) && decide (r.size ≤ 16))) || ((decide (r.way = 0) || decide (r.way = 1)) && decide (r.size = 0)) || (decide (r.way = 3) && (decide (d = 4) && decide (r.size = 0)))
def rightB (p : Pol) : Bool :=
  ruledB 0 p.r0 && (ruledB 1 p.r1 && (ruledB 2 p.r2 && (ruledB 3 p.r3 && (ruledB 4 p.r4 && ((decide (p.time = 0) || decide (p.time = 3)) && (decide (p.note = 0) || decide (p.note = 4)))))))
def isM (m : Int) (e : Evt) : Bool := decide (e.type = 1) && decide (e.model = m)
def hasM (h : List Evt) (m : Int) : Bool := h.any (isM m)
theorem hasM_take {h : List Evt} {m : Int} {i : Nat} (hi : i < h.length) : hasM (h.take (i + 1)) m = (hasM (h.take i) m || isM m h[i]) := by
  unfold hasM
  rw [List.take_add_one, List.any_append, List.getElem?_eq_getElem hi]
  simp
theorem hasM_of {h : List Evt} {m : Int} {i : Nat} (hi : i < h.length) (he : isM m h[i] = true) : hasM h m = true := by
  unfold hasM
  rw [List.any_eq_true]
  exact ⟨h[i], List.getElem_mem hi, he⟩
def metL (h : List Evt) : List Value := (List.range 11).map fun (j : Nat) => .bool (decide (1 ≤ j) && hasM h (j : Int))
theorem metL_len (h : List Evt) : (metL h).length = 11 := by simp [metL]
theorem metL_snoc {h : List Evt} {i : Nat} {x : Evt} (hi : i < h.length) (hx : h[i] = x) (hc : (x.type = 1 ∧ 1 ≤ x.model) ∧ x.model < 11) : (metL (h.take i)).set x.model.toNat (.bool true) = metL (h.take (i + 1)) := by
  subst hx
  obtain ⟨⟨h1, h2⟩, h3⟩ := hc
  apply List.ext_getElem
  · simp [metL]
  · intro j hj1 hj2
    simp only [metL, List.length_set, List.length_map, List.length_range] at hj1
    rw [List.getElem_set]
    simp only [metL, List.getElem_map, List.getElem_range]
    rw [hasM_take hi]
    split
    · rename_i e
      subst e
      have h0 : isM (h[i].model.toNat : Int) h[i] = true := by simp only [isM, h1, decide_true, Bool.true_and, decide_eq_true_eq]; omega
      have h4 : decide (1 ≤ h[i].model.toNat) = true := by simp only [decide_eq_true_eq]; omega
      rw [h0, h4, Bool.or_true]; rfl
    · rename_i e
      have h0 : isM (j : Int) h[i] = false := by simp only [isM, h1, decide_true, Bool.true_and, decide_eq_false_iff_not]; omega
      rw [h0, Bool.or_false]
theorem metL_skip {h : List Evt} {i : Nat} {x : Evt} (hi : i < h.length) (hx : h[i] = x) (hn : (¬ x.type = 1 ∨ ¬ 1 ≤ x.model) ∨ ¬ x.model < 11) : metL (h.take i) = metL (h.take (i + 1)) := by
  subst hx
  apply List.ext_getElem
  · simp [metL]
  · intro j hj1 hj2
    simp only [metL, List.length_map, List.length_range] at hj1
    simp only [metL, List.getElem_map, List.getElem_range]
    rw [hasM_take hi]
    by_cases hj : 1 ≤ j
    · have h0 : isM (j : Int) h[i] = false := by
        simp only [isM, Bool.and_eq_false_iff, decide_eq_false_iff_not]
        by_cases h1 : h[i].type = 1
        · right; omega
        · exact .inl h1
      rw [h0, Bool.or_false]
    · have : decide (1 ≤ j) = false := by simp [hj]
      rw [this]; rfl
theorem metL_one {h : List Evt} : ∀ v ∈ metL h, one v = true := by
  intro v hv
  simp only [metL, List.mem_map] at hv
  obtain ⟨j, _, rfl⟩ := hv
  rfl
theorem metL_9 {h : List Evt} : (metL h)[9]? = some (.bool (hasM h 9)) := by simp [metL]
theorem metL_10 {h : List Evt} : (metL h)[10]? = some (.bool (hasM h 10)) := by simp [metL]
theorem kEvt_mk {G : Heap} (x : Evt) {A1 c1 A2 c2} (h1 : x.args.length ≤ c1) (h2 : Rd kVal G A1 x.args) (h3 : x.out.length ≤ c2) (h4 : Rd kVal G A2 x.out) : kEvt.R G x (evtCells x A1 c1 A2 c2) := ⟨A1, c1, A2, c2, rfl, h1, h2, h3, h4⟩
theorem metL_at {h : List Evt} {j : Nat} (hj : j < 11) : (metL h)[j]? = some (.bool (decide (1 ≤ j) && hasM h (j : Int))) := by simp [metL, hj]
def modelsUp (h : List Evt) (i : Nat) : List Int := ((List.range i).filter fun (j : Nat) => decide (1 ≤ j) && hasM h (j : Int)).map fun (j : Nat) => (j : Int)
theorem modelsUp_in {h : List Evt} {i : Nat} (hc : (decide (1 ≤ i) && hasM h (i : Int)) = true) : modelsUp h i ++ [(i : Int)] = modelsUp h (i + 1) := by
  simp only [modelsUp, List.range_succ, List.filter_append, List.map_append]
  simp [List.filter_cons, hc]
theorem modelsUp_out {h : List Evt} {i : Nat} (hc : (decide (1 ≤ i) && hasM h (i : Int)) = false) : modelsUp h i = modelsUp h (i + 1) := by
  simp only [modelsUp, List.range_succ, List.filter_append, List.map_append]
  rw [List.filter_cons, if_neg (by rw [hc]; decide)]
  simp
theorem modelsUp_step {h : List Evt} {i : Nat} : (bif decide (1 ≤ i) && hasM h (i : Int) then modelsUp h i ++ [(i : Int)] else modelsUp h i) = modelsUp h (i + 1) := by
  cases hc : (decide (1 ≤ i) && hasM h (i : Int)) with
  | true => exact modelsUp_in hc
  | false => exact modelsUp_out hc
theorem modelsUp_step1 {h : List Evt} {i : Nat} (h1 : 1 ≤ i) : (bif hasM h (i : Int) then modelsUp h i ++ [(i : Int)] else modelsUp h i) = modelsUp h (i + 1) := by
  rw [← modelsUp_step (i := i), decide_eq_true h1, Bool.true_and]
theorem modelsUp_len (h : List Evt) (i : Nat) : (modelsUp h i).length ≤ i := by
  simp only [modelsUp, List.length_map]
  have := List.length_filter_le (fun (j : Nat) => decide (1 ≤ j) && hasM h (j : Int)) (List.range i)
  simpa using this
theorem kof_open {α : Type} {enc : α → Value} {G : Heap} {b o : Nat} {x : α} (h : ElAt (Knd.of enc) G b o x) : CellsAt G b o [enc x] := by
  obtain ⟨cs, h1, h2⟩ := h
  cases h1
  exact h2
theorem take_snoc_eq {α : Type} {a b : List α} {i : Nat} (h : a.take i = b.take i) (ha : i < a.length) (hb : i < b.length) (e : a[i] = b[i]) : a.take (i + 1) = b.take (i + 1) := by
  rw [List.take_add_one, List.take_add_one, h, List.getElem?_eq_getElem ha, List.getElem?_eq_getElem hb, e]
theorem hasM_append (a b : List Evt) (m : Int) : hasM (a ++ b) m = (hasM a m || hasM b m) := List.any_append
def sortedB (h : List Evt) : Bool := hasM h 9 || hasM h 10
def admitsB (p : Pol) (h : List Evt) : Bool := rightB p && !((decide (p.r4.way = 1) || decide (p.r4.way = 2)) && sortedB h)
/-! `incognito/policy.ruled` -/
set_option maxRecDepth 100000 in
set_option maxHeartbeats 4000000 in
theorem c_ruled (d : Int) (r : Rul) (w0 : World) (G : Heap) (hG : Sub G w0) :
    Calls Try.prog 28 #[.int .i64 d, .agg #[.int .i64 r.way, .int .i64 r.size]] w0 (Ret w0 G (fun v _ => v = .bool (ruledB d r))) := by
  refine enter Try.func28 rfl Try.ntmps28 rfl ?_
  intro Q hQ a HE
  have HS := St.start0 hG
  refine wp_seq_k (fun K hK => ?_); refine wp_region_lit ?_
  refine o_boxL [(0, _), (1, _)] HE rfl HS rfl ⟨rfl, rfl, trivial⟩ ?_; clear HE HS; intro B3 w a HS HE
  refine o_assign HE rfl rfl ?_; clear HE; intro a HE
  refine hK _ _ ?_; clear hK K
  refine wp_seq_k (fun K3 hK2 => ?_)
  refine wp_seq_k (fun K hK => ?_); refine wp_region_lit ?_
  refine o_fld HE rfl rfl T.f23_0 ?_; clear HE; intro a HE
  refine o_ld HE rfl HS rfl T.s3 (.here .here) rfl ?_; clear HE; intro a HE
  refine hK _ _ ?_; clear hK K
  refine wp_block ?_
  refine wp_seq_k (fun K hK => ?_); refine wp_region_lit ?_
  refine o_eqI HE rfl rfl rfl ?_; clear HE; intro a HE
  refine o_assign HE rfl rfl ?_; clear HE; intro a HE
  refine hK _ _ ?_; clear hK K
  refine cond HE rfl (fun h6 => ?_) (fun h6 => ?_)
  · have h6r := h6; try simp only [Bool.not_eq_true', Bool.not_eq_false', Bool.and_eq_true, Bool.or_eq_true, Bool.or_eq_false_iff, Bool.and_eq_false_iff, decide_eq_true_eq, decide_eq_false_iff_not, beq_iff_eq, beq_eq_false_iff_ne] at h6
    refine wp_seq_k (fun K hK => ?_); refine wp_region_lit ?_
    refine o_fld HE rfl rfl T.f23_1 ?_; clear HE; intro a HE
    refine o_ld HE rfl HS rfl T.s3 (.here .here) rfl ?_; clear HE; intro a HE
    refine o_geq HE rfl rfl rfl ?_; clear HE; intro a HE
    refine o_move HE rfl rfl ?_; clear HE; intro a HE
    refine cutL 4 (fun a' w' => w = w' ∧ Env a' 35 [] [(16, .bool ((decide (1 ≤ r.size)) && (decide (r.size ≤ 16)))), (0, .int .i64 d), (1, .agg #[.int .i64 r.way, .int .i64 r.size]), (3, .pointer (some ⟨B3, 0, none⟩)), (4, .bool false), (5, .pointer (some ⟨B3, 0, none⟩)), (6, .int .i64 r.way), (7, .bool (decide (r.way = 2))), (8, .bool (decide (r.way = 2)))]) ?_ ?_
    · refine (Bool.eq_false_or_eq_true (decide (1 ≤ r.size))).elim (fun hb7 => ?_) (fun hb7 => ?_)
      · skip
        have hk8 := hb7; try simp only [Bool.not_eq_true', Bool.not_eq_false', Bool.and_eq_true, Bool.or_eq_true, Bool.or_eq_false_iff, decide_eq_true_eq, decide_eq_false_iff_not] at hk8
        refine op_on HE rfl rfl hb7 ?_
        refine o_fld HE rfl rfl T.f23_1 ?_; clear HE; intro a HE
        refine op_on HE rfl rfl hb7 ?_
        refine o_ld HE rfl HS rfl T.s3 (.here .here) rfl ?_; clear HE; intro a HE
        refine op_on HE rfl rfl hb7 ?_
        refine o_leq HE rfl rfl rfl ?_; clear HE; intro a HE
        refine o_pick_t HE rfl rfl hb7 rfl ?_; clear HE; intro a HE
        exact ⟨rfl, HE.cut ⟨by rw [hb7]; rfl, rfl, rfl, rfl, rfl, rfl, rfl, rfl, rfl, trivial⟩⟩
      · skip
        have hk9 := hb7; try simp only [Bool.not_eq_true', Bool.not_eq_false', Bool.and_eq_true, Bool.or_eq_true, Bool.or_eq_false_iff, decide_eq_true_eq, decide_eq_false_iff_not] at hk9
        refine g_off HE rfl rfl rfl hb7 ?_; clear HE; intro a HE
        refine g_off HE rfl rfl rfl hb7 ?_; clear HE; intro a HE
        refine g_off HE rfl rfl rfl hb7 ?_; clear HE; intro a HE
        refine o_pick_f HE rfl rfl hb7 rfl ?_; clear HE; intro a HE
        exact ⟨rfl, HE.cut ⟨by rw [hb7]; rfl, rfl, rfl, rfl, rfl, rfl, rfl, rfl, rfl, trivial⟩⟩
    clear HE; rintro a _ ⟨rfl, HE⟩
    refine o_assign HE rfl rfl ?_; clear HE; intro a HE
    refine hK _ _ ?_; clear hK K
    refine wp_ret ?_
    show Q .ret _ _
    refine ret hQ HE rfl (HE.res rfl .nil) ⟨_, _, HS.stop (List.nil_sublist _), rfl, ?_⟩
    show _ = _
    simp only [packed, Value.bool.injEq]
    simp only [ruledB]
    first | (simp_all; done) | (simp_all; omega) | (grind)
  · have h6r := h6; try simp only [Bool.not_eq_true', Bool.not_eq_false', Bool.and_eq_true, Bool.or_eq_true, Bool.or_eq_false_iff, Bool.and_eq_false_iff, decide_eq_true_eq, decide_eq_false_iff_not, beq_iff_eq, beq_eq_false_iff_ne] at h6
    refine cutC (fun a' w' => w = w' ∧ Env a' 35 [] [(0, .int .i64 d), (1, .agg #[.int .i64 r.way, .int .i64 r.size]), (3, .pointer (some ⟨B3, 0, none⟩)), (4, .bool false), (5, .pointer (some ⟨B3, 0, none⟩)), (6, .int .i64 r.way), (7, .bool (decide (r.way = 2))), (8, .bool (decide (r.way = 2))), (17, .bool ((decide (r.way = 0)) || (decide (r.way = 1))))]) ?_ ?_
    · skip
      refine wp_seq_k (fun K hK => ?_); refine wp_region_lit ?_
      refine o_eqI HE rfl rfl rfl ?_; clear HE; intro a HE
      refine o_assign HE rfl rfl ?_; clear HE; intro a HE
      refine hK _ _ ?_; clear hK K
      refine cond HE rfl (fun h12 => ?_) (fun h12 => ?_)
      · have h12r := h12; try simp only [Bool.not_eq_true', Bool.not_eq_false', Bool.and_eq_true, Bool.or_eq_true, Bool.or_eq_false_iff, Bool.and_eq_false_iff, decide_eq_true_eq, decide_eq_false_iff_not, beq_iff_eq, beq_eq_false_iff_ne] at h12
        refine wp_skip ?_
        exact ⟨rfl, HE.cut ⟨rfl, rfl, rfl, rfl, rfl, rfl, rfl, rfl, by first | rfl | (rw [h12r]; rfl) | (rw [h12r]; rfl) | (simp [h12r, lk]; done), trivial⟩⟩
      · have h12r := h12; try simp only [Bool.not_eq_true', Bool.not_eq_false', Bool.and_eq_true, Bool.or_eq_true, Bool.or_eq_false_iff, Bool.and_eq_false_iff, decide_eq_true_eq, decide_eq_false_iff_not, beq_iff_eq, beq_eq_false_iff_ne] at h12
        refine wp_region_lit ?_
        refine o_eqI HE rfl rfl rfl ?_; clear HE; intro a HE
        refine o_assign HE rfl rfl ?_; clear HE; intro a HE
        exact ⟨rfl, HE.cut ⟨rfl, rfl, rfl, rfl, rfl, rfl, rfl, rfl, by first | rfl | (rw [h12r]; rfl) | (rw [h12r]; rfl) | (simp [h12r, lk]; done), trivial⟩⟩
    clear HE; rintro a _ ⟨rfl, HE⟩
    refine cond HE rfl (fun h13 => ?_) (fun h13 => ?_)
    · have h13r := h13; try simp only [Bool.not_eq_true', Bool.not_eq_false', Bool.and_eq_true, Bool.or_eq_true, Bool.or_eq_false_iff, Bool.and_eq_false_iff, decide_eq_true_eq, decide_eq_false_iff_not, beq_iff_eq, beq_eq_false_iff_ne] at h13
      refine wp_seq_k (fun K hK => ?_); refine wp_region_lit ?_
      refine o_fld HE rfl rfl T.f23_1 ?_; clear HE; intro a HE
      refine o_ld HE rfl HS rfl T.s3 (.here .here) rfl ?_; clear HE; intro a HE
      refine o_eqI HE rfl rfl rfl ?_; clear HE; intro a HE
      refine o_assign HE rfl rfl ?_; clear HE; intro a HE
      refine hK _ _ ?_; clear hK K
      refine wp_ret ?_
      show Q .ret _ _
      refine ret hQ HE rfl (HE.res rfl .nil) ⟨_, _, HS.stop (List.nil_sublist _), rfl, ?_⟩
      show _ = _
      simp only [packed, Value.bool.injEq]
      simp only [ruledB]
      first | (simp_all; done) | (simp_all; omega) | (grind)
    · have h13r := h13; try simp only [Bool.not_eq_true', Bool.not_eq_false', Bool.and_eq_true, Bool.or_eq_true, Bool.or_eq_false_iff, Bool.and_eq_false_iff, decide_eq_true_eq, decide_eq_false_iff_not, beq_iff_eq, beq_eq_false_iff_ne] at h13
      refine wp_skip ?_
      refine hK2 _ _ ?_; clear hK2
      refine wp_seq_k (fun K hK => ?_); refine wp_region_lit ?_
      refine o_fld HE rfl rfl T.f23_0 ?_; clear HE; intro a HE
      refine o_ld HE rfl HS rfl T.s3 (.here .here) rfl ?_; clear HE; intro a HE
      refine o_eqI HE rfl rfl rfl ?_; clear HE; intro a HE
      refine o_move HE rfl rfl ?_; clear HE; intro a HE
      refine cutL 3 (fun a' w' => w = w' ∧ Env a' 35 [] [(29, .bool ((decide (r.way = 3)) && (decide (d = 4)))), (1, .agg #[.int .i64 r.way, .int .i64 r.size]), (3, .pointer (some ⟨B3, 0, none⟩)), (4, .bool false), (5, .pointer (some ⟨B3, 0, none⟩)), (6, .int .i64 r.way), (7, .bool (decide (r.way = 2))), (8, .bool (decide (r.way = 2))), (17, .bool ((decide (r.way = 0)) || (decide (r.way = 1))))]) ?_ ?_
      · refine (Bool.eq_false_or_eq_true (decide (r.way = 3))).elim (fun hb15 => ?_) (fun hb15 => ?_)
        · skip
          have hk16 := hb15; try simp only [Bool.not_eq_true', Bool.not_eq_false', Bool.and_eq_true, Bool.or_eq_true, Bool.or_eq_false_iff, decide_eq_true_eq, decide_eq_false_iff_not] at hk16
          refine op_on HE rfl rfl hb15 ?_
          refine o_move HE rfl rfl ?_; clear HE; intro a HE
          refine op_on HE rfl rfl hb15 ?_
          refine o_eqI HE rfl rfl rfl ?_; clear HE; intro a HE
          refine o_pick_t HE rfl rfl hb15 rfl ?_; clear HE; intro a HE
          exact ⟨rfl, HE.cut ⟨by rw [hb15]; rfl, rfl, rfl, rfl, rfl, rfl, rfl, rfl, rfl, trivial⟩⟩
        · skip
          have hk17 := hb15; try simp only [Bool.not_eq_true', Bool.not_eq_false', Bool.and_eq_true, Bool.or_eq_true, Bool.or_eq_false_iff, decide_eq_true_eq, decide_eq_false_iff_not] at hk17
          refine g_off HE rfl rfl rfl hb15 ?_; clear HE; intro a HE
          refine g_off HE rfl rfl rfl hb15 ?_; clear HE; intro a HE
          refine o_pick_f HE rfl rfl hb15 rfl ?_; clear HE; intro a HE
          exact ⟨rfl, HE.cut ⟨by rw [hb15]; rfl, rfl, rfl, rfl, rfl, rfl, rfl, rfl, rfl, trivial⟩⟩
      clear HE; rintro a _ ⟨rfl, HE⟩
      refine o_move HE rfl rfl ?_; clear HE; intro a HE
      refine cutL 4 (fun a' w' => w = w' ∧ Env a' 35 [] [(34, .bool (((decide (r.way = 3)) && (decide (d = 4))) && (decide (r.size = 0)))), (1, .agg #[.int .i64 r.way, .int .i64 r.size]), (3, .pointer (some ⟨B3, 0, none⟩)), (4, .bool false), (5, .pointer (some ⟨B3, 0, none⟩)), (6, .int .i64 r.way), (7, .bool (decide (r.way = 2))), (8, .bool (decide (r.way = 2))), (17, .bool ((decide (r.way = 0)) || (decide (r.way = 1))))]) ?_ ?_
      · refine (Bool.eq_false_or_eq_true ((decide (r.way = 3)) && (decide (d = 4)))).elim (fun hb18 => ?_) (fun hb18 => ?_)
        · skip
          have hk19 := hb18; try simp only [Bool.not_eq_true', Bool.not_eq_false', Bool.and_eq_true, Bool.or_eq_true, Bool.or_eq_false_iff, decide_eq_true_eq, decide_eq_false_iff_not] at hk19
          refine op_on HE rfl rfl hb18 ?_
          refine o_fld HE rfl rfl T.f23_1 ?_; clear HE; intro a HE
          refine op_on HE rfl rfl hb18 ?_
          refine o_ld HE rfl HS rfl T.s3 (.here .here) rfl ?_; clear HE; intro a HE
          refine op_on HE rfl rfl hb18 ?_
          refine o_eqI HE rfl rfl rfl ?_; clear HE; intro a HE
          refine o_pick_t HE rfl rfl hb18 rfl ?_; clear HE; intro a HE
          exact ⟨rfl, HE.cut ⟨by rw [hb18]; rfl, rfl, rfl, rfl, rfl, rfl, rfl, rfl, rfl, trivial⟩⟩
        · skip
          have hk20 := hb18; try simp only [Bool.not_eq_true', Bool.not_eq_false', Bool.and_eq_true, Bool.or_eq_true, Bool.or_eq_false_iff, decide_eq_true_eq, decide_eq_false_iff_not] at hk20
          refine g_off HE rfl rfl rfl hb18 ?_; clear HE; intro a HE
          refine g_off HE rfl rfl rfl hb18 ?_; clear HE; intro a HE
          refine g_off HE rfl rfl rfl hb18 ?_; clear HE; intro a HE
          refine o_pick_f HE rfl rfl hb18 rfl ?_; clear HE; intro a HE
          exact ⟨rfl, HE.cut ⟨by rw [hb18]; rfl, rfl, rfl, rfl, rfl, rfl, rfl, rfl, rfl, trivial⟩⟩
      clear HE; rintro a _ ⟨rfl, HE⟩
      refine o_assign HE rfl rfl ?_; clear HE; intro a HE
      refine hK _ _ ?_; clear hK K
      refine wp_ret ?_
      show Q .ret _ _
      refine ret hQ HE rfl (HE.res rfl .nil) ⟨_, _, HS.stop (List.nil_sublist _), rfl, ?_⟩
      show _ = _
      simp only [packed, Value.bool.injEq]
      simp only [ruledB]
      first | (simp_all; done) | (simp_all; omega) | (grind)

/-! `incognito/incognitoref25.Ruled` -/
set_option maxRecDepth 100000 in
set_option maxHeartbeats 4000000 in
theorem c_Ruled (d : Int) (r : Rul) (w0 : World) (G : Heap) (hG : Sub G w0) :
    Calls Try.prog 29 #[.int .i64 d, .agg #[.int .i64 r.way, .int .i64 r.size]] w0 (Ret w0 G (fun v _ => v = .bool (ruledB d r))) := by
  refine enter Try.func29 rfl Try.ntmps29 rfl ?_
  intro Q hQ a HE
  have HS := St.start0 hG
  refine wp_seq_k (fun K hK => ?_); refine wp_region_lit ?_
  refine o_boxL [(0, _), (1, _)] HE rfl HS rfl ⟨rfl, rfl, trivial⟩ ?_; clear HE HS; intro B3 w a HS HE
  refine o_assign HE rfl rfl ?_; clear HE; intro a HE
  refine hK _ _ ?_; clear hK K
  refine wp_seq_k (fun K3 hK2 => ?_)
  refine wp_seq_k (fun K hK => ?_); refine wp_region_lit ?_
  refine o_fld HE rfl rfl T.f23_0 ?_; clear HE; intro a HE
  refine o_ld HE rfl HS rfl T.s3 (.here .here) rfl ?_; clear HE; intro a HE
  refine o_eqI HE rfl rfl rfl ?_; clear HE; intro a HE
  refine hK _ _ ?_; clear hK K
  refine cond HE rfl (fun h5 => ?_) (fun h5 => ?_)
  · have h5r := h5; try simp only [Bool.not_eq_true', Bool.not_eq_false', Bool.and_eq_true, Bool.or_eq_true, Bool.or_eq_false_iff, Bool.and_eq_false_iff, decide_eq_true_eq, decide_eq_false_iff_not, beq_iff_eq, beq_eq_false_iff_ne] at h5
    refine wp_seq_k (fun K hK => ?_); refine wp_region_lit ?_
    refine o_fld HE rfl rfl T.f23_1 ?_; clear HE; intro a HE
    refine o_ld HE rfl HS rfl T.s3 (.here .here) rfl ?_; clear HE; intro a HE
    refine o_geq HE rfl rfl rfl ?_; clear HE; intro a HE
    refine o_move HE rfl rfl ?_; clear HE; intro a HE
    refine cutL 4 (fun a' w' => w = w' ∧ Env a' 38 [] [(15, .bool ((decide (1 ≤ r.size)) && (decide (r.size ≤ 16)))), (0, .int .i64 d), (1, .agg #[.int .i64 r.way, .int .i64 r.size]), (3, .pointer (some ⟨B3, 0, none⟩)), (4, .bool false), (5, .pointer (some ⟨B3, 0, none⟩)), (6, .int .i64 r.way), (7, .bool (decide (r.way = 2)))]) ?_ ?_
    · refine (Bool.eq_false_or_eq_true (decide (1 ≤ r.size))).elim (fun hb6 => ?_) (fun hb6 => ?_)
      · skip
        have hk7 := hb6; try simp only [Bool.not_eq_true', Bool.not_eq_false', Bool.and_eq_true, Bool.or_eq_true, Bool.or_eq_false_iff, decide_eq_true_eq, decide_eq_false_iff_not] at hk7
        refine op_on HE rfl rfl hb6 ?_
        refine o_fld HE rfl rfl T.f23_1 ?_; clear HE; intro a HE
        refine op_on HE rfl rfl hb6 ?_
        refine o_ld HE rfl HS rfl T.s3 (.here .here) rfl ?_; clear HE; intro a HE
        refine op_on HE rfl rfl hb6 ?_
        refine o_leq HE rfl rfl rfl ?_; clear HE; intro a HE
        refine o_pick_t HE rfl rfl hb6 rfl ?_; clear HE; intro a HE
        exact ⟨rfl, HE.cut ⟨by rw [hb6]; rfl, rfl, rfl, rfl, rfl, rfl, rfl, rfl, trivial⟩⟩
      · skip
        have hk8 := hb6; try simp only [Bool.not_eq_true', Bool.not_eq_false', Bool.and_eq_true, Bool.or_eq_true, Bool.or_eq_false_iff, decide_eq_true_eq, decide_eq_false_iff_not] at hk8
        refine g_off HE rfl rfl rfl hb6 ?_; clear HE; intro a HE
        refine g_off HE rfl rfl rfl hb6 ?_; clear HE; intro a HE
        refine g_off HE rfl rfl rfl hb6 ?_; clear HE; intro a HE
        refine o_pick_f HE rfl rfl hb6 rfl ?_; clear HE; intro a HE
        exact ⟨rfl, HE.cut ⟨by rw [hb6]; rfl, rfl, rfl, rfl, rfl, rfl, rfl, rfl, trivial⟩⟩
    clear HE; rintro a _ ⟨rfl, HE⟩
    refine o_assign HE rfl rfl ?_; clear HE; intro a HE
    refine hK _ _ ?_; clear hK K
    refine wp_ret ?_
    show Q .ret _ _
    refine ret hQ HE rfl (HE.res rfl .nil) ⟨_, _, HS.stop (List.nil_sublist _), rfl, ?_⟩
    show _ = _
    simp only [packed, Value.bool.injEq]
    simp only [ruledB]
    first | (simp_all; done) | (simp_all; omega) | (grind)
  · have h5r := h5; try simp only [Bool.not_eq_true', Bool.not_eq_false', Bool.and_eq_true, Bool.or_eq_true, Bool.or_eq_false_iff, Bool.and_eq_false_iff, decide_eq_true_eq, decide_eq_false_iff_not, beq_iff_eq, beq_eq_false_iff_ne] at h5
    refine wp_skip ?_
    refine hK2 _ _ ?_; clear hK2
    refine wp_seq_k (fun K hK => ?_); refine wp_region_lit ?_
    refine o_fld HE rfl rfl T.f23_1 ?_; clear HE; intro a HE
    refine o_ld HE rfl HS rfl T.s3 (.here .here) rfl ?_; clear HE; intro a HE
    refine o_eqI HE rfl rfl rfl ?_; clear HE; intro a HE
    refine o_move HE rfl rfl ?_; clear HE; intro a HE
    refine cutL 18 (fun a' w' => w = w' ∧ Env a' 38 [] [(37, .bool ((decide (r.size = 0)) && (((decide (r.way = 0)) || (decide (r.way = 1))) || ((decide (r.way = 3)) && (decide (d = 4)))))), (1, .agg #[.int .i64 r.way, .int .i64 r.size]), (3, .pointer (some ⟨B3, 0, none⟩)), (4, .bool false), (5, .pointer (some ⟨B3, 0, none⟩)), (6, .int .i64 r.way), (7, .bool (decide (r.way = 2)))]) ?_ ?_
    · refine (Bool.eq_false_or_eq_true (decide (r.size = 0))).elim (fun hb10 => ?_) (fun hb10 => ?_)
      · skip
        have hk11 := hb10; try simp only [Bool.not_eq_true', Bool.not_eq_false', Bool.and_eq_true, Bool.or_eq_true, Bool.or_eq_false_iff, decide_eq_true_eq, decide_eq_false_iff_not] at hk11
        refine op_on HE rfl rfl hb10 ?_
        refine o_fld HE rfl rfl T.f23_0 ?_; clear HE; intro a HE
        refine op_on HE rfl rfl hb10 ?_
        refine o_ld HE rfl HS rfl T.s3 (.here .here) rfl ?_; clear HE; intro a HE
        refine op_on HE rfl rfl hb10 ?_
        refine o_eqI HE rfl rfl rfl ?_; clear HE; intro a HE
        refine op_on HE rfl rfl hb10 ?_
        refine o_move HE rfl rfl ?_; clear HE; intro a HE
        refine cutL 4 (fun a' w' => w = w' ∧ Env a' 38 [] [(27, .bool ((decide (r.way = 0)) || (decide (r.way = 1)))), (0, .int .i64 d), (1, .agg #[.int .i64 r.way, .int .i64 r.size]), (3, .pointer (some ⟨B3, 0, none⟩)), (4, .bool false), (5, .pointer (some ⟨B3, 0, none⟩)), (6, .int .i64 r.way), (7, .bool (decide (r.way = 2))), (19, .bool (decide (r.size = 0)))]) ?_ ?_
        · refine (Bool.eq_false_or_eq_true (decide (r.way = 0))).elim (fun hb12 => ?_) (fun hb12 => ?_)
          · skip
            have hk13 := hb12; try simp only [Bool.not_eq_true', Bool.not_eq_false', Bool.and_eq_true, Bool.or_eq_true, Bool.or_eq_false_iff, decide_eq_true_eq, decide_eq_false_iff_not] at hk13
            refine g_off HE rfl rfl rfl hb12 ?_; clear HE; intro a HE
            refine g_off HE rfl rfl rfl hb12 ?_; clear HE; intro a HE
            refine g_off HE rfl rfl rfl hb12 ?_; clear HE; intro a HE
            refine op_on HE rfl rfl hb10 ?_
            refine o_pick_t HE rfl rfl hb12 rfl ?_; clear HE; intro a HE
            exact ⟨rfl, HE.cut ⟨by rw [hb12]; rfl, rfl, rfl, rfl, rfl, rfl, rfl, rfl, rfl, trivial⟩⟩
          · skip
            have hk14 := hb12; try simp only [Bool.not_eq_true', Bool.not_eq_false', Bool.and_eq_true, Bool.or_eq_true, Bool.or_eq_false_iff, decide_eq_true_eq, decide_eq_false_iff_not] at hk14
            refine op_on HE rfl rfl hb12 ?_
            refine o_fld HE rfl rfl T.f23_0 ?_; clear HE; intro a HE
            refine op_on HE rfl rfl hb12 ?_
            refine o_ld HE rfl HS rfl T.s3 (.here .here) rfl ?_; clear HE; intro a HE
            refine op_on HE rfl rfl hb12 ?_
            refine o_eqI HE rfl rfl rfl ?_; clear HE; intro a HE
            refine op_on HE rfl rfl hb10 ?_
            refine o_pick_f HE rfl rfl hb12 rfl ?_; clear HE; intro a HE
            exact ⟨rfl, HE.cut ⟨by rw [hb12]; rfl, rfl, rfl, rfl, rfl, rfl, rfl, rfl, rfl, trivial⟩⟩
        clear HE; rintro a _ ⟨rfl, HE⟩
        refine op_on HE rfl rfl hb10 ?_
        refine o_move HE rfl rfl ?_; clear HE; intro a HE
        refine cutL 8 (fun a' w' => w = w' ∧ Env a' 38 [] [(36, .bool (((decide (r.way = 0)) || (decide (r.way = 1))) || ((decide (r.way = 3)) && (decide (d = 4))))), (1, .agg #[.int .i64 r.way, .int .i64 r.size]), (3, .pointer (some ⟨B3, 0, none⟩)), (4, .bool false), (5, .pointer (some ⟨B3, 0, none⟩)), (6, .int .i64 r.way), (7, .bool (decide (r.way = 2))), (19, .bool (decide (r.size = 0)))]) ?_ ?_
        · refine (Bool.eq_false_or_eq_true ((decide (r.way = 0)) || (decide (r.way = 1)))).elim (fun hb15 => ?_) (fun hb15 => ?_)
          · skip
            have hk16 := hb15; try simp only [Bool.not_eq_true', Bool.not_eq_false', Bool.and_eq_true, Bool.or_eq_true, Bool.or_eq_false_iff, decide_eq_true_eq, decide_eq_false_iff_not] at hk16
            refine g_off HE rfl rfl rfl hb15 ?_; clear HE; intro a HE
            refine g_off HE rfl rfl rfl hb15 ?_; clear HE; intro a HE
            refine g_off HE rfl rfl rfl hb15 ?_; clear HE; intro a HE
            refine g_off HE rfl rfl rfl hb15 ?_; clear HE; intro a HE
            refine g_offu HE rfl rfl rfl ?_; clear HE; intro a HE
            refine g_offu HE rfl rfl rfl ?_; clear HE; intro a HE
            refine g_off HE rfl rfl rfl hb15 ?_; clear HE; intro a HE
            refine op_on HE rfl rfl hb10 ?_
            refine o_pick_t HE rfl rfl hb15 rfl ?_; clear HE; intro a HE
            exact ⟨rfl, HE.cut ⟨by rw [hb15]; rfl, rfl, rfl, rfl, rfl, rfl, rfl, rfl, trivial⟩⟩
          · skip
            have hk17 := hb15; try simp only [Bool.not_eq_true', Bool.not_eq_false', Bool.and_eq_true, Bool.or_eq_true, Bool.or_eq_false_iff, decide_eq_true_eq, decide_eq_false_iff_not] at hk17
            refine op_on HE rfl rfl hb15 ?_
            refine o_fld HE rfl rfl T.f23_0 ?_; clear HE; intro a HE
            refine op_on HE rfl rfl hb15 ?_
            refine o_ld HE rfl HS rfl T.s3 (.here .here) rfl ?_; clear HE; intro a HE
            refine op_on HE rfl rfl hb15 ?_
            refine o_eqI HE rfl rfl rfl ?_; clear HE; intro a HE
            refine op_on HE rfl rfl hb15 ?_
            refine o_move HE rfl rfl ?_; clear HE; intro a HE
            refine cutL 3 (fun a' w' => w = w' ∧ Env a' 38 [] [(35, .bool ((decide (r.way = 3)) && (decide (d = 4)))), (1, .agg #[.int .i64 r.way, .int .i64 r.size]), (3, .pointer (some ⟨B3, 0, none⟩)), (4, .bool false), (5, .pointer (some ⟨B3, 0, none⟩)), (6, .int .i64 r.way), (7, .bool (decide (r.way = 2))), (19, .bool (decide (r.size = 0))), (28, .bool ((decide (r.way = 0)) || (decide (r.way = 1))))]) ?_ ?_
            · refine (Bool.eq_false_or_eq_true (decide (r.way = 3))).elim (fun hb18 => ?_) (fun hb18 => ?_)
              · skip
                have hk19 := hb18; try simp only [Bool.not_eq_true', Bool.not_eq_false', Bool.and_eq_true, Bool.or_eq_true, Bool.or_eq_false_iff, decide_eq_true_eq, decide_eq_false_iff_not] at hk19
                refine op_on HE rfl rfl hb18 ?_
                refine o_move HE rfl rfl ?_; clear HE; intro a HE
                refine op_on HE rfl rfl hb18 ?_
                refine o_eqI HE rfl rfl rfl ?_; clear HE; intro a HE
                refine op_on HE rfl rfl hb15 ?_
                refine o_pick_t HE rfl rfl hb18 rfl ?_; clear HE; intro a HE
                exact ⟨rfl, HE.cut ⟨by rw [hb18]; rfl, rfl, rfl, rfl, rfl, rfl, rfl, rfl, rfl, trivial⟩⟩
              · skip
                have hk20 := hb18; try simp only [Bool.not_eq_true', Bool.not_eq_false', Bool.and_eq_true, Bool.or_eq_true, Bool.or_eq_false_iff, decide_eq_true_eq, decide_eq_false_iff_not] at hk20
                refine g_off HE rfl rfl rfl hb18 ?_; clear HE; intro a HE
                refine g_off HE rfl rfl rfl hb18 ?_; clear HE; intro a HE
                refine op_on HE rfl rfl hb15 ?_
                refine o_pick_f HE rfl rfl hb18 rfl ?_; clear HE; intro a HE
                exact ⟨rfl, HE.cut ⟨by rw [hb18]; rfl, rfl, rfl, rfl, rfl, rfl, rfl, rfl, rfl, trivial⟩⟩
            clear HE; rintro a _ ⟨rfl, HE⟩
            refine op_on HE rfl rfl hb10 ?_
            refine o_pick_f HE rfl rfl hb15 rfl ?_; clear HE; intro a HE
            exact ⟨rfl, HE.cut ⟨by rw [hb15]; rfl, rfl, rfl, rfl, rfl, rfl, rfl, rfl, trivial⟩⟩
        clear HE; rintro a _ ⟨rfl, HE⟩
        refine o_pick_t HE rfl rfl hb10 rfl ?_; clear HE; intro a HE
        exact ⟨rfl, HE.cut ⟨by rw [hb10]; rfl, rfl, rfl, rfl, rfl, rfl, rfl, trivial⟩⟩
      · skip
        have hk21 := hb10; try simp only [Bool.not_eq_true', Bool.not_eq_false', Bool.and_eq_true, Bool.or_eq_true, Bool.or_eq_false_iff, decide_eq_true_eq, decide_eq_false_iff_not] at hk21
        refine g_off HE rfl rfl rfl hb10 ?_; clear HE; intro a HE
        refine g_off HE rfl rfl rfl hb10 ?_; clear HE; intro a HE
        refine g_off HE rfl rfl rfl hb10 ?_; clear HE; intro a HE
        refine g_off HE rfl rfl rfl hb10 ?_; clear HE; intro a HE
        refine g_offu HE rfl rfl rfl ?_; clear HE; intro a HE
        refine g_offu HE rfl rfl rfl ?_; clear HE; intro a HE
        refine g_offu HE rfl rfl rfl ?_; clear HE; intro a HE
        refine g_off HE rfl rfl rfl hb10 ?_; clear HE; intro a HE
        refine g_off HE rfl rfl rfl hb10 ?_; clear HE; intro a HE
        refine g_offu HE rfl rfl rfl ?_; clear HE; intro a HE
        refine g_offu HE rfl rfl rfl ?_; clear HE; intro a HE
        refine g_offu HE rfl rfl rfl ?_; clear HE; intro a HE
        refine g_offu HE rfl rfl rfl ?_; clear HE; intro a HE
        refine g_offu HE rfl rfl rfl ?_; clear HE; intro a HE
        refine g_offu HE rfl rfl rfl ?_; clear HE; intro a HE
        refine g_offu HE rfl rfl rfl ?_; clear HE; intro a HE
        refine g_off HE rfl rfl rfl hb10 ?_; clear HE; intro a HE
        refine o_pick_f HE rfl rfl hb10 rfl ?_; clear HE; intro a HE
        exact ⟨rfl, HE.cut ⟨by rw [hb10]; rfl, rfl, rfl, rfl, rfl, rfl, rfl, trivial⟩⟩
    clear HE; rintro a _ ⟨rfl, HE⟩
    refine o_assign HE rfl rfl ?_; clear HE; intro a HE
    refine hK _ _ ?_; clear hK K
    refine wp_ret ?_
    show Q .ret _ _
    refine ret hQ HE rfl (HE.res rfl .nil) ⟨_, _, HS.stop (List.nil_sublist _), rfl, ?_⟩
    show _ = _
    simp only [packed, Value.bool.injEq]
    simp only [ruledB]
    first | (simp_all; done) | (simp_all; omega) | (grind)

/-! `incognito/policy.Right` -/
set_option maxRecDepth 100000 in
set_option maxHeartbeats 4000000 in
theorem c_right (p : Pol) (w0 : World) (G : Heap) (hG : Sub G w0) :
    Calls Try.prog 18 #[.agg #[.int .i64 p.r0.way, .int .i64 p.r0.size, .int .i64 p.r1.way, .int .i64 p.r1.size, .int .i64 p.r2.way, .int .i64 p.r2.size, .int .i64 p.r3.way, .int .i64 p.r3.size, .int .i64 p.r4.way, .int .i64 p.r4.size, .int .i64 p.time, .int .i64 p.note, .bool p.loose, .bool p.force]] w0 (Ret w0 G (fun v _ => v = .bool (rightB p))) := by
  refine enter Try.func18 rfl Try.ntmps18 rfl ?_
  intro Q hQ a HE
  have HS := St.start0 hG
  refine wp_seq_k (fun K hK => ?_); refine wp_region_lit ?_
  refine o_boxL [(0, _), (1, _), (2, _), (3, _), (4, _), (5, _), (6, _), (7, _), (8, _), (9, _), (10, _), (11, _), (12, _), (13, _)] HE rfl HS rfl ⟨rfl, rfl, rfl, rfl, rfl, rfl, rfl, rfl, rfl, rfl, rfl, rfl, rfl, rfl, trivial⟩ ?_; clear HE HS; intro B1 w a HS HE
  refine o_assign HE rfl rfl ?_; clear HE; intro a HE
  refine hK _ _ ?_; clear hK K
  refine wp_seq_k (fun K3 hK2 => ?_)
  refine wp_seq_k (fun K hK => ?_); refine wp_region_lit ?_
  refine o_fld HE rfl rfl T.f26_0 ?_; clear HE; intro a HE
  refine o_ldA HE rfl HS rfl T.a24 (.here .here) rfl ?_; clear HE; intro a HE
  refine o_move HE rfl rfl ?_; clear HE; intro a HE
  refine hK _ _ ?_; clear hK K
  refine wp_block ?_
  refine wp_loop_rounds 6 ?_
  rw [rounds_succ]
  refine wp_seq_k (fun K hK => ?_); refine wp_region_lit ?_
  refine o_lss HE rfl rfl rfl ?_; clear HE; intro a HE
  refine hK _ _ ?_; clear hK K
  refine wp_seq_k (fun K7 hK6 => ?_)
  refine cond HE rfl (fun h8 => ?_) (fun h8 => ?_)
  · have h8r := h8; try simp only [Bool.not_eq_true', Bool.not_eq_false', Bool.and_eq_true, Bool.or_eq_true, Bool.or_eq_false_iff, Bool.and_eq_false_iff, decide_eq_true_eq, decide_eq_false_iff_not, beq_iff_eq, beq_eq_false_iff_ne] at h8
    refine wp_skip ?_
    refine hK6 _ _ ?_; clear hK6
    refine wp_seq_k (fun K10 hK9 => ?_)
    refine wp_block ?_
    refine wp_seq_k (fun K hK => ?_); refine wp_region_lit ?_
    refine o_move HE rfl rfl ?_; clear HE; intro a HE
    refine o_ixV HE rfl rfl rfl T.r24 Try.underlying24 (by decide) rfl (.inr ⟨T.a23, rfl⟩) ?_; clear HE; intro a HE
    refine o_allocL [(0, _), (1, _)] HE rfl HS T.z23 ⟨rfl, rfl, trivial⟩ ?_; clear HE HS; intro B4 w a HS HE
    refine o_assign HE rfl rfl ?_; clear HE; intro a HE
    refine o_stA HE HS rfl rfl rfl T.a23 (.here .here) rfl ?_; clear HS; intro w HS
    refine hK _ _ ?_; clear hK K
    refine wp_seq_k (fun K hK => ?_); refine wp_region_lit ?_
    refine o_move HE rfl rfl ?_; clear HE; intro a HE
    refine o_ldA HE rfl HS rfl T.a23 (.here .here) rfl ?_; clear HE; intro a HE
    refine o_callP HE rfl HS rfl rfl T.g28 (c_ruled 0 p.r0 _ _ HS.sub) ?_
    clear HE HS; rintro _ w a HS rfl HE
    refine o_not HE rfl rfl ?_; clear HE; intro a HE
    refine hK _ _ ?_; clear hK K
    refine cond HE rfl (fun h13 => ?_) (fun h13 => ?_)
    · have h13r := h13; try simp only [Bool.not_eq_true', Bool.not_eq_false', Bool.and_eq_true, Bool.or_eq_true, Bool.or_eq_false_iff, Bool.and_eq_false_iff, decide_eq_true_eq, decide_eq_false_iff_not, beq_iff_eq, beq_eq_false_iff_ne] at h13
      refine wp_seq_k (fun K hK => ?_); refine wp_region_lit ?_
      refine o_assign HE rfl rfl ?_; clear HE; intro a HE
      refine hK _ _ ?_; clear hK K
      refine wp_ret ?_
      show Q .ret _ _
      refine ret hQ HE rfl (HE.res rfl .nil) ⟨_, _, HS.stop (List.nil_sublist _), rfl, ?_⟩
      show _ = _
      simp only [packed, Value.bool.injEq]
      simp only [rightB]
      first | (simp_all; done) | grind
    · have h13r := h13; try simp only [Bool.not_eq_true', Bool.not_eq_false', Bool.and_eq_true, Bool.or_eq_true, Bool.or_eq_false_iff, Bool.and_eq_false_iff, decide_eq_true_eq, decide_eq_false_iff_not, beq_iff_eq, beq_eq_false_iff_ne] at h13
      refine wp_skip ?_
      refine hK9 _ _ ?_; clear hK9
      refine wp_region_lit ?_
      refine o_add HE rfl rfl rfl (by omega) ?_; clear HE; intro a HE
      refine o_move HE rfl rfl ?_; clear HE; intro a HE
      show Code.rounds _ _ _ _ _ _
      replace HE := HE.cut (L' := [(1, .pointer (some ⟨B1, 0, none⟩)), (2, .bool false), (6, .agg #[.int .i64 p.r0.way, .int .i64 p.r0.size, .int .i64 p.r1.way, .int .i64 p.r1.size, .int .i64 p.r2.way, .int .i64 p.r2.size, .int .i64 p.r3.way, .int .i64 p.r3.size, .int .i64 p.r4.way, .int .i64 p.r4.size]), (7, .int .i64 1)]) ⟨rfl, rfl, rfl, rfl, trivial⟩
      rw [rounds_succ]
      refine wp_seq_k (fun K hK => ?_); refine wp_region_lit ?_
      refine o_lss HE rfl rfl rfl ?_; clear HE; intro a HE
      refine hK _ _ ?_; clear hK K
      refine wp_seq_k (fun K17 hK16 => ?_)
      refine cond HE rfl (fun h18 => ?_) (fun h18 => ?_)
      · have h18r := h18; try simp only [Bool.not_eq_true', Bool.not_eq_false', Bool.and_eq_true, Bool.or_eq_true, Bool.or_eq_false_iff, Bool.and_eq_false_iff, decide_eq_true_eq, decide_eq_false_iff_not, beq_iff_eq, beq_eq_false_iff_ne] at h18
        refine wp_skip ?_
        refine hK16 _ _ ?_; clear hK16
        refine wp_seq_k (fun K20 hK19 => ?_)
        refine wp_block ?_
        refine wp_seq_k (fun K hK => ?_); refine wp_region_lit ?_
        refine o_move HE rfl rfl ?_; clear HE; intro a HE
        refine o_ixV HE rfl rfl rfl T.r24 Try.underlying24 (by decide) rfl (.inr ⟨T.a23, rfl⟩) ?_; clear HE; intro a HE
        refine o_allocL [(0, _), (1, _)] HE rfl HS T.z23 ⟨rfl, rfl, trivial⟩ ?_; clear HE HS; intro B4_21 w a HS HE
        refine o_assign HE rfl rfl ?_; clear HE; intro a HE
        refine o_stA HE HS rfl rfl rfl T.a23 (.here .here) rfl ?_; clear HS; intro w HS
        refine hK _ _ ?_; clear hK K
        refine wp_seq_k (fun K hK => ?_); refine wp_region_lit ?_
        refine o_move HE rfl rfl ?_; clear HE; intro a HE
        refine o_ldA HE rfl HS rfl T.a23 (.here .here) rfl ?_; clear HE; intro a HE
        refine o_callP HE rfl HS rfl rfl T.g28 (c_ruled 1 p.r1 _ _ HS.sub) ?_
        clear HE HS; rintro _ w a HS rfl HE
        refine o_not HE rfl rfl ?_; clear HE; intro a HE
        refine hK _ _ ?_; clear hK K
        refine cond HE rfl (fun h24 => ?_) (fun h24 => ?_)
        · have h24r := h24; try simp only [Bool.not_eq_true', Bool.not_eq_false', Bool.and_eq_true, Bool.or_eq_true, Bool.or_eq_false_iff, Bool.and_eq_false_iff, decide_eq_true_eq, decide_eq_false_iff_not, beq_iff_eq, beq_eq_false_iff_ne] at h24
          refine wp_seq_k (fun K hK => ?_); refine wp_region_lit ?_
          refine o_assign HE rfl rfl ?_; clear HE; intro a HE
          refine hK _ _ ?_; clear hK K
          refine wp_ret ?_
          show Q .ret _ _
          refine ret hQ HE rfl (HE.res rfl .nil) ⟨_, _, HS.stop (List.nil_sublist _), rfl, ?_⟩
          show _ = _
          simp only [packed, Value.bool.injEq]
          simp only [rightB]
          first | (simp_all; done) | grind
        · have h24r := h24; try simp only [Bool.not_eq_true', Bool.not_eq_false', Bool.and_eq_true, Bool.or_eq_true, Bool.or_eq_false_iff, Bool.and_eq_false_iff, decide_eq_true_eq, decide_eq_false_iff_not, beq_iff_eq, beq_eq_false_iff_ne] at h24
          refine wp_skip ?_
          refine hK19 _ _ ?_; clear hK19
          refine wp_region_lit ?_
          refine o_add HE rfl rfl rfl (by omega) ?_; clear HE; intro a HE
          refine o_move HE rfl rfl ?_; clear HE; intro a HE
          show Code.rounds _ _ _ _ _ _
          replace HE := HE.cut (L' := [(1, .pointer (some ⟨B1, 0, none⟩)), (2, .bool false), (6, .agg #[.int .i64 p.r0.way, .int .i64 p.r0.size, .int .i64 p.r1.way, .int .i64 p.r1.size, .int .i64 p.r2.way, .int .i64 p.r2.size, .int .i64 p.r3.way, .int .i64 p.r3.size, .int .i64 p.r4.way, .int .i64 p.r4.size]), (7, .int .i64 2)]) ⟨rfl, rfl, rfl, rfl, trivial⟩
          rw [rounds_succ]
          refine wp_seq_k (fun K hK => ?_); refine wp_region_lit ?_
          refine o_lss HE rfl rfl rfl ?_; clear HE; intro a HE
          refine hK _ _ ?_; clear hK K
          refine wp_seq_k (fun K28 hK27 => ?_)
          refine cond HE rfl (fun h29 => ?_) (fun h29 => ?_)
          · have h29r := h29; try simp only [Bool.not_eq_true', Bool.not_eq_false', Bool.and_eq_true, Bool.or_eq_true, Bool.or_eq_false_iff, Bool.and_eq_false_iff, decide_eq_true_eq, decide_eq_false_iff_not, beq_iff_eq, beq_eq_false_iff_ne] at h29
            refine wp_skip ?_
            refine hK27 _ _ ?_; clear hK27
            refine wp_seq_k (fun K31 hK30 => ?_)
            refine wp_block ?_
            refine wp_seq_k (fun K hK => ?_); refine wp_region_lit ?_
            refine o_move HE rfl rfl ?_; clear HE; intro a HE
            refine o_ixV HE rfl rfl rfl T.r24 Try.underlying24 (by decide) rfl (.inr ⟨T.a23, rfl⟩) ?_; clear HE; intro a HE
            refine o_allocL [(0, _), (1, _)] HE rfl HS T.z23 ⟨rfl, rfl, trivial⟩ ?_; clear HE HS; intro B4_32 w a HS HE
            refine o_assign HE rfl rfl ?_; clear HE; intro a HE
            refine o_stA HE HS rfl rfl rfl T.a23 (.here .here) rfl ?_; clear HS; intro w HS
            refine hK _ _ ?_; clear hK K
            refine wp_seq_k (fun K hK => ?_); refine wp_region_lit ?_
            refine o_move HE rfl rfl ?_; clear HE; intro a HE
            refine o_ldA HE rfl HS rfl T.a23 (.here .here) rfl ?_; clear HE; intro a HE
            refine o_callP HE rfl HS rfl rfl T.g28 (c_ruled 2 p.r2 _ _ HS.sub) ?_
            clear HE HS; rintro _ w a HS rfl HE
            refine o_not HE rfl rfl ?_; clear HE; intro a HE
            refine hK _ _ ?_; clear hK K
            refine cond HE rfl (fun h35 => ?_) (fun h35 => ?_)
            · have h35r := h35; try simp only [Bool.not_eq_true', Bool.not_eq_false', Bool.and_eq_true, Bool.or_eq_true, Bool.or_eq_false_iff, Bool.and_eq_false_iff, decide_eq_true_eq, decide_eq_false_iff_not, beq_iff_eq, beq_eq_false_iff_ne] at h35
              refine wp_seq_k (fun K hK => ?_); refine wp_region_lit ?_
              refine o_assign HE rfl rfl ?_; clear HE; intro a HE
              refine hK _ _ ?_; clear hK K
              refine wp_ret ?_
              show Q .ret _ _
              refine ret hQ HE rfl (HE.res rfl .nil) ⟨_, _, HS.stop (List.nil_sublist _), rfl, ?_⟩
              show _ = _
              simp only [packed, Value.bool.injEq]
              simp only [rightB]
              first | (simp_all; done) | grind
            · have h35r := h35; try simp only [Bool.not_eq_true', Bool.not_eq_false', Bool.and_eq_true, Bool.or_eq_true, Bool.or_eq_false_iff, Bool.and_eq_false_iff, decide_eq_true_eq, decide_eq_false_iff_not, beq_iff_eq, beq_eq_false_iff_ne] at h35
              refine wp_skip ?_
              refine hK30 _ _ ?_; clear hK30
              refine wp_region_lit ?_
              refine o_add HE rfl rfl rfl (by omega) ?_; clear HE; intro a HE
              refine o_move HE rfl rfl ?_; clear HE; intro a HE
              show Code.rounds _ _ _ _ _ _
              replace HE := HE.cut (L' := [(1, .pointer (some ⟨B1, 0, none⟩)), (2, .bool false), (6, .agg #[.int .i64 p.r0.way, .int .i64 p.r0.size, .int .i64 p.r1.way, .int .i64 p.r1.size, .int .i64 p.r2.way, .int .i64 p.r2.size, .int .i64 p.r3.way, .int .i64 p.r3.size, .int .i64 p.r4.way, .int .i64 p.r4.size]), (7, .int .i64 3)]) ⟨rfl, rfl, rfl, rfl, trivial⟩
              rw [rounds_succ]
              refine wp_seq_k (fun K hK => ?_); refine wp_region_lit ?_
              refine o_lss HE rfl rfl rfl ?_; clear HE; intro a HE
              refine hK _ _ ?_; clear hK K
              refine wp_seq_k (fun K39 hK38 => ?_)
              refine cond HE rfl (fun h40 => ?_) (fun h40 => ?_)
              · have h40r := h40; try simp only [Bool.not_eq_true', Bool.not_eq_false', Bool.and_eq_true, Bool.or_eq_true, Bool.or_eq_false_iff, Bool.and_eq_false_iff, decide_eq_true_eq, decide_eq_false_iff_not, beq_iff_eq, beq_eq_false_iff_ne] at h40
                refine wp_skip ?_
                refine hK38 _ _ ?_; clear hK38
                refine wp_seq_k (fun K42 hK41 => ?_)
                refine wp_block ?_
                refine wp_seq_k (fun K hK => ?_); refine wp_region_lit ?_
                refine o_move HE rfl rfl ?_; clear HE; intro a HE
                refine o_ixV HE rfl rfl rfl T.r24 Try.underlying24 (by decide) rfl (.inr ⟨T.a23, rfl⟩) ?_; clear HE; intro a HE
                refine o_allocL [(0, _), (1, _)] HE rfl HS T.z23 ⟨rfl, rfl, trivial⟩ ?_; clear HE HS; intro B4_43 w a HS HE
                refine o_assign HE rfl rfl ?_; clear HE; intro a HE
                refine o_stA HE HS rfl rfl rfl T.a23 (.here .here) rfl ?_; clear HS; intro w HS
                refine hK _ _ ?_; clear hK K
                refine wp_seq_k (fun K hK => ?_); refine wp_region_lit ?_
                refine o_move HE rfl rfl ?_; clear HE; intro a HE
                refine o_ldA HE rfl HS rfl T.a23 (.here .here) rfl ?_; clear HE; intro a HE
                refine o_callP HE rfl HS rfl rfl T.g28 (c_ruled 3 p.r3 _ _ HS.sub) ?_
                clear HE HS; rintro _ w a HS rfl HE
                refine o_not HE rfl rfl ?_; clear HE; intro a HE
                refine hK _ _ ?_; clear hK K
                refine cond HE rfl (fun h46 => ?_) (fun h46 => ?_)
                · have h46r := h46; try simp only [Bool.not_eq_true', Bool.not_eq_false', Bool.and_eq_true, Bool.or_eq_true, Bool.or_eq_false_iff, Bool.and_eq_false_iff, decide_eq_true_eq, decide_eq_false_iff_not, beq_iff_eq, beq_eq_false_iff_ne] at h46
                  refine wp_seq_k (fun K hK => ?_); refine wp_region_lit ?_
                  refine o_assign HE rfl rfl ?_; clear HE; intro a HE
                  refine hK _ _ ?_; clear hK K
                  refine wp_ret ?_
                  show Q .ret _ _
                  refine ret hQ HE rfl (HE.res rfl .nil) ⟨_, _, HS.stop (List.nil_sublist _), rfl, ?_⟩
                  show _ = _
                  simp only [packed, Value.bool.injEq]
                  simp only [rightB]
                  first | (simp_all; done) | grind
                · have h46r := h46; try simp only [Bool.not_eq_true', Bool.not_eq_false', Bool.and_eq_true, Bool.or_eq_true, Bool.or_eq_false_iff, Bool.and_eq_false_iff, decide_eq_true_eq, decide_eq_false_iff_not, beq_iff_eq, beq_eq_false_iff_ne] at h46
                  refine wp_skip ?_
                  refine hK41 _ _ ?_; clear hK41
                  refine wp_region_lit ?_
                  refine o_add HE rfl rfl rfl (by omega) ?_; clear HE; intro a HE
                  refine o_move HE rfl rfl ?_; clear HE; intro a HE
                  show Code.rounds _ _ _ _ _ _
                  replace HE := HE.cut (L' := [(1, .pointer (some ⟨B1, 0, none⟩)), (2, .bool false), (6, .agg #[.int .i64 p.r0.way, .int .i64 p.r0.size, .int .i64 p.r1.way, .int .i64 p.r1.size, .int .i64 p.r2.way, .int .i64 p.r2.size, .int .i64 p.r3.way, .int .i64 p.r3.size, .int .i64 p.r4.way, .int .i64 p.r4.size]), (7, .int .i64 4)]) ⟨rfl, rfl, rfl, rfl, trivial⟩
                  rw [rounds_succ]
                  refine wp_seq_k (fun K hK => ?_); refine wp_region_lit ?_
                  refine o_lss HE rfl rfl rfl ?_; clear HE; intro a HE
                  refine hK _ _ ?_; clear hK K
                  refine wp_seq_k (fun K50 hK49 => ?_)
                  refine cond HE rfl (fun h51 => ?_) (fun h51 => ?_)
                  · have h51r := h51; try simp only [Bool.not_eq_true', Bool.not_eq_false', Bool.and_eq_true, Bool.or_eq_true, Bool.or_eq_false_iff, Bool.and_eq_false_iff, decide_eq_true_eq, decide_eq_false_iff_not, beq_iff_eq, beq_eq_false_iff_ne] at h51
                    refine wp_skip ?_
                    refine hK49 _ _ ?_; clear hK49
                    refine wp_seq_k (fun K53 hK52 => ?_)
                    refine wp_block ?_
                    refine wp_seq_k (fun K hK => ?_); refine wp_region_lit ?_
                    refine o_move HE rfl rfl ?_; clear HE; intro a HE
                    refine o_ixV HE rfl rfl rfl T.r24 Try.underlying24 (by decide) rfl (.inr ⟨T.a23, rfl⟩) ?_; clear HE; intro a HE
                    refine o_allocL [(0, _), (1, _)] HE rfl HS T.z23 ⟨rfl, rfl, trivial⟩ ?_; clear HE HS; intro B4_54 w a HS HE
                    refine o_assign HE rfl rfl ?_; clear HE; intro a HE
                    refine o_stA HE HS rfl rfl rfl T.a23 (.here .here) rfl ?_; clear HS; intro w HS
                    refine hK _ _ ?_; clear hK K
                    refine wp_seq_k (fun K hK => ?_); refine wp_region_lit ?_
                    refine o_move HE rfl rfl ?_; clear HE; intro a HE
                    refine o_ldA HE rfl HS rfl T.a23 (.here .here) rfl ?_; clear HE; intro a HE
                    refine o_callP HE rfl HS rfl rfl T.g28 (c_ruled 4 p.r4 _ _ HS.sub) ?_
                    clear HE HS; rintro _ w a HS rfl HE
                    refine o_not HE rfl rfl ?_; clear HE; intro a HE
                    refine hK _ _ ?_; clear hK K
                    refine cond HE rfl (fun h57 => ?_) (fun h57 => ?_)
                    · have h57r := h57; try simp only [Bool.not_eq_true', Bool.not_eq_false', Bool.and_eq_true, Bool.or_eq_true, Bool.or_eq_false_iff, Bool.and_eq_false_iff, decide_eq_true_eq, decide_eq_false_iff_not, beq_iff_eq, beq_eq_false_iff_ne] at h57
                      refine wp_seq_k (fun K hK => ?_); refine wp_region_lit ?_
                      refine o_assign HE rfl rfl ?_; clear HE; intro a HE
                      refine hK _ _ ?_; clear hK K
                      refine wp_ret ?_
                      show Q .ret _ _
                      refine ret hQ HE rfl (HE.res rfl .nil) ⟨_, _, HS.stop (List.nil_sublist _), rfl, ?_⟩
                      show _ = _
                      simp only [packed, Value.bool.injEq]
                      simp only [rightB]
                      first | (simp_all; done) | grind
                    · have h57r := h57; try simp only [Bool.not_eq_true', Bool.not_eq_false', Bool.and_eq_true, Bool.or_eq_true, Bool.or_eq_false_iff, Bool.and_eq_false_iff, decide_eq_true_eq, decide_eq_false_iff_not, beq_iff_eq, beq_eq_false_iff_ne] at h57
                      refine wp_skip ?_
                      refine hK52 _ _ ?_; clear hK52
                      refine wp_region_lit ?_
                      refine o_add HE rfl rfl rfl (by omega) ?_; clear HE; intro a HE
                      refine o_move HE rfl rfl ?_; clear HE; intro a HE
                      show Code.rounds _ _ _ _ _ _
                      replace HE := HE.cut (L' := [(1, .pointer (some ⟨B1, 0, none⟩)), (2, .bool false), (6, .agg #[.int .i64 p.r0.way, .int .i64 p.r0.size, .int .i64 p.r1.way, .int .i64 p.r1.size, .int .i64 p.r2.way, .int .i64 p.r2.size, .int .i64 p.r3.way, .int .i64 p.r3.size, .int .i64 p.r4.way, .int .i64 p.r4.size]), (7, .int .i64 5)]) ⟨rfl, rfl, rfl, rfl, trivial⟩
                      rw [rounds_succ]
                      refine wp_seq_k (fun K hK => ?_); refine wp_region_lit ?_
                      refine o_lss HE rfl rfl rfl ?_; clear HE; intro a HE
                      refine hK _ _ ?_; clear hK K
                      refine wp_seq_k (fun K61 hK60 => ?_)
                      refine cond HE rfl (fun h62 => ?_) (fun h62 => ?_)
                      · exact absurd h62 (by decide)
                      · have h62r := h62; try simp only [Bool.not_eq_true', Bool.not_eq_false', Bool.and_eq_true, Bool.or_eq_true, Bool.or_eq_false_iff, Bool.and_eq_false_iff, decide_eq_true_eq, decide_eq_false_iff_not, beq_iff_eq, beq_eq_false_iff_ne] at h62
                        refine wp_exit ?_
                        refine hK2 _ _ ?_; clear hK2
                        refine wp_seq_k (fun K hK => ?_); refine wp_region_lit ?_
                        refine o_fld HE rfl rfl T.f26_1 ?_; clear HE; intro a HE
                        refine o_ld HE rfl HS rfl T.s3 (.there (.there (.there (.there (.there (.here .here)))))) rfl ?_; clear HE; intro a HE
                        refine o_eqI HE rfl rfl rfl ?_; clear HE; intro a HE
                        refine o_move HE rfl rfl ?_; clear HE; intro a HE
                        refine cutL 4 (fun a' w' => w = w' ∧ Env a' 34 [] [(23, .bool ((decide (p.time = 0)) || (decide (p.time = 3)))), (1, .pointer (some ⟨B1, 0, none⟩)), (2, .bool false), (6, .agg #[.int .i64 p.r0.way, .int .i64 p.r0.size, .int .i64 p.r1.way, .int .i64 p.r1.size, .int .i64 p.r2.way, .int .i64 p.r2.size, .int .i64 p.r3.way, .int .i64 p.r3.size, .int .i64 p.r4.way, .int .i64 p.r4.size]), (7, .int .i64 5), (8, .bool (decide (5 < 5)))]) ?_ ?_
                        · refine (Bool.eq_false_or_eq_true (decide (p.time = 0))).elim (fun hb63 => ?_) (fun hb63 => ?_)
                          · skip
                            have hk64 := hb63; try simp only [Bool.not_eq_true', Bool.not_eq_false', Bool.and_eq_true, Bool.or_eq_true, Bool.or_eq_false_iff, decide_eq_true_eq, decide_eq_false_iff_not] at hk64
                            refine g_off HE rfl rfl rfl hb63 ?_; clear HE; intro a HE
                            refine g_off HE rfl rfl rfl hb63 ?_; clear HE; intro a HE
                            refine g_off HE rfl rfl rfl hb63 ?_; clear HE; intro a HE
                            refine o_pick_t HE rfl rfl hb63 rfl ?_; clear HE; intro a HE
                            exact ⟨rfl, HE.cut ⟨by rw [hb63]; rfl, rfl, rfl, rfl, rfl, rfl, trivial⟩⟩
                          · skip
                            have hk65 := hb63; try simp only [Bool.not_eq_true', Bool.not_eq_false', Bool.and_eq_true, Bool.or_eq_true, Bool.or_eq_false_iff, decide_eq_true_eq, decide_eq_false_iff_not] at hk65
                            refine op_on HE rfl rfl hb63 ?_
                            refine o_fld HE rfl rfl T.f26_1 ?_; clear HE; intro a HE
                            refine op_on HE rfl rfl hb63 ?_
                            refine o_ld HE rfl HS rfl T.s3 (.there (.there (.there (.there (.there (.here .here)))))) rfl ?_; clear HE; intro a HE
                            refine op_on HE rfl rfl hb63 ?_
                            refine o_eqI HE rfl rfl rfl ?_; clear HE; intro a HE
                            refine o_pick_f HE rfl rfl hb63 rfl ?_; clear HE; intro a HE
                            exact ⟨rfl, HE.cut ⟨by rw [hb63]; rfl, rfl, rfl, rfl, rfl, rfl, trivial⟩⟩
                        clear HE; rintro a _ ⟨rfl, HE⟩
                        refine o_move HE rfl rfl ?_; clear HE; intro a HE
                        refine cutL 9 (fun a' w' => w = w' ∧ Env a' 34 [] [(33, .bool (((decide (p.time = 0)) || (decide (p.time = 3))) && ((decide (p.note = 0)) || (decide (p.note = 4))))), (1, .pointer (some ⟨B1, 0, none⟩)), (2, .bool false), (6, .agg #[.int .i64 p.r0.way, .int .i64 p.r0.size, .int .i64 p.r1.way, .int .i64 p.r1.size, .int .i64 p.r2.way, .int .i64 p.r2.size, .int .i64 p.r3.way, .int .i64 p.r3.size, .int .i64 p.r4.way, .int .i64 p.r4.size]), (7, .int .i64 5), (8, .bool (decide (5 < 5)))]) ?_ ?_
                        · refine (Bool.eq_false_or_eq_true ((decide (p.time = 0)) || (decide (p.time = 3)))).elim (fun hb66 => ?_) (fun hb66 => ?_)
                          · skip
                            have hk67 := hb66; try simp only [Bool.not_eq_true', Bool.not_eq_false', Bool.and_eq_true, Bool.or_eq_true, Bool.or_eq_false_iff, decide_eq_true_eq, decide_eq_false_iff_not] at hk67
                            refine op_on HE rfl rfl hb66 ?_
                            refine o_fld HE rfl rfl T.f26_2 ?_; clear HE; intro a HE
                            refine op_on HE rfl rfl hb66 ?_
                            refine o_ld HE rfl HS rfl T.s3 (.there (.there (.there (.there (.there (.here .here)))))) rfl ?_; clear HE; intro a HE
                            refine op_on HE rfl rfl hb66 ?_
                            refine o_eqI HE rfl rfl rfl ?_; clear HE; intro a HE
                            refine op_on HE rfl rfl hb66 ?_
                            refine o_move HE rfl rfl ?_; clear HE; intro a HE
                            refine cutL 4 (fun a' w' => w = w' ∧ Env a' 34 [] [(32, .bool ((decide (p.note = 0)) || (decide (p.note = 4)))), (1, .pointer (some ⟨B1, 0, none⟩)), (2, .bool false), (6, .agg #[.int .i64 p.r0.way, .int .i64 p.r0.size, .int .i64 p.r1.way, .int .i64 p.r1.size, .int .i64 p.r2.way, .int .i64 p.r2.size, .int .i64 p.r3.way, .int .i64 p.r3.size, .int .i64 p.r4.way, .int .i64 p.r4.size]), (7, .int .i64 5), (8, .bool (decide (5 < 5))), (24, .bool ((decide (p.time = 0)) || (decide (p.time = 3))))]) ?_ ?_
                            · refine (Bool.eq_false_or_eq_true (decide (p.note = 0))).elim (fun hb68 => ?_) (fun hb68 => ?_)
                              · skip
                                have hk69 := hb68; try simp only [Bool.not_eq_true', Bool.not_eq_false', Bool.and_eq_true, Bool.or_eq_true, Bool.or_eq_false_iff, decide_eq_true_eq, decide_eq_false_iff_not] at hk69
                                refine g_off HE rfl rfl rfl hb68 ?_; clear HE; intro a HE
                                refine g_off HE rfl rfl rfl hb68 ?_; clear HE; intro a HE
                                refine g_off HE rfl rfl rfl hb68 ?_; clear HE; intro a HE
                                refine op_on HE rfl rfl hb66 ?_
                                refine o_pick_t HE rfl rfl hb68 rfl ?_; clear HE; intro a HE
                                exact ⟨rfl, HE.cut ⟨by rw [hb68]; rfl, rfl, rfl, rfl, rfl, rfl, rfl, trivial⟩⟩
                              · skip
                                have hk70 := hb68; try simp only [Bool.not_eq_true', Bool.not_eq_false', Bool.and_eq_true, Bool.or_eq_true, Bool.or_eq_false_iff, decide_eq_true_eq, decide_eq_false_iff_not] at hk70
                                refine op_on HE rfl rfl hb68 ?_
                                refine o_fld HE rfl rfl T.f26_2 ?_; clear HE; intro a HE
                                refine op_on HE rfl rfl hb68 ?_
                                refine o_ld HE rfl HS rfl T.s3 (.there (.there (.there (.there (.there (.here .here)))))) rfl ?_; clear HE; intro a HE
                                refine op_on HE rfl rfl hb68 ?_
                                refine o_eqI HE rfl rfl rfl ?_; clear HE; intro a HE
                                refine op_on HE rfl rfl hb66 ?_
                                refine o_pick_f HE rfl rfl hb68 rfl ?_; clear HE; intro a HE
                                exact ⟨rfl, HE.cut ⟨by rw [hb68]; rfl, rfl, rfl, rfl, rfl, rfl, rfl, trivial⟩⟩
                            clear HE; rintro a _ ⟨rfl, HE⟩
                            refine o_pick_t HE rfl rfl hb66 rfl ?_; clear HE; intro a HE
                            exact ⟨rfl, HE.cut ⟨by rw [hb66]; rfl, rfl, rfl, rfl, rfl, rfl, trivial⟩⟩
                          · skip
                            have hk71 := hb66; try simp only [Bool.not_eq_true', Bool.not_eq_false', Bool.and_eq_true, Bool.or_eq_true, Bool.or_eq_false_iff, decide_eq_true_eq, decide_eq_false_iff_not] at hk71
                            refine g_off HE rfl rfl rfl hb66 ?_; clear HE; intro a HE
                            refine g_off HE rfl rfl rfl hb66 ?_; clear HE; intro a HE
                            refine g_off HE rfl rfl rfl hb66 ?_; clear HE; intro a HE
                            refine g_off HE rfl rfl rfl hb66 ?_; clear HE; intro a HE
                            refine g_offu HE rfl rfl rfl ?_; clear HE; intro a HE
                            refine g_offu HE rfl rfl rfl ?_; clear HE; intro a HE
                            refine g_offu HE rfl rfl rfl ?_; clear HE; intro a HE
                            refine g_off HE rfl rfl rfl hb66 ?_; clear HE; intro a HE
                            refine o_pick_f HE rfl rfl hb66 rfl ?_; clear HE; intro a HE
                            exact ⟨rfl, HE.cut ⟨by rw [hb66]; rfl, rfl, rfl, rfl, rfl, rfl, trivial⟩⟩
                        clear HE; rintro a _ ⟨rfl, HE⟩
                        refine o_assign HE rfl rfl ?_; clear HE; intro a HE
                        refine hK _ _ ?_; clear hK K
                        refine wp_ret ?_
                        show Q .ret _ _
                        refine ret hQ HE rfl (HE.res rfl .nil) ⟨_, _, HS.stop (List.nil_sublist _), rfl, ?_⟩
                        show _ = _
                        simp only [packed, Value.bool.injEq]
                        simp only [rightB]
                        first | (simp_all; done) | grind
                  · exact absurd h51 (by decide)
              · exact absurd h40 (by decide)
          · exact absurd h29 (by decide)
      · exact absurd h18 (by decide)
  · exact absurd h8 (by decide)

/-! `incognito/incognitoref25.Right` -/
set_option maxRecDepth 100000 in
set_option maxHeartbeats 4000000 in
theorem c_Right (p : Pol) (w0 : World) (G : Heap) (hG : Sub G w0) :
    Calls Try.prog 19 #[.agg #[.int .i64 p.r0.way, .int .i64 p.r0.size, .int .i64 p.r1.way, .int .i64 p.r1.size, .int .i64 p.r2.way, .int .i64 p.r2.size, .int .i64 p.r3.way, .int .i64 p.r3.size, .int .i64 p.r4.way, .int .i64 p.r4.size, .int .i64 p.time, .int .i64 p.note, .bool p.loose, .bool p.force]] w0 (Ret w0 G (fun v _ => v = .bool (rightB p))) := by
  refine enter Try.func19 rfl Try.ntmps19 rfl ?_
  intro Q hQ a HE
  have HS := St.start0 hG
  refine wp_seq_k (fun K hK => ?_); refine wp_region_lit ?_
  refine o_boxL [(0, _), (1, _), (2, _), (3, _), (4, _), (5, _), (6, _), (7, _), (8, _), (9, _), (10, _), (11, _), (12, _), (13, _)] HE rfl HS rfl ⟨rfl, rfl, rfl, rfl, rfl, rfl, rfl, rfl, rfl, rfl, rfl, rfl, rfl, rfl, trivial⟩ ?_; clear HE HS; intro B1 w a HS HE
  refine o_assign HE rfl rfl ?_; clear HE; intro a HE
  refine hK _ _ ?_; clear hK K
  refine wp_seq_k (fun K3 hK2 => ?_)
  refine wp_seq_k (fun K hK => ?_); refine wp_region_lit ?_
  refine o_assign HE rfl rfl ?_; clear HE; intro a HE
  refine hK _ _ ?_; clear hK K
  refine wp_block ?_
  refine wp_loop_rounds 6 ?_
  rw [rounds_succ]
  refine wp_seq_k (fun K6 hK5 => ?_)
  refine wp_seq_k (fun K hK => ?_); refine wp_region_lit ?_
  refine o_move HE rfl rfl ?_; clear HE; intro a HE
  refine o_lss HE rfl rfl rfl ?_; clear HE; intro a HE
  refine hK _ _ ?_; clear hK K
  refine cond HE rfl (fun h8 => ?_) (fun h8 => ?_)
  · have h8r := h8; try simp only [Bool.not_eq_true', Bool.not_eq_false', Bool.and_eq_true, Bool.or_eq_true, Bool.or_eq_false_iff, Bool.and_eq_false_iff, decide_eq_true_eq, decide_eq_false_iff_not, beq_iff_eq, beq_eq_false_iff_ne] at h8
    refine wp_skip ?_
    refine hK5 _ _ ?_; clear hK5
    refine wp_seq_k (fun K10 hK9 => ?_)
    refine wp_block ?_
    refine wp_seq_k (fun K hK => ?_); refine wp_region_lit ?_
    refine o_move HE rfl rfl ?_; clear HE; intro a HE
    refine o_move HE rfl rfl ?_; clear HE; intro a HE
    refine o_fld HE rfl rfl T.f26_0 ?_; clear HE; intro a HE
    refine o_ixA HE rfl rfl rfl T.r24 (by decide) ?_; clear HE; intro a HE
    refine o_ldA HE rfl HS rfl T.a23 (.here .here) rfl ?_; clear HE; intro a HE
    refine o_callP HE rfl HS rfl rfl T.g29 (c_Ruled 0 p.r0 _ _ HS.sub) ?_
    clear HE HS; rintro _ w a HS rfl HE
    refine o_not HE rfl rfl ?_; clear HE; intro a HE
    refine hK _ _ ?_; clear hK K
    refine cond HE rfl (fun h12 => ?_) (fun h12 => ?_)
    · have h12r := h12; try simp only [Bool.not_eq_true', Bool.not_eq_false', Bool.and_eq_true, Bool.or_eq_true, Bool.or_eq_false_iff, Bool.and_eq_false_iff, decide_eq_true_eq, decide_eq_false_iff_not, beq_iff_eq, beq_eq_false_iff_ne] at h12
      refine wp_seq_k (fun K hK => ?_); refine wp_region_lit ?_
      refine o_assign HE rfl rfl ?_; clear HE; intro a HE
      refine hK _ _ ?_; clear hK K
      refine wp_ret ?_
      show Q .ret _ _
      refine ret hQ HE rfl (HE.res rfl .nil) ⟨_, _, HS.stop (List.nil_sublist _), rfl, ?_⟩
      show _ = _
      simp only [packed, Value.bool.injEq]
      simp only [rightB]
      first | (simp_all; done) | grind
    · have h12r := h12; try simp only [Bool.not_eq_true', Bool.not_eq_false', Bool.and_eq_true, Bool.or_eq_true, Bool.or_eq_false_iff, Bool.and_eq_false_iff, decide_eq_true_eq, decide_eq_false_iff_not, beq_iff_eq, beq_eq_false_iff_ne] at h12
      refine wp_skip ?_
      refine hK9 _ _ ?_; clear hK9
      refine wp_region_lit ?_
      refine o_move HE rfl rfl ?_; clear HE; intro a HE
      refine o_add HE rfl rfl rfl (by omega) ?_; clear HE; intro a HE
      refine o_assign HE rfl rfl ?_; clear HE; intro a HE
      show Code.rounds _ _ _ _ _ _
      replace HE := HE.cut (L' := [(1, .pointer (some ⟨B1, 0, none⟩)), (2, .bool false), (3, .int .i64 1)]) ⟨rfl, rfl, rfl, trivial⟩
      rw [rounds_succ]
      refine wp_seq_k (fun K15 hK14 => ?_)
      refine wp_seq_k (fun K hK => ?_); refine wp_region_lit ?_
      refine o_move HE rfl rfl ?_; clear HE; intro a HE
      refine o_lss HE rfl rfl rfl ?_; clear HE; intro a HE
      refine hK _ _ ?_; clear hK K
      refine cond HE rfl (fun h17 => ?_) (fun h17 => ?_)
      · have h17r := h17; try simp only [Bool.not_eq_true', Bool.not_eq_false', Bool.and_eq_true, Bool.or_eq_true, Bool.or_eq_false_iff, Bool.and_eq_false_iff, decide_eq_true_eq, decide_eq_false_iff_not, beq_iff_eq, beq_eq_false_iff_ne] at h17
        refine wp_skip ?_
        refine hK14 _ _ ?_; clear hK14
        refine wp_seq_k (fun K19 hK18 => ?_)
        refine wp_block ?_
        refine wp_seq_k (fun K hK => ?_); refine wp_region_lit ?_
        refine o_move HE rfl rfl ?_; clear HE; intro a HE
        refine o_move HE rfl rfl ?_; clear HE; intro a HE
        refine o_fld HE rfl rfl T.f26_0 ?_; clear HE; intro a HE
        refine o_ixA HE rfl rfl rfl T.r24 (by decide) ?_; clear HE; intro a HE
        refine o_ldA HE rfl HS rfl T.a23 (.here .here) rfl ?_; clear HE; intro a HE
        refine o_callP HE rfl HS rfl rfl T.g29 (c_Ruled 1 p.r1 _ _ HS.sub) ?_
        clear HE HS; rintro _ w a HS rfl HE
        refine o_not HE rfl rfl ?_; clear HE; intro a HE
        refine hK _ _ ?_; clear hK K
        refine cond HE rfl (fun h21 => ?_) (fun h21 => ?_)
        · have h21r := h21; try simp only [Bool.not_eq_true', Bool.not_eq_false', Bool.and_eq_true, Bool.or_eq_true, Bool.or_eq_false_iff, Bool.and_eq_false_iff, decide_eq_true_eq, decide_eq_false_iff_not, beq_iff_eq, beq_eq_false_iff_ne] at h21
          refine wp_seq_k (fun K hK => ?_); refine wp_region_lit ?_
          refine o_assign HE rfl rfl ?_; clear HE; intro a HE
          refine hK _ _ ?_; clear hK K
          refine wp_ret ?_
          show Q .ret _ _
          refine ret hQ HE rfl (HE.res rfl .nil) ⟨_, _, HS.stop (List.nil_sublist _), rfl, ?_⟩
          show _ = _
          simp only [packed, Value.bool.injEq]
          simp only [rightB]
          first | (simp_all; done) | grind
        · have h21r := h21; try simp only [Bool.not_eq_true', Bool.not_eq_false', Bool.and_eq_true, Bool.or_eq_true, Bool.or_eq_false_iff, Bool.and_eq_false_iff, decide_eq_true_eq, decide_eq_false_iff_not, beq_iff_eq, beq_eq_false_iff_ne] at h21
          refine wp_skip ?_
          refine hK18 _ _ ?_; clear hK18
          refine wp_region_lit ?_
          refine o_move HE rfl rfl ?_; clear HE; intro a HE
          refine o_add HE rfl rfl rfl (by omega) ?_; clear HE; intro a HE
          refine o_assign HE rfl rfl ?_; clear HE; intro a HE
          show Code.rounds _ _ _ _ _ _
          replace HE := HE.cut (L' := [(1, .pointer (some ⟨B1, 0, none⟩)), (2, .bool false), (3, .int .i64 2)]) ⟨rfl, rfl, rfl, trivial⟩
          rw [rounds_succ]
          refine wp_seq_k (fun K24 hK23 => ?_)
          refine wp_seq_k (fun K hK => ?_); refine wp_region_lit ?_
          refine o_move HE rfl rfl ?_; clear HE; intro a HE
          refine o_lss HE rfl rfl rfl ?_; clear HE; intro a HE
          refine hK _ _ ?_; clear hK K
          refine cond HE rfl (fun h26 => ?_) (fun h26 => ?_)
          · have h26r := h26; try simp only [Bool.not_eq_true', Bool.not_eq_false', Bool.and_eq_true, Bool.or_eq_true, Bool.or_eq_false_iff, Bool.and_eq_false_iff, decide_eq_true_eq, decide_eq_false_iff_not, beq_iff_eq, beq_eq_false_iff_ne] at h26
            refine wp_skip ?_
            refine hK23 _ _ ?_; clear hK23
            refine wp_seq_k (fun K28 hK27 => ?_)
            refine wp_block ?_
            refine wp_seq_k (fun K hK => ?_); refine wp_region_lit ?_
            refine o_move HE rfl rfl ?_; clear HE; intro a HE
            refine o_move HE rfl rfl ?_; clear HE; intro a HE
            refine o_fld HE rfl rfl T.f26_0 ?_; clear HE; intro a HE
            refine o_ixA HE rfl rfl rfl T.r24 (by decide) ?_; clear HE; intro a HE
            refine o_ldA HE rfl HS rfl T.a23 (.here .here) rfl ?_; clear HE; intro a HE
            refine o_callP HE rfl HS rfl rfl T.g29 (c_Ruled 2 p.r2 _ _ HS.sub) ?_
            clear HE HS; rintro _ w a HS rfl HE
            refine o_not HE rfl rfl ?_; clear HE; intro a HE
            refine hK _ _ ?_; clear hK K
            refine cond HE rfl (fun h30 => ?_) (fun h30 => ?_)
            · have h30r := h30; try simp only [Bool.not_eq_true', Bool.not_eq_false', Bool.and_eq_true, Bool.or_eq_true, Bool.or_eq_false_iff, Bool.and_eq_false_iff, decide_eq_true_eq, decide_eq_false_iff_not, beq_iff_eq, beq_eq_false_iff_ne] at h30
              refine wp_seq_k (fun K hK => ?_); refine wp_region_lit ?_
              refine o_assign HE rfl rfl ?_; clear HE; intro a HE
              refine hK _ _ ?_; clear hK K
              refine wp_ret ?_
              show Q .ret _ _
              refine ret hQ HE rfl (HE.res rfl .nil) ⟨_, _, HS.stop (List.nil_sublist _), rfl, ?_⟩
              show _ = _
              simp only [packed, Value.bool.injEq]
              simp only [rightB]
              first | (simp_all; done) | grind
            · have h30r := h30; try simp only [Bool.not_eq_true', Bool.not_eq_false', Bool.and_eq_true, Bool.or_eq_true, Bool.or_eq_false_iff, Bool.and_eq_false_iff, decide_eq_true_eq, decide_eq_false_iff_not, beq_iff_eq, beq_eq_false_iff_ne] at h30
              refine wp_skip ?_
              refine hK27 _ _ ?_; clear hK27
              refine wp_region_lit ?_
              refine o_move HE rfl rfl ?_; clear HE; intro a HE
              refine o_add HE rfl rfl rfl (by omega) ?_; clear HE; intro a HE
              refine o_assign HE rfl rfl ?_; clear HE; intro a HE
              show Code.rounds _ _ _ _ _ _
              replace HE := HE.cut (L' := [(1, .pointer (some ⟨B1, 0, none⟩)), (2, .bool false), (3, .int .i64 3)]) ⟨rfl, rfl, rfl, trivial⟩
              rw [rounds_succ]
              refine wp_seq_k (fun K33 hK32 => ?_)
              refine wp_seq_k (fun K hK => ?_); refine wp_region_lit ?_
              refine o_move HE rfl rfl ?_; clear HE; intro a HE
              refine o_lss HE rfl rfl rfl ?_; clear HE; intro a HE
              refine hK _ _ ?_; clear hK K
              refine cond HE rfl (fun h35 => ?_) (fun h35 => ?_)
              · have h35r := h35; try simp only [Bool.not_eq_true', Bool.not_eq_false', Bool.and_eq_true, Bool.or_eq_true, Bool.or_eq_false_iff, Bool.and_eq_false_iff, decide_eq_true_eq, decide_eq_false_iff_not, beq_iff_eq, beq_eq_false_iff_ne] at h35
                refine wp_skip ?_
                refine hK32 _ _ ?_; clear hK32
                refine wp_seq_k (fun K37 hK36 => ?_)
                refine wp_block ?_
                refine wp_seq_k (fun K hK => ?_); refine wp_region_lit ?_
                refine o_move HE rfl rfl ?_; clear HE; intro a HE
                refine o_move HE rfl rfl ?_; clear HE; intro a HE
                refine o_fld HE rfl rfl T.f26_0 ?_; clear HE; intro a HE
                refine o_ixA HE rfl rfl rfl T.r24 (by decide) ?_; clear HE; intro a HE
                refine o_ldA HE rfl HS rfl T.a23 (.here .here) rfl ?_; clear HE; intro a HE
                refine o_callP HE rfl HS rfl rfl T.g29 (c_Ruled 3 p.r3 _ _ HS.sub) ?_
                clear HE HS; rintro _ w a HS rfl HE
                refine o_not HE rfl rfl ?_; clear HE; intro a HE
                refine hK _ _ ?_; clear hK K
                refine cond HE rfl (fun h39 => ?_) (fun h39 => ?_)
                · have h39r := h39; try simp only [Bool.not_eq_true', Bool.not_eq_false', Bool.and_eq_true, Bool.or_eq_true, Bool.or_eq_false_iff, Bool.and_eq_false_iff, decide_eq_true_eq, decide_eq_false_iff_not, beq_iff_eq, beq_eq_false_iff_ne] at h39
                  refine wp_seq_k (fun K hK => ?_); refine wp_region_lit ?_
                  refine o_assign HE rfl rfl ?_; clear HE; intro a HE
                  refine hK _ _ ?_; clear hK K
                  refine wp_ret ?_
                  show Q .ret _ _
                  refine ret hQ HE rfl (HE.res rfl .nil) ⟨_, _, HS.stop (List.nil_sublist _), rfl, ?_⟩
                  show _ = _
                  simp only [packed, Value.bool.injEq]
                  simp only [rightB]
                  first | (simp_all; done) | grind
                · have h39r := h39; try simp only [Bool.not_eq_true', Bool.not_eq_false', Bool.and_eq_true, Bool.or_eq_true, Bool.or_eq_false_iff, Bool.and_eq_false_iff, decide_eq_true_eq, decide_eq_false_iff_not, beq_iff_eq, beq_eq_false_iff_ne] at h39
                  refine wp_skip ?_
                  refine hK36 _ _ ?_; clear hK36
                  refine wp_region_lit ?_
                  refine o_move HE rfl rfl ?_; clear HE; intro a HE
                  refine o_add HE rfl rfl rfl (by omega) ?_; clear HE; intro a HE
                  refine o_assign HE rfl rfl ?_; clear HE; intro a HE
                  show Code.rounds _ _ _ _ _ _
                  replace HE := HE.cut (L' := [(1, .pointer (some ⟨B1, 0, none⟩)), (2, .bool false), (3, .int .i64 4)]) ⟨rfl, rfl, rfl, trivial⟩
                  rw [rounds_succ]
                  refine wp_seq_k (fun K42 hK41 => ?_)
                  refine wp_seq_k (fun K hK => ?_); refine wp_region_lit ?_
                  refine o_move HE rfl rfl ?_; clear HE; intro a HE
                  refine o_lss HE rfl rfl rfl ?_; clear HE; intro a HE
                  refine hK _ _ ?_; clear hK K
                  refine cond HE rfl (fun h44 => ?_) (fun h44 => ?_)
                  · have h44r := h44; try simp only [Bool.not_eq_true', Bool.not_eq_false', Bool.and_eq_true, Bool.or_eq_true, Bool.or_eq_false_iff, Bool.and_eq_false_iff, decide_eq_true_eq, decide_eq_false_iff_not, beq_iff_eq, beq_eq_false_iff_ne] at h44
                    refine wp_skip ?_
                    refine hK41 _ _ ?_; clear hK41
                    refine wp_seq_k (fun K46 hK45 => ?_)
                    refine wp_block ?_
                    refine wp_seq_k (fun K hK => ?_); refine wp_region_lit ?_
                    refine o_move HE rfl rfl ?_; clear HE; intro a HE
                    refine o_move HE rfl rfl ?_; clear HE; intro a HE
                    refine o_fld HE rfl rfl T.f26_0 ?_; clear HE; intro a HE
                    refine o_ixA HE rfl rfl rfl T.r24 (by decide) ?_; clear HE; intro a HE
                    refine o_ldA HE rfl HS rfl T.a23 (.here .here) rfl ?_; clear HE; intro a HE
                    refine o_callP HE rfl HS rfl rfl T.g29 (c_Ruled 4 p.r4 _ _ HS.sub) ?_
                    clear HE HS; rintro _ w a HS rfl HE
                    refine o_not HE rfl rfl ?_; clear HE; intro a HE
                    refine hK _ _ ?_; clear hK K
                    refine cond HE rfl (fun h48 => ?_) (fun h48 => ?_)
                    · have h48r := h48; try simp only [Bool.not_eq_true', Bool.not_eq_false', Bool.and_eq_true, Bool.or_eq_true, Bool.or_eq_false_iff, Bool.and_eq_false_iff, decide_eq_true_eq, decide_eq_false_iff_not, beq_iff_eq, beq_eq_false_iff_ne] at h48
                      refine wp_seq_k (fun K hK => ?_); refine wp_region_lit ?_
                      refine o_assign HE rfl rfl ?_; clear HE; intro a HE
                      refine hK _ _ ?_; clear hK K
                      refine wp_ret ?_
                      show Q .ret _ _
                      refine ret hQ HE rfl (HE.res rfl .nil) ⟨_, _, HS.stop (List.nil_sublist _), rfl, ?_⟩
                      show _ = _
                      simp only [packed, Value.bool.injEq]
                      simp only [rightB]
                      first | (simp_all; done) | grind
                    · have h48r := h48; try simp only [Bool.not_eq_true', Bool.not_eq_false', Bool.and_eq_true, Bool.or_eq_true, Bool.or_eq_false_iff, Bool.and_eq_false_iff, decide_eq_true_eq, decide_eq_false_iff_not, beq_iff_eq, beq_eq_false_iff_ne] at h48
                      refine wp_skip ?_
                      refine hK45 _ _ ?_; clear hK45
                      refine wp_region_lit ?_
                      refine o_move HE rfl rfl ?_; clear HE; intro a HE
                      refine o_add HE rfl rfl rfl (by omega) ?_; clear HE; intro a HE
                      refine o_assign HE rfl rfl ?_; clear HE; intro a HE
                      show Code.rounds _ _ _ _ _ _
                      replace HE := HE.cut (L' := [(1, .pointer (some ⟨B1, 0, none⟩)), (2, .bool false), (3, .int .i64 5)]) ⟨rfl, rfl, rfl, trivial⟩
                      rw [rounds_succ]
                      refine wp_seq_k (fun K51 hK50 => ?_)
                      refine wp_seq_k (fun K hK => ?_); refine wp_region_lit ?_
                      refine o_move HE rfl rfl ?_; clear HE; intro a HE
                      refine o_lss HE rfl rfl rfl ?_; clear HE; intro a HE
                      refine hK _ _ ?_; clear hK K
                      refine cond HE rfl (fun h53 => ?_) (fun h53 => ?_)
                      · exact absurd h53 (by decide)
                      · have h53r := h53; try simp only [Bool.not_eq_true', Bool.not_eq_false', Bool.and_eq_true, Bool.or_eq_true, Bool.or_eq_false_iff, Bool.and_eq_false_iff, decide_eq_true_eq, decide_eq_false_iff_not, beq_iff_eq, beq_eq_false_iff_ne] at h53
                        refine wp_exit ?_
                        refine hK2 _ _ ?_; clear hK2
                        refine wp_seq_k (fun K hK => ?_); refine wp_region_lit ?_
                        refine o_fld HE rfl rfl T.f26_1 ?_; clear HE; intro a HE
                        refine o_ld HE rfl HS rfl T.s3 (.here .here) rfl ?_; clear HE; intro a HE
                        refine o_eqI HE rfl rfl rfl ?_; clear HE; intro a HE
                        refine o_move HE rfl rfl ?_; clear HE; intro a HE
                        refine cutL 4 (fun a' w' => w = w' ∧ Env a' 33 [] [(22, .bool ((decide (p.time = 0)) || (decide (p.time = 3)))), (1, .pointer (some ⟨B1, 0, none⟩)), (2, .bool false), (3, .int .i64 5), (4, .int .i64 5), (5, .bool (decide (5 < 5)))]) ?_ ?_
                        · refine (Bool.eq_false_or_eq_true (decide (p.time = 0))).elim (fun hb54 => ?_) (fun hb54 => ?_)
                          · skip
                            have hk55 := hb54; try simp only [Bool.not_eq_true', Bool.not_eq_false', Bool.and_eq_true, Bool.or_eq_true, Bool.or_eq_false_iff, decide_eq_true_eq, decide_eq_false_iff_not] at hk55
                            refine g_off HE rfl rfl rfl hb54 ?_; clear HE; intro a HE
                            refine g_off HE rfl rfl rfl hb54 ?_; clear HE; intro a HE
                            refine g_off HE rfl rfl rfl hb54 ?_; clear HE; intro a HE
                            refine o_pick_t HE rfl rfl hb54 rfl ?_; clear HE; intro a HE
                            exact ⟨rfl, HE.cut ⟨by rw [hb54]; rfl, rfl, rfl, rfl, rfl, rfl, trivial⟩⟩
                          · skip
                            have hk56 := hb54; try simp only [Bool.not_eq_true', Bool.not_eq_false', Bool.and_eq_true, Bool.or_eq_true, Bool.or_eq_false_iff, decide_eq_true_eq, decide_eq_false_iff_not] at hk56
                            refine op_on HE rfl rfl hb54 ?_
                            refine o_fld HE rfl rfl T.f26_1 ?_; clear HE; intro a HE
                            refine op_on HE rfl rfl hb54 ?_
                            refine o_ld HE rfl HS rfl T.s3 (.here .here) rfl ?_; clear HE; intro a HE
                            refine op_on HE rfl rfl hb54 ?_
                            refine o_eqI HE rfl rfl rfl ?_; clear HE; intro a HE
                            refine o_pick_f HE rfl rfl hb54 rfl ?_; clear HE; intro a HE
                            exact ⟨rfl, HE.cut ⟨by rw [hb54]; rfl, rfl, rfl, rfl, rfl, rfl, trivial⟩⟩
                        clear HE; rintro a _ ⟨rfl, HE⟩
                        refine o_move HE rfl rfl ?_; clear HE; intro a HE
                        refine cutL 9 (fun a' w' => w = w' ∧ Env a' 33 [] [(32, .bool (((decide (p.time = 0)) || (decide (p.time = 3))) && ((decide (p.note = 0)) || (decide (p.note = 4))))), (1, .pointer (some ⟨B1, 0, none⟩)), (2, .bool false), (3, .int .i64 5), (4, .int .i64 5), (5, .bool (decide (5 < 5)))]) ?_ ?_
                        · refine (Bool.eq_false_or_eq_true ((decide (p.time = 0)) || (decide (p.time = 3)))).elim (fun hb57 => ?_) (fun hb57 => ?_)
                          · skip
                            have hk58 := hb57; try simp only [Bool.not_eq_true', Bool.not_eq_false', Bool.and_eq_true, Bool.or_eq_true, Bool.or_eq_false_iff, decide_eq_true_eq, decide_eq_false_iff_not] at hk58
                            refine op_on HE rfl rfl hb57 ?_
                            refine o_fld HE rfl rfl T.f26_2 ?_; clear HE; intro a HE
                            refine op_on HE rfl rfl hb57 ?_
                            refine o_ld HE rfl HS rfl T.s3 (.here .here) rfl ?_; clear HE; intro a HE
                            refine op_on HE rfl rfl hb57 ?_
                            refine o_eqI HE rfl rfl rfl ?_; clear HE; intro a HE
                            refine op_on HE rfl rfl hb57 ?_
                            refine o_move HE rfl rfl ?_; clear HE; intro a HE
                            refine cutL 4 (fun a' w' => w = w' ∧ Env a' 33 [] [(31, .bool ((decide (p.note = 0)) || (decide (p.note = 4)))), (1, .pointer (some ⟨B1, 0, none⟩)), (2, .bool false), (3, .int .i64 5), (4, .int .i64 5), (5, .bool (decide (5 < 5))), (23, .bool ((decide (p.time = 0)) || (decide (p.time = 3))))]) ?_ ?_
                            · refine (Bool.eq_false_or_eq_true (decide (p.note = 0))).elim (fun hb59 => ?_) (fun hb59 => ?_)
                              · skip
                                have hk60 := hb59; try simp only [Bool.not_eq_true', Bool.not_eq_false', Bool.and_eq_true, Bool.or_eq_true, Bool.or_eq_false_iff, decide_eq_true_eq, decide_eq_false_iff_not] at hk60
                                refine g_off HE rfl rfl rfl hb59 ?_; clear HE; intro a HE
                                refine g_off HE rfl rfl rfl hb59 ?_; clear HE; intro a HE
                                refine g_off HE rfl rfl rfl hb59 ?_; clear HE; intro a HE
                                refine op_on HE rfl rfl hb57 ?_
                                refine o_pick_t HE rfl rfl hb59 rfl ?_; clear HE; intro a HE
                                exact ⟨rfl, HE.cut ⟨by rw [hb59]; rfl, rfl, rfl, rfl, rfl, rfl, rfl, trivial⟩⟩
                              · skip
                                have hk61 := hb59; try simp only [Bool.not_eq_true', Bool.not_eq_false', Bool.and_eq_true, Bool.or_eq_true, Bool.or_eq_false_iff, decide_eq_true_eq, decide_eq_false_iff_not] at hk61
                                refine op_on HE rfl rfl hb59 ?_
                                refine o_fld HE rfl rfl T.f26_2 ?_; clear HE; intro a HE
                                refine op_on HE rfl rfl hb59 ?_
                                refine o_ld HE rfl HS rfl T.s3 (.here .here) rfl ?_; clear HE; intro a HE
                                refine op_on HE rfl rfl hb59 ?_
                                refine o_eqI HE rfl rfl rfl ?_; clear HE; intro a HE
                                refine op_on HE rfl rfl hb57 ?_
                                refine o_pick_f HE rfl rfl hb59 rfl ?_; clear HE; intro a HE
                                exact ⟨rfl, HE.cut ⟨by rw [hb59]; rfl, rfl, rfl, rfl, rfl, rfl, rfl, trivial⟩⟩
                            clear HE; rintro a _ ⟨rfl, HE⟩
                            refine o_pick_t HE rfl rfl hb57 rfl ?_; clear HE; intro a HE
                            exact ⟨rfl, HE.cut ⟨by rw [hb57]; rfl, rfl, rfl, rfl, rfl, rfl, trivial⟩⟩
                          · skip
                            have hk62 := hb57; try simp only [Bool.not_eq_true', Bool.not_eq_false', Bool.and_eq_true, Bool.or_eq_true, Bool.or_eq_false_iff, decide_eq_true_eq, decide_eq_false_iff_not] at hk62
                            refine g_off HE rfl rfl rfl hb57 ?_; clear HE; intro a HE
                            refine g_off HE rfl rfl rfl hb57 ?_; clear HE; intro a HE
                            refine g_off HE rfl rfl rfl hb57 ?_; clear HE; intro a HE
                            refine g_off HE rfl rfl rfl hb57 ?_; clear HE; intro a HE
                            refine g_offu HE rfl rfl rfl ?_; clear HE; intro a HE
                            refine g_offu HE rfl rfl rfl ?_; clear HE; intro a HE
                            refine g_offu HE rfl rfl rfl ?_; clear HE; intro a HE
                            refine g_off HE rfl rfl rfl hb57 ?_; clear HE; intro a HE
                            refine o_pick_f HE rfl rfl hb57 rfl ?_; clear HE; intro a HE
                            exact ⟨rfl, HE.cut ⟨by rw [hb57]; rfl, rfl, rfl, rfl, rfl, rfl, trivial⟩⟩
                        clear HE; rintro a _ ⟨rfl, HE⟩
                        refine o_assign HE rfl rfl ?_; clear HE; intro a HE
                        refine hK _ _ ?_; clear hK K
                        refine wp_ret ?_
                        show Q .ret _ _
                        refine ret hQ HE rfl (HE.res rfl .nil) ⟨_, _, HS.stop (List.nil_sublist _), rfl, ?_⟩
                        show _ = _
                        simp only [packed, Value.bool.injEq]
                        simp only [rightB]
                        first | (simp_all; done) | grind
                  · exact absurd h44 (by decide)
              · exact absurd h35 (by decide)
          · exact absurd h26 (by decide)
      · exact absurd h17 (by decide)
  · exact absurd h8 (by decide)

/-! `incognito/admit.all` -/
set_option maxRecDepth 100000 in
set_option maxHeartbeats 4000000 in
theorem c_all (h : List Evt) (A : Option Addr) (c : Nat) (w0 : World) (G : Heap) (hG : Sub G w0) (hR : Rd kEvt G A h) (hl : h.length ≤ 9223372036854775807):
    Calls Try.prog 26 #[.slice A h.length c] w0 (Ret w0 G (fun v _ => v = .agg (metL h).toArray)) := by
  refine enter Try.func26 rfl Try.ntmps26 rfl ?_
  intro Q hQ a HE
  have HS := St.start0 hG
  refine wp_seq_k (fun K hK => ?_); refine wp_region_lit ?_
  refine o_allocR HE rfl HS T.z58 ?_; clear HE HS; intro B2 w a HS HE; replace HS := HS.turnP (q := Arr 58 (metL [])) (.here .here) (fun _ h => h)
  refine hK _ _ ?_; clear hK K
  refine wp_seq_k (fun K hK => ?_); refine wp_region_lit ?_
  refine o_allocR HE rfl HS T.z58 ?_; clear HE HS; intro B3 w a HS HE; replace HS := HS.turnP (q := Arr 58 (metL [])) (.here .here) (fun _ h => h)
  refine hK _ _ ?_; clear hK K
  refine wp_seq_k (fun K4 hK3 => ?_)
  refine wp_seq_k (fun K hK => ?_); refine wp_region_lit ?_
  refine o_move HE rfl rfl ?_; clear HE; intro a HE
  refine o_lenL HE rfl rfl Try.underlying27 ?_; clear HE; intro a HE
  refine o_move HE rfl rfl ?_; clear HE; intro a HE
  refine hK _ _ ?_; clear hK K
  refine wp_block ?_
  refine loop (fun (i : Nat) a' w' => St w0 G [] G w' [[(B3, Arr 58 (metL (h.take i)))], [(B2, Arr 58 (metL []))]] ∧ Env a' 30 [] [(2, .pointer (some ⟨B2, 0, none⟩)), (3, .pointer (some ⟨B3, 0, none⟩)), (6, .slice A h.length c), (7, .int .i64 (h.length : Int)), (8, .int .i64 (i : Int))] ∧ (i ≤ h.length)) (fun (i : Nat) => h.length - i) 0 ⟨HS, HE.cut ⟨rfl, rfl, rfl, rfl, rfl, trivial⟩, Nat.zero_le _⟩ ?_
  clear HE HS; intro i a w ⟨HS, HE, hi⟩
  refine wp_seq_k (fun K hK => ?_); refine wp_region_lit ?_
  refine o_lss HE rfl rfl rfl ?_; clear HE; intro a HE
  refine hK _ _ ?_; clear hK K
  refine wp_seq_k (fun K9 hK8 => ?_)
  refine cond HE rfl (fun h10 => ?_) (fun h10 => ?_)
  · have h10r := h10; try simp only [Bool.not_eq_true', Bool.not_eq_false', Bool.and_eq_true, Bool.or_eq_true, Bool.or_eq_false_iff, Bool.and_eq_false_iff, decide_eq_true_eq, decide_eq_false_iff_not, beq_iff_eq, beq_eq_false_iff_ne] at h10
    refine wp_skip ?_
    refine hK8 _ _ ?_; clear hK8
    refine wp_seq_k (fun K12 hK11 => ?_)
    refine wp_block ?_
    refine wp_seq_k (fun K hK => ?_); refine wp_region_lit ?_
    have hi13 : (i : Int).toNat < h.length := by omega
    obtain ⟨eb13, eo13, hA13, el13⟩ := Rd.at hR (List.getElem?_eq_getElem hi13); cases hA13
    obtain ⟨x13, ex13⟩ : ∃ x, h[(i : Int).toNat] = x := ⟨_, rfl⟩; rw [ex13] at el13
    obtain ⟨A1_13, c1_13, A2_13, c2_13, el13, ha1_13, hr1_13, ha2_13, hr2_13⟩ := kEvt_open el13
    refine o_ixL HE rfl rfl rfl T.l27 ⟨by omega, by omega⟩ ?_; clear HE; intro a HE
    refine o_ldIA HE rfl HS rfl el13 T.a48 ?_; clear HE; intro a HE
    refine o_allocL [(0, _), (1, _), (2, _), (3, _), (4, _), (5, _), (6, _), (7, _), (8, _), (9, _), (10, _), (11, _), (12, _), (13, _)] HE rfl HS T.z48 ⟨rfl, rfl, rfl, rfl, rfl, rfl, rfl, rfl, rfl, rfl, rfl, rfl, rfl, rfl, trivial⟩ ?_; clear HE HS; intro B5 w a HS HE
    refine o_stA HE HS rfl rfl rfl T.a48 (.here .here) rfl ?_; clear HS; intro w HS
    refine hK _ _ ?_; clear hK K
    refine wp_seq_k (fun K hK => ?_); refine wp_region_lit ?_
    refine o_fld HE rfl rfl T.f48_2 ?_; clear HE; intro a HE
    refine o_ld HE rfl HS rfl T.s3 (.here .here) rfl ?_; clear HE; intro a HE
    refine o_eqI HE rfl rfl rfl ?_; clear HE; intro a HE
    refine o_move HE rfl rfl ?_; clear HE; intro a HE
    refine cutL 4 (fun a' w' => w = w' ∧ Env a' 30 [] [(19, .bool ((decide (x13.type = 1)) && (decide (1 ≤ x13.model)))), (2, .pointer (some ⟨B2, 0, none⟩)), (3, .pointer (some ⟨B3, 0, none⟩)), (5, .pointer (some ⟨B5, 0, none⟩)), (6, .slice (some ⟨eb13, eo13, none⟩) h.length c), (7, .int .i64 (h.length : Int)), (8, .int .i64 (i : Int)), (9, .bool (decide ((i : Int) < (h.length : Int)))), (10, .pointer (some ⟨eb13, eo13 + (i : Int).toNat * 14, none⟩)), (11, .agg #[.int .i64 x13.time, .int .i64 x13.client.k, .int .i64 x13.client.n, str x13.client.s, .int .i64 x13.type, .int .i64 x13.model, .int .i64 x13.key.k, .int .i64 x13.key.n, str x13.key.s, .int .i64 x13.op, .slice A1_13 x13.args.length c1_13, .slice A2_13 x13.out.length c2_13, .bool x13.noted, str x13.note])]) ?_ ?_
    · refine (Bool.eq_false_or_eq_true (decide (x13.type = 1))).elim (fun hb15 => ?_) (fun hb15 => ?_)
      · skip
        have hk16 := hb15; try simp only [Bool.not_eq_true', Bool.not_eq_false', Bool.and_eq_true, Bool.or_eq_true, Bool.or_eq_false_iff, decide_eq_true_eq, decide_eq_false_iff_not] at hk16
        refine op_on HE rfl rfl hb15 ?_
        refine o_fld HE rfl rfl T.f48_3 ?_; clear HE; intro a HE
        refine op_on HE rfl rfl hb15 ?_
        refine o_ld HE rfl HS rfl T.s3 (.here .here) rfl ?_; clear HE; intro a HE
        refine op_on HE rfl rfl hb15 ?_
        refine o_geq HE rfl rfl rfl ?_; clear HE; intro a HE
        refine o_pick_t HE rfl rfl hb15 rfl ?_; clear HE; intro a HE
        exact ⟨rfl, HE.cut ⟨by rw [hb15]; rfl, rfl, rfl, rfl, rfl, rfl, rfl, rfl, rfl, rfl, trivial⟩⟩
      · skip
        have hk17 := hb15; try simp only [Bool.not_eq_true', Bool.not_eq_false', Bool.and_eq_true, Bool.or_eq_true, Bool.or_eq_false_iff, decide_eq_true_eq, decide_eq_false_iff_not] at hk17
        refine g_off HE rfl rfl rfl hb15 ?_; clear HE; intro a HE
        refine g_off HE rfl rfl rfl hb15 ?_; clear HE; intro a HE
        refine g_off HE rfl rfl rfl hb15 ?_; clear HE; intro a HE
        refine o_pick_f HE rfl rfl hb15 rfl ?_; clear HE; intro a HE
        exact ⟨rfl, HE.cut ⟨by rw [hb15]; rfl, rfl, rfl, rfl, rfl, rfl, rfl, rfl, rfl, rfl, trivial⟩⟩
    clear HE; rintro a _ ⟨rfl, HE⟩
    refine o_move HE rfl rfl ?_; clear HE; intro a HE
    refine cutL 4 (fun a' w' => w = w' ∧ Env a' 30 [] [(24, .bool (((decide (x13.type = 1)) && (decide (1 ≤ x13.model))) && (decide (x13.model < 11)))), (2, .pointer (some ⟨B2, 0, none⟩)), (3, .pointer (some ⟨B3, 0, none⟩)), (5, .pointer (some ⟨B5, 0, none⟩)), (6, .slice (some ⟨eb13, eo13, none⟩) h.length c), (7, .int .i64 (h.length : Int)), (8, .int .i64 (i : Int)), (9, .bool (decide ((i : Int) < (h.length : Int)))), (10, .pointer (some ⟨eb13, eo13 + (i : Int).toNat * 14, none⟩)), (11, .agg #[.int .i64 x13.time, .int .i64 x13.client.k, .int .i64 x13.client.n, str x13.client.s, .int .i64 x13.type, .int .i64 x13.model, .int .i64 x13.key.k, .int .i64 x13.key.n, str x13.key.s, .int .i64 x13.op, .slice A1_13 x13.args.length c1_13, .slice A2_13 x13.out.length c2_13, .bool x13.noted, str x13.note])]) ?_ ?_
    · refine (Bool.eq_false_or_eq_true ((decide (x13.type = 1)) && (decide (1 ≤ x13.model)))).elim (fun hb18 => ?_) (fun hb18 => ?_)
      · skip
        have hk19 := hb18; try simp only [Bool.not_eq_true', Bool.not_eq_false', Bool.and_eq_true, Bool.or_eq_true, Bool.or_eq_false_iff, decide_eq_true_eq, decide_eq_false_iff_not] at hk19
        refine op_on HE rfl rfl hb18 ?_
        refine o_fld HE rfl rfl T.f48_3 ?_; clear HE; intro a HE
        refine op_on HE rfl rfl hb18 ?_
        refine o_ld HE rfl HS rfl T.s3 (.here .here) rfl ?_; clear HE; intro a HE
        refine op_on HE rfl rfl hb18 ?_
        refine o_lss HE rfl rfl rfl ?_; clear HE; intro a HE
        refine o_pick_t HE rfl rfl hb18 rfl ?_; clear HE; intro a HE
        exact ⟨rfl, HE.cut ⟨by rw [hb18]; rfl, rfl, rfl, rfl, rfl, rfl, rfl, rfl, rfl, rfl, trivial⟩⟩
      · skip
        have hk20 := hb18; try simp only [Bool.not_eq_true', Bool.not_eq_false', Bool.and_eq_true, Bool.or_eq_true, Bool.or_eq_false_iff, decide_eq_true_eq, decide_eq_false_iff_not] at hk20
        refine g_off HE rfl rfl rfl hb18 ?_; clear HE; intro a HE
        refine g_off HE rfl rfl rfl hb18 ?_; clear HE; intro a HE
        refine g_off HE rfl rfl rfl hb18 ?_; clear HE; intro a HE
        refine o_pick_f HE rfl rfl hb18 rfl ?_; clear HE; intro a HE
        exact ⟨rfl, HE.cut ⟨by rw [hb18]; rfl, rfl, rfl, rfl, rfl, rfl, rfl, rfl, rfl, rfl, trivial⟩⟩
    clear HE; rintro a _ ⟨rfl, HE⟩
    refine hK _ _ ?_; clear hK K
    refine cond HE rfl (fun h22 => ?_) (fun h22 => ?_)
    · have h22r := h22; try simp only [Bool.not_eq_true', Bool.not_eq_false', Bool.and_eq_true, Bool.or_eq_true, Bool.or_eq_false_iff, Bool.and_eq_false_iff, decide_eq_true_eq, decide_eq_false_iff_not, beq_iff_eq, beq_eq_false_iff_ne] at h22
      refine wp_region_lit ?_
      refine o_fld HE rfl rfl T.f48_3 ?_; clear HE; intro a HE
      refine o_ld HE rfl HS rfl T.s3 (.here .here) rfl ?_; clear HE; intro a HE
      refine o_ixA HE rfl rfl rfl T.r58 (by omega) ?_; clear HE; intro a HE
      refine o_stR HE HS rfl rfl rfl T.s4 (.there (.here .here)) (by simp [metL_len]; omega) ?_; clear HS; intro w HS
      refine hK11 _ _ ?_; clear hK11
      refine wp_region_lit ?_
      refine o_add HE rfl rfl rfl (by omega) ?_; clear HE; intro a HE
      refine o_move HE rfl rfl ?_; clear HE; intro a HE
      replace HS := HS.drop (M' := [_, _]) (sub_drop (sub_keep (sub_keep sub_nil)))
      have hlt : i < h.length := by omega
      replace HS := HS.turnP (q := Arr 58 (metL (h.take (i + 1)))) (.here .here) (fun o ho => by rw [← metL_snoc hlt ex13 h22]; simpa only [Nat.zero_add, Nat.mul_one] using ho)
      exact ⟨i + 1, ⟨HS, HE.cut ⟨rfl, rfl, rfl, rfl, rfl, trivial⟩, by omega⟩, by omega⟩
    · have h22r := h22; try simp only [Bool.not_eq_true', Bool.not_eq_false', Bool.and_eq_true, Bool.or_eq_true, Bool.or_eq_false_iff, Bool.and_eq_false_iff, decide_eq_true_eq, decide_eq_false_iff_not, beq_iff_eq, beq_eq_false_iff_ne] at h22
      refine wp_skip ?_
      refine hK11 _ _ ?_; clear hK11
      refine wp_region_lit ?_
      refine o_add HE rfl rfl rfl (by omega) ?_; clear HE; intro a HE
      refine o_move HE rfl rfl ?_; clear HE; intro a HE
      replace HS := HS.drop (M' := [_, _]) (sub_drop (sub_keep (sub_keep sub_nil)))
      have hlt : i < h.length := by omega
      replace HS := HS.turnP (q := Arr 58 (metL (h.take (i + 1)))) (.here .here) (fun o ho => by rw [← metL_skip hlt ex13 h22]; exact ho)
      exact ⟨i + 1, ⟨HS, HE.cut ⟨rfl, rfl, rfl, rfl, rfl, trivial⟩, by omega⟩, by omega⟩
  · have h10r := h10; try simp only [Bool.not_eq_true', Bool.not_eq_false', Bool.and_eq_true, Bool.or_eq_true, Bool.or_eq_false_iff, Bool.and_eq_false_iff, decide_eq_true_eq, decide_eq_false_iff_not, beq_iff_eq, beq_eq_false_iff_ne] at h10
    refine wp_exit ?_
    refine hK3 _ _ ?_; clear hK3
    refine wp_seq_k (fun K hK => ?_); refine wp_region_lit ?_
    refine o_ldRA HE rfl HS rfl (by rw [metL_len]; exact T.a58) (.here .here) ?_; clear HE; intro a HE
    refine o_stRA HE HS rfl rfl (by rw [metL_len]; exact T.a58) (.there (.here .here)) ⟨by simpa only [List.all_eq_true] using metL_one, by simp [metL_len]⟩ ?_; clear HS; intro w HS
    refine hK _ _ ?_; clear hK K
    refine wp_ret ?_
    show Q .ret _ _
    refine ret hQ HE rfl (HE.resR HS rfl (by rw [metL_len]; exact T.a58) (.there (.here .here)) .nil) ⟨_, _, HS.stop (List.nil_sublist _), rfl, ?_⟩
    show _ = _
    rw [show h.take i = h from List.take_of_length_le (by omega)]
    rfl

/-! `incognito/incognitoref26.has` -/
set_option maxRecDepth 100000 in
set_option maxHeartbeats 4000000 in
theorem c_has (h : List Evt) (A : Option Addr) (c : Nat) (m : Int) (w0 : World) (G : Heap) (hG : Sub G w0) (hR : Rd kEvt G A h) (hl : h.length ≤ 9223372036854775807):
    Calls Try.prog 27 #[.slice A h.length c, .int .i64 m] w0 (Ret w0 G (fun v _ => v = .bool (hasM h m))) := by
  refine enter Try.func27 rfl Try.ntmps27 rfl ?_
  intro Q hQ a HE
  have HS := St.start0 hG
  refine wp_seq_k (fun K hK => ?_); refine wp_region_lit ?_
  refine o_assign HE rfl rfl ?_; clear HE; intro a HE
  refine hK _ _ ?_; clear hK K
  refine wp_seq_k (fun K3 hK2 => ?_)
  refine wp_seq_k (fun K hK => ?_); refine wp_region_lit ?_
  refine o_assign HE rfl rfl ?_; clear HE; intro a HE
  refine hK _ _ ?_; clear hK K
  refine wp_block ?_
  refine loop (fun (i : Nat) a' w' => St w0 G [] G w' [] ∧ Env a' 27 [] [(0, .slice A h.length c), (1, .int .i64 m), (4, .bool false), (5, .int .i64 (i : Int))] ∧ (i ≤ h.length ∧ hasM (h.take i) m = false)) (fun (i : Nat) => h.length - i) 0 ⟨HS, HE.cut ⟨rfl, rfl, rfl, rfl, trivial⟩, ⟨Nat.zero_le _, rfl⟩⟩ ?_
  clear HE HS; intro i a w ⟨HS, HE, ⟨hi, hn⟩⟩
  refine wp_seq_k (fun K7 hK6 => ?_)
  refine wp_seq_k (fun K hK => ?_); refine wp_region_lit ?_
  refine o_move HE rfl rfl ?_; clear HE; intro a HE
  refine o_move HE rfl rfl ?_; clear HE; intro a HE
  refine o_lenL HE rfl rfl Try.underlying27 ?_; clear HE; intro a HE
  refine o_lss HE rfl rfl rfl ?_; clear HE; intro a HE
  refine hK _ _ ?_; clear hK K
  refine cond HE rfl (fun h9 => ?_) (fun h9 => ?_)
  · have h9r := h9; try simp only [Bool.not_eq_true', Bool.not_eq_false', Bool.and_eq_true, Bool.or_eq_true, Bool.or_eq_false_iff, Bool.and_eq_false_iff, decide_eq_true_eq, decide_eq_false_iff_not, beq_iff_eq, beq_eq_false_iff_ne] at h9
    refine wp_skip ?_
    refine hK6 _ _ ?_; clear hK6
    refine wp_seq_k (fun K11 hK10 => ?_)
    refine wp_block ?_
    refine wp_seq_k (fun K hK => ?_); refine wp_region_lit ?_
    refine o_move HE rfl rfl ?_; clear HE; intro a HE
    refine o_move HE rfl rfl ?_; clear HE; intro a HE
    have hi12 : (i : Int).toNat < h.length := by omega
    obtain ⟨eb12, eo12, hA12, el12⟩ := Rd.at hR (List.getElem?_eq_getElem hi12); cases hA12
    obtain ⟨x12, ex12⟩ : ∃ x, h[(i : Int).toNat] = x := ⟨_, rfl⟩; rw [ex12] at el12
    obtain ⟨A1_12, c1_12, A2_12, c2_12, el12, ha1_12, hr1_12, ha2_12, hr2_12⟩ := kEvt_open el12
    refine o_ixL HE rfl rfl rfl T.l27 ⟨by omega, by omega⟩ ?_; clear HE; intro a HE
    refine o_fld HE rfl rfl T.f48_2 ?_; clear HE; intro a HE
    refine o_ldI HE rfl HS rfl T.s3 el12 (j := 4) rfl rfl ?_; clear HE; intro a HE
    refine o_eqI HE rfl rfl rfl ?_; clear HE; intro a HE
    refine o_move HE rfl rfl ?_; clear HE; intro a HE
    refine cutL 8 (fun a' w' => w = w' ∧ Env a' 27 [] [(26, .bool ((decide (x12.type = 1)) && (decide (x12.model = m)))), (0, .slice (some ⟨eb12, eo12, none⟩) h.length c), (1, .int .i64 m), (4, .bool false), (5, .int .i64 (i : Int)), (6, .int .i64 (i : Int)), (7, .slice (some ⟨eb12, eo12, none⟩) h.length c), (8, .int .i64 (h.length : Int)), (9, .bool (decide ((i : Int) < (h.length : Int))))]) ?_ ?_
    · refine (Bool.eq_false_or_eq_true (decide (x12.type = 1))).elim (fun hb13 => ?_) (fun hb13 => ?_)
      · skip
        have hk14 := hb13; try simp only [Bool.not_eq_true', Bool.not_eq_false', Bool.and_eq_true, Bool.or_eq_true, Bool.or_eq_false_iff, decide_eq_true_eq, decide_eq_false_iff_not] at hk14
        refine op_on HE rfl rfl hb13 ?_
        refine o_move HE rfl rfl ?_; clear HE; intro a HE
        refine op_on HE rfl rfl hb13 ?_
        refine o_move HE rfl rfl ?_; clear HE; intro a HE
        refine op_on HE rfl rfl hb13 ?_
        refine o_ixL HE rfl rfl rfl T.l27 ⟨by omega, by omega⟩ ?_; clear HE; intro a HE
        refine op_on HE rfl rfl hb13 ?_
        refine o_fld HE rfl rfl T.f48_3 ?_; clear HE; intro a HE
        refine op_on HE rfl rfl hb13 ?_
        refine o_ldI HE rfl HS rfl T.s3 el12 (j := 5) rfl rfl ?_; clear HE; intro a HE
        refine op_on HE rfl rfl hb13 ?_
        refine o_move HE rfl rfl ?_; clear HE; intro a HE
        refine op_on HE rfl rfl hb13 ?_
        refine o_eqI HE rfl rfl rfl ?_; clear HE; intro a HE
        refine o_pick_t HE rfl rfl hb13 rfl ?_; clear HE; intro a HE
        exact ⟨rfl, HE.cut ⟨by rw [hb13]; rfl, rfl, rfl, rfl, rfl, rfl, rfl, rfl, rfl, trivial⟩⟩
      · skip
        have hk15 := hb13; try simp only [Bool.not_eq_true', Bool.not_eq_false', Bool.and_eq_true, Bool.or_eq_true, Bool.or_eq_false_iff, decide_eq_true_eq, decide_eq_false_iff_not] at hk15
        refine g_off HE rfl rfl rfl hb13 ?_; clear HE; intro a HE
        refine g_off HE rfl rfl rfl hb13 ?_; clear HE; intro a HE
        refine g_off HE rfl rfl rfl hb13 ?_; clear HE; intro a HE
        refine g_off HE rfl rfl rfl hb13 ?_; clear HE; intro a HE
        refine g_off HE rfl rfl rfl hb13 ?_; clear HE; intro a HE
        refine g_off HE rfl rfl rfl hb13 ?_; clear HE; intro a HE
        refine g_off HE rfl rfl rfl hb13 ?_; clear HE; intro a HE
        refine o_pick_f HE rfl rfl hb13 rfl ?_; clear HE; intro a HE
        exact ⟨rfl, HE.cut ⟨by rw [hb13]; rfl, rfl, rfl, rfl, rfl, rfl, rfl, rfl, rfl, trivial⟩⟩
    clear HE; rintro a _ ⟨rfl, HE⟩
    refine hK _ _ ?_; clear hK K
    refine cond HE rfl (fun h17 => ?_) (fun h17 => ?_)
    · have h17r := h17; try simp only [Bool.not_eq_true', Bool.not_eq_false', Bool.and_eq_true, Bool.or_eq_true, Bool.or_eq_false_iff, Bool.and_eq_false_iff, decide_eq_true_eq, decide_eq_false_iff_not, beq_iff_eq, beq_eq_false_iff_ne] at h17
      refine wp_seq_k (fun K hK => ?_); refine wp_region_lit ?_
      refine o_assign HE rfl rfl ?_; clear HE; intro a HE
      refine hK _ _ ?_; clear hK K
      refine wp_ret ?_
      show Q .ret _ _
      refine ret hQ HE rfl (HE.res rfl .nil) ⟨_, _, HS.stop (List.nil_sublist _), rfl, ?_⟩
      show _ = _
      simp only [packed, Value.bool.injEq]
      first | (exact (hasM_of (i := i) (by omega) (by simp_all [isM])).symm) | (rw [← hn, List.take_of_length_le (by omega)])
    · have h17r := h17; try simp only [Bool.not_eq_true', Bool.not_eq_false', Bool.and_eq_true, Bool.or_eq_true, Bool.or_eq_false_iff, Bool.and_eq_false_iff, decide_eq_true_eq, decide_eq_false_iff_not, beq_iff_eq, beq_eq_false_iff_ne] at h17
      refine wp_skip ?_
      refine hK10 _ _ ?_; clear hK10
      refine wp_region_lit ?_
      refine o_move HE rfl rfl ?_; clear HE; intro a HE
      refine o_add HE rfl rfl rfl (by omega) ?_; clear HE; intro a HE
      refine o_assign HE rfl rfl ?_; clear HE; intro a HE
      have hlt : i < h.length := by omega
      have hn' : hasM (h.take (i + 1)) m = false := by rw [hasM_take hlt, hn]; simp_all [isM]
      exact ⟨i + 1, ⟨HS, HE.cut ⟨rfl, rfl, rfl, rfl, trivial⟩, ⟨by omega, hn'⟩⟩, by omega⟩
  · have h9r := h9; try simp only [Bool.not_eq_true', Bool.not_eq_false', Bool.and_eq_true, Bool.or_eq_true, Bool.or_eq_false_iff, Bool.and_eq_false_iff, decide_eq_true_eq, decide_eq_false_iff_not, beq_iff_eq, beq_eq_false_iff_ne] at h9
    refine wp_exit ?_
    refine hK2 _ _ ?_; clear hK2
    refine wp_seq_k (fun K hK => ?_); refine wp_region_lit ?_
    refine o_assign HE rfl rfl ?_; clear HE; intro a HE
    refine hK _ _ ?_; clear hK K
    refine wp_ret ?_
    show Q .ret _ _
    refine ret hQ HE rfl (HE.res rfl .nil) ⟨_, _, HS.stop (List.nil_sublist _), rfl, ?_⟩
    show _ = _
    simp only [packed, Value.bool.injEq]
    first | (exact (hasM_of (i := i) (by omega) (by simp_all [isM])).symm) | (rw [← hn, List.take_of_length_le (by omega)])

/-! `incognito/admit.Sorted` -/
set_option maxRecDepth 100000 in
set_option maxHeartbeats 4000000 in
theorem c_sorted (h : List Evt) (A : Option Addr) (c : Nat) (w0 : World) (G : Heap) (hG : Sub G w0) (hR : Rd kEvt G A h) (hl : h.length ≤ 9223372036854775807):
    Calls Try.prog 16 #[.slice A h.length c] w0 (Ret w0 G (fun v _ => v = .bool (sortedB h))) := by
  refine enter Try.func16 rfl Try.ntmps16 rfl ?_
  intro Q hQ a HE
  have HS := St.start0 hG
  refine wp_seq_k (fun K hK => ?_); refine wp_region_lit ?_
  refine o_assign HE rfl rfl ?_; clear HE; intro a HE
  refine hK _ _ ?_; clear hK K
  refine wp_seq_k (fun K hK => ?_); refine wp_region_lit ?_
  refine o_move HE rfl rfl ?_; clear HE; intro a HE
  refine o_callP HE rfl HS rfl rfl T.g26 (c_all h _ _ _ _ HS.sub hR (by first | omega | (simp; done) | (simp; omega))) ?_
  clear HE HS; rintro _ w a HS rfl HE
  refine o_allocR HE rfl HS T.z58 ?_; clear HE HS; intro B3 w a HS HE; replace HS := HS.turnP (q := Arr 58 (metL [])) (.here .here) (fun _ h => h)
  refine o_stRA HE HS rfl rfl (by rw [metL_len]; exact T.a58) (.here .here) ⟨by simpa only [List.all_eq_true] using metL_one, by simp [metL_len]⟩ ?_; clear HS; intro w HS
  refine hK _ _ ?_; clear hK K
  refine wp_seq_k (fun K hK => ?_); refine wp_region_lit ?_
  refine o_ixA HE rfl rfl rfl T.r58 (by decide) ?_; clear HE; intro a HE
  refine o_ldR HE rfl HS rfl T.s4 (.here .here) metL_9 ?_; clear HE; intro a HE
  refine o_move HE rfl rfl ?_; clear HE; intro a HE
  refine cutL 3 (fun a' w' => w = w' ∧ Env a' 12 [] [(11, .bool ((hasM h 9) || (hasM h 10))), (0, .slice A h.length c), (2, .bool false), (3, .pointer (some ⟨B3, 0, none⟩)), (4, .slice A h.length c), (5, .agg (metL h).toArray)]) ?_ ?_
  · refine (Bool.eq_false_or_eq_true (hasM h 9)).elim (fun hb3 => ?_) (fun hb3 => ?_)
    · skip
      have hk4 := hb3; try simp only [Bool.not_eq_true', Bool.not_eq_false', Bool.and_eq_true, Bool.or_eq_true, Bool.or_eq_false_iff, decide_eq_true_eq, decide_eq_false_iff_not] at hk4
      refine g_off HE rfl rfl rfl hb3 ?_; clear HE; intro a HE
      refine g_off HE rfl rfl rfl hb3 ?_; clear HE; intro a HE
      refine o_pick_t HE rfl rfl hb3 rfl ?_; clear HE; intro a HE
      exact ⟨rfl, HE.cut ⟨by rw [hb3]; rfl, rfl, rfl, rfl, rfl, rfl, trivial⟩⟩
    · skip
      have hk5 := hb3; try simp only [Bool.not_eq_true', Bool.not_eq_false', Bool.and_eq_true, Bool.or_eq_true, Bool.or_eq_false_iff, decide_eq_true_eq, decide_eq_false_iff_not] at hk5
      refine op_on HE rfl rfl hb3 ?_
      refine o_ixA HE rfl rfl rfl T.r58 (by decide) ?_; clear HE; intro a HE
      refine op_on HE rfl rfl hb3 ?_
      refine o_ldR HE rfl HS rfl T.s4 (.here .here) metL_10 ?_; clear HE; intro a HE
      refine o_pick_f HE rfl rfl hb3 rfl ?_; clear HE; intro a HE
      exact ⟨rfl, HE.cut ⟨by rw [hb3]; rfl, rfl, rfl, rfl, rfl, rfl, trivial⟩⟩
  clear HE; rintro a _ ⟨rfl, HE⟩
  refine o_assign HE rfl rfl ?_; clear HE; intro a HE
  refine hK _ _ ?_; clear hK K
  refine wp_ret ?_
  show Q .ret _ _
  refine ret hQ HE rfl (HE.res rfl .nil) ⟨_, _, HS.stop (List.nil_sublist _), rfl, ?_⟩
  exact rfl

/-! `incognito/incognitoref26.Sorted` -/
set_option maxRecDepth 100000 in
set_option maxHeartbeats 4000000 in
theorem c_Sorted (h : List Evt) (A : Option Addr) (c : Nat) (w0 : World) (G : Heap) (hG : Sub G w0) (hR : Rd kEvt G A h) (hl : h.length ≤ 9223372036854775807):
    Calls Try.prog 17 #[.slice A h.length c] w0 (Ret w0 G (fun v _ => v = .bool (sortedB h))) := by
  refine enter Try.func17 rfl Try.ntmps17 rfl ?_
  intro Q hQ a HE
  have HS := St.start0 hG
  refine wp_seq_k (fun K hK => ?_); refine wp_region_lit ?_
  refine o_assign HE rfl rfl ?_; clear HE; intro a HE
  refine hK _ _ ?_; clear hK K
  refine wp_seq_k (fun K hK => ?_); refine wp_region_lit ?_
  refine o_move HE rfl rfl ?_; clear HE; intro a HE
  refine o_callP HE rfl HS rfl rfl T.g27 (c_has h _ _ 9 _ _ HS.sub hR (by first | omega | (simp; done) | (simp; omega))) ?_
  clear HE HS; rintro _ w a HS rfl HE
  refine o_move HE rfl rfl ?_; clear HE; intro a HE
  obtain ⟨M0, hM0, HS⟩ : ∃ M0, M0 = _ ∧ St w0 G [] G _ M0 := ⟨_, rfl, HS⟩
  refine cutL 3 (fun a' w' => St w0 G [] G w' M0 ∧ Env a' 9 [] [(8, .bool ((hasM h 9) || (hasM h 10))), (2, .bool false)]) ?_ ?_
  · refine (Bool.eq_false_or_eq_true (hasM h 9)).elim (fun hb2 => ?_) (fun hb2 => ?_)
    · subst hM0
      have hk3 := hb2; try simp only [Bool.not_eq_true', Bool.not_eq_false', Bool.and_eq_true, Bool.or_eq_true, Bool.or_eq_false_iff, decide_eq_true_eq, decide_eq_false_iff_not] at hk3
      refine g_off HE rfl rfl rfl hb2 ?_; clear HE; intro a HE
      refine g_off HE rfl rfl rfl hb2 ?_; clear HE; intro a HE
      refine o_pick_t HE rfl rfl hb2 rfl ?_; clear HE; intro a HE
      exact ⟨HS, HE.cut ⟨by rw [hb2]; rfl, rfl, trivial⟩⟩
    · subst hM0
      have hk4 := hb2; try simp only [Bool.not_eq_true', Bool.not_eq_false', Bool.and_eq_true, Bool.or_eq_true, Bool.or_eq_false_iff, decide_eq_true_eq, decide_eq_false_iff_not] at hk4
      refine op_on HE rfl rfl hb2 ?_
      refine o_move HE rfl rfl ?_; clear HE; intro a HE
      refine op_on HE rfl rfl hb2 ?_
      refine o_callP HE rfl HS rfl rfl T.g27 (c_has h _ _ 10 _ _ HS.sub hR (by first | omega | (simp; done) | (simp; omega))) ?_
      clear HE HS; rintro _ w a HS rfl HE
      refine o_pick_f HE rfl rfl hb2 rfl ?_; clear HE; intro a HE
      exact ⟨HS, HE.cut ⟨by rw [hb2]; rfl, rfl, trivial⟩⟩
  clear HE HS; rintro a w ⟨HS, HE⟩; subst hM0
  refine o_assign HE rfl rfl ?_; clear HE; intro a HE
  refine hK _ _ ?_; clear hK K
  refine wp_ret ?_
  show Q .ret _ _
  refine ret hQ HE rfl (HE.res rfl .nil) ⟨_, _, HS.stop (List.nil_sublist _), rfl, ?_⟩
  exact rfl

/-! `incognito/admit.Admits` -/
set_option maxRecDepth 100000 in
set_option maxHeartbeats 4000000 in
theorem c_admits (p : Pol) (h : List Evt) (A : Option Addr) (c : Nat) (w0 : World) (G : Heap) (hG : Sub G w0) (hR : Rd kEvt G A h) (hl : h.length ≤ 9223372036854775807):
    Calls Try.prog 8 #[.agg #[.int .i64 p.r0.way, .int .i64 p.r0.size, .int .i64 p.r1.way, .int .i64 p.r1.size, .int .i64 p.r2.way, .int .i64 p.r2.size, .int .i64 p.r3.way, .int .i64 p.r3.size, .int .i64 p.r4.way, .int .i64 p.r4.size, .int .i64 p.time, .int .i64 p.note, .bool p.loose, .bool p.force], .slice A h.length c] w0 (Ret w0 G (fun v _ => v = .bool (admitsB p h))) := by
  refine enter Try.func8 rfl Try.ntmps8 rfl ?_
  intro Q hQ a HE
  have HS := St.start0 hG
  refine wp_seq_k (fun K hK => ?_); refine wp_region_lit ?_
  refine o_boxL [(0, _), (1, _), (2, _), (3, _), (4, _), (5, _), (6, _), (7, _), (8, _), (9, _), (10, _), (11, _), (12, _), (13, _)] HE rfl HS rfl ⟨rfl, rfl, rfl, rfl, rfl, rfl, rfl, rfl, rfl, rfl, rfl, rfl, rfl, rfl, trivial⟩ ?_; clear HE HS; intro B2 w a HS HE
  refine o_assign HE rfl rfl ?_; clear HE; intro a HE
  refine hK _ _ ?_; clear hK K
  refine wp_seq_k (fun K3 hK2 => ?_)
  refine wp_seq_k (fun K hK => ?_); refine wp_region_lit ?_
  refine o_ldA HE rfl HS rfl T.a26 (.here .here) rfl ?_; clear HE; intro a HE
  refine o_callP HE rfl HS rfl rfl T.g18 (c_right p _ _ HS.sub) ?_
  clear HE HS; rintro _ w a HS rfl HE
  refine o_not HE rfl rfl ?_; clear HE; intro a HE
  refine hK _ _ ?_; clear hK K
  refine cond HE rfl (fun h5 => ?_) (fun h5 => ?_)
  · have h5r := h5; try simp only [Bool.not_eq_true', Bool.not_eq_false', Bool.and_eq_true, Bool.or_eq_true, Bool.or_eq_false_iff, Bool.and_eq_false_iff, decide_eq_true_eq, decide_eq_false_iff_not, beq_iff_eq, beq_eq_false_iff_ne] at h5
    refine wp_seq_k (fun K hK => ?_); refine wp_region_lit ?_
    refine o_assign HE rfl rfl ?_; clear HE; intro a HE
    refine hK _ _ ?_; clear hK K
    refine wp_ret ?_
    show Q .ret _ _
    refine ret hQ HE rfl (HE.res rfl .nil) ⟨_, _, HS.stop (List.nil_sublist _), rfl, ?_⟩
    show _ = _
    simp only [packed, Value.bool.injEq]
    first | (simp only [admitsB]; done) | (simp_all [admitsB]; done) | (simp only [admitsB]; grind)
  · have h5r := h5; try simp only [Bool.not_eq_true', Bool.not_eq_false', Bool.and_eq_true, Bool.or_eq_true, Bool.or_eq_false_iff, Bool.and_eq_false_iff, decide_eq_true_eq, decide_eq_false_iff_not, beq_iff_eq, beq_eq_false_iff_ne] at h5
    refine wp_skip ?_
    refine hK2 _ _ ?_; clear hK2
    refine wp_seq_k (fun K8 hK7 => ?_)
    refine wp_seq_k (fun K hK => ?_); refine wp_region_lit ?_
    refine o_fld HE rfl rfl T.f26_0 ?_; clear HE; intro a HE
    refine o_ixA HE rfl rfl rfl T.r24 (by decide) ?_; clear HE; intro a HE
    refine o_fld HE rfl rfl T.f23_0 ?_; clear HE; intro a HE
    refine o_ld HE rfl HS rfl T.s3 (.here .here) rfl ?_; clear HE; intro a HE
    refine hK _ _ ?_; clear hK K
    refine wp_block ?_
    refine cutC (fun a' w' => w = w' ∧ Env a' 18 [] [(0, .agg #[.int .i64 p.r0.way, .int .i64 p.r0.size, .int .i64 p.r1.way, .int .i64 p.r1.size, .int .i64 p.r2.way, .int .i64 p.r2.size, .int .i64 p.r3.way, .int .i64 p.r3.size, .int .i64 p.r4.way, .int .i64 p.r4.size, .int .i64 p.time, .int .i64 p.note, .bool p.loose, .bool p.force]), (1, .slice A h.length c), (2, .pointer (some ⟨B2, 0, none⟩)), (4, .bool false), (5, .agg #[.int .i64 p.r0.way, .int .i64 p.r0.size, .int .i64 p.r1.way, .int .i64 p.r1.size, .int .i64 p.r2.way, .int .i64 p.r2.size, .int .i64 p.r3.way, .int .i64 p.r3.size, .int .i64 p.r4.way, .int .i64 p.r4.size, .int .i64 p.time, .int .i64 p.note, .bool p.loose, .bool p.force]), (6, .bool (rightB p)), (7, .bool (!(rightB p))), (8, .pointer (some ⟨B2, 0, none⟩)), (9, .pointer (some ⟨B2, 8, none⟩)), (10, .pointer (some ⟨B2, 8, none⟩)), (12, .bool ((decide (p.r4.way = 1)) || (decide (p.r4.way = 2))))]) ?_ ?_
    · skip
      refine wp_seq_k (fun K hK => ?_); refine wp_region_lit ?_
      refine o_eqI HE rfl rfl rfl ?_; clear HE; intro a HE
      refine o_assign HE rfl rfl ?_; clear HE; intro a HE
      refine hK _ _ ?_; clear hK K
      refine cond HE rfl (fun h11 => ?_) (fun h11 => ?_)
      · have h11r := h11; try simp only [Bool.not_eq_true', Bool.not_eq_false', Bool.and_eq_true, Bool.or_eq_true, Bool.or_eq_false_iff, Bool.and_eq_false_iff, decide_eq_true_eq, decide_eq_false_iff_not, beq_iff_eq, beq_eq_false_iff_ne] at h11
        refine wp_skip ?_
        exact ⟨rfl, HE.cut ⟨rfl, rfl, rfl, rfl, rfl, rfl, rfl, rfl, rfl, rfl, by first | rfl | (rw [h11r]; rfl) | (rw [h11r]; rfl) | (simp [h11r, lk]; done), trivial⟩⟩
      · have h11r := h11; try simp only [Bool.not_eq_true', Bool.not_eq_false', Bool.and_eq_true, Bool.or_eq_true, Bool.or_eq_false_iff, Bool.and_eq_false_iff, decide_eq_true_eq, decide_eq_false_iff_not, beq_iff_eq, beq_eq_false_iff_ne] at h11
        refine wp_region_lit ?_
        refine o_eqI HE rfl rfl rfl ?_; clear HE; intro a HE
        refine o_assign HE rfl rfl ?_; clear HE; intro a HE
        exact ⟨rfl, HE.cut ⟨rfl, rfl, rfl, rfl, rfl, rfl, rfl, rfl, rfl, rfl, by first | rfl | (rw [h11r]; rfl) | (rw [h11r]; rfl) | (simp [h11r, lk]; done), trivial⟩⟩
    clear HE; rintro a _ ⟨rfl, HE⟩
    refine cond HE rfl (fun h12 => ?_) (fun h12 => ?_)
    · have h12r := h12; try simp only [Bool.not_eq_true', Bool.not_eq_false', Bool.and_eq_true, Bool.or_eq_true, Bool.or_eq_false_iff, Bool.and_eq_false_iff, decide_eq_true_eq, decide_eq_false_iff_not, beq_iff_eq, beq_eq_false_iff_ne] at h12
      refine wp_seq_k (fun K hK => ?_); refine wp_region_lit ?_
      refine o_move HE rfl rfl ?_; clear HE; intro a HE
      refine o_callP HE rfl HS rfl rfl T.g16 (c_sorted h _ _ _ _ HS.sub hR (by first | omega | (simp; done) | (simp; omega))) ?_
      clear HE HS; rintro _ w a HS rfl HE
      refine o_not HE rfl rfl ?_; clear HE; intro a HE
      refine o_assign HE rfl rfl ?_; clear HE; intro a HE
      refine hK _ _ ?_; clear hK K
      refine wp_ret ?_
      show Q .ret _ _
      refine ret hQ HE rfl (HE.res rfl .nil) ⟨_, _, HS.stop (List.nil_sublist _), rfl, ?_⟩
      show _ = _
      simp only [packed, Value.bool.injEq]
      first | (simp only [admitsB]; done) | (simp_all [admitsB]; done) | (simp only [admitsB]; grind)
    · have h12r := h12; try simp only [Bool.not_eq_true', Bool.not_eq_false', Bool.and_eq_true, Bool.or_eq_true, Bool.or_eq_false_iff, Bool.and_eq_false_iff, decide_eq_true_eq, decide_eq_false_iff_not, beq_iff_eq, beq_eq_false_iff_ne] at h12
      refine wp_skip ?_
      refine hK7 _ _ ?_; clear hK7
      refine wp_seq_k (fun K hK => ?_); refine wp_region_lit ?_
      refine o_assign HE rfl rfl ?_; clear HE; intro a HE
      refine hK _ _ ?_; clear hK K
      refine wp_ret ?_
      show Q .ret _ _
      refine ret hQ HE rfl (HE.res rfl .nil) ⟨_, _, HS.stop (List.nil_sublist _), rfl, ?_⟩
      show _ = _
      simp only [packed, Value.bool.injEq]
      first | (simp only [admitsB]; done) | (simp_all [admitsB]; done) | (simp only [admitsB]; grind)

/-! `incognito/incognitoref26.Admits` -/
set_option maxRecDepth 100000 in
set_option maxHeartbeats 4000000 in
theorem c_Admits (p : Pol) (h : List Evt) (A : Option Addr) (c : Nat) (w0 : World) (G : Heap) (hG : Sub G w0) (hR : Rd kEvt G A h) (hl : h.length ≤ 9223372036854775807):
    Calls Try.prog 9 #[.agg #[.int .i64 p.r0.way, .int .i64 p.r0.size, .int .i64 p.r1.way, .int .i64 p.r1.size, .int .i64 p.r2.way, .int .i64 p.r2.size, .int .i64 p.r3.way, .int .i64 p.r3.size, .int .i64 p.r4.way, .int .i64 p.r4.size, .int .i64 p.time, .int .i64 p.note, .bool p.loose, .bool p.force], .slice A h.length c] w0 (Ret w0 G (fun v _ => v = .bool (admitsB p h))) := by
  refine enter Try.func9 rfl Try.ntmps9 rfl ?_
  intro Q hQ a HE
  have HS := St.start0 hG
  refine wp_seq_k (fun K hK => ?_); refine wp_region_lit ?_
  refine o_boxL [(0, _), (1, _), (2, _), (3, _), (4, _), (5, _), (6, _), (7, _), (8, _), (9, _), (10, _), (11, _), (12, _), (13, _)] HE rfl HS rfl ⟨rfl, rfl, rfl, rfl, rfl, rfl, rfl, rfl, rfl, rfl, rfl, rfl, rfl, rfl, trivial⟩ ?_; clear HE HS; intro B2 w a HS HE
  refine o_assign HE rfl rfl ?_; clear HE; intro a HE
  refine hK _ _ ?_; clear hK K
  refine wp_seq_k (fun K hK => ?_); refine wp_region_lit ?_
  refine o_fld HE rfl rfl T.f26_0 ?_; clear HE; intro a HE
  refine o_ixA HE rfl rfl rfl T.r24 (by decide) ?_; clear HE; intro a HE
  refine o_fld HE rfl rfl T.f23_0 ?_; clear HE; intro a HE
  refine o_ld HE rfl HS rfl T.s3 (.here .here) rfl ?_; clear HE; intro a HE
  refine o_assign HE rfl rfl ?_; clear HE; intro a HE
  refine hK _ _ ?_; clear hK K
  refine wp_seq_k (fun K hK => ?_); refine wp_region_lit ?_
  refine o_ldA HE rfl HS rfl T.a26 (.here .here) rfl ?_; clear HE; intro a HE
  refine o_callP HE rfl HS rfl rfl T.g19 (c_Right p _ _ HS.sub) ?_
  clear HE HS; rintro _ w a HS rfl HE
  refine o_move HE rfl rfl ?_; clear HE; intro a HE
  obtain ⟨M0, hM0, HS⟩ : ∃ M0, M0 = _ ∧ St w0 G [] G _ M0 := ⟨_, rfl, HS⟩
  refine cutL 12 (fun a' w' => St w0 G [] G w' M0 ∧ Env a' 25 [] [(24, .bool ((rightB p) && (!(((decide (p.r4.way = 1)) || (decide (p.r4.way = 2))) && (sortedB h))))), (0, .agg #[.int .i64 p.r0.way, .int .i64 p.r0.size, .int .i64 p.r1.way, .int .i64 p.r1.size, .int .i64 p.r2.way, .int .i64 p.r2.size, .int .i64 p.r3.way, .int .i64 p.r3.size, .int .i64 p.r4.way, .int .i64 p.r4.size, .int .i64 p.time, .int .i64 p.note, .bool p.loose, .bool p.force]), (2, .pointer (some ⟨B2, 0, none⟩)), (4, .bool false), (6, .pointer (some ⟨B2, 0, none⟩)), (7, .pointer (some ⟨B2, 8, none⟩)), (8, .pointer (some ⟨B2, 8, none⟩)), (9, .int .i64 p.r4.way)]) ?_ ?_
  · refine (Bool.eq_false_or_eq_true (rightB p)).elim (fun hb3 => ?_) (fun hb3 => ?_)
    · subst hM0
      have hk4 := hb3; try simp only [Bool.not_eq_true', Bool.not_eq_false', Bool.and_eq_true, Bool.or_eq_true, Bool.or_eq_false_iff, decide_eq_true_eq, decide_eq_false_iff_not] at hk4
      refine op_on HE rfl rfl hb3 ?_
      refine o_move HE rfl rfl ?_; clear HE; intro a HE
      refine op_on HE rfl rfl hb3 ?_
      refine o_eqI HE rfl rfl rfl ?_; clear HE; intro a HE
      refine op_on HE rfl rfl hb3 ?_
      refine o_move HE rfl rfl ?_; clear HE; intro a HE
      refine cutL 3 (fun a' w' => w = w' ∧ Env a' 25 [] [(18, .bool ((decide (p.r4.way = 1)) || (decide (p.r4.way = 2)))), (0, .agg #[.int .i64 p.r0.way, .int .i64 p.r0.size, .int .i64 p.r1.way, .int .i64 p.r1.size, .int .i64 p.r2.way, .int .i64 p.r2.size, .int .i64 p.r3.way, .int .i64 p.r3.size, .int .i64 p.r4.way, .int .i64 p.r4.size, .int .i64 p.time, .int .i64 p.note, .bool p.loose, .bool p.force]), (1, .slice A h.length c), (2, .pointer (some ⟨B2, 0, none⟩)), (4, .bool false), (6, .pointer (some ⟨B2, 0, none⟩)), (7, .pointer (some ⟨B2, 8, none⟩)), (8, .pointer (some ⟨B2, 8, none⟩)), (9, .int .i64 p.r4.way), (12, .bool (rightB p))]) ?_ ?_
      · refine (Bool.eq_false_or_eq_true (decide (p.r4.way = 1))).elim (fun hb5 => ?_) (fun hb5 => ?_)
        · skip
          have hk6 := hb5; try simp only [Bool.not_eq_true', Bool.not_eq_false', Bool.and_eq_true, Bool.or_eq_true, Bool.or_eq_false_iff, decide_eq_true_eq, decide_eq_false_iff_not] at hk6
          refine g_off HE rfl rfl rfl hb5 ?_; clear HE; intro a HE
          refine g_off HE rfl rfl rfl hb5 ?_; clear HE; intro a HE
          refine op_on HE rfl rfl hb3 ?_
          refine o_pick_t HE rfl rfl hb5 rfl ?_; clear HE; intro a HE
          exact ⟨rfl, HE.cut ⟨by rw [hb5]; rfl, rfl, rfl, rfl, rfl, rfl, rfl, rfl, rfl, rfl, trivial⟩⟩
        · skip
          have hk7 := hb5; try simp only [Bool.not_eq_true', Bool.not_eq_false', Bool.and_eq_true, Bool.or_eq_true, Bool.or_eq_false_iff, decide_eq_true_eq, decide_eq_false_iff_not] at hk7
          refine op_on HE rfl rfl hb5 ?_
          refine o_move HE rfl rfl ?_; clear HE; intro a HE
          refine op_on HE rfl rfl hb5 ?_
          refine o_eqI HE rfl rfl rfl ?_; clear HE; intro a HE
          refine op_on HE rfl rfl hb3 ?_
          refine o_pick_f HE rfl rfl hb5 rfl ?_; clear HE; intro a HE
          exact ⟨rfl, HE.cut ⟨by rw [hb5]; rfl, rfl, rfl, rfl, rfl, rfl, rfl, rfl, rfl, rfl, trivial⟩⟩
      clear HE; rintro a _ ⟨rfl, HE⟩
      refine op_on HE rfl rfl hb3 ?_
      refine o_move HE rfl rfl ?_; clear HE; intro a HE
      obtain ⟨M0, hM0, HS⟩ : ∃ M0, M0 = _ ∧ St w0 G [] G _ M0 := ⟨_, rfl, HS⟩
      refine cutL 3 (fun a' w' => St w0 G [] G w' M0 ∧ Env a' 25 [] [(22, .bool (((decide (p.r4.way = 1)) || (decide (p.r4.way = 2))) && (sortedB h))), (0, .agg #[.int .i64 p.r0.way, .int .i64 p.r0.size, .int .i64 p.r1.way, .int .i64 p.r1.size, .int .i64 p.r2.way, .int .i64 p.r2.size, .int .i64 p.r3.way, .int .i64 p.r3.size, .int .i64 p.r4.way, .int .i64 p.r4.size, .int .i64 p.time, .int .i64 p.note, .bool p.loose, .bool p.force]), (2, .pointer (some ⟨B2, 0, none⟩)), (4, .bool false), (6, .pointer (some ⟨B2, 0, none⟩)), (7, .pointer (some ⟨B2, 8, none⟩)), (8, .pointer (some ⟨B2, 8, none⟩)), (9, .int .i64 p.r4.way), (12, .bool (rightB p))]) ?_ ?_
      · refine (Bool.eq_false_or_eq_true ((decide (p.r4.way = 1)) || (decide (p.r4.way = 2)))).elim (fun hb8 => ?_) (fun hb8 => ?_)
        · subst hM0
          have hk9 := hb8; try simp only [Bool.not_eq_true', Bool.not_eq_false', Bool.and_eq_true, Bool.or_eq_true, Bool.or_eq_false_iff, decide_eq_true_eq, decide_eq_false_iff_not] at hk9
          refine op_on HE rfl rfl hb8 ?_
          refine o_move HE rfl rfl ?_; clear HE; intro a HE
          refine op_on HE rfl rfl hb8 ?_
          refine o_callP HE rfl HS rfl rfl T.g17 (c_Sorted h _ _ _ _ HS.sub hR (by first | omega | (simp; done) | (simp; omega))) ?_
          clear HE HS; rintro _ w a HS rfl HE
          refine op_on HE rfl rfl hb3 ?_
          refine o_pick_t HE rfl rfl hb8 rfl ?_; clear HE; intro a HE
          exact ⟨HS, HE.cut ⟨by rw [hb8]; rfl, rfl, rfl, rfl, rfl, rfl, rfl, rfl, rfl, trivial⟩⟩
        · subst hM0
          have hk10 := hb8; try simp only [Bool.not_eq_true', Bool.not_eq_false', Bool.and_eq_true, Bool.or_eq_true, Bool.or_eq_false_iff, decide_eq_true_eq, decide_eq_false_iff_not] at hk10
          refine g_off HE rfl rfl rfl hb8 ?_; clear HE; intro a HE
          refine g_off HE rfl rfl rfl hb8 ?_; clear HE; intro a HE
          refine op_on HE rfl rfl hb3 ?_
          refine o_pick_f HE rfl rfl hb8 rfl ?_; clear HE; intro a HE
          exact ⟨HS, HE.cut ⟨by rw [hb8]; rfl, rfl, rfl, rfl, rfl, rfl, rfl, rfl, rfl, trivial⟩⟩
      clear HE HS; rintro a w ⟨HS, HE⟩; subst hM0
      refine op_on HE rfl rfl hb3 ?_
      refine o_not HE rfl rfl ?_; clear HE; intro a HE
      refine o_pick_t HE rfl rfl hb3 rfl ?_; clear HE; intro a HE
      exact ⟨HS, HE.cut ⟨by rw [hb3]; rfl, rfl, rfl, rfl, rfl, rfl, rfl, rfl, trivial⟩⟩
    · subst hM0
      have hk11 := hb3; try simp only [Bool.not_eq_true', Bool.not_eq_false', Bool.and_eq_true, Bool.or_eq_true, Bool.or_eq_false_iff, decide_eq_true_eq, decide_eq_false_iff_not] at hk11
      refine g_off HE rfl rfl rfl hb3 ?_; clear HE; intro a HE
      refine g_off HE rfl rfl rfl hb3 ?_; clear HE; intro a HE
      refine g_off HE rfl rfl rfl hb3 ?_; clear HE; intro a HE
      refine g_offu HE rfl rfl rfl ?_; clear HE; intro a HE
      refine g_offu HE rfl rfl rfl ?_; clear HE; intro a HE
      refine g_off HE rfl rfl rfl hb3 ?_; clear HE; intro a HE
      refine g_off HE rfl rfl rfl hb3 ?_; clear HE; intro a HE
      refine g_offu HE rfl rfl rfl ?_; clear HE; intro a HE
      refine g_offu HE rfl rfl rfl ?_; clear HE; intro a HE
      refine g_off HE rfl rfl rfl hb3 ?_; clear HE; intro a HE
      refine g_off HE rfl rfl rfl hb3 ?_; clear HE; intro a HE
      refine o_pick_f HE rfl rfl hb3 rfl ?_; clear HE; intro a HE
      exact ⟨HS, HE.cut ⟨by rw [hb3]; rfl, rfl, rfl, rfl, rfl, rfl, rfl, rfl, trivial⟩⟩
  clear HE HS; rintro a w ⟨HS, HE⟩; subst hM0
  refine o_assign HE rfl rfl ?_; clear HE; intro a HE
  refine hK _ _ ?_; clear hK K
  refine wp_ret ?_
  show Q .ret _ _
  refine ret hQ HE rfl (HE.res rfl .nil) ⟨_, _, HS.stop (List.nil_sublist _), rfl, ?_⟩
  show _ = _
  simp only [packed, Value.bool.injEq]
  first | (simp only [admitsB]; done) | (simp_all [admitsB]; done) | (simp only [admitsB]; grind)

/-! `incognito/incognitolaw26.wakes` -/
set_option maxRecDepth 100000 in
set_option maxHeartbeats 4000000 in
theorem c_wakes  (w0 : World) (G : Heap) (hG : Sub G w0) :
    Calls Try.prog 7 #[] w0 (Ret w0 G (fun v _ => v = .bool true)) := by
  refine enter Try.func7 rfl Try.ntmps7 rfl ?_
  intro Q hQ a HE
  have HS := St.start0 hG
  refine wp_seq_k (fun K hK => ?_); refine wp_region_lit ?_
  refine o_assign HE rfl rfl ?_; clear HE; intro a HE
  refine hK _ _ ?_; clear hK K
  refine wp_seq_k (fun K hK => ?_); refine wp_region_lit ?_
  refine o_build (cs := #[.int .i64 0, .int .i64 0, .int .i64 0, str [], .int .i64 1, .int .i64 9, .int .i64 0, .int .i64 0, str [], .int .i64 0, .slice none 0 0, .slice none 0 0, .bool false, str []]) HE rfl rfl (by kernel_rfl) ?_; clear HE; intro a HE
  refine o_buildSl (cs := #[.int .i64 0, .int .i64 0, .int .i64 0, str [], .int .i64 1, .int .i64 9, .int .i64 0, .int .i64 0, str [], .int .i64 0, .slice none 0 0, .slice none 0 0, .bool false, str []]) [(0, _), (1, _), (2, _), (3, _), (4, _), (5, _), (6, _), (7, _), (8, _), (9, _), (10, _), (11, _), (12, _), (13, _)] HE rfl HS rfl T.l27 (by kernel_rfl) ⟨rfl, rfl, rfl, rfl, rfl, rfl, rfl, rfl, rfl, rfl, rfl, rfl, rfl, rfl, trivial⟩ ?_; clear HE HS; intro B5 w a HS HE
  obtain ⟨G2, hle4, hC3, HS'⟩ := HS.stillHead (n := 14) rfl; clear HS; have HS := HS'; clear HS'
  have hW5 := Rd.ofCells (K := kEvt) (xs := [(⟨0, ⟨0, 0, []⟩, 1, 9, ⟨0, 0, []⟩, 0, [], [], false, []⟩ : Evt)]) hC3 ⟨kEvt_mk _ (Nat.zero_le _) .nil (Nat.zero_le _) .nil, rfl⟩
  refine o_assign HE rfl rfl ?_; clear HE; intro a HE
  refine hK _ _ ?_; clear hK K
  refine wp_seq_k (fun K hK => ?_); refine wp_region_lit ?_
  refine o_allocL [(0, _), (1, _), (2, _), (3, _), (4, _), (5, _), (6, _), (7, _), (8, _), (9, _), (10, _), (11, _), (12, _), (13, _)] HE rfl HS T.z26 ⟨rfl, rfl, rfl, rfl, rfl, rfl, rfl, rfl, rfl, rfl, rfl, rfl, rfl, rfl, trivial⟩ ?_; clear HE HS; intro B2 w a HS HE
  refine o_allocL [(0, _), (1, _), (2, _), (3, _), (4, _), (5, _), (6, _), (7, _), (8, _), (9, _), (10, _), (11, _), (12, _), (13, _)] HE rfl HS T.z26 ⟨rfl, rfl, rfl, rfl, rfl, rfl, rfl, rfl, rfl, rfl, rfl, rfl, rfl, rfl, trivial⟩ ?_; clear HE HS; intro B3 w a HS HE
  refine hK _ _ ?_; clear hK K
  refine wp_seq_k (fun K hK => ?_); refine wp_region_lit ?_
  refine o_fld HE rfl rfl T.f26_0 ?_; clear HE; intro a HE
  refine o_ixA HE rfl rfl rfl T.r24 (by decide) ?_; clear HE; intro a HE
  refine o_fld HE rfl rfl T.f23_0 ?_; clear HE; intro a HE
  refine o_st HE HS rfl rfl rfl T.s3 (.there (.here .here)) rfl ?_; clear HS; intro w HS
  refine hK _ _ ?_; clear hK K
  refine wp_seq_k (fun K hK => ?_); refine wp_region_lit ?_
  refine o_fld HE rfl rfl T.f26_0 ?_; clear HE; intro a HE
  refine o_ixA HE rfl rfl rfl T.r24 (by decide) ?_; clear HE; intro a HE
  refine o_fld HE rfl rfl T.f23_0 ?_; clear HE; intro a HE
  refine o_st HE HS rfl rfl rfl T.s3 (.here .here) rfl ?_; clear HS; intro w HS
  refine hK _ _ ?_; clear hK K
  refine wp_seq_k (fun K hK => ?_); refine wp_region_lit ?_
  refine o_ldA HE rfl HS rfl T.a26 (.there (.here .here)) rfl ?_; clear HE; intro a HE
  refine o_move HE rfl rfl ?_; clear HE; intro a HE
  refine o_callP HE rfl HS rfl rfl T.g8 (c_admits (⟨⟨0, 0⟩, ⟨0, 0⟩, ⟨0, 0⟩, ⟨0, 0⟩, ⟨1, 0⟩, 0, 0, false, false⟩ : Pol) [(⟨0, ⟨0, 0, []⟩, 1, 9, ⟨0, 0, []⟩, 0, [], [], false, []⟩ : Evt)] _ _ _ _ HS.sub hW5 (by first | omega | (simp; done) | (simp; omega))) ?_
  clear HE HS; rintro _ w a HS rfl HE
  refine o_not HE rfl rfl ?_; clear HE; intro a HE
  refine o_move HE rfl rfl ?_; clear HE; intro a HE
  obtain ⟨M0, hM0, HS⟩ : ∃ M0, M0 = _ ∧ St w0 G [] G2 _ M0 := ⟨_, rfl, HS⟩
  refine cutL 4 (fun a' w' => St w0 G [] G2 w' M0 ∧ Env a' 21 [] [(20, .bool ((!(admitsB (⟨⟨0, 0⟩, ⟨0, 0⟩, ⟨0, 0⟩, ⟨0, 0⟩, ⟨1, 0⟩, 0, 0, false, false⟩ : Pol) [(⟨0, ⟨0, 0, []⟩, 1, 9, ⟨0, 0, []⟩, 0, [], [], false, []⟩ : Evt)])) && (admitsB (⟨⟨0, 0⟩, ⟨0, 0⟩, ⟨0, 0⟩, ⟨0, 0⟩, ⟨3, 0⟩, 0, 0, false, false⟩ : Pol) [(⟨0, ⟨0, 0, []⟩, 1, 9, ⟨0, 0, []⟩, 0, [], [], false, []⟩ : Evt)]))), (0, .bool false), (2, .pointer (some ⟨B2, 0, none⟩)), (3, .pointer (some ⟨B3, 0, none⟩)), (4, .agg #[.int .i64 0, .int .i64 0, .int .i64 0, str [], .int .i64 1, .int .i64 9, .int .i64 0, .int .i64 0, str [], .int .i64 0, .slice none 0 0, .slice none 0 0, .bool false, str []]), (5, .slice (some ⟨B5, 0, none⟩) 1 1), (6, .pointer (some ⟨B2, 0, none⟩)), (7, .pointer (some ⟨B2, 8, none⟩)), (8, .pointer (some ⟨B2, 8, none⟩)), (9, .pointer (some ⟨B3, 0, none⟩)), (10, .pointer (some ⟨B3, 8, none⟩)), (11, .pointer (some ⟨B3, 8, none⟩))]) ?_ ?_
  · refine (Bool.eq_false_or_eq_true (!(admitsB (⟨⟨0, 0⟩, ⟨0, 0⟩, ⟨0, 0⟩, ⟨0, 0⟩, ⟨1, 0⟩, 0, 0, false, false⟩ : Pol) [(⟨0, ⟨0, 0, []⟩, 1, 9, ⟨0, 0, []⟩, 0, [], [], false, []⟩ : Evt)]))).elim (fun hb10 => ?_) (fun hb10 => ?_)
    · subst hM0
      have hk11 := hb10; try simp only [Bool.not_eq_true', Bool.not_eq_false', Bool.and_eq_true, Bool.or_eq_true, Bool.or_eq_false_iff, decide_eq_true_eq, decide_eq_false_iff_not] at hk11
      refine op_on HE rfl rfl hb10 ?_
      refine o_ldA HE rfl HS rfl T.a26 (.here .here) rfl ?_; clear HE; intro a HE
      refine op_on HE rfl rfl hb10 ?_
      refine o_move HE rfl rfl ?_; clear HE; intro a HE
      refine op_on HE rfl rfl hb10 ?_
      refine o_callP HE rfl HS rfl rfl T.g8 (c_admits (⟨⟨0, 0⟩, ⟨0, 0⟩, ⟨0, 0⟩, ⟨0, 0⟩, ⟨3, 0⟩, 0, 0, false, false⟩ : Pol) [(⟨0, ⟨0, 0, []⟩, 1, 9, ⟨0, 0, []⟩, 0, [], [], false, []⟩ : Evt)] _ _ _ _ HS.sub hW5 (by first | omega | (simp; done) | (simp; omega))) ?_
      clear HE HS; rintro _ w a HS rfl HE
      refine o_pick_t HE rfl rfl hb10 rfl ?_; clear HE; intro a HE
      exact ⟨HS, HE.cut ⟨by rw [hb10]; rfl, rfl, rfl, rfl, rfl, rfl, rfl, rfl, rfl, rfl, rfl, rfl, trivial⟩⟩
    · subst hM0
      have hk12 := hb10; try simp only [Bool.not_eq_true', Bool.not_eq_false', Bool.and_eq_true, Bool.or_eq_true, Bool.or_eq_false_iff, decide_eq_true_eq, decide_eq_false_iff_not] at hk12
      refine g_off HE rfl rfl rfl hb10 ?_; clear HE; intro a HE
      refine g_off HE rfl rfl rfl hb10 ?_; clear HE; intro a HE
      refine g_off HE rfl rfl rfl hb10 ?_; clear HE; intro a HE
      refine o_pick_f HE rfl rfl hb10 rfl ?_; clear HE; intro a HE
      exact ⟨HS, HE.cut ⟨by rw [hb10]; rfl, rfl, rfl, rfl, rfl, rfl, rfl, rfl, rfl, rfl, rfl, rfl, trivial⟩⟩
  clear HE HS; rintro a w ⟨HS, HE⟩; subst hM0
  refine o_assign HE rfl rfl ?_; clear HE; intro a HE
  refine hK _ _ ?_; clear hK K
  refine wp_ret ?_
  show Q .ret _ _
  refine ret hQ HE rfl (HE.res rfl .nil) ⟨_, _, HS.stop (List.nil_sublist _), rfl, ?_⟩
  show _ = _
  simp only [packed, Value.bool.injEq]
  decide

/-! `incognito/incognitolaw26.AdmitAdmits` -/
set_option maxRecDepth 100000 in
set_option maxHeartbeats 4000000 in
theorem law_AdmitAdmits (p : Pol) (h : List Evt) (A : Option Addr) (c : Nat) (w0 : World) (G : Heap) (hG : Sub G w0) (hR : Rd kEvt G A h) (hl : h.length ≤ 9223372036854775807):
    Calls Try.prog 3 #[.agg #[.int .i64 p.r0.way, .int .i64 p.r0.size, .int .i64 p.r1.way, .int .i64 p.r1.size, .int .i64 p.r2.way, .int .i64 p.r2.size, .int .i64 p.r3.way, .int .i64 p.r3.size, .int .i64 p.r4.way, .int .i64 p.r4.size, .int .i64 p.time, .int .i64 p.note, .bool p.loose, .bool p.force], .slice A h.length c] w0 (Ret w0 G (fun v _ => v = .bool true)) := by
  refine enter Try.func3 rfl Try.ntmps3 rfl ?_
  intro Q hQ a HE
  have HS := St.start0 hG
  refine wp_seq_k (fun K hK => ?_); refine wp_region_lit ?_
  refine o_boxL [(0, _), (1, _), (2, _), (3, _), (4, _), (5, _), (6, _), (7, _), (8, _), (9, _), (10, _), (11, _), (12, _), (13, _)] HE rfl HS rfl ⟨rfl, rfl, rfl, rfl, rfl, rfl, rfl, rfl, rfl, rfl, rfl, rfl, rfl, rfl, trivial⟩ ?_; clear HE HS; intro B2 w a HS HE
  refine o_assign HE rfl rfl ?_; clear HE; intro a HE
  refine hK _ _ ?_; clear hK K
  refine wp_seq_k (fun K3 hK2 => ?_)
  refine wp_seq_k (fun K hK => ?_); refine wp_region_lit ?_
  refine o_callP HE rfl HS rfl rfl T.g7 (c_wakes _ _ HS.sub) ?_
  clear HE HS; rintro _ w a HS rfl HE
  refine o_not HE rfl rfl ?_; clear HE; intro a HE
  refine hK _ _ ?_; clear hK K
  refine cond HE rfl (fun h5 => ?_) (fun h5 => ?_)
  · have h5r := h5; try simp only [Bool.not_eq_true', Bool.not_eq_false', Bool.and_eq_true, Bool.or_eq_true, Bool.or_eq_false_iff, Bool.and_eq_false_iff, decide_eq_true_eq, decide_eq_false_iff_not, beq_iff_eq, beq_eq_false_iff_ne] at h5
    refine wp_seq_k (fun K hK => ?_); refine wp_region_lit ?_
    refine o_assign HE rfl rfl ?_; clear HE; intro a HE
    refine hK _ _ ?_; clear hK K
    refine wp_ret ?_
    show Q .ret _ _
    refine ret hQ HE rfl (HE.res rfl .nil) ⟨_, _, HS.stop (List.nil_sublist _), rfl, ?_⟩
    exact absurd h5r (by decide)
  · have h5r := h5; try simp only [Bool.not_eq_true', Bool.not_eq_false', Bool.and_eq_true, Bool.or_eq_true, Bool.or_eq_false_iff, Bool.and_eq_false_iff, decide_eq_true_eq, decide_eq_false_iff_not, beq_iff_eq, beq_eq_false_iff_ne] at h5
    refine wp_skip ?_
    refine hK2 _ _ ?_; clear hK2
    refine wp_seq_k (fun K8 hK7 => ?_)
    replace HE := HE.cut (L' := [(0, .agg #[.int .i64 p.r0.way, .int .i64 p.r0.size, .int .i64 p.r1.way, .int .i64 p.r1.size, .int .i64 p.r2.way, .int .i64 p.r2.size, .int .i64 p.r3.way, .int .i64 p.r3.size, .int .i64 p.r4.way, .int .i64 p.r4.size, .int .i64 p.time, .int .i64 p.note, .bool p.loose, .bool p.force]), (1, .slice A h.length c), (2, .pointer (some ⟨B2, 0, none⟩)), (5, .bool true), (6, .bool (!true))]) ⟨rfl, rfl, rfl, rfl, rfl, trivial⟩
    refine drawnP [fun v => v = .slice A h.length c, fun v => v = .int .i64 (h.length : Int), fun v => v = .bool (decide (200 < (h.length : Int))), fun v => v = .bool (decide (200 < (h.length : Int))), fun v => (decide (200 < (h.length : Int))) = false → v = .agg #[.int .i64 p.r0.way, .int .i64 p.r0.size, .int .i64 p.r1.way, .int .i64 p.r1.size, .int .i64 p.r2.way, .int .i64 p.r2.size, .int .i64 p.r3.way, .int .i64 p.r3.size, .int .i64 p.r4.way, .int .i64 p.r4.size, .int .i64 p.time, .int .i64 p.note, .bool p.loose, .bool p.force], fun v => (decide (200 < (h.length : Int))) = false → v = .slice A h.length c, fun v => (decide (200 < (h.length : Int))) = false → v = .bool (admitsB p h), fun v => (decide (200 < (h.length : Int))) = false → v = .agg #[.int .i64 p.r0.way, .int .i64 p.r0.size, .int .i64 p.r1.way, .int .i64 p.r1.size, .int .i64 p.r2.way, .int .i64 p.r2.size, .int .i64 p.r3.way, .int .i64 p.r3.size, .int .i64 p.r4.way, .int .i64 p.r4.size, .int .i64 p.time, .int .i64 p.note, .bool p.loose, .bool p.force], fun v => (decide (200 < (h.length : Int))) = false → v = .slice A h.length c, fun v => (decide (200 < (h.length : Int))) = false → v = .bool (admitsB p h), fun v => (decide (200 < (h.length : Int))) = false → v = .bool ((admitsB p h) == (admitsB p h)), fun v => v = .bool ((decide (200 < (h.length : Int))) || ((admitsB p h) == (admitsB p h))), fun v => v = .bool ((decide (200 < (h.length : Int))) || ((admitsB p h) == (admitsB p h)))] T.mix rfl HE HS rfl ⟨?_, ?_, ?_, ?_, ?_, ?_, ?_, ?_, ?_, ?_, ?_, ?_, ?_, trivial⟩ ?_
    · intro a w G1 hl HS HE hp
      refine o_move HE rfl rfl ?_; clear HE; intro a HE
      exact ⟨_, _, HS, rfl, HE.get _ _ rfl, HE.defers, rfl⟩
    · intro a w G1 hl HS HE hp
      obtain ⟨_, e0, rfl⟩ := hp 0 7 _ rfl rfl rfl; replace HE := HE.add e0
      refine o_lenL HE rfl rfl Try.underlying27 ?_; clear HE; intro a HE
      exact ⟨_, _, HS, rfl, HE.get _ _ rfl, HE.defers, rfl⟩
    · intro a w G1 hl HS HE hp
      obtain ⟨_, e1, rfl⟩ := hp 1 8 _ rfl rfl rfl; replace HE := HE.add e1
      refine o_gtr HE rfl rfl rfl ?_; clear HE; intro a HE
      exact ⟨_, _, HS, rfl, HE.get _ _ rfl, HE.defers, rfl⟩
    · intro a w G1 hl HS HE hp
      obtain ⟨_, e2, rfl⟩ := hp 2 9 _ rfl rfl rfl; replace HE := HE.add e2
      refine o_move HE rfl rfl ?_; clear HE; intro a HE
      exact ⟨_, _, HS, rfl, HE.get _ _ rfl, HE.defers, rfl⟩
    · intro a w G1 hl HS HE hp
      obtain ⟨_, eg, rfl⟩ := hp 3 10 _ rfl rfl rfl; replace HE := HE.add eg
      refine (Bool.eq_false_or_eq_true (decide (200 < (h.length : Int)))).elim (fun hb => ?_) (fun hb => ?_)
      · skip
        refine g_off HE rfl rfl rfl hb ?_; clear HE; intro a HE
        exact ⟨_, _, HS, rfl, HE.get _ _ rfl, HE.defers, fun h => absurd (hb.symm.trans h) (by decide)⟩
      · skip
        refine op_on HE rfl rfl hb ?_
        refine o_ldA HE rfl HS rfl T.a26 (.here .here) rfl ?_; clear HE; intro a HE
        exact ⟨_, _, HS, rfl, HE.get _ _ rfl, HE.defers, fun _ => rfl⟩
    · intro a w G1 hl HS HE hp
      obtain ⟨_, eg, rfl⟩ := hp 3 10 _ rfl rfl rfl; replace HE := HE.add eg
      refine (Bool.eq_false_or_eq_true (decide (200 < (h.length : Int)))).elim (fun hb => ?_) (fun hb => ?_)
      · skip
        refine g_off HE rfl rfl rfl hb ?_; clear HE; intro a HE
        exact ⟨_, _, HS, rfl, HE.get _ _ rfl, HE.defers, fun h => absurd (hb.symm.trans h) (by decide)⟩
      · skip
        refine op_on HE rfl rfl hb ?_
        refine o_move HE rfl rfl ?_; clear HE; intro a HE
        exact ⟨_, _, HS, rfl, HE.get _ _ rfl, HE.defers, fun _ => rfl⟩
    · intro a w G1 hl HS HE hp
      obtain ⟨_, eg, rfl⟩ := hp 3 10 _ rfl rfl rfl; replace HE := HE.add eg
      refine (Bool.eq_false_or_eq_true (decide (200 < (h.length : Int)))).elim (fun hb => ?_) (fun hb => ?_)
      · skip
        refine g_off HE rfl rfl rfl hb ?_; clear HE; intro a HE
        exact ⟨_, _, HS, rfl, HE.get _ _ rfl, HE.defers, fun h => absurd (hb.symm.trans h) (by decide)⟩
      · skip
        obtain ⟨_, e4, h4v⟩ := hp 4 11 _ rfl rfl rfl; cases h4v hb; replace HE := HE.add e4
        obtain ⟨_, e5, h5v⟩ := hp 5 12 _ rfl rfl rfl; cases h5v hb; replace HE := HE.add e5
        refine op_on HE rfl rfl hb ?_
        refine o_callP HE rfl HS rfl rfl T.g8 (c_admits p h _ _ _ _ HS.sub (hR.le hl) (by first | omega | (simp; done) | (simp; omega))) ?_
        clear HE HS; rintro _ w a HS rfl HE
        exact ⟨_, _, HS, rfl, HE.get _ _ rfl, HE.defers, fun _ => rfl⟩
    · intro a w G1 hl HS HE hp
      obtain ⟨_, eg, rfl⟩ := hp 3 10 _ rfl rfl rfl; replace HE := HE.add eg
      refine (Bool.eq_false_or_eq_true (decide (200 < (h.length : Int)))).elim (fun hb => ?_) (fun hb => ?_)
      · skip
        refine g_off HE rfl rfl rfl hb ?_; clear HE; intro a HE
        exact ⟨_, _, HS, rfl, HE.get _ _ rfl, HE.defers, fun h => absurd (hb.symm.trans h) (by decide)⟩
      · skip
        refine op_on HE rfl rfl hb ?_
        refine o_ldA HE rfl HS rfl T.a26 (.here .here) rfl ?_; clear HE; intro a HE
        exact ⟨_, _, HS, rfl, HE.get _ _ rfl, HE.defers, fun _ => rfl⟩
    · intro a w G1 hl HS HE hp
      obtain ⟨_, eg, rfl⟩ := hp 3 10 _ rfl rfl rfl; replace HE := HE.add eg
      refine (Bool.eq_false_or_eq_true (decide (200 < (h.length : Int)))).elim (fun hb => ?_) (fun hb => ?_)
      · skip
        refine g_off HE rfl rfl rfl hb ?_; clear HE; intro a HE
        exact ⟨_, _, HS, rfl, HE.get _ _ rfl, HE.defers, fun h => absurd (hb.symm.trans h) (by decide)⟩
      · skip
        refine op_on HE rfl rfl hb ?_
        refine o_move HE rfl rfl ?_; clear HE; intro a HE
        exact ⟨_, _, HS, rfl, HE.get _ _ rfl, HE.defers, fun _ => rfl⟩
    · intro a w G1 hl HS HE hp
      obtain ⟨_, eg, rfl⟩ := hp 3 10 _ rfl rfl rfl; replace HE := HE.add eg
      refine (Bool.eq_false_or_eq_true (decide (200 < (h.length : Int)))).elim (fun hb => ?_) (fun hb => ?_)
      · skip
        refine g_off HE rfl rfl rfl hb ?_; clear HE; intro a HE
        exact ⟨_, _, HS, rfl, HE.get _ _ rfl, HE.defers, fun h => absurd (hb.symm.trans h) (by decide)⟩
      · skip
        obtain ⟨_, e7, h7v⟩ := hp 7 14 _ rfl rfl rfl; cases h7v hb; replace HE := HE.add e7
        obtain ⟨_, e8, h8v⟩ := hp 8 15 _ rfl rfl rfl; cases h8v hb; replace HE := HE.add e8
        refine op_on HE rfl rfl hb ?_
        refine o_callP HE rfl HS rfl rfl T.g9 (c_Admits p h _ _ _ _ HS.sub (hR.le hl) (by first | omega | (simp; done) | (simp; omega))) ?_
        clear HE HS; rintro _ w a HS rfl HE
        exact ⟨_, _, HS, rfl, HE.get _ _ rfl, HE.defers, fun _ => rfl⟩
    · intro a w G1 hl HS HE hp
      obtain ⟨_, eg, rfl⟩ := hp 3 10 _ rfl rfl rfl; replace HE := HE.add eg
      refine (Bool.eq_false_or_eq_true (decide (200 < (h.length : Int)))).elim (fun hb => ?_) (fun hb => ?_)
      · skip
        refine g_off HE rfl rfl rfl hb ?_; clear HE; intro a HE
        exact ⟨_, _, HS, rfl, HE.get _ _ rfl, HE.defers, fun h => absurd (hb.symm.trans h) (by decide)⟩
      · skip
        obtain ⟨_, e6, h6v⟩ := hp 6 13 _ rfl rfl rfl; cases h6v hb; replace HE := HE.add e6
        obtain ⟨_, e9, h9v⟩ := hp 9 16 _ rfl rfl rfl; cases h9v hb; replace HE := HE.add e9
        refine op_on HE rfl rfl hb ?_
        refine o_eqB HE rfl rfl rfl Try.underlying4 ?_; clear HE; intro a HE
        exact ⟨_, _, HS, rfl, HE.get _ _ rfl, HE.defers, fun _ => rfl⟩
    · intro a w G1 hl HS HE hp
      obtain ⟨_, e3, rfl⟩ := hp 3 10 _ rfl rfl rfl; replace HE := HE.add e3
      refine (Bool.eq_false_or_eq_true (decide (200 < (h.length : Int)))).elim (fun hb => ?_) (fun hb => ?_)
      · skip
        refine o_pick_t HE rfl rfl hb rfl ?_; clear HE; intro a HE
        exact ⟨_, _, HS, rfl, HE.get _ _ rfl, HE.defers, by rw [hb]; rfl⟩
      · skip
        obtain ⟨_, e10, h10v⟩ := hp 10 17 _ rfl rfl rfl; cases h10v hb; replace HE := HE.add e10
        refine o_pick_f HE rfl rfl hb rfl ?_; clear HE; intro a HE
        exact ⟨_, _, HS, rfl, HE.get _ _ rfl, HE.defers, by rw [hb]; rfl⟩
    · intro a w G1 hl HS HE hp
      obtain ⟨_, e11, rfl⟩ := hp 11 18 _ rfl rfl rfl; replace HE := HE.add e11
      refine o_assign HE rfl rfl ?_; clear HE; intro a HE
      exact ⟨_, _, HS, rfl, HE.get _ _ rfl, HE.defers, rfl⟩
    clear HE HS; intro a w HS HE hp
    obtain ⟨_, e12, rfl⟩ := hp 12 4 _ rfl rfl; replace HE := HE.add e12
    clear hp
    refine hK7 _ _ ?_; clear hK7
    refine wp_ret ?_
    show Q .ret _ _
    refine ret hQ HE rfl (HE.res rfl .nil) ⟨_, _, HS.stop (List.nil_sublist _), rfl, ?_⟩
    show _ = _
    simp [packed]

/-! `incognito/incognitolaw26.AdmitMore` -/
set_option maxRecDepth 100000 in
set_option maxHeartbeats 4000000 in
theorem law_AdmitMore (p : Pol) (xa : List Evt) (Aa : Option Addr) (ca : Nat) (xb : List Evt) (Ab : Option Addr) (cb : Nat) (w0 : World) (G : Heap) (hG : Sub G w0) (hRxa : Rd kEvt G Aa xa) (hlxa : xa.length ≤ 9223372036854775807) (hRxb : Rd kEvt G Ab xb) (hlxb : xb.length ≤ 9223372036854775807):
    Calls Try.prog 4 #[.agg #[.int .i64 p.r0.way, .int .i64 p.r0.size, .int .i64 p.r1.way, .int .i64 p.r1.size, .int .i64 p.r2.way, .int .i64 p.r2.size, .int .i64 p.r3.way, .int .i64 p.r3.size, .int .i64 p.r4.way, .int .i64 p.r4.size, .int .i64 p.time, .int .i64 p.note, .bool p.loose, .bool p.force], .slice Aa xa.length ca, .slice Ab xb.length cb] w0 (Ret w0 G (fun v _ => v = .bool true)) := by
  refine enter Try.func4 rfl Try.ntmps4 rfl ?_
  intro Q hQ a HE
  have HS := St.start0 hG
  refine wp_seq_k (fun K hK => ?_); refine wp_region_lit ?_
  refine o_boxL [(0, _), (1, _), (2, _), (3, _), (4, _), (5, _), (6, _), (7, _), (8, _), (9, _), (10, _), (11, _), (12, _), (13, _)] HE rfl HS rfl ⟨rfl, rfl, rfl, rfl, rfl, rfl, rfl, rfl, rfl, rfl, rfl, rfl, rfl, rfl, trivial⟩ ?_; clear HE HS; intro B3 w a HS HE
  refine o_assign HE rfl rfl ?_; clear HE; intro a HE
  refine hK _ _ ?_; clear hK K
  refine wp_seq_k (fun K3 hK2 => ?_)
  refine wp_seq_k (fun K hK => ?_); refine wp_region_lit ?_
  refine o_callP HE rfl HS rfl rfl T.g7 (c_wakes _ _ HS.sub) ?_
  clear HE HS; rintro _ w a HS rfl HE
  refine o_not HE rfl rfl ?_; clear HE; intro a HE
  refine hK _ _ ?_; clear hK K
  refine cond HE rfl (fun h5 => ?_) (fun h5 => ?_)
  · have h5r := h5; try simp only [Bool.not_eq_true', Bool.not_eq_false', Bool.and_eq_true, Bool.or_eq_true, Bool.or_eq_false_iff, Bool.and_eq_false_iff, decide_eq_true_eq, decide_eq_false_iff_not, beq_iff_eq, beq_eq_false_iff_ne] at h5
    refine wp_seq_k (fun K hK => ?_); refine wp_region_lit ?_
    refine o_assign HE rfl rfl ?_; clear HE; intro a HE
    refine hK _ _ ?_; clear hK K
    refine wp_ret ?_
    show Q .ret _ _
    refine ret hQ HE rfl (HE.res rfl .nil) ⟨_, _, HS.stop (List.nil_sublist _), rfl, ?_⟩
    exact absurd h5r (by decide)
  · have h5r := h5; try simp only [Bool.not_eq_true', Bool.not_eq_false', Bool.and_eq_true, Bool.or_eq_true, Bool.or_eq_false_iff, Bool.and_eq_false_iff, decide_eq_true_eq, decide_eq_false_iff_not, beq_iff_eq, beq_eq_false_iff_ne] at h5
    refine wp_skip ?_
    refine hK2 _ _ ?_; clear hK2
    refine wp_seq_k (fun K8 hK7 => ?_)
    refine wp_seq_k (fun K hK => ?_); refine wp_region_lit ?_
    refine o_move HE rfl rfl ?_; clear HE; intro a HE
    refine o_lenL HE rfl rfl Try.underlying27 ?_; clear HE; intro a HE
    refine o_gtr HE rfl rfl rfl ?_; clear HE; intro a HE
    refine o_move HE rfl rfl ?_; clear HE; intro a HE
    refine cutL 4 (fun a' w' => w = w' ∧ Env a' 35 [] [(17, .bool ((decide (200 < (xa.length : Int))) || (decide (200 < (xb.length : Int))))), (0, .agg #[.int .i64 p.r0.way, .int .i64 p.r0.size, .int .i64 p.r1.way, .int .i64 p.r1.size, .int .i64 p.r2.way, .int .i64 p.r2.size, .int .i64 p.r3.way, .int .i64 p.r3.size, .int .i64 p.r4.way, .int .i64 p.r4.size, .int .i64 p.time, .int .i64 p.note, .bool p.loose, .bool p.force]), (1, .slice Aa xa.length ca), (2, .slice Ab xb.length cb), (3, .pointer (some ⟨B3, 0, none⟩)), (6, .bool false), (8, .bool true), (9, .bool (!true))]) ?_ ?_
    · refine (Bool.eq_false_or_eq_true (decide (200 < (xa.length : Int)))).elim (fun hb9 => ?_) (fun hb9 => ?_)
      · skip
        have hk10 := hb9; try simp only [Bool.not_eq_true', Bool.not_eq_false', Bool.and_eq_true, Bool.or_eq_true, Bool.or_eq_false_iff, decide_eq_true_eq, decide_eq_false_iff_not] at hk10
        refine g_off HE rfl rfl rfl hb9 ?_; clear HE; intro a HE
        refine g_off HE rfl rfl rfl hb9 ?_; clear HE; intro a HE
        refine g_off HE rfl rfl rfl hb9 ?_; clear HE; intro a HE
        refine o_pick_t HE rfl rfl hb9 rfl ?_; clear HE; intro a HE
        exact ⟨rfl, HE.cut ⟨by rw [hb9]; rfl, rfl, rfl, rfl, rfl, rfl, rfl, rfl, trivial⟩⟩
      · skip
        have hk11 := hb9; try simp only [Bool.not_eq_true', Bool.not_eq_false', Bool.and_eq_true, Bool.or_eq_true, Bool.or_eq_false_iff, decide_eq_true_eq, decide_eq_false_iff_not] at hk11
        refine op_on HE rfl rfl hb9 ?_
        refine o_move HE rfl rfl ?_; clear HE; intro a HE
        refine op_on HE rfl rfl hb9 ?_
        refine o_lenL HE rfl rfl Try.underlying27 ?_; clear HE; intro a HE
        refine op_on HE rfl rfl hb9 ?_
        refine o_gtr HE rfl rfl rfl ?_; clear HE; intro a HE
        refine o_pick_f HE rfl rfl hb9 rfl ?_; clear HE; intro a HE
        exact ⟨rfl, HE.cut ⟨by rw [hb9]; rfl, rfl, rfl, rfl, rfl, rfl, rfl, rfl, trivial⟩⟩
    clear HE; rintro a _ ⟨rfl, HE⟩
    refine hK _ _ ?_; clear hK K
    refine cond HE rfl (fun h13 => ?_) (fun h13 => ?_)
    · have h13r := h13; try simp only [Bool.not_eq_true', Bool.not_eq_false', Bool.and_eq_true, Bool.or_eq_true, Bool.or_eq_false_iff, Bool.and_eq_false_iff, decide_eq_true_eq, decide_eq_false_iff_not, beq_iff_eq, beq_eq_false_iff_ne] at h13
      refine wp_seq_k (fun K hK => ?_); refine wp_region_lit ?_
      refine o_assign HE rfl rfl ?_; clear HE; intro a HE
      refine hK _ _ ?_; clear hK K
      refine wp_ret ?_
      show Q .ret _ _
      refine ret hQ HE rfl (HE.res rfl .nil) ⟨_, _, HS.stop (List.nil_sublist _), rfl, ?_⟩
      show _ = _
      rfl
    · have h13r := h13; try simp only [Bool.not_eq_true', Bool.not_eq_false', Bool.and_eq_true, Bool.or_eq_true, Bool.or_eq_false_iff, Bool.and_eq_false_iff, decide_eq_true_eq, decide_eq_false_iff_not, beq_iff_eq, beq_eq_false_iff_ne] at h13
      refine wp_skip ?_
      refine hK7 _ _ ?_; clear hK7
      refine wp_seq_k (fun K hK => ?_); refine wp_region_lit ?_
      refine o_buildNil (K := kEvt) HE rfl HS T.p27 ?_; clear HE HS; intro oA15 oc15 oC15 w a HS oH15 HE
      refine o_move HE rfl rfl ?_; clear HE; intro a HE
      refine o_append (K := kEvt) HE rfl HS .here oH15 rfl rfl T.p27 hRxa kEvt_one (by simp; omega) (by simp; omega) ?_
      clear HE HS; intro oA16 oc16 oC16 w a HS oH16 HE
      refine o_move HE rfl rfl ?_; clear HE; intro a HE
      refine o_append (K := kEvt) HE rfl HS .here oH16 rfl rfl T.p27 hRxb kEvt_one (by simp; omega) (by simp; omega) ?_
      clear HE HS; intro oA17 oc17 oC17 w a HS oH17 HE
      refine o_assign HE rfl rfl ?_; clear HE; intro a HE
      refine hK _ _ ?_; clear hK K
      refine wp_seq_k (fun K20 hK19 => ?_)
      have hcphR22 := oH17.cap
      obtain ⟨G21, hle23, HS', hR22⟩ := Own.still HS .here oH17; clear HS; have HS := HS'; clear HS'
      replace hRxa := hRxa.le hle23
      replace hRxb := hRxb.le hle23
      replace HE := HE.cut (L' := [(0, .agg #[.int .i64 p.r0.way, .int .i64 p.r0.size, .int .i64 p.r1.way, .int .i64 p.r1.size, .int .i64 p.r2.way, .int .i64 p.r2.size, .int .i64 p.r3.way, .int .i64 p.r3.size, .int .i64 p.r4.way, .int .i64 p.r4.size, .int .i64 p.time, .int .i64 p.note, .bool p.loose, .bool p.force]), (1, .slice Aa xa.length ca), (2, .slice Ab xb.length cb), (3, .pointer (some ⟨B3, 0, none⟩)), (7, .slice oA17 (((([] : List Evt) ++ xa) ++ xb).length) oc17), (8, .bool true), (9, .bool (!true)), (17, .bool ((decide (200 < (xa.length : Int))) || (decide (200 < (xb.length : Int))))), (19, .slice Aa xa.length ca), (21, .slice Ab xb.length cb), (22, .slice oA17 (((([] : List Evt) ++ xa) ++ xb).length) oc17)]) ⟨rfl, rfl, rfl, rfl, rfl, rfl, rfl, rfl, rfl, rfl, rfl, trivial⟩
      refine drawnP [fun v => v = .agg #[.int .i64 p.r0.way, .int .i64 p.r0.size, .int .i64 p.r1.way, .int .i64 p.r1.size, .int .i64 p.r2.way, .int .i64 p.r2.size, .int .i64 p.r3.way, .int .i64 p.r3.size, .int .i64 p.r4.way, .int .i64 p.r4.size, .int .i64 p.time, .int .i64 p.note, .bool p.loose, .bool p.force], fun v => v = .slice oA17 (((([] : List Evt) ++ xa) ++ xb).length) oc17, fun v => v = .bool (admitsB p ((([] : List Evt) ++ xa) ++ xb)), fun v => v = .agg #[.int .i64 p.r0.way, .int .i64 p.r0.size, .int .i64 p.r1.way, .int .i64 p.r1.size, .int .i64 p.r2.way, .int .i64 p.r2.size, .int .i64 p.r3.way, .int .i64 p.r3.size, .int .i64 p.r4.way, .int .i64 p.r4.size, .int .i64 p.time, .int .i64 p.note, .bool p.loose, .bool p.force], fun v => v = .slice Aa xa.length ca, fun v => v = .bool (admitsB p xa), fun v => v = .bool (admitsB p xa), fun v => (admitsB p xa) = true → v = .agg #[.int .i64 p.r0.way, .int .i64 p.r0.size, .int .i64 p.r1.way, .int .i64 p.r1.size, .int .i64 p.r2.way, .int .i64 p.r2.size, .int .i64 p.r3.way, .int .i64 p.r3.size, .int .i64 p.r4.way, .int .i64 p.r4.size, .int .i64 p.time, .int .i64 p.note, .bool p.loose, .bool p.force], fun v => (admitsB p xa) = true → v = .slice Ab xb.length cb, fun v => (admitsB p xa) = true → v = .bool (admitsB p xb), fun v => v = .bool ((admitsB p xa) && (admitsB p xb)), fun v => v = .bool ((admitsB p ((([] : List Evt) ++ xa) ++ xb)) == ((admitsB p xa) && (admitsB p xb))), fun v => v = .bool ((admitsB p ((([] : List Evt) ++ xa) ++ xb)) == ((admitsB p xa) && (admitsB p xb)))] T.mix rfl HE HS rfl ⟨?_, ?_, ?_, ?_, ?_, ?_, ?_, ?_, ?_, ?_, ?_, ?_, ?_, trivial⟩ ?_
      · intro a w G1 hl HS HE hp
        refine o_ldA HE rfl HS rfl T.a26 (.here .here) rfl ?_; clear HE; intro a HE
        exact ⟨_, _, HS, rfl, HE.get _ _ rfl, HE.defers, rfl⟩
      · intro a w G1 hl HS HE hp
        refine o_move HE rfl rfl ?_; clear HE; intro a HE
        exact ⟨_, _, HS, rfl, HE.get _ _ rfl, HE.defers, rfl⟩
      · intro a w G1 hl HS HE hp
        obtain ⟨_, e0, rfl⟩ := hp 0 23 _ rfl rfl rfl; replace HE := HE.add e0
        obtain ⟨_, e1, rfl⟩ := hp 1 24 _ rfl rfl rfl; replace HE := HE.add e1
        refine o_callP HE rfl HS rfl rfl T.g8 (c_admits p ((([] : List Evt) ++ xa) ++ xb) _ _ _ _ HS.sub (hR22.le hl) (by first | omega | (simp; done) | (simp; omega))) ?_
        clear HE HS; rintro _ w a HS rfl HE
        exact ⟨_, _, HS, rfl, HE.get _ _ rfl, HE.defers, rfl⟩
      · intro a w G1 hl HS HE hp
        refine o_ldA HE rfl HS rfl T.a26 (.here .here) rfl ?_; clear HE; intro a HE
        exact ⟨_, _, HS, rfl, HE.get _ _ rfl, HE.defers, rfl⟩
      · intro a w G1 hl HS HE hp
        refine o_move HE rfl rfl ?_; clear HE; intro a HE
        exact ⟨_, _, HS, rfl, HE.get _ _ rfl, HE.defers, rfl⟩
      · intro a w G1 hl HS HE hp
        obtain ⟨_, e3, rfl⟩ := hp 3 26 _ rfl rfl rfl; replace HE := HE.add e3
        obtain ⟨_, e4, rfl⟩ := hp 4 27 _ rfl rfl rfl; replace HE := HE.add e4
        refine o_callP HE rfl HS rfl rfl T.g8 (c_admits p xa _ _ _ _ HS.sub (hRxa.le hl) (by first | omega | (simp; done) | (simp; omega))) ?_
        clear HE HS; rintro _ w a HS rfl HE
        exact ⟨_, _, HS, rfl, HE.get _ _ rfl, HE.defers, rfl⟩
      · intro a w G1 hl HS HE hp
        obtain ⟨_, e5, rfl⟩ := hp 5 28 _ rfl rfl rfl; replace HE := HE.add e5
        refine o_move HE rfl rfl ?_; clear HE; intro a HE
        exact ⟨_, _, HS, rfl, HE.get _ _ rfl, HE.defers, rfl⟩
      · intro a w G1 hl HS HE hp
        obtain ⟨_, eg, rfl⟩ := hp 6 29 _ rfl rfl rfl; replace HE := HE.add eg
        refine (Bool.eq_false_or_eq_true (admitsB p xa)).elim (fun hb => ?_) (fun hb => ?_)
        · skip
          refine op_on HE rfl rfl hb ?_
          refine o_ldA HE rfl HS rfl T.a26 (.here .here) rfl ?_; clear HE; intro a HE
          exact ⟨_, _, HS, rfl, HE.get _ _ rfl, HE.defers, fun _ => rfl⟩
        · skip
          refine g_off HE rfl rfl rfl hb ?_; clear HE; intro a HE
          exact ⟨_, _, HS, rfl, HE.get _ _ rfl, HE.defers, fun h => absurd (hb.symm.trans h) (by decide)⟩
      · intro a w G1 hl HS HE hp
        obtain ⟨_, eg, rfl⟩ := hp 6 29 _ rfl rfl rfl; replace HE := HE.add eg
        refine (Bool.eq_false_or_eq_true (admitsB p xa)).elim (fun hb => ?_) (fun hb => ?_)
        · skip
          refine op_on HE rfl rfl hb ?_
          refine o_move HE rfl rfl ?_; clear HE; intro a HE
          exact ⟨_, _, HS, rfl, HE.get _ _ rfl, HE.defers, fun _ => rfl⟩
        · skip
          refine g_off HE rfl rfl rfl hb ?_; clear HE; intro a HE
          exact ⟨_, _, HS, rfl, HE.get _ _ rfl, HE.defers, fun h => absurd (hb.symm.trans h) (by decide)⟩
      · intro a w G1 hl HS HE hp
        obtain ⟨_, eg, rfl⟩ := hp 6 29 _ rfl rfl rfl; replace HE := HE.add eg
        refine (Bool.eq_false_or_eq_true (admitsB p xa)).elim (fun hb => ?_) (fun hb => ?_)
        · skip
          obtain ⟨_, e7, h7v⟩ := hp 7 30 _ rfl rfl rfl; cases h7v hb; replace HE := HE.add e7
          obtain ⟨_, e8, h8v⟩ := hp 8 31 _ rfl rfl rfl; cases h8v hb; replace HE := HE.add e8
          refine op_on HE rfl rfl hb ?_
          refine o_callP HE rfl HS rfl rfl T.g8 (c_admits p xb _ _ _ _ HS.sub (hRxb.le hl) (by first | omega | (simp; done) | (simp; omega))) ?_
          clear HE HS; rintro _ w a HS rfl HE
          exact ⟨_, _, HS, rfl, HE.get _ _ rfl, HE.defers, fun _ => rfl⟩
        · skip
          refine g_off HE rfl rfl rfl hb ?_; clear HE; intro a HE
          exact ⟨_, _, HS, rfl, HE.get _ _ rfl, HE.defers, fun h => absurd (hb.symm.trans h) (by decide)⟩
      · intro a w G1 hl HS HE hp
        obtain ⟨_, e6, rfl⟩ := hp 6 29 _ rfl rfl rfl; replace HE := HE.add e6
        refine (Bool.eq_false_or_eq_true (admitsB p xa)).elim (fun hb => ?_) (fun hb => ?_)
        · skip
          obtain ⟨_, e9, h9v⟩ := hp 9 32 _ rfl rfl rfl; cases h9v hb; replace HE := HE.add e9
          refine o_pick_t HE rfl rfl hb rfl ?_; clear HE; intro a HE
          exact ⟨_, _, HS, rfl, HE.get _ _ rfl, HE.defers, by rw [hb]; rfl⟩
        · skip
          refine o_pick_f HE rfl rfl hb rfl ?_; clear HE; intro a HE
          exact ⟨_, _, HS, rfl, HE.get _ _ rfl, HE.defers, by rw [hb]; rfl⟩
      · intro a w G1 hl HS HE hp
        obtain ⟨_, e2, rfl⟩ := hp 2 25 _ rfl rfl rfl; replace HE := HE.add e2
        obtain ⟨_, e10, rfl⟩ := hp 10 33 _ rfl rfl rfl; replace HE := HE.add e10
        refine o_eqB HE rfl rfl rfl Try.underlying4 ?_; clear HE; intro a HE
        exact ⟨_, _, HS, rfl, HE.get _ _ rfl, HE.defers, rfl⟩
      · intro a w G1 hl HS HE hp
        obtain ⟨_, e11, rfl⟩ := hp 11 34 _ rfl rfl rfl; replace HE := HE.add e11
        refine o_assign HE rfl rfl ?_; clear HE; intro a HE
        exact ⟨_, _, HS, rfl, HE.get _ _ rfl, HE.defers, rfl⟩
      clear HE HS; intro a w HS HE hp
      obtain ⟨_, e12, rfl⟩ := hp 12 6 _ rfl rfl; replace HE := HE.add e12
      clear hp
      refine hK19 _ _ ?_; clear hK19
      refine wp_ret ?_
      show Q .ret _ _
      refine ret hQ HE rfl (HE.res rfl .nil) ⟨_, _, HS.stop (List.nil_sublist _), rfl, ?_⟩
      show _ = _
      simp only [packed, Value.bool.injEq]
      simp only [admitsB, sortedB, hasM_append, List.nil_append]
      cases rightB p <;> cases hasM xa 9 <;> cases hasM xa 10 <;> cases hasM xb 9 <;> cases hasM xb 10 <;> simp

/-! `incognito/admit.Models` -/
set_option maxRecDepth 100000 in
set_option maxHeartbeats 4000000 in
theorem c_models (h : List Evt) (A : Option Addr) (c : Nat) (w0 : World) (G : Heap) (hG : Sub G w0) (hR : Rd kEvt G A h) (hl : h.length ≤ 9223372036854775807):
    Calls Try.prog 14 #[.slice A h.length c] w0 (Ret w0 G (fun v G' => SlV (Knd.int .i64) G' v (modelsUp h 11))) := by
  refine enter Try.func14 rfl Try.ntmps14 rfl ?_
  intro Q hQ a HE
  have HS := St.start0 hG
  refine wp_seq_k (fun K hK => ?_); refine wp_region_lit ?_
  refine o_assign HE rfl rfl ?_; clear HE; intro a HE
  refine hK _ _ ?_; clear hK K
  refine wp_seq_k (fun K hK => ?_); refine wp_region_lit ?_
  refine o_assign HE rfl rfl ?_; clear HE; intro a HE
  refine hK _ _ ?_; clear hK K
  refine wp_seq_k (fun K4 hK3 => ?_)
  refine wp_seq_k (fun K hK => ?_); refine wp_region_lit ?_
  refine o_move HE rfl rfl ?_; clear HE; intro a HE
  refine o_callP HE rfl HS rfl rfl T.g26 (c_all h _ _ _ _ HS.sub hR (by first | omega | (simp; done) | (simp; omega))) ?_
  clear HE HS; rintro _ w a HS rfl HE
  refine o_move HE rfl rfl ?_; clear HE; intro a HE
  refine hK _ _ ?_; clear hK K
  refine wp_block ?_
  replace HS := HS.nilChunk
  have oH7 : Own (Knd.int .i64) 3 G none 0 ([] : List Int) [] := Own.nil
  refine loop (fun (i : Nat) a' w' => ∃ (oA3_1 : Option Addr) (oc3_1 : Nat) (oC3_1 : Chunk), St w0 G [] G w' [oC3_1] ∧ Env a' 19 [] [(3, .slice oA3_1 ((modelsUp h i).length) oc3_1), (7, .agg (metL h).toArray), (8, .int .i64 (i : Int))] ∧ Own (Knd.int .i64) 3 G oA3_1 oc3_1 (modelsUp h i) oC3_1 ∧ (i ≤ 11)) (fun (i : Nat) => 11 - i) 0 ⟨_, _, _, HS, HE.cut ⟨rfl, rfl, rfl, trivial⟩, Own.nil (K := Knd.int .i64), by omega⟩ ?_
  clear HE HS; intro i a w ⟨oA3_1, oc3_1, oC3_1, HS, HE, oH3_1, hi⟩
  refine wp_seq_k (fun K hK => ?_); refine wp_region_lit ?_
  refine o_lss HE rfl rfl rfl ?_; clear HE; intro a HE
  refine hK _ _ ?_; clear hK K
  refine wp_seq_k (fun K11 hK10 => ?_)
  refine cond HE rfl (fun h12 => ?_) (fun h12 => ?_)
  · have h12r := h12; try simp only [Bool.not_eq_true', Bool.not_eq_false', Bool.and_eq_true, Bool.or_eq_true, Bool.or_eq_false_iff, Bool.and_eq_false_iff, decide_eq_true_eq, decide_eq_false_iff_not, beq_iff_eq, beq_eq_false_iff_ne] at h12
    refine wp_skip ?_
    refine hK10 _ _ ?_; clear hK10
    refine cutC (fun a' w' => ∃ (oA13 : Option Addr) (oc13 : Nat) (oC13 : Chunk), St w0 G [] G w' [oC13] ∧ Own (Knd.int .i64) 3 G oA13 oc13 (bif decide (1 ≤ i) && hasM h (i : Int) then (modelsUp h i) ++ [(i : Int)] else modelsUp h i) oC13 ∧ Env a' 19 [] [(3, .slice oA13 ((bif decide (1 ≤ i) && hasM h (i : Int) then (modelsUp h i) ++ [(i : Int)] else modelsUp h i).length) oc13), (7, .agg (metL h).toArray), (8, .int .i64 (i : Int)), (9, .bool (decide ((i : Int) < 11)))]) ?_ ?_
    · skip
      refine wp_block ?_
      refine wp_seq_k (fun K hK => ?_); refine wp_region_lit ?_
      refine o_move HE rfl rfl ?_; clear HE; intro a HE
      refine o_ixR HE rfl rfl rfl T.r58 Try.underlying58 (by omega) (metL_at (j := i) (by omega)) T.s4 ?_; clear HE; intro a HE
      refine o_assign HE rfl rfl ?_; clear HE; intro a HE
      refine o_assign HE rfl rfl ?_; clear HE; intro a HE
      refine hK _ _ ?_; clear hK K
      refine wp_seq_k (fun K hK => ?_); refine wp_region_lit ?_
      refine o_move HE rfl rfl ?_; clear HE; intro a HE
      refine hK _ _ ?_; clear hK K
      refine cond HE rfl (fun h16 => ?_) (fun h16 => ?_)
      · have h16r := h16; try simp only [Bool.not_eq_true', Bool.not_eq_false', Bool.and_eq_true, Bool.or_eq_true, Bool.or_eq_false_iff, Bool.and_eq_false_iff, decide_eq_true_eq, decide_eq_false_iff_not, beq_iff_eq, beq_eq_false_iff_ne] at h16
        refine wp_region_lit ?_
        refine o_move HE rfl rfl ?_; clear HE; intro a HE
        refine o_move HE rfl rfl ?_; clear HE; intro a HE
        refine o_buildSl (cs := #[.int .i64 (i : Int)]) [(0, _)] HE rfl HS rfl T.l39 (by kernel_rfl) ⟨rfl, trivial⟩ ?_; clear HE HS; intro B15 w a HS HE
        refine o_appendL (K := (Knd.int .i64)) (ys := [(i : Int)]) (n := 1) HE rfl HS (.there .here) oH3_1 rfl rfl T.p39 (.here .here) rfl ⟨rfl, rfl⟩ rfl rfl (by (have := modelsUp_len h i; simp; omega)) (by (have := modelsUp_len h i; simp; omega)) ?_
        clear HE HS; intro oA17 oc17 oC17 w a HS oH17 HE
        refine o_assign HE rfl rfl ?_; clear HE; intro a HE
        replace HS := HS.drop (M' := [_]) (sub_keep (sub_drop sub_nil))
        have hxs : ((modelsUp h i) ++ [(i : Int)]) = (bif decide (1 ≤ i) && hasM h (i : Int) then (modelsUp h i) ++ [(i : Int)] else modelsUp h i) := by first | rfl | (rw [h16r]; rfl) | (simp [h16r]; done)
        rw [hxs] at HE oH17; clear hxs
        exact ⟨_, _, _, HS, oH17, HE.cut ⟨rfl, rfl, rfl, rfl, trivial⟩⟩
      · have h16r := h16; try simp only [Bool.not_eq_true', Bool.not_eq_false', Bool.and_eq_true, Bool.or_eq_true, Bool.or_eq_false_iff, Bool.and_eq_false_iff, decide_eq_true_eq, decide_eq_false_iff_not, beq_iff_eq, beq_eq_false_iff_ne] at h16
        refine wp_skip ?_
        have hxs : (modelsUp h i) = (bif decide (1 ≤ i) && hasM h (i : Int) then (modelsUp h i) ++ [(i : Int)] else modelsUp h i) := by first | rfl | (rw [h16r]; rfl) | (simp [h16r]; done)
        rw [hxs] at HE oH3_1; clear hxs
        exact ⟨_, _, _, HS, oH3_1, HE.cut ⟨rfl, rfl, rfl, rfl, trivial⟩⟩
    clear HE HS; rintro a w ⟨oA13, oc13, oC13, HS, oH13, HE⟩
    refine wp_region_lit ?_
    refine o_add HE rfl rfl rfl (by omega) ?_; clear HE; intro a HE
    refine o_move HE rfl rfl ?_; clear HE; intro a HE
    have hxs : (bif decide (1 ≤ i) && hasM h (i : Int) then (modelsUp h i) ++ [(i : Int)] else modelsUp h i) = modelsUp h (i + 1) := modelsUp_step
    rw [hxs] at HE oH13; clear hxs
    exact ⟨i + 1, ⟨_, _, _, HS, HE.cut ⟨rfl, rfl, rfl, trivial⟩, oH13, by omega⟩, by omega⟩
  · have h12r := h12; try simp only [Bool.not_eq_true', Bool.not_eq_false', Bool.and_eq_true, Bool.or_eq_true, Bool.or_eq_false_iff, Bool.and_eq_false_iff, decide_eq_true_eq, decide_eq_false_iff_not, beq_iff_eq, beq_eq_false_iff_ne] at h12
    refine wp_exit ?_
    refine hK3 _ _ ?_; clear hK3
    refine wp_seq_k (fun K hK => ?_); refine wp_region_lit ?_
    refine o_move HE rfl rfl ?_; clear HE; intro a HE
    refine o_assign HE rfl rfl ?_; clear HE; intro a HE
    refine hK _ _ ?_; clear hK K
    refine wp_ret ?_
    have hcphR21 := oH3_1.cap
    obtain ⟨G20, hle22, HS', hR21⟩ := Own.still HS .here oH3_1; clear HS; have HS := HS'; clear HS'
    replace hR := hR.le hle22
    show Q .ret _ _
    refine ret hQ HE rfl (HE.res rfl .nil) ⟨_, _, HS.stop (List.nil_sublist _), rfl, ?_⟩
    have e : i = 11 := by omega
    subst e
    exact ⟨_, _, rfl, by assumption, by assumption⟩

/-! `incognito/incognitoref26.Models` -/
set_option maxRecDepth 100000 in
set_option maxHeartbeats 4000000 in
theorem c_Models (h : List Evt) (A : Option Addr) (c : Nat) (w0 : World) (G : Heap) (hG : Sub G w0) (hR : Rd kEvt G A h) (hl : h.length ≤ 9223372036854775807):
    Calls Try.prog 15 #[.slice A h.length c] w0 (Ret w0 G (fun v G' => SlV (Knd.int .i64) G' v (modelsUp h 11))) := by
  refine enter Try.func15 rfl Try.ntmps15 rfl ?_
  intro Q hQ a HE
  have HS := St.start0 hG
  refine wp_seq_k (fun K hK => ?_); refine wp_region_lit ?_
  refine o_assign HE rfl rfl ?_; clear HE; intro a HE
  refine hK _ _ ?_; clear hK K
  refine wp_seq_k (fun K hK => ?_); refine wp_region_lit ?_
  refine o_assign HE rfl rfl ?_; clear HE; intro a HE
  refine hK _ _ ?_; clear hK K
  refine wp_seq_k (fun K4 hK3 => ?_)
  refine wp_seq_k (fun K hK => ?_); refine wp_region_lit ?_
  refine o_assign HE rfl rfl ?_; clear HE; intro a HE
  refine hK _ _ ?_; clear hK K
  refine wp_block ?_
  replace HS := HS.nilChunk
  have oH7 : Own (Knd.int .i64) 3 G none 0 ([] : List Int) [] := Own.nil
  refine loop (fun (i : Nat) a' w' => ∃ (oA3_1 : Option Addr) (oc3_1 : Nat) (oC3_1 : Chunk), St w0 G [] G w' [oC3_1] ∧ Env a' 17 [] [(0, .slice A h.length c), (3, .slice oA3_1 ((modelsUp h i).length) oc3_1), (4, .int .i64 (i : Int))] ∧ Own (Knd.int .i64) 3 G oA3_1 oc3_1 (modelsUp h i) oC3_1 ∧ (1 ≤ i ∧ i ≤ 11)) (fun (i : Nat) => 11 - i) 1 ⟨_, _, _, HS, HE.cut ⟨rfl, rfl, rfl, trivial⟩, Own.nil (K := Knd.int .i64), ⟨by omega, by omega⟩⟩ ?_
  clear HE HS; intro i a w ⟨oA3_1, oc3_1, oC3_1, HS, HE, oH3_1, ⟨hi1, hi⟩⟩
  refine wp_seq_k (fun K10 hK9 => ?_)
  refine wp_seq_k (fun K hK => ?_); refine wp_region_lit ?_
  refine o_move HE rfl rfl ?_; clear HE; intro a HE
  refine o_leq HE rfl rfl rfl ?_; clear HE; intro a HE
  refine hK _ _ ?_; clear hK K
  refine cond HE rfl (fun h12 => ?_) (fun h12 => ?_)
  · have h12r := h12; try simp only [Bool.not_eq_true', Bool.not_eq_false', Bool.and_eq_true, Bool.or_eq_true, Bool.or_eq_false_iff, Bool.and_eq_false_iff, decide_eq_true_eq, decide_eq_false_iff_not, beq_iff_eq, beq_eq_false_iff_ne] at h12
    refine wp_skip ?_
    refine hK9 _ _ ?_; clear hK9
    refine cutC (fun a' w' => ∃ (oA13 : Option Addr) (oc13 : Nat) (oC13 : Chunk), St w0 G [] G w' [oC13] ∧ Own (Knd.int .i64) 3 G oA13 oc13 (bif hasM h (i : Int) then (modelsUp h i) ++ [(i : Int)] else modelsUp h i) oC13 ∧ Env a' 17 [] [(0, .slice A h.length c), (3, .slice oA13 ((bif hasM h (i : Int) then (modelsUp h i) ++ [(i : Int)] else modelsUp h i).length) oc13), (4, .int .i64 (i : Int)), (5, .int .i64 (i : Int)), (6, .bool (decide ((i : Int) ≤ 10)))]) ?_ ?_
    · skip
      refine wp_block ?_
      refine wp_seq_k (fun K hK => ?_); refine wp_region_lit ?_
      refine o_move HE rfl rfl ?_; clear HE; intro a HE
      refine o_move HE rfl rfl ?_; clear HE; intro a HE
      refine o_callP HE rfl HS rfl rfl T.g27 (c_has h _ _ (i : Int) _ _ HS.sub hR (by first | omega | (simp; done) | (simp; omega))) ?_
      clear HE HS; rintro _ w a HS rfl HE
      refine hK _ _ ?_; clear hK K
      refine cond HE rfl (fun h15 => ?_) (fun h15 => ?_)
      · have h15r := h15; try simp only [Bool.not_eq_true', Bool.not_eq_false', Bool.and_eq_true, Bool.or_eq_true, Bool.or_eq_false_iff, Bool.and_eq_false_iff, decide_eq_true_eq, decide_eq_false_iff_not, beq_iff_eq, beq_eq_false_iff_ne] at h15
        refine wp_region_lit ?_
        refine o_move HE rfl rfl ?_; clear HE; intro a HE
        refine o_move HE rfl rfl ?_; clear HE; intro a HE
        refine o_buildSl (cs := #[.int .i64 (i : Int)]) [(0, _)] HE rfl HS rfl T.l39 (by kernel_rfl) ⟨rfl, trivial⟩ ?_; clear HE HS; intro B14 w a HS HE
        refine o_appendL (K := (Knd.int .i64)) (ys := [(i : Int)]) (n := 1) HE rfl HS (.there .here) oH3_1 rfl rfl T.p39 (.here .here) rfl ⟨rfl, rfl⟩ rfl rfl (by (have := modelsUp_len h i; simp; omega)) (by (have := modelsUp_len h i; simp; omega)) ?_
        clear HE HS; intro oA16 oc16 oC16 w a HS oH16 HE
        refine o_assign HE rfl rfl ?_; clear HE; intro a HE
        replace HS := HS.drop (M' := [_]) (sub_keep (sub_drop sub_nil))
        have hxs : ((modelsUp h i) ++ [(i : Int)]) = (bif hasM h (i : Int) then (modelsUp h i) ++ [(i : Int)] else modelsUp h i) := by first | rfl | (rw [h15r]; rfl) | (simp [h15r]; done)
        rw [hxs] at HE oH16; clear hxs
        exact ⟨_, _, _, HS, oH16, HE.cut ⟨rfl, rfl, rfl, rfl, rfl, trivial⟩⟩
      · have h15r := h15; try simp only [Bool.not_eq_true', Bool.not_eq_false', Bool.and_eq_true, Bool.or_eq_true, Bool.or_eq_false_iff, Bool.and_eq_false_iff, decide_eq_true_eq, decide_eq_false_iff_not, beq_iff_eq, beq_eq_false_iff_ne] at h15
        refine wp_skip ?_
        have hxs : (modelsUp h i) = (bif hasM h (i : Int) then (modelsUp h i) ++ [(i : Int)] else modelsUp h i) := by first | rfl | (rw [h15r]; rfl) | (simp [h15r]; done)
        rw [hxs] at HE oH3_1; clear hxs
        exact ⟨_, _, _, HS, oH3_1, HE.cut ⟨rfl, rfl, rfl, rfl, rfl, trivial⟩⟩
    clear HE HS; rintro a w ⟨oA13, oc13, oC13, HS, oH13, HE⟩
    refine wp_region_lit ?_
    refine o_move HE rfl rfl ?_; clear HE; intro a HE
    refine o_add HE rfl rfl rfl (by omega) ?_; clear HE; intro a HE
    refine o_assign HE rfl rfl ?_; clear HE; intro a HE
    have hxs : (bif hasM h (i : Int) then (modelsUp h i) ++ [(i : Int)] else modelsUp h i) = modelsUp h (i + 1) := modelsUp_step1 hi1
    rw [hxs] at HE oH13; clear hxs
    exact ⟨i + 1, ⟨_, _, _, HS, HE.cut ⟨rfl, rfl, rfl, trivial⟩, oH13, ⟨by omega, by omega⟩⟩, by omega⟩
  · have h12r := h12; try simp only [Bool.not_eq_true', Bool.not_eq_false', Bool.and_eq_true, Bool.or_eq_true, Bool.or_eq_false_iff, Bool.and_eq_false_iff, decide_eq_true_eq, decide_eq_false_iff_not, beq_iff_eq, beq_eq_false_iff_ne] at h12
    refine wp_exit ?_
    refine hK3 _ _ ?_; clear hK3
    refine wp_seq_k (fun K hK => ?_); refine wp_region_lit ?_
    refine o_move HE rfl rfl ?_; clear HE; intro a HE
    refine o_assign HE rfl rfl ?_; clear HE; intro a HE
    refine hK _ _ ?_; clear hK K
    refine wp_ret ?_
    have hcphR20 := oH3_1.cap
    obtain ⟨G19, hle21, HS', hR20⟩ := Own.still HS .here oH3_1; clear HS; have HS := HS'; clear HS'
    replace hR := hR.le hle21
    show Q .ret _ _
    refine ret hQ HE rfl (HE.res rfl .nil) ⟨_, _, HS.stop (List.nil_sublist _), rfl, ?_⟩
    have e : i = 11 := by omega
    subst e
    exact ⟨_, _, rfl, by assumption, by assumption⟩

/-! `incognito/incognitoref09.Same` -/
set_option maxRecDepth 100000 in
set_option maxHeartbeats 4000000 in
theorem c_same (xa : List Int) (Aa : Option Addr) (ca : Nat) (xb : List Int) (Ab : Option Addr) (cb : Nat) (w0 : World) (G : Heap) (hG : Sub G w0) (hRxa : Rd (Knd.int .i64) G Aa xa) (hlxa : xa.length ≤ 9223372036854775807) (hRxb : Rd (Knd.int .i64) G Ab xb) (hlxb : xb.length ≤ 9223372036854775807):
    Calls Try.prog 13 #[.slice Aa xa.length ca, .slice Ab xb.length cb] w0 (Ret w0 G (fun v _ => v = .bool (decide (xa = xb)))) := by
  refine enter Try.func13 rfl Try.ntmps13 rfl ?_
  intro Q hQ a HE
  have HS := St.start0 hG
  refine wp_seq_k (fun K hK => ?_); refine wp_region_lit ?_
  refine o_assign HE rfl rfl ?_; clear HE; intro a HE
  refine hK _ _ ?_; clear hK K
  refine wp_seq_k (fun K3 hK2 => ?_)
  refine wp_seq_k (fun K hK => ?_); refine wp_region_lit ?_
  refine o_move HE rfl rfl ?_; clear HE; intro a HE
  refine o_lenL HE rfl rfl Try.underlying39 ?_; clear HE; intro a HE
  refine o_move HE rfl rfl ?_; clear HE; intro a HE
  refine o_lenL HE rfl rfl Try.underlying39 ?_; clear HE; intro a HE
  refine o_neI HE rfl rfl rfl ?_; clear HE; intro a HE
  refine hK _ _ ?_; clear hK K
  refine cond HE rfl (fun h5 => ?_) (fun h5 => ?_)
  · have h5r := h5; try simp only [Bool.not_eq_true', Bool.not_eq_false', Bool.and_eq_true, Bool.or_eq_true, Bool.or_eq_false_iff, Bool.and_eq_false_iff, decide_eq_true_eq, decide_eq_false_iff_not, beq_iff_eq, beq_eq_false_iff_ne] at h5
    refine wp_seq_k (fun K hK => ?_); refine wp_region_lit ?_
    refine o_assign HE rfl rfl ?_; clear HE; intro a HE
    refine hK _ _ ?_; clear hK K
    refine wp_ret ?_
    show Q .ret _ _
    refine ret hQ HE rfl (HE.res rfl .nil) ⟨_, _, HS.stop (List.nil_sublist _), rfl, ?_⟩
    show _ = _
    simp only [packed, Value.bool.injEq]
    exact (decide_eq_false fun e => by subst e; omega).symm
  · have h5r := h5; try simp only [Bool.not_eq_true', Bool.not_eq_false', Bool.and_eq_true, Bool.or_eq_true, Bool.or_eq_false_iff, Bool.and_eq_false_iff, decide_eq_true_eq, decide_eq_false_iff_not, beq_iff_eq, beq_eq_false_iff_ne] at h5
    refine wp_skip ?_
    refine hK2 _ _ ?_; clear hK2
    refine wp_seq_k (fun K8 hK7 => ?_)
    refine wp_seq_k (fun K hK => ?_); refine wp_region_lit ?_
    refine o_assign HE rfl rfl ?_; clear HE; intro a HE
    refine hK _ _ ?_; clear hK K
    refine wp_block ?_
    refine loop (fun (i : Nat) a' w' => St w0 G [] G w' [] ∧ Env a' 26 [] [(0, .slice Aa xa.length ca), (1, .slice Ab xb.length cb), (4, .bool false), (5, .int .i64 (i : Int))] ∧ (i ≤ xa.length ∧ xa.take i = xb.take i)) (fun (i : Nat) => xa.length - i) 0 ⟨HS, HE.cut ⟨rfl, rfl, rfl, rfl, trivial⟩, ⟨Nat.zero_le _, rfl⟩⟩ ?_
    clear HE HS; intro i a w ⟨HS, HE, ⟨hi, ht⟩⟩
    refine wp_seq_k (fun K12 hK11 => ?_)
    refine wp_seq_k (fun K hK => ?_); refine wp_region_lit ?_
    refine o_move HE rfl rfl ?_; clear HE; intro a HE
    refine o_move HE rfl rfl ?_; clear HE; intro a HE
    refine o_lenL HE rfl rfl Try.underlying39 ?_; clear HE; intro a HE
    refine o_lss HE rfl rfl rfl ?_; clear HE; intro a HE
    refine hK _ _ ?_; clear hK K
    refine cond HE rfl (fun h14 => ?_) (fun h14 => ?_)
    · have h14r := h14; try simp only [Bool.not_eq_true', Bool.not_eq_false', Bool.and_eq_true, Bool.or_eq_true, Bool.or_eq_false_iff, Bool.and_eq_false_iff, decide_eq_true_eq, decide_eq_false_iff_not, beq_iff_eq, beq_eq_false_iff_ne] at h14
      refine wp_skip ?_
      refine hK11 _ _ ?_; clear hK11
      refine wp_seq_k (fun K16 hK15 => ?_)
      refine wp_block ?_
      refine wp_seq_k (fun K18 hK17 => ?_)
      have hi19 : (i : Int).toNat < xa.length := by omega
      obtain ⟨eb19, eo19, hA19, el19⟩ := Rd.at hRxa (List.getElem?_eq_getElem hi19); cases hA19
      obtain ⟨x19, ex19⟩ : ∃ x, xa[(i : Int).toNat] = x := ⟨_, rfl⟩; rw [ex19] at el19
      have el19 := kof_open el19
      have hi20 : (i : Int).toNat < xb.length := by omega
      obtain ⟨eb20, eo20, hA20, el20⟩ := Rd.at hRxb (List.getElem?_eq_getElem hi20); cases hA20
      obtain ⟨x20, ex20⟩ : ∃ x, xb[(i : Int).toNat] = x := ⟨_, rfl⟩; rw [ex20] at el20
      have el20 := kof_open el20
      replace HE := HE.cut (L' := [(0, .slice (some ⟨eb19, eo19, none⟩) xa.length ca), (1, .slice (some ⟨eb20, eo20, none⟩) xb.length cb), (4, .bool false), (5, .int .i64 (i : Int)), (11, .int .i64 (i : Int)), (12, .slice (some ⟨eb19, eo19, none⟩) xa.length ca), (13, .int .i64 (xa.length : Int)), (14, .bool (decide ((i : Int) < (xa.length : Int))))]) ⟨rfl, rfl, rfl, rfl, rfl, rfl, rfl, rfl, trivial⟩
      refine drawnP [fun v => v = .slice (some ⟨eb19, eo19, none⟩) xa.length ca, fun v => v = .int .i64 (i : Int), fun v => v = .pointer (some ⟨eb19, eo19 + (i : Int).toNat * 1, none⟩), fun v => v = .int .i64 x19, fun v => v = .slice (some ⟨eb20, eo20, none⟩) xb.length cb, fun v => v = .int .i64 (i : Int), fun v => v = .pointer (some ⟨eb20, eo20 + (i : Int).toNat * 1, none⟩), fun v => v = .int .i64 x20, fun v => v = .bool (!decide (x19 = x20))] T.mix rfl HE HS rfl ⟨?_, ?_, ?_, ?_, ?_, ?_, ?_, ?_, ?_, trivial⟩ ?_
      · intro a w G1 hl HS HE hp
        refine o_move HE rfl rfl ?_; clear HE; intro a HE
        exact ⟨_, _, HS, rfl, HE.get _ _ rfl, HE.defers, rfl⟩
      · intro a w G1 hl HS HE hp
        refine o_move HE rfl rfl ?_; clear HE; intro a HE
        exact ⟨_, _, HS, rfl, HE.get _ _ rfl, HE.defers, rfl⟩
      · intro a w G1 hl HS HE hp
        obtain ⟨_, e0, rfl⟩ := hp 0 17 _ rfl rfl rfl; replace HE := HE.add e0
        obtain ⟨_, e1, rfl⟩ := hp 1 18 _ rfl rfl rfl; replace HE := HE.add e1
        refine o_ixL HE rfl rfl rfl T.l39 ⟨by omega, by omega⟩ ?_; clear HE; intro a HE
        exact ⟨_, _, HS, rfl, HE.get _ _ rfl, HE.defers, rfl⟩
      · intro a w G1 hl HS HE hp
        obtain ⟨_, e2, rfl⟩ := hp 2 19 _ rfl rfl rfl; replace HE := HE.add e2
        refine o_ldI HE rfl HS rfl T.s3 (el19.le hl) (j := 0) rfl rfl ?_; clear HE; intro a HE
        exact ⟨_, _, HS, rfl, HE.get _ _ rfl, HE.defers, rfl⟩
      · intro a w G1 hl HS HE hp
        refine o_move HE rfl rfl ?_; clear HE; intro a HE
        exact ⟨_, _, HS, rfl, HE.get _ _ rfl, HE.defers, rfl⟩
      · intro a w G1 hl HS HE hp
        refine o_move HE rfl rfl ?_; clear HE; intro a HE
        exact ⟨_, _, HS, rfl, HE.get _ _ rfl, HE.defers, rfl⟩
      · intro a w G1 hl HS HE hp
        obtain ⟨_, e4, rfl⟩ := hp 4 21 _ rfl rfl rfl; replace HE := HE.add e4
        obtain ⟨_, e5, rfl⟩ := hp 5 22 _ rfl rfl rfl; replace HE := HE.add e5
        refine o_ixL HE rfl rfl rfl T.l39 ⟨by omega, by omega⟩ ?_; clear HE; intro a HE
        exact ⟨_, _, HS, rfl, HE.get _ _ rfl, HE.defers, rfl⟩
      · intro a w G1 hl HS HE hp
        obtain ⟨_, e6, rfl⟩ := hp 6 23 _ rfl rfl rfl; replace HE := HE.add e6
        refine o_ldI HE rfl HS rfl T.s3 (el20.le hl) (j := 0) rfl rfl ?_; clear HE; intro a HE
        exact ⟨_, _, HS, rfl, HE.get _ _ rfl, HE.defers, rfl⟩
      · intro a w G1 hl HS HE hp
        obtain ⟨_, e3, rfl⟩ := hp 3 20 _ rfl rfl rfl; replace HE := HE.add e3
        obtain ⟨_, e7, rfl⟩ := hp 7 24 _ rfl rfl rfl; replace HE := HE.add e7
        refine o_neI HE rfl rfl rfl ?_; clear HE; intro a HE
        exact ⟨_, _, HS, rfl, HE.get _ _ rfl, HE.defers, rfl⟩
      clear HE HS; intro a w HS HE hp
      obtain ⟨_, e8, rfl⟩ := hp 8 25 _ rfl rfl; replace HE := HE.add e8
      clear hp
      refine hK17 _ _ ?_; clear hK17
      refine cond HE rfl (fun h21 => ?_) (fun h21 => ?_)
      · have h21r := h21; try simp only [Bool.not_eq_true', Bool.not_eq_false', Bool.and_eq_true, Bool.or_eq_true, Bool.or_eq_false_iff, Bool.and_eq_false_iff, decide_eq_true_eq, decide_eq_false_iff_not, beq_iff_eq, beq_eq_false_iff_ne] at h21
        refine wp_seq_k (fun K hK => ?_); refine wp_region_lit ?_
        refine o_assign HE rfl rfl ?_; clear HE; intro a HE
        refine hK _ _ ?_; clear hK K
        refine wp_ret ?_
        show Q .ret _ _
        refine ret hQ HE rfl (HE.res rfl .nil) ⟨_, _, HS.stop (List.nil_sublist _), rfl, ?_⟩
        show _ = _
        simp only [packed, Value.bool.injEq]
        exact (decide_eq_false fun e => by subst e; exact h21 (ex19.symm.trans ex20)).symm
      · have h21r := h21; try simp only [Bool.not_eq_true', Bool.not_eq_false', Bool.and_eq_true, Bool.or_eq_true, Bool.or_eq_false_iff, Bool.and_eq_false_iff, decide_eq_true_eq, decide_eq_false_iff_not, beq_iff_eq, beq_eq_false_iff_ne] at h21
        refine wp_skip ?_
        refine hK15 _ _ ?_; clear hK15
        refine wp_region_lit ?_
        refine o_move HE rfl rfl ?_; clear HE; intro a HE
        refine o_add HE rfl rfl rfl (by omega) ?_; clear HE; intro a HE
        refine o_assign HE rfl rfl ?_; clear HE; intro a HE
        have hlt : i < xa.length := by omega
        have ht2 : xa.take (i + 1) = xb.take (i + 1) := take_snoc_eq ht hlt (by omega) (ex19.trans (h21.trans ex20.symm))
        exact ⟨i + 1, ⟨HS, HE.cut ⟨rfl, rfl, rfl, rfl, trivial⟩, ⟨by omega, ht2⟩⟩, by omega⟩
    · have h14r := h14; try simp only [Bool.not_eq_true', Bool.not_eq_false', Bool.and_eq_true, Bool.or_eq_true, Bool.or_eq_false_iff, Bool.and_eq_false_iff, decide_eq_true_eq, decide_eq_false_iff_not, beq_iff_eq, beq_eq_false_iff_ne] at h14
      refine wp_exit ?_
      refine hK7 _ _ ?_; clear hK7
      refine wp_seq_k (fun K hK => ?_); refine wp_region_lit ?_
      refine o_assign HE rfl rfl ?_; clear HE; intro a HE
      refine hK _ _ ?_; clear hK K
      refine wp_ret ?_
      show Q .ret _ _
      refine ret hQ HE rfl (HE.res rfl .nil) ⟨_, _, HS.stop (List.nil_sublist _), rfl, ?_⟩
      show _ = _
      simp only [packed, Value.bool.injEq]
      exact (decide_eq_true (by rwa [List.take_of_length_le (by omega), List.take_of_length_le (by omega)] at ht)).symm

/-! `incognito/incognitolaw26.AdmitModels` -/
set_option maxRecDepth 100000 in
set_option maxHeartbeats 4000000 in
theorem law_AdmitModels (h : List Evt) (A : Option Addr) (c : Nat) (w0 : World) (G : Heap) (hG : Sub G w0) (hR : Rd kEvt G A h) (hl : h.length ≤ 9223372036854775807):
    Calls Try.prog 6 #[.slice A h.length c] w0 (Ret w0 G (fun v _ => v = .bool true)) := by
  refine enter Try.func6 rfl Try.ntmps6 rfl ?_
  intro Q hQ a HE
  have HS := St.start0 hG
  refine wp_seq_k (fun K hK => ?_); refine wp_region_lit ?_
  refine o_assign HE rfl rfl ?_; clear HE; intro a HE
  refine hK _ _ ?_; clear hK K
  refine wp_seq_k (fun K3 hK2 => ?_)
  refine wp_seq_k (fun K hK => ?_); refine wp_region_lit ?_
  refine o_callP HE rfl HS rfl rfl T.g7 (c_wakes _ _ HS.sub) ?_
  clear HE HS; rintro _ w a HS rfl HE
  refine o_not HE rfl rfl ?_; clear HE; intro a HE
  refine hK _ _ ?_; clear hK K
  refine cond HE rfl (fun h5 => ?_) (fun h5 => ?_)
  · have h5r := h5; try simp only [Bool.not_eq_true', Bool.not_eq_false', Bool.and_eq_true, Bool.or_eq_true, Bool.or_eq_false_iff, Bool.and_eq_false_iff, decide_eq_true_eq, decide_eq_false_iff_not, beq_iff_eq, beq_eq_false_iff_ne] at h5
    refine wp_seq_k (fun K hK => ?_); refine wp_region_lit ?_
    refine o_assign HE rfl rfl ?_; clear HE; intro a HE
    refine hK _ _ ?_; clear hK K
    refine wp_ret ?_
    show Q .ret _ _
    refine ret hQ HE rfl (HE.res rfl .nil) ⟨_, _, HS.stop (List.nil_sublist _), rfl, ?_⟩
    exact absurd h5r (by decide)
  · have h5r := h5; try simp only [Bool.not_eq_true', Bool.not_eq_false', Bool.and_eq_true, Bool.or_eq_true, Bool.or_eq_false_iff, Bool.and_eq_false_iff, decide_eq_true_eq, decide_eq_false_iff_not, beq_iff_eq, beq_eq_false_iff_ne] at h5
    refine wp_skip ?_
    refine hK2 _ _ ?_; clear hK2
    refine wp_seq_k (fun K hK => ?_); refine wp_region_lit ?_
    refine o_move HE rfl rfl ?_; clear HE; intro a HE
    refine o_lenL HE rfl rfl Try.underlying27 ?_; clear HE; intro a HE
    refine o_gtr HE rfl rfl rfl ?_; clear HE; intro a HE
    refine o_move HE rfl rfl ?_; clear HE; intro a HE
    refine cutL 13 (fun a' w' => ∃ G', Heap.le G G' ∧ St w0 G [] G' w' [] ∧ Env a' 22 [] [(21, .bool ((decide (200 < (h.length : Int))) || ((decide (modelsUp h 11 = modelsUp h 11)) && ((sortedB h) == (sortedB h))))), (2, .bool false), (3, .bool true), (4, .bool (!true))]) ?_ ?_
    · refine (Bool.eq_false_or_eq_true (decide (200 < (h.length : Int)))).elim (fun hb7 => ?_) (fun hb7 => ?_)
      · skip
        have hk8 := hb7; try simp only [Bool.not_eq_true', Bool.not_eq_false', Bool.and_eq_true, Bool.or_eq_true, Bool.or_eq_false_iff, decide_eq_true_eq, decide_eq_false_iff_not] at hk8
        refine g_off HE rfl rfl rfl hb7 ?_; clear HE; intro a HE
        refine g_off HE rfl rfl rfl hb7 ?_; clear HE; intro a HE
        refine g_off HE rfl rfl rfl hb7 ?_; clear HE; intro a HE
        refine g_off HE rfl rfl rfl hb7 ?_; clear HE; intro a HE
        refine g_off HE rfl rfl rfl hb7 ?_; clear HE; intro a HE
        refine g_off HE rfl rfl rfl hb7 ?_; clear HE; intro a HE
        refine g_offu HE rfl rfl rfl ?_; clear HE; intro a HE
        refine g_offu HE rfl rfl rfl ?_; clear HE; intro a HE
        refine g_offu HE rfl rfl rfl ?_; clear HE; intro a HE
        refine g_offu HE rfl rfl rfl ?_; clear HE; intro a HE
        refine g_offu HE rfl rfl rfl ?_; clear HE; intro a HE
        refine g_off HE rfl rfl rfl hb7 ?_; clear HE; intro a HE
        refine o_pick_t HE rfl rfl hb7 rfl ?_; clear HE; intro a HE
        exact ⟨_, (Heap.le.refl _), HS, HE.cut ⟨by rw [hb7]; rfl, rfl, rfl, rfl, trivial⟩⟩
      · skip
        have hk9 := hb7; try simp only [Bool.not_eq_true', Bool.not_eq_false', Bool.and_eq_true, Bool.or_eq_true, Bool.or_eq_false_iff, decide_eq_true_eq, decide_eq_false_iff_not] at hk9
        refine op_on HE rfl rfl hb7 ?_
        refine o_move HE rfl rfl ?_; clear HE; intro a HE
        refine op_on HE rfl rfl hb7 ?_
        refine o_call HE rfl HS rfl rfl T.g14 (c_models h _ _ _ _ HS.sub hR (by first | omega | (simp; done) | (simp; omega))) ?_
        clear HE HS; rintro _ G10 w a HS hle10 ⟨vA10, vc10, rfl, hcp10, hR10⟩ HE
        replace hR := hR.le hle10
        refine op_on HE rfl rfl hb7 ?_
        refine o_move HE rfl rfl ?_; clear HE; intro a HE
        refine op_on HE rfl rfl hb7 ?_
        refine o_call HE rfl HS rfl rfl T.g15 (c_Models h _ _ _ _ HS.sub hR (by first | omega | (simp; done) | (simp; omega))) ?_
        clear HE HS; rintro _ G11 w a HS hle11 ⟨vA11, vc11, rfl, hcp11, hR11⟩ HE
        replace hR := hR.le hle11
        replace hR10 := hR10.le hle11
        refine op_on HE rfl rfl hb7 ?_
        refine o_callP HE rfl HS rfl rfl T.g13 (c_same (modelsUp h 11) _ _ (modelsUp h 11) _ _ _ _ HS.sub hR10 (by first | omega | (have := modelsUp_len h 11; omega)) hR11 (by first | omega | (have := modelsUp_len h 11; omega))) ?_
        clear HE HS; rintro _ w a HS rfl HE
        refine op_on HE rfl rfl hb7 ?_
        refine o_move HE rfl rfl ?_; clear HE; intro a HE
        obtain ⟨M0, hM0, HS⟩ : ∃ M0, M0 = _ ∧ St w0 G [] G11 _ M0 := ⟨_, rfl, HS⟩
        refine cutL 6 (fun a' w' => St w0 G [] G11 w' M0 ∧ Env a' 22 [] [(20, .bool ((decide (modelsUp h 11 = modelsUp h 11)) && ((sortedB h) == (sortedB h)))), (2, .bool false), (3, .bool true), (4, .bool (!true)), (8, .bool (decide (200 < (h.length : Int))))]) ?_ ?_
        · refine (Bool.eq_false_or_eq_true (decide (modelsUp h 11 = modelsUp h 11))).elim (fun hb12 => ?_) (fun hb12 => ?_)
          · subst hM0
            have hk13 := hb12; try simp only [Bool.not_eq_true', Bool.not_eq_false', Bool.and_eq_true, Bool.or_eq_true, Bool.or_eq_false_iff, decide_eq_true_eq, decide_eq_false_iff_not] at hk13
            refine op_on HE rfl rfl hb12 ?_
            refine o_move HE rfl rfl ?_; clear HE; intro a HE
            refine op_on HE rfl rfl hb12 ?_
            refine o_callP HE rfl HS rfl rfl T.g16 (c_sorted h _ _ _ _ HS.sub hR (by first | omega | (simp; done) | (simp; omega))) ?_
            clear HE HS; rintro _ w a HS rfl HE
            refine op_on HE rfl rfl hb12 ?_
            refine o_move HE rfl rfl ?_; clear HE; intro a HE
            refine op_on HE rfl rfl hb12 ?_
            refine o_callP HE rfl HS rfl rfl T.g17 (c_Sorted h _ _ _ _ HS.sub hR (by first | omega | (simp; done) | (simp; omega))) ?_
            clear HE HS; rintro _ w a HS rfl HE
            refine op_on HE rfl rfl hb12 ?_
            refine o_eqB HE rfl rfl rfl Try.underlying4 ?_; clear HE; intro a HE
            refine op_on HE rfl rfl hb7 ?_
            refine o_pick_t HE rfl rfl hb12 rfl ?_; clear HE; intro a HE
            exact ⟨HS, HE.cut ⟨by rw [hb12]; rfl, rfl, rfl, rfl, rfl, trivial⟩⟩
          · subst hM0
            have hk14 := hb12; try simp only [Bool.not_eq_true', Bool.not_eq_false', Bool.and_eq_true, Bool.or_eq_true, Bool.or_eq_false_iff, decide_eq_true_eq, decide_eq_false_iff_not] at hk14
            refine g_off HE rfl rfl rfl hb12 ?_; clear HE; intro a HE
            refine g_off HE rfl rfl rfl hb12 ?_; clear HE; intro a HE
            refine g_off HE rfl rfl rfl hb12 ?_; clear HE; intro a HE
            refine g_off HE rfl rfl rfl hb12 ?_; clear HE; intro a HE
            refine g_off HE rfl rfl rfl hb12 ?_; clear HE; intro a HE
            refine op_on HE rfl rfl hb7 ?_
            refine o_pick_f HE rfl rfl hb12 rfl ?_; clear HE; intro a HE
            exact ⟨HS, HE.cut ⟨by rw [hb12]; rfl, rfl, rfl, rfl, rfl, trivial⟩⟩
        clear HE HS; rintro a w ⟨HS, HE⟩; subst hM0
        refine o_pick_f HE rfl rfl hb7 rfl ?_; clear HE; intro a HE
        exact ⟨_, (hle10.trans hle11), HS, HE.cut ⟨by rw [hb7]; rfl, rfl, rfl, rfl, trivial⟩⟩
    clear HE HS; rintro a w ⟨G15, hle16, HS, HE⟩
    replace hR := hR.le hle16
    refine o_assign HE rfl rfl ?_; clear HE; intro a HE
    refine hK _ _ ?_; clear hK K
    refine wp_ret ?_
    show Q .ret _ _
    refine ret hQ HE rfl (HE.res rfl .nil) ⟨_, _, HS.stop (List.nil_sublist _), rfl, ?_⟩
    show _ = _
    simp [packed]
end Go.Proofs.Ytdhldmmabhaknaa.T1
