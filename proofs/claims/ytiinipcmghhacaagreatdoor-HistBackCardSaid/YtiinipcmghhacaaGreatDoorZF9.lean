/- HistBack walked. -/
import Derived.Test.YtiinipcmghhacaaGreatDoorZF7
set_option linter.unusedVariables false
set_option linter.unusedSimpArgs false
namespace Go.Proofs.YtiinipcmghhacaaGreatDoor.T10
open Go Go.Proofs.YtiinipcmghhacaaGreatDoor.X
theorem T.g10 : goFn Tryz.prog 10 = true := by kernel_rfl
theorem T.g11 : goFn Tryz.prog 11 = true := by kernel_rfl
theorem T.g12 : goFn Tryz.prog 12 = true := by kernel_rfl
theorem T.g13 : goFn Tryz.prog 13 = true := by kernel_rfl
theorem T.g14 : goFn Tryz.prog 14 = true := by kernel_rfl
theorem T.g16 : goFn Tryz.prog 16 = true := by kernel_rfl
theorem T.g35 : goFn Tryz.prog 35 = true := by kernel_rfl
theorem T.g36 : goFn Tryz.prog 36 = true := by kernel_rfl
theorem T.g37 : goFn Tryz.prog 37 = true := by kernel_rfl
theorem T.g6 : goFn Tryz.prog 6 = true := by kernel_rfl
theorem T.g9 : goFn Tryz.prog 9 = true := by kernel_rfl

def lineE (x : Evt) : Bs := printE x ++ [10]
def printH (h : List Evt) : Bs := if h.all rightE = true then h.flatMap lineE else []
theorem flat_step {h : List Evt} {i : Nat} (hi : i < h.length) : (h.take (i + 1)).flatMap lineE = (h.take i).flatMap lineE ++ (printE (h.getD i E0) ++ [10]) := by
  rw [List.take_add_one, List.getElem?_eq_getElem hi, List.flatMap_append]
  simp [hi, lineE]
theorem flat_le {h : List Evt} {i : Nat} : ((h.take i).flatMap lineE).length ≤ (h.flatMap lineE).length := by
  conv => rhs; rw [← List.take_append_drop i h, List.flatMap_append, List.length_append]
  omega
theorem evt_mem {h : List Evt} {i : Nat} (hi : i < h.length) : h.getD i E0 ∈ h := by
  rw [List.getD_eq_getElem?_getD, List.getElem?_eq_getElem hi]
  exact List.getElem_mem hi
def EvOk (x : Evt) : Prop := x.Wf ∧ (rightE x = true → x.out.length ≤ 1000000)
def greatH (h : List Evt) (m : Int) : Bool := decide (m < (h.length : Int)) || h.any greatE
theorem any_drop {α : Type} {p : α → Bool} {l : List α} {i : Nat} {d : α} (hi : i < l.length) : (l.drop i).any p = (p (l.getD ((i : Nat) : Int).toNat d) || (l.drop (i + 1)).any p) := by
  rw [List.drop_eq_getElem_cons hi, List.any_cons]
  simp [hi]
theorem any_end {α : Type} {p : α → Bool} {l : List α} {i : Nat} (hi : l.length ≤ i) : (l.drop i).any p = false := by rw [List.drop_eq_nil_of_le hi]; rfl
theorem greatH_out {h : List Evt} (hg : greatH h 20 = false) : h.length ≤ 20 ∧ ∀ x ∈ h, greatE x = false := by
  unfold greatH at hg
  rw [Bool.or_eq_false_iff, decide_eq_false_iff_not] at hg
  refine ⟨by omega, fun x hx => ?_⟩
  have := List.any_eq_false.1 hg.2 x hx
  simpa using this
theorem lineE_len {x : Evt} (hw : x.Wf) (hg : greatE x = false) : (lineE x).length ≤ 100001 := by
  unfold lineE
  rw [List.length_append]
  show (printE x).length + 1 ≤ _
  by_cases h : rightE x = true
  · have := printE_len hw h (great_out h hg); omega
  · unfold printE
    rw [if_neg h]
    decide
theorem flat_bound : ∀ (h : List Evt), (∀ x ∈ h, (lineE x).length ≤ 100001) → (h.flatMap lineE).length ≤ 100001 * h.length
  | [], _ => by simp
  | x :: h, hh => by
    have h1 := hh x List.mem_cons_self
    have h2 := flat_bound h (fun y hy => hh y (List.mem_cons_of_mem _ hy))
    rw [List.flatMap_cons, List.length_append, List.length_cons]
    omega
theorem lst_line {x : Bs} (hx : ∀ b ∈ x, ¬ b = 10) : pcs 10 (x ++ [10]) = [x] ∧ lst 10 (x ++ [10]) = [] := by
  have h0 : Lib.indexByte x 10 = -1 := by
    rw [idx_none]
    intro j hj
    exact hx _ (List.getElem_mem hj)
  obtain ⟨p1, p2⟩ := pcs_none h0
  obtain ⟨h1, h2⟩ := snoc_hit (c := 10) (b := 10) (p := x) rfl
  rw [h1, h2, p1, p2]
  exact ⟨rfl, rfl⟩
theorem lines_flat : ∀ (l : List Bs), (∀ x ∈ l, ∀ b ∈ x, ¬ b = (10 : UInt8)) → pcs 10 (l.flatMap (· ++ [10])) = l ∧ lst 10 (l.flatMap (· ++ [10])) = []
  | [], _ => ⟨rfl, rfl⟩
  | x :: l, h => by
    obtain ⟨h1, h2⟩ := lst_line (h x List.mem_cons_self)
    obtain ⟨h3, h4⟩ := lines_flat l fun y hy => h y (List.mem_cons_of_mem _ hy)
    obtain ⟨h5, h6⟩ := pcs_app h2 _ (l.flatMap (· ++ [10])) rfl
    rw [List.flatMap_cons, h5, h6, h1, h3, h4]
    exact ⟨rfl, rfl⟩
theorem histG_right : ∀ (h : List Evt) (i : Int) (acc : List Evt), (∀ x ∈ h, x.Wf ∧ rightE x = true) → 0 ≤ i → i + (h.length : Int) ≤ 4096 → histG (h.map printE) i acc = (acc ++ h, 0, 0)
  | [], i, acc, _, _, _ => by simp [histG]
  | x :: h, i, acc, hh, h0, h1 => by
    obtain ⟨hw, hr⟩ := hh x List.mem_cons_self
    simp only [List.length_cons] at h1
    rw [List.map_cons]
    unfold histG
    rw [codeH_few (by omega), parse_printE hw hr, if_pos rfl, histG_right h _ _ (fun y hy => hh y (List.mem_cons_of_mem _ hy)) (by omega) (by omega)]
    simp
def okN (x : Bs) : Bool := x.all fun b => !(b == 10)
theorem okN_mem {x : Bs} (h : okN x = true) : (10 : UInt8) ∉ x := by
  unfold okN at h
  simp only [Bool.not_eq_true', beq_eq_false_iff_ne, ne_eq, List.all_eq_true] at h
  exact fun h2 => h _ h2 rfl
theorem okN_itoa (n : Int) : okN (Lib.itoa n) = true := by
  have hd : ∀ k : Nat, okN (dd k) = true := by
    intro k
    have h1 := dd_digits k
    have h2 := digits_all h1
    unfold okN
    simp only [Bool.not_eq_true', beq_eq_false_iff_ne, ne_eq, List.all_eq_true]
    intro b hb
    have h4 := List.all_eq_true.1 h2 b hb
    simp only [digB, Bool.and_eq_true, decide_eq_true_eq] at h4
    rintro rfl; revert h4; decide
  by_cases h : 0 ≤ n
  · rw [itoa_nn h]; exact hd _
  · rw [itoa_ng (by omega)]
    have h1 := hd n.natAbs
    unfold okN at h1 ⊢
    simp [h1]
theorem okN_print {v : Val} (h : rightV v = true) : okN (printV v) = true := by
  unfold printV
  rw [if_neg (by simp [h])]
  split
  · decide
  split
  · exact okN_itoa _
  split
  · rename_i h0 h1 h2
    unfold rightV at h
    rw [if_neg h0, if_neg h1, if_pos h2] at h
    simp only [isWordB, Bool.and_eq_true, decide_eq_true_eq, List.all_eq_true] at h
    unfold okN
    simp only [Bool.not_eq_true', beq_eq_false_iff_ne, ne_eq, List.all_eq_true]
    intro b hb
    have h4 := h.2.2.2 b hb
    simp only [letterB, lowB, Bool.or_eq_true, Bool.and_eq_true, decide_eq_true_eq, Bool.not_false, Bool.true_and] at h4
    rintro rfl; revert h4; decide
  split
  · decide
  · decide
theorem rowN_ok : ∀ r ∈ rowsT, okN (mnameS r.model) = true ∧ okN (onameS r.op) = true := by decide +kernel
theorem argsN_row {m o : Int} (h : (argsD m o).2 = true) : okN (mnameS m) = true ∧ okN (onameS o) = true := by
  unfold argsD at h
  split at h
  · rename_i h1
    unfold findS at h1
    split at h1
    · rename_i r hr
      have hm := List.mem_of_find?_eq_some hr
      have hp := List.find?_some hr
      simp only [isRow, Bool.and_eq_true, decide_eq_true_eq] at hp
      have := rowN_ok r hm
      rwa [hp.1, hp.2] at this
    · cases h1
  · cases h
theorem namedN (k : Nat) : okN (namedW.getD k []) = true := by
  match k with
  | 0 => decide
  | 1 => decide
  | 2 => decide
  | 3 => decide
  | 4 => decide
  | n + 5 => simp [namedW, okN]
theorem words_okN {e : Evt} (h : rightE e = true) : ∀ x ∈ wordsE e, okN x = true := by
  intro x hx
  unfold wordsE at hx
  simp only [List.mem_append, List.mem_cons, List.not_mem_nil, or_false, List.mem_map] at hx
  rcases hx with ((rfl | rfl | rfl) | hx) | (⟨v, hv, rfl⟩ | ⟨v, hv, rfl⟩)
  · exact okN_itoa _
  · exact okN_print (takes_right (right_head h).2.1)
  · exact namedN _
  · split at hx
    · rename_i ht
      obtain ⟨g1, g2, _⟩ := right_inv h ht
      obtain ⟨g5, g6⟩ := argsN_row g1
      simp only [List.mem_cons, List.not_mem_nil, or_false] at hx
      rcases hx with rfl | rfl | rfl
      · exact g5
      · exact okN_print (takes_right g2)
      · exact g6
    · cases hx
  · exact okN_print ((right_vals h).1 v hv)
  · exact okN_print ((right_vals h).2 v hv)
theorem printE_nl {x : Evt} (h : rightE x = true) : ∀ b ∈ printE x, ¬ b = (10 : UInt8) := by
  intro b hb e
  subst e
  unfold printE at hb
  rw [if_pos h] at hb
  rcases List.mem_append.1 hb with hb | hb
  · rcases mem_join hb with h1 | ⟨y, hy, hc⟩
    · simp at h1
    · exact okN_mem (words_okN h y hy) hc
  · split at hb
    · have hn := (right_head h).2.2
      simp only [notedB, Bool.and_eq_true, Bool.not_eq_true', decide_eq_false_iff_not] at hn
      rcases List.mem_append.1 hb with hb | hb
      · simp at hb
      · obtain ⟨i, hi, he⟩ := List.mem_iff_getElem.1 hb
        exact hn.1.2 (idx_pos hi he)
    · cases hb
theorem hist_back {h : List Evt} (hw : ∀ x ∈ h, x.Wf) (hr : h.all rightE = true) (hl : h.length ≤ 20) : histP (printH h) = (h, 0, 0) := by
  have hra := List.all_eq_true.1 hr
  have e : h.flatMap lineE = (h.map printE).flatMap (· ++ [10]) := by rw [List.flatMap_map]; rfl
  unfold printH
  rw [if_pos hr, e]
  obtain ⟨h1, h2⟩ := lines_flat (h.map printE) (by
    intro x hx
    obtain ⟨y, hy, rfl⟩ := List.mem_map.1 hx
    exact printE_nl (hra y hy))
  have e2 : linesS ((h.map printE).flatMap (· ++ [10])) = (h.map printE, 0) := by
    unfold linesS
    rw [if_pos h2, h1]
  unfold histP
  rw [e2, if_pos rfl]
  have := histG_right h 0 [] (fun x hx => ⟨hw x hx, hra x hx⟩) (by omega) (by omega)
  rw [List.nil_append] at this
  exact this
theorem not_all {h : List Evt} (hr : ¬ h.all rightE = true) : printH h = [] := by unfold printH; rw [if_neg hr]
/-! `incognito/hist.Print` -/
set_option maxRecDepth 100000 in
set_option maxHeartbeats 4000000 in
theorem c_PrintHs (xs : List Evt) (A : Option Addr) (c : Nat) (w0 : World) (G : Heap) (hG : Sub G w0) (hg0 : CellsAt G 1 0 [.int .i64 3, .int .i64 1, str []]) (hg1 : CellsAt G 2 0 [.int .i64 3, .int .i64 0, str []]) (hgm : CellsAt G 3 0 [str [], str [114, 101, 103], str [99, 97, 115], str [115, 101, 116], str [109, 97, 112], str [102, 105, 102, 111], str [115, 116, 97, 99, 107], str [108, 111, 99, 107], str [99, 111, 117, 110, 116], str [109, 97, 120], str [111, 109, 97, 112]]) (hgo : CellsAt G 4 0 [str [], str [119, 114, 105, 116, 101], str [114, 101, 97, 100], str [115, 119, 97, 112], str [97, 100, 100], str [100, 101, 108], str [104, 97, 115], str [112, 117, 116], str [103, 101, 116], str [112, 117, 115, 104], str [112, 111, 112], str [116, 97, 107, 101], str [102, 114, 101, 101], str [115, 99, 97, 110]]) (hgn : CellsAt G 0 0 [str [], str [105, 110, 118, 111, 107, 101], str [111, 107], str [102, 97, 105, 108], str [105, 110, 102, 111]]) (hT : TabG G 6 .u64 Lib.pow10Tab) (hR : Rd kEvt G A xs) (hl : xs.length ≤ 1000000) (hok : ∀ x ∈ xs, EvOk x) (hb : (xs.flatMap lineE).length ≤ 1000000000):
  Calls Tryz.prog 13 #[.slice A xs.length c] w0 (Ret w0 G (fun v _ => v = str (printH xs))) := by
 refine enter Tryz.func13 rfl Tryz.ntmps13 rfl ?_
 intro Q hQ a HE
 have HS := St.start0 hG
 refine sr fun K hK => ?_
 refine rn 1 HE HS ?_; clear HE HS; intro a w HE HS
 apply hK; clear hK K
 refine sr fun K hK => ?_
 refine o_allocB (e := 5) HE rfl HS B.zB ?_; clear HE HS; intro B3 oC2 w a HS oH2 HE
 apply hK; clear hK K
 refine wp_seq_k (fun K5 hK4 => ?_)
 refine sr fun K hK => ?_
 refine rn 3 HE HS ?_; clear HE HS; intro a w HE HS
 apply hK; clear hK K
 refine wp_block ?_
 refine loop (fun (i : Nat) a' w' => ∃ oC3_1 : Chunk, St w0 G [] G w' [oC3_1] ∧ Env a' 21 [] [(3, .pointer (some ⟨B3, 0, none⟩)), (6, .slice A xs.length c), (7, .int .i64 (xs.length : Int)), (8, .int .i64 ((i : Nat) : Int))] ∧ BldT G B3 ((xs.take i).flatMap lineE) oC3_1 ∧ (i ≤ xs.length ∧ xs.all rightE = (xs.drop i).all rightE)) (fun (i : Nat) => xs.length - i) 0 ⟨_, HS, HE.cut ⟨rfl, rfl, rfl, rfl, trivial⟩, oH2, ⟨Nat.zero_le _, rfl⟩⟩ ?_
 clear HE HS; intro i a w ⟨oC3_1, HS, HE, oH3_1, ⟨hi, hfi⟩⟩
 refine sr fun K hK => ?_
 refine rn 1 HE HS ?_; clear HE HS; intro a w HE HS
 apply hK; clear hK K
 refine wp_seq_k (fun K10 hK9 => ?_)
 refine cond HE rfl (fun h11r => ?_) (fun h11r => ?_)
 ·have h11 := nm h11r
  refine wp_skip ?_
  refine hK9 _ _ ?_; clear hK9
  refine wp_seq_k (fun K13 hK12 => ?_)
  refine wp_block ?_
  refine sr fun K hK => ?_
  have hi14 : ((i : Nat) : Int).toNat < xs.length := by omega
  obtain ⟨eb14, eo14, hA14, el14⟩ := Rd.at hR (List.getElem?_eq_getElem hi14); cases hA14
  rw [show xs[((i : Nat) : Int).toNat] = (xs.getD i E0) from getD_get (i := i) hi14 _] at el14
  obtain ⟨A1_14, c1_14, A2_14, c2_14, el14, ha1_14, hr1_14, ha2_14, hr2_14⟩ := kEvt_open el14
  refine o_ixL HE rfl rfl rfl T.l30 ⟨by omega, by omega⟩ ?_; clear HE; intro a HE
  refine o_ldIA HE rfl HS rfl el14 T.a26 ?_; clear HE; intro a HE
  refine o_allocZ HE rfl HS ?_; clear HE HS; intro B5 w a HS HE
  refine rn 1 HE HS ?_; clear HE HS; intro a w HE HS
  apply hK; clear hK K
  refine wp_seq_k (fun K17 hK16 => ?_)
  refine sr fun K hK => ?_
  refine rn 1 HE HS ?_; clear HE HS; intro a w HE HS
  have hxo := hok _ (evt_mem (h := xs) (i := i) (by omega))
  have hwe : (xs.getD i E0).Wf := hxo.1
  have hlo := hxo.2
  have hfs := flat_step (h := xs) (i := i) (by omega)
  have hfl := flat_le (h := xs) (i := i + 1)
  rw [hfs] at hfl
  simp only [List.length_append, List.length_cons, List.length_nil] at hfl
  refine o_callP HE rfl HS rfl rfl T.g7 (c_rightE (xs.getD i E0) _ _ _ _ _ _ HS.sub hg0 hg1 hr1_14 hr2_14 (by first | assumption | exact hwe)) ?_
  clear HE HS; rintro _ w a HS rfl HE
  refine rn 1 HE HS ?_; clear HE HS; intro a w HE HS
  apply hK; clear hK K
  refine cond HE rfl (fun h19r => ?_) (fun h19r => ?_)
  ·have h19 := nm h19r
   refine sr fun K hK => ?_
   refine rn 1 HE HS ?_; clear HE HS; intro a w HE HS
   apply hK; clear hK K
   refine rt hQ HE HS ?_
   have e : printH xs = [] := by
    unfold printH
    rw [hfi, all_drop (d := E0) (by omega), show rightE _ = false from by simpa using h19, if_neg (by simp)]
   show _ = _
   rw [e]
   rfl
  ·have h19 := nm h19r
   refine wp_skip ?_
   refine hK16 _ _ ?_; clear hK16
   refine sr fun K hK => ?_
   refine rn 1 HE HS ?_; clear HE HS; intro a w HE HS
   refine o_callP HE rfl HS rfl rfl T.g9 (c_PrintE (xs.getD i E0) _ _ _ _ _ _ HS.sub hg0 hg1 hgm hgo hgn hT hr1_14 hr2_14 (by first | assumption | exact hwe) (by first | assumption | (intro _; first | assumption | omega))) ?_
   clear HE HS; rintro _ w a HS rfl HE
   replace HS := HS.front (C := oC3_1) (.there .here)
   refine o_callM (A := []) HE rfl HS rfl rfl T.g35 (c_bWS B3 ((xs.take i).flatMap lineE) (printE (xs.getD i E0)) _ _ HS oH3_1 (by ((try simp only [List.length_append, List.length_cons, List.length_nil]); omega))) ?_ (fun _ _ _ _ _ _ h => h.elim)
   clear HE HS; rintro _ G21 oC21 w a HS hle21 ⟨rfl, hG, oH21⟩ HE; replace hG := hG.symm; subst hG; clear hle21; simp only [List.nil_append] at HS
   apply hK; clear hK K
   refine wp_region_lit ?_
   refine o_callM (A := []) HE rfl HS rfl rfl T.g36 (c_bWB B3 (((xs.take i).flatMap lineE) ++ (printE (xs.getD i E0))) 10 _ _ HS oH21 (by ((try simp only [List.length_append, List.length_cons, List.length_nil]); omega))) ?_ (fun _ _ _ _ _ _ h => h.elim)
   clear HE HS; rintro _ G23 oC23 w a HS hle23 ⟨rfl, hG, oH23⟩ HE; replace hG := hG.symm; subst hG; clear hle23; simp only [List.nil_append] at HS
   refine hK12 _ _ ?_; clear hK12
   refine wp_region_lit ?_
   refine rn 2 HE HS ?_; clear HE HS; intro a w HE HS
   replace HS := HS.drop (M' := [_]) (sub_keep (sub_drop sub_nil))
   have hst := hfi
   rw [all_drop (d := E0) (by omega), show rightE _ = true from by simpa using h19, Bool.true_and] at hst
   have hxs : (((xs.take i).flatMap lineE) ++ (printE (xs.getD i E0))) ++ [10] = (xs.take (i + 1)).flatMap lineE := by rw [List.append_assoc, ← hfs]
   rw [hxs] at oH23
   exact ⟨i + 1, ⟨_, HS, HE.cut ⟨rfl, rfl, rfl, rfl, trivial⟩, oH23, ⟨by omega, hst⟩⟩, by omega⟩
 ·have h11 := nm h11r
  refine wp_exit ?_
  refine hK4 _ _ ?_; clear hK4
  refine sr fun K hK => ?_
  refine o_callM (A := []) HE rfl HS rfl rfl T.g37 (c_bS B3 ((xs.take i).flatMap lineE) _ _ HS oH3_1) ?_ (fun _ _ _ _ _ _ h => h.elim)
  clear HE HS; rintro _ G24 oC24 w a HS hle24 ⟨rfl, hG, _⟩ HE; replace hG := hG.symm; subst hG; clear hle24; simp only [List.nil_append] at HS; replace HS := HS.drop (M' := []) (sub_drop (.refl _))
  refine rn 1 HE HS ?_; clear HE HS; intro a w HE HS
  apply hK; clear hK K
  refine rt hQ HE HS ?_
  have hi9 : i = xs.length := by omega
  have e : printH xs = (xs.take i).flatMap lineE := by
   unfold printH
   rw [hfi, all_end (by omega), if_pos rfl, hi9, List.take_length]
  show _ = _
  rw [e]
  rfl

/-! `incognito/incognitoref11.Great` -/
set_option maxRecDepth 100000 in
set_option maxHeartbeats 4000000 in
theorem c_Great11 (xs : List Evt) (A : Option Addr) (c : Nat) (m : Int) (w0 : World) (G : Heap) (hG : Sub G w0) (hR : Rd kEvt G A xs) (hl : xs.length ≤ 9223372036854775807) (hw : ∀ x ∈ xs, x.Wf):
  Calls Tryz.prog 12 #[.slice A xs.length c, .int .i64 m] w0 (Ret w0 G (fun v _ => v = .bool (greatH xs m))) := by
 refine enter Tryz.func12 rfl Tryz.ntmps12 rfl ?_
 intro Q hQ a HE
 have HS := St.start0 hG
 refine sr fun K hK => ?_
 refine rn 1 HE HS ?_; clear HE HS; intro a w HE HS
 apply hK; clear hK K
 refine wp_seq_k (fun K3 hK2 => ?_)
 refine sr fun K hK => ?_
 refine rn 4 HE HS ?_; clear HE HS; intro a w HE HS
 apply hK; clear hK K
 refine cond HE rfl (fun h5r => ?_) (fun h5r => ?_)
 ·have h5 := nm h5r
  refine sr fun K hK => ?_
  refine rn 1 HE HS ?_; clear HE HS; intro a w HE HS
  apply hK; clear hK K
  refine rt hQ HE HS ?_
  show _ = _
  simp only [packed, Value.bool.injEq]
  unfold greatH
  rw [decide_eq_true (by omega)]
  rfl
 ·have h5 := nm h5r
  refine wp_skip ?_
  refine hK2 _ _ ?_; clear hK2
  refine wp_seq_k (fun K8 hK7 => ?_)
  refine sr fun K hK => ?_
  refine rn 1 HE HS ?_; clear HE HS; intro a w HE HS
  apply hK; clear hK K
  refine wp_block ?_
  refine loop (fun (i : Nat) a' w' => St w0 G [] G w' [] ∧ Env a' 21 [] [(0, .slice A xs.length c), (4, .bool false), (5, .int .i64 ((i : Nat) : Int))] ∧ (i ≤ xs.length ∧ xs.any greatE = (xs.drop i).any greatE)) (fun (i : Nat) => xs.length - i) 0 ⟨HS, HE.cut ⟨rfl, rfl, rfl, trivial⟩, ⟨Nat.zero_le _, rfl⟩⟩ ?_
  clear HE HS; intro i a w ⟨HS, HE, ⟨hi, hfi⟩⟩
  refine wp_seq_k (fun K12 hK11 => ?_)
  refine sr fun K hK => ?_
  refine rn 4 HE HS ?_; clear HE HS; intro a w HE HS
  apply hK; clear hK K
  refine cond HE rfl (fun h14r => ?_) (fun h14r => ?_)
  ·have h14 := nm h14r
   refine wp_skip ?_
   refine hK11 _ _ ?_; clear hK11
   refine wp_seq_k (fun K16 hK15 => ?_)
   refine wp_block ?_
   refine sr fun K hK => ?_
   refine rn 2 HE HS ?_; clear HE HS; intro a w HE HS
   have hi17 : ((i : Nat) : Int).toNat < xs.length := by omega
   obtain ⟨eb17, eo17, hA17, el17⟩ := Rd.at hR (List.getElem?_eq_getElem hi17); cases hA17
   rw [show xs[((i : Nat) : Int).toNat] = (xs.getD i E0) from getD_get (i := i) hi17 _] at el17
   obtain ⟨A1_17, c1_17, A2_17, c2_17, el17, ha1_17, hr1_17, ha2_17, hr2_17⟩ := kEvt_open el17
   refine o_ixL HE rfl rfl rfl T.l30 ⟨by omega, by omega⟩ ?_; clear HE; intro a HE
   have hwe : (xs.getD i E0).Wf := hw _ (evt_mem (h := xs) (i := i) (by omega))
   refine o_ldIA HE rfl HS rfl el17 T.a26 ?_; clear HE; intro a HE
   refine o_callP HE rfl HS rfl rfl T.g6 (c_Great (xs.getD i E0) _ _ _ _ _ _ HS.sub hr1_17 hr2_17 (by first | assumption | exact hwe)) ?_
   clear HE HS; rintro _ w a HS rfl HE
   apply hK; clear hK K
   refine cond HE rfl (fun h19r => ?_) (fun h19r => ?_)
   ·have h19 := nm h19r
    refine sr fun K hK => ?_
    refine rn 1 HE HS ?_; clear HE HS; intro a w HE HS
    apply hK; clear hK K
    refine rt hQ HE HS ?_
    show _ = _
    simp only [packed, Value.bool.injEq]
    unfold greatH
    rw [decide_eq_false (by omega), Bool.false_or, hfi, any_drop (d := E0) (by omega), show greatE _ = true from by simpa using h19]
    simp
   ·have h19 := nm h19r
    refine wp_skip ?_
    refine hK15 _ _ ?_; clear hK15
    refine wp_region_lit ?_
    refine rn 3 HE HS ?_; clear HE HS; intro a w HE HS
    have hst := hfi
    rw [any_drop (d := E0) (by omega), show greatE _ = false from by simpa using h19, Bool.false_or] at hst
    exact ⟨i + 1, ⟨HS, HE.cut ⟨rfl, rfl, rfl, trivial⟩, ⟨by omega, hst⟩⟩, by omega⟩
  ·have h14 := nm h14r
   refine wp_exit ?_
   refine hK7 _ _ ?_; clear hK7
   refine sr fun K hK => ?_
   refine rn 1 HE HS ?_; clear HE HS; intro a w HE HS
   apply hK; clear hK K
   refine rt hQ HE HS ?_
   show _ = _
   simp only [packed, Value.bool.injEq]
   unfold greatH
   rw [decide_eq_false (by omega), Bool.false_or, hfi, any_end (by omega)]

/-! `incognito/incognitoref11.Print` -/
set_option maxRecDepth 100000 in
set_option maxHeartbeats 4000000 in
theorem c_PrintR11 (xs : List Evt) (A : Option Addr) (c : Nat) (w0 : World) (G : Heap) (hG : Sub G w0) (hg0 : CellsAt G 1 0 [.int .i64 3, .int .i64 1, str []]) (hg1 : CellsAt G 2 0 [.int .i64 3, .int .i64 0, str []]) (hgm : CellsAt G 3 0 [str [], str [114, 101, 103], str [99, 97, 115], str [115, 101, 116], str [109, 97, 112], str [102, 105, 102, 111], str [115, 116, 97, 99, 107], str [108, 111, 99, 107], str [99, 111, 117, 110, 116], str [109, 97, 120], str [111, 109, 97, 112]]) (hgo : CellsAt G 4 0 [str [], str [119, 114, 105, 116, 101], str [114, 101, 97, 100], str [115, 119, 97, 112], str [97, 100, 100], str [100, 101, 108], str [104, 97, 115], str [112, 117, 116], str [103, 101, 116], str [112, 117, 115, 104], str [112, 111, 112], str [116, 97, 107, 101], str [102, 114, 101, 101], str [115, 99, 97, 110]]) (hgn : CellsAt G 0 0 [str [], str [105, 110, 118, 111, 107, 101], str [111, 107], str [102, 97, 105, 108], str [105, 110, 102, 111]]) (hT : TabG G 6 .u64 Lib.pow10Tab) (hR : Rd kEvt G A xs) (hl : xs.length ≤ 1000000) (hok : ∀ x ∈ xs, EvOk x) (hb : (xs.flatMap lineE).length ≤ 1000000000):
  Calls Tryz.prog 14 #[.slice A xs.length c] w0 (Ret w0 G (fun v _ => v = str (printH xs))) := by
 refine enter Tryz.func14 rfl Tryz.ntmps14 rfl ?_
 intro Q hQ a HE
 have HS := St.start0 hG
 refine sr fun K hK => ?_
 refine rn 1 HE HS ?_; clear HE HS; intro a w HE HS
 apply hK; clear hK K
 refine sr fun K hK => ?_
 refine rn 1 HE HS ?_; clear HE HS; intro a w HE HS
 apply hK; clear hK K
 refine wp_seq_k (fun K4 hK3 => ?_)
 refine sr fun K hK => ?_
 refine rn 1 HE HS ?_; clear HE HS; intro a w HE HS
 apply hK; clear hK K
 refine wp_block ?_
 refine loop (fun (i : Nat) a' w' => St w0 G [] G w' [] ∧ Env a' 26 [] [(0, .slice A xs.length c), (2, str []), (3, str ((xs.take i).flatMap lineE)), (4, .int .i64 ((i : Nat) : Int))] ∧ (i ≤ xs.length ∧ xs.all rightE = (xs.drop i).all rightE)) (fun (i : Nat) => xs.length - i) 0 ⟨HS, HE.cut ⟨rfl, rfl, rfl, rfl, trivial⟩, ⟨Nat.zero_le _, rfl⟩⟩ ?_
 clear HE HS; intro i a w ⟨HS, HE, ⟨hi, hfi⟩⟩
 refine wp_seq_k (fun K8 hK7 => ?_)
 refine sr fun K hK => ?_
 refine rn 4 HE HS ?_; clear HE HS; intro a w HE HS
 apply hK; clear hK K
 refine cond HE rfl (fun h10r => ?_) (fun h10r => ?_)
 ·have h10 := nm h10r
  refine wp_skip ?_
  refine hK7 _ _ ?_; clear hK7
  refine wp_seq_k (fun K12 hK11 => ?_)
  refine wp_block ?_
  refine wp_seq_k (fun K14 hK13 => ?_)
  refine sr fun K hK => ?_
  refine rn 2 HE HS ?_; clear HE HS; intro a w HE HS
  have hi15 : ((i : Nat) : Int).toNat < xs.length := by omega
  obtain ⟨eb15, eo15, hA15, el15⟩ := Rd.at hR (List.getElem?_eq_getElem hi15); cases hA15
  rw [show xs[((i : Nat) : Int).toNat] = (xs.getD i E0) from getD_get (i := i) hi15 _] at el15
  obtain ⟨A1_15, c1_15, A2_15, c2_15, el15, ha1_15, hr1_15, ha2_15, hr2_15⟩ := kEvt_open el15
  refine o_ixL HE rfl rfl rfl T.l30 ⟨by omega, by omega⟩ ?_; clear HE; intro a HE
  have hxo := hok _ (evt_mem (h := xs) (i := i) (by omega))
  have hwe : (xs.getD i E0).Wf := hxo.1
  have hlo := hxo.2
  have hfs := flat_step (h := xs) (i := i) (by omega)
  have hfl := flat_le (h := xs) (i := i + 1)
  rw [hfs] at hfl
  simp only [List.length_append, List.length_cons, List.length_nil] at hfl
  refine o_ldIA HE rfl HS rfl el15 T.a26 ?_; clear HE; intro a HE
  refine o_callP HE rfl HS rfl rfl T.g8 (c_RightR (xs.getD i E0) _ _ _ _ _ _ HS.sub hr1_15 hr2_15 (by first | assumption | exact hwe)) ?_
  clear HE HS; rintro _ w a HS rfl HE
  refine rn 1 HE HS ?_; clear HE HS; intro a w HE HS
  apply hK; clear hK K
  refine cond HE rfl (fun h17r => ?_) (fun h17r => ?_)
  ·have h17 := nm h17r
   refine sr fun K hK => ?_
   refine rn 1 HE HS ?_; clear HE HS; intro a w HE HS
   apply hK; clear hK K
   refine rt hQ HE HS ?_
   have e : printH xs = [] := by
    unfold printH
    rw [hfi, all_drop (d := E0) (by omega), show rightE _ = false from by simpa using h17, if_neg (by simp)]
   show _ = _
   rw [e]
   rfl
  ·have h17 := nm h17r
   refine wp_skip ?_
   refine hK13 _ _ ?_; clear hK13
   refine wp_region_lit ?_
   refine rn 3 HE HS ?_; clear HE HS; intro a w HE HS
   refine o_ixL HE rfl rfl rfl T.l30 ⟨by omega, by omega⟩ ?_; clear HE; intro a HE
   refine o_ldIA HE rfl HS rfl el15 T.a26 ?_; clear HE; intro a HE
   refine o_callP HE rfl HS rfl rfl T.g10 (c_PrintR (xs.getD i E0) _ _ _ _ _ _ HS.sub hg0 hg1 hgm hgo hgn hT hr1_15 hr2_15 (by first | assumption | exact hwe) (by first | assumption | (intro _; first | assumption | omega))) ?_
   clear HE HS; rintro _ w a HS rfl HE
   refine o_cat HE rfl rfl rfl (by ((try simp only [List.length_append, List.length_cons, List.length_nil]); omega)) ?_; clear HE; intro a HE
   refine o_cat HE rfl rfl rfl (by ((try simp only [List.length_append, List.length_cons, List.length_nil]); omega)) ?_; clear HE; intro a HE
   refine rn 1 HE HS ?_; clear HE HS; intro a w HE HS
   refine hK11 _ _ ?_; clear hK11
   refine wp_region_lit ?_
   refine rn 3 HE HS ?_; clear HE HS; intro a w HE HS
   have hst := hfi
   rw [all_drop (d := E0) (by omega), show rightE _ = true from by simpa using h17, Bool.true_and] at hst
   have hxs : (((xs.take i).flatMap lineE) ++ (printE (xs.getD i E0))) ++ [10] = (xs.take (i + 1)).flatMap lineE := by rw [List.append_assoc, ← hfs]
   rw [hxs] at HE; clear hxs
   exact ⟨i + 1, ⟨HS, HE.cut ⟨rfl, rfl, rfl, rfl, trivial⟩, ⟨by omega, hst⟩⟩, by omega⟩
 ·have h10 := nm h10r
  refine wp_exit ?_
  refine hK3 _ _ ?_; clear hK3
  refine sr fun K hK => ?_
  refine rn 2 HE HS ?_; clear HE HS; intro a w HE HS
  apply hK; clear hK K
  refine rt hQ HE HS ?_
  have hi9 : i = xs.length := by omega
  have e : printH xs = (xs.take i).flatMap lineE := by
   unfold printH
   rw [hfi, all_end (by omega), if_pos rfl, hi9, List.take_length]
  show _ = _
  rw [e]
  rfl

/-! `incognito/incognitolaw11.HistBack` -/
set_option maxRecDepth 100000 in
set_option maxHeartbeats 4000000 in
theorem law_HistBack (xs : List Evt) (A : Option Addr) (c : Nat) (w0 : World) (G : Heap) (hG : Sub G w0) (m8 : Int) (h8 : CellsAt G 5 0 [.int .i64 m8]) (hg0 : CellsAt G 1 0 [.int .i64 3, .int .i64 1, str []]) (hg1 : CellsAt G 2 0 [.int .i64 3, .int .i64 0, str []]) (hgm : CellsAt G 3 0 [str [], str [114, 101, 103], str [99, 97, 115], str [115, 101, 116], str [109, 97, 112], str [102, 105, 102, 111], str [115, 116, 97, 99, 107], str [108, 111, 99, 107], str [99, 111, 117, 110, 116], str [109, 97, 120], str [111, 109, 97, 112]]) (hgo : CellsAt G 4 0 [str [], str [119, 114, 105, 116, 101], str [114, 101, 97, 100], str [115, 119, 97, 112], str [97, 100, 100], str [100, 101, 108], str [104, 97, 115], str [112, 117, 116], str [103, 101, 116], str [112, 117, 115, 104], str [112, 111, 112], str [116, 97, 107, 101], str [102, 114, 101, 101], str [115, 99, 97, 110]]) (hgn : CellsAt G 0 0 [str [], str [105, 110, 118, 111, 107, 101], str [111, 107], str [102, 97, 105, 108], str [105, 110, 102, 111]]) (hT : TabG G 6 .u64 Lib.pow10Tab) (hR : Rd kEvt G A xs) (hl : xs.length ≤ 9223372036854775807) (hw : ∀ x ∈ xs, x.Wf):
  Calls Tryz.prog 4 #[.slice A xs.length c] w0 (Ret w0 G (fun v _ => v = .bool true)) := by
 refine enter Tryz.func4 rfl Tryz.ntmps4 rfl ?_
 intro Q hQ a HE
 have HS := St.start0 hG
 refine sr fun K hK => ?_
 refine rn 1 HE HS ?_; clear HE HS; intro a w HE HS
 apply hK; clear hK K
 refine wp_seq_k (fun K3 hK2 => ?_)
 refine sr fun K hK => ?_
 refine o_callP HE rfl HS rfl rfl T.g11 (c_wakes11 _ _ HS.sub m8 h8 hg0 hg1 hgm hgo hgn) ?_
 clear HE HS; rintro _ w a HS rfl HE
 refine rn 1 HE HS ?_; clear HE HS; intro a w HE HS
 apply hK; clear hK K
 refine cond HE rfl (fun h5r => ?_) (fun h5r => ?_)
 ·have h5 := nm h5r
  refine sr fun K hK => ?_
  refine rn 1 HE HS ?_; clear HE HS; intro a w HE HS
  apply hK; clear hK K
  refine rt hQ HE HS ?_
  exact absurd h5r (by decide)
 ·have h5 := nm h5r
  refine wp_skip ?_
  refine hK2 _ _ ?_; clear hK2
  refine wp_seq_k (fun K8 hK7 => ?_)
  refine sr fun K hK => ?_
  refine rn 1 HE HS ?_; clear HE HS; intro a w HE HS
  refine o_callP HE rfl HS rfl rfl T.g12 (c_Great11 xs _ _ 20 _ _ HS.sub hR (by omega) hw) ?_
  clear HE HS; rintro _ w a HS rfl HE
  apply hK; clear hK K
  refine cond HE rfl (fun h10r => ?_) (fun h10r => ?_)
  ·have h10 := nm h10r
   refine sr fun K hK => ?_
   refine rn 1 HE HS ?_; clear HE HS; intro a w HE HS
   apply hK; clear hK K
   refine rt hQ HE HS ?_
   show _ = _
   rfl
  ·have h10 := nm h10r
   refine wp_skip ?_
   refine hK7 _ _ ?_; clear hK7
   refine sr fun K hK => ?_
   have hgl := greatH_out (h := xs) (by simpa using h10)
   have hok : ∀ x ∈ xs, EvOk x := fun x hx => ⟨hw x hx, fun h => by have := great_out h (hgl.2 x hx); omega⟩
   have hfb := flat_bound xs fun x hx => lineE_len (hw x hx) (hgl.2 x hx)
   have hl20 := hgl.1
   have hbb : (xs.flatMap lineE).length ≤ 1000000000 := by omega
   have hpl : (printH xs).length ≤ 1000000000 := by
    unfold printH
    split
    ·exact hbb
    ·decide
   have hsm9 : ∀ e ∈ xs, EvSm e := fun e he => ⟨(hw e he).argsLen, (hw e he).outLen⟩
   refine rn 1 HE HS ?_; clear HE HS; intro a w HE HS
   refine o_callP HE rfl HS rfl rfl T.g13 (c_PrintHs xs _ _ _ _ HS.sub hg0 hg1 hgm hgo hgn hT hR (by omega) hok hbb) ?_
   clear HE HS; rintro _ w a HS rfl HE
   refine rn 1 HE HS ?_; clear HE HS; intro a w HE HS
   apply hK; clear hK K
   refine wp_seq_k (fun K14 hK13 => ?_)
   refine sr fun K hK => ?_
   refine rn 2 HE HS ?_; clear HE HS; intro a w HE HS
   refine o_callP HE rfl HS rfl rfl T.g14 (c_PrintR11 xs _ _ _ _ HS.sub hg0 hg1 hgm hgo hgn hT hR (by omega) hok hbb) ?_
   clear HE HS; rintro _ w a HS rfl HE
   refine rn 1 HE HS ?_; clear HE HS; intro a w HE HS
   apply hK; clear hK K
   refine cond HE rfl (fun h16r => ?_) (fun h16r => ?_)
   ·have h16 := nm h16r
    refine sr fun K hK => ?_
    refine rn 1 HE HS ?_; clear HE HS; intro a w HE HS
    apply hK; clear hK K
    refine rt hQ HE HS ?_
    exact absurd h16r (by simp)
   ·have h16 := nm h16r
    refine wp_skip ?_
    refine hK13 _ _ ?_; clear hK13
    refine wp_seq_k (fun K19 hK18 => ?_)
    refine sr fun K hK => ?_
    refine rn 3 HE HS ?_; clear HE HS; intro a w HE HS
    apply hK; clear hK K
    refine wp_block ?_
    refine loop (fun (i : Nat) a' w' => St w0 G [] G w' [] ∧ Env a' 43 [] [(0, .slice A xs.length c), (2, .bool false), (3, str (printH xs)), (18, .slice A xs.length c), (19, .int .i64 (xs.length : Int)), (20, .int .i64 ((i : Nat) : Int))] ∧ (i ≤ xs.length ∧ xs.all rightE = (xs.drop i).all rightE)) (fun (i : Nat) => xs.length - i) 0 ⟨HS, HE.cut ⟨rfl, rfl, rfl, rfl, rfl, rfl, trivial⟩, ⟨Nat.zero_le _, rfl⟩⟩ ?_
    clear HE HS; intro i a w ⟨HS, HE, ⟨hi, hfi⟩⟩
    refine sr fun K hK => ?_
    refine rn 1 HE HS ?_; clear HE HS; intro a w HE HS
    apply hK; clear hK K
    refine wp_seq_k (fun K24 hK23 => ?_)
    refine cond HE rfl (fun h25r => ?_) (fun h25r => ?_)
    ·have h25 := nm h25r
     refine wp_skip ?_
     refine hK23 _ _ ?_; clear hK23
     refine wp_seq_k (fun K27 hK26 => ?_)
     refine wp_block ?_
     refine sr fun K hK => ?_
     have hi28 : ((i : Nat) : Int).toNat < xs.length := by omega
     obtain ⟨eb28, eo28, hA28, el28⟩ := Rd.at hR (List.getElem?_eq_getElem hi28); cases hA28
     rw [show xs[((i : Nat) : Int).toNat] = (xs.getD i E0) from getD_get (i := i) hi28 _] at el28
     obtain ⟨A1_28, c1_28, A2_28, c2_28, el28, ha1_28, hr1_28, ha2_28, hr2_28⟩ := kEvt_open el28
     refine o_ixL HE rfl rfl rfl T.l30 ⟨by omega, by omega⟩ ?_; clear HE; intro a HE
     refine o_ldIA HE rfl HS rfl el28 T.a26 ?_; clear HE; intro a HE
     refine o_allocZ HE rfl HS ?_; clear HE HS; intro B5 w a HS HE
     refine rn 1 HE HS ?_; clear HE HS; intro a w HE HS
     apply hK; clear hK K
     refine sr fun K hK => ?_
     have hwe : (xs.getD i E0).Wf := hw _ (evt_mem (h := xs) (i := i) (by omega))
     refine rn 1 HE HS ?_; clear HE HS; intro a w HE HS
     refine o_callP HE rfl HS rfl rfl T.g8 (c_RightR (xs.getD i E0) _ _ _ _ _ _ HS.sub hr1_28 hr2_28 (by first | assumption | exact hwe)) ?_
     clear HE HS; rintro _ w a HS rfl HE
     refine rn 1 HE HS ?_; clear HE HS; intro a w HE HS
     apply hK; clear hK K
     refine cond HE rfl (fun h31r => ?_) (fun h31r => ?_)
     ·have h31 := nm h31r
      refine sr fun K hK => ?_
      refine rn 3 HE HS ?_; clear HE HS; intro a w HE HS
      apply hK; clear hK K
      refine rt hQ HE HS ?_
      show _ = _
      simp only [packed, Value.bool.injEq]
      have hna : ¬ xs.all rightE = true := by
       rw [hfi, all_drop (d := E0) (by omega), show rightE _ = false from by simpa using h31]
       simp
      rw [not_all hna]
      rfl
     ·have h31 := nm h31r
      refine wp_skip ?_
      refine hK26 _ _ ?_; clear hK26
      refine wp_region_lit ?_
      refine rn 2 HE HS ?_; clear HE HS; intro a w HE HS
      replace HS := HS.drop (M' := []) (sub_drop sub_nil)
      have hst := hfi
      rw [all_drop (d := E0) (by omega), show rightE _ = true from by simpa using h31, Bool.true_and] at hst
      exact ⟨i + 1, ⟨HS, HE.cut ⟨rfl, rfl, rfl, rfl, rfl, rfl, trivial⟩, ⟨by omega, hst⟩⟩, by omega⟩
    ·have h25 := nm h25r
     refine wp_exit ?_
     refine hK18 _ _ ?_; clear hK18
     refine sr fun K hK => ?_
     refine rn 1 HE HS ?_; clear HE HS; intro a w HE HS
     refine o_call HE rfl HS rfl rfl T.g15 (c_ParseH (printH xs) _ _ HS.sub m8 h8 hg0 hg1 hgm hgo hgn (by first | omega | (simp; done) | (simp; omega))) ?_
     clear HE HS; rintro _ G33 w a HS hle33 ⟨vA33, vc33, rfl, hcp33, hR33⟩ HE
     replace h8 := h8.le hle33
     replace hg0 := hg0.le hle33
     replace hg1 := hg1.le hle33
     replace hgm := hgm.le hle33
     replace hgo := hgo.le hle33
     replace hgn := hgn.le hle33
     replace hT := hT.le hle33
     replace hR := hR.le hle33
     refine rn 3 HE HS ?_; clear HE HS; intro a w HE HS
     refine o_allocZ HE rfl HS ?_; clear HE HS; intro B7 w a HS HE
     refine rn 2 HE HS ?_; clear HE HS; intro a w HE HS
     apply hK; clear hK K
     refine sr fun K hK => ?_
     refine rn 1 HE HS ?_; clear HE HS; intro a w HE HS
     refine o_build (cs := #[.int .i64 0, .int .i64 0]) HE rfl rfl (by kernel_rfl) ?_; clear HE; intro a HE
     refine o_eqA (b := decide (((histP (printH xs)).2.1) = 0) && (decide (((histP (printH xs)).2.2) = 0) && true)) HE rfl rfl rfl T.q36 rfl rfl ?_; clear HE; intro a HE
     refine rn 1 HE HS ?_; clear HE HS; intro a w HE HS
     refine cutG 4 42 (.bool ((decide (((histP (printH xs)).2.1) = 0) && (decide (((histP (printH xs)).2.2) = 0) && true)) && (decide ((histP (printH xs)).1 = xs)))) HE HS ?_ ?_
     ·refine bsp HE (t := 38) rfl (fun hb35 => ?_) (fun hb35 => ?_)
      ·have hk36 := nm hb35
       refine rn 2 HE HS ?_; clear HE HS; intro a w HE HS
       refine op_on HE rfl rfl hb35 ?_
       refine o_callP HE rfl HS rfl rfl T.g16 (c_Same11 ((histP (printH xs)).1) _ _ xs _ _ _ _ HS.sub hR33 (by first | omega | (have := histP_len (printH xs); omega)) (by first | exact histP_sm (by omega) | exact hsm9) hR (by first | omega | (have := histP_len (printH xs); omega)) (by first | exact histP_sm (by omega) | exact hsm9)) ?_
       clear HE HS; rintro _ w a HS rfl HE
       refine rn 1 HE HS ?_; clear HE HS; intro a w HE HS
       exact ⟨HS, HE.cutT (by rw [hb35] <;> rfl)⟩
      ·skip
       refine rn 4 HE HS ?_; clear HE HS; intro a w HE HS
       exact ⟨HS, HE.cutT (by rw [hb35] <;> rfl)⟩
     clear HE HS; intro a w HE HS
     refine rn 1 HE HS ?_; clear HE HS; intro a w HE HS
     apply hK; clear hK K
     refine rt hQ HE HS ?_
     show _ = _
     simp only [packed, Value.bool.injEq]
     have hal : xs.all rightE = true := hfi.trans (all_end (by omega))
     rw [hist_back hw hal hgl.1]
     simp
end Go.Proofs.YtiinipcmghhacaaGreatDoor.T10
