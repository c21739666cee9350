/- HistOne walked. -/
import Derived.Test.YtiinipcmghhacaaDoorF3
set_option linter.unusedVariables false
set_option linter.unusedSimpArgs false
namespace Go.Proofs.YtiinipcmghhacaaDoor.T10
open Go Go.Proofs.YtiinipcmghhacaaDoor.X
theorem T.g33 : goFn Tryd.prog 33 = true := by kernel_rfl
theorem T.g42 : goFn Tryd.prog 42 = true := by kernel_rfl
theorem T.g44 : goFn Tryd.prog 44 = true := by kernel_rfl
theorem T.g45 : goFn Tryd.prog 45 = true := by kernel_rfl

def lineE (x : Evt) : Bs := printE x ++ [10]
def printH (h : List Evt) : Bs := if h.all rightE = true then h.flatMap lineE else []
theorem flat_step {h : List Evt} {i : Nat} (hi : i < h.length) : (h.take (i + 1)).flatMap lineE = (h.take i).flatMap lineE ++ (printE (h.getD i E0) ++ [10]) := by
  rw [List.take_add_one, List.getElem?_eq_getElem hi, List.flatMap_append]
  simp [hi, lineE]
theorem flat_le {h : List Evt} {i : Nat} : ((h.take i).flatMap lineE).length ≤ (h.flatMap lineE).length := by
  conv => rhs; rw [← List.take_append_drop i h, List.flatMap_append, List.length_append]
  omega
theorem evt_mem {h : List Evt} {i : Nat} (hi : i < h.length) : h.getD i E0 ∈ h := by
  rw [List.getD_eq_getElem?_getD, List.getElem?_eq_getElem hi]
  exact List.getElem_mem hi
def EvOk (x : Evt) : Prop := x.Wf ∧ x.out.length ≤ 1000000
theorem histG_ok : ∀ (l : List Bs) (i : Int) (acc : List Evt), (∀ x ∈ l, x.length ≤ 4000) → (∀ e ∈ acc, EvOk e) → ∀ e ∈ (histG l i acc).1, EvOk e
  | [], _, _, _, ha => ha
  | s :: r, i, acc, hl, ha => by
    unfold histG
    split
    · refine histG_ok r _ _ (fun x hx => hl x (List.mem_cons_of_mem _ hx)) fun e he => ?_
      rcases List.mem_append.1 he with h | h
      · exact ha e h
      · rw [List.mem_singleton] at h; subst h
        have h1 := hl s List.mem_cons_self
        have h2 := (parseE_len s).2
        exact ⟨parseE_wf (by omega), by omega⟩
    · intro e he; cases he
theorem histP_ok {t : Bs} (h : t.length ≤ 4000) : ∀ e ∈ (histP t).1, EvOk e := by
  unfold histP
  split
  · exact histG_ok _ _ _ (fun x hx => by have := lines_mem hx; omega) (fun e he => by cases he)
  · intro e he; cases he
theorem code_zero {s : Bs} {i : Int} (h : codeH s i = 0) : (parseE s).2 = 0 := by
  unfold codeH at h
  split at h
  · cases h
  · exact h
theorem histG_print : ∀ (l : List Bs) (i : Int) (acc : List Evt), (histG l i acc).2.1 = 0 → acc.all rightE = true → (histG l i acc).1.all rightE = true ∧ (histG l i acc).1.flatMap lineE = acc.flatMap lineE ++ l.flatMap (· ++ [10])
  | [], _, acc, _, ha => ⟨ha, by simp [histG]⟩
  | s :: r, i, acc, h, ha => by
    unfold histG at h ⊢
    split at h
    · rename_i hc
      rw [if_pos hc]
      obtain ⟨h1, h2⟩ := print_parseE (code_zero hc)
      obtain ⟨h3, h4⟩ := histG_print r (i + 1) (acc ++ [(parseE s).1]) h (by simp [ha, h1])
      refine ⟨h3, ?_⟩
      rw [h4]
      simp [lineE, h2]
    · rename_i hc
      exact absurd h hc
theorem histG_bad2 : ∀ (l : List Bs) (i : Int) (acc : List Evt), 0 ≤ i → ¬ (histG l i acc).2.1 = 0 → (histG l i acc).1 = [] ∧ 1 ≤ (histG l i acc).2.2
  | [], _, _, _, h => absurd rfl h
  | s :: r, i, acc, hi, h => by
    unfold histG at h ⊢
    split
    · rename_i hc
      rw [if_pos hc] at h
      exact histG_bad2 r (i + 1) _ (by omega) h
    · exact ⟨rfl, by show 1 ≤ i + 1; omega⟩
theorem histP_print {t : Bs} (h : (histP t).2.1 = 0) : (histP t).1.all rightE = true ∧ (histP t).1.flatMap lineE = t := by
  unfold histP at h ⊢
  split
  · rename_i hl
    rw [if_pos hl] at h
    obtain ⟨h1, h2⟩ := histG_print _ 0 [] h rfl
    refine ⟨h1, h2.trans ?_⟩
    have e : lst 10 t = [] ∧ (linesS t).1 = pcs 10 t := by
      unfold linesS at hl ⊢
      split
      · rename_i h9; exact ⟨h9, rfl⟩
      · rename_i h9; rw [if_neg h9] at hl; exact absurd hl (by show ¬ ((pcs 10 t).length : Int) + 1 = 0; omega)
    have h3 := splitS_join 10 t
    rw [e.1, List.append_nil] at h3
    rw [e.2]
    exact h3
  · rename_i hl
    rw [if_neg hl] at h
    exact absurd h (by show ¬ (2 : Int) = 0; decide)
theorem histP_bad {t : Bs} (h : ¬ (histP t).2.1 = 0) : (histP t).1 = [] ∧ 1 ≤ (histP t).2.2 := by
  unfold histP at h ⊢
  split
  · rename_i hl
    rw [if_pos hl] at h
    exact histG_bad2 _ 0 [] (Int.le_refl _) h
  · rename_i hl
    refine ⟨rfl, ?_⟩
    show 1 ≤ (linesS t).2
    have := lines_pos (t := t)
    omega
/-! `incognito/hist.Print` -/
set_option maxRecDepth 100000 in
set_option maxHeartbeats 4000000 in
theorem c_PrintHs (xs : List Evt) (A : Option Addr) (c : Nat) (w0 : World) (G : Heap) (hG : Sub G w0) (hg0 : CellsAt G 3 0 [.int .i64 3, .int .i64 1, str []]) (hg1 : CellsAt G 6 0 [.int .i64 3, .int .i64 0, str []]) (hgm : CellsAt G 4 0 [str [], str [114, 101, 103], str [99, 97, 115], str [115, 101, 116], str [109, 97, 112], str [102, 105, 102, 111], str [115, 116, 97, 99, 107], str [108, 111, 99, 107], str [99, 111, 117, 110, 116], str [109, 97, 120], str [111, 109, 97, 112]]) (hgo : CellsAt G 5 0 [str [], str [119, 114, 105, 116, 101], str [114, 101, 97, 100], str [115, 119, 97, 112], str [97, 100, 100], str [100, 101, 108], str [104, 97, 115], str [112, 117, 116], str [103, 101, 116], str [112, 117, 115, 104], str [112, 111, 112], str [116, 97, 107, 101], str [102, 114, 101, 101], str [115, 99, 97, 110]]) (hgn : CellsAt G 2 0 [str [], str [105, 110, 118, 111, 107, 101], str [111, 107], str [102, 97, 105, 108], str [105, 110, 102, 111]]) (hT : TabG G 7 .u64 Lib.pow10Tab) (hR : Rd kEvt G A xs) (hl : xs.length ≤ 1000000) (hok : ∀ x ∈ xs, EvOk x) (hb : (xs.flatMap lineE).length ≤ 1000000000):
  Calls Tryd.prog 33 #[.slice A xs.length c] w0 (Ret w0 G (fun v _ => v = str (printH xs))) := by
 refine enter Tryd.func33 rfl Tryd.ntmps33 rfl ?_
 intro Q hQ a HE
 have HS := St.start0 hG
 refine sr fun K hK => ?_
 refine rn 1 HE HS ?_; clear HE HS; intro a w HE HS
 apply hK; clear hK K
 refine sr fun K hK => ?_
 refine o_allocB (e := 5) HE rfl HS B.zB ?_; clear HE HS; intro B3 oC2 w a HS oH2 HE
 apply hK; clear hK K
 refine wp_seq_k (fun K5 hK4 => ?_)
 refine sr fun K hK => ?_
 refine rn 3 HE HS ?_; clear HE HS; intro a w HE HS
 apply hK; clear hK K
 refine wp_block ?_
 refine loop (fun (i : Nat) a' w' => ∃ oC3_1 : Chunk, St w0 G [] G w' [oC3_1] ∧ Env a' 21 [] [(3, .pointer (some ⟨B3, 0, none⟩)), (6, .slice A xs.length c), (7, .int .i64 (xs.length : Int)), (8, .int .i64 ((i : Nat) : Int))] ∧ BldT G B3 ((xs.take i).flatMap lineE) oC3_1 ∧ (i ≤ xs.length ∧ xs.all rightE = (xs.drop i).all rightE)) (fun (i : Nat) => xs.length - i) 0 ⟨_, HS, HE.cut ⟨rfl, rfl, rfl, rfl, trivial⟩, oH2, ⟨Nat.zero_le _, rfl⟩⟩ ?_
 clear HE HS; intro i a w ⟨oC3_1, HS, HE, oH3_1, ⟨hi, hfi⟩⟩
 refine sr fun K hK => ?_
 refine rn 1 HE HS ?_; clear HE HS; intro a w HE HS
 apply hK; clear hK K
 refine wp_seq_k (fun K10 hK9 => ?_)
 refine cond HE rfl (fun h11r => ?_) (fun h11r => ?_)
 ·have h11 := nm h11r
  refine wp_skip ?_
  refine hK9 _ _ ?_; clear hK9
  refine wp_seq_k (fun K13 hK12 => ?_)
  refine wp_block ?_
  refine sr fun K hK => ?_
  have hi14 : ((i : Nat) : Int).toNat < xs.length := by omega
  obtain ⟨eb14, eo14, hA14, el14⟩ := Rd.at hR (List.getElem?_eq_getElem hi14); cases hA14
  rw [show xs[((i : Nat) : Int).toNat] = (xs.getD i E0) from getD_get (i := i) hi14 _] at el14
  obtain ⟨A1_14, c1_14, A2_14, c2_14, el14, ha1_14, hr1_14, ha2_14, hr2_14⟩ := kEvt_open el14
  refine o_ixL HE rfl rfl rfl T.l53 ⟨by omega, by omega⟩ ?_; clear HE; intro a HE
  refine o_ldIA HE rfl HS rfl el14 T.a44 ?_; clear HE; intro a HE
  refine o_allocZ HE rfl HS ?_; clear HE HS; intro B5 w a HS HE
  refine rn 1 HE HS ?_; clear HE HS; intro a w HE HS
  apply hK; clear hK K
  refine wp_seq_k (fun K17 hK16 => ?_)
  refine sr fun K hK => ?_
  refine rn 1 HE HS ?_; clear HE HS; intro a w HE HS
  have hxo := hok _ (evt_mem (h := xs) (i := i) (by omega))
  have hwe : (xs.getD i E0).Wf := hxo.1
  have hlo := hxo.2
  have hfs := flat_step (h := xs) (i := i) (by omega)
  have hfl := flat_le (h := xs) (i := i + 1)
  rw [hfs] at hfl
  simp only [List.length_append, List.length_cons, List.length_nil] at hfl
  refine o_callP HE rfl HS rfl rfl T.g28 (c_rightE (xs.getD i E0) _ _ _ _ _ _ HS.sub hg0 hg1 hr1_14 hr2_14 (by first | assumption | exact hwe)) ?_
  clear HE HS; rintro _ w a HS rfl HE
  refine rn 1 HE HS ?_; clear HE HS; intro a w HE HS
  apply hK; clear hK K
  refine cond HE rfl (fun h19r => ?_) (fun h19r => ?_)
  ·have h19 := nm h19r
   refine sr fun K hK => ?_
   refine rn 1 HE HS ?_; clear HE HS; intro a w HE HS
   apply hK; clear hK K
   refine rt hQ HE HS ?_
   have e : printH xs = [] := by
    unfold printH
    rw [hfi, all_drop (d := E0) (by omega), show rightE _ = false from by simpa using h19, if_neg (by simp)]
   show _ = _
   rw [e]
   rfl
  ·have h19 := nm h19r
   refine wp_skip ?_
   refine hK16 _ _ ?_; clear hK16
   refine sr fun K hK => ?_
   refine rn 1 HE HS ?_; clear HE HS; intro a w HE HS
   refine o_callP HE rfl HS rfl rfl T.g27 (c_PrintE (xs.getD i E0) _ _ _ _ _ _ HS.sub hg0 hg1 hgm hgo hgn hT hr1_14 hr2_14 (by first | assumption | exact hwe) (by first | assumption | omega)) ?_
   clear HE HS; rintro _ w a HS rfl HE
   replace HS := HS.front (C := oC3_1) (.there .here)
   refine o_callM (A := []) HE rfl HS rfl rfl T.g42 (c_bWS B3 ((xs.take i).flatMap lineE) (printE (xs.getD i E0)) _ _ HS oH3_1 (by ((try simp only [List.length_append, List.length_cons, List.length_nil]); omega))) ?_ (fun _ _ _ _ _ _ h => h.elim)
   clear HE HS; rintro _ G21 oC21 w a HS hle21 ⟨rfl, hG, oH21⟩ HE; replace hG := hG.symm; subst hG; clear hle21; simp only [List.nil_append] at HS
   apply hK; clear hK K
   refine wp_region_lit ?_
   refine o_callM (A := []) HE rfl HS rfl rfl T.g44 (c_bWB B3 (((xs.take i).flatMap lineE) ++ (printE (xs.getD i E0))) 10 _ _ HS oH21 (by ((try simp only [List.length_append, List.length_cons, List.length_nil]); omega))) ?_ (fun _ _ _ _ _ _ h => h.elim)
   clear HE HS; rintro _ G23 oC23 w a HS hle23 ⟨rfl, hG, oH23⟩ HE; replace hG := hG.symm; subst hG; clear hle23; simp only [List.nil_append] at HS
   refine hK12 _ _ ?_; clear hK12
   refine wp_region_lit ?_
   refine rn 2 HE HS ?_; clear HE HS; intro a w HE HS
   replace HS := HS.drop (M' := [_]) (sub_keep (sub_drop sub_nil))
   have hst := hfi
   rw [all_drop (d := E0) (by omega), show rightE _ = true from by simpa using h19, Bool.true_and] at hst
   have hxs : (((xs.take i).flatMap lineE) ++ (printE (xs.getD i E0))) ++ [10] = (xs.take (i + 1)).flatMap lineE := by rw [List.append_assoc, ← hfs]
   rw [hxs] at oH23
   exact ⟨i + 1, ⟨_, HS, HE.cut ⟨rfl, rfl, rfl, rfl, trivial⟩, oH23, ⟨by omega, hst⟩⟩, by omega⟩
 ·have h11 := nm h11r
  refine wp_exit ?_
  refine hK4 _ _ ?_; clear hK4
  refine sr fun K hK => ?_
  refine o_callM (A := []) HE rfl HS rfl rfl T.g45 (c_bS B3 ((xs.take i).flatMap lineE) _ _ HS oH3_1) ?_ (fun _ _ _ _ _ _ h => h.elim)
  clear HE HS; rintro _ G24 oC24 w a HS hle24 ⟨rfl, hG, _⟩ HE; replace hG := hG.symm; subst hG; clear hle24; simp only [List.nil_append] at HS; replace HS := HS.drop (M' := []) (sub_drop (.refl _))
  refine rn 1 HE HS ?_; clear HE HS; intro a w HE HS
  apply hK; clear hK K
  refine rt hQ HE HS ?_
  have hi9 : i = xs.length := by omega
  have e : printH xs = (xs.take i).flatMap lineE := by
   unfold printH
   rw [hfi, all_end (by omega), if_pos rfl, hi9, List.take_length]
  show _ = _
  rw [e]
  rfl

/-! `incognito/incognitolaw11.HistOne` -/
set_option maxRecDepth 100000 in
set_option maxHeartbeats 4000000 in
theorem law_HistOne (t : Bs) (w0 : World) (G : Heap) (hG : Sub G w0) (m8 : Int) (h8 : CellsAt G 8 0 [.int .i64 m8]) (hg0 : CellsAt G 3 0 [.int .i64 3, .int .i64 1, str []]) (hg1 : CellsAt G 6 0 [.int .i64 3, .int .i64 0, str []]) (hgm : CellsAt G 4 0 [str [], str [114, 101, 103], str [99, 97, 115], str [115, 101, 116], str [109, 97, 112], str [102, 105, 102, 111], str [115, 116, 97, 99, 107], str [108, 111, 99, 107], str [99, 111, 117, 110, 116], str [109, 97, 120], str [111, 109, 97, 112]]) (hgo : CellsAt G 5 0 [str [], str [119, 114, 105, 116, 101], str [114, 101, 97, 100], str [115, 119, 97, 112], str [97, 100, 100], str [100, 101, 108], str [104, 97, 115], str [112, 117, 116], str [103, 101, 116], str [112, 117, 115, 104], str [112, 111, 112], str [116, 97, 107, 101], str [102, 114, 101, 101], str [115, 99, 97, 110]]) (hgn : CellsAt G 2 0 [str [], str [105, 110, 118, 111, 107, 101], str [111, 107], str [102, 97, 105, 108], str [105, 110, 102, 111]]) (hT : TabG G 7 .u64 Lib.pow10Tab):
  Calls Tryd.prog 13 #[str t] w0 (Ret w0 G (fun v _ => v = .bool true)) := by
 refine enter Tryd.func13 rfl Tryd.ntmps13 rfl ?_
 intro Q hQ a HE
 have HS := St.start0 hG
 refine sr fun K hK => ?_
 refine rn 1 HE HS ?_; clear HE HS; intro a w HE HS
 apply hK; clear hK K
 refine wp_seq_k (fun K3 hK2 => ?_)
 refine sr fun K hK => ?_
 refine o_callP HE rfl HS rfl rfl T.g29 (c_wakes11 _ _ HS.sub m8 h8 hg0 hg1 hgm hgo hgn) ?_
 clear HE HS; rintro _ w a HS rfl HE
 refine rn 1 HE HS ?_; clear HE HS; intro a w HE HS
 apply hK; clear hK K
 refine cond HE rfl (fun h5r => ?_) (fun h5r => ?_)
 ·have h5 := nm h5r
  refine sr fun K hK => ?_
  refine rn 1 HE HS ?_; clear HE HS; intro a w HE HS
  apply hK; clear hK K
  refine rt hQ HE HS ?_
  exact absurd h5r (by decide)
 ·have h5 := nm h5r
  refine wp_skip ?_
  refine hK2 _ _ ?_; clear hK2
  refine wp_seq_k (fun K8 hK7 => ?_)
  refine sr fun K hK => ?_
  refine rn 3 HE HS ?_; clear HE HS; intro a w HE HS
  apply hK; clear hK K
  refine cond HE rfl (fun h10r => ?_) (fun h10r => ?_)
  ·have h10 := nm h10r
   refine sr fun K hK => ?_
   refine rn 1 HE HS ?_; clear HE HS; intro a w HE HS
   apply hK; clear hK K
   refine rt hQ HE HS ?_
   show _ = _
   rfl
  ·have h10 := nm h10r
   refine wp_skip ?_
   refine hK7 _ _ ?_; clear hK7
   refine sr fun K hK => ?_
   refine rn 1 HE HS ?_; clear HE HS; intro a w HE HS
   refine o_call HE rfl HS rfl rfl T.g30 (c_ParseH t _ _ HS.sub m8 h8 hg0 hg1 hgm hgo hgn (by first | omega | (simp; done) | (simp; omega))) ?_
   clear HE HS; rintro _ G12 w a HS hle12 ⟨vA12, vc12, rfl, hcp12, hR12⟩ HE
   replace h8 := h8.le hle12
   replace hg0 := hg0.le hle12
   replace hg1 := hg1.le hle12
   replace hgm := hgm.le hle12
   replace hgo := hgo.le hle12
   replace hgn := hgn.le hle12
   replace hT := hT.le hle12
   refine rn 3 HE HS ?_; clear HE HS; intro a w HE HS
   refine o_allocZ HE rfl HS ?_; clear HE HS; intro B4 w a HS HE
   refine rn 2 HE HS ?_; clear HE HS; intro a w HE HS
   apply hK; clear hK K
   refine wp_seq_k (fun K15 hK14 => ?_)
   refine sr fun K hK => ?_
   refine rn 3 HE HS ?_; clear HE HS; intro a w HE HS
   apply hK; clear hK K
   refine cond HE rfl (fun h17r => ?_) (fun h17r => ?_)
   ·have h17 := nm h17r
    refine sr fun K hK => ?_
    refine rn 4 HE HS ?_; clear HE HS; intro a w HE HS
    refine cutG 4 25 (.bool ((decide (((histP t).1.length : Int) = 0)) && (decide (1 ≤ ((histP t).2.2))))) HE HS ?_ ?_
    ·refine bsp HE (t := 21) rfl (fun hb18 => ?_) (fun hb18 => ?_)
     ·have hk19 := nm hb18
      refine rn 4 HE HS ?_; clear HE HS; intro a w HE HS
      exact ⟨HS, HE.cutT (by rw [hb18] <;> rfl)⟩
     ·skip
      refine rn 4 HE HS ?_; clear HE HS; intro a w HE HS
      exact ⟨HS, HE.cutT (by rw [hb18] <;> rfl)⟩
    clear HE HS; intro a w HE HS
    refine rn 1 HE HS ?_; clear HE HS; intro a w HE HS
    apply hK; clear hK K
    refine rt hQ HE HS ?_
    show _ = _
    simp only [packed, Value.bool.injEq]
    obtain ⟨h_1, h_2⟩ := histP_bad (t := t) (by simpa using h17)
    rw [h_1]
    simp [h_2]
   ·have h17 := nm h17r
    refine wp_skip ?_
    refine hK14 _ _ ?_; clear hK14
    refine sr fun K hK => ?_
    refine rn 1 HE HS ?_; clear HE HS; intro a w HE HS
    have hpp := histP_print (t := t) (by simpa using h17)
    have hbb : ((histP t).1.flatMap lineE).length ≤ 1000000000 := by rw [hpp.2]; omega
    refine o_callP HE rfl HS rfl rfl T.g33 (c_PrintHs ((histP t).1) _ _ _ _ HS.sub hg0 hg1 hgm hgo hgn hT hR12 (by have := histP_len t; omega) (histP_ok (by omega)) (by assumption)) ?_
    clear HE HS; rintro _ w a HS rfl HE
    refine rn 3 HE HS ?_; clear HE HS; intro a w HE HS
    apply hK; clear hK K
    refine rt hQ HE HS ?_
    show _ = _
    simp only [packed, Value.bool.injEq]
    unfold printH
    rw [if_pos hpp.1, hpp.2]
    simp
end Go.Proofs.YtiinipcmghhacaaDoor.T10
