/- Own text. -/
import Derived.Test.YtnfadpkhjfillaaDoorU1
import Derived.Test.YtnfadpkhjfillaaDoorX35
set_option linter.unusedVariables false
set_option linter.unusedSimpArgs false
set_option maxRecDepth 100000
set_option maxHeartbeats 4000000
namespace Go.Proofs.YtnfadpkhjfillaaDoor.T28
open Go Go.Proofs.YtnfadpkhjfillaaDoor.X
theorem T.f117_3 : fieldOff Tryd.prog 117 3 = some 3 := by kernel_rfl
instance : FO Tryd.prog 117 3 3 := ⟨T.f117_3⟩
theorem T.f117_4 : fieldOff Tryd.prog 117 4 = some 4 := by kernel_rfl
instance : FO Tryd.prog 117 4 4 := ⟨T.f117_4⟩
theorem T.g61 : goFn Tryd.prog 61 = true := by kernel_rfl

/-! What comes out. -/
def altD (i : Nat) : Int := if i % 2 = 1 then 2 else 4
def altL (n : Nat) : List Int := (List.range n).map altD
def altOk (l : List Val) (n : Nat) : Bool := (List.range n).all fun i => takesB (altD i) (l.getD i ⟨0, 0, []⟩)
def pairS (l : List Val) : List Int × Bool := if l.length % 2 = 0 ∧ altOk l l.length = true then (altL l.length, true) else ([], false)
theorem altL_step (n : Nat) : altL n ++ [altD n] = altL (n + 1) := by unfold altL; rw [List.range_succ, List.map_append]; rfl
theorem altL_len (n : Nat) : (altL n).length = n := by simp [altL]
theorem altOk_step {l : List Val} {n : Nat} (h : altOk l n = true) (h2 : takesB (altD n) (l.getD n ⟨0, 0, []⟩) = true) : altOk l (n + 1) = true := by
  unfold altOk at *
  rw [List.range_succ, List.all_append, h]
  simp only [List.all_cons, List.all_nil, h2, Bool.and_self]
theorem altOk_bad {l : List Val} {n m : Nat} (hn : n < m) (h2 : takesB (altD n) (l.getD n ⟨0, 0, []⟩) = false) : altOk l m = false := by
  cases e : altOk l m with
  | false => rfl
  | true =>
    unfold altOk at e
    have := List.all_eq_true.1 e n (List.mem_range.2 hn)
    rw [h2] at this
    cases this
theorem pair_odd {l : List Val} (h : ¬ l.length % 2 = 0) : pairS l = ([], false) := by unfold pairS; rw [if_neg (fun h2 => h h2.1)]
theorem pair_bad {l : List Val} (h : altOk l l.length = false) : pairS l = ([], false) := by unfold pairS; rw [if_neg (fun h2 => by rw [h] at h2; cases h2.2)]
theorem pair_yes {l : List Val} (h1 : l.length % 2 = 0) (h : altOk l l.length = true) : pairS l = (altL l.length, true) := by unfold pairS; rw [if_pos ⟨h1, h⟩]
theorem wf_get0 {l : List Val} (hw : ∀ v ∈ l, v.Wf) {i : Nat} : (l.getD i ⟨0, 0, []⟩).Wf := by
  by_cases hi : i < l.length
  · exact hw _ (val_mem hi)
  · rw [List.getD_eq_getElem?_getD, List.getElem?_eq_none (by omega)]
    exact ⟨by decide, by decide, by decide⟩
theorem same_nil (v : Val) : (decide (v.k = 0) && (decide (v.n = 0) && (v.s == [] && true))) = decide (v = ⟨0, 0, []⟩) := same_val v ⟨0, 0, []⟩
def oneB (m o : Int) (l : List Val) : Bool := decide ((l.length : Int) = 1) && (takesB (findS m o).1.out (l.getD 0 ⟨0, 0, []⟩) || ((findS m o).1.may && decide (l.getD 0 ⟨0, 0, []⟩ = ⟨0, 0, []⟩)))
def outsS (m o : Int) (l : List Val) : List Int × Bool :=
  if (findS m o).2 = false then ([], false)
  else if (findS m o).1.out < 0 then ([], decide ((l.length : Int) = 0))
  else if (findS m o).1.out = 99 then pairS l
  else if oneB m o l = true then ([(findS m o).1.out], true) else ([], false)
/-! `incognito/sign.paired` -/
theorem c_paired (l : List Val) (A : Option Addr) (c : Nat) (w0 : World) (G : Heap) (hG : Sub G w0) (hg0 : CellsAt G 0 0 [.int .i64 3, .int .i64 1, str []]) (hg1 : CellsAt G 1 0 [.int .i64 3, .int .i64 0, str []]) (hR : Rd kVal G A l) (hl : l.length ≤ 1000000) (hw : ∀ v ∈ l, v.Wf):
  Calls Tryd.prog 61 #[.slice A l.length c] w0 (Ret w0 G (fun v G' => ∃ A c, v = .tuple #[.slice A (pairS l).1.length c, .bool (pairS l).2] ∧ (pairS l).1.length ≤ c ∧ Rd (Knd.int .i64) G' A (pairS l).1)) := by
 refine enter Tryd.func61 rfl Tryd.ntmps61 rfl ?_
 intro Q hQ a E
 have S := St.start0 hG
 refine sr fun K hK => ?_
 refine rn 2 E S ?_; clear E S; intro a w E S
 apply hK; clear hK K
 refine wp_seq_k (fun K3 hK2 => ?_)
 refine sr fun K hK => ?_
 refine rn 2 E S ?_; clear E S; intro a w E S
 refine o_remF E rfl rfl rfl (by decide) (Int.tmod_eq_emod_of_nonneg (by omega)) ?_; clear E; intro a E
 refine rn 1 E S ?_; clear E S; intro a w E S
 apply hK; clear hK K
 refine cond E rfl (fun h5r => ?_) (fun h5r => ?_)
 ·have h5 := nm h5r
  refine sr fun K hK => ?_
  refine rn 2 E S ?_; clear E S; intro a w E S
  apply hK; clear hK K
  refine rt hQ E S ?_
  have he := pair_odd (l := l) (by omega)
  rw [he]
  exact ⟨_, _, rfl, Nat.le_refl _, .nil⟩
 ·have h5 := nm h5r
  refine wp_skip ?_
  refine hK2 _ _ ?_; clear hK2
  refine sr fun K hK => ?_
  refine rn 1 E S ?_; clear E S; intro a w E S
  apply hK; clear hK K
  refine wp_seq_k (fun K9 hK8 => ?_)
  refine sr fun K hK => ?_
  refine rn 3 E S ?_; clear E S; intro a w E S
  apply hK; clear hK K
  refine wp_block ?_
  replace S := S.nilChunk
  have oH12 : X.Own (Knd.int .i64) 3 G none 0 ([] : List Int) [] := X.Own.nil
  refine loop (fun (i : Nat) a' w' => ∃ (oA4_1 : Option Addr) (oc4_1 : Nat) (oC4_1 : Chunk), St w0 G [] G w' [oC4_1] ∧ Env a' 32 [] [(4, .slice oA4_1 ((altL i).length) oc4_1), (12, .slice A l.length c), (13, .int .i64 (l.length : Int)), (14, .int .i64 (i : Int))] ∧ X.Own (Knd.int .i64) 3 G oA4_1 oc4_1 (altL i) oC4_1 ∧ (i ≤ l.length ∧ altOk l i = true)) (fun (i : Nat) => l.length - i) 0 ⟨_, _, _, S, E.cut ⟨rfl, rfl, rfl, rfl, trivial⟩, X.Own.nil (K := Knd.int .i64), ⟨Nat.zero_le _, rfl⟩⟩ ?_
  clear E S; intro i a w ⟨oA4_1, oc4_1, oC4_1, S, E, oH4_1, ⟨hi, hok⟩⟩
  refine sr fun K hK => ?_
  refine rn 1 E S ?_; clear E S; intro a w E S
  apply hK; clear hK K
  refine wp_seq_k (fun K16 hK15 => ?_)
  refine cond E rfl (fun h17r => ?_) (fun h17r => ?_)
  ·have h17 := nm h17r
   refine wp_skip ?_
   refine hK15 _ _ ?_; clear hK15
   refine wp_seq_k (fun K19 hK18 => ?_)
   refine wp_block ?_
   refine sr fun K hK => ?_
   refine rn 1 E S ?_; clear E S; intro a w E S
   have hi20 : (i : Int).toNat < l.length := by omega
   obtain ⟨eb20, eo20, hA20, el20⟩ := Rd.at hR (List.getElem?_eq_getElem hi20); cases hA20
   rw [show l[(i : Int).toNat] = (l.getD i ⟨0, 0, []⟩) from getD_get (i := i) hi20 _] at el20
   have el20 := kVal_open el20
   refine o_ixL E rfl rfl rfl T.l50 ⟨by omega, by omega⟩ ?_; clear E; intro a E
   have hvw : (l.getD i ⟨0, 0, []⟩).Wf := hw _ (val_mem (l := l) (i := i) (by omega))
   refine o_ldIA E rfl S rfl el20 T.a49 ?_; clear E; intro a E
   refine o_allocZ E rfl S ?_; clear E S; intro B6 w a S E
   refine rn 2 E S ?_; clear E S; intro a w E S
   apply hK; clear hK K
   refine sr fun K hK => ?_
   refine rn 1 E S ?_; clear E S; intro a w E S
   apply hK; clear hK K
   refine wp_seq_k (fun K24 hK23 => ?_)
   refine sr fun K hK => ?_
   refine rn 1 E S ?_; clear E S; intro a w E S
   refine o_remF E rfl rfl rfl (by decide) (Int.tmod_eq_emod_of_nonneg (by omega)) ?_; clear E; intro a E
   refine rn 1 E S ?_; clear E S; intro a w E S
   apply hK; clear hK K
   refine cond E rfl (fun h26r => ?_) (fun h26r => ?_)
   ·have h26 := nm h26r
    refine wp_region_lit ?_
    refine rn 1 E S ?_; clear E S; intro a w E S
    refine hK23 _ _ ?_; clear hK23
    refine wp_seq_k (fun K28 hK27 => ?_)
    refine sr fun K hK => ?_
    refine rn 2 E S ?_; clear E S; intro a w E S
    refine o_callP E rfl S rfl rfl T.g62 (c_takes 2 (l.getD i ⟨0, 0, []⟩) _ _ S.sub hg0 hg1 (by assumption)) ?_
    clear E S; rintro _ w a S rfl E
    refine rn 1 E S ?_; clear E S; intro a w E S
    apply hK; clear hK K
    refine cond E rfl (fun h30r => ?_) (fun h30r => ?_)
    ·have h30 := nm h30r
     refine sr fun K hK => ?_
     refine rn 2 E S ?_; clear E S; intro a w E S
     apply hK; clear hK K
     refine rt hQ E S ?_
     have hd9 : altD i = 2 := by unfold altD; rw [if_pos (by omega)]
     have he := pair_bad (l := l) (altOk_bad (n := i) (by omega) (by rw [hd9]; simpa using h30))
     rw [he]
     exact ⟨_, _, rfl, Nat.le_refl _, .nil⟩
    ·have h30 := nm h30r
     refine wp_skip ?_
     refine hK27 _ _ ?_; clear hK27
     refine wp_region_lit ?_
     refine rn 2 E S ?_; clear E S; intro a w E S
     refine o_buildSl (cs := #[.int .i64 2]) [(0, _)] E rfl S rfl T.l59 (by kernel_rfl) ⟨rfl, trivial⟩ ?_; clear E S; intro B28 w a S E
     refine o_appendL (K := (Knd.int .i64)) (ys := [2]) (n := 1) E rfl S (.there (.there .here)) oH4_1 rfl rfl T.p59 (.here .here) rfl ⟨rfl, rfl⟩ rfl rfl (by (have := altL_len i; first | omega | (simp; omega))) (by (have := altL_len i; first | omega | (simp; omega))) ?_
     clear E S; intro oA32 oc32 oC32 w a S oH32 E
     refine rn 1 E S ?_; clear E S; intro a w E S
     refine hK18 _ _ ?_; clear hK18
     refine wp_region_lit ?_
     refine rn 2 E S ?_; clear E S; intro a w E S
     replace S := S.drop (M' := [_]) (sub_keep (sub_drop (sub_drop sub_nil)))
     have hd9 : altD i = 2 := by unfold altD; rw [if_pos (by omega)]
     have hok2 := altOk_step hok (by rw [hd9]; simpa using h30)
     have hxs : ((altL i) ++ [2]) = altL (i + 1) := by rw [← hd9]; exact altL_step i
     rw [hxs] at E oH32; clear hxs
     exact ⟨i + 1, ⟨_, _, _, S, E.cut ⟨rfl, rfl, rfl, rfl, trivial⟩, oH32, ⟨by omega, hok2⟩⟩, by omega⟩
   ·have h26 := nm h26r
    refine wp_skip ?_
    refine hK23 _ _ ?_; clear hK23
    refine wp_seq_k (fun K34 hK33 => ?_)
    refine sr fun K hK => ?_
    refine rn 2 E S ?_; clear E S; intro a w E S
    refine o_callP E rfl S rfl rfl T.g62 (c_takes 4 (l.getD i ⟨0, 0, []⟩) _ _ S.sub hg0 hg1 (by assumption)) ?_
    clear E S; rintro _ w a S rfl E
    refine rn 1 E S ?_; clear E S; intro a w E S
    apply hK; clear hK K
    refine cond E rfl (fun h36r => ?_) (fun h36r => ?_)
    ·have h36 := nm h36r
     refine sr fun K hK => ?_
     refine rn 2 E S ?_; clear E S; intro a w E S
     apply hK; clear hK K
     refine rt hQ E S ?_
     have hd9 : altD i = 4 := by unfold altD; rw [if_neg (by omega)]
     have he := pair_bad (l := l) (altOk_bad (n := i) (by omega) (by rw [hd9]; simpa using h36))
     rw [he]
     exact ⟨_, _, rfl, Nat.le_refl _, .nil⟩
    ·have h36 := nm h36r
     refine wp_skip ?_
     refine hK33 _ _ ?_; clear hK33
     refine wp_region_lit ?_
     refine rn 2 E S ?_; clear E S; intro a w E S
     refine o_buildSl (cs := #[.int .i64 4]) [(0, _)] E rfl S rfl T.l59 (by kernel_rfl) ⟨rfl, trivial⟩ ?_; clear E S; intro B28 w a S E
     refine o_appendL (K := (Knd.int .i64)) (ys := [4]) (n := 1) E rfl S (.there (.there .here)) oH4_1 rfl rfl T.p59 (.here .here) rfl ⟨rfl, rfl⟩ rfl rfl (by (have := altL_len i; first | omega | (simp; omega))) (by (have := altL_len i; first | omega | (simp; omega))) ?_
     clear E S; intro oA38 oc38 oC38 w a S oH38 E
     refine rn 1 E S ?_; clear E S; intro a w E S
     refine hK18 _ _ ?_; clear hK18
     refine wp_region_lit ?_
     refine rn 2 E S ?_; clear E S; intro a w E S
     replace S := S.drop (M' := [_]) (sub_keep (sub_drop (sub_drop sub_nil)))
     have hd9 : altD i = 4 := by unfold altD; rw [if_neg (by omega)]
     have hok2 := altOk_step hok (by rw [hd9]; simpa using h36)
     have hxs : ((altL i) ++ [4]) = altL (i + 1) := by rw [← hd9]; exact altL_step i
     rw [hxs] at E oH38; clear hxs
     exact ⟨i + 1, ⟨_, _, _, S, E.cut ⟨rfl, rfl, rfl, rfl, trivial⟩, oH38, ⟨by omega, hok2⟩⟩, by omega⟩
  ·have h17 := nm h17r
   refine wp_exit ?_
   refine hK8 _ _ ?_; clear hK8
   refine sr fun K hK => ?_
   refine rn 3 E S ?_; clear E S; intro a w E S
   apply hK; clear hK K
   have hcphR41 := oH4_1.cap
   obtain ⟨G40, hle42, S', hR41⟩ := X.Own.still S .here oH4_1; clear S; have S := S'; clear S'
   replace hg0 := hg0.le hle42
   replace hg1 := hg1.le hle42
   replace hR := hR.le hle42
   refine rt hQ E S ?_
   have hi9 : i = l.length := by omega
   subst hi9
   have he := pair_yes (l := l) (by omega) hok
   rw [he]
   exact ⟨_, _, rfl, by assumption, by assumption⟩

/-! `incognito/sign.Outs` -/
theorem c_outs (m o : Int) (l : List Val) (A : Option Addr) (c : Nat) (w0 : World) (G : Heap) (hG : Sub G w0) (hg0 : CellsAt G 0 0 [.int .i64 3, .int .i64 1, str []]) (hg1 : CellsAt G 1 0 [.int .i64 3, .int .i64 0, str []]) (hR : Rd kVal G A l) (hl : l.length ≤ 1000000) (hw : ∀ v ∈ l, v.Wf):
  Calls Tryd.prog 49 #[.int .i64 m, .int .i64 o, .slice A l.length c] w0 (Ret w0 G (fun v G' => ∃ A c, v = .tuple #[.slice A (outsS m o l).1.length c, .bool (outsS m o l).2] ∧ (outsS m o l).1.length ≤ c ∧ Rd (Knd.int .i64) G' A (outsS m o l).1)) := by
 refine enter Tryd.func49 rfl Tryd.ntmps49 rfl ?_
 intro Q hQ a E
 have S := St.start0 hG
 refine sr fun K hK => ?_
 refine rn 2 E S ?_; clear E S; intro a w E S
 apply hK; clear hK K
 refine sr fun K hK => ?_
 refine rn 2 E S ?_; clear E S; intro a w E S
 refine o_callP E rfl S rfl rfl T.g59 (c_find m o _ _ S.sub) ?_
 clear E S; rintro _ w a S rfl E
 refine rn 3 E S ?_; clear E S; intro a w E S
 refine o_allocZ E rfl S ?_; clear E S; intro B8 w a S E
 refine rn 2 E S ?_; clear E S; intro a w E S
 apply hK; clear hK K
 refine wp_seq_k (fun K4 hK3 => ?_)
 refine wp_block ?_
 refine sr fun K hK => ?_
 refine rn 3 E S ?_; clear E S; intro a w E S
 apply hK; clear hK K
 refine cond E rfl (fun h6r => ?_) (fun h6r => ?_)
 ·have h6 := nm h6r
  refine sr fun K hK => ?_
  refine rn 2 E S ?_; clear E S; intro a w E S
  apply hK; clear hK K
  refine rt hQ E S ?_
  have he : outsS m o l = ([], false) := by
   unfold outsS
   rw [if_pos (by simpa using h6)]
  rw [he]
  exact ⟨_, _, rfl, Nat.le_refl _, .nil⟩
 ·have h6 := nm h6r
  refine sr fun K hK => ?_
  refine rn 4 E S ?_; clear E S; intro a w E S
  apply hK; clear hK K
  refine cond E rfl (fun h9r => ?_) (fun h9r => ?_)
  ·have h9 := nm h9r
   refine sr fun K hK => ?_
   refine rn 5 E S ?_; clear E S; intro a w E S
   apply hK; clear hK K
   refine rt hQ E S ?_
   have he : outsS m o l = ([], decide ((l.length : Int) = 0)) := by
    unfold outsS
    rw [if_neg (by simpa using h6)]
    rw [if_pos (by simpa using h9)]
   rw [he]
   exact ⟨_, _, rfl, Nat.le_refl _, .nil⟩
  ·have h9 := nm h9r
   refine sr fun K hK => ?_
   refine rn 4 E S ?_; clear E S; intro a w E S
   apply hK; clear hK K
   refine cond E rfl (fun h12r => ?_) (fun h12r => ?_)
   ·have h12 := nm h12r
    refine sr fun K hK => ?_
    refine rn 1 E S ?_; clear E S; intro a w E S
    refine o_call E rfl S rfl rfl T.g61 (c_paired l _ _ _ _ S.sub hg0 hg1 hR (by omega) hw) ?_
    clear E S; rintro _ G13 w a S hle13 ⟨vA13, vc13, rfl, hcp13, hR13⟩ E
    replace hg0 := hg0.le hle13
    replace hg1 := hg1.le hle13
    replace hR := hR.le hle13
    refine rn 4 E S ?_; clear E S; intro a w E S
    apply hK; clear hK K
    refine rt hQ E S ?_
    have he : outsS m o l = pairS l := by
     unfold outsS
     rw [if_neg (by simpa using h6)]
     rw [if_neg (by simpa using h9)]
     rw [if_pos (by simpa using h12)]
    rw [he]
    exact ⟨_, _, rfl, hcp13, hR13⟩
   ·have h12 := nm h12r
    refine wp_seq_k (fun K16 hK15 => ?_)
    obtain ⟨eb17, eo17, hc17⟩ : ∃ eb eo, ((!decide ((l.length : Int) = 1)) = false → (A : Option Addr) = some ⟨eb, eo, none⟩ ∧ ElAt kVal G eb (eo + (0 : Int).toNat * 3) (l.getD 0 ⟨0, 0, []⟩)) := by
     by_cases hg : (!decide ((l.length : Int) = 1)) = false
     ·have hg2 := hg; try simp only [Bool.not_eq_true', Bool.not_eq_false', Bool.and_eq_true, Bool.or_eq_false_iff, decide_eq_true_eq, decide_eq_false_iff_not] at hg2; have hi : (0 : Int).toNat < l.length := by omega
      obtain ⟨eb, eo, hA, el⟩ := Rd.at hR (List.getElem?_eq_getElem hi)
      exact ⟨eb, eo, fun _ => ⟨hA, by rw [show l[(0 : Int).toNat] = (l.getD 0 ⟨0, 0, []⟩) from getD_get (i := 0) hi _] at el; exact el⟩⟩
     ·exact ⟨0, 0, fun h => absurd h hg⟩
    have hvw : (l.getD 0 ⟨0, 0, []⟩).Wf := wf_get0 hw
    obtain ⟨eb18, eo18, hc18⟩ : ∃ eb eo, ((!decide ((l.length : Int) = 1)) = false ∧ (!(takesB ((findS m o).1.out) (l.getD 0 ⟨0, 0, []⟩))) = true ∧ ((findS m o).1.may) = true → (A : Option Addr) = some ⟨eb, eo, none⟩ ∧ ElAt kVal G eb (eo + (0 : Int).toNat * 3) (l.getD 0 ⟨0, 0, []⟩)) := by
     by_cases hg : (!decide ((l.length : Int) = 1)) = false ∧ (!(takesB ((findS m o).1.out) (l.getD 0 ⟨0, 0, []⟩))) = true ∧ ((findS m o).1.may) = true
     ·have hg2 := hg; try simp only [Bool.not_eq_true', Bool.not_eq_false', Bool.and_eq_true, Bool.or_eq_false_iff, decide_eq_true_eq, decide_eq_false_iff_not] at hg2; have hi : (0 : Int).toNat < l.length := by omega
      obtain ⟨eb, eo, hA, el⟩ := Rd.at hR (List.getElem?_eq_getElem hi)
      exact ⟨eb, eo, fun _ => ⟨hA, by rw [show l[(0 : Int).toNat] = (l.getD 0 ⟨0, 0, []⟩) from getD_get (i := 0) hi _] at el; exact el⟩⟩
     ·exact ⟨0, 0, fun h => absurd h hg⟩
    replace E := E.cut (L' := [(0, .int .i64 m), (1, .int .i64 o), (2, .slice A l.length c), (6, .slice none 0 0), (7, .bool false), (8, .pointer (some ⟨B8, 0, none⟩)), (9, .bool ((findS m o).2)), (10, .tuple #[.agg #[.int .i64 ((findS m o).1.model), .int .i64 ((findS m o).1.op), str ((findS m o).1.ins), .int .i64 ((findS m o).1.out), .bool ((findS m o).1.may)], .bool ((findS m o).2)]), (11, .int .i64 m), (12, .int .i64 o), (13, .tuple #[.agg #[.int .i64 ((findS m o).1.model), .int .i64 ((findS m o).1.op), str ((findS m o).1.ins), .int .i64 ((findS m o).1.out), .bool ((findS m o).1.may)], .bool ((findS m o).2)]), (14, .agg #[.int .i64 ((findS m o).1.model), .int .i64 ((findS m o).1.op), str ((findS m o).1.ins), .int .i64 ((findS m o).1.out), .bool ((findS m o).1.may)]), (15, .bool ((findS m o).2)), (16, .bool (!((findS m o).2))), (17, .bool ((findS m o).2)), (18, .bool (!((findS m o).2))), (19, .bool (decide (((findS m o).1.out) < 0))), (20, .pointer (some ⟨B8, 3, none⟩)), (21, .int .i64 ((findS m o).1.out)), (22, .bool (decide (((findS m o).1.out) < 0))), (26, .bool (decide (((findS m o).1.out) = 99))), (27, .pointer (some ⟨B8, 3, none⟩)), (28, .int .i64 ((findS m o).1.out)), (29, .bool (decide (((findS m o).1.out) = 99)))]) ⟨rfl, rfl, rfl, rfl, rfl, rfl, rfl, rfl, rfl, rfl, rfl, rfl, rfl, rfl, rfl, rfl, rfl, rfl, rfl, rfl, rfl, rfl, rfl, rfl, trivial⟩
    refine drawnP [fun v => v = .slice A l.length c, fun v => v = .int .i64 (l.length : Int), fun v => v = .bool (!decide ((l.length : Int) = 1)), fun v => v = .bool (!decide ((l.length : Int) = 1)), fun v => (!decide ((l.length : Int) = 1)) = false → v = .pointer (some ⟨B8, 3, none⟩), fun v => (!decide ((l.length : Int) = 1)) = false → v = .int .i64 ((findS m o).1.out), fun v => (!decide ((l.length : Int) = 1)) = false → v = .slice A l.length c, fun v => (!decide ((l.length : Int) = 1)) = false → v = .pointer (some ⟨eb17, eo17 + (0 : Int).toNat * 3, none⟩), fun v => (!decide ((l.length : Int) = 1)) = false → v = .agg #[.int .i64 ((l.getD 0 ⟨0, 0, []⟩).k), .int .i64 ((l.getD 0 ⟨0, 0, []⟩).n), str ((l.getD 0 ⟨0, 0, []⟩).s)], fun v => (!decide ((l.length : Int) = 1)) = false → v = .bool (takesB ((findS m o).1.out) (l.getD 0 ⟨0, 0, []⟩)), fun v => (!decide ((l.length : Int) = 1)) = false → v = .bool (!(takesB ((findS m o).1.out) (l.getD 0 ⟨0, 0, []⟩))), fun v => ((!decide ((l.length : Int) = 1)) = false → v = .bool (!(takesB ((findS m o).1.out) (l.getD 0 ⟨0, 0, []⟩)))) ∧ ((!decide ((l.length : Int) = 1)) = true → v = undef), fun v => (!decide ((l.length : Int) = 1)) = false → (!(takesB ((findS m o).1.out) (l.getD 0 ⟨0, 0, []⟩))) = true → v = .pointer (some ⟨B8, 4, none⟩), fun v => (!decide ((l.length : Int) = 1)) = false → (!(takesB ((findS m o).1.out) (l.getD 0 ⟨0, 0, []⟩))) = true → v = .bool ((findS m o).1.may), fun v => ((!decide ((l.length : Int) = 1)) = false → (!(takesB ((findS m o).1.out) (l.getD 0 ⟨0, 0, []⟩))) = true → v = .bool ((findS m o).1.may)) ∧ ((!decide ((l.length : Int) = 1)) = true → v = undef) ∧ ((!decide ((l.length : Int) = 1)) = false → (!(takesB ((findS m o).1.out) (l.getD 0 ⟨0, 0, []⟩))) = false → v = undef), fun v => (!decide ((l.length : Int) = 1)) = false → (!(takesB ((findS m o).1.out) (l.getD 0 ⟨0, 0, []⟩))) = true → ((findS m o).1.may) = true → v = .slice A l.length c, fun v => (!decide ((l.length : Int) = 1)) = false → (!(takesB ((findS m o).1.out) (l.getD 0 ⟨0, 0, []⟩))) = true → ((findS m o).1.may) = true → v = .pointer (some ⟨eb18, eo18 + (0 : Int).toNat * 3, none⟩), fun v => (!decide ((l.length : Int) = 1)) = false → (!(takesB ((findS m o).1.out) (l.getD 0 ⟨0, 0, []⟩))) = true → ((findS m o).1.may) = true → v = .agg #[.int .i64 ((l.getD 0 ⟨0, 0, []⟩).k), .int .i64 ((l.getD 0 ⟨0, 0, []⟩).n), str ((l.getD 0 ⟨0, 0, []⟩).s)], fun v => (!decide ((l.length : Int) = 1)) = false → (!(takesB ((findS m o).1.out) (l.getD 0 ⟨0, 0, []⟩))) = true → ((findS m o).1.may) = true → v = .agg #[.int .i64 0, .int .i64 0, str []], fun v => (!decide ((l.length : Int) = 1)) = false → (!(takesB ((findS m o).1.out) (l.getD 0 ⟨0, 0, []⟩))) = true → ((findS m o).1.may) = true → v = .bool (decide (((l.getD 0 ⟨0, 0, []⟩).k) = 0) && (decide (((l.getD 0 ⟨0, 0, []⟩).n) = 0) && (((l.getD 0 ⟨0, 0, []⟩).s) == [] && true))), fun v => (!decide ((l.length : Int) = 1)) = false → (!(takesB ((findS m o).1.out) (l.getD 0 ⟨0, 0, []⟩))) = true → v = .bool (((findS m o).1.may) && (decide (((l.getD 0 ⟨0, 0, []⟩).k) = 0) && (decide (((l.getD 0 ⟨0, 0, []⟩).n) = 0) && (((l.getD 0 ⟨0, 0, []⟩).s) == [] && true)))), fun v => (!decide ((l.length : Int) = 1)) = false → (!(takesB ((findS m o).1.out) (l.getD 0 ⟨0, 0, []⟩))) = true → v = .bool (!(((findS m o).1.may) && (decide (((l.getD 0 ⟨0, 0, []⟩).k) = 0) && (decide (((l.getD 0 ⟨0, 0, []⟩).n) = 0) && (((l.getD 0 ⟨0, 0, []⟩).s) == [] && true))))), fun v => (!decide ((l.length : Int) = 1)) = false → v = .bool ((!(takesB ((findS m o).1.out) (l.getD 0 ⟨0, 0, []⟩))) && (!(((findS m o).1.may) && (decide (((l.getD 0 ⟨0, 0, []⟩).k) = 0) && (decide (((l.getD 0 ⟨0, 0, []⟩).n) = 0) && (((l.getD 0 ⟨0, 0, []⟩).s) == [] && true)))))), fun v => v = .bool ((!decide ((l.length : Int) = 1)) || ((!(takesB ((findS m o).1.out) (l.getD 0 ⟨0, 0, []⟩))) && (!(((findS m o).1.may) && (decide (((l.getD 0 ⟨0, 0, []⟩).k) = 0) && (decide (((l.getD 0 ⟨0, 0, []⟩).n) = 0) && (((l.getD 0 ⟨0, 0, []⟩).s) == [] && true))))))), fun v => v = .bool ((!decide ((l.length : Int) = 1)) || ((!(takesB ((findS m o).1.out) (l.getD 0 ⟨0, 0, []⟩))) && (!(((findS m o).1.may) && (decide (((l.getD 0 ⟨0, 0, []⟩).k) = 0) && (decide (((l.getD 0 ⟨0, 0, []⟩).n) = 0) && (((l.getD 0 ⟨0, 0, []⟩).s) == [] && true)))))))] T.mix rfl E S rfl ⟨?_, ?_, ?_, ?_, ?_, ?_, ?_, ?_, ?_, ?_, ?_, ?_, ?_, ?_, ?_, ?_, ?_, ?_, ?_, ?_, ?_, ?_, ?_, ?_, ?_, trivial⟩ ?_
    ·intro a w G1 hl S E hp
     refine o_move E rfl rfl ?_; clear E; intro a E
     exact ⟨_, _, S, rfl, E.get _ _ rfl, E.defers, rfl⟩
    ·intro a w G1 hl S E hp
     obtain ⟨_, e0, rfl⟩ := hp 0 35 _ rfl rfl rfl; replace E := E.add e0
     refine o_lenL E rfl rfl Tryd.underlying50 ?_; clear E; intro a E
     exact ⟨_, _, S, rfl, E.get _ _ rfl, E.defers, rfl⟩
    ·intro a w G1 hl S E hp
     obtain ⟨_, e1, rfl⟩ := hp 1 36 _ rfl rfl rfl; replace E := E.add e1
     refine o_neI E rfl rfl rfl ?_; clear E; intro a E
     exact ⟨_, _, S, rfl, E.get _ _ rfl, E.defers, rfl⟩
    ·intro a w G1 hl S E hp
     obtain ⟨_, e2, rfl⟩ := hp 2 37 _ rfl rfl rfl; replace E := E.add e2
     refine o_move E rfl rfl ?_; clear E; intro a E
     exact ⟨_, _, S, rfl, E.get _ _ rfl, E.defers, rfl⟩
    ·intro a w G1 hl S E hp
     refine (Bool.eq_false_or_eq_true (!decide ((l.length : Int) = 1))).elim (fun hgd0 => ?_) (fun hgd0 => ?_)
     ·obtain ⟨_, e3, rfl⟩ := hp 3 38 _ rfl rfl rfl; replace E := E.add e3
      refine g_off E rfl rfl rfl hgd0 ?_; clear E; intro a E
      exact ⟨_, _, S, rfl, E.get _ _ rfl, E.defers, fun x0 => absurd (hgd0.symm.trans x0) (by decide)⟩
     ·obtain ⟨_, e3, rfl⟩ := hp 3 38 _ rfl rfl rfl; replace E := E.add e3
      refine op_on E rfl rfl hgd0 ?_
      refine o_fld E rfl rfl T.f117_3 ?_; clear E; intro a E
      exact ⟨_, _, S, rfl, E.get _ _ rfl, E.defers, fun x0 => rfl⟩
    ·intro a w G1 hl S E hp
     refine (Bool.eq_false_or_eq_true (!decide ((l.length : Int) = 1))).elim (fun hgd0 => ?_) (fun hgd0 => ?_)
     ·obtain ⟨_, e3, rfl⟩ := hp 3 38 _ rfl rfl rfl; replace E := E.add e3
      refine g_off E rfl rfl rfl hgd0 ?_; clear E; intro a E
      exact ⟨_, _, S, rfl, E.get _ _ rfl, E.defers, fun x0 => absurd (hgd0.symm.trans x0) (by decide)⟩
     ·obtain ⟨_, e3, rfl⟩ := hp 3 38 _ rfl rfl rfl; replace E := E.add e3
      obtain ⟨_, e4, h4v⟩ := hp 4 39 _ rfl rfl rfl; cases h4v hgd0; replace E := E.add e4
      refine op_on E rfl rfl hgd0 ?_
      refine o_ld E rfl S rfl T.s3 (.here .here) rfl ?_; clear E; intro a E
      exact ⟨_, _, S, rfl, E.get _ _ rfl, E.defers, fun x0 => rfl⟩
    ·intro a w G1 hl S E hp
     refine (Bool.eq_false_or_eq_true (!decide ((l.length : Int) = 1))).elim (fun hgd0 => ?_) (fun hgd0 => ?_)
     ·obtain ⟨_, e3, rfl⟩ := hp 3 38 _ rfl rfl rfl; replace E := E.add e3
      refine g_off E rfl rfl rfl hgd0 ?_; clear E; intro a E
      exact ⟨_, _, S, rfl, E.get _ _ rfl, E.defers, fun x0 => absurd (hgd0.symm.trans x0) (by decide)⟩
     ·obtain ⟨_, e3, rfl⟩ := hp 3 38 _ rfl rfl rfl; replace E := E.add e3
      refine op_on E rfl rfl hgd0 ?_
      refine o_move E rfl rfl ?_; clear E; intro a E
      exact ⟨_, _, S, rfl, E.get _ _ rfl, E.defers, fun x0 => rfl⟩
    ·intro a w G1 hl S E hp
     refine (Bool.eq_false_or_eq_true (!decide ((l.length : Int) = 1))).elim (fun hgd0 => ?_) (fun hgd0 => ?_)
     ·obtain ⟨_, e3, rfl⟩ := hp 3 38 _ rfl rfl rfl; replace E := E.add e3
      refine g_off E rfl rfl rfl hgd0 ?_; clear E; intro a E
      exact ⟨_, _, S, rfl, E.get _ _ rfl, E.defers, fun x0 => absurd (hgd0.symm.trans x0) (by decide)⟩
     ·obtain ⟨_, e3, rfl⟩ := hp 3 38 _ rfl rfl rfl; replace E := E.add e3
      obtain ⟨_, e6, h6v⟩ := hp 6 41 _ rfl rfl rfl; cases h6v hgd0; replace E := E.add e6
      refine op_on E rfl rfl hgd0 ?_
      have hbk := hgd0; try simp only [Bool.not_eq_true', Bool.not_eq_false', Bool.and_eq_true, Bool.or_eq_false_iff, decide_eq_true_eq, decide_eq_false_iff_not] at hbk
      obtain ⟨hA17, el17⟩ := hc17 (hgd0); cases hA17
      refine o_ixL E rfl rfl rfl T.l50 ⟨by omega, by omega⟩ ?_; clear E; intro a E
      exact ⟨_, _, S, rfl, E.get _ _ rfl, E.defers, fun x0 => rfl⟩
    ·intro a w G1 hl S E hp
     refine (Bool.eq_false_or_eq_true (!decide ((l.length : Int) = 1))).elim (fun hgd0 => ?_) (fun hgd0 => ?_)
     ·obtain ⟨_, e3, rfl⟩ := hp 3 38 _ rfl rfl rfl; replace E := E.add e3
      refine g_off E rfl rfl rfl hgd0 ?_; clear E; intro a E
      exact ⟨_, _, S, rfl, E.get _ _ rfl, E.defers, fun x0 => absurd (hgd0.symm.trans x0) (by decide)⟩
     ·obtain ⟨_, e3, rfl⟩ := hp 3 38 _ rfl rfl rfl; replace E := E.add e3
      obtain ⟨_, e7, h7v⟩ := hp 7 42 _ rfl rfl rfl; cases h7v hgd0; replace E := E.add e7
      refine op_on E rfl rfl hgd0 ?_
      obtain ⟨_, el17⟩ := hc17 (hgd0)
      have el17 := kVal_open el17
      refine o_ldIA E rfl S rfl (el17.le hl) T.a49 ?_; clear E; intro a E
      exact ⟨_, _, S, rfl, E.get _ _ rfl, E.defers, fun x0 => rfl⟩
    ·intro a w G1 hl S E hp
     refine (Bool.eq_false_or_eq_true (!decide ((l.length : Int) = 1))).elim (fun hgd0 => ?_) (fun hgd0 => ?_)
     ·obtain ⟨_, e3, rfl⟩ := hp 3 38 _ rfl rfl rfl; replace E := E.add e3
      refine g_off E rfl rfl rfl hgd0 ?_; clear E; intro a E
      exact ⟨_, _, S, rfl, E.get _ _ rfl, E.defers, fun x0 => absurd (hgd0.symm.trans x0) (by decide)⟩
     ·obtain ⟨_, e3, rfl⟩ := hp 3 38 _ rfl rfl rfl; replace E := E.add e3
      obtain ⟨_, e5, h5v⟩ := hp 5 40 _ rfl rfl rfl; cases h5v hgd0; replace E := E.add e5
      obtain ⟨_, e8, h8v⟩ := hp 8 43 _ rfl rfl rfl; cases h8v hgd0; replace E := E.add e8
      refine op_on E rfl rfl hgd0 ?_
      refine o_callP E rfl S rfl rfl T.g62 (c_takes ((findS m o).1.out) (l.getD 0 ⟨0, 0, []⟩) _ _ S.sub (hg0.le hl) (hg1.le hl) (by assumption)) ?_
      clear E S; rintro _ w a S rfl E
      exact ⟨_, _, S, rfl, E.get _ _ rfl, E.defers, fun x0 => rfl⟩
    ·intro a w G1 hl S E hp
     refine (Bool.eq_false_or_eq_true (!decide ((l.length : Int) = 1))).elim (fun hgd0 => ?_) (fun hgd0 => ?_)
     ·obtain ⟨_, e3, rfl⟩ := hp 3 38 _ rfl rfl rfl; replace E := E.add e3
      refine g_off E rfl rfl rfl hgd0 ?_; clear E; intro a E
      exact ⟨_, _, S, rfl, E.get _ _ rfl, E.defers, fun x0 => absurd (hgd0.symm.trans x0) (by decide)⟩
     ·obtain ⟨_, e3, rfl⟩ := hp 3 38 _ rfl rfl rfl; replace E := E.add e3
      obtain ⟨_, e9, h9v⟩ := hp 9 44 _ rfl rfl rfl; cases h9v hgd0; replace E := E.add e9
      refine op_on E rfl rfl hgd0 ?_
      refine o_not E rfl rfl ?_; clear E; intro a E
      exact ⟨_, _, S, rfl, E.get _ _ rfl, E.defers, fun x0 => rfl⟩
    ·intro a w G1 hl S E hp
     refine (Bool.eq_false_or_eq_true (!decide ((l.length : Int) = 1))).elim (fun hgd0 => ?_) (fun hgd0 => ?_)
     ·obtain ⟨_, e3, rfl⟩ := hp 3 38 _ rfl rfl rfl; replace E := E.add e3
      refine g_off E rfl rfl rfl hgd0 ?_; clear E; intro a E
      exact ⟨_, _, S, rfl, E.get _ _ rfl, E.defers, ⟨fun x0 => absurd (hgd0.symm.trans x0) (by decide), fun x0 => rfl⟩⟩
     ·obtain ⟨_, e3, rfl⟩ := hp 3 38 _ rfl rfl rfl; replace E := E.add e3
      obtain ⟨_, e10, h10v⟩ := hp 10 45 _ rfl rfl rfl; cases h10v hgd0; replace E := E.add e10
      refine op_on E rfl rfl hgd0 ?_
      refine o_move E rfl rfl ?_; clear E; intro a E
      exact ⟨_, _, S, rfl, E.get _ _ rfl, E.defers, ⟨fun x0 => rfl, fun x0 => absurd (hgd0.symm.trans x0) (by decide)⟩⟩
    ·intro a w G1 hl S E hp
     refine (Bool.eq_false_or_eq_true (!decide ((l.length : Int) = 1))).elim (fun hgd0 => ?_) (fun hgd0 => ?_)
     ·obtain ⟨_, eg, hgv⟩ := hp 11 46 _ rfl rfl rfl; cases hgv.2 hgd0; replace E := E.add eg
      refine g_offu E rfl rfl rfl ?_; clear E; intro a E
      exact ⟨_, _, S, rfl, E.get _ _ rfl, E.defers, fun x0 x1 => absurd (hgd0.symm.trans x0) (by decide)⟩
     ·refine (Bool.eq_false_or_eq_true (!(takesB ((findS m o).1.out) (l.getD 0 ⟨0, 0, []⟩)))).elim (fun hgd1 => ?_) (fun hgd1 => ?_)
      ·obtain ⟨_, e11, h11v⟩ := hp 11 46 _ rfl rfl rfl; cases h11v.1 hgd0; replace E := E.add e11
       refine op_on E rfl rfl hgd1 ?_
       refine o_fld E rfl rfl T.f117_4 ?_; clear E; intro a E
       exact ⟨_, _, S, rfl, E.get _ _ rfl, E.defers, fun x0 x1 => rfl⟩
      ·obtain ⟨_, e11, h11v⟩ := hp 11 46 _ rfl rfl rfl; cases h11v.1 hgd0; replace E := E.add e11
       refine g_off E rfl rfl rfl hgd1 ?_; clear E; intro a E
       exact ⟨_, _, S, rfl, E.get _ _ rfl, E.defers, fun x0 x1 => absurd (hgd1.symm.trans x1) (by decide)⟩
    ·intro a w G1 hl S E hp
     refine (Bool.eq_false_or_eq_true (!decide ((l.length : Int) = 1))).elim (fun hgd0 => ?_) (fun hgd0 => ?_)
     ·obtain ⟨_, eg, hgv⟩ := hp 11 46 _ rfl rfl rfl; cases hgv.2 hgd0; replace E := E.add eg
      refine g_offu E rfl rfl rfl ?_; clear E; intro a E
      exact ⟨_, _, S, rfl, E.get _ _ rfl, E.defers, fun x0 x1 => absurd (hgd0.symm.trans x0) (by decide)⟩
     ·refine (Bool.eq_false_or_eq_true (!(takesB ((findS m o).1.out) (l.getD 0 ⟨0, 0, []⟩)))).elim (fun hgd1 => ?_) (fun hgd1 => ?_)
      ·obtain ⟨_, e11, h11v⟩ := hp 11 46 _ rfl rfl rfl; cases h11v.1 hgd0; replace E := E.add e11
       obtain ⟨_, e12, h12v⟩ := hp 12 47 _ rfl rfl rfl; cases h12v hgd0 hgd1; replace E := E.add e12
       refine op_on E rfl rfl hgd1 ?_
       refine o_ld E rfl S rfl T.s4 (.here .here) rfl ?_; clear E; intro a E
       exact ⟨_, _, S, rfl, E.get _ _ rfl, E.defers, fun x0 x1 => rfl⟩
      ·obtain ⟨_, e11, h11v⟩ := hp 11 46 _ rfl rfl rfl; cases h11v.1 hgd0; replace E := E.add e11
       refine g_off E rfl rfl rfl hgd1 ?_; clear E; intro a E
       exact ⟨_, _, S, rfl, E.get _ _ rfl, E.defers, fun x0 x1 => absurd (hgd1.symm.trans x1) (by decide)⟩
    ·intro a w G1 hl S E hp
     refine (Bool.eq_false_or_eq_true (!decide ((l.length : Int) = 1))).elim (fun hgd0 => ?_) (fun hgd0 => ?_)
     ·obtain ⟨_, eg, hgv⟩ := hp 11 46 _ rfl rfl rfl; cases hgv.2 hgd0; replace E := E.add eg
      refine g_offu E rfl rfl rfl ?_; clear E; intro a E
      exact ⟨_, _, S, rfl, E.get _ _ rfl, E.defers, ⟨fun x0 x1 => absurd (hgd0.symm.trans x0) (by decide), fun x0 => rfl, fun x0 x1 => absurd (hgd0.symm.trans x0) (by decide)⟩⟩
     ·refine (Bool.eq_false_or_eq_true (!(takesB ((findS m o).1.out) (l.getD 0 ⟨0, 0, []⟩)))).elim (fun hgd1 => ?_) (fun hgd1 => ?_)
      ·obtain ⟨_, e11, h11v⟩ := hp 11 46 _ rfl rfl rfl; cases h11v.1 hgd0; replace E := E.add e11
       obtain ⟨_, e13, h13v⟩ := hp 13 48 _ rfl rfl rfl; cases h13v hgd0 hgd1; replace E := E.add e13
       refine op_on E rfl rfl hgd1 ?_
       refine o_move E rfl rfl ?_; clear E; intro a E
       exact ⟨_, _, S, rfl, E.get _ _ rfl, E.defers, ⟨fun x0 x1 => rfl, fun x0 => absurd (hgd0.symm.trans x0) (by decide), fun x0 x1 => absurd (hgd1.symm.trans x1) (by decide)⟩⟩
      ·obtain ⟨_, e11, h11v⟩ := hp 11 46 _ rfl rfl rfl; cases h11v.1 hgd0; replace E := E.add e11
       refine g_off E rfl rfl rfl hgd1 ?_; clear E; intro a E
       exact ⟨_, _, S, rfl, E.get _ _ rfl, E.defers, ⟨fun x0 x1 => absurd (hgd1.symm.trans x1) (by decide), fun x0 => absurd (hgd0.symm.trans x0) (by decide), fun x0 x1 => rfl⟩⟩
    ·intro a w G1 hl S E hp
     refine (Bool.eq_false_or_eq_true (!decide ((l.length : Int) = 1))).elim (fun hgd0 => ?_) (fun hgd0 => ?_)
     ·obtain ⟨_, eg, hgv⟩ := hp 14 49 _ rfl rfl rfl; cases hgv.2.1 hgd0; replace E := E.add eg
      refine g_offu E rfl rfl rfl ?_; clear E; intro a E
      exact ⟨_, _, S, rfl, E.get _ _ rfl, E.defers, fun x0 x1 x2 => absurd (hgd0.symm.trans x0) (by decide)⟩
     ·refine (Bool.eq_false_or_eq_true (!(takesB ((findS m o).1.out) (l.getD 0 ⟨0, 0, []⟩)))).elim (fun hgd1 => ?_) (fun hgd1 => ?_)
      ·refine (Bool.eq_false_or_eq_true ((findS m o).1.may)).elim (fun hgd2 => ?_) (fun hgd2 => ?_)
       ·obtain ⟨_, e14, h14v⟩ := hp 14 49 _ rfl rfl rfl; cases h14v.1 hgd0 hgd1; replace E := E.add e14
        refine op_on E rfl rfl hgd2 ?_
        refine o_move E rfl rfl ?_; clear E; intro a E
        exact ⟨_, _, S, rfl, E.get _ _ rfl, E.defers, fun x0 x1 x2 => rfl⟩
       ·obtain ⟨_, e14, h14v⟩ := hp 14 49 _ rfl rfl rfl; cases h14v.1 hgd0 hgd1; replace E := E.add e14
        refine g_off E rfl rfl rfl hgd2 ?_; clear E; intro a E
        exact ⟨_, _, S, rfl, E.get _ _ rfl, E.defers, fun x0 x1 x2 => absurd (hgd2.symm.trans x2) (by decide)⟩
      ·obtain ⟨_, eg, hgv⟩ := hp 14 49 _ rfl rfl rfl; cases hgv.2.2 hgd0 hgd1; replace E := E.add eg
       refine g_offu E rfl rfl rfl ?_; clear E; intro a E
       exact ⟨_, _, S, rfl, E.get _ _ rfl, E.defers, fun x0 x1 x2 => absurd (hgd1.symm.trans x1) (by decide)⟩
    ·intro a w G1 hl S E hp
     refine (Bool.eq_false_or_eq_true (!decide ((l.length : Int) = 1))).elim (fun hgd0 => ?_) (fun hgd0 => ?_)
     ·obtain ⟨_, eg, hgv⟩ := hp 14 49 _ rfl rfl rfl; cases hgv.2.1 hgd0; replace E := E.add eg
      refine g_offu E rfl rfl rfl ?_; clear E; intro a E
      exact ⟨_, _, S, rfl, E.get _ _ rfl, E.defers, fun x0 x1 x2 => absurd (hgd0.symm.trans x0) (by decide)⟩
     ·refine (Bool.eq_false_or_eq_true (!(takesB ((findS m o).1.out) (l.getD 0 ⟨0, 0, []⟩)))).elim (fun hgd1 => ?_) (fun hgd1 => ?_)
      ·refine (Bool.eq_false_or_eq_true ((findS m o).1.may)).elim (fun hgd2 => ?_) (fun hgd2 => ?_)
       ·obtain ⟨_, e14, h14v⟩ := hp 14 49 _ rfl rfl rfl; cases h14v.1 hgd0 hgd1; replace E := E.add e14
        obtain ⟨_, e15, h15v⟩ := hp 15 50 _ rfl rfl rfl; cases h15v hgd0 hgd1 hgd2; replace E := E.add e15
        refine op_on E rfl rfl hgd2 ?_
        have hbk := And.intro hgd0 (And.intro hgd1 (hgd2)); try simp only [Bool.not_eq_true', Bool.not_eq_false', Bool.and_eq_true, Bool.or_eq_false_iff, decide_eq_true_eq, decide_eq_false_iff_not] at hbk
        obtain ⟨hA18, el18⟩ := hc18 (And.intro hgd0 (And.intro hgd1 (hgd2))); cases hA18
        refine o_ixL E rfl rfl rfl T.l50 ⟨by omega, by omega⟩ ?_; clear E; intro a E
        exact ⟨_, _, S, rfl, E.get _ _ rfl, E.defers, fun x0 x1 x2 => rfl⟩
       ·obtain ⟨_, e14, h14v⟩ := hp 14 49 _ rfl rfl rfl; cases h14v.1 hgd0 hgd1; replace E := E.add e14
        refine g_off E rfl rfl rfl hgd2 ?_; clear E; intro a E
        exact ⟨_, _, S, rfl, E.get _ _ rfl, E.defers, fun x0 x1 x2 => absurd (hgd2.symm.trans x2) (by decide)⟩
      ·obtain ⟨_, eg, hgv⟩ := hp 14 49 _ rfl rfl rfl; cases hgv.2.2 hgd0 hgd1; replace E := E.add eg
       refine g_offu E rfl rfl rfl ?_; clear E; intro a E
       exact ⟨_, _, S, rfl, E.get _ _ rfl, E.defers, fun x0 x1 x2 => absurd (hgd1.symm.trans x1) (by decide)⟩
    ·intro a w G1 hl S E hp
     refine (Bool.eq_false_or_eq_true (!decide ((l.length : Int) = 1))).elim (fun hgd0 => ?_) (fun hgd0 => ?_)
     ·obtain ⟨_, eg, hgv⟩ := hp 14 49 _ rfl rfl rfl; cases hgv.2.1 hgd0; replace E := E.add eg
      refine g_offu E rfl rfl rfl ?_; clear E; intro a E
      exact ⟨_, _, S, rfl, E.get _ _ rfl, E.defers, fun x0 x1 x2 => absurd (hgd0.symm.trans x0) (by decide)⟩
     ·refine (Bool.eq_false_or_eq_true (!(takesB ((findS m o).1.out) (l.getD 0 ⟨0, 0, []⟩)))).elim (fun hgd1 => ?_) (fun hgd1 => ?_)
      ·refine (Bool.eq_false_or_eq_true ((findS m o).1.may)).elim (fun hgd2 => ?_) (fun hgd2 => ?_)
       ·obtain ⟨_, e14, h14v⟩ := hp 14 49 _ rfl rfl rfl; cases h14v.1 hgd0 hgd1; replace E := E.add e14
        obtain ⟨_, e16, h16v⟩ := hp 16 51 _ rfl rfl rfl; cases h16v hgd0 hgd1 hgd2; replace E := E.add e16
        refine op_on E rfl rfl hgd2 ?_
        obtain ⟨_, el18⟩ := hc18 (And.intro hgd0 (And.intro hgd1 (hgd2)))
        have el18 := kVal_open el18
        refine o_ldIA E rfl S rfl (el18.le hl) T.a49 ?_; clear E; intro a E
        exact ⟨_, _, S, rfl, E.get _ _ rfl, E.defers, fun x0 x1 x2 => rfl⟩
       ·obtain ⟨_, e14, h14v⟩ := hp 14 49 _ rfl rfl rfl; cases h14v.1 hgd0 hgd1; replace E := E.add e14
        refine g_off E rfl rfl rfl hgd2 ?_; clear E; intro a E
        exact ⟨_, _, S, rfl, E.get _ _ rfl, E.defers, fun x0 x1 x2 => absurd (hgd2.symm.trans x2) (by decide)⟩
      ·obtain ⟨_, eg, hgv⟩ := hp 14 49 _ rfl rfl rfl; cases hgv.2.2 hgd0 hgd1; replace E := E.add eg
       refine g_offu E rfl rfl rfl ?_; clear E; intro a E
       exact ⟨_, _, S, rfl, E.get _ _ rfl, E.defers, fun x0 x1 x2 => absurd (hgd1.symm.trans x1) (by decide)⟩
    ·intro a w G1 hl S E hp
     refine (Bool.eq_false_or_eq_true (!decide ((l.length : Int) = 1))).elim (fun hgd0 => ?_) (fun hgd0 => ?_)
     ·obtain ⟨_, eg, hgv⟩ := hp 14 49 _ rfl rfl rfl; cases hgv.2.1 hgd0; replace E := E.add eg
      refine g_offu E rfl rfl rfl ?_; clear E; intro a E
      exact ⟨_, _, S, rfl, E.get _ _ rfl, E.defers, fun x0 x1 x2 => absurd (hgd0.symm.trans x0) (by decide)⟩
     ·refine (Bool.eq_false_or_eq_true (!(takesB ((findS m o).1.out) (l.getD 0 ⟨0, 0, []⟩)))).elim (fun hgd1 => ?_) (fun hgd1 => ?_)
      ·refine (Bool.eq_false_or_eq_true ((findS m o).1.may)).elim (fun hgd2 => ?_) (fun hgd2 => ?_)
       ·obtain ⟨_, e14, h14v⟩ := hp 14 49 _ rfl rfl rfl; cases h14v.1 hgd0 hgd1; replace E := E.add e14
        refine op_on E rfl rfl hgd2 ?_
        refine o_build (cs := #[.int .i64 0, .int .i64 0, str []]) E rfl rfl (by kernel_rfl) ?_; clear E; intro a E
        exact ⟨_, _, S, rfl, E.get _ _ rfl, E.defers, fun x0 x1 x2 => rfl⟩
       ·obtain ⟨_, e14, h14v⟩ := hp 14 49 _ rfl rfl rfl; cases h14v.1 hgd0 hgd1; replace E := E.add e14
        refine g_off E rfl rfl rfl hgd2 ?_; clear E; intro a E
        exact ⟨_, _, S, rfl, E.get _ _ rfl, E.defers, fun x0 x1 x2 => absurd (hgd2.symm.trans x2) (by decide)⟩
      ·obtain ⟨_, eg, hgv⟩ := hp 14 49 _ rfl rfl rfl; cases hgv.2.2 hgd0 hgd1; replace E := E.add eg
       refine g_offu E rfl rfl rfl ?_; clear E; intro a E
       exact ⟨_, _, S, rfl, E.get _ _ rfl, E.defers, fun x0 x1 x2 => absurd (hgd1.symm.trans x1) (by decide)⟩
    ·intro a w G1 hl S E hp
     refine (Bool.eq_false_or_eq_true (!decide ((l.length : Int) = 1))).elim (fun hgd0 => ?_) (fun hgd0 => ?_)
     ·obtain ⟨_, eg, hgv⟩ := hp 14 49 _ rfl rfl rfl; cases hgv.2.1 hgd0; replace E := E.add eg
      refine g_offu E rfl rfl rfl ?_; clear E; intro a E
      exact ⟨_, _, S, rfl, E.get _ _ rfl, E.defers, fun x0 x1 x2 => absurd (hgd0.symm.trans x0) (by decide)⟩
     ·refine (Bool.eq_false_or_eq_true (!(takesB ((findS m o).1.out) (l.getD 0 ⟨0, 0, []⟩)))).elim (fun hgd1 => ?_) (fun hgd1 => ?_)
      ·refine (Bool.eq_false_or_eq_true ((findS m o).1.may)).elim (fun hgd2 => ?_) (fun hgd2 => ?_)
       ·obtain ⟨_, e14, h14v⟩ := hp 14 49 _ rfl rfl rfl; cases h14v.1 hgd0 hgd1; replace E := E.add e14
        obtain ⟨_, e17, h17v⟩ := hp 17 52 _ rfl rfl rfl; cases h17v hgd0 hgd1 hgd2; replace E := E.add e17
        obtain ⟨_, e18, h18v⟩ := hp 18 53 _ rfl rfl rfl; cases h18v hgd0 hgd1 hgd2; replace E := E.add e18
        refine op_on E rfl rfl hgd2 ?_
        refine o_eqA (b := decide (((l.getD 0 ⟨0, 0, []⟩).k) = 0) && (decide (((l.getD 0 ⟨0, 0, []⟩).n) = 0) && (((l.getD 0 ⟨0, 0, []⟩).s) == [] && true))) E rfl rfl rfl T.q49 rfl rfl ?_; clear E; intro a E
        exact ⟨_, _, S, rfl, E.get _ _ rfl, E.defers, fun x0 x1 x2 => rfl⟩
       ·obtain ⟨_, e14, h14v⟩ := hp 14 49 _ rfl rfl rfl; cases h14v.1 hgd0 hgd1; replace E := E.add e14
        refine g_off E rfl rfl rfl hgd2 ?_; clear E; intro a E
        exact ⟨_, _, S, rfl, E.get _ _ rfl, E.defers, fun x0 x1 x2 => absurd (hgd2.symm.trans x2) (by decide)⟩
      ·obtain ⟨_, eg, hgv⟩ := hp 14 49 _ rfl rfl rfl; cases hgv.2.2 hgd0 hgd1; replace E := E.add eg
       refine g_offu E rfl rfl rfl ?_; clear E; intro a E
       exact ⟨_, _, S, rfl, E.get _ _ rfl, E.defers, fun x0 x1 x2 => absurd (hgd1.symm.trans x1) (by decide)⟩
    ·intro a w G1 hl S E hp
     refine (Bool.eq_false_or_eq_true (!decide ((l.length : Int) = 1))).elim (fun hgd0 => ?_) (fun hgd0 => ?_)
     ·obtain ⟨_, eg, hgv⟩ := hp 11 46 _ rfl rfl rfl; cases hgv.2 hgd0; replace E := E.add eg
      refine g_offu E rfl rfl rfl ?_; clear E; intro a E
      exact ⟨_, _, S, rfl, E.get _ _ rfl, E.defers, fun x0 x1 => absurd (hgd0.symm.trans x0) (by decide)⟩
     ·refine (Bool.eq_false_or_eq_true (!(takesB ((findS m o).1.out) (l.getD 0 ⟨0, 0, []⟩)))).elim (fun hgd1 => ?_) (fun hgd1 => ?_)
      ·obtain ⟨_, e11, h11v⟩ := hp 11 46 _ rfl rfl rfl; cases h11v.1 hgd0; replace E := E.add e11
       refine op_on E rfl rfl hgd1 ?_
       obtain ⟨_, e14, h14v⟩ := hp 14 49 _ rfl rfl rfl; cases h14v.1 hgd0 hgd1; replace E := E.add e14
       refine (Bool.eq_false_or_eq_true ((findS m o).1.may)).elim (fun hgd2 => ?_) (fun hgd2 => ?_)
       ·obtain ⟨_, e19, h19v⟩ := hp 19 54 _ rfl rfl rfl; cases h19v hgd0 hgd1 hgd2; replace E := E.add e19
        refine o_pick_t E rfl rfl hgd2 rfl ?_; clear E; intro a E
        exact ⟨_, _, S, rfl, E.get _ _ rfl, E.defers, fun x0 x1 => (by rw [hgd2]; rfl)⟩
       ·refine o_pick_f E rfl rfl hgd2 rfl ?_; clear E; intro a E
        exact ⟨_, _, S, rfl, E.get _ _ rfl, E.defers, fun x0 x1 => (by rw [hgd2]; rfl)⟩
      ·obtain ⟨_, e11, h11v⟩ := hp 11 46 _ rfl rfl rfl; cases h11v.1 hgd0; replace E := E.add e11
       refine g_off E rfl rfl rfl hgd1 ?_; clear E; intro a E
       exact ⟨_, _, S, rfl, E.get _ _ rfl, E.defers, fun x0 x1 => absurd (hgd1.symm.trans x1) (by decide)⟩
    ·intro a w G1 hl S E hp
     refine (Bool.eq_false_or_eq_true (!decide ((l.length : Int) = 1))).elim (fun hgd0 => ?_) (fun hgd0 => ?_)
     ·obtain ⟨_, eg, hgv⟩ := hp 11 46 _ rfl rfl rfl; cases hgv.2 hgd0; replace E := E.add eg
      refine g_offu E rfl rfl rfl ?_; clear E; intro a E
      exact ⟨_, _, S, rfl, E.get _ _ rfl, E.defers, fun x0 x1 => absurd (hgd0.symm.trans x0) (by decide)⟩
     ·refine (Bool.eq_false_or_eq_true (!(takesB ((findS m o).1.out) (l.getD 0 ⟨0, 0, []⟩)))).elim (fun hgd1 => ?_) (fun hgd1 => ?_)
      ·obtain ⟨_, e11, h11v⟩ := hp 11 46 _ rfl rfl rfl; cases h11v.1 hgd0; replace E := E.add e11
       obtain ⟨_, e20, h20v⟩ := hp 20 55 _ rfl rfl rfl; cases h20v hgd0 hgd1; replace E := E.add e20
       refine op_on E rfl rfl hgd1 ?_
       refine o_not E rfl rfl ?_; clear E; intro a E
       exact ⟨_, _, S, rfl, E.get _ _ rfl, E.defers, fun x0 x1 => rfl⟩
      ·obtain ⟨_, e11, h11v⟩ := hp 11 46 _ rfl rfl rfl; cases h11v.1 hgd0; replace E := E.add e11
       refine g_off E rfl rfl rfl hgd1 ?_; clear E; intro a E
       exact ⟨_, _, S, rfl, E.get _ _ rfl, E.defers, fun x0 x1 => absurd (hgd1.symm.trans x1) (by decide)⟩
    ·intro a w G1 hl S E hp
     refine (Bool.eq_false_or_eq_true (!decide ((l.length : Int) = 1))).elim (fun hgd0 => ?_) (fun hgd0 => ?_)
     ·obtain ⟨_, e3, rfl⟩ := hp 3 38 _ rfl rfl rfl; replace E := E.add e3
      refine g_off E rfl rfl rfl hgd0 ?_; clear E; intro a E
      exact ⟨_, _, S, rfl, E.get _ _ rfl, E.defers, fun x0 => absurd (hgd0.symm.trans x0) (by decide)⟩
     ·obtain ⟨_, e3, rfl⟩ := hp 3 38 _ rfl rfl rfl; replace E := E.add e3
      refine op_on E rfl rfl hgd0 ?_
      obtain ⟨_, e11, h11v⟩ := hp 11 46 _ rfl rfl rfl; cases h11v.1 hgd0; replace E := E.add e11
      refine (Bool.eq_false_or_eq_true (!(takesB ((findS m o).1.out) (l.getD 0 ⟨0, 0, []⟩)))).elim (fun hgd1 => ?_) (fun hgd1 => ?_)
      ·obtain ⟨_, e21, h21v⟩ := hp 21 56 _ rfl rfl rfl; cases h21v hgd0 hgd1; replace E := E.add e21
       refine o_pick_t E rfl rfl hgd1 rfl ?_; clear E; intro a E
       exact ⟨_, _, S, rfl, E.get _ _ rfl, E.defers, fun x0 => (by rw [hgd1]; rfl)⟩
      ·refine o_pick_f E rfl rfl hgd1 rfl ?_; clear E; intro a E
       exact ⟨_, _, S, rfl, E.get _ _ rfl, E.defers, fun x0 => (by rw [hgd1]; rfl)⟩
    ·intro a w G1 hl S E hp
     obtain ⟨_, e3, rfl⟩ := hp 3 38 _ rfl rfl rfl; replace E := E.add e3
     refine (Bool.eq_false_or_eq_true (!decide ((l.length : Int) = 1))).elim (fun hgd0 => ?_) (fun hgd0 => ?_)
     ·refine o_pick_t E rfl rfl hgd0 rfl ?_; clear E; intro a E
      exact ⟨_, _, S, rfl, E.get _ _ rfl, E.defers, (by rw [hgd0]; rfl)⟩
     ·obtain ⟨_, e22, h22v⟩ := hp 22 57 _ rfl rfl rfl; cases h22v hgd0; replace E := E.add e22
      refine o_pick_f E rfl rfl hgd0 rfl ?_; clear E; intro a E
      exact ⟨_, _, S, rfl, E.get _ _ rfl, E.defers, (by rw [hgd0]; rfl)⟩
    ·intro a w G1 hl S E hp
     obtain ⟨_, e23, rfl⟩ := hp 23 58 _ rfl rfl rfl; replace E := E.add e23
     refine o_assign E rfl rfl ?_; clear E; intro a E
     exact ⟨_, _, S, rfl, E.get _ _ rfl, E.defers, rfl⟩
    clear E S; intro a w S E hp
    obtain ⟨_, e24, rfl⟩ := hp 24 34 _ rfl rfl; replace E := E.add e24
    clear hp
    refine hK15 _ _ ?_; clear hK15
    refine cond E rfl (fun h19r => ?_) (fun h19r => ?_)
    ·have h19 := nm h19r
     refine sr fun K hK => ?_
     refine rn 2 E S ?_; clear E S; intro a w E S
     apply hK; clear hK K
     refine rt hQ E S ?_
     have he : outsS m o l = ([], false) := by
      have h1 : oneB m o l = false := by
       have hz := h19r
       unfold oneB
       rw [same_nil] at hz
       cases h_a : takesB (findS m o).1.out (l.getD 0 ⟨0, 0, []⟩) <;> cases h_b : (findS m o).1.may <;> by_cases h_c : (l.length : Int) = 1 <;> simp_all
      unfold outsS
      rw [if_neg (by simpa using h6)]
      rw [if_neg (by simpa using h9)]
      rw [if_neg (by simpa using h12)]
      rw [if_neg (by rw [h1]; decide)]
     rw [he]
     exact ⟨_, _, rfl, Nat.le_refl _, .nil⟩
    ·have h19 := nm h19r
     refine wp_skip ?_
     refine hK3 _ _ ?_; clear hK3
     refine sr fun K hK => ?_
     refine rn 2 E S ?_; clear E S; intro a w E S
     refine o_buildSl (cs := #[.int .i64 ((findS m o).1.out)]) [(0, _)] E rfl S rfl T.l59 (by kernel_rfl) ⟨rfl, trivial⟩ ?_; clear E S; intro B61 w a S E
     obtain ⟨G21, hle23, hC22, S'⟩ := S.stillHead (n := 1) rfl; clear S; have S := S'; clear S'
     replace hg0 := hg0.le hle23
     replace hg1 := hg1.le hle23
     replace hR := hR.le hle23
     have hW24 := Rd.ofCells (K := Knd.int .i64) (xs := [(findS m o).1.out]) hC22 ⟨rfl, rfl⟩
     refine rn 2 E S ?_; clear E S; intro a w E S
     apply hK; clear hK K
     refine rt hQ E S ?_
     have he : outsS m o l = ([(findS m o).1.out], true) := by
      have h1 : oneB m o l = true := by
       have hz := h19r
       unfold oneB
       rw [same_nil] at hz
       cases h_a : takesB (findS m o).1.out (l.getD 0 ⟨0, 0, []⟩) <;> cases h_b : (findS m o).1.may <;> by_cases h_c : (l.length : Int) = 1 <;> simp_all
      unfold outsS
      rw [if_neg (by simpa using h6)]
      rw [if_neg (by simpa using h9)]
      rw [if_neg (by simpa using h12)]
      rw [if_pos h1]
     rw [he]
     exact ⟨_, _, rfl, Nat.le_refl _, hW24⟩
end Go.Proofs.YtnfadpkhjfillaaDoor.T28
