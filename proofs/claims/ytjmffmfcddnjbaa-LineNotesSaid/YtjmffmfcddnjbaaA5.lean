/- Chapter 08 walked. -/
import Derived.Test.YtjmffmfcddnjbaaL8
import Derived.Test.YtjmffmfcddnjbaaProg
set_option linter.unusedVariables false
set_option linter.unusedSimpArgs false
namespace Go.Proofs.Ytjmffmfcddnjbaa.T8
open Go Go.Proofs.Ytjmffmfcddnjbaa.X
theorem T.a26 : aggSz Try.prog 26 = some 2 := by kernel_rfl
theorem T.a36 : aggSz Try.prog 36 = some 4 := by kernel_rfl
theorem T.f36_0 : fieldOff Try.prog 36 0 = some 0 := by kernel_rfl
theorem T.f36_1 : fieldOff Try.prog 36 1 = some 1 := by kernel_rfl
theorem T.f36_2 : fieldOff Try.prog 36 2 = some 2 := by kernel_rfl
theorem T.f36_3 : fieldOff Try.prog 36 3 = some 3 := by kernel_rfl
theorem T.g10 : goFn Try.prog 10 = true := by kernel_rfl
theorem T.g12 : goFn Try.prog 12 = true := by kernel_rfl
theorem T.g13 : goFn Try.prog 13 = true := by kernel_rfl
theorem T.g14 : goFn Try.prog 14 = true := by kernel_rfl
theorem T.g5 : goFn Try.prog 5 = true := by kernel_rfl
theorem T.g6 : goFn Try.prog 6 = true := by kernel_rfl
theorem T.g7 : goFn Try.prog 7 = true := by kernel_rfl
theorem T.g8 : goFn Try.prog 8 = true := by kernel_rfl
theorem T.g9 : goFn Try.prog 9 = true := by kernel_rfl
theorem T.l23 : slOf Try.prog 23 = some (9, 1) := by kernel_rfl
theorem T.mix : Try.prog.follows .mixedOrders = true := by kernel_rfl
theorem T.p23 : apOf Try.prog 23 = some (9, 1, 16) := by kernel_rfl
theorem T.q26 : flatT Try.prog 26 = some [.int .i64, .int .i64] := by kernel_rfl
theorem T.s4 : scal Try.prog 4 = true := by kernel_rfl
theorem T.s9 : scal Try.prog 9 = true := by kernel_rfl
theorem T.z26 : zeroOf Try.prog 26 = some (.agg #[.int .i64 0, .int .i64 0]) := by kernel_rfl
theorem T.z36 : zeroOf Try.prog 36 = some (.agg #[str [], str [], .bool false, .bool false]) := by kernel_rfl

theorem take_snoc_eq {α : Type} {a b : List α} {i : Nat} (h : a.take i = b.take i) (ha : i < a.length) (hb : i < b.length) (e : a[i] = b[i]) : a.take (i + 1) = b.take (i + 1) := by
  rw [List.take_add_one, List.take_add_one, h, List.getElem?_eq_getElem ha, List.getElem?_eq_getElem hb, e]
/-- What a line has, and its note; the fault. -/
def noteS (s : Bs) : Bs × Bs × Bool × Int :=
  if cutF s 59 = false then (s, [], false, 0)
  else if (!Lib.hasSuffix (cutA s 59) [32]) = true ∨ 100 < ((cutB s 59).length : Int) ∨ 0 ≤ Lib.indexByte (cutB s 59) 10 then ([], [], false, 2)
  else (Lib.trimSuffix (cutA s 59) [32], cutB s 59, true, 0)
theorem cutA_len (s : Bs) (c : UInt8) : (cutA s c).length ≤ s.length := by
  unfold cutA
  rcases index_two s c with h | ⟨i, h⟩
  · rw [cut_none h]; exact Nat.le_refl _
  · rw [cut_some h, List.length_take]; omega
theorem cutB_len (s : Bs) (c : UInt8) : (cutB s c).length ≤ s.length := by
  unfold cutB
  rcases index_two s c with h | ⟨i, h⟩
  · rw [cut_none h]; exact Nat.zero_le _
  · rw [cut_some h, List.length_drop]; omega
theorem idx_none {s : Bs} {c : UInt8} (h : ∀ j (hj : j < s.length), ¬ s[j] = c) : Lib.indexByte s c = -1 := by
  induction s with
  | nil => rfl
  | cons b r ih =>
    have h0 := h 0 (by simp)
    have hr := ih fun j hj => h (j + 1) (by simpa using hj)
    simp only [List.getElem_cons_zero] at h0
    unfold Lib.indexByte
    rw [hr]
    simp [h0]
theorem idx_at {s : Bs} {c : UInt8} {i : Nat} (hi : i < s.length) (he : s[i] = c) (h : ∀ j (hj : j < i), ¬ s[j]'(by omega) = c) : Lib.indexByte s c = (i : Int) := by
  induction s generalizing i with
  | nil => simp at hi
  | cons b r ih =>
    unfold Lib.indexByte
    cases i with
    | zero =>
      have : b = c := he
      simp [this]
    | succ i =>
      have h0 := h 0 (by omega)
      simp only [List.getElem_cons_zero] at h0
      have hr := ih (i := i) (by simpa using hi) (by simpa using he) fun j hj => by have := h (j + 1) (by omega); simpa using this
      rw [hr]
      have hb : (b == c) = false := by simpa using h0
      have hx : (((i : Nat) : Int) == -1) = false := by
        simp only [beq_eq_false_iff_ne, ne_eq]; omega
      rw [hb, hx]
      simp
theorem idx_pos {s : Bs} {c : UInt8} {i : Nat} (hi : i < s.length) (he : s[i] = c) : 0 ≤ Lib.indexByte s c := by
  rcases index_two s c with h | ⟨k, h⟩
  · exfalso
    induction s generalizing i with
    | nil => simp at hi
    | cons b r ih =>
      unfold Lib.indexByte at h
      split at h
      · cases h
      · rename_i hb
        have hr : Lib.indexByte r c = -1 := by
          split at h
          · rename_i h2; simpa using h2
          · have := Lib.indexByte_ge r c; omega
        cases i with
        | zero => exact hb (by simpa using he)
        | succ i => exact ih (i := i) (by simpa using hi) (by simpa using he) hr
  · omega

theorem suff_snoc (q : Bs) (b c : UInt8) : Lib.hasSuffix (q ++ [b]) [c] = decide (b = c) := by
  unfold Lib.hasSuffix
  rw [Bool.eq_iff_iff, List.isSuffixOf_iff_suffix, decide_eq_true_eq]
  constructor
  · rintro ⟨t, h⟩
    exact (List.append_inj' h rfl).2 |> fun e => by simpa using e.symm
  · rintro rfl
    exact ⟨q, rfl⟩
theorem suff_nil (c : UInt8) : Lib.hasSuffix [] [c] = false := rfl
theorem trim_snoc (q : Bs) (c : UInt8) : Lib.trimSuffix (q ++ [c]) [c] = q := by
  unfold Lib.trimSuffix
  rw [suff_snoc, decide_eq_true rfl, if_pos rfl]
  simp
theorem note_none {s : Bs} {i : Nat} (h1 : s.length ≤ i) (ha : ∀ j (hj : j < s.length), ¬ s[j] = 59) : noteS s = (s, [], false, 0) := by
  unfold noteS cutF
  rw [cut_none (idx_none ha), if_pos rfl]
theorem note_at {s : Bs} {i : Nat} (hi : i < s.length) (he : s[i] = 59) (ha : ∀ j (hj : j < i), ¬ s[j]'(by omega) = 59) :
    noteS s = if ((i : Int) = 0 ∨ ¬ bt s ((i : Int) - 1) = 32) ∨ 100 < ((List.drop ((i : Int) + 1).toNat s).length : Int) ∨ 0 ≤ Lib.indexByte (List.drop ((i : Int) + 1).toNat s) 10 then ([], [], false, 2) else (List.take ((i : Int) - 1).toNat s, List.drop ((i : Int) + 1).toNat s, true, 0) := by
  have hc := cut_some (idx_at hi he ha)
  have e1 : ((i : Int) + 1).toNat = i + 1 := by omega
  unfold noteS cutF cutA cutB
  rw [hc, e1]
  dsimp only
  rw [if_neg (by decide)]
  rcases Nat.eq_zero_or_pos i with h0 | h0
  · subst h0
    rw [if_pos (by left; rfl), if_pos (by left; left; rfl)]
  · obtain ⟨k, rfl⟩ : ∃ k, i = k + 1 := ⟨i - 1, by omega⟩
    have e2 : (((k + 1 : Nat) : Int) - 1).toNat = k := by omega
    have e3 : s.take (k + 1) = s.take k ++ [s[k]] := take_snoc (by omega)
    have e4 : bt s (((k + 1 : Nat) : Int) - 1) = ((s[k].toNat : Nat) : Int) := by rw [show ((k + 1 : Nat) : Int) - 1 = (k : Int) by omega]; exact bt_nat (by omega)
    have e5 : (((k + 1 : Nat) : Int) = 0 ∨ ¬ bt s (((k + 1 : Nat) : Int) - 1) = 32) ↔ ¬ s[k] = 32 := by
      rw [e4]
      constructor
      · rintro (h | h)
        · omega
        · intro e; rw [e] at h; exact h rfl
      · intro h
        right
        intro e
        exact h (UInt8.toNat_inj.1 (by simpa using (by omega : s[k].toNat = 32)))
    rw [e2, e3, suff_snoc]
    by_cases hk : s[k] = 32
    · rw [hk, decide_eq_true rfl, trim_snoc]
      have : ¬ (((k + 1 : Nat) : Int) = 0 ∨ ¬ bt s (((k + 1 : Nat) : Int) - 1) = 32) := fun h => e5.1 h hk
      simp only [this, false_or, Bool.not_true, Bool.false_eq_true]
    · rw [decide_eq_false hk, if_pos (by left; rfl), if_pos (.inl (e5.2 hk))]

theorem note_cases (s : Bs) : (noteS s).2.2.2 = 0 ∨ noteS s = ([], [], false, 2) := by
  unfold noteS
  split
  · exact .inl rfl
  · split
    · exact .inr rfl
    · exact .inl rfl

theorem sub_lst' {c : UInt8} {s : Bs} {p : Nat × Nat} (h : p.2 = atS c s p.1) (hn : p.1 ≤ s.length) : sub s ((p.2 : Nat) : Int) ((p.1 : Nat) : Int) = lst c (s.take p.1) := by
  rw [h]; exact sub_lst hn
/-! `incognito/incognitoref08.Split` -/
set_option maxRecDepth 100000 in
set_option maxHeartbeats 4000000 in
theorem c_Split8 (s : Bs) (w0 : World) (G : Heap) (hG : Sub G w0) (hl : s.length ≤ 4294967280):
    Calls Try.prog 7 #[str s] w0 (Ret w0 G (fun v G' => ∃ A c, v = .tuple #[.slice A (linesS s).1.length c, .int .i64 (linesS s).2] ∧ (linesS s).1.length ≤ c ∧ Rd Knd.s G' A (linesS s).1)) := by
  refine enter Try.func7 rfl Try.ntmps7 rfl ?_
  intro Q hQ a HE
  have HS := St.start0 hG
  refine wp_seq_k (fun K hK => ?_); refine wp_region_lit ?_
  refine o_assign HE rfl rfl ?_; clear HE; intro a HE
  refine o_assign HE rfl rfl ?_; clear HE; intro a HE
  refine hK _ _ ?_; clear hK K
  refine wp_seq_k (fun K hK => ?_); refine wp_region_lit ?_
  refine o_assign HE rfl rfl ?_; clear HE; intro a HE
  refine hK _ _ ?_; clear hK K
  refine wp_seq_k (fun K hK => ?_); refine wp_region_lit ?_
  refine o_assign HE rfl rfl ?_; clear HE; intro a HE
  refine hK _ _ ?_; clear hK K
  refine wp_seq_k (fun K5 hK4 => ?_)
  refine wp_seq_k (fun K hK => ?_); refine wp_region_lit ?_
  refine o_assign HE rfl rfl ?_; clear HE; intro a HE
  refine hK _ _ ?_; clear hK K
  refine wp_block ?_
  replace HS := HS.nilChunk
  have oH8 : X.Own Knd.s 9 G none 0 ([] : List Bs) [] := X.Own.nil
  refine loop (fun (p : Nat × Nat) a' w' => ∃ (oA4_1 : Option Addr) (oc4_1 : Nat) (oC4_1 : Chunk), St w0 G [] G w' [oC4_1] ∧ Env a' 34 [] [(0, str s), (4, .slice oA4_1 ((pcs 10 (s.take p.1)).length) oc4_1), (5, .int .i64 ((p.2 : Nat) : Int)), (6, .int .i64 ((p.1 : Nat) : Int))] ∧ X.Own Knd.s 9 G oA4_1 oc4_1 (pcs 10 (s.take p.1)) oC4_1 ∧ (p.1 ≤ s.length ∧ p.2 = atS 10 s p.1)) (fun (p : Nat × Nat) => s.length - p.1) (0, 0) ⟨_, _, _, HS, HE.cut ⟨rfl, rfl, rfl, rfl, trivial⟩, X.Own.nil (K := Knd.s), ⟨Nat.zero_le _, (at_zero 10 s).symm⟩⟩ ?_
  clear HE HS; intro p a w ⟨oA4_1, oc4_1, oC4_1, HS, HE, oH4_1, ⟨hq1, hq2⟩⟩
  refine wp_seq_k (fun K11 hK10 => ?_)
  refine wp_seq_k (fun K hK => ?_); refine wp_region_lit ?_
  refine o_move HE rfl rfl ?_; clear HE; intro a HE
  refine o_move HE rfl rfl ?_; clear HE; intro a HE
  refine o_lenS HE rfl rfl Try.underlying9 ?_; clear HE; intro a HE
  refine o_lss HE rfl rfl rfl ?_; clear HE; intro a HE
  refine hK _ _ ?_; clear hK K
  refine cond HE rfl (fun h13 => ?_) (fun h13 => ?_)
  · have h13r := h13; try simp only [Bool.not_eq_true', Bool.not_eq_false', Bool.and_eq_true, Bool.or_eq_true, Bool.or_eq_false_iff, Bool.and_eq_false_iff, decide_eq_true_eq, decide_eq_false_iff_not, beq_iff_eq, beq_eq_false_iff_ne, ne_eq] at h13
    refine wp_skip ?_
    refine hK10 _ _ ?_; clear hK10
    refine wp_seq_k (fun K15 hK14 => ?_)
    refine wp_block ?_
    refine wp_seq_k (fun K hK => ?_); refine wp_region_lit ?_
    refine o_move HE rfl rfl ?_; clear HE; intro a HE
    refine o_move HE rfl rfl ?_; clear HE; intro a HE
    refine o_index HE rfl rfl rfl Try.underlying9 (by omega) ?_; clear HE; intro a HE
    refine o_eqI HE rfl rfl rfl ?_; clear HE; intro a HE
    refine hK _ _ ?_; clear hK K
    refine cond HE rfl (fun h17 => ?_) (fun h17 => ?_)
    · have h17r := h17; try simp only [Bool.not_eq_true', Bool.not_eq_false', Bool.and_eq_true, Bool.or_eq_true, Bool.or_eq_false_iff, Bool.and_eq_false_iff, decide_eq_true_eq, decide_eq_false_iff_not, beq_iff_eq, beq_eq_false_iff_ne, ne_eq] at h17
      refine wp_seq_k (fun K hK => ?_); refine wp_region_lit ?_
      refine o_move HE rfl rfl ?_; clear HE; intro a HE
      refine o_move HE rfl rfl ?_; clear HE; intro a HE
      refine o_move HE rfl rfl ?_; clear HE; intro a HE
      refine o_move HE rfl rfl ?_; clear HE; intro a HE
      refine o_sliceS HE rfl rfl rfl rfl Try.underlying9 (by (have := atS_le 10 s p.1; omega)) ?_; clear HE; intro a HE
      refine o_buildSl (cs := #[str (sub s ((p.2 : Nat) : Int) ((p.1 : Nat) : Int))]) [(0, _)] HE rfl HS rfl T.l23 (by kernel_rfl) ⟨rfl, trivial⟩ ?_; clear HE HS; intro B22 w a HS HE
      refine o_appendL (K := Knd.s) (ys := [sub s ((p.2 : Nat) : Int) ((p.1 : Nat) : Int)]) (n := 1) HE rfl HS (.there .here) oH4_1 rfl rfl T.p23 (.here .here) rfl ⟨rfl, rfl⟩ rfl rfl (by (have := pcs_len 10 s p.1 (by omega); simp; omega)) (by (have := pcs_len 10 s p.1 (by omega); simp; omega)) ?_
      clear HE HS; intro oA18 oc18 oC18 w a HS oH18 HE
      refine o_assign HE rfl rfl ?_; clear HE; intro a HE
      refine hK _ _ ?_; clear hK K
      refine wp_region_lit ?_
      refine o_move HE rfl rfl ?_; clear HE; intro a HE
      refine o_add HE rfl rfl rfl (by omega) ?_; clear HE; intro a HE
      refine o_assign HE rfl rfl ?_; clear HE; intro a HE
      refine hK14 _ _ ?_; clear hK14
      refine wp_region_lit ?_
      refine o_move HE rfl rfl ?_; clear HE; intro a HE
      refine o_add HE rfl rfl rfl (by omega) ?_; clear HE; intro a HE
      refine o_assign HE rfl rfl ?_; clear HE; intro a HE
      replace HS := HS.drop (M' := [_]) (sub_keep (sub_drop sub_nil))
      have hpn : p.1 + 1 ≤ s.length ∧ p.1 + 1 = atS 10 s (p.1 + 1) := ⟨by omega, (at_hit (by omega) (bAt8 (by omega) (by simpa using h17))).symm⟩
      have hxs : ((pcs 10 (s.take p.1)) ++ [sub s ((p.2 : Nat) : Int) ((p.1 : Nat) : Int)]) = pcs 10 (s.take (p.1 + 1)) := by rw [sub_lst' hq2 (by omega), pcs_hit (by omega) (bAt8 (by omega) (by simpa using h17))]
      rw [hxs] at HE oH18; clear hxs
      exact ⟨(p.1 + 1, p.1 + 1), ⟨_, _, _, HS, HE.cut ⟨rfl, rfl, rfl, rfl, trivial⟩, oH18, hpn⟩, by show s.length - (p.1 + 1) < _; omega⟩
    · have h17r := h17; try simp only [Bool.not_eq_true', Bool.not_eq_false', Bool.and_eq_true, Bool.or_eq_true, Bool.or_eq_false_iff, Bool.and_eq_false_iff, decide_eq_true_eq, decide_eq_false_iff_not, beq_iff_eq, beq_eq_false_iff_ne, ne_eq] at h17
      refine wp_skip ?_
      refine hK14 _ _ ?_; clear hK14
      refine wp_region_lit ?_
      refine o_move HE rfl rfl ?_; clear HE; intro a HE
      refine o_add HE rfl rfl rfl (by omega) ?_; clear HE; intro a HE
      refine o_assign HE rfl rfl ?_; clear HE; intro a HE
      have hpn : p.1 + 1 ≤ s.length ∧ p.2 = atS 10 s (p.1 + 1) := ⟨by omega, hq2.trans (at_miss (by omega) (bNo8 (by omega) (by simpa using h17))).symm⟩
      have hxs : (pcs 10 (s.take p.1)) = pcs 10 (s.take (p.1 + 1)) := (pcs_miss (by omega) (bNo8 (by omega) (by simpa using h17))).symm
      rw [hxs] at HE oH4_1; clear hxs
      exact ⟨(p.1 + 1, p.2), ⟨_, _, _, HS, HE.cut ⟨rfl, rfl, rfl, rfl, trivial⟩, oH4_1, hpn⟩, by show s.length - (p.1 + 1) < _; omega⟩
  · have h13r := h13; try simp only [Bool.not_eq_true', Bool.not_eq_false', Bool.and_eq_true, Bool.or_eq_true, Bool.or_eq_false_iff, Bool.and_eq_false_iff, decide_eq_true_eq, decide_eq_false_iff_not, beq_iff_eq, beq_eq_false_iff_ne, ne_eq] at h13
    refine wp_exit ?_
    refine hK4 _ _ ?_; clear hK4
    refine wp_seq_k (fun K21 hK20 => ?_)
    refine wp_seq_k (fun K hK => ?_); refine wp_region_lit ?_
    refine o_move HE rfl rfl ?_; clear HE; intro a HE
    refine o_move HE rfl rfl ?_; clear HE; intro a HE
    refine o_lenS HE rfl rfl Try.underlying9 ?_; clear HE; intro a HE
    refine o_lss HE rfl rfl rfl ?_; clear HE; intro a HE
    refine hK _ _ ?_; clear hK K
    refine cond HE rfl (fun h23 => ?_) (fun h23 => ?_)
    · have h23r := h23; try simp only [Bool.not_eq_true', Bool.not_eq_false', Bool.and_eq_true, Bool.or_eq_true, Bool.or_eq_false_iff, Bool.and_eq_false_iff, decide_eq_true_eq, decide_eq_false_iff_not, beq_iff_eq, beq_eq_false_iff_ne, ne_eq] at h23
      refine wp_seq_k (fun K hK => ?_); refine wp_region_lit ?_
      refine o_move HE rfl rfl ?_; clear HE; intro a HE
      refine o_lenL HE rfl rfl Try.underlying23 ?_; clear HE; intro a HE
      have hpl := pcs_len 10 s p.1 (by omega)
      refine o_add HE rfl rfl rfl (by omega) ?_; clear HE; intro a HE
      refine o_assign HE rfl rfl ?_; clear HE; intro a HE
      refine o_assign HE rfl rfl ?_; clear HE; intro a HE
      refine hK _ _ ?_; clear hK K
      refine wp_ret ?_
      show Q .ret _ _
      refine ret hQ HE rfl (HE.res rfl (HE.res rfl .nil)) ⟨_, _, HS.stop (List.nil_sublist _), rfl, ?_⟩
      have hql := atS_le 10 s s.length
      have hp1 : p.1 = s.length := by omega
      have e : linesS s = ([], ((pcs 10 (s.take p.1)).length : Int) + 1) := by
        unfold linesS
        rw [if_neg (lst_some (by rw [hp1] at hq2; rw [← hq2]; omega)), hp1, List.take_length]
      rw [e]
      exact ⟨_, _, rfl, Nat.le_refl _, .nil⟩
    · have h23r := h23; try simp only [Bool.not_eq_true', Bool.not_eq_false', Bool.and_eq_true, Bool.or_eq_true, Bool.or_eq_false_iff, Bool.and_eq_false_iff, decide_eq_true_eq, decide_eq_false_iff_not, beq_iff_eq, beq_eq_false_iff_ne, ne_eq] at h23
      refine wp_skip ?_
      refine hK20 _ _ ?_; clear hK20
      refine wp_seq_k (fun K hK => ?_); refine wp_region_lit ?_
      refine o_move HE rfl rfl ?_; clear HE; intro a HE
      refine o_assign HE rfl rfl ?_; clear HE; intro a HE
      refine o_assign HE rfl rfl ?_; clear HE; intro a HE
      refine hK _ _ ?_; clear hK K
      refine wp_ret ?_
      have hcphR27 := oH4_1.cap
      obtain ⟨G26, hle28, HS', hR27⟩ := X.Own.still HS .here oH4_1; clear HS; have HS := HS'; clear HS'
      show Q .ret _ _
      refine ret hQ HE rfl (HE.res rfl (HE.res rfl .nil)) ⟨_, _, HS.stop (List.nil_sublist _), rfl, ?_⟩
      have hql := atS_le 10 s s.length
      have hp1 : p.1 = s.length := by omega
      have e : linesS s = (pcs 10 (s.take p.1), 0) := by
        unfold linesS
        rw [if_pos (lst_none (by rw [hp1] at hq2; rw [← hq2]; omega)), hp1, List.take_length]
      rw [e]
      exact ⟨_, _, rfl, by assumption, by assumption⟩

/-! `incognito/incognitoref08.Same` -/
set_option maxRecDepth 100000 in
set_option maxHeartbeats 4000000 in
theorem c_same8 (xa : List Bs) (Aa : Option Addr) (ca : Nat) (xb : List Bs) (Ab : Option Addr) (cb : Nat) (w0 : World) (G : Heap) (hG : Sub G w0) (hRxa : Rd Knd.s G Aa xa) (hlxa : xa.length ≤ 9223372036854775807) (hRxb : Rd Knd.s G Ab xb) (hlxb : xb.length ≤ 9223372036854775807):
    Calls Try.prog 8 #[.slice Aa xa.length ca, .slice Ab xb.length cb] w0 (Ret w0 G (fun v _ => v = .bool (decide (xa = xb)))) := by
  refine enter Try.func8 rfl Try.ntmps8 rfl ?_
  intro Q hQ a HE
  have HS := St.start0 hG
  refine wp_seq_k (fun K hK => ?_); refine wp_region_lit ?_
  refine o_assign HE rfl rfl ?_; clear HE; intro a HE
  refine hK _ _ ?_; clear hK K
  refine wp_seq_k (fun K3 hK2 => ?_)
  refine wp_seq_k (fun K hK => ?_); refine wp_region_lit ?_
  refine o_move HE rfl rfl ?_; clear HE; intro a HE
  refine o_lenL HE rfl rfl Try.underlying23 ?_; clear HE; intro a HE
  refine o_move HE rfl rfl ?_; clear HE; intro a HE
  refine o_lenL HE rfl rfl Try.underlying23 ?_; clear HE; intro a HE
  refine o_neI HE rfl rfl rfl ?_; clear HE; intro a HE
  refine hK _ _ ?_; clear hK K
  refine cond HE rfl (fun h5 => ?_) (fun h5 => ?_)
  · have h5r := h5; try simp only [Bool.not_eq_true', Bool.not_eq_false', Bool.and_eq_true, Bool.or_eq_true, Bool.or_eq_false_iff, Bool.and_eq_false_iff, decide_eq_true_eq, decide_eq_false_iff_not, beq_iff_eq, beq_eq_false_iff_ne, ne_eq] at h5
    refine wp_seq_k (fun K hK => ?_); refine wp_region_lit ?_
    refine o_assign HE rfl rfl ?_; clear HE; intro a HE
    refine hK _ _ ?_; clear hK K
    refine wp_ret ?_
    show Q .ret _ _
    refine ret hQ HE rfl (HE.res rfl .nil) ⟨_, _, HS.stop (List.nil_sublist _), rfl, ?_⟩
    show _ = _
    simp only [packed, Value.bool.injEq]
    exact (decide_eq_false fun e => by subst e; omega).symm
  · have h5r := h5; try simp only [Bool.not_eq_true', Bool.not_eq_false', Bool.and_eq_true, Bool.or_eq_true, Bool.or_eq_false_iff, Bool.and_eq_false_iff, decide_eq_true_eq, decide_eq_false_iff_not, beq_iff_eq, beq_eq_false_iff_ne, ne_eq] at h5
    refine wp_skip ?_
    refine hK2 _ _ ?_; clear hK2
    refine wp_seq_k (fun K8 hK7 => ?_)
    refine wp_seq_k (fun K hK => ?_); refine wp_region_lit ?_
    refine o_assign HE rfl rfl ?_; clear HE; intro a HE
    refine hK _ _ ?_; clear hK K
    refine wp_block ?_
    refine loop (fun (i : Nat) a' w' => St w0 G [] G w' [] ∧ Env a' 26 [] [(0, .slice Aa xa.length ca), (1, .slice Ab xb.length cb), (4, .bool false), (5, .int .i64 (i : Int))] ∧ (i ≤ xa.length ∧ xa.take i = xb.take i)) (fun (i : Nat) => xa.length - i) 0 ⟨HS, HE.cut ⟨rfl, rfl, rfl, rfl, trivial⟩, ⟨Nat.zero_le _, rfl⟩⟩ ?_
    clear HE HS; intro i a w ⟨HS, HE, ⟨hi, ht⟩⟩
    refine wp_seq_k (fun K12 hK11 => ?_)
    refine wp_seq_k (fun K hK => ?_); refine wp_region_lit ?_
    refine o_move HE rfl rfl ?_; clear HE; intro a HE
    refine o_move HE rfl rfl ?_; clear HE; intro a HE
    refine o_lenL HE rfl rfl Try.underlying23 ?_; clear HE; intro a HE
    refine o_lss HE rfl rfl rfl ?_; clear HE; intro a HE
    refine hK _ _ ?_; clear hK K
    refine cond HE rfl (fun h14 => ?_) (fun h14 => ?_)
    · have h14r := h14; try simp only [Bool.not_eq_true', Bool.not_eq_false', Bool.and_eq_true, Bool.or_eq_true, Bool.or_eq_false_iff, Bool.and_eq_false_iff, decide_eq_true_eq, decide_eq_false_iff_not, beq_iff_eq, beq_eq_false_iff_ne, ne_eq] at h14
      refine wp_skip ?_
      refine hK11 _ _ ?_; clear hK11
      refine wp_seq_k (fun K16 hK15 => ?_)
      refine wp_block ?_
      refine wp_seq_k (fun K18 hK17 => ?_)
      have hi19 : (i : Int).toNat < xa.length := by omega
      obtain ⟨eb19, eo19, hA19, el19⟩ := Rd.at hRxa (List.getElem?_eq_getElem hi19); cases hA19
      obtain ⟨x19, ex19⟩ : ∃ x, xa[(i : Int).toNat] = x := ⟨_, rfl⟩; rw [ex19] at el19
      have el19 := kof_open (enc := fun l => str l) el19
      have hi20 : (i : Int).toNat < xb.length := by omega
      obtain ⟨eb20, eo20, hA20, el20⟩ := Rd.at hRxb (List.getElem?_eq_getElem hi20); cases hA20
      obtain ⟨x20, ex20⟩ : ∃ x, xb[(i : Int).toNat] = x := ⟨_, rfl⟩; rw [ex20] at el20
      have el20 := kof_open (enc := fun l => str l) el20
      replace HE := HE.cut (L' := [(0, .slice (some ⟨eb19, eo19, none⟩) xa.length ca), (1, .slice (some ⟨eb20, eo20, none⟩) xb.length cb), (4, .bool false), (5, .int .i64 (i : Int)), (11, .int .i64 (i : Int)), (12, .slice (some ⟨eb19, eo19, none⟩) xa.length ca), (13, .int .i64 (xa.length : Int)), (14, .bool (decide ((i : Int) < (xa.length : Int))))]) ⟨rfl, rfl, rfl, rfl, rfl, rfl, rfl, rfl, trivial⟩
      refine drawnP [fun v => v = .slice (some ⟨eb19, eo19, none⟩) xa.length ca, fun v => v = .int .i64 (i : Int), fun v => v = .pointer (some ⟨eb19, eo19 + (i : Int).toNat * 1, none⟩), fun v => v = str x19, fun v => v = .slice (some ⟨eb20, eo20, none⟩) xb.length cb, fun v => v = .int .i64 (i : Int), fun v => v = .pointer (some ⟨eb20, eo20 + (i : Int).toNat * 1, none⟩), fun v => v = str x20, fun v => v = .bool (!(x19 == x20))] T.mix rfl HE HS rfl ⟨?_, ?_, ?_, ?_, ?_, ?_, ?_, ?_, ?_, trivial⟩ ?_
      · intro a w G1 hl HS HE hp
        refine o_move HE rfl rfl ?_; clear HE; intro a HE
        exact ⟨_, _, HS, rfl, HE.get _ _ rfl, HE.defers, rfl⟩
      · intro a w G1 hl HS HE hp
        refine o_move HE rfl rfl ?_; clear HE; intro a HE
        exact ⟨_, _, HS, rfl, HE.get _ _ rfl, HE.defers, rfl⟩
      · intro a w G1 hl HS HE hp
        obtain ⟨_, e0, rfl⟩ := hp 0 17 _ rfl rfl rfl; replace HE := HE.add e0
        obtain ⟨_, e1, rfl⟩ := hp 1 18 _ rfl rfl rfl; replace HE := HE.add e1
        refine o_ixL HE rfl rfl rfl T.l23 ⟨by omega, by omega⟩ ?_; clear HE; intro a HE
        exact ⟨_, _, HS, rfl, HE.get _ _ rfl, HE.defers, rfl⟩
      · intro a w G1 hl HS HE hp
        obtain ⟨_, e2, rfl⟩ := hp 2 19 _ rfl rfl rfl; replace HE := HE.add e2
        refine o_ldI HE rfl HS rfl T.s9 (el19.le hl) (j := 0) rfl rfl ?_; clear HE; intro a HE
        exact ⟨_, _, HS, rfl, HE.get _ _ rfl, HE.defers, rfl⟩
      · intro a w G1 hl HS HE hp
        refine o_move HE rfl rfl ?_; clear HE; intro a HE
        exact ⟨_, _, HS, rfl, HE.get _ _ rfl, HE.defers, rfl⟩
      · intro a w G1 hl HS HE hp
        refine o_move HE rfl rfl ?_; clear HE; intro a HE
        exact ⟨_, _, HS, rfl, HE.get _ _ rfl, HE.defers, rfl⟩
      · intro a w G1 hl HS HE hp
        obtain ⟨_, e4, rfl⟩ := hp 4 21 _ rfl rfl rfl; replace HE := HE.add e4
        obtain ⟨_, e5, rfl⟩ := hp 5 22 _ rfl rfl rfl; replace HE := HE.add e5
        refine o_ixL HE rfl rfl rfl T.l23 ⟨by omega, by omega⟩ ?_; clear HE; intro a HE
        exact ⟨_, _, HS, rfl, HE.get _ _ rfl, HE.defers, rfl⟩
      · intro a w G1 hl HS HE hp
        obtain ⟨_, e6, rfl⟩ := hp 6 23 _ rfl rfl rfl; replace HE := HE.add e6
        refine o_ldI HE rfl HS rfl T.s9 (el20.le hl) (j := 0) rfl rfl ?_; clear HE; intro a HE
        exact ⟨_, _, HS, rfl, HE.get _ _ rfl, HE.defers, rfl⟩
      · intro a w G1 hl HS HE hp
        obtain ⟨_, e3, rfl⟩ := hp 3 20 _ rfl rfl rfl; replace HE := HE.add e3
        obtain ⟨_, e7, rfl⟩ := hp 7 24 _ rfl rfl rfl; replace HE := HE.add e7
        refine o_neS HE rfl rfl rfl ?_; clear HE; intro a HE
        exact ⟨_, _, HS, rfl, HE.get _ _ rfl, HE.defers, rfl⟩
      clear HE HS; intro a w HS HE hp
      obtain ⟨_, e8, rfl⟩ := hp 8 25 _ rfl rfl; replace HE := HE.add e8
      clear hp
      refine hK17 _ _ ?_; clear hK17
      refine cond HE rfl (fun h21 => ?_) (fun h21 => ?_)
      · have h21r := h21; try simp only [Bool.not_eq_true', Bool.not_eq_false', Bool.and_eq_true, Bool.or_eq_true, Bool.or_eq_false_iff, Bool.and_eq_false_iff, decide_eq_true_eq, decide_eq_false_iff_not, beq_iff_eq, beq_eq_false_iff_ne, ne_eq] at h21
        refine wp_seq_k (fun K hK => ?_); refine wp_region_lit ?_
        refine o_assign HE rfl rfl ?_; clear HE; intro a HE
        refine hK _ _ ?_; clear hK K
        refine wp_ret ?_
        show Q .ret _ _
        refine ret hQ HE rfl (HE.res rfl .nil) ⟨_, _, HS.stop (List.nil_sublist _), rfl, ?_⟩
        show _ = _
        simp only [packed, Value.bool.injEq]
        exact (decide_eq_false fun e => by subst e; exact h21 (ex19.symm.trans ex20)).symm
      · have h21r := h21; try simp only [Bool.not_eq_true', Bool.not_eq_false', Bool.and_eq_true, Bool.or_eq_true, Bool.or_eq_false_iff, Bool.and_eq_false_iff, decide_eq_true_eq, decide_eq_false_iff_not, beq_iff_eq, beq_eq_false_iff_ne, ne_eq] at h21
        refine wp_skip ?_
        refine hK15 _ _ ?_; clear hK15
        refine wp_region_lit ?_
        refine o_move HE rfl rfl ?_; clear HE; intro a HE
        refine o_add HE rfl rfl rfl (by omega) ?_; clear HE; intro a HE
        refine o_assign HE rfl rfl ?_; clear HE; intro a HE
        have hlt : i < xa.length := by omega
        have ht2 : xa.take (i + 1) = xb.take (i + 1) := take_snoc_eq ht hlt (by omega) (ex19.trans (h21.trans ex20.symm))
        exact ⟨i + 1, ⟨HS, HE.cut ⟨rfl, rfl, rfl, rfl, trivial⟩, ⟨by omega, ht2⟩⟩, by omega⟩
    · have h14r := h14; try simp only [Bool.not_eq_true', Bool.not_eq_false', Bool.and_eq_true, Bool.or_eq_true, Bool.or_eq_false_iff, Bool.and_eq_false_iff, decide_eq_true_eq, decide_eq_false_iff_not, beq_iff_eq, beq_eq_false_iff_ne, ne_eq] at h14
      refine wp_exit ?_
      refine hK7 _ _ ?_; clear hK7
      refine wp_seq_k (fun K hK => ?_); refine wp_region_lit ?_
      refine o_assign HE rfl rfl ?_; clear HE; intro a HE
      refine hK _ _ ?_; clear hK K
      refine wp_ret ?_
      show Q .ret _ _
      refine ret hQ HE rfl (HE.res rfl .nil) ⟨_, _, HS.stop (List.nil_sublist _), rfl, ?_⟩
      show _ = _
      simp only [packed, Value.bool.injEq]
      exact (decide_eq_true (by rwa [List.take_of_length_le (by omega), List.take_of_length_le (by omega)] at ht)).symm

/-! `incognito/line.Note` -/
set_option maxRecDepth 100000 in
set_option maxHeartbeats 4000000 in
theorem c_note (s : Bs) (w0 : World) (G : Heap) (hG : Sub G w0) (m8 : Int) (h8 : CellsAt G 0 0 [.int .i64 m8]) (hl : s.length ≤ 4294967280):
    Calls Try.prog 9 #[str s] w0 (Ret w0 G (fun v _ => v = .tuple #[str (noteS s).1, str (noteS s).2.1, .bool (noteS s).2.2.1, .int .i64 (noteS s).2.2.2])) := by
  refine enter Try.func9 rfl Try.ntmps9 rfl ?_
  intro Q hQ a HE
  have HS := St.start0 hG
  refine wp_seq_k (fun K hK => ?_); refine wp_region_lit ?_
  refine o_assign HE rfl rfl ?_; clear HE; intro a HE
  refine o_assign HE rfl rfl ?_; clear HE; intro a HE
  refine o_assign HE rfl rfl ?_; clear HE; intro a HE
  refine o_assign HE rfl rfl ?_; clear HE; intro a HE
  refine hK _ _ ?_; clear hK K
  refine wp_seq_k (fun K hK => ?_); refine wp_region_lit ?_
  refine o_move HE rfl rfl ?_; clear HE; intro a HE
  refine o_callP HE rfl HS rfl rfl T.g12 (g_cut s 59 _ _ HS.sub m8 h8 (by first | omega | (simp; done) | (simp; omega) | (have := cutA_len s 59; have := cutB_len s 59; omega))) ?_
  clear HE HS; rintro _ w a HS rfl HE
  refine o_move HE rfl rfl ?_; clear HE; intro a HE
  refine o_extract HE rfl rfl rfl ?_; clear HE; intro a HE
  refine o_extract HE rfl rfl rfl ?_; clear HE; intro a HE
  refine o_extract HE rfl rfl rfl ?_; clear HE; intro a HE
  refine o_assign HE rfl rfl ?_; clear HE; intro a HE
  refine o_assign HE rfl rfl ?_; clear HE; intro a HE
  refine o_assign HE rfl rfl ?_; clear HE; intro a HE
  refine hK _ _ ?_; clear hK K
  refine wp_seq_k (fun K4 hK3 => ?_)
  refine wp_seq_k (fun K hK => ?_); refine wp_region_lit ?_
  refine o_move HE rfl rfl ?_; clear HE; intro a HE
  refine o_not HE rfl rfl ?_; clear HE; intro a HE
  refine hK _ _ ?_; clear hK K
  refine cond HE rfl (fun h6 => ?_) (fun h6 => ?_)
  · have h6r := h6; try simp only [Bool.not_eq_true', Bool.not_eq_false', Bool.and_eq_true, Bool.or_eq_true, Bool.or_eq_false_iff, Bool.and_eq_false_iff, decide_eq_true_eq, decide_eq_false_iff_not, beq_iff_eq, beq_eq_false_iff_ne, ne_eq] at h6
    refine wp_seq_k (fun K hK => ?_); refine wp_region_lit ?_
    refine o_move HE rfl rfl ?_; clear HE; intro a HE
    refine o_assign HE rfl rfl ?_; clear HE; intro a HE
    refine o_assign HE rfl rfl ?_; clear HE; intro a HE
    refine o_assign HE rfl rfl ?_; clear HE; intro a HE
    refine o_assign HE rfl rfl ?_; clear HE; intro a HE
    refine hK _ _ ?_; clear hK K
    refine wp_ret ?_
    show Q .ret _ _
    refine ret hQ HE rfl (HE.res rfl (HE.res rfl (HE.res rfl (HE.res rfl .nil)))) ⟨_, _, HS.stop (List.nil_sublist _), rfl, ?_⟩
    have e : noteS s = (s, [], false, 0) := by
      unfold noteS
      rw [if_pos (by simpa using h6)]
    show _ = _
    rw [e]
    rfl
  · have h6r := h6; try simp only [Bool.not_eq_true', Bool.not_eq_false', Bool.and_eq_true, Bool.or_eq_true, Bool.or_eq_false_iff, Bool.and_eq_false_iff, decide_eq_true_eq, decide_eq_false_iff_not, beq_iff_eq, beq_eq_false_iff_ne, ne_eq] at h6
    refine wp_skip ?_
    refine hK3 _ _ ?_; clear hK3
    refine wp_seq_k (fun K hK => ?_); refine wp_region_lit ?_
    refine o_move HE rfl rfl ?_; clear HE; intro a HE
    refine o_callP HE rfl HS rfl rfl T.g13 (calls_same HS.sub (Try.strings_CutSuffix ⟨List.toArray (cutA s 59)⟩ ⟨List.toArray [32]⟩ _ (by have := cutA_len s 59; simp [ByteArray.size]; omega))) ?_
    clear HE HS; rintro _ w a HS rfl HE
    refine o_move HE rfl rfl ?_; clear HE; intro a HE
    refine o_extract HE rfl rfl rfl ?_; clear HE; intro a HE
    refine o_extract HE rfl rfl rfl ?_; clear HE; intro a HE
    refine o_assign HE rfl rfl ?_; clear HE; intro a HE
    refine o_assign HE rfl rfl ?_; clear HE; intro a HE
    refine hK _ _ ?_; clear hK K
    refine wp_seq_k (fun K10 hK9 => ?_)
    refine wp_seq_k (fun K hK => ?_); refine wp_region_lit ?_
    refine o_move HE rfl rfl ?_; clear HE; intro a HE
    refine o_not HE rfl rfl ?_; clear HE; intro a HE
    refine o_move HE rfl rfl ?_; clear HE; intro a HE
    refine cutL 4 (fun a' w' => w = w' ∧ Env a' 34 [] [(27, .bool ((!(Lib.hasSuffix (cutA s 59) [32])) || (decide (100 < ((cutB s 59).length : Int))))), (0, str s), (2, str (Lib.trimSuffix (cutA s 59) [32])), (3, str (cutB s 59)), (4, .bool (cutF s 59)), (5, .int .i64 0), (7, .tuple #[str (cutA s 59), str (cutB s 59), .bool (cutF s 59)]), (8, str s), (9, .tuple #[str (cutA s 59), str (cutB s 59), .bool (cutF s 59)]), (10, str (cutA s 59)), (11, str (cutB s 59)), (12, .bool (cutF s 59)), (13, .bool (cutF s 59)), (14, .bool (!(cutF s 59))), (16, .tuple #[str (Lib.trimSuffix (cutA s 59) [32]), .bool (Lib.hasSuffix (cutA s 59) [32])]), (17, str (cutA s 59)), (18, .tuple #[str (Lib.trimSuffix (cutA s 59) [32]), .bool (Lib.hasSuffix (cutA s 59) [32])]), (19, str (Lib.trimSuffix (cutA s 59) [32])), (20, .bool (Lib.hasSuffix (cutA s 59) [32]))]) ?_ ?_
    · refine (Bool.eq_false_or_eq_true (!(Lib.hasSuffix (cutA s 59) [32]))).elim (fun hb11 => ?_) (fun hb11 => ?_)
      · skip
        have hk12 := hb11; try simp only [Bool.not_eq_true', Bool.not_eq_false', Bool.and_eq_true, Bool.or_eq_true, Bool.or_eq_false_iff, decide_eq_true_eq, decide_eq_false_iff_not, beq_iff_eq, beq_eq_false_iff_ne, ne_eq] at hk12
        refine g_off HE rfl rfl rfl hb11 ?_; clear HE; intro a HE
        refine g_off HE rfl rfl rfl hb11 ?_; clear HE; intro a HE
        refine g_off HE rfl rfl rfl hb11 ?_; clear HE; intro a HE
        refine o_pick_t HE rfl rfl hb11 rfl ?_; clear HE; intro a HE
        exact ⟨rfl, HE.cut ⟨by rw [hb11]; rfl, rfl, rfl, rfl, rfl, rfl, rfl, rfl, rfl, rfl, rfl, rfl, rfl, rfl, rfl, rfl, rfl, rfl, rfl, trivial⟩⟩
      · skip
        have hk13 := hb11; try simp only [Bool.not_eq_true', Bool.not_eq_false', Bool.and_eq_true, Bool.or_eq_true, Bool.or_eq_false_iff, decide_eq_true_eq, decide_eq_false_iff_not, beq_iff_eq, beq_eq_false_iff_ne, ne_eq] at hk13
        refine op_on HE rfl rfl hb11 ?_
        refine o_move HE rfl rfl ?_; clear HE; intro a HE
        refine op_on HE rfl rfl hb11 ?_
        refine o_lenS HE rfl rfl Try.underlying9 ?_; clear HE; intro a HE
        refine op_on HE rfl rfl hb11 ?_
        refine o_gtr HE rfl rfl rfl ?_; clear HE; intro a HE
        refine o_pick_f HE rfl rfl hb11 rfl ?_; clear HE; intro a HE
        exact ⟨rfl, HE.cut ⟨by rw [hb11]; rfl, rfl, rfl, rfl, rfl, rfl, rfl, rfl, rfl, rfl, rfl, rfl, rfl, rfl, rfl, rfl, rfl, rfl, rfl, trivial⟩⟩
    clear HE; rintro a _ ⟨rfl, HE⟩
    refine o_move HE rfl rfl ?_; clear HE; intro a HE
    obtain ⟨M0, hM0, HS⟩ : ∃ M0, M0 = _ ∧ St w0 G [] G _ M0 := ⟨_, rfl, HS⟩
    refine cutL 3 (fun a' w' => St w0 G [] G w' M0 ∧ Env a' 34 [] [(31, .bool (((!(Lib.hasSuffix (cutA s 59) [32])) || (decide (100 < ((cutB s 59).length : Int)))) || (decide (0 ≤ Lib.indexByte (cutB s 59) 10)))), (0, str s), (2, str (Lib.trimSuffix (cutA s 59) [32])), (3, str (cutB s 59)), (4, .bool (cutF s 59)), (5, .int .i64 0), (7, .tuple #[str (cutA s 59), str (cutB s 59), .bool (cutF s 59)]), (8, str s), (9, .tuple #[str (cutA s 59), str (cutB s 59), .bool (cutF s 59)]), (10, str (cutA s 59)), (11, str (cutB s 59)), (12, .bool (cutF s 59)), (13, .bool (cutF s 59)), (14, .bool (!(cutF s 59))), (16, .tuple #[str (Lib.trimSuffix (cutA s 59) [32]), .bool (Lib.hasSuffix (cutA s 59) [32])]), (17, str (cutA s 59)), (18, .tuple #[str (Lib.trimSuffix (cutA s 59) [32]), .bool (Lib.hasSuffix (cutA s 59) [32])]), (19, str (Lib.trimSuffix (cutA s 59) [32])), (20, .bool (Lib.hasSuffix (cutA s 59) [32]))]) ?_ ?_
    · refine (Bool.eq_false_or_eq_true ((!(Lib.hasSuffix (cutA s 59) [32])) || (decide (100 < ((cutB s 59).length : Int))))).elim (fun hb14 => ?_) (fun hb14 => ?_)
      · subst hM0
        have hk15 := hb14; try simp only [Bool.not_eq_true', Bool.not_eq_false', Bool.and_eq_true, Bool.or_eq_true, Bool.or_eq_false_iff, decide_eq_true_eq, decide_eq_false_iff_not, beq_iff_eq, beq_eq_false_iff_ne, ne_eq] at hk15
        refine g_off HE rfl rfl rfl hb14 ?_; clear HE; intro a HE
        refine g_off HE rfl rfl rfl hb14 ?_; clear HE; intro a HE
        refine o_pick_t HE rfl rfl hb14 rfl ?_; clear HE; intro a HE
        exact ⟨HS, HE.cut ⟨by rw [hb14]; rfl, rfl, rfl, rfl, rfl, rfl, rfl, rfl, rfl, rfl, rfl, rfl, rfl, rfl, rfl, rfl, rfl, rfl, rfl, trivial⟩⟩
      · subst hM0
        have hk16 := hb14; try simp only [Bool.not_eq_true', Bool.not_eq_false', Bool.and_eq_true, Bool.or_eq_true, Bool.or_eq_false_iff, decide_eq_true_eq, decide_eq_false_iff_not, beq_iff_eq, beq_eq_false_iff_ne, ne_eq] at hk16
        refine op_on HE rfl rfl hb14 ?_
        refine o_move HE rfl rfl ?_; clear HE; intro a HE
        refine op_on HE rfl rfl hb14 ?_
        refine o_callP HE rfl HS rfl rfl T.g14 (calls_same HS.sub (Try.strings_Contains_one ⟨List.toArray (cutB s 59)⟩ 10 _)) ?_
        clear HE HS; rintro _ w a HS rfl HE
        refine o_pick_f HE rfl rfl hb14 rfl ?_; clear HE; intro a HE
        exact ⟨HS, HE.cut ⟨by rw [hb14]; rfl, rfl, rfl, rfl, rfl, rfl, rfl, rfl, rfl, rfl, rfl, rfl, rfl, rfl, rfl, rfl, rfl, rfl, rfl, trivial⟩⟩
    clear HE HS; rintro a w ⟨HS, HE⟩; subst hM0
    refine hK _ _ ?_; clear hK K
    refine cond HE rfl (fun h18 => ?_) (fun h18 => ?_)
    · have h18r := h18; try simp only [Bool.not_eq_true', Bool.not_eq_false', Bool.and_eq_true, Bool.or_eq_true, Bool.or_eq_false_iff, Bool.and_eq_false_iff, decide_eq_true_eq, decide_eq_false_iff_not, beq_iff_eq, beq_eq_false_iff_ne, ne_eq] at h18
      refine wp_seq_k (fun K hK => ?_); refine wp_region_lit ?_
      refine o_assign HE rfl rfl ?_; clear HE; intro a HE
      refine o_assign HE rfl rfl ?_; clear HE; intro a HE
      refine o_assign HE rfl rfl ?_; clear HE; intro a HE
      refine o_assign HE rfl rfl ?_; clear HE; intro a HE
      refine hK _ _ ?_; clear hK K
      refine wp_ret ?_
      show Q .ret _ _
      refine ret hQ HE rfl (HE.res rfl (HE.res rfl (HE.res rfl (HE.res rfl .nil)))) ⟨_, _, HS.stop (List.nil_sublist _), rfl, ?_⟩
      have e : noteS s = ([], [], false, 2) := by
        unfold noteS
        rw [if_neg (by simpa using h6), if_pos (by simpa [or_assoc, and_assoc] using h18)]
      show _ = _
      rw [e]
      rfl
    · have h18r := h18; try simp only [Bool.not_eq_true', Bool.not_eq_false', Bool.and_eq_true, Bool.or_eq_true, Bool.or_eq_false_iff, Bool.and_eq_false_iff, decide_eq_true_eq, decide_eq_false_iff_not, beq_iff_eq, beq_eq_false_iff_ne, ne_eq] at h18
      refine wp_skip ?_
      refine hK9 _ _ ?_; clear hK9
      refine wp_seq_k (fun K hK => ?_); refine wp_region_lit ?_
      refine o_move HE rfl rfl ?_; clear HE; intro a HE
      refine o_move HE rfl rfl ?_; clear HE; intro a HE
      refine o_assign HE rfl rfl ?_; clear HE; intro a HE
      refine o_assign HE rfl rfl ?_; clear HE; intro a HE
      refine o_assign HE rfl rfl ?_; clear HE; intro a HE
      refine o_assign HE rfl rfl ?_; clear HE; intro a HE
      refine hK _ _ ?_; clear hK K
      refine wp_ret ?_
      show Q .ret _ _
      refine ret hQ HE rfl (HE.res rfl (HE.res rfl (HE.res rfl (HE.res rfl .nil)))) ⟨_, _, HS.stop (List.nil_sublist _), rfl, ?_⟩
      have e : noteS s = (Lib.trimSuffix (cutA s 59) [32], cutB s 59, true, 0) := by
        unfold noteS
        rw [if_neg (by simpa using h6), if_neg (by simpa [or_assoc, and_assoc] using h18)]
      show _ = _
      rw [e]
      rfl

/-! `incognito/incognitoref08.Note` -/
set_option maxRecDepth 100000 in
set_option maxHeartbeats 4000000 in
theorem c_Note8 (s : Bs) (w0 : World) (G : Heap) (hG : Sub G w0) (hl : s.length ≤ 4294967280):
    Calls Try.prog 10 #[str s] w0 (Ret w0 G (fun v _ => v = .agg #[str (noteS s).1, str (noteS s).2.1, .bool (noteS s).2.2.1, .bool (decide ((noteS s).2.2.2 = 0))])) := by
  refine enter Try.func10 rfl Try.ntmps10 rfl ?_
  intro Q hQ a HE
  have HS := St.start0 hG
  refine wp_seq_k (fun K hK => ?_); refine wp_region_lit ?_
  refine o_allocL [(0, _), (1, _), (2, _), (3, _)] HE rfl HS T.z36 ⟨rfl, rfl, rfl, rfl, trivial⟩ ?_; clear HE HS; intro B2 w a HS HE
  refine hK _ _ ?_; clear hK K
  refine wp_seq_k (fun K3 hK2 => ?_)
  refine wp_seq_k (fun K hK => ?_); refine wp_region_lit ?_
  refine o_assign HE rfl rfl ?_; clear HE; intro a HE
  refine hK _ _ ?_; clear hK K
  refine wp_block ?_
  refine loop (fun (i : Nat) a' w' => St w0 G [] G w' [[(B2, Cells 36 [(0, str []), (1, str []), (2, .bool false), (3, .bool false)])]] ∧ Env a' 54 [] [(0, str s), (2, .pointer (some ⟨B2, 0, none⟩)), (3, .int .i64 ((i : Nat) : Int))] ∧ (∃ hi : i ≤ s.length, ∀ j (hj : j < i), ¬ s[j]'(by omega) = 59)) (fun (i : Nat) => s.length - i) 0 ⟨HS, HE.cut ⟨rfl, rfl, rfl, trivial⟩, ⟨Nat.zero_le _, fun j hj => absurd hj (Nat.not_lt_zero _)⟩⟩ ?_
  clear HE HS; intro i a w ⟨HS, HE, ⟨hi, ha⟩⟩
  refine wp_seq_k (fun K7 hK6 => ?_)
  refine wp_seq_k (fun K hK => ?_); refine wp_region_lit ?_
  refine o_move HE rfl rfl ?_; clear HE; intro a HE
  refine o_move HE rfl rfl ?_; clear HE; intro a HE
  refine o_lenS HE rfl rfl Try.underlying9 ?_; clear HE; intro a HE
  refine o_lss HE rfl rfl rfl ?_; clear HE; intro a HE
  refine hK _ _ ?_; clear hK K
  refine cond HE rfl (fun h9 => ?_) (fun h9 => ?_)
  · have h9r := h9; try simp only [Bool.not_eq_true', Bool.not_eq_false', Bool.and_eq_true, Bool.or_eq_true, Bool.or_eq_false_iff, Bool.and_eq_false_iff, decide_eq_true_eq, decide_eq_false_iff_not, beq_iff_eq, beq_eq_false_iff_ne, ne_eq] at h9
    refine wp_skip ?_
    refine hK6 _ _ ?_; clear hK6
    refine wp_seq_k (fun K11 hK10 => ?_)
    refine wp_block ?_
    refine wp_seq_k (fun K13 hK12 => ?_)
    refine wp_seq_k (fun K hK => ?_); refine wp_region_lit ?_
    refine o_move HE rfl rfl ?_; clear HE; intro a HE
    refine o_move HE rfl rfl ?_; clear HE; intro a HE
    refine o_index HE rfl rfl rfl Try.underlying9 (by omega) ?_; clear HE; intro a HE
    refine o_neI HE rfl rfl rfl ?_; clear HE; intro a HE
    refine hK _ _ ?_; clear hK K
    refine cond HE rfl (fun h15 => ?_) (fun h15 => ?_)
    · have h15r := h15; try simp only [Bool.not_eq_true', Bool.not_eq_false', Bool.and_eq_true, Bool.or_eq_true, Bool.or_eq_false_iff, Bool.and_eq_false_iff, decide_eq_true_eq, decide_eq_false_iff_not, beq_iff_eq, beq_eq_false_iff_ne, ne_eq] at h15
      refine wp_exit ?_
      refine hK10 _ _ ?_; clear hK10
      refine wp_region_lit ?_
      refine o_move HE rfl rfl ?_; clear HE; intro a HE
      refine o_add HE rfl rfl rfl (by omega) ?_; clear HE; intro a HE
      refine o_assign HE rfl rfl ?_; clear HE; intro a HE
      have ha2 : ∀ j (hj : j < i + 1), ¬ s[j]'(by omega) = 59 := fun j hj => by
        by_cases e : j = i
        · subst e; exact bNo8 (by omega) (by simpa using h15)
        · exact ha j (by omega)
      exact ⟨i + 1, ⟨HS, HE.cut ⟨rfl, rfl, rfl, trivial⟩, ⟨by omega, ha2⟩⟩, by omega⟩
    · have h15r := h15; try simp only [Bool.not_eq_true', Bool.not_eq_false', Bool.and_eq_true, Bool.or_eq_true, Bool.or_eq_false_iff, Bool.and_eq_false_iff, decide_eq_true_eq, decide_eq_false_iff_not, beq_iff_eq, beq_eq_false_iff_ne, ne_eq] at h15
      refine wp_skip ?_
      refine hK12 _ _ ?_; clear hK12
      refine wp_seq_k (fun K hK => ?_); refine wp_region_lit ?_
      refine o_move HE rfl rfl ?_; clear HE; intro a HE
      refine o_move HE rfl rfl ?_; clear HE; intro a HE
      refine o_add HE rfl rfl rfl (by omega) ?_; clear HE; intro a HE
      refine o_sliceLo HE rfl rfl rfl Try.underlying9 (by omega) ?_; clear HE; intro a HE
      refine o_assign HE rfl rfl ?_; clear HE; intro a HE
      refine hK _ _ ?_; clear hK K
      refine wp_seq_k (fun K18 hK17 => ?_)
      refine wp_seq_k (fun K hK => ?_); refine wp_region_lit ?_
      refine o_move HE rfl rfl ?_; clear HE; intro a HE
      refine o_eqI HE rfl rfl rfl ?_; clear HE; intro a HE
      refine o_move HE rfl rfl ?_; clear HE; intro a HE
      refine cutL 6 (fun a' w' => w = w' ∧ Env a' 54 [] [(28, .bool ((decide (((i : Nat) : Int) = 0)) || (!decide ((bt s (((i : Nat) : Int) - 1)) = 32)))), (0, str s), (2, .pointer (some ⟨B2, 0, none⟩)), (3, .int .i64 ((i : Nat) : Int)), (4, str (List.drop (((i : Nat) : Int) + 1).toNat s)), (6, .int .i64 ((i : Nat) : Int)), (7, str s), (8, .int .i64 (s.length : Int)), (9, .bool (decide (((i : Nat) : Int) < (s.length : Int)))), (12, str s), (13, .int .i64 ((i : Nat) : Int)), (14, .int .u8 (bt s ((i : Nat) : Int))), (15, .bool (!decide ((bt s ((i : Nat) : Int)) = 59))), (16, str s), (17, .int .i64 ((i : Nat) : Int)), (18, .int .i64 (((i : Nat) : Int) + 1)), (19, str (List.drop (((i : Nat) : Int) + 1).toNat s))]) ?_ ?_
      · refine (Bool.eq_false_or_eq_true (decide (((i : Nat) : Int) = 0))).elim (fun hb19 => ?_) (fun hb19 => ?_)
        · skip
          have hk20 := hb19; try simp only [Bool.not_eq_true', Bool.not_eq_false', Bool.and_eq_true, Bool.or_eq_true, Bool.or_eq_false_iff, decide_eq_true_eq, decide_eq_false_iff_not, beq_iff_eq, beq_eq_false_iff_ne, ne_eq] at hk20
          refine g_off HE rfl rfl rfl hb19 ?_; clear HE; intro a HE
          refine g_off HE rfl rfl rfl hb19 ?_; clear HE; intro a HE
          refine g_off HE rfl rfl rfl hb19 ?_; clear HE; intro a HE
          refine g_off HE rfl rfl rfl hb19 ?_; clear HE; intro a HE
          refine g_off HE rfl rfl rfl hb19 ?_; clear HE; intro a HE
          refine o_pick_t HE rfl rfl hb19 rfl ?_; clear HE; intro a HE
          exact ⟨rfl, HE.cut ⟨by rw [hb19]; rfl, rfl, rfl, rfl, rfl, rfl, rfl, rfl, rfl, rfl, rfl, rfl, rfl, rfl, rfl, rfl, rfl, trivial⟩⟩
        · skip
          have hk21 := hb19; try simp only [Bool.not_eq_true', Bool.not_eq_false', Bool.and_eq_true, Bool.or_eq_true, Bool.or_eq_false_iff, decide_eq_true_eq, decide_eq_false_iff_not, beq_iff_eq, beq_eq_false_iff_ne, ne_eq] at hk21
          refine op_on HE rfl rfl hb19 ?_
          refine o_move HE rfl rfl ?_; clear HE; intro a HE
          refine op_on HE rfl rfl hb19 ?_
          refine o_move HE rfl rfl ?_; clear HE; intro a HE
          refine op_on HE rfl rfl hb19 ?_
          refine o_sub HE rfl rfl rfl (by omega) ?_; clear HE; intro a HE
          refine op_on HE rfl rfl hb19 ?_
          refine o_index HE rfl rfl rfl Try.underlying9 (by omega) ?_; clear HE; intro a HE
          refine op_on HE rfl rfl hb19 ?_
          refine o_neI HE rfl rfl rfl ?_; clear HE; intro a HE
          refine o_pick_f HE rfl rfl hb19 rfl ?_; clear HE; intro a HE
          exact ⟨rfl, HE.cut ⟨by rw [hb19]; rfl, rfl, rfl, rfl, rfl, rfl, rfl, rfl, rfl, rfl, rfl, rfl, rfl, rfl, rfl, rfl, rfl, trivial⟩⟩
      clear HE; rintro a _ ⟨rfl, HE⟩
      refine o_move HE rfl rfl ?_; clear HE; intro a HE
      refine cutL 4 (fun a' w' => w = w' ∧ Env a' 54 [] [(33, .bool (((decide (((i : Nat) : Int) = 0)) || (!decide ((bt s (((i : Nat) : Int) - 1)) = 32))) || (decide (100 < ((List.drop (((i : Nat) : Int) + 1).toNat s).length : Int))))), (0, str s), (2, .pointer (some ⟨B2, 0, none⟩)), (3, .int .i64 ((i : Nat) : Int)), (4, str (List.drop (((i : Nat) : Int) + 1).toNat s)), (6, .int .i64 ((i : Nat) : Int)), (7, str s), (8, .int .i64 (s.length : Int)), (9, .bool (decide (((i : Nat) : Int) < (s.length : Int)))), (12, str s), (13, .int .i64 ((i : Nat) : Int)), (14, .int .u8 (bt s ((i : Nat) : Int))), (15, .bool (!decide ((bt s ((i : Nat) : Int)) = 59))), (16, str s), (17, .int .i64 ((i : Nat) : Int)), (18, .int .i64 (((i : Nat) : Int) + 1)), (19, str (List.drop (((i : Nat) : Int) + 1).toNat s))]) ?_ ?_
      · refine (Bool.eq_false_or_eq_true ((decide (((i : Nat) : Int) = 0)) || (!decide ((bt s (((i : Nat) : Int) - 1)) = 32)))).elim (fun hb22 => ?_) (fun hb22 => ?_)
        · skip
          have hk23 := hb22; try simp only [Bool.not_eq_true', Bool.not_eq_false', Bool.and_eq_true, Bool.or_eq_true, Bool.or_eq_false_iff, decide_eq_true_eq, decide_eq_false_iff_not, beq_iff_eq, beq_eq_false_iff_ne, ne_eq] at hk23
          refine g_off HE rfl rfl rfl hb22 ?_; clear HE; intro a HE
          refine g_off HE rfl rfl rfl hb22 ?_; clear HE; intro a HE
          refine g_off HE rfl rfl rfl hb22 ?_; clear HE; intro a HE
          refine o_pick_t HE rfl rfl hb22 rfl ?_; clear HE; intro a HE
          exact ⟨rfl, HE.cut ⟨by rw [hb22]; rfl, rfl, rfl, rfl, rfl, rfl, rfl, rfl, rfl, rfl, rfl, rfl, rfl, rfl, rfl, rfl, rfl, trivial⟩⟩
        · skip
          have hk24 := hb22; try simp only [Bool.not_eq_true', Bool.not_eq_false', Bool.and_eq_true, Bool.or_eq_true, Bool.or_eq_false_iff, decide_eq_true_eq, decide_eq_false_iff_not, beq_iff_eq, beq_eq_false_iff_ne, ne_eq] at hk24
          refine op_on HE rfl rfl hb22 ?_
          refine o_move HE rfl rfl ?_; clear HE; intro a HE
          refine op_on HE rfl rfl hb22 ?_
          refine o_lenS HE rfl rfl Try.underlying9 ?_; clear HE; intro a HE
          refine op_on HE rfl rfl hb22 ?_
          refine o_gtr HE rfl rfl rfl ?_; clear HE; intro a HE
          refine o_pick_f HE rfl rfl hb22 rfl ?_; clear HE; intro a HE
          exact ⟨rfl, HE.cut ⟨by rw [hb22]; rfl, rfl, rfl, rfl, rfl, rfl, rfl, rfl, rfl, rfl, rfl, rfl, rfl, rfl, rfl, rfl, rfl, trivial⟩⟩
      clear HE; rintro a _ ⟨rfl, HE⟩
      refine hK _ _ ?_; clear hK K
      refine cond HE rfl (fun h26 => ?_) (fun h26 => ?_)
      · have h26r := h26; try simp only [Bool.not_eq_true', Bool.not_eq_false', Bool.and_eq_true, Bool.or_eq_true, Bool.or_eq_false_iff, Bool.and_eq_false_iff, decide_eq_true_eq, decide_eq_false_iff_not, beq_iff_eq, beq_eq_false_iff_ne, ne_eq] at h26
        refine wp_seq_k (fun K hK => ?_); refine wp_region_lit ?_
        refine o_build (cs := #[str [], str [], .bool false, .bool false]) HE rfl rfl (by kernel_rfl) ?_; clear HE; intro a HE
        refine o_stA HE HS rfl rfl rfl T.a36 (.here .here) rfl ?_; clear HS; intro w HS
        refine hK _ _ ?_; clear hK K
        refine wp_ret ?_
        show Q .ret _ _
        refine ret hQ HE rfl (HE.resA HS rfl T.a36 (.here .here) rfl .nil) ⟨_, _, HS.stop (List.nil_sublist _), rfl, ?_⟩
        have e : noteS s = ([], [], false, 2) := by
          have he := bAt8 (c := 59) (s := s) (n := i) (by omega) (by simpa using h15)
          rw [note_at (by omega) he ha]
          rw [if_pos]
          rcases h26 with h | h
          · exact .inl h
          · exact .inr (.inl h)
        show _ = _
        rw [e]
        rfl
      · have h26r := h26; try simp only [Bool.not_eq_true', Bool.not_eq_false', Bool.and_eq_true, Bool.or_eq_true, Bool.or_eq_false_iff, Bool.and_eq_false_iff, decide_eq_true_eq, decide_eq_false_iff_not, beq_iff_eq, beq_eq_false_iff_ne, ne_eq] at h26
        refine wp_skip ?_
        refine hK17 _ _ ?_; clear hK17
        refine wp_seq_k (fun K29 hK28 => ?_)
        refine wp_seq_k (fun K hK => ?_); refine wp_region_lit ?_
        refine o_assign HE rfl rfl ?_; clear HE; intro a HE
        refine hK _ _ ?_; clear hK K
        refine wp_block ?_
        refine loop (fun (k : Nat) a' w' => St w0 G [] G w' [[(B2, Cells 36 [(0, str []), (1, str []), (2, .bool false), (3, .bool false)])]] ∧ Env a' 54 [] [(0, str s), (2, .pointer (some ⟨B2, 0, none⟩)), (3, .int .i64 ((i : Nat) : Int)), (4, str (List.drop (((i : Nat) : Int) + 1).toNat s)), (5, .int .i64 ((k : Nat) : Int))] ∧ (∃ hk : k ≤ (List.drop ((i : Int) + 1).toNat s).length, ∀ j (hj : j < k), ¬ (List.drop ((i : Int) + 1).toNat s)[j]'(by omega) = 10)) (fun (k : Nat) => (List.drop ((i : Int) + 1).toNat s).length - k) 0 ⟨HS, HE.cut ⟨rfl, rfl, rfl, rfl, rfl, trivial⟩, ⟨Nat.zero_le _, fun j hj => absurd hj (Nat.not_lt_zero _)⟩⟩ ?_
        clear HE HS; intro k a w ⟨HS, HE, ⟨hk, hb⟩⟩
        refine wp_seq_k (fun K33 hK32 => ?_)
        refine wp_seq_k (fun K hK => ?_); refine wp_region_lit ?_
        refine o_move HE rfl rfl ?_; clear HE; intro a HE
        refine o_move HE rfl rfl ?_; clear HE; intro a HE
        refine o_lenS HE rfl rfl Try.underlying9 ?_; clear HE; intro a HE
        refine o_lss HE rfl rfl rfl ?_; clear HE; intro a HE
        refine hK _ _ ?_; clear hK K
        refine cond HE rfl (fun h35 => ?_) (fun h35 => ?_)
        · have h35r := h35; try simp only [Bool.not_eq_true', Bool.not_eq_false', Bool.and_eq_true, Bool.or_eq_true, Bool.or_eq_false_iff, Bool.and_eq_false_iff, decide_eq_true_eq, decide_eq_false_iff_not, beq_iff_eq, beq_eq_false_iff_ne, ne_eq] at h35
          refine wp_skip ?_
          refine hK32 _ _ ?_; clear hK32
          refine wp_seq_k (fun K37 hK36 => ?_)
          refine wp_block ?_
          refine wp_seq_k (fun K hK => ?_); refine wp_region_lit ?_
          refine o_move HE rfl rfl ?_; clear HE; intro a HE
          refine o_move HE rfl rfl ?_; clear HE; intro a HE
          refine o_index HE rfl rfl rfl Try.underlying9 (by omega) ?_; clear HE; intro a HE
          refine o_eqI HE rfl rfl rfl ?_; clear HE; intro a HE
          refine hK _ _ ?_; clear hK K
          refine cond HE rfl (fun h39 => ?_) (fun h39 => ?_)
          · have h39r := h39; try simp only [Bool.not_eq_true', Bool.not_eq_false', Bool.and_eq_true, Bool.or_eq_true, Bool.or_eq_false_iff, Bool.and_eq_false_iff, decide_eq_true_eq, decide_eq_false_iff_not, beq_iff_eq, beq_eq_false_iff_ne, ne_eq] at h39
            refine wp_seq_k (fun K hK => ?_); refine wp_region_lit ?_
            refine o_build (cs := #[str [], str [], .bool false, .bool false]) HE rfl rfl (by kernel_rfl) ?_; clear HE; intro a HE
            refine o_stA HE HS rfl rfl rfl T.a36 (.here .here) rfl ?_; clear HS; intro w HS
            refine hK _ _ ?_; clear hK K
            refine wp_ret ?_
            show Q .ret _ _
            refine ret hQ HE rfl (HE.resA HS rfl T.a36 (.here .here) rfl .nil) ⟨_, _, HS.stop (List.nil_sublist _), rfl, ?_⟩
            have e : noteS s = ([], [], false, 2) := by
              have he := bAt8 (c := 59) (s := s) (n := i) (by omega) (by simpa using h15)
              rw [note_at (by omega) he ha]
              rw [if_pos]
              exact .inr (.inr (idx_pos (i := k) (by omega) (bAt8 (by omega) (by simpa using h39))))
            show _ = _
            rw [e]
            rfl
          · have h39r := h39; try simp only [Bool.not_eq_true', Bool.not_eq_false', Bool.and_eq_true, Bool.or_eq_true, Bool.or_eq_false_iff, Bool.and_eq_false_iff, decide_eq_true_eq, decide_eq_false_iff_not, beq_iff_eq, beq_eq_false_iff_ne, ne_eq] at h39
            refine wp_skip ?_
            refine hK36 _ _ ?_; clear hK36
            refine wp_region_lit ?_
            refine o_move HE rfl rfl ?_; clear HE; intro a HE
            refine o_add HE rfl rfl rfl (by omega) ?_; clear HE; intro a HE
            refine o_assign HE rfl rfl ?_; clear HE; intro a HE
            have hb2 : ∀ j (hj : j < k + 1), ¬ (List.drop ((i : Int) + 1).toNat s)[j]'(by omega) = 10 := fun j hj => by
              by_cases e : j = k
              · subst e; exact bNo8 (by omega) (by simpa using h39)
              · exact hb j (by omega)
            exact ⟨k + 1, ⟨HS, HE.cut ⟨rfl, rfl, rfl, rfl, rfl, trivial⟩, ⟨by omega, hb2⟩⟩, by omega⟩
        · have h35r := h35; try simp only [Bool.not_eq_true', Bool.not_eq_false', Bool.and_eq_true, Bool.or_eq_true, Bool.or_eq_false_iff, Bool.and_eq_false_iff, decide_eq_true_eq, decide_eq_false_iff_not, beq_iff_eq, beq_eq_false_iff_ne, ne_eq] at h35
          refine wp_exit ?_
          refine hK28 _ _ ?_; clear hK28
          refine wp_seq_k (fun K hK => ?_); refine wp_region_lit ?_
          refine o_move HE rfl rfl ?_; clear HE; intro a HE
          refine o_move HE rfl rfl ?_; clear HE; intro a HE
          refine o_sub HE rfl rfl rfl (by omega) ?_; clear HE; intro a HE
          refine o_sliceHi HE rfl rfl rfl Try.underlying9 (by omega) ?_; clear HE; intro a HE
          refine o_move HE rfl rfl ?_; clear HE; intro a HE
          refine o_build (cs := #[str (List.take (((i : Nat) : Int) - 1).toNat s), str (List.drop (((i : Nat) : Int) + 1).toNat s), .bool true, .bool true]) HE rfl rfl (by kernel_rfl) ?_; clear HE; intro a HE
          refine o_stA HE HS rfl rfl rfl T.a36 (.here .here) rfl ?_; clear HS; intro w HS
          refine hK _ _ ?_; clear hK K
          refine wp_ret ?_
          show Q .ret _ _
          refine ret hQ HE rfl (HE.resA HS rfl T.a36 (.here .here) rfl .nil) ⟨_, _, HS.stop (List.nil_sublist _), rfl, ?_⟩
          have e : noteS s = (List.take (((i : Nat) : Int) - 1).toNat s, List.drop (((i : Nat) : Int) + 1).toNat s, true, 0) := by
            have he := bAt8 (c := 59) (s := s) (n := i) (by omega) (by simpa using h15)
            rw [note_at (by omega) he ha]
            rw [if_neg]
            rintro (h | h | h)
            · exact absurd h (by simpa using h26.1)
            · exact absurd h (by have := h26.2; omega)
            · rw [idx_none (fun j hj => hb j (by omega))] at h; exact absurd h (by decide)
          show _ = _
          rw [e]
          rfl
  · have h9r := h9; try simp only [Bool.not_eq_true', Bool.not_eq_false', Bool.and_eq_true, Bool.or_eq_true, Bool.or_eq_false_iff, Bool.and_eq_false_iff, decide_eq_true_eq, decide_eq_false_iff_not, beq_iff_eq, beq_eq_false_iff_ne, ne_eq] at h9
    refine wp_exit ?_
    refine hK2 _ _ ?_; clear hK2
    refine wp_seq_k (fun K hK => ?_); refine wp_region_lit ?_
    refine o_move HE rfl rfl ?_; clear HE; intro a HE
    refine o_build (cs := #[str s, str [], .bool false, .bool true]) HE rfl rfl (by kernel_rfl) ?_; clear HE; intro a HE
    refine o_stA HE HS rfl rfl rfl T.a36 (.here .here) rfl ?_; clear HS; intro w HS
    refine hK _ _ ?_; clear hK K
    refine wp_ret ?_
    show Q .ret _ _
    refine ret hQ HE rfl (HE.resA HS rfl T.a36 (.here .here) rfl .nil) ⟨_, _, HS.stop (List.nil_sublist _), rfl, ?_⟩
    have e : noteS s = (s, [], false, 0) := by
      exact note_none (i := i) (by omega) (fun j hj => ha j (by omega))
    show _ = _
    rw [e]
    rfl

/-! `incognito/incognitolaw08.wakes` -/
set_option maxRecDepth 100000 in
set_option maxHeartbeats 4000000 in
theorem c_wakes8  (w0 : World) (G : Heap) (hG : Sub G w0) (m8 : Int) (h8 : CellsAt G 0 0 [.int .i64 m8]):
    Calls Try.prog 5 #[] w0 (Ret w0 G (fun v _ => v = .bool true)) := by
  refine enter Try.func5 rfl Try.ntmps5 rfl ?_
  intro Q hQ a HE
  have HS := St.start0 hG
  refine wp_seq_k (fun K hK => ?_); refine wp_region_lit ?_
  refine o_assign HE rfl rfl ?_; clear HE; intro a HE
  refine hK _ _ ?_; clear hK K
  refine wp_seq_k (fun K hK => ?_); refine wp_region_lit ?_
  refine o_call HE rfl HS rfl rfl T.g6 (c_split [97, 98] _ _ HS.sub m8 h8 (by first | omega | (simp; done) | (simp; omega) | (have := cutA_len s 59; have := cutB_len s 59; omega))) ?_
  clear HE HS; rintro _ G2 w a HS hle2 ⟨vA2, vc2, rfl, hcp2, hR2⟩ HE
  replace h8 := h8.le hle2
  refine o_move HE rfl rfl ?_; clear HE; intro a HE
  refine o_extract HE rfl rfl rfl ?_; clear HE; intro a HE
  refine o_extract HE rfl rfl rfl ?_; clear HE; intro a HE
  refine o_allocL [(0, _), (1, _)] HE rfl HS T.z26 ⟨rfl, rfl, trivial⟩ ?_; clear HE HS; intro B2 w a HS HE
  refine o_assign HE rfl rfl ?_; clear HE; intro a HE
  refine o_stA HE HS rfl rfl rfl T.a26 (.here .here) rfl ?_; clear HS; intro w HS
  refine hK _ _ ?_; clear hK K
  refine wp_seq_k (fun K hK => ?_); refine wp_region_lit ?_
  refine o_callP HE rfl HS rfl rfl T.g9 (c_note [97, 32, 59, 98, 32, 59, 99] _ _ HS.sub m8 h8 (by first | omega | (simp; done) | (simp; omega) | (have := cutA_len s 59; have := cutB_len s 59; omega))) ?_
  clear HE HS; rintro _ w a HS rfl HE
  refine o_move HE rfl rfl ?_; clear HE; intro a HE
  refine o_extract HE rfl rfl rfl ?_; clear HE; intro a HE
  refine o_extract HE rfl rfl rfl ?_; clear HE; intro a HE
  refine o_extract HE rfl rfl rfl ?_; clear HE; intro a HE
  refine o_extract HE rfl rfl rfl ?_; clear HE; intro a HE
  refine o_assign HE rfl rfl ?_; clear HE; intro a HE
  refine o_assign HE rfl rfl ?_; clear HE; intro a HE
  refine o_assign HE rfl rfl ?_; clear HE; intro a HE
  refine o_assign HE rfl rfl ?_; clear HE; intro a HE
  refine hK _ _ ?_; clear hK K
  refine wp_seq_k (fun K hK => ?_); refine wp_region_lit ?_
  refine o_ldA HE rfl HS rfl T.a26 (.here .here) rfl ?_; clear HE; intro a HE
  refine o_build (cs := #[.int .i64 2, .int .i64 1]) HE rfl rfl (by kernel_rfl) ?_; clear HE; intro a HE
  refine o_eqA (b := decide ((code8 (linesS [97, 98]).2) = 2) && (decide (((linesS [97, 98]).2) = 1) && true)) HE rfl rfl rfl T.q26 rfl rfl ?_; clear HE; intro a HE
  refine o_move HE rfl rfl ?_; clear HE; intro a HE
  refine cutL 3 (fun a' w' => w = w' ∧ Env a' 35 [] [(23, .bool ((decide ((code8 (linesS [97, 98]).2) = 2) && (decide (((linesS [97, 98]).2) = 1) && true)) && (((noteS [97, 32, 59, 98, 32, 59, 99]).1) == [97]))), (0, .bool false), (2, .pointer (some ⟨B2, 0, none⟩)), (4, str ((noteS [97, 32, 59, 98, 32, 59, 99]).2.1)), (5, .bool ((noteS [97, 32, 59, 98, 32, 59, 99]).2.2.1)), (6, .int .i64 ((noteS [97, 32, 59, 98, 32, 59, 99]).2.2.2)), (7, .tuple #[.slice vA2 ((linesS [97, 98]).1.length) vc2, .agg #[.int .i64 (code8 (linesS [97, 98]).2), .int .i64 ((linesS [97, 98]).2)]]), (8, .tuple #[.slice vA2 ((linesS [97, 98]).1.length) vc2, .agg #[.int .i64 (code8 (linesS [97, 98]).2), .int .i64 ((linesS [97, 98]).2)]]), (9, .slice vA2 ((linesS [97, 98]).1.length) vc2), (10, .agg #[.int .i64 (code8 (linesS [97, 98]).2), .int .i64 ((linesS [97, 98]).2)]), (11, .tuple #[str ((noteS [97, 32, 59, 98, 32, 59, 99]).1), str ((noteS [97, 32, 59, 98, 32, 59, 99]).2.1), .bool ((noteS [97, 32, 59, 98, 32, 59, 99]).2.2.1), .int .i64 ((noteS [97, 32, 59, 98, 32, 59, 99]).2.2.2)]), (12, .tuple #[str ((noteS [97, 32, 59, 98, 32, 59, 99]).1), str ((noteS [97, 32, 59, 98, 32, 59, 99]).2.1), .bool ((noteS [97, 32, 59, 98, 32, 59, 99]).2.2.1), .int .i64 ((noteS [97, 32, 59, 98, 32, 59, 99]).2.2.2)]), (13, str ((noteS [97, 32, 59, 98, 32, 59, 99]).1)), (14, str ((noteS [97, 32, 59, 98, 32, 59, 99]).2.1)), (15, .bool ((noteS [97, 32, 59, 98, 32, 59, 99]).2.2.1)), (16, .int .i64 ((noteS [97, 32, 59, 98, 32, 59, 99]).2.2.2))]) ?_ ?_
  · refine (Bool.eq_false_or_eq_true (decide ((code8 (linesS [97, 98]).2) = 2) && (decide (((linesS [97, 98]).2) = 1) && true))).elim (fun hb5 => ?_) (fun hb5 => ?_)
    · skip
      have hk6 := hb5; try simp only [Bool.not_eq_true', Bool.not_eq_false', Bool.and_eq_true, Bool.or_eq_true, Bool.or_eq_false_iff, decide_eq_true_eq, decide_eq_false_iff_not, beq_iff_eq, beq_eq_false_iff_ne, ne_eq] at hk6
      refine op_on HE rfl rfl hb5 ?_
      refine o_move HE rfl rfl ?_; clear HE; intro a HE
      refine op_on HE rfl rfl hb5 ?_
      refine o_eqS HE rfl rfl rfl ?_; clear HE; intro a HE
      refine o_pick_t HE rfl rfl hb5 rfl ?_; clear HE; intro a HE
      exact ⟨rfl, HE.cut ⟨by rw [hb5]; rfl, rfl, rfl, rfl, rfl, rfl, rfl, rfl, rfl, rfl, rfl, rfl, rfl, rfl, rfl, rfl, trivial⟩⟩
    · skip
      have hk7 := hb5; try simp only [Bool.not_eq_true', Bool.not_eq_false', Bool.and_eq_true, Bool.or_eq_true, Bool.or_eq_false_iff, decide_eq_true_eq, decide_eq_false_iff_not, beq_iff_eq, beq_eq_false_iff_ne, ne_eq] at hk7
      refine g_off HE rfl rfl rfl hb5 ?_; clear HE; intro a HE
      refine g_off HE rfl rfl rfl hb5 ?_; clear HE; intro a HE
      refine o_pick_f HE rfl rfl hb5 rfl ?_; clear HE; intro a HE
      exact ⟨rfl, HE.cut ⟨by rw [hb5]; rfl, rfl, rfl, rfl, rfl, rfl, rfl, rfl, rfl, rfl, rfl, rfl, rfl, rfl, rfl, rfl, trivial⟩⟩
  clear HE; rintro a _ ⟨rfl, HE⟩
  refine o_move HE rfl rfl ?_; clear HE; intro a HE
  refine cutL 3 (fun a' w' => w = w' ∧ Env a' 35 [] [(27, .bool (((decide ((code8 (linesS [97, 98]).2) = 2) && (decide (((linesS [97, 98]).2) = 1) && true)) && (((noteS [97, 32, 59, 98, 32, 59, 99]).1) == [97])) && (((noteS [97, 32, 59, 98, 32, 59, 99]).2.1) == [98, 32, 59, 99]))), (0, .bool false), (2, .pointer (some ⟨B2, 0, none⟩)), (5, .bool ((noteS [97, 32, 59, 98, 32, 59, 99]).2.2.1)), (6, .int .i64 ((noteS [97, 32, 59, 98, 32, 59, 99]).2.2.2)), (7, .tuple #[.slice vA2 ((linesS [97, 98]).1.length) vc2, .agg #[.int .i64 (code8 (linesS [97, 98]).2), .int .i64 ((linesS [97, 98]).2)]]), (8, .tuple #[.slice vA2 ((linesS [97, 98]).1.length) vc2, .agg #[.int .i64 (code8 (linesS [97, 98]).2), .int .i64 ((linesS [97, 98]).2)]]), (9, .slice vA2 ((linesS [97, 98]).1.length) vc2), (10, .agg #[.int .i64 (code8 (linesS [97, 98]).2), .int .i64 ((linesS [97, 98]).2)]), (11, .tuple #[str ((noteS [97, 32, 59, 98, 32, 59, 99]).1), str ((noteS [97, 32, 59, 98, 32, 59, 99]).2.1), .bool ((noteS [97, 32, 59, 98, 32, 59, 99]).2.2.1), .int .i64 ((noteS [97, 32, 59, 98, 32, 59, 99]).2.2.2)]), (12, .tuple #[str ((noteS [97, 32, 59, 98, 32, 59, 99]).1), str ((noteS [97, 32, 59, 98, 32, 59, 99]).2.1), .bool ((noteS [97, 32, 59, 98, 32, 59, 99]).2.2.1), .int .i64 ((noteS [97, 32, 59, 98, 32, 59, 99]).2.2.2)]), (13, str ((noteS [97, 32, 59, 98, 32, 59, 99]).1)), (14, str ((noteS [97, 32, 59, 98, 32, 59, 99]).2.1)), (15, .bool ((noteS [97, 32, 59, 98, 32, 59, 99]).2.2.1)), (16, .int .i64 ((noteS [97, 32, 59, 98, 32, 59, 99]).2.2.2))]) ?_ ?_
  · refine (Bool.eq_false_or_eq_true ((decide ((code8 (linesS [97, 98]).2) = 2) && (decide (((linesS [97, 98]).2) = 1) && true)) && (((noteS [97, 32, 59, 98, 32, 59, 99]).1) == [97]))).elim (fun hb8 => ?_) (fun hb8 => ?_)
    · skip
      have hk9 := hb8; try simp only [Bool.not_eq_true', Bool.not_eq_false', Bool.and_eq_true, Bool.or_eq_true, Bool.or_eq_false_iff, decide_eq_true_eq, decide_eq_false_iff_not, beq_iff_eq, beq_eq_false_iff_ne, ne_eq] at hk9
      refine op_on HE rfl rfl hb8 ?_
      refine o_move HE rfl rfl ?_; clear HE; intro a HE
      refine op_on HE rfl rfl hb8 ?_
      refine o_eqS HE rfl rfl rfl ?_; clear HE; intro a HE
      refine o_pick_t HE rfl rfl hb8 rfl ?_; clear HE; intro a HE
      exact ⟨rfl, HE.cut ⟨by rw [hb8]; rfl, rfl, rfl, rfl, rfl, rfl, rfl, rfl, rfl, rfl, rfl, rfl, rfl, rfl, rfl, trivial⟩⟩
    · skip
      have hk10 := hb8; try simp only [Bool.not_eq_true', Bool.not_eq_false', Bool.and_eq_true, Bool.or_eq_true, Bool.or_eq_false_iff, decide_eq_true_eq, decide_eq_false_iff_not, beq_iff_eq, beq_eq_false_iff_ne, ne_eq] at hk10
      refine g_off HE rfl rfl rfl hb8 ?_; clear HE; intro a HE
      refine g_off HE rfl rfl rfl hb8 ?_; clear HE; intro a HE
      refine o_pick_f HE rfl rfl hb8 rfl ?_; clear HE; intro a HE
      exact ⟨rfl, HE.cut ⟨by rw [hb8]; rfl, rfl, rfl, rfl, rfl, rfl, rfl, rfl, rfl, rfl, rfl, rfl, rfl, rfl, rfl, trivial⟩⟩
  clear HE; rintro a _ ⟨rfl, HE⟩
  refine o_move HE rfl rfl ?_; clear HE; intro a HE
  refine cutL 2 (fun a' w' => w = w' ∧ Env a' 35 [] [(30, .bool ((((decide ((code8 (linesS [97, 98]).2) = 2) && (decide (((linesS [97, 98]).2) = 1) && true)) && (((noteS [97, 32, 59, 98, 32, 59, 99]).1) == [97])) && (((noteS [97, 32, 59, 98, 32, 59, 99]).2.1) == [98, 32, 59, 99])) && ((noteS [97, 32, 59, 98, 32, 59, 99]).2.2.1))), (0, .bool false), (2, .pointer (some ⟨B2, 0, none⟩)), (6, .int .i64 ((noteS [97, 32, 59, 98, 32, 59, 99]).2.2.2)), (7, .tuple #[.slice vA2 ((linesS [97, 98]).1.length) vc2, .agg #[.int .i64 (code8 (linesS [97, 98]).2), .int .i64 ((linesS [97, 98]).2)]]), (8, .tuple #[.slice vA2 ((linesS [97, 98]).1.length) vc2, .agg #[.int .i64 (code8 (linesS [97, 98]).2), .int .i64 ((linesS [97, 98]).2)]]), (9, .slice vA2 ((linesS [97, 98]).1.length) vc2), (10, .agg #[.int .i64 (code8 (linesS [97, 98]).2), .int .i64 ((linesS [97, 98]).2)]), (11, .tuple #[str ((noteS [97, 32, 59, 98, 32, 59, 99]).1), str ((noteS [97, 32, 59, 98, 32, 59, 99]).2.1), .bool ((noteS [97, 32, 59, 98, 32, 59, 99]).2.2.1), .int .i64 ((noteS [97, 32, 59, 98, 32, 59, 99]).2.2.2)]), (12, .tuple #[str ((noteS [97, 32, 59, 98, 32, 59, 99]).1), str ((noteS [97, 32, 59, 98, 32, 59, 99]).2.1), .bool ((noteS [97, 32, 59, 98, 32, 59, 99]).2.2.1), .int .i64 ((noteS [97, 32, 59, 98, 32, 59, 99]).2.2.2)]), (13, str ((noteS [97, 32, 59, 98, 32, 59, 99]).1)), (14, str ((noteS [97, 32, 59, 98, 32, 59, 99]).2.1)), (15, .bool ((noteS [97, 32, 59, 98, 32, 59, 99]).2.2.1)), (16, .int .i64 ((noteS [97, 32, 59, 98, 32, 59, 99]).2.2.2))]) ?_ ?_
  · refine (Bool.eq_false_or_eq_true (((decide ((code8 (linesS [97, 98]).2) = 2) && (decide (((linesS [97, 98]).2) = 1) && true)) && (((noteS [97, 32, 59, 98, 32, 59, 99]).1) == [97])) && (((noteS [97, 32, 59, 98, 32, 59, 99]).2.1) == [98, 32, 59, 99]))).elim (fun hb11 => ?_) (fun hb11 => ?_)
    · skip
      have hk12 := hb11; try simp only [Bool.not_eq_true', Bool.not_eq_false', Bool.and_eq_true, Bool.or_eq_true, Bool.or_eq_false_iff, decide_eq_true_eq, decide_eq_false_iff_not, beq_iff_eq, beq_eq_false_iff_ne, ne_eq] at hk12
      refine op_on HE rfl rfl hb11 ?_
      refine o_move HE rfl rfl ?_; clear HE; intro a HE
      refine o_pick_t HE rfl rfl hb11 rfl ?_; clear HE; intro a HE
      exact ⟨rfl, HE.cut ⟨by rw [hb11]; rfl, rfl, rfl, rfl, rfl, rfl, rfl, rfl, rfl, rfl, rfl, rfl, rfl, rfl, trivial⟩⟩
    · skip
      have hk13 := hb11; try simp only [Bool.not_eq_true', Bool.not_eq_false', Bool.and_eq_true, Bool.or_eq_true, Bool.or_eq_false_iff, decide_eq_true_eq, decide_eq_false_iff_not, beq_iff_eq, beq_eq_false_iff_ne, ne_eq] at hk13
      refine g_off HE rfl rfl rfl hb11 ?_; clear HE; intro a HE
      refine o_pick_f HE rfl rfl hb11 rfl ?_; clear HE; intro a HE
      exact ⟨rfl, HE.cut ⟨by rw [hb11]; rfl, rfl, rfl, rfl, rfl, rfl, rfl, rfl, rfl, rfl, rfl, rfl, rfl, rfl, trivial⟩⟩
  clear HE; rintro a _ ⟨rfl, HE⟩
  refine o_move HE rfl rfl ?_; clear HE; intro a HE
  refine cutL 3 (fun a' w' => w = w' ∧ Env a' 35 [] [(34, .bool (((((decide ((code8 (linesS [97, 98]).2) = 2) && (decide (((linesS [97, 98]).2) = 1) && true)) && (((noteS [97, 32, 59, 98, 32, 59, 99]).1) == [97])) && (((noteS [97, 32, 59, 98, 32, 59, 99]).2.1) == [98, 32, 59, 99])) && ((noteS [97, 32, 59, 98, 32, 59, 99]).2.2.1)) && (decide (((noteS [97, 32, 59, 98, 32, 59, 99]).2.2.2) = 0)))), (0, .bool false), (2, .pointer (some ⟨B2, 0, none⟩)), (7, .tuple #[.slice vA2 ((linesS [97, 98]).1.length) vc2, .agg #[.int .i64 (code8 (linesS [97, 98]).2), .int .i64 ((linesS [97, 98]).2)]]), (8, .tuple #[.slice vA2 ((linesS [97, 98]).1.length) vc2, .agg #[.int .i64 (code8 (linesS [97, 98]).2), .int .i64 ((linesS [97, 98]).2)]]), (9, .slice vA2 ((linesS [97, 98]).1.length) vc2), (10, .agg #[.int .i64 (code8 (linesS [97, 98]).2), .int .i64 ((linesS [97, 98]).2)]), (11, .tuple #[str ((noteS [97, 32, 59, 98, 32, 59, 99]).1), str ((noteS [97, 32, 59, 98, 32, 59, 99]).2.1), .bool ((noteS [97, 32, 59, 98, 32, 59, 99]).2.2.1), .int .i64 ((noteS [97, 32, 59, 98, 32, 59, 99]).2.2.2)]), (12, .tuple #[str ((noteS [97, 32, 59, 98, 32, 59, 99]).1), str ((noteS [97, 32, 59, 98, 32, 59, 99]).2.1), .bool ((noteS [97, 32, 59, 98, 32, 59, 99]).2.2.1), .int .i64 ((noteS [97, 32, 59, 98, 32, 59, 99]).2.2.2)]), (13, str ((noteS [97, 32, 59, 98, 32, 59, 99]).1)), (14, str ((noteS [97, 32, 59, 98, 32, 59, 99]).2.1)), (15, .bool ((noteS [97, 32, 59, 98, 32, 59, 99]).2.2.1)), (16, .int .i64 ((noteS [97, 32, 59, 98, 32, 59, 99]).2.2.2))]) ?_ ?_
  · refine (Bool.eq_false_or_eq_true ((((decide ((code8 (linesS [97, 98]).2) = 2) && (decide (((linesS [97, 98]).2) = 1) && true)) && (((noteS [97, 32, 59, 98, 32, 59, 99]).1) == [97])) && (((noteS [97, 32, 59, 98, 32, 59, 99]).2.1) == [98, 32, 59, 99])) && ((noteS [97, 32, 59, 98, 32, 59, 99]).2.2.1))).elim (fun hb14 => ?_) (fun hb14 => ?_)
    · skip
      have hk15 := hb14; try simp only [Bool.not_eq_true', Bool.not_eq_false', Bool.and_eq_true, Bool.or_eq_true, Bool.or_eq_false_iff, decide_eq_true_eq, decide_eq_false_iff_not, beq_iff_eq, beq_eq_false_iff_ne, ne_eq] at hk15
      refine op_on HE rfl rfl hb14 ?_
      refine o_move HE rfl rfl ?_; clear HE; intro a HE
      refine op_on HE rfl rfl hb14 ?_
      refine o_eqI HE rfl rfl rfl ?_; clear HE; intro a HE
      refine o_pick_t HE rfl rfl hb14 rfl ?_; clear HE; intro a HE
      exact ⟨rfl, HE.cut ⟨by rw [hb14]; rfl, rfl, rfl, rfl, rfl, rfl, rfl, rfl, rfl, rfl, rfl, rfl, rfl, trivial⟩⟩
    · skip
      have hk16 := hb14; try simp only [Bool.not_eq_true', Bool.not_eq_false', Bool.and_eq_true, Bool.or_eq_true, Bool.or_eq_false_iff, decide_eq_true_eq, decide_eq_false_iff_not, beq_iff_eq, beq_eq_false_iff_ne, ne_eq] at hk16
      refine g_off HE rfl rfl rfl hb14 ?_; clear HE; intro a HE
      refine g_off HE rfl rfl rfl hb14 ?_; clear HE; intro a HE
      refine o_pick_f HE rfl rfl hb14 rfl ?_; clear HE; intro a HE
      exact ⟨rfl, HE.cut ⟨by rw [hb14]; rfl, rfl, rfl, rfl, rfl, rfl, rfl, rfl, rfl, rfl, rfl, rfl, rfl, trivial⟩⟩
  clear HE; rintro a _ ⟨rfl, HE⟩
  refine o_assign HE rfl rfl ?_; clear HE; intro a HE
  refine hK _ _ ?_; clear hK K
  refine wp_ret ?_
  show Q .ret _ _
  refine ret hQ HE rfl (HE.res rfl .nil) ⟨_, _, HS.stop (List.nil_sublist _), rfl, ?_⟩
  show _ = _
  simp only [packed, Value.bool.injEq]
  decide

/-! `incognito/incognitolaw08.LineSplits` -/
set_option maxRecDepth 100000 in
set_option maxHeartbeats 4000000 in
theorem law_LineSplits (s : Bs) (w0 : World) (G : Heap) (hG : Sub G w0) (m8 : Int) (h8 : CellsAt G 0 0 [.int .i64 m8]) (hls : s.length ≤ 9223372036854775807):
    Calls Try.prog 3 #[str s] w0 (Ret w0 G (fun v _ => v = .bool true)) := by
  refine enter Try.func3 rfl Try.ntmps3 rfl ?_
  intro Q hQ a HE
  have HS := St.start0 hG
  refine wp_seq_k (fun K hK => ?_); refine wp_region_lit ?_
  refine o_assign HE rfl rfl ?_; clear HE; intro a HE
  refine hK _ _ ?_; clear hK K
  refine wp_seq_k (fun K3 hK2 => ?_)
  refine wp_seq_k (fun K hK => ?_); refine wp_region_lit ?_
  refine o_callP HE rfl HS rfl rfl T.g5 (c_wakes8 _ _ HS.sub m8 h8) ?_
  clear HE HS; rintro _ w a HS rfl HE
  refine o_not HE rfl rfl ?_; clear HE; intro a HE
  refine hK _ _ ?_; clear hK K
  refine cond HE rfl (fun h5 => ?_) (fun h5 => ?_)
  · have h5r := h5; try simp only [Bool.not_eq_true', Bool.not_eq_false', Bool.and_eq_true, Bool.or_eq_true, Bool.or_eq_false_iff, Bool.and_eq_false_iff, decide_eq_true_eq, decide_eq_false_iff_not, beq_iff_eq, beq_eq_false_iff_ne, ne_eq] at h5
    refine wp_seq_k (fun K hK => ?_); refine wp_region_lit ?_
    refine o_assign HE rfl rfl ?_; clear HE; intro a HE
    refine hK _ _ ?_; clear hK K
    refine wp_ret ?_
    show Q .ret _ _
    refine ret hQ HE rfl (HE.res rfl .nil) ⟨_, _, HS.stop (List.nil_sublist _), rfl, ?_⟩
    exact absurd h5r (by decide)
  · have h5r := h5; try simp only [Bool.not_eq_true', Bool.not_eq_false', Bool.and_eq_true, Bool.or_eq_true, Bool.or_eq_false_iff, Bool.and_eq_false_iff, decide_eq_true_eq, decide_eq_false_iff_not, beq_iff_eq, beq_eq_false_iff_ne, ne_eq] at h5
    refine wp_skip ?_
    refine hK2 _ _ ?_; clear hK2
    refine wp_seq_k (fun K8 hK7 => ?_)
    refine wp_seq_k (fun K hK => ?_); refine wp_region_lit ?_
    refine o_move HE rfl rfl ?_; clear HE; intro a HE
    refine o_lenS HE rfl rfl Try.underlying9 ?_; clear HE; intro a HE
    refine o_gtr HE rfl rfl rfl ?_; clear HE; intro a HE
    refine hK _ _ ?_; clear hK K
    refine cond HE rfl (fun h10 => ?_) (fun h10 => ?_)
    · have h10r := h10; try simp only [Bool.not_eq_true', Bool.not_eq_false', Bool.and_eq_true, Bool.or_eq_true, Bool.or_eq_false_iff, Bool.and_eq_false_iff, decide_eq_true_eq, decide_eq_false_iff_not, beq_iff_eq, beq_eq_false_iff_ne, ne_eq] at h10
      refine wp_seq_k (fun K hK => ?_); refine wp_region_lit ?_
      refine o_assign HE rfl rfl ?_; clear HE; intro a HE
      refine hK _ _ ?_; clear hK K
      refine wp_ret ?_
      show Q .ret _ _
      refine ret hQ HE rfl (HE.res rfl .nil) ⟨_, _, HS.stop (List.nil_sublist _), rfl, ?_⟩
      show _ = _
      rfl
    · have h10r := h10; try simp only [Bool.not_eq_true', Bool.not_eq_false', Bool.and_eq_true, Bool.or_eq_true, Bool.or_eq_false_iff, Bool.and_eq_false_iff, decide_eq_true_eq, decide_eq_false_iff_not, beq_iff_eq, beq_eq_false_iff_ne, ne_eq] at h10
      refine wp_skip ?_
      refine hK7 _ _ ?_; clear hK7
      refine wp_seq_k (fun K hK => ?_); refine wp_region_lit ?_
      refine o_move HE rfl rfl ?_; clear HE; intro a HE
      refine o_call HE rfl HS rfl rfl T.g6 (c_split s _ _ HS.sub m8 h8 (by first | omega | (simp; done) | (simp; omega) | (have := cutA_len s 59; have := cutB_len s 59; omega))) ?_
      clear HE HS; rintro _ G12 w a HS hle12 ⟨vA12, vc12, rfl, hcp12, hR12⟩ HE
      replace h8 := h8.le hle12
      refine o_move HE rfl rfl ?_; clear HE; intro a HE
      refine o_extract HE rfl rfl rfl ?_; clear HE; intro a HE
      refine o_extract HE rfl rfl rfl ?_; clear HE; intro a HE
      refine o_allocL [(0, _), (1, _)] HE rfl HS T.z26 ⟨rfl, rfl, trivial⟩ ?_; clear HE HS; intro B4 w a HS HE
      refine o_assign HE rfl rfl ?_; clear HE; intro a HE
      refine o_stA HE HS rfl rfl rfl T.a26 (.here .here) rfl ?_; clear HS; intro w HS
      refine hK _ _ ?_; clear hK K
      refine wp_seq_k (fun K hK => ?_); refine wp_region_lit ?_
      refine o_move HE rfl rfl ?_; clear HE; intro a HE
      refine o_call HE rfl HS rfl rfl T.g7 (c_Split8 s _ _ HS.sub (by first | omega | (simp; done) | (simp; omega) | (have := cutA_len s 59; have := cutB_len s 59; omega))) ?_
      clear HE HS; rintro _ G14 w a HS hle14 ⟨vA14, vc14, rfl, hcp14, hR14⟩ HE
      replace h8 := h8.le hle14
      replace hR12 := hR12.le hle14
      refine o_move HE rfl rfl ?_; clear HE; intro a HE
      refine o_extract HE rfl rfl rfl ?_; clear HE; intro a HE
      refine o_extract HE rfl rfl rfl ?_; clear HE; intro a HE
      refine o_assign HE rfl rfl ?_; clear HE; intro a HE
      refine o_assign HE rfl rfl ?_; clear HE; intro a HE
      refine hK _ _ ?_; clear hK K
      refine wp_seq_k (fun K17 hK16 => ?_)
      refine wp_seq_k (fun K hK => ?_); refine wp_region_lit ?_
      refine o_move HE rfl rfl ?_; clear HE; intro a HE
      refine o_gtr HE rfl rfl rfl ?_; clear HE; intro a HE
      refine hK _ _ ?_; clear hK K
      refine cond HE rfl (fun h19 => ?_) (fun h19 => ?_)
      · have h19r := h19; try simp only [Bool.not_eq_true', Bool.not_eq_false', Bool.and_eq_true, Bool.or_eq_true, Bool.or_eq_false_iff, Bool.and_eq_false_iff, decide_eq_true_eq, decide_eq_false_iff_not, beq_iff_eq, beq_eq_false_iff_ne, ne_eq] at h19
        refine wp_seq_k (fun K hK => ?_); refine wp_region_lit ?_
        refine o_ldA HE rfl HS rfl T.a26 (.here .here) rfl ?_; clear HE; intro a HE
        refine o_move HE rfl rfl ?_; clear HE; intro a HE
        refine o_build (cs := #[.int .i64 2, .int .i64 ((linesS s).2)]) HE rfl rfl (by kernel_rfl) ?_; clear HE; intro a HE
        refine o_eqA (b := decide ((code8 (linesS s).2) = 2) && (decide (((linesS s).2) = ((linesS s).2)) && true)) HE rfl rfl rfl T.q26 rfl rfl ?_; clear HE; intro a HE
        refine o_move HE rfl rfl ?_; clear HE; intro a HE
        refine cutL 4 (fun a' w' => w = w' ∧ Env a' 60 [] [(35, .bool ((decide ((code8 (linesS s).2) = 2) && (decide (((linesS s).2) = ((linesS s).2)) && true)) && (decide (((linesS s).1.length : Int) = 0)))), (0, str s), (2, .bool false), (3, .slice vA12 ((linesS s).1.length) vc12), (4, .pointer (some ⟨B4, 0, none⟩)), (5, .slice vA14 ((linesS s).1.length) vc14), (6, .int .i64 ((linesS s).2)), (10, .bool true), (11, .bool (!true)), (12, str s), (13, .int .i64 (s.length : Int)), (14, .bool (decide (2000 < (s.length : Int)))), (15, .tuple #[.slice vA12 ((linesS s).1.length) vc12, .agg #[.int .i64 (code8 (linesS s).2), .int .i64 ((linesS s).2)]]), (16, str s), (17, .tuple #[.slice vA12 ((linesS s).1.length) vc12, .agg #[.int .i64 (code8 (linesS s).2), .int .i64 ((linesS s).2)]]), (18, .slice vA12 ((linesS s).1.length) vc12), (19, .agg #[.int .i64 (code8 (linesS s).2), .int .i64 ((linesS s).2)]), (20, .tuple #[.slice vA14 ((linesS s).1.length) vc14, .int .i64 ((linesS s).2)]), (21, str s), (22, .tuple #[.slice vA14 ((linesS s).1.length) vc14, .int .i64 ((linesS s).2)]), (23, .slice vA14 ((linesS s).1.length) vc14), (24, .int .i64 ((linesS s).2)), (25, .int .i64 ((linesS s).2)), (26, .bool (decide (0 < ((linesS s).2))))]) ?_ ?_
        · refine (Bool.eq_false_or_eq_true (decide ((code8 (linesS s).2) = 2) && (decide (((linesS s).2) = ((linesS s).2)) && true))).elim (fun hb20 => ?_) (fun hb20 => ?_)
          · skip
            have hk21 := hb20; try simp only [Bool.not_eq_true', Bool.not_eq_false', Bool.and_eq_true, Bool.or_eq_true, Bool.or_eq_false_iff, decide_eq_true_eq, decide_eq_false_iff_not, beq_iff_eq, beq_eq_false_iff_ne, ne_eq] at hk21
            refine op_on HE rfl rfl hb20 ?_
            refine o_move HE rfl rfl ?_; clear HE; intro a HE
            refine op_on HE rfl rfl hb20 ?_
            refine o_lenL HE rfl rfl Try.underlying23 ?_; clear HE; intro a HE
            refine op_on HE rfl rfl hb20 ?_
            refine o_eqI HE rfl rfl rfl ?_; clear HE; intro a HE
            refine o_pick_t HE rfl rfl hb20 rfl ?_; clear HE; intro a HE
            exact ⟨rfl, HE.cut ⟨by rw [hb20]; rfl, rfl, rfl, rfl, rfl, rfl, rfl, rfl, rfl, rfl, rfl, rfl, rfl, rfl, rfl, rfl, rfl, rfl, rfl, rfl, rfl, rfl, rfl, rfl, trivial⟩⟩
          · skip
            have hk22 := hb20; try simp only [Bool.not_eq_true', Bool.not_eq_false', Bool.and_eq_true, Bool.or_eq_true, Bool.or_eq_false_iff, decide_eq_true_eq, decide_eq_false_iff_not, beq_iff_eq, beq_eq_false_iff_ne, ne_eq] at hk22
            refine g_off HE rfl rfl rfl hb20 ?_; clear HE; intro a HE
            refine g_off HE rfl rfl rfl hb20 ?_; clear HE; intro a HE
            refine g_off HE rfl rfl rfl hb20 ?_; clear HE; intro a HE
            refine o_pick_f HE rfl rfl hb20 rfl ?_; clear HE; intro a HE
            exact ⟨rfl, HE.cut ⟨by rw [hb20]; rfl, rfl, rfl, rfl, rfl, rfl, rfl, rfl, rfl, rfl, rfl, rfl, rfl, rfl, rfl, rfl, rfl, rfl, rfl, rfl, rfl, rfl, rfl, rfl, trivial⟩⟩
        clear HE; rintro a _ ⟨rfl, HE⟩
        refine o_assign HE rfl rfl ?_; clear HE; intro a HE
        refine hK _ _ ?_; clear hK K
        refine wp_ret ?_
        show Q .ret _ _
        refine ret hQ HE rfl (HE.res rfl .nil) ⟨_, _, HS.stop (List.nil_sublist _), rfl, ?_⟩
        show _ = _
        simp only [packed, Value.bool.injEq]
        obtain ⟨e1, e2⟩ := linesS_no (s := s) (by omega)
        rw [e1]
        simp [code8]; omega
      · have h19r := h19; try simp only [Bool.not_eq_true', Bool.not_eq_false', Bool.and_eq_true, Bool.or_eq_true, Bool.or_eq_false_iff, Bool.and_eq_false_iff, decide_eq_true_eq, decide_eq_false_iff_not, beq_iff_eq, beq_eq_false_iff_ne, ne_eq] at h19
        refine wp_skip ?_
        refine hK16 _ _ ?_; clear hK16
        refine wp_seq_k (fun K hK => ?_); refine wp_region_lit ?_
        refine o_assign HE rfl rfl ?_; clear HE; intro a HE
        refine hK _ _ ?_; clear hK K
        refine wp_seq_k (fun K26 hK25 => ?_)
        refine wp_seq_k (fun K hK => ?_); refine wp_region_lit ?_
        refine o_move HE rfl rfl ?_; clear HE; intro a HE
        refine o_lenL HE rfl rfl Try.underlying23 ?_; clear HE; intro a HE
        refine o_move HE rfl rfl ?_; clear HE; intro a HE
        refine hK _ _ ?_; clear hK K
        refine wp_block ?_
        replace HS := HS.conv (L2 := [(0, _), (1, _)]) (.here .here) ⟨rfl, rfl, trivial⟩
        refine loop (fun (i : Nat) a' w' => St w0 G [] G14 w' [[(B4, Cells 26 [(0, .int .i64 (code8 (linesS s).2)), (1, .int .i64 ((linesS s).2))])]] ∧ Env a' 60 [] [(0, str s), (3, .slice vA12 ((linesS s).1.length) vc12), (4, .pointer (some ⟨B4, 0, none⟩)), (5, .slice vA14 ((linesS s).1.length) vc14), (7, str (((linesS s).1.take i).flatMap (· ++ [10]))), (36, .slice vA12 ((linesS s).1.length) vc12), (37, .int .i64 ((linesS s).1.length : Int)), (38, .int .i64 ((i : Nat) : Int))] ∧ (i ≤ (linesS s).1.length)) (fun (i : Nat) => (linesS s).1.length - i) 0 ⟨HS, HE.cut ⟨rfl, rfl, rfl, rfl, rfl, rfl, rfl, rfl, trivial⟩, Nat.zero_le _⟩ ?_
        clear HE HS; intro i a w ⟨HS, HE, hi⟩
        refine wp_seq_k (fun K hK => ?_); refine wp_region_lit ?_
        refine o_lss HE rfl rfl rfl ?_; clear HE; intro a HE
        refine hK _ _ ?_; clear hK K
        refine wp_seq_k (fun K31 hK30 => ?_)
        refine cond HE rfl (fun h32 => ?_) (fun h32 => ?_)
        · have h32r := h32; try simp only [Bool.not_eq_true', Bool.not_eq_false', Bool.and_eq_true, Bool.or_eq_true, Bool.or_eq_false_iff, Bool.and_eq_false_iff, decide_eq_true_eq, decide_eq_false_iff_not, beq_iff_eq, beq_eq_false_iff_ne, ne_eq] at h32
          refine wp_skip ?_
          refine hK30 _ _ ?_; clear hK30
          refine wp_seq_k (fun K34 hK33 => ?_)
          refine wp_block ?_
          refine wp_seq_k (fun K hK => ?_); refine wp_region_lit ?_
          have hi35 : ((i : Nat) : Int).toNat < ((linesS s).1).length := by omega
          obtain ⟨eb35, eo35, hA35, el35⟩ := Rd.at hR12 (List.getElem?_eq_getElem hi35); cases hA35
          obtain ⟨x35, ex35⟩ : ∃ x, ((linesS s).1)[((i : Nat) : Int).toNat] = x := ⟨_, rfl⟩; rw [ex35] at el35
          have el35 := kof_open (enc := fun l => str l) el35
          refine o_ixL HE rfl rfl rfl T.l23 ⟨by omega, by omega⟩ ?_; clear HE; intro a HE
          refine o_ldI HE rfl HS rfl T.s9 el35 (j := 0) rfl rfl ?_; clear HE; intro a HE
          refine o_assign HE rfl rfl ?_; clear HE; intro a HE
          refine hK _ _ ?_; clear hK K
          refine wp_region_lit ?_
          refine o_move HE rfl rfl ?_; clear HE; intro a HE
          refine o_move HE rfl rfl ?_; clear HE; intro a HE
          have hit : i < (linesS s).1.length := by omega
          have hll := linesS_len s
          have hx8 : ((linesS s).1.take i).flatMap (· ++ [10]) ++ (x35 ++ [10]) = ((linesS s).1.take (i + 1)).flatMap (· ++ [10]) := by rw [flat_take hit, ← ex35]; rfl
          have hln : (((linesS s).1.take i).flatMap (· ++ [10]) ++ (x35 ++ [10])).length ≤ s.length := by rw [hx8]; have := flat_le (linesS s).1 (i + 1); rwa [(linesS_yes (s := s) (by assumption)).2] at this
          rw [List.length_append, List.length_append, List.length_singleton] at hln
          refine o_cat HE rfl rfl rfl (by rw [List.length_singleton]; omega) ?_; clear HE; intro a HE
          refine o_cat HE rfl rfl rfl (by rw [List.length_append, List.length_singleton]; omega) ?_; clear HE; intro a HE
          refine o_assign HE rfl rfl ?_; clear HE; intro a HE
          refine hK33 _ _ ?_; clear hK33
          refine wp_region_lit ?_
          refine o_add HE rfl rfl rfl (by omega) ?_; clear HE; intro a HE
          refine o_move HE rfl rfl ?_; clear HE; intro a HE
          rw [hx8] at HE
          exact ⟨i + 1, ⟨HS, HE.cut ⟨rfl, rfl, rfl, rfl, rfl, rfl, rfl, rfl, trivial⟩, by omega⟩, by omega⟩
        · have h32r := h32; try simp only [Bool.not_eq_true', Bool.not_eq_false', Bool.and_eq_true, Bool.or_eq_true, Bool.or_eq_false_iff, Bool.and_eq_false_iff, decide_eq_true_eq, decide_eq_false_iff_not, beq_iff_eq, beq_eq_false_iff_ne, ne_eq] at h32
          refine wp_exit ?_
          refine hK25 _ _ ?_; clear hK25
          refine wp_seq_k (fun K hK => ?_); refine wp_region_lit ?_
          refine o_ldA HE rfl HS rfl T.a26 (.here .here) rfl ?_; clear HE; intro a HE
          refine o_build (cs := #[.int .i64 0, .int .i64 0]) HE rfl rfl (by kernel_rfl) ?_; clear HE; intro a HE
          refine o_eqA (b := decide ((code8 (linesS s).2) = 0) && (decide (((linesS s).2) = 0) && true)) HE rfl rfl rfl T.q26 rfl rfl ?_; clear HE; intro a HE
          refine o_move HE rfl rfl ?_; clear HE; intro a HE
          obtain ⟨M0, hM0, HS⟩ : ∃ M0, M0 = _ ∧ St w0 G [] G14 _ M0 := ⟨_, rfl, HS⟩
          refine cutL 4 (fun a' w' => St w0 G [] G14 w' M0 ∧ Env a' 60 [] [(54, .bool ((decide ((code8 (linesS s).2) = 0) && (decide (((linesS s).2) = 0) && true)) && (decide ((linesS s).1 = (linesS s).1)))), (0, str s), (3, .slice vA12 ((linesS s).1.length) vc12), (4, .pointer (some ⟨B4, 0, none⟩)), (7, str (((linesS s).1.take i).flatMap (· ++ [10]))), (36, .slice vA12 ((linesS s).1.length) vc12), (37, .int .i64 ((linesS s).1.length : Int)), (38, .int .i64 ((i : Nat) : Int)), (39, .bool (decide (((i : Nat) : Int) < ((linesS s).1.length : Int))))]) ?_ ?_
          · refine (Bool.eq_false_or_eq_true (decide ((code8 (linesS s).2) = 0) && (decide (((linesS s).2) = 0) && true))).elim (fun hb37 => ?_) (fun hb37 => ?_)
            · subst hM0
              have hk38 := hb37; try simp only [Bool.not_eq_true', Bool.not_eq_false', Bool.and_eq_true, Bool.or_eq_true, Bool.or_eq_false_iff, decide_eq_true_eq, decide_eq_false_iff_not, beq_iff_eq, beq_eq_false_iff_ne, ne_eq] at hk38
              refine op_on HE rfl rfl hb37 ?_
              refine o_move HE rfl rfl ?_; clear HE; intro a HE
              refine op_on HE rfl rfl hb37 ?_
              refine o_move HE rfl rfl ?_; clear HE; intro a HE
              refine op_on HE rfl rfl hb37 ?_
              refine o_callP HE rfl HS rfl rfl T.g8 (c_same8 ((linesS s).1) _ _ ((linesS s).1) _ _ _ _ HS.sub hR12 (by have := linesS_len s; omega) hR14 (by have := linesS_len s; omega)) ?_
              clear HE HS; rintro _ w a HS rfl HE
              refine o_pick_t HE rfl rfl hb37 rfl ?_; clear HE; intro a HE
              exact ⟨HS, HE.cut ⟨by rw [hb37]; rfl, rfl, rfl, rfl, rfl, rfl, rfl, rfl, rfl, trivial⟩⟩
            · subst hM0
              have hk39 := hb37; try simp only [Bool.not_eq_true', Bool.not_eq_false', Bool.and_eq_true, Bool.or_eq_true, Bool.or_eq_false_iff, decide_eq_true_eq, decide_eq_false_iff_not, beq_iff_eq, beq_eq_false_iff_ne, ne_eq] at hk39
              refine g_off HE rfl rfl rfl hb37 ?_; clear HE; intro a HE
              refine g_off HE rfl rfl rfl hb37 ?_; clear HE; intro a HE
              refine g_off HE rfl rfl rfl hb37 ?_; clear HE; intro a HE
              refine o_pick_f HE rfl rfl hb37 rfl ?_; clear HE; intro a HE
              exact ⟨HS, HE.cut ⟨by rw [hb37]; rfl, rfl, rfl, rfl, rfl, rfl, rfl, rfl, rfl, trivial⟩⟩
          clear HE HS; rintro a w ⟨HS, HE⟩; subst hM0
          refine o_move HE rfl rfl ?_; clear HE; intro a HE
          refine cutL 4 (fun a' w' => w = w' ∧ Env a' 60 [] [(59, .bool (((decide ((code8 (linesS s).2) = 0) && (decide (((linesS s).2) = 0) && true)) && (decide ((linesS s).1 = (linesS s).1))) && ((((linesS s).1.take i).flatMap (· ++ [10])) == s))), (0, str s), (3, .slice vA12 ((linesS s).1.length) vc12), (4, .pointer (some ⟨B4, 0, none⟩)), (7, str (((linesS s).1.take i).flatMap (· ++ [10]))), (36, .slice vA12 ((linesS s).1.length) vc12), (37, .int .i64 ((linesS s).1.length : Int)), (38, .int .i64 ((i : Nat) : Int)), (39, .bool (decide (((i : Nat) : Int) < ((linesS s).1.length : Int))))]) ?_ ?_
          · refine (Bool.eq_false_or_eq_true ((decide ((code8 (linesS s).2) = 0) && (decide (((linesS s).2) = 0) && true)) && (decide ((linesS s).1 = (linesS s).1)))).elim (fun hb40 => ?_) (fun hb40 => ?_)
            · skip
              have hk41 := hb40; try simp only [Bool.not_eq_true', Bool.not_eq_false', Bool.and_eq_true, Bool.or_eq_true, Bool.or_eq_false_iff, decide_eq_true_eq, decide_eq_false_iff_not, beq_iff_eq, beq_eq_false_iff_ne, ne_eq] at hk41
              refine op_on HE rfl rfl hb40 ?_
              refine o_move HE rfl rfl ?_; clear HE; intro a HE
              refine op_on HE rfl rfl hb40 ?_
              refine o_move HE rfl rfl ?_; clear HE; intro a HE
              refine op_on HE rfl rfl hb40 ?_
              refine o_eqS HE rfl rfl rfl ?_; clear HE; intro a HE
              refine o_pick_t HE rfl rfl hb40 rfl ?_; clear HE; intro a HE
              exact ⟨rfl, HE.cut ⟨by rw [hb40]; rfl, rfl, rfl, rfl, rfl, rfl, rfl, rfl, rfl, trivial⟩⟩
            · skip
              have hk42 := hb40; try simp only [Bool.not_eq_true', Bool.not_eq_false', Bool.and_eq_true, Bool.or_eq_true, Bool.or_eq_false_iff, decide_eq_true_eq, decide_eq_false_iff_not, beq_iff_eq, beq_eq_false_iff_ne, ne_eq] at hk42
              refine g_off HE rfl rfl rfl hb40 ?_; clear HE; intro a HE
              refine g_off HE rfl rfl rfl hb40 ?_; clear HE; intro a HE
              refine g_off HE rfl rfl rfl hb40 ?_; clear HE; intro a HE
              refine o_pick_f HE rfl rfl hb40 rfl ?_; clear HE; intro a HE
              exact ⟨rfl, HE.cut ⟨by rw [hb40]; rfl, rfl, rfl, rfl, rfl, rfl, rfl, rfl, rfl, trivial⟩⟩
          clear HE; rintro a _ ⟨rfl, HE⟩
          refine o_assign HE rfl rfl ?_; clear HE; intro a HE
          refine hK _ _ ?_; clear hK K
          refine wp_ret ?_
          show Q .ret _ _
          refine ret hQ HE rfl (HE.res rfl .nil) ⟨_, _, HS.stop (List.nil_sublist _), rfl, ?_⟩
          show _ = _
          simp only [packed, Value.bool.injEq]
          obtain ⟨e1, e2⟩ := linesS_yes (s := s) (by assumption)
          rw [List.take_of_length_le (by omega), e1, e2]
          simp [code8]

/-! `incognito/incognitolaw08.LineNotes` -/
set_option maxRecDepth 100000 in
set_option maxHeartbeats 4000000 in
theorem law_LineNotes (s : Bs) (w0 : World) (G : Heap) (hG : Sub G w0) (m8 : Int) (h8 : CellsAt G 0 0 [.int .i64 m8]) (hls : s.length ≤ 9223372036854775807):
    Calls Try.prog 4 #[str s] w0 (Ret w0 G (fun v _ => v = .bool true)) := by
  refine enter Try.func4 rfl Try.ntmps4 rfl ?_
  intro Q hQ a HE
  have HS := St.start0 hG
  refine wp_seq_k (fun K hK => ?_); refine wp_region_lit ?_
  refine o_assign HE rfl rfl ?_; clear HE; intro a HE
  refine hK _ _ ?_; clear hK K
  refine wp_seq_k (fun K3 hK2 => ?_)
  refine wp_seq_k (fun K hK => ?_); refine wp_region_lit ?_
  refine o_callP HE rfl HS rfl rfl T.g5 (c_wakes8 _ _ HS.sub m8 h8) ?_
  clear HE HS; rintro _ w a HS rfl HE
  refine o_not HE rfl rfl ?_; clear HE; intro a HE
  refine hK _ _ ?_; clear hK K
  refine cond HE rfl (fun h5 => ?_) (fun h5 => ?_)
  · have h5r := h5; try simp only [Bool.not_eq_true', Bool.not_eq_false', Bool.and_eq_true, Bool.or_eq_true, Bool.or_eq_false_iff, Bool.and_eq_false_iff, decide_eq_true_eq, decide_eq_false_iff_not, beq_iff_eq, beq_eq_false_iff_ne, ne_eq] at h5
    refine wp_seq_k (fun K hK => ?_); refine wp_region_lit ?_
    refine o_assign HE rfl rfl ?_; clear HE; intro a HE
    refine hK _ _ ?_; clear hK K
    refine wp_ret ?_
    show Q .ret _ _
    refine ret hQ HE rfl (HE.res rfl .nil) ⟨_, _, HS.stop (List.nil_sublist _), rfl, ?_⟩
    exact absurd h5r (by decide)
  · have h5r := h5; try simp only [Bool.not_eq_true', Bool.not_eq_false', Bool.and_eq_true, Bool.or_eq_true, Bool.or_eq_false_iff, Bool.and_eq_false_iff, decide_eq_true_eq, decide_eq_false_iff_not, beq_iff_eq, beq_eq_false_iff_ne, ne_eq] at h5
    refine wp_skip ?_
    refine hK2 _ _ ?_; clear hK2
    refine wp_seq_k (fun K8 hK7 => ?_)
    refine wp_seq_k (fun K hK => ?_); refine wp_region_lit ?_
    refine o_move HE rfl rfl ?_; clear HE; intro a HE
    refine o_lenS HE rfl rfl Try.underlying9 ?_; clear HE; intro a HE
    refine o_gtr HE rfl rfl rfl ?_; clear HE; intro a HE
    refine hK _ _ ?_; clear hK K
    refine cond HE rfl (fun h10 => ?_) (fun h10 => ?_)
    · have h10r := h10; try simp only [Bool.not_eq_true', Bool.not_eq_false', Bool.and_eq_true, Bool.or_eq_true, Bool.or_eq_false_iff, Bool.and_eq_false_iff, decide_eq_true_eq, decide_eq_false_iff_not, beq_iff_eq, beq_eq_false_iff_ne, ne_eq] at h10
      refine wp_seq_k (fun K hK => ?_); refine wp_region_lit ?_
      refine o_assign HE rfl rfl ?_; clear HE; intro a HE
      refine hK _ _ ?_; clear hK K
      refine wp_ret ?_
      show Q .ret _ _
      refine ret hQ HE rfl (HE.res rfl .nil) ⟨_, _, HS.stop (List.nil_sublist _), rfl, ?_⟩
      show _ = _
      rfl
    · have h10r := h10; try simp only [Bool.not_eq_true', Bool.not_eq_false', Bool.and_eq_true, Bool.or_eq_true, Bool.or_eq_false_iff, Bool.and_eq_false_iff, decide_eq_true_eq, decide_eq_false_iff_not, beq_iff_eq, beq_eq_false_iff_ne, ne_eq] at h10
      refine wp_skip ?_
      refine hK7 _ _ ?_; clear hK7
      refine wp_seq_k (fun K hK => ?_); refine wp_region_lit ?_
      refine o_move HE rfl rfl ?_; clear HE; intro a HE
      refine o_callP HE rfl HS rfl rfl T.g9 (c_note s _ _ HS.sub m8 h8 (by first | omega | (simp; done) | (simp; omega) | (have := cutA_len s 59; have := cutB_len s 59; omega))) ?_
      clear HE HS; rintro _ w a HS rfl HE
      refine o_move HE rfl rfl ?_; clear HE; intro a HE
      refine o_extract HE rfl rfl rfl ?_; clear HE; intro a HE
      refine o_extract HE rfl rfl rfl ?_; clear HE; intro a HE
      refine o_extract HE rfl rfl rfl ?_; clear HE; intro a HE
      refine o_extract HE rfl rfl rfl ?_; clear HE; intro a HE
      refine o_assign HE rfl rfl ?_; clear HE; intro a HE
      refine o_assign HE rfl rfl ?_; clear HE; intro a HE
      refine o_assign HE rfl rfl ?_; clear HE; intro a HE
      refine o_assign HE rfl rfl ?_; clear HE; intro a HE
      refine hK _ _ ?_; clear hK K
      refine wp_seq_k (fun K hK => ?_); refine wp_region_lit ?_
      refine o_move HE rfl rfl ?_; clear HE; intro a HE
      refine o_callP HE rfl HS rfl rfl T.g10 (c_Note8 s _ _ HS.sub (by first | omega | (simp; done) | (simp; omega) | (have := cutA_len s 59; have := cutB_len s 59; omega))) ?_
      clear HE HS; rintro _ w a HS rfl HE
      refine o_allocL [(0, _), (1, _), (2, _), (3, _)] HE rfl HS T.z36 ⟨rfl, rfl, rfl, rfl, trivial⟩ ?_; clear HE HS; intro B7 w a HS HE
      refine o_stA HE HS rfl rfl rfl T.a36 (.here .here) rfl ?_; clear HS; intro w HS
      refine hK _ _ ?_; clear hK K
      refine wp_seq_k (fun K15 hK14 => ?_)
      refine wp_seq_k (fun K hK => ?_); refine wp_region_lit ?_
      refine o_fld HE rfl rfl T.f36_3 ?_; clear HE; intro a HE
      refine o_ld HE rfl HS rfl T.s4 (.here .here) rfl ?_; clear HE; intro a HE
      refine o_not HE rfl rfl ?_; clear HE; intro a HE
      refine hK _ _ ?_; clear hK K
      refine cond HE rfl (fun h17 => ?_) (fun h17 => ?_)
      · have h17r := h17; try simp only [Bool.not_eq_true', Bool.not_eq_false', Bool.and_eq_true, Bool.or_eq_true, Bool.or_eq_false_iff, Bool.and_eq_false_iff, decide_eq_true_eq, decide_eq_false_iff_not, beq_iff_eq, beq_eq_false_iff_ne, ne_eq] at h17
        refine wp_seq_k (fun K hK => ?_); refine wp_region_lit ?_
        refine o_move HE rfl rfl ?_; clear HE; intro a HE
        refine o_eqI HE rfl rfl rfl ?_; clear HE; intro a HE
        refine o_move HE rfl rfl ?_; clear HE; intro a HE
        refine cutL 3 (fun a' w' => w = w' ∧ Env a' 59 [] [(30, .bool ((decide (((noteS s).2.2.2) = 2)) && (((noteS s).1) == []))), (0, str s), (2, .bool false), (3, str ((noteS s).1)), (4, str ((noteS s).2.1)), (5, .bool ((noteS s).2.2.1)), (6, .int .i64 ((noteS s).2.2.2)), (7, .pointer (some ⟨B7, 0, none⟩)), (8, .bool true), (9, .bool (!true)), (10, str s), (11, .int .i64 (s.length : Int)), (12, .bool (decide (2000 < (s.length : Int)))), (13, .tuple #[str ((noteS s).1), str ((noteS s).2.1), .bool ((noteS s).2.2.1), .int .i64 ((noteS s).2.2.2)]), (14, str s), (15, .tuple #[str ((noteS s).1), str ((noteS s).2.1), .bool ((noteS s).2.2.1), .int .i64 ((noteS s).2.2.2)]), (16, str ((noteS s).1)), (17, str ((noteS s).2.1)), (18, .bool ((noteS s).2.2.1)), (19, .int .i64 ((noteS s).2.2.2)), (20, str s), (21, .agg #[str ((noteS s).1), str ((noteS s).2.1), .bool ((noteS s).2.2.1), .bool (decide ((noteS s).2.2.2 = 0))]), (22, .pointer (some ⟨B7, 3, none⟩)), (23, .bool (decide ((noteS s).2.2.2 = 0))), (24, .bool (!(decide ((noteS s).2.2.2 = 0))))]) ?_ ?_
        · refine (Bool.eq_false_or_eq_true (decide (((noteS s).2.2.2) = 2))).elim (fun hb18 => ?_) (fun hb18 => ?_)
          · skip
            have hk19 := hb18; try simp only [Bool.not_eq_true', Bool.not_eq_false', Bool.and_eq_true, Bool.or_eq_true, Bool.or_eq_false_iff, decide_eq_true_eq, decide_eq_false_iff_not, beq_iff_eq, beq_eq_false_iff_ne, ne_eq] at hk19
            refine op_on HE rfl rfl hb18 ?_
            refine o_move HE rfl rfl ?_; clear HE; intro a HE
            refine op_on HE rfl rfl hb18 ?_
            refine o_eqS HE rfl rfl rfl ?_; clear HE; intro a HE
            refine o_pick_t HE rfl rfl hb18 rfl ?_; clear HE; intro a HE
            exact ⟨rfl, HE.cut ⟨by rw [hb18]; rfl, rfl, rfl, rfl, rfl, rfl, rfl, rfl, rfl, rfl, rfl, rfl, rfl, rfl, rfl, rfl, rfl, rfl, rfl, rfl, rfl, rfl, rfl, rfl, rfl, trivial⟩⟩
          · skip
            have hk20 := hb18; try simp only [Bool.not_eq_true', Bool.not_eq_false', Bool.and_eq_true, Bool.or_eq_true, Bool.or_eq_false_iff, decide_eq_true_eq, decide_eq_false_iff_not, beq_iff_eq, beq_eq_false_iff_ne, ne_eq] at hk20
            refine g_off HE rfl rfl rfl hb18 ?_; clear HE; intro a HE
            refine g_off HE rfl rfl rfl hb18 ?_; clear HE; intro a HE
            refine o_pick_f HE rfl rfl hb18 rfl ?_; clear HE; intro a HE
            exact ⟨rfl, HE.cut ⟨by rw [hb18]; rfl, rfl, rfl, rfl, rfl, rfl, rfl, rfl, rfl, rfl, rfl, rfl, rfl, rfl, rfl, rfl, rfl, rfl, rfl, rfl, rfl, rfl, rfl, rfl, rfl, trivial⟩⟩
        clear HE; rintro a _ ⟨rfl, HE⟩
        refine o_move HE rfl rfl ?_; clear HE; intro a HE
        refine cutL 3 (fun a' w' => w = w' ∧ Env a' 59 [] [(34, .bool (((decide (((noteS s).2.2.2) = 2)) && (((noteS s).1) == [])) && (((noteS s).2.1) == []))), (0, str s), (2, .bool false), (3, str ((noteS s).1)), (4, str ((noteS s).2.1)), (5, .bool ((noteS s).2.2.1)), (6, .int .i64 ((noteS s).2.2.2)), (7, .pointer (some ⟨B7, 0, none⟩)), (8, .bool true), (9, .bool (!true)), (10, str s), (11, .int .i64 (s.length : Int)), (12, .bool (decide (2000 < (s.length : Int)))), (13, .tuple #[str ((noteS s).1), str ((noteS s).2.1), .bool ((noteS s).2.2.1), .int .i64 ((noteS s).2.2.2)]), (14, str s), (15, .tuple #[str ((noteS s).1), str ((noteS s).2.1), .bool ((noteS s).2.2.1), .int .i64 ((noteS s).2.2.2)]), (16, str ((noteS s).1)), (17, str ((noteS s).2.1)), (18, .bool ((noteS s).2.2.1)), (19, .int .i64 ((noteS s).2.2.2)), (20, str s), (21, .agg #[str ((noteS s).1), str ((noteS s).2.1), .bool ((noteS s).2.2.1), .bool (decide ((noteS s).2.2.2 = 0))]), (22, .pointer (some ⟨B7, 3, none⟩)), (23, .bool (decide ((noteS s).2.2.2 = 0))), (24, .bool (!(decide ((noteS s).2.2.2 = 0))))]) ?_ ?_
        · refine (Bool.eq_false_or_eq_true ((decide (((noteS s).2.2.2) = 2)) && (((noteS s).1) == []))).elim (fun hb21 => ?_) (fun hb21 => ?_)
          · skip
            have hk22 := hb21; try simp only [Bool.not_eq_true', Bool.not_eq_false', Bool.and_eq_true, Bool.or_eq_true, Bool.or_eq_false_iff, decide_eq_true_eq, decide_eq_false_iff_not, beq_iff_eq, beq_eq_false_iff_ne, ne_eq] at hk22
            refine op_on HE rfl rfl hb21 ?_
            refine o_move HE rfl rfl ?_; clear HE; intro a HE
            refine op_on HE rfl rfl hb21 ?_
            refine o_eqS HE rfl rfl rfl ?_; clear HE; intro a HE
            refine o_pick_t HE rfl rfl hb21 rfl ?_; clear HE; intro a HE
            exact ⟨rfl, HE.cut ⟨by rw [hb21]; rfl, rfl, rfl, rfl, rfl, rfl, rfl, rfl, rfl, rfl, rfl, rfl, rfl, rfl, rfl, rfl, rfl, rfl, rfl, rfl, rfl, rfl, rfl, rfl, rfl, trivial⟩⟩
          · skip
            have hk23 := hb21; try simp only [Bool.not_eq_true', Bool.not_eq_false', Bool.and_eq_true, Bool.or_eq_true, Bool.or_eq_false_iff, decide_eq_true_eq, decide_eq_false_iff_not, beq_iff_eq, beq_eq_false_iff_ne, ne_eq] at hk23
            refine g_off HE rfl rfl rfl hb21 ?_; clear HE; intro a HE
            refine g_off HE rfl rfl rfl hb21 ?_; clear HE; intro a HE
            refine o_pick_f HE rfl rfl hb21 rfl ?_; clear HE; intro a HE
            exact ⟨rfl, HE.cut ⟨by rw [hb21]; rfl, rfl, rfl, rfl, rfl, rfl, rfl, rfl, rfl, rfl, rfl, rfl, rfl, rfl, rfl, rfl, rfl, rfl, rfl, rfl, rfl, rfl, rfl, rfl, rfl, trivial⟩⟩
        clear HE; rintro a _ ⟨rfl, HE⟩
        refine o_move HE rfl rfl ?_; clear HE; intro a HE
        refine cutL 3 (fun a' w' => w = w' ∧ Env a' 59 [] [(38, .bool ((((decide (((noteS s).2.2.2) = 2)) && (((noteS s).1) == [])) && (((noteS s).2.1) == [])) && (!((noteS s).2.2.1)))), (0, str s), (2, .bool false), (3, str ((noteS s).1)), (4, str ((noteS s).2.1)), (5, .bool ((noteS s).2.2.1)), (6, .int .i64 ((noteS s).2.2.2)), (7, .pointer (some ⟨B7, 0, none⟩)), (8, .bool true), (9, .bool (!true)), (10, str s), (11, .int .i64 (s.length : Int)), (12, .bool (decide (2000 < (s.length : Int)))), (13, .tuple #[str ((noteS s).1), str ((noteS s).2.1), .bool ((noteS s).2.2.1), .int .i64 ((noteS s).2.2.2)]), (14, str s), (15, .tuple #[str ((noteS s).1), str ((noteS s).2.1), .bool ((noteS s).2.2.1), .int .i64 ((noteS s).2.2.2)]), (16, str ((noteS s).1)), (17, str ((noteS s).2.1)), (18, .bool ((noteS s).2.2.1)), (19, .int .i64 ((noteS s).2.2.2)), (20, str s), (21, .agg #[str ((noteS s).1), str ((noteS s).2.1), .bool ((noteS s).2.2.1), .bool (decide ((noteS s).2.2.2 = 0))]), (22, .pointer (some ⟨B7, 3, none⟩)), (23, .bool (decide ((noteS s).2.2.2 = 0))), (24, .bool (!(decide ((noteS s).2.2.2 = 0))))]) ?_ ?_
        · refine (Bool.eq_false_or_eq_true (((decide (((noteS s).2.2.2) = 2)) && (((noteS s).1) == [])) && (((noteS s).2.1) == []))).elim (fun hb24 => ?_) (fun hb24 => ?_)
          · skip
            have hk25 := hb24; try simp only [Bool.not_eq_true', Bool.not_eq_false', Bool.and_eq_true, Bool.or_eq_true, Bool.or_eq_false_iff, decide_eq_true_eq, decide_eq_false_iff_not, beq_iff_eq, beq_eq_false_iff_ne, ne_eq] at hk25
            refine op_on HE rfl rfl hb24 ?_
            refine o_move HE rfl rfl ?_; clear HE; intro a HE
            refine op_on HE rfl rfl hb24 ?_
            refine o_not HE rfl rfl ?_; clear HE; intro a HE
            refine o_pick_t HE rfl rfl hb24 rfl ?_; clear HE; intro a HE
            exact ⟨rfl, HE.cut ⟨by rw [hb24]; rfl, rfl, rfl, rfl, rfl, rfl, rfl, rfl, rfl, rfl, rfl, rfl, rfl, rfl, rfl, rfl, rfl, rfl, rfl, rfl, rfl, rfl, rfl, rfl, rfl, trivial⟩⟩
          · skip
            have hk26 := hb24; try simp only [Bool.not_eq_true', Bool.not_eq_false', Bool.and_eq_true, Bool.or_eq_true, Bool.or_eq_false_iff, decide_eq_true_eq, decide_eq_false_iff_not, beq_iff_eq, beq_eq_false_iff_ne, ne_eq] at hk26
            refine g_off HE rfl rfl rfl hb24 ?_; clear HE; intro a HE
            refine g_off HE rfl rfl rfl hb24 ?_; clear HE; intro a HE
            refine o_pick_f HE rfl rfl hb24 rfl ?_; clear HE; intro a HE
            exact ⟨rfl, HE.cut ⟨by rw [hb24]; rfl, rfl, rfl, rfl, rfl, rfl, rfl, rfl, rfl, rfl, rfl, rfl, rfl, rfl, rfl, rfl, rfl, rfl, rfl, rfl, rfl, rfl, rfl, rfl, rfl, trivial⟩⟩
        clear HE; rintro a _ ⟨rfl, HE⟩
        refine o_assign HE rfl rfl ?_; clear HE; intro a HE
        refine hK _ _ ?_; clear hK K
        refine wp_ret ?_
        show Q .ret _ _
        refine ret hQ HE rfl (HE.res rfl .nil) ⟨_, _, HS.stop (List.nil_sublist _), rfl, ?_⟩
        show _ = _
        simp only [packed, Value.bool.injEq]
        rcases note_cases s with e | e
        · simp_all
        · have e9 : (noteS s).2.2.2 = 2 := by rw [e]
          first
          | (exfalso; omega)
          | (rw [e]; simp)
      · have h17r := h17; try simp only [Bool.not_eq_true', Bool.not_eq_false', Bool.and_eq_true, Bool.or_eq_true, Bool.or_eq_false_iff, Bool.and_eq_false_iff, decide_eq_true_eq, decide_eq_false_iff_not, beq_iff_eq, beq_eq_false_iff_ne, ne_eq] at h17
        refine wp_skip ?_
        refine hK14 _ _ ?_; clear hK14
        refine wp_seq_k (fun K hK => ?_); refine wp_region_lit ?_
        refine o_move HE rfl rfl ?_; clear HE; intro a HE
        refine o_eqI HE rfl rfl rfl ?_; clear HE; intro a HE
        refine o_move HE rfl rfl ?_; clear HE; intro a HE
        refine cutL 5 (fun a' w' => w = w' ∧ Env a' 59 [] [(46, .bool ((decide (((noteS s).2.2.2) = 0)) && (((noteS s).1) == ((noteS s).1)))), (0, str s), (2, .bool false), (3, str ((noteS s).1)), (4, str ((noteS s).2.1)), (5, .bool ((noteS s).2.2.1)), (6, .int .i64 ((noteS s).2.2.2)), (7, .pointer (some ⟨B7, 0, none⟩)), (8, .bool true), (9, .bool (!true)), (10, str s), (11, .int .i64 (s.length : Int)), (12, .bool (decide (2000 < (s.length : Int)))), (13, .tuple #[str ((noteS s).1), str ((noteS s).2.1), .bool ((noteS s).2.2.1), .int .i64 ((noteS s).2.2.2)]), (14, str s), (15, .tuple #[str ((noteS s).1), str ((noteS s).2.1), .bool ((noteS s).2.2.1), .int .i64 ((noteS s).2.2.2)]), (16, str ((noteS s).1)), (17, str ((noteS s).2.1)), (18, .bool ((noteS s).2.2.1)), (19, .int .i64 ((noteS s).2.2.2)), (20, str s), (21, .agg #[str ((noteS s).1), str ((noteS s).2.1), .bool ((noteS s).2.2.1), .bool (decide ((noteS s).2.2.2 = 0))]), (22, .pointer (some ⟨B7, 3, none⟩)), (23, .bool (decide ((noteS s).2.2.2 = 0))), (24, .bool (!(decide ((noteS s).2.2.2 = 0))))]) ?_ ?_
        · refine (Bool.eq_false_or_eq_true (decide (((noteS s).2.2.2) = 0))).elim (fun hb28 => ?_) (fun hb28 => ?_)
          · skip
            have hk29 := hb28; try simp only [Bool.not_eq_true', Bool.not_eq_false', Bool.and_eq_true, Bool.or_eq_true, Bool.or_eq_false_iff, decide_eq_true_eq, decide_eq_false_iff_not, beq_iff_eq, beq_eq_false_iff_ne, ne_eq] at hk29
            refine op_on HE rfl rfl hb28 ?_
            refine o_move HE rfl rfl ?_; clear HE; intro a HE
            refine op_on HE rfl rfl hb28 ?_
            refine o_fld HE rfl rfl T.f36_0 ?_; clear HE; intro a HE
            refine op_on HE rfl rfl hb28 ?_
            refine o_ld HE rfl HS rfl T.s9 (.here .here) rfl ?_; clear HE; intro a HE
            refine op_on HE rfl rfl hb28 ?_
            refine o_eqS HE rfl rfl rfl ?_; clear HE; intro a HE
            refine o_pick_t HE rfl rfl hb28 rfl ?_; clear HE; intro a HE
            exact ⟨rfl, HE.cut ⟨by rw [hb28]; rfl, rfl, rfl, rfl, rfl, rfl, rfl, rfl, rfl, rfl, rfl, rfl, rfl, rfl, rfl, rfl, rfl, rfl, rfl, rfl, rfl, rfl, rfl, rfl, rfl, trivial⟩⟩
          · skip
            have hk30 := hb28; try simp only [Bool.not_eq_true', Bool.not_eq_false', Bool.and_eq_true, Bool.or_eq_true, Bool.or_eq_false_iff, decide_eq_true_eq, decide_eq_false_iff_not, beq_iff_eq, beq_eq_false_iff_ne, ne_eq] at hk30
            refine g_off HE rfl rfl rfl hb28 ?_; clear HE; intro a HE
            refine g_off HE rfl rfl rfl hb28 ?_; clear HE; intro a HE
            refine g_off HE rfl rfl rfl hb28 ?_; clear HE; intro a HE
            refine g_off HE rfl rfl rfl hb28 ?_; clear HE; intro a HE
            refine o_pick_f HE rfl rfl hb28 rfl ?_; clear HE; intro a HE
            exact ⟨rfl, HE.cut ⟨by rw [hb28]; rfl, rfl, rfl, rfl, rfl, rfl, rfl, rfl, rfl, rfl, rfl, rfl, rfl, rfl, rfl, rfl, rfl, rfl, rfl, rfl, rfl, rfl, rfl, rfl, rfl, trivial⟩⟩
        clear HE; rintro a _ ⟨rfl, HE⟩
        refine o_move HE rfl rfl ?_; clear HE; intro a HE
        refine cutL 5 (fun a' w' => w = w' ∧ Env a' 59 [] [(52, .bool (((decide (((noteS s).2.2.2) = 0)) && (((noteS s).1) == ((noteS s).1))) && (((noteS s).2.1) == ((noteS s).2.1)))), (0, str s), (2, .bool false), (3, str ((noteS s).1)), (4, str ((noteS s).2.1)), (5, .bool ((noteS s).2.2.1)), (6, .int .i64 ((noteS s).2.2.2)), (7, .pointer (some ⟨B7, 0, none⟩)), (8, .bool true), (9, .bool (!true)), (10, str s), (11, .int .i64 (s.length : Int)), (12, .bool (decide (2000 < (s.length : Int)))), (13, .tuple #[str ((noteS s).1), str ((noteS s).2.1), .bool ((noteS s).2.2.1), .int .i64 ((noteS s).2.2.2)]), (14, str s), (15, .tuple #[str ((noteS s).1), str ((noteS s).2.1), .bool ((noteS s).2.2.1), .int .i64 ((noteS s).2.2.2)]), (16, str ((noteS s).1)), (17, str ((noteS s).2.1)), (18, .bool ((noteS s).2.2.1)), (19, .int .i64 ((noteS s).2.2.2)), (20, str s), (21, .agg #[str ((noteS s).1), str ((noteS s).2.1), .bool ((noteS s).2.2.1), .bool (decide ((noteS s).2.2.2 = 0))]), (22, .pointer (some ⟨B7, 3, none⟩)), (23, .bool (decide ((noteS s).2.2.2 = 0))), (24, .bool (!(decide ((noteS s).2.2.2 = 0))))]) ?_ ?_
        · refine (Bool.eq_false_or_eq_true ((decide (((noteS s).2.2.2) = 0)) && (((noteS s).1) == ((noteS s).1)))).elim (fun hb31 => ?_) (fun hb31 => ?_)
          · skip
            have hk32 := hb31; try simp only [Bool.not_eq_true', Bool.not_eq_false', Bool.and_eq_true, Bool.or_eq_true, Bool.or_eq_false_iff, decide_eq_true_eq, decide_eq_false_iff_not, beq_iff_eq, beq_eq_false_iff_ne, ne_eq] at hk32
            refine op_on HE rfl rfl hb31 ?_
            refine o_move HE rfl rfl ?_; clear HE; intro a HE
            refine op_on HE rfl rfl hb31 ?_
            refine o_fld HE rfl rfl T.f36_1 ?_; clear HE; intro a HE
            refine op_on HE rfl rfl hb31 ?_
            refine o_ld HE rfl HS rfl T.s9 (.here .here) rfl ?_; clear HE; intro a HE
            refine op_on HE rfl rfl hb31 ?_
            refine o_eqS HE rfl rfl rfl ?_; clear HE; intro a HE
            refine o_pick_t HE rfl rfl hb31 rfl ?_; clear HE; intro a HE
            exact ⟨rfl, HE.cut ⟨by rw [hb31]; rfl, rfl, rfl, rfl, rfl, rfl, rfl, rfl, rfl, rfl, rfl, rfl, rfl, rfl, rfl, rfl, rfl, rfl, rfl, rfl, rfl, rfl, rfl, rfl, rfl, trivial⟩⟩
          · skip
            have hk33 := hb31; try simp only [Bool.not_eq_true', Bool.not_eq_false', Bool.and_eq_true, Bool.or_eq_true, Bool.or_eq_false_iff, decide_eq_true_eq, decide_eq_false_iff_not, beq_iff_eq, beq_eq_false_iff_ne, ne_eq] at hk33
            refine g_off HE rfl rfl rfl hb31 ?_; clear HE; intro a HE
            refine g_off HE rfl rfl rfl hb31 ?_; clear HE; intro a HE
            refine g_off HE rfl rfl rfl hb31 ?_; clear HE; intro a HE
            refine g_off HE rfl rfl rfl hb31 ?_; clear HE; intro a HE
            refine o_pick_f HE rfl rfl hb31 rfl ?_; clear HE; intro a HE
            exact ⟨rfl, HE.cut ⟨by rw [hb31]; rfl, rfl, rfl, rfl, rfl, rfl, rfl, rfl, rfl, rfl, rfl, rfl, rfl, rfl, rfl, rfl, rfl, rfl, rfl, rfl, rfl, rfl, rfl, rfl, rfl, trivial⟩⟩
        clear HE; rintro a _ ⟨rfl, HE⟩
        refine o_move HE rfl rfl ?_; clear HE; intro a HE
        refine cutL 5 (fun a' w' => w = w' ∧ Env a' 59 [] [(58, .bool ((((decide (((noteS s).2.2.2) = 0)) && (((noteS s).1) == ((noteS s).1))) && (((noteS s).2.1) == ((noteS s).2.1))) && (((noteS s).2.2.1) == ((noteS s).2.2.1)))), (0, str s), (2, .bool false), (3, str ((noteS s).1)), (4, str ((noteS s).2.1)), (5, .bool ((noteS s).2.2.1)), (6, .int .i64 ((noteS s).2.2.2)), (7, .pointer (some ⟨B7, 0, none⟩)), (8, .bool true), (9, .bool (!true)), (10, str s), (11, .int .i64 (s.length : Int)), (12, .bool (decide (2000 < (s.length : Int)))), (13, .tuple #[str ((noteS s).1), str ((noteS s).2.1), .bool ((noteS s).2.2.1), .int .i64 ((noteS s).2.2.2)]), (14, str s), (15, .tuple #[str ((noteS s).1), str ((noteS s).2.1), .bool ((noteS s).2.2.1), .int .i64 ((noteS s).2.2.2)]), (16, str ((noteS s).1)), (17, str ((noteS s).2.1)), (18, .bool ((noteS s).2.2.1)), (19, .int .i64 ((noteS s).2.2.2)), (20, str s), (21, .agg #[str ((noteS s).1), str ((noteS s).2.1), .bool ((noteS s).2.2.1), .bool (decide ((noteS s).2.2.2 = 0))]), (22, .pointer (some ⟨B7, 3, none⟩)), (23, .bool (decide ((noteS s).2.2.2 = 0))), (24, .bool (!(decide ((noteS s).2.2.2 = 0))))]) ?_ ?_
        · refine (Bool.eq_false_or_eq_true (((decide (((noteS s).2.2.2) = 0)) && (((noteS s).1) == ((noteS s).1))) && (((noteS s).2.1) == ((noteS s).2.1)))).elim (fun hb34 => ?_) (fun hb34 => ?_)
          · skip
            have hk35 := hb34; try simp only [Bool.not_eq_true', Bool.not_eq_false', Bool.and_eq_true, Bool.or_eq_true, Bool.or_eq_false_iff, decide_eq_true_eq, decide_eq_false_iff_not, beq_iff_eq, beq_eq_false_iff_ne, ne_eq] at hk35
            refine op_on HE rfl rfl hb34 ?_
            refine o_move HE rfl rfl ?_; clear HE; intro a HE
            refine op_on HE rfl rfl hb34 ?_
            refine o_fld HE rfl rfl T.f36_2 ?_; clear HE; intro a HE
            refine op_on HE rfl rfl hb34 ?_
            refine o_ld HE rfl HS rfl T.s4 (.here .here) rfl ?_; clear HE; intro a HE
            refine op_on HE rfl rfl hb34 ?_
            refine o_eqB HE rfl rfl rfl Try.underlying4 ?_; clear HE; intro a HE
            refine o_pick_t HE rfl rfl hb34 rfl ?_; clear HE; intro a HE
            exact ⟨rfl, HE.cut ⟨by rw [hb34]; rfl, rfl, rfl, rfl, rfl, rfl, rfl, rfl, rfl, rfl, rfl, rfl, rfl, rfl, rfl, rfl, rfl, rfl, rfl, rfl, rfl, rfl, rfl, rfl, rfl, trivial⟩⟩
          · skip
            have hk36 := hb34; try simp only [Bool.not_eq_true', Bool.not_eq_false', Bool.and_eq_true, Bool.or_eq_true, Bool.or_eq_false_iff, decide_eq_true_eq, decide_eq_false_iff_not, beq_iff_eq, beq_eq_false_iff_ne, ne_eq] at hk36
            refine g_off HE rfl rfl rfl hb34 ?_; clear HE; intro a HE
            refine g_off HE rfl rfl rfl hb34 ?_; clear HE; intro a HE
            refine g_off HE rfl rfl rfl hb34 ?_; clear HE; intro a HE
            refine g_off HE rfl rfl rfl hb34 ?_; clear HE; intro a HE
            refine o_pick_f HE rfl rfl hb34 rfl ?_; clear HE; intro a HE
            exact ⟨rfl, HE.cut ⟨by rw [hb34]; rfl, rfl, rfl, rfl, rfl, rfl, rfl, rfl, rfl, rfl, rfl, rfl, rfl, rfl, rfl, rfl, rfl, rfl, rfl, rfl, rfl, rfl, rfl, rfl, rfl, trivial⟩⟩
        clear HE; rintro a _ ⟨rfl, HE⟩
        refine o_assign HE rfl rfl ?_; clear HE; intro a HE
        refine hK _ _ ?_; clear hK K
        refine wp_ret ?_
        show Q .ret _ _
        refine ret hQ HE rfl (HE.res rfl .nil) ⟨_, _, HS.stop (List.nil_sublist _), rfl, ?_⟩
        show _ = _
        simp only [packed, Value.bool.injEq]
        rcases note_cases s with e | e
        · simp_all
        · have e9 : (noteS s).2.2.2 = 2 := by rw [e]
          first
          | (exfalso; omega)
          | (rw [e]; simp)
end Go.Proofs.Ytjmffmfcddnjbaa.T8
