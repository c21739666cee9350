/- Own text. -/
import Derived.Test.YtngoaapgdfohjaaGreatDoorW14
import Derived.Test.YtngoaapgdfohjaaGreatDoorY16
set_option linter.unusedVariables false
set_option linter.unusedSimpArgs false
set_option maxRecDepth 100000
set_option maxHeartbeats 4000000
namespace Go.Proofs.YtngoaapgdfohjaaGreatDoor.T27
open Go Go.Proofs.YtngoaapgdfohjaaGreatDoor.X Go.Proofs Go.Proofs.YtngoaapgdfohjaaGreatDoor.T28 Go.Proofs.YtngoaapgdfohjaaGreatDoor.TS Go.Proofs.YtngoaapgdfohjaaGreatDoor.TK
/-! ## Digits read -/
theorem dec_low {r : Bs} {p : Nat} (h : p < r.length) (ha : bt r p < 128) : Utf8.decode ⟨r.toArray⟩ p = ((bt r p).toNat, 1) := by
  have hs : p < (ByteArray.mk r.toArray).size := by simp [ByteArray.size]; omega
  have e : ((ByteArray.mk r.toArray)[p]'hs).toNat = (bt r p).toNat := by
    rw [bt_nat h]
    rfl
  have := decode_ascii ⟨r.toArray⟩ p hs (by rw [e]; omega)
  rw [this, e]
theorem dec_high {r : Bs} {p : Nat} (h : p < r.length) (ha : 128 ≤ bt r p) : 128 ≤ (Utf8.decode ⟨r.toArray⟩ p).1 := by
  have hs : p < (ByteArray.mk r.toArray).size := by simp [ByteArray.size]; omega
  have e : ((ByteArray.mk r.toArray)[p]'hs).toNat = (bt r p).toNat := by
    rw [bt_nat h]
    rfl
  exact (decode_high ⟨r.toArray⟩ p hs (by rw [e]; omega)).1
def digI (c : Int) : Int := if 48 ≤ c ∧ c ≤ 57 then c - 48 else if 97 ≤ c ∧ c ≤ 102 then c - 97 + 10 else -1
theorem digI_rng (c : Int) : -1 ≤ digI c ∧ digI c ≤ 15 := by
  unfold digI
  split
  · omega
  split
  · omega
  · omega
theorem c_Digit (c : Int) (hc : 0 ≤ c ∧ c ≤ 255) (G : Heap) : FnP Tryz.prog 99 [.int .u8 c] G (.int .i64 (digI c)) := by
  refine fnP_in Tryz.func99 rfl Tryz.ntmps99 rfl fun w0 Q0 hQ => ?_
  refine go ?_
  refine w_and (y := decide (c ≤ 57)) 9 6 rfl (fun h => ?_) (fun h => ?_) ?_
  · refine go ?_; exact w_at
  · refine go ?_; exact w_at
  refine go ?_
  refine w_cond rfl (fun h => ?_) (fun h => ?_)
  · simp only [Bool.and_eq_true, decide_eq_true_eq] at h
    refine go ?_
    refine w_ret hQ ?_
    show Value.int _ _ = _
    unfold digI
    rw [if_pos h, wrap_u8 (n := c - 48) ⟨by omega, by omega⟩, wrap_i64 ⟨by omega, by omega⟩]
  · have h1 : ¬ (48 ≤ c ∧ c ≤ 57) := by
      intro e
      rw [decide_eq_true e.1, decide_eq_true e.2] at h
      cases h
    refine go ?_
    refine w_and (y := decide (c ≤ 102)) 19 16 rfl (fun h => ?_) (fun h => ?_) ?_
    · refine go ?_; exact w_at
    · refine go ?_; exact w_at
    refine go ?_
    refine w_cond rfl (fun h2 => ?_) (fun h2 => ?_)
    · simp only [Bool.and_eq_true, decide_eq_true_eq] at h2
      refine go ?_
      refine w_ret hQ ?_
      show Value.int _ _ = _
      unfold digI
      rw [if_neg h1, if_pos h2, wrap_u8 (n := c - 97) ⟨by omega, by omega⟩, wrap_i64 (n := c - 97) ⟨by omega, by omega⟩]
      first | rfl | (rw [wrap_i64 ⟨by omega, by omega⟩])
    · have h3 : ¬ (97 ≤ c ∧ c ≤ 102) := by
        intro e
        rw [decide_eq_true e.1, decide_eq_true e.2] at h2
        cases h2
      refine go ?_
      refine w_ret hQ ?_
      show Value.int _ _ = _
      unfold digI
      rw [if_neg h1, if_neg h3]
def dg' (s : Bs) (i : Nat) : Int := digI (bt s (i : Int))
def outS (s : Bs) (i : Nat) : List Int := (List.range (s.length / 2)).map fun j => if 2 * j + 1 < i then 16 * dg' s (2 * j) + dg' s (2 * j + 1) else if 2 * j < i then dg' s (2 * j) else 0
def decS (s : Bs) : List Int := (List.range (s.length / 2)).map fun j => 16 * dg' s (2 * j) + dg' s (2 * j + 1)
def hexOk (s : Bs) : Prop := s.length % 2 = 0 ∧ ∀ i, i < s.length → 0 ≤ dg' s i
theorem outS_len (s : Bs) (i : Nat) : (outS s i).length = s.length / 2 := by simp [outS]
theorem outS_zero (s : Bs) : outS s 0 = List.replicate (s.length / 2) 0 := by
  unfold outS
  refine List.ext_getElem (by simp) fun j h1 h2 => ?_
  simp
theorem outS_done {s : Bs} : outS s s.length = decS s := by
  unfold outS decS
  refine List.map_congr_left fun j hj => ?_
  have := List.mem_range.1 hj
  rw [if_pos (by omega)]
theorem outS_at {s : Bs} {i : Nat} (hi : i / 2 < s.length / 2) : (outS s i).getD (i / 2) 0 = if i % 2 = 1 then dg' s (i - 1) else 0 := by
  unfold outS
  rw [List.getD_eq_getElem?_getD, List.getElem?_map, List.getElem?_range hi]
  simp only [Option.map_some, Option.getD_some]
  rw [if_neg (by omega)]
  by_cases h : i % 2 = 1
  · rw [if_pos h, if_pos (by omega), show 2 * (i / 2) = i - 1 by omega]
  · rw [if_neg h, if_neg (by omega)]
theorem outS_get (s : Bs) (i j : Nat) (h : j < (outS s i).length) : (outS s i)[j] = if 2 * j + 1 < i then 16 * dg' s (2 * j) + dg' s (2 * j + 1) else if 2 * j < i then dg' s (2 * j) else 0 := by simp [outS]
theorem outS_step {s : Bs} {i : Nat} (hi : i / 2 < s.length / 2) : (outS s i).set (i / 2) (16 * (outS s i).getD (i / 2) 0 + dg' s i) = outS s (i + 1) := by
  rw [outS_at hi]
  refine List.ext_getElem (by simp [outS]) fun j h1 h2 => ?_
  rw [List.getElem_set]
  by_cases h : i / 2 = j
  · rw [if_pos h]
    subst h
    rw [outS_get]
    by_cases h3 : i % 2 = 1
    · rw [if_pos h3, if_pos (by omega), show 2 * (i / 2) = i - 1 by omega, show i - 1 + 1 = i by omega]
    · rw [if_neg h3, if_neg (by omega), if_pos (by omega), show 2 * (i / 2) = i by omega]
      omega
  · rw [if_neg h, outS_get, outS_get]
    (repeat' split) <;> first | rfl | (exfalso; omega)
theorem or_nib : ∀ a b : Fin 16, bOr .u8 (shlI .u8 (a.val : Int) 4) (b.val : Int) = 16 * (a.val : Int) + (b.val : Int) := by decide +kernel
theorem or_nib' {a b : Int} (ha : 0 ≤ a ∧ a ≤ 15) (hb : 0 ≤ b ∧ b ≤ 15) : bOr .u8 (shlI .u8 a 4) b = 16 * a + b := by
  have := or_nib ⟨a.toNat, by omega⟩ ⟨b.toNat, by omega⟩
  rwa [show ((⟨a.toNat, by omega⟩ : Fin 16).val : Int) = a from Int.toNat_of_nonneg ha.1, show ((⟨b.toNat, by omega⟩ : Fin 16).val : Int) = b from Int.toNat_of_nonneg hb.1] at this
theorem digI_high {c : Int} (h : 128 ≤ c) : digI c = -1 := by
  unfold digI
  rw [if_neg (by omega), if_neg (by omega)]
theorem decS_len (s : Bs) : (decS s).length = s.length / 2 := by simp [decS]
section
attribute [local irreducible] digI outS
theorem c_Decode (s : Bs) (hl : s.length ≤ 100000000) (G : Heap) : FnR Tryz.prog 58 [str s] G (fun v G' => (hexOk s ∧ ∃ A c, v = .tuple #[.slice A (decS s).length c, .int .i64 0] ∧ (decS s).length ≤ c ∧ Rd (Knd.int .u8) G' A (decS s)) ∨ (¬ hexOk s ∧ v = .tuple #[.slice none 0 0, .int .i64 2])) := by
  refine fn_in Tryz.func58 rfl Tryz.ntmps58 rfl fun w0 Q0 hQ => ?_
  refine go ?_
  refine w_cd rfl (fun h => ?_) (fun h => ?_)
  · refine go ?_
    exact w_ret hQ (.inr ⟨fun e => by have := e.1; omega, rfl⟩)
  have h0 : s.length % 2 = 0 := by omega
  refine go ?_
  refine w_as 13 (.int .i64 ((s.length / 2 : Nat) : Int)) rfl (by rw [Int.natCast_ediv]; rfl) ?_
  refine w_make (n := s.length / 2) rfl rfl rfl rfl (by omega) (by omega) fun B4 => ?_
  refine go ?_
  refine w_range rfl rfl rfl fun B16 => ?_
  refine go ?_
  have hz : (List.replicate (s.length / 2) (Value.int .u8 0)) = (outS s 0).map (Value.int .u8) := by rw [outS_zero, List.map_replicate]
  refine w_blkAs (q := Arr 5 ((outS s 0).map (Value.int .u8))) (.there (.here .here)) (by rw [hz]) ?_
  refine w_loop (fun _ : Nat => []) (fun i => [[(B16, Iter s i)], [(B4, Arr 5 ((outS s i).map (Value.int .u8)))]]) (fun i _ => i ≤ s.length ∧ ∀ j, j < i → 0 ≤ dg' s j) (fun i => s.length - i) 0 ⟨by omega, fun j hj => absurd hj (Nat.not_lt_zero _)⟩ ?_
  rintro i G1 _ ⟨hi, hall⟩
  have hol := outS_len s i
  rcases Nat.lt_or_ge i s.length with hlt | hge
  · rcases (by omega : bt s i < 128 ∨ 128 ≤ bt s i) with hlow | hhigh
    · have e1 := dec_low hlt hlow
      have hnn := bt_rng s i
      refine go ?_
      refine w_next rfl rfl hlt (.here .here) ?_
      rw [e1]
      dsimp only
      rw [show (((bt s i).toNat : Nat) : Int) = bt s i from Int.toNat_of_nonneg hnn.1]
      refine go ?_
      refine w_or (y := decide (digI (bt s i) < 0)) 28 23 rfl (fun h => ?_) (fun h => ?_) ?_
      · refine go ?_; exact w_at
      · refine go ?_
        try rw [show IntKind.u8.wrap (bt s i) = bt s i from wrap_u8 hnn]
        refine w_stp (p_on rfl rfl h (p_call rfl rfl rfl (c_Digit (bt s i) hnn _))) ?_
        refine go ?_; exact w_at
      refine go ?_
      refine w_cond rfl (fun h => ?_) (fun h => ?_)
      · have hneg : ¬ 0 ≤ dg' s i := by
          simp only [Bool.or_eq_true, decide_eq_true_eq] at h
          unfold dg'
          omega
        refine go ?_
        exact w_ret hQ (.inr ⟨fun e => hneg (e.2 i hlt), rfl⟩)
      · have hpos : 0 ≤ dg' s i := by
          simp only [Bool.or_eq_false_iff, decide_eq_false_iff_not] at h
          unfold dg'
          omega
        have hi2 : i / 2 < s.length / 2 := by omega
        refine go ?_
        refine w_dt 14 (by kernel_rfl) ?_
        refine dg ?_
        have hoff : 0 + i / 2 * 1 = i / 2 := by omega
        have hget : ((outS s i).map (Value.int .u8))[i / 2]? = some (.int .u8 ((outS s i).getD (i / 2) 0)) := by
          rw [List.getElem?_map, List.getD_eq_getElem?_getD, List.getElem?_eq_getElem (by omega)]; rfl
        have hdr := digI_rng (bt s i)
        have hd15 : 0 ≤ digI (bt s i) ∧ digI (bt s i) ≤ 15 := ⟨hpos, hdr.2⟩
        have hprev : 0 ≤ (outS s i).getD (i / 2) 0 ∧ (outS s i).getD (i / 2) 0 ≤ 15 := by
          rw [outS_at hi2]
          split
          · exact ⟨hall _ (by omega), (digI_rng _).2⟩
          · omega
        refine .cons (p_ldR rfl rfl rfl (.there (.here .here)) (by rw [hoff]; exact hget)) (dg ?_)
        refine .cons (p_call rfl rfl rfl (c_Digit (bt s i) hnn _)) (dg ?_)
        refine go ?_
        have hset : ((outS s i).map (Value.int .u8)).set (0 + i / 2 * 1) (.int .u8 (16 * (outS s i).getD (i / 2) 0 + digI (bt s i))) = (outS s (i + 1)).map (Value.int .u8) := by
          rw [hoff, ← List.map_set, ← outS_step hi2]
          rfl
        refine w_stR rfl rfl rfl rfl (.there (.here .here)) (by rw [List.length_map, hol, hoff]; exact hi2) ?_
        rw [or_nib' hprev hd15, hset]
        refine go ?_
        refine w_again (i + 1) ⟨by omega, fun j hj => ?_⟩ (by omega)
        rcases Nat.lt_or_ge j i with h2 | h2
        · exact hall j h2
        · obtain rfl : j = i := by omega
          exact hpos
    · have hh := dec_high hlt hhigh
      refine go ?_
      refine w_next rfl rfl hlt (.here .here) ?_
      generalize (Utf8.decode ⟨s.toArray⟩ i).1 = rc at hh ⊢
      refine go ?_
      refine w_or (y := false) 28 23 rfl (fun h => ?_) (fun h => ?_) ?_
      · refine go ?_; exact w_at
      · have := of_decide_eq_false h
        omega
      refine go ?_
      refine w_cond rfl (fun h => ?_) (fun h => ?_)
      · refine go ?_
        refine w_ret hQ (.inr ⟨fun e => ?_, rfl⟩)
        have := e.2 i hlt
        unfold dg' at this
        rw [digI_high hhigh] at this
        omega
      · rw [decide_eq_true (show (127 : Int) < (rc : Int) by omega)] at h
        cases h
  · obtain rfl : i = s.length := by omega
    refine go ?_
    refine w_stp (p_nextE rfl rfl (.here .here) (Nat.le_refl _)) ?_
    refine go ?_
    refine w_still B4 (.there .here) fun G2 _ hC => ?_
    rw [outS_done] at hC
    refine w_ret hQ ?_
    refine .inl ⟨⟨h0, hall⟩, some ⟨B4, 0, none⟩, s.length / 2, ?_, by rw [decS_len]; exact Nat.le_refl _, Rd.nums hC⟩
    rw [decS_len]; rfl
end
end Go.Proofs.YtngoaapgdfohjaaGreatDoor.T27
