/- Own text. -/
import Derived.Test.YtngoaapgdfohjaaGreatDoorT4
set_option linter.unusedVariables false
set_option linter.unusedSimpArgs false
set_option maxRecDepth 100000
set_option maxHeartbeats 4000000
namespace Go.Proofs.YtngoaapgdfohjaaGreatDoor.T27
open Go Go.Proofs.YtngoaapgdfohjaaGreatDoor.X Go.Proofs Go.Proofs.YtngoaapgdfohjaaGreatDoor.T28 Go.Proofs.YtngoaapgdfohjaaGreatDoor.TS Go.Proofs.YtngoaapgdfohjaaGreatDoor.TK
/-! ## The document's numbers, words, values -/
theorem c_Print6 (n : Int) (hn : I64 n) (G : Heap) : FnP Tryz.prog 41 [.int .i64 n] G (str (Lib.itoa n)) := by
  refine fnP_in Tryz.func41 rfl Tryz.ntmps41 rfl fun w0 Q0 hQ => ?_
  have hdl := dd_len hn
  refine go ?_
  refine w_loop (α := Int × Bs) (fun p => [(4, .int .i64 p.1), (3, str p.2)]) (fun _ => []) (fun p _ => I64 p.1 ∧ dd p.1.natAbs ++ p.2 = dd n.natAbs) (fun p => p.1.natAbs) (n, []) ⟨hn, by simp⟩ ?_
  rintro ⟨m, s⟩ G1 _ ⟨hm, hs⟩
  dsimp only at hm hs ⊢
  have hr := tdiv_range hm
  have ha := tmod_abs m
  have hsl : s.length ≤ 21 := by
    have := congrArg List.length hs
    rw [List.length_append] at this
    omega
  refine go ?_
  refine w_stp (p_ar (r := m.tmod 10) rfl rfl rfl (.inr (.inr (.inr (.inl ⟨rfl, by decide, rfl⟩))))) ?_
  refine go ?_
  refine w_meet [(5, .int .i64 ((m.tmod 10).natAbs : Int)), (4, .int .i64 m), (3, str s), (0, .int .i64 n), (2, str []), (6, .int .i64 n)] [] ?_ ?_
  · refine w_cd rfl (fun h => ?_) (fun h => ?_)
    · refine go ?_
      refine w_as 5 (.int .i64 ((m.tmod 10).natAbs : Int)) rfl (by congr 1; rw [wrap_i64 (by omega)]; omega) ?_
      exact w_at
    · refine go ?_
      refine w_as 5 (.int .i64 ((m.tmod 10).natAbs : Int)) rfl (by congr 1; omega) ?_
      exact w_at
  refine go ?_
  have hd : ((48 : Int) + (m.tmod 10).natAbs) ≤ 57 := by omega
  refine w_lit (K := Knd.int .u8) [(48 : Int) + (m.tmod 10).natAbs] rfl rfl rfl (cs := #[.int .u8 ((48 : Int) + (m.tmod 10).natAbs)]) (by kernel_rfl) ⟨rfl, rfl⟩ fun b G2 _ hR2 => ?_
  refine w_stp (p_b2s (ns := [(48 : Int) + (m.tmod 10).natAbs]) rfl rfl hR2 (.refl _)) ?_
  refine go ?_
  refine w_stp (p_cat rfl rfl rfl (by simp; omega)) ?_
  refine go ?_
  refine w_stp (p_ar (r := m.tdiv 10) rfl rfl rfl (.inr (.inr (.inr (.inr ⟨rfl, by decide, wrap_i64 hr⟩))))) ?_
  refine go ?_
  refine w_cd rfl (fun h => ?_) (fun h => ?_)
  · have hl := dd_last (s := s) h
    rw [hs] at hl
    rw [← hl]
    refine go ?_
    refine w_cd rfl (fun h5 => ?_) (fun h5 => ?_)
    · refine go ?_
      refine w_stp (p_cat (r := [45]) rfl rfl rfl (by simp; omega)) ?_
      refine go ?_
      refine w_ret hQ ?_
      rw [itoa_ng h5]; rfl
    · refine go ?_
      refine w_ret hQ ?_
      rw [itoa_nn (by omega), show n.toNat = n.natAbs by omega]; rfl
  · have hl := dd_step (s := s) h
    rw [hs] at hl
    have htd := tdiv_abs m
    refine go ?_
    refine w_stp (p_ar (r := m.tdiv 10) rfl rfl rfl (.inr (.inr (.inr (.inr ⟨rfl, by decide, wrap_i64 hr⟩))))) ?_
    refine go ?_
    have hm0 : m.natAbs ≠ 0 := fun h0 => h (by rw [show m = 0 by omega]; rfl)
    refine w_again (m.tdiv 10, _) ⟨hr, hl.symm⟩ (by dsimp only; omega)
theorem c_letter (c : Int) (f : Bool) (hc : 0 ≤ c ∧ c ≤ 255) (G : Heap) : FnP Tryz.prog 127 [.int .u8 c, .bool f] G (.bool (letterB c f)) := by
  refine fnP_in Tryz.func127 rfl Tryz.ntmps127 rfl fun w0 Q0 hQ => ?_
  refine go ?_
  refine w_loop (fun x : Int => [(5, .int .u8 x)]) (fun _ => []) (fun x _ => 97 ≤ x ∧ x ≤ 123 ∧ (97 ≤ c → x ≤ c)) (fun x => (123 - x).toNat) 97 ⟨by omega, by omega, fun h => h⟩ ?_
  rintro x G1 _ ⟨h1, h2, h3⟩
  refine go ?_
  refine w_cd rfl (fun h4 => ?_) (fun h4 => ?_)
  · refine go ?_
    refine w_cd rfl (fun h5 => ?_) (fun h5 => ?_)
    · refine go ?_
      refine w_ret hQ ?_
      rw [show letterB c f = true by unfold letterB lowB; simp; omega]; rfl
    · refine go ?_
      refine w_as 5 (.int .u8 (x + 1)) rfl (by congr 1; exact wrap_u8 (by omega)) ?_
      exact w_again (x + 1) ⟨by omega, by omega, fun h => by have := h3 h; omega⟩ (by omega)
  · have hz : lowB c = false := by simp only [lowB, Bool.and_eq_false_iff, decide_eq_false_iff_not]; omega
    refine go ?_
    refine w_and (y := decide (c = 95) || (decide (48 ≤ c) && decide (c ≤ 57))) 26 15 rfl (fun h => ?_) (fun h => ?_) ?_
    · refine go ?_
      refine w_or (y := decide (48 ≤ c) && decide (c ≤ 57)) 25 18 rfl (fun h => ?_) (fun h => ?_) ?_
      · refine go ?_; exact w_at
      · refine go ?_
        refine w_and (y := decide (c ≤ 57)) 24 21 rfl (fun h => ?_) (fun h => ?_) ?_
        · refine go ?_; exact w_at
        · refine go ?_; exact w_at
        refine go ?_; exact w_at
      refine go ?_; exact w_at
    · refine go ?_; exact w_at
    refine go ?_
    refine w_ret hQ ?_
    unfold letterB
    rw [hz]; rfl
theorem bt_rng (s : Bs) (i : Int) : 0 ≤ bt s i ∧ bt s i ≤ 255 := by
  unfold bt
  have := (s.getD i.toNat 0).toNat_lt
  omega
theorem c_IsWordR (s : Bs) (hl : s.length ≤ 9223372036854775807) (G : Heap) : FnP Tryz.prog 83 [str s] G (.bool (isWordB s)) := by
  refine fnP_in Tryz.func83 rfl Tryz.ntmps83 rfl fun w0 Q0 hQ => ?_
  refine go ?_
  refine w_loop (fun i : Nat => [(3, .int .i64 (i : Int))]) (fun _ => []) (fun i _ => i ≤ s.length ∧ ∀ j, j < i → letterB (bt s (j : Int)) (decide ((j : Int) = 0)) = true) (fun i => s.length - i) 0 ⟨by omega, fun j hj => by omega⟩ ?_
  rintro i G1 _ ⟨hi, ha⟩
  refine go ?_
  refine w_cd rfl (fun h3 => ?_) (fun h3 => ?_)
  · have hlt : i < s.length := by omega
    refine go ?_
    refine w_stp (p_call rfl rfl rfl (c_letter (bt s (i : Int)) (decide ((i : Int) = 0)) (bt_rng _ _) _)) ?_
    refine go ?_
    refine w_cond rfl (fun h4 => ?_) (fun h4 => ?_)
    · refine go ?_
      refine w_ret hQ ?_
      rw [word_ref_no (i := i) hlt (by simpa using h4)]; rfl
    · refine go ?_
      refine w_again (i + 1) ⟨by omega, fun j hj => ?_⟩ (by omega)
      by_cases e : j = i
      · subst e; simpa using h4
      · exact ha j (by omega)
  · refine go ?_
    refine w_and (y := decide ((s.length : Int) ≤ 40)) 24 20 rfl (fun h => ?_) (fun h => ?_) ?_
    · refine go ?_; exact w_at
    · refine go ?_; exact w_at
    refine go ?_
    refine w_ret hQ ?_
    rw [← word_ref (s := s) (by rw [show s.length = i by omega]; exact ha)]; rfl
theorem c_RightR (v : Val) (hv : v.Wf) (G : Heap) : FnP Tryz.prog 45 [vV v] G (.bool (rightV v)) := by
  refine fnP_in Tryz.func45 rfl Tryz.ntmps45 rfl fun w0 Q0 hQ => ?_
  refine go ?_; intro B1
  refine go ?_
  refine w_cd rfl (fun h0 => ?_) (fun h0 => ?_)
  · refine go ?_
    refine w_and (y := v.s == []) 14 10 rfl (fun h => ?_) (fun h => ?_) ?_
    · refine go ?_; exact w_at
    · refine go ?_; exact w_at
    refine go ?_
    refine w_ret hQ ?_
    unfold rightV
    rw [if_pos h0]; rfl
  · refine go ?_
    refine w_cd rfl (fun h1 => ?_) (fun h1 => ?_)
    · refine go ?_
      refine w_ret hQ ?_
      unfold rightV
      rw [if_neg h0, if_pos h1]; rfl
    · refine go ?_
      refine w_cd rfl (fun h2 => ?_) (fun h2 => ?_)
      · refine go ?_
        refine w_and (y := isWordB v.s) 29 25 rfl (fun h => ?_) (fun h => ?_) ?_
        · refine go ?_
          refine w_stp (p_on rfl rfl h (p_call rfl rfl rfl (c_IsWordR v.s hv.s _))) ?_
          refine go ?_; exact w_at
        · refine go ?_; exact w_at
        refine go ?_
        refine w_ret hQ ?_
        unfold rightV
        rw [if_neg h0, if_neg h1, if_pos h2]; rfl
      · refine go ?_
        refine w_cd rfl (fun h3 => ?_) (fun h3 => ?_)
        · refine go ?_
          refine w_or (y := decide (v.n = 1)) 39 35 rfl (fun h => ?_) (fun h => ?_) ?_
          · refine go ?_; exact w_at
          · refine go ?_; exact w_at
          refine go ?_
          refine w_and (y := v.s == []) 44 40 rfl (fun h => ?_) (fun h => ?_) ?_
          · refine go ?_; exact w_at
          · refine go ?_; exact w_at
          refine go ?_
          refine w_ret hQ ?_
          unfold rightV
          rw [if_neg h0, if_neg h1, if_neg h2, if_pos h3]; rfl
        · refine go ?_
          refine w_ret hQ ?_
          unfold rightV
          rw [if_neg h0, if_neg h1, if_neg h2, if_neg h3]; rfl
theorem c_PrintR (v : Val) (hv : v.Wf) (G : Heap) : FnP Tryz.prog 43 [vV v] G (str (printV v)) := by
  refine fnP_in Tryz.func43 rfl Tryz.ntmps43 rfl fun w0 Q0 hQ => ?_
  refine go ?_; intro B1
  refine go ?_
  refine w_stp (p_call rfl rfl rfl (c_RightR v hv _)) ?_
  refine go ?_
  refine w_cond rfl (fun h0 => ?_) (fun h0 => ?_)
  · have hr : rightV v = false := by simpa using h0
    refine go ?_
    refine w_ret hQ ?_
    unfold printV
    rw [if_pos hr]; rfl
  · have hr : rightV v = true := by simpa using h0
    have hr' : ¬ rightV v = false := by rw [hr]; simp
    have hk := right_k hr
    refine go ?_
    refine w_cd rfl (fun h1 => ?_) (fun h1 => ?_)
    · refine go ?_
      refine w_stp (p_call rfl rfl rfl (c_Print6 v.n hv.n _)) ?_
      refine go ?_
      refine w_ret hQ ?_
      unfold printV
      rw [if_neg hr', if_neg (by omega), if_pos h1]; rfl
    · refine go ?_
      refine w_cd rfl (fun h2 => ?_) (fun h2 => ?_)
      · refine go ?_
        refine w_ret hQ ?_
        unfold printV
        rw [if_neg hr', if_neg (by omega), if_neg h1, if_pos h2]; rfl
      · refine go ?_
        refine w_and (y := decide (v.n = 1)) 24 20 rfl (fun h => ?_) (fun h => ?_) ?_
        · refine go ?_; exact w_at
        · refine go ?_; exact w_at
        refine go ?_
        refine w_cd rfl (fun h3 => ?_) (fun h3 => ?_)
        · refine go ?_
          refine w_ret hQ ?_
          unfold printV
          rw [if_neg hr', if_neg (by omega), if_neg h1, if_neg h2, if_pos h3.2]; rfl
        · refine go ?_
          refine w_cd rfl (fun h4 => ?_) (fun h4 => ?_)
          · refine go ?_
            refine w_ret hQ ?_
            unfold printV
            rw [if_neg hr', if_neg (by omega), if_neg h1, if_neg h2, if_neg (fun h => h3.elim (fun q => q h4) (fun q => q h))]; rfl
          · refine go ?_
            refine w_ret hQ ?_
            unfold printV
            rw [if_neg hr', if_pos (by omega)]; rfl
end Go.Proofs.YtngoaapgdfohjaaGreatDoor.T27

set_option linter.unusedVariables false
set_option linter.unusedSimpArgs false
set_option maxRecDepth 100000
set_option maxHeartbeats 4000000
namespace Go.Proofs.YtngoaapgdfohjaaGreatDoor.T27
open Go Go.Proofs.YtngoaapgdfohjaaGreatDoor.X Go.Proofs Go.Proofs.YtngoaapgdfohjaaGreatDoor.T28 Go.Proofs.YtngoaapgdfohjaaGreatDoor.TS Go.Proofs.YtngoaapgdfohjaaGreatDoor.TK
/-! ## The document's domains and rules -/
theorem c_NameR (v : Val) (hv : v.Wf) (G : Heap) : FnP Tryz.prog 22 [vV v] G (.bool (nameB v)) := by
  refine fnP_in Tryz.func22 rfl Tryz.ntmps22 rfl fun w0 Q0 hQ => ?_
  refine go ?_; intro B1
  refine go ?_
  refine w_stp (p_call rfl rfl rfl (c_RightR v hv _)) ?_
  refine go ?_
  refine w_and (y := decide (v.k = 1) || decide (v.k = 2)) 14 5 rfl (fun h => ?_) (fun h => ?_) ?_
  · refine go ?_
    refine w_or (y := decide (v.k = 2)) 13 9 rfl (fun h => ?_) (fun h => ?_) ?_
    · refine go ?_; exact w_at
    · refine go ?_; exact w_at
    refine go ?_; exact w_at
  · refine go ?_; exact w_at
  refine go ?_
  exact w_ret hQ rfl
theorem c_RuledR (d : Int) (r : Rul) (G : Heap) : FnP Tryz.prog 39 [.int .i64 d, vR r] G (.bool (ruledB d r)) := by
  refine fnP_in Tryz.func39 rfl Tryz.ntmps39 rfl fun w0 Q0 hQ => ?_
  refine go ?_; intro B3
  refine go ?_
  refine w_cd rfl (fun h1 => ?_) (fun h1 => ?_)
  · refine go ?_
    refine w_and (y := decide (r.size ≤ 16)) 15 11 rfl (fun h => ?_) (fun h => ?_) ?_
    · refine go ?_; exact w_at
    · refine go ?_; exact w_at
    refine go ?_
    refine w_ret hQ ?_
    unfold ruledB
    simp [h1, packed]
  · refine go ?_
    refine w_and (y := (decide (r.way = 0) || decide (r.way = 1)) || (decide (r.way = 3) && decide (d = 4))) 37 19 rfl (fun h => ?_) (fun h => ?_) ?_
    · refine go ?_
      refine w_or (y := decide (r.way = 1)) 27 23 rfl (fun h => ?_) (fun h => ?_) ?_
      · refine go ?_; exact w_at
      · refine go ?_; exact w_at
      refine go ?_
      refine w_or (y := decide (r.way = 3) && decide (d = 4)) 36 28 rfl (fun h => ?_) (fun h => ?_) ?_
      · refine go ?_; exact w_at
      · refine go ?_
        refine w_and (y := decide (d = 4)) 35 32 rfl (fun h => ?_) (fun h => ?_) ?_
        · refine go ?_; exact w_at
        · refine go ?_; exact w_at
        refine go ?_; exact w_at
      refine go ?_; exact w_at
    · refine go ?_; exact w_at
    refine go ?_
    refine w_ret hQ ?_
    show Value.bool _ = Value.bool _
    congr 1
    unfold ruledB
    rw [decide_eq_false h1, Bool.false_and, Bool.false_or]
    cases decide (r.size = 0) <;> cases decide (r.way = 0) <;> cases decide (r.way = 1) <;> cases decide (r.way = 3) <;> cases decide (d = 4) <;> rfl
theorem c_LetterR (d : Int) (G : Heap) : FnP Tryz.prog 14 [.int .i64 d] G (str (letterS d)) := by
  refine fnP_in Tryz.func14 rfl Tryz.ntmps14 rfl fun w0 Q0 hQ => ?_
  by_cases hd : 0 ≤ d ∧ d ≤ 4
  · have hc : d = 0 ∨ d = 1 ∨ d = 2 ∨ d = 3 ∨ d = 4 := by omega
    rcases hc with rfl | rfl | rfl | rfl | rfl
    all_goals
      refine go ?_
      exact w_ret hQ rfl
  · have e0 : decide (d = 0) = false := decide_eq_false (by omega)
    have e1 : decide (d = 1) = false := decide_eq_false (by omega)
    have e2 : decide (d = 2) = false := decide_eq_false (by omega)
    have e3 : decide (d = 3) = false := decide_eq_false (by omega)
    have e4 : decide (d = 4) = false := decide_eq_false (by omega)
    refine go ?_
    refine w_ret hQ ?_
    rw [letter_out hd]; rfl
/-! ## The document's values each once -/
end Go.Proofs.YtngoaapgdfohjaaGreatDoor.T27
