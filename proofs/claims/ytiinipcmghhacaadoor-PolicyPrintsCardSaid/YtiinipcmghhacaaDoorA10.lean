/- The plain law of chapter 25. -/
import Derived.Test.YtiinipcmghhacaaDoorA9
set_option linter.unusedVariables false
set_option linter.unusedSimpArgs false
namespace Go.Proofs.YtiinipcmghhacaaDoor.T10
open Go Go.Proofs.YtiinipcmghhacaaDoor.X
/-! The plain law of chapter 25: the program's parse is the document's. -/
def ruleV (d : Int) (l : List Bs) : Rul × Bool :=
  if (w0S l).1 = 2 ∧ l.length = 2 then (⟨(w0S l).1, okv (countS (l.getD 1 []) 16)⟩, ((w0S l).2 && decide (erv (countS (l.getD 1 []) 16) = 0)) && ruledB d ⟨(w0S l).1, okv (countS (l.getD 1 []) 16)⟩)
  else (⟨(w0S l).1, 0⟩, ((w0S l).2 && decide (l.length = 1)) && ruledB d ⟨(w0S l).1, 0⟩)
theorem ruleS_eq {d : Int} {P : Pol} {l : List Bs} (h : l ≠ []) : ruleS d P l = (setR P d (ruleV d l).1, (ruleV d l).2) := by
  unfold ruleS ruleV
  rw [if_neg (by rw [List.length_eq_zero_iff]; exact h)]
  split <;> rfl
theorem way_word {w : Bs} {v : Int} (h : wayS w = (v, true)) : (v = 0 ∧ w = [107, 101, 101, 112]) ∨ (v = 1 ∧ w = [111, 114, 100, 105, 110, 97, 108]) ∨ (v = 2 ∧ w = [107, 101, 121, 101, 100]) ∨ (v = 3 ∧ w = [114, 97, 110, 107]) ∨ (v = 4 ∧ w = [100, 114, 111, 112]) := by
  unfold wayS at h
  split at h
  · rename_i e; simp at h e; exact .inl ⟨h.symm, e.symm⟩
  split at h
  · rename_i e; simp at h e; exact .inr (.inl ⟨h.symm, e.symm⟩)
  split at h
  · rename_i e; simp at h e; exact .inr (.inr (.inl ⟨h.symm, e.symm⟩))
  split at h
  · rename_i e; simp at h e; exact .inr (.inr (.inr (.inl ⟨h.symm, e.symm⟩)))
  split at h
  · rename_i e; simp at h e; exact .inr (.inr (.inr (.inr ⟨h.symm, e.symm⟩)))
  · simp at h
set_option maxRecDepth 100000 in
theorem cands_words : (cands.all fun c => !(ruledB (c.1 : Int) ⟨(c.2.1 : Int), (c.2.2 : Int)⟩) || (((decide ((wordsS (saidS (c.1 : Int) ⟨(c.2.1 : Int), (c.2.2 : Int)⟩)).2 = 0) && ((wordsS (saidS (c.1 : Int) ⟨(c.2.1 : Int), (c.2.2 : Int)⟩)).1.getD 0 [] == wordK c.1)) && !((wordsS (saidS (c.1 : Int) ⟨(c.2.1 : Int), (c.2.2 : Int)⟩)).1.drop 1 == [])) && decide (ruleV (c.1 : Int) ((wordsS (saidS (c.1 : Int) ⟨(c.2.1 : Int), (c.2.2 : Int)⟩)).1.drop 1) = (⟨(c.2.1 : Int), (c.2.2 : Int)⟩, true)))) = true := by
  decide +kernel
theorem wordK_inj : ∀ a : Nat, a < 9 → ∀ b : Nat, b < 9 → wordK a = wordK b → a = b := by decide +kernel
theorem wordK_ne : ∀ a : Nat, a < 9 → wordK a ≠ [] := by decide +kernel
theorem kS_none {ok : Bool} {ws : List Bs} {P : Pol} {sd : List Bool} : ∀ n, (∀ k, k < n → ((ok && (ws.getD 0 [] == wordK k)) && !(sd.getD k false)) = false) → kS ok ws P sd n = (P, sd, false)
  | 0, _ => rfl
  | n + 1, h => by
    rw [kS, kS_none n (fun k hk => h k (by omega)), stepK, if_neg]
    rw [h n (by omega)]
    decide
theorem kS_one {ws : List Bs} {P : Pol} {sd : List Bool} {k0 : Nat} (h0 : ws.getD 0 [] = wordK k0) (hs : sd.getD k0 false = false) : ∀ n, n ≤ 9 → k0 < n → kS true ws P sd n = ((doS k0 P (ws.drop 1)).1, sd.set k0 true, (doS k0 P (ws.drop 1)).2)
  | 0, _, h => absurd h (Nat.not_lt_zero _)
  | n + 1, h9, h => by
    rw [kS]
    by_cases e : n = k0
    · subst e
      rw [kS_none n (fun k hk => by
        have : ¬ ws.getD 0 [] = wordK k := fun e => by
          have := wordK_inj k (by omega) n (by omega) (e.symm.trans h0)
          omega
        rw [beq_eq_false_iff_ne.2 this]; rfl), stepK, if_pos]
      rw [h0, hs, beq_self_eq_true]; rfl
    · rw [kS_one h0 hs n (by omega) (by omega), stepK, if_neg]
      have : ¬ ws.getD 0 [] = wordK n := fun e2 => e (wordK_inj n (by omega) k0 (by omega) (e2.symm.trans h0))
      rw [beq_eq_false_iff_ne.2 this]; exact Bool.false_ne_true
theorem lineP_hit {s : Bs} {P : Pol} {sd : List Bool} {k : Nat} (hk : k < 9) (h : (wordsS s).2 = 0) (h0 : (wordsS s).1.getD 0 [] = wordK k) (hs : sd.getD k false = false) : lineP s P sd = ((doS k P ((wordsS s).1.drop 1)).1, sd.set k true, (doS k P ((wordsS s).1.drop 1)).2) := by
  unfold lineP
  rw [decide_eq_true h, kS_one h0 hs 9 (Nat.le_refl _) hk]
theorem lineP_seen {s : Bs} {P : Pol} {sd : List Bool} {k : Nat} (hk : k < 9) (h0 : (wordsS s).1.getD 0 [] = wordK k) (hs : sd.getD k false = true) : lineP s P sd = (P, sd, false) := by
  unfold lineP
  refine kS_none 9 fun j hj => ?_
  by_cases e : j = k
  · subst e; rw [hs]; simp
  · have : ¬ (wordsS s).1.getD 0 [] = wordK j := fun e2 => e (wordK_inj j hj k hk (e2.symm.trans h0))
    rw [beq_eq_false_iff_ne.2 this, Bool.and_false]; rfl
theorem lineP_good {s : Bs} {P : Pol} {sd : List Bool} (h : (lineP s P sd).2.2 = true) : ∃ k, k < 9 ∧ (wordsS s).2 = 0 ∧ (wordsS s).1.getD 0 [] = wordK k ∧ sd.getD k false = false ∧ (doS k P ((wordsS s).1.drop 1)).2 = true := by
  by_cases hx : ∃ k, k < 9 ∧ ((decide ((wordsS s).2 = 0) && ((wordsS s).1.getD 0 [] == wordK k)) && !(sd.getD k false)) = true
  · obtain ⟨k, hk, hc⟩ := hx
    simp only [Bool.and_eq_true, decide_eq_true_eq, beq_iff_eq, Bool.not_eq_true'] at hc
    obtain ⟨⟨h1, h2⟩, h3⟩ := hc
    rw [lineP_hit hk h1 h2 h3] at h
    exact ⟨k, hk, h1, h2, h3, h⟩
  · unfold lineP at h
    rw [kS_none 9 (fun k hk => by
      cases hc : ((decide ((wordsS s).2 = 0) && ((wordsS s).1.getD 0 [] == wordK k)) && !(sd.getD k false)) with
      | false => rfl
      | true => exact absurd ⟨k, hk, hc⟩ hx)] at h
    cases h
theorem count_itoa {s : Bs} {m n : Int} (h : countS s m = .ok n) : Lib.itoa n = s := by
  unfold countS at h
  split at h
  · cases h
  · rename_i k hk
    split at h
    · cases h
    · cases h
      obtain ⟨hd, rfl⟩ := ok_size hk
      rw [itoa_nn (by omega)]
      exact dd_of hd
def tk : List Bs := [sTK, sTR, sNK, sND, sLo, sFo]
set_option maxRecDepth 100000 in
theorem tk_none : ∀ s ∈ tk, (cands.find? fun c => matchS s c.1 c.2.1 c.2.2) = none := by
  have h : (tk.all fun s => (cands.find? fun c => matchS s c.1 c.2.1 c.2.2).isNone) = true := by decide +kernel
  intro s hs
  have := List.all_eq_true.1 h s hs
  simpa using this
theorem lineR_tk {s : Bs} {p : Pol} (h : s ∈ tk) : lineR s p = if s = sTK then (5, p) else if s = sTR then (5, { p with time := 3 }) else if s = sNK then (6, p) else if s = sND then (6, { p with note := 4 })
    else if s = sLo then (7, { p with loose := true }) else if s = sFo then (8, { p with force := true }) else (-1, p) := by
  unfold lineR
  rw [tk_none s h]
/-- What the program takes, the document takes. -/
theorem line_back {s : Bs} {P : Pol} {k : Nat} (hk : k < 9) (h : (wordsS s).2 = 0) (h0 : (wordsS s).1.getD 0 [] = wordK k) (hg : (doS k P ((wordsS s).1.drop 1)).2 = true) : 0 ≤ (lineR s P).1 := by
  have hj := words_back h
  generalize (wordsS s).1 = ws at *
  match ws, h0 with
  | [], h0 => exact absurd h0.symm (wordK_ne k hk)
  | w0 :: rest, h0 =>
    obtain rfl : w0 = wordK k := h0
    simp only [List.drop_succ_cons, List.drop_zero] at hg
    have one : ∀ {v : Int} {may : Int}, (oneS rest may).2 = true → ∃ w, rest = [w] ∧ ∃ v, wayS w = (v, true) ∧ (v = 0 ∨ v = may) := by
      intro v may hh
      unfold oneS at hh
      split at hh
      · rename_i hl
        obtain ⟨w, rfl⟩ := List.length_eq_one_iff.1 hl
        simp only [w0S, List.getD_cons_zero, Bool.and_eq_true, Bool.or_eq_true, decide_eq_true_eq] at hh
        exact ⟨w, rfl, (wayS w).1, by rw [← hh.1], hh.2⟩
      · cases hh
    unfold doS at hg
    split at hg
    · rename_i e; subst e
      obtain ⟨w, rfl, v, hw, hv⟩ := one (v := 0) (may := 3) hg
      rcases way_word hw with ⟨rfl, rfl⟩ | ⟨rfl, rfl⟩ | ⟨rfl, rfl⟩ | ⟨rfl, rfl⟩ | ⟨rfl, rfl⟩ <;> simp at hv
      · rw [← hj, show Lib.join [wordK 5, [107, 101, 101, 112]] [32] = sTK from rfl, lineR_tk (by simp [tk]), if_pos rfl]; show (0 : Int) ≤ 5; decide
      · rw [← hj, show Lib.join [wordK 5, [114, 97, 110, 107]] [32] = sTR from rfl, lineR_tk (by simp [tk]), if_neg (by decide), if_pos rfl]; show (0 : Int) ≤ 5; decide
    split at hg
    · rename_i e; subst e
      obtain ⟨w, rfl, v, hw, hv⟩ := one (v := 0) (may := 4) hg
      rcases way_word hw with ⟨rfl, rfl⟩ | ⟨rfl, rfl⟩ | ⟨rfl, rfl⟩ | ⟨rfl, rfl⟩ | ⟨rfl, rfl⟩ <;> simp at hv
      · rw [← hj, show Lib.join [wordK 6, [107, 101, 101, 112]] [32] = sNK from rfl, lineR_tk (by simp [tk]), if_neg (by decide), if_neg (by decide), if_pos rfl]; show (0 : Int) ≤ 6; decide
      · rw [← hj, show Lib.join [wordK 6, [100, 114, 111, 112]] [32] = sND from rfl, lineR_tk (by simp [tk]), if_neg (by decide), if_neg (by decide), if_neg (by decide), if_pos rfl]; show (0 : Int) ≤ 6; decide
    split at hg
    · rename_i e; subst e
      obtain rfl : rest = [] := by
        have : decide ((rest.length : Int) = 0) = true := hg
        rw [decide_eq_true_eq] at this
        exact List.length_eq_zero_iff.1 (by omega)
      rw [← hj, show Lib.join [wordK 7] [32] = sLo from rfl, lineR_tk (by simp [tk]), if_neg (by decide), if_neg (by decide), if_neg (by decide), if_neg (by decide), if_pos rfl]; show (0 : Int) ≤ 7; decide
    split at hg
    · rename_i e; subst e
      obtain rfl : rest = [] := by
        have : decide ((rest.length : Int) = 0) = true := hg
        rw [decide_eq_true_eq] at this
        exact List.length_eq_zero_iff.1 (by omega)
      rw [← hj, show Lib.join [wordK 8] [32] = sFo from rfl, lineR_tk (by simp [tk]), if_neg (by decide), if_neg (by decide), if_neg (by decide), if_neg (by decide), if_neg (by decide), if_pos rfl]; show (0 : Int) ≤ 8; decide
    have hk5 : k < 5 := by omega
    have hwk : wordK k = nameS (k : Int) := by
      unfold wordK
      rw [if_neg (by omega), if_neg (by omega), if_neg (by omega), if_neg (by omega)]
    have hne : rest ≠ [] := by rintro rfl; simp [ruleS] at hg
    rw [ruleS_eq hne] at hg
    have hit : ∀ w n : Nat, w ≤ 3 → n ≤ 16 → ruledB (k : Int) ⟨(w : Int), (n : Int)⟩ = true → saidS (k : Int) ⟨(w : Int), (n : Int)⟩ = s → 0 ≤ (lineR s P).1 := by
      intro w n hw hn h1 h2
      rw [lineR_hit hk5 hw hn (by unfold matchS; rw [h1, h2]; simp)]
      show (0 : Int) ≤ (k : Int)
      omega
    unfold ruleV at hg
    split at hg
    · rename_i hc
      obtain ⟨hc1, hc2⟩ := hc
      obtain ⟨a, b, rfl⟩ : ∃ a b, rest = [a, b] := by
        match rest, hc2 with
        | [a, b], _ => exact ⟨a, b, rfl⟩
      simp only [Bool.and_eq_true, decide_eq_true_eq] at hg
      obtain ⟨⟨g1, g2⟩, g3⟩ := hg
      have hcn : ∃ n, countS b 16 = .ok n := by
        simp only [List.getD_cons_succ, List.getD_cons_zero] at g2
        cases hcb : countS b 16 with
        | ok n => exact ⟨n, rfl⟩
        | error e =>
          exfalso
          rw [hcb] at g2
          unfold countS at hcb
          split at hcb
          · rename_i hz; cases hcb; exact size_err hz g2
          · split at hcb
            · cases hcb; exact absurd g2 (by decide)
            · cases hcb
      obtain ⟨n, hcn⟩ := hcn
      have e2 : wayS a = (2, true) := by
        simp only [w0S, List.getD_cons_zero] at g1 hc1
        rw [← g1, ← hc1]
      simp only [w0S, List.getD_cons_zero, List.getD_cons_succ, hcn, okv, e2] at g3
      have hn : 1 ≤ n ∧ n ≤ 16 := by simpa [ruledB] using g3
      have ea : a = [107, 101, 121, 101, 100] := by
        rcases way_word e2 with ⟨h, _⟩ | ⟨h, _⟩ | ⟨_, h⟩ | ⟨h, _⟩ | ⟨h, _⟩
        · exact absurd h (by decide)
        · exact absurd h (by decide)
        · exact h
        · exact absurd h (by decide)
        · exact absurd h (by decide)
      obtain ⟨m, rfl⟩ := Int.eq_ofNat_of_zero_le (show 0 ≤ n by omega)
      refine hit 2 m (by omega) (by omega) g3 ?_
      rw [← hj, hwk, ea, ← count_itoa hcn]
      simp [saidS, Lib.join]
    · simp only [Bool.and_eq_true, decide_eq_true_eq] at hg
      obtain ⟨⟨g1, g2⟩, g3⟩ := hg
      obtain ⟨a, rfl⟩ := List.length_eq_one_iff.1 g2
      simp only [w0S, List.getD_cons_zero] at g1 g3
      have e2 : wayS a = ((wayS a).1, true) := by rw [← g1]
      generalize (wayS a).1 = v at *
      rcases way_word e2 with ⟨rfl, rfl⟩ | ⟨rfl, rfl⟩ | ⟨rfl, rfl⟩ | ⟨rfl, rfl⟩ | ⟨rfl, rfl⟩
      · exact hit 0 0 (by omega) (by omega) g3 (by rw [← hj, hwk]; simp [saidS, Lib.join])
      · exact hit 1 0 (by omega) (by omega) g3 (by rw [← hj, hwk]; simp [saidS, Lib.join])
      · simp [ruledB] at g3
      · exact hit 3 0 (by omega) (by omega) g3 (by rw [← hj, hwk]; simp [saidS, Lib.join])
      · simp [ruledB] at g3
/-- What the document takes, the program takes. -/
theorem line_fore {s : Bs} {P : Pol} {sd : List Bool} (i5 : sd.getD 5 false = false → P.time = 0) (i6 : sd.getD 6 false = false → P.note = 0) (h : 0 ≤ (lineR s P).1) :
    (wordsS s).2 = 0 ∧ (wordsS s).1.getD 0 [] = wordK (lineR s P).1.toNat ∧ (sd.getD (lineR s P).1.toNat false = false → doS (lineR s P).1.toNat P ((wordsS s).1.drop 1) = ((lineR s P).2, true)) := by
  cases hf : cands.find? fun c => matchS s c.1 c.2.1 c.2.2 with
  | some c =>
    have hc := List.find?_some hf
    have hm := List.mem_of_find?_eq_some hf
    have e : lineR s P = ((c.1 : Int), setR P (c.1 : Int) ⟨(c.2.1 : Int), (c.2.2 : Int)⟩) := by unfold lineR; rw [hf]
    have hw := List.all_eq_true.1 cands_words c hm
    have hc5 := (cands_mem.1 hm).1
    unfold matchS at hc
    simp only [Bool.and_eq_true, beq_iff_eq] at hc
    rw [hc.1, hc.2] at hw
    simp only [Bool.not_true, Bool.false_or, Bool.and_eq_true, decide_eq_true_eq, beq_iff_eq, Bool.not_eq_true', beq_eq_false_iff_ne, ne_eq] at hw
    obtain ⟨⟨⟨h1, h2⟩, h3⟩, h4⟩ := hw
    rw [e]
    simp only [Int.toNat_natCast]
    refine ⟨h1, h2, fun _ => ?_⟩
    unfold doS
    rw [if_neg (by omega), if_neg (by omega), if_neg (by omega), if_neg (by omega), ruleS_eq h3, h4]
  | none =>
    have hR : lineR s P = if s = sTK then (5, P) else if s = sTR then (5, { P with time := 3 }) else if s = sNK then (6, P) else if s = sND then (6, { P with note := 4 })
        else if s = sLo then (7, { P with loose := true }) else if s = sFo then (8, { P with force := true }) else (-1, P) := by unfold lineR; rw [hf]
    rw [hR] at h ⊢
    split
    · rename_i e; subst e
      refine ⟨by decide +kernel, (by show _ = wordK 5; decide +kernel), fun hs => ?_⟩
      have ht := i5 hs
      show ({ P with time := 0 }, true) = (P, true)
      obtain ⟨⟩ := P
      cases ht
      rfl
    split
    · rename_i e; subst e
      exact ⟨by decide +kernel, (by show _ = wordK 5; decide +kernel), fun _ => rfl⟩
    split
    · rename_i e; subst e
      refine ⟨by decide +kernel, (by show _ = wordK 6; decide +kernel), fun hs => ?_⟩
      have ht := i6 hs
      show ({ P with note := 0 }, true) = (P, true)
      obtain ⟨⟩ := P
      cases ht
      rfl
    split
    · rename_i e; subst e
      exact ⟨by decide +kernel, (by show _ = wordK 6; decide +kernel), fun _ => rfl⟩
    split
    · rename_i e; subst e
      exact ⟨by decide +kernel, (by show _ = wordK 7; decide +kernel), fun _ => rfl⟩
    split
    · rename_i e; subst e
      exact ⟨by decide +kernel, (by show _ = wordK 8; decide +kernel), fun _ => rfl⟩
    · rename_i h1 h2 h3 h4 h5 h6
      rw [if_neg h1, if_neg h2, if_neg h3, if_neg h4, if_neg h5, if_neg h6] at h
      exact absurd h (by show ¬ (0 : Int) ≤ -1; decide)
theorem setR_time (P : Pol) (d : Int) (r : Rul) : (setR P d r).time = P.time ∧ (setR P d r).note = P.note := by
  unfold setR
  split; exact ⟨rfl, rfl⟩
  split; exact ⟨rfl, rfl⟩
  split; exact ⟨rfl, rfl⟩
  split; exact ⟨rfl, rfl⟩
  exact ⟨rfl, rfl⟩
theorem lineR_keeps (s : Bs) (P : Pol) : ((lineR s P).1 = 5 ∨ (lineR s P).2.time = P.time) ∧ ((lineR s P).1 = 6 ∨ (lineR s P).2.note = P.note) := by
  unfold lineR
  cases hf : cands.find? fun c => matchS s c.1 c.2.1 c.2.2 with
  | some c => exact ⟨.inr (setR_time _ _ _).1, .inr (setR_time _ _ _).2⟩
  | none =>
    dsimp only
    split; exact ⟨.inl rfl, .inr rfl⟩
    split; exact ⟨.inl rfl, .inr rfl⟩
    split; exact ⟨.inr rfl, .inl rfl⟩
    split; exact ⟨.inr rfl, .inl rfl⟩
    split; exact ⟨.inr rfl, .inr rfl⟩
    split; exact ⟨.inr rfl, .inr rfl⟩
    exact ⟨.inr rfl, .inr rfl⟩
theorem getD_set {sd : List Bool} {k j : Nat} (h : j < sd.length) : (sd.set k true).getD j false = (decide (k = j) || sd.getD j false) := by
  rw [List.getD_eq_getElem?_getD, List.getElem?_set, List.getD_eq_getElem?_getD]
  split
  · rename_i e; subst e
    rw [if_pos h]; simp
  · rename_i e; simp [e]
theorem go_same : ∀ (ls : List Bs) (i : Int) (P : Pol) (sd : List Bool), sd.length = 9 → (sd.getD 5 false = false → P.time = 0) → (sd.getD 6 false = false → P.note = 0) → goP i ls P sd = goR i ls P sd
  | [], i, P, sd, _, _, _ => rfl
  | s :: r, i, P, sd, h9, i5, i6 => by
    have eP : goP i (s :: r) P sd = if (lineP s P sd).2.2 = true then goP (i + 1) r (lineP s P sd).1 (lineP s P sd).2.1 else (P0, i + 1) := rfl
    have eR : goR i (s :: r) P sd = if (lineR s P).1 < 0 ∨ sd.getD (lineR s P).1.toNat false = true then (P0, i + 1) else goR (i + 1) r (lineR s P).2 (sd.set (lineR s P).1.toNat true) := rfl
    have hr := lineR_rng s P
    by_cases hn : (lineR s P).1 < 0
    · rw [eR, if_pos (.inl hn), eP, if_neg]
      intro hg
      obtain ⟨k, hk, h1, h2, h3, h4⟩ := lineP_good hg
      have := line_back (P := P) hk h1 h2 h4
      omega
    · obtain ⟨h1, h2, h3⟩ := line_fore i5 i6 (s := s) (by omega)
      have hk : (lineR s P).1.toNat < 9 := by omega
      cases hs : sd.getD (lineR s P).1.toNat false with
      | true =>
        rw [eR, if_pos (.inr hs), eP, lineP_seen hk h2 hs, if_neg Bool.false_ne_true]
      | false =>
        have h4 := h3 hs
        rw [eR, if_neg (by rintro (h | h); exact hn h; rw [hs] at h; cases h), eP, lineP_hit hk h1 h2 hs, h4, if_pos rfl]
        refine go_same r _ _ _ (by simpa using h9) (fun h => ?_) (fun h => ?_)
        · rw [getD_set (by omega)] at h
          simp only [Bool.or_eq_false_iff, decide_eq_false_iff_not] at h
          rcases (lineR_keeps s P).1 with e | e
          · rw [e] at h; exact absurd rfl h.1
          · rw [e]; exact i5 h.2
        · rw [getD_set (by omega)] at h
          simp only [Bool.or_eq_false_iff, decide_eq_false_iff_not] at h
          rcases (lineR_keeps s P).2 with e | e
          · rw [e] at h; exact absurd rfl h.1
          · rw [e]; exact i6 h.2
theorem lines_pos (s : Bs) : 0 ≤ (linesS s).2 := by
  unfold linesS
  split
  · exact Int.le_refl _
  · show (0 : Int) ≤ _ + 1
    omega
theorem parse_same (s : Bs) : parseP s = parseR s := by
  unfold parseP parseR
  have := lines_pos s
  by_cases h : (linesS s).2 = 0
  · rw [if_pos h, if_neg (by omega)]
    exact go_same _ _ _ _ rfl (fun _ => rfl) (fun _ => rfl)
  · rw [if_neg h, if_pos (by omega)]
theorem ruled_setR {P : Pol} {d : Nat} {r : Rul} (hd : d < 5) (h : rightB P = true) (hr : ruledB (d : Int) r = true) : rightB (setR P (d : Int) r) = true := by
  unfold rightB at *
  simp only [Bool.and_eq_true] at h
  obtain ⟨h0, h1, h2, h3, h4, h5⟩ := h
  match d, hd with
  | 0, _ => simp only [setR, Bool.and_eq_true]; exact ⟨hr, h1, h2, h3, h4, h5⟩
  | 1, _ => simp only [setR, Bool.and_eq_true]; exact ⟨h0, hr, h2, h3, h4, h5⟩
  | 2, _ => simp only [setR, Bool.and_eq_true]; exact ⟨h0, h1, hr, h3, h4, h5⟩
  | 3, _ => simp only [setR, Bool.and_eq_true]; exact ⟨h0, h1, h2, hr, h4, h5⟩
  | 4, _ => simp only [setR, Bool.and_eq_true]; exact ⟨h0, h1, h2, h3, hr, h5⟩
theorem lineR_right {s : Bs} {P : Pol} (h : rightB P = true) : rightB (lineR s P).2 = true := by
  unfold lineR
  cases hf : cands.find? fun c => matchS s c.1 c.2.1 c.2.2 with
  | some c =>
    have hc := List.find?_some hf
    have hm := List.mem_of_find?_eq_some hf
    unfold matchS at hc
    simp only [Bool.and_eq_true] at hc
    exact ruled_setR (cands_mem.1 hm).1 h hc.1
  | none =>
    dsimp only
    have h' := h
    unfold rightB at h'
    simp only [Bool.and_eq_true] at h'
    obtain ⟨h0, h1, h2, h3, h4, h5, h6⟩ := h'
    split; exact h
    split
    · unfold rightB; simp only [Bool.and_eq_true]; exact ⟨h0, h1, h2, h3, h4, rfl, h6⟩
    split; exact h
    split
    · unfold rightB; simp only [Bool.and_eq_true]; exact ⟨h0, h1, h2, h3, h4, h5, rfl⟩
    split; exact h
    split; exact h
    exact h
theorem goR_right : ∀ (ls : List Bs) (i : Int) (P : Pol) (sd : List Bool), 0 ≤ i → rightB P = true → (goR i ls P sd).2 = 0 → rightB (goR i ls P sd).1 = true
  | [], i, P, sd, _, h, _ => h
  | s :: r, i, P, sd, hi, h, h0 => by
    unfold goR at h0 ⊢
    split at h0
    · exfalso; have : i + 1 = 0 := h0; omega
    · rename_i hc
      rw [if_neg hc]
      exact goR_right r _ _ _ (by omega) (lineR_right h) h0
theorem parseR_right {s : Bs} (h : (parseR s).2 = 0) : rightB (parseR s).1 = true := by
  unfold parseR at h ⊢
  split at h
  · rename_i hp; exfalso; have : (linesS s).2 = 0 := h; omega
  · rename_i hp
    rw [if_neg hp]
    exact goR_right _ _ _ _ (by decide) (by decide) h
theorem goR_pos : ∀ (ls : List Bs) (i : Int) (P : Pol) (sd : List Bool), 0 ≤ i → 0 ≤ (goR i ls P sd).2
  | [], i, P, sd, _ => Int.le_refl _
  | s :: r, i, P, sd, hi => by
    unfold goR
    split
    · show (0 : Int) ≤ i + 1; omega
    · exact goR_pos r _ _ _ (by omega)
theorem goR_bad : ∀ (ls : List Bs) (i : Int) (P : Pol) (sd : List Bool), 0 < (goR i ls P sd).2 → (goR i ls P sd).1 = P0
  | [], i, P, sd, h => absurd h (by show ¬ (0 : Int) < 0; decide)
  | s :: r, i, P, sd, h => by
    unfold goR at h ⊢
    split at h
    · rename_i hc; rw [if_pos hc]
    · rename_i hc
      rw [if_neg hc]
      exact goR_bad r _ _ _ h
theorem parseR_pos (s : Bs) : 0 ≤ (parseR s).2 := by
  unfold parseR
  split
  · rename_i h; exact Int.le_of_lt h
  · exact goR_pos _ _ _ _ (by decide)
theorem parseR_bad {s : Bs} (h : 0 < (parseR s).2) : (parseR s).1 = P0 := by
  unfold parseR at h ⊢
  split at h
  · rename_i hc; rw [if_pos hc]
  · rename_i hc
    rw [if_neg hc]
    exact goR_bad _ _ _ _ h
end Go.Proofs.YtiinipcmghhacaaDoor.T10
