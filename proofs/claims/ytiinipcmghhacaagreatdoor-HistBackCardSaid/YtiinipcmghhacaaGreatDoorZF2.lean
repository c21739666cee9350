/- A line read and printed again: plain laws. -/
import Derived.Test.YtiinipcmghhacaaGreatDoorZF1
set_option linter.unusedVariables false
set_option linter.unusedSimpArgs false
namespace Go.Proofs.YtiinipcmghhacaaGreatDoor.T10
open Go Go.Proofs.YtiinipcmghhacaaGreatDoor.X
/-! ## A line read and printed again -/
theorem count_itoa {s : Bs} {m n : Int} (h : countS s m = .ok n) : Lib.itoa n = s := by
  unfold countS at h
  split at h
  · cases h
  · rename_i k hk
    split at h
    · cases h
    · cases h
      obtain ⟨hd, rfl⟩ := ok_size hk
      rw [itoa_nn (by omega)]
      exact dd_of hd
theorem count_rng {s : Bs} {m n : Int} (h : countS s m = .ok n) : 0 ≤ n ∧ n ≤ 9223372036854775807 := by
  unfold countS at h
  split at h
  · cases h
  · rename_i k hk
    split at h
    · cases h
    · cases h
      exact size_bound hk
theorem count_err {s : Bs} {m e : Int} (h : countS s m = .error e) : ¬ e = 0 := by
  unfold countS at h
  split at h
  · rename_i e' he
    cases h
    exact size_err he
  · split at h
    · cases h; decide
    · cases h
theorem count_zero {s : Bs} {m : Int} (h : erv (countS s m) = 0) : ∃ n, countS s m = .ok n ∧ okv (countS s m) = n := by
  cases hc : countS s m with
  | ok n => exact ⟨n, rfl, rfl⟩
  | error e => rw [hc] at h; exact absurd h (count_err hc)
theorem takes_right {d : Int} {v : Val} (h : takesB d v = true) : rightV v = true := by
  unfold takesB at h
  split at h
  · cases h
  · rename_i h2; simpa using h2
theorem value_ok {d : Int} {l : List Bs} {e : Int} (h : (valueS d l e).2.2 = 0) (hd : 0 ≤ d) : e = 0 ∧ ∃ r, l = printV (valueS d l e).1 :: r ∧ (valueS d l e).2.1 = r ∧ takesB d (valueS d l e).1 = true := by
  by_cases he : e = 0
  · subst he
    refine ⟨rfl, ?_⟩
    cases l with
    | nil => rw [valueS_nil] at h; cases h
    | cons a r =>
      rw [valueS_cons] at h ⊢
      dsimp only at h ⊢
      split at h
      · cases h
      · rename_i h2
        obtain ⟨h3, h4⟩ := print_parse h
        refine ⟨r, by rw [h4], rfl, ?_⟩
        cases ht : takesB d (parseV a).1 with
        | true => rfl
        | false => exact absurd ⟨h, hd, ht⟩ h2
  · rw [valueS_stuck he] at h; exact absurd h he
theorem number_ok {tab : Bs → Int × Bool} (ht : tab [] = (0, false)) {l : List Bs} {e : Int} (h : (numberS tab l e).2.2 = 0) : e = 0 ∧ ∃ w r, l = w :: r ∧ (numberS tab l e).2.1 = r ∧ (numberS tab l e).1 = (tab w).1 ∧ (tab w).2 = true := by
  by_cases he : e = 0
  · subst he
    refine ⟨rfl, ?_⟩
    cases l with
    | nil => rw [numberS_nil ht] at h; cases h
    | cons a r =>
      rw [numberS_cons] at h ⊢
      dsimp only at h ⊢
      split at h
      · rename_i h2; exact ⟨a, r, rfl, rfl, rfl, h2⟩
      · cases h
  · rw [numberS_stuck ht he] at h; exact absurd h he
theorem args_ok : ∀ {ds : List Int} {l : List Bs} {e : Int}, (argsL ds l e).2.2 = 0 → (∀ d ∈ ds, 0 ≤ d) → e = 0 ∧ l = (argsL ds l e).1.map printV ++ (argsL ds l e).2.1 ∧ fitsL ds (argsL ds l e).1 = true
  | [], l, e, h, _ => ⟨h, rfl, rfl⟩
  | d :: ds, l, e, h, hd => by
    have h1 : (argsL ds (valueS d l e).2.1 (valueS d l e).2.2).2.2 = 0 := h
    obtain ⟨h2, h3, h4⟩ := args_ok h1 (fun x hx => hd x (List.mem_cons_of_mem _ hx))
    obtain ⟨h5, r, h6, h7, h8⟩ := value_ok h2 (hd d List.mem_cons_self)
    refine ⟨h5, ?_, ?_⟩
    · show l = printV (valueS d l e).1 :: (List.map printV (argsL ds (valueS d l e).2.1 (valueS d l e).2.2).1 ++ (argsL ds (valueS d l e).2.1 (valueS d l e).2.2).2.1)
      rw [← h3, h7]; exact h6
    · show (takesB d (valueS d l e).1 && fitsL ds _) = true
      rw [h8, h4]; rfl
theorem out_ok : ∀ {l : List Bs} {e : Int}, (outL l e).2.2 = 0 → e = 0 ∧ l = (outL l e).1.map printV ∧ (outL l e).2.1 = [] ∧ (outL l e).1.all rightV = true
  | [], e, h => ⟨h, rfl, rfl, rfl⟩
  | x :: r, e, h => by
    unfold outL at h ⊢
    split at h
    · rename_i he
      rw [if_pos he]
      obtain ⟨h1, h2, h3, h4⟩ := out_ok (l := r) (e := (parseV x).2) h
      obtain ⟨h5, h6⟩ := print_parse h1
      refine ⟨he, ?_, h3, ?_⟩
      · show x :: r = printV (parseV x).1 :: _
        rw [h6, ← h2]
      · show (rightV (parseV x).1 && _) = true
        rw [h5, h4]; rfl
    · rename_i he; exact absurd h he
theorem idxW_ok {w : Bs} : ∀ (ws : List Bs) (k : Int), 0 ≤ k → (idxW ws k w).2 = true → ∃ i : Nat, ws[i]? = some w ∧ (idxW ws k w).1 = k + i ∧ 0 < (idxW ws k w).1
  | [], k, _, h => by cases h
  | x :: r, k, hk, h => by
    unfold idxW at h ⊢
    split at h
    · rename_i hc
      rw [if_pos hc]
      simp only [Bool.and_eq_true, decide_eq_true_eq, beq_iff_eq] at hc
      exact ⟨0, by simp [hc.2], by simp, hc.1⟩
    · rename_i hc
      rw [if_neg hc]
      obtain ⟨i, h1, h2, h3⟩ := idxW_ok r (k + 1) (by omega) h
      exact ⟨i + 1, by simpa using h1, by rw [h2]; omega, h3⟩
theorem model_ok {w : Bs} (h : (modelS w).2 = true) : mnameS (modelS w).1 = w := by
  obtain ⟨i, h1, h2, h3⟩ := idxW_ok modelsW 0 (Int.le_refl _) h
  have hi := (List.getElem?_eq_some_iff.1 h1).1
  have h2' : (modelS w).1 = (i : Int) := by unfold modelS; rw [h2]; omega
  have h3' : 0 < (modelS w).1 := h3
  have h4 := mname_at (i := i) (h := hi) (by omega)
  rw [h2', ← h4]
  exact (List.getElem?_eq_some_iff.1 h1).2
theorem op_ok {w : Bs} (h : (opS w).2 = true) : onameS (opS w).1 = w := by
  obtain ⟨i, h1, h2, h3⟩ := idxW_ok opsW 0 (Int.le_refl _) h
  have hi := (List.getElem?_eq_some_iff.1 h1).1
  have h2' : (opS w).1 = (i : Int) := by unfold opS; rw [h2]; omega
  have h3' : 0 < (opS w).1 := h3
  have h4 := oname_at (i := i) (h := hi) (by omega)
  rw [h2', ← h4]
  exact (List.getElem?_eq_some_iff.1 h1).2
theorem typed_ok {w : Bs} (h : (typedS w).2 = true) : namedW.getD (typedS w).1.toNat [] = w ∧ 1 ≤ (typedS w).1 ∧ (typedS w).1 ≤ 4 := by
  unfold typedS at h ⊢
  split
  · rename_i e; rw [← eq_of_beq e]; decide
  split
  · rename_i e; rw [← eq_of_beq e]; decide
  split
  · rename_i e; rw [← eq_of_beq e]; decide
  split
  · rename_i e; rw [← eq_of_beq e]; decide
  · rename_i h1 h2 h3 h4
    rw [if_neg h1, if_neg h2, if_neg h3, if_neg h4] at h
    cases h
theorem doms_pos (m o : Int) : ∀ d ∈ (argsD m o).1, 0 ≤ d := by
  unfold argsD
  split
  · intro d hd
    simp only [doms, List.mem_map] at hd
    obtain ⟨b, _, rfl⟩ := hd
    unfold domS
    split <;> (try split) <;> (try split) <;> decide
  · intro d hd; cases hd
theorem inv_ok {l : List Bs} {e : Int} (h : (invS l e).2.2.2.2.2 = 0) : e = 0 ∧ (argsD (invS l e).1 (invS l e).2.2.1).2 = true ∧ takesB 1 (invS l e).2.1 = true ∧ fitsL (argsD (invS l e).1 (invS l e).2.2.1).1 (invS l e).2.2.2.1 = true ∧
    l = [mnameS (invS l e).1, printV (invS l e).2.1, onameS (invS l e).2.2.1] ++ ((invS l e).2.2.2.1.map printV ++ (invS l e).2.2.2.2.1) := by
  unfold invS at h ⊢
  dsimp only at h ⊢
  obtain ⟨h1, h2, h3⟩ := args_ok h (doms_pos _ _)
  have h1' : (argsD (numberS modelS l e).1 (numberS opS (valueS 1 (numberS modelS l e).2.1 (numberS modelS l e).2.2).2.1 (valueS 1 (numberS modelS l e).2.1 (numberS modelS l e).2.2).2.2).1).2 = true ∧ (numberS opS (valueS 1 (numberS modelS l e).2.1 (numberS modelS l e).2.2).2.1 (valueS 1 (numberS modelS l e).2.1 (numberS modelS l e).2.2).2.2).2.2 = 0 := by
    split at h1
    · exact absurd h1 (fault2_ne _)
    · rename_i h9; exact ⟨by simpa using h9, h1⟩
  obtain ⟨h4, w3, r3, h5, h6, h7, h8⟩ := number_ok tab_o h1'.2
  obtain ⟨h9, r2, h10, h11, h12⟩ := value_ok h4 (by decide)
  obtain ⟨h13, w1, r1, h14, h15, h16, h17⟩ := number_ok tab_m h9
  refine ⟨h13, h1'.1, h12, h3, ?_⟩
  refine (h14.trans (congrArg _ (h15.symm.trans (h10.trans (congrArg _ (h11.symm.trans h5)))))).trans ?_
  rw [← h2, h6, h7, op_ok h8, h16, model_ok h17]
  rfl
theorem allS_ok {l : List Bs} (h : (allS l).2.2 = 0) (nt : Bs) (b : Bool) (hn : notedB { (allS l).1 with noted := b, note := nt } = true) :
    rightE { (allS l).1 with noted := b, note := nt } = true ∧ wordsE { (allS l).1 with noted := b, note := nt } = l := by
  unfold allS at h hn ⊢
  dsimp only at h hn ⊢
  generalize hz1 : nextS l 0 = z1 at h hn ⊢
  generalize hz2 : valueS 0 z1.2.1 (faultS z1.2.2 (erv (countS z1.1 9223372036854775807))) = z2 at h hn ⊢
  generalize hz3 : numberS typedS z2.2.1 z2.2.2 = z3 at h hn ⊢
  have fin : ∀ {q : Evt × List Bs × Int}, (if 0 < q.2.1.length then faultS q.2.2 2 else q.2.2) = 0 → q.2.1 = [] ∧ q.2.2 = 0 := by
    intro q hq
    split at hq
    · exact absurd hq (fault2_ne _)
    · rename_i h0; exact ⟨List.length_eq_zero_iff.1 (by omega), hq⟩
  have front : z3.2.2 = 0 → ∃ tw n r, l = Lib.itoa n :: printV z2.1 :: tw :: r ∧ countS z1.1 9223372036854775807 = .ok n ∧ (0 ≤ n) ∧ takesB 0 z2.1 = true ∧ z3.2.1 = r ∧ namedW.getD z3.1.toNat [] = tw ∧ 1 ≤ z3.1 ∧ z3.1 ≤ 4 := by
    intro h0
    rw [← hz3] at h0
    obtain ⟨h1, w, r, h2, h3, h4, h5⟩ := number_ok tab_t h0
    rw [hz3] at h3 h4
    rw [← hz2] at h1
    obtain ⟨h6, r2, h7, h8, h9⟩ := value_ok h1 (Int.le_refl _)
    rw [hz2] at h7 h8 h9
    have h10 : z1.2.2 = 0 ∧ erv (countS z1.1 9223372036854775807) = 0 := by
      unfold faultS at h6
      split at h6
      · rename_i e; exact ⟨e, h6⟩
      · rename_i e; exact absurd h6 e
    obtain ⟨n, h11, h12⟩ := count_zero h10.2
    obtain ⟨h13, h14, h15⟩ := typed_ok h5
    rw [← h4] at h13 h14 h15
    have h16 : l = z1.1 :: z1.2.1 := by
      cases l with
      | nil => rw [← hz1] at h10; cases h10.1
      | cons a r => rw [← hz1, nextS_cons]
    refine ⟨w, n, r, ?_, h11, (count_rng h11).1, h9, h3, h13, h14, h15⟩
    rw [h16, h7, ← h8, h2, count_itoa h11]
  by_cases c1 : z3.1 = 1
  · rw [if_pos c1] at h hn ⊢
    obtain ⟨h1, h2⟩ := fin h
    obtain ⟨h3, h4, h5, h6, h7⟩ := inv_ok h2
    obtain ⟨tw, n, r, g1, g2, g3, g4, g5, g6, g7, g8⟩ := front h3
    rw [h1, List.append_nil] at h7
    rw [g2] at hn ⊢
    refine ⟨?_, ?_⟩
    · unfold rightE
      rw [hn]
      dsimp only [okv]
      simp [g4, c1, h4, h5, h6, show ¬ n < 0 by omega]
    · unfold wordsE
      dsimp only [okv]
      rw [g6, if_pos c1, List.map_nil, List.append_nil, g1, ← g5]
      conv => rhs; rw [h7]
      rfl
  · rw [if_neg c1] at h hn ⊢
    by_cases c2 : z3.1 = 2
    · rw [if_pos c2] at h hn ⊢
      obtain ⟨h1, h2⟩ := fin h
      obtain ⟨h3, h4, h5, h6⟩ := out_ok h2
      obtain ⟨tw, n, r, g1, g2, g3, g4, g5, g6, g7, g8⟩ := front h3
      rw [g2] at hn ⊢
      refine ⟨?_, ?_⟩
      · unfold rightE
        rw [hn]
        dsimp only [okv]
        simp [g4, c2, h6, show ¬ n < 0 by omega]
      · unfold wordsE
        dsimp only [okv]
        rw [g6, if_neg c1, List.append_nil, List.map_nil, List.nil_append, g1, ← g5, ← h4]
        rfl
    · rw [if_neg c2] at h hn ⊢
      obtain ⟨h1, h2⟩ := fin h
      obtain ⟨tw, n, r, g1, g2, g3, g4, g5, g6, g7, g8⟩ := front h2
      rw [g2] at hn ⊢
      have c34 : z3.1 = 3 ∨ z3.1 = 4 := by omega
      refine ⟨?_, ?_⟩
      · unfold rightE
        rw [hn]
        dsimp only [okv]
        rcases c34 with e | e <;> simp [g4, e, show ¬ n < 0 by omega]
      · unfold wordsE
        dsimp only [okv]
        have h9 : z3.2.1 = [] := h1
        rw [g6, if_neg c1, List.append_nil, List.map_nil, List.append_nil, g1, ← g5, h9]
        simp
theorem index_hit {s : Bs} {c : UInt8} {i : Nat} (h : Lib.indexByte s c = (i : Int)) : s = s.take i ++ c :: s.drop (i + 1) := by
  have h1 := splitS_hit c h
  have h2 := join_split c s
  rw [h1] at h2
  obtain ⟨y, r, e⟩ : ∃ y r, splitS c (s.drop (i + 1)) = y :: r := by
    cases e : splitS c (s.drop (i + 1)) with
    | nil => exact absurd e (splitS_ne c _)
    | cons y r => exact ⟨y, r, rfl⟩
  have h3 := join_split c (s.drop (i + 1))
  rw [e] at h2 h3
  rw [join_two, h3] at h2
  simpa using h2.symm
theorem note_ok {s : Bs} (h : (noteS s).2.2.2 = 0) : s = (noteS s).1 ++ (if (noteS s).2.2.1 = true then [32, 59] ++ (noteS s).2.1 else []) ∧ (noteS s).2.1.length ≤ 100 ∧ ¬ 0 ≤ Lib.indexByte (noteS s).2.1 10 ∧ ((noteS s).2.2.1 = true ∨ (noteS s).2.1 = []) := by
  unfold noteS at h ⊢
  split
  · exact ⟨by simp, Nat.zero_le _, show ¬ 0 ≤ Lib.indexByte [] 10 by decide, .inr rfl⟩
  · rename_i hc
    split
    · rename_i h2
      rw [if_neg hc, if_pos h2] at h
      cases h
    · rename_i h2
      simp only [not_or, Bool.not_eq_true', Bool.not_eq_false] at h2
      obtain ⟨h3, h4, h5⟩ := h2
      refine ⟨?_, by show (cutB s 59).length ≤ 100; omega, h5, .inl rfl⟩
      dsimp only
      rw [if_pos rfl]
      rcases index_two s 59 with hi | ⟨i, hi⟩
      · unfold cutF at hc; rw [cut_none hi] at hc; exact absurd rfl hc
      · have e1 : cutA s 59 = s.take i := by unfold cutA; rw [cut_some hi]
        have e2 : cutB s 59 = s.drop (i + 1) := by unfold cutB; rw [cut_some hi]
        have h6 := index_hit hi
        rw [e1] at h3 ⊢
        rw [e2]
        have h7 : s.take i = Lib.trimSuffix (s.take i) [32] ++ [32] := by
          rcases List.eq_nil_or_concat (s.take i) with e | ⟨q, b, e⟩
          · rw [e, suff_nil] at h3; cases h3
          · rw [List.concat_eq_append] at e
            rw [e, suff_snoc] at h3
            have hb := of_decide_eq_true h3
            subst hb
            rw [e, trim_snoc]
        conv => lhs; rw [h6, h7]
        simp
/-- A line that is read: its event is right, and is printed as the line. -/
theorem print_parseE {s : Bs} (h : (parseE s).2 = 0) : rightE (parseE s).1 = true ∧ printE (parseE s).1 = s := by
  by_cases h1 : (noteS s).2.2.2 = 0
  · by_cases h2 : (wordsS (noteS s).1).2 = 0
    · by_cases h3 : (allS (wordsS (noteS s).1).1).2.2 = 0
      · have e : parseE s = ({ (allS (wordsS (noteS s).1).1).1 with noted := (noteS s).2.2.1, note := (noteS s).2.1 }, 0) := by
          unfold parseE
          rw [if_neg (by omega), if_neg (by omega), if_neg (by omega)]
        obtain ⟨n1, n2, n3, n4⟩ := note_ok h1
        obtain ⟨a1, a2⟩ := allS_ok h3 (noteS s).2.1 (noteS s).2.2.1 (by
          unfold notedB
          dsimp only
          rw [decide_eq_true (by omega), decide_eq_false n3]
          rcases n4 with e | e <;> rw [e] <;> simp)
        rw [e]
        refine ⟨a1, ?_⟩
        unfold printE
        dsimp only
        rw [if_pos a1, a2, words_back h2]
        exact n1.symm
      · unfold parseE at h
        rw [if_neg (by omega), if_neg (by omega), if_pos h3] at h
        exact absurd h h3
    · unfold parseE at h
      rw [if_neg (by omega), if_pos h2] at h
      exact absurd h h2
  · unfold parseE at h
    rw [if_pos h1] at h
    exact absurd h h1
/-! What is read is well formed; the faults. -/
theorem zero_wf : (⟨0, 0, []⟩ : Val).Wf := ⟨by decide, by decide, by decide⟩
theorem parse_wf2 (s : Bs) : (parseV s).1.Wf := by
  have h0 : I64 0 := by decide
  have h1 : I64 1 := by decide
  have h2 : I64 2 := by decide
  have h3 : I64 3 := by decide
  unfold parseV
  split
  · exact ⟨h0, h0, by decide⟩
  split
  · exact ⟨h3, h1, by decide⟩
  split
  · exact ⟨h3, h0, by decide⟩
  split
  · rename_i hw
    refine ⟨h2, h0, ?_⟩
    simp only [isWordB, Bool.and_eq_true, decide_eq_true_eq] at hw
    have := hw.1.2
    show s.length ≤ _
    omega
  split
  · exact ⟨h0, h0, Nat.zero_le _⟩
  · exact ⟨h1, okv_range, Nat.zero_le _⟩
theorem valueS_wf (d : Int) (l : List Bs) (e : Int) : (valueS d l e).1.Wf := by
  unfold valueS
  split
  · exact parse_wf2 _
  · exact zero_wf
theorem argsL_wf : ∀ (ds : List Int) (l : List Bs) (e : Int), ∀ v ∈ (argsL ds l e).1, v.Wf
  | [], _, _, v, hv => by cases hv
  | d :: ds, l, e, v, hv => by
    rcases List.mem_cons.1 (show v ∈ (valueS d l e).1 :: (argsL ds (valueS d l e).2.1 (valueS d l e).2.2).1 from hv) with rfl | hv
    · exact valueS_wf _ _ _
    · exact argsL_wf ds _ _ v hv
theorem outL_wf : ∀ (l : List Bs) (e : Int), ∀ v ∈ (outL l e).1, v.Wf
  | [], _, v, hv => by cases hv
  | x :: r, e, v, hv => by
    unfold outL at hv
    split at hv
    · rcases List.mem_cons.1 (show v ∈ (parseV x).1 :: (outL r (parseV x).2).1 from hv) with rfl | hv
      · exact parse_wf2 _
      · exact outL_wf r _ v hv
    · cases hv
theorem small64 {n : Int} (h : 0 ≤ n ∧ n ≤ 1000) : I64 n := ⟨by omega, by omega⟩
theorem count64 (s : Bs) : I64 (okv (countS s 9223372036854775807)) := by
  cases hc : countS s 9223372036854775807 with
  | ok n => have := count_rng hc; exact ⟨by show _ ≤ n; omega, by show n ≤ _; omega⟩
  | error e => exact (by decide : I64 0)
theorem typed64 (w : Bs) : I64 (typedS w).1 := by
  unfold typedS
  split
  · decide
  split
  · decide
  split
  · decide
  split
  · decide
  · decide
theorem model64 (w : Bs) : I64 (modelS w).1 := small64 (by have := idxW_rng modelsW 0 w (Int.le_refl _); have e : (modelsW.length : Int) = 11 := rfl; unfold modelS; omega)
theorem op64 (w : Bs) : I64 (opS w).1 := small64 (by have := idxW_rng opsW 0 w (Int.le_refl _); have e : (opsW.length : Int) = 14 := rfl; unfold opS; omega)
theorem E0_wf : E0.Wf := ⟨by decide, zero_wf, by decide, by decide, zero_wf, by decide, by decide, by simp [E0], by decide, by simp [E0], by decide⟩
theorem allS_wf (l : List Bs) (b : Bool) (nt : Bs) (hn : nt.length ≤ 9223372036854775807) (ho : (allS l).1.out.length ≤ 9223372036854775807) : ({ (allS l).1 with noted := b, note := nt } : Evt).Wf := by
  have ha := (allS_len l).1
  have z64 : I64 0 := by decide
  have nos : ∀ v ∈ ([] : List Val), v.Wf := by simp
  unfold allS at ha ho ⊢
  dsimp only at ha ho ⊢
  split
  · rename_i h1
    rw [if_pos h1] at ha
    refine ⟨count64 _, valueS_wf _ _ _, typed64 _, model64 _, valueS_wf _ _ _, op64 _, ?_, argsL_wf _ _ _, Nat.zero_le _, nos, hn⟩
    exact Nat.le_trans ha (by decide)
  · rename_i h1
    rw [if_neg h1] at ha ho
    split
    · rename_i h2
      rw [if_pos h2] at ho
      exact ⟨count64 _, valueS_wf _ _ _, typed64 _, z64, zero_wf, z64, Nat.zero_le _, nos, ho, outL_wf _ _, hn⟩
    · exact ⟨count64 _, valueS_wf _ _ _, typed64 _, z64, zero_wf, z64, Nat.zero_le _, nos, Nat.zero_le _, nos, hn⟩
theorem note_small (s : Bs) : (noteS s).2.1.length ≤ 100 := by
  unfold noteS
  split
  · exact Nat.zero_le _
  split
  · exact Nat.zero_le _
  · rename_i h
    simp only [not_or] at h
    show (cutB s 59).length ≤ 100
    omega
theorem parseE_wf {s : Bs} (h : s.length ≤ 9223372036854775806) : (parseE s).1.Wf := by
  have h1 := (allS_len (wordsS (noteS s).1).1).2
  have h2 := wordsS_len (noteS s).1
  have h3 := note_len s
  have h4 := note_small s
  unfold parseE
  split
  · exact E0_wf
  split
  · exact E0_wf
  split
  · exact E0_wf
  · exact allS_wf _ _ _ (by omega) (by omega)
def E23 (e : Int) : Prop := e = 0 ∨ e = 2 ∨ e = 3
theorem E23.fault {e : Int} (h : E23 e) : E23 (faultS e 2) := by
  unfold faultS
  split
  · exact .inr (.inl rfl)
  · exact h
theorem size23 {s : Bs} {m e : Int} (h : sizeS s m = .error e) : e = 2 ∨ e = 3 := by
  unfold sizeS at h
  split at h
  · split at h
    · cases h
    · cases h; exact .inr rfl
  · cases h; exact .inl rfl
theorem count23 (s : Bs) (m : Int) : E23 (erv (countS s m)) := by
  cases hc : countS s m with
  | ok n => exact .inl rfl
  | error e =>
    refine .inr ?_
    show e = 2 ∨ e = 3
    unfold countS at hc
    split at hc
    · rename_i e' he; cases hc; exact size23 he
    · split at hc
      · cases hc; exact .inr rfl
      · cases hc
theorem parse23 (s : Bs) : E23 (parseV s).2 := by
  unfold parseV
  split
  · exact .inl rfl
  split
  · exact .inl rfl
  split
  · exact .inl rfl
  split
  · exact .inl rfl
  split
  · show E23 (erv (parseS s))
    cases hc : parseS s with
    | ok n => exact .inl rfl
    | error e =>
      refine .inr ?_
      show e = 2 ∨ e = 3
      unfold parseS at hc
      split at hc
      · exact size23 hc
      · split at hc
        · rename_i e' he; cases hc; exact size23 he
        · split at hc
          · cases hc; exact .inl rfl
          · cases hc
  · exact .inl rfl
theorem value23 {d : Int} {l : List Bs} {e : Int} (h : E23 e) : E23 (valueS d l e).2.2 := by
  by_cases he : e = 0
  · subst he
    cases l with
    | nil => exact .inr (.inl rfl)
    | cons a r =>
      rw [valueS_cons]
      dsimp only
      split
      · exact .inr (.inl rfl)
      · exact parse23 a
  · rw [valueS_stuck he]; exact h
theorem number23 {tab : Bs → Int × Bool} (ht : tab [] = (0, false)) {l : List Bs} {e : Int} (h : E23 e) : E23 (numberS tab l e).2.2 := by
  by_cases he : e = 0
  · subst he
    cases l with
    | nil => rw [numberS_nil ht]; exact .inr (.inl rfl)
    | cons a r =>
      rw [numberS_cons]
      dsimp only
      split
      · exact .inl rfl
      · exact .inr (.inl rfl)
  · rw [numberS_stuck ht he]; exact h
theorem args23 : ∀ {ds : List Int} {l : List Bs} {e : Int}, E23 e → E23 (argsL ds l e).2.2
  | [], _, _, h => h
  | d :: ds, l, e, h => args23 (ds := ds) (value23 h)
theorem out23 : ∀ {l : List Bs} {e : Int}, E23 e → E23 (outL l e).2.2
  | [], _, h => h
  | x :: r, e, h => by
    unfold outL
    split
    · exact out23 (l := r) (parse23 x)
    · exact h
theorem next23 (l : List Bs) : E23 (nextS l 0).2.2 := by
  cases l with
  | nil => exact .inr (.inl rfl)
  | cons a r => exact .inl rfl
theorem inv23 {l : List Bs} {e : Int} (h : E23 e) : E23 (invS l e).2.2.2.2.2 := by
  unfold invS
  dsimp only
  have h1 : E23 (numberS modelS l e).2.2 := number23 tab_m h
  have h2 : E23 (valueS 1 (numberS modelS l e).2.1 (numberS modelS l e).2.2).2.2 := value23 h1
  have h3 : E23 (numberS opS (valueS 1 (numberS modelS l e).2.1 (numberS modelS l e).2.2).2.1 (valueS 1 (numberS modelS l e).2.1 (numberS modelS l e).2.2).2.2).2.2 := number23 tab_o h2
  refine args23 ?_
  split
  · exact h3.fault
  · exact h3
theorem all23 (l : List Bs) : E23 (allS l).2.2 := by
  have h1 : E23 (faultS (nextS l 0).2.2 (erv (countS (nextS l 0).1 9223372036854775807))) := by
    unfold faultS
    split
    · exact count23 _ _
    · exact next23 l
  have h3 := number23 tab_t (l := (valueS 0 (nextS l 0).2.1 (faultS (nextS l 0).2.2 (erv (countS (nextS l 0).1 9223372036854775807)))).2.1) (value23 (d := 0) (l := (nextS l 0).2.1) h1)
  unfold allS
  dsimp only
  have fin : ∀ {q : Evt × List Bs × Int}, E23 q.2.2 → E23 (if 0 < q.2.1.length then faultS q.2.2 2 else q.2.2) := by
    intro q hq
    split
    · exact hq.fault
    · exact hq
  refine fin ?_
  split
  · exact inv23 h3
  · split
    · exact out23 h3
    · exact h3
theorem parseE_23 {s : Bs} (h : ¬ (parseE s).2 = 0) : ((parseE s).2 = 2 ∨ (parseE s).2 = 3) ∧ (parseE s).1 = E0 := by
  unfold parseE at h ⊢
  split
  · rename_i h1
    rcases note_cases s with e | e
    · exact absurd e h1
    · rw [e]; exact ⟨.inl rfl, rfl⟩
  · rename_i h1
    rw [if_neg h1] at h
    split
    · rename_i h2
      rcases words_two (noteS s).1 with e | e
      · exact absurd e h2
      · rw [e]; exact ⟨.inl rfl, rfl⟩
    · rename_i h2
      rw [if_neg h2] at h
      split
      · rename_i h3
        exact ⟨(all23 _).resolve_left h3, rfl⟩
      · rename_i h3
        rw [if_neg h3] at h
        exact absurd rfl h
end Go.Proofs.YtiinipcmghhacaaGreatDoor.T10
