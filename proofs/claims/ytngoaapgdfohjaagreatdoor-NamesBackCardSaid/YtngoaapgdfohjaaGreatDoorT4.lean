/- Own text. -/
import Derived.Test.YtngoaapgdfohjaaGreatDoorP27
import Derived.Test.YtngoaapgdfohjaaGreatDoorShelf
set_option linter.unusedVariables false
set_option linter.unusedSimpArgs false
set_option maxRecDepth 100000
set_option maxHeartbeats 4000000
namespace Go.Proofs.YtngoaapgdfohjaaGreatDoor.T27
open Go Go.Proofs.YtngoaapgdfohjaaGreatDoor.X Go.Proofs Go.Proofs.YtngoaapgdfohjaaGreatDoor.T28 Go.Proofs.YtngoaapgdfohjaaGreatDoor.TS Go.Proofs.YtngoaapgdfohjaaGreatDoor.TK
/-! ## What the listed variables hold -/
def yesV : Val := ⟨3, 1, []⟩
def noV : Val := ⟨3, 0, []⟩
structure Gl (G : Heap) : Prop where
  yes : CellsAt G 0 0 (valCells yesV)
  no : CellsAt G 4 0 (valCells noV)
  tab : TabG G 6 .u64 Lib.pow10Tab
  ks : CellsAt G 5 0 (TK.ks.map (Value.int .u32))
theorem Gl.up {A B : Heap} [h : LeT A B] (g : Gl A) : Gl B := ⟨g.yes.up, g.no.up, g.tab.le h.le, g.ks.up⟩
theorem gPow : Tryz.prog.globalNamed "internal/strconv.uint64pow10" = some 6 := by kernel_rfl
/-! ## Numbers, words, values -/
theorem c_Fmt (n : Int) (hn : I64 n) (G : Heap) (g : Gl G) : FnP Tryz.prog 118 [.int .i64 n, .int .i64 10] G (str (Lib.itoa n)) := fun w hs => calls_grow hs (Tryz.strconv_FormatInt_10 n hn.1 hn.2 _ (TabG.is hs gPow g.tab))
theorem c_Num (n : Int) (hn : I64 n) (G : Heap) (g : Gl G) : FnP Tryz.prog 74 [.int .i64 n] G (str (Lib.itoa n)) := by
  refine fnP_in Tryz.func74 rfl Tryz.ntmps74 rfl fun w0 Q0 hQ => ?_
  refine go ?_
  refine w_stp (p_call rfl rfl rfl (c_Fmt n hn G g)) ?_
  refine go ?_
  exact w_ret hQ rfl
theorem c_IsWord (s : Bs) (hl : s.length ≤ 9223372036854775807) (G : Heap) : FnP Tryz.prog 153 [str s] G (.bool (isWordB s)) := by
  refine fnP_in Tryz.func153 rfl Tryz.ntmps153 rfl fun w0 Q0 hQ => ?_
  refine go ?_
  refine w_sp 6 rfl (fun h1 => ?_) (fun h1 => ?_)
  · refine go ?_
    refine w_ret hQ ?_
    rw [word_len (.inl (by simpa using h1))]; rfl
  · have h1' : ¬ s = [] := by simpa using h1
    have hp : 0 < s.length := List.length_pos_iff.2 h1'
    refine go ?_
    refine w_sp 10 rfl (fun h2 => ?_) (fun h2 => ?_)
    · refine go ?_
      refine w_ret hQ ?_
      rw [word_len (.inr (by simpa using h2))]; rfl
    · refine go ?_
      refine w_sp 15 rfl (fun h3 => ?_) (fun h3 => ?_)
      · refine go ?_
        refine w_ret hQ ?_
        rw [word_first (.inl (by simpa using h3))]; rfl
      · refine go ?_
        refine w_sp 20 rfl (fun h4 => ?_) (fun h4 => ?_)
        · refine go ?_
          refine w_ret hQ ?_
          rw [word_first (.inr (by simpa using h4))]; rfl
        · refine go ?_
          refine w_loop (fun i : Nat => [(24, .int .i64 (i : Int))]) (fun _ => []) (fun i _ => i ≤ s.length ∧ (s.take i).all wordC = true) (fun i => s.length - i) 0 ⟨by omega, rfl⟩ ?_
          rintro i G1 _ ⟨hi, ha⟩
          refine go ?_
          refine w_cd rfl (fun h5 => ?_) (fun h5 => ?_)
          · have hlt : i < s.length := by omega
            refine go ?_
            refine w_and (y := decide (bt s i ≤ 122)) 35 32 rfl (fun h => ?_) (fun h => ?_) ?_
            · refine go ?_; exact w_at
            · refine go ?_; exact w_at
            refine go ?_
            refine w_or (y := decide (48 ≤ bt s i) && decide (bt s i ≤ 57)) 43 36 rfl (fun h => ?_) (fun h => ?_) ?_
            · refine go ?_; exact w_at
            · refine go ?_
              refine w_and (y := decide (bt s i ≤ 57)) 42 39 rfl (fun h => ?_) (fun h => ?_) ?_
              · refine go ?_; exact w_at
              · refine go ?_; exact w_at
              refine go ?_; exact w_at
            refine go ?_
            refine w_or (y := decide (bt s i = 95)) 47 44 rfl (fun h => ?_) (fun h => ?_) ?_
            · refine go ?_; exact w_at
            · refine go ?_; exact w_at
            refine go ?_
            rw [letter_eq]
            refine w_cond rfl (fun h6 => ?_) (fun h6 => ?_)
            · refine go ?_
              refine w_ret hQ ?_
              rw [word_at hlt (by simpa using h6)]; rfl
            · refine go ?_
              refine w_again (i + 1) ⟨by omega, ?_⟩ (by omega)
              rw [all_snoc hlt, ha, wordC_bt hlt, Bool.true_and]; simpa using h6
          · refine go ?_
            refine w_ret hQ ?_
            rw [word_yes h1' (by simpa using h2) (by simpa using h3) (by simpa using h4) (by rwa [show i = s.length by omega, List.take_length] at ha)]; rfl
theorem eq_v0 {v : Val} (h : v.k = 0) : decide (v = V0) = (decide (v.n = 0) && v.s == []) := by
  obtain ⟨k, n, s⟩ := v
  have h' : k = 0 := h
  subst h'
  rw [Bool.eq_iff_iff]
  simp [V0]
theorem eq_yn (v : Val) : (decide (v = yesV) || decide (v = noV)) = (decide (v.k = 3) && ((decide (v.n = 0) || decide (v.n = 1)) && v.s == [])) := by
  obtain ⟨k, n, s⟩ := v
  rw [Bool.eq_iff_iff]
  simp only [yesV, noV, Val.mk.injEq, Bool.or_eq_true, Bool.and_eq_true, decide_eq_true_eq, beq_iff_eq]
  constructor
  · rintro (⟨a, b, c⟩ | ⟨a, b, c⟩)
    · exact ⟨a, .inr b, c⟩
    · exact ⟨a, .inl b, c⟩
  · rintro ⟨a, b | b, c⟩
    · exact .inr ⟨a, b, c⟩
    · exact .inl ⟨a, b, c⟩
theorem c_Right (v : Val) (hv : v.Wf) (G : Heap) (g : Gl G) : FnP Tryz.prog 117 [vV v] G (.bool (rightV v)) := by
  refine fnP_in Tryz.func117 rfl Tryz.ntmps117 rfl fun w0 Q0 hQ => ?_
  have gy := g.yes
  have gn := g.no
  refine go ?_; intro B1
  refine go ?_
  refine w_cd rfl (fun h0 => ?_) (fun h0 => ?_)
  · refine go ?_
    refine w_stp (p_build (cs := (valCells V0).toArray) rfl rfl (by kernel_rfl)) ?_
    refine go ?_
    refine w_ret hQ ?_
    show Value.bool _ = _
    unfold rightV
    rw [if_pos h0, eq_v0 h0]
  · refine go ?_
    refine w_cd rfl (fun h1 => ?_) (fun h1 => ?_)
    · refine go ?_
      refine w_ret hQ ?_
      show Value.bool _ = _
      unfold rightV
      rw [if_neg h0, if_pos h1]
    · refine go ?_
      refine w_cd rfl (fun h2 => ?_) (fun h2 => ?_)
      · refine go ?_
        refine w_and (y := isWordB v.s) 24 20 rfl (fun h => ?_) (fun h => ?_) ?_
        · refine go ?_
          refine w_stp (p_on rfl rfl h (p_call rfl rfl rfl (c_IsWord v.s hv.s _))) ?_
          refine go ?_; exact w_at
        · refine go ?_; exact w_at
        refine go ?_
        refine w_ret hQ ?_
        show Value.bool _ = _
        unfold rightV
        rw [if_neg h0, if_neg h1, if_pos h2]
      · refine go ?_
        refine w_or (y := decide (v = noV)) 32 28 rfl (fun h => ?_) (fun h => ?_) ?_
        · refine go ?_; exact w_at
        · refine go ?_; exact w_at
        refine go ?_
        refine w_ret hQ ?_
        show Value.bool _ = _
        unfold rightV
        rw [if_neg h0, if_neg h1, if_neg h2, eq_yn]
        split
        · rename_i h3; rw [decide_eq_true h3]; simp
        · rename_i h3; rw [decide_eq_false h3]; simp
theorem right_k {v : Val} (h : rightV v = true) : v.k = 0 ∨ v.k = 1 ∨ v.k = 2 ∨ v.k = 3 := by
  unfold rightV at h
  split at h
  · exact .inl ‹_›
  · split at h
    · exact .inr (.inl ‹_›)
    · split at h
      · exact .inr (.inr (.inl ‹_›))
      · split at h
        · exact .inr (.inr (.inr ‹_›))
        · cases h
theorem right_n {v : Val} (h : rightV v = true) (h3 : v.k = 3) : decide (v = yesV) = decide (v.n = 1) := by
  unfold rightV at h
  rw [if_neg (by omega), if_neg (by omega), if_neg (by omega), if_pos h3] at h
  obtain ⟨k, n, s⟩ := v
  simp only [Bool.and_eq_true, Bool.or_eq_true, decide_eq_true_eq, beq_iff_eq] at h h3
  obtain ⟨_, hs⟩ := h
  subst h3 hs
  rw [Bool.eq_iff_iff]
  simp [yesV]
theorem c_PrintV (v : Val) (hv : v.Wf) (G : Heap) (g : Gl G) : FnP Tryz.prog 77 [vV v] G (str (printV v)) := by
  refine fnP_in Tryz.func77 rfl Tryz.ntmps77 rfl fun w0 Q0 hQ => ?_
  have gy := g.yes
  refine go ?_; intro B1
  refine go ?_
  refine w_stp (p_call rfl rfl rfl (c_Right v hv _ g)) ?_
  refine go ?_
  refine w_cond rfl (fun h0 => ?_) (fun h0 => ?_)
  · have hr : rightV v = false := by simpa using h0
    refine go ?_
    refine w_ret hQ ?_
    unfold printV
    rw [if_pos hr]; rfl
  · have hr : rightV v = true := by simpa using h0
    have hr' : ¬ rightV v = false := by rw [hr]; simp
    refine go ?_
    refine w_cd rfl (fun h1 => ?_) (fun h1 => ?_)
    · refine go ?_
      refine w_ret hQ ?_
      unfold printV
      rw [if_neg hr', if_pos h1]; rfl
    · refine go ?_
      refine w_cd rfl (fun h2 => ?_) (fun h2 => ?_)
      · refine go ?_
        refine w_stp (p_call rfl rfl rfl (c_Num v.n hv.n _ g)) ?_
        refine go ?_
        refine w_ret hQ ?_
        unfold printV
        rw [if_neg hr', if_neg h1, if_pos h2]; rfl
      · refine go ?_
        refine w_cd rfl (fun h3 => ?_) (fun h3 => ?_)
        · refine go ?_
          refine w_ret hQ ?_
          unfold printV
          rw [if_neg hr', if_neg h1, if_neg h2, if_pos h3]; rfl
        · refine go ?_
          have h4 : v.k = 3 := by have := right_k hr; omega
          rw [right_n hr h4]
          refine w_cd rfl (fun h5 => ?_) (fun h5 => ?_)
          · refine go ?_
            refine w_ret hQ ?_
            unfold printV
            rw [if_neg hr', if_neg h1, if_neg h2, if_neg h3, if_pos h5]; rfl
          · refine go ?_
            refine w_ret hQ ?_
            unfold printV
            rw [if_neg hr', if_neg h1, if_neg h2, if_neg h3, if_neg h5]; rfl
theorem c_Compare (x y : Val) (G : Heap) : FnP Tryz.prog 81 [vV x, vV y] G (.int .i64 (compareV x y)) := fun w hs => calls_grow hs (e_compare x y w)
theorem takesB_name {d : Int} {v : Val} (h : rightV v = true) (hd : 0 ≤ d ∧ d ≤ 4) : takesB d v = (decide (v.k = 1) || decide (v.k = 2)) := by
  unfold takesB
  rw [if_neg (by rw [h]; simp), if_pos (by omega)]
theorem c_Takes (d : Int) (v : Val) (hv : v.Wf) (G : Heap) (g : Gl G) : FnP Tryz.prog 71 [.int .i64 d, vV v] G (.bool (takesB d v)) := by
  refine fnP_in Tryz.func71 rfl Tryz.ntmps71 rfl fun w0 Q0 hQ => ?_
  refine go ?_; intro B3
  refine go ?_
  refine w_stp (p_call rfl rfl rfl (c_Right v hv _ g)) ?_
  refine go ?_
  refine w_cond rfl (fun h0 => ?_) (fun h0 => ?_)
  · have hr : rightV v = false := by simpa using h0
    refine go ?_
    refine w_ret hQ ?_
    unfold takesB
    rw [if_pos hr]; rfl
  · have hr : rightV v = true := by simpa using h0
    by_cases hd : 0 ≤ d ∧ d ≤ 4
    · have hc : d = 0 ∨ d = 1 ∨ d = 2 ∨ d = 3 ∨ d = 4 := by omega
      rcases hc with rfl | rfl | rfl | rfl | rfl
      all_goals
        refine go ?_
        refine w_or (y := decide (v.k = 2)) 22 18 rfl (fun h => ?_) (fun h => ?_) ?_
        · refine go ?_; exact w_at
        · refine go ?_; exact w_at
        refine go ?_
        refine w_ret hQ ?_
        rw [takesB_name hr hd]; rfl
    · have e0 : decide (d = 0) = false := decide_eq_false (by omega)
      have e1 : decide (d = 1) = false := decide_eq_false (by omega)
      have e2 : decide (d = 2) = false := decide_eq_false (by omega)
      have e3 : decide (d = 3) = false := decide_eq_false (by omega)
      have e4 : decide (d = 4) = false := decide_eq_false (by omega)
      have hr' : ¬ rightV v = false := by rw [hr]; simp
      have hn : ¬ (d = 0 ∨ d = 1 ∨ d = 2 ∨ d = 3 ∨ d = 4) := by omega
      refine go ?_
      refine w_cd rfl (fun h5 => ?_) (fun h5 => ?_)
      · refine go ?_
        refine w_ret hQ ?_
        unfold takesB
        rw [if_neg hr', if_neg hn, if_pos h5]; rfl
      · refine go ?_
        refine w_and (y := decide (v.k = 3)) 34 30 rfl (fun h => ?_) (fun h => ?_) ?_
        · refine go ?_; exact w_at
        · refine go ?_; exact w_at
        refine go ?_
        refine w_ret hQ ?_
        unfold takesB
        rw [if_neg hr', if_neg hn, if_neg h5]; rfl
end Go.Proofs.YtngoaapgdfohjaaGreatDoor.T27

set_option linter.unusedVariables false
set_option linter.unusedSimpArgs false
set_option maxRecDepth 100000
set_option maxHeartbeats 4000000
namespace Go.Proofs.YtngoaapgdfohjaaGreatDoor.T27
open Go Go.Proofs.YtngoaapgdfohjaaGreatDoor.X Go.Proofs Go.Proofs.YtngoaapgdfohjaaGreatDoor.T28 Go.Proofs.YtngoaapgdfohjaaGreatDoor.TS Go.Proofs.YtngoaapgdfohjaaGreatDoor.TK
/-! ## Policies -/
abbrev vR (r : Rul) : Value := .agg #[.int .i64 r.way, .int .i64 r.size]
abbrev vP (p : Pol) : Value := .agg (polCells p).toArray
theorem c_ruled (d : Int) (r : Rul) (G : Heap) : FnP Tryz.prog 91 [.int .i64 d, vR r] G (.bool (ruledB d r)) := by
  refine fnP_in Tryz.func91 rfl Tryz.ntmps91 rfl fun w0 Q0 hQ => ?_
  refine go ?_; intro B3
  refine go ?_
  refine w_cd rfl (fun h1 => ?_) (fun h1 => ?_)
  · refine go ?_
    refine w_and (y := decide (r.size ≤ 16)) 16 12 rfl (fun h => ?_) (fun h => ?_) ?_
    · refine go ?_; exact w_at
    · refine go ?_; exact w_at
    refine go ?_
    refine w_ret hQ ?_
    unfold ruledB
    simp [h1, packed]
  · refine go ?_
    refine w_cond rfl (fun h2 => ?_) (fun h2 => ?_)
    · have h2' : r.way = 0 := by simpa using h2
      refine go ?_
      refine w_ret hQ ?_
      unfold ruledB
      simp [h2', packed]
    · have h2' : ¬ r.way = 0 := by simpa using h2
      refine go ?_
      refine w_cond rfl (fun h3 => ?_) (fun h3 => ?_)
      · have h3' : r.way = 1 := by simpa using h3
        refine go ?_
        refine w_ret hQ ?_
        unfold ruledB
        simp [h3', packed]
      · have h3' : ¬ r.way = 1 := by simpa using h3
        refine go ?_
        refine w_and (y := decide (d = 4)) 29 26 rfl (fun h => ?_) (fun h => ?_) ?_
        · refine go ?_; exact w_at
        · refine go ?_; exact w_at
        refine go ?_
        refine w_and (y := decide (r.size = 0)) 34 30 rfl (fun h => ?_) (fun h => ?_) ?_
        · refine go ?_; exact w_at
        · refine go ?_; exact w_at
        refine go ?_
        refine w_ret hQ ?_
        unfold ruledB
        simp [h1, h2', h3', packed, Bool.and_assoc]
def rul (p : Pol) (i : Nat) : Rul := match i with
  | 0 => p.r0
  | 1 => p.r1
  | 2 => p.r2
  | 3 => p.r3
  | _ => p.r4
def allR (p : Pol) (i : Nat) : Bool := (List.range i).all fun j => ruledB (j : Int) (rul p j)
theorem allR_step (p : Pol) (i : Nat) : allR p (i + 1) = (allR p i && ruledB (i : Int) (rul p i)) := by
  unfold allR
  rw [List.range_succ, List.all_append]
  simp
theorem allR_5 (p : Pol) : allR p 5 = (ruledB 0 p.r0 && (ruledB 1 p.r1 && (ruledB 2 p.r2 && (ruledB 3 p.r3 && ruledB 4 p.r4)))) := by
  simp only [allR_step]
  show ((((((allR p 0 && ruledB ((0 : Nat) : Int) p.r0) && ruledB ((1 : Nat) : Int) p.r1) && ruledB ((2 : Nat) : Int) p.r2) && ruledB ((3 : Nat) : Int) p.r3) && ruledB ((4 : Nat) : Int) p.r4)) = _
  have h0 : allR p 0 = true := rfl
  rw [h0, Bool.true_and, Bool.and_assoc, Bool.and_assoc, Bool.and_assoc]
  rfl
theorem allR_no {p : Pol} {i : Nat} (hi : i < 5) (h : ruledB (i : Int) (rul p i) = false) : rightB p = false := by
  have hc : i = 0 ∨ i = 1 ∨ i = 2 ∨ i = 3 ∨ i = 4 := by omega
  unfold rightB
  rcases hc with rfl | rfl | rfl | rfl | rfl
  · have h' : ruledB 0 p.r0 = false := h
    rw [h']; rfl
  · have h' : ruledB 1 p.r1 = false := h
    rw [h']; simp
  · have h' : ruledB 2 p.r2 = false := h
    rw [h']; simp
  · have h' : ruledB 3 p.r3 = false := h
    rw [h']; simp
  · have h' : ruledB 4 p.r4 = false := h
    rw [h']; simp
theorem allR_yes {p : Pol} (h : allR p 5 = true) : rightB p = ((decide (p.time = 0) || decide (p.time = 3)) && (decide (p.note = 0) || decide (p.note = 4))) := by
  rw [allR_5] at h
  simp only [Bool.and_eq_true] at h
  obtain ⟨h0, h1, h2, h3, h4⟩ := h
  unfold rightB
  rw [h0, h1, h2, h3, h4]
  simp
theorem c_RightP (p : Pol) (G : Heap) : FnP Tryz.prog 48 [vP p] G (.bool (rightB p)) := by
  refine fnP_in Tryz.func48 rfl Tryz.ntmps48 rfl fun w0 Q0 hQ => ?_
  refine go ?_; intro B1
  refine go ?_
  refine w_loop (fun i : Nat => [(7, .int .i64 (i : Int))]) (fun i => [[(B1, Arr 50 (polCells p))]]) (fun i _ => i ≤ 5 ∧ allR p i = true) (fun i => 5 - i) 0 ⟨by omega, rfl⟩ ?_
  rintro i G1 _ ⟨hi, ha⟩
  have hyes : ∀ b, b = true → b = ruledB (i : Int) (rul p i) → allR p (i + 1) = true := fun b h e => by rw [allR_step, ha, ← e, h]; rfl
  have hno : ∀ b, b = false → b = ruledB (i : Int) (rul p i) → i < 5 → rightB p = false := fun b h e hi => allR_no hi (by rw [← e, h])
  refine go ?_
  refine w_cd rfl (fun h3 => ?_) (fun h3 => ?_)
  · have hc : i = 0 ∨ i = 1 ∨ i = 2 ∨ i = 3 ∨ i = 4 := by omega
    rcases hc with rfl | rfl | rfl | rfl | rfl
    all_goals
      refine go ?_
      refine w_stp (p_ixVA rfl rfl rfl (by decide) rfl) ?_
      refine go ?_; intro B4
      refine go ?_
      refine w_stp (p_call rfl rfl rfl (c_ruled _ _ _)) ?_
      refine go ?_
      refine w_cond rfl (fun h4 => ?_) (fun h4 => ?_)
      · refine go ?_
        refine w_ret hQ ?_
        rw [Bool.not_eq_true'] at h4
        rw [hno _ h4 rfl (by decide)]; rfl
      · refine go ?_
        rw [Bool.not_eq_false'] at h4
        exact w_again (_ + 1) ⟨by omega, hyes _ h4 rfl⟩ (by decide)
  · have : i = 5 := by omega
    subst this
    refine go ?_
    refine w_or (y := decide (p.time = 3)) 23 19 rfl (fun h => ?_) (fun h => ?_) ?_
    · refine go ?_; exact w_at
    · refine go ?_; exact w_at
    refine go ?_
    refine w_and (y := decide (p.note = 0) || decide (p.note = 4)) 33 24 rfl (fun h => ?_) (fun h => ?_) ?_
    · refine go ?_
      refine w_or (y := decide (p.note = 4)) 32 28 rfl (fun h => ?_) (fun h => ?_) ?_
      · refine go ?_; exact w_at
      · refine go ?_; exact w_at
      refine go ?_; exact w_at
    · refine go ?_; exact w_at
    refine go ?_
    refine w_ret hQ ?_
    rw [allR_yes ha]; rfl
/-! ## Letters, rules, values each once -/
theorem c_Letter (d : Int) (hd : I64 d) (G : Heap) : FnP Tryz.prog 13 [.int .i64 d] G (str (letterS d)) := by
  refine fnP_in Tryz.func13 rfl Tryz.ntmps13 rfl fun w0 Q0 hQ => ?_
  unfold I64 at hd
  refine go ?_
  refine w_or (y := decide (4 < d)) 8 5 rfl (fun h => ?_) (fun h => ?_) ?_
  · refine go ?_; exact w_at
  · refine go ?_; exact w_at
  refine go ?_
  refine w_cond rfl (fun h1 => ?_) (fun h1 => ?_)
  · refine go ?_
    refine w_ret hQ ?_
    unfold letterS
    rw [if_pos h1]; rfl
  · have h1' : ¬ d < 0 ∧ ¬ 4 < d := by simpa using h1
    refine go ?_
    refine w_stp (p_sliceS (r := [99, 107, 118, 102, 111]) rfl rfl rfl rfl rfl ⟨by omega, by omega, by simp; omega⟩) ?_
    refine go ?_
    refine w_ret hQ ?_
    unfold letterS
    rw [if_neg (by rw [h1]; simp)]; rfl
theorem c_May (r : Rul) (d : Int) (hd : I64 d) (G : Heap) : FnP Tryz.prog 36 [vR r, .int .i64 d] G (.bool (mayB r d)) := by
  refine fnP_in Tryz.func36 rfl Tryz.ntmps36 rfl fun w0 Q0 hQ => ?_
  refine go ?_; intro B2
  refine go ?_
  refine w_stp (p_call rfl rfl rfl (c_Letter d hd _)) ?_
  refine go ?_
  refine w_cond rfl (fun h1 => ?_) (fun h1 => ?_)
  · refine go ?_
    refine w_ret hQ ?_
    unfold mayB
    rw [if_pos h1]; rfl
  · have hr : 0 ≤ d ∧ d ≤ 4 := by
      refine Classical.byContradiction fun hn => ?_
      rw [letter_out hn] at h1
      cases h1
    have e : mayB r d = rightB (setP d r) := by unfold mayB; rw [if_neg (by rw [h1]; simp)]
    have hcall : ∀ G', FnP Tryz.prog 48 [vP (setP d r)] G' (.bool (rightB (setP d r))) := fun G' => c_RightP _ G'
    have hc : d = 0 ∨ d = 1 ∨ d = 2 ∨ d = 3 ∨ d = 4 := by omega
    refine go ?_; intro B5
    rcases hc with rfl | rfl | rfl | rfl | rfl
    all_goals
      refine go ?_
      refine w_stp (p_call rfl rfl rfl (hcall _)) ?_
      refine go ?_
      refine w_ret hQ ?_
      rw [e]; rfl
end Go.Proofs.YtngoaapgdfohjaaGreatDoor.T27

set_option linter.unusedVariables false
set_option linter.unusedSimpArgs false
set_option maxRecDepth 100000
set_option maxHeartbeats 4000000
namespace Go.Proofs.YtngoaapgdfohjaaGreatDoor.T27
open Go Go.Proofs.YtngoaapgdfohjaaGreatDoor.X Go.Proofs Go.Proofs.YtngoaapgdfohjaaGreatDoor.T28 Go.Proofs.YtngoaapgdfohjaaGreatDoor.TS Go.Proofs.YtngoaapgdfohjaaGreatDoor.TK
/-! ## The values that a domain takes, each once -/
theorem getD_wf {xs : List Val} (h : ∀ v ∈ xs, v.Wf) {i : Nat} (hi : i < xs.length) : (xs.getD i ⟨0, 0, []⟩).Wf := h _ (vmem hi)
theorem c_Unlike (d : Int) (xs : List Val) (A : Option Addr) (c : Nat) (G : Heap) (g : Gl G) (hR : Rd kVal G A xs) (hl : xs.length ≤ 1000000) (hw : ∀ v ∈ xs, v.Wf) :
    FnR Tryz.prog 37 [.int .i64 d, .slice A xs.length c] G (fun r G' => ∃ A c, r = .slice A (unlikeL d xs).length c ∧ (unlikeL d xs).length ≤ c ∧ Rd kVal G' A (unlikeL d xs)) := by
  refine fn_in Tryz.func37 rfl Tryz.ntmps37 rfl fun w0 Q0 hQ => ?_
  refine go ?_; intro B
  refine go ?_
  refine w_nilO (K := kVal) 42 fun hO => ?_
  refine w_blkAs (q := MapF Tryz.prog 42 kvV vvI (posF [])) (.there (.here .here)) (by rw [posF_none]) ?_
  refine w_loop (α := Nat × Option Addr × Nat × Chunk) (fun x => [(5, .slice x.2.1 (unlikeL d (xs.take x.1)).length x.2.2.1), (14, .int .i64 (x.1 : Int))]) (fun x => [x.2.2.2, [(B, MapF Tryz.prog 42 kvV vvI (posF (unlikeL d (xs.take x.1))))]]) (fun x G => x.1 ≤ xs.length ∧ X.Own kVal 42 G x.2.1 x.2.2.1 (unlikeL d (xs.take x.1)) x.2.2.2) (fun x => xs.length - x.1) (0, none, 0, []) ⟨by omega, hO⟩ ?_
  rintro ⟨i, A5, c5, C5⟩ G1 _ ⟨hi, hO5⟩
  dsimp only at hi hO5 ⊢
  have hul := unlike_len d (xs.take i)
  have hil : (xs.take i).length = i := by rw [List.length_take]; omega
  refine go ?_
  refine w_cd rfl (fun h3 => ?_) (fun h3 => ?_)
  · have hi' : i < xs.length := by omega
    have hE := hR.val hi'
    have hvw := getD_wf hw hi'
    have hst := unlike_step (d := d) hi'
    refine go ?_; intro B8
    refine go ?_
    refine w_sp 24 rfl (fun h4 => ?_) (fun h4 => ?_)
    · have hm : xs.getD i ⟨0, 0, []⟩ ∈ unlikeL d (xs.take i) := by rw [posF_some] at h4; exact of_decide_eq_true h4
      have e : unlikeL d (xs.take (i + 1)) = unlikeL d (xs.take i) := by rw [hst]; unfold addU; rw [if_pos (.inl hm)]
      refine go ?_
      refine w_again (i + 1, A5, c5, C5) ⟨by omega, by rw [e]; exact hO5⟩ (by show xs.length - (i + 1) < xs.length - i; omega) ⟨.inl (by show some _ = some _; rw [e]), ?_⟩ (by dsimp only; rw [e]; exact .cons (.there .here) (.cons (.there .here) .nil))
      repeat (first | exact trivial | refine ⟨.inl rfl, ?_⟩ | refine ⟨.inr rfl, ?_⟩)
    · have hm : ¬ xs.getD i ⟨0, 0, []⟩ ∈ unlikeL d (xs.take i) := by rw [posF_some] at h4; exact of_decide_eq_false h4
      refine go ?_
      refine w_stp (p_on rfl rfl h4 (p_call rfl rfl rfl (c_Takes d (xs.getD i ⟨0, 0, []⟩) hvw _ g.up))) ?_
      refine go ?_
      refine w_cond rfl (fun h5 => ?_) (fun h5 => ?_)
      · have h5' : takesB d (xs.getD i ⟨0, 0, []⟩) = false := by simpa using h5
        have e : unlikeL d (xs.take (i + 1)) = unlikeL d (xs.take i) := by rw [hst]; unfold addU; rw [if_pos (.inr h5')]
        refine go ?_
        refine w_again (i + 1, A5, c5, C5) ⟨by omega, by rw [e]; exact hO5⟩ (by show xs.length - (i + 1) < xs.length - i; omega) ⟨.inl (by show some _ = some _; rw [e]), ?_⟩ (by dsimp only; rw [e]; exact .cons (.there .here) (.cons (.there .here) .nil))
        repeat (first | exact trivial | refine ⟨.inl rfl, ?_⟩ | refine ⟨.inr rfl, ?_⟩)
      · have h5' : takesB d (xs.getD i ⟨0, 0, []⟩) = true := by simpa using h5
        have e : unlikeL d (xs.take (i + 1)) = unlikeL d (xs.take i) ++ [xs.getD i ⟨0, 0, []⟩] := by rw [hst]; unfold addU; rw [if_neg (by simp only [not_or]; exact ⟨hm, by rw [h5']; simp⟩)]
        refine go ?_
        refine w_updV (c := xs.getD i ⟨0, 0, []⟩) (u := ((unlikeL d (xs.take i)).length : Int)) rfl rfl rfl (posF_add hm) (.there (.there (.here .here))) hvw ?_
        refine go ?_
        refine w_push (K := kVal) (xs.getD i ⟨0, 0, []⟩) rfl rfl rfl rfl (cs := (valCells (xs.getD i ⟨0, 0, []⟩)).toArray) (by kernel_rfl) rfl rfl (by simp) hO5 inferInstance (.there .here) rfl kone_val (by omega) fun b A6 c6 C6 G6 _ hO6 => ?_
        rw [← e] at hO6
        rw [← e]
        refine go ?_
        exact w_again (i + 1, A6, c6, C6) ⟨by omega, hO6⟩ (by show xs.length - (i + 1) < xs.length - i; omega)
  · have : i = xs.length := by omega
    subst this
    rw [List.take_length] at hO5 ⊢
    refine go ?_
    refine w_stillO hO5 inferInstance .here fun G3 _ hR3 hc => ?_
    refine w_ret hQ ?_
    exact ⟨_, _, rfl, hc, hR3⟩
/-! ## Lists copied and sorted -/
theorem c_Clone (xs : List Val) (A : Option Addr) (c : Nat) (G : Heap) (hR : Rd kVal G A xs) (hl : xs.length ≤ 1000000) :
    FnM Tryz.prog 120 [.slice A xs.length c] G [] (fun r G' Ms => ∃ A' c' C, r = .slice A' xs.length c' ∧ X.Own kVal 42 G' A' c' xs C ∧ Ms = [C]) := by
  refine fnM_in Tryz.func120 rfl Tryz.ntmps120 rfl fun w0 K0 Q0 hQ => ?_
  refine go ?_
  refine w_stp (p_eqNil rfl rfl rfl rfl) ?_
  refine go ?_
  refine w_cond rfl (fun h => ?_) (fun h => ?_)
  · have hx : xs = [] := by
      rcases hR with h1 | ⟨b, o, h1, _⟩
      · exact h1
      · rw [h1] at h; cases h
    subst hx
    refine go ?_
    refine w_nilO (K := kVal) 42 fun hO => ?_
    exact w_retM hQ (.cons .here .nil) ⟨none, 0, [], rfl, hO, rfl⟩
  · refine go ?_
    refine w_emptyO (K := kVal) rfl rfl fun A1 c1 C1 hO1 => ?_
    refine go ?_
    refine w_app (xs := ([] : List Val)) rfl rfl hO1 (.refl _) .here rfl hR inferInstance rfl kone_val (by simp; omega) fun A2 c2 C2 hO2 => ?_
    rw [List.nil_append] at hO2 ⊢
    refine go ?_
    exact w_retM hQ (.cons .here .nil) ⟨A2, c2, C2, rfl, hO2, rfl⟩
theorem c_SortF (xs : List Val) (A : Option Addr) (c : Nat) (C : Chunk) (G : Heap) (hO : X.Own kVal 42 G A c xs C) (hl : xs.length ≤ 1000000) :
    FnM Tryz.prog 121 [.slice A xs.length c, .func (.func 81) #[] #[]] G [C] (fun r G' Ms => r = .tuple #[] ∧ ∃ C', X.Own kVal 42 G' A c (sortV xs) C' ∧ Ms = [C']) := by
  intro W0 H0 L0 M0 w hS
  have h := c_sortf (M := M0) (by simpa using hS) hO (by omega)
  have e : [C].flatten = C := by simp
  rw [e]
  refine h.mono fun e w' he => ?_
  cases e with
  | returned v =>
    obtain ⟨G', C', ha, h1, h2⟩ := he
    exact ⟨G', C', ha, [C'], by simp, h1, C', h2, rfl⟩
  | panicked c => obtain ⟨_, _, _, hf⟩ := he; exact hf.elim
  | outgrown => exact he.elim
theorem c_Sort (xs : List Val) (A : Option Addr) (c : Nat) (G : Heap) (hR : Rd kVal G A xs) (hl : xs.length ≤ 1000000) :
    FnR Tryz.prog 78 [.slice A xs.length c] G (fun r G' => ∃ A' c', r = .slice A' (sortV xs).length c' ∧ (sortV xs).length ≤ c' ∧ Rd kVal G' A' (sortV xs)) := by
  refine fn_in Tryz.func78 rfl Tryz.ntmps78 rfl fun w0 Q0 hQ => ?_
  refine go ?_
  refine w_callM rfl rfl rfl (c_Clone xs A c _ hR hl) .nil fun r G1 Ms _ hr => ?_
  obtain ⟨A1, c1, C1, rfl, hO1, rfl⟩ := hr
  refine go ?_
  refine w_callM rfl rfl rfl (c_SortF xs A1 c1 C1 _ hO1 hl) (.cons .here .nil) fun r G2 Ms _ hr => ?_
  obtain ⟨rfl, C2, hO2, rfl⟩ := hr
  have hsl := sortV_len xs
  refine go ?_
  refine w_stillO hO2 inferInstance .here fun G3 _ hR3 hc => ?_
  refine w_ret hQ ?_
  exact ⟨A1, c1, by rw [hsl]; rfl, hc, hR3⟩
/-! ## The search in a sorted list -/
theorem c_Search (xs : List Val) (A : Option Addr) (c : Nat) (t : Val) (hso : SoV xs t) (G : Heap) (hR : Rd kVal G A xs) (hl : xs.length ≤ 1000000) :
    FnP Tryz.prog 80 [.slice A xs.length c, vV t, .func (.func 81) #[] #[]] G (.tuple #[.int .i64 (clV xs t), .bool (fndV xs t)]) := by
  refine fnP_in Tryz.func80 rfl Tryz.ntmps80 rfl fun w0 Q0 hQ => ?_
  refine go ?_; intro B4
  refine go ?_
  refine w_loop (fun p : Nat × Nat => [(9, .int .i64 (p.1 : Int)), (10, .int .i64 (p.2 : Int))]) (fun p => [[(B4, Arr 42 [.int .i64 t.k, .int .i64 t.n, str t.s])]]) (fun p _ => p.1 ≤ p.2 ∧ p.2 ≤ xs.length ∧ (∀ k, k < p.1 → compareV (xs.getD k ⟨0, 0, []⟩) t < 0) ∧ ∀ k, p.2 ≤ k → k < xs.length → ¬ compareV (xs.getD k ⟨0, 0, []⟩) t < 0) (fun p => p.2 - p.1) (0, xs.length) ⟨by omega, by omega, fun k hk => by omega, fun k hk hk2 => by omega⟩ ?_
  rintro ⟨i, j⟩ G1 _ ⟨hij, hj, hA, hB⟩
  dsimp only at hij hj hA hB ⊢
  refine go ?_
  refine w_cd rfl (fun h3 => ?_) (fun h3 => ?_)
  · have hm : (i + j) / 2 < xs.length := by omega
    have esh : shrI .u64 ((i : Int) + (j : Int)) 1 = (((i + j) / 2 : Nat) : Int) := by
      show ((i : Int) + (j : Int)) / 2 = _
      omega
    have hsr : 0 ≤ shrI .u64 ((i : Int) + (j : Int)) 1 ∧ shrI .u64 ((i : Int) + (j : Int)) 1 ≤ 1000000 := by rw [esh]; omega
    refine go ?_
    refine w_as 11 (.int .i64 (((i + j) / 2 : Nat) : Int)) rfl (by rw [esh]) ?_
    have hE := hR.val hm
    refine w_d (by kernel_rfl) ?_
    refine dg ?_
    refine .cons (p_call rfl rfl rfl (c_Compare (xs.getD ((i + j) / 2) ⟨0, 0, []⟩) t G1)) (dg ?_)
    refine w_cd rfl (fun h4 => ?_) (fun h4 => ?_)
    · refine go ?_
      refine w_as 9 (.int .i64 (((i + j) / 2 + 1 : Nat) : Int)) rfl (by congr 1) ?_
      refine w_again ((i + j) / 2 + 1, j) ⟨by dsimp only; omega, hj, fun k hk => ?_, hB⟩ (by dsimp only; omega)
      dsimp only at hk
      rcases Nat.lt_or_ge k ((i + j) / 2) with h | h
      · exact hso k _ h hm h4
      · obtain rfl : k = (i + j) / 2 := by omega
        exact h4
    · refine go ?_
      refine w_again (i, (i + j) / 2) ⟨by dsimp only; omega, by dsimp only; omega, hA, fun k hk hk2 hlt => ?_⟩ (by dsimp only; omega)
      dsimp only at hk
      rcases Nat.eq_or_lt_of_le hk with h | h
      · subst h; exact h4 hlt
      · exact h4 (hso _ k h hk2 hlt)
  · have hie : j = i := by omega
    subst hie
    have hcl := clV_at hj hA hB
    refine go ?_
    by_cases hlt : j < xs.length
    · have hE := hR.val hlt
      have hd : decide ((j : Int) < (xs.length : Int)) = true := decide_eq_true (by omega)
      refine w_forget [6, 7] ?_
      refine w_d (by kernel_rfl) ?_
      refine dg ?_
      refine .cons (p_on rfl rfl hd (p_call rfl rfl rfl (c_Compare (xs.getD j ⟨0, 0, []⟩) t G1))) (dg ?_)
      refine go ?_
      refine w_ret hQ ?_
      unfold fndV
      rw [hcl, hd]
      rfl
    · have hd : decide ((j : Int) < (xs.length : Int)) = false := decide_eq_false (by omega)
      refine w_forget [6, 7] ?_
      refine w_d (by kernel_rfl) ?_
      refine dg ?_
      refine go ?_
      refine w_ret hQ ?_
      unfold fndV
      rw [hcl, hd]
      rfl
end Go.Proofs.YtngoaapgdfohjaaGreatDoor.T27

set_option linter.unusedVariables false
set_option linter.unusedSimpArgs false
set_option maxRecDepth 100000
set_option maxHeartbeats 4000000
namespace Go.Proofs.YtngoaapgdfohjaaGreatDoor.T27
open Go Go.Proofs.YtngoaapgdfohjaaGreatDoor.X Go.Proofs Go.Proofs.YtngoaapgdfohjaaGreatDoor.T28 Go.Proofs.YtngoaapgdfohjaaGreatDoor.TS Go.Proofs.YtngoaapgdfohjaaGreatDoor.TK
/-! ## The ways of naming -/
theorem c_Word (s : Bs) (G : Heap) : FnP Tryz.prog 73 [str s] G (vV ⟨2, 0, s⟩) := by
  refine fnP_in Tryz.func73 rfl Tryz.ntmps73 rfl fun w0 Q0 hQ => ?_
  refine go ?_; intro B2
  refine go ?_
  refine w_stp (p_build (cs := #[.int .i64 2, .int .i64 0, str s]) rfl rfl (by kernel_rfl)) ?_
  refine go ?_
  exact w_ret hQ rfl
theorem c_nam1 (i : Nat) (b : Nat) (lt : Bs) (G : Heap) (g : Gl G) (hC : CellsAt G b 0 [str lt]) (hi : i ≤ 1000000) (hl : lt.length ≤ 1000) :
    FnP Tryz.prog 72 [.int .i64 (i : Int), .pointer (some ⟨b, 0, none⟩)] G (vV ⟨2, 0, lt ++ Lib.itoa ((i : Int) + 1)⟩) := by
  refine fnP_in Tryz.func72 rfl Tryz.ntmps72 rfl fun w0 Q0 hQ => ?_
  have hn : I64 ((i : Int) + 1) := by unfold I64; omega
  have hlen := Lib.itoa_length_le ((i : Int) + 1) hn.1 hn.2
  refine go ?_; intro B3
  refine go ?_
  refine w_dt 6 (by kernel_rfl) ?_
  refine dg ?_
  refine .cons (p_call rfl rfl rfl (c_Num ((i : Int) + 1) hn _ g)) (dg ?_)
  refine .cons (p_call rfl rfl rfl (c_Word (lt ++ Lib.itoa ((i : Int) + 1)) _)) (dg ?_)
  refine go ?_
  exact w_ret hQ rfl
theorem c_nam3 (i : Nat) (bs bl : Nat) (xs : List Val) (As : Option Addr) (cs : Nat) (A : Option Addr) (c : Nat) (G : Heap) (hC1 : CellsAt G bs 0 [.slice As (sortV xs).length cs]) (hC2 : CellsAt G bl 0 [.slice A xs.length c])
    (hR1 : Rd kVal G As (sortV xs)) (hR : Rd kVal G A xs) (hi : i < xs.length) (hl : xs.length ≤ 1000000) :
    FnP Tryz.prog 79 [.int .i64 (i : Int), .pointer (some ⟨bs, 0, none⟩), .pointer (some ⟨bl, 0, none⟩)] G (vV ⟨1, clV xs (xs.getD i ⟨0, 0, []⟩) + 1, []⟩) := by
  refine fnP_in Tryz.func79 rfl Tryz.ntmps79 rfl fun w0 Q0 hQ => ?_
  have hE := hR.val hi
  have hsl := sortV_len xs
  have hr := clV_rng xs (xs.getD i ⟨0, 0, []⟩)
  refine go ?_; intro B4
  refine go ?_
  refine w_d (by kernel_rfl) ?_
  refine dg ?_
  refine .cons (p_call rfl rfl rfl (c_Search (sortV xs) As cs (xs.getD i ⟨0, 0, []⟩) (so_sort xs _) _ hR1 (by omega))) (dg ?_)
  have e := clV_sort xs (xs.getD i ⟨0, 0, []⟩)
  rw [e]
  refine go ?_
  refine w_stp (p_build (cs := #[.int .i64 1, .int .i64 (clV xs (xs.getD i ⟨0, 0, []⟩) + 1), str []]) rfl rfl (by kernel_rfl)) ?_
  refine go ?_
  exact w_ret hQ rfl
/-- A function that names. -/
def NamOk (ky : List Int) (r : Rul) (d : Int) (l : List Val) (v : Value) (G : Heap) : Prop := ∃ nf caps, v = .func (.func nf) #[] (List.toArray caps) ∧ GoF Tryz.prog nf ∧ ∀ G2, Heap.le G G2 → ∀ i, i < l.length → FnP Tryz.prog nf (.int .i64 (i : Int) :: caps) G2 (vV (nameN ky r d l i))
theorem c_Naming (ky : List Int) (r : Rul) (d : Int) (hd : I64 d) (Ak : Option Addr) (kc : Nat) (l : List Val) (A : Option Addr) (c : Nat) (G : Heap) (g : Gl G) (hRk : Rd (Knd.int .u8) G Ak ky) (hkc : ky.length ≤ kc) (hkl : ky.length ≤ 1000000) (hR : Rd kVal G A l) (hl : l.length ≤ 1000000) (hw : ∀ v ∈ l, v.Wf) (hpr : ∀ v ∈ l, (printV v).length ≤ 10000000) :
    FnR Tryz.prog 38 [vR r, .int .i64 d, .slice Ak ky.length kc, .slice A l.length c] G (NamOk ky r d l) := by
  refine fn_in Tryz.func38 rfl Tryz.ntmps38 rfl fun w0 Q0 hQ => ?_
  have hll := letter_len d
  refine go ?_; intro B4
  refine go ?_; intro B6
  refine go ?_; intro B7
  refine go ?_
  refine w_stp (p_call rfl rfl rfl (c_Letter d hd _)) ?_
  refine go ?_; intro B9
  refine go ?_
  refine w_cd rfl (fun h1 => ?_) (fun h1 => ?_)
  · refine go ?_
    refine w_stillC (n := 1) B9 .here rfl fun G1 _ hC9 => ?_
    refine w_ret hQ ?_
    refine ⟨_, [.pointer (some ⟨B9, 0, none⟩)], rfl, inferInstance, fun G2 hle i hi => ?_⟩
    have e : nameN ky r d l i = ⟨2, 0, letterS d ++ Lib.itoa ((i : Int) + 1)⟩ := by unfold nameN; rw [if_pos h1]
    rw [e]
    have hL : LeT G1 G2 := ⟨hle⟩
    have hL2 : LeT G G2 := ⟨(Le1.le (B := G1)).trans hle⟩
    exact c_nam1 i B9 (letterS d) G2 (g.up (h := hL2)) (hC9.le hle) (by omega) (by omega)
  · refine go ?_
    refine w_cd rfl (fun h2 => ?_) (fun h2 => ?_)
    · refine go ?_
      refine w_stillC (n := 1) B9 .here rfl fun G1 _ hC9 => ?_
      refine w_stillC (n := 1) B7 .here rfl fun G3 _ hC7 => ?_
      refine w_stillC (n := 1) B6 .here rfl fun G4 _ hC6 => ?_
      refine w_still B4 .here fun G5 _ hC4 => ?_
      refine w_ret hQ ?_
      refine ⟨_, [.pointer (some ⟨B6, 0, none⟩), .pointer (some ⟨B9, 0, none⟩), .pointer (some ⟨B4, 0, none⟩), .pointer (some ⟨B7, 0, none⟩)], rfl, inferInstance, fun G2 hle i hi => ?_⟩
      have e : nameN ky r d l i = ⟨2, 0, letterS d ++ (TK.ofS ky (letterS d) r.size (printV (l.getD i ⟨0, 0, []⟩))).1⟩ := by unfold nameN; rw [if_neg h1, if_pos h2]
      rw [e]
      have hL : LeT G5 G2 := ⟨hle⟩
      have l5 : Heap.le G G5 := ((inferInstance : LeT G G5)).le
      have hL2 : LeT G G2 := ⟨l5.trans hle⟩
      have hg2 : Gl G2 := g.up (h := hL2)
      exact c_nam2 printV i B6 B9 B4 B7 ky Ak kc (letterS d) r l A c G2 (fun x hx G' hl' => by have hL3 : LeT G2 G' := ⟨hl'.le⟩; exact c_PrintV x (hw x hx) G' (hg2.up (h := hL3))) (fun s G => c_Word s G) hg2.ks (hC6.up.le hle) (hC9.up.le hle) (hC4.le hle) (hC7.up.le hle) (hRk.le hL2.le) hkc hkl (hR.le hL2.le) hi (by omega) hpr
    · refine go ?_
      refine w_call rfl rfl rfl (c_Sort l A c _ hR.up hl) fun r1 G1 _ hr1 => ?_
      obtain ⟨As, cs, rfl, hcs, hRs⟩ := hr1
      refine go ?_; intro B10
      refine go ?_
      refine w_stillC (n := 1) B10 .here rfl fun G2 _ hC10 => ?_
      refine w_stillC (n := 1) B7 (.there .here) rfl fun G3 _ hC7 => ?_
      refine w_ret hQ ?_
      refine ⟨_, [.pointer (some ⟨B10, 0, none⟩), .pointer (some ⟨B7, 0, none⟩)], rfl, inferInstance, fun G4 hle i hi => ?_⟩
      have e : nameN ky r d l i = ⟨1, clV l (l.getD i ⟨0, 0, []⟩) + 1, []⟩ := by unfold nameN; rw [if_neg h1, if_neg h2]
      rw [e]
      have l3 : Heap.le G G3 := ((inferInstance : LeT G G3)).le
      have hL2 : LeT G G4 := ⟨l3.trans hle⟩
      exact c_nam3 i B10 B7 l As cs A c G4 (hC10.up.le hle) (hC7.le hle) (hRs.up.le hle) (hR.le hL2.le) hi hl
end Go.Proofs.YtngoaapgdfohjaaGreatDoor.T27
