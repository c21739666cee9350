/- Own text. -/
import Derived.Test.YtngoaapgdfohjaaGreatDoorP27
import Derived.Test.YtngoaapgdfohjaaGreatDoorP25
import Derived.Test.YtngoaapgdfohjaaGreatDoorShelf
set_option linter.unusedVariables false
set_option linter.unusedSimpArgs false
set_option maxRecDepth 100000
set_option maxHeartbeats 4000000
namespace Go.Proofs.YtngoaapgdfohjaaGreatDoor.T27
open Go Go.Proofs.YtngoaapgdfohjaaGreatDoor.X Go.Proofs Go.Proofs.YtngoaapgdfohjaaGreatDoor.T28 Go.Proofs.YtngoaapgdfohjaaGreatDoor.TS Go.Proofs.YtngoaapgdfohjaaGreatDoor.TK
/-! ## What the listed variables hold -/
def yesV : Val := ⟨3, 1, []⟩
def noV : Val := ⟨3, 0, []⟩
structure Gl (G : Heap) : Prop where
  yes : CellsAt G 0 0 (valCells yesV)
  no : CellsAt G 4 0 (valCells noV)
  tab : TabG G 6 .u64 Lib.pow10Tab
  ks : CellsAt G 5 0 (TK.ks.map (Value.int .u32))
  dom : CellsAt G 1 0 (domW.map str)
  ways : CellsAt G 2 0 (wayW.map str)
  ml : ∃ m, CellsAt G 3 0 [.int .i64 m]
theorem Gl.up {A B : Heap} [h : LeT A B] (g : Gl A) : Gl B := ⟨g.yes.up, g.no.up, g.tab.le h.le, g.ks.up, g.dom.up, g.ways.up, let ⟨m, h⟩ := g.ml; ⟨m, h.up⟩⟩
theorem gPow : Tryz.prog.globalNamed "internal/strconv.uint64pow10" = some 6 := by kernel_rfl
/-! ## Numbers, words, values -/
theorem c_Fmt (n : Int) (hn : I64 n) (G : Heap) (g : Gl G) : FnP Tryz.prog 118 [.int .i64 n, .int .i64 10] G (str (Lib.itoa n)) := fun w hs => calls_grow hs (Tryz.strconv_FormatInt_10 n hn.1 hn.2 _ (TabG.is hs gPow g.tab))
theorem c_Num (n : Int) (hn : I64 n) (G : Heap) (g : Gl G) : FnP Tryz.prog 74 [.int .i64 n] G (str (Lib.itoa n)) := by
  refine fnP_in Tryz.func74 rfl Tryz.ntmps74 rfl fun w0 Q0 hQ => ?_
  refine go ?_
  refine w_stp (p_call rfl rfl rfl (c_Fmt n hn G g)) ?_
  refine go ?_
  exact w_ret hQ rfl
theorem c_IsWord (s : Bs) (hl : s.length ≤ 9223372036854775807) (G : Heap) : FnP Tryz.prog 153 [str s] G (.bool (isWordB s)) := by
  refine fnP_in Tryz.func153 rfl Tryz.ntmps153 rfl fun w0 Q0 hQ => ?_
  refine go ?_
  refine w_sp 6 rfl (fun h1 => ?_) (fun h1 => ?_)
  · refine go ?_
    refine w_ret hQ ?_
    rw [word_len (.inl (by simpa using h1))]; rfl
  · have h1' : ¬ s = [] := by simpa using h1
    have hp : 0 < s.length := List.length_pos_iff.2 h1'
    refine go ?_
    refine w_sp 10 rfl (fun h2 => ?_) (fun h2 => ?_)
    · refine go ?_
      refine w_ret hQ ?_
      rw [word_len (.inr (by simpa using h2))]; rfl
    · refine go ?_
      refine w_sp 15 rfl (fun h3 => ?_) (fun h3 => ?_)
      · refine go ?_
        refine w_ret hQ ?_
        rw [word_first (.inl (by simpa using h3))]; rfl
      · refine go ?_
        refine w_sp 20 rfl (fun h4 => ?_) (fun h4 => ?_)
        · refine go ?_
          refine w_ret hQ ?_
          rw [word_first (.inr (by simpa using h4))]; rfl
        · refine go ?_
          refine w_loop (fun i : Nat => [(24, .int .i64 (i : Int))]) (fun _ => []) (fun i _ => i ≤ s.length ∧ (s.take i).all wordC = true) (fun i => s.length - i) 0 ⟨by omega, rfl⟩ ?_
          rintro i G1 _ ⟨hi, ha⟩
          refine go ?_
          refine w_cd rfl (fun h5 => ?_) (fun h5 => ?_)
          · have hlt : i < s.length := by omega
            refine go ?_
            refine w_and (y := decide (bt s i ≤ 122)) 35 32 rfl (fun h => ?_) (fun h => ?_) ?_
            · refine go ?_; exact w_at
            · refine go ?_; exact w_at
            refine go ?_
            refine w_or (y := decide (48 ≤ bt s i) && decide (bt s i ≤ 57)) 43 36 rfl (fun h => ?_) (fun h => ?_) ?_
            · refine go ?_; exact w_at
            · refine go ?_
              refine w_and (y := decide (bt s i ≤ 57)) 42 39 rfl (fun h => ?_) (fun h => ?_) ?_
              · refine go ?_; exact w_at
              · refine go ?_; exact w_at
              refine go ?_; exact w_at
            refine go ?_
            refine w_or (y := decide (bt s i = 95)) 47 44 rfl (fun h => ?_) (fun h => ?_) ?_
            · refine go ?_; exact w_at
            · refine go ?_; exact w_at
            refine go ?_
            rw [letter_eq]
            refine w_cond rfl (fun h6 => ?_) (fun h6 => ?_)
            · refine go ?_
              refine w_ret hQ ?_
              rw [word_at hlt (by simpa using h6)]; rfl
            · refine go ?_
              refine w_again (i + 1) ⟨by omega, ?_⟩ (by omega)
              rw [all_snoc hlt, ha, wordC_bt hlt, Bool.true_and]; simpa using h6
          · refine go ?_
            refine w_ret hQ ?_
            rw [word_yes h1' (by simpa using h2) (by simpa using h3) (by simpa using h4) (by rwa [show i = s.length by omega, List.take_length] at ha)]; rfl
theorem eq_v0 {v : Val} (h : v.k = 0) : decide (v = V0) = (decide (v.n = 0) && v.s == []) := by
  obtain ⟨k, n, s⟩ := v
  have h' : k = 0 := h
  subst h'
  rw [Bool.eq_iff_iff]
  simp [V0]
theorem eq_yn (v : Val) : (decide (v = yesV) || decide (v = noV)) = (decide (v.k = 3) && ((decide (v.n = 0) || decide (v.n = 1)) && v.s == [])) := by
  obtain ⟨k, n, s⟩ := v
  rw [Bool.eq_iff_iff]
  simp only [yesV, noV, Val.mk.injEq, Bool.or_eq_true, Bool.and_eq_true, decide_eq_true_eq, beq_iff_eq]
  constructor
  · rintro (⟨a, b, c⟩ | ⟨a, b, c⟩)
    · exact ⟨a, .inr b, c⟩
    · exact ⟨a, .inl b, c⟩
  · rintro ⟨a, b | b, c⟩
    · exact .inr ⟨a, b, c⟩
    · exact .inl ⟨a, b, c⟩
theorem c_Right (v : Val) (hv : v.Wf) (G : Heap) (g : Gl G) : FnP Tryz.prog 117 [vV v] G (.bool (rightV v)) := by
  refine fnP_in Tryz.func117 rfl Tryz.ntmps117 rfl fun w0 Q0 hQ => ?_
  have gy := g.yes
  have gn := g.no
  refine go ?_; intro B1
  refine go ?_
  refine w_cd rfl (fun h0 => ?_) (fun h0 => ?_)
  · refine go ?_
    refine w_stp (p_build (cs := (valCells V0).toArray) rfl rfl (by kernel_rfl)) ?_
    refine go ?_
    refine w_ret hQ ?_
    show Value.bool _ = _
    unfold rightV
    rw [if_pos h0, eq_v0 h0]
  · refine go ?_
    refine w_cd rfl (fun h1 => ?_) (fun h1 => ?_)
    · refine go ?_
      refine w_ret hQ ?_
      show Value.bool _ = _
      unfold rightV
      rw [if_neg h0, if_pos h1]
    · refine go ?_
      refine w_cd rfl (fun h2 => ?_) (fun h2 => ?_)
      · refine go ?_
        refine w_and (y := isWordB v.s) 24 20 rfl (fun h => ?_) (fun h => ?_) ?_
        · refine go ?_
          refine w_stp (p_on rfl rfl h (p_call rfl rfl rfl (c_IsWord v.s hv.s _))) ?_
          refine go ?_; exact w_at
        · refine go ?_; exact w_at
        refine go ?_
        refine w_ret hQ ?_
        show Value.bool _ = _
        unfold rightV
        rw [if_neg h0, if_neg h1, if_pos h2]
      · refine go ?_
        refine w_or (y := decide (v = noV)) 32 28 rfl (fun h => ?_) (fun h => ?_) ?_
        · refine go ?_; exact w_at
        · refine go ?_; exact w_at
        refine go ?_
        refine w_ret hQ ?_
        show Value.bool _ = _
        unfold rightV
        rw [if_neg h0, if_neg h1, if_neg h2, eq_yn]
        split
        · rename_i h3; rw [decide_eq_true h3]; simp
        · rename_i h3; rw [decide_eq_false h3]; simp
theorem right_k {v : Val} (h : rightV v = true) : v.k = 0 ∨ v.k = 1 ∨ v.k = 2 ∨ v.k = 3 := by
  unfold rightV at h
  split at h
  · exact .inl ‹_›
  · split at h
    · exact .inr (.inl ‹_›)
    · split at h
      · exact .inr (.inr (.inl ‹_›))
      · split at h
        · exact .inr (.inr (.inr ‹_›))
        · cases h
theorem right_n {v : Val} (h : rightV v = true) (h3 : v.k = 3) : decide (v = yesV) = decide (v.n = 1) := by
  unfold rightV at h
  rw [if_neg (by omega), if_neg (by omega), if_neg (by omega), if_pos h3] at h
  obtain ⟨k, n, s⟩ := v
  simp only [Bool.and_eq_true, Bool.or_eq_true, decide_eq_true_eq, beq_iff_eq] at h h3
  obtain ⟨_, hs⟩ := h
  subst h3 hs
  rw [Bool.eq_iff_iff]
  simp [yesV]
theorem c_PrintV (v : Val) (hv : v.Wf) (G : Heap) (g : Gl G) : FnP Tryz.prog 77 [vV v] G (str (printV v)) := by
  refine fnP_in Tryz.func77 rfl Tryz.ntmps77 rfl fun w0 Q0 hQ => ?_
  have gy := g.yes
  refine go ?_; intro B1
  refine go ?_
  refine w_stp (p_call rfl rfl rfl (c_Right v hv _ g)) ?_
  refine go ?_
  refine w_cond rfl (fun h0 => ?_) (fun h0 => ?_)
  · have hr : rightV v = false := by simpa using h0
    refine go ?_
    refine w_ret hQ ?_
    unfold printV
    rw [if_pos hr]; rfl
  · have hr : rightV v = true := by simpa using h0
    have hr' : ¬ rightV v = false := by rw [hr]; simp
    refine go ?_
    refine w_cd rfl (fun h1 => ?_) (fun h1 => ?_)
    · refine go ?_
      refine w_ret hQ ?_
      unfold printV
      rw [if_neg hr', if_pos h1]; rfl
    · refine go ?_
      refine w_cd rfl (fun h2 => ?_) (fun h2 => ?_)
      · refine go ?_
        refine w_stp (p_call rfl rfl rfl (c_Num v.n hv.n _ g)) ?_
        refine go ?_
        refine w_ret hQ ?_
        unfold printV
        rw [if_neg hr', if_neg h1, if_pos h2]; rfl
      · refine go ?_
        refine w_cd rfl (fun h3 => ?_) (fun h3 => ?_)
        · refine go ?_
          refine w_ret hQ ?_
          unfold printV
          rw [if_neg hr', if_neg h1, if_neg h2, if_pos h3]; rfl
        · refine go ?_
          have h4 : v.k = 3 := by have := right_k hr; omega
          rw [right_n hr h4]
          refine w_cd rfl (fun h5 => ?_) (fun h5 => ?_)
          · refine go ?_
            refine w_ret hQ ?_
            unfold printV
            rw [if_neg hr', if_neg h1, if_neg h2, if_neg h3, if_pos h5]; rfl
          · refine go ?_
            refine w_ret hQ ?_
            unfold printV
            rw [if_neg hr', if_neg h1, if_neg h2, if_neg h3, if_neg h5]; rfl
end Go.Proofs.YtngoaapgdfohjaaGreatDoor.T27

set_option linter.unusedVariables false
set_option linter.unusedSimpArgs false
set_option maxRecDepth 100000
set_option maxHeartbeats 4000000
namespace Go.Proofs.YtngoaapgdfohjaaGreatDoor.T27
open Go Go.Proofs.YtngoaapgdfohjaaGreatDoor.X Go.Proofs Go.Proofs.YtngoaapgdfohjaaGreatDoor.T28 Go.Proofs.YtngoaapgdfohjaaGreatDoor.TS Go.Proofs.YtngoaapgdfohjaaGreatDoor.TK
/-! ## Policies -/
abbrev vR (r : Rul) : Value := .agg #[.int .i64 r.way, .int .i64 r.size]
abbrev vP (p : Pol) : Value := .agg (polCells p).toArray
theorem c_ruled (d : Int) (r : Rul) (G : Heap) : FnP Tryz.prog 91 [.int .i64 d, vR r] G (.bool (ruledB d r)) := by
  refine fnP_in Tryz.func91 rfl Tryz.ntmps91 rfl fun w0 Q0 hQ => ?_
  refine go ?_; intro B3
  refine go ?_
  refine w_cd rfl (fun h1 => ?_) (fun h1 => ?_)
  · refine go ?_
    refine w_and (y := decide (r.size ≤ 16)) 16 12 rfl (fun h => ?_) (fun h => ?_) ?_
    · refine go ?_; exact w_at
    · refine go ?_; exact w_at
    refine go ?_
    refine w_ret hQ ?_
    unfold ruledB
    simp [h1, packed]
  · refine go ?_
    refine w_cond rfl (fun h2 => ?_) (fun h2 => ?_)
    · have h2' : r.way = 0 := by simpa using h2
      refine go ?_
      refine w_ret hQ ?_
      unfold ruledB
      simp [h2', packed]
    · have h2' : ¬ r.way = 0 := by simpa using h2
      refine go ?_
      refine w_cond rfl (fun h3 => ?_) (fun h3 => ?_)
      · have h3' : r.way = 1 := by simpa using h3
        refine go ?_
        refine w_ret hQ ?_
        unfold ruledB
        simp [h3', packed]
      · have h3' : ¬ r.way = 1 := by simpa using h3
        refine go ?_
        refine w_and (y := decide (d = 4)) 29 26 rfl (fun h => ?_) (fun h => ?_) ?_
        · refine go ?_; exact w_at
        · refine go ?_; exact w_at
        refine go ?_
        refine w_and (y := decide (r.size = 0)) 34 30 rfl (fun h => ?_) (fun h => ?_) ?_
        · refine go ?_; exact w_at
        · refine go ?_; exact w_at
        refine go ?_
        refine w_ret hQ ?_
        unfold ruledB
        simp [h1, h2', h3', packed, Bool.and_assoc]
def rul (p : Pol) (i : Nat) : Rul := match i with
  | 0 => p.r0
  | 1 => p.r1
  | 2 => p.r2
  | 3 => p.r3
  | _ => p.r4
def allR (p : Pol) (i : Nat) : Bool := (List.range i).all fun j => ruledB (j : Int) (rul p j)
theorem allR_step (p : Pol) (i : Nat) : allR p (i + 1) = (allR p i && ruledB (i : Int) (rul p i)) := by
  unfold allR
  rw [List.range_succ, List.all_append]
  simp
theorem allR_5 (p : Pol) : allR p 5 = (ruledB 0 p.r0 && (ruledB 1 p.r1 && (ruledB 2 p.r2 && (ruledB 3 p.r3 && ruledB 4 p.r4)))) := by
  simp only [allR_step]
  show ((((((allR p 0 && ruledB ((0 : Nat) : Int) p.r0) && ruledB ((1 : Nat) : Int) p.r1) && ruledB ((2 : Nat) : Int) p.r2) && ruledB ((3 : Nat) : Int) p.r3) && ruledB ((4 : Nat) : Int) p.r4)) = _
  have h0 : allR p 0 = true := rfl
  rw [h0, Bool.true_and, Bool.and_assoc, Bool.and_assoc, Bool.and_assoc]
  rfl
theorem allR_no {p : Pol} {i : Nat} (hi : i < 5) (h : ruledB (i : Int) (rul p i) = false) : rightB p = false := by
  have hc : i = 0 ∨ i = 1 ∨ i = 2 ∨ i = 3 ∨ i = 4 := by omega
  unfold rightB
  rcases hc with rfl | rfl | rfl | rfl | rfl
  · have h' : ruledB 0 p.r0 = false := h
    rw [h']; rfl
  · have h' : ruledB 1 p.r1 = false := h
    rw [h']; simp
  · have h' : ruledB 2 p.r2 = false := h
    rw [h']; simp
  · have h' : ruledB 3 p.r3 = false := h
    rw [h']; simp
  · have h' : ruledB 4 p.r4 = false := h
    rw [h']; simp
theorem allR_yes {p : Pol} (h : allR p 5 = true) : rightB p = ((decide (p.time = 0) || decide (p.time = 3)) && (decide (p.note = 0) || decide (p.note = 4))) := by
  rw [allR_5] at h
  simp only [Bool.and_eq_true] at h
  obtain ⟨h0, h1, h2, h3, h4⟩ := h
  unfold rightB
  rw [h0, h1, h2, h3, h4]
  simp
theorem c_RightP (p : Pol) (G : Heap) : FnP Tryz.prog 48 [vP p] G (.bool (rightB p)) := by
  refine fnP_in Tryz.func48 rfl Tryz.ntmps48 rfl fun w0 Q0 hQ => ?_
  refine go ?_; intro B1
  refine go ?_
  refine w_loop (fun i : Nat => [(7, .int .i64 (i : Int))]) (fun i => [[(B1, Arr 50 (polCells p))]]) (fun i _ => i ≤ 5 ∧ allR p i = true) (fun i => 5 - i) 0 ⟨by omega, rfl⟩ ?_
  rintro i G1 _ ⟨hi, ha⟩
  have hyes : ∀ b, b = true → b = ruledB (i : Int) (rul p i) → allR p (i + 1) = true := fun b h e => by rw [allR_step, ha, ← e, h]; rfl
  have hno : ∀ b, b = false → b = ruledB (i : Int) (rul p i) → i < 5 → rightB p = false := fun b h e hi => allR_no hi (by rw [← e, h])
  refine go ?_
  refine w_cd rfl (fun h3 => ?_) (fun h3 => ?_)
  · have hc : i = 0 ∨ i = 1 ∨ i = 2 ∨ i = 3 ∨ i = 4 := by omega
    rcases hc with rfl | rfl | rfl | rfl | rfl
    all_goals
      refine go ?_
      refine w_stp (p_ixVA rfl rfl rfl (by decide) rfl) ?_
      refine go ?_; intro B4
      refine go ?_
      refine w_stp (p_call rfl rfl rfl (c_ruled _ _ _)) ?_
      refine go ?_
      refine w_cond rfl (fun h4 => ?_) (fun h4 => ?_)
      · refine go ?_
        refine w_ret hQ ?_
        rw [Bool.not_eq_true'] at h4
        rw [hno _ h4 rfl (by decide)]; rfl
      · refine go ?_
        rw [Bool.not_eq_false'] at h4
        exact w_again (_ + 1) ⟨by omega, hyes _ h4 rfl⟩ (by decide)
  · have : i = 5 := by omega
    subst this
    refine go ?_
    refine w_or (y := decide (p.time = 3)) 23 19 rfl (fun h => ?_) (fun h => ?_) ?_
    · refine go ?_; exact w_at
    · refine go ?_; exact w_at
    refine go ?_
    refine w_and (y := decide (p.note = 0) || decide (p.note = 4)) 33 24 rfl (fun h => ?_) (fun h => ?_) ?_
    · refine go ?_
      refine w_or (y := decide (p.note = 4)) 32 28 rfl (fun h => ?_) (fun h => ?_) ?_
      · refine go ?_; exact w_at
      · refine go ?_; exact w_at
      refine go ?_; exact w_at
    · refine go ?_; exact w_at
    refine go ?_
    refine w_ret hQ ?_
    rw [allR_yes ha]; rfl
/-! ## Letters, rules, values each once -/
theorem c_Letter (d : Int) (hd : I64 d) (G : Heap) : FnP Tryz.prog 13 [.int .i64 d] G (str (letterS d)) := by
  refine fnP_in Tryz.func13 rfl Tryz.ntmps13 rfl fun w0 Q0 hQ => ?_
  unfold I64 at hd
  refine go ?_
  refine w_or (y := decide (4 < d)) 8 5 rfl (fun h => ?_) (fun h => ?_) ?_
  · refine go ?_; exact w_at
  · refine go ?_; exact w_at
  refine go ?_
  refine w_cond rfl (fun h1 => ?_) (fun h1 => ?_)
  · refine go ?_
    refine w_ret hQ ?_
    unfold letterS
    rw [if_pos h1]; rfl
  · have h1' : ¬ d < 0 ∧ ¬ 4 < d := by simpa using h1
    refine go ?_
    refine w_stp (p_sliceS (r := [99, 107, 118, 102, 111]) rfl rfl rfl rfl rfl ⟨by omega, by omega, by simp; omega⟩) ?_
    refine go ?_
    refine w_ret hQ ?_
    unfold letterS
    rw [if_neg (by rw [h1]; simp)]; rfl
end Go.Proofs.YtngoaapgdfohjaaGreatDoor.T27
