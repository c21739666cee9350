/- Events read. -/
import Derived.Test.YtiinipcmghhacaaGreatDoorZD4
set_option linter.unusedVariables false
set_option linter.unusedSimpArgs false
namespace Go.Proofs.YtiinipcmghhacaaGreatDoor.T10
open Go Go.Proofs.YtiinipcmghhacaaGreatDoor.X
instance : UN Tryz.prog 24 (.slice 23) := ⟨Tryz.underlying24⟩
theorem T.f26_8 : fieldOff Tryz.prog 26 8 = some 12 := by kernel_rfl
instance : FO Tryz.prog 26 8 12 := ⟨T.f26_8⟩
theorem T.f26_9 : fieldOff Tryz.prog 26 9 = some 13 := by kernel_rfl
instance : FO Tryz.prog 26 9 13 := ⟨T.f26_9⟩
theorem T.g54 : goFn Tryz.prog 54 = true := by kernel_rfl
theorem T.s4 : scal Tryz.prog 4 = true := by kernel_rfl
instance : SC Tryz.prog 4 := ⟨T.s4⟩

theorem parseE_err' {s : Bs} {e : Int} (h1 : (noteS s).2.2.2 = 0) (h2 : (wordsS (noteS s).1).2 = 0) (h : (allS (wordsS (noteS s).1).1).2.2 = e) (he : ¬ e = 0) : parseE s = (E0, e) := parseE_err h1 h2 h he
theorem parseE_yes' {s : Bs} {x : Evt} (h1 : (noteS s).2.2.2 = 0) (h2 : (wordsS (noteS s).1).2 = 0) (h : (allS (wordsS (noteS s).1).1).2.2 = 0) (hx : (allS (wordsS (noteS s).1).1).1 = x) : parseE s = ({ x with noted := (noteS s).2.2.1, note := (noteS s).2.1 }, 0) := parseE_yes h1 h2 h hx
theorem getD_at {l : List Bs} {i : Nat} (h : i < l.length) : l[i]? = some (l.getD i []) := by
  rw [List.getD_eq_getElem?_getD, List.getElem?_eq_getElem h]; rfl
theorem getD_mem {l : List Bs} {i : Nat} (h : i < l.length) : l.getD i [] ∈ l := List.mem_of_getElem? (getD_at h)
theorem getD_int {l : List Int} {i : Nat} (h : i < l.length) : l[i] = l.getD i 0 := by
  rw [List.getD_eq_getElem?_getD, List.getElem?_eq_getElem h]; rfl
theorem same_val (a b : Val) : (decide (a.k = b.k) && (decide (a.n = b.n) && (a.s == b.s && true))) = decide (a = b) := by
  rw [Bool.eq_iff_iff]
  simp only [Bool.and_eq_true, decide_eq_true_eq, beq_iff_eq, and_true]
  obtain ⟨k, n, s⟩ := a
  obtain ⟨k', n', s'⟩ := b
  simp [Val.mk.injEq]

theorem val_eq {a b : Val} (h : (decide (a.k = b.k) && (decide (a.n = b.n) && (a.s == b.s && true))) = true) : a = b := by
  obtain ⟨k, n, s⟩ := a
  obtain ⟨k', n', s'⟩ := b
  simp at h
  obtain ⟨rfl, rfl, rfl⟩ := h
  rfl
theorem val_ne {a b : Val} (h : (decide (a.k = b.k) && (decide (a.n = b.n) && (a.s == b.s && true))) = false) : ¬ a = b := by
  rintro rfl
  simp at h
theorem take_snoc_eq7 {α : Type} {a b : List α} {i : Nat} (h : a.take i = b.take i) (ha : i < a.length) (hb : i < b.length) (e : a[i] = b[i]) : a.take (i + 1) = b.take (i + 1) := by
  rw [List.take_add_one, List.take_add_one, h, List.getElem?_eq_getElem ha, List.getElem?_eq_getElem hb, e]
theorem argsL_len : ∀ (ds : List Int) (l : List Bs) (e : Int), (argsL ds l e).1.length = ds.length
  | [], _, _ => rfl
  | d :: r, l, e => by
    show ((valueS d l e).1 :: _).length = _
    rw [List.length_cons, argsL_len r]; rfl
theorem outL_len : ∀ (l : List Bs) (e : Int), (outL l e).1.length ≤ l.length
  | [], _ => Nat.le_refl _
  | x :: r, e => by
    unfold outL
    split
    · have := outL_len r (parseV x).2
      simpa using this
    · exact Nat.zero_le _
theorem nextS_len (l : List Bs) (e : Int) : (nextS l e).2.1.length ≤ l.length := by
  unfold nextS
  by_cases hc : (if l = [] then faultS e 2 else e) = 0
  · rw [if_pos hc]; show (l.drop 1).length ≤ _; simp
  · rw [if_neg hc]; exact Nat.le_refl _
theorem allS_len (l : List Bs) : (allS l).1.args.length ≤ 2 ∧ (allS l).1.out.length ≤ l.length := by
  unfold allS
  dsimp only
  split
  · refine ⟨?_, Nat.zero_le _⟩
    show (invS _ _).2.2.2.1.length ≤ 2
    unfold invS; dsimp only
    rw [argsL_len]
    exact args_len _ _
  · split
    · refine ⟨Nat.zero_le _, ?_⟩
      show (outL _ _).1.length ≤ _
      refine Nat.le_trans (outL_len _ _) ?_
      show (nextS _ _).2.1.length ≤ _
      refine Nat.le_trans (nextS_len _ _) ?_
      rw [value_left]
      exact Nat.le_trans (nextS_len _ _) (nextS_len _ _)
    · exact ⟨Nat.zero_le _, Nat.zero_le _⟩
theorem parseE_len (s : Bs) : (parseE s).1.args.length ≤ 2 ∧ (parseE s).1.out.length ≤ s.length + 1 := by
  have h := allS_len (wordsS (noteS s).1).1
  have h1 := wordsS_len (noteS s).1
  have h2 := note_len s
  unfold parseE
  split
  · exact ⟨Nat.zero_le _, Nat.zero_le _⟩
  split
  · exact ⟨Nat.zero_le _, Nat.zero_le _⟩
  split
  · exact ⟨Nat.zero_le _, Nat.zero_le _⟩
  · exact ⟨h.1, by show (allS _).1.out.length ≤ _; omega⟩
theorem parse_args {s : Bs} (h : s.length ≤ 9223372036854775806) : (parseE s).1.args.length ≤ 9223372036854775807 := by have := parseE_len s; omega
theorem parse_out {s : Bs} (h : s.length ≤ 9223372036854775806) : (parseE s).1.out.length ≤ 9223372036854775807 := by have := parseE_len s; omega
theorem note_behind {s nt : Bs} (h1 : ∀ j (hj : j < s.length), ¬ s[j] = 59) (h2 : ∀ j (hj : j < nt.length), ¬ nt[j] = 10) (h3 : nt.length ≤ 100) : noteS (s ++ [32, 59] ++ nt) = (s, nt, true, 0) := by
  have e : s ++ [32, 59] ++ nt = s ++ 32 :: 59 :: nt := by simp
  rw [e]
  have hlen : (s ++ 32 :: 59 :: nt).length = s.length + 2 + nt.length := by simp; omega
  have at0 : (s ++ 32 :: 59 :: nt)[s.length + 1]'(by omega) = 59 := by
    rw [List.getElem_append_right (by omega)]; simp
  rw [note_at (i := s.length + 1) (by omega) at0]
  · have e1 : (((s.length + 1 : Nat) : Int) + 1).toNat = s.length + 2 := by omega
    have e2 : (((s.length + 1 : Nat) : Int) - 1).toNat = s.length := by omega
    have e3 : (s ++ 32 :: 59 :: nt).drop (s.length + 2) = nt := by
      rw [List.drop_append]
      simp
    have e4 : (s ++ 32 :: 59 :: nt).take s.length = s := by simp
    have e5 : bt (s ++ 32 :: 59 :: nt) (((s.length + 1 : Nat) : Int) - 1) = 32 := by
      rw [show ((s.length + 1 : Nat) : Int) - 1 = ((s.length : Nat) : Int) by omega, bt_nat (by omega), List.getElem_append_right (by omega)]
      simp
    rw [e1, e2, e3, e4, e5, if_neg]
    have e6 : Lib.indexByte nt 10 = -1 := idx_none h2
    rw [e6]
    rintro ((h | h) | h | h)
    · omega
    · exact h rfl
    · omega
    · omega
  · intro j hj
    by_cases hjs : j < s.length
    · rw [List.getElem_append_left hjs]; exact h1 j hjs
    · obtain rfl : j = s.length := by omega
      rw [List.getElem_append_right (by omega)]
      simp
theorem notes_law {s nt : Bs} (h1 : ∀ j (hj : j < s.length), ¬ s[j] = 59) (h2 : ∀ j (hj : j < nt.length), ¬ nt[j] = 10) (h3 : nt.length ≤ 100) :
    (parseE (s ++ [32, 59] ++ nt)).2 = (parseE s).2 ∧ ((parseE s).2 = 0 → ({ (parseE s).1 with noted := false, note := [] } : Evt) = { (parseE (s ++ [32, 59] ++ nt)).1 with noted := false, note := [] }) := by
  have e1 := note_behind h1 h2 h3
  have e2 : noteS s = (s, [], false, 0) := note_none (i := s.length) (Nat.le_refl _) h1
  unfold parseE
  rw [e1, e2]
  dsimp only
  simp only [not_true, if_false]
  split
  · exact ⟨rfl, fun h => rfl⟩
  · split
    · exact ⟨rfl, fun h => rfl⟩
    · exact ⟨rfl, fun h => rfl⟩
end Go.Proofs.YtiinipcmghhacaaGreatDoor.T10
