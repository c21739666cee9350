/- Own text. -/
import Derived.Test.YtngoaapgdfohjaaGreatDoorV2
set_option linter.unusedVariables false
set_option linter.unusedSimpArgs false
set_option maxRecDepth 100000
namespace Go.Proofs.YtngoaapgdfohjaaGreatDoor.T27
open Go Go.Proofs.YtngoaapgdfohjaaGreatDoor.X Go.Proofs Go.Proofs.YtngoaapgdfohjaaGreatDoor.T28 Go.Proofs.YtngoaapgdfohjaaGreatDoor.TS Go.Proofs.YtngoaapgdfohjaaGreatDoor.TK
/-! ## The document's text of a right book, read again (plain) -/
def okW (x : Bs) : Bool := !(x == []) && x.all fun b => (!(b == 32) && !(b == 59)) && !(b == 10)
theorem okW_mem {x : Bs} (h : okW x = true) : x ≠ [] ∧ 32 ∉ x ∧ 59 ∉ x ∧ 10 ∉ x := by
  unfold okW at h
  simp only [Bool.and_eq_true, Bool.not_eq_true', beq_eq_false_iff_ne, ne_eq, List.all_eq_true] at h
  exact ⟨h.1, fun h2 => (h.2 _ h2).1.1 rfl, fun h2 => (h.2 _ h2).1.2 rfl, fun h2 => (h.2 _ h2).2 rfl⟩
theorem okW_itoa (n : Int) : okW (Lib.itoa n) = true := by
  have hd : ∀ k : Nat, okW (dd k) = true := by
    intro k
    have h1 := dd_digits k
    have h2 := digits_all h1
    have h3 := digits_pos h1
    unfold okW
    simp only [Bool.and_eq_true, Bool.not_eq_true', beq_eq_false_iff_ne, ne_eq, List.all_eq_true]
    refine ⟨fun e => by rw [e] at h3; simp at h3, fun b hb => ?_⟩
    have h4 := List.all_eq_true.1 h2 b hb
    simp only [digB, Bool.and_eq_true, decide_eq_true_eq] at h4
    refine ⟨⟨?_, ?_⟩, ?_⟩
    · rintro rfl; revert h4; decide
    · rintro rfl; revert h4; decide
    · rintro rfl; revert h4; decide
  by_cases h : 0 ≤ n
  · rw [itoa_nn h]; exact hd _
  · rw [itoa_ng (by omega)]
    have h1 := hd n.natAbs
    unfold okW at h1 ⊢
    simp only [Bool.and_eq_true] at h1
    simp [h1.2]
theorem okW_print {v : Val} (h : rightV v = true) : okW (printV v) = true := by
  unfold printV
  rw [if_neg (by simp [h])]
  split
  · decide
  split
  · exact okW_itoa _
  split
  · rename_i h0 h1 h2
    unfold rightV at h
    rw [if_neg h0, if_neg h1, if_pos h2] at h
    simp only [isWordB, Bool.and_eq_true, decide_eq_true_eq, List.all_eq_true] at h
    unfold okW
    simp only [Bool.and_eq_true, Bool.not_eq_true', beq_eq_false_iff_ne, ne_eq, List.all_eq_true]
    refine ⟨fun e => by rw [e] at h; have := h.2.1.1; simp at this, fun b hb => ?_⟩
    have h4 := h.2.2.2 b hb
    simp only [letterB, lowB, Bool.or_eq_true, Bool.and_eq_true, decide_eq_true_eq, Bool.not_false, Bool.true_and] at h4
    refine ⟨⟨?_, ?_⟩, ?_⟩
    · rintro rfl; revert h4; decide
    · rintro rfl; revert h4; decide
    · rintro rfl; revert h4; decide
  split
  · decide
  · decide
/-- Words joined: no semicolon, no newline. -/
theorem join_no {c : UInt8} (hc : c ≠ 32) : ∀ (l : List Bs), (∀ x ∈ l, c ∉ x) → c ∉ Lib.join l [32]
  | [], _ => by simp [Lib.join, List.intercalate, List.intersperse]
  | [x], h => by rw [Lib.join_one]; exact h x (by simp)
  | x :: y :: r, h => by
    rw [join_two]
    intro hm
    rcases List.mem_append.1 hm with hm | hm
    · rcases List.mem_append.1 hm with hm | hm
      · exact h x (by simp) hm
      · exact hc (List.mem_singleton.1 hm)
    · exact join_no hc (y :: r) (fun z hz => h z (by simp [List.mem_cons.1 hz])) hm
theorem oks {l : List Bs} (hl : l ≠ []) (h : ∀ x ∈ l, okW x = true) : wordsS (Lib.join l [32]) = (l, 0) ∧ 59 ∉ Lib.join l [32] ∧ 10 ∉ Lib.join l [32] :=
  ⟨words_of hl fun x hx => ⟨(okW_mem (h x hx)).2.1, (okW_mem (h x hx)).1⟩, join_no (by decide) l fun x hx => (okW_mem (h x hx)).2.2.1, join_no (by decide) l fun x hx => (okW_mem (h x hx)).2.2.2⟩
theorem letters {d : Int} (h : 0 ≤ d ∧ d ≤ 4) : okW (letterS d) = true ∧ (letterS d).length = 1 ∧ Lib.index lettersW (letterS d) = d := by
  have : d = 0 ∨ d = 1 ∨ d = 2 ∨ d = 3 ∨ d = 4 := by omega
  rcases this with rfl | rfl | rfl | rfl | rfl <;> decide
def entV (x : Ent) : List Bs := [nmW, letterS x.dom, printV x.name, printV x.real]
def momV (m : Mom) : List Bs := [tmW, Lib.itoa m.rank, Lib.itoa m.time]
def remV (r : Rem) : List Bs := [ntW, Lib.itoa r.event]
def entT (x : Ent) : Bs := Lib.join (entV x) [32]
def momT (m : Mom) : Bs := Lib.join (momV m) [32]
def remT (r : Rem) : Bs := Lib.join (remV r) [32] ++ [32, 59] ++ r.note
theorem entL_eq (x : Ent) : entL x = entT x ++ [10] := by
  simp [entL, entT, entV, Lib.join, List.intercalate, List.intersperse, nmW]
theorem momL_eq (m : Mom) : momL m = momT m ++ [10] := by
  simp [momL, momT, momV, Lib.join, List.intercalate, List.intersperse, tmW]
theorem remL_eq (r : Rem) : remL r = remT r ++ [10] := by
  simp [remL, remT, remV, Lib.join, List.intercalate, List.intersperse, ntW]
structure EntR (x : Ent) : Prop where
  d : 0 ≤ x.dom ∧ x.dom ≤ 4
  n : rightV x.name = true
  r : rightV x.real = true
  nw : I64 x.name.n
  rw' : I64 x.real.n
theorem EntR.ok {x : Ent} (h : EntR x) : ∀ y ∈ entV x, okW y = true := by
  intro y hy
  simp only [entV, List.mem_cons, List.not_mem_nil, or_false] at hy
  rcases hy with rfl | rfl | rfl | rfl
  · decide
  · exact (letters h.d).1
  · exact okW_print h.n
  · exact okW_print h.r
theorem momV_ok (m : Mom) : ∀ y ∈ momV m, okW y = true := by
  intro y hy
  simp only [momV, List.mem_cons, List.not_mem_nil, or_false] at hy
  rcases hy with rfl | rfl | rfl
  · decide
  · exact okW_itoa _
  · exact okW_itoa _
theorem remV_ok (r : Rem) : ∀ y ∈ remV r, okW y = true := by
  intro y hy
  simp only [remV, List.mem_cons, List.not_mem_nil, or_false] at hy
  rcases hy with rfl | rfl
  · decide
  · exact okW_itoa _
theorem no_at {s : Bs} {c : UInt8} (h : c ∉ s) : ∀ j (hj : j < s.length), ¬ s[j] = c := fun j hj e => h (e ▸ List.getElem_mem hj)
theorem rowS_ent {b : Book} {x : Ent} (h : EntR x) : rowS b (entT x) = some { b with es := b.es ++ [x] } := by
  obtain ⟨h1, h2, h3⟩ := oks (l := entV x) (by simp [entV]) h.ok
  have hn : noteS (entT x) = (entT x, [], false, 0) := note_none (Nat.le_refl _) (no_at h2)
  unfold rowS
  rw [hn]
  dsimp only
  rw [show wordsS (entT x) = (entV x, 0) from h1, if_pos ⟨rfl, rfl⟩]
  dsimp only
  unfold rowW
  obtain ⟨l1, l2, l3⟩ := letters h.d
  have e2 := parse_print h.nw h.n
  have e3 := parse_print h.rw' h.r
  have hok : entOkB (entV x) = true := by
    unfold entOkB entV
    simp only [List.getD_cons_succ, List.getD_cons_zero, l2, l3, e2, e3, List.length_cons, List.length_nil]
    rw [decide_eq_true h.d.1]
    rfl
  rw [if_pos (by show ((nmW == nmW) && !false) = true; decide), if_pos hok]
  have hx : entX (entV x) = x := by
    unfold entX entV
    simp only [List.getD_cons_succ, List.getD_cons_zero, l3, e2, e3]
  rw [hx]
theorem rowS_mom {b : Book} {m : Mom} (h : I64 m.rank ∧ I64 m.time) : rowS b (momT m) = some { b with ms := b.ms ++ [m] } := by
  obtain ⟨h1, h2, h3⟩ := oks (l := momV m) (by simp [momV]) (momV_ok m)
  have hn : noteS (momT m) = (momT m, [], false, 0) := note_none (Nat.le_refl _) (no_at h2)
  unfold rowS
  rw [hn]
  dsimp only
  rw [show wordsS (momT m) = (momV m, 0) from h1, if_pos ⟨rfl, rfl⟩]
  dsimp only
  unfold rowW
  have e1 := parse_itoa h.1
  have e2 := parse_itoa h.2
  rw [if_neg (by show ¬ ((tmW == nmW) && !false) = true; decide), if_pos (by show (((tmW == tmW) && decide (((3 : Nat) : Int) = 3)) && !false) = true; decide)]
  simp only [momV, momOkB, List.getD_cons_succ, List.getD_cons_zero, e1, e2, okv, erv]
  rfl
theorem rowS_rem {b : Book} {r : Rem} (h : 1 ≤ r.event ∧ r.event ≤ 4096) (hn : 10 ∉ r.note) (hl : r.note.length ≤ 100) : rowS b (remT r) = some { b with rs := b.rs ++ [r] } := by
  obtain ⟨h1, h2, h3⟩ := oks (l := remV r) (by simp [remV]) (remV_ok r)
  have hn : noteS (remT r) = (Lib.join (remV r) [32], r.note, true, 0) := note_behind (no_at h2) (no_at hn) hl
  unfold rowS
  rw [hn]
  dsimp only
  rw [h1, if_pos ⟨rfl, rfl⟩]
  dsimp only
  unfold rowW
  have e1 : countS (Lib.itoa r.event) 2147483647 = .ok r.event := by
    have hd : digitsB (Lib.itoa r.event) = true := by rw [itoa_nn (by omega)]; exact dd_digits _
    rw [count_digits hd, parse_itoa (by omega)]
    exact if_neg (by show ¬ (¬ (0 : Int) = 0 ∨ 2147483647 < r.event); omega)
  rw [if_neg (by show ¬ ((ntW == nmW) && !true) = true; decide), if_neg (by show ¬ (((ntW == tmW) && decide (((2 : Nat) : Int) = 3)) && !true) = true; decide), if_pos (by show (((ntW == ntW) && decide (((2 : Nat) : Int) = 2)) && true) = true; decide)]
  simp only [remV, remOkB, List.getD_cons_succ, List.getD_cons_zero, e1, okv, erv]
  rfl
theorem rowsS_app {xs ys : List Bs} : ∀ {b b' : Book}, rowsS b xs = some b' → rowsS b (xs ++ ys) = rowsS b' ys := by
  induction xs with
  | nil => intro b b' h; cases h; rfl
  | cons x xs ih =>
    intro b b' h
    rw [List.cons_append, rowsS]
    rw [rowsS] at h
    cases hr : rowS b x with
    | none => rw [hr] at h; cases h
    | some c => rw [hr] at h; exact ih h
theorem rowsS_es : ∀ (l : List Ent) (b : Book), (∀ x ∈ l, EntR x) → rowsS b (l.map entT) = some { b with es := b.es ++ l }
  | [], b, _ => by simp [rowsS]
  | x :: l, b, h => by
    rw [List.map_cons, rowsS, rowS_ent (h x List.mem_cons_self)]
    dsimp only
    rw [rowsS_es l _ fun y hy => h y (List.mem_cons_of_mem _ hy)]
    simp
theorem rowsS_ms : ∀ (l : List Mom) (b : Book), (∀ x ∈ l, I64 x.rank ∧ I64 x.time) → rowsS b (l.map momT) = some { b with ms := b.ms ++ l }
  | [], b, _ => by simp [rowsS]
  | x :: l, b, h => by
    rw [List.map_cons, rowsS, rowS_mom (h x List.mem_cons_self)]
    dsimp only
    rw [rowsS_ms l _ fun y hy => h y (List.mem_cons_of_mem _ hy)]
    simp
theorem rowsS_rs : ∀ (l : List Rem) (b : Book), (∀ x ∈ l, (1 ≤ x.event ∧ x.event ≤ 4096) ∧ 10 ∉ x.note ∧ x.note.length ≤ 100) → rowsS b (l.map remT) = some { b with rs := b.rs ++ l }
  | [], b, _ => by simp [rowsS]
  | x :: l, b, h => by
    have hx := h x List.mem_cons_self
    rw [List.map_cons, rowsS, rowS_rem hx.1 hx.2.1 hx.2.2]
    dsimp only
    rw [rowsS_rs l _ fun y hy => h y (List.mem_cons_of_mem _ hy)]
    simp
end Go.Proofs.YtngoaapgdfohjaaGreatDoor.T27
