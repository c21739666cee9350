/- Own text. -/
import Derived.Test.YtngoaapgdfohjaaGreatDoorP27
set_option linter.unusedVariables false
set_option linter.unusedSimpArgs false
namespace Go.Proofs.YtngoaapgdfohjaaGreatDoor.T27
open Go Go.Proofs.YtngoaapgdfohjaaGreatDoor.X Go.Proofs Go.Proofs.YtngoaapgdfohjaaGreatDoor.T28 Go.Proofs.YtngoaapgdfohjaaGreatDoor.TS
/-! ## Books: plain laws -/
structure Book where
  pol : Pol
  es : List Ent
  ms : List Mom
  rs : List Rem deriving DecidableEq
def MOM0 : Mom := ⟨0, 0⟩
def REM0 : Rem := ⟨0, []⟩
def plainB (s : Bs) : Bool := !decide (0 ≤ Lib.indexByte s 10) && decide ((s.length : Int) ≤ 100)
def wayP (p : Pol) (d : Int) : Int := if d = 0 then p.r0.way else if d = 1 then p.r1.way else if d = 2 then p.r2.way else if d = 3 then p.r3.way else p.r4.way
/-! Books that are right. -/
def ENTd (b : Book) (i : Nat) : Ent := b.es.getD i ENT0
def headB (b : Book) (x : Ent) : Bool := (((decide (x.dom < 0) || decide (4 < x.dom)) || decide (wayP b.pol x.dom = 0)) || !nameB x.name) || !nameB x.real
def pairB (y x : Ent) : Bool := decide (x.dom < y.dom) || (decide (y.dom = x.dom) && (decide (y.name = x.name) || decide (y.real = x.real)))
def entOk (b : Book) (i : Nat) : Bool := !headB b (ENTd b i) && (List.range i).all fun k => !pairB (ENTd b k) (ENTd b i)
def enteredB (b : Book) : Bool := (List.range b.es.length).all (entOk b)
def momOk (b : Book) (i : Nat) : Bool := !((!decide ((b.ms.getD i MOM0).rank = ((i : Nat) : Int) + 1) || decide ((b.ms.getD i MOM0).time < 0)) || (decide (0 < ((i : Nat) : Int)) && decide ((b.ms.getD i MOM0).time ≤ (b.ms.getD (((i : Nat) : Int) - 1).toNat MOM0).time)))
def remOk (b : Book) (i : Nat) : Bool := !(((decide ((b.rs.getD i REM0).event < 1) || decide (4096 < (b.rs.getD i REM0).event)) || (decide (0 < ((i : Nat) : Int)) && decide ((b.rs.getD i REM0).event ≤ (b.rs.getD (((i : Nat) : Int) - 1).toNat REM0).event))) || !plainB (b.rs.getD i REM0).note)
def momsB (b : Book) : Bool := (decide (b.ms.length = 0) || decide (b.pol.time = 3)) && (List.range b.ms.length).all (momOk b)
def remsB (b : Book) : Bool := (decide (b.rs.length = 0) || decide (b.pol.note = 4)) && (List.range b.rs.length).all (remOk b)
def bookB (b : Book) : Bool := rightB b.pol && enteredB b && momsB b && remsB b
theorem rall_no {n i : Nat} {f : Nat → Bool} (hi : i < n) (h : f i = false) : (List.range n).all f = false := by
  cases e : (List.range n).all f with
  | false => rfl
  | true => rw [List.all_eq_true.1 e i (List.mem_range.2 hi)] at h; cases h
theorem rall_yes {n : Nat} {f : Nat → Bool} (h : ∀ i, i < n → f i = true) : (List.range n).all f = true := List.all_eq_true.2 fun i hi => h i (List.mem_range.1 hi)
theorem book_r {b : Book} (h : rightB b.pol = false) : bookB b = false := by unfold bookB; rw [h]; rfl
theorem book_e {b : Book} (h : enteredB b = false) : bookB b = false := by unfold bookB; rw [h, Bool.and_false]; rfl
theorem book_m {b : Book} (h : momsB b = false) : bookB b = false := by unfold bookB; rw [h, Bool.and_false]; rfl
theorem book_n {b : Book} (h : remsB b = false) : bookB b = false := by unfold bookB; rw [h, Bool.and_false]
theorem book_yes {b : Book} (h1 : rightB b.pol = true) (h2 : enteredB b = true) (h3 : momsB b = true) (h4 : remsB b = true) : bookB b = true := by unfold bookB; rw [h1, h2, h3, h4]; rfl
theorem moms_time {b : Book} (h1 : 0 < b.ms.length) (h2 : ¬ b.pol.time = 3) : momsB b = false := by unfold momsB; rw [decide_eq_false (by omega), decide_eq_false h2]; rfl
theorem rems_note {b : Book} (h1 : 0 < b.rs.length) (h2 : ¬ b.pol.note = 4) : remsB b = false := by unfold remsB; rw [decide_eq_false (by omega), decide_eq_false h2]; rfl
theorem moms_bad {b : Book} {i : Nat} (hi : i < b.ms.length) (h : momOk b i = false) : momsB b = false := by unfold momsB; rw [rall_no hi h, Bool.and_false]
theorem rems_bad {b : Book} {i : Nat} (hi : i < b.rs.length) (h : remOk b i = false) : remsB b = false := by unfold remsB; rw [rall_no hi h, Bool.and_false]
theorem moms_yes {b : Book} (h1 : b.ms.length = 0 ∨ b.pol.time = 3) (h : ∀ i, i < b.ms.length → momOk b i = true) : momsB b = true := by
  unfold momsB
  rw [rall_yes h, Bool.and_true, Bool.or_eq_true, decide_eq_true_eq, decide_eq_true_eq]
  exact h1
theorem rems_yes {b : Book} (h1 : b.rs.length = 0 ∨ b.pol.note = 4) (h : ∀ i, i < b.rs.length → remOk b i = true) : remsB b = true := by
  unfold remsB
  rw [rall_yes h, Bool.and_true, Bool.or_eq_true, decide_eq_true_eq, decide_eq_true_eq]
  exact h1
theorem ent_bad {b : Book} {i : Nat} (hi : i < b.es.length) (h : entOk b i = false) : enteredB b = false := rall_no hi h
theorem ent_head {b : Book} {i : Nat} (h : headB b (ENTd b i) = true) : entOk b i = false := by unfold entOk; rw [h]; rfl
theorem ent_pair {b : Book} {i k : Nat} (hk : k < i) (h : pairB (ENTd b k) (ENTd b i) = true) : entOk b i = false := by
  unfold entOk
  rw [rall_no hk (by rw [h]; rfl), Bool.and_false]
theorem ent_yes {b : Book} {i : Nat} (h : headB b (ENTd b i) = false) (h2 : ∀ k, k < i → pairB (ENTd b k) (ENTd b i) = false) : entOk b i = true := by
  unfold entOk
  rw [h, rall_yes fun k hk => by rw [h2 k hk]; rfl]
  rfl
/-! The program's way: maps, and the domain before. -/
def posM (k : Nat → DVal) : Nat → DVal → Option Int
  | 0 => fun _ => none
  | n + 1 => upd (posM k n) (k n) (some (((n : Nat) : Int) + 1))
theorem posM_get (k : Nat → DVal) (y : DVal) : ∀ n, 0 ≤ (posM k n y).getD 0 ∧ (posM k n y).getD 0 ≤ ((n : Nat) : Int) ∧ (0 < (posM k n y).getD 0 ↔ ∃ j, j < n ∧ k j = y)
  | 0 => ⟨Int.le_refl _, Int.le_refl _, fun h => absurd (show (0 : Int) < 0 from h) (by decide), fun ⟨j, hj, _⟩ => absurd hj (Nat.not_lt_zero _)⟩
  | n + 1 => by
    obtain ⟨h1, h2, h3⟩ := posM_get k y n
    show 0 ≤ (upd (posM k n) (k n) (some (((n : Nat) : Int) + 1)) y).getD 0 ∧ (upd (posM k n) (k n) (some (((n : Nat) : Int) + 1)) y).getD 0 ≤ _ ∧ (0 < (upd (posM k n) (k n) (some (((n : Nat) : Int) + 1)) y).getD 0 ↔ _)
    by_cases e : y = k n
    · rw [e, upd_same]
      refine ⟨by simp only [Option.getD_some]; omega, by simp only [Option.getD_some]; omega, fun _ => ⟨n, by omega, rfl⟩, fun _ => by simp only [Option.getD_some]; omega⟩
    · rw [upd_other e]
      refine ⟨h1, by omega, fun h => ?_, fun ⟨j, hj, hk⟩ => ?_⟩
      · obtain ⟨j, hj, hk⟩ := h3.1 h
        exact ⟨j, by omega, hk⟩
      · refine h3.2 ⟨j, ?_, hk⟩
        rcases Nat.lt_or_ge j n with h | h
        · exact h
        · obtain rfl : j = n := by omega
          exact absurd hk.symm e
def kN (b : Book) (j : Nat) : DVal := ⟨(b.es.getD j ENT0).dom, (b.es.getD j ENT0).name⟩
def kR (b : Book) (j : Nat) : DVal := ⟨(b.es.getD j ENT0).dom, (b.es.getD j ENT0).real⟩
def lastD (b : Book) : Nat → Int
  | 0 => 0
  | n + 1 => (b.es.getD n ENT0).dom
theorem ent_dom {b : Book} {i : Nat} (h : entOk b i = true) : 0 ≤ (b.es.getD i ENT0).dom ∧ (b.es.getD i ENT0).dom ≤ 4 := by
  unfold entOk headB at h
  simp only [Bool.and_eq_true, Bool.not_eq_true', Bool.or_eq_false_iff, decide_eq_false_iff_not] at h
  have h1 := h.1.1.1.1
  unfold ENTd at h1
  omega
theorem last_nn {b : Book} {i : Nat} (h : ∀ j, j < i → entOk b j = true) : 0 ≤ lastD b i := by
  cases i with
  | zero => exact Int.le_refl _
  | succ n => exact (ent_dom (h n (by omega))).1
theorem last_le {b : Book} {i : Nat} (h : ∀ j, j < i → entOk b j = true) : ∀ k, k < i → (b.es.getD k ENT0).dom ≤ lastD b i := by
  intro k hk
  cases i with
  | zero => omega
  | succ n =>
    rcases Nat.lt_or_ge k n with h1 | h1
    · have := h n (by omega)
      unfold entOk at this
      rw [Bool.and_eq_true] at this
      have := List.all_eq_true.1 this.2 k (List.mem_range.2 h1)
      unfold pairB ENTd at this
      rw [Bool.not_eq_true', Bool.or_eq_false_iff, decide_eq_false_iff_not] at this
      show _ ≤ (b.es.getD n ENT0).dom
      omega
    · obtain rfl : k = n := by omega
      exact Int.le_refl _
def oddB (b : Book) (i : Nat) : Bool := ((((decide ((b.es.getD i ENT0).dom < lastD b i) || decide (4 < (b.es.getD i ENT0).dom)) || decide (wayP b.pol (b.es.getD i ENT0).dom = 0)) || !nameB (b.es.getD i ENT0).name) || !nameB (b.es.getD i ENT0).real)
theorem odd_bad {b : Book} {i : Nat} (ha : ∀ j, j < i → entOk b j = true) (h : oddB b i = true) : entOk b i = false := by
  by_cases hl : (b.es.getD i ENT0).dom < lastD b i
  · cases i with
    | zero =>
      refine ent_head ?_
      unfold headB ENTd
      have : (b.es.getD 0 ENT0).dom < 0 := hl
      rw [decide_eq_true this]
      rfl
    | succ n =>
      refine ent_pair (k := n) (by omega) ?_
      unfold pairB ENTd
      have : (b.es.getD (n + 1) ENT0).dom < (b.es.getD n ENT0).dom := hl
      rw [decide_eq_true this]
      rfl
  · refine ent_head ?_
    unfold oddB at h
    rw [decide_eq_false hl, Bool.false_or] at h
    unfold headB ENTd
    cases decide ((b.es.getD i ENT0).dom < 0)
    · rw [Bool.false_or]; exact h
    · rfl
theorem even_ok {b : Book} {i : Nat} (ha : ∀ j, j < i → entOk b j = true) (h : oddB b i = false) (h1 : ¬ 0 < (posM (kN b) i (kN b i)).getD 0 + (posM (kR b) i (kR b i)).getD 0) : entOk b i = true := by
  obtain ⟨a1, a2, a3⟩ := posM_get (kN b) (kN b i) i
  obtain ⟨b1, b2, b3⟩ := posM_get (kR b) (kR b i) i
  unfold oddB at h
  simp only [Bool.or_eq_false_iff, decide_eq_false_iff_not] at h
  obtain ⟨⟨⟨⟨o1, o2⟩, o3⟩, o4⟩, o5⟩ := h
  have hl := last_nn ha
  refine ent_yes ?_ fun k hk => ?_
  · unfold headB ENTd
    rw [decide_eq_false (by omega), decide_eq_false o2, decide_eq_false o3, o4, o5]
    rfl
  · have h9 := last_le ha k hk
    unfold pairB ENTd
    rw [Bool.or_eq_false_iff, decide_eq_false_iff_not]
    refine ⟨by omega, ?_⟩
    cases e : (decide ((b.es.getD k ENT0).dom = (b.es.getD i ENT0).dom) && (decide ((b.es.getD k ENT0).name = (b.es.getD i ENT0).name) || decide ((b.es.getD k ENT0).real = (b.es.getD i ENT0).real))) with
    | false => rfl
    | true =>
      exfalso
      simp only [Bool.and_eq_true, Bool.or_eq_true, decide_eq_true_eq] at e
      rcases e.2 with e2 | e2
      · have := a3.2 ⟨k, hk, by unfold kN; rw [e.1, e2]⟩
        omega
      · have := b3.2 ⟨k, hk, by unfold kR; rw [e.1, e2]⟩
        omega
theorem met_bad {b : Book} {i : Nat} (h1 : 0 < (posM (kN b) i (kN b i)).getD 0 + (posM (kR b) i (kR b i)).getD 0) : entOk b i = false := by
  obtain ⟨a1, a2, a3⟩ := posM_get (kN b) (kN b i) i
  obtain ⟨b1, b2, b3⟩ := posM_get (kR b) (kR b i) i
  have h : 0 < (posM (kN b) i (kN b i)).getD 0 ∨ 0 < (posM (kR b) i (kR b i)).getD 0 := by omega
  rcases h with h | h
  · obtain ⟨j, hj, e⟩ := a3.1 h
    unfold kN at e
    injection e with e1 e2
    refine ent_pair hj ?_
    unfold pairB ENTd
    rw [e1, e2]
    simp
  · obtain ⟨j, hj, e⟩ := b3.1 h
    unfold kR at e
    injection e with e1 e2
    refine ent_pair hj ?_
    unfold pairB ENTd
    rw [e1, e2]
    simp
theorem entm {b : Book} {i : Nat} (hi : i < b.es.length) : b.es.getD i ENT0 ∈ b.es := by
  rw [List.getD_eq_getElem?_getD, List.getElem?_eq_getElem hi]
  exact List.getElem_mem hi
theorem book_bad1 {b : Book} (h : (((!rightB b.pol || !enteredB b) || (decide (0 < (b.ms.length : Int)) && !decide (b.pol.time = 3))) || (decide (0 < (b.rs.length : Int)) && !decide (b.pol.note = 4))) = true) : bookB b = false := by
  simp only [Bool.or_eq_true, Bool.and_eq_true, Bool.not_eq_true', decide_eq_true_eq, decide_eq_false_iff_not] at h
  rcases h with ((h | h) | h) | h
  · exact book_r h
  · exact book_e h
  · exact book_m (moms_time (by omega) h.2)
  · exact book_n (rems_note (by omega) h.2)
theorem book_ok1 {b : Book} (h : (((!rightB b.pol || !enteredB b) || (decide (0 < (b.ms.length : Int)) && !decide (b.pol.time = 3))) || (decide (0 < (b.rs.length : Int)) && !decide (b.pol.note = 4))) = false) : rightB b.pol = true ∧ enteredB b = true ∧ (b.ms.length = 0 ∨ b.pol.time = 3) ∧ (b.rs.length = 0 ∨ b.pol.note = 4) := by
  simp only [Bool.or_eq_false_iff, Bool.not_eq_false', Bool.and_eq_false_iff, decide_eq_false_iff_not, decide_eq_true_eq] at h
  obtain ⟨⟨⟨h1, h2⟩, h3⟩, h4⟩ := h
  refine ⟨h1, h2, ?_, ?_⟩
  · rcases h3 with h | h
    · exact .inl (by omega)
    · exact .inr h
  · rcases h4 with h | h
    · exact .inl (by omega)
    · exact .inr h
theorem rem_prog {b : Book} {i : Nat} : ((((decide ((b.rs.getD i REM0).event < 1) || decide (4096 < (b.rs.getD i REM0).event)) || (decide (0 < ((i : Nat) : Int)) && decide ((b.rs.getD i REM0).event ≤ (b.rs.getD (((i : Nat) : Int) - 1).toNat REM0).event))) || decide (100 < ((b.rs.getD i REM0).note.length : Int))) || decide (0 ≤ Lib.indexByte (b.rs.getD i REM0).note 10)) = !remOk b i := by
  unfold remOk plainB
  rw [Bool.not_not]
  have e : decide (100 < ((b.rs.getD i REM0).note.length : Int)) = !decide (((b.rs.getD i REM0).note.length : Int) ≤ 100) := by
    by_cases h : ((b.rs.getD i REM0).note.length : Int) ≤ 100
    · rw [decide_eq_true h, decide_eq_false (by omega)]; rfl
    · rw [decide_eq_false h, decide_eq_true (by omega)]; rfl
  rw [e, Bool.or_assoc]
  congr 1
  cases decide (0 ≤ Lib.indexByte (b.rs.getD i REM0).note 10) <;> cases decide (((b.rs.getD i REM0).note.length : Int) ≤ 100) <;> rfl
theorem mom_fail {b : Book} {i : Nat} (hi : i < b.ms.length) (h : (((!decide (b.pol.time = 3) || !decide ((b.ms.getD i MOM0).rank = ((i : Nat) : Int) + 1)) || decide ((b.ms.getD i MOM0).time < 0)) || (decide (0 < ((i : Nat) : Int)) && decide ((b.ms.getD i MOM0).time ≤ (b.ms.getD (((i : Nat) : Int) - 1).toNat MOM0).time))) = true) : momsB b = false := by
  by_cases ht : b.pol.time = 3
  · refine moms_bad hi ?_
    rw [decide_eq_true ht] at h
    unfold momOk
    rw [show (!true) = false from rfl, Bool.false_or] at h
    rw [h]
    rfl
  · exact moms_time (by omega) ht
theorem mom_pass {b : Book} {i : Nat} (h : (((!decide (b.pol.time = 3) || !decide ((b.ms.getD i MOM0).rank = ((i : Nat) : Int) + 1)) || decide ((b.ms.getD i MOM0).time < 0)) || (decide (0 < ((i : Nat) : Int)) && decide ((b.ms.getD i MOM0).time ≤ (b.ms.getD (((i : Nat) : Int) - 1).toNat MOM0).time))) = false) : b.pol.time = 3 ∧ momOk b i = true := by
  by_cases ht : b.pol.time = 3
  · refine ⟨ht, ?_⟩
    rw [decide_eq_true ht] at h
    unfold momOk
    rw [show (!true) = false from rfl, Bool.false_or] at h
    rw [h]
    rfl
  · rw [decide_eq_false ht] at h
    simp at h
theorem rem_fail {b : Book} {i : Nat} (hi : i < b.rs.length) (h : ((((!decide (b.pol.note = 4) || decide ((b.rs.getD i REM0).event < 1)) || decide (4096 < (b.rs.getD i REM0).event)) || (decide (0 < ((i : Nat) : Int)) && decide ((b.rs.getD i REM0).event ≤ (b.rs.getD (((i : Nat) : Int) - 1).toNat REM0).event))) || !plainB (b.rs.getD i REM0).note) = true) : remsB b = false := by
  by_cases ht : b.pol.note = 4
  · refine rems_bad hi ?_
    rw [decide_eq_true ht] at h
    unfold remOk
    rw [show (!true) = false from rfl, Bool.false_or] at h
    rw [h]
    rfl
  · exact rems_note (by omega) ht
theorem rem_pass {b : Book} {i : Nat} (h : ((((!decide (b.pol.note = 4) || decide ((b.rs.getD i REM0).event < 1)) || decide (4096 < (b.rs.getD i REM0).event)) || (decide (0 < ((i : Nat) : Int)) && decide ((b.rs.getD i REM0).event ≤ (b.rs.getD (((i : Nat) : Int) - 1).toNat REM0).event))) || !plainB (b.rs.getD i REM0).note) = false) : b.pol.note = 4 ∧ remOk b i = true := by
  by_cases ht : b.pol.note = 4
  · refine ⟨ht, ?_⟩
    rw [decide_eq_true ht] at h
    unfold remOk
    rw [show (!true) = false from rfl, Bool.false_or] at h
    rw [h]
    rfl
  · rw [decide_eq_false ht] at h
    simp at h
theorem remm {b : Book} {i : Nat} (hi : i < b.rs.length) : b.rs.getD i REM0 ∈ b.rs := by
  rw [List.getD_eq_getElem?_getD, List.getElem?_eq_getElem hi]
  exact List.getElem_mem hi
end Go.Proofs.YtngoaapgdfohjaaGreatDoor.T27
