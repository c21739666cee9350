/- Own text. -/
import Derived.Test.YtngoaapgdfohjaaGreatDoorW13
set_option linter.unusedVariables false
set_option linter.unusedSimpArgs false
set_option maxRecDepth 100000
namespace Go.Proofs.YtngoaapgdfohjaaGreatDoor.T27
open Go Go.Proofs.YtngoaapgdfohjaaGreatDoor.X Go.Proofs Go.Proofs.YtngoaapgdfohjaaGreatDoor.T28 Go.Proofs.YtngoaapgdfohjaaGreatDoor.TS Go.Proofs.YtngoaapgdfohjaaGreatDoor.TK
/-! ## A book read: what it says (plain) -/
theorem join_nl : ∀ (xs : List Bs), xs ≠ [] → Lib.join xs [10] ++ [10] = xs.flatMap (· ++ [10])
  | [], h => absurd rfl h
  | [x], _ => by simp [Lib.join, List.intercalate]
  | x :: y :: r, _ => by
    have h := join_nl (y :: r) (by simp)
    rw [List.flatMap_cons, ← h]
    simp [Lib.join, List.intercalate, List.intersperse]
def ruledN : List Bs → Nat
  | [] => 0
  | x :: r => if (x == sLo) || (x == sFo) then ruledN r + 1 else 0
def rowsS : Book → List Bs → Option Book
  | b, [] => some b
  | b, x :: r => match rowS b x with
    | none => none
    | some b' => rowsS b' r
def nRul (l : List Bs) : Nat := 8 + ruledN (l.drop 8)
def polT (l : List Bs) (n : Nat) : Bs := ((l.drop 1).take (n - 1)).flatMap (· ++ [10])
def headOk (l : List Bs) : Bool := decide (8 ≤ (l.length : Int)) && (l.getD 0 [] == ttl)
def bkP (p : Pol) : Book := ⟨p, [], [], []⟩
def endOk (b : Book) (t : Bs) : Bool := bookB b && (openS b == t)
def readL (l : List Bs) (t : Bs) : Option Book :=
  if headOk l = true ∧ (parseP (polT l (nRul l))).2 = 0 then match rowsS (bkP (parseP (polT l (nRul l))).1) (l.drop (nRul l)) with
    | none => none
    | some b => if endOk b t = true then some b else none
  else none
def readS (t : Bs) : Option Book := if (linesS t).2 = 0 then readL (linesS t).1 t else none
theorem rowsS_step {b : Book} {l : List Bs} {i : Nat} (hi : i < l.length) : rowsS b (l.drop i) = match rowS b (l.getD i []) with
    | none => none
    | some b' => rowsS b' (l.drop (i + 1)) := by
  rw [List.drop_eq_getElem_cons hi, List.getD_eq_getElem?_getD, List.getElem?_eq_getElem hi]
  rfl
/-- What a book holds that was put together of so many lines. -/
structure BkW (b : Book) (n : Nat) : Prop where
  len : b.es.length + b.ms.length + b.rs.length ≤ n
  ew : ∀ x ∈ b.es, (I64 x.dom ∧ x.name.Wf ∧ x.real.Wf) ∧ x.name.s.length ≤ 1600 ∧ x.real.s.length ≤ 1600
  mw : ∀ x ∈ b.ms, I64 x.rank ∧ I64 x.time
  rw' : ∀ x ∈ b.rs, I64 x.event ∧ x.note.length ≤ 1600
theorem BkW.zero (p : Pol) (n : Nat) : BkW (bkP p) n := ⟨by simp [bkP], by simp [bkP], by simp [bkP], by simp [bkP]⟩
theorem parse_slen {s : Bs} : (parseV s).1.s.length ≤ s.length := by
  unfold parseV
  split
  · exact Nat.zero_le _
  split
  · exact Nat.zero_le _
  split
  · exact Nat.zero_le _
  split
  · exact Nat.le_refl _
  split
  · exact Nat.zero_le _
  · exact Nat.zero_le _
theorem idx_i64 {w : Bs} (h1 : w.length = 1) : I64 (Lib.index lettersW w) := by
  obtain ⟨c, rfl⟩ := List.length_eq_one_iff.1 h1
  rw [Lib.index_one]
  have h := Lib.indexByte_ge lettersW c
  rcases index_two lettersW c with h2 | ⟨i, h2⟩
  · rw [h2]; decide
  · have h3 := (List.getElem?_eq_some_iff.1 (Lib.indexByte_some h2).1).1
    have h4 : lettersW.length = 5 := rfl
    unfold I64
    omega
theorem noteS_len (s : Bs) : (noteS s).2.1.length ≤ s.length := by
  unfold noteS
  split
  · exact Nat.zero_le _
  split
  · exact Nat.zero_le _
  · exact cutB_len s 59
theorem count_i64 {s : Bs} {m : Int} (hm : I64 m) : I64 (okv (countS s m)) := by
  unfold countS
  cases h : sizeS s 9223372036854775807 with
  | error e => exact (by decide : I64 0)
  | ok n =>
    have := size_bound h
    simp only []
    split
    · exact (by decide : I64 0)
    · exact ⟨by show _ ≤ n; omega, by show n ≤ _; omega⟩
theorem row_w {b b' : Book} {n : Nat} {x : Bs} (h : BkW b n) (hx : x.length ≤ 1600) (hr : rowS b x = some b') : BkW b' (n + 1) ∧ b'.pol = b.pol := by
  unfold rowS at hr
  split at hr
  case isFalse => cases hr
  have hnl := note_len x
  have hml := noteS_len x
  have hwl : ∀ y ∈ (wordsS (noteS x).1).1, y.length ≤ 1600 := fun y hy => by
    have := words_mem hy
    omega
  have hgl : ∀ i, ((wordsS (noteS x).1).1.getD i []).length ≤ 1600 := fun i => by
    rcases Nat.lt_or_ge i (wordsS (noteS x).1).1.length with h | h
    · exact hwl _ (cnt_at h)
    · rw [List.getD_eq_getElem?_getD, List.getElem?_eq_none h]; exact Nat.zero_le _
  generalize (wordsS (noteS x).1).1 = w at hr hgl
  have hlen := h.len
  unfold rowW at hr
  split at hr
  · split at hr
    · rename_i hok
      cases hr
      unfold entOkB at hok
      simp only [Bool.and_eq_true, decide_eq_true_eq] at hok
      have h2 := hgl 2
      have h3 := hgl 3
      have p2 := parse_slen (s := w.getD 2 [])
      have p3 := parse_slen (s := w.getD 3 [])
      refine ⟨⟨by simp only [List.length_append, List.length_singleton]; omega, fun y hy => ?_, h.mw, h.rw'⟩, rfl⟩
      rcases List.mem_append.1 hy with hy | hy
      · exact h.ew y hy
      · rw [List.mem_singleton] at hy
        subst hy
        exact ⟨⟨idx_i64 hok.2.1.1.1, parse_wf (by omega), parse_wf (by omega)⟩, by show (parseV _).1.s.length ≤ _; omega, by show (parseV _).1.s.length ≤ _; omega⟩
    · cases hr
  · split at hr
    · split at hr
      · cases hr
        refine ⟨⟨by simp only [List.length_append, List.length_singleton]; omega, h.ew, fun y hy => ?_, h.rw'⟩, rfl⟩
        rcases List.mem_append.1 hy with hy | hy
        · exact h.mw y hy
        · rw [List.mem_singleton] at hy
          subst hy
          exact ⟨okv_range, okv_range⟩
      · cases hr
    · split at hr
      · split at hr
        · cases hr
          refine ⟨⟨by simp only [List.length_append, List.length_singleton]; omega, h.ew, h.mw, fun y hy => ?_⟩, rfl⟩
          rcases List.mem_append.1 hy with hy | hy
          · exact h.rw' y hy
          · rw [List.mem_singleton] at hy
            subst hy
            exact ⟨count_i64 (by decide), by show (noteS x).2.1.length ≤ _; omega⟩
        · cases hr
      · cases hr
theorem BkW.small {b : Book} {n : Nat} (h : BkW b n) (hn : n ≤ 1600) : Small b := ⟨by have := h.len; omega, by have := h.len; omega, by have := h.len; omega, fun x hx => (h.ew x hx).2, fun x hx => (h.rw' x hx).2⟩
end Go.Proofs.YtngoaapgdfohjaaGreatDoor.T27
