/- Own text. -/
import Derived.Test.YtnfadpkhjfillaaDoorX35
import Derived.Test.YtnfadpkhjfillaaDoorN1
import Derived.Test.YtnfadpkhjfillaaDoorN2
import Derived.Test.YtnfadpkhjfillaaDoorN4
import Derived.Test.YtnfadpkhjfillaaDoorN6
import Derived.Test.YtnfadpkhjfillaaDoorN7
import Derived.Test.YtnfadpkhjfillaaDoorN8
import Derived.Laws.BitsLemmas
set_option linter.unusedVariables false
set_option linter.unusedSimpArgs false
namespace Go.Proofs.YtnfadpkhjfillaaDoor.T28
open Go Go.Proofs.YtnfadpkhjfillaaDoor.X

def ruledB (d : Int) (r : Rul) : Bool := (decide (r.way = 2) && (decide (1 ≤ r.size) && decide (r.size ≤ 16))) || ((decide (r.way = 0) || decide (r.way = 1)) && decide (r.size = 0)) || (decide (r.way = 3) && (decide (d = 4) && decide (r.size = 0)))
def rightB (p : Pol) : Bool :=
  ruledB 0 p.r0 && (ruledB 1 p.r1 && (ruledB 2 p.r2 && (ruledB 3 p.r3 && (ruledB 4 p.r4 && ((decide (p.time = 0) || decide (p.time = 3)) && (decide (p.note = 0) || decide (p.note = 4)))))))
theorem kEvt_mk {G : Heap} (x : Evt) {A1 c1 A2 c2} (h1 : x.args.length ≤ c1) (h2 : Rd kVal G A1 x.args) (h3 : x.out.length ≤ c2) (h4 : Rd kVal G A2 x.out) : kEvt.R G x (evtCells x A1 c1 A2 c2) := ⟨A1, c1, A2, c2, rfl, h1, h2, h3, h4⟩
def sizeS (s : Bs) (most : Int) : Except Int Int := if digitsB s = true then (if (dv s : Int) ≤ most then .ok (dv s) else .error 3) else .error 2
def countS (s : Bs) (most : Int) : Except Int Int := match sizeS s 9223372036854775807 with
  | .error e => .error e
  | .ok n => if most < 0 ∨ most < n then .error 3 else .ok n
def parseS (s : Bs) : Except Int Int :=
  if s = [] ∨ bt s 0 ≠ 45 then sizeS s 9223372036854775807
  else match sizeS (s.drop 1) 9223372036854775808 with
    | .error e => .error e
    | .ok n => if n = 0 then .error 2 else .ok (-n)
def lowB (c : Int) : Bool := decide (97 ≤ c) && decide (c ≤ 122)
def letterB (c : Int) (first : Bool) : Bool := lowB c || (!first && (decide (c = 95) || (decide (48 ≤ c) && decide (c ≤ 57))))
theorem letter_eq (c : Int) : (((decide (97 ≤ c) && decide (c ≤ 122)) || (decide (48 ≤ c) && decide (c ≤ 57))) || decide (c = 95)) = letterB c false := by
  unfold letterB lowB
  cases decide (97 ≤ c) <;> cases decide (c ≤ 122) <;> cases decide (48 ≤ c) <;> cases decide (c ≤ 57) <;> cases decide (c = 95) <;> rfl
def isWordB (s : Bs) : Bool := (decide (1 ≤ s.length) && decide (s.length ≤ 40)) && (lowB (bt s 0) && s.all fun c => letterB (c.toNat : Int) false)
theorem all_snoc {α : Type} {p : α → Bool} {s : List α} {i : Nat} (h : i < s.length) : (s.take (i + 1)).all p = ((s.take i).all p && p s[i]) := by
  rw [List.take_add_one, List.getElem?_eq_getElem h, List.all_append]
  simp
theorem all_not {α : Type} {p : α → Bool} {s : List α} {i : Nat} (h : i < s.length) (hp : p s[i] = false) : s.all p = false := by
  cases ha : s.all p with
  | false => rfl
  | true => rw [List.all_eq_true.1 ha _ (List.getElem_mem h)] at hp; cases hp
def wordC (c : UInt8) : Bool := letterB (c.toNat : Int) false
theorem word_def (s : Bs) : isWordB s = ((decide (1 ≤ s.length) && decide (s.length ≤ 40)) && (lowB (bt s 0) && s.all wordC)) := rfl
theorem word_ref_no {s : Bs} {i : Nat} (hi : i < s.length) (h : letterB (bt s (i : Int)) (decide ((i : Int) = 0)) = false) : isWordB s = false := by
  by_cases h0 : i = 0
  · subst h0
    have e : bt s ((0 : Nat) : Int) = bt s 0 := rfl
    rw [e] at h
    have hl : lowB (bt s 0) = false := by
      simp only [letterB, Bool.or_eq_false_iff] at h
      exact h.1
    rw [word_def, hl]; simp
  · have e : decide ((i : Int) = 0) = false := by simp; omega
    rw [e] at h
    rw [word_def, all_not hi (by unfold wordC; rw [← bt_nat hi]; exact h)]; simp
theorem word_ref {s : Bs} (ha : ∀ j, j < s.length → letterB (bt s (j : Int)) (decide ((j : Int) = 0)) = true) : (decide (1 ≤ (s.length : Int)) && decide ((s.length : Int) ≤ 40)) = isWordB s := by
  rw [word_def, show decide (1 ≤ (s.length : Int)) = decide (1 ≤ s.length) from decide_eq_decide.2 (by omega), show decide ((s.length : Int) ≤ 40) = decide (s.length ≤ 40) from decide_eq_decide.2 (by omega)]
  by_cases h0 : 1 ≤ s.length
  · have h1 : lowB (bt s 0) = true := by
      have := ha 0 (by omega)
      have e : bt s ((0 : Nat) : Int) = bt s 0 := rfl
      rw [e] at this
      simpa [letterB] using this
    have h2 : s.all wordC = true := by
      rw [List.all_eq_true]
      intro x hx
      obtain ⟨j, hj, rfl⟩ := List.mem_iff_getElem.1 hx
      have h3 := ha j hj
      rw [bt_nat hj] at h3
      unfold wordC
      by_cases e : j = 0
      · subst e
        simp only [letterB] at h3 ⊢
        simp at h3 ⊢
        exact .inl h3
      · have e2 : decide ((j : Int) = 0) = false := by simp; omega
        rw [e2] at h3
        exact h3
    rw [h1, h2]; simp
  · rw [decide_eq_false h0]; simp
def parseV (s : Bs) : Val × Int :=
  if s = [126] then (⟨0, 0, []⟩, 0) else if s = [84] then (⟨3, 1, []⟩, 0) else if s = [70] then (⟨3, 0, []⟩, 0)
  else if isWordB s = true then (⟨2, 0, s⟩, 0) else if ¬ erv (parseS s) = 0 then (⟨0, 0, []⟩, erv (parseS s)) else (⟨1, okv (parseS s), []⟩, 0)
theorem wordC_bt {s : Bs} {i : Nat} (h : i < s.length) : wordC s[i] = letterB (bt s i) false := by unfold wordC; rw [bt_nat h]
theorem word_len {s : Bs} (h : s = [] ∨ 40 < (s.length : Int)) : isWordB s = false := by
  rw [word_def]
  have : (decide (1 ≤ s.length) && decide (s.length ≤ 40)) = false := by
    simp only [Bool.and_eq_false_iff, decide_eq_false_iff_not]
    rcases h with rfl | h
    · left; simp
    · right; omega
  rw [this]; rfl
theorem word_first {s : Bs} (h : bt s 0 < 97 ∨ 122 < bt s 0) : isWordB s = false := by
  rw [word_def]
  have : lowB (bt s 0) = false := by simp only [lowB, Bool.and_eq_false_iff, decide_eq_false_iff_not]; omega
  rw [this]; simp
theorem word_at {s : Bs} {i : Nat} (hi : i < s.length) (h : letterB (bt s i) false = false) : isWordB s = false := by
  rw [word_def, all_not hi (by rw [wordC_bt hi]; exact h)]; simp
theorem word_yes {s : Bs} (h0 : ¬ s = []) (h1 : ¬ 40 < (s.length : Int)) (h2 : ¬ bt s 0 < 97) (h3 : ¬ 122 < bt s 0) (h4 : s.all wordC = true) : isWordB s = true := by
  have := List.length_pos_iff.2 h0
  rw [word_def, h4]
  simp only [lowB, Bool.and_true, Bool.and_eq_true, decide_eq_true_eq]
  omega
def rightV (v : Val) : Bool :=
  if v.k = 0 then decide (v.n = 0) && v.s == [] else if v.k = 1 then v.s == [] else if v.k = 2 then decide (v.n = 0) && isWordB v.s
  else if v.k = 3 then (decide (v.n = 0) || decide (v.n = 1)) && v.s == [] else false
theorem idx_none {s : Bs} {c : UInt8} (h : ∀ j (hj : j < s.length), ¬ s[j] = c) : Lib.indexByte s c = -1 := by
  induction s with
  | nil => rfl
  | cons b r ih =>
    have h0 := h 0 (by simp)
    have hr := ih fun j hj => h (j + 1) (by simpa using hj)
    simp only [List.getElem_cons_zero] at h0
    unfold Lib.indexByte
    rw [hr]
    simp [h0]
theorem idx_pos {s : Bs} {c : UInt8} {i : Nat} (hi : i < s.length) (he : s[i] = c) : 0 ≤ Lib.indexByte s c := by
  rcases index_two s c with h | ⟨k, h⟩
  · exfalso
    induction s generalizing i with
    | nil => simp at hi
    | cons b r ih =>
      unfold Lib.indexByte at h
      split at h
      · cases h
      · rename_i hb
        have hr : Lib.indexByte r c = -1 := by
          split at h
          · rename_i h2; simpa using h2
          · have := Lib.indexByte_ge r c; omega
        cases i with
        | zero => exact hb (by simpa using he)
        | succ i => exact ih (i := i) (by simpa using hi) (by simpa using he) hr
  · omega

structure Row where
  model : Int
  op : Int
  ins : Bs
  out : Int
  may : Bool deriving DecidableEq
abbrev rowCells (r : Row) : List Value := [.int .i64 r.model, .int .i64 r.op, str r.ins, .int .i64 r.out, .bool r.may]
def kRow : Knd Row where
  sz := 5
  R := fun _ x cs => cs = rowCells x
  len := by rintro G x cs rfl; rfl
  le := fun _ h => h
theorem kRow_open {G : Heap} {b o : Nat} {x : Row} (h : ElAt kRow G b o x) : CellsAt G b o (rowCells x) := by
  obtain ⟨cs, rfl, hc⟩ := h
  exact hc
def rowsT : List Row := [⟨1, 1, [118], (-1), false⟩, ⟨1, 2, [], 2, true⟩, ⟨2, 1, [118], (-1), false⟩, ⟨2, 2, [], 2, true⟩, ⟨2, 3, [118, 118], 6, false⟩, ⟨3, 4, [118], (-1), false⟩, ⟨3, 5, [118], (-1), false⟩, ⟨3, 6, [118], 6, false⟩, ⟨4, 7, [102, 118], (-1), false⟩, ⟨4, 8, [102], 2, true⟩, ⟨4, 5, [102], (-1), false⟩, ⟨5, 9, [118], (-1), false⟩, ⟨5, 10, [], 2, true⟩, ⟨6, 9, [118], (-1), false⟩, ⟨6, 10, [], 2, true⟩, ⟨7, 11, [], 6, false⟩, ⟨7, 12, [], 6, false⟩, ⟨8, 4, [110], (-1), false⟩, ⟨8, 2, [], 5, false⟩, ⟨9, 1, [111], (-1), false⟩, ⟨9, 2, [], 4, true⟩, ⟨10, 7, [111, 118], (-1), false⟩, ⟨10, 5, [111], (-1), false⟩, ⟨10, 13, [111, 111], 99, false⟩]
def isRow (m o : Int) (r : Row) : Bool := decide (r.model = m) && decide (r.op = o)
def findS (m o : Int) : Row × Bool := match rowsT.find? (isRow m o) with
  | some r => (r, true)
  | none => (⟨0, 0, [], 0, false⟩, false)
def idxR : List Row → Int → Int → Int → Int
  | [], _, _, _ => -1
  | r :: rs, k, m, o => if isRow m o r = true then k else idxR rs (k + 1) m o
theorem idxR_step {rows : List Row} {i : Nat} {k m o : Int} {x : Row} {h : i < rows.length} (e : rows[i] = x) : idxR (rows.drop i) k m o = if isRow m o x = true then k else idxR (rows.drop (i + 1)) (k + 1) m o := by
  rw [List.drop_eq_getElem_cons h, e]
  rfl
theorem idxR_find (m o : Int) : ∀ (rows : List Row) (k : Int), 0 ≤ k → (idxR rows k m o = -1 ∧ rows.find? (isRow m o) = none) ∨ ∃ (j : Nat) (r : Row), idxR rows k m o = k + (j : Int) ∧ rows[j]? = some r ∧ rows.find? (isRow m o) = some r
  | [], k, _ => .inl ⟨rfl, rfl⟩
  | r :: rs, k, hk => by
    unfold idxR
    rw [List.find?_cons]
    by_cases h : isRow m o r = true
    · rw [if_pos h, h]
      exact .inr ⟨0, r, by omega, rfl, rfl⟩
    · rw [if_neg h, Bool.eq_false_iff.2 h]
      rcases idxR_find m o rs (k + 1) (by omega) with ⟨h1, h2⟩ | ⟨j, x, h1, h2, h3⟩
      · exact .inl ⟨h1, h2⟩
      · exact .inr ⟨j + 1, x, by rw [h1]; omega, by simpa using h2, h3⟩
theorem find_no {m o : Int} (h : idxR rowsT 0 m o < 0) : findS m o = (⟨0, 0, [], 0, false⟩, false) := by
  unfold findS
  rcases idxR_find m o rowsT 0 (by decide) with ⟨_, h2⟩ | ⟨j, x, h1, _, _⟩
  · rw [h2]
  · omega
theorem find_yes {m o : Int} (h : ¬ idxR rowsT 0 m o < 0) : (idxR rowsT 0 m o).toNat < rowsT.length ∧ ∀ x (h2 : (idxR rowsT 0 m o).toNat < rowsT.length), rowsT[(idxR rowsT 0 m o).toNat] = x → findS m o = (x, true) := by
  unfold findS
  rcases idxR_find m o rowsT 0 (by decide) with ⟨h1, h2⟩ | ⟨j, y, h1, h2, h3⟩
  · omega
  · have e : (idxR rowsT 0 m o).toNat = j := by omega
    have hl : j < rowsT.length := (List.getElem?_eq_some_iff.1 h2).1
    refine ⟨by omega, fun x hx hxx => ?_⟩
    rw [h3]
    have := (List.getElem?_eq_some_iff.1 h2).2
    simp only [e] at hxx
    rw [← hxx, this]
/-- The number of a word in a list; not the first one's. -/
def idxW : List Bs → Int → Bs → Int × Bool
  | [], _, _ => (0, false)
  | x :: r, k, w => if (decide (0 < k) && (x == w)) = true then (k, true) else idxW r (k + 1) w
def modelsW : List Bs := [[], [114, 101, 103], [99, 97, 115], [115, 101, 116], [109, 97, 112], [102, 105, 102, 111], [115, 116, 97, 99, 107], [108, 111, 99, 107], [99, 111, 117, 110, 116], [109, 97, 120], [111, 109, 97, 112]]
def opsW : List Bs := [[], [119, 114, 105, 116, 101], [114, 101, 97, 100], [115, 119, 97, 112], [97, 100, 100], [100, 101, 108], [104, 97, 115], [112, 117, 116], [103, 101, 116], [112, 117, 115, 104], [112, 111, 112], [116, 97, 107, 101], [102, 114, 101, 101], [115, 99, 97, 110]]
def modelS (w : Bs) : Int × Bool := idxW modelsW 0 w
def opS (w : Bs) : Int × Bool := idxW opsW 0 w
def takesB (d : Int) (v : Val) : Bool :=
  if rightV v = false then false else if d = 0 ∨ d = 1 ∨ d = 2 ∨ d = 3 ∨ d = 4 then decide (v.k = 1) || decide (v.k = 2) else if d = 5 then decide (v.k = 1) else decide (d = 6) && decide (v.k = 3)
def domS (c : Int) : Int := if c = 118 then 2 else if c = 102 then 3 else if c = 111 then 4 else 5
def doms (s : Bs) : List Int := s.map fun b => domS (b.toNat : Int)
theorem doms_snoc {s : Bs} {i : Nat} (h : i < s.length) : doms (s.take i) ++ [domS (bt s (i : Int))] = doms (s.take (i + 1)) := by
  rw [bt_nat h]
  unfold doms
  rw [take_snoc h, List.map_append]
  rfl
def argsD (m o : Int) : List Int × Bool := if (findS m o).2 = true then (doms (findS m o).1.ins, true) else ([], false)
theorem find_len (m o : Int) : (findS m o).1.ins.length ≤ 2 := by
  unfold findS
  split
  · rename_i r h
    have hm := List.mem_of_find?_eq_some h
    have : ∀ r ∈ rowsT, r.ins.length ≤ 2 := by decide
    exact this r hm
  · decide
/-! What a line's words are read to. -/
def faultS (e e2 : Int) : Int := if e = 0 then e2 else e
def nextS (l : List Bs) (e : Int) : Bs × List Bs × Int :=
  if (if l = [] then faultS e 2 else e) = 0 then (l.getD 0 [], l.drop 1, 0) else ([], l, if l = [] then faultS e 2 else e)
def valueS (d : Int) (l : List Bs) (e : Int) : Val × List Bs × Int :=
  if (nextS l e).2.2 = 0 then ((parseV (nextS l e).1).1, (nextS l e).2.1,
    if ((decide (faultS (nextS l e).2.2 (parseV (nextS l e).1).2 = 0) && decide (0 ≤ d)) && !takesB d (parseV (nextS l e).1).1) = true then faultS (faultS (nextS l e).2.2 (parseV (nextS l e).1).2) 2 else faultS (nextS l e).2.2 (parseV (nextS l e).1).2)
  else (⟨0, 0, []⟩, (nextS l e).2.1, (nextS l e).2.2)
def argsL : List Int → List Bs → Int → List Val × List Bs × Int
  | [], l, e => ([], l, e)
  | d :: r, l, e => ((valueS d l e).1 :: (argsL r (valueS d l e).2.1 (valueS d l e).2.2).1, (argsL r (valueS d l e).2.1 (valueS d l e).2.2).2)
theorem args_len (m o : Int) : (argsD m o).1.length ≤ 2 := by
  unfold argsD
  split
  · unfold doms; rw [List.length_map]; exact find_len m o
  · exact Nat.zero_le _
def E0 : Evt := ⟨0, ⟨0, 0, []⟩, 0, 0, ⟨0, 0, []⟩, 0, [], [], false, []⟩
/-! The reference's tables. -/
def mnameS (m : Int) : Bs := if m = 1 then [114, 101, 103] else if m = 2 then [99, 97, 115] else if m = 3 then [115, 101, 116] else if m = 4 then [109, 97, 112] else if m = 5 then [102, 105, 102, 111] else if m = 6 then [115, 116, 97, 99, 107] else if m = 7 then [108, 111, 99, 107] else if m = 8 then [99, 111, 117, 110, 116] else if m = 9 then [109, 97, 120] else if m = 10 then [111, 109, 97, 112] else []
def onameS (o : Int) : Bs := if o = 1 then [119, 114, 105, 116, 101] else if o = 2 then [114, 101, 97, 100] else if o = 3 then [115, 119, 97, 112] else if o = 4 then [97, 100, 100] else if o = 5 then [100, 101, 108] else if o = 6 then [104, 97, 115] else if o = 7 then [112, 117, 116] else if o = 8 then [103, 101, 116] else if o = 9 then [112, 117, 115, 104] else if o = 10 then [112, 111, 112] else if o = 11 then [116, 97, 107, 101] else if o = 12 then [102, 114, 101, 101] else if o = 13 then [115, 99, 97, 110] else []
def sgnTab : List (Bs × List Int × Int × Bool) := [([114, 101, 103, 32, 119, 114, 105, 116, 101], [2], (-1), false), ([99, 97, 115, 32, 119, 114, 105, 116, 101], [2], (-1), false), ([115, 101, 116, 32, 97, 100, 100], [2], (-1), false), ([115, 101, 116, 32, 100, 101, 108], [2], (-1), false), ([102, 105, 102, 111, 32, 112, 117, 115, 104], [2], (-1), false), ([115, 116, 97, 99, 107, 32, 112, 117, 115, 104], [2], (-1), false), ([114, 101, 103, 32, 114, 101, 97, 100], [], 2, true), ([99, 97, 115, 32, 114, 101, 97, 100], [], 2, true), ([102, 105, 102, 111, 32, 112, 111, 112], [], 2, true), ([115, 116, 97, 99, 107, 32, 112, 111, 112], [], 2, true), ([99, 97, 115, 32, 115, 119, 97, 112], [2, 2], 6, false), ([115, 101, 116, 32, 104, 97, 115], [2], 6, false), ([109, 97, 112, 32, 112, 117, 116], [3, 2], (-1), false), ([109, 97, 112, 32, 103, 101, 116], [3], 2, true), ([109, 97, 112, 32, 100, 101, 108], [3], (-1), false), ([108, 111, 99, 107, 32, 116, 97, 107, 101], [], 6, false), ([108, 111, 99, 107, 32, 102, 114, 101, 101], [], 6, false), ([99, 111, 117, 110, 116, 32, 97, 100, 100], [5], (-1), false), ([99, 111, 117, 110, 116, 32, 114, 101, 97, 100], [], 5, false), ([109, 97, 120, 32, 119, 114, 105, 116, 101], [4], (-1), false), ([111, 109, 97, 112, 32, 100, 101, 108], [4], (-1), false), ([109, 97, 120, 32, 114, 101, 97, 100], [], 4, true), ([111, 109, 97, 112, 32, 112, 117, 116], [4, 2], (-1), false), ([111, 109, 97, 112, 32, 115, 99, 97, 110], [4, 4], 99, false)]
def sgnT (t : Bs) : List Int × Int × Bool × Bool := match sgnTab.find? (fun r => r.1 == t) with
  | some r => (r.2.1, r.2.2.1, r.2.2.2, true)
  | none => ([], 0, false, false)
def sgnF (m o : Int) : List Int × Int × Bool × Bool := (doms (findS m o).1.ins, (findS m o).1.out, (findS m o).1.may, (findS m o).2)
theorem rows_rng : (rowsT.all fun r => decide (1 ≤ r.model ∧ r.model ≤ 10 ∧ 1 ≤ r.op ∧ r.op ≤ 13)) = true := by decide +kernel
theorem find_out {m o : Int} (h : ¬ (1 ≤ m ∧ m ≤ 10 ∧ 1 ≤ o ∧ o ≤ 13)) : findS m o = (⟨0, 0, [], 0, false⟩, false) := by
  unfold findS
  rw [List.find?_eq_none.2]
  intro r hr hc
  have h1 := List.all_eq_true.1 rows_rng r hr
  simp only [isRow, Bool.and_eq_true, decide_eq_true_eq] at h1 hc
  omega
theorem mname_out {m : Int} (h : ¬ (1 ≤ m ∧ m ≤ 10)) : mnameS m = [] := by
  unfold mnameS
  repeat rw [if_neg (by omega)]
theorem oname_out {o : Int} (h : ¬ (1 ≤ o ∧ o ≤ 13)) : onameS o = [] := by
  unfold onameS
  repeat rw [if_neg (by omega)]
theorem sgn_all : ((List.range 11).all fun m => (List.range 14).all fun o => decide (sgnT (mnameS (m : Int) ++ [32] ++ onameS (o : Int)) = sgnF (m : Int) (o : Int))) = true := by decide +kernel
theorem find_sgn (m o : Int) : sgnT (mnameS m ++ [32] ++ onameS o) = sgnF m o := by
  have key : ∀ (m o : Int), 0 ≤ m → m ≤ 10 → 0 ≤ o → o ≤ 13 → sgnT (mnameS m ++ [32] ++ onameS o) = sgnF m o := by
    intro m o h1 h2 h3 h4
    have h := List.all_eq_true.1 (List.all_eq_true.1 sgn_all m.toNat (List.mem_range.2 (by omega))) o.toNat (List.mem_range.2 (by omega))
    rw [decide_eq_true_eq, show ((m.toNat : Nat) : Int) = m by omega, show ((o.toNat : Nat) : Int) = o by omega] at h
    exact h
  by_cases hm : 1 ≤ m ∧ m ≤ 10
  · by_cases ho : 1 ≤ o ∧ o ≤ 13
    · exact key m o (by omega) (by omega) (by omega) (by omega)
    · have e : sgnF m o = sgnF m 0 := by unfold sgnF; rw [find_out (m := m) (o := o) (by omega), find_out (m := m) (o := 0) (by omega)]
      rw [e, ← key m 0 (by omega) (by omega) (by omega) (by omega), oname_out ho, oname_out (o := 0) (by omega)]
  · by_cases ho : 1 ≤ o ∧ o ≤ 13
    · have e : sgnF m o = sgnF 0 o := by unfold sgnF; rw [find_out (m := m) (o := o) (by omega), find_out (m := 0) (o := o) (by omega)]
      rw [e, ← key 0 o (by omega) (by omega) (by omega) (by omega), mname_out hm, mname_out (m := 0) (by omega)]
    · have e : sgnF m o = sgnF 0 0 := by unfold sgnF; rw [find_out (m := m) (o := o) (by omega), find_out (m := 0) (o := 0) (by omega)]
      rw [e, ← key 0 0 (by omega) (by omega) (by omega) (by omega), mname_out hm, mname_out (m := 0) (by omega), oname_out ho, oname_out (o := 0) (by omega)]
theorem sgn_hit {t k : Bs} (h : t = k) {z : List Int × Int × Bool × Bool} (e : sgnT k = z) : sgnT t = z := by rw [h, e]
theorem mname_len (m : Int) : (mnameS m).length ≤ 5 := by
  by_cases hm : 1 ≤ m ∧ m ≤ 10
  · have hc : ((List.range 11).all fun k => decide ((mnameS (k : Int)).length ≤ 5)) = true := by decide +kernel
    have := List.all_eq_true.1 hc m.toNat (List.mem_range.2 (by omega))
    rw [decide_eq_true_eq, show ((m.toNat : Nat) : Int) = m by omega] at this
    exact this
  · rw [mname_out hm]; decide
theorem oname_len (o : Int) : (onameS o).length ≤ 5 := by
  by_cases ho : 1 ≤ o ∧ o ≤ 13
  · have hc : ((List.range 14).all fun k => decide ((onameS (k : Int)).length ≤ 5)) = true := by decide +kernel
    have := List.all_eq_true.1 hc o.toNat (List.mem_range.2 (by omega))
    rw [decide_eq_true_eq, show ((o.toNat : Nat) : Int) = o by omega] at this
    exact this
  · rw [oname_out ho]; decide
def nameB (v : Val) : Bool := rightV v && (decide (v.k = 1) || decide (v.k = 2))
def nameE (s : Bs) : Int := if ((parseV s).2 = 0 ∧ nameB (parseV s).1 = false) then 2 else (parseV s).2
/-! The readings of the two: word by word. -/
section
variable {l : List Bs} {a k o : Bs}
variable (h3 : l[3]? = some a) (hm : ¬ (modelS a).1 = 0)
include h3 hm
variable (h4 : l[4]? = some k) (hk : nameE k = 0)
include h4 hk
variable (h5 : l[5]? = some o) (ho : (findS (modelS a).1 (opS o).1).2 = true)
include h5 ho
variable {i : Nat} {xs : List Val} {ds : List Int} (hd : ds = doms (findS (modelS a).1 (opS o).1).1.ins) (ha : argsL ds (l.drop 6) 0 = (xs ++ (argsL (ds.drop i) (l.drop (6 + i)) 0).1, (argsL (ds.drop i) (l.drop (6 + i)) 0).2))
include hd ha
omit h3 hm h4 hk h5 ho hd in
end
/-! A whole line. -/
section
variable {l : List Bs} {a c t : Bs}
def C9 (a : Bs) : Except Int Int := countS a 9223372036854775807
variable (h0 : l[0]? = some a) (he : erv (C9 a) = 0)
include h0 he
variable (h1 : l[1]? = some c) (hc : nameE c = 0)
include h1 hc
variable (h2 : l[2]? = some t)
include h2
end
theorem same_val (a b : Val) : (decide (a.k = b.k) && (decide (a.n = b.n) && (a.s == b.s && true))) = decide (a = b) := by
  rw [Bool.eq_iff_iff]
  simp only [Bool.and_eq_true, decide_eq_true_eq, beq_iff_eq, and_true]
  obtain ⟨k, n, s⟩ := a
  obtain ⟨k', n', s'⟩ := b
  simp [Val.mk.injEq]

theorem val_eq {a b : Val} (h : (decide (a.k = b.k) && (decide (a.n = b.n) && (a.s == b.s && true))) = true) : a = b := by
  obtain ⟨k, n, s⟩ := a
  obtain ⟨k', n', s'⟩ := b
  simp at h
  obtain ⟨rfl, rfl, rfl⟩ := h
  rfl
theorem val_ne {a b : Val} (h : (decide (a.k = b.k) && (decide (a.n = b.n) && (a.s == b.s && true))) = false) : ¬ a = b := by
  rintro rfl
  simp at h
theorem take_snoc_eq7 {α : Type} {a b : List α} {i : Nat} (h : a.take i = b.take i) (ha : i < a.length) (hb : i < b.length) (e : a[i] = b[i]) : a.take (i + 1) = b.take (i + 1) := by
  rw [List.take_add_one, List.take_add_one, h, List.getElem?_eq_getElem ha, List.getElem?_eq_getElem hb, e]
def EvSm (x : Evt) : Prop := x.args.length ≤ 9223372036854775807 ∧ x.out.length ≤ 9223372036854775807
def fitsL : List Int → List Val → Bool
  | [], [] => true
  | d :: ds, v :: vs => takesB d v && fitsL ds vs
  | _, _ => false
theorem fitsL_len : ∀ {ds : List Int} {l : List Val}, fitsL ds l = true → ds.length = l.length
  | [], [], _ => rfl
  | d :: ds, v :: vs, h => by
    rw [fitsL, Bool.and_eq_true] at h
    simp [fitsL_len h.2]
  | [], _ :: _, h => by cases h
  | _ :: _, [], h => by cases h
theorem fitsL_ne {ds : List Int} {l : List Val} (h : ¬ ds.length = l.length) : fitsL ds l = false := by
  cases e : fitsL ds l with
  | false => rfl
  | true => exact absurd (fitsL_len e) h
theorem fitsL_end {ds : List Int} {l : List Val} {i : Nat} (h : ds.length = l.length) (hi : ds.length ≤ i) : fitsL (ds.drop i) (l.drop i) = true := by
  rw [List.drop_eq_nil_of_le hi, List.drop_eq_nil_of_le (by omega)]; rfl
theorem fitsL_step {ds : List Int} {l : List Val} {i : Nat} (h : ds.length = l.length) (hi : i < ds.length) : fitsL (ds.drop i) (l.drop i) = (takesB (ds.getD ((i : Nat) : Int).toNat 0) (l.getD ((i : Nat) : Int).toNat ⟨0, 0, []⟩) && fitsL (ds.drop (i + 1)) (l.drop (i + 1))) := by
  rw [List.drop_eq_getElem_cons hi, List.drop_eq_getElem_cons (by omega : i < l.length), fitsL]
  simp [hi, (by omega : i < l.length)]
def notedB (e : Evt) : Bool := (decide ((e.note.length : Int) ≤ 100) && !decide (0 ≤ Lib.indexByte e.note 10)) && (e.noted || e.note == [])
def rightE (e : Evt) : Bool :=
  if ((decide (e.time < 0) || !takesB 0 e.client) || !notedB e) = true then false
  else if e.type = 1 then ((((argsD e.model e.op).2 && takesB 1 e.key) && fitsL (argsD e.model e.op).1 e.args) && decide ((e.out.length : Int) = 0))
  else if (((!decide (e.model = 0) || !decide (e.op = 0)) || !(decide (e.key.k = 0) && (decide (e.key.n = 0) && (e.key.s == [] && true)))) || decide (0 < (e.args.length : Int))) = true then false
  else e.out.all rightV && (decide (e.type = 2) || ((decide (e.type = 3) || decide (e.type = 4)) && decide ((e.out.length : Int) = 0)))
theorem all_drop {α : Type} {p : α → Bool} {l : List α} {i : Nat} {d : α} (hi : i < l.length) : (l.drop i).all p = (p (l.getD ((i : Nat) : Int).toNat d) && (l.drop (i + 1)).all p) := by
  rw [List.drop_eq_getElem_cons hi, List.all_cons]
  simp [hi]
theorem all_end {α : Type} {p : α → Bool} {l : List α} {i : Nat} (hi : l.length ≤ i) : (l.drop i).all p = true := by rw [List.drop_eq_nil_of_le hi]; rfl

theorem val_mem {l : List Val} {i : Nat} {d : Val} (h : i < l.length) : l.getD i d ∈ l := by
  rw [List.getD_eq_getElem?_getD, List.getElem?_eq_getElem h]
  exact List.getElem_mem h
theorem right_head {e : Evt} (h : rightE e = true) : ¬ e.time < 0 ∧ takesB 0 e.client = true ∧ notedB e = true := by
  unfold rightE at h
  split at h
  · cases h
  · rename_i h1
    simp only [Bool.or_eq_true, decide_eq_true_eq, Bool.not_eq_true', not_or, Bool.not_eq_false] at h1
    exact ⟨h1.1.1, h1.1.2, h1.2⟩
theorem right_inv {e : Evt} (h : rightE e = true) (ht : e.type = 1) : (argsD e.model e.op).2 = true ∧ takesB 1 e.key = true ∧ fitsL (argsD e.model e.op).1 e.args = true ∧ e.out = [] := by
  unfold rightE at h
  split at h
  · cases h
  · simp only [Bool.and_eq_true, decide_eq_true_eq] at h
    exact ⟨h.1.1.1, h.1.1.2, h.1.2, List.length_eq_zero_iff.1 (by omega)⟩
theorem right_end {e : Evt} (h : rightE e = true) (ht : ¬ e.type = 1) : e.model = 0 ∧ e.op = 0 ∧ e.key = ⟨0, 0, []⟩ ∧ e.args = [] ∧ e.out.all rightV = true ∧ (e.type = 2 ∨ (e.type = 3 ∨ e.type = 4) ∧ e.out = []) := by
  unfold rightE at h
  split at h
  · cases h
  · split at h
    · cases h
    · rename_i h2
      simp only [Bool.or_eq_true, Bool.not_eq_true', decide_eq_false_iff_not, decide_eq_true_eq, not_or, Bool.not_eq_false, Decidable.not_not, Bool.and_eq_true, beq_iff_eq, and_true] at h2
      simp only [Bool.and_eq_true, Bool.or_eq_true, decide_eq_true_eq] at h
      obtain ⟨⟨⟨h3, h4⟩, h5⟩, h6⟩ := h2
      refine ⟨h3, h4, ?_, List.length_eq_zero_iff.1 (by omega), h.1, h.2.imp id fun h7 => ⟨h7.1, List.length_eq_zero_iff.1 (by omega)⟩⟩
      cases hk : e.key
      rw [hk] at h5
      obtain ⟨rfl, rfl, rfl⟩ := h5
      rfl
theorem right_type {e : Evt} (h : rightE e = true) : 1 ≤ e.type ∧ e.type ≤ 4 := by
  by_cases ht : e.type = 1
  · omega
  · have := (right_end h ht).2.2.2.2.2
    omega
theorem right_args {e : Evt} (h : rightE e = true) : e.args.length ≤ 2 := by
  by_cases ht : e.type = 1
  · have := fitsL_len (right_inv h ht).2.2.1
    have := args_len e.model e.op
    omega
  · rw [(right_end h ht).2.2.2.1]; decide
theorem takes_right {d : Int} {v : Val} (h : takesB d v = true) : rightV v = true := by
  unfold takesB at h
  split at h
  · cases h
  · rename_i h2; simpa using h2

/-! What Great counts. -/
theorem wr64 (n : Int) : I64 (IntKind.i64.wrap n) := by
  rw [IntKind.wrap_i64]
  exact ⟨by omega, by omega⟩
theorem wr_in {n : Int} (h : -9223372036854775808 ≤ n ∧ n ≤ 9223372036854775807) : IntKind.i64.wrap n = n := wrap_i64 h
def accG : Int → List Val → Int
  | n, [] => n
  | n, v :: vs => if n ≤ 2000 then accG (IntKind.i64.wrap (n + 1 + (v.s.length : Int))) vs else n
def startG (e : Evt) : Int := IntKind.i64.wrap (IntKind.i64.wrap ((e.client.s.length : Int) + (e.key.s.length : Int)) + (e.note.length : Int))
def greatE (e : Evt) : Bool := decide (2000 < accG (accG (startG e) e.args) e.out)
theorem accG_step {n : Int} {l : List Val} {i : Nat} (hi : i < l.length) (hn : n ≤ 2000) : accG n (l.drop i) = accG (IntKind.i64.wrap (n + 1 + ((l.getD i ⟨0, 0, []⟩).s.length : Int))) (l.drop (i + 1)) := by
  rw [List.drop_eq_getElem_cons hi, accG, if_pos hn]
  simp [hi]
theorem accG_end {n : Int} {l : List Val} {i : Nat} (h : ¬ (i < l.length ∧ n ≤ 2000)) : accG n (l.drop i) = n := by
  by_cases hi : i < l.length
  · rw [List.drop_eq_getElem_cons hi, accG, if_neg (fun hn => h ⟨hi, hn⟩)]
  · rw [List.drop_eq_nil_of_le (by omega), accG]
theorem accG_big {l : List Val} (hl : ∀ v ∈ l, v.s.length ≤ 40) : ∀ {n : Int}, 0 ≤ n → n ≤ 3000 → accG n l ≤ 2000 → n + l.length ≤ accG n l := by
  induction l with
  | nil => intro n _ _ _; simp [accG]
  | cons v vs ih =>
    intro n h0 h1 h
    unfold accG at h ⊢
    split at h
    · rename_i hn
      rw [if_pos hn]
      have hv := hl v List.mem_cons_self
      rw [wr_in (by omega)] at h ⊢
      have := ih (fun x hx => hl x (List.mem_cons_of_mem _ hx)) (n := n + 1 + (v.s.length : Int)) (by omega) (by omega) h
      simp only [List.length_cons]
      omega
    · omega
theorem rightV_len {v : Val} (h : rightV v = true) : v.s.length ≤ 40 := by
  unfold rightV at h
  split at h
  · simp only [Bool.and_eq_true, beq_iff_eq] at h; rw [h.2]; decide
  split at h
  · simp only [beq_iff_eq] at h; rw [h]; decide
  split at h
  · simp only [isWordB, Bool.and_eq_true, decide_eq_true_eq] at h; exact h.2.1.2
  split at h
  · simp only [Bool.and_eq_true, beq_iff_eq] at h; rw [h.2]; decide
  · cases h
theorem fits_right : ∀ {ds : List Int} {l : List Val}, fitsL ds l = true → ∀ v ∈ l, rightV v = true
  | [], [], _, v, hv => by cases hv
  | d :: ds, x :: vs, h, v, hv => by
    rw [fitsL, Bool.and_eq_true] at h
    rcases List.mem_cons.1 hv with rfl | hv
    · exact takes_right h.1
    · exact fits_right h.2 v hv
  | [], _ :: _, h, _, _ => by cases h
  | _ :: _, [], h, _, _ => by cases h
theorem right_vals {e : Evt} (h : rightE e = true) : (∀ v ∈ e.args, rightV v = true) ∧ ∀ v ∈ e.out, rightV v = true := by
  by_cases ht : e.type = 1
  · obtain ⟨_, _, h3, h4⟩ := right_inv h ht
    exact ⟨fits_right h3, by rw [h4]; intro v hv; cases hv⟩
  · obtain ⟨_, _, _, h4, h5, _⟩ := right_end h ht
    exact ⟨by rw [h4]; (intro v hv; cases hv), fun v hv => List.all_eq_true.1 h5 v hv⟩
theorem right_key {e : Evt} (h : rightE e = true) : e.client.s.length ≤ 40 ∧ e.key.s.length ≤ 40 ∧ e.note.length ≤ 100 := by
  obtain ⟨_, h2, h3⟩ := right_head h
  refine ⟨rightV_len (takes_right h2), ?_, ?_⟩
  · by_cases ht : e.type = 1
    · exact rightV_len (takes_right (right_inv h ht).2.1)
    · rw [(right_end h ht).2.2.1]; decide
  · simp only [notedB, Bool.and_eq_true, decide_eq_true_eq] at h3; omega
theorem great_out {e : Evt} (h : rightE e = true) (hg : greatE e = false) : e.out.length ≤ 2000 := by
  have hk := right_key h
  have ha := right_args h
  have hv := right_vals h
  have hs : startG e = (e.client.s.length : Int) + e.key.s.length + e.note.length := by
    unfold startG
    rw [wr_in (n := (e.client.s.length : Int) + (e.key.s.length : Int)) (by omega), wr_in (by omega)]
  have h1 : ∀ {n : Int} {l : List Val}, (∀ v ∈ l, v.s.length ≤ 40) → l.length ≤ 2 → 0 ≤ n → n ≤ 180 → 0 ≤ accG n l ∧ accG n l ≤ 3000 := by
    intro n l hl hll h0 h1
    match l, hll with
    | [], _ => exact ⟨h0, by show n ≤ _; omega⟩
    | [x], _ =>
      have := hl x (by simp)
      rw [accG, if_pos (by omega), wr_in (by omega), accG]; omega
    | [x, y], _ =>
      have := hl x (by simp)
      have := hl y (by simp)
      rw [accG, if_pos (by omega), wr_in (by omega), accG, if_pos (by omega), wr_in (by omega), accG]; omega
  have h2 := h1 (n := startG e) (fun v hv2 => rightV_len (hv.1 v hv2)) ha (by omega) (by omega)
  unfold greatE at hg
  have h3 := of_decide_eq_false hg
  have := accG_big (fun v hv2 => rightV_len (hv.2 v hv2)) h2.1 h2.2 (by omega)
  omega

theorem name_takes (v : Val) : nameB v = takesB 0 v := by
  unfold nameB takesB
  cases rightV v <;> simp
theorem takes01 (v : Val) : takesB 1 v = takesB 0 v := by
  unfold takesB
  cases rightV v <;> simp
def fitsR (m o : Int) (l : List Val) : Bool := (argsD m o).2 && fitsL (argsD m o).1 l
theorem argsD_yes {m o : Int} (h : (findS m o).2 = true) : argsD m o = (doms (findS m o).1.ins, true) := by unfold argsD; rw [if_pos h]
theorem argsD_no {m o : Int} (h : (findS m o).2 = false) : argsD m o = ([], false) := by unfold argsD; rw [if_neg (by simp [h])]
theorem nl_no {s : Bs} (h : ∀ j (hj : j < s.length), ¬ s[j] = 10) : decide (0 ≤ Lib.indexByte s 10) = false := by rw [idx_none h]; rfl
theorem nl_yes {s : Bs} {i : Nat} (hi : i < s.length) (h : s[i] = 10) : decide (0 ≤ Lib.indexByte s 10) = true := decide_eq_true (idx_pos hi h)
theorem head_bad {e : Evt} (h : ((((decide (e.time < 0)) || (!(nameB e.client))) || (decide (100 < (e.note.length : Int)))) || ((!e.noted) && (!(e.note == [])))) = true) : rightE e = false := by
  unfold rightE
  rw [if_pos]
  rw [name_takes] at h
  unfold notedB
  simp only [Bool.or_eq_true, Bool.and_eq_true, Bool.not_eq_true', decide_eq_true_eq, Bool.and_eq_false_iff, Bool.or_eq_false_iff, decide_eq_false_iff_not, Bool.not_eq_false'] at h ⊢
  rcases h with ((h | h) | h) | h
  · exact .inl (.inl h)
  · exact .inl (.inr h)
  · exact .inr (.inl (.inl (by omega)))
  · exact .inr (.inr h)
theorem note_bad {e : Evt} {i : Nat} (hi : i < e.note.length) (h : e.note[i] = 10) : rightE e = false := by
  unfold rightE
  rw [if_pos]
  unfold notedB
  rw [nl_yes hi h]
  simp
theorem head_good {e : Evt} (h : ((((decide (e.time < 0)) || (!(nameB e.client))) || (decide (100 < (e.note.length : Int)))) || ((!e.noted) && (!(e.note == [])))) = false) (hn : ∀ j (hj : j < e.note.length), ¬ e.note[j] = 10) : ((decide (e.time < 0) || !takesB 0 e.client) || !notedB e) = false := by
  rw [name_takes] at h
  unfold notedB
  rw [nl_no hn]
  simp only [Bool.or_eq_false_iff, Bool.and_eq_false_iff, Bool.not_eq_false', decide_eq_false_iff_not, Bool.and_eq_true, Bool.or_eq_true, decide_eq_true_eq, Bool.not_false, and_true] at h ⊢
  obtain ⟨⟨⟨h1, h2⟩, h3⟩, h4⟩ := h
  exact ⟨⟨h1, h2⟩, by omega, h4⟩
theorem right_one {e : Evt} (hd : ((decide (e.time < 0) || !takesB 0 e.client) || !notedB e) = false) (ht : e.type = 1) : rightE e = (((fitsR e.model e.op e.args) && (nameB e.key)) && (decide ((e.out.length : Int) = 0))) := by
  unfold rightE fitsR
  rw [if_neg (by rw [hd]; simp), if_pos ht, name_takes, takes01]
  cases (argsD e.model e.op).2 <;> cases takesB 0 e.key <;> simp
theorem right_bad {e : Evt} (hd : ((decide (e.time < 0) || !takesB 0 e.client) || !notedB e) = false) (ht : ¬ e.type = 1)
    (h : ((((((decide (e.type < 2)) || (decide (4 < e.type))) || (!decide (e.model = 0))) || (!decide (e.op = 0))) || (!(decide (e.key.k = 0) && (decide (e.key.n = 0) && (e.key.s == [] && true))))) || (decide (0 < (e.args.length : Int)))) = true) : rightE e = false := by
  unfold rightE
  rw [if_neg (by rw [hd]; simp), if_neg ht]
  split
  · rfl
  · rename_i h2
    simp only [Bool.or_eq_true, not_or] at h h2
    have ho : e.type < 2 ∨ 4 < e.type := by
      rcases h with ((((h | h) | h) | h) | h) | h
      · exact .inl (of_decide_eq_true h)
      · exact .inr (of_decide_eq_true h)
      · exact absurd h h2.1.1.1
      · exact absurd h h2.1.1.2
      · exact absurd h h2.1.2
      · exact absurd h h2.2
    rw [decide_eq_false (by omega : ¬ e.type = 2), decide_eq_false (by omega : ¬ e.type = 3), decide_eq_false (by omega : ¬ e.type = 4)]
    simp
theorem right_rest {e : Evt} (hd : ((decide (e.time < 0) || !takesB 0 e.client) || !notedB e) = false) (ht : ¬ e.type = 1)
    (h : ((((((decide (e.type < 2)) || (decide (4 < e.type))) || (!decide (e.model = 0))) || (!decide (e.op = 0))) || (!(decide (e.key.k = 0) && (decide (e.key.n = 0) && (e.key.s == [] && true))))) || (decide (0 < (e.args.length : Int)))) = false) : rightE e = (e.out.all rightV && ((decide (e.type = 2)) || (decide ((e.out.length : Int) = 0)))) := by
  unfold rightE
  rw [if_neg (by rw [hd]; simp), if_neg ht]
  simp only [Bool.or_eq_false_iff] at h
  obtain ⟨⟨⟨⟨⟨h1, h2⟩, h3⟩, h4⟩, h5⟩, h6⟩ := h
  rw [if_neg (by rw [h3, h4, h5, h6]; simp)]
  have h1' := of_decide_eq_false h1
  have h2' := of_decide_eq_false h2
  have : e.type = 2 ∨ e.type = 3 ∨ e.type = 4 := by omega
  rcases this with e1 | e1 | e1 <;> rw [e1] <;> simp
end Go.Proofs.YtnfadpkhjfillaaDoor.T28
