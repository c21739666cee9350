/- Own text. -/
import Derived.Test.YtngoaapgdfohjaaDoorH5
set_option linter.unusedVariables false
set_option linter.unusedSimpArgs false
namespace Go.Proofs.YtngoaapgdfohjaaDoor.T27K
open Go Go.Proofs.YtngoaapgdfohjaaDoor.X Go.Proofs Go.Proofs.YtngoaapgdfohjaaDoor.T27
/-- The first entry that tells this value in this domain. -/
def calledN (xs : List Ent) (d : Int) (v : Val) : Val × Bool := match xs.find? (fun x => decide (x.dom = d) && decide (x.real = v)) with
  | some x => (x.name, true)
  | none => (⟨0, 0, []⟩, false)
def keyName (ky : List Int) (r : Rul) (d : Int) (v : Val) : Val := ⟨2, 0, letterS d ++ (TK.ofS ky (letterS d) r.size (printV v)).1⟩
theorem build_key {ky : List Int} {r : Rul} {d : Int} {xs : List Val} (h : r.way = 2) : ∀ x ∈ (buildN ky r d xs).1, x.name = keyName ky r d x.real := by
  intro x hx
  unfold buildN at hx
  split at hx
  · cases hx
  · split at hx
    · cases hx
    · split at hx
      · obtain ⟨i, _, rfl⟩ := List.mem_map.1 hx
        show nameN ky r d _ i = _
        unfold nameN
        rw [if_neg (by omega), if_pos h]
        rfl
      · cases hx
theorem called_key {ky : List Int} {r : Rul} {d : Int} {xs : List Val} (h : r.way = 2) {v : Val} (hc : (calledN (buildN ky r d xs).1 d v).2 = true) : (calledN (buildN ky r d xs).1 d v).1 = keyName ky r d v := by
  unfold calledN at hc ⊢
  cases hf : (buildN ky r d xs).1.find? (fun x => decide (x.dom = d) && decide (x.real = v)) with
  | none => rw [hf] at hc; cases hc
  | some x =>
    have h1 := List.find?_some hf
    simp only [Bool.and_eq_true, decide_eq_true_eq] at h1
    show x.name = _
    rw [build_key h x (List.mem_of_find?_eq_some hf), h1.2]
/-- Under one key a value is called the same. -/
theorem keyed_same {ky : List Int} {r : Rul} {d : Int} {xa xb : List Val} (h : r.way = 2) {v : Val} (ha : (calledN (buildN ky r d xa).1 d v).2 = true) (hb : (calledN (buildN ky r d xb).1 d v).2 = true) :
    (calledN (buildN ky r d xa).1 d v).1 = (calledN (buildN ky r d xb).1 d v).1 := by rw [called_key h ha, called_key h hb]
/-- One entry more. -/
theorem called_step {xs : List Ent} {d : Int} {v : Val} {i : Nat} {E0 : Ent} (hi : i < xs.length) (h : ¬ ((xs.getD i E0).dom = d ∧ (xs.getD i E0).real = v)) : calledN (xs.drop i) d v = calledN (xs.drop (i + 1)) d v := by
  have e : xs.drop i = xs.getD i E0 :: xs.drop (i + 1) := by
    rw [List.drop_eq_getElem_cons hi, List.getD_eq_getElem?_getD, List.getElem?_eq_getElem hi, Option.getD_some]
  rw [e]
  unfold calledN
  rw [List.find?_cons_of_neg (by simpa using h)]
theorem called_here {xs : List Ent} {d : Int} {v : Val} {i : Nat} {E0 : Ent} (hi : i < xs.length) (h : (xs.getD i E0).dom = d ∧ (xs.getD i E0).real = v) : calledN (xs.drop i) d v = ((xs.getD i E0).name, true) := by
  have e : xs.drop i = xs.getD i E0 :: xs.drop (i + 1) := by
    rw [List.drop_eq_getElem_cons hi, List.getD_eq_getElem?_getD, List.getElem?_eq_getElem hi, Option.getD_some]
  rw [e]
  unfold calledN
  rw [List.find?_cons_of_pos (by simpa using h)]
theorem called_end {xs : List Ent} {d : Int} {v : Val} {i : Nat} (hi : xs.length ≤ i) : calledN (xs.drop i) d v = (⟨0, 0, []⟩, false) := by
  rw [List.drop_eq_nil_of_le hi]; rfl
/-- A text is no longer than what it is of, and a bit. -/
theorem print_short {x : Val} (h : (x.s.length : Int) ≤ 100) (hw : x.Wf) : (printV x).length ≤ 10000000 := by
  unfold printV
  split
  · decide
  split
  · decide
  split
  · have := Lib.itoa_length_le x.n hw.n.1 hw.n.2; omega
  split
  · omega
  split
  · decide
  · decide
end Go.Proofs.YtngoaapgdfohjaaDoor.T27K
