/- Histories read. -/
import Derived.Test.YtiinipcmghhacaaGreatDoorZD6
set_option linter.unusedVariables false
set_option linter.unusedSimpArgs false
namespace Go.Proofs.YtiinipcmghhacaaGreatDoor.T10
open Go Go.Proofs.YtiinipcmghhacaaGreatDoor.X
instance : UN Tryz.prog 30 (.slice 26) := ⟨Tryz.underlying30⟩
instance : LZ Tryz.prog 36 [(0, .int .i64 0), (1, .int .i64 0)] := ⟨⟨.agg #[.int .i64 0, .int .i64 0], by kernel_rfl, ⟨rfl, rfl, trivial⟩⟩⟩
theorem T.a36 : aggSz Tryz.prog 36 = some 2 := by kernel_rfl
instance : AG Tryz.prog 36 2 := ⟨T.a36⟩
theorem T.f36_0 : fieldOff Tryz.prog 36 0 = some 0 := by kernel_rfl
instance : FO Tryz.prog 36 0 0 := ⟨T.f36_0⟩
theorem T.g38 : goFn Tryz.prog 38 = true := by kernel_rfl
theorem T.g39 : goFn Tryz.prog 39 = true := by kernel_rfl
theorem T.l30 : slOf Tryz.prog 30 = some (26, 14) := by kernel_rfl
theorem T.p30 : apOf Tryz.prog 30 = some (26, 14, 168) := by kernel_rfl

theorem kEvt_mk {G : Heap} (x : Evt) {A1 c1 A2 c2} (h1 : x.args.length ≤ c1) (h2 : Rd kVal G A1 x.args) (h3 : x.out.length ≤ c2) (h4 : Rd kVal G A2 x.out) : kEvt.R G x (evtCells x A1 c1 A2 c2) := ⟨A1, c1, A2, c2, rfl, h1, h2, h3, h4⟩
/-- The code of a line at its place. -/
def codeH (s : Bs) (i : Int) : Int := if i = 4096 then 5 else (parseE s).2
/-- The events of lines, one by one, or the first fault and its line. -/
def histG : List Bs → Int → List Evt → List Evt × Int × Int
  | [], _, acc => (acc, 0, 0)
  | s :: r, i, acc => if codeH s i = 0 then histG r (i + 1) (acc ++ [(parseE s).1]) else ([], codeH s i, i + 1)
def histP (t : Bs) : List Evt × Int × Int := if (linesS t).2 = 0 then histG (linesS t).1 0 [] else ([], 2, (linesS t).2)
theorem histG_hit {l : List Bs} {i : Nat} {x : Bs} {acc : List Evt} (h : l[i]? = some x) (hc : codeH x (i : Int) = 0) : histG (l.drop i) (i : Int) acc = histG (l.drop (i + 1)) ((i + 1 : Nat) : Int) (acc ++ [(parseE x).1]) := by
  rw [drop_at h]
  show (if codeH x (i : Int) = 0 then _ else _) = _
  rw [if_pos hc]
  rfl
theorem histG_bad {l : List Bs} {i : Nat} {x : Bs} {acc : List Evt} {c : Int} (h : l[i]? = some x) (hc : codeH x (i : Int) = c) (h0 : ¬ c = 0) : histG (l.drop i) (i : Int) acc = ([], c, (i : Int) + 1) := by
  rw [drop_at h]
  show (if codeH x (i : Int) = 0 then _ else ([], codeH x (i : Int), _)) = _
  rw [hc, if_neg h0]
theorem codeH_many {x : Bs} {i : Int} (h : i = 4096) : codeH x i = 5 := if_pos h
theorem codeH_few {x : Bs} {i : Int} (h : ¬ i = 4096) : codeH x i = (parseE x).2 := if_neg h
def EvSm (x : Evt) : Prop := x.args.length ≤ 9223372036854775807 ∧ x.out.length ≤ 9223372036854775807
theorem histG_sm : ∀ (l : List Bs) (i : Int) (acc : List Evt), (∀ x ∈ l, x.length ≤ 9223372036854775806) → (∀ e ∈ acc, EvSm e) → ∀ e ∈ (histG l i acc).1, EvSm e
  | [], _, _, _, ha => ha
  | s :: r, i, acc, hl, ha => by
    unfold histG
    split
    · refine histG_sm r _ _ (fun x hx => hl x (List.mem_cons_of_mem _ hx)) fun e he => ?_
      rcases List.mem_append.1 he with h | h
      · exact ha e h
      · rw [List.mem_singleton] at h; subst h
        exact ⟨parse_args (hl s List.mem_cons_self), parse_out (hl s List.mem_cons_self)⟩
    · intro e he; cases he
theorem histP_sm {t : Bs} (h : t.length ≤ 9223372036854775806) : ∀ e ∈ (histP t).1, EvSm e := by
  unfold histP
  split
  · exact histG_sm _ _ _ (fun x hx => by have := lines_mem hx; omega) (fun e he => by cases he)
  · intro e he; cases he
theorem histG_len : ∀ (l : List Bs) (i : Int) (acc : List Evt), (histG l i acc).1.length ≤ acc.length + l.length
  | [], _, acc => Nat.le_refl _
  | s :: r, i, acc => by
    unfold histG
    split
    · have := histG_len r (i + 1) (acc ++ [(parseE s).1])
      simp only [List.length_append, List.length_cons, List.length_nil] at this ⊢
      omega
    · exact Nat.zero_le _
theorem histP_len (t : Bs) : (histP t).1.length ≤ t.length := by
  unfold histP
  split
  · have h1 := histG_len (linesS t).1 0 []
    have h2 := linesS_len t
    simp only [List.length_nil, Nat.zero_add] at h1
    omega
  · exact Nat.zero_le _

theorem hist_bad {t : Bs} (h : ¬ (linesS t).2 = 0) : histP t = ([], 2, (linesS t).2) := if_neg h
theorem code8_ne {n : Int} (h : ¬ code8 n = 0) : ¬ n = 0 := by intro e; subst e; exact h rfl
theorem code8_two {n : Int} (h : ¬ n = 0) : code8 n = 2 := by unfold code8; rw [if_neg h]
theorem code8_zero {n : Int} (h : code8 n = 0) : n = 0 := by
  by_cases e : n = 0
  · exact e
  · rw [code8_two e] at h; cases h
theorem lines_pos {t : Bs} : 0 ≤ (linesS t).2 := by
  unfold linesS
  split
  · exact Int.le_refl _
  · show (0 : Int) ≤ ((pcs 10 t).length : Int) + 1; omega
end Go.Proofs.YtiinipcmghhacaaGreatDoor.T10
