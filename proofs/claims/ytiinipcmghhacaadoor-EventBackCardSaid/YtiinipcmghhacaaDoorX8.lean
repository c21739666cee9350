/- The program's own kinds: value, event, rule, policy. -/
import Derived.Test.YtiinipcmghhacaaDoorX7
import Derived.ProofKit
import Derived.Deep.Slices
import Derived.OpenShut
import Derived.SizedLaws
set_option linter.unusedVariables false
set_option linter.unusedSimpArgs false
namespace Go.Proofs.YtiinipcmghhacaaDoor.X
open Go
/-! ## The program's own kinds -/
structure Val where
  k : Int
  n : Int
  s : Bs deriving DecidableEq
structure Evt where
  time : Int
  client : Val
  type : Int
  model : Int
  key : Val
  op : Int
  args : List Val
  out : List Val
  noted : Bool
  note : Bs deriving DecidableEq
structure Rul where
  way : Int
  size : Int deriving DecidableEq
structure Pol where
  r0 : Rul
  r1 : Rul
  r2 : Rul
  r3 : Rul
  r4 : Rul
  time : Int
  note : Int
  loose : Bool
  force : Bool deriving DecidableEq
abbrev valCells (x : Val) : List Value := [.int .i64 x.k, .int .i64 x.n, str x.s]
def kVal : Knd Val where
  sz := 3
  R := fun _ x cs => cs = valCells x
  len := by rintro G x cs rfl; rfl
  le := fun _ h => h
abbrev evtCells (x : Evt) (A1 : Option Addr) (c1 : Nat) (A2 : Option Addr) (c2 : Nat) : List Value :=
  [.int .i64 x.time, .int .i64 x.client.k, .int .i64 x.client.n, str x.client.s, .int .i64 x.type, .int .i64 x.model, .int .i64 x.key.k, .int .i64 x.key.n, str x.key.s, .int .i64 x.op, .slice A1 x.args.length c1, .slice A2 x.out.length c2, .bool x.noted, str x.note]
def kEvt : Knd Evt where
  sz := 14
  R := fun G x cs => ∃ A1 c1 A2 c2, cs = evtCells x A1 c1 A2 c2 ∧ x.args.length ≤ c1 ∧ Rd kVal G A1 x.args ∧ x.out.length ≤ c2 ∧ Rd kVal G A2 x.out
  len := by rintro G x cs ⟨A1, c1, A2, c2, rfl, _⟩; rfl
  le := by
    rintro G G' x cs h ⟨A1, c1, A2, c2, rfl, h1, h2, h3, h4⟩
    exact ⟨A1, c1, A2, c2, rfl, h1, h2.le h, h3, h4.le h⟩
theorem kVal_open {G : Heap} {b o : Nat} {x : Val} (h : ElAt kVal G b o x) : CellsAt G b o (valCells x) := by
  obtain ⟨cs, h1, h2⟩ := h
  cases h1
  exact h2
theorem kEvt_open {G : Heap} {b o : Nat} {x : Evt} (h : ElAt kEvt G b o x) : ∃ A1 c1 A2 c2, CellsAt G b o (evtCells x A1 c1 A2 c2) ∧ x.args.length ≤ c1 ∧ Rd kVal G A1 x.args ∧ x.out.length ≤ c2 ∧ Rd kVal G A2 x.out := by
  obtain ⟨cs, ⟨A1, c1, A2, c2, rfl, h1, h2, h3, h4⟩, h5⟩ := h
  exact ⟨A1, c1, A2, c2, h5, h1, h2, h3, h4⟩
theorem CellsAt.part {G : Heap} {b o : Nat} {cs : List Value} (h : CellsAt G b o cs) (j n : Nat) : CellsAt G b (o + j) ((cs.drop j).take n) := by
  intro k v hk
  have h1 : cs[j + k]? = some v := by
    rw [List.getElem?_take] at hk
    split at hk
    · simpa using hk
    · cases hk
  rw [Nat.add_assoc]
  exact h _ _ h1
abbrev polCells (p : Pol) : List Value := [.int .i64 p.r0.way, .int .i64 p.r0.size, .int .i64 p.r1.way, .int .i64 p.r1.size, .int .i64 p.r2.way, .int .i64 p.r2.size, .int .i64 p.r3.way, .int .i64 p.r3.size, .int .i64 p.r4.way, .int .i64 p.r4.size, .int .i64 p.time, .int .i64 p.note, .bool p.loose, .bool p.force]
end Go.Proofs.YtiinipcmghhacaaDoor.X
