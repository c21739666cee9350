/- Own text. -/
import Derived.Test.YtngoaapgdfohjaaGreatDoorW11
import Derived.Test.YtngoaapgdfohjaaGreatDoorW7
set_option linter.unusedVariables false
set_option linter.unusedSimpArgs false
set_option maxRecDepth 100000
set_option maxHeartbeats 4000000
namespace Go.Proofs.YtngoaapgdfohjaaGreatDoor.T27
open Go Go.Proofs.YtngoaapgdfohjaaGreatDoor.X Go.Proofs Go.Proofs.YtngoaapgdfohjaaGreatDoor.T28 Go.Proofs.YtngoaapgdfohjaaGreatDoor.TS Go.Proofs.YtngoaapgdfohjaaGreatDoor.TK
/-! ## A book's lines read: what they say -/
def nmW : Bs := [110, 97, 109, 101]
def tmW : Bs := [116, 105, 109, 101]
def ntW : Bs := [110, 111, 116, 101]
def lettersW : Bs := [99, 107, 118, 102, 111]
def entOkB (w : List Bs) : Bool := decide (w.length = 4) && (((decide ((w.getD 1 []).length = 1) && decide (0 ≤ Lib.index lettersW (w.getD 1 []))) && decide ((parseV (w.getD 2 [])).2 = 0)) && decide ((parseV (w.getD 3 [])).2 = 0))
def entX (w : List Bs) : Ent := ⟨Lib.index lettersW (w.getD 1 []), (parseV (w.getD 2 [])).1, (parseV (w.getD 3 [])).1⟩
def isName (w : List Bs) (noted : Bool) : Bool := (w.getD 0 [] == nmW) && !noted
def isTime (w : List Bs) (noted : Bool) : Bool := ((w.getD 0 [] == tmW) && decide ((w.length : Int) = 3)) && !noted
def isNote (w : List Bs) (noted : Bool) : Bool := ((w.getD 0 [] == ntW) && decide ((w.length : Int) = 2)) && noted
def momOkB (w : List Bs) : Bool := decide (erv (parseS (w.getD 1 [])) = 0) && decide (erv (parseS (w.getD 2 [])) = 0)
def remOkB (w : List Bs) : Bool := decide (erv (countS (w.getD 1 []) 2147483647) = 0)
def rowW (b : Book) (w : List Bs) (note : Bs) (noted : Bool) : Option Book :=
  if isName w noted = true then (if entOkB w = true then some { b with es := b.es ++ [entX w] } else none)
  else if isTime w noted = true then (if momOkB w = true then some { b with ms := b.ms ++ [⟨okv (parseS (w.getD 1 [])), okv (parseS (w.getD 2 []))⟩] } else none)
  else if isNote w noted = true then (if remOkB w = true then some { b with rs := b.rs ++ [⟨okv (countS (w.getD 1 []) 2147483647), note⟩] } else none)
  else none
def rowS (b : Book) (s : Bs) : Option Book := if (noteS s).2.2.2 = 0 ∧ (wordsS (noteS s).1).2 = 0 then rowW b (wordsS (noteS s).1).1 (noteS s).2.1 (noteS s).2.2.1 else none
/-! ## Giving up -/
abbrev TF : Nat := 59
abbrev bad10 : Value := .agg #[.int .i64 10, .int .i64 0]
instance : NIf Tryz.prog 59 := ⟨by kernel_rfl⟩
theorem f_must (ok : Bool) (G : Heap) : FnT Tryz.prog 59 [.bool ok] G [] TF (fun v _ Ms => Ms = [] ∧ ok = true) (fun e => ok = false ∧ e = bad10) := by
  refine fnT_in Tryz.func59 rfl Tryz.ntmps59 rfl fun w0 K0 Q0 hQ => ?_
  refine go ?_
  refine w_cond rfl (fun h => ?_) (fun h => ?_)
  · have h' : ok = false := by simpa using h
    refine go ?_
    refine w_stp (p_build (cs := #[.int .i64 10, .int .i64 0]) rfl rfl (by kernel_rfl)) ?_
    refine w_stp (p_mkIf rfl rfl) ?_
    exact w_panic hQ rfl ⟨h', rfl⟩
  · have h' : ok = true := by simpa using h
    refine go ?_
    exact w_endT hQ .nil ⟨rfl, h'⟩ .nil
theorem c_Index (s t : Bs) (G : Heap) (g : Gl G) (hs : s.length ≤ 4294967280) : FnP Tryz.prog 93 [str s, str t] G (.int .i64 (Lib.index s t)) := fun w hw =>
  let ⟨m, h⟩ := g.ml
  calls_same hw (Tryz.strings_Index ⟨s.toArray⟩ ⟨t.toArray⟩ m w (by simp [ByteArray.size]; omega) (hw.cell (h 0 _ rfl)))
section
attribute [local irreducible] parseV
theorem f_entry (w : List Bs) (A : Option Addr) (c : Nat) (hx : ∀ x ∈ w, x.length ≤ 4294967280) (G : Heap) (g : Gl G) (hR : Rd Knd.s G A w) :
    FnT Tryz.prog 138 [.slice A w.length c] G [] TF (fun v _ Ms => Ms = [] ∧ entOkB w = true ∧ v = vE (entX w)) (fun e => entOkB w = false ∧ e = bad10) := by
  refine fnT_in Tryz.func138 rfl Tryz.ntmps138 rfl fun w0 K0 Q0 hQ => ?_
  refine go ?_; intro B2
  refine go ?_
  refine w_callX rfl rfl rfl (f_must (decide ((w.length : Int) = 4)) _) .nil (kpT hQ ?_) fun v G1 Ms _ hr => ?_
  · rintro e ⟨h, rfl⟩
    refine ⟨?_, rfl⟩
    have : ¬ w.length = 4 := fun h4 => (of_decide_eq_false h) (by omega)
    unfold entOkB
    rw [decide_eq_false this]; rfl
  obtain ⟨rfl, h4⟩ := hr
  have hl4 : w.length = 4 := by have := of_decide_eq_true h4; omega
  have h2l := hx _ (cnt_at (l := w) (i := 2) (by omega))
  have h3l := hx _ (cnt_at (l := w) (i := 3) (by omega))
  refine go ?_
  refine w_stp (p_call rfl rfl rfl (c_Index lettersW (w.getD 1 []) _ g.up (by decide))) ?_
  refine go ?_
  refine w_stp (p_call rfl rfl rfl (c_ParseV (w.getD 2 []) (by omega) _ g.up)) ?_
  refine go ?_; intro B4
  refine go ?_
  refine w_stp (p_call rfl rfl rfl (c_ParseV (w.getD 3 []) (by omega) _ g.up)) ?_
  refine go ?_; intro B6
  refine go ?_
  refine w_and (y := decide (0 ≤ Lib.index lettersW (w.getD 1 []))) 38 35 rfl (fun h => ?_) (fun h => ?_) ?_
  · refine go ?_; exact w_at
  · refine go ?_; exact w_at
  refine go ?_
  refine w_and (y := decide ((parseV (w.getD 2 [])).2 = 0)) 42 39 rfl (fun h => ?_) (fun h => ?_) ?_
  · refine go ?_; exact w_at
  · refine go ?_; exact w_at
  refine go ?_
  refine w_and (y := decide ((parseV (w.getD 3 [])).2 = 0)) 46 43 rfl (fun h => ?_) (fun h => ?_) ?_
  · refine go ?_; exact w_at
  · refine go ?_; exact w_at
  have he : entOkB w = (((decide (((w.getD 1 []).length : Int) = 1) && decide (0 ≤ Lib.index lettersW (w.getD 1 []))) && decide ((parseV (w.getD 2 [])).2 = 0)) && decide ((parseV (w.getD 3 [])).2 = 0)) := by
    unfold entOkB
    rw [decide_eq_true hl4, Bool.true_and]
    congr 3
    exact decide_eq_decide.2 (by omega)
  refine w_callX rfl rfl rfl (f_must _ _) .nil (kpT hQ ?_) fun v G1 Ms _ hr => ?_
  · rintro e ⟨h, rfl⟩
    exact ⟨he.trans h, rfl⟩
  obtain ⟨rfl, h5⟩ := hr
  refine go ?_
  refine w_stp (p_build (cs := (entCells (entX w)).toArray) rfl rfl (by kernel_rfl)) ?_
  refine go ?_
  exact w_retT hQ .nil ⟨rfl, he.trans h5, rfl⟩
end
end Go.Proofs.YtngoaapgdfohjaaGreatDoor.T27
