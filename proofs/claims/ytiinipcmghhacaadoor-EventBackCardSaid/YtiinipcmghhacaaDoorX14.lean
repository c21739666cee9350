/- Structs compared. -/
import Derived.Test.YtiinipcmghhacaaDoorX13
import Derived.Test.YtiinipcmghhacaaDoorX11
import Derived.Laws.StructEq
set_option linter.unusedVariables false
set_option linter.unusedSimpArgs false
namespace Go.Proofs.YtiinipcmghhacaaDoor.X
open Go
/-! ## Structs compared -/
def flatF (P : Program) : Nat → List Field → Option (List Lf)
  | _, [] => some []
  | off, f :: r => if f.name == "_" then none else if f.offset = off then
      match P.underlying f.type with
      | some (.int k) => (flatF P (off + 1) r).map (Lf.int k :: ·)
      | some .bool => (flatF P (off + 1) r).map (Lf.bool :: ·)
      | some .string => (flatF P (off + 1) r).map (Lf.str :: ·)
      | _ => none
    else none
def flatT (P : Program) (t : TypeId) : Option (List Lf) := match P.underlying t with
  | some (.struct fs) => if P.stoodInHeld t = false ∧ P.eqGuardType P.depth t = false then flatF P 0 fs.toList else none
  | _ => none
def fitL : List Lf → List Value → List Value → Bool
  | [], [], [] => true
  | .int k :: ls, .int a _ :: xs, .int b _ :: ys => k == a && (k == b && fitL ls xs ys)
  | .bool :: ls, .bool _ :: xs, .bool _ :: ys => fitL ls xs ys
  | .str :: ls, .string _ :: xs, .string _ :: ys => fitL ls xs ys
  | _, _, _ => false
def eqV : Value → Value → Bool
  | .int _ a, .int _ b => decide (a = b)
  | .bool a, .bool b => a == b
  | .string a, .string b => a.data.toList == b.data.toList
  | _, _ => false
def eqVs : List Value → List Value → Bool
  | x :: xs, y :: ys => eqV x y && eqVs xs ys
  | _, _ => true
section
variable {P : Program} {w : World}
theorem part_at {t : TypeId} {cs : Array Value} {off : Nat} {v : Value} (ht : (isAgg t).run P w = .ok false w) (h : cs[off]? = some v) : (part t cs off).run P w = .ok v w := by
  simp [part, ht, h]
def scTd : TypeDesc → Bool
  | .int _ | .bool | .string => true
  | _ => false
theorem isAgg_of {t : TypeId} {td : TypeDesc} (hu : P.underlying t = some td) (h : scTd td = true) : (isAgg t).run P w = .ok false w := by
  cases td <;> simp [scTd] at h <;> simp [isAgg, run_underlying hu]
theorem run_flat (d : Nat) (xs ys : Array Value) : ∀ (fs : List Field) (off : Nat) (ls : List Lf), flatF P off fs = some ls → fitL ls (xs.toList.drop off) (ys.toList.drop off) = true → (Op.eqFields (d + 1) xs ys fs).run P w = .ok (eqVs (xs.toList.drop off) (ys.toList.drop off)) w := by
  intro fs
  induction fs with
  | nil =>
    intro off ls h hf
    simp only [flatF, Option.some.injEq] at h
    subst h
    generalize xs.toList.drop off = a at *
    generalize ys.toList.drop off = b at *
    cases a <;> cases b <;> simp [fitL] at hf
    simp [Op.eqFields, eqVs]
  | cons f r ih =>
    intro off ls h hf
    unfold flatF at h
    split at h
    · cases h
    rename_i hn
    have hn' : f.name ≠ "_" := by simpa using hn
    split at h
    · rename_i ho
      have step : ∀ (td : TypeDesc) (l : Lf) (ls' : List Lf), P.underlying f.type = some td → scTd td = true → flatF P (off + 1) r = some ls' → ls = l :: ls' →
          (∀ a b, fitL (l :: ls') (a :: xs.toList.drop (off + 1)) (b :: ys.toList.drop (off + 1)) = true → fitL ls' (xs.toList.drop (off + 1)) (ys.toList.drop (off + 1)) = true ∧ (Op.equalIn (d + 1) f.type a b).run P w = .ok (eqV a b) w) →
          (Op.eqFields (d + 1) xs ys (f :: r)).run P w = .ok (eqVs (xs.toList.drop off) (ys.toList.drop off)) w := by
        intro td l ls' hu htd hr hls hfit
        subst hls
        have ha : (isAgg f.type).run P w = .ok false w := isAgg_of hu htd
        have hx : ∃ a, xs.toList.drop off = a :: xs.toList.drop (off + 1) := by
          rcases Nat.lt_or_ge off xs.toList.length with h | h
          · exact ⟨_, List.drop_eq_getElem_cons h⟩
          · rw [List.drop_of_length_le h] at hf
            generalize ys.toList.drop off = b at hf
            cases l <;> cases b <;> simp [fitL] at hf
        have hy : ∃ a, ys.toList.drop off = a :: ys.toList.drop (off + 1) := by
          rcases Nat.lt_or_ge off ys.toList.length with h | h
          · exact ⟨_, List.drop_eq_getElem_cons h⟩
          · rw [List.drop_of_length_le h] at hf
            generalize xs.toList.drop off = b at hf
            cases l <;> cases b <;> simp [fitL] at hf
            all_goals (rename_i z _; cases z <;> simp [fitL] at hf)
        obtain ⟨a, hxa⟩ := hx
        obtain ⟨b, hyb⟩ := hy
        have hax : xs[off]? = some a := by
          have : xs.toList[off]? = some a := by rw [← List.head?_drop, hxa]; rfl
          simpa using this
        have hby : ys[off]? = some b := by
          have : ys.toList[off]? = some b := by rw [← List.head?_drop, hyb]; rfl
          simpa using this
        rw [hxa, hyb] at hf ⊢
        obtain ⟨h1, h2⟩ := hfit a b hf
        have h3 := ih (off + 1) ls' hr h1
        rw [Op.eqFields]
        simp only [if_pos hn', Sem.run_bind, part_at ha (ho ▸ hax), part_at ha (ho ▸ hby), h2, Result.andThen_ok]
        cases hv : eqV a b
        · simp [eqVs, hv]
        · simp [eqVs, hv, h3]
      split at h
      · rename_i k hu
        obtain ⟨ls', hr, rfl⟩ := Option.map_eq_some_iff.1 h
        refine step _ _ ls' hu rfl hr rfl fun a b hfit => ?_
        cases a <;> cases b <;> simp [fitL] at hfit
        obtain ⟨rfl, rfl, hfit⟩ := hfit
        exact ⟨hfit, by rw [run_equalIn_int w d f.type _ k _ _ hu]; rfl⟩
      · rename_i hu
        obtain ⟨ls', hr, rfl⟩ := Option.map_eq_some_iff.1 h
        refine step _ _ ls' hu rfl hr rfl fun a b hfit => ?_
        cases a <;> cases b <;> simp [fitL] at hfit
        exact ⟨hfit, by rw [run_equalIn_bool' w d f.type _ _ hu]; rfl⟩
      · rename_i hu
        obtain ⟨ls', hr, rfl⟩ := Option.map_eq_some_iff.1 h
        refine step _ _ ls' hu rfl hr rfl fun a b hfit => ?_
        cases a <;> cases b <;> simp [fitL] at hfit
        exact ⟨hfit, by rw [run_equalIn_string w d f.type _ _ hu]; simp [eqV, ByteArray.toList_eq]⟩
      · cases h
    · cases h
variable {Q : Exit → Act → World → Prop} {a : Act} {N : Nat} {D : List Deferred} {L : List (Nat × Value)} {ops : Array Oper} {rest : List Oper}
variable {d : Nat} {ty : TypeId} {pos : String} {af : Array Edge}
theorem o_eqA {t t' : TypeId} {x y : Operand} {xs ys : Array Value} {ls : List Lf} (hE : Env a N D L) (hN : Nat.blt d N = true) (hx : ev L x = some (.agg xs)) (hy : ev L y = some (.agg ys)) (ht : flatT P t = some ls) (hf : fitL ls xs.toList ys.toList = true) {b : Bool} (hb : eqVs xs.toList ys.toList = b)
    (k : ∀ a', Env a' N D ((d, .bool b) :: L) → wpList P ops Q rest a' w) : wpList P ops Q (⟨some d, .binOp .eql t x y t', ty, pos, af, none⟩ :: rest) a w :=
  op_val rfl rfl hE hN (by
    subst hb
    unfold flatT at ht
    split at ht
    · rename_i fs hu
      split at ht
      · rename_i hc
        have e1 : P.fieldsOf t = fs := by simp [Program.fieldsOf, hu]
        have h1 : (eqGuard .eql t x y (.agg xs) (.agg ys)).run P w = .ok () w := by simp [eqGuard, hc.2]
        have h2 : (Op.equal t (.agg xs) (.agg ys)).run P w = .ok (eqVs xs.toList ys.toList) w := by
          show (Op.equalIn (9998 + 1 + 1) t (.agg xs) (.agg ys)).run P w = _
          rw [run_equalIn_struct (P := P) w _ t xs ys (by rw [e1]; exact hu) hc.1, e1]
          exact run_flat 9998 xs ys fs.toList 0 ls ht hf
        have h3 : (binOp .eql t (.agg xs) (.agg ys)).run P w = .ok (.bool (eqVs xs.toList ys.toList)) w := by simp [binOp, h2]
        simp [execOp, hE.eval hx, hE.eval hy, h1, h3]
      · cases ht
    · cases ht) k
end
end Go.Proofs.YtiinipcmghhacaaDoor.X
