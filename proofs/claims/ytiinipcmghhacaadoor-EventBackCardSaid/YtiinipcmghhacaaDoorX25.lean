/- The ending of a body; fields of values. -/
import Derived.Test.YtiinipcmghhacaaDoorX24
set_option linter.unusedVariables false
set_option linter.unusedSimpArgs false
namespace Go.Proofs.YtiinipcmghhacaaDoor.X
open Go
theorem getD_get {α : Type} {xs : List α} {i : Nat} (h : i < xs.length) (d : α) : xs[i] = xs.getD i d := by
  rw [List.getD_eq_getElem?_getD, List.getElem?_eq_getElem h]; rfl
section
variable {P : Program} {Q : Exit → Act → World → Prop} {a : Act} {w : World} {N : Nat} {L : List (Nat × Value)}
/-- A body that ends at its end. -/
theorem retN {fn : Func} {R : Ending → World → Prop} {rs : List ResultVar} {vs : List Value} (hQ : ∀ e a w, bodyPost P fn R e a w → Q e a w) (hE : Env a N [] L) (hr : fn.results.toList = rs) (h : Res P a w rs vs)
    (hR : R (.returned (packed vs)) w) : Q .normal a w := hQ _ _ _ ⟨hE.defers, _, h.run hr, hR⟩
end
section
variable {P : Program} {Q : Exit → Act → World → Prop} {a : Act} {w : World} {N : Nat} {D : List Deferred} {L : List (Nat × Value)} {ops : Array Oper} {rest : List Oper}
variable {d : Nat} {ty : TypeId} {pos : String} {af : Array Edge}
def fldOf (P : Program) (s f : Nat) : Option (Nat × TypeId) :=
  match P.underlying s with
  | some (.struct fs) => (fs[f]?).map fun x => (x.offset, x.type)
  | _ => none
theorem fld_spec {s f j t : Nat} (h : fldOf P s f = some (j, t)) : ∃ fs x, P.underlying s = some (.struct fs) ∧ fs[f]? = some x ∧ x.offset = j ∧ x.type = t := by
  unfold fldOf at h
  split at h
  · rename_i fs hu
    cases hx : fs[f]? with
    | none => simp [hx] at h
    | some x =>
      simp [hx] at h
      exact ⟨fs, x, hu, hx, h.1, h.2⟩
  · cases h
/-- A field of a struct that is a value. -/
theorem o_field {s f j n t : Nat} {x : Operand} {cs : Array Value} {vs : List Value} {z : Value} (hE : Env a N D L) (hN : Nat.blt d N = true) (hx : ev L x = some (.agg cs)) (hf : fldOf P s f = some (j, t))
    (hv : lks (enum 0 cs.toList) j n = some vs) (hz : (scal P t = true ∧ vs = [z]) ∨ (aggSz P t = some n ∧ z = .agg vs.toArray))
    (k : ∀ a', Env a' N D ((d, z) :: L) → wpList P ops Q rest a' w) : wpList P ops Q (⟨some d, .field s x f, ty, pos, af, none⟩ :: rest) a w :=
  op_val rfl rfl hE hN (by
    obtain ⟨fs, fx, hu, hfx, rfl, rfl⟩ := fld_spec hf
    obtain ⟨h1, h2⟩ := lks_get _ _ _ hv
    have h3 : ∀ k v, vs[k]? = some v → cs[fx.offset + k]? = some v := fun k v hk => by
      have := (enum_get _ _ _ _ (h2 k v hk)).2
      simpa using this
    rcases hz with ⟨hs, rfl⟩ | ⟨hs, rfl⟩
    · obtain ⟨ha, i2, hi2, hsz⟩ := scal_spec (w := w) hs
      have h4 := h3 0 z (by simp)
      simp only [Nat.add_zero] at h4
      simp [execOp, hE.eval hx, Instr.field, run_underlying hu, hfx, asAgg, part, ha, h4]
    · obtain ⟨ha, i2, hi2, hsz⟩ := agg_spec (w := w) hs
      have h4 : cs.extract fx.offset (fx.offset + i2.size) = vs.toArray := by
        rw [hsz]
        apply Array.ext
        · have hlast : ∀ k, k < vs.length → fx.offset + k < cs.size := fun k hk => by
            have := h3 k vs[k] (by simp [hk])
            exact (Array.getElem?_eq_some_iff.1 this).1
          simp only [Array.size_extract, List.size_toArray]
          rcases Nat.eq_zero_or_pos vs.length with h0 | h0
          · omega
          · have := hlast (vs.length - 1) (by omega)
            omega
        · intro k hk1 hk2
          simp only [List.size_toArray] at hk2
          have := h3 k vs[k] (by simp [hk2])
          obtain ⟨hlt, he2⟩ := Array.getElem?_eq_some_iff.1 this
          simp [he2]
      simp [execOp, hE.eval hx, Instr.field, run_underlying hu, hfx, asAgg, part, ha, run_sizeOf' hi2, h4]) k
end
end Go.Proofs.YtiinipcmghhacaaDoor.X
