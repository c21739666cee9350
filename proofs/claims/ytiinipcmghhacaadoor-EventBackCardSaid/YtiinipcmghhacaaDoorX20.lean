/- Operations in a world that is told exactly. -/
import Derived.Test.YtiinipcmghhacaaDoorX19
import Derived.Sort.Grow
import Derived.Lib.SliceRun
set_option linter.unusedVariables false
set_option linter.unusedSimpArgs false
namespace Go.Proofs.YtiinipcmghhacaaDoor.X
open Go
/-! ## Operations in a world that is told exactly -/
section
variable {P : Program} {Q : Exit → Act → World → Prop} {a : Act} {w : World} {N : Nat} {D : List Deferred} {L : List (Nat × Value)} {ops : Array Oper} {rest : List Oper}
variable {d : Nat} {ty : TypeId} {pos : String} {af : Array Edge}
theorem o_ldW {t : TypeId} {x : Operand} {ad : Addr} {v : Value} (hE : Env a N D L) (hN : Nat.blt d N = true) (hx : ev L x = some (.pointer (some ad))) (ht : scal P t = true) (hc : w.cell? ad = some v)
    (k : ∀ a', Env a' N D ((d, v) :: L) → wpList P ops Q rest a' w) : wpList P ops Q (⟨some d, .load t x, ty, pos, af, none⟩ :: rest) a w :=
  op_val rfl rfl hE hN (by simp [execOp, hE.eval hx, Instr.loadAt, Instr.sureAddr, run_loadS ht hc]) k
theorem o_boxW {T : TypeId} {x : Operand} {v : Value} (hE : Env a N D L) (hN : Nat.blt d N = true) (hx : ev L x = some v)
    (k : ∀ a', Env a' N D ((d, .pointer (some ⟨w.heap.size, 0, none⟩)) :: L) → wpList P ops Q rest a' (w.alloc (.cells v.cells T))) : wpList P ops Q (⟨some d, .box T x, ty, pos, af, none⟩ :: rest) a w := by
  refine op_val (w' := w.alloc (.cells v.cells T)) (v := .pointer (some ⟨w.heap.size, 0, none⟩)) rfl rfl hE hN ?_ k
  simp [execOp, hE.eval hx, Instr.box, newVar, run_row]
theorem o_callW {f : Nat} {x : Operand} {xs : Array Operand} {ats : Array TypeId} {us vs cs : List Value} {v : Value} (hE : Env a N D L) (hN : Nat.blt d N = true) (hx : ev L x = some (.func (.func f) us.toArray cs.toArray)) (hv : evs L xs.toList = some vs) (hf : goFn P f = true)
    (hc : Calls P f (us ++ vs ++ cs).toArray w fun e w' => e = .returned v ∧ w' = w) (k : ∀ a', Env a' N D ((d, v) :: L) → wpList P ops Q rest a' w) :
    wpList P ops Q (⟨some d, .call ⟨.value x, xs, ats⟩, ty, pos, af, none⟩ :: rest) a w :=
  wpList_plain rfl fun K hK => by
    unfold Oper.wp
    rw [run_callOp hE hx hv hf, Oper.upon_enter]
    refine hc.mono fun e w' he => ?_
    obtain ⟨rfl, rfl⟩ := he
    exact hK _ _ (k _ (hE.put hN v))
theorem o_buildW {t e m n : Nat} {ps : Array (Nat × Operand)} {vs : List (Nat × Value)} {cs : Array Value} (hE : Env a N D L) (hN : Nat.blt d N = true) (hp : evp L ps.toList = some vs) (ht : slOf P t = some (e, m)) (hb : bldSl P e n m vs = some cs)
    (k : ∀ a', Env a' N D ((d, .slice (some ⟨w.heap.size, 0, none⟩) n n) :: L) → wpList P ops Q rest a' (w.alloc (.cells cs e))) :
    wpList P ops Q (⟨some d, .buildSlice t n ps, ty, pos, af, none⟩ :: rest) a w := by
  refine op_val (w' := w.alloc (.cells cs e)) (v := .slice (some ⟨w.heap.size, 0, none⟩) n n) rfl rfl hE hN ?_ k
  obtain ⟨inf, hu, hi, rfl⟩ := sl_spec ht
  have hpe : (ps.map fun (i, x) => (i, a.eval x)) = vs.toArray := by
    apply Array.toList_inj.1
    have := hE.evalP hp
    simpa using this
  unfold bldSl at hb
  cases hz : zeroOf P e with
  | none => simp [hz] at hb
  | some z =>
    simp only [hz] at hb
    split at hb
    · rename_i hc
      have hzv : (zeroValue e).run P w = .ok z w := by
        unfold zeroOf at hz
        simp [hi] at hz
        simp [zeroValue, typeInfo, hi, hz]
      have h1 : ¬ (n * inf.size > 2 ^ 24) := by omega
      have h2 : ¬ (n * inf.size = 0) := by omega
      have h3 : (Instr.buildSlice t n vs.toArray).run P w = .ok (.slice (some ⟨w.heap.size, 0, none⟩) n n) (w.alloc (.cells cs e)) := by
        simp only [Instr.buildSlice, Sem.run_bind, run_underlying hu, Result.andThen_ok, run_sizeOf' hi, if_neg h1, if_neg h2, hzv, Sem.run_pure]
        simp [hb, run_row]
      simp [execOp, hpe, h3]
    · cases hb
/-- 's == nil'. -/
theorem o_eqNil {t t' e : TypeId} {x y : Operand} {A : Option Addr} {n c n' c' : Nat} (hE : Env a N D L) (hN : Nat.blt d N = true) (hx : ev L x = some (.slice A n c)) (hy : ev L y = some (.slice none n' c')) (ht : P.underlying t = some (.slice e))
    (k : ∀ a', Env a' N D ((d, .bool A.isNone) :: L) → wpList P ops Q rest a' w) : wpList P ops Q (⟨some d, .binOp .eql t x y t', ty, pos, af, none⟩ :: rest) a w :=
  op_val rfl rfl hE hN (by
    have h2 := Lib.run_eql_slice_nil (P := P) w t e A n c n' c' ht
    have h1 : (eqGuard .eql t x y (.slice A n c) (.slice none n' c')).run P w = .ok () w := by simp [eqGuard, run_underlying ht]
    simp [execOp, hE.eval hx, hE.eval hy, h1, h2]) k
end
end Go.Proofs.YtiinipcmghhacaaDoor.X
