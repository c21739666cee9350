/- Operations on plain values, step by step. -/
import Derived.Test.YtiinipcmghhacaaDoorX2
set_option linter.unusedVariables false
set_option linter.unusedSimpArgs false
namespace Go.Proofs.YtiinipcmghhacaaDoor.X
open Go
section
variable {P : Program} {Q : Exit → Act → World → Prop} {a : Act} {w : World} {N : Nat} {D : List Deferred} {L : List (Nat × Value)} {ops : Array Oper} {rest : List Oper}
variable {d : Nat} {ty : TypeId} {pos : String} {af : Array Edge}

/-! ### moves, numbers, bools -/
theorem o_move {x : Operand} {v : Value} (hE : Env a N D L) (hN : Nat.blt d N = true) (hx : ev L x = some v) (k : ∀ a', Env a' N D ((d, v) :: L) → wpList P ops Q rest a' w) :
    wpList P ops Q (⟨some d, .move x, ty, pos, af, none⟩ :: rest) a w :=
  op_val rfl rfl hE hN (by simp [execOp, hE.eval hx]) k
theorem o_assign {x : Operand} {v : Value} (hE : Env a N D L) (hN : Nat.blt d N = true) (hx : ev L x = some v) (k : ∀ a', Env a' N D ((d, v) :: L) → wpList P ops Q rest a' w) :
    wpList P ops Q (⟨some d, .assign x, ty, pos, af, none⟩ :: rest) a w :=
  op_val rfl rfl hE hN (by simp [execOp, hE.eval hx]) k
theorem o_pick {c x y : Operand} {b : Bool} {u v : Value} (hE : Env a N D L) (hN : Nat.blt d N = true) (hc : ev L c = some (.bool b)) (hx : ev L x = some u) (hy : ev L y = some v) (k : ∀ a', Env a' N D ((d, if b then u else v) :: L) → wpList P ops Q rest a' w) :
    wpList P ops Q (⟨some d, .pick c x y, ty, pos, af, none⟩ :: rest) a w :=
  op_val rfl rfl hE hN (by cases b <;> simp [execOp, hE.eval hc, hE.eval hx, hE.eval hy, asBool]) k
theorem o_pick_t {c x y : Operand} {b : Bool} {v : Value} (hE : Env a N D L) (hN : Nat.blt d N = true) (hc : ev L c = some (.bool b)) (hb : b = true) (hx : ev L x = some v) (k : ∀ a', Env a' N D ((d, v) :: L) → wpList P ops Q rest a' w) :
    wpList P ops Q (⟨some d, .pick c x y, ty, pos, af, none⟩ :: rest) a w :=
  op_val rfl rfl hE hN (by subst hb; simp [execOp, hE.eval hc, hE.eval hx, asBool]) k
theorem o_pick_f {c x y : Operand} {b : Bool} {v : Value} (hE : Env a N D L) (hN : Nat.blt d N = true) (hc : ev L c = some (.bool b)) (hb : b = false) (hy : ev L y = some v) (k : ∀ a', Env a' N D ((d, v) :: L) → wpList P ops Q rest a' w) :
    wpList P ops Q (⟨some d, .pick c x y, ty, pos, af, none⟩ :: rest) a w :=
  op_val rfl rfl hE hN (by subst hb; simp [execOp, hE.eval hc, hE.eval hy, asBool]) k
theorem o_not {t : TypeId} {x : Operand} {b : Bool} (hE : Env a N D L) (hN : Nat.blt d N = true) (hx : ev L x = some (.bool b)) (k : ∀ a', Env a' N D ((d, .bool (!b)) :: L) → wpList P ops Q rest a' w) :
    wpList P ops Q (⟨some d, .unOp .not t x, ty, pos, af, none⟩ :: rest) a w :=
  op_val rfl rfl hE hN (by simp [execOp, hE.eval hx, Op.unary]) k
theorem o_neg {t : TypeId} {x : Operand} {q : IntKind} {i : Int} (hE : Env a N D L) (hN : Nat.blt d N = true) (hx : ev L x = some (.int q i)) (k : ∀ a', Env a' N D ((d, .int q (q.wrap (0 - i))) :: L) → wpList P ops Q rest a' w) :
    wpList P ops Q (⟨some d, .unOp .neg t x, ty, pos, af, none⟩ :: rest) a w :=
  op_val rfl rfl hE hN (by simp [execOp, hE.eval hx, Op.unary, Op.intArith]) k

/-- Two numbers, an operator that is no shift. -/
theorem o_int2 {op : BinOp} {t t' : TypeId} {x y : Operand} {q : IntKind} {i j : Int} {v : Value} (hE : Env a N D L) (hN : Nat.blt d N = true) (hx : ev L x = some (.int q i)) (hy : ev L y = some (.int q j))
    (hr : ∀ w, (binOp op t (.int q i) (.int q j)).run P w = .ok v w) (k : ∀ a', Env a' N D ((d, v) :: L) → wpList P ops Q rest a' w) :
    wpList P ops Q (⟨some d, .binOp op t x y t', ty, pos, af, none⟩ :: rest) a w :=
  op_val rfl rfl hE hN (by simp [execOp, hE.eval hx, hE.eval hy, eqGuard_at_int, hr]) k
section
variable {t t' : TypeId} {x y : Operand} {q : IntKind} {i j : Int} (hE : Env a N D L) (hN : Nat.blt d N = true) (hx : ev L x = some (.int q i)) (hy : ev L y = some (.int q j))
include hE hN hx hy
theorem o_lss (k : ∀ a', Env a' N D ((d, .bool (decide (i < j))) :: L) → wpList P ops Q rest a' w) : wpList P ops Q (⟨some d, .binOp .lss t x y t', ty, pos, af, none⟩ :: rest) a w :=
  o_int2 hE hN hx hy (fun w => by simp [go_sem]) k
theorem o_leq (k : ∀ a', Env a' N D ((d, .bool (decide (i ≤ j))) :: L) → wpList P ops Q rest a' w) : wpList P ops Q (⟨some d, .binOp .leq t x y t', ty, pos, af, none⟩ :: rest) a w :=
  o_int2 hE hN hx hy (fun w => by simp [go_sem]) k
theorem o_gtr (k : ∀ a', Env a' N D ((d, .bool (decide (j < i))) :: L) → wpList P ops Q rest a' w) : wpList P ops Q (⟨some d, .binOp .gtr t x y t', ty, pos, af, none⟩ :: rest) a w :=
  o_int2 hE hN hx hy (fun w => by simp [go_sem]) k
theorem o_geq (k : ∀ a', Env a' N D ((d, .bool (decide (j ≤ i))) :: L) → wpList P ops Q rest a' w) : wpList P ops Q (⟨some d, .binOp .geq t x y t', ty, pos, af, none⟩ :: rest) a w :=
  o_int2 hE hN hx hy (fun w => by simp [go_sem]) k
theorem o_eqI (k : ∀ a', Env a' N D ((d, .bool (decide (i = j))) :: L) → wpList P ops Q rest a' w) : wpList P ops Q (⟨some d, .binOp .eql t x y t', ty, pos, af, none⟩ :: rest) a w :=
  o_int2 hE hN hx hy (fun w => by simp [go_sem]; rfl) k
theorem o_neI (k : ∀ a', Env a' N D ((d, .bool (!decide (i = j))) :: L) → wpList P ops Q rest a' w) : wpList P ops Q (⟨some d, .binOp .neq t x y t', ty, pos, af, none⟩ :: rest) a w :=
  o_int2 hE hN hx hy (fun w => by simp [go_sem]; rfl) k
theorem o_addW (k : ∀ a', Env a' N D ((d, .int q (q.wrap (i + j))) :: L) → wpList P ops Q rest a' w) : wpList P ops Q (⟨some d, .binOp .add t x y t', ty, pos, af, none⟩ :: rest) a w :=
  o_int2 hE hN hx hy (fun w => by simp [go_sem, Op.intArith]) k
theorem o_subW (k : ∀ a', Env a' N D ((d, .int q (q.wrap (i - j))) :: L) → wpList P ops Q rest a' w) : wpList P ops Q (⟨some d, .binOp .sub t x y t', ty, pos, af, none⟩ :: rest) a w :=
  o_int2 hE hN hx hy (fun w => by simp [go_sem, Op.intArith]) k
theorem o_mulW (k : ∀ a', Env a' N D ((d, .int q (q.wrap (i * j))) :: L) → wpList P ops Q rest a' w) : wpList P ops Q (⟨some d, .binOp .mul t x y t', ty, pos, af, none⟩ :: rest) a w :=
  o_int2 hE hN hx hy (fun w => by simp [go_sem, Op.intArith]) k
theorem o_quoW (h0 : j ≠ 0) (k : ∀ a', Env a' N D ((d, .int q (q.wrap (i.tdiv j))) :: L) → wpList P ops Q rest a' w) : wpList P ops Q (⟨some d, .binOp .quo t x y t', ty, pos, af, none⟩ :: rest) a w :=
  o_int2 hE hN hx hy (fun w => by simp [go_sem, Op.intDiv, h0]) k
theorem o_remW (h0 : j ≠ 0) (k : ∀ a', Env a' N D ((d, .int q (i.tmod j)) :: L) → wpList P ops Q rest a' w) : wpList P ops Q (⟨some d, .binOp .rem t x y t', ty, pos, af, none⟩ :: rest) a w :=
  o_int2 hE hN hx hy (fun w => by simp [go_sem, Op.intDiv, h0]) k
end
/-- The kind holds the number. -/
def Fits (q : IntKind) (n : Int) : Prop := q.min ≤ n ∧ n ≤ q.max
theorem wrap_fits {q : IntKind} {n : Int} (h : q.wrap n = n) : q.wrap n = n := h
section
variable {t t' : TypeId} {x y : Operand} {i j : Int} (hE : Env a N D L) (hN : Nat.blt d N = true) (hx : ev L x = some (.int .i64 i)) (hy : ev L y = some (.int .i64 j))
include hE hN hx hy
theorem o_add (h : -9223372036854775808 ≤ i + j ∧ i + j ≤ 9223372036854775807) (k : ∀ a', Env a' N D ((d, .int .i64 (i + j)) :: L) → wpList P ops Q rest a' w) : wpList P ops Q (⟨some d, .binOp .add t x y t', ty, pos, af, none⟩ :: rest) a w :=
  o_addW hE hN hx hy (by rw [IntWalk.i64_in _ h]; exact k)
theorem o_sub (h : -9223372036854775808 ≤ i - j ∧ i - j ≤ 9223372036854775807) (k : ∀ a', Env a' N D ((d, .int .i64 (i - j)) :: L) → wpList P ops Q rest a' w) : wpList P ops Q (⟨some d, .binOp .sub t x y t', ty, pos, af, none⟩ :: rest) a w :=
  o_subW hE hN hx hy (by rw [IntWalk.i64_in _ h]; exact k)
theorem o_mul (h : -9223372036854775808 ≤ i * j ∧ i * j ≤ 9223372036854775807) (k : ∀ a', Env a' N D ((d, .int .i64 (i * j)) :: L) → wpList P ops Q rest a' w) : wpList P ops Q (⟨some d, .binOp .mul t x y t', ty, pos, af, none⟩ :: rest) a w :=
  o_mulW hE hN hx hy (by rw [IntWalk.i64_in _ h]; exact k)
end
/-- Two bools. -/
theorem o_eqB {t t' : TypeId} {x y : Operand} {b c : Bool} (hE : Env a N D L) (hN : Nat.blt d N = true) (hx : ev L x = some (.bool b)) (hy : ev L y = some (.bool c)) (ht : P.underlying t = some .bool) (k : ∀ a', Env a' N D ((d, .bool (b == c)) :: L) → wpList P ops Q rest a' w) :
    wpList P ops Q (⟨some d, .binOp .eql t x y t', ty, pos, af, none⟩ :: rest) a w :=
  op_val rfl rfl hE hN (by simp [execOp, hE.eval hx, hE.eval hy, eqGuard_at_bool, run_eql_bool _ _ _ _ ht]) k
theorem o_neB {t t' : TypeId} {x y : Operand} {b c : Bool} (hE : Env a N D L) (hN : Nat.blt d N = true) (hx : ev L x = some (.bool b)) (hy : ev L y = some (.bool c)) (ht : P.underlying t = some .bool) (k : ∀ a', Env a' N D ((d, .bool (!(b == c))) :: L) → wpList P ops Q rest a' w) :
    wpList P ops Q (⟨some d, .binOp .neq t x y t', ty, pos, af, none⟩ :: rest) a w :=
  op_val rfl rfl hE hN (by simp [execOp, hE.eval hx, hE.eval hy, eqGuard_at_bool, run_neq_bool _ _ _ _ ht]) k

/-! ### strings -/
section
variable {t t' : TypeId} {x y : Operand} {s r : Bs} (hE : Env a N D L) (hN : Nat.blt d N = true) (hx : ev L x = some (str s)) (hy : ev L y = some (str r))
include hE hN hx hy
theorem o_eqS (k : ∀ a', Env a' N D ((d, .bool (s == r)) :: L) → wpList P ops Q rest a' w) : wpList P ops Q (⟨some d, .binOp .eql t x y t', ty, pos, af, none⟩ :: rest) a w :=
  op_val rfl rfl hE hN (by simp [execOp, hE.eval hx, hE.eval hy, eqGuard_at_string, binOp, Op.stringOp]) k
theorem o_neS (k : ∀ a', Env a' N D ((d, .bool (!(s == r))) :: L) → wpList P ops Q rest a' w) : wpList P ops Q (⟨some d, .binOp .neq t x y t', ty, pos, af, none⟩ :: rest) a w :=
  op_val rfl rfl hE hN (by simp [execOp, hE.eval hx, hE.eval hy, eqGuard_at_string, binOp, Op.stringOp]) k
theorem o_ltS (k : ∀ a', Env a' N D ((d, .bool (Op.bytesLess s r)) :: L) → wpList P ops Q rest a' w) : wpList P ops Q (⟨some d, .binOp .lss t x y t', ty, pos, af, none⟩ :: rest) a w :=
  op_val rfl rfl hE hN (by simp [execOp, hE.eval hx, hE.eval hy, eqGuard_at_string, binOp, Op.stringOp]) k
theorem o_leS (k : ∀ a', Env a' N D ((d, .bool (Op.bytesLess s r || s == r)) :: L) → wpList P ops Q rest a' w) : wpList P ops Q (⟨some d, .binOp .leq t x y t', ty, pos, af, none⟩ :: rest) a w :=
  op_val rfl rfl hE hN (by simp [execOp, hE.eval hx, hE.eval hy, eqGuard_at_string, binOp, Op.stringOp]) k
theorem o_gtS (k : ∀ a', Env a' N D ((d, .bool (!(Op.bytesLess s r || s == r))) :: L) → wpList P ops Q rest a' w) : wpList P ops Q (⟨some d, .binOp .gtr t x y t', ty, pos, af, none⟩ :: rest) a w :=
  op_val rfl rfl hE hN (by simp [execOp, hE.eval hx, hE.eval hy, eqGuard_at_string, binOp, Op.stringOp]) k
theorem o_cat (h : s.length + r.length ≤ 9223372036854775807) (k : ∀ a', Env a' N D ((d, str (s ++ r)) :: L) → wpList P ops Q rest a' w) : wpList P ops Q (⟨some d, .binOp .add t x y t', ty, pos, af, none⟩ :: rest) a w :=
  op_val rfl rfl hE hN (by
    have e : (ByteArray.mk s.toArray ++ ByteArray.mk r.toArray) = ByteArray.mk (s ++ r).toArray := by
      apply ByteArray.ext; simp
    have h1 : ¬ ((((ByteArray.mk s.toArray).size + (ByteArray.mk r.toArray).size : Nat) : Int) > IntKind.i64.max) := by
      simp [ByteArray.size, IntKind.max, IntKind.signed, IntKind.bits]; omega
    simp only [execOp, hE.eval hx, hE.eval hy, eqGuard_at_string, binOp, Op.stringOp]
    rw [if_neg h1, e]; simp) k
end
/-- A byte of a string. -/
def bt (s : Bs) (i : Int) : Int := ((s.getD i.toNat 0).toNat : Int)
theorem o_index {t : TypeId} {x y : Operand} {s : Bs} {q : IntKind} {i : Int} (hE : Env a N D L) (hN : Nat.blt d N = true) (hx : ev L x = some (str s)) (hy : ev L y = some (.int q i)) (ht : P.underlying t = some .string) (h : 0 ≤ i ∧ i < s.length)
    (k : ∀ a', Env a' N D ((d, .int .u8 (bt s i)) :: L) → wpList P ops Q rest a' w) : wpList P ops Q (⟨some d, .index t x y, ty, pos, af, none⟩ :: rest) a w :=
  op_val rfl rfl hE hN (by
    have hlt : i.toNat < s.length := by omega
    have h1 : i.toNat < (ByteArray.mk s.toArray).size := by simpa [ByteArray.size] using hlt
    have e : (ByteArray.mk s.toArray)[i.toNat]? = some (s.getD i.toNat 0) := by
      rw [getElem?_pos (ByteArray.mk s.toArray) i.toNat h1]
      simp [ByteArray.getElem_eq_getElem_data, hlt]
    simp [execOp, hE.eval hx, hE.eval hy, Instr.index, asIntOf, run_underlying ht, h.1, e, bt]) k
/-- What stands between two places. -/
def sub {α : Type} (s : List α) (lo hi : Int) : List α := (s.drop lo.toNat).take (hi - lo).toNat
theorem size_mk (s : Bs) : (ByteArray.mk s.toArray).size = s.length := by simp [ByteArray.size]
theorem o_sliceS {t : TypeId} {x y z : Operand} {s : Bs} {q q' : IntKind} {lo hi : Int} (hE : Env a N D L) (hN : Nat.blt d N = true) (hx : ev L x = some (str s)) (hy : ev L y = some (.int q lo)) (hz : ev L z = some (.int q' hi)) (ht : P.underlying t = some .string) (h : 0 ≤ lo ∧ lo ≤ hi ∧ hi ≤ s.length)
    (k : ∀ a', Env a' N D ((d, str (sub s lo hi)) :: L) → wpList P ops Q rest a' w) : wpList P ops Q (⟨some d, .slice t x (some y) (some z) none, ty, pos, af, none⟩ :: rest) a w :=
  op_val rfl rfl hE hN (by
    have e : (ByteArray.mk s.toArray).extract lo.toNat hi.toNat = ByteArray.mk (sub s lo hi).toArray := by
      apply ByteArray.ext
      simp [sub, List.extract_eq_take_drop]
      congr 1
      omega
    obtain ⟨lo, rfl⟩ := Int.eq_ofNat_of_zero_le h.1
    obtain ⟨hi, rfl⟩ := Int.eq_ofNat_of_zero_le (Int.le_trans h.1 h.2.1)
    have h1 : hi ≤ s.length := by omega
    have h2 : lo ≤ hi := by omega
    simp only [Int.toNat_natCast] at e
    simp [execOp, hE.eval hx, hE.eval hy, hE.eval hz, Instr.sliceAt, Instr.slice, Instr.sliceBounds, Instr.sliceBound, asIntOf, run_underlying ht, size_mk, h1, h2, e]) k
theorem o_sliceLo {t : TypeId} {x y : Operand} {s : Bs} {q : IntKind} {lo : Int} (hE : Env a N D L) (hN : Nat.blt d N = true) (hx : ev L x = some (str s)) (hy : ev L y = some (.int q lo)) (ht : P.underlying t = some .string) (h : 0 ≤ lo ∧ lo ≤ s.length)
    (k : ∀ a', Env a' N D ((d, str (s.drop lo.toNat)) :: L) → wpList P ops Q rest a' w) : wpList P ops Q (⟨some d, .slice t x (some y) none none, ty, pos, af, none⟩ :: rest) a w :=
  op_val rfl rfl hE hN (by
    obtain ⟨lo, rfl⟩ := Int.eq_ofNat_of_zero_le h.1
    have h2 : lo ≤ s.length := by omega
    have e : (ByteArray.mk s.toArray).extract lo s.length = ByteArray.mk (s.drop lo).toArray := by
      apply ByteArray.ext
      simp [List.extract_eq_take_drop]
      exact List.take_of_length_le (by simp)
    simp [execOp, hE.eval hx, hE.eval hy, Instr.sliceAt, Instr.slice, Instr.sliceBounds, Instr.sliceBound, asIntOf, run_underlying ht, size_mk, h2, e]) k
theorem o_sliceHi {t : TypeId} {x z : Operand} {s : Bs} {q' : IntKind} {hi : Int} (hE : Env a N D L) (hN : Nat.blt d N = true) (hx : ev L x = some (str s)) (hz : ev L z = some (.int q' hi)) (ht : P.underlying t = some .string) (h : 0 ≤ hi ∧ hi ≤ s.length)
    (k : ∀ a', Env a' N D ((d, str (s.take hi.toNat)) :: L) → wpList P ops Q rest a' w) : wpList P ops Q (⟨some d, .slice t x none (some z) none, ty, pos, af, none⟩ :: rest) a w :=
  op_val rfl rfl hE hN (by
    have e : (ByteArray.mk s.toArray).extract 0 hi.toNat = ByteArray.mk (s.take hi.toNat).toArray := by
      apply ByteArray.ext
      simp [List.extract_eq_take_drop]
    have h1 : (0 ≤ hi ∧ hi ≤ (s.length : Int)) := by omega
    simp [execOp, hE.eval hx, hE.eval hz, Instr.sliceAt, Instr.slice, Instr.sliceBounds, Instr.sliceBound, asIntOf, run_underlying ht, size_mk, h1, e]) k
theorem o_lenS {x : Operand} {t : TypeId} {s : Bs} (hE : Env a N D L) (hN : Nat.blt d N = true) (hx : ev L x = some (str s)) (ht : P.underlying t = some .string)
    (k : ∀ a', Env a' N D ((d, .int .i64 s.length) :: L) → wpList P ops Q rest a' w) : wpList P ops Q (⟨some d, .call ⟨.builtin .len, #[x], #[t]⟩, ty, pos, af, none⟩ :: rest) a w :=
  op_val rfl rfl hE hN (by simp [execOp, resolve, invoke, builtin, hE.eval hx, Builtin.len_, run_underlying ht, goInt, size_mk]) k
theorem o_lenL {x : Operand} {t e : TypeId} {A : Option Addr} {n c : Nat} (hE : Env a N D L) (hN : Nat.blt d N = true) (hx : ev L x = some (.slice A n c)) (ht : P.underlying t = some (.slice e))
    (k : ∀ a', Env a' N D ((d, .int .i64 n) :: L) → wpList P ops Q rest a' w) : wpList P ops Q (⟨some d, .call ⟨.builtin .len, #[x], #[t]⟩, ty, pos, af, none⟩ :: rest) a w :=
  op_val rfl rfl hE hN (by simp [execOp, resolve, invoke, builtin, hE.eval hx, Builtin.len_, run_underlying ht, goInt]) k
theorem o_extract {x : Operand} {i : Nat} {vs : Array Value} {v : Value} (hE : Env a N D L) (hN : Nat.blt d N = true) (hx : ev L x = some (.tuple vs)) (hv : vs.toList[i]? = some v)
    (k : ∀ a', Env a' N D ((d, v) :: L) → wpList P ops Q rest a' w) : wpList P ops Q (⟨some d, .extract x i, ty, pos, af, none⟩ :: rest) a w :=
  op_val rfl rfl hE hN (by
    have : vs[i]? = some v := by simpa using hv
    simp [execOp, hE.eval hx, Instr.extract, this]) k
end
end Go.Proofs.YtiinipcmghhacaaDoor.X
