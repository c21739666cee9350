/- Operations on memory, and calls. -/
import Derived.Test.YtiinipcmghhacaaDoorX4
set_option linter.unusedVariables false
set_option linter.unusedSimpArgs false
namespace Go.Proofs.YtiinipcmghhacaaDoor.X
open Go

/-! ## Kinds: how a plain value lies in cells -/
structure Knd (α : Type) where
  sz : Nat
  R : Heap → α → List Value → Prop
  len : ∀ {G x cs}, R G x cs → cs.length = sz
  le : ∀ {G G' x cs}, Heap.le G G' → R G x cs → R G' x cs
def ElAt {α : Type} (K : Knd α) (G : Heap) (b o : Nat) (x : α) : Prop := ∃ cs, K.R G x cs ∧ CellsAt G b o cs
/-- A slice at address `A` reads as the list `xs`. -/
def Rd {α : Type} (K : Knd α) (G : Heap) (A : Option Addr) (xs : List α) : Prop := xs = [] ∨ ∃ b o, A = some ⟨b, o, none⟩ ∧ ∀ i x, xs[i]? = some x → ElAt K G b (o + i * K.sz) x
theorem ElAt.le {α : Type} {K : Knd α} {G G' : Heap} (h : Heap.le G G') {b o : Nat} {x : α} (hx : ElAt K G b o x) : ElAt K G' b o x := by
  obtain ⟨cs, h1, h2⟩ := hx
  exact ⟨cs, K.le h h1, h2.le h⟩
theorem Rd.le {α : Type} {K : Knd α} {G G' : Heap} (h : Heap.le G G') {A : Option Addr} {xs : List α} (hx : Rd K G A xs) : Rd K G' A xs := by
  rcases hx with rfl | ⟨b, o, rfl, hx⟩
  · exact .inl rfl
  · exact .inr ⟨b, o, rfl, fun i x hi => (hx i x hi).le h⟩
theorem Rd.nil {α : Type} {K : Knd α} {G : Heap} {A : Option Addr} : Rd K G A ([] : List α) := .inl rfl
theorem Rd.at {α : Type} {K : Knd α} {G : Heap} {A : Option Addr} {xs : List α} (h : Rd K G A xs) {i : Nat} {x : α} (hi : xs[i]? = some x) : ∃ b o, A = some ⟨b, o, none⟩ ∧ ElAt K G b (o + i * K.sz) x := by
  rcases h with rfl | ⟨b, o, rfl, h⟩
  · simp at hi
  · exact ⟨b, o, rfl, h i x hi⟩
/-- A slice value. -/
def SlV {α : Type} (K : Knd α) (G : Heap) (v : Value) (xs : List α) : Prop := ∃ A c, v = .slice A xs.length c ∧ xs.length ≤ c ∧ Rd K G A xs
theorem SlV.le {α : Type} {K : Knd α} {G G' : Heap} (h : Heap.le G G') {v : Value} {xs : List α} (hx : SlV K G v xs) : SlV K G' v xs := by
  obtain ⟨A, c, h1, h2, h3⟩ := hx
  exact ⟨A, c, h1, h2, h3.le h⟩
namespace Knd
/-- One cell, told by a function. -/
def of {α : Type} (enc : α → Value) : Knd α where
  sz := 1
  R := fun _ x cs => cs = [enc x]
  len := by rintro G x cs rfl; rfl
  le := fun _ h => h
def int (q : IntKind) : Knd Int := of (Value.int q)
def bool : Knd Bool := of Value.bool
def s : Knd Bs := of (fun l => str l)
def u8 : Knd UInt8 := of (fun b => .int .u8 (b.toNat : Int))
def slice {α : Type} (K : Knd α) : Knd (List α) where
  sz := 1
  R := fun G xs cs => ∃ v, cs = [v] ∧ SlV K G v xs
  len := by rintro G x cs ⟨v, rfl, _⟩; rfl
  le := by
    rintro G G' x cs h ⟨v, rfl, hv⟩
    exact ⟨v, rfl, hv.le h⟩
def pair {α β : Type} (A : Knd α) (B : Knd β) : Knd (α × β) where
  sz := A.sz + B.sz
  R := fun G x cs => ∃ c1 c2, cs = c1 ++ c2 ∧ A.R G x.1 c1 ∧ B.R G x.2 c2
  len := by
    rintro G x cs ⟨c1, c2, rfl, h1, h2⟩
    simp [A.len h1, B.len h2]
  le := by
    rintro G G' x cs h ⟨c1, c2, rfl, h1, h2⟩
    exact ⟨c1, c2, rfl, A.le h h1, B.le h h2⟩
def iso {α β : Type} (A : Knd α) (f : β → α) : Knd β where
  sz := A.sz
  R := fun G x cs => A.R G (f x) cs
  len := fun h => A.len h
  le := fun h => A.le h
end Knd

section
variable {P : Program} {Q : Exit → Act → World → Prop} {a : Act} {w : World} {N : Nat} {D : List Deferred} {L : List (Nat × Value)} {ops : Array Oper} {rest : List Oper}
variable {d : Nat} {ty : TypeId} {pos : String} {af : Array Edge}
variable {w0 : World} {G0 : Heap} {K0 : List Nat} {G : Heap} {M M' : List Chunk}

theorem cells_enum (c : Array Value) (T : TypeId) : Cells T (enum 0 c.toList) (.cells c T (0, 0)) :=
  ⟨c, rfl, fun t v h => by
    have := (enum_get _ _ _ _ h).2
    simpa using this⟩
theorem run_row (T : TypeId) (c : Array Value) : (newRow T c).run P w = .ok ⟨w.heap.size, 0, none⟩ (w.alloc (.cells c T)) := rfl
/-! ### operations on memory -/
theorem o_alloc {T : TypeId} {z : Value} (hE : Env a N D L) (hN : Nat.blt d N = true) (hS : St w0 G0 K0 G w M) (hz : zeroOf P T = some z)
    (k : ∀ b w' a', St w0 G0 K0 G w' ([(b, Cells T (enum 0 (cellsOf z)))] :: M) → Env a' N D ((d, .pointer (some ⟨b, 0, none⟩)) :: L) → wpList P ops Q rest a' w') : wpList P ops Q (⟨some d, .alloc T, ty, pos, af, none⟩ :: rest) a w := by
  refine op_val (w' := w.alloc (.cells z.cells T)) (v := .pointer (some ⟨w.heap.size, 0, none⟩)) rfl rfl hE hN ?_ fun a' hE' => k _ _ a' (hS.alloc _ ?_) hE'
  · unfold zeroOf at hz
    cases hi : P.info? T with
    | none => simp [hi] at hz
    | some i =>
      simp [hi] at hz
      simp [execOp, Instr.alloc, zeroValue, typeInfo, hi, hz, newVar, run_row]
  · have := cells_enum z.cells T
    rwa [cellsOf_cells] at this
theorem o_box {T : TypeId} {x : Operand} {v : Value} (hE : Env a N D L) (hN : Nat.blt d N = true) (hS : St w0 G0 K0 G w M) (hx : ev L x = some v)
    (k : ∀ b w' a', St w0 G0 K0 G w' ([(b, Cells T (enum 0 (cellsOf v)))] :: M) → Env a' N D ((d, .pointer (some ⟨b, 0, none⟩)) :: L) → wpList P ops Q rest a' w') : wpList P ops Q (⟨some d, .box T x, ty, pos, af, none⟩ :: rest) a w := by
  refine op_val (w' := w.alloc (.cells v.cells T)) (v := .pointer (some ⟨w.heap.size, 0, none⟩)) rfl rfl hE hN ?_ fun a' hE' => k _ _ a' (hS.alloc _ ?_) hE'
  · simp [execOp, hE.eval hx, Instr.box, newVar, run_row]
  · have := cells_enum v.cells T
    rwa [cellsOf_cells] at this
/-- A load of one cell of an own block. -/
theorem o_ld {t T : TypeId} {x : Operand} {b off : Nat} {Lb : List (Nat × Value)} {v : Value} (hE : Env a N D L) (hN : Nat.blt d N = true) (hS : St w0 G0 K0 G w M) (hx : ev L x = some (.pointer (some ⟨b, off, none⟩))) (ht : scal P t = true)
    (hm : InM M b (Cells T Lb)) (hv : lk Lb off = some v) (k : ∀ a', Env a' N D ((d, v) :: L) → wpList P ops Q rest a' w) : wpList P ops Q (⟨some d, .load t x, ty, pos, af, none⟩ :: rest) a w :=
  op_val rfl rfl hE hN (by simp [execOp, hE.eval hx, Instr.loadAt, Instr.sureAddr, run_loadS ht (hS.cell hm hv)]) k
theorem o_ldA {t T : TypeId} {x : Operand} {b off n : Nat} {Lb : List (Nat × Value)} {vs : List Value} (hE : Env a N D L) (hN : Nat.blt d N = true) (hS : St w0 G0 K0 G w M) (hx : ev L x = some (.pointer (some ⟨b, off, none⟩))) (ht : aggSz P t = some n)
    (hm : InM M b (Cells T Lb)) (hv : lks Lb off n = some vs) (k : ∀ a', Env a' N D ((d, .agg vs.toArray) :: L) → wpList P ops Q rest a' w) : wpList P ops Q (⟨some d, .load t x, ty, pos, af, none⟩ :: rest) a w :=
  op_val rfl rfl hE hN (by
    obtain ⟨h1, h2⟩ := lks_get _ _ _ hv
    have := run_loadA (P := P) (w := w) (t := t) (ad := ⟨b, off, none⟩) (vs := vs) (by rw [h1]; exact ht) (fun j u hj => by rw [Addr.add_lit]; exact hS.cell hm (h2 j u hj))
    simp [execOp, hE.eval hx, Instr.loadAt, Instr.sureAddr, this]) k
/-- A load out of what isn't written. -/
theorem o_ldI {t : TypeId} {x : Operand} {b o off j : Nat} {cs : List Value} {v : Value} (hE : Env a N D L) (hN : Nat.blt d N = true) (hS : St w0 G0 K0 G w M) (hx : ev L x = some (.pointer (some ⟨b, off, none⟩))) (ht : scal P t = true)
    (hC : CellsAt G b o cs) (ho : off = o + j) (hv : cs[j]? = some v) (k : ∀ a', Env a' N D ((d, v) :: L) → wpList P ops Q rest a' w) : wpList P ops Q (⟨some d, .load t x, ty, pos, af, none⟩ :: rest) a w :=
  op_val rfl rfl hE hN (by
    subst ho
    simp [execOp, hE.eval hx, Instr.loadAt, Instr.sureAddr, run_loadS ht (hS.sub.cell (hC j v hv))]) k
theorem o_ldIA {t : TypeId} {x : Operand} {b o : Nat} {cs : List Value} (hE : Env a N D L) (hN : Nat.blt d N = true) (hS : St w0 G0 K0 G w M) (hx : ev L x = some (.pointer (some ⟨b, o, none⟩)))
    (hC : CellsAt G b o cs) (ht : aggSz P t = some cs.length) (k : ∀ a', Env a' N D ((d, .agg cs.toArray) :: L) → wpList P ops Q rest a' w) : wpList P ops Q (⟨some d, .load t x, ty, pos, af, none⟩ :: rest) a w :=
  op_val rfl rfl hE hN (by
    have := run_loadA (P := P) (w := w) (t := t) (ad := ⟨b, o, none⟩) (vs := cs) ht (fun j u hj => by rw [Addr.add_lit]; exact hS.sub.cell (hC j u hj))
    simp [execOp, hE.eval hx, Instr.loadAt, Instr.sureAddr, this]) k
/-- A store of one cell into an own block. -/
theorem o_st {t T : TypeId} {x y : Operand} {b off : Nat} {Lb : List (Nat × Value)} {u v : Value} (hE : Env a N D L) (hS : St w0 G0 K0 G w M) (hx : ev L x = some (.pointer (some ⟨b, off, none⟩))) (hy : ev L y = some v) (h1 : one v = true) (ht : scal P t = true)
    (hm : RepM b (Cells T Lb) (Cells T ((off, v) :: Lb)) M M') (hu : lk Lb off = some u) (k : ∀ w', St w0 G0 K0 G w' M' → wpList P ops Q rest a w') : wpList P ops Q (⟨none, .store t x y, ty, pos, af, none⟩ :: rest) a w := by
  obtain ⟨A, X, Y, B, rfl, rfl⟩ := hm.split
  have hm' : InM (A ++ (X ++ (b, Cells T Lb) :: Y) :: B) b (Cells T Lb) := InM.mk' A X Y B
  refine op_skip rfl rfl ?_ (k _ (hS.set hm hu))
  simp [execOp, hE.eval hx, hE.eval hy, Instr.storeAt, Instr.sureAddr, run_storeS ht h1 (hS.cell hm' hu) (hS.soft hm' off)]
theorem o_stA {t T : TypeId} {x y : Operand} {b off : Nat} {Lb : List (Nat × Value)} {cs : Array Value} {us : List Value} (hE : Env a N D L) (hS : St w0 G0 K0 G w M) (hx : ev L x = some (.pointer (some ⟨b, off, none⟩))) (hy : ev L y = some (.agg cs)) (h1 : cs.toList.all one = true) (ht : aggSz P t = some cs.toList.length)
    (hm : RepM b (Cells T Lb) (Cells T (enum off cs.toList ++ Lb)) M M') (hu : lks Lb off cs.toList.length = some us) (k : ∀ w', St w0 G0 K0 G w' M' → wpList P ops Q rest a w') : wpList P ops Q (⟨none, .store t x y, ty, pos, af, none⟩ :: rest) a w := by
  obtain ⟨w', hr, hS'⟩ := St.sets (P := P) (off := off) cs.toList 0 hS (by simpa using hm) h1 (by simpa using hu)
  obtain ⟨_, i, hi, hs⟩ := agg_spec (w := w) ht
  refine op_skip rfl rfl ?_ (k w' hS')
  simp [execOp, hE.eval hx, hE.eval hy, Instr.storeAt, Instr.sureAddr, storeVar, run_sizeOf' hi, hs, Value.cells, hr]
theorem o_fld {s f : Nat} {x : Operand} {b off j : Nat} (hE : Env a N D L) (hN : Nat.blt d N = true) (hx : ev L x = some (.pointer (some ⟨b, off, none⟩))) (hf : fieldOff P s f = some j)
    (k : ∀ a', Env a' N D ((d, .pointer (some ⟨b, off + j, none⟩)) :: L) → wpList P ops Q rest a' w) : wpList P ops Q (⟨some d, .fieldAddr s x f, ty, pos, af, none⟩ :: rest) a w :=
  op_val rfl rfl hE hN (by
    unfold fieldOff at hf
    cases hu : P.underlying s with
    | none => simp [hu] at hf
    | some td =>
      cases td <;> simp [hu] at hf
      rename_i fs
      cases hff : fs[f]? with
      | none => simp [hff] at hf
      | some fd =>
        simp only [hff] at hf
        split at hf
        · cases hf
        · rename_i hne
          simp only [not_or] at hne
          obtain ⟨h1, h2⟩ := hne
          cases hi : P.info? fd.type with
          | none => simp [hi] at h2
          | some i =>
            have h3 : (sizeOf fd.type).run P w = .ok (P.cellsOf fd.type) w := run_sizeOf w hi
            simp only [Option.some.injEq] at hf
            simp [execOp, hE.eval hx, Instr.fieldAt, run_underlying hu, hff, Instr.sureAddr, fieldPlace, h3, h1, Addr.add_lit, hf]) k
theorem arr_spec {t n m : Nat} (h : arrOf P t = some (n, m)) : ∃ e i, P.underlying t = some (.array n e) ∧ P.info? e = some i ∧ i.size = m := by
  unfold arrOf at h
  cases hu : P.underlying t with
  | none => simp [hu] at h
  | some td =>
    cases td <;> simp [hu] at h
    obtain ⟨i, hi, rfl, rfl⟩ := h
    exact ⟨_, i, rfl, hi, rfl⟩
theorem sl_spec {t e m : Nat} (h : slOf P t = some (e, m)) : ∃ i, P.underlying t = some (.slice e) ∧ P.info? e = some i ∧ i.size = m := by
  unfold slOf at h
  cases hu : P.underlying t with
  | none => simp [hu] at h
  | some td =>
    cases td <;> simp [hu] at h
    obtain ⟨i, hi, rfl, rfl⟩ := h
    exact ⟨i, rfl, hi, rfl⟩
/-- The address of an array's element. -/
theorem o_ixA {t n m : Nat} {x y : Operand} {b off : Nat} {q : IntKind} {i : Int} (hE : Env a N D L) (hN : Nat.blt d N = true) (hx : ev L x = some (.pointer (some ⟨b, off, none⟩))) (hy : ev L y = some (.int q i)) (ht : arrOf P t = some (n, m)) (h : 0 ≤ i ∧ i < n)
    (k : ∀ a', Env a' N D ((d, .pointer (some ⟨b, off + i.toNat * m, none⟩)) :: L) → wpList P ops Q rest a' w) : wpList P ops Q (⟨some d, .indexAddr t x y, ty, pos, af, none⟩ :: rest) a w :=
  op_val rfl rfl hE hN (by
    obtain ⟨e, inf, hu, hi, rfl⟩ := arr_spec ht
    simp [execOp, hE.eval hx, hE.eval hy, Instr.indexAt, asIntOf, run_underlying hu, Instr.sureAddr, h, run_sizeOf' hi, Addr.add_lit]) k
/-- The address of a slice's element. -/
theorem o_ixL {t e m : Nat} {x y : Operand} {b off n c : Nat} {q : IntKind} {i : Int} (hE : Env a N D L) (hN : Nat.blt d N = true) (hx : ev L x = some (.slice (some ⟨b, off, none⟩) n c)) (hy : ev L y = some (.int q i)) (ht : slOf P t = some (e, m)) (h : 0 ≤ i ∧ i < n)
    (k : ∀ a', Env a' N D ((d, .pointer (some ⟨b, off + i.toNat * m, none⟩)) :: L) → wpList P ops Q rest a' w) : wpList P ops Q (⟨some d, .indexAddr t x y, ty, pos, af, none⟩ :: rest) a w :=
  op_val rfl rfl hE hN (by
    obtain ⟨inf, hu, hi, rfl⟩ := sl_spec ht
    simp [execOp, hE.eval hx, hE.eval hy, Instr.indexAt, asIntOf, run_underlying hu, h, run_sizeOf' hi, Addr.add_lit]) k
/-- The address of an element of a slice that isn't written. -/
theorem o_ixI {α : Type} {K : Knd α} {t e m : Nat} {x y : Operand} {A : Option Addr} {n c : Nat} {xs : List α} {q : IntKind} {i : Int} {v : α} (hE : Env a N D L) (hN : Nat.blt d N = true) (hx : ev L x = some (.slice A n c)) (hy : ev L y = some (.int q i)) (ht : slOf P t = some (e, m)) (hm : m = K.sz) (hR : Rd K G A xs) (hn : n = xs.length) (h : 0 ≤ i) (hv : xs[i.toNat]? = some v)
    (k : ∀ b o a', ElAt K G b o v → Env a' N D ((d, .pointer (some ⟨b, o, none⟩)) :: L) → wpList P ops Q rest a' w) : wpList P ops Q (⟨some d, .indexAddr t x y, ty, pos, af, none⟩ :: rest) a w := by
  obtain ⟨b, o, rfl, hel⟩ := hR.at hv
  subst hm
  have hlt : i.toNat < xs.length := (List.getElem?_eq_some_iff.1 hv).1
  exact o_ixL hE hN hx hy ht ⟨h, by omega⟩ (fun a' hE' => k _ _ a' hel hE')
theorem o_nil {x : Operand} {ad : Addr} (hE : Env a N D L) (hN : Nat.blt d N = true) (hx : ev L x = some (.pointer (some ad))) (k : ∀ a', Env a' N D ((d, .pointer (some ad)) :: L) → wpList P ops Q rest a' w) :
    wpList P ops Q (⟨some d, .nilCheck x, ty, pos, af, none⟩ :: rest) a w :=
  op_val rfl rfl hE hN (by simp [execOp, hE.eval hx]) k
def evs (L : List (Nat × Value)) : List Operand → Option (List Value)
  | [] => some []
  | x :: r => match ev L x, evs L r with
    | some v, some vs => some (v :: vs)
    | _, _ => none
theorem Env.evals (hE : Env a N D L) : ∀ {xs : List Operand} {vs : List Value}, evs L xs = some vs → xs.map a.eval = vs
  | [], vs, h => by simpa [evs] using h
  | x :: r, vs, h => by
    simp only [evs] at h
    cases h1 : ev L x with
    | none => simp [h1] at h
    | some v =>
      cases h2 : evs L r with
      | none => simp [h1, h2] at h
      | some us =>
        simp only [h1, h2, Option.some.injEq] at h
        subst h
        simp [hE.eval h1, Env.evals hE h2]
theorem Env.evalA (hE : Env a N D L) {xs : Array Operand} {vs : List Value} (h : evs L xs.toList = some vs) : xs.map a.eval = vs.toArray := by
  have := hE.evals h
  apply Array.toList_inj.1
  simpa using this
theorem o_func {fn : Fn} {first cap : Array Operand} {us vs : List Value} (hE : Env a N D L) (hN : Nat.blt d N = true) (h1 : evs L first.toList = some us) (h2 : evs L cap.toList = some vs) (k : ∀ a', Env a' N D ((d, .func fn us.toArray vs.toArray) :: L) → wpList P ops Q rest a' w) :
    wpList P ops Q (⟨some d, .makeFunc fn first cap, ty, pos, af, none⟩ :: rest) a w :=
  op_val rfl rfl hE hN (by
    have e1 : first.map a.eval = us.toArray := hE.evalA h1
    have e2 : cap.map a.eval = vs.toArray := hE.evalA h2
    simp [execOp, Instr.makeFunc, e1, e2]) k
/-- A function with a Go body. -/
def goFn (P : Program) (f : Nat) : Bool := match P.funcs[f]? with
  | some fn => fn.body.isSome && !(fn.name == "runtime.NumGoroutine")
  | none => false
theorem run_go {f : Nat} (h : goFn P f = true) (args : Array Value) : (callFunc f args).run P w = .ok (.enter f args) w := by
  unfold goFn at h
  cases hf : P.funcs[f]? with
  | none => simp [hf] at h
  | some fn =>
    simp [hf] at h
    cases hb : fn.body with
    | none => simp [hb] at h
    | some c => simp [callFunc, hf, h.2, hb]
theorem run_callOp {f : Nat} {x : Operand} {xs : Array Operand} {ats : Array TypeId} {us vs cs : List Value} {dst : Option Nat} {g : Option (Nat × Bool)} (hE : Env a N D L) (hx : ev L x = some (.func (.func f) us.toArray cs.toArray)) (hv : evs L xs.toList = some vs) (hf : goFn P f = true) :
    (execOp a.eval ⟨dst, .call ⟨.value x, xs, ats⟩, ty, pos, af, g⟩).run P w = .ok (.enter f (us ++ vs ++ cs).toArray) w := by
  have e1 : xs.map a.eval = vs.toArray := hE.evalA hv
  simp [execOp, resolve, hE.eval hx, Deferred.ofValue, e1, invoke, run_go hf]
/-- A call of a function that hands back, and touches nothing. -/
theorem o_call {f : Nat} {x : Operand} {xs : Array Operand} {ats : Array TypeId} {us vs cs : List Value} {R : Value → Heap → Prop} (hE : Env a N D L) (hN : Nat.blt d N = true) (hS : St w0 G0 K0 G w M) (hx : ev L x = some (.func (.func f) us.toArray cs.toArray)) (hv : evs L xs.toList = some vs) (hf : goFn P f = true)
    (hc : Calls P f (us ++ vs ++ cs).toArray w (Ret w G R)) (k : ∀ v G' w' a', St w0 G0 K0 G' w' M → Heap.le G G' → R v G' → Env a' N D ((d, v) :: L) → wpList P ops Q rest a' w') :
    wpList P ops Q (⟨some d, .call ⟨.value x, xs, ats⟩, ty, pos, af, none⟩ :: rest) a w :=
  wpList_plain rfl fun K hK => by
    unfold Oper.wp
    rw [run_callOp hE hx hv hf, Oper.upon_enter]
    refine hc.mono fun e w' he => ?_
    cases e with
    | returned v =>
      obtain ⟨G', M2, ha, rfl, hR⟩ := he
      exact hK _ _ (k v G' w' _ (hS.called0 ha) ha.le hR (hE.put hN v))
    | panicked c =>
      obtain ⟨_, _, _, hf⟩ := he
      exact hf.elim
    | outgrown => exact he.elim
theorem o_call_none {f : Nat} {x : Operand} {xs : Array Operand} {ats : Array TypeId} {us vs cs : List Value} {R : Value → Heap → Prop} (hE : Env a N D L) (hS : St w0 G0 K0 G w M) (hx : ev L x = some (.func (.func f) us.toArray cs.toArray)) (hv : evs L xs.toList = some vs) (hf : goFn P f = true)
    (hc : Calls P f (us ++ vs ++ cs).toArray w (Ret w G R)) (k : ∀ v G' w', St w0 G0 K0 G' w' M → Heap.le G G' → R v G' → wpList P ops Q rest a w') :
    wpList P ops Q (⟨none, .call ⟨.value x, xs, ats⟩, ty, pos, af, none⟩ :: rest) a w :=
  wpList_plain rfl fun K hK => by
    unfold Oper.wp
    rw [run_callOp hE hx hv hf, Oper.upon_enter]
    refine hc.mono fun e w' he => ?_
    cases e with
    | returned v =>
      obtain ⟨G', M2, ha, rfl, hR⟩ := he
      exact hK _ _ (k v G' w' (hS.called0 ha) ha.le hR)
    | panicked c =>
      obtain ⟨_, _, _, hf⟩ := he
      exact hf.elim
    | outgrown => exact he.elim
/-- A call that is handed the chunk `C`, and may panic. -/
theorem o_callM {A B : List Chunk} {C : Chunk} {f : Nat} {x : Operand} {xs : Array Operand} {ats : Array TypeId} {us vs cs : List Value} {R : Value → Heap → Chunk → Prop} {E : List PanicEntry → Heap → Chunk → Prop} (hE : Env a N D L) (hN : Nat.blt d N = true) (hS : St w0 G0 K0 G w (A ++ C :: B))
    (hx : ev L x = some (.func (.func f) us.toArray cs.toArray)) (hv : evs L xs.toList = some vs) (hf : goFn P f = true)
    (hc : Calls P f (us ++ vs ++ cs).toArray w (Ends w G (keys C) R E)) (k : ∀ v G' C' w' a', St w0 G0 K0 G' w' (A ++ C' :: B) → Heap.le G G' → R v G' C' → Env a' N D ((d, v) :: L) → wpList P ops Q rest a' w')
    (kp : ∀ c G' C' w', St w0 G0 K0 G' w' (A ++ C' :: B) → Heap.le G G' → E c G' C' → Q (.panic c) a w') :
    wpList P ops Q (⟨some d, .call ⟨.value x, xs, ats⟩, ty, pos, af, none⟩ :: rest) a w :=
  wpList_plain rfl fun K hK => by
    unfold Oper.wp
    rw [run_callOp hE hx hv hf, Oper.upon_enter]
    refine hc.mono fun e w' he => ?_
    cases e with
    | returned v =>
      obtain ⟨G', M2, ha, hR⟩ := he
      exact hK _ _ (k v G' M2 w' _ (hS.called ha) ha.le hR (hE.put hN v))
    | panicked c =>
      obtain ⟨G', M2, ha, hR⟩ := he
      exact kp c G' M2 w' (hS.called ha) ha.le hR
    | outgrown => exact he.elim
end
end Go.Proofs.YtiinipcmghhacaaDoor.X
