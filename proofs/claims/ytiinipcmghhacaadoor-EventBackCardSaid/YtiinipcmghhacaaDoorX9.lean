/- Literals, and blocks that are written no more. -/
import Derived.Test.YtiinipcmghhacaaDoorX8
set_option linter.unusedVariables false
set_option linter.unusedSimpArgs false
namespace Go.Proofs.YtiinipcmghhacaaDoor.X
open Go
section
variable {P : Program} {Q : Exit → Act → World → Prop} {a : Act} {w : World} {N : Nat} {D : List Deferred} {L : List (Nat × Value)} {ops : Array Oper} {rest : List Oper}
variable {d : Nat} {ty : TypeId} {pos : String} {af : Array Edge}
variable {w0 : World} {G0 : Heap} {K0 : List Nat} {G : Heap} {M M' : List Chunk}

/-! ## Literals -/
def placeS (P : Program) (fs : Array Field) (i : Nat) : Option (Nat × Nat) :=
  match fs[i]? with
  | some f => some (f.offset, P.cellsOf f.type)
  | none => none
def bldOf (P : Program) (t : TypeId) (parts : List (Nat × Value)) : Option (Array Value) :=
  match zeroOf P t with
  | none => none
  | some z => match P.underlying t with
    | some (.struct fs) => if fs.toList.all (fun f => (P.info? f.type).isSome) then Instr.fill (placeS P fs) z.cells parts else none
    | some (.array _ e) => if (P.info? e).isSome then Instr.fill (fun i => some (i * P.cellsOf e, P.cellsOf e)) z.cells parts else none
    | _ => none
theorem run_fields (fs : List Field) (h : fs.all (fun f => (P.info? f.type).isSome) = true) : (fs.mapM (m := Sem) fun f => Prod.mk f.offset <$> sizeOf f.type).run P w = .ok (fs.map fun f => (f.offset, P.cellsOf f.type)) w := by
  induction fs with
  | nil => simp [List.mapM_nil]
  | cons f r ih =>
    simp only [List.all_cons, Bool.and_eq_true] at h
    obtain ⟨i, hi⟩ := Option.isSome_iff_exists.1 h.1
    have h3 : (sizeOf f.type).run P w = .ok (P.cellsOf f.type) w := run_sizeOf w hi
    simp [List.mapM_cons, h3, ih h.2]
theorem run_build {t : TypeId} {parts : List (Nat × Value)} {cs : Array Value} (h : bldOf P t parts = some cs) : (Instr.build t parts.toArray).run P w = .ok (.agg cs) w := by
  unfold bldOf at h
  cases hz : zeroOf P t with
  | none => simp [hz] at h
  | some z =>
    simp only [hz] at h
    have hzv : (zeroValue t).run P w = .ok z w := by
      unfold zeroOf at hz
      cases hi : P.info? t with
      | none => simp [hi] at hz
      | some i => simp [hi] at hz; simp [zeroValue, typeInfo, hi, hz]
    cases hu : P.underlying t with
    | none => simp [hu] at h
    | some td =>
      cases td <;> simp [hu] at h
      case struct fs =>
        obtain ⟨ha, hf⟩ := h
        have hm : (fs.mapM (m := Sem) fun f => Prod.mk f.offset <$> sizeOf f.type).run P w = .ok (fs.toList.map fun f => (f.offset, P.cellsOf f.type)).toArray w := by
          rw [Array.mapM_eq_mapM_toList]
          have := run_fields (P := P) (w := w) fs.toList (by rw [List.all_eq_true]; intro f hf; obtain ⟨i, hi, rfl⟩ := Array.mem_iff_getElem.1 (Array.mem_toList_iff.1 hf); exact ha i hi)
          simp [this]
        have e : Instr.fill (fun x => Option.map (fun f => (f.offset, P.cellsOf f.type)) fs[x]?) z.cells parts = some cs := by
          rw [← hf]
          congr 1
          funext i
          unfold placeS
          cases fs[i]? <;> rfl
        simp [Instr.build, hzv, run_underlying hu, hm, e]
      case array n e =>
        obtain ⟨ha, hf⟩ := h
        obtain ⟨i, hi⟩ := Option.isSome_iff_exists.1 ha
        have h3 : (sizeOf e).run P w = .ok (P.cellsOf e) w := run_sizeOf w hi
        simp [Instr.build, hzv, run_underlying hu, h3, hf]
def evp (L : List (Nat × Value)) : List (Nat × Operand) → Option (List (Nat × Value))
  | [] => some []
  | (i, x) :: r => match ev L x, evp L r with
    | some v, some vs => some ((i, v) :: vs)
    | _, _ => none
theorem Env.evalP (hE : Env a N D L) : ∀ {xs : List (Nat × Operand)} {vs : List (Nat × Value)}, evp L xs = some vs → (xs.map fun (i, x) => (i, a.eval x)) = vs
  | [], vs, h => by simpa [evp] using h
  | (i, x) :: r, vs, h => by
    simp only [evp] at h
    cases h1 : ev L x with
    | none => simp [h1] at h
    | some v =>
      cases h2 : evp L r with
      | none => simp [h1, h2] at h
      | some us =>
        simp only [h1, h2, Option.some.injEq] at h
        subst h
        simp [hE.eval h1, Env.evalP hE h2]
theorem o_build {t : TypeId} {ps : Array (Nat × Operand)} {vs : List (Nat × Value)} {cs : Array Value} (hE : Env a N D L) (hN : Nat.blt d N = true) (hp : evp L ps.toList = some vs) (hb : bldOf P t vs = some cs) (k : ∀ a', Env a' N D ((d, .agg cs) :: L) → wpList P ops Q rest a' w) :
    wpList P ops Q (⟨some d, .build t ps, ty, pos, af, none⟩ :: rest) a w :=
  op_val rfl rfl hE hN (by
    have e : (ps.map fun (i, x) => (i, a.eval x)) = vs.toArray := by
      apply Array.toList_inj.1
      have := hE.evalP hp
      simpa using this
    simp [execOp, e, run_build hb]) k
/-- A slice literal: a new block. -/
def bldSl (P : Program) (e : TypeId) (n m : Nat) (parts : List (Nat × Value)) : Option (Array Value) :=
  match zeroOf P e with
  | none => none
  | some z => if n * m ≤ 1048576 ∧ 0 < n * m ∧ z.cells.size = m then Instr.fill (fun i => some (i * m, m)) ((Array.range (n * m)).map (z.cells[· % z.cells.size]!)) parts else none
theorem o_buildSl {t e m n : Nat} {ps : Array (Nat × Operand)} {vs : List (Nat × Value)} {cs : Array Value} (Lb : List (Nat × Value)) (hE : Env a N D L) (hN : Nat.blt d N = true) (hS : St w0 G0 K0 G w M) (hp : evp L ps.toList = some vs) (ht : slOf P t = some (e, m)) (hb : bldSl P e n m vs = some cs) (hL : AllIn (enum 0 cs.toList) Lb)
    (k : ∀ b w' a', St w0 G0 K0 G w' ([(b, Cells e Lb)] :: M) → Env a' N D ((d, .slice (some ⟨b, 0, none⟩) n n) :: L) → wpList P ops Q rest a' w') :
    wpList P ops Q (⟨some d, .buildSlice t n ps, ty, pos, af, none⟩ :: rest) a w := by
  refine op_val (w' := w.alloc (.cells cs e)) (v := .slice (some ⟨w.heap.size, 0, none⟩) n n) rfl rfl hE hN ?_ fun a' hE' => k _ _ a' ((hS.alloc _ (cells_enum cs e)).convHead hL) hE'
  obtain ⟨inf, hu, hi, rfl⟩ := sl_spec ht
  have hpe : (ps.map fun (i, x) => (i, a.eval x)) = vs.toArray := by
    apply Array.toList_inj.1
    have := hE.evalP hp
    simpa using this
  unfold bldSl at hb
  cases hz : zeroOf P e with
  | none => simp [hz] at hb
  | some z =>
    simp only [hz] at hb
    split at hb
    · rename_i hc
      have hzv : (zeroValue e).run P w = .ok z w := by
        unfold zeroOf at hz
        simp [hi] at hz
        simp [zeroValue, typeInfo, hi, hz]
      have h1 : ¬ (n * inf.size > 2 ^ 24) := by omega
      have h2 : ¬ (n * inf.size = 0) := by omega
      have h3 : (Instr.buildSlice t n vs.toArray).run P w = .ok (.slice (some ⟨w.heap.size, 0, none⟩) n n) (w.alloc (.cells cs e)) := by
        simp only [Instr.buildSlice, Sem.run_bind, run_underlying hu, Result.andThen_ok, run_sizeOf' hi, if_neg h1, if_neg h2, hzv, Sem.run_pure]
        simp [hb, run_row]
      simp [execOp, hpe, h3]
    · cases hb
/-- Own cells that aren't written any more. -/
theorem St.still {b n : Nat} {T : TypeId} {Lb : List (Nat × Value)} {cs : List Value} (h : St w0 G0 K0 G w M) (hm : RepM b (Cells T Lb) (Cells T Lb) M M) (hc : lks Lb 0 n = some cs) (hM : ∀ A X Y B, M = A ++ (X ++ (b, Cells T Lb) :: Y) :: B → M' = A ++ (X ++ Y) :: B) : ∃ G', Heap.le G G' ∧ CellsAt G' b 0 cs ∧ St w0 G0 K0 G' w M' := by
  obtain ⟨A, X, Y, B, rfl, _⟩ := hm.split
  obtain ⟨o, ⟨c, rfl, hget⟩, h'⟩ := h.exact1
  obtain ⟨G', hle, hb, hS⟩ := h'.freeze
  refine ⟨G', hle, ?_, ?_⟩
  · intro k v hk
    obtain ⟨_, h2⟩ := lks_get _ _ _ hc
    have := hget _ _ (h2 k v hk)
    simp only [Heap.cell, hb]
    simpa using this
  · rw [hM A X Y B rfl]; exact hS
theorem St.stillHead {b n : Nat} {T : TypeId} {Lb : List (Nat × Value)} {cs : List Value} (h : St w0 G0 K0 G w ([(b, Cells T Lb)] :: M)) (hc : lks Lb 0 n = some cs) : ∃ G', Heap.le G G' ∧ CellsAt G' b 0 cs ∧ St w0 G0 K0 G' w M := by
  obtain ⟨o, ⟨c, rfl, hget⟩, h'⟩ := St.exact1 (A := []) (C := []) (E := []) (B := M) h
  obtain ⟨G', hle, hb, hS⟩ := St.freeze (A := []) (C := []) (D := []) (B := M) h'
  refine ⟨G', hle, ?_, hS.perm (by simp)⟩
  intro k v hk
  obtain ⟨_, h2⟩ := lks_get _ _ _ hc
  have := hget _ _ (h2 k v hk)
  simp only [Heap.cell, hb]
  simpa using this
/-- The cells of a list, one element behind the other. -/
def ListR {α : Type} (K : Knd α) (G : Heap) : List α → List Value → Prop
  | [], cs => cs = []
  | x :: xs, cs => K.R G x (cs.take K.sz) ∧ ListR K G xs (cs.drop K.sz)
theorem ListR.at {α : Type} {K : Knd α} {G : Heap} : ∀ {xs : List α} {cs : List Value}, ListR K G xs cs → ∀ (i : Nat) x, xs[i]? = some x → K.R G x ((cs.drop (i * K.sz)).take K.sz)
  | [], _, _, i, x, h => by simp at h
  | y :: ys, cs, ⟨h1, h2⟩, i, x, h => by
    cases i with
    | zero => simp at h; subst h; simpa using h1
    | succ i =>
      have := ListR.at h2 i x (by simpa using h)
      rw [List.drop_drop] at this
      rw [show (i + 1) * K.sz = K.sz + i * K.sz from by rw [Nat.add_mul]; omega]
      exact this
theorem Rd.ofCells {α : Type} {K : Knd α} {G : Heap} {b : Nat} {xs : List α} {cs : List Value} (hC : CellsAt G b 0 cs) (h : ListR K G xs cs) : Rd K G (some ⟨b, 0, none⟩) xs := by
  refine .inr ⟨b, 0, rfl, fun i x hi => ⟨_, h.at i x hi, ?_⟩⟩
  have := hC.part (i * K.sz) K.sz
  exact this
end
end Go.Proofs.YtiinipcmghhacaaDoor.X
