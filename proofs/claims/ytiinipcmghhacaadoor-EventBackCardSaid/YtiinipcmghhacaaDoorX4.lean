/- Cells of own blocks, read and written. -/
import Derived.Test.YtiinipcmghhacaaDoorX3
set_option linter.unusedVariables false
set_option linter.unusedSimpArgs false
namespace Go.Proofs.YtiinipcmghhacaaDoor.X
open Go

/-! ## Memory -/
def Heap.cell (G : Heap) (b o : Nat) : Option Value :=
  match G b with
  | some (.cells c _ _) => c[o]?
  | _ => none
theorem Heap.cell_le {G G' : Heap} (h : Heap.le G G') {b o : Nat} {v : Value} (hc : G.cell b o = some v) : G'.cell b o = some v := by
  unfold Heap.cell at *
  split at hc
  · rename_i c e f hb
    rw [h _ _ hb]; exact hc
  · cases hc
theorem Sub.cell {G : Heap} {w : World} (h : Sub G w) {b o : Nat} {v : Value} (hc : G.cell b o = some v) : w.cell? ⟨b, o, none⟩ = some v := by
  unfold Heap.cell at hc
  unfold World.cell?
  split at hc
  · rename_i c e f hb
    rw [h _ _ hb]; simpa using hc
  · cases hc
/-- The cells `cs` lie at a place that isn't written. -/
def CellsAt (G : Heap) (b o : Nat) (cs : List Value) : Prop := ∀ k v, cs[k]? = some v → G.cell b (o + k) = some v
theorem CellsAt.le {G G' : Heap} (h : Heap.le G G') {b o : Nat} {cs : List Value} (hc : CellsAt G b o cs) : CellsAt G' b o cs := fun k v hk => Heap.cell_le h (hc k v hk)

/-- What an own block holds. -/
def Cells (T : TypeId) (L : List (Nat × Value)) (o : Obj) : Prop := ∃ c, o = .cells c T (0, 0) ∧ ∀ t v, lk L t = some v → c[t]? = some v
inductive InC : Chunk → Nat → (Obj → Prop) → Prop where
  | here {b : Nat} {p : Obj → Prop} {r : Chunk} : InC ((b, p) :: r) b p
  | there {b : Nat} {p : Obj → Prop} {x : Nat × (Obj → Prop)} {r : Chunk} (h : InC r b p) : InC (x :: r) b p
inductive InM : List Chunk → Nat → (Obj → Prop) → Prop where
  | here {C : Chunk} {r : List Chunk} {b : Nat} {p : Obj → Prop} (h : InC C b p) : InM (C :: r) b p
  | there {C : Chunk} {r : List Chunk} {b : Nat} {p : Obj → Prop} (h : InM r b p) : InM (C :: r) b p
theorem InC.mem {C : Chunk} {b : Nat} {p : Obj → Prop} (h : InC C b p) : (b, p) ∈ C := by
  induction h with
  | here => simp
  | there _ ih => simp [ih]
theorem InM.mem {M : List Chunk} {b : Nat} {p : Obj → Prop} (h : InM M b p) : (b, p) ∈ M.flatten := by
  induction h with
  | here h => simp [h.mem]
  | there _ ih => simp only [List.flatten_cons, List.mem_append]; exact .inr ih
/-- `M` with the block `b` told by `q` (it was told by `p`) is `M'`. -/
inductive RepC (b : Nat) (p q : Obj → Prop) : Chunk → Chunk → Prop where
  | here {r : Chunk} : RepC b p q ((b, p) :: r) ((b, q) :: r)
  | there {x : Nat × (Obj → Prop)} {r r' : Chunk} (h : RepC b p q r r') : RepC b p q (x :: r) (x :: r')
inductive RepM (b : Nat) (p q : Obj → Prop) : List Chunk → List Chunk → Prop where
  | here {C C' : Chunk} {r : List Chunk} (h : RepC b p q C C') : RepM b p q (C :: r) (C' :: r)
  | there {C : Chunk} {r r' : List Chunk} (h : RepM b p q r r') : RepM b p q (C :: r) (C :: r')
theorem RepC.split {b : Nat} {p q : Obj → Prop} {C C' : Chunk} (h : RepC b p q C C') : ∃ X Y, C = X ++ (b, p) :: Y ∧ C' = X ++ (b, q) :: Y := by
  induction h with
  | @here r => exact ⟨[], r, rfl, rfl⟩
  | @there x r r' _ ih =>
    obtain ⟨X, Y, rfl, rfl⟩ := ih
    exact ⟨x :: X, Y, rfl, rfl⟩
theorem RepM.split {b : Nat} {p q : Obj → Prop} {M M' : List Chunk} (h : RepM b p q M M') : ∃ A X Y B, M = A ++ (X ++ (b, p) :: Y) :: B ∧ M' = A ++ (X ++ (b, q) :: Y) :: B := by
  induction h with
  | @here C C' r h =>
    obtain ⟨X, Y, rfl, rfl⟩ := h.split
    exact ⟨[], X, Y, r, rfl, rfl⟩
  | @there C r r' _ ih =>
    obtain ⟨A, X, Y, B, rfl, rfl⟩ := ih
    exact ⟨C :: A, X, Y, B, rfl, rfl⟩
theorem InC.mk' {b : Nat} {p : Obj → Prop} : ∀ (X Y : Chunk), InC (X ++ (b, p) :: Y) b p
  | [], _ => .here
  | _ :: X, Y => .there (InC.mk' X Y)
theorem InM.mk' {b : Nat} {p : Obj → Prop} : ∀ (A : List Chunk) (X Y : Chunk) (B : List Chunk), InM (A ++ (X ++ (b, p) :: Y) :: B) b p
  | [], X, Y, _ => .here (InC.mk' X Y)
  | _ :: A, X, Y, B => .there (InM.mk' A X Y B)
theorem RepC.mk' {b : Nat} {p q : Obj → Prop} : ∀ (X Y : Chunk), RepC b p q (X ++ (b, p) :: Y) (X ++ (b, q) :: Y)
  | [], _ => .here
  | _ :: X, Y => .there (RepC.mk' X Y)
theorem RepM.mk' {b : Nat} {p q : Obj → Prop} : ∀ (A : List Chunk) (X Y : Chunk) (B : List Chunk), RepM b p q (A ++ (X ++ (b, p) :: Y) :: B) (A ++ (X ++ (b, q) :: Y) :: B)
  | [], X, Y, _ => .here (RepC.mk' X Y)
  | _ :: A, X, Y, B => .there (RepM.mk' A X Y B)
theorem lk_front (k : Nat) (v : Value) : ∀ (F L : List (Nat × Value)), (∀ t x, lk F t = some x → t ≠ k) → ∀ t x, lk ((k, v) :: (F ++ L)) t = some x → lk (F ++ (k, v) :: L) t = some x
  | [], L, _, t, x, h => h
  | (j, u) :: F, L, hF, t, x, h => by
    have hj : j ≠ k := hF j u (by simp [lk])
    have ih := lk_front k v F L (fun t x ht => by
      by_cases e : Nat.beq j t = true
      · have := Nat.eq_of_beq_eq_true e
        exact fun e2 => hj (by omega)
      · refine hF t x ?_
        simp only [lk]
        simp only [Bool.not_eq_true] at e
        rw [e]; exact ht) t x
    rcases lk_cons h with ⟨rfl, rfl⟩ | ⟨hne, h'⟩
    · simp only [List.cons_append, lk]
      have : Nat.beq j k = false := by
        cases hb : Nat.beq j k with
        | false => rfl
        | true => exact absurd (Nat.eq_of_beq_eq_true hb) hj
      rw [this]
      refine ih ?_
      simp [lk]
    · rcases lk_cons h' with ⟨rfl, rfl⟩ | ⟨hne2, h2⟩
      · simp [lk]
      · simp only [List.cons_append, lk]
        have : Nat.beq j t = false := by
          cases hb : Nat.beq j t with
          | false => rfl
          | true => exact absurd (Nat.eq_of_beq_eq_true hb) hne2
        rw [this]
        refine ih ?_
        simp only [lk]
        have : Nat.beq k t = false := by
          cases hb : Nat.beq k t with
          | false => rfl
          | true => exact absurd (Nat.eq_of_beq_eq_true hb) hne
        rw [this]; exact h2
section
variable {w0 : World} {G0 : Heap} {K0 : List Nat} {G : Heap} {w : World} {M M' : List Chunk}
theorem St.turnM {b : Nat} {p q : Obj → Prop} (h : St w0 G0 K0 G w M) (hm : RepM b p q M M') {w' : World} (h1 : w'.os = w.os) (h2 : w'.tape = w.tape) (h3 : w'.output = w.output)
    (hsz : w'.heap.size = w.heap.size) (hk : ∀ k, k ≠ b → w'.heap[k]? = w.heap[k]?) (hq : ∃ o, w'.heap[b]? = some o ∧ q o) : St w0 G0 K0 G w' M' := by
  obtain ⟨A, X, Y, B, rfl, rfl⟩ := hm.split
  exact h.turn h1 h2 h3 hsz hk hq
theorem St.cells {b : Nat} {T : TypeId} {Lb : List (Nat × Value)} (h : St w0 G0 K0 G w M) (hm : InM M b (Cells T Lb)) : ∃ c, w.heap[b]? = some (.cells c T (0, 0)) ∧ ∀ t v, lk Lb t = some v → c[t]? = some v := by
  obtain ⟨o, h1, c, rfl, h2⟩ := h.mem _ hm.mem
  exact ⟨c, h1, h2⟩
theorem St.cell {b : Nat} {T : TypeId} {Lb : List (Nat × Value)} {t : Nat} {v : Value} (h : St w0 G0 K0 G w M) (hm : InM M b (Cells T Lb)) (hv : lk Lb t = some v) : w.cell? ⟨b, t, none⟩ = some v := by
  obtain ⟨c, h1, h2⟩ := h.cells hm
  simp [World.cell?, h1, h2 t v hv]
theorem St.soft {b : Nat} {T : TypeId} {Lb : List (Nat × Value)} (h : St w0 G0 K0 G w M) (hm : InM M b (Cells T Lb)) (t : Nat) : w.frozen? ⟨b, t, none⟩ = false := by
  obtain ⟨c, h1, _⟩ := h.cells hm
  simp [World.frozen?, h1]
/-- A store into an own block. -/
theorem St.set {b : Nat} {T : TypeId} {Lb : List (Nat × Value)} {t : Nat} {u v : Value} (h : St w0 G0 K0 G w M) (hm : RepM b (Cells T Lb) (Cells T ((t, v) :: Lb)) M M') (hu : lk Lb t = some u) : St w0 G0 K0 G (w.setCell ⟨b, t, none⟩ v) M' := by
  have hin : ∃ c, w.heap[b]? = some (.cells c T (0, 0)) ∧ ∀ t v, lk Lb t = some v → c[t]? = some v := by
    obtain ⟨A, X, Y, B, rfl, rfl⟩ := hm.split
    obtain ⟨o, h1, c, rfl, h2⟩ := h.mem (b, Cells T Lb) (by simp)
    exact ⟨c, h1, h2⟩
  obtain ⟨c, hb, hc⟩ := hin
  refine h.turnM hm rfl rfl rfl (by simp [World.setCell]) (fun k hk => ?_) ?_
  · simp only [World.setCell, Array.getElem?_modify]
    rw [if_neg (fun e => hk e.symm)]
  · refine ⟨.cells (c.setIfInBounds t v) T (0, 0), ?_, _, rfl, fun t' v' ht => ?_⟩
    · simp [World.setCell, Array.getElem?_modify, hb]
    · have hlt : t < c.size := (Array.getElem?_eq_some_iff.1 (hc t u hu)).1
      rcases lk_cons ht with ⟨rfl, rfl⟩ | ⟨hne, ht⟩
      · simp [hlt]
      · rw [Array.getElem?_setIfInBounds, if_neg hne]
        exact hc _ _ ht
theorem St.exact1 {b : Nat} {p : Obj → Prop} {A B : List Chunk} {C E : Chunk} (h : St w0 G0 K0 G w (A ++ (C ++ (b, p) :: E) :: B)) : ∃ o, p o ∧ St w0 G0 K0 G w (A ++ (C ++ (b, (· = o)) :: E) :: B) := by
  obtain ⟨o, h1, h2⟩ := h.mem (b, p) (by simp)
  exact ⟨o, h2, h.turn rfl rfl rfl rfl (fun _ _ => rfl) ⟨o, h1, rfl⟩⟩
end
/-- A list of cells, numbered. -/
def enum : Nat → List Value → List (Nat × Value)
  | _, [] => []
  | i, v :: r => (i, v) :: enum (i + 1) r
theorem enum_get : ∀ (l : List Value) (i t : Nat) (v : Value), lk (enum i l) t = some v → i ≤ t ∧ l[t - i]? = some v
  | [], _, _, _, h => by simp [enum, lk] at h
  | u :: r, i, t, v, h => by
    rcases lk_cons h with ⟨rfl, rfl⟩ | ⟨hne, h'⟩
    · simp
    · obtain ⟨h1, h2⟩ := enum_get r (i + 1) t v h'
      refine ⟨by omega, ?_⟩
      have : t - i = (t - (i + 1)) + 1 := by omega
      rw [this, List.getElem?_cons_succ]
      exact h2
def cellsOf : Value → List Value
  | .agg cs => cs.toList
  | v => [v]
theorem cellsOf_cells (v : Value) : v.cells.toList = cellsOf v := by cases v <;> rfl
/-- As many cells, from a place on. -/
def lks (L : List (Nat × Value)) : Nat → Nat → Option (List Value)
  | _, 0 => some []
  | s, n + 1 => match lk L s, lks L (s + 1) n with
    | some v, some r => some (v :: r)
    | _, _ => none
theorem lks_get {L : List (Nat × Value)} : ∀ (n s : Nat) (vs : List Value), lks L s n = some vs → vs.length = n ∧ ∀ k v, vs[k]? = some v → lk L (s + k) = some v
  | 0, s, vs, h => by
    simp only [lks, Option.some.injEq] at h
    subst h
    simp
  | n + 1, s, vs, h => by
    simp only [lks] at h
    cases h1 : lk L s with
    | none => simp [h1] at h
    | some v =>
      cases h2 : lks L (s + 1) n with
      | none => simp [h1, h2] at h
      | some r =>
        simp only [h1, h2, Option.some.injEq] at h
        subst h
        obtain ⟨h3, h4⟩ := lks_get n (s + 1) r h2
        refine ⟨by simp [h3], fun k u hk => ?_⟩
        cases k with
        | zero => simp at hk; subst hk; simpa using h1
        | succ k =>
          rw [List.getElem?_cons_succ] at hk
          have := h4 k u hk
          rw [show s + (k + 1) = s + 1 + k from by omega]
          exact this
/-- A type whose values are one cell. -/
def scal (P : Program) (t : TypeId) : Bool :=
  match P.underlying t with
  | some (.struct _) | some (.array _ _) => false
  | some _ => (P.info? t).any fun i => i.size == 1
  | none => false
/-- A struct or an array: its cells. -/
def aggSz (P : Program) (t : TypeId) : Option Nat :=
  match P.underlying t with
  | some (.struct _) | some (.array _ _) => (P.info? t).map (·.size)
  | _ => none
def fieldOff (P : Program) (s f : Nat) : Option Nat :=
  match P.underlying s with
  | some (.struct fs) => match fs[f]? with
    | some fd => if P.cellsOf fd.type = 0 ∨ (P.info? fd.type).isNone then none else some fd.offset
    | none => none
  | _ => none
/-- An array: its length, and an element's cells. -/
def arrOf (P : Program) (t : TypeId) : Option (Nat × Nat) :=
  match P.underlying t with
  | some (.array n e) => (P.info? e).map fun i => (n, i.size)
  | _ => none
/-- A slice: an element's type and cells. -/
def slOf (P : Program) (t : TypeId) : Option (TypeId × Nat) :=
  match P.underlying t with
  | some (.slice e) => (P.info? e).map fun i => (e, i.size)
  | _ => none
def zeroOf (P : Program) (t : TypeId) : Option Value := (P.info? t).bind (·.zero)
section
variable {P : Program} {w : World}
theorem scal_spec {t : TypeId} (h : scal P t = true) : (isAgg t).run P w = .ok false w ∧ ∃ i, P.info? t = some i ∧ i.size = 1 := by
  unfold scal at h
  cases hu : P.underlying t with
  | none => simp [hu] at h
  | some td =>
    cases td <;> simp [hu] at h <;>
    · cases hi : P.info? t with
      | none => simp [hi] at h
      | some i =>
        simp [hi] at h
        refine ⟨by simp [isAgg, run_underlying hu], i, rfl, h⟩
theorem agg_spec {t n : Nat} (h : aggSz P t = some n) : (isAgg t).run P w = .ok true w ∧ ∃ i, P.info? t = some i ∧ i.size = n := by
  unfold aggSz at h
  cases hu : P.underlying t with
  | none => simp [hu] at h
  | some td =>
    cases td <;> simp [hu] at h <;>
    · obtain ⟨i, hi, rfl⟩ := h
      exact ⟨by simp [isAgg, run_underlying hu], i, hi, rfl⟩
theorem run_sizeOf' {t : TypeId} {i : TypeInfo} (h : P.info? t = some i) : (sizeOf t).run P w = .ok i.size w := by
  simp [sizeOf, typeInfo, h]
theorem run_load {ad : Addr} {v : Value} {m : Mode} (h : w.cell? ad = some v) : (load ad m).run P w = .ok v w := by
  simp [load, Sem.run, h]
theorem run_loadCellsFrom {ad : Addr} : ∀ (vs : List Value) (i : Nat) (acc : Array Value), (∀ k v, vs[k]? = some v → w.cell? (ad.add (i + k)) = some v) → (loadCellsFrom ad i vs.length acc).run P w = .ok (acc ++ vs.toArray) w
  | [], i, acc, _ => by simp [loadCellsFrom]
  | v :: r, i, acc, h => by
    have h0 := h 0 v (by simp)
    simp only [Nat.add_zero] at h0
    have ih := run_loadCellsFrom r (i + 1) (acc.push v) (fun k u hk => by
      have := h (k + 1) u (by simpa using hk)
      rw [show i + 1 + k = i + (k + 1) from by omega]; exact this)
    simp only [List.length_cons, loadCellsFrom, Sem.run_bind, run_load h0, Result.andThen_ok, ih]
    simp
theorem run_loadCells {ad : Addr} {vs : List Value} (h : ∀ k v, vs[k]? = some v → w.cell? (ad.add k) = some v) : (loadCells ad vs.length).run P w = .ok vs.toArray w := by
  have := run_loadCellsFrom (P := P) (w := w) (ad := ad) vs 0 #[] (by simpa using h)
  simpa [loadCells] using this
theorem run_loadS {t : TypeId} {ad : Addr} {v : Value} (ht : scal P t = true) (h : w.cell? ad = some v) : (loadVar t ad).run P w = .ok v w := by
  simp [loadVar, (scal_spec (w := w) ht).1, load, Sem.run, h]
theorem run_loadA {t : TypeId} {ad : Addr} {vs : List Value} (ht : aggSz P t = some vs.length) (h : ∀ k v, vs[k]? = some v → w.cell? (ad.add k) = some v) : (loadVar t ad).run P w = .ok (.agg vs.toArray) w := by
  obtain ⟨h1, i, hi, hs⟩ := agg_spec (w := w) ht
  have := run_loadCells (P := P) (w := w) (ad := ad) (vs := vs) h
  simp [loadVar, h1, run_sizeOf' hi, hs, this]
def one : Value → Bool
  | .agg _ | .tuple _ => false
  | _ => true
theorem run_store1 {ad : Addr} {u v : Value} {m : Mode} (h1 : one v = true) (h : w.cell? ad = some u) (hf : w.frozen? ad = false) : (store ad v m).run P w = .ok () (w.setCell ad v) := by
  cases v <;> simp [one] at h1 <;> simp [store, Sem.run, h, hf]
theorem run_storeS {t : TypeId} {ad : Addr} {u v : Value} (ht : scal P t = true) (h1 : one v = true) (h : w.cell? ad = some u) (hf : w.frozen? ad = false) : (storeVar t ad v).run P w = .ok () (w.setCell ad v) := by
  obtain ⟨_, i, hi, hs⟩ := scal_spec (w := w) ht
  have hc : v.cells = #[v] := by cases v <;> simp [one] at h1 <;> rfl
  simp [storeVar, run_sizeOf' hi, hs, hc, storeCells, run_store1 h1 h hf, Addr.add]

/-- A row of stores into one own block. -/
theorem St.sets {w0 : World} {G0 : Heap} {K0 : List Nat} {G : Heap} {b : Nat} {T : TypeId} {off : Nat} : ∀ (vs : List Value) (i : Nat) {w : World} {M M' : List Chunk} {Lb : List (Nat × Value)} {us : List Value}, St w0 G0 K0 G w M → RepM b (Cells T Lb) (Cells T (enum (off + i) vs ++ Lb)) M M' →
    vs.all one = true → lks Lb (off + i) vs.length = some us → ∃ w', (storeCells ⟨b, off, none⟩ vs i).run P w = .ok () w' ∧ St w0 G0 K0 G w' M'
  | [], i, w, M, M', Lb, us, hS, hm, _, _ => by
    refine ⟨w, by simp [storeCells], ?_⟩
    exact hS.turnM hm rfl rfl rfl rfl (fun _ _ => rfl) (by
      obtain ⟨A, X, Y, B, rfl, rfl⟩ := hm.split
      obtain ⟨o, h1, h2⟩ := hS.mem (b, Cells T Lb) (by simp)
      exact ⟨o, h1, h2⟩)
  | v :: r, i, w, M, M', Lb, us, hS, hm, h1, hu => by
    simp only [List.all_cons, Bool.and_eq_true] at h1
    simp only [List.length_cons] at hu
    obtain ⟨hlen, hget⟩ := lks_get _ _ _ hu
    match us, hlen with
    | u :: us', hlen =>
    have hu0 := hget 0 u (by simp)
    simp only [Nat.add_zero] at hu0
    obtain ⟨A, X, Y, B, rfl, rfl⟩ := hm.split
    have hm1 : RepM b (Cells T Lb) (Cells T ((off + i, v) :: Lb)) (A ++ (X ++ (b, Cells T Lb) :: Y) :: B) (A ++ (X ++ (b, Cells T ((off + i, v) :: Lb)) :: Y) :: B) := RepM.mk' A X Y B
    have hc : w.cell? ⟨b, off + i, none⟩ = some u := hS.cell (T := T) (Lb := Lb) (InM.mk' A X Y B) hu0
    have hf : w.frozen? ⟨b, off + i, none⟩ = false := hS.soft (T := T) (Lb := Lb) (InM.mk' A X Y B) _
    have hS1 := hS.set hm1 hu0
    have hadd : Addr.add ⟨b, off, none⟩ i = ⟨b, off + i, none⟩ := Addr.add_lit b off i
    have hrun : (store (Addr.add ⟨b, off, none⟩ i) v).run P w = .ok () (w.setCell ⟨b, off + i, none⟩ v) := by
      rw [hadd]; exact run_store1 h1.1 hc hf
    have hu' : lks ((off + i, v) :: Lb) (off + (i + 1)) r.length = some us' := by
      have : ∀ (n s : Nat) (vs : List Value), vs.length = n → off + i < s → (∀ k v, vs[k]? = some v → lk Lb (s + k) = some v) → lks ((off + i, v) :: Lb) s n = some vs := by
        intro n
        induction n with
        | zero => intro s vs hl _ _; match vs, hl with | [], _ => rfl
        | succ n ih =>
          intro s vs hl hs hg
          match vs, hl with
          | x :: vs', hl =>
          have e1 : lk ((off + i, v) :: Lb) s = some x := by
            have := hg 0 x (by simp)
            simp only [Nat.add_zero] at this
            simp only [lk]
            rw [show Nat.beq (off + i) s = false from by
              cases hb : Nat.beq (off + i) s with
              | false => rfl
              | true => have := Nat.eq_of_beq_eq_true hb; omega]
            exact this
          have e2 := ih (s + 1) vs' (by simpa using hl) (by omega) (fun k u hk => by
            have := hg (k + 1) u (by simpa using hk)
            rw [show s + 1 + k = s + (k + 1) from by omega]; exact this)
          simp only [lks, e1, e2]
      refine this _ _ _ (by simpa using hlen) (by omega) (fun k u hk => ?_)
      have := hget (k + 1) u (by simpa using hk)
      rw [show off + (i + 1) + k = off + i + (k + 1) from by omega]; exact this
    have hw : ∀ o, Cells T (enum (off + (i + 1)) r ++ (off + i, v) :: Lb) o → Cells T (enum (off + i) (v :: r) ++ Lb) o := by
      rintro o ⟨c, rfl, hcc⟩
      refine ⟨c, rfl, fun t x ht => hcc t x ?_⟩
      have := lk_front (off + i) v (enum (off + (i + 1)) r) Lb (fun t x h => by have := (enum_get _ _ _ _ h).1; omega) t x
      simp only [enum, List.cons_append] at ht
      rw [show off + i + 1 = off + (i + 1) from by omega] at ht
      exact this ht
    obtain ⟨w', hr, hS'⟩ := St.sets r (i + 1) hS1 (RepM.mk' A X Y B) h1.2 hu'
    refine ⟨w', by simp only [storeCells, Sem.run_bind, hrun, Result.andThen_ok, hr], hS'.weak1 hw⟩
end
end Go.Proofs.YtiinipcmghhacaaDoor.X
