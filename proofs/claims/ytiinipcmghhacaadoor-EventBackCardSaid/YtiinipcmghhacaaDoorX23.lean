/- Structs of structs compared. -/
import Derived.Test.YtiinipcmghhacaaDoorX22
import Derived.ChangeKeysEq
set_option linter.unusedVariables false
set_option linter.unusedSimpArgs false
namespace Go.Proofs.YtiinipcmghhacaaDoor.X
open Go
/-! ## Structs of structs and arrays compared -/
def flatQF (rec : TypeId → Option (List Lf)) (P : Program) : Nat → List Field → Option (List Lf)
  | _, [] => some []
  | off, f :: r => if f.name == "_" then none else if f.offset = off then
      match rec f.type, P.info? f.type with
      | some l, some i => if l.length = i.size then (flatQF rec P (off + l.length) r).map (l ++ ·) else none
      | _, _ => none
    else none
def flatQ (P : Program) : Nat → TypeId → Option (List Lf)
  | 0, _ => none
  | d + 1, t => match P.underlying t with
    | some (.int k) => some [Lf.int k]
    | some .bool => some [Lf.bool]
    | some .string => some [Lf.str]
    | some (.struct fs) => if P.stoodInHeld t = false then flatQF (flatQ P d) P 0 fs.toList else none
    | some (.array n e) => match flatQ P d e, P.info? e with
      | some l, some i => if l.length = i.size then some (List.replicate n l).flatten else none
      | _, _ => none
    | _ => none
def mkV (P : Program) (t : TypeId) (us : List Value) : Value := match P.underlying t with
  | some (.struct _) | some (.array _ _) => .agg us.toArray
  | _ => us.headD (.bool false)
theorem fit_split : ∀ (l1 l2 : List Lf) (us bs : List Value), fitL (l1 ++ l2) us bs = true →
    fitL l1 (us.take l1.length) (bs.take l1.length) = true ∧ fitL l2 (us.drop l1.length) (bs.drop l1.length) = true ∧ eqVs us bs = (eqVs (us.take l1.length) (bs.take l1.length) && eqVs (us.drop l1.length) (bs.drop l1.length))
  | [], l2, us, bs, h => by
    refine ⟨by simp [fitL], by simpa using h, by simp [eqVs]⟩
  | l :: l1, l2, us, bs, h => by
    have hs : ∃ a us' b bs', us = a :: us' ∧ bs = b :: bs' ∧ fitL (l1 ++ l2) us' bs' = true ∧ (∀ x y, fitL l1 x y = true → fitL (l :: l1) (a :: x) (b :: y) = true) := by
      cases l with
      | int k =>
        match us, bs, h with
        | .int q a :: us', .int q' b :: bs', h =>
          simp only [List.cons_append, fitL, Bool.and_eq_true] at h
          exact ⟨_, _, _, _, rfl, rfl, h.2.2, fun x y hxy => by simp only [fitL, Bool.and_eq_true]; exact ⟨h.1, h.2.1, hxy⟩⟩
      | bool =>
        match us, bs, h with
        | .bool a :: us', .bool b :: bs', h => exact ⟨_, _, _, _, rfl, rfl, h, fun x y hxy => hxy⟩
      | str =>
        match us, bs, h with
        | .string a :: us', .string b :: bs', h => exact ⟨_, _, _, _, rfl, rfl, h, fun x y hxy => hxy⟩
      | sl e =>
        exfalso
        cases us <;> cases bs <;> simp [fitL] at h
    obtain ⟨a, us', b, bs', rfl, rfl, h', hf⟩ := hs
    obtain ⟨h1, h2, h3⟩ := fit_split l1 l2 us' bs' h'
    refine ⟨by simpa using hf _ _ h1, by simpa using h2, ?_⟩
    simp only [List.length_cons, List.take_succ_cons, List.drop_succ_cons, eqVs]
    rw [h3, Bool.and_assoc]
theorem fit_len : ∀ (ls : List Lf) (us bs : List Value), fitL ls us bs = true → us.length = ls.length ∧ bs.length = ls.length
  | [], [], [], _ => ⟨rfl, rfl⟩
  | [], _ :: _, _, h => by simp [fitL] at h
  | [], [], _ :: _, h => by simp [fitL] at h
  | l :: ls, us, bs, h => by
    cases l with
    | int k =>
      match us, bs, h with
      | .int q a :: us', .int q' b :: bs', h =>
        simp only [fitL, Bool.and_eq_true] at h
        have := fit_len ls us' bs' h.2.2
        simp [this.1, this.2]
    | bool =>
      match us, bs, h with
      | .bool a :: us', .bool b :: bs', h => have := fit_len ls us' bs' h; simp [this.1, this.2]
    | str =>
      match us, bs, h with
      | .string a :: us', .string b :: bs', h => have := fit_len ls us' bs' h; simp [this.1, this.2]
    | sl e =>
      exfalso
      cases us <;> cases bs <;> simp [fitL] at h
section
variable {P : Program} {w : World}
theorem flatQ_kind {d : Nat} {t : TypeId} {ls : List Lf} (h : flatQ P d t = some ls) : (∃ td, P.underlying t = some td ∧ scTd td = true ∧ ls.length = 1) ∨ ((∃ fs, P.underlying t = some (.struct fs)) ∨ ∃ n e, P.underlying t = some (.array n e)) := by
  cases d with
  | zero => cases h
  | succ d =>
    unfold flatQ at h
    split at h
    · rename_i k hu; cases h; exact .inl ⟨_, hu, rfl, rfl⟩
    · rename_i hu; cases h; exact .inl ⟨_, hu, rfl, rfl⟩
    · rename_i hu; cases h; exact .inl ⟨_, hu, rfl, rfl⟩
    · rename_i fs hu; exact .inr (.inl ⟨fs, hu⟩)
    · rename_i n e hu; exact .inr (.inr ⟨n, e, hu⟩)
    · cases h
theorem part_mk {d : Nat} {t : TypeId} {ls : List Lf} {i : TypeInfo} (h : flatQ P d t = some ls) (hi : P.info? t = some i) (hs : ls.length = i.size) (xs : Array Value) (off : Nat) (hl : ((xs.toList.drop off).take ls.length).length = ls.length) :
    (part t xs off).run P w = .ok (mkV P t ((xs.toList.drop off).take ls.length)) w := by
  rcases flatQ_kind h with ⟨td, hu, htd, h1⟩ | hag
  · have hm : mkV P t ((xs.toList.drop off).take ls.length) = ((xs.toList.drop off).take ls.length).headD (.bool false) := by
      unfold mkV
      rw [hu]
      cases td <;> simp [scTd] at htd <;> rfl
    rw [hm, h1]
    rw [h1] at hl
    have hlt : off < xs.toList.length := by
      simp only [List.length_take, List.length_drop] at hl
      omega
    have hx : xs[off]? = some (((xs.toList.drop off).take 1).headD (.bool false)) := by
      rw [List.drop_eq_getElem_cons hlt]
      simp only [List.take_succ_cons, List.headD_cons]
      simp
    exact part_at (isAgg_of hu htd) hx
  · have hag' : aggSz P t = some i.size ∧ mkV P t ((xs.toList.drop off).take ls.length) = .agg ((xs.toList.drop off).take ls.length).toArray := by
      unfold aggSz mkV
      rcases hag with ⟨fs, hu⟩ | ⟨n, e, hu⟩ <;> rw [hu] <;> simp [hi]
    obtain ⟨ha, j, hj, hjs⟩ := agg_spec (w := w) hag'.1
    rw [hag'.2]
    have h3 : (sizeOf t).run P w = .ok i.size w := by rw [← hjs]; exact run_sizeOf' hj
    unfold part
    simp only [Sem.run_bind, ha, Result.andThen_ok, if_true, h3, Sem.run_pure]
    congr 2
    apply Array.toList_inj.1
    rw [Array.toList_extract, hs]
    simp [List.extract]
theorem run_flatQF {d D : Nat} (ih : ∀ t ls, flatQ P d t = some ls → ∀ us bs w, fitL ls us bs = true → (Op.equalIn D t (mkV P t us) (mkV P t bs)).run P w = .ok (eqVs us bs) w) (xs ys : Array Value) :
    ∀ (fs : List Field) (off : Nat) (ls : List Lf), flatQF (flatQ P d) P off fs = some ls → fitL ls (xs.toList.drop off) (ys.toList.drop off) = true → (Op.eqFields D xs ys fs).run P w = .ok (eqVs (xs.toList.drop off) (ys.toList.drop off)) w
  | [], off, ls, h, hf => by
    simp only [flatQF, Option.some.injEq] at h
    subst h
    obtain ⟨h1, h2⟩ := fit_len _ _ _ hf
    rw [List.eq_nil_of_length_eq_zero h1, List.eq_nil_of_length_eq_zero h2]
    simp [Op.eqFields, eqVs]
  | f :: r, off, ls, h, hf => by
    unfold flatQF at h
    split at h
    · cases h
    rename_i hn
    have hn' : f.name ≠ "_" := by simpa using hn
    split at h
    · rename_i ho
      split at h
      · rename_i l i hl hi
        split at h
        · rename_i hs
          obtain ⟨ls', hr, rfl⟩ := Option.map_eq_some_iff.1 h
          obtain ⟨g1, g2, g3⟩ := fit_split l ls' _ _ hf
          obtain ⟨n1, n2⟩ := fit_len _ _ _ g1
          rw [List.drop_drop, List.drop_drop] at g2
          have h3 := run_flatQF ih xs ys r (off + l.length) ls' hr g2
          rw [Op.eqFields]
          simp only [if_pos hn', Sem.run_bind, ho, part_mk hl hi hs xs off n1, part_mk hl hi hs ys off n2, ih _ _ hl _ _ _ g1, Result.andThen_ok]
          rw [g3, List.drop_drop, List.drop_drop]
          cases hv : eqVs ((xs.toList.drop off).take l.length) ((ys.toList.drop off).take l.length)
          · simp
          · simp [h3]
        · cases h
      · cases h
    · cases h
theorem run_flatQI {d D : Nat} {e : TypeId} {l : List Lf} {i : TypeInfo} (ih : ∀ t ls, flatQ P d t = some ls → ∀ us bs w, fitL ls us bs = true → (Op.equalIn D t (mkV P t us) (mkV P t bs)).run P w = .ok (eqVs us bs) w) (hl : flatQ P d e = some l) (hi : P.info? e = some i) (hs : l.length = i.size) (xs ys : Array Value) :
    ∀ (m k : Nat), fitL (List.replicate m l).flatten (xs.toList.drop (k * l.length)) (ys.toList.drop (k * l.length)) = true → (Op.eqItems D e l.length xs ys (List.range' k m)).run P w = .ok (eqVs (xs.toList.drop (k * l.length)) (ys.toList.drop (k * l.length))) w
  | 0, k, hf => by
    obtain ⟨h1, h2⟩ := fit_len _ _ _ hf
    rw [List.eq_nil_of_length_eq_zero h1, List.eq_nil_of_length_eq_zero h2]
    simp [Op.eqItems, eqVs]
  | m + 1, k, hf => by
    rw [List.replicate_succ, List.flatten_cons] at hf
    obtain ⟨g1, g2, g3⟩ := fit_split l _ _ _ hf
    obtain ⟨n1, n2⟩ := fit_len _ _ _ g1
    rw [List.drop_drop, List.drop_drop, ← Nat.succ_mul] at g2
    have h3 := run_flatQI ih hl hi hs xs ys m (k + 1) g2
    rw [List.range'_succ, Op.eqItems]
    simp only [Sem.run_bind, part_mk hl hi hs xs (k * l.length) n1, part_mk hl hi hs ys (k * l.length) n2, ih _ _ hl _ _ _ g1, Result.andThen_ok]
    rw [g3, List.drop_drop, List.drop_drop, ← Nat.succ_mul]
    cases hv : eqVs ((xs.toList.drop (k * l.length)).take l.length) ((ys.toList.drop (k * l.length)).take l.length)
    · simp
    · simpa using h3
theorem run_flatQ : ∀ (d D : Nat), d ≤ D → ∀ t ls, flatQ P d t = some ls → ∀ us bs w, fitL ls us bs = true → (Op.equalIn D t (mkV P t us) (mkV P t bs)).run P w = .ok (eqVs us bs) w
  | 0, _, _, t, ls, h => by cases h
  | d + 1, 0, hD, _, _, _ => absurd hD (by omega)
  | d + 1, D + 1, hD, t, ls, h => by
    intro us bs w hf
    have ih := run_flatQ d D (by omega)
    unfold flatQ at h
    split at h
    · rename_i k hu
      cases h
      match us, bs, hf with
      | [.int q a], [.int q' b], hf =>
        simp [fitL] at hf
        obtain ⟨rfl, rfl⟩ := hf
        have : ∀ x, mkV P t [x] = x := fun x => by unfold mkV; rw [hu]; rfl
        rw [this, this, run_equalIn_int w D t _ k _ _ hu]
        simp only [eqVs, eqV, Bool.and_true, Result.ok.injEq, and_true]
        exact Bool.eq_iff_iff.2 (by simp)
      | .int q a :: a2 :: ar, .int q' b :: br, hf => exfalso; simp [fitL] at hf
      | [.int q a], .int q' b :: b2 :: br, hf => exfalso; simp [fitL] at hf
    · rename_i hu
      cases h
      match us, bs, hf with
      | [.bool a], [.bool b], hf =>
        have : ∀ x, mkV P t [x] = x := fun x => by unfold mkV; rw [hu]; rfl
        rw [this, this, run_equalIn_bool' w D t _ _ hu]
        simp [eqVs, eqV]
      | .bool a :: a2 :: ar, .bool b :: br, hf => exfalso; simp [fitL] at hf
      | [.bool a], .bool b :: b2 :: br, hf => exfalso; simp [fitL] at hf
    · rename_i hu
      cases h
      match us, bs, hf with
      | [.string a], [.string b], hf =>
        have : ∀ x, mkV P t [x] = x := fun x => by unfold mkV; rw [hu]; rfl
        rw [this, this, run_equalIn_string w D t _ _ hu]
        simp [eqVs, eqV, ByteArray.toList_eq]
      | .string a :: a2 :: ar, .string b :: br, hf => exfalso; simp [fitL] at hf
      | [.string a], .string b :: b2 :: br, hf => exfalso; simp [fitL] at hf
    · rename_i fs hu
      split at h
      · rename_i hst
        have e1 : P.fieldsOf t = fs := by simp [Program.fieldsOf, hu]
        have : ∀ xs, mkV P t xs = .agg xs.toArray := fun x => by unfold mkV; rw [hu]
        rw [this, this, run_equalIn_struct (P := P) w _ t _ _ (by rw [e1]; exact hu) hst, e1]
        have := run_flatQF (w := w) ih us.toArray bs.toArray fs.toList 0 ls h (by simpa using hf)
        simpa using this
      · cases h
    · rename_i n e hu
      split at h
      · rename_i l i hl hi
        split at h
        · rename_i hs
          cases h
          have : ∀ xs, mkV P t xs = .agg xs.toArray := fun x => by unfold mkV; rw [hu]
          have hce : P.cellsOf e = l.length := by unfold Program.cellsOf; rw [hi, hs]; rfl
          rw [this, this, run_equalIn_array (P := P) w D _ _ hu hi, hce, List.range_eq_range']
          have := run_flatQI (w := w) ih hl hi hs us.toArray bs.toArray n 0 (by simpa using hf)
          simpa using this
        · cases h
      · cases h
    · cases h
end
section
variable {P : Program} {Q : Exit → Act → World → Prop} {a : Act} {w : World} {N : Nat} {D : List Deferred} {L : List (Nat × Value)} {ops : Array Oper} {rest : List Oper}
variable {d : Nat} {ty : TypeId} {pos : String} {af : Array Edge}
def flatG (P : Program) (t : TypeId) : Option (List Lf) := match P.underlying t with
  | some (.struct _) | some (.array _ _) => if P.eqGuardType P.depth t = false then flatQ P 8 t else none
  | _ => none
theorem run_equalG {x y : Operand} {t : TypeId} {xs ys : Array Value} {ls : List Lf} (ht : flatG P t = some ls) (hf : fitL ls xs.toList ys.toList = true) :
    (eqGuard .eql t x y (.agg xs) (.agg ys)).run P w = .ok () w ∧ (eqGuard .neq t x y (.agg xs) (.agg ys)).run P w = .ok () w ∧ (Op.equal t (.agg xs) (.agg ys)).run P w = .ok (eqVs xs.toList ys.toList) w := by
  have hm : (∀ zs, mkV P t zs = .agg zs.toArray) ∧ P.eqGuardType P.depth t = false ∧ flatQ P 8 t = some ls := by
    unfold flatG at ht
    split at ht
    · rename_i fs hu
      split at ht
      · rename_i hg; exact ⟨fun zs => by unfold mkV; rw [hu], hg, ht⟩
      · cases ht
    · rename_i n e hu
      split at ht
      · rename_i hg; exact ⟨fun zs => by unfold mkV; rw [hu], hg, ht⟩
      · cases ht
    · cases ht
  refine ⟨by simp [eqGuard, hm.2.1], by simp [eqGuard, hm.2.1], ?_⟩
  have := run_flatQ 8 10000 (by omega) t ls hm.2.2 xs.toList ys.toList w hf
  rw [hm.1, hm.1] at this
  exact this
theorem o_eqG {t t' : TypeId} {x y : Operand} {xs ys : Array Value} {ls : List Lf} (hE : Env a N D L) (hN : Nat.blt d N = true) (hx : ev L x = some (.agg xs)) (hy : ev L y = some (.agg ys)) (ht : flatG P t = some ls) (hf : fitL ls xs.toList ys.toList = true) {b : Bool} (hb : eqVs xs.toList ys.toList = b)
    (k : ∀ a', Env a' N D ((d, .bool b) :: L) → wpList P ops Q rest a' w) : wpList P ops Q (⟨some d, .binOp .eql t x y t', ty, pos, af, none⟩ :: rest) a w :=
  op_val rfl rfl hE hN (by
    subst hb
    obtain ⟨h1, _, h2⟩ := run_equalG (w := w) (x := x) (y := y) ht hf
    have h3 : (binOp .eql t (.agg xs) (.agg ys)).run P w = .ok (.bool (eqVs xs.toList ys.toList)) w := by simp [binOp, h2]
    simp [execOp, hE.eval hx, hE.eval hy, h1, h3]) k
theorem o_neG {t t' : TypeId} {x y : Operand} {xs ys : Array Value} {ls : List Lf} (hE : Env a N D L) (hN : Nat.blt d N = true) (hx : ev L x = some (.agg xs)) (hy : ev L y = some (.agg ys)) (ht : flatG P t = some ls) (hf : fitL ls xs.toList ys.toList = true) {b : Bool} (hb : eqVs xs.toList ys.toList = b)
    (k : ∀ a', Env a' N D ((d, .bool !b) :: L) → wpList P ops Q rest a' w) : wpList P ops Q (⟨some d, .binOp .neq t x y t', ty, pos, af, none⟩ :: rest) a w :=
  op_val rfl rfl hE hN (by
    subst hb
    obtain ⟨_, h1, h2⟩ := run_equalG (w := w) (x := x) (y := y) ht hf
    have h3 : (binOp .neq t (.agg xs) (.agg ys)).run P w = .ok (.bool !(eqVs xs.toList ys.toList)) w := by simp [binOp, h2]
    simp [execOp, hE.eval hx, hE.eval hy, h1, h3]) k
end
end Go.Proofs.YtiinipcmghhacaaDoor.X
