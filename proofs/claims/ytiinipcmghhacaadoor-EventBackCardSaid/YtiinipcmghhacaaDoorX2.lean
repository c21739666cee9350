/- What is known of a call's slots, and the rules for whole code. -/
import Derived.Test.YtiinipcmghhacaaDoorX1
set_option linter.unusedVariables false
set_option linter.unusedSimpArgs false
namespace Go.Proofs.YtiinipcmghhacaaDoor.X
open Go
/-! Short names of what hypotheses are brought to. -/
theorem zz1 {b : Bool} : ((!b) = true) = (b = false) := Bool.not_eq_true' b
theorem zz2 {b : Bool} : ((!b) = false) = (b = true) := Bool.not_eq_false' b
theorem zz3 {a b : Bool} : ((a && b) = true) = (a = true ∧ b = true) := Bool.and_eq_true a b
theorem zz4 {a b : Bool} : ((a || b) = true) = (a = true ∨ b = true) := Bool.or_eq_true a b
theorem zz5 {a b : Bool} : (a || b) = false ↔ a = false ∧ b = false := Bool.or_eq_false_iff
theorem zz6 {a b : Bool} : (a && b) = false ↔ a = false ∨ b = false := Bool.and_eq_false_iff
theorem zz7 {p : Prop} [Decidable p] : (decide p = true) = p := decide_eq_true_eq
theorem zz8 {p : Prop} [Decidable p] : decide p = false ↔ ¬ p := decide_eq_false_iff_not
theorem zz9 {α : Type} [BEq α] [LawfulBEq α] {a b : α} : (a == b) = true ↔ a = b := beq_iff_eq
theorem zza {α : Type} [BEq α] [LawfulBEq α] {a b : α} : (a == b) = false ↔ a ≠ b := beq_eq_false_iff_ne
theorem zzb {α : Type} {a b : α} : (a ≠ b) = ¬ a = b := ne_eq a b

/-! ## Frames: what the slots hold -/
def lk : List (Nat × Value) → Nat → Option Value
  | [], _ => none
  | (k, v) :: r, t => match Nat.beq k t with
    | true => some v
    | false => lk r t
def AllIn (L : List (Nat × Value)) : List (Nat × Value) → Prop
  | [] => True
  | (t, v) :: r => lk L t = some v ∧ AllIn L r
theorem AllIn.get {L : List (Nat × Value)} : ∀ {L' : List (Nat × Value)}, AllIn L L' → ∀ t v, lk L' t = some v → lk L t = some v
  | [], _, t, v, h => by simp [lk] at h
  | (k, u) :: r, ha, t, v, h => by
    simp only [lk] at h
    cases hb : Nat.beq k t with
    | true =>
      rw [hb] at h
      have hk : k = t := Nat.eq_of_beq_eq_true hb
      subst hk
      simp only [Option.some.injEq] at h
      subst h
      exact ha.1
    | false =>
      rw [hb] at h
      exact AllIn.get ha.2 t v h
theorem lk_cons {k : Nat} {v : Value} {L : List (Nat × Value)} {t : Nat} {u : Value} (h : lk ((k, v) :: L) t = some u) : (k = t ∧ v = u) ∨ (k ≠ t ∧ lk L t = some u) := by
  simp only [lk] at h
  cases hb : Nat.beq k t with
  | true =>
    rw [hb] at h
    exact .inl ⟨Nat.eq_of_beq_eq_true hb, by simpa using h⟩
  | false =>
    rw [hb] at h
    exact .inr ⟨Nat.ne_of_beq_eq_false hb, h⟩
def ev (L : List (Nat × Value)) : Operand → Option Value
  | .tmp t => lk L t
  | .const v => some v
  | .global g => some (.pointer (some ⟨g, 0, none⟩))
  | .func f => some (.func (.func f) #[] #[])
structure Env (a : Act) (N : Nat) (D : List Deferred) (L : List (Nat × Value)) : Prop where
  size : a.tmps.size = N
  defers : a.defers = D
  get : ∀ t v, lk L t = some v → a.tmps[t]? = some v
section
variable {a : Act} {N : Nat} {D : List Deferred} {L : List (Nat × Value)}
theorem Env.eval (h : Env a N D L) {x : Operand} {v : Value} (hx : ev L x = some v) : a.eval x = v := by
  cases x with
  | tmp t => simp [Act.eval, Array.getD_eq_getD_getElem?, h.get t v hx]
  | const u => simpa [ev, Act.eval] using hx
  | global g => simpa [ev, Act.eval] using hx
  | func f => simpa [ev, Act.eval] using hx
theorem Env.put (h : Env a N D L) {d : Nat} (hd : Nat.blt d N = true) (v : Value) : Env (a.put (some d) v) N D ((d, v) :: L) where
  size := by simp [Act.put, h.size]
  defers := h.defers
  get := fun t u ht => by
    have hdN : d < N := by simpa [Nat.blt_eq] using hd
    rcases lk_cons ht with ⟨rfl, rfl⟩ | ⟨hne, ht⟩
    · simp [Act.put, h.size, hdN]
    · simp only [Act.put, Array.getElem?_setIfInBounds, if_neg hne]
      exact h.get t u ht
theorem Env.cut (h : Env a N D L) {L' : List (Nat × Value)} (hs : AllIn L L') : Env a N D L' := ⟨h.size, h.defers, fun t v ht => h.get t v (hs.get t v ht)⟩
theorem Env.defer (h : Env a N D L) (d : Deferred) : Env { a with defers := d :: a.defers } N (d :: D) L := ⟨h.size, by simp [h.defers], h.get⟩
end
def argEnv : Nat → List Value → List (Nat × Value)
  | _, [] => []
  | i, v :: r => (i, v) :: argEnv (i + 1) r
theorem argEnv_get : ∀ (l : List Value) (i t : Nat) (v : Value), lk (argEnv i l) t = some v → i ≤ t ∧ l[t - i]? = some v
  | [], _, _, _, h => by simp [argEnv, lk] at h
  | u :: r, i, t, v, h => by
    rcases lk_cons h with ⟨rfl, rfl⟩ | ⟨hne, h'⟩
    · simp
    · obtain ⟨h1, h2⟩ := argEnv_get r (i + 1) t v h'
      refine ⟨by omega, ?_⟩
      have : t - i = (t - (i + 1)) + 1 := by omega
      rw [this, List.getElem?_cons_succ]
      exact h2
theorem Env.start (args : Array Value) (N : Nat) (hN : args.size ≤ N) : Env { tmps := args ++ Array.replicate (N - args.size) undef, defers := [] } N [] (argEnv 0 args.toList) where
  size := by simp; omega
  defers := rfl
  get := fun t v ht => by
    obtain ⟨_, h⟩ := argEnv_get _ _ _ _ ht
    simp only [Nat.sub_zero] at h
    have hlt : t < args.size := by
      have := (List.getElem?_eq_some_iff.1 h).1
      simpa using this
    rw [Array.getElem?_append_left hlt]
    simpa using h

/-! ## Code -/
section
variable {P : Program} {Q : Exit → Act → World → Prop} {a : Act} {w : World} {N : Nat} {D : List Deferred} {L : List (Nat × Value)} {ops : Array Oper} {rest : List Oper}

/-- A call is entered. -/
theorem enter {f : FuncId} {fn : Func} {c : Code} {args : Array Value} {R : Ending → World → Prop} (hf : P.funcs[f]? = some fn) (hb : fn.body = some c) (hn : fn.ntmps = N) (hN : Nat.ble args.size N = true)
    (h : ∀ Q : Exit → Act → World → Prop, (∀ e a w, bodyPost P fn R e a w → Q e a w) → ∀ a, Env a N [] (argEnv 0 args.toList) → c.wp P Q a w) : Calls P f args w R := by
  refine calls_of_wp hf hb ?_
  subst hn
  exact h _ (fun _ _ _ h => h) _ (Env.start args _ (Nat.le_of_ble_eq_true hN))
/-- What a function hands back. -/
inductive Res (P : Program) (a : Act) (w : World) : List ResultVar → List Value → Prop where
  | nil : Res P a w [] []
  | tmp {t : Nat} {v : Value} {r : List ResultVar} {vs : List Value} (h : a.tmps[t]? = some v) (k : Res P a w r vs) : Res P a w (.tmp t :: r) (v :: vs)
  | cell {t : Nat} {ty : TypeId} {ad : Addr} {v : Value} {r : List ResultVar} {vs : List Value} (h : a.tmps[t]? = some (.pointer (some ad))) (hl : (loadVar ty ad).run P w = .ok v w) (k : Res P a w r vs) : Res P a w (.cell t ty :: r) (v :: vs)
def packed : List Value → Value
  | [v] => v
  | vs => .tuple vs.toArray
def resOne (tmps : Array Value) : ResultVar → Sem Value
  | .tmp t => pure (tmps.getD t undef)
  | .cell a t => do loadVar t (← asAddr (tmps.getD a undef))
theorem Res.run_list {P : Program} {a : Act} {w : World} {rs : List ResultVar} {vs : List Value} (h : Res P a w rs vs) : (rs.mapM (resOne a.tmps)).run P w = .ok vs w := by
  induction h with
  | nil => simp [List.mapM_nil]
  | tmp h k ih => simp [List.mapM_cons, resOne, Array.getD_eq_getD_getElem?, h, ih]
  | cell h hl k ih => simp [List.mapM_cons, resOne, Array.getD_eq_getD_getElem?, h, asAddr, hl, ih]

theorem Res.run {fn : Func} {rs : List ResultVar} {vs : List Value} (hr : fn.results.toList = rs) (h : Res P a w rs vs) : (results fn a.tmps).run P w = .ok (packed vs) w := by
  subst hr
  have h1 : (fn.results.mapM (resOne a.tmps)).run P w = .ok vs.toArray w := by
    rw [Array.mapM_eq_mapM_toList]
    simp [h.run_list]
  have h2 : results fn a.tmps = (do let vs ← fn.results.mapM (resOne a.tmps); pure (if h : vs.size = 1 then vs[0] else .tuple vs)) := by
    unfold results
    congr 2
  rw [h2]
  simp only [Sem.run_bind, h1, Result.andThen_ok, Sem.run_pure]
  congr 1
  match vs with
  | [] => rfl
  | [v] => rfl
  | u :: v :: r => simp [packed]
theorem ret {fn : Func} {R : Ending → World → Prop} {rs : List ResultVar} {vs : List Value} (hQ : ∀ e a w, bodyPost P fn R e a w → Q e a w) (hE : Env a N [] L) (hr : fn.results.toList = rs) (h : Res P a w rs vs)
    (hR : R (.returned (packed vs)) w) : Q .ret a w := hQ _ _ _ ⟨hE.defers, _, h.run hr, hR⟩
theorem Env.res {t : Nat} {v : Value} {r : List ResultVar} {vs : List Value} (hE : Env a N D L) (h : lk L t = some v) (k : Res P a w r vs) : Res P a w (.tmp t :: r) (v :: vs) := .tmp (hE.get t v h) k

theorem cond {c : Operand} {x y : Code} {b : Bool} (hE : Env a N D L) (hc : ev L c = some (.bool b)) (ht : b = true → x.wp P Q a w) (hf : b = false → y.wp P Q a w) : (Code.cond c x y).wp P Q a w :=
  wp_cond_split (hE.eval hc) ht hf

theorem exists_min {S : Nat → Prop} (h : ∃ n, S n) : ∃ n, S n ∧ ∀ k, S k → n ≤ k := by
  classical
  obtain ⟨n, hn⟩ := h
  induction n using Nat.strongRecOn with
  | _ n ih =>
    by_cases h : ∃ k, k < n ∧ S k
    · obtain ⟨k, hk, hs⟩ := h
      exact ih k hk hs
    · exact ⟨n, hn, fun k hk => by
        rcases Nat.lt_or_ge k n with h1 | h1
        · exact absurd ⟨k, h1, hk⟩ h
        · exact h1⟩
/-- A loop, its state told by `x`. -/
theorem loop {α : Type} {c : Code} (I : α → Act → World → Prop) (μ : α → Nat) (x0 : α) (h0 : I x0 a w)
    (round : ∀ x a w, I x a w → c.wp P (Exit.then (fun a' w' => ∃ x', I x' a' w' ∧ μ x' < μ x) Q) a w) : (Code.loop c).wp P Q a w := by
  classical
  have key : ∀ a w, (∃ n x, I x a w ∧ μ x = n) → ∃ n, (∃ x, I x a w ∧ μ x = n) ∧ ∀ k, (∃ x, I x a w ∧ μ x = k) → n ≤ k := fun a w h => exists_min h
  refine wp_loop (fun a w => ∃ n x, I x a w ∧ μ x = n) (fun a w => if h : ∃ n x, I x a w ∧ μ x = n then Classical.choose (key a w h) else 0) ⟨_, x0, h0, rfl⟩ ?_
  intro a w hI
  obtain ⟨⟨x, hx, hn⟩, _⟩ := Classical.choose_spec (key a w hI)
  refine wp_mono (round x a w hx) ?_
  intro e a' w' hq
  cases e with
  | normal =>
    obtain ⟨x', hx', hlt⟩ := hq
    have hI' : ∃ n x, I x a' w' ∧ μ x = n := ⟨_, x', hx', rfl⟩
    refine ⟨hI', ?_⟩
    simp only [dif_pos hI', dif_pos hI]
    have := (Classical.choose_spec (key a' w' hI')).2 (μ x') ⟨x', hx', rfl⟩
    omega
  | _ => exact hq

/-! ## Operations -/
theorem op_val {o : Oper} {d : Nat} {v : Value} {w' : World} (hg : o.guard = none) (hd : o.dst = some d) (hE : Env a N D L) (hN : Nat.blt d N = true) (hr : (execOp a.eval o).run P w = .ok (.value v) w')
    (k : ∀ a', Env a' N D ((d, v) :: L) → wpList P ops Q rest a' w') : wpList P ops Q (o :: rest) a w :=
  wpList_plain hg fun K hK => by
    unfold Oper.wp
    rw [hr, Oper.upon_value, hd]
    exact hK _ _ (k _ (hE.put hN v))
theorem op_none {o : Oper} {v : Value} {w' : World} (hg : o.guard = none) (hd : o.dst = none) (hr : (execOp a.eval o).run P w = .ok (.value v) w')
    (k : wpList P ops Q rest a w') : wpList P ops Q (o :: rest) a w :=
  wpList_plain hg fun K hK => by
    unfold Oper.wp
    rw [hr, Oper.upon_value, hd]
    exact hK _ _ k
theorem op_skip {o : Oper} {w' : World} (hg : o.guard = none) (hd : o.dst = none) (hr : (execOp a.eval o).run P w = .ok .skip w')
    (k : wpList P ops Q rest a w') : wpList P ops Q (o :: rest) a w :=
  wpList_plain hg fun K hK => by
    unfold Oper.wp
    rw [hr, Oper.upon_skip, hd]
    exact hK _ _ k
/-- A guarded operation that isn't wanted. -/
theorem op_off {d : Nat} {op : Op} {ty : TypeId} {pos : String} {af : Array Edge} {j : Nat} {want b : Bool} {dj : Nat} (hE : Env a N D L) (hj : (ops[j]?).bind (·.dst) = some dj) (hb : lk L dj = some (.bool b)) (hne : b = !want)
    (k : ∀ a', Env a' N D L → wpList P ops Q rest a' w) (hL : lk L d = none) : wpList P ops Q (⟨some d, op, ty, pos, af, some (j, want)⟩ :: rest) a w := by
  unfold wpList
  have hw : Region.wanted ⟨some d, op, ty, pos, af, some (j, want)⟩ (yielded ops a.tmps) = false := by
    simp [Region.wanted, yielded, hj, hE.get _ _ hb, hne]
  rw [if_neg (by simp [hw])]
  refine k _ ⟨by simp [Act.put, hE.size], hE.defers, fun t v ht => ?_⟩
  have : d ≠ t := fun e => by subst e; rw [hL] at ht; cases ht
  simp only [Act.put, Array.getElem?_setIfInBounds, if_neg this]
  exact hE.get t v ht
/-- One that is. -/
theorem op_on {d : Option Nat} {op : Op} {ty : TypeId} {pos : String} {af : Array Edge} {j : Nat} {want b : Bool} {dj : Nat} (hE : Env a N D L) (hj : (ops[j]?).bind (·.dst) = some dj) (hb : lk L dj = some (.bool b)) (he : b = want)
    (k : wpList P ops Q (⟨d, op, ty, pos, af, none⟩ :: rest) a w) : wpList P ops Q (⟨d, op, ty, pos, af, some (j, want)⟩ :: rest) a w := by
  unfold wpList at k ⊢
  have hw : Region.wanted ⟨d, op, ty, pos, af, some (j, want)⟩ (yielded ops a.tmps) = true := by
    simp [Region.wanted, yielded, hj, hE.get _ _ hb, he]
  have hw' : Region.wanted ⟨d, op, ty, pos, af, none⟩ (yielded ops a.tmps) = true := rfl
  rw [if_pos hw]
  rw [if_pos hw'] at k
  have e : ∀ ρ, execOp ρ ⟨d, op, ty, pos, af, some (j, want)⟩ = execOp ρ ⟨d, op, ty, pos, af, none⟩ := fun ρ => by cases op <;> rfl
  simpa only [Oper.wp, Oper.asks, Oper.upon, e] using k
end
end Go.Proofs.YtiinipcmghhacaaDoor.X
