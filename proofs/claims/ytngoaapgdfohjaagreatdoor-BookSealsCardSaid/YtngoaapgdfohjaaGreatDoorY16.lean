/- Own text. -/
import Derived.Test.YtngoaapgdfohjaaGreatDoorY12
import Derived.Laws.RangeAny
set_option linter.unusedVariables false
set_option linter.unusedSimpArgs false
set_option maxHeartbeats 1000000
namespace Go.Proofs.YtngoaapgdfohjaaGreatDoor.X
open Go
/-! ## Regions that draw, make blocks and fill them -/
/-- A block that a region makes and fills: its operation, its slot, the operation that fills it, its content before and after. -/
structure Fl where
  i : Nat
  t : Nat
  j : Nat
  q0 : Obj → Prop
  q1 : Obj → Prop
def Fl.q (x : Fl) (f : Nat → Bool) : Obj → Prop := bif f x.j then x.q1 else x.q0
def RF (sl : Nat → Option Value) (f : Nat → Bool) : List Fl → List Chunk → Prop
  | [], R => R = []
  | x :: al, R => (f x.i = false ∧ RF sl f al R) ∨ (f x.i = true ∧ ∃ b R', sl x.t = some (.pointer (some ⟨b, 0, none⟩)) ∧ R = [(b, x.q f)] :: R' ∧ RF sl f al R')
theorem RF.keep {sl sl' : Nat → Option Value} {f f' : Nat → Bool} : ∀ {al : List Fl} {R : List Chunk}, (∀ x ∈ al, f' x.i = f x.i ∧ f' x.j = f x.j) → (∀ x ∈ al, f x.i = true → sl' x.t = sl x.t) → RF sl f al R → RF sl' f' al R
  | [], R, _, _, h => h
  | x :: al, R, h1, h2, h => by
    obtain ⟨a1, a2⟩ := h1 x List.mem_cons_self
    have a3 : ∀ x ∈ al, f' x.i = f x.i ∧ f' x.j = f x.j := fun x hx => h1 x (List.mem_cons_of_mem _ hx)
    have a4 : ∀ x ∈ al, f x.i = true → sl' x.t = sl x.t := fun x hx => h2 x (List.mem_cons_of_mem _ hx)
    rcases h with ⟨e, h⟩ | ⟨e, b, R', e2, e3, h⟩
    · exact .inl ⟨a1.trans e, h.keep a3 a4⟩
    · exact .inr ⟨a1.trans e, b, R', (h2 x List.mem_cons_self e).trans e2, by rw [e3]; unfold Fl.q; rw [a2], h.keep a3 a4⟩
theorem updF_ne {f : Nat → Bool} {i k : Nat} (hk : k ≠ i) : updF f i k = f k := by
  unfold updF
  cases e : Nat.beq k i with
  | false => rfl
  | true => exact absurd (Nat.eq_of_beq_eq_true e) hk
theorem updF_at {f : Nat → Bool} {i : Nat} : updF f i i = true := by unfold updF; simp
/-- A new block. -/
theorem RF.put {sl : Nat → Option Value} {f : Nat → Bool} {y : Fl} {b : Nat} : ∀ {al : List Fl} {R : List Chunk}, y ∈ al → (al.map (·.i)).Nodup → (∀ x ∈ al, x.i ≠ y.i → x.t ≠ y.t) → (∀ x ∈ al, x.j ≠ y.i) → f y.i = false → f y.j = false → RF sl f al R →
    ∃ R2, RF (updS sl (some y.t) (.pointer (some ⟨b, 0, none⟩))) (updF f y.i) al R2 ∧ List.Perm R2.flatten ((b, y.q0) :: R.flatten)
  | [], R, hm, _, _, _, _, _, _ => by cases hm
  | x :: al, R, hm, hn, hs, hj, hf, hfj, h => by
    rw [List.map_cons, List.nodup_cons] at hn
    have hjx : updF f y.i x.j = f x.j := updF_ne (hj x List.mem_cons_self)
    by_cases he : x.i = y.i
    · have heq : y = x := by
        rcases List.mem_cons.1 hm with h | h
        · exact h
        · exact absurd (List.mem_map.2 ⟨_, h, he.symm⟩) hn.1
      subst heq
      rcases h with ⟨_, h⟩ | ⟨e, _⟩
      · refine ⟨[(b, y.q0)] :: R, .inr ⟨updF_at, b, R, by simp [updS], by unfold Fl.q; rw [hjx, hfj]; rfl, ?_⟩, by simp⟩
        refine h.keep (fun x hx => ⟨updF_ne fun e => hn.1 (List.mem_map.2 ⟨x, hx, e⟩), updF_ne (hj x (List.mem_cons_of_mem _ hx))⟩) fun x hx _ => ?_
        unfold updS
        rw [if_neg]
        intro e
        exact hs x (List.mem_cons_of_mem _ hx) (fun e => hn.1 (List.mem_map.2 ⟨x, hx, e⟩)) (Option.some.inj e).symm
      · rw [hf] at e; cases e
    · have hm' : y ∈ al := by
        rcases List.mem_cons.1 hm with h | h
        · subst h; exact absurd rfl he
        · exact h
      rcases h with ⟨e, h⟩ | ⟨e, b', R', e2, e3, h⟩
      · obtain ⟨R2, g1, g2⟩ := h.put (b := b) hm' hn.2 (fun x hx => hs x (List.mem_cons_of_mem _ hx)) (fun x hx => hj x (List.mem_cons_of_mem _ hx)) hf hfj
        exact ⟨R2, .inl ⟨(updF_ne he).trans e, g1⟩, g2⟩
      · obtain ⟨R2, g1, g2⟩ := h.put (b := b) hm' hn.2 (fun x hx => hs x (List.mem_cons_of_mem _ hx)) (fun x hx => hj x (List.mem_cons_of_mem _ hx)) hf hfj
        refine ⟨[(b', x.q f)] :: R2, .inr ⟨(updF_ne he).trans e, b', R2, ?_, by unfold Fl.q; rw [hjx], g1⟩, ?_⟩
        · unfold updS
          rw [if_neg]
          · exact e2
          · intro e; exact hs x List.mem_cons_self he (Option.some.inj e).symm
        · subst e3
          simp only [List.flatten_cons, List.cons_append, List.nil_append]
          exact (g2.cons _).trans (.swap _ _ _)
/-- A block is filled. -/
theorem RF.fill {sl sl' : Nat → Option Value} {f : Nat → Bool} {y : Fl} (hsl : ∀ t, sl' t = sl t) : ∀ {al : List Fl} {R : List Chunk}, y ∈ al → (al.map (·.j)).Nodup → (∀ x ∈ al, x.i ≠ y.j) → f y.i = true → f y.j = false → RF sl f al R →
    ∃ b R1 R2, sl y.t = some (.pointer (some ⟨b, 0, none⟩)) ∧ R = R1 ++ [(b, y.q0)] :: R2 ∧ RF sl' (updF f y.j) al (R1 ++ [(b, y.q1)] :: R2)
  | [], R, hm, _, _, _, _, _ => by cases hm
  | x :: al, R, hm, hn, hi, hf, hfj, h => by
    rw [List.map_cons, List.nodup_cons] at hn
    have hix : updF f y.j x.i = f x.i := updF_ne (hi x List.mem_cons_self)
    by_cases he : x.j = y.j
    · have heq : y = x := by
        rcases List.mem_cons.1 hm with h | h
        · exact h
        · exact absurd (List.mem_map.2 ⟨_, h, he.symm⟩) hn.1
      subst heq
      rcases h with ⟨e, _⟩ | ⟨e, b, R', e2, e3, h⟩
      · rw [hf] at e; cases e
      · refine ⟨b, [], R', e2, by rw [e3]; unfold Fl.q; rw [hfj]; rfl, .inr ⟨hix.trans e, b, R', (hsl _).trans e2, by unfold Fl.q; rw [updF_at]; rfl, ?_⟩⟩
        exact h.keep (fun x hx => ⟨updF_ne (hi x (List.mem_cons_of_mem _ hx)), updF_ne fun e => hn.1 (List.mem_map.2 ⟨x, hx, e⟩)⟩) fun x hx _ => hsl _
    · have hm' : y ∈ al := by
        rcases List.mem_cons.1 hm with h | h
        · subst h; exact absurd rfl he
        · exact h
      rcases h with ⟨e, h⟩ | ⟨e, b', R', e2, e3, h⟩
      · obtain ⟨b, R1, R2, g1, g2, g3⟩ := h.fill hsl hm' hn.2 (fun x hx => hi x (List.mem_cons_of_mem _ hx)) hf hfj
        exact ⟨b, R1, R2, g1, g2, .inl ⟨hix.trans e, g3⟩⟩
      · obtain ⟨b, R1, R2, g1, g2, g3⟩ := h.fill hsl hm' hn.2 (fun x hx => hi x (List.mem_cons_of_mem _ hx)) hf hfj
        subst g2
        exact ⟨b, [(b', x.q f)] :: R1, R2, g1, e3, .inr ⟨hix.trans e, b', _, (hsl _).trans e2, by unfold Fl.q; rw [updF_ne he]; rfl, g3⟩⟩
section
variable {P : Program} {Q0 : Exit → Act → World → Prop} {N : Nat} {D : List Deferred} {w0 : World} {G0 : Heap} {K0 : List Nat} {s : List Itm} {G G1 : Heap} {L L' : List (Nat × Value)} {M M' R0 : List Chunk} {ops all : Array Oper} {o : Oper} {d : Nat} {v : Value} {rest : List Oper}
variable {ty : TypeId} {pos : String} {af : Array Edge}
/-- The walk of a region that draws, makes blocks and fills them. -/
inductive DF (P : Program) (N : Nat) (D : List Deferred) (w0 : World) (G0 : Heap) (K0 : List Nat) (ops : Array Oper) (G : Heap) (M : List Chunk) (al : List Fl) (Kp : List (Nat × Value) → Prop) : Nat → List Oper → List (Nat × Value) → Prop where
  | nil {k : Nat} {L : List (Nat × Value)} (h : Kp L) : DF P N D w0 G0 K0 ops G M al Kp k [] L
  | cons {k : Nat} {o : Oper} {rest : List Oper} {L : List (Nat × Value)} {d : Nat} {v : Value} (hk : al.all (fun x => !Nat.beq x.i k && !Nat.beq x.j k) = true) (h : ∀ R, Stp P N D w0 G0 K0 ops G (resE L (tmpsOf ops o)) (M ++ R) o d v) (kk : DF P N D w0 G0 K0 ops G M al Kp (k + 1) rest ((d, v) :: L)) : DF P N D w0 G0 K0 ops G M al Kp k (o :: rest) L
  | alloc {k : Nat} {rest : List Oper} {L : List (Nat × Value)} {d T j : Nat} {q1 : Obj → Prop} {vs : List Value} {ty : TypeId} {pos : String} {af : Array Edge} (hN : Nat.blt d N = true) (i : ZR P T vs) (hk : (⟨k, d, j, Arr T vs, q1⟩ : Fl) ∈ al) (kk : DF P N D w0 G0 K0 ops G M al Kp (k + 1) rest L) : DF P N D w0 G0 K0 ops G M al Kp k (⟨some d, .alloc T, ty, pos, af, none⟩ :: rest) L
  | fill {k : Nat} {rest : List Oper} {L : List (Nat × Value)} {i t tt T : Nat} {y : Operand} {us vs : List Value} {ty : TypeId} {pos : String} {af : Array Edge} (hk : (⟨i, t, k, Arr T us, Arr T vs⟩ : Fl) ∈ al) (he : (ons ⟨none, .store tt (.tmp t) y, ty, pos, af, none⟩).elem i = true) (hy : ∀ u, ev ((t, u) :: resE L (tmpsOf ops ⟨none, .store tt (.tmp t) y, ty, pos, af, none⟩)) y = some (.agg vs.toArray)) (ht : aggSz P tt = some vs.length) (h1 : vs.all one = true ∧ vs.length = us.length) (kk : DF P N D w0 G0 K0 ops G M al Kp (k + 1) rest L) : DF P N D w0 G0 K0 ops G M al Kp k (⟨none, .store tt (.tmp t) y, ty, pos, af, none⟩ :: rest) L
/-- What is told of one operation. -/
def ToldF (P : Program) (Q : Exit → Act → World → Prop) (N : Nat) (D : List Deferred) (w0 : World) (G0 : Heap) (K0 : List Nat) (l : List Oper) (G : Heap) (M : List Chunk) (al : List Fl) (L0 : List (Nat × Value)) (V : List (Value → Heap → Prop)) (i : Nat) (o : Oper) (p : Value → Heap → Prop) : Prop :=
  (∃ d T vs j q1 ty pos af, o = ⟨some d, .alloc T, ty, pos, af, none⟩ ∧ Nat.blt d N = true ∧ ZR P T vs ∧ (⟨i, d, j, Arr T vs, q1⟩ : Fl) ∈ al ∧ p = fun _ _ => True) ∨
  (∃ d v, o.dst = some d ∧ al.all (fun x => !Nat.beq x.i i && !Nat.beq x.j i) = true ∧ p = isV v ∧ ∀ (a : Act) (w : World) (G' : Heap) (R : List Chunk), Heap.le G G' → St w0 G0 K0 G' w (M ++ R) → Env a N D L0 →
    (∀ j dj vj, (ons o).elem j = true → dstOf l.toArray j = some dj → V[j]? = some (isV vj) → a.tmps[dj]? = some vj) →
    wpList P l.toArray (Exit.then (fun a' w' => ∃ G2, Heap.le G' G2 ∧ St w0 G0 K0 G2 w' (M ++ R) ∧ a'.tmps[d]? = some v ∧ a'.defers = D) Q) [o] a w) ∨
  (∃ k t tt T y us vs ty pos af, o = ⟨none, .store tt (.tmp t) y, ty, pos, af, none⟩ ∧ (⟨k, t, i, Arr T us, Arr T vs⟩ : Fl) ∈ al ∧ (ons o).elem k = true ∧ aggSz P tt = some vs.length ∧ (vs.all one = true ∧ vs.length = us.length) ∧ p = (fun _ _ => True) ∧
    ∀ (a : Act), Env a N D L0 → (∀ j dj vj, (ons o).elem j = true → dstOf l.toArray j = some dj → V[j]? = some (isV vj) → a.tmps[dj]? = some vj) → ∃ L1, Env a N D L1 ∧ ∀ u, ev ((t, u) :: L1) y = some (.agg vs.toArray))
theorem DF.told (Q : Exit → Act → World → Prop) {l : List Oper} {al : List Fl} {Kp : List (Nat × Value) → Prop} {L0 : List (Nat × Value)} {h' : List Oper} (hr : readsOk h' l = true) (tl : List Oper) :
    ∀ (rest pre : List Oper) (vsp : List (Value → Heap → Prop)) (Lk : List (Nat × Value)), l = pre ++ (rest ++ tl) → ((∀ o ∈ rest, o ∈ h') ∧ pre.length + rest.length ≤ h'.length) → vsp.length = pre.length →
      (∀ t u, lk Lk t = some u → (∃ j, j < pre.length ∧ dstOf l.toArray j = some t ∧ vsp[j]? = some (isV u)) ∨ lk L0 t = some u) →
      DF P N D w0 G0 K0 l.toArray G M al Kp pre.length rest Lk →
      ∃ (vsr : List (Value → Heap → Prop)) (L' : List (Nat × Value)), vsr.length = rest.length ∧ Kp L' ∧
        (∀ t u, lk L' t = some u → (∃ j, dstOf l.toArray j = some t ∧ (vsp ++ vsr)[j]? = some (isV u)) ∨ lk L0 t = some u) ∧
        ∀ (i : Nat) (o : Oper), rest[i]? = some o → ∃ p, vsr[i]? = some p ∧ ToldF P Q N D w0 G0 K0 l G M al L0 (vsp ++ vsr) (pre.length + i) o p
  | [], pre, vsp, Lk, hl, hh, hv, hi, h => by
    cases h with
    | nil h => exact ⟨[], Lk, rfl, h, fun t u ht => (hi t u ht).imp (fun ⟨j, _, h1, h2⟩ => ⟨j, h1, by simpa using h2⟩) id, fun i o ho => by simp at ho⟩
  | o :: rest, pre, vsp, Lk, hl, hh, hv, hi, h => by
    have hk : l[pre.length]? = some o := by rw [hl]; simp
    have skip : ∀ (k : DF P N D w0 G0 K0 l.toArray G M al Kp (pre.length + 1) rest Lk) (g : ∀ vsr : List (Value → Heap → Prop), ToldF P Q N D w0 G0 K0 l G M al L0 (vsp ++ ((fun _ _ => True) :: vsr)) pre.length o (fun _ _ => True)), ∃ (vsr : List (Value → Heap → Prop)) (L' : List (Nat × Value)), vsr.length = (o :: rest).length ∧ Kp L' ∧
        (∀ t u, lk L' t = some u → (∃ j, dstOf l.toArray j = some t ∧ (vsp ++ vsr)[j]? = some (isV u)) ∨ lk L0 t = some u) ∧
        ∀ (i : Nat) (o' : Oper), (o :: rest)[i]? = some o' → ∃ p, vsr[i]? = some p ∧ ToldF P Q N D w0 G0 K0 l G M al L0 (vsp ++ vsr) (pre.length + i) o' p := fun k g => by
      obtain ⟨vsr, L', e1, e2, e3, e4⟩ := DF.told Q hr tl rest (pre ++ [o]) (vsp ++ [fun _ _ => True]) Lk (by rw [hl]; simp) ⟨fun o ho => hh.1 o (List.mem_cons_of_mem _ ho), by have := hh.2; simp at this ⊢; omega⟩ (by simp [hv]) (by
        intro t u ht
        refine (hi t u ht).imp (fun ⟨j, h0, h1, h2⟩ => ⟨j, by simp; omega, h1, ?_⟩) id
        rw [List.getElem?_append_left (by omega)]; exact h2) (by simpa using k)
      refine ⟨(fun _ _ => True) :: vsr, L', by simp [e1], e2, fun t u ht => by simpa using e3 t u ht, fun j o' ho' => ?_⟩
      cases j with
      | succ j =>
        obtain ⟨p, g1, g2⟩ := e4 j o' (by simpa using ho')
        refine ⟨p, by simpa using g1, ?_⟩
        have e : (pre ++ [o]).length + j = pre.length + (j + 1) := by simp; omega
        rw [e] at g2
        simpa using g2
      | zero =>
        simp only [List.getElem?_cons_zero, Option.some.injEq] at ho'
        subst ho'
        exact ⟨_, rfl, g vsr⟩
    have env : ∀ (a : Act) (vsr : List (Value → Heap → Prop)) (p0 : Value → Heap → Prop), Env a N D L0 → (∀ j dj vj, (ons o).elem j = true → dstOf l.toArray j = some dj → (vsp ++ (p0 :: vsr))[j]? = some (isV vj) → a.tmps[dj]? = some vj) → Env a N D (resE Lk (tmpsOf l.toArray o)) := fun a vsr p0 E hw => ⟨E.size, E.defers, fun t u ht => by
      obtain ⟨m1, m2⟩ := resE_get ht
      rcases hi t u m2 with ⟨j, h0, h1, h2⟩ | h1
      · exact hw j t u (readsOk_spec hr (hh.1 _ List.mem_cons_self) m1 (by have := hh.2; omega) h1) h1 (by rw [List.getElem?_append_left (by omega)]; exact h2)
      · exact E.get t u h1⟩
    cases h with
    | @cons _ _ _ _ d v hnk h k =>
      have hd := (h []).dst
      have hdk : dstOf l.toArray pre.length = some d := by unfold dstOf; simp [hk, hd]
      obtain ⟨vsr, L', e1, e2, e3, e4⟩ := DF.told Q hr tl rest (pre ++ [o]) (vsp ++ [isV v]) ((d, v) :: Lk) (by rw [hl]; simp) ⟨fun o ho => hh.1 o (List.mem_cons_of_mem _ ho), by have := hh.2; simp at this ⊢; omega⟩ (by simp [hv]) (by
        intro t u ht
        rcases lk_cons ht with ⟨rfl, rfl⟩ | ⟨_, ht⟩
        · exact .inl ⟨pre.length, by simp, hdk, by simp [← hv]⟩
        · refine (hi t u ht).imp (fun ⟨j, h0, h1, h2⟩ => ⟨j, by simp; omega, h1, ?_⟩) id
          rw [List.getElem?_append_left (by omega)]; exact h2) (by simpa using k)
      refine ⟨isV v :: vsr, L', by simp [e1], e2, fun t u ht => by simpa using e3 t u ht, fun i o' ho' => ?_⟩
      cases i with
      | succ i =>
        obtain ⟨p, g1, g2⟩ := e4 i o' (by simpa using ho')
        refine ⟨p, by simpa using g1, ?_⟩
        have e : (pre ++ [o]).length + i = pre.length + (i + 1) := by simp; omega
        rw [e] at g2
        simpa using g2
      | zero =>
        simp only [List.getElem?_cons_zero, Option.some.injEq] at ho'
        subst ho'
        refine ⟨isV v, rfl, .inr (.inl ⟨d, v, hd, by simpa using hnk, rfl, fun a w G' R hle S E hw => ?_⟩)⟩
        exact (h R).run _ [] a w G' hle (env a vsr _ E hw) S (fun a' w' G2 h2 E2 S2 => ⟨G2, h2, S2, E2.get d v (by simp [lk]), E2.defers⟩)
    | @alloc _ _ _ d T j q1 vs ty pos af hN i hm k => exact skip k fun vsr => .inl ⟨d, T, vs, j, q1, ty, pos, af, rfl, hN, i, hm, rfl⟩
    | @fill _ _ _ i t tt T y us vs ty pos af hm he hy ht h1 k => exact skip k fun vsr => .inr (.inr ⟨i, t, tt, T, y, us, vs, ty, pos, af, rfl, hm, he, ht, h1, rfl, fun a E hw => ⟨_, env a vsr _ E hw, hy⟩⟩)
def KF (K : List (Nat × Value) → List Chunk → Prop) : List Fl → List (Nat × Value) → List Chunk → Prop
  | [], L, M => K L M
  | x :: al, L, M => ∀ b, KF K al ((x.t, .pointer (some ⟨b, 0, none⟩)) :: L) ([(b, x.q1)] :: M)
theorem KF.get {K : List (Nat × Value) → List Chunk → Prop} {a : Act} {w : World} {f : Nat → Bool} {G' : Heap} : ∀ {al : List Fl} {L : List (Nat × Value)} {M R : List Chunk}, KF K al L M → (∀ x ∈ al, f x.i = true ∧ f x.j = true) → RF (fun t => a.tmps[t]?) f al R → Env a N D L → St w0 G0 K0 G' w (M ++ R) →
    ∃ L' M', K L' M' ∧ Env a N D L' ∧ St w0 G0 K0 G' w M'
  | [], L, M, R, h, _, hR, E, S => by cases hR; exact ⟨L, M, h, E, by simpa using S⟩
  | x :: al, L, M, R, h, hf, hR, E, S => by
    obtain ⟨hfi, hfj⟩ := hf x List.mem_cons_self
    rcases hR with ⟨e, _⟩ | ⟨_, b, R', e2, rfl, hR⟩
    · rw [hfi] at e; cases e
    · have hq : x.q f = x.q1 := by unfold Fl.q; rw [hfj]; rfl
      rw [hq] at S
      exact KF.get (h b) (fun x hx => hf x (List.mem_cons_of_mem _ hx)) hR (E.add e2) (S.perm (by
        simp only [List.flatten_append, List.flatten_cons, List.cons_append, List.nil_append]
        exact List.perm_middle.symm))
/-- The list of the blocks fits the operations. -/
def flOk (n : Nat) (l : List Oper) (al : List Fl) : Bool :=
  (al.all fun x => (Nat.blt x.i n && Nat.blt x.j n) && ((dstOf l.toArray x.i == some x.t) && ((l[x.j]?.map fun o => (ons o).elem x.i) == some true))) && ((al.all fun x => al.all fun y => !Nat.beq x.i y.j) && (decide (al.map (·.i)).Nodup && decide (al.map (·.j)).Nodup))
theorem flOk_spec {n : Nat} {l : List Oper} {al : List Fl} (h : flOk n l al = true) : (∀ x ∈ al, x.i < n ∧ x.j < n ∧ dstOf l.toArray x.i = some x.t ∧ ∃ o, l[x.j]? = some o ∧ (ons o).elem x.i = true) ∧ (∀ x ∈ al, ∀ y ∈ al, x.i ≠ y.j) ∧ (al.map (·.i)).Nodup ∧ (al.map (·.j)).Nodup := by
  unfold flOk at h
  rw [Bool.and_eq_true, Bool.and_eq_true, Bool.and_eq_true, decide_eq_true_eq, decide_eq_true_eq, List.all_eq_true, List.all_eq_true] at h
  obtain ⟨h1, h2, h3, h4⟩ := h
  refine ⟨fun x hx => ?_, fun x hx y hy e => ?_, h3, h4⟩
  · have := h1 x hx
    rw [Bool.and_eq_true, Bool.and_eq_true, Bool.and_eq_true] at this
    obtain ⟨⟨a1, a2⟩, a3, a4⟩ := this
    refine ⟨by rw [Nat.blt_eq] at a1; exact a1, by rw [Nat.blt_eq] at a2; exact a2, eq_of_beq a3, ?_⟩
    have a4 := eq_of_beq a4
    cases ho : l[x.j]? with
    | none => rw [ho] at a4; cases a4
    | some o => rw [ho] at a4; exact ⟨o, rfl, Option.some.inj a4⟩
  · have := List.all_eq_true.1 (h2 x hx) y hy
    rw [e] at this
    simp at this
theorem w_df (n : Nat) (al : List Fl) {id : Nat} {l : List Oper} [m : Mix P] (hb : (backOk l.toArray && (readsOk (l.take n) l && seqB l n)) = true) (ha : flOk n l al = true)
    (h : DF P N D w0 G0 K0 l.toArray G M al (fun L' => ∀ G', Le1 G G' → KF (fun L2 M2 => W P Q0 N D w0 G0 K0 (.ops l.toArray (l.drop n) :: s) G' L2 M2) al L' M) 0 (l.take n) L) (hf : freshF (l.take n) L [] = true := by exact rfl) : W P Q0 N D w0 G0 K0 (.co (.region id l.toArray true) :: s) G L M := by
  refine W.of fun a w E S => ?_
  rw [Bool.and_eq_true, Bool.and_eq_true] at hb
  obtain ⟨ha1, ha2, ha3, ha4⟩ := flOk_spec ha
  obtain ⟨hf1, hf2⟩ := freshF_spec (l.take n) L [] hf
  obtain ⟨vs, L', e1, e2, e3, e4⟩ := DF.told (aft P Q0 s) hb.2.1 (l.drop n) (l.take n) [] [] L (by simp) ⟨fun _ h => h, by simp⟩ rfl (fun t u h => .inr h) h
  simp only [List.nil_append] at e3 e4
  have e4' : ∀ (i : Nat) (o : Oper), (l.take n)[i]? = some o → ∃ p, vs[i]? = some p ∧ ToldF P (aft P Q0 s) N D w0 G0 K0 l G M al L vs i o p := fun i o ho => by
    obtain ⟨p, g1, g2⟩ := e4 i o ho
    rw [List.length_nil, Nat.zero_add] at g2
    exact ⟨p, g1, g2⟩
  have opAt : ∀ {i t : Nat}, i < n → dstOf l.toArray i = some t → ∃ o, (l.take n)[i]? = some o ∧ o.dst = some t := fun {i t} hi hd => by
    unfold dstOf at hd
    simp only [List.getElem?_toArray] at hd
    cases hl : l[i]? with
    | none => rw [hl] at hd; cases hd
    | some o => rw [hl] at hd; exact ⟨o, by rw [List.getElem?_take, if_pos hi]; exact hl, hd⟩
  refine drawnS n (fun f sl G' w => Heap.le G G' ∧ ∃ R, RF sl f al R ∧ St w0 G0 K0 G' w (M ++ R)) vs m.h hb.1 hb.2.2 E ⟨Heap.le.refl _, [], ?_, by simpa using S.drew⟩ hf (fun p hp v A B hAB h => ?_) ?_ ?_
  · have : ∀ al : List Fl, RF (fun t => a.tmps[t]?) (fun _ => false) al [] := fun al => by
      induction al with
      | nil => rfl
      | cons x al ih => exact .inl ⟨rfl, ih⟩
    exact this al
  · obtain ⟨i, hi⟩ := List.mem_iff_getElem?.1 hp
    have hi' : i < (l.take n).length := by rw [← e1]; exact (List.getElem?_eq_some_iff.1 hi).1
    obtain ⟨q, g1, g0⟩ := e4' i (l.take n)[i] (List.getElem?_eq_getElem hi')
    rw [hi] at g1
    cases g1
    rcases g0 with ⟨_, _, _, _, _, _, _, _, _, _, _, _, rfl⟩ | ⟨_, _, _, _, rfl, _⟩ | ⟨_, _, _, _, _, _, _, _, _, _, _, _, _, _, _, rfl, _⟩
    · trivial
    · exact h
    · trivial
  · have key : ∀ (r : List Oper) (us : List (Value → Heap → Prop)) (k : Nat), us.length = r.length → (∀ (i : Nat) (o : Oper), r[i]? = some o → (l.take n)[k + i]? = some o ∧ ∃ p, us[i]? = some p ∧ ToldF P (aft P Q0 s) N D w0 G0 K0 l G M al L vs (k + i) o p) →
        AllF (StepS P (aft P Q0 s) N D L (fun f sl G' w => Heap.le G G' ∧ ∃ R, RF sl f al R ∧ St w0 G0 K0 G' w (M ++ R)) l vs) k r us := by
      intro r
      induction r with
      | nil => intro us k hu _; cases us with
        | nil => trivial
        | cons _ _ => simp at hu
      | cons o r ih =>
        intro us k hu hx
        cases us with
        | nil => simp at hu
        | cons u us =>
          obtain ⟨hol, p, g1, g2⟩ := hx 0 o rfl
          simp only [List.getElem?_cons_zero, Option.some.injEq] at g1
          subst g1
          rw [Nat.add_zero] at hol g2
          refine ⟨fun a w G' f hc hfi hon hW E' hv => ?_, ih us (k + 1) (by simpa using hu) (fun i o' ho' => by
            have := hx (i + 1) o' (by simpa using ho')
            rw [show k + (i + 1) = k + 1 + i from by omega] at this
            simpa using this)⟩
          obtain ⟨hle, R, hR, S⟩ := hW
          rcases g2 with ⟨d, T, vz, j, q1, ty, pos, af, rfl, hN, iz, hm, rfl⟩ | ⟨d, v, hd, hnk, rfl, hrun⟩ | ⟨i0, t, tt, T, y, us0, vs0, ty, pos, af, rfl, hm, he, ht, h1, rfl, hev⟩
          · obtain ⟨z, hz, hvz⟩ := iz.h
            subst hvz
            refine o_allocR E' hN S hz fun b w' a' S' E2 => ?_
            have hfj : f j = false := by
              cases e : f j with
              | false => rfl
              | true =>
                obtain ⟨_, _, _, o', c1, c2⟩ := ha1 _ hm
                have := hc j o' c1 e k c2
                rw [hfi] at this; cases this
            obtain ⟨R2, q1', q2⟩ := hR.put (y := ⟨k, d, j, Arr T (cellsOf z), q1⟩) (b := b) hm ha3 (fun x hx hne e => by
              obtain ⟨b1, _, b2, _⟩ := ha1 x hx
              obtain ⟨b3, _, b4, _⟩ := ha1 _ hm
              obtain ⟨o1, c1, c2⟩ := opAt b1 b2
              obtain ⟨o2, c3, c4⟩ := opAt b3 b4
              rw [e] at c2
              exact hne (hf2 _ _ _ _ _ c1 c3 c2 c4)) (fun x hx e => ha2 _ hm x hx e.symm) hfi hfj
            refine ⟨.pointer (some ⟨b, 0, none⟩), G', Heap.le.refl _, ⟨hle, R2, q1', S'.perm ?_⟩, fun d' hd' => by cases hd'; exact E2.get d _ (by simp [lk]), E2.defers, trivial⟩
            rw [List.flatten_append, List.flatten_cons, List.flatten_append, List.cons_append, List.nil_append]
            exact (List.Perm.append_left _ q2).trans List.perm_middle
          · refine wpList_mono (fun e a' w' he => ?_) (hrun a w G' R hle S E' (fun j dj vj hj hdj hvj => ?_))
            · cases e with
              | normal =>
                obtain ⟨G2, h1, h2, h4, h5⟩ := he
                have hnk' : ∀ x ∈ al, x.i ≠ k ∧ x.j ≠ k := fun x hx => by
                  have := List.all_eq_true.1 hnk x hx
                  rw [Bool.and_eq_true] at this
                  refine ⟨fun e => ?_, fun e => ?_⟩
                  · rw [e] at this; simp at this
                  · rw [e] at this; simp at this
                refine ⟨v, G2, h1, ⟨hle.trans h1, R, hR.keep (fun x hx => ⟨updF_ne (hnk' x hx).1, updF_ne (hnk' x hx).2⟩) (fun x hx hfx => ?_), h2⟩, fun d' hd' => by rw [hd] at hd'; cases hd'; exact h4, h5, rfl⟩
                unfold updS
                rw [hd, if_neg]
                intro e
                obtain ⟨b1, _, b2, _⟩ := ha1 x hx
                obtain ⟨o1, c1, c2⟩ := opAt b1 b2
                exact (hnk' x hx).1 (hf2 _ _ _ _ _ c1 hol (c2.trans e.symm) hd)
              | _ => exact he
            · obtain ⟨x, hx1, hx2⟩ := hv j dj (isV vj) (hon j hj) hdj hvj
              rw [hx1, show x = vj from hx2]
          · obtain ⟨L1, E1, hy⟩ := hev a E' (fun j dj vj hj hdj hvj => by
              obtain ⟨x, hx1, hx2⟩ := hv j dj (isV vj) (hon j hj) hdj hvj
              rw [hx1, show x = vj from hx2])
            obtain ⟨b, R1, R2, g1, rfl, g3⟩ := hR.fill (sl' := updS (fun t => a.tmps[t]?) none (.bool true)) (fun t => by unfold updS; rw [if_neg (by simp)]) (y := ⟨i0, t, k, Arr T us0, Arr T vs0⟩) hm ha4 (fun x hx e => ha2 x hx _ hm e) (hon _ he) hfi
            have hper : List.Perm (M ++ (R1 ++ [(b, Arr T us0)] :: R2)).flatten ([(b, Arr T us0)] :: (M ++ (R1 ++ R2))).flatten := by
              simp only [List.flatten_append, List.flatten_cons, List.cons_append, List.nil_append]
              rw [← List.append_assoc, ← List.append_assoc]
              exact List.perm_middle
            have hper2 : List.Perm ([(b, Arr T vs0)] :: (M ++ (R1 ++ R2))).flatten (M ++ (R1 ++ [(b, Arr T vs0)] :: R2)).flatten := by
              simp only [List.flatten_append, List.flatten_cons, List.cons_append, List.nil_append]
              rw [← List.append_assoc, ← List.append_assoc]
              exact List.perm_middle.symm
            refine o_stRA (b := b) (E1.add (t := t) g1) (S.perm hper.symm) (by simp [ev, lk]) (hy _) ht (.here .here) h1 fun w' S' => ?_
            exact ⟨.bool true, G', Heap.le.refl _, ⟨hle, _, g3, S'.perm hper2.symm⟩, (fun d' hd' => by cases hd'), E1.defers, trivial⟩
    exact key (l.take n) vs 0 e1 fun i o ho => by rw [Nat.zero_add]; exact ⟨ho, e4' i o ho⟩
  · intro a w G' f hle hall hW E' hv
    obtain ⟨_, R, hR, S⟩ := hW
    obtain ⟨L2, M2, hK, E2, S2⟩ := KF.get (f := f) (a := a) (N := N) (D := D) (L := L') (e2 G' ⟨hle⟩) (fun x hx => by
      obtain ⟨b1, b0, b2, o', b3, _⟩ := ha1 x hx
      obtain ⟨o1, c1, _⟩ := opAt b1 b2
      rw [List.getElem?_take, if_pos b1] at c1
      exact ⟨hall x.i b1 (List.getElem?_eq_some_iff.1 c1).1, hall x.j b0 (List.getElem?_eq_some_iff.1 b3).1⟩) hR ⟨E'.size, E'.defers, fun t u ht => by
      rcases e3 t u ht with ⟨j, h1, h2⟩ | h1
      · obtain ⟨x, hx1, hx2⟩ := hv j t (isV u) h1 h2
        rw [hx1, show x = u from hx2]
      · exact E'.get t u h1⟩ S
    exact hK.run a w E2 S2
theorem dgf {p q : Prop} (k : q) (h : Hold q → p := by (intro k; (repeat (first | (apply DF.cons; (focus exact rfl); (intro R0; (try simp only [List.cons_append, List.nil_append]); (focus (first | (first | (apply p_pop; exact rfl; exact rfl) | (apply p_ld; exact rfl; exact rfl; exact rfl; (focus ((repeat (first | exact .here .here | exact .here (.there .here) | exact .here (.there (.there .here)) | apply InM.there)); done)); exact rfl) | (apply p_ldA; exact rfl; exact rfl; exact rfl; (focus ((repeat (first | exact .here .here | exact .here (.there .here) | exact .here (.there (.there .here)) | apply InM.there)); done)); exact rfl) | (apply p_ldRi; exact rfl; exact rfl; exact rfl; (focus ((repeat (first | exact .here .here | exact .here (.there .here) | exact .here (.there (.there .here)) | apply InM.there)); done)); omega) | (apply p_ldRx; exact rfl; exact rfl; exact rfl; (focus ((repeat (first | exact .here .here | exact .here (.there .here) | exact .here (.there (.there .here)) | apply InM.there)); done)); omega) | (apply p_ldRA; exact rfl; exact rfl; exact rfl; (focus ((repeat (first | exact .here .here | exact .here (.there .here) | exact .here (.there (.there .here)) | apply InM.there)); done)); (first | (simp only [List.length_map, List.length_replicate, List.length_set, List.length_append, List.length_cons, List.length_nil]; first | done | omega) | omega)) | (apply p_ldRg; exact rfl; exact rfl; exact rfl; (focus ((repeat (first | exact .here .here | exact .here (.there .here) | exact .here (.there (.there .here)) | apply InM.there)); done)); (focus ((repeat (first | exact GetN.here | apply GetN.there)); done))) | (apply p_ldRQ; exact rfl; exact rfl; exact rfl; (focus ((repeat (first | exact .here .here | exact .here (.there .here) | exact .here (.there (.there .here)) | apply InM.there)); done)); (focus ((repeat (first | exact DrpN.zero | apply DrpN.succ)); done)); (focus ((repeat (first | exact TakN.nil | apply TakN.cons)); done))) | (apply p_ldG; exact rfl; exact rfl; exact rfl; (focus with_reducible assumption); (focus infer_instance); omega) | (apply p_ldKi; exact rfl; exact rfl; exact rfl; (focus with_reducible assumption); (focus infer_instance); omega) | (apply p_ldKb; exact rfl; exact rfl; exact rfl; (focus with_reducible assumption); (focus infer_instance); omega) | (apply p_ldKs; exact rfl; exact rfl; exact rfl; (focus with_reducible assumption); (focus infer_instance); omega) | (apply p_ldIx; exact rfl; exact rfl; exact rfl; (focus with_reducible assumption); (focus infer_instance); exact rfl) | (apply p_ldI0; exact rfl; exact rfl; exact rfl; (focus with_reducible assumption); (focus infer_instance); exact rfl) | (apply p_ldIA; exact rfl; exact rfl; exact rfl; (focus with_reducible assumption); (focus infer_instance); exact rfl) | (apply p_ldIxV; exact rfl; exact rfl; exact rfl; (focus with_reducible assumption); (focus infer_instance); exact rfl) | (apply p_ldIx2; exact rfl; exact rfl; exact rfl; (focus with_reducible assumption); (focus infer_instance); exact rfl) | (apply p_ldOV0; exact rfl; exact rfl; exact rfl; (focus with_reducible assumption); (focus infer_instance); (focus ((repeat (first | exact Pk.here | apply Pk.there)); done)); omega) | (apply p_ldOE1; exact rfl; exact rfl; exact rfl; (focus with_reducible assumption); (focus infer_instance); (focus ((repeat (first | exact Pk.here | apply Pk.there)); done)); omega) | (apply p_ixN; exact rfl; exact rfl; exact rfl; exact rfl; (focus with_reducible assumption); exact rfl; omega) | (apply p_ixI; exact rfl; exact rfl; exact rfl; exact rfl; (focus with_reducible assumption); exact rfl; omega) | (apply p_ixO; exact rfl; exact rfl; exact rfl; exact rfl; (focus with_reducible assumption); exact rfl; omega) | (apply p_ixL; exact rfl; exact rfl; exact rfl; exact rfl; omega) | (apply p_ixLi; exact rfl; exact rfl; exact rfl; exact rfl; omega) | (apply p_ixA; exact rfl; exact rfl; exact rfl; exact rfl; omega) | (apply p_ixAi; exact rfl; exact rfl; exact rfl; exact rfl; omega) | (apply p_lenS; exact rfl; exact rfl; exact rfl) | (apply p_eqS; exact rfl; exact rfl; exact rfl) | (apply p_neS; exact rfl; exact rfl; exact rfl) | (apply p_add; exact rfl; exact rfl; exact rfl; omega) | (apply p_sub; exact rfl; exact rfl; exact rfl; omega) | (apply p_mul; exact rfl; exact rfl; exact rfl; omega) | (apply p_add64; exact rfl; exact rfl; exact rfl; omega) | (apply p_sub64; exact rfl; exact rfl; exact rfl; omega) | (apply p_mul64; exact rfl; exact rfl; exact rfl; omega) | (apply p_addQ; exact rfl; exact rfl; exact rfl) | (apply p_subQ; exact rfl; exact rfl; exact rfl) | (apply p_mulQ; exact rfl; exact rfl; exact rfl) | (apply p_rem; exact rfl; exact rfl; exact rfl; omega) | (apply p_remU; exact rfl; exact rfl; exact rfl; decide) | (apply p_quo8; exact rfl; exact rfl; exact rfl; omega) | (apply p_quo64; exact rfl; exact rfl; exact rfl; omega) | (apply p_quo; exact rfl; exact rfl; exact rfl; omega) | (apply p_eqV; exact rfl; exact rfl; exact rfl) | (apply p_neV; exact rfl; exact rfl; exact rfl) | (apply p_eqE; exact rfl; exact rfl; exact rfl) | (apply p_neE; exact rfl; exact rfl; exact rfl) | (apply p_sliceS; exact rfl; exact rfl; exact rfl; exact rfl; exact rfl; omega) | (apply p_sliceLo; exact rfl; exact rfl; exact rfl; exact rfl; omega) | (apply p_sliceHi; exact rfl; exact rfl; exact rfl; exact rfl; omega) | (apply p_lookV; exact rfl; exact rfl; exact rfl; (focus ((repeat (first | exact .here .here | exact .here (.there .here) | exact .here (.there (.there .here)) | apply InM.there)); done)); (focus with_reducible assumption)) | (apply p_look1V; exact rfl; exact rfl; exact rfl; (focus ((repeat (first | exact .here .here | exact .here (.there .here) | exact .here (.there (.there .here)) | apply InM.there)); done)); (focus with_reducible assumption)) | (apply p_shr; exact rfl; exact rfl; exact rfl; (focus (first | decide | omega | exact u64_nn _))) | (apply p_shl; exact rfl; exact rfl; exact rfl; (focus (first | decide | omega | exact u64_nn _))) | (apply p_neg; exact rfl; exact rfl) | (apply p_cpl; exact rfl; exact rfl) | (apply p_min; exact rfl; exact rfl; exact rfl) | (apply p_conv; exact rfl; exact rfl; (focus (first | exact wrap_u8 (by omega) | exact wrap_u32 (by omega) | exact wrap_u64 (by omega) | exact wrap_i64 (by omega)))) | (apply p_conv; exact rfl; exact rfl; exact rfl) | (apply p_ixV; exact rfl; exact rfl; exact rfl; omega) | (apply p_index; exact rfl; exact rfl; exact rfl; exact rfl; omega) | (apply p_slAB; exact rfl; exact rfl; exact rfl; exact rfl; exact rfl; omega) | (apply p_slA; exact rfl; exact rfl; exact rfl; exact rfl; omega) | (apply p_slB; exact rfl; exact rfl; exact rfl; exact rfl; omega) | (apply p_sliceArr; exact rfl; exact rfl; exact rfl; exact rfl) | (apply p_pickT; exact rfl; exact rfl; (focus (first | with_reducible rfl | with_reducible assumption | decide)); exact rfl) | (apply p_pickF; exact rfl; exact rfl; (focus (first | with_reducible rfl | with_reducible assumption | decide)); exact rfl) | (apply p_cat; exact rfl; exact rfl; exact rfl; omega)) | (apply p_on; exact rfl; exact rfl; (focus (first | with_reducible assumption | decide)); (first | (apply p_pop; exact rfl; exact rfl) | (apply p_ld; exact rfl; exact rfl; exact rfl; (focus ((repeat (first | exact .here .here | exact .here (.there .here) | exact .here (.there (.there .here)) | apply InM.there)); done)); exact rfl) | (apply p_ldA; exact rfl; exact rfl; exact rfl; (focus ((repeat (first | exact .here .here | exact .here (.there .here) | exact .here (.there (.there .here)) | apply InM.there)); done)); exact rfl) | (apply p_ldRi; exact rfl; exact rfl; exact rfl; (focus ((repeat (first | exact .here .here | exact .here (.there .here) | exact .here (.there (.there .here)) | apply InM.there)); done)); omega) | (apply p_ldRx; exact rfl; exact rfl; exact rfl; (focus ((repeat (first | exact .here .here | exact .here (.there .here) | exact .here (.there (.there .here)) | apply InM.there)); done)); omega) | (apply p_ldRA; exact rfl; exact rfl; exact rfl; (focus ((repeat (first | exact .here .here | exact .here (.there .here) | exact .here (.there (.there .here)) | apply InM.there)); done)); (first | (simp only [List.length_map, List.length_replicate, List.length_set, List.length_append, List.length_cons, List.length_nil]; first | done | omega) | omega)) | (apply p_ldRg; exact rfl; exact rfl; exact rfl; (focus ((repeat (first | exact .here .here | exact .here (.there .here) | exact .here (.there (.there .here)) | apply InM.there)); done)); (focus ((repeat (first | exact GetN.here | apply GetN.there)); done))) | (apply p_ldRQ; exact rfl; exact rfl; exact rfl; (focus ((repeat (first | exact .here .here | exact .here (.there .here) | exact .here (.there (.there .here)) | apply InM.there)); done)); (focus ((repeat (first | exact DrpN.zero | apply DrpN.succ)); done)); (focus ((repeat (first | exact TakN.nil | apply TakN.cons)); done))) | (apply p_ldG; exact rfl; exact rfl; exact rfl; (focus with_reducible assumption); (focus infer_instance); omega) | (apply p_ldKi; exact rfl; exact rfl; exact rfl; (focus with_reducible assumption); (focus infer_instance); omega) | (apply p_ldKb; exact rfl; exact rfl; exact rfl; (focus with_reducible assumption); (focus infer_instance); omega) | (apply p_ldKs; exact rfl; exact rfl; exact rfl; (focus with_reducible assumption); (focus infer_instance); omega) | (apply p_ldIx; exact rfl; exact rfl; exact rfl; (focus with_reducible assumption); (focus infer_instance); exact rfl) | (apply p_ldI0; exact rfl; exact rfl; exact rfl; (focus with_reducible assumption); (focus infer_instance); exact rfl) | (apply p_ldIA; exact rfl; exact rfl; exact rfl; (focus with_reducible assumption); (focus infer_instance); exact rfl) | (apply p_ldIxV; exact rfl; exact rfl; exact rfl; (focus with_reducible assumption); (focus infer_instance); exact rfl) | (apply p_ldIx2; exact rfl; exact rfl; exact rfl; (focus with_reducible assumption); (focus infer_instance); exact rfl) | (apply p_ldOV0; exact rfl; exact rfl; exact rfl; (focus with_reducible assumption); (focus infer_instance); (focus ((repeat (first | exact Pk.here | apply Pk.there)); done)); omega) | (apply p_ldOE1; exact rfl; exact rfl; exact rfl; (focus with_reducible assumption); (focus infer_instance); (focus ((repeat (first | exact Pk.here | apply Pk.there)); done)); omega) | (apply p_ixN; exact rfl; exact rfl; exact rfl; exact rfl; (focus with_reducible assumption); exact rfl; omega) | (apply p_ixI; exact rfl; exact rfl; exact rfl; exact rfl; (focus with_reducible assumption); exact rfl; omega) | (apply p_ixO; exact rfl; exact rfl; exact rfl; exact rfl; (focus with_reducible assumption); exact rfl; omega) | (apply p_ixL; exact rfl; exact rfl; exact rfl; exact rfl; omega) | (apply p_ixLi; exact rfl; exact rfl; exact rfl; exact rfl; omega) | (apply p_ixA; exact rfl; exact rfl; exact rfl; exact rfl; omega) | (apply p_ixAi; exact rfl; exact rfl; exact rfl; exact rfl; omega) | (apply p_lenS; exact rfl; exact rfl; exact rfl) | (apply p_eqS; exact rfl; exact rfl; exact rfl) | (apply p_neS; exact rfl; exact rfl; exact rfl) | (apply p_add; exact rfl; exact rfl; exact rfl; omega) | (apply p_sub; exact rfl; exact rfl; exact rfl; omega) | (apply p_mul; exact rfl; exact rfl; exact rfl; omega) | (apply p_add64; exact rfl; exact rfl; exact rfl; omega) | (apply p_sub64; exact rfl; exact rfl; exact rfl; omega) | (apply p_mul64; exact rfl; exact rfl; exact rfl; omega) | (apply p_addQ; exact rfl; exact rfl; exact rfl) | (apply p_subQ; exact rfl; exact rfl; exact rfl) | (apply p_mulQ; exact rfl; exact rfl; exact rfl) | (apply p_rem; exact rfl; exact rfl; exact rfl; omega) | (apply p_remU; exact rfl; exact rfl; exact rfl; decide) | (apply p_quo8; exact rfl; exact rfl; exact rfl; omega) | (apply p_quo64; exact rfl; exact rfl; exact rfl; omega) | (apply p_quo; exact rfl; exact rfl; exact rfl; omega) | (apply p_eqV; exact rfl; exact rfl; exact rfl) | (apply p_neV; exact rfl; exact rfl; exact rfl) | (apply p_eqE; exact rfl; exact rfl; exact rfl) | (apply p_neE; exact rfl; exact rfl; exact rfl) | (apply p_sliceS; exact rfl; exact rfl; exact rfl; exact rfl; exact rfl; omega) | (apply p_sliceLo; exact rfl; exact rfl; exact rfl; exact rfl; omega) | (apply p_sliceHi; exact rfl; exact rfl; exact rfl; exact rfl; omega) | (apply p_lookV; exact rfl; exact rfl; exact rfl; (focus ((repeat (first | exact .here .here | exact .here (.there .here) | exact .here (.there (.there .here)) | apply InM.there)); done)); (focus with_reducible assumption)) | (apply p_look1V; exact rfl; exact rfl; exact rfl; (focus ((repeat (first | exact .here .here | exact .here (.there .here) | exact .here (.there (.there .here)) | apply InM.there)); done)); (focus with_reducible assumption)) | (apply p_shr; exact rfl; exact rfl; exact rfl; (focus (first | decide | omega | exact u64_nn _))) | (apply p_shl; exact rfl; exact rfl; exact rfl; (focus (first | decide | omega | exact u64_nn _))) | (apply p_neg; exact rfl; exact rfl) | (apply p_cpl; exact rfl; exact rfl) | (apply p_min; exact rfl; exact rfl; exact rfl) | (apply p_conv; exact rfl; exact rfl; (focus (first | exact wrap_u8 (by omega) | exact wrap_u32 (by omega) | exact wrap_u64 (by omega) | exact wrap_i64 (by omega)))) | (apply p_conv; exact rfl; exact rfl; exact rfl) | (apply p_ixV; exact rfl; exact rfl; exact rfl; omega) | (apply p_index; exact rfl; exact rfl; exact rfl; exact rfl; omega) | (apply p_slAB; exact rfl; exact rfl; exact rfl; exact rfl; exact rfl; omega) | (apply p_slA; exact rfl; exact rfl; exact rfl; exact rfl; omega) | (apply p_slB; exact rfl; exact rfl; exact rfl; exact rfl; omega) | (apply p_sliceArr; exact rfl; exact rfl; exact rfl; exact rfl) | (apply p_pickT; exact rfl; exact rfl; (focus (first | with_reducible rfl | with_reducible assumption | decide)); exact rfl) | (apply p_pickF; exact rfl; exact rfl; (focus (first | with_reducible rfl | with_reducible assumption | decide)); exact rfl) | (apply p_cat; exact rfl; exact rfl; exact rfl; omega))) | (apply p_offT; exact rfl; exact rfl; exact rfl; (first | with_reducible assumption | decide)) | (apply p_offF; exact rfl; exact rfl; exact rfl; (first | with_reducible assumption | decide)) | (apply p_offu; exact rfl; exact rfl; exact rfl))))) | (apply DF.alloc; exact rfl; (focus infer_instance); (focus (first | exact .head _ | exact .tail _ (.head _) | exact .tail _ (.tail _ (.head _))))))); (first | exact DF.nil k.h | exact k.h))) : p := h ⟨k⟩
end
end Go.Proofs.YtngoaapgdfohjaaGreatDoor.X

set_option linter.unusedVariables false
set_option linter.unusedSimpArgs false
namespace Go.Proofs.YtngoaapgdfohjaaGreatDoor.X
open Go
/-! ## Calls that hand back, or throw a fault -/
def thV (T : TypeId) (v : Value) : List PanicEntry := [{ v := .iface T v, recovered := false }]
def FnT (P : Program) (f : Nat) (args : List Value) (G : Heap) (Ms : List Chunk) (T : TypeId) (R : Value → Heap → List Chunk → Prop) (E : Value → Prop) : Prop :=
  ∀ {W0 : World} {H0 : Heap} {L0 : List Nat} {M0 : List Chunk} (w : World), St W0 H0 L0 G w (Ms ++ M0) → Calls P f args.toArray w (Ends w G (keys Ms.flatten) (fun v G' C' => ∃ Ms', C' = Ms'.flatten ∧ R v G' Ms') (fun c _ C' => C' = [] ∧ ∃ e, E e ∧ c = thV T e))
class NIf (P : Program) (t : Nat) : Prop where
  h : notIf P t = true
section
variable {P : Program} {Q0 : Exit → Act → World → Prop} {N : Nat} {D : List Deferred} {w0 : World} {G0 : Heap} {K0 : List Nat} {s : List Itm} {G : Heap} {L L' : List (Nat × Value)} {M M' : List Chunk} {ops all : Array Oper} {o : Oper} {d : Nat} {v : Value} {rest : List Oper}
variable {ty : TypeId} {pos : String} {af : Array Edge}
theorem fnT_in {f : Nat} {fn : Func} {c : Code} {args : List Value} {Ms : List Chunk} {T : TypeId} {R : Value → Heap → List Chunk → Prop} {E : Value → Prop} (hf : P.funcs[f]? = some fn) (hb : fn.body = some c) (hn : fn.ntmps = N) (hN : Nat.ble args.length N = true)
    (h : ∀ w0 K0 Q0, (∀ e a w, bodyPost P fn (Ends w0 G K0 (fun v G' C' => ∃ Ms', C' = Ms'.flatten ∧ R v G' Ms') (fun c _ C' => C' = [] ∧ ∃ e, E e ∧ c = thV T e)) e a w → Q0 e a w) → W P Q0 N [] w0 G K0 [.co c] G (argEnv 0 args) Ms) : FnT P f args G Ms T R E := fun w hs =>
  enter hf hb hn (by simpa using hN) fun Q hQ a E => (h w _ Q hQ).run a w (by simpa using E) (St.startM hs)
theorem w_retT {fn : Func} {T : TypeId} {R : Value → Heap → List Chunk → Prop} {E : Value → Prop} {vs : List Value} {Ms R0 : List Chunk} (hQ : ∀ e a w, bodyPost P fn (Ends w0 G0 K0 (fun v G' C' => ∃ Ms', C' = Ms'.flatten ∧ R v G' Ms') (fun c _ C' => C' = [] ∧ ∃ e, E e ∧ c = thV T e)) e a w → Q0 e a w) (hm : Sel M Ms R0) (h : R (packed vs) G Ms)
    (hr : ResY P L M fn.results.toList vs := by repeat (first | exact .nil | apply ResY.tmp rfl | (apply ResY.cellS rfl; (infer_instance); (focus (repeat (first | exact .here .here | exact .here (.there .here) | exact .here (.there (.there .here)) | apply InM.there))); exact rfl) | (apply ResY.cellA rfl; (infer_instance); (focus (repeat (first | exact .here .here | exact .here (.there .here) | exact .here (.there (.there .here)) | apply InM.there))); exact rfl))) : W P Q0 N [] w0 G0 K0 (.co .ret :: s) G L M :=
  W.of fun a w E S => wp_ret (aft_ret (ret hQ E rfl (hr.res E S) ⟨_, _, (S.sel0 hm).stop (List.Sublist.refl _), _, rfl, h⟩))
theorem w_endT {fn : Func} {T : TypeId} {R : Value → Heap → List Chunk → Prop} {E : Value → Prop} {vs : List Value} {Ms R0 : List Chunk} (hQ : ∀ e a w, bodyPost P fn (Ends w0 G0 K0 (fun v G' C' => ∃ Ms', C' = Ms'.flatten ∧ R v G' Ms') (fun c _ C' => C' = [] ∧ ∃ e, E e ∧ c = thV T e)) e a w → Q0 e a w) (hm : Sel M Ms R0) (h : R (packed vs) G Ms) (hr : ResY P L M fn.results.toList vs) : W P Q0 N [] w0 G0 K0 [] G L M :=
  W.of fun a w E S => retN hQ E rfl (hr.res E S) ⟨_, _, (S.sel0 hm).stop (List.Sublist.refl _), _, rfl, h⟩
theorem p_mkIf {t : TypeId} {x : Operand} [i : NIf P t] (hN : Nat.blt d N = true) (hx : ev L x = some v) : Stp P N D w0 G0 K0 ops G L M ⟨some d, .makeInterface t x, ty, pos, af, none⟩ d (.iface t v) :=
  Stp.pure fun Q rest a w G1 hl E S k => o_mkIf E hN hx i.h k
theorem w_panic {fn : Func} {T : TypeId} {R : Value → Heap → List Chunk → Prop} {E : Value → Prop} {x : Operand} (hQ : ∀ e a w, bodyPost P fn (Ends w0 G0 K0 (fun v G' C' => ∃ Ms', C' = Ms'.flatten ∧ R v G' Ms') (fun c _ C' => C' = [] ∧ ∃ e, E e ∧ c = thV T e)) e a w → Q0 e a w) (hx : ev L x = some (.iface T v)) (hE : E v) :
    W P Q0 N [] w0 G0 K0 (.ops all (⟨none, .panic x, ty, pos, af, none⟩ :: rest) :: s) G L M :=
  W.of fun a w E' S => o_panic E' hx (aft_panic (s := s) (hQ _ _ _ ⟨E'.defers, _, [], S.stop (List.nil_sublist _), rfl, v, hE, rfl⟩))
/-- A call that may throw: what is to be shown where it does is told of the state. -/
theorem w_callX {f : Nat} {x : Operand} {xs : Array Operand} {ats : Array TypeId} {us vs cs : List Value} {Ms R0 : List Chunk} {T : TypeId} {R : Value → Heap → List Chunk → Prop} {E : Value → Prop} [g : GoF P f] (hN : Nat.blt d N = true) (hx : ev L x = some (.func (.func f) us.toArray cs.toArray)) (hv : evs L xs.toList = some vs) (hc : FnT P f (us ++ vs ++ cs) G Ms T R E) (hm : Sel M Ms R0)
    (kp : ∀ e G' a w, Le1 G G' → E e → Env a N D L → St w0 G0 K0 G' w R0 → Q0 (.panic (thV T e)) a w)
    (k : ∀ v G' Ms', Le1 G G' → R v G' Ms' → W P Q0 N D w0 G0 K0 (.ops all rest :: s) G' ((d, v) :: L) (Ms' ++ R0)) : W P Q0 N D w0 G0 K0 (.ops all (⟨some d, .call ⟨.value x, xs, ats⟩, ty, pos, af, none⟩ :: rest) :: s) G L M :=
  W.of fun a w E S => o_callM (A := []) (B := R0) (C := Ms.flatten) E hN ((S.sel hm).perm (by simp)) hx hv g.h (hc w (S.sel hm)) (fun v G' C' w' a' S' hl hr E' => by
    obtain ⟨Ms', rfl, hr⟩ := hr
    exact (k v G' Ms' ⟨hl⟩ hr).run a' w' E' (S'.perm (by simp))) (fun c G' C' w' S' hl hr => by
    obtain ⟨rfl, e, he, rfl⟩ := hr
    exact aft_panic (s := .ops all rest :: s) (kp e G' a w' ⟨hl⟩ he E (S'.perm (by simp))))
/-- The fault of a call is the caller's own. -/
theorem kpT {fn : Func} {T : TypeId} {R : Value → Heap → List Chunk → Prop} {E E' : Value → Prop} {R0 : List Chunk} (hQ : ∀ e a w, bodyPost P fn (Ends w0 G0 K0 (fun v G' C' => ∃ Ms', C' = Ms'.flatten ∧ R v G' Ms') (fun c _ C' => C' = [] ∧ ∃ e, E' e ∧ c = thV T e)) e a w → Q0 e a w) (hE : ∀ e, E e → E' e) :
    ∀ e G' a w, Le1 G G' → E e → Env a N [] L → St w0 G0 K0 G' w R0 → Q0 (.panic (thV T e)) a w := fun e G' a w _ he E S => hQ _ _ _ ⟨E.defers, _, [], S.stop (List.nil_sublist _), rfl, e, hE e he, rfl⟩
/-- What hands back always may be called where faults are awaited. -/
theorem FnM.t {f : Nat} {args : List Value} {Ms : List Chunk} {R : Value → Heap → List Chunk → Prop} {T : TypeId} {E : Value → Prop} (h : FnM P f args G Ms R) : FnT P f args G Ms T R E := fun w hs => (h w hs).mono fun e w' he => by
  cases e with
  | returned v => exact he
  | panicked c => obtain ⟨_, _, _, hf⟩ := he; exact hf.elim
  | outgrown => exact he.elim
end
end Go.Proofs.YtngoaapgdfohjaaGreatDoor.X

set_option linter.unusedVariables false
set_option linter.unusedSimpArgs false
namespace Go.Proofs.YtngoaapgdfohjaaGreatDoor.X
open Go
/-! ## Slices cut, as plain values; arrays of texts -/
def slAt (A : Option Addr) (c k m : Nat) : Option Addr := if c = k then A else A.map (·.add (k * m))
theorem sl_lo {α : Type} {K : Knd α} {G : Heap} {A : Option Addr} {xs : List α} (hR : Rd K G A xs) {c k : Nat} (hk : k ≤ xs.length) (hc : xs.length ≤ c) : Rd K G (slAt A c k K.sz) (xs.drop k) := by
  unfold slAt
  by_cases hck : c = k
  · left
    exact List.eq_nil_of_length_eq_zero (by rw [List.length_drop]; omega)
  · rw [if_neg hck]
    rcases hR with rfl | ⟨b, o, rfl, hR⟩
    · left; simp
    · have := Rd.drop hR k
      simpa [addAt] using this
section
variable {P : Program} {Q0 : Exit → Act → World → Prop} {N : Nat} {D : List Deferred} {w0 : World} {G0 : Heap} {K0 : List Nat} {s : List Itm} {G G1 : Heap} {L L' : List (Nat × Value)} {M M' R0 : List Chunk} {ops all : Array Oper} {o : Oper} {d : Nat} {v : Value} {rest : List Oper}
variable {ty : TypeId} {pos : String} {af : Array Edge} {x y z : Operand} {t : Nat} {tb : Tb}
theorem p_slHi {A : Option Addr} {e m n c k : Nat} {q : IntKind} [h : HasTb P tb] (hN : Nat.blt d N = true) (hx : ev L x = some (.slice A n c)) (hz : ev L z = some (.int q (k : Int))) (ht : lookP tb.sl t = some (e, m)) (hk : k ≤ c) : Stp P N D w0 G0 K0 ops G L M ⟨some d, .slice t x none (some z) none, ty, pos, af, none⟩ d (.slice A k c) :=
  Stp.pure fun Q rest a w G2 hl2 E S kk => by
    obtain ⟨inf, hu, hi, rfl⟩ := sl_spec (tb_sl h ht)
    refine op_val (v := .slice A k c) rfl rfl E hN ?_ kk
    have ha : A.map (fun x => x.add 0) = A := by
      cases A with
      | none => rfl
      | some b => simp [Addr.add]
    simp [execOp, E.eval hx, E.eval hz, Instr.sliceAt, Instr.slice, Instr.sliceBounds, Instr.sliceBound, asIntOf, run_underlying hu, run_sizeOf' hi, hk, ha]
theorem p_slLo {A : Option Addr} {e m n c k : Nat} {q : IntKind} [h : HasTb P tb] (hN : Nat.blt d N = true) (hx : ev L x = some (.slice A n c)) (hz : ev L z = some (.int q (k : Int))) (ht : lookP tb.sl t = some (e, m)) (hk : k ≤ n) : Stp P N D w0 G0 K0 ops G L M ⟨some d, .slice t x (some z) none none, ty, pos, af, none⟩ d (.slice (slAt A c k m) (n - k) (c - k)) :=
  Stp.pure fun Q rest a w G2 hl2 E S kk => by
    obtain ⟨inf, hu, hi, rfl⟩ := sl_spec (tb_sl h ht)
    refine op_val (v := .slice (slAt A c k inf.size) (n - k) (c - k)) rfl rfl E hN ?_ kk
    unfold slAt
    simp [execOp, E.eval hx, E.eval hz, Instr.sliceAt, Instr.slice, Instr.sliceBounds, Instr.sliceBound, asIntOf, run_underlying hu, run_sizeOf' hi, hk]
theorem p_slLH {A : Option Addr} {e m n c lo hi : Nat} {q q' : IntKind} [h : HasTb P tb] (hN : Nat.blt d N = true) (hx : ev L x = some (.slice A n c)) (hy : ev L y = some (.int q (lo : Int))) (hz : ev L z = some (.int q' (hi : Int))) (ht : lookP tb.sl t = some (e, m)) (h1 : lo ≤ hi) (h2 : hi ≤ c) : Stp P N D w0 G0 K0 ops G L M ⟨some d, .slice t x (some y) (some z) none, ty, pos, af, none⟩ d (.slice (slAt A c lo m) (hi - lo) (c - lo)) :=
  Stp.pure fun Q rest a w G2 hl2 E S kk => by
    refine op_val (v := .slice (slAt A c lo m) (hi - lo) (c - lo)) rfl rfl E hN ?_ kk
    exact run_slLH E hx hy hz (tb_sl h ht) h1 h2 d ty pos af
theorem p_ixVs {n j : Nat} {q' : IntKind} {xs : List Bs} [c : IxV P t n] (hN : Nat.blt d N = true) (hx : ev L x = some (.agg (xs.map str).toArray)) (hy : ev L y = some (.int q' (j : Int))) (hj : j < n ∧ j < xs.length) : Stp P N D w0 G0 K0 ops G L M ⟨some d, .index t x y, ty, pos, af, none⟩ d (str (xs.getD j [])) :=
  Stp.pure fun Q rest a w G2 hl2 E S k => by
    obtain ⟨e, h1, h2, h3⟩ := c.h
    exact o_ixR E hN hx hy h1 h2 (by omega) (by rw [Int.toNat_natCast, List.getElem?_map, List.getElem?_eq_getElem hj.2]; simp [List.getD_eq_getElem?_getD, List.getElem?_eq_getElem hj.2]) h3 k
/-! ## Regions that draw and write, with a tail -/
theorem DE.toldT (Q : Exit → Act → World → Prop) {l : List Oper} {Mf : (Nat → Bool) → List Chunk} {Kp : List (Nat × Value) → Prop} {L0 : List (Nat × Value)} {h' : List Oper} (hr : readsOk h' l = true) (tl : List Oper) :
    ∀ (rest pre : List Oper) (vsp : List (Value → Heap → Prop)) (Lk : List (Nat × Value)), l = pre ++ (rest ++ tl) → ((∀ o ∈ rest, o ∈ h') ∧ pre.length + rest.length ≤ h'.length) → vsp.length = pre.length →
      (∀ t u, lk Lk t = some u → (∃ j, j < pre.length ∧ dstOf l.toArray j = some t ∧ vsp[j]? = some (isV u)) ∨ lk L0 t = some u) →
      DE P N D w0 G0 K0 l.toArray G Mf Kp pre.length rest Lk →
      ∃ (vsr : List (Value → Heap → Prop)) (L' : List (Nat × Value)), vsr.length = rest.length ∧ Kp L' ∧
        (∀ t u, lk L' t = some u → (∃ j, dstOf l.toArray j = some t ∧ (vsp ++ vsr)[j]? = some (isV u)) ∨ lk L0 t = some u) ∧
        ∀ (i : Nat) (o : Oper), rest[i]? = some o → ∃ p, vsr[i]? = some p ∧ (∀ v A B, Heap.le A B → p v A → p v B) ∧ ∀ (a : Act) (w : World) (G' : Heap) (f : Nat → Bool), f (pre.length + i) = false → (∀ j, (ons o).elem j = true → f j = true) → Heap.le G G' → St w0 G0 K0 G' w (Mf f) → Env a N D L0 →
          (∀ j dj q, f j = true → dstOf l.toArray j = some dj → (vsp ++ vsr)[j]? = some q → ∃ v, a.tmps[dj]? = some v ∧ q v G') →
          wpList P l.toArray (Exit.then (fun a' w' => ∃ v G2, Heap.le G' G2 ∧ St w0 G0 K0 G2 w' (Mf (updF f (pre.length + i))) ∧ (∀ d, o.dst = some d → a'.tmps[d]? = some v) ∧ a'.defers = D ∧ p v G2) Q) [o] a w
  | [], pre, vsp, Lk, hl, hh, hv, hi, h => by
    cases h with
    | nil h => exact ⟨[], Lk, rfl, h, fun t u ht => (hi t u ht).imp (fun ⟨j, _, h1, h2⟩ => ⟨j, h1, by simpa using h2⟩) id, fun i o ho => by simp at ho⟩
  | o :: rest, pre, vsp, Lk, hl, hh, hv, hi, h => by
    have hin : o ∈ h' := hh.1 o List.mem_cons_self
    have hlt : pre.length < h'.length := by have := hh.2; simp at this; omega
    have hh2 : (∀ o ∈ rest, o ∈ h') ∧ (pre ++ [o]).length + rest.length ≤ h'.length := ⟨fun o ho => hh.1 o (List.mem_cons_of_mem _ ho), by have := hh.2; simp at this ⊢; omega⟩
    have envOf : ∀ (vsr : List (Value → Heap → Prop)) (a : Act) (w : World) (G' : Heap) (f : Nat → Bool), Env a N D L0 → (∀ j, (ons o).elem j = true → f j = true) → (∀ j dj q, f j = true → dstOf l.toArray j = some dj → (vsp ++ vsr)[j]? = some q → ∃ v, a.tmps[dj]? = some v ∧ q v G') → Env a N D (resE Lk (tmpsOf l.toArray o)) := by
      intro vsr a w G' f E ho hw
      refine ⟨E.size, E.defers, fun t u ht => ?_⟩
      obtain ⟨m1, m2⟩ := resE_get ht
      rcases hi t u m2 with ⟨j, h0, h1, h2⟩ | h1
      · obtain ⟨v, hv1, hv2⟩ := hw j t (isV u) (ho j (readsOk_spec hr hin m1 (by omega) h1)) h1 (by rw [List.getElem?_append_left (by omega)]; exact h2)
        rw [hv1, show v = u from hv2]
      · exact E.get t u h1
    have hk : l[pre.length]? = some o := by rw [hl]; simp
    cases h with
    | @cons _ _ _ _ d v hkm hd h k =>
      have hdk : dstOf l.toArray pre.length = some d := by unfold dstOf; simp [hk, hd]
      obtain ⟨vsr, L', e1, e2, e3, e4⟩ := DE.toldT Q hr tl rest (pre ++ [o]) (vsp ++ [isV v]) ((d, v) :: Lk) (by rw [hl]; simp) hh2 (by simp [hv]) (by
        intro t u ht
        rcases lk_cons ht with ⟨rfl, rfl⟩ | ⟨_, ht⟩
        · exact .inl ⟨pre.length, by simp, hdk, by simp [← hv]⟩
        · refine (hi t u ht).imp (fun ⟨j, h0, h1, h2⟩ => ⟨j, by simp; omega, h1, ?_⟩) id
          rw [List.getElem?_append_left (by omega)]; exact h2) (by simpa using k)
      refine ⟨isV v :: vsr, L', by simp [e1], e2, fun t u ht => by simpa using e3 t u ht, fun i o' ho' => ?_⟩
      cases i with
      | succ i =>
        obtain ⟨v', g1, g0, g2⟩ := e4 i o' (by simpa using ho')
        refine ⟨v', by simpa using g1, g0, fun a w G' f h1 h2 h3 h4 h5 h6 => ?_⟩
        have := g2 a w G' f (by simpa [Nat.add_assoc, Nat.add_comm 1 i] using h1) h2 h3 h4 h5 (by simpa using h6)
        simpa [Nat.add_assoc, Nat.add_comm 1 i] using this
      | zero =>
        simp only [List.getElem?_cons_zero, Option.some.injEq] at ho'
        subst ho'
        refine ⟨isV v, rfl, fun _ _ _ _ h => h, fun a w G' f hf ho hle S E hw => ?_⟩
        exact (h f).run _ [] a w G' hle (envOf _ a w G' f E ho hw) S (fun a' w' G2 h2 E2 S2 => ⟨v, G2, h2, by rw [Nat.add_zero, hkm]; exact S2, (fun d' hd' => by rw [hd] at hd'; cases hd'; exact E2.get d v (by simp [lk])), E2.defers, rfl⟩)
    | @eff _ _ _ _ hd h k =>
      obtain ⟨vsr, L', e1, e2, e3, e4⟩ := DE.toldT Q hr tl rest (pre ++ [o]) (vsp ++ [fun _ _ => True]) Lk (by rw [hl]; simp) hh2 (by simp [hv]) (by
        intro t u ht
        refine (hi t u ht).imp (fun ⟨j, h0, h1, h2⟩ => ⟨j, by simp; omega, h1, ?_⟩) id
        rw [List.getElem?_append_left (by omega)]; exact h2) (by simpa using k)
      refine ⟨(fun _ _ => True) :: vsr, L', by simp [e1], e2, fun t u ht => by simpa using e3 t u ht, fun i o' ho' => ?_⟩
      cases i with
      | succ i =>
        obtain ⟨v', g1, g0, g2⟩ := e4 i o' (by simpa using ho')
        refine ⟨v', by simpa using g1, g0, fun a w G' f h1 h2 h3 h4 h5 h6 => ?_⟩
        have := g2 a w G' f (by simpa [Nat.add_assoc, Nat.add_comm 1 i] using h1) h2 h3 h4 h5 (by simpa using h6)
        simpa [Nat.add_assoc, Nat.add_comm 1 i] using this
      | zero =>
        simp only [List.getElem?_cons_zero, Option.some.injEq] at ho'
        subst ho'
        refine ⟨fun _ _ => True, rfl, fun _ _ _ _ h => h, fun a w G' f hf ho hle S E hw => ?_⟩
        exact (h f hf ho).run _ [] a w G' hle (envOf _ a w G' f E ho hw) S (fun a' w' G2 h2 E2 S2 => ⟨.bool true, G2, h2, S2, (fun d' hd' => by rw [hd] at hd'; cases hd'), E2.defers, trivial⟩)
theorem w_det (n : Nat) {id : Nat} {l : List Oper} (Mf : (Nat → Bool) → List Chunk) [m : Mix P] (h0 : Mf (fun _ => false) = M) (hM : ∀ f, (∀ i, i < n → i < l.length → f i = true) → Mf f = M') (hb : (backOk l.toArray && (readsOk (l.take n) l && seqB l n)) = true)
    (h : DE P N D w0 G0 K0 l.toArray G Mf (fun L' => ∀ G', Le1 G G' → W P Q0 N D w0 G0 K0 (.ops l.toArray (l.drop n) :: s) G' L' M') 0 (l.take n) L) (hf : freshF (l.take n) L [] = true := by exact rfl) : W P Q0 N D w0 G0 K0 (.co (.region id l.toArray true) :: s) G L M := by
  refine W.of fun a w E S => ?_
  rw [Bool.and_eq_true, Bool.and_eq_true] at hb
  subst h0
  obtain ⟨vs, L', e1, e2, e3, e4⟩ := DE.toldT (aft P Q0 s) hb.2.1 (l.drop n) (l.take n) [] [] L (by simp) ⟨fun _ h => h, by simp⟩ rfl (fun t u h => .inr h) h
  simp only [List.nil_append, List.length_nil, Nat.zero_add] at e3 e4
  refine drawnSeq n (fun f G' w => Heap.le G G' ∧ St w0 G0 K0 G' w (Mf f)) vs m.h hb.1 hb.2.2 E ⟨Heap.le.refl _, S.drew⟩ hf (fun p hp v A B hAB h => ?_) ?_ ?_
  · obtain ⟨i, hi⟩ := List.mem_iff_getElem?.1 hp
    have hi' : i < (l.take n).length := by rw [← e1]; exact (List.getElem?_eq_some_iff.1 hi).1
    obtain ⟨q, g1, g0, _⟩ := e4 i (l.take n)[i] (List.getElem?_eq_getElem hi')
    rw [hi] at g1
    cases g1
    exact g0 v A B hAB h
  · have key : ∀ (r : List Oper) (us : List (Value → Heap → Prop)) (k : Nat), us.length = r.length → (∀ (i : Nat) (o : Oper), r[i]? = some o → ∃ p, us[i]? = some p ∧ (∀ v A B, Heap.le A B → p v A → p v B) ∧ ∀ (a : Act) (w : World) (G' : Heap) (f : Nat → Bool), f (k + i) = false → (∀ j, (ons o).elem j = true → f j = true) → Heap.le G G' → St w0 G0 K0 G' w (Mf f) → Env a N D L →
          (∀ j dj q, f j = true → dstOf l.toArray j = some dj → vs[j]? = some q → ∃ v, a.tmps[dj]? = some v ∧ q v G') →
          wpList P l.toArray (Exit.then (fun a' w' => ∃ v G2, Heap.le G' G2 ∧ St w0 G0 K0 G2 w' (Mf (updF f (k + i))) ∧ (∀ d, o.dst = some d → a'.tmps[d]? = some v) ∧ a'.defers = D ∧ p v G2) (aft P Q0 s)) [o] a w) →
        AllF (StepF P (aft P Q0 s) N D L (fun f G' w => Heap.le G G' ∧ St w0 G0 K0 G' w (Mf f)) l vs []) k r us := by
      intro r
      induction r with
      | nil => intro us k hu _; cases us with
        | nil => trivial
        | cons _ _ => simp at hu
      | cons o r ih =>
        intro us k hu hx
        cases us with
        | nil => simp at hu
        | cons u us =>
          obtain ⟨v, g1, _, g2⟩ := hx 0 o rfl
          simp only [List.getElem?_cons_zero, Option.some.injEq] at g1
          subst g1
          refine ⟨fun a w G' f hc hfi hon hW E' hv hO => ?_, ih us (k + 1) (by simpa using hu) (fun i o' ho' => by have := hx (i + 1) o' (by simpa using ho'); simpa [Nat.add_assoc, Nat.add_comm 1 i] using this)⟩
          refine wpList_mono (fun e a' w' he => ?_) (g2 a w G' f (by simpa using hfi) hon hW.1 hW.2 E' (fun j dj q hj hdj hq => hv j dj q hj hdj hq))
          cases e with
          | normal =>
            obtain ⟨v, G2, h1, h2, h3, h4, h5⟩ := he
            exact ⟨v, G2, h1, ⟨hW.1.trans h1, by simpa using h2⟩, h3, h4, h5⟩
          | _ => exact he
    exact key (l.take n) vs 0 e1 (fun i o ho => by have := e4 i o ho; simpa using this)
  · intro a w G' f hle hall hW E' hv
    refine (e2 G' ⟨hle⟩).run a w ⟨E'.size, E'.defers, fun t u ht => ?_⟩ (by rw [← hM f hall]; exact hW.2)
    rcases e3 t u ht with ⟨j, h1, h2⟩ | h1
    · obtain ⟨x, hx1, hx2⟩ := hv j t (isV u) h1 h2
      rw [hx1, show x = u from hx2]
    · exact E'.get t u h1
theorem e_stA {b off n T : Nat} {Lb : List (Nat × Value)} {cs : Array Value} {M' : List Chunk} {Lb' : List (Nat × Value)} [h : HasTb P tb] (hx : ev L x = some (.pointer (some ⟨b, off, none⟩))) (hy : ev L y = some (.agg cs)) (ht : look1 tb.ag t = some n) (hm : RepM b (Cells T Lb) (Cells T Lb') M M') (hn : n = cs.toList.length) (h1 : cs.toList.all one = true) (hU : UpdN Lb off cs.toList Lb') : StE P N D w0 G0 K0 ops G L M M' ⟨none, .store t x y, ty, pos, af, none⟩ :=
  ⟨rfl, fun Q rest a w G1 hl E S k => by
    obtain ⟨A, X, Y, B, rfl, rfl⟩ := hm.split
    obtain ⟨us, hus⟩ := hU.had
    refine o_stA (M' := A ++ (X ++ (b, Cells T (enum off cs.toList ++ Lb)) :: Y) :: B) E S hx hy h1 (by subst hn; exact tb_ag h ht) (RepM.mk' A X Y B) hus fun w' S' => k a w' G1 (Heap.le.refl _) E ?_
    exact S'.turnP (RepM.mk' A X Y B) fun o ⟨c, e, hc⟩ => ⟨c, e, fun t x ht => hc t x (hU.look t x ht)⟩⟩
end
end Go.Proofs.YtngoaapgdfohjaaGreatDoor.X

set_option linter.unusedVariables false
set_option linter.unusedSimpArgs false
namespace Go.Proofs.YtngoaapgdfohjaaGreatDoor.X
open Go
/-! ## A range over a text -/
def Iter (s : Bs) (pos : Nat) : Obj → Prop := fun o => o = .stringIter ⟨s.toArray⟩ pos
section
variable {P : Program} {Q0 : Exit → Act → World → Prop} {N : Nat} {D : List Deferred} {w0 : World} {G0 : Heap} {K0 : List Nat} {s : List Itm} {G G1 : Heap} {L L' : List (Nat × Value)} {M M' R0 : List Chunk} {ops all : Array Oper} {o : Oper} {d : Nat} {v : Value} {rest : List Oper}
variable {ty : TypeId} {pos : String} {af : Array Edge} {x y z : Operand} {t : Nat} {tb : Tb}
theorem run_nextW (w : World) (b : Nat) (s : ByteArray) (p : Nat) (ty : TypeId) (hb : w.heap[b]? = some (.stringIter s p)) (h : p < s.size) :
    (Instr.next (.pointer (some ⟨b, 0, none⟩)) true ty).run P w = .ok (.tuple #[.bool true, .int .i64 p, .int .i32 (Utf8.decode s p).1]) { w with heap := w.heap.setIfInBounds b (.stringIter s (p + (Utf8.decode s p).2)) } := by
  have hb' : b < w.heap.size := (Array.getElem?_eq_some_iff.1 hb).1
  simp only [Instr.next, getObj, setObj, Sem.run_bind, Sem.run, hb, Result.andThen, h, if_true]
  simp [goInt, Sem.run, hb, hb']
theorem run_nextE (w : World) (b : Nat) (s : ByteArray) (p : Nat) (ty : TypeId) (hb : w.heap[b]? = some (.stringIter s p)) (h : ¬ p < s.size) :
    (Instr.next (.pointer (some ⟨b, 0, none⟩)) true ty).run P w = .ok (.tuple #[.bool false]) w := by
  simp [Instr.next, getObj, Sem.run, hb, h]
theorem w_range {r : Bs} [h : HasTb P tb] (hN : Nat.blt d N = true) (hx : ev L x = some (str r)) (ht : tb.st.elem t = true)
    (k : ∀ b, W P Q0 N D w0 G0 K0 (.ops all rest :: s) G ((d, .pointer (some ⟨b, 0, none⟩)) :: L) ([(b, Iter r 0)] :: M)) : W P Q0 N D w0 G0 K0 (.ops all (⟨some d, .range t x, ty, pos, af, none⟩ :: rest) :: s) G L M :=
  W.of fun a w E S => by
    show wpList P all (aft P Q0 s) (⟨some d, .range t x, ty, pos, af, none⟩ :: rest) a w
    exact op_val (w' := w.alloc (.stringIter ⟨r.toArray⟩ 0)) (v := .pointer (some ⟨w.heap.size, 0, none⟩)) rfl rfl E hN
      (by simp [execOp, E.eval hx, run_range_string w t _ (tb_st h ht), World.iter]) fun a' E' => (k _).run a' _ E' (S.alloc _ rfl)
theorem St.iter {w : World} {b : Nat} {r : Bs} {p : Nat} (h : St w0 G0 K0 G w M) (hm : InM M b (Iter r p)) : w.heap[b]? = some (.stringIter ⟨r.toArray⟩ p) := by
  obtain ⟨o, h1, rfl⟩ := h.mem _ hm.mem
  exact h1
theorem p_nextE {r : Bs} {p b : Nat} (hN : Nat.blt d N = true) (hx : ev L x = some (.pointer (some ⟨b, 0, none⟩))) (hm : InM M b (Iter r p)) (hp : r.length ≤ p) : Stp P N D w0 G0 K0 ops G L M ⟨some d, .next x true, ty, pos, af, none⟩ d (.tuple #[.bool false]) :=
  Stp.pure fun Q rest a w G2 hl2 E S kk => op_val rfl rfl E hN (by
    have hb := S.iter hm
    have hs : ¬ p < (ByteArray.mk r.toArray).size := by simp [ByteArray.size]; omega
    simp [execOp, E.eval hx, run_nextE w b _ p ty hb hs]) kk
theorem w_next {r : Bs} {p b : Nat} {M' : List Chunk} (hN : Nat.blt d N = true) (hx : ev L x = some (.pointer (some ⟨b, 0, none⟩))) (hp : p < r.length) (hm : RepM b (Iter r p) (Iter r (p + (Utf8.decode ⟨r.toArray⟩ p).2)) M M')
    (k : W P Q0 N D w0 G0 K0 (.ops all rest :: s) G ((d, .tuple #[.bool true, .int .i64 p, .int .i32 (Utf8.decode ⟨r.toArray⟩ p).1]) :: L) M') : W P Q0 N D w0 G0 K0 (.ops all (⟨some d, .next x true, ty, pos, af, none⟩ :: rest) :: s) G L M :=
  W.of fun a w E S => by
    obtain ⟨A, X, Y, B, rfl, rfl⟩ := hm.split
    have hb := S.iter (InM.mk' A X Y B)
    have hb' : b < w.heap.size := (Array.getElem?_eq_some_iff.1 hb).1
    have hs : p < (ByteArray.mk r.toArray).size := by simp [ByteArray.size]; omega
    show wpList P all (aft P Q0 s) (⟨some d, .next x true, ty, pos, af, none⟩ :: rest) a w
    refine op_val (w' := { w with heap := w.heap.setIfInBounds b (.stringIter ⟨r.toArray⟩ (p + (Utf8.decode ⟨r.toArray⟩ p).2)) }) rfl rfl E hN ?_ fun a' E' => k.run a' _ E' ?_
    · simp [execOp, E.eval hx, run_nextW w b _ p ty hb hs]
    · refine St.turn S rfl rfl rfl (by simp) (fun k hk => ?_) ⟨_, ?_, rfl⟩
      · show (w.heap.setIfInBounds b _)[k]? = _
        rw [Array.getElem?_setIfInBounds_ne (fun e => hk e.symm)]
      · show (w.heap.setIfInBounds b _)[b]? = _
        simp [hb']
end
end Go.Proofs.YtngoaapgdfohjaaGreatDoor.X
