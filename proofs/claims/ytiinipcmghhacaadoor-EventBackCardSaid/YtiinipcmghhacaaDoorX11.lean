/- Events, histories and policies, opened out of an argument. -/
import Derived.Test.YtiinipcmghhacaaDoorX10
set_option linter.unusedVariables false
set_option linter.unusedSimpArgs false
namespace Go.Proofs.YtiinipcmghhacaaDoor.X
open Go
/-! ## The program's own kinds, opened -/
abbrev I64 (n : Int) : Prop := -9223372036854775808 ≤ n ∧ n ≤ 9223372036854775807
theorem i64_of {n : Int} (h : (Lit.int .i64 n).wf = true) : I64 n := bounds_i64 h
structure Val.Wf (v : Val) : Prop where
  k : I64 v.k
  n : I64 v.n
  s : v.s.length ≤ 9223372036854775807
structure Evt.Wf (e : Evt) : Prop where
  time : I64 e.time
  client : e.client.Wf
  type : I64 e.type
  model : I64 e.model
  key : e.key.Wf
  op : I64 e.op
  argsLen : e.args.length ≤ 9223372036854775807
  args : ∀ v ∈ e.args, v.Wf
  outLen : e.out.length ≤ 9223372036854775807
  out : ∀ v ∈ e.out, v.Wf
  note : e.note.length ≤ 9223372036854775807
structure Rul.Wf (r : Rul) : Prop where
  way : I64 r.way
  size : I64 r.size
structure Pol.Wf (p : Pol) : Prop where
  r0 : p.r0.Wf
  r1 : p.r1.Wf
  r2 : p.r2.Wf
  r3 : p.r3.Wf
  r4 : p.r4.Wf
  time : I64 p.time
  note : I64 p.note
theorem list_of {α : Type} {q : Nat → α → Prop} : ∀ (n : Nat), (∀ i, i < n → ∃ a, q i a) → ∃ xs : List α, xs.length = n ∧ ∀ i a, xs[i]? = some a → q i a
  | 0, _ => ⟨[], rfl, by simp⟩
  | n + 1, h => by
    obtain ⟨xs, h1, h2⟩ := list_of n fun i hi => h i (by omega)
    obtain ⟨a, ha⟩ := h n (by omega)
    refine ⟨xs ++ [a], by simp [h1], fun i b hb => ?_⟩
    rw [List.getElem?_append] at hb
    split at hb
    · exact h2 i b hb
    · rename_i hi
      have : i - xs.length < 1 := by
        have := (List.getElem?_eq_some_iff.1 hb).1
        simpa using this
      have e : i = n := by omega
      subst e
      rw [h1, Nat.sub_self] at hb
      simp at hb
      exact hb ▸ ha
section
variable {H : Type} {enc : TypeId × Value → H} {P : Program} {w : World} {base : Nat} {spare : Nat → Bool} {held : Bool}
theorem LfOk.list {α : Type} {K : Knd α} {e : TypeId} {p : α → Prop} (hK : ∀ n cs x, DataW.trod enc P w base spare held n e cs = some x → ∃ a, p a ∧ K.R (hp w) a cs) (hsz : P.cellsOf e = K.sz) {v : Value} (h : LfOk enc P w base spare held (.sl e) v) :
    ∃ A xs c, v = .slice A xs.length c ∧ xs.length ≤ c ∧ c ≤ 9223372036854775807 ∧ (∀ a ∈ xs, p a) ∧ Rd K (hp w) A xs := by
  obtain ⟨A, len, cap, rfl, hl, hm, hel⟩ := h
  cases len with
  | zero => exact ⟨A, [], cap, rfl, Nat.zero_le _, hm, by simp, .inl rfl⟩
  | succ len =>
    obtain ⟨b, o, rfl, n, hel⟩ := hel (Nat.succ_pos _)
    obtain ⟨xs, h1, h2⟩ := list_of (α := α) (q := fun i a => p a ∧ ElAt K (hp w) b (o + i * K.sz) a) (len + 1) fun i hi => by
      obtain ⟨cs, x, hc, _, ht⟩ := hel i hi
      obtain ⟨a, ha, hr⟩ := hK _ _ _ ht
      exact ⟨a, ha, cs, hr, hsz ▸ hc⟩
    refine ⟨_, xs, cap, by rw [h1], by omega, hm, fun a ha => ?_, .inr ⟨b, o, rfl, fun i x hi => (h2 i x hi).2⟩⟩
    obtain ⟨i, hi⟩ := List.mem_iff_getElem?.1 ha
    exact (h2 i a hi).1
theorem open_val {t : TypeId} (ht : leaves P 9 t = some [.int .i64, .int .i64, .str]) {n : Nat} {cs : List Value} {x : DataW H × List MemPlace} (h : DataW.trod enc P w base spare held n t cs = some x) : ∃ a : Val, a.Wf ∧ kVal.R (hp w) a cs := by
  obtain ⟨v1, r1, rfl, ⟨k, rfl, h1⟩, v2, r2, rfl, ⟨m, rfl, h2⟩, v3, r3, rfl, ⟨s, rfl, h3⟩, rfl⟩ := leafs_of _ _ _ ht _ _ _ h
  exact ⟨⟨k, m, s⟩, ⟨i64_of h1, i64_of h2, h3⟩, rfl⟩
theorem open_evt {t tv : TypeId} (htv : leaves P 9 tv = some [.int .i64, .int .i64, .str]) (hs : P.cellsOf tv = 3) (ht : leaves P 9 t = some [.int .i64, .int .i64, .int .i64, .str, .int .i64, .int .i64, .int .i64, .int .i64, .str, .int .i64, .sl tv, .sl tv, .bool, .str])
    {n : Nat} {cs : List Value} {x : DataW H × List MemPlace} (h : DataW.trod enc P w base spare held n t cs = some x) : ∃ a : Evt, a.Wf ∧ kEvt.R (hp w) a cs := by
  obtain ⟨v0, r0, rfl, ⟨time, rfl, h0⟩, v1, r1, rfl, ⟨k1, rfl, h1⟩, v2, r2, rfl, ⟨n1, rfl, h2⟩, v3, r3, rfl, ⟨s1, rfl, h3⟩, v4, r4, rfl, ⟨ty, rfl, h4⟩, v5, r5, rfl, ⟨mo, rfl, h5⟩,
    v6, r6, rfl, ⟨k2, rfl, h6⟩, v7, r7, rfl, ⟨n2, rfl, h7⟩, v8, r8, rfl, ⟨s2, rfl, h8⟩, v9, r9, rfl, ⟨op, rfl, h9⟩, v10, r10, rfl, h10, v11, r11, rfl, h11, v12, r12, rfl, ⟨noted, rfl⟩, v13, r13, rfl, ⟨note, rfl, h13⟩, rfl⟩ := leafs_of _ _ _ ht _ _ _ h
  obtain ⟨A1, xs1, c1, rfl, g1, g2, g3, g4⟩ := h10.list (K := kVal) (p := Val.Wf) (fun n cs x h => open_val htv h) hs
  obtain ⟨A2, xs2, c2, rfl, g5, g6, g7, g8⟩ := h11.list (K := kVal) (p := Val.Wf) (fun n cs x h => open_val htv h) hs
  exact ⟨⟨time, ⟨k1, n1, s1⟩, ty, mo, ⟨k2, n2, s2⟩, op, xs1, xs2, noted, note⟩, ⟨i64_of h0, ⟨i64_of h1, i64_of h2, h3⟩, i64_of h4, i64_of h5, ⟨i64_of h6, i64_of h7, h8⟩, i64_of h9, by dsimp only; omega, g3, by dsimp only; omega, g7, h13⟩,
    ⟨A1, c1, A2, c2, rfl, g1, g4, g5, g8⟩⟩
theorem open_hist {t te tv : TypeId} (htv : leaves P 9 tv = some [.int .i64, .int .i64, .str]) (hs : P.cellsOf tv = 3) (hte : leaves P 9 te = some [.int .i64, .int .i64, .int .i64, .str, .int .i64, .int .i64, .int .i64, .int .i64, .str, .int .i64, .sl tv, .sl tv, .bool, .str]) (hse : P.cellsOf te = 14) (ht : leaves P 9 t = some [.sl te])
    {v : Value} {d : DataW H} {ps : List MemPlace} (h : DataW.Trod enc P w base spare held t v d ps) (hv : v.cells = #[v]) : ∃ A xs c, v = .slice A xs.length c ∧ xs.length ≤ c ∧ c ≤ 9223372036854775807 ∧ (∀ a ∈ xs, a.Wf) ∧ Rd kEvt (hp w) A xs := by
  obtain ⟨n, h⟩ := h
  rw [hv] at h
  obtain ⟨u, r, e, h1, rfl⟩ := leafs_of _ _ _ ht _ _ _ h
  simp at e
  subst e
  exact h1.list (fun n cs x h => open_evt htv hs hte h) hse
theorem open_pol {t : TypeId} (ht : leaves P 9 t = some [.int .i64, .int .i64, .int .i64, .int .i64, .int .i64, .int .i64, .int .i64, .int .i64, .int .i64, .int .i64, .int .i64, .int .i64, .bool, .bool]) {v : Value} {d : DataW H} {ps : List MemPlace} (h : DataW.Trod enc P w base spare held t v d ps) {xs : Array Value} (hv : v = .agg xs) :
    ∃ p : Pol, p.Wf ∧ v = .agg (polCells p).toArray := by
  obtain ⟨n, h⟩ := h
  subst hv
  obtain ⟨v0, r0, e, ⟨a0, rfl, h0⟩, v1, r1, rfl, ⟨a1, rfl, h1⟩, v2, r2, rfl, ⟨a2, rfl, h2⟩, v3, r3, rfl, ⟨a3, rfl, h3⟩, v4, r4, rfl, ⟨a4, rfl, h4⟩, v5, r5, rfl, ⟨a5, rfl, h5⟩, v6, r6, rfl, ⟨a6, rfl, h6⟩, v7, r7, rfl, ⟨a7, rfl, h7⟩,
    v8, r8, rfl, ⟨a8, rfl, h8⟩, v9, r9, rfl, ⟨a9, rfl, h9⟩, v10, r10, rfl, ⟨a10, rfl, h10⟩, v11, r11, rfl, ⟨a11, rfl, h11⟩, v12, r12, rfl, ⟨b0, rfl⟩, v13, r13, rfl, ⟨b1, rfl⟩, rfl⟩ := leafs_of _ _ _ ht _ _ _ h
  refine ⟨⟨⟨a0, a1⟩, ⟨a2, a3⟩, ⟨a4, a5⟩, ⟨a6, a7⟩, ⟨a8, a9⟩, a10, a11, b0, b1⟩, ⟨⟨i64_of h0, i64_of h1⟩, ⟨i64_of h2, i64_of h3⟩, ⟨i64_of h4, i64_of h5⟩, ⟨i64_of h6, i64_of h7⟩, ⟨i64_of h8, i64_of h9⟩, i64_of h10, i64_of h11⟩, ?_⟩
  exact congrArg Value.agg (Array.toList_inj.1 e)
/-- What a call's end tells of the old memory. -/
theorem Aft.below {W W' : World} {G G' : Heap} {M : Chunk} (h : Aft W G [] W' G' M) : RowKit.Below W.heap.size W W' :=
  ⟨h.os, h.tape, h.output, h.size, fun k hk => h.kept k hk (by simp)⟩
theorem sub_hp {W : World} : Sub (hp W) W := fun _ _ h => h
end
end Go.Proofs.YtiinipcmghhacaaDoor.X
