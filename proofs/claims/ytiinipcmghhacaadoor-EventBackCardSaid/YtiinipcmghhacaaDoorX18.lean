/- A range over a function whose iterator keeps cells; rows told of the world's shape. -/
import Derived.Test.YtiinipcmghhacaaDoorX17
import Derived.RangeFuncFrom
import Derived.RangeFuncBox
import Derived.RangeFuncLeaves
import Derived.SizedLaws
set_option linter.unusedVariables false
set_option linter.unusedSimpArgs false
namespace Go.Proofs.YtiinipcmghhacaaDoor.X
open Go Go.RowKit
/-! ## A range over a function whose iterator keeps a state in cells -/
/-- What a round's end says of the loop's record. -/
abbrev recOf (fn : FuncId) (tmps : Array Value) (ps : Array Tmp) (assign body : Code) (D : Nat) (s : LoopState) (p : Option Code) : Obj := .loop { state := s, pending := p, fn := fn, tmps := tmps, params := ps, assign := assign, body := body, defers := D }
/-- How a round may be left. -/
def roundEnd {α : Type} (I : List α → World → Prop) (Ix : Code → List α → World → Prop) (xs : List α) (W : World) : Exit → Act → World → Prop
  | .normal, _, V => KeepsOthers W V ∧ I xs V
  | .ret, _, V => KeepsOthers W V ∧ Ix .ret xs V
  | _, _, _ => False
theorem range_cells {α : Type} {P : Program} {n : Nat} {g : Operand} {ps : Array Tmp} {assign body : Code} {Q : Exit → Act → World → Prop} {a : Act} {w : World} {gf : Nat} {lb : Array Value}
    (hg : a.eval g = .func (.func gf) #[] lb) (eg : ∀ args w, (callFunc gf args).run P w = .ok (.enter gf args) w) {encs : α → Array Value} (hps : ∀ x, (encs x).size = ps.size) {N : Nat} {S Sp : List α → Prop}
    (I : List α → World → Prop) (Ix : Code → List α → World → Prop) (hI : OwnFrom w.heap.size I) (hIx : ∀ c, OwnFrom w.heap.size (Ix c)) (h0 : I [] w) (a₁ : α → Act)
    (hiter : ∀ (l : Nat) (K : World → Prop) (Kx : List α → World → Prop) (W : World), (∀ A B, KeepsOthers A B → K A → K B) →
      (∀ pre x V, I pre V → K V → pre.length < N → YieldAt Fence.wide (n - 1 - 1) P l (encs x) V fun e V' =>
        (e = .returned (.bool true) ∧ I (pre ++ [x]) V' ∧ K V') ∨ (e = .returned (.bool false) ∧ Kx (pre ++ [x]) V')) →
      (∀ (k : Nat) (o : Obj), w.heap[k]? = some o → W.heap[k]? = some o) → I [] W → K W → CallsIn Fence.wide (n - 1) P gf (#[.func (.yield l) #[] #[]] ++ lb) W fun e V => (∃ v, e = .returned v) ∧ ((∃ xs, S xs ∧ I xs V ∧ K V) ∨ (∃ pre, Sp pre ∧ Kx pre V)))
    (hassign : ∀ (l : Nat) (x : α) (W : World) (K : Act → World → Prop), K (a₁ x) W →
      assign.wpIn (Fence.wide.inRound l) (n - 1 - 1) P (Exit.then K (fun _ _ _ => False)) { tmps := (ps.zip (encs x)).foldl (fun t (p, v) => t.setIfInBounds p v) a.tmps, defers := [] } W)
    (hbody : ∀ (l : Nat) (pre : List α) (x : α) (W : World), I pre W → pre.length < N → body.wpIn (Fence.wide.inRound l) (n - 1 - 1) P (roundEnd I Ix (pre ++ [x]) W) (a₁ x) W)
    (hdone : ∀ (D : Nat) (xs : List α) (W : World), w.heap.size ≤ D → S xs → I xs W → W.heap[D]? = some (.deferred (some [])) → Q .normal { a with defers := { target := .collected D, args := #[] } :: a.defers } W)
    (hstop : ∀ (D : Nat) (pre : List α) (W : World), w.heap.size ≤ D → Sp pre → Ix .ret pre W → W.heap[D]? = some (.deferred (some [])) → Q .ret { a with defers := { target := .collected D, args := #[] } :: a.defers } W) :
    (Code.rangeFunc g ps assign body).wpIn Fence.wide n P Q a w := by
  refine wpIn_rangeFunc fun fn _ => ?_
  have hD : (((w.alloc (.deferred (some []))).alloc (recOf fn a.tmps ps assign body w.heap.size .ready none))).heap[w.heap.size]? = some (.deferred (some [])) :=
    (Below.heap_alloc _ _ _ (by simp)).trans (World.alloc_heap_new w _)
  have hL : (((w.alloc (.deferred (some []))).alloc (recOf fn a.tmps ps assign body w.heap.size .ready none))).heap[w.heap.size + 1]? = some (recOf fn a.tmps ps assign body w.heap.size .ready none) := by
    have := World.alloc_heap_new (w.alloc (.deferred (some []))) (recOf fn a.tmps ps assign body w.heap.size .ready none)
    rwa [World.size_alloc] at this
  refine ⟨_, _, _, { target := .fn (.func gf) lb, args := #[.func (.yield (w.heap.size + 1)) #[] #[]] }, ((w.alloc (.deferred (some []))).alloc (recOf fn a.tmps ps assign body w.heap.size .ready none)), gf, #[.func (.yield (w.heap.size + 1)) #[] #[]] ++ lb, ((w.alloc (.deferred (some []))).alloc (recOf fn a.tmps ps assign body w.heap.size .ready none)), run_enterLoop_outer fn a.tmps ps assign body, ?_, fun _ _ => trivial, ?_, (fun h => absurd h (by decide)), ?_⟩
  · simp only [resolve, hg]
    simp [go_sem]
  · simp [invoke, go_sem, eg]
  refine (hiter (w.heap.size + 1) (fun W => W.heap[w.heap.size + 1]? = some (recOf fn a.tmps ps assign body w.heap.size .ready none) ∧ W.heap[w.heap.size]? = some (.deferred (some [])))
    (fun xs W => Ix .ret xs W ∧ W.heap[w.heap.size + 1]? = some (recOf fn a.tmps ps assign body w.heap.size .done (some .ret)) ∧ W.heap[w.heap.size]? = some (.deferred (some [])))
    _ (fun A B hk hK => ⟨hk.same _ _ hK.1 rfl, hk.same _ _ hK.2 rfl⟩) ?_ (fun k o h => ((Below.heap_alloc _ _ _ (by have := (Array.getElem?_eq_some_iff.1 h).1; simp; omega)).trans (Below.heap_alloc _ _ _ (Array.getElem?_eq_some_iff.1 h).1)).trans h) (hI.alloc _ (hI.alloc _ h0)) ⟨hL, hD⟩).mono ?_
  · rintro pre x V hi ⟨hl, hd⟩ hlen
    have hlt := (Array.getElem?_eq_some_iff.1 hl).1
    refine ⟨fn, _, assign, body, run_yield (P := P) (args := encs x) hl (hps x), roundIn_of_wpIn trivial (hassign _ x V _ ⟨_, run_beginRound hl rfl, ?_⟩)⟩
    have hl2 : (V.putObj (w.heap.size + 1) (recOf fn a.tmps ps assign body w.heap.size .busy none)).heap[w.heap.size + 1]? = some (recOf fn a.tmps ps assign body w.heap.size .busy none) := World.putObj_heap_same hlt
    have hd2 : (V.putObj (w.heap.size + 1) (recOf fn a.tmps ps assign body w.heap.size .busy none)).heap[w.heap.size]? = some (.deferred (some [])) := (World.putObj_heap_other (by omega)).trans hd
    refine wpIn_mono (hbody _ pre x _ (hI.putObj _ hi (by omega) hl rfl) hlen) ?_
    intro e a3 V3 he
    cases e with
    | normal =>
      obtain ⟨hk, hi3⟩ := he
      have h3 := hk.same _ _ hl2 rfl
      exact ⟨_, _, run_endRound none h3, .inl ⟨rfl, hI.putObj _ hi3 (by omega) h3 rfl, World.putObj_heap_same (Array.getElem?_eq_some_iff.1 h3).1, (World.putObj_heap_other (by omega)).trans (hk.same _ _ hd2 rfl)⟩⟩
    | ret =>
      obtain ⟨hk, hi3⟩ := he
      have h3 := hk.same _ _ hl2 rfl
      exact ⟨_, _, run_endRound (some .ret) h3, .inr ⟨rfl, (hIx _).putObj _ hi3 (by omega) h3 rfl, World.putObj_heap_same (Array.getElem?_eq_some_iff.1 h3).1, (World.putObj_heap_other (by omega)).trans (hk.same _ _ hd2 rfl)⟩⟩
    | exit => exact he.elim
    | goto => exact he.elim
    | panic => exact he.elim
    | outgrown => exact he.elim
  · rintro e V ⟨⟨v, rfl⟩, ⟨xs, hS, hi, hl, hd⟩ | ⟨pre, hS, hi, hl, hd⟩⟩
    · exact ⟨_, _, run_endLoop (P := P) hl (by simp), hdone _ xs _ (Nat.le_refl _) hS (hI.putObj _ hi (by omega) hl rfl) ((World.putObj_heap_other (by omega)).trans hd)⟩
    · exact ⟨_, _, run_endLoop (P := P) hl (by simp), wpIn_ret (hstop _ pre _ (Nat.le_refl _) hS ((hIx _).putObj _ hi (by omega) hl rfl) ((World.putObj_heap_other (by omega)).trans hd))⟩
/-! ## A row of one's own, handed back -/
theorem listR_s (G : Heap) : ∀ xs : List Bs, ListR Knd.s G xs (xs.map str)
  | [] => rfl
  | x :: xs => ⟨rfl, listR_s G xs⟩
theorem Aft.ofRow {α : Type} {K : Knd α} {w w' : World} {G : Heap} {e : TypeId} {v : Value} {xs : List α} {cs : List Value} (hG : Sub G w) (hb : Below w.heap.size w w') (hr : w'.ownsRow w.heap.size e K.sz v xs.length cs) (hn : cs.length = cs.length) (hL : ListR K G xs cs) :
    ∃ G' A c, Aft w G [] w' G' [] ∧ v = .slice A xs.length c ∧ xs.length ≤ c ∧ Rd K G' A xs := by
  obtain ⟨_, ⟨rfl, h0⟩ | ⟨g, cap, cur, rfl, hg, hh, hc, _, _, ht⟩⟩ := hr
  · have : xs = [] := List.eq_nil_of_length_eq_zero h0
    subst this
    exact ⟨G, none, 0, Aft.ofBelow hG hb, rfl, Nat.le_refl _, .nil⟩
  · have hgn : G g = none := by
      cases hq : G g with
      | none => rfl
      | some o => have := hG.lt hq; omega
    have hle : Heap.le G (fun k => if k = g then some (.cells cur e (0, 0)) else G k) := fun b o h => by
      have : b ≠ g := fun e => by rw [e, hgn] at h; cases h
      simp [this, h]
    refine ⟨fun k => if k = g then some (.cells cur e (0, 0)) else G k, _, _, ⟨hb.os, hb.tape, hb.output, hb.size, fun b h _ => hb.block b h, hle, fun b o h => ?_, fun b o h => ?_, by simp, by simp, by simp, by simp⟩, rfl, hc, ?_⟩
    · by_cases e : b = g
      · subst e; exact .inr (.inl hg)
      · simp only [if_neg e] at h; exact .inl h
    · by_cases e : b = g
      · subst e
        simp only [if_true] at h
        rw [hh]; exact h
      · simp only [if_neg e] at h
        exact (hb.block b (hG.lt h)).trans (hG b o h)
    · refine Rd.ofCells (cs := cs) ?_ (hL.le hle)
      intro k u hk
      rw [← ht, List.getElem?_take] at hk
      split at hk
      · simp only [Heap.cell, if_true]
        simpa using hk
      · cases hk
/-! ## A plain row whose walk is told that the world is well shaped -/
theorem cellsAt_of {W : World} {G : Heap} {b : Nat} {v : Value} (hG : ∀ k, G k = W.heap[k]?) (h : W.cell? ⟨b, 0, none⟩ = some v) : CellsAt G b 0 [v] := by
  intro k u hk
  match k, hk with
  | 0, hk =>
    cases hk
    unfold World.cell? at h
    unfold Heap.cell
    rw [hG]
    exact h
section
variable {H : Type} {enc : TypeId × Value → H}
theorem returns_shaped6 {a : Assume} {C : Checked} {os : Os} {f : FuncId} {fn : Func} {s : ChangeSpec} {conds : List PathCond} {apart fresh handsOn again : Bool}
    (own : ownKnob C.prog.godebug = none) (started : os.Started) (noInit : C.prog.inits.idxOf? f = none) (hfn : C.prog.funcs[f]? = some fn)
    (witness : ∃ (w : World) (tape : Tape) (i : Input), w.os = os ∧ (w.forCall tape i).Shaped C.prog ∧ i.vars = [] ∧ Input.okWide C.prog (w.forCall tape i) .any w.heap.size f i ∧
      s.pre6 enc C.prog fn conds apart (w.forCall tape i).memory i.args ∧ a.holds C.prog (lone (Frame.enter C.prog f i.args .normal) [] (w.forCall tape i)))
    (walk : ∀ (W : World) (base : Nat) (args : Array Value) (ds gs : List (DataW H)) (before : List MemPlace),
      (∀ (j : Nat) t v, fn.params[j]? = some t → args[j]? = some v → Value.okWide C.prog W .any base t v) →
      DataW.Whole enc C.prog fn.params.toList s.vars apart W args.toList ds gs before →
      conds.all (PathCond.test C.prog ⟨fn.params.toList, ds, s.plain.varTypes C.prog, gs⟩) = true →
      (DataW.weightsEach C.prog (fn.params.toList ++ s.plain.varTypes C.prog) (ds ++ gs)).all (· ≤ reachBytes) = true → W.ShapedOpen C.prog →
      Calls C.prog f args W fun e W' => ∃ v, e = .returned v ∧ s.post enc C.prog fn apart fresh handsOn again W args v W') :
    ReturnsInHanded a C os f .any (s.pre6 enc C.prog fn conds apart) (s.post enc C.prog fn apart fresh handsOn again) :=
  returnsInHanded_of_calls own started noInit witness fun w tape i _ hsh _ hok hpre _ => by
    obtain ⟨_, _, _, fn2, hfn2, _, _, _, _, hval⟩ := hok
    cases Option.some.inj (hfn2.symm.trans hfn)
    obtain ⟨⟨ds, gs, bf, hw, hc⟩, hz⟩ := hpre
    exact (walk _ w.heap.size i.args ds gs bf hval (DataW.Whole.of_heap (w' := w.forCall tape i) (by rfl) hw) hc (hz.weights hw) hsh).mono fun e V ⟨v, he, hp⟩ => by
      cases he
      exact ChangeSpec.post_blind hp
end
/-! ## A slice of texts, opened out of an argument -/
section
variable {H : Type} {enc : TypeId × Value → H} {P : Program} {w : World} {base : Nat} {spare : Nat → Bool} {held : Bool}
theorem open_text {t : TypeId} (ht : leaves P 9 t = some [.str]) {n : Nat} {cs : List Value} {x : DataW H × List MemPlace} (h : DataW.trod enc P w base spare held n t cs = some x) : ∃ a : Bs, a.length ≤ 9223372036854775807 ∧ Knd.s.R (hp w) a cs := by
  obtain ⟨v1, r1, rfl, ⟨s, rfl, h1⟩, rfl⟩ := leafs_of _ _ _ ht _ _ _ h
  exact ⟨s, h1, rfl⟩
theorem open_strs {t te : TypeId} (hte : leaves P 9 te = some [.str]) (hse : P.cellsOf te = 1) (ht : leaves P 9 t = some [.sl te])
    {v : Value} {d : DataW H} {ps : List MemPlace} (h : DataW.Trod enc P w base spare held t v d ps) (hv : v.cells = #[v]) : ∃ A xs c, v = .slice A xs.length c ∧ xs.length ≤ c ∧ c ≤ 9223372036854775807 ∧ (∀ a ∈ xs, a.length ≤ 9223372036854775807) ∧ Rd Knd.s (hp w) A xs := by
  obtain ⟨n, h⟩ := h
  rw [hv] at h
  obtain ⟨u, r, e, h1, rfl⟩ := leafs_of _ _ _ ht _ _ _ h
  simp at e
  subst e
  exact h1.list (K := Knd.s) (fun n cs x hx => open_text hte hx) hse
end
end Go.Proofs.YtiinipcmghhacaaDoor.X
