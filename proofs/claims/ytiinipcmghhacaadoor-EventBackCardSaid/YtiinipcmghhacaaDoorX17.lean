/- Rows whose walk asks that the world is well shaped. -/
import Derived.Test.YtiinipcmghhacaaDoorX16
import Derived.Handed
import Derived.ShapedOpen
import Derived.Below
set_option linter.unusedVariables false
set_option linter.unusedSimpArgs false
namespace Go.Proofs.YtiinipcmghhacaaDoor.X
open Go
/-! ## Rows whose walk asks that the world is well shaped -/
theorem Aft.ofBelow {w w' : World} {G : Heap} (hG : Sub G w) (h : RowKit.Below w.heap.size w w') : Aft w G [] w' G [] where
  os := h.os
  tape := h.tape
  output := h.output
  size := h.size
  kept := fun b hb _ => h.block b hb
  le := Heap.le.refl _
  new := fun b o h => .inl h
  sub := fun b o hb => (h.block b (hG.lt hb)).trans (hG b o hb)
  mem := by simp
  sep := by simp
  own := by simp
  nodup := by simp
theorem calls_below {P : Program} {f : FuncId} {args : Array Value} {w : World} {G : Heap} {x : Value} (hG : Sub G w) (h : Calls P f args w fun e w' => e = .returned x ∧ RowKit.Below w.heap.size w w') : Calls P f args w (Ret w G (fun v _ => v = x)) :=
  h.mono fun e w' ⟨he, hw⟩ => by
    subst he
    exact ⟨G, [], Aft.ofBelow hG hw, rfl, rfl⟩
section
variable {H : Type} {enc : TypeId × Value → H}
theorem returns_shaped {a : Assume} {C : Checked} {os : Os} {f : FuncId} {fn : Func} {s : ChangeSpec} {conds : List PathCond} {apart fresh handsOn again : Bool} {X : World → Array Value → Prop}
    (hX : ∀ (w w' : World) (args : Array Value), w.heap = w'.heap → X w args → X w' args)
    (own : ownKnob C.prog.godebug = none) (started : os.Started) (noInit : C.prog.inits.idxOf? f = none) (hfn : C.prog.funcs[f]? = some fn)
    (witness : ∃ (w : World) (tape : Tape) (i : Input), w.os = os ∧ (w.forCall tape i).Shaped C.prog ∧ i.vars = [] ∧ Input.okWide C.prog (w.forCall tape i) .any w.heap.size f i ∧
      ((s.pre enc C.prog fn conds apart (w.forCall tape i).memory i.args ∧ X (w.forCall tape i).memory i.args) ∧ sizedMet enc C.prog fn (OpenSpec.ofChange s) apart (w.forCall tape i).memory i.args) ∧ a.holds C.prog (lone (Frame.enter C.prog f i.args .normal) [] (w.forCall tape i)))
    (contract : ∀ (W : World) (base : Nat) (args : Array Value) (ds gs : List (DataW H)) (before : List MemPlace),
      (∀ (j : Nat) t v, fn.params[j]? = some t → args[j]? = some v → Value.okWide C.prog W .any base t v) →
      DataW.Whole enc C.prog fn.params.toList s.vars apart W args.toList ds gs before →
      conds.all (PathCond.test C.prog ⟨fn.params.toList, ds, s.plain.varTypes C.prog, gs⟩) = true →
      (DataW.weightsEach C.prog (fn.params.toList ++ s.plain.varTypes C.prog) (ds ++ gs)).all (· ≤ reachBytes) = true → X W args → W.ShapedOpen C.prog →
      Calls C.prog f args W fun e W' => ∃ v, e = .returned v ∧ s.post enc C.prog fn apart fresh handsOn again W args v W') :
    ReturnsInHanded a C os f .any (fun w args => (s.pre enc C.prog fn conds apart w args ∧ X w args) ∧ sizedMet enc C.prog fn (OpenSpec.ofChange s) apart w args) (s.post enc C.prog fn apart fresh handsOn again) := by
  refine returnsInHanded_of_calls own started noInit witness ?_
  intro w tape i _ hsh _ hok hpre hholds
  obtain ⟨_, _, _, fn', hfn', _, _, _, _, hval⟩ := hok
  have e : fn' = fn := Option.some.inj (hfn'.symm.trans hfn)
  subst e
  obtain ⟨⟨⟨ds, gs, before, hw, hc⟩, hx⟩, hz⟩ := hpre
  have hw' := DataW.Whole.of_heap (w' := w.forCall tape i) (by rfl) hw
  refine (contract (w.forCall tape i) w.heap.size i.args ds gs before hval hw' hc (hz.weights hw) (hX _ _ _ (by rfl) hx) hsh).mono fun e W' ⟨v, he, hp⟩ => ?_
  subst he
  exact ChangeSpec.post_blind hp
end
/-- A call that hands back a new slice. -/
theorem calls_alloc {α : Type} {K : Knd α} {T : TypeId} {P : Program} {f : FuncId} {args : Array Value} {w : World} {G : Heap} {xs : List α} {n : Nat} {cells : List Value} (hG : Sub G w) (hn : n = xs.length) (hL : ListR K G xs cells)
    (h : Calls P f args w fun e w' => e = .returned (.slice (some ⟨w.heap.size, 0, none⟩) n n) ∧ w' = w.alloc (.cells cells.toArray T)) : Calls P f args w (Ret w G (fun v G' => SlV K G' v xs)) :=
  h.mono fun e w' ⟨he, hw⟩ => by
    subst he; subst hw; subst hn
    have h1 := (St.start0 hG).alloc (.cells cells.toArray T) (p := (· = Obj.cells cells.toArray T (0, 0))) rfl
    obtain ⟨G', hle, hb, hS⟩ := St.freeze (A := []) (C := []) (D := []) (B := []) h1
    refine ⟨G', [], hS.stop (List.nil_sublist _), rfl, _, _, rfl, Nat.le_refl _, Rd.ofCells (cs := cells) ?_ (hL.le hle)⟩
    intro k v hk
    simp only [Heap.cell, hb]
    simpa using hk
end Go.Proofs.YtiinipcmghhacaaDoor.X
