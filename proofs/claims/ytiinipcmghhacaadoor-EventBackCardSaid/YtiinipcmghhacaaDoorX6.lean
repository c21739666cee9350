/- Cuts between steps, and plain calls. -/
import Derived.Test.YtiinipcmghhacaaDoorX5
set_option linter.unusedVariables false
set_option linter.unusedSimpArgs false
namespace Go.Proofs.YtiinipcmghhacaaDoor.X
open Go
section
variable {P : Program} {Q : Exit → Act → World → Prop} {a : Act} {w : World} {N : Nat} {D : List Deferred} {L : List (Nat × Value)} {ops : Array Oper} {rest : List Oper}
variable {d : Nat} {ty : TypeId} {pos : String} {af : Array Edge}
variable {w0 : World} {G0 : Heap} {K0 : List Nat} {G : Heap} {M M' : List Chunk}

/-- Less need stay as it is. -/
theorem St.weakG {G' : Heap} (h : St w0 G0 K0 G' w M) (h0 : Heap.le G0 G) (h1 : Heap.le G G') : St w0 G0 K0 G w M where
  os := h.os
  tape := h.tape
  output := h.output
  size := h.size
  kept := h.kept
  le := h0
  new := fun b o hb => h.new b o (h1 b o hb)
  sub := fun b o hb => h.sub b o (h1 b o hb)
  mem := h.mem
  sep := fun p hp => by
    cases hg : G p.1 with
    | none => rfl
    | some o => rw [← h.sep p hp, h1 _ _ hg]
  own := h.own
  nodup := h.nodup
/-- A call of a function that hands back plain values. -/
theorem o_callP {f : Nat} {x : Operand} {xs : Array Operand} {ats : Array TypeId} {us vs cs : List Value} {R : Value → Prop} (hE : Env a N D L) (hN : Nat.blt d N = true) (hS : St w0 G0 K0 G w M) (hx : ev L x = some (.func (.func f) us.toArray cs.toArray)) (hv : evs L xs.toList = some vs) (hf : goFn P f = true)
    (hc : Calls P f (us ++ vs ++ cs).toArray w (Ret w G (fun v _ => R v))) (k : ∀ v w' a', St w0 G0 K0 G w' M → R v → Env a' N D ((d, v) :: L) → wpList P ops Q rest a' w') :
    wpList P ops Q (⟨some d, .call ⟨.value x, xs, ats⟩, ty, pos, af, none⟩ :: rest) a w :=
  o_call hE hN hS hx hv hf hc fun v _ w' a' hS' hl hR hE' => k v w' a' (hS'.weakG hS.le hl) hR hE'

theorem wpList_app {l1 : List Oper} {R : Act → World → Prop} : ∀ {l2 : List Oper} {a : Act} {w : World}, wpList P ops (Exit.then R Q) l1 a w → (∀ a w, R a w → wpList P ops Q l2 a w) → wpList P ops Q (l1 ++ l2) a w := by
  induction l1 with
  | nil => intro l2 a w h k; exact k _ _ h
  | cons o r ih =>
    intro l2 a w h k
    unfold wpList at h
    show wpList P ops Q (o :: (r ++ l2)) a w
    unfold wpList
    split
    · rename_i hw
      rw [if_pos hw] at h
      rcases h with h | ⟨h, hl⟩
      · refine .inl ?_
        unfold Oper.wp at *
        generalize (execOp a.eval o).run P w = res at *
        cases res with
        | ok n w' =>
          cases n <;> simp only [Oper.upon] at h ⊢ <;>
            first
              | exact ih h k
              | exact Calls.mono h (fun e w'' he => by
                  cases e with
                  | returned v => exact ih he k
                  | panicked c => exact he
                  | outgrown => obtain ⟨a, w, hq⟩ := he; exact ⟨a, w, hq⟩)
              | exact Rows.mono h (fun _ _ he => ih he k)
        | halt x w' => cases x <;> simp only [Oper.upon] at h ⊢ <;> exact h
      · obtain ⟨a', w', hq⟩ := hl
        exact .inr ⟨h, a', w', hq⟩
    · rename_i hw
      rw [if_neg hw] at h
      exact ih h k
/-- A region cut behind its first `n` operations. -/
theorem cutL {l : List Oper} (n : Nat) (R : Act → World → Prop) (h1 : wpList P ops (Exit.then R Q) (l.take n) a w) (h2 : ∀ a w, R a w → wpList P ops Q (l.drop n) a w) : wpList P ops Q l a w := by
  have := wpList_app h1 h2
  rwa [List.take_append_drop] at this
theorem cutC {x y : Code} (R : Act → World → Prop) (h1 : x.wp P (Exit.then R Q) a w) (h2 : ∀ a w, R a w → y.wp P Q a w) : (Code.seq x y).wp P Q a w :=
  wp_seq (wp_mono h1 fun e a w h => by cases e <;> first | exact h2 _ _ h | exact h)
/-- A guarded operation that isn't wanted: its slot holds nothing. -/
theorem g_off {op : Op} {j : Nat} {want b : Bool} {dj : Nat} (hE : Env a N D L) (hN : Nat.blt d N = true) (hj : (ops[j]?).bind (·.dst) = some dj) (hb : lk L dj = some (.bool b)) (hne : b = !want)
    (k : ∀ a', Env a' N D ((d, undef) :: L) → wpList P ops Q rest a' w) : wpList P ops Q (⟨some d, op, ty, pos, af, some (j, want)⟩ :: rest) a w := by
  unfold wpList
  have hw : Region.wanted ⟨some d, op, ty, pos, af, some (j, want)⟩ (yielded ops a.tmps) = false := by
    simp [Region.wanted, yielded, hj, hE.get _ _ hb, hne]
  rw [if_neg (by simp [hw])]
  exact k _ (hE.put hN _)
theorem g_offu {op : Op} {j : Nat} {want : Bool} {dj : Nat} (hE : Env a N D L) (hN : Nat.blt d N = true) (hj : (ops[j]?).bind (·.dst) = some dj) (hb : lk L dj = some undef)
    (k : ∀ a', Env a' N D ((d, undef) :: L) → wpList P ops Q rest a' w) : wpList P ops Q (⟨some d, op, ty, pos, af, some (j, want)⟩ :: rest) a w := by
  unfold wpList
  have hw : Region.wanted ⟨some d, op, ty, pos, af, some (j, want)⟩ (yielded ops a.tmps) = false := by
    simp [Region.wanted, yielded, hj, hE.get _ _ hb, undef]
  rw [if_neg (by simp [hw])]
  exact k _ (hE.put hN _)
/-- 'index' of an array that is a value. -/
theorem o_ixV {t n m : Nat} {x y : Operand} {cs : Array Value} {vs : List Value} {q : IntKind} {i : Int} {e : TypeId} {z : Value} (hE : Env a N D L) (hN : Nat.blt d N = true) (hx : ev L x = some (.agg cs)) (hy : ev L y = some (.int q i)) (ht : arrOf P t = some (n, m)) (he : P.underlying t = some (.array n e)) (h : 0 ≤ i ∧ i < n)
    (hv : lks (enum 0 cs.toList) (i.toNat * m) m = some vs) (hz : (scal P e = true ∧ vs = [z]) ∨ (aggSz P e = some m ∧ z = .agg vs.toArray))
    (k : ∀ a', Env a' N D ((d, z) :: L) → wpList P ops Q rest a' w) : wpList P ops Q (⟨some d, .index t x y, ty, pos, af, none⟩ :: rest) a w :=
  op_val rfl rfl hE hN (by
    obtain ⟨e', inf, hu, hi, rfl⟩ := arr_spec ht
    rw [he] at hu
    obtain rfl : e = e' := by simpa using hu
    obtain ⟨h1, h2⟩ := lks_get _ _ _ hv
    have h3 : ∀ k v, vs[k]? = some v → cs[i.toNat * inf.size + k]? = some v := fun k v hk => by
      have := (enum_get _ _ _ _ (h2 k v hk)).2
      simpa using this
    rcases hz with ⟨hs, rfl⟩ | ⟨hs, rfl⟩
    · obtain ⟨ha, i2, hi2, hsz⟩ := scal_spec (w := w) hs
      rw [hi] at hi2
      cases hi2
      have h4 := h3 0 z (by simp)
      simp only [Nat.add_zero] at h4
      simp [execOp, hE.eval hx, hE.eval hy, Instr.index, asIntOf, run_underlying he, h, run_sizeOf' hi, part, ha, h4]
    · obtain ⟨ha, i2, hi2, hsz⟩ := agg_spec (w := w) hs
      have h4 : cs.extract (i.toNat * inf.size) (i.toNat * inf.size + inf.size) = vs.toArray := by
        apply Array.ext
        · have hlast : ∀ k, k < vs.length → i.toNat * inf.size + k < cs.size := fun k hk => by
            have := h3 k vs[k] (by simp [hk])
            exact (Array.getElem?_eq_some_iff.1 this).1
          simp only [Array.size_extract, List.size_toArray]
          rcases Nat.eq_zero_or_pos vs.length with h0 | h0
          · omega
          · have := hlast (vs.length - 1) (by omega)
            omega
        · intro k hk1 hk2
          simp only [List.size_toArray] at hk2
          have := h3 k vs[k] (by simp [hk2])
          obtain ⟨hlt, he2⟩ := Array.getElem?_eq_some_iff.1 this
          simp [he2]
      simp [execOp, hE.eval hx, hE.eval hy, Instr.index, asIntOf, run_underlying he, h, run_sizeOf' hi, part, ha, h4]) k
end
end Go.Proofs.YtiinipcmghhacaaDoor.X
