/- The state inside a call: what isn't written any more, and the own blocks. -/
import Derived.WalkKit
import Derived.WalkLawsBesides
import Derived.KernelRfl
import Derived.Recover
set_option linter.unusedVariables false
set_option linter.unusedSimpArgs false
namespace Go.Proofs.YtiinipcmghhacaaDoor.X
open Go

/-! ## Heaps, chunks, states -/
abbrev Bs := List UInt8
abbrev str (l : Bs) : Value := .string ⟨l.toArray⟩
abbrev Heap := Nat → Option Obj
def Heap.le (G G' : Heap) : Prop := ∀ b o, G b = some o → G' b = some o
theorem Heap.le.refl (G : Heap) : Heap.le G G := fun _ _ h => h
theorem Heap.le.trans {A B C : Heap} (h : Heap.le A B) (k : Heap.le B C) : Heap.le A C := fun b o x => k b o (h b o x)
/-- One own block: its number and what is known of it. -/
abbrev Chunk := List (Nat × (Obj → Prop))
/-- `G` lies in `w`. -/
def Sub (G : Heap) (w : World) : Prop := ∀ b o, G b = some o → w.heap[b]? = some o
theorem Sub.lt {G : Heap} {w : World} (h : Sub G w) {b : Nat} {o : Obj} (hb : G b = some o) : b < w.heap.size := by
  have := h b o hb
  exact (Array.getElem?_eq_some_iff.1 this).1

/-- The state inside a call: `w0`, `G0`, `K0`: the world, what was not to be written, and the blocks handed in, when it began; `G`: what isn't written any more; `M`: the own blocks. -/
structure St (w0 : World) (G0 : Heap) (K0 : List Nat) (G : Heap) (w : World) (M : List Chunk) : Prop where
  os : w.os = w0.os
  tape : w.tape = w0.tape
  output : w.output = w0.output
  size : w0.heap.size ≤ w.heap.size
  kept : ∀ b, b < w0.heap.size → b ∉ K0 → w.heap[b]? = w0.heap[b]?
  le : Heap.le G0 G
  new : ∀ b o, G b = some o → G0 b = some o ∨ w0.heap.size ≤ b ∨ b ∈ K0
  sub : Sub G w
  mem : ∀ p ∈ M.flatten, ∃ o, w.heap[p.1]? = some o ∧ p.2 o
  sep : ∀ p ∈ M.flatten, G p.1 = none
  own : ∀ p ∈ M.flatten, w0.heap.size ≤ p.1 ∨ p.1 ∈ K0
  nodup : (M.flatten.map (·.1)).Nodup

/-- How a call ends that returns. -/
structure Aft (w : World) (G : Heap) (K : List Nat) (w' : World) (G' : Heap) (M' : Chunk) : Prop where
  os : w'.os = w.os
  tape : w'.tape = w.tape
  output : w'.output = w.output
  size : w.heap.size ≤ w'.heap.size
  kept : ∀ b, b < w.heap.size → b ∉ K → w'.heap[b]? = w.heap[b]?
  le : Heap.le G G'
  new : ∀ b o, G' b = some o → G b = some o ∨ w.heap.size ≤ b ∨ b ∈ K
  sub : Sub G' w'
  mem : ∀ p ∈ M', ∃ o, w'.heap[p.1]? = some o ∧ p.2 o
  sep : ∀ p ∈ M', G' p.1 = none
  own : ∀ p ∈ M', w.heap.size ≤ p.1 ∨ p.1 ∈ K
  nodup : (M'.map (·.1)).Nodup

def keys (C : Chunk) : List Nat := C.map (·.1)

/-- The call hands back `v` (R), or panics with a chain (E). `K`: the blocks handed in. -/
def Ends (w : World) (G : Heap) (K : List Nat) (R : Value → Heap → Chunk → Prop) (E : List PanicEntry → Heap → Chunk → Prop) : Ending → World → Prop
  | .returned v, w' => ∃ G' M', Aft w G K w' G' M' ∧ R v G' M'
  | .panicked c, w' => ∃ G' M', Aft w G K w' G' M' ∧ E c G' M'
  | .outgrown, _ => False
/-- It always hands back. -/
abbrev Ret (w : World) (G : Heap) (R : Value → Heap → Prop) : Ending → World → Prop := Ends w G [] (fun v G' M' => M' = [] ∧ R v G') (fun _ _ _ => False)

theorem St.start {w : World} {G : Heap} {C : Chunk} (hs : Sub G w) (hm : ∀ p ∈ C, ∃ o, w.heap[p.1]? = some o ∧ p.2 o) (hd : ∀ p ∈ C, G p.1 = none) (hn : (keys C).Nodup) : St w G (keys C) G w [C] where
  os := rfl
  tape := rfl
  output := rfl
  size := Nat.le_refl _
  kept := fun _ _ _ => rfl
  le := Heap.le.refl _
  new := fun _ _ h => .inl h
  sub := hs
  mem := by simpa using hm
  sep := by simpa using hd
  own := by
    intro p hp
    simp at hp
    exact .inr (List.mem_map.2 ⟨p, hp, rfl⟩)
  nodup := by simpa [keys] using hn
theorem St.start0 {w : World} {G : Heap} (hs : Sub G w) : St w G [] G w [] where
  os := rfl
  tape := rfl
  output := rfl
  size := Nat.le_refl _
  kept := fun _ _ _ => rfl
  le := Heap.le.refl _
  new := fun _ _ h => .inl h
  sub := hs
  mem := by simp
  sep := by simp
  own := by simp
  nodup := by simp

section
variable {w0 : World} {G0 : Heap} {K0 : List Nat} {G : Heap} {w : World} {M : List Chunk}

/-- The end of a call: what is still owned of `M` is handed back (`M'`: a part of it). -/
theorem St.stop (h : St w0 G0 K0 G w M) {M' : Chunk} (hs : M'.Sublist M.flatten) : Aft w0 G0 K0 w G M' where
  os := h.os
  tape := h.tape
  output := h.output
  size := h.size
  kept := h.kept
  le := h.le
  new := h.new
  sub := h.sub
  mem := fun p hp => h.mem p (hs.subset hp)
  sep := fun p hp => h.sep p (hs.subset hp)
  own := fun p hp => h.own p (hs.subset hp)
  nodup := h.nodup.sublist (hs.map _)

theorem St.lt (h : St w0 G0 K0 G w M) {p : Nat × (Obj → Prop)} (hp : p ∈ M.flatten) : p.1 < w.heap.size := by
  obtain ⟨o, ho, _⟩ := h.mem p hp
  exact (Array.getElem?_eq_some_iff.1 ho).1

/-- Another world, in which the blocks are the same. -/
theorem St.same (h : St w0 G0 K0 G w M) {w' : World} (h1 : w'.os = w.os) (h2 : w'.tape = w.tape) (h3 : w'.output = w.output) (h4 : w'.heap = w.heap) : St w0 G0 K0 G w' M where
  os := h1.trans h.os
  tape := h2.trans h.tape
  output := h3.trans h.output
  size := h4 ▸ h.size
  kept := h4 ▸ h.kept
  le := h.le
  new := h.new
  sub := by unfold Sub; rw [h4]; exact h.sub
  mem := h4 ▸ h.mem
  sep := h.sep
  own := h.own
  nodup := h.nodup
theorem St.drew (h : St w0 G0 K0 G w M) : St w0 G0 K0 G w.drew M := h.same rfl rfl rfl rfl

/-- Own blocks in another order, or fewer of them. -/
theorem St.sub_of (h : St w0 G0 K0 G w M) {M' : List Chunk} (hs : ∀ p ∈ M'.flatten, p ∈ M.flatten) (hn : (M'.flatten.map (·.1)).Nodup) : St w0 G0 K0 G w M' where
  os := h.os
  tape := h.tape
  output := h.output
  size := h.size
  kept := h.kept
  le := h.le
  new := h.new
  sub := h.sub
  mem := fun p hp => h.mem p (hs p hp)
  sep := fun p hp => h.sep p (hs p hp)
  own := fun p hp => h.own p (hs p hp)
  nodup := hn
theorem St.perm (h : St w0 G0 K0 G w M) {M' : List Chunk} (hs : List.Perm M'.flatten M.flatten) : St w0 G0 K0 G w M' :=
  h.sub_of (fun _ hp => hs.subset hp) ((hs.map _).nodup_iff.2 h.nodup)
theorem St.drop (h : St w0 G0 K0 G w M) {M' : List Chunk} (hs : M'.flatten.Sublist M.flatten) : St w0 G0 K0 G w M' :=
  h.sub_of (fun _ hp => hs.subset hp) (h.nodup.sublist (hs.map _))
/-- Less is known of the blocks. -/
theorem St.weak1 {b : Nat} {p q : Obj → Prop} {A B : List Chunk} {C D : Chunk} (h : St w0 G0 K0 G w (A ++ (C ++ (b, p) :: D) :: B)) (hpq : ∀ o, p o → q o) : St w0 G0 K0 G w (A ++ (C ++ (b, q) :: D) :: B) where
  os := h.os
  tape := h.tape
  output := h.output
  size := h.size
  kept := h.kept
  le := h.le
  new := h.new
  sub := h.sub
  mem := by
    intro r hr
    have hm := h.mem
    simp only [List.flatten_append, List.flatten_cons, List.append_assoc, List.cons_append, List.mem_append, List.mem_cons] at hr hm
    rcases hr with hr | hr | rfl | hr | hr
    · exact hm r (.inl hr)
    · exact hm r (.inr (.inl hr))
    · obtain ⟨o, h1, h2⟩ := hm (b, p) (.inr (.inr (.inl rfl)))
      exact ⟨o, h1, hpq _ h2⟩
    · exact hm r (.inr (.inr (.inr (.inl hr))))
    · exact hm r (.inr (.inr (.inr (.inr hr))))
  sep := by
    intro r hr
    have hm := h.sep
    simp only [List.flatten_append, List.flatten_cons, List.append_assoc, List.cons_append, List.mem_append, List.mem_cons] at hr hm
    rcases hr with hr | hr | rfl | hr | hr
    · exact hm r (.inl hr)
    · exact hm r (.inr (.inl hr))
    · exact hm (b, p) (.inr (.inr (.inl rfl)))
    · exact hm r (.inr (.inr (.inr (.inl hr))))
    · exact hm r (.inr (.inr (.inr (.inr hr))))
  own := by
    intro r hr
    have hm := h.own
    simp only [List.flatten_append, List.flatten_cons, List.append_assoc, List.cons_append, List.mem_append, List.mem_cons] at hr hm
    rcases hr with hr | hr | rfl | hr | hr
    · exact hm r (.inl hr)
    · exact hm r (.inr (.inl hr))
    · exact hm (b, p) (.inr (.inr (.inl rfl)))
    · exact hm r (.inr (.inr (.inr (.inl hr))))
    · exact hm r (.inr (.inr (.inr (.inr hr))))
  nodup := by
    have := h.nodup
    simpa using this

/-- A new block. -/
theorem St.alloc (h : St w0 G0 K0 G w M) (o : Obj) {p : Obj → Prop} (hp : p o) : St w0 G0 K0 G (w.alloc o) ([(w.heap.size, p)] :: M) where
  os := h.os
  tape := h.tape
  output := h.output
  size := by have := h.size; simp; omega
  kept := fun b hb hk => by
    rw [← h.kept b hb hk]
    have := h.size
    show (w.heap.push o)[b]? = _
    rw [Array.getElem?_push, if_neg (by omega)]
  le := h.le
  new := h.new
  sub := fun b o' hb => by
    have hl := h.sub.lt hb
    show (w.heap.push o)[b]? = _
    rw [Array.getElem?_push, if_neg (by omega)]
    exact h.sub b o' hb
  mem := by
    intro q hq
    simp only [List.flatten_cons, List.cons_append, List.nil_append, List.mem_cons] at hq
    rcases hq with rfl | hq
    · exact ⟨o, by show (w.heap.push o)[w.heap.size]? = _; rw [Array.getElem?_push, if_pos rfl], hp⟩
    · obtain ⟨o', h1, h2⟩ := h.mem q hq
      have hl := h.lt hq
      exact ⟨o', by show (w.heap.push o)[q.1]? = _; rw [Array.getElem?_push, if_neg (by omega)]; exact h1, h2⟩
  sep := by
    intro q hq
    simp only [List.flatten_cons, List.cons_append, List.nil_append, List.mem_cons] at hq
    rcases hq with rfl | hq
    · cases hg : G w.heap.size with
      | none => rfl
      | some o' => have := h.sub.lt hg; omega
    · exact h.sep q hq
  own := by
    intro q hq
    simp only [List.flatten_cons, List.cons_append, List.nil_append, List.mem_cons] at hq
    rcases hq with rfl | hq
    · exact .inl h.size
    · exact h.own q hq
  nodup := by
    simp only [List.flatten_cons, List.cons_append, List.nil_append, List.map_cons, List.nodup_cons]
    refine ⟨fun hm => ?_, h.nodup⟩
    obtain ⟨q, hq, he⟩ := List.mem_map.1 hm
    have := h.lt hq
    omega

/-- A block of one's own is turned. -/
theorem St.turn {b : Nat} {p q : Obj → Prop} {A B : List Chunk} {C D : Chunk} (h : St w0 G0 K0 G w (A ++ (C ++ (b, p) :: D) :: B)) {w' : World} (h1 : w'.os = w.os) (h2 : w'.tape = w.tape) (h3 : w'.output = w.output)
    (hsz : w'.heap.size = w.heap.size) (hk : ∀ k, k ≠ b → w'.heap[k]? = w.heap[k]?) (hq : ∃ o, w'.heap[b]? = some o ∧ q o) : St w0 G0 K0 G w' (A ++ (C ++ (b, q) :: D) :: B) := by
  have hmem : (b, p) ∈ (A ++ (C ++ (b, p) :: D) :: B).flatten := by simp
  have hnd := h.nodup
  simp only [List.flatten_append, List.flatten_cons, List.append_assoc, List.cons_append, List.map_append, List.map_cons] at hnd
  have hne : ∀ r, r ∈ A.flatten ∨ r ∈ C ∨ r ∈ D ∨ r ∈ B.flatten → r.1 ≠ b := by
    intro r hr e
    rw [List.nodup_append] at hnd
    obtain ⟨_, hnd2, hx⟩ := hnd
    rw [List.nodup_append] at hnd2
    obtain ⟨_, hnd3, hy⟩ := hnd2
    rw [List.nodup_cons] at hnd3
    rcases hr with hr | hr | hr | hr
    · exact hx r.1 (List.mem_map.2 ⟨r, hr, rfl⟩) b (by simp) e
    · exact hy r.1 (List.mem_map.2 ⟨r, hr, rfl⟩) b (by simp) e
    · exact hnd3.1 (e ▸ List.mem_append.2 (.inl (List.mem_map.2 ⟨r, hr, rfl⟩)))
    · exact hnd3.1 (e ▸ List.mem_append.2 (.inr (List.mem_map.2 ⟨r, hr, rfl⟩)))
  exact {
    os := h1.trans h.os
    tape := h2.trans h.tape
    output := h3.trans h.output
    size := hsz ▸ h.size
    kept := fun k hk1 hk2 => by
      have : k ≠ b := fun e => by
        rcases h.own _ hmem with ho | ho
        · simp at ho; omega
        · exact hk2 (e ▸ ho)
      rw [hk k this]; exact h.kept k hk1 hk2
    le := h.le
    new := h.new
    sub := fun k o hg => by
      have : k ≠ b := fun e => by
        have := h.sep _ hmem
        simp only at this
        rw [← e, hg] at this
        cases this
      rw [hk k this]; exact h.sub k o hg
    mem := by
      intro r hr
      have hm := h.mem
      simp only [List.flatten_append, List.flatten_cons, List.append_assoc, List.cons_append, List.mem_append, List.mem_cons] at hr hm
      rcases hr with hr | hr | rfl | hr | hr
      · rw [hk r.1 (hne r (.inl hr))]; exact hm r (.inl hr)
      · rw [hk r.1 (hne r (.inr (.inl hr)))]; exact hm r (.inr (.inl hr))
      · exact hq
      · rw [hk r.1 (hne r (.inr (.inr (.inl hr))))]; exact hm r (.inr (.inr (.inr (.inl hr))))
      · rw [hk r.1 (hne r (.inr (.inr (.inr hr))))]; exact hm r (.inr (.inr (.inr (.inr hr))))
    sep := by
      intro r hr
      have hm := h.sep
      simp only [List.flatten_append, List.flatten_cons, List.append_assoc, List.cons_append, List.mem_append, List.mem_cons] at hr hm
      rcases hr with hr | hr | rfl | hr | hr
      · exact hm r (.inl hr)
      · exact hm r (.inr (.inl hr))
      · exact hm (b, p) (.inr (.inr (.inl rfl)))
      · exact hm r (.inr (.inr (.inr (.inl hr))))
      · exact hm r (.inr (.inr (.inr (.inr hr))))
    own := by
      intro r hr
      have hm := h.own
      simp only [List.flatten_append, List.flatten_cons, List.append_assoc, List.cons_append, List.mem_append, List.mem_cons] at hr hm
      rcases hr with hr | hr | rfl | hr | hr
      · exact hm r (.inl hr)
      · exact hm r (.inr (.inl hr))
      · exact hm (b, p) (.inr (.inr (.inl rfl)))
      · exact hm r (.inr (.inr (.inr (.inl hr))))
      · exact hm r (.inr (.inr (.inr (.inr hr))))
    nodup := by have := h.nodup; simpa using this }

/-- Chunks that aren't written any more. -/
theorem St.freeze {A B : List Chunk} {b : Nat} {o : Obj} {C D : Chunk} (h : St w0 G0 K0 G w (A ++ (C ++ (b, (· = o)) :: D) :: B)) :
    ∃ G', Heap.le G G' ∧ G' b = some o ∧ St w0 G0 K0 G' w (A ++ (C ++ D) :: B) := by
  have hmem : (b, (· = o)) ∈ (A ++ (C ++ (b, (· = o)) :: D) :: B).flatten := by simp
  have hsep := h.sep _ hmem
  simp only at hsep
  refine ⟨fun k => if k = b then some o else G k, fun k o' hk => ?_, by simp, ?_⟩
  · have : k ≠ b := fun e => by rw [e, hsep] at hk; cases hk
    simp [this, hk]
  have hnd := h.nodup
  simp only [List.flatten_append, List.flatten_cons, List.append_assoc, List.cons_append, List.map_append, List.map_cons] at hnd
  have hp : (A.flatten.map (·.1) ++ (C.map (·.1) ++ b :: (D.map (·.1) ++ B.flatten.map (·.1)))).Perm (b :: (A.flatten.map (·.1) ++ (C.map (·.1) ++ (D.map (·.1) ++ B.flatten.map (·.1))))) := by
    rw [← List.append_assoc, ← List.append_assoc]
    exact List.perm_middle
  have hnd' := hp.nodup_iff.1 hnd
  rw [List.nodup_cons] at hnd'
  obtain ⟨hb, hnd'⟩ := hnd'
  have hsub : ∀ r, r ∈ (A ++ (C ++ D) :: B).flatten → r ∈ (A ++ (C ++ (b, (· = o)) :: D) :: B).flatten ∧ r.1 ≠ b := by
    intro r hr
    simp only [List.flatten_append, List.flatten_cons, List.append_assoc, List.cons_append, List.mem_append, List.mem_cons] at hr ⊢
    refine ⟨by rcases hr with hr | hr | hr | hr <;> simp [hr], fun e => hb ?_⟩
    rw [← e]
    simp only [List.mem_append]
    rcases hr with hr | hr | hr | hr
    · exact .inl (List.mem_map.2 ⟨r, hr, rfl⟩)
    · exact .inr (.inl (List.mem_map.2 ⟨r, hr, rfl⟩))
    · exact .inr (.inr (.inl (List.mem_map.2 ⟨r, hr, rfl⟩)))
    · exact .inr (.inr (.inr (List.mem_map.2 ⟨r, hr, rfl⟩)))
  exact {
    os := h.os
    tape := h.tape
    output := h.output
    size := h.size
    kept := h.kept
    le := h.le.trans fun k o' hk => by
      have : k ≠ b := fun e => by rw [e, hsep] at hk; cases hk
      simp [this, hk]
    new := fun k o' hk => by
      by_cases e : k = b
      · subst e
        have := h.own _ hmem
        simp only at this
        exact .inr this
      · simp only [if_neg e] at hk
        exact h.new k o' hk
    sub := fun k o' hk => by
      by_cases e : k = b
      · subst e
        simp only [if_true, Option.some.injEq] at hk
        subst hk
        obtain ⟨o2, h1, h2⟩ := h.mem _ hmem
        simp only at h1 h2
        rw [h1, h2]
      · simp only [if_neg e] at hk
        exact h.sub k o' hk
    mem := fun r hr => h.mem r (hsub r hr).1
    sep := fun r hr => by
      have h1 := hsub r hr
      simp only [if_neg h1.2]
      exact h.sep r h1.1
    own := fun r hr => h.own r (hsub r hr).1
    nodup := by simpa using hnd' }

/-- Behind a call that was handed the chunk `C`. -/
theorem St.called {A B : List Chunk} {C : Chunk} (h : St w0 G0 K0 G w (A ++ C :: B)) {w' : World} {G' : Heap} {C' : Chunk} (ha : Aft w G (keys C) w' G' C') : St w0 G0 K0 G' w' (A ++ C' :: B) := by
  have hnd := h.nodup
  simp only [List.flatten_append, List.flatten_cons, List.map_append] at hnd
  have hmemC : ∀ k, k ∈ keys C → w0.heap.size ≤ k ∨ k ∈ K0 := by
    intro k hk
    obtain ⟨p, hp, rfl⟩ := List.mem_map.1 hk
    exact h.own p (by simp [hp])
  have hltC : ∀ k, k ∈ keys C → k < w.heap.size := by
    intro k hk
    obtain ⟨p, hp, rfl⟩ := List.mem_map.1 hk
    exact h.lt (p := p) (by simp [hp])
  have hold : ∀ r, r ∈ A.flatten ∨ r ∈ B.flatten → r.1 < w.heap.size ∧ r.1 ∉ keys C := by
    intro r hr
    refine ⟨h.lt (p := r) (by rcases hr with hr | hr <;> simp [hr]), fun hk => ?_⟩
    rw [List.nodup_append] at hnd
    obtain ⟨_, hnd2, hx⟩ := hnd
    rw [List.nodup_append] at hnd2
    rcases hr with hr | hr
    · exact hx r.1 (List.mem_map.2 ⟨r, hr, rfl⟩) r.1 (List.mem_append.2 (.inl hk)) rfl
    · exact hnd2.2.2 r.1 hk r.1 (List.mem_map.2 ⟨r, hr, rfl⟩) rfl
  have holdmem : ∀ r, r ∈ A.flatten ∨ r ∈ B.flatten → r ∈ (A ++ C :: B).flatten := by
    intro r hr
    rcases hr with hr | hr <;> simp [hr]
  have hnew : ∀ p ∈ C', w.heap.size ≤ p.1 ∨ p.1 ∈ keys C := ha.own
  exact {
    os := ha.os.trans h.os
    tape := ha.tape.trans h.tape
    output := ha.output.trans h.output
    size := Nat.le_trans h.size ha.size
    kept := fun b hb hk => by
      have h1 := h.size
      rw [ha.kept b (by omega) (fun hc => (hmemC b hc).elim (fun h2 => by omega) hk)]
      exact h.kept b hb hk
    le := h.le.trans ha.le
    new := fun b o hb => by
      rcases ha.new b o hb with h1 | h1 | h1
      · exact h.new b o h1
      · exact .inr (.inl (Nat.le_trans h.size h1))
      · exact .inr (hmemC b h1)
    sub := ha.sub
    mem := by
      intro r hr
      simp only [List.flatten_append, List.flatten_cons, List.mem_append] at hr
      rcases hr with hr | hr | hr
      · obtain ⟨h1, h2⟩ := hold r (.inl hr)
        rw [ha.kept r.1 h1 h2]; exact h.mem r (holdmem r (.inl hr))
      · exact ha.mem r hr
      · obtain ⟨h1, h2⟩ := hold r (.inr hr)
        rw [ha.kept r.1 h1 h2]; exact h.mem r (holdmem r (.inr hr))
    sep := by
      intro r hr
      simp only [List.flatten_append, List.flatten_cons, List.mem_append] at hr
      have key : ∀ r, r ∈ A.flatten ∨ r ∈ B.flatten → G' r.1 = none := by
        intro r hr
        obtain ⟨h1, h2⟩ := hold r hr
        cases hg : G' r.1 with
        | none => rfl
        | some o =>
          rcases ha.new _ _ hg with h3 | h3 | h3
          · rw [h.sep r (holdmem r hr)] at h3; cases h3
          · omega
          · exact absurd h3 h2
      rcases hr with hr | hr | hr
      · exact key r (.inl hr)
      · exact ha.sep r hr
      · exact key r (.inr hr)
    own := by
      intro r hr
      simp only [List.flatten_append, List.flatten_cons, List.mem_append] at hr
      rcases hr with hr | hr | hr
      · exact h.own r (holdmem r (.inl hr))
      · rcases hnew r hr with h1 | h1
        · exact .inl (Nat.le_trans h.size h1)
        · exact hmemC _ h1
      · exact h.own r (holdmem r (.inr hr))
    nodup := by
      simp only [List.flatten_append, List.flatten_cons, List.map_append]
      rw [List.nodup_append] at hnd ⊢
      obtain ⟨hA, hnd2, hx⟩ := hnd
      rw [List.nodup_append] at hnd2
      obtain ⟨_, hB, hy⟩ := hnd2
      have hCB : ∀ a ∈ C'.map (·.1), ∀ b, (∃ r, (r ∈ A.flatten ∨ r ∈ B.flatten) ∧ r.1 = b) → a ≠ b := by
        rintro a ha' b ⟨r, hr, rfl⟩ rfl
        obtain ⟨p, hp, he⟩ := List.mem_map.1 ha'
        obtain ⟨h1, h2⟩ := hold r hr
        rcases hnew p hp with h3 | h3
        · rw [he] at h3; omega
        · rw [he] at h3; exact h2 h3
      refine ⟨hA, List.nodup_append.2 ⟨ha.nodup, hB, fun a ha' b hb => ?_⟩, fun a ha' b hb => ?_⟩
      · obtain ⟨r, hr, rfl⟩ := List.mem_map.1 hb
        exact hCB a ha' _ ⟨r, .inr hr, rfl⟩
      · obtain ⟨r, hr, rfl⟩ := List.mem_map.1 ha'
        rcases List.mem_append.1 hb with hb | hb
        · exact fun e => hCB b hb _ ⟨r, .inl hr, rfl⟩ e.symm
        · exact hx _ ha' b (List.mem_append.2 (.inr hb)) }
theorem St.called0 (h : St w0 G0 K0 G w M) {w' : World} {G' : Heap} (ha : Aft w G [] w' G' []) : St w0 G0 K0 G' w' M := by
  have h0 : St w0 G0 K0 G w ([] ++ [] :: M) := h.perm (by simp)
  have := h0.called (A := []) (C := []) (C' := []) ha
  exact this.perm (by simp)
end
end Go.Proofs.YtiinipcmghhacaaDoor.X
