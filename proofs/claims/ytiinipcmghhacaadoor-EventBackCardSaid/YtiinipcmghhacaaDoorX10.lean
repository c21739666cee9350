/- What a reading of an argument tells of its cells. -/
import Derived.Test.YtiinipcmghhacaaDoorX9
import Derived.Carry
import Derived.ChangeArms
import Derived.Deep.Slices
import Derived.OpenShut
set_option linter.unusedVariables false
set_option linter.unusedSimpArgs false
namespace Go.Proofs.YtiinipcmghhacaaDoor.X
open Go
/-! ## Arguments, opened -/
inductive Lf where
  | int (k : IntKind)
  | bool
  | str
  | sl (e : TypeId)
def leavesF (rec : TypeId → Option (List Lf)) (P : Program) : Nat → List Field → Option (List Lf)
  | _, [] => some []
  | off, f :: r => match rec f.type with
    | some l => if f.offset = off ∧ P.cellsOf f.type = l.length then (leavesF rec P (off + l.length) r).map (l ++ ·) else none
    | none => none
def leavesA (l : List Lf) : Nat → List Lf
  | 0 => []
  | n + 1 => l ++ leavesA l n
def leaves (P : Program) : Nat → TypeId → Option (List Lf)
  | 0, _ => none
  | n + 1, t => match P.underlying t with
    | some .bool => some [.bool]
    | some (.int k) => some [.int k]
    | some .string => some [.str]
    | some (.slice e) => if P.cellsOf e = 0 then none else some [.sl e]
    | some (.struct fs) => match leavesF (leaves P n) P 0 fs.toList with
      | some l => if P.cellsOf t = l.length then some l else none
      | none => none
    | some (.array m e) => match leaves P n e with
      | some l => if P.cellsOf e = l.length ∧ P.cellsOf t = (leavesA l m).length then some (leavesA l m) else none
      | none => none
    | _ => none
section
variable {H : Type} {enc : TypeId × Value → H} {P : Program} {w : World} {base : Nat} {spare : Nat → Bool} {held : Bool}
abbrev hp (w : World) : Heap := fun b => w.heap[b]?
def LfOk (enc : TypeId × Value → H) (P : Program) (w : World) (base : Nat) (spare : Nat → Bool) (held : Bool) : Lf → Value → Prop
  | .int k, v => ∃ n, v = .int k n ∧ (Lit.int k n).wf = true
  | .bool, v => ∃ b, v = .bool b
  | .str, v => ∃ s : Bs, v = X.str s ∧ s.length ≤ maxLen
  | .sl e, v => ∃ A len cap, v = .slice A len cap ∧ len ≤ cap ∧ cap ≤ maxLen ∧ (0 < len → ∃ b o, A = some ⟨b, o, none⟩ ∧ ∃ n, ∀ i, i < len → ∃ cs x, CellsAt (hp w) b (o + i * P.cellsOf e) cs ∧ cs.length = P.cellsOf e ∧ DataW.trod enc P w base spare held n e cs = some x)
def Leafs (enc : TypeId × Value → H) (P : Program) (w : World) (base : Nat) (spare : Nat → Bool) (held : Bool) : List Lf → List Value → Prop
  | [], cs => cs = []
  | l :: ls, cs => ∃ v r, cs = v :: r ∧ LfOk enc P w base spare held l v ∧ Leafs enc P w base spare held ls r
theorem Leafs.append : ∀ {l1 l2 : List Lf} {cs : List Value}, Leafs enc P w base spare held l1 (cs.take l1.length) → Leafs enc P w base spare held l2 (cs.drop l1.length) → Leafs enc P w base spare held (l1 ++ l2) cs
  | [], l2, cs, _, h2 => by simpa using h2
  | l :: l1, l2, cs, h1, h2 => by
    obtain ⟨v, r, e, ho, hr⟩ := h1
    cases cs with
    | nil => simp at e
    | cons c cs =>
      simp only [List.length_cons, List.take_succ_cons, List.cons.injEq] at e
      obtain ⟨rfl, rfl⟩ := e
      exact ⟨c, cs, rfl, ho, hr.append (by simpa using h2)⟩
theorem add_eq {a : Addr} (hs : a.spot = none) (k : Nat) : a.add k = ⟨a.block, a.off + k, none⟩ := by
  unfold Addr.add
  split
  · rename_i h; subst h; cases a; simp_all
  · rfl
theorem cells_at {a : Addr} {n : Nat} {cs : List Value} (h : w.cells? base a n = some cs) (hs : a.spot = none) : CellsAt (hp w) a.block a.off cs ∧ cs.length = n := by
  obtain ⟨_, hl, hc⟩ := World.cells?_some h
  refine ⟨fun k v hk => ?_, hl⟩
  have hk' : k < cs.length := (List.getElem?_eq_some_iff.1 hk).1
  have h1 := hc k (by omega)
  rw [hk, add_eq hs] at h1
  unfold World.cell? at h1
  unfold Heap.cell hp
  dsimp only at h1 ⊢
  cases hb : w.heap[a.block]? with
  | none => simp [hb] at h1
  | some o => cases o <;> simp_all
theorem spot_of {a : Addr} {n : Nat} {cs : List Value} (h : w.cells? base a n = some cs) (hn : n ≠ 0) : a.spot = none := by
  obtain ⟨_, hl, hc⟩ := World.cells?_some h
  have h1 := hc 0 (by omega)
  cases cs with
  | nil => simp at hl; omega
  | cons c cs =>
    unfold World.cell? Addr.add at h1
    simp only [if_pos, List.getElem?_cons_zero] at h1
    cases hb : w.heap[a.block]? with
    | none => simp [hb] at h1
    | some o =>
      cases hs : a.spot with
      | none => rfl
      | some s => cases o <;> simp_all
theorem leafs_of : ∀ (m : Nat) (t : TypeId) (ls : List Lf), leaves P m t = some ls → ∀ (n : Nat) (cs : List Value) (x : DataW H × List MemPlace), DataW.trod enc P w base spare held n t cs = some x → Leafs enc P w base spare held ls cs := by
  intro m
  induction m with
  | zero => intro t ls h; simp [leaves] at h
  | succ m ih =>
    intro t ls h n cs x hx
    unfold leaves at h
    split at h
    · cases h
      rename_i ht
      cases n with
      | zero => simp [DataW.trod] at hx
      | succ n =>
        unfold DataW.trod at hx
        rw [ht] at hx
        split at hx <;> simp_all
        exact ⟨_, [], rfl, ⟨_, rfl⟩, rfl⟩
    · cases h
      rename_i k ht
      cases n with
      | zero => simp [DataW.trod] at hx
      | succ n =>
        unfold DataW.trod at hx
        rw [ht] at hx
        split at hx <;> simp_all
        obtain ⟨⟨rfl, h1⟩, _⟩ := hx
        exact ⟨_, [], rfl, ⟨_, rfl, h1⟩, rfl⟩
    · cases h
      rename_i ht
      cases n with
      | zero => simp [DataW.trod] at hx
      | succ n =>
        unfold DataW.trod at hx
        rw [ht] at hx
        split at hx <;> simp_all
        rename_i s
        exact ⟨_, [], rfl, ⟨s.data.toList, rfl, hx.1⟩, rfl⟩
    · rename_i e ht
      split at h
      · cases h
      rename_i hne
      cases h
      rcases Deep.open_slice ht hx with ⟨rfl, _⟩ | ⟨a, len, cap, m', n', D, Pl, rfl, _, hl, hm, hmm, _, hel⟩
      · exact ⟨_, [], rfl, ⟨_, _, _, rfl, Nat.le_refl _, Nat.zero_le _, fun h => absurd h (by omega)⟩, rfl⟩
      · refine ⟨_, [], rfl, ⟨_, _, _, rfl, hl, hm, fun hpos => ?_⟩, rfl⟩
        have hle : len ≤ m' := by rw [hmm]; split <;> omega
        obtain ⟨cs0, h0, _⟩ := hel 0 (by omega)
        have hsp0 : a.spot = none := by
          have := spot_of h0 hne
          rw [Nat.zero_mul] at this
          unfold Addr.add at this
          simpa using this
        refine ⟨a.block, a.off, by obtain ⟨ab, ao, as⟩ := a; dsimp only at hsp0; subst hsp0; rfl, n', fun i hi => ?_⟩
        obtain ⟨cs', h1, h2⟩ := hel i (by omega)
        rw [add_eq hsp0] at h1
        obtain ⟨h3, h4⟩ := cells_at h1 rfl
        exact ⟨cs', _, h3, h4, h2⟩
    · rename_i fs ht
      split at h
      · rename_i l hl
        split at h
        · rename_i hc
          cases h
          obtain ⟨xs, n', rfl, _, hlen, hxl, hf⟩ := DataW.trod_struct ht hx
          have key : ∀ (r : List Field) (off : Nat) (l : List Lf) (i : Nat), leavesF (leaves P m) P off r = some l → (∀ j f, r[j]? = some f → fs[i + j]? = some f) → off + l.length ≤ cs.length → Leafs enc P w base spare held l ((cs.drop off).take l.length) := by
            intro r
            induction r with
            | nil =>
              intro off l i h _ _
              simp only [leavesF, Option.some.injEq] at h
              subst h
              simp [Leafs]
            | cons f r ihr =>
              intro off l i h hfs hle
              unfold leavesF at h
              split at h
              · rename_i l1 hl1
                split at h
                · rename_i hc1
                  obtain ⟨l2, hl2, rfl⟩ := Option.map_eq_some_iff.1 h
                  have hfi := hfs 0 f rfl
                  rw [Nat.add_zero] at hfi
                  have h1 := hf i f hfi
                  have hlt : i < xs.length := by rw [hxl]; exact (Array.getElem?_eq_some_iff.1 hfi).1
                  rw [List.getElem?_eq_getElem hlt] at h1
                  have h2 := ih _ _ hl1 _ _ _ h1
                  rw [hc1.1, hc1.2] at h2
                  simp only [List.length_append] at hle ⊢
                  refine Leafs.append ?_ ?_
                  · rw [List.take_take, Nat.min_eq_left (by omega)]
                    exact h2
                  · rw [List.drop_take, List.drop_drop, Nat.add_sub_cancel_left]
                    exact ihr _ _ (i + 1) hl2 (fun j g hj => by
                      have := hfs (j + 1) g (by simpa using hj)
                      rwa [show i + (j + 1) = i + 1 + j by omega] at this) (by omega)
                · cases h
              · cases h
          have := key fs.toList 0 _ 0 hl (fun j f hj => by simpa using hj) (by omega)
          rw [List.drop_zero, List.take_of_length_le (by omega)] at this
          exact this
        · cases h
      · cases h
    · rename_i q e ht
      split at h
      · rename_i l hl
        split at h
        · rename_i hc
          have h := Option.some.inj h
          subst h
          obtain ⟨xs, n', rfl, _, hlen, hxl, hf⟩ := DataW.trod_array ht hx
          have key : ∀ (k i : Nat), i + k = q → Leafs enc P w base spare held (leavesA l k) ((cs.drop (i * l.length)).take (leavesA l k).length) := by
            intro k
            induction k with
            | zero => intro i _; simp [leavesA, Leafs]
            | succ k ihk =>
              intro i hi
              have h1 := hf i (by omega)
              have hlt : i < xs.length := by omega
              rw [List.getElem?_eq_getElem hlt] at h1
              have h2 := ih _ _ hl _ _ _ h1
              rw [hc.1] at h2
              simp only [leavesA, List.length_append]
              refine Leafs.append ?_ ?_
              · rw [List.take_take, Nat.min_eq_left (by omega)]
                exact h2
              · rw [List.drop_take, List.drop_drop, Nat.add_sub_cancel_left]
                have := ihk (i + 1) (by omega)
                rw [Nat.add_mul, Nat.one_mul] at this
                exact this
          have := key q 0 (by omega)
          rw [Nat.zero_mul, List.drop_zero, List.take_of_length_le (by omega)] at this
          exact this
        · cases h
      · cases h
    · cases h
end
end Go.Proofs.YtiinipcmghhacaaDoor.X
