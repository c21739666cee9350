/- What a listed variable holds. -/
import Derived.Test.YtiinipcmghhacaaDoorX11
set_option linter.unusedVariables false
set_option linter.unusedSimpArgs false
namespace Go.Proofs.YtiinipcmghhacaaDoor.X
open Go
/-! ## What a laid datum tells of cells -/
mutual
inductive LitR {H : Type} : DataW H → List Value → Prop where
  | int {k : IntKind} {n : Int} : LitR (.lit (.int k n)) [.int k n]
  | bool {b : Bool} : LitR (.lit (.bool b)) [.bool b]
  | str {l : Bs} : LitR (.lit (.string l)) [X.str l]
  | agg {ds : List (DataW H)} {vs : List Value} (h : LitRs ds vs) : LitR (.agg ds) vs
inductive LitRs {H : Type} : List (DataW H) → List Value → Prop where
  | nil : LitRs [] []
  | cons {d : DataW H} {ds : List (DataW H)} {vs us : List Value} (h : LitR d vs) (k : LitRs ds us) : LitRs (d :: ds) (vs ++ us)
end
section
variable {H : Type} {enc : TypeId × Value → H} {P : Program} {w : World} {base : Nat} {spare : Nat → Bool} {held : Bool}
theorem lits_of : ∀ (m : Nat) (t : TypeId) (ls : List Lf), leaves P m t = some ls → ∀ (n : Nat) (cs : List Value) (x : DataW H × List MemPlace), DataW.trod enc P w base spare held n t cs = some x → ∀ vs, LitR x.1 vs → cs = vs := by
  intro m
  induction m with
  | zero => intro t ls h; simp [leaves] at h
  | succ m ih =>
    intro t ls h n cs x hx vs hv
    unfold leaves at h
    split at h
    · rename_i ht
      cases n with
      | zero => simp [DataW.trod] at hx
      | succ n =>
        unfold DataW.trod at hx
        rw [ht] at hx
        split at hx <;> simp_all
        subst hx
        cases hv
        rfl
    · rename_i k ht
      cases n with
      | zero => simp [DataW.trod] at hx
      | succ n =>
        unfold DataW.trod at hx
        rw [ht] at hx
        split at hx <;> simp_all
        obtain ⟨⟨rfl, h1⟩, rfl⟩ := hx
        cases hv
        rfl
    · rename_i ht
      cases n with
      | zero => simp [DataW.trod] at hx
      | succ n =>
        unfold DataW.trod at hx
        rw [ht] at hx
        split at hx <;> simp_all
        obtain ⟨_, rfl⟩ := hx
        cases hv
        rfl
    · rename_i e ht
      rcases Deep.open_slice ht hx with ⟨rfl, rfl⟩ | ⟨a, len, cap, m', n', D, Pl, rfl, _, hl, hm, hmm, rfl, hel⟩
      · cases hv
      · cases hv
    · rename_i fs ht
      split at h
      · rename_i l hl
        split at h
        · rename_i hc
          obtain ⟨xs, n', rfl, rfl, hlen, hxl, hf⟩ := DataW.trod_struct ht hx
          have key : ∀ (r : List Field) (off : Nat) (l : List Lf) (i : Nat) (vs : List Value), leavesF (leaves P m) P off r = some l → (∀ j f, r[j]? = some f → fs[i + j]? = some f) → i + r.length = fs.size → off + l.length ≤ cs.length → LitRs ((xs.drop i).map (·.1)) vs → (cs.drop off).take l.length = vs := by
            intro r
            induction r with
            | nil =>
              intro off l i vs h _ hi _ hv
              simp only [leavesF, Option.some.injEq] at h
              subst h
              rw [List.drop_of_length_le (by simp at hi; omega)] at hv
              cases hv
              simp
            | cons f r ihr =>
              intro off l i vs h hfs hi hle hv
              unfold leavesF at h
              split at h
              · rename_i l1 hl1
                split at h
                · rename_i hc1
                  obtain ⟨l2, hl2, rfl⟩ := Option.map_eq_some_iff.1 h
                  have hfi := hfs 0 f rfl
                  rw [Nat.add_zero] at hfi
                  have h1 := hf i f hfi
                  have hlt : i < xs.length := by rw [hxl]; exact (Array.getElem?_eq_some_iff.1 hfi).1
                  rw [List.getElem?_eq_getElem hlt] at h1
                  rw [List.drop_eq_getElem_cons hlt, List.map_cons] at hv
                  cases hv with
                  | @cons _ _ v1 v2 hv1 hv2 =>
                    have h2 := ih _ _ hl1 _ _ _ h1 _ hv1
                    rw [hc1.1, hc1.2] at h2
                    simp only [List.length_append] at hle ⊢
                    have h3 := ihr (off + l1.length) l2 (i + 1) v2 hl2 (fun j g hj => by
                      have := hfs (j + 1) g (by simpa using hj)
                      rwa [show i + (j + 1) = i + 1 + j by omega] at this) (by simp at hi; omega) (by omega) hv2
                    rw [← h2, ← h3, List.take_add, List.drop_drop]
                · cases h
              · cases h
          cases hv with
          | agg hv =>
            have := key fs.toList 0 _ 0 vs hl (fun j f hj => by simpa using hj) (by simp) (by omega) (by simpa using hv)
            rw [List.drop_zero, List.take_of_length_le (by omega)] at this
            exact this
        · cases h
      · cases h
    · rename_i q e ht
      split at h
      · rename_i l hl
        split at h
        · rename_i hc
          obtain ⟨xs, n', rfl, rfl, hlen, hxl, hf⟩ := DataW.trod_array ht hx
          have key : ∀ (k i : Nat) (vs : List Value), i + k = q → LitRs ((xs.drop i).map (·.1)) vs → (cs.drop (i * l.length)).take (leavesA l k).length = vs := by
            intro k
            induction k with
            | zero =>
              intro i vs hi hv
              rw [List.drop_of_length_le (by omega)] at hv
              cases hv
              simp [leavesA]
            | succ k ihk =>
              intro i vs hi hv
              have h1 := hf i (by omega)
              have hlt : i < xs.length := by omega
              rw [List.getElem?_eq_getElem hlt] at h1
              rw [List.drop_eq_getElem_cons hlt, List.map_cons] at hv
              cases hv with
              | @cons _ _ v1 v2 hv1 hv2 =>
                have h2 := ih _ _ hl _ _ _ h1 _ hv1
                rw [hc.1] at h2
                simp only [leavesA, List.length_append]
                have h3 := ihk (i + 1) v2 (by omega) hv2
                rw [Nat.add_mul, Nat.one_mul] at h3
                rw [← h2, ← h3, List.take_add, List.drop_drop]
          cases hv with
          | agg hv =>
            have := key q 0 vs (by omega) (by simpa using hv)
            rw [Nat.zero_mul, List.drop_zero, List.take_of_length_le (by omega)] at this
            exact this
        · cases h
      · cases h
    · cases h
/-- A listed variable's cells. -/
theorem var_at {nm : String} {g : Nat} {cs : Array Value} (hg : P.globalNamed nm = some g) (hv : w.var? P nm = some cs) : CellsAt (hp w) g 0 cs.toList := by
  intro k v hk
  have h2 : w.cell? ⟨g, k, none⟩ = some v := by
    rw [World.var?_cell hg hv k]
    simpa using hk
  unfold World.cell? at h2
  unfold Heap.cell hp
  dsimp only at h2 ⊢
  rw [Nat.zero_add]
  cases hb : w.heap[g]? with
  | none => simp [hb] at h2
  | some o => cases o <;> simp_all
end
end Go.Proofs.YtiinipcmghhacaaDoor.X
